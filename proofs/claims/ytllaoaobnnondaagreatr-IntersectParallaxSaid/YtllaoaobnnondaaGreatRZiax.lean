/- Matrices in memory; made matrix: unit, quotient, subtract Drawn regions whose order forks more than once: what is left of a region as an end. -/
import Derived.Test.YtllaoaobnnondaaGreatRZiaw
import Derived.Test.YtllaoaobnnondaaGreatRZiao
set_option linter.unusedSimpArgs false
set_option linter.unusedVariables false
namespace Go.Proofs.YtllaoaobnnondaaGreatR
open Go Go.Fx
/-- four cells -/
structure C4 where
  a : Value
  b : Value
  c : Value
  d : Value
abbrev e4 (x : C4) : List Value := [x.a, x.b, x.c, x.d]
instance : Inhabited C4 := ⟨⟨.bool false, .slice none 0 0, .bool false, .slice none 0 0⟩⟩
instance : Sized e4 4 := ⟨fun _ => rfl⟩
abbrev z4 : C4 := ⟨.bool false, .slice none 0 0, .bool false, .slice none 0 0⟩
abbrev t4 (e : RE) : C4 := ⟨.bool (B (e.q.num < 0)), .slice e.p1 (gr e.q.num.natAbs).length e.c1, .bool (B ((e.q.den : Int) < 0)), .slice e.p2 (gr (e.q.den : Int).natAbs).length e.c2⟩
theorem recs_t4 (es : List RE) : recs e4 (es.map t4) = recs eR es := by
  induction es with
  | nil => rfl
  | cons x r ih =>
    have h1 : recs e4 ((x :: r).map t4) = e4 (t4 x) ++ recs e4 (r.map t4) := rfl
    have h2 : recs eR (x :: r) = eR x ++ recs eR r := rfl
    rw [h1, h2, ih]
/-- a header -/
structure HD where
  p : Option Addr
  n : Nat
  c : Nat
instance : Inhabited HD := ⟨⟨none, 0, 0⟩⟩
abbrev eH (h : HD) : List Value := [.slice h.p h.n h.c]
instance : Sized eH 1 := ⟨fun _ => rfl⟩
/-- a row that is owned -/
structure MR where
  b : Nat
  es : List RE
instance : Inhabited MR := ⟨⟨0, []⟩⟩
abbrev hdM (r : MR) : HD := ⟨some ⟨r.b, 0, none⟩, r.es.length, r.es.length⟩
abbrev eM (r : MR) : List Value := [.slice (some ⟨r.b, 0, none⟩) r.es.length r.es.length]
instance : Sized eM 1 := ⟨fun _ => rfl⟩
abbrev entM (r : MR) : Ent := .blk r.b (recs eR r.es) 26
theorem recs_hdM (rows : List MR) : recs eH (rows.map hdM) = recs eM rows := by
  induction rows with
  | nil => rfl
  | cons x r ih =>
    have h1 : recs eH ((x :: r).map hdM) = eH (hdM x) ++ recs eH (r.map hdM) := rfl
    have h2 : recs eM (x :: r) = eM x ++ recs eM r := rfl
    rw [h1, h2, ih]
/-- the numbers of owned rows -/
structure AllM (rows : List MR) (k : Nat) (X : List Nat) (w : World) : Prop where
  go : ∀ r ∈ rows, ∀ e ∈ r.es, IsR e k X w
abbrev allM (rows : List MR) (k : Nat) : Imm := AllM rows k
instance (rows : List MR) (k : Nat) : Fx.Good (AllM rows k) := ⟨fun X Y w w' h he hY => ⟨fun r hr e hm => Fx.Good.go (φ := IsR _ _) X Y w w' (h.go r hr e hm) he hY⟩⟩
theorem Hv.snoc {I : List Imm} {es : List RE} {e : RE} {k : Nat} (h1 : allR es k ∈ I) (h2 : isR e k ∈ I) : Hv I (allR (es ++ [e]) k) := ⟨fun X w hw => ⟨fun x hx => by
  rcases List.mem_append.1 hx with hx | hx
  · exact (hw _ h1 : AllR es k X w).go x hx
  · rw [List.mem_singleton.1 hx]; exact hw _ h2⟩⟩
theorem Hv.nilR {I : List Imm} {k : Nat} : Hv I (allR [] k) := ⟨fun X w _ => ⟨fun x hx => by simp at hx⟩⟩
theorem Hv.nilM {I : List Imm} {k : Nat} : Hv I (allM [] k) := ⟨fun X w _ => ⟨fun x hx => by simp at hx⟩⟩
theorem Hv.snocM {I : List Imm} {rows : List MR} {r : MR} {k : Nat} (h1 : allM rows k ∈ I) (h2 : allR r.es k ∈ I) : Hv I (allM (rows ++ [r]) k) := ⟨fun X w hw => ⟨fun x hx => by
  rcases List.mem_append.1 hx with hx | hx
  · exact (hw _ h1 : AllM rows k X w).go x hx
  · rw [List.mem_singleton.1 hx]; exact (hw _ h2 : AllR r.es k X w).go⟩⟩
theorem gt_mid {α : Type} [Inhabited α] {A B : List α} {x : α} {i : Int} (h : i = A.length) : gt (A ++ x :: B) i = x := by
  subst h
  rw [gt_get (by simp)]
  simp
theorem st_mid {α : Type} {A B : List α} {x y : α} {i : Int} (h : i = A.length) : st (A ++ x :: B) i y = A ++ y :: B := by
  subst h
  simp [st]
theorem rep_split {α : Type} {n : Nat} {z : α} (h : 0 < n) : List.replicate n z = z :: List.replicate (n - 1) z := by
  obtain ⟨m, rfl⟩ : ∃ m, n = m + 1 := ⟨n - 1, by omega⟩
  rfl
theorem made_recs {α : Type} {enc : α → List Value} {sz : Nat} [h : Sized enc sz] (hsz : 0 < sz) (zz : α) (mm : Nat) : (madeCells (enc zz).toArray (mm * sz)).toList = recs enc (List.replicate mm zz) := by
  have hl : (enc zz).length = sz := h.len zz
  apply List.ext_getElem
  · rw [Array.length_toList, size_madeCells, recs_len, List.length_replicate]
  · intro i h1 h2
    rw [Array.length_toList, size_madeCells] at h1
    have hq : i / sz < mm := by rw [Nat.div_lt_iff_lt_mul hsz]; exact h1
    have hr : i % sz < sz := Nat.mod_lt _ hsz
    have hv : (enc zz)[i % sz]? = some ((enc zz)[i % sz]'(by omega)) := List.getElem?_eq_getElem (by omega)
    have := recs_nat (enc := enc) (List.replicate mm zz) (i / sz) (i % sz) zz _ (by rw [List.getElem?_replicate, if_pos hq]) hv
    rw [Nat.div_add_mod'] at this
    have h3 := (List.getElem?_eq_some_iff.1 this).2
    rw [h3]
    simp [madeCells, hl, hr]
/-- the post of made -/
def MkP (R C : Nat) (F : Nat → Nat → Rat) (k : Nat) (M0 : List Ent) (I0 : List Imm) (v : Value) (M : List Ent) (I : List Imm) : Prop :=
  ∃ (bo : Nat) (rows : List MR), v = .slice (some ⟨bo, 0, none⟩) R R ∧ rows.length = R ∧ (∀ r ∈ rows, r.es.length = C) ∧ (rows.map (fun r => r.es.map (·.q)) = (List.range R).map (fun i => (List.range C).map (F i))) ∧
    M = .blk bo (recs eM rows) 58 :: (rows.map entM ++ M0) ∧ I = allM rows k :: I0
section
variable {P : Program} {n : Nat} {Q : Exit → Act → World → Prop} {G : Env} {X : List Nat} {w0 : World} {M M' : List Ent} {I : List Imm}
theorem ND_perm {ex : Exit} (h : M.Perm M') (k : ND n Q ex G X w0 M' I) : ND n Q ex G X w0 M I := ND_m (fun _ hw => hw.perm h) k
theorem TD_perm {c : Code} (h : M.Perm M') (k : TD P n c Q G X w0 M' I) : TD P n c Q G X w0 M I := TD_m (fun _ hw => hw.perm h) k
theorem RD_perm {ops l : List Oper} {m : Fx.Mode} (h : M.Perm M') (k : RD P n ops Q m l G X w0 M' I) : RD P n ops Q m l G X w0 M I := RD_m (fun _ hw => hw.perm h) k
theorem perm_push {x o : Ent} {A B : List Ent} : (x :: o :: (A ++ B)).Perm (o :: ((A ++ [x]) ++ B)) := by
  refine (List.Perm.swap _ _ _).trans (List.Perm.cons _ ?_)
  rw [List.append_assoc]
  exact List.perm_middle.symm
end
section
variable {X : List Nat} {w0 : World} {M0 : List Ent} {I0 : List Imm}
set_option maxRecDepth 100000 in
set_option maxHeartbeats 1000000 in
theorem mmade_ok {g : FuncId} [FnOk Tryz.prog g] {fs cs : Array Value} {R C k0 : Nat} (hR : R ≤ 100) (hC : C ≤ 200) (F : Nat → Nat → Rat)
    (hg : ∀ M I, (∀ φ ∈ I0, φ ∈ I) → ∀ i j : Nat, i < R → j < C → CD Tryz.prog g (fs.toList ++ [.int .i64 (i : Int), .int .i64 (j : Int)] ++ cs.toList) X w0 M I (RQ (F i j) k0 M I)) :
    CD Tryz.prog 155 [.int .i64 (R : Int), .int .i64 (C : Int), .func (.func g) fs cs] X w0 M0 I0 (MkP R C F k0 M0 I0) := by
  refine enterD3 Tryz.func155 rfl Tryz.ntmps155 rfl ?_
  repeat (refine wXf ?_)
  (refine RD_makeX (R) rfl rfl (by omega) (by omega) (by omega) (by omega) (made_recs (enc := eH) (by decide) ⟨none, 0, 0⟩ R) rfl rfl ?_; intro bo; refine ⟨okF, ?_⟩)
  refine RD_hv (φ := allM [] k0) Hv.nilM ?_
  repeat (refine wXf ?_)
  refine TD_loop [1, 2, 7, 13] rfl (fun k G M I => ∃ (i : Nat) (rows : List MR), i ≤ R ∧ k = R - i ∧ rows.length = i ∧ (∀ r ∈ rows, r.es.length = C) ∧ (rows.map (fun r => r.es.map (·.q)) = (List.range i).map (fun i => (List.range C).map (F i))) ∧ G = [(14, .int .i64 i)] ∧ M = .blk bo (recs eH (rows.map hdM ++ List.replicate (R - i) ⟨none, 0, 0⟩)) 58 :: (rows.map entM ++ M0) ∧ I = allM rows k0 :: I0) (R) _ _ _ subG subF incF (⟨0, [], by omega, by omega, rfl, by simp, by simp, rfl, rfl, rfl⟩) ?_
  rintro k G M I ⟨i, rows, hi, rfl, hrl, hrc, hrF, rfl, rfl, rfl⟩
  by_cases hiR : i < R
  · have hz := rep_split (n := R - i) (z := (⟨none, 0, 0⟩ : HD)) (by omega)
    repeat (refine wXf ?_)
    (refine RD_makeX (C) rfl rfl (by omega) (by omega) (by omega) (by omega) (made_recs (enc := e4) (by decide) z4 C) rfl rfl ?_; intro bi; refine ⟨okF, ?_⟩)
    rw [hz]
    have hlh0 : ((rows.map hdM ++ (⟨none, 0, 0⟩ : HD) :: List.replicate (R - i - 1) ⟨none, 0, 0⟩).length : Int) = R := by simp; omega
    repeat' (first | refine TD_seq ?_ | refine TD_region ?_ | refine TD_ret ?_ | refine TD_skip ?_ | refine TD_label ?_ | refine TD_block ?_ | refine TD_exit ?_ | refine ND_then ?_ | refine ND_thenR ?_ | refine ND_thenE ?_ | refine ND_inN ?_ | refine ND_inR ?_ | refine ND_inE ?_ | refine ND_inO rfl ?_ | refine RD_nil ?_ | (refine RD_isGu ?_; first | refine RD_skip rfl rfl rfl ?_ | (refine RD_isEf rfl rfl ?_; refine RD_skipE rfl rfl rfl okF ?_) | refine RD_grdY rfl rfl (by omega) ?_ | refine RD_grdN rfl rfl (by omega) ?_ | refine RD_grd rfl rfl (fun h => ?_) (fun h => ?_) | (fail_if_success (refine RD_isW rfl ?_); refine RD_grdB rfl rfl (fun h => ?_) (fun h => ?_))) | (refine RD_isUn ?_; refine RD_c rfl (fun _ => Const_notB rfl) rfl rfl ?_) | refine RD_c rfl (fun _ => Const_pure rfl) rfl rfl ?_ | (refine RD_isBi ?_; first | refine RD_c rfl (fun _ => Const_add rfl rfl wF) rfl rfl ?_ | refine RD_c rfl (fun _ => Const_sub rfl rfl wF) rfl rfl ?_ | refine RD_c rfl (fun _ => Const_mul rfl rfl wF) rfl rfl ?_ | refine RD_c rfl (fun _ => Const_quo rfl rfl (by omega) qF) rfl rfl ?_ | refine RD_c rfl (fun _ => Const_rem rfl rfl (by omega) rfl) rfl rfl ?_ | refine RD_c rfl (fun _ => Const_half rfl rfl) rfl rfl ?_ | refine RD_c rfl (fun _ => Const_eqBB rfl rfl) rfl rfl ?_ | refine RD_c rfl (fun _ => Const_neBB rfl rfl) rfl rfl ?_) | (refine RD_isUn ?_; first | refine RD_c rfl (fun _ => Const_neg rfl wF) rfl rfl ?_) | (refine RD_isCv ?_; first | refine RD_c rfl (fun _ => Const_conv rfl wF) rfl rfl ?_) | (refine RD_isCa ?_; first | refine RD_c rfl (fun _ => Const_len rfl) rfl rfl ?_ | refine RD_c rfl (fun _ => Const_minM rfl rfl) rfl rfl ?_ | refine RD_c rfl (fun _ => Const_maxM rfl rfl) rfl rfl ?_ | refine RD_c rfl (fun _ => Const_min3 rfl rfl rfl) rfl rfl ?_) | (refine RD_isFa ?_; first | refine RD_fldP rfl (by decide) rfl rfl ?_ | refine RD_fld rfl (by decide) rfl rfl ?_) | (refine RD_isIx ?_; first | refine RD_ixB rfl rfl bdI rfl rfl ?_ | refine RD_ixI vwF rfl rfl bdI memF posC rfl rfl ?_ | refine RD_ixR vwF rfl rfl bdI memF posC rfl rfl ?_ | refine RD_c rfl (fun _ => Const_indexA rfl rfl bdI) rfl rfl ?_) | (refine RD_isLd ?_; first | refine RD_ldI vwF rfl memF atF rfl rfl ?_ | refine RD_ldR vwF rfl memF atF rfl rfl ?_ | refine RD_ldB vwF rfl memF atF rfl rfl ?_ | refine RD_ldIB vwF rfl memF atF rfl rfl ?_ | refine RD_ldZI vwF rfl memF atZ rfl rfl ?_ | refine RD_ldZR vwF rfl memF atZ rfl rfl ?_ | refine RD_ldZB vwF rfl memF atZ rfl rfl ?_ | refine RD_ldZIB vwF rfl memF atZ rfl rfl ?_) | (refine RD_isFd ?_; first | refine RD_c rfl (fun _ => Const_field1 rfl rfl) rfl rfl ?_ | refine RD_c rfl (fun _ => Const_fieldN rfl) rfl rfl ?_) | (refine TD_isCo ?_; first | refine TD_cond_true rfl ?_ | refine TD_cond_false rfl ?_ | refine TD_yes rfl (by omega) ?_ | refine TD_no rfl (by omega) ?_ | refine TD_dec rfl (fun h => ?_) (fun h => ?_) | refine TD_cond rfl (fun h => ?_) (fun h => ?_)))
    refine RD_st rfl rfl rfl repF (StAt.r1 (⟨some ⟨bi, 0, none⟩, C, C⟩ : HD) (by omega) rfl) rfl rfl ⟨okF, ?_⟩
    rw [st_mid (by simp; omega)]
    obtain ⟨hs, hhs⟩ : ∃ hs, hs = rows.map hdM ++ (⟨some ⟨bi, 0, none⟩, C, C⟩ : HD) :: List.replicate (R - i - 1) ⟨none, 0, 0⟩ := ⟨_, rfl⟩
    rw [← hhs]
    have hgh : gt hs (i : Int) = ⟨some ⟨bi, 0, none⟩, C, C⟩ := by rw [hhs]; exact gt_mid (by simp; omega)
    have hlh : hs.length = R := by rw [hhs]; simp; omega
    have hgp : (gt hs (i : Int)).p = some ⟨bi, 0, none⟩ := by rw [hgh]
    have hgn : (gt hs (i : Int)).n = C := by rw [hgh]
    have hgc : (gt hs (i : Int)).c = C := by rw [hgh]
    repeat (refine wXf ?_)
    rw [hgp, hgn, hgc]
    refine TD_hv (φ := allR [] k0) Hv.nilR ?_
    refine TD_loop [1, 2, 7, 8, 13, 14, 26] rfl (fun k G M I => ∃ (j : Nat) (es : List RE), j ≤ C ∧ k = C - j ∧ es.length = j ∧ es.map (·.q) = (List.range j).map (F i) ∧ G = [(27, .int .i64 j)] ∧ M = .blk bi (recs e4 (es.map t4 ++ List.replicate (C - j) z4)) 26 :: .blk bo (recs eH hs) 58 :: (rows.map entM ++ M0) ∧ I = allR es k0 :: allM rows k0 :: I0) (C) _ _ _ subG subF incF (⟨0, [], by omega, by omega, rfl, rfl, rfl, rfl, rfl⟩) ?_
    rintro k G M I ⟨j, es, hj, rfl, hel, heF, rfl, rfl, rfl⟩
    by_cases hjC : j < C
    · have hz2 := rep_split (n := C - j) (z := z4) (by omega)
      rw [hz2]
      have hl2 : ((es.map t4 ++ z4 :: List.replicate (C - j - 1) z4).length : Int) = C := by simp; omega
      repeat (refine wXf ?_)
      (repeat refine TD_seq ?_); refine TD_drawnJ 1 [0, 1, 2, 3, 4, 5, 6, 7, 8, 9, 10] [1, 1, 1, 1, 1, 0, 0, 0, 0, 0, 0] mixed (by kernel_rfl) ?_
      repeat (refine wXf ?_)
      rw [hgp, hgn, hgc]
      (refine RD_callVS rfl rfl (hg _ _ (fun φ h => List.Mem.tail _ (List.Mem.tail _ h)) i j hiR hjC) rfl rfl rfl ?_; rintro _ _ _ ⟨rfl, e, rfl, he, rfl⟩; refine ⟨okF, ?_⟩)
      repeat' (first | refine TD_seq ?_ | refine TD_region ?_ | refine TD_ret ?_ | refine TD_skip ?_ | refine TD_label ?_ | refine TD_block ?_ | refine TD_exit ?_ | refine ND_then ?_ | refine ND_thenR ?_ | refine ND_thenE ?_ | refine ND_inN ?_ | refine ND_inR ?_ | refine ND_inE ?_ | refine ND_inO rfl ?_ | refine RD_nil ?_ | (refine RD_isGu ?_; first | refine RD_skip rfl rfl rfl ?_ | (refine RD_isEf rfl rfl ?_; refine RD_skipE rfl rfl rfl okF ?_) | refine RD_grdY rfl rfl (by omega) ?_ | refine RD_grdN rfl rfl (by omega) ?_ | refine RD_grd rfl rfl (fun h => ?_) (fun h => ?_) | (fail_if_success (refine RD_isW rfl ?_); refine RD_grdB rfl rfl (fun h => ?_) (fun h => ?_))) | (refine RD_isUn ?_; refine RD_c rfl (fun _ => Const_notB rfl) rfl rfl ?_) | refine RD_c rfl (fun _ => Const_pure rfl) rfl rfl ?_ | (refine RD_isBi ?_; first | refine RD_c rfl (fun _ => Const_add rfl rfl wF) rfl rfl ?_ | refine RD_c rfl (fun _ => Const_sub rfl rfl wF) rfl rfl ?_ | refine RD_c rfl (fun _ => Const_mul rfl rfl wF) rfl rfl ?_ | refine RD_c rfl (fun _ => Const_quo rfl rfl (by omega) qF) rfl rfl ?_ | refine RD_c rfl (fun _ => Const_rem rfl rfl (by omega) rfl) rfl rfl ?_ | refine RD_c rfl (fun _ => Const_half rfl rfl) rfl rfl ?_ | refine RD_c rfl (fun _ => Const_eqBB rfl rfl) rfl rfl ?_ | refine RD_c rfl (fun _ => Const_neBB rfl rfl) rfl rfl ?_) | (refine RD_isUn ?_; first | refine RD_c rfl (fun _ => Const_neg rfl wF) rfl rfl ?_) | (refine RD_isCv ?_; first | refine RD_c rfl (fun _ => Const_conv rfl wF) rfl rfl ?_) | (refine RD_isCa ?_; first | refine RD_c rfl (fun _ => Const_len rfl) rfl rfl ?_ | refine RD_c rfl (fun _ => Const_minM rfl rfl) rfl rfl ?_ | refine RD_c rfl (fun _ => Const_maxM rfl rfl) rfl rfl ?_ | refine RD_c rfl (fun _ => Const_min3 rfl rfl rfl) rfl rfl ?_) | (refine RD_isFa ?_; first | refine RD_fldP rfl (by decide) rfl rfl ?_ | refine RD_fld rfl (by decide) rfl rfl ?_) | (refine RD_isIx ?_; first | refine RD_ixB rfl rfl bdI rfl rfl ?_ | refine RD_ixI vwF rfl rfl bdI memF posC rfl rfl ?_ | refine RD_ixR vwF rfl rfl bdI memF posC rfl rfl ?_ | refine RD_c rfl (fun _ => Const_indexA rfl rfl bdI) rfl rfl ?_) | (refine RD_isLd ?_; first | refine RD_ldI vwF rfl memF atF rfl rfl ?_ | refine RD_ldR vwF rfl memF atF rfl rfl ?_ | refine RD_ldB vwF rfl memF atF rfl rfl ?_ | refine RD_ldIB vwF rfl memF atF rfl rfl ?_ | refine RD_ldZI vwF rfl memF atZ rfl rfl ?_ | refine RD_ldZR vwF rfl memF atZ rfl rfl ?_ | refine RD_ldZB vwF rfl memF atZ rfl rfl ?_ | refine RD_ldZIB vwF rfl memF atZ rfl rfl ?_) | (refine RD_isFd ?_; first | refine RD_c rfl (fun _ => Const_field1 rfl rfl) rfl rfl ?_ | refine RD_c rfl (fun _ => Const_fieldN rfl) rfl rfl ?_) | (refine TD_isCo ?_; first | refine TD_cond_true rfl ?_ | refine TD_cond_false rfl ?_ | refine TD_yes rfl (by omega) ?_ | refine TD_no rfl (by omega) ?_ | refine TD_dec rfl (fun h => ?_) (fun h => ?_) | refine TD_cond rfl (fun h => ?_) (fun h => ?_)))
      refine RD_stN (vs := eR e) rfl rfl rfl (Ones.one e) repF (StAts.r (t4 e) (by omega) rfl) rfl rfl ⟨okF, ?_⟩
      rw [st_mid (by simp; omega)]
      repeat (refine wXf ?_)
      refine ND_hv (φ := allR (es ++ [e]) k0) (Hv.snoc memF memF) ?_
      have e9 : es.map t4 ++ t4 e :: List.replicate (C - j - 1) z4 = (es ++ [e]).map t4 ++ List.replicate (C - (j + 1)) z4 := by simp [Nat.sub_sub]
      rw [e9]
      refine ND_again (C - (j + 1)) _ _ _ (by first | omega | (simp only [List.length_append, List.length_cons, List.length_nil]; omega)) subG subF incF (⟨j + 1, es ++ [e], by omega, rfl, by simp; omega, by simp [heF, List.range_succ, he], rfl, rfl, rfl⟩)
    · obtain rfl : j = C := by omega
      rw [Nat.sub_self, List.replicate_zero, List.append_nil, recs_t4]
      have e8 : hs = (rows ++ [(⟨bi, es⟩ : MR)]).map hdM ++ List.replicate (R - (i + 1)) ⟨none, 0, 0⟩ := by rw [hhs]; simp [hel, Nat.sub_sub]
      repeat (refine wXf ?_)
      rw [e8]
      refine ND_hv (φ := allM (rows ++ [(⟨bi, es⟩ : MR)]) k0) (Hv.snocM memF memF) ?_
      refine ND_perm (M' := .blk bo (recs eH ((rows ++ [(⟨bi, es⟩ : MR)]).map hdM ++ List.replicate (R - (i + 1)) ⟨none, 0, 0⟩)) 58 :: ((rows ++ [(⟨bi, es⟩ : MR)]).map entM ++ M0)) (by rw [List.map_append (f := entM)]; exact perm_push) ?_
      refine ND_again (R - (i + 1)) _ _ _ (by first | omega | (simp only [List.length_append, List.length_cons, List.length_nil]; omega)) subG subF incF (⟨i + 1, rows ++ [(⟨bi, es⟩ : MR)], by omega, rfl, by simp; omega, fun r hr => by rcases List.mem_append.1 hr with h | h; exact hrc r h; rw [List.mem_singleton.1 h]; exact hel, by rw [List.map_append, hrF, List.range_succ, List.map_append]; simp [heF], rfl, rfl, rfl⟩)
  · obtain rfl : i = R := by omega
    have hz : List.replicate (i - i) (⟨none, 0, 0⟩ : HD) = [] := by rw [Nat.sub_self]; rfl
    rw [hz, List.append_nil, recs_hdM]
    repeat (refine wXf ?_)
    refine ND_ret1 (by first | exact .inl rfl | exact .inr rfl) rfl rfl _ _ subF incF (⟨bo, rows, rfl, hrl, hrc, hrF, rfl, rfl⟩)
end
end Go.Proofs.YtllaoaobnnondaaGreatR
namespace Go.Proofs.YtllaoaobnnondaaGreatR
open Go Go.Fx
theorem sign0 (q : Rat) : q.num.sign = 0 ↔ q = 0 := ⟨fun h => Rat.num_eq_zero.1 (Int.sign_eq_zero_iff_zero.1 h), fun h => by rw [h]; rfl⟩
theorem Hv.stR {I : List Imm} {es : List RE} {e : RE} {i : Int} {k : Nat} (h1 : allR es k ∈ I) (h2 : isR e k ∈ I) : Hv I (allR (st es i e) k) := ⟨fun X w hw => ⟨fun x hx => by
  rcases List.mem_or_eq_of_mem_set hx with hx | hx
  · exact (hw _ h1 : AllR es k X w).go x hx
  · rw [hx]; exact hw _ h2⟩⟩
theorem gt_stN {es : List RE} {e : RE} {i t : Nat} (hi : i < es.length) : gt (st es (i : Int) e) (t : Int) = if t = i then e else gt es (t : Int) := by
  rw [gt_st e ⟨by omega, by omega⟩ (by omega)]
  by_cases h : t = i
  · rw [if_pos h, if_pos (by omega)]
  · rw [if_neg h, if_neg (by omega)]
section
variable {X : List Nat} {w0 : World} {M0 : List Ent} {I0 : List Imm}
theorem unit_ok {i j : Int} : CD Tryz.prog 143 [.int .i64 i, .int .i64 j] X w0 M0 I0 (RQ (if i = j then 1 else 0) 0 M0 I0) := by
  have h1 := fun M0 I0 => Whole_ok (X := X) (w0 := w0) (M0 := M0) (I0 := I0) (x := 1) (by decide) (k := 0) (by decide)
  have h0 := fun M0 I0 => Whole_ok (X := X) (w0 := w0) (M0 := M0) (I0 := I0) (x := 0) (by decide) (k := 0) (by decide)
  refine enterD2 Tryz.func143 rfl Tryz.ntmps143 rfl ?_
  refine TD_seq ?_
  refine TD_region ?_
  (refine RD_alloc rfl rfl ?_; intro b2; refine ⟨okF, ?_⟩)
  by_cases h : i = j
  · rw [if_pos h]
    repeat (refine wXf ?_)
    (refine RD_callS rfl (h1 _ _) rfl rfl ?_; rintro _ _ _ ⟨rfl, e, rfl, he, rfl⟩; refine ⟨okF, ?_⟩)
    repeat (refine wXf ?_)
    refine ND_retC (cs := eR e) (.inl rfl) rfl rfl memF rfl M0 (isR e 0 :: I0) subF incF ⟨rfl, e, rfl, he, rfl⟩
  · rw [if_neg h]
    repeat (refine wXf ?_)
    (refine RD_callS rfl (h0 _ _) rfl rfl ?_; rintro _ _ _ ⟨rfl, e, rfl, he, rfl⟩; refine ⟨okF, ?_⟩)
    repeat (refine wXf ?_)
    refine ND_retC (cs := eR e) (.inl rfl) rfl rfl memF rfl M0 (isR e 0 :: I0) subF incF ⟨rfl, e, rfl, he, rfl⟩
theorem quotient_ok {a b : RE} {k m : Nat} (hk : k + m ≤ 500000000) (hb0 : b.q ≠ 0) (ha : Hv I0 (isR a k)) (hb : Hv I0 (isR b m)) :
    CD Tryz.prog 217 [rv a, rv b] X w0 M0 I0 (RQ (a.q / b.q) (k + m) M0 I0) := by
  refine enterD2 Tryz.func217 rfl Tryz.ntmps217 rfl ?_
  refine TD_seq ?_
  refine TD_region ?_
  (refine RD_boxA rfl rfl rfl ?_; intro b1; refine ⟨okF, ?_⟩)
  (refine RD_boxA rfl rfl rfl ?_; intro b2; refine ⟨okF, ?_⟩)
  (refine RD_alloc rfl rfl ?_; intro b3; refine ⟨okF, ?_⟩)
  repeat (refine wXf ?_)
  (refine RD_callS rfl (QDivide_ok hk hb0 ha hb) rfl rfl ?_; rintro _ _ _ ⟨rfl, e, rfl, he, rfl⟩; refine ⟨okF, ?_⟩)
  repeat (refine wXf ?_)
  (refine RD_alloc rfl rfl ?_; intro b4; refine ⟨okF, ?_⟩)
  repeat (refine wXf ?_)
  refine ND_retC (cs := eR e) (.inl rfl) rfl rfl memF rfl M0 (isR e (k + m) :: I0) subF incF ⟨rfl, e, rfl, he, rfl⟩
set_option maxRecDepth 100000 in
set_option maxHeartbeats 1000000 in
theorem subtract_ok {b1 b2 : Nat} {es os : List RE} {κ : RE} {kz h m fr n : Nat} {M1 : List Ent} (hn : n ≤ 1000) (hK : kz + (m + h) + 1 ≤ 400000000) (hes : es.length = n) (hos : os.length = n) (hfr : fr ≤ n)
    (he : allR es kz ∈ I0) (ho : allR os h ∈ I0) (hκ : isR κ m ∈ I0) (hM : M0 = .blk b1 (recs eR es) 26 :: .blk b2 (recs eR os) 26 :: M1) :
    CD Tryz.prog 216 [.slice (some ⟨b1, 0, none⟩) n n, .slice (some ⟨b2, 0, none⟩) n n, rv κ, .int .i64 (fr : Int)] X w0 M0 I0 (fun v M I => v = .tuple #[] ∧ ∃ es' : List RE, es'.length = n ∧ (∀ t : Nat, t < n → (gt es' (t : Int)).q = if t < fr then (gt es (t : Int)).q else (gt es (t : Int)).q - κ.q * (gt os (t : Int)).q) ∧ M = .blk b1 (recs eR es') 26 :: .blk b2 (recs eR os) 26 :: M1 ∧ I = allR es' (kz + (m + h) + 1) :: I0) := by
  subst hM
  refine enterD4 Tryz.func216 rfl Tryz.ntmps216 rfl ?_
  refine TD_seq ?_
  refine TD_region ?_
  (refine RD_boxA rfl rfl rfl ?_; intro bk; refine ⟨okF, ?_⟩)
  repeat (refine wXf ?_)
  refine TD_hv (φ := allR es (kz + (m + h) + 1)) (Hv.allMono he (by omega)) ?_
  refine TD_loop [0, 1, 6] rfl (fun k G M I => ∃ (j : Nat) (e1 : List RE), fr ≤ j ∧ j ≤ n ∧ k = n - j ∧ e1.length = n ∧ (∀ t : Nat, j ≤ t → gt e1 (t : Int) = gt es (t : Int)) ∧ (∀ t : Nat, t < j → (gt e1 (t : Int)).q = if t < fr then (gt es (t : Int)).q else (gt es (t : Int)).q - κ.q * (gt os (t : Int)).q) ∧ G = [(8, .int .i64 j)] ∧ M = .blk bk (eR κ) 26 :: .blk b1 (recs eR e1) 26 :: .blk b2 (recs eR os) 26 :: M1 ∧ I = allR e1 (kz + (m + h) + 1) :: I0) (n - fr) _ _ _ subG subF incF (⟨fr, es, by omega, hfr, rfl, hes, fun _ _ => rfl, fun t ht => by rw [if_pos ht], rfl, rfl, rfl⟩) ?_
  rintro kk G M I ⟨j, e1, hj1, hj, rfl, hel, hkeep, hdone, rfl, rfl, rfl⟩
  by_cases hjn : j < n
  · have hgj : gt e1 (j : Int) = gt es (j : Int) := hkeep j (Nat.le_refl _)
    have hvj : Hv (allR e1 (kz + (m + h) + 1) :: I0) (isR (gt os (j : Int)) h) := (Hv.all (i := (j : Int)) ho (by omega) (Nat.le_refl _)).cons
    have hve : Hv (allR e1 (kz + (m + h) + 1) :: I0) (isR (gt e1 (j : Int)) kz) := by rw [hgj]; exact (Hv.all (i := (j : Int)) he (by omega) (Nat.le_refl _)).cons
    have hvk : Hv (allR e1 (kz + (m + h) + 1) :: I0) (isR κ m) := (Hv.mem hκ).cons
    have hS := QSign_ok (X := X) (w0 := w0) (M0 := .blk bk (eR κ) 26 :: .blk b1 (recs eR e1) 26 :: .blk b2 (recs eR os) 26 :: M1) (e := gt os (j : Int)) (k := h) (by omega) hvj
    by_cases h0 : (gt os (j : Int)).q = 0
    · rw [(sign0 _).2 h0] at hS
      repeat (refine wXf ?_)
      (refine RD_callS rfl (hS) rfl rfl ?_; rintro _ _ _ ⟨rfl, rfl, rfl⟩; refine ⟨okF, ?_⟩)
      repeat (refine wXf ?_)
      refine ND_again (n - (j + 1)) _ _ _ (by first | omega | (simp only [List.length_append, List.length_cons, List.length_nil]; omega)) subG subF incF (⟨j + 1, e1, by omega, by omega, rfl, hel, fun t ht => hkeep t (by omega), fun t ht => ?_, rfl, rfl, rfl⟩)
      by_cases htj : t = j
      · subst htj
        rw [if_neg (by omega), hgj, h0, Rat.mul_zero, Rat.sub_eq_add_neg, Rat.neg_zero, Rat.add_zero]
      · exact hdone t (by omega)
    · have hs0 : ¬ (gt os (j : Int)).q.num.sign = 0 := fun h => h0 ((sign0 _).1 h)
      generalize (gt os (j : Int)).q.num.sign = sg at *
      repeat (refine wXf ?_)
      (refine RD_callS rfl (hS) rfl rfl ?_; rintro _ _ _ ⟨rfl, rfl, rfl⟩; refine ⟨okF, ?_⟩)
      repeat (refine wXf ?_)
      (repeat refine TD_seq ?_); refine TD_drawnJ 2 [0, 1, 2, 3, 4, 5, 6, 7, 8, 9, 10, 11, 12, 13, 14] [2, 2, 2, 2, 2, 1, 1, 2, 2, 2, 1, 0, 0, 0, 0] mixed (by kernel_rfl) ?_
      repeat (refine wXf ?_)
      (refine RD_callS rfl (QMul_ok (k := m) (m := h) (by omega) hvk hvj) rfl rfl ?_; rintro _ _ _ ⟨rfl, e2, rfl, he2, rfl⟩; refine ⟨okF, ?_⟩)
      (refine RD_callS rfl (QSub_ok (k := kz) (m := m + h) (by omega) hve.cons (Hv.mem (List.Mem.head _))) rfl rfl ?_; rintro _ _ _ ⟨rfl, e3, rfl, he3, rfl⟩; refine ⟨okF, ?_⟩)
      repeat' (first | refine TD_seq ?_ | refine TD_region ?_ | refine TD_ret ?_ | refine TD_skip ?_ | refine TD_label ?_ | refine TD_block ?_ | refine TD_exit ?_ | refine ND_then ?_ | refine ND_thenR ?_ | refine ND_thenE ?_ | refine ND_inN ?_ | refine ND_inR ?_ | refine ND_inE ?_ | refine ND_inO rfl ?_ | refine RD_nil ?_ | (refine RD_isGu ?_; first | refine RD_skip rfl rfl rfl ?_ | (refine RD_isEf rfl rfl ?_; refine RD_skipE rfl rfl rfl okF ?_) | refine RD_grdY rfl rfl (by omega) ?_ | refine RD_grdN rfl rfl (by omega) ?_ | refine RD_grd rfl rfl (fun h => ?_) (fun h => ?_) | (fail_if_success (refine RD_isW rfl ?_); refine RD_grdB rfl rfl (fun h => ?_) (fun h => ?_))) | (refine RD_isUn ?_; refine RD_c rfl (fun _ => Const_notB rfl) rfl rfl ?_) | refine RD_c rfl (fun _ => Const_pure rfl) rfl rfl ?_ | (refine RD_isBi ?_; first | refine RD_c rfl (fun _ => Const_add rfl rfl wF) rfl rfl ?_ | refine RD_c rfl (fun _ => Const_sub rfl rfl wF) rfl rfl ?_ | refine RD_c rfl (fun _ => Const_mul rfl rfl wF) rfl rfl ?_ | refine RD_c rfl (fun _ => Const_quo rfl rfl (by omega) qF) rfl rfl ?_ | refine RD_c rfl (fun _ => Const_rem rfl rfl (by omega) rfl) rfl rfl ?_ | refine RD_c rfl (fun _ => Const_half rfl rfl) rfl rfl ?_ | refine RD_c rfl (fun _ => Const_eqBB rfl rfl) rfl rfl ?_ | refine RD_c rfl (fun _ => Const_neBB rfl rfl) rfl rfl ?_) | (refine RD_isUn ?_; first | refine RD_c rfl (fun _ => Const_neg rfl wF) rfl rfl ?_) | (refine RD_isCv ?_; first | refine RD_c rfl (fun _ => Const_conv rfl wF) rfl rfl ?_) | (refine RD_isCa ?_; first | refine RD_c rfl (fun _ => Const_len rfl) rfl rfl ?_ | refine RD_c rfl (fun _ => Const_minM rfl rfl) rfl rfl ?_ | refine RD_c rfl (fun _ => Const_maxM rfl rfl) rfl rfl ?_ | refine RD_c rfl (fun _ => Const_min3 rfl rfl rfl) rfl rfl ?_) | (refine RD_isFa ?_; first | refine RD_fldP rfl (by decide) rfl rfl ?_ | refine RD_fld rfl (by decide) rfl rfl ?_) | (refine RD_isIx ?_; first | refine RD_ixB rfl rfl bdI rfl rfl ?_ | refine RD_ixI vwF rfl rfl bdI memF posC rfl rfl ?_ | refine RD_ixR vwF rfl rfl bdI memF posC rfl rfl ?_ | refine RD_c rfl (fun _ => Const_indexA rfl rfl bdI) rfl rfl ?_) | (refine RD_isLd ?_; first | refine RD_ldI vwF rfl memF atF rfl rfl ?_ | refine RD_ldR vwF rfl memF atF rfl rfl ?_ | refine RD_ldB vwF rfl memF atF rfl rfl ?_ | refine RD_ldIB vwF rfl memF atF rfl rfl ?_ | refine RD_ldZI vwF rfl memF atZ rfl rfl ?_ | refine RD_ldZR vwF rfl memF atZ rfl rfl ?_ | refine RD_ldZB vwF rfl memF atZ rfl rfl ?_ | refine RD_ldZIB vwF rfl memF atZ rfl rfl ?_) | (refine RD_isFd ?_; first | refine RD_c rfl (fun _ => Const_field1 rfl rfl) rfl rfl ?_ | refine RD_c rfl (fun _ => Const_fieldN rfl) rfl rfl ?_) | (refine TD_isCo ?_; first | refine TD_cond_true rfl ?_ | refine TD_cond_false rfl ?_ | refine TD_yes rfl (by omega) ?_ | refine TD_no rfl (by omega) ?_ | refine TD_dec rfl (fun h => ?_) (fun h => ?_) | refine TD_cond rfl (fun h => ?_) (fun h => ?_)))
      refine RD_stN (vs := eR e3) rfl rfl rfl (Ones.one e3) repF (StAts.r e3 (by omega) rfl) rfl rfl ⟨okF, ?_⟩
      repeat (refine wXf ?_)
      refine ND_hv (φ := allR (st e1 (j : Int) e3) (kz + (m + h) + 1)) (Hv.stR memF memF) ?_
      refine ND_again (n - (j + 1)) _ _ _ (by first | omega | (simp only [List.length_append, List.length_cons, List.length_nil]; omega)) subG subF incF (⟨j + 1, st e1 (j : Int) e3, by omega, by omega, rfl, by rw [st_len]; exact hel, fun t ht => ?_, fun t ht => ?_, rfl, rfl, rfl⟩)
      · rw [gt_stN (by omega), if_neg (by omega)]; exact hkeep t (by omega)
      · rw [gt_stN (by omega)]
        by_cases htj : t = j
        · subst htj
          rw [if_pos rfl, if_neg (by omega), he3, he2, hgj]
        · rw [if_neg htj]; exact hdone t (by omega)
  · obtain rfl : j = n := by omega
    repeat (refine wXf ?_)
    refine ND_ret0 (by first | exact .inl rfl | exact .inr rfl) rfl _ _ subF incF (⟨rfl, e1, hel, hdone, rfl, rfl⟩)
end
end Go.Proofs.YtllaoaobnnondaaGreatR
namespace Go.Fx
def Rest (P : Program) (l : List Oper) (Q : Exit → Act → World → Prop) (Cs : Nat → World → Prop) (fuel k : Nat) (listed : Array Bool) : Exit → Act → World → Prop
  | .normal, a, w => wpAnyC P l.toArray Q Cs fuel k listed a w
  | _, _, _ => False
section
variable {P : Program} {n : Nat} {Q : Exit → Act → World → Prop} {G : Env} {w : World} {l : List Oper} {Cs : Nat → World → Prop}
theorem N_restPre {fuel fuel' k : Nat} {listed listed' : Array Bool} (p ms : List Nat) (hm : ∀ s w, Cs s w → Cs (s + 1) w) (hs : Region.noSelect l.toArray = true) (hok : orderPre l.toArray p ms listed = some listed') (hf : fuel' = fuel + p.length) (hsz : listed.size = l.toArray.size) (hC : Cs k w)
    (h : R P n l (Rest P l Q Cs fuel (k + cntE l.toArray p) listed') (.any Cs k ms) (pick l p) G w) : N n (Rest P l Q Cs fuel' k listed) .normal G w := ⟨fun a ha => by
  subst hf
  exact any_prefix hm hs p ms k listed a w hC hsz hok (fun _ _ _ _ hq => hq) (h.go a ha)⟩
theorem N_restEnd {fuel k : Nat} {listed : Array Bool} (p ms : List Nat) (hm : ∀ s w, Cs s w → Cs (s + 1) w) (hs : Region.noSelect l.toArray = true) (hok : orderOk l.toArray p ms listed = true) (hf : fuel = p.length) (hsz : listed.size = l.toArray.size) (hC : Cs k w)
    (h : R P n l Q (.any Cs k ms) (pick l p) G w) : N n (Rest P l Q Cs fuel k listed) .normal G w := ⟨fun a ha => by
  subst hf
  exact any_of_order hm hs p ms k listed a w hC hsz hok (h.go a ha)⟩
theorem rest_one {fuel k i : Nat} {listed : Array Bool} {o : Oper} {a : Act} (hi : l.toArray[i]? = some o) (hk : freeK o.op = false)
    (h : wpM P l.toArray (Rest P l Q Cs fuel (k + 1) (listed.setIfInBounds i true)) (.any Cs k []) (pick l [i]) a w) :
    wpOp P l.toArray QF i (fun a' w' => Cs (k + eAt l.toArray i) w' ∧ wpAnyC P l.toArray Q Cs fuel (k + eAt l.toArray i) (listed.setIfInBounds i true) a' w') a w := by
  have hg : nth l i = o := nth_eq l i o (by simpa using hi)
  simp only [pick, hg] at h
  rw [eAt_eff hi hk]
  unfold wpOp
  simp only [hi]
  by_cases hw : Region.wanted o (yielded l.toArray a.tmps) = true
  · rw [if_pos hw]
    rcases h.1 hw with ⟨hk2, _⟩ | ⟨_, hk2⟩
    · rw [hk] at hk2; cases hk2
    · exact .inl (Oper.wp_mono (fun a' w' ⟨h1, h2⟩ => ⟨h1, h2⟩) hk2)
  · rw [if_neg hw]
    obtain ⟨hh1, hh2⟩ := h.2 (by simpa using hw)
    simp only [Mode.held, hk, cond_false] at hh1
    exact ⟨hh1, hh2⟩
def effB (ops : Array Oper) (i : Nat) : Bool :=
  match ops[i]? with
  | some o => !freeK o.op
  | none => false
theorem N_restFork {fuel k i j : Nat} {listed : Array Bool} (hr : (Region.ready .any l.toArray listed == [i, j] && effB l.toArray i && effB l.toArray j) = true)
    (h1 : R P n l (Rest P l Q Cs fuel (k + 1) (listed.setIfInBounds i true)) (.any Cs k []) (pick l [i]) G w)
    (h2 : R P n l (Rest P l Q Cs fuel (k + 1) (listed.setIfInBounds j true)) (.any Cs k []) (pick l [j]) G w) : N n (Rest P l Q Cs (fuel + 1) k listed) .normal G w := ⟨fun a ha => by
  simp only [Bool.and_eq_true, beq_iff_eq] at hr
  obtain ⟨⟨hr, e1⟩, e2⟩ := hr
  have get : ∀ x, effB l.toArray x = true → ∃ o, l.toArray[x]? = some o ∧ freeK o.op = false := fun x hx => by
    unfold effB at hx
    cases ho : l.toArray[x]? with
    | none => simp [ho] at hx
    | some o => simp [ho] at hx; exact ⟨o, rfl, hx⟩
  obtain ⟨o1, ho1, hk1⟩ := get i e1
  obtain ⟨o2, ho2, hk2⟩ := get j e2
  refine ⟨fun h0 => (by rw [hr] at h0; cases h0), fun x hx => ?_⟩
  rw [hr] at hx
  simp only [List.mem_cons, List.not_mem_nil, or_false] at hx
  rcases hx with rfl | rfl
  · exact rest_one ho1 hk1 (h1.go a ha)
  · exact rest_one ho2 hk2 (h2.go a ha)⟩
theorem N_restFork3 {fuel k i j m : Nat} {listed : Array Bool} (hr : (Region.ready .any l.toArray listed == [i, j, m] && effB l.toArray i && effB l.toArray j && effB l.toArray m) = true)
    (h1 : R P n l (Rest P l Q Cs fuel (k + 1) (listed.setIfInBounds i true)) (.any Cs k []) (pick l [i]) G w)
    (h2 : R P n l (Rest P l Q Cs fuel (k + 1) (listed.setIfInBounds j true)) (.any Cs k []) (pick l [j]) G w)
    (h3 : R P n l (Rest P l Q Cs fuel (k + 1) (listed.setIfInBounds m true)) (.any Cs k []) (pick l [m]) G w) : N n (Rest P l Q Cs (fuel + 1) k listed) .normal G w := ⟨fun a ha => by
  simp only [Bool.and_eq_true, beq_iff_eq] at hr
  obtain ⟨⟨⟨hr, e1⟩, e2⟩, e3⟩ := hr
  have get : ∀ x, effB l.toArray x = true → ∃ o, l.toArray[x]? = some o ∧ freeK o.op = false := fun x hx => by
    unfold effB at hx
    cases ho : l.toArray[x]? with
    | none => simp [ho] at hx
    | some o => simp [ho] at hx; exact ⟨o, rfl, hx⟩
  obtain ⟨o1, ho1, hk1⟩ := get i e1
  obtain ⟨o2, ho2, hk2⟩ := get j e2
  obtain ⟨o3, ho3, hk3⟩ := get m e3
  refine ⟨fun h0 => (by rw [hr] at h0; cases h0), fun x hx => ?_⟩
  rw [hr] at hx
  simp only [List.mem_cons, List.not_mem_nil, or_false] at hx
  rcases hx with rfl | rfl | rfl
  · exact rest_one ho1 hk1 (h1.go a ha)
  · exact rest_one ho2 hk2 (h2.go a ha)
  · exact rest_one ho3 hk3 (h3.go a ha)⟩
theorem T_rest {id : Nat} (Cs : Nat → World → Prop) (hx : P.follows .mixedOrders = true) (h : N n (Rest P l Q Cs l.length 0 (Array.replicate l.length false)) .normal G w.drew) : T P n (.region id l.toArray true) Q G w := ⟨fun a ha => by
  refine wp_region_any hx ?_
  have := h.go a ha
  have e : l.toArray.size = l.length := by simp
  rw [e]
  exact wpAny_of_C _ _ _ _ _ this⟩
end
section
variable {P : Program} {n : Nat} {Q : Exit → Act → World → Prop} {G : Env} {X : List Nat} {w0 : World} {M M1 : List Ent} {I I1 : List Imm} {l : List Oper}
theorem TD_rest {id : Nat} (M1 : List Ent) (I1 : List Imm) (hx : P.follows .mixedOrders = true) (h : ND n (Rest P l Q (Cst X w0 M1 I1) l.length 0 (Array.replicate l.length false)) .normal G X w0 M I) : TD P n (.region id l.toArray true) Q G X w0 M I :=
  ⟨fun w hw => T_rest (Cst X w0 M1 I1) hx (h.go w.drew hw.drew)⟩
theorem ND_restPre {fuel fuel' k : Nat} {listed listed' : Array Bool} (p ms : List Nat) (hM : SubP M M1) (hI : Inc I I1) (hs : Region.noSelect l.toArray = true) (hok : orderPre l.toArray p ms listed = some listed') (hf : fuel' = fuel + p.length) (hsz : listed.size = l.toArray.size)
    (h : RD P n l (Rest P l Q (Cst X w0 M1 I1) fuel (k + cntE l.toArray p) listed') (.any (Cst X w0 M1 I1) k ms) (pick l p) G X w0 M I) : ND n (Rest P l Q (Cst X w0 M1 I1) fuel' k listed) .normal G X w0 M I :=
  ⟨fun w hw => N_restPre p ms (fun _ _ h => h) hs hok hf hsz (hw.weak hM hI) (h.go w hw)⟩
theorem ND_restEnd {fuel k : Nat} {listed : Array Bool} (p ms : List Nat) (hM : SubP M M1) (hI : Inc I I1) (hs : Region.noSelect l.toArray = true) (hok : orderOk l.toArray p ms listed = true) (hf : fuel = p.length) (hsz : listed.size = l.toArray.size)
    (h : RD P n l Q (.any (Cst X w0 M1 I1) k ms) (pick l p) G X w0 M I) : ND n (Rest P l Q (Cst X w0 M1 I1) fuel k listed) .normal G X w0 M I :=
  ⟨fun w hw => N_restEnd p ms (fun _ _ h => h) hs hok hf hsz (hw.weak hM hI) (h.go w hw)⟩
theorem ND_restFork {fuel k i j : Nat} {listed : Array Bool} (hr : (Region.ready .any l.toArray listed == [i, j] && effB l.toArray i && effB l.toArray j) = true)
    (h1 : RD P n l (Rest P l Q (Cst X w0 M1 I1) fuel (k + 1) (listed.setIfInBounds i true)) (.any (Cst X w0 M1 I1) k []) (pick l [i]) G X w0 M I)
    (h2 : RD P n l (Rest P l Q (Cst X w0 M1 I1) fuel (k + 1) (listed.setIfInBounds j true)) (.any (Cst X w0 M1 I1) k []) (pick l [j]) G X w0 M I) : ND n (Rest P l Q (Cst X w0 M1 I1) (fuel + 1) k listed) .normal G X w0 M I :=
  ⟨fun w hw => N_restFork hr (h1.go w hw) (h2.go w hw)⟩
theorem ND_restFork3 {fuel k i j m : Nat} {listed : Array Bool} (hr : (Region.ready .any l.toArray listed == [i, j, m] && effB l.toArray i && effB l.toArray j && effB l.toArray m) = true)
    (h1 : RD P n l (Rest P l Q (Cst X w0 M1 I1) fuel (k + 1) (listed.setIfInBounds i true)) (.any (Cst X w0 M1 I1) k []) (pick l [i]) G X w0 M I)
    (h2 : RD P n l (Rest P l Q (Cst X w0 M1 I1) fuel (k + 1) (listed.setIfInBounds j true)) (.any (Cst X w0 M1 I1) k []) (pick l [j]) G X w0 M I)
    (h3 : RD P n l (Rest P l Q (Cst X w0 M1 I1) fuel (k + 1) (listed.setIfInBounds m true)) (.any (Cst X w0 M1 I1) k []) (pick l [m]) G X w0 M I) : ND n (Rest P l Q (Cst X w0 M1 I1) (fuel + 1) k listed) .normal G X w0 M I :=
  ⟨fun w hw => N_restFork3 hr (h1.go w hw) (h2.go w hw) (h3.go w hw)⟩
end
end Go.Fx

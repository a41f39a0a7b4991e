/- matrix.Inverse. Equality of lists and matrices; matrices of integers; the chapter's example. Matrices of integers; the chapter's example. The chapter's example. Arguments, opened: slices of records, structs with slices. Arguments opened: matrices, lists, fractions, wherever they lie. What the laws of matrices share. -/
import Derived.Test.YtllaoaobnnondaaGreatRZibd
import Derived.Test.YtllaoaobnnondaaGreatRZibb
import Derived.Test.YtllaoaobnnondaaGreatRZiab
import Derived.Test.YtllaoaobnnondaaGreatRZiae
set_option linter.unusedSimpArgs false
set_option linter.unusedVariables false
namespace Go.Proofs.YtllaoaobnnondaaGreatR
open Go Go.Fx
def besI (n : Nat) (A : Mt) : Mt := mkM n (n + n) (fun i j => if j < n then at2 A i j else dlt i (j - n))
def invM (n : Nat) (A : Mt) : Mt := mkM n n (fun i j => at2 (redN (besI n A) n).1 i (n + j))
theorem dim_mkM {R C : Nat} {F : Nat → Nat → Rat} : dimL (mkM R C F) R C := ⟨by simp [mkM], fun i hi => by simp [mkM, rowAt, List.getD, hi]⟩
theorem besI_l {n : Nat} {A : Mt} {i j : Nat} (hi : i < n) (hj : j < n) : at2 (besI n A) i j = at2 A i j := by
  unfold besI
  rw [mkM_at hi (by omega), if_pos hj]
theorem inv_iff {n : Nat} {A : Mt} : (redN (besI n A) n).2.length = n ↔ dt n (at2 A) ≠ 0 := by
  obtain ⟨_, s, hr⟩ := redN_red (A := besI n A) (R := n) (C := n + n) dim_mkM n (by omega)
  rw [hr.iff (by omega), dt_congr (f := at2 (besI n A)) (g := at2 A) (fun i j hi hj => besI_l hi hj)]
section
variable {X : List Nat} {w0 : World} {M0 : List Ent} {I0 : List Imm}
set_option maxRecDepth 100000 in
set_option maxHeartbeats 2000000 in
theorem XInverse_all {a : MX} {n k0 : Nat} (hb : kb k0 n ≤ 20000000) (hk0 : k0 ≤ 20000000) (da : a.fit n n) (ha : isX a k0 ∈ I0) : CD Tryz.prog 84 [mv a] X w0 M0 I0 (fun v M I => if dt n (at2 a.q) = 0 then (M0 = M ∧ I0 = I ∧ v = .tuple #[.slice none 0 0, .int .i64 14]) else XQc (invM n a.q) n n (kb k0 n) M0 I0 v M I) := by
  obtain ⟨n1, n2⟩ := da.2.1
  refine xCD_fact (fun w hw => Mem.xsml ha da (by omega) hw) (fun sa => ?_)
  have hC := fun M0 I0 h1 => square_ok (X := X) (w0 := w0) (M0 := M0) (I0 := I0) (a := a.raw) sa h1
  have e0 : sqC a.raw = 0 := by
    unfold sqC
    rw [if_pos da.ok, a.raw_rows, MX.raw_c0 da, da.1.1, if_pos rfl]
  rw [e0, mv_raw] at hC
  have lR := da.1.1
  refine CD_hv (φ := isWM a.raw) (Hv.xraw ha (by omega)) ?_
  refine enterD1 Tryz.func84 rfl Tryz.ntmps84 rfl ?_
  repeat (refine wXh ?_)
  (refine RD_callS rfl (hC _ _ memF) rfl rfl ?_; rintro _ _ _ ⟨rfl, rfl, rfl⟩; refine ⟨okF, ?_⟩)
  repeat (refine wXh ?_)
  (refine RD_alloc rfl rfl ?_; intro b5; refine ⟨okF, ?_⟩)
  repeat (refine wXh ?_)
  rw [lR]
  refine RD_freezeB .here ?_
  repeat (refine wXh ?_)
  (refine RD_callS rfl (xmade_ok (R := n) (C := n) (g := 143) (fs := #[]) (cs := #[]) (k0 := 0) (by omega) (by omega) dlt (fun M I _ i j hi hj => by have := unit_ok (X := X) (w0 := w0) (M0 := M) (I0 := I) (i := (i : Int)) (j := (j : Int)); rw [← dlt_int] at this; exact this)) rfl rfl ?_; rintro _ _ _ ⟨rfl, u, rfl, hu, hud, rfl⟩; refine ⟨okF, ?_⟩)
  repeat (refine wXh ?_)
  refine RD_hv (φ := isX u k0) (Hv.xm (k := 0) memF (Nat.zero_le _)) ?_
  (refine RD_callS rfl (beside_ok da ⟨hud, ⟨n1, n2⟩, n1, n2⟩ memF memF) rfl rfl ?_; rintro _ _ _ ⟨bo, rows0, rfl, hl0, hc0, hq0, rfl, rfl⟩; refine ⟨okF, ?_⟩)
  repeat (refine wXh ?_)
  (refine RD_alloc rfl rfl ?_; intro b6; refine ⟨okF, ?_⟩)
  repeat (refine wXh ?_)
  refine TD_m (fun _ hw => hw.freezeB .here) ?_
  have hB : mq rows0 = besI n a.q := by
    unfold besI
    refine Eq.trans hq0 ?_
    refine mkM_congr (R := n) (C := n + n) (fun i j hi hj => ?_)
    by_cases e : j < n
    · rw [if_pos e, if_pos e]
    · rw [if_neg e, if_neg e, hu, mkM_at hi (by omega)]
  (repeat refine TD_seq ?_); refine TD_drawnK 1 (M0) (slI (some ⟨b6, 0, none⟩) [.slice (some ⟨bo, 0, none⟩) n n] :: slI (some ⟨b5, 0, none⟩) [.int .i64 (n : Int)] :: I0) [0, 1, 4, 2, 3, 5] [0, 0, 1, 0, 0, 0] (SubP.drop (SubP_dropA SubP.refl)) incF mixed (by kernel_rfl) ?_
  repeat (refine wXh ?_)
  have hRd := fun I0 h => reduce_ok (X := X) (w0 := w0) (M0 := .blk bo (recs eM rows0) 58 :: (rows0.map entM ++ M0)) (I0 := I0) (bo := bo) (R := n) (C := n + n) (n := n) (k0 := k0) (rows := rows0) (M1 := M0) hl0 (by omega) (by omega) hc0 (by omega) (by omega) h rfl
  (refine RD_callS rfl (hRd _ memF) rfl rfl ?_; rintro _ _ _ ⟨rows, pv, q, c, rfl, hl, hc, hred, hpv, rfl, rfl⟩; refine ⟨OkD.kY (SubP.drop (SubP.drop (SubP_dropA SubP.refl))) incF, ?_⟩)
  rw [hB] at hred
  have hiff : pv.length = n ↔ dt n (at2 a.q) ≠ 0 := by
    have := inv_iff (n := n) (A := a.q)
    rw [hred] at this
    exact this
  by_cases hd0 : dt n (at2 a.q) = 0
  · simp only [if_pos hd0]
    have hlt : pv.length < n := by
      rcases Nat.lt_or_ge pv.length n with h | h
      · exact h
      · exact absurd hd0 (hiff.1 (by omega))
    repeat (refine wXh ?_)
    refine ND_rets [2, 3] (.inl rfl) rfl rfl rfl M0 I0 (SubP.drop (SubP.drop (SubP_dropA SubP.refl))) incF ⟨rfl, rfl, rfl⟩
  · simp only [if_neg hd0]
    have hlt : pv.length = n := hiff.2 hd0
    repeat (refine wXh ?_)
    refine RD_w (M' := .blk bo (recs eM rows) 58 :: (rows.map entM ++ M0)) (I' := allM rows (kb k0 n) :: slI (some ⟨b6, 0, none⟩) [.slice (some ⟨bo, 0, none⟩) n n] :: slI (some ⟨b5, 0, none⟩) [.int .i64 (n : Int)] :: I0) (SubP.drop SubP.refl) incF ?_
    refine RD_m (fun _ hw => freezeX hw (List.Mem.head _)) ?_
    refine RD_hv (φ := bxX b6 (MR.x bo rows)) (by show Hv _ (slI _ [.slice (some ⟨bo, 0, none⟩) (rows.map MR.l).length rows.length]); rw [List.length_map, hl]; exact Hv.mem memF) ?_
    have xl : (MR.x bo rows).rows.length = n := by show (rows.map MR.l).length = n; rw [List.length_map, hl]
    have xc : ∀ i : Nat, i < n → (gt (MR.x bo rows).rows (i : Int)).es.length = n + n := fun i hi => by
      have : gt (MR.x bo rows).rows (i : Int) = (gt rows (i : Int)).l := gt_map (by omega)
      rw [this]; exact hc _ (gt_mem (by omega))
    have hg := fun M I (hI : ∀ φ ∈ bxX b6 (MR.x bo rows) :: isX (MR.x bo rows) (kb k0 n) :: allM rows (kb k0 n) :: slI (some ⟨b6, 0, none⟩) [.slice (some ⟨bo, 0, none⟩) n n] :: slI (some ⟨b5, 0, none⟩) [.int .i64 (n : Int)] :: I0, φ ∈ I) (i j : Nat) (hi : i < n) (hj : j < n) => Inverse1_ok (X := X) (w0 := w0) (M0 := M) (I0 := I) (a := MR.x bo rows) (p := b6) (q := b5) (k := kb k0 n) (i := i) (j := j) (n := n) (by omega) (by rw [xc i hi]; omega) (by omega) (by omega) (hI _ memF) (hI _ memF) (hI _ memF)
    (refine RD_callS rfl (xmade_ok (R := n) (C := n) (g := 174) (fs := #[]) (cs := #[pb b6, pb b5]) (k0 := kb k0 n) (by omega) (by omega) (fun i j => at2 (MR.x bo rows).q i (n + j)) hg) rfl rfl ?_; rintro _ _ _ ⟨rfl, x, rfl, hx, hd, rfl⟩; refine ⟨okF, ?_⟩)
    rw [q_x] at hx
    repeat (refine wXh ?_)
    refine ND_rets [2, 3] (by first | exact .inl rfl | exact .inr rfl) rfl rfl rfl _ _ subF incF (⟨rfl, x, rfl, by unfold invM; rw [hred]; exact hx, hd, rfl⟩)
end
end Go.Proofs.YtllaoaobnnondaaGreatR
namespace Go.Proofs.YtllaoaobnnondaaGreatR
open Go Go.Fx
/-- a list of integers -/
structure IL where
  p : Option Addr
  c : Nat
  xs : List Int
instance : Inhabited IL := ⟨⟨none, 0, []⟩⟩
abbrev eIL (r : IL) : List Value := [.slice r.p r.xs.length r.c]
abbrev ivL (r : IL) : Value := .slice r.p r.xs.length r.c
instance : Sized eIL 1 := ⟨fun _ => rfl⟩
instance : Ones eIL := ⟨fun m u hu => by simp only [eIL, List.mem_cons, List.not_mem_nil, or_false] at hu; subst hu; rfl⟩
/- ---------- IndexFunc, ContainsFunc of [][]int ---------- -/
section
variable {X : List Nat} {w0 : World} {M0 : List Ent} {I0 : List Imm}
theorem idxIL_ok {q : Option Addr} {a : List IL} {c : Nat} {g : FuncId} [FnOk Tryz.prog g] {fs cs : Array Value} (pr : IL → Prop) [DecidablePred pr] (hn : (a.length : Int) ≤ 9223372036854775807) (ha : slI q (recs eIL a) ∈ I0)
    (hg : ∀ i : Nat, i < a.length → CD Tryz.prog g (fs.toList ++ [ivL (gt a i)] ++ cs.toList) X w0 M0 I0 (fun v M I => M0 = M ∧ I0 = I ∧ v = .bool (B (pr (gt a i))))) :
    CD Tryz.prog 248 [.slice q a.length c, .func (.func g) fs cs] X w0 M0 I0 (fun v M I => M0 = M ∧ I0 = I ∧ ∃ r : Int, v = .int .i64 r ∧ ((∃ i : Nat, i < a.length ∧ r = i ∧ pr (gt a i) ∧ ∀ j : Nat, j < i → ¬ pr (gt a j)) ∨ (r = -1 ∧ ∀ j : Nat, j < a.length → ¬ pr (gt a j)))) := by
  refine enterD2 Tryz.func248 rfl Tryz.ntmps248 rfl ?_
  repeat (refine wXh ?_)
  refine TD_loop [0, 1, 7] rfl (fun k G M I => ∃ i : Nat, i ≤ a.length ∧ k = a.length - i ∧ (∀ j : Nat, j < i → ¬ pr (gt a j)) ∧ G = [(8, .int .i64 i)] ∧ M = M0 ∧ I = I0) (a.length) _ _ _ subG subF incF (⟨0, by omega, rfl, fun j hj => by omega, rfl, rfl, rfl⟩) ?_
  rintro k G M I ⟨i, hi, rfl, hs, rfl, rfl, rfl⟩
  repeat' (first | refine wXh ?_ | (refine TD_isCo ?_; first | refine TD_dec rfl (fun h => ?_) (fun h => ?_) | refine TD_cond rfl (fun h => ?_) (fun h => ?_)) | (refine RD_isGu ?_; first | refine RD_grd rfl rfl (fun h => ?_) (fun h => ?_) | (fail_if_success (refine RD_isW rfl ?_); refine RD_grdB rfl rfl (fun h => ?_) (fun h => ?_))))
  · have hlt : i < a.length := by omega
    (refine RD_callVS rfl rfl (hg i hlt) rfl rfl rfl ?_; rintro _ _ _ ⟨rfl, rfl, rfl⟩; refine ⟨okF, ?_⟩)
    repeat' (first | refine wXh ?_ | (refine TD_isCo ?_; first | refine TD_dec rfl (fun h => ?_) (fun h => ?_) | refine TD_cond rfl (fun h => ?_) (fun h => ?_)) | (refine RD_isGu ?_; first | refine RD_grd rfl rfl (fun h => ?_) (fun h => ?_) | (fail_if_success (refine RD_isW rfl ?_); refine RD_grdB rfl rfl (fun h => ?_) (fun h => ?_))))
    · refine ND_ret1 (by first | exact .inl rfl | exact .inr rfl) rfl rfl _ _ subF incF (⟨rfl, rfl, _, rfl, .inl ⟨i, hlt, rfl, by assumption, hs⟩⟩)
    · refine ND_again (a.length - (i + 1)) _ _ _ (by first | omega | (simp only [List.length_append, List.length_cons, List.length_nil]; omega)) subG subF incF (⟨i + 1, by omega, rfl, fun j hj => ?_, rfl, rfl, rfl⟩)
      by_cases e : j = i
      · subst e; assumption
      · exact hs j (by omega)
  · refine ND_ret1 (by first | exact .inl rfl | exact .inr rfl) rfl rfl _ _ subF incF (⟨rfl, rfl, _, rfl, .inr ⟨rfl, fun j hj => hs j (by omega)⟩⟩)
theorem hasIL_ok {q : Option Addr} {a : List IL} {c : Nat} {g : FuncId} [FnOk Tryz.prog g] {fs cs : Array Value} (pr : IL → Prop) [DecidablePred pr] (hn : (a.length : Int) ≤ 9223372036854775807) (ha : slI q (recs eIL a) ∈ I0)
    (hg : ∀ i : Nat, i < a.length → CD Tryz.prog g (fs.toList ++ [ivL (gt a i)] ++ cs.toList) X w0 M0 I0 (fun v M I => M0 = M ∧ I0 = I ∧ v = .bool (B (pr (gt a i))))) :
    CD Tryz.prog 212 [.slice q a.length c, .func (.func g) fs cs] X w0 M0 I0 (fun v M I => M0 = M ∧ I0 = I ∧ v = .bool (B (∃ x ∈ a, pr x))) := by
  refine enterD2 Tryz.func212 rfl Tryz.ntmps212 rfl ?_
  repeat (refine wXh ?_)
  (refine RD_callS rfl (idxIL_ok pr hn ha hg) rfl rfl ?_; rintro _ _ _ ⟨rfl, rfl, r, rfl, h⟩; refine ⟨okF, ?_⟩)
  repeat (refine wXh ?_)
  refine ND_ret1 (by first | exact .inl rfl | exact .inr rfl) rfl rfl _ _ subF incF (⟨rfl, rfl, congrArg Value.bool (B_congr ?_)⟩)
  rcases h with ⟨i, hi, rfl, hp, _⟩ | ⟨rfl, h⟩
  · exact ⟨fun _ => ⟨gt a i, by rw [gt_get hi]; exact List.getElem_mem hi, hp⟩, fun _ => by omega⟩
  · refine ⟨fun h => by omega, ?_⟩
    rintro ⟨x, hx, hp⟩
    obtain ⟨j, hj, rfl⟩ := List.mem_iff_getElem.1 hx
    exact absurd (by rw [gt_get hj]; exact hp) (h j hj)
end

theorem q_ext {x y : RL} (hl : x.es.length = y.es.length) (h : ∀ j : Nat, j < x.es.length → (gt x.es (j : Int)).q = (gt y.es (j : Int)).q) : x.q = y.q := by
  apply list_ext0
  · simp [hl]
  · intro t ht
    have ht' : t < x.es.length := by simpa using ht
    rw [qs_getD ht', qs_getD (by omega)]
    exact h t ht'
theorem q_at {x y : RL} (h : x.q = y.q) {j : Nat} (hj : j < x.es.length) : (gt x.es (j : Int)).q = (gt y.es (j : Int)).q := by
  have hl : x.es.length = y.es.length := by have := congrArg List.length h; simpa using this
  rw [← qs_getD hj, ← qs_getD (by omega)]
  exact congrArg (fun l => List.getD l j 0) h
section
variable {X : List Nat} {w0 : World} {M0 : List Ent} {I0 : List Imm}
end
end Go.Proofs.YtllaoaobnnondaaGreatR
namespace Go.Proofs.YtllaoaobnnondaaGreatR
open Go Go.Fx
structure AllIL (rows : List IL) (X : List Nat) (w : World) : Prop where
  go : ∀ r ∈ rows, Sl X w r.p (recs (eI .i64) r.xs)
abbrev allIL (rows : List IL) : Imm := AllIL rows
instance (rows : List IL) : Fx.Good (AllIL rows) := ⟨fun X Y w w' h he hY => ⟨fun r hm => Sl.carry (h.go r hm) he hY⟩⟩
theorem Hv.ilrow {I : List Imm} {rows : List IL} {i : Int} (h : allIL rows ∈ I) (hi : 0 ≤ i ∧ i < rows.length) : Hv I (slI (gt rows i).p (recs (eI .i64) (gt rows i).xs)) := ⟨fun X w hw => ⟨(hw _ h : AllIL rows X w).go _ (gt_mem hi)⟩⟩
abbrev bxI (b : Nat) (q : Option Addr) (n c : Nat) : Imm := slI (some ⟨b, 0, none⟩) [.slice q n c]
section
variable {X : List Nat} {w0 : World} {M0 : List Ent} {I0 : List Imm}
set_option maxRecDepth 100000 in
theorem Of1_ok {rows : List IL} {q : Option Addr} {c b : Nat} {r : IL} (hR : 1 ≤ rows.length) (hq : slI q (recs eIL rows) ∈ I0) (hb : bxI b q rows.length c ∈ I0) :
    CD Tryz.prog 213 [ivL r, pb b] X w0 M0 I0 (fun v M I => M0 = M ∧ I0 = I ∧ v = .bool (B (¬ (r.xs.length = (gt rows 0).xs.length)))) := by
  by_cases he : r.xs.length = (gt rows 0).xs.length
  · rw [B_false (fun h => h he)]
    refine enterD2 Tryz.func213 rfl Tryz.ntmps213 rfl ?_
    repeat (refine wXh ?_)
    refine ND_ret1 (by first | exact .inl rfl | exact .inr rfl) rfl rfl _ _ subF incF (⟨rfl, rfl, congrArg Value.bool (B_false (fun h => h (by omega)))⟩)
  · rw [B_true (p := ¬ (r.xs.length = (gt rows 0).xs.length)) he]
    refine enterD2 Tryz.func213 rfl Tryz.ntmps213 rfl ?_
    repeat (refine wXh ?_)
    refine ND_ret1 (by first | exact .inl rfl | exact .inr rfl) rfl rfl _ _ subF incF (⟨rfl, rfl, congrArg Value.bool (B_true (p := (r.xs.length : Int) ≠ ((gt rows 0).xs.length : Int)) (fun h => he (by omega)))⟩)
set_option maxRecDepth 100000 in
theorem Of2_ok {rows : List IL} {q : Option Addr} {c b i j k0 : Nat} (hi : i < rows.length) (hj : j < (gt rows (i : Int)).xs.length) (hx : (gt (gt rows (i : Int)).xs (j : Int)).natAbs ≤ 2 ^ k0 ∧ -9223372036854775808 ≤ gt (gt rows (i : Int)).xs (j : Int) ∧ gt (gt rows (i : Int)).xs (j : Int) ≤ 9223372036854775807) (hq : slI q (recs eIL rows) ∈ I0) (hw : allIL rows ∈ I0) (hb : bxI b q rows.length c ∈ I0) :
    CD Tryz.prog 214 [.int .i64 (i : Int), .int .i64 (j : Int), pb b] X w0 M0 I0 (RQ ((gt (gt rows (i : Int)).xs (j : Int) : Int) : Rat) k0 M0 I0) := by
  refine CD_hv (φ := slI (gt rows (i : Int)).p (recs (eI .i64) (gt rows (i : Int)).xs)) (Hv.ilrow hw (by omega)) ?_
  refine enterD3 Tryz.func214 rfl Tryz.ntmps214 rfl ?_
  refine TD_seq ?_
  refine TD_region ?_
  (refine RD_alloc rfl rfl ?_; intro br; refine ⟨okF, ?_⟩)
  repeat (refine wXh ?_)
  (refine RD_callS rfl (Whole_ok (x := gt (gt rows (i : Int)).xs (j : Int)) hx.2 (k := k0) hx.1) rfl rfl ?_; rintro _ _ _ ⟨rfl, e, rfl, he, rfl⟩; refine ⟨okF, ?_⟩)
  repeat (refine wXh ?_)
  refine ND_retC (cs := eR e) (.inl rfl) rfl rfl memF rfl M0 (isR e k0 :: I0) subF incF ⟨rfl, e, rfl, he, rfl⟩
end
end Go.Proofs.YtllaoaobnnondaaGreatR
namespace Go.Proofs.YtllaoaobnnondaaGreatR
open Go Go.Fx
def kA : Mt := [[((2 : Int) : Rat), ((1 : Int) : Rat)], [((1 : Int) : Rat), ((1 : Int) : Rat)]]
def kC : Mt := [[((1 : Int) : Rat), ((-1 : Int) : Rat)], [((-1 : Int) : Rat), ((2 : Int) : Rat)]]
section
variable {X : List Nat} {w0 : World} {M0 : List Ent} {I0 : List Imm}
end
end Go.Proofs.YtllaoaobnnondaaGreatR
namespace Go.Fx
open Go.ChangeShapes Go.WideShapes Go.RowKit Go.ChangeAt

section
variable {H : Type} {enc : TypeId × Value → H} {P : Program} {W : World}

theorem flat_inv {sz : Nat} : ∀ (rows : List (List Value)) (k : Nat) (v : Value), (∀ r ∈ rows, r.length = sz) → rows.flatten[k]? = some v → ∃ i row, rows[i]? = some row ∧ i * sz ≤ k ∧ row[k - i * sz]? = some v
  | [], k, v, _, h => by simp at h
  | r :: rows, k, v, hr, h => by
    rw [List.flatten_cons] at h
    have hl := hr r (by simp)
    by_cases hk : k < r.length
    · rw [List.getElem?_append_left hk] at h
      exact ⟨0, r, by simp, by omega, by simpa using h⟩
    · rw [List.getElem?_append_right (by omega)] at h
      obtain ⟨i, row, h1, h2, h3⟩ := flat_inv rows _ v (fun r' hr' => hr r' (by simp [hr'])) h
      refine ⟨i + 1, row, by simpa using h1, by rw [Nat.add_mul]; omega, ?_⟩
      rw [← h3]
      congr 1
      rw [Nat.add_mul]; omega

theorem dec_int {t : TypeId} {k : IntKind} {n : Nat} {cs : List Value} {y : DataW H × List MemPlace} (ht : P.underlying t = some (.int k)) (h : DataW.trod enc P W 0 (fun _ => true) true n t cs = some y) : ∃ x : Int, cs = [.int k x] ∧ (Lit.int k x).wf = true := by
  obtain ⟨m, h1, _, h2⟩ := DataW.trod_int ht h
  exact ⟨m, h1, h2⟩
end
end Go.Fx
namespace Go.Proofs.YtllaoaobnnondaaGreatR
open Go Go.Fx
open Go.ChangeShapes Go.WideShapes Go.RowKit Go.ChangeAt
section
variable {H : Type} {enc : TypeId × Value → H} {P : Program} {W : World}
/-- a slice's cells, wherever the slice lies -/
theorem dec_rowsH {fuel : Nat} {t e : TypeId} {cs : List Value} {x : DataW H × List MemPlace} (ht : P.underlying t = some (.slice e)) (hc : 1 ≤ P.cellsOf e) (h : DataW.trod enc P W 0 (fun _ => true) true fuel t cs = some x) :
    ∃ (a : Option Addr) (len c : Nat), cs = [.slice a len c] ∧ (len : Int) ≤ 9223372036854775807 ∧ Cap a len c ∧
      ∃ rows : List (List Value), rows.length = len ∧ (∀ r ∈ rows, r.length = P.cellsOf e ∧ ∃ n y, DataW.trod enc P W 0 (fun _ => true) true n e r = some y) ∧ Sl [] W a rows.flatten := by
  rcases DataW.trod_slice ht h with ⟨hcs, _⟩ | ⟨a', len, c, elems, rest, n, _, hcs, _, _, hlc, hcm, hlen, hel, hsp, _⟩
  · exact ⟨none, 0, 0, hcs, by omega, ⟨Nat.le_refl _, .inr ⟨rfl, rfl⟩⟩, [], rfl, by simp, Sl.nil _ _ _⟩
  · have hm : maxLen = 9223372036854775807 := by decide
    obtain ⟨hrl, hsp⟩ := hsp rfl
    have hspot : 0 < c → Ok (some a') := fun h0 => by
      have : ∃ v, W.cell? a' = some v := by
        by_cases hl : 0 < len
        · have := hel 0 hl
          rw [List.getElem?_eq_getElem (by omega), Option.bind_eq_some_iff] at this
          obtain ⟨cs', h1, _⟩ := this
          obtain ⟨_, hl2, hcell⟩ := World.cells?_some h1
          have := hcell 0 (by omega)
          rw [List.getElem?_eq_getElem (by omega)] at this
          have e1 : (a'.add (0 * P.cellsOf e)).add 0 = a' := by simp [Addr.add]
          rw [e1] at this
          exact ⟨_, this⟩
        · have hl0 : len = 0 := by omega
          have := hsp 0 (by omega)
          rw [List.getElem?_eq_getElem (by omega), Option.bind_eq_some_iff] at this
          obtain ⟨cs', h1, _⟩ := this
          obtain ⟨_, hl2, hcell⟩ := World.cells?_some h1
          have := hcell 0 (by omega)
          rw [List.getElem?_eq_getElem (by omega)] at this
          have e1 : (a'.add ((len + 0) * P.cellsOf e)).add 0 = a' := by simp [Addr.add, hl0]
          rw [e1] at this
          exact ⟨_, this⟩
      obtain ⟨v, hv⟩ := this
      unfold World.cell? at hv
      cases a' with
      | mk b o s =>
        have : s = none := by
          cases s with
          | none => rfl
          | some s => split at hv <;> simp at hv
        subst this
        exact Ok.mk b o
    have hcap : Cap (some a') len c := ⟨hlc, by
      by_cases h0 : 0 < c
      · exact .inl (hspot h0)
      · exact .inr ⟨by omega, by omega⟩⟩
    refine ⟨some a', len, c, hcs, by omega, hcap, ?_⟩
    have each : ∀ i, i < len → ∃ cs y, W.cells? 0 (a'.add (i * P.cellsOf e)) (P.cellsOf e) = some cs ∧ DataW.trod enc P W 0 (fun _ => true) true n e cs = some y := fun i hi => by
      have := hel i hi
      rw [List.getElem?_eq_getElem (by omega), Option.bind_eq_some_iff] at this
      obtain ⟨cs, h1, h2⟩ := this
      exact ⟨cs, _, h1, h2⟩
    refine ⟨(List.range len).map (fun i => (W.cells? 0 (a'.add (i * P.cellsOf e)) (P.cellsOf e)).getD []), by simp, ?_, ?_⟩
    · intro r hr
      obtain ⟨i, hi, rfl⟩ := List.mem_map.1 hr
      obtain ⟨cs, y, h4, h5⟩ := each i (by simpa using hi)
      rw [h4]
      exact ⟨(World.cells?_some h4).2.1, n, y, h5⟩
    · intro j v hj
      have hall : ∀ r ∈ (List.range len).map (fun i => (W.cells? 0 (a'.add (i * P.cellsOf e)) (P.cellsOf e)).getD []), r.length = P.cellsOf e := by
        intro r hr
        obtain ⟨i, hi, rfl⟩ := List.mem_map.1 hr
        obtain ⟨cs, y, h4, h5⟩ := each i (by simpa using hi)
        rw [h4]
        exact (World.cells?_some h4).2.1
      obtain ⟨i, row, h4, h5, h6⟩ := flat_inv _ j v hall hj
      rw [List.getElem?_map] at h4
      obtain ⟨i', hi', rfl⟩ := Option.map_eq_some_iff.1 h4
      have hii : i' = i ∧ i < len := by
        obtain ⟨q1, q2⟩ := List.getElem?_eq_some_iff.1 hi'
        rw [List.getElem_range] at q2
        exact ⟨q2.symm, by simpa using q1⟩
      obtain ⟨rfl, hil⟩ := hii
      have hok : Ok (some a') := hspot (by omega)
      obtain ⟨cs, y, h7, h8⟩ := each i' hil
      rw [h7] at h6
      simp only [Option.getD_some] at h6
      obtain ⟨_, hl, hc'⟩ := World.cells?_some h7
      have hlt : j - i' * P.cellsOf e < P.cellsOf e := by
        have := (List.getElem?_eq_some_iff.1 h6).1
        omega
      have hcell := hc' _ hlt
      rw [h6] at hcell
      refine ⟨hok, by simp, ?_⟩
      obtain ⟨b, o, eq⟩ := hok.cases
      injection eq with eq
      subst eq
      rw [add_lit, add_lit] at hcell
      rw [← hcell]
      simp only [pt, bl, of, Option.getD_some]
      congr 2
      omega
theorem dec_sliceH {α : Type} {en : α → List Value} {Pm : α → Prop} {fuel : Nat} {t e : TypeId} {cs : List Value} {x : DataW H × List MemPlace} (ht : P.underlying t = some (.slice e)) (hc : 1 ≤ P.cellsOf e)
    (hdec : ∀ (r : List Value) n y, r.length = P.cellsOf e → DataW.trod enc P W 0 (fun _ => true) true n e r = some y → ∃ m, r = en m ∧ Pm m) (h : DataW.trod enc P W 0 (fun _ => true) true fuel t cs = some x) :
    ∃ (a : Option Addr) (ms : List α) (c : Nat), cs = [.slice a ms.length c] ∧ Sl [] W a (recs en ms) ∧ (∀ m ∈ ms, Pm m) ∧ (ms.length : Int) ≤ 9223372036854775807 ∧ Cap a ms.length c := by
  obtain ⟨a, len, c, rfl, h1, h3, rows, hl, hr, hs⟩ := dec_rowsH ht hc h
  have key : ∀ rows : List (List Value), (∀ r ∈ rows, r.length = P.cellsOf e ∧ ∃ n y, DataW.trod enc P W 0 (fun _ => true) true n e r = some y) → ∃ ms : List α, rows = ms.map en ∧ ∀ m ∈ ms, Pm m := by
    intro rows
    induction rows with
    | nil => intro _; exact ⟨[], rfl, by simp⟩
    | cons r rows ih =>
      intro hr
      obtain ⟨hrl, n, y, hy⟩ := hr r (by simp)
      obtain ⟨m, rfl, hm⟩ := hdec r n y hrl hy
      obtain ⟨ms, rfl, hms⟩ := ih (fun r' hr' => hr r' (by simp [hr']))
      exact ⟨m :: ms, rfl, fun m' hm' => by
        rcases List.mem_cons.1 hm' with rfl | hm'
        · exact hm
        · exact hms m' hm'⟩
  obtain ⟨ms, rfl, hms⟩ := key rows hr
  have hlen : ms.length = len := by simpa using hl
  subst hlen
  refine ⟨a, ms, c, rfl, ?_, hms, h1, h3⟩
  rw [← List.flatMap_def] at hs
  exact hs
theorem dec_two2 {tr t0 t1 : TypeId} {fr : Array Field} {m k n : Nat} {cs : List Value} {y : DataW H × List MemPlace} (hr : P.underlying tr = some (.struct fr)) (hfr : fr.toList.map (fun f => (f.offset, f.type)) = [(0, t0), (m, t1)]) (cm : P.cellsOf t0 = m) (ck : P.cellsOf t1 = k) (c5 : P.cellsOf tr = m + k) (h : DataW.trod enc P W 0 (fun _ => true) true n tr cs = some y) :
    cs.length = m + k ∧ ∃ n' z0 z1, DataW.trod enc P W 0 (fun _ => true) true n' t0 (cs.take m) = some z0 ∧ DataW.trod enc P W 0 (fun _ => true) true n' t1 (cs.drop m) = some z1 := by
  obtain ⟨zs, n', rfl, rfl, hl, hzl, hz⟩ := DataW.trod_struct hr h
  have hsz : fr.toList.length = 2 := by have := congrArg List.length hfr; simpa using this
  obtain ⟨f0, f1, hfs⟩ : ∃ f0 f1, fr.toList = [f0, f1] := by
    match hh : fr.toList, hsz with
    | [a, b], _ => exact ⟨a, b, rfl⟩
  rw [hfs] at hfr
  simp only [List.map_cons, List.map_nil, List.cons.injEq, Prod.mk.injEq, and_true] at hfr
  obtain ⟨⟨o0, e0⟩, o1, e1⟩ := hfr
  rw [c5] at hl
  have hg0 : fr[0]? = some f0 := by rw [← Array.getElem?_toList, hfs]; rfl
  have hg1 : fr[1]? = some f1 := by rw [← Array.getElem?_toList, hfs]; rfl
  have h0 := hz 0 f0 hg0
  have h1 := hz 1 f1 hg1
  rw [o0, e0, cm] at h0
  rw [o1, e1, ck] at h1
  have hz2 : zs.length = 2 := by rw [hzl]; simpa using hsz
  obtain ⟨z0, z1, rfl⟩ : ∃ z0 z1, zs = [z0, z1] := by
    match zs, hz2 with
    | [a, b], _ => exact ⟨a, b, rfl⟩
  simp only [List.drop_zero, List.getElem?_cons_zero, List.getElem?_cons_succ] at h0 h1
  rw [List.take_of_length_le (l := cs.drop m) (by simp; omega)] at h1
  exact ⟨hl, n', z0, z1, h0, h1⟩
/-- an integer's two cells -/
theorem dec_IH {t tb ts te : TypeId} {fs : Array Field} {n : Nat} {cs : List Value} {y : DataW H × List MemPlace} (ht : P.underlying t = some (.struct fs)) (hf : fs.toList.map (fun f => (f.offset, f.type)) = [(0, tb), (1, ts)]) (hb : P.underlying tb = some .bool) (hs : P.underlying ts = some (.slice te)) (he : P.underlying te = some (.int .u32))
    (c1 : P.cellsOf tb = 1) (c2 : P.cellsOf ts = 1) (c3 : P.cellsOf te = 1) (c4 : P.cellsOf t = 2) (h : DataW.trod enc P W 0 (fun _ => true) true n t cs = some y) :
    ∃ (nb : Bool) (a : Option Addr) (g : List Int) (c : Nat), cs = [.bool nb, .slice a g.length c] ∧ (∀ x ∈ g, 0 ≤ x) ∧ Sl [] W a (recs eG g) ∧ Cap a g.length c ∧ (g.length : Int) ≤ 9223372036854775807 := by
  obtain ⟨hl, n', z0, z1, h0, h1⟩ := dec_two2 ht hf c1 c2 c4 h
  obtain ⟨u0, u1, rfl⟩ : ∃ u0 u1, cs = [u0, u1] := by
    match cs, hl with
    | [a, b], _ => exact ⟨a, b, rfl⟩
  obtain ⟨nb, hnb, _⟩ := DataW.trod_bool hb h0
  simp at hnb
  subst hnb
  obtain ⟨a, g, c, e1, hsl, hg, hlen, hcap⟩ := dec_sliceH (en := eG) (Pm := fun x => 0 ≤ x) hs (by omega) (fun r n y hr hy => by
    obtain ⟨x, rfl, hw⟩ := dec_int he hy
    refine ⟨x, rfl, ?_⟩
    simp [Lit.wf] at hw
    have h32 : IntKind.u32.min = 0 := by decide
    rw [h32] at hw
    exact hw.1) h1
  simp at e1
  subst e1
  exact ⟨nb, a, g, c, rfl, hg, hsl, hcap, hlen⟩
/-- a fraction's four cells -/
theorem dec_RH {tr t tb ts te : TypeId} {fr fs : Array Field} {n : Nat} {cs : List Value} {y : DataW H × List MemPlace} (hr : P.underlying tr = some (.struct fr)) (hfr : fr.toList.map (fun f => (f.offset, f.type)) = [(0, t), (2, t)]) (ht : P.underlying t = some (.struct fs)) (hf : fs.toList.map (fun f => (f.offset, f.type)) = [(0, tb), (1, ts)]) (hb : P.underlying tb = some .bool) (hs : P.underlying ts = some (.slice te)) (he : P.underlying te = some (.int .u32))
    (c1 : P.cellsOf tb = 1) (c2 : P.cellsOf ts = 1) (c3 : P.cellsOf te = 1) (c4 : P.cellsOf t = 2) (c5 : P.cellsOf tr = 4) (h : DataW.trod enc P W 0 (fun _ => true) true n tr cs = some y) :
    ∃ r : RW, cs = eW r ∧ IsW r [] W := by
  obtain ⟨hl, n', z0, z1, h0, h1⟩ := dec_two2 hr hfr c4 c4 c5 h
  obtain ⟨n1, p1, g1, k1, e1, a1, a2, a3, a4⟩ := dec_IH ht hf hb hs he c1 c2 c3 c4 h0
  obtain ⟨n2, p2, g2, k2, e2, b1, b2, b3, b4⟩ := dec_IH ht hf hb hs he c1 c2 c3 c4 h1
  refine ⟨⟨n1, p1, g1, k1, n2, p2, g2, k2⟩, ?_, ⟨⟨a1, b1, a4, b4, a3, b3⟩, a2, b2⟩⟩
  rw [← List.take_append_drop 2 cs, e1, e2]
  rfl
end
section
variable {H : Type} {enc : TypeId × Value → H} {W : World}
set_option maxRecDepth 100000 in
theorem dec_ratH {n : Nat} {cs : List Value} {y : DataW H × List MemPlace} (h : DataW.trod enc Tryz.prog W 0 (fun _ => true) true n 26 cs = some y) : ∃ r : RW, cs = eW r ∧ IsW r [] W :=
  dec_RH (tb := 4) (ts := 22) (te := 166) (t := 24) (tr := 26) Tryz.underlying26 (by rfl) Tryz.underlying24 (by rfl) Tryz.underlying4 Tryz.underlying22 Tryz.underlying166 (by kernel_rfl) (by kernel_rfl) (by kernel_rfl) (by kernel_rfl) (by kernel_rfl) h
set_option maxRecDepth 100000 in
theorem open_rat {base : Nat} {v : Value} {d : DataW H} {p : List MemPlace} (hv : Value.okWide Tryz.prog W .any base 26 v) (h : DataW.Trod enc Tryz.prog W 0 (fun _ => true) true 26 v d p) : ∃ r : RW, v = wv r ∧ IsW r [] W := by
  simp only [Value.okWide, Tryz.underlying26] at hv
  obtain ⟨cs, rfl, hsz, hrow⟩ := hv
  obtain ⟨fuel, hf⟩ := h
  obtain ⟨r, e, i⟩ := dec_ratH (cs := cs.toList) hf
  exact ⟨r, by rw [show cs = cs.toList.toArray by simp, e], i⟩
end
end Go.Proofs.YtllaoaobnnondaaGreatR
namespace Go.Proofs.YtllaoaobnnondaaGreatR
open Go Go.Fx
theorem Hv.shtR {I : List Imm} {a : RW} {A : RE} (e : a = A.raw) (hs : a.brief) (h : isW a ∈ I) : Hv I (isR A 30) := ⟨fun X w hw => by subst e; exact brief_pow hs (hw _ h)⟩
end Go.Proofs.YtllaoaobnnondaaGreatR

/- The symbolic heap, continued: results that lie in cells. integer: the numbers: made, Valid, groups, Sign, Neg, Mul -/
import Derived.Test.YtllaoaobnnondaaGreatRZiaf
import Derived.Test.YtllaoaobnnondaaGreatRZiah
set_option linter.unusedSimpArgs false
set_option linter.unusedVariables false
namespace Go.Fx
def ResOk (P : Program) (tmps : Array Value) (w : World) : List ResultVar → List Value → Prop
  | [], [] => True
  | .tmp t :: r, v :: vs => tmps.getD t undef = v ∧ ResOk P tmps w r vs
  | .cell a t :: r, v :: vs => (do loadVar t (← asAddr (tmps.getD a undef)) : Sem Value).run P w = .ok v w ∧ ResOk P tmps w r vs
  | _, _ => False
theorem run_resultsM (P : Program) (tmps : Array Value) (w : World) : ∀ (rs : List ResultVar) (vs : List Value), ResOk P tmps w rs vs → (rs.toArray.mapM fun
    | ResultVar.tmp t => (pure (tmps.getD t undef) : Sem Value)
    | ResultVar.cell a t => do loadVar t (← asAddr (tmps.getD a undef))).run P w = Result.ok vs.toArray w := by
  intro rs vs h
  rw [List.mapM_toArray]
  simp only [Sem.run_map]
  have : ∀ (l : List ResultVar) (vs : List Value), ResOk P tmps w l vs → (List.mapM (m := Sem) (fun
    | ResultVar.tmp t => (pure (tmps.getD t undef) : Sem Value)
    | ResultVar.cell a t => do loadVar t (← asAddr (tmps.getD a undef))) l).run P w = Result.ok vs w := by
    intro l
    induction l with
    | nil => intro vs h; cases vs with
      | nil => rfl
      | cons v vs => exact h.elim
    | cons r l ih =>
      intro vs h
      cases vs with
      | nil => cases r <;> exact h.elim
      | cons v vs =>
        cases r with
        | tmp t =>
          obtain ⟨h1, h2⟩ := h
          simp only [List.mapM_cons, Sem.run_bind, Sem.run_pure, Result.andThen_ok, ih vs h2, h1]
        | cell a t =>
          obtain ⟨h1, h2⟩ := h
          simp only [List.mapM_cons, Sem.run_bind] at h1 ⊢
          rw [h1]
          simp only [Result.andThen_ok, Sem.run_bind, ih vs h2, Sem.run_pure]
  rw [this rs vs h]
  rfl
theorem loadCell1 {P : Program} {a : Tmp} {t : TypeId} {tmps : Array Value} {w : World} {b : Nat} {v : Value} {e : TypeId} [ht : ScalarTy P t] (hb : tmps.getD a undef = .pointer (some ⟨b, 0, none⟩)) (hB : Blk w b [v] e) :
    (do loadVar t (← asAddr (tmps.getD a undef)) : Sem Value).run P w = .ok v w := by
  have hc := hB.cell (o := 0) rfl
  have hb' : tmps[a]?.getD undef = .pointer (some ⟨b, 0, none⟩) := by simpa using hb
  simp [hb', asAddr, loadVar, run_isAgg_no, hc]
theorem loadCellN {P : Program} {a : Tmp} {t : TypeId} {sz : Nat} {tmps : Array Value} {w : World} {b : Nat} {cs : List Value} {e : TypeId} [ht : AggTy P t sz] (hb : tmps.getD a undef = .pointer (some ⟨b, 0, none⟩)) (hB : Blk w b cs e) (hl : cs.length = sz) :
    (do loadVar t (← asAddr (tmps.getD a undef)) : Sem Value).run P w = .ok (.agg cs.toArray) w := by
  have := run_loadCellsFrom (P := P) cs (hB.row0) sz 0 #[] (by omega) rfl
  have hb' : tmps[a]?.getD undef = .pointer (some ⟨b, 0, none⟩) := by simpa using hb
  simp [hb', asAddr, loadVar, run_isAgg_yes, run_sizeOf ht.size, loadCells, this]
section
variable {P : Program} {n : Nat} {G : Env} {X : List Nat} {w0 : World} {M M' : List Ent} {I I' : List Imm}
inductive RsD (P : Program) (G : Env) (M : List Ent) : List ResultVar → List Value → Prop
  | nil : RsD P G M [] []
  | tmp {t : Nat} {v : Value} {r : List ResultVar} {vs : List Value} (h : lk G t = some v) (k : RsD P G M r vs) : RsD P G M (.tmp t :: r) (v :: vs)
  | cell {a : Nat} {t : TypeId} {b : Nat} {v : Value} {e : TypeId} {r : List ResultVar} {vs : List Value} (ht : ScalarTy P t) (h : lk G a = some (.pointer (some ⟨b, 0, none⟩))) (hm : .blk b [v] e ∈ M) (k : RsD P G M r vs) : RsD P G M (.cell a t :: r) (v :: vs)
  | cellN {a : Nat} {t : TypeId} {sz b : Nat} {cs : List Value} {e : TypeId} {r : List ResultVar} {vs : List Value} (ht : AggTy P t sz) (h : lk G a = some (.pointer (some ⟨b, 0, none⟩))) (hm : .blk b cs e ∈ M) (hl : cs.length = sz) (k : RsD P G M r vs) : RsD P G M (.cell a t :: r) (.agg cs.toArray :: vs)
theorem RsD.ok {a : Act} {w : World} (ha : Has n G a) (hw : Mem X w0 M I w) {rs : List ResultVar} {vs : List Value} (h : RsD P G M rs vs) : ResOk P a.tmps w rs vs := by
  induction h with
  | nil => trivial
  | tmp h _ ih => exact ⟨by simp [ha.get _ _ h], ih⟩
  | cell ht h hm _ ih => exact ⟨loadCell1 (by simp [ha.get _ _ h]) (hw.blk hm), ih⟩
  | cellN ht h hm hl _ ih => exact ⟨loadCellN (by simp [ha.get _ _ h]) (hw.blk hm) hl, ih⟩
theorem ND_retsC {fn : Func} {K : Value → List Ent → List Imm → Prop} {rs : List ResultVar} {vs : List Value} {ex : Exit} (he : ex = .ret ∨ ex = .normal) (hr : fn.results = rs.toArray) (hv : RsD P G M rs vs) (hl : Nat.beq vs.length 1 = false) (M' : List Ent) (I' : List Imm) (hM : SubP M M') (hI : Inc I I') (h : K (.tuple vs.toArray) M' I') :
    ND n (Body P fn (KB K X w0)) ex G X w0 M I := ⟨fun w hw => ⟨fun a ha => by
  unfold Body
  have e1 := run_resultsM P a.tmps w rs vs (hv.ok ha hw)
  have e2 : (results fn a.tmps).run P w = .ok (.tuple vs.toArray) w := by
    have hne : ¬ vs.length = 1 := by intro e; simp [e] at hl
    unfold results
    rw [hr, Sem.run_bind]
    refine (congrArg (fun r => Result.andThen r fun a w' => Sem.run P (pure (if h : a.size = 1 then a[0] else Value.tuple a)) w') e1).trans ?_
    simp [hne]
  rcases he with rfl | rfl <;> exact ⟨ha.defers, _, e2, _, rfl, M', I', h, hw.weak hM hI⟩⟩⟩
theorem ND_retS {fn : Func} {K : Value → List Ent → List Imm → Prop} {ex : Exit} {a : Tmp} {t : TypeId} {b : Nat} {v : Value} {e : TypeId} [ScalarTy P t] (he : ex = .ret ∨ ex = .normal) (hr : fn.results = #[.cell a t]) (hv : lk G a = some (.pointer (some ⟨b, 0, none⟩))) (hm : .blk b [v] e ∈ M) (M' : List Ent) (I' : List Imm) (hM : SubP M M') (hI : Inc I I') (h : K v M' I') :
    ND n (Body P fn (KB K X w0)) ex G X w0 M I := ⟨fun w hw => ⟨fun act ha => by
  unfold Body
  have e1 : act.tmps.getD a undef = .pointer (some ⟨b, 0, none⟩) := by simp [ha.get a _ hv]
  have e2 := results_cell1 (P := P) (t := t) hr e1 (hw.blk hm)
  rcases he with rfl | rfl <;> exact ⟨ha.defers, _, e2, _, rfl, M', I', h, hw.weak hM hI⟩⟩⟩
end
end Go.Fx
namespace Go.Proofs.YtllaoaobnnondaaGreatR
open Go Go.Fx
/-- the value of an integer -/
def iv (q : Option Addr) (c : Nat) (z : Int) : Value := .agg #[.bool (B (z < 0)), .slice q (gr z.natAbs).length c]
abbrev OkC (q : Option Addr) (n c : Nat) : Prop := (gr n).length ≤ c ∧ (Ok q ∨ ((gr n).length = 0 ∧ c = 0))
/-- u is the integer z, at most 2^k -/
structure IsI (u : Value) (z : Int) (k : Nat) (X : List Nat) (w : World) : Prop where
  ex : ∃ q c, u = iv q c z ∧ OkC q z.natAbs c ∧ z.natAbs ≤ 2 ^ k ∧ Sl X w q (recs eG (gr z.natAbs))
abbrev isI (u : Value) (z : Int) (k : Nat) : Imm := IsI u z k
instance (u : Value) (z : Int) (k : Nat) : Fx.Good (IsI u z k) := ⟨fun X Y w w' h he hY => by
  obtain ⟨q, c, h1, h2, h3, h4⟩ := h.ex
  exact ⟨q, c, h1, h2, h3, Sl.carry h4 he hY⟩⟩
def sg (p : Prop) [Decidable p] (n : Nat) : Int := if p then -(n : Int) else n
theorem sg_abs (p : Prop) [Decidable p] (n : Nat) : (sg p n).natAbs = n := by unfold sg; split <;> omega
theorem sg_self (z : Int) : sg (z < 0) z.natAbs = z := by unfold sg; split <;> omega
theorem sg_neg (z : Int) : sg (¬ z < 0) z.natAbs = -z := by unfold sg; split <;> omega
theorem sg_lt {p : Prop} [Decidable p] {n : Nat} (h : n ≠ 0) : sg p n < 0 ↔ p := by unfold sg; split <;> simp_all <;> omega
section
variable {P : Program} {n : Nat} {Q : Exit → Act → World → Prop} {G : Env} {X : List Nat} {w0 : World} {M M' : List Ent} {I I' : List Imm}
theorem CD_openI {f : FuncId} {vs : List Value} {K : Value → List Ent → List Imm → Prop} {u : Value} {z : Int} {k : Nat} (hu : isI u z k ∈ I)
    (h : ∀ q c, u = iv q c z → OkC q z.natAbs c → z.natAbs ≤ 2 ^ k → CD P f vs X w0 M (slI q (recs eG (gr z.natAbs)) :: I) K) : CD P f vs X w0 M I K :=
  ⟨fun w hw => by
    obtain ⟨q, c, h1, h2, h3, h4⟩ := ((hw.imm _ hu).2).ex
    exact (h q c h1 h2 h3).go w (hw.add (φ := slI q _) ⟨h4⟩)⟩
theorem closeI {w : World} {q : Option Addr} {c : Nat} {z : Int} {k : Nat} (hw : Mem X w0 M I w) (hm : slI q (recs eG (gr z.natAbs)) ∈ I) (hc : OkC q z.natAbs c) (hk : z.natAbs ≤ 2 ^ k) : Mem X w0 M (isI (iv q c z) z k :: I) w :=
  hw.add (φ := isI _ z k) ⟨q, c, rfl, hc, hk, hw.sl hm⟩
theorem ND_closeI {ex : Exit} {q : Option Addr} {c : Nat} {z : Int} {k : Nat} (hm : slI q (recs eG (gr z.natAbs)) ∈ I) (hc : OkC q z.natAbs c) (hk : z.natAbs ≤ 2 ^ k) (h : ND n Q ex G X w0 M (isI (iv q c z) z k :: I)) : ND n Q ex G X w0 M I := ND_m (fun _ hw => closeI hw hm hc hk) h
theorem RD_closeI {ops l : List Oper} {m : Fx.Mode} {q : Option Addr} {c : Nat} {z : Int} {k : Nat} (hm : slI q (recs eG (gr z.natAbs)) ∈ I) (hc : OkC q z.natAbs c) (hk : z.natAbs ≤ 2 ^ k) (h : RD P n ops Q m l G X w0 M (isI (iv q c z) z k :: I)) : RD P n ops Q m l G X w0 M I := RD_m (fun _ hw => closeI hw hm hc hk) h
theorem RD_openI {ops l : List Oper} {m : Fx.Mode} {u : Value} {z : Int} {k : Nat} (hu : isI u z k ∈ I)
    (h : ∀ q c, u = iv q c z → OkC q z.natAbs c → z.natAbs ≤ 2 ^ k → RD P n ops Q m l G X w0 M (slI q (recs eG (gr z.natAbs)) :: I)) : RD P n ops Q m l G X w0 M I :=
  ⟨fun w hw => by
    obtain ⟨q, c, h1, h2, h3, h4⟩ := ((hw.imm _ hu).2).ex
    exact (h q c h1 h2 h3).go w (hw.add (φ := slI q _) ⟨h4⟩)⟩
theorem IsI.mono {u : Value} {z : Int} {k m : Nat} {X : List Nat} {w : World} (h : IsI u z k X w) (hk : k ≤ m) : IsI u z m X w := by
  obtain ⟨q, c, h1, h2, h3, h4⟩ := h.ex
  exact ⟨q, c, h1, h2, Nat.le_trans h3 (Nat.pow_le_pow_right (by decide) hk), h4⟩
end
theorem len_pow {n k : Nat} (h : n ≤ 2 ^ k) (hk : k ≤ 1000000000000) : (gr n).length ≤ 40000000000 := by
  have := gr_len_pow h
  omega
/- ---------- IndexFunc, ContainsFunc of []uint32 ---------- -/
section
variable {X : List Nat} {w0 : World} {M0 : List Ent} {I0 : List Imm}
theorem idxG_ok {q : Option Addr} {a : List Int} {c : Nat} {g : FuncId} [FnOk Tryz.prog g] {fs cs : Array Value} (pr : Int → Prop) [DecidablePred pr] (hn : (a.length : Int) ≤ 9223372036854775807) (ha : slI q (recs eG a) ∈ I0)
    (hg : ∀ i : Nat, i < a.length → CD Tryz.prog g (fs.toList ++ [Value.int .u32 (gt a i)] ++ cs.toList) X w0 M0 I0 (fun v M I => M0 = M ∧ I0 = I ∧ v = .bool (B (pr (gt a i))))) :
    CD Tryz.prog 251 [.slice q a.length c, .func (.func g) fs cs] X w0 M0 I0 (fun v M I => M0 = M ∧ I0 = I ∧ ∃ r : Int, v = .int .i64 r ∧ ((∃ i : Nat, i < a.length ∧ r = i ∧ pr (gt a i) ∧ ∀ j : Nat, j < i → ¬ pr (gt a j)) ∨ (r = -1 ∧ ∀ j : Nat, j < a.length → ¬ pr (gt a j)))) := by
  refine enterD Tryz.func251 rfl Tryz.ntmps251 rfl ?_
  repeat (refine wXj ?_)
  refine TD_loop [0, 1, 7] rfl (fun k G M I => ∃ i : Nat, i ≤ a.length ∧ k = a.length - i ∧ (∀ j : Nat, j < i → ¬ pr (gt a j)) ∧ G = [(8, .int .i64 i)] ∧ M = M0 ∧ I = I0) (a.length) _ _ _ subG subP incL (⟨0, by omega, rfl, fun j hj => by omega, rfl, rfl, rfl⟩) ?_
  rintro k G M I ⟨i, hi, rfl, hs, rfl, rfl, rfl⟩
  repeat' (first | refine wXj ?_ | (refine TD_isCo ?_; first | refine TD_dec rfl (fun h => ?_) (fun h => ?_) | refine TD_cond rfl (fun h => ?_) (fun h => ?_)) | (refine RD_isGu ?_; first | refine RD_grd rfl rfl (fun h => ?_) (fun h => ?_) | (fail_if_success (refine RD_isW rfl ?_); refine RD_grdB rfl rfl (fun h => ?_) (fun h => ?_))))
  · have hlt : i < a.length := by omega
    (refine RD_callV rfl rfl (hg i hlt) rfl rfl rfl ?_; rintro _ _ _ ⟨rfl, rfl, rfl⟩; refine ⟨okJ, ?_⟩)
    repeat' (first | refine wXj ?_ | (refine TD_isCo ?_; first | refine TD_dec rfl (fun h => ?_) (fun h => ?_) | refine TD_cond rfl (fun h => ?_) (fun h => ?_)) | (refine RD_isGu ?_; first | refine RD_grd rfl rfl (fun h => ?_) (fun h => ?_) | (fail_if_success (refine RD_isW rfl ?_); refine RD_grdB rfl rfl (fun h => ?_) (fun h => ?_))))
    · refine ND_ret1 (by first | exact .inl rfl | exact .inr rfl) rfl rfl _ _ subP incL (⟨rfl, rfl, _, rfl, .inl ⟨i, hlt, rfl, by assumption, hs⟩⟩)
    · refine ND_again (a.length - (i + 1)) _ _ _ (by first | omega | (simp only [List.length_append, List.length_cons, List.length_nil]; omega)) subG subP incL (⟨i + 1, by omega, rfl, fun j hj => ?_, rfl, rfl, rfl⟩)
      by_cases e : j = i
      · subst e; assumption
      · exact hs j (by omega)
  · refine ND_ret1 (by first | exact .inl rfl | exact .inr rfl) rfl rfl _ _ subP incL (⟨rfl, rfl, _, rfl, .inr ⟨rfl, fun j hj => hs j (by omega)⟩⟩)
theorem hasG_ok {q : Option Addr} {a : List Int} {c : Nat} {g : FuncId} [FnOk Tryz.prog g] {fs cs : Array Value} (pr : Int → Prop) [DecidablePred pr] (hn : (a.length : Int) ≤ 9223372036854775807) (ha : slI q (recs eG a) ∈ I0)
    (hg : ∀ i : Nat, i < a.length → CD Tryz.prog g (fs.toList ++ [Value.int .u32 (gt a i)] ++ cs.toList) X w0 M0 I0 (fun v M I => M0 = M ∧ I0 = I ∧ v = .bool (B (pr (gt a i))))) :
    CD Tryz.prog 235 [.slice q a.length c, .func (.func g) fs cs] X w0 M0 I0 (fun v M I => M0 = M ∧ I0 = I ∧ v = .bool (B (∃ x ∈ a, pr x))) := by
  refine enterD Tryz.func235 rfl Tryz.ntmps235 rfl ?_
  repeat (refine wXj ?_)
  (refine RD_call rfl (idxG_ok pr hn ha hg) rfl rfl ?_; rintro _ _ _ ⟨rfl, rfl, r, rfl, h⟩; refine ⟨okJ, ?_⟩)
  repeat (refine wXj ?_)
  refine ND_ret1 (by first | exact .inl rfl | exact .inr rfl) rfl rfl _ _ subP incL (⟨rfl, rfl, congrArg Value.bool (B_congr ?_)⟩)
  rcases h with ⟨i, hi, rfl, hp, _⟩ | ⟨rfl, h⟩
  · exact ⟨fun _ => ⟨gt a i, by rw [gt_get hi]; exact List.getElem_mem hi, hp⟩, fun _ => by omega⟩
  · refine ⟨fun h => by omega, ?_⟩
    rintro ⟨x, hx, hp⟩
    obtain ⟨j, hj, rfl⟩ := List.mem_iff_getElem.1 hx
    exact absurd (by rw [gt_get hj]; exact hp) (h j hj)
end

/- ---------- Clone of []uint32 ---------- -/
section
variable {X : List Nat} {w0 : World} {M0 : List Ent} {I0 : List Imm}
theorem cloneG_ok {q : Option Addr} {a : List Int} {c : Nat} (hn : (a.length : Int) * 4 ≤ 140737488355328) (hok : Ok q ∨ (a.length = 0 ∧ c = 0)) (ha : slI q (recs eG a) ∈ I0) :
    CD Tryz.prog 243 [.slice q a.length c] X w0 M0 I0 (fun v M I => I0 = I ∧ ∃ q' c', v = .slice q' a.length c' ∧ M = .row q' a.length c' (recs eG a) 166 1 :: M0) := by
  refine enterD Tryz.func243 rfl Tryz.ntmps243 rfl ?_
  repeat (refine wXj ?_)
  refine RD_c rfl (fun _ => Const_eqNil rfl) rfl rfl ?_
  cases q with
  | some ad =>
    repeat (refine wXj ?_)
    (refine RD_vals (cs := recs eG []) ([]) rfl rfl (by intro v hv; repeat (first | exact absurd hv (List.not_mem_nil) | (rcases List.mem_cons.1 hv with rfl | hv; · rfl))) (by omega) rfl rfl rfl ?_; intro b1; refine ⟨okJ, ?_⟩)
    repeat (refine wXj ?_)
    refine RD_toRow (mm := 0) 1 repE rfl (by omega) ?_
    refine RD_appR (xs := []) (ys := a) 0 rfl rfl rfl (Src.imm memL hok) (by decide) rfl (by simp; omega) (by simp; omega) rfl rfl ?_
    intro a2 c2
    refine ⟨okJ, ?_⟩
    repeat (refine wXj ?_)
    refine ND_ret1 (by first | exact .inl rfl | exact .inr rfl) rfl rfl _ _ subP incL (⟨rfl, a2, c2, by simp, by simp⟩)
  | none =>
    obtain ⟨h0, rfl⟩ : a.length = 0 ∧ c = 0 := hok.resolve_left (fun h => by obtain ⟨b, o, e⟩ := h.cases; cases e)
    have hnil : a = [] := List.eq_nil_of_length_eq_zero h0
    subst hnil
    repeat (refine wXj ?_)
    refine ND_row0 166 1 ?_
    refine ND_ret1 (by first | exact .inl rfl | exact .inr rfl) rfl rfl _ _ subP incL (⟨rfl, none, 0, rfl, rfl⟩)
end


section
variable {X : List Nat} {w0 : World} {M0 : List Ent} {I0 : List Imm}
theorem made_ok {p : Prop} [Decidable p] {q : Option Addr} {n c k : Nat} (hl : (gr n).length ≤ 100000000000) (hc : OkC q n c) (hk : n ≤ 2 ^ k) (hq : slI q (recs eG (gr n)) ∈ I0) :
    CD Tryz.prog 240 [.bool (B p), .slice q (gr n).length c] X w0 M0 I0 (fun v M I => M0 = M ∧ I = isI v (sg p n) k :: I0) := by
  refine enterD Tryz.func240 rfl Tryz.ntmps240 rfl ?_
  refine TD_seq ?_
  refine TD_region ?_
  (refine RD_alloc rfl rfl ?_; intro b; refine ⟨okJ, ?_⟩)
  repeat (refine wXj ?_)
  (refine RD_call rfl (trim_ok (l := gr n) rfl (by omega) hc.1 hq) rfl rfl ?_; rintro _ _ _ ⟨rfl, rfl, rfl⟩; refine ⟨okJ, ?_⟩)
  rw [trim_fix (gr_top n)]
  by_cases h0 : (gr n).length = 0
  · have hn : n = 0 := gr_nil.1 (List.eq_nil_of_length_eq_zero h0)
    subst hn
    repeat (refine wXj ?_)
    (refine RD_c rfl (fun _ => Const_struct (pvs := ([]).zipIdx.map (fun p => (p.2, p.1))) (cells := [.bool false, .slice none 0 0]) rfl rfl) rfl rfl ?_)
    repeat (refine wXj ?_)
    have hz : sg p 0 = 0 := by unfold sg; split <;> rfl
    rw [hz]
    have hg0 : gr (0 : Int).natAbs = [] := gr_zero
    refine ND_nilS none ?_
    refine ND_closeI (q := none) (c := 0) (z := 0) (k := k) (by rw [hg0]; exact memL) ⟨by rw [hg0]; simp, .inr ⟨by rw [hg0]; rfl, rfl⟩⟩ (by simp) ?_
    have hiv : iv none 0 0 = .agg #[.bool false, .slice none 0 0] := by unfold iv; rw [hg0, B_false (by omega)]; rfl
    rw [hiv]
    refine ND_retC (cs := [.bool false, .slice none 0 0]) (.inl rfl) rfl rfl memL rfl _ _ subP incL ⟨rfl, rfl⟩
  · have hn : n ≠ 0 := fun e => h0 (by rw [e, gr_zero]; rfl)
    repeat (refine wXj ?_)
    (refine RD_c rfl (fun _ => Const_struct (pvs := ([.bool (B p), .slice q (gr n).length c]).zipIdx.map (fun p => (p.2, p.1))) (cells := [.bool (B p), .slice q (gr n).length c]) rfl rfl) rfl rfl ?_)
    repeat (refine wXj ?_)
    have ha := sg_abs p n
    refine ND_closeI (q := q) (c := c) (z := sg p n) (k := k) (by rw [ha]; exact memL) (by rw [ha]; exact hc) (by rw [ha]; exact hk) ?_
    have hiv : iv q c (sg p n) = .agg #[.bool (B p), .slice q (gr n).length c] := by unfold iv; rw [ha, B_congr (sg_lt hn)]
    rw [hiv]
    refine ND_retC (cs := [.bool (B p), .slice q (gr n).length c]) (.inl rfl) rfl rfl memL rfl _ _ subP incL ⟨rfl, rfl⟩
theorem big1_ok {x : Int} : CD Tryz.prog 236 [.int .u32 x] X w0 M0 I0 (fun v M I => M0 = M ∧ I0 = I ∧ v = .bool (B (1000000000 ≤ x))) := by
  refine enterD Tryz.func236 rfl Tryz.ntmps236 rfl ?_
  repeat (refine wXj ?_)
  refine ND_ret1 (by first | exact .inl rfl | exact .inr rfl) rfl rfl _ _ subP incL (⟨rfl, rfl, rfl⟩)
/-- canonical, as a test of what came in -/
def CanR (neg : Bool) (gs : List Int) : Prop := (gs = [] ∧ neg = false) ∨ (gs ≠ [] ∧ Top gs ∧ ¬ ∃ x ∈ gs, 1000000000 ≤ x)
instance (neg : Bool) (gs : List Int) : Decidable (CanR neg gs) := by unfold CanR; exact inferInstance
theorem last_gt {gs : List Int} (h : 0 < gs.length) : gs.getLastD 1 = gt gs ((gs.length : Int) - 1) := by
  rcases List.eq_nil_or_concat gs with rfl | ⟨r, x, e⟩
  · simp at h
  · rw [List.concat_eq_append] at e
    subst e
    have e1 : (((r ++ [x]).length : Int) - 1) = ((r.length : Nat) : Int) := by simp
    rw [e1, gtD]
    simp
theorem Valid_ok {neg : Bool} {q : Option Addr} {gs : List Int} {c : Nat} (hn : (gs.length : Int) ≤ 9223372036854775807) (hq : slI q (recs eG gs) ∈ I0) :
    CD Tryz.prog 193 [.agg #[.bool neg, .slice q gs.length c]] X w0 M0 I0 (fun v M I => M0 = M ∧ I0 = I ∧ v = .bool (B (CanR neg gs))) := by
  refine enterD Tryz.func193 rfl Tryz.ntmps193 rfl ?_
  refine TD_seq ?_
  refine TD_region ?_
  (refine RD_box rfl rfl rfl ?_; intro b; refine ⟨okJ, ?_⟩)
  by_cases h0 : gs.length = 0
  · have hg : gs = [] := List.eq_nil_of_length_eq_zero h0
    subst hg
    repeat (refine wXj ?_)
    refine ND_ret1 (by first | exact .inl rfl | exact .inr rfl) rfl rfl _ _ subP incL (⟨rfl, rfl, by rw [show (!neg) = B (CanR neg []) by rw [B_eq]; cases neg <;> simp [CanR]]⟩)
  · have hgs : gs ≠ [] := fun e => h0 (by rw [e]; rfl)
    have hlast := last_gt (gs := gs) (by omega)
    repeat' (first | refine wXj ?_ | (refine TD_isCo ?_; first | refine TD_dec rfl (fun h => ?_) (fun h => ?_) | refine TD_cond rfl (fun h => ?_) (fun h => ?_)) | (refine RD_isGu ?_; first | refine RD_grd rfl rfl (fun h => ?_) (fun h => ?_) | (fail_if_success (refine RD_isW rfl ?_); refine RD_grdB rfl rfl (fun h => ?_) (fun h => ?_))))
    · (refine RD_call rfl (hasG_ok (fun x => 1000000000 ≤ x) hn hq (fun i hi => big1_ok)) rfl rfl ?_; rintro _ _ _ ⟨rfl, rfl, rfl⟩; refine ⟨okJ, ?_⟩)
      repeat (refine wXj ?_)
      refine ND_ret1 (by first | exact .inl rfl | exact .inr rfl) rfl rfl _ _ subP incL (⟨rfl, rfl, congrArg Value.bool (B_congr ?_)⟩)
      unfold CanR Top
      rw [hlast]
      exact ⟨fun h => .inr ⟨hgs, by assumption, h⟩, fun h => h.elim (fun h => absurd h.1 hgs) (fun h => h.2.2)⟩
    · refine ND_ret1 (by first | exact .inl rfl | exact .inr rfl) rfl rfl _ _ subP incL (⟨rfl, rfl, congrArg Value.bool (B_false ?_).symm⟩)
      unfold CanR Top
      rw [hlast]
      rintro (h | h)
      · exact hgs h.1
      · exact absurd h.2.1 (by assumption)
theorem can_of (z : Int) : CanR (B (z < 0)) (gr z.natAbs) := by
  by_cases h : z.natAbs = 0
  · refine .inl ⟨by rw [h, gr_zero], B_false (by omega)⟩
  · refine .inr ⟨fun e => h (gr_nil.1 e), gr_top _, ?_⟩
    rintro ⟨x, hx, h1⟩
    have := gr_dig z.natAbs x hx
    omega
theorem groups_ok {q : Option Addr} {c k : Nat} {z : Int} (hz : z.natAbs ≤ 2 ^ k) (hk : k ≤ 1000000000000) (hq : slI q (recs eG (gr z.natAbs)) ∈ I0) :
    CD Tryz.prog 226 [iv q c z] X w0 M0 I0 (fun v M I => M0 = M ∧ I0 = I ∧ v = .slice q (gr z.natAbs).length c) := by
  have hl := len_pow hz hk
  unfold iv
  refine enterD Tryz.func226 rfl Tryz.ntmps226 rfl ?_
  refine TD_seq ?_
  refine TD_region ?_
  (refine RD_box rfl rfl rfl ?_; intro b; refine ⟨okJ, ?_⟩)
  repeat (refine wXj ?_)
  (refine RD_call rfl (Valid_ok (neg := B (z < 0)) (gs := gr z.natAbs) (by omega) hq) rfl rfl ?_; rintro _ _ _ ⟨rfl, rfl, rfl⟩; refine ⟨okJ, ?_⟩)
  rw [B_true (can_of z)]
  repeat (refine wXj ?_)
  refine ND_ret1 (by first | exact .inl rfl | exact .inr rfl) rfl rfl _ _ subP incL (⟨rfl, rfl, rfl⟩)
theorem Sign_ok {u : Value} {z : Int} {k : Nat} (hk : k ≤ 1000000000000) (hu : isI u z k ∈ I0) : CD Tryz.prog 178 [u] X w0 M0 I0 (fun v M I => M0 = M ∧ I0 = I ∧ v = .int .i64 z.sign) := by
  refine CD_openI hu (fun q c e hc hz => ?_)
  subst e
  unfold iv
  refine enterD Tryz.func178 rfl Tryz.ntmps178 rfl ?_
  refine TD_seq ?_
  refine TD_region ?_
  (refine RD_box rfl rfl rfl ?_; intro b; refine ⟨okJ, ?_⟩)
  repeat (refine wXj ?_)
  (refine RD_call rfl (groups_ok (c := c) hz hk memL) rfl rfl ?_; rintro _ _ _ ⟨rfl, rfl, rfl⟩; refine ⟨okJ, ?_⟩)
  have hnil : (gr z.natAbs).length = 0 ↔ z = 0 := by
    rw [List.length_eq_zero_iff, gr_nil]; omega
  by_cases h0 : z = 0
  · have := hnil.2 h0
    repeat (refine wXj ?_)
    refine ND_ret1 (by first | exact .inl rfl | exact .inr rfl) rfl rfl _ _ subP incL (⟨rfl, rfl, by rw [h0]; rfl⟩)
  · have : ¬ (gr z.natAbs).length = 0 := fun h => h0 (hnil.1 h)
    repeat' (first | refine wXj ?_ | (refine TD_isCo ?_; first | refine TD_dec rfl (fun h => ?_) (fun h => ?_) | refine TD_cond rfl (fun h => ?_) (fun h => ?_)) | (refine RD_isGu ?_; first | refine RD_grd rfl rfl (fun h => ?_) (fun h => ?_) | (fail_if_success (refine RD_isW rfl ?_); refine RD_grdB rfl rfl (fun h => ?_) (fun h => ?_))))
    · refine ND_ret1 (by first | exact .inl rfl | exact .inr rfl) rfl rfl _ _ subP incL (⟨rfl, rfl, by rw [Int.sign_eq_neg_one_of_neg (by assumption)]⟩)
    · refine ND_ret1 (by first | exact .inl rfl | exact .inr rfl) rfl rfl _ _ subP incL (⟨rfl, rfl, by rw [Int.sign_eq_one_of_pos (by omega)]⟩)
theorem Neg_ok {u : Value} {z : Int} {k : Nat} (hk : k ≤ 1000000000000) (hu : isI u z k ∈ I0) : CD Tryz.prog 205 [u] X w0 M0 I0 (fun v M I => M0 = M ∧ I = isI v (-z) k :: I0) := by
  refine CD_openI hu (fun q c e hc hz => ?_)
  subst e
  have hl := len_pow hz hk
  unfold iv
  refine enterD Tryz.func205 rfl Tryz.ntmps205 rfl ?_
  refine TD_seq ?_
  refine TD_region ?_
  (refine RD_box rfl rfl rfl ?_; intro b; refine ⟨okJ, ?_⟩)
  (refine RD_alloc rfl rfl ?_; intro b2; refine ⟨okJ, ?_⟩)
  repeat' (first | refine TD_region ?_ | refine TD_ret ?_ | refine TD_skip ?_ | refine TD_label ?_ | refine TD_block ?_ | refine TD_exit ?_ | refine ND_then ?_ | refine ND_thenR ?_ | refine ND_thenE ?_ | refine ND_inN ?_ | refine ND_inR ?_ | refine ND_inE ?_ | refine ND_inO rfl ?_ | refine RD_nil ?_ | (refine RD_isGu ?_; first | refine RD_skip rfl rfl rfl ?_ | (refine RD_isEf rfl rfl ?_; refine RD_skipE rfl rfl rfl okJ ?_) | refine RD_grdY rfl rfl (by omega) ?_ | refine RD_grdN rfl rfl (by omega) ?_ | refine RD_grd rfl rfl (fun h => ?_) (fun h => ?_) | (fail_if_success (refine RD_isW rfl ?_); refine RD_grdB rfl rfl (fun h => ?_) (fun h => ?_))) | (refine RD_isUn ?_; refine RD_c rfl (fun _ => Const_notB rfl) rfl rfl ?_) | refine RD_c rfl (fun _ => Const_pure rfl) rfl rfl ?_ | (refine RD_isBi ?_; first | refine RD_c rfl (fun _ => Const_add rfl rfl w_) rfl rfl ?_ | refine RD_c rfl (fun _ => Const_sub rfl rfl w_) rfl rfl ?_ | refine RD_c rfl (fun _ => Const_mul rfl rfl w_) rfl rfl ?_ | refine RD_c rfl (fun _ => Const_quo rfl rfl (by omega) q_) rfl rfl ?_ | refine RD_c rfl (fun _ => Const_rem rfl rfl (by omega) rfl) rfl rfl ?_ | refine RD_c rfl (fun _ => Const_half rfl rfl) rfl rfl ?_ | refine RD_c rfl (fun _ => Const_eqBB rfl rfl) rfl rfl ?_ | refine RD_c rfl (fun _ => Const_neBB rfl rfl) rfl rfl ?_) | (refine RD_isUn ?_; first | refine RD_c rfl (fun _ => Const_neg rfl w_) rfl rfl ?_) | (refine RD_isCv ?_; first | refine RD_c rfl (fun _ => Const_conv rfl w_) rfl rfl ?_) | (refine RD_isCa ?_; first | refine RD_c rfl (fun _ => Const_len rfl) rfl rfl ?_ | refine RD_c rfl (fun _ => Const_minM rfl rfl) rfl rfl ?_ | refine RD_c rfl (fun _ => Const_maxM rfl rfl) rfl rfl ?_ | refine RD_c rfl (fun _ => Const_min3 rfl rfl rfl) rfl rfl ?_) | (refine RD_isFa ?_; first | refine RD_fldP rfl (by decide) rfl rfl ?_ | refine RD_fld rfl (by decide) rfl rfl ?_) | (refine RD_isIx ?_; first | refine RD_ixB rfl rfl bdI rfl rfl ?_ | refine RD_ixI vwJ rfl rfl bdI memL posC rfl rfl ?_ | refine RD_ixR vwJ rfl rfl bdI memL posC rfl rfl ?_ | refine RD_c rfl (fun _ => Const_indexA rfl rfl bdI) rfl rfl ?_) | (refine RD_isLd ?_; first | refine RD_ldI vwJ rfl memL atC rfl rfl ?_ | refine RD_ldR vwJ rfl memL atC rfl rfl ?_ | refine RD_ldB vwJ rfl memL atC rfl rfl ?_ | refine RD_ldIB vwJ rfl memL atC rfl rfl ?_ | refine RD_ldNI vwJ rfl memL atsC lenC rfl rfl ?_ | refine RD_ldNR vwJ rfl memL atsC lenC rfl rfl ?_ | refine RD_ldNB vwJ rfl memL atsC lenC rfl rfl ?_ | refine RD_ldNIB vwJ rfl memL atsC lenC rfl rfl ?_) | (refine RD_isFd ?_; first | refine RD_c rfl (fun _ => Const_field1 rfl rfl) rfl rfl ?_ | refine RD_c rfl (fun _ => Const_fieldN rfl) rfl rfl ?_) | (refine RD_isSt ?_; first | refine RD_st rfl rfl rfl repE stC rfl rfl ⟨okJ, ?_⟩ | refine RD_stN rfl rfl lenC oneC repE stsC rfl rfl ⟨okJ, ?_⟩) | (refine TD_isCo ?_; first | refine TD_cond_true rfl ?_ | refine TD_cond_false rfl ?_ | refine TD_yes rfl (by omega) ?_ | refine TD_no rfl (by omega) ?_ | refine TD_dec rfl (fun h => ?_) (fun h => ?_) | refine TD_cond rfl (fun h => ?_) (fun h => ?_)))
  (repeat refine TD_seq ?_); refine TD_drawnJ 3 [0, 1, 2, 3, 4, 5, 6, 7] [3, 3, 2, 2, 0, 0, 0, 0] mixed (by kernel_rfl) ?_
  repeat (refine wXj ?_)
  (refine RD_call rfl (groups_ok (c := c) hz hk memL) rfl rfl ?_; rintro _ _ _ ⟨rfl, rfl, rfl⟩; refine ⟨okJ, ?_⟩)
  repeat (refine wXj ?_)
  (refine RD_call rfl (cloneG_ok (a := gr z.natAbs) (by omega) hc.2 memL) rfl rfl ?_; rintro _ _ _ ⟨rfl, q', c', rfl, rfl⟩; refine ⟨okJ, ?_⟩)
  refine RD_fact (fun w hw => And.intro (hw.rowLe (List.Mem.head _)) ((hw.rowS (List.Mem.head _)).2.imp id And.right)) (fun hc' => ?_)
  refine RD_freezeR remE ?_
  repeat (refine wXj ?_)
  rw [← sg_neg z]
  (refine RD_call rfl (made_ok (p := ¬ z < 0) (k := k) (by omega) hc' hz memL) rfl rfl ?_; rintro _ _ _ ⟨rfl, rfl⟩; refine ⟨okJ, ?_⟩; refine RD_openI (List.Mem.head _) (fun q2 c2 e__ hc2 hz2 => ?_); subst e__)
  unfold iv
  repeat (refine wXj ?_)
  refine ND_retC (cs := [.bool (B (sg (¬ z < 0) z.natAbs < 0)), .slice q2 (gr (sg (¬ z < 0) z.natAbs).natAbs).length c2]) (.inl rfl) rfl rfl memL rfl _ _ subP incL ⟨rfl, rfl⟩
theorem Mul_ok {u v : Value} {y z : Int} {k m : Nat} (hk : k + m ≤ 1000000000000) (hu : isI u y k ∈ I0) (hv : isI v z m ∈ I0) : CD Tryz.prog 209 [u, v] X w0 M0 I0 (fun v M I => M0 = M ∧ I = isI v (y * z) (k + m) :: I0) := by
  refine CD_openI hu (fun q c e hc hy => ?_)
  subst e
  refine CD_openI (List.Mem.tail _ hv) (fun q' c' e hc' hz => ?_)
  subst e
  have hl := len_pow hy (by omega)
  have hl' := len_pow hz (by omega)
  unfold iv
  refine enterD Tryz.func209 rfl Tryz.ntmps209 rfl ?_
  refine TD_seq ?_
  refine TD_region ?_
  (refine RD_box rfl rfl rfl ?_; intro b; refine ⟨okJ, ?_⟩)
  (refine RD_box rfl rfl rfl ?_; intro b2; refine ⟨okJ, ?_⟩)
  (refine RD_alloc rfl rfl ?_; intro b3; refine ⟨okJ, ?_⟩)
  repeat' (first | refine TD_region ?_ | refine TD_ret ?_ | refine TD_skip ?_ | refine TD_label ?_ | refine TD_block ?_ | refine TD_exit ?_ | refine ND_then ?_ | refine ND_thenR ?_ | refine ND_thenE ?_ | refine ND_inN ?_ | refine ND_inR ?_ | refine ND_inE ?_ | refine ND_inO rfl ?_ | refine RD_nil ?_ | (refine RD_isGu ?_; first | refine RD_skip rfl rfl rfl ?_ | (refine RD_isEf rfl rfl ?_; refine RD_skipE rfl rfl rfl okJ ?_) | refine RD_grdY rfl rfl (by omega) ?_ | refine RD_grdN rfl rfl (by omega) ?_ | refine RD_grd rfl rfl (fun h => ?_) (fun h => ?_) | (fail_if_success (refine RD_isW rfl ?_); refine RD_grdB rfl rfl (fun h => ?_) (fun h => ?_))) | (refine RD_isUn ?_; refine RD_c rfl (fun _ => Const_notB rfl) rfl rfl ?_) | refine RD_c rfl (fun _ => Const_pure rfl) rfl rfl ?_ | (refine RD_isBi ?_; first | refine RD_c rfl (fun _ => Const_add rfl rfl w_) rfl rfl ?_ | refine RD_c rfl (fun _ => Const_sub rfl rfl w_) rfl rfl ?_ | refine RD_c rfl (fun _ => Const_mul rfl rfl w_) rfl rfl ?_ | refine RD_c rfl (fun _ => Const_quo rfl rfl (by omega) q_) rfl rfl ?_ | refine RD_c rfl (fun _ => Const_rem rfl rfl (by omega) rfl) rfl rfl ?_ | refine RD_c rfl (fun _ => Const_half rfl rfl) rfl rfl ?_ | refine RD_c rfl (fun _ => Const_eqBB rfl rfl) rfl rfl ?_ | refine RD_c rfl (fun _ => Const_neBB rfl rfl) rfl rfl ?_) | (refine RD_isUn ?_; first | refine RD_c rfl (fun _ => Const_neg rfl w_) rfl rfl ?_) | (refine RD_isCv ?_; first | refine RD_c rfl (fun _ => Const_conv rfl w_) rfl rfl ?_) | (refine RD_isCa ?_; first | refine RD_c rfl (fun _ => Const_len rfl) rfl rfl ?_ | refine RD_c rfl (fun _ => Const_minM rfl rfl) rfl rfl ?_ | refine RD_c rfl (fun _ => Const_maxM rfl rfl) rfl rfl ?_ | refine RD_c rfl (fun _ => Const_min3 rfl rfl rfl) rfl rfl ?_) | (refine RD_isFa ?_; first | refine RD_fldP rfl (by decide) rfl rfl ?_ | refine RD_fld rfl (by decide) rfl rfl ?_) | (refine RD_isIx ?_; first | refine RD_ixB rfl rfl bdI rfl rfl ?_ | refine RD_ixI vwJ rfl rfl bdI memL posC rfl rfl ?_ | refine RD_ixR vwJ rfl rfl bdI memL posC rfl rfl ?_ | refine RD_c rfl (fun _ => Const_indexA rfl rfl bdI) rfl rfl ?_) | (refine RD_isLd ?_; first | refine RD_ldI vwJ rfl memL atC rfl rfl ?_ | refine RD_ldR vwJ rfl memL atC rfl rfl ?_ | refine RD_ldB vwJ rfl memL atC rfl rfl ?_ | refine RD_ldIB vwJ rfl memL atC rfl rfl ?_ | refine RD_ldNI vwJ rfl memL atsC lenC rfl rfl ?_ | refine RD_ldNR vwJ rfl memL atsC lenC rfl rfl ?_ | refine RD_ldNB vwJ rfl memL atsC lenC rfl rfl ?_ | refine RD_ldNIB vwJ rfl memL atsC lenC rfl rfl ?_) | (refine RD_isFd ?_; first | refine RD_c rfl (fun _ => Const_field1 rfl rfl) rfl rfl ?_ | refine RD_c rfl (fun _ => Const_fieldN rfl) rfl rfl ?_) | (refine RD_isSt ?_; first | refine RD_st rfl rfl rfl repE stC rfl rfl ⟨okJ, ?_⟩ | refine RD_stN rfl rfl lenC oneC repE stsC rfl rfl ⟨okJ, ?_⟩) | (refine TD_isCo ?_; first | refine TD_cond_true rfl ?_ | refine TD_cond_false rfl ?_ | refine TD_yes rfl (by omega) ?_ | refine TD_no rfl (by omega) ?_ | refine TD_dec rfl (fun h => ?_) (fun h => ?_) | refine TD_cond rfl (fun h => ?_) (fun h => ?_)))
  (repeat refine TD_seq ?_); refine TD_drawnJ 4 [0, 1, 2, 3, 4, 5, 7, 6, 8, 9, 10, 11] [4, 4, 4, 4, 3, 3, 3, 0, 0, 0, 0, 0] mixed (by kernel_rfl) ?_
  repeat (refine wXj ?_)
  (refine RD_call rfl (groups_ok (c := c) hy (by omega) memL) rfl rfl ?_; rintro _ _ _ ⟨rfl, rfl, rfl⟩; refine ⟨okJ, ?_⟩)
  repeat (refine wXj ?_)
  (refine RD_call rfl (groups_ok (c := c') hz (by omega) memL) rfl rfl ?_; rintro _ _ _ ⟨rfl, rfl, rfl⟩; refine ⟨okJ, ?_⟩)
  repeat (refine wXj ?_)
  (refine RD_call rfl (times_ok (by omega) (by omega) memL memL) rfl rfl ?_; rintro _ _ _ ⟨rfl, q3, c3, rfl, hc3, rfl⟩; refine ⟨okJ, ?_⟩)
  have hyz : y.natAbs * z.natAbs ≤ 2 ^ (k + m) := nat_mul_pow hy hz
  have hl3 := len_pow hyz (by omega)
  have hsg : sg (¬ (y < 0 ↔ z < 0)) (y.natAbs * z.natAbs) = y * z := by
    unfold sg
    rw [Int.natCast_mul]
    by_cases h1 : y < 0 <;> by_cases h2 : z < 0 <;> simp only [h1, h2, not_true_eq_false, not_false_eq_true, iff_true, iff_false, if_true, if_false]
    · rw [show (y.natAbs : Int) = -y by omega, show (z.natAbs : Int) = -z by omega, Int.neg_mul_neg]
    · rw [show (y.natAbs : Int) = -y by omega, show (z.natAbs : Int) = z by omega, Int.neg_mul, Int.neg_neg]
    · rw [show (y.natAbs : Int) = y by omega, show (z.natAbs : Int) = -z by omega, Int.mul_neg, Int.neg_neg]
    · rw [show (y.natAbs : Int) = y by omega, show (z.natAbs : Int) = z by omega]
  rw [← hsg]
  (refine RD_call rfl (made_ok (p := ¬ (y < 0 ↔ z < 0)) (k := k + m) (by omega) hc3 hyz memL) rfl rfl ?_; rintro _ _ _ ⟨rfl, rfl⟩; refine ⟨okJ, ?_⟩; refine RD_openI (List.Mem.head _) (fun q2 c2 e__ hc2 hz2 => ?_); subst e__)
  unfold iv
  repeat (refine wXj ?_)
  refine ND_retC (cs := [.bool (B (sg (¬ (y < 0 ↔ z < 0)) (y.natAbs * z.natAbs) < 0)), .slice q2 (gr (sg (¬ (y < 0 ↔ z < 0)) (y.natAbs * z.natAbs)).natAbs).length c2]) (.inl rfl) rfl rfl memL rfl _ _ subP incL ⟨rfl, rfl⟩
end
end Go.Proofs.YtllaoaobnnondaaGreatR

/- matrix: zero, symmetric. Symmetric elimination, plain: pivots and leading determinants; the quadratic form as a sum of squares; witnesses. matrix.eliminate: orders of memory; a row subtracted. -/
import Derived.Test.YtdmlebigkakplaaGreatZdai
import Derived.Test.YtdmlebigkakplaaGreatZdae
import Derived.Test.YtdmlebigkakplaaGreatZdag
import Derived.Test.YtdmlebigkakplaaGreatZdaa
set_option linter.unusedSimpArgs false
set_option linter.unusedVariables false
namespace Go.Proofs.YtdmlebigkakplaaGreat
open Go Go.Fx
/- ---------- IndexFunc, ContainsFunc of []fiducial/api.Rat ---------- -/
section
variable {X : List Nat} {w0 : World} {M0 : List Ent} {I0 : List Imm}
theorem idxRX_ok {q : Option Addr} {a : List RE} {c : Nat} {g : FuncId} [FnOk Tryz.prog g] {fs cs : Array Value} (pr : RE → Prop) [DecidablePred pr] (hn : (a.length : Int) ≤ 9223372036854775807) (ha : slI q (recs eR a) ∈ I0)
    (hg : ∀ i : Nat, i < a.length → CD Tryz.prog g (fs.toList ++ [rv (gt a i)] ++ cs.toList) X w0 M0 I0 (fun v M I => M0 = M ∧ I0 = I ∧ v = .bool (B (pr (gt a i))))) :
    CD Tryz.prog 240 [.slice q a.length c, .func (.func g) fs cs] X w0 M0 I0 (fun v M I => M0 = M ∧ I0 = I ∧ ∃ r : Int, v = .int .i64 r ∧ ((∃ i : Nat, i < a.length ∧ r = i ∧ pr (gt a i) ∧ ∀ j : Nat, j < i → ¬ pr (gt a j)) ∨ (r = -1 ∧ ∀ j : Nat, j < a.length → ¬ pr (gt a j)))) := by
  refine enterD2 Tryz.func240 rfl Tryz.ntmps240 rfl ?_
  repeat (refine wXh ?_)
  refine TD_loop [0, 1, 7] rfl (fun k G M I => ∃ i : Nat, i ≤ a.length ∧ k = a.length - i ∧ (∀ j : Nat, j < i → ¬ pr (gt a j)) ∧ G = [(8, .int .i64 i)] ∧ M = M0 ∧ I = I0) (a.length) _ _ _ subG subF incF (⟨0, by omega, rfl, fun j hj => by omega, rfl, rfl, rfl⟩) ?_
  rintro k G M I ⟨i, hi, rfl, hs, rfl, rfl, rfl⟩
  repeat' (first | refine wXh ?_ | (refine TD_isCo ?_; first | refine TD_dec rfl (fun h => ?_) (fun h => ?_) | refine TD_cond rfl (fun h => ?_) (fun h => ?_)) | (refine RD_isGu ?_; first | refine RD_grd rfl rfl (fun h => ?_) (fun h => ?_) | (fail_if_success (refine RD_isW rfl ?_); refine RD_grdB rfl rfl (fun h => ?_) (fun h => ?_))))
  · have hlt : i < a.length := by omega
    (refine RD_callVS rfl rfl (hg i hlt) rfl rfl rfl ?_; rintro _ _ _ ⟨rfl, rfl, rfl⟩; refine ⟨okF, ?_⟩)
    repeat' (first | refine wXh ?_ | (refine TD_isCo ?_; first | refine TD_dec rfl (fun h => ?_) (fun h => ?_) | refine TD_cond rfl (fun h => ?_) (fun h => ?_)) | (refine RD_isGu ?_; first | refine RD_grd rfl rfl (fun h => ?_) (fun h => ?_) | (fail_if_success (refine RD_isW rfl ?_); refine RD_grdB rfl rfl (fun h => ?_) (fun h => ?_))))
    · refine ND_ret1 (by first | exact .inl rfl | exact .inr rfl) rfl rfl _ _ subF incF (⟨rfl, rfl, _, rfl, .inl ⟨i, hlt, rfl, by assumption, hs⟩⟩)
    · refine ND_again (a.length - (i + 1)) _ _ _ (by first | omega | (simp only [List.length_append, List.length_cons, List.length_nil]; omega)) subG subF incF (⟨i + 1, by omega, rfl, fun j hj => ?_, rfl, rfl, rfl⟩)
      by_cases e : j = i
      · subst e; assumption
      · exact hs j (by omega)
  · refine ND_ret1 (by first | exact .inl rfl | exact .inr rfl) rfl rfl _ _ subF incF (⟨rfl, rfl, _, rfl, .inr ⟨rfl, fun j hj => hs j (by omega)⟩⟩)
theorem hasRX_ok {q : Option Addr} {a : List RE} {c : Nat} {g : FuncId} [FnOk Tryz.prog g] {fs cs : Array Value} (pr : RE → Prop) [DecidablePred pr] (hn : (a.length : Int) ≤ 9223372036854775807) (ha : slI q (recs eR a) ∈ I0)
    (hg : ∀ i : Nat, i < a.length → CD Tryz.prog g (fs.toList ++ [rv (gt a i)] ++ cs.toList) X w0 M0 I0 (fun v M I => M0 = M ∧ I0 = I ∧ v = .bool (B (pr (gt a i))))) :
    CD Tryz.prog 199 [.slice q a.length c, .func (.func g) fs cs] X w0 M0 I0 (fun v M I => M0 = M ∧ I0 = I ∧ v = .bool (B (∃ x ∈ a, pr x))) := by
  refine enterD2 Tryz.func199 rfl Tryz.ntmps199 rfl ?_
  repeat (refine wXh ?_)
  (refine RD_callS rfl (idxRX_ok pr hn ha hg) rfl rfl ?_; rintro _ _ _ ⟨rfl, rfl, r, rfl, h⟩; refine ⟨okF, ?_⟩)
  repeat (refine wXh ?_)
  refine ND_ret1 (by first | exact .inl rfl | exact .inr rfl) rfl rfl _ _ subF incF (⟨rfl, rfl, congrArg Value.bool (B_congr ?_)⟩)
  rcases h with ⟨i, hi, rfl, hp, _⟩ | ⟨rfl, h⟩
  · exact ⟨fun _ => ⟨gt a i, by rw [gt_get hi]; exact List.getElem_mem hi, hp⟩, fun _ => by omega⟩
  · refine ⟨fun h => by omega, ?_⟩
    rintro ⟨x, hx, hp⟩
    obtain ⟨j, hj, rfl⟩ := List.mem_iff_getElem.1 hx
    exact absurd (by rw [gt_get hj]; exact hp) (h j hj)
end

/-- every element is 0 -/
def zeroL (l : List Rat) : Prop := ∀ x ∈ l, x = 0
instance (l : List Rat) : Decidable (zeroL l) := inferInstanceAs (Decidable (∀ x ∈ l, x = 0))
/-- the lower half is the upper one -/
def symM (A : Mt) (n : Nat) : Prop := ∀ i, i < n → ∀ j, j < i → at2 A i j = at2 A j i
instance (A : Mt) (n : Nat) : Decidable (symM A n) := inferInstanceAs (Decidable (∀ i, i < n → ∀ j, j < i → at2 A i j = at2 A j i))
def symC (A : Mt) (n : Nat) : Int := if symM A n then 0 else 11
section
variable {X : List Nat} {w0 : World} {M0 : List Ent} {I0 : List Imm}
theorem zero1_ok {e : RE} {k : Nat} (hk : k ≤ 100000000) (he : Hv I0 (isR e k)) : CD Tryz.prog 234 [rv e] X w0 M0 I0 (fun v M I => M0 = M ∧ I0 = I ∧ v = .bool (B (e.q ≠ 0))) := by
  refine enterD1 Tryz.func234 rfl Tryz.ntmps234 rfl ?_
  refine TD_seq ?_
  refine TD_region ?_
  (refine RD_boxA rfl rfl rfl ?_; intro b; refine ⟨okF, ?_⟩)
  repeat (refine wXh ?_)
  (refine RD_callS rfl (QSign_ok (k := k) (by omega) he) rfl rfl ?_; rintro _ _ _ ⟨rfl, rfl, rfl⟩; refine ⟨okF, ?_⟩)
  repeat (refine wXh ?_)
  refine ND_ret1 (by first | exact .inl rfl | exact .inr rfl) rfl rfl _ _ subF incF (⟨rfl, rfl, congrArg Value.bool (B_congr (not_congr (sign0 _)))⟩)
theorem mzero_ok {a : RL} {k : Nat} (hk : k ≤ 100000000) (hl : a.es.length ≤ 1000000) (ha : isL a k ∈ I0) : CD Tryz.prog 181 [lv a] X w0 M0 I0 (fun v M I => M0 = M ∧ I0 = I ∧ v = .bool (B (zeroL a.q))) := by
  refine CD_hv (φ := slI a.p (recs eR a.es)) (Hv.lsl ha) ?_
  refine enterD1 Tryz.func181 rfl Tryz.ntmps181 rfl ?_
  repeat (refine wXh ?_)
  (refine RD_callS rfl (hasRX_ok (g := 234) (fs := #[]) (cs := #[]) (fun (x : RE) => x.q ≠ 0) (by omega) (List.Mem.head _) (fun i hi => zero1_ok hk (Hv.lel (List.Mem.tail _ ha) (by omega)))) rfl rfl ?_; rintro _ _ _ ⟨rfl, rfl, rfl⟩; refine ⟨okF, ?_⟩)
  repeat (refine wXh ?_)
  refine ND_ret1 (by first | exact .inl rfl | exact .inr rfl) rfl rfl _ _ subF incF (⟨rfl, rfl, congrArg Value.bool (B_congr ?_)⟩)
  constructor
  · intro h x hx
    obtain ⟨e, he, rfl⟩ := List.mem_map.1 hx
    exact Decidable.of_not_not (fun hn => h ⟨e, he, hn⟩)
  · rintro h ⟨e, he, hn⟩
    exact hn (h _ (List.mem_map.2 ⟨e, he, rfl⟩))
set_option maxRecDepth 100000 in
theorem symmetric_bad {a : WM} (sa : a.sml) (hc : sqC a ≠ 0) (ha : isWM a ∈ I0) : CD Tryz.prog 177 [mvW a] X w0 M0 I0 (fun v M I => M0 = M ∧ I0 = I ∧ v = .int .i64 (sqC a)) := by
  have hC := fun M0 I0 h1 => square_ok (X := X) (w0 := w0) (M0 := M0) (I0 := I0) (a := a) sa h1
  generalize sqC a = cc at *
  refine enterD1 Tryz.func177 rfl Tryz.ntmps177 rfl ?_
  repeat (refine wXh ?_)
  (refine RD_callS rfl (hC _ _ memF) rfl rfl ?_; rintro _ _ _ ⟨rfl, rfl, rfl⟩; refine ⟨okF, ?_⟩)
  repeat (refine wXh ?_)
  refine ND_ret1 (by first | exact .inl rfl | exact .inr rfl) rfl rfl _ _ subF incF (⟨rfl, rfl, rfl⟩)
set_option maxRecDepth 100000 in
set_option maxHeartbeats 1000000 in
theorem symmetric_ok {a : MX} {n k : Nat} (hk : k ≤ 20000000) (da : a.fit n n) (ha : isX a k ∈ I0) : CD Tryz.prog 177 [mv a] X w0 M0 I0 (fun v M I => M0 = M ∧ I0 = I ∧ v = .int .i64 (symC a.q n)) := by
  obtain ⟨n1, n2⟩ := da.2.1
  have lR := da.1.1
  refine xCD_fact (fun w hw => Mem.xsml ha da hk hw) (fun sa => ?_)
  have hC := fun M0 I0 h1 => square_ok (X := X) (w0 := w0) (M0 := M0) (I0 := I0) (a := a.raw) sa h1
  have e0 : sqC a.raw = 0 := by
    unfold sqC
    rw [if_pos da.ok, a.raw_rows, MX.raw_c0 da, da.1.1, if_pos rfl]
  rw [e0, mv_raw] at hC
  refine CD_hv (φ := isWM a.raw) (Hv.xraw ha (by omega)) ?_
  refine CD_hv (φ := slI (a).p (recs eL (a).rows)) (Hv.xsl memF) ?_
  refine enterD1 Tryz.func177 rfl Tryz.ntmps177 rfl ?_
  repeat (refine wXh ?_)
  (refine RD_callS rfl (hC _ _ memF) rfl rfl ?_; rintro _ _ _ ⟨rfl, rfl, rfl⟩; refine ⟨okF, ?_⟩)
  repeat (refine wXh ?_)
  clear hC
  refine TD_loop [0, 12] rfl (fun k G M I => ∃ i : Nat, i ≤ n ∧ k = n - i ∧ (∀ x, x < i → ∀ y, y < x → at2 a.q x y = at2 a.q y x) ∧ G = [(13, .int .i64 i)] ∧ M0 = M ∧ I = slI a.p (recs eL a.rows) :: isWM a.raw :: I0) (n) _ _ _ subG subF incF (⟨0, by omega, rfl, fun x hx => by omega, rfl, rfl, rfl⟩) ?_
  rintro kk G M I ⟨i, hi, rfl, hs, rfl, rfl, rfl⟩
  by_cases hin : i < n
  · repeat (refine wXh ?_)
    refine TD_loop [0, 4, 12, 13, 16] rfl (fun k G M I => ∃ j : Nat, j ≤ i ∧ k = i - j ∧ (∀ y, y < j → at2 a.q i y = at2 a.q y i) ∧ G = [(17, .int .i64 j)] ∧ M0 = M ∧ I = slI a.p (recs eL a.rows) :: isWM a.raw :: I0) (i) _ _ _ subG subF incF (⟨0, by omega, rfl, fun x hx => by omega, rfl, rfl, rfl⟩) ?_
    rintro kk G M I ⟨j, hj, rfl, ht, rfl, rfl, rfl⟩
    by_cases hji : j < i
    · have li := da.1.row hin
      have lj := da.1.row (show j < n by omega)
      refine TD_hv (φ := slI (gt (a).rows (i : Int)).p (recs eR (gt (a).rows (i : Int)).es)) (Hv.xrsl memF (by omega)) ?_
      refine TD_hv (φ := slI (gt (a).rows (j : Int)).p (recs eR (gt (a).rows (j : Int)).es)) (Hv.xrsl memF (by omega)) ?_
      have q1 := at2_q (m := a) (i := i) (j := j) (by omega) (by omega)
      have q2 := at2_q (m := a) (i := j) (j := i) (by omega) (by omega)
      have hQ := fun M0 I0 h1 h2 => QCompare_ok (X := X) (w0 := w0) (M0 := M0) (I0 := I0) (a := gt (gt a.rows (i : Int)).es (j : Int)) (b := gt (gt a.rows (j : Int)).es (i : Int)) (k := k) (m := k) (by omega) h1 h2
      by_cases he : at2 a.q i j = at2 a.q j i
      · rw [cmpR_eq.2 (by rw [← q1, ← q2]; exact he)] at hQ
        repeat (refine wXh ?_)
        (repeat refine TD_seq ?_); refine TD_drawnJ 1 [0, 1, 2, 3, 4, 5, 6, 7, 8, 9, 10, 11, 12, 13, 14, 15] [1, 1, 1, 1, 1, 1, 0, 1, 1, 1, 1, 1, 1, 0, 0, 0] mixed (by kernel_rfl) ?_
        repeat (refine wXh ?_)
        (refine RD_callS rfl (hQ _ _ (Hv.xel memF (by omega) (by omega)) (Hv.xel memF (by omega) (by omega))) rfl rfl ?_; rintro _ _ _ ⟨rfl, rfl, rfl⟩; refine ⟨okF, ?_⟩)
        repeat (refine wXh ?_)
        refine ND_again (i - (j + 1)) _ _ _ (by first | omega | (simp only [List.length_append, List.length_cons, List.length_nil]; omega)) subG subF incF (⟨j + 1, by omega, rfl, fun y hy => ?_, rfl, rfl, rfl⟩)
        by_cases e : y = j
        · subst e; exact he
        · exact ht y (by omega)
      · have hne : ¬ cmpR (gt (gt a.rows (i : Int)).es (j : Int)).q (gt (gt a.rows (j : Int)).es (i : Int)).q = 0 := fun h => he (by rw [q1, q2]; exact cmpR_eq.1 h)
        generalize cmpR (gt (gt a.rows (i : Int)).es (j : Int)).q (gt (gt a.rows (j : Int)).es (i : Int)).q = cc at *
        repeat (refine wXh ?_)
        (repeat refine TD_seq ?_); refine TD_drawnJ 1 [0, 1, 2, 3, 4, 5, 6, 7, 8, 9, 10, 11, 12, 13, 14, 15] [1, 1, 1, 1, 1, 1, 0, 1, 1, 1, 1, 1, 1, 0, 0, 0] mixed (by kernel_rfl) ?_
        repeat (refine wXh ?_)
        (refine RD_callS rfl (hQ _ _ (Hv.xel memF (by omega) (by omega)) (Hv.xel memF (by omega) (by omega))) rfl rfl ?_; rintro _ _ _ ⟨rfl, rfl, rfl⟩; refine ⟨okF, ?_⟩)
        repeat (refine wXh ?_)
        refine ND_ret1 (by first | exact .inl rfl | exact .inr rfl) rfl rfl _ _ subF incF (⟨rfl, rfl, congrArg (Value.int .i64) (if_neg (fun h => he (h i hin j hji))).symm⟩)
    · obtain rfl : j = i := by omega
      repeat (refine wXh ?_)
      refine ND_again (n - (j + 1)) _ _ _ (by first | omega | (simp only [List.length_append, List.length_cons, List.length_nil]; omega)) subG subF incF (⟨j + 1, by omega, rfl, fun x hx => ?_, rfl, rfl, rfl⟩)
      by_cases e : x = j
      · subst e; exact ht
      · exact hs x (by omega)
  · obtain rfl : i = n := by omega
    repeat (refine wXh ?_)
    refine ND_ret1 (by first | exact .inl rfl | exact .inr rfl) rfl rfl _ _ subF incF (⟨rfl, rfl, congrArg (Value.int .i64) (if_pos hs).symm⟩)
end
end Go.Proofs.YtdmlebigkakplaaGreat
namespace Go.Proofs.YtdmlebigkakplaaGreat
/-- what is left after so many columns -/
def rsF (f : Nat → Nat → Rat) : Nat → Nat → Nat → Rat
  | 0 => f
  | k + 1 => fun i j => if k < i ∧ k ≤ j then rsF f k i j - rsF f k i k / rsF f k k k * rsF f k k j else rsF f k i j
/-- the block from k on -/
def bk (f : Nat → Nat → Rat) (k : Nat) : Nat → Nat → Rat := fun a b => rsF f k (a + k) (b + k)
theorem bk_succ {f : Nat → Nat → Rat} {k a b : Nat} : bk f (k + 1) a b = bk f k (a + 1) (b + 1) - bk f k (a + 1) 0 / bk f k 0 0 * bk f k 0 (b + 1) := by
  unfold bk
  show (if k < a + (k + 1) ∧ k ≤ b + (k + 1) then _ else _) = _
  rw [if_pos ⟨by omega, by omega⟩, show a + (k + 1) = a + 1 + k by omega, show b + (k + 1) = b + 1 + k by omega, Nat.zero_add]
theorem bk_dt {f : Nat → Nat → Rat} {k m : Nat} (h : bk f k 0 0 ≠ 0) : dt (m + 1) (bk f k) = bk f k 0 0 * dt m (bk f (k + 1)) := by
  have h2 := dt_elim (n := m + 1) (r := 0) (f := bk f k) (c := fun a => bk f k a 0 / bk f k 0 0) (by omega)
  rw [← h2, dt_first (fun i hi _ => by
    rw [if_neg (by omega)]
    have : bk f k i 0 / bk f k 0 0 * bk f k 0 0 = bk f k i 0 := by grind
    grind)]
  rw [if_pos rfl]
  congr 1
  apply dt_congr
  intro a b _ _
  rw [if_neg (by omega), bk_succ]
/-- the product of the first pivots -/
def pvs (f : Nat → Nat → Rat) : Nat → Rat
  | 0 => 1
  | k + 1 => pvs f k * bk f k 0 0
theorem pvs_dt {f : Nat → Nat → Rat} {n : Nat} : ∀ {k : Nat}, k ≤ n → (∀ t, t < k → bk f t 0 0 ≠ 0) → dt n f = pvs f k * dt (n - k) (bk f k)
  | 0, _, _ => by
    have : bk f 0 = f := rfl
    rw [this]; simp only [pvs, Nat.sub_zero]; grind
  | k + 1, hk, h => by
    rw [pvs_dt (k := k) (by omega) (fun t ht => h t (by omega))]
    obtain ⟨m, hm⟩ : ∃ m, n - k = m + 1 := ⟨n - k - 1, by omega⟩
    rw [hm, bk_dt (h k (by omega)), show n - (k + 1) = m by omega]
    simp only [pvs]; grind
theorem lead_dt {f : Nat → Nat → Rat} {k : Nat} (h : ∀ t, t < k → bk f t 0 0 ≠ 0) : dt (k + 1) f = pvs f k * bk f k 0 0 := by
  rw [pvs_dt (k := k) (by omega) h, show k + 1 - k = 1 by omega]
  simp only [dt, sm, sgd]; grind
theorem pvs_pos {f : Nat → Nat → Rat} : ∀ {k : Nat}, (∀ t, t < k → 0 < bk f t 0 0) → 0 < pvs f k
  | 0, _ => by simp only [pvs]; grind
  | k + 1, h => Rat.mul_pos (pvs_pos (fun t ht => h t (by omega))) (h k (by omega))
/-- all leading determinants are positive exactly if all pivots are -/
theorem lead_iff {f : Nat → Nat → Rat} {n : Nat} : (∀ k, k < n → 0 < dt (k + 1) f) ↔ ∀ t, t < n → 0 < bk f t 0 0 := by
  constructor
  · intro h t
    induction t using Nat.strongRecOn with
    | ind t ih =>
      intro ht
      have hp : ∀ u, u < t → 0 < bk f u 0 0 := fun u hu => ih u hu (by omega)
      have h1 := h t ht
      rw [lead_dt (fun u hu => by have := hp u hu; grind)] at h1
      have h2 := pvs_pos hp
      by_cases h3 : 0 < bk f t 0 0
      · exact h3
      · have h3 := Rat.not_lt.1 h3
        have : 0 ≤ pvs f t * (- bk f t 0 0) := Rat.mul_nonneg (by grind) (by grind)
        grind
  · intro h k hk
    rw [lead_dt (fun u hu => by have := h u (by omega); grind)]
    exact Rat.mul_pos (pvs_pos (fun t ht => h t (by omega))) (h k hk)
theorem bk_sym {f : Nat → Nat → Rat} {n : Nat} (hs : ∀ i j, i < n → j < n → f i j = f j i) : ∀ {k : Nat} (a b : Nat), a + k < n → b + k < n → bk f k a b = bk f k b a
  | 0, a, b, h1, h2 => hs a b h1 h2
  | k + 1, a, b, h1, h2 => by
    rw [bk_succ, bk_succ, bk_sym hs (k := k) (a + 1) (b + 1) (by omega) (by omega), bk_sym hs (k := k) 0 (b + 1) (by omega) (by omega), bk_sym hs (k := k) 0 (a + 1) (by omega) (by omega)]
    grind
/-- the quadratic form of the block -/
def qf (f : Nat → Nat → Rat) (v : Nat → Rat) (n k : Nat) : Rat := sm (n - k) (fun a => sm (n - k) (fun b => bk f k a b * v (a + k) * v (b + k)))
/-- the column of l against v -/
def yk (f : Nat → Nat → Rat) (v : Nat → Rat) (n k : Nat) : Rat := v k + sm (n - (k + 1)) (fun a => bk f k (a + 1) 0 / bk f k 0 0 * v (a + (k + 1)))
theorem sm_head {n : Nat} {g : Nat → Rat} : sm (n + 1) g = g 0 + sm n (fun k => g (k + 1)) := by
  rw [sm_skip (j := 0) (by omega)]
  rfl
theorem qf_step {f : Nat → Nat → Rat} {v : Nat → Rat} {n k : Nat} (hs : ∀ i j, i < n → j < n → f i j = f j i) (hk : k < n) (h0 : bk f k 0 0 ≠ 0) :
    qf f v n k = bk f k 0 0 * yk f v n k * yk f v n k + qf f v n (k + 1) := by
  obtain ⟨m, hm⟩ : ∃ m, n - k = m + 1 := ⟨n - k - 1, by omega⟩
  have hm2 : n - (k + 1) = m := by omega
  unfold qf yk
  rw [hm, hm2, sm_head]
  simp only [sm_head, Nat.zero_add]
  obtain ⟨p, hp⟩ : ∃ p, p = bk f k 0 0 := ⟨_, rfl⟩
  obtain ⟨w, hw⟩ : ∃ w, w = v k := ⟨_, rfl⟩
  obtain ⟨u, hu⟩ : ∃ u : Nat → Rat, u = fun a => v (a + (k + 1)) := ⟨_, rfl⟩
  obtain ⟨c, hc⟩ : ∃ c : Nat → Rat, c = fun a => bk f k (a + 1) 0 := ⟨_, rfl⟩
  obtain ⟨B, hB⟩ : ∃ B : Nat → Nat → Rat, B = fun a b => bk f k (a + 1) (b + 1) := ⟨_, rfl⟩
  obtain ⟨s, hs0⟩ : ∃ s, s = sm m (fun a => c a * u a) := ⟨_, rfl⟩
  obtain ⟨T, hT⟩ : ∃ T, T = sm m (fun a => sm m (fun b => B a b * u a * u b)) := ⟨_, rfl⟩
  have e1 : sm m (fun b => bk f k 0 (b + 1) * v k * v (b + 1 + k)) = w * s := by
    rw [hs0, ← sm_mul]
    apply sm_congr
    intro b hb
    rw [bk_sym hs 0 (b + 1) (by omega) (by omega), hc, hu, hw, show b + 1 + k = b + (k + 1) by omega]; grind
  have e2 : sm m (fun a => bk f k (a + 1) 0 * v (a + 1 + k) * v k + sm m (fun b => bk f k (a + 1) (b + 1) * v (a + 1 + k) * v (b + 1 + k))) = w * s + T := by
    rw [sm_add, hT]
    congr 1
    · rw [hs0, ← sm_mul]
      apply sm_congr
      intro a _
      rw [hc, hu, hw, show a + 1 + k = a + (k + 1) by omega]; grind
    · apply sm_congr
      intro a _
      apply sm_congr
      intro b _
      rw [hB, hu, show a + 1 + k = a + (k + 1) by omega, show b + 1 + k = b + (k + 1) by omega]
  have e3 : sm m (fun a => bk f k (a + 1) 0 / bk f k 0 0 * v (a + (k + 1))) = 1 / p * s := by
    rw [hs0, ← sm_mul]
    apply sm_congr
    intro a _
    rw [hc, hu, hp]; grind
  have e4 : sm m (fun a => sm m (fun b => bk f (k + 1) a b * v (a + (k + 1)) * v (b + (k + 1)))) = T - 1 / p * s * s := by
    have h1 : ∀ a, a < m → sm m (fun b => bk f (k + 1) a b * v (a + (k + 1)) * v (b + (k + 1))) = 1 * sm m (fun b => B a b * u a * u b) + (- (1 / p * s)) * (c a * u a) := fun a ha => by
      have h2 : sm m (fun b => bk f (k + 1) a b * v (a + (k + 1)) * v (b + (k + 1))) = sm m (fun b => 1 * (B a b * u a * u b) + (- (1 / p) * (c a * u a)) * (c b * u b)) := sm_congr (fun b hb => by
        rw [bk_succ, bk_sym hs 0 (b + 1) (by omega) (by omega), hB, hc, hu, hp]; grind)
      rw [h2, sm_lin, ← hs0]; grind
    rw [sm_congr h1, sm_lin, ← hs0, ← hT]; grind
  rw [e1, e2, e3, e4, ← hp, ← hw]
  have hp0 : p ≠ 0 := by rw [hp]; exact h0
  have hpi : p * (1 / p) = 1 := by grind
  grind
theorem sq_nonneg (x : Rat) : 0 ≤ x * x := by
  rcases (Rat.le_total : 0 ≤ x ∨ x ≤ 0) with h | h
  · exact Rat.mul_nonneg h h
  · have h2 : 0 ≤ -x := by grind
    have := Rat.mul_nonneg h2 h2
    grind
/-- positive pivots: the form is positive but at 0 -/
theorem qf_pos {f : Nat → Nat → Rat} {v : Nat → Rat} {n : Nat} (hs : ∀ i j, i < n → j < n → f i j = f j i) (hp : ∀ t, t < n → 0 < bk f t 0 0) : ∀ {d k : Nat}, k + d = n → 0 ≤ qf f v n k ∧ (qf f v n k = 0 → ∀ i, k ≤ i → i < n → v i = 0)
  | 0, k, h => by
    obtain rfl : k = n := by omega
    refine ⟨?_, fun _ i h1 h2 => by omega⟩
    unfold qf
    rw [Nat.sub_self]
    simp only [sm]; grind
  | d + 1, k, h => by
    obtain ⟨i1, i2⟩ := qf_pos (v := v) hs hp (d := d) (k := k + 1) (by omega)
    have hk := hp k (by omega)
    have e := qf_step (v := v) hs (k := k) (by omega) (by grind)
    have hy := sq_nonneg (yk f v n k)
    have hm : 0 ≤ bk f k 0 0 * (yk f v n k * yk f v n k) := Rat.mul_nonneg (by grind) hy
    refine ⟨by grind, fun h0 => ?_⟩
    have q0 : qf f v n (k + 1) = 0 := by grind
    have y0 : bk f k 0 0 * (yk f v n k * yk f v n k) = 0 := by grind
    have hv := i2 q0
    have y1 : yk f v n k = 0 := by
      rcases Rat.mul_eq_zero.1 y0 with e | e
      · grind
      · rcases Rat.mul_eq_zero.1 e with e | e <;> exact e
    have y2 : yk f v n k = v k := by
      unfold yk
      rw [sm_zero (fun a ha => by rw [hv _ (by omega) (by omega)]; grind)]; grind
    intro i h1 h2
    by_cases ei : i = k
    · rw [ei, ← y2]; exact y1
    · exact hv i (by omega) h2
/-- a list against: its form is the pivot that is not positive -/
theorem qf_wit {f : Nat → Nat → Rat} {v : Nat → Rat} {n k : Nat} (hs : ∀ i j, i < n → j < n → f i j = f j i) (hk : k < n) (hp : ∀ t, t < k → 0 < bk f t 0 0) (hy : ∀ t, t < k → yk f v n t = 0) (h1 : v k = 1) (h0 : ∀ i, k < i → i < n → v i = 0) : qf f v n 0 = bk f k 0 0 := by
  have hd : ∀ t, t ≤ k → qf f v n 0 = qf f v n t := by
    intro t
    induction t with
    | zero => intro _; rfl
    | succ t ih =>
      intro ht
      rw [ih (by omega), qf_step hs (by omega) (by have := hp t (by omega); grind), hy t (by omega)]; grind
  rw [hd k (Nat.le_refl _)]
  unfold qf
  rw [sm_one (p := 0) (by omega) (fun a ha hne => sm_zero (fun b hb => by rw [h0 (a + k) (by omega) (by omega)]; grind))]
  rw [sm_one (p := 0) (by omega) (fun b hb hne => by rw [h0 (b + k) (by omega) (by omega)]; grind)]
  rw [Nat.zero_add, h1]; grind
/-- the form as it is computed -/
theorem qf_form {f : Nat → Nat → Rat} {v : Nat → Rat} {n : Nat} : qf f v n 0 = sm n (fun i => v i * sm n (fun j => f i j * v j)) := by
  unfold qf
  rw [Nat.sub_zero]
  apply sm_congr
  intro a _
  rw [← sm_mul]
  apply sm_congr
  intro b _
  show f a b * v a * v b = _
  grind
end Go.Proofs.YtdmlebigkakplaaGreat
namespace Go.Proofs.YtdmlebigkakplaaGreat
open Go Go.Fx
theorem sign_pos (q : Rat) : 0 < q.num.sign ↔ 0 < q := by rw [Int.sign_pos_iff, rat_lt]; simp
theorem rsF_keep {f : Nat → Nat → Rat} {k i j : Nat} (h : ¬ (k < i ∧ k ≤ j)) : rsF f (k + 1) i j = rsF f k i j := if_neg h
theorem rsF_step {f : Nat → Nat → Rat} {k i j : Nat} (h : k < i ∧ k ≤ j) : rsF f (k + 1) i j = rsF f k i j - rsF f k i k / rsF f k k k * rsF f k k j := if_pos h
theorem permE {A B C : Ent} {L R M : List Ent} : (A :: B :: C :: (L ++ (R ++ M))).Perm (A :: C :: (R ++ (B :: (L ++ M)))) := by
  refine List.Perm.cons A ?_
  have h1 : (C :: (R ++ (B :: (L ++ M)))).Perm (B :: C :: (R ++ (L ++ M))) := List.perm_middle (l₁ := C :: R) (a := B) (l₂ := L ++ M)
  refine List.Perm.trans (List.Perm.cons _ (List.Perm.cons _ ?_)) h1.symm
  have h2 : (L ++ (R ++ M)) = (L ++ R) ++ M := by rw [List.append_assoc]
  have h3 : (R ++ (L ++ M)) = (R ++ L) ++ M := by rw [List.append_assoc]
  rw [h2, h3]
  exact List.perm_append_comm.append_right M
theorem focR {A B C : Ent} {L M : List Ent} {rows : List MR} {i : Nat} (h : i < rows.length) : (A :: B :: C :: (L ++ (rows.map entM ++ M))).Perm (entM (gt rows (i : Int)) :: A :: B :: C :: (L ++ ((rows.eraseIdx i).map entM ++ M))) := by
  have := focA (rows := rows) (i := i) h (M1 := M) (P := A :: B :: C :: L)
  simpa only [List.cons_append] using this
theorem foc3 {A B C : Ent} {M : List Ent} {ls rows : List MR} {i k : Nat} (hl : i < ls.length) (hi : i < rows.length) (hk : k < rows.length) (hik : i ≠ k) :
    (A :: B :: C :: (ls.map entM ++ (rows.map entM ++ M))).Perm (entM (gt rows (i : Int)) :: entM (gt rows (k : Int)) :: entM (gt ls (i : Int)) :: A :: B :: C :: ((ls.eraseIdx i).map entM ++ ((rest2 rows i k).map entM ++ M))) := by
  have h1 := focA (rows := ls) (i := i) hl (M1 := rows.map entM ++ M) (P := [A, B, C])
  simp only [List.cons_append, List.nil_append] at h1
  have h2 := focB (rows := rows) (i := i) (j := k) hi hk hik (M1 := M) (P := entM (gt ls (i : Int)) :: A :: B :: C :: (ls.eraseIdx i).map entM)
  simp only [List.cons_append] at h2
  exact h1.trans h2
theorem focL {A B C : Ent} {R : List Ent} {ls : List MR} {i : Nat} (h : i < ls.length) : (A :: B :: C :: (ls.map entM ++ R)).Perm (entM (gt ls (i : Int)) :: A :: B :: C :: ((ls.eraseIdx i).map entM ++ R)) := by
  have := focA (rows := ls) (i := i) h (M1 := R) (P := [A, B, C])
  simpa only [List.cons_append, List.nil_append] using this
section
variable {X : List Nat} {w0 : World} {M0 : List Ent} {I0 : List Imm}
theorem subRow_ok {D A B C : Ent} {L M1 : List Ent} {rows : List MR} {x κ n kz m h K : Nat} {e : RE} (hn : n ≤ 1000) (hK : kz + (m + h) + 1 ≤ 400000000) (hKK : kz + (m + h) + 1 ≤ K) (hl : rows.length = n) (hx : x < n) (hκ : κ < n) (hne : x ≠ κ) (hlx : (gt rows (x : Int)).es.length = n) (hlκ : (gt rows (κ : Int)).es.length = n)
    (hex : allR (gt rows (x : Int)).es kz ∈ I0) (ho : allR (gt rows (κ : Int)).es h ∈ I0) (he : isR e m ∈ I0) (hall : allM rows K ∈ I0) :
    CD Tryz.prog 140 [.slice (some ⟨(gt rows (x : Int)).b, 0, none⟩) n n, .slice (some ⟨(gt rows (κ : Int)).b, 0, none⟩) n n, rv e, .int .i64 (κ : Int)] X w0 (D :: A :: B :: C :: (L ++ (rows.map entM ++ M1))) I0
      (fun v M I => v = .tuple #[] ∧ ∃ rows5 : List MR, rows5.length = n ∧ (∀ t : Nat, t < n → t ≠ x → gt rows5 (t : Int) = gt rows (t : Int)) ∧ (gt rows5 (x : Int)).es.length = n ∧ (∀ u : Nat, u < n → (gt (gt rows5 (x : Int)).es (u : Int)).q = if u < κ then (gt (gt rows (x : Int)).es (u : Int)).q else (gt (gt rows (x : Int)).es (u : Int)).q - e.q * (gt (gt rows (κ : Int)).es (u : Int)).q) ∧
        recs eM rows = recs eM rows5 ∧ M = D :: A :: B :: C :: (L ++ (rows5.map entM ++ M1)) ∧ I = allM rows5 K :: I0) := by
  have hf : ∀ r : List MR, r.length = n → (D :: A :: B :: C :: (L ++ (r.map entM ++ M1))).Perm (entM (gt r (x : Int)) :: entM (gt r (κ : Int)) :: D :: A :: B :: C :: (L ++ ((rest2 r x κ).map entM ++ M1))) := fun r hr => by
    have := focB (rows := r) (i := x) (j := κ) (by omega) (by omega) hne (M1 := M1) (P := D :: A :: B :: C :: L)
    simpa only [List.cons_append] using this
  refine CD.pre (fun w hw => hw.perm (hf rows hl)) ?_
  refine CD.post (subtract_ok (kz := kz) (m := m) (h := h) (fr := κ) (n := n) (κ := e) (M1 := D :: A :: B :: C :: (L ++ ((rest2 rows x κ).map entM ++ M1))) hn hK hlx hlκ (by omega) hex ho he rfl) (fun v M I w hp hw => ?_)
  obtain ⟨rfl, e5, hl5, hd5, rfl, rfl⟩ := hp
  obtain ⟨rows5, hrows5⟩ : ∃ rows5, rows5 = rows.set x ⟨(gt rows (x : Int)).b, e5⟩ := ⟨_, rfl⟩
  have hl5' : rows5.length = n := by rw [hrows5, List.length_set]; exact hl
  have hh5 : recs eM rows = recs eM rows5 := by rw [hrows5]; exact (recs_eM_set (by omega) (by rw [hlx, hl5])).symm
  have hr5 : rest2 rows x κ = rest2 rows5 x κ := by rw [hrows5, rest2_set _ _ _ _ hne]
  have hg5i : gt rows5 (x : Int) = ⟨(gt rows (x : Int)).b, e5⟩ := by rw [hrows5, gt_lt (by simpa using (show x < rows.length by omega))]; simp
  have hg5o : ∀ t : Nat, t < n → t ≠ x → gt rows5 (t : Int) = gt rows (t : Int) := fun t ht hti => by
    rw [hrows5, gt_lt (by simpa using (show t < rows.length by omega)), List.getElem_set_ne (Ne.symm hti)]; exact (gt_lt (by omega)).symm
  have hf5 := hf rows5 hl5'
  rw [hg5i, hg5o κ hκ (Ne.symm hne), ← hr5] at hf5
  refine ⟨D :: A :: B :: C :: (L ++ (rows5.map entM ++ M1)), allM rows5 K :: I0, ⟨rfl, rows5, hl5', hg5o, by rw [hg5i]; exact hl5, fun u hu => by rw [hg5i]; exact hd5 u hu, hh5, rfl, rfl⟩, ?_⟩
  refine Mem.inc (Mem.hv (φ := allM rows5 K) (by rw [hrows5]; exact Hv.setM (k := K) (m := kz + (m + h) + 1) (List.Mem.tail _ hall) (List.Mem.head _) (Nat.le_refl _) hKK) (hw.perm hf5.symm)) (.of fun φ hφ => ?_)
  rcases List.mem_cons.1 hφ with rfl | hφ
  · exact List.Mem.head _
  · exact List.Mem.tail _ (List.Mem.tail _ hφ)
end
end Go.Proofs.YtdmlebigkakplaaGreat

/- Elimination, plain: what a step does to products, determinants, solutions; the reduced form; inverse matrices. matrix: the functions that the elements are made by; dot. matrix: Add, Sub, Scale, Mul, Transpose, Apply, Identity, of matrices and of what is none. The document's minor and determinant. Matrices that the document builds and then writes into: rows with room behind them. The document's unit matrix, copy, sum, product, transposed matrix. The document's product, transposed matrix, product with a list. matrix: Mul, Apply, of matrices and of what is none. Elimination of lists of rows is elimination of numbers. The determinant by elimination, one column at a time. matrix.Determinant. -/
import Derived.Test.YtllaoaobnnondaaGreatRZibc
import Derived.Test.YtllaoaobnnondaaGreatRZibb
import Derived.Test.YtllaoaobnnondaaGreatRZiax
import Derived.Test.YtllaoaobnnondaaGreatRZiay
set_option linter.unusedSimpArgs false
set_option linter.unusedVariables false
namespace Go.Proofs.YtllaoaobnnondaaGreatR
/-- the product, over n -/
def mulF (n : Nat) (f g : Nat → Nat → Rat) : Nat → Nat → Rat := fun i j => sm n (fun k => f i k * g k j)
def dlt (i j : Nat) : Rat := if i = j then 1 else 0
theorem mulF_congr {n : Nat} {f f' g g' : Nat → Nat → Rat} {i j : Nat} (h1 : ∀ k, k < n → f i k = f' i k) (h2 : ∀ k, k < n → g k j = g' k j) : mulF n f g i j = mulF n f' g' i j := sm_congr (fun k hk => by rw [h1 k hk, h2 k hk])
theorem mulF_one {n : Nat} {f : Nat → Nat → Rat} {i j : Nat} (hj : j < n) : mulF n f dlt i j = f i j := by
  unfold mulF
  rw [sm_one hj (fun k _ hne => by simp only [dlt]; rw [if_neg hne]; grind)]
  simp only [dlt, if_true]; grind
theorem tr_tr (r k a : Nat) : tr r k (tr r k a) = a := by
  simp only [tr]
  repeat' split
  all_goals omega
theorem elm_mul {n r k : Nat} {κ : Rat} {c : Nat → Rat} {f g : Nat → Nat → Rat} : mulF n (elm r k κ c f) g = elm r k κ c (mulF n f g) := by
  funext a b
  simp only [mulF, elm]
  by_cases e : a = r
  · simp only [if_pos e]
    rw [← sm_mul]
    exact sm_congr (fun i _ => by grind)
  · simp only [if_neg e]
    have h1 : ∀ i, (f (tr r k a) i - c a * (κ * f (tr r k r) i)) * g i b = 1 * (f (tr r k a) i * g i b) + (- (c a * κ)) * (f (tr r k r) i * g i b) := fun i => by grind
    simp only [h1]
    rw [sm_lin]; grind
/-- z solves -/
def ker (R C : Nat) (f : Nat → Nat → Rat) (z : Nat → Rat) : Prop := ∀ i, i < R → sm C (fun j => f i j * z j) = 0
theorem ker_congr {R C : Nat} {f g : Nat → Nat → Rat} {z : Nat → Rat} (h : ∀ a b, a < R → b < C → f a b = g a b) : ker R C f z ↔ ker R C g z := by
  unfold ker
  constructor
  · intro hk i hi; rw [← hk i hi]; exact sm_congr (fun j hj => by rw [h i j hi hj])
  · intro hk i hi; rw [← hk i hi]; exact sm_congr (fun j hj => by rw [h i j hi hj])
theorem ker_elm {R C r k : Nat} {κ : Rat} {c : Nat → Rat} {f : Nat → Nat → Rat} {z : Nat → Rat} (hr : r < R) (hk : k < R) (hκ : κ ≠ 0) : ker R C (elm r k κ c f) z ↔ ker R C f z := by
  obtain ⟨φ, hφ⟩ : ∃ φ : Nat → Rat, φ = fun i => sm C (fun j => f i j * z j) := ⟨_, rfl⟩
  have h1 : ∀ a, sm C (fun j => elm r k κ c f a j * z j) = if a = r then κ * φ (tr r k r) else φ (tr r k a) - c a * (κ * φ (tr r k r)) := fun a => by
    have := congrFun (congrFun (elm_mul (n := C) (r := r) (k := k) (κ := κ) (c := c) (f := f) (g := fun j _ => z j)) a) 0
    simp only [mulF] at this
    rw [this, hφ]; rfl
  unfold ker
  constructor
  · intro hz
    have h0 : φ (tr r k r) = 0 := by
      have := hz r hr
      rw [h1, if_pos rfl] at this
      rcases Rat.mul_eq_zero.1 this with e | e
      · exact absurd e hκ
      · exact e
    intro i hi
    have hφi : sm C (fun j => f i j * z j) = φ i := by rw [hφ]
    rw [hφi]
    by_cases e : tr r k i = r
    · have : i = tr r k r := by have := tr_tr r k i; rw [e] at this; exact this.symm
      rw [this]; exact h0
    · have := hz (tr r k i) (tr_lt hr hk hi)
      rw [h1, if_neg e, tr_tr, h0] at this
      grind
  · intro hz i hi
    have hφ0 : ∀ i, i < R → φ i = 0 := fun i hi => by rw [hφ]; exact hz i hi
    rw [h1, hφ0 _ (tr_lt hr hk hr), hφ0 _ (tr_lt hr hk hi)]
    split <;> grind
/-- what holds after so many columns -/
structure Red (R C j : Nat) (f0 f : Nat → Nat → Rat) (pv : List Nat) (s : Rat) : Prop where
  hs : s ≠ 0
  det : ∀ m g, m ≤ C → dt R (mulF m f g) = s * dt R (mulF m f0 g)
  ker : ∀ z, ker R C f z ↔ ker R C f0 z
  len : pv.length ≤ R
  inc : ∀ t, t < pv.length → pv.getD t 0 < j ∧ t ≤ pv.getD t 0 ∧ ∀ u, u < t → pv.getD u 0 < pv.getD t 0
  unit : ∀ t i, t < pv.length → i < R → f i (pv.getD t 0) = dlt i t
  zero : ∀ i b, pv.length ≤ i → i < R → b < j → f i b = 0
theorem Red.start {R C : Nat} {f : Nat → Nat → Rat} : Red R C 0 f f [] 1 :=
  ⟨by decide, fun m g _ => by grind, fun z => Iff.rfl, by simp, fun t ht => by simp at ht, fun t i ht => by simp at ht, fun i b _ _ hb => by omega⟩
theorem Red.none {R C j : Nat} {f0 f : Nat → Nat → Rat} {pv : List Nat} {s : Rat} (h : Red R C j f0 f pv s) (hz : ∀ i, pv.length ≤ i → i < R → f i j = 0) : Red R C (j + 1) f0 f pv s :=
  ⟨h.hs, h.det, h.ker, h.len, fun t ht => ⟨by have := (h.inc t ht).1; omega, (h.inc t ht).2⟩, h.unit, fun i b hi hR hb => by
    by_cases e : b = j
    · subst e; exact hz i hi hR
    · exact h.zero i b hi hR (by omega)⟩
theorem Red.step {R C j x : Nat} {f0 f f' : Nat → Nat → Rat} {pv : List Nat} {s : Rat} (h : Red R C j f0 f pv s) (hj : j < C) (hx : pv.length ≤ x) (hxR : x < R) (hn : f x j ≠ 0)
    (hf : ∀ a b, a < R → b < C → f' a b = elm pv.length x (1 / f x j) (fun a => f (tr pv.length x a) j) f a b) : Red R C (j + 1) f0 f' (pv ++ [j]) (esg pv.length x * (1 / f x j) * s) := by
  obtain ⟨r, hr⟩ : ∃ r, r = pv.length := ⟨_, rfl⟩
  rw [← hr] at hf hx ⊢
  obtain ⟨κ, hκ⟩ : ∃ κ, κ = 1 / f x j := ⟨_, rfl⟩
  have hκ1 : κ * f x j = 1 := by rw [hκ]; grind
  have hκ0 : κ ≠ 0 := fun e => by rw [e] at hκ1; grind
  rw [← hκ] at hf ⊢
  have hrR : r < R := by omega
  have hes : esg r x ≠ 0 := by unfold esg; split <;> decide
  have htr : tr r x r = x := by simp [tr]
  have hf1 : ∀ b, b < C → f' r b = κ * f x b := fun b hb => by rw [hf r b hrR hb]; simp only [elm, if_true, htr]
  have hf2 : ∀ a b, a < R → b < C → a ≠ r → f' a b = f (tr r x a) b - f (tr r x a) j * (κ * f x b) := fun a b ha hb hne => by rw [hf a b ha hb]; simp only [elm, if_neg hne, htr]
  have hcol : ∀ i, i < R → f' i j = dlt i r := fun i hi => by
    by_cases e : i = r
    · subst e; rw [hf1 j hj, hκ1]; simp [dlt]
    · rw [hf2 i j hi hj e, hκ1]; simp only [dlt, if_neg e]; grind
  have hxz : ∀ b, b < j → f x b = 0 := fun b hb => h.zero x b (by omega) hxR hb
  have hlow : ∀ i b, i < R → b < j → i ≠ r → f' i b = f (tr r x i) b := fun i b hi hb hne => by
    rw [hf2 i b hi (by omega) hne, hxz b hb]; grind
  refine ⟨fun e => ?_, fun m g hm => ?_, fun z => ?_, ?_, fun t ht => ?_, fun t i ht hi => ?_, fun i b hi hR hb => ?_⟩
  · rcases Rat.mul_eq_zero.1 e with e | e
    · rcases Rat.mul_eq_zero.1 e with e | e
      · exact hes e
      · exact hκ0 e
    · exact h.hs e
  · have h1 : dt R (mulF m f' g) = dt R (mulF m (elm r x κ (fun a => f (tr r x a) j) f) g) := dt_congr (fun i k hi _ => mulF_congr (fun t ht => hf i t hi (by omega)) (fun _ _ => rfl))
    rw [h1, elm_mul, dt_elm hrR hxR, h.det m g hm]
    grind
  · exact (ker_congr hf).trans ((ker_elm hrR hxR hκ0).trans (h.ker z))
  · simp; omega
  · have hl : (pv ++ [j]).length = r + 1 := by simp [hr]
    by_cases e : t = r
    · subst e
      have e1 : (pv ++ [j]).getD t 0 = j := by simp [List.getD, hr]
      rw [e1]
      refine ⟨by omega, ?_, fun u hu => ?_⟩
      · by_cases e0 : t = 0
        · omega
        · have := h.inc (t - 1) (by omega); omega
      · have e2 : (pv ++ [j]).getD u 0 = pv.getD u 0 := by simp [List.getD, List.getElem?_append_left (show u < pv.length by omega)]
        rw [e2]; exact (h.inc u (by omega)).1
    · have ht' : t < pv.length := by omega
      have e2 : ∀ u, u ≤ t → (pv ++ [j]).getD u 0 = pv.getD u 0 := fun u hu => by simp [List.getD, List.getElem?_append_left (show u < pv.length by omega)]
      obtain ⟨a1, a2, a3⟩ := h.inc t ht'
      rw [e2 t (Nat.le_refl _)]
      exact ⟨by omega, a2, fun u hu => by rw [e2 u (by omega)]; exact a3 u hu⟩
  · have hl : (pv ++ [j]).length = r + 1 := by simp [hr]
    by_cases e : t = r
    · subst e
      have e1 : (pv ++ [j]).getD t 0 = j := by simp [List.getD, hr]
      rw [e1]; exact hcol i hi
    · have ht' : t < pv.length := by omega
      have e2 : (pv ++ [j]).getD t 0 = pv.getD t 0 := by simp [List.getD, List.getElem?_append_left ht']
      have hp := (h.inc t ht').1
      rw [e2]
      by_cases er : i = r
      · subst er
        rw [hf1 _ (by omega), hxz _ hp]
        simp only [dlt, if_neg (fun e' : i = t => e e'.symm)]; grind
      · rw [hlow i _ hi hp er, h.unit t _ ht' (tr_lt hrR hxR hi)]
        have : tr r x i = t ↔ i = t := by
          simp only [tr, if_neg er]
          split <;> omega
        simp only [dlt]
        by_cases e3 : i = t
        · rw [if_pos e3, if_pos (this.2 e3)]
        · rw [if_neg e3, if_neg (fun e' => e3 (this.1 e'))]
  · have hl : (pv ++ [j]).length = r + 1 := by simp [hr]
    rw [hl] at hi
    by_cases e : b = j
    · subst e; rw [hcol i hR]; simp only [dlt, if_neg (show ¬ i = r by omega)]
    · rw [hlow i b hR (by omega) (by omega)]
      refine h.zero _ b ?_ (tr_lt hrR hxR hR) (by omega)
      simp only [tr]; rw [← hr]
      repeat' split
      all_goals omega
theorem Red.full {n C : Nat} {f0 f : Nat → Nat → Rat} {pv : List Nat} {s : Rat} (h : Red n C n f0 f pv s) (hl : pv.length = n) : ∀ i t, i < n → t < n → f i t = dlt i t := by
  intro i t hi ht
  have hp : ∀ d t, t + d + 1 = n → pv.getD t 0 = t := by
    intro d
    induction d with
    | zero => intro t he; have := h.inc t (by omega); omega
    | succ d ih =>
      intro t he
      have h1 := ih (t + 1) (by omega)
      have h2 := h.inc (t + 1) (by omega)
      have h3 := h2.2.2 t (by omega)
      have h4 := h.inc t (by omega)
      omega
  have := h.unit t i (by omega) hi
  rwa [hp (n - t - 1) t (by omega)] at this
theorem Red.short {n C : Nat} {f0 f : Nat → Nat → Rat} {pv : List Nat} {s : Rat} (h : Red n C n f0 f pv s) (hl : pv.length < n) : ∀ t, t < n → f (n - 1) t = 0 := fun t ht => h.zero (n - 1) t (by omega) (by omega) ht
theorem dt_one : ∀ {n : Nat}, dt n dlt = 1
  | 0 => rfl
  | n + 1 => by
    rw [dt_first (fun i hi _ => by simp only [dlt]; rw [if_neg (by omega)])]
    have : (fun i k => dlt (i + 1) (k + 1)) = dlt := by funext i k; simp [dlt]
    rw [this, dt_one]
    simp only [dlt, if_true]; grind
theorem Red.dt {n C : Nat} {f0 f : Nat → Nat → Rat} {pv : List Nat} {s : Rat} (h : Red n C n f0 f pv s) (hC : n ≤ C) : dt n f = s * dt n f0 := by
  have := h.det n dlt hC
  rwa [dt_congr (fun i j _ hj => mulF_one hj), dt_congr (f := mulF n f0 dlt) (fun i j _ hj => mulF_one hj)] at this
/-- as many pivots as rows exactly if the determinant is not 0 -/
theorem Red.iff {n C : Nat} {f0 f : Nat → Nat → Rat} {pv : List Nat} {s : Rat} (h : Red n C n f0 f pv s) (hC : n ≤ C) : pv.length = n ↔ Go.Proofs.YtllaoaobnnondaaGreatR.dt n f0 ≠ 0 := by
  have h1 := h.dt hC
  constructor
  · intro hl e
    rw [dt_congr (h.full hl), dt_one, e] at h1
    grind
  · intro hne
    by_cases hl : pv.length < n
    · rw [dt_row0 (i := n - 1) (by omega) (h.short hl)] at h1
      rcases Rat.mul_eq_zero.1 h1.symm with e | e
      · exact absurd e h.hs
      · exact absurd e hne
    · have := h.len; omega
end Go.Proofs.YtllaoaobnnondaaGreatR
namespace Go.Proofs.YtllaoaobnnondaaGreatR
open Go Go.Fx
abbrev pb (b : Nat) : Value := .pointer (some ⟨b, 0, none⟩)
abbrev bxX (b : Nat) (m : MX) : Imm := slI (some ⟨b, 0, none⟩) [.slice m.p m.rows.length m.c]
/-- the products of two lists, summed -/
def dotQ (n : Nat) (x y : List Rat) : Rat := sm n (fun t => x.getD t 0 * y.getD t 0)
section
variable {X : List Nat} {w0 : World} {M0 : List Ent} {I0 : List Imm}
set_option maxRecDepth 100000 in
theorem beside1_ok {a b : MX} {p q k m i j C : Nat} (hC : (gt a.rows 0).es.length = C) (hR : 1 ≤ a.rows.length) (hi : i < a.rows.length) (hj : (gt a.rows (i : Int)).es.length = C) (hi2 : i < b.rows.length) (hj2 : j < C + (gt b.rows (i : Int)).es.length) (hB : (gt b.rows (i : Int)).es.length ≤ 200) (hk : k ≤ m) (hCC : C ≤ 200)
    (ha : isX a k ∈ I0) (hb : isX b m ∈ I0) (fa : bxX p a ∈ I0) (fb : bxX q b ∈ I0) :
    CD Tryz.prog 224 [.int .i64 (i : Int), .int .i64 (j : Int), pb p, pb q] X w0 M0 I0 (RQ (if j < C then at2 a.q i j else at2 b.q i (j - C)) m M0 I0) := by
  by_cases hjC : j < C
  · rw [if_pos hjC, at2_q hi (by omega)]
    refine CD_hv (φ := slI (a).p (recs eL (a).rows)) (Hv.xsl memF) ?_
    refine CD_hv (φ := slI (gt (a).rows (i : Int)).p (recs eR (gt (a).rows (i : Int)).es)) (Hv.xrsl memF (by omega)) ?_
    refine enterD4 Tryz.func224 rfl Tryz.ntmps224 rfl ?_
    refine TD_seq ?_
    refine TD_region ?_
    (refine RD_alloc rfl rfl ?_; intro br; refine ⟨okF, ?_⟩)
    repeat (refine wXh ?_)
    refine ND_hv (φ := isR (gt (gt a.rows (i : Int)).es (j : Int)) k) (Hv.xel memF (by omega) (by omega)) ?_
    refine ND_hv (φ := isR (gt (gt a.rows (i : Int)).es (j : Int)) m) (Hv.q (k := k) (List.Mem.head _) hk) ?_
    refine ND_retC (cs := eR (gt (gt a.rows (i : Int)).es (j : Int))) (.inl rfl) rfl rfl memF rfl M0 (isR (gt (gt a.rows (i : Int)).es (j : Int)) m :: I0) subF incF ⟨rfl, _, rfl, rfl, rfl⟩
  · obtain ⟨u, rfl⟩ : ∃ u, j = C + u := ⟨j - C, by omega⟩
    rw [if_neg hjC, Nat.add_sub_cancel_left, at2_q hi2 (by omega)]
    have eu : ((C + u : Nat) : Int) - ((gt a.rows 0).es.length : Int) = (u : Int) := by omega
    refine CD_hv (φ := slI (a).p (recs eL (a).rows)) (Hv.xsl memF) ?_
    refine CD_hv (φ := slI (b).p (recs eL (b).rows)) (Hv.xsl memF) ?_
    refine CD_hv (φ := slI (gt (b).rows (i : Int)).p (recs eR (gt (b).rows (i : Int)).es)) (Hv.xrsl memF (by omega)) ?_
    refine enterD4 Tryz.func224 rfl Tryz.ntmps224 rfl ?_
    refine TD_seq ?_
    refine TD_region ?_
    (refine RD_alloc rfl rfl ?_; intro br; refine ⟨okF, ?_⟩)
    repeat (refine wXh ?_)
    (repeat refine TD_seq ?_); refine TD_drawnJ 0 [0, 1, 2, 3, 4, 5, 6, 7, 8, 9, 10, 11, 12] [0, 0, 0, 0, 0, 0, 0, 0, 0, 0, 0, 0, 0] mixed (by kernel_rfl) ?_
    repeat (refine wXh ?_)
    rw [eu]
    repeat (refine wXh ?_)
    refine ND_hv (φ := isR (gt (gt b.rows (i : Int)).es (u : Int)) m) (Hv.xel memF (by omega) (by omega)) ?_
    refine ND_retC (cs := eR (gt (gt b.rows (i : Int)).es (u : Int))) (.inl rfl) rfl rfl memF rfl M0 (isR (gt (gt b.rows (i : Int)).es (u : Int)) m :: I0) subF incF ⟨rfl, _, rfl, rfl, rfl⟩
set_option maxRecDepth 100000 in
theorem Inverse1_ok {a : MX} {p q k i j n : Nat} (hi : i < a.rows.length) (hj : n + j < (gt a.rows (i : Int)).es.length) (hn : n ≤ 100) (hjj : j ≤ 100)
    (ha : isX a k ∈ I0) (fa : bxX p a ∈ I0) (fn : slI (some ⟨q, 0, none⟩) [.int .i64 (n : Int)] ∈ I0) :
    CD Tryz.prog 174 [.int .i64 (i : Int), .int .i64 (j : Int), pb p, pb q] X w0 M0 I0 (RQ (at2 a.q i (n + j)) k M0 I0) := by
  rw [at2_q hi hj]
  have eu : (n : Int) + (j : Int) = ((n + j : Nat) : Int) := by omega
  refine CD_hv (φ := slI (a).p (recs eL (a).rows)) (Hv.xsl memF) ?_
  refine CD_hv (φ := slI (gt (a).rows (i : Int)).p (recs eR (gt (a).rows (i : Int)).es)) (Hv.xrsl memF (by omega)) ?_
  refine enterD4 Tryz.func174 rfl Tryz.ntmps174 rfl ?_
  refine TD_seq ?_
  refine TD_region ?_
  (refine RD_alloc rfl rfl ?_; intro br; refine ⟨okF, ?_⟩)
  repeat (refine wXh ?_)
  (repeat refine TD_seq ?_); refine TD_drawnJ 0 [0, 1, 2, 3, 4, 5, 6, 7, 8, 9] [0, 0, 0, 0, 0, 0, 0, 0, 0, 0] mixed (by kernel_rfl) ?_
  repeat (refine wXh ?_)
  rw [eu]
  repeat (refine wXh ?_)
  refine ND_hv (φ := isR (gt (gt a.rows (i : Int)).es ((n + j : Nat) : Int)) k) (Hv.xel memF (by omega) (by omega)) ?_
  refine ND_retC (cs := eR (gt (gt a.rows (i : Int)).es ((n + j : Nat) : Int))) (.inl rfl) rfl rfl memF rfl M0 (isR (gt (gt a.rows (i : Int)).es ((n + j : Nat) : Int)) k :: I0) subF incF ⟨rfl, _, rfl, rfl, rfl⟩
end
end Go.Proofs.YtllaoaobnnondaaGreatR
namespace Go.Proofs.YtllaoaobnnondaaGreatR
open Go Go.Fx
theorem dlt_int {i j : Nat} : dlt i j = if (i : Int) = (j : Int) then (1 : Rat) else 0 := by
  unfold dlt
  by_cases e : i = j
  · rw [if_pos e, if_pos (by omega)]
  · rw [if_neg e, if_neg (by omega)]
theorem SubP_dropA {M M' : List Ent} (h : SubP M M') : ∀ {xs : List Ent}, SubP (xs ++ M) M'
  | [] => h
  | _ :: _ => .drop (SubP_dropA h)
def MX.fit (m : MX) (R C : Nat) : Prop := m.dim R C ∧ (1 ≤ R ∧ R ≤ 64) ∧ (1 ≤ C ∧ C ≤ 64)
theorem MX.fit.r0 {m : MX} {R C : Nat} (h : m.fit R C) : (gt m.rows 0).es.length = C := by
  have := h.1.row (i := 0) (by have := h.2.1; omega)
  exact this
theorem MX.fit.ok {m : MX} {R C : Nat} (h : m.fit R C) : m.raw.ok := dim_ok h.1 h.2.1 h.2.2
theorem MX.raw_rows (m : MX) : m.raw.rows.length = m.rows.length := by show (m.rows.map RL.raw).length = _; rw [List.length_map]
theorem MX.raw_c0 {m : MX} {R C : Nat} (h : m.fit R C) : (gt m.raw.rows 0).es.length = C := by
  have e : m.raw.rows = m.rows.map RL.raw := rfl
  rw [e, gt_map (by have := h.1.1; have := h.2.1; omega)]
  show ((gt m.rows 0).es.map RE.raw).length = C
  rw [List.length_map]; exact h.r0
section
variable {P : Program} {f : FuncId} {vs : List Value} {X : List Nat} {w0 : World} {M : List Ent} {I : List Imm}
theorem xCD_fact {K : Value → List Ent → List Imm → Prop} {φ : Prop} (h : ∀ w, Mem X w0 M I w → φ) (k : φ → CD P f vs X w0 M I K) : CD P f vs X w0 M I K := ⟨fun w hw => (k (h w hw)).go w hw⟩
theorem CD_hvV {K : Value → Prop} {φ : Imm} [Fx.Good φ] (h : Hv I φ) (c : CD P f vs X w0 M (φ :: I) (fun v M' I' => M = M' ∧ φ :: I = I' ∧ K v)) : CD P f vs X w0 M I (fun v M' I' => M = M' ∧ I = I' ∧ K v) :=
  ⟨fun w hw => (c.go w (Mem.hv h hw)).mono (fun _ _ ⟨M', I', ⟨e1, e2, hk⟩, h2⟩ => by subst e1; subst e2; exact ⟨M, I, ⟨rfl, rfl, hk⟩, h2.inc (.of fun φ hφ => List.Mem.tail _ hφ)⟩)⟩
theorem Mem.xsml {w : World} {m : MX} {R C k : Nat} (hm : isX m k ∈ I) (hd : m.fit R C) (hk : k ≤ 20000000) (hw : Mem X w0 M I w) : m.raw.sml := by
  have h : IsX m k (muts M) w := (hw.imm _ hm).2
  refine ⟨by rw [m.raw_rows, hd.1.1]; have := hd.2.1; omega, fun r hr => ?_⟩
  obtain ⟨s, hs, rfl⟩ := List.mem_map.1 hr
  refine ⟨by show (s.es.map RE.raw).length ≤ _; rw [List.length_map, hd.1.2 s hs]; have := hd.2.2; omega, fun e he => ?_⟩
  obtain ⟨x, hx, rfl⟩ := List.mem_map.1 he
  exact IsR.sml hk ((h.row s hs).el x hx)
end
section
variable {X : List Nat} {w0 : World} {M0 : List Ent} {I0 : List Imm}
set_option maxRecDepth 100000 in
theorem beside_ok {a b : MX} {R C D k : Nat} (da : a.fit R C) (db : b.fit R D) (ha : isX a k ∈ I0) (hb : isX b k ∈ I0) : CD Tryz.prog 172 [mv a, mv b] X w0 M0 I0 (MkP R (C + D) (fun i j => if j < C then at2 a.q i j else at2 b.q i (j - C)) k M0 I0) := by
  have lR := da.1.1
  have lR2 := db.1.1
  have lC := da.r0
  have lD := db.r0
  obtain ⟨r1, r2⟩ := da.2.1
  obtain ⟨c1, c2⟩ := da.2.2
  obtain ⟨d1, d2⟩ := db.2.2
  refine CD_hv (φ := slI (a).p (recs eL (a).rows)) (Hv.xsl memF) ?_
  refine CD_hv (φ := slI (b).p (recs eL (b).rows)) (Hv.xsl memF) ?_
  refine enterD2 Tryz.func172 rfl Tryz.ntmps172 rfl ?_
  refine TD_seq ?_
  refine TD_region ?_
  (refine RD_boxL rfl rfl rfl ?_; intro p1; refine ⟨okF, ?_⟩)
  (refine RD_boxL rfl rfl rfl ?_; intro p2; refine ⟨okF, ?_⟩)
  repeat (refine wXh ?_)
  (repeat refine TD_seq ?_); refine TD_drawn [0, 1, 2, 3, 4, 5, 6, 7, 8, 9, 10, 11, 12, 13] [1, 0, 1, 1, 1, 1, 1, 1, 1, 1, 0, 0, 0, 0] mixed (by kernel_rfl) ?_
  repeat (refine wXh ?_)
  rw [show ((gt a.rows 0).es.length : Int) + ((gt b.rows 0).es.length : Int) = (((gt a.rows 0).es.length + (gt b.rows 0).es.length : Nat) : Int) by omega]
  have hg := fun M I (hI : ∀ φ ∈ slI (some ⟨p2, 0, none⟩) [.slice b.p b.rows.length b.c] :: slI (some ⟨p1, 0, none⟩) [.slice a.p a.rows.length a.c] :: slI b.p (recs eL b.rows) :: slI a.p (recs eL a.rows) :: I0, φ ∈ I) (i j : Nat) (hi : i < a.rows.length) (hj : j < (gt a.rows 0).es.length + (gt b.rows 0).es.length) => beside1_ok (X := X) (w0 := w0) (M0 := M) (I0 := I) (a := a) (b := b) (p := p1) (q := p2) (k := k) (m := k) (i := i) (j := j) (C := C) lC (by omega) (by omega) (da.1.row (by omega)) (by omega) (by rw [db.1.row (by omega)]; omega) (by rw [db.1.row (by omega)]; omega) (Nat.le_refl _) (by omega) (hI _ memF) (hI _ memF) (hI _ memF) (hI _ memF)
  (refine RD_callS rfl (mmade_ok (R := a.rows.length) (C := (gt a.rows 0).es.length + (gt b.rows 0).es.length) (g := 224) (fs := #[]) (cs := #[pb p1, pb p2]) (k0 := k) (by omega) (by omega) (fun i j => if j < C then at2 a.q i j else at2 b.q i (j - C)) hg) rfl rfl ?_; rintro _ _ _ ⟨bo, rows, rfl, h1, h2, h3, rfl, rfl⟩; refine ⟨OkD.any (SubP.drop (SubP_dropA SubP.refl)) incF, ?_⟩)
  rw [lR] at h1
  rw [lC, lD] at h2
  rw [lR, lC, lD] at h3
  repeat (refine wXh ?_)
  refine ND_ret1 (by first | exact .inl rfl | exact .inr rfl) rfl rfl _ _ subF incF (⟨bo, rows, by rw [lR], h1, h2, h3, rfl, rfl⟩)
end
end Go.Proofs.YtllaoaobnnondaaGreatR
namespace Go.Proofs.YtllaoaobnnondaaGreatR
open Go Go.Fx
/-- heights of determinants -/
def hD (k : Nat) : Nat → Nat
  | 0 => k
  | n + 1 => (n + 2) * (k + hD k n + 1)
section
variable {X : List Nat} {w0 : World} {M0 : List Ent} {I0 : List Imm}
end
end Go.Proofs.YtllaoaobnnondaaGreatR
namespace Go.Proofs.YtllaoaobnnondaaGreatR
open Go Go.Fx
/-- an owned row, with what lies behind it -/
structure MS where
  b : Nat
  c : Nat
  es : List RE
  tl : List Value
instance : Inhabited MS := ⟨⟨0, 0, [], []⟩⟩
abbrev eS (r : MS) : List Value := [.slice (some ⟨r.b, 0, none⟩) r.es.length r.c]
instance : Sized eS 1 := ⟨fun _ => rfl⟩
instance : Ones eS := ⟨fun m u hu => by simp only [eS, List.mem_cons, List.not_mem_nil, or_false] at hu; subst hu; rfl⟩
abbrev entS (r : MS) : Ent := .blk r.b (recs eR r.es ++ r.tl) 26
structure AllS (rows : List MS) (k : Nat) (X : List Nat) (w : World) : Prop where
  go : ∀ r ∈ rows, ∀ e ∈ r.es, IsR e k X w
abbrev allS (rows : List MS) (k : Nat) : Imm := AllS rows k
instance (rows : List MS) (k : Nat) : Fx.Good (AllS rows k) := ⟨fun X Y w w' h he hY => ⟨fun r hr e hm => Fx.Good.go (φ := IsR _ _) X Y w w' (h.go r hr e hm) he hY⟩⟩
/-- the numbers, place by place -/
def Pw (rows : List MS) (R C : Nat) (V : Nat → Nat → Rat) : Prop := ∀ i j : Nat, i < R → j < C → (gt (gt rows (i : Int)).es (j : Int)).q = V i j
structure Shp (rows : List MS) (R C : Nat) : Prop where
  len : rows.length = R
  col : ∀ r ∈ rows, r.es.length = C ∧ C ≤ r.c
abbrev upR (r : MS) (j : Nat) (e : RE) : MS := ⟨r.b, r.c, st r.es (j : Int) e, r.tl⟩
def upS (rows : List MS) (i j : Nat) (e : RE) : List MS := rows.set i ⟨(gt rows (i : Int)).b, (gt rows (i : Int)).c, st (gt rows (i : Int)).es (j : Int) e, (gt rows (i : Int)).tl⟩
/-- the post of what is built -/
def MsP (R C : Nat) (V : Nat → Nat → Rat) (k : Nat) (M0 : List Ent) (I0 : List Imm) (v : Value) (M : List Ent) (I : List Imm) : Prop :=
  ∃ (bo co : Nat) (tlo : List Value) (rows : List MS), v = .slice (some ⟨bo, 0, none⟩) R co ∧ R ≤ co ∧ Shp rows R C ∧ Pw rows R C V ∧ M = .blk bo (recs eS rows ++ tlo) 58 :: (rows.map entS ++ M0) ∧ I = allS rows k :: I0
def MS.l (r : MS) : RL := ⟨some ⟨r.b, 0, none⟩, r.c, r.es⟩
def MS.x (bo co : Nat) (rows : List MS) : MX := ⟨some ⟨bo, 0, none⟩, co, rows.map MS.l⟩
section
variable {X : List Nat} {w0 : World} {M0 : List Ent} {I0 : List Imm}
end
end Go.Proofs.YtllaoaobnnondaaGreatR
namespace Go.Proofs.YtllaoaobnnondaaGreatR
open Go Go.Fx
section
variable {X : List Nat} {w0 : World} {M0 : List Ent} {I0 : List Imm}
end
end Go.Proofs.YtllaoaobnnondaaGreatR
namespace Go.Proofs.YtllaoaobnnondaaGreatR
open Go Go.Fx
section
variable {X : List Nat} {w0 : World} {M0 : List Ent} {I0 : List Imm}
end
end Go.Proofs.YtllaoaobnnondaaGreatR
namespace Go.Proofs.YtllaoaobnnondaaGreatR
open Go Go.Fx
def mulC (a b : WM) : Int := if a.ok ∧ b.ok then (if (gt a.rows 0).es.length = b.rows.length then 0 else 4) else 1
def listC (a : WM) (x : WL) (n : Nat) : Int := if a.ok then (if x.good then (if x.es.length = n then 0 else 4) else 1) else 1
section
variable {X : List Nat} {w0 : World} {M0 : List Ent} {I0 : List Imm}
end
end Go.Proofs.YtllaoaobnnondaaGreatR
namespace Go.Proofs.YtllaoaobnnondaaGreatR
open Go Go.Fx
def dimL (A : Mt) (R C : Nat) : Prop := A.length = R ∧ ∀ i, i < R → (rowAt A i).length = C
theorem rowAt_set {A : Mt} {i a : Nat} {l : List Rat} (hi : i < A.length) : rowAt (A.set i l) a = if a = i then l else rowAt A a := by
  unfold rowAt
  simp only [List.getD, List.getElem?_set]
  by_cases e : a = i
  · subst e; simp [hi]
  · have e' : ¬ i = a := fun h => e h.symm
    simp [e, e']
theorem rowAt_map {A : Mt} {a : Nat} {f : Nat → List Rat → List Rat} (h : a < A.length) : rowAt (A.mapIdx f) a = f a (rowAt A a) := by
  simp [rowAt, List.getD, h]
theorem rowAt_swp {A : Mt} {R C r k a : Nat} (h : dimL A R C) (hr : r < R) (hk : k < R) : rowAt (swp A r k) a = rowAt A (tr r k a) := by
  unfold swp
  rw [rowAt_set (by rw [List.length_set, h.1]; exact hk), rowAt_set (by rw [h.1]; exact hr)]
  simp only [tr]
  by_cases e1 : a = k
  · subst e1
    rw [if_pos rfl]
    by_cases e2 : a = r
    · rw [if_pos e2, e2]
    · rw [if_neg e2, if_pos rfl]
  · rw [if_neg e1, if_neg e1]
    by_cases e2 : a = r
    · rw [if_pos e2, if_pos e2]
    · rw [if_neg e2, if_neg e2]
theorem dim_swp {A : Mt} {R C r k : Nat} (h : dimL A R C) (hr : r < R) (hk : k < R) : dimL (swp A r k) R C :=
  ⟨by unfold swp; rw [List.length_set, List.length_set]; exact h.1, fun i hi => by rw [rowAt_swp h hr hk]; exact h.2 _ (tr_lt hr hk hi)⟩
theorem getD_mapIdx {l : List Rat} {f : Nat → Rat → Rat} {c : Nat} (h : c < l.length) : (l.mapIdx f).getD c 0 = f c (l.getD c 0) := by
  simp [List.getD, h]
theorem rowAt_elim {B : Mt} {r j a : Nat} {pr : List Rat} (h : a < B.length) : rowAt (elimAll B r j pr) a = if a = r then rowAt B a else if (rowAt B a).getD j 0 = 0 then rowAt B a else subFrom j ((rowAt B a).getD j 0) pr (rowAt B a) := by
  unfold elimAll
  rw [rowAt_map h]
theorem dim_step {A : Mt} {R C r j x : Nat} (h : dimL A R C) (hr : r < R) (hx : x < R) : dimL (stepE A r j x) R C := by
  have hs := dim_swp (r := r) (k := x) h hr hx
  unfold stepE
  refine ⟨by unfold elimAll; rw [List.length_mapIdx, List.length_set]; exact hs.1, fun i hi => ?_⟩
  have hb : rowAt ((swp A r x).set r (scaleFrom j (1 / at2 (swp A r x) r j) (rowAt (swp A r x) r))) i = if i = r then scaleFrom j (1 / at2 (swp A r x) r j) (rowAt (swp A r x) r) else rowAt (swp A r x) i := rowAt_set (by rw [hs.1]; exact hr)
  rw [rowAt_elim (by rw [List.length_set, hs.1]; exact hi), hb]
  by_cases e : i = r
  · rw [if_pos e, if_pos e]; simp only [scaleFrom, List.length_mapIdx]; exact hs.2 r hr
  · rw [if_neg e, if_neg e]
    split
    · exact hs.2 i hi
    · simp only [subFrom, List.length_mapIdx]; exact hs.2 i hi
theorem at2_step {A : Mt} {R C r j x : Nat} (h : dimL A R C) (hr : r < R) (hx : x < R) (hj : j < C) (hz : ∀ b, b < j → at2 A x b = 0) : ∀ a b, a < R → b < C →
    at2 (stepE A r j x) a b = elm r x (1 / at2 A x j) (fun a => at2 A (tr r x a) j) (at2 A) a b := by
  intro a b ha hb
  have hs := dim_swp (r := r) (k := x) h hr hx
  have hat : ∀ i c, at2 (swp A r x) i c = at2 A (tr r x i) c := fun i c => by unfold at2; rw [rowAt_swp h hr hx]
  have htr : tr r x r = x := by simp [tr]
  have hrow : (rowAt (swp A r x) r) = rowAt A x := by rw [rowAt_swp h hr hx, htr]
  have hκ : at2 (swp A r x) r j = at2 A x j := by rw [hat, htr]
  obtain ⟨κ, hk⟩ : ∃ κ, κ = 1 / at2 A x j := ⟨_, rfl⟩
  rw [← hk]
  have hpr : ∀ c, c < C → (scaleFrom j κ (rowAt A x)).getD c 0 = κ * at2 A x c := fun c hc => by
    unfold scaleFrom
    rw [getD_mapIdx (by rw [h.2 x hx]; exact hc)]
    by_cases e : c < j
    · rw [if_pos e]
      have := hz c e
      rw [this]
      unfold at2 at this
      rw [this]; grind
    · rw [if_neg e]; rfl
  have e1 : at2 (stepE A r j x) a b = (rowAt (stepE A r j x) a).getD b 0 := rfl
  rw [e1]
  unfold stepE
  rw [hκ, hrow, ← hk]
  have hbb : rowAt ((swp A r x).set r (scaleFrom j κ (rowAt A x))) a = if a = r then scaleFrom j κ (rowAt A x) else rowAt (swp A r x) a := rowAt_set (by rw [hs.1]; exact hr)
  rw [rowAt_elim (by rw [List.length_set, hs.1]; exact ha), hbb]
  simp only [elm, htr]
  by_cases e : a = r
  · rw [if_pos e, if_pos e, if_pos e]; exact hpr b hb
  · rw [if_neg e, if_neg e, if_neg e, rowAt_swp h hr hx]
    have hc : (rowAt A (tr r x a)).getD j 0 = at2 A (tr r x a) j := rfl
    rw [hc]
    by_cases e0 : at2 A (tr r x a) j = 0
    · rw [if_pos e0, e0]
      show at2 A (tr r x a) b = _
      grind
    · rw [if_neg e0]
      unfold subFrom
      rw [getD_mapIdx (by rw [h.2 _ (tr_lt hr hx ha)]; exact hb)]
      show (if b < j then at2 A (tr r x a) b else at2 A (tr r x a) b - _) = _
      by_cases ej : b < j
      · rw [if_pos ej, hz b ej]; grind
      · rw [if_neg ej, hpr b hb]
theorem findP_zero {A : Mt} {j : Nat} : ∀ (f k : Nat), k + f = A.length → ∀ i, k ≤ i → i < findP A j f k → at2 A i j = 0
  | 0, k, _, i, h1, h2 => by simp [findP] at h2; omega
  | f + 1, k, h, i, h1, h2 => by
    unfold findP at h2
    by_cases hc : k < A.length ∧ at2 A k j = 0
    · rw [if_pos hc] at h2
      by_cases e : i = k
      · subst e; exact hc.2
      · exact findP_zero f (k + 1) (by omega) i (by omega) h2
    · rw [if_neg hc] at h2; omega
theorem redN_red {A : Mt} {R C : Nat} (h : dimL A R C) : ∀ n, n ≤ C → dimL (redN A n).1 R C ∧ ∃ s, Red R C n (at2 A) (at2 (redN A n).1) (redN A n).2 s
  | 0, _ => ⟨h, 1, Red.start⟩
  | n + 1, hn => by
    obtain ⟨hd, s, hr⟩ := redN_red h n (by omega)
    rw [redN_succ]
    generalize redN A n = st at hd hr
    obtain ⟨B, pv⟩ := st
    simp only at hd hr
    have hlen := hr.len
    obtain ⟨f1, f2, f3⟩ := findP_lt (A := B) (j := n) (B.length - pv.length) pv.length (by rw [hd.1]; omega)
    have f4 := findP_zero (A := B) (j := n) (B.length - pv.length) pv.length (by rw [hd.1]; omega)
    unfold redS
    simp only
    generalize findP B n (B.length - pv.length) pv.length = x at f1 f2 f3 f4
    by_cases hx : x < B.length
    · rw [if_pos hx]
      rw [hd.1] at hx
      refine ⟨dim_step hd (by omega) hx, _, hr.step (x := x) (by omega) f1 hx (f3 (by rw [hd.1]; exact hx)) (at2_step hd (by omega) hx (by omega) (fun b hb => hr.zero x b f1 hx hb))⟩
    · rw [if_neg hx]
      exact ⟨hd, s, hr.none (fun i h1 h2 => f4 i h1 (by rw [hd.1] at hx; omega))⟩
end Go.Proofs.YtllaoaobnnondaaGreatR
namespace Go.Proofs.YtllaoaobnnondaaGreatR
open Go Go.Fx
/-- one column: rows exchanged, the pivot's row subtracted from those below -/
def dstep (A : Mt) (j x : Nat) : Mt := (swp A j x).mapIdx (fun i row => if i ≤ j then row else if row.getD j 0 = 0 then row else subFrom j (row.getD j 0 / at2 (swp A j x) j j) (rowAt (swp A j x) j) row)
def blkF (A : Mt) (j : Nat) : Nat → Nat → Rat := fun i k => at2 A (i + j) (k + j)
end Go.Proofs.YtllaoaobnnondaaGreatR
namespace Go.Proofs.YtllaoaobnnondaaGreatR
open Go Go.Fx
/- regions that draw: some reads see all up to a first effect, others what stays up to a second one -/
section
variable {P : Program} {n : Nat} {Q : Exit → Act → World → Prop} {G : Env} {X : List Nat} {w0 : World} {M M' M1 Ms : List Ent} {I I' I1 Is : List Imm}
def CsL (J1 J2 : Nat) (X : List Nat) (w0 : World) (M : List Ent) (I : List Imm) (Ms : List Ent) (Is : List Imm) : Nat → World → Prop := fun s w => (s ≤ J1 → Mem X w0 M I w) ∧ (s ≤ J2 → Mem X w0 Ms Is w)
end
section
variable {X : List Nat} {w0 : World} {M0 : List Ent} {I0 : List Imm}
abbrev zRm : List Value := [.bool false, .slice none 0 0, .bool false, .slice none 0 0]
end
end Go.Proofs.YtllaoaobnnondaaGreatR

/- Controlled observations, plain: Fredholm's alternative, rows left out, the rank of the transposed matrix, weights, certificates. matrix: Refute (what it returns is a list; that is all that is asked of it). What the laws of matrices share. -/
import Derived.Test.YtgeagiikkeiioaaGreatZgbg
import Derived.Test.YtgeagiikkeiioaaGreatZgbf
import Derived.Test.YtgeagiikkeiioaaGreatZgaw
import Derived.Test.YtgeagiikkeiioaaGreatZgbh
set_option linter.unusedSimpArgs false
set_option linter.unusedVariables false
set_option maxRecDepth 100000
set_option maxHeartbeats 4000000
namespace Go.Proofs.YtgeagiikkeiioaaGreat
open Go Go.Fx
def unL (n i : Nat) : List Rat := (List.range n).map (oO i)
theorem xZ {n i k : Nat} (hk : k < n) : (unL n i).getD k 0 = oO i k := by simp [unL, List.getD, hk]
theorem aRZ {n i : Nat} : (unL n i).length = n := by simp [unL]
def sV (A : Mt) (C i : Nat) (z : Nat → Rat) : Rat := sm C (fun j => at2 A i j * z j)
def ctl (R C : Nat) (A : Mt) (i : Nat) : Prop := ¬ wD R C A (unL R i)
instance (R C : Nat) (A : Mt) (i : Nat) : Decidable (ctl R C A i) := by unfold ctl; exact inferInstance
theorem aRK {A : Mt} {C i : Nat} {z : Nat → Rat} {c : Rat} : sV A C i (fun j => c * z j) = c * sV A C i z := by
 unfold sV; rw [← jS]; exact bJ (fun j _ => by grind)
theorem aRU {R C : Nat} {A : Mt} {i : Nat} (hi : i < R) : ctl R C A i ↔ ∀ z, (∀ k, k < R → k ≠ i → sV A C k z = 0) → sV A C i z = 0 := by
 unfold ctl
 rw [aFT]
 constructor
 ·intro h z hz
  refine Classical.byContradiction (fun hne => h ⟨fun j => 1 / sV A C i z * z j, fun k hk => ?_⟩)
  rw [xZ hk]
  refine Eq.trans (aRK (A := A) (C := C) (i := k) (z := z) (c := 1 / sV A C i z)) ?_
  by_cases e : k = i
  ·subst e; simp only [oO, if_true]; grind
  ·rw [hz k hk e]; simp only [oO]; rw [if_neg (fun e' => e e'.symm)]; grind
 ·rintro h ⟨x, hx⟩
  have h1 := h x (fun k hk hne => by
   have := hx k hk
   rw [xZ hk] at this
   simp only [oO] at this
   rw [if_neg (fun e => hne e.symm)] at this
   exact this)
  have h2 := hx i hi
  rw [xZ hi] at h2
  simp only [oO, if_true] at h2
  unfold sV at h1
  rw [h1] at h2
  exact absurd h2 (by decide)
/- rows left out -/
def iK (A : Mt) (ix : List Nat) : Mt := ix.map (rowAt A)
theorem aFZ {A : Mt} {ix : List Nat} {t j : Nat} (ht : t < ix.length) : at2 (iK A ix) t j = at2 A ix[t] j := by
 simp [iK, at2, rowAt, List.getD, ht]
theorem yO {A : Mt} {R C : Nat} (hA : oV A R C) {ix : List Nat} (hx : ∀ i ∈ ix, i < R) : oV (iK A ix) ix.length C := ⟨by simp [iK], fun t ht => by
 have : rowAt (iK A ix) t = rowAt A ix[t] := by simp [iK, rowAt, List.getD, ht]
 rw [this]; exact hA.2 _ (hx _ (List.getElem_mem _))⟩
theorem qW {A : Mt} {C : Nat} {ix : List Nat} {z : Nat → Rat} : Go.Proofs.YtgeagiikkeiioaaGreat.ker ix.length C (at2 (iK A ix)) z ↔ ∀ i ∈ ix, sV A C i z = 0 := by
 constructor
 ·intro h i hi
  obtain ⟨t, ht, rfl⟩ := List.mem_iff_getElem.1 hi
  rw [← h t ht]; exact bJ (fun j _ => by rw [aFZ ht])
 ·intro h t ht
  rw [← h ix[t] (List.getElem_mem _)]; exact bJ (fun j _ => by rw [aFZ ht])
theorem aLA {A : Mt} {R C : Nat} (hA : oV A R C) {ix : List Nat} (hx : ∀ i ∈ ix, i < R) : rk (iK A ix) C ≤ rk A C ∧ (rk (iK A ix) C = rk A C ↔ ∀ z, (∀ i ∈ ix, sV A C i z = 0) → ∀ i, i < R → sV A C i z = 0) := by
 obtain ⟨_, s, hr⟩ := iC hA C (Nat.le_refl _)
 obtain ⟨_, s', hr'⟩ := iC (yO hA hx) C (Nat.le_refl _)
 have hk : ∀ z, Go.Proofs.YtgeagiikkeiioaaGreat.ker R C (at2 A) z → Go.Proofs.YtgeagiikkeiioaaGreat.ker ix.length C (at2 (iK A ix)) z := fun z hz => qW.2 (fun i hi => hz i (hx i hi))
 refine ⟨hr'.le hr hk, ?_⟩
 unfold rk
 rw [hr'.eq_iff hr hk]
 exact ⟨fun h z hz i hi => h z (qW.2 hz) i hi, fun h z hz i hi => h z (qW.1 hz) i hi⟩
def dD (R : Nat) (set : List Int) : List Nat := (List.range R).filter (fun i => decide ((i : Int) ∉ set))
theorem iY {R i : Nat} {set : List Int} : i ∈ dD R set ↔ i < R ∧ (i : Int) ∉ set := by unfold dD; simp
def und (R C : Nat) (A : Mt) (set : List Int) : Prop := rk (iK A (dD R set)) C < rk A C
instance (R C : Nat) (A : Mt) (set : List Int) : Decidable (und R C A set) := by unfold und; exact inferInstance
theorem aAB {A : Mt} {R C : Nat} (hA : oV A R C) {set : List Int} : ¬ und R C A set ↔ ∀ z, (∀ i, i < R → (i : Int) ∉ set → sV A C i z = 0) → ∀ i, i < R → sV A C i z = 0 := by
 have h := aLA hA (ix := dD R set) (fun i hi => (iY.1 hi).1)
 unfold und
 have e : ¬ rk (iK A (dD R set)) C < rk A C ↔ rk (iK A (dD R set)) C = rk A C := by have := h.1; omega
 rw [e, h.2]
 exact ⟨fun k z hz => k z (fun i hi => hz i (iY.1 hi).1 (iY.1 hi).2), fun k z hz => k z (fun i h1 h2 => hz i (iY.2 ⟨h1, h2⟩))⟩
theorem aSC {A : Mt} {R C i : Nat} (hA : oV A R C) (hi : i < R) : und R C A [(i : Int)] ↔ ¬ ctl R C A i := by
 have : ¬ und R C A [(i : Int)] ↔ ctl R C A i := by
  rw [aAB hA, aRU hi]
  constructor
  ·intro h z hz; exact h z (fun k hk hn => hz k hk (fun e => hn (by rw [e]; exact List.mem_singleton.2 rfl))) i hi
  ·intro h z hz k hk
   have hz' : ∀ k, k < R → k ≠ i → sV A C k z = 0 := fun k hk hn => hz k hk (fun hm => hn (by have := List.mem_singleton.1 hm; omega))
   by_cases e : k = i
   ·rw [e]; exact h z hz'
   ·exact hz' k hk e
 by_cases h : und R C A [(i : Int)] <;> simp [h] at this ⊢ <;> exact this
theorem aUJ {A : Mt} {R C i : Nat} (hA : oV A R C) (hi : i < R) : ctl R C A i ↔ rk (iK A (dD R [(i : Int)])) C = rk A C := by
 have h1 := aSC hA hi
 have h2 := (aLA hA (ix := dD R [(i : Int)]) (fun i hi => (iY.1 hi).1)).1
 unfold und at h1
 by_cases h : ctl R C A i
 ·exact ⟨fun _ => by have : ¬ _ := fun e => (h1.1 e) h; omega, fun _ => h⟩
 ·exact ⟨fun e => absurd e h, fun e => by have := h1.2 h; omega⟩
/- the transposed matrix -/
def trM (R C : Nat) (A : Mt) : Mt := vE C R (fun i j => at2 A j i)
theorem aPB {R C : Nat} {A : Mt} (hA : oV A R C) : (zB A C).length + rk A C = C := by
 obtain ⟨_, s, hr⟩ := iC hA C (Nat.le_refl _)
 have := hr.free_len
 unfold zB aOP rk
 rw [List.length_map]; exact this
/- certificates -/
/- weights: the normal matrix has the kernel of the design matrix -/
theorem sq_nn (x : Rat) : 0 ≤ x * x := by
 rcases Rat.le_total (a := 0) (b := x) with h | h
 ·exact Rat.mul_nonneg h h
 ·have h2 : 0 ≤ -x := by grind
  have := Rat.mul_nonneg h2 h2
  grind
def aHR (R C : Nat) (A : Mt) (p : Nat → Rat) : Mt := vE C C (fun i j => sm R (fun k => p k * at2 A k i * at2 A k j))
theorem sm_nn {n : Nat} {f : Nat → Rat} (h : ∀ i, i < n → 0 ≤ f i) : 0 ≤ sm n f ∧ (sm n f = 0 → ∀ i, i < n → f i = 0) := by
 induction n with
 | zero => exact ⟨(by show (0 : Rat) ≤ 0; decide), fun _ i hi => by omega⟩
 | succ n ih =>
  obtain ⟨h1, h2⟩ := ih (fun i hi => h i (by omega))
  have h3 := h n (by omega)
  have e : sm (n + 1) f = sm n f + f n := rfl
  rw [e]
  refine ⟨by grind, fun h0 i hi => ?_⟩
  have h4 : sm n f = 0 := by grind
  have h5 : f n = 0 := by grind
  by_cases e : i = n
  ·rw [e]; exact h5
  ·exact h2 h4 i (by omega)
theorem aKR {R C : Nat} {A : Mt} {p : Nat → Rat} (hp : ∀ k, k < R → 0 < p k) (z : Nat → Rat) : Go.Proofs.YtgeagiikkeiioaaGreat.ker C C (at2 (aHR R C A p)) z ↔ Go.Proofs.YtgeagiikkeiioaaGreat.ker R C (at2 A) z := by
 have e : ∀ i, i < C → sm C (fun j => at2 (aHR R C A p) i j * z j) = sm R (fun k => p k * at2 A k i * sV A C k z) := fun i hi => by
  rw [bJ (g := fun j => sm R (fun k => p k * at2 A k i * (at2 A k j * z j))) (fun j hj => by
   unfold aHR; rw [nU hi hj]
   have : ∀ s : Rat, s * z j = z j * s := fun s => by grind
   rw [this, ← jS]; exact bJ (fun k _ => by grind)), sO]
  exact bJ (fun k _ => by rw [jS]; rfl)
 constructor
 ·intro h
  have h1 : sm R (fun k => p k * (sV A C k z * sV A C k z)) = 0 := by
   have h2 : sm C (fun i => z i * sm R (fun k => p k * at2 A k i * sV A C k z)) = 0 := jT (fun i hi => by rw [← e i hi, h i hi]; grind)
   rw [bJ (g := fun i => sm R (fun k => (p k * sV A C k z) * (at2 A k i * z i))) (fun i _ => by rw [← jS]; exact bJ (fun k _ => by grind)), sO] at h2
   rw [← h2]
   exact bJ (fun k _ => by rw [jS]; unfold sV; grind)
  have h3 := (sm_nn (f := fun k => p k * (sV A C k z * sV A C k z)) (fun k hk => Rat.mul_nonneg (Rat.le_of_lt (hp k hk)) (sq_nn _))).2 h1
  intro k hk
  have h4 := h3 k hk
  have h5 := hp k hk
  show sV A C k z = 0
  rcases Rat.mul_eq_zero.1 h4 with h | h
  ·grind
  ·rcases Rat.mul_eq_zero.1 h with h | h <;> exact h
 ·intro h i hi
  rw [e i hi]
  exact jT (fun k hk => by have : sV A C k z = 0 := h k hk; rw [this]; grind)
theorem aUI {R C : Nat} {A : Mt} (hA : oV A R C) {p : Nat → Rat} (hp : ∀ k, k < R → 0 < p k) : rk (aHR R C A p) C = rk A C := by
 obtain ⟨_, s, hr⟩ := iC hA C (Nat.le_refl _)
 obtain ⟨_, s', hr'⟩ := iC (A := aHR R C A p) (R := C) (C := C) dimK C (Nat.le_refl _)
 exact Nat.le_antisymm (hr'.le hr (fun z hz => (aKR hp z).2 hz)) (hr.le hr' (fun z hz => (aKR hp z).1 hz))
/- the document's inverse: the pivots of the matrix with the unit matrix beside -/
theorem aGB {A : Mt} {n : Nat} : ∀ {d : Nat}, ∃ l, (iH A (n + d)).2 = (iH A n).2 ++ l ∧ ∀ x ∈ l, n ≤ x
 | 0 => ⟨[], by simp, by simp⟩
 | d + 1 => by
  obtain ⟨l, e, h⟩ := aGB (A := A) (n := n) (d := d)
  rw [← Nat.add_assoc, pR]
  unfold aGD
  split
  ·exact ⟨l ++ [n + d], by simp only [e, List.append_assoc], fun x hx => by
    rcases List.mem_append.1 hx with hx | hx
    ·exact h x hx
    ·rw [List.mem_singleton.1 hx]; omega⟩
  ·exact ⟨l, e, h⟩
theorem aNN {B : Mt} {n : Nat} (hn : 1 ≤ n) (hd : oV B n (n + n)) : ((iH B (n + n)).2.length = n ∧ (iH B (n + n)).2.getD (n - 1) 0 < n) ↔ rk B n = n := by
 obtain ⟨h1, s, hr⟩ := iC hd n (by omega)
 have hl := hr.len
 unfold rk
 constructor
 ·rintro ⟨h2, h3⟩
  obtain ⟨l, e, hx⟩ := aGB (A := B) (n := n) (d := n)
  rw [e] at h2 h3
  refine Classical.byContradiction (fun hne => ?_)
  rw [List.length_append] at h2
  have h4 : (iH B n).2.length ≤ n - 1 := by omega
  have h5 : n - 1 < ((iH B n).2 ++ l).length := by rw [List.length_append]; omega
  rw [mM h5, List.getElem_append_right h4] at h3
  have := hx _ (List.getElem_mem (l := l) (n := n - 1 - (iH B n).2.length) (by omega))
  omega
 ·intro h2
  generalize hst : iH B n = st at *
  obtain ⟨E, pv⟩ := st
  simp only at *
  have := yG hst h1.1 h2 n
  rw [this]
  exact ⟨h2, hr.piv_lt (by omega)⟩
theorem aMS {B N : Mt} {n : Nat} (hd : oV B n (n + n)) (hN : oV N n n) (h : ∀ i j, i < n → j < n → at2 B i j = at2 N i j) : rk B n = n ↔ rk N n = n := by
 obtain ⟨_, s, hr⟩ := iC hd n (by omega)
 obtain ⟨_, s', hr'⟩ := iC hN n (Nat.le_refl _)
 unfold rk
 rw [hr.iff (by omega), hr'.iff (Nat.le_refl _), lF h]
end Go.Proofs.YtgeagiikkeiioaaGreat
namespace Go.Proofs.YtgeagiikkeiioaaGreat
open Go Go.Fx
theorem Hv.cutR {I : List bA} {m : MX} {K : Nat} {i : Int} {lo : Nat} (h : gD m K ∈ I) (hi : 0 ≤ i ∧ i < m.rows.length) (hlo : lo ≤ (gt m.rows i).es.length) : Hv I (aT (tC (gt m.rows i).p (gt m.rows i).c lo 4) (recs eR ((gt m.rows i).es.drop lo))) := ⟨fun X w hw => by
 have hr := (hw _ h : IsX m K X w).row _ (cZ hi)
 have hc := hr.cap.1
 refine ⟨?_⟩
 have := hr.sl.cut (gt m.rows i).c lo ((gt m.rows i).es.length * 4) 4 (by rw [jQ]; exact Nat.mul_le_mul_right _ hc)
 rw [List.take_of_length_le (by rw [jQ]; exact Nat.le_refl _)] at this
 rw [yI]; exact this⟩
section
variable {X : List Nat} {w0 : World} {M0 : List Ent} {I0 : List bA}
theorem aID {a b : MX} {R C D k : Nat} (da : a.fit R C) (db : b.fit R D) (ha : gD a k ∈ I0) (hb : gD b k ∈ I0) : CD Tryz.prog 163 [mv a, mv b] X w0 M0 I0 (XQ (vE R (C + D) (fun i j => if j < C then at2 a.q i j else at2 b.q i (j - C))) R (C + D) k M0 I0) := mkXQ (yH da db ha hb)
theorem aIA {m : WM} {p : Nat} (hb : aT (some ⟨p, 0, none⟩) [.slice m.p m.rows.length m.c] ∈ I0) :
  CD Tryz.prog 194 [pb p] X w0 M0 I0 (fun v M I => M0 = M ∧ I0 = I ∧ v = .int .i64 (m.rows.length : Int)) := by
 refine bE Tryz.func194 rfl Tryz.ntmps194 rfl ?_
 repeat (refine aK ?_)
 refine aH (by first | exact .inl rfl | exact .inr rfl) rfl rfl _ _ aC aD (⟨rfl, rfl, rfl⟩)
theorem aMC {a : MX} {b : RL} {R C k0 : Nat} (hb : 2 * kb k0 C ≤ 20000000000) (hC : C ≤ 30) (hR30 : R ≤ 64) (da : a.fit R C) (hl : b.es.length = R) (ha : gD a k0 ∈ I0) (hbb : jP b k0 ∈ I0) (hno : ¬ wD R C a.q b.q) :
  CD Tryz.prog 152 [mv a, lv b] X w0 M0 I0 (fun v M I => M0 = M ∧ ∃ r : RL, v = .tuple #[lv r, .int .i64 0] ∧ I = jP r (kb k0 C + kb k0 C) :: I0) := by
 have hk0 : k0 ≤ kb k0 C := nH k0 (Nat.zero_le C)
 obtain ⟨r1, r2⟩ := da.2.1
 obtain ⟨c1, c2⟩ := da.2.2
 refine kM (fun w hw => Mem.xsml ha da (by omega) hw) (fun sa => kM (fun w hw => Mem.lsml hbb (by omega) (by omega) hw) (fun sx => ?_))
 have hC0 := fun p M0 I0 h1 h2 h3 => aEI (X := X) (w0 := w0) (M0 := M0) (I0 := I0) (a := a.raw) (x := b.raw) (n := R) (g := 194) (fs := #[]) (cs := #[pb p]) sa sx h1 h2 (fun _ => by have := aIA (X := X) (w0 := w0) (M0 := M0) (I0 := I0) (m := a.raw) (p := p) h3; rw [MX.raw_rows, da.1.1] at this; exact this)
 have e0 : zM a.raw b.raw R = 0 := by
  unfold zM
  rw [if_pos da.ok, if_pos b.raw_good, if_pos (by show (b.es.map RE.raw).length = R; rw [List.length_map]; exact hl)]
 rw [e0, aBX, xX] at hC0
 have lR := da.1.1
 have lC := da.r0
 refine bQ (φ := oZ a.raw) (Hv.xraw ha (by omega)) ?_
 refine bQ (φ := iW b.raw) (Hv.lraw (List.Mem.tail _ hbb) (by omega)) ?_
 refine bQ (φ := aT (a).p (recs eL (a).rows)) (Hv.xsl aB) ?_
 refine bD Tryz.func152 rfl Tryz.ntmps152 rfl ?_
 refine aJ ?_
 refine aI ?_
 (refine nG rfl rfl rfl ?_; intro p1; refine ⟨okF, ?_⟩)
 repeat (refine aK ?_)
 refine iA (φ := aT (some ⟨p1, 0, none⟩) [.slice a.raw.p a.raw.rows.length a.raw.c]) (by rw [MX.raw_rows]; exact Hv.mem aB) ?_
 (refine aA rfl (hC0 p1 _ _ aB aB aB) rfl rfl ?_; rintro _ _ _ ⟨rfl, rfl, rfl⟩; refine ⟨okF, ?_⟩)
 refine aPF (M' := M0) (I' := aT (some ⟨p1, 0, none⟩) [.slice a.p a.rows.length a.c] :: aT a.p (recs eL a.rows) :: I0) SubP.refl aD ?_
 repeat (refine aK ?_)
 (repeat refine aJ ?_); refine dJ [0, 1, 2, 3, 4, 5, 6, 7] [0, 0, 0, 0, 0, 0, 0, 0] mixed (by kernel_rfl) ?_
 repeat (refine aK ?_)
 rw [lC, show ((a.rows.length : Nat) : Int) = (R : Int) by rw [lR]]
 (repeat refine aJ ?_); refine dJ [0, 1, 4, 5, 2, 3, 6, 7, 8] [3, 3, 3, 3, 0, 0, 0, 0, 0] mixed (by kernel_rfl) ?_
 repeat (refine aK ?_)
 (refine aA rfl (aDO (n := R) (by omega) hl aB) rfl rfl ?_; rintro _ _ _ ⟨rfl, y, rfl, hy, hyd, rfl⟩; refine ⟨okF, ?_⟩)
 (refine aA rfl (aID da (b := y) (D := 1) ⟨hyd, ⟨r1, r2⟩, by omega, by omega⟩ aB aB) rfl rfl ?_; rintro _ _ _ ⟨rfl, ab, rfl, hab, habd, rfl⟩; refine ⟨okF, ?_⟩)
 (refine aA rfl (aAR (R := R) (C := R) (g := 135) (fs := #[]) (cs := #[]) (k0 := 0) (by omega) (by omega) oO (fun M I _ i j hi hj => by have := aKN (X := X) (w0 := w0) (M0 := M) (I0 := I) (i := (i : Int)) (j := (j : Int)); rw [← aRR] at this; exact this)) rfl rfl ?_; rintro _ _ _ ⟨rfl, u, rfl, hu, hud, rfl⟩; refine ⟨okF, ?_⟩)
 refine iA (φ := gD u k0) (Hv.xm (k := 0) aB (Nat.zero_le _)) ?_
 (refine aA rfl (yH (a := ab) (b := u) (R := R) (C := C + 1) (D := R) ⟨habd, ⟨r1, r2⟩, by omega, by omega⟩ ⟨hud, ⟨r1, r2⟩, r1, r2⟩ aB aB) rfl rfl ?_; rintro _ _ _ ⟨bo, rows0, rfl, hl0, hc0, hq0, rfl, rfl⟩; refine ⟨OkD.any (SubP.drop (qA SubP.refl)) aD, ?_⟩)
 repeat (refine aK ?_)
 have hB : mq rows0 = aFE R C a.q b.q := by
  unfold aFE
  refine Eq.trans hq0 ?_
  refine uW (R := R) (C := C + 1 + R) (fun i j hi hj => ?_)
  by_cases e : j < C
  ·rw [if_pos (by omega), if_pos e, hab, nU hi (by omega), if_pos e]
  ·rw [if_neg e]
   by_cases e1 : j = C
   ·rw [if_pos (by omega), if_pos e1, hab, nU hi (by omega), if_neg e, hy, nU hi (by omega)]
   ·rw [if_neg (by omega), if_neg e1, hu, nU hi (by omega)]
 have hRd := fun I0 h => vO (X := X) (w0 := w0) (M0 := .blk bo (recs eM rows0) 34 :: (rows0.map gF ++ M0)) (I0 := I0) (bo := bo) (R := R) (C := C + 1 + R) (n := C) (k0 := k0) (rows := rows0) (M1 := M0) hl0 (by omega) (by omega) hc0 (by omega) (by omega) h rfl
 (refine aA rfl (hRd _ aB) rfl rfl ?_; rintro _ _ _ ⟨rfl, m, pv, q, c, rfl, mp, mc, md, hred, hpv, rfl⟩; refine ⟨okF, ?_⟩)
 rw [hB] at hred
 have hS : ¬ aHQ R C (at2 m.q) pv := by have := aOW (R := R) (C := C) (A := a.q) (b := b.q); rw [hred] at this; exact fun h => hno (this.1 h)
 clear hred hB hRd hC0
 have mR := md.1
 have hz : (zs pv).length = pv.length := by simp
 generalize hK : kb k0 C = K at *
 refine iA (φ := aT (some ⟨bo, 0, none⟩) (recs eL m.rows)) (by rw [← mp]; exact Hv.xsl aB) ?_
 repeat (refine aK ?_)
 (refine aG rfl (fun _ => pQ (e := 34) (sz := 1) pv.length R (R - pv.length) rfl (.inr ⟨_, _, _, rfl, rfl, rfl⟩) (.inl ⟨rfl, rfl⟩) (by omega) (by omega) rfl) rfl rfl ?_)
 refine aEC R pv.length R (enc := eL) (ms := m.rows) aB (by omega) ?_
 have hcl : ((m.rows.take R).drop pv.length).length = R - pv.length := by simp; omega
 generalize hcr : (m.rows.take R).drop pv.length = cr at *
 have hcg : ∀ i : Nat, pv.length + i < R → gt cr (i : Int) = gt m.rows ((pv.length + i : Nat) : Int) := fun i hi => by rw [← hcr]; exact aON mR hi
 generalize hca : tC (some ⟨bo, 0, none⟩) R pv.length 1 = ca at *
 repeat (refine aK ?_)
 refine aS [7, 43, 44] rfl (fun k G M I => ∃ i : Nat, i ≤ R - pv.length ∧ k = R - pv.length - i ∧ (∀ t : Nat, pv.length ≤ t → t < pv.length + i → at2 m.q t C = 0) ∧ G = [(45, .int .i64 i)] ∧ M0 = M ∧ I = aT ca (recs eL cr) :: aT (some ⟨bo, 0, none⟩) (recs eL m.rows) :: pvI q pv :: gD m K :: I0) (R - pv.length) _ _ _ aO aC aD (⟨0, by omega, rfl, fun t h1 h2 => by omega, rfl, rfl, rfl⟩) ?_
 rintro kk G M I ⟨i, hi, rfl, hz0, rfl, rfl, rfl⟩
 by_cases hiR : i < R - pv.length
 ·have hg := hcg i (by omega)
  have hmr := md.row (i := pv.length + i) (by omega)
  have hat := nK (m := m) (i := pv.length + i) (j := C) (by omega) (by omega)
  have hlc : (gt cr (i : Int)).es.length = C + 1 + R := by rw [hg]; exact hmr
  refine bL (φ := aT (gt cr (i : Int)).p (recs eR (gt cr (i : Int)).es)) (by rw [hg]; exact Hv.xrsl aB (by omega)) ?_
  refine bL (φ := eQ (gt (gt cr (i : Int)).es (C : Int)) K) (by rw [hg]; exact Hv.xel aB (by omega) (by omega)) ?_
  have hSg := fun M0 I0 h => lZ (X := X) (w0 := w0) (M0 := M0) (I0 := I0) (e := gt (gt cr (i : Int)).es (C : Int)) (k := K) (by omega) h
  rw [← hg] at hat
  by_cases h0 : (gt (gt cr (i : Int)).es (C : Int)).q = 0
  ·rw [(mP _).2 h0] at hSg
   repeat (refine aK ?_)
   (refine aA rfl (hSg _ _ (Hv.mem aB)) rfl rfl ?_; rintro _ _ _ ⟨rfl, rfl, rfl⟩; refine ⟨okF, ?_⟩)
   repeat (refine aK ?_)
   refine aM (R - pv.length - (i + 1)) _ _ _ (by first | omega | (simp only [List.length_append, List.length_cons, List.length_nil]; omega)) aO aC aD (⟨i + 1, by omega, rfl, fun t h1 h2 => ?_, rfl, rfl, rfl⟩)
   by_cases e : t = pv.length + i
   ·rw [e, hat]; exact h0
   ·exact hz0 t h1 (by omega)
  ·have hs1 : ¬ (gt (gt cr (i : Int)).es (C : Int)).q.num.sign = 0 := fun h => h0 ((mP _).1 h)
   generalize (gt (gt cr (i : Int)).es (C : Int)).q.num.sign = sg1 at *
   refine bL (φ := gD m K) (Hv.mem aB) ?_
   refine uS (fun w hw => (((hw.imm _ (List.Mem.head _)).2 : IsX m K _ w).row _ (cZ (i := ((pv.length + i : Nat) : Int)) (by omega))).cap.1) (fun hcap => ?_)
   rw [← hg] at hcap
   have hqt := fun M0 I0 (x : RE) h1 h2 => zN (X := X) (w0 := w0) (M0 := M0) (I0 := I0) (a := x) (b := gt (gt cr (i : Int)).es (C : Int)) (k := K) (m := K) (by omega) h0 h1 h2
   refine bL (φ := aT (tC (gt cr (i : Int)).p (gt cr (i : Int)).c (C + 1) 4) (recs eR ((gt cr (i : Int)).es.drop (C + 1)))) (by rw [hg]; exact Hv.cutR (List.Mem.head _) (by omega) (by omega)) ?_
   repeat (refine aK ?_)
   (refine aA rfl (hSg _ _ (Hv.mem aB)) rfl rfl ?_; rintro _ _ _ ⟨rfl, rfl, rfl⟩; refine ⟨okF, ?_⟩)
   repeat (refine aK ?_)
   have hdl : ((gt cr (i : Int)).es.drop (C + 1)).length = R := by simp; omega
   have hdg : ∀ t : Nat, t < R → gt ((gt cr (i : Int)).es.drop (C + 1)) (t : Int) = gt (gt cr (i : Int)).es ((C + 1 + t : Nat) : Int) := fun t ht => by
    rw [dY (by omega), List.getElem_drop]; exact (dY (by omega)).symm
   have eC : (C : Int) + 1 = ((C + 1 : Nat) : Int) := by omega
   rw [eC]
   refine gH (fun _ hw => hw.row0 42 4) ?_
   refine iA (φ := cK [] (K + K)) Hv.nilR ?_
   repeat (refine aK ?_)
   (refine aG rfl (fun _ => pQ (e := 42) (sz := 4) (C + 1) (gt cr (i : Int)).es.length R rfl (.inr ⟨_, _, _, rfl, rfl, rfl⟩) (.inl ⟨rfl, rfl⟩) (by omega) (by omega) (by omega)) rfl rfl ?_)
   generalize hxa : tC (gt cr (i : Int)).p (gt cr (i : Int)).c (C + 1) 4 = xa at *
   generalize hdr : (gt cr (i : Int)).es.drop (C + 1) = dr at *
   repeat (refine aK ?_)
   refine aS [7, 12, 58, 59] rfl (fun k G M I => ∃ (t : Nat) (es : List RE) (q2 : Option Addr) (cc : Nat), t ≤ R ∧ k = R - t ∧ es.length = t ∧ G = [(13, .slice q2 es.length cc), (60, .int .i64 t)] ∧ M = .row q2 es.length cc (recs eR es) 42 4 :: M0 ∧ I = cK es (K + K) :: aT xa (recs eR dr) :: eQ (gt (gt cr (i : Int)).es (C : Int)) K :: aT (gt cr (i : Int)).p (recs eR (gt cr (i : Int)).es) :: gD m K :: I0) (R) _ _ _ aO aC aD (⟨0, [], none, 0, by omega, rfl, rfl, rfl, rfl, rfl⟩) ?_
   rintro kk G M I ⟨t, es, q2, cc, ht, rfl, hel, rfl, rfl, rfl⟩
   by_cases htR : t < R
   ·have hge := hdg t htR
    refine bL (φ := eQ (gt dr (t : Int)) K) (by rw [hge, hg]; exact Hv.xel (List.Mem.tail _ (List.Mem.tail _ (List.Mem.tail _ (List.Mem.tail _ (List.Mem.head _))))) (by omega) (by rw [← hg]; omega)) ?_
    repeat (refine aK ?_)
    (refine aN rfl rfl ?_; intro b15; refine ⟨okF, ?_⟩)
    repeat (refine aK ?_)
    (repeat refine aJ ?_); refine fT (.blk b15 (eR (gt dr (t : Int))) 42 :: M0) (eQ (gt dr (t : Int)) K :: cK es (K + K) :: aT xa (recs eR dr) :: eQ (gt (gt cr (i : Int)).es (C : Int)) K :: aT (gt cr (i : Int)).p (recs eR (gt cr (i : Int)).es) :: gD m K :: I0) [0, 1, 2, 3, 4, 5, 6, 7, 8, 9] [2, 2, 3, 3, 3, 2, 0, 0, 0, 0] aC aD mixed (by kernel_rfl) ?_
    repeat (refine aK ?_)
    (refine aA rfl (hqt _ _ (gt dr (t : Int)) (Hv.mem aB) (Hv.mem aB)) rfl rfl ?_; rintro _ _ _ ⟨rfl, e, rfl, he, rfl⟩; refine ⟨okF, ?_⟩)
    (refine aL (cs := recs eR [e]) ([rv e]) rfl rfl (by intro v hv; repeat (first | exact absurd hv (List.not_mem_nil) | (rcases List.mem_cons.1 hv with rfl | hv; · rfl))) (by omega) rfl rfl rfl ?_; intro b; refine ⟨okF, ?_⟩)
    (refine aX (ys := [e]) 2 rfl rfl rfl ?_ (by decide) rfl (by omega) (by omega) rfl rfl ?_; (· first | exact Src.blk aB | exact Src.row aB | exact Src.imm aB (by first | assumption | exact .inl (Ok.mk _ _))); intro q3 c3; refine ⟨okF, ?_⟩)
    repeat (refine aK ?_)
    refine fM (φ := cK (es ++ [e]) (K + K)) (Hv.snoc aB aB) ?_
    refine aM (R - (t + 1)) _ _ _ (by first | omega | (simp only [List.length_append, List.length_cons, List.length_nil]; omega)) aO aC aD (⟨t + 1, es ++ [e], q3, c3, by omega, rfl, by simp; omega, rfl, rfl, rfl⟩)
   ·obtain rfl : t = R := by omega
    repeat (refine aK ?_)
    refine yP (k := K + K) aB ?_
    refine dZ [4, 5] (by first | exact .inl rfl | exact .inr rfl) rfl rfl rfl _ _ aC aD (⟨rfl, ⟨q2, cc, es⟩, rfl, rfl⟩)
 ·obtain rfl : i = R - pv.length := by omega
  exact absurd (tN.2 (fun t h1 h2 => hz0 t h1 (by omega))) hS
end
end Go.Proofs.YtgeagiikkeiioaaGreat
namespace Go.Proofs.YtgeagiikkeiioaaGreat
open Go Go.Fx
theorem aUD {a : WM} (hf : ∀ r ∈ a.rows, ∀ e ∈ r.es, e.Fit) (h : a.ok) : ∃ A : MX, a = A.raw ∧ A.fit a.rows.length (gt a.rows 0).es.length := by
 obtain ⟨A, rfl⟩ := WM.good_raw hf (fun r hr => (h.2 r hr).2)
 refine ⟨A, rfl, ?_⟩
 obtain ⟨h1, h2, h3, h4, h5⟩ := aUQ h
 have e : (gt A.raw.rows 0).es.length = (gt A.rows 0).es.length := by
  rw [show A.raw.rows = A.rows.map RL.raw from rfl, aBU (by omega)]
  show ((gt A.rows 0).es.map RE.raw).length = _
  rw [List.length_map]
 rw [A.raw_rows, e]
 exact ⟨h1, ⟨h2, h3⟩, h4, h5⟩
theorem aDM {x : WL} (hf : ∀ e ∈ x.es, e.Fit) (h : x.good) : ∃ A : RL, x = A.raw ∧ A.es.length = x.es.length := by
 obtain ⟨A, rfl⟩ := WL.good_raw hf h
 exact ⟨A, rfl, by show A.es.length = (A.es.map RE.raw).length; rw [List.length_map]⟩
end Go.Proofs.YtgeagiikkeiioaaGreat

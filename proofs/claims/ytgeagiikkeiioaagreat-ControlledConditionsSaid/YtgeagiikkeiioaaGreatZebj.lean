/- Controlled observations, plain: Fredholm's alternative, rows left out, the rank of the transposed matrix, weights, certificates. matrix: Refute (what it returns is a list; that is all that is asked of it). What the laws of matrices share. -/
import Derived.Test.YtgeagiikkeiioaaGreatZebf
import Derived.Test.YtgeagiikkeiioaaGreatZebe
import Derived.Test.YtgeagiikkeiioaaGreatZeaw
import Derived.Test.YtgeagiikkeiioaaGreatZebg
set_option linter.unusedSimpArgs false
set_option linter.unusedVariables false
set_option maxRecDepth 100000
set_option maxHeartbeats 4000000
namespace Go.Proofs.YtgeagiikkeiioaaGreat
open Go Go.Fx
def unL (n i : Nat) : List Rat := (List.range n).map (mM i)
theorem zL {n i k : Nat} (hk : k < n) : (unL n i).getD k 0 = mM i k := by simp [unL, List.getD, hk]
theorem aUR {n i : Nat} : (unL n i).length = n := by simp [unL]
def oO (A : Mt) (C i : Nat) (z : Nat → Rat) : Rat := sm C (fun j => at2 A i j * z j)
def ctl (R C : Nat) (A : Mt) (i : Nat) : Prop := ¬ qN R C A (unL R i)
instance (R C : Nat) (A : Mt) (i : Nat) : Decidable (ctl R C A i) := by unfold ctl; exact inferInstance
theorem aUW {A : Mt} {C i : Nat} {z : Nat → Rat} {c : Rat} : oO A C i (fun j => c * z j) = c * oO A C i z := by
 unfold oO; rw [← iV]; exact bA (fun j _ => by grind)
theorem aTC {R C : Nat} {A : Mt} {i : Nat} (hi : i < R) : ctl R C A i ↔ ∀ z, (∀ k, k < R → k ≠ i → oO A C k z = 0) → oO A C i z = 0 := by
 unfold ctl
 rw [aCZ]
 constructor
 ·intro h z hz
  refine Classical.byContradiction (fun hne => h ⟨fun j => 1 / oO A C i z * z j, fun k hk => ?_⟩)
  rw [zL hk]
  refine Eq.trans (aUW (A := A) (C := C) (i := k) (z := z) (c := 1 / oO A C i z)) ?_
  by_cases e : k = i
  ·subst e; simp only [mM, if_true]; grind
  ·rw [hz k hk e]; simp only [mM]; rw [if_neg (fun e' => e e'.symm)]; grind
 ·rintro h ⟨x, hx⟩
  have h1 := h x (fun k hk hne => by
   have := hx k hk
   rw [zL hk] at this
   simp only [mM] at this
   rw [if_neg (fun e => hne e.symm)] at this
   exact this)
  have h2 := hx i hi
  rw [zL hi] at h2
  simp only [mM, if_true] at h2
  unfold oO at h1
  rw [h1] at h2
  exact absurd h2 (by decide)
theorem sm_3 {C R : Nat} {g : Nat → Rat} : sm (C + 1 + R) g = sm C g + g C + sm R (fun u => g (C + 1 + u)) := by
 rw [aCO]; rfl
theorem fredA {R C : Nat} {A : Mt} {b : List Rat} : qN R C A b ↔ ∀ y : Nat → Rat, (∀ j, j < C → sm R (fun i => y i * at2 A i j) = 0) → sm R (fun i => y i * b.getD i 0) = 0 := by
 constructor
 ·intro h y hy
  obtain ⟨x, hx⟩ := aCZ.1 h
  rw [bA (g := fun i => sm C (fun j => x j * (y i * at2 A i j))) (fun i hi => by rw [← hx i hi, ← iV]; exact bA (fun j _ => by grind)), rR]
  exact jA (fun j hj => by rw [iV, hy j hj]; grind)
 ·intro h
  rw [← aHO, qZ]
  obtain ⟨_, s, hr⟩ := iG (A := uL R C A b) (R := R) (C := C + 1 + R) aDJ C (by omega)
  generalize iU (uL R C A b) C = st at hr ⊢
  obtain ⟨E, pv⟩ := st
  simp only at hr ⊢
  intro i hi1 hi2
  have b1 : ∀ k j, k < R → j < C → at2 (uL R C A b) k j = at2 A k j := fun k j hk hj => by unfold uL; rw [lM hk (by omega), if_pos hj]
  have b2 : ∀ k, k < R → at2 (uL R C A b) k C = b.getD k 0 := fun k hk => by unfold uL; rw [lM hk (by omega), if_neg (by omega), if_pos rfl]
  have b3 : ∀ k u, k < R → u < R → at2 (uL R C A b) k (C + 1 + u) = mM k u := fun k u hk hu => by unfold uL; rw [lM hk (by omega), if_neg (by omega), if_neg (by omega), Nat.add_sub_cancel_left]
  have key : ∀ (x : Nat → Rat) (t : Rat), at2 E i C * t = sm R (fun u => at2 E i (C + 1 + u) * (oO A C u x + t * b.getD u 0)) := fun x t => by
   obtain ⟨v, hv⟩ : ∃ v : Nat → Rat, v = fun j => if j < C then x j else if j = C then t else - (oO A C (j - (C + 1)) x + t * b.getD (j - (C + 1)) 0) := ⟨_, rfl⟩
   have v1 : ∀ j, j < C → v j = x j := fun j hj => by rw [hv]; simp only [if_pos hj]
   have v2 : v C = t := by rw [hv]; simp
   have v3 : ∀ u, v (C + 1 + u) = - (oO A C u x + t * b.getD u 0) := fun u => by
    rw [hv]; simp only [if_neg (show ¬ C + 1 + u < C by omega), if_neg (show ¬ C + 1 + u = C by omega), Nat.add_sub_cancel_left]
   have hk : Go.Proofs.YtgeagiikkeiioaaGreat.ker R (C + 1 + R) (at2 (uL R C A b)) v := fun k hk => by
    rw [sm_3, v2, b2 k hk, bA (n := C) (g := fun j => at2 A k j * x j) (fun j hj => by rw [b1 k j hk hj, v1 j hj]),
     nL (n := R) (p := k) hk (fun u hu hne => by rw [b3 k u hk hu]; simp only [mM]; rw [if_neg (fun e => hne e.symm)]; grind), b3 k k hk hk, v3]
    simp only [mM, if_true]
    unfold oO
    grind
   have h0 := (hr.ker v).2 hk i hi2
   rw [sm_3, v2, jA (n := C) (fun j hj => by rw [hr.zero i j hi1 hi2 hj]; grind), bA (n := R) (g := fun u => (-1 : Rat) * (at2 E i (C + 1 + u) * (oO A C u x + t * b.getD u 0))) (fun u _ => by rw [v3]; grind), iV] at h0
   grind
  have hy := h (fun u => at2 E i (C + 1 + u)) (fun j hj => by
   have h1 := key (mM j) 0
   rw [bA (g := fun u => at2 E i (C + 1 + u) * at2 A u j) (fun u hu => by
    have : oO A C u (mM j) = at2 A u j := by
     unfold oO
     rw [nL (p := j) hj (fun c _ hne => by simp only [mM]; rw [if_neg (fun e => hne e.symm)]; grind)]
     simp only [mM, if_true]; grind
    rw [this]; grind)] at h1
   grind)
  have h1 := key (fun _ => 0) 1
  rw [bA (g := fun u => at2 E i (C + 1 + u) * b.getD u 0) (fun u hu => by
   have : oO A C u (fun _ => 0) = 0 := by unfold oO; exact jA (fun c _ => by grind)
   rw [this]; grind), hy] at h1
  grind
/- rows left out -/
def gM (A : Mt) (ix : List Nat) : Mt := ix.map (rowAt A)
theorem aCX {A : Mt} {ix : List Nat} {t j : Nat} (ht : t < ix.length) : at2 (gM A ix) t j = at2 A ix[t] j := by
 simp [gM, at2, rowAt, List.getD, ht]
theorem vY {A : Mt} {R C : Nat} (hA : pJ A R C) {ix : List Nat} (hx : ∀ i ∈ ix, i < R) : pJ (gM A ix) ix.length C := ⟨by simp [gM], fun t ht => by
 have : rowAt (gM A ix) t = rowAt A ix[t] := by simp [gM, rowAt, List.getD, ht]
 rw [this]; exact hA.2 _ (hx _ (List.getElem_mem _))⟩
theorem qL {A : Mt} {C : Nat} {ix : List Nat} {z : Nat → Rat} : Go.Proofs.YtgeagiikkeiioaaGreat.ker ix.length C (at2 (gM A ix)) z ↔ ∀ i ∈ ix, oO A C i z = 0 := by
 constructor
 ·intro h i hi
  obtain ⟨t, ht, rfl⟩ := List.mem_iff_getElem.1 hi
  rw [← h t ht]; exact bA (fun j _ => by rw [aCX ht])
 ·intro h t ht
  rw [← h ix[t] (List.getElem_mem _)]; exact bA (fun j _ => by rw [aCX ht])
theorem aTP {A : Mt} {R C : Nat} (hA : pJ A R C) {ix : List Nat} (hx : ∀ i ∈ ix, i < R) : rk (gM A ix) C ≤ rk A C ∧ (rk (gM A ix) C = rk A C ↔ ∀ z, (∀ i ∈ ix, oO A C i z = 0) → ∀ i, i < R → oO A C i z = 0) := by
 obtain ⟨_, s, hr⟩ := iG hA C (Nat.le_refl _)
 obtain ⟨_, s', hr'⟩ := iG (vY hA hx) C (Nat.le_refl _)
 have hk : ∀ z, Go.Proofs.YtgeagiikkeiioaaGreat.ker R C (at2 A) z → Go.Proofs.YtgeagiikkeiioaaGreat.ker ix.length C (at2 (gM A ix)) z := fun z hz => qL.2 (fun i hi => hz i (hx i hi))
 refine ⟨hr'.le hr hk, ?_⟩
 unfold rk
 rw [hr'.eq_iff hr hk]
 exact ⟨fun h z hz i hi => h z (qL.2 hz) i hi, fun h z hz i hi => h z (qL.1 hz) i hi⟩
def bJ (R : Nat) (set : List Int) : List Nat := (List.range R).filter (fun i => decide ((i : Int) ∉ set))
theorem fZ {R i : Nat} {set : List Int} : i ∈ bJ R set ↔ i < R ∧ (i : Int) ∉ set := by unfold bJ; simp
def und (R C : Nat) (A : Mt) (set : List Int) : Prop := rk (gM A (bJ R set)) C < rk A C
instance (R C : Nat) (A : Mt) (set : List Int) : Decidable (und R C A set) := by unfold und; exact inferInstance
theorem uH {A : Mt} {R C : Nat} (hA : pJ A R C) {set : List Int} : ¬ und R C A set ↔ ∀ z, (∀ i, i < R → (i : Int) ∉ set → oO A C i z = 0) → ∀ i, i < R → oO A C i z = 0 := by
 have h := aTP hA (ix := bJ R set) (fun i hi => (fZ.1 hi).1)
 unfold und
 have e : ¬ rk (gM A (bJ R set)) C < rk A C ↔ rk (gM A (bJ R set)) C = rk A C := by have := h.1; omega
 rw [e, h.2]
 exact ⟨fun k z hz => k z (fun i hi => hz i (fZ.1 hi).1 (fZ.1 hi).2), fun k z hz => k z (fun i h1 h2 => hz i (fZ.2 ⟨h1, h2⟩))⟩
theorem aUV {A : Mt} {R C i : Nat} (hA : pJ A R C) (hi : i < R) : und R C A [(i : Int)] ↔ ¬ ctl R C A i := by
 have : ¬ und R C A [(i : Int)] ↔ ctl R C A i := by
  rw [uH hA, aTC hi]
  constructor
  ·intro h z hz; exact h z (fun k hk hn => hz k hk (fun e => hn (by rw [e]; exact List.mem_singleton.2 rfl))) i hi
  ·intro h z hz k hk
   have hz' : ∀ k, k < R → k ≠ i → oO A C k z = 0 := fun k hk hn => hz k hk (fun hm => hn (by have := List.mem_singleton.1 hm; omega))
   by_cases e : k = i
   ·rw [e]; exact h z hz'
   ·exact hz' k hk e
 by_cases h : und R C A [(i : Int)] <;> simp [h] at this ⊢ <;> exact this
/- the transposed matrix -/
def vB (R C : Nat) (A : Mt) : Mt := wO C R (fun i j => at2 A j i)
theorem aBI {R C : Nat} {A : Mt} {i j : Nat} (hi : i < C) (hj : j < R) : at2 (vB R C A) i j = at2 A j i := lM hi hj
theorem aHP {R C : Nat} {A : Mt} (hA : pJ A R C) : rk (vB R C A) R ≤ rk A C := by
 obtain ⟨_, s, hr⟩ := iG hA C (Nat.le_refl _)
 obtain ⟨_, s', hr'⟩ := iG (A := vB R C A) (R := C) (C := R) aDJ R (Nat.le_refl _)
 unfold rk
 generalize iU A C = st at hr ⊢
 obtain ⟨E, pv⟩ := st
 simp only at hr ⊢
 have := hr'.count (m := pv.length) (k := 0) (fun t i => at2 A i (pv.getD t 0)) (fun _ _ => 0) (fun y hy j hj => by
  rw [bA (g := fun i => at2 A i j * y i) (fun i hi => by rw [aBI hj hi])]
  by_cases hp : j ∈ pv
  ·obtain ⟨t, ht, rfl⟩ := gK.1 hp
   exact hy t ht
  ·have hn := hr.null hj hp
   have h1 : sm R (fun i => y i * sm C (fun c => at2 A i c * mJ (at2 E) pv j c)) = 0 := jA (fun i hi => by rw [hn i hi]; grind)
   rw [bA (g := fun i => sm C (fun c => mJ (at2 E) pv j c * (at2 A i c * y i))) (fun i hi => by rw [← iV]; exact bA (fun c _ => by grind)), rR,
    bA (g := fun c => mJ (at2 E) pv j c * sm R (fun i => at2 A i c * y i)) (fun c _ => iV),
    nL (p := j) hj (fun c hc hne => by
     by_cases hcp : c ∈ pv
     ·obtain ⟨t, ht, rfl⟩ := gK.1 hcp
      have := hy t ht
      rw [this]; grind
     ·simp only [mJ, if_neg hcp, if_neg hne]; grind)] at h1
   simp only [mJ, if_neg hp, if_true] at h1
   grind) (fun i hi => by omega) (fun d _ i hi => by omega)
 omega
theorem aTM {R C : Nat} {A : Mt} (hA : pJ A R C) : vB C R (vB R C A) = A := by
 rw [aGK hA]
 unfold vB
 exact wI (fun i j hi hj => by rw [lM hj hi, lM hi hj])
theorem rk_tr {R C : Nat} {A : Mt} (hA : pJ A R C) : rk (vB R C A) R = rk A C := by
 refine Nat.le_antisymm (aHP hA) ?_
 have := aHP (R := C) (C := R) (A := vB R C A) aDJ
 rwa [aTM hA] at this
theorem aBP {R C : Nat} {A : Mt} (hA : pJ A R C) : (mK A C).length + rk A C = C := by
 obtain ⟨_, s, hr⟩ := iG hA C (Nat.le_refl _)
 have := hr.free_len
 unfold mK aLY rk
 rw [List.length_map]; exact this
/- certificates -/
theorem pdual {R C : Nat} {A : Mt} {y z : Nat → Rat} (h : ∀ j, j < C → sm R (fun i => y i * at2 A i j) = 0) : sm R (fun i => y i * oO A C i z) = 0 := by
 rw [bA (g := fun i => sm C (fun j => z j * (y i * at2 A i j))) (fun i hi => by unfold oO; rw [← iV]; exact bA (fun j _ => by grind)), rR]
 exact jA (fun j hj => by rw [iV, h j hj]; grind)
theorem aRL {R C : Nat} {A : Mt} (hA : pJ A R C) {set : List Int} {Y : Nat → Nat → Rat} (hin : ∀ i ∈ set, 0 ≤ i ∧ i < R) (ha : ∀ k, k < set.length → ∀ j, j < C → sm R (fun i => Y k i * at2 A i j) = 0) (hd : ∀ k j, k < set.length → j < set.length → Y k (gt set (j : Int)).toNat = mM j k) : ¬ und R C A set := by
 rw [uH hA]
 intro z hz i hi
 by_cases hm : (i : Int) ∈ set
 ·obtain ⟨k, hk, e⟩ := List.mem_iff_getElem.1 hm
  have h0 := pdual (z := z) (ha k hk)
  rw [nL (p := i) hi (fun c hc hne => by
   by_cases hcm : (c : Int) ∈ set
   ·obtain ⟨j, hj, e2⟩ := List.mem_iff_getElem.1 hcm
    have := hd k j hk hj
    rw [iJ hj, e2] at this
    rw [show (c : Int).toNat = c by omega] at this
    rw [this]
    simp only [mM]
    rw [if_neg (fun e3 => hne (by subst e3; omega))]; grind
   ·rw [hz c hc hcm]; grind)] at h0
  have := hd k k hk hk
  rw [iJ hk, e, show (i : Int).toNat = i by omega] at this
  rw [this] at h0
  simp only [mM, if_true] at h0
  grind
 ·exact hz i hi hm
theorem aTN {R C : Nat} {A : Mt} {ix : List Nat} {b : List Rat} {i : Nat} (hb : ∀ c, c < C → b.getD c 0 = - at2 A i c) : qN C ix.length (vB ix.length C (gM A ix)) b ↔ ∀ z, (∀ k ∈ ix, oO A C k z = 0) → oO A C i z = 0 := by
 rw [fredA]
 have e1 : ∀ y : Nat → Rat, (∀ j, j < ix.length → sm C (fun c => y c * at2 (vB ix.length C (gM A ix)) c j) = 0) ↔ ∀ k ∈ ix, oO A C k y = 0 := fun y => by
  rw [← qL]
  constructor
  ·intro h t ht; rw [← h t ht]; exact bA (fun c hc => by rw [aBI hc ht]; grind)
  ·intro h t ht; rw [← h t ht]; exact bA (fun c hc => by rw [aBI hc ht]; grind)
 have e2 : ∀ y : Nat → Rat, sm C (fun c => y c * b.getD c 0) = - oO A C i y := fun y => by
  rw [bA (g := fun c => (-1 : Rat) * (at2 A i c * y c)) (fun c hc => by rw [hb c hc]; grind), iV]
  unfold oO; grind
 constructor
 ·intro h z hz
  have := h z ((e1 z).2 hz)
  rw [e2] at this; grind
 ·intro h y hy
  rw [e2, h y ((e1 y).1 hy)]; grind
theorem aLL {A : Mt} {R C : Nat} (hA : pJ A R C) {set : List Int} : ¬ und R C A set ↔ ∀ i : Nat, i < R → (i : Int) ∈ set → ∀ z, (∀ k ∈ bJ R set, oO A C k z = 0) → oO A C i z = 0 := by
 rw [uH hA]
 constructor
 ·intro h i hi _ z hz; exact h z (fun k hk hn => hz k (fZ.2 ⟨hk, hn⟩)) i hi
 ·intro h z hz i hi
  by_cases hm : (i : Int) ∈ set
  ·exact h i hi hm z (fun k hk => hz k (fZ.1 hk).1 (fZ.1 hk).2)
  ·exact hz i hi hm
/- weights: the normal matrix has the kernel of the design matrix -/
def nrmM (R C : Nat) (A : Mt) (p : Nat → Rat) : Mt := wO C C (fun i j => sm R (fun k => p k * at2 A k i * at2 A k j))
/- the document's inverse: the pivots of the matrix with the unit matrix beside -/
end Go.Proofs.YtgeagiikkeiioaaGreat
namespace Go.Proofs.YtgeagiikkeiioaaGreat
open Go Go.Fx
theorem Hv.cutR {I : List bD} {m : MX} {K : Nat} {i : Int} {lo : Nat} (h : fF m K ∈ I) (hi : 0 ≤ i ∧ i < m.rows.length) (hlo : lo ≤ (gt m.rows i).es.length) : Hv I (aV (xM (gt m.rows i).p (gt m.rows i).c lo 4) (recs eR ((gt m.rows i).es.drop lo))) := ⟨fun X w hw => by
 have hr := (hw _ h : IsX m K X w).row _ (bM hi)
 have hc := hr.cap.1
 refine ⟨?_⟩
 have := hr.sl.cut (gt m.rows i).c lo ((gt m.rows i).es.length * 4) 4 (by rw [jV]; exact Nat.mul_le_mul_right _ hc)
 rw [List.take_of_length_le (by rw [jV]; exact Nat.le_refl _)] at this
 rw [zK]; exact this⟩
section
variable {X : List Nat} {w0 : World} {M0 : List Ent} {I0 : List bD}
theorem aJU {a b : MX} {R C D k : Nat} (da : a.fit R C) (db : b.fit R D) (ha : fF a k ∈ I0) (hb : fF b k ∈ I0) : CD Tryz.prog 163 [mv a, mv b] X w0 M0 I0 (XQ (wO R (C + D) (fun i j => if j < C then at2 a.q i j else at2 b.q i (j - C))) R (C + D) k M0 I0) := mkXQ (zQ da db ha hb)
theorem aKE {m : WM} {p : Nat} (hb : aV (some ⟨p, 0, none⟩) [.slice m.p m.rows.length m.c] ∈ I0) :
  CD Tryz.prog 194 [pb p] X w0 M0 I0 (fun v M I => M0 = M ∧ I0 = I ∧ v = .int .i64 (m.rows.length : Int)) := by
 refine bC Tryz.func194 rfl Tryz.ntmps194 rfl ?_
 repeat (refine aI ?_)
 refine aC (by first | exact .inl rfl | exact .inr rfl) rfl rfl _ _ aG aD (⟨rfl, rfl, rfl⟩)
theorem aOB {a : MX} {b : RL} {R C k0 : Nat} (hb : 2 * kb k0 C ≤ 20000000000) (hC : C ≤ 30) (hR30 : R ≤ 64) (da : a.fit R C) (hl : b.es.length = R) (ha : fF a k0 ∈ I0) (hbb : jR b k0 ∈ I0) (hno : ¬ qN R C a.q b.q) :
  CD Tryz.prog 152 [mv a, lv b] X w0 M0 I0 (fun v M I => M0 = M ∧ ∃ r : RL, v = .tuple #[lv r, .int .i64 0] ∧ I = jR r (kb k0 C + kb k0 C) :: I0) := by
 have hk0 : k0 ≤ kb k0 C := iC k0 (Nat.zero_le C)
 obtain ⟨r1, r2⟩ := da.2.1
 obtain ⟨c1, c2⟩ := da.2.2
 refine iW (fun w hw => Mem.xsml ha da (by omega) hw) (fun sa => iW (fun w hw => Mem.lsml hbb (by omega) (by omega) hw) (fun sx => ?_))
 have hC0 := fun p M0 I0 h1 h2 h3 => aFF (X := X) (w0 := w0) (M0 := M0) (I0 := I0) (a := a.raw) (x := b.raw) (n := R) (g := 194) (fs := #[]) (cs := #[pb p]) sa sx h1 h2 (fun _ => by have := aKE (X := X) (w0 := w0) (M0 := M0) (I0 := I0) (m := a.raw) (p := p) h3; rw [MX.raw_rows, da.1.1] at this; exact this)
 have e0 : aAK a.raw b.raw R = 0 := by
  unfold aAK
  rw [if_pos da.ok, if_pos b.raw_good, if_pos (by show (b.es.map RE.raw).length = R; rw [List.length_map]; exact hl)]
 rw [e0, uW, tY] at hC0
 have lR := da.1.1
 have lC := da.r0
 refine bI (φ := lS a.raw) (Hv.xraw ha (by omega)) ?_
 refine bI (φ := fT b.raw) (Hv.lraw (List.Mem.tail _ hbb) (by omega)) ?_
 refine bI (φ := aV (a).p (recs eL (a).rows)) (Hv.xsl aB) ?_
 refine aW Tryz.func152 rfl Tryz.ntmps152 rfl ?_
 refine aJ ?_
 refine aH ?_
 (refine nR rfl rfl rfl ?_; intro p1; refine ⟨okF, ?_⟩)
 repeat (refine aI ?_)
 refine fD (φ := aV (some ⟨p1, 0, none⟩) [.slice a.raw.p a.raw.rows.length a.raw.c]) (by rw [MX.raw_rows]; exact Hv.mem aB) ?_
 (refine aA rfl (hC0 p1 _ _ aB aB aB) rfl rfl ?_; rintro _ _ _ ⟨rfl, rfl, rfl⟩; refine ⟨okF, ?_⟩)
 refine aQW (M' := M0) (I' := aV (some ⟨p1, 0, none⟩) [.slice a.p a.rows.length a.c] :: aV a.p (recs eL a.rows) :: I0) SubP.refl aD ?_
 repeat (refine aI ?_)
 (repeat refine aJ ?_); refine bK [0, 1, 2, 3, 4, 5, 6, 7] [0, 0, 0, 0, 0, 0, 0, 0] mixed (by kernel_rfl) ?_
 repeat (refine aI ?_)
 rw [lC, show ((a.rows.length : Nat) : Int) = (R : Int) by rw [lR]]
 (repeat refine aJ ?_); refine bK [0, 1, 4, 5, 2, 3, 6, 7, 8] [3, 3, 3, 3, 0, 0, 0, 0, 0] mixed (by kernel_rfl) ?_
 repeat (refine aI ?_)
 (refine aA rfl (aEK (n := R) (by omega) hl aB) rfl rfl ?_; rintro _ _ _ ⟨rfl, y, rfl, hy, hyd, rfl⟩; refine ⟨okF, ?_⟩)
 (refine aA rfl (aJU da (b := y) (D := 1) ⟨hyd, ⟨r1, r2⟩, by omega, by omega⟩ aB aB) rfl rfl ?_; rintro _ _ _ ⟨rfl, ab, rfl, hab, habd, rfl⟩; refine ⟨okF, ?_⟩)
 (refine aA rfl (aBV (R := R) (C := R) (g := 135) (fs := #[]) (cs := #[]) (k0 := 0) (by omega) (by omega) mM (fun M I _ i j hi hj => by have := aMI (X := X) (w0 := w0) (M0 := M) (I0 := I) (i := (i : Int)) (j := (j : Int)); rw [← aTE] at this; exact this)) rfl rfl ?_; rintro _ _ _ ⟨rfl, u, rfl, hu, hud, rfl⟩; refine ⟨okF, ?_⟩)
 refine fD (φ := fF u k0) (Hv.xm (k := 0) aB (Nat.zero_le _)) ?_
 (refine aA rfl (zQ (a := ab) (b := u) (R := R) (C := C + 1) (D := R) ⟨habd, ⟨r1, r2⟩, by omega, by omega⟩ ⟨hud, ⟨r1, r2⟩, r1, r2⟩ aB aB) rfl rfl ?_; rintro _ _ _ ⟨bo, rows0, rfl, hl0, hc0, hq0, rfl, rfl⟩; refine ⟨OkD.any (SubP.drop (rD SubP.refl)) aD, ?_⟩)
 repeat (refine aI ?_)
 have hB : mq rows0 = uL R C a.q b.q := by
  unfold uL
  refine Eq.trans hq0 ?_
  refine wI (R := R) (C := C + 1 + R) (fun i j hi hj => ?_)
  by_cases e : j < C
  ·rw [if_pos (by omega), if_pos e, hab, lM hi (by omega), if_pos e]
  ·rw [if_neg e]
   by_cases e1 : j = C
   ·rw [if_pos (by omega), if_pos e1, hab, lM hi (by omega), if_neg e, hy, lM hi (by omega)]
   ·rw [if_neg (by omega), if_neg e1, hu, lM hi (by omega)]
 have hRd := fun I0 h => xE (X := X) (w0 := w0) (M0 := .blk bo (recs eM rows0) 34 :: (rows0.map gG ++ M0)) (I0 := I0) (bo := bo) (R := R) (C := C + 1 + R) (n := C) (k0 := k0) (rows := rows0) (M1 := M0) hl0 (by omega) (by omega) hc0 (by omega) (by omega) h rfl
 (refine aA rfl (hRd _ aB) rfl rfl ?_; rintro _ _ _ ⟨rfl, m, pv, q, c, rfl, mp, mc, md, hred, hpv, rfl⟩; refine ⟨okF, ?_⟩)
 rw [hB] at hred
 have hS : ¬ aJR R C (at2 m.q) pv := by have := aHO (R := R) (C := C) (A := a.q) (b := b.q); rw [hred] at this; exact fun h => hno (this.1 h)
 clear hred hB hRd hC0
 have mR := md.1
 have hz : (zs pv).length = pv.length := by simp
 generalize hK : kb k0 C = K at *
 refine fD (φ := aV (some ⟨bo, 0, none⟩) (recs eL m.rows)) (by rw [← mp]; exact Hv.xsl aB) ?_
 repeat (refine aI ?_)
 (refine aK rfl (fun _ => sV (e := 34) (sz := 1) pv.length R (R - pv.length) rfl (.inr ⟨_, _, _, rfl, rfl, rfl⟩) (.inl ⟨rfl, rfl⟩) (by omega) (by omega) rfl) rfl rfl ?_)
 refine aFT R pv.length R (enc := eL) (ms := m.rows) aB (by omega) ?_
 have hcl : ((m.rows.take R).drop pv.length).length = R - pv.length := by simp; omega
 generalize hcr : (m.rows.take R).drop pv.length = cr at *
 have hcg : ∀ i : Nat, pv.length + i < R → gt cr (i : Int) = gt m.rows ((pv.length + i : Nat) : Int) := fun i hi => by rw [← hcr]; exact aPO mR hi
 generalize hca : xM (some ⟨bo, 0, none⟩) R pv.length 1 = ca at *
 repeat (refine aI ?_)
 refine aQ [7, 43, 44] rfl (fun k G M I => ∃ i : Nat, i ≤ R - pv.length ∧ k = R - pv.length - i ∧ (∀ t : Nat, pv.length ≤ t → t < pv.length + i → at2 m.q t C = 0) ∧ G = [(45, .int .i64 i)] ∧ M0 = M ∧ I = aV ca (recs eL cr) :: aV (some ⟨bo, 0, none⟩) (recs eL m.rows) :: pvI q pv :: fF m K :: I0) (R - pv.length) _ _ _ aR aG aD (⟨0, by omega, rfl, fun t h1 h2 => by omega, rfl, rfl, rfl⟩) ?_
 rintro kk G M I ⟨i, hi, rfl, hz0, rfl, rfl, rfl⟩
 by_cases hiR : i < R - pv.length
 ·have hg := hcg i (by omega)
  have hmr := md.row (i := pv.length + i) (by omega)
  have hat := pX (m := m) (i := pv.length + i) (j := C) (by omega) (by omega)
  have hlc : (gt cr (i : Int)).es.length = C + 1 + R := by rw [hg]; exact hmr
  refine bQ (φ := aV (gt cr (i : Int)).p (recs eR (gt cr (i : Int)).es)) (by rw [hg]; exact Hv.xrsl aB (by omega)) ?_
  refine bQ (φ := eY (gt (gt cr (i : Int)).es (C : Int)) K) (by rw [hg]; exact Hv.xel aB (by omega) (by omega)) ?_
  have hSg := fun M0 I0 h => mU (X := X) (w0 := w0) (M0 := M0) (I0 := I0) (e := gt (gt cr (i : Int)).es (C : Int)) (k := K) (by omega) h
  rw [← hg] at hat
  by_cases h0 : (gt (gt cr (i : Int)).es (C : Int)).q = 0
  ·rw [(lH _).2 h0] at hSg
   repeat (refine aI ?_)
   (refine aA rfl (hSg _ _ (Hv.mem aB)) rfl rfl ?_; rintro _ _ _ ⟨rfl, rfl, rfl⟩; refine ⟨okF, ?_⟩)
   repeat (refine aI ?_)
   refine aL (R - pv.length - (i + 1)) _ _ _ (by first | omega | (simp only [List.length_append, List.length_cons, List.length_nil]; omega)) aR aG aD (⟨i + 1, by omega, rfl, fun t h1 h2 => ?_, rfl, rfl, rfl⟩)
   by_cases e : t = pv.length + i
   ·rw [e, hat]; exact h0
   ·exact hz0 t h1 (by omega)
  ·have hs1 : ¬ (gt (gt cr (i : Int)).es (C : Int)).q.num.sign = 0 := fun h => h0 ((lH _).1 h)
   generalize (gt (gt cr (i : Int)).es (C : Int)).q.num.sign = sg1 at *
   refine bQ (φ := fF m K) (Hv.mem aB) ?_
   refine xU (fun w hw => (((hw.imm _ (List.Mem.head _)).2 : IsX m K _ w).row _ (bM (i := ((pv.length + i : Nat) : Int)) (by omega))).cap.1) (fun hcap => ?_)
   rw [← hg] at hcap
   have hqt := fun M0 I0 (x : RE) h1 h2 => aAP (X := X) (w0 := w0) (M0 := M0) (I0 := I0) (a := x) (b := gt (gt cr (i : Int)).es (C : Int)) (k := K) (m := K) (by omega) h0 h1 h2
   refine bQ (φ := aV (xM (gt cr (i : Int)).p (gt cr (i : Int)).c (C + 1) 4) (recs eR ((gt cr (i : Int)).es.drop (C + 1)))) (by rw [hg]; exact Hv.cutR (List.Mem.head _) (by omega) (by omega)) ?_
   repeat (refine aI ?_)
   (refine aA rfl (hSg _ _ (Hv.mem aB)) rfl rfl ?_; rintro _ _ _ ⟨rfl, rfl, rfl⟩; refine ⟨okF, ?_⟩)
   repeat (refine aI ?_)
   have hdl : ((gt cr (i : Int)).es.drop (C + 1)).length = R := by simp; omega
   have hdg : ∀ t : Nat, t < R → gt ((gt cr (i : Int)).es.drop (C + 1)) (t : Int) = gt (gt cr (i : Int)).es ((C + 1 + t : Nat) : Int) := fun t ht => by
    rw [dH (by omega), List.getElem_drop]; exact (dH (by omega)).symm
   have eC : (C : Int) + 1 = ((C + 1 : Nat) : Int) := by omega
   rw [eC]
   refine wR (fun _ hw => hw.row0 42 4) ?_
   refine fD (φ := dD [] (K + K)) Hv.nilR ?_
   repeat (refine aI ?_)
   (refine aK rfl (fun _ => sV (e := 42) (sz := 4) (C + 1) (gt cr (i : Int)).es.length R rfl (.inr ⟨_, _, _, rfl, rfl, rfl⟩) (.inl ⟨rfl, rfl⟩) (by omega) (by omega) (by omega)) rfl rfl ?_)
   generalize hxa : xM (gt cr (i : Int)).p (gt cr (i : Int)).c (C + 1) 4 = xa at *
   generalize hdr : (gt cr (i : Int)).es.drop (C + 1) = dr at *
   repeat (refine aI ?_)
   refine aQ [7, 12, 58, 59] rfl (fun k G M I => ∃ (t : Nat) (es : List RE) (q2 : Option Addr) (cc : Nat), t ≤ R ∧ k = R - t ∧ es.length = t ∧ G = [(13, .slice q2 es.length cc), (60, .int .i64 t)] ∧ M = .row q2 es.length cc (recs eR es) 42 4 :: M0 ∧ I = dD es (K + K) :: aV xa (recs eR dr) :: eY (gt (gt cr (i : Int)).es (C : Int)) K :: aV (gt cr (i : Int)).p (recs eR (gt cr (i : Int)).es) :: fF m K :: I0) (R) _ _ _ aR aG aD (⟨0, [], none, 0, by omega, rfl, rfl, rfl, rfl, rfl⟩) ?_
   rintro kk G M I ⟨t, es, q2, cc, ht, rfl, hel, rfl, rfl, rfl⟩
   by_cases htR : t < R
   ·have hge := hdg t htR
    refine bQ (φ := eY (gt dr (t : Int)) K) (by rw [hge, hg]; exact Hv.xel (List.Mem.tail _ (List.Mem.tail _ (List.Mem.tail _ (List.Mem.tail _ (List.Mem.head _))))) (by omega) (by rw [← hg]; omega)) ?_
    repeat (refine aI ?_)
    (refine aN rfl rfl ?_; intro b15; refine ⟨okF, ?_⟩)
    repeat (refine aI ?_)
    (repeat refine aJ ?_); refine gL (.blk b15 (eR (gt dr (t : Int))) 42 :: M0) (eY (gt dr (t : Int)) K :: dD es (K + K) :: aV xa (recs eR dr) :: eY (gt (gt cr (i : Int)).es (C : Int)) K :: aV (gt cr (i : Int)).p (recs eR (gt cr (i : Int)).es) :: fF m K :: I0) [0, 1, 2, 3, 4, 5, 6, 7, 8, 9] [2, 2, 3, 3, 3, 2, 0, 0, 0, 0] aG aD mixed (by kernel_rfl) ?_
    repeat (refine aI ?_)
    (refine aA rfl (hqt _ _ (gt dr (t : Int)) (Hv.mem aB) (Hv.mem aB)) rfl rfl ?_; rintro _ _ _ ⟨rfl, e, rfl, he, rfl⟩; refine ⟨okF, ?_⟩)
    (refine aO (cs := recs eR [e]) ([rv e]) rfl rfl (by intro v hv; repeat (first | exact absurd hv (List.not_mem_nil) | (rcases List.mem_cons.1 hv with rfl | hv; · rfl))) (by omega) rfl rfl rfl ?_; intro b; refine ⟨okF, ?_⟩)
    (refine dV (ys := [e]) 2 rfl rfl rfl ?_ (by decide) rfl (by omega) (by omega) rfl rfl ?_; (· first | exact Src.blk aB | exact Src.row aB | exact Src.imm aB (by first | assumption | exact .inl (Ok.mk _ _))); intro q3 c3; refine ⟨okF, ?_⟩)
    repeat (refine aI ?_)
    refine eT (φ := dD (es ++ [e]) (K + K)) (Hv.snoc aB aB) ?_
    refine aL (R - (t + 1)) _ _ _ (by first | omega | (simp only [List.length_append, List.length_cons, List.length_nil]; omega)) aR aG aD (⟨t + 1, es ++ [e], q3, c3, by omega, rfl, by simp; omega, rfl, rfl, rfl⟩)
   ·obtain rfl : t = R := by omega
    repeat (refine aI ?_)
    refine aCP (k := K + K) aB ?_
    refine bZ [4, 5] (by first | exact .inl rfl | exact .inr rfl) rfl rfl rfl _ _ aG aD (⟨rfl, ⟨q2, cc, es⟩, rfl, rfl⟩)
 ·obtain rfl : i = R - pv.length := by omega
  exact absurd (qZ.2 (fun t h1 h2 => hz0 t h1 (by omega))) hS
end
end Go.Proofs.YtgeagiikkeiioaaGreat
namespace Go.Proofs.YtgeagiikkeiioaaGreat
open Go Go.Fx
theorem aWS {a : WM} (hf : ∀ r ∈ a.rows, ∀ e ∈ r.es, e.Fit) (h : a.ok) : ∃ A : MX, a = A.raw ∧ A.fit a.rows.length (gt a.rows 0).es.length := by
 obtain ⟨A, rfl⟩ := WM.good_raw hf (fun r hr => (h.2 r hr).2)
 refine ⟨A, rfl, ?_⟩
 obtain ⟨h1, h2, h3, h4, h5⟩ := aVR h
 have e : (gt A.raw.rows 0).es.length = (gt A.rows 0).es.length := by
  rw [show A.raw.rows = A.rows.map RL.raw from rfl, aBS (by omega)]
  show ((gt A.rows 0).es.map RE.raw).length = _
  rw [List.length_map]
 rw [A.raw_rows, e]
 exact ⟨h1, ⟨h2, h3⟩, h4, h5⟩
theorem Mem.fitM {X : List Nat} {w0 w : World} {M : List Ent} {I : List bD} {a : WM} (h : lS a ∈ I) (hw : Mem X w0 M I w) : ∀ r ∈ a.rows, ∀ e ∈ r.es, e.Fit := fun r hr e he => ((((hw.imm _ h).2 : IsWM a _ w).row r hr).el e he).fit
theorem Mem.fitL {X : List Nat} {w0 w : World} {M : List Ent} {I : List bD} {a : WL} (h : fT a ∈ I) (hw : Mem X w0 M I w) : ∀ e ∈ a.es, e.Fit := fun e he => (((hw.imm _ h).2 : IsWL a _ w).el e he).fit
theorem zF {x : WL} (hf : ∀ e ∈ x.es, e.Fit) (h : x.good) : ∃ A : RL, x = A.raw ∧ A.es.length = x.es.length := by
 obtain ⟨A, rfl⟩ := WL.good_raw hf h
 exact ⟨A, rfl, by show A.es.length = (A.es.map RE.raw).length; rw [List.length_map]⟩
end Go.Proofs.YtgeagiikkeiioaaGreat

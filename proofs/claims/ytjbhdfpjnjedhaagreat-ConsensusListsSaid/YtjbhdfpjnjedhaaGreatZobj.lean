/- consensus: whole, over, rows, formed. Chapter 29, plain: least squares. Chapter 29, plain: the equations of pairs, and by how much a map of a kind's form misses them. matrix: column, Solve, Refute. -/
import Derived.Test.YtjbhdfpjnjedhaaGreatZobg
import Derived.Test.YtjbhdfpjnjedhaaGreatZobi
import Derived.Test.YtjbhdfpjnjedhaaGreatZoba
import Derived.Test.YtjbhdfpjnjedhaaGreatZoas
import Derived.Test.YtjbhdfpjnjedhaaGreatZoan
import Derived.Test.YtjbhdfpjnjedhaaGreatZobf
import Derived.Test.YtjbhdfpjnjedhaaGreatZobd
set_option linter.unusedSimpArgs false
set_option linter.unusedVariables false
set_option maxRecDepth 100000
set_option maxHeartbeats 4000000
namespace Go.Proofs.YtjbhdfpjnjedhaaGreat
open Go Go.Fx
theorem Hv.r3 {I : List aY} {a b c : RE} {k : Nat} (ha : Hv I (dD a k)) (hb : Hv I (dD b k)) (hc : Hv I (dD c k)) : Hv I (bB [a, b, c] k) := ⟨fun X w hw => ⟨fun x hx => by
 simp only [List.mem_cons, List.not_mem_nil, or_false] at hx
 rcases hx with rfl | rfl | rfl
 ·exact ha.go X w hw
 ·exact hb.go X w hw
 ·exact hc.go X w hw⟩⟩
theorem Hv.l3q {I : List aY} {a b c : RL} {k : Nat} (ha : Hv I (jI a k)) (hb : Hv I (jI b k)) (hc : Hv I (jI c k)) : Hv I (gD [a, b, c] k) := ⟨fun X w hw => ⟨fun x hx => by
 simp only [List.mem_cons, List.not_mem_nil, or_false] at hx
 rcases hx with rfl | rfl | rfl
 ·exact ha.go X w hw
 ·exact hb.go X w hw
 ·exact hc.go X w hw⟩⟩
section
variable {X : List Nat} {w0 : World} {M0 M1 : List Ent} {I0 : List aY}
theorem jX {x : Int} (hx : -9223372036854775808 ≤ x ∧ x ≤ 9223372036854775807) {k : Nat} (hk : x.natAbs ≤ 2 ^ k) : CD Tryz.prog 91 [.int .i64 x] X w0 M0 I0 (RQ (x : Rat) k M0 I0) := by
 refine aZ Tryz.func91 rfl Tryz.ntmps91 rfl ?_
 refine aH ?_
 refine aL ?_
 (refine aJ rfl rfl ?_; intro b2; refine ⟨okF, ?_⟩)
 repeat (refine aI ?_)
 (refine aA rfl (rF hx hk) rfl rfl ?_; rintro _ _ _ ⟨rfl, e, rfl, he, rfl⟩; refine ⟨okF, ?_⟩)
 repeat (refine aI ?_)
 refine bG (cs := eR e) (.inl rfl) rfl rfl aB rfl M0 (dD e k :: I0) aD aC ⟨rfl, e, rfl, he, rfl⟩
theorem aSV {a b : RE} {k m : Nat} (hk : k + m ≤ 500000000000) (hb0 : b.q ≠ 0) (ha : Hv I0 (dD a k)) (hb : Hv I0 (dD b m)) :
  CD Tryz.prog 120 [rv a, rv b] X w0 M0 I0 (RQ (a.q / b.q) (k + m) M0 I0) := by
 refine aW Tryz.func120 rfl Tryz.ntmps120 rfl ?_
 refine aH ?_
 refine aL ?_
 (refine aU rfl rfl rfl ?_; intro b2; refine ⟨okF, ?_⟩)
 (refine aU rfl rfl rfl ?_; intro b3; refine ⟨okF, ?_⟩)
 (refine aJ rfl rfl ?_; intro b4; refine ⟨okF, ?_⟩)
 repeat (refine aI ?_)
 (refine aA rfl (aAW (k := k) (m := m) hk hb0 ha hb) rfl rfl ?_; rintro _ _ _ ⟨rfl, e, rfl, he, rfl⟩; refine ⟨okF, ?_⟩)
 repeat (refine aI ?_)
 (refine aJ rfl rfl ?_; intro b5; refine ⟨okF, ?_⟩)
 repeat (refine aI ?_)
 refine bG (cs := eR e) (.inl rfl) rfl rfl aB rfl M0 (dD e (k + m) :: I0) aD aC ⟨rfl, e, rfl, he, rfl⟩
theorem aAY {a b : TE} {k : Nat} (ha : Hv I0 (isT a k)) (hb : Hv I0 (isT b k)) :
  CD Tryz.prog 182 [tv a, tv b] X w0 M0 I0 (XQ [[a.x.q, a.y.q, a.z.q], [b.x.q, b.y.q, b.z.q], [0, 0, 1]] 3 3 k M0 I0) := by
 have hW0 := fun M0 I0 => jX (X := X) (w0 := w0) (M0 := M0) (I0 := I0) (x := 0) (by decide) (k := 0) (by decide)
 have hW1 := fun M0 I0 => jX (X := X) (w0 := w0) (M0 := M0) (I0 := I0) (x := 1) (by decide) (k := 0) (by decide)
 refine bT (φ := isT a k) ha (bT (φ := isT b k) hb.cons ?_)
 refine aW Tryz.func182 rfl Tryz.ntmps182 rfl ?_
 refine aH ?_
 refine aL ?_
 (refine aU rfl rfl rfl ?_; intro b2; refine ⟨okF, ?_⟩)
 refine bD .here ?_
 (refine aU rfl rfl rfl ?_; intro b3; refine ⟨okF, ?_⟩)
 refine bD .here ?_
 repeat (refine aI ?_)
 refine eO (φ := jI (a.l b2) k) (Hv.tl (Hv.mem (φ := isT a k) aB) aB) ?_
 refine eO (φ := jI (b.l b3) k) (Hv.tl (Hv.mem (φ := isT b k) aB) aB) ?_
 (repeat refine aH ?_); refine dZ (M0) (jI (b.l b3) k :: jI (a.l b2) k :: I0) [0, 1, 2, 3, 4, 5, 6, 7] [4, 4, 0, 0, 0, 0, 0, 0] aD aC mixed (by kernel_rfl) ?_
 (refine aF rfl (fun _ => xI rfl) rfl rfl ?_)
 (refine aF rfl (fun _ => xI rfl) rfl rfl ?_)
 (refine aA rfl (hW0 _ _) rfl rfl ?_; rintro _ _ _ ⟨rfl, e0, rfl, he0, rfl⟩; refine ⟨okF, ?_⟩)
 (refine aA rfl (hW0 _ _) rfl rfl ?_; rintro _ _ _ ⟨rfl, e1, rfl, he1, rfl⟩; refine ⟨okF, ?_⟩)
 (refine aA rfl (hW1 _ _) rfl rfl ?_; rintro _ _ _ ⟨rfl, e2, rfl, he2, rfl⟩; refine ⟨okF, ?_⟩)
 (refine aN (cs := recs eR [e0, e1, e2]) ([rv e0, rv e1, rv e2]) rfl rfl (by intro v hv; repeat (first | exact absurd hv (List.not_mem_nil) | (rcases List.mem_cons.1 hv with rfl | hv; · rfl))) (by omega) rfl rfl rfl ?_; intro b5; refine ⟨okF, ?_⟩)
 refine dS (φ := bB [e0, e1, e2] k) (Hv.r3 (Hv.q (k := 0) aB (Nat.zero_le _)) (Hv.q (k := 0) aB (Nat.zero_le _)) (Hv.q (k := 0) aB (Nat.zero_le _))) ?_
 refine gJ (mm := 3) 4 .here rfl (by omega) ?_
 refine aJC (es := [e0, e1, e2]) (k := k) aB ?_
 (refine aN (cs := recs eL [a.l b2, b.l b3, ⟨some ⟨b5, 0, none⟩, 3, [e0, e1, e2]⟩]) ([lv (a.l b2), lv (b.l b3), lv ⟨some ⟨b5, 0, none⟩, 3, [e0, e1, e2]⟩]) rfl rfl (by intro v hv; repeat (first | exact absurd hv (List.not_mem_nil) | (rcases List.mem_cons.1 hv with rfl | hv; · rfl))) (by omega) rfl rfl rfl ?_; intro b6; refine ⟨okF, ?_⟩)
 refine dS (φ := gD [a.l b2, b.l b3, ⟨some ⟨b5, 0, none⟩, 3, [e0, e1, e2]⟩] k) (Hv.l3q (Hv.mem aB) (Hv.mem aB) (Hv.mem aB)) ?_
 refine gJ (mm := 3) 1 .here rfl (by omega) ?_
 refine aWJ (rows := [a.l b2, b.l b3, ⟨some ⟨b5, 0, none⟩, 3, [e0, e1, e2]⟩]) (k := k) aB ?_
 repeat (refine aI ?_)
 refine iD (M' := M0) (I' := iT ⟨some ⟨b6, 0, none⟩, 3, [a.l b2, b.l b3, ⟨some ⟨b5, 0, none⟩, 3, [e0, e1, e2]⟩]⟩ k :: I0) aD aC ?_
 refine aG (by first | exact .inl rfl | exact .inr rfl) rfl rfl _ _ aD aC (⟨rfl, ⟨some ⟨b6, 0, none⟩, 3, [a.l b2, b.l b3, ⟨some ⟨b5, 0, none⟩, 3, [e0, e1, e2]⟩]⟩, rfl, by show [_, _, [e0.q, e1.q, e2.q]] = _; rw [he0, he1, he2]; rfl, ⟨rfl, fun r hr => by
  simp only [List.mem_cons, List.not_mem_nil, or_false] at hr
  rcases hr with rfl | rfl | rfl <;> rfl⟩, rfl⟩)
end
end Go.Proofs.YtjbhdfpjnjedhaaGreat
namespace Go.Proofs.YtjbhdfpjnjedhaaGreat
open Go Go.Fx
theorem aQR {R C : Nat} {A : Mt} {b : List Rat} {i : Nat} (hi : i < C) : (lsX R C A b).getD i 0 = sm C (fun t => at2 (aBQ C (zG R C A)) i t * (nrB R C A b).getD t 0) := by simp [lsX, List.getD, hi]
theorem aFG {R C : Nat} {A : Mt} {b : List Rat} : (lsX R C A b).length = C := by simp [lsX]
theorem aHJ {n : Nat} {f g : Nat → Nat → Rat} {x : Nat → Rat} {i : Nat} : sm n (fun j => qM n f g i j * x j) = sm n (fun t => f i t * sm n (fun j => g t j * x j)) := by
 have e1 : sm n (fun j => qM n f g i j * x j) = sm n (fun j => sm n (fun t => f i t * g t j * x j)) := dH (fun j _ => by
  unfold qM
  rw [Rat.mul_comm, ← qL]
  exact dH (fun t _ => by rw [Rat.mul_comm]))
 rw [e1, aLA]
 exact dH (fun t _ => by
  rw [← qL]
  exact dH (fun j _ => by rw [Rat.mul_assoc]))
theorem aPC {n i : Nat} {x : Nat → Rat} (hi : i < n) : sm n (fun j => oU i j * x j) = x i := by
 rw [uN hi (fun j _ h => by simp [oU, Ne.symm h])]
 simp [oU]
theorem aWY {R C : Nat} {A : Mt} {b : List Rat} (h : dt C (at2 (zG R C A)) ≠ 0) {x : Nat → Rat} (hx : ∀ i, i < C → sm C (fun j => at2 (zG R C A) i j * x j) = (nrB R C A b).getD i 0) : ∀ i, i < C → x i = (lsX R C A b).getD i 0 := by
 intro i hi
 rw [aQR hi, ← aPC (x := x) hi]
 have e : sm C (fun j => oU i j * x j) = sm C (fun j => qM C (at2 (aBQ C (zG R C A))) (at2 (zG R C A)) i j * x j) := dH (fun j hj => by rw [(aLO h).2 i j hi hj])
 rw [e, aHJ]
 exact dH (fun t ht => by rw [hx t ht])
theorem aXI {R C : Nat} {A : Mt} {b : List Rat} (h : dt C (at2 (zG R C A)) ≠ 0) : ∀ i, i < C → sm C (fun j => at2 (zG R C A) i j * (lsX R C A b).getD j 0) = (nrB R C A b).getD i 0 := by
 intro i hi
 have e : sm C (fun j => at2 (zG R C A) i j * (lsX R C A b).getD j 0) = sm C (fun j => at2 (zG R C A) i j * sm C (fun t => at2 (aBQ C (zG R C A)) j t * (nrB R C A b).getD t 0)) := dH (fun j hj => by rw [aQR hj])
 rw [e, ← aHJ (f := at2 (zG R C A)) (g := at2 (aBQ C (zG R C A))) (x := fun t => (nrB R C A b).getD t 0)]
 rw [dH (g := fun j => oU i j * (nrB R C A b).getD j 0) (fun j hj => by rw [(aLO h).1 i j hi hj])]
 exact aPC hi
def sqS (R C : Nat) (A : Mt) (b : List Rat) (x : Nat → Rat) : Rat := sm R (fun t => (sm C (fun j => at2 A t j * x j) - b.getD t 0) * (sm C (fun j => at2 A t j * x j) - b.getD t 0))
end Go.Proofs.YtjbhdfpjnjedhaaGreat
namespace Go.Proofs.YtjbhdfpjnjedhaaGreat
open Go Go.Fx
theorem gtQ {α : Type} [Inhabited α] {l : List α} {i : Nat} (h : i < l.length) : gt l (i : Int) = l[i] := by simp [gt, List.getD, h]
theorem vH {k : Nat} {l : List Q4} : (vQ k l).length = 2 * l.length := by
 unfold vQ
 induction l with
 | nil => rfl
 | cons s r ih => rw [List.flatMap_cons, List.length_append, ih]; simp; omega
theorem aEX {k : Nat} : ∀ {l : List Q4} {i : Nat}, i < l.length → rowAt (vQ k l) (2 * i) = cz (dr1 k (gt l (i : Int))) ∧ rowAt (vQ k l) (2 * i + 1) = cz (dr2 k (gt l (i : Int)))
 | s :: r, 0, _ => ⟨rfl, rfl⟩
 | s :: r, i + 1, h => by
  have ih := aEX (k := k) (l := r) (i := i) (by simpa using h)
  have e1 : gt (s :: r) ((i + 1 : Nat) : Int) = gt r (i : Int) := by rw [gtQ h, gtQ (by simpa using h)]; rfl
  rw [e1, ← ih.1, ← ih.2]
  have e2 : vQ k (s :: r) = cz (dr1 k s) :: cz (dr2 k s) :: vQ k r := rfl
  have e3 : 2 * (i + 1) = 2 * i + 1 + 1 := by omega
  rw [e2, e3]
  exact ⟨rfl, rfl⟩
theorem aSW {k : Nat} {s : Q4} : (dr1 k s).length = wT k ∧ (dr2 k s).length = wT k := by
 unfold dr1 dr2 wT
 split
 ·exact ⟨rfl, rfl⟩
 ·split <;> exact ⟨rfl, rfl⟩
theorem aSB {l : List Int} : (cz l).length = l.length := by simp [cz]
theorem aLK {k : Nat} {l : List Q4} : qO (vQ k l) (2 * l.length) (wT k) := ⟨vH, fun i hi => by
 obtain ⟨t, h | h⟩ : ∃ t, i = 2 * t ∨ i = 2 * t + 1 := ⟨i / 2, by omega⟩
 ·rw [h, (aEX (by omega)).1, aSB, aSW.1]
 ·rw [h, (aEX (by omega)).2, aSB, aSW.2]⟩
theorem tN {k : Nat} {l : List Q4} : (dsB k l).length = 2 * l.length := by
 unfold dsB
 induction l with
 | nil => rfl
 | cons s r ih => rw [List.flatMap_cons, List.length_append, ih]; simp; omega
def totQ (m : Mt) (l : List Q4) : Rat := sm l.length (fun t => aIB m (gt l (t : Int)))
end Go.Proofs.YtjbhdfpjnjedhaaGreat
namespace Go.Proofs.YtjbhdfpjnjedhaaGreat
open Go Go.Fx
def tX (R C : Nat) (A : Mt) (b : List Rat) : Mt := uK R (C + 1) (fun i j => if j < C then at2 A i j else b.getD i 0)
def besU (R C : Nat) (A : Mt) (b : List Rat) : Mt := uK R (C + 1 + R) (fun i j => if j < C then at2 A i j else if j = C then b.getD i 0 else oU i (j - (C + 1)))
theorem aPN {R C : Nat} {F : Nat → Nat → Rat} : qO (uK R C F) R C := ⟨by simp [uK], fun i hi => by simp [uK, rowAt, List.getD, hi]⟩
def solB (R C : Nat) (f : Nat → Nat → Rat) (pv : List Nat) : Prop := ∀ i ∈ List.range R, pv.length ≤ i → f i C = 0
instance (R C : Nat) (f : Nat → Nat → Rat) (pv : List Nat) : Decidable (solB R C f pv) := by unfold solB; exact inferInstance
theorem aHI {R C : Nat} {f : Nat → Nat → Rat} {pv : List Nat} : solB R C f pv ↔ aST R C f pv := ⟨fun h i h1 h2 => h i (List.mem_range.2 h2) h1, fun h i h1 h2 => h i h2 (List.mem_range.1 h1)⟩
def aGS (R C : Nat) (A : Mt) (b : List Rat) : Prop := solB R C (at2 (mK (tX R C A b) C).1) (mK (tX R C A b) C).2
instance (R C : Nat) (A : Mt) (b : List Rat) : Decidable (aGS R C A b) := by unfold aGS; exact inferInstance
def aAZ (R C : Nat) (A : Mt) (b : List Rat) : List Rat := (List.range C).map (aQZ (at2 (mK (tX R C A b) C).1) (mK (tX R C A b) C).2 C)
theorem aFU {R C : Nat} {A : Mt} {b : List Rat} {i j : Nat} (hi : i < R) (hj : j < C) : at2 (tX R C A b) i j = at2 A i j := by unfold tX; rw [oP hi (by omega), if_pos hj]
theorem aIP {R C : Nat} {A : Mt} {b : List Rat} {i : Nat} (hi : i < R) : at2 (tX R C A b) i C = b.getD i 0 := by unfold tX; rw [oP hi (by omega), if_neg (by omega)]
theorem aSJ {R C : Nat} {A : Mt} {b : List Rat} : aGS R C A b ↔ ∃ x : Nat → Rat, ∀ i, i < R → sm C (fun j => at2 A i j * x j) = b.getD i 0 := by
 obtain ⟨_, s, hr⟩ := lL (A := tX R C A b) (R := R) (C := C + 1) aPN C (by omega)
 unfold aGS
 rw [aHI, hr.sol_iff (by omega)]
 constructor
 ·rintro ⟨x, hx⟩; exact ⟨x, fun i hi => by rw [← aIP (A := A) (C := C) hi, ← hx i hi]; exact dH (fun j hj => by rw [aFU hi hj])⟩
 ·rintro ⟨x, hx⟩; exact ⟨x, fun i hi => by rw [aIP hi, ← hx i hi]; exact dH (fun j hj => by rw [aFU hi hj])⟩
theorem aTU {R C : Nat} {A : Mt} {b : List Rat} (h : aGS R C A b) : ∀ i, i < R → sm C (fun j => at2 A i j * (aAZ R C A b).getD j 0) = b.getD i 0 := by
 obtain ⟨_, s, hr⟩ := lL (A := tX R C A b) (R := R) (C := C + 1) aPN C (by omega)
 intro i hi
 have := hr.sol_x (by omega) (aHI.1 h) i hi
 rw [aIP hi] at this
 rw [← this]
 refine dH (fun j hj => ?_)
 rw [aFU hi hj]
 unfold aAZ
 simp [List.getD, hj]
/- the wider matrix tells the same -/
section
variable {X : List Nat} {w0 : World} {M0 : List Ent} {I0 : List aY}
end
end Go.Proofs.YtjbhdfpjnjedhaaGreat

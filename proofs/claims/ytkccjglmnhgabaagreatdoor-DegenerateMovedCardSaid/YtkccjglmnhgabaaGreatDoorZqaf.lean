/- Numbers in groups: long division, plain. Fractions: how long they are. Plain. The symbolic heap, continued: drawn regions whose reads come ahead of all but the first few effects. The symbolic heap, continued: parts of what is read, xor. The types and functions of this seat, as instances. Written by facts.py. -/
import Derived.Test.YtkccjglmnhgabaaGreatDoorZqae
import Derived.Test.YtkccjglmnhgabaaGreatDoorProg
import Derived.Test.YtkccjglmnhgabaaGreatDoorZqac
import Derived.KernelRfl
set_option linter.unusedSimpArgs false
set_option linter.unusedVariables false
set_option maxRecDepth 100000
set_option maxHeartbeats 4000000
namespace Go.Proofs.YtkccjglmnhgabaaGreatDoor
open Go Go.Fx
theorem jH (l : List Int) (i j : Nat) : (l.drop i).getD j 0 = l.getD (i + j) 0 := by
 simp [List.getD, List.getElem?_drop]
theorem lY {a b c : Int} (hc : 0 < c) (h : a * c < b * c) : a < b := by
 by_cases hh : b ≤ a
 ·have := Int.mul_le_mul_of_nonneg_right hh (Int.le_of_lt hc); omega
 ·omega
theorem tX {l : List Int} {k : Nat} (hd : Dig l) (h : val l < 1000000000 ^ (k + 1)) : val l = val (l.take k) + 1000000000 ^ k * l.getD k 0 := by
 have e := dB l k
 by_cases hl : k + 1 ≤ l.length
 ·have e2 := kM l (k + 1) hl
  have h3 := cZ (hd.take (k + 1))
  have h5 := cZ (hd.drop (k + 1))
  by_cases h0 : val (l.drop (k + 1)) = 0
  ·rw [h0] at e2
   omega
  ·have : 1000000000 ^ (k + 1) * 1 ≤ 1000000000 ^ (k + 1) * val (l.drop (k + 1)) := Int.mul_le_mul_of_nonneg_left (by omega) (Int.le_of_lt (jI _))
   omega
 ·rw [List.take_of_length_le (show l.length ≤ k + 1 by omega)] at e
  exact e
section
variable {T V t1 t0 t2 v1 v0 P g r : Int}
structure Knu (T V P t2 t1 t0 v1 v0 : Int) : Prop where
 hP : 1 ≤ P
 ht : (t2 * 1000000000 * 1000000000 + t1 * 1000000000 + t0) * P ≤ T ∧ T < (t2 * 1000000000 * 1000000000 + t1 * 1000000000 + t0 + 1) * P
 hv : (v1 * 1000000000 + v0) * P ≤ V ∧ V < (v1 * 1000000000 + v0 + 1) * P
 d2 : 0 ≤ t2 ∧ t2 < 1000000000
 d1 : 0 ≤ t1 ∧ t1 < 1000000000
 d0 : 0 ≤ t0 ∧ t0 < 1000000000
 e1 : 1 ≤ v1 ∧ v1 < 1000000000
 e0 : 0 ≤ v0 ∧ v0 < 1000000000
 lt : T < 1000000000 * V
 T0 : 0 ≤ T
theorem Knu.V0 (h : Knu T V P t2 t1 t0 v1 v0) : 1000000000 * P ≤ V := by
 have : 1000000000 * P ≤ (v1 * 1000000000 + v0) * P := Int.mul_le_mul_of_nonneg_right (by have := h.e1; have := h.e0; omega) (by have := h.hP; omega)
 have := h.hv
 omega
theorem Knu.T2 (h : Knu T V P t2 t1 t0 v1 v0) : t2 * 1000000000 + t1 < 1000000000 * (v1 + 1) := by
 have hP := h.hP
 have h1 := h.ht.1
 have h2 := h.hv.2
 have h3 := h.lt
 have e0 := h.e0
 have d0 := h.d0
 have d1 := h.d1
 have : (t2 * 1000000000 * 1000000000 + t1 * 1000000000 + t0) * P < (1000000000 * (v1 * 1000000000 + v0 + 1)) * P := by
  have e : (1000000000 * (v1 * 1000000000 + v0 + 1)) * P = 1000000000 * ((v1 * 1000000000 + v0 + 1) * P) := Int.mul_assoc _ _ _
  omega
 have := lY (by omega) this
 omega
def GeQ (T V g : Int) : Prop := T < (g + 1) * V
theorem Knu.start (h : Knu T V P t2 t1 t0 v1 v0) (hg : g * v1 + r = t2 * 1000000000 + t1) (hr : r < v1) : GeQ T V g := by
 have hP := h.hP
 have h1 := h.ht.2
 have h2 := h.hv.1
 have e0 := h.e0
 have e1 := h.e1
 have d0 := h.d0
 have d1 := h.d1
 have d2 := h.d2
 have hg0 : 0 ≤ g + 1 := by
  by_cases c : 0 ≤ g + 1
  ·exact c
  ·have : (g + 1) * v1 ≤ (-1) * v1 := Int.mul_le_mul_of_nonneg_right (by omega) (by omega)
   rw [Int.add_mul] at this
   omega
 have k1 : (g + 1) * ((v1 * 1000000000 + v0) * P) ≤ (g + 1) * V := Int.mul_le_mul_of_nonneg_left h2 hg0
 have k2 : (t2 * 1000000000 * 1000000000 + t1 * 1000000000 + t0 + 1) * P ≤ ((g + 1) * (v1 * 1000000000 + v0)) * P := by
  refine Int.mul_le_mul_of_nonneg_right ?_ (by omega)
  have k3 : 0 ≤ (g + 1) * v0 := Int.mul_nonneg hg0 e0.1
  have k4 : (g + 1) * (v1 * 1000000000 + v0) = (g * v1) * 1000000000 + v1 * 1000000000 + (g + 1) * v0 := by grind
  omega
 unfold GeQ
 have k5 : ((g + 1) * (v1 * 1000000000 + v0)) * P = (g + 1) * ((v1 * 1000000000 + v0) * P) := Int.mul_assoc _ _ _
 omega
theorem Knu.less (h : Knu T V P t2 t1 t0 v1 v0) (hg : g * v1 + r = t2 * 1000000000 + t1) (hq : GeQ T V g) (hc : 1000000000 ≤ g ∨ r * 1000000000 + t0 < g * v0) : GeQ T V (g - 1) := by
 have hP := h.hP
 have e0 := h.e0
 unfold GeQ
 have e : g - 1 + 1 = g := by omega
 rw [e]
 rcases hc with hc | hc
 ·have hV := h.V0
  have : 1000000000 * V ≤ g * V := Int.mul_le_mul_of_nonneg_right hc (by omega)
  have := h.lt
  omega
 ·have hg0 : 0 ≤ g := by
   by_cases c : 0 ≤ g
   ·exact c
   ·exfalso
    have hV := h.V0
    have : (g + 1) * V ≤ 0 * V := Int.mul_le_mul_of_nonneg_right (by omega) (by omega)
    have := h.T0
    unfold GeQ at hq
    omega
  have k1 : g * ((v1 * 1000000000 + v0) * P) ≤ g * V := Int.mul_le_mul_of_nonneg_left h.hv.1 hg0
  have k2 : (t2 * 1000000000 * 1000000000 + t1 * 1000000000 + t0 + 1) * P ≤ (g * (v1 * 1000000000 + v0)) * P := by
   refine Int.mul_le_mul_of_nonneg_right ?_ (by omega)
   have k4 : g * (v1 * 1000000000 + v0) = (g * v1) * 1000000000 + g * v0 := by grind
   omega
  have k5 : (g * (v1 * 1000000000 + v0)) * P = g * ((v1 * 1000000000 + v0) * P) := Int.mul_assoc _ _ _
  have := h.ht.2
  omega
theorem Knu.done (h : Knu T V P t2 t1 t0 v1 v0) (hg : g * v1 + r = t2 * 1000000000 + t1) (hg0 : 0 ≤ g) (hgB : g < 1000000000) (hc : 1000000000 ≤ r ∨ g * v0 ≤ r * 1000000000 + t0) : g * V ≤ T + V := by
 have hP := h.hP
 have e0 := h.e0
 have d0 := h.d0
 have k1 : g * V ≤ g * ((v1 * 1000000000 + v0 + 1) * P) := Int.mul_le_mul_of_nonneg_left (by have := h.hv.2; omega) hg0
 have k5 : g * ((v1 * 1000000000 + v0 + 1) * P) = (g * (v1 * 1000000000 + v0) + g) * P := by grind
 have k4 : g * (v1 * 1000000000 + v0) = (g * v1) * 1000000000 + g * v0 := by grind
 have k6 : g * v0 ≤ g * 999999999 := Int.mul_le_mul_of_nonneg_left (by omega) hg0
 have k7 : (g * (v1 * 1000000000 + v0) + g) * P ≤ (t2 * 1000000000 * 1000000000 + t1 * 1000000000 + t0 + 1000000000) * P := by
  refine Int.mul_le_mul_of_nonneg_right ?_ (by omega)
  rcases hc with hc | hc <;> omega
 have k8 : (t2 * 1000000000 * 1000000000 + t1 * 1000000000 + t0 + 1000000000) * P = (t2 * 1000000000 * 1000000000 + t1 * 1000000000 + t0) * P + 1000000000 * P := Int.add_mul _ _ _
 have := h.V0
 have := h.ht.1
 omega
end
theorem aUT {u v : List Int} {n : Nat} (hu : Dig u) (hv : Dig v) (hn : 2 ≤ n) (hl : v.length = n) (htop : 1 ≤ v.getD (n - 1) 0) (hlt : val u < 1000000000 * val v) :
  Knu (val u) (val v) (1000000000 ^ (n - 2)) (u.getD n 0) (u.getD (n - 1) 0) (u.getD (n - 2) 0) (v.getD (n - 1) 0) (v.getD (n - 2) 0) := by
 obtain ⟨k, rfl⟩ : ∃ k, n = k + 2 := ⟨n - 2, by omega⟩
 simp only [show k + 2 - 1 = k + 1 from rfl, show k + 2 - 2 = k from rfl] at *
 have hvlt := jV hv
 rw [hl] at hvlt
 have e3 := tX (k := k + 2) hu (by rw [Int.pow_succ]; omega)
 have e4 := tX (k := k + 1) hv (by omega)
 rw [dB, dB] at e3
 rw [dB] at e4
 have p := jI k
 have l1 := iM hu k
 have l2 := iM hv k
 have m1 := cZ (hu.take k)
 have m2 := cZ (hv.take k)
 have q1 : (1000000000 : Int) ^ (k + 1) = 1000000000 ^ k * 1000000000 := Int.pow_succ _ _
 have q2 : (1000000000 : Int) ^ (k + 2) = 1000000000 ^ k * 1000000000 * 1000000000 := by rw [Int.pow_succ, Int.pow_succ]
 rw [q1, q2] at e3
 rw [q1] at e4
 refine ⟨by omega, ?_, ?_, hu.getD _, hu.getD _, hu.getD _, ⟨htop, (hv.getD _).2⟩, hv.getD _, hlt, cZ hu⟩
 ·generalize (1000000000 : Int) ^ k = A at *
  generalize u.getD (k + 2) 0 = a at *
  generalize u.getD (k + 1) 0 = b at *
  generalize u.getD k 0 = c at *
  have : val u = val (u.take k) + (a * 1000000000 * 1000000000 + b * 1000000000 + c) * A := by rw [e3]; grind
  constructor
  ·omega
  ·rw [Int.add_mul]; omega
 ·generalize (1000000000 : Int) ^ k = A at *
  generalize v.getD (k + 1) 0 = b at *
  generalize v.getD k 0 = c at *
  have : val v = val (v.take k) + (b * 1000000000 + c) * A := by rw [e4]; grind
  constructor
  ·omega
  ·rw [Int.add_mul]; omega
theorem aMV {o U v : List Int} {j i : Nat} {g b c d d' b' : Int} (hv : val ((o.drop j).take i) + g * val (v.take i) = val ((U.drop j).take i) + 1000000000 ^ i * (b + c)) (hi : j + i < o.length) (hs : (o.drop (j + i)) = U.drop (j + i)) (hd : d = U.getD (j + i) 0 - b - (g * v.getD i 0 + c) % 1000000000) (he : d' = d + 1000000000 * b') :
  val (((o.set (j + i) d').drop j).take (i + 1)) + g * val (v.take (i + 1)) = val ((U.drop j).take (i + 1)) + 1000000000 ^ (i + 1) * (b' + (g * v.getD i 0 + c) / 1000000000) ∧ (o.set (j + i) d').drop (j + (i + 1)) = U.drop (j + (i + 1)) := by
 constructor
 ·have e1 : (o.set (j + i) d').drop j = (o.drop j).set i d' := by
   rw [List.drop_set]
   rw [if_neg (by omega)]
   congr 1
   omega
  have hl : i < (o.drop j).length := by simp; omega
  rw [e1, jA _ i d' hl, val_append, dB, dB (U.drop j), jH]
  simp only [List.length_take, Nat.min_eq_left (Nat.le_of_lt hl), val, Int.pow_succ]
  have e2 : g * v.getD i 0 + c = (g * v.getD i 0 + c) % 1000000000 + 1000000000 * ((g * v.getD i 0 + c) / 1000000000) := by omega
  generalize (g * v.getD i 0 + c) % 1000000000 = s at *
  generalize (g * v.getD i 0 + c) / 1000000000 = t at *
  generalize (1000000000 : Int) ^ i = A at *
  generalize v.getD i 0 = x at *
  generalize U.getD (j + i) 0 = y at *
  generalize val ((o.drop j).take i) = z at *
  generalize val ((U.drop j).take i) = z2 at *
  generalize val (v.take i) = z3 at *
  clear e1 hl hs hi
  subst hd he
  grind
 ·have e : ((o.set (j + i) d').drop (j + (i + 1))) = o.drop (j + i + 1) := by
   rw [← Nat.add_assoc, List.drop_set, if_pos (by omega)]
  rw [e, ← Nat.add_assoc]
  have h1 : o.drop (j + i + 1) = (o.drop (j + i)).drop 1 := by rw [List.drop_drop]
  have h2 : U.drop (j + i + 1) = (U.drop (j + i)).drop 1 := by rw [List.drop_drop]
  rw [h1, h2, hs]
end Go.Proofs.YtkccjglmnhgabaaGreatDoor
namespace Go.Proofs.YtkccjglmnhgabaaGreatDoor
open Go Go.Fx
def Ht (k : Nat) (q : Rat) : Prop := q.num.natAbs ≤ 2 ^ k ∧ q.den ≤ 2 ^ k
instance (k : Nat) (q : Rat) : Decidable (Ht k q) := by unfold Ht; exact inferInstance
theorem aAY (p q : Rat) : p + q = Rat.divInt (p.num * q.den + q.num * p.den) (p.den * q.den) := by
 have := Rat.divInt_add_divInt p.num q.num (d₁ := p.den) (d₂ := q.den) (by have := p.den_nz; omega) (by have := q.den_nz; omega)
 rw [Rat.num_divInt_den, Rat.num_divInt_den] at this
 exact this
theorem aAD (p q : Rat) : p * q = Rat.divInt (p.num * q.num) (p.den * q.den) := by
 have := Rat.divInt_mul_divInt p.num q.num (d₁ := p.den) (d₂ := q.den)
 rw [Rat.num_divInt_den, Rat.num_divInt_den] at this
 exact this
theorem aAX (p q : Rat) : p / q = Rat.divInt (p.num * q.den) (p.den * q.num) := by
 rw [Rat.div_def, Rat.inv_def]
 have := Rat.divInt_mul_divInt p.num q.den (d₁ := p.den) (d₂ := q.num)
 rw [Rat.num_divInt_den] at this
 exact this
theorem yR {a b k m : Nat} (ha : a ≤ 2 ^ k) (hb : b ≤ 2 ^ m) : a * b ≤ 2 ^ (k + m) := by
 rw [Nat.pow_add]
 exact Nat.mul_le_mul ha hb
theorem eU {n k : Nat} (h : n ≤ 2 ^ k) : (gr n).length ≤ k / 29 + 1 := by
 refine pG ?_
 have h1 : 2 ^ k < 2 ^ (29 * (k / 29 + 1)) := Nat.pow_lt_pow_right (by omega) (by omega)
 have h2 : (2 : Nat) ^ (29 * (k / 29 + 1)) ≤ 1000000000 ^ (k / 29 + 1) := by
  rw [Nat.pow_mul]
  exact Nat.pow_le_pow_left (by decide) _
 omega
end Go.Proofs.YtkccjglmnhgabaaGreatDoor
namespace Go.Fx
def CsJ (J : Nat) (X : List Nat) (w0 : World) (M : List Ent) (I : List bB) : Nat → World → Prop := fun s w => s ≤ J → Mem X w0 M I w
section
variable {P : Program} {n : Nat} {Q Q' : Exit → Act → World → Prop} {G : Env} {X : List Nat} {w0 : World} {M M' M1 : List Ent} {I I' I1 : List bB}
theorem bZ {id : Nat} {l : List Oper} (J : Nat) (p ms : List Nat) (hx : P.follows .mixedOrders = true)
  (hp : (Region.noSelect l.toArray && iG l.toArray p ms (Array.replicate l.length false) && p.length == l.length) = true)
  (h : RD P n l Q (.any (CsJ J X w0 M I) 0 ms) (pick l p) G X w0 M I) : TD P n (.region id l.toArray true) Q G X w0 M I :=
 pJ (CsJ J X w0 M I) p ms hx (fun s w h hs => h (by omega)) hp (fun _ h _ => h) h
theorem aAA {id : Nat} {l : List Oper} (J : Nat) (Ms : List Ent) (Is : List bB) (p ms : List Nat) (hM : SubP M Ms) (hI : Inc I Is) (hx : P.follows .mixedOrders = true)
  (hp : (Region.noSelect l.toArray && iG l.toArray p ms (Array.replicate l.length false) && p.length == l.length) = true)
  (h : RD P n l Q (.any (CsJ J X w0 Ms Is) 0 ms) (pick l p) G X w0 M I) : TD P n (.region id l.toArray true) Q G X w0 M I :=
 pJ (CsJ J X w0 Ms Is) p ms hx (fun s w h hs => h (by omega)) hp (fun _ h _ => h.weak hM hI) h
theorem View.upto {J k : Nat} {ms : List Nat} (h : k + ms.headD 0 ≤ J) : View (.any (CsJ J X w0 M1 I1) k ms) X w0 M I M1 I1 := ⟨fun w w' _ hc => by
 have hc' : CsJ J X w0 M1 I1 (k + ms.headD 0) w' := hc
 exact hc' h⟩
theorem OkD.uptoN {J k : Nat} {ms : List Nat} (h : J ≤ k) : OkD (.any (CsJ J X w0 M1 I1) k ms) X w0 M I := ⟨fun w _ => by
 show CsJ J X w0 M1 I1 (k + 1) w
 intro hs
 omega⟩
theorem OkD.uptoY {J k : Nat} {ms : List Nat} (hM : SubP M M1) (hI : Inc I I1) : OkD (.any (CsJ J X w0 M1 I1) k ms) X w0 M I := ⟨fun w hw => by
 show CsJ J X w0 M1 I1 (k + 1) w
 exact fun _ => hw.weak hM hI⟩
theorem rQ {m : Mode} (h : View m X w0 M I M1 I1 := by first | exact View.seq | exact View.any | exact View.one rfl | exact View.upto (by decide)) : View m X w0 M I M1 I1 := h
theorem nJ {m : Mode} (h : OkD m X w0 M I := by first | exact OkD.seq | exact OkD.one | exact OkD.any bX bT | exact OkD.uptoN (by decide) | exact OkD.uptoY bX bT) : OkD m X w0 M I := h
/- lending: what a function owns, lent to a callee that only reads -/
theorem Mem.lendB {w : World} {b : Nat} {cs : List Value} {e : TypeId} {I2 : List bB} (hm : .blk b cs e ∈ M) (hw : Mem X w0 M I w) (h : Mem [] w [] I2 w) : Mem [] w [] (aW (some ⟨b, 0, none⟩) cs :: I2) w :=
 h.add (φ := aW (some ⟨b, 0, none⟩) cs) ⟨Blk.sl (X := muts []) (hw.blk hm) (by simp [muts]) 0 (fun j v hj => by simpa using hj)⟩
theorem CD.lend {f : FuncId} {vs : List Value} {K : Value → Prop} (I2 : List bB) (hI : ∀ w, Mem X w0 M I w → Mem [] w [] I2 w) (hc : ∀ W, CD P f vs [] W [] I2 (fun v _ _ => K v)) : CD P f vs X w0 M I (fun v M' I' => M = M' ∧ I = I' ∧ K v) :=
 ⟨fun w hw => ((hc w).go w (hI w hw)).mono (fun _ _ ⟨_, _, hk, hm⟩ => ⟨M, I, ⟨rfl, rfl, hk⟩, hw.call hm.ext⟩)⟩
theorem CD.val {f : FuncId} {vs : List Value} {K : Value → Prop} (h : CD P f vs X w0 M I (fun v M' I' => M = M' ∧ I = I' ∧ K v)) : CD P f vs X w0 M I (fun v _ _ => K v) := h.mono (fun _ _ _ h => h.2.2)
end
end Go.Fx
namespace Go.Fx
section
variable {α : Type} {enc : α → List Value} {sz : Nat}
theorem aDA [h : Sized enc sz] : ∀ (ms : List α) (l : Nat), recs enc (ms.drop l) = (recs enc ms).drop (l * sz)
 | ms, 0 => by simp
 | [], l + 1 => by simp [recs]
 | m :: r, l + 1 => by
  have e : recs enc (m :: r) = enc m ++ recs enc r := rfl
  have h1 : (l + 1) * sz = (enc m).length + l * sz := by rw [h.len, Nat.add_mul]; omega
  rw [List.drop_succ_cons, aDA r l, e, h1, List.drop_append, List.drop_of_length_le (show (enc m).length ≤ (enc m).length + l * sz by omega)]
  simp
theorem aCQ [h : Sized enc sz] : ∀ (ms : List α) (l : Nat), recs enc (ms.take l) = (recs enc ms).take (l * sz)
 | ms, 0 => by simp [recs]
 | [], l + 1 => by simp [recs]
 | m :: r, l + 1 => by
  have e : recs enc (m :: r) = enc m ++ recs enc r := rfl
  have e2 : recs enc ((m :: r).take (l + 1)) = enc m ++ recs enc (r.take l) := rfl
  have h1 : (l + 1) * sz = (enc m).length + l * sz := by rw [h.len, Nat.add_mul]; omega
  rw [e2, aCQ r l, e, h1, List.take_append, List.take_of_length_le (show (enc m).length ≤ (enc m).length + l * sz by omega)]
  simp
end
section
variable {P : Program} {n : Nat} {Q Q' : Exit → Act → World → Prop} {G : Env} {X : List Nat} {w0 : World} {M M' M1 : List Ent} {I I' I1 : List bB}
theorem Mem.cutI {α : Type} {enc : α → List Value} {sz : Nat} [hz : Sized enc sz] {w : World} {a : Option Addr} {ms : List α} (c l m : Nat) (h : Mem X w0 M I w) (hm : aW a (recs enc ms) ∈ I) (hc : ms.length ≤ c) : Mem X w0 M (aW (aBV a c l sz) (recs enc ((ms.take m).drop l)) :: I) w :=
 h.add (φ := aW _ _) ⟨by
  rw [aDA, aCQ]
  exact (h.sl hm).cut c l (m * sz) sz (by rw [jQ]; exact Nat.mul_le_mul_right _ hc)⟩
theorem aTT {α : Type} {enc : α → List Value} {sz : Nat} [hz : Sized enc sz] {ops l : List Oper} {m : Mode} {a : Option Addr} {ms : List α} (c lo hi : Nat) (hm : aW a (recs enc ms) ∈ I) (hc : ms.length ≤ c) (h : RD P n ops Q m l G X w0 M (aW (aBV a c lo sz) (recs enc ((ms.take hi).drop lo)) :: I)) : RD P n ops Q m l G X w0 M I := rM (fun _ hw => hw.cutI c lo hi hm hc) h
theorem aCW {C : World → Prop} {ty t e : TypeId} {sz : Nat} {x : Operand} {lo hi : Option Operand} {a : Option Addr} {len c : Nat} (l h k : Nat) [ht : SliceTy P t e sz] (hx : ev G x = some (.slice a len c))
  (hl : (lo = none ∧ l = 0) ∨ ∃ y k i, lo = some y ∧ ev G y = some (.int k i) ∧ i = (l : Int)) (hh : (hi = none ∧ h = len) ∨ ∃ y k i, hi = some y ∧ ev G y = some (.int k i) ∧ i = (h : Int)) (h1 : l ≤ h) (h2 : h ≤ c) (hk : h - l = k) :
  Const P n G (.slice t x lo hi none) ty C (.slice (aBV a c l sz) k (c - l)) := by
 subst hk
 exact aGJ hx (hl.imp id (fun ⟨y, k, i, h1, h2, h3⟩ => ⟨y, k, h1, by rw [← h3]; exact h2⟩)) (hh.imp id (fun ⟨y, k, i, h1, h2, h3⟩ => ⟨y, k, h1, by rw [← h3]; exact h2⟩)) h1 h2
theorem aMF {ex : Exit} {a : Option Addr} {mm c : Nat} {cs : List Value} {e : TypeId} {sz : Nat} (h0 : a = none → mm = 0 → cs = [] → ND n Q ex G X w0 (.row a mm c cs e sz :: M) I) (h1 : ∀ b tl, a = some ⟨b, 0, none⟩ → mm ≤ c → ND n Q ex G X w0 (.blk b (cs ++ tl) e :: M) I) : ND n Q ex G X w0 (.row a mm c cs e sz :: M) I :=
 ⟨fun w hw => by
  rcases hw.rowBlk with ⟨e1, e2, e3⟩ | ⟨b, tl, e1, e2, hm⟩
  ·exact (h0 e1 e2 e3).go w hw
  ·exact (h1 b tl e1 e2).go w hm⟩
theorem aJV {ex : Exit} (e : TypeId) (sz : Nat) (h : ND n Q ex G X w0 (.row none 0 0 [] e sz :: M) I) : ND n Q ex G X w0 M I := yI (fun _ hw => hw.row0 e sz) h
theorem jS {ops l : List Oper} {m : Mode} {b mm : Nat} {cs : List Value} {e : TypeId} (sz : Nat) (hr : Rep (.blk b cs e) (.row (some ⟨b, 0, none⟩) mm mm cs e sz) M M') (hl : cs.length = mm * sz) (hm : mm ≤ 9223372036854775807) (h : RD P n ops Q m l G X w0 M' I) : RD P n ops Q m l G X w0 M I := rM (fun _ hw => hw.toRow sz hr hl hm) h
theorem CD.post {f : FuncId} {vs : List Value} {K K' : Value → List Ent → List bB → Prop} (h : CD P f vs X w0 M I K) (hk : ∀ v M1 I1 w, K v M1 I1 → Mem X w0 M1 I1 w → ∃ M2 I2, K' v M2 I2 ∧ Mem X w0 M2 I2 w) : CD P f vs X w0 M I K' :=
 ⟨fun w hw => (h.go w hw).mono (fun _ _ ⟨_, _, h1, h2⟩ => hk _ _ _ _ h1 h2)⟩
theorem CD.pre {f : FuncId} {vs : List Value} {K : Value → List Ent → List bB → Prop} (hM : ∀ w, Mem X w0 M I w → Mem X w0 M' I' w) (h : CD P f vs X w0 M' I' K) : CD P f vs X w0 M I K := ⟨fun w hw => h.go w (hM w hw)⟩
/- two operations that change the world, in either order -/
theorem dW {C : World → Prop} {ty t t' : TypeId} {x y : Operand} {p q : Prop} [Decidable p] [Decidable q] [ht : BoolTy P t] (hx : ev G x = some (.bool (B p))) (hy : ev G y = some (.bool (B q))) :
  Const P n G (.binOp .neq t x y t') ty C (.bool (B (¬ (p ↔ q)))) := by
 refine ⟨?_⟩
 intro s ha dst pos after guard w _
 have h : (!(B p == B q)) = B (¬ (p ↔ q)) := by
  rw [pK, pK, pK]
  by_cases hp : p <;> by_cases hq : q <;> simp [hp, hq]
 have e1 : (eqGuard .neq t x y (.bool (B p)) (.bool (B q))).run P w = .ok () w := rfl
 simp only [execOp, ha.ev hx, ha.ev hy, Sem.run_bind, e1, Result.andThen_ok, run_neq_bool _ t (B p) (B q) ht.und, Sem.run_pure, h]
theorem Mem.rowLe {w : World} {a : Option Addr} {m c : Nat} {cs : List Value} {e : TypeId} {sz : Nat} (h : Mem X w0 M I w) (hm : .row a m c cs e sz ∈ M) : m ≤ c := by
 have ho : w.ownsRow 0 e sz (.slice a m c) m cs := h.ent _ hm
 obtain ⟨a', c', hv, _, _, hle⟩ := aBH ho
 injection hv with e1 e2 e3
 subst e3
 exact hle
end
end Go.Fx
namespace Go.Proofs.YtkccjglmnhgabaaGreatDoor
open Go Go.Fx
instance : IntTy Tryz.prog 2 .i64 := ⟨Tryz.underlying2⟩
instance : ScalarTy Tryz.prog 3 := ⟨⟨_, Tryz.underlying3, (by intro _ h; cases h), (by intro _ _ h; cases h)⟩, by kernel_rfl⟩
instance : IntTy Tryz.prog 3 .i64 := ⟨Tryz.underlying3⟩
instance : ElemTy Tryz.prog 3 1 8 [.int .i64 0] := ⟨by kernel_rfl, rfl⟩
instance : ScalarTy Tryz.prog 4 := ⟨⟨_, Tryz.underlying4, (by intro _ h; cases h), (by intro _ _ h; cases h)⟩, by kernel_rfl⟩
instance : BoolTy Tryz.prog 4 := ⟨Tryz.underlying4⟩
instance : IntTy Tryz.prog 5 .u8 := ⟨Tryz.underlying5⟩
instance : StrTy Tryz.prog 9 := ⟨Tryz.underlying9⟩
instance : SliceTy Tryz.prog 22 39 3 := ⟨Tryz.underlying22, by kernel_rfl⟩
instance : ScalarTy Tryz.prog 29 := ⟨⟨_, Tryz.underlying29, (by intro _ h; cases h), (by intro _ _ h; cases h)⟩, by kernel_rfl⟩
instance : SliceTy Tryz.prog 29 48 1 := ⟨Tryz.underlying29, by kernel_rfl⟩
instance : ScalarTy Tryz.prog 30 := ⟨⟨_, Tryz.underlying30, (by intro _ h; cases h), (by intro _ _ h; cases h)⟩, by kernel_rfl⟩
instance : SliceTy Tryz.prog 30 48 1 := ⟨Tryz.underlying30, by kernel_rfl⟩
instance : ScalarTy Tryz.prog 33 := ⟨⟨_, Tryz.underlying33, (by intro _ h; cases h), (by intro _ _ h; cases h)⟩, by kernel_rfl⟩
instance : IntTy Tryz.prog 33 .i8 := ⟨Tryz.underlying33⟩
instance : ArrTy Tryz.prog 34 3 33 1 := ⟨Tryz.underlying34, by kernel_rfl⟩
instance : ArrTy Tryz.prog 35 3 34 3 := ⟨Tryz.underlying35, by kernel_rfl⟩
instance : ScalarTy Tryz.prog 36 := ⟨⟨_, Tryz.underlying36, (by intro _ h; cases h), (by intro _ _ h; cases h)⟩, by kernel_rfl⟩
instance : IntTy Tryz.prog 36 .i16 := ⟨Tryz.underlying36⟩
instance : ArrTy Tryz.prog 37 3 36 1 := ⟨Tryz.underlying37, by kernel_rfl⟩
instance : AggTy Tryz.prog 39 3 := ⟨.inl ⟨_, Tryz.underlying39⟩, by kernel_rfl⟩
instance : StructTy Tryz.prog 39 [(0, 1), (1, 1), (2, 1)] [.int .i64 0, .int .i64 0, .int .i64 0] := ⟨⟨_, Tryz.underlying39, by kernel_rfl⟩, by kernel_rfl⟩
instance : FieldAt Tryz.prog 39 0 0 3 1 := ⟨⟨_, _, Tryz.underlying39, rfl, rfl, rfl⟩, by kernel_rfl⟩
instance : FieldAt Tryz.prog 39 1 1 3 1 := ⟨⟨_, _, Tryz.underlying39, rfl, rfl, rfl⟩, by kernel_rfl⟩
instance : FieldAt Tryz.prog 39 2 2 3 1 := ⟨⟨_, _, Tryz.underlying39, rfl, rfl, rfl⟩, by kernel_rfl⟩
instance : ElemTy Tryz.prog 39 3 24 [.int .i64 0, .int .i64 0, .int .i64 0] := ⟨by kernel_rfl, rfl⟩
instance : AggTy Tryz.prog 40 3 := ⟨.inr ⟨_, _, Tryz.underlying40⟩, by kernel_rfl⟩
instance : ArrTy Tryz.prog 40 3 3 1 := ⟨Tryz.underlying40, by kernel_rfl⟩
instance : ElemTy Tryz.prog 40 3 24 [.int .i64 0, .int .i64 0, .int .i64 0] := ⟨by kernel_rfl, rfl⟩
instance : ScalarTy Tryz.prog 42 := ⟨⟨_, Tryz.underlying42, (by intro _ h; cases h), (by intro _ _ h; cases h)⟩, by kernel_rfl⟩
instance : SliceTy Tryz.prog 42 116 1 := ⟨Tryz.underlying42, by kernel_rfl⟩
instance : AggTy Tryz.prog 44 2 := ⟨.inl ⟨_, Tryz.underlying44⟩, by kernel_rfl⟩
instance : StructTy Tryz.prog 44 [(0, 1), (1, 1)] [.bool false, .slice none 0 0] := ⟨⟨_, Tryz.underlying44, by kernel_rfl⟩, by kernel_rfl⟩
instance : FieldAt Tryz.prog 44 0 0 4 1 := ⟨⟨_, _, Tryz.underlying44, rfl, rfl, rfl⟩, by kernel_rfl⟩
instance : FieldAt Tryz.prog 44 1 1 42 1 := ⟨⟨_, _, Tryz.underlying44, rfl, rfl, rfl⟩, by kernel_rfl⟩
instance : ElemTy Tryz.prog 44 2 32 [.bool false, .slice none 0 0] := ⟨by kernel_rfl, rfl⟩
instance : AggTy Tryz.prog 46 4 := ⟨.inl ⟨_, Tryz.underlying46⟩, by kernel_rfl⟩
instance : StructTy Tryz.prog 46 [(0, 2), (2, 2)] [.bool false, .slice none 0 0, .bool false, .slice none 0 0] := ⟨⟨_, Tryz.underlying46, by kernel_rfl⟩, by kernel_rfl⟩
instance : FieldAt Tryz.prog 46 0 0 44 2 := ⟨⟨_, _, Tryz.underlying46, rfl, rfl, rfl⟩, by kernel_rfl⟩
instance : FieldAt Tryz.prog 46 1 2 44 2 := ⟨⟨_, _, Tryz.underlying46, rfl, rfl, rfl⟩, by kernel_rfl⟩
instance : ElemTy Tryz.prog 46 4 64 [.bool false, .slice none 0 0, .bool false, .slice none 0 0] := ⟨by kernel_rfl, rfl⟩
instance : ScalarTy Tryz.prog 48 := ⟨⟨_, Tryz.underlying48, (by intro _ h; cases h), (by intro _ _ h; cases h)⟩, by kernel_rfl⟩
instance : SliceTy Tryz.prog 48 46 4 := ⟨Tryz.underlying48, by kernel_rfl⟩
instance : ElemTy Tryz.prog 48 1 24 [.slice none 0 0] := ⟨by kernel_rfl, rfl⟩
instance : ScalarTy Tryz.prog 51 := ⟨⟨_, Tryz.underlying51, (by intro _ h; cases h), (by intro _ _ h; cases h)⟩, by kernel_rfl⟩
instance : SliceTy Tryz.prog 51 3 1 := ⟨Tryz.underlying51, by kernel_rfl⟩
instance : AggTy Tryz.prog 54 7 := ⟨.inl ⟨_, Tryz.underlying54⟩, by kernel_rfl⟩
instance : StructTy Tryz.prog 54 [(0, 1), (1, 1), (2, 4), (6, 1)] [.slice none 0 0, .slice none 0 0, .bool false, .slice none 0 0, .bool false, .slice none 0 0, .slice none 0 0] := ⟨⟨_, Tryz.underlying54, by kernel_rfl⟩, by kernel_rfl⟩
instance : FieldAt Tryz.prog 54 0 0 51 1 := ⟨⟨_, _, Tryz.underlying54, rfl, rfl, rfl⟩, by kernel_rfl⟩
instance : FieldAt Tryz.prog 54 1 1 51 1 := ⟨⟨_, _, Tryz.underlying54, rfl, rfl, rfl⟩, by kernel_rfl⟩
instance : FieldAt Tryz.prog 54 2 2 46 4 := ⟨⟨_, _, Tryz.underlying54, rfl, rfl, rfl⟩, by kernel_rfl⟩
instance : FieldAt Tryz.prog 54 3 6 30 1 := ⟨⟨_, _, Tryz.underlying54, rfl, rfl, rfl⟩, by kernel_rfl⟩
instance : ElemTy Tryz.prog 54 7 136 [.slice none 0 0, .slice none 0 0, .bool false, .slice none 0 0, .bool false, .slice none 0 0, .slice none 0 0] := ⟨by kernel_rfl, rfl⟩
instance : AggTy Tryz.prog 62 4 := ⟨.inr ⟨_, _, Tryz.underlying62⟩, by kernel_rfl⟩
instance : ArrTy Tryz.prog 62 4 3 1 := ⟨Tryz.underlying62, by kernel_rfl⟩
instance : ElemTy Tryz.prog 62 4 32 [.int .i64 0, .int .i64 0, .int .i64 0, .int .i64 0] := ⟨by kernel_rfl, rfl⟩
instance : AggTy Tryz.prog 63 2 := ⟨.inr ⟨_, _, Tryz.underlying63⟩, by kernel_rfl⟩
instance : ArrTy Tryz.prog 63 2 3 1 := ⟨Tryz.underlying63, by kernel_rfl⟩
instance : ElemTy Tryz.prog 63 2 16 [.int .i64 0, .int .i64 0] := ⟨by kernel_rfl, rfl⟩
instance : AggTy Tryz.prog 64 20 := ⟨.inr ⟨_, _, Tryz.underlying64⟩, by kernel_rfl⟩
instance : ArrTy Tryz.prog 64 10 63 2 := ⟨Tryz.underlying64, by kernel_rfl⟩
instance : StructTy Tryz.prog 74 [(0, 1), (1, 1)] [.slice none 0 0, .slice none 0 0] := ⟨⟨_, Tryz.underlying74, by kernel_rfl⟩, by kernel_rfl⟩
instance : FieldAt Tryz.prog 74 0 0 29 1 := ⟨⟨_, _, Tryz.underlying74, rfl, rfl, rfl⟩, by kernel_rfl⟩
instance : FieldAt Tryz.prog 74 1 1 51 1 := ⟨⟨_, _, Tryz.underlying74, rfl, rfl, rfl⟩, by kernel_rfl⟩
instance : ScalarTy Tryz.prog 115 := ⟨⟨_, Tryz.underlying115, (by intro _ h; cases h), (by intro _ _ h; cases h)⟩, by kernel_rfl⟩
instance : IntTy Tryz.prog 115 .u64 := ⟨Tryz.underlying115⟩
instance : ScalarTy Tryz.prog 116 := ⟨⟨_, Tryz.underlying116, (by intro _ h; cases h), (by intro _ _ h; cases h)⟩, by kernel_rfl⟩
instance : IntTy Tryz.prog 116 .u32 := ⟨Tryz.underlying116⟩
instance : ElemTy Tryz.prog 116 1 4 [.int .u32 0] := ⟨by kernel_rfl, rfl⟩
instance : IntTy Tryz.prog 123 .u64 := ⟨Tryz.underlying123⟩
instance : FnOk Tryz.prog 3 := ⟨_, Tryz.func3, by kernel_rfl, by kernel_rfl⟩
instance : FnOk Tryz.prog 4 := ⟨_, Tryz.func4, by kernel_rfl, by kernel_rfl⟩
instance : FnOk Tryz.prog 5 := ⟨_, Tryz.func5, by kernel_rfl, by kernel_rfl⟩
instance : FnOk Tryz.prog 6 := ⟨_, Tryz.func6, by kernel_rfl, by kernel_rfl⟩
instance : FnOk Tryz.prog 7 := ⟨_, Tryz.func7, by kernel_rfl, by kernel_rfl⟩
instance : FnOk Tryz.prog 8 := ⟨_, Tryz.func8, by kernel_rfl, by kernel_rfl⟩
instance : FnOk Tryz.prog 9 := ⟨_, Tryz.func9, by kernel_rfl, by kernel_rfl⟩
instance : FnOk Tryz.prog 10 := ⟨_, Tryz.func10, by kernel_rfl, by kernel_rfl⟩
instance : FnOk Tryz.prog 11 := ⟨_, Tryz.func11, by kernel_rfl, by kernel_rfl⟩
instance : FnOk Tryz.prog 12 := ⟨_, Tryz.func12, by kernel_rfl, by kernel_rfl⟩
instance : FnOk Tryz.prog 13 := ⟨_, Tryz.func13, by kernel_rfl, by kernel_rfl⟩
instance : FnOk Tryz.prog 14 := ⟨_, Tryz.func14, by kernel_rfl, by kernel_rfl⟩
instance : FnOk Tryz.prog 15 := ⟨_, Tryz.func15, by kernel_rfl, by kernel_rfl⟩
instance : FnOk Tryz.prog 16 := ⟨_, Tryz.func16, by kernel_rfl, by kernel_rfl⟩
instance : FnOk Tryz.prog 17 := ⟨_, Tryz.func17, by kernel_rfl, by kernel_rfl⟩
instance : FnOk Tryz.prog 18 := ⟨_, Tryz.func18, by kernel_rfl, by kernel_rfl⟩
instance : FnOk Tryz.prog 19 := ⟨_, Tryz.func19, by kernel_rfl, by kernel_rfl⟩
instance : FnOk Tryz.prog 20 := ⟨_, Tryz.func20, by kernel_rfl, by kernel_rfl⟩
instance : FnOk Tryz.prog 21 := ⟨_, Tryz.func21, by kernel_rfl, by kernel_rfl⟩
instance : FnOk Tryz.prog 22 := ⟨_, Tryz.func22, by kernel_rfl, by kernel_rfl⟩
instance : FnOk Tryz.prog 23 := ⟨_, Tryz.func23, by kernel_rfl, by kernel_rfl⟩
instance : FnOk Tryz.prog 24 := ⟨_, Tryz.func24, by kernel_rfl, by kernel_rfl⟩
instance : FnOk Tryz.prog 25 := ⟨_, Tryz.func25, by kernel_rfl, by kernel_rfl⟩
instance : FnOk Tryz.prog 26 := ⟨_, Tryz.func26, by kernel_rfl, by kernel_rfl⟩
instance : FnOk Tryz.prog 27 := ⟨_, Tryz.func27, by kernel_rfl, by kernel_rfl⟩
instance : FnOk Tryz.prog 28 := ⟨_, Tryz.func28, by kernel_rfl, by kernel_rfl⟩
instance : FnOk Tryz.prog 29 := ⟨_, Tryz.func29, by kernel_rfl, by kernel_rfl⟩
instance : FnOk Tryz.prog 30 := ⟨_, Tryz.func30, by kernel_rfl, by kernel_rfl⟩
instance : FnOk Tryz.prog 31 := ⟨_, Tryz.func31, by kernel_rfl, by kernel_rfl⟩
instance : FnOk Tryz.prog 32 := ⟨_, Tryz.func32, by kernel_rfl, by kernel_rfl⟩
instance : FnOk Tryz.prog 33 := ⟨_, Tryz.func33, by kernel_rfl, by kernel_rfl⟩
instance : FnOk Tryz.prog 34 := ⟨_, Tryz.func34, by kernel_rfl, by kernel_rfl⟩
instance : FnOk Tryz.prog 35 := ⟨_, Tryz.func35, by kernel_rfl, by kernel_rfl⟩
instance : FnOk Tryz.prog 36 := ⟨_, Tryz.func36, by kernel_rfl, by kernel_rfl⟩
instance : FnOk Tryz.prog 37 := ⟨_, Tryz.func37, by kernel_rfl, by kernel_rfl⟩
instance : FnOk Tryz.prog 38 := ⟨_, Tryz.func38, by kernel_rfl, by kernel_rfl⟩
instance : FnOk Tryz.prog 39 := ⟨_, Tryz.func39, by kernel_rfl, by kernel_rfl⟩
instance : FnOk Tryz.prog 40 := ⟨_, Tryz.func40, by kernel_rfl, by kernel_rfl⟩
instance : FnOk Tryz.prog 41 := ⟨_, Tryz.func41, by kernel_rfl, by kernel_rfl⟩
instance : FnOk Tryz.prog 42 := ⟨_, Tryz.func42, by kernel_rfl, by kernel_rfl⟩
instance : FnOk Tryz.prog 43 := ⟨_, Tryz.func43, by kernel_rfl, by kernel_rfl⟩
instance : FnOk Tryz.prog 44 := ⟨_, Tryz.func44, by kernel_rfl, by kernel_rfl⟩
instance : FnOk Tryz.prog 45 := ⟨_, Tryz.func45, by kernel_rfl, by kernel_rfl⟩
instance : FnOk Tryz.prog 46 := ⟨_, Tryz.func46, by kernel_rfl, by kernel_rfl⟩
instance : FnOk Tryz.prog 47 := ⟨_, Tryz.func47, by kernel_rfl, by kernel_rfl⟩
instance : FnOk Tryz.prog 48 := ⟨_, Tryz.func48, by kernel_rfl, by kernel_rfl⟩
instance : FnOk Tryz.prog 49 := ⟨_, Tryz.func49, by kernel_rfl, by kernel_rfl⟩
instance : FnOk Tryz.prog 50 := ⟨_, Tryz.func50, by kernel_rfl, by kernel_rfl⟩
instance : FnOk Tryz.prog 51 := ⟨_, Tryz.func51, by kernel_rfl, by kernel_rfl⟩
instance : FnOk Tryz.prog 52 := ⟨_, Tryz.func52, by kernel_rfl, by kernel_rfl⟩
instance : FnOk Tryz.prog 53 := ⟨_, Tryz.func53, by kernel_rfl, by kernel_rfl⟩
instance : FnOk Tryz.prog 54 := ⟨_, Tryz.func54, by kernel_rfl, by kernel_rfl⟩
instance : FnOk Tryz.prog 55 := ⟨_, Tryz.func55, by kernel_rfl, by kernel_rfl⟩
instance : FnOk Tryz.prog 56 := ⟨_, Tryz.func56, by kernel_rfl, by kernel_rfl⟩
instance : FnOk Tryz.prog 57 := ⟨_, Tryz.func57, by kernel_rfl, by kernel_rfl⟩
instance : FnOk Tryz.prog 58 := ⟨_, Tryz.func58, by kernel_rfl, by kernel_rfl⟩
instance : FnOk Tryz.prog 59 := ⟨_, Tryz.func59, by kernel_rfl, by kernel_rfl⟩
instance : FnOk Tryz.prog 60 := ⟨_, Tryz.func60, by kernel_rfl, by kernel_rfl⟩
instance : FnOk Tryz.prog 61 := ⟨_, Tryz.func61, by kernel_rfl, by kernel_rfl⟩
instance : FnOk Tryz.prog 62 := ⟨_, Tryz.func62, by kernel_rfl, by kernel_rfl⟩
instance : FnOk Tryz.prog 63 := ⟨_, Tryz.func63, by kernel_rfl, by kernel_rfl⟩
instance : FnOk Tryz.prog 64 := ⟨_, Tryz.func64, by kernel_rfl, by kernel_rfl⟩
instance : FnOk Tryz.prog 65 := ⟨_, Tryz.func65, by kernel_rfl, by kernel_rfl⟩
instance : FnOk Tryz.prog 66 := ⟨_, Tryz.func66, by kernel_rfl, by kernel_rfl⟩
instance : FnOk Tryz.prog 67 := ⟨_, Tryz.func67, by kernel_rfl, by kernel_rfl⟩
instance : FnOk Tryz.prog 68 := ⟨_, Tryz.func68, by kernel_rfl, by kernel_rfl⟩
instance : FnOk Tryz.prog 69 := ⟨_, Tryz.func69, by kernel_rfl, by kernel_rfl⟩
instance : FnOk Tryz.prog 70 := ⟨_, Tryz.func70, by kernel_rfl, by kernel_rfl⟩
instance : FnOk Tryz.prog 71 := ⟨_, Tryz.func71, by kernel_rfl, by kernel_rfl⟩
instance : FnOk Tryz.prog 72 := ⟨_, Tryz.func72, by kernel_rfl, by kernel_rfl⟩
instance : FnOk Tryz.prog 73 := ⟨_, Tryz.func73, by kernel_rfl, by kernel_rfl⟩
instance : FnOk Tryz.prog 74 := ⟨_, Tryz.func74, by kernel_rfl, by kernel_rfl⟩
instance : FnOk Tryz.prog 75 := ⟨_, Tryz.func75, by kernel_rfl, by kernel_rfl⟩
instance : FnOk Tryz.prog 76 := ⟨_, Tryz.func76, by kernel_rfl, by kernel_rfl⟩
instance : FnOk Tryz.prog 77 := ⟨_, Tryz.func77, by kernel_rfl, by kernel_rfl⟩
instance : FnOk Tryz.prog 78 := ⟨_, Tryz.func78, by kernel_rfl, by kernel_rfl⟩
instance : FnOk Tryz.prog 79 := ⟨_, Tryz.func79, by kernel_rfl, by kernel_rfl⟩
instance : FnOk Tryz.prog 80 := ⟨_, Tryz.func80, by kernel_rfl, by kernel_rfl⟩
instance : FnOk Tryz.prog 81 := ⟨_, Tryz.func81, by kernel_rfl, by kernel_rfl⟩
instance : FnOk Tryz.prog 82 := ⟨_, Tryz.func82, by kernel_rfl, by kernel_rfl⟩
instance : FnOk Tryz.prog 83 := ⟨_, Tryz.func83, by kernel_rfl, by kernel_rfl⟩
instance : FnOk Tryz.prog 84 := ⟨_, Tryz.func84, by kernel_rfl, by kernel_rfl⟩
instance : FnOk Tryz.prog 85 := ⟨_, Tryz.func85, by kernel_rfl, by kernel_rfl⟩
instance : FnOk Tryz.prog 86 := ⟨_, Tryz.func86, by kernel_rfl, by kernel_rfl⟩
instance : FnOk Tryz.prog 87 := ⟨_, Tryz.func87, by kernel_rfl, by kernel_rfl⟩
instance : FnOk Tryz.prog 88 := ⟨_, Tryz.func88, by kernel_rfl, by kernel_rfl⟩
instance : FnOk Tryz.prog 89 := ⟨_, Tryz.func89, by kernel_rfl, by kernel_rfl⟩
instance : FnOk Tryz.prog 90 := ⟨_, Tryz.func90, by kernel_rfl, by kernel_rfl⟩
instance : FnOk Tryz.prog 91 := ⟨_, Tryz.func91, by kernel_rfl, by kernel_rfl⟩
instance : FnOk Tryz.prog 92 := ⟨_, Tryz.func92, by kernel_rfl, by kernel_rfl⟩
instance : FnOk Tryz.prog 93 := ⟨_, Tryz.func93, by kernel_rfl, by kernel_rfl⟩
instance : FnOk Tryz.prog 94 := ⟨_, Tryz.func94, by kernel_rfl, by kernel_rfl⟩
instance : FnOk Tryz.prog 95 := ⟨_, Tryz.func95, by kernel_rfl, by kernel_rfl⟩
instance : FnOk Tryz.prog 96 := ⟨_, Tryz.func96, by kernel_rfl, by kernel_rfl⟩
instance : FnOk Tryz.prog 97 := ⟨_, Tryz.func97, by kernel_rfl, by kernel_rfl⟩
instance : FnOk Tryz.prog 98 := ⟨_, Tryz.func98, by kernel_rfl, by kernel_rfl⟩
instance : FnOk Tryz.prog 99 := ⟨_, Tryz.func99, by kernel_rfl, by kernel_rfl⟩
instance : FnOk Tryz.prog 100 := ⟨_, Tryz.func100, by kernel_rfl, by kernel_rfl⟩
instance : FnOk Tryz.prog 101 := ⟨_, Tryz.func101, by kernel_rfl, by kernel_rfl⟩
instance : FnOk Tryz.prog 102 := ⟨_, Tryz.func102, by kernel_rfl, by kernel_rfl⟩
instance : FnOk Tryz.prog 103 := ⟨_, Tryz.func103, by kernel_rfl, by kernel_rfl⟩
instance : FnOk Tryz.prog 104 := ⟨_, Tryz.func104, by kernel_rfl, by kernel_rfl⟩
instance : FnOk Tryz.prog 105 := ⟨_, Tryz.func105, by kernel_rfl, by kernel_rfl⟩
instance : FnOk Tryz.prog 106 := ⟨_, Tryz.func106, by kernel_rfl, by kernel_rfl⟩
instance : FnOk Tryz.prog 107 := ⟨_, Tryz.func107, by kernel_rfl, by kernel_rfl⟩
instance : FnOk Tryz.prog 108 := ⟨_, Tryz.func108, by kernel_rfl, by kernel_rfl⟩
instance : FnOk Tryz.prog 109 := ⟨_, Tryz.func109, by kernel_rfl, by kernel_rfl⟩
instance : FnOk Tryz.prog 110 := ⟨_, Tryz.func110, by kernel_rfl, by kernel_rfl⟩
instance : FnOk Tryz.prog 111 := ⟨_, Tryz.func111, by kernel_rfl, by kernel_rfl⟩
instance : FnOk Tryz.prog 112 := ⟨_, Tryz.func112, by kernel_rfl, by kernel_rfl⟩
instance : FnOk Tryz.prog 113 := ⟨_, Tryz.func113, by kernel_rfl, by kernel_rfl⟩
instance : FnOk Tryz.prog 114 := ⟨_, Tryz.func114, by kernel_rfl, by kernel_rfl⟩
instance : FnOk Tryz.prog 115 := ⟨_, Tryz.func115, by kernel_rfl, by kernel_rfl⟩
instance : FnOk Tryz.prog 116 := ⟨_, Tryz.func116, by kernel_rfl, by kernel_rfl⟩
instance : FnOk Tryz.prog 117 := ⟨_, Tryz.func117, by kernel_rfl, by kernel_rfl⟩
instance : FnOk Tryz.prog 118 := ⟨_, Tryz.func118, by kernel_rfl, by kernel_rfl⟩
instance : FnOk Tryz.prog 119 := ⟨_, Tryz.func119, by kernel_rfl, by kernel_rfl⟩
instance : FnOk Tryz.prog 120 := ⟨_, Tryz.func120, by kernel_rfl, by kernel_rfl⟩
instance : FnOk Tryz.prog 121 := ⟨_, Tryz.func121, by kernel_rfl, by kernel_rfl⟩
instance : FnOk Tryz.prog 122 := ⟨_, Tryz.func122, by kernel_rfl, by kernel_rfl⟩
instance : FnOk Tryz.prog 123 := ⟨_, Tryz.func123, by kernel_rfl, by kernel_rfl⟩
instance : FnOk Tryz.prog 124 := ⟨_, Tryz.func124, by kernel_rfl, by kernel_rfl⟩
instance : FnOk Tryz.prog 125 := ⟨_, Tryz.func125, by kernel_rfl, by kernel_rfl⟩
instance : FnOk Tryz.prog 126 := ⟨_, Tryz.func126, by kernel_rfl, by kernel_rfl⟩
instance : FnOk Tryz.prog 127 := ⟨_, Tryz.func127, by kernel_rfl, by kernel_rfl⟩
instance : FnOk Tryz.prog 128 := ⟨_, Tryz.func128, by kernel_rfl, by kernel_rfl⟩
instance : FnOk Tryz.prog 129 := ⟨_, Tryz.func129, by kernel_rfl, by kernel_rfl⟩
instance : FnOk Tryz.prog 130 := ⟨_, Tryz.func130, by kernel_rfl, by kernel_rfl⟩
instance : FnOk Tryz.prog 136 := ⟨_, Tryz.func136, by kernel_rfl, by kernel_rfl⟩
instance : FnOk Tryz.prog 140 := ⟨_, Tryz.func140, by kernel_rfl, by kernel_rfl⟩
instance : FnOk Tryz.prog 141 := ⟨_, Tryz.func141, by kernel_rfl, by kernel_rfl⟩
instance : FnOk Tryz.prog 142 := ⟨_, Tryz.func142, by kernel_rfl, by kernel_rfl⟩
instance : FnOk Tryz.prog 143 := ⟨_, Tryz.func143, by kernel_rfl, by kernel_rfl⟩
instance : FnOk Tryz.prog 144 := ⟨_, Tryz.func144, by kernel_rfl, by kernel_rfl⟩
instance : FnOk Tryz.prog 145 := ⟨_, Tryz.func145, by kernel_rfl, by kernel_rfl⟩
instance : FnOk Tryz.prog 146 := ⟨_, Tryz.func146, by kernel_rfl, by kernel_rfl⟩
instance : FnOk Tryz.prog 147 := ⟨_, Tryz.func147, by kernel_rfl, by kernel_rfl⟩
instance : FnOk Tryz.prog 148 := ⟨_, Tryz.func148, by kernel_rfl, by kernel_rfl⟩
instance : FnOk Tryz.prog 149 := ⟨_, Tryz.func149, by kernel_rfl, by kernel_rfl⟩
instance : FnOk Tryz.prog 150 := ⟨_, Tryz.func150, by kernel_rfl, by kernel_rfl⟩
instance : FnOk Tryz.prog 151 := ⟨_, Tryz.func151, by kernel_rfl, by kernel_rfl⟩
instance : FnOk Tryz.prog 152 := ⟨_, Tryz.func152, by kernel_rfl, by kernel_rfl⟩
instance : FnOk Tryz.prog 153 := ⟨_, Tryz.func153, by kernel_rfl, by kernel_rfl⟩
instance : FnOk Tryz.prog 154 := ⟨_, Tryz.func154, by kernel_rfl, by kernel_rfl⟩
instance : FnOk Tryz.prog 155 := ⟨_, Tryz.func155, by kernel_rfl, by kernel_rfl⟩
instance : FnOk Tryz.prog 161 := ⟨_, Tryz.func161, by kernel_rfl, by kernel_rfl⟩
instance : FnOk Tryz.prog 162 := ⟨_, Tryz.func162, by kernel_rfl, by kernel_rfl⟩
instance : FnOk Tryz.prog 163 := ⟨_, Tryz.func163, by kernel_rfl, by kernel_rfl⟩
theorem mixed : Tryz.prog.follows .mixedOrders = true := by kernel_rfl
end Go.Proofs.YtkccjglmnhgabaaGreatDoor

/- Numbers in groups: long division, plain. Fractions: how long they are. Plain. The symbolic heap, continued: drawn regions whose reads come ahead of all but the first few effects. The symbolic heap, continued: parts of what is read, xor. -/
import Derived.Test.YtjbhdfpjnjedhaaGreatZpae
set_option linter.unusedSimpArgs false
set_option linter.unusedVariables false
set_option maxRecDepth 100000
set_option maxHeartbeats 4000000
namespace Go.Proofs.YtjbhdfpjnjedhaaGreat
open Go Go.Fx
theorem jJ (l : List Int) (i j : Nat) : (l.drop i).getD j 0 = l.getD (i + j) 0 := by
 simp [List.getD, List.getElem?_drop]
theorem mJ {a b c : Int} (hc : 0 < c) (h : a * c < b * c) : a < b := by
 by_cases hh : b ≤ a
 ·have := Int.mul_le_mul_of_nonneg_right hh (Int.le_of_lt hc); omega
 ·omega
theorem tH {l : List Int} {k : Nat} (hd : Dig l) (h : val l < 1000000000 ^ (k + 1)) : val l = val (l.take k) + 1000000000 ^ k * l.getD k 0 := by
 have e := cB l k
 by_cases hl : k + 1 ≤ l.length
 ·have e2 := kE l (k + 1) hl
  have h3 := bX (hd.take (k + 1))
  have h5 := bX (hd.drop (k + 1))
  by_cases h0 : val (l.drop (k + 1)) = 0
  ·rw [h0] at e2
   omega
  ·have : 1000000000 ^ (k + 1) * 1 ≤ 1000000000 ^ (k + 1) * val (l.drop (k + 1)) := Int.mul_le_mul_of_nonneg_left (by omega) (Int.le_of_lt (jH _))
   omega
 ·rw [List.take_of_length_le (show l.length ≤ k + 1 by omega)] at e
  exact e
section
variable {T V t1 t0 t2 v1 v0 P g r : Int}
structure Knu (T V P t2 t1 t0 v1 v0 : Int) : Prop where
 hP : 1 ≤ P
 ht : (t2 * 1000000000 * 1000000000 + t1 * 1000000000 + t0) * P ≤ T ∧ T < (t2 * 1000000000 * 1000000000 + t1 * 1000000000 + t0 + 1) * P
 hv : (v1 * 1000000000 + v0) * P ≤ V ∧ V < (v1 * 1000000000 + v0 + 1) * P
 d2 : 0 ≤ t2 ∧ t2 < 1000000000
 d1 : 0 ≤ t1 ∧ t1 < 1000000000
 d0 : 0 ≤ t0 ∧ t0 < 1000000000
 e1 : 1 ≤ v1 ∧ v1 < 1000000000
 e0 : 0 ≤ v0 ∧ v0 < 1000000000
 lt : T < 1000000000 * V
 T0 : 0 ≤ T
theorem Knu.V0 (h : Knu T V P t2 t1 t0 v1 v0) : 1000000000 * P ≤ V := by
 have : 1000000000 * P ≤ (v1 * 1000000000 + v0) * P := Int.mul_le_mul_of_nonneg_right (by have := h.e1; have := h.e0; omega) (by have := h.hP; omega)
 have := h.hv
 omega
theorem Knu.T2 (h : Knu T V P t2 t1 t0 v1 v0) : t2 * 1000000000 + t1 < 1000000000 * (v1 + 1) := by
 have hP := h.hP
 have h1 := h.ht.1
 have h2 := h.hv.2
 have h3 := h.lt
 have e0 := h.e0
 have d0 := h.d0
 have d1 := h.d1
 have : (t2 * 1000000000 * 1000000000 + t1 * 1000000000 + t0) * P < (1000000000 * (v1 * 1000000000 + v0 + 1)) * P := by
  have e : (1000000000 * (v1 * 1000000000 + v0 + 1)) * P = 1000000000 * ((v1 * 1000000000 + v0 + 1) * P) := Int.mul_assoc _ _ _
  omega
 have := mJ (by omega) this
 omega
def GeQ (T V g : Int) : Prop := T < (g + 1) * V
theorem Knu.start (h : Knu T V P t2 t1 t0 v1 v0) (hg : g * v1 + r = t2 * 1000000000 + t1) (hr : r < v1) : GeQ T V g := by
 have hP := h.hP
 have h1 := h.ht.2
 have h2 := h.hv.1
 have e0 := h.e0
 have e1 := h.e1
 have d0 := h.d0
 have d1 := h.d1
 have d2 := h.d2
 have hg0 : 0 ≤ g + 1 := by
  by_cases c : 0 ≤ g + 1
  ·exact c
  ·have : (g + 1) * v1 ≤ (-1) * v1 := Int.mul_le_mul_of_nonneg_right (by omega) (by omega)
   rw [Int.add_mul] at this
   omega
 have k1 : (g + 1) * ((v1 * 1000000000 + v0) * P) ≤ (g + 1) * V := Int.mul_le_mul_of_nonneg_left h2 hg0
 have k2 : (t2 * 1000000000 * 1000000000 + t1 * 1000000000 + t0 + 1) * P ≤ ((g + 1) * (v1 * 1000000000 + v0)) * P := by
  refine Int.mul_le_mul_of_nonneg_right ?_ (by omega)
  have k3 : 0 ≤ (g + 1) * v0 := Int.mul_nonneg hg0 e0.1
  have k4 : (g + 1) * (v1 * 1000000000 + v0) = (g * v1) * 1000000000 + v1 * 1000000000 + (g + 1) * v0 := by grind
  omega
 unfold GeQ
 have k5 : ((g + 1) * (v1 * 1000000000 + v0)) * P = (g + 1) * ((v1 * 1000000000 + v0) * P) := Int.mul_assoc _ _ _
 omega
theorem Knu.less (h : Knu T V P t2 t1 t0 v1 v0) (hg : g * v1 + r = t2 * 1000000000 + t1) (hq : GeQ T V g) (hc : 1000000000 ≤ g ∨ r * 1000000000 + t0 < g * v0) : GeQ T V (g - 1) := by
 have hP := h.hP
 have e0 := h.e0
 unfold GeQ
 have e : g - 1 + 1 = g := by omega
 rw [e]
 rcases hc with hc | hc
 ·have hV := h.V0
  have : 1000000000 * V ≤ g * V := Int.mul_le_mul_of_nonneg_right hc (by omega)
  have := h.lt
  omega
 ·have hg0 : 0 ≤ g := by
   by_cases c : 0 ≤ g
   ·exact c
   ·exfalso
    have hV := h.V0
    have : (g + 1) * V ≤ 0 * V := Int.mul_le_mul_of_nonneg_right (by omega) (by omega)
    have := h.T0
    unfold GeQ at hq
    omega
  have k1 : g * ((v1 * 1000000000 + v0) * P) ≤ g * V := Int.mul_le_mul_of_nonneg_left h.hv.1 hg0
  have k2 : (t2 * 1000000000 * 1000000000 + t1 * 1000000000 + t0 + 1) * P ≤ (g * (v1 * 1000000000 + v0)) * P := by
   refine Int.mul_le_mul_of_nonneg_right ?_ (by omega)
   have k4 : g * (v1 * 1000000000 + v0) = (g * v1) * 1000000000 + g * v0 := by grind
   omega
  have k5 : (g * (v1 * 1000000000 + v0)) * P = g * ((v1 * 1000000000 + v0) * P) := Int.mul_assoc _ _ _
  have := h.ht.2
  omega
theorem Knu.done (h : Knu T V P t2 t1 t0 v1 v0) (hg : g * v1 + r = t2 * 1000000000 + t1) (hg0 : 0 ≤ g) (hgB : g < 1000000000) (hc : 1000000000 ≤ r ∨ g * v0 ≤ r * 1000000000 + t0) : g * V ≤ T + V := by
 have hP := h.hP
 have e0 := h.e0
 have d0 := h.d0
 have k1 : g * V ≤ g * ((v1 * 1000000000 + v0 + 1) * P) := Int.mul_le_mul_of_nonneg_left (by have := h.hv.2; omega) hg0
 have k5 : g * ((v1 * 1000000000 + v0 + 1) * P) = (g * (v1 * 1000000000 + v0) + g) * P := by grind
 have k4 : g * (v1 * 1000000000 + v0) = (g * v1) * 1000000000 + g * v0 := by grind
 have k6 : g * v0 ≤ g * 999999999 := Int.mul_le_mul_of_nonneg_left (by omega) hg0
 have k7 : (g * (v1 * 1000000000 + v0) + g) * P ≤ (t2 * 1000000000 * 1000000000 + t1 * 1000000000 + t0 + 1000000000) * P := by
  refine Int.mul_le_mul_of_nonneg_right ?_ (by omega)
  rcases hc with hc | hc <;> omega
 have k8 : (t2 * 1000000000 * 1000000000 + t1 * 1000000000 + t0 + 1000000000) * P = (t2 * 1000000000 * 1000000000 + t1 * 1000000000 + t0) * P + 1000000000 * P := Int.add_mul _ _ _
 have := h.V0
 have := h.ht.1
 omega
end
theorem aVT {u v : List Int} {n : Nat} (hu : Dig u) (hv : Dig v) (hn : 2 ≤ n) (hl : v.length = n) (htop : 1 ≤ v.getD (n - 1) 0) (hlt : val u < 1000000000 * val v) :
  Knu (val u) (val v) (1000000000 ^ (n - 2)) (u.getD n 0) (u.getD (n - 1) 0) (u.getD (n - 2) 0) (v.getD (n - 1) 0) (v.getD (n - 2) 0) := by
 obtain ⟨k, rfl⟩ : ∃ k, n = k + 2 := ⟨n - 2, by omega⟩
 simp only [show k + 2 - 1 = k + 1 from rfl, show k + 2 - 2 = k from rfl] at *
 have hvlt := jY hv
 rw [hl] at hvlt
 have e3 := tH (k := k + 2) hu (by rw [Int.pow_succ]; omega)
 have e4 := tH (k := k + 1) hv (by omega)
 rw [cB, cB] at e3
 rw [cB] at e4
 have p := jH k
 have l1 := iM hu k
 have l2 := iM hv k
 have m1 := bX (hu.take k)
 have m2 := bX (hv.take k)
 have q1 : (1000000000 : Int) ^ (k + 1) = 1000000000 ^ k * 1000000000 := Int.pow_succ _ _
 have q2 : (1000000000 : Int) ^ (k + 2) = 1000000000 ^ k * 1000000000 * 1000000000 := by rw [Int.pow_succ, Int.pow_succ]
 rw [q1, q2] at e3
 rw [q1] at e4
 refine ⟨by omega, ?_, ?_, hu.getD _, hu.getD _, hu.getD _, ⟨htop, (hv.getD _).2⟩, hv.getD _, hlt, bX hu⟩
 ·generalize (1000000000 : Int) ^ k = A at *
  generalize u.getD (k + 2) 0 = a at *
  generalize u.getD (k + 1) 0 = b at *
  generalize u.getD k 0 = c at *
  have : val u = val (u.take k) + (a * 1000000000 * 1000000000 + b * 1000000000 + c) * A := by rw [e3]; grind
  constructor
  ·omega
  ·rw [Int.add_mul]; omega
 ·generalize (1000000000 : Int) ^ k = A at *
  generalize v.getD (k + 1) 0 = b at *
  generalize v.getD k 0 = c at *
  have : val v = val (v.take k) + (b * 1000000000 + c) * A := by rw [e4]; grind
  constructor
  ·omega
  ·rw [Int.add_mul]; omega
theorem aMC {o U v : List Int} {j i : Nat} {g b c d d' b' : Int} (hv : val ((o.drop j).take i) + g * val (v.take i) = val ((U.drop j).take i) + 1000000000 ^ i * (b + c)) (hi : j + i < o.length) (hs : (o.drop (j + i)) = U.drop (j + i)) (hd : d = U.getD (j + i) 0 - b - (g * v.getD i 0 + c) % 1000000000) (he : d' = d + 1000000000 * b') :
  val (((o.set (j + i) d').drop j).take (i + 1)) + g * val (v.take (i + 1)) = val ((U.drop j).take (i + 1)) + 1000000000 ^ (i + 1) * (b' + (g * v.getD i 0 + c) / 1000000000) ∧ (o.set (j + i) d').drop (j + (i + 1)) = U.drop (j + (i + 1)) := by
 constructor
 ·have e1 : (o.set (j + i) d').drop j = (o.drop j).set i d' := by
   rw [List.drop_set]
   rw [if_neg (by omega)]
   congr 1
   omega
  have hl : i < (o.drop j).length := by simp; omega
  rw [e1, jC _ i d' hl, val_append, cB, cB (U.drop j), jJ]
  simp only [List.length_take, Nat.min_eq_left (Nat.le_of_lt hl), val, Int.pow_succ]
  have e2 : g * v.getD i 0 + c = (g * v.getD i 0 + c) % 1000000000 + 1000000000 * ((g * v.getD i 0 + c) / 1000000000) := by omega
  generalize (g * v.getD i 0 + c) % 1000000000 = s at *
  generalize (g * v.getD i 0 + c) / 1000000000 = t at *
  generalize (1000000000 : Int) ^ i = A at *
  generalize v.getD i 0 = x at *
  generalize U.getD (j + i) 0 = y at *
  generalize val ((o.drop j).take i) = z at *
  generalize val ((U.drop j).take i) = z2 at *
  generalize val (v.take i) = z3 at *
  clear e1 hl hs hi
  subst hd he
  grind
 ·have e : ((o.set (j + i) d').drop (j + (i + 1))) = o.drop (j + i + 1) := by
   rw [← Nat.add_assoc, List.drop_set, if_pos (by omega)]
  rw [e, ← Nat.add_assoc]
  have h1 : o.drop (j + i + 1) = (o.drop (j + i)).drop 1 := by rw [List.drop_drop]
  have h2 : U.drop (j + i + 1) = (U.drop (j + i)).drop 1 := by rw [List.drop_drop]
  rw [h1, h2, hs]
end Go.Proofs.YtjbhdfpjnjedhaaGreat
namespace Go.Proofs.YtjbhdfpjnjedhaaGreat
open Go Go.Fx
def Ht (k : Nat) (q : Rat) : Prop := q.num.natAbs ≤ 2 ^ k ∧ q.den ≤ 2 ^ k
instance (k : Nat) (q : Rat) : Decidable (Ht k q) := by unfold Ht; exact inferInstance
theorem vQ (p q : Rat) : p + q = Rat.divInt (p.num * q.den + q.num * p.den) (p.den * q.den) := by
 have := Rat.divInt_add_divInt p.num q.num (d₁ := p.den) (d₂ := q.den) (by have := p.den_nz; omega) (by have := q.den_nz; omega)
 rw [Rat.num_divInt_den, Rat.num_divInt_den] at this
 exact this
theorem aBL (p q : Rat) : p * q = Rat.divInt (p.num * q.num) (p.den * q.den) := by
 have := Rat.divInt_mul_divInt p.num q.num (d₁ := p.den) (d₂ := q.den)
 rw [Rat.num_divInt_den, Rat.num_divInt_den] at this
 exact this
theorem aAX (p q : Rat) : p / q = Rat.divInt (p.num * q.den) (p.den * q.num) := by
 rw [Rat.div_def, Rat.inv_def]
 have := Rat.divInt_mul_divInt p.num q.den (d₁ := p.den) (d₂ := q.num)
 rw [Rat.num_divInt_den] at this
 exact this
theorem yI {a b k m : Nat} (ha : a ≤ 2 ^ k) (hb : b ≤ 2 ^ m) : a * b ≤ 2 ^ (k + m) := by
 rw [Nat.pow_add]
 exact Nat.mul_le_mul ha hb
theorem eY {n k : Nat} (h : n ≤ 2 ^ k) : (gr n).length ≤ k / 29 + 1 := by
 refine pK ?_
 have h1 : 2 ^ k < 2 ^ (29 * (k / 29 + 1)) := Nat.pow_lt_pow_right (by omega) (by omega)
 have h2 : (2 : Nat) ^ (29 * (k / 29 + 1)) ≤ 1000000000 ^ (k / 29 + 1) := by
  rw [Nat.pow_mul]
  exact Nat.pow_le_pow_left (by decide) _
 omega
end Go.Proofs.YtjbhdfpjnjedhaaGreat
namespace Go.Fx
def CsJ (J : Nat) (X : List Nat) (w0 : World) (M : List Ent) (I : List aY) : Nat → World → Prop := fun s w => s ≤ J → Mem X w0 M I w
section
variable {P : Program} {n : Nat} {Q Q' : Exit → Act → World → Prop} {G : Env} {X : List Nat} {w0 : World} {M M' M1 : List Ent} {I I' I1 : List aY}
theorem bG {id : Nat} {l : List Oper} (J : Nat) (p ms : List Nat) (hx : P.follows .mixedOrders = true)
  (hp : (Region.noSelect l.toArray && iP l.toArray p ms (Array.replicate l.length false) && p.length == l.length) = true)
  (h : RD P n l Q (.any (CsJ J X w0 M I) 0 ms) (pick l p) G X w0 M I) : TD P n (.region id l.toArray true) Q G X w0 M I :=
 qZ (CsJ J X w0 M I) p ms hx (fun s w h hs => h (by omega)) hp (fun _ h _ => h) h
theorem View.upto {J k : Nat} {ms : List Nat} (h : k + ms.headD 0 ≤ J) : View (.any (CsJ J X w0 M1 I1) k ms) X w0 M I M1 I1 := ⟨fun w w' _ hc => by
 have hc' : CsJ J X w0 M1 I1 (k + ms.headD 0) w' := hc
 exact hc' h⟩
theorem OkD.uptoN {J k : Nat} {ms : List Nat} (h : J ≤ k) : OkD (.any (CsJ J X w0 M1 I1) k ms) X w0 M I := ⟨fun w _ => by
 show CsJ J X w0 M1 I1 (k + 1) w
 intro hs
 omega⟩
theorem OkD.uptoY {J k : Nat} {ms : List Nat} (hM : SubP M M1) (hI : Inc I I1) : OkD (.any (CsJ J X w0 M1 I1) k ms) X w0 M I := ⟨fun w hw => by
 show CsJ J X w0 M1 I1 (k + 1) w
 exact fun _ => hw.weak hM hI⟩
theorem sG {m : Mode} (h : View m X w0 M I M1 I1 := by first | exact View.seq | exact View.any | exact View.one rfl | exact View.upto (by decide)) : View m X w0 M I M1 I1 := h
theorem nO {m : Mode} (h : OkD m X w0 M I := by first | exact OkD.seq | exact OkD.one | exact OkD.any bV bT | exact OkD.uptoN (by decide) | exact OkD.uptoY bV bT) : OkD m X w0 M I := h
/- lending: what a function owns, lent to a callee that only reads -/
theorem Mem.lendB {w : World} {b : Nat} {cs : List Value} {e : TypeId} {I2 : List aY} (hm : .blk b cs e ∈ M) (hw : Mem X w0 M I w) (h : Mem [] w [] I2 w) : Mem [] w [] (aO (some ⟨b, 0, none⟩) cs :: I2) w :=
 h.add (φ := aO (some ⟨b, 0, none⟩) cs) ⟨Blk.sl (X := muts []) (hw.blk hm) (by simp [muts]) 0 (fun j v hj => by simpa using hj)⟩
theorem CD.lend {f : FuncId} {vs : List Value} {K : Value → Prop} (I2 : List aY) (hI : ∀ w, Mem X w0 M I w → Mem [] w [] I2 w) (hc : ∀ W, CD P f vs [] W [] I2 (fun v _ _ => K v)) : CD P f vs X w0 M I (fun v M' I' => M = M' ∧ I = I' ∧ K v) :=
 ⟨fun w hw => ((hc w).go w (hI w hw)).mono (fun _ _ ⟨_, _, hk, hm⟩ => ⟨M, I, ⟨rfl, rfl, hk⟩, hw.call hm.ext⟩)⟩
theorem CD.val {f : FuncId} {vs : List Value} {K : Value → Prop} (h : CD P f vs X w0 M I (fun v M' I' => M = M' ∧ I = I' ∧ K v)) : CD P f vs X w0 M I (fun v _ _ => K v) := h.mono (fun _ _ _ h => h.2.2)
end
end Go.Fx
namespace Go.Fx
section
variable {α : Type} {enc : α → List Value} {sz : Nat}
theorem aDX [h : Sized enc sz] : ∀ (ms : List α) (l : Nat), recs enc (ms.drop l) = (recs enc ms).drop (l * sz)
 | ms, 0 => by simp
 | [], l + 1 => by simp [recs]
 | m :: r, l + 1 => by
  have e : recs enc (m :: r) = enc m ++ recs enc r := rfl
  have h1 : (l + 1) * sz = (enc m).length + l * sz := by rw [h.len, Nat.add_mul]; omega
  rw [List.drop_succ_cons, aDX r l, e, h1, List.drop_append, List.drop_of_length_le (show (enc m).length ≤ (enc m).length + l * sz by omega)]
  simp
theorem aCW [h : Sized enc sz] : ∀ (ms : List α) (l : Nat), recs enc (ms.take l) = (recs enc ms).take (l * sz)
 | ms, 0 => by simp [recs]
 | [], l + 1 => by simp [recs]
 | m :: r, l + 1 => by
  have e : recs enc (m :: r) = enc m ++ recs enc r := rfl
  have e2 : recs enc ((m :: r).take (l + 1)) = enc m ++ recs enc (r.take l) := rfl
  have h1 : (l + 1) * sz = (enc m).length + l * sz := by rw [h.len, Nat.add_mul]; omega
  rw [e2, aCW r l, e, h1, List.take_append, List.take_of_length_le (show (enc m).length ≤ (enc m).length + l * sz by omega)]
  simp
end
section
variable {P : Program} {n : Nat} {Q Q' : Exit → Act → World → Prop} {G : Env} {X : List Nat} {w0 : World} {M M' M1 : List Ent} {I I' I1 : List aY}
theorem Mem.cutI {α : Type} {enc : α → List Value} {sz : Nat} [hz : Sized enc sz] {w : World} {a : Option Addr} {ms : List α} (c l m : Nat) (h : Mem X w0 M I w) (hm : aO a (recs enc ms) ∈ I) (hc : ms.length ≤ c) : Mem X w0 M (aO (yV a c l sz) (recs enc ((ms.take m).drop l)) :: I) w :=
 h.add (φ := aO _ _) ⟨by
  rw [aDX, aCW]
  exact (h.sl hm).cut c l (m * sz) sz (by rw [iL]; exact Nat.mul_le_mul_right _ hc)⟩
theorem aSY {α : Type} {enc : α → List Value} {sz : Nat} [hz : Sized enc sz] {ops l : List Oper} {m : Mode} {a : Option Addr} {ms : List α} (c lo hi : Nat) (hm : aO a (recs enc ms) ∈ I) (hc : ms.length ≤ c) (h : RD P n ops Q m l G X w0 M (aO (yV a c lo sz) (recs enc ((ms.take hi).drop lo)) :: I)) : RD P n ops Q m l G X w0 M I := sW (fun _ hw => hw.cutI c lo hi hm hc) h
theorem uH {C : World → Prop} {ty t e : TypeId} {sz : Nat} {x : Operand} {lo hi : Option Operand} {a : Option Addr} {len c : Nat} (l h k : Nat) [ht : SliceTy P t e sz] (hx : ev G x = some (.slice a len c))
  (hl : (lo = none ∧ l = 0) ∨ ∃ y k i, lo = some y ∧ ev G y = some (.int k i) ∧ i = (l : Int)) (hh : (hi = none ∧ h = len) ∨ ∃ y k i, hi = some y ∧ ev G y = some (.int k i) ∧ i = (h : Int)) (h1 : l ≤ h) (h2 : h ≤ c) (hk : h - l = k) :
  Const P n G (.slice t x lo hi none) ty C (.slice (yV a c l sz) k (c - l)) := by
 subst hk
 exact aFT hx (hl.imp id (fun ⟨y, k, i, h1, h2, h3⟩ => ⟨y, k, h1, by rw [← h3]; exact h2⟩)) (hh.imp id (fun ⟨y, k, i, h1, h2, h3⟩ => ⟨y, k, h1, by rw [← h3]; exact h2⟩)) h1 h2
theorem aLJ {ex : Exit} {a : Option Addr} {mm c : Nat} {cs : List Value} {e : TypeId} {sz : Nat} (h0 : a = none → mm = 0 → cs = [] → ND n Q ex G X w0 (.row a mm c cs e sz :: M) I) (h1 : ∀ b tl, a = some ⟨b, 0, none⟩ → mm ≤ c → ND n Q ex G X w0 (.blk b (cs ++ tl) e :: M) I) : ND n Q ex G X w0 (.row a mm c cs e sz :: M) I :=
 ⟨fun w hw => by
  rcases hw.rowBlk with ⟨e1, e2, e3⟩ | ⟨b, tl, e1, e2, hm⟩
  ·exact (h0 e1 e2 e3).go w hw
  ·exact (h1 b tl e1 e2).go w hm⟩
theorem aUM {ex : Exit} (e : TypeId) (sz : Nat) (h : ND n Q ex G X w0 (.row none 0 0 [] e sz :: M) I) : ND n Q ex G X w0 M I := yY (fun _ hw => hw.row0 e sz) h
theorem jI {ops l : List Oper} {m : Mode} {b mm : Nat} {cs : List Value} {e : TypeId} (sz : Nat) (hr : Rep (.blk b cs e) (.row (some ⟨b, 0, none⟩) mm mm cs e sz) M M') (hl : cs.length = mm * sz) (hm : mm ≤ 9223372036854775807) (h : RD P n ops Q m l G X w0 M' I) : RD P n ops Q m l G X w0 M I := sW (fun _ hw => hw.toRow sz hr hl hm) h
theorem CD.post {f : FuncId} {vs : List Value} {K K' : Value → List Ent → List aY → Prop} (h : CD P f vs X w0 M I K) (hk : ∀ v M1 I1 w, K v M1 I1 → Mem X w0 M1 I1 w → ∃ M2 I2, K' v M2 I2 ∧ Mem X w0 M2 I2 w) : CD P f vs X w0 M I K' :=
 ⟨fun w hw => (h.go w hw).mono (fun _ _ ⟨_, _, h1, h2⟩ => hk _ _ _ _ h1 h2)⟩
theorem CD.pre {f : FuncId} {vs : List Value} {K : Value → List Ent → List aY → Prop} (hM : ∀ w, Mem X w0 M I w → Mem X w0 M' I' w) (h : CD P f vs X w0 M' I' K) : CD P f vs X w0 M I K := ⟨fun w hw => h.go w (hM w hw)⟩
/- two operations that change the world, in either order -/
theorem dW {C : World → Prop} {ty t t' : TypeId} {x y : Operand} {p q : Prop} [Decidable p] [Decidable q] [ht : BoolTy P t] (hx : ev G x = some (.bool (B p))) (hy : ev G y = some (.bool (B q))) :
  Const P n G (.binOp .neq t x y t') ty C (.bool (B (¬ (p ↔ q)))) := by
 refine ⟨?_⟩
 intro s ha dst pos after guard w _
 have h : (!(B p == B q)) = B (¬ (p ↔ q)) := by
  rw [qJ, qJ, qJ]
  by_cases hp : p <;> by_cases hq : q <;> simp [hp, hq]
 have e1 : (eqGuard .neq t x y (.bool (B p)) (.bool (B q))).run P w = .ok () w := rfl
 simp only [execOp, ha.ev hx, ha.ev hy, Sem.run_bind, e1, Result.andThen_ok, run_neq_bool _ t (B p) (B q) ht.und, Sem.run_pure, h]
theorem Mem.rowLe {w : World} {a : Option Addr} {m c : Nat} {cs : List Value} {e : TypeId} {sz : Nat} (h : Mem X w0 M I w) (hm : .row a m c cs e sz ∈ M) : m ≤ c := by
 have ho : w.ownsRow 0 e sz (.slice a m c) m cs := h.ent _ hm
 obtain ⟨a', c', hv, _, _, hle⟩ := aAV ho
 injection hv with e1 e2 e3
 subst e3
 exact hle
end
end Go.Fx

/- integer: long division, plain -/
import Derived.Test.YtkccjglmnhgabaaGreatDoorZqan
import Derived.Test.YtkccjglmnhgabaaGreatDoorZqak
set_option linter.unusedSimpArgs false
set_option linter.unusedVariables false
set_option maxRecDepth 100000
set_option maxHeartbeats 4000000
namespace Go.Proofs.YtkccjglmnhgabaaGreatDoor
open Go Go.Fx
theorem tY {f : Nat} (h0 : 0 < f) (h : f < 1000000000) : gr f = [(f : Int)] := by
 rw [sW (by omega), Nat.mod_eq_of_lt h, Nat.div_eq_of_lt h, iC]
theorem aFX {bt : Nat} (h : 1 ≤ bt ∧ bt < 1000000000) : ∃ f : Nat, 0 < f ∧ f < 1000000000 ∧ (1000000000 : Int).tdiv ((bt : Int) + 1) = (f : Int) :=
 ⟨1000000000 / (bt + 1), Nat.div_pos (by omega) (by omega), Nat.lt_of_le_of_lt (Nat.div_le_div_left (show 2 ≤ bt + 1 by omega) (by decide)) (by decide), by
  rw [Int.tdiv_eq_ediv_of_nonneg (by decide), Int.natCast_ediv]
  rfl⟩
theorem qZ {m f : Nat} (h0 : 0 < f) (h : f < 1000000000) : (gr m).length ≤ (gr (m * f)).length ∧ (gr (m * f)).length ≤ (gr m).length + 1 := by
 refine ⟨iF (Nat.le_mul_of_pos_right _ h0), pG ?_⟩
 have h1 := jV (cO m)
 rw [dG] at h1
 have h2 : m < 1000000000 ^ (gr m).length := Int.ofNat_lt.1 (by rw [Int.natCast_pow]; exact h1)
 rw [Nat.pow_succ]
 exact Nat.lt_of_le_of_lt (Nat.mul_le_mul_left m (Nat.le_of_lt h)) (Nat.mul_lt_mul_of_pos_right h2 (by decide))
theorem _root_.Go.Fx.Mem.lendBT {X : List Nat} {w0 w : World} {M : List Ent} {I I2 : List bB} {b : Nat} {cs tl : List Value} {e : TypeId} (hm : .blk b (cs ++ tl) e ∈ M) (hw : Mem X w0 M I w) (h : Mem [] w [] I2 w) : Mem [] w [] (aW (some ⟨b, 0, none⟩) cs :: I2) w :=
 h.add (φ := aW (some ⟨b, 0, none⟩) cs) ⟨Blk.sl (X := muts []) (hw.blk hm) (by simp [muts]) 0 (fun j v hj => by rw [Nat.zero_add, List.getElem?_append_left (List.getElem?_eq_some_iff.1 hj).1]; exact hj)⟩
theorem aMX {u v : List Int} (hv : Can v) (hn : 2 ≤ v.length) (hu : Dig u) (hl : v.length ≤ u.length) : val ((u ++ [0]).drop (u.length + 1 - v.length)) < val v := by
 rw [List.drop_append_of_le_length (by omega), val_append]
 have h1 := jV (hu.drop (u.length + 1 - v.length))
 have h2 := yG hv (by omega)
 have e : (u.drop (u.length + 1 - v.length)).length = v.length - 1 := by simp; omega
 rw [e] at h1
 simp only [val]
 omega
theorem aQX {u v : List Int} {j : Nat} (dU : Dig u) (hv : Can v) (hn : 2 ≤ v.length) (hlt : val (u.drop (j + 1)) < val v) (hj : j < u.length) :
  Knu (val (u.drop j)) (val v) (1000000000 ^ (v.length - 2)) (gt u ((j : Int) + (v.length : Int))) (gt u ((j : Int) + (v.length : Int) - 1)) (gt u ((j : Int) + (v.length : Int) - 2)) (gt v ((v.length : Int) - 1)) (gt v ((v.length : Int) - 2)) := by
 have h1 : val (u.drop j) < 1000000000 * val v := by
  rw [qR u j hj]
  have := dU.getD j
  omega
 have htop : 1 ≤ v.getD (v.length - 1) 0 := by
  have h := hv.2
  have hd := hv.1.getD (v.length - 1)
  unfold Top at h
  rw [zF (by omega), show (v.length : Int) - 1 = ((v.length - 1 : Nat) : Int) by omega, uU] at h
  omega
 have := aUT (u := u.drop j) (v := v) (n := v.length) (dU.drop j) hv.1 hn rfl htop h1
 rw [jH, jH, jH] at this
 rw [show (j : Int) + (v.length : Int) = ((j + v.length : Nat) : Int) by omega, show ((j + v.length : Nat) : Int) - 1 = ((j + (v.length - 1) : Nat) : Int) by omega, show ((j + v.length : Nat) : Int) - 2 = ((j + (v.length - 2) : Nat) : Int) by omega,
  show (v.length : Int) - 1 = ((v.length - 1 : Nat) : Int) by omega, show (v.length : Int) - 2 = ((v.length - 2 : Nat) : Int) by omega, uU, uU, uU, uU, uU]
 exact this
theorem knu_g {T V P t2 t1 t0 v1 v0 g r : Int} (h : Knu T V P t2 t1 t0 v1 v0) (hg : g * v1 + r = t2 * 1000000000 + t1) (hr : 0 ≤ r) (hg0 : 0 ≤ g) : g < 2000000000 := by
 have h2 := h.T2
 have h1 := h.e1
 rcases Int.lt_or_le g 2000000000 with h3 | h3
 ·exact h3
 ·have : 2000000000 * v1 ≤ g * v1 := Int.mul_le_mul_of_nonneg_right h3 (by omega)
  omega
theorem aVL {T V P t2 t1 t0 v1 v0 g r : Int} (h : Knu T V P t2 t1 t0 v1 v0) (hg : g * v1 + r = t2 * 1000000000 + t1) (hr : 1000000000 ≤ r) : g < 1000000000 := by
 have h2 := h.T2
 have h1 := h.e1
 rcases Int.lt_or_le g 1000000000 with h3 | h3
 ·exact h3
 ·have : 1000000000 * v1 ≤ g * v1 := Int.mul_le_mul_of_nonneg_right h3 (by omega)
  omega
theorem aPH {u o v : List Int} {j : Nat} {g b c : Int} (dU : Dig u) (dO : Dig o) (hv : Can v) (hN : 2 ≤ v.length) (hj : j + v.length < u.length) (hol : o.length = u.length) (hT1 : val (u.drop (j + 1)) < val v) (h : val ((o.drop j).take v.length) + g * val v = val ((u.drop j).take v.length) + 1000000000 ^ v.length * (b + c)) (hd : o.drop (j + v.length) = u.drop (j + v.length)) (hgq : val (u.drop j) < (g + 1) * val v) (hgd : g * val v ≤ val (u.drop j) + val v) :
  (gt o ((j : Int) + (v.length : Int)) - b - c = 0 ∨ (gt o ((j : Int) + (v.length : Int)) - b - c = -1 ∧ g ≠ 0)) ∧ (val (u.drop j) - g * val v = val ((o.drop j).take v.length) + 1000000000 ^ v.length * (gt o ((j : Int) + (v.length : Int)) - b - c)) ∧ (∀ y, val ((o.set (j + v.length) y).drop j) = val ((o.drop j).take v.length) + 1000000000 ^ v.length * y) := by
 have hvl := jV hv.1
 have hv1 : 1 ≤ val v := by
  have := yG hv (by omega)
  have := jI (v.length - 1)
  omega
 rw [xV]
 have hA := jI v.length
 have e0 := kM (u.drop j) v.length (by simp; omega)
 have e1 := qR u (j + v.length) hj
 have e2 := kM (u.drop (j + 1)) v.length (by simp; omega)
 have e3 := kM (o.drop j) v.length (by simp; omega)
 rw [List.drop_drop] at e0 e2 e3
 rw [show j + 1 + v.length = j + v.length + 1 by omega] at e2
 have n1 := cZ ((dU.drop (j + 1)).take v.length)
 have n2 := cZ (dU.drop (j + v.length + 1))
 have n3 := cZ ((dO.drop j).take v.length)
 have n4 := iM (dO.drop j) v.length
 have n5 := cZ (dU.drop j)
 have hH : val (u.drop (j + v.length + 1)) = 0 := by
  have : val (u.drop (j + v.length + 1)) < 1 := lY hA (by
   rw [Int.mul_comm, Int.one_mul]
   omega)
  omega
 have hget : o.getD (j + v.length) 0 = u.getD (j + v.length) 0 := by
  have := congrArg (fun l => l.getD 0 0) hd
  simpa only [jH, Nat.add_zero] using this
 rw [hget]
 rw [hd] at e3
 rw [hH] at e1
 have hset : ∀ y, (o.set (j + v.length) y).drop j = (o.drop j).set v.length y := fun y => by
  rw [List.drop_set, if_neg (by omega)]
  congr 1
  omega
 have hgo : (o.drop j).getD v.length 0 = u.getD (j + v.length) 0 := by rw [jH, hget]
 have hvs : ∀ y, val ((o.set (j + v.length) y).drop j) = val (o.drop j) + 1000000000 ^ v.length * (y - u.getD (j + v.length) 0) := fun y => by rw [hset, zO _ _ _ (by simp; omega), hgo]
 generalize (1000000000 : Int) ^ v.length = A at *
 generalize hud : u.getD (j + v.length) 0 = ud at *
 have hD : val (u.drop j) - g * val v = val ((o.drop j).take v.length) + A * (ud - b - c) := by
  have k1 : A * (ud - b - c) = A * ud - A * (b + c) := by grind
  have k2 : A * val (u.drop (j + v.length)) = A * ud := by rw [e1]; grind
  omega
 have k3 : (g + 1) * val v = g * val v + val v := by rw [Int.add_mul, Int.one_mul]
 refine ⟨?_, hD, fun y => ?_⟩
 ·have x1 : ud - b - c < 1 := lY hA (by rw [Int.mul_comm, Int.one_mul]; omega)
  have x2 : -2 < ud - b - c := lY hA (by rw [Int.mul_comm (ud - b - c)]; omega)
  by_cases hx : ud - b - c = 0
  ·exact .inl hx
  ·refine .inr ⟨by omega, ?_⟩
   rintro rfl
   have hm1 : ud - b - c = -1 := by omega
   rw [hm1] at hD
   simp at hD
   omega
 ·rw [hvs]
  have k2 : A * val (u.drop (j + v.length)) = A * ud := by rw [e1]; grind
  have k4 : A * (y - ud) = A * y - A * ud := Int.mul_sub _ _ _
  omega
theorem aNI {n : Nat} (hn : 1 ≤ (gr n).length) : ∃ bt : Nat, gt (gr n) (((gr n).length : Int) - 1) = (bt : Int) ∧ 1 ≤ bt ∧ bt < 1000000000 := by
 have hbt := (cO n).gt (((gr n).length : Int) - 1)
 have htop := aBC n
 unfold Top at htop
 rw [zF (by omega)] at htop
 exact ⟨(gt (gr n) (((gr n).length : Int) - 1)).toNat, by omega, by omega, by omega⟩
theorem aCU {o u v : List Int} {j i : Nat} {g b c b2 y : Int} (dO : Dig o) (hvl : val ((o.drop j).take i) + g * val (v.take i) = val ((u.drop j).take i) + 1000000000 ^ i * (b + c)) (hij : j + i < o.length) (htk : o.take j = u.take j) (hdr : o.drop (j + i) = u.drop (j + i))
  (hy : y = gt o ((i : Int) + (j : Int)) - b - (g * gt v i + c) % 1000000000 + 1000000000 * b2) (hyr : 0 ≤ y ∧ y < 1000000000) :
  Dig (st o ((i : Int) + (j : Int)) y) ∧ (st o ((i : Int) + (j : Int)) y).take j = u.take j ∧ (st o ((i : Int) + (j : Int)) y).drop (j + (i + 1)) = u.drop (j + (i + 1)) ∧ val (((st o ((i : Int) + (j : Int)) y).drop j).take (i + 1)) + g * val (v.take (i + 1)) = val ((u.drop j).take (i + 1)) + 1000000000 ^ (i + 1) * (b2 + (g * gt v i + c) / 1000000000) := by
 have hget : o.getD (j + i) 0 = u.getD (j + i) 0 := by
  have := congrArg (fun l => l.getD 0 0) hdr
  simpa only [jH, Nat.add_zero] using this
 rw [xV, uU, Nat.add_comm i j, hget] at hy
 have hm := aMV (o := o) (U := u) (v := v) (d' := y) (b' := b2) hvl hij hdr rfl hy
 rw [iI, Nat.add_comm i j, uU]
 refine ⟨dO.set _ hyr, ?_, hm.2, hm.1⟩
 rw [List.take_set_of_le (by omega)]
 exact htk
theorem aCK {u o qs v u0 : List Int} {j : Nat} {g : Int} (hval : val u + 1000000000 ^ (j + 1) * (val v * val (qs.drop (j + 1))) = val u0) (hj : j < u.length) (hjo : j < o.length) (hjq : j < qs.length) (htk : o.take j = u.take j) (hD : val (o.drop j) = val (u.drop j) - g * val v) :
  val o + 1000000000 ^ j * (val v * val ((st qs (j : Int) g).drop j)) = val u0 := by
 have e1 := kM o j (by omega)
 have e2 := kM u j (by omega)
 rw [htk] at e1
 rw [pV, drop_set _ _ _ hjq]
 simp only [val, Int.pow_succ] at hval ⊢
 rw [hD] at e1
 generalize (1000000000 : Int) ^ j = A at *
 grind
theorem aFK {o2 o1 v u : List Int} {j i : Nat} {c2 c3 y : Int} (dO : Dig o2) (hv : val ((o2.drop j).take i) + 1000000000 ^ i * c2 = val ((o1.drop j).take i) + val (v.take i)) (hij : j + i < o2.length) (htk : o2.take j = u.take j) (hdr : o2.drop (j + i) = o1.drop (j + i))
  (hy : y = gt o2 ((i : Int) + (j : Int)) + gt v i + c2 - 1000000000 * c3) (hyr : 0 ≤ y ∧ y < 1000000000) :
  Dig (st o2 ((i : Int) + (j : Int)) y) ∧ (st o2 ((i : Int) + (j : Int)) y).take j = u.take j ∧ (st o2 ((i : Int) + (j : Int)) y).drop (j + (i + 1)) = o1.drop (j + (i + 1)) ∧ val (((st o2 ((i : Int) + (j : Int)) y).drop j).take (i + 1)) + 1000000000 ^ (i + 1) * c3 = val ((o1.drop j).take (i + 1)) + val (v.take (i + 1)) := by
 have hget : o2.getD (j + i) 0 = o1.getD (j + i) 0 := by
  have := congrArg (fun l => l.getD 0 0) hdr
  simpa only [jH, Nat.add_zero] using this
 rw [xV, uU, Nat.add_comm i j, hget] at hy
 rw [iI, Nat.add_comm i j]
 have e1 : (o2.set (j + i) y).drop j = (o2.drop j).set i y := by
  rw [List.drop_set, if_neg (by omega)]
  congr 1
  omega
 have hl : i < (o2.drop j).length := by simp; omega
 refine ⟨dO.set _ hyr, by rw [List.take_set_of_le (by omega)]; exact htk, ?_, ?_⟩
 ·have e : ((o2.set (j + i) y).drop (j + (i + 1))) = o2.drop (j + i + 1) := by
   rw [← Nat.add_assoc, List.drop_set, if_pos (by omega)]
  rw [e, ← Nat.add_assoc]
  have h1 : o2.drop (j + i + 1) = (o2.drop (j + i)).drop 1 := by rw [List.drop_drop]
  have h2 : o1.drop (j + i + 1) = (o1.drop (j + i)).drop 1 := by rw [List.drop_drop]
  rw [h1, h2, hdr]
 ·rw [e1, jA _ i y hl, val_append, dB (o1.drop j), dB v, jH]
  simp only [List.length_take, Nat.min_eq_left (Nat.le_of_lt hl), val, Int.pow_succ]
  generalize (1000000000 : Int) ^ i = A at *
  generalize v.getD i 0 = x at *
  generalize o1.getD (j + i) 0 = z at *
  generalize val ((o2.drop j).take i) = z1 at *
  generalize val ((o1.drop j).take i) = z2 at *
  generalize val (v.take i) = z3 at *
  clear e1 hl hdr hij
  subst hy
  grind
theorem aLQ {o o1 o2 v : List Int} {j : Nat} {c2 T g : Int} (dO : Dig o) (dO2 : Dig o2) (hv : Can v) (hj : j + v.length < o2.length) (hol : o.length = o2.length) (h1 : o1 = o.set (j + v.length) 999999999)
  (h : val ((o2.drop j).take v.length) + 1000000000 ^ v.length * c2 = val ((o1.drop j).take v.length) + val v) (hc : 0 ≤ c2 ∧ c2 ≤ 1) (hdr : o2.drop (j + v.length) = o1.drop (j + v.length))
  (hD : T - g * val v = val ((o.drop j).take v.length) + 1000000000 ^ v.length * (-1)) (hset : ∀ y, val ((o.set (j + v.length) y).drop j) = val ((o.drop j).take v.length) + 1000000000 ^ v.length * y) (hhi : g * val v ≤ T + val v) :
  c2 = 1 ∧ gt o2 ((j : Int) + (v.length : Int)) = 999999999 ∧ val ((o2.set (j + v.length) 0).drop j) = T - (g - 1) * val v ∧ T - (g - 1) * val v < val v ∧ 0 ≤ T - (g - 1) * val v := by
 have hA := jI v.length
 have n4 := iM (dO2.drop j) v.length
 have n3 := cZ ((dO2.drop j).take v.length)
 have n5 := iM (dO.drop j) v.length
 have kg : (g - 1) * val v = g * val v - val v := by rw [Int.sub_mul, Int.one_mul]
 have e1 : (o1.drop j).take v.length = (o.drop j).take v.length := by
  rw [h1, List.drop_set, if_neg (by omega), show j + v.length - j = v.length by omega, List.take_set_of_le (Nat.le_refl _)]
 have hget : o2.getD (j + v.length) 0 = o1.getD (j + v.length) 0 := by
  have := congrArg (fun l => l.getD 0 0) hdr
  simpa only [jH, Nat.add_zero] using this
 have hg1 : o1.getD (j + v.length) 0 = 999999999 := by
  rw [h1]
  simp [List.getD, List.getElem?_set_self (show j + v.length < o.length by omega)]
 have e2 := kM (o2.drop j) v.length (by simp; omega)
 have e3 := kM (o1.drop j) v.length (by rw [h1]; simp; omega)
 rw [List.drop_drop] at e2 e3
 have e4 := hset 999999999
 rw [← h1] at e4
 have hvs : val ((o2.set (j + v.length) 0).drop j) = val (o2.drop j) + 1000000000 ^ v.length * (0 - 999999999) := by
  have hs : (o2.set (j + v.length) 0).drop j = (o2.drop j).set v.length 0 := by
   rw [List.drop_set, if_neg (by omega), show j + v.length - j = v.length by omega]
  have hgo : (o2.drop j).getD v.length 0 = 999999999 := by rw [jH, hget, hg1]
  rw [hs, zO _ _ _ (by simp; omega), hgo]
 rw [e1] at h e3
 rw [hdr] at e2
 rw [xV, hget, hg1]
 generalize (1000000000 : Int) ^ v.length = A at *
 have hc1 : c2 = 1 := by
  rcases Int.lt_or_le c2 1 with hlt | hge
  ·have : c2 = 0 := by omega
   subst this
   omega
  ·omega
 subst hc1
 exact ⟨rfl, rfl, by omega, by omega, by omega⟩
theorem aMZ {u v : List Int} (dU : Dig u) (hl : v.length ≤ u.length) (hlt : val u < val v) (hv : val v < 1000000000 ^ v.length) : val (u.take v.length) = val u := by
 have e := kM u v.length hl
 have n1 := cZ (dU.take v.length)
 have n2 := cZ (dU.drop v.length)
 have hA := jI v.length
 have : val (u.drop v.length) < 1 := lY hA (by rw [Int.mul_comm, Int.one_mul]; omega)
 have h0 : val (u.drop v.length) = 0 := by omega
 rw [h0] at e
 omega
theorem aQR {u qs : List Int} {m n f : Nat} (dU : Dig u) (dQ : Dig qs) (h : val u + ((n * f : Nat) : Int) * val qs = ((m * f : Nat) : Int)) (hlt : val u < ((n * f : Nat) : Int)) (hf : 0 < f) (hn : 0 < n * f) :
  val u = (((m % n) * f : Nat) : Int) ∧ val qs = ((m / n : Nat) : Int) ∧ True := by
 have n1 := cZ dU
 have n2 := cZ dQ
 obtain ⟨a, ha⟩ : ∃ a : Nat, val u = (a : Int) := ⟨(val u).toNat, by omega⟩
 obtain ⟨b, hb⟩ : ∃ b : Nat, val qs = (b : Int) := ⟨(val qs).toNat, by omega⟩
 rw [ha, hb] at h
 rw [ha] at hlt
 have h' : a + n * f * b = m * f := by exact_mod_cast h
 have hlt' : a < n * f := by exact_mod_cast hlt
 have hq : m * f / (n * f) = b := by rw [← h', Nat.add_mul_div_left _ _ hn, Nat.div_eq_of_lt hlt', Nat.zero_add]
 have hr : m * f % (n * f) = a := by rw [← h', Nat.add_mul_mod_self_left, Nat.mod_eq_of_lt hlt']
 rw [Nat.mul_div_mul_right _ _ hf] at hq
 rw [Nat.mul_mod_mul_right] at hr
 exact ⟨by rw [ha, hr], by rw [hb, hq], trivial⟩
end Go.Proofs.YtkccjglmnhgabaaGreatDoor

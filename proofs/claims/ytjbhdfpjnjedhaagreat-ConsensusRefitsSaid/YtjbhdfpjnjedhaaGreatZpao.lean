/- Quotients rounded down, fractions in lowest terms, division group by group from below. Plain. integer: times, whose result is owned integer: long division, plain -/
import Derived.Test.YtjbhdfpjnjedhaaGreatZpaf
import Derived.Test.YtjbhdfpjnjedhaaGreatZpah
import Derived.Test.YtjbhdfpjnjedhaaGreatZpag
import Derived.Test.YtjbhdfpjnjedhaaGreatZpal
set_option linter.unusedSimpArgs false
set_option linter.unusedVariables false
set_option maxRecDepth 100000
set_option maxHeartbeats 4000000
namespace Go.Proofs.YtjbhdfpjnjedhaaGreat
open Go Go.Fx
theorem nZ {y z q r : Int} (h : y = z * q + r) (hr : (0 ≤ r ∧ r < z) ∨ (z < r ∧ r ≤ 0)) : y.fdiv z = q ∧ y.fmod z = r := by
 have pos : ∀ {y z q r : Int}, y = z * q + r → 0 ≤ r → r < z → y.fdiv z = q ∧ y.fmod z = r := by
  intro y z q r h h0 h1
  have := (Int.ediv_emod_unique (a := y) (b := z) (r := r) (q := q) (by omega)).2 ⟨by omega, h0, h1⟩
  rw [Int.fdiv_eq_ediv_of_nonneg _ (by omega), Int.fmod_eq_emod_of_nonneg _ (by omega)]
  exact this
 rcases hr with ⟨h0, h1⟩ | ⟨h0, h1⟩
 ·exact pos h h0 h1
 ·have h2 := pos (y := -y) (z := -z) (q := q) (r := -r) (by rw [Int.neg_mul]; omega) (by omega) (by omega)
  rw [Int.neg_fdiv_neg, Int.neg_fmod_neg] at h2
  exact ⟨h2.1, by omega⟩
theorem wJ {y z : Int} (hz : z ≠ 0) :
  (¬ (y < 0 ↔ z < 0) → y.natAbs % z.natAbs ≠ 0 → y.fdiv z = -((y.natAbs / z.natAbs + 1 : Nat) : Int) ∧ y.fmod z = if z < 0 then -((z.natAbs - y.natAbs % z.natAbs : Nat) : Int) else ((z.natAbs - y.natAbs % z.natAbs : Nat) : Int)) ∧
  (((y < 0 ↔ z < 0) ∨ y.natAbs % z.natAbs = 0) → y.fdiv z = (if ¬ (y < 0 ↔ z < 0) then -((y.natAbs / z.natAbs : Nat) : Int) else ((y.natAbs / z.natAbs : Nat) : Int)) ∧ y.fmod z = if z < 0 then -((y.natAbs % z.natAbs : Nat) : Int) else ((y.natAbs % z.natAbs : Nat) : Int)) := by
 have hlt := Nat.mod_lt y.natAbs (show z.natAbs > 0 by omega)
 have hab : (y.natAbs : Int) = (z.natAbs : Int) * ((y.natAbs / z.natAbs : Nat) : Int) + ((y.natAbs % z.natAbs : Nat) : Int) := by
  rw [← Int.natCast_mul, ← Int.natCast_add, Nat.div_add_mod]
 generalize hQ : y.natAbs / z.natAbs = Q at *
 generalize hR : y.natAbs % z.natAbs = R at *
 generalize hb : z.natAbs = b at *
 generalize hp : (b : Int) * (Q : Int) = p at *
 constructor
 ·intro hs hR0
  by_cases hz0 : z < 0
  ·have hy : ¬ y < 0 := fun h => hs ⟨fun _ => hz0, fun _ => h⟩
   have e : z = -(b : Int) := by omega
   rw [if_pos hz0]
   refine nZ ?_ (.inr ⟨by omega, by omega⟩)
   rw [e, Int.neg_mul, Int.mul_neg, Int.neg_neg, Int.natCast_add, Int.mul_add, hp]; omega
  ·have hy : y < 0 := by rcases Classical.em (y < 0) with h | h; exact h; exact absurd ⟨fun h' => absurd h' h, fun h' => absurd h' hz0⟩ hs
   have e : z = (b : Int) := by omega
   rw [if_neg hz0]
   refine nZ ?_ (.inl ⟨by omega, by omega⟩)
   rw [e, Int.mul_neg, Int.natCast_add, Int.mul_add, hp]; omega
 ·intro hs
  by_cases hd : (y < 0 ↔ z < 0)
  ·rw [if_neg (fun h => h hd)]
   by_cases hz0 : z < 0
   ·have hy := hd.2 hz0
    have e : z = -(b : Int) := by omega
    rw [if_pos hz0]
    refine nZ ?_ (.inr ⟨by omega, by omega⟩)
    rw [e, Int.neg_mul, hp]; omega
   ·have hy : ¬ y < 0 := fun h => hz0 (hd.1 h)
    have e : z = (b : Int) := by omega
    rw [if_neg hz0]
    refine nZ ?_ (.inl ⟨by omega, by omega⟩)
    rw [e, hp]; omega
  ·have hR0 := hs.resolve_left hd
   rw [if_pos hd]
   by_cases hz0 : z < 0
   ·have hy : ¬ y < 0 := fun h => hd ⟨fun _ => hz0, fun _ => h⟩
    have e : z = -(b : Int) := by omega
    rw [if_pos hz0]
    refine nZ ?_ (.inr ⟨by omega, by omega⟩)
    rw [e, Int.neg_mul, Int.mul_neg, Int.neg_neg, hp]; omega
   ·have hy : y < 0 := by rcases Classical.em (y < 0) with h | h; exact h; exact absurd ⟨fun h' => absurd h' h, fun h' => absurd h' hz0⟩ hd
    have e : z = (b : Int) := by omega
    rw [if_neg hz0]
    refine nZ ?_ (.inl ⟨by omega, by omega⟩)
    rw [e, Int.mul_neg, hp]; omega
theorem vE {n d : Int} (hd : d ≠ 0) : ∃ m : Int, m ≠ 0 ∧ n = (Rat.divInt n d).num * m ∧ d = (Rat.divInt n d).den * m ∧ (Int.gcd n d : Int) = (m.natAbs : Int) ∧ (m < 0 ↔ d < 0) := by
 obtain ⟨m, hm, h1, h2⟩ := Rat.divInt_num_den (n := n) (d := d) (n' := (Rat.divInt n d).num) (d' := (Rat.divInt n d).den) (z' := (Rat.divInt n d).den_nz) (c := (Rat.divInt n d).reduced) hd rfl
 refine ⟨m, hm, h1, h2, ?_, ?_⟩
 ·have hc := (Rat.divInt n d).reduced
  have key : ∀ (a : Int) (b : Nat), Nat.gcd a.natAbs b = 1 → Int.gcd (a * m) ((b : Int) * m) = m.natAbs := by
   intro a b h
   rw [Int.gcd_eq_natAbs_gcd_natAbs, Int.natAbs_mul, Int.natAbs_mul, Int.natAbs_natCast, Nat.gcd_mul_right, h, Nat.one_mul]
  have h3 := key _ _ hc
  rw [← h1, ← h2] at h3
  have this := h3
  rw [this]
 ·have hp : (0 : Int) < (Rat.divInt n d).den := by have := (Rat.divInt n d).den_nz; omega
  constructor
  ·intro h; rw [h2]; exact Int.mul_neg_of_pos_of_neg hp h
  ·intro h
   rcases Int.lt_trichotomy m 0 with h' | h' | h'
   ·exact h'
   ·exact absurd h' hm
   ·have := Int.mul_pos hp h'; omega
theorem aGJ {q m : Int} (hm : m ≠ 0) : (q * m).fdiv m = q := by
 refine (nZ (y := q * m) (z := m) (q := q) (r := 0) (by rw [Int.mul_comm]; omega) ?_).1
 omega
theorem aJK {n d g : Int} (hd : d ≠ 0) (hg : g = if d < 0 then -(Int.gcd n d : Int) else (Int.gcd n d : Int)) : n.fdiv g = (Rat.divInt n d).num ∧ d.fdiv g = ((Rat.divInt n d).den : Int) ∧ g ≠ 0 := by
 obtain ⟨m, hm, h1, h2, h3, h4⟩ := vE (n := n) hd
 have e : g = m := by
  rw [hg, h3]
  by_cases h : d < 0
  ·rw [if_pos h]; have := h4.2 h; omega
  ·rw [if_neg h]; have : ¬ m < 0 := fun h' => h (h4.1 h'); omega
 rw [e]
 refine ⟨?_, ?_, hm⟩
 ·exact (congrArg (fun x => Int.fdiv x m) h1).trans (aGJ hm)
 ·exact (congrArg (fun x => Int.fdiv x m) h2).trans (aGJ hm)
theorem aCA {n d : Int} : Rat.divInt (-n) (-d) = Rat.divInt n d := Rat.neg_divInt_neg n d
theorem aJO (q : Rat) : Int.gcd q.num q.den = 1 := by
 rw [Int.gcd_eq_natAbs_gcd_natAbs, Int.natAbs_natCast]
 exact q.reduced
theorem aVF (p q : Rat) : p < q ↔ p.num * q.den < q.num * p.den := Rat.lt_iff p q
theorem aXC (p q : Rat) : p = q ↔ p.num * q.den = q.num * p.den := by
 constructor
 ·rintro rfl; rfl
 ·intro h
  rw [← Rat.num_divInt_den p, ← Rat.num_divInt_den q]
  refine (Rat.divInt_eq_divInt_iff (by have := p.den_nz; omega) (by have := q.den_nz; omega)).2 h
theorem aMQ {R b g top low P b1 bl : Nat} (hR : R = top * P + low) (hb : b = b1 * P + bl) (hl : low < P) (hbl : bl < P) (hg : g = top / (b1 + 1)) : g * b ≤ R := by
 have h1 : g * (b1 + 1) ≤ top := by rw [hg]; exact Nat.div_mul_le_self _ _
 have h2 : b ≤ (b1 + 1) * P := by rw [hb, Nat.add_mul]; omega
 have h3 : g * b ≤ g * ((b1 + 1) * P) := Nat.mul_le_mul_left _ h2
 have h4 : g * ((b1 + 1) * P) ≤ top * P := by rw [← Nat.mul_assoc]; exact Nat.mul_le_mul_right _ h1
 omega
end Go.Proofs.YtjbhdfpjnjedhaaGreat
namespace Go.Proofs.YtjbhdfpjnjedhaaGreat
open Go Go.Fx
theorem aPR {w : World} {base b : Nat} {e : TypeId} {sz m c : Nat} {cs : List Value} (h : Blk w b cs e) (hb : base ≤ b) (hl : cs.length = c * sz) (hmc : m ≤ c) (hm : c ≤ 9223372036854775807) : w.ownsRow base e sz (.slice (some ⟨b, 0, none⟩) m c) m (cs.take (m * sz)) :=
 ⟨by rw [List.length_take, hl, Nat.min_eq_left (Nat.mul_le_mul_right _ hmc)], .inr ⟨b, c, cs.toArray, rfl, hb, h, hmc, by simpa [maxLen] using hm, by simpa using hl, by simp⟩⟩
theorem _root_.Go.Fx.Mem.toRowT {X : List Nat} {w0 w : World} {M M' : List Ent} {I : List aY} {b m c : Nat} {cs : List Value} {e : TypeId} (sz : Nat) (h : Mem X w0 M I w) (hr : Rep (.blk b cs e) (.row (some ⟨b, 0, none⟩) m c (cs.take (m * sz)) e sz) M M') (hl : cs.length = c * sz) (hmc : m ≤ c) (hm : c ≤ 9223372036854775807) : Mem X w0 M' I w := by
 have hb : Blk w b cs e := h.ent _ hr.mem
 exact h.upd hr (Ext.refl _ _) (fun b hb => .inl hb) (by simp [Ent.blocks]) (aPR hb (Nat.zero_le _) hl hmc hm)
theorem _root_.Go.Fx.Mem.imm0 {X : List Nat} {w0 w : World} {M : List Ent} {I : List aY} (h : Mem X w0 M I w) : Mem [] w [] [] w := ⟨Ext.refl _ _, fun _ h => absurd h (by simp [muts]), by simp [muts], fun _ h => absurd h (by simp), fun _ h => absurd h (by simp)⟩
theorem aBK (l : List Int) (k : Nat) : (recs eG l).take k = recs eG (l.take k) := by
 rw [kR, kR, List.map_take]
section
variable {X : List Nat} {w0 : World} {M0 : List Ent} {I0 : List aY}
theorem aCV {p q : Option Addr} {m n cp cq : Nat} (hm : (gr m).length ≤ 100000000000) (hn : (gr n).length ≤ 100000000000) (hp : aO p (recs eG (gr m)) ∈ I0) (hq : aO q (recs eG (gr n)) ∈ I0) :
  CD Tryz.prog 201 [.slice p (gr m).length cp, .slice q (gr n).length cq] X w0 M0 I0 (fun v M I => ∃ b c, v = .slice (some ⟨b, 0, none⟩) (gr (m * n)).length c ∧ (gr (m * n)).length ≤ c ∧ M = .row (some ⟨b, 0, none⟩) (gr (m * n)).length c (recs eG (gr (m * n))) 104 1 :: M0 ∧ I0 = I) := by
 have da := bY m
 have db := bY n
 have va := dD m
 have vb := dD n
 generalize ha : gr m = a at *
 generalize hb : gr n = b at *
 refine dY Tryz.func201 rfl Tryz.ntmps201 rfl ?_
 repeat (refine lG ?_)
 (refine kD (a.length + b.length) rfl rfl (by omega) (by omega) (by omega) (by omega) (nL _ _) rfl rfl ?_; intro bo; refine ⟨nO, ?_⟩)
 repeat (refine lG ?_)
 refine aT [1, 5, 18, 19] rfl (fun k G M I => ∃ (i : Nat) (o : List Int), i ≤ a.length ∧ k = a.length - i ∧ o.length = a.length + b.length ∧ Dig o ∧ val o = val (a.take i) * val b ∧ (∀ j : Nat, i + b.length ≤ j → o.getD j 0 = 0) ∧ G = [(20, .int .i64 i)] ∧ M = .blk bo (recs eG o) 104 :: M0 ∧ I0 = I) (a.length) _ _ _ aP bV bT (⟨0, _, by omega, by omega, by simp, Dig.zeros _, by rw [xP]; simp [val], fun j _ => by simp [List.getD, List.getElem?_replicate]; split <;> rfl, rfl, rfl, rfl⟩) ?_
 rintro k G M I ⟨i, o, hi, rfl, ho, hd, hv, hz, rfl, rfl, rfl⟩
 repeat' (first | refine lG ?_ | refine aM rfl (fun h => ?_) (fun h => ?_) | refine aN rfl rfl (fun h => ?_) (fun h => ?_) | fail)
 ·have hia : i < a.length := by omega
  have d1 := da.gt i
  refine aT [1, 5, 6, 7, 18, 19, 20, 25, 26] rfl (fun k G M I => ∃ (j : Nat) (u : List Int) (c : Int), j ≤ b.length ∧ k = b.length - j ∧ u.length = a.length + b.length ∧ Dig u ∧ (0 ≤ c ∧ c < 1000000000) ∧ val u + 1000000000 ^ (i + j) * c = val (a.take i) * val b + 1000000000 ^ i * (gt a i * val (b.take j)) ∧ (∀ j : Nat, i + b.length ≤ j → u.getD j 0 = 0) ∧ G = [(8, .int .u64 c), (27, .int .i64 j)] ∧ M = .blk bo (recs eG u) 104 :: M0 ∧ I0 = I) (b.length) _ _ _ aP bV bT (⟨0, o, 0, by omega, by omega, ho, hd, by omega, by simp [val, hv], hz, rfl, rfl, rfl⟩) ?_
  rintro k G M I ⟨j, u, c, hj, rfl, hu, hdu, hc, hvu, hzu, rfl, rfl, rfl⟩
  have d2 := db.gt j
  have d3 := hdu.gt ((i : Int) + j)
  have d4 := qL d1 d2 d3 hc
  have e1 : (gt u ((i : Int) + j) + gt a i * gt b j + c).tmod 1000000000 = (gt u ((i : Int) + j) + gt a i * gt b j + c) % 1000000000 := Int.tmod_eq_emod_of_nonneg d4.2.1.1
  have e2 : (gt u ((i : Int) + j) + gt a i * gt b j + c).tdiv 1000000000 = (gt u ((i : Int) + j) + gt a i * gt b j + c) / 1000000000 := Int.tdiv_eq_ediv_of_nonneg d4.2.1.1
  repeat' (first | refine lG ?_ | refine aM rfl (fun h => ?_) (fun h => ?_) | refine aN rfl rfl (fun h => ?_) (fun h => ?_) | fail)
  ·have hst := aIM (o := u) (b := b) (j := j) hvu (by omega)
   rw [e1, e2]
   refine aL (b.length - (j + 1)) _ _ _ (by first | omega | (simp only [List.length_append, List.length_cons, List.length_nil]; omega)) aP bV bT (⟨j + 1, _, _, by omega, rfl, by rw [eQ]; exact hu, ?_, d4.2.2, ?_, ?_, rfl, rfl, rfl⟩)
   ·rw [iJ]; exact hdu.set _ (by omega)
   ·rw [iJ, xQ, uZ, uZ]
    rw [uZ] at hst
    exact hst
   ·intro t ht
    rw [iJ, lT _ (by omega)]
    exact hzu t ht
  ·have hjb : j = b.length := by omega
   subst hjb
   have hst := aET (o := u) (b := b) hvu (by omega) (hzu _ (Nat.le_refl _))
   repeat (refine lG ?_)
   refine aL (a.length - (i + 1)) _ _ _ (by first | omega | (simp only [List.length_append, List.length_cons, List.length_nil]; omega)) aP bV bT (⟨i + 1, _, by omega, rfl, by rw [eQ]; exact hu, ?_, ?_, ?_, rfl, rfl, rfl⟩)
   ·rw [iJ]; exact hdu.set _ hc
   ·rw [iJ, hst, cB, uZ]
    rw [Int.add_mul, Int.mul_assoc]
   ·intro t ht
    rw [iJ, lT _ (by omega)]
    exact hzu t (by omega)
 ·have hiN : i = a.length := by omega
  subst hiN
  rw [List.take_length, va, vb] at hv
  have hg : fQ o = gr (m * n) := nK hd (by rw [hv, Int.natCast_mul])
  (refine aU rfl (CD.lend [aO (some ⟨bo, 0, none⟩) (recs eG o)] (fun w hw => Mem.lendB (b := bo) (e := 104) aS hw hw.imm0) (fun W => (qE (X := []) (w0 := W) (M0 := []) (I0 := [aO (some ⟨bo, 0, none⟩) (recs eG o)]) (l := o) (c := a.length + b.length) ho.symm (by omega) (by omega) aS).mono (fun _ _ _ h => h.2.2))) rfl rfl ?_; rintro _ _ _ ⟨rfl, rfl, rfl⟩; refine ⟨nO, ?_⟩)
  repeat (refine lG ?_)
  have hle2 := wM (o := o)
  obtain ⟨kk, hk1, hk2, _⟩ := uB o
  have hlk : (gr (m * n)).length = kk := by rw [← hg, hk2, List.length_take]; omega
  rw [hg] at hle2 ⊢
  refine yY (I' := I0) (M' := .row (some ⟨bo, 0, none⟩) (gr (m * n)).length (a.length + b.length) (recs eG (gr (m * n))) 104 1 :: M0) (fun w hw => ?_) ?_
  ·refine hw.toRowT (b := bo) (e := 104) (cs := recs eG o) (c := a.length + b.length) (m := (gr (m * n)).length) 1 ?_ (by rw [kR, List.length_map]; omega) (by omega) (by omega)
   have e : (recs eG o).take ((gr (m * n)).length * 1) = recs eG (gr (m * n)) := by rw [hlk, Nat.mul_one, ← hg, hk2, aBK]
   rw [e]
   exact mV
  ·refine aH (by first | exact .inl rfl | exact .inr rfl) rfl rfl _ _ bV bT (⟨_, _, rfl, by omega, rfl, rfl⟩)
end
end Go.Proofs.YtjbhdfpjnjedhaaGreat
namespace Go.Proofs.YtjbhdfpjnjedhaaGreat
open Go Go.Fx
theorem sZ {f : Nat} (h0 : 0 < f) (h : f < 1000000000) : gr f = [(f : Int)] := by
 rw [tL (by omega), Nat.mod_eq_of_lt h, Nat.div_eq_of_lt h, gX]
theorem aFP {bt : Nat} (h : 1 ≤ bt ∧ bt < 1000000000) : ∃ f : Nat, 0 < f ∧ f < 1000000000 ∧ (1000000000 : Int).tdiv ((bt : Int) + 1) = (f : Int) :=
 ⟨1000000000 / (bt + 1), Nat.div_pos (by omega) (by omega), Nat.lt_of_le_of_lt (Nat.div_le_div_left (show 2 ≤ bt + 1 by omega) (by decide)) (by decide), by
  rw [Int.tdiv_eq_ediv_of_nonneg (by decide), Int.natCast_ediv]
  rfl⟩
theorem qO {m f : Nat} (h0 : 0 < f) (h : f < 1000000000) : (gr m).length ≤ (gr (m * f)).length ∧ (gr (m * f)).length ≤ (gr m).length + 1 := by
 refine ⟨iA (Nat.le_mul_of_pos_right _ h0), pK ?_⟩
 have h1 := jY (bY m)
 rw [dD] at h1
 have h2 : m < 1000000000 ^ (gr m).length := Int.ofNat_lt.1 (by rw [Int.natCast_pow]; exact h1)
 rw [Nat.pow_succ]
 exact Nat.lt_of_le_of_lt (Nat.mul_le_mul_left m (Nat.le_of_lt h)) (Nat.mul_lt_mul_of_pos_right h2 (by decide))
theorem _root_.Go.Fx.Mem.lendBT {X : List Nat} {w0 w : World} {M : List Ent} {I I2 : List aY} {b : Nat} {cs tl : List Value} {e : TypeId} (hm : .blk b (cs ++ tl) e ∈ M) (hw : Mem X w0 M I w) (h : Mem [] w [] I2 w) : Mem [] w [] (aO (some ⟨b, 0, none⟩) cs :: I2) w :=
 h.add (φ := aO (some ⟨b, 0, none⟩) cs) ⟨Blk.sl (X := muts []) (hw.blk hm) (by simp [muts]) 0 (fun j v hj => by rw [Nat.zero_add, List.getElem?_append_left (List.getElem?_eq_some_iff.1 hj).1]; exact hj)⟩
theorem aNS {u v : List Int} (hv : Can v) (hn : 2 ≤ v.length) (hu : Dig u) (hl : v.length ≤ u.length) : val ((u ++ [0]).drop (u.length + 1 - v.length)) < val v := by
 rw [List.drop_append_of_le_length (by omega), val_append]
 have h1 := jY (hu.drop (u.length + 1 - v.length))
 have h2 := xJ hv (by omega)
 have e : (u.drop (u.length + 1 - v.length)).length = v.length - 1 := by simp; omega
 rw [e] at h1
 simp only [val]
 omega
theorem aQX {u v : List Int} {j : Nat} (dU : Dig u) (hv : Can v) (hn : 2 ≤ v.length) (hlt : val (u.drop (j + 1)) < val v) (hj : j < u.length) :
  Knu (val (u.drop j)) (val v) (1000000000 ^ (v.length - 2)) (gt u ((j : Int) + (v.length : Int))) (gt u ((j : Int) + (v.length : Int) - 1)) (gt u ((j : Int) + (v.length : Int) - 2)) (gt v ((v.length : Int) - 1)) (gt v ((v.length : Int) - 2)) := by
 have h1 : val (u.drop j) < 1000000000 * val v := by
  rw [rZ u j hj]
  have := dU.getD j
  omega
 have htop : 1 ≤ v.getD (v.length - 1) 0 := by
  have h := hv.2
  have hd := hv.1.getD (v.length - 1)
  unfold Top at h
  rw [zT (by omega), show (v.length : Int) - 1 = ((v.length - 1 : Nat) : Int) by omega, uZ] at h
  omega
 have := aVT (u := u.drop j) (v := v) (n := v.length) (dU.drop j) hv.1 hn rfl htop h1
 rw [jJ, jJ, jJ] at this
 rw [show (j : Int) + (v.length : Int) = ((j + v.length : Nat) : Int) by omega, show ((j + v.length : Nat) : Int) - 1 = ((j + (v.length - 1) : Nat) : Int) by omega, show ((j + v.length : Nat) : Int) - 2 = ((j + (v.length - 2) : Nat) : Int) by omega,
  show (v.length : Int) - 1 = ((v.length - 1 : Nat) : Int) by omega, show (v.length : Int) - 2 = ((v.length - 2 : Nat) : Int) by omega, uZ, uZ, uZ, uZ, uZ]
 exact this
theorem knu_g {T V P t2 t1 t0 v1 v0 g r : Int} (h : Knu T V P t2 t1 t0 v1 v0) (hg : g * v1 + r = t2 * 1000000000 + t1) (hr : 0 ≤ r) (hg0 : 0 ≤ g) : g < 2000000000 := by
 have h2 := h.T2
 have h1 := h.e1
 rcases Int.lt_or_le g 2000000000 with h3 | h3
 ·exact h3
 ·have : 2000000000 * v1 ≤ g * v1 := Int.mul_le_mul_of_nonneg_right h3 (by omega)
  omega
theorem aVX {T V P t2 t1 t0 v1 v0 g r : Int} (h : Knu T V P t2 t1 t0 v1 v0) (hg : g * v1 + r = t2 * 1000000000 + t1) (hr : 1000000000 ≤ r) : g < 1000000000 := by
 have h2 := h.T2
 have h1 := h.e1
 rcases Int.lt_or_le g 1000000000 with h3 | h3
 ·exact h3
 ·have : 1000000000 * v1 ≤ g * v1 := Int.mul_le_mul_of_nonneg_right h3 (by omega)
  omega
theorem aQM {u o v : List Int} {j : Nat} {g b c : Int} (dU : Dig u) (dO : Dig o) (hv : Can v) (hN : 2 ≤ v.length) (hj : j + v.length < u.length) (hol : o.length = u.length) (hT1 : val (u.drop (j + 1)) < val v) (h : val ((o.drop j).take v.length) + g * val v = val ((u.drop j).take v.length) + 1000000000 ^ v.length * (b + c)) (hd : o.drop (j + v.length) = u.drop (j + v.length)) (hgq : val (u.drop j) < (g + 1) * val v) (hgd : g * val v ≤ val (u.drop j) + val v) :
  (gt o ((j : Int) + (v.length : Int)) - b - c = 0 ∨ (gt o ((j : Int) + (v.length : Int)) - b - c = -1 ∧ g ≠ 0)) ∧ (val (u.drop j) - g * val v = val ((o.drop j).take v.length) + 1000000000 ^ v.length * (gt o ((j : Int) + (v.length : Int)) - b - c)) ∧ (∀ y, val ((o.set (j + v.length) y).drop j) = val ((o.drop j).take v.length) + 1000000000 ^ v.length * y) := by
 have hvl := jY hv.1
 have hv1 : 1 ≤ val v := by
  have := xJ hv (by omega)
  have := jH (v.length - 1)
  omega
 rw [xQ]
 have hA := jH v.length
 have e0 := kE (u.drop j) v.length (by simp; omega)
 have e1 := rZ u (j + v.length) hj
 have e2 := kE (u.drop (j + 1)) v.length (by simp; omega)
 have e3 := kE (o.drop j) v.length (by simp; omega)
 rw [List.drop_drop] at e0 e2 e3
 rw [show j + 1 + v.length = j + v.length + 1 by omega] at e2
 have n1 := bX ((dU.drop (j + 1)).take v.length)
 have n2 := bX (dU.drop (j + v.length + 1))
 have n3 := bX ((dO.drop j).take v.length)
 have n4 := iM (dO.drop j) v.length
 have n5 := bX (dU.drop j)
 have hH : val (u.drop (j + v.length + 1)) = 0 := by
  have : val (u.drop (j + v.length + 1)) < 1 := mJ hA (by
   rw [Int.mul_comm, Int.one_mul]
   omega)
  omega
 have hget : o.getD (j + v.length) 0 = u.getD (j + v.length) 0 := by
  have := congrArg (fun l => l.getD 0 0) hd
  simpa only [jJ, Nat.add_zero] using this
 rw [hget]
 rw [hd] at e3
 rw [hH] at e1
 have hset : ∀ y, (o.set (j + v.length) y).drop j = (o.drop j).set v.length y := fun y => by
  rw [List.drop_set, if_neg (by omega)]
  congr 1
  omega
 have hgo : (o.drop j).getD v.length 0 = u.getD (j + v.length) 0 := by rw [jJ, hget]
 have hvs : ∀ y, val ((o.set (j + v.length) y).drop j) = val (o.drop j) + 1000000000 ^ v.length * (y - u.getD (j + v.length) 0) := fun y => by rw [hset, zM _ _ _ (by simp; omega), hgo]
 generalize (1000000000 : Int) ^ v.length = A at *
 generalize hud : u.getD (j + v.length) 0 = ud at *
 have hD : val (u.drop j) - g * val v = val ((o.drop j).take v.length) + A * (ud - b - c) := by
  have k1 : A * (ud - b - c) = A * ud - A * (b + c) := by grind
  have k2 : A * val (u.drop (j + v.length)) = A * ud := by rw [e1]; grind
  omega
 have k3 : (g + 1) * val v = g * val v + val v := by rw [Int.add_mul, Int.one_mul]
 refine ⟨?_, hD, fun y => ?_⟩
 ·have x1 : ud - b - c < 1 := mJ hA (by rw [Int.mul_comm, Int.one_mul]; omega)
  have x2 : -2 < ud - b - c := mJ hA (by rw [Int.mul_comm (ud - b - c)]; omega)
  by_cases hx : ud - b - c = 0
  ·exact .inl hx
  ·refine .inr ⟨by omega, ?_⟩
   rintro rfl
   have hm1 : ud - b - c = -1 := by omega
   rw [hm1] at hD
   simp at hD
   omega
 ·rw [hvs]
  have k2 : A * val (u.drop (j + v.length)) = A * ud := by rw [e1]; grind
  have k4 : A * (y - ud) = A * y - A * ud := Int.mul_sub _ _ _
  omega
theorem aQR {n : Nat} (hn : 1 ≤ (gr n).length) : ∃ bt : Nat, gt (gr n) (((gr n).length : Int) - 1) = (bt : Int) ∧ 1 ≤ bt ∧ bt < 1000000000 := by
 have hbt := (bY n).gt (((gr n).length : Int) - 1)
 have htop := aAW n
 unfold Top at htop
 rw [zT (by omega)] at htop
 exact ⟨(gt (gr n) (((gr n).length : Int) - 1)).toNat, by omega, by omega, by omega⟩
theorem aDE {o u v : List Int} {j i : Nat} {g b c b2 y : Int} (dO : Dig o) (hvl : val ((o.drop j).take i) + g * val (v.take i) = val ((u.drop j).take i) + 1000000000 ^ i * (b + c)) (hij : j + i < o.length) (htk : o.take j = u.take j) (hdr : o.drop (j + i) = u.drop (j + i))
  (hy : y = gt o ((i : Int) + (j : Int)) - b - (g * gt v i + c) % 1000000000 + 1000000000 * b2) (hyr : 0 ≤ y ∧ y < 1000000000) :
  Dig (st o ((i : Int) + (j : Int)) y) ∧ (st o ((i : Int) + (j : Int)) y).take j = u.take j ∧ (st o ((i : Int) + (j : Int)) y).drop (j + (i + 1)) = u.drop (j + (i + 1)) ∧ val (((st o ((i : Int) + (j : Int)) y).drop j).take (i + 1)) + g * val (v.take (i + 1)) = val ((u.drop j).take (i + 1)) + 1000000000 ^ (i + 1) * (b2 + (g * gt v i + c) / 1000000000) := by
 have hget : o.getD (j + i) 0 = u.getD (j + i) 0 := by
  have := congrArg (fun l => l.getD 0 0) hdr
  simpa only [jJ, Nat.add_zero] using this
 rw [xQ, uZ, Nat.add_comm i j, hget] at hy
 have hm := aMC (o := o) (U := u) (v := v) (d' := y) (b' := b2) hvl hij hdr rfl hy
 rw [iJ, Nat.add_comm i j, uZ]
 refine ⟨dO.set _ hyr, ?_, hm.2, hm.1⟩
 rw [List.take_set_of_le (by omega)]
 exact htk
theorem aDM {u o qs v u0 : List Int} {j : Nat} {g : Int} (hval : val u + 1000000000 ^ (j + 1) * (val v * val (qs.drop (j + 1))) = val u0) (hj : j < u.length) (hjo : j < o.length) (hjq : j < qs.length) (htk : o.take j = u.take j) (hD : val (o.drop j) = val (u.drop j) - g * val v) :
  val o + 1000000000 ^ j * (val v * val ((st qs (j : Int) g).drop j)) = val u0 := by
 have e1 := kE o j (by omega)
 have e2 := kE u j (by omega)
 rw [htk] at e1
 rw [pM, drop_set _ _ _ hjq]
 simp only [val, Int.pow_succ] at hval ⊢
 rw [hD] at e1
 generalize (1000000000 : Int) ^ j = A at *
 grind
theorem aGL {o2 o1 v u : List Int} {j i : Nat} {c2 c3 y : Int} (dO : Dig o2) (hv : val ((o2.drop j).take i) + 1000000000 ^ i * c2 = val ((o1.drop j).take i) + val (v.take i)) (hij : j + i < o2.length) (htk : o2.take j = u.take j) (hdr : o2.drop (j + i) = o1.drop (j + i))
  (hy : y = gt o2 ((i : Int) + (j : Int)) + gt v i + c2 - 1000000000 * c3) (hyr : 0 ≤ y ∧ y < 1000000000) :
  Dig (st o2 ((i : Int) + (j : Int)) y) ∧ (st o2 ((i : Int) + (j : Int)) y).take j = u.take j ∧ (st o2 ((i : Int) + (j : Int)) y).drop (j + (i + 1)) = o1.drop (j + (i + 1)) ∧ val (((st o2 ((i : Int) + (j : Int)) y).drop j).take (i + 1)) + 1000000000 ^ (i + 1) * c3 = val ((o1.drop j).take (i + 1)) + val (v.take (i + 1)) := by
 have hget : o2.getD (j + i) 0 = o1.getD (j + i) 0 := by
  have := congrArg (fun l => l.getD 0 0) hdr
  simpa only [jJ, Nat.add_zero] using this
 rw [xQ, uZ, Nat.add_comm i j, hget] at hy
 rw [iJ, Nat.add_comm i j]
 have e1 : (o2.set (j + i) y).drop j = (o2.drop j).set i y := by
  rw [List.drop_set, if_neg (by omega)]
  congr 1
  omega
 have hl : i < (o2.drop j).length := by simp; omega
 refine ⟨dO.set _ hyr, by rw [List.take_set_of_le (by omega)]; exact htk, ?_, ?_⟩
 ·have e : ((o2.set (j + i) y).drop (j + (i + 1))) = o2.drop (j + i + 1) := by
   rw [← Nat.add_assoc, List.drop_set, if_pos (by omega)]
  rw [e, ← Nat.add_assoc]
  have h1 : o2.drop (j + i + 1) = (o2.drop (j + i)).drop 1 := by rw [List.drop_drop]
  have h2 : o1.drop (j + i + 1) = (o1.drop (j + i)).drop 1 := by rw [List.drop_drop]
  rw [h1, h2, hdr]
 ·rw [e1, jC _ i y hl, val_append, cB (o1.drop j), cB v, jJ]
  simp only [List.length_take, Nat.min_eq_left (Nat.le_of_lt hl), val, Int.pow_succ]
  generalize (1000000000 : Int) ^ i = A at *
  generalize v.getD i 0 = x at *
  generalize o1.getD (j + i) 0 = z at *
  generalize val ((o2.drop j).take i) = z1 at *
  generalize val ((o1.drop j).take i) = z2 at *
  generalize val (v.take i) = z3 at *
  clear e1 hl hdr hij
  subst hy
  grind
theorem aMO {o o1 o2 v : List Int} {j : Nat} {c2 T g : Int} (dO : Dig o) (dO2 : Dig o2) (hv : Can v) (hj : j + v.length < o2.length) (hol : o.length = o2.length) (h1 : o1 = o.set (j + v.length) 999999999)
  (h : val ((o2.drop j).take v.length) + 1000000000 ^ v.length * c2 = val ((o1.drop j).take v.length) + val v) (hc : 0 ≤ c2 ∧ c2 ≤ 1) (hdr : o2.drop (j + v.length) = o1.drop (j + v.length))
  (hD : T - g * val v = val ((o.drop j).take v.length) + 1000000000 ^ v.length * (-1)) (hset : ∀ y, val ((o.set (j + v.length) y).drop j) = val ((o.drop j).take v.length) + 1000000000 ^ v.length * y) (hhi : g * val v ≤ T + val v) :
  c2 = 1 ∧ gt o2 ((j : Int) + (v.length : Int)) = 999999999 ∧ val ((o2.set (j + v.length) 0).drop j) = T - (g - 1) * val v ∧ T - (g - 1) * val v < val v ∧ 0 ≤ T - (g - 1) * val v := by
 have hA := jH v.length
 have n4 := iM (dO2.drop j) v.length
 have n3 := bX ((dO2.drop j).take v.length)
 have n5 := iM (dO.drop j) v.length
 have kg : (g - 1) * val v = g * val v - val v := by rw [Int.sub_mul, Int.one_mul]
 have e1 : (o1.drop j).take v.length = (o.drop j).take v.length := by
  rw [h1, List.drop_set, if_neg (by omega), show j + v.length - j = v.length by omega, List.take_set_of_le (Nat.le_refl _)]
 have hget : o2.getD (j + v.length) 0 = o1.getD (j + v.length) 0 := by
  have := congrArg (fun l => l.getD 0 0) hdr
  simpa only [jJ, Nat.add_zero] using this
 have hg1 : o1.getD (j + v.length) 0 = 999999999 := by
  rw [h1]
  simp [List.getD, List.getElem?_set_self (show j + v.length < o.length by omega)]
 have e2 := kE (o2.drop j) v.length (by simp; omega)
 have e3 := kE (o1.drop j) v.length (by rw [h1]; simp; omega)
 rw [List.drop_drop] at e2 e3
 have e4 := hset 999999999
 rw [← h1] at e4
 have hvs : val ((o2.set (j + v.length) 0).drop j) = val (o2.drop j) + 1000000000 ^ v.length * (0 - 999999999) := by
  have hs : (o2.set (j + v.length) 0).drop j = (o2.drop j).set v.length 0 := by
   rw [List.drop_set, if_neg (by omega), show j + v.length - j = v.length by omega]
  have hgo : (o2.drop j).getD v.length 0 = 999999999 := by rw [jJ, hget, hg1]
  rw [hs, zM _ _ _ (by simp; omega), hgo]
 rw [e1] at h e3
 rw [hdr] at e2
 rw [xQ, hget, hg1]
 generalize (1000000000 : Int) ^ v.length = A at *
 have hc1 : c2 = 1 := by
  rcases Int.lt_or_le c2 1 with hlt | hge
  ·have : c2 = 0 := by omega
   subst this
   omega
  ·omega
 subst hc1
 exact ⟨rfl, rfl, by omega, by omega, by omega⟩
theorem aNE {u v : List Int} (dU : Dig u) (hl : v.length ≤ u.length) (hlt : val u < val v) (hv : val v < 1000000000 ^ v.length) : val (u.take v.length) = val u := by
 have e := kE u v.length hl
 have n1 := bX (dU.take v.length)
 have n2 := bX (dU.drop v.length)
 have hA := jH v.length
 have : val (u.drop v.length) < 1 := mJ hA (by rw [Int.mul_comm, Int.one_mul]; omega)
 have h0 : val (u.drop v.length) = 0 := by omega
 rw [h0] at e
 omega
theorem aPP {u qs : List Int} {m n f : Nat} (dU : Dig u) (dQ : Dig qs) (h : val u + ((n * f : Nat) : Int) * val qs = ((m * f : Nat) : Int)) (hlt : val u < ((n * f : Nat) : Int)) (hf : 0 < f) (hn : 0 < n * f) :
  val u = (((m % n) * f : Nat) : Int) ∧ val qs = ((m / n : Nat) : Int) ∧ True := by
 have n1 := bX dU
 have n2 := bX dQ
 obtain ⟨a, ha⟩ : ∃ a : Nat, val u = (a : Int) := ⟨(val u).toNat, by omega⟩
 obtain ⟨b, hb⟩ : ∃ b : Nat, val qs = (b : Int) := ⟨(val qs).toNat, by omega⟩
 rw [ha, hb] at h
 rw [ha] at hlt
 have h' : a + n * f * b = m * f := by exact_mod_cast h
 have hlt' : a < n * f := by exact_mod_cast hlt
 have hq : m * f / (n * f) = b := by rw [← h', Nat.add_mul_div_left _ _ hn, Nat.div_eq_of_lt hlt', Nat.zero_add]
 have hr : m * f % (n * f) = a := by rw [← h', Nat.add_mul_mod_self_left, Nat.mod_eq_of_lt hlt']
 rw [Nat.mul_div_mul_right _ _ hf] at hq
 rw [Nat.mul_mod_mul_right] at hr
 exact ⟨by rw [ha, hr], by rw [hb, hq], trivial⟩
end Go.Proofs.YtjbhdfpjnjedhaaGreat

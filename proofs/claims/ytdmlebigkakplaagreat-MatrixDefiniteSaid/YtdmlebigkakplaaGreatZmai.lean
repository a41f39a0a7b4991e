/- Fractions: how long they are. Plain. Quotients rounded down, fractions in lowest terms, division group by group from below. Plain. The symbolic heap, continued: drawn regions whose reads come ahead of all but the first few effects. The symbolic heap, continued: parts of what is read, xor. -/
import Derived.Test.YtdmlebigkakplaaGreatZmah
import Derived.Test.YtdmlebigkakplaaGreatZmag
set_option linter.unusedSimpArgs false
set_option linter.unusedVariables false
namespace Go.Proofs.YtdmlebigkakplaaGreat
open Go Go.Fx

/-- numerator and denominator are at most 2^k -/
def Ht (k : Nat) (q : Rat) : Prop := q.num.natAbs ≤ 2 ^ k ∧ q.den ≤ 2 ^ k
instance (k : Nat) (q : Rat) : Decidable (Ht k q) := by unfold Ht; exact inferInstance
theorem Ht.mono {k m : Nat} {q : Rat} (h : Ht k q) (hk : k ≤ m) : Ht m q := by
  have := Nat.pow_le_pow_right (show 0 < 2 by omega) hk
  exact ⟨Nat.le_trans h.1 this, Nat.le_trans h.2 this⟩
theorem Ht.divInt {k : Nat} {n d : Int} (hn : n.natAbs ≤ 2 ^ k) (hd : d.natAbs ≤ 2 ^ k) : Ht k (Rat.divInt n d) := by
  by_cases h0 : d = 0
  · subst h0
    rw [Rat.divInt_zero]
    exact ⟨by simp, by simpa using Nat.one_le_two_pow⟩
  · obtain ⟨m, hm, h1, h2⟩ := Rat.divInt_num_den (n := n) (d := d) (n' := (Rat.divInt n d).num) (d' := (Rat.divInt n d).den) (z' := (Rat.divInt n d).den_nz) (c := (Rat.divInt n d).reduced) h0 rfl
    have hm1 : 1 ≤ m.natAbs := by omega
    constructor
    · have : n.natAbs = (Rat.divInt n d).num.natAbs * m.natAbs := by rw [← Int.natAbs_mul, ← h1]
      have := Nat.le_mul_of_pos_right (Rat.divInt n d).num.natAbs hm1
      omega
    · have : d.natAbs = (Rat.divInt n d).den * m.natAbs := by
        have := congrArg Int.natAbs h2
        rw [Int.natAbs_mul, Int.natAbs_natCast] at this
        exact this
      have := Nat.le_mul_of_pos_right (Rat.divInt n d).den hm1
      omega
theorem add_divInt (p q : Rat) : p + q = Rat.divInt (p.num * q.den + q.num * p.den) (p.den * q.den) := by
  have := Rat.divInt_add_divInt p.num q.num (d₁ := p.den) (d₂ := q.den) (by have := p.den_nz; omega) (by have := q.den_nz; omega)
  rw [Rat.num_divInt_den, Rat.num_divInt_den] at this
  exact this
theorem mul_divInt (p q : Rat) : p * q = Rat.divInt (p.num * q.num) (p.den * q.den) := by
  have := Rat.divInt_mul_divInt p.num q.num (d₁ := p.den) (d₂ := q.den)
  rw [Rat.num_divInt_den, Rat.num_divInt_den] at this
  exact this
theorem div_divInt (p q : Rat) : p / q = Rat.divInt (p.num * q.den) (p.den * q.num) := by
  rw [Rat.div_def, Rat.inv_def]
  have := Rat.divInt_mul_divInt p.num q.den (d₁ := p.den) (d₂ := q.num)
  rw [Rat.num_divInt_den] at this
  exact this
theorem nat_mul_pow {a b k m : Nat} (ha : a ≤ 2 ^ k) (hb : b ≤ 2 ^ m) : a * b ≤ 2 ^ (k + m) := by
  rw [Nat.pow_add]
  exact Nat.mul_le_mul ha hb
theorem Ht.add {k m : Nat} {p q : Rat} (hp : Ht k p) (hq : Ht m q) : Ht (k + m + 1) (p + q) := by
  rw [add_divInt]
  have h1 := nat_mul_pow hp.1 hq.2
  have h2 := nat_mul_pow hq.1 hp.2
  have h3 := nat_mul_pow hp.2 hq.2
  rw [Nat.add_comm m k] at h2
  have e : 2 ^ (k + m + 1) = 2 * 2 ^ (k + m) := by rw [Nat.pow_succ]; omega
  refine Ht.divInt ?_ ?_
  · have := Int.natAbs_add_le (p.num * q.den) (q.num * p.den)
    rw [Int.natAbs_mul, Int.natAbs_mul, Int.natAbs_natCast, Int.natAbs_natCast] at this
    omega
  · rw [Int.natAbs_mul, Int.natAbs_natCast, Int.natAbs_natCast]
    omega
theorem Ht.mul {k m : Nat} {p q : Rat} (hp : Ht k p) (hq : Ht m q) : Ht (k + m) (p * q) := by
  rw [mul_divInt]
  refine Ht.divInt ?_ ?_
  · rw [Int.natAbs_mul]; exact nat_mul_pow hp.1 hq.1
  · rw [Int.natAbs_mul, Int.natAbs_natCast, Int.natAbs_natCast]; exact nat_mul_pow hp.2 hq.2
theorem Ht.div {k m : Nat} {p q : Rat} (hp : Ht k p) (hq : Ht m q) : Ht (k + m) (p / q) := by
  rw [div_divInt]
  refine Ht.divInt ?_ ?_
  · rw [Int.natAbs_mul, Int.natAbs_natCast]; exact nat_mul_pow hp.1 hq.2
  · rw [Int.natAbs_mul, Int.natAbs_natCast]; exact nat_mul_pow hp.2 hq.1
theorem Ht.neg {k : Nat} {p : Rat} (hp : Ht k p) : Ht k (-p) := by
  unfold Ht
  rw [Rat.neg_num, Rat.neg_den, Int.natAbs_neg]
  exact hp
theorem Ht.sub {k m : Nat} {p q : Rat} (hp : Ht k p) (hq : Ht m q) : Ht (k + m + 1) (p - q) := by
  rw [Rat.sub_eq_add_neg]
  exact hp.add hq.neg
theorem Ht.int {k : Nat} {n : Int} (h : n.natAbs ≤ 2 ^ k) : Ht k (n : Rat) := by
  unfold Ht
  rw [Rat.num_intCast, Rat.den_intCast]
  exact ⟨h, Nat.one_le_two_pow⟩
/-- what the groups of a number take -/
theorem gr_len_pow {n k : Nat} (h : n ≤ 2 ^ k) : (gr n).length ≤ k / 29 + 1 := by
  refine gr_len_le ?_
  have h1 : 2 ^ k < 2 ^ (29 * (k / 29 + 1)) := Nat.pow_lt_pow_right (by omega) (by omega)
  have h2 : (2 : Nat) ^ (29 * (k / 29 + 1)) ≤ 1000000000 ^ (k / 29 + 1) := by
    rw [Nat.pow_mul]
    exact Nat.pow_le_pow_left (by decide) _
  omega
theorem gr_len_1 {n : Nat} (h : n < 1000000000) : (gr n).length ≤ 1 := gr_len_le (by simpa using h)
/-- the sign of a fraction -/
theorem rat_sign (q : Rat) : q.num.sign = if q < 0 then -1 else if q = 0 then 0 else 1 := by
  by_cases h1 : q < 0
  · rw [if_pos h1]
    have : q.num < 0 := by
      by_cases c : 0 ≤ q.num
      · exact absurd h1 (Rat.not_lt.2 (Rat.num_nonneg.1 c))
      · omega
    exact Int.sign_eq_neg_one_of_neg this
  · rw [if_neg h1]
    by_cases h2 : q = 0
    · subst h2; rfl
    · rw [if_neg h2]
      have h3 : 0 ≤ q.num := Rat.num_nonneg.2 (Rat.not_lt.1 h1)
      have h4 : q.num ≠ 0 := fun h => h2 (Rat.num_eq_zero.1 h)
      exact Int.sign_eq_one_of_pos (by omega)
end Go.Proofs.YtdmlebigkakplaaGreat
namespace Go.Proofs.YtdmlebigkakplaaGreat
open Go Go.Fx

theorem fdiv_uniq {y z q r : Int} (h : y = z * q + r) (hr : (0 ≤ r ∧ r < z) ∨ (z < r ∧ r ≤ 0)) : y.fdiv z = q ∧ y.fmod z = r := by
  have pos : ∀ {y z q r : Int}, y = z * q + r → 0 ≤ r → r < z → y.fdiv z = q ∧ y.fmod z = r := by
    intro y z q r h h0 h1
    have := (Int.ediv_emod_unique (a := y) (b := z) (r := r) (q := q) (by omega)).2 ⟨by omega, h0, h1⟩
    rw [Int.fdiv_eq_ediv_of_nonneg _ (by omega), Int.fmod_eq_emod_of_nonneg _ (by omega)]
    exact this
  rcases hr with ⟨h0, h1⟩ | ⟨h0, h1⟩
  · exact pos h h0 h1
  · have h2 := pos (y := -y) (z := -z) (q := q) (r := -r) (by rw [Int.neg_mul]; omega) (by omega) (by omega)
    rw [Int.neg_fdiv_neg, Int.neg_fmod_neg] at h2
    exact ⟨h2.1, by omega⟩
theorem sg_pos {p : Prop} [Decidable p] {n : Nat} (h : p) : (if p then -(n : Int) else n) = -n := if_pos h
/-- the quotient rounded down, from that of the magnitudes -/
theorem fdiv_abs {y z : Int} (hz : z ≠ 0) :
    (¬ (y < 0 ↔ z < 0) → y.natAbs % z.natAbs ≠ 0 → y.fdiv z = -((y.natAbs / z.natAbs + 1 : Nat) : Int) ∧ y.fmod z = if z < 0 then -((z.natAbs - y.natAbs % z.natAbs : Nat) : Int) else ((z.natAbs - y.natAbs % z.natAbs : Nat) : Int)) ∧
    (((y < 0 ↔ z < 0) ∨ y.natAbs % z.natAbs = 0) → y.fdiv z = (if ¬ (y < 0 ↔ z < 0) then -((y.natAbs / z.natAbs : Nat) : Int) else ((y.natAbs / z.natAbs : Nat) : Int)) ∧ y.fmod z = if z < 0 then -((y.natAbs % z.natAbs : Nat) : Int) else ((y.natAbs % z.natAbs : Nat) : Int)) := by
  have hlt := Nat.mod_lt y.natAbs (show z.natAbs > 0 by omega)
  have hab : (y.natAbs : Int) = (z.natAbs : Int) * ((y.natAbs / z.natAbs : Nat) : Int) + ((y.natAbs % z.natAbs : Nat) : Int) := by
    rw [← Int.natCast_mul, ← Int.natCast_add, Nat.div_add_mod]
  generalize hQ : y.natAbs / z.natAbs = Q at *
  generalize hR : y.natAbs % z.natAbs = R at *
  generalize hb : z.natAbs = b at *
  generalize hp : (b : Int) * (Q : Int) = p at *
  constructor
  · intro hs hR0
    by_cases hz0 : z < 0
    · have hy : ¬ y < 0 := fun h => hs ⟨fun _ => hz0, fun _ => h⟩
      have e : z = -(b : Int) := by omega
      rw [if_pos hz0]
      refine fdiv_uniq ?_ (.inr ⟨by omega, by omega⟩)
      rw [e, Int.neg_mul, Int.mul_neg, Int.neg_neg, Int.natCast_add, Int.mul_add, hp]; omega
    · have hy : y < 0 := by rcases Classical.em (y < 0) with h | h; exact h; exact absurd ⟨fun h' => absurd h' h, fun h' => absurd h' hz0⟩ hs
      have e : z = (b : Int) := by omega
      rw [if_neg hz0]
      refine fdiv_uniq ?_ (.inl ⟨by omega, by omega⟩)
      rw [e, Int.mul_neg, Int.natCast_add, Int.mul_add, hp]; omega
  · intro hs
    by_cases hd : (y < 0 ↔ z < 0)
    · rw [if_neg (fun h => h hd)]
      by_cases hz0 : z < 0
      · have hy := hd.2 hz0
        have e : z = -(b : Int) := by omega
        rw [if_pos hz0]
        refine fdiv_uniq ?_ (.inr ⟨by omega, by omega⟩)
        rw [e, Int.neg_mul, hp]; omega
      · have hy : ¬ y < 0 := fun h => hz0 (hd.1 h)
        have e : z = (b : Int) := by omega
        rw [if_neg hz0]
        refine fdiv_uniq ?_ (.inl ⟨by omega, by omega⟩)
        rw [e, hp]; omega
    · have hR0 := hs.resolve_left hd
      rw [if_pos hd]
      by_cases hz0 : z < 0
      · have hy : ¬ y < 0 := fun h => hd ⟨fun _ => hz0, fun _ => h⟩
        have e : z = -(b : Int) := by omega
        rw [if_pos hz0]
        refine fdiv_uniq ?_ (.inr ⟨by omega, by omega⟩)
        rw [e, Int.neg_mul, Int.mul_neg, Int.neg_neg, hp]; omega
      · have hy : y < 0 := by rcases Classical.em (y < 0) with h | h; exact h; exact absurd ⟨fun h' => absurd h' h, fun h' => absurd h' hz0⟩ hd
        have e : z = (b : Int) := by omega
        rw [if_neg hz0]
        refine fdiv_uniq ?_ (.inl ⟨by omega, by omega⟩)
        rw [e, Int.mul_neg, hp]; omega
/-- lowest terms: the common factor -/
theorem divInt_factor {n d : Int} (hd : d ≠ 0) : ∃ m : Int, m ≠ 0 ∧ n = (Rat.divInt n d).num * m ∧ d = (Rat.divInt n d).den * m ∧ (Int.gcd n d : Int) = (m.natAbs : Int) ∧ (m < 0 ↔ d < 0) := by
  obtain ⟨m, hm, h1, h2⟩ := Rat.divInt_num_den (n := n) (d := d) (n' := (Rat.divInt n d).num) (d' := (Rat.divInt n d).den) (z' := (Rat.divInt n d).den_nz) (c := (Rat.divInt n d).reduced) hd rfl
  refine ⟨m, hm, h1, h2, ?_, ?_⟩
  · have hc := (Rat.divInt n d).reduced
    have key : ∀ (a : Int) (b : Nat), Nat.gcd a.natAbs b = 1 → Int.gcd (a * m) ((b : Int) * m) = m.natAbs := by
      intro a b h
      rw [Int.gcd_eq_natAbs_gcd_natAbs, Int.natAbs_mul, Int.natAbs_mul, Int.natAbs_natCast, Nat.gcd_mul_right, h, Nat.one_mul]
    have h3 := key _ _ hc
    rw [← h1, ← h2] at h3
    have this := h3
    rw [this]
  · have hp : (0 : Int) < (Rat.divInt n d).den := by have := (Rat.divInt n d).den_nz; omega
    constructor
    · intro h; rw [h2]; exact Int.mul_neg_of_pos_of_neg hp h
    · intro h
      rcases Int.lt_trichotomy m 0 with h' | h' | h'
      · exact h'
      · exact absurd h' hm
      · have := Int.mul_pos hp h'; omega
theorem fdiv_mul {q m : Int} (hm : m ≠ 0) : (q * m).fdiv m = q := by
  refine (fdiv_uniq (y := q * m) (z := m) (q := q) (r := 0) (by rw [Int.mul_comm]; omega) ?_).1
  omega
/-- by the common factor with the sign of the divisor -/
theorem red_num {n d g : Int} (hd : d ≠ 0) (hg : g = if d < 0 then -(Int.gcd n d : Int) else (Int.gcd n d : Int)) : n.fdiv g = (Rat.divInt n d).num ∧ d.fdiv g = ((Rat.divInt n d).den : Int) ∧ g ≠ 0 := by
  obtain ⟨m, hm, h1, h2, h3, h4⟩ := divInt_factor (n := n) hd
  have e : g = m := by
    rw [hg, h3]
    by_cases h : d < 0
    · rw [if_pos h]; have := h4.2 h; omega
    · rw [if_neg h]; have : ¬ m < 0 := fun h' => h (h4.1 h'); omega
  rw [e]
  refine ⟨?_, ?_, hm⟩
  · exact (congrArg (fun x => Int.fdiv x m) h1).trans (fdiv_mul hm)
  · exact (congrArg (fun x => Int.fdiv x m) h2).trans (fdiv_mul hm)
theorem divInt_neg_neg {n d : Int} : Rat.divInt (-n) (-d) = Rat.divInt n d := Rat.neg_divInt_neg n d
theorem gcd_neg_neg (n d : Int) : Int.gcd (-n) (-d) = Int.gcd n d := by rw [Int.neg_gcd, Int.gcd_neg]
theorem rat_gcd (q : Rat) : Int.gcd q.num q.den = 1 := by
  rw [Int.gcd_eq_natAbs_gcd_natAbs, Int.natAbs_natCast]
  exact q.reduced
theorem rat_zero (q : Rat) : q.num = 0 ↔ q = 0 := Rat.num_eq_zero
theorem rat_ext {p q : Rat} (h1 : p.num = q.num) (h2 : p.den = q.den) : p = q := Rat.ext h1 h2
theorem rat_lt (p q : Rat) : p < q ↔ p.num * q.den < q.num * p.den := Rat.lt_iff p q
theorem rat_eq (p q : Rat) : p = q ↔ p.num * q.den = q.num * p.den := by
  constructor
  · rintro rfl; rfl
  · intro h
    rw [← Rat.num_divInt_den p, ← Rat.num_divInt_den q]
    refine (Rat.divInt_eq_divInt_iff (by have := p.den_nz; omega) (by have := q.den_nz; omega)).2 h
/-- one group of a quotient, guessed from below -/
theorem guess_low {R b g top low P b1 bl : Nat} (hR : R = top * P + low) (hb : b = b1 * P + bl) (hl : low < P) (hbl : bl < P) (hg : g = top / (b1 + 1)) : g * b ≤ R := by
  have h1 : g * (b1 + 1) ≤ top := by rw [hg]; exact Nat.div_mul_le_self _ _
  have h2 : b ≤ (b1 + 1) * P := by rw [hb, Nat.add_mul]; omega
  have h3 : g * b ≤ g * ((b1 + 1) * P) := Nat.mul_le_mul_left _ h2
  have h4 : g * ((b1 + 1) * P) ≤ top * P := by rw [← Nat.mul_assoc]; exact Nat.mul_le_mul_right _ h1
  omega
end Go.Proofs.YtdmlebigkakplaaGreat
namespace Go.Fx
def CsJ (J : Nat) (X : List Nat) (w0 : World) (M : List Ent) (I : List Imm) : Nat → World → Prop := fun s w => s ≤ J → Mem X w0 M I w
section
variable {P : Program} {n : Nat} {Q Q' : Exit → Act → World → Prop} {G : Env} {X : List Nat} {w0 : World} {M M' M1 : List Ent} {I I' I1 : List Imm}
theorem TD_drawnJ {id : Nat} {l : List Oper} (J : Nat) (p ms : List Nat) (hx : P.follows .mixedOrders = true)
    (hp : (Region.noSelect l.toArray && orderOk l.toArray p ms (Array.replicate l.length false) && p.length == l.length) = true)
    (h : RD P n l Q (.any (CsJ J X w0 M I) 0 ms) (pick l p) G X w0 M I) : TD P n (.region id l.toArray true) Q G X w0 M I :=
  TD_drawnS (CsJ J X w0 M I) p ms hx (fun s w h hs => h (by omega)) hp (fun _ h _ => h) h
theorem TD_drawnJW {id : Nat} {l : List Oper} (J : Nat) (Ms : List Ent) (Is : List Imm) (p ms : List Nat) (hM : SubP M Ms) (hI : Inc I Is) (hx : P.follows .mixedOrders = true)
    (hp : (Region.noSelect l.toArray && orderOk l.toArray p ms (Array.replicate l.length false) && p.length == l.length) = true)
    (h : RD P n l Q (.any (CsJ J X w0 Ms Is) 0 ms) (pick l p) G X w0 M I) : TD P n (.region id l.toArray true) Q G X w0 M I :=
  TD_drawnS (CsJ J X w0 Ms Is) p ms hx (fun s w h hs => h (by omega)) hp (fun _ h _ => h.weak hM hI) h
theorem View.upto {J k : Nat} {ms : List Nat} (h : k + ms.headD 0 ≤ J) : View (.any (CsJ J X w0 M1 I1) k ms) X w0 M I M1 I1 := ⟨fun w w' _ hc => by
  have hc' : CsJ J X w0 M1 I1 (k + ms.headD 0) w' := hc
  exact hc' h⟩
theorem OkD.uptoN {J k : Nat} {ms : List Nat} (h : J ≤ k) : OkD (.any (CsJ J X w0 M1 I1) k ms) X w0 M I := ⟨fun w _ => by
  show CsJ J X w0 M1 I1 (k + 1) w
  intro hs
  omega⟩
theorem OkD.uptoY {J k : Nat} {ms : List Nat} (hM : SubP M M1) (hI : Inc I I1) : OkD (.any (CsJ J X w0 M1 I1) k ms) X w0 M I := ⟨fun w hw => by
  show CsJ J X w0 M1 I1 (k + 1) w
  exact fun _ => hw.weak hM hI⟩
theorem vwJ {m : Mode} (h : View m X w0 M I M1 I1 := by first | exact View.seq | exact View.any | exact View.one rfl | exact View.upto (by decide)) : View m X w0 M I M1 I1 := h
theorem okJ {m : Mode} (h : OkD m X w0 M I := by first | exact OkD.seq | exact OkD.one | exact OkD.any subP incL | exact OkD.uptoN (by decide) | exact OkD.uptoY subP incL) : OkD m X w0 M I := h
/- lending: what a function owns, lent to a callee that only reads -/
theorem Mem.lendB {w : World} {b : Nat} {cs : List Value} {e : TypeId} {I2 : List Imm} (hm : .blk b cs e ∈ M) (hw : Mem X w0 M I w) (h : Mem [] w [] I2 w) : Mem [] w [] (slI (some ⟨b, 0, none⟩) cs :: I2) w :=
  h.add (φ := slI (some ⟨b, 0, none⟩) cs) ⟨Blk.sl (X := muts []) (hw.blk hm) (by simp [muts]) 0 (fun j v hj => by simpa using hj)⟩
theorem Mem.lendR {w : World} {a : Option Addr} {mm c : Nat} {cs : List Value} {e : TypeId} {sz : Nat} {I2 : List Imm} (hm : .row a mm c cs e sz ∈ M) (hw : Mem X w0 M I w) (h : Mem [] w [] I2 w) : Mem [] w [] (slI a cs :: I2) w :=
  h.add (φ := slI a cs) ⟨(hw.rowS hm).1⟩
theorem Mem.lendI {w : World} {a : Option Addr} {cs : List Value} {I2 : List Imm} (hm : slI a cs ∈ I) (hw : Mem X w0 M I w) (h : Mem [] w [] I2 w) : Mem [] w [] (slI a cs :: I2) w :=
  h.add (φ := slI a cs) ⟨(hw.sl hm).less (fun _ hk => by simp [muts] at hk)⟩
theorem CD.lend {f : FuncId} {vs : List Value} {K : Value → Prop} (I2 : List Imm) (hI : ∀ w, Mem X w0 M I w → Mem [] w [] I2 w) (hc : ∀ W, CD P f vs [] W [] I2 (fun v _ _ => K v)) : CD P f vs X w0 M I (fun v M' I' => M = M' ∧ I = I' ∧ K v) :=
  ⟨fun w hw => ((hc w).go w (hI w hw)).mono (fun _ _ ⟨_, _, hk, hm⟩ => ⟨M, I, ⟨rfl, rfl, hk⟩, hw.call hm.ext⟩)⟩
theorem CD.val {f : FuncId} {vs : List Value} {K : Value → Prop} (h : CD P f vs X w0 M I (fun v M' I' => M = M' ∧ I = I' ∧ K v)) : CD P f vs X w0 M I (fun v _ _ => K v) := h.mono (fun _ _ _ h => h.2.2)
end
end Go.Fx
namespace Go.Fx
section
variable {α : Type} {enc : α → List Value} {sz : Nat}
theorem recs_drop [h : Sized enc sz] : ∀ (ms : List α) (l : Nat), recs enc (ms.drop l) = (recs enc ms).drop (l * sz)
  | ms, 0 => by simp
  | [], l + 1 => by simp [recs]
  | m :: r, l + 1 => by
    have e : recs enc (m :: r) = enc m ++ recs enc r := rfl
    have h1 : (l + 1) * sz = (enc m).length + l * sz := by rw [h.len, Nat.add_mul]; omega
    rw [List.drop_succ_cons, recs_drop r l, e, h1, List.drop_append, List.drop_of_length_le (show (enc m).length ≤ (enc m).length + l * sz by omega)]
    simp
theorem recs_take [h : Sized enc sz] : ∀ (ms : List α) (l : Nat), recs enc (ms.take l) = (recs enc ms).take (l * sz)
  | ms, 0 => by simp [recs]
  | [], l + 1 => by simp [recs]
  | m :: r, l + 1 => by
    have e : recs enc (m :: r) = enc m ++ recs enc r := rfl
    have e2 : recs enc ((m :: r).take (l + 1)) = enc m ++ recs enc (r.take l) := rfl
    have h1 : (l + 1) * sz = (enc m).length + l * sz := by rw [h.len, Nat.add_mul]; omega
    rw [e2, recs_take r l, e, h1, List.take_append, List.take_of_length_le (show (enc m).length ≤ (enc m).length + l * sz by omega)]
    simp
end
section
variable {P : Program} {n : Nat} {Q Q' : Exit → Act → World → Prop} {G : Env} {X : List Nat} {w0 : World} {M M' M1 : List Ent} {I I' I1 : List Imm}
theorem Mem.cutI {α : Type} {enc : α → List Value} {sz : Nat} [hz : Sized enc sz] {w : World} {a : Option Addr} {ms : List α} (c l m : Nat) (h : Mem X w0 M I w) (hm : slI a (recs enc ms) ∈ I) (hc : ms.length ≤ c) : Mem X w0 M (slI (cutA a c l sz) (recs enc ((ms.take m).drop l)) :: I) w :=
  h.add (φ := slI _ _) ⟨by
    rw [recs_drop, recs_take]
    exact (h.sl hm).cut c l (m * sz) sz (by rw [recs_len]; exact Nat.mul_le_mul_right _ hc)⟩
theorem RD_cutI {α : Type} {enc : α → List Value} {sz : Nat} [hz : Sized enc sz] {ops l : List Oper} {m : Mode} {a : Option Addr} {ms : List α} (c lo hi : Nat) (hm : slI a (recs enc ms) ∈ I) (hc : ms.length ≤ c) (h : RD P n ops Q m l G X w0 M (slI (cutA a c lo sz) (recs enc ((ms.take hi).drop lo)) :: I)) : RD P n ops Q m l G X w0 M I := RD_m (fun _ hw => hw.cutI c lo hi hm hc) h
theorem Const_cut {C : World → Prop} {ty t e : TypeId} {sz : Nat} {x : Operand} {lo hi : Option Operand} {a : Option Addr} {len c : Nat} (l h k : Nat) [ht : SliceTy P t e sz] (hx : ev G x = some (.slice a len c))
    (hl : (lo = none ∧ l = 0) ∨ ∃ y k i, lo = some y ∧ ev G y = some (.int k i) ∧ i = (l : Int)) (hh : (hi = none ∧ h = len) ∨ ∃ y k i, hi = some y ∧ ev G y = some (.int k i) ∧ i = (h : Int)) (h1 : l ≤ h) (h2 : h ≤ c) (hk : h - l = k) :
    Const P n G (.slice t x lo hi none) ty C (.slice (cutA a c l sz) k (c - l)) := by
  subst hk
  exact Const_slice hx (hl.imp id (fun ⟨y, k, i, h1, h2, h3⟩ => ⟨y, k, h1, by rw [← h3]; exact h2⟩)) (hh.imp id (fun ⟨y, k, i, h1, h2, h3⟩ => ⟨y, k, h1, by rw [← h3]; exact h2⟩)) h1 h2
theorem Const_xorI {C : World → Prop} {ty t t' : TypeId} {x y : Operand} {a b : Int} (hx : ev G x = some (.int .u64 a)) (hy : ev G y = some (.int .u64 b)) (ha : 0 ≤ a ∧ a ≤ 18446744073709551615) (hb : 0 ≤ b ∧ b ≤ 18446744073709551615) :
    Const P n G (.binOp .xor t x y t') ty C (.int .u64 ((a.toNat ^^^ b.toNat : Nat) : Int)) := by
  refine Const_xor64 ?_ ?_ (by omega) (by omega)
  · rw [hx]; congr 2; omega
  · rw [hy]; congr 2; omega
theorem ND_rowBlk {ex : Exit} {a : Option Addr} {mm c : Nat} {cs : List Value} {e : TypeId} {sz : Nat} (h0 : a = none → mm = 0 → cs = [] → ND n Q ex G X w0 (.row a mm c cs e sz :: M) I) (h1 : ∀ b tl, a = some ⟨b, 0, none⟩ → mm ≤ c → ND n Q ex G X w0 (.blk b (cs ++ tl) e :: M) I) : ND n Q ex G X w0 (.row a mm c cs e sz :: M) I :=
  ⟨fun w hw => by
    rcases hw.rowBlk with ⟨e1, e2, e3⟩ | ⟨b, tl, e1, e2, hm⟩
    · exact (h0 e1 e2 e3).go w hw
    · exact (h1 b tl e1 e2).go w hm⟩
theorem ND_row0 {ex : Exit} (e : TypeId) (sz : Nat) (h : ND n Q ex G X w0 (.row none 0 0 [] e sz :: M) I) : ND n Q ex G X w0 M I := ND_m (fun _ hw => hw.row0 e sz) h
theorem RD_toRow {ops l : List Oper} {m : Mode} {b mm : Nat} {cs : List Value} {e : TypeId} (sz : Nat) (hr : Rep (.blk b cs e) (.row (some ⟨b, 0, none⟩) mm mm cs e sz) M M') (hl : cs.length = mm * sz) (hm : mm ≤ 9223372036854775807) (h : RD P n ops Q m l G X w0 M' I) : RD P n ops Q m l G X w0 M I := RD_m (fun _ hw => hw.toRow sz hr hl hm) h
theorem CD.post {f : FuncId} {vs : List Value} {K K' : Value → List Ent → List Imm → Prop} (h : CD P f vs X w0 M I K) (hk : ∀ v M1 I1 w, K v M1 I1 → Mem X w0 M1 I1 w → ∃ M2 I2, K' v M2 I2 ∧ Mem X w0 M2 I2 w) : CD P f vs X w0 M I K' :=
  ⟨fun w hw => (h.go w hw).mono (fun _ _ ⟨_, _, h1, h2⟩ => hk _ _ _ _ h1 h2)⟩
theorem CD.pre {f : FuncId} {vs : List Value} {K : Value → List Ent → List Imm → Prop} (hM : ∀ w, Mem X w0 M I w → Mem X w0 M' I' w) (h : CD P f vs X w0 M' I' K) : CD P f vs X w0 M I K := ⟨fun w hw => h.go w (hM w hw)⟩
theorem CD_rowBlk {f : FuncId} {vs : List Value} {K : Value → List Ent → List Imm → Prop} {a : Option Addr} {mm c : Nat} {cs : List Value} {e : TypeId} {sz : Nat} (h0 : a = none → mm = 0 → cs = [] → c = 0 → CD P f vs X w0 M I K) (h1 : ∀ b tl, a = some ⟨b, 0, none⟩ → mm ≤ c → CD P f vs X w0 (.blk b (cs ++ tl) e :: M) I K) : CD P f vs X w0 (.row a mm c cs e sz :: M) I K :=
  ⟨fun w hw => by
    rcases hw.rowBlk with ⟨e1, e2, e3⟩ | ⟨b, tl, e1, e2, hm⟩
    · subst e1
      exact (h0 rfl e2 e3 hw.rowC).go w hw.tail
    · exact (h1 b tl e1 e2).go w hm⟩
/- two operations that change the world, in either order -/
theorem TD_alts {id : Nat} {l : List Oper} (p ms : List Nat) (al : List (List Nat × List Nat)) (hx : P.follows .mixedOrders = true)
    (hp : (Region.noSelect l.toArray && altsOk l.toArray p ms al) = true)
    (h : RD P n l (Alts P l Q (Cst X w0 M I) (cntE l.toArray p) al) (.any (Cst X w0 M I) 0 ms) (pick l p) G X w0 M I) : TD P n (.region id l.toArray true) Q G X w0 M I :=
  ⟨fun w hw => T_alts (Cst X w0 M I) p ms al hx (fun _ _ h => h) hp hw.drew (h.go w.drew hw.drew)⟩
theorem ND_alts2 {l : List Oper} {k k' : Nat} {p1 m1 p2 m2 : List Nat} (hk : k' = k) (h1 : RD P n l Q (.any (Cst X w0 M1 I1) k m1) (pick l p1) G X w0 M I) (h2 : RD P n l Q (.any (Cst X w0 M1 I1) k m2) (pick l p2) G X w0 M I) :
    ND n (Alts P l Q (Cst X w0 M1 I1) k' [(p1, m1), (p2, m2)]) .normal G X w0 M I := ⟨fun w hw => N_alts2 hk (h1.go w hw) (h2.go w hw)⟩
/-- two truth values compared -/
theorem Const_neBB {C : World → Prop} {ty t t' : TypeId} {x y : Operand} {p q : Prop} [Decidable p] [Decidable q] [ht : BoolTy P t] (hx : ev G x = some (.bool (B p))) (hy : ev G y = some (.bool (B q))) :
    Const P n G (.binOp .neq t x y t') ty C (.bool (B (¬ (p ↔ q)))) := by
  refine ⟨?_⟩
  intro s ha dst pos after guard w _
  have h : (!(B p == B q)) = B (¬ (p ↔ q)) := by
    rw [B_eq, B_eq, B_eq]
    by_cases hp : p <;> by_cases hq : q <;> simp [hp, hq]
  have e1 : (eqGuard .neq t x y (.bool (B p)) (.bool (B q))).run P w = .ok () w := rfl
  simp only [execOp, ha.ev hx, ha.ev hy, Sem.run_bind, e1, Result.andThen_ok, run_neq_bool _ t (B p) (B q) ht.und, Sem.run_pure, h]
theorem Mem.rowLe {w : World} {a : Option Addr} {m c : Nat} {cs : List Value} {e : TypeId} {sz : Nat} (h : Mem X w0 M I w) (hm : .row a m c cs e sz ∈ M) : m ≤ c := by
  have ho : w.ownsRow 0 e sz (.slice a m c) m cs := h.ent _ hm
  obtain ⟨a', c', hv, _, _, hle⟩ := own_sl ho
  injection hv with e1 e2 e3
  subst e3
  exact hle
end
end Go.Fx

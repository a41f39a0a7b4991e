/- Fractions as they come in: whatever bits, canonical or not. The plane of a line sensor, plain: slopes, conditions, the position. Drawn regions whose order forks more than once: what is left of a region as an end. -/
import Derived.Test.YtdmlebigkakplaaGreatZrsbd
import Derived.Test.YtdmlebigkakplaaGreatZrsau
set_option linter.unusedSimpArgs false
set_option linter.unusedVariables false
namespace Go.Proofs.YtdmlebigkakplaaGreat
open Go Go.Fx
/-- a fraction as it came in -/
structure RW where
  n1 : Bool
  p1 : Option Addr
  g1 : List Int
  c1 : Nat
  n2 : Bool
  p2 : Option Addr
  g2 : List Int
  c2 : Nat
instance : Inhabited RW := ⟨⟨false, none, [], 0, false, none, [], 0⟩⟩
abbrev eW (r : RW) : List Value := [.bool r.n1, .slice r.p1 r.g1.length r.c1, .bool r.n2, .slice r.p2 r.g2.length r.c2]
abbrev wv (r : RW) : Value := .agg #[.bool r.n1, .slice r.p1 r.g1.length r.c1, .bool r.n2, .slice r.p2 r.g2.length r.c2]
instance : Sized eW 4 := ⟨fun _ => rfl⟩
instance : Ones eW := ⟨fun m u hu => by
  simp only [eW, List.mem_cons, List.not_mem_nil, or_false] at hu
  rcases hu with rfl | rfl | rfl | rfl <;> rfl⟩
abbrev Cap (p : Option Addr) (n c : Nat) : Prop := n ≤ c ∧ (Ok p ∨ (p = none ∧ n = 0 ∧ c = 0))
structure RW.Fit (r : RW) : Prop where
  u1 : ∀ x ∈ r.g1, 0 ≤ x
  u2 : ∀ x ∈ r.g2, 0 ≤ x
  l1 : (r.g1.length : Int) ≤ 9223372036854775807
  l2 : (r.g2.length : Int) ≤ 9223372036854775807
  k1 : Cap r.p1 r.g1.length r.c1
  k2 : Cap r.p2 r.g2.length r.c2
structure IsW (r : RW) (X : List Nat) (w : World) : Prop where
  fit : r.Fit
  s1 : Sl X w r.p1 (recs eG r.g1)
  s2 : Sl X w r.p2 (recs eG r.g2)
abbrev isW (r : RW) : Imm := IsW r
instance (r : RW) : Fx.Good (IsW r) := ⟨fun X Y w w' h he hY => ⟨h.fit, Sl.carry h.s1 he hY, Sl.carry h.s2 he hY⟩⟩
/-- what a sign and groups stand for -/
def zI (n : Bool) (g : List Int) : Int := if n = true then -val g else val g
theorem can_int {n : Bool} {g : List Int} (h : CanR n g) (hu : ∀ x ∈ g, 0 ≤ x) : B (zI n g < 0) = n ∧ gr (zI n g).natAbs = g := by
  rcases h with ⟨rfl, rfl⟩ | ⟨h1, h2, h3⟩
  · exact ⟨B_false (by simp [zI, val]), by simp [zI, val, gr_zero]⟩
  · have hd : Dig g := fun x hx => ⟨hu x hx, by
      have : ¬ 1000000000 ≤ x := fun e => h3 ⟨x, hx, e⟩
      omega⟩
    have hc : Can g := ⟨hd, h2⟩
    have hp : 0 < g.length := by cases g with | nil => exact absurd rfl h1 | cons a l => simp
    have hv := val_ge hc hp
    have hpp := pow_pos9 (g.length - 1)
    have ha : (zI n g).natAbs = (val g).toNat := by unfold zI; split <;> omega
    refine ⟨?_, by rw [ha]; exact (gr_of hc).symm⟩
    cases n with
    | true => exact B_true (by simp only [zI, if_pos]; omega)
    | false => exact B_false (by simp only [zI]; rw [if_neg (by decide)]; omega)
theorem zI_self (z : Int) : zI (B (z < 0)) (gr z.natAbs) = z := by
  unfold zI
  rw [gr_val, B_eq]
  by_cases h : z < 0
  · rw [if_pos (by simpa using h)]; omega
  · rw [if_neg (by simpa using h)]; omega
theorem pow9_le (n : Nat) : (1000000000 : Nat) ^ n ≤ 2 ^ (30 * n) := by
  rw [Nat.pow_mul]
  exact Nat.pow_le_pow_left (by decide) n
theorem can_len {z : Int} : z.natAbs ≤ 2 ^ (30 * (gr z.natAbs).length) := by
  have h1 := val_lt (gr_dig z.natAbs)
  rw [gr_val] at h1
  have h2 := pow9_le (gr z.natAbs).length
  have h3 : ((1000000000 ^ (gr z.natAbs).length : Nat) : Int) = (1000000000 : Int) ^ (gr z.natAbs).length := by rw [Int.natCast_pow]; rfl
  omega
/-- canonical -/
def RW.good (r : RW) : Prop := CanR r.n1 r.g1 ∧ CanR r.n2 r.g2 ∧ 0 < zI r.n2 r.g2 ∧ Int.gcd (zI r.n1 r.g1) (zI r.n2 r.g2) = 1
instance (r : RW) : Decidable r.good := by unfold RW.good; exact inferInstance
def RE.raw (e : RE) : RW := ⟨B (e.q.num < 0), e.p1, gr e.q.num.natAbs, e.c1, B ((e.q.den : Int) < 0), e.p2, gr (e.q.den : Int).natAbs, e.c2⟩
theorem RE.raw_good (e : RE) : e.raw.good := by
  refine ⟨can_of _, can_of _, ?_, ?_⟩
  · show 0 < zI (B ((e.q.den : Int) < 0)) (gr (e.q.den : Int).natAbs)
    rw [zI_self]; have := e.q.den_nz; omega
  · show Int.gcd (zI (B (e.q.num < 0)) (gr e.q.num.natAbs)) (zI (B ((e.q.den : Int) < 0)) (gr (e.q.den : Int).natAbs)) = 1
    rw [zI_self, zI_self]
    exact e.q.reduced
theorem RW.good_raw {r : RW} (hf : r.Fit) (h : r.good) : ∃ e : RE, r = e.raw := by
  obtain ⟨n1, p1, g1, c1, n2, p2, g2, c2⟩ := r
  obtain ⟨h1, h2, h3, h4⟩ := h
  simp only at h1 h2 h3 h4
  obtain ⟨a1, a2⟩ := can_int h1 hf.u1
  obtain ⟨b1, b2⟩ := can_int h2 hf.u2
  generalize zI n1 g1 = z1 at *
  generalize zI n2 g2 = z2 at *
  subst a1; subst a2; subst b1; subst b2
  have e2 : ((z2.natAbs : Nat) : Int) = z2 := by omega
  refine ⟨⟨⟨z1, z2.natAbs, by omega, ?_⟩, p1, c1, p2, c2⟩, ?_⟩
  · exact h4
  · unfold RE.raw
    simp only [e2]
theorem RE.fit {e : RE} {k : Nat} {X : List Nat} {w : World} (hk : k ≤ 1000000000000) (h : IsR e k X w) : IsW e.raw X w := by
  obtain ⟨q, c, h1, h2, h3, h4⟩ := h.num.ex
  obtain ⟨q', c', i1, i2, i3, i4⟩ := h.den.ex
  simp only [iv, Value.agg.injEq, Array.mk.injEq, List.cons.injEq, Value.slice.injEq, and_true, true_and] at h1 i1
  obtain ⟨rfl, rfl⟩ := h1
  obtain ⟨rfl, rfl⟩ := i1
  have a1 := len_pow h3 hk
  have a2 := len_pow i3 hk
  exact ⟨⟨fun x hx => (gr_dig _ x hx).1, fun x hx => (gr_dig _ x hx).1, by show ((gr e.q.num.natAbs).length : Int) ≤ _; omega, by show ((gr (e.q.den : Int).natAbs).length : Int) ≤ _; omega, h2, i2⟩, h4, i4⟩
theorem RE.isR_raw {e : RE} {k : Nat} {X : List Nat} {w : World} (h : IsW e.raw X w) (k1 : 30 * e.raw.g1.length ≤ k) (k2 : 30 * e.raw.g2.length ≤ k) : IsR e k X w :=
  ⟨⟨⟨e.p1, e.c1, rfl, h.fit.k1, Nat.le_trans can_len (Nat.pow_le_pow_right (by decide) k1), h.s1⟩⟩, ⟨⟨e.p2, e.c2, rfl, h.fit.k2, Nat.le_trans can_len (Nat.pow_le_pow_right (by decide) k2), h.s2⟩⟩⟩
theorem Hv.ofW {I : List Imm} {e : RE} {k : Nat} (h : Hv I (isW e.raw)) (k1 : 30 * e.raw.g1.length ≤ k) (k2 : 30 * e.raw.g2.length ≤ k) : Hv I (isR e k) := ⟨fun X w hw => RE.isR_raw (h.go X w hw) k1 k2⟩
theorem Hv.toW {I : List Imm} {e : RE} {k : Nat} (h : Hv I (isR e k)) (hk : k ≤ 1000000000000) : Hv I (isW e.raw) := ⟨fun X w hw => RE.fit hk (h.go X w hw)⟩
section
variable {X : List Nat} {w0 : World} {M0 : List Ent} {I0 : List Imm}
theorem CD_openW {P : Program} {f : FuncId} {vs : List Value} {K : Value → Prop} {r : RW} (h : Hv I0 (isW r)) (c : r.Fit → CD P f vs X w0 M0 (slI r.p1 (recs eG r.g1) :: slI r.p2 (recs eG r.g2) :: I0) (fun v M I => M0 = M ∧ slI r.p1 (recs eG r.g1) :: slI r.p2 (recs eG r.g2) :: I0 = I ∧ K v)) :
    CD P f vs X w0 M0 I0 (fun v M I => M0 = M ∧ I0 = I ∧ K v) := ⟨fun w hw => by
  have hr : IsW r (muts M0) w := h.go _ _ (fun ψ hm => (hw.imm ψ hm).2)
  have hw' := (hw.add (φ := slI r.p2 (recs eG r.g2)) ⟨hr.s2⟩).add (φ := slI r.p1 (recs eG r.g1)) ⟨hr.s1⟩
  refine ((c hr.fit).go w hw').mono (fun _ _ h => ?_)
  obtain ⟨_, _, ⟨rfl, rfl, h3⟩, hm⟩ := h
  exact ⟨_, _, ⟨rfl, rfl, h3⟩, hm.inc (Inc.wk (Inc.wk Inc.refl))⟩⟩
theorem CD_closeZ {P : Program} {f : FuncId} {vs : List Value} {K : Value → Prop} {p : Option Addr} {c k : Nat} {z : Int} (hs : slI p (recs eG (gr z.natAbs)) ∈ I0) (hc : Cap p (gr z.natAbs).length c) (hk : 30 * (gr z.natAbs).length ≤ k) (h : CD P f vs X w0 M0 (isI (vI p c z) z k :: I0) (fun v M I => M0 = M ∧ isI (vI p c z) z k :: I0 = I ∧ K v)) :
    CD P f vs X w0 M0 I0 (fun v M I => M0 = M ∧ I0 = I ∧ K v) := ⟨fun w hw => by
  have hw' := closeI hw hs hc (Nat.le_trans can_len (Nat.pow_le_pow_right (by decide) hk))
  refine (h.go w hw').mono (fun _ _ h => ?_)
  obtain ⟨_, _, ⟨rfl, rfl, h3⟩, hm⟩ := h
  exact ⟨_, _, ⟨rfl, rfl, h3⟩, hm.inc (Inc.wk Inc.refl)⟩⟩
theorem cmp_one (n : Nat) : (cmpV (n : Int) 1 = 0) ↔ n = 1 := by
  unfold cmpV
  split
  · omega
  · split <;> omega
set_option maxRecDepth 100000 in
theorem Valid_ints {p1 p2 : Option Addr} {c1 c2 k : Nat} {y z : Int} (hk : k ≤ 500000000) (h1 : isI (vI p1 c1 y) y k ∈ I0) (h2 : isI (vI p2 c2 z) z k ∈ I0) :
    CD Tryz.prog 168 [.agg #[.bool (B (y < 0)), .slice p1 (gr y.natAbs).length c1, .bool (B (z < 0)), .slice p2 (gr z.natAbs).length c2]] X w0 M0 I0 (fun v M I => M0 = M ∧ I0 = I ∧ v = .bool (B (0 < z ∧ Int.gcd y z = 1))) := by
  have hV1 := fun M0 I0 h => iValid_ok (X := X) (w0 := w0) (M0 := M0) (I0 := I0) (u := vI p1 c1 y) (z := y) (k := k) (by omega) h
  have hV2 := fun M0 I0 h => iValid_ok (X := X) (w0 := w0) (M0 := M0) (I0 := I0) (u := vI p2 c2 z) (z := z) (k := k) (by omega) h
  have hS := fun M0 I0 => Sign_ok (X := X) (w0 := w0) (M0 := M0) (I0 := I0) (u := vI p2 c2 z) (z := z) (k := k) (by omega)
  have hs : z.sign ≤ 0 ↔ ¬ 0 < z := by rw [← Int.sign_pos_iff]; omega
  have hG := fun M0 I0 => Gcd_ok (X := X) (w0 := w0) (M0 := M0) (I0 := I0) (u := vI p1 c1 y) (v := vI p2 c2 z) (y := y) (z := z) (k0 := k) (m := k) (by omega) (by omega)
  generalize hg : Int.gcd y z = g at *
  have hC := fun u v M0 I0 => Compare_ok (X := X) (w0 := w0) (M0 := M0) (I0 := I0) (u := u) (v := v) (y := g) (z := 1) (k := k + k) (m := 63) (by omega) (by omega)
  have hc := cmp_one g
  generalize cmpV (g : Int) 1 = cv at *
  generalize z.sign = sz at *
  refine enterD1 Tryz.func168 rfl Tryz.ntmps168 rfl ?_
  refine TD_seq ?_
  refine TD_region ?_
  (refine RD_boxA rfl rfl rfl ?_; intro b; refine ⟨okF, ?_⟩)
  repeat (refine wXf ?_)
  (refine RD_callS rfl (hV1 _ _ memF) rfl rfl ?_; rintro _ _ _ ⟨rfl, rfl, rfl⟩; refine ⟨okF, ?_⟩)
  repeat (refine wXf ?_)
  (refine RD_callS rfl (hV2 _ _ memF) rfl rfl ?_; rintro _ _ _ ⟨rfl, rfl, rfl⟩; refine ⟨okF, ?_⟩)
  repeat (refine wXf ?_)
  (refine RD_callS rfl (hS _ _ memF) rfl rfl ?_; rintro _ _ _ ⟨rfl, rfl, rfl⟩; refine ⟨okF, ?_⟩)
  repeat' (first | refine wXf ?_ | (refine TD_isCo ?_; first | refine TD_dec rfl (fun h => ?_) (fun h => ?_) | refine TD_cond rfl (fun h => ?_) (fun h => ?_)) | (refine RD_isGu ?_; first | refine RD_grd rfl rfl (fun h => ?_) (fun h => ?_) | (fail_if_success (refine RD_isW rfl ?_); refine RD_grdB rfl rfl (fun h => ?_) (fun h => ?_))))
  · refine ND_ret1 (by first | exact .inl rfl | exact .inr rfl) rfl rfl _ _ subF incF (⟨rfl, rfl, congrArg Value.bool (B_false (fun e => hs.1 (by assumption) e.1)).symm⟩)
  (refine RD_callS rfl (hG _ _ memF memF) rfl rfl ?_; rintro _ _ _ ⟨rfl, rfl⟩; refine ⟨okF, ?_⟩)
  repeat (refine wXf ?_)
  (refine RD_callS rfl (OfZ_ok (x := 1) (by decide)) rfl rfl ?_; rintro _ _ _ ⟨rfl, rfl⟩; refine ⟨okF, ?_⟩)
  (refine RD_callS rfl (hC _ _ _ _ memF memF) rfl rfl ?_; rintro _ _ _ ⟨rfl, rfl, rfl⟩; refine ⟨okF, ?_⟩)
  repeat (refine wXf ?_)
  refine ND_ret1 (by first | exact .inl rfl | exact .inr rfl) rfl rfl _ _ subF incF (⟨rfl, rfl, congrArg Value.bool (B_congr ⟨fun e => ⟨by omega, hc.1 e⟩, fun e => hc.2 e.2⟩)⟩)
set_option maxRecDepth 100000 in
theorem rValid_ints {p1 p2 : Option Addr} {c1 c2 k : Nat} {y z : Int} (hk : k ≤ 100000000) (h1 : isI (vI p1 c1 y) y k ∈ I0) (h2 : isI (vI p2 c2 z) z k ∈ I0) :
    CD Tryz.prog 68 [.agg #[.bool (B (y < 0)), .slice p1 (gr y.natAbs).length c1, .bool (B (z < 0)), .slice p2 (gr z.natAbs).length c2]] X w0 M0 I0 (fun v M I => M0 = M ∧ I0 = I ∧ v = .bool (B (0 < z ∧ Int.gcd y z = 1))) := by
  have hV1 := fun M0 I0 h => rVal_okI (X := X) (w0 := w0) (M0 := M0) (I0 := I0) (u := vI p1 c1 y) (z := y) (k := k) (by omega) h
  have hV2 := fun M0 I0 h => rVal_okI (X := X) (w0 := w0) (M0 := M0) (I0 := I0) (u := vI p2 c2 z) (z := z) (k := k) (by omega) h
  have hS := fun M0 I0 => rSign_ok (X := X) (w0 := w0) (M0 := M0) (I0 := I0) (u := vI p2 c2 z) (z := z) (k := k) (by omega)
  have hs : z.sign ≤ 0 ↔ ¬ 0 < z := by rw [← Int.sign_pos_iff]; omega
  have hG := fun M0 I0 => rGcd_ok (X := X) (w0 := w0) (M0 := M0) (I0 := I0) (u := vI p1 c1 y) (v := vI p2 c2 z) (y := y) (z := z) (k0 := k) (m := k) (by omega) (by omega)
  generalize hg : Int.gcd y z = g at *
  have hC := fun u v M0 I0 => rCompare_ok (X := X) (w0 := w0) (M0 := M0) (I0 := I0) (u := u) (v := v) (y := g) (z := 1) (k := k + k) (m := 63) (by omega) (by omega)
  have hc := cmp_one g
  generalize cmpV (g : Int) 1 = cv at *
  generalize z.sign = sz at *
  refine enterD1 Tryz.func68 rfl Tryz.ntmps68 rfl ?_
  refine TD_seq ?_
  refine TD_region ?_
  (refine RD_boxA rfl rfl rfl ?_; intro b; refine ⟨okF, ?_⟩)
  repeat (refine wXf ?_)
  (refine RD_callS rfl (hV1 _ _ memF) rfl rfl ?_; rintro _ _ _ ⟨rfl, rfl, rfl⟩; refine ⟨okF, ?_⟩)
  repeat (refine wXf ?_)
  (refine RD_callS rfl (hV2 _ _ memF) rfl rfl ?_; rintro _ _ _ ⟨rfl, rfl, rfl⟩; refine ⟨okF, ?_⟩)
  repeat (refine wXf ?_)
  (refine RD_callS rfl (hS _ _ memF) rfl rfl ?_; rintro _ _ _ ⟨rfl, rfl, rfl⟩; refine ⟨okF, ?_⟩)
  repeat' (first | refine wXf ?_ | (refine TD_isCo ?_; first | refine TD_dec rfl (fun h => ?_) (fun h => ?_) | refine TD_cond rfl (fun h => ?_) (fun h => ?_)) | (refine RD_isGu ?_; first | refine RD_grd rfl rfl (fun h => ?_) (fun h => ?_) | (fail_if_success (refine RD_isW rfl ?_); refine RD_grdB rfl rfl (fun h => ?_) (fun h => ?_))))
  · refine ND_ret1 (by first | exact .inl rfl | exact .inr rfl) rfl rfl _ _ subF incF (⟨rfl, rfl, congrArg Value.bool (B_false (fun e => hs.1 (by assumption) e.1)).symm⟩)
  (refine RD_callS rfl (hG _ _ memF memF) rfl rfl ?_; rintro _ _ _ ⟨rfl, rfl⟩; refine ⟨okF, ?_⟩)
  repeat (refine wXf ?_)
  (refine RD_callS rfl (rwhole_ok (x := 1) (by decide)) rfl rfl ?_; rintro _ _ _ ⟨rfl, rfl⟩; refine ⟨okF, ?_⟩)
  (refine RD_callS rfl (hC _ _ _ _ memF memF) rfl rfl ?_; rintro _ _ _ ⟨rfl, rfl, rfl⟩; refine ⟨okF, ?_⟩)
  repeat (refine wXf ?_)
  refine ND_ret1 (by first | exact .inl rfl | exact .inr rfl) rfl rfl _ _ subF incF (⟨rfl, rfl, congrArg Value.bool (B_congr ⟨fun e => ⟨by omega, hc.1 e⟩, fun e => hc.2 e.2⟩)⟩)
set_option maxRecDepth 100000 in
/-- whether a number as it came in is canonical -/
theorem Valid_raw {r : RW} (hl : r.g1.length ≤ 1000000 ∧ r.g2.length ≤ 1000000) (h : Hv I0 (isW r)) :
    CD Tryz.prog 168 [wv r] X w0 M0 I0 (fun v M I => M0 = M ∧ I0 = I ∧ v = .bool (B r.good)) := by
  refine CD_openW h (fun hf => ?_)
  obtain ⟨n1, p1, g1, c1, n2, p2, g2, c2⟩ := r
  simp only at hl
  by_cases k1 : CanR n1 g1
  · by_cases k2 : CanR n2 g2
    · obtain ⟨a1, a2⟩ := can_int k1 hf.u1
      obtain ⟨b1, b2⟩ := can_int k2 hf.u2
      have hg : (RW.mk n1 p1 g1 c1 n2 p2 g2 c2).good ↔ (0 < zI n2 g2 ∧ Int.gcd (zI n1 g1) (zI n2 g2) = 1) := ⟨fun h => h.2.2, fun h => ⟨k1, k2, h⟩⟩
      rw [B_congr hg]
      generalize zI n1 g1 = y at *
      generalize zI n2 g2 = z at *
      subst a1; subst a2; subst b1; subst b2
      refine CD_closeZ (p := p1) (c := c1) (z := y) (k := 30000000) (List.Mem.head _) hf.k1 (by omega) ?_
      refine CD_closeZ (p := p2) (c := c2) (z := z) (k := 30000000) (List.Mem.tail _ (List.Mem.tail _ (List.Mem.head _))) hf.k2 (by omega) ?_
      exact Valid_ints (by omega) (List.Mem.tail _ (List.Mem.head _)) (List.Mem.head _)
    · have hg : ¬ (RW.mk n1 p1 g1 c1 n2 p2 g2 c2).good := fun h => k2 h.2.1
      rw [B_false hg]
      have hV1 := fun M0 I0 => Valid_ok (X := X) (w0 := w0) (M0 := M0) (I0 := I0) (neg := n1) (q := p1) (gs := g1) (c := c1) hf.l1
      have hV2 := fun M0 I0 => Valid_ok (X := X) (w0 := w0) (M0 := M0) (I0 := I0) (neg := n2) (q := p2) (gs := g2) (c := c2) hf.l2
      rw [B_true k1] at hV1
      rw [B_false k2] at hV2
      refine enterD1 Tryz.func168 rfl Tryz.ntmps168 rfl ?_
      refine TD_seq ?_
      refine TD_region ?_
      (refine RD_boxA rfl rfl rfl ?_; intro b; refine ⟨okF, ?_⟩)
      repeat (refine wXf ?_)
      (refine RD_callS rfl (hV1 _ _ memF) rfl rfl ?_; rintro _ _ _ ⟨rfl, rfl, rfl⟩; refine ⟨okF, ?_⟩)
      repeat (refine wXf ?_)
      (refine RD_callS rfl (hV2 _ _ memF) rfl rfl ?_; rintro _ _ _ ⟨rfl, rfl, rfl⟩; refine ⟨okF, ?_⟩)
      repeat (refine wXf ?_)
      refine ND_ret1 (by first | exact .inl rfl | exact .inr rfl) rfl rfl _ _ subF incF (⟨rfl, rfl, rfl⟩)
  · have hg : ¬ (RW.mk n1 p1 g1 c1 n2 p2 g2 c2).good := fun h => k1 h.1
    rw [B_false hg]
    have hV1 := fun M0 I0 => Valid_ok (X := X) (w0 := w0) (M0 := M0) (I0 := I0) (neg := n1) (q := p1) (gs := g1) (c := c1) hf.l1
    rw [B_false k1] at hV1
    refine enterD1 Tryz.func168 rfl Tryz.ntmps168 rfl ?_
    refine TD_seq ?_
    refine TD_region ?_
    (refine RD_boxA rfl rfl rfl ?_; intro b; refine ⟨okF, ?_⟩)
    repeat (refine wXf ?_)
    (refine RD_callS rfl (hV1 _ _ memF) rfl rfl ?_; rintro _ _ _ ⟨rfl, rfl, rfl⟩; refine ⟨okF, ?_⟩)
    repeat (refine wXf ?_)
    refine ND_ret1 (by first | exact .inl rfl | exact .inr rfl) rfl rfl _ _ subF incF (⟨rfl, rfl, rfl⟩)
set_option maxRecDepth 100000 in
/-- the same for the document's answer -/
theorem rValid_raw {r : RW} (hl : r.g1.length ≤ 1000000 ∧ r.g2.length ≤ 1000000) (h : Hv I0 (isW r)) :
    CD Tryz.prog 68 [wv r] X w0 M0 I0 (fun v M I => M0 = M ∧ I0 = I ∧ v = .bool (B r.good)) := by
  refine CD_openW h (fun hf => ?_)
  obtain ⟨n1, p1, g1, c1, n2, p2, g2, c2⟩ := r
  simp only at hl
  by_cases k1 : CanR n1 g1
  · by_cases k2 : CanR n2 g2
    · obtain ⟨a1, a2⟩ := can_int k1 hf.u1
      obtain ⟨b1, b2⟩ := can_int k2 hf.u2
      have hg : (RW.mk n1 p1 g1 c1 n2 p2 g2 c2).good ↔ (0 < zI n2 g2 ∧ Int.gcd (zI n1 g1) (zI n2 g2) = 1) := ⟨fun h => h.2.2, fun h => ⟨k1, k2, h⟩⟩
      rw [B_congr hg]
      generalize zI n1 g1 = y at *
      generalize zI n2 g2 = z at *
      subst a1; subst a2; subst b1; subst b2
      refine CD_closeZ (p := p1) (c := c1) (z := y) (k := 30000000) (List.Mem.head _) hf.k1 (by omega) ?_
      refine CD_closeZ (p := p2) (c := c2) (z := z) (k := 30000000) (List.Mem.tail _ (List.Mem.tail _ (List.Mem.head _))) hf.k2 (by omega) ?_
      exact rValid_ints (by omega) (List.Mem.tail _ (List.Mem.head _)) (List.Mem.head _)
    · have hg : ¬ (RW.mk n1 p1 g1 c1 n2 p2 g2 c2).good := fun h => k2 h.2.1
      rw [B_false hg]
      have hV1 := fun M0 I0 => rValid_ok (X := X) (w0 := w0) (M0 := M0) (I0 := I0) (neg := n1) (q := p1) (gs := g1) (c := c1) hf.l1
      have hV2 := fun M0 I0 => rValid_ok (X := X) (w0 := w0) (M0 := M0) (I0 := I0) (neg := n2) (q := p2) (gs := g2) (c := c2) hf.l2
      rw [B_true k1] at hV1
      rw [B_false k2] at hV2
      refine enterD1 Tryz.func68 rfl Tryz.ntmps68 rfl ?_
      refine TD_seq ?_
      refine TD_region ?_
      (refine RD_boxA rfl rfl rfl ?_; intro b; refine ⟨okF, ?_⟩)
      repeat (refine wXf ?_)
      (refine RD_callS rfl (hV1 _ _ memF) rfl rfl ?_; rintro _ _ _ ⟨rfl, rfl, rfl⟩; refine ⟨okF, ?_⟩)
      repeat (refine wXf ?_)
      (refine RD_callS rfl (hV2 _ _ memF) rfl rfl ?_; rintro _ _ _ ⟨rfl, rfl, rfl⟩; refine ⟨okF, ?_⟩)
      repeat (refine wXf ?_)
      refine ND_ret1 (by first | exact .inl rfl | exact .inr rfl) rfl rfl _ _ subF incF (⟨rfl, rfl, rfl⟩)
  · have hg : ¬ (RW.mk n1 p1 g1 c1 n2 p2 g2 c2).good := fun h => k1 h.1
    rw [B_false hg]
    have hV1 := fun M0 I0 => rValid_ok (X := X) (w0 := w0) (M0 := M0) (I0 := I0) (neg := n1) (q := p1) (gs := g1) (c := c1) hf.l1
    rw [B_false k1] at hV1
    refine enterD1 Tryz.func68 rfl Tryz.ntmps68 rfl ?_
    refine TD_seq ?_
    refine TD_region ?_
    (refine RD_boxA rfl rfl rfl ?_; intro b; refine ⟨okF, ?_⟩)
    repeat (refine wXf ?_)
    (refine RD_callS rfl (hV1 _ _ memF) rfl rfl ?_; rintro _ _ _ ⟨rfl, rfl, rfl⟩; refine ⟨okF, ?_⟩)
    repeat (refine wXf ?_)
    refine ND_ret1 (by first | exact .inl rfl | exact .inr rfl) rfl rfl _ _ subF incF (⟨rfl, rfl, rfl⟩)
end
end Go.Proofs.YtdmlebigkakplaaGreat
namespace Go.Proofs.YtdmlebigkakplaaGreat
open Go Go.Fx
/-- a vector of the plane -/
structure V2 where
  x : Rat
  y : Rat
deriving DecidableEq
namespace V2
def sub (a b : V2) : V2 := ⟨a.x - b.x, a.y - b.y⟩
def add (a b : V2) : V2 := ⟨a.x + b.x, a.y + b.y⟩
def dot (a b : V2) : Rat := a.x * b.x + a.y * b.y
def crs (a b : V2) : Rat := a.x * b.y - a.y * b.x
def scl (a : V2) (k : Rat) : V2 := ⟨k * a.x, k * a.y⟩
def sd (a : V2) : V2 := ⟨a.y, -a.x⟩
def z0 (a : V2) : Prop := a.x = 0 ∧ a.y = 0
instance (a : V2) : Decidable a.z0 := by unfold z0; exact inferInstance
end V2
/-- the numbers of a slope -/
def ahd (c f p : V2) : Rat := (p.sub c).dot f
def slp (c f p : V2) : Rat := (p.sub c).dot f.sd / ahd c f p
/-- the condition of a point: the factor of the square, the vector -/
def cnA (own org : Rat) : Rat := own - org
def cnB (p : V2) (own org : Rat) : V2 := ((p.sd).scl (-(1 + own * org))).sub (p.scl (own - org))
def mtZ (a0 a1 : Rat) (b0 b1 : V2) : V2 := ((b0.sd).scl a1).sub ((b1.sd).scl a0)
def mtC (a0 a1 : Rat) (b0 b1 : V2) : V2 := (mtZ a0 a1 b0 b1).scl (b0.crs b1 / (mtZ a0 a1 b0 b1).dot (mtZ a0 a1 b0 b1))
theorem sq_pos {x y : Rat} (h : ¬ (x = 0 ∧ y = 0)) : 0 < x * x + y * y := by
  have hx : 0 ≤ x * x := by
    rcases (Rat.le_total : 0 ≤ x ∨ x ≤ 0) with h | h
    · exact Rat.mul_nonneg h h
    · have h2 : 0 ≤ -x := by grind
      have := Rat.mul_nonneg h2 h2
      grind
  have hy : 0 ≤ y * y := by
    rcases (Rat.le_total : 0 ≤ y ∨ y ≤ 0) with h | h
    · exact Rat.mul_nonneg h h
    · have h2 : 0 ≤ -y := by grind
      have := Rat.mul_nonneg h2 h2
      grind
  by_cases h1 : x = 0
  · have h2 : y ≠ 0 := fun e => h ⟨h1, e⟩
    have : y * y ≠ 0 := fun e => by rcases Rat.mul_eq_zero.1 e with e | e <;> exact h2 e
    grind
  · have : x * x ≠ 0 := fun e => by rcases Rat.mul_eq_zero.1 e with e | e <;> exact h1 e
    grind
/-- a position from which two points are seen obeys the condition -/
theorem cond_of {f q o : V2} {t s : Rat} (hf : ¬ f.z0) (h1 : t * q.dot f = q.dot f.sd) (h2 : s * o.dot f = o.dot f.sd) :
    cnA t s * o.dot o + (cnB (q.sub o) t s).dot (o.scl (-1)) = 0 := by
  have hp := sq_pos hf
  have key : (f.x * f.x + f.y * f.y) * (cnA t s * o.dot o + (cnB (q.sub o) t s).dot (o.scl (-1))) = 0 := by
    simp only [cnA, cnB, V2.sub, V2.dot, V2.scl, V2.sd] at *
    grind
  rcases Rat.mul_eq_zero.1 key with h | h
  · grind
  · exact h
/-- the only other point that obeys two conditions -/
theorem meet_of {a0 a1 : Rat} {b0 b1 c : V2} (hd : b0.crs b1 ≠ 0) (hc : ¬ c.z0) (h0 : a0 * c.dot c + b0.dot c = 0) (h1 : a1 * c.dot c + b1.dot c = 0) :
    ¬ (mtZ a0 a1 b0 b1).z0 ∧ mtC a0 a1 b0 b1 = c := by
  have hp : 0 < c.dot c := sq_pos hc
  have hx : (mtZ a0 a1 b0 b1).x * c.dot c = b0.crs b1 * c.x := by
    simp only [mtZ, V2.sub, V2.dot, V2.scl, V2.sd, V2.crs] at *
    grind
  have hy : (mtZ a0 a1 b0 b1).y * c.dot c = b0.crs b1 * c.y := by
    simp only [mtZ, V2.sub, V2.dot, V2.scl, V2.sd, V2.crs] at *
    grind
  have hz : ¬ (mtZ a0 a1 b0 b1).z0 := by
    rintro ⟨e1, e2⟩
    rw [e1] at hx
    rw [e2] at hy
    have g1 : b0.crs b1 * c.x = 0 := by grind
    have g2 : b0.crs b1 * c.y = 0 := by grind
    exact hc ⟨(Rat.mul_eq_zero.1 g1).resolve_left hd, (Rat.mul_eq_zero.1 g2).resolve_left hd⟩
  refine ⟨hz, ?_⟩
  have hq : 0 < (mtZ a0 a1 b0 b1).dot (mtZ a0 a1 b0 b1) := sq_pos hz
  have hs : (mtZ a0 a1 b0 b1).dot (mtZ a0 a1 b0 b1) * c.dot c = b0.crs b1 * b0.crs b1 := by
    generalize mtZ a0 a1 b0 b1 = z at *
    have e : (z.dot z * c.dot c) * c.dot c = (b0.crs b1 * b0.crs b1) * c.dot c := by
      simp only [V2.dot] at *
      grind
    grind
  unfold mtC
  generalize mtZ a0 a1 b0 b1 = z at *
  generalize b0.crs b1 = d at *
  generalize hq' : z.dot z = q at *
  generalize hp' : c.dot c = r at *
  have ex : d / q * z.x = c.x := by
    have : q * (d / q * z.x) = q * c.x := by
      rw [← Rat.mul_assoc, Rat.mul_comm q, Rat.div_mul_cancel (by grind)]
      have : r * (d * z.x) = r * (q * c.x) := by grind
      grind
    grind
  have ey : d / q * z.y = c.y := by
    have : q * (d / q * z.y) = q * c.y := by
      rw [← Rat.mul_assoc, Rat.mul_comm q, Rat.div_mul_cancel (by grind)]
      have : r * (d * z.y) = r * (q * c.y) := by grind
      grind
    grind
  cases c
  simp only [V2.scl, V2.mk.injEq]
  exact ⟨ex, ey⟩
/-- the axis that is found is a multiple of the axis -/
theorem axis_of {f o : V2} {s : Rat} (h2 : s * o.dot f = o.dot f.sd) : (o.sub (o.sd.scl s)).scl (f.dot f) = f.scl (o.dot f * (1 + s * s)) := by
  simp only [V2.sub, V2.dot, V2.scl, V2.sd, V2.mk.injEq] at *
  constructor <;> grind
end Go.Proofs.YtdmlebigkakplaaGreat
namespace Go.Fx
def Rest (P : Program) (l : List Oper) (Q : Exit → Act → World → Prop) (Cs : Nat → World → Prop) (fuel k : Nat) (listed : Array Bool) : Exit → Act → World → Prop
  | .normal, a, w => wpAnyC P l.toArray Q Cs fuel k listed a w
  | _, _, _ => False
section
variable {P : Program} {n : Nat} {Q : Exit → Act → World → Prop} {G : Env} {w : World} {l : List Oper} {Cs : Nat → World → Prop}
theorem N_restPre {fuel fuel' k : Nat} {listed listed' : Array Bool} (p ms : List Nat) (hm : ∀ s w, Cs s w → Cs (s + 1) w) (hs : Region.noSelect l.toArray = true) (hok : orderPre l.toArray p ms listed = some listed') (hf : fuel' = fuel + p.length) (hsz : listed.size = l.toArray.size) (hC : Cs k w)
    (h : R P n l (Rest P l Q Cs fuel (k + cntE l.toArray p) listed') (.any Cs k ms) (pick l p) G w) : N n (Rest P l Q Cs fuel' k listed) .normal G w := ⟨fun a ha => by
  subst hf
  exact any_prefix hm hs p ms k listed a w hC hsz hok (fun _ _ _ _ hq => hq) (h.go a ha)⟩
theorem N_restEnd {fuel k : Nat} {listed : Array Bool} (p ms : List Nat) (hm : ∀ s w, Cs s w → Cs (s + 1) w) (hs : Region.noSelect l.toArray = true) (hok : orderOk l.toArray p ms listed = true) (hf : fuel = p.length) (hsz : listed.size = l.toArray.size) (hC : Cs k w)
    (h : R P n l Q (.any Cs k ms) (pick l p) G w) : N n (Rest P l Q Cs fuel k listed) .normal G w := ⟨fun a ha => by
  subst hf
  exact any_of_order hm hs p ms k listed a w hC hsz hok (h.go a ha)⟩
theorem rest_one {fuel k i : Nat} {listed : Array Bool} {o : Oper} {a : Act} (hi : l.toArray[i]? = some o) (hk : freeK o.op = false)
    (h : wpM P l.toArray (Rest P l Q Cs fuel (k + 1) (listed.setIfInBounds i true)) (.any Cs k []) (pick l [i]) a w) :
    wpOp P l.toArray QF i (fun a' w' => Cs (k + eAt l.toArray i) w' ∧ wpAnyC P l.toArray Q Cs fuel (k + eAt l.toArray i) (listed.setIfInBounds i true) a' w') a w := by
  have hg : nth l i = o := nth_eq l i o (by simpa using hi)
  simp only [pick, hg] at h
  rw [eAt_eff hi hk]
  unfold wpOp
  simp only [hi]
  by_cases hw : Region.wanted o (yielded l.toArray a.tmps) = true
  · rw [if_pos hw]
    rcases h.1 hw with ⟨hk2, _⟩ | ⟨_, hk2⟩
    · rw [hk] at hk2; cases hk2
    · exact .inl (Oper.wp_mono (fun a' w' ⟨h1, h2⟩ => ⟨h1, h2⟩) hk2)
  · rw [if_neg hw]
    obtain ⟨hh1, hh2⟩ := h.2 (by simpa using hw)
    simp only [Mode.held, hk, cond_false] at hh1
    exact ⟨hh1, hh2⟩
def effB (ops : Array Oper) (i : Nat) : Bool :=
  match ops[i]? with
  | some o => !freeK o.op
  | none => false
theorem N_restFork {fuel k i j : Nat} {listed : Array Bool} (hr : (Region.ready .any l.toArray listed == [i, j] && effB l.toArray i && effB l.toArray j) = true)
    (h1 : R P n l (Rest P l Q Cs fuel (k + 1) (listed.setIfInBounds i true)) (.any Cs k []) (pick l [i]) G w)
    (h2 : R P n l (Rest P l Q Cs fuel (k + 1) (listed.setIfInBounds j true)) (.any Cs k []) (pick l [j]) G w) : N n (Rest P l Q Cs (fuel + 1) k listed) .normal G w := ⟨fun a ha => by
  simp only [Bool.and_eq_true, beq_iff_eq] at hr
  obtain ⟨⟨hr, e1⟩, e2⟩ := hr
  have get : ∀ x, effB l.toArray x = true → ∃ o, l.toArray[x]? = some o ∧ freeK o.op = false := fun x hx => by
    unfold effB at hx
    cases ho : l.toArray[x]? with
    | none => simp [ho] at hx
    | some o => simp [ho] at hx; exact ⟨o, rfl, hx⟩
  obtain ⟨o1, ho1, hk1⟩ := get i e1
  obtain ⟨o2, ho2, hk2⟩ := get j e2
  refine ⟨fun h0 => (by rw [hr] at h0; cases h0), fun x hx => ?_⟩
  rw [hr] at hx
  simp only [List.mem_cons, List.not_mem_nil, or_false] at hx
  rcases hx with rfl | rfl
  · exact rest_one ho1 hk1 (h1.go a ha)
  · exact rest_one ho2 hk2 (h2.go a ha)⟩
theorem N_restFork3 {fuel k i j m : Nat} {listed : Array Bool} (hr : (Region.ready .any l.toArray listed == [i, j, m] && effB l.toArray i && effB l.toArray j && effB l.toArray m) = true)
    (h1 : R P n l (Rest P l Q Cs fuel (k + 1) (listed.setIfInBounds i true)) (.any Cs k []) (pick l [i]) G w)
    (h2 : R P n l (Rest P l Q Cs fuel (k + 1) (listed.setIfInBounds j true)) (.any Cs k []) (pick l [j]) G w)
    (h3 : R P n l (Rest P l Q Cs fuel (k + 1) (listed.setIfInBounds m true)) (.any Cs k []) (pick l [m]) G w) : N n (Rest P l Q Cs (fuel + 1) k listed) .normal G w := ⟨fun a ha => by
  simp only [Bool.and_eq_true, beq_iff_eq] at hr
  obtain ⟨⟨⟨hr, e1⟩, e2⟩, e3⟩ := hr
  have get : ∀ x, effB l.toArray x = true → ∃ o, l.toArray[x]? = some o ∧ freeK o.op = false := fun x hx => by
    unfold effB at hx
    cases ho : l.toArray[x]? with
    | none => simp [ho] at hx
    | some o => simp [ho] at hx; exact ⟨o, rfl, hx⟩
  obtain ⟨o1, ho1, hk1⟩ := get i e1
  obtain ⟨o2, ho2, hk2⟩ := get j e2
  obtain ⟨o3, ho3, hk3⟩ := get m e3
  refine ⟨fun h0 => (by rw [hr] at h0; cases h0), fun x hx => ?_⟩
  rw [hr] at hx
  simp only [List.mem_cons, List.not_mem_nil, or_false] at hx
  rcases hx with rfl | rfl | rfl
  · exact rest_one ho1 hk1 (h1.go a ha)
  · exact rest_one ho2 hk2 (h2.go a ha)
  · exact rest_one ho3 hk3 (h3.go a ha)⟩
theorem T_rest {id : Nat} (Cs : Nat → World → Prop) (hx : P.follows .mixedOrders = true) (h : N n (Rest P l Q Cs l.length 0 (Array.replicate l.length false)) .normal G w.drew) : T P n (.region id l.toArray true) Q G w := ⟨fun a ha => by
  refine wp_region_any hx ?_
  have := h.go a ha
  have e : l.toArray.size = l.length := by simp
  rw [e]
  exact wpAny_of_C _ _ _ _ _ this⟩
end
section
variable {P : Program} {n : Nat} {Q : Exit → Act → World → Prop} {G : Env} {X : List Nat} {w0 : World} {M M1 : List Ent} {I I1 : List Imm} {l : List Oper}
theorem TD_rest {id : Nat} (M1 : List Ent) (I1 : List Imm) (hx : P.follows .mixedOrders = true) (h : ND n (Rest P l Q (Cst X w0 M1 I1) l.length 0 (Array.replicate l.length false)) .normal G X w0 M I) : TD P n (.region id l.toArray true) Q G X w0 M I :=
  ⟨fun w hw => T_rest (Cst X w0 M1 I1) hx (h.go w.drew hw.drew)⟩
theorem ND_restPre {fuel fuel' k : Nat} {listed listed' : Array Bool} (p ms : List Nat) (hM : SubP M M1) (hI : Inc I I1) (hs : Region.noSelect l.toArray = true) (hok : orderPre l.toArray p ms listed = some listed') (hf : fuel' = fuel + p.length) (hsz : listed.size = l.toArray.size)
    (h : RD P n l (Rest P l Q (Cst X w0 M1 I1) fuel (k + cntE l.toArray p) listed') (.any (Cst X w0 M1 I1) k ms) (pick l p) G X w0 M I) : ND n (Rest P l Q (Cst X w0 M1 I1) fuel' k listed) .normal G X w0 M I :=
  ⟨fun w hw => N_restPre p ms (fun _ _ h => h) hs hok hf hsz (hw.weak hM hI) (h.go w hw)⟩
theorem ND_restEnd {fuel k : Nat} {listed : Array Bool} (p ms : List Nat) (hM : SubP M M1) (hI : Inc I I1) (hs : Region.noSelect l.toArray = true) (hok : orderOk l.toArray p ms listed = true) (hf : fuel = p.length) (hsz : listed.size = l.toArray.size)
    (h : RD P n l Q (.any (Cst X w0 M1 I1) k ms) (pick l p) G X w0 M I) : ND n (Rest P l Q (Cst X w0 M1 I1) fuel k listed) .normal G X w0 M I :=
  ⟨fun w hw => N_restEnd p ms (fun _ _ h => h) hs hok hf hsz (hw.weak hM hI) (h.go w hw)⟩
theorem ND_restFork {fuel k i j : Nat} {listed : Array Bool} (hr : (Region.ready .any l.toArray listed == [i, j] && effB l.toArray i && effB l.toArray j) = true)
    (h1 : RD P n l (Rest P l Q (Cst X w0 M1 I1) fuel (k + 1) (listed.setIfInBounds i true)) (.any (Cst X w0 M1 I1) k []) (pick l [i]) G X w0 M I)
    (h2 : RD P n l (Rest P l Q (Cst X w0 M1 I1) fuel (k + 1) (listed.setIfInBounds j true)) (.any (Cst X w0 M1 I1) k []) (pick l [j]) G X w0 M I) : ND n (Rest P l Q (Cst X w0 M1 I1) (fuel + 1) k listed) .normal G X w0 M I :=
  ⟨fun w hw => N_restFork hr (h1.go w hw) (h2.go w hw)⟩
theorem ND_restFork3 {fuel k i j m : Nat} {listed : Array Bool} (hr : (Region.ready .any l.toArray listed == [i, j, m] && effB l.toArray i && effB l.toArray j && effB l.toArray m) = true)
    (h1 : RD P n l (Rest P l Q (Cst X w0 M1 I1) fuel (k + 1) (listed.setIfInBounds i true)) (.any (Cst X w0 M1 I1) k []) (pick l [i]) G X w0 M I)
    (h2 : RD P n l (Rest P l Q (Cst X w0 M1 I1) fuel (k + 1) (listed.setIfInBounds j true)) (.any (Cst X w0 M1 I1) k []) (pick l [j]) G X w0 M I)
    (h3 : RD P n l (Rest P l Q (Cst X w0 M1 I1) fuel (k + 1) (listed.setIfInBounds m true)) (.any (Cst X w0 M1 I1) k []) (pick l [m]) G X w0 M I) : ND n (Rest P l Q (Cst X w0 M1 I1) (fuel + 1) k listed) .normal G X w0 M I :=
  ⟨fun w hw => N_restFork3 hr (h1.go w hw) (h2.go w hw) (h3.go w hw)⟩
end
end Go.Fx

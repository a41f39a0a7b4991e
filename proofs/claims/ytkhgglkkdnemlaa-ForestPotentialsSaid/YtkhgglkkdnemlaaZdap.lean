/- Forest: the law ForestPotentials, walked. -/
import Derived.Test.YtkhgglkkdnemlaaZdao
import Derived.Test.YtkhgglkkdnemlaaZdai
set_option linter.unusedSimpArgs false
set_option linter.unusedVariables false
namespace Go.Proofs.Ytkhgglkkdnemlaa
open Go Go.Fx
theorem okP.fix {n : Nat} {ms : List LK} {l : List Int} (h : okP n ms l) : hasFix ms (fun v => 0 ≤ v ∧ v < (n : Int)) :=
  h.2.2.fix (M := 274877906944) (fun s hs => by
    have := h.2.1 s.toNat (by omega)
    rw [Int.toNat_of_nonneg hs.1] at this
    exact this.2)
theorem okP.le {n : Nat} {ms : List LK} {l d : List Int} {kn : List Bool} (h : okP n ms l) (h0 : ∀ j : Nat, j < n → gt l j ≤ 0) (hF : Fix ms (fun v => 0 ≤ v ∧ v < (n : Int)) (OD d kn)) (hk : ∀ v : Int, 0 ≤ v → v < n → OD d kn v = some (gt d v)) {i : Nat} (hi : i < n) : gt l i ≤ gt d i := by
  obtain ⟨j, hw⟩ := hF.sound _ _ (hk i (by omega) (by omega))
  have := h.2.2.wk (M := 0) (fun s hs => by
    have := h0 s.toNat (by omega)
    rwa [Int.toNat_of_nonneg hs.1] at this) hw
  omega
theorem B_get {p : Prop} [Decidable p] (h : B p = true) : p := by
  by_cases hp : p
  · exact hp
  · rw [B_false hp] at h; simp at h
section
variable {X : List Nat} {w0 : World} {M0 : List Ent} {I0 : List Imm}
set_option maxRecDepth 100000 in
set_option maxHeartbeats 4000000 in
theorem LPotentials_ok {p q1 q2 : Option Addr} {N : Int} {ms : List LK} {l1 l2 : List Int} {c c1 c2 : Nat} (hm2 : (ms.length : Int) ≤ 9223372036854775807) (hl1 : (l1.length : Int) ≤ 9223372036854775807) (hl2 : (l2.length : Int) ≤ 9223372036854775807) (hp : slI p (recs eK ms) ∈ I0) (hq1 : slI q1 (recs (eI .i64) l1) ∈ I0) (hq2 : slI q2 (recs (eI .i64) l2) ∈ I0) :
    CD Try.prog 5 [gv N p ms.length c, .slice q1 l1.length c1, .slice q2 l2.length c2] X w0 M0 I0 (fun v _ _ => v = .bool true) := by
  have hR := fun M0 I0 h => rgCheck_ok (X := X) (w0 := w0) (M0 := M0) (I0 := I0) (p := p) (N := N) (ms := ms) (c := c) rfl hm2 h
  obtain ⟨m, hm⟩ : ∃ m, ms.length = m := ⟨_, rfl⟩
  obtain ⟨t1, ht1⟩ : ∃ t, l1.length = t := ⟨_, rfl⟩
  obtain ⟨t2, ht2⟩ : ∃ t, l2.length = t := ⟨_, rfl⟩
  rw [hm] at hR hm2
  rw [ht1] at hl1
  rw [ht2] at hl2
  rw [hm, ht1, ht2]
  refine enterD3 Try.func5 rfl Try.ntmps5 rfl ?_
  refine TD_seq ?_
  refine TD_region ?_
  (refine RD_boxA rfl rfl rfl ?_; intro b3; refine ⟨okF, ?_⟩)
  refine RD_freezeB .here ?_
  repeat (refine wXh ?_)
  (refine RD_callS rfl (known11_ok) rfl rfl ?_; rintro _ _ _ ⟨rfl, rfl, rfl⟩; refine ⟨okF, ?_⟩)
  repeat (refine wXh ?_)
  (refine RD_callS rfl (few_ok) rfl rfl ?_; rintro _ _ _ ⟨rfl, rfl, rfl⟩; refine ⟨okF, ?_⟩)
  by_cases hf : N ≤ 10 ∧ m ≤ 24
  rotate_left
  · rw [B_false hf]
    repeat (refine wXh ?_)
    refine ND_ret1 (by first | exact .inl rfl | exact .inr rfl) rfl rfl _ _ subF incF (rfl)
  rw [B_true hf]
  repeat (refine wXh ?_)
  (refine RD_callS rfl (hR _ _ memF) rfl rfl ?_; rintro _ _ _ ⟨rfl, rfl, rfl⟩; refine ⟨okF, ?_⟩)
  by_cases hc : gcode N ms = 0
  rotate_left
  · generalize gcode N ms = e at *
    repeat (refine wXh ?_)
    refine ND_ret1 (by first | exact .inl rfl | exact .inr rfl) rfl rfl _ _ subF incF (rfl)
  rw [hc]
  by_cases h20 : t1 ≤ 20
  rotate_left
  · repeat (refine wXh ?_)
    refine ND_ret1 (by first | exact .inl rfl | exact .inr rfl) rfl rfl _ _ subF incF (rfl)
  by_cases h40 : t2 ≤ 40
  rotate_left
  · repeat (refine wXh ?_)
    refine ND_ret1 (by first | exact .inl rfl | exact .inr rfl) rfl rfl _ _ subF incF (rfl)
  obtain ⟨n, rfl, hn, hl, hg⟩ := gd_gcode hc
  rw [hm] at hl
  clear hR hc
  by_cases hx : hasFix ms (fun v => 0 ≤ v ∧ v < (n : Int))
  rotate_left
  · have hE := fun M0 I0 h1 h2 => EqI_ok (X := X) (w0 := w0) (M0 := M0) (I0 := I0) (p := none) (q := none) (a := []) (b := []) (c := 0) (c' := 0) (by decide) h1 h2
    rw [B_true rfl] at hE
    repeat (refine wXh ?_)
    (refine RD_callS rfl (Potentials_no (by omega) hm (by omega) hg hx memF) rfl rfl ?_; rintro _ _ _ ⟨rfl, rfl, rfl⟩; refine ⟨okF, ?_⟩)
    repeat (refine wXh ?_)
    (refine RD_callS rfl (rPot_no (by omega) hm (by omega) hg hx memF) rfl rfl ?_; rintro _ _ _ ⟨rfl, rfl, rfl⟩; refine ⟨okF, ?_⟩)
    repeat (refine wXh ?_)
    refine RD_m (fun _ hw => hw.nilS none) ?_
    (refine RD_callS rfl (hE _ _ memF memF) rfl rfl ?_; rintro _ _ _ ⟨rfl, rfl, rfl⟩; refine ⟨okF, ?_⟩)
    repeat (refine wXh ?_)
    (refine RD_callS rfl (CheckPot_ok (by omega) hm (by omega) hg ht1 hl1 memF memF) rfl rfl ?_; rintro _ _ _ ⟨rfl, rfl, e, rfl, he, _⟩; refine ⟨okF, ?_⟩)
    have he0 : e ≠ 0 := fun h => hx (he.1 h).fix
    clear he
    repeat (refine wXh ?_)
    refine ND_ret1 (by first | exact .inl rfl | exact .inr rfl) rfl rfl _ _ subF incF (rfl)
  repeat (refine wXh ?_)
  (refine RD_callS rfl (Potentials_ok (by omega) hm (by omega) hg hx memF) rfl rfl ?_; rintro _ _ _ ⟨rfl, d, kn, q3, c3, rfl, hF, ld, lk, rfl⟩; refine ⟨okF, ?_⟩)
  repeat (refine wXh ?_)
  (refine RD_callS rfl (rPot_ok (by omega) hm (by omega) hg hF ld memF) rfl rfl ?_; rintro _ _ _ ⟨rfl, q4, c4, rfl, hdo, hdk, rfl⟩; refine ⟨okF, ?_⟩)
  repeat (refine wXh ?_)
  have hE := fun M0 I0 h1 h2 => EqI_ok (X := X) (w0 := w0) (M0 := M0) (I0 := I0) (p := q3) (q := q4) (a := d) (b := d) (c := c3) (c' := c4) (by omega) h1 h2
  rw [B_true rfl, ld] at hE
  (refine RD_callS rfl (hE _ _ memF memF) rfl rfl ?_; rintro _ _ _ ⟨rfl, rfl, rfl⟩; refine ⟨okF, ?_⟩)
  repeat (refine wXh ?_)
  (refine RD_callS rfl (CheckPot_ok (by omega) hm (by omega) hg ld (by omega) memF memF) rfl rfl ?_; rintro _ _ _ ⟨rfl, rfl, e, rfl, he, _⟩; refine ⟨okF, ?_⟩)
  obtain rfl := he.2 hdo
  clear he
  repeat (refine wXh ?_)
  (refine RD_callS rfl (CheckPot_ok (by omega) hm (by omega) hg ht1 hl1 memF memF) rfl rfl ?_; rintro _ _ _ ⟨rfl, rfl, e, rfl, he, _⟩; refine ⟨okF, ?_⟩)
  by_cases he0 : e = 0
  rotate_left
  · clear he
    repeat (refine wXh ?_)
    refine ND_ret1 (by first | exact .inl rfl | exact .inr rfl) rfl rfl _ _ subF incF (rfl)
  have hq := he.1 he0
  subst he0
  clear he
  have htn : t1 = n := ht1.symm.trans hq.1
  subst htn
  repeat (refine wXh ?_)
  refine TD_loop [1, 2, 3, 7, 81, 82] rfl (fun k G M I => ∃ (i : Nat) (f : Bool), i ≤ t1 ∧ k = t1 - i ∧ (f = true → ∀ j : Nat, j < i → gt l1 j ≤ 0) ∧ G = [(11, .bool f), (83, .int .i64 i)] ∧ M0 = M ∧ I = slI q4 (recs (eI .i64) d) :: slI q3 (recs (eI .i64) d) :: slI (some ⟨b3, 0, none⟩) [.int .i64 t1, .slice p m c] :: I0) (t1) _ _ _ subG subF incF (⟨0, true, by omega, rfl, fun _ j hj => by omega, rfl, rfl, rfl⟩) ?_
  rintro kk G M I ⟨i, f, hi, rfl, hfl, rfl, rfl, rfl⟩
  by_cases hit : i < t1
  · cases f
    · repeat (refine wXh ?_)
      refine ND_again (t1 - (i + 1)) _ _ _ (by first | omega | (simp only [List.length_append, List.length_cons, List.length_nil]; omega)) subG subF incF (⟨i + 1, false, by omega, rfl, fun h => absurd h (by decide), rfl, rfl, rfl⟩)
    · repeat (refine wXh ?_)
      refine ND_again (t1 - (i + 1)) _ _ _ (by first | omega | (simp only [List.length_append, List.length_cons, List.length_nil]; omega)) subG subF incF (⟨i + 1, _, by omega, rfl, fun h j hj => ?_, rfl, rfl, rfl⟩)
      have h0 := B_get h
      by_cases e : j = i
      · subst e; omega
      · exact hfl rfl j (by omega)
  obtain rfl : i = t1 := by omega
  repeat (refine wXh ?_)
  refine TD_loop [1, 2, 3, 7, 11, 93, 94] rfl (fun k G M I => ∃ (i1 : Nat), i1 ≤ i ∧ k = i - i1 ∧ G = [(95, .int .i64 i1)] ∧ M0 = M ∧ I = slI q4 (recs (eI .i64) d) :: slI q3 (recs (eI .i64) d) :: slI (some ⟨b3, 0, none⟩) [.int .i64 i, .slice p m c] :: I0) (i) _ _ _ subG subF incF (⟨0, by omega, rfl, rfl, rfl, rfl⟩) ?_
  rintro kk G M I ⟨i1, hi1, rfl, rfl, rfl, rfl⟩
  by_cases hit1 : i1 < i
  · cases f
    · repeat (refine wXh ?_)
      refine ND_again (i - (i1 + 1)) _ _ _ (by first | omega | (simp only [List.length_append, List.length_cons, List.length_nil]; omega)) subG subF incF (⟨i1 + 1, by omega, rfl, rfl, rfl, rfl⟩)
    · have hle := hq.le (hfl rfl) hF hdk hit1
      repeat (refine wXh ?_)
      refine ND_again (i - (i1 + 1)) _ _ _ (by first | omega | (simp only [List.length_append, List.length_cons, List.length_nil]; omega)) subG subF incF (⟨i1 + 1, by omega, rfl, rfl, rfl, rfl⟩)
  obtain rfl : i1 = i := by omega
  clear hfl
  have hqb : ∀ v : Int, 0 ≤ v → v < i1 → -274877906944 ≤ gt l1 v ∧ gt l1 v ≤ 274877906944 := fun v h0 hv => by
    have := hq.2.1 v.toNat (by omega)
    rwa [Int.toNat_of_nonneg h0] at this
  repeat (refine wXh ?_)
  refine TD_loop [1, 2, 3, 110, 111] rfl (fun k G M I => ∃ (i2 : Nat) (x : Int), i2 ≤ t2 ∧ k = t2 - i2 ∧ x.natAbs ≤ i2 * 1073741824 ∧ (i2 ≠ 0 → (0 ≤ gt l2 0 ∧ gt l2 0 < m) ∧ (0 ≤ gt l2 ((i2 : Int) - 1) ∧ gt l2 ((i2 : Int) - 1) < m) ∧ gt l1 (gt ms (gt l2 ((i2 : Int) - 1))).b - gt l1 (gt ms (gt l2 0)).a ≤ x) ∧ G = [(16, .int .i64 x), (112, .int .i64 i2)] ∧ M0 = M ∧ I = slI q4 (recs (eI .i64) d) :: slI q3 (recs (eI .i64) d) :: slI (some ⟨b3, 0, none⟩) [.int .i64 i1, .slice p m c] :: I0) (t2) _ _ _ subG subF incF (⟨0, 0, by omega, rfl, by decide, fun h => absurd rfl h, rfl, rfl, rfl⟩) ?_
  rintro kk G M I ⟨i2, x, hi2, rfl, hxb, hch, rfl, rfl, rfl⟩
  have hb2 := Wk.mul (a := i2) (b := 40) (by omega)
  by_cases hit2 : i2 < t2
  · obtain ⟨z, hz2⟩ : ∃ z, gt l2 (i2 : Int) = z := ⟨_, rfl⟩
    by_cases hz0 : z < 0
    · repeat (refine wXh ?_)
      rw [hz2]
      repeat (refine wXh ?_)
      (repeat refine TD_seq ?_); refine TD_drawnJ 0 [0, 1, 2, 3, 4, 5, 6, 7, 8, 9, 10, 11, 12, 13, 14, 15, 16, 17, 18, 19, 20, 21, 22, 23, 24, 25, 26, 27, 28, 29, 30, 31] [0, 0, 0, 0, 0, 0, 0, 0, 0, 0, 0, 0, 0, 0, 0, 0, 0, 0, 0, 0, 0, 0, 0, 0, 0, 0, 0, 0, 0, 0, 0, 0] mixed (by kernel_rfl) ?_
      repeat (refine wXh ?_)
      refine ND_ret1 (by first | exact .inl rfl | exact .inr rfl) rfl rfl _ _ subF incF (rfl)
    by_cases hzm : (m : Int) ≤ z
    · repeat (refine wXh ?_)
      rw [hz2]
      repeat (refine wXh ?_)
      (repeat refine TD_seq ?_); refine TD_drawnJ 0 [0, 1, 2, 3, 4, 5, 6, 7, 8, 9, 10, 11, 12, 13, 14, 15, 16, 17, 18, 19, 20, 21, 22, 23, 24, 25, 26, 27, 28, 29, 30, 31] [0, 0, 0, 0, 0, 0, 0, 0, 0, 0, 0, 0, 0, 0, 0, 0, 0, 0, 0, 0, 0, 0, 0, 0, 0, 0, 0, 0, 0, 0, 0, 0] mixed (by kernel_rfl) ?_
      repeat (refine wXh ?_)
      refine ND_ret1 (by first | exact .inl rfl | exact .inr rfl) rfl rfl _ _ subF incF (rfl)
    have hA := hg.a z (by omega) (by omega)
    have hB := hg.b z (by omega) (by omega)
    have hW := hg.w z (by omega) (by omega)
    have hbA := hqb _ hA.1 hA.2
    have hP := hq.2.2 z (by omega) (by omega)
    have hb3 := Wk.mul (a := i2 + 1) (b := 40) (by omega)
    unfold wt at hW hP
    by_cases hi0 : i2 = 0
    · have hz3 : gt l2 0 = z := by rw [← hz2, hi0]; rfl
      clear hch
      repeat (refine wXh ?_)
      rw [hz2]
      repeat (refine wXh ?_)
      (repeat refine TD_seq ?_); refine TD_drawnJ 0 [0, 1, 2, 3, 4, 5, 6, 7, 8, 9, 10, 11, 12, 13, 14, 15, 16, 17, 18, 19, 20, 21, 22, 23, 24, 25, 26, 27, 28, 29, 30, 31] [0, 0, 0, 0, 0, 0, 0, 0, 0, 0, 0, 0, 0, 0, 0, 0, 0, 0, 0, 0, 0, 0, 0, 0, 0, 0, 0, 0, 0, 0, 0, 0] mixed (by kernel_rfl) ?_
      repeat (refine wXh ?_)
      refine ND_again (t2 - (i2 + 1)) _ _ _ (by first | omega | (simp only [List.length_append, List.length_cons, List.length_nil]; omega)) subG subF incF (⟨i2 + 1, _, by omega, rfl, by omega, fun _ => ?_, rfl, rfl, rfl⟩)
      rw [show (((i2 + 1 : Nat) : Int)) - 1 = 0 by omega, hz3]
      refine ⟨⟨by omega, by omega⟩, ⟨by omega, by omega⟩, by omega⟩
    · obtain ⟨h1, h2, h3⟩ := hch hi0
      by_cases hba : (gt ms (gt l2 ((i2 : Int) - 1))).b = (gt ms z).a
      rotate_left
      · repeat (refine wXh ?_)
        rw [hz2]
        repeat (refine wXh ?_)
        (repeat refine TD_seq ?_); refine TD_drawnJ 0 [0, 1, 2, 3, 4, 5, 6, 7, 8, 9, 10, 11, 12, 13, 14, 15, 16, 17, 18, 19, 20, 21, 22, 23, 24, 25, 26, 27, 28, 29, 30, 31] [0, 0, 0, 0, 0, 0, 0, 0, 0, 0, 0, 0, 0, 0, 0, 0, 0, 0, 0, 0, 0, 0, 0, 0, 0, 0, 0, 0, 0, 0, 0, 0] mixed (by kernel_rfl) ?_
        repeat (refine wXh ?_)
        refine ND_ret1 (by first | exact .inl rfl | exact .inr rfl) rfl rfl _ _ subF incF (rfl)
      rw [hba] at h3
      repeat (refine wXh ?_)
      rw [hz2]
      repeat (refine wXh ?_)
      (repeat refine TD_seq ?_); refine TD_drawnJ 0 [0, 1, 2, 3, 4, 5, 6, 7, 8, 9, 10, 11, 12, 13, 14, 15, 16, 17, 18, 19, 20, 21, 22, 23, 24, 25, 26, 27, 28, 29, 30, 31] [0, 0, 0, 0, 0, 0, 0, 0, 0, 0, 0, 0, 0, 0, 0, 0, 0, 0, 0, 0, 0, 0, 0, 0, 0, 0, 0, 0, 0, 0, 0, 0] mixed (by kernel_rfl) ?_
      repeat (refine wXh ?_)
      refine ND_again (t2 - (i2 + 1)) _ _ _ (by first | omega | (simp only [List.length_append, List.length_cons, List.length_nil]; omega)) subG subF incF (⟨i2 + 1, _, by omega, rfl, by omega, fun _ => ?_, rfl, rfl, rfl⟩)
      rw [show (((i2 + 1 : Nat) : Int)) - 1 = (i2 : Int) by omega, hz2]
      refine ⟨h1, ⟨by omega, by omega⟩, by omega⟩
  · obtain rfl : i2 = t2 := by omega
    by_cases hi0 : i2 = 0
    · clear hch
      repeat (refine wXh ?_)
      (repeat refine TD_seq ?_); refine TD_drawnJ 0 [0, 1, 2, 3, 4, 5, 6, 7, 8, 9, 10, 11, 12, 13, 14, 15, 16, 17, 18, 19, 20, 21, 22, 23, 24, 25, 26, 27, 28, 29, 30, 31, 32, 33] [0, 0, 0, 0, 0, 0, 0, 0, 0, 0, 0, 0, 0, 0, 0, 0, 0, 0, 0, 0, 0, 0, 0, 0, 0, 0, 0, 0, 0, 0, 0, 0, 0, 0] mixed (by kernel_rfl) ?_
      repeat (refine wXh ?_)
      refine ND_ret1 (by first | exact .inl rfl | exact .inr rfl) rfl rfl _ _ subF incF (rfl)
    · obtain ⟨h1, h2, h3⟩ := hch hi0
      have hB := hg.b _ h2.1 (by omega)
      have hA := hg.a _ h1.1 (by omega)
      have hbA := hqb _ hA.1 hA.2
      have hbB := hqb _ hB.1 hB.2
      repeat (refine wXh ?_)
      (repeat refine TD_seq ?_); refine TD_drawnJ 0 [0, 1, 2, 3, 4, 5, 6, 7, 8, 9, 10, 11, 12, 13, 14, 15, 16, 17, 18, 19, 20, 21, 22, 23, 24, 25, 26, 27, 28, 29, 30, 31, 32, 33] [0, 0, 0, 0, 0, 0, 0, 0, 0, 0, 0, 0, 0, 0, 0, 0, 0, 0, 0, 0, 0, 0, 0, 0, 0, 0, 0, 0, 0, 0, 0, 0, 0, 0] mixed (by kernel_rfl) ?_
      repeat (refine wXh ?_)
      refine ND_ret1 (by first | exact .inl rfl | exact .inr rfl) rfl rfl _ _ subF incF (congrArg Value.bool (B_true h3))
end
end Go.Proofs.Ytkhgglkkdnemlaa

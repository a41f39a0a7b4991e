/- fiducialref01: Divide -/
import Derived.Test.YtdmlebigkakplaaGreatZmbb
import Derived.Test.YtdmlebigkakplaaGreatZmat
import Derived.Test.YtdmlebigkakplaaGreatZmau
set_option linter.unusedSimpArgs false
set_option linter.unusedVariables false
--XF
namespace Go.Proofs.YtdmlebigkakplaaGreat
open Go Go.Fx
theorem divide_sg {y z : Int} (hz : z ≠ 0) : ((y < 0 ↔ z < 0) ∨ y.natAbs % z.natAbs = 0 → sg (¬ (y < 0 ↔ z < 0)) (y.natAbs / z.natAbs) = y.fdiv z) ∧ (¬ (y < 0 ↔ z < 0) → y.natAbs % z.natAbs ≠ 0 → sg (¬ (y < 0 ↔ z < 0)) (y.natAbs / z.natAbs) - 1 = y.fdiv z) := by
  have h := fdiv_abs (y := y) hz
  refine ⟨fun h1 => by rw [(h.2 h1).1]; rfl, fun h1 h2 => ?_⟩
  rw [(h.1 h1 h2).1]
  unfold sg
  rw [if_pos h1]; omega
theorem ite_abs (p : Prop) [Decidable p] (n : Nat) : (if p then -(n : Int) else (n : Int)).natAbs = n := by split <;> omega
theorem fdiv_le {y z : Int} (hz : z ≠ 0) : (y.fdiv z).natAbs ≤ y.natAbs := by
  have h := fdiv_abs (y := y) hz
  have hz1 : 0 < z.natAbs := by omega
  have hab := Nat.div_add_mod y.natAbs z.natAbs
  have hbQ : y.natAbs / z.natAbs ≤ z.natAbs * (y.natAbs / z.natAbs) := Nat.le_mul_of_pos_left _ hz1
  by_cases h1 : (y < 0 ↔ z < 0) ∨ y.natAbs % z.natAbs = 0
  · rw [(h.2 h1).1, ite_abs]; exact Nat.div_le_self _ _
  · have h2 : y.natAbs % z.natAbs ≠ 0 := fun h' => h1 (.inr h')
    rw [(h.1 (fun h' => h1 (.inl h')) h2).1]
    generalize y.natAbs / z.natAbs = Q at *
    generalize y.natAbs % z.natAbs = R at *
    generalize z.natAbs * Q = p at *
    clear h h1
    omega
theorem fmod_le {y z : Int} (hz : z ≠ 0) : (y.fmod z).natAbs ≤ z.natAbs := by
  have h := fdiv_abs (y := y) hz
  have hz1 : 0 < z.natAbs := by omega
  have hlt := Nat.mod_lt y.natAbs hz1
  by_cases h1 : (y < 0 ↔ z < 0) ∨ y.natAbs % z.natAbs = 0
  · rw [(h.2 h1).2, ite_abs]; omega
  · rw [(h.1 (fun h' => h1 (.inl h')) (fun h' => h1 (.inr h'))).2, ite_abs]; omega
theorem fmod_eq (y z : Int) : y - (y.fdiv z) * z = y.fmod z := by rw [Int.fmod_def, Int.mul_comm]
section
variable {X : List Nat} {w0 : World} {M0 : List Ent} {I0 : List Imm}
set_option maxRecDepth 100000 in
set_option maxHeartbeats 1000000 in
theorem rDivide_ok {u v : Value} {y z : Int} {k m : Nat} (hk : k ≤ 1000000000) (hm : m ≤ 1000000000) (hz0 : z ≠ 0) (hu : isI u y k ∈ I0) (hv : isI v z m ∈ I0) :
    CD Tryz.prog 220 [u, v] X w0 M0 I0 (DvP (y.fdiv z) (y.fmod z) k m M0 I0) := by
  refine CD_openI hu (fun q cq e hc hy => ?_)
  subst e
  refine CD_openI (List.Mem.tail _ hv) (fun q' cq' e hc' hz => ?_)
  subst e
  have hly := gr_len_pow hy
  have hlz := gr_len_pow hz
  have hlz1 : ¬ (gr z.natAbs).length = 0 := fun e => by have := gr_nil.1 (List.eq_nil_of_length_eq_zero e); omega
  have hr0 : (gr (y.natAbs % z.natAbs)).length = 0 ↔ y.natAbs % z.natAbs = 0 := by rw [List.length_eq_zero_iff, gr_nil]
  have hqb : y.natAbs / z.natAbs ≤ 2 ^ k := natdiv_le_pow hy
  have hlq := gr_len_pow hqb
  have hdv := divide_sg (y := y) hz0
  have hfl : (y.fdiv z).natAbs ≤ 2 ^ k := Nat.le_trans (fdiv_le hz0) hy
  have hml : (y.fmod z).natAbs ≤ 2 ^ m := Nat.le_trans (fmod_le hz0) hz
  have hO := fun (p1 p2 : Option Addr) (c1 c2 : Nat) (h1 : OkC p1 y.natAbs c1) M0 I0 => parts_ok (X := X) (w0 := w0) (M0 := M0) (I0 := I0) (p := p1) (q := p2) (m := y.natAbs) (n := z.natAbs) (cp := c1) (cq := c2) (by omega) (by omega) (by omega) h1
  have hV1 := fun M0 I0 => rValue_ok (X := X) (w0 := w0) (M0 := M0) (I0 := I0) (q := q) (c := cq) hy (by omega) hc
  have hV2 := fun M0 I0 => rValue_ok (X := X) (w0 := w0) (M0 := M0) (I0 := I0) (q := q') (c := cq') hz (by omega) hc'
  have hMd := fun (q : Option Addr) (c2 : Nat) (h1 : OkC q (y.natAbs / z.natAbs) c2) M0 I0 => rmade_ok (X := X) (w0 := w0) (M0 := M0) (I0 := I0) (p := ¬ (y < 0 ↔ z < 0)) (n := y.natAbs / z.natAbs) (q := q) (l := gr (y.natAbs / z.natAbs)) (c := c2) (k := k) (by omega) h1.1 h1.2 (gr_dig _) (gr_val _) hqb
  have hMu := fun u v M0 I0 => rMul_ok (X := X) (w0 := w0) (M0 := M0) (I0 := I0) (u := u) (v := v) (y := y.fdiv z) (z := z) (k0 := k) (m0 := m) (by omega)
  have hSb := fun u v M0 I0 => rSub_ok (X := X) (w0 := w0) (M0 := M0) (I0 := I0) (u := u) (v := v) (y := y) (z := y.fdiv z * z) (k := k) (m := k + m) (c := k + (k + m) + 1) (by omega) (by omega) (by omega) (pow_sum _ _)
  have hSo := fun u v M0 I0 => rSub_ok (X := X) (w0 := w0) (M0 := M0) (I0 := I0) (u := u) (v := v) (y := sg (¬ (y < 0 ↔ z < 0)) (y.natAbs / z.natAbs)) (z := 1) (k := k) (m := 0) (c := k + 0 + 1) (by omega) (by omega) (by omega) (pow_sum _ _)
  rw [fmod_eq] at hSb
  obtain ⟨s0, hs0⟩ : ∃ s, s = sg (¬ (y < 0 ↔ z < 0)) (y.natAbs / z.natAbs) := ⟨_, rfl⟩
  rw [← hs0] at hMd hSo hdv
  clear hs0
  unfold iv
  by_cases hA : ¬ (y < 0 ↔ z < 0) ∧ ¬ (gr (y.natAbs % z.natAbs)).length = 0
  · obtain ⟨hA1, hA2⟩ := hA
    have e1 := hdv.2 hA1 (fun h => hA2 (hr0.2 h))
    rw [e1] at hSo
    clear hdv hr0 hqb
    obtain ⟨fd, hfd⟩ : ∃ s, s = y.fdiv z := ⟨_, rfl⟩
    obtain ⟨fm, hfm⟩ : ∃ s, s = y.fmod z := ⟨_, rfl⟩
    obtain ⟨Q, hQ⟩ : ∃ s, s = y.natAbs / z.natAbs := ⟨_, rfl⟩
    obtain ⟨R, hR⟩ : ∃ s, s = y.natAbs % z.natAbs := ⟨_, rfl⟩
    rw [← hfd] at hMu hSb hSo hfl ⊢
    rw [← hfm] at hSb hml ⊢
    rw [← hQ] at hO hMd hlq
    rw [← hR] at hO hA2
    clear hfd hfm hQ hR e1
    refine enterD2 Tryz.func220 rfl Tryz.ntmps220 rfl ?_
    refine TD_seq ?_
    refine TD_region ?_
    (refine RD_boxA rfl rfl rfl ?_; intro b; refine ⟨okF, ?_⟩)
    (refine RD_boxA rfl rfl rfl ?_; intro b2; refine ⟨okF, ?_⟩)
    (refine RD_alloc rfl rfl ?_; intro b3; refine ⟨okF, ?_⟩)
    (refine RD_alloc rfl rfl ?_; intro b4; refine ⟨okF, ?_⟩)
    repeat' (first | refine wXf ?_ | (refine TD_isCo ?_; first | refine TD_dec rfl (fun h => ?_) (fun h => ?_) | refine TD_cond rfl (fun h => ?_) (fun h => ?_)) | (refine RD_isGu ?_; first | refine RD_grd rfl rfl (fun h => ?_) (fun h => ?_) | (fail_if_success (refine RD_isW rfl ?_); refine RD_grdB rfl rfl (fun h => ?_) (fun h => ?_))))
    (repeat refine TD_seq ?_); refine TD_drawnJ 2 [0, 2, 1, 3, 4, 5] [1, 2, 0, 0, 0, 0] mixed (by kernel_rfl) ?_
    repeat' (first | refine wXf ?_ | (refine TD_isCo ?_; first | refine TD_dec rfl (fun h => ?_) (fun h => ?_) | refine TD_cond rfl (fun h => ?_) (fun h => ?_)) | (refine RD_isGu ?_; first | refine RD_grd rfl rfl (fun h => ?_) (fun h => ?_) | (fail_if_success (refine RD_isW rfl ?_); refine RD_grdB rfl rfl (fun h => ?_) (fun h => ?_))))
    (refine RD_callS rfl (hV1 _ _ memF) rfl rfl ?_; rintro _ _ _ ⟨rfl, q3, c3, rfl, hc3, rfl⟩; refine ⟨okF, ?_⟩)
    repeat' (first | refine wXf ?_ | (refine TD_isCo ?_; first | refine TD_dec rfl (fun h => ?_) (fun h => ?_) | refine TD_cond rfl (fun h => ?_) (fun h => ?_)) | (refine RD_isGu ?_; first | refine RD_grd rfl rfl (fun h => ?_) (fun h => ?_) | (fail_if_success (refine RD_isW rfl ?_); refine RD_grdB rfl rfl (fun h => ?_) (fun h => ?_))))
    (refine RD_callS rfl (hV2 _ _ memF) rfl rfl ?_; rintro _ _ _ ⟨rfl, q4, c4, rfl, hc4, rfl⟩; refine ⟨okF, ?_⟩)
    repeat' (first | refine wXf ?_ | (refine TD_isCo ?_; first | refine TD_dec rfl (fun h => ?_) (fun h => ?_) | refine TD_cond rfl (fun h => ?_) (fun h => ?_)) | (refine RD_isGu ?_; first | refine RD_grd rfl rfl (fun h => ?_) (fun h => ?_) | (fail_if_success (refine RD_isW rfl ?_); refine RD_grdB rfl rfl (fun h => ?_) (fun h => ?_))))
    (refine RD_callS rfl (hO q3 q4 c3 c4 hc3 _ _ memF memF) rfl rfl ?_; rintro _ _ _ ⟨rfl, p1, c1, p2, c2, ho1, ho2, rfl, rfl⟩; refine ⟨okF, ?_⟩)
    repeat' (first | refine wXf ?_ | (refine TD_isCo ?_; first | refine TD_dec rfl (fun h => ?_) (fun h => ?_) | refine TD_cond rfl (fun h => ?_) (fun h => ?_)) | (refine RD_isGu ?_; first | refine RD_grd rfl rfl (fun h => ?_) (fun h => ?_) | (fail_if_success (refine RD_isW rfl ?_); refine RD_grdB rfl rfl (fun h => ?_) (fun h => ?_))))
    (refine RD_callS rfl (hMd p1 c1 ho1 _ _ memF) rfl rfl ?_; rintro _ _ _ ⟨rfl, rfl⟩; refine ⟨okF, ?_⟩; refine RD_openI (List.Mem.head _) (fun q5 c5 e__ hc5 hz5 => ?_); subst e__)
    unfold iv
    repeat' (first | refine wXf ?_ | (refine TD_isCo ?_; first | refine TD_dec rfl (fun h => ?_) (fun h => ?_) | refine TD_cond rfl (fun h => ?_) (fun h => ?_)) | (refine RD_isGu ?_; first | refine RD_grd rfl rfl (fun h => ?_) (fun h => ?_) | (fail_if_success (refine RD_isW rfl ?_); refine RD_grdB rfl rfl (fun h => ?_) (fun h => ?_))))
    (refine RD_alloc rfl rfl ?_; intro b5; refine ⟨okF, ?_⟩)
    repeat' (first | refine wXf ?_ | (refine TD_isCo ?_; first | refine TD_dec rfl (fun h => ?_) (fun h => ?_) | refine TD_cond rfl (fun h => ?_) (fun h => ?_)) | (refine RD_isGu ?_; first | refine RD_grd rfl rfl (fun h => ?_) (fun h => ?_) | (fail_if_success (refine RD_isW rfl ?_); refine RD_grdB rfl rfl (fun h => ?_) (fun h => ?_))))
    (repeat refine TD_seq ?_); refine TD_drawnJ 2 [0, 1, 2, 3] [1, 0, 0, 0] mixed (by kernel_rfl) ?_
    repeat' (first | refine wXf ?_ | (refine TD_isCo ?_; first | refine TD_dec rfl (fun h => ?_) (fun h => ?_) | refine TD_cond rfl (fun h => ?_) (fun h => ?_)) | (refine RD_isGu ?_; first | refine RD_grd rfl rfl (fun h => ?_) (fun h => ?_) | (fail_if_success (refine RD_isW rfl ?_); refine RD_grdB rfl rfl (fun h => ?_) (fun h => ?_))))
    (refine RD_callS rfl (rOf_ok (x := 1) (by decide)) rfl rfl ?_; rintro _ _ _ ⟨rfl, rfl⟩; refine ⟨okF, ?_⟩; refine RD_openI (List.Mem.head _) (fun q6 c6 e__ hc6 hz6 => ?_); subst e__)
    unfold iv
    refine RD_tightI (k2 := 0) (z := 1) (List.Mem.tail _ (List.Mem.head _)) (by decide) ?_
    (refine RD_callS rfl (hSo _ _ _ _ memF memF) rfl rfl ?_; rintro _ _ _ ⟨rfl, rfl⟩; refine ⟨okF, ?_⟩; refine RD_openI (List.Mem.head _) (fun q7 c7 e__ hc7 hz7 => ?_); subst e__)
    unfold iv
    refine RD_tightI (k2 := k) (z := fd) (List.Mem.tail _ (List.Mem.head _)) hfl ?_
    repeat' (first | refine wXf ?_ | (refine TD_isCo ?_; first | refine TD_dec rfl (fun h => ?_) (fun h => ?_) | refine TD_cond rfl (fun h => ?_) (fun h => ?_)) | (refine RD_isGu ?_; first | refine RD_grd rfl rfl (fun h => ?_) (fun h => ?_) | (fail_if_success (refine RD_isW rfl ?_); refine RD_grdB rfl rfl (fun h => ?_) (fun h => ?_))))
    (repeat refine TD_seq ?_); refine TD_drawnW (.blk b5 [.bool (B (fd < 0)), .slice q7 (gr fd.natAbs).length c7] 24 :: .blk b2 [.bool (B (z < 0)), .slice q4 (gr z.natAbs).length c4] 24 :: .blk b [.bool (B (y < 0)), .slice q3 (gr y.natAbs).length c3] 24 :: M0) (isI (.agg #[.bool (B (fd < 0)), .slice q7 (gr fd.natAbs).length c7]) fd k :: I0) [0, 1, 2, 3, 4, 5, 6, 7, 8] [2, 2, 2, 2, 0, 0, 0, 0, 0] subF incF mixed (by kernel_rfl) ?_
    repeat' (first | refine wXf ?_ | (refine TD_isCo ?_; first | refine TD_dec rfl (fun h => ?_) (fun h => ?_) | refine TD_cond rfl (fun h => ?_) (fun h => ?_)) | (refine RD_isGu ?_; first | refine RD_grd rfl rfl (fun h => ?_) (fun h => ?_) | (fail_if_success (refine RD_isW rfl ?_); refine RD_grdB rfl rfl (fun h => ?_) (fun h => ?_))))
    refine RD_closeI (q := q3) (c := c3) (z := y) (k := k) memF hc3 hy ?_
    refine RD_closeI (q := q4) (c := c4) (z := z) (k := m) memF hc4 hz ?_
    unfold iv
    (refine RD_callS rfl (hMu _ _ _ _ memF memF) rfl rfl ?_; rintro _ _ _ ⟨rfl, rfl⟩; refine ⟨okF, ?_⟩; refine RD_openI (List.Mem.head _) (fun q8 c8 e__ hc8 hz8 => ?_); subst e__)
    unfold iv
    (refine RD_callS rfl (hSb _ _ _ _ memF memF) rfl rfl ?_; rintro _ _ _ ⟨rfl, rfl⟩; refine ⟨okF, ?_⟩; refine RD_openI (List.Mem.head _) (fun q9 c9 e__ hc9 hz9 => ?_); subst e__)
    unfold iv
    refine RD_tightI (k2 := m) (z := fm) (List.Mem.tail _ (List.Mem.head _)) hml ?_
    repeat' (first | refine wXf ?_ | (refine TD_isCo ?_; first | refine TD_dec rfl (fun h => ?_) (fun h => ?_) | refine TD_cond rfl (fun h => ?_) (fun h => ?_)) | (refine RD_isGu ?_; first | refine RD_grd rfl rfl (fun h => ?_) (fun h => ?_) | (fail_if_success (refine RD_isW rfl ?_); refine RD_grdB rfl rfl (fun h => ?_) (fun h => ?_))))
    refine ND_retsC (rs := [.cell 4 24, .cell 5 24, .tmp 6]) (.inl rfl) rfl (.cellN inferInstance rfl memF rfl (.cellN inferInstance rfl memF rfl (.tmp rfl .nil))) rfl M0 (isI (.agg #[.bool (B (fm < 0)), .slice q9 (gr fm.natAbs).length c9]) fm m :: isI (.agg #[.bool (B (fd < 0)), .slice q7 (gr fd.natAbs).length c7]) fd k :: I0) subF incF ⟨rfl, _, _, rfl, rfl⟩
  · have hA' : (y < 0 ↔ z < 0) ∨ y.natAbs % z.natAbs = 0 := by
      rcases Classical.em (y < 0 ↔ z < 0) with h | h
      · exact .inl h
      · exact .inr (hr0.1 (Classical.byContradiction fun h' => hA ⟨h, h'⟩))
    have e1 := hdv.1 hA'
    subst e1
    clear hdv hr0 hqb hSo
    obtain ⟨fd, hfd⟩ : ∃ s, s = y.fdiv z := ⟨_, rfl⟩
    obtain ⟨fm, hfm⟩ : ∃ s, s = y.fmod z := ⟨_, rfl⟩
    obtain ⟨Q, hQ⟩ : ∃ s, s = y.natAbs / z.natAbs := ⟨_, rfl⟩
    obtain ⟨R, hR⟩ : ∃ s, s = y.natAbs % z.natAbs := ⟨_, rfl⟩
    rw [← hfd] at hMu hSb hMd hfl ⊢
    rw [← hfm] at hSb hml ⊢
    rw [← hQ] at hO hMd hlq
    rw [← hR] at hO hA hA'
    clear hfd hfm hQ hR hA'
    refine enterD2 Tryz.func220 rfl Tryz.ntmps220 rfl ?_
    refine TD_seq ?_
    refine TD_region ?_
    (refine RD_boxA rfl rfl rfl ?_; intro b; refine ⟨okF, ?_⟩)
    (refine RD_boxA rfl rfl rfl ?_; intro b2; refine ⟨okF, ?_⟩)
    (refine RD_alloc rfl rfl ?_; intro b3; refine ⟨okF, ?_⟩)
    (refine RD_alloc rfl rfl ?_; intro b4; refine ⟨okF, ?_⟩)
    repeat' (first | refine wXf ?_ | (refine TD_isCo ?_; first | refine TD_dec rfl (fun h => ?_) (fun h => ?_) | refine TD_cond rfl (fun h => ?_) (fun h => ?_)) | (refine RD_isGu ?_; first | refine RD_grd rfl rfl (fun h => ?_) (fun h => ?_) | (fail_if_success (refine RD_isW rfl ?_); refine RD_grdB rfl rfl (fun h => ?_) (fun h => ?_))))
    (repeat refine TD_seq ?_); refine TD_drawnJ 2 [0, 2, 1, 3, 4, 5] [1, 2, 0, 0, 0, 0] mixed (by kernel_rfl) ?_
    repeat' (first | refine wXf ?_ | (refine TD_isCo ?_; first | refine TD_dec rfl (fun h => ?_) (fun h => ?_) | refine TD_cond rfl (fun h => ?_) (fun h => ?_)) | (refine RD_isGu ?_; first | refine RD_grd rfl rfl (fun h => ?_) (fun h => ?_) | (fail_if_success (refine RD_isW rfl ?_); refine RD_grdB rfl rfl (fun h => ?_) (fun h => ?_))))
    (refine RD_callS rfl (hV1 _ _ memF) rfl rfl ?_; rintro _ _ _ ⟨rfl, q3, c3, rfl, hc3, rfl⟩; refine ⟨okF, ?_⟩)
    repeat' (first | refine wXf ?_ | (refine TD_isCo ?_; first | refine TD_dec rfl (fun h => ?_) (fun h => ?_) | refine TD_cond rfl (fun h => ?_) (fun h => ?_)) | (refine RD_isGu ?_; first | refine RD_grd rfl rfl (fun h => ?_) (fun h => ?_) | (fail_if_success (refine RD_isW rfl ?_); refine RD_grdB rfl rfl (fun h => ?_) (fun h => ?_))))
    (refine RD_callS rfl (hV2 _ _ memF) rfl rfl ?_; rintro _ _ _ ⟨rfl, q4, c4, rfl, hc4, rfl⟩; refine ⟨okF, ?_⟩)
    repeat' (first | refine wXf ?_ | (refine TD_isCo ?_; first | refine TD_dec rfl (fun h => ?_) (fun h => ?_) | refine TD_cond rfl (fun h => ?_) (fun h => ?_)) | (refine RD_isGu ?_; first | refine RD_grd rfl rfl (fun h => ?_) (fun h => ?_) | (fail_if_success (refine RD_isW rfl ?_); refine RD_grdB rfl rfl (fun h => ?_) (fun h => ?_))))
    (refine RD_callS rfl (hO q3 q4 c3 c4 hc3 _ _ memF memF) rfl rfl ?_; rintro _ _ _ ⟨rfl, p1, c1, p2, c2, ho1, ho2, rfl, rfl⟩; refine ⟨okF, ?_⟩)
    repeat' (first | refine wXf ?_ | (refine TD_isCo ?_; first | refine TD_dec rfl (fun h => ?_) (fun h => ?_) | refine TD_cond rfl (fun h => ?_) (fun h => ?_)) | (refine RD_isGu ?_; first | refine RD_grd rfl rfl (fun h => ?_) (fun h => ?_) | (fail_if_success (refine RD_isW rfl ?_); refine RD_grdB rfl rfl (fun h => ?_) (fun h => ?_))))
    (refine RD_callS rfl (hMd p1 c1 ho1 _ _ memF) rfl rfl ?_; rintro _ _ _ ⟨rfl, rfl⟩; refine ⟨okF, ?_⟩; refine RD_openI (List.Mem.head _) (fun q5 c5 e__ hc5 hz5 => ?_); subst e__)
    unfold iv
    repeat' (first | refine wXf ?_ | (refine TD_isCo ?_; first | refine TD_dec rfl (fun h => ?_) (fun h => ?_) | refine TD_cond rfl (fun h => ?_) (fun h => ?_)) | (refine RD_isGu ?_; first | refine RD_grd rfl rfl (fun h => ?_) (fun h => ?_) | (fail_if_success (refine RD_isW rfl ?_); refine RD_grdB rfl rfl (fun h => ?_) (fun h => ?_))))
    (refine RD_alloc rfl rfl ?_; intro b5; refine ⟨okF, ?_⟩)
    repeat' (first | refine wXf ?_ | (refine TD_isCo ?_; first | refine TD_dec rfl (fun h => ?_) (fun h => ?_) | refine TD_cond rfl (fun h => ?_) (fun h => ?_)) | (refine RD_isGu ?_; first | refine RD_grd rfl rfl (fun h => ?_) (fun h => ?_) | (fail_if_success (refine RD_isW rfl ?_); refine RD_grdB rfl rfl (fun h => ?_) (fun h => ?_))))
    all_goals
      ((repeat refine TD_seq ?_); refine TD_drawnW (.blk b5 [.bool (B (fd < 0)), .slice q5 (gr fd.natAbs).length c5] 24 :: .blk b2 [.bool (B (z < 0)), .slice q4 (gr z.natAbs).length c4] 24 :: .blk b [.bool (B (y < 0)), .slice q3 (gr y.natAbs).length c3] 24 :: M0) (isI (.agg #[.bool (B (fd < 0)), .slice q5 (gr fd.natAbs).length c5]) fd k :: I0) [0, 1, 2, 3, 4, 5, 6, 7, 8] [2, 2, 2, 2, 0, 0, 0, 0, 0] subF incF mixed (by kernel_rfl) ?_)
      repeat' (first | refine wXf ?_ | (refine TD_isCo ?_; first | refine TD_dec rfl (fun h => ?_) (fun h => ?_) | refine TD_cond rfl (fun h => ?_) (fun h => ?_)) | (refine RD_isGu ?_; first | refine RD_grd rfl rfl (fun h => ?_) (fun h => ?_) | (fail_if_success (refine RD_isW rfl ?_); refine RD_grdB rfl rfl (fun h => ?_) (fun h => ?_))))
      refine RD_closeI (q := q3) (c := c3) (z := y) (k := k) memF hc3 hy ?_
      refine RD_closeI (q := q4) (c := c4) (z := z) (k := m) memF hc4 hz ?_
      unfold iv
      (refine RD_callS rfl (hMu _ _ _ _ memF memF) rfl rfl ?_; rintro _ _ _ ⟨rfl, rfl⟩; refine ⟨okF, ?_⟩; refine RD_openI (List.Mem.head _) (fun q8 c8 e__ hc8 hz8 => ?_); subst e__)
      unfold iv
      (refine RD_callS rfl (hSb _ _ _ _ memF memF) rfl rfl ?_; rintro _ _ _ ⟨rfl, rfl⟩; refine ⟨okF, ?_⟩; refine RD_openI (List.Mem.head _) (fun q9 c9 e__ hc9 hz9 => ?_); subst e__)
      unfold iv
      refine RD_tightI (k2 := m) (z := fm) (List.Mem.tail _ (List.Mem.head _)) hml ?_
      repeat' (first | refine wXf ?_ | (refine TD_isCo ?_; first | refine TD_dec rfl (fun h => ?_) (fun h => ?_) | refine TD_cond rfl (fun h => ?_) (fun h => ?_)) | (refine RD_isGu ?_; first | refine RD_grd rfl rfl (fun h => ?_) (fun h => ?_) | (fail_if_success (refine RD_isW rfl ?_); refine RD_grdB rfl rfl (fun h => ?_) (fun h => ?_))))
      refine ND_retsC (rs := [.cell 4 24, .cell 5 24, .tmp 6]) (.inl rfl) rfl (.cellN inferInstance rfl memF rfl (.cellN inferInstance rfl memF rfl (.tmp rfl .nil))) rfl M0 (isI (.agg #[.bool (B (fm < 0)), .slice q9 (gr fm.natAbs).length c9]) fm m :: isI (.agg #[.bool (B (fd < 0)), .slice q5 (gr fd.natAbs).length c5]) fd k :: I0) subF incF ⟨rfl, _, _, rfl, rfl⟩
end
end Go.Proofs.YtdmlebigkakplaaGreat

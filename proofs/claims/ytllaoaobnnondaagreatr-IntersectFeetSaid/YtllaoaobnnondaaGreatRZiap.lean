/- integer: Divide, Of at negative numbers integer: Of at all numbers -/
import Derived.Test.YtllaoaobnnondaaGreatRZian
import Derived.Test.YtllaoaobnnondaaGreatRZiaf
import Derived.Test.YtllaoaobnnondaaGreatRZiao
set_option linter.unusedSimpArgs false
set_option linter.unusedVariables false
namespace Go.Proofs.YtllaoaobnnondaaGreatR
open Go Go.Fx
theorem natdiv_le_pow {a b k : Nat} (h : a ≤ 2 ^ k) : a / b ≤ 2 ^ k := Nat.le_trans (Nat.div_le_self _ _) h
section
variable {X : List Nat} {w0 : World} {M0 : List Ent} {I0 : List Imm}
def DvP (s t : Int) (k m : Nat) (M0 : List Ent) (I0 : List Imm) (v : Value) (M : List Ent) (I : List Imm) : Prop := M0 = M ∧ ∃ v1 v2, v = .tuple #[v1, v2, .int .i64 0] ∧ I = isI v2 t m :: isI v1 s k :: I0
set_option maxRecDepth 100000 in
set_option maxHeartbeats 4000000 in
theorem Divide_A {y z s t : Int} {q q' : Option Addr} {a b Q R k m cq cq' : Nat} (hb0 : ¬ (gr b).length = 0) (hA1 : ¬ (gr R).length = 0) (hA2 : ¬ (y < 0 ↔ z < 0)) (hg1 : gr 1 = [1])
    (h1 : ∀ M0 I0, slI q (recs eG (gr a)) ∈ I0 → CD Tryz.prog 226 [.agg #[.bool (B (y < 0)), .slice q (gr a).length cq]] X w0 M0 I0 (fun v M I => M0 = M ∧ I0 = I ∧ v = .slice q (gr a).length cq))
    (h2 : ∀ M0 I0, slI q' (recs eG (gr b)) ∈ I0 → CD Tryz.prog 226 [.agg #[.bool (B (z < 0)), .slice q' (gr b).length cq']] X w0 M0 I0 (fun v M I => M0 = M ∧ I0 = I ∧ v = .slice q' (gr b).length cq'))
    (hO : ∀ M0 I0, slI q (recs eG (gr a)) ∈ I0 → slI q' (recs eG (gr b)) ∈ I0 → CD Tryz.prog 242 [.slice q (gr a).length cq, .slice q' (gr b).length cq'] X w0 M0 I0 (QrP Q R M0 I0))
    (hC : ∀ p2 c2, OkC p2 R c2 → ∀ M0 I0, slI p2 (recs eG (gr R)) ∈ I0 → CD Tryz.prog 243 [.slice p2 (gr R).length c2] X w0 M0 I0 (fun v M I => I0 = I ∧ ∃ q' c', v = .slice q' (gr R).length c' ∧ M = .row q' (gr R).length c' (recs eG (gr R)) 166 1 :: M0))
    (hP : ∀ p1 c1 p2 M0 I0, slI p1 (recs eG (gr Q)) ∈ I0 → slI p2 (recs eG [1]) ∈ I0 → CD Tryz.prog 258 [.slice p1 (gr Q).length c1, .slice p2 1 1] X w0 M0 I0 (GrP (Q + 1) M0 I0))
    (hMi : ∀ p3 c3 M0 I0, slI q' (recs eG (gr b)) ∈ I0 → slI p3 (recs eG (gr R)) ∈ I0 → CD Tryz.prog 259 [.slice q' (gr b).length cq', .slice p3 (gr R).length c3] X w0 M0 I0 (GrP (b - R) M0 I0))
    (hM1 : ∀ p4 c4, OkC p4 (Q + 1) c4 → ∀ M0 I0, slI p4 (recs eG (gr (Q + 1))) ∈ I0 → CD Tryz.prog 240 [.bool (B (¬ (y < 0 ↔ z < 0))), .slice p4 (gr (Q + 1)).length c4] X w0 M0 I0 (fun v M I => M0 = M ∧ I = isI v s k :: I0))
    (hM2 : ∀ p4 c4, OkC p4 (b - R) c4 → ∀ M0 I0, slI p4 (recs eG (gr (b - R))) ∈ I0 → CD Tryz.prog 240 [.bool (B (z < 0)), .slice p4 (gr (b - R)).length c4] X w0 M0 I0 (fun v M I => M0 = M ∧ I = isI v t m :: I0))
    (hq : slI q (recs eG (gr a)) ∈ I0) (hq' : slI q' (recs eG (gr b)) ∈ I0) :
    CD Tryz.prog 246 [.agg #[.bool (B (y < 0)), .slice q (gr a).length cq], .agg #[.bool (B (z < 0)), .slice q' (gr b).length cq']] X w0 M0 I0 (DvP s t k m M0 I0) := by
  refine enterD2 Tryz.func246 rfl Tryz.ntmps246 rfl ?_
  refine TD_seq ?_
  refine TD_region ?_
  (refine RD_boxA rfl rfl rfl ?_; intro b1; refine ⟨okF, ?_⟩)
  (refine RD_boxA rfl rfl rfl ?_; intro b2; refine ⟨okF, ?_⟩)
  (refine RD_alloc rfl rfl ?_; intro b3; refine ⟨okF, ?_⟩)
  (refine RD_alloc rfl rfl ?_; intro b4; refine ⟨okF, ?_⟩)
  repeat' (first | refine TD_region ?_ | refine TD_ret ?_ | refine TD_skip ?_ | refine TD_label ?_ | refine TD_block ?_ | refine TD_exit ?_ | refine ND_then ?_ | refine ND_thenR ?_ | refine ND_thenE ?_ | refine ND_inN ?_ | refine ND_inR ?_ | refine ND_inE ?_ | refine ND_inO rfl ?_ | refine RD_nil ?_ | (refine RD_isGu ?_; first | refine RD_skip rfl rfl rfl ?_ | (refine RD_isEf rfl rfl ?_; refine RD_skipE rfl rfl rfl okF ?_) | refine RD_grdY rfl rfl (by omega) ?_ | refine RD_grdN rfl rfl (by omega) ?_ | refine RD_grd rfl rfl (fun h => ?_) (fun h => ?_) | (fail_if_success (refine RD_isW rfl ?_); refine RD_grdB rfl rfl (fun h => ?_) (fun h => ?_))) | (refine RD_isUn ?_; refine RD_c rfl (fun _ => Const_notB rfl) rfl rfl ?_) | refine RD_c rfl (fun _ => Const_pure rfl) rfl rfl ?_ | (refine RD_isBi ?_; first | refine RD_c rfl (fun _ => Const_add rfl rfl wF) rfl rfl ?_ | refine RD_c rfl (fun _ => Const_sub rfl rfl wF) rfl rfl ?_ | refine RD_c rfl (fun _ => Const_mul rfl rfl wF) rfl rfl ?_ | refine RD_c rfl (fun _ => Const_quo rfl rfl (by omega) qF) rfl rfl ?_ | refine RD_c rfl (fun _ => Const_rem rfl rfl (by omega) rfl) rfl rfl ?_ | refine RD_c rfl (fun _ => Const_half rfl rfl) rfl rfl ?_ | refine RD_c rfl (fun _ => Const_eqBB rfl rfl) rfl rfl ?_ | refine RD_c rfl (fun _ => Const_neBB rfl rfl) rfl rfl ?_) | (refine RD_isUn ?_; first | refine RD_c rfl (fun _ => Const_neg rfl wF) rfl rfl ?_) | (refine RD_isCv ?_; first | refine RD_c rfl (fun _ => Const_conv rfl wF) rfl rfl ?_) | (refine RD_isCa ?_; first | refine RD_c rfl (fun _ => Const_len rfl) rfl rfl ?_ | refine RD_c rfl (fun _ => Const_minM rfl rfl) rfl rfl ?_ | refine RD_c rfl (fun _ => Const_maxM rfl rfl) rfl rfl ?_ | refine RD_c rfl (fun _ => Const_min3 rfl rfl rfl) rfl rfl ?_) | (refine RD_isFa ?_; first | refine RD_fldP rfl (by decide) rfl rfl ?_ | refine RD_fld rfl (by decide) rfl rfl ?_) | (refine RD_isIx ?_; first | refine RD_ixB rfl rfl bdI rfl rfl ?_ | refine RD_ixI vwF rfl rfl bdI memF posC rfl rfl ?_ | refine RD_ixR vwF rfl rfl bdI memF posC rfl rfl ?_ | refine RD_c rfl (fun _ => Const_indexA rfl rfl bdI) rfl rfl ?_) | (refine RD_isLd ?_; first | refine RD_ldI vwF rfl memF atF rfl rfl ?_ | refine RD_ldR vwF rfl memF atF rfl rfl ?_ | refine RD_ldB vwF rfl memF atF rfl rfl ?_ | refine RD_ldIB vwF rfl memF atF rfl rfl ?_ | refine RD_ldZI vwF rfl memF atZ rfl rfl ?_ | refine RD_ldZR vwF rfl memF atZ rfl rfl ?_ | refine RD_ldZB vwF rfl memF atZ rfl rfl ?_ | refine RD_ldZIB vwF rfl memF atZ rfl rfl ?_) | (refine RD_isFd ?_; first | refine RD_c rfl (fun _ => Const_field1 rfl rfl) rfl rfl ?_ | refine RD_c rfl (fun _ => Const_fieldN rfl) rfl rfl ?_) | (refine RD_isSt ?_; first | refine RD_st rfl rfl rfl repF stC rfl rfl ⟨okF, ?_⟩ | refine RD_stN rfl rfl lenC oneC repF stsC rfl rfl ⟨okF, ?_⟩) | (refine TD_isCo ?_; first | refine TD_cond_true rfl ?_ | refine TD_cond_false rfl ?_ | refine TD_yes rfl (by omega) ?_ | refine TD_no rfl (by omega) ?_ | refine TD_dec rfl (fun h => ?_) (fun h => ?_) | refine TD_cond rfl (fun h => ?_) (fun h => ?_)))
  (repeat refine TD_seq ?_); refine TD_drawnJ 4 [0, 2, 1, 3, 4, 5] [1, 1, 0, 0, 0, 0] mixed (by kernel_rfl) ?_
  repeat' (first | refine wXf ?_ | (refine TD_isCo ?_; first | refine TD_dec rfl (fun h => ?_) (fun h => ?_) | refine TD_cond rfl (fun h => ?_) (fun h => ?_)) | (refine RD_isGu ?_; first | refine RD_grd rfl rfl (fun h => ?_) (fun h => ?_) | (fail_if_success (refine RD_isW rfl ?_); refine RD_grdB rfl rfl (fun h => ?_) (fun h => ?_))))
  (refine RD_callS rfl (h1 _ _ memF) rfl rfl ?_; rintro _ _ _ ⟨rfl, rfl, rfl⟩; refine ⟨okF, ?_⟩)
  repeat' (first | refine wXf ?_ | (refine TD_isCo ?_; first | refine TD_dec rfl (fun h => ?_) (fun h => ?_) | refine TD_cond rfl (fun h => ?_) (fun h => ?_)) | (refine RD_isGu ?_; first | refine RD_grd rfl rfl (fun h => ?_) (fun h => ?_) | (fail_if_success (refine RD_isW rfl ?_); refine RD_grdB rfl rfl (fun h => ?_) (fun h => ?_))))
  (refine RD_callS rfl (h2 _ _ memF) rfl rfl ?_; rintro _ _ _ ⟨rfl, rfl, rfl⟩; refine ⟨okF, ?_⟩)
  repeat' (first | refine wXf ?_ | (refine TD_isCo ?_; first | refine TD_dec rfl (fun h => ?_) (fun h => ?_) | refine TD_cond rfl (fun h => ?_) (fun h => ?_)) | (refine RD_isGu ?_; first | refine RD_grd rfl rfl (fun h => ?_) (fun h => ?_) | (fail_if_success (refine RD_isW rfl ?_); refine RD_grdB rfl rfl (fun h => ?_) (fun h => ?_))))
  (refine RD_callS rfl (hO _ _ memF memF) rfl rfl ?_; rintro _ _ _ ⟨rfl, p1, c1, p2, c2, ho1, ho2, rfl, rfl⟩; refine ⟨okF, ?_⟩)
  repeat' (first | refine wXf ?_ | (refine TD_isCo ?_; first | refine TD_dec rfl (fun h => ?_) (fun h => ?_) | refine TD_cond rfl (fun h => ?_) (fun h => ?_)) | (refine RD_isGu ?_; first | refine RD_grd rfl rfl (fun h => ?_) (fun h => ?_) | (fail_if_success (refine RD_isW rfl ?_); refine RD_grdB rfl rfl (fun h => ?_) (fun h => ?_))))
  (refine RD_callS rfl (hC p2 c2 ho2 _ _ memF) rfl rfl ?_; rintro _ _ _ ⟨rfl, p3, c3, rfl, rfl⟩; refine ⟨okF, ?_⟩)
  refine RD_freezeR remF ?_
  repeat' (first | refine wXf ?_ | (refine TD_isCo ?_; first | refine TD_dec rfl (fun h => ?_) (fun h => ?_) | refine TD_cond rfl (fun h => ?_) (fun h => ?_)) | (refine RD_isGu ?_; first | refine RD_grd rfl rfl (fun h => ?_) (fun h => ?_) | (fail_if_success (refine RD_isW rfl ?_); refine RD_grdB rfl rfl (fun h => ?_) (fun h => ?_))))
  (refine RD_vals (cs := recs eG [1]) ([.int .u32 1]) rfl rfl (by intro v hv; repeat (first | exact absurd hv (List.not_mem_nil) | (rcases List.mem_cons.1 hv with rfl | hv; · rfl))) (by omega) rfl rfl rfl ?_; intro b5; refine ⟨okF, ?_⟩)
  refine RD_freezeB remF ?_
  (refine RD_callS rfl (hP p1 c1 (some ⟨b5, 0, none⟩) _ _ memF memF) rfl rfl ?_; rintro _ _ _ ⟨rfl, p4, c4, rfl, hc4, rfl⟩; refine ⟨okF, ?_⟩)
  repeat' (first | refine wXf ?_ | (refine TD_isCo ?_; first | refine TD_dec rfl (fun h => ?_) (fun h => ?_) | refine TD_cond rfl (fun h => ?_) (fun h => ?_)) | (refine RD_isGu ?_; first | refine RD_grd rfl rfl (fun h => ?_) (fun h => ?_) | (fail_if_success (refine RD_isW rfl ?_); refine RD_grdB rfl rfl (fun h => ?_) (fun h => ?_))))
  (refine RD_callS rfl (hMi p3 c3 _ _ memF memF) rfl rfl ?_; rintro _ _ _ ⟨rfl, p5, c5, rfl, hc5, rfl⟩; refine ⟨okF, ?_⟩)
  repeat' (first | refine TD_region ?_ | refine TD_ret ?_ | refine TD_skip ?_ | refine TD_label ?_ | refine TD_block ?_ | refine TD_exit ?_ | refine ND_then ?_ | refine ND_thenR ?_ | refine ND_thenE ?_ | refine ND_inN ?_ | refine ND_inR ?_ | refine ND_inE ?_ | refine ND_inO rfl ?_ | refine RD_nil ?_ | (refine RD_isGu ?_; first | refine RD_skip rfl rfl rfl ?_ | (refine RD_isEf rfl rfl ?_; refine RD_skipE rfl rfl rfl okF ?_) | refine RD_grdY rfl rfl (by omega) ?_ | refine RD_grdN rfl rfl (by omega) ?_ | refine RD_grd rfl rfl (fun h => ?_) (fun h => ?_) | (fail_if_success (refine RD_isW rfl ?_); refine RD_grdB rfl rfl (fun h => ?_) (fun h => ?_))) | (refine RD_isUn ?_; refine RD_c rfl (fun _ => Const_notB rfl) rfl rfl ?_) | refine RD_c rfl (fun _ => Const_pure rfl) rfl rfl ?_ | (refine RD_isBi ?_; first | refine RD_c rfl (fun _ => Const_add rfl rfl wF) rfl rfl ?_ | refine RD_c rfl (fun _ => Const_sub rfl rfl wF) rfl rfl ?_ | refine RD_c rfl (fun _ => Const_mul rfl rfl wF) rfl rfl ?_ | refine RD_c rfl (fun _ => Const_quo rfl rfl (by omega) qF) rfl rfl ?_ | refine RD_c rfl (fun _ => Const_rem rfl rfl (by omega) rfl) rfl rfl ?_ | refine RD_c rfl (fun _ => Const_half rfl rfl) rfl rfl ?_ | refine RD_c rfl (fun _ => Const_eqBB rfl rfl) rfl rfl ?_ | refine RD_c rfl (fun _ => Const_neBB rfl rfl) rfl rfl ?_) | (refine RD_isUn ?_; first | refine RD_c rfl (fun _ => Const_neg rfl wF) rfl rfl ?_) | (refine RD_isCv ?_; first | refine RD_c rfl (fun _ => Const_conv rfl wF) rfl rfl ?_) | (refine RD_isCa ?_; first | refine RD_c rfl (fun _ => Const_len rfl) rfl rfl ?_ | refine RD_c rfl (fun _ => Const_minM rfl rfl) rfl rfl ?_ | refine RD_c rfl (fun _ => Const_maxM rfl rfl) rfl rfl ?_ | refine RD_c rfl (fun _ => Const_min3 rfl rfl rfl) rfl rfl ?_) | (refine RD_isFa ?_; first | refine RD_fldP rfl (by decide) rfl rfl ?_ | refine RD_fld rfl (by decide) rfl rfl ?_) | (refine RD_isIx ?_; first | refine RD_ixB rfl rfl bdI rfl rfl ?_ | refine RD_ixI vwF rfl rfl bdI memF posC rfl rfl ?_ | refine RD_ixR vwF rfl rfl bdI memF posC rfl rfl ?_ | refine RD_c rfl (fun _ => Const_indexA rfl rfl bdI) rfl rfl ?_) | (refine RD_isLd ?_; first | refine RD_ldI vwF rfl memF atF rfl rfl ?_ | refine RD_ldR vwF rfl memF atF rfl rfl ?_ | refine RD_ldB vwF rfl memF atF rfl rfl ?_ | refine RD_ldIB vwF rfl memF atF rfl rfl ?_ | refine RD_ldZI vwF rfl memF atZ rfl rfl ?_ | refine RD_ldZR vwF rfl memF atZ rfl rfl ?_ | refine RD_ldZB vwF rfl memF atZ rfl rfl ?_ | refine RD_ldZIB vwF rfl memF atZ rfl rfl ?_) | (refine RD_isFd ?_; first | refine RD_c rfl (fun _ => Const_field1 rfl rfl) rfl rfl ?_ | refine RD_c rfl (fun _ => Const_fieldN rfl) rfl rfl ?_) | (refine RD_isSt ?_; first | refine RD_st rfl rfl rfl repF stC rfl rfl ⟨okF, ?_⟩ | refine RD_stN rfl rfl lenC oneC repF stsC rfl rfl ⟨okF, ?_⟩) | (refine TD_isCo ?_; first | refine TD_cond_true rfl ?_ | refine TD_cond_false rfl ?_ | refine TD_yes rfl (by omega) ?_ | refine TD_no rfl (by omega) ?_ | refine TD_dec rfl (fun h => ?_) (fun h => ?_) | refine TD_cond rfl (fun h => ?_) (fun h => ?_)))
  (repeat refine TD_seq ?_); refine TD_drawnW (.blk b2 [.bool (B (z < 0)), .slice q' (gr b).length cq'] 24 :: .blk b1 [.bool (B (y < 0)), .slice q (gr a).length cq] 24 :: M0) (I0) [0, 1, 2, 3, 4, 5, 7, 8, 9, 6, 10, 11, 12, 13] [2, 2, 2, 2, 1, 1, 3, 2, 2, 0, 0, 0, 0, 0] subF incF mixed (by kernel_rfl) ?_
  repeat' (first | refine wXf ?_ | (refine TD_isCo ?_; first | refine TD_dec rfl (fun h => ?_) (fun h => ?_) | refine TD_cond rfl (fun h => ?_) (fun h => ?_)) | (refine RD_isGu ?_; first | refine RD_grd rfl rfl (fun h => ?_) (fun h => ?_) | (fail_if_success (refine RD_isW rfl ?_); refine RD_grdB rfl rfl (fun h => ?_) (fun h => ?_))))
  (refine RD_callS rfl (hM1 p4 c4 hc4 _ _ memF) rfl rfl ?_; rintro _ _ _ ⟨rfl, rfl⟩; refine ⟨okF, ?_⟩; refine RD_openI (List.Mem.head _) (fun q6 c6 e__ hc6 hz6 => ?_); subst e__)
  repeat' (first | refine wXf ?_ | (refine TD_isCo ?_; first | refine TD_dec rfl (fun h => ?_) (fun h => ?_) | refine TD_cond rfl (fun h => ?_) (fun h => ?_)) | (refine RD_isGu ?_; first | refine RD_grd rfl rfl (fun h => ?_) (fun h => ?_) | (fail_if_success (refine RD_isW rfl ?_); refine RD_grdB rfl rfl (fun h => ?_) (fun h => ?_))))
  (refine RD_callS rfl (hM2 p5 c5 hc5 _ _ memF) rfl rfl ?_; rintro _ _ _ ⟨rfl, rfl⟩; refine ⟨okF, ?_⟩; refine RD_openI (List.Mem.head _) (fun q7 c7 e__ hc7 hz7 => ?_); subst e__)
  unfold iv
  repeat' (first | refine wXf ?_ | (refine TD_isCo ?_; first | refine TD_dec rfl (fun h => ?_) (fun h => ?_) | refine TD_cond rfl (fun h => ?_) (fun h => ?_)) | (refine RD_isGu ?_; first | refine RD_grd rfl rfl (fun h => ?_) (fun h => ?_) | (fail_if_success (refine RD_isW rfl ?_); refine RD_grdB rfl rfl (fun h => ?_) (fun h => ?_))))
  refine ND_retsC (rs := [.cell 4 24, .cell 5 24, .tmp 6]) (.inl rfl) rfl (.cellN inferInstance rfl memF rfl (.cellN inferInstance rfl memF rfl (.tmp rfl .nil))) rfl M0 (isI (.agg #[.bool (B (t < 0)), .slice q7 (gr t.natAbs).length c7]) t m :: isI (.agg #[.bool (B (s < 0)), .slice q6 (gr s.natAbs).length c6]) s k :: I0) subF incF ⟨rfl, _, _, rfl, rfl⟩
set_option maxRecDepth 100000 in
set_option maxHeartbeats 4000000 in
theorem Divide_B {y z s t : Int} {q q' : Option Addr} {a b Q R k m cq cq' : Nat} (hb0 : ¬ (gr b).length = 0) (hA : (gr R).length = 0 ∨ (y < 0 ↔ z < 0))
    (h1 : ∀ M0 I0, slI q (recs eG (gr a)) ∈ I0 → CD Tryz.prog 226 [.agg #[.bool (B (y < 0)), .slice q (gr a).length cq]] X w0 M0 I0 (fun v M I => M0 = M ∧ I0 = I ∧ v = .slice q (gr a).length cq))
    (h2 : ∀ M0 I0, slI q' (recs eG (gr b)) ∈ I0 → CD Tryz.prog 226 [.agg #[.bool (B (z < 0)), .slice q' (gr b).length cq']] X w0 M0 I0 (fun v M I => M0 = M ∧ I0 = I ∧ v = .slice q' (gr b).length cq'))
    (hO : ∀ M0 I0, slI q (recs eG (gr a)) ∈ I0 → slI q' (recs eG (gr b)) ∈ I0 → CD Tryz.prog 242 [.slice q (gr a).length cq, .slice q' (gr b).length cq'] X w0 M0 I0 (QrP Q R M0 I0))
    (hC : ∀ p2 c2, OkC p2 R c2 → ∀ M0 I0, slI p2 (recs eG (gr R)) ∈ I0 → CD Tryz.prog 243 [.slice p2 (gr R).length c2] X w0 M0 I0 (fun v M I => I0 = I ∧ ∃ q' c', v = .slice q' (gr R).length c' ∧ M = .row q' (gr R).length c' (recs eG (gr R)) 166 1 :: M0))
    (hM1 : ∀ p4 c4, OkC p4 Q c4 → ∀ M0 I0, slI p4 (recs eG (gr Q)) ∈ I0 → CD Tryz.prog 240 [.bool (B (¬ (y < 0 ↔ z < 0))), .slice p4 (gr Q).length c4] X w0 M0 I0 (fun v M I => M0 = M ∧ I = isI v s k :: I0))
    (hM2 : ∀ p4 c4, OkC p4 R c4 → ∀ M0 I0, slI p4 (recs eG (gr R)) ∈ I0 → CD Tryz.prog 240 [.bool (B (z < 0)), .slice p4 (gr R).length c4] X w0 M0 I0 (fun v M I => M0 = M ∧ I = isI v t m :: I0))
    (hq : slI q (recs eG (gr a)) ∈ I0) (hq' : slI q' (recs eG (gr b)) ∈ I0) :
    CD Tryz.prog 246 [.agg #[.bool (B (y < 0)), .slice q (gr a).length cq], .agg #[.bool (B (z < 0)), .slice q' (gr b).length cq']] X w0 M0 I0 (DvP s t k m M0 I0) := by
  refine enterD2 Tryz.func246 rfl Tryz.ntmps246 rfl ?_
  refine TD_seq ?_
  refine TD_region ?_
  (refine RD_boxA rfl rfl rfl ?_; intro b1; refine ⟨okF, ?_⟩)
  (refine RD_boxA rfl rfl rfl ?_; intro b2; refine ⟨okF, ?_⟩)
  (refine RD_alloc rfl rfl ?_; intro b3; refine ⟨okF, ?_⟩)
  (refine RD_alloc rfl rfl ?_; intro b4; refine ⟨okF, ?_⟩)
  repeat' (first | refine TD_region ?_ | refine TD_ret ?_ | refine TD_skip ?_ | refine TD_label ?_ | refine TD_block ?_ | refine TD_exit ?_ | refine ND_then ?_ | refine ND_thenR ?_ | refine ND_thenE ?_ | refine ND_inN ?_ | refine ND_inR ?_ | refine ND_inE ?_ | refine ND_inO rfl ?_ | refine RD_nil ?_ | (refine RD_isGu ?_; first | refine RD_skip rfl rfl rfl ?_ | (refine RD_isEf rfl rfl ?_; refine RD_skipE rfl rfl rfl okF ?_) | refine RD_grdY rfl rfl (by omega) ?_ | refine RD_grdN rfl rfl (by omega) ?_ | refine RD_grd rfl rfl (fun h => ?_) (fun h => ?_) | (fail_if_success (refine RD_isW rfl ?_); refine RD_grdB rfl rfl (fun h => ?_) (fun h => ?_))) | (refine RD_isUn ?_; refine RD_c rfl (fun _ => Const_notB rfl) rfl rfl ?_) | refine RD_c rfl (fun _ => Const_pure rfl) rfl rfl ?_ | (refine RD_isBi ?_; first | refine RD_c rfl (fun _ => Const_add rfl rfl wF) rfl rfl ?_ | refine RD_c rfl (fun _ => Const_sub rfl rfl wF) rfl rfl ?_ | refine RD_c rfl (fun _ => Const_mul rfl rfl wF) rfl rfl ?_ | refine RD_c rfl (fun _ => Const_quo rfl rfl (by omega) qF) rfl rfl ?_ | refine RD_c rfl (fun _ => Const_rem rfl rfl (by omega) rfl) rfl rfl ?_ | refine RD_c rfl (fun _ => Const_half rfl rfl) rfl rfl ?_ | refine RD_c rfl (fun _ => Const_eqBB rfl rfl) rfl rfl ?_ | refine RD_c rfl (fun _ => Const_neBB rfl rfl) rfl rfl ?_) | (refine RD_isUn ?_; first | refine RD_c rfl (fun _ => Const_neg rfl wF) rfl rfl ?_) | (refine RD_isCv ?_; first | refine RD_c rfl (fun _ => Const_conv rfl wF) rfl rfl ?_) | (refine RD_isCa ?_; first | refine RD_c rfl (fun _ => Const_len rfl) rfl rfl ?_ | refine RD_c rfl (fun _ => Const_minM rfl rfl) rfl rfl ?_ | refine RD_c rfl (fun _ => Const_maxM rfl rfl) rfl rfl ?_ | refine RD_c rfl (fun _ => Const_min3 rfl rfl rfl) rfl rfl ?_) | (refine RD_isFa ?_; first | refine RD_fldP rfl (by decide) rfl rfl ?_ | refine RD_fld rfl (by decide) rfl rfl ?_) | (refine RD_isIx ?_; first | refine RD_ixB rfl rfl bdI rfl rfl ?_ | refine RD_ixI vwF rfl rfl bdI memF posC rfl rfl ?_ | refine RD_ixR vwF rfl rfl bdI memF posC rfl rfl ?_ | refine RD_c rfl (fun _ => Const_indexA rfl rfl bdI) rfl rfl ?_) | (refine RD_isLd ?_; first | refine RD_ldI vwF rfl memF atF rfl rfl ?_ | refine RD_ldR vwF rfl memF atF rfl rfl ?_ | refine RD_ldB vwF rfl memF atF rfl rfl ?_ | refine RD_ldIB vwF rfl memF atF rfl rfl ?_ | refine RD_ldZI vwF rfl memF atZ rfl rfl ?_ | refine RD_ldZR vwF rfl memF atZ rfl rfl ?_ | refine RD_ldZB vwF rfl memF atZ rfl rfl ?_ | refine RD_ldZIB vwF rfl memF atZ rfl rfl ?_) | (refine RD_isFd ?_; first | refine RD_c rfl (fun _ => Const_field1 rfl rfl) rfl rfl ?_ | refine RD_c rfl (fun _ => Const_fieldN rfl) rfl rfl ?_) | (refine RD_isSt ?_; first | refine RD_st rfl rfl rfl repF stC rfl rfl ⟨okF, ?_⟩ | refine RD_stN rfl rfl lenC oneC repF stsC rfl rfl ⟨okF, ?_⟩) | (refine TD_isCo ?_; first | refine TD_cond_true rfl ?_ | refine TD_cond_false rfl ?_ | refine TD_yes rfl (by omega) ?_ | refine TD_no rfl (by omega) ?_ | refine TD_dec rfl (fun h => ?_) (fun h => ?_) | refine TD_cond rfl (fun h => ?_) (fun h => ?_)))
  (repeat refine TD_seq ?_); refine TD_drawnJ 4 [0, 2, 1, 3, 4, 5] [1, 1, 0, 0, 0, 0] mixed (by kernel_rfl) ?_
  repeat' (first | refine wXf ?_ | (refine TD_isCo ?_; first | refine TD_dec rfl (fun h => ?_) (fun h => ?_) | refine TD_cond rfl (fun h => ?_) (fun h => ?_)) | (refine RD_isGu ?_; first | refine RD_grd rfl rfl (fun h => ?_) (fun h => ?_) | (fail_if_success (refine RD_isW rfl ?_); refine RD_grdB rfl rfl (fun h => ?_) (fun h => ?_))))
  (refine RD_callS rfl (h1 _ _ memF) rfl rfl ?_; rintro _ _ _ ⟨rfl, rfl, rfl⟩; refine ⟨okF, ?_⟩)
  repeat' (first | refine wXf ?_ | (refine TD_isCo ?_; first | refine TD_dec rfl (fun h => ?_) (fun h => ?_) | refine TD_cond rfl (fun h => ?_) (fun h => ?_)) | (refine RD_isGu ?_; first | refine RD_grd rfl rfl (fun h => ?_) (fun h => ?_) | (fail_if_success (refine RD_isW rfl ?_); refine RD_grdB rfl rfl (fun h => ?_) (fun h => ?_))))
  (refine RD_callS rfl (h2 _ _ memF) rfl rfl ?_; rintro _ _ _ ⟨rfl, rfl, rfl⟩; refine ⟨okF, ?_⟩)
  repeat' (first | refine wXf ?_ | (refine TD_isCo ?_; first | refine TD_dec rfl (fun h => ?_) (fun h => ?_) | refine TD_cond rfl (fun h => ?_) (fun h => ?_)) | (refine RD_isGu ?_; first | refine RD_grd rfl rfl (fun h => ?_) (fun h => ?_) | (fail_if_success (refine RD_isW rfl ?_); refine RD_grdB rfl rfl (fun h => ?_) (fun h => ?_))))
  (refine RD_callS rfl (hO _ _ memF memF) rfl rfl ?_; rintro _ _ _ ⟨rfl, p1, c1, p2, c2, ho1, ho2, rfl, rfl⟩; refine ⟨okF, ?_⟩)
  repeat' (first | refine wXf ?_ | (refine TD_isCo ?_; first | refine TD_dec rfl (fun h => ?_) (fun h => ?_) | refine TD_cond rfl (fun h => ?_) (fun h => ?_)) | (refine RD_isGu ?_; first | refine RD_grd rfl rfl (fun h => ?_) (fun h => ?_) | (fail_if_success (refine RD_isW rfl ?_); refine RD_grdB rfl rfl (fun h => ?_) (fun h => ?_))))
  (refine RD_callS rfl (hC p2 c2 ho2 _ _ memF) rfl rfl ?_; rintro _ _ _ ⟨rfl, p3, c3, rfl, rfl⟩; refine ⟨okF, ?_⟩)
  refine RD_fact (fun w hw => And.intro (hw.rowLe (List.Mem.head _)) ((hw.rowS (List.Mem.head _)).2.imp id And.right)) (fun ho3 => ?_)
  refine RD_freezeR remF ?_
  repeat' (first | refine wXf ?_ | (refine TD_isCo ?_; first | refine TD_dec rfl (fun h => ?_) (fun h => ?_) | refine TD_cond rfl (fun h => ?_) (fun h => ?_)) | (refine RD_isGu ?_; first | refine RD_grd rfl rfl (fun h => ?_) (fun h => ?_) | (fail_if_success (refine RD_isW rfl ?_); refine RD_grdB rfl rfl (fun h => ?_) (fun h => ?_))))
  all_goals
    ((repeat refine TD_seq ?_); refine TD_drawnW (.blk b2 [.bool (B (z < 0)), .slice q' (gr b).length cq'] 24 :: .blk b1 [.bool (B (y < 0)), .slice q (gr a).length cq] 24 :: M0) (I0) [0, 1, 2, 3, 4, 5, 7, 8, 9, 6, 10, 11, 12, 13] [2, 2, 2, 2, 1, 1, 3, 2, 2, 0, 0, 0, 0, 0] subF incF mixed (by kernel_rfl) ?_)
    repeat' (first | refine wXf ?_ | (refine TD_isCo ?_; first | refine TD_dec rfl (fun h => ?_) (fun h => ?_) | refine TD_cond rfl (fun h => ?_) (fun h => ?_)) | (refine RD_isGu ?_; first | refine RD_grd rfl rfl (fun h => ?_) (fun h => ?_) | (fail_if_success (refine RD_isW rfl ?_); refine RD_grdB rfl rfl (fun h => ?_) (fun h => ?_))))
    (refine RD_callS rfl (hM1 p1 c1 ho1 _ _ memF) rfl rfl ?_; rintro _ _ _ ⟨rfl, rfl⟩; refine ⟨okF, ?_⟩; refine RD_openI (List.Mem.head _) (fun q6 c6 e__ hc6 hz6 => ?_); subst e__)
    repeat' (first | refine wXf ?_ | (refine TD_isCo ?_; first | refine TD_dec rfl (fun h => ?_) (fun h => ?_) | refine TD_cond rfl (fun h => ?_) (fun h => ?_)) | (refine RD_isGu ?_; first | refine RD_grd rfl rfl (fun h => ?_) (fun h => ?_) | (fail_if_success (refine RD_isW rfl ?_); refine RD_grdB rfl rfl (fun h => ?_) (fun h => ?_))))
    (refine RD_callS rfl (hM2 p3 c3 ho3 _ _ memF) rfl rfl ?_; rintro _ _ _ ⟨rfl, rfl⟩; refine ⟨okF, ?_⟩; refine RD_openI (List.Mem.head _) (fun q7 c7 e__ hc7 hz7 => ?_); subst e__)
    unfold iv
    repeat' (first | refine wXf ?_ | (refine TD_isCo ?_; first | refine TD_dec rfl (fun h => ?_) (fun h => ?_) | refine TD_cond rfl (fun h => ?_) (fun h => ?_)) | (refine RD_isGu ?_; first | refine RD_grd rfl rfl (fun h => ?_) (fun h => ?_) | (fail_if_success (refine RD_isW rfl ?_); refine RD_grdB rfl rfl (fun h => ?_) (fun h => ?_))))
    refine ND_retsC (rs := [.cell 4 24, .cell 5 24, .tmp 6]) (.inl rfl) rfl (.cellN inferInstance rfl memF rfl (.cellN inferInstance rfl memF rfl (.tmp rfl .nil))) rfl M0 (isI (.agg #[.bool (B (t < 0)), .slice q7 (gr t.natAbs).length c7]) t m :: isI (.agg #[.bool (B (s < 0)), .slice q6 (gr s.natAbs).length c6]) s k :: I0) subF incF ⟨rfl, _, _, rfl, rfl⟩

set_option maxRecDepth 100000 in
theorem Divide_ok {u v : Value} {y z : Int} {k m : Nat} (hk : k ≤ 2000000000) (hm : m ≤ 2000000000) (hz0 : z ≠ 0) (hu : isI u y k ∈ I0) (hv : isI v z m ∈ I0) :
    CD Tryz.prog 246 [u, v] X w0 M0 I0 (DvP (y.fdiv z) (y.fmod z) k m M0 I0) := by
  refine CD_openI hu (fun q cq e hc hy => ?_)
  subst e
  refine CD_openI (List.Mem.tail _ hv) (fun q' cq' e hc' hz => ?_)
  subst e
  have hly := gr_len_pow hy
  have hlz := gr_len_pow hz
  have hfd := fdiv_abs (y := y) hz0
  have hz1 : 0 < z.natAbs := by omega
  have hmod := Nat.mod_lt y.natAbs hz1
  have hqb : y.natAbs / z.natAbs ≤ 2 ^ k := natdiv_le_pow hy
  have hrb : y.natAbs % z.natAbs ≤ 2 ^ m := by omega
  have hlq := gr_len_pow hqb
  have hlr := gr_len_pow hrb
  have hlz1 : ¬ (gr z.natAbs).length = 0 := fun e => by have := gr_nil.1 (List.eq_nil_of_length_eq_zero e); omega
  have hg1 : gr 1 = [1] := gr_one (f := 1) (by decide) (by decide)
  have hr0 : (gr (y.natAbs % z.natAbs)).length = 0 ↔ y.natAbs % z.natAbs = 0 := by rw [List.length_eq_zero_iff, gr_nil]
  refine CD.post (K := DvP (y.fdiv z) (y.fmod z) k m M0 (slI q' (recs eG (gr z.natAbs)) :: slI q (recs eG (gr y.natAbs)) :: I0)) ?_ (fun v M I w h hw => ?_)
  case refine_2 =>
    obtain ⟨e1, v1, v2, e2, e3⟩ := h
    subst e1; subst e3
    exact ⟨_, _, ⟨rfl, v1, v2, e2, rfl⟩, hw.inc (Inc.cons (by simp) (Inc.cons (by simp) (Inc.wk (Inc.wk (Inc.wk (Inc.wk Inc.refl))))))⟩
  have hG1 := fun M0 I0 h => groups_ok (X := X) (w0 := w0) (M0 := M0) (I0 := I0) (c := cq) (q := q) (z := y) hy (by omega) h
  have hG2 := fun M0 I0 h => groups_ok (X := X) (w0 := w0) (M0 := M0) (I0 := I0) (c := cq') (q := q') (z := z) hz (by omega) h
  have hO := fun M0 I0 => over_ok (X := X) (w0 := w0) (M0 := M0) (I0 := I0) (p := q) (q := q') (m := y.natAbs) (n := z.natAbs) (cp := cq) (cq := cq') (by omega) (by omega) hz1 hc
  have hCl := fun p2 c2 (ho2 : OkC p2 (y.natAbs % z.natAbs) c2) M0 I0 h => cloneG_ok (X := X) (w0 := w0) (M0 := M0) (I0 := I0) (q := p2) (a := gr (y.natAbs % z.natAbs)) (c := c2) (by omega) ho2.2 h
  unfold iv at hG1 hG2 ⊢
  by_cases hA : (gr (y.natAbs % z.natAbs)).length = 0 ∨ (y < 0 ↔ z < 0)
  · obtain ⟨e1, e2⟩ := hfd.2 (hA.elim (fun h => .inr (hr0.1 h)) .inl)
    have s1 : sg (¬ (y < 0 ↔ z < 0)) (y.natAbs / z.natAbs) = y.fdiv z := by rw [e1]; rfl
    have s2 : sg (z < 0) (y.natAbs % z.natAbs) = y.fmod z := by rw [e2]; rfl
    have hM1 := fun p4 c4 (h4 : OkC p4 (y.natAbs / z.natAbs) c4) M0 I0 h => made_ok (X := X) (w0 := w0) (M0 := M0) (I0 := I0) (p := ¬ (y < 0 ↔ z < 0)) (k := k) (by omega) h4 hqb h
    have hM2 := fun p4 c4 (h4 : OkC p4 (y.natAbs % z.natAbs) c4) M0 I0 h => made_ok (X := X) (w0 := w0) (M0 := M0) (I0 := I0) (p := z < 0) (k := m) (by omega) h4 hrb h
    rw [s1] at hM1
    rw [s2] at hM2
    exact Divide_B hlz1 hA hG1 hG2 hO hCl hM1 hM2 (by simp) (by simp)
  · have hA1 : ¬ (gr (y.natAbs % z.natAbs)).length = 0 := fun h => hA (.inl h)
    have hA2 : ¬ (y < 0 ↔ z < 0) := fun h => hA (.inr h)
    have hAr : y.natAbs % z.natAbs ≠ 0 := fun h => hA1 (hr0.2 h)
    obtain ⟨e1, e2⟩ := hfd.1 hA2 hAr
    have hab := Nat.div_add_mod y.natAbs z.natAbs
    have hbQ : y.natAbs / z.natAbs ≤ z.natAbs * (y.natAbs / z.natAbs) := Nat.le_mul_of_pos_left _ hz1
    have hQ1 : y.natAbs / z.natAbs + 1 ≤ 2 ^ k := by omega
    have hR1 : z.natAbs - y.natAbs % z.natAbs ≤ 2 ^ m := by omega
    have hlQ1 := gr_len_pow hQ1
    have hlR1 := gr_len_pow hR1
    have s1 : sg (¬ (y < 0 ↔ z < 0)) (y.natAbs / z.natAbs + 1) = y.fdiv z := by rw [e1]; unfold sg; rw [if_pos hA2]
    have s2 : sg (z < 0) (z.natAbs - y.natAbs % z.natAbs) = y.fmod z := by rw [e2]; rfl
    have hM1 := fun p4 c4 (h4 : OkC p4 (y.natAbs / z.natAbs + 1) c4) M0 I0 h => made_ok (X := X) (w0 := w0) (M0 := M0) (I0 := I0) (p := ¬ (y < 0 ↔ z < 0)) (k := k) (by omega) h4 hQ1 h
    have hM2 := fun p4 c4 (h4 : OkC p4 (z.natAbs - y.natAbs % z.natAbs) c4) M0 I0 h => made_ok (X := X) (w0 := w0) (M0 := M0) (I0 := I0) (p := z < 0) (k := m) (by omega) h4 hR1 h
    rw [s1] at hM1
    rw [s2] at hM2
    have hP := fun p1 c1 p2 M0 I0 => plus_ok (X := X) (w0 := w0) (M0 := M0) (I0 := I0) (p := p1) (q := p2) (m := y.natAbs / z.natAbs) (n := 1) (cp := c1) (cq := 1) (by omega) (by rw [hg1]; simp)
    simp only [hg1] at hP
    have hMi := fun p3 c3 M0 I0 => minus_ok (X := X) (w0 := w0) (M0 := M0) (I0 := I0) (p := q') (q := p3) (m := z.natAbs) (n := y.natAbs % z.natAbs) (cp := cq') (cq := c3) (by omega) (by omega)
    exact Divide_A hlz1 hA1 hA2 hg1 hG1 hG2 hO hCl hP hMi hM1 hM2 (by simp) (by simp)
end
end Go.Proofs.YtllaoaobnnondaaGreatR
namespace Go.Proofs.YtllaoaobnnondaaGreatR
open Go Go.Fx
theorem wrap_neg2 {n : Nat} (h : 0 < n ∧ n ≤ 9223372036854775808) : IntKind.u64.wrap (0 - (-(n : Int) + 18446744073709551616)) = n := by
  simp [IntKind.wrap, IntKind.bits, IntKind.signed]; omega
section
variable {X : List Nat} {w0 : World} {M0 : List Ent} {I0 : List Imm}
set_option maxRecDepth 100000 in
theorem OfN_ok {n : Nat} (hx : 0 < n ∧ n ≤ 9223372036854775808) : CD Tryz.prog 196 [.int .i64 (-(n : Int))] X w0 M0 I0 (fun v M I => M0 = M ∧ I = isI v (-(n : Int)) 63 :: I0) := by
  have hn : n ≤ 2 ^ 63 := by omega
  have hlt : (-(n : Int)) < 0 := by omega
  have hMd := fun (q' : Option Addr) (c' : Nat) (hc' : OkC q' n c') M0 I0 => made_ok (X := X) (w0 := w0) (M0 := M0) (I0 := I0) (p := (-(n : Int)) < 0) (q := q') (c := c') (k := 63) (by have := gr_len_pow hn; omega) hc' hn
  have hs2 : sg ((-(n : Int)) < 0) n = -(n : Int) := by unfold sg; rw [if_pos hlt]
  rw [hs2] at hMd
  refine enterD1 Tryz.func196 rfl Tryz.ntmps196 rfl ?_
  refine TD_seq ?_
  refine TD_region ?_
  (refine RD_alloc rfl rfl ?_; intro b; refine ⟨okF, ?_⟩)
  repeat (refine wXf ?_)
  refine RD_c rfl (fun _ => Const_conv rfl (wrap_neg (by omega))) rfl rfl ?_
  repeat (refine wXf ?_)
  refine RD_c rfl (fun _ => Const_neg rfl (wrap_neg2 hx)) rfl rfl ?_
  repeat (refine wXf ?_)
  (refine RD_callS rfl (split_ok (n := n) (by omega)) rfl rfl ?_; rintro _ _ _ ⟨rfl, q', c', rfl, hc', rfl⟩; refine ⟨okF, ?_⟩)
  (refine RD_callS rfl (hMd q' c' hc' _ _ memF) rfl rfl ?_; rintro _ _ _ ⟨rfl, rfl⟩; refine ⟨okF, ?_⟩; refine RD_openI (List.Mem.head _) (fun q2 c2 e__ hc2 hz2 => ?_); subst e__)
  unfold iv
  repeat (refine wXf ?_)
  refine ND_retC (cs := [.bool (B (-(n : Int) < 0)), .slice q2 (gr (-(n : Int)).natAbs).length c2]) (.inl rfl) rfl rfl memF rfl _ _ subF incF ⟨rfl, rfl⟩
theorem OfZ_ok {x : Int} (hx : -9223372036854775808 ≤ x ∧ x ≤ 9223372036854775807) : CD Tryz.prog 196 [.int .i64 x] X w0 M0 I0 (fun v M I => M0 = M ∧ I = isI v x 63 :: I0) := by
  by_cases h : x < 0
  · obtain ⟨n, rfl⟩ : ∃ n : Nat, x = -(n : Int) := ⟨x.natAbs, by omega⟩
    exact OfN_ok (by omega)
  · exact Of_ok (by omega)
end
end Go.Proofs.YtllaoaobnnondaaGreatR

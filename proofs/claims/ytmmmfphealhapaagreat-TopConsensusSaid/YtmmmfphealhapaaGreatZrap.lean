/- integer: Divide, Of at negative numbers integer: Of at all numbers fraction: reduced, Valid, Value, Whole, Sign, Neg -/
import Derived.Test.YtmmmfphealhapaaGreatZran
import Derived.Test.YtmmmfphealhapaaGreatZraf
import Derived.Test.YtmmmfphealhapaaGreatZrao
set_option linter.unusedSimpArgs false
set_option linter.unusedVariables false
set_option maxRecDepth 100000
set_option maxHeartbeats 4000000
namespace Go.Proofs.YtmmmfphealhapaaGreat
open Go Go.Fx
theorem tZ {a b k : Nat} (h : a ≤ 2 ^ k) : a / b ≤ 2 ^ k := Nat.le_trans (Nat.div_le_self _ _) h
section
variable {X : List Nat} {w0 : World} {M0 : List Ent} {I0 : List bA}
def DvP (s t : Int) (k m : Nat) (M0 : List Ent) (I0 : List bA) (v : Value) (M : List Ent) (I : List bA) : Prop := M0 = M ∧ ∃ v1 v2, v = .tuple #[v1, v2, .int .i64 0] ∧ I = iC v2 t m :: iC v1 s k :: I0
theorem aKV {y z s t : Int} {q q' : Option Addr} {a b Q R k m cq cq' : Nat} (hb0 : ¬ (gr b).length = 0) (hA1 : ¬ (gr R).length = 0) (hA2 : ¬ (y < 0 ↔ z < 0)) (hg1 : gr 1 = [1])
  (h1 : ∀ M0 I0, aX q (recs eG (gr a)) ∈ I0 → CD Tryz.prog 126 [.agg #[.bool (B (y < 0)), .slice q (gr a).length cq]] X w0 M0 I0 (fun v M I => M0 = M ∧ I0 = I ∧ v = .slice q (gr a).length cq))
  (h2 : ∀ M0 I0, aX q' (recs eG (gr b)) ∈ I0 → CD Tryz.prog 126 [.agg #[.bool (B (z < 0)), .slice q' (gr b).length cq']] X w0 M0 I0 (fun v M I => M0 = M ∧ I0 = I ∧ v = .slice q' (gr b).length cq'))
  (hO : ∀ M0 I0, aX q (recs eG (gr a)) ∈ I0 → aX q' (recs eG (gr b)) ∈ I0 → CD Tryz.prog 127 [.slice q (gr a).length cq, .slice q' (gr b).length cq'] X w0 M0 I0 (QrP Q R M0 I0))
  (hC : ∀ p2 c2, oO p2 R c2 → ∀ M0 I0, aX p2 (recs eG (gr R)) ∈ I0 → CD Tryz.prog 128 [.slice p2 (gr R).length c2] X w0 M0 I0 (fun v M I => I0 = I ∧ ∃ q' c', v = .slice q' (gr R).length c' ∧ M = .row q' (gr R).length c' (recs eG (gr R)) 121 1 :: M0))
  (hP : ∀ p1 c1 p2 M0 I0, aX p1 (recs eG (gr Q)) ∈ I0 → aX p2 (recs eG [1]) ∈ I0 → CD Tryz.prog 129 [.slice p1 (gr Q).length c1, .slice p2 1 1] X w0 M0 I0 (GrP (Q + 1) M0 I0))
  (hMi : ∀ p3 c3 M0 I0, aX q' (recs eG (gr b)) ∈ I0 → aX p3 (recs eG (gr R)) ∈ I0 → CD Tryz.prog 130 [.slice q' (gr b).length cq', .slice p3 (gr R).length c3] X w0 M0 I0 (GrP (b - R) M0 I0))
  (hM1 : ∀ p4 c4, oO p4 (Q + 1) c4 → ∀ M0 I0, aX p4 (recs eG (gr (Q + 1))) ∈ I0 → CD Tryz.prog 123 [.bool (B (¬ (y < 0 ↔ z < 0))), .slice p4 (gr (Q + 1)).length c4] X w0 M0 I0 (fun v M I => M0 = M ∧ I = iC v s k :: I0))
  (hM2 : ∀ p4 c4, oO p4 (b - R) c4 → ∀ M0 I0, aX p4 (recs eG (gr (b - R))) ∈ I0 → CD Tryz.prog 123 [.bool (B (z < 0)), .slice p4 (gr (b - R)).length c4] X w0 M0 I0 (fun v M I => M0 = M ∧ I = iC v t m :: I0))
  (hq : aX q (recs eG (gr a)) ∈ I0) (hq' : aX q' (recs eG (gr b)) ∈ I0) :
  CD Tryz.prog 60 [.agg #[.bool (B (y < 0)), .slice q (gr a).length cq], .agg #[.bool (B (z < 0)), .slice q' (gr b).length cq']] X w0 M0 I0 (DvP s t k m M0 I0) := by
 refine bI Tryz.func60 rfl Tryz.ntmps60 rfl ?_
 refine aH ?_
 refine aI ?_
 (refine aK rfl rfl rfl ?_; intro b1; refine ⟨okF, ?_⟩)
 (refine aK rfl rfl rfl ?_; intro b2; refine ⟨okF, ?_⟩)
 (refine aC rfl rfl ?_; intro b3; refine ⟨okF, ?_⟩)
 (refine aC rfl rfl ?_; intro b4; refine ⟨okF, ?_⟩)
 repeat' (first | refine aI ?_ | refine jU ?_ | refine iN ?_ | refine fU ?_ | refine fJ ?_ | refine iI ?_ | refine iB ?_ | refine fT ?_ | refine fP ?_ | refine jY ?_ | refine jR ?_ | refine jS ?_ | refine jX rfl ?_ | refine aL ?_ | (refine gX ?_; first | refine gQ rfl rfl rfl ?_ | (refine gJ rfl rfl ?_; refine fF rfl rfl rfl okF ?_) | refine gT rfl rfl (by omega) ?_ | refine gI rfl rfl (by omega) ?_ | refine pG rfl rfl (fun h => ?_) (fun h => ?_) | (fail_if_success (refine sD rfl ?_); refine nN rfl rfl (fun h => ?_) (fun h => ?_))) | (refine bT ?_; refine aD rfl (fun _ => dL rfl) rfl rfl ?_) | refine aD rfl (fun _ => bH rfl) rfl rfl ?_ | (refine gK ?_; first | refine aD rfl (fun _ => bK rfl rfl wF) rfl rfl ?_ | refine aD rfl (fun _ => bM rfl rfl wF) rfl rfl ?_ | refine aD rfl (fun _ => eQ rfl rfl wF) rfl rfl ?_ | refine aD rfl (fun _ => eO rfl rfl (by omega) qF) rfl rfl ?_ | refine aD rfl (fun _ => eP rfl rfl (by omega) rfl) rfl rfl ?_ | refine aD rfl (fun _ => dK rfl rfl) rfl rfl ?_ | refine aD rfl (fun _ => dX rfl rfl) rfl rfl ?_ | refine aD rfl (fun _ => dY rfl rfl) rfl rfl ?_) | (refine bT ?_; first | refine aD rfl (fun _ => dZ rfl wF) rfl rfl ?_) | (refine gM ?_; first | refine aD rfl (fun _ => dD rfl wF) rfl rfl ?_) | (refine gH ?_; first | refine aD rfl (fun _ => bL rfl) rfl rfl ?_ | refine aD rfl (fun _ => dH rfl rfl) rfl rfl ?_ | refine aD rfl (fun _ => dJ rfl rfl) rfl rfl ?_ | refine aD rfl (fun _ => dI rfl rfl rfl) rfl rfl ?_) | (refine gL ?_; first | refine gP rfl (by decide) rfl rfl ?_ | refine jH rfl (by decide) rfl rfl ?_) | (refine gN ?_; first | refine aD rfl (fun _ => cO rfl) rfl rfl ?_) | (refine gW ?_; first | refine jB rfl rfl iQ rfl rfl ?_ | refine jE fV rfl rfl iQ aB jL rfl rfl ?_ | refine jF fV rfl rfl iQ aB jL rfl rfl ?_ | refine aD rfl (fun _ => bS rfl rfl iQ) rfl rfl ?_) | (refine gV ?_; first | refine jI fV rfl aB rP rfl rfl ?_ | refine jG fV rfl aB rP rfl rfl ?_ | refine jC fV rfl aB rP rfl rfl ?_ | refine fI fV rfl aB rP rfl rfl ?_ | refine nR fV rfl aB atZ rfl rfl ?_ | refine nV fV rfl aB atZ rfl rfl ?_ | refine iR fV rfl aB atZ rfl rfl ?_ | refine dW fV rfl aB atZ rfl rfl ?_) | (refine gU ?_; first | refine aD rfl (fun _ => bR rfl rfl) rfl rfl ?_ | refine aD rfl (fun _ => bJ rfl) rfl rfl ?_) | (refine iH ?_; first | refine lT rfl rfl rfl lN stC rfl rfl ⟨okF, ?_⟩ | refine gF rfl rfl fC qE lN qO rfl rfl ⟨okF, ?_⟩) | (refine iM ?_; first | refine bZ rfl ?_ | refine bQ rfl ?_ | refine jQ rfl (by omega) ?_ | refine lZ rfl (by omega) ?_ | refine rW rfl (fun h => ?_) (fun h => ?_) | refine nU rfl (fun h => ?_) (fun h => ?_)))
 (repeat refine aH ?_); refine dG 4 [0, 2, 1, 3, 4, 5] [1, 1, 0, 0, 0, 0] mixed (by kernel_rfl) ?_
 repeat' (first | refine bE ?_ | refine aV rfl (fun h => ?_) (fun h => ?_) | refine aW rfl rfl (fun h => ?_) (fun h => ?_) | fail)
 (refine aA rfl (h1 _ _ aB) rfl rfl ?_; rintro _ _ _ ⟨rfl, rfl, rfl⟩; refine ⟨okF, ?_⟩)
 repeat' (first | refine bE ?_ | refine aV rfl (fun h => ?_) (fun h => ?_) | refine aW rfl rfl (fun h => ?_) (fun h => ?_) | fail)
 (refine aA rfl (h2 _ _ aB) rfl rfl ?_; rintro _ _ _ ⟨rfl, rfl, rfl⟩; refine ⟨okF, ?_⟩)
 repeat' (first | refine bE ?_ | refine aV rfl (fun h => ?_) (fun h => ?_) | refine aW rfl rfl (fun h => ?_) (fun h => ?_) | fail)
 (refine aA rfl (hO _ _ aB aB) rfl rfl ?_; rintro _ _ _ ⟨rfl, p1, c1, p2, c2, ho1, ho2, rfl, rfl⟩; refine ⟨okF, ?_⟩)
 repeat' (first | refine bE ?_ | refine aV rfl (fun h => ?_) (fun h => ?_) | refine aW rfl rfl (fun h => ?_) (fun h => ?_) | fail)
 (refine aA rfl (hC p2 c2 ho2 _ _ aB) rfl rfl ?_; rintro _ _ _ ⟨rfl, p3, c3, rfl, rfl⟩; refine ⟨okF, ?_⟩)
 refine fO tL ?_
 repeat' (first | refine bE ?_ | refine aV rfl (fun h => ?_) (fun h => ?_) | refine aW rfl rfl (fun h => ?_) (fun h => ?_) | fail)
 (refine dM (cs := recs eG [1]) ([.int .u32 1]) rfl rfl (by intro v hv; repeat (first | exact absurd hv (List.not_mem_nil) | (rcases List.mem_cons.1 hv with rfl | hv; · rfl))) (by omega) rfl rfl rfl ?_; intro b5; refine ⟨okF, ?_⟩)
 refine aO tL ?_
 (refine aA rfl (hP p1 c1 (some ⟨b5, 0, none⟩) _ _ aB aB) rfl rfl ?_; rintro _ _ _ ⟨rfl, p4, c4, rfl, hc4, rfl⟩; refine ⟨okF, ?_⟩)
 repeat' (first | refine bE ?_ | refine aV rfl (fun h => ?_) (fun h => ?_) | refine aW rfl rfl (fun h => ?_) (fun h => ?_) | fail)
 (refine aA rfl (hMi p3 c3 _ _ aB aB) rfl rfl ?_; rintro _ _ _ ⟨rfl, p5, c5, rfl, hc5, rfl⟩; refine ⟨okF, ?_⟩)
 repeat' (first | refine aI ?_ | refine jU ?_ | refine iN ?_ | refine fU ?_ | refine fJ ?_ | refine iI ?_ | refine iB ?_ | refine fT ?_ | refine fP ?_ | refine jY ?_ | refine jR ?_ | refine jS ?_ | refine jX rfl ?_ | refine aL ?_ | (refine gX ?_; first | refine gQ rfl rfl rfl ?_ | (refine gJ rfl rfl ?_; refine fF rfl rfl rfl okF ?_) | refine gT rfl rfl (by omega) ?_ | refine gI rfl rfl (by omega) ?_ | refine pG rfl rfl (fun h => ?_) (fun h => ?_) | (fail_if_success (refine sD rfl ?_); refine nN rfl rfl (fun h => ?_) (fun h => ?_))) | (refine bT ?_; refine aD rfl (fun _ => dL rfl) rfl rfl ?_) | refine aD rfl (fun _ => bH rfl) rfl rfl ?_ | (refine gK ?_; first | refine aD rfl (fun _ => bK rfl rfl wF) rfl rfl ?_ | refine aD rfl (fun _ => bM rfl rfl wF) rfl rfl ?_ | refine aD rfl (fun _ => eQ rfl rfl wF) rfl rfl ?_ | refine aD rfl (fun _ => eO rfl rfl (by omega) qF) rfl rfl ?_ | refine aD rfl (fun _ => eP rfl rfl (by omega) rfl) rfl rfl ?_ | refine aD rfl (fun _ => dK rfl rfl) rfl rfl ?_ | refine aD rfl (fun _ => dX rfl rfl) rfl rfl ?_ | refine aD rfl (fun _ => dY rfl rfl) rfl rfl ?_) | (refine bT ?_; first | refine aD rfl (fun _ => dZ rfl wF) rfl rfl ?_) | (refine gM ?_; first | refine aD rfl (fun _ => dD rfl wF) rfl rfl ?_) | (refine gH ?_; first | refine aD rfl (fun _ => bL rfl) rfl rfl ?_ | refine aD rfl (fun _ => dH rfl rfl) rfl rfl ?_ | refine aD rfl (fun _ => dJ rfl rfl) rfl rfl ?_ | refine aD rfl (fun _ => dI rfl rfl rfl) rfl rfl ?_) | (refine gL ?_; first | refine gP rfl (by decide) rfl rfl ?_ | refine jH rfl (by decide) rfl rfl ?_) | (refine gN ?_; first | refine aD rfl (fun _ => cO rfl) rfl rfl ?_) | (refine gW ?_; first | refine jB rfl rfl iQ rfl rfl ?_ | refine jE fV rfl rfl iQ aB jL rfl rfl ?_ | refine jF fV rfl rfl iQ aB jL rfl rfl ?_ | refine aD rfl (fun _ => bS rfl rfl iQ) rfl rfl ?_) | (refine gV ?_; first | refine jI fV rfl aB rP rfl rfl ?_ | refine jG fV rfl aB rP rfl rfl ?_ | refine jC fV rfl aB rP rfl rfl ?_ | refine fI fV rfl aB rP rfl rfl ?_ | refine nR fV rfl aB atZ rfl rfl ?_ | refine nV fV rfl aB atZ rfl rfl ?_ | refine iR fV rfl aB atZ rfl rfl ?_ | refine dW fV rfl aB atZ rfl rfl ?_) | (refine gU ?_; first | refine aD rfl (fun _ => bR rfl rfl) rfl rfl ?_ | refine aD rfl (fun _ => bJ rfl) rfl rfl ?_) | (refine iH ?_; first | refine lT rfl rfl rfl lN stC rfl rfl ⟨okF, ?_⟩ | refine gF rfl rfl fC qE lN qO rfl rfl ⟨okF, ?_⟩) | (refine iM ?_; first | refine bZ rfl ?_ | refine bQ rfl ?_ | refine jQ rfl (by omega) ?_ | refine lZ rfl (by omega) ?_ | refine rW rfl (fun h => ?_) (fun h => ?_) | refine nU rfl (fun h => ?_) (fun h => ?_)))
 (repeat refine aH ?_); refine bB (.blk b2 [.bool (B (z < 0)), .slice q' (gr b).length cq'] 42 :: .blk b1 [.bool (B (y < 0)), .slice q (gr a).length cq] 42 :: M0) (I0) [0, 1, 2, 3, 4, 5, 7, 8, 9, 6, 10, 11, 12, 13] [2, 2, 2, 2, 1, 1, 3, 2, 2, 0, 0, 0, 0, 0] aG aF mixed (by kernel_rfl) ?_
 repeat' (first | refine bE ?_ | refine aV rfl (fun h => ?_) (fun h => ?_) | refine aW rfl rfl (fun h => ?_) (fun h => ?_) | fail)
 (refine aA rfl (hM1 p4 c4 hc4 _ _ aB) rfl rfl ?_; rintro _ _ _ ⟨rfl, rfl⟩; refine ⟨okF, ?_⟩; refine aU (List.Mem.head _) (fun q6 c6 e__ hc6 hz6 => ?_); subst e__)
 repeat' (first | refine bE ?_ | refine aV rfl (fun h => ?_) (fun h => ?_) | refine aW rfl rfl (fun h => ?_) (fun h => ?_) | fail)
 (refine aA rfl (hM2 p5 c5 hc5 _ _ aB) rfl rfl ?_; rintro _ _ _ ⟨rfl, rfl⟩; refine ⟨okF, ?_⟩; refine aU (List.Mem.head _) (fun q7 c7 e__ hc7 hz7 => ?_); subst e__)
 unfold iv
 repeat' (first | refine bE ?_ | refine aV rfl (fun h => ?_) (fun h => ?_) | refine aW rfl rfl (fun h => ?_) (fun h => ?_) | fail)
 refine dP (rs := [.cell 4 42, .cell 5 42, .tmp 6]) (.inl rfl) rfl (.cellN inferInstance rfl aB rfl (.cellN inferInstance rfl aB rfl (.tmp rfl .nil))) rfl M0 (iC (.agg #[.bool (B (t < 0)), .slice q7 (gr t.natAbs).length c7]) t m :: iC (.agg #[.bool (B (s < 0)), .slice q6 (gr s.natAbs).length c6]) s k :: I0) aG aF ⟨rfl, _, _, rfl, rfl⟩
theorem aMC {y z s t : Int} {q q' : Option Addr} {a b Q R k m cq cq' : Nat} (hb0 : ¬ (gr b).length = 0) (hA : (gr R).length = 0 ∨ (y < 0 ↔ z < 0))
  (h1 : ∀ M0 I0, aX q (recs eG (gr a)) ∈ I0 → CD Tryz.prog 126 [.agg #[.bool (B (y < 0)), .slice q (gr a).length cq]] X w0 M0 I0 (fun v M I => M0 = M ∧ I0 = I ∧ v = .slice q (gr a).length cq))
  (h2 : ∀ M0 I0, aX q' (recs eG (gr b)) ∈ I0 → CD Tryz.prog 126 [.agg #[.bool (B (z < 0)), .slice q' (gr b).length cq']] X w0 M0 I0 (fun v M I => M0 = M ∧ I0 = I ∧ v = .slice q' (gr b).length cq'))
  (hO : ∀ M0 I0, aX q (recs eG (gr a)) ∈ I0 → aX q' (recs eG (gr b)) ∈ I0 → CD Tryz.prog 127 [.slice q (gr a).length cq, .slice q' (gr b).length cq'] X w0 M0 I0 (QrP Q R M0 I0))
  (hC : ∀ p2 c2, oO p2 R c2 → ∀ M0 I0, aX p2 (recs eG (gr R)) ∈ I0 → CD Tryz.prog 128 [.slice p2 (gr R).length c2] X w0 M0 I0 (fun v M I => I0 = I ∧ ∃ q' c', v = .slice q' (gr R).length c' ∧ M = .row q' (gr R).length c' (recs eG (gr R)) 121 1 :: M0))
  (hM1 : ∀ p4 c4, oO p4 Q c4 → ∀ M0 I0, aX p4 (recs eG (gr Q)) ∈ I0 → CD Tryz.prog 123 [.bool (B (¬ (y < 0 ↔ z < 0))), .slice p4 (gr Q).length c4] X w0 M0 I0 (fun v M I => M0 = M ∧ I = iC v s k :: I0))
  (hM2 : ∀ p4 c4, oO p4 R c4 → ∀ M0 I0, aX p4 (recs eG (gr R)) ∈ I0 → CD Tryz.prog 123 [.bool (B (z < 0)), .slice p4 (gr R).length c4] X w0 M0 I0 (fun v M I => M0 = M ∧ I = iC v t m :: I0))
  (hq : aX q (recs eG (gr a)) ∈ I0) (hq' : aX q' (recs eG (gr b)) ∈ I0) :
  CD Tryz.prog 60 [.agg #[.bool (B (y < 0)), .slice q (gr a).length cq], .agg #[.bool (B (z < 0)), .slice q' (gr b).length cq']] X w0 M0 I0 (DvP s t k m M0 I0) := by
 refine bI Tryz.func60 rfl Tryz.ntmps60 rfl ?_
 refine aH ?_
 refine aI ?_
 (refine aK rfl rfl rfl ?_; intro b1; refine ⟨okF, ?_⟩)
 (refine aK rfl rfl rfl ?_; intro b2; refine ⟨okF, ?_⟩)
 (refine aC rfl rfl ?_; intro b3; refine ⟨okF, ?_⟩)
 (refine aC rfl rfl ?_; intro b4; refine ⟨okF, ?_⟩)
 repeat' (first | refine aI ?_ | refine jU ?_ | refine iN ?_ | refine fU ?_ | refine fJ ?_ | refine iI ?_ | refine iB ?_ | refine fT ?_ | refine fP ?_ | refine jY ?_ | refine jR ?_ | refine jS ?_ | refine jX rfl ?_ | refine aL ?_ | (refine gX ?_; first | refine gQ rfl rfl rfl ?_ | (refine gJ rfl rfl ?_; refine fF rfl rfl rfl okF ?_) | refine gT rfl rfl (by omega) ?_ | refine gI rfl rfl (by omega) ?_ | refine pG rfl rfl (fun h => ?_) (fun h => ?_) | (fail_if_success (refine sD rfl ?_); refine nN rfl rfl (fun h => ?_) (fun h => ?_))) | (refine bT ?_; refine aD rfl (fun _ => dL rfl) rfl rfl ?_) | refine aD rfl (fun _ => bH rfl) rfl rfl ?_ | (refine gK ?_; first | refine aD rfl (fun _ => bK rfl rfl wF) rfl rfl ?_ | refine aD rfl (fun _ => bM rfl rfl wF) rfl rfl ?_ | refine aD rfl (fun _ => eQ rfl rfl wF) rfl rfl ?_ | refine aD rfl (fun _ => eO rfl rfl (by omega) qF) rfl rfl ?_ | refine aD rfl (fun _ => eP rfl rfl (by omega) rfl) rfl rfl ?_ | refine aD rfl (fun _ => dK rfl rfl) rfl rfl ?_ | refine aD rfl (fun _ => dX rfl rfl) rfl rfl ?_ | refine aD rfl (fun _ => dY rfl rfl) rfl rfl ?_) | (refine bT ?_; first | refine aD rfl (fun _ => dZ rfl wF) rfl rfl ?_) | (refine gM ?_; first | refine aD rfl (fun _ => dD rfl wF) rfl rfl ?_) | (refine gH ?_; first | refine aD rfl (fun _ => bL rfl) rfl rfl ?_ | refine aD rfl (fun _ => dH rfl rfl) rfl rfl ?_ | refine aD rfl (fun _ => dJ rfl rfl) rfl rfl ?_ | refine aD rfl (fun _ => dI rfl rfl rfl) rfl rfl ?_) | (refine gL ?_; first | refine gP rfl (by decide) rfl rfl ?_ | refine jH rfl (by decide) rfl rfl ?_) | (refine gN ?_; first | refine aD rfl (fun _ => cO rfl) rfl rfl ?_) | (refine gW ?_; first | refine jB rfl rfl iQ rfl rfl ?_ | refine jE fV rfl rfl iQ aB jL rfl rfl ?_ | refine jF fV rfl rfl iQ aB jL rfl rfl ?_ | refine aD rfl (fun _ => bS rfl rfl iQ) rfl rfl ?_) | (refine gV ?_; first | refine jI fV rfl aB rP rfl rfl ?_ | refine jG fV rfl aB rP rfl rfl ?_ | refine jC fV rfl aB rP rfl rfl ?_ | refine fI fV rfl aB rP rfl rfl ?_ | refine nR fV rfl aB atZ rfl rfl ?_ | refine nV fV rfl aB atZ rfl rfl ?_ | refine iR fV rfl aB atZ rfl rfl ?_ | refine dW fV rfl aB atZ rfl rfl ?_) | (refine gU ?_; first | refine aD rfl (fun _ => bR rfl rfl) rfl rfl ?_ | refine aD rfl (fun _ => bJ rfl) rfl rfl ?_) | (refine iH ?_; first | refine lT rfl rfl rfl lN stC rfl rfl ⟨okF, ?_⟩ | refine gF rfl rfl fC qE lN qO rfl rfl ⟨okF, ?_⟩) | (refine iM ?_; first | refine bZ rfl ?_ | refine bQ rfl ?_ | refine jQ rfl (by omega) ?_ | refine lZ rfl (by omega) ?_ | refine rW rfl (fun h => ?_) (fun h => ?_) | refine nU rfl (fun h => ?_) (fun h => ?_)))
 (repeat refine aH ?_); refine dG 4 [0, 2, 1, 3, 4, 5] [1, 1, 0, 0, 0, 0] mixed (by kernel_rfl) ?_
 repeat' (first | refine bE ?_ | refine aV rfl (fun h => ?_) (fun h => ?_) | refine aW rfl rfl (fun h => ?_) (fun h => ?_) | fail)
 (refine aA rfl (h1 _ _ aB) rfl rfl ?_; rintro _ _ _ ⟨rfl, rfl, rfl⟩; refine ⟨okF, ?_⟩)
 repeat' (first | refine bE ?_ | refine aV rfl (fun h => ?_) (fun h => ?_) | refine aW rfl rfl (fun h => ?_) (fun h => ?_) | fail)
 (refine aA rfl (h2 _ _ aB) rfl rfl ?_; rintro _ _ _ ⟨rfl, rfl, rfl⟩; refine ⟨okF, ?_⟩)
 repeat' (first | refine bE ?_ | refine aV rfl (fun h => ?_) (fun h => ?_) | refine aW rfl rfl (fun h => ?_) (fun h => ?_) | fail)
 (refine aA rfl (hO _ _ aB aB) rfl rfl ?_; rintro _ _ _ ⟨rfl, p1, c1, p2, c2, ho1, ho2, rfl, rfl⟩; refine ⟨okF, ?_⟩)
 repeat' (first | refine bE ?_ | refine aV rfl (fun h => ?_) (fun h => ?_) | refine aW rfl rfl (fun h => ?_) (fun h => ?_) | fail)
 (refine aA rfl (hC p2 c2 ho2 _ _ aB) rfl rfl ?_; rintro _ _ _ ⟨rfl, p3, c3, rfl, rfl⟩; refine ⟨okF, ?_⟩)
 refine lU (fun w hw => And.intro (hw.rowLe (List.Mem.head _)) ((hw.rowS (List.Mem.head _)).2.imp id And.right)) (fun ho3 => ?_)
 refine fO tL ?_
 repeat' (first | refine bE ?_ | refine aV rfl (fun h => ?_) (fun h => ?_) | refine aW rfl rfl (fun h => ?_) (fun h => ?_) | fail)
 all_goals
  ((repeat refine aH ?_); refine bB (.blk b2 [.bool (B (z < 0)), .slice q' (gr b).length cq'] 42 :: .blk b1 [.bool (B (y < 0)), .slice q (gr a).length cq] 42 :: M0) (I0) [0, 1, 2, 3, 4, 5, 7, 8, 9, 6, 10, 11, 12, 13] [2, 2, 2, 2, 1, 1, 3, 2, 2, 0, 0, 0, 0, 0] aG aF mixed (by kernel_rfl) ?_)
  repeat' (first | refine bE ?_ | refine aV rfl (fun h => ?_) (fun h => ?_) | refine aW rfl rfl (fun h => ?_) (fun h => ?_) | fail)
  (refine aA rfl (hM1 p1 c1 ho1 _ _ aB) rfl rfl ?_; rintro _ _ _ ⟨rfl, rfl⟩; refine ⟨okF, ?_⟩; refine aU (List.Mem.head _) (fun q6 c6 e__ hc6 hz6 => ?_); subst e__)
  repeat' (first | refine bE ?_ | refine aV rfl (fun h => ?_) (fun h => ?_) | refine aW rfl rfl (fun h => ?_) (fun h => ?_) | fail)
  (refine aA rfl (hM2 p3 c3 ho3 _ _ aB) rfl rfl ?_; rintro _ _ _ ⟨rfl, rfl⟩; refine ⟨okF, ?_⟩; refine aU (List.Mem.head _) (fun q7 c7 e__ hc7 hz7 => ?_); subst e__)
  unfold iv
  repeat' (first | refine bE ?_ | refine aV rfl (fun h => ?_) (fun h => ?_) | refine aW rfl rfl (fun h => ?_) (fun h => ?_) | fail)
  refine dP (rs := [.cell 4 42, .cell 5 42, .tmp 6]) (.inl rfl) rfl (.cellN inferInstance rfl aB rfl (.cellN inferInstance rfl aB rfl (.tmp rfl .nil))) rfl M0 (iC (.agg #[.bool (B (t < 0)), .slice q7 (gr t.natAbs).length c7]) t m :: iC (.agg #[.bool (B (s < 0)), .slice q6 (gr s.natAbs).length c6]) s k :: I0) aG aF ⟨rfl, _, _, rfl, rfl⟩
theorem wE {u v : Value} {y z : Int} {k m : Nat} (hk : k ≤ 1000000000000) (hm : m ≤ 1000000000000) (hz0 : z ≠ 0) (hu : iC u y k ∈ I0) (hv : iC v z m ∈ I0) :
  CD Tryz.prog 60 [u, v] X w0 M0 I0 (DvP (y.fdiv z) (y.fmod z) k m M0 I0) := by
 refine cB hu (fun q cq e hc hy => ?_)
 subst e
 refine cB (List.Mem.tail _ hv) (fun q' cq' e hc' hz => ?_)
 subst e
 have hly := fE hy
 have hlz := fE hz
 have hfd := vZ (y := y) hz0
 have hz1 : 0 < z.natAbs := by omega
 have hmod := Nat.mod_lt y.natAbs hz1
 have hqb : y.natAbs / z.natAbs ≤ 2 ^ k := tZ hy
 have hrb : y.natAbs % z.natAbs ≤ 2 ^ m := by omega
 have hlq := fE hqb
 have hlr := fE hrb
 have hlz1 : ¬ (gr z.natAbs).length = 0 := fun e => by have := mI.1 (List.eq_nil_of_length_eq_zero e); omega
 have hg1 : gr 1 = [1] := rX (f := 1) (by decide) (by decide)
 have hr0 : (gr (y.natAbs % z.natAbs)).length = 0 ↔ y.natAbs % z.natAbs = 0 := by rw [List.length_eq_zero_iff, mI]
 refine CD.post (K := DvP (y.fdiv z) (y.fmod z) k m M0 (aX q' (recs eG (gr z.natAbs)) :: aX q (recs eG (gr y.natAbs)) :: I0)) ?_ (fun v M I w h hw => ?_)
 case refine_2 =>
  obtain ⟨e1, v1, v2, e2, e3⟩ := h
  subst e1; subst e3
  exact ⟨_, _, ⟨rfl, v1, v2, e2, rfl⟩, hw.inc (Inc.cons (by simp) (Inc.cons (by simp) (Inc.wk (Inc.wk (Inc.wk (Inc.wk Inc.refl))))))⟩
 have hG1 := fun M0 I0 h => iJ (X := X) (w0 := w0) (M0 := M0) (I0 := I0) (c := cq) (q := q) (z := y) hy (by omega) h
 have hG2 := fun M0 I0 h => iJ (X := X) (w0 := w0) (M0 := M0) (I0 := I0) (c := cq') (q := q') (z := z) hz (by omega) h
 have hO := fun M0 I0 => aGO (X := X) (w0 := w0) (M0 := M0) (I0 := I0) (p := q) (q := q') (m := y.natAbs) (n := z.natAbs) (cp := cq) (cq := cq') (by omega) (by omega) hz1 hc
 have hCl := fun p2 c2 (ho2 : oO p2 (y.natAbs % z.natAbs) c2) M0 I0 h => wG (X := X) (w0 := w0) (M0 := M0) (I0 := I0) (q := p2) (a := gr (y.natAbs % z.natAbs)) (c := c2) (by omega) ho2.2 h
 unfold iv at hG1 hG2 ⊢
 by_cases hA : (gr (y.natAbs % z.natAbs)).length = 0 ∨ (y < 0 ↔ z < 0)
 ·obtain ⟨e1, e2⟩ := hfd.2 (hA.elim (fun h => .inr (hr0.1 h)) .inl)
  have s1 : sg (¬ (y < 0 ↔ z < 0)) (y.natAbs / z.natAbs) = y.fdiv z := by rw [e1]; rfl
  have s2 : sg (z < 0) (y.natAbs % z.natAbs) = y.fmod z := by rw [e2]; rfl
  have hM1 := fun p4 c4 (h4 : oO p4 (y.natAbs / z.natAbs) c4) M0 I0 h => lF (X := X) (w0 := w0) (M0 := M0) (I0 := I0) (p := ¬ (y < 0 ↔ z < 0)) (k := k) (by omega) h4 hqb h
  have hM2 := fun p4 c4 (h4 : oO p4 (y.natAbs % z.natAbs) c4) M0 I0 h => lF (X := X) (w0 := w0) (M0 := M0) (I0 := I0) (p := z < 0) (k := m) (by omega) h4 hrb h
  rw [s1] at hM1
  rw [s2] at hM2
  exact aMC hlz1 hA hG1 hG2 hO hCl hM1 hM2 (by simp) (by simp)
 ·have hA1 : ¬ (gr (y.natAbs % z.natAbs)).length = 0 := fun h => hA (.inl h)
  have hA2 : ¬ (y < 0 ↔ z < 0) := fun h => hA (.inr h)
  have hAr : y.natAbs % z.natAbs ≠ 0 := fun h => hA1 (hr0.2 h)
  obtain ⟨e1, e2⟩ := hfd.1 hA2 hAr
  have hab := Nat.div_add_mod y.natAbs z.natAbs
  have hbQ : y.natAbs / z.natAbs ≤ z.natAbs * (y.natAbs / z.natAbs) := Nat.le_mul_of_pos_left _ hz1
  have hQ1 : y.natAbs / z.natAbs + 1 ≤ 2 ^ k := by omega
  have hR1 : z.natAbs - y.natAbs % z.natAbs ≤ 2 ^ m := by omega
  have hlQ1 := fE hQ1
  have hlR1 := fE hR1
  have s1 : sg (¬ (y < 0 ↔ z < 0)) (y.natAbs / z.natAbs + 1) = y.fdiv z := by rw [e1]; unfold sg; rw [if_pos hA2]
  have s2 : sg (z < 0) (z.natAbs - y.natAbs % z.natAbs) = y.fmod z := by rw [e2]; rfl
  have hM1 := fun p4 c4 (h4 : oO p4 (y.natAbs / z.natAbs + 1) c4) M0 I0 h => lF (X := X) (w0 := w0) (M0 := M0) (I0 := I0) (p := ¬ (y < 0 ↔ z < 0)) (k := k) (by omega) h4 hQ1 h
  have hM2 := fun p4 c4 (h4 : oO p4 (z.natAbs - y.natAbs % z.natAbs) c4) M0 I0 h => lF (X := X) (w0 := w0) (M0 := M0) (I0 := I0) (p := z < 0) (k := m) (by omega) h4 hR1 h
  rw [s1] at hM1
  rw [s2] at hM2
  have hP := fun p1 c1 p2 M0 I0 => aGQ (X := X) (w0 := w0) (M0 := M0) (I0 := I0) (p := p1) (q := p2) (m := y.natAbs / z.natAbs) (n := 1) (cp := c1) (cq := 1) (by omega) (by rw [hg1]; simp)
  simp only [hg1] at hP
  have hMi := fun p3 c3 M0 I0 => yF (X := X) (w0 := w0) (M0 := M0) (I0 := I0) (p := q') (q := p3) (m := z.natAbs) (n := y.natAbs % z.natAbs) (cp := cq') (cq := c3) (by omega) (by omega)
  exact aKV hlz1 hA1 hA2 hg1 hG1 hG2 hO hCl hP hMi hM1 hM2 (by simp) (by simp)
end
end Go.Proofs.YtmmmfphealhapaaGreat
namespace Go.Proofs.YtmmmfphealhapaaGreat
open Go Go.Fx
theorem aIQ {n : Nat} (h : 0 < n ∧ n ≤ 9223372036854775808) : IntKind.u64.wrap (0 - (-(n : Int) + 18446744073709551616)) = n := by
 simp [IntKind.wrap, IntKind.bits, IntKind.signed]; omega
section
variable {X : List Nat} {w0 : World} {M0 : List Ent} {I0 : List bA}
theorem aPR {n : Nat} (hx : 0 < n ∧ n ≤ 9223372036854775808) : CD Tryz.prog 58 [.int .i64 (-(n : Int))] X w0 M0 I0 (fun v M I => M0 = M ∧ I = iC v (-(n : Int)) 63 :: I0) := by
 have hn : n ≤ 2 ^ 63 := by omega
 have hlt : (-(n : Int)) < 0 := by omega
 have hMd := fun (q' : Option Addr) (c' : Nat) (hc' : oO q' n c') M0 I0 => lF (X := X) (w0 := w0) (M0 := M0) (I0 := I0) (p := (-(n : Int)) < 0) (q := q') (c := c') (k := 63) (by have := fE hn; omega) hc' hn
 have hs2 : sg ((-(n : Int)) < 0) n = -(n : Int) := by unfold sg; rw [if_pos hlt]
 rw [hs2] at hMd
 refine bV Tryz.func58 rfl Tryz.ntmps58 rfl ?_
 refine aH ?_
 refine aI ?_
 (refine aC rfl rfl ?_; intro b; refine ⟨okF, ?_⟩)
 repeat (refine bE ?_)
 refine aD rfl (fun _ => dD rfl (aDC (by omega))) rfl rfl ?_
 repeat (refine bE ?_)
 refine aD rfl (fun _ => dZ rfl (aIQ hx)) rfl rfl ?_
 repeat (refine bE ?_)
 (refine aA rfl (pQ (n := n) (by omega)) rfl rfl ?_; rintro _ _ _ ⟨rfl, q', c', rfl, hc', rfl⟩; refine ⟨okF, ?_⟩)
 (refine aA rfl (hMd q' c' hc' _ _ aB) rfl rfl ?_; rintro _ _ _ ⟨rfl, rfl⟩; refine ⟨okF, ?_⟩; refine aU (List.Mem.head _) (fun q2 c2 e__ hc2 hz2 => ?_); subst e__)
 unfold iv
 repeat (refine bE ?_)
 refine bC (cs := [.bool (B (-(n : Int) < 0)), .slice q2 (gr (-(n : Int)).natAbs).length c2]) (.inl rfl) rfl rfl aB rfl _ _ aG aF ⟨rfl, rfl⟩
theorem aCK {x : Int} (hx : -9223372036854775808 ≤ x ∧ x ≤ 9223372036854775807) : CD Tryz.prog 58 [.int .i64 x] X w0 M0 I0 (fun v M I => M0 = M ∧ I = iC v x 63 :: I0) := by
 by_cases h : x < 0
 ·obtain ⟨n, rfl⟩ : ∃ n : Nat, x = -(n : Int) := ⟨x.natAbs, by omega⟩
  exact aPR (by omega)
 ·exact Of_ok (by omega)
end
end Go.Proofs.YtmmmfphealhapaaGreat
namespace Go.Proofs.YtmmmfphealhapaaGreat
open Go Go.Fx
section
variable {X : List Nat} {w0 : World} {M0 : List Ent} {I0 : List bA}
theorem sH {u : Value} {z : Int} {k : Nat} (hk : k ≤ 1000000000000) (hu : iC u z k ∈ I0) :
  CD Tryz.prog 120 [u] X w0 M0 I0 (fun v M I => M0 = M ∧ I0 = I ∧ v = .bool true) := by
 refine CD.post (K := fun v M I => M0 = M ∧ (∃ q, aX q (recs eG (gr z.natAbs)) :: I0 = I) ∧ v = .bool true) (cB hu (fun q c e hc hz => ?_)) (fun v M I w h hw => ?_)
 case refine_2 =>
  obtain ⟨e1, ⟨q, e2⟩, e3⟩ := h
  subst e1; subst e2
  exact ⟨_, _, ⟨rfl, rfl, e3⟩, hw.inc (Inc.wk Inc.refl)⟩
 subst e
 have hl := fK hz hk
 refine (aDH (neg := B (z < 0)) (gs := gr z.natAbs) (by omega) (List.Mem.head _)).mono (fun v M I h => ⟨h.1, ⟨q, h.2.1⟩, ?_⟩)
 rw [h.2.2]
 exact congrArg Value.bool (fA (aCA z))
theorem rH {u v : Value} {n d : Int} {k : Nat} (hk : k ≤ 500000000000) (hd0 : d ≠ 0) (hu : iC u n k ∈ I0) (hv : iC v d k ∈ I0) :
  CD Tryz.prog 167 [u, v] X w0 M0 I0 (RQ (Rat.divInt n d) k M0 I0) := by
 have hS := fun M0 I0 => lL (X := X) (w0 := w0) (M0 := M0) (I0 := I0) (u := v) (z := d) (k := k) (by omega)
 refine cB hu (fun q cq e hc hy => ?_)
 subst e
 refine cB (List.Mem.tail _ hv) (fun q' cq' e hc' hz => ?_)
 subst e
 obtain ⟨r, hr⟩ : ∃ r, r = Rat.divInt n d := ⟨_, rfl⟩
 have key : ∀ n' d' : Int, 0 < d' → Rat.divInt n' d' = Rat.divInt n d → (∀ u v M0 I0, iC u n' k ∈ I0 → iC v (Int.gcd n' d' : Int) (k + k) ∈ I0 → CD Tryz.prog 60 [u, v] X w0 M0 I0 (DvP r.num (n'.fmod (Int.gcd n' d')) k (k + k) M0 I0)) ∧ (∀ u v M0 I0, iC u d' k ∈ I0 → iC v (Int.gcd n' d' : Int) (k + k) ∈ I0 → CD Tryz.prog 60 [u, v] X w0 M0 I0 (DvP r.den (d'.fmod (Int.gcd n' d')) k (k + k) M0 I0)) := by
  intro n' d' hd' he
  obtain ⟨e1, e2, e3⟩ := aHO (n := n') (d := d') (g := (Int.gcd n' d' : Int)) (by omega) (by rw [if_neg (by omega)])
  rw [he, ← hr] at e1 e2
  refine ⟨fun u v M0 I0 h1 h2 => ?_, fun u v M0 I0 h1 h2 => ?_⟩
  ·have := wE (X := X) (w0 := w0) (M0 := M0) (I0 := I0) (k := k) (m := k + k) (by omega) (by omega) e3 h1 h2
   rwa [e1] at this
  ·have := wE (X := X) (w0 := w0) (M0 := M0) (I0 := I0) (k := k) (m := k + k) (by omega) (by omega) e3 h1 h2
   rwa [e2] at this
 rw [← hr]
 have hN := fun u z M0 I0 => aBZ (X := X) (w0 := w0) (M0 := M0) (I0 := I0) (u := u) (z := z) (k := k) (by omega)
 have hG := fun u v n' d' M0 I0 => aFS (X := X) (w0 := w0) (M0 := M0) (I0 := I0) (u := u) (v := v) (y := n') (z := d') (k0 := k) (m := k) (by omega) (by omega)
 by_cases hneg : d < 0
 ·have hs : d.sign = -1 := Int.sign_eq_neg_one_of_neg hneg
  obtain ⟨hD1, hD2⟩ := key (-n) (-d) (by omega) yD
  rw [hs] at hS
  clear key
  obtain ⟨g, hg⟩ : ∃ g : Int, g = (Int.gcd (-n) (-d) : Int) := ⟨_, rfl⟩
  rw [← hg] at hD1 hD2
  have hG := fun u v => hG u v (-n) (-d)
  rw [← hg] at hG
  obtain ⟨n1, hn1⟩ : ∃ g : Int, g = -n := ⟨_, rfl⟩
  obtain ⟨d1, hd1⟩ : ∃ g : Int, g = -d := ⟨_, rfl⟩
  have hN1 := fun u => hN u n
  have hN2 := fun u => hN u d
  rw [← hn1] at hN1 hD1 hG
  rw [← hd1] at hN2 hD2 hG
  unfold iv at *
  refine bI Tryz.func167 rfl Tryz.ntmps167 rfl ?_
  refine aH ?_
  refine aI ?_
  (refine aK rfl rfl rfl ?_; intro b; refine ⟨okF, ?_⟩)
  (refine aK rfl rfl rfl ?_; intro b2; refine ⟨okF, ?_⟩)
  (refine aC rfl rfl ?_; intro b4; refine ⟨okF, ?_⟩)
  repeat (refine bE ?_)
  (refine aA rfl (hS _ _ aB) rfl rfl ?_; rintro _ _ _ ⟨rfl, rfl, rfl⟩; refine ⟨okF, ?_⟩)
  repeat (refine bE ?_)
  (repeat refine aH ?_); refine dG 2 [0, 2, 1, 3, 4, 5] [1, 2, 0, 0, 0, 0] mixed (by kernel_rfl) ?_
  repeat (refine bE ?_)
  (refine aA rfl (hN1 _ _ _ aB) rfl rfl ?_; rintro _ _ _ ⟨rfl, rfl⟩; refine ⟨okF, ?_⟩; refine aU (List.Mem.head _) (fun q1 c1 e__ hc1 hz1 => ?_); subst e__)
  repeat (refine bE ?_)
  (refine aA rfl (hN2 _ _ _ aB) rfl rfl ?_; rintro _ _ _ ⟨rfl, rfl⟩; refine ⟨okF, ?_⟩; refine aU (List.Mem.head _) (fun q2 c2 e__ hc2 hz2 => ?_); subst e__)
  unfold iv
  repeat (refine bE ?_)
  (refine aA rfl (hG _ _ _ _ aB aB) rfl rfl ?_; rintro _ _ _ ⟨rfl, rfl⟩; refine ⟨okF, ?_⟩; refine aU (List.Mem.head _) (fun q3 c3 e__ hc3 hz3 => ?_); subst e__)
  unfold iv
  repeat (refine bE ?_)
  (refine aC rfl rfl ?_; intro b5; refine ⟨okF, ?_⟩)
  repeat (refine bE ?_)
  (refine aA rfl (hD1 _ _ _ _ aB aB) rfl rfl ?_; rintro _ _ _ ⟨rfl, v1, v2, rfl, rfl⟩; refine ⟨okF, ?_⟩)
  refine aU (u := v1) aB (fun q4 c4 e4 hc4 hz4 => ?_)
  subst e4
  unfold iv
  repeat (refine bE ?_)
  (refine aA rfl (hD2 _ _ _ _ aB aB) rfl rfl ?_; rintro _ _ _ ⟨rfl, v3, v4, rfl, rfl⟩; refine ⟨okF, ?_⟩)
  refine aU (u := v3) aB (fun q5 c5 e5 hc5 hz5 => ?_)
  subst e5
  unfold iv
  repeat (refine bE ?_)
  (refine aD rfl (fun _ => aZ (pvs := ([vI q4 c4 r.num, vI q5 c5 r.den]).zipIdx.map (fun p => (p.2, p.1))) (cells := eR ⟨r, q4, c4, q5, c5⟩) rfl rfl) rfl rfl ?_)
  repeat (refine bE ?_)
  refine lD (q := r) (k := k) (p1 := q4) (c1 := c4) (p2 := q5) (c2 := c5) aB aB (Nat.le_refl _) (Nat.le_refl _) ?_
  refine bC (cs := eR ⟨r, q4, c4, q5, c5⟩) (.inl rfl) rfl rfl aB rfl M0 (jA ⟨r, q4, c4, q5, c5⟩ k :: I0) aG aF ⟨rfl, ⟨r, q4, c4, q5, c5⟩, rfl, rfl, rfl⟩
 ·have hs : d.sign = 1 := Int.sign_eq_one_of_pos (by omega)
  obtain ⟨hD1, hD2⟩ := key n d (by omega) rfl
  rw [hs] at hS
  clear key hN
  obtain ⟨g, hg⟩ : ∃ g : Int, g = (Int.gcd n d : Int) := ⟨_, rfl⟩
  rw [← hg] at hD1 hD2
  have hG := fun u v => hG u v n d
  rw [← hg] at hG
  unfold iv at *
  refine bI Tryz.func167 rfl Tryz.ntmps167 rfl ?_
  refine aH ?_
  refine aI ?_
  (refine aK rfl rfl rfl ?_; intro b; refine ⟨okF, ?_⟩)
  (refine aK rfl rfl rfl ?_; intro b2; refine ⟨okF, ?_⟩)
  (refine aC rfl rfl ?_; intro b4; refine ⟨okF, ?_⟩)
  repeat (refine bE ?_)
  (refine aA rfl (hS _ _ aB) rfl rfl ?_; rintro _ _ _ ⟨rfl, rfl, rfl⟩; refine ⟨okF, ?_⟩)
  repeat (refine bE ?_)
  (refine aA rfl (hG _ _ _ _ aB aB) rfl rfl ?_; rintro _ _ _ ⟨rfl, rfl⟩; refine ⟨okF, ?_⟩; refine aU (List.Mem.head _) (fun q3 c3 e__ hc3 hz3 => ?_); subst e__)
  unfold iv
  repeat (refine bE ?_)
  (refine aC rfl rfl ?_; intro b5; refine ⟨okF, ?_⟩)
  repeat (refine bE ?_)
  (refine aA rfl (hD1 _ _ _ _ aB aB) rfl rfl ?_; rintro _ _ _ ⟨rfl, v1, v2, rfl, rfl⟩; refine ⟨okF, ?_⟩)
  refine aU (u := v1) aB (fun q4 c4 e4 hc4 hz4 => ?_)
  subst e4
  unfold iv
  repeat (refine bE ?_)
  (refine aA rfl (hD2 _ _ _ _ aB aB) rfl rfl ?_; rintro _ _ _ ⟨rfl, v3, v4, rfl, rfl⟩; refine ⟨okF, ?_⟩)
  refine aU (u := v3) aB (fun q5 c5 e5 hc5 hz5 => ?_)
  subst e5
  unfold iv
  repeat (refine bE ?_)
  (refine aD rfl (fun _ => aZ (pvs := ([vI q4 c4 r.num, vI q5 c5 r.den]).zipIdx.map (fun p => (p.2, p.1))) (cells := eR ⟨r, q4, c4, q5, c5⟩) rfl rfl) rfl rfl ?_)
  repeat (refine bE ?_)
  refine lD (q := r) (k := k) (p1 := q4) (c1 := c4) (p2 := q5) (c2 := c5) aB aB (Nat.le_refl _) (Nat.le_refl _) ?_
  refine bC (cs := eR ⟨r, q4, c4, q5, c5⟩) (.inl rfl) rfl rfl aB rfl M0 (jA ⟨r, q4, c4, q5, c5⟩ k :: I0) aG aF ⟨rfl, ⟨r, q4, c4, q5, c5⟩, rfl, rfl, rfl⟩
theorem aAR {e : RE} {k : Nat} (hk : k ≤ 500000000000) (he : Hv I0 (jA e k)) :
  CD Tryz.prog 57 [rv e] X w0 M0 I0 (fun v M I => M0 = M ∧ I0 = I ∧ v = .bool true) := by
 refine CD.post (K := fun v M I => M0 = M ∧ iC (vI e.p1 e.c1 e.q.num) e.q.num k :: iC (vI e.p2 e.c2 e.q.den) e.q.den k :: I0 = I ∧ v = .bool true) (yE he ?_) (fun v M I w h hw => ?_)
 case refine_2 =>
  obtain ⟨e1, e2, e3⟩ := h
  subst e1; subst e2
  exact ⟨_, _, ⟨rfl, rfl, e3⟩, hw.inc (Inc.wk (Inc.wk Inc.refl))⟩
 have hV1 := fun M0 I0 h => sH (X := X) (w0 := w0) (M0 := M0) (I0 := I0) (u := vI e.p1 e.c1 e.q.num) (z := e.q.num) (k := k) (by omega) h
 have hV2 := fun M0 I0 h => sH (X := X) (w0 := w0) (M0 := M0) (I0 := I0) (u := vI e.p2 e.c2 e.q.den) (z := e.q.den) (k := k) (by omega) h
 have hS := fun M0 I0 => lL (X := X) (w0 := w0) (M0 := M0) (I0 := I0) (u := vI e.p2 e.c2 e.q.den) (z := e.q.den) (k := k) (by omega)
 have hs : ((e.q.den : Int)).sign = 1 := Int.sign_eq_one_of_pos (by have := e.q.den_nz; omega)
 rw [hs] at hS
 have hG := fun M0 I0 => aFS (X := X) (w0 := w0) (M0 := M0) (I0 := I0) (u := vI e.p1 e.c1 e.q.num) (v := vI e.p2 e.c2 e.q.den) (y := e.q.num) (z := e.q.den) (k0 := k) (m := k) (by omega) (by omega)
 rw [aHN] at hG
 have hC := fun u v M0 I0 => uN (X := X) (w0 := w0) (M0 := M0) (I0 := I0) (u := u) (v := v) (y := 1) (z := 1) (k := k + k) (m := 63) (by omega) (by omega)
 have hc : fQ 1 1 = 0 := by decide
 rw [hc] at hC
 refine bV Tryz.func57 rfl Tryz.ntmps57 rfl ?_
 refine aH ?_
 refine aI ?_
 (refine aK rfl rfl rfl ?_; intro b; refine ⟨okF, ?_⟩)
 repeat (refine bE ?_)
 (refine aA rfl (hV1 _ _ aB) rfl rfl ?_; rintro _ _ _ ⟨rfl, rfl, rfl⟩; refine ⟨okF, ?_⟩)
 repeat (refine bE ?_)
 (refine aA rfl (hV2 _ _ aB) rfl rfl ?_; rintro _ _ _ ⟨rfl, rfl, rfl⟩; refine ⟨okF, ?_⟩)
 repeat (refine bE ?_)
 (refine aA rfl (hS _ _ aB) rfl rfl ?_; rintro _ _ _ ⟨rfl, rfl, rfl⟩; refine ⟨okF, ?_⟩)
 repeat (refine bE ?_)
 (refine aA rfl (hG _ _ aB aB) rfl rfl ?_; rintro _ _ _ ⟨rfl, rfl⟩; refine ⟨okF, ?_⟩)
 repeat (refine bE ?_)
 (refine aA rfl (aCK (x := 1) (by decide)) rfl rfl ?_; rintro _ _ _ ⟨rfl, rfl⟩; refine ⟨okF, ?_⟩)
 (refine aA rfl (hC _ _ _ _ aB aB) rfl rfl ?_; rintro _ _ _ ⟨rfl, rfl, rfl⟩; refine ⟨okF, ?_⟩)
 repeat (refine bE ?_)
 refine aN (by first | exact .inl rfl | exact .inr rfl) rfl rfl _ _ aG aF (⟨rfl, rfl, congrArg Value.bool (fA (by decide))⟩)
end
end Go.Proofs.YtmmmfphealhapaaGreat

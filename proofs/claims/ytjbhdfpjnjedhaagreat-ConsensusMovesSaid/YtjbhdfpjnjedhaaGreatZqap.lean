/- integer: Divide, Of at negative numbers integer: Of at all numbers fraction: reduced, Valid, Value, Whole, Sign, Neg -/
import Derived.Test.YtjbhdfpjnjedhaaGreatZqan
import Derived.Test.YtjbhdfpjnjedhaaGreatZqaf
import Derived.Test.YtjbhdfpjnjedhaaGreatZqao
set_option linter.unusedSimpArgs false
set_option linter.unusedVariables false
set_option maxRecDepth 100000
set_option maxHeartbeats 4000000
namespace Go.Proofs.YtjbhdfpjnjedhaaGreat
open Go Go.Fx
theorem aCY {a b k : Nat} (h : a ≤ 2 ^ k) : a / b ≤ 2 ^ k := Nat.le_trans (Nat.div_le_self _ _) h
section
variable {X : List Nat} {w0 : World} {M0 : List Ent} {I0 : List aT}
def DvP (s t : Int) (k m : Nat) (M0 : List Ent) (I0 : List aT) (v : Value) (M : List Ent) (I : List aT) : Prop := M0 = M ∧ ∃ v1 v2, v = .tuple #[v1, v2, .int .i64 0] ∧ I = kR v2 t m :: kR v1 s k :: I0
theorem aQG {y z s t : Int} {q q' : Option Addr} {a b Q R k m cq cq' : Nat} (hb0 : ¬ (gr b).length = 0) (hA1 : ¬ (gr R).length = 0) (hA2 : ¬ (y < 0 ↔ z < 0)) (hg1 : gr 1 = [1])
  (h1 : ∀ M0 I0, aR q (recs eG (gr a)) ∈ I0 → CD Tryz.prog 193 [.agg #[.bool (B (y < 0)), .slice q (gr a).length cq]] X w0 M0 I0 (fun v M I => M0 = M ∧ I0 = I ∧ v = .slice q (gr a).length cq))
  (h2 : ∀ M0 I0, aR q' (recs eG (gr b)) ∈ I0 → CD Tryz.prog 193 [.agg #[.bool (B (z < 0)), .slice q' (gr b).length cq']] X w0 M0 I0 (fun v M I => M0 = M ∧ I0 = I ∧ v = .slice q' (gr b).length cq'))
  (hO : ∀ M0 I0, aR q (recs eG (gr a)) ∈ I0 → aR q' (recs eG (gr b)) ∈ I0 → CD Tryz.prog 227 [.slice q (gr a).length cq, .slice q' (gr b).length cq'] X w0 M0 I0 (QrP Q R M0 I0))
  (hC : ∀ p2 c2, xW p2 R c2 → ∀ M0 I0, aR p2 (recs eG (gr R)) ∈ I0 → CD Tryz.prog 228 [.slice p2 (gr R).length c2] X w0 M0 I0 (fun v M I => I0 = I ∧ ∃ q' c', v = .slice q' (gr R).length c' ∧ M = .row q' (gr R).length c' (recs eG (gr R)) 104 1 :: M0))
  (hP : ∀ p1 c1 p2 M0 I0, aR p1 (recs eG (gr Q)) ∈ I0 → aR p2 (recs eG [1]) ∈ I0 → CD Tryz.prog 229 [.slice p1 (gr Q).length c1, .slice p2 1 1] X w0 M0 I0 (GrP (Q + 1) M0 I0))
  (hMi : ∀ p3 c3 M0 I0, aR q' (recs eG (gr b)) ∈ I0 → aR p3 (recs eG (gr R)) ∈ I0 → CD Tryz.prog 230 [.slice q' (gr b).length cq', .slice p3 (gr R).length c3] X w0 M0 I0 (GrP (b - R) M0 I0))
  (hM1 : ∀ p4 c4, xW p4 (Q + 1) c4 → ∀ M0 I0, aR p4 (recs eG (gr (Q + 1))) ∈ I0 → CD Tryz.prog 200 [.bool (B (¬ (y < 0 ↔ z < 0))), .slice p4 (gr (Q + 1)).length c4] X w0 M0 I0 (fun v M I => M0 = M ∧ I = kR v s k :: I0))
  (hM2 : ∀ p4 c4, xW p4 (b - R) c4 → ∀ M0 I0, aR p4 (recs eG (gr (b - R))) ∈ I0 → CD Tryz.prog 200 [.bool (B (z < 0)), .slice p4 (gr (b - R)).length c4] X w0 M0 I0 (fun v M I => M0 = M ∧ I = kR v t m :: I0))
  (hq : aR q (recs eG (gr a)) ∈ I0) (hq' : aR q' (recs eG (gr b)) ∈ I0) :
  CD Tryz.prog 187 [.agg #[.bool (B (y < 0)), .slice q (gr a).length cq], .agg #[.bool (B (z < 0)), .slice q' (gr b).length cq']] X w0 M0 I0 (DvP s t k m M0 I0) := by
 refine bL Tryz.func187 rfl Tryz.ntmps187 rfl ?_
 refine aH ?_
 refine aI ?_
 (refine aV rfl rfl rfl ?_; intro b1; refine ⟨okF, ?_⟩)
 (refine aV rfl rfl rfl ?_; intro b2; refine ⟨okF, ?_⟩)
 (refine aF rfl rfl ?_; intro b3; refine ⟨okF, ?_⟩)
 (refine aF rfl rfl ?_; intro b4; refine ⟨okF, ?_⟩)
 repeat' (first | refine aI ?_ | refine jA ?_ | refine gV ?_ | refine fC ?_ | refine eQ ?_ | refine gT ?_ | refine gK ?_ | refine eY ?_ | refine fA ?_ | refine jF ?_ | refine jB ?_ | refine iZ ?_ | refine jC rfl ?_ | refine aN ?_ | (refine gI ?_; first | refine fM rfl rfl rfl ?_ | (refine fZ rfl rfl ?_; refine eF rfl rfl rfl okF ?_) | refine fK rfl rfl (by omega) ?_ | refine fU rfl rfl (by omega) ?_ | refine pI rfl rfl (fun h => ?_) (fun h => ?_) | (fail_if_success (refine rH rfl ?_); refine nR rfl rfl (fun h => ?_) (fun h => ?_))) | (refine bI ?_; refine aC rfl (fun _ => bY rfl) rfl rfl ?_) | refine aC rfl (fun _ => aY rfl) rfl rfl ?_ | (refine gB ?_; first | refine aC rfl (fun _ => bC rfl rfl wF) rfl rfl ?_ | refine aC rfl (fun _ => bE rfl rfl wF) rfl rfl ?_ | refine aC rfl (fun _ => dH rfl rfl wF) rfl rfl ?_ | refine aC rfl (fun _ => dI rfl rfl (by omega) qF) rfl rfl ?_ | refine aC rfl (fun _ => dJ rfl rfl (by omega) rfl) rfl rfl ?_ | refine aC rfl (fun _ => bW rfl rfl) rfl rfl ?_ | refine aC rfl (fun _ => dC rfl rfl) rfl rfl ?_ | refine aC rfl (fun _ => dA rfl rfl) rfl rfl ?_) | (refine bI ?_; first | refine aC rfl (fun _ => dE rfl wF) rfl rfl ?_) | (refine fV ?_; first | refine aC rfl (fun _ => bT rfl wF) rfl rfl ?_) | (refine fQ ?_; first | refine aC rfl (fun _ => bD rfl) rfl rfl ?_ | refine aC rfl (fun _ => bZ rfl rfl) rfl rfl ?_ | refine aC rfl (fun _ => bX rfl rfl) rfl rfl ?_ | refine aC rfl (fun _ => cB rfl rfl rfl) rfl rfl ?_) | (refine gF ?_; first | refine fJ rfl (by decide) rfl rfl ?_ | refine iO rfl (by decide) rfl rfl ?_) | (refine fO ?_; first | refine aC rfl (fun _ => bP rfl) rfl rfl ?_) | (refine gG ?_; first | refine iM rfl rfl iA rfl rfl ?_ | refine iP dX rfl rfl iA aB iU rfl rfl ?_ | refine iL dX rfl rfl iA aB iU rfl rfl ?_ | refine aC rfl (fun _ => bG rfl rfl iA) rfl rfl ?_) | (refine fT ?_; first | refine iR dX rfl aB nU rfl rfl ?_ | refine iK dX rfl aB nU rfl rfl ?_ | refine fH dX rfl aB nU rfl rfl ?_ | refine gH dX rfl aB nU rfl rfl ?_ | refine lY dX rfl aB xD rfl rfl ?_ | refine mF dX rfl aB xD rfl rfl ?_ | refine gM dX rfl aB xD rfl rfl ?_ | refine dG dX rfl aB xD rfl rfl ?_) | (refine fP ?_; first | refine aC rfl (fun _ => bH rfl rfl) rfl rfl ?_ | refine aC rfl (fun _ => bA rfl) rfl rfl ?_) | (refine iC ?_; first | refine jR rfl rfl rfl kH stC rfl rfl ⟨okF, ?_⟩ | refine fD rfl rfl fB qV kH qQ rfl rfl ⟨okF, ?_⟩) | (refine gU ?_; first | refine bM rfl ?_ | refine bB rfl ?_ | refine jE rfl (by omega) ?_ | refine lH rfl (by omega) ?_ | refine rF rfl (fun h => ?_) (fun h => ?_) | refine nQ rfl (fun h => ?_) (fun h => ?_)))
 (repeat refine aH ?_); refine cZ 4 [0, 2, 1, 3, 4, 5] [1, 1, 0, 0, 0, 0] mixed (by kernel_rfl) ?_
 repeat' (first | refine eU ?_ | refine bR rfl (fun h => ?_) (fun h => ?_) | refine bQ rfl rfl (fun h => ?_) (fun h => ?_) | fail)
 (refine aA rfl (h1 _ _ aB) rfl rfl ?_; rintro _ _ _ ⟨rfl, rfl, rfl⟩; refine ⟨okF, ?_⟩)
 repeat' (first | refine eU ?_ | refine bR rfl (fun h => ?_) (fun h => ?_) | refine bQ rfl rfl (fun h => ?_) (fun h => ?_) | fail)
 (refine aA rfl (h2 _ _ aB) rfl rfl ?_; rintro _ _ _ ⟨rfl, rfl, rfl⟩; refine ⟨okF, ?_⟩)
 repeat' (first | refine eU ?_ | refine bR rfl (fun h => ?_) (fun h => ?_) | refine bQ rfl rfl (fun h => ?_) (fun h => ?_) | fail)
 (refine aA rfl (hO _ _ aB aB) rfl rfl ?_; rintro _ _ _ ⟨rfl, p1, c1, p2, c2, ho1, ho2, rfl, rfl⟩; refine ⟨okF, ?_⟩)
 repeat' (first | refine eU ?_ | refine bR rfl (fun h => ?_) (fun h => ?_) | refine bQ rfl rfl (fun h => ?_) (fun h => ?_) | fail)
 (refine aA rfl (hC p2 c2 ho2 _ _ aB) rfl rfl ?_; rintro _ _ _ ⟨rfl, p3, c3, rfl, rfl⟩; refine ⟨okF, ?_⟩)
 refine jY remF ?_
 repeat' (first | refine eU ?_ | refine bR rfl (fun h => ?_) (fun h => ?_) | refine bQ rfl rfl (fun h => ?_) (fun h => ?_) | fail)
 (refine dB (cs := recs eG [1]) ([.int .u32 1]) rfl rfl (by intro v hv; repeat (first | exact absurd hv (List.not_mem_nil) | (rcases List.mem_cons.1 hv with rfl | hv; · rfl))) (by omega) rfl rfl rfl ?_; intro b5; refine ⟨okF, ?_⟩)
 refine aO remF ?_
 (refine aA rfl (hP p1 c1 (some ⟨b5, 0, none⟩) _ _ aB aB) rfl rfl ?_; rintro _ _ _ ⟨rfl, p4, c4, rfl, hc4, rfl⟩; refine ⟨okF, ?_⟩)
 repeat' (first | refine eU ?_ | refine bR rfl (fun h => ?_) (fun h => ?_) | refine bQ rfl rfl (fun h => ?_) (fun h => ?_) | fail)
 (refine aA rfl (hMi p3 c3 _ _ aB aB) rfl rfl ?_; rintro _ _ _ ⟨rfl, p5, c5, rfl, hc5, rfl⟩; refine ⟨okF, ?_⟩)
 repeat' (first | refine aI ?_ | refine jA ?_ | refine gV ?_ | refine fC ?_ | refine eQ ?_ | refine gT ?_ | refine gK ?_ | refine eY ?_ | refine fA ?_ | refine jF ?_ | refine jB ?_ | refine iZ ?_ | refine jC rfl ?_ | refine aN ?_ | (refine gI ?_; first | refine fM rfl rfl rfl ?_ | (refine fZ rfl rfl ?_; refine eF rfl rfl rfl okF ?_) | refine fK rfl rfl (by omega) ?_ | refine fU rfl rfl (by omega) ?_ | refine pI rfl rfl (fun h => ?_) (fun h => ?_) | (fail_if_success (refine rH rfl ?_); refine nR rfl rfl (fun h => ?_) (fun h => ?_))) | (refine bI ?_; refine aC rfl (fun _ => bY rfl) rfl rfl ?_) | refine aC rfl (fun _ => aY rfl) rfl rfl ?_ | (refine gB ?_; first | refine aC rfl (fun _ => bC rfl rfl wF) rfl rfl ?_ | refine aC rfl (fun _ => bE rfl rfl wF) rfl rfl ?_ | refine aC rfl (fun _ => dH rfl rfl wF) rfl rfl ?_ | refine aC rfl (fun _ => dI rfl rfl (by omega) qF) rfl rfl ?_ | refine aC rfl (fun _ => dJ rfl rfl (by omega) rfl) rfl rfl ?_ | refine aC rfl (fun _ => bW rfl rfl) rfl rfl ?_ | refine aC rfl (fun _ => dC rfl rfl) rfl rfl ?_ | refine aC rfl (fun _ => dA rfl rfl) rfl rfl ?_) | (refine bI ?_; first | refine aC rfl (fun _ => dE rfl wF) rfl rfl ?_) | (refine fV ?_; first | refine aC rfl (fun _ => bT rfl wF) rfl rfl ?_) | (refine fQ ?_; first | refine aC rfl (fun _ => bD rfl) rfl rfl ?_ | refine aC rfl (fun _ => bZ rfl rfl) rfl rfl ?_ | refine aC rfl (fun _ => bX rfl rfl) rfl rfl ?_ | refine aC rfl (fun _ => cB rfl rfl rfl) rfl rfl ?_) | (refine gF ?_; first | refine fJ rfl (by decide) rfl rfl ?_ | refine iO rfl (by decide) rfl rfl ?_) | (refine fO ?_; first | refine aC rfl (fun _ => bP rfl) rfl rfl ?_) | (refine gG ?_; first | refine iM rfl rfl iA rfl rfl ?_ | refine iP dX rfl rfl iA aB iU rfl rfl ?_ | refine iL dX rfl rfl iA aB iU rfl rfl ?_ | refine aC rfl (fun _ => bG rfl rfl iA) rfl rfl ?_) | (refine fT ?_; first | refine iR dX rfl aB nU rfl rfl ?_ | refine iK dX rfl aB nU rfl rfl ?_ | refine fH dX rfl aB nU rfl rfl ?_ | refine gH dX rfl aB nU rfl rfl ?_ | refine lY dX rfl aB xD rfl rfl ?_ | refine mF dX rfl aB xD rfl rfl ?_ | refine gM dX rfl aB xD rfl rfl ?_ | refine dG dX rfl aB xD rfl rfl ?_) | (refine fP ?_; first | refine aC rfl (fun _ => bH rfl rfl) rfl rfl ?_ | refine aC rfl (fun _ => bA rfl) rfl rfl ?_) | (refine iC ?_; first | refine jR rfl rfl rfl kH stC rfl rfl ⟨okF, ?_⟩ | refine fD rfl rfl fB qV kH qQ rfl rfl ⟨okF, ?_⟩) | (refine gU ?_; first | refine bM rfl ?_ | refine bB rfl ?_ | refine jE rfl (by omega) ?_ | refine lH rfl (by omega) ?_ | refine rF rfl (fun h => ?_) (fun h => ?_) | refine nQ rfl (fun h => ?_) (fun h => ?_)))
 (repeat refine aH ?_); refine bS (.blk b2 [.bool (B (z < 0)), .slice q' (gr b).length cq'] 48 :: .blk b1 [.bool (B (y < 0)), .slice q (gr a).length cq] 48 :: M0) (I0) [0, 1, 2, 3, 4, 5, 7, 8, 9, 6, 10, 11, 12, 13] [2, 2, 2, 2, 1, 1, 3, 2, 2, 0, 0, 0, 0, 0] aG aD mixed (by kernel_rfl) ?_
 repeat' (first | refine eU ?_ | refine bR rfl (fun h => ?_) (fun h => ?_) | refine bQ rfl rfl (fun h => ?_) (fun h => ?_) | fail)
 (refine aA rfl (hM1 p4 c4 hc4 _ _ aB) rfl rfl ?_; rintro _ _ _ ⟨rfl, rfl⟩; refine ⟨okF, ?_⟩; refine dR (List.Mem.head _) (fun q6 c6 e__ hc6 hz6 => ?_); subst e__)
 repeat' (first | refine eU ?_ | refine bR rfl (fun h => ?_) (fun h => ?_) | refine bQ rfl rfl (fun h => ?_) (fun h => ?_) | fail)
 (refine aA rfl (hM2 p5 c5 hc5 _ _ aB) rfl rfl ?_; rintro _ _ _ ⟨rfl, rfl⟩; refine ⟨okF, ?_⟩; refine dR (List.Mem.head _) (fun q7 c7 e__ hc7 hz7 => ?_); subst e__)
 unfold iv
 repeat' (first | refine eU ?_ | refine bR rfl (fun h => ?_) (fun h => ?_) | refine bQ rfl rfl (fun h => ?_) (fun h => ?_) | fail)
 refine dZ (rs := [.cell 4 48, .cell 5 48, .tmp 6]) (.inl rfl) rfl (.cellN inferInstance rfl aB rfl (.cellN inferInstance rfl aB rfl (.tmp rfl .nil))) rfl M0 (kR (.agg #[.bool (B (t < 0)), .slice q7 (gr t.natAbs).length c7]) t m :: kR (.agg #[.bool (B (s < 0)), .slice q6 (gr s.natAbs).length c6]) s k :: I0) aG aD ⟨rfl, _, _, rfl, rfl⟩
theorem aQQ {y z s t : Int} {q q' : Option Addr} {a b Q R k m cq cq' : Nat} (hb0 : ¬ (gr b).length = 0) (hA : (gr R).length = 0 ∨ (y < 0 ↔ z < 0))
  (h1 : ∀ M0 I0, aR q (recs eG (gr a)) ∈ I0 → CD Tryz.prog 193 [.agg #[.bool (B (y < 0)), .slice q (gr a).length cq]] X w0 M0 I0 (fun v M I => M0 = M ∧ I0 = I ∧ v = .slice q (gr a).length cq))
  (h2 : ∀ M0 I0, aR q' (recs eG (gr b)) ∈ I0 → CD Tryz.prog 193 [.agg #[.bool (B (z < 0)), .slice q' (gr b).length cq']] X w0 M0 I0 (fun v M I => M0 = M ∧ I0 = I ∧ v = .slice q' (gr b).length cq'))
  (hO : ∀ M0 I0, aR q (recs eG (gr a)) ∈ I0 → aR q' (recs eG (gr b)) ∈ I0 → CD Tryz.prog 227 [.slice q (gr a).length cq, .slice q' (gr b).length cq'] X w0 M0 I0 (QrP Q R M0 I0))
  (hC : ∀ p2 c2, xW p2 R c2 → ∀ M0 I0, aR p2 (recs eG (gr R)) ∈ I0 → CD Tryz.prog 228 [.slice p2 (gr R).length c2] X w0 M0 I0 (fun v M I => I0 = I ∧ ∃ q' c', v = .slice q' (gr R).length c' ∧ M = .row q' (gr R).length c' (recs eG (gr R)) 104 1 :: M0))
  (hM1 : ∀ p4 c4, xW p4 Q c4 → ∀ M0 I0, aR p4 (recs eG (gr Q)) ∈ I0 → CD Tryz.prog 200 [.bool (B (¬ (y < 0 ↔ z < 0))), .slice p4 (gr Q).length c4] X w0 M0 I0 (fun v M I => M0 = M ∧ I = kR v s k :: I0))
  (hM2 : ∀ p4 c4, xW p4 R c4 → ∀ M0 I0, aR p4 (recs eG (gr R)) ∈ I0 → CD Tryz.prog 200 [.bool (B (z < 0)), .slice p4 (gr R).length c4] X w0 M0 I0 (fun v M I => M0 = M ∧ I = kR v t m :: I0))
  (hq : aR q (recs eG (gr a)) ∈ I0) (hq' : aR q' (recs eG (gr b)) ∈ I0) :
  CD Tryz.prog 187 [.agg #[.bool (B (y < 0)), .slice q (gr a).length cq], .agg #[.bool (B (z < 0)), .slice q' (gr b).length cq']] X w0 M0 I0 (DvP s t k m M0 I0) := by
 refine bL Tryz.func187 rfl Tryz.ntmps187 rfl ?_
 refine aH ?_
 refine aI ?_
 (refine aV rfl rfl rfl ?_; intro b1; refine ⟨okF, ?_⟩)
 (refine aV rfl rfl rfl ?_; intro b2; refine ⟨okF, ?_⟩)
 (refine aF rfl rfl ?_; intro b3; refine ⟨okF, ?_⟩)
 (refine aF rfl rfl ?_; intro b4; refine ⟨okF, ?_⟩)
 repeat' (first | refine aI ?_ | refine jA ?_ | refine gV ?_ | refine fC ?_ | refine eQ ?_ | refine gT ?_ | refine gK ?_ | refine eY ?_ | refine fA ?_ | refine jF ?_ | refine jB ?_ | refine iZ ?_ | refine jC rfl ?_ | refine aN ?_ | (refine gI ?_; first | refine fM rfl rfl rfl ?_ | (refine fZ rfl rfl ?_; refine eF rfl rfl rfl okF ?_) | refine fK rfl rfl (by omega) ?_ | refine fU rfl rfl (by omega) ?_ | refine pI rfl rfl (fun h => ?_) (fun h => ?_) | (fail_if_success (refine rH rfl ?_); refine nR rfl rfl (fun h => ?_) (fun h => ?_))) | (refine bI ?_; refine aC rfl (fun _ => bY rfl) rfl rfl ?_) | refine aC rfl (fun _ => aY rfl) rfl rfl ?_ | (refine gB ?_; first | refine aC rfl (fun _ => bC rfl rfl wF) rfl rfl ?_ | refine aC rfl (fun _ => bE rfl rfl wF) rfl rfl ?_ | refine aC rfl (fun _ => dH rfl rfl wF) rfl rfl ?_ | refine aC rfl (fun _ => dI rfl rfl (by omega) qF) rfl rfl ?_ | refine aC rfl (fun _ => dJ rfl rfl (by omega) rfl) rfl rfl ?_ | refine aC rfl (fun _ => bW rfl rfl) rfl rfl ?_ | refine aC rfl (fun _ => dC rfl rfl) rfl rfl ?_ | refine aC rfl (fun _ => dA rfl rfl) rfl rfl ?_) | (refine bI ?_; first | refine aC rfl (fun _ => dE rfl wF) rfl rfl ?_) | (refine fV ?_; first | refine aC rfl (fun _ => bT rfl wF) rfl rfl ?_) | (refine fQ ?_; first | refine aC rfl (fun _ => bD rfl) rfl rfl ?_ | refine aC rfl (fun _ => bZ rfl rfl) rfl rfl ?_ | refine aC rfl (fun _ => bX rfl rfl) rfl rfl ?_ | refine aC rfl (fun _ => cB rfl rfl rfl) rfl rfl ?_) | (refine gF ?_; first | refine fJ rfl (by decide) rfl rfl ?_ | refine iO rfl (by decide) rfl rfl ?_) | (refine fO ?_; first | refine aC rfl (fun _ => bP rfl) rfl rfl ?_) | (refine gG ?_; first | refine iM rfl rfl iA rfl rfl ?_ | refine iP dX rfl rfl iA aB iU rfl rfl ?_ | refine iL dX rfl rfl iA aB iU rfl rfl ?_ | refine aC rfl (fun _ => bG rfl rfl iA) rfl rfl ?_) | (refine fT ?_; first | refine iR dX rfl aB nU rfl rfl ?_ | refine iK dX rfl aB nU rfl rfl ?_ | refine fH dX rfl aB nU rfl rfl ?_ | refine gH dX rfl aB nU rfl rfl ?_ | refine lY dX rfl aB xD rfl rfl ?_ | refine mF dX rfl aB xD rfl rfl ?_ | refine gM dX rfl aB xD rfl rfl ?_ | refine dG dX rfl aB xD rfl rfl ?_) | (refine fP ?_; first | refine aC rfl (fun _ => bH rfl rfl) rfl rfl ?_ | refine aC rfl (fun _ => bA rfl) rfl rfl ?_) | (refine iC ?_; first | refine jR rfl rfl rfl kH stC rfl rfl ⟨okF, ?_⟩ | refine fD rfl rfl fB qV kH qQ rfl rfl ⟨okF, ?_⟩) | (refine gU ?_; first | refine bM rfl ?_ | refine bB rfl ?_ | refine jE rfl (by omega) ?_ | refine lH rfl (by omega) ?_ | refine rF rfl (fun h => ?_) (fun h => ?_) | refine nQ rfl (fun h => ?_) (fun h => ?_)))
 (repeat refine aH ?_); refine cZ 4 [0, 2, 1, 3, 4, 5] [1, 1, 0, 0, 0, 0] mixed (by kernel_rfl) ?_
 repeat' (first | refine eU ?_ | refine bR rfl (fun h => ?_) (fun h => ?_) | refine bQ rfl rfl (fun h => ?_) (fun h => ?_) | fail)
 (refine aA rfl (h1 _ _ aB) rfl rfl ?_; rintro _ _ _ ⟨rfl, rfl, rfl⟩; refine ⟨okF, ?_⟩)
 repeat' (first | refine eU ?_ | refine bR rfl (fun h => ?_) (fun h => ?_) | refine bQ rfl rfl (fun h => ?_) (fun h => ?_) | fail)
 (refine aA rfl (h2 _ _ aB) rfl rfl ?_; rintro _ _ _ ⟨rfl, rfl, rfl⟩; refine ⟨okF, ?_⟩)
 repeat' (first | refine eU ?_ | refine bR rfl (fun h => ?_) (fun h => ?_) | refine bQ rfl rfl (fun h => ?_) (fun h => ?_) | fail)
 (refine aA rfl (hO _ _ aB aB) rfl rfl ?_; rintro _ _ _ ⟨rfl, p1, c1, p2, c2, ho1, ho2, rfl, rfl⟩; refine ⟨okF, ?_⟩)
 repeat' (first | refine eU ?_ | refine bR rfl (fun h => ?_) (fun h => ?_) | refine bQ rfl rfl (fun h => ?_) (fun h => ?_) | fail)
 (refine aA rfl (hC p2 c2 ho2 _ _ aB) rfl rfl ?_; rintro _ _ _ ⟨rfl, p3, c3, rfl, rfl⟩; refine ⟨okF, ?_⟩)
 refine vB (fun w hw => And.intro (hw.rowLe (List.Mem.head _)) ((hw.rowS (List.Mem.head _)).2.imp id And.right)) (fun ho3 => ?_)
 refine jY remF ?_
 repeat' (first | refine eU ?_ | refine bR rfl (fun h => ?_) (fun h => ?_) | refine bQ rfl rfl (fun h => ?_) (fun h => ?_) | fail)
 all_goals
  ((repeat refine aH ?_); refine bS (.blk b2 [.bool (B (z < 0)), .slice q' (gr b).length cq'] 48 :: .blk b1 [.bool (B (y < 0)), .slice q (gr a).length cq] 48 :: M0) (I0) [0, 1, 2, 3, 4, 5, 7, 8, 9, 6, 10, 11, 12, 13] [2, 2, 2, 2, 1, 1, 3, 2, 2, 0, 0, 0, 0, 0] aG aD mixed (by kernel_rfl) ?_)
  repeat' (first | refine eU ?_ | refine bR rfl (fun h => ?_) (fun h => ?_) | refine bQ rfl rfl (fun h => ?_) (fun h => ?_) | fail)
  (refine aA rfl (hM1 p1 c1 ho1 _ _ aB) rfl rfl ?_; rintro _ _ _ ⟨rfl, rfl⟩; refine ⟨okF, ?_⟩; refine dR (List.Mem.head _) (fun q6 c6 e__ hc6 hz6 => ?_); subst e__)
  repeat' (first | refine eU ?_ | refine bR rfl (fun h => ?_) (fun h => ?_) | refine bQ rfl rfl (fun h => ?_) (fun h => ?_) | fail)
  (refine aA rfl (hM2 p3 c3 ho3 _ _ aB) rfl rfl ?_; rintro _ _ _ ⟨rfl, rfl⟩; refine ⟨okF, ?_⟩; refine dR (List.Mem.head _) (fun q7 c7 e__ hc7 hz7 => ?_); subst e__)
  unfold iv
  repeat' (first | refine eU ?_ | refine bR rfl (fun h => ?_) (fun h => ?_) | refine bQ rfl rfl (fun h => ?_) (fun h => ?_) | fail)
  refine dZ (rs := [.cell 4 48, .cell 5 48, .tmp 6]) (.inl rfl) rfl (.cellN inferInstance rfl aB rfl (.cellN inferInstance rfl aB rfl (.tmp rfl .nil))) rfl M0 (kR (.agg #[.bool (B (t < 0)), .slice q7 (gr t.natAbs).length c7]) t m :: kR (.agg #[.bool (B (s < 0)), .slice q6 (gr s.natAbs).length c6]) s k :: I0) aG aD ⟨rfl, _, _, rfl, rfl⟩
theorem xQ {u v : Value} {y z : Int} {k m : Nat} (hk : k ≤ 1000000000000) (hm : m ≤ 1000000000000) (hz0 : z ≠ 0) (hu : kR u y k ∈ I0) (hv : kR v z m ∈ I0) :
  CD Tryz.prog 187 [u, v] X w0 M0 I0 (DvP (y.fdiv z) (y.fmod z) k m M0 I0) := by
 refine iQ hu (fun q cq e hc hy => ?_)
 subst e
 refine iQ (List.Mem.tail _ hv) (fun q' cq' e hc' hz => ?_)
 subst e
 have hly := gX hy
 have hlz := gX hz
 have hfd := aRQ (y := y) hz0
 have hz1 : 0 < z.natAbs := by omega
 have hmod := Nat.mod_lt y.natAbs hz1
 have hqb : y.natAbs / z.natAbs ≤ 2 ^ k := aCY hy
 have hrb : y.natAbs % z.natAbs ≤ 2 ^ m := by omega
 have hlq := gX hqb
 have hlr := gX hrb
 have hlz1 : ¬ (gr z.natAbs).length = 0 := fun e => by have := uF.1 (List.eq_nil_of_length_eq_zero e); omega
 have hg1 : gr 1 = [1] := vT (f := 1) (by decide) (by decide)
 have hr0 : (gr (y.natAbs % z.natAbs)).length = 0 ↔ y.natAbs % z.natAbs = 0 := by rw [List.length_eq_zero_iff, uF]
 refine CD.post (K := DvP (y.fdiv z) (y.fmod z) k m M0 (aR q' (recs eG (gr z.natAbs)) :: aR q (recs eG (gr y.natAbs)) :: I0)) ?_ (fun v M I w h hw => ?_)
 case refine_2 =>
  obtain ⟨e1, v1, v2, e2, e3⟩ := h
  subst e1; subst e3
  exact ⟨_, _, ⟨rfl, v1, v2, e2, rfl⟩, hw.inc (Inc.cons (by simp) (Inc.cons (by simp) (Inc.wk (Inc.wk (Inc.wk (Inc.wk Inc.refl))))))⟩
 have hG1 := fun M0 I0 h => iV (X := X) (w0 := w0) (M0 := M0) (I0 := I0) (c := cq) (q := q) (z := y) hy (by omega) h
 have hG2 := fun M0 I0 h => iV (X := X) (w0 := w0) (M0 := M0) (I0 := I0) (c := cq') (q := q') (z := z) hz (by omega) h
 have hO := fun M0 I0 => aML (X := X) (w0 := w0) (M0 := M0) (I0 := I0) (p := q) (q := q') (m := y.natAbs) (n := z.natAbs) (cp := cq) (cq := cq') (by omega) (by omega) hz1 hc
 have hCl := fun p2 c2 (ho2 : xW p2 (y.natAbs % z.natAbs) c2) M0 I0 h => xY (X := X) (w0 := w0) (M0 := M0) (I0 := I0) (q := p2) (a := gr (y.natAbs % z.natAbs)) (c := c2) (by omega) ho2.2 h
 unfold iv at hG1 hG2 ⊢
 by_cases hA : (gr (y.natAbs % z.natAbs)).length = 0 ∨ (y < 0 ↔ z < 0)
 ·obtain ⟨e1, e2⟩ := hfd.2 (hA.elim (fun h => .inr (hr0.1 h)) .inl)
  have s1 : sg (¬ (y < 0 ↔ z < 0)) (y.natAbs / z.natAbs) = y.fdiv z := by rw [e1]; rfl
  have s2 : sg (z < 0) (y.natAbs % z.natAbs) = y.fmod z := by rw [e2]; rfl
  have hM1 := fun p4 c4 (h4 : xW p4 (y.natAbs / z.natAbs) c4) M0 I0 h => mI (X := X) (w0 := w0) (M0 := M0) (I0 := I0) (p := ¬ (y < 0 ↔ z < 0)) (k := k) (by omega) h4 hqb h
  have hM2 := fun p4 c4 (h4 : xW p4 (y.natAbs % z.natAbs) c4) M0 I0 h => mI (X := X) (w0 := w0) (M0 := M0) (I0 := I0) (p := z < 0) (k := m) (by omega) h4 hrb h
  rw [s1] at hM1
  rw [s2] at hM2
  exact aQQ hlz1 hA hG1 hG2 hO hCl hM1 hM2 (by simp) (by simp)
 ·have hA1 : ¬ (gr (y.natAbs % z.natAbs)).length = 0 := fun h => hA (.inl h)
  have hA2 : ¬ (y < 0 ↔ z < 0) := fun h => hA (.inr h)
  have hAr : y.natAbs % z.natAbs ≠ 0 := fun h => hA1 (hr0.2 h)
  obtain ⟨e1, e2⟩ := hfd.1 hA2 hAr
  have hab := Nat.div_add_mod y.natAbs z.natAbs
  have hbQ : y.natAbs / z.natAbs ≤ z.natAbs * (y.natAbs / z.natAbs) := Nat.le_mul_of_pos_left _ hz1
  have hQ1 : y.natAbs / z.natAbs + 1 ≤ 2 ^ k := by omega
  have hR1 : z.natAbs - y.natAbs % z.natAbs ≤ 2 ^ m := by omega
  have hlQ1 := gX hQ1
  have hlR1 := gX hR1
  have s1 : sg (¬ (y < 0 ↔ z < 0)) (y.natAbs / z.natAbs + 1) = y.fdiv z := by rw [e1]; unfold sg; rw [if_pos hA2]
  have s2 : sg (z < 0) (z.natAbs - y.natAbs % z.natAbs) = y.fmod z := by rw [e2]; rfl
  have hM1 := fun p4 c4 (h4 : xW p4 (y.natAbs / z.natAbs + 1) c4) M0 I0 h => mI (X := X) (w0 := w0) (M0 := M0) (I0 := I0) (p := ¬ (y < 0 ↔ z < 0)) (k := k) (by omega) h4 hQ1 h
  have hM2 := fun p4 c4 (h4 : xW p4 (z.natAbs - y.natAbs % z.natAbs) c4) M0 I0 h => mI (X := X) (w0 := w0) (M0 := M0) (I0 := I0) (p := z < 0) (k := m) (by omega) h4 hR1 h
  rw [s1] at hM1
  rw [s2] at hM2
  have hP := fun p1 c1 p2 M0 I0 => aMH (X := X) (w0 := w0) (M0 := M0) (I0 := I0) (p := p1) (q := p2) (m := y.natAbs / z.natAbs) (n := 1) (cp := c1) (cq := 1) (by omega) (by rw [hg1]; simp)
  simp only [hg1] at hP
  have hMi := fun p3 c3 M0 I0 => aAN (X := X) (w0 := w0) (M0 := M0) (I0 := I0) (p := q') (q := p3) (m := z.natAbs) (n := y.natAbs % z.natAbs) (cp := cq') (cq := c3) (by omega) (by omega)
  exact aQG hlz1 hA1 hA2 hg1 hG1 hG2 hO hCl hP hMi hM1 hM2 (by simp) (by simp)
end
end Go.Proofs.YtjbhdfpjnjedhaaGreat
namespace Go.Proofs.YtjbhdfpjnjedhaaGreat
open Go Go.Fx
theorem aOI {n : Nat} (h : 0 < n ∧ n ≤ 9223372036854775808) : IntKind.u64.wrap (0 - (-(n : Int) + 18446744073709551616)) = n := by
 simp [IntKind.wrap, IntKind.bits, IntKind.signed]; omega
section
variable {X : List Nat} {w0 : World} {M0 : List Ent} {I0 : List aT}
theorem aXX {n : Nat} (hx : 0 < n ∧ n ≤ 9223372036854775808) : CD Tryz.prog 183 [.int .i64 (-(n : Int))] X w0 M0 I0 (fun v M I => M0 = M ∧ I = kR v (-(n : Int)) 63 :: I0) := by
 have hn : n ≤ 2 ^ 63 := by omega
 have hlt : (-(n : Int)) < 0 := by omega
 have hMd := fun (q' : Option Addr) (c' : Nat) (hc' : xW q' n c') M0 I0 => mI (X := X) (w0 := w0) (M0 := M0) (I0 := I0) (p := (-(n : Int)) < 0) (q := q') (c := c') (k := 63) (by have := gX hn; omega) hc' hn
 have hs2 : sg ((-(n : Int)) < 0) n = -(n : Int) := by unfold sg; rw [if_pos hlt]
 rw [hs2] at hMd
 refine bN Tryz.func183 rfl Tryz.ntmps183 rfl ?_
 refine aH ?_
 refine aI ?_
 (refine aF rfl rfl ?_; intro b; refine ⟨okF, ?_⟩)
 repeat (refine eU ?_)
 refine aC rfl (fun _ => bT rfl (aPF (by omega))) rfl rfl ?_
 repeat (refine eU ?_)
 refine aC rfl (fun _ => dE rfl (aOI hx)) rfl rfl ?_
 repeat (refine eU ?_)
 (refine aA rfl (sP (n := n) (by omega)) rfl rfl ?_; rintro _ _ _ ⟨rfl, q', c', rfl, hc', rfl⟩; refine ⟨okF, ?_⟩)
 (refine aA rfl (hMd q' c' hc' _ _ aB) rfl rfl ?_; rintro _ _ _ ⟨rfl, rfl⟩; refine ⟨okF, ?_⟩; refine dR (List.Mem.head _) (fun q2 c2 e__ hc2 hz2 => ?_); subst e__)
 unfold iv
 repeat (refine eU ?_)
 refine bJ (cs := [.bool (B (-(n : Int) < 0)), .slice q2 (gr (-(n : Int)).natAbs).length c2]) (.inl rfl) rfl rfl aB rfl _ _ aG aD ⟨rfl, rfl⟩
theorem aBX {x : Int} (hx : -9223372036854775808 ≤ x ∧ x ≤ 9223372036854775807) : CD Tryz.prog 183 [.int .i64 x] X w0 M0 I0 (fun v M I => M0 = M ∧ I = kR v x 63 :: I0) := by
 by_cases h : x < 0
 ·obtain ⟨n, rfl⟩ : ∃ n : Nat, x = -(n : Int) := ⟨x.natAbs, by omega⟩
  exact aXX (by omega)
 ·exact Of_ok (by omega)
end
end Go.Proofs.YtjbhdfpjnjedhaaGreat
namespace Go.Proofs.YtjbhdfpjnjedhaaGreat
open Go Go.Fx
section
variable {X : List Nat} {w0 : World} {M0 : List Ent} {I0 : List aT}
theorem pX {u : Value} {z : Int} {k : Nat} (hk : k ≤ 1000000000000) (hu : kR u z k ∈ I0) :
  CD Tryz.prog 192 [u] X w0 M0 I0 (fun v M I => M0 = M ∧ I0 = I ∧ v = .bool true) := by
 refine CD.post (K := fun v M I => M0 = M ∧ (∃ q, aR q (recs eG (gr z.natAbs)) :: I0 = I) ∧ v = .bool true) (iQ hu (fun q c e hc hz => ?_)) (fun v M I w h hw => ?_)
 case refine_2 =>
  obtain ⟨e1, ⟨q, e2⟩, e3⟩ := h
  subst e1; subst e2
  exact ⟨_, _, ⟨rfl, rfl, e3⟩, hw.inc (Inc.wk Inc.refl)⟩
 subst e
 have hl := jU hz hk
 refine (tY (neg := B (z < 0)) (gs := gr z.natAbs) (by omega) (List.Mem.head _)).mono (fun v M I h => ⟨h.1, ⟨q, h.2.1⟩, ?_⟩)
 rw [h.2.2]
 exact congrArg Value.bool (bV (aFB z))
theorem tJ {u v : Value} {n d : Int} {k : Nat} (hk : k ≤ 500000000000) (hd0 : d ≠ 0) (hu : kR u n k ∈ I0) (hv : kR v d k ∈ I0) :
  CD Tryz.prog 145 [u, v] X w0 M0 I0 (RQ (Rat.divInt n d) k M0 I0) := by
 have hS := fun M0 I0 => oO (X := X) (w0 := w0) (M0 := M0) (I0 := I0) (u := v) (z := d) (k := k) (by omega)
 refine iQ hu (fun q cq e hc hy => ?_)
 subst e
 refine iQ (List.Mem.tail _ hv) (fun q' cq' e hc' hz => ?_)
 subst e
 obtain ⟨r, hr⟩ : ∃ r, r = Rat.divInt n d := ⟨_, rfl⟩
 have key : ∀ n' d' : Int, 0 < d' → Rat.divInt n' d' = Rat.divInt n d → (∀ u v M0 I0, kR u n' k ∈ I0 → kR v (Int.gcd n' d' : Int) (k + k) ∈ I0 → CD Tryz.prog 187 [u, v] X w0 M0 I0 (DvP r.num (n'.fmod (Int.gcd n' d')) k (k + k) M0 I0)) ∧ (∀ u v M0 I0, kR u d' k ∈ I0 → kR v (Int.gcd n' d' : Int) (k + k) ∈ I0 → CD Tryz.prog 187 [u, v] X w0 M0 I0 (DvP r.den (d'.fmod (Int.gcd n' d')) k (k + k) M0 I0)) := by
  intro n' d' hd' he
  obtain ⟨e1, e2, e3⟩ := aVP (n := n') (d := d') (g := (Int.gcd n' d' : Int)) (by omega) (by rw [if_neg (by omega)])
  rw [he, ← hr] at e1 e2
  refine ⟨fun u v M0 I0 h1 h2 => ?_, fun u v M0 I0 h1 h2 => ?_⟩
  ·have := xQ (X := X) (w0 := w0) (M0 := M0) (I0 := I0) (k := k) (m := k + k) (by omega) (by omega) e3 h1 h2
   rwa [e1] at this
  ·have := xQ (X := X) (w0 := w0) (M0 := M0) (I0 := I0) (k := k) (m := k + k) (by omega) (by omega) e3 h1 h2
   rwa [e2] at this
 rw [← hr]
 have hN := fun u z M0 I0 => aFP (X := X) (w0 := w0) (M0 := M0) (I0 := I0) (u := u) (z := z) (k := k) (by omega)
 have hG := fun u v n' d' M0 I0 => aFO (X := X) (w0 := w0) (M0 := M0) (I0 := I0) (u := u) (v := v) (y := n') (z := d') (k0 := k) (m := k) (by omega) (by omega)
 by_cases hneg : d < 0
 ·have hs : d.sign = -1 := Int.sign_eq_neg_one_of_neg hneg
  obtain ⟨hD1, hD2⟩ := key (-n) (-d) (by omega) aAX
  rw [hs] at hS
  clear key
  obtain ⟨g, hg⟩ : ∃ g : Int, g = (Int.gcd (-n) (-d) : Int) := ⟨_, rfl⟩
  rw [← hg] at hD1 hD2
  have hG := fun u v => hG u v (-n) (-d)
  rw [← hg] at hG
  obtain ⟨n1, hn1⟩ : ∃ g : Int, g = -n := ⟨_, rfl⟩
  obtain ⟨d1, hd1⟩ : ∃ g : Int, g = -d := ⟨_, rfl⟩
  have hN1 := fun u => hN u n
  have hN2 := fun u => hN u d
  rw [← hn1] at hN1 hD1 hG
  rw [← hd1] at hN2 hD2 hG
  unfold iv at *
  refine bL Tryz.func145 rfl Tryz.ntmps145 rfl ?_
  refine aH ?_
  refine aI ?_
  (refine aV rfl rfl rfl ?_; intro b; refine ⟨okF, ?_⟩)
  (refine aV rfl rfl rfl ?_; intro b2; refine ⟨okF, ?_⟩)
  (refine aF rfl rfl ?_; intro b4; refine ⟨okF, ?_⟩)
  repeat (refine eU ?_)
  (refine aA rfl (hS _ _ aB) rfl rfl ?_; rintro _ _ _ ⟨rfl, rfl, rfl⟩; refine ⟨okF, ?_⟩)
  repeat (refine eU ?_)
  (repeat refine aH ?_); refine cZ 2 [0, 2, 1, 3, 4, 5] [1, 2, 0, 0, 0, 0] mixed (by kernel_rfl) ?_
  repeat (refine eU ?_)
  (refine aA rfl (hN1 _ _ _ aB) rfl rfl ?_; rintro _ _ _ ⟨rfl, rfl⟩; refine ⟨okF, ?_⟩; refine dR (List.Mem.head _) (fun q1 c1 e__ hc1 hz1 => ?_); subst e__)
  repeat (refine eU ?_)
  (refine aA rfl (hN2 _ _ _ aB) rfl rfl ?_; rintro _ _ _ ⟨rfl, rfl⟩; refine ⟨okF, ?_⟩; refine dR (List.Mem.head _) (fun q2 c2 e__ hc2 hz2 => ?_); subst e__)
  unfold iv
  repeat (refine eU ?_)
  (refine aA rfl (hG _ _ _ _ aB aB) rfl rfl ?_; rintro _ _ _ ⟨rfl, rfl⟩; refine ⟨okF, ?_⟩; refine dR (List.Mem.head _) (fun q3 c3 e__ hc3 hz3 => ?_); subst e__)
  unfold iv
  repeat (refine eU ?_)
  (refine aF rfl rfl ?_; intro b5; refine ⟨okF, ?_⟩)
  repeat (refine eU ?_)
  (refine aA rfl (hD1 _ _ _ _ aB aB) rfl rfl ?_; rintro _ _ _ ⟨rfl, v1, v2, rfl, rfl⟩; refine ⟨okF, ?_⟩)
  refine dR (u := v1) aB (fun q4 c4 e4 hc4 hz4 => ?_)
  subst e4
  unfold iv
  repeat (refine eU ?_)
  (refine aA rfl (hD2 _ _ _ _ aB aB) rfl rfl ?_; rintro _ _ _ ⟨rfl, v3, v4, rfl, rfl⟩; refine ⟨okF, ?_⟩)
  refine dR (u := v3) aB (fun q5 c5 e5 hc5 hz5 => ?_)
  subst e5
  unfold iv
  repeat (refine eU ?_)
  (refine aC rfl (fun _ => aU (pvs := ([vI q4 c4 r.num, vI q5 c5 r.den]).zipIdx.map (fun p => (p.2, p.1))) (cells := eR ⟨r, q4, c4, q5, c5⟩) rfl rfl) rfl rfl ?_)
  repeat (refine eU ?_)
  refine rV (q := r) (k := k) (p1 := q4) (c1 := c4) (p2 := q5) (c2 := c5) aB aB (Nat.le_refl _) (Nat.le_refl _) ?_
  refine bJ (cs := eR ⟨r, q4, c4, q5, c5⟩) (.inl rfl) rfl rfl aB rfl M0 (gQ ⟨r, q4, c4, q5, c5⟩ k :: I0) aG aD ⟨rfl, ⟨r, q4, c4, q5, c5⟩, rfl, rfl, rfl⟩
 ·have hs : d.sign = 1 := Int.sign_eq_one_of_pos (by omega)
  obtain ⟨hD1, hD2⟩ := key n d (by omega) rfl
  rw [hs] at hS
  clear key hN
  obtain ⟨g, hg⟩ : ∃ g : Int, g = (Int.gcd n d : Int) := ⟨_, rfl⟩
  rw [← hg] at hD1 hD2
  have hG := fun u v => hG u v n d
  rw [← hg] at hG
  unfold iv at *
  refine bL Tryz.func145 rfl Tryz.ntmps145 rfl ?_
  refine aH ?_
  refine aI ?_
  (refine aV rfl rfl rfl ?_; intro b; refine ⟨okF, ?_⟩)
  (refine aV rfl rfl rfl ?_; intro b2; refine ⟨okF, ?_⟩)
  (refine aF rfl rfl ?_; intro b4; refine ⟨okF, ?_⟩)
  repeat (refine eU ?_)
  (refine aA rfl (hS _ _ aB) rfl rfl ?_; rintro _ _ _ ⟨rfl, rfl, rfl⟩; refine ⟨okF, ?_⟩)
  repeat (refine eU ?_)
  (refine aA rfl (hG _ _ _ _ aB aB) rfl rfl ?_; rintro _ _ _ ⟨rfl, rfl⟩; refine ⟨okF, ?_⟩; refine dR (List.Mem.head _) (fun q3 c3 e__ hc3 hz3 => ?_); subst e__)
  unfold iv
  repeat (refine eU ?_)
  (refine aF rfl rfl ?_; intro b5; refine ⟨okF, ?_⟩)
  repeat (refine eU ?_)
  (refine aA rfl (hD1 _ _ _ _ aB aB) rfl rfl ?_; rintro _ _ _ ⟨rfl, v1, v2, rfl, rfl⟩; refine ⟨okF, ?_⟩)
  refine dR (u := v1) aB (fun q4 c4 e4 hc4 hz4 => ?_)
  subst e4
  unfold iv
  repeat (refine eU ?_)
  (refine aA rfl (hD2 _ _ _ _ aB aB) rfl rfl ?_; rintro _ _ _ ⟨rfl, v3, v4, rfl, rfl⟩; refine ⟨okF, ?_⟩)
  refine dR (u := v3) aB (fun q5 c5 e5 hc5 hz5 => ?_)
  subst e5
  unfold iv
  repeat (refine eU ?_)
  (refine aC rfl (fun _ => aU (pvs := ([vI q4 c4 r.num, vI q5 c5 r.den]).zipIdx.map (fun p => (p.2, p.1))) (cells := eR ⟨r, q4, c4, q5, c5⟩) rfl rfl) rfl rfl ?_)
  repeat (refine eU ?_)
  refine rV (q := r) (k := k) (p1 := q4) (c1 := c4) (p2 := q5) (c2 := c5) aB aB (Nat.le_refl _) (Nat.le_refl _) ?_
  refine bJ (cs := eR ⟨r, q4, c4, q5, c5⟩) (.inl rfl) rfl rfl aB rfl M0 (gQ ⟨r, q4, c4, q5, c5⟩ k :: I0) aG aD ⟨rfl, ⟨r, q4, c4, q5, c5⟩, rfl, rfl, rfl⟩
theorem aOC {e : RE} {k : Nat} (hk : k ≤ 500000000000) (he : Hv I0 (gQ e k)) :
  CD Tryz.prog 196 [rv e] X w0 M0 I0 (fun v M I => M0 = M ∧ I0 = I ∧ v = .bool true) := by
 refine CD.post (K := fun v M I => M0 = M ∧ kR (vI e.p1 e.c1 e.q.num) e.q.num k :: kR (vI e.p2 e.c2 e.q.den) e.q.den k :: I0 = I ∧ v = .bool true) (aHJ he ?_) (fun v M I w h hw => ?_)
 case refine_2 =>
  obtain ⟨e1, e2, e3⟩ := h
  subst e1; subst e2
  exact ⟨_, _, ⟨rfl, rfl, e3⟩, hw.inc (Inc.wk (Inc.wk Inc.refl))⟩
 have hV1 := fun M0 I0 h => pX (X := X) (w0 := w0) (M0 := M0) (I0 := I0) (u := vI e.p1 e.c1 e.q.num) (z := e.q.num) (k := k) (by omega) h
 have hV2 := fun M0 I0 h => pX (X := X) (w0 := w0) (M0 := M0) (I0 := I0) (u := vI e.p2 e.c2 e.q.den) (z := e.q.den) (k := k) (by omega) h
 have hS := fun M0 I0 => oO (X := X) (w0 := w0) (M0 := M0) (I0 := I0) (u := vI e.p2 e.c2 e.q.den) (z := e.q.den) (k := k) (by omega)
 have hs : ((e.q.den : Int)).sign = 1 := Int.sign_eq_one_of_pos (by have := e.q.den_nz; omega)
 rw [hs] at hS
 have hG := fun M0 I0 => aFO (X := X) (w0 := w0) (M0 := M0) (I0 := I0) (u := vI e.p1 e.c1 e.q.num) (v := vI e.p2 e.c2 e.q.den) (y := e.q.num) (z := e.q.den) (k0 := k) (m := k) (by omega) (by omega)
 rw [aVK] at hG
 have hC := fun u v M0 I0 => vV (X := X) (w0 := w0) (M0 := M0) (I0 := I0) (u := u) (v := v) (y := 1) (z := 1) (k := k + k) (m := 63) (by omega) (by omega)
 have hc : jO 1 1 = 0 := by decide
 rw [hc] at hC
 refine bN Tryz.func196 rfl Tryz.ntmps196 rfl ?_
 refine aH ?_
 refine aI ?_
 (refine aV rfl rfl rfl ?_; intro b; refine ⟨okF, ?_⟩)
 repeat (refine eU ?_)
 (refine aA rfl (hV1 _ _ aB) rfl rfl ?_; rintro _ _ _ ⟨rfl, rfl, rfl⟩; refine ⟨okF, ?_⟩)
 repeat (refine eU ?_)
 (refine aA rfl (hV2 _ _ aB) rfl rfl ?_; rintro _ _ _ ⟨rfl, rfl, rfl⟩; refine ⟨okF, ?_⟩)
 repeat (refine eU ?_)
 (refine aA rfl (hS _ _ aB) rfl rfl ?_; rintro _ _ _ ⟨rfl, rfl, rfl⟩; refine ⟨okF, ?_⟩)
 repeat (refine eU ?_)
 (refine aA rfl (hG _ _ aB aB) rfl rfl ?_; rintro _ _ _ ⟨rfl, rfl⟩; refine ⟨okF, ?_⟩)
 repeat (refine eU ?_)
 (refine aA rfl (aBX (x := 1) (by decide)) rfl rfl ?_; rintro _ _ _ ⟨rfl, rfl⟩; refine ⟨okF, ?_⟩)
 (refine aA rfl (hC _ _ _ _ aB aB) rfl rfl ?_; rintro _ _ _ ⟨rfl, rfl, rfl⟩; refine ⟨okF, ?_⟩)
 repeat (refine eU ?_)
 refine aM (by first | exact .inl rfl | exact .inr rfl) rfl rfl _ _ aG aD (⟨rfl, rfl, congrArg Value.bool (bV (by decide))⟩)
end
end Go.Proofs.YtjbhdfpjnjedhaaGreat

/- The walk, kept once. integer: Divide, Of at negative numbers integer: Of at all numbers -/
import Derived.Test.YtjbhdfpjnjedhaaGreatZpam
import Derived.Test.YtjbhdfpjnjedhaaGreatZpag
import Derived.Test.YtjbhdfpjnjedhaaGreatZpaq
import Derived.Test.YtjbhdfpjnjedhaaGreatZpao
set_option linter.unusedSimpArgs false
set_option linter.unusedVariables false
set_option maxRecDepth 100000
set_option maxHeartbeats 4000000
namespace Go.Fx
theorem aV {p g : Prop} (h : g) (w : BoxP g → p := by (intro hh; (first | refine aG ?_ | refine aJ ?_ | refine jL ?_ | refine iD ?_ | refine fK ?_ | refine fG ?_ | refine iE ?_ | refine gW ?_ | refine fJ ?_ | refine fH ?_ | refine jP ?_ | refine jM ?_ | refine jQ ?_ | refine jN rfl ?_ | refine bH ?_ | (refine gI ?_; first | refine gU rfl rfl rfl ?_ | (refine gM rfl rfl ?_; refine fC rfl rfl rfl okF ?_) | refine gD rfl rfl (by omega) ?_ | refine gP rfl rfl (by omega) ?_) | (refine bR ?_; refine aF rfl (fun _ => dH rfl) rfl rfl ?_) | refine aF rfl (fun _ => bF rfl) rfl rfl ?_ | (refine gL ?_; first | refine aF rfl (fun _ => bM rfl rfl wF) rfl rfl ?_ | refine aF rfl (fun _ => bK rfl rfl wF) rfl rfl ?_ | refine aF rfl (fun _ => eO rfl rfl wF) rfl rfl ?_ | refine aF rfl (fun _ => eF rfl rfl (by omega) qF) rfl rfl ?_ | refine aF rfl (fun _ => dZ rfl rfl (by omega) rfl) rfl rfl ?_ | refine aF rfl (fun _ => dK rfl rfl) rfl rfl ?_ | refine aF rfl (fun _ => dV rfl rfl) rfl rfl ?_ | refine aF rfl (fun _ => dW rfl rfl) rfl rfl ?_) | (refine bR ?_; first | refine aF rfl (fun _ => dX rfl wF) rfl rfl ?_) | (refine gJ ?_; first | refine aF rfl (fun _ => dC rfl wF) rfl rfl ?_) | (refine gG ?_; first | refine aF rfl (fun _ => bL rfl) rfl rfl ?_ | refine aF rfl (fun _ => dJ rfl rfl) rfl rfl ?_ | refine aF rfl (fun _ => dL rfl rfl) rfl rfl ?_ | refine aF rfl (fun _ => dM rfl rfl rfl) rfl rfl ?_) | (refine gN ?_; first | refine fZ rfl (by decide) rfl rfl ?_ | refine iY rfl (by decide) rfl rfl ?_) | (refine gK ?_; first | refine aF rfl (fun _ => dB rfl) rfl rfl ?_) | (refine gH ?_; first | refine jA rfl rfl iK rfl rfl ?_ | refine iX iG rfl rfl iK aB jD rfl rfl ?_ | refine iV iG rfl rfl iK aB jD rfl rfl ?_ | refine aF rfl (fun _ => bP rfl rfl iK) rfl rfl ?_) | (refine gT ?_; first | refine iW iG rfl aB pI rfl rfl ?_ | refine iU iG rfl aB pI rfl rfl ?_ | refine fU iG rfl aB pI rfl rfl ?_ | refine gQ iG rfl aB pI rfl rfl ?_ | refine nD iG rfl aB xC rfl rfl ?_ | refine nM iG rfl aB xC rfl rfl ?_ | refine lV iG rfl aB xC rfl rfl ?_ | refine lM iG rfl aB xC rfl rfl ?_) | (refine fV ?_; first | refine aF rfl (fun _ => bQ rfl rfl) rfl rfl ?_ | refine aF rfl (fun _ => bI rfl) rfl rfl ?_) | (refine iO ?_; first | refine kI rfl rfl rfl lN stC rfl rfl ⟨okF, ?_⟩ | refine iC rfl rfl fE rE lN qP rfl rfl ⟨okF, ?_⟩) | (refine iF ?_; first | refine cK rfl ?_ | refine bN rfl ?_ | refine jR rfl (by omega) ?_ | refine mD rfl (by omega) ?_)); (repeat (first | refine aG ?_ | refine aJ ?_ | refine jL ?_ | refine iD ?_ | refine fK ?_ | refine fG ?_ | refine iE ?_ | refine gW ?_ | refine fJ ?_ | refine fH ?_ | refine jP ?_ | refine jM ?_ | refine jQ ?_ | refine jN rfl ?_ | refine bH ?_ | (refine gI ?_; first | refine gU rfl rfl rfl ?_ | (refine gM rfl rfl ?_; refine fC rfl rfl rfl okF ?_) | refine gD rfl rfl (by omega) ?_ | refine gP rfl rfl (by omega) ?_) | (refine bR ?_; refine aF rfl (fun _ => dH rfl) rfl rfl ?_) | refine aF rfl (fun _ => bF rfl) rfl rfl ?_ | (refine gL ?_; first | refine aF rfl (fun _ => bM rfl rfl wF) rfl rfl ?_ | refine aF rfl (fun _ => bK rfl rfl wF) rfl rfl ?_ | refine aF rfl (fun _ => eO rfl rfl wF) rfl rfl ?_ | refine aF rfl (fun _ => eF rfl rfl (by omega) qF) rfl rfl ?_ | refine aF rfl (fun _ => dZ rfl rfl (by omega) rfl) rfl rfl ?_ | refine aF rfl (fun _ => dK rfl rfl) rfl rfl ?_ | refine aF rfl (fun _ => dV rfl rfl) rfl rfl ?_ | refine aF rfl (fun _ => dW rfl rfl) rfl rfl ?_) | (refine bR ?_; first | refine aF rfl (fun _ => dX rfl wF) rfl rfl ?_) | (refine gJ ?_; first | refine aF rfl (fun _ => dC rfl wF) rfl rfl ?_) | (refine gG ?_; first | refine aF rfl (fun _ => bL rfl) rfl rfl ?_ | refine aF rfl (fun _ => dJ rfl rfl) rfl rfl ?_ | refine aF rfl (fun _ => dL rfl rfl) rfl rfl ?_ | refine aF rfl (fun _ => dM rfl rfl rfl) rfl rfl ?_) | (refine gN ?_; first | refine fZ rfl (by decide) rfl rfl ?_ | refine iY rfl (by decide) rfl rfl ?_) | (refine gK ?_; first | refine aF rfl (fun _ => dB rfl) rfl rfl ?_) | (refine gH ?_; first | refine jA rfl rfl iK rfl rfl ?_ | refine iX iG rfl rfl iK aB jD rfl rfl ?_ | refine iV iG rfl rfl iK aB jD rfl rfl ?_ | refine aF rfl (fun _ => bP rfl rfl iK) rfl rfl ?_) | (refine gT ?_; first | refine iW iG rfl aB pI rfl rfl ?_ | refine iU iG rfl aB pI rfl rfl ?_ | refine fU iG rfl aB pI rfl rfl ?_ | refine gQ iG rfl aB pI rfl rfl ?_ | refine nD iG rfl aB xC rfl rfl ?_ | refine nM iG rfl aB xC rfl rfl ?_ | refine lV iG rfl aB xC rfl rfl ?_ | refine lM iG rfl aB xC rfl rfl ?_) | (refine fV ?_; first | refine aF rfl (fun _ => bQ rfl rfl) rfl rfl ?_ | refine aF rfl (fun _ => bI rfl) rfl rfl ?_) | (refine iO ?_; first | refine kI rfl rfl rfl lN stC rfl rfl ⟨okF, ?_⟩ | refine iC rfl rfl fE rE lN qP rfl rfl ⟨okF, ?_⟩) | (refine iF ?_; first | refine cK rfl ?_ | refine bN rfl ?_ | refine jR rfl (by omega) ?_ | refine mD rfl (by omega) ?_))); exact hh.out)) : p := w ⟨h⟩
theorem yXf {p g : Prop} (h : g) (w : BoxP g → p := by (intro hh; (first | refine aG ?_ | refine aJ ?_ | refine jL ?_ | refine iD ?_ | refine fK ?_ | refine fG ?_ | refine iE ?_ | refine gW ?_ | refine fJ ?_ | refine fH ?_ | refine jP ?_ | refine jM ?_ | refine jQ ?_ | refine jN rfl ?_ | refine bH ?_ | (refine gI ?_; first | refine gU rfl rfl rfl ?_ | (refine gM rfl rfl ?_; refine fC rfl rfl rfl okF ?_) | refine gD rfl rfl (by omega) ?_ | refine gP rfl rfl (by omega) ?_) | (refine bR ?_; refine aF rfl (fun _ => dH rfl) rfl rfl ?_) | refine aF rfl (fun _ => bF rfl) rfl rfl ?_ | (refine gL ?_; first | refine aF rfl (fun _ => bM rfl rfl wF) rfl rfl ?_ | refine aF rfl (fun _ => bK rfl rfl wF) rfl rfl ?_ | refine aF rfl (fun _ => eO rfl rfl wF) rfl rfl ?_ | refine aF rfl (fun _ => eF rfl rfl (by omega) qF) rfl rfl ?_ | refine aF rfl (fun _ => dZ rfl rfl (by omega) rfl) rfl rfl ?_ | refine aF rfl (fun _ => dK rfl rfl) rfl rfl ?_ | refine aF rfl (fun _ => dV rfl rfl) rfl rfl ?_ | refine aF rfl (fun _ => dW rfl rfl) rfl rfl ?_) | (refine bR ?_; first | refine aF rfl (fun _ => dX rfl wF) rfl rfl ?_) | (refine gJ ?_; first | refine aF rfl (fun _ => dC rfl wF) rfl rfl ?_) | (refine gG ?_; first | refine aF rfl (fun _ => bL rfl) rfl rfl ?_ | refine aF rfl (fun _ => dJ rfl rfl) rfl rfl ?_ | refine aF rfl (fun _ => dL rfl rfl) rfl rfl ?_ | refine aF rfl (fun _ => dM rfl rfl rfl) rfl rfl ?_) | (refine gN ?_; first | refine fZ rfl (by decide) rfl rfl ?_ | refine iY rfl (by decide) rfl rfl ?_) | (refine gK ?_; first | refine aF rfl (fun _ => dB rfl) rfl rfl ?_) | (refine gH ?_; first | refine jA rfl rfl iK rfl rfl ?_ | refine iX iG rfl rfl iK aB jD rfl rfl ?_ | refine iV iG rfl rfl iK aB jD rfl rfl ?_ | refine aF rfl (fun _ => bP rfl rfl iK) rfl rfl ?_) | (refine gT ?_; first | refine iW iG rfl aB pI rfl rfl ?_ | refine iU iG rfl aB pI rfl rfl ?_ | refine fU iG rfl aB pI rfl rfl ?_ | refine gQ iG rfl aB pI rfl rfl ?_ | refine nD iG rfl aB xC rfl rfl ?_ | refine nM iG rfl aB xC rfl rfl ?_ | refine lV iG rfl aB xC rfl rfl ?_ | refine lM iG rfl aB xC rfl rfl ?_) | (refine fV ?_; first | refine aF rfl (fun _ => bQ rfl rfl) rfl rfl ?_ | refine aF rfl (fun _ => bI rfl) rfl rfl ?_) | (refine iF ?_; first | refine cK rfl ?_ | refine bN rfl ?_ | refine jR rfl (by omega) ?_ | refine mD rfl (by omega) ?_)); (repeat (first | refine aG ?_ | refine aJ ?_ | refine jL ?_ | refine iD ?_ | refine fK ?_ | refine fG ?_ | refine iE ?_ | refine gW ?_ | refine fJ ?_ | refine fH ?_ | refine jP ?_ | refine jM ?_ | refine jQ ?_ | refine jN rfl ?_ | refine bH ?_ | (refine gI ?_; first | refine gU rfl rfl rfl ?_ | (refine gM rfl rfl ?_; refine fC rfl rfl rfl okF ?_) | refine gD rfl rfl (by omega) ?_ | refine gP rfl rfl (by omega) ?_) | (refine bR ?_; refine aF rfl (fun _ => dH rfl) rfl rfl ?_) | refine aF rfl (fun _ => bF rfl) rfl rfl ?_ | (refine gL ?_; first | refine aF rfl (fun _ => bM rfl rfl wF) rfl rfl ?_ | refine aF rfl (fun _ => bK rfl rfl wF) rfl rfl ?_ | refine aF rfl (fun _ => eO rfl rfl wF) rfl rfl ?_ | refine aF rfl (fun _ => eF rfl rfl (by omega) qF) rfl rfl ?_ | refine aF rfl (fun _ => dZ rfl rfl (by omega) rfl) rfl rfl ?_ | refine aF rfl (fun _ => dK rfl rfl) rfl rfl ?_ | refine aF rfl (fun _ => dV rfl rfl) rfl rfl ?_ | refine aF rfl (fun _ => dW rfl rfl) rfl rfl ?_) | (refine bR ?_; first | refine aF rfl (fun _ => dX rfl wF) rfl rfl ?_) | (refine gJ ?_; first | refine aF rfl (fun _ => dC rfl wF) rfl rfl ?_) | (refine gG ?_; first | refine aF rfl (fun _ => bL rfl) rfl rfl ?_ | refine aF rfl (fun _ => dJ rfl rfl) rfl rfl ?_ | refine aF rfl (fun _ => dL rfl rfl) rfl rfl ?_ | refine aF rfl (fun _ => dM rfl rfl rfl) rfl rfl ?_) | (refine gN ?_; first | refine fZ rfl (by decide) rfl rfl ?_ | refine iY rfl (by decide) rfl rfl ?_) | (refine gK ?_; first | refine aF rfl (fun _ => dB rfl) rfl rfl ?_) | (refine gH ?_; first | refine jA rfl rfl iK rfl rfl ?_ | refine iX iG rfl rfl iK aB jD rfl rfl ?_ | refine iV iG rfl rfl iK aB jD rfl rfl ?_ | refine aF rfl (fun _ => bP rfl rfl iK) rfl rfl ?_) | (refine gT ?_; first | refine iW iG rfl aB pI rfl rfl ?_ | refine iU iG rfl aB pI rfl rfl ?_ | refine fU iG rfl aB pI rfl rfl ?_ | refine gQ iG rfl aB pI rfl rfl ?_ | refine nD iG rfl aB xC rfl rfl ?_ | refine nM iG rfl aB xC rfl rfl ?_ | refine lV iG rfl aB xC rfl rfl ?_ | refine lM iG rfl aB xC rfl rfl ?_) | (refine fV ?_; first | refine aF rfl (fun _ => bQ rfl rfl) rfl rfl ?_ | refine aF rfl (fun _ => bI rfl) rfl rfl ?_) | (refine iF ?_; first | refine cK rfl ?_ | refine bN rfl ?_ | refine jR rfl (by omega) ?_ | refine mD rfl (by omega) ?_))); exact hh.out)) : p := w ⟨h⟩
end Go.Fx
namespace Go.Proofs.YtjbhdfpjnjedhaaGreat
open Go Go.Fx
theorem vC {a b k : Nat} (h : a ≤ 2 ^ k) : a / b ≤ 2 ^ k := Nat.le_trans (Nat.div_le_self _ _) h
section
variable {X : List Nat} {w0 : World} {M0 : List Ent} {I0 : List aY}
def DvP (s t : Int) (k m : Nat) (M0 : List Ent) (I0 : List aY) (v : Value) (M : List Ent) (I : List aY) : Prop := M0 = M ∧ ∃ v1 v2, v = .tuple #[v1, v2, .int .i64 0] ∧ I = iI v2 t m :: iI v1 s k :: I0
theorem aRQ {y z s t : Int} {q q' : Option Addr} {a b Q R k m cq cq' : Nat} (hb0 : ¬ (gr b).length = 0) (hA1 : ¬ (gr R).length = 0) (hA2 : ¬ (y < 0 ↔ z < 0)) (hg1 : gr 1 = [1])
  (h1 : ∀ M0 I0, aO q (recs eG (gr a)) ∈ I0 → CD Tryz.prog 193 [.agg #[.bool (B (y < 0)), .slice q (gr a).length cq]] X w0 M0 I0 (fun v M I => M0 = M ∧ I0 = I ∧ v = .slice q (gr a).length cq))
  (h2 : ∀ M0 I0, aO q' (recs eG (gr b)) ∈ I0 → CD Tryz.prog 193 [.agg #[.bool (B (z < 0)), .slice q' (gr b).length cq']] X w0 M0 I0 (fun v M I => M0 = M ∧ I0 = I ∧ v = .slice q' (gr b).length cq'))
  (hO : ∀ M0 I0, aO q (recs eG (gr a)) ∈ I0 → aO q' (recs eG (gr b)) ∈ I0 → CD Tryz.prog 227 [.slice q (gr a).length cq, .slice q' (gr b).length cq'] X w0 M0 I0 (QrP Q R M0 I0))
  (hC : ∀ p2 c2, pW p2 R c2 → ∀ M0 I0, aO p2 (recs eG (gr R)) ∈ I0 → CD Tryz.prog 228 [.slice p2 (gr R).length c2] X w0 M0 I0 (fun v M I => I0 = I ∧ ∃ q' c', v = .slice q' (gr R).length c' ∧ M = .row q' (gr R).length c' (recs eG (gr R)) 104 1 :: M0))
  (hP : ∀ p1 c1 p2 M0 I0, aO p1 (recs eG (gr Q)) ∈ I0 → aO p2 (recs eG [1]) ∈ I0 → CD Tryz.prog 229 [.slice p1 (gr Q).length c1, .slice p2 1 1] X w0 M0 I0 (GrP (Q + 1) M0 I0))
  (hMi : ∀ p3 c3 M0 I0, aO q' (recs eG (gr b)) ∈ I0 → aO p3 (recs eG (gr R)) ∈ I0 → CD Tryz.prog 230 [.slice q' (gr b).length cq', .slice p3 (gr R).length c3] X w0 M0 I0 (GrP (b - R) M0 I0))
  (hM1 : ∀ p4 c4, pW p4 (Q + 1) c4 → ∀ M0 I0, aO p4 (recs eG (gr (Q + 1))) ∈ I0 → CD Tryz.prog 200 [.bool (B (¬ (y < 0 ↔ z < 0))), .slice p4 (gr (Q + 1)).length c4] X w0 M0 I0 (fun v M I => M0 = M ∧ I = iI v s k :: I0))
  (hM2 : ∀ p4 c4, pW p4 (b - R) c4 → ∀ M0 I0, aO p4 (recs eG (gr (b - R))) ∈ I0 → CD Tryz.prog 200 [.bool (B (z < 0)), .slice p4 (gr (b - R)).length c4] X w0 M0 I0 (fun v M I => M0 = M ∧ I = iI v t m :: I0))
  (hq : aO q (recs eG (gr a)) ∈ I0) (hq' : aO q' (recs eG (gr b)) ∈ I0) :
  CD Tryz.prog 187 [.agg #[.bool (B (y < 0)), .slice q (gr a).length cq], .agg #[.bool (B (z < 0)), .slice q' (gr b).length cq']] X w0 M0 I0 (DvP s t k m M0 I0) := by
 refine aX Tryz.func187 rfl Tryz.ntmps187 rfl ?_
 refine aG ?_
 refine aJ ?_
 (refine aR rfl rfl rfl ?_; intro b1; refine ⟨okF, ?_⟩)
 (refine aR rfl rfl rfl ?_; intro b2; refine ⟨okF, ?_⟩)
 (refine aI rfl rfl ?_; intro b3; refine ⟨okF, ?_⟩)
 (refine aI rfl rfl ?_; intro b4; refine ⟨okF, ?_⟩)
 repeat' (first | refine aJ ?_ | refine jL ?_ | refine iD ?_ | refine fK ?_ | refine fG ?_ | refine iE ?_ | refine gW ?_ | refine fJ ?_ | refine fH ?_ | refine jP ?_ | refine jM ?_ | refine jQ ?_ | refine jN rfl ?_ | refine bH ?_ | (refine gI ?_; first | refine gU rfl rfl rfl ?_ | (refine gM rfl rfl ?_; refine fC rfl rfl rfl okF ?_) | refine gD rfl rfl (by omega) ?_ | refine gP rfl rfl (by omega) ?_ | refine qI rfl rfl (fun h => ?_) (fun h => ?_) | (fail_if_success (refine sU rfl ?_); refine oQ rfl rfl (fun h => ?_) (fun h => ?_))) | (refine bR ?_; refine aF rfl (fun _ => dH rfl) rfl rfl ?_) | refine aF rfl (fun _ => bF rfl) rfl rfl ?_ | (refine gL ?_; first | refine aF rfl (fun _ => bM rfl rfl wF) rfl rfl ?_ | refine aF rfl (fun _ => bK rfl rfl wF) rfl rfl ?_ | refine aF rfl (fun _ => eO rfl rfl wF) rfl rfl ?_ | refine aF rfl (fun _ => eF rfl rfl (by omega) qF) rfl rfl ?_ | refine aF rfl (fun _ => dZ rfl rfl (by omega) rfl) rfl rfl ?_ | refine aF rfl (fun _ => dK rfl rfl) rfl rfl ?_ | refine aF rfl (fun _ => dV rfl rfl) rfl rfl ?_ | refine aF rfl (fun _ => dW rfl rfl) rfl rfl ?_) | (refine bR ?_; first | refine aF rfl (fun _ => dX rfl wF) rfl rfl ?_) | (refine gJ ?_; first | refine aF rfl (fun _ => dC rfl wF) rfl rfl ?_) | (refine gG ?_; first | refine aF rfl (fun _ => bL rfl) rfl rfl ?_ | refine aF rfl (fun _ => dJ rfl rfl) rfl rfl ?_ | refine aF rfl (fun _ => dL rfl rfl) rfl rfl ?_ | refine aF rfl (fun _ => dM rfl rfl rfl) rfl rfl ?_) | (refine gN ?_; first | refine fZ rfl (by decide) rfl rfl ?_ | refine iY rfl (by decide) rfl rfl ?_) | (refine gK ?_; first | refine aF rfl (fun _ => dB rfl) rfl rfl ?_) | (refine gH ?_; first | refine jA rfl rfl iK rfl rfl ?_ | refine iX iG rfl rfl iK aB jD rfl rfl ?_ | refine iV iG rfl rfl iK aB jD rfl rfl ?_ | refine aF rfl (fun _ => bP rfl rfl iK) rfl rfl ?_) | (refine gT ?_; first | refine iW iG rfl aB pI rfl rfl ?_ | refine iU iG rfl aB pI rfl rfl ?_ | refine fU iG rfl aB pI rfl rfl ?_ | refine gQ iG rfl aB pI rfl rfl ?_ | refine nD iG rfl aB xC rfl rfl ?_ | refine nM iG rfl aB xC rfl rfl ?_ | refine lV iG rfl aB xC rfl rfl ?_ | refine lM iG rfl aB xC rfl rfl ?_) | (refine fV ?_; first | refine aF rfl (fun _ => bQ rfl rfl) rfl rfl ?_ | refine aF rfl (fun _ => bI rfl) rfl rfl ?_) | (refine iO ?_; first | refine kI rfl rfl rfl lN stC rfl rfl ⟨okF, ?_⟩ | refine iC rfl rfl fE rE lN qP rfl rfl ⟨okF, ?_⟩) | (refine iF ?_; first | refine cK rfl ?_ | refine bN rfl ?_ | refine jR rfl (by omega) ?_ | refine mD rfl (by omega) ?_ | refine tO rfl (fun h => ?_) (fun h => ?_) | refine oP rfl (fun h => ?_) (fun h => ?_)))
 (repeat refine aG ?_); refine bG 4 [0, 2, 1, 3, 4, 5] [1, 1, 0, 0, 0, 0] mixed (by kernel_rfl) ?_
 repeat' (first | refine aV ?_ | refine aM rfl (fun h => ?_) (fun h => ?_) | refine aN rfl rfl (fun h => ?_) (fun h => ?_) | fail)
 (refine aA rfl (h1 _ _ aB) rfl rfl ?_; rintro _ _ _ ⟨rfl, rfl, rfl⟩; refine ⟨okF, ?_⟩)
 repeat' (first | refine aV ?_ | refine aM rfl (fun h => ?_) (fun h => ?_) | refine aN rfl rfl (fun h => ?_) (fun h => ?_) | fail)
 (refine aA rfl (h2 _ _ aB) rfl rfl ?_; rintro _ _ _ ⟨rfl, rfl, rfl⟩; refine ⟨okF, ?_⟩)
 repeat' (first | refine aV ?_ | refine aM rfl (fun h => ?_) (fun h => ?_) | refine aN rfl rfl (fun h => ?_) (fun h => ?_) | fail)
 (refine aA rfl (hO _ _ aB aB) rfl rfl ?_; rintro _ _ _ ⟨rfl, p1, c1, p2, c2, ho1, ho2, rfl, rfl⟩; refine ⟨okF, ?_⟩)
 repeat' (first | refine aV ?_ | refine aM rfl (fun h => ?_) (fun h => ?_) | refine aN rfl rfl (fun h => ?_) (fun h => ?_) | fail)
 (refine aA rfl (hC p2 c2 ho2 _ _ aB) rfl rfl ?_; rintro _ _ _ ⟨rfl, p3, c3, rfl, rfl⟩; refine ⟨okF, ?_⟩)
 refine eU uW ?_
 repeat' (first | refine aV ?_ | refine aM rfl (fun h => ?_) (fun h => ?_) | refine aN rfl rfl (fun h => ?_) (fun h => ?_) | fail)
 (refine aQ (cs := recs eG [1]) ([.int .u32 1]) rfl rfl (by intro v hv; repeat (first | exact absurd hv (List.not_mem_nil) | (rcases List.mem_cons.1 hv with rfl | hv; · rfl))) (by omega) rfl rfl rfl ?_; intro b5; refine ⟨okF, ?_⟩)
 refine bC uW ?_
 (refine aA rfl (hP p1 c1 (some ⟨b5, 0, none⟩) _ _ aB aB) rfl rfl ?_; rintro _ _ _ ⟨rfl, p4, c4, rfl, hc4, rfl⟩; refine ⟨okF, ?_⟩)
 repeat' (first | refine aV ?_ | refine aM rfl (fun h => ?_) (fun h => ?_) | refine aN rfl rfl (fun h => ?_) (fun h => ?_) | fail)
 (refine aA rfl (hMi p3 c3 _ _ aB aB) rfl rfl ?_; rintro _ _ _ ⟨rfl, p5, c5, rfl, hc5, rfl⟩; refine ⟨okF, ?_⟩)
 repeat' (first | refine aJ ?_ | refine jL ?_ | refine iD ?_ | refine fK ?_ | refine fG ?_ | refine iE ?_ | refine gW ?_ | refine fJ ?_ | refine fH ?_ | refine jP ?_ | refine jM ?_ | refine jQ ?_ | refine jN rfl ?_ | refine bH ?_ | (refine gI ?_; first | refine gU rfl rfl rfl ?_ | (refine gM rfl rfl ?_; refine fC rfl rfl rfl okF ?_) | refine gD rfl rfl (by omega) ?_ | refine gP rfl rfl (by omega) ?_ | refine qI rfl rfl (fun h => ?_) (fun h => ?_) | (fail_if_success (refine sU rfl ?_); refine oQ rfl rfl (fun h => ?_) (fun h => ?_))) | (refine bR ?_; refine aF rfl (fun _ => dH rfl) rfl rfl ?_) | refine aF rfl (fun _ => bF rfl) rfl rfl ?_ | (refine gL ?_; first | refine aF rfl (fun _ => bM rfl rfl wF) rfl rfl ?_ | refine aF rfl (fun _ => bK rfl rfl wF) rfl rfl ?_ | refine aF rfl (fun _ => eO rfl rfl wF) rfl rfl ?_ | refine aF rfl (fun _ => eF rfl rfl (by omega) qF) rfl rfl ?_ | refine aF rfl (fun _ => dZ rfl rfl (by omega) rfl) rfl rfl ?_ | refine aF rfl (fun _ => dK rfl rfl) rfl rfl ?_ | refine aF rfl (fun _ => dV rfl rfl) rfl rfl ?_ | refine aF rfl (fun _ => dW rfl rfl) rfl rfl ?_) | (refine bR ?_; first | refine aF rfl (fun _ => dX rfl wF) rfl rfl ?_) | (refine gJ ?_; first | refine aF rfl (fun _ => dC rfl wF) rfl rfl ?_) | (refine gG ?_; first | refine aF rfl (fun _ => bL rfl) rfl rfl ?_ | refine aF rfl (fun _ => dJ rfl rfl) rfl rfl ?_ | refine aF rfl (fun _ => dL rfl rfl) rfl rfl ?_ | refine aF rfl (fun _ => dM rfl rfl rfl) rfl rfl ?_) | (refine gN ?_; first | refine fZ rfl (by decide) rfl rfl ?_ | refine iY rfl (by decide) rfl rfl ?_) | (refine gK ?_; first | refine aF rfl (fun _ => dB rfl) rfl rfl ?_) | (refine gH ?_; first | refine jA rfl rfl iK rfl rfl ?_ | refine iX iG rfl rfl iK aB jD rfl rfl ?_ | refine iV iG rfl rfl iK aB jD rfl rfl ?_ | refine aF rfl (fun _ => bP rfl rfl iK) rfl rfl ?_) | (refine gT ?_; first | refine iW iG rfl aB pI rfl rfl ?_ | refine iU iG rfl aB pI rfl rfl ?_ | refine fU iG rfl aB pI rfl rfl ?_ | refine gQ iG rfl aB pI rfl rfl ?_ | refine nD iG rfl aB xC rfl rfl ?_ | refine nM iG rfl aB xC rfl rfl ?_ | refine lV iG rfl aB xC rfl rfl ?_ | refine lM iG rfl aB xC rfl rfl ?_) | (refine fV ?_; first | refine aF rfl (fun _ => bQ rfl rfl) rfl rfl ?_ | refine aF rfl (fun _ => bI rfl) rfl rfl ?_) | (refine iO ?_; first | refine kI rfl rfl rfl lN stC rfl rfl ⟨okF, ?_⟩ | refine iC rfl rfl fE rE lN qP rfl rfl ⟨okF, ?_⟩) | (refine iF ?_; first | refine cK rfl ?_ | refine bN rfl ?_ | refine jR rfl (by omega) ?_ | refine mD rfl (by omega) ?_ | refine tO rfl (fun h => ?_) (fun h => ?_) | refine oP rfl (fun h => ?_) (fun h => ?_)))
 (repeat refine aG ?_); refine bZ (.blk b2 [.bool (B (z < 0)), .slice q' (gr b).length cq'] 48 :: .blk b1 [.bool (B (y < 0)), .slice q (gr a).length cq] 48 :: M0) (I0) [0, 1, 2, 3, 4, 5, 7, 8, 9, 6, 10, 11, 12, 13] [2, 2, 2, 2, 1, 1, 3, 2, 2, 0, 0, 0, 0, 0] aD aC mixed (by kernel_rfl) ?_
 repeat' (first | refine aV ?_ | refine aM rfl (fun h => ?_) (fun h => ?_) | refine aN rfl rfl (fun h => ?_) (fun h => ?_) | fail)
 (refine aA rfl (hM1 p4 c4 hc4 _ _ aB) rfl rfl ?_; rintro _ _ _ ⟨rfl, rfl⟩; refine ⟨okF, ?_⟩; refine aW (List.Mem.head _) (fun q6 c6 e__ hc6 hz6 => ?_); subst e__)
 repeat' (first | refine aV ?_ | refine aM rfl (fun h => ?_) (fun h => ?_) | refine aN rfl rfl (fun h => ?_) (fun h => ?_) | fail)
 (refine aA rfl (hM2 p5 c5 hc5 _ _ aB) rfl rfl ?_; rintro _ _ _ ⟨rfl, rfl⟩; refine ⟨okF, ?_⟩; refine aW (List.Mem.head _) (fun q7 c7 e__ hc7 hz7 => ?_); subst e__)
 unfold iv
 repeat' (first | refine aV ?_ | refine aM rfl (fun h => ?_) (fun h => ?_) | refine aN rfl rfl (fun h => ?_) (fun h => ?_) | fail)
 refine fO (rs := [.cell 4 48, .cell 5 48, .tmp 6]) (.inl rfl) rfl (.cellN inferInstance rfl aB rfl (.cellN inferInstance rfl aB rfl (.tmp rfl .nil))) rfl M0 (iI (.agg #[.bool (B (t < 0)), .slice q7 (gr t.natAbs).length c7]) t m :: iI (.agg #[.bool (B (s < 0)), .slice q6 (gr s.natAbs).length c6]) s k :: I0) aD aC ⟨rfl, _, _, rfl, rfl⟩
theorem aQZ {y z s t : Int} {q q' : Option Addr} {a b Q R k m cq cq' : Nat} (hb0 : ¬ (gr b).length = 0) (hA : (gr R).length = 0 ∨ (y < 0 ↔ z < 0))
  (h1 : ∀ M0 I0, aO q (recs eG (gr a)) ∈ I0 → CD Tryz.prog 193 [.agg #[.bool (B (y < 0)), .slice q (gr a).length cq]] X w0 M0 I0 (fun v M I => M0 = M ∧ I0 = I ∧ v = .slice q (gr a).length cq))
  (h2 : ∀ M0 I0, aO q' (recs eG (gr b)) ∈ I0 → CD Tryz.prog 193 [.agg #[.bool (B (z < 0)), .slice q' (gr b).length cq']] X w0 M0 I0 (fun v M I => M0 = M ∧ I0 = I ∧ v = .slice q' (gr b).length cq'))
  (hO : ∀ M0 I0, aO q (recs eG (gr a)) ∈ I0 → aO q' (recs eG (gr b)) ∈ I0 → CD Tryz.prog 227 [.slice q (gr a).length cq, .slice q' (gr b).length cq'] X w0 M0 I0 (QrP Q R M0 I0))
  (hC : ∀ p2 c2, pW p2 R c2 → ∀ M0 I0, aO p2 (recs eG (gr R)) ∈ I0 → CD Tryz.prog 228 [.slice p2 (gr R).length c2] X w0 M0 I0 (fun v M I => I0 = I ∧ ∃ q' c', v = .slice q' (gr R).length c' ∧ M = .row q' (gr R).length c' (recs eG (gr R)) 104 1 :: M0))
  (hM1 : ∀ p4 c4, pW p4 Q c4 → ∀ M0 I0, aO p4 (recs eG (gr Q)) ∈ I0 → CD Tryz.prog 200 [.bool (B (¬ (y < 0 ↔ z < 0))), .slice p4 (gr Q).length c4] X w0 M0 I0 (fun v M I => M0 = M ∧ I = iI v s k :: I0))
  (hM2 : ∀ p4 c4, pW p4 R c4 → ∀ M0 I0, aO p4 (recs eG (gr R)) ∈ I0 → CD Tryz.prog 200 [.bool (B (z < 0)), .slice p4 (gr R).length c4] X w0 M0 I0 (fun v M I => M0 = M ∧ I = iI v t m :: I0))
  (hq : aO q (recs eG (gr a)) ∈ I0) (hq' : aO q' (recs eG (gr b)) ∈ I0) :
  CD Tryz.prog 187 [.agg #[.bool (B (y < 0)), .slice q (gr a).length cq], .agg #[.bool (B (z < 0)), .slice q' (gr b).length cq']] X w0 M0 I0 (DvP s t k m M0 I0) := by
 refine aX Tryz.func187 rfl Tryz.ntmps187 rfl ?_
 refine aG ?_
 refine aJ ?_
 (refine aR rfl rfl rfl ?_; intro b1; refine ⟨okF, ?_⟩)
 (refine aR rfl rfl rfl ?_; intro b2; refine ⟨okF, ?_⟩)
 (refine aI rfl rfl ?_; intro b3; refine ⟨okF, ?_⟩)
 (refine aI rfl rfl ?_; intro b4; refine ⟨okF, ?_⟩)
 repeat' (first | refine aJ ?_ | refine jL ?_ | refine iD ?_ | refine fK ?_ | refine fG ?_ | refine iE ?_ | refine gW ?_ | refine fJ ?_ | refine fH ?_ | refine jP ?_ | refine jM ?_ | refine jQ ?_ | refine jN rfl ?_ | refine bH ?_ | (refine gI ?_; first | refine gU rfl rfl rfl ?_ | (refine gM rfl rfl ?_; refine fC rfl rfl rfl okF ?_) | refine gD rfl rfl (by omega) ?_ | refine gP rfl rfl (by omega) ?_ | refine qI rfl rfl (fun h => ?_) (fun h => ?_) | (fail_if_success (refine sU rfl ?_); refine oQ rfl rfl (fun h => ?_) (fun h => ?_))) | (refine bR ?_; refine aF rfl (fun _ => dH rfl) rfl rfl ?_) | refine aF rfl (fun _ => bF rfl) rfl rfl ?_ | (refine gL ?_; first | refine aF rfl (fun _ => bM rfl rfl wF) rfl rfl ?_ | refine aF rfl (fun _ => bK rfl rfl wF) rfl rfl ?_ | refine aF rfl (fun _ => eO rfl rfl wF) rfl rfl ?_ | refine aF rfl (fun _ => eF rfl rfl (by omega) qF) rfl rfl ?_ | refine aF rfl (fun _ => dZ rfl rfl (by omega) rfl) rfl rfl ?_ | refine aF rfl (fun _ => dK rfl rfl) rfl rfl ?_ | refine aF rfl (fun _ => dV rfl rfl) rfl rfl ?_ | refine aF rfl (fun _ => dW rfl rfl) rfl rfl ?_) | (refine bR ?_; first | refine aF rfl (fun _ => dX rfl wF) rfl rfl ?_) | (refine gJ ?_; first | refine aF rfl (fun _ => dC rfl wF) rfl rfl ?_) | (refine gG ?_; first | refine aF rfl (fun _ => bL rfl) rfl rfl ?_ | refine aF rfl (fun _ => dJ rfl rfl) rfl rfl ?_ | refine aF rfl (fun _ => dL rfl rfl) rfl rfl ?_ | refine aF rfl (fun _ => dM rfl rfl rfl) rfl rfl ?_) | (refine gN ?_; first | refine fZ rfl (by decide) rfl rfl ?_ | refine iY rfl (by decide) rfl rfl ?_) | (refine gK ?_; first | refine aF rfl (fun _ => dB rfl) rfl rfl ?_) | (refine gH ?_; first | refine jA rfl rfl iK rfl rfl ?_ | refine iX iG rfl rfl iK aB jD rfl rfl ?_ | refine iV iG rfl rfl iK aB jD rfl rfl ?_ | refine aF rfl (fun _ => bP rfl rfl iK) rfl rfl ?_) | (refine gT ?_; first | refine iW iG rfl aB pI rfl rfl ?_ | refine iU iG rfl aB pI rfl rfl ?_ | refine fU iG rfl aB pI rfl rfl ?_ | refine gQ iG rfl aB pI rfl rfl ?_ | refine nD iG rfl aB xC rfl rfl ?_ | refine nM iG rfl aB xC rfl rfl ?_ | refine lV iG rfl aB xC rfl rfl ?_ | refine lM iG rfl aB xC rfl rfl ?_) | (refine fV ?_; first | refine aF rfl (fun _ => bQ rfl rfl) rfl rfl ?_ | refine aF rfl (fun _ => bI rfl) rfl rfl ?_) | (refine iO ?_; first | refine kI rfl rfl rfl lN stC rfl rfl ⟨okF, ?_⟩ | refine iC rfl rfl fE rE lN qP rfl rfl ⟨okF, ?_⟩) | (refine iF ?_; first | refine cK rfl ?_ | refine bN rfl ?_ | refine jR rfl (by omega) ?_ | refine mD rfl (by omega) ?_ | refine tO rfl (fun h => ?_) (fun h => ?_) | refine oP rfl (fun h => ?_) (fun h => ?_)))
 (repeat refine aG ?_); refine bG 4 [0, 2, 1, 3, 4, 5] [1, 1, 0, 0, 0, 0] mixed (by kernel_rfl) ?_
 repeat' (first | refine aV ?_ | refine aM rfl (fun h => ?_) (fun h => ?_) | refine aN rfl rfl (fun h => ?_) (fun h => ?_) | fail)
 (refine aA rfl (h1 _ _ aB) rfl rfl ?_; rintro _ _ _ ⟨rfl, rfl, rfl⟩; refine ⟨okF, ?_⟩)
 repeat' (first | refine aV ?_ | refine aM rfl (fun h => ?_) (fun h => ?_) | refine aN rfl rfl (fun h => ?_) (fun h => ?_) | fail)
 (refine aA rfl (h2 _ _ aB) rfl rfl ?_; rintro _ _ _ ⟨rfl, rfl, rfl⟩; refine ⟨okF, ?_⟩)
 repeat' (first | refine aV ?_ | refine aM rfl (fun h => ?_) (fun h => ?_) | refine aN rfl rfl (fun h => ?_) (fun h => ?_) | fail)
 (refine aA rfl (hO _ _ aB aB) rfl rfl ?_; rintro _ _ _ ⟨rfl, p1, c1, p2, c2, ho1, ho2, rfl, rfl⟩; refine ⟨okF, ?_⟩)
 repeat' (first | refine aV ?_ | refine aM rfl (fun h => ?_) (fun h => ?_) | refine aN rfl rfl (fun h => ?_) (fun h => ?_) | fail)
 (refine aA rfl (hC p2 c2 ho2 _ _ aB) rfl rfl ?_; rintro _ _ _ ⟨rfl, p3, c3, rfl, rfl⟩; refine ⟨okF, ?_⟩)
 refine mR (fun w hw => And.intro (hw.rowLe (List.Mem.head _)) ((hw.rowS (List.Mem.head _)).2.imp id And.right)) (fun ho3 => ?_)
 refine eU uW ?_
 repeat' (first | refine aV ?_ | refine aM rfl (fun h => ?_) (fun h => ?_) | refine aN rfl rfl (fun h => ?_) (fun h => ?_) | fail)
 all_goals
  ((repeat refine aG ?_); refine bZ (.blk b2 [.bool (B (z < 0)), .slice q' (gr b).length cq'] 48 :: .blk b1 [.bool (B (y < 0)), .slice q (gr a).length cq] 48 :: M0) (I0) [0, 1, 2, 3, 4, 5, 7, 8, 9, 6, 10, 11, 12, 13] [2, 2, 2, 2, 1, 1, 3, 2, 2, 0, 0, 0, 0, 0] aD aC mixed (by kernel_rfl) ?_)
  repeat' (first | refine aV ?_ | refine aM rfl (fun h => ?_) (fun h => ?_) | refine aN rfl rfl (fun h => ?_) (fun h => ?_) | fail)
  (refine aA rfl (hM1 p1 c1 ho1 _ _ aB) rfl rfl ?_; rintro _ _ _ ⟨rfl, rfl⟩; refine ⟨okF, ?_⟩; refine aW (List.Mem.head _) (fun q6 c6 e__ hc6 hz6 => ?_); subst e__)
  repeat' (first | refine aV ?_ | refine aM rfl (fun h => ?_) (fun h => ?_) | refine aN rfl rfl (fun h => ?_) (fun h => ?_) | fail)
  (refine aA rfl (hM2 p3 c3 ho3 _ _ aB) rfl rfl ?_; rintro _ _ _ ⟨rfl, rfl⟩; refine ⟨okF, ?_⟩; refine aW (List.Mem.head _) (fun q7 c7 e__ hc7 hz7 => ?_); subst e__)
  unfold iv
  repeat' (first | refine aV ?_ | refine aM rfl (fun h => ?_) (fun h => ?_) | refine aN rfl rfl (fun h => ?_) (fun h => ?_) | fail)
  refine fO (rs := [.cell 4 48, .cell 5 48, .tmp 6]) (.inl rfl) rfl (.cellN inferInstance rfl aB rfl (.cellN inferInstance rfl aB rfl (.tmp rfl .nil))) rfl M0 (iI (.agg #[.bool (B (t < 0)), .slice q7 (gr t.natAbs).length c7]) t m :: iI (.agg #[.bool (B (s < 0)), .slice q6 (gr s.natAbs).length c6]) s k :: I0) aD aC ⟨rfl, _, _, rfl, rfl⟩
theorem aDS {u v : Value} {y z : Int} {k m : Nat} (hk : k ≤ 1000000000000) (hm : m ≤ 1000000000000) (hz0 : z ≠ 0) (hu : iI u y k ∈ I0) (hv : iI v z m ∈ I0) :
  CD Tryz.prog 187 [u, v] X w0 M0 I0 (DvP (y.fdiv z) (y.fmod z) k m M0 I0) := by
 refine dE hu (fun q cq e hc hy => ?_)
 subst e
 refine dE (List.Mem.tail _ hv) (fun q' cq' e hc' hz => ?_)
 subst e
 have hly := eY hy
 have hlz := eY hz
 have hfd := wJ (y := y) hz0
 have hz1 : 0 < z.natAbs := by omega
 have hmod := Nat.mod_lt y.natAbs hz1
 have hqb : y.natAbs / z.natAbs ≤ 2 ^ k := vC hy
 have hrb : y.natAbs % z.natAbs ≤ 2 ^ m := by omega
 have hlq := eY hqb
 have hlr := eY hrb
 have hlz1 : ¬ (gr z.natAbs).length = 0 := fun e => by have := nU.1 (List.eq_nil_of_length_eq_zero e); omega
 have hg1 : gr 1 = [1] := sZ (f := 1) (by decide) (by decide)
 have hr0 : (gr (y.natAbs % z.natAbs)).length = 0 ↔ y.natAbs % z.natAbs = 0 := by rw [List.length_eq_zero_iff, nU]
 refine CD.post (K := DvP (y.fdiv z) (y.fmod z) k m M0 (aO q' (recs eG (gr z.natAbs)) :: aO q (recs eG (gr y.natAbs)) :: I0)) ?_ (fun v M I w h hw => ?_)
 case refine_2 =>
  obtain ⟨e1, v1, v2, e2, e3⟩ := h
  subst e1; subst e3
  exact ⟨_, _, ⟨rfl, v1, v2, e2, rfl⟩, hw.inc (Inc.cons (by simp) (Inc.cons (by simp) (Inc.wk (Inc.wk (Inc.wk (Inc.wk Inc.refl))))))⟩
 have hG1 := fun M0 I0 h => jT (X := X) (w0 := w0) (M0 := M0) (I0 := I0) (c := cq) (q := q) (z := y) hy (by omega) h
 have hG2 := fun M0 I0 h => jT (X := X) (w0 := w0) (M0 := M0) (I0 := I0) (c := cq') (q := q') (z := z) hz (by omega) h
 have hO := fun M0 I0 => aKV (X := X) (w0 := w0) (M0 := M0) (I0 := I0) (p := q) (q := q') (m := y.natAbs) (n := z.natAbs) (cp := cq) (cq := cq') (by omega) (by omega) hz1 hc
 have hCl := fun p2 c2 (ho2 : pW p2 (y.natAbs % z.natAbs) c2) M0 I0 h => xL (X := X) (w0 := w0) (M0 := M0) (I0 := I0) (q := p2) (a := gr (y.natAbs % z.natAbs)) (c := c2) (by omega) ho2.2 h
 unfold iv at hG1 hG2 ⊢
 by_cases hA : (gr (y.natAbs % z.natAbs)).length = 0 ∨ (y < 0 ↔ z < 0)
 ·obtain ⟨e1, e2⟩ := hfd.2 (hA.elim (fun h => .inr (hr0.1 h)) .inl)
  have s1 : sg (¬ (y < 0 ↔ z < 0)) (y.natAbs / z.natAbs) = y.fdiv z := by rw [e1]; rfl
  have s2 : sg (z < 0) (y.natAbs % z.natAbs) = y.fmod z := by rw [e2]; rfl
  have hM1 := fun p4 c4 (h4 : pW p4 (y.natAbs / z.natAbs) c4) M0 I0 h => lU (X := X) (w0 := w0) (M0 := M0) (I0 := I0) (p := ¬ (y < 0 ↔ z < 0)) (k := k) (by omega) h4 hqb h
  have hM2 := fun p4 c4 (h4 : pW p4 (y.natAbs % z.natAbs) c4) M0 I0 h => lU (X := X) (w0 := w0) (M0 := M0) (I0 := I0) (p := z < 0) (k := m) (by omega) h4 hrb h
  rw [s1] at hM1
  rw [s2] at hM2
  exact aQZ hlz1 hA hG1 hG2 hO hCl hM1 hM2 (by simp) (by simp)
 ·have hA1 : ¬ (gr (y.natAbs % z.natAbs)).length = 0 := fun h => hA (.inl h)
  have hA2 : ¬ (y < 0 ↔ z < 0) := fun h => hA (.inr h)
  have hAr : y.natAbs % z.natAbs ≠ 0 := fun h => hA1 (hr0.2 h)
  obtain ⟨e1, e2⟩ := hfd.1 hA2 hAr
  have hab := Nat.div_add_mod y.natAbs z.natAbs
  have hbQ : y.natAbs / z.natAbs ≤ z.natAbs * (y.natAbs / z.natAbs) := Nat.le_mul_of_pos_left _ hz1
  have hQ1 : y.natAbs / z.natAbs + 1 ≤ 2 ^ k := by omega
  have hR1 : z.natAbs - y.natAbs % z.natAbs ≤ 2 ^ m := by omega
  have hlQ1 := eY hQ1
  have hlR1 := eY hR1
  have s1 : sg (¬ (y < 0 ↔ z < 0)) (y.natAbs / z.natAbs + 1) = y.fdiv z := by rw [e1]; unfold sg; rw [if_pos hA2]
  have s2 : sg (z < 0) (z.natAbs - y.natAbs % z.natAbs) = y.fmod z := by rw [e2]; rfl
  have hM1 := fun p4 c4 (h4 : pW p4 (y.natAbs / z.natAbs + 1) c4) M0 I0 h => lU (X := X) (w0 := w0) (M0 := M0) (I0 := I0) (p := ¬ (y < 0 ↔ z < 0)) (k := k) (by omega) h4 hQ1 h
  have hM2 := fun p4 c4 (h4 : pW p4 (z.natAbs - y.natAbs % z.natAbs) c4) M0 I0 h => lU (X := X) (w0 := w0) (M0 := M0) (I0 := I0) (p := z < 0) (k := m) (by omega) h4 hR1 h
  rw [s1] at hM1
  rw [s2] at hM2
  have hP := fun p1 c1 p2 M0 I0 => aLC (X := X) (w0 := w0) (M0 := M0) (I0 := I0) (p := p1) (q := p2) (m := y.natAbs / z.natAbs) (n := 1) (cp := c1) (cq := 1) (by omega) (by rw [hg1]; simp)
  simp only [hg1] at hP
  have hMi := fun p3 c3 M0 I0 => aBU (X := X) (w0 := w0) (M0 := M0) (I0 := I0) (p := q') (q := p3) (m := z.natAbs) (n := y.natAbs % z.natAbs) (cp := cq') (cq := c3) (by omega) (by omega)
  exact aRQ hlz1 hA1 hA2 hg1 hG1 hG2 hO hCl hP hMi hM1 hM2 (by simp) (by simp)
end
end Go.Proofs.YtjbhdfpjnjedhaaGreat
namespace Go.Proofs.YtjbhdfpjnjedhaaGreat
open Go Go.Fx
theorem aND {n : Nat} (h : 0 < n ∧ n ≤ 9223372036854775808) : IntKind.u64.wrap (0 - (-(n : Int) + 18446744073709551616)) = n := by
 simp [IntKind.wrap, IntKind.bits, IntKind.signed]; omega
section
variable {X : List Nat} {w0 : World} {M0 : List Ent} {I0 : List aY}
theorem aWG {n : Nat} (hx : 0 < n ∧ n ≤ 9223372036854775808) : CD Tryz.prog 183 [.int .i64 (-(n : Int))] X w0 M0 I0 (fun v M I => M0 = M ∧ I = iI v (-(n : Int)) 63 :: I0) := by
 have hn : n ≤ 2 ^ 63 := by omega
 have hlt : (-(n : Int)) < 0 := by omega
 have hMd := fun (q' : Option Addr) (c' : Nat) (hc' : pW q' n c') M0 I0 => lU (X := X) (w0 := w0) (M0 := M0) (I0 := I0) (p := (-(n : Int)) < 0) (q := q') (c := c') (k := 63) (by have := eY hn; omega) hc' hn
 have hs2 : sg ((-(n : Int)) < 0) n = -(n : Int) := by unfold sg; rw [if_pos hlt]
 rw [hs2] at hMd
 refine aZ Tryz.func183 rfl Tryz.ntmps183 rfl ?_
 refine aG ?_
 refine aJ ?_
 (refine aI rfl rfl ?_; intro b; refine ⟨okF, ?_⟩)
 repeat (refine aV ?_)
 refine aF rfl (fun _ => dC rfl (aGZ (by omega))) rfl rfl ?_
 repeat (refine aV ?_)
 refine aF rfl (fun _ => dX rfl (aND hx)) rfl rfl ?_
 repeat (refine aV ?_)
 (refine aA rfl (rV (n := n) (by omega)) rfl rfl ?_; rintro _ _ _ ⟨rfl, q', c', rfl, hc', rfl⟩; refine ⟨okF, ?_⟩)
 (refine aA rfl (hMd q' c' hc' _ _ aB) rfl rfl ?_; rintro _ _ _ ⟨rfl, rfl⟩; refine ⟨okF, ?_⟩; refine aW (List.Mem.head _) (fun q2 c2 e__ hc2 hz2 => ?_); subst e__)
 unfold iv
 repeat (refine aV ?_)
 refine bD (cs := [.bool (B (-(n : Int) < 0)), .slice q2 (gr (-(n : Int)).natAbs).length c2]) (.inl rfl) rfl rfl aB rfl _ _ aD aC ⟨rfl, rfl⟩
theorem aFJ {x : Int} (hx : -9223372036854775808 ≤ x ∧ x ≤ 9223372036854775807) : CD Tryz.prog 183 [.int .i64 x] X w0 M0 I0 (fun v M I => M0 = M ∧ I = iI v x 63 :: I0) := by
 by_cases h : x < 0
 ·obtain ⟨n, rfl⟩ : ∃ n : Nat, x = -(n : Int) := ⟨x.natAbs, by omega⟩
  exact aWG (by omega)
 ·exact Of_ok (by omega)
end
end Go.Proofs.YtjbhdfpjnjedhaaGreat

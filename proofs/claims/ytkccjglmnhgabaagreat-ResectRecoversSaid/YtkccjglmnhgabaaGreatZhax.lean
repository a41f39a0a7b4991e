/- The walk, kept once. resect: places as they came in; valid, canonical. Matrices in memory; made -/
import Derived.Test.YtkccjglmnhgabaaGreatZhaw
import Derived.Test.YtkccjglmnhgabaaGreatZhag
import Derived.Test.YtkccjglmnhgabaaGreatZhav
import Derived.Test.YtkccjglmnhgabaaGreatZhao
set_option linter.unusedSimpArgs false
set_option linter.unusedVariables false
set_option maxRecDepth 100000
set_option maxHeartbeats 4000000
namespace Go.Fx
theorem aJ {p g : Prop} (h : g) (w : BoxP g → p := by (intro hh; (first | refine aL ?_ | refine aM ?_ | refine jY ?_ | refine iK ?_ | refine fT ?_ | refine fJ ?_ | refine iJ ?_ | refine iD ?_ | refine fQ ?_ | refine fP ?_ | refine jR ?_ | refine jX ?_ | refine jV ?_ | refine jQ rfl ?_ | refine aI ?_ | (refine gQ ?_; first | refine gW rfl rfl rfl ?_ | (refine gN rfl rfl ?_; refine fG rfl rfl rfl okF ?_) | refine gT rfl rfl (by omega) ?_ | refine gU rfl rfl (by omega) ?_) | (refine cK ?_; refine aH rfl (fun _ => dL rfl) rfl rfl ?_) | refine aH rfl (fun _ => bL rfl) rfl rfl ?_ | (refine gK ?_; first | refine aH rfl (fun _ => bR rfl rfl wF) rfl rfl ?_ | refine aH rfl (fun _ => bQ rfl rfl wF) rfl rfl ?_ | refine aH rfl (fun _ => eU rfl rfl wF) rfl rfl ?_ | refine aH rfl (fun _ => eY rfl rfl (by omega) qF) rfl rfl ?_ | refine aH rfl (fun _ => eX rfl rfl (by omega) rfl) rfl rfl ?_ | refine aH rfl (fun _ => dV rfl rfl) rfl rfl ?_ | refine aH rfl (fun _ => dM rfl rfl) rfl rfl ?_ | refine aH rfl (fun _ => dY rfl rfl) rfl rfl ?_ | refine aH rfl (fun _ => pE rfl rfl) rfl rfl ?_ | refine aH rfl (fun _ => tO rfl rfl) rfl rfl ?_) | (refine cK ?_; first | refine aH rfl (fun _ => eF rfl wF) rfl rfl ?_) | (refine gY ?_; first | refine aH rfl (fun _ => dH rfl wF) rfl rfl ?_) | (refine gP ?_; first | refine aH rfl (fun _ => bS rfl) rfl rfl ?_ | refine aH rfl (fun _ => dS rfl rfl) rfl rfl ?_ | refine aH rfl (fun _ => dP rfl rfl) rfl rfl ?_ | refine aH rfl (fun _ => dW rfl rfl rfl) rfl rfl ?_) | (refine gV ?_; first | refine gM rfl (by decide) rfl rfl ?_ | refine jD rfl (by decide) rfl rfl ?_) | (refine gZ ?_; first | refine aH rfl (fun _ => dF rfl) rfl rfl ?_) | (refine gI ?_; first | refine jC rfl rfl iO rfl rfl ?_ | refine iZ iA rfl rfl iO aC jM rfl rfl ?_ | refine jG iA rfl rfl iO aC jM rfl rfl ?_ | refine aH rfl (fun _ => cB rfl rfl iO) rfl rfl ?_) | (refine gX ?_; first | (apply mU; exact iA; exact rfl; (focus ((repeat (first | with_reducible exact List.mem_cons_self | with_reducible assumption | with_reducible refine List.mem_cons_of_mem _ ?_)); done)); exact atY; exact rfl; exact rfl) | (apply kL; exact iA; exact rfl; (focus ((repeat (first | with_reducible exact List.mem_cons_self | with_reducible assumption | with_reducible refine List.mem_cons_of_mem _ ?_)); done)); exact atY; exact rfl; exact rfl) | (apply kZ; exact iA; exact rfl; (focus ((repeat (first | with_reducible exact List.mem_cons_self | with_reducible assumption | with_reducible refine List.mem_cons_of_mem _ ?_)); done)); exact atY; exact rfl; exact rfl) | (apply mE; exact iA; exact rfl; (focus ((repeat (first | with_reducible exact List.mem_cons_self | with_reducible assumption | with_reducible refine List.mem_cons_of_mem _ ?_)); done)); exact atY; exact rfl; exact rfl) | (apply jE; exact iA; exact rfl; (focus ((repeat (first | with_reducible exact List.mem_cons_self | with_reducible assumption | with_reducible refine List.mem_cons_of_mem _ ?_)); done)); exact oO; exact rfl; exact rfl) | (apply gJ; exact iA; exact rfl; (focus ((repeat (first | with_reducible exact List.mem_cons_self | with_reducible assumption | with_reducible refine List.mem_cons_of_mem _ ?_)); done)); exact oO; exact rfl; exact rfl) | (apply jB; exact iA; exact rfl; (focus ((repeat (first | with_reducible exact List.mem_cons_self | with_reducible assumption | with_reducible refine List.mem_cons_of_mem _ ?_)); done)); exact oO; exact rfl; exact rfl) | (apply jF; exact iA; exact rfl; (focus ((repeat (first | with_reducible exact List.mem_cons_self | with_reducible assumption | with_reducible refine List.mem_cons_of_mem _ ?_)); done)); exact oO; exact rfl; exact rfl)) | (refine gL ?_; first | refine aH rfl (fun _ => bZ rfl rfl) rfl rfl ?_ | refine aH rfl (fun _ => bP rfl) rfl rfl ?_) | (refine iX ?_; first | refine lK rfl rfl rfl lU stC rfl rfl ⟨okF, ?_⟩ | refine iT rfl rfl fU rH lU rM rfl rfl ⟨okF, ?_⟩) | (refine iH ?_; first | refine dE rfl ?_ | refine bY rfl ?_ | refine jS rfl (by omega) ?_ | refine lW rfl (by omega) ?_)); (repeat (first | refine aL ?_ | refine aM ?_ | refine jY ?_ | refine iK ?_ | refine fT ?_ | refine fJ ?_ | refine iJ ?_ | refine iD ?_ | refine fQ ?_ | refine fP ?_ | refine jR ?_ | refine jX ?_ | refine jV ?_ | refine jQ rfl ?_ | refine aI ?_ | (refine gQ ?_; first | refine gW rfl rfl rfl ?_ | (refine gN rfl rfl ?_; refine fG rfl rfl rfl okF ?_) | refine gT rfl rfl (by omega) ?_ | refine gU rfl rfl (by omega) ?_) | (refine cK ?_; refine aH rfl (fun _ => dL rfl) rfl rfl ?_) | refine aH rfl (fun _ => bL rfl) rfl rfl ?_ | (refine gK ?_; first | refine aH rfl (fun _ => bR rfl rfl wF) rfl rfl ?_ | refine aH rfl (fun _ => bQ rfl rfl wF) rfl rfl ?_ | refine aH rfl (fun _ => eU rfl rfl wF) rfl rfl ?_ | refine aH rfl (fun _ => eY rfl rfl (by omega) qF) rfl rfl ?_ | refine aH rfl (fun _ => eX rfl rfl (by omega) rfl) rfl rfl ?_ | refine aH rfl (fun _ => dV rfl rfl) rfl rfl ?_ | refine aH rfl (fun _ => dM rfl rfl) rfl rfl ?_ | refine aH rfl (fun _ => dY rfl rfl) rfl rfl ?_ | refine aH rfl (fun _ => pE rfl rfl) rfl rfl ?_ | refine aH rfl (fun _ => tO rfl rfl) rfl rfl ?_) | (refine cK ?_; first | refine aH rfl (fun _ => eF rfl wF) rfl rfl ?_) | (refine gY ?_; first | refine aH rfl (fun _ => dH rfl wF) rfl rfl ?_) | (refine gP ?_; first | refine aH rfl (fun _ => bS rfl) rfl rfl ?_ | refine aH rfl (fun _ => dS rfl rfl) rfl rfl ?_ | refine aH rfl (fun _ => dP rfl rfl) rfl rfl ?_ | refine aH rfl (fun _ => dW rfl rfl rfl) rfl rfl ?_) | (refine gV ?_; first | refine gM rfl (by decide) rfl rfl ?_ | refine jD rfl (by decide) rfl rfl ?_) | (refine gZ ?_; first | refine aH rfl (fun _ => dF rfl) rfl rfl ?_) | (refine gI ?_; first | refine jC rfl rfl iO rfl rfl ?_ | refine iZ iA rfl rfl iO aC jM rfl rfl ?_ | refine jG iA rfl rfl iO aC jM rfl rfl ?_ | refine aH rfl (fun _ => cB rfl rfl iO) rfl rfl ?_) | (refine gX ?_; first | (apply mU; exact iA; exact rfl; (focus ((repeat (first | with_reducible exact List.mem_cons_self | with_reducible assumption | with_reducible refine List.mem_cons_of_mem _ ?_)); done)); exact atY; exact rfl; exact rfl) | (apply kL; exact iA; exact rfl; (focus ((repeat (first | with_reducible exact List.mem_cons_self | with_reducible assumption | with_reducible refine List.mem_cons_of_mem _ ?_)); done)); exact atY; exact rfl; exact rfl) | (apply kZ; exact iA; exact rfl; (focus ((repeat (first | with_reducible exact List.mem_cons_self | with_reducible assumption | with_reducible refine List.mem_cons_of_mem _ ?_)); done)); exact atY; exact rfl; exact rfl) | (apply mE; exact iA; exact rfl; (focus ((repeat (first | with_reducible exact List.mem_cons_self | with_reducible assumption | with_reducible refine List.mem_cons_of_mem _ ?_)); done)); exact atY; exact rfl; exact rfl) | (apply jE; exact iA; exact rfl; (focus ((repeat (first | with_reducible exact List.mem_cons_self | with_reducible assumption | with_reducible refine List.mem_cons_of_mem _ ?_)); done)); exact oO; exact rfl; exact rfl) | (apply gJ; exact iA; exact rfl; (focus ((repeat (first | with_reducible exact List.mem_cons_self | with_reducible assumption | with_reducible refine List.mem_cons_of_mem _ ?_)); done)); exact oO; exact rfl; exact rfl) | (apply jB; exact iA; exact rfl; (focus ((repeat (first | with_reducible exact List.mem_cons_self | with_reducible assumption | with_reducible refine List.mem_cons_of_mem _ ?_)); done)); exact oO; exact rfl; exact rfl) | (apply jF; exact iA; exact rfl; (focus ((repeat (first | with_reducible exact List.mem_cons_self | with_reducible assumption | with_reducible refine List.mem_cons_of_mem _ ?_)); done)); exact oO; exact rfl; exact rfl)) | (refine gL ?_; first | refine aH rfl (fun _ => bZ rfl rfl) rfl rfl ?_ | refine aH rfl (fun _ => bP rfl) rfl rfl ?_) | (refine iX ?_; first | refine lK rfl rfl rfl lU stC rfl rfl ⟨okF, ?_⟩ | refine iT rfl rfl fU rH lU rM rfl rfl ⟨okF, ?_⟩) | (refine iH ?_; first | refine dE rfl ?_ | refine bY rfl ?_ | refine jS rfl (by omega) ?_ | refine lW rfl (by omega) ?_))); exact hh.out)) : p := w ⟨h⟩
theorem yXh {p g : Prop} (h : g) (w : BoxP g → p := by (intro hh; (first | refine aL ?_ | refine aM ?_ | refine jY ?_ | refine iK ?_ | refine fT ?_ | refine fJ ?_ | refine iJ ?_ | refine iD ?_ | refine fQ ?_ | refine fP ?_ | refine jR ?_ | refine jX ?_ | refine jV ?_ | refine jQ rfl ?_ | refine aI ?_ | (refine gQ ?_; first | refine gW rfl rfl rfl ?_ | (refine gN rfl rfl ?_; refine fG rfl rfl rfl okF ?_) | refine gT rfl rfl (by omega) ?_ | refine gU rfl rfl (by omega) ?_) | (refine cK ?_; refine aH rfl (fun _ => dL rfl) rfl rfl ?_) | refine aH rfl (fun _ => bL rfl) rfl rfl ?_ | (refine gK ?_; first | refine aH rfl (fun _ => bR rfl rfl wF) rfl rfl ?_ | refine aH rfl (fun _ => bQ rfl rfl wF) rfl rfl ?_ | refine aH rfl (fun _ => eU rfl rfl wF) rfl rfl ?_ | refine aH rfl (fun _ => eY rfl rfl (by omega) qF) rfl rfl ?_ | refine aH rfl (fun _ => eX rfl rfl (by omega) rfl) rfl rfl ?_ | refine aH rfl (fun _ => dV rfl rfl) rfl rfl ?_ | refine aH rfl (fun _ => dM rfl rfl) rfl rfl ?_ | refine aH rfl (fun _ => dY rfl rfl) rfl rfl ?_ | refine aH rfl (fun _ => pE rfl rfl) rfl rfl ?_ | refine aH rfl (fun _ => tO rfl rfl) rfl rfl ?_) | (refine cK ?_; first | refine aH rfl (fun _ => eF rfl wF) rfl rfl ?_) | (refine gY ?_; first | refine aH rfl (fun _ => dH rfl wF) rfl rfl ?_) | (refine gP ?_; first | refine aH rfl (fun _ => bS rfl) rfl rfl ?_ | refine aH rfl (fun _ => dS rfl rfl) rfl rfl ?_ | refine aH rfl (fun _ => dP rfl rfl) rfl rfl ?_ | refine aH rfl (fun _ => dW rfl rfl rfl) rfl rfl ?_) | (refine gV ?_; first | refine gM rfl (by decide) rfl rfl ?_ | refine jD rfl (by decide) rfl rfl ?_) | (refine gZ ?_; first | refine aH rfl (fun _ => dF rfl) rfl rfl ?_) | (refine gI ?_; first | refine jC rfl rfl iO rfl rfl ?_ | refine iZ iA rfl rfl iO aC jM rfl rfl ?_ | refine jG iA rfl rfl iO aC jM rfl rfl ?_ | refine aH rfl (fun _ => cB rfl rfl iO) rfl rfl ?_) | (refine gX ?_; first | (apply mU; exact iA; exact rfl; (focus ((repeat (first | with_reducible exact List.mem_cons_self | with_reducible assumption | with_reducible refine List.mem_cons_of_mem _ ?_)); done)); exact atY; exact rfl; exact rfl) | (apply kL; exact iA; exact rfl; (focus ((repeat (first | with_reducible exact List.mem_cons_self | with_reducible assumption | with_reducible refine List.mem_cons_of_mem _ ?_)); done)); exact atY; exact rfl; exact rfl) | (apply kZ; exact iA; exact rfl; (focus ((repeat (first | with_reducible exact List.mem_cons_self | with_reducible assumption | with_reducible refine List.mem_cons_of_mem _ ?_)); done)); exact atY; exact rfl; exact rfl) | (apply mE; exact iA; exact rfl; (focus ((repeat (first | with_reducible exact List.mem_cons_self | with_reducible assumption | with_reducible refine List.mem_cons_of_mem _ ?_)); done)); exact atY; exact rfl; exact rfl) | (apply jE; exact iA; exact rfl; (focus ((repeat (first | with_reducible exact List.mem_cons_self | with_reducible assumption | with_reducible refine List.mem_cons_of_mem _ ?_)); done)); exact oO; exact rfl; exact rfl) | (apply gJ; exact iA; exact rfl; (focus ((repeat (first | with_reducible exact List.mem_cons_self | with_reducible assumption | with_reducible refine List.mem_cons_of_mem _ ?_)); done)); exact oO; exact rfl; exact rfl) | (apply jB; exact iA; exact rfl; (focus ((repeat (first | with_reducible exact List.mem_cons_self | with_reducible assumption | with_reducible refine List.mem_cons_of_mem _ ?_)); done)); exact oO; exact rfl; exact rfl) | (apply jF; exact iA; exact rfl; (focus ((repeat (first | with_reducible exact List.mem_cons_self | with_reducible assumption | with_reducible refine List.mem_cons_of_mem _ ?_)); done)); exact oO; exact rfl; exact rfl)) | (refine gL ?_; first | refine aH rfl (fun _ => bZ rfl rfl) rfl rfl ?_ | refine aH rfl (fun _ => bP rfl) rfl rfl ?_) | (refine iH ?_; first | refine dE rfl ?_ | refine bY rfl ?_ | refine jS rfl (by omega) ?_ | refine lW rfl (by omega) ?_)); (repeat (first | refine aL ?_ | refine aM ?_ | refine jY ?_ | refine iK ?_ | refine fT ?_ | refine fJ ?_ | refine iJ ?_ | refine iD ?_ | refine fQ ?_ | refine fP ?_ | refine jR ?_ | refine jX ?_ | refine jV ?_ | refine jQ rfl ?_ | refine aI ?_ | (refine gQ ?_; first | refine gW rfl rfl rfl ?_ | (refine gN rfl rfl ?_; refine fG rfl rfl rfl okF ?_) | refine gT rfl rfl (by omega) ?_ | refine gU rfl rfl (by omega) ?_) | (refine cK ?_; refine aH rfl (fun _ => dL rfl) rfl rfl ?_) | refine aH rfl (fun _ => bL rfl) rfl rfl ?_ | (refine gK ?_; first | refine aH rfl (fun _ => bR rfl rfl wF) rfl rfl ?_ | refine aH rfl (fun _ => bQ rfl rfl wF) rfl rfl ?_ | refine aH rfl (fun _ => eU rfl rfl wF) rfl rfl ?_ | refine aH rfl (fun _ => eY rfl rfl (by omega) qF) rfl rfl ?_ | refine aH rfl (fun _ => eX rfl rfl (by omega) rfl) rfl rfl ?_ | refine aH rfl (fun _ => dV rfl rfl) rfl rfl ?_ | refine aH rfl (fun _ => dM rfl rfl) rfl rfl ?_ | refine aH rfl (fun _ => dY rfl rfl) rfl rfl ?_ | refine aH rfl (fun _ => pE rfl rfl) rfl rfl ?_ | refine aH rfl (fun _ => tO rfl rfl) rfl rfl ?_) | (refine cK ?_; first | refine aH rfl (fun _ => eF rfl wF) rfl rfl ?_) | (refine gY ?_; first | refine aH rfl (fun _ => dH rfl wF) rfl rfl ?_) | (refine gP ?_; first | refine aH rfl (fun _ => bS rfl) rfl rfl ?_ | refine aH rfl (fun _ => dS rfl rfl) rfl rfl ?_ | refine aH rfl (fun _ => dP rfl rfl) rfl rfl ?_ | refine aH rfl (fun _ => dW rfl rfl rfl) rfl rfl ?_) | (refine gV ?_; first | refine gM rfl (by decide) rfl rfl ?_ | refine jD rfl (by decide) rfl rfl ?_) | (refine gZ ?_; first | refine aH rfl (fun _ => dF rfl) rfl rfl ?_) | (refine gI ?_; first | refine jC rfl rfl iO rfl rfl ?_ | refine iZ iA rfl rfl iO aC jM rfl rfl ?_ | refine jG iA rfl rfl iO aC jM rfl rfl ?_ | refine aH rfl (fun _ => cB rfl rfl iO) rfl rfl ?_) | (refine gX ?_; first | (apply mU; exact iA; exact rfl; (focus ((repeat (first | with_reducible exact List.mem_cons_self | with_reducible assumption | with_reducible refine List.mem_cons_of_mem _ ?_)); done)); exact atY; exact rfl; exact rfl) | (apply kL; exact iA; exact rfl; (focus ((repeat (first | with_reducible exact List.mem_cons_self | with_reducible assumption | with_reducible refine List.mem_cons_of_mem _ ?_)); done)); exact atY; exact rfl; exact rfl) | (apply kZ; exact iA; exact rfl; (focus ((repeat (first | with_reducible exact List.mem_cons_self | with_reducible assumption | with_reducible refine List.mem_cons_of_mem _ ?_)); done)); exact atY; exact rfl; exact rfl) | (apply mE; exact iA; exact rfl; (focus ((repeat (first | with_reducible exact List.mem_cons_self | with_reducible assumption | with_reducible refine List.mem_cons_of_mem _ ?_)); done)); exact atY; exact rfl; exact rfl) | (apply jE; exact iA; exact rfl; (focus ((repeat (first | with_reducible exact List.mem_cons_self | with_reducible assumption | with_reducible refine List.mem_cons_of_mem _ ?_)); done)); exact oO; exact rfl; exact rfl) | (apply gJ; exact iA; exact rfl; (focus ((repeat (first | with_reducible exact List.mem_cons_self | with_reducible assumption | with_reducible refine List.mem_cons_of_mem _ ?_)); done)); exact oO; exact rfl; exact rfl) | (apply jB; exact iA; exact rfl; (focus ((repeat (first | with_reducible exact List.mem_cons_self | with_reducible assumption | with_reducible refine List.mem_cons_of_mem _ ?_)); done)); exact oO; exact rfl; exact rfl) | (apply jF; exact iA; exact rfl; (focus ((repeat (first | with_reducible exact List.mem_cons_self | with_reducible assumption | with_reducible refine List.mem_cons_of_mem _ ?_)); done)); exact oO; exact rfl; exact rfl)) | (refine gL ?_; first | refine aH rfl (fun _ => bZ rfl rfl) rfl rfl ?_ | refine aH rfl (fun _ => bP rfl) rfl rfl ?_) | (refine iH ?_; first | refine dE rfl ?_ | refine bY rfl ?_ | refine jS rfl (by omega) ?_ | refine lW rfl (by omega) ?_))); exact hh.out)) : p := w ⟨h⟩
end Go.Fx
namespace Go.Proofs.YtkccjglmnhgabaaGreat
open Go Go.Fx
structure PW where
 x : RW
 y : RW
instance : Inhabited PW := ⟨⟨default, default⟩⟩
abbrev ePW (p : PW) : List Value := [.bool p.x.n1, .slice p.x.p1 p.x.g1.length p.x.c1, .bool p.x.n2, .slice p.x.p2 p.x.g2.length p.x.c2, .bool p.y.n1, .slice p.y.p1 p.y.g1.length p.y.c1, .bool p.y.n2, .slice p.y.p2 p.y.g2.length p.y.c2]
abbrev pvW (p : PW) : Value := .agg #[.bool p.x.n1, .slice p.x.p1 p.x.g1.length p.x.c1, .bool p.x.n2, .slice p.x.p2 p.x.g2.length p.x.c2, .bool p.y.n1, .slice p.y.p1 p.y.g1.length p.y.c1, .bool p.y.n2, .slice p.y.p2 p.y.g2.length p.y.c2]
instance : Sized ePW 8 := ⟨fun _ => rfl⟩
instance : Ones ePW := ⟨fun m u hu => by
 simp only [ePW, List.mem_cons, List.not_mem_nil, or_false] at hu
 rcases hu with rfl | rfl | rfl | rfl | rfl | rfl | rfl | rfl <;> rfl⟩
def PE.raw (p : PE) : PW := ⟨p.x.raw, p.y.raw⟩
def RW.small (r : RW) : Prop := r.g1.length ≤ 1000000000 ∧ r.g2.length ≤ 1000000000
def PW.small (p : PW) : Prop := p.x.small ∧ p.y.small
def PW.good (p : PW) : Prop := p.x.good ∧ p.y.good
instance PW.decG (p : PW) : Decidable p.good := by unfold PW.good; exact inferInstance
theorem PE.raw_good (p : PE) : p.raw.good := ⟨p.x.raw_good, p.y.raw_good⟩
structure IsPW (p : PW) (X : List Nat) (w : World) : Prop where
 x : IsW p.x X w
 y : IsW p.y X w
abbrev aDJ (p : PW) : aZ := IsPW p
instance (p : PW) : Fx.Good (IsPW p) := ⟨fun X Y w w' h he hY => ⟨Fx.Good.go (φ := IsW _) X Y w w' h.x he hY, Fx.Good.go (φ := IsW _) X Y w w' h.y he hY⟩⟩
structure AllW (rs : List RW) (X : List Nat) (w : World) : Prop where
 go : ∀ r ∈ rs, IsW r X w
abbrev aCY (rs : List RW) : aZ := AllW rs
instance (rs : List RW) : Fx.Good (AllW rs) := ⟨fun X Y w w' h he hY => ⟨fun r hm => Fx.Good.go (φ := IsW _) X Y w w' (h.go r hm) he hY⟩⟩
structure AllPW (ps : List PW) (X : List Nat) (w : World) : Prop where
 go : ∀ p ∈ ps, IsPW p X w
abbrev sN (ps : List PW) : aZ := AllPW ps
instance (ps : List PW) : Fx.Good (AllPW ps) := ⟨fun X Y w w' h he hY => ⟨fun r hm => Fx.Good.go (φ := IsPW _) X Y w w' (h.go r hm) he hY⟩⟩
theorem Hv.wAt {I : List aZ} {rs : List RW} {i : Int} (h : Hv I (aCY rs)) (hi : 0 ≤ i ∧ i < rs.length) : Hv I (isW (gt rs i)) := ⟨fun X w hw => (h.go X w hw).go _ (dX hi)⟩
theorem Hv.pwAt {I : List aZ} {ps : List PW} {i : Int} (h : Hv I (sN ps)) (hi : 0 ≤ i ∧ i < ps.length) : Hv I (aDJ (gt ps i)) := ⟨fun X w hw => (h.go X w hw).go _ (dX hi)⟩
theorem Hv.pwx {I : List aZ} {p : PW} (h : Hv I (aDJ p)) : Hv I (isW p.x) := ⟨fun X w hw => (h.go X w hw).x⟩
theorem Hv.pwy {I : List aZ} {p : PW} (h : Hv I (aDJ p)) : Hv I (isW p.y) := ⟨fun X w hw => (h.go X w hw).y⟩
theorem Hv.toPW {I : List aZ} {p : PE} {k : Nat} (h : Hv I (cZ p k)) (hk : k ≤ 1000000000000) : Hv I (aDJ p.raw) := ⟨fun X w hw => ⟨RE.fit hk (h.go X w hw).x, RE.fit hk (h.go X w hw).y⟩⟩
theorem Hv.pw3 {I : List aZ} {a b c : PW} (h1 : Hv I (aDJ a)) (h2 : Hv I (aDJ b)) (h3 : Hv I (aDJ c)) : Hv I (sN [a, b, c]) := ⟨fun X w hw => ⟨fun p hp => by
 simp only [List.mem_cons, List.not_mem_nil, or_false] at hp
 rcases hp with rfl | rfl | rfl
 ·exact h1.go X w hw
 ·exact h2.go X w hw
 ·exact h3.go X w hw⟩⟩
theorem Hv.w3 {I : List aZ} {a b c : RW} (h1 : Hv I (isW a)) (h2 : Hv I (isW b)) (h3 : Hv I (isW c)) : Hv I (aCY [a, b, c]) := ⟨fun X w hw => ⟨fun p hp => by
 simp only [List.mem_cons, List.not_mem_nil, or_false] at hp
 rcases hp with rfl | rfl | rfl
 ·exact h1.go X w hw
 ·exact h2.go X w hw
 ·exact h3.go X w hw⟩⟩
theorem Mem.pureR {X : List Nat} {w0 w : World} {M : List Ent} {I : List aZ} {e : RE} {k : Nat} (h : Hv I (bM e k)) (hk : k ≤ 20000000000) (hw : Mem X w0 M I w) : e.raw.small := by
 have hr : IsR e k (muts M) w := h.go _ _ (fun ψ hm => (hw.imm ψ hm).2)
 have a := dZ (IsI.le hr.num)
 have b := dZ (IsI.le hr.den)
 constructor
 ·show (gr e.q.num.natAbs).length ≤ _; omega
 ·show (gr (e.q.den : Int).natAbs).length ≤ _; omega
theorem Mem.pureP {X : List Nat} {w0 w : World} {M : List Ent} {I : List aZ} {p : PE} {k : Nat} (h : Hv I (cZ p k)) (hk : k ≤ 20000000000) (hw : Mem X w0 M I w) : p.raw.small := ⟨Mem.pureR h.pxH hk hw, Mem.pureR h.pyH hk hw⟩
theorem aBY {P : Program} {f : FuncId} {vs : List Value} {X : List Nat} {w0 : World} {M : List Ent} {I : List aZ} {K : Value → List Ent → List aZ → Prop} {φ : Prop} (h : ∀ w, Mem X w0 M I w → φ) (k : φ → CD P f vs X w0 M I K) : CD P f vs X w0 M I K := ⟨fun w hw => (k (h w hw)).go w hw⟩
theorem zC {α : Type} [Inhabited α] {p : α → Prop} {l : List α} (h : ∀ j : Nat, j < l.length → p (gt l (j : Int))) : ∀ a ∈ l, p a := fun a ha => by
 obtain ⟨j, hj, rfl⟩ := List.mem_iff_getElem.1 ha
 have := h j hj
 rwa [lI hj] at this
section
variable {X : List Nat} {w0 : World} {M0 : List Ent} {I0 : List aZ}
theorem wC {q : Option Addr} {c m : Nat} {ps : List PW} (hm : m = ps.length) (hn : ps.length ≤ 1000000000) (hs : ∀ p ∈ ps, p.small) (hq : bI q (recs ePW ps) ∈ I0) (ha : Hv I0 (sN ps)) :
  CD Tryz.prog 49 [.slice q m c] X w0 M0 I0 (fun v M I => M0 = M ∧ I0 = I ∧ v = .bool (B (∀ p ∈ ps, p.good))) := by
 subst hm
 refine cO Tryz.func49 rfl Tryz.ntmps49 rfl ?_
 repeat (refine aJ ?_)
 refine bG [5, 6] rfl (fun k G M I => ∃ i : Nat, i ≤ ps.length ∧ k = ps.length - i ∧ (∀ j : Nat, j < i → (gt ps (j : Int)).good) ∧ G = [(7, .int .i64 i)] ∧ M0 = M ∧ I0 = I) (ps.length) _ _ _ aO aD aF (⟨0, by omega, rfl, fun j hj => by omega, rfl, rfl, rfl⟩) ?_
 rintro k G M I ⟨i, hi, rfl, hg, rfl, rfl, rfl⟩
 by_cases hin : i < ps.length
 ·have hsi := hs _ (dX (ms := ps) (i := (i : Int)) (by omega))
  have hai : Hv I0 (aDJ (gt ps (i : Int))) := ha.pwAt (by omega)
  have hV1 := fun M0 => pR (X := X) (w0 := w0) (M0 := M0) (I0 := I0) (r := (gt ps (i : Int)).x) hsi.1 hai.pwx
  have hV2 := fun M0 => pR (X := X) (w0 := w0) (M0 := M0) (I0 := I0) (r := (gt ps (i : Int)).y) hsi.2 hai.pwy
  repeat (refine aJ ?_)
  (refine aB rfl rfl ?_; intro b; refine ⟨okF, ?_⟩)
  repeat (refine aJ ?_)
  (refine aA rfl (hV1 _) rfl rfl ?_; rintro _ _ _ ⟨rfl, rfl, rfl⟩; refine ⟨okF, ?_⟩)
  repeat' (first | refine aJ ?_ | refine aU rfl (fun h => ?_) (fun h => ?_) | refine aT rfl rfl (fun h => ?_) (fun h => ?_) | fail)
  ·have hb : ¬ (gt ps (i : Int)).x.good := by assumption
   refine aQ (by first | exact .inl rfl | exact .inr rfl) rfl rfl _ _ aD aF (⟨rfl, rfl, congrArg Value.bool (bN (fun e => hb (e _ (dX (by omega))).1)).symm⟩)
  ·(refine aA rfl (hV2 _) rfl rfl ?_; rintro _ _ _ ⟨rfl, rfl, rfl⟩; refine ⟨okF, ?_⟩)
   repeat' (first | refine aJ ?_ | refine aU rfl (fun h => ?_) (fun h => ?_) | refine aT rfl rfl (fun h => ?_) (fun h => ?_) | fail)
   ·have hb : ¬ (gt ps (i : Int)).y.good := by assumption
    refine aQ (by first | exact .inl rfl | exact .inr rfl) rfl rfl _ _ aD aF (⟨rfl, rfl, congrArg Value.bool (bN (fun e => hb (e _ (dX (by omega))).2)).symm⟩)
   ·have h1 : ¬ ¬ (gt ps (i : Int)).x.good := by assumption
    have h2 : ¬ ¬ (gt ps (i : Int)).y.good := by assumption
    refine aS (ps.length - (i + 1)) _ _ _ (by first | omega | (simp only [List.length_append, List.length_cons, List.length_nil]; omega)) aO aD aF (⟨i + 1, by omega, rfl, fun j hj => ?_, rfl, rfl, rfl⟩)
    by_cases e : j = i
    ·subst e; exact ⟨Decidable.not_not.1 h1, Decidable.not_not.1 h2⟩
    ·exact hg j (by omega)
 ·repeat (refine aJ ?_)
  refine aQ (by first | exact .inl rfl | exact .inr rfl) rfl rfl _ _ aD aF (⟨rfl, rfl, congrArg Value.bool (dG (zC (fun j hj => hg j (by omega)))).symm⟩)
theorem qZ {q : Option Addr} {c m : Nat} {ps : List RW} (hm : m = ps.length) (hn : ps.length ≤ 1000000000) (hs : ∀ p ∈ ps, p.small) (hq : bI q (recs eW ps) ∈ I0) (ha : Hv I0 (aCY ps)) :
  CD Tryz.prog 50 [.slice q m c] X w0 M0 I0 (fun v M I => M0 = M ∧ I0 = I ∧ v = .bool (B (∀ p ∈ ps, p.good))) := by
 subst hm
 refine cO Tryz.func50 rfl Tryz.ntmps50 rfl ?_
 repeat (refine aJ ?_)
 refine bG [5, 6] rfl (fun k G M I => ∃ i : Nat, i ≤ ps.length ∧ k = ps.length - i ∧ (∀ j : Nat, j < i → (gt ps (j : Int)).good) ∧ G = [(7, .int .i64 i)] ∧ M0 = M ∧ I0 = I) (ps.length) _ _ _ aO aD aF (⟨0, by omega, rfl, fun j hj => by omega, rfl, rfl, rfl⟩) ?_
 rintro k G M I ⟨i, hi, rfl, hg, rfl, rfl, rfl⟩
 by_cases hin : i < ps.length
 ·have hsi := hs _ (dX (ms := ps) (i := (i : Int)) (by omega))
  have hai : Hv I0 (isW (gt ps (i : Int))) := ha.wAt (by omega)
  have hV1 := fun M0 => pR (X := X) (w0 := w0) (M0 := M0) (I0 := I0) (r := gt ps (i : Int)) hsi hai
  repeat (refine aJ ?_)
  (refine aB rfl rfl ?_; intro b; refine ⟨okF, ?_⟩)
  repeat (refine aJ ?_)
  (refine aA rfl (hV1 _) rfl rfl ?_; rintro _ _ _ ⟨rfl, rfl, rfl⟩; refine ⟨okF, ?_⟩)
  repeat' (first | refine aJ ?_ | refine aU rfl (fun h => ?_) (fun h => ?_) | refine aT rfl rfl (fun h => ?_) (fun h => ?_) | fail)
  ·have hb : ¬ (gt ps (i : Int)).good := by assumption
   refine aQ (by first | exact .inl rfl | exact .inr rfl) rfl rfl _ _ aD aF (⟨rfl, rfl, congrArg Value.bool (bN (fun e => hb (e _ (dX (by omega))))).symm⟩)
  ·have h1 : ¬ ¬ (gt ps (i : Int)).good := by assumption
   refine aS (ps.length - (i + 1)) _ _ _ (by first | omega | (simp only [List.length_append, List.length_cons, List.length_nil]; omega)) aO aD aF (⟨i + 1, by omega, rfl, fun j hj => ?_, rfl, rfl, rfl⟩)
   by_cases e : j = i
   ·subst e; exact Decidable.not_not.1 h1
   ·exact hg j (by omega)
 ·repeat (refine aJ ?_)
  refine aQ (by first | exact .inl rfl | exact .inr rfl) rfl rfl _ _ aD aF (⟨rfl, rfl, congrArg Value.bool (dG (zC (fun j hj => hg j (by omega)))).symm⟩)
end
end Go.Proofs.YtkccjglmnhgabaaGreat
namespace Go.Proofs.YtkccjglmnhgabaaGreat
open Go Go.Fx
structure C4 where
 a : Value
 b : Value
 c : Value
 d : Value
abbrev e4 (x : C4) : List Value := [x.a, x.b, x.c, x.d]
instance : Inhabited C4 := ⟨⟨.bool false, .slice none 0 0, .bool false, .slice none 0 0⟩⟩
instance : Sized e4 4 := ⟨fun _ => rfl⟩
abbrev z4 : C4 := ⟨.bool false, .slice none 0 0, .bool false, .slice none 0 0⟩
abbrev t4 (e : RE) : C4 := ⟨.bool (B (e.q.num < 0)), .slice e.p1 (gr e.q.num.natAbs).length e.c1, .bool (B ((e.q.den : Int) < 0)), .slice e.p2 (gr (e.q.den : Int).natAbs).length e.c2⟩
theorem aGT (es : List RE) : recs e4 (es.map t4) = recs eR es := by
 induction es with
 | nil => rfl
 | cons x r ih =>
  have h1 : recs e4 ((x :: r).map t4) = e4 (t4 x) ++ recs e4 (r.map t4) := rfl
  have h2 : recs eR (x :: r) = eR x ++ recs eR r := rfl
  rw [h1, h2, ih]
structure HD where
 p : Option Addr
 n : Nat
 c : Nat
instance : Inhabited HD := ⟨⟨none, 0, 0⟩⟩
abbrev eH (h : HD) : List Value := [.slice h.p h.n h.c]
instance : Sized eH 1 := ⟨fun _ => rfl⟩
structure MR where
 b : Nat
 es : List RE
instance : Inhabited MR := ⟨⟨0, []⟩⟩
abbrev hdM (r : MR) : HD := ⟨some ⟨r.b, 0, none⟩, r.es.length, r.es.length⟩
abbrev eM (r : MR) : List Value := [.slice (some ⟨r.b, 0, none⟩) r.es.length r.es.length]
instance : Sized eM 1 := ⟨fun _ => rfl⟩
abbrev gG (r : MR) : Ent := .blk r.b (recs eR r.es) 37
theorem aLX (rows : List MR) : recs eH (rows.map hdM) = recs eM rows := by
 induction rows with
 | nil => rfl
 | cons x r ih =>
  have h1 : recs eH ((x :: r).map hdM) = eH (hdM x) ++ recs eH (r.map hdM) := rfl
  have h2 : recs eM (x :: r) = eM x ++ recs eM r := rfl
  rw [h1, h2, ih]
structure AllM (rows : List MR) (k : Nat) (X : List Nat) (w : World) : Prop where
 go : ∀ r ∈ rows, ∀ e ∈ r.es, IsR e k X w
abbrev allM (rows : List MR) (k : Nat) : aZ := AllM rows k
instance (rows : List MR) (k : Nat) : Fx.Good (AllM rows k) := ⟨fun X Y w w' h he hY => ⟨fun r hr e hm => Fx.Good.go (φ := IsR _ _) X Y w w' (h.go r hr e hm) he hY⟩⟩
theorem Hv.snoc {I : List aZ} {es : List RE} {e : RE} {k : Nat} (h1 : fE es k ∈ I) (h2 : bM e k ∈ I) : Hv I (fE (es ++ [e]) k) := ⟨fun X w hw => ⟨fun x hx => by
 rcases List.mem_append.1 hx with hx | hx
 ·exact (hw _ h1 : AllR es k X w).go x hx
 ·rw [List.mem_singleton.1 hx]; exact hw _ h2⟩⟩
theorem Hv.nilR {I : List aZ} {k : Nat} : Hv I (fE [] k) := ⟨fun X w _ => ⟨fun x hx => by simp at hx⟩⟩
theorem Hv.nilM {I : List aZ} {k : Nat} : Hv I (allM [] k) := ⟨fun X w _ => ⟨fun x hx => by simp at hx⟩⟩
theorem Hv.snocM {I : List aZ} {rows : List MR} {r : MR} {k : Nat} (h1 : allM rows k ∈ I) (h2 : fE r.es k ∈ I) : Hv I (allM (rows ++ [r]) k) := ⟨fun X w hw => ⟨fun x hx => by
 rcases List.mem_append.1 hx with hx | hx
 ·exact (hw _ h1 : AllM rows k X w).go x hx
 ·rw [List.mem_singleton.1 hx]; exact (hw _ h2 : AllR r.es k X w).go⟩⟩
theorem aJH {α : Type} [Inhabited α] {A B : List α} {x : α} {i : Int} (h : i = A.length) : gt (A ++ x :: B) i = x := by
 subst h
 rw [lI (by simp)]
 simp
theorem yH {α : Type} {A B : List α} {x y : α} {i : Int} (h : i = A.length) : st (A ++ x :: B) i y = A ++ y :: B := by
 subst h
 simp [st]
theorem wS {α : Type} {n : Nat} {z : α} (h : 0 < n) : List.replicate n z = z :: List.replicate (n - 1) z := by
 obtain ⟨m, rfl⟩ : ∃ m, n = m + 1 := ⟨n - 1, by omega⟩
 rfl
theorem pX {α : Type} {enc : α → List Value} {sz : Nat} [h : Sized enc sz] (hsz : 0 < sz) (zz : α) (mm : Nat) : (madeCells (enc zz).toArray (mm * sz)).toList = recs enc (List.replicate mm zz) := by
 have hl : (enc zz).length = sz := h.len zz
 apply List.ext_getElem
 ·rw [Array.length_toList, size_madeCells, jN, List.length_replicate]
 ·intro i h1 h2
  rw [Array.length_toList, size_madeCells] at h1
  have hq : i / sz < mm := by rw [Nat.div_lt_iff_lt_mul hsz]; exact h1
  have hr : i % sz < sz := Nat.mod_lt _ hsz
  have hv : (enc zz)[i % sz]? = some ((enc zz)[i % sz]'(by omega)) := List.getElem?_eq_getElem (by omega)
  have := vT (enc := enc) (List.replicate mm zz) (i / sz) (i % sz) zz _ (by rw [List.getElem?_replicate, if_pos hq]) hv
  rw [Nat.div_add_mod'] at this
  have h3 := (List.getElem?_eq_some_iff.1 this).2
  rw [h3]
  simp [madeCells, hl, hr]
def MkP (R C : Nat) (F : Nat → Nat → Rat) (k : Nat) (M0 : List Ent) (I0 : List aZ) (v : Value) (M : List Ent) (I : List aZ) : Prop :=
 ∃ (bo : Nat) (rows : List MR), v = .slice (some ⟨bo, 0, none⟩) R R ∧ rows.length = R ∧ (∀ r ∈ rows, r.es.length = C) ∧ (rows.map (fun r => r.es.map (·.q)) = (List.range R).map (fun i => (List.range C).map (F i))) ∧
  M = .blk bo (recs eM rows) 39 :: (rows.map gG ++ M0) ∧ I = allM rows k :: I0
section
variable {P : Program} {n : Nat} {Q : Exit → Act → World → Prop} {G : Env} {X : List Nat} {w0 : World} {M M' : List Ent} {I : List aZ}
theorem aBZ {ex : Exit} (h : M.Perm M') (k : ND n Q ex G X w0 M' I) : ND n Q ex G X w0 M I := yX (fun _ hw => hw.perm h) k
theorem tN {c : Code} (h : M.Perm M') (k : TD P n c Q G X w0 M' I) : TD P n c Q G X w0 M I := yO (fun _ hw => hw.perm h) k
theorem aGL {ops l : List Oper} {m : Fx.Mode} (h : M.Perm M') (k : RD P n ops Q m l G X w0 M' I) : RD P n ops Q m l G X w0 M I := pM (fun _ hw => hw.perm h) k
theorem aJC {x o : Ent} {A B : List Ent} : (x :: o :: (A ++ B)).Perm (o :: ((A ++ [x]) ++ B)) := by
 refine (List.Perm.swap _ _ _).trans (List.Perm.cons _ ?_)
 rw [List.append_assoc]
 exact List.perm_middle.symm
end
section
variable {X : List Nat} {w0 : World} {M0 : List Ent} {I0 : List aZ}
theorem aLS {g : FuncId} [FnOk Tryz.prog g] {fs cs : Array Value} {R C k0 : Nat} (hR : R ≤ 100) (hC : C ≤ 200) (F : Nat → Nat → Rat)
  (hg : ∀ M I, (∀ φ ∈ I0, φ ∈ I) → ∀ i j : Nat, i < R → j < C → CD Tryz.prog g (fs.toList ++ [.int .i64 (i : Int), .int .i64 (j : Int)] ++ cs.toList) X w0 M I (RQ (F i j) k0 M I)) :
  CD Tryz.prog 185 [.int .i64 (R : Int), .int .i64 (C : Int), .func (.func g) fs cs] X w0 M0 I0 (MkP R C F k0 M0 I0) := by
 refine oL Tryz.func185 rfl Tryz.ntmps185 rfl ?_
 repeat (refine aV ?_)
 (refine jU (R) rfl rfl (by omega) (by omega) (by omega) (by omega) (pX (enc := eH) (by decide) ⟨none, 0, 0⟩ R) rfl rfl ?_; intro bo; refine ⟨okF, ?_⟩)
 refine fI (φ := allM [] k0) Hv.nilM ?_
 repeat (refine aV ?_)
 refine bG [1, 2, 7, 13] rfl (fun k G M I => ∃ (i : Nat) (rows : List MR), i ≤ R ∧ k = R - i ∧ rows.length = i ∧ (∀ r ∈ rows, r.es.length = C) ∧ (rows.map (fun r => r.es.map (·.q)) = (List.range i).map (fun i => (List.range C).map (F i))) ∧ G = [(14, .int .i64 i)] ∧ M = .blk bo (recs eH (rows.map hdM ++ List.replicate (R - i) ⟨none, 0, 0⟩)) 39 :: (rows.map gG ++ M0) ∧ I = allM rows k0 :: I0) (R) _ _ _ aO aD aF (⟨0, [], by omega, by omega, rfl, by simp, by simp, rfl, rfl, rfl⟩) ?_
 rintro k G M I ⟨i, rows, hi, rfl, hrl, hrc, hrF, rfl, rfl, rfl⟩
 by_cases hiR : i < R
 ·have hz := wS (n := R - i) (z := (⟨none, 0, 0⟩ : HD)) (by omega)
  repeat (refine aV ?_)
  (refine jU (C) rfl rfl (by omega) (by omega) (by omega) (by omega) (pX (enc := e4) (by decide) z4 C) rfl rfl ?_; intro bi; refine ⟨okF, ?_⟩)
  rw [hz]
  have hlh0 : ((rows.map hdM ++ (⟨none, 0, 0⟩ : HD) :: List.replicate (R - i - 1) ⟨none, 0, 0⟩).length : Int) = R := by simp; omega
  repeat (refine yXf ?_)
  refine lK rfl rfl rfl lU (StAt.r1 (⟨some ⟨bi, 0, none⟩, C, C⟩ : HD) (by omega) rfl) rfl rfl ⟨okF, ?_⟩
  rw [yH (by simp; omega)]
  obtain ⟨hs, hhs⟩ : ∃ hs, hs = rows.map hdM ++ (⟨some ⟨bi, 0, none⟩, C, C⟩ : HD) :: List.replicate (R - i - 1) ⟨none, 0, 0⟩ := ⟨_, rfl⟩
  rw [← hhs]
  have hgh : gt hs (i : Int) = ⟨some ⟨bi, 0, none⟩, C, C⟩ := by rw [hhs]; exact aJH (by simp; omega)
  have hlh : hs.length = R := by rw [hhs]; simp; omega
  have hgp : (gt hs (i : Int)).p = some ⟨bi, 0, none⟩ := by rw [hgh]
  have hgn : (gt hs (i : Int)).n = C := by rw [hgh]
  have hgc : (gt hs (i : Int)).c = C := by rw [hgh]
  repeat (refine aV ?_)
  rw [hgp, hgn, hgc]
  refine fD (φ := fE [] k0) Hv.nilR ?_
  refine bG [1, 2, 7, 8, 13, 14, 26] rfl (fun k G M I => ∃ (j : Nat) (es : List RE), j ≤ C ∧ k = C - j ∧ es.length = j ∧ es.map (·.q) = (List.range j).map (F i) ∧ G = [(27, .int .i64 j)] ∧ M = .blk bi (recs e4 (es.map t4 ++ List.replicate (C - j) z4)) 37 :: .blk bo (recs eH hs) 39 :: (rows.map gG ++ M0) ∧ I = fE es k0 :: allM rows k0 :: I0) (C) _ _ _ aO aD aF (⟨0, [], by omega, by omega, rfl, rfl, rfl, rfl, rfl⟩) ?_
  rintro k G M I ⟨j, es, hj, rfl, hel, heF, rfl, rfl, rfl⟩
  by_cases hjC : j < C
  ·have hz2 := wS (n := C - j) (z := z4) (by omega)
   rw [hz2]
   have hl2 : ((es.map t4 ++ z4 :: List.replicate (C - j - 1) z4).length : Int) = C := by simp; omega
   repeat (refine aV ?_)
   (repeat refine aL ?_); refine bT 1 [0, 1, 2, 3, 4, 5, 6, 7, 8, 9, 10] [1, 1, 1, 1, 1, 0, 0, 0, 0, 0, 0] mixed (by kernel_rfl) ?_
   repeat (refine aV ?_)
   rw [hgp, hgn, hgc]
   (refine qI rfl rfl (hg _ _ (fun φ h => List.Mem.tail _ (List.Mem.tail _ h)) i j hiR hjC) rfl rfl rfl ?_; rintro _ _ _ ⟨rfl, e, rfl, he, rfl⟩; refine ⟨okF, ?_⟩)
   repeat (refine yXf ?_)
   refine iT (vs := eR e) rfl rfl rfl (Ones.one e) lU (StAts.r (t4 e) (by omega) rfl) rfl rfl ⟨okF, ?_⟩
   rw [yH (by simp; omega)]
   repeat (refine aV ?_)
   refine bJ (φ := fE (es ++ [e]) k0) (Hv.snoc aC aC) ?_
   have e9 : es.map t4 ++ t4 e :: List.replicate (C - j - 1) z4 = (es ++ [e]).map t4 ++ List.replicate (C - (j + 1)) z4 := by simp [Nat.sub_sub]
   rw [e9]
   refine aS (C - (j + 1)) _ _ _ (by first | omega | (simp only [List.length_append, List.length_cons, List.length_nil]; omega)) aO aD aF (⟨j + 1, es ++ [e], by omega, rfl, by simp; omega, by simp [heF, List.range_succ, he], rfl, rfl, rfl⟩)
  ·obtain rfl : j = C := by omega
   rw [Nat.sub_self, List.replicate_zero, List.append_nil, aGT]
   have e8 : hs = (rows ++ [(⟨bi, es⟩ : MR)]).map hdM ++ List.replicate (R - (i + 1)) ⟨none, 0, 0⟩ := by rw [hhs]; simp [hel, Nat.sub_sub]
   repeat (refine aV ?_)
   rw [e8]
   refine bJ (φ := allM (rows ++ [(⟨bi, es⟩ : MR)]) k0) (Hv.snocM aC aC) ?_
   refine aBZ (M' := .blk bo (recs eH ((rows ++ [(⟨bi, es⟩ : MR)]).map hdM ++ List.replicate (R - (i + 1)) ⟨none, 0, 0⟩)) 39 :: ((rows ++ [(⟨bi, es⟩ : MR)]).map gG ++ M0)) (by rw [List.map_append (f := gG)]; exact aJC) ?_
   refine aS (R - (i + 1)) _ _ _ (by first | omega | (simp only [List.length_append, List.length_cons, List.length_nil]; omega)) aO aD aF (⟨i + 1, rows ++ [(⟨bi, es⟩ : MR)], by omega, rfl, by simp; omega, fun r hr => by rcases List.mem_append.1 hr with h | h; exact hrc r h; rw [List.mem_singleton.1 h]; exact hel, by rw [List.map_append, hrF, List.range_succ, List.map_append]; simp [heF], rfl, rfl, rfl⟩)
 ·obtain rfl : i = R := by omega
  have hz : List.replicate (i - i) (⟨none, 0, 0⟩ : HD) = [] := by rw [Nat.sub_self]; rfl
  rw [hz, List.append_nil, aLX]
  repeat (refine aV ?_)
  refine aQ (by first | exact .inl rfl | exact .inr rfl) rfl rfl _ _ aD aF (⟨bo, rows, rfl, hrl, hrc, hrF, rfl, rfl⟩)
end
end Go.Proofs.YtkccjglmnhgabaaGreat

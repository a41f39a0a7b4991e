/- The walk, kept once. resect: places as they came in; valid, canonical. Matrices in memory; made matrix: unit, quotient, subtract -/
import Derived.Test.YtgeagiikkeiioaaGreatZfau
import Derived.Test.YtgeagiikkeiioaaGreatZfag
import Derived.Test.YtgeagiikkeiioaaGreatZfat
import Derived.Test.YtgeagiikkeiioaaGreatZfao
set_option linter.unusedSimpArgs false
set_option linter.unusedVariables false
set_option maxRecDepth 100000
set_option maxHeartbeats 4000000
namespace Go.Fx
theorem aJ {p g : Prop} (h : g) (w : BoxP g → p := by (intro hh; (first | refine aL ?_ | refine aI ?_ | refine jP ?_ | refine gX ?_ | refine fH ?_ | refine fB ?_ | refine iA ?_ | refine gU ?_ | refine fG ?_ | refine fJ ?_ | refine jR ?_ | refine jQ ?_ | refine jO ?_ | refine jM rfl ?_ | refine aT ?_ | (refine gM ?_; first | refine fU rfl rfl rfl ?_ | (refine gH rfl rfl ?_; refine eU rfl rfl rfl okF ?_) | refine gJ rfl rfl (by omega) ?_ | refine gD rfl rfl (by omega) ?_) | (refine bV ?_; refine aF rfl (fun _ => dF rfl) rfl rfl ?_) | refine aF rfl (fun _ => bE rfl) rfl rfl ?_ | (refine gK ?_; first | refine aF rfl (fun _ => bJ rfl rfl wF) rfl rfl ?_ | refine aF rfl (fun _ => bK rfl rfl wF) rfl rfl ?_ | refine aF rfl (fun _ => dZ rfl rfl wF) rfl rfl ?_ | refine aF rfl (fun _ => eD rfl rfl (by omega) qF) rfl rfl ?_ | refine aF rfl (fun _ => dY rfl rfl (by omega) rfl) rfl rfl ?_ | refine aF rfl (fun _ => dG rfl rfl) rfl rfl ?_ | refine aF rfl (fun _ => dH rfl rfl) rfl rfl ?_ | refine aF rfl (fun _ => dK rfl rfl) rfl rfl ?_ | refine aF rfl (fun _ => qD rfl rfl) rfl rfl ?_ | refine aF rfl (fun _ => tV rfl rfl) rfl rfl ?_) | (refine bV ?_; first | refine aF rfl (fun _ => dS rfl wF) rfl rfl ?_) | (refine gN ?_; first | refine aF rfl (fun _ => cZ rfl wF) rfl rfl ?_) | (refine gF ?_; first | refine aF rfl (fun _ => bI rfl) rfl rfl ?_ | refine aF rfl (fun _ => dL rfl rfl) rfl rfl ?_ | refine aF rfl (fun _ => dJ rfl rfl) rfl rfl ?_ | refine aF rfl (fun _ => dI rfl rfl rfl) rfl rfl ?_) | (refine fT ?_; first | refine gG rfl (by decide) rfl rfl ?_ | refine iT rfl (by decide) rfl rfl ?_) | (refine fV ?_; first | refine iQ rfl rfl iE rfl rfl ?_ | refine iW gT rfl rfl iE aB jE rfl rfl ?_ | refine iX gT rfl rfl iE aB jE rfl rfl ?_ | refine aF rfl (fun _ => bR rfl rfl iE) rfl rfl ?_) | (refine fZ ?_; first | (apply lU; exact gT; exact rfl; (focus ((repeat (first | with_reducible exact List.mem_cons_self | with_reducible assumption | with_reducible refine List.mem_cons_of_mem _ ?_)); done)); exact atY; exact rfl; exact rfl) | (apply kH; exact gT; exact rfl; (focus ((repeat (first | with_reducible exact List.mem_cons_self | with_reducible assumption | with_reducible refine List.mem_cons_of_mem _ ?_)); done)); exact atY; exact rfl; exact rfl) | (apply lT; exact gT; exact rfl; (focus ((repeat (first | with_reducible exact List.mem_cons_self | with_reducible assumption | with_reducible refine List.mem_cons_of_mem _ ?_)); done)); exact atY; exact rfl; exact rfl) | (apply lX; exact gT; exact rfl; (focus ((repeat (first | with_reducible exact List.mem_cons_self | with_reducible assumption | with_reducible refine List.mem_cons_of_mem _ ?_)); done)); exact atY; exact rfl; exact rfl) | (apply iR; exact gT; exact rfl; (focus ((repeat (first | with_reducible exact List.mem_cons_self | with_reducible assumption | with_reducible refine List.mem_cons_of_mem _ ?_)); done)); exact pE; exact rfl; exact rfl) | (apply gL; exact gT; exact rfl; (focus ((repeat (first | with_reducible exact List.mem_cons_self | with_reducible assumption | with_reducible refine List.mem_cons_of_mem _ ?_)); done)); exact pE; exact rfl; exact rfl) | (apply iP; exact gT; exact rfl; (focus ((repeat (first | with_reducible exact List.mem_cons_self | with_reducible assumption | with_reducible refine List.mem_cons_of_mem _ ?_)); done)); exact pE; exact rfl; exact rfl) | (apply iY; exact gT; exact rfl; (focus ((repeat (first | with_reducible exact List.mem_cons_self | with_reducible assumption | with_reducible refine List.mem_cons_of_mem _ ?_)); done)); exact pE; exact rfl; exact rfl)) | (refine gI ?_; first | refine aF rfl (fun _ => bS rfl rfl) rfl rfl ?_ | refine aF rfl (fun _ => bG rfl) rfl rfl ?_) | (refine iO ?_; first | refine kU rfl rfl rfl kR stC rfl rfl ⟨okF, ?_⟩ | refine iB rfl rfl fI rP kR rQ rfl rfl ⟨okF, ?_⟩) | (refine gY ?_; first | refine bZ rfl ?_ | refine bQ rfl ?_ | refine jL rfl (by omega) ?_ | refine lM rfl (by omega) ?_)); (repeat (first | refine aL ?_ | refine aI ?_ | refine jP ?_ | refine gX ?_ | refine fH ?_ | refine fB ?_ | refine iA ?_ | refine gU ?_ | refine fG ?_ | refine fJ ?_ | refine jR ?_ | refine jQ ?_ | refine jO ?_ | refine jM rfl ?_ | refine aT ?_ | (refine gM ?_; first | refine fU rfl rfl rfl ?_ | (refine gH rfl rfl ?_; refine eU rfl rfl rfl okF ?_) | refine gJ rfl rfl (by omega) ?_ | refine gD rfl rfl (by omega) ?_) | (refine bV ?_; refine aF rfl (fun _ => dF rfl) rfl rfl ?_) | refine aF rfl (fun _ => bE rfl) rfl rfl ?_ | (refine gK ?_; first | refine aF rfl (fun _ => bJ rfl rfl wF) rfl rfl ?_ | refine aF rfl (fun _ => bK rfl rfl wF) rfl rfl ?_ | refine aF rfl (fun _ => dZ rfl rfl wF) rfl rfl ?_ | refine aF rfl (fun _ => eD rfl rfl (by omega) qF) rfl rfl ?_ | refine aF rfl (fun _ => dY rfl rfl (by omega) rfl) rfl rfl ?_ | refine aF rfl (fun _ => dG rfl rfl) rfl rfl ?_ | refine aF rfl (fun _ => dH rfl rfl) rfl rfl ?_ | refine aF rfl (fun _ => dK rfl rfl) rfl rfl ?_ | refine aF rfl (fun _ => qD rfl rfl) rfl rfl ?_ | refine aF rfl (fun _ => tV rfl rfl) rfl rfl ?_) | (refine bV ?_; first | refine aF rfl (fun _ => dS rfl wF) rfl rfl ?_) | (refine gN ?_; first | refine aF rfl (fun _ => cZ rfl wF) rfl rfl ?_) | (refine gF ?_; first | refine aF rfl (fun _ => bI rfl) rfl rfl ?_ | refine aF rfl (fun _ => dL rfl rfl) rfl rfl ?_ | refine aF rfl (fun _ => dJ rfl rfl) rfl rfl ?_ | refine aF rfl (fun _ => dI rfl rfl rfl) rfl rfl ?_) | (refine fT ?_; first | refine gG rfl (by decide) rfl rfl ?_ | refine iT rfl (by decide) rfl rfl ?_) | (refine fV ?_; first | refine iQ rfl rfl iE rfl rfl ?_ | refine iW gT rfl rfl iE aB jE rfl rfl ?_ | refine iX gT rfl rfl iE aB jE rfl rfl ?_ | refine aF rfl (fun _ => bR rfl rfl iE) rfl rfl ?_) | (refine fZ ?_; first | (apply lU; exact gT; exact rfl; (focus ((repeat (first | with_reducible exact List.mem_cons_self | with_reducible assumption | with_reducible refine List.mem_cons_of_mem _ ?_)); done)); exact atY; exact rfl; exact rfl) | (apply kH; exact gT; exact rfl; (focus ((repeat (first | with_reducible exact List.mem_cons_self | with_reducible assumption | with_reducible refine List.mem_cons_of_mem _ ?_)); done)); exact atY; exact rfl; exact rfl) | (apply lT; exact gT; exact rfl; (focus ((repeat (first | with_reducible exact List.mem_cons_self | with_reducible assumption | with_reducible refine List.mem_cons_of_mem _ ?_)); done)); exact atY; exact rfl; exact rfl) | (apply lX; exact gT; exact rfl; (focus ((repeat (first | with_reducible exact List.mem_cons_self | with_reducible assumption | with_reducible refine List.mem_cons_of_mem _ ?_)); done)); exact atY; exact rfl; exact rfl) | (apply iR; exact gT; exact rfl; (focus ((repeat (first | with_reducible exact List.mem_cons_self | with_reducible assumption | with_reducible refine List.mem_cons_of_mem _ ?_)); done)); exact pE; exact rfl; exact rfl) | (apply gL; exact gT; exact rfl; (focus ((repeat (first | with_reducible exact List.mem_cons_self | with_reducible assumption | with_reducible refine List.mem_cons_of_mem _ ?_)); done)); exact pE; exact rfl; exact rfl) | (apply iP; exact gT; exact rfl; (focus ((repeat (first | with_reducible exact List.mem_cons_self | with_reducible assumption | with_reducible refine List.mem_cons_of_mem _ ?_)); done)); exact pE; exact rfl; exact rfl) | (apply iY; exact gT; exact rfl; (focus ((repeat (first | with_reducible exact List.mem_cons_self | with_reducible assumption | with_reducible refine List.mem_cons_of_mem _ ?_)); done)); exact pE; exact rfl; exact rfl)) | (refine gI ?_; first | refine aF rfl (fun _ => bS rfl rfl) rfl rfl ?_ | refine aF rfl (fun _ => bG rfl) rfl rfl ?_) | (refine iO ?_; first | refine kU rfl rfl rfl kR stC rfl rfl ⟨okF, ?_⟩ | refine iB rfl rfl fI rP kR rQ rfl rfl ⟨okF, ?_⟩) | (refine gY ?_; first | refine bZ rfl ?_ | refine bQ rfl ?_ | refine jL rfl (by omega) ?_ | refine lM rfl (by omega) ?_))); exact hh.out)) : p := w ⟨h⟩
theorem yXh {p g : Prop} (h : g) (w : BoxP g → p := by (intro hh; (first | refine aL ?_ | refine aI ?_ | refine jP ?_ | refine gX ?_ | refine fH ?_ | refine fB ?_ | refine iA ?_ | refine gU ?_ | refine fG ?_ | refine fJ ?_ | refine jR ?_ | refine jQ ?_ | refine jO ?_ | refine jM rfl ?_ | refine aT ?_ | (refine gM ?_; first | refine fU rfl rfl rfl ?_ | (refine gH rfl rfl ?_; refine eU rfl rfl rfl okF ?_) | refine gJ rfl rfl (by omega) ?_ | refine gD rfl rfl (by omega) ?_) | (refine bV ?_; refine aF rfl (fun _ => dF rfl) rfl rfl ?_) | refine aF rfl (fun _ => bE rfl) rfl rfl ?_ | (refine gK ?_; first | refine aF rfl (fun _ => bJ rfl rfl wF) rfl rfl ?_ | refine aF rfl (fun _ => bK rfl rfl wF) rfl rfl ?_ | refine aF rfl (fun _ => dZ rfl rfl wF) rfl rfl ?_ | refine aF rfl (fun _ => eD rfl rfl (by omega) qF) rfl rfl ?_ | refine aF rfl (fun _ => dY rfl rfl (by omega) rfl) rfl rfl ?_ | refine aF rfl (fun _ => dG rfl rfl) rfl rfl ?_ | refine aF rfl (fun _ => dH rfl rfl) rfl rfl ?_ | refine aF rfl (fun _ => dK rfl rfl) rfl rfl ?_ | refine aF rfl (fun _ => qD rfl rfl) rfl rfl ?_ | refine aF rfl (fun _ => tV rfl rfl) rfl rfl ?_) | (refine bV ?_; first | refine aF rfl (fun _ => dS rfl wF) rfl rfl ?_) | (refine gN ?_; first | refine aF rfl (fun _ => cZ rfl wF) rfl rfl ?_) | (refine gF ?_; first | refine aF rfl (fun _ => bI rfl) rfl rfl ?_ | refine aF rfl (fun _ => dL rfl rfl) rfl rfl ?_ | refine aF rfl (fun _ => dJ rfl rfl) rfl rfl ?_ | refine aF rfl (fun _ => dI rfl rfl rfl) rfl rfl ?_) | (refine fT ?_; first | refine gG rfl (by decide) rfl rfl ?_ | refine iT rfl (by decide) rfl rfl ?_) | (refine fV ?_; first | refine iQ rfl rfl iE rfl rfl ?_ | refine iW gT rfl rfl iE aB jE rfl rfl ?_ | refine iX gT rfl rfl iE aB jE rfl rfl ?_ | refine aF rfl (fun _ => bR rfl rfl iE) rfl rfl ?_) | (refine fZ ?_; first | (apply lU; exact gT; exact rfl; (focus ((repeat (first | with_reducible exact List.mem_cons_self | with_reducible assumption | with_reducible refine List.mem_cons_of_mem _ ?_)); done)); exact atY; exact rfl; exact rfl) | (apply kH; exact gT; exact rfl; (focus ((repeat (first | with_reducible exact List.mem_cons_self | with_reducible assumption | with_reducible refine List.mem_cons_of_mem _ ?_)); done)); exact atY; exact rfl; exact rfl) | (apply lT; exact gT; exact rfl; (focus ((repeat (first | with_reducible exact List.mem_cons_self | with_reducible assumption | with_reducible refine List.mem_cons_of_mem _ ?_)); done)); exact atY; exact rfl; exact rfl) | (apply lX; exact gT; exact rfl; (focus ((repeat (first | with_reducible exact List.mem_cons_self | with_reducible assumption | with_reducible refine List.mem_cons_of_mem _ ?_)); done)); exact atY; exact rfl; exact rfl) | (apply iR; exact gT; exact rfl; (focus ((repeat (first | with_reducible exact List.mem_cons_self | with_reducible assumption | with_reducible refine List.mem_cons_of_mem _ ?_)); done)); exact pE; exact rfl; exact rfl) | (apply gL; exact gT; exact rfl; (focus ((repeat (first | with_reducible exact List.mem_cons_self | with_reducible assumption | with_reducible refine List.mem_cons_of_mem _ ?_)); done)); exact pE; exact rfl; exact rfl) | (apply iP; exact gT; exact rfl; (focus ((repeat (first | with_reducible exact List.mem_cons_self | with_reducible assumption | with_reducible refine List.mem_cons_of_mem _ ?_)); done)); exact pE; exact rfl; exact rfl) | (apply iY; exact gT; exact rfl; (focus ((repeat (first | with_reducible exact List.mem_cons_self | with_reducible assumption | with_reducible refine List.mem_cons_of_mem _ ?_)); done)); exact pE; exact rfl; exact rfl)) | (refine gI ?_; first | refine aF rfl (fun _ => bS rfl rfl) rfl rfl ?_ | refine aF rfl (fun _ => bG rfl) rfl rfl ?_) | (refine gY ?_; first | refine bZ rfl ?_ | refine bQ rfl ?_ | refine jL rfl (by omega) ?_ | refine lM rfl (by omega) ?_)); (repeat (first | refine aL ?_ | refine aI ?_ | refine jP ?_ | refine gX ?_ | refine fH ?_ | refine fB ?_ | refine iA ?_ | refine gU ?_ | refine fG ?_ | refine fJ ?_ | refine jR ?_ | refine jQ ?_ | refine jO ?_ | refine jM rfl ?_ | refine aT ?_ | (refine gM ?_; first | refine fU rfl rfl rfl ?_ | (refine gH rfl rfl ?_; refine eU rfl rfl rfl okF ?_) | refine gJ rfl rfl (by omega) ?_ | refine gD rfl rfl (by omega) ?_) | (refine bV ?_; refine aF rfl (fun _ => dF rfl) rfl rfl ?_) | refine aF rfl (fun _ => bE rfl) rfl rfl ?_ | (refine gK ?_; first | refine aF rfl (fun _ => bJ rfl rfl wF) rfl rfl ?_ | refine aF rfl (fun _ => bK rfl rfl wF) rfl rfl ?_ | refine aF rfl (fun _ => dZ rfl rfl wF) rfl rfl ?_ | refine aF rfl (fun _ => eD rfl rfl (by omega) qF) rfl rfl ?_ | refine aF rfl (fun _ => dY rfl rfl (by omega) rfl) rfl rfl ?_ | refine aF rfl (fun _ => dG rfl rfl) rfl rfl ?_ | refine aF rfl (fun _ => dH rfl rfl) rfl rfl ?_ | refine aF rfl (fun _ => dK rfl rfl) rfl rfl ?_ | refine aF rfl (fun _ => qD rfl rfl) rfl rfl ?_ | refine aF rfl (fun _ => tV rfl rfl) rfl rfl ?_) | (refine bV ?_; first | refine aF rfl (fun _ => dS rfl wF) rfl rfl ?_) | (refine gN ?_; first | refine aF rfl (fun _ => cZ rfl wF) rfl rfl ?_) | (refine gF ?_; first | refine aF rfl (fun _ => bI rfl) rfl rfl ?_ | refine aF rfl (fun _ => dL rfl rfl) rfl rfl ?_ | refine aF rfl (fun _ => dJ rfl rfl) rfl rfl ?_ | refine aF rfl (fun _ => dI rfl rfl rfl) rfl rfl ?_) | (refine fT ?_; first | refine gG rfl (by decide) rfl rfl ?_ | refine iT rfl (by decide) rfl rfl ?_) | (refine fV ?_; first | refine iQ rfl rfl iE rfl rfl ?_ | refine iW gT rfl rfl iE aB jE rfl rfl ?_ | refine iX gT rfl rfl iE aB jE rfl rfl ?_ | refine aF rfl (fun _ => bR rfl rfl iE) rfl rfl ?_) | (refine fZ ?_; first | (apply lU; exact gT; exact rfl; (focus ((repeat (first | with_reducible exact List.mem_cons_self | with_reducible assumption | with_reducible refine List.mem_cons_of_mem _ ?_)); done)); exact atY; exact rfl; exact rfl) | (apply kH; exact gT; exact rfl; (focus ((repeat (first | with_reducible exact List.mem_cons_self | with_reducible assumption | with_reducible refine List.mem_cons_of_mem _ ?_)); done)); exact atY; exact rfl; exact rfl) | (apply lT; exact gT; exact rfl; (focus ((repeat (first | with_reducible exact List.mem_cons_self | with_reducible assumption | with_reducible refine List.mem_cons_of_mem _ ?_)); done)); exact atY; exact rfl; exact rfl) | (apply lX; exact gT; exact rfl; (focus ((repeat (first | with_reducible exact List.mem_cons_self | with_reducible assumption | with_reducible refine List.mem_cons_of_mem _ ?_)); done)); exact atY; exact rfl; exact rfl) | (apply iR; exact gT; exact rfl; (focus ((repeat (first | with_reducible exact List.mem_cons_self | with_reducible assumption | with_reducible refine List.mem_cons_of_mem _ ?_)); done)); exact pE; exact rfl; exact rfl) | (apply gL; exact gT; exact rfl; (focus ((repeat (first | with_reducible exact List.mem_cons_self | with_reducible assumption | with_reducible refine List.mem_cons_of_mem _ ?_)); done)); exact pE; exact rfl; exact rfl) | (apply iP; exact gT; exact rfl; (focus ((repeat (first | with_reducible exact List.mem_cons_self | with_reducible assumption | with_reducible refine List.mem_cons_of_mem _ ?_)); done)); exact pE; exact rfl; exact rfl) | (apply iY; exact gT; exact rfl; (focus ((repeat (first | with_reducible exact List.mem_cons_self | with_reducible assumption | with_reducible refine List.mem_cons_of_mem _ ?_)); done)); exact pE; exact rfl; exact rfl)) | (refine gI ?_; first | refine aF rfl (fun _ => bS rfl rfl) rfl rfl ?_ | refine aF rfl (fun _ => bG rfl) rfl rfl ?_) | (refine gY ?_; first | refine bZ rfl ?_ | refine bQ rfl ?_ | refine jL rfl (by omega) ?_ | refine lM rfl (by omega) ?_))); exact hh.out)) : p := w ⟨h⟩
end Go.Fx
namespace Go.Proofs.YtgeagiikkeiioaaGreat
open Go Go.Fx
structure PW where
 x : RW
 y : RW
instance : Inhabited PW := ⟨⟨default, default⟩⟩
abbrev ePW (p : PW) : List Value := [.bool p.x.n1, .slice p.x.p1 p.x.g1.length p.x.c1, .bool p.x.n2, .slice p.x.p2 p.x.g2.length p.x.c2, .bool p.y.n1, .slice p.y.p1 p.y.g1.length p.y.c1, .bool p.y.n2, .slice p.y.p2 p.y.g2.length p.y.c2]
abbrev pvW (p : PW) : Value := .agg #[.bool p.x.n1, .slice p.x.p1 p.x.g1.length p.x.c1, .bool p.x.n2, .slice p.x.p2 p.x.g2.length p.x.c2, .bool p.y.n1, .slice p.y.p1 p.y.g1.length p.y.c1, .bool p.y.n2, .slice p.y.p2 p.y.g2.length p.y.c2]
instance : Sized ePW 8 := ⟨fun _ => rfl⟩
instance : Ones ePW := ⟨fun m u hu => by
 simp only [ePW, List.mem_cons, List.not_mem_nil, or_false] at hu
 rcases hu with rfl | rfl | rfl | rfl | rfl | rfl | rfl | rfl <;> rfl⟩
def PE.raw (p : PE) : PW := ⟨p.x.raw, p.y.raw⟩
def RW.small (r : RW) : Prop := r.g1.length ≤ 1000000000 ∧ r.g2.length ≤ 1000000000
def PW.small (p : PW) : Prop := p.x.small ∧ p.y.small
def PW.good (p : PW) : Prop := p.x.good ∧ p.y.good
instance PW.decG (p : PW) : Decidable p.good := by unfold PW.good; exact inferInstance
structure IsPW (p : PW) (X : List Nat) (w : World) : Prop where
 x : IsW p.x X w
 y : IsW p.y X w
abbrev isPW (p : PW) : bA := IsPW p
instance (p : PW) : Fx.Good (IsPW p) := ⟨fun X Y w w' h he hY => ⟨Fx.Good.go (φ := IsW _) X Y w w' h.x he hY, Fx.Good.go (φ := IsW _) X Y w w' h.y he hY⟩⟩
structure AllW (rs : List RW) (X : List Nat) (w : World) : Prop where
 go : ∀ r ∈ rs, IsW r X w
abbrev allW (rs : List RW) : bA := AllW rs
instance (rs : List RW) : Fx.Good (AllW rs) := ⟨fun X Y w w' h he hY => ⟨fun r hm => Fx.Good.go (φ := IsW _) X Y w w' (h.go r hm) he hY⟩⟩
structure AllPW (ps : List PW) (X : List Nat) (w : World) : Prop where
 go : ∀ p ∈ ps, IsPW p X w
abbrev allPW (ps : List PW) : bA := AllPW ps
instance (ps : List PW) : Fx.Good (AllPW ps) := ⟨fun X Y w w' h he hY => ⟨fun r hm => Fx.Good.go (φ := IsPW _) X Y w w' (h.go r hm) he hY⟩⟩
theorem aIN {P : Program} {f : FuncId} {vs : List Value} {X : List Nat} {w0 : World} {M : List Ent} {I : List bA} {K : Value → List Ent → List bA → Prop} {φ : Prop} (h : ∀ w, Mem X w0 M I w → φ) (k : φ → CD P f vs X w0 M I K) : CD P f vs X w0 M I K := ⟨fun w hw => (k (h w hw)).go w hw⟩
section
variable {X : List Nat} {w0 : World} {M0 : List Ent} {I0 : List bA}
end
end Go.Proofs.YtgeagiikkeiioaaGreat
namespace Go.Proofs.YtgeagiikkeiioaaGreat
open Go Go.Fx
structure C4 where
 a : Value
 b : Value
 c : Value
 d : Value
abbrev e4 (x : C4) : List Value := [x.a, x.b, x.c, x.d]
instance : Inhabited C4 := ⟨⟨.bool false, .slice none 0 0, .bool false, .slice none 0 0⟩⟩
instance : Sized e4 4 := ⟨fun _ => rfl⟩
abbrev z4 : C4 := ⟨.bool false, .slice none 0 0, .bool false, .slice none 0 0⟩
abbrev t4 (e : RE) : C4 := ⟨.bool (B (e.q.num < 0)), .slice e.p1 (gr e.q.num.natAbs).length e.c1, .bool (B ((e.q.den : Int) < 0)), .slice e.p2 (gr (e.q.den : Int).natAbs).length e.c2⟩
theorem yJ (es : List RE) : recs e4 (es.map t4) = recs eR es := by
 induction es with
 | nil => rfl
 | cons x r ih =>
  have h1 : recs e4 ((x :: r).map t4) = e4 (t4 x) ++ recs e4 (r.map t4) := rfl
  have h2 : recs eR (x :: r) = eR x ++ recs eR r := rfl
  rw [h1, h2, ih]
structure HD where
 p : Option Addr
 n : Nat
 c : Nat
instance : Inhabited HD := ⟨⟨none, 0, 0⟩⟩
abbrev eH (h : HD) : List Value := [.slice h.p h.n h.c]
instance : Sized eH 1 := ⟨fun _ => rfl⟩
structure MR where
 b : Nat
 es : List RE
instance : Inhabited MR := ⟨⟨0, []⟩⟩
abbrev hdM (r : MR) : HD := ⟨some ⟨r.b, 0, none⟩, r.es.length, r.es.length⟩
abbrev eM (r : MR) : List Value := [.slice (some ⟨r.b, 0, none⟩) r.es.length r.es.length]
instance : Sized eM 1 := ⟨fun _ => rfl⟩
abbrev fM (r : MR) : Ent := .blk r.b (recs eR r.es) 42
theorem aLV (rows : List MR) : recs eH (rows.map hdM) = recs eM rows := by
 induction rows with
 | nil => rfl
 | cons x r ih =>
  have h1 : recs eH ((x :: r).map hdM) = eH (hdM x) ++ recs eH (r.map hdM) := rfl
  have h2 : recs eM (x :: r) = eM x ++ recs eM r := rfl
  rw [h1, h2, ih]
structure AllM (rows : List MR) (k : Nat) (X : List Nat) (w : World) : Prop where
 go : ∀ r ∈ rows, ∀ e ∈ r.es, IsR e k X w
abbrev allM (rows : List MR) (k : Nat) : bA := AllM rows k
instance (rows : List MR) (k : Nat) : Fx.Good (AllM rows k) := ⟨fun X Y w w' h he hY => ⟨fun r hr e hm => Fx.Good.go (φ := IsR _ _) X Y w w' (h.go r hr e hm) he hY⟩⟩
theorem Hv.snoc {I : List bA} {es : List RE} {e : RE} {k : Nat} (h1 : bT es k ∈ I) (h2 : iI e k ∈ I) : Hv I (bT (es ++ [e]) k) := ⟨fun X w hw => ⟨fun x hx => by
 rcases List.mem_append.1 hx with hx | hx
 ·exact (hw _ h1 : AllR es k X w).go x hx
 ·rw [List.mem_singleton.1 hx]; exact hw _ h2⟩⟩
theorem Hv.nilR {I : List bA} {k : Nat} : Hv I (bT [] k) := ⟨fun X w _ => ⟨fun x hx => by simp at hx⟩⟩
theorem Hv.nilM {I : List bA} {k : Nat} : Hv I (allM [] k) := ⟨fun X w _ => ⟨fun x hx => by simp at hx⟩⟩
theorem Hv.snocM {I : List bA} {rows : List MR} {r : MR} {k : Nat} (h1 : allM rows k ∈ I) (h2 : bT r.es k ∈ I) : Hv I (allM (rows ++ [r]) k) := ⟨fun X w hw => ⟨fun x hx => by
 rcases List.mem_append.1 hx with hx | hx
 ·exact (hw _ h1 : AllM rows k X w).go x hx
 ·rw [List.mem_singleton.1 hx]; exact (hw _ h2 : AllR r.es k X w).go⟩⟩
theorem aCH {α : Type} [Inhabited α] {A B : List α} {x : α} {i : Int} (h : i = A.length) : gt (A ++ x :: B) i = x := by
 subst h
 rw [iU (by simp)]
 simp
theorem yT {α : Type} {A B : List α} {x y : α} {i : Int} (h : i = A.length) : st (A ++ x :: B) i y = A ++ y :: B := by
 subst h
 simp [st]
theorem qB {α : Type} {n : Nat} {z : α} (h : 0 < n) : List.replicate n z = z :: List.replicate (n - 1) z := by
 obtain ⟨m, rfl⟩ : ∃ m, n = m + 1 := ⟨n - 1, by omega⟩
 rfl
theorem qL {α : Type} {enc : α → List Value} {sz : Nat} [h : Sized enc sz] (hsz : 0 < sz) (zz : α) (mm : Nat) : (madeCells (enc zz).toArray (mm * sz)).toList = recs enc (List.replicate mm zz) := by
 have hl : (enc zz).length = sz := h.len zz
 apply List.ext_getElem
 ·rw [Array.length_toList, size_madeCells, jA, List.length_replicate]
 ·intro i h1 h2
  rw [Array.length_toList, size_madeCells] at h1
  have hq : i / sz < mm := by rw [Nat.div_lt_iff_lt_mul hsz]; exact h1
  have hr : i % sz < sz := Nat.mod_lt _ hsz
  have hv : (enc zz)[i % sz]? = some ((enc zz)[i % sz]'(by omega)) := List.getElem?_eq_getElem (by omega)
  have := aAB (enc := enc) (List.replicate mm zz) (i / sz) (i % sz) zz _ (by rw [List.getElem?_replicate, if_pos hq]) hv
  rw [Nat.div_add_mod'] at this
  have h3 := (List.getElem?_eq_some_iff.1 this).2
  rw [h3]
  simp [madeCells, hl, hr]
def MkP (R C : Nat) (F : Nat → Nat → Rat) (k : Nat) (M0 : List Ent) (I0 : List bA) (v : Value) (M : List Ent) (I : List bA) : Prop :=
 ∃ (bo : Nat) (rows : List MR), v = .slice (some ⟨bo, 0, none⟩) R R ∧ rows.length = R ∧ (∀ r ∈ rows, r.es.length = C) ∧ (rows.map (fun r => r.es.map (·.q)) = (List.range R).map (fun i => (List.range C).map (F i))) ∧
  M = .blk bo (recs eM rows) 34 :: (rows.map fM ++ M0) ∧ I = allM rows k :: I0
section
variable {P : Program} {n : Nat} {Q : Exit → Act → World → Prop} {G : Env} {X : List Nat} {w0 : World} {M M' : List Ent} {I : List bA}
theorem aCY {ex : Exit} (h : M.Perm M') (k : ND n Q ex G X w0 M' I) : ND n Q ex G X w0 M I := wT (fun _ hw => hw.perm h) k
theorem tK {c : Code} (h : M.Perm M') (k : TD P n c Q G X w0 M' I) : TD P n c Q G X w0 M I := aIT (fun _ hw => hw.perm h) k
theorem yH {ops l : List Oper} {m : Fx.Mode} (h : M.Perm M') (k : RD P n ops Q m l G X w0 M' I) : RD P n ops Q m l G X w0 M I := uU (fun _ hw => hw.perm h) k
theorem aJG {x o : Ent} {A B : List Ent} : (x :: o :: (A ++ B)).Perm (o :: ((A ++ [x]) ++ B)) := by
 refine (List.Perm.swap _ _ _).trans (List.Perm.cons _ ?_)
 rw [List.append_assoc]
 exact List.perm_middle.symm
end
section
variable {X : List Nat} {w0 : World} {M0 : List Ent} {I0 : List bA}
theorem zD {g : FuncId} [FnOk Tryz.prog g] {fs cs : Array Value} {R C k0 : Nat} (hR : R ≤ 100) (hC : C ≤ 200) (F : Nat → Nat → Rat)
  (hg : ∀ M I, (∀ φ ∈ I0, φ ∈ I) → ∀ i j : Nat, i < R → j < C → CD Tryz.prog g (fs.toList ++ [.int .i64 (i : Int), .int .i64 (j : Int)] ++ cs.toList) X w0 M I (RQ (F i j) k0 M I)) :
  CD Tryz.prog 195 [.int .i64 (R : Int), .int .i64 (C : Int), .func (.func g) fs cs] X w0 M0 I0 (MkP R C F k0 M0 I0) := by
 refine lI Tryz.func195 rfl Tryz.ntmps195 rfl ?_
 repeat (refine bD ?_)
 (refine jU (R) rfl rfl (by omega) (by omega) (by omega) (by omega) (qL (enc := eH) (by decide) ⟨none, 0, 0⟩ R) rfl rfl ?_; intro bo; refine ⟨okF, ?_⟩)
 refine cK (φ := allM [] k0) Hv.nilM ?_
 repeat (refine bD ?_)
 refine aW [1, 2, 7, 13] rfl (fun k G M I => ∃ (i : Nat) (rows : List MR), i ≤ R ∧ k = R - i ∧ rows.length = i ∧ (∀ r ∈ rows, r.es.length = C) ∧ (rows.map (fun r => r.es.map (·.q)) = (List.range i).map (fun i => (List.range C).map (F i))) ∧ G = [(14, .int .i64 i)] ∧ M = .blk bo (recs eH (rows.map hdM ++ List.replicate (R - i) ⟨none, 0, 0⟩)) 34 :: (rows.map fM ++ M0) ∧ I = allM rows k0 :: I0) (R) _ _ _ aP aG aD (⟨0, [], by omega, by omega, rfl, by simp, by simp, rfl, rfl, rfl⟩) ?_
 rintro k G M I ⟨i, rows, hi, rfl, hrl, hrc, hrF, rfl, rfl, rfl⟩
 by_cases hiR : i < R
 ·have hz := qB (n := R - i) (z := (⟨none, 0, 0⟩ : HD)) (by omega)
  repeat (refine bD ?_)
  (refine jU (C) rfl rfl (by omega) (by omega) (by omega) (by omega) (qL (enc := e4) (by decide) z4 C) rfl rfl ?_; intro bi; refine ⟨okF, ?_⟩)
  rw [hz]
  have hlh0 : ((rows.map hdM ++ (⟨none, 0, 0⟩ : HD) :: List.replicate (R - i - 1) ⟨none, 0, 0⟩).length : Int) = R := by simp; omega
  repeat (refine yXf ?_)
  refine kU rfl rfl rfl kR (StAt.r1 (⟨some ⟨bi, 0, none⟩, C, C⟩ : HD) (by omega) rfl) rfl rfl ⟨okF, ?_⟩
  rw [yT (by simp; omega)]
  obtain ⟨hs, hhs⟩ : ∃ hs, hs = rows.map hdM ++ (⟨some ⟨bi, 0, none⟩, C, C⟩ : HD) :: List.replicate (R - i - 1) ⟨none, 0, 0⟩ := ⟨_, rfl⟩
  rw [← hhs]
  have hgh : gt hs (i : Int) = ⟨some ⟨bi, 0, none⟩, C, C⟩ := by rw [hhs]; exact aCH (by simp; omega)
  have hlh : hs.length = R := by rw [hhs]; simp; omega
  have hgp : (gt hs (i : Int)).p = some ⟨bi, 0, none⟩ := by rw [hgh]
  have hgn : (gt hs (i : Int)).n = C := by rw [hgh]
  have hgc : (gt hs (i : Int)).c = C := by rw [hgh]
  repeat (refine bD ?_)
  rw [hgp, hgn, hgc]
  refine fP (φ := bT [] k0) Hv.nilR ?_
  refine aW [1, 2, 7, 8, 13, 14, 26] rfl (fun k G M I => ∃ (j : Nat) (es : List RE), j ≤ C ∧ k = C - j ∧ es.length = j ∧ es.map (·.q) = (List.range j).map (F i) ∧ G = [(27, .int .i64 j)] ∧ M = .blk bi (recs e4 (es.map t4 ++ List.replicate (C - j) z4)) 42 :: .blk bo (recs eH hs) 34 :: (rows.map fM ++ M0) ∧ I = bT es k0 :: allM rows k0 :: I0) (C) _ _ _ aP aG aD (⟨0, [], by omega, by omega, rfl, rfl, rfl, rfl, rfl⟩) ?_
  rintro k G M I ⟨j, es, hj, rfl, hel, heF, rfl, rfl, rfl⟩
  by_cases hjC : j < C
  ·have hz2 := qB (n := C - j) (z := z4) (by omega)
   rw [hz2]
   have hl2 : ((es.map t4 ++ z4 :: List.replicate (C - j - 1) z4).length : Int) = C := by simp; omega
   repeat (refine bD ?_)
   (repeat refine aL ?_); refine dM 1 [0, 1, 2, 3, 4, 5, 6, 7, 8, 9, 10] [1, 1, 1, 1, 1, 0, 0, 0, 0, 0, 0] mixed (by kernel_rfl) ?_
   repeat (refine bD ?_)
   rw [hgp, hgn, hgc]
   (refine pW rfl rfl (hg _ _ (fun φ h => List.Mem.tail _ (List.Mem.tail _ h)) i j hiR hjC) rfl rfl rfl ?_; rintro _ _ _ ⟨rfl, e, rfl, he, rfl⟩; refine ⟨okF, ?_⟩)
   repeat (refine yXf ?_)
   refine iB (vs := eR e) rfl rfl rfl (Ones.one e) kR (StAts.r (t4 e) (by omega) rfl) rfl rfl ⟨okF, ?_⟩
   rw [yT (by simp; omega)]
   repeat (refine bD ?_)
   refine dV (φ := bT (es ++ [e]) k0) (Hv.snoc aB aB) ?_
   have e9 : es.map t4 ++ t4 e :: List.replicate (C - j - 1) z4 = (es ++ [e]).map t4 ++ List.replicate (C - (j + 1)) z4 := by simp [Nat.sub_sub]
   rw [e9]
   refine aN (C - (j + 1)) _ _ _ (by first | omega | (simp only [List.length_append, List.length_cons, List.length_nil]; omega)) aP aG aD (⟨j + 1, es ++ [e], by omega, rfl, by simp; omega, by simp [heF, List.range_succ, he], rfl, rfl, rfl⟩)
  ·obtain rfl : j = C := by omega
   rw [Nat.sub_self, List.replicate_zero, List.append_nil, yJ]
   have e8 : hs = (rows ++ [(⟨bi, es⟩ : MR)]).map hdM ++ List.replicate (R - (i + 1)) ⟨none, 0, 0⟩ := by rw [hhs]; simp [hel, Nat.sub_sub]
   repeat (refine bD ?_)
   rw [e8]
   refine dV (φ := allM (rows ++ [(⟨bi, es⟩ : MR)]) k0) (Hv.snocM aB aB) ?_
   refine aCY (M' := .blk bo (recs eH ((rows ++ [(⟨bi, es⟩ : MR)]).map hdM ++ List.replicate (R - (i + 1)) ⟨none, 0, 0⟩)) 34 :: ((rows ++ [(⟨bi, es⟩ : MR)]).map fM ++ M0)) (by rw [List.map_append (f := fM)]; exact aJG) ?_
   refine aN (R - (i + 1)) _ _ _ (by first | omega | (simp only [List.length_append, List.length_cons, List.length_nil]; omega)) aP aG aD (⟨i + 1, rows ++ [(⟨bi, es⟩ : MR)], by omega, rfl, by simp; omega, fun r hr => by rcases List.mem_append.1 hr with h | h; exact hrc r h; rw [List.mem_singleton.1 h]; exact hel, by rw [List.map_append, hrF, List.range_succ, List.map_append]; simp [heF], rfl, rfl, rfl⟩)
 ·obtain rfl : i = R := by omega
  have hz : List.replicate (i - i) (⟨none, 0, 0⟩ : HD) = [] := by rw [Nat.sub_self]; rfl
  rw [hz, List.append_nil, aLV]
  repeat (refine bD ?_)
  refine aH (by first | exact .inl rfl | exact .inr rfl) rfl rfl _ _ aG aD (⟨bo, rows, rfl, hrl, hrc, hrF, rfl, rfl⟩)
end
end Go.Proofs.YtgeagiikkeiioaaGreat
namespace Go.Proofs.YtgeagiikkeiioaaGreat
open Go Go.Fx
theorem nP (q : Rat) : q.num.sign = 0 ↔ q = 0 := ⟨fun h => Rat.num_eq_zero.1 (Int.sign_eq_zero_iff_zero.1 h), fun h => by rw [h]; rfl⟩
theorem Hv.stR {I : List bA} {es : List RE} {e : RE} {i : Int} {k : Nat} (h1 : bT es k ∈ I) (h2 : iI e k ∈ I) : Hv I (bT (st es i e) k) := ⟨fun X w hw => ⟨fun x hx => by
 rcases List.mem_or_eq_of_mem_set hx with hx | hx
 ·exact (hw _ h1 : AllR es k X w).go x hx
 ·rw [hx]; exact hw _ h2⟩⟩
theorem uK {es : List RE} {e : RE} {i t : Nat} (hi : i < es.length) : gt (st es (i : Int) e) (t : Int) = if t = i then e else gt es (t : Int) := by
 rw [aKZ e ⟨by omega, by omega⟩ (by omega)]
 by_cases h : t = i
 ·rw [if_pos h, if_pos (by omega)]
 ·rw [if_neg h, if_neg (by omega)]
section
variable {X : List Nat} {w0 : World} {M0 : List Ent} {I0 : List bA}
theorem aIA {i j : Int} : CD Tryz.prog 135 [.int .i64 i, .int .i64 j] X w0 M0 I0 (RQ (if i = j then 1 else 0) 0 M0 I0) := by
 have h1 := fun M0 I0 => lG (X := X) (w0 := w0) (M0 := M0) (I0 := I0) (x := 1) (by decide) (k := 0) (by decide)
 have h0 := fun M0 I0 => lG (X := X) (w0 := w0) (M0 := M0) (I0 := I0) (x := 0) (by decide) (k := 0) (by decide)
 refine bH Tryz.func135 rfl Tryz.ntmps135 rfl ?_
 refine aL ?_
 refine aI ?_
 (refine aO rfl rfl ?_; intro b2; refine ⟨okF, ?_⟩)
 by_cases h : i = j
 ·rw [if_pos h]
  repeat (refine bD ?_)
  (refine aA rfl (h1 _ _) rfl rfl ?_; rintro _ _ _ ⟨rfl, e, rfl, he, rfl⟩; refine ⟨okF, ?_⟩)
  repeat (refine bD ?_)
  refine bN (cs := eR e) (.inl rfl) rfl rfl aB rfl M0 (iI e 0 :: I0) aG aD ⟨rfl, e, rfl, he, rfl⟩
 ·rw [if_neg h]
  repeat (refine bD ?_)
  (refine aA rfl (h0 _ _) rfl rfl ?_; rintro _ _ _ ⟨rfl, e, rfl, he, rfl⟩; refine ⟨okF, ?_⟩)
  repeat (refine bD ?_)
  refine bN (cs := eR e) (.inl rfl) rfl rfl aB rfl M0 (iI e 0 :: I0) aG aD ⟨rfl, e, rfl, he, rfl⟩
theorem xR {a b : RE} {k m : Nat} (hk : k + m ≤ 500000000000) (hb0 : b.q ≠ 0) (ha : Hv I0 (iI a k)) (hb : Hv I0 (iI b m)) :
  CD Tryz.prog 196 [rv a, rv b] X w0 M0 I0 (RQ (a.q / b.q) (k + m) M0 I0) := by
 refine bH Tryz.func196 rfl Tryz.ntmps196 rfl ?_
 refine aL ?_
 refine aI ?_
 (refine aZ rfl rfl rfl ?_; intro b1; refine ⟨okF, ?_⟩)
 (refine aZ rfl rfl rfl ?_; intro b2; refine ⟨okF, ?_⟩)
 (refine aO rfl rfl ?_; intro b3; refine ⟨okF, ?_⟩)
 repeat (refine bD ?_)
 (refine aA rfl (aFI hk hb0 ha hb) rfl rfl ?_; rintro _ _ _ ⟨rfl, e, rfl, he, rfl⟩; refine ⟨okF, ?_⟩)
 repeat (refine bD ?_)
 (refine aO rfl rfl ?_; intro b4; refine ⟨okF, ?_⟩)
 repeat (refine bD ?_)
 refine bN (cs := eR e) (.inl rfl) rfl rfl aB rfl M0 (iI e (k + m) :: I0) aG aD ⟨rfl, e, rfl, he, rfl⟩
theorem aDX {b1 b2 : Nat} {es os : List RE} {κ : RE} {kz h m fr n : Nat} {M1 : List Ent} (hn : n ≤ 1000) (hK : kz + (m + h) + 1 ≤ 400000000000) (hes : es.length = n) (hos : os.length = n) (hfr : fr ≤ n)
  (he : bT es kz ∈ I0) (ho : bT os h ∈ I0) (hκ : iI κ m ∈ I0) (hM : M0 = .blk b1 (recs eR es) 42 :: .blk b2 (recs eR os) 42 :: M1) :
  CD Tryz.prog 201 [.slice (some ⟨b1, 0, none⟩) n n, .slice (some ⟨b2, 0, none⟩) n n, rv κ, .int .i64 (fr : Int)] X w0 M0 I0 (fun v M I => v = .tuple #[] ∧ ∃ es' : List RE, es'.length = n ∧ (∀ t : Nat, t < n → (gt es' (t : Int)).q = if t < fr then (gt es (t : Int)).q else (gt es (t : Int)).q - κ.q * (gt os (t : Int)).q) ∧ M = .blk b1 (recs eR es') 42 :: .blk b2 (recs eR os) 42 :: M1 ∧ I = bT es' (kz + (m + h) + 1) :: I0) := by
 subst hM
 refine aCZ Tryz.func201 rfl Tryz.ntmps201 rfl ?_
 refine aL ?_
 refine aI ?_
 (refine aZ rfl rfl rfl ?_; intro bk; refine ⟨okF, ?_⟩)
 repeat (refine bD ?_)
 refine fP (φ := bT es (kz + (m + h) + 1)) (Hv.allMono he (by omega)) ?_
 refine aW [0, 1, 6] rfl (fun k G M I => ∃ (j : Nat) (e1 : List RE), fr ≤ j ∧ j ≤ n ∧ k = n - j ∧ e1.length = n ∧ (∀ t : Nat, j ≤ t → gt e1 (t : Int) = gt es (t : Int)) ∧ (∀ t : Nat, t < j → (gt e1 (t : Int)).q = if t < fr then (gt es (t : Int)).q else (gt es (t : Int)).q - κ.q * (gt os (t : Int)).q) ∧ G = [(8, .int .i64 j)] ∧ M = .blk bk (eR κ) 42 :: .blk b1 (recs eR e1) 42 :: .blk b2 (recs eR os) 42 :: M1 ∧ I = bT e1 (kz + (m + h) + 1) :: I0) (n - fr) _ _ _ aP aG aD (⟨fr, es, by omega, hfr, rfl, hes, fun _ _ => rfl, fun t ht => by rw [if_pos ht], rfl, rfl, rfl⟩) ?_
 rintro kk G M I ⟨j, e1, hj1, hj, rfl, hel, hkeep, hdone, rfl, rfl, rfl⟩
 by_cases hjn : j < n
 ·have hgj : gt e1 (j : Int) = gt es (j : Int) := hkeep j (Nat.le_refl _)
  have hvj : Hv (bT e1 (kz + (m + h) + 1) :: I0) (iI (gt os (j : Int)) h) := (Hv.all (i := (j : Int)) ho (by omega) (Nat.le_refl _)).cons
  have hve : Hv (bT e1 (kz + (m + h) + 1) :: I0) (iI (gt e1 (j : Int)) kz) := by rw [hgj]; exact (Hv.all (i := (j : Int)) he (by omega) (Nat.le_refl _)).cons
  have hvk : Hv (bT e1 (kz + (m + h) + 1) :: I0) (iI κ m) := (Hv.mem hκ).cons
  have hS := lF (X := X) (w0 := w0) (M0 := .blk bk (eR κ) 42 :: .blk b1 (recs eR e1) 42 :: .blk b2 (recs eR os) 42 :: M1) (e := gt os (j : Int)) (k := h) (by omega) hvj
  by_cases h0 : (gt os (j : Int)).q = 0
  ·rw [(nP _).2 h0] at hS
   repeat (refine bD ?_)
   (refine aA rfl (hS) rfl rfl ?_; rintro _ _ _ ⟨rfl, rfl, rfl⟩; refine ⟨okF, ?_⟩)
   repeat (refine bD ?_)
   refine aN (n - (j + 1)) _ _ _ (by first | omega | (simp only [List.length_append, List.length_cons, List.length_nil]; omega)) aP aG aD (⟨j + 1, e1, by omega, by omega, rfl, hel, fun t ht => hkeep t (by omega), fun t ht => ?_, rfl, rfl, rfl⟩)
   by_cases htj : t = j
   ·subst htj
    rw [if_neg (by omega), hgj, h0, Rat.mul_zero, Rat.sub_eq_add_neg, Rat.neg_zero, Rat.add_zero]
   ·exact hdone t (by omega)
  ·have hs0 : ¬ (gt os (j : Int)).q.num.sign = 0 := fun h => h0 ((nP _).1 h)
   generalize (gt os (j : Int)).q.num.sign = sg at *
   repeat (refine bD ?_)
   (refine aA rfl (hS) rfl rfl ?_; rintro _ _ _ ⟨rfl, rfl, rfl⟩; refine ⟨okF, ?_⟩)
   repeat (refine bD ?_)
   (repeat refine aL ?_); refine dM 2 [0, 1, 2, 3, 4, 5, 6, 7, 8, 9, 10, 11, 12, 13, 14] [2, 2, 2, 2, 2, 1, 1, 2, 2, 2, 1, 0, 0, 0, 0] mixed (by kernel_rfl) ?_
   repeat (refine bD ?_)
   (refine aA rfl (aCF (k := m) (m := h) (by omega) hvk hvj) rfl rfl ?_; rintro _ _ _ ⟨rfl, e2, rfl, he2, rfl⟩; refine ⟨okF, ?_⟩)
   (refine aA rfl (aPE (k := kz) (m := m + h) (by omega) hve.cons (Hv.mem (List.Mem.head _))) rfl rfl ?_; rintro _ _ _ ⟨rfl, e3, rfl, he3, rfl⟩; refine ⟨okF, ?_⟩)
   repeat (refine yXf ?_)
   refine iB (vs := eR e3) rfl rfl rfl (Ones.one e3) kR (StAts.r e3 (by omega) rfl) rfl rfl ⟨okF, ?_⟩
   repeat (refine bD ?_)
   refine dV (φ := bT (st e1 (j : Int) e3) (kz + (m + h) + 1)) (Hv.stR aB aB) ?_
   refine aN (n - (j + 1)) _ _ _ (by first | omega | (simp only [List.length_append, List.length_cons, List.length_nil]; omega)) aP aG aD (⟨j + 1, st e1 (j : Int) e3, by omega, by omega, rfl, by rw [dP]; exact hel, fun t ht => ?_, fun t ht => ?_, rfl, rfl, rfl⟩)
   ·rw [uK (by omega), if_neg (by omega)]; exact hkeep t (by omega)
   ·rw [uK (by omega)]
    by_cases htj : t = j
    ·subst htj
     rw [if_pos rfl, if_neg (by omega), he3, he2, hgj]
    ·rw [if_neg htj]; exact hdone t (by omega)
 ·obtain rfl : j = n := by omega
  repeat (refine bD ?_)
  refine aNU (by first | exact .inl rfl | exact .inr rfl) rfl _ _ aG aD (⟨rfl, e1, hel, hdone, rfl, rfl⟩)
end
end Go.Proofs.YtgeagiikkeiioaaGreat

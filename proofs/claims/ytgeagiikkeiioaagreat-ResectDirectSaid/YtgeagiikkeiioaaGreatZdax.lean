/- The walk, kept once. resect: places as they came in; valid, canonical. Matrices in memory; made -/
import Derived.Test.YtgeagiikkeiioaaGreatZdaw
import Derived.Test.YtgeagiikkeiioaaGreatZdag
import Derived.Test.YtgeagiikkeiioaaGreatZdav
import Derived.Test.YtgeagiikkeiioaaGreatZdao
set_option linter.unusedSimpArgs false
set_option linter.unusedVariables false
set_option maxRecDepth 100000
set_option maxHeartbeats 4000000
namespace Go.Fx
theorem aI {p g : Prop} (h : g) (w : BoxP g → p := by (intro hh; (first | refine aK ?_ | refine aL ?_ | refine jT ?_ | refine iM ?_ | refine gF ?_ | refine fT ?_ | refine iN ?_ | refine gN ?_ | refine gD ?_ | refine fZ ?_ | refine jU ?_ | refine jV ?_ | refine jW ?_ | refine jX rfl ?_ | refine aJ ?_ | (refine gV ?_; first | refine gX rfl rfl rfl ?_ | (refine gU rfl rfl ?_; refine fK rfl rfl rfl okF ?_) | refine gZ rfl rfl (by omega) ?_ | refine iC rfl rfl (by omega) ?_) | (refine dD ?_; refine aH rfl (fun _ => eD rfl) rfl rfl ?_) | refine aH rfl (fun _ => bM rfl) rfl rfl ?_ | (refine gW ?_; first | refine aH rfl (fun _ => bX rfl rfl wF) rfl rfl ?_ | refine aH rfl (fun _ => bW rfl rfl wF) rfl rfl ?_ | refine aH rfl (fun _ => fD rfl rfl wF) rfl rfl ?_ | refine aH rfl (fun _ => fE rfl rfl (by omega) qF) rfl rfl ?_ | refine aH rfl (fun _ => fC rfl rfl (by omega) rfl) rfl rfl ?_ | refine aH rfl (fun _ => eQ rfl rfl) rfl rfl ?_ | refine aH rfl (fun _ => eT rfl rfl) rfl rfl ?_ | refine aH rfl (fun _ => dX rfl rfl) rfl rfl ?_ | refine aH rfl (fun _ => qN rfl rfl) rfl rfl ?_ | refine aH rfl (fun _ => tQ rfl rfl) rfl rfl ?_) | (refine dD ?_; first | refine aH rfl (fun _ => fB rfl wF) rfl rfl ?_) | (refine gM ?_; first | refine aH rfl (fun _ => dM rfl wF) rfl rfl ?_) | (refine gP ?_; first | refine aH rfl (fun _ => bY rfl) rfl rfl ?_ | refine aH rfl (fun _ => dY rfl rfl) rfl rfl ?_ | refine aH rfl (fun _ => dZ rfl rfl) rfl rfl ?_ | refine aH rfl (fun _ => eF rfl rfl rfl) rfl rfl ?_) | (refine iB ?_; first | refine gT rfl (by decide) rfl rfl ?_ | refine jE rfl (by decide) rfl rfl ?_) | (refine gY ?_; first | refine jB rfl rfl fO rfl rfl ?_ | refine jG fH rfl rfl fO aC jK rfl rfl ?_ | refine jF fH rfl rfl fO aC jK rfl rfl ?_ | refine aH rfl (fun _ => cZ rfl rfl fO) rfl rfl ?_) | (refine bO ?_; first | (apply dE; exact fH; exact rfl; (focus ((repeat (first | with_reducible exact List.mem_cons_self | with_reducible assumption | with_reducible refine List.mem_cons_of_mem _ ?_)); done)); exact atY; exact rfl; exact rfl) | (apply kT; exact fH; exact rfl; (focus ((repeat (first | with_reducible exact List.mem_cons_self | with_reducible assumption | with_reducible refine List.mem_cons_of_mem _ ?_)); done)); exact atY; exact rfl; exact rfl) | (apply kF; exact fH; exact rfl; (focus ((repeat (first | with_reducible exact List.mem_cons_self | with_reducible assumption | with_reducible refine List.mem_cons_of_mem _ ?_)); done)); exact atY; exact rfl; exact rfl) | (apply mO; exact fH; exact rfl; (focus ((repeat (first | with_reducible exact List.mem_cons_self | with_reducible assumption | with_reducible refine List.mem_cons_of_mem _ ?_)); done)); exact atY; exact rfl; exact rfl) | (apply jD; exact fH; exact rfl; (focus ((repeat (first | with_reducible exact List.mem_cons_self | with_reducible assumption | with_reducible refine List.mem_cons_of_mem _ ?_)); done)); exact pK; exact rfl; exact rfl) | (apply gQ; exact fH; exact rfl; (focus ((repeat (first | with_reducible exact List.mem_cons_self | with_reducible assumption | with_reducible refine List.mem_cons_of_mem _ ?_)); done)); exact pK; exact rfl; exact rfl) | (apply jC; exact fH; exact rfl; (focus ((repeat (first | with_reducible exact List.mem_cons_self | with_reducible assumption | with_reducible refine List.mem_cons_of_mem _ ?_)); done)); exact pK; exact rfl; exact rfl) | (apply jI; exact fH; exact rfl; (focus ((repeat (first | with_reducible exact List.mem_cons_self | with_reducible assumption | with_reducible refine List.mem_cons_of_mem _ ?_)); done)); exact pK; exact rfl; exact rfl)) | (refine iA ?_; first | refine aH rfl (fun _ => dB rfl rfl) rfl rfl ?_ | refine aH rfl (fun _ => bV rfl) rfl rfl ?_) | (refine jA ?_; first | refine kV rfl rfl rfl kQ stC rfl rfl ⟨okF, ?_⟩ | refine gI rfl rfl gG rY kQ rX rfl rfl ⟨okF, ?_⟩) | (refine iL ?_; first | refine dH rfl ?_ | refine cO rfl ?_ | refine jZ rfl (by omega) ?_ | refine lY rfl (by omega) ?_)); (repeat (first | refine aK ?_ | refine aL ?_ | refine jT ?_ | refine iM ?_ | refine gF ?_ | refine fT ?_ | refine iN ?_ | refine gN ?_ | refine gD ?_ | refine fZ ?_ | refine jU ?_ | refine jV ?_ | refine jW ?_ | refine jX rfl ?_ | refine aJ ?_ | (refine gV ?_; first | refine gX rfl rfl rfl ?_ | (refine gU rfl rfl ?_; refine fK rfl rfl rfl okF ?_) | refine gZ rfl rfl (by omega) ?_ | refine iC rfl rfl (by omega) ?_) | (refine dD ?_; refine aH rfl (fun _ => eD rfl) rfl rfl ?_) | refine aH rfl (fun _ => bM rfl) rfl rfl ?_ | (refine gW ?_; first | refine aH rfl (fun _ => bX rfl rfl wF) rfl rfl ?_ | refine aH rfl (fun _ => bW rfl rfl wF) rfl rfl ?_ | refine aH rfl (fun _ => fD rfl rfl wF) rfl rfl ?_ | refine aH rfl (fun _ => fE rfl rfl (by omega) qF) rfl rfl ?_ | refine aH rfl (fun _ => fC rfl rfl (by omega) rfl) rfl rfl ?_ | refine aH rfl (fun _ => eQ rfl rfl) rfl rfl ?_ | refine aH rfl (fun _ => eT rfl rfl) rfl rfl ?_ | refine aH rfl (fun _ => dX rfl rfl) rfl rfl ?_ | refine aH rfl (fun _ => qN rfl rfl) rfl rfl ?_ | refine aH rfl (fun _ => tQ rfl rfl) rfl rfl ?_) | (refine dD ?_; first | refine aH rfl (fun _ => fB rfl wF) rfl rfl ?_) | (refine gM ?_; first | refine aH rfl (fun _ => dM rfl wF) rfl rfl ?_) | (refine gP ?_; first | refine aH rfl (fun _ => bY rfl) rfl rfl ?_ | refine aH rfl (fun _ => dY rfl rfl) rfl rfl ?_ | refine aH rfl (fun _ => dZ rfl rfl) rfl rfl ?_ | refine aH rfl (fun _ => eF rfl rfl rfl) rfl rfl ?_) | (refine iB ?_; first | refine gT rfl (by decide) rfl rfl ?_ | refine jE rfl (by decide) rfl rfl ?_) | (refine gY ?_; first | refine jB rfl rfl fO rfl rfl ?_ | refine jG fH rfl rfl fO aC jK rfl rfl ?_ | refine jF fH rfl rfl fO aC jK rfl rfl ?_ | refine aH rfl (fun _ => cZ rfl rfl fO) rfl rfl ?_) | (refine bO ?_; first | (apply dE; exact fH; exact rfl; (focus ((repeat (first | with_reducible exact List.mem_cons_self | with_reducible assumption | with_reducible refine List.mem_cons_of_mem _ ?_)); done)); exact atY; exact rfl; exact rfl) | (apply kT; exact fH; exact rfl; (focus ((repeat (first | with_reducible exact List.mem_cons_self | with_reducible assumption | with_reducible refine List.mem_cons_of_mem _ ?_)); done)); exact atY; exact rfl; exact rfl) | (apply kF; exact fH; exact rfl; (focus ((repeat (first | with_reducible exact List.mem_cons_self | with_reducible assumption | with_reducible refine List.mem_cons_of_mem _ ?_)); done)); exact atY; exact rfl; exact rfl) | (apply mO; exact fH; exact rfl; (focus ((repeat (first | with_reducible exact List.mem_cons_self | with_reducible assumption | with_reducible refine List.mem_cons_of_mem _ ?_)); done)); exact atY; exact rfl; exact rfl) | (apply jD; exact fH; exact rfl; (focus ((repeat (first | with_reducible exact List.mem_cons_self | with_reducible assumption | with_reducible refine List.mem_cons_of_mem _ ?_)); done)); exact pK; exact rfl; exact rfl) | (apply gQ; exact fH; exact rfl; (focus ((repeat (first | with_reducible exact List.mem_cons_self | with_reducible assumption | with_reducible refine List.mem_cons_of_mem _ ?_)); done)); exact pK; exact rfl; exact rfl) | (apply jC; exact fH; exact rfl; (focus ((repeat (first | with_reducible exact List.mem_cons_self | with_reducible assumption | with_reducible refine List.mem_cons_of_mem _ ?_)); done)); exact pK; exact rfl; exact rfl) | (apply jI; exact fH; exact rfl; (focus ((repeat (first | with_reducible exact List.mem_cons_self | with_reducible assumption | with_reducible refine List.mem_cons_of_mem _ ?_)); done)); exact pK; exact rfl; exact rfl)) | (refine iA ?_; first | refine aH rfl (fun _ => dB rfl rfl) rfl rfl ?_ | refine aH rfl (fun _ => bV rfl) rfl rfl ?_) | (refine jA ?_; first | refine kV rfl rfl rfl kQ stC rfl rfl ⟨okF, ?_⟩ | refine gI rfl rfl gG rY kQ rX rfl rfl ⟨okF, ?_⟩) | (refine iL ?_; first | refine dH rfl ?_ | refine cO rfl ?_ | refine jZ rfl (by omega) ?_ | refine lY rfl (by omega) ?_))); exact hh.out)) : p := w ⟨h⟩
theorem yXh {p g : Prop} (h : g) (w : BoxP g → p := by (intro hh; (first | refine aK ?_ | refine aL ?_ | refine jT ?_ | refine iM ?_ | refine gF ?_ | refine fT ?_ | refine iN ?_ | refine gN ?_ | refine gD ?_ | refine fZ ?_ | refine jU ?_ | refine jV ?_ | refine jW ?_ | refine jX rfl ?_ | refine aJ ?_ | (refine gV ?_; first | refine gX rfl rfl rfl ?_ | (refine gU rfl rfl ?_; refine fK rfl rfl rfl okF ?_) | refine gZ rfl rfl (by omega) ?_ | refine iC rfl rfl (by omega) ?_) | (refine dD ?_; refine aH rfl (fun _ => eD rfl) rfl rfl ?_) | refine aH rfl (fun _ => bM rfl) rfl rfl ?_ | (refine gW ?_; first | refine aH rfl (fun _ => bX rfl rfl wF) rfl rfl ?_ | refine aH rfl (fun _ => bW rfl rfl wF) rfl rfl ?_ | refine aH rfl (fun _ => fD rfl rfl wF) rfl rfl ?_ | refine aH rfl (fun _ => fE rfl rfl (by omega) qF) rfl rfl ?_ | refine aH rfl (fun _ => fC rfl rfl (by omega) rfl) rfl rfl ?_ | refine aH rfl (fun _ => eQ rfl rfl) rfl rfl ?_ | refine aH rfl (fun _ => eT rfl rfl) rfl rfl ?_ | refine aH rfl (fun _ => dX rfl rfl) rfl rfl ?_ | refine aH rfl (fun _ => qN rfl rfl) rfl rfl ?_ | refine aH rfl (fun _ => tQ rfl rfl) rfl rfl ?_) | (refine dD ?_; first | refine aH rfl (fun _ => fB rfl wF) rfl rfl ?_) | (refine gM ?_; first | refine aH rfl (fun _ => dM rfl wF) rfl rfl ?_) | (refine gP ?_; first | refine aH rfl (fun _ => bY rfl) rfl rfl ?_ | refine aH rfl (fun _ => dY rfl rfl) rfl rfl ?_ | refine aH rfl (fun _ => dZ rfl rfl) rfl rfl ?_ | refine aH rfl (fun _ => eF rfl rfl rfl) rfl rfl ?_) | (refine iB ?_; first | refine gT rfl (by decide) rfl rfl ?_ | refine jE rfl (by decide) rfl rfl ?_) | (refine gY ?_; first | refine jB rfl rfl fO rfl rfl ?_ | refine jG fH rfl rfl fO aC jK rfl rfl ?_ | refine jF fH rfl rfl fO aC jK rfl rfl ?_ | refine aH rfl (fun _ => cZ rfl rfl fO) rfl rfl ?_) | (refine bO ?_; first | (apply dE; exact fH; exact rfl; (focus ((repeat (first | with_reducible exact List.mem_cons_self | with_reducible assumption | with_reducible refine List.mem_cons_of_mem _ ?_)); done)); exact atY; exact rfl; exact rfl) | (apply kT; exact fH; exact rfl; (focus ((repeat (first | with_reducible exact List.mem_cons_self | with_reducible assumption | with_reducible refine List.mem_cons_of_mem _ ?_)); done)); exact atY; exact rfl; exact rfl) | (apply kF; exact fH; exact rfl; (focus ((repeat (first | with_reducible exact List.mem_cons_self | with_reducible assumption | with_reducible refine List.mem_cons_of_mem _ ?_)); done)); exact atY; exact rfl; exact rfl) | (apply mO; exact fH; exact rfl; (focus ((repeat (first | with_reducible exact List.mem_cons_self | with_reducible assumption | with_reducible refine List.mem_cons_of_mem _ ?_)); done)); exact atY; exact rfl; exact rfl) | (apply jD; exact fH; exact rfl; (focus ((repeat (first | with_reducible exact List.mem_cons_self | with_reducible assumption | with_reducible refine List.mem_cons_of_mem _ ?_)); done)); exact pK; exact rfl; exact rfl) | (apply gQ; exact fH; exact rfl; (focus ((repeat (first | with_reducible exact List.mem_cons_self | with_reducible assumption | with_reducible refine List.mem_cons_of_mem _ ?_)); done)); exact pK; exact rfl; exact rfl) | (apply jC; exact fH; exact rfl; (focus ((repeat (first | with_reducible exact List.mem_cons_self | with_reducible assumption | with_reducible refine List.mem_cons_of_mem _ ?_)); done)); exact pK; exact rfl; exact rfl) | (apply jI; exact fH; exact rfl; (focus ((repeat (first | with_reducible exact List.mem_cons_self | with_reducible assumption | with_reducible refine List.mem_cons_of_mem _ ?_)); done)); exact pK; exact rfl; exact rfl)) | (refine iA ?_; first | refine aH rfl (fun _ => dB rfl rfl) rfl rfl ?_ | refine aH rfl (fun _ => bV rfl) rfl rfl ?_) | (refine iL ?_; first | refine dH rfl ?_ | refine cO rfl ?_ | refine jZ rfl (by omega) ?_ | refine lY rfl (by omega) ?_)); (repeat (first | refine aK ?_ | refine aL ?_ | refine jT ?_ | refine iM ?_ | refine gF ?_ | refine fT ?_ | refine iN ?_ | refine gN ?_ | refine gD ?_ | refine fZ ?_ | refine jU ?_ | refine jV ?_ | refine jW ?_ | refine jX rfl ?_ | refine aJ ?_ | (refine gV ?_; first | refine gX rfl rfl rfl ?_ | (refine gU rfl rfl ?_; refine fK rfl rfl rfl okF ?_) | refine gZ rfl rfl (by omega) ?_ | refine iC rfl rfl (by omega) ?_) | (refine dD ?_; refine aH rfl (fun _ => eD rfl) rfl rfl ?_) | refine aH rfl (fun _ => bM rfl) rfl rfl ?_ | (refine gW ?_; first | refine aH rfl (fun _ => bX rfl rfl wF) rfl rfl ?_ | refine aH rfl (fun _ => bW rfl rfl wF) rfl rfl ?_ | refine aH rfl (fun _ => fD rfl rfl wF) rfl rfl ?_ | refine aH rfl (fun _ => fE rfl rfl (by omega) qF) rfl rfl ?_ | refine aH rfl (fun _ => fC rfl rfl (by omega) rfl) rfl rfl ?_ | refine aH rfl (fun _ => eQ rfl rfl) rfl rfl ?_ | refine aH rfl (fun _ => eT rfl rfl) rfl rfl ?_ | refine aH rfl (fun _ => dX rfl rfl) rfl rfl ?_ | refine aH rfl (fun _ => qN rfl rfl) rfl rfl ?_ | refine aH rfl (fun _ => tQ rfl rfl) rfl rfl ?_) | (refine dD ?_; first | refine aH rfl (fun _ => fB rfl wF) rfl rfl ?_) | (refine gM ?_; first | refine aH rfl (fun _ => dM rfl wF) rfl rfl ?_) | (refine gP ?_; first | refine aH rfl (fun _ => bY rfl) rfl rfl ?_ | refine aH rfl (fun _ => dY rfl rfl) rfl rfl ?_ | refine aH rfl (fun _ => dZ rfl rfl) rfl rfl ?_ | refine aH rfl (fun _ => eF rfl rfl rfl) rfl rfl ?_) | (refine iB ?_; first | refine gT rfl (by decide) rfl rfl ?_ | refine jE rfl (by decide) rfl rfl ?_) | (refine gY ?_; first | refine jB rfl rfl fO rfl rfl ?_ | refine jG fH rfl rfl fO aC jK rfl rfl ?_ | refine jF fH rfl rfl fO aC jK rfl rfl ?_ | refine aH rfl (fun _ => cZ rfl rfl fO) rfl rfl ?_) | (refine bO ?_; first | (apply dE; exact fH; exact rfl; (focus ((repeat (first | with_reducible exact List.mem_cons_self | with_reducible assumption | with_reducible refine List.mem_cons_of_mem _ ?_)); done)); exact atY; exact rfl; exact rfl) | (apply kT; exact fH; exact rfl; (focus ((repeat (first | with_reducible exact List.mem_cons_self | with_reducible assumption | with_reducible refine List.mem_cons_of_mem _ ?_)); done)); exact atY; exact rfl; exact rfl) | (apply kF; exact fH; exact rfl; (focus ((repeat (first | with_reducible exact List.mem_cons_self | with_reducible assumption | with_reducible refine List.mem_cons_of_mem _ ?_)); done)); exact atY; exact rfl; exact rfl) | (apply mO; exact fH; exact rfl; (focus ((repeat (first | with_reducible exact List.mem_cons_self | with_reducible assumption | with_reducible refine List.mem_cons_of_mem _ ?_)); done)); exact atY; exact rfl; exact rfl) | (apply jD; exact fH; exact rfl; (focus ((repeat (first | with_reducible exact List.mem_cons_self | with_reducible assumption | with_reducible refine List.mem_cons_of_mem _ ?_)); done)); exact pK; exact rfl; exact rfl) | (apply gQ; exact fH; exact rfl; (focus ((repeat (first | with_reducible exact List.mem_cons_self | with_reducible assumption | with_reducible refine List.mem_cons_of_mem _ ?_)); done)); exact pK; exact rfl; exact rfl) | (apply jC; exact fH; exact rfl; (focus ((repeat (first | with_reducible exact List.mem_cons_self | with_reducible assumption | with_reducible refine List.mem_cons_of_mem _ ?_)); done)); exact pK; exact rfl; exact rfl) | (apply jI; exact fH; exact rfl; (focus ((repeat (first | with_reducible exact List.mem_cons_self | with_reducible assumption | with_reducible refine List.mem_cons_of_mem _ ?_)); done)); exact pK; exact rfl; exact rfl)) | (refine iA ?_; first | refine aH rfl (fun _ => dB rfl rfl) rfl rfl ?_ | refine aH rfl (fun _ => bV rfl) rfl rfl ?_) | (refine iL ?_; first | refine dH rfl ?_ | refine cO rfl ?_ | refine jZ rfl (by omega) ?_ | refine lY rfl (by omega) ?_))); exact hh.out)) : p := w ⟨h⟩
end Go.Fx
namespace Go.Proofs.YtgeagiikkeiioaaGreat
open Go Go.Fx
structure PW where
 x : RW
 y : RW
instance : Inhabited PW := ⟨⟨default, default⟩⟩
abbrev ePW (p : PW) : List Value := [.bool p.x.n1, .slice p.x.p1 p.x.g1.length p.x.c1, .bool p.x.n2, .slice p.x.p2 p.x.g2.length p.x.c2, .bool p.y.n1, .slice p.y.p1 p.y.g1.length p.y.c1, .bool p.y.n2, .slice p.y.p2 p.y.g2.length p.y.c2]
abbrev pvW (p : PW) : Value := .agg #[.bool p.x.n1, .slice p.x.p1 p.x.g1.length p.x.c1, .bool p.x.n2, .slice p.x.p2 p.x.g2.length p.x.c2, .bool p.y.n1, .slice p.y.p1 p.y.g1.length p.y.c1, .bool p.y.n2, .slice p.y.p2 p.y.g2.length p.y.c2]
instance : Sized ePW 8 := ⟨fun _ => rfl⟩
instance : Ones ePW := ⟨fun m u hu => by
 simp only [ePW, List.mem_cons, List.not_mem_nil, or_false] at hu
 rcases hu with rfl | rfl | rfl | rfl | rfl | rfl | rfl | rfl <;> rfl⟩
def PE.raw (p : PE) : PW := ⟨p.x.raw, p.y.raw⟩
def RW.small (r : RW) : Prop := r.g1.length ≤ 1000000000 ∧ r.g2.length ≤ 1000000000
def PW.small (p : PW) : Prop := p.x.small ∧ p.y.small
def PW.good (p : PW) : Prop := p.x.good ∧ p.y.good
instance PW.decG (p : PW) : Decidable p.good := by unfold PW.good; exact inferInstance
theorem PE.raw_good (p : PE) : p.raw.good := ⟨p.x.raw_good, p.y.raw_good⟩
structure IsPW (p : PW) (X : List Nat) (w : World) : Prop where
 x : IsW p.x X w
 y : IsW p.y X w
abbrev aAP (p : PW) : bD := IsPW p
instance (p : PW) : Fx.Good (IsPW p) := ⟨fun X Y w w' h he hY => ⟨Fx.Good.go (φ := IsW _) X Y w w' h.x he hY, Fx.Good.go (φ := IsW _) X Y w w' h.y he hY⟩⟩
structure AllW (rs : List RW) (X : List Nat) (w : World) : Prop where
 go : ∀ r ∈ rs, IsW r X w
abbrev aDK (rs : List RW) : bD := AllW rs
instance (rs : List RW) : Fx.Good (AllW rs) := ⟨fun X Y w w' h he hY => ⟨fun r hm => Fx.Good.go (φ := IsW _) X Y w w' (h.go r hm) he hY⟩⟩
structure AllPW (ps : List PW) (X : List Nat) (w : World) : Prop where
 go : ∀ p ∈ ps, IsPW p X w
abbrev mE (ps : List PW) : bD := AllPW ps
instance (ps : List PW) : Fx.Good (AllPW ps) := ⟨fun X Y w w' h he hY => ⟨fun r hm => Fx.Good.go (φ := IsPW _) X Y w w' (h.go r hm) he hY⟩⟩
theorem Hv.wAt {I : List bD} {rs : List RW} {i : Int} (h : Hv I (aDK rs)) (hi : 0 ≤ i ∧ i < rs.length) : Hv I (isW (gt rs i)) := ⟨fun X w hw => (h.go X w hw).go _ (bN hi)⟩
theorem Hv.pwAt {I : List bD} {ps : List PW} {i : Int} (h : Hv I (mE ps)) (hi : 0 ≤ i ∧ i < ps.length) : Hv I (aAP (gt ps i)) := ⟨fun X w hw => (h.go X w hw).go _ (bN hi)⟩
theorem Hv.pwx {I : List bD} {p : PW} (h : Hv I (aAP p)) : Hv I (isW p.x) := ⟨fun X w hw => (h.go X w hw).x⟩
theorem Hv.pwy {I : List bD} {p : PW} (h : Hv I (aAP p)) : Hv I (isW p.y) := ⟨fun X w hw => (h.go X w hw).y⟩
theorem Hv.toPW {I : List bD} {p : PE} {k : Nat} (h : Hv I (dJ p k)) (hk : k ≤ 1000000000000) : Hv I (aAP p.raw) := ⟨fun X w hw => ⟨RE.fit hk (h.go X w hw).x, RE.fit hk (h.go X w hw).y⟩⟩
theorem Hv.pw3 {I : List bD} {a b c : PW} (h1 : Hv I (aAP a)) (h2 : Hv I (aAP b)) (h3 : Hv I (aAP c)) : Hv I (mE [a, b, c]) := ⟨fun X w hw => ⟨fun p hp => by
 simp only [List.mem_cons, List.not_mem_nil, or_false] at hp
 rcases hp with rfl | rfl | rfl
 ·exact h1.go X w hw
 ·exact h2.go X w hw
 ·exact h3.go X w hw⟩⟩
theorem Hv.w3 {I : List bD} {a b c : RW} (h1 : Hv I (isW a)) (h2 : Hv I (isW b)) (h3 : Hv I (isW c)) : Hv I (aDK [a, b, c]) := ⟨fun X w hw => ⟨fun p hp => by
 simp only [List.mem_cons, List.not_mem_nil, or_false] at hp
 rcases hp with rfl | rfl | rfl
 ·exact h1.go X w hw
 ·exact h2.go X w hw
 ·exact h3.go X w hw⟩⟩
theorem Mem.pureR {X : List Nat} {w0 w : World} {M : List Ent} {I : List bD} {e : RE} {k : Nat} (h : Hv I (bP e k)) (hk : k ≤ 20000000000) (hw : Mem X w0 M I w) : e.raw.small := by
 have hr : IsR e k (muts M) w := h.go _ _ (fun ψ hm => (hw.imm ψ hm).2)
 have a := eU (IsI.le hr.num)
 have b := eU (IsI.le hr.den)
 constructor
 ·show (gr e.q.num.natAbs).length ≤ _; omega
 ·show (gr (e.q.den : Int).natAbs).length ≤ _; omega
theorem Mem.pureP {X : List Nat} {w0 w : World} {M : List Ent} {I : List bD} {p : PE} {k : Nat} (h : Hv I (dJ p k)) (hk : k ≤ 20000000000) (hw : Mem X w0 M I w) : p.raw.small := ⟨Mem.pureR h.pxH hk hw, Mem.pureR h.pyH hk hw⟩
theorem yI {P : Program} {f : FuncId} {vs : List Value} {X : List Nat} {w0 : World} {M : List Ent} {I : List bD} {K : Value → List Ent → List bD → Prop} {φ : Prop} (h : ∀ w, Mem X w0 M I w → φ) (k : φ → CD P f vs X w0 M I K) : CD P f vs X w0 M I K := ⟨fun w hw => (k (h w hw)).go w hw⟩
theorem oO {α : Type} [Inhabited α] {p : α → Prop} {l : List α} (h : ∀ j : Nat, j < l.length → p (gt l (j : Int))) : ∀ a ∈ l, p a := fun a ha => by
 obtain ⟨j, hj, rfl⟩ := List.mem_iff_getElem.1 ha
 have := h j hj
 rwa [kE hj] at this
section
variable {X : List Nat} {w0 : World} {M0 : List Ent} {I0 : List bD}
theorem sW {q : Option Addr} {c m : Nat} {ps : List PW} (hm : m = ps.length) (hn : ps.length ≤ 1000000000) (hs : ∀ p ∈ ps, p.small) (hq : bH q (recs ePW ps) ∈ I0) (ha : Hv I0 (mE ps)) :
  CD Tryz.prog 69 [.slice q m c] X w0 M0 I0 (fun v M I => M0 = M ∧ I0 = I ∧ v = .bool (B (∀ p ∈ ps, p.good))) := by
 subst hm
 refine bJ Tryz.func69 rfl Tryz.ntmps69 rfl ?_
 repeat (refine aI ?_)
 refine aV [5, 6] rfl (fun k G M I => ∃ i : Nat, i ≤ ps.length ∧ k = ps.length - i ∧ (∀ j : Nat, j < i → (gt ps (j : Int)).good) ∧ G = [(7, .int .i64 i)] ∧ M0 = M ∧ I0 = I) (ps.length) _ _ _ aO aF aD (⟨0, by omega, rfl, fun j hj => by omega, rfl, rfl, rfl⟩) ?_
 rintro k G M I ⟨i, hi, rfl, hg, rfl, rfl, rfl⟩
 by_cases hin : i < ps.length
 ·have hsi := hs _ (bN (ms := ps) (i := (i : Int)) (by omega))
  have hai : Hv I0 (aAP (gt ps (i : Int))) := ha.pwAt (by omega)
  have hV1 := fun M0 => rA (X := X) (w0 := w0) (M0 := M0) (I0 := I0) (r := (gt ps (i : Int)).x) hsi.1 hai.pwx
  have hV2 := fun M0 => rA (X := X) (w0 := w0) (M0 := M0) (I0 := I0) (r := (gt ps (i : Int)).y) hsi.2 hai.pwy
  repeat (refine aI ?_)
  (refine aB rfl rfl ?_; intro b; refine ⟨okF, ?_⟩)
  repeat (refine aI ?_)
  (refine aA rfl (hV1 _) rfl rfl ?_; rintro _ _ _ ⟨rfl, rfl, rfl⟩; refine ⟨okF, ?_⟩)
  repeat' (first | refine aI ?_ | refine aU rfl (fun h => ?_) (fun h => ?_) | refine aT rfl rfl (fun h => ?_) (fun h => ?_) | fail)
  ·have hb : ¬ (gt ps (i : Int)).x.good := by assumption
   refine aN (by first | exact .inl rfl | exact .inr rfl) rfl rfl _ _ aF aD (⟨rfl, rfl, congrArg Value.bool (aY (fun e => hb (e _ (bN (by omega))).1)).symm⟩)
  ·(refine aA rfl (hV2 _) rfl rfl ?_; rintro _ _ _ ⟨rfl, rfl, rfl⟩; refine ⟨okF, ?_⟩)
   repeat' (first | refine aI ?_ | refine aU rfl (fun h => ?_) (fun h => ?_) | refine aT rfl rfl (fun h => ?_) (fun h => ?_) | fail)
   ·have hb : ¬ (gt ps (i : Int)).y.good := by assumption
    refine aN (by first | exact .inl rfl | exact .inr rfl) rfl rfl _ _ aF aD (⟨rfl, rfl, congrArg Value.bool (aY (fun e => hb (e _ (bN (by omega))).2)).symm⟩)
   ·have h1 : ¬ ¬ (gt ps (i : Int)).x.good := by assumption
    have h2 : ¬ ¬ (gt ps (i : Int)).y.good := by assumption
    refine aP (ps.length - (i + 1)) _ _ _ (by first | omega | (simp only [List.length_append, List.length_cons, List.length_nil]; omega)) aO aF aD (⟨i + 1, by omega, rfl, fun j hj => ?_, rfl, rfl, rfl⟩)
    by_cases e : j = i
    ·subst e; exact ⟨Decidable.not_not.1 h1, Decidable.not_not.1 h2⟩
    ·exact hg j (by omega)
 ·repeat (refine aI ?_)
  refine aN (by first | exact .inl rfl | exact .inr rfl) rfl rfl _ _ aF aD (⟨rfl, rfl, congrArg Value.bool (bS (oO (fun j hj => hg j (by omega)))).symm⟩)
theorem rU {q : Option Addr} {c m : Nat} {ps : List RW} (hm : m = ps.length) (hn : ps.length ≤ 1000000000) (hs : ∀ p ∈ ps, p.small) (hq : bH q (recs eW ps) ∈ I0) (ha : Hv I0 (aDK ps)) :
  CD Tryz.prog 70 [.slice q m c] X w0 M0 I0 (fun v M I => M0 = M ∧ I0 = I ∧ v = .bool (B (∀ p ∈ ps, p.good))) := by
 subst hm
 refine bJ Tryz.func70 rfl Tryz.ntmps70 rfl ?_
 repeat (refine aI ?_)
 refine aV [5, 6] rfl (fun k G M I => ∃ i : Nat, i ≤ ps.length ∧ k = ps.length - i ∧ (∀ j : Nat, j < i → (gt ps (j : Int)).good) ∧ G = [(7, .int .i64 i)] ∧ M0 = M ∧ I0 = I) (ps.length) _ _ _ aO aF aD (⟨0, by omega, rfl, fun j hj => by omega, rfl, rfl, rfl⟩) ?_
 rintro k G M I ⟨i, hi, rfl, hg, rfl, rfl, rfl⟩
 by_cases hin : i < ps.length
 ·have hsi := hs _ (bN (ms := ps) (i := (i : Int)) (by omega))
  have hai : Hv I0 (isW (gt ps (i : Int))) := ha.wAt (by omega)
  have hV1 := fun M0 => rA (X := X) (w0 := w0) (M0 := M0) (I0 := I0) (r := gt ps (i : Int)) hsi hai
  repeat (refine aI ?_)
  (refine aB rfl rfl ?_; intro b; refine ⟨okF, ?_⟩)
  repeat (refine aI ?_)
  (refine aA rfl (hV1 _) rfl rfl ?_; rintro _ _ _ ⟨rfl, rfl, rfl⟩; refine ⟨okF, ?_⟩)
  repeat' (first | refine aI ?_ | refine aU rfl (fun h => ?_) (fun h => ?_) | refine aT rfl rfl (fun h => ?_) (fun h => ?_) | fail)
  ·have hb : ¬ (gt ps (i : Int)).good := by assumption
   refine aN (by first | exact .inl rfl | exact .inr rfl) rfl rfl _ _ aF aD (⟨rfl, rfl, congrArg Value.bool (aY (fun e => hb (e _ (bN (by omega))))).symm⟩)
  ·have h1 : ¬ ¬ (gt ps (i : Int)).good := by assumption
   refine aP (ps.length - (i + 1)) _ _ _ (by first | omega | (simp only [List.length_append, List.length_cons, List.length_nil]; omega)) aO aF aD (⟨i + 1, by omega, rfl, fun j hj => ?_, rfl, rfl, rfl⟩)
   by_cases e : j = i
   ·subst e; exact Decidable.not_not.1 h1
   ·exact hg j (by omega)
 ·repeat (refine aI ?_)
  refine aN (by first | exact .inl rfl | exact .inr rfl) rfl rfl _ _ aF aD (⟨rfl, rfl, congrArg Value.bool (bS (oO (fun j hj => hg j (by omega)))).symm⟩)
end
end Go.Proofs.YtgeagiikkeiioaaGreat
namespace Go.Proofs.YtgeagiikkeiioaaGreat
open Go Go.Fx
structure C4 where
 a : Value
 b : Value
 c : Value
 d : Value
abbrev e4 (x : C4) : List Value := [x.a, x.b, x.c, x.d]
instance : Inhabited C4 := ⟨⟨.bool false, .slice none 0 0, .bool false, .slice none 0 0⟩⟩
instance : Sized e4 4 := ⟨fun _ => rfl⟩
abbrev z4 : C4 := ⟨.bool false, .slice none 0 0, .bool false, .slice none 0 0⟩
abbrev t4 (e : RE) : C4 := ⟨.bool (B (e.q.num < 0)), .slice e.p1 (gr e.q.num.natAbs).length e.c1, .bool (B ((e.q.den : Int) < 0)), .slice e.p2 (gr (e.q.den : Int).natAbs).length e.c2⟩
theorem aCR (es : List RE) : recs e4 (es.map t4) = recs eR es := by
 induction es with
 | nil => rfl
 | cons x r ih =>
  have h1 : recs e4 ((x :: r).map t4) = e4 (t4 x) ++ recs e4 (r.map t4) := rfl
  have h2 : recs eR (x :: r) = eR x ++ recs eR r := rfl
  rw [h1, h2, ih]
structure HD where
 p : Option Addr
 n : Nat
 c : Nat
instance : Inhabited HD := ⟨⟨none, 0, 0⟩⟩
abbrev eH (h : HD) : List Value := [.slice h.p h.n h.c]
instance : Sized eH 1 := ⟨fun _ => rfl⟩
structure MR where
 b : Nat
 es : List RE
instance : Inhabited MR := ⟨⟨0, []⟩⟩
abbrev hdM (r : MR) : HD := ⟨some ⟨r.b, 0, none⟩, r.es.length, r.es.length⟩
abbrev eM (r : MR) : List Value := [.slice (some ⟨r.b, 0, none⟩) r.es.length r.es.length]
instance : Sized eM 1 := ⟨fun _ => rfl⟩
abbrev gK (r : MR) : Ent := .blk r.b (recs eR r.es) 42
theorem aLF (rows : List MR) : recs eH (rows.map hdM) = recs eM rows := by
 induction rows with
 | nil => rfl
 | cons x r ih =>
  have h1 : recs eH ((x :: r).map hdM) = eH (hdM x) ++ recs eH (r.map hdM) := rfl
  have h2 : recs eM (x :: r) = eM x ++ recs eM r := rfl
  rw [h1, h2, ih]
structure AllM (rows : List MR) (k : Nat) (X : List Nat) (w : World) : Prop where
 go : ∀ r ∈ rows, ∀ e ∈ r.es, IsR e k X w
abbrev allM (rows : List MR) (k : Nat) : bD := AllM rows k
instance (rows : List MR) (k : Nat) : Fx.Good (AllM rows k) := ⟨fun X Y w w' h he hY => ⟨fun r hr e hm => Fx.Good.go (φ := IsR _ _) X Y w w' (h.go r hr e hm) he hY⟩⟩
theorem Hv.snoc {I : List bD} {es : List RE} {e : RE} {k : Nat} (h1 : dL es k ∈ I) (h2 : bP e k ∈ I) : Hv I (dL (es ++ [e]) k) := ⟨fun X w hw => ⟨fun x hx => by
 rcases List.mem_append.1 hx with hx | hx
 ·exact (hw _ h1 : AllR es k X w).go x hx
 ·rw [List.mem_singleton.1 hx]; exact hw _ h2⟩⟩
theorem Hv.nilR {I : List bD} {k : Nat} : Hv I (dL [] k) := ⟨fun X w _ => ⟨fun x hx => by simp at hx⟩⟩
theorem Hv.nilM {I : List bD} {k : Nat} : Hv I (allM [] k) := ⟨fun X w _ => ⟨fun x hx => by simp at hx⟩⟩
theorem Hv.snocM {I : List bD} {rows : List MR} {r : MR} {k : Nat} (h1 : allM rows k ∈ I) (h2 : dL r.es k ∈ I) : Hv I (allM (rows ++ [r]) k) := ⟨fun X w hw => ⟨fun x hx => by
 rcases List.mem_append.1 hx with hx | hx
 ·exact (hw _ h1 : AllM rows k X w).go x hx
 ·rw [List.mem_singleton.1 hx]; exact (hw _ h2 : AllR r.es k X w).go⟩⟩
theorem aCL {α : Type} [Inhabited α] {A B : List α} {x : α} {i : Int} (h : i = A.length) : gt (A ++ x :: B) i = x := by
 subst h
 rw [kE (by simp)]
 simp
theorem wY {α : Type} {A B : List α} {x y : α} {i : Int} (h : i = A.length) : st (A ++ x :: B) i y = A ++ y :: B := by
 subst h
 simp [st]
theorem uE {α : Type} {n : Nat} {z : α} (h : 0 < n) : List.replicate n z = z :: List.replicate (n - 1) z := by
 obtain ⟨m, rfl⟩ : ∃ m, n = m + 1 := ⟨n - 1, by omega⟩
 rfl
theorem oF {α : Type} {enc : α → List Value} {sz : Nat} [h : Sized enc sz] (hsz : 0 < sz) (zz : α) (mm : Nat) : (madeCells (enc zz).toArray (mm * sz)).toList = recs enc (List.replicate mm zz) := by
 have hl : (enc zz).length = sz := h.len zz
 apply List.ext_getElem
 ·rw [Array.length_toList, size_madeCells, jL, List.length_replicate]
 ·intro i h1 h2
  rw [Array.length_toList, size_madeCells] at h1
  have hq : i / sz < mm := by rw [Nat.div_lt_iff_lt_mul hsz]; exact h1
  have hr : i % sz < sz := Nat.mod_lt _ hsz
  have hv : (enc zz)[i % sz]? = some ((enc zz)[i % sz]'(by omega)) := List.getElem?_eq_getElem (by omega)
  have := vS (enc := enc) (List.replicate mm zz) (i / sz) (i % sz) zz _ (by rw [List.getElem?_replicate, if_pos hq]) hv
  rw [Nat.div_add_mod'] at this
  have h3 := (List.getElem?_eq_some_iff.1 this).2
  rw [h3]
  simp [madeCells, hl, hr]
def MkP (R C : Nat) (F : Nat → Nat → Rat) (k : Nat) (M0 : List Ent) (I0 : List bD) (v : Value) (M : List Ent) (I : List bD) : Prop :=
 ∃ (bo : Nat) (rows : List MR), v = .slice (some ⟨bo, 0, none⟩) R R ∧ rows.length = R ∧ (∀ r ∈ rows, r.es.length = C) ∧ (rows.map (fun r => r.es.map (·.q)) = (List.range R).map (fun i => (List.range C).map (F i))) ∧
  M = .blk bo (recs eM rows) 34 :: (rows.map gK ++ M0) ∧ I = allM rows k :: I0
section
variable {P : Program} {n : Nat} {Q : Exit → Act → World → Prop} {G : Env} {X : List Nat} {w0 : World} {M M' : List Ent} {I : List bD}
theorem wI {ex : Exit} (h : M.Perm M') (k : ND n Q ex G X w0 M' I) : ND n Q ex G X w0 M I := zM (fun _ hw => hw.perm h) k
theorem uC {c : Code} (h : M.Perm M') (k : TD P n c Q G X w0 M' I) : TD P n c Q G X w0 M I := aAL (fun _ hw => hw.perm h) k
theorem aCJ {ops l : List Oper} {m : Fx.Mode} (h : M.Perm M') (k : RD P n ops Q m l G X w0 M' I) : RD P n ops Q m l G X w0 M I := vB (fun _ hw => hw.perm h) k
theorem wW {x o : Ent} {A B : List Ent} : (x :: o :: (A ++ B)).Perm (o :: ((A ++ [x]) ++ B)) := by
 refine (List.Perm.swap _ _ _).trans (List.Perm.cons _ ?_)
 rw [List.append_assoc]
 exact List.perm_middle.symm
end
section
variable {X : List Nat} {w0 : World} {M0 : List Ent} {I0 : List bD}
theorem aMF {g : FuncId} [FnOk Tryz.prog g] {fs cs : Array Value} {R C k0 : Nat} (hR : R ≤ 100) (hC : C ≤ 200) (F : Nat → Nat → Rat)
  (hg : ∀ M I, (∀ φ ∈ I0, φ ∈ I) → ∀ i j : Nat, i < R → j < C → CD Tryz.prog g (fs.toList ++ [.int .i64 (i : Int), .int .i64 (j : Int)] ++ cs.toList) X w0 M I (RQ (F i j) k0 M I)) :
  CD Tryz.prog 195 [.int .i64 (R : Int), .int .i64 (C : Int), .func (.func g) fs cs] X w0 M0 I0 (MkP R C F k0 M0 I0) := by
 refine vZ Tryz.func195 rfl Tryz.ntmps195 rfl ?_
 repeat (refine aW ?_)
 (refine jO (R) rfl rfl (by omega) (by omega) (by omega) (by omega) (oF (enc := eH) (by decide) ⟨none, 0, 0⟩ R) rfl rfl ?_; intro bo; refine ⟨okF, ?_⟩)
 refine dW (φ := allM [] k0) Hv.nilM ?_
 repeat (refine aW ?_)
 refine aV [1, 2, 7, 13] rfl (fun k G M I => ∃ (i : Nat) (rows : List MR), i ≤ R ∧ k = R - i ∧ rows.length = i ∧ (∀ r ∈ rows, r.es.length = C) ∧ (rows.map (fun r => r.es.map (·.q)) = (List.range i).map (fun i => (List.range C).map (F i))) ∧ G = [(14, .int .i64 i)] ∧ M = .blk bo (recs eH (rows.map hdM ++ List.replicate (R - i) ⟨none, 0, 0⟩)) 34 :: (rows.map gK ++ M0) ∧ I = allM rows k0 :: I0) (R) _ _ _ aO aF aD (⟨0, [], by omega, by omega, rfl, by simp, by simp, rfl, rfl, rfl⟩) ?_
 rintro k G M I ⟨i, rows, hi, rfl, hrl, hrc, hrF, rfl, rfl, rfl⟩
 by_cases hiR : i < R
 ·have hz := uE (n := R - i) (z := (⟨none, 0, 0⟩ : HD)) (by omega)
  repeat (refine aW ?_)
  (refine jO (C) rfl rfl (by omega) (by omega) (by omega) (by omega) (oF (enc := e4) (by decide) z4 C) rfl rfl ?_; intro bi; refine ⟨okF, ?_⟩)
  rw [hz]
  have hlh0 : ((rows.map hdM ++ (⟨none, 0, 0⟩ : HD) :: List.replicate (R - i - 1) ⟨none, 0, 0⟩).length : Int) = R := by simp; omega
  repeat (refine yXf ?_)
  refine kV rfl rfl rfl kQ (StAt.r1 (⟨some ⟨bi, 0, none⟩, C, C⟩ : HD) (by omega) rfl) rfl rfl ⟨okF, ?_⟩
  rw [wY (by simp; omega)]
  obtain ⟨hs, hhs⟩ : ∃ hs, hs = rows.map hdM ++ (⟨some ⟨bi, 0, none⟩, C, C⟩ : HD) :: List.replicate (R - i - 1) ⟨none, 0, 0⟩ := ⟨_, rfl⟩
  rw [← hhs]
  have hgh : gt hs (i : Int) = ⟨some ⟨bi, 0, none⟩, C, C⟩ := by rw [hhs]; exact aCL (by simp; omega)
  have hlh : hs.length = R := by rw [hhs]; simp; omega
  have hgp : (gt hs (i : Int)).p = some ⟨bi, 0, none⟩ := by rw [hgh]
  have hgn : (gt hs (i : Int)).n = C := by rw [hgh]
  have hgc : (gt hs (i : Int)).c = C := by rw [hgh]
  repeat (refine aW ?_)
  rw [hgp, hgn, hgc]
  refine dC (φ := dL [] k0) Hv.nilR ?_
  refine aV [1, 2, 7, 8, 13, 14, 26] rfl (fun k G M I => ∃ (j : Nat) (es : List RE), j ≤ C ∧ k = C - j ∧ es.length = j ∧ es.map (·.q) = (List.range j).map (F i) ∧ G = [(27, .int .i64 j)] ∧ M = .blk bi (recs e4 (es.map t4 ++ List.replicate (C - j) z4)) 42 :: .blk bo (recs eH hs) 34 :: (rows.map gK ++ M0) ∧ I = dL es k0 :: allM rows k0 :: I0) (C) _ _ _ aO aF aD (⟨0, [], by omega, by omega, rfl, rfl, rfl, rfl, rfl⟩) ?_
  rintro k G M I ⟨j, es, hj, rfl, hel, heF, rfl, rfl, rfl⟩
  by_cases hjC : j < C
  ·have hz2 := uE (n := C - j) (z := z4) (by omega)
   rw [hz2]
   have hl2 : ((es.map t4 ++ z4 :: List.replicate (C - j - 1) z4).length : Int) = C := by simp; omega
   repeat (refine aW ?_)
   (repeat refine aK ?_); refine bQ 1 [0, 1, 2, 3, 4, 5, 6, 7, 8, 9, 10] [1, 1, 1, 1, 1, 0, 0, 0, 0, 0, 0] mixed (by kernel_rfl) ?_
   repeat (refine aW ?_)
   rw [hgp, hgn, hgc]
   (refine xM rfl rfl (hg _ _ (fun φ h => List.Mem.tail _ (List.Mem.tail _ h)) i j hiR hjC) rfl rfl rfl ?_; rintro _ _ _ ⟨rfl, e, rfl, he, rfl⟩; refine ⟨okF, ?_⟩)
   repeat (refine yXf ?_)
   refine gI (vs := eR e) rfl rfl rfl (Ones.one e) kQ (StAts.r (t4 e) (by omega) rfl) rfl rfl ⟨okF, ?_⟩
   rw [wY (by simp; omega)]
   repeat (refine aW ?_)
   refine bI (φ := dL (es ++ [e]) k0) (Hv.snoc aC aC) ?_
   have e9 : es.map t4 ++ t4 e :: List.replicate (C - j - 1) z4 = (es ++ [e]).map t4 ++ List.replicate (C - (j + 1)) z4 := by simp [Nat.sub_sub]
   rw [e9]
   refine aP (C - (j + 1)) _ _ _ (by first | omega | (simp only [List.length_append, List.length_cons, List.length_nil]; omega)) aO aF aD (⟨j + 1, es ++ [e], by omega, rfl, by simp; omega, by simp [heF, List.range_succ, he], rfl, rfl, rfl⟩)
  ·obtain rfl : j = C := by omega
   rw [Nat.sub_self, List.replicate_zero, List.append_nil, aCR]
   have e8 : hs = (rows ++ [(⟨bi, es⟩ : MR)]).map hdM ++ List.replicate (R - (i + 1)) ⟨none, 0, 0⟩ := by rw [hhs]; simp [hel, Nat.sub_sub]
   repeat (refine aW ?_)
   rw [e8]
   refine bI (φ := allM (rows ++ [(⟨bi, es⟩ : MR)]) k0) (Hv.snocM aC aC) ?_
   refine wI (M' := .blk bo (recs eH ((rows ++ [(⟨bi, es⟩ : MR)]).map hdM ++ List.replicate (R - (i + 1)) ⟨none, 0, 0⟩)) 34 :: ((rows ++ [(⟨bi, es⟩ : MR)]).map gK ++ M0)) (by rw [List.map_append (f := gK)]; exact wW) ?_
   refine aP (R - (i + 1)) _ _ _ (by first | omega | (simp only [List.length_append, List.length_cons, List.length_nil]; omega)) aO aF aD (⟨i + 1, rows ++ [(⟨bi, es⟩ : MR)], by omega, rfl, by simp; omega, fun r hr => by rcases List.mem_append.1 hr with h | h; exact hrc r h; rw [List.mem_singleton.1 h]; exact hel, by rw [List.map_append, hrF, List.range_succ, List.map_append]; simp [heF], rfl, rfl, rfl⟩)
 ·obtain rfl : i = R := by omega
  have hz : List.replicate (i - i) (⟨none, 0, 0⟩ : HD) = [] := by rw [Nat.sub_self]; rfl
  rw [hz, List.append_nil, aLF]
  repeat (refine aW ?_)
  refine aN (by first | exact .inl rfl | exact .inr rfl) rfl rfl _ _ aF aD (⟨bo, rows, rfl, hrl, hrc, hrF, rfl, rfl⟩)
end
end Go.Proofs.YtgeagiikkeiioaaGreat

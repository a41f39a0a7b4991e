/- The walk, kept once. matrix.Check and its like, of matrices as they come in. matrix.Check, check, both, square; the document's Check; the law's code. Matrices and lists that are built by appending: rows of facts. -/
import Derived.Test.YtjbhdfpjnjedhaaGreatZqat
import Derived.Test.YtjbhdfpjnjedhaaGreatZqag
set_option linter.unusedSimpArgs false
set_option linter.unusedVariables false
set_option maxRecDepth 100000
set_option maxHeartbeats 4000000
namespace Go.Fx
theorem aJ {p g : Prop} (h : g) (w : BoxP g → p := by (intro hh; (first | refine aH ?_ | refine aI ?_ | refine jA ?_ | refine gV ?_ | refine fC ?_ | refine eQ ?_ | refine gT ?_ | refine gK ?_ | refine eY ?_ | refine fA ?_ | refine jF ?_ | refine jB ?_ | refine iZ ?_ | refine jC rfl ?_ | refine aN ?_ | (refine gI ?_; first | refine fM rfl rfl rfl ?_ | (refine fZ rfl rfl ?_; refine eF rfl rfl rfl okF ?_) | refine fK rfl rfl (by omega) ?_ | refine fU rfl rfl (by omega) ?_) | (refine bI ?_; refine aC rfl (fun _ => bY rfl) rfl rfl ?_) | refine aC rfl (fun _ => aY rfl) rfl rfl ?_ | (refine gB ?_; first | refine aC rfl (fun _ => bC rfl rfl wF) rfl rfl ?_ | refine aC rfl (fun _ => bE rfl rfl wF) rfl rfl ?_ | refine aC rfl (fun _ => dH rfl rfl wF) rfl rfl ?_ | refine aC rfl (fun _ => dI rfl rfl (by omega) qF) rfl rfl ?_ | refine aC rfl (fun _ => dJ rfl rfl (by omega) rfl) rfl rfl ?_ | refine aC rfl (fun _ => bW rfl rfl) rfl rfl ?_ | refine aC rfl (fun _ => dC rfl rfl) rfl rfl ?_ | refine aC rfl (fun _ => dA rfl rfl) rfl rfl ?_ | refine aC rfl (fun _ => oG rfl rfl) rfl rfl ?_ | refine aC rfl (fun _ => qA rfl rfl) rfl rfl ?_) | (refine bI ?_; first | refine aC rfl (fun _ => dE rfl wF) rfl rfl ?_) | (refine fV ?_; first | refine aC rfl (fun _ => bT rfl wF) rfl rfl ?_) | (refine fQ ?_; first | refine aC rfl (fun _ => bD rfl) rfl rfl ?_ | refine aC rfl (fun _ => bZ rfl rfl) rfl rfl ?_ | refine aC rfl (fun _ => bX rfl rfl) rfl rfl ?_ | refine aC rfl (fun _ => cB rfl rfl rfl) rfl rfl ?_) | (refine gF ?_; first | refine fJ rfl (by decide) rfl rfl ?_ | refine iO rfl (by decide) rfl rfl ?_) | (refine fO ?_; first | refine aC rfl (fun _ => bP rfl) rfl rfl ?_) | (refine gG ?_; first | refine iM rfl rfl iA rfl rfl ?_ | refine iP dX rfl rfl iA aB iU rfl rfl ?_ | refine iL dX rfl rfl iA aB iU rfl rfl ?_ | refine aC rfl (fun _ => bG rfl rfl iA) rfl rfl ?_) | (refine fT ?_; first | (apply gM; exact dX; exact rfl; (focus ((repeat (first | with_reducible exact List.mem_cons_self | with_reducible assumption | with_reducible refine List.mem_cons_of_mem _ ?_)); done)); exact yR; exact rfl; exact rfl) | (apply dG; exact dX; exact rfl; (focus ((repeat (first | with_reducible exact List.mem_cons_self | with_reducible assumption | with_reducible refine List.mem_cons_of_mem _ ?_)); done)); exact yR; exact rfl; exact rfl) | (apply lY; exact dX; exact rfl; (focus ((repeat (first | with_reducible exact List.mem_cons_self | with_reducible assumption | with_reducible refine List.mem_cons_of_mem _ ?_)); done)); exact yR; exact rfl; exact rfl) | (apply mF; exact dX; exact rfl; (focus ((repeat (first | with_reducible exact List.mem_cons_self | with_reducible assumption | with_reducible refine List.mem_cons_of_mem _ ?_)); done)); exact yR; exact rfl; exact rfl) | (apply fH; exact dX; exact rfl; (focus ((repeat (first | with_reducible exact List.mem_cons_self | with_reducible assumption | with_reducible refine List.mem_cons_of_mem _ ?_)); done)); exact nU; exact rfl; exact rfl) | (apply gH; exact dX; exact rfl; (focus ((repeat (first | with_reducible exact List.mem_cons_self | with_reducible assumption | with_reducible refine List.mem_cons_of_mem _ ?_)); done)); exact nU; exact rfl; exact rfl) | (apply iR; exact dX; exact rfl; (focus ((repeat (first | with_reducible exact List.mem_cons_self | with_reducible assumption | with_reducible refine List.mem_cons_of_mem _ ?_)); done)); exact nU; exact rfl; exact rfl) | (apply iK; exact dX; exact rfl; (focus ((repeat (first | with_reducible exact List.mem_cons_self | with_reducible assumption | with_reducible refine List.mem_cons_of_mem _ ?_)); done)); exact nU; exact rfl; exact rfl)) | (refine fP ?_; first | refine aC rfl (fun _ => bH rfl rfl) rfl rfl ?_ | refine aC rfl (fun _ => bA rfl) rfl rfl ?_) | (refine iC ?_; first | refine jR rfl rfl rfl kH stC rfl rfl ⟨okF, ?_⟩ | refine fD rfl rfl fB qV kH qQ rfl rfl ⟨okF, ?_⟩) | (refine gU ?_; first | refine bM rfl ?_ | refine bB rfl ?_ | refine jE rfl (by omega) ?_ | refine lH rfl (by omega) ?_)); (repeat (first | refine aH ?_ | refine aI ?_ | refine jA ?_ | refine gV ?_ | refine fC ?_ | refine eQ ?_ | refine gT ?_ | refine gK ?_ | refine eY ?_ | refine fA ?_ | refine jF ?_ | refine jB ?_ | refine iZ ?_ | refine jC rfl ?_ | refine aN ?_ | (refine gI ?_; first | refine fM rfl rfl rfl ?_ | (refine fZ rfl rfl ?_; refine eF rfl rfl rfl okF ?_) | refine fK rfl rfl (by omega) ?_ | refine fU rfl rfl (by omega) ?_) | (refine bI ?_; refine aC rfl (fun _ => bY rfl) rfl rfl ?_) | refine aC rfl (fun _ => aY rfl) rfl rfl ?_ | (refine gB ?_; first | refine aC rfl (fun _ => bC rfl rfl wF) rfl rfl ?_ | refine aC rfl (fun _ => bE rfl rfl wF) rfl rfl ?_ | refine aC rfl (fun _ => dH rfl rfl wF) rfl rfl ?_ | refine aC rfl (fun _ => dI rfl rfl (by omega) qF) rfl rfl ?_ | refine aC rfl (fun _ => dJ rfl rfl (by omega) rfl) rfl rfl ?_ | refine aC rfl (fun _ => bW rfl rfl) rfl rfl ?_ | refine aC rfl (fun _ => dC rfl rfl) rfl rfl ?_ | refine aC rfl (fun _ => dA rfl rfl) rfl rfl ?_ | refine aC rfl (fun _ => oG rfl rfl) rfl rfl ?_ | refine aC rfl (fun _ => qA rfl rfl) rfl rfl ?_) | (refine bI ?_; first | refine aC rfl (fun _ => dE rfl wF) rfl rfl ?_) | (refine fV ?_; first | refine aC rfl (fun _ => bT rfl wF) rfl rfl ?_) | (refine fQ ?_; first | refine aC rfl (fun _ => bD rfl) rfl rfl ?_ | refine aC rfl (fun _ => bZ rfl rfl) rfl rfl ?_ | refine aC rfl (fun _ => bX rfl rfl) rfl rfl ?_ | refine aC rfl (fun _ => cB rfl rfl rfl) rfl rfl ?_) | (refine gF ?_; first | refine fJ rfl (by decide) rfl rfl ?_ | refine iO rfl (by decide) rfl rfl ?_) | (refine fO ?_; first | refine aC rfl (fun _ => bP rfl) rfl rfl ?_) | (refine gG ?_; first | refine iM rfl rfl iA rfl rfl ?_ | refine iP dX rfl rfl iA aB iU rfl rfl ?_ | refine iL dX rfl rfl iA aB iU rfl rfl ?_ | refine aC rfl (fun _ => bG rfl rfl iA) rfl rfl ?_) | (refine fT ?_; first | (apply gM; exact dX; exact rfl; (focus ((repeat (first | with_reducible exact List.mem_cons_self | with_reducible assumption | with_reducible refine List.mem_cons_of_mem _ ?_)); done)); exact yR; exact rfl; exact rfl) | (apply dG; exact dX; exact rfl; (focus ((repeat (first | with_reducible exact List.mem_cons_self | with_reducible assumption | with_reducible refine List.mem_cons_of_mem _ ?_)); done)); exact yR; exact rfl; exact rfl) | (apply lY; exact dX; exact rfl; (focus ((repeat (first | with_reducible exact List.mem_cons_self | with_reducible assumption | with_reducible refine List.mem_cons_of_mem _ ?_)); done)); exact yR; exact rfl; exact rfl) | (apply mF; exact dX; exact rfl; (focus ((repeat (first | with_reducible exact List.mem_cons_self | with_reducible assumption | with_reducible refine List.mem_cons_of_mem _ ?_)); done)); exact yR; exact rfl; exact rfl) | (apply fH; exact dX; exact rfl; (focus ((repeat (first | with_reducible exact List.mem_cons_self | with_reducible assumption | with_reducible refine List.mem_cons_of_mem _ ?_)); done)); exact nU; exact rfl; exact rfl) | (apply gH; exact dX; exact rfl; (focus ((repeat (first | with_reducible exact List.mem_cons_self | with_reducible assumption | with_reducible refine List.mem_cons_of_mem _ ?_)); done)); exact nU; exact rfl; exact rfl) | (apply iR; exact dX; exact rfl; (focus ((repeat (first | with_reducible exact List.mem_cons_self | with_reducible assumption | with_reducible refine List.mem_cons_of_mem _ ?_)); done)); exact nU; exact rfl; exact rfl) | (apply iK; exact dX; exact rfl; (focus ((repeat (first | with_reducible exact List.mem_cons_self | with_reducible assumption | with_reducible refine List.mem_cons_of_mem _ ?_)); done)); exact nU; exact rfl; exact rfl)) | (refine fP ?_; first | refine aC rfl (fun _ => bH rfl rfl) rfl rfl ?_ | refine aC rfl (fun _ => bA rfl) rfl rfl ?_) | (refine iC ?_; first | refine jR rfl rfl rfl kH stC rfl rfl ⟨okF, ?_⟩ | refine fD rfl rfl fB qV kH qQ rfl rfl ⟨okF, ?_⟩) | (refine gU ?_; first | refine bM rfl ?_ | refine bB rfl ?_ | refine jE rfl (by omega) ?_ | refine lH rfl (by omega) ?_))); exact hh.out)) : p := w ⟨h⟩
theorem yXh {p g : Prop} (h : g) (w : BoxP g → p := by (intro hh; (first | refine aH ?_ | refine aI ?_ | refine jA ?_ | refine gV ?_ | refine fC ?_ | refine eQ ?_ | refine gT ?_ | refine gK ?_ | refine eY ?_ | refine fA ?_ | refine jF ?_ | refine jB ?_ | refine iZ ?_ | refine jC rfl ?_ | refine aN ?_ | (refine gI ?_; first | refine fM rfl rfl rfl ?_ | (refine fZ rfl rfl ?_; refine eF rfl rfl rfl okF ?_) | refine fK rfl rfl (by omega) ?_ | refine fU rfl rfl (by omega) ?_) | (refine bI ?_; refine aC rfl (fun _ => bY rfl) rfl rfl ?_) | refine aC rfl (fun _ => aY rfl) rfl rfl ?_ | (refine gB ?_; first | refine aC rfl (fun _ => bC rfl rfl wF) rfl rfl ?_ | refine aC rfl (fun _ => bE rfl rfl wF) rfl rfl ?_ | refine aC rfl (fun _ => dH rfl rfl wF) rfl rfl ?_ | refine aC rfl (fun _ => dI rfl rfl (by omega) qF) rfl rfl ?_ | refine aC rfl (fun _ => dJ rfl rfl (by omega) rfl) rfl rfl ?_ | refine aC rfl (fun _ => bW rfl rfl) rfl rfl ?_ | refine aC rfl (fun _ => dC rfl rfl) rfl rfl ?_ | refine aC rfl (fun _ => dA rfl rfl) rfl rfl ?_ | refine aC rfl (fun _ => oG rfl rfl) rfl rfl ?_ | refine aC rfl (fun _ => qA rfl rfl) rfl rfl ?_) | (refine bI ?_; first | refine aC rfl (fun _ => dE rfl wF) rfl rfl ?_) | (refine fV ?_; first | refine aC rfl (fun _ => bT rfl wF) rfl rfl ?_) | (refine fQ ?_; first | refine aC rfl (fun _ => bD rfl) rfl rfl ?_ | refine aC rfl (fun _ => bZ rfl rfl) rfl rfl ?_ | refine aC rfl (fun _ => bX rfl rfl) rfl rfl ?_ | refine aC rfl (fun _ => cB rfl rfl rfl) rfl rfl ?_) | (refine gF ?_; first | refine fJ rfl (by decide) rfl rfl ?_ | refine iO rfl (by decide) rfl rfl ?_) | (refine fO ?_; first | refine aC rfl (fun _ => bP rfl) rfl rfl ?_) | (refine gG ?_; first | refine iM rfl rfl iA rfl rfl ?_ | refine iP dX rfl rfl iA aB iU rfl rfl ?_ | refine iL dX rfl rfl iA aB iU rfl rfl ?_ | refine aC rfl (fun _ => bG rfl rfl iA) rfl rfl ?_) | (refine fT ?_; first | (apply gM; exact dX; exact rfl; (focus ((repeat (first | with_reducible exact List.mem_cons_self | with_reducible assumption | with_reducible refine List.mem_cons_of_mem _ ?_)); done)); exact yR; exact rfl; exact rfl) | (apply dG; exact dX; exact rfl; (focus ((repeat (first | with_reducible exact List.mem_cons_self | with_reducible assumption | with_reducible refine List.mem_cons_of_mem _ ?_)); done)); exact yR; exact rfl; exact rfl) | (apply lY; exact dX; exact rfl; (focus ((repeat (first | with_reducible exact List.mem_cons_self | with_reducible assumption | with_reducible refine List.mem_cons_of_mem _ ?_)); done)); exact yR; exact rfl; exact rfl) | (apply mF; exact dX; exact rfl; (focus ((repeat (first | with_reducible exact List.mem_cons_self | with_reducible assumption | with_reducible refine List.mem_cons_of_mem _ ?_)); done)); exact yR; exact rfl; exact rfl) | (apply fH; exact dX; exact rfl; (focus ((repeat (first | with_reducible exact List.mem_cons_self | with_reducible assumption | with_reducible refine List.mem_cons_of_mem _ ?_)); done)); exact nU; exact rfl; exact rfl) | (apply gH; exact dX; exact rfl; (focus ((repeat (first | with_reducible exact List.mem_cons_self | with_reducible assumption | with_reducible refine List.mem_cons_of_mem _ ?_)); done)); exact nU; exact rfl; exact rfl) | (apply iR; exact dX; exact rfl; (focus ((repeat (first | with_reducible exact List.mem_cons_self | with_reducible assumption | with_reducible refine List.mem_cons_of_mem _ ?_)); done)); exact nU; exact rfl; exact rfl) | (apply iK; exact dX; exact rfl; (focus ((repeat (first | with_reducible exact List.mem_cons_self | with_reducible assumption | with_reducible refine List.mem_cons_of_mem _ ?_)); done)); exact nU; exact rfl; exact rfl)) | (refine fP ?_; first | refine aC rfl (fun _ => bH rfl rfl) rfl rfl ?_ | refine aC rfl (fun _ => bA rfl) rfl rfl ?_) | (refine gU ?_; first | refine bM rfl ?_ | refine bB rfl ?_ | refine jE rfl (by omega) ?_ | refine lH rfl (by omega) ?_)); (repeat (first | refine aH ?_ | refine aI ?_ | refine jA ?_ | refine gV ?_ | refine fC ?_ | refine eQ ?_ | refine gT ?_ | refine gK ?_ | refine eY ?_ | refine fA ?_ | refine jF ?_ | refine jB ?_ | refine iZ ?_ | refine jC rfl ?_ | refine aN ?_ | (refine gI ?_; first | refine fM rfl rfl rfl ?_ | (refine fZ rfl rfl ?_; refine eF rfl rfl rfl okF ?_) | refine fK rfl rfl (by omega) ?_ | refine fU rfl rfl (by omega) ?_) | (refine bI ?_; refine aC rfl (fun _ => bY rfl) rfl rfl ?_) | refine aC rfl (fun _ => aY rfl) rfl rfl ?_ | (refine gB ?_; first | refine aC rfl (fun _ => bC rfl rfl wF) rfl rfl ?_ | refine aC rfl (fun _ => bE rfl rfl wF) rfl rfl ?_ | refine aC rfl (fun _ => dH rfl rfl wF) rfl rfl ?_ | refine aC rfl (fun _ => dI rfl rfl (by omega) qF) rfl rfl ?_ | refine aC rfl (fun _ => dJ rfl rfl (by omega) rfl) rfl rfl ?_ | refine aC rfl (fun _ => bW rfl rfl) rfl rfl ?_ | refine aC rfl (fun _ => dC rfl rfl) rfl rfl ?_ | refine aC rfl (fun _ => dA rfl rfl) rfl rfl ?_ | refine aC rfl (fun _ => oG rfl rfl) rfl rfl ?_ | refine aC rfl (fun _ => qA rfl rfl) rfl rfl ?_) | (refine bI ?_; first | refine aC rfl (fun _ => dE rfl wF) rfl rfl ?_) | (refine fV ?_; first | refine aC rfl (fun _ => bT rfl wF) rfl rfl ?_) | (refine fQ ?_; first | refine aC rfl (fun _ => bD rfl) rfl rfl ?_ | refine aC rfl (fun _ => bZ rfl rfl) rfl rfl ?_ | refine aC rfl (fun _ => bX rfl rfl) rfl rfl ?_ | refine aC rfl (fun _ => cB rfl rfl rfl) rfl rfl ?_) | (refine gF ?_; first | refine fJ rfl (by decide) rfl rfl ?_ | refine iO rfl (by decide) rfl rfl ?_) | (refine fO ?_; first | refine aC rfl (fun _ => bP rfl) rfl rfl ?_) | (refine gG ?_; first | refine iM rfl rfl iA rfl rfl ?_ | refine iP dX rfl rfl iA aB iU rfl rfl ?_ | refine iL dX rfl rfl iA aB iU rfl rfl ?_ | refine aC rfl (fun _ => bG rfl rfl iA) rfl rfl ?_) | (refine fT ?_; first | (apply gM; exact dX; exact rfl; (focus ((repeat (first | with_reducible exact List.mem_cons_self | with_reducible assumption | with_reducible refine List.mem_cons_of_mem _ ?_)); done)); exact yR; exact rfl; exact rfl) | (apply dG; exact dX; exact rfl; (focus ((repeat (first | with_reducible exact List.mem_cons_self | with_reducible assumption | with_reducible refine List.mem_cons_of_mem _ ?_)); done)); exact yR; exact rfl; exact rfl) | (apply lY; exact dX; exact rfl; (focus ((repeat (first | with_reducible exact List.mem_cons_self | with_reducible assumption | with_reducible refine List.mem_cons_of_mem _ ?_)); done)); exact yR; exact rfl; exact rfl) | (apply mF; exact dX; exact rfl; (focus ((repeat (first | with_reducible exact List.mem_cons_self | with_reducible assumption | with_reducible refine List.mem_cons_of_mem _ ?_)); done)); exact yR; exact rfl; exact rfl) | (apply fH; exact dX; exact rfl; (focus ((repeat (first | with_reducible exact List.mem_cons_self | with_reducible assumption | with_reducible refine List.mem_cons_of_mem _ ?_)); done)); exact nU; exact rfl; exact rfl) | (apply gH; exact dX; exact rfl; (focus ((repeat (first | with_reducible exact List.mem_cons_self | with_reducible assumption | with_reducible refine List.mem_cons_of_mem _ ?_)); done)); exact nU; exact rfl; exact rfl) | (apply iR; exact dX; exact rfl; (focus ((repeat (first | with_reducible exact List.mem_cons_self | with_reducible assumption | with_reducible refine List.mem_cons_of_mem _ ?_)); done)); exact nU; exact rfl; exact rfl) | (apply iK; exact dX; exact rfl; (focus ((repeat (first | with_reducible exact List.mem_cons_self | with_reducible assumption | with_reducible refine List.mem_cons_of_mem _ ?_)); done)); exact nU; exact rfl; exact rfl)) | (refine fP ?_; first | refine aC rfl (fun _ => bH rfl rfl) rfl rfl ?_ | refine aC rfl (fun _ => bA rfl) rfl rfl ?_) | (refine gU ?_; first | refine bM rfl ?_ | refine bB rfl ?_ | refine jE rfl (by omega) ?_ | refine lH rfl (by omega) ?_))); exact hh.out)) : p := w ⟨h⟩
end Go.Fx
namespace Go.Proofs.YtjbhdfpjnjedhaaGreat
open Go Go.Fx
/- ---------- IndexFunc, ContainsFunc of []fiducial/api.Rat ---------- -/
section
variable {X : List Nat} {w0 : World} {M0 : List Ent} {I0 : List aT}
theorem aPD {q : Option Addr} {a : List RW} {c : Nat} {g : FuncId} [FnOk Tryz.prog g] {fs cs : Array Value} (pr : RW → Prop) [DecidablePred pr] (hn : (a.length : Int) ≤ 9223372036854775807) (ha : aR q (recs eW a) ∈ I0)
  (hg : ∀ i : Nat, i < a.length → CD Tryz.prog g (fs.toList ++ [wv (gt a i)] ++ cs.toList) X w0 M0 I0 (fun v M I => M0 = M ∧ I0 = I ∧ v = .bool (B (pr (gt a i))))) :
  CD Tryz.prog 62 [.slice q a.length c, .func (.func g) fs cs] X w0 M0 I0 (fun v M I => M0 = M ∧ I0 = I ∧ ∃ r : Int, v = .int .i64 r ∧ ((∃ i : Nat, i < a.length ∧ r = i ∧ pr (gt a i) ∧ ∀ j : Nat, j < i → ¬ pr (gt a j)) ∨ (r = -1 ∧ ∀ j : Nat, j < a.length → ¬ pr (gt a j)))) := by
 refine bL Tryz.func62 rfl Tryz.ntmps62 rfl ?_
 repeat (refine aJ ?_)
 refine aZ [0, 1, 7] rfl (fun k G M I => ∃ i : Nat, i ≤ a.length ∧ k = a.length - i ∧ (∀ j : Nat, j < i → ¬ pr (gt a j)) ∧ G = [(8, .int .i64 i)] ∧ M = M0 ∧ I = I0) (a.length) _ _ _ aL aG aD (⟨0, by omega, rfl, fun j hj => by omega, rfl, rfl, rfl⟩) ?_
 rintro k G M I ⟨i, hi, rfl, hs, rfl, rfl, rfl⟩
 repeat' (first | refine aJ ?_ | refine bR rfl (fun h => ?_) (fun h => ?_) | refine bQ rfl rfl (fun h => ?_) (fun h => ?_) | fail)
 ·have hlt : i < a.length := by omega
  (refine eO rfl rfl (hg i hlt) rfl rfl rfl ?_; rintro _ _ _ ⟨rfl, rfl, rfl⟩; refine ⟨okF, ?_⟩)
  repeat' (first | refine aJ ?_ | refine bR rfl (fun h => ?_) (fun h => ?_) | refine bQ rfl rfl (fun h => ?_) (fun h => ?_) | fail)
  ·refine aM (by first | exact .inl rfl | exact .inr rfl) rfl rfl _ _ aG aD (⟨rfl, rfl, _, rfl, .inl ⟨i, hlt, rfl, by assumption, hs⟩⟩)
  ·refine aK (a.length - (i + 1)) _ _ _ (by first | omega | (simp only [List.length_append, List.length_cons, List.length_nil]; omega)) aL aG aD (⟨i + 1, by omega, rfl, fun j hj => ?_, rfl, rfl, rfl⟩)
   by_cases e : j = i
   ·subst e; assumption
   ·exact hs j (by omega)
 ·refine aM (by first | exact .inl rfl | exact .inr rfl) rfl rfl _ _ aG aD (⟨rfl, rfl, _, rfl, .inr ⟨rfl, fun j hj => hs j (by omega)⟩⟩)
theorem aQE {q : Option Addr} {a : List RW} {c : Nat} {g : FuncId} [FnOk Tryz.prog g] {fs cs : Array Value} (pr : RW → Prop) [DecidablePred pr] (hn : (a.length : Int) ≤ 9223372036854775807) (ha : aR q (recs eW a) ∈ I0)
  (hg : ∀ i : Nat, i < a.length → CD Tryz.prog g (fs.toList ++ [wv (gt a i)] ++ cs.toList) X w0 M0 I0 (fun v M I => M0 = M ∧ I0 = I ∧ v = .bool (B (pr (gt a i))))) :
  CD Tryz.prog 19 [.slice q a.length c, .func (.func g) fs cs] X w0 M0 I0 (fun v M I => M0 = M ∧ I0 = I ∧ v = .bool (B (∃ x ∈ a, pr x))) := by
 refine bL Tryz.func19 rfl Tryz.ntmps19 rfl ?_
 repeat (refine aJ ?_)
 (refine aA rfl (aPD pr hn ha hg) rfl rfl ?_; rintro _ _ _ ⟨rfl, rfl, r, rfl, h⟩; refine ⟨okF, ?_⟩)
 repeat (refine aJ ?_)
 refine aM (by first | exact .inl rfl | exact .inr rfl) rfl rfl _ _ aG aD (⟨rfl, rfl, congrArg Value.bool (lF ?_)⟩)
 rcases h with ⟨i, hi, rfl, hp, _⟩ | ⟨rfl, h⟩
 ·exact ⟨fun _ => ⟨gt a i, by rw [jD hi]; exact List.getElem_mem hi, hp⟩, fun _ => by omega⟩
 ·refine ⟨fun h => by omega, ?_⟩
  rintro ⟨x, hx, hp⟩
  obtain ⟨j, hj, rfl⟩ := List.mem_iff_getElem.1 hx
  exact absurd (by rw [jD hj]; exact hp) (h j hj)
end
/- ---------- IndexFunc, ContainsFunc of fiducial/api.Matrix ---------- -/
section
variable {X : List Nat} {w0 : World} {M0 : List Ent} {I0 : List aT}
theorem aPI {q : Option Addr} {a : List WL} {c : Nat} {g : FuncId} [FnOk Tryz.prog g] {fs cs : Array Value} (pr : WL → Prop) [DecidablePred pr] (hn : (a.length : Int) ≤ 9223372036854775807) (ha : aR q (recs eWL a) ∈ I0)
  (hg : ∀ i : Nat, i < a.length → CD Tryz.prog g (fs.toList ++ [lvW (gt a i)] ++ cs.toList) X w0 M0 I0 (fun v M I => M0 = M ∧ I0 = I ∧ v = .bool (B (pr (gt a i))))) :
  CD Tryz.prog 256 [.slice q a.length c, .func (.func g) fs cs] X w0 M0 I0 (fun v M I => M0 = M ∧ I0 = I ∧ ∃ r : Int, v = .int .i64 r ∧ ((∃ i : Nat, i < a.length ∧ r = i ∧ pr (gt a i) ∧ ∀ j : Nat, j < i → ¬ pr (gt a j)) ∨ (r = -1 ∧ ∀ j : Nat, j < a.length → ¬ pr (gt a j)))) := by
 refine bL Tryz.func256 rfl Tryz.ntmps256 rfl ?_
 repeat (refine aJ ?_)
 refine aZ [0, 1, 7] rfl (fun k G M I => ∃ i : Nat, i ≤ a.length ∧ k = a.length - i ∧ (∀ j : Nat, j < i → ¬ pr (gt a j)) ∧ G = [(8, .int .i64 i)] ∧ M = M0 ∧ I = I0) (a.length) _ _ _ aL aG aD (⟨0, by omega, rfl, fun j hj => by omega, rfl, rfl, rfl⟩) ?_
 rintro k G M I ⟨i, hi, rfl, hs, rfl, rfl, rfl⟩
 repeat' (first | refine aJ ?_ | refine bR rfl (fun h => ?_) (fun h => ?_) | refine bQ rfl rfl (fun h => ?_) (fun h => ?_) | fail)
 ·have hlt : i < a.length := by omega
  (refine eO rfl rfl (hg i hlt) rfl rfl rfl ?_; rintro _ _ _ ⟨rfl, rfl, rfl⟩; refine ⟨okF, ?_⟩)
  repeat' (first | refine aJ ?_ | refine bR rfl (fun h => ?_) (fun h => ?_) | refine bQ rfl rfl (fun h => ?_) (fun h => ?_) | fail)
  ·refine aM (by first | exact .inl rfl | exact .inr rfl) rfl rfl _ _ aG aD (⟨rfl, rfl, _, rfl, .inl ⟨i, hlt, rfl, by assumption, hs⟩⟩)
  ·refine aK (a.length - (i + 1)) _ _ _ (by first | omega | (simp only [List.length_append, List.length_cons, List.length_nil]; omega)) aL aG aD (⟨i + 1, by omega, rfl, fun j hj => ?_, rfl, rfl, rfl⟩)
   by_cases e : j = i
   ·subst e; assumption
   ·exact hs j (by omega)
 ·refine aM (by first | exact .inl rfl | exact .inr rfl) rfl rfl _ _ aG aD (⟨rfl, rfl, _, rfl, .inr ⟨rfl, fun j hj => hs j (by omega)⟩⟩)
theorem aGW {q : Option Addr} {a : List WL} {c : Nat} {g : FuncId} [FnOk Tryz.prog g] {fs cs : Array Value} (pr : WL → Prop) [DecidablePred pr] (hn : (a.length : Int) ≤ 9223372036854775807) (ha : aR q (recs eWL a) ∈ I0)
  (hg : ∀ i : Nat, i < a.length → CD Tryz.prog g (fs.toList ++ [lvW (gt a i)] ++ cs.toList) X w0 M0 I0 (fun v M I => M0 = M ∧ I0 = I ∧ v = .bool (B (pr (gt a i))))) :
  CD Tryz.prog 245 [.slice q a.length c, .func (.func g) fs cs] X w0 M0 I0 (fun v M I => M0 = M ∧ I0 = I ∧ v = .bool (B (∃ x ∈ a, pr x))) := by
 refine bL Tryz.func245 rfl Tryz.ntmps245 rfl ?_
 repeat (refine aJ ?_)
 (refine aA rfl (aPI pr hn ha hg) rfl rfl ?_; rintro _ _ _ ⟨rfl, rfl, r, rfl, h⟩; refine ⟨okF, ?_⟩)
 repeat (refine aJ ?_)
 refine aM (by first | exact .inl rfl | exact .inr rfl) rfl rfl _ _ aG aD (⟨rfl, rfl, congrArg Value.bool (lF ?_)⟩)
 rcases h with ⟨i, hi, rfl, hp, _⟩ | ⟨rfl, h⟩
 ·exact ⟨fun _ => ⟨gt a i, by rw [jD hi]; exact List.getElem_mem hi, hp⟩, fun _ => by omega⟩
 ·refine ⟨fun h => by omega, ?_⟩
  rintro ⟨x, hx, hp⟩
  obtain ⟨j, hj, rfl⟩ := List.mem_iff_getElem.1 hx
  exact absurd (by rw [jD hj]; exact hp) (h j hj)
end
section
variable {X : List Nat} {w0 : World} {M0 : List Ent} {I0 : List aT}
theorem aCL {r : RW} (hs : r.sml) (hw : Hv I0 (isW r)) : CD Tryz.prog 247 [wv r] X w0 M0 I0 (fun v M I => M0 = M ∧ I0 = I ∧ v = .bool (B (¬ r.good))) := by
 refine bN Tryz.func247 rfl Tryz.ntmps247 rfl ?_
 refine aH ?_
 refine aI ?_
 (refine aV rfl rfl rfl ?_; intro b; refine ⟨okF, ?_⟩)
 repeat (refine aJ ?_)
 (refine aA rfl (aNJ (r := r) hs hw) rfl rfl ?_; rintro _ _ _ ⟨rfl, rfl, rfl⟩; refine ⟨okF, ?_⟩)
 repeat (refine aJ ?_)
 refine aM (by first | exact .inl rfl | exact .inr rfl) rfl rfl _ _ aG aD (⟨rfl, rfl, rfl⟩)
theorem vF {r : WL} (hs : r.sml) (hw : aCP r ∈ I0) : CD Tryz.prog 223 [lvW r] X w0 M0 I0 (fun v M I => M0 = M ∧ I0 = I ∧ v = .bool (B r.good)) := by
 refine bK (φ := aR r.p (recs eW r.es)) (Hv.wlsl hw) ?_
 have hl := hs.1
 refine bN Tryz.func223 rfl Tryz.ntmps223 rfl ?_
 repeat (refine aJ ?_)
 (refine aA rfl (aQE (g := 247) (fs := #[]) (cs := #[]) (fun (x : RW) => ¬ x.good) (by omega) (List.Mem.head _) (fun i hi => aCL (hs.2 _ (eP (by omega))) (Hv.wlel (List.Mem.tail _ hw) (by omega)))) rfl rfl ?_; rintro _ _ _ ⟨rfl, rfl, rfl⟩; refine ⟨okF, ?_⟩)
 repeat (refine aJ ?_)
 refine aM (by first | exact .inl rfl | exact .inr rfl) rfl rfl _ _ aG aD (⟨rfl, rfl, congrArg Value.bool (lF ?_)⟩)
 exact ⟨fun e x hx => Decidable.of_not_not (fun hn => e ⟨x, hx, hn⟩), fun e ⟨x, hx, hn⟩ => hn (e x hx)⟩
end
end Go.Proofs.YtjbhdfpjnjedhaaGreat
namespace Go.Proofs.YtjbhdfpjnjedhaaGreat
open Go Go.Fx
def WM.code (m : WM) : Int := if m.ok then 0 else 1
def codeL (ms : List WM) : Int := if ∀ m ∈ ms, m.ok then 0 else 1
def bothC (a b : WM) : Int := if a.ok ∧ b.ok then (if a.rows.length = b.rows.length ∧ (gt a.rows 0).es.length = (gt b.rows 0).es.length then 0 else 4) else 1
def sqC (a : WM) : Int := if a.ok then (if a.rows.length = (gt a.rows 0).es.length then 0 else 4) else 1
section
variable {P : Program} {n : Nat} {Q : Exit → Act → World → Prop} {G : Env} {X : List Nat} {w0 : World} {M M' : List Ent} {I I' : List aT} {ops l : List Oper} {m : Fx.Mode} {ty : TypeId} {pos : String} {af : Array Edge} {g : Option (Nat × Bool)}
theorem oJ {d : Nat} {t : TypeId} {x : Operand} {q : Option Addr} {len c : Nat} (hx : ev G x = some (.slice q len c)) (hg : oZ ops G g = some true) (hd : Nat.ble (d + 1) n = true)
  (k : ∀ b, OkD m X w0 (.blk b [.slice q len c] t :: M) I ∧ RD P n ops Q m.nextE l ((d, .pointer (some ⟨b, 0, none⟩)) :: G) X w0 M (aR (some ⟨b, 0, none⟩) [.slice q len c] :: I)) :
  RD P n ops Q m (⟨some d, .box t x, ty, pos, af, g⟩ :: l) G X w0 M I := jX hx hg hd (fun b => ⟨(k b).1, aO .here (k b).2⟩)
end
section
variable {X : List Nat} {w0 : World} {M0 : List Ent} {I0 : List aT}
theorem aDE {m : WM} {b : Nat} {r : WL} (hR : 1 ≤ m.rows.length) (hs : r.sml) (h : Hv I0 (aCP r)) (hm : zJ m ∈ I0) (hb : aR (some ⟨b, 0, none⟩) [.slice m.p m.rows.length m.c] ∈ I0) :
  CD Tryz.prog 246 [lvW r, .pointer (some ⟨b, 0, none⟩)] X w0 M0 I0 (fun v M I => M0 = M ∧ I0 = I ∧ v = .bool (B (¬ (r.es.length = (gt m.rows 0).es.length ∧ r.good)))) := by
 refine bK (φ := aCP r) h ?_
 refine bK (φ := aR m.p (recs eWL m.rows)) (Hv.wmsl (List.Mem.tail _ hm)) ?_
 by_cases he : r.es.length = (gt m.rows 0).es.length
 ·have hq : B (¬ r.good) = B (¬ (r.es.length = (gt m.rows 0).es.length ∧ r.good)) := lF (not_congr ⟨fun h => ⟨he, h⟩, fun h => h.2⟩)
  refine bL Tryz.func246 rfl Tryz.ntmps246 rfl ?_
  repeat (refine aJ ?_)
  (refine aA rfl (vF (r := r) hs aB) rfl rfl ?_; rintro _ _ _ ⟨rfl, rfl, rfl⟩; refine ⟨okF, ?_⟩)
  repeat (refine aJ ?_)
  refine aM (by first | exact .inl rfl | exact .inr rfl) rfl rfl _ _ aG aD (⟨rfl, rfl, congrArg Value.bool hq⟩)
 ·have hn : ¬ (r.es.length = (gt m.rows 0).es.length ∧ r.good) := fun e => he e.1
  have hq : B (¬ (r.es.length = (gt m.rows 0).es.length ∧ r.good)) = true := bV hn
  refine bL Tryz.func246 rfl Tryz.ntmps246 rfl ?_
  repeat (refine aJ ?_)
  refine aM (by first | exact .inl rfl | exact .inr rfl) rfl rfl _ _ aG aD (⟨rfl, rfl, congrArg Value.bool hq.symm⟩)
theorem WM.code_ok {m : WM} (h : m.ok) : m.code = 0 := if_pos h
theorem WM.code_no {m : WM} (h : ¬ m.ok) : m.code = 1 := if_neg h
theorem aHW {m : WM} (hs : m.sml) (hm : zJ m ∈ I0) : CD Tryz.prog 219 [mvW m] X w0 M0 I0 (fun v M I => M0 = M ∧ I0 = I ∧ v = .int .i64 m.code) := by
 refine bK (φ := aR m.p (recs eWL m.rows)) (Hv.wmsl hm) ?_
 have hl := hs.1
 by_cases hsh : 1 ≤ m.rows.length ∧ m.rows.length ≤ 64 ∧ 1 ≤ (gt m.rows 0).es.length ∧ (gt m.rows 0).es.length ≤ 64
 ·obtain ⟨s1, s2, s3, s4⟩ := hsh
  by_cases hall : ∃ r ∈ m.rows, ¬ (r.es.length = (gt m.rows 0).es.length ∧ r.good)
  ·have hno : ¬ m.ok := fun e => by obtain ⟨r, hr, hn⟩ := hall; exact hn (e.2 r hr)
   rw [WM.code_no hno]
   refine bN Tryz.func219 rfl Tryz.ntmps219 rfl ?_
   refine aH ?_
   refine aI ?_
   (refine oJ rfl rfl rfl ?_; intro b; refine ⟨okF, ?_⟩)
   repeat (refine aJ ?_)
   (refine aA rfl (aGW (g := 246) (fs := #[]) (cs := #[.pointer (some ⟨b, 0, none⟩)]) (fun (r : WL) => ¬ (r.es.length = (gt m.rows 0).es.length ∧ r.good)) (by omega) aB (fun i hi => aDE (m := m) (b := b) s1 (hs.2 _ (eP (by omega))) (Hv.wmrow aB (by omega)) aB aB)) rfl rfl ?_; rintro _ _ _ ⟨rfl, rfl, rfl⟩; refine ⟨okF, ?_⟩)
   rw [bV hall]
   repeat (refine aJ ?_)
   refine aM (by first | exact .inl rfl | exact .inr rfl) rfl rfl _ _ aG aD (⟨rfl, rfl, rfl⟩)
  ·have hok : m.ok := ⟨⟨s1, s2, s3, s4⟩, fun r hr => Decidable.of_not_not (fun hn => hall ⟨r, hr, hn⟩)⟩
   rw [WM.code_ok hok]
   refine bN Tryz.func219 rfl Tryz.ntmps219 rfl ?_
   refine aH ?_
   refine aI ?_
   (refine oJ rfl rfl rfl ?_; intro b; refine ⟨okF, ?_⟩)
   repeat (refine aJ ?_)
   (refine aA rfl (aGW (g := 246) (fs := #[]) (cs := #[.pointer (some ⟨b, 0, none⟩)]) (fun (r : WL) => ¬ (r.es.length = (gt m.rows 0).es.length ∧ r.good)) (by omega) aB (fun i hi => aDE (m := m) (b := b) s1 (hs.2 _ (eP (by omega))) (Hv.wmrow aB (by omega)) aB aB)) rfl rfl ?_; rintro _ _ _ ⟨rfl, rfl, rfl⟩; refine ⟨okF, ?_⟩)
   rw [dP hall]
   repeat (refine aJ ?_)
   refine aM (by first | exact .inl rfl | exact .inr rfl) rfl rfl _ _ aG aD (⟨rfl, rfl, rfl⟩)
 ·have hno : ¬ m.ok := fun e => hsh e.1
  rw [WM.code_no hno]
  refine bN Tryz.func219 rfl Tryz.ntmps219 rfl ?_
  refine aH ?_
  refine aI ?_
  (refine oJ rfl rfl rfl ?_; intro b; refine ⟨okF, ?_⟩)
  by_cases c1 : 1 ≤ m.rows.length
  ·by_cases c2 : m.rows.length ≤ 64
   ·by_cases c3 : 1 ≤ (gt m.rows 0).es.length
    ·repeat (refine aJ ?_)
     refine aM (by first | exact .inl rfl | exact .inr rfl) rfl rfl _ _ aG aD (⟨rfl, rfl, rfl⟩)
    ·repeat (refine aJ ?_)
     refine aM (by first | exact .inl rfl | exact .inr rfl) rfl rfl _ _ aG aD (⟨rfl, rfl, rfl⟩)
   ·repeat (refine aJ ?_)
    refine aM (by first | exact .inl rfl | exact .inr rfl) rfl rfl _ _ aG aD (⟨rfl, rfl, rfl⟩)
  ·repeat (refine aJ ?_)
   refine aM (by first | exact .inl rfl | exact .inr rfl) rfl rfl _ _ aG aD (⟨rfl, rfl, rfl⟩)
theorem aDS {a : WM} (sa : a.sml) (ha : zJ a ∈ I0) : CD Tryz.prog 161 [mvW a] X w0 M0 I0 (fun v M I => M0 = M ∧ I0 = I ∧ v = .int .i64 (sqC a)) := by
 have hC := fun M0 I0 h1 => aHW (X := X) (w0 := w0) (M0 := M0) (I0 := I0) (m := a) sa h1
 unfold sqC
 by_cases hok : a.ok
 ·rw [WM.code_ok hok] at hC
  rw [if_pos hok]
  obtain ⟨a1, a2, a3, a4⟩ := hok.1
  refine bK (φ := aR a.p (recs eWL a.rows)) (Hv.wmsl ha) ?_
  refine bN Tryz.func161 rfl Tryz.ntmps161 rfl ?_
  repeat (refine aJ ?_)
  (refine aA rfl (hC _ _ aB) rfl rfl ?_; rintro _ _ _ ⟨rfl, rfl, rfl⟩; refine ⟨okF, ?_⟩)
  by_cases e1 : a.rows.length = (gt a.rows 0).es.length
  ·rw [if_pos e1]
   repeat (refine aJ ?_)
   refine aM (by first | exact .inl rfl | exact .inr rfl) rfl rfl _ _ aG aD (⟨rfl, rfl, rfl⟩)
  ·rw [if_neg e1]
   repeat (refine aJ ?_)
   refine aM (by first | exact .inl rfl | exact .inr rfl) rfl rfl _ _ aG aD (⟨rfl, rfl, rfl⟩)
 ·rw [WM.code_no hok] at hC
  rw [if_neg hok]
  refine bN Tryz.func161 rfl Tryz.ntmps161 rfl ?_
  repeat (refine aJ ?_)
  (refine aA rfl (hC _ _ aB) rfl rfl ?_; rintro _ _ _ ⟨rfl, rfl, rfl⟩; refine ⟨okF, ?_⟩)
  repeat (refine aJ ?_)
  refine aM (by first | exact .inl rfl | exact .inr rfl) rfl rfl _ _ aG aD (⟨rfl, rfl, rfl⟩)
end
end Go.Proofs.YtjbhdfpjnjedhaaGreat
namespace Go.Proofs.YtjbhdfpjnjedhaaGreat
open Go Go.Fx
structure AllL (rows : List RL) (k : Nat) (X : List Nat) (w : World) : Prop where
 go : ∀ r ∈ rows, IsL r k X w
abbrev kI (rows : List RL) (k : Nat) : aT := AllL rows k
instance (rows : List RL) (k : Nat) : Fx.Good (AllL rows k) := ⟨fun X Y w w' h he hY => ⟨fun r hm => Fx.Good.go (φ := IsL _ _) X Y w w' (h.go r hm) he hY⟩⟩
theorem Hv.nilL {I : List aT} {k : Nat} : Hv I (kI [] k) := ⟨fun X w _ => ⟨fun x hx => by simp at hx⟩⟩
theorem Hv.snocL {I : List aT} {rows : List RL} {r : RL} {k : Nat} (h1 : kI rows k ∈ I) (h2 : nT r k ∈ I) : Hv I (kI (rows ++ [r]) k) := ⟨fun X w hw => ⟨fun x hx => by
 rcases List.mem_append.1 hx with hx | hx
 ·exact (hw _ h1 : AllL rows k X w).go x hx
 ·rw [List.mem_singleton.1 hx]; exact hw _ h2⟩⟩
section
variable {X : List Nat} {w0 : World} {M : List Ent} {I : List aT}
theorem Mem.toL {w : World} {q : Option Addr} {c k : Nat} {es : List RE} {ty : TypeId} {sz : Nat} (h : Mem X w0 (.row q es.length c (recs eR es) ty sz :: M) I w) (ha : dL es k ∈ I) : Mem X w0 M (nT ⟨q, c, es⟩ k :: I) w := by
 have ho := h.rowS List.mem_cons_self
 have hc := h.rowLe List.mem_cons_self
 have h1 := h.freezeR .here
 refine (h1.add (φ := nT ⟨q, c, es⟩ k) ⟨(h1.sl (List.Mem.head _)), (((h1.imm _ (List.Mem.tail _ ha)).2 : AllR es k _ w)).go, ⟨hc, ho.2.imp id And.right⟩⟩).inc (.of fun φ hφ => ?_)
 rcases List.mem_cons.1 hφ with rfl | hφ
 ·exact List.Mem.head _
 ·exact List.Mem.tail _ (List.Mem.tail _ hφ)
theorem Mem.toX {w : World} {q : Option Addr} {c k : Nat} {rows : List RL} {ty : TypeId} {sz : Nat} (h : Mem X w0 (.row q rows.length c (recs eL rows) ty sz :: M) I w) (ha : kI rows k ∈ I) : Mem X w0 M (lT ⟨q, c, rows⟩ k :: I) w := by
 have ho := h.rowS List.mem_cons_self
 have hc := h.rowLe List.mem_cons_self
 have h1 := h.freezeR .here
 refine (h1.add (φ := lT ⟨q, c, rows⟩ k) ⟨(h1.sl (List.Mem.head _)), (((h1.imm _ (List.Mem.tail _ ha)).2 : AllL rows k _ w)).go, ⟨hc, ho.2.imp id And.right⟩⟩).inc (.of fun φ hφ => ?_)
 rcases List.mem_cons.1 hφ with rfl | hφ
 ·exact List.Mem.head _
 ·exact List.Mem.tail _ (List.Mem.tail _ hφ)
variable {P : Program} {n : Nat} {Q : Exit → Act → World → Prop} {G : Env}
theorem aXF {ops l : List Oper} {m : Fx.Mode} {q : Option Addr} {c k : Nat} {es : List RE} {ty : TypeId} {sz : Nat} (ha : dL es k ∈ I) (h : RD P n ops Q m l G X w0 M (nT ⟨q, c, es⟩ k :: I)) : RD P n ops Q m l G X w0 (.row q es.length c (recs eR es) ty sz :: M) I := xJ (fun _ hw => Mem.toL hw ha) h
theorem aXH {cd : Code} {q : Option Addr} {c k : Nat} {es : List RE} {ty : TypeId} {sz : Nat} (ha : dL es k ∈ I) (h : TD P n cd Q G X w0 M (nT ⟨q, c, es⟩ k :: I)) : TD P n cd Q G X w0 (.row q es.length c (recs eR es) ty sz :: M) I := aEN (fun _ hw => Mem.toL hw ha) h
theorem aJA {ex : Exit} {q : Option Addr} {c k : Nat} {es : List RE} {ty : TypeId} {sz : Nat} (ha : dL es k ∈ I) (h : ND n Q ex G X w0 M (nT ⟨q, c, es⟩ k :: I)) : ND n Q ex G X w0 (.row q es.length c (recs eR es) ty sz :: M) I := xP (fun _ hw => Mem.toL hw ha) h
theorem aXL {ex : Exit} {q : Option Addr} {c k : Nat} {rows : List RL} {ty : TypeId} {sz : Nat} (ha : kI rows k ∈ I) (h : ND n Q ex G X w0 M (lT ⟨q, c, rows⟩ k :: I)) : ND n Q ex G X w0 (.row q rows.length c (recs eL rows) ty sz :: M) I := xP (fun _ hw => Mem.toX hw ha) h
theorem aYV {ops l : List Oper} {m : Fx.Mode} {q : Option Addr} {c k : Nat} {rows : List RL} {ty : TypeId} {sz : Nat} (ha : kI rows k ∈ I) (h : RD P n ops Q m l G X w0 M (lT ⟨q, c, rows⟩ k :: I)) : RD P n ops Q m l G X w0 (.row q rows.length c (recs eL rows) ty sz :: M) I := xJ (fun _ hw => Mem.toX hw ha) h
end
end Go.Proofs.YtjbhdfpjnjedhaaGreat

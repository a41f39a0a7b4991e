/- The walk, kept once. matrix.Check and its like, of matrices as they come in. matrix.Check, check, both, square; the document's Check; the law's code. Matrices and lists that are built by appending: rows of facts. Determinants, plain: sums, expansion along the first row, what operations on rows do to it. Elimination, plain: what a step does to products, determinants, solutions; the reduced form; inverse matrices. matrix: the functions that the elements are made by; dot. matrix: Add, Sub, Scale, Mul, Transpose, Apply, Identity, of matrices and of what is none. The document's minor and determinant. Matrices that the document builds and then writes into: rows with room behind them. The document's unit matrix, copy, sum, product, transposed matrix. The document's product, transposed matrix, product with a list. matrix: Mul, Apply, of matrices and of what is none. Elimination of lists of rows is elimination of numbers. The determinant by elimination, one column at a time. matrix.Determinant. matrix.Inverse. Equality of lists and matrices; matrices of integers; the chapter's example. Matrices of integers; the chapter's example. The chapter's example. -/
import Derived.Test.YtmmmfphealhapaaGreatZrav
import Derived.Test.YtmmmfphealhapaaGreatZrag
set_option linter.unusedSimpArgs false
set_option linter.unusedVariables false
set_option maxRecDepth 100000
set_option maxHeartbeats 4000000
namespace Go.Fx
theorem aJ {p g : Prop} (h : g) (w : BoxP g → p := by (intro hh; (first | refine aH ?_ | refine aI ?_ | refine jU ?_ | refine iN ?_ | refine fU ?_ | refine fJ ?_ | refine iI ?_ | refine iB ?_ | refine fT ?_ | refine fP ?_ | refine jY ?_ | refine jR ?_ | refine jS ?_ | refine jX rfl ?_ | refine aL ?_ | (refine gX ?_; first | refine gQ rfl rfl rfl ?_ | (refine gJ rfl rfl ?_; refine fF rfl rfl rfl okF ?_) | refine gT rfl rfl (by omega) ?_ | refine gI rfl rfl (by omega) ?_) | (refine bT ?_; refine aD rfl (fun _ => dL rfl) rfl rfl ?_) | refine aD rfl (fun _ => bH rfl) rfl rfl ?_ | (refine gK ?_; first | refine aD rfl (fun _ => bK rfl rfl wF) rfl rfl ?_ | refine aD rfl (fun _ => bM rfl rfl wF) rfl rfl ?_ | refine aD rfl (fun _ => eQ rfl rfl wF) rfl rfl ?_ | refine aD rfl (fun _ => eO rfl rfl (by omega) qF) rfl rfl ?_ | refine aD rfl (fun _ => eP rfl rfl (by omega) rfl) rfl rfl ?_ | refine aD rfl (fun _ => dK rfl rfl) rfl rfl ?_ | refine aD rfl (fun _ => dX rfl rfl) rfl rfl ?_ | refine aD rfl (fun _ => dY rfl rfl) rfl rfl ?_ | refine aD rfl (fun _ => qB rfl rfl) rfl rfl ?_ | refine aD rfl (fun _ => sW rfl rfl) rfl rfl ?_) | (refine bT ?_; first | refine aD rfl (fun _ => dZ rfl wF) rfl rfl ?_) | (refine gM ?_; first | refine aD rfl (fun _ => dD rfl wF) rfl rfl ?_) | (refine gH ?_; first | refine aD rfl (fun _ => bL rfl) rfl rfl ?_ | refine aD rfl (fun _ => dH rfl rfl) rfl rfl ?_ | refine aD rfl (fun _ => dJ rfl rfl) rfl rfl ?_ | refine aD rfl (fun _ => dI rfl rfl rfl) rfl rfl ?_) | (refine gL ?_; first | refine gP rfl (by decide) rfl rfl ?_ | refine jH rfl (by decide) rfl rfl ?_) | (refine gN ?_; first | refine aD rfl (fun _ => cO rfl) rfl rfl ?_) | (refine gW ?_; first | refine jB rfl rfl iQ rfl rfl ?_ | refine jE fV rfl rfl iQ aB jL rfl rfl ?_ | refine jF fV rfl rfl iQ aB jL rfl rfl ?_ | refine aD rfl (fun _ => bS rfl rfl iQ) rfl rfl ?_) | (refine gV ?_; first | (apply iR; exact fV; exact rfl; (focus ((repeat (first | with_reducible exact List.mem_cons_self | with_reducible assumption | with_reducible refine List.mem_cons_of_mem _ ?_)); done)); exact atY; exact rfl; exact rfl) | (apply dW; exact fV; exact rfl; (focus ((repeat (first | with_reducible exact List.mem_cons_self | with_reducible assumption | with_reducible refine List.mem_cons_of_mem _ ?_)); done)); exact atY; exact rfl; exact rfl) | (apply nR; exact fV; exact rfl; (focus ((repeat (first | with_reducible exact List.mem_cons_self | with_reducible assumption | with_reducible refine List.mem_cons_of_mem _ ?_)); done)); exact atY; exact rfl; exact rfl) | (apply nV; exact fV; exact rfl; (focus ((repeat (first | with_reducible exact List.mem_cons_self | with_reducible assumption | with_reducible refine List.mem_cons_of_mem _ ?_)); done)); exact atY; exact rfl; exact rfl) | (apply jC; exact fV; exact rfl; (focus ((repeat (first | with_reducible exact List.mem_cons_self | with_reducible assumption | with_reducible refine List.mem_cons_of_mem _ ?_)); done)); exact rP; exact rfl; exact rfl) | (apply fI; exact fV; exact rfl; (focus ((repeat (first | with_reducible exact List.mem_cons_self | with_reducible assumption | with_reducible refine List.mem_cons_of_mem _ ?_)); done)); exact rP; exact rfl; exact rfl) | (apply jI; exact fV; exact rfl; (focus ((repeat (first | with_reducible exact List.mem_cons_self | with_reducible assumption | with_reducible refine List.mem_cons_of_mem _ ?_)); done)); exact rP; exact rfl; exact rfl) | (apply jG; exact fV; exact rfl; (focus ((repeat (first | with_reducible exact List.mem_cons_self | with_reducible assumption | with_reducible refine List.mem_cons_of_mem _ ?_)); done)); exact rP; exact rfl; exact rfl)) | (refine gU ?_; first | refine aD rfl (fun _ => bR rfl rfl) rfl rfl ?_ | refine aD rfl (fun _ => bJ rfl) rfl rfl ?_) | (refine iH ?_; first | refine lT rfl rfl rfl lN stC rfl rfl ⟨okF, ?_⟩ | refine gF rfl rfl fC qE lN qO rfl rfl ⟨okF, ?_⟩) | (refine iM ?_; first | refine bZ rfl ?_ | refine bQ rfl ?_ | refine jQ rfl (by omega) ?_ | refine lZ rfl (by omega) ?_)); (repeat (first | refine aH ?_ | refine aI ?_ | refine jU ?_ | refine iN ?_ | refine fU ?_ | refine fJ ?_ | refine iI ?_ | refine iB ?_ | refine fT ?_ | refine fP ?_ | refine jY ?_ | refine jR ?_ | refine jS ?_ | refine jX rfl ?_ | refine aL ?_ | (refine gX ?_; first | refine gQ rfl rfl rfl ?_ | (refine gJ rfl rfl ?_; refine fF rfl rfl rfl okF ?_) | refine gT rfl rfl (by omega) ?_ | refine gI rfl rfl (by omega) ?_) | (refine bT ?_; refine aD rfl (fun _ => dL rfl) rfl rfl ?_) | refine aD rfl (fun _ => bH rfl) rfl rfl ?_ | (refine gK ?_; first | refine aD rfl (fun _ => bK rfl rfl wF) rfl rfl ?_ | refine aD rfl (fun _ => bM rfl rfl wF) rfl rfl ?_ | refine aD rfl (fun _ => eQ rfl rfl wF) rfl rfl ?_ | refine aD rfl (fun _ => eO rfl rfl (by omega) qF) rfl rfl ?_ | refine aD rfl (fun _ => eP rfl rfl (by omega) rfl) rfl rfl ?_ | refine aD rfl (fun _ => dK rfl rfl) rfl rfl ?_ | refine aD rfl (fun _ => dX rfl rfl) rfl rfl ?_ | refine aD rfl (fun _ => dY rfl rfl) rfl rfl ?_ | refine aD rfl (fun _ => qB rfl rfl) rfl rfl ?_ | refine aD rfl (fun _ => sW rfl rfl) rfl rfl ?_) | (refine bT ?_; first | refine aD rfl (fun _ => dZ rfl wF) rfl rfl ?_) | (refine gM ?_; first | refine aD rfl (fun _ => dD rfl wF) rfl rfl ?_) | (refine gH ?_; first | refine aD rfl (fun _ => bL rfl) rfl rfl ?_ | refine aD rfl (fun _ => dH rfl rfl) rfl rfl ?_ | refine aD rfl (fun _ => dJ rfl rfl) rfl rfl ?_ | refine aD rfl (fun _ => dI rfl rfl rfl) rfl rfl ?_) | (refine gL ?_; first | refine gP rfl (by decide) rfl rfl ?_ | refine jH rfl (by decide) rfl rfl ?_) | (refine gN ?_; first | refine aD rfl (fun _ => cO rfl) rfl rfl ?_) | (refine gW ?_; first | refine jB rfl rfl iQ rfl rfl ?_ | refine jE fV rfl rfl iQ aB jL rfl rfl ?_ | refine jF fV rfl rfl iQ aB jL rfl rfl ?_ | refine aD rfl (fun _ => bS rfl rfl iQ) rfl rfl ?_) | (refine gV ?_; first | (apply iR; exact fV; exact rfl; (focus ((repeat (first | with_reducible exact List.mem_cons_self | with_reducible assumption | with_reducible refine List.mem_cons_of_mem _ ?_)); done)); exact atY; exact rfl; exact rfl) | (apply dW; exact fV; exact rfl; (focus ((repeat (first | with_reducible exact List.mem_cons_self | with_reducible assumption | with_reducible refine List.mem_cons_of_mem _ ?_)); done)); exact atY; exact rfl; exact rfl) | (apply nR; exact fV; exact rfl; (focus ((repeat (first | with_reducible exact List.mem_cons_self | with_reducible assumption | with_reducible refine List.mem_cons_of_mem _ ?_)); done)); exact atY; exact rfl; exact rfl) | (apply nV; exact fV; exact rfl; (focus ((repeat (first | with_reducible exact List.mem_cons_self | with_reducible assumption | with_reducible refine List.mem_cons_of_mem _ ?_)); done)); exact atY; exact rfl; exact rfl) | (apply jC; exact fV; exact rfl; (focus ((repeat (first | with_reducible exact List.mem_cons_self | with_reducible assumption | with_reducible refine List.mem_cons_of_mem _ ?_)); done)); exact rP; exact rfl; exact rfl) | (apply fI; exact fV; exact rfl; (focus ((repeat (first | with_reducible exact List.mem_cons_self | with_reducible assumption | with_reducible refine List.mem_cons_of_mem _ ?_)); done)); exact rP; exact rfl; exact rfl) | (apply jI; exact fV; exact rfl; (focus ((repeat (first | with_reducible exact List.mem_cons_self | with_reducible assumption | with_reducible refine List.mem_cons_of_mem _ ?_)); done)); exact rP; exact rfl; exact rfl) | (apply jG; exact fV; exact rfl; (focus ((repeat (first | with_reducible exact List.mem_cons_self | with_reducible assumption | with_reducible refine List.mem_cons_of_mem _ ?_)); done)); exact rP; exact rfl; exact rfl)) | (refine gU ?_; first | refine aD rfl (fun _ => bR rfl rfl) rfl rfl ?_ | refine aD rfl (fun _ => bJ rfl) rfl rfl ?_) | (refine iH ?_; first | refine lT rfl rfl rfl lN stC rfl rfl ⟨okF, ?_⟩ | refine gF rfl rfl fC qE lN qO rfl rfl ⟨okF, ?_⟩) | (refine iM ?_; first | refine bZ rfl ?_ | refine bQ rfl ?_ | refine jQ rfl (by omega) ?_ | refine lZ rfl (by omega) ?_))); exact hh.out)) : p := w ⟨h⟩
theorem yXh {p g : Prop} (h : g) (w : BoxP g → p := by (intro hh; (first | refine aH ?_ | refine aI ?_ | refine jU ?_ | refine iN ?_ | refine fU ?_ | refine fJ ?_ | refine iI ?_ | refine iB ?_ | refine fT ?_ | refine fP ?_ | refine jY ?_ | refine jR ?_ | refine jS ?_ | refine jX rfl ?_ | refine aL ?_ | (refine gX ?_; first | refine gQ rfl rfl rfl ?_ | (refine gJ rfl rfl ?_; refine fF rfl rfl rfl okF ?_) | refine gT rfl rfl (by omega) ?_ | refine gI rfl rfl (by omega) ?_) | (refine bT ?_; refine aD rfl (fun _ => dL rfl) rfl rfl ?_) | refine aD rfl (fun _ => bH rfl) rfl rfl ?_ | (refine gK ?_; first | refine aD rfl (fun _ => bK rfl rfl wF) rfl rfl ?_ | refine aD rfl (fun _ => bM rfl rfl wF) rfl rfl ?_ | refine aD rfl (fun _ => eQ rfl rfl wF) rfl rfl ?_ | refine aD rfl (fun _ => eO rfl rfl (by omega) qF) rfl rfl ?_ | refine aD rfl (fun _ => eP rfl rfl (by omega) rfl) rfl rfl ?_ | refine aD rfl (fun _ => dK rfl rfl) rfl rfl ?_ | refine aD rfl (fun _ => dX rfl rfl) rfl rfl ?_ | refine aD rfl (fun _ => dY rfl rfl) rfl rfl ?_ | refine aD rfl (fun _ => qB rfl rfl) rfl rfl ?_ | refine aD rfl (fun _ => sW rfl rfl) rfl rfl ?_) | (refine bT ?_; first | refine aD rfl (fun _ => dZ rfl wF) rfl rfl ?_) | (refine gM ?_; first | refine aD rfl (fun _ => dD rfl wF) rfl rfl ?_) | (refine gH ?_; first | refine aD rfl (fun _ => bL rfl) rfl rfl ?_ | refine aD rfl (fun _ => dH rfl rfl) rfl rfl ?_ | refine aD rfl (fun _ => dJ rfl rfl) rfl rfl ?_ | refine aD rfl (fun _ => dI rfl rfl rfl) rfl rfl ?_) | (refine gL ?_; first | refine gP rfl (by decide) rfl rfl ?_ | refine jH rfl (by decide) rfl rfl ?_) | (refine gN ?_; first | refine aD rfl (fun _ => cO rfl) rfl rfl ?_) | (refine gW ?_; first | refine jB rfl rfl iQ rfl rfl ?_ | refine jE fV rfl rfl iQ aB jL rfl rfl ?_ | refine jF fV rfl rfl iQ aB jL rfl rfl ?_ | refine aD rfl (fun _ => bS rfl rfl iQ) rfl rfl ?_) | (refine gV ?_; first | (apply iR; exact fV; exact rfl; (focus ((repeat (first | with_reducible exact List.mem_cons_self | with_reducible assumption | with_reducible refine List.mem_cons_of_mem _ ?_)); done)); exact atY; exact rfl; exact rfl) | (apply dW; exact fV; exact rfl; (focus ((repeat (first | with_reducible exact List.mem_cons_self | with_reducible assumption | with_reducible refine List.mem_cons_of_mem _ ?_)); done)); exact atY; exact rfl; exact rfl) | (apply nR; exact fV; exact rfl; (focus ((repeat (first | with_reducible exact List.mem_cons_self | with_reducible assumption | with_reducible refine List.mem_cons_of_mem _ ?_)); done)); exact atY; exact rfl; exact rfl) | (apply nV; exact fV; exact rfl; (focus ((repeat (first | with_reducible exact List.mem_cons_self | with_reducible assumption | with_reducible refine List.mem_cons_of_mem _ ?_)); done)); exact atY; exact rfl; exact rfl) | (apply jC; exact fV; exact rfl; (focus ((repeat (first | with_reducible exact List.mem_cons_self | with_reducible assumption | with_reducible refine List.mem_cons_of_mem _ ?_)); done)); exact rP; exact rfl; exact rfl) | (apply fI; exact fV; exact rfl; (focus ((repeat (first | with_reducible exact List.mem_cons_self | with_reducible assumption | with_reducible refine List.mem_cons_of_mem _ ?_)); done)); exact rP; exact rfl; exact rfl) | (apply jI; exact fV; exact rfl; (focus ((repeat (first | with_reducible exact List.mem_cons_self | with_reducible assumption | with_reducible refine List.mem_cons_of_mem _ ?_)); done)); exact rP; exact rfl; exact rfl) | (apply jG; exact fV; exact rfl; (focus ((repeat (first | with_reducible exact List.mem_cons_self | with_reducible assumption | with_reducible refine List.mem_cons_of_mem _ ?_)); done)); exact rP; exact rfl; exact rfl)) | (refine gU ?_; first | refine aD rfl (fun _ => bR rfl rfl) rfl rfl ?_ | refine aD rfl (fun _ => bJ rfl) rfl rfl ?_) | (refine iM ?_; first | refine bZ rfl ?_ | refine bQ rfl ?_ | refine jQ rfl (by omega) ?_ | refine lZ rfl (by omega) ?_)); (repeat (first | refine aH ?_ | refine aI ?_ | refine jU ?_ | refine iN ?_ | refine fU ?_ | refine fJ ?_ | refine iI ?_ | refine iB ?_ | refine fT ?_ | refine fP ?_ | refine jY ?_ | refine jR ?_ | refine jS ?_ | refine jX rfl ?_ | refine aL ?_ | (refine gX ?_; first | refine gQ rfl rfl rfl ?_ | (refine gJ rfl rfl ?_; refine fF rfl rfl rfl okF ?_) | refine gT rfl rfl (by omega) ?_ | refine gI rfl rfl (by omega) ?_) | (refine bT ?_; refine aD rfl (fun _ => dL rfl) rfl rfl ?_) | refine aD rfl (fun _ => bH rfl) rfl rfl ?_ | (refine gK ?_; first | refine aD rfl (fun _ => bK rfl rfl wF) rfl rfl ?_ | refine aD rfl (fun _ => bM rfl rfl wF) rfl rfl ?_ | refine aD rfl (fun _ => eQ rfl rfl wF) rfl rfl ?_ | refine aD rfl (fun _ => eO rfl rfl (by omega) qF) rfl rfl ?_ | refine aD rfl (fun _ => eP rfl rfl (by omega) rfl) rfl rfl ?_ | refine aD rfl (fun _ => dK rfl rfl) rfl rfl ?_ | refine aD rfl (fun _ => dX rfl rfl) rfl rfl ?_ | refine aD rfl (fun _ => dY rfl rfl) rfl rfl ?_ | refine aD rfl (fun _ => qB rfl rfl) rfl rfl ?_ | refine aD rfl (fun _ => sW rfl rfl) rfl rfl ?_) | (refine bT ?_; first | refine aD rfl (fun _ => dZ rfl wF) rfl rfl ?_) | (refine gM ?_; first | refine aD rfl (fun _ => dD rfl wF) rfl rfl ?_) | (refine gH ?_; first | refine aD rfl (fun _ => bL rfl) rfl rfl ?_ | refine aD rfl (fun _ => dH rfl rfl) rfl rfl ?_ | refine aD rfl (fun _ => dJ rfl rfl) rfl rfl ?_ | refine aD rfl (fun _ => dI rfl rfl rfl) rfl rfl ?_) | (refine gL ?_; first | refine gP rfl (by decide) rfl rfl ?_ | refine jH rfl (by decide) rfl rfl ?_) | (refine gN ?_; first | refine aD rfl (fun _ => cO rfl) rfl rfl ?_) | (refine gW ?_; first | refine jB rfl rfl iQ rfl rfl ?_ | refine jE fV rfl rfl iQ aB jL rfl rfl ?_ | refine jF fV rfl rfl iQ aB jL rfl rfl ?_ | refine aD rfl (fun _ => bS rfl rfl iQ) rfl rfl ?_) | (refine gV ?_; first | (apply iR; exact fV; exact rfl; (focus ((repeat (first | with_reducible exact List.mem_cons_self | with_reducible assumption | with_reducible refine List.mem_cons_of_mem _ ?_)); done)); exact atY; exact rfl; exact rfl) | (apply dW; exact fV; exact rfl; (focus ((repeat (first | with_reducible exact List.mem_cons_self | with_reducible assumption | with_reducible refine List.mem_cons_of_mem _ ?_)); done)); exact atY; exact rfl; exact rfl) | (apply nR; exact fV; exact rfl; (focus ((repeat (first | with_reducible exact List.mem_cons_self | with_reducible assumption | with_reducible refine List.mem_cons_of_mem _ ?_)); done)); exact atY; exact rfl; exact rfl) | (apply nV; exact fV; exact rfl; (focus ((repeat (first | with_reducible exact List.mem_cons_self | with_reducible assumption | with_reducible refine List.mem_cons_of_mem _ ?_)); done)); exact atY; exact rfl; exact rfl) | (apply jC; exact fV; exact rfl; (focus ((repeat (first | with_reducible exact List.mem_cons_self | with_reducible assumption | with_reducible refine List.mem_cons_of_mem _ ?_)); done)); exact rP; exact rfl; exact rfl) | (apply fI; exact fV; exact rfl; (focus ((repeat (first | with_reducible exact List.mem_cons_self | with_reducible assumption | with_reducible refine List.mem_cons_of_mem _ ?_)); done)); exact rP; exact rfl; exact rfl) | (apply jI; exact fV; exact rfl; (focus ((repeat (first | with_reducible exact List.mem_cons_self | with_reducible assumption | with_reducible refine List.mem_cons_of_mem _ ?_)); done)); exact rP; exact rfl; exact rfl) | (apply jG; exact fV; exact rfl; (focus ((repeat (first | with_reducible exact List.mem_cons_self | with_reducible assumption | with_reducible refine List.mem_cons_of_mem _ ?_)); done)); exact rP; exact rfl; exact rfl)) | (refine gU ?_; first | refine aD rfl (fun _ => bR rfl rfl) rfl rfl ?_ | refine aD rfl (fun _ => bJ rfl) rfl rfl ?_) | (refine iM ?_; first | refine bZ rfl ?_ | refine bQ rfl ?_ | refine jQ rfl (by omega) ?_ | refine lZ rfl (by omega) ?_))); exact hh.out)) : p := w ⟨h⟩
end Go.Fx
namespace Go.Proofs.YtmmmfphealhapaaGreat
open Go Go.Fx
/- ---------- IndexFunc, ContainsFunc of []fiducial/api.Rat ---------- -/
section
variable {X : List Nat} {w0 : World} {M0 : List Ent} {I0 : List bA}
end
/- ---------- IndexFunc, ContainsFunc of fiducial/api.Matrix ---------- -/
section
variable {X : List Nat} {w0 : World} {M0 : List Ent} {I0 : List bA}
end
section
variable {X : List Nat} {w0 : World} {M0 : List Ent} {I0 : List bA}
end
end Go.Proofs.YtmmmfphealhapaaGreat
namespace Go.Proofs.YtmmmfphealhapaaGreat
open Go Go.Fx
def WM.code (m : WM) : Int := if m.ok then 0 else 1
def codeL (ms : List WM) : Int := if ∀ m ∈ ms, m.ok then 0 else 1
def bothC (a b : WM) : Int := if a.ok ∧ b.ok then (if a.rows.length = b.rows.length ∧ (gt a.rows 0).es.length = (gt b.rows 0).es.length then 0 else 4) else 1
def sqC (a : WM) : Int := if a.ok then (if a.rows.length = (gt a.rows 0).es.length then 0 else 4) else 1
section
variable {P : Program} {n : Nat} {Q : Exit → Act → World → Prop} {G : Env} {X : List Nat} {w0 : World} {M M' : List Ent} {I I' : List bA} {ops l : List Oper} {m : Fx.Mode} {ty : TypeId} {pos : String} {af : Array Edge} {g : Option (Nat × Bool)}
theorem aOI {d : Nat} {t : TypeId} {x : Operand} {q : Option Addr} {len c : Nat} (hx : ev G x = some (.slice q len c)) (hg : nM ops G g = some true) (hd : Nat.ble (d + 1) n = true)
  (k : ∀ b, OkD m X w0 (.blk b [.slice q len c] t :: M) I ∧ RD P n ops Q m.nextE l ((d, .pointer (some ⟨b, 0, none⟩)) :: G) X w0 M (aX (some ⟨b, 0, none⟩) [.slice q len c] :: I)) :
  RD P n ops Q m (⟨some d, .box t x, ty, pos, af, g⟩ :: l) G X w0 M I := kG hx hg hd (fun b => ⟨(k b).1, aO .here (k b).2⟩)
end
section
variable {X : List Nat} {w0 : World} {M0 : List Ent} {I0 : List bA}
end
end Go.Proofs.YtmmmfphealhapaaGreat
namespace Go.Proofs.YtmmmfphealhapaaGreat
open Go Go.Fx
structure AllL (rows : List RL) (k : Nat) (X : List Nat) (w : World) : Prop where
 go : ∀ r ∈ rows, IsL r k X w
abbrev xG (rows : List RL) (k : Nat) : bA := AllL rows k
instance (rows : List RL) (k : Nat) : Fx.Good (AllL rows k) := ⟨fun X Y w w' h he hY => ⟨fun r hm => Fx.Good.go (φ := IsL _ _) X Y w w' (h.go r hm) he hY⟩⟩
theorem Hv.nilL {I : List bA} {k : Nat} : Hv I (xG [] k) := ⟨fun X w _ => ⟨fun x hx => by simp at hx⟩⟩
theorem Hv.snocL {I : List bA} {rows : List RL} {r : RL} {k : Nat} (h1 : xG rows k ∈ I) (h2 : isL r k ∈ I) : Hv I (xG (rows ++ [r]) k) := ⟨fun X w hw => ⟨fun x hx => by
 rcases List.mem_append.1 hx with hx | hx
 ·exact (hw _ h1 : AllL rows k X w).go x hx
 ·rw [List.mem_singleton.1 hx]; exact hw _ h2⟩⟩
section
variable {X : List Nat} {w0 : World} {M : List Ent} {I : List bA}
theorem Mem.toL {w : World} {q : Option Addr} {c k : Nat} {es : List RE} {ty : TypeId} {sz : Nat} (h : Mem X w0 (.row q es.length c (recs eR es) ty sz :: M) I w) (ha : xE es k ∈ I) : Mem X w0 M (isL ⟨q, c, es⟩ k :: I) w := by
 have ho := h.rowS List.mem_cons_self
 have hc := h.rowLe List.mem_cons_self
 have h1 := h.freezeR .here
 refine (h1.add (φ := isL ⟨q, c, es⟩ k) ⟨(h1.sl (List.Mem.head _)), (((h1.imm _ (List.Mem.tail _ ha)).2 : AllR es k _ w)).go, ⟨hc, ho.2.imp id And.right⟩⟩).inc (.of fun φ hφ => ?_)
 rcases List.mem_cons.1 hφ with rfl | hφ
 ·exact List.Mem.head _
 ·exact List.Mem.tail _ (List.Mem.tail _ hφ)
theorem Mem.toX {w : World} {q : Option Addr} {c k : Nat} {rows : List RL} {ty : TypeId} {sz : Nat} (h : Mem X w0 (.row q rows.length c (recs eL rows) ty sz :: M) I w) (ha : xG rows k ∈ I) : Mem X w0 M (pM ⟨q, c, rows⟩ k :: I) w := by
 have ho := h.rowS List.mem_cons_self
 have hc := h.rowLe List.mem_cons_self
 have h1 := h.freezeR .here
 refine (h1.add (φ := pM ⟨q, c, rows⟩ k) ⟨(h1.sl (List.Mem.head _)), (((h1.imm _ (List.Mem.tail _ ha)).2 : AllL rows k _ w)).go, ⟨hc, ho.2.imp id And.right⟩⟩).inc (.of fun φ hφ => ?_)
 rcases List.mem_cons.1 hφ with rfl | hφ
 ·exact List.Mem.head _
 ·exact List.Mem.tail _ (List.Mem.tail _ hφ)
variable {P : Program} {n : Nat} {Q : Exit → Act → World → Prop} {G : Env}
theorem aQQ {ex : Exit} {q : Option Addr} {c k : Nat} {es : List RE} {ty : TypeId} {sz : Nat} (ha : xE es k ∈ I) (h : ND n Q ex G X w0 M (isL ⟨q, c, es⟩ k :: I)) : ND n Q ex G X w0 (.row q es.length c (recs eR es) ty sz :: M) I := xS (fun _ hw => Mem.toL hw ha) h
end
end Go.Proofs.YtmmmfphealhapaaGreat
namespace Go.Proofs.YtmmmfphealhapaaGreat
def sm : Nat → (Nat → Rat) → Rat
 | 0, _ => 0
 | n + 1, f => sm n f + f n
def sk (j k : Nat) : Nat := if k < j then k else k + 1
def sgd (j : Nat) : Rat := if j % 2 = 0 then 1 else -1
def dt : Nat → (Nat → Nat → Rat) → Rat
 | 0, _ => 1
 | n + 1, f => sm (n + 1) (fun j => sgd j * f 0 j * dt n (fun i k => f (i + 1) (sk j k)))
def rwr (f : Nat → Nat → Rat) (i : Nat) (r : Nat → Rat) : Nat → Nat → Rat := fun a b => if a = i then r b else f a b
def swn (f : Nat → Nat → Rat) (i : Nat) : Nat → Nat → Rat := fun a b => if a = i then f (i + 1) b else if a = i + 1 then f i b else f a b
def usk (j k : Nat) : Nat := if k < j then k else k - 1
def tw (j k : Nat) : Rat := sgd j * sgd (usk j k)
def tr (r k a : Nat) : Nat := if a = r then k else if a = k then r else a
def elm (r k : Nat) (κ : Rat) (c : Nat → Rat) (f : Nat → Nat → Rat) : Nat → Nat → Rat := fun a b => if a = r then κ * f (tr r k r) b else f (tr r k a) b - c a * (κ * f (tr r k r) b)
def esg (r k : Nat) : Rat := if r = k then 1 else -1
end Go.Proofs.YtmmmfphealhapaaGreat
namespace Go.Proofs.YtmmmfphealhapaaGreat
def mulF (n : Nat) (f g : Nat → Nat → Rat) : Nat → Nat → Rat := fun i j => sm n (fun k => f i k * g k j)
def dlt (i j : Nat) : Rat := if i = j then 1 else 0
def ker (R C : Nat) (f : Nat → Nat → Rat) (z : Nat → Rat) : Prop := ∀ i, i < R → sm C (fun j => f i j * z j) = 0
structure Red (R C j : Nat) (f0 f : Nat → Nat → Rat) (pv : List Nat) (s : Rat) : Prop where
 hs : s ≠ 0
 det : ∀ m g, m ≤ C → dt R (mulF m f g) = s * dt R (mulF m f0 g)
 ker : ∀ z, ker R C f z ↔ ker R C f0 z
 len : pv.length ≤ R
 inc : ∀ t, t < pv.length → pv.getD t 0 < j ∧ t ≤ pv.getD t 0 ∧ ∀ u, u < t → pv.getD u 0 < pv.getD t 0
 unit : ∀ t i, t < pv.length → i < R → f i (pv.getD t 0) = dlt i t
 zero : ∀ i b, pv.length ≤ i → i < R → b < j → f i b = 0
end Go.Proofs.YtmmmfphealhapaaGreat
namespace Go.Proofs.YtmmmfphealhapaaGreat
open Go Go.Fx
abbrev pb (b : Nat) : Value := .pointer (some ⟨b, 0, none⟩)
abbrev bxX (b : Nat) (m : MX) : bA := aX (some ⟨b, 0, none⟩) [.slice m.p m.rows.length m.c]
def dotQ (n : Nat) (x y : List Rat) : Rat := sm n (fun t => x.getD t 0 * y.getD t 0)
section
variable {X : List Nat} {w0 : World} {M0 : List Ent} {I0 : List bA}
end
end Go.Proofs.YtmmmfphealhapaaGreat
namespace Go.Proofs.YtmmmfphealhapaaGreat
open Go Go.Fx
def MX.fit (m : MX) (R C : Nat) : Prop := m.dim R C ∧ (1 ≤ R ∧ R ≤ 64) ∧ (1 ≤ C ∧ C ≤ 64)
section
variable {P : Program} {f : FuncId} {vs : List Value} {X : List Nat} {w0 : World} {M : List Ent} {I : List bA}
end
section
variable {X : List Nat} {w0 : World} {M0 : List Ent} {I0 : List bA}
end
end Go.Proofs.YtmmmfphealhapaaGreat
namespace Go.Proofs.YtmmmfphealhapaaGreat
open Go Go.Fx
def hD (k : Nat) : Nat → Nat
 | 0 => k
 | n + 1 => (n + 2) * (k + hD k n + 1)
section
variable {X : List Nat} {w0 : World} {M0 : List Ent} {I0 : List bA}
end
end Go.Proofs.YtmmmfphealhapaaGreat
namespace Go.Proofs.YtmmmfphealhapaaGreat
open Go Go.Fx
structure MS where
 b : Nat
 c : Nat
 es : List RE
 tl : List Value
instance : Inhabited MS := ⟨⟨0, 0, [], []⟩⟩
abbrev eS (r : MS) : List Value := [.slice (some ⟨r.b, 0, none⟩) r.es.length r.c]
instance : Sized eS 1 := ⟨fun _ => rfl⟩
instance : Ones eS := ⟨fun m u hu => by simp only [eS, List.mem_cons, List.not_mem_nil, or_false] at hu; subst hu; rfl⟩
abbrev entS (r : MS) : Ent := .blk r.b (recs eR r.es ++ r.tl) 77
structure AllS (rows : List MS) (k : Nat) (X : List Nat) (w : World) : Prop where
 go : ∀ r ∈ rows, ∀ e ∈ r.es, IsR e k X w
abbrev allS (rows : List MS) (k : Nat) : bA := AllS rows k
instance (rows : List MS) (k : Nat) : Fx.Good (AllS rows k) := ⟨fun X Y w w' h he hY => ⟨fun r hr e hm => Fx.Good.go (φ := IsR _ _) X Y w w' (h.go r hr e hm) he hY⟩⟩
def Pw (rows : List MS) (R C : Nat) (V : Nat → Nat → Rat) : Prop := ∀ i j : Nat, i < R → j < C → (gt (gt rows (i : Int)).es (j : Int)).q = V i j
structure Shp (rows : List MS) (R C : Nat) : Prop where
 len : rows.length = R
 col : ∀ r ∈ rows, r.es.length = C ∧ C ≤ r.c
abbrev upR (r : MS) (j : Nat) (e : RE) : MS := ⟨r.b, r.c, st r.es (j : Int) e, r.tl⟩
def upS (rows : List MS) (i j : Nat) (e : RE) : List MS := rows.set i ⟨(gt rows (i : Int)).b, (gt rows (i : Int)).c, st (gt rows (i : Int)).es (j : Int) e, (gt rows (i : Int)).tl⟩
def MsP (R C : Nat) (V : Nat → Nat → Rat) (k : Nat) (M0 : List Ent) (I0 : List bA) (v : Value) (M : List Ent) (I : List bA) : Prop :=
 ∃ (bo co : Nat) (tlo : List Value) (rows : List MS), v = .slice (some ⟨bo, 0, none⟩) R co ∧ R ≤ co ∧ Shp rows R C ∧ Pw rows R C V ∧ M = .blk bo (recs eS rows ++ tlo) 70 :: (rows.map entS ++ M0) ∧ I = allS rows k :: I0
def MS.l (r : MS) : RL := ⟨some ⟨r.b, 0, none⟩, r.c, r.es⟩
def MS.x (bo co : Nat) (rows : List MS) : MX := ⟨some ⟨bo, 0, none⟩, co, rows.map MS.l⟩
section
variable {X : List Nat} {w0 : World} {M0 : List Ent} {I0 : List bA}
end
end Go.Proofs.YtmmmfphealhapaaGreat
namespace Go.Proofs.YtmmmfphealhapaaGreat
open Go Go.Fx
section
variable {X : List Nat} {w0 : World} {M0 : List Ent} {I0 : List bA}
end
end Go.Proofs.YtmmmfphealhapaaGreat
namespace Go.Proofs.YtmmmfphealhapaaGreat
open Go Go.Fx
section
variable {X : List Nat} {w0 : World} {M0 : List Ent} {I0 : List bA}
end
end Go.Proofs.YtmmmfphealhapaaGreat
namespace Go.Proofs.YtmmmfphealhapaaGreat
open Go Go.Fx
def mulC (a b : WM) : Int := if a.ok ∧ b.ok then (if (gt a.rows 0).es.length = b.rows.length then 0 else 4) else 1
def listC (a : WM) (x : WL) (n : Nat) : Int := if a.ok then (if x.good then (if x.es.length = n then 0 else 4) else 1) else 1
section
variable {X : List Nat} {w0 : World} {M0 : List Ent} {I0 : List bA}
end
end Go.Proofs.YtmmmfphealhapaaGreat
namespace Go.Proofs.YtmmmfphealhapaaGreat
open Go Go.Fx
def dimL (A : Mt) (R C : Nat) : Prop := A.length = R ∧ ∀ i, i < R → (rowAt A i).length = C
end Go.Proofs.YtmmmfphealhapaaGreat
namespace Go.Proofs.YtmmmfphealhapaaGreat
open Go Go.Fx
def dstep (A : Mt) (j x : Nat) : Mt := (swp A j x).mapIdx (fun i row => if i ≤ j then row else if row.getD j 0 = 0 then row else aHV j (row.getD j 0 / at2 (swp A j x) j j) (rowAt (swp A j x) j) row)
def blkF (A : Mt) (j : Nat) : Nat → Nat → Rat := fun i k => at2 A (i + j) (k + j)
end Go.Proofs.YtmmmfphealhapaaGreat
namespace Go.Proofs.YtmmmfphealhapaaGreat
open Go Go.Fx
/- regions that draw: some reads see all up to a first effect, others what stays up to a second one -/
section
variable {P : Program} {n : Nat} {Q : Exit → Act → World → Prop} {G : Env} {X : List Nat} {w0 : World} {M M' M1 Ms : List Ent} {I I' I1 Is : List bA}
def CsL (J1 J2 : Nat) (X : List Nat) (w0 : World) (M : List Ent) (I : List bA) (Ms : List Ent) (Is : List bA) : Nat → World → Prop := fun s w => (s ≤ J1 → Mem X w0 M I w) ∧ (s ≤ J2 → Mem X w0 Ms Is w)
end
section
variable {X : List Nat} {w0 : World} {M0 : List Ent} {I0 : List bA}
abbrev zRm : List Value := [.bool false, .slice none 0 0, .bool false, .slice none 0 0]
end
end Go.Proofs.YtmmmfphealhapaaGreat
namespace Go.Proofs.YtmmmfphealhapaaGreat
open Go Go.Fx
def besI (n : Nat) (A : Mt) : Mt := mkM n (n + n) (fun i j => if j < n then at2 A i j else dlt i (j - n))
def invM (n : Nat) (A : Mt) : Mt := mkM n n (fun i j => at2 (xD (besI n A) n).1 i (n + j))
section
variable {X : List Nat} {w0 : World} {M0 : List Ent} {I0 : List bA}
end
end Go.Proofs.YtmmmfphealhapaaGreat
namespace Go.Proofs.YtmmmfphealhapaaGreat
open Go Go.Fx
structure IL where
 p : Option Addr
 c : Nat
 xs : List Int
instance : Inhabited IL := ⟨⟨none, 0, []⟩⟩
abbrev eIL (r : IL) : List Value := [.slice r.p r.xs.length r.c]
abbrev ivL (r : IL) : Value := .slice r.p r.xs.length r.c
instance : Sized eIL 1 := ⟨fun _ => rfl⟩
instance : Ones eIL := ⟨fun m u hu => by simp only [eIL, List.mem_cons, List.not_mem_nil, or_false] at hu; subst hu; rfl⟩
/- ---------- IndexFunc, ContainsFunc of [][]int ---------- -/
section
variable {X : List Nat} {w0 : World} {M0 : List Ent} {I0 : List bA}
end
section
variable {X : List Nat} {w0 : World} {M0 : List Ent} {I0 : List bA}
end
end Go.Proofs.YtmmmfphealhapaaGreat
namespace Go.Proofs.YtmmmfphealhapaaGreat
open Go Go.Fx
structure AllIL (rows : List IL) (X : List Nat) (w : World) : Prop where
 go : ∀ r ∈ rows, Sl X w r.p (recs (eI .i64) r.xs)
abbrev allIL (rows : List IL) : bA := AllIL rows
instance (rows : List IL) : Fx.Good (AllIL rows) := ⟨fun X Y w w' h he hY => ⟨fun r hm => Sl.carry (h.go r hm) he hY⟩⟩
abbrev bxI (b : Nat) (q : Option Addr) (n c : Nat) : bA := aX (some ⟨b, 0, none⟩) [.slice q n c]
section
variable {X : List Nat} {w0 : World} {M0 : List Ent} {I0 : List bA}
end
end Go.Proofs.YtmmmfphealhapaaGreat
namespace Go.Proofs.YtmmmfphealhapaaGreat
open Go Go.Fx
def kA : Mt := [[((2 : Int) : Rat), ((1 : Int) : Rat)], [((1 : Int) : Rat), ((1 : Int) : Rat)]]
def kC : Mt := [[((1 : Int) : Rat), ((-1 : Int) : Rat)], [((-1 : Int) : Rat), ((2 : Int) : Rat)]]
section
variable {X : List Nat} {w0 : World} {M0 : List Ent} {I0 : List bA}
end
end Go.Proofs.YtmmmfphealhapaaGreat

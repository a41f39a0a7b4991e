/- Arrays: sliced, built, read by an index; loads of eight and twelve cells. resect: places in memory; minus, plus, dot, cross, side, scaled, zero. The walk, kept once. resect: places as they came in; valid, canonical. Matrices in memory; made -/
import Derived.Test.YtgeagiikkeiioaaGreatZgav
import Derived.Test.YtgeagiikkeiioaaGreatZgao
import Derived.Test.YtgeagiikkeiioaaGreatZgag
set_option linter.unusedSimpArgs false
set_option linter.unusedVariables false
set_option maxRecDepth 100000
set_option maxHeartbeats 4000000
namespace Go.Fx
section
variable {P : Program} {n : Nat} {G : Env} {ty : TypeId} {C : World → Prop}
end
def PlOk (place : Nat → Option (Nat × Nat)) : Nat → Nat → List Value → Prop
 | _, _, [] => True
 | k, off, v :: r => place k = some (off, v.cells.size) ∧ PlOk place (k + 1) (off + v.cells.size) r
def oJ (vals : List Value) : List Value := vals.flatMap (fun v => v.cells.toList)
theorem zL (place : Nat → Option (Nat × Nat)) : ∀ (vals : List Value) (k : Nat) (pre : List Value) (base : Array Value), base.size = pre.length + (oJ vals).length → base.toList.take pre.length = pre → PlOk place k pre.length vals →
  Instr.fill place base ((vals.zipIdx k).map (fun p => (p.2, p.1))) = some (pre ++ oJ vals).toArray
 | [], k, pre, base, hb, ht, _ => by
  have : base.toList = pre := by
   rw [← ht, List.take_of_length_le]
   simp [hb, oJ]
  simp [Instr.fill, oJ, ← this]
 | v :: r, k, pre, base, hb, ht, hc => by
  obtain ⟨h1, h2⟩ := hc
  have hcl : oJ (v :: r) = v.cells.toList ++ oJ r := by simp [oJ]
  have hcs : v.cells.toList.length = v.cells.size := by simp
  have hlt : pre.length + v.cells.size ≤ base.size := by
   rw [hb, hcl, List.length_append, hcs]; omega
  simp only [List.zipIdx_cons, List.map_cons, Instr.fill, h1]
  have hno : ¬ (v.cells.size ≠ v.cells.size ∨ pre.length + v.cells.size > base.size) := by omega
  have hf := zD pre.length v.cells.toList base (by simp; omega)
  simp only [Array.toArray_toList] at hf
  simp only [Bool.or_eq_true, decide_eq_true_eq, hno, if_false, hf]
  rw [zL place r (k + 1) (pre ++ v.cells.toList) _ ?_ ?_ (by rw [List.length_append, hcs]; exact h2)]
  ·rw [hcl, List.append_assoc]
  ·simp only [List.size_toArray, List.length_append, List.length_take, List.length_drop, hcs, Array.length_toList]
   rw [hcl, List.length_append, hcs] at hb
   omega
  ·simp only [ht]
   rw [List.take_append_of_le_length (by simp), List.take_of_length_le (by simp)]
section
variable {P : Program} {n : Nat} {G : Env} {ty : TypeId} {C : World → Prop}
theorem lV {t : TypeId} {parts : List (Nat × Operand)} {vals cells : List Value} {places : List (Nat × Nat)} {z : List Value} [ht : StructTy P t places z]
  (hp : parts.map (fun p => (p.1, ev G p.2)) = vals.zipIdx.map (fun p => (p.2, some p.1))) (hpl : PlOk (places.toArray[·]?) 0 0 vals) (hc : oJ vals = cells) (hz : z.length = cells.length) :
  Const P n G (.build t parts.toArray) ty C (.agg cells.toArray) := by
 refine eD (pvs := vals.zipIdx.map (fun p => (p.2, p.1))) (places := places) (z := z) (by rw [hp]; simp) ?_
 have := zL (places.toArray[·]?) vals 0 [] z.toArray (by simp [hc, hz]) (by simp) (by simpa using hpl)
 rw [hc] at this
 simpa using this
end
theorem uL {P : Program} {n : Nat} {G : Env} {ty : TypeId} {C : World → Prop} {t t' : TypeId} {x y : Operand} {a b : Bool} [ht : BoolTy P t] (hx : ev G x = some (.bool a)) (hy : ev G y = some (.bool b)) :
  Const P n G (.binOp .neq t x y t') ty C (.bool (!(a == b))) := by
 refine ⟨?_⟩
 intro s ha dst pos after guard w _
 have e1 : (eqGuard .neq t x y (.bool a) (.bool b)).run P w = .ok () w := rfl
 simp only [execOp, ha.ev hx, ha.ev hy, Sem.run_bind, e1, Result.andThen_ok, run_neq_bool _ t a b ht.und, Sem.run_pure]
theorem AtsZ.n8 {cs : List Value} {o : Nat} {a b c d e f g h : Value} (h0 : cs[o]? = some a) (h1 : cs[o + 1]? = some b) (h2 : cs[o + 2]? = some c) (h3 : cs[o + 3]? = some d) (h4 : cs[o + 4]? = some e) (h5 : cs[o + 5]? = some f) (h6 : cs[o + 6]? = some g) (h7 : cs[o + 7]? = some h) : AtsZ cs o [a, b, c, d, e, f, g, h] 8 := ⟨⟨fun j v hj => by
 match j, hj with
 | 0, hj => simp at hj; subst hj; exact h0
 | 1, hj => simp at hj; subst hj; exact h1
 | 2, hj => simp at hj; subst hj; exact h2
 | 3, hj => simp at hj; subst hj; exact h3
 | 4, hj => simp at hj; subst hj; exact h4
 | 5, hj => simp at hj; subst hj; exact h5
 | 6, hj => simp at hj; subst hj; exact h6
 | 7, hj => simp at hj; subst hj; exact h7
 | j + 8, hj => simp at hj⟩, rfl⟩
theorem atY {cs vs : List Value} {o sz : Nat} (h : AtsZ cs o vs sz := by first | (with_reducible refine AtsZ.r ?_; exact fE) | (with_reducible refine AtsZ.r2 ?_ ?_ ?_; exact fE; rfl; rfl) | (with_reducible refine AtsZ.r4 ?_ ?_ ?_ ?_ ?_; exact fE; rfl; rfl; rfl; rfl) | exact AtsZ.all rfl | exact AtsZ.n2 rfl rfl | exact AtsZ.n4 rfl rfl rfl rfl | exact AtsZ.n8 rfl rfl rfl rfl rfl rfl rfl rfl | (refine AtsZ.r ?_; exact fE) | (refine AtsZ.app ?_; refine AtsZ.r ?_; exact fE)) : AtsZ cs o vs sz := h
end Go.Fx
namespace Go.Proofs.YtgeagiikkeiioaaGreat
open Go Go.Fx
structure PE where
 x : RE
 y : RE
instance : Inhabited PE := ⟨⟨default, default⟩⟩
abbrev eP (p : PE) : List Value := [.bool (B (p.x.q.num < 0)), .slice p.x.p1 (gr p.x.q.num.natAbs).length p.x.c1, .bool (B ((p.x.q.den : Int) < 0)), .slice p.x.p2 (gr (p.x.q.den : Int).natAbs).length p.x.c2, .bool (B (p.y.q.num < 0)), .slice p.y.p1 (gr p.y.q.num.natAbs).length p.y.c1, .bool (B ((p.y.q.den : Int) < 0)), .slice p.y.p2 (gr (p.y.q.den : Int).natAbs).length p.y.c2]
abbrev pv (p : PE) : Value := .agg #[.bool (B (p.x.q.num < 0)), .slice p.x.p1 (gr p.x.q.num.natAbs).length p.x.c1, .bool (B ((p.x.q.den : Int) < 0)), .slice p.x.p2 (gr (p.x.q.den : Int).natAbs).length p.x.c2, .bool (B (p.y.q.num < 0)), .slice p.y.p1 (gr p.y.q.num.natAbs).length p.y.c1, .bool (B ((p.y.q.den : Int) < 0)), .slice p.y.p2 (gr (p.y.q.den : Int).natAbs).length p.y.c2]
instance : Sized eP 8 := ⟨fun _ => rfl⟩
instance : Ones eP := ⟨fun m u hu => by
 simp only [eP, List.mem_cons, List.not_mem_nil, or_false] at hu
 rcases hu with rfl | rfl | rfl | rfl | rfl | rfl | rfl | rfl <;> rfl⟩
def PE.v (p : PE) : V2 := ⟨p.x.q, p.y.q⟩
structure IsP (p : PE) (k : Nat) (X : List Nat) (w : World) : Prop where
 x : IsR p.x k X w
 y : IsR p.y k X w
abbrev isP (p : PE) (k : Nat) : bA := IsP p k
instance (p : PE) (k : Nat) : Fx.Good (IsP p k) := ⟨fun X Y w w' h he hY => ⟨Fx.Good.go (φ := IsR _ _) X Y w w' h.x he hY, Fx.Good.go (φ := IsR _ _) X Y w w' h.y he hY⟩⟩
def PQ (q : V2) (k : Nat) (M0 : List Ent) (I0 : List bA) (v : Value) (M : List Ent) (I : List bA) : Prop := M0 = M ∧ ∃ p : PE, v = pv p ∧ p.v = q ∧ I = isP p k :: I0
section
variable {n : Nat} {Q : Exit → Act → World → Prop} {G : Env} {X : List Nat} {w0 : World} {M : List Ent} {I : List bA}
end
section
variable {X : List Nat} {w0 : World} {M0 : List Ent} {I0 : List bA}
end
end Go.Proofs.YtgeagiikkeiioaaGreat
namespace Go.Fx
theorem aK {p g : Prop} (h : g) (w : BoxP g → p := by (intro hh; (first | refine aJ ?_ | refine aI ?_ | refine kE ?_ | refine iN ?_ | refine fQ ?_ | refine fI ?_ | refine iO ?_ | refine iI ?_ | refine fU ?_ | refine fO ?_ | refine jX ?_ | refine jV ?_ | refine kF ?_ | refine jZ rfl ?_ | refine bC ?_ | (refine gM ?_; first | refine gP rfl rfl rfl ?_ | (refine gK rfl rfl ?_; refine fD rfl rfl rfl okF ?_) | refine gL rfl rfl (by omega) ?_ | refine gU rfl rfl (by omega) ?_) | (refine cB ?_; refine aG rfl (fun _ => dM rfl) rfl rfl ?_) | refine aG rfl (fun _ => bH rfl) rfl rfl ?_ | (refine gZ ?_; first | refine aG rfl (fun _ => bO rfl rfl wF) rfl rfl ?_ | refine aG rfl (fun _ => bP rfl rfl wF) rfl rfl ?_ | refine aG rfl (fun _ => eU rfl rfl wF) rfl rfl ?_ | refine aG rfl (fun _ => eT rfl rfl (by omega) qF) rfl rfl ?_ | refine aG rfl (fun _ => eX rfl rfl (by omega) rfl) rfl rfl ?_ | refine aG rfl (fun _ => dV rfl rfl) rfl rfl ?_ | refine aG rfl (fun _ => dW rfl rfl) rfl rfl ?_ | refine aG rfl (fun _ => dX rfl rfl) rfl rfl ?_ | refine aG rfl (fun _ => qY rfl rfl) rfl rfl ?_ | refine aG rfl (fun _ => uL rfl rfl) rfl rfl ?_) | (refine cB ?_; first | refine aG rfl (fun _ => eF rfl wF) rfl rfl ?_) | (refine gW ?_; first | refine aG rfl (fun _ => dE rfl wF) rfl rfl ?_) | (refine gX ?_; first | refine aG rfl (fun _ => bN rfl) rfl rfl ?_ | refine aG rfl (fun _ => dK rfl rfl) rfl rfl ?_ | refine aG rfl (fun _ => dS rfl rfl) rfl rfl ?_ | refine aG rfl (fun _ => dL rfl rfl rfl) rfl rfl ?_) | (refine gT ?_; first | refine gV rfl (by decide) rfl rfl ?_ | refine jF rfl (by decide) rfl rfl ?_) | (refine gQ ?_; first | refine jJ rfl rfl fE rfl rfl ?_ | refine jI fC rfl rfl fE aB jL rfl rfl ?_ | refine jE fC rfl rfl fE aB jL rfl rfl ?_ | refine aG rfl (fun _ => bZ rfl rfl fE) rfl rfl ?_) | (refine bI ?_; first | (apply bX; exact fC; exact rfl; (focus ((repeat (first | with_reducible exact List.mem_cons_self | with_reducible assumption | with_reducible refine List.mem_cons_of_mem _ ?_)); done)); exact atY; exact rfl; exact rfl) | (apply kZ; exact fC; exact rfl; (focus ((repeat (first | with_reducible exact List.mem_cons_self | with_reducible assumption | with_reducible refine List.mem_cons_of_mem _ ?_)); done)); exact atY; exact rfl; exact rfl) | (apply nD; exact fC; exact rfl; (focus ((repeat (first | with_reducible exact List.mem_cons_self | with_reducible assumption | with_reducible refine List.mem_cons_of_mem _ ?_)); done)); exact atY; exact rfl; exact rfl) | (apply nE; exact fC; exact rfl; (focus ((repeat (first | with_reducible exact List.mem_cons_self | with_reducible assumption | with_reducible refine List.mem_cons_of_mem _ ?_)); done)); exact atY; exact rfl; exact rfl) | (apply jH; exact fC; exact rfl; (focus ((repeat (first | with_reducible exact List.mem_cons_self | with_reducible assumption | with_reducible refine List.mem_cons_of_mem _ ?_)); done)); exact qJ; exact rfl; exact rfl) | (apply gY; exact fC; exact rfl; (focus ((repeat (first | with_reducible exact List.mem_cons_self | with_reducible assumption | with_reducible refine List.mem_cons_of_mem _ ?_)); done)); exact qJ; exact rfl; exact rfl) | (apply jG; exact fC; exact rfl; (focus ((repeat (first | with_reducible exact List.mem_cons_self | with_reducible assumption | with_reducible refine List.mem_cons_of_mem _ ?_)); done)); exact qJ; exact rfl; exact rfl) | (apply jB; exact fC; exact rfl; (focus ((repeat (first | with_reducible exact List.mem_cons_self | with_reducible assumption | with_reducible refine List.mem_cons_of_mem _ ?_)); done)); exact qJ; exact rfl; exact rfl)) | (refine gN ?_; first | refine aG rfl (fun _ => bY rfl rfl) rfl rfl ?_ | refine aG rfl (fun _ => bM rfl) rfl rfl ?_) | (refine jA ?_; first | refine lI rfl rfl rfl kU stC rfl rfl ⟨okF, ?_⟩ | refine fH rfl rfl fP tF kU sZ rfl rfl ⟨okF, ?_⟩) | (refine iM ?_; first | refine dB rfl ?_ | refine bV rfl ?_ | refine kD rfl (by omega) ?_ | refine mU rfl (by omega) ?_)); (repeat (first | refine aJ ?_ | refine aI ?_ | refine kE ?_ | refine iN ?_ | refine fQ ?_ | refine fI ?_ | refine iO ?_ | refine iI ?_ | refine fU ?_ | refine fO ?_ | refine jX ?_ | refine jV ?_ | refine kF ?_ | refine jZ rfl ?_ | refine bC ?_ | (refine gM ?_; first | refine gP rfl rfl rfl ?_ | (refine gK rfl rfl ?_; refine fD rfl rfl rfl okF ?_) | refine gL rfl rfl (by omega) ?_ | refine gU rfl rfl (by omega) ?_) | (refine cB ?_; refine aG rfl (fun _ => dM rfl) rfl rfl ?_) | refine aG rfl (fun _ => bH rfl) rfl rfl ?_ | (refine gZ ?_; first | refine aG rfl (fun _ => bO rfl rfl wF) rfl rfl ?_ | refine aG rfl (fun _ => bP rfl rfl wF) rfl rfl ?_ | refine aG rfl (fun _ => eU rfl rfl wF) rfl rfl ?_ | refine aG rfl (fun _ => eT rfl rfl (by omega) qF) rfl rfl ?_ | refine aG rfl (fun _ => eX rfl rfl (by omega) rfl) rfl rfl ?_ | refine aG rfl (fun _ => dV rfl rfl) rfl rfl ?_ | refine aG rfl (fun _ => dW rfl rfl) rfl rfl ?_ | refine aG rfl (fun _ => dX rfl rfl) rfl rfl ?_ | refine aG rfl (fun _ => qY rfl rfl) rfl rfl ?_ | refine aG rfl (fun _ => uL rfl rfl) rfl rfl ?_) | (refine cB ?_; first | refine aG rfl (fun _ => eF rfl wF) rfl rfl ?_) | (refine gW ?_; first | refine aG rfl (fun _ => dE rfl wF) rfl rfl ?_) | (refine gX ?_; first | refine aG rfl (fun _ => bN rfl) rfl rfl ?_ | refine aG rfl (fun _ => dK rfl rfl) rfl rfl ?_ | refine aG rfl (fun _ => dS rfl rfl) rfl rfl ?_ | refine aG rfl (fun _ => dL rfl rfl rfl) rfl rfl ?_) | (refine gT ?_; first | refine gV rfl (by decide) rfl rfl ?_ | refine jF rfl (by decide) rfl rfl ?_) | (refine gQ ?_; first | refine jJ rfl rfl fE rfl rfl ?_ | refine jI fC rfl rfl fE aB jL rfl rfl ?_ | refine jE fC rfl rfl fE aB jL rfl rfl ?_ | refine aG rfl (fun _ => bZ rfl rfl fE) rfl rfl ?_) | (refine bI ?_; first | (apply bX; exact fC; exact rfl; (focus ((repeat (first | with_reducible exact List.mem_cons_self | with_reducible assumption | with_reducible refine List.mem_cons_of_mem _ ?_)); done)); exact atY; exact rfl; exact rfl) | (apply kZ; exact fC; exact rfl; (focus ((repeat (first | with_reducible exact List.mem_cons_self | with_reducible assumption | with_reducible refine List.mem_cons_of_mem _ ?_)); done)); exact atY; exact rfl; exact rfl) | (apply nD; exact fC; exact rfl; (focus ((repeat (first | with_reducible exact List.mem_cons_self | with_reducible assumption | with_reducible refine List.mem_cons_of_mem _ ?_)); done)); exact atY; exact rfl; exact rfl) | (apply nE; exact fC; exact rfl; (focus ((repeat (first | with_reducible exact List.mem_cons_self | with_reducible assumption | with_reducible refine List.mem_cons_of_mem _ ?_)); done)); exact atY; exact rfl; exact rfl) | (apply jH; exact fC; exact rfl; (focus ((repeat (first | with_reducible exact List.mem_cons_self | with_reducible assumption | with_reducible refine List.mem_cons_of_mem _ ?_)); done)); exact qJ; exact rfl; exact rfl) | (apply gY; exact fC; exact rfl; (focus ((repeat (first | with_reducible exact List.mem_cons_self | with_reducible assumption | with_reducible refine List.mem_cons_of_mem _ ?_)); done)); exact qJ; exact rfl; exact rfl) | (apply jG; exact fC; exact rfl; (focus ((repeat (first | with_reducible exact List.mem_cons_self | with_reducible assumption | with_reducible refine List.mem_cons_of_mem _ ?_)); done)); exact qJ; exact rfl; exact rfl) | (apply jB; exact fC; exact rfl; (focus ((repeat (first | with_reducible exact List.mem_cons_self | with_reducible assumption | with_reducible refine List.mem_cons_of_mem _ ?_)); done)); exact qJ; exact rfl; exact rfl)) | (refine gN ?_; first | refine aG rfl (fun _ => bY rfl rfl) rfl rfl ?_ | refine aG rfl (fun _ => bM rfl) rfl rfl ?_) | (refine jA ?_; first | refine lI rfl rfl rfl kU stC rfl rfl ⟨okF, ?_⟩ | refine fH rfl rfl fP tF kU sZ rfl rfl ⟨okF, ?_⟩) | (refine iM ?_; first | refine dB rfl ?_ | refine bV rfl ?_ | refine kD rfl (by omega) ?_ | refine mU rfl (by omega) ?_))); exact hh.out)) : p := w ⟨h⟩
theorem yXh {p g : Prop} (h : g) (w : BoxP g → p := by (intro hh; (first | refine aJ ?_ | refine aI ?_ | refine kE ?_ | refine iN ?_ | refine fQ ?_ | refine fI ?_ | refine iO ?_ | refine iI ?_ | refine fU ?_ | refine fO ?_ | refine jX ?_ | refine jV ?_ | refine kF ?_ | refine jZ rfl ?_ | refine bC ?_ | (refine gM ?_; first | refine gP rfl rfl rfl ?_ | (refine gK rfl rfl ?_; refine fD rfl rfl rfl okF ?_) | refine gL rfl rfl (by omega) ?_ | refine gU rfl rfl (by omega) ?_) | (refine cB ?_; refine aG rfl (fun _ => dM rfl) rfl rfl ?_) | refine aG rfl (fun _ => bH rfl) rfl rfl ?_ | (refine gZ ?_; first | refine aG rfl (fun _ => bO rfl rfl wF) rfl rfl ?_ | refine aG rfl (fun _ => bP rfl rfl wF) rfl rfl ?_ | refine aG rfl (fun _ => eU rfl rfl wF) rfl rfl ?_ | refine aG rfl (fun _ => eT rfl rfl (by omega) qF) rfl rfl ?_ | refine aG rfl (fun _ => eX rfl rfl (by omega) rfl) rfl rfl ?_ | refine aG rfl (fun _ => dV rfl rfl) rfl rfl ?_ | refine aG rfl (fun _ => dW rfl rfl) rfl rfl ?_ | refine aG rfl (fun _ => dX rfl rfl) rfl rfl ?_ | refine aG rfl (fun _ => qY rfl rfl) rfl rfl ?_ | refine aG rfl (fun _ => uL rfl rfl) rfl rfl ?_) | (refine cB ?_; first | refine aG rfl (fun _ => eF rfl wF) rfl rfl ?_) | (refine gW ?_; first | refine aG rfl (fun _ => dE rfl wF) rfl rfl ?_) | (refine gX ?_; first | refine aG rfl (fun _ => bN rfl) rfl rfl ?_ | refine aG rfl (fun _ => dK rfl rfl) rfl rfl ?_ | refine aG rfl (fun _ => dS rfl rfl) rfl rfl ?_ | refine aG rfl (fun _ => dL rfl rfl rfl) rfl rfl ?_) | (refine gT ?_; first | refine gV rfl (by decide) rfl rfl ?_ | refine jF rfl (by decide) rfl rfl ?_) | (refine gQ ?_; first | refine jJ rfl rfl fE rfl rfl ?_ | refine jI fC rfl rfl fE aB jL rfl rfl ?_ | refine jE fC rfl rfl fE aB jL rfl rfl ?_ | refine aG rfl (fun _ => bZ rfl rfl fE) rfl rfl ?_) | (refine bI ?_; first | (apply bX; exact fC; exact rfl; (focus ((repeat (first | with_reducible exact List.mem_cons_self | with_reducible assumption | with_reducible refine List.mem_cons_of_mem _ ?_)); done)); exact atY; exact rfl; exact rfl) | (apply kZ; exact fC; exact rfl; (focus ((repeat (first | with_reducible exact List.mem_cons_self | with_reducible assumption | with_reducible refine List.mem_cons_of_mem _ ?_)); done)); exact atY; exact rfl; exact rfl) | (apply nD; exact fC; exact rfl; (focus ((repeat (first | with_reducible exact List.mem_cons_self | with_reducible assumption | with_reducible refine List.mem_cons_of_mem _ ?_)); done)); exact atY; exact rfl; exact rfl) | (apply nE; exact fC; exact rfl; (focus ((repeat (first | with_reducible exact List.mem_cons_self | with_reducible assumption | with_reducible refine List.mem_cons_of_mem _ ?_)); done)); exact atY; exact rfl; exact rfl) | (apply jH; exact fC; exact rfl; (focus ((repeat (first | with_reducible exact List.mem_cons_self | with_reducible assumption | with_reducible refine List.mem_cons_of_mem _ ?_)); done)); exact qJ; exact rfl; exact rfl) | (apply gY; exact fC; exact rfl; (focus ((repeat (first | with_reducible exact List.mem_cons_self | with_reducible assumption | with_reducible refine List.mem_cons_of_mem _ ?_)); done)); exact qJ; exact rfl; exact rfl) | (apply jG; exact fC; exact rfl; (focus ((repeat (first | with_reducible exact List.mem_cons_self | with_reducible assumption | with_reducible refine List.mem_cons_of_mem _ ?_)); done)); exact qJ; exact rfl; exact rfl) | (apply jB; exact fC; exact rfl; (focus ((repeat (first | with_reducible exact List.mem_cons_self | with_reducible assumption | with_reducible refine List.mem_cons_of_mem _ ?_)); done)); exact qJ; exact rfl; exact rfl)) | (refine gN ?_; first | refine aG rfl (fun _ => bY rfl rfl) rfl rfl ?_ | refine aG rfl (fun _ => bM rfl) rfl rfl ?_) | (refine iM ?_; first | refine dB rfl ?_ | refine bV rfl ?_ | refine kD rfl (by omega) ?_ | refine mU rfl (by omega) ?_)); (repeat (first | refine aJ ?_ | refine aI ?_ | refine kE ?_ | refine iN ?_ | refine fQ ?_ | refine fI ?_ | refine iO ?_ | refine iI ?_ | refine fU ?_ | refine fO ?_ | refine jX ?_ | refine jV ?_ | refine kF ?_ | refine jZ rfl ?_ | refine bC ?_ | (refine gM ?_; first | refine gP rfl rfl rfl ?_ | (refine gK rfl rfl ?_; refine fD rfl rfl rfl okF ?_) | refine gL rfl rfl (by omega) ?_ | refine gU rfl rfl (by omega) ?_) | (refine cB ?_; refine aG rfl (fun _ => dM rfl) rfl rfl ?_) | refine aG rfl (fun _ => bH rfl) rfl rfl ?_ | (refine gZ ?_; first | refine aG rfl (fun _ => bO rfl rfl wF) rfl rfl ?_ | refine aG rfl (fun _ => bP rfl rfl wF) rfl rfl ?_ | refine aG rfl (fun _ => eU rfl rfl wF) rfl rfl ?_ | refine aG rfl (fun _ => eT rfl rfl (by omega) qF) rfl rfl ?_ | refine aG rfl (fun _ => eX rfl rfl (by omega) rfl) rfl rfl ?_ | refine aG rfl (fun _ => dV rfl rfl) rfl rfl ?_ | refine aG rfl (fun _ => dW rfl rfl) rfl rfl ?_ | refine aG rfl (fun _ => dX rfl rfl) rfl rfl ?_ | refine aG rfl (fun _ => qY rfl rfl) rfl rfl ?_ | refine aG rfl (fun _ => uL rfl rfl) rfl rfl ?_) | (refine cB ?_; first | refine aG rfl (fun _ => eF rfl wF) rfl rfl ?_) | (refine gW ?_; first | refine aG rfl (fun _ => dE rfl wF) rfl rfl ?_) | (refine gX ?_; first | refine aG rfl (fun _ => bN rfl) rfl rfl ?_ | refine aG rfl (fun _ => dK rfl rfl) rfl rfl ?_ | refine aG rfl (fun _ => dS rfl rfl) rfl rfl ?_ | refine aG rfl (fun _ => dL rfl rfl rfl) rfl rfl ?_) | (refine gT ?_; first | refine gV rfl (by decide) rfl rfl ?_ | refine jF rfl (by decide) rfl rfl ?_) | (refine gQ ?_; first | refine jJ rfl rfl fE rfl rfl ?_ | refine jI fC rfl rfl fE aB jL rfl rfl ?_ | refine jE fC rfl rfl fE aB jL rfl rfl ?_ | refine aG rfl (fun _ => bZ rfl rfl fE) rfl rfl ?_) | (refine bI ?_; first | (apply bX; exact fC; exact rfl; (focus ((repeat (first | with_reducible exact List.mem_cons_self | with_reducible assumption | with_reducible refine List.mem_cons_of_mem _ ?_)); done)); exact atY; exact rfl; exact rfl) | (apply kZ; exact fC; exact rfl; (focus ((repeat (first | with_reducible exact List.mem_cons_self | with_reducible assumption | with_reducible refine List.mem_cons_of_mem _ ?_)); done)); exact atY; exact rfl; exact rfl) | (apply nD; exact fC; exact rfl; (focus ((repeat (first | with_reducible exact List.mem_cons_self | with_reducible assumption | with_reducible refine List.mem_cons_of_mem _ ?_)); done)); exact atY; exact rfl; exact rfl) | (apply nE; exact fC; exact rfl; (focus ((repeat (first | with_reducible exact List.mem_cons_self | with_reducible assumption | with_reducible refine List.mem_cons_of_mem _ ?_)); done)); exact atY; exact rfl; exact rfl) | (apply jH; exact fC; exact rfl; (focus ((repeat (first | with_reducible exact List.mem_cons_self | with_reducible assumption | with_reducible refine List.mem_cons_of_mem _ ?_)); done)); exact qJ; exact rfl; exact rfl) | (apply gY; exact fC; exact rfl; (focus ((repeat (first | with_reducible exact List.mem_cons_self | with_reducible assumption | with_reducible refine List.mem_cons_of_mem _ ?_)); done)); exact qJ; exact rfl; exact rfl) | (apply jG; exact fC; exact rfl; (focus ((repeat (first | with_reducible exact List.mem_cons_self | with_reducible assumption | with_reducible refine List.mem_cons_of_mem _ ?_)); done)); exact qJ; exact rfl; exact rfl) | (apply jB; exact fC; exact rfl; (focus ((repeat (first | with_reducible exact List.mem_cons_self | with_reducible assumption | with_reducible refine List.mem_cons_of_mem _ ?_)); done)); exact qJ; exact rfl; exact rfl)) | (refine gN ?_; first | refine aG rfl (fun _ => bY rfl rfl) rfl rfl ?_ | refine aG rfl (fun _ => bM rfl) rfl rfl ?_) | (refine iM ?_; first | refine dB rfl ?_ | refine bV rfl ?_ | refine kD rfl (by omega) ?_ | refine mU rfl (by omega) ?_))); exact hh.out)) : p := w ⟨h⟩
end Go.Fx
namespace Go.Proofs.YtgeagiikkeiioaaGreat
open Go Go.Fx
structure PW where
 x : RW
 y : RW
instance : Inhabited PW := ⟨⟨default, default⟩⟩
abbrev ePW (p : PW) : List Value := [.bool p.x.n1, .slice p.x.p1 p.x.g1.length p.x.c1, .bool p.x.n2, .slice p.x.p2 p.x.g2.length p.x.c2, .bool p.y.n1, .slice p.y.p1 p.y.g1.length p.y.c1, .bool p.y.n2, .slice p.y.p2 p.y.g2.length p.y.c2]
abbrev pvW (p : PW) : Value := .agg #[.bool p.x.n1, .slice p.x.p1 p.x.g1.length p.x.c1, .bool p.x.n2, .slice p.x.p2 p.x.g2.length p.x.c2, .bool p.y.n1, .slice p.y.p1 p.y.g1.length p.y.c1, .bool p.y.n2, .slice p.y.p2 p.y.g2.length p.y.c2]
instance : Sized ePW 8 := ⟨fun _ => rfl⟩
instance : Ones ePW := ⟨fun m u hu => by
 simp only [ePW, List.mem_cons, List.not_mem_nil, or_false] at hu
 rcases hu with rfl | rfl | rfl | rfl | rfl | rfl | rfl | rfl <;> rfl⟩
def PE.raw (p : PE) : PW := ⟨p.x.raw, p.y.raw⟩
def RW.small (r : RW) : Prop := r.g1.length ≤ 1000000000 ∧ r.g2.length ≤ 1000000000
def PW.small (p : PW) : Prop := p.x.small ∧ p.y.small
def PW.good (p : PW) : Prop := p.x.good ∧ p.y.good
instance PW.decG (p : PW) : Decidable p.good := by unfold PW.good; exact inferInstance
structure IsPW (p : PW) (X : List Nat) (w : World) : Prop where
 x : IsW p.x X w
 y : IsW p.y X w
abbrev isPW (p : PW) : bA := IsPW p
instance (p : PW) : Fx.Good (IsPW p) := ⟨fun X Y w w' h he hY => ⟨Fx.Good.go (φ := IsW _) X Y w w' h.x he hY, Fx.Good.go (φ := IsW _) X Y w w' h.y he hY⟩⟩
structure AllW (rs : List RW) (X : List Nat) (w : World) : Prop where
 go : ∀ r ∈ rs, IsW r X w
abbrev allW (rs : List RW) : bA := AllW rs
instance (rs : List RW) : Fx.Good (AllW rs) := ⟨fun X Y w w' h he hY => ⟨fun r hm => Fx.Good.go (φ := IsW _) X Y w w' (h.go r hm) he hY⟩⟩
structure AllPW (ps : List PW) (X : List Nat) (w : World) : Prop where
 go : ∀ p ∈ ps, IsPW p X w
abbrev allPW (ps : List PW) : bA := AllPW ps
instance (ps : List PW) : Fx.Good (AllPW ps) := ⟨fun X Y w w' h he hY => ⟨fun r hm => Fx.Good.go (φ := IsPW _) X Y w w' (h.go r hm) he hY⟩⟩
theorem aJR {P : Program} {f : FuncId} {vs : List Value} {X : List Nat} {w0 : World} {M : List Ent} {I : List bA} {K : Value → List Ent → List bA → Prop} {φ : Prop} (h : ∀ w, Mem X w0 M I w → φ) (k : φ → CD P f vs X w0 M I K) : CD P f vs X w0 M I K := ⟨fun w hw => (k (h w hw)).go w hw⟩
section
variable {X : List Nat} {w0 : World} {M0 : List Ent} {I0 : List bA}
end
end Go.Proofs.YtgeagiikkeiioaaGreat
namespace Go.Proofs.YtgeagiikkeiioaaGreat
open Go Go.Fx
structure C4 where
 a : Value
 b : Value
 c : Value
 d : Value
abbrev e4 (x : C4) : List Value := [x.a, x.b, x.c, x.d]
instance : Inhabited C4 := ⟨⟨.bool false, .slice none 0 0, .bool false, .slice none 0 0⟩⟩
instance : Sized e4 4 := ⟨fun _ => rfl⟩
abbrev z4 : C4 := ⟨.bool false, .slice none 0 0, .bool false, .slice none 0 0⟩
abbrev t4 (e : RE) : C4 := ⟨.bool (B (e.q.num < 0)), .slice e.p1 (gr e.q.num.natAbs).length e.c1, .bool (B ((e.q.den : Int) < 0)), .slice e.p2 (gr (e.q.den : Int).natAbs).length e.c2⟩
theorem wM (es : List RE) : recs e4 (es.map t4) = recs eR es := by
 induction es with
 | nil => rfl
 | cons x r ih =>
  have h1 : recs e4 ((x :: r).map t4) = e4 (t4 x) ++ recs e4 (r.map t4) := rfl
  have h2 : recs eR (x :: r) = eR x ++ recs eR r := rfl
  rw [h1, h2, ih]
structure HD where
 p : Option Addr
 n : Nat
 c : Nat
instance : Inhabited HD := ⟨⟨none, 0, 0⟩⟩
abbrev eH (h : HD) : List Value := [.slice h.p h.n h.c]
instance : Sized eH 1 := ⟨fun _ => rfl⟩
structure MR where
 b : Nat
 es : List RE
instance : Inhabited MR := ⟨⟨0, []⟩⟩
abbrev hdM (r : MR) : HD := ⟨some ⟨r.b, 0, none⟩, r.es.length, r.es.length⟩
abbrev eM (r : MR) : List Value := [.slice (some ⟨r.b, 0, none⟩) r.es.length r.es.length]
instance : Sized eM 1 := ⟨fun _ => rfl⟩
abbrev gF (r : MR) : Ent := .blk r.b (recs eR r.es) 42
theorem aOO (rows : List MR) : recs eH (rows.map hdM) = recs eM rows := by
 induction rows with
 | nil => rfl
 | cons x r ih =>
  have h1 : recs eH ((x :: r).map hdM) = eH (hdM x) ++ recs eH (r.map hdM) := rfl
  have h2 : recs eM (x :: r) = eM x ++ recs eM r := rfl
  rw [h1, h2, ih]
structure AllM (rows : List MR) (k : Nat) (X : List Nat) (w : World) : Prop where
 go : ∀ r ∈ rows, ∀ e ∈ r.es, IsR e k X w
abbrev allM (rows : List MR) (k : Nat) : bA := AllM rows k
instance (rows : List MR) (k : Nat) : Fx.Good (AllM rows k) := ⟨fun X Y w w' h he hY => ⟨fun r hr e hm => Fx.Good.go (φ := IsR _ _) X Y w w' (h.go r hr e hm) he hY⟩⟩
theorem Hv.snoc {I : List bA} {es : List RE} {e : RE} {k : Nat} (h1 : cK es k ∈ I) (h2 : eQ e k ∈ I) : Hv I (cK (es ++ [e]) k) := ⟨fun X w hw => ⟨fun x hx => by
 rcases List.mem_append.1 hx with hx | hx
 ·exact (hw _ h1 : AllR es k X w).go x hx
 ·rw [List.mem_singleton.1 hx]; exact hw _ h2⟩⟩
theorem Hv.nilR {I : List bA} {k : Nat} : Hv I (cK [] k) := ⟨fun X w _ => ⟨fun x hx => by simp at hx⟩⟩
theorem Hv.nilM {I : List bA} {k : Nat} : Hv I (allM [] k) := ⟨fun X w _ => ⟨fun x hx => by simp at hx⟩⟩
theorem Hv.snocM {I : List bA} {rows : List MR} {r : MR} {k : Nat} (h1 : allM rows k ∈ I) (h2 : cK r.es k ∈ I) : Hv I (allM (rows ++ [r]) k) := ⟨fun X w hw => ⟨fun x hx => by
 rcases List.mem_append.1 hx with hx | hx
 ·exact (hw _ h1 : AllM rows k X w).go x hx
 ·rw [List.mem_singleton.1 hx]; exact (hw _ h2 : AllR r.es k X w).go⟩⟩
theorem tT {α : Type} [Inhabited α] {A B : List α} {x : α} {i : Int} (h : i = A.length) : gt (A ++ x :: B) i = x := by
 subst h
 rw [jC (by simp)]
 simp
theorem vQ {α : Type} {A B : List α} {x y : α} {i : Int} (h : i = A.length) : st (A ++ x :: B) i y = A ++ y :: B := by
 subst h
 simp [st]
theorem pJ {α : Type} {n : Nat} {z : α} (h : 0 < n) : List.replicate n z = z :: List.replicate (n - 1) z := by
 obtain ⟨m, rfl⟩ : ∃ m, n = m + 1 := ⟨n - 1, by omega⟩
 rfl
theorem pK {α : Type} {enc : α → List Value} {sz : Nat} [h : Sized enc sz] (hsz : 0 < sz) (zz : α) (mm : Nat) : (madeCells (enc zz).toArray (mm * sz)).toList = recs enc (List.replicate mm zz) := by
 have hl : (enc zz).length = sz := h.len zz
 apply List.ext_getElem
 ·rw [Array.length_toList, size_madeCells, jQ, List.length_replicate]
 ·intro i h1 h2
  rw [Array.length_toList, size_madeCells] at h1
  have hq : i / sz < mm := by rw [Nat.div_lt_iff_lt_mul hsz]; exact h1
  have hr : i % sz < sz := Nat.mod_lt _ hsz
  have hv : (enc zz)[i % sz]? = some ((enc zz)[i % sz]'(by omega)) := List.getElem?_eq_getElem (by omega)
  have := aBN (enc := enc) (List.replicate mm zz) (i / sz) (i % sz) zz _ (by rw [List.getElem?_replicate, if_pos hq]) hv
  rw [Nat.div_add_mod'] at this
  have h3 := (List.getElem?_eq_some_iff.1 this).2
  rw [h3]
  simp [madeCells, hl, hr]
def MkP (R C : Nat) (F : Nat → Nat → Rat) (k : Nat) (M0 : List Ent) (I0 : List bA) (v : Value) (M : List Ent) (I : List bA) : Prop :=
 ∃ (bo : Nat) (rows : List MR), v = .slice (some ⟨bo, 0, none⟩) R R ∧ rows.length = R ∧ (∀ r ∈ rows, r.es.length = C) ∧ (rows.map (fun r => r.es.map (·.q)) = (List.range R).map (fun i => (List.range C).map (F i))) ∧
  M = .blk bo (recs eM rows) 34 :: (rows.map gF ++ M0) ∧ I = allM rows k :: I0
section
variable {P : Program} {n : Nat} {Q : Exit → Act → World → Prop} {G : Env} {X : List Nat} {w0 : World} {M M' : List Ent} {I : List bA}
theorem wN {ex : Exit} (h : M.Perm M') (k : ND n Q ex G X w0 M' I) : ND n Q ex G X w0 M I := yL (fun _ hw => hw.perm h) k
theorem uI {c : Code} (h : M.Perm M') (k : TD P n c Q G X w0 M' I) : TD P n c Q G X w0 M I := aLK (fun _ hw => hw.perm h) k
theorem aET {ops l : List Oper} {m : Fx.Mode} (h : M.Perm M') (k : RD P n ops Q m l G X w0 M' I) : RD P n ops Q m l G X w0 M I := gH (fun _ hw => hw.perm h) k
theorem xQ {x o : Ent} {A B : List Ent} : (x :: o :: (A ++ B)).Perm (o :: ((A ++ [x]) ++ B)) := by
 refine (List.Perm.swap _ _ _).trans (List.Perm.cons _ ?_)
 rw [List.append_assoc]
 exact List.perm_middle.symm
end
section
variable {X : List Nat} {w0 : World} {M0 : List Ent} {I0 : List bA}
theorem aBH {g : FuncId} [FnOk Tryz.prog g] {fs cs : Array Value} {R C k0 : Nat} (hR : R ≤ 100) (hC : C ≤ 200) (F : Nat → Nat → Rat)
  (hg : ∀ M I, (∀ φ ∈ I0, φ ∈ I) → ∀ i j : Nat, i < R → j < C → CD Tryz.prog g (fs.toList ++ [.int .i64 (i : Int), .int .i64 (j : Int)] ++ cs.toList) X w0 M I (RQ (F i j) k0 M I)) :
  CD Tryz.prog 195 [.int .i64 (R : Int), .int .i64 (C : Int), .func (.func g) fs cs] X w0 M0 I0 (MkP R C F k0 M0 I0) := by
 refine mE Tryz.func195 rfl Tryz.ntmps195 rfl ?_
 repeat (refine aV ?_)
 (refine jM (R) rfl rfl (by omega) (by omega) (by omega) (by omega) (pK (enc := eH) (by decide) ⟨none, 0, 0⟩ R) rfl rfl ?_; intro bo; refine ⟨okF, ?_⟩)
 refine iA (φ := allM [] k0) Hv.nilM ?_
 repeat (refine aV ?_)
 refine aS [1, 2, 7, 13] rfl (fun k G M I => ∃ (i : Nat) (rows : List MR), i ≤ R ∧ k = R - i ∧ rows.length = i ∧ (∀ r ∈ rows, r.es.length = C) ∧ (rows.map (fun r => r.es.map (·.q)) = (List.range i).map (fun i => (List.range C).map (F i))) ∧ G = [(14, .int .i64 i)] ∧ M = .blk bo (recs eH (rows.map hdM ++ List.replicate (R - i) ⟨none, 0, 0⟩)) 34 :: (rows.map gF ++ M0) ∧ I = allM rows k0 :: I0) (R) _ _ _ aO aC aD (⟨0, [], by omega, by omega, rfl, by simp, by simp, rfl, rfl, rfl⟩) ?_
 rintro k G M I ⟨i, rows, hi, rfl, hrl, hrc, hrF, rfl, rfl, rfl⟩
 by_cases hiR : i < R
 ·have hz := pJ (n := R - i) (z := (⟨none, 0, 0⟩ : HD)) (by omega)
  repeat (refine aV ?_)
  (refine jM (C) rfl rfl (by omega) (by omega) (by omega) (by omega) (pK (enc := e4) (by decide) z4 C) rfl rfl ?_; intro bi; refine ⟨okF, ?_⟩)
  rw [hz]
  have hlh0 : ((rows.map hdM ++ (⟨none, 0, 0⟩ : HD) :: List.replicate (R - i - 1) ⟨none, 0, 0⟩).length : Int) = R := by simp; omega
  repeat (refine yXf ?_)
  refine lI rfl rfl rfl kU (StAt.r1 (⟨some ⟨bi, 0, none⟩, C, C⟩ : HD) (by omega) rfl) rfl rfl ⟨okF, ?_⟩
  rw [vQ (by simp; omega)]
  obtain ⟨hs, hhs⟩ : ∃ hs, hs = rows.map hdM ++ (⟨some ⟨bi, 0, none⟩, C, C⟩ : HD) :: List.replicate (R - i - 1) ⟨none, 0, 0⟩ := ⟨_, rfl⟩
  rw [← hhs]
  have hgh : gt hs (i : Int) = ⟨some ⟨bi, 0, none⟩, C, C⟩ := by rw [hhs]; exact tT (by simp; omega)
  have hlh : hs.length = R := by rw [hhs]; simp; omega
  have hgp : (gt hs (i : Int)).p = some ⟨bi, 0, none⟩ := by rw [hgh]
  have hgn : (gt hs (i : Int)).n = C := by rw [hgh]
  have hgc : (gt hs (i : Int)).c = C := by rw [hgh]
  repeat (refine aV ?_)
  rw [hgp, hgn, hgc]
  refine bL (φ := cK [] k0) Hv.nilR ?_
  refine aS [1, 2, 7, 8, 13, 14, 26] rfl (fun k G M I => ∃ (j : Nat) (es : List RE), j ≤ C ∧ k = C - j ∧ es.length = j ∧ es.map (·.q) = (List.range j).map (F i) ∧ G = [(27, .int .i64 j)] ∧ M = .blk bi (recs e4 (es.map t4 ++ List.replicate (C - j) z4)) 42 :: .blk bo (recs eH hs) 34 :: (rows.map gF ++ M0) ∧ I = cK es k0 :: allM rows k0 :: I0) (C) _ _ _ aO aC aD (⟨0, [], by omega, by omega, rfl, rfl, rfl, rfl, rfl⟩) ?_
  rintro k G M I ⟨j, es, hj, rfl, hel, heF, rfl, rfl, rfl⟩
  by_cases hjC : j < C
  ·have hz2 := pJ (n := C - j) (z := z4) (by omega)
   rw [hz2]
   have hl2 : ((es.map t4 ++ z4 :: List.replicate (C - j - 1) z4).length : Int) = C := by simp; omega
   repeat (refine aV ?_)
   (repeat refine aJ ?_); refine bK 1 [0, 1, 2, 3, 4, 5, 6, 7, 8, 9, 10] [1, 1, 1, 1, 1, 0, 0, 0, 0, 0, 0] mixed (by kernel_rfl) ?_
   repeat (refine aV ?_)
   rw [hgp, hgn, hgc]
   (refine rF rfl rfl (hg _ _ (fun φ h => List.Mem.tail _ (List.Mem.tail _ h)) i j hiR hjC) rfl rfl rfl ?_; rintro _ _ _ ⟨rfl, e, rfl, he, rfl⟩; refine ⟨okF, ?_⟩)
   repeat (refine yXf ?_)
   refine fH (vs := eR e) rfl rfl rfl (Ones.one e) kU (StAts.r (t4 e) (by omega) rfl) rfl rfl ⟨okF, ?_⟩
   rw [vQ (by simp; omega)]
   repeat (refine aV ?_)
   refine fM (φ := cK (es ++ [e]) k0) (Hv.snoc aB aB) ?_
   have e9 : es.map t4 ++ t4 e :: List.replicate (C - j - 1) z4 = (es ++ [e]).map t4 ++ List.replicate (C - (j + 1)) z4 := by simp [Nat.sub_sub]
   rw [e9]
   refine aM (C - (j + 1)) _ _ _ (by first | omega | (simp only [List.length_append, List.length_cons, List.length_nil]; omega)) aO aC aD (⟨j + 1, es ++ [e], by omega, rfl, by simp; omega, by simp [heF, List.range_succ, he], rfl, rfl, rfl⟩)
  ·obtain rfl : j = C := by omega
   rw [Nat.sub_self, List.replicate_zero, List.append_nil, wM]
   have e8 : hs = (rows ++ [(⟨bi, es⟩ : MR)]).map hdM ++ List.replicate (R - (i + 1)) ⟨none, 0, 0⟩ := by rw [hhs]; simp [hel, Nat.sub_sub]
   repeat (refine aV ?_)
   rw [e8]
   refine fM (φ := allM (rows ++ [(⟨bi, es⟩ : MR)]) k0) (Hv.snocM aB aB) ?_
   refine wN (M' := .blk bo (recs eH ((rows ++ [(⟨bi, es⟩ : MR)]).map hdM ++ List.replicate (R - (i + 1)) ⟨none, 0, 0⟩)) 34 :: ((rows ++ [(⟨bi, es⟩ : MR)]).map gF ++ M0)) (by rw [List.map_append (f := gF)]; exact xQ) ?_
   refine aM (R - (i + 1)) _ _ _ (by first | omega | (simp only [List.length_append, List.length_cons, List.length_nil]; omega)) aO aC aD (⟨i + 1, rows ++ [(⟨bi, es⟩ : MR)], by omega, rfl, by simp; omega, fun r hr => by rcases List.mem_append.1 hr with h | h; exact hrc r h; rw [List.mem_singleton.1 h]; exact hel, by rw [List.map_append, hrF, List.range_succ, List.map_append]; simp [heF], rfl, rfl, rfl⟩)
 ·obtain rfl : i = R := by omega
  have hz : List.replicate (i - i) (⟨none, 0, 0⟩ : HD) = [] := by rw [Nat.sub_self]; rfl
  rw [hz, List.append_nil, aOO]
  repeat (refine aV ?_)
  refine aH (by first | exact .inl rfl | exact .inr rfl) rfl rfl _ _ aC aD (⟨bo, rows, rfl, hrl, hrc, hrF, rfl, rfl⟩)
end
end Go.Proofs.YtgeagiikkeiioaaGreat

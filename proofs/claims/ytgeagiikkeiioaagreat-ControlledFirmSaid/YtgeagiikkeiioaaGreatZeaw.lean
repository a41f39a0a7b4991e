/- Drawn regions whose order forks more than once: what is left of a region as an end. Arrays: sliced, built, read by an index; loads of eight and twelve cells. resect: places in memory; minus, plus, dot, cross, side, scaled, zero. The walk, kept once. resect: places as they came in; valid, canonical. -/
import Derived.Test.YtgeagiikkeiioaaGreatZeao
import Derived.Test.YtgeagiikkeiioaaGreatZeav
import Derived.Test.YtgeagiikkeiioaaGreatZeag
set_option linter.unusedSimpArgs false
set_option linter.unusedVariables false
set_option maxRecDepth 100000
set_option maxHeartbeats 4000000
namespace Go.Fx
def Rest (P : Program) (l : List Oper) (Q : Exit → Act → World → Prop) (Cs : Nat → World → Prop) (fuel k : Nat) (listed : Array Bool) : Exit → Act → World → Prop
 | .normal, a, w => qU P l.toArray Q Cs fuel k listed a w
 | _, _, _ => False
section
variable {P : Program} {n : Nat} {Q : Exit → Act → World → Prop} {G : Env} {w : World} {l : List Oper} {Cs : Nat → World → Prop}
theorem aMP {fuel fuel' k : Nat} {listed listed' : Array Bool} (p ms : List Nat) (hm : ∀ s w, Cs s w → Cs (s + 1) w) (hs : Region.noSelect l.toArray = true) (hok : qX l.toArray p ms listed = some listed') (hf : fuel' = fuel + p.length) (hsz : listed.size = l.toArray.size) (hC : Cs k w)
  (h : R P n l (Rest P l Q Cs fuel (k + aBX l.toArray p) listed') (.any Cs k ms) (pick l p) G w) : N n (Rest P l Q Cs fuel' k listed) .normal G w := ⟨fun a ha => by
 subst hf
 exact qW hm hs p ms k listed a w hC hsz hok (fun _ _ _ _ hq => hq) (h.go a ha)⟩
theorem aNJ {fuel k : Nat} {listed : Array Bool} (p ms : List Nat) (hm : ∀ s w, Cs s w → Cs (s + 1) w) (hs : Region.noSelect l.toArray = true) (hok : jH l.toArray p ms listed = true) (hf : fuel = p.length) (hsz : listed.size = l.toArray.size) (hC : Cs k w)
  (h : R P n l Q (.any Cs k ms) (pick l p) G w) : N n (Rest P l Q Cs fuel k listed) .normal G w := ⟨fun a ha => by
 subst hf
 exact jW hm hs p ms k listed a w hC hsz hok (h.go a ha)⟩
theorem vP {fuel k i : Nat} {listed : Array Bool} {o : Oper} {a : Act} (hi : l.toArray[i]? = some o) (hk : iQ o.op = false)
  (h : wpM P l.toArray (Rest P l Q Cs fuel (k + 1) (listed.setIfInBounds i true)) (.any Cs k []) (pick l [i]) a w) :
  wpOp P l.toArray QF i (fun a' w' => Cs (k + eAt l.toArray i) w' ∧ qU P l.toArray Q Cs fuel (k + eAt l.toArray i) (listed.setIfInBounds i true) a' w') a w := by
 have hg : nth l i = o := aFA l i o (by simpa using hi)
 simp only [pick, hg] at h
 rw [xW hi hk]
 unfold wpOp
 simp only [hi]
 by_cases hw : Region.wanted o (yielded l.toArray a.tmps) = true
 ·rw [if_pos hw]
  rcases h.1 hw with ⟨hk2, _⟩ | ⟨_, hk2⟩
  ·rw [hk] at hk2; cases hk2
  ·exact .inl (Oper.wp_mono (fun a' w' ⟨h1, h2⟩ => ⟨h1, h2⟩) hk2)
 ·rw [if_neg hw]
  obtain ⟨hh1, hh2⟩ := h.2 (by simpa using hw)
  simp only [Mode.held, hk, cond_false] at hh1
  exact ⟨hh1, hh2⟩
def yG (ops : Array Oper) (i : Nat) : Bool :=
 match ops[i]? with
 | some o => !iQ o.op
 | none => false
theorem aKN {fuel k i j : Nat} {listed : Array Bool} (hr : (Region.ready .any l.toArray listed == [i, j] && yG l.toArray i && yG l.toArray j) = true)
  (h1 : R P n l (Rest P l Q Cs fuel (k + 1) (listed.setIfInBounds i true)) (.any Cs k []) (pick l [i]) G w)
  (h2 : R P n l (Rest P l Q Cs fuel (k + 1) (listed.setIfInBounds j true)) (.any Cs k []) (pick l [j]) G w) : N n (Rest P l Q Cs (fuel + 1) k listed) .normal G w := ⟨fun a ha => by
 simp only [Bool.and_eq_true, beq_iff_eq] at hr
 obtain ⟨⟨hr, e1⟩, e2⟩ := hr
 have get : ∀ x, yG l.toArray x = true → ∃ o, l.toArray[x]? = some o ∧ iQ o.op = false := fun x hx => by
  unfold yG at hx
  cases ho : l.toArray[x]? with
  | none => simp [ho] at hx
  | some o => simp [ho] at hx; exact ⟨o, rfl, hx⟩
 obtain ⟨o1, ho1, hk1⟩ := get i e1
 obtain ⟨o2, ho2, hk2⟩ := get j e2
 refine ⟨fun h0 => (by rw [hr] at h0; cases h0), fun x hx => ?_⟩
 rw [hr] at hx
 simp only [List.mem_cons, List.not_mem_nil, or_false] at hx
 rcases hx with rfl | rfl
 ·exact vP ho1 hk1 (h1.go a ha)
 ·exact vP ho2 hk2 (h2.go a ha)⟩
theorem aHR {fuel k i j m : Nat} {listed : Array Bool} (hr : (Region.ready .any l.toArray listed == [i, j, m] && yG l.toArray i && yG l.toArray j && yG l.toArray m) = true)
  (h1 : R P n l (Rest P l Q Cs fuel (k + 1) (listed.setIfInBounds i true)) (.any Cs k []) (pick l [i]) G w)
  (h2 : R P n l (Rest P l Q Cs fuel (k + 1) (listed.setIfInBounds j true)) (.any Cs k []) (pick l [j]) G w)
  (h3 : R P n l (Rest P l Q Cs fuel (k + 1) (listed.setIfInBounds m true)) (.any Cs k []) (pick l [m]) G w) : N n (Rest P l Q Cs (fuel + 1) k listed) .normal G w := ⟨fun a ha => by
 simp only [Bool.and_eq_true, beq_iff_eq] at hr
 obtain ⟨⟨⟨hr, e1⟩, e2⟩, e3⟩ := hr
 have get : ∀ x, yG l.toArray x = true → ∃ o, l.toArray[x]? = some o ∧ iQ o.op = false := fun x hx => by
  unfold yG at hx
  cases ho : l.toArray[x]? with
  | none => simp [ho] at hx
  | some o => simp [ho] at hx; exact ⟨o, rfl, hx⟩
 obtain ⟨o1, ho1, hk1⟩ := get i e1
 obtain ⟨o2, ho2, hk2⟩ := get j e2
 obtain ⟨o3, ho3, hk3⟩ := get m e3
 refine ⟨fun h0 => (by rw [hr] at h0; cases h0), fun x hx => ?_⟩
 rw [hr] at hx
 simp only [List.mem_cons, List.not_mem_nil, or_false] at hx
 rcases hx with rfl | rfl | rfl
 ·exact vP ho1 hk1 (h1.go a ha)
 ·exact vP ho2 hk2 (h2.go a ha)
 ·exact vP ho3 hk3 (h3.go a ha)⟩
theorem aWT {id : Nat} (Cs : Nat → World → Prop) (hx : P.follows .mixedOrders = true) (h : N n (Rest P l Q Cs l.length 0 (Array.replicate l.length false)) .normal G w.drew) : T P n (.region id l.toArray true) Q G w := ⟨fun a ha => by
 refine wp_region_any hx ?_
 have := h.go a ha
 have e : l.toArray.size = l.length := by simp
 rw [e]
 exact qR _ _ _ _ _ this⟩
end
section
variable {P : Program} {n : Nat} {Q : Exit → Act → World → Prop} {G : Env} {X : List Nat} {w0 : World} {M M1 : List Ent} {I I1 : List bD} {l : List Oper}
theorem aML {id : Nat} (M1 : List Ent) (I1 : List bD) (hx : P.follows .mixedOrders = true) (h : ND n (Rest P l Q (Cst X w0 M1 I1) l.length 0 (Array.replicate l.length false)) .normal G X w0 M I) : TD P n (.region id l.toArray true) Q G X w0 M I :=
 ⟨fun w hw => aWT (Cst X w0 M1 I1) hx (h.go w.drew hw.drew)⟩
theorem aCF {fuel fuel' k : Nat} {listed listed' : Array Bool} (p ms : List Nat) (hM : SubP M M1) (hI : Inc I I1) (hs : Region.noSelect l.toArray = true) (hok : qX l.toArray p ms listed = some listed') (hf : fuel' = fuel + p.length) (hsz : listed.size = l.toArray.size)
  (h : RD P n l (Rest P l Q (Cst X w0 M1 I1) fuel (k + aBX l.toArray p) listed') (.any (Cst X w0 M1 I1) k ms) (pick l p) G X w0 M I) : ND n (Rest P l Q (Cst X w0 M1 I1) fuel' k listed) .normal G X w0 M I :=
 ⟨fun w hw => aMP p ms (fun _ _ h => h) hs hok hf hsz (hw.weak hM hI) (h.go w hw)⟩
theorem dW {fuel k : Nat} {listed : Array Bool} (p ms : List Nat) (hM : SubP M M1) (hI : Inc I I1) (hs : Region.noSelect l.toArray = true) (hok : jH l.toArray p ms listed = true) (hf : fuel = p.length) (hsz : listed.size = l.toArray.size)
  (h : RD P n l Q (.any (Cst X w0 M1 I1) k ms) (pick l p) G X w0 M I) : ND n (Rest P l Q (Cst X w0 M1 I1) fuel k listed) .normal G X w0 M I :=
 ⟨fun w hw => aNJ p ms (fun _ _ h => h) hs hok hf hsz (hw.weak hM hI) (h.go w hw)⟩
theorem fB {fuel k i j : Nat} {listed : Array Bool} (hr : (Region.ready .any l.toArray listed == [i, j] && yG l.toArray i && yG l.toArray j) = true)
  (h1 : RD P n l (Rest P l Q (Cst X w0 M1 I1) fuel (k + 1) (listed.setIfInBounds i true)) (.any (Cst X w0 M1 I1) k []) (pick l [i]) G X w0 M I)
  (h2 : RD P n l (Rest P l Q (Cst X w0 M1 I1) fuel (k + 1) (listed.setIfInBounds j true)) (.any (Cst X w0 M1 I1) k []) (pick l [j]) G X w0 M I) : ND n (Rest P l Q (Cst X w0 M1 I1) (fuel + 1) k listed) .normal G X w0 M I :=
 ⟨fun w hw => aKN hr (h1.go w hw) (h2.go w hw)⟩
theorem yD {fuel k i j m : Nat} {listed : Array Bool} (hr : (Region.ready .any l.toArray listed == [i, j, m] && yG l.toArray i && yG l.toArray j && yG l.toArray m) = true)
  (h1 : RD P n l (Rest P l Q (Cst X w0 M1 I1) fuel (k + 1) (listed.setIfInBounds i true)) (.any (Cst X w0 M1 I1) k []) (pick l [i]) G X w0 M I)
  (h2 : RD P n l (Rest P l Q (Cst X w0 M1 I1) fuel (k + 1) (listed.setIfInBounds j true)) (.any (Cst X w0 M1 I1) k []) (pick l [j]) G X w0 M I)
  (h3 : RD P n l (Rest P l Q (Cst X w0 M1 I1) fuel (k + 1) (listed.setIfInBounds m true)) (.any (Cst X w0 M1 I1) k []) (pick l [m]) G X w0 M I) : ND n (Rest P l Q (Cst X w0 M1 I1) (fuel + 1) k listed) .normal G X w0 M I :=
 ⟨fun w hw => aHR hr (h1.go w hw) (h2.go w hw) (h3.go w hw)⟩
end
end Go.Fx
namespace Go.Fx
section
variable {P : Program} {n : Nat} {G : Env} {ty : TypeId} {C : World → Prop}
end
def PlOk (place : Nat → Option (Nat × Nat)) : Nat → Nat → List Value → Prop
 | _, _, [] => True
 | k, off, v :: r => place k = some (off, v.cells.size) ∧ PlOk place (k + 1) (off + v.cells.size) r
def pW (vals : List Value) : List Value := vals.flatMap (fun v => v.cells.toList)
theorem aAH (place : Nat → Option (Nat × Nat)) : ∀ (vals : List Value) (k : Nat) (pre : List Value) (base : Array Value), base.size = pre.length + (pW vals).length → base.toList.take pre.length = pre → PlOk place k pre.length vals →
  Instr.fill place base ((vals.zipIdx k).map (fun p => (p.2, p.1))) = some (pre ++ pW vals).toArray
 | [], k, pre, base, hb, ht, _ => by
  have : base.toList = pre := by
   rw [← ht, List.take_of_length_le]
   simp [hb, pW]
  simp [Instr.fill, pW, ← this]
 | v :: r, k, pre, base, hb, ht, hc => by
  obtain ⟨h1, h2⟩ := hc
  have hcl : pW (v :: r) = v.cells.toList ++ pW r := by simp [pW]
  have hcs : v.cells.toList.length = v.cells.size := by simp
  have hlt : pre.length + v.cells.size ≤ base.size := by
   rw [hb, hcl, List.length_append, hcs]; omega
  simp only [List.zipIdx_cons, List.map_cons, Instr.fill, h1]
  have hno : ¬ (v.cells.size ≠ v.cells.size ∨ pre.length + v.cells.size > base.size) := by omega
  have hf := aAM pre.length v.cells.toList base (by simp; omega)
  simp only [Array.toArray_toList] at hf
  simp only [Bool.or_eq_true, decide_eq_true_eq, hno, if_false, hf]
  rw [aAH place r (k + 1) (pre ++ v.cells.toList) _ ?_ ?_ (by rw [List.length_append, hcs]; exact h2)]
  ·rw [hcl, List.append_assoc]
  ·simp only [List.size_toArray, List.length_append, List.length_take, List.length_drop, hcs, Array.length_toList]
   rw [hcl, List.length_append, hcs] at hb
   omega
  ·simp only [ht]
   rw [List.take_append_of_le_length (by simp), List.take_of_length_le (by simp)]
section
variable {P : Program} {n : Nat} {G : Env} {ty : TypeId} {C : World → Prop}
theorem mV {t : TypeId} {parts : List (Nat × Operand)} {vals cells : List Value} {places : List (Nat × Nat)} {z : List Value} [ht : StructTy P t places z]
  (hp : parts.map (fun p => (p.1, ev G p.2)) = vals.zipIdx.map (fun p => (p.2, some p.1))) (hpl : PlOk (places.toArray[·]?) 0 0 vals) (hc : pW vals = cells) (hz : z.length = cells.length) :
  Const P n G (.build t parts.toArray) ty C (.agg cells.toArray) := by
 refine dX (pvs := vals.zipIdx.map (fun p => (p.2, p.1))) (places := places) (z := z) (by rw [hp]; simp) ?_
 have := aAH (places.toArray[·]?) vals 0 [] z.toArray (by simp [hc, hz]) (by simp) (by simpa using hpl)
 rw [hc] at this
 simpa using this
end
theorem vZ {P : Program} {n : Nat} {G : Env} {ty : TypeId} {C : World → Prop} {t t' : TypeId} {x y : Operand} {a b : Bool} [ht : BoolTy P t] (hx : ev G x = some (.bool a)) (hy : ev G y = some (.bool b)) :
  Const P n G (.binOp .neq t x y t') ty C (.bool (!(a == b))) := by
 refine ⟨?_⟩
 intro s ha dst pos after guard w _
 have e1 : (eqGuard .neq t x y (.bool a) (.bool b)).run P w = .ok () w := rfl
 simp only [execOp, ha.ev hx, ha.ev hy, Sem.run_bind, e1, Result.andThen_ok, run_neq_bool _ t a b ht.und, Sem.run_pure]
theorem AtsZ.n8 {cs : List Value} {o : Nat} {a b c d e f g h : Value} (h0 : cs[o]? = some a) (h1 : cs[o + 1]? = some b) (h2 : cs[o + 2]? = some c) (h3 : cs[o + 3]? = some d) (h4 : cs[o + 4]? = some e) (h5 : cs[o + 5]? = some f) (h6 : cs[o + 6]? = some g) (h7 : cs[o + 7]? = some h) : AtsZ cs o [a, b, c, d, e, f, g, h] 8 := ⟨⟨fun j v hj => by
 match j, hj with
 | 0, hj => simp at hj; subst hj; exact h0
 | 1, hj => simp at hj; subst hj; exact h1
 | 2, hj => simp at hj; subst hj; exact h2
 | 3, hj => simp at hj; subst hj; exact h3
 | 4, hj => simp at hj; subst hj; exact h4
 | 5, hj => simp at hj; subst hj; exact h5
 | 6, hj => simp at hj; subst hj; exact h6
 | 7, hj => simp at hj; subst hj; exact h7
 | j + 8, hj => simp at hj⟩, rfl⟩
theorem atY {cs vs : List Value} {o sz : Nat} (h : AtsZ cs o vs sz := by first | (with_reducible refine AtsZ.r ?_; exact fH) | (with_reducible refine AtsZ.r2 ?_ ?_ ?_; exact fH; rfl; rfl) | (with_reducible refine AtsZ.r4 ?_ ?_ ?_ ?_ ?_; exact fH; rfl; rfl; rfl; rfl) | exact AtsZ.all rfl | exact AtsZ.n2 rfl rfl | exact AtsZ.n4 rfl rfl rfl rfl | exact AtsZ.n8 rfl rfl rfl rfl rfl rfl rfl rfl | (refine AtsZ.r ?_; exact fH) | (refine AtsZ.app ?_; refine AtsZ.r ?_; exact fH)) : AtsZ cs o vs sz := h
end Go.Fx
namespace Go.Proofs.YtgeagiikkeiioaaGreat
open Go Go.Fx
structure PE where
 x : RE
 y : RE
instance : Inhabited PE := ⟨⟨default, default⟩⟩
abbrev eP (p : PE) : List Value := [.bool (B (p.x.q.num < 0)), .slice p.x.p1 (gr p.x.q.num.natAbs).length p.x.c1, .bool (B ((p.x.q.den : Int) < 0)), .slice p.x.p2 (gr (p.x.q.den : Int).natAbs).length p.x.c2, .bool (B (p.y.q.num < 0)), .slice p.y.p1 (gr p.y.q.num.natAbs).length p.y.c1, .bool (B ((p.y.q.den : Int) < 0)), .slice p.y.p2 (gr (p.y.q.den : Int).natAbs).length p.y.c2]
abbrev pv (p : PE) : Value := .agg #[.bool (B (p.x.q.num < 0)), .slice p.x.p1 (gr p.x.q.num.natAbs).length p.x.c1, .bool (B ((p.x.q.den : Int) < 0)), .slice p.x.p2 (gr (p.x.q.den : Int).natAbs).length p.x.c2, .bool (B (p.y.q.num < 0)), .slice p.y.p1 (gr p.y.q.num.natAbs).length p.y.c1, .bool (B ((p.y.q.den : Int) < 0)), .slice p.y.p2 (gr (p.y.q.den : Int).natAbs).length p.y.c2]
instance : Sized eP 8 := ⟨fun _ => rfl⟩
instance : Ones eP := ⟨fun m u hu => by
 simp only [eP, List.mem_cons, List.not_mem_nil, or_false] at hu
 rcases hu with rfl | rfl | rfl | rfl | rfl | rfl | rfl | rfl <;> rfl⟩
def PE.v (p : PE) : V2 := ⟨p.x.q, p.y.q⟩
structure IsP (p : PE) (k : Nat) (X : List Nat) (w : World) : Prop where
 x : IsR p.x k X w
 y : IsR p.y k X w
abbrev isP (p : PE) (k : Nat) : bD := IsP p k
instance (p : PE) (k : Nat) : Fx.Good (IsP p k) := ⟨fun X Y w w' h he hY => ⟨Fx.Good.go (φ := IsR _ _) X Y w w' h.x he hY, Fx.Good.go (φ := IsR _ _) X Y w w' h.y he hY⟩⟩
def PQ (q : V2) (k : Nat) (M0 : List Ent) (I0 : List bD) (v : Value) (M : List Ent) (I : List bD) : Prop := M0 = M ∧ ∃ p : PE, v = pv p ∧ p.v = q ∧ I = isP p k :: I0
section
variable {n : Nat} {Q : Exit → Act → World → Prop} {G : Env} {X : List Nat} {w0 : World} {M : List Ent} {I : List bD}
end
section
variable {X : List Nat} {w0 : World} {M0 : List Ent} {I0 : List bD}
end
end Go.Proofs.YtgeagiikkeiioaaGreat
namespace Go.Fx
theorem aI {p g : Prop} (h : g) (w : BoxP g → p := by (intro hh; (first | refine aJ ?_ | refine aH ?_ | refine kG ?_ | refine iP ?_ | refine fQ ?_ | refine fJ ?_ | refine iR ?_ | refine iM ?_ | refine fP ?_ | refine fU ?_ | refine kF ?_ | refine kM ?_ | refine kK ?_ | refine kE rfl ?_ | refine cK ?_ | (refine iA ?_; first | refine iF rfl rfl rfl ?_ | (refine iB rfl rfl ?_; refine fE rfl rfl rfl okF ?_) | refine gW rfl rfl (by omega) ?_ | refine gQ rfl rfl (by omega) ?_) | (refine bY ?_; refine aK rfl (fun _ => dJ rfl) rfl rfl ?_) | refine aK rfl (fun _ => bF rfl) rfl rfl ?_ | (refine gZ ?_; first | refine aK rfl (fun _ => bO rfl rfl wF) rfl rfl ?_ | refine aK rfl (fun _ => bP rfl rfl wF) rfl rfl ?_ | refine aK rfl (fun _ => eF rfl rfl wF) rfl rfl ?_ | refine aK rfl (fun _ => dZ rfl rfl (by omega) qF) rfl rfl ?_ | refine aK rfl (fun _ => eD rfl rfl (by omega) rfl) rfl rfl ?_ | refine aK rfl (fun _ => dP rfl rfl) rfl rfl ?_ | refine aK rfl (fun _ => dS rfl rfl) rfl rfl ?_ | refine aK rfl (fun _ => dK rfl rfl) rfl rfl ?_ | refine aK rfl (fun _ => sO rfl rfl) rfl rfl ?_ | refine aK rfl (fun _ => vZ rfl rfl) rfl rfl ?_) | (refine bY ?_; first | refine aK rfl (fun _ => dY rfl wF) rfl rfl ?_) | (refine gT ?_; first | refine aK rfl (fun _ => dE rfl wF) rfl rfl ?_) | (refine gV ?_; first | refine aK rfl (fun _ => bN rfl) rfl rfl ?_ | refine aK rfl (fun _ => dI rfl rfl) rfl rfl ?_ | refine aK rfl (fun _ => dM rfl rfl) rfl rfl ?_ | refine aK rfl (fun _ => dL rfl rfl rfl) rfl rfl ?_) | (refine gX ?_; first | refine gU rfl (by decide) rfl rfl ?_ | refine jP rfl (by decide) rfl rfl ?_) | (refine iD ?_; first | refine jL rfl rfl fH rfl rfl ?_ | refine jI fC rfl rfl fH aB jT rfl rfl ?_ | refine jN fC rfl rfl fH aB jT rfl rfl ?_ | refine aK rfl (fun _ => bX rfl rfl fH) rfl rfl ?_) | (refine bH ?_; first | (apply cB; exact fC; exact rfl; (focus ((repeat (first | with_reducible exact List.mem_cons_self | with_reducible assumption | with_reducible refine List.mem_cons_of_mem _ ?_)); done)); exact atY; exact rfl; exact rfl) | (apply lQ; exact fC; exact rfl; (focus ((repeat (first | with_reducible exact List.mem_cons_self | with_reducible assumption | with_reducible refine List.mem_cons_of_mem _ ?_)); done)); exact atY; exact rfl; exact rfl) | (apply nM; exact fC; exact rfl; (focus ((repeat (first | with_reducible exact List.mem_cons_self | with_reducible assumption | with_reducible refine List.mem_cons_of_mem _ ?_)); done)); exact atY; exact rfl; exact rfl) | (apply nT; exact fC; exact rfl; (focus ((repeat (first | with_reducible exact List.mem_cons_self | with_reducible assumption | with_reducible refine List.mem_cons_of_mem _ ?_)); done)); exact atY; exact rfl; exact rfl) | (apply jJ; exact fC; exact rfl; (focus ((repeat (first | with_reducible exact List.mem_cons_self | with_reducible assumption | with_reducible refine List.mem_cons_of_mem _ ?_)); done)); exact rM; exact rfl; exact rfl) | (apply iE; exact fC; exact rfl; (focus ((repeat (first | with_reducible exact List.mem_cons_self | with_reducible assumption | with_reducible refine List.mem_cons_of_mem _ ?_)); done)); exact rM; exact rfl; exact rfl) | (apply jM; exact fC; exact rfl; (focus ((repeat (first | with_reducible exact List.mem_cons_self | with_reducible assumption | with_reducible refine List.mem_cons_of_mem _ ?_)); done)); exact rM; exact rfl; exact rfl) | (apply jO; exact fC; exact rfl; (focus ((repeat (first | with_reducible exact List.mem_cons_self | with_reducible assumption | with_reducible refine List.mem_cons_of_mem _ ?_)); done)); exact rM; exact rfl; exact rfl)) | (refine gY ?_; first | refine aK rfl (fun _ => bW rfl rfl) rfl rfl ?_ | refine aK rfl (fun _ => bL rfl) rfl rfl ?_) | (refine jG ?_; first | refine lL rfl rfl rfl lF stC rfl rfl ⟨okF, ?_⟩ | refine fI rfl rfl fV uK lF uM rfl rfl ⟨okF, ?_⟩) | (refine iT ?_; first | refine dB rfl ?_ | refine bT rfl ?_ | refine kL rfl (by omega) ?_ | refine nD rfl (by omega) ?_)); (repeat (first | refine aJ ?_ | refine aH ?_ | refine kG ?_ | refine iP ?_ | refine fQ ?_ | refine fJ ?_ | refine iR ?_ | refine iM ?_ | refine fP ?_ | refine fU ?_ | refine kF ?_ | refine kM ?_ | refine kK ?_ | refine kE rfl ?_ | refine cK ?_ | (refine iA ?_; first | refine iF rfl rfl rfl ?_ | (refine iB rfl rfl ?_; refine fE rfl rfl rfl okF ?_) | refine gW rfl rfl (by omega) ?_ | refine gQ rfl rfl (by omega) ?_) | (refine bY ?_; refine aK rfl (fun _ => dJ rfl) rfl rfl ?_) | refine aK rfl (fun _ => bF rfl) rfl rfl ?_ | (refine gZ ?_; first | refine aK rfl (fun _ => bO rfl rfl wF) rfl rfl ?_ | refine aK rfl (fun _ => bP rfl rfl wF) rfl rfl ?_ | refine aK rfl (fun _ => eF rfl rfl wF) rfl rfl ?_ | refine aK rfl (fun _ => dZ rfl rfl (by omega) qF) rfl rfl ?_ | refine aK rfl (fun _ => eD rfl rfl (by omega) rfl) rfl rfl ?_ | refine aK rfl (fun _ => dP rfl rfl) rfl rfl ?_ | refine aK rfl (fun _ => dS rfl rfl) rfl rfl ?_ | refine aK rfl (fun _ => dK rfl rfl) rfl rfl ?_ | refine aK rfl (fun _ => sO rfl rfl) rfl rfl ?_ | refine aK rfl (fun _ => vZ rfl rfl) rfl rfl ?_) | (refine bY ?_; first | refine aK rfl (fun _ => dY rfl wF) rfl rfl ?_) | (refine gT ?_; first | refine aK rfl (fun _ => dE rfl wF) rfl rfl ?_) | (refine gV ?_; first | refine aK rfl (fun _ => bN rfl) rfl rfl ?_ | refine aK rfl (fun _ => dI rfl rfl) rfl rfl ?_ | refine aK rfl (fun _ => dM rfl rfl) rfl rfl ?_ | refine aK rfl (fun _ => dL rfl rfl rfl) rfl rfl ?_) | (refine gX ?_; first | refine gU rfl (by decide) rfl rfl ?_ | refine jP rfl (by decide) rfl rfl ?_) | (refine iD ?_; first | refine jL rfl rfl fH rfl rfl ?_ | refine jI fC rfl rfl fH aB jT rfl rfl ?_ | refine jN fC rfl rfl fH aB jT rfl rfl ?_ | refine aK rfl (fun _ => bX rfl rfl fH) rfl rfl ?_) | (refine bH ?_; first | (apply cB; exact fC; exact rfl; (focus ((repeat (first | with_reducible exact List.mem_cons_self | with_reducible assumption | with_reducible refine List.mem_cons_of_mem _ ?_)); done)); exact atY; exact rfl; exact rfl) | (apply lQ; exact fC; exact rfl; (focus ((repeat (first | with_reducible exact List.mem_cons_self | with_reducible assumption | with_reducible refine List.mem_cons_of_mem _ ?_)); done)); exact atY; exact rfl; exact rfl) | (apply nM; exact fC; exact rfl; (focus ((repeat (first | with_reducible exact List.mem_cons_self | with_reducible assumption | with_reducible refine List.mem_cons_of_mem _ ?_)); done)); exact atY; exact rfl; exact rfl) | (apply nT; exact fC; exact rfl; (focus ((repeat (first | with_reducible exact List.mem_cons_self | with_reducible assumption | with_reducible refine List.mem_cons_of_mem _ ?_)); done)); exact atY; exact rfl; exact rfl) | (apply jJ; exact fC; exact rfl; (focus ((repeat (first | with_reducible exact List.mem_cons_self | with_reducible assumption | with_reducible refine List.mem_cons_of_mem _ ?_)); done)); exact rM; exact rfl; exact rfl) | (apply iE; exact fC; exact rfl; (focus ((repeat (first | with_reducible exact List.mem_cons_self | with_reducible assumption | with_reducible refine List.mem_cons_of_mem _ ?_)); done)); exact rM; exact rfl; exact rfl) | (apply jM; exact fC; exact rfl; (focus ((repeat (first | with_reducible exact List.mem_cons_self | with_reducible assumption | with_reducible refine List.mem_cons_of_mem _ ?_)); done)); exact rM; exact rfl; exact rfl) | (apply jO; exact fC; exact rfl; (focus ((repeat (first | with_reducible exact List.mem_cons_self | with_reducible assumption | with_reducible refine List.mem_cons_of_mem _ ?_)); done)); exact rM; exact rfl; exact rfl)) | (refine gY ?_; first | refine aK rfl (fun _ => bW rfl rfl) rfl rfl ?_ | refine aK rfl (fun _ => bL rfl) rfl rfl ?_) | (refine jG ?_; first | refine lL rfl rfl rfl lF stC rfl rfl ⟨okF, ?_⟩ | refine fI rfl rfl fV uK lF uM rfl rfl ⟨okF, ?_⟩) | (refine iT ?_; first | refine dB rfl ?_ | refine bT rfl ?_ | refine kL rfl (by omega) ?_ | refine nD rfl (by omega) ?_))); exact hh.out)) : p := w ⟨h⟩
theorem yXh {p g : Prop} (h : g) (w : BoxP g → p := by (intro hh; (first | refine aJ ?_ | refine aH ?_ | refine kG ?_ | refine iP ?_ | refine fQ ?_ | refine fJ ?_ | refine iR ?_ | refine iM ?_ | refine fP ?_ | refine fU ?_ | refine kF ?_ | refine kM ?_ | refine kK ?_ | refine kE rfl ?_ | refine cK ?_ | (refine iA ?_; first | refine iF rfl rfl rfl ?_ | (refine iB rfl rfl ?_; refine fE rfl rfl rfl okF ?_) | refine gW rfl rfl (by omega) ?_ | refine gQ rfl rfl (by omega) ?_) | (refine bY ?_; refine aK rfl (fun _ => dJ rfl) rfl rfl ?_) | refine aK rfl (fun _ => bF rfl) rfl rfl ?_ | (refine gZ ?_; first | refine aK rfl (fun _ => bO rfl rfl wF) rfl rfl ?_ | refine aK rfl (fun _ => bP rfl rfl wF) rfl rfl ?_ | refine aK rfl (fun _ => eF rfl rfl wF) rfl rfl ?_ | refine aK rfl (fun _ => dZ rfl rfl (by omega) qF) rfl rfl ?_ | refine aK rfl (fun _ => eD rfl rfl (by omega) rfl) rfl rfl ?_ | refine aK rfl (fun _ => dP rfl rfl) rfl rfl ?_ | refine aK rfl (fun _ => dS rfl rfl) rfl rfl ?_ | refine aK rfl (fun _ => dK rfl rfl) rfl rfl ?_ | refine aK rfl (fun _ => sO rfl rfl) rfl rfl ?_ | refine aK rfl (fun _ => vZ rfl rfl) rfl rfl ?_) | (refine bY ?_; first | refine aK rfl (fun _ => dY rfl wF) rfl rfl ?_) | (refine gT ?_; first | refine aK rfl (fun _ => dE rfl wF) rfl rfl ?_) | (refine gV ?_; first | refine aK rfl (fun _ => bN rfl) rfl rfl ?_ | refine aK rfl (fun _ => dI rfl rfl) rfl rfl ?_ | refine aK rfl (fun _ => dM rfl rfl) rfl rfl ?_ | refine aK rfl (fun _ => dL rfl rfl rfl) rfl rfl ?_) | (refine gX ?_; first | refine gU rfl (by decide) rfl rfl ?_ | refine jP rfl (by decide) rfl rfl ?_) | (refine iD ?_; first | refine jL rfl rfl fH rfl rfl ?_ | refine jI fC rfl rfl fH aB jT rfl rfl ?_ | refine jN fC rfl rfl fH aB jT rfl rfl ?_ | refine aK rfl (fun _ => bX rfl rfl fH) rfl rfl ?_) | (refine bH ?_; first | (apply cB; exact fC; exact rfl; (focus ((repeat (first | with_reducible exact List.mem_cons_self | with_reducible assumption | with_reducible refine List.mem_cons_of_mem _ ?_)); done)); exact atY; exact rfl; exact rfl) | (apply lQ; exact fC; exact rfl; (focus ((repeat (first | with_reducible exact List.mem_cons_self | with_reducible assumption | with_reducible refine List.mem_cons_of_mem _ ?_)); done)); exact atY; exact rfl; exact rfl) | (apply nM; exact fC; exact rfl; (focus ((repeat (first | with_reducible exact List.mem_cons_self | with_reducible assumption | with_reducible refine List.mem_cons_of_mem _ ?_)); done)); exact atY; exact rfl; exact rfl) | (apply nT; exact fC; exact rfl; (focus ((repeat (first | with_reducible exact List.mem_cons_self | with_reducible assumption | with_reducible refine List.mem_cons_of_mem _ ?_)); done)); exact atY; exact rfl; exact rfl) | (apply jJ; exact fC; exact rfl; (focus ((repeat (first | with_reducible exact List.mem_cons_self | with_reducible assumption | with_reducible refine List.mem_cons_of_mem _ ?_)); done)); exact rM; exact rfl; exact rfl) | (apply iE; exact fC; exact rfl; (focus ((repeat (first | with_reducible exact List.mem_cons_self | with_reducible assumption | with_reducible refine List.mem_cons_of_mem _ ?_)); done)); exact rM; exact rfl; exact rfl) | (apply jM; exact fC; exact rfl; (focus ((repeat (first | with_reducible exact List.mem_cons_self | with_reducible assumption | with_reducible refine List.mem_cons_of_mem _ ?_)); done)); exact rM; exact rfl; exact rfl) | (apply jO; exact fC; exact rfl; (focus ((repeat (first | with_reducible exact List.mem_cons_self | with_reducible assumption | with_reducible refine List.mem_cons_of_mem _ ?_)); done)); exact rM; exact rfl; exact rfl)) | (refine gY ?_; first | refine aK rfl (fun _ => bW rfl rfl) rfl rfl ?_ | refine aK rfl (fun _ => bL rfl) rfl rfl ?_) | (refine iT ?_; first | refine dB rfl ?_ | refine bT rfl ?_ | refine kL rfl (by omega) ?_ | refine nD rfl (by omega) ?_)); (repeat (first | refine aJ ?_ | refine aH ?_ | refine kG ?_ | refine iP ?_ | refine fQ ?_ | refine fJ ?_ | refine iR ?_ | refine iM ?_ | refine fP ?_ | refine fU ?_ | refine kF ?_ | refine kM ?_ | refine kK ?_ | refine kE rfl ?_ | refine cK ?_ | (refine iA ?_; first | refine iF rfl rfl rfl ?_ | (refine iB rfl rfl ?_; refine fE rfl rfl rfl okF ?_) | refine gW rfl rfl (by omega) ?_ | refine gQ rfl rfl (by omega) ?_) | (refine bY ?_; refine aK rfl (fun _ => dJ rfl) rfl rfl ?_) | refine aK rfl (fun _ => bF rfl) rfl rfl ?_ | (refine gZ ?_; first | refine aK rfl (fun _ => bO rfl rfl wF) rfl rfl ?_ | refine aK rfl (fun _ => bP rfl rfl wF) rfl rfl ?_ | refine aK rfl (fun _ => eF rfl rfl wF) rfl rfl ?_ | refine aK rfl (fun _ => dZ rfl rfl (by omega) qF) rfl rfl ?_ | refine aK rfl (fun _ => eD rfl rfl (by omega) rfl) rfl rfl ?_ | refine aK rfl (fun _ => dP rfl rfl) rfl rfl ?_ | refine aK rfl (fun _ => dS rfl rfl) rfl rfl ?_ | refine aK rfl (fun _ => dK rfl rfl) rfl rfl ?_ | refine aK rfl (fun _ => sO rfl rfl) rfl rfl ?_ | refine aK rfl (fun _ => vZ rfl rfl) rfl rfl ?_) | (refine bY ?_; first | refine aK rfl (fun _ => dY rfl wF) rfl rfl ?_) | (refine gT ?_; first | refine aK rfl (fun _ => dE rfl wF) rfl rfl ?_) | (refine gV ?_; first | refine aK rfl (fun _ => bN rfl) rfl rfl ?_ | refine aK rfl (fun _ => dI rfl rfl) rfl rfl ?_ | refine aK rfl (fun _ => dM rfl rfl) rfl rfl ?_ | refine aK rfl (fun _ => dL rfl rfl rfl) rfl rfl ?_) | (refine gX ?_; first | refine gU rfl (by decide) rfl rfl ?_ | refine jP rfl (by decide) rfl rfl ?_) | (refine iD ?_; first | refine jL rfl rfl fH rfl rfl ?_ | refine jI fC rfl rfl fH aB jT rfl rfl ?_ | refine jN fC rfl rfl fH aB jT rfl rfl ?_ | refine aK rfl (fun _ => bX rfl rfl fH) rfl rfl ?_) | (refine bH ?_; first | (apply cB; exact fC; exact rfl; (focus ((repeat (first | with_reducible exact List.mem_cons_self | with_reducible assumption | with_reducible refine List.mem_cons_of_mem _ ?_)); done)); exact atY; exact rfl; exact rfl) | (apply lQ; exact fC; exact rfl; (focus ((repeat (first | with_reducible exact List.mem_cons_self | with_reducible assumption | with_reducible refine List.mem_cons_of_mem _ ?_)); done)); exact atY; exact rfl; exact rfl) | (apply nM; exact fC; exact rfl; (focus ((repeat (first | with_reducible exact List.mem_cons_self | with_reducible assumption | with_reducible refine List.mem_cons_of_mem _ ?_)); done)); exact atY; exact rfl; exact rfl) | (apply nT; exact fC; exact rfl; (focus ((repeat (first | with_reducible exact List.mem_cons_self | with_reducible assumption | with_reducible refine List.mem_cons_of_mem _ ?_)); done)); exact atY; exact rfl; exact rfl) | (apply jJ; exact fC; exact rfl; (focus ((repeat (first | with_reducible exact List.mem_cons_self | with_reducible assumption | with_reducible refine List.mem_cons_of_mem _ ?_)); done)); exact rM; exact rfl; exact rfl) | (apply iE; exact fC; exact rfl; (focus ((repeat (first | with_reducible exact List.mem_cons_self | with_reducible assumption | with_reducible refine List.mem_cons_of_mem _ ?_)); done)); exact rM; exact rfl; exact rfl) | (apply jM; exact fC; exact rfl; (focus ((repeat (first | with_reducible exact List.mem_cons_self | with_reducible assumption | with_reducible refine List.mem_cons_of_mem _ ?_)); done)); exact rM; exact rfl; exact rfl) | (apply jO; exact fC; exact rfl; (focus ((repeat (first | with_reducible exact List.mem_cons_self | with_reducible assumption | with_reducible refine List.mem_cons_of_mem _ ?_)); done)); exact rM; exact rfl; exact rfl)) | (refine gY ?_; first | refine aK rfl (fun _ => bW rfl rfl) rfl rfl ?_ | refine aK rfl (fun _ => bL rfl) rfl rfl ?_) | (refine iT ?_; first | refine dB rfl ?_ | refine bT rfl ?_ | refine kL rfl (by omega) ?_ | refine nD rfl (by omega) ?_))); exact hh.out)) : p := w ⟨h⟩
end Go.Fx
namespace Go.Proofs.YtgeagiikkeiioaaGreat
open Go Go.Fx
structure PW where
 x : RW
 y : RW
instance : Inhabited PW := ⟨⟨default, default⟩⟩
abbrev ePW (p : PW) : List Value := [.bool p.x.n1, .slice p.x.p1 p.x.g1.length p.x.c1, .bool p.x.n2, .slice p.x.p2 p.x.g2.length p.x.c2, .bool p.y.n1, .slice p.y.p1 p.y.g1.length p.y.c1, .bool p.y.n2, .slice p.y.p2 p.y.g2.length p.y.c2]
abbrev pvW (p : PW) : Value := .agg #[.bool p.x.n1, .slice p.x.p1 p.x.g1.length p.x.c1, .bool p.x.n2, .slice p.x.p2 p.x.g2.length p.x.c2, .bool p.y.n1, .slice p.y.p1 p.y.g1.length p.y.c1, .bool p.y.n2, .slice p.y.p2 p.y.g2.length p.y.c2]
instance : Sized ePW 8 := ⟨fun _ => rfl⟩
instance : Ones ePW := ⟨fun m u hu => by
 simp only [ePW, List.mem_cons, List.not_mem_nil, or_false] at hu
 rcases hu with rfl | rfl | rfl | rfl | rfl | rfl | rfl | rfl <;> rfl⟩
def PE.raw (p : PE) : PW := ⟨p.x.raw, p.y.raw⟩
def RW.small (r : RW) : Prop := r.g1.length ≤ 1000000000 ∧ r.g2.length ≤ 1000000000
def PW.small (p : PW) : Prop := p.x.small ∧ p.y.small
def PW.good (p : PW) : Prop := p.x.good ∧ p.y.good
instance PW.decG (p : PW) : Decidable p.good := by unfold PW.good; exact inferInstance
structure IsPW (p : PW) (X : List Nat) (w : World) : Prop where
 x : IsW p.x X w
 y : IsW p.y X w
abbrev isPW (p : PW) : bD := IsPW p
instance (p : PW) : Fx.Good (IsPW p) := ⟨fun X Y w w' h he hY => ⟨Fx.Good.go (φ := IsW _) X Y w w' h.x he hY, Fx.Good.go (φ := IsW _) X Y w w' h.y he hY⟩⟩
structure AllW (rs : List RW) (X : List Nat) (w : World) : Prop where
 go : ∀ r ∈ rs, IsW r X w
abbrev allW (rs : List RW) : bD := AllW rs
instance (rs : List RW) : Fx.Good (AllW rs) := ⟨fun X Y w w' h he hY => ⟨fun r hm => Fx.Good.go (φ := IsW _) X Y w w' (h.go r hm) he hY⟩⟩
structure AllPW (ps : List PW) (X : List Nat) (w : World) : Prop where
 go : ∀ p ∈ ps, IsPW p X w
abbrev allPW (ps : List PW) : bD := AllPW ps
instance (ps : List PW) : Fx.Good (AllPW ps) := ⟨fun X Y w w' h he hY => ⟨fun r hm => Fx.Good.go (φ := IsPW _) X Y w w' (h.go r hm) he hY⟩⟩
theorem aLJ {P : Program} {f : FuncId} {vs : List Value} {X : List Nat} {w0 : World} {M : List Ent} {I : List bD} {K : Value → List Ent → List bD → Prop} {φ : Prop} (h : ∀ w, Mem X w0 M I w → φ) (k : φ → CD P f vs X w0 M I K) : CD P f vs X w0 M I K := ⟨fun w hw => (k (h w hw)).go w hw⟩
section
variable {X : List Nat} {w0 : World} {M0 : List Ent} {I0 : List bD}
end
end Go.Proofs.YtgeagiikkeiioaaGreat

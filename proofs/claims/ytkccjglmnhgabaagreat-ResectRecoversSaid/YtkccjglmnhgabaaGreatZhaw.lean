/- Arrays: sliced, built, read by an index; loads of eight and twelve cells. resect: places in memory; minus, plus, dot, cross, side, scaled, zero. -/
import Derived.Test.YtkccjglmnhgabaaGreatZhav
import Derived.Test.YtkccjglmnhgabaaGreatZhao
set_option linter.unusedSimpArgs false
set_option linter.unusedVariables false
set_option maxRecDepth 100000
set_option maxHeartbeats 4000000
namespace Go.Fx
section
variable {P : Program} {n : Nat} {G : Env} {ty : TypeId} {C : World → Prop}
theorem jJ {t e : TypeId} {sz len b o : Nat} {x : Operand} [ht : ArrTy P t len e sz] (hx : ev G x = some (.pointer (some ⟨b, o, none⟩))) :
  Const P n G (.slice t x none none none) ty C (.slice (some ⟨b, o, none⟩) len len) := by
 refine ⟨?_⟩
 intro st ha dst pos after guard w _
 by_cases h : len = 0
 ·subst h
  simp [execOp, Instr.sliceAt, ha.ev hx, fF ht.und, run_sizeOf ht.size, Instr.sliceBounds, Instr.sureAddr]
 ·simp [execOp, Instr.sliceAt, ha.ev hx, fF ht.und, run_sizeOf ht.size, Instr.sliceBounds, Instr.sureAddr, h, add_lit]
theorem aHT {t e : TypeId} {sz len sz' by_ : Nat} {z : List Value} {parts : List (Nat × Operand)} {pvs : List (Nat × Value)} {cells : List Value} [ht : ArrTy P t len e sz] [hz : ElemTy P t sz' by_ z]
  (hp : parts.map (fun p => (p.1, ev G p.2)) = pvs.map (fun p => (p.1, some p.2)))
  (hf : Instr.fill (fun i => some (i * sz, sz)) z.toArray pvs = some cells.toArray) : Const P n G (.build t parts.toArray) ty C (.agg cells.toArray) := by
 refine xH hp fun w => ?_
 obtain ⟨i, hi, h3⟩ := Option.map_eq_some_iff.1 hz.info
 simp only [Prod.mk.injEq] at h3
 obtain ⟨h4, h5, h6⟩ := h3
 obtain ⟨v, hv, hc⟩ := Option.map_eq_some_iff.1 h6
 have hzv : (zeroValue t).run P w = .ok v w := by simp [zeroValue, typeInfo, hi, hv]
 unfold Instr.build
 rw [Sem.run_bind, hzv, Result.andThen_ok, Sem.run_bind, fF ht.und, Result.andThen_ok]
 simp only [Sem.run_bind, run_sizeOf ht.size, Result.andThen_ok, hc, hf]
 rfl
theorem vX {t e : TypeId} {sz len sz' : Nat} {x ix : Operand} {cs vs : List Value} {k : IntKind} {i : Int} [ht : ArrTy P t len e sz] [he : AggTy P e sz'] (hx : ev G x = some (.agg cs.toArray)) (hi : ev G ix = some (.int k i)) (h : 0 ≤ i ∧ i < len)
  (hv : (cs.drop (i.toNat * sz)).take sz = vs) : Const P n G (.index t x ix) ty C (.agg vs.toArray) := by
 refine ⟨?_⟩
 intro st ha dst pos after guard w _
 simp [execOp, Instr.index, ha.ev hx, ha.ev hi, asIntOf, fF ht.und, h.1, h.2, part, lM, run_sizeOf ht.size, List.extract_eq_take_drop, hv]
end
def PlOk (place : Nat → Option (Nat × Nat)) : Nat → Nat → List Value → Prop
 | _, _, [] => True
 | k, off, v :: r => place k = some (off, v.cells.size) ∧ PlOk place (k + 1) (off + v.cells.size) r
def mG (vals : List Value) : List Value := vals.flatMap (fun v => v.cells.toList)
theorem xI (place : Nat → Option (Nat × Nat)) : ∀ (vals : List Value) (k : Nat) (pre : List Value) (base : Array Value), base.size = pre.length + (mG vals).length → base.toList.take pre.length = pre → PlOk place k pre.length vals →
  Instr.fill place base ((vals.zipIdx k).map (fun p => (p.2, p.1))) = some (pre ++ mG vals).toArray
 | [], k, pre, base, hb, ht, _ => by
  have : base.toList = pre := by
   rw [← ht, List.take_of_length_le]
   simp [hb, mG]
  simp [Instr.fill, mG, ← this]
 | v :: r, k, pre, base, hb, ht, hc => by
  obtain ⟨h1, h2⟩ := hc
  have hcl : mG (v :: r) = v.cells.toList ++ mG r := by simp [mG]
  have hcs : v.cells.toList.length = v.cells.size := by simp
  have hlt : pre.length + v.cells.size ≤ base.size := by
   rw [hb, hcl, List.length_append, hcs]; omega
  simp only [List.zipIdx_cons, List.map_cons, Instr.fill, h1]
  have hno : ¬ (v.cells.size ≠ v.cells.size ∨ pre.length + v.cells.size > base.size) := by omega
  have hf := xC pre.length v.cells.toList base (by simp; omega)
  simp only [Array.toArray_toList] at hf
  simp only [Bool.or_eq_true, decide_eq_true_eq, hno, if_false, hf]
  rw [xI place r (k + 1) (pre ++ v.cells.toList) _ ?_ ?_ (by rw [List.length_append, hcs]; exact h2)]
  ·rw [hcl, List.append_assoc]
  ·simp only [List.size_toArray, List.length_append, List.length_take, List.length_drop, hcs, Array.length_toList]
   rw [hcl, List.length_append, hcs] at hb
   omega
  ·simp only [ht]
   rw [List.take_append_of_le_length (by simp), List.take_of_length_le (by simp)]
section
variable {P : Program} {n : Nat} {G : Env} {ty : TypeId} {C : World → Prop}
theorem jP {t : TypeId} {parts : List (Nat × Operand)} {vals cells : List Value} {places : List (Nat × Nat)} {z : List Value} [ht : StructTy P t places z]
  (hp : parts.map (fun p => (p.1, ev G p.2)) = vals.zipIdx.map (fun p => (p.2, some p.1))) (hpl : PlOk (places.toArray[·]?) 0 0 vals) (hc : mG vals = cells) (hz : z.length = cells.length) :
  Const P n G (.build t parts.toArray) ty C (.agg cells.toArray) := by
 refine dD (pvs := vals.zipIdx.map (fun p => (p.2, p.1))) (places := places) (z := z) (by rw [hp]; simp) ?_
 have := xI (places.toArray[·]?) vals 0 [] z.toArray (by simp [hc, hz]) (by simp) (by simpa using hpl)
 rw [hc] at this
 simpa using this
theorem aX {t e : TypeId} {sz len sz' by_ : Nat} {z : List Value} {parts : List (Nat × Operand)} {vals cells : List Value} [ht : ArrTy P t len e sz] [hz : ElemTy P t sz' by_ z]
  (hp : parts.map (fun p => (p.1, ev G p.2)) = vals.zipIdx.map (fun p => (p.2, some p.1))) (hs : ∀ v ∈ vals, v.cells.size = sz) (hc : mG vals = cells) (hl : z.length = vals.length * sz) :
  Const P n G (.build t parts.toArray) ty C (.agg cells.toArray) := by
 refine aHT (pvs := vals.zipIdx.map (fun p => (p.2, p.1))) (by rw [hp]; simp) ?_
 have := yJ sz vals 0 [] z.toArray (by simp) (by simp [hl]) (by simp) hs
 have h2 : vals.flatMap (fun v => v.cells.toList) = cells := hc
 rw [h2] at this
 simpa using this
end
theorem tO {P : Program} {n : Nat} {G : Env} {ty : TypeId} {C : World → Prop} {t t' : TypeId} {x y : Operand} {a b : Bool} [ht : BoolTy P t] (hx : ev G x = some (.bool a)) (hy : ev G y = some (.bool b)) :
  Const P n G (.binOp .neq t x y t') ty C (.bool (!(a == b))) := by
 refine ⟨?_⟩
 intro s ha dst pos after guard w _
 have e1 : (eqGuard .neq t x y (.bool a) (.bool b)).run P w = .ok () w := rfl
 simp only [execOp, ha.ev hx, ha.ev hy, Sem.run_bind, e1, Result.andThen_ok, run_neq_bool _ t a b ht.und, Sem.run_pure]
theorem aAN {α : Type} [Inhabited α] {enc : α → List Value} {sz : Nat} [h : Sized enc sz] {ms : List α} {i : Int} (hi : 0 ≤ i ∧ i < ms.length) : ((recs enc ms).drop (i.toNat * sz)).take sz = enc (gt ms i) := by
 apply List.ext_getElem?
 intro j
 have hl := h.len (gt ms i)
 rw [List.getElem?_take]
 by_cases hj : j < sz
 ·rw [if_pos hj, List.getElem?_drop, List.getElem?_eq_getElem (by omega : j < (enc (gt ms i)).length)]
  exact vT ms i.toNat j _ _ (aBF hi) (List.getElem?_eq_getElem (by omega))
 ·rw [if_neg hj, List.getElem?_eq_none (by omega)]
theorem AtsZ.n8 {cs : List Value} {o : Nat} {a b c d e f g h : Value} (h0 : cs[o]? = some a) (h1 : cs[o + 1]? = some b) (h2 : cs[o + 2]? = some c) (h3 : cs[o + 3]? = some d) (h4 : cs[o + 4]? = some e) (h5 : cs[o + 5]? = some f) (h6 : cs[o + 6]? = some g) (h7 : cs[o + 7]? = some h) : AtsZ cs o [a, b, c, d, e, f, g, h] 8 := ⟨⟨fun j v hj => by
 match j, hj with
 | 0, hj => simp at hj; subst hj; exact h0
 | 1, hj => simp at hj; subst hj; exact h1
 | 2, hj => simp at hj; subst hj; exact h2
 | 3, hj => simp at hj; subst hj; exact h3
 | 4, hj => simp at hj; subst hj; exact h4
 | 5, hj => simp at hj; subst hj; exact h5
 | 6, hj => simp at hj; subst hj; exact h6
 | 7, hj => simp at hj; subst hj; exact h7
 | j + 8, hj => simp at hj⟩, rfl⟩
theorem atY {cs vs : List Value} {o sz : Nat} (h : AtsZ cs o vs sz := by first | (with_reducible refine AtsZ.r ?_; exact iO) | (with_reducible refine AtsZ.r2 ?_ ?_ ?_; exact iO; rfl; rfl) | (with_reducible refine AtsZ.r4 ?_ ?_ ?_ ?_ ?_; exact iO; rfl; rfl; rfl; rfl) | exact AtsZ.all rfl | exact AtsZ.n2 rfl rfl | exact AtsZ.n4 rfl rfl rfl rfl | exact AtsZ.n8 rfl rfl rfl rfl rfl rfl rfl rfl | (refine AtsZ.r ?_; exact iO) | (refine AtsZ.app ?_; refine AtsZ.r ?_; exact iO)) : AtsZ cs o vs sz := h
end Go.Fx
namespace Go.Proofs.YtkccjglmnhgabaaGreat
open Go Go.Fx
structure PE where
 x : RE
 y : RE
instance : Inhabited PE := ⟨⟨default, default⟩⟩
abbrev eP (p : PE) : List Value := [.bool (B (p.x.q.num < 0)), .slice p.x.p1 (gr p.x.q.num.natAbs).length p.x.c1, .bool (B ((p.x.q.den : Int) < 0)), .slice p.x.p2 (gr (p.x.q.den : Int).natAbs).length p.x.c2, .bool (B (p.y.q.num < 0)), .slice p.y.p1 (gr p.y.q.num.natAbs).length p.y.c1, .bool (B ((p.y.q.den : Int) < 0)), .slice p.y.p2 (gr (p.y.q.den : Int).natAbs).length p.y.c2]
abbrev pv (p : PE) : Value := .agg #[.bool (B (p.x.q.num < 0)), .slice p.x.p1 (gr p.x.q.num.natAbs).length p.x.c1, .bool (B ((p.x.q.den : Int) < 0)), .slice p.x.p2 (gr (p.x.q.den : Int).natAbs).length p.x.c2, .bool (B (p.y.q.num < 0)), .slice p.y.p1 (gr p.y.q.num.natAbs).length p.y.c1, .bool (B ((p.y.q.den : Int) < 0)), .slice p.y.p2 (gr (p.y.q.den : Int).natAbs).length p.y.c2]
instance : Sized eP 8 := ⟨fun _ => rfl⟩
instance : Ones eP := ⟨fun m u hu => by
 simp only [eP, List.mem_cons, List.not_mem_nil, or_false] at hu
 rcases hu with rfl | rfl | rfl | rfl | rfl | rfl | rfl | rfl <;> rfl⟩
def PE.v (p : PE) : V2 := ⟨p.x.q, p.y.q⟩
structure IsP (p : PE) (k : Nat) (X : List Nat) (w : World) : Prop where
 x : IsR p.x k X w
 y : IsR p.y k X w
abbrev cZ (p : PE) (k : Nat) : aZ := IsP p k
instance (p : PE) (k : Nat) : Fx.Good (IsP p k) := ⟨fun X Y w w' h he hY => ⟨Fx.Good.go (φ := IsR _ _) X Y w w' h.x he hY, Fx.Good.go (φ := IsR _ _) X Y w w' h.y he hY⟩⟩
theorem Hv.px {I : List aZ} {p : PE} {k m : Nat} (h : cZ p k ∈ I) (hk : k ≤ m) : Hv I (bM p.x m) := ⟨fun X w hw => IsR.mono (hw _ h : IsP p k X w).x hk⟩
theorem Hv.py {I : List aZ} {p : PE} {k m : Nat} (h : cZ p k ∈ I) (hk : k ≤ m) : Hv I (bM p.y m) := ⟨fun X w hw => IsR.mono (hw _ h : IsP p k X w).y hk⟩
theorem Hv.pm {I : List aZ} {p : PE} {k m : Nat} (h : cZ p k ∈ I) (hk : k ≤ m) : Hv I (cZ p m) := ⟨fun X w hw => ⟨IsR.mono (hw _ h : IsP p k X w).x hk, IsR.mono (hw _ h : IsP p k X w).y hk⟩⟩
theorem Hv.pxH {I : List aZ} {p : PE} {k : Nat} (h : Hv I (cZ p k)) : Hv I (bM p.x k) := ⟨fun X w hw => (h.go X w hw).x⟩
theorem Hv.pyH {I : List aZ} {p : PE} {k : Nat} (h : Hv I (cZ p k)) : Hv I (bM p.y k) := ⟨fun X w hw => (h.go X w hw).y⟩
theorem Hv.mkP {I : List aZ} {a b : RE} {k : Nat} (ha : Hv I (bM a k)) (hb : Hv I (bM b k)) : Hv I (cZ ⟨a, b⟩ k) := ⟨fun X w hw => ⟨ha.go X w hw, hb.go X w hw⟩⟩
theorem Hv.monoP {I : List aZ} {a : PE} {k m : Nat} (ha : Hv I (cZ a k)) (h : k ≤ m) : Hv I (cZ a m) := ⟨fun X w hw => ⟨(ha.go X w hw).x.mono h, (ha.go X w hw).y.mono h⟩⟩
theorem fK {I : List aZ} {φ : aZ} (h : Hv I φ := by first | (with_reducible refine Hv.mem ?_; ((repeat (first | with_reducible exact List.mem_cons_self | with_reducible refine List.mem_cons_of_mem _ ?_))); done) | (with_reducible apply Hv.q; ((repeat (first | with_reducible exact List.mem_cons_self | with_reducible refine List.mem_cons_of_mem _ ?_))); omega) | (with_reducible apply Hv.pm; ((repeat (first | with_reducible exact List.mem_cons_self | with_reducible refine List.mem_cons_of_mem _ ?_))); omega) | (with_reducible apply Hv.px; ((repeat (first | with_reducible exact List.mem_cons_self | with_reducible refine List.mem_cons_of_mem _ ?_))); omega) | (with_reducible apply Hv.py; ((repeat (first | with_reducible exact List.mem_cons_self | with_reducible refine List.mem_cons_of_mem _ ?_))); omega) | with_reducible assumption | ((repeat (first | with_reducible assumption | with_reducible refine Hv.cons ?_)); done)) : Hv I φ := h
def PQ (q : V2) (k : Nat) (M0 : List Ent) (I0 : List aZ) (v : Value) (M : List Ent) (I : List aZ) : Prop := M0 = M ∧ ∃ p : PE, v = pv p ∧ p.v = q ∧ I = cZ p k :: I0
section
variable {n : Nat} {Q : Exit → Act → World → Prop} {G : Env} {X : List Nat} {w0 : World} {M : List Ent} {I : List aZ}
theorem qG {ex : Exit} {a b : RE} {k : Nat} (ha : Hv I (bM a k)) (hb : Hv I (bM b k)) (h : ND n Q ex G X w0 M (cZ ⟨a, b⟩ k :: I)) : ND n Q ex G X w0 M I := bJ (Hv.mkP ha hb) h
end
section
variable {X : List Nat} {w0 : World} {M0 : List Ent} {I0 : List aZ}
theorem nE {a b : PE} {k m : Nat} (hk : k + m + 1 ≤ 500000000000) (ha : Hv I0 (cZ a k)) (hb : Hv I0 (cZ b m)) :
  CD Tryz.prog 86 [pv a, pv b] X w0 M0 I0 (PQ (a.v.sub b.v) (k + m + 1) M0 I0) := by
 have h1 := fun M0 I0 => vO (X := X) (w0 := w0) (M0 := M0) (I0 := I0) (a := a.x) (b := b.x) (k := k) (m := m) hk
 have h2 := fun M0 I0 => vO (X := X) (w0 := w0) (M0 := M0) (I0 := I0) (a := a.y) (b := b.y) (k := k) (m := m) hk
 refine bE Tryz.func86 rfl Tryz.ntmps86 rfl ?_
 refine aL ?_
 refine aM ?_
 (refine aR rfl rfl rfl ?_; intro b1; refine ⟨okF, ?_⟩)
 (refine aR rfl rfl rfl ?_; intro b2; refine ⟨okF, ?_⟩)
 (refine aB rfl rfl ?_; intro b3; refine ⟨okF, ?_⟩)
 repeat (refine aV ?_)
 (repeat refine aL ?_); refine dJ (.blk b2 (eP b) 43 :: .blk b1 (eP a) 43 :: M0) (I0) [0, 1, 2, 3, 5, 6, 7, 8, 4, 9, 10, 11] [2, 1, 2, 1, 2, 1, 2, 1, 0, 0, 0, 0] aD aF mixed (by kernel_rfl) ?_
 repeat (refine aV ?_)
 (refine aA rfl (h1 _ _ ha.pxH hb.pxH) rfl rfl ?_; rintro _ _ _ ⟨rfl, e1, rfl, he1, rfl⟩; refine ⟨okF, ?_⟩)
 repeat (refine aV ?_)
 (refine aA rfl (h2 _ _ ha.pyH.cons hb.pyH.cons) rfl rfl ?_; rintro _ _ _ ⟨rfl, e2, rfl, he2, rfl⟩; refine ⟨okF, ?_⟩)
 repeat (refine aV ?_)
 (refine aH rfl (fun _ => jP (vals := [rv e1, rv e2]) (cells := eP ⟨e1, e2⟩) rfl ?hpl rfl ?hz) rfl rfl ?_; (case hpl => repeat (first | exact True.intro | refine ⟨rfl, ?_⟩)); (case hz => rfl))
 repeat (refine aV ?_)
 refine qG (a := e1) (b := e2) (k := k + m + 1) fK fK ?_
 refine bK (cs := eP ⟨e1, e2⟩) (.inl rfl) rfl rfl aC rfl M0 (cZ ⟨e1, e2⟩ (k + m + 1) :: I0) aD aF ⟨rfl, ⟨e1, e2⟩, rfl, by simp only [PE.v, V2.sub, he1, he2], rfl⟩
theorem aLB {a b : PE} {k m : Nat} (hk : k + m + 1 ≤ 500000000000) (ha : Hv I0 (cZ a k)) (hb : Hv I0 (cZ b m)) :
  CD Tryz.prog 92 [pv a, pv b] X w0 M0 I0 (PQ (a.v.add b.v) (k + m + 1) M0 I0) := by
 have h1 := fun M0 I0 => tV (X := X) (w0 := w0) (M0 := M0) (I0 := I0) (a := a.x) (b := b.x) (k := k) (m := m) hk
 have h2 := fun M0 I0 => tV (X := X) (w0 := w0) (M0 := M0) (I0 := I0) (a := a.y) (b := b.y) (k := k) (m := m) hk
 refine bE Tryz.func92 rfl Tryz.ntmps92 rfl ?_
 refine aL ?_
 refine aM ?_
 (refine aR rfl rfl rfl ?_; intro b1; refine ⟨okF, ?_⟩)
 (refine aR rfl rfl rfl ?_; intro b2; refine ⟨okF, ?_⟩)
 (refine aB rfl rfl ?_; intro b3; refine ⟨okF, ?_⟩)
 repeat (refine aV ?_)
 (repeat refine aL ?_); refine dJ (.blk b2 (eP b) 43 :: .blk b1 (eP a) 43 :: M0) (I0) [0, 1, 2, 3, 5, 6, 7, 8, 4, 9, 10, 11] [2, 1, 2, 1, 2, 1, 2, 1, 0, 0, 0, 0] aD aF mixed (by kernel_rfl) ?_
 repeat (refine aV ?_)
 (refine aA rfl (h1 _ _ ha.pxH hb.pxH) rfl rfl ?_; rintro _ _ _ ⟨rfl, e1, rfl, he1, rfl⟩; refine ⟨okF, ?_⟩)
 repeat (refine aV ?_)
 (refine aA rfl (h2 _ _ ha.pyH.cons hb.pyH.cons) rfl rfl ?_; rintro _ _ _ ⟨rfl, e2, rfl, he2, rfl⟩; refine ⟨okF, ?_⟩)
 repeat (refine aV ?_)
 (refine aH rfl (fun _ => jP (vals := [rv e1, rv e2]) (cells := eP ⟨e1, e2⟩) rfl ?hpl rfl ?hz) rfl rfl ?_; (case hpl => repeat (first | exact True.intro | refine ⟨rfl, ?_⟩)); (case hz => rfl))
 repeat (refine aV ?_)
 refine qG (a := e1) (b := e2) (k := k + m + 1) fK fK ?_
 refine bK (cs := eP ⟨e1, e2⟩) (.inl rfl) rfl rfl aC rfl M0 (cZ ⟨e1, e2⟩ (k + m + 1) :: I0) aD aF ⟨rfl, ⟨e1, e2⟩, rfl, by simp only [PE.v, V2.add, he1, he2], rfl⟩
theorem aFW {a b : PE} {k m : Nat} (hk : (k + m) + (k + m) + 1 ≤ 500000000000) (ha : Hv I0 (cZ a k)) (hb : Hv I0 (cZ b m)) :
  CD Tryz.prog 93 [pv a, pv b] X w0 M0 I0 (RQ (a.v.dot b.v) ((k + m) + (k + m) + 1) M0 I0) := by
 have h1 := fun M0 I0 => mF (X := X) (w0 := w0) (M0 := M0) (I0 := I0) (a := a.x) (b := b.x) (k := k) (m := m) (by omega)
 have h2 := fun M0 I0 => mF (X := X) (w0 := w0) (M0 := M0) (I0 := I0) (a := a.y) (b := b.y) (k := k) (m := m) (by omega)
 have h3 := fun e1 e2 M0 I0 => tV (X := X) (w0 := w0) (M0 := M0) (I0 := I0) (a := e1) (b := e2) (k := k + m) (m := k + m) hk
 refine bE Tryz.func93 rfl Tryz.ntmps93 rfl ?_
 refine aL ?_
 refine aM ?_
 (refine aR rfl rfl rfl ?_; intro b1; refine ⟨okF, ?_⟩)
 (refine aR rfl rfl rfl ?_; intro b2; refine ⟨okF, ?_⟩)
 (refine aB rfl rfl ?_; intro b3; refine ⟨okF, ?_⟩)
 repeat (refine aV ?_)
 (repeat refine aL ?_); refine dJ (.blk b2 (eP b) 43 :: .blk b1 (eP a) 43 :: M0) (I0) [0, 1, 2, 3, 5, 6, 7, 8, 4, 9, 10, 11] [3, 2, 3, 2, 3, 2, 3, 2, 0, 0, 0, 0] aD aF mixed (by kernel_rfl) ?_
 repeat (refine aV ?_)
 (refine aA rfl (h1 _ _ ha.pxH hb.pxH) rfl rfl ?_; rintro _ _ _ ⟨rfl, e1, rfl, he1, rfl⟩; refine ⟨okF, ?_⟩)
 repeat (refine aV ?_)
 (refine aA rfl (h2 _ _ ha.pyH.cons hb.pyH.cons) rfl rfl ?_; rintro _ _ _ ⟨rfl, e2, rfl, he2, rfl⟩; refine ⟨okF, ?_⟩)
 repeat (refine aV ?_)
 (refine aA rfl (h3 e1 e2 _ _ fK fK) rfl rfl ?_; rintro _ _ _ ⟨rfl, e3, rfl, he3, rfl⟩; refine ⟨okF, ?_⟩)
 repeat (refine aV ?_)
 refine bK (cs := eR e3) (.inl rfl) rfl rfl aC rfl M0 (bM e3 ((k + m) + (k + m) + 1) :: I0) aD aF ⟨rfl, e3, rfl, by simp only [PE.v, V2.dot, he1, he2, he3], rfl⟩
theorem aAG {a b : PE} {k m : Nat} (hk : (k + m) + (k + m) + 1 ≤ 500000000000) (ha : Hv I0 (cZ a k)) (hb : Hv I0 (cZ b m)) :
  CD Tryz.prog 143 [pv a, pv b] X w0 M0 I0 (RQ (a.v.crs b.v) ((k + m) + (k + m) + 1) M0 I0) := by
 have h1 := fun M0 I0 => mF (X := X) (w0 := w0) (M0 := M0) (I0 := I0) (a := a.x) (b := b.y) (k := k) (m := m) (by omega)
 have h2 := fun M0 I0 => mF (X := X) (w0 := w0) (M0 := M0) (I0 := I0) (a := a.y) (b := b.x) (k := k) (m := m) (by omega)
 have h3 := fun e1 e2 M0 I0 => vO (X := X) (w0 := w0) (M0 := M0) (I0 := I0) (a := e1) (b := e2) (k := k + m) (m := k + m) hk
 refine bE Tryz.func143 rfl Tryz.ntmps143 rfl ?_
 refine aL ?_
 refine aM ?_
 (refine aR rfl rfl rfl ?_; intro b1; refine ⟨okF, ?_⟩)
 (refine aR rfl rfl rfl ?_; intro b2; refine ⟨okF, ?_⟩)
 (refine aB rfl rfl ?_; intro b3; refine ⟨okF, ?_⟩)
 repeat (refine aV ?_)
 (repeat refine aL ?_); refine dJ (.blk b2 (eP b) 43 :: .blk b1 (eP a) 43 :: M0) (I0) [0, 1, 2, 3, 5, 6, 7, 8, 4, 9, 10, 11] [3, 2, 3, 2, 3, 2, 3, 2, 0, 0, 0, 0] aD aF mixed (by kernel_rfl) ?_
 repeat (refine aV ?_)
 (refine aA rfl (h1 _ _ ha.pxH hb.pyH) rfl rfl ?_; rintro _ _ _ ⟨rfl, e1, rfl, he1, rfl⟩; refine ⟨okF, ?_⟩)
 repeat (refine aV ?_)
 (refine aA rfl (h2 _ _ ha.pyH.cons hb.pxH.cons) rfl rfl ?_; rintro _ _ _ ⟨rfl, e2, rfl, he2, rfl⟩; refine ⟨okF, ?_⟩)
 repeat (refine aV ?_)
 (refine aA rfl (h3 e1 e2 _ _ fK fK) rfl rfl ?_; rintro _ _ _ ⟨rfl, e3, rfl, he3, rfl⟩; refine ⟨okF, ?_⟩)
 repeat (refine aV ?_)
 refine bK (cs := eR e3) (.inl rfl) rfl rfl aC rfl M0 (bM e3 ((k + m) + (k + m) + 1) :: I0) aD aF ⟨rfl, e3, rfl, by simp only [PE.v, V2.crs, he1, he2, he3], rfl⟩
theorem sG {a : PE} {k : Nat} (hk : k ≤ 500000000000) (ha : Hv I0 (cZ a k)) :
  CD Tryz.prog 91 [pv a] X w0 M0 I0 (PQ a.v.sd k M0 I0) := by
 have h1 := fun M0 I0 => vW (X := X) (w0 := w0) (M0 := M0) (I0 := I0) (e := a.x) (k := k) hk
 refine cO Tryz.func91 rfl Tryz.ntmps91 rfl ?_
 refine aL ?_
 refine aM ?_
 (refine aR rfl rfl rfl ?_; intro b1; refine ⟨okF, ?_⟩)
 (refine aB rfl rfl ?_; intro b3; refine ⟨okF, ?_⟩)
 repeat (refine aV ?_)
 (repeat refine aL ?_); refine dJ (.blk b1 (eP a) 43 :: M0) (I0) [0, 1, 2, 3, 4, 5, 6] [1, 1, 1, 0, 0, 0, 0] aD aF mixed (by kernel_rfl) ?_
 repeat (refine aV ?_)
 (refine aA rfl (h1 _ _ ha.pxH) rfl rfl ?_; rintro _ _ _ ⟨rfl, e1, rfl, he1, rfl⟩; refine ⟨okF, ?_⟩)
 repeat (refine aV ?_)
 (refine aH rfl (fun _ => jP (vals := [rv a.y, rv e1]) (cells := eP ⟨a.y, e1⟩) rfl ?hpl rfl ?hz) rfl rfl ?_; (case hpl => repeat (first | exact True.intro | refine ⟨rfl, ?_⟩)); (case hz => rfl))
 repeat (refine aV ?_)
 refine qG (a := a.y) (b := e1) (k := k) ha.pyH.cons fK ?_
 refine bK (cs := eP ⟨a.y, e1⟩) (.inl rfl) rfl rfl aC rfl M0 (cZ ⟨a.y, e1⟩ k :: I0) aD aF ⟨rfl, ⟨a.y, e1⟩, rfl, by simp only [PE.v, V2.sd, he1], rfl⟩
theorem nJ {a : PE} {b : RE} {k m : Nat} (hk : m + k ≤ 500000000000) (ha : Hv I0 (cZ a k)) (hb : Hv I0 (bM b m)) :
  CD Tryz.prog 90 [pv a, rv b] X w0 M0 I0 (PQ (a.v.scl b.q) (m + k) M0 I0) := by
 have h1 := fun M0 I0 => mF (X := X) (w0 := w0) (M0 := M0) (I0 := I0) (a := b) (b := a.x) (k := m) (m := k) hk
 have h2 := fun M0 I0 => mF (X := X) (w0 := w0) (M0 := M0) (I0 := I0) (a := b) (b := a.y) (k := m) (m := k) hk
 refine bE Tryz.func90 rfl Tryz.ntmps90 rfl ?_
 refine aL ?_
 refine aM ?_
 (refine aR rfl rfl rfl ?_; intro b1; refine ⟨okF, ?_⟩)
 (refine aR rfl rfl rfl ?_; intro b2; refine ⟨okF, ?_⟩)
 (refine aB rfl rfl ?_; intro b3; refine ⟨okF, ?_⟩)
 repeat (refine aV ?_)
 (repeat refine aL ?_); refine dJ (.blk b2 (eR b) 37 :: .blk b1 (eP a) 43 :: M0) (I0) [0, 1, 2, 4, 5, 6, 3, 7, 8, 9] [1, 2, 1, 1, 2, 1, 0, 0, 0, 0] aD aF mixed (by kernel_rfl) ?_
 repeat (refine aV ?_)
 (refine aA rfl (h1 _ _ hb ha.pxH) rfl rfl ?_; rintro _ _ _ ⟨rfl, e1, rfl, he1, rfl⟩; refine ⟨okF, ?_⟩)
 repeat (refine aV ?_)
 (refine aA rfl (h2 _ _ hb.cons ha.pyH.cons) rfl rfl ?_; rintro _ _ _ ⟨rfl, e2, rfl, he2, rfl⟩; refine ⟨okF, ?_⟩)
 repeat (refine aV ?_)
 (refine aH rfl (fun _ => jP (vals := [rv e1, rv e2]) (cells := eP ⟨e1, e2⟩) rfl ?hpl rfl ?hz) rfl rfl ?_; (case hpl => repeat (first | exact True.intro | refine ⟨rfl, ?_⟩)); (case hz => rfl))
 repeat (refine aV ?_)
 refine qG (a := e1) (b := e2) (k := m + k) fK fK ?_
 refine bK (cs := eP ⟨e1, e2⟩) (.inl rfl) rfl rfl aC rfl M0 (cZ ⟨e1, e2⟩ (m + k) :: I0) aD aF ⟨rfl, ⟨e1, e2⟩, rfl, by simp only [PE.v, V2.scl, he1, he2], rfl⟩
theorem sgn0 {q : Rat} : q.num.sign = 0 ↔ q = 0 := by rw [Int.sign_eq_zero_iff_zero, Rat.num_eq_zero]
theorem yS {a : PE} {k : Nat} (hk : k ≤ 500000000000) (ha : Hv I0 (cZ a k)) :
  CD Tryz.prog 89 [pv a] X w0 M0 I0 (fun v M I => M0 = M ∧ I0 = I ∧ v = .bool (B (a.v.z0))) := by
 have h1 := fun M0 I0 => kE (X := X) (w0 := w0) (M0 := M0) (I0 := I0) (e := a.x) (k := k) hk
 have h2 := fun M0 I0 => kE (X := X) (w0 := w0) (M0 := M0) (I0 := I0) (e := a.y) (k := k) hk
 have e1 : a.x.q.num.sign = 0 ↔ a.x.q = 0 := sgn0
 have e2 : a.y.q.num.sign = 0 ↔ a.y.q = 0 := sgn0
 have e3 : a.v.z0 ↔ (a.x.q.num.sign = 0 ∧ a.y.q.num.sign = 0) := by rw [e1, e2]; exact Iff.rfl
 rw [gD e3]
 generalize a.x.q.num.sign = s1 at *
 generalize a.y.q.num.sign = s2 at *
 refine cO Tryz.func89 rfl Tryz.ntmps89 rfl ?_
 refine aL ?_
 refine aM ?_
 (refine aR rfl rfl rfl ?_; intro b1; refine ⟨okF, ?_⟩)
 repeat (refine aV ?_)
 (refine aA rfl (h1 _ _ ha.pxH) rfl rfl ?_; rintro _ _ _ ⟨rfl, rfl, rfl⟩; refine ⟨okF, ?_⟩)
 repeat' (first | refine aV ?_ | refine aU rfl (fun h => ?_) (fun h => ?_) | refine aT rfl rfl (fun h => ?_) (fun h => ?_) | fail)
 ·(refine aA rfl (h2 _ _ ha.pyH) rfl rfl ?_; rintro _ _ _ ⟨rfl, rfl, rfl⟩; refine ⟨okF, ?_⟩)
  repeat (refine aV ?_)
  refine aQ (by first | exact .inl rfl | exact .inr rfl) rfl rfl _ _ aD aF (⟨rfl, rfl, congrArg Value.bool (gD ⟨fun h2 => ⟨by omega, h2⟩, fun h2 => h2.2⟩)⟩)
 ·refine aQ (by first | exact .inl rfl | exact .inr rfl) rfl rfl _ _ aD aF (⟨rfl, rfl, congrArg Value.bool (bN (fun h2 => by omega)).symm⟩)
end
end Go.Proofs.YtkccjglmnhgabaaGreat

/- resect: places in memory; minus, plus, dot, cross, side, scaled, zero. -/
import Derived.Test.YteghpnkhlfkigaaGreatZrsbh
import Derived.Test.YteghpnkhlfkigaaGreatZrsbi
import Derived.Test.YteghpnkhlfkigaaGreatZrsaw
set_option linter.unusedSimpArgs false
set_option linter.unusedVariables false
namespace Go.Proofs.YteghpnkhlfkigaaGreat
open Go Go.Fx
/-- a place -/
structure PE where
  x : RE
  y : RE
instance : Inhabited PE := ⟨⟨default, default⟩⟩
abbrev eP (p : PE) : List Value := [.bool (B (p.x.q.num < 0)), .slice p.x.p1 (gr p.x.q.num.natAbs).length p.x.c1, .bool (B ((p.x.q.den : Int) < 0)), .slice p.x.p2 (gr (p.x.q.den : Int).natAbs).length p.x.c2, .bool (B (p.y.q.num < 0)), .slice p.y.p1 (gr p.y.q.num.natAbs).length p.y.c1, .bool (B ((p.y.q.den : Int) < 0)), .slice p.y.p2 (gr (p.y.q.den : Int).natAbs).length p.y.c2]
abbrev pv (p : PE) : Value := .agg #[.bool (B (p.x.q.num < 0)), .slice p.x.p1 (gr p.x.q.num.natAbs).length p.x.c1, .bool (B ((p.x.q.den : Int) < 0)), .slice p.x.p2 (gr (p.x.q.den : Int).natAbs).length p.x.c2, .bool (B (p.y.q.num < 0)), .slice p.y.p1 (gr p.y.q.num.natAbs).length p.y.c1, .bool (B ((p.y.q.den : Int) < 0)), .slice p.y.p2 (gr (p.y.q.den : Int).natAbs).length p.y.c2]
instance : Sized eP 8 := ⟨fun _ => rfl⟩
instance : Ones eP := ⟨fun m u hu => by
  simp only [eP, List.mem_cons, List.not_mem_nil, or_false] at hu
  rcases hu with rfl | rfl | rfl | rfl | rfl | rfl | rfl | rfl <;> rfl⟩
def PE.v (p : PE) : V2 := ⟨p.x.q, p.y.q⟩
structure IsP (p : PE) (k : Nat) (X : List Nat) (w : World) : Prop where
  x : IsR p.x k X w
  y : IsR p.y k X w
abbrev isP (p : PE) (k : Nat) : Imm := IsP p k
instance (p : PE) (k : Nat) : Fx.Good (IsP p k) := ⟨fun X Y w w' h he hY => ⟨Fx.Good.go (φ := IsR _ _) X Y w w' h.x he hY, Fx.Good.go (φ := IsR _ _) X Y w w' h.y he hY⟩⟩
theorem Hv.px {I : List Imm} {p : PE} {k m : Nat} (h : isP p k ∈ I) (hk : k ≤ m) : Hv I (isR p.x m) := ⟨fun X w hw => IsR.mono (hw _ h : IsP p k X w).x hk⟩
theorem Hv.py {I : List Imm} {p : PE} {k m : Nat} (h : isP p k ∈ I) (hk : k ≤ m) : Hv I (isR p.y m) := ⟨fun X w hw => IsR.mono (hw _ h : IsP p k X w).y hk⟩
theorem Hv.pm {I : List Imm} {p : PE} {k m : Nat} (h : isP p k ∈ I) (hk : k ≤ m) : Hv I (isP p m) := ⟨fun X w hw => ⟨IsR.mono (hw _ h : IsP p k X w).x hk, IsR.mono (hw _ h : IsP p k X w).y hk⟩⟩
theorem Hv.pxH {I : List Imm} {p : PE} {k : Nat} (h : Hv I (isP p k)) : Hv I (isR p.x k) := ⟨fun X w hw => (h.go X w hw).x⟩
theorem Hv.pyH {I : List Imm} {p : PE} {k : Nat} (h : Hv I (isP p k)) : Hv I (isR p.y k) := ⟨fun X w hw => (h.go X w hw).y⟩
theorem Hv.mkP {I : List Imm} {a b : RE} {k : Nat} (ha : Hv I (isR a k)) (hb : Hv I (isR b k)) : Hv I (isP ⟨a, b⟩ k) := ⟨fun X w hw => ⟨ha.go X w hw, hb.go X w hw⟩⟩
theorem Hv.monoR {I : List Imm} {a : RE} {k m : Nat} (ha : Hv I (isR a k)) (h : k ≤ m) : Hv I (isR a m) := ⟨fun X w hw => (ha.go X w hw).mono h⟩
theorem Hv.monoP {I : List Imm} {a : PE} {k m : Nat} (ha : Hv I (isP a k)) (h : k ≤ m) : Hv I (isP a m) := ⟨fun X w hw => ⟨(ha.go X w hw).x.mono h, (ha.go X w hw).y.mono h⟩⟩
/-- a fact about a number or a place, found -/
theorem hvZ {I : List Imm} {φ : Imm} (h : Hv I φ := by first | (with_reducible refine Hv.mem ?_; ((repeat (first | with_reducible exact List.mem_cons_self | with_reducible refine List.mem_cons_of_mem _ ?_))); done) | (with_reducible apply Hv.q; ((repeat (first | with_reducible exact List.mem_cons_self | with_reducible refine List.mem_cons_of_mem _ ?_))); omega) | (with_reducible apply Hv.pm; ((repeat (first | with_reducible exact List.mem_cons_self | with_reducible refine List.mem_cons_of_mem _ ?_))); omega) | (with_reducible apply Hv.px; ((repeat (first | with_reducible exact List.mem_cons_self | with_reducible refine List.mem_cons_of_mem _ ?_))); omega) | (with_reducible apply Hv.py; ((repeat (first | with_reducible exact List.mem_cons_self | with_reducible refine List.mem_cons_of_mem _ ?_))); omega) | with_reducible assumption | ((repeat (first | with_reducible assumption | with_reducible refine Hv.cons ?_)); done)) : Hv I φ := h
/-- the post of a place -/
def PQ (q : V2) (k : Nat) (M0 : List Ent) (I0 : List Imm) (v : Value) (M : List Ent) (I : List Imm) : Prop := M0 = M ∧ ∃ p : PE, v = pv p ∧ p.v = q ∧ I = isP p k :: I0
section
variable {n : Nat} {Q : Exit → Act → World → Prop} {G : Env} {X : List Nat} {w0 : World} {M : List Ent} {I : List Imm}
theorem ND_closeP {ex : Exit} {a b : RE} {k : Nat} (ha : Hv I (isR a k)) (hb : Hv I (isR b k)) (h : ND n Q ex G X w0 M (isP ⟨a, b⟩ k :: I)) : ND n Q ex G X w0 M I := ND_hv (Hv.mkP ha hb) h
end
section
variable {X : List Nat} {w0 : World} {M0 : List Ent} {I0 : List Imm}
set_option maxRecDepth 100000 in
set_option maxHeartbeats 1000000 in
theorem pMinus_ok {a b : PE} {k m : Nat} (hk : k + m + 1 ≤ 500000000) (ha : Hv I0 (isP a k)) (hb : Hv I0 (isP b m)) :
    CD Tryz.prog 103 [pv a, pv b] X w0 M0 I0 (PQ (a.v.sub b.v) (k + m + 1) M0 I0) := by
  have h1 := fun M0 I0 => QSub_ok (X := X) (w0 := w0) (M0 := M0) (I0 := I0) (a := a.x) (b := b.x) (k := k) (m := m) hk
  have h2 := fun M0 I0 => QSub_ok (X := X) (w0 := w0) (M0 := M0) (I0 := I0) (a := a.y) (b := b.y) (k := k) (m := m) hk
  refine enterD2 Tryz.func103 rfl Tryz.ntmps103 rfl ?_
  refine TD_seq ?_
  refine TD_region ?_
  (refine RD_boxA rfl rfl rfl ?_; intro b1; refine ⟨okF, ?_⟩)
  (refine RD_boxA rfl rfl rfl ?_; intro b2; refine ⟨okF, ?_⟩)
  (refine RD_alloc rfl rfl ?_; intro b3; refine ⟨okF, ?_⟩)
  repeat (first | (refine isR' ?_; refine wfR ?_) | (refine isT' ?_; refine wfT ?_) | (refine isN' ?_; refine wfN ?_))
  (repeat refine TD_seq ?_); refine TD_drawnW (.blk b2 (eP b) 28 :: .blk b1 (eP a) 28 :: M0) (I0) [0, 1, 2, 3, 5, 6, 7, 8, 4, 9, 10, 11] [2, 1, 2, 1, 2, 1, 2, 1, 0, 0, 0, 0] subF incF mixed (by kernel_rfl) ?_
  repeat (first | (refine isR' ?_; refine wfR ?_) | (refine isT' ?_; refine wfT ?_) | (refine isN' ?_; refine wfN ?_))
  (refine RD_callS rfl (h1 _ _ ha.pxH hb.pxH) rfl rfl ?_; rintro _ _ _ ⟨rfl, e1, rfl, he1, rfl⟩; refine ⟨okF, ?_⟩)
  repeat (first | (refine isR' ?_; refine wfR ?_) | (refine isT' ?_; refine wfT ?_) | (refine isN' ?_; refine wfN ?_))
  (refine RD_callS rfl (h2 _ _ ha.pyH.cons hb.pyH.cons) rfl rfl ?_; rintro _ _ _ ⟨rfl, e2, rfl, he2, rfl⟩; refine ⟨okF, ?_⟩)
  repeat (first | (refine isR' ?_; refine wfR ?_) | (refine isT' ?_; refine wfT ?_) | (refine isN' ?_; refine wfN ?_))
  (refine RD_c rfl (fun _ => Const_structC (vals := [rv e1, rv e2]) (cells := eP ⟨e1, e2⟩) rfl ?hpl rfl ?hz) rfl rfl ?_; (case hpl => repeat (first | exact True.intro | refine ⟨rfl, ?_⟩)); (case hz => rfl))
  repeat (first | (refine isR' ?_; refine wfR ?_) | (refine isT' ?_; refine wfT ?_) | (refine isN' ?_; refine wfN ?_))
  refine ND_closeP (a := e1) (b := e2) (k := k + m + 1) hvZ hvZ ?_
  refine ND_retC (cs := eP ⟨e1, e2⟩) (.inl rfl) rfl rfl memF rfl M0 (isP ⟨e1, e2⟩ (k + m + 1) :: I0) subF incF ⟨rfl, ⟨e1, e2⟩, rfl, by simp only [PE.v, V2.sub, he1, he2], rfl⟩
set_option maxRecDepth 100000 in
set_option maxHeartbeats 1000000 in
theorem pPlus_ok {a b : PE} {k m : Nat} (hk : k + m + 1 ≤ 500000000) (ha : Hv I0 (isP a k)) (hb : Hv I0 (isP b m)) :
    CD Tryz.prog 116 [pv a, pv b] X w0 M0 I0 (PQ (a.v.add b.v) (k + m + 1) M0 I0) := by
  have h1 := fun M0 I0 => QAdd_ok (X := X) (w0 := w0) (M0 := M0) (I0 := I0) (a := a.x) (b := b.x) (k := k) (m := m) hk
  have h2 := fun M0 I0 => QAdd_ok (X := X) (w0 := w0) (M0 := M0) (I0 := I0) (a := a.y) (b := b.y) (k := k) (m := m) hk
  refine enterD2 Tryz.func116 rfl Tryz.ntmps116 rfl ?_
  refine TD_seq ?_
  refine TD_region ?_
  (refine RD_boxA rfl rfl rfl ?_; intro b1; refine ⟨okF, ?_⟩)
  (refine RD_boxA rfl rfl rfl ?_; intro b2; refine ⟨okF, ?_⟩)
  (refine RD_alloc rfl rfl ?_; intro b3; refine ⟨okF, ?_⟩)
  repeat (first | (refine isR' ?_; refine wfR ?_) | (refine isT' ?_; refine wfT ?_) | (refine isN' ?_; refine wfN ?_))
  (repeat refine TD_seq ?_); refine TD_drawnW (.blk b2 (eP b) 28 :: .blk b1 (eP a) 28 :: M0) (I0) [0, 1, 2, 3, 5, 6, 7, 8, 4, 9, 10, 11] [2, 1, 2, 1, 2, 1, 2, 1, 0, 0, 0, 0] subF incF mixed (by kernel_rfl) ?_
  repeat (first | (refine isR' ?_; refine wfR ?_) | (refine isT' ?_; refine wfT ?_) | (refine isN' ?_; refine wfN ?_))
  (refine RD_callS rfl (h1 _ _ ha.pxH hb.pxH) rfl rfl ?_; rintro _ _ _ ⟨rfl, e1, rfl, he1, rfl⟩; refine ⟨okF, ?_⟩)
  repeat (first | (refine isR' ?_; refine wfR ?_) | (refine isT' ?_; refine wfT ?_) | (refine isN' ?_; refine wfN ?_))
  (refine RD_callS rfl (h2 _ _ ha.pyH.cons hb.pyH.cons) rfl rfl ?_; rintro _ _ _ ⟨rfl, e2, rfl, he2, rfl⟩; refine ⟨okF, ?_⟩)
  repeat (first | (refine isR' ?_; refine wfR ?_) | (refine isT' ?_; refine wfT ?_) | (refine isN' ?_; refine wfN ?_))
  (refine RD_c rfl (fun _ => Const_structC (vals := [rv e1, rv e2]) (cells := eP ⟨e1, e2⟩) rfl ?hpl rfl ?hz) rfl rfl ?_; (case hpl => repeat (first | exact True.intro | refine ⟨rfl, ?_⟩)); (case hz => rfl))
  repeat (first | (refine isR' ?_; refine wfR ?_) | (refine isT' ?_; refine wfT ?_) | (refine isN' ?_; refine wfN ?_))
  refine ND_closeP (a := e1) (b := e2) (k := k + m + 1) hvZ hvZ ?_
  refine ND_retC (cs := eP ⟨e1, e2⟩) (.inl rfl) rfl rfl memF rfl M0 (isP ⟨e1, e2⟩ (k + m + 1) :: I0) subF incF ⟨rfl, ⟨e1, e2⟩, rfl, by simp only [PE.v, V2.add, he1, he2], rfl⟩
set_option maxRecDepth 100000 in
set_option maxHeartbeats 1000000 in
theorem pDot_ok {a b : PE} {k m : Nat} (hk : (k + m) + (k + m) + 1 ≤ 500000000) (ha : Hv I0 (isP a k)) (hb : Hv I0 (isP b m)) :
    CD Tryz.prog 104 [pv a, pv b] X w0 M0 I0 (RQ (a.v.dot b.v) ((k + m) + (k + m) + 1) M0 I0) := by
  have h1 := fun M0 I0 => QMul_ok (X := X) (w0 := w0) (M0 := M0) (I0 := I0) (a := a.x) (b := b.x) (k := k) (m := m) (by omega)
  have h2 := fun M0 I0 => QMul_ok (X := X) (w0 := w0) (M0 := M0) (I0 := I0) (a := a.y) (b := b.y) (k := k) (m := m) (by omega)
  have h3 := fun e1 e2 M0 I0 => QAdd_ok (X := X) (w0 := w0) (M0 := M0) (I0 := I0) (a := e1) (b := e2) (k := k + m) (m := k + m) hk
  refine enterD2 Tryz.func104 rfl Tryz.ntmps104 rfl ?_
  refine TD_seq ?_
  refine TD_region ?_
  (refine RD_boxA rfl rfl rfl ?_; intro b1; refine ⟨okF, ?_⟩)
  (refine RD_boxA rfl rfl rfl ?_; intro b2; refine ⟨okF, ?_⟩)
  (refine RD_alloc rfl rfl ?_; intro b3; refine ⟨okF, ?_⟩)
  repeat (first | (refine isR' ?_; refine wfR ?_) | (refine isT' ?_; refine wfT ?_) | (refine isN' ?_; refine wfN ?_))
  (repeat refine TD_seq ?_); refine TD_drawnW (.blk b2 (eP b) 28 :: .blk b1 (eP a) 28 :: M0) (I0) [0, 1, 2, 3, 5, 6, 7, 8, 4, 9, 10, 11] [3, 2, 3, 2, 3, 2, 3, 2, 0, 0, 0, 0] subF incF mixed (by kernel_rfl) ?_
  repeat (first | (refine isR' ?_; refine wfR ?_) | (refine isT' ?_; refine wfT ?_) | (refine isN' ?_; refine wfN ?_))
  (refine RD_callS rfl (h1 _ _ ha.pxH hb.pxH) rfl rfl ?_; rintro _ _ _ ⟨rfl, e1, rfl, he1, rfl⟩; refine ⟨okF, ?_⟩)
  repeat (first | (refine isR' ?_; refine wfR ?_) | (refine isT' ?_; refine wfT ?_) | (refine isN' ?_; refine wfN ?_))
  (refine RD_callS rfl (h2 _ _ ha.pyH.cons hb.pyH.cons) rfl rfl ?_; rintro _ _ _ ⟨rfl, e2, rfl, he2, rfl⟩; refine ⟨okF, ?_⟩)
  repeat (first | (refine isR' ?_; refine wfR ?_) | (refine isT' ?_; refine wfT ?_) | (refine isN' ?_; refine wfN ?_))
  (refine RD_callS rfl (h3 e1 e2 _ _ hvZ hvZ) rfl rfl ?_; rintro _ _ _ ⟨rfl, e3, rfl, he3, rfl⟩; refine ⟨okF, ?_⟩)
  repeat (first | (refine isR' ?_; refine wfR ?_) | (refine isT' ?_; refine wfT ?_) | (refine isN' ?_; refine wfN ?_))
  refine ND_retC (cs := eR e3) (.inl rfl) rfl rfl memF rfl M0 (isR e3 ((k + m) + (k + m) + 1) :: I0) subF incF ⟨rfl, e3, rfl, by simp only [PE.v, V2.dot, he1, he2, he3], rfl⟩
set_option maxRecDepth 100000 in
set_option maxHeartbeats 1000000 in
theorem pCross_ok {a b : PE} {k m : Nat} (hk : (k + m) + (k + m) + 1 ≤ 500000000) (ha : Hv I0 (isP a k)) (hb : Hv I0 (isP b m)) :
    CD Tryz.prog 206 [pv a, pv b] X w0 M0 I0 (RQ (a.v.crs b.v) ((k + m) + (k + m) + 1) M0 I0) := by
  have h1 := fun M0 I0 => QMul_ok (X := X) (w0 := w0) (M0 := M0) (I0 := I0) (a := a.x) (b := b.y) (k := k) (m := m) (by omega)
  have h2 := fun M0 I0 => QMul_ok (X := X) (w0 := w0) (M0 := M0) (I0 := I0) (a := a.y) (b := b.x) (k := k) (m := m) (by omega)
  have h3 := fun e1 e2 M0 I0 => QSub_ok (X := X) (w0 := w0) (M0 := M0) (I0 := I0) (a := e1) (b := e2) (k := k + m) (m := k + m) hk
  refine enterD2 Tryz.func206 rfl Tryz.ntmps206 rfl ?_
  refine TD_seq ?_
  refine TD_region ?_
  (refine RD_boxA rfl rfl rfl ?_; intro b1; refine ⟨okF, ?_⟩)
  (refine RD_boxA rfl rfl rfl ?_; intro b2; refine ⟨okF, ?_⟩)
  (refine RD_alloc rfl rfl ?_; intro b3; refine ⟨okF, ?_⟩)
  repeat (first | (refine isR' ?_; refine wfR ?_) | (refine isT' ?_; refine wfT ?_) | (refine isN' ?_; refine wfN ?_))
  (repeat refine TD_seq ?_); refine TD_drawnW (.blk b2 (eP b) 28 :: .blk b1 (eP a) 28 :: M0) (I0) [0, 1, 2, 3, 5, 6, 7, 8, 4, 9, 10, 11] [3, 2, 3, 2, 3, 2, 3, 2, 0, 0, 0, 0] subF incF mixed (by kernel_rfl) ?_
  repeat (first | (refine isR' ?_; refine wfR ?_) | (refine isT' ?_; refine wfT ?_) | (refine isN' ?_; refine wfN ?_))
  (refine RD_callS rfl (h1 _ _ ha.pxH hb.pyH) rfl rfl ?_; rintro _ _ _ ⟨rfl, e1, rfl, he1, rfl⟩; refine ⟨okF, ?_⟩)
  repeat (first | (refine isR' ?_; refine wfR ?_) | (refine isT' ?_; refine wfT ?_) | (refine isN' ?_; refine wfN ?_))
  (refine RD_callS rfl (h2 _ _ ha.pyH.cons hb.pxH.cons) rfl rfl ?_; rintro _ _ _ ⟨rfl, e2, rfl, he2, rfl⟩; refine ⟨okF, ?_⟩)
  repeat (first | (refine isR' ?_; refine wfR ?_) | (refine isT' ?_; refine wfT ?_) | (refine isN' ?_; refine wfN ?_))
  (refine RD_callS rfl (h3 e1 e2 _ _ hvZ hvZ) rfl rfl ?_; rintro _ _ _ ⟨rfl, e3, rfl, he3, rfl⟩; refine ⟨okF, ?_⟩)
  repeat (first | (refine isR' ?_; refine wfR ?_) | (refine isT' ?_; refine wfT ?_) | (refine isN' ?_; refine wfN ?_))
  refine ND_retC (cs := eR e3) (.inl rfl) rfl rfl memF rfl M0 (isR e3 ((k + m) + (k + m) + 1) :: I0) subF incF ⟨rfl, e3, rfl, by simp only [PE.v, V2.crs, he1, he2, he3], rfl⟩
set_option maxRecDepth 100000 in
theorem pSide_ok {a : PE} {k : Nat} (hk : k ≤ 500000000) (ha : Hv I0 (isP a k)) :
    CD Tryz.prog 106 [pv a] X w0 M0 I0 (PQ a.v.sd k M0 I0) := by
  have h1 := fun M0 I0 => QNeg_ok (X := X) (w0 := w0) (M0 := M0) (I0 := I0) (e := a.x) (k := k) hk
  refine enterD1 Tryz.func106 rfl Tryz.ntmps106 rfl ?_
  refine TD_seq ?_
  refine TD_region ?_
  (refine RD_boxA rfl rfl rfl ?_; intro b1; refine ⟨okF, ?_⟩)
  (refine RD_alloc rfl rfl ?_; intro b3; refine ⟨okF, ?_⟩)
  repeat (first | (refine isR' ?_; refine wfR ?_) | (refine isT' ?_; refine wfT ?_) | (refine isN' ?_; refine wfN ?_))
  (repeat refine TD_seq ?_); refine TD_drawnW (.blk b1 (eP a) 28 :: M0) (I0) [0, 1, 2, 3, 4, 5, 6] [1, 1, 1, 0, 0, 0, 0] subF incF mixed (by kernel_rfl) ?_
  repeat (first | (refine isR' ?_; refine wfR ?_) | (refine isT' ?_; refine wfT ?_) | (refine isN' ?_; refine wfN ?_))
  (refine RD_callS rfl (h1 _ _ ha.pxH) rfl rfl ?_; rintro _ _ _ ⟨rfl, e1, rfl, he1, rfl⟩; refine ⟨okF, ?_⟩)
  repeat (first | (refine isR' ?_; refine wfR ?_) | (refine isT' ?_; refine wfT ?_) | (refine isN' ?_; refine wfN ?_))
  (refine RD_c rfl (fun _ => Const_structC (vals := [rv a.y, rv e1]) (cells := eP ⟨a.y, e1⟩) rfl ?hpl rfl ?hz) rfl rfl ?_; (case hpl => repeat (first | exact True.intro | refine ⟨rfl, ?_⟩)); (case hz => rfl))
  repeat (first | (refine isR' ?_; refine wfR ?_) | (refine isT' ?_; refine wfT ?_) | (refine isN' ?_; refine wfN ?_))
  refine ND_closeP (a := a.y) (b := e1) (k := k) ha.pyH.cons hvZ ?_
  refine ND_retC (cs := eP ⟨a.y, e1⟩) (.inl rfl) rfl rfl memF rfl M0 (isP ⟨a.y, e1⟩ k :: I0) subF incF ⟨rfl, ⟨a.y, e1⟩, rfl, by simp only [PE.v, V2.sd, he1], rfl⟩
set_option maxRecDepth 100000 in
set_option maxHeartbeats 1000000 in
theorem pScaled_ok {a : PE} {b : RE} {k m : Nat} (hk : m + k ≤ 500000000) (ha : Hv I0 (isP a k)) (hb : Hv I0 (isR b m)) :
    CD Tryz.prog 114 [pv a, rv b] X w0 M0 I0 (PQ (a.v.scl b.q) (m + k) M0 I0) := by
  have h1 := fun M0 I0 => QMul_ok (X := X) (w0 := w0) (M0 := M0) (I0 := I0) (a := b) (b := a.x) (k := m) (m := k) hk
  have h2 := fun M0 I0 => QMul_ok (X := X) (w0 := w0) (M0 := M0) (I0 := I0) (a := b) (b := a.y) (k := m) (m := k) hk
  refine enterD2 Tryz.func114 rfl Tryz.ntmps114 rfl ?_
  refine TD_seq ?_
  refine TD_region ?_
  (refine RD_boxA rfl rfl rfl ?_; intro b1; refine ⟨okF, ?_⟩)
  (refine RD_boxA rfl rfl rfl ?_; intro b2; refine ⟨okF, ?_⟩)
  (refine RD_alloc rfl rfl ?_; intro b3; refine ⟨okF, ?_⟩)
  repeat (first | (refine isR' ?_; refine wfR ?_) | (refine isT' ?_; refine wfT ?_) | (refine isN' ?_; refine wfN ?_))
  (repeat refine TD_seq ?_); refine TD_drawnW (.blk b2 (eR b) 26 :: .blk b1 (eP a) 28 :: M0) (I0) [0, 1, 2, 4, 5, 6, 3, 7, 8, 9] [1, 2, 1, 1, 2, 1, 0, 0, 0, 0] subF incF mixed (by kernel_rfl) ?_
  repeat (first | (refine isR' ?_; refine wfR ?_) | (refine isT' ?_; refine wfT ?_) | (refine isN' ?_; refine wfN ?_))
  (refine RD_callS rfl (h1 _ _ hb ha.pxH) rfl rfl ?_; rintro _ _ _ ⟨rfl, e1, rfl, he1, rfl⟩; refine ⟨okF, ?_⟩)
  repeat (first | (refine isR' ?_; refine wfR ?_) | (refine isT' ?_; refine wfT ?_) | (refine isN' ?_; refine wfN ?_))
  (refine RD_callS rfl (h2 _ _ hb.cons ha.pyH.cons) rfl rfl ?_; rintro _ _ _ ⟨rfl, e2, rfl, he2, rfl⟩; refine ⟨okF, ?_⟩)
  repeat (first | (refine isR' ?_; refine wfR ?_) | (refine isT' ?_; refine wfT ?_) | (refine isN' ?_; refine wfN ?_))
  (refine RD_c rfl (fun _ => Const_structC (vals := [rv e1, rv e2]) (cells := eP ⟨e1, e2⟩) rfl ?hpl rfl ?hz) rfl rfl ?_; (case hpl => repeat (first | exact True.intro | refine ⟨rfl, ?_⟩)); (case hz => rfl))
  repeat (first | (refine isR' ?_; refine wfR ?_) | (refine isT' ?_; refine wfT ?_) | (refine isN' ?_; refine wfN ?_))
  refine ND_closeP (a := e1) (b := e2) (k := m + k) hvZ hvZ ?_
  refine ND_retC (cs := eP ⟨e1, e2⟩) (.inl rfl) rfl rfl memF rfl M0 (isP ⟨e1, e2⟩ (m + k) :: I0) subF incF ⟨rfl, ⟨e1, e2⟩, rfl, by simp only [PE.v, V2.scl, he1, he2], rfl⟩
theorem sgn0 {q : Rat} : q.num.sign = 0 ↔ q = 0 := by rw [Int.sign_eq_zero_iff_zero, Rat.num_eq_zero]
set_option maxRecDepth 100000 in
theorem pZero_ok {a : PE} {k : Nat} (hk : k ≤ 500000000) (ha : Hv I0 (isP a k)) :
    CD Tryz.prog 102 [pv a] X w0 M0 I0 (fun v M I => M0 = M ∧ I0 = I ∧ v = .bool (B (a.v.z0))) := by
  have h1 := fun M0 I0 => QSign_ok (X := X) (w0 := w0) (M0 := M0) (I0 := I0) (e := a.x) (k := k) hk
  have h2 := fun M0 I0 => QSign_ok (X := X) (w0 := w0) (M0 := M0) (I0 := I0) (e := a.y) (k := k) hk
  have e1 : a.x.q.num.sign = 0 ↔ a.x.q = 0 := sgn0
  have e2 : a.y.q.num.sign = 0 ↔ a.y.q = 0 := sgn0
  have e3 : a.v.z0 ↔ (a.x.q.num.sign = 0 ∧ a.y.q.num.sign = 0) := by rw [e1, e2]; exact Iff.rfl
  rw [B_congr e3]
  generalize a.x.q.num.sign = s1 at *
  generalize a.y.q.num.sign = s2 at *
  refine enterD1 Tryz.func102 rfl Tryz.ntmps102 rfl ?_
  refine TD_seq ?_
  refine TD_region ?_
  (refine RD_boxA rfl rfl rfl ?_; intro b1; refine ⟨okF, ?_⟩)
  repeat (first | (refine isR' ?_; refine wfR ?_) | (refine isT' ?_; refine wfT ?_) | (refine isN' ?_; refine wfN ?_))
  (refine RD_callS rfl (h1 _ _ ha.pxH) rfl rfl ?_; rintro _ _ _ ⟨rfl, rfl, rfl⟩; refine ⟨okF, ?_⟩)
  repeat' (first | (refine isR' ?_; refine wfR ?_) | (refine isT' ?_; refine wfT ?_) | (refine isN' ?_; refine wfN ?_) | (refine TD_isCo ?_; first | refine TD_dec rfl (fun h => ?_) (fun h => ?_) | refine TD_cond rfl (fun h => ?_) (fun h => ?_)) | (refine RD_isGu ?_; first | refine RD_grd rfl rfl (fun h => ?_) (fun h => ?_) | (fail_if_success (refine RD_isW rfl ?_); refine RD_grdB rfl rfl (fun h => ?_) (fun h => ?_))))
  · (refine RD_callS rfl (h2 _ _ ha.pyH) rfl rfl ?_; rintro _ _ _ ⟨rfl, rfl, rfl⟩; refine ⟨okF, ?_⟩)
    repeat (first | (refine isR' ?_; refine wfR ?_) | (refine isT' ?_; refine wfT ?_) | (refine isN' ?_; refine wfN ?_))
    refine ND_ret1 (by first | exact .inl rfl | exact .inr rfl) rfl rfl _ _ subF incF (⟨rfl, rfl, congrArg Value.bool (B_congr ⟨fun h2 => ⟨by omega, h2⟩, fun h2 => h2.2⟩)⟩)
  · refine ND_ret1 (by first | exact .inl rfl | exact .inr rfl) rfl rfl _ _ subF incF (⟨rfl, rfl, congrArg Value.bool (B_false (fun h2 => by omega)).symm⟩)
end
end Go.Proofs.YteghpnkhlfkigaaGreat

/- resect: condition, meet. resect: meet. -/
import Derived.Test.YtdmlebigkakplaaGreatZrsbg
set_option linter.unusedSimpArgs false
set_option linter.unusedVariables false
namespace Go.Proofs.YtdmlebigkakplaaGreat
open Go Go.Fx
/-- a condition in memory -/
structure CE where
  a : RE
  b : PE
instance : Inhabited CE := ⟨⟨default, default⟩⟩
abbrev eC (c : CE) : List Value := [.bool (B (c.a.q.num < 0)), .slice c.a.p1 (gr c.a.q.num.natAbs).length c.a.c1, .bool (B ((c.a.q.den : Int) < 0)), .slice c.a.p2 (gr (c.a.q.den : Int).natAbs).length c.a.c2, .bool (B (c.b.x.q.num < 0)), .slice c.b.x.p1 (gr c.b.x.q.num.natAbs).length c.b.x.c1, .bool (B ((c.b.x.q.den : Int) < 0)), .slice c.b.x.p2 (gr (c.b.x.q.den : Int).natAbs).length c.b.x.c2, .bool (B (c.b.y.q.num < 0)), .slice c.b.y.p1 (gr c.b.y.q.num.natAbs).length c.b.y.c1, .bool (B ((c.b.y.q.den : Int) < 0)), .slice c.b.y.p2 (gr (c.b.y.q.den : Int).natAbs).length c.b.y.c2]
instance : Sized eC 12 := ⟨fun _ => rfl⟩
abbrev cv (c : CE) : Value := .agg (eC c).toArray
theorem RQ.wk {q : Rat} {k m : Nat} {M0 : List Ent} {I0 : List Imm} {v : Value} {M : List Ent} {I : List Imm} (h : RQ q k M0 I0 v M I) : ∃ e : RE, M0 = M ∧ v = rv e ∧ e.q = q ∧ I = isR e k :: I0 := ⟨h.2.choose, h.1, h.2.choose_spec.1, h.2.choose_spec.2.1, h.2.choose_spec.2.2⟩
section
variable {X : List Nat} {w0 : World} {M0 : List Ent} {I0 : List Imm}
set_option maxRecDepth 100000 in
set_option maxHeartbeats 2000000 in
theorem condition_ok {p : PE} {own org : RE} {k s : Nat} (hk : 4 * s + 2 * k + 3 ≤ 400000000) (hp : Hv I0 (isP p k)) (ho : Hv I0 (isR own s)) (hr : Hv I0 (isR org s)) :
    CD Tryz.prog 113 [pv p, rv own, rv org] X w0 M0 I0 (fun v M I => M0 = M ∧ ∃ c : CE, v = cv c ∧ c.a.q = cnA own.q org.q ∧ c.b.v = cnB p.v own.q org.q ∧ I = isP c.b (4 * s + 2 * k + 3) :: isR c.a (2 * s + 1) :: I0) := by
  have hS := fun M0 I0 => QSub_ok (X := X) (w0 := w0) (M0 := M0) (I0 := I0) (a := own) (b := org) (k := s) (m := s) (by omega)
  have hW := fun M0 I0 => Whole_ok (X := X) (w0 := w0) (M0 := M0) (I0 := I0) (x := 1) (by decide) (k := 0) (by decide)
  have hM := fun M0 I0 => QMul_ok (X := X) (w0 := w0) (M0 := M0) (I0 := I0) (a := own) (b := org) (k := s) (m := s) (by omega)
  have hA := fun e1 e2 M0 I0 => QAdd_ok (X := X) (w0 := w0) (M0 := M0) (I0 := I0) (a := e1) (b := e2) (k := 0) (m := s + s) (by omega)
  have hSd := fun M0 I0 => pSide_ok (X := X) (w0 := w0) (M0 := M0) (I0 := I0) (a := p) (k := k) (by omega)
  have hN := fun e8 M0 I0 => QNeg_ok (X := X) (w0 := w0) (M0 := M0) (I0 := I0) (e := e8) (k := 0 + (s + s) + 1) (by omega)
  have hC1 := fun p1 e9 M0 I0 => pScaled_ok (X := X) (w0 := w0) (M0 := M0) (I0 := I0) (a := p1) (b := e9) (k := k) (m := 0 + (s + s) + 1) (by omega)
  have hC2 := fun e7 M0 I0 => pScaled_ok (X := X) (w0 := w0) (M0 := M0) (I0 := I0) (a := p) (b := e7) (k := k) (m := s + s + 1) (by omega)
  have hMi := fun p2 p3 M0 I0 => pMinus_ok (X := X) (w0 := w0) (M0 := M0) (I0 := I0) (a := p2) (b := p3) (k := 0 + (s + s) + 1 + k) (m := s + s + 1 + k) (by omega)
  refine CD_hv hp (CD_hv ho.cons (CD_hv hr.cons.cons ?_))
  refine enterD3 Tryz.func113 rfl Tryz.ntmps113 rfl ?_
  refine TD_seq ?_
  refine TD_region ?_
  (refine RD_boxA rfl rfl rfl ?_; intro b3; refine ⟨okF, ?_⟩)
  (refine RD_boxA rfl rfl rfl ?_; intro b4; refine ⟨okF, ?_⟩)
  (refine RD_boxA rfl rfl rfl ?_; intro b5; refine ⟨okF, ?_⟩)
  (refine RD_alloc rfl rfl ?_; intro b6; refine ⟨okF, ?_⟩)
  repeat (refine wXh ?_)
  (refine RD_callS rfl (hS _ _ hvZ hvZ) rfl rfl ?_; rintro _ _ _ ⟨rfl, e7, rfl, he7, rfl⟩; refine ⟨okF, ?_⟩)
  (refine RD_alloc rfl rfl ?_; intro b7; refine ⟨okF, ?_⟩)
  repeat (refine wXh ?_)
  refine TD_cutT (fun G M I => ∃ (b8 : Nat) (e8 : RE), e8.q = 1 + own.q * org.q ∧ G = [(3, .pointer (some ⟨b3, 0, none⟩)), (6, .pointer (some ⟨b6, 0, none⟩)), (7, .pointer (some ⟨b7, 0, none⟩)), (8, .pointer (some ⟨b8, 0, none⟩))] ∧ M = .blk b8 (eR e8) 26 :: .blk b7 (eR e7) 26 :: .blk b6 [.bool false, .slice none 0 0, .bool false, .slice none 0 0, .bool false, .slice none 0 0, .bool false, .slice none 0 0, .bool false, .slice none 0 0, .bool false, .slice none 0 0] 126 :: .blk b3 (eP p) 28 :: M0 ∧ I = isR e8 (0 + (s + s) + 1) :: isR e7 (s + s + 1) :: isR org s :: isR own s :: isP p k :: I0) ?_ ?_
  · ((repeat refine TD_seq ?_); refine TD_rest (.blk b5 (eR org) 26 :: .blk b4 (eR own) 26 :: M0) (isR org s :: isR own s :: isP p k :: I0) mixed ?_)
    refine ND_restPre (fuel := 5) (listed' := #[false, true, true, false, false, false, false]) [1, 2] [3, 3] subF incF (by kernel_rfl) (by kernel_rfl) rfl rfl ?_
    repeat (refine wXh ?_)
    refine ND_restFork (fuel := 4) (i := 0) (j := 5) (by kernel_rfl) ?_ ?_
    · (refine RD_callS rfl (hW _ _) rfl rfl ?_; rintro _ _ _ ⟨rfl, e1, rfl, he1, rfl⟩; refine ⟨okF, ?_⟩)
      refine RD_nil ?_
      repeat (refine wXh ?_)
      refine ND_restFork (fuel := 3) (i := 3) (j := 5) (by kernel_rfl) ?_ ?_
      · (refine RD_callS rfl (hM _ _ hvZ hvZ) rfl rfl ?_; rintro _ _ _ ⟨rfl, e2, rfl, he2, rfl⟩; refine ⟨okF, ?_⟩)
        refine RD_nil ?_
        repeat (refine wXh ?_)
        refine ND_restFork (fuel := 2) (i := 4) (j := 5) (by kernel_rfl) ?_ ?_
        · (refine RD_callS rfl (hA e1 e2 _ _ hvZ hvZ) rfl rfl ?_; rintro _ _ _ ⟨rfl, e8, rfl, he8, rfl⟩; refine ⟨okF, ?_⟩)
          refine RD_nil ?_
          refine ND_restEnd [5, 6] [0, 0] subF incF (by kernel_rfl) (by kernel_rfl) rfl rfl ?_
          repeat (refine wXh ?_)
          (refine RD_alloc rfl rfl ?_; intro b8; refine ⟨okF, ?_⟩)
          repeat (refine wXh ?_)
          refine ND_cut _ _ _ subG subF incF ⟨b8, e8, by rw [he8, he1, he2]; rfl, rfl, rfl, rfl⟩
        · (refine RD_alloc rfl rfl ?_; intro b8; refine ⟨okF, ?_⟩)
          refine RD_nil ?_
          refine ND_restEnd [4, 6] [0, 0] subF incF (by kernel_rfl) (by kernel_rfl) rfl rfl ?_
          repeat (refine wXh ?_)
          (refine RD_callS rfl (hA e1 e2 _ _ hvZ hvZ) rfl rfl ?_; rintro _ _ _ ⟨rfl, e8, rfl, he8, rfl⟩; refine ⟨okF, ?_⟩)
          repeat (refine wXh ?_)
          refine ND_cut _ _ _ subG subF incF ⟨b8, e8, by rw [he8, he1, he2]; rfl, rfl, rfl, rfl⟩
      · (refine RD_alloc rfl rfl ?_; intro b8; refine ⟨okF, ?_⟩)
        refine RD_nil ?_
        refine ND_restEnd [3, 4, 6] [0, 0, 0] subF incF (by kernel_rfl) (by kernel_rfl) rfl rfl ?_
        repeat (refine wXh ?_)
        (refine RD_callS rfl (hM _ _ hvZ hvZ) rfl rfl ?_; rintro _ _ _ ⟨rfl, e2, rfl, he2, rfl⟩; refine ⟨okF, ?_⟩)
        repeat (refine wXh ?_)
        (refine RD_callS rfl (hA e1 e2 _ _ hvZ hvZ) rfl rfl ?_; rintro _ _ _ ⟨rfl, e8, rfl, he8, rfl⟩; refine ⟨okF, ?_⟩)
        repeat (refine wXh ?_)
        refine ND_cut _ _ _ subG subF incF ⟨b8, e8, by rw [he8, he1, he2]; rfl, rfl, rfl, rfl⟩
    · (refine RD_alloc rfl rfl ?_; intro b8; refine ⟨okF, ?_⟩)
      refine RD_nil ?_
      refine ND_restEnd [0, 3, 4, 6] [0, 0, 0, 0] subF incF (by kernel_rfl) (by kernel_rfl) rfl rfl ?_
      repeat (refine wXh ?_)
      (refine RD_callS rfl (hW _ _) rfl rfl ?_; rintro _ _ _ ⟨rfl, e1, rfl, he1, rfl⟩; refine ⟨okF, ?_⟩)
      repeat (refine wXh ?_)
      (refine RD_callS rfl (hM _ _ hvZ hvZ) rfl rfl ?_; rintro _ _ _ ⟨rfl, e2, rfl, he2, rfl⟩; refine ⟨okF, ?_⟩)
      repeat (refine wXh ?_)
      (refine RD_callS rfl (hA e1 e2 _ _ hvZ hvZ) rfl rfl ?_; rintro _ _ _ ⟨rfl, e8, rfl, he8, rfl⟩; refine ⟨okF, ?_⟩)
      repeat (refine wXh ?_)
      refine ND_cut _ _ _ subG subF incF ⟨b8, e8, by rw [he8, he1, he2]; rfl, rfl, rfl, rfl⟩
  · rintro G M I ⟨b8, e8, he8, rfl, rfl, rfl⟩
    refine TD_cut (fun G M I => ∃ (b9 : Nat) (p9 : PE), p9.v = cnB p.v own.q org.q ∧ G = [(6, .pointer (some ⟨b6, 0, none⟩)), (7, .pointer (some ⟨b7, 0, none⟩)), (9, .pointer (some ⟨b9, 0, none⟩))] ∧ M = .blk b9 (eP p9) 28 :: .blk b7 (eR e7) 26 :: .blk b6 [.bool false, .slice none 0 0, .bool false, .slice none 0 0, .bool false, .slice none 0 0, .bool false, .slice none 0 0, .bool false, .slice none 0 0, .bool false, .slice none 0 0] 126 :: M0 ∧ I = isP p9 (0 + (s + s) + 1 + k + (s + s + 1 + k) + 1) :: isR e7 (s + s + 1) :: I0) ?_ ?_
    · ((repeat refine TD_seq ?_); refine TD_rest (.blk b8 (eR e8) 26 :: .blk b7 (eR e7) 26 :: .blk b3 (eP p) 28 :: M0) (isR e8 (0 + (s + s) + 1) :: isR e7 (s + s + 1) :: isR org s :: isR own s :: isP p k :: I0) mixed ?_)
      refine ND_restPre (fuel := 7) (listed' := #[true, false, true, false, false, true, true, false, false, false, false]) [0, 2, 5, 6] [5, 5, 5, 5] subF incF (by kernel_rfl) (by kernel_rfl) rfl rfl ?_
      repeat (refine wXh ?_)
      refine ND_restFork (fuel := 6) (i := 1) (j := 9) (by kernel_rfl) ?_ ?_
      · (refine RD_callS rfl (hSd _ _ hvZ) rfl rfl ?_; rintro _ _ _ ⟨rfl, p1, rfl, hp1, rfl⟩; refine ⟨okF, ?_⟩)
        refine RD_nil ?_
        repeat (refine wXh ?_)
        refine ND_restFork (fuel := 5) (i := 3) (j := 9) (by kernel_rfl) ?_ ?_
        · (refine RD_callS rfl (hN e8 _ _ hvZ) rfl rfl ?_; rintro _ _ _ ⟨rfl, e9, rfl, he9, rfl⟩; refine ⟨okF, ?_⟩)
          refine RD_nil ?_
          repeat (refine wXh ?_)
          refine ND_restFork (fuel := 4) (i := 4) (j := 9) (by kernel_rfl) ?_ ?_
          · (refine RD_callS rfl (hC1 p1 e9 _ _ hvZ hvZ) rfl rfl ?_; rintro _ _ _ ⟨rfl, p2, rfl, hp2, rfl⟩; refine ⟨okF, ?_⟩)
            refine RD_nil ?_
            repeat (refine wXh ?_)
            refine ND_restFork (fuel := 3) (i := 7) (j := 9) (by kernel_rfl) ?_ ?_
            · (refine RD_callS rfl (hC2 e7 _ _ hvZ hvZ) rfl rfl ?_; rintro _ _ _ ⟨rfl, p3, rfl, hp3, rfl⟩; refine ⟨okF, ?_⟩)
              refine RD_nil ?_
              repeat (refine wXh ?_)
              refine ND_restFork (fuel := 2) (i := 8) (j := 9) (by kernel_rfl) ?_ ?_
              · (refine RD_callS rfl (hMi p2 p3 _ _ hvZ hvZ) rfl rfl ?_; rintro _ _ _ ⟨rfl, p9, rfl, hp9, rfl⟩; refine ⟨okF, ?_⟩)
                refine RD_nil ?_
                refine ND_restEnd [9, 10] [0, 0] subF incF (by kernel_rfl) (by kernel_rfl) rfl rfl ?_
                repeat (refine wXh ?_)
                (refine RD_alloc rfl rfl ?_; intro b9; refine ⟨okF, ?_⟩)
                repeat (refine wXh ?_)
                refine ND_cut _ _ _ subG subF incF ⟨b9, p9, by rw [hp9, hp2, hp3, hp1, he9, he8, he7]; rfl, rfl, rfl, rfl⟩
              · (refine RD_alloc rfl rfl ?_; intro b9; refine ⟨okF, ?_⟩)
                refine RD_nil ?_
                refine ND_restEnd [8, 10] [0, 0] subF incF (by kernel_rfl) (by kernel_rfl) rfl rfl ?_
                repeat (refine wXh ?_)
                (refine RD_callS rfl (hMi p2 p3 _ _ hvZ hvZ) rfl rfl ?_; rintro _ _ _ ⟨rfl, p9, rfl, hp9, rfl⟩; refine ⟨okF, ?_⟩)
                repeat (refine wXh ?_)
                refine ND_cut _ _ _ subG subF incF ⟨b9, p9, by rw [hp9, hp2, hp3, hp1, he9, he8, he7]; rfl, rfl, rfl, rfl⟩
            · (refine RD_alloc rfl rfl ?_; intro b9; refine ⟨okF, ?_⟩)
              refine RD_nil ?_
              refine ND_restEnd [7, 8, 10] [0, 0, 0] subF incF (by kernel_rfl) (by kernel_rfl) rfl rfl ?_
              repeat (refine wXh ?_)
              (refine RD_callS rfl (hC2 e7 _ _ hvZ hvZ) rfl rfl ?_; rintro _ _ _ ⟨rfl, p3, rfl, hp3, rfl⟩; refine ⟨okF, ?_⟩)
              repeat (refine wXh ?_)
              (refine RD_callS rfl (hMi p2 p3 _ _ hvZ hvZ) rfl rfl ?_; rintro _ _ _ ⟨rfl, p9, rfl, hp9, rfl⟩; refine ⟨okF, ?_⟩)
              repeat (refine wXh ?_)
              refine ND_cut _ _ _ subG subF incF ⟨b9, p9, by rw [hp9, hp2, hp3, hp1, he9, he8, he7]; rfl, rfl, rfl, rfl⟩
          · (refine RD_alloc rfl rfl ?_; intro b9; refine ⟨okF, ?_⟩)
            refine RD_nil ?_
            refine ND_restEnd [4, 7, 8, 10] [0, 0, 0, 0] subF incF (by kernel_rfl) (by kernel_rfl) rfl rfl ?_
            repeat (refine wXh ?_)
            (refine RD_callS rfl (hC1 p1 e9 _ _ hvZ hvZ) rfl rfl ?_; rintro _ _ _ ⟨rfl, p2, rfl, hp2, rfl⟩; refine ⟨okF, ?_⟩)
            repeat (refine wXh ?_)
            (refine RD_callS rfl (hC2 e7 _ _ hvZ hvZ) rfl rfl ?_; rintro _ _ _ ⟨rfl, p3, rfl, hp3, rfl⟩; refine ⟨okF, ?_⟩)
            repeat (refine wXh ?_)
            (refine RD_callS rfl (hMi p2 p3 _ _ hvZ hvZ) rfl rfl ?_; rintro _ _ _ ⟨rfl, p9, rfl, hp9, rfl⟩; refine ⟨okF, ?_⟩)
            repeat (refine wXh ?_)
            refine ND_cut _ _ _ subG subF incF ⟨b9, p9, by rw [hp9, hp2, hp3, hp1, he9, he8, he7]; rfl, rfl, rfl, rfl⟩
        · (refine RD_alloc rfl rfl ?_; intro b9; refine ⟨okF, ?_⟩)
          refine RD_nil ?_
          refine ND_restEnd [3, 4, 7, 8, 10] [0, 0, 0, 0, 0] subF incF (by kernel_rfl) (by kernel_rfl) rfl rfl ?_
          repeat (refine wXh ?_)
          (refine RD_callS rfl (hN e8 _ _ hvZ) rfl rfl ?_; rintro _ _ _ ⟨rfl, e9, rfl, he9, rfl⟩; refine ⟨okF, ?_⟩)
          repeat (refine wXh ?_)
          (refine RD_callS rfl (hC1 p1 e9 _ _ hvZ hvZ) rfl rfl ?_; rintro _ _ _ ⟨rfl, p2, rfl, hp2, rfl⟩; refine ⟨okF, ?_⟩)
          repeat (refine wXh ?_)
          (refine RD_callS rfl (hC2 e7 _ _ hvZ hvZ) rfl rfl ?_; rintro _ _ _ ⟨rfl, p3, rfl, hp3, rfl⟩; refine ⟨okF, ?_⟩)
          repeat (refine wXh ?_)
          (refine RD_callS rfl (hMi p2 p3 _ _ hvZ hvZ) rfl rfl ?_; rintro _ _ _ ⟨rfl, p9, rfl, hp9, rfl⟩; refine ⟨okF, ?_⟩)
          repeat (refine wXh ?_)
          refine ND_cut _ _ _ subG subF incF ⟨b9, p9, by rw [hp9, hp2, hp3, hp1, he9, he8, he7]; rfl, rfl, rfl, rfl⟩
      · (refine RD_alloc rfl rfl ?_; intro b9; refine ⟨okF, ?_⟩)
        refine RD_nil ?_
        refine ND_restEnd [1, 3, 4, 7, 8, 10] [0, 0, 0, 0, 0, 0] subF incF (by kernel_rfl) (by kernel_rfl) rfl rfl ?_
        repeat (refine wXh ?_)
        (refine RD_callS rfl (hSd _ _ hvZ) rfl rfl ?_; rintro _ _ _ ⟨rfl, p1, rfl, hp1, rfl⟩; refine ⟨okF, ?_⟩)
        repeat (refine wXh ?_)
        (refine RD_callS rfl (hN e8 _ _ hvZ) rfl rfl ?_; rintro _ _ _ ⟨rfl, e9, rfl, he9, rfl⟩; refine ⟨okF, ?_⟩)
        repeat (refine wXh ?_)
        (refine RD_callS rfl (hC1 p1 e9 _ _ hvZ hvZ) rfl rfl ?_; rintro _ _ _ ⟨rfl, p2, rfl, hp2, rfl⟩; refine ⟨okF, ?_⟩)
        repeat (refine wXh ?_)
        (refine RD_callS rfl (hC2 e7 _ _ hvZ hvZ) rfl rfl ?_; rintro _ _ _ ⟨rfl, p3, rfl, hp3, rfl⟩; refine ⟨okF, ?_⟩)
        repeat (refine wXh ?_)
        (refine RD_callS rfl (hMi p2 p3 _ _ hvZ hvZ) rfl rfl ?_; rintro _ _ _ ⟨rfl, p9, rfl, hp9, rfl⟩; refine ⟨okF, ?_⟩)
        repeat (refine wXh ?_)
        refine ND_cut _ _ _ subG subF incF ⟨b9, p9, by rw [hp9, hp2, hp3, hp1, he9, he8, he7]; rfl, rfl, rfl, rfl⟩
    · rintro G M I ⟨b9, p9, hp9, rfl, rfl, rfl⟩
      refine TD_seq ?_
      refine TD_region ?_
      repeat (refine wXh ?_)
      (refine RD_c rfl (fun _ => Const_structC (vals := [rv e7, pv p9]) (cells := eC ⟨e7, p9⟩) rfl ?hpl rfl ?hz) rfl rfl ?_; (case hpl => repeat (first | exact True.intro | refine ⟨rfl, ?_⟩)); (case hz => rfl))
      repeat (refine wXh ?_)
      refine ND_hv (φ := isR e7 (2 * s + 1)) hvZ (ND_hv (φ := isP p9 (4 * s + 2 * k + 3)) hvZ ?_)
      refine ND_retC (cs := eC ⟨e7, p9⟩) (.inl rfl) rfl rfl memF rfl M0 (isP p9 (4 * s + 2 * k + 3) :: isR e7 (2 * s + 1) :: I0) subF incF ⟨rfl, ⟨e7, p9⟩, rfl, he7, hp9, rfl⟩
end
end Go.Proofs.YtdmlebigkakplaaGreat
namespace Go.Proofs.YtdmlebigkakplaaGreat
open Go Go.Fx
abbrev zP : Value := .agg #[.bool false, .slice none 0 0, .bool false, .slice none 0 0, .bool false, .slice none 0 0, .bool false, .slice none 0 0]
abbrev zPc : List Value := [.bool false, .slice none 0 0, .bool false, .slice none 0 0, .bool false, .slice none 0 0, .bool false, .slice none 0 0]
section
variable {X : List Nat} {w0 : World} {M0 : List Ent} {I0 : List Imm}
set_option maxRecDepth 100000 in
set_option maxHeartbeats 1000000 in
theorem meet_no {c0 c1 : CE} {k : Nat} (hk : 4 * k + 1 ≤ 400000000) (h0 : Hv I0 (isP c0.b k)) (h1 : Hv I0 (isP c1.b k)) (hd : c0.b.v.crs c1.b.v = 0) :
    CD Tryz.prog 112 [.agg (recs eC [c0, c1]).toArray] X w0 M0 I0 (fun v M I => M0 = M ∧ I0 = I ∧ v = .tuple #[zP, .bool false]) := by
  have hC := fun M0 I0 => pCross_ok (X := X) (w0 := w0) (M0 := M0) (I0 := I0) (a := c0.b) (b := c1.b) (k := k) (m := k) (by omega)
  have hS := fun e M0 I0 => QSign_ok (X := X) (w0 := w0) (M0 := M0) (I0 := I0) (e := e) (k := (k + k) + (k + k) + 1) (by omega)
  refine CD_hv h0 (CD_hv h1.cons ?_)
  refine enterD1 Tryz.func112 rfl Tryz.ntmps112 rfl ?_
  refine TD_seq ?_
  refine TD_region ?_
  (refine RD_boxA rfl rfl rfl ?_; intro b1; refine ⟨okF, ?_⟩)
  (refine RD_alloc rfl rfl ?_; intro b2; refine ⟨okF, ?_⟩)
  repeat (refine wXh ?_)
  (refine RD_callS rfl (hC _ _ hvZ hvZ) rfl rfl ?_; rintro _ _ _ ⟨rfl, e4, rfl, he4, rfl⟩; refine ⟨okF, ?_⟩)
  (refine RD_alloc rfl rfl ?_; intro b4; refine ⟨okF, ?_⟩)
  have e0 : e4.q.num.sign = 0 := by rw [he4, hd]; rfl
  have hS2 := fun M0 I0 => hS e4 M0 I0
  rw [e0] at hS2
  repeat (refine wXh ?_)
  (refine RD_callS rfl (hS2 _ _ hvZ) rfl rfl ?_; rintro _ _ _ ⟨rfl, rfl, rfl⟩; refine ⟨okF, ?_⟩)
  repeat (refine wXh ?_)
  (refine RD_c rfl (fun _ => Const_struct (pvs := ([]).zipIdx.map (fun p => (p.2, p.1))) (cells := zPc) rfl rfl) rfl rfl ?_)
  repeat (refine wXh ?_)
  refine ND_retsC (rs := [.cell 2 28, .tmp 3]) (vs := [zP, .bool false]) (.inl rfl) rfl (.cellN (cs := zPc) inferInstance rfl memF rfl (.tmp rfl .nil)) rfl M0 I0 subF incF ⟨rfl, rfl, rfl⟩
set_option maxRecDepth 100000 in
set_option maxHeartbeats 4000000 in
theorem meet_ok {c0 c1 : CE} {j k : Nat} (hk : 4 * k + 40 * (j + k) + 100 ≤ 400000000) (h0 : Hv I0 (isP c0.b k)) (h1 : Hv I0 (isP c1.b k)) (g0 : Hv I0 (isR c0.a j)) (g1 : Hv I0 (isR c1.a j)) (hd : c0.b.v.crs c1.b.v ≠ 0) (hz : ¬ (mtZ c0.a.q c1.a.q c0.b.v c1.b.v).z0) :
    CD Tryz.prog 112 [.agg (recs eC [c0, c1]).toArray] X w0 M0 I0 (fun v M I => M0 = M ∧ ∃ p : PE, v = .tuple #[pv p, .bool true] ∧ p.v = mtC c0.a.q c1.a.q c0.b.v c1.b.v ∧ I = isP p (4 * k + 20 * (j + k) + 20) :: I0) := by
  have hC := fun M0 I0 => pCross_ok (X := X) (w0 := w0) (M0 := M0) (I0 := I0) (a := c0.b) (b := c1.b) (k := k) (m := k) (by omega)
  have hS := fun e M0 I0 => QSign_ok (X := X) (w0 := w0) (M0 := M0) (I0 := I0) (e := e) (k := (k + k) + (k + k) + 1) (by omega)
  have hSd0 := fun M0 I0 => pSide_ok (X := X) (w0 := w0) (M0 := M0) (I0 := I0) (a := c0.b) (k := k) (by omega)
  have hSd1 := fun M0 I0 => pSide_ok (X := X) (w0 := w0) (M0 := M0) (I0 := I0) (a := c1.b) (k := k) (by omega)
  have hSc := fun p1 e9 M0 I0 => pScaled_ok (X := X) (w0 := w0) (M0 := M0) (I0 := I0) (a := p1) (b := e9) (k := k) (m := j) (by omega)
  have hMi := fun p2 p3 M0 I0 => pMinus_ok (X := X) (w0 := w0) (M0 := M0) (I0 := I0) (a := p2) (b := p3) (k := j + k) (m := j + k) (by omega)
  have hZ := fun p5 M0 I0 => pZero_ok (X := X) (w0 := w0) (M0 := M0) (I0 := I0) (a := p5) (k := j + k + (j + k) + 1) (by omega)
  obtain ⟨z, hz'⟩ : ∃ z, z = j + k + (j + k) + 1 := ⟨_, rfl⟩
  rw [← hz'] at hMi hZ
  have hDo := fun p5 M0 I0 => pDot_ok (X := X) (w0 := w0) (M0 := M0) (I0 := I0) (a := p5) (b := p5) (k := z) (m := z) (by omega)
  have hDv := fun e4 e5 M0 I0 (hb0 : e5.q ≠ 0) => QDivide_ok (X := X) (w0 := w0) (M0 := M0) (I0 := I0) (a := e4) (b := e5) (k := (k + k) + (k + k) + 1) (m := (z + z) + (z + z) + 1) (by omega) hb0
  have hSe := fun p5 e6 M0 I0 => pScaled_ok (X := X) (w0 := w0) (M0 := M0) (I0 := I0) (a := p5) (b := e6) (k := z) (m := (k + k) + (k + k) + 1 + ((z + z) + (z + z) + 1)) (by omega)
  refine CD_hv h0 (CD_hv h1.cons (CD_hv g0.cons.cons (CD_hv g1.cons.cons.cons ?_)))
  refine enterD1 Tryz.func112 rfl Tryz.ntmps112 rfl ?_
  refine TD_seq ?_
  refine TD_region ?_
  (refine RD_boxA rfl rfl rfl ?_; intro b1; refine ⟨okF, ?_⟩)
  (refine RD_alloc rfl rfl ?_; intro b2; refine ⟨okF, ?_⟩)
  repeat (refine wXh ?_)
  (refine RD_callS rfl (hC _ _ hvZ hvZ) rfl rfl ?_; rintro _ _ _ ⟨rfl, e4, rfl, he4, rfl⟩; refine ⟨okF, ?_⟩)
  (refine RD_alloc rfl rfl ?_; intro b4; refine ⟨okF, ?_⟩)
  have e0 : ¬ e4.q.num.sign = 0 := by rw [sgn0, he4]; exact hd
  have hS2 := fun M0 I0 => hS e4 M0 I0
  generalize e4.q.num.sign = s4 at *
  repeat (refine wXh ?_)
  (refine RD_callS rfl (hS2 _ _ hvZ) rfl rfl ?_; rintro _ _ _ ⟨rfl, rfl, rfl⟩; refine ⟨okF, ?_⟩)
  repeat (refine wXh ?_)
  refine TD_cutT (fun G M I => ∃ (b5 : Nat) (p5 : PE), p5.v = mtZ c0.a.q c1.a.q c0.b.v c1.b.v ∧ G = [(2, .pointer (some ⟨b2, 0, none⟩)), (4, .pointer (some ⟨b4, 0, none⟩)), (5, .pointer (some ⟨b5, 0, none⟩))] ∧ M = .blk b5 (eP p5) 28 :: .blk b4 (eR e4) 26 :: .blk b2 zPc 28 :: M0 ∧ I = isP p5 z :: isR e4 ((k + k) + (k + k) + 1) :: I0) ?_ ?_
  · ((repeat refine TD_seq ?_); refine TD_rest (.blk b1 (recs eC [c0, c1]) 128 :: M0) (isR e4 ((k + k) + (k + k) + 1) :: isR c1.a j :: isR c0.a j :: isP c1.b k :: isP c0.b k :: I0) mixed ?_)
    refine ND_restPre (fuel := 7) (listed' := #[true, true, true, false, true, true, true, false, true, true, true, false, true, true, true, false, false, false, false]) [0, 1, 2, 4, 5, 6, 8, 9, 10, 12, 13, 14] [6, 6, 5, 6, 6, 5, 6, 6, 5, 6, 6, 5] subF incF (by kernel_rfl) (by kernel_rfl) rfl rfl ?_
    repeat (refine wXh ?_)
    refine ND_restFork (fuel := 6) (i := 3) (j := 17) (by kernel_rfl) ?_ ?_
    · (refine RD_callS rfl (hSd0 _ _ hvZ) rfl rfl ?_; rintro _ _ _ ⟨rfl, p1, rfl, hp1, rfl⟩; refine ⟨okF, ?_⟩)
      refine RD_nil ?_
      repeat (refine wXh ?_)
      refine ND_restFork (fuel := 5) (i := 7) (j := 17) (by kernel_rfl) ?_ ?_
      · (refine RD_callS rfl (hSc p1 c1.a _ _ hvZ hvZ) rfl rfl ?_; rintro _ _ _ ⟨rfl, p2, rfl, hp2, rfl⟩; refine ⟨okF, ?_⟩)
        refine RD_nil ?_
        repeat (refine wXh ?_)
        refine ND_restFork (fuel := 4) (i := 11) (j := 17) (by kernel_rfl) ?_ ?_
        · (refine RD_callS rfl (hSd1 _ _ hvZ) rfl rfl ?_; rintro _ _ _ ⟨rfl, p3, rfl, hp3, rfl⟩; refine ⟨okF, ?_⟩)
          refine RD_nil ?_
          repeat (refine wXh ?_)
          refine ND_restFork (fuel := 3) (i := 15) (j := 17) (by kernel_rfl) ?_ ?_
          · (refine RD_callS rfl (hSc p3 c0.a _ _ hvZ hvZ) rfl rfl ?_; rintro _ _ _ ⟨rfl, p4, rfl, hp4, rfl⟩; refine ⟨okF, ?_⟩)
            refine RD_nil ?_
            repeat (refine wXh ?_)
            refine ND_restFork (fuel := 2) (i := 16) (j := 17) (by kernel_rfl) ?_ ?_
            · (refine RD_callS rfl (hMi p2 p4 _ _ hvZ hvZ) rfl rfl ?_; rintro _ _ _ ⟨rfl, p5, rfl, hp5, rfl⟩; refine ⟨okF, ?_⟩)
              refine RD_nil ?_
              refine ND_restEnd [17, 18] [0, 0] subF incF (by kernel_rfl) (by kernel_rfl) rfl rfl ?_
              repeat (refine wXh ?_)
              (refine RD_alloc rfl rfl ?_; intro b5; refine ⟨okF, ?_⟩)
              repeat (refine wXh ?_)
              refine ND_cut _ _ _ subG subF incF ⟨b5, p5, by rw [hp5, hp2, hp4, hp1, hp3]; rfl, rfl, rfl, rfl⟩
            · (refine RD_alloc rfl rfl ?_; intro b5; refine ⟨okF, ?_⟩)
              refine RD_nil ?_
              refine ND_restEnd [16, 18] [0, 0] subF incF (by kernel_rfl) (by kernel_rfl) rfl rfl ?_
              repeat (refine wXh ?_)
              (refine RD_callS rfl (hMi p2 p4 _ _ hvZ hvZ) rfl rfl ?_; rintro _ _ _ ⟨rfl, p5, rfl, hp5, rfl⟩; refine ⟨okF, ?_⟩)
              repeat (refine wXh ?_)
              refine ND_cut _ _ _ subG subF incF ⟨b5, p5, by rw [hp5, hp2, hp4, hp1, hp3]; rfl, rfl, rfl, rfl⟩
          · (refine RD_alloc rfl rfl ?_; intro b5; refine ⟨okF, ?_⟩)
            refine RD_nil ?_
            refine ND_restEnd [15, 16, 18] [0, 0, 0] subF incF (by kernel_rfl) (by kernel_rfl) rfl rfl ?_
            repeat (refine wXh ?_)
            (refine RD_callS rfl (hSc p3 c0.a _ _ hvZ hvZ) rfl rfl ?_; rintro _ _ _ ⟨rfl, p4, rfl, hp4, rfl⟩; refine ⟨okF, ?_⟩)
            repeat (refine wXh ?_)
            (refine RD_callS rfl (hMi p2 p4 _ _ hvZ hvZ) rfl rfl ?_; rintro _ _ _ ⟨rfl, p5, rfl, hp5, rfl⟩; refine ⟨okF, ?_⟩)
            repeat (refine wXh ?_)
            refine ND_cut _ _ _ subG subF incF ⟨b5, p5, by rw [hp5, hp2, hp4, hp1, hp3]; rfl, rfl, rfl, rfl⟩
        · (refine RD_alloc rfl rfl ?_; intro b5; refine ⟨okF, ?_⟩)
          refine RD_nil ?_
          refine ND_restEnd [11, 15, 16, 18] [0, 0, 0, 0] subF incF (by kernel_rfl) (by kernel_rfl) rfl rfl ?_
          repeat (refine wXh ?_)
          (refine RD_callS rfl (hSd1 _ _ hvZ) rfl rfl ?_; rintro _ _ _ ⟨rfl, p3, rfl, hp3, rfl⟩; refine ⟨okF, ?_⟩)
          repeat (refine wXh ?_)
          (refine RD_callS rfl (hSc p3 c0.a _ _ hvZ hvZ) rfl rfl ?_; rintro _ _ _ ⟨rfl, p4, rfl, hp4, rfl⟩; refine ⟨okF, ?_⟩)
          repeat (refine wXh ?_)
          (refine RD_callS rfl (hMi p2 p4 _ _ hvZ hvZ) rfl rfl ?_; rintro _ _ _ ⟨rfl, p5, rfl, hp5, rfl⟩; refine ⟨okF, ?_⟩)
          repeat (refine wXh ?_)
          refine ND_cut _ _ _ subG subF incF ⟨b5, p5, by rw [hp5, hp2, hp4, hp1, hp3]; rfl, rfl, rfl, rfl⟩
      · (refine RD_alloc rfl rfl ?_; intro b5; refine ⟨okF, ?_⟩)
        refine RD_nil ?_
        refine ND_restEnd [7, 11, 15, 16, 18] [0, 0, 0, 0, 0] subF incF (by kernel_rfl) (by kernel_rfl) rfl rfl ?_
        repeat (refine wXh ?_)
        (refine RD_callS rfl (hSc p1 c1.a _ _ hvZ hvZ) rfl rfl ?_; rintro _ _ _ ⟨rfl, p2, rfl, hp2, rfl⟩; refine ⟨okF, ?_⟩)
        repeat (refine wXh ?_)
        (refine RD_callS rfl (hSd1 _ _ hvZ) rfl rfl ?_; rintro _ _ _ ⟨rfl, p3, rfl, hp3, rfl⟩; refine ⟨okF, ?_⟩)
        repeat (refine wXh ?_)
        (refine RD_callS rfl (hSc p3 c0.a _ _ hvZ hvZ) rfl rfl ?_; rintro _ _ _ ⟨rfl, p4, rfl, hp4, rfl⟩; refine ⟨okF, ?_⟩)
        repeat (refine wXh ?_)
        (refine RD_callS rfl (hMi p2 p4 _ _ hvZ hvZ) rfl rfl ?_; rintro _ _ _ ⟨rfl, p5, rfl, hp5, rfl⟩; refine ⟨okF, ?_⟩)
        repeat (refine wXh ?_)
        refine ND_cut _ _ _ subG subF incF ⟨b5, p5, by rw [hp5, hp2, hp4, hp1, hp3]; rfl, rfl, rfl, rfl⟩
    · (refine RD_alloc rfl rfl ?_; intro b5; refine ⟨okF, ?_⟩)
      refine RD_nil ?_
      refine ND_restEnd [3, 7, 11, 15, 16, 18] [0, 0, 0, 0, 0, 0] subF incF (by kernel_rfl) (by kernel_rfl) rfl rfl ?_
      repeat (refine wXh ?_)
      (refine RD_callS rfl (hSd0 _ _ hvZ) rfl rfl ?_; rintro _ _ _ ⟨rfl, p1, rfl, hp1, rfl⟩; refine ⟨okF, ?_⟩)
      repeat (refine wXh ?_)
      (refine RD_callS rfl (hSc p1 c1.a _ _ hvZ hvZ) rfl rfl ?_; rintro _ _ _ ⟨rfl, p2, rfl, hp2, rfl⟩; refine ⟨okF, ?_⟩)
      repeat (refine wXh ?_)
      (refine RD_callS rfl (hSd1 _ _ hvZ) rfl rfl ?_; rintro _ _ _ ⟨rfl, p3, rfl, hp3, rfl⟩; refine ⟨okF, ?_⟩)
      repeat (refine wXh ?_)
      (refine RD_callS rfl (hSc p3 c0.a _ _ hvZ hvZ) rfl rfl ?_; rintro _ _ _ ⟨rfl, p4, rfl, hp4, rfl⟩; refine ⟨okF, ?_⟩)
      repeat (refine wXh ?_)
      (refine RD_callS rfl (hMi p2 p4 _ _ hvZ hvZ) rfl rfl ?_; rintro _ _ _ ⟨rfl, p5, rfl, hp5, rfl⟩; refine ⟨okF, ?_⟩)
      repeat (refine wXh ?_)
      refine ND_cut _ _ _ subG subF incF ⟨b5, p5, by rw [hp5, hp2, hp4, hp1, hp3]; rfl, rfl, rfl, rfl⟩
  · rintro G M I ⟨b5, p5, hp5, rfl, rfl, rfl⟩
    have hZ2 := fun M0 I0 => hZ p5 M0 I0
    have hzz : ¬ p5.v.z0 := by rw [hp5]; exact hz
    rw [B_false hzz] at hZ2
    repeat (refine wXh ?_)
    (refine RD_callS rfl (hZ2 _ _ hvZ) rfl rfl ?_; rintro _ _ _ ⟨rfl, rfl, rfl⟩; refine ⟨okF, ?_⟩)
    repeat (refine wXh ?_)
    refine TD_cutT (fun G M I => ∃ (b6 : Nat) (e6 : RE), e6.q = c0.b.v.crs c1.b.v / p5.v.dot p5.v ∧ G = [(2, .pointer (some ⟨b2, 0, none⟩)), (5, .pointer (some ⟨b5, 0, none⟩)), (6, .pointer (some ⟨b6, 0, none⟩))] ∧ M = .blk b6 (eR e6) 26 :: .blk b5 (eP p5) 28 :: .blk b2 zPc 28 :: M0 ∧ I = isR e6 ((k + k) + (k + k) + 1 + ((z + z) + (z + z) + 1)) :: isP p5 z :: I0) ?_ ?_
    · have hne : ∀ e5 : RE, e5.q = p5.v.dot p5.v → e5.q ≠ 0 := fun e5 h => by
        have := sq_pos hzz
        rw [h]
        simp only [V2.dot]
        intro e; rw [e] at this; exact absurd this (by decide)
      ((repeat refine TD_seq ?_); refine TD_rest (.blk b5 (eP p5) 28 :: .blk b4 (eR e4) 26 :: M0) (isP p5 z :: isR e4 ((k + k) + (k + k) + 1) :: I0) mixed ?_)
      refine ND_restPre (fuel := 8) (listed' := #[true, true, true, false, false, false, false, false, false, false, false]) [0, 1, 2] [2, 2, 2] subF incF (by kernel_rfl) (by kernel_rfl) rfl rfl ?_
      repeat (refine wXh ?_)
      refine ND_restFork (fuel := 7) (i := 3) (j := 8) (by kernel_rfl) ?_ ?_
      · (refine RD_callS rfl (hDo p5 _ _ hvZ hvZ) rfl rfl ?_; rintro _ _ _ ⟨rfl, e5, rfl, he5, rfl⟩; refine ⟨okF, ?_⟩)
        refine RD_nil ?_
        repeat (refine wXh ?_)
        refine ND_restFork (fuel := 6) (i := 4) (j := 8) (by kernel_rfl) ?_ ?_
        · (refine RD_callS rfl (hDv e4 e5 _ _ (hne e5 he5) hvZ hvZ) rfl rfl ?_; rintro _ _ _ ⟨rfl, e6, rfl, he6, rfl⟩; refine ⟨okF, ?_⟩)
          refine RD_nil ?_
          refine ND_restEnd [5, 6, 7, 8, 9, 10] [1, 1, 2, 0, 0, 0] subF incF (by kernel_rfl) (by kernel_rfl) rfl rfl ?_
          repeat (refine wXh ?_)
          (refine RD_alloc rfl rfl ?_; intro b6; refine ⟨okF, ?_⟩)
          repeat (refine wXh ?_)
          refine ND_cut _ _ _ subG subF incF ⟨b6, e6, by rw [he6, he5, he4], rfl, rfl, rfl⟩
        · (refine RD_alloc rfl rfl ?_; intro b6; refine ⟨okF, ?_⟩)
          refine RD_nil ?_
          refine ND_restEnd [4, 5, 6, 7, 9, 10] [0, 0, 0, 1, 0, 0] subF incF (by kernel_rfl) (by kernel_rfl) rfl rfl ?_
          repeat (refine wXh ?_)
          (refine RD_callS rfl (hDv e4 e5 _ _ (hne e5 he5) hvZ hvZ) rfl rfl ?_; rintro _ _ _ ⟨rfl, e6, rfl, he6, rfl⟩; refine ⟨okF, ?_⟩)
          repeat (refine wXh ?_)
          refine ND_cut _ _ _ subG subF incF ⟨b6, e6, by rw [he6, he5, he4], rfl, rfl, rfl⟩
      · (refine RD_alloc rfl rfl ?_; intro b6; refine ⟨okF, ?_⟩)
        refine RD_nil ?_
        refine ND_restEnd [3, 4, 5, 6, 7, 9, 10] [0, 0, 0, 0, 1, 0, 0] subF incF (by kernel_rfl) (by kernel_rfl) rfl rfl ?_
        repeat (refine wXh ?_)
        (refine RD_callS rfl (hDo p5 _ _ hvZ hvZ) rfl rfl ?_; rintro _ _ _ ⟨rfl, e5, rfl, he5, rfl⟩; refine ⟨okF, ?_⟩)
        repeat (refine wXh ?_)
        (refine RD_callS rfl (hDv e4 e5 _ _ (hne e5 he5) hvZ hvZ) rfl rfl ?_; rintro _ _ _ ⟨rfl, e6, rfl, he6, rfl⟩; refine ⟨okF, ?_⟩)
        repeat (refine wXh ?_)
        refine ND_cut _ _ _ subG subF incF ⟨b6, e6, by rw [he6, he5, he4], rfl, rfl, rfl⟩
    · rintro G M I ⟨b6, e6, he6, rfl, rfl, rfl⟩
      refine TD_seq ?_
      refine TD_region ?_
      repeat (refine wXh ?_)
      (refine RD_callS rfl (hSe p5 e6 _ _ hvZ hvZ) rfl rfl ?_; rintro _ _ _ ⟨rfl, p6, rfl, hp6, rfl⟩; refine ⟨okF, ?_⟩)
      repeat (refine wXh ?_)
      refine ND_hv (φ := isP p6 (4 * k + 20 * (j + k) + 20)) hvZ ?_
      refine ND_retsC (rs := [.cell 2 28, .tmp 3]) (vs := [pv p6, .bool true]) (.inl rfl) rfl (.cellN (cs := eP p6) inferInstance rfl memF rfl (.tmp rfl .nil)) rfl M0 (isP p6 (4 * k + 20 * (j + k) + 20) :: I0) subF incF ⟨rfl, p6, rfl, by rw [hp6, he6, hp5]; rfl, rfl⟩
end
end Go.Proofs.YtdmlebigkakplaaGreat

/- resect.Slope. -/
import Derived.Test.YtdmlebigkakplaaGreatZrsbh
import Derived.Test.YtdmlebigkakplaaGreatZrsbg
set_option linter.unusedSimpArgs false
set_option linter.unusedVariables false
namespace Go.Proofs.YtdmlebigkakplaaGreat
open Go Go.Fx
abbrev zRc : List Value := [.bool false, .slice none 0 0, .bool false, .slice none 0 0]
theorem all3 {p : PW → Prop} {a b c : PW} (h1 : p a) (h2 : p b) (h3 : p c) : ∀ x ∈ [a, b, c], p x := fun x hx => by
  simp only [List.mem_cons, List.not_mem_nil, or_false] at hx
  rcases hx with rfl | rfl | rfl
  · exact h1
  · exact h2
  · exact h3
theorem RE.q0 {a : RE} : a.q.num.sign = 0 ↔ a.q = 0 := sgn0
theorem sgnP {q : Rat} : 0 < q.num.sign ↔ 0 < q := by
  rw [Int.sign_pos_iff, rat_lt]
  simp
section
variable {X : List Nat} {w0 : World} {M0 : List Ent} {I0 : List Imm}
set_option maxRecDepth 100000 in
set_option maxHeartbeats 1000000 in
theorem Slope_bad {c f p : PW} (hs : c.small ∧ f.small ∧ p.small) (hc : Hv I0 (isPW c)) (hf : Hv I0 (isPW f)) (hp : Hv I0 (isPW p)) (hb : ¬ (c.good ∧ f.good ∧ p.good)) :
    CD Tryz.prog 17 [pvW c, pvW f, pvW p] X w0 M0 I0 (fun v M I => M0 = M ∧ I0 = I ∧ v = .tuple #[zR, .bool false, .int .i64 1]) := by
  have hV := fun q M0 I0 h1 => valid_ok (X := X) (w0 := w0) (M0 := M0) (I0 := I0) (q := q) (c := 3) (m := 3) (ps := [c, f, p]) rfl (by simp) (all3 hs.1 hs.2.1 hs.2.2) h1
  rw [B_false (show ¬ ∀ x ∈ [c, f, p], x.good from fun h => hb ⟨h _ (by simp), h _ (by simp), h _ (by simp)⟩)] at hV
  refine CD_hv (Hv.pw3 hc hf hp) ?_
  refine enterD3 Tryz.func17 rfl Tryz.ntmps17 rfl ?_
  refine TD_seq ?_
  refine TD_region ?_
  (refine RD_boxA rfl rfl rfl ?_; intro b3; refine ⟨okF, ?_⟩)
  (refine RD_boxA rfl rfl rfl ?_; intro b4; refine ⟨okF, ?_⟩)
  (refine RD_boxA rfl rfl rfl ?_; intro b5; refine ⟨okF, ?_⟩)
  (refine RD_alloc rfl rfl ?_; intro b6; refine ⟨okF, ?_⟩)
  repeat (refine wXh ?_)
  (refine RD_vals (cs := recs ePW [c, f, p]) ([pvW c, pvW f, pvW p]) rfl rfl (by intro v hv; repeat (first | exact absurd hv (List.not_mem_nil) | (rcases List.mem_cons.1 hv with rfl | hv; · rfl))) (by omega) rfl rfl rfl ?_; intro bs; refine ⟨okF, ?_⟩)
  refine RD_freezeB remF ?_
  (refine RD_callS rfl (hV _ _ _ memF hvZ) rfl rfl ?_; rintro _ _ _ ⟨rfl, rfl, rfl⟩; refine ⟨okF, ?_⟩)
  repeat (refine wXh ?_)
  (refine RD_c rfl (fun _ => Const_struct (pvs := ([]).zipIdx.map (fun p => (p.2, p.1))) (cells := zRc) rfl rfl) rfl rfl ?_)
  repeat (refine wXh ?_)
  refine ND_retsC (rs := [.cell 6 26, .tmp 7, .tmp 8]) (vs := [zR, .bool false, .int .i64 1]) (.inl rfl) rfl (.cellN (cs := zRc) inferInstance rfl memF rfl (.tmp rfl (.tmp rfl .nil))) rfl M0 I0 subF incF ⟨rfl, rfl, rfl⟩
set_option maxRecDepth 100000 in
set_option maxHeartbeats 1000000 in
theorem Slope_deg {c f p : PE} {k : Nat} (hk : k ≤ 20000000) (hc : Hv I0 (isP c k)) (hf : Hv I0 (isP f k)) (hp : Hv I0 (isP p k)) (hb : f.v.z0) :
    CD Tryz.prog 17 [pv c, pv f, pv p] X w0 M0 I0 (fun v M I => M0 = M ∧ I0 = I ∧ v = .tuple #[zR, .bool false, .int .i64 13]) := by
  refine CD_fact (φ := c.raw.small ∧ f.raw.small ∧ p.raw.small) (fun w hw => ⟨Mem.pureP hc hk hw, Mem.pureP hf hk hw, Mem.pureP hp hk hw⟩) (fun hs => ?_)
  have hV := fun q M0 I0 h1 => valid_ok (X := X) (w0 := w0) (M0 := M0) (I0 := I0) (q := q) (c := 3) (m := 3) (ps := [c.raw, f.raw, p.raw]) rfl (by simp) (all3 hs.1 hs.2.1 hs.2.2) h1
  rw [B_true (show ∀ x ∈ [c.raw, f.raw, p.raw], x.good from all3 c.raw_good f.raw_good p.raw_good)] at hV
  have hZ := fun M0 I0 => pZero_ok (X := X) (w0 := w0) (M0 := M0) (I0 := I0) (a := f) (k := k) (by omega)
  rw [B_true hb] at hZ
  refine CD_hv (Hv.pw3 (hc.toPW (by omega)) (hf.toPW (by omega)) (hp.toPW (by omega))) (CD_hv hc.cons (CD_hv hf.cons.cons (CD_hv hp.cons.cons.cons ?_)))
  refine enterD3 Tryz.func17 rfl Tryz.ntmps17 rfl ?_
  refine TD_seq ?_
  refine TD_region ?_
  (refine RD_boxA rfl rfl rfl ?_; intro b3; refine ⟨okF, ?_⟩)
  (refine RD_boxA rfl rfl rfl ?_; intro b4; refine ⟨okF, ?_⟩)
  (refine RD_boxA rfl rfl rfl ?_; intro b5; refine ⟨okF, ?_⟩)
  (refine RD_alloc rfl rfl ?_; intro b6; refine ⟨okF, ?_⟩)
  repeat (refine wXh ?_)
  (refine RD_vals (cs := recs ePW [c.raw, f.raw, p.raw]) ([pv c, pv f, pv p]) rfl rfl (by intro v hv; repeat (first | exact absurd hv (List.not_mem_nil) | (rcases List.mem_cons.1 hv with rfl | hv; · rfl))) (by omega) rfl rfl rfl ?_; intro bs; refine ⟨okF, ?_⟩)
  refine RD_freezeB remF ?_
  (refine RD_callS rfl (hV _ _ _ memF hvZ) rfl rfl ?_; rintro _ _ _ ⟨rfl, rfl, rfl⟩; refine ⟨okF, ?_⟩)
  repeat (refine wXh ?_)
  (refine RD_callS rfl (hZ _ _ hvZ) rfl rfl ?_; rintro _ _ _ ⟨rfl, rfl, rfl⟩; refine ⟨okF, ?_⟩)
  repeat (refine wXh ?_)
  (refine RD_c rfl (fun _ => Const_struct (pvs := ([]).zipIdx.map (fun p => (p.2, p.1))) (cells := zRc) rfl rfl) rfl rfl ?_)
  repeat (refine wXh ?_)
  refine ND_retsC (rs := [.cell 6 26, .tmp 7, .tmp 8]) (vs := [zR, .bool false, .int .i64 13]) (.inl rfl) rfl (.cellN (cs := zRc) inferInstance rfl memF rfl (.tmp rfl (.tmp rfl .nil))) rfl M0 I0 subF incF ⟨rfl, rfl, rfl⟩
set_option maxRecDepth 100000 in
set_option maxHeartbeats 2000000 in
theorem Slope_beh {c f p : PE} {k : Nat} (hk : k ≤ 20000000) (hc : Hv I0 (isP c k)) (hf : Hv I0 (isP f k)) (hp : Hv I0 (isP p k)) (hb : ¬ f.v.z0) (h0 : ahd c.v f.v p.v = 0) :
    CD Tryz.prog 17 [pv c, pv f, pv p] X w0 M0 I0 (fun v M I => M0 = M ∧ I0 = I ∧ v = .tuple #[zR, .bool false, .int .i64 20]) := by
  refine CD_fact (φ := c.raw.small ∧ f.raw.small ∧ p.raw.small) (fun w hw => ⟨Mem.pureP hc hk hw, Mem.pureP hf hk hw, Mem.pureP hp hk hw⟩) (fun hs => ?_)
  have hV := fun q M0 I0 h1 => valid_ok (X := X) (w0 := w0) (M0 := M0) (I0 := I0) (q := q) (c := 3) (m := 3) (ps := [c.raw, f.raw, p.raw]) rfl (by simp) (all3 hs.1 hs.2.1 hs.2.2) h1
  rw [B_true (show ∀ x ∈ [c.raw, f.raw, p.raw], x.good from all3 c.raw_good f.raw_good p.raw_good)] at hV
  have hZ := fun M0 I0 => pZero_ok (X := X) (w0 := w0) (M0 := M0) (I0 := I0) (a := f) (k := k) (by omega)
  rw [B_false hb] at hZ
  have hMi := fun M0 I0 => pMinus_ok (X := X) (w0 := w0) (M0 := M0) (I0 := I0) (a := p) (b := c) (k := k) (m := k) (by omega)
  have hDo := fun p9 g M0 I0 => pDot_ok (X := X) (w0 := w0) (M0 := M0) (I0 := I0) (a := p9) (b := g) (k := k + k + 1) (m := k) (by omega)
  have hSd := fun M0 I0 => pSide_ok (X := X) (w0 := w0) (M0 := M0) (I0 := I0) (a := f) (k := k) (by omega)
  obtain ⟨z, hz⟩ : ∃ z, z = (k + k + 1 + k) + (k + k + 1 + k) + 1 := ⟨_, rfl⟩
  rw [← hz] at hDo
  have hDv := fun e4 e5 M0 I0 hb0 => QDivide0_ok (X := X) (w0 := w0) (M0 := M0) (I0 := I0) (a := e4) (b := e5) (k := z) (m := z) (by omega) hb0
  refine CD_hv (Hv.pw3 (hc.toPW (by omega)) (hf.toPW (by omega)) (hp.toPW (by omega))) (CD_hv hc.cons (CD_hv hf.cons.cons (CD_hv hp.cons.cons.cons ?_)))
  refine enterD3 Tryz.func17 rfl Tryz.ntmps17 rfl ?_
  refine TD_seq ?_
  refine TD_region ?_
  (refine RD_boxA rfl rfl rfl ?_; intro b3; refine ⟨okF, ?_⟩)
  (refine RD_boxA rfl rfl rfl ?_; intro b4; refine ⟨okF, ?_⟩)
  (refine RD_boxA rfl rfl rfl ?_; intro b5; refine ⟨okF, ?_⟩)
  (refine RD_alloc rfl rfl ?_; intro b6; refine ⟨okF, ?_⟩)
  repeat (refine wXh ?_)
  (refine RD_vals (cs := recs ePW [c.raw, f.raw, p.raw]) ([pv c, pv f, pv p]) rfl rfl (by intro v hv; repeat (first | exact absurd hv (List.not_mem_nil) | (rcases List.mem_cons.1 hv with rfl | hv; · rfl))) (by omega) rfl rfl rfl ?_; intro bs; refine ⟨okF, ?_⟩)
  refine RD_freezeB remF ?_
  (refine RD_callS rfl (hV _ _ _ memF hvZ) rfl rfl ?_; rintro _ _ _ ⟨rfl, rfl, rfl⟩; refine ⟨okF, ?_⟩)
  repeat (refine wXh ?_)
  (refine RD_callS rfl (hZ _ _ hvZ) rfl rfl ?_; rintro _ _ _ ⟨rfl, rfl, rfl⟩; refine ⟨okF, ?_⟩)
  repeat (refine wXh ?_)
  (refine RD_callS rfl (hMi _ _ hvZ hvZ) rfl rfl ?_; rintro _ _ _ ⟨rfl, p9, rfl, hp9, rfl⟩; refine ⟨okF, ?_⟩)
  (refine RD_alloc rfl rfl ?_; intro b9; refine ⟨okF, ?_⟩)
  repeat (refine wXh ?_)
  (refine RD_callS rfl (hDo p9 f _ _ hvZ hvZ) rfl rfl ?_; rintro _ _ _ ⟨rfl, e10, rfl, he10, rfl⟩; refine ⟨okF, ?_⟩)
  (refine RD_alloc rfl rfl ?_; intro b10; refine ⟨okF, ?_⟩)
  repeat (refine wXh ?_)
  have e0 : e10.q = 0 := by rw [he10, hp9]; exact h0
  (repeat refine TD_seq ?_); refine TD_drawnW (.blk b10 (eR e10) 26 :: .blk b9 (eP p9) 28 :: .blk b4 (eP f) 28 :: M0) (isR e10 z :: isP p9 (k + k + 1) :: isP p k :: isP f k :: isP c k :: allPW [c.raw, f.raw, p.raw] :: I0) [0, 1, 4, 2, 3, 5, 6, 7, 8, 9, 10] [2, 2, 2, 0, 0, 0, 0, 0, 1, 0, 0] subF incF mixed (by kernel_rfl) ?_
  repeat (refine wXh ?_)
  (refine RD_callS rfl (hSd _ _ hvZ) rfl rfl ?_; rintro _ _ _ ⟨rfl, p11, rfl, hp11, rfl⟩; refine ⟨okF, ?_⟩)
  repeat (refine wXh ?_)
  (refine RD_callS rfl (hDo p9 p11 _ _ hvZ hvZ) rfl rfl ?_; rintro _ _ _ ⟨rfl, e12, rfl, he12, rfl⟩; refine ⟨okF, ?_⟩)
  repeat (refine wXh ?_)
  (refine RD_callS rfl (hDv e12 e10 _ _ e0 hvZ hvZ) rfl rfl ?_; rintro _ _ _ ⟨rfl, rfl, rfl⟩; refine ⟨okF, ?_⟩)
  repeat (refine wXh ?_)
  (refine RD_c rfl (fun _ => Const_struct (pvs := ([]).zipIdx.map (fun p => (p.2, p.1))) (cells := zRc) rfl rfl) rfl rfl ?_)
  repeat (refine wXh ?_)
  refine ND_retsC (rs := [.cell 6 26, .tmp 7, .tmp 8]) (vs := [zR, .bool false, .int .i64 20]) (.inl rfl) rfl (.cellN (cs := zRc) inferInstance rfl memF rfl (.tmp rfl (.tmp rfl .nil))) rfl M0 I0 subF incF ⟨rfl, rfl, rfl⟩
set_option maxRecDepth 100000 in
set_option maxHeartbeats 2000000 in
theorem Slope_ok {c f p : PE} {k : Nat} (hk : k ≤ 20000000) (hc : Hv I0 (isP c k)) (hf : Hv I0 (isP f k)) (hp : Hv I0 (isP p k)) (hb : ¬ f.v.z0) (h0 : ahd c.v f.v p.v ≠ 0) :
    CD Tryz.prog 17 [pv c, pv f, pv p] X w0 M0 I0 (fun v M I => M0 = M ∧ ∃ e : RE, v = .tuple #[rv e, .bool (B (0 < ahd c.v f.v p.v)), .int .i64 0] ∧ e.q = slp c.v f.v p.v ∧ I = isR e (12 * k + 6) :: I0) := by
  refine CD_fact (φ := c.raw.small ∧ f.raw.small ∧ p.raw.small) (fun w hw => ⟨Mem.pureP hc hk hw, Mem.pureP hf hk hw, Mem.pureP hp hk hw⟩) (fun hs => ?_)
  have hV := fun q M0 I0 h1 => valid_ok (X := X) (w0 := w0) (M0 := M0) (I0 := I0) (q := q) (c := 3) (m := 3) (ps := [c.raw, f.raw, p.raw]) rfl (by simp) (all3 hs.1 hs.2.1 hs.2.2) h1
  rw [B_true (show ∀ x ∈ [c.raw, f.raw, p.raw], x.good from all3 c.raw_good f.raw_good p.raw_good)] at hV
  have hZ := fun M0 I0 => pZero_ok (X := X) (w0 := w0) (M0 := M0) (I0 := I0) (a := f) (k := k) (by omega)
  rw [B_false hb] at hZ
  have hMi := fun M0 I0 => pMinus_ok (X := X) (w0 := w0) (M0 := M0) (I0 := I0) (a := p) (b := c) (k := k) (m := k) (by omega)
  have hDo := fun p9 g M0 I0 => pDot_ok (X := X) (w0 := w0) (M0 := M0) (I0 := I0) (a := p9) (b := g) (k := k + k + 1) (m := k) (by omega)
  have hSd := fun M0 I0 => pSide_ok (X := X) (w0 := w0) (M0 := M0) (I0 := I0) (a := f) (k := k) (by omega)
  obtain ⟨z, hz⟩ : ∃ z, z = (k + k + 1 + k) + (k + k + 1 + k) + 1 := ⟨_, rfl⟩
  rw [← hz] at hDo
  have hDv := fun e4 e5 M0 I0 (hb0 : e5.q ≠ 0) => QDivide_ok (X := X) (w0 := w0) (M0 := M0) (I0 := I0) (a := e4) (b := e5) (k := z) (m := z) (by omega) hb0
  have hSg := fun e4 M0 I0 => QSign_ok (X := X) (w0 := w0) (M0 := M0) (I0 := I0) (e := e4) (k := z) (by omega)
  refine CD_hv (Hv.pw3 (hc.toPW (by omega)) (hf.toPW (by omega)) (hp.toPW (by omega))) (CD_hv hc.cons (CD_hv hf.cons.cons (CD_hv hp.cons.cons.cons ?_)))
  refine enterD3 Tryz.func17 rfl Tryz.ntmps17 rfl ?_
  refine TD_seq ?_
  refine TD_region ?_
  (refine RD_boxA rfl rfl rfl ?_; intro b3; refine ⟨okF, ?_⟩)
  (refine RD_boxA rfl rfl rfl ?_; intro b4; refine ⟨okF, ?_⟩)
  (refine RD_boxA rfl rfl rfl ?_; intro b5; refine ⟨okF, ?_⟩)
  (refine RD_alloc rfl rfl ?_; intro b6; refine ⟨okF, ?_⟩)
  repeat (refine wXh ?_)
  (refine RD_vals (cs := recs ePW [c.raw, f.raw, p.raw]) ([pv c, pv f, pv p]) rfl rfl (by intro v hv; repeat (first | exact absurd hv (List.not_mem_nil) | (rcases List.mem_cons.1 hv with rfl | hv; · rfl))) (by omega) rfl rfl rfl ?_; intro bs; refine ⟨okF, ?_⟩)
  refine RD_freezeB remF ?_
  (refine RD_callS rfl (hV _ _ _ memF hvZ) rfl rfl ?_; rintro _ _ _ ⟨rfl, rfl, rfl⟩; refine ⟨okF, ?_⟩)
  repeat (refine wXh ?_)
  (refine RD_callS rfl (hZ _ _ hvZ) rfl rfl ?_; rintro _ _ _ ⟨rfl, rfl, rfl⟩; refine ⟨okF, ?_⟩)
  repeat (refine wXh ?_)
  (refine RD_callS rfl (hMi _ _ hvZ hvZ) rfl rfl ?_; rintro _ _ _ ⟨rfl, p9, rfl, hp9, rfl⟩; refine ⟨okF, ?_⟩)
  (refine RD_alloc rfl rfl ?_; intro b9; refine ⟨okF, ?_⟩)
  repeat (refine wXh ?_)
  (refine RD_callS rfl (hDo p9 f _ _ hvZ hvZ) rfl rfl ?_; rintro _ _ _ ⟨rfl, e10, rfl, he10, rfl⟩; refine ⟨okF, ?_⟩)
  (refine RD_alloc rfl rfl ?_; intro b10; refine ⟨okF, ?_⟩)
  repeat (refine wXh ?_)
  have ea : e10.q = ahd c.v f.v p.v := by rw [he10, hp9]; rfl
  have e0 : e10.q ≠ 0 := by rw [ea]; exact h0
  (repeat refine TD_seq ?_); refine TD_drawnW (.blk b10 (eR e10) 26 :: .blk b9 (eP p9) 28 :: .blk b4 (eP f) 28 :: M0) (isR e10 z :: isP p9 (k + k + 1) :: isP p k :: isP f k :: isP c k :: allPW [c.raw, f.raw, p.raw] :: I0) [0, 1, 4, 2, 3, 5, 6, 7, 8, 9, 10] [2, 2, 2, 0, 0, 0, 0, 0, 1, 0, 0] subF incF mixed (by kernel_rfl) ?_
  repeat (refine wXh ?_)
  (refine RD_callS rfl (hSd _ _ hvZ) rfl rfl ?_; rintro _ _ _ ⟨rfl, p11, rfl, hp11, rfl⟩; refine ⟨okF, ?_⟩)
  repeat (refine wXh ?_)
  (refine RD_callS rfl (hDo p9 p11 _ _ hvZ hvZ) rfl rfl ?_; rintro _ _ _ ⟨rfl, e12, rfl, he12, rfl⟩; refine ⟨okF, ?_⟩)
  repeat (refine wXh ?_)
  (refine RD_callS rfl (hDv e12 e10 _ _ e0 hvZ hvZ) rfl rfl ?_; rintro _ _ _ ⟨rfl, e13, rfl, he13, rfl⟩; refine ⟨okF, ?_⟩)
  repeat (refine wXh ?_)
  (repeat refine TD_seq ?_); refine TD_drawnW (.blk b10 (eR e10) 26 :: .blk b6 (eR e13) 26 :: M0) (isR e13 (z + z) :: isR e10 z :: I0) [0, 1, 2, 3, 4, 5, 6] [1, 1, 0, 1, 0, 0, 0] subF incF mixed (by kernel_rfl) ?_
  repeat (refine wXh ?_)
  (refine RD_callS rfl (hSg e10 _ _ hvZ) rfl rfl ?_; rintro _ _ _ ⟨rfl, rfl, rfl⟩; refine ⟨okF, ?_⟩)
  repeat (refine wXh ?_)
  refine ND_hv (φ := isR e13 (12 * k + 6)) hvZ ?_
  refine ND_retsC (rs := [.cell 6 26, .tmp 7, .tmp 8]) (vs := [rv e13, .bool (B (0 < e10.q.num.sign)), .int .i64 0]) (.inl rfl) rfl (.cellN (cs := eR e13) inferInstance rfl memF rfl (.tmp rfl (.tmp rfl .nil))) rfl M0 (isR e13 (12 * k + 6) :: I0) subF incF ⟨rfl, e13, ?_, ?_, rfl⟩
  · rw [B_congr sgnP, ea]
  · rw [he13, he12, hp9, hp11, ea]; rfl
end
end Go.Proofs.YtdmlebigkakplaaGreat

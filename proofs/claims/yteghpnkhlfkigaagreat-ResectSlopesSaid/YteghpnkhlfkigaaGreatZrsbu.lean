/- The law ResectSlopes: its walk. -/
import Derived.Test.YteghpnkhlfkigaaGreatZrsbs
import Derived.Test.YteghpnkhlfkigaaGreatZrsbt
import Derived.Test.YteghpnkhlfkigaaGreatZrsbk
set_option linter.unusedSimpArgs false
set_option linter.unusedVariables false
namespace Go.Proofs.YteghpnkhlfkigaaGreat
open Go Go.Fx
section
variable {X : List Nat} {w0 : World} {M0 : List Ent} {I0 : List Imm}
set_option maxRecDepth 100000 in
set_option maxHeartbeats 2000000 in
theorem LSl_bad {c f p : PW} (hr : c.reach ∧ f.reach ∧ p.reach) (hc : Hv I0 (isPW c)) (hf : Hv I0 (isPW f)) (hp : Hv I0 (isPW p)) (hb : ¬ ((∀ x ∈ [c, f, p], x.dig ≤ 8) ∧ c.good ∧ f.good ∧ p.good)) :
    CD Tryz.prog 3 [pvW c, pvW f, pvW p] X w0 M0 I0 (fun v M I => M0 = M ∧ I0 = I ∧ v = .bool true) := by
  have hSh := fun q M0 I0 h1 => gShort_ok (X := X) (w0 := w0) (M0 := M0) (I0 := I0) (q := q) (c := 3) (m := 3) (ps := [c, f, p]) rfl (by simp) (all3 hr.1 hr.2.1 hr.2.2) h1
  refine CD_hv (Hv.pw3 hc hf hp) (CD_hv hc.cons (CD_hv hf.cons.cons (CD_hv hp.cons.cons.cons ?_)))
  by_cases hd : ∀ x ∈ [c, f, p], x.dig ≤ 8
  · rw [B_true hd] at hSh
    have hg : ¬ (c.good ∧ f.good ∧ p.good) := fun h => hb ⟨hd, h⟩
    have sc : c.small := PW.small_of (hd c (by simp))
    have sf : f.small := PW.small_of (hd f (by simp))
    have sp : p.small := PW.small_of (hd p (by simp))
    have hS := fun M0 I0 h1 h2 h3 => Slope_bad (X := X) (w0 := w0) (M0 := M0) (I0 := I0) (c := c) (f := f) (p := p) ⟨sc, sf, sp⟩ h1 h2 h3 hg
    have hV := fun q M0 I0 h1 => gValid_ok (X := X) (w0 := w0) (M0 := M0) (I0 := I0) (q := q) (c := 3) (m := 3) (ps := [c, f, p]) rfl (by simp) (all3 sc sf sp) h1
    rw [B_false (show ¬ ∀ x ∈ [c, f, p], x.good from fun h => hg ⟨h _ (by simp), h _ (by simp), h _ (by simp)⟩)] at hV
    refine enterD3 Tryz.func3 rfl Tryz.ntmps3 rfl ?_
    refine TD_seq ?_
    refine TD_region ?_
    (refine RD_boxA rfl rfl rfl ?_; intro b3; refine ⟨okF, ?_⟩)
    (refine RD_boxA rfl rfl rfl ?_; intro b4; refine ⟨okF, ?_⟩)
    (refine RD_boxA rfl rfl rfl ?_; intro b5; refine ⟨okF, ?_⟩)
    repeat (first | (refine isR' ?_; refine whR ?_) | (refine isT' ?_; refine whT ?_) | (refine isN' ?_; refine whN ?_))
    (refine RD_callS rfl (known30_ok) rfl rfl ?_; rintro _ _ _ ⟨rfl, rfl, rfl⟩; refine ⟨okF, ?_⟩)
    repeat (first | (refine isR' ?_; refine whR ?_) | (refine isT' ?_; refine whT ?_) | (refine isN' ?_; refine whN ?_))
    (refine RD_vals (cs := recs ePW [c, f, p]) ([pvW c, pvW f, pvW p]) rfl rfl (by intro v hv; repeat (first | exact absurd hv (List.not_mem_nil) | (rcases List.mem_cons.1 hv with rfl | hv; · rfl))) (by omega) rfl rfl rfl ?_; intro bs; refine ⟨okF, ?_⟩)
    refine RD_freezeB remF ?_
    (refine RD_callS rfl (hSh _ _ _ memF) rfl rfl ?_; rintro _ _ _ ⟨rfl, rfl, rfl⟩; refine ⟨okF, ?_⟩)
    repeat (first | (refine isR' ?_; refine whR ?_) | (refine isT' ?_; refine whT ?_) | (refine isN' ?_; refine whN ?_))
    (refine RD_callS rfl (hS _ _ hvY hvY hvY) rfl rfl ?_; rintro _ _ _ ⟨rfl, rfl, rfl⟩; refine ⟨okF, ?_⟩)
    repeat (first | (refine isR' ?_; refine whR ?_) | (refine isT' ?_; refine whT ?_) | (refine isN' ?_; refine whN ?_))
    (refine RD_alloc rfl rfl ?_; intro b7; refine ⟨okF, ?_⟩)
    repeat (first | (refine isR' ?_; refine whR ?_) | (refine isT' ?_; refine whT ?_) | (refine isN' ?_; refine whN ?_))
    (refine RD_vals (cs := recs ePW [c, f, p]) ([pvW c, pvW f, pvW p]) rfl rfl (by intro v hv; repeat (first | exact absurd hv (List.not_mem_nil) | (rcases List.mem_cons.1 hv with rfl | hv; · rfl))) (by omega) rfl rfl rfl ?_; intro bt; refine ⟨okF, ?_⟩)
    refine RD_freezeB (b := bt) remF ?_
    (refine RD_callS rfl (hV _ _ _ (List.Mem.head _) hvY) rfl rfl ?_; rintro _ _ _ ⟨rfl, rfl, rfl⟩; refine ⟨okF, ?_⟩)
    repeat (first | (refine isR' ?_; refine whR ?_) | (refine isT' ?_; refine whT ?_) | (refine isN' ?_; refine whN ?_))
    (refine RD_callS rfl (Zero_z) rfl rfl ?_; rintro _ _ _ ⟨rfl, rfl, rfl⟩; refine ⟨okF, ?_⟩)
    repeat (first | (refine isR' ?_; refine whR ?_) | (refine isT' ?_; refine whT ?_) | (refine isN' ?_; refine whN ?_))
    refine ND_ret1 (by first | exact .inl rfl | exact .inr rfl) rfl rfl _ _ subF incF (⟨rfl, rfl, rfl⟩)
  · rw [B_false hd] at hSh
    refine enterD3 Tryz.func3 rfl Tryz.ntmps3 rfl ?_
    refine TD_seq ?_
    refine TD_region ?_
    (refine RD_boxA rfl rfl rfl ?_; intro b3; refine ⟨okF, ?_⟩)
    (refine RD_boxA rfl rfl rfl ?_; intro b4; refine ⟨okF, ?_⟩)
    (refine RD_boxA rfl rfl rfl ?_; intro b5; refine ⟨okF, ?_⟩)
    repeat (first | (refine isR' ?_; refine whR ?_) | (refine isT' ?_; refine whT ?_) | (refine isN' ?_; refine whN ?_))
    (refine RD_callS rfl (known30_ok) rfl rfl ?_; rintro _ _ _ ⟨rfl, rfl, rfl⟩; refine ⟨okF, ?_⟩)
    repeat (first | (refine isR' ?_; refine whR ?_) | (refine isT' ?_; refine whT ?_) | (refine isN' ?_; refine whN ?_))
    (refine RD_vals (cs := recs ePW [c, f, p]) ([pvW c, pvW f, pvW p]) rfl rfl (by intro v hv; repeat (first | exact absurd hv (List.not_mem_nil) | (rcases List.mem_cons.1 hv with rfl | hv; · rfl))) (by omega) rfl rfl rfl ?_; intro bs; refine ⟨okF, ?_⟩)
    refine RD_freezeB remF ?_
    (refine RD_callS rfl (hSh _ _ _ memF) rfl rfl ?_; rintro _ _ _ ⟨rfl, rfl, rfl⟩; refine ⟨okF, ?_⟩)
    repeat (first | (refine isR' ?_; refine whR ?_) | (refine isT' ?_; refine whT ?_) | (refine isN' ?_; refine whN ?_))
    refine ND_ret1 (by first | exact .inl rfl | exact .inr rfl) rfl rfl _ _ subF incF (⟨rfl, rfl, rfl⟩)
set_option maxRecDepth 100000 in
set_option maxHeartbeats 4000000 in
theorem LSl_err {c f p : PE} {cd : Int} (hcd : cd = 13 ∨ cd = 20) (hd : ∀ x ∈ [c.raw, f.raw, p.raw], x.dig ≤ 8) (hc : Hv I0 (isP c 240)) (hf : Hv I0 (isP f 240)) (hp : Hv I0 (isP p 240))
    (hS : ∀ M0 I0, Hv I0 (isP c 240) → Hv I0 (isP f 240) → Hv I0 (isP p 240) → CD Tryz.prog 17 [pv c, pv f, pv p] X w0 M0 I0 (fun v M I => M0 = M ∧ I0 = I ∧ v = .tuple #[zR, .bool false, .int .i64 cd]))
    (hG : ∀ M0 I0, Hv I0 (isP c 240) → Hv I0 (isP f 240) → Hv I0 (isP p 240) → CD Tryz.prog 20 [pv c, pv f, pv p] X w0 M0 I0 (fun v M I => M0 = M ∧ I0 = I ∧ v = .tuple #[zR, .bool false, .int .i64 cd]))
    (hT : ∀ (t : PE) M0 I0, t.v = ⟨3 * f.v.x, 3 * f.v.y⟩ → Hv I0 (isP c 242) → Hv I0 (isP t 242) → Hv I0 (isP p 242) → CD Tryz.prog 17 [pv c, pv t, pv p] X w0 M0 I0 (fun v M I => M0 = M ∧ I0 = I ∧ v = .tuple #[zR, .bool false, .int .i64 cd])) :
    CD Tryz.prog 3 [pv c, pv f, pv p] X w0 M0 I0 (fun v M I => M0 = M ∧ I0 = I ∧ v = .bool true) := by
  have hSh := fun q M0 I0 (hr : c.raw.reach ∧ f.raw.reach ∧ p.raw.reach) h1 => gShort_ok (X := X) (w0 := w0) (M0 := M0) (I0 := I0) (q := q) (c := 3) (m := 3) (ps := [c.raw, f.raw, p.raw]) rfl (by simp) (all3 hr.1 hr.2.1 hr.2.2) h1
  rw [B_true hd] at hSh
  have sc : c.raw.small := PW.small_of (hd c.raw (by simp))
  have sf : f.raw.small := PW.small_of (hd f.raw (by simp))
  have sp : p.raw.small := PW.small_of (hd p.raw (by simp))
  have rr : ∀ q : PW, q.small → q.reach := fun q h => ⟨⟨by have := h.1.1; omega, by have := h.1.2; omega⟩, ⟨by have := h.2.1; omega, by have := h.2.2; omega⟩⟩
  have hV := fun q M0 I0 h1 => gValid_ok (X := X) (w0 := w0) (M0 := M0) (I0 := I0) (q := q) (c := 3) (m := 3) (ps := [c.raw, f.raw, p.raw]) rfl (by simp) (all3 sc sf sp) h1
  rw [B_true (show ∀ x ∈ [c.raw, f.raw, p.raw], x.good from all3 c.raw_good f.raw_good p.raw_good)] at hV
  have hR := fun M0 I0 => gRat_ok (X := X) (w0 := w0) (M0 := M0) (I0 := I0) (x := 3) (by decide) (k := 2) (by decide)
  have hMx := fun e M0 I0 => gMul_ok (X := X) (w0 := w0) (M0 := M0) (I0 := I0) (a := e) (b := f.x) (k := 2) (m := 240) (by decide)
  have hMy := fun e M0 I0 => gMul_ok (X := X) (w0 := w0) (M0 := M0) (I0 := I0) (a := e) (b := f.y) (k := 2) (m := 240) (by decide)
  refine CD_hv (Hv.pw3 (hc.toPW (by decide)) (hf.toPW (by decide)) (hp.toPW (by decide))) (CD_hv hc.cons (CD_hv hf.cons.cons (CD_hv hp.cons.cons.cons ?_)))
  refine enterD3 Tryz.func3 rfl Tryz.ntmps3 rfl ?_
  refine TD_seq ?_
  refine TD_region ?_
  (refine RD_boxA rfl rfl rfl ?_; intro b3; refine ⟨okF, ?_⟩)
  (refine RD_boxA rfl rfl rfl ?_; intro b4; refine ⟨okF, ?_⟩)
  (refine RD_boxA rfl rfl rfl ?_; intro b5; refine ⟨okF, ?_⟩)
  repeat (first | (refine isR' ?_; refine whR ?_) | (refine isT' ?_; refine whT ?_) | (refine isN' ?_; refine whN ?_))
  (refine RD_callS rfl (known30_ok) rfl rfl ?_; rintro _ _ _ ⟨rfl, rfl, rfl⟩; refine ⟨okF, ?_⟩)
  repeat (first | (refine isR' ?_; refine whR ?_) | (refine isT' ?_; refine whT ?_) | (refine isN' ?_; refine whN ?_))
  (refine RD_vals (cs := recs ePW [c.raw, f.raw, p.raw]) ([pv c, pv f, pv p]) rfl rfl (by intro v hv; repeat (first | exact absurd hv (List.not_mem_nil) | (rcases List.mem_cons.1 hv with rfl | hv; · rfl))) (by omega) rfl rfl rfl ?_; intro bs; refine ⟨okF, ?_⟩)
  refine RD_freezeB remF ?_
  (refine RD_callS rfl (hSh _ _ _ ⟨rr _ sc, rr _ sf, rr _ sp⟩ (List.Mem.head _)) rfl rfl ?_; rintro _ _ _ ⟨rfl, rfl, rfl⟩; refine ⟨okF, ?_⟩)
  repeat (first | (refine isR' ?_; refine whR ?_) | (refine isT' ?_; refine whT ?_) | (refine isN' ?_; refine whN ?_))
  (refine RD_callS rfl (hS _ _ hvY hvY hvY) rfl rfl ?_; rintro _ _ _ ⟨rfl, rfl, rfl⟩; refine ⟨okF, ?_⟩)
  repeat (first | (refine isR' ?_; refine whR ?_) | (refine isT' ?_; refine whT ?_) | (refine isN' ?_; refine whN ?_))
  (refine RD_alloc rfl rfl ?_; intro b7; refine ⟨okF, ?_⟩)
  repeat (first | (refine isR' ?_; refine whR ?_) | (refine isT' ?_; refine whT ?_) | (refine isN' ?_; refine whN ?_))
  (refine RD_vals (cs := recs ePW [c.raw, f.raw, p.raw]) ([pv c, pv f, pv p]) rfl rfl (by intro v hv; repeat (first | exact absurd hv (List.not_mem_nil) | (rcases List.mem_cons.1 hv with rfl | hv; · rfl))) (by omega) rfl rfl rfl ?_; intro bt; refine ⟨okF, ?_⟩)
  refine RD_freezeB (b := bt) remF ?_
  (refine RD_callS rfl (hV _ _ _ (List.Mem.head _) hvY) rfl rfl ?_; rintro _ _ _ ⟨rfl, rfl, rfl⟩; refine ⟨okF, ?_⟩)
  repeat (first | (refine isR' ?_; refine whR ?_) | (refine isT' ?_; refine whT ?_) | (refine isN' ?_; refine whN ?_))
  (refine RD_callS rfl (hG _ _ hvY hvY hvY) rfl rfl ?_; rintro _ _ _ ⟨rfl, rfl, rfl⟩; refine ⟨okF, ?_⟩)
  repeat (first | (refine isR' ?_; refine whR ?_) | (refine isT' ?_; refine whT ?_) | (refine isN' ?_; refine whN ?_))
  (refine RD_alloc rfl rfl ?_; intro b10; refine ⟨okF, ?_⟩)
  repeat (first | (refine isR' ?_; refine whR ?_) | (refine isT' ?_; refine whT ?_) | (refine isN' ?_; refine whN ?_))
  (refine RD_callS rfl (Zero_z) rfl rfl ?_; rintro _ _ _ ⟨rfl, rfl, rfl⟩; refine ⟨okF, ?_⟩)
  repeat (first | (refine isR' ?_; refine whR ?_) | (refine isT' ?_; refine whT ?_) | (refine isN' ?_; refine whN ?_))
  refine TD_cutT (fun G M I => ∃ (b13 : Nat) (t : PE), t.v = ⟨3 * f.v.x, 3 * f.v.y⟩ ∧ G = [(3, .pointer (some ⟨b3, 0, none⟩)), (5, .pointer (some ⟨b5, 0, none⟩)), (7, .pointer (some ⟨b7, 0, none⟩)), (8, .bool false), (9, .int .i64 cd), (13, .pointer (some ⟨b13, 0, none⟩))] ∧ M = .blk b13 (eP t) 28 :: .blk b7 zRc 26 :: .blk b5 (eP p) 28 :: .blk b3 (eP c) 28 :: M0 ∧ I = isP t 242 :: isP p 240 :: isP f 240 :: isP c 240 :: I0) ?_ ?_
  · have e3 : (((3 : Int) : Rat)) = 3 := rfl
    ((repeat refine TD_seq ?_); refine TD_rest (.blk b4 (eP f) 28 :: M0) (isP p 240 :: isP f 240 :: isP c 240 :: I0) mixed ?_)
    refine ND_restPre (fuel := 7) (listed' := #[false, true, true, false, false, true, true, false, false, false, false]) [1, 2, 5, 6] [5, 4, 5, 4] subF incF (by kernel_rfl) (by kernel_rfl) rfl rfl ?_
    repeat (first | (refine isR' ?_; refine whR ?_) | (refine isT' ?_; refine whT ?_) | (refine isN' ?_; refine whN ?_))
    refine ND_restFork (fuel := 6) (i := 0) (j := 9) (by kernel_rfl) ?_ ?_
    · (refine RD_callS rfl (hR _ _) rfl rfl ?_; rintro _ _ _ ⟨rfl, e1, rfl, he1, rfl⟩; refine ⟨okF, ?_⟩)
      refine RD_nil ?_
      repeat (first | (refine isR' ?_; refine whR ?_) | (refine isT' ?_; refine whT ?_) | (refine isN' ?_; refine whN ?_))
      refine ND_restFork (fuel := 5) (i := 3) (j := 9) (by kernel_rfl) ?_ ?_
      · (refine RD_callS rfl (hMx e1 _ _ hvY hvY) rfl rfl ?_; rintro _ _ _ ⟨rfl, e2, rfl, he2, rfl⟩; refine ⟨okF, ?_⟩)
        refine RD_nil ?_
        repeat (first | (refine isR' ?_; refine whR ?_) | (refine isT' ?_; refine whT ?_) | (refine isN' ?_; refine whN ?_))
        refine ND_restFork (fuel := 4) (i := 4) (j := 9) (by kernel_rfl) ?_ ?_
        · (refine RD_callS rfl (hR _ _) rfl rfl ?_; rintro _ _ _ ⟨rfl, e4, rfl, he4, rfl⟩; refine ⟨okF, ?_⟩)
          refine RD_nil ?_
          repeat (first | (refine isR' ?_; refine whR ?_) | (refine isT' ?_; refine whT ?_) | (refine isN' ?_; refine whN ?_))
          refine ND_restFork (fuel := 3) (i := 7) (j := 9) (by kernel_rfl) ?_ ?_
          · (refine RD_callS rfl (hMy e4 _ _ hvY hvY) rfl rfl ?_; rintro _ _ _ ⟨rfl, e5, rfl, he5, rfl⟩; refine ⟨okF, ?_⟩)
            refine RD_nil ?_
            refine ND_restEnd [8, 9, 10] [1, 0, 0] subF incF (by kernel_rfl) (by kernel_rfl) rfl rfl ?_
            repeat (first | (refine isR' ?_; refine whR ?_) | (refine isT' ?_; refine whT ?_) | (refine isN' ?_; refine whN ?_))
            (refine RD_c rfl (fun _ => Const_structC (vals := [rv e2, rv e5]) (cells := eP ⟨e2, e5⟩) rfl ?hpl rfl ?hz) rfl rfl ?_; (case hpl => repeat (first | exact True.intro | refine ⟨rfl, ?_⟩)); (case hz => rfl))
            repeat (first | (refine isR' ?_; refine whR ?_) | (refine isT' ?_; refine whT ?_) | (refine isN' ?_; refine whN ?_))
            (refine RD_alloc rfl rfl ?_; intro b13; refine ⟨okF, ?_⟩)
            repeat (first | (refine isR' ?_; refine whR ?_) | (refine isT' ?_; refine whT ?_) | (refine isN' ?_; refine whN ?_))
            refine ND_closeP (a := e2) (b := e5) (k := 242) hvY hvY (ND_cut _ _ _ subG subF incF ⟨b13, ⟨e2, e5⟩, by simp only [PE.v, he2, he5, he1, he4, e3], rfl, rfl, rfl⟩)
          · (refine RD_alloc rfl rfl ?_; intro b13; refine ⟨okF, ?_⟩)
            refine RD_nil ?_
            refine ND_restEnd [7, 8, 10] [0, 0, 0] subF incF (by kernel_rfl) (by kernel_rfl) rfl rfl ?_
            repeat (first | (refine isR' ?_; refine whR ?_) | (refine isT' ?_; refine whT ?_) | (refine isN' ?_; refine whN ?_))
            (refine RD_callS rfl (hMy e4 _ _ hvY hvY) rfl rfl ?_; rintro _ _ _ ⟨rfl, e5, rfl, he5, rfl⟩; refine ⟨okF, ?_⟩)
            repeat (first | (refine isR' ?_; refine whR ?_) | (refine isT' ?_; refine whT ?_) | (refine isN' ?_; refine whN ?_))
            (refine RD_c rfl (fun _ => Const_structC (vals := [rv e2, rv e5]) (cells := eP ⟨e2, e5⟩) rfl ?hpl rfl ?hz) rfl rfl ?_; (case hpl => repeat (first | exact True.intro | refine ⟨rfl, ?_⟩)); (case hz => rfl))
            repeat (first | (refine isR' ?_; refine whR ?_) | (refine isT' ?_; refine whT ?_) | (refine isN' ?_; refine whN ?_))
            refine ND_closeP (a := e2) (b := e5) (k := 242) hvY hvY (ND_cut _ _ _ subG subF incF ⟨b13, ⟨e2, e5⟩, by simp only [PE.v, he2, he5, he1, he4, e3], rfl, rfl, rfl⟩)
        · (refine RD_alloc rfl rfl ?_; intro b13; refine ⟨okF, ?_⟩)
          refine RD_nil ?_
          refine ND_restEnd [4, 7, 8, 10] [0, 0, 0, 0] subF incF (by kernel_rfl) (by kernel_rfl) rfl rfl ?_
          repeat (first | (refine isR' ?_; refine whR ?_) | (refine isT' ?_; refine whT ?_) | (refine isN' ?_; refine whN ?_))
          (refine RD_callS rfl (hR _ _) rfl rfl ?_; rintro _ _ _ ⟨rfl, e4, rfl, he4, rfl⟩; refine ⟨okF, ?_⟩)
          repeat (first | (refine isR' ?_; refine whR ?_) | (refine isT' ?_; refine whT ?_) | (refine isN' ?_; refine whN ?_))
          (refine RD_callS rfl (hMy e4 _ _ hvY hvY) rfl rfl ?_; rintro _ _ _ ⟨rfl, e5, rfl, he5, rfl⟩; refine ⟨okF, ?_⟩)
          repeat (first | (refine isR' ?_; refine whR ?_) | (refine isT' ?_; refine whT ?_) | (refine isN' ?_; refine whN ?_))
          (refine RD_c rfl (fun _ => Const_structC (vals := [rv e2, rv e5]) (cells := eP ⟨e2, e5⟩) rfl ?hpl rfl ?hz) rfl rfl ?_; (case hpl => repeat (first | exact True.intro | refine ⟨rfl, ?_⟩)); (case hz => rfl))
          repeat (first | (refine isR' ?_; refine whR ?_) | (refine isT' ?_; refine whT ?_) | (refine isN' ?_; refine whN ?_))
          refine ND_closeP (a := e2) (b := e5) (k := 242) hvY hvY (ND_cut _ _ _ subG subF incF ⟨b13, ⟨e2, e5⟩, by simp only [PE.v, he2, he5, he1, he4, e3], rfl, rfl, rfl⟩)
      · (refine RD_alloc rfl rfl ?_; intro b13; refine ⟨okF, ?_⟩)
        refine RD_nil ?_
        refine ND_restEnd [3, 4, 7, 8, 10] [0, 0, 0, 0, 0] subF incF (by kernel_rfl) (by kernel_rfl) rfl rfl ?_
        repeat (first | (refine isR' ?_; refine whR ?_) | (refine isT' ?_; refine whT ?_) | (refine isN' ?_; refine whN ?_))
        (refine RD_callS rfl (hMx e1 _ _ hvY hvY) rfl rfl ?_; rintro _ _ _ ⟨rfl, e2, rfl, he2, rfl⟩; refine ⟨okF, ?_⟩)
        repeat (first | (refine isR' ?_; refine whR ?_) | (refine isT' ?_; refine whT ?_) | (refine isN' ?_; refine whN ?_))
        (refine RD_callS rfl (hR _ _) rfl rfl ?_; rintro _ _ _ ⟨rfl, e4, rfl, he4, rfl⟩; refine ⟨okF, ?_⟩)
        repeat (first | (refine isR' ?_; refine whR ?_) | (refine isT' ?_; refine whT ?_) | (refine isN' ?_; refine whN ?_))
        (refine RD_callS rfl (hMy e4 _ _ hvY hvY) rfl rfl ?_; rintro _ _ _ ⟨rfl, e5, rfl, he5, rfl⟩; refine ⟨okF, ?_⟩)
        repeat (first | (refine isR' ?_; refine whR ?_) | (refine isT' ?_; refine whT ?_) | (refine isN' ?_; refine whN ?_))
        (refine RD_c rfl (fun _ => Const_structC (vals := [rv e2, rv e5]) (cells := eP ⟨e2, e5⟩) rfl ?hpl rfl ?hz) rfl rfl ?_; (case hpl => repeat (first | exact True.intro | refine ⟨rfl, ?_⟩)); (case hz => rfl))
        repeat (first | (refine isR' ?_; refine whR ?_) | (refine isT' ?_; refine whT ?_) | (refine isN' ?_; refine whN ?_))
        refine ND_closeP (a := e2) (b := e5) (k := 242) hvY hvY (ND_cut _ _ _ subG subF incF ⟨b13, ⟨e2, e5⟩, by simp only [PE.v, he2, he5, he1, he4, e3], rfl, rfl, rfl⟩)
    · (refine RD_alloc rfl rfl ?_; intro b13; refine ⟨okF, ?_⟩)
      refine RD_nil ?_
      refine ND_restEnd [0, 3, 4, 7, 8, 10] [0, 0, 0, 0, 0, 0] subF incF (by kernel_rfl) (by kernel_rfl) rfl rfl ?_
      repeat (first | (refine isR' ?_; refine whR ?_) | (refine isT' ?_; refine whT ?_) | (refine isN' ?_; refine whN ?_))
      (refine RD_callS rfl (hR _ _) rfl rfl ?_; rintro _ _ _ ⟨rfl, e1, rfl, he1, rfl⟩; refine ⟨okF, ?_⟩)
      repeat (first | (refine isR' ?_; refine whR ?_) | (refine isT' ?_; refine whT ?_) | (refine isN' ?_; refine whN ?_))
      (refine RD_callS rfl (hMx e1 _ _ hvY hvY) rfl rfl ?_; rintro _ _ _ ⟨rfl, e2, rfl, he2, rfl⟩; refine ⟨okF, ?_⟩)
      repeat (first | (refine isR' ?_; refine whR ?_) | (refine isT' ?_; refine whT ?_) | (refine isN' ?_; refine whN ?_))
      (refine RD_callS rfl (hR _ _) rfl rfl ?_; rintro _ _ _ ⟨rfl, e4, rfl, he4, rfl⟩; refine ⟨okF, ?_⟩)
      repeat (first | (refine isR' ?_; refine whR ?_) | (refine isT' ?_; refine whT ?_) | (refine isN' ?_; refine whN ?_))
      (refine RD_callS rfl (hMy e4 _ _ hvY hvY) rfl rfl ?_; rintro _ _ _ ⟨rfl, e5, rfl, he5, rfl⟩; refine ⟨okF, ?_⟩)
      repeat (first | (refine isR' ?_; refine whR ?_) | (refine isT' ?_; refine whT ?_) | (refine isN' ?_; refine whN ?_))
      (refine RD_c rfl (fun _ => Const_structC (vals := [rv e2, rv e5]) (cells := eP ⟨e2, e5⟩) rfl ?hpl rfl ?hz) rfl rfl ?_; (case hpl => repeat (first | exact True.intro | refine ⟨rfl, ?_⟩)); (case hz => rfl))
      repeat (first | (refine isR' ?_; refine whR ?_) | (refine isT' ?_; refine whT ?_) | (refine isN' ?_; refine whN ?_))
      refine ND_closeP (a := e2) (b := e5) (k := 242) hvY hvY (ND_cut _ _ _ subG subF incF ⟨b13, ⟨e2, e5⟩, by simp only [PE.v, he2, he5, he1, he4, e3], rfl, rfl, rfl⟩)
  · rintro G M I ⟨b13, t, ht, rfl, rfl, rfl⟩
    repeat (first | (refine isR' ?_; refine whR ?_) | (refine isT' ?_; refine whT ?_) | (refine isN' ?_; refine whN ?_))
    (refine RD_callS rfl (hT t _ _ ht hvY hvY hvY) rfl rfl ?_; rintro _ _ _ ⟨rfl, rfl, rfl⟩; refine ⟨okF, ?_⟩)
    repeat (first | (refine isR' ?_; refine whR ?_) | (refine isT' ?_; refine whT ?_) | (refine isN' ?_; refine whN ?_))
    (refine RD_alloc rfl rfl ?_; intro b14; refine ⟨okF, ?_⟩)
    repeat (first | (refine isR' ?_; refine whR ?_) | (refine isT' ?_; refine whT ?_) | (refine isN' ?_; refine whN ?_))
    refine ND_ret1 (by first | exact .inl rfl | exact .inr rfl) rfl rfl _ _ subF incF (⟨rfl, rfl, rfl⟩)
set_option maxRecDepth 100000 in
set_option maxHeartbeats 4000000 in
theorem LSl_true {c f p : PE} {r : Rat} (hd : ∀ x ∈ [c.raw, f.raw, p.raw], x.dig ≤ 8) (hc : Hv I0 (isP c 240)) (hf : Hv I0 (isP f 240)) (hp : Hv I0 (isP p 240))
    (hS : ∀ M0 I0, Hv I0 (isP c 240) → Hv I0 (isP f 240) → Hv I0 (isP p 240) → CD Tryz.prog 17 [pv c, pv f, pv p] X w0 M0 I0 (fun v M I => M0 = M ∧ ∃ e : RE, v = .tuple #[rv e, .bool true, .int .i64 0] ∧ e.q = r ∧ I = isR e 2886 :: I0))
    (hG : ∀ M0 I0, Hv I0 (isP c 240) → Hv I0 (isP f 240) → Hv I0 (isP p 240) → CD Tryz.prog 20 [pv c, pv f, pv p] X w0 M0 I0 (fun v M I => M0 = M ∧ ∃ e : RE, v = .tuple #[rv e, .bool true, .int .i64 0] ∧ e.q = r ∧ I = isR e 2886 :: I0))
    (hT : ∀ (t : PE) M0 I0, t.v = ⟨3 * f.v.x, 3 * f.v.y⟩ → Hv I0 (isP c 242) → Hv I0 (isP t 242) → Hv I0 (isP p 242) → CD Tryz.prog 17 [pv c, pv t, pv p] X w0 M0 I0 (fun v M I => M0 = M ∧ ∃ e : RE, v = .tuple #[rv e, .bool true, .int .i64 0] ∧ e.q = r ∧ I = isR e 2910 :: I0)) :
    CD Tryz.prog 3 [pv c, pv f, pv p] X w0 M0 I0 (fun v M I => M0 = M ∧ I0 = I ∧ v = .bool true) := by
  have hSh := fun q M0 I0 (hr : c.raw.reach ∧ f.raw.reach ∧ p.raw.reach) h1 => gShort_ok (X := X) (w0 := w0) (M0 := M0) (I0 := I0) (q := q) (c := 3) (m := 3) (ps := [c.raw, f.raw, p.raw]) rfl (by simp) (all3 hr.1 hr.2.1 hr.2.2) h1
  rw [B_true hd] at hSh
  have sc : c.raw.small := PW.small_of (hd c.raw (by simp))
  have sf : f.raw.small := PW.small_of (hd f.raw (by simp))
  have sp : p.raw.small := PW.small_of (hd p.raw (by simp))
  have rr : ∀ q : PW, q.small → q.reach := fun q h => ⟨⟨by have := h.1.1; omega, by have := h.1.2; omega⟩, ⟨by have := h.2.1; omega, by have := h.2.2; omega⟩⟩
  have hV := fun q M0 I0 h1 => gValid_ok (X := X) (w0 := w0) (M0 := M0) (I0 := I0) (q := q) (c := 3) (m := 3) (ps := [c.raw, f.raw, p.raw]) rfl (by simp) (all3 sc sf sp) h1
  rw [B_true (show ∀ x ∈ [c.raw, f.raw, p.raw], x.good from all3 c.raw_good f.raw_good p.raw_good)] at hV
  have hR := fun M0 I0 => gRat_ok (X := X) (w0 := w0) (M0 := M0) (I0 := I0) (x := 3) (by decide) (k := 2) (by decide)
  have hMx := fun e M0 I0 => gMul_ok (X := X) (w0 := w0) (M0 := M0) (I0 := I0) (a := e) (b := f.x) (k := 2) (m := 240) (by decide)
  have hMy := fun e M0 I0 => gMul_ok (X := X) (w0 := w0) (M0 := M0) (I0 := I0) (a := e) (b := f.y) (k := 2) (m := 240) (by decide)
  refine CD_hv (Hv.pw3 (hc.toPW (by decide)) (hf.toPW (by decide)) (hp.toPW (by decide))) (CD_hv hc.cons (CD_hv hf.cons.cons (CD_hv hp.cons.cons.cons ?_)))
  refine enterD3 Tryz.func3 rfl Tryz.ntmps3 rfl ?_
  refine TD_seq ?_
  refine TD_region ?_
  (refine RD_boxA rfl rfl rfl ?_; intro b3; refine ⟨okF, ?_⟩)
  (refine RD_boxA rfl rfl rfl ?_; intro b4; refine ⟨okF, ?_⟩)
  (refine RD_boxA rfl rfl rfl ?_; intro b5; refine ⟨okF, ?_⟩)
  repeat (first | (refine isR' ?_; refine whR ?_) | (refine isT' ?_; refine whT ?_) | (refine isN' ?_; refine whN ?_))
  (refine RD_callS rfl (known30_ok) rfl rfl ?_; rintro _ _ _ ⟨rfl, rfl, rfl⟩; refine ⟨okF, ?_⟩)
  repeat (first | (refine isR' ?_; refine whR ?_) | (refine isT' ?_; refine whT ?_) | (refine isN' ?_; refine whN ?_))
  (refine RD_vals (cs := recs ePW [c.raw, f.raw, p.raw]) ([pv c, pv f, pv p]) rfl rfl (by intro v hv; repeat (first | exact absurd hv (List.not_mem_nil) | (rcases List.mem_cons.1 hv with rfl | hv; · rfl))) (by omega) rfl rfl rfl ?_; intro bs; refine ⟨okF, ?_⟩)
  refine RD_freezeB remF ?_
  (refine RD_callS rfl (hSh _ _ _ ⟨rr _ sc, rr _ sf, rr _ sp⟩ (List.Mem.head _)) rfl rfl ?_; rintro _ _ _ ⟨rfl, rfl, rfl⟩; refine ⟨okF, ?_⟩)
  repeat (first | (refine isR' ?_; refine whR ?_) | (refine isT' ?_; refine whT ?_) | (refine isN' ?_; refine whN ?_))
  (refine RD_callS rfl (hS _ _ hvY hvY hvY) rfl rfl ?_; rintro _ _ _ ⟨rfl, e7, rfl, he7, rfl⟩; refine ⟨okF, ?_⟩)
  repeat (first | (refine isR' ?_; refine whR ?_) | (refine isT' ?_; refine whT ?_) | (refine isN' ?_; refine whN ?_))
  (refine RD_alloc rfl rfl ?_; intro b7; refine ⟨okF, ?_⟩)
  repeat (first | (refine isR' ?_; refine whR ?_) | (refine isT' ?_; refine whT ?_) | (refine isN' ?_; refine whN ?_))
  (refine RD_vals (cs := recs ePW [c.raw, f.raw, p.raw]) ([pv c, pv f, pv p]) rfl rfl (by intro v hv; repeat (first | exact absurd hv (List.not_mem_nil) | (rcases List.mem_cons.1 hv with rfl | hv; · rfl))) (by omega) rfl rfl rfl ?_; intro bt; refine ⟨okF, ?_⟩)
  refine RD_freezeB (b := bt) remF ?_
  (refine RD_callS rfl (hV _ _ _ (List.Mem.head _) hvY) rfl rfl ?_; rintro _ _ _ ⟨rfl, rfl, rfl⟩; refine ⟨okF, ?_⟩)
  repeat (first | (refine isR' ?_; refine whR ?_) | (refine isT' ?_; refine whT ?_) | (refine isN' ?_; refine whN ?_))
  (refine RD_callS rfl (hG _ _ hvY hvY hvY) rfl rfl ?_; rintro _ _ _ ⟨rfl, e10, rfl, he10, rfl⟩; refine ⟨okF, ?_⟩)
  repeat (first | (refine isR' ?_; refine whR ?_) | (refine isT' ?_; refine whT ?_) | (refine isN' ?_; refine whN ?_))
  (refine RD_alloc rfl rfl ?_; intro b10; refine ⟨okF, ?_⟩)
  repeat (first | (refine isR' ?_; refine whR ?_) | (refine isT' ?_; refine whT ?_) | (refine isN' ?_; refine whN ?_))
  have hSa := fun M0 I0 => rSame_ok (X := X) (w0 := w0) (M0 := M0) (I0 := I0) (a := e7) (b := e10) (k := 2886) (m := 2886) (by decide)
  rw [B_true (he7.trans he10.symm)] at hSa
  (refine RD_callS rfl (hSa _ _ hvY hvY) rfl rfl ?_; rintro _ _ _ ⟨rfl, rfl, rfl⟩; refine ⟨okF, ?_⟩)
  repeat (first | (refine isR' ?_; refine whR ?_) | (refine isT' ?_; refine whT ?_) | (refine isN' ?_; refine whN ?_))
  refine TD_cutT (fun G M I => ∃ (b13 : Nat) (t : PE), t.v = ⟨3 * f.v.x, 3 * f.v.y⟩ ∧ G = [(3, .pointer (some ⟨b3, 0, none⟩)), (5, .pointer (some ⟨b5, 0, none⟩)), (7, .pointer (some ⟨b7, 0, none⟩)), (8, .bool true), (9, .int .i64 0), (13, .pointer (some ⟨b13, 0, none⟩))] ∧ M = .blk b13 (eP t) 28 :: .blk b7 (eR e7) 26 :: .blk b5 (eP p) 28 :: .blk b3 (eP c) 28 :: M0 ∧ I = isP t 242 :: isR e7 2886 :: isP p 240 :: isP f 240 :: isP c 240 :: I0) ?_ ?_
  · have e3 : (((3 : Int) : Rat)) = 3 := rfl
    ((repeat refine TD_seq ?_); refine TD_rest (.blk b4 (eP f) 28 :: M0) (isP p 240 :: isP f 240 :: isP c 240 :: I0) mixed ?_)
    refine ND_restPre (fuel := 7) (listed' := #[false, true, true, false, false, true, true, false, false, false, false]) [1, 2, 5, 6] [5, 4, 5, 4] subF incF (by kernel_rfl) (by kernel_rfl) rfl rfl ?_
    repeat (first | (refine isR' ?_; refine whR ?_) | (refine isT' ?_; refine whT ?_) | (refine isN' ?_; refine whN ?_))
    refine ND_restFork (fuel := 6) (i := 0) (j := 9) (by kernel_rfl) ?_ ?_
    · (refine RD_callS rfl (hR _ _) rfl rfl ?_; rintro _ _ _ ⟨rfl, e1, rfl, he1, rfl⟩; refine ⟨okF, ?_⟩)
      refine RD_nil ?_
      repeat (first | (refine isR' ?_; refine whR ?_) | (refine isT' ?_; refine whT ?_) | (refine isN' ?_; refine whN ?_))
      refine ND_restFork (fuel := 5) (i := 3) (j := 9) (by kernel_rfl) ?_ ?_
      · (refine RD_callS rfl (hMx e1 _ _ hvY hvY) rfl rfl ?_; rintro _ _ _ ⟨rfl, e2, rfl, he2, rfl⟩; refine ⟨okF, ?_⟩)
        refine RD_nil ?_
        repeat (first | (refine isR' ?_; refine whR ?_) | (refine isT' ?_; refine whT ?_) | (refine isN' ?_; refine whN ?_))
        refine ND_restFork (fuel := 4) (i := 4) (j := 9) (by kernel_rfl) ?_ ?_
        · (refine RD_callS rfl (hR _ _) rfl rfl ?_; rintro _ _ _ ⟨rfl, e4, rfl, he4, rfl⟩; refine ⟨okF, ?_⟩)
          refine RD_nil ?_
          repeat (first | (refine isR' ?_; refine whR ?_) | (refine isT' ?_; refine whT ?_) | (refine isN' ?_; refine whN ?_))
          refine ND_restFork (fuel := 3) (i := 7) (j := 9) (by kernel_rfl) ?_ ?_
          · (refine RD_callS rfl (hMy e4 _ _ hvY hvY) rfl rfl ?_; rintro _ _ _ ⟨rfl, e5, rfl, he5, rfl⟩; refine ⟨okF, ?_⟩)
            refine RD_nil ?_
            refine ND_restEnd [8, 9, 10] [1, 0, 0] subF incF (by kernel_rfl) (by kernel_rfl) rfl rfl ?_
            repeat (first | (refine isR' ?_; refine whR ?_) | (refine isT' ?_; refine whT ?_) | (refine isN' ?_; refine whN ?_))
            (refine RD_c rfl (fun _ => Const_structC (vals := [rv e2, rv e5]) (cells := eP ⟨e2, e5⟩) rfl ?hpl rfl ?hz) rfl rfl ?_; (case hpl => repeat (first | exact True.intro | refine ⟨rfl, ?_⟩)); (case hz => rfl))
            repeat (first | (refine isR' ?_; refine whR ?_) | (refine isT' ?_; refine whT ?_) | (refine isN' ?_; refine whN ?_))
            (refine RD_alloc rfl rfl ?_; intro b13; refine ⟨okF, ?_⟩)
            repeat (first | (refine isR' ?_; refine whR ?_) | (refine isT' ?_; refine whT ?_) | (refine isN' ?_; refine whN ?_))
            refine ND_closeP (a := e2) (b := e5) (k := 242) hvY hvY (ND_cut _ _ _ subG subF incF ⟨b13, ⟨e2, e5⟩, by simp only [PE.v, he2, he5, he1, he4, e3], rfl, rfl, rfl⟩)
          · (refine RD_alloc rfl rfl ?_; intro b13; refine ⟨okF, ?_⟩)
            refine RD_nil ?_
            refine ND_restEnd [7, 8, 10] [0, 0, 0] subF incF (by kernel_rfl) (by kernel_rfl) rfl rfl ?_
            repeat (first | (refine isR' ?_; refine whR ?_) | (refine isT' ?_; refine whT ?_) | (refine isN' ?_; refine whN ?_))
            (refine RD_callS rfl (hMy e4 _ _ hvY hvY) rfl rfl ?_; rintro _ _ _ ⟨rfl, e5, rfl, he5, rfl⟩; refine ⟨okF, ?_⟩)
            repeat (first | (refine isR' ?_; refine whR ?_) | (refine isT' ?_; refine whT ?_) | (refine isN' ?_; refine whN ?_))
            (refine RD_c rfl (fun _ => Const_structC (vals := [rv e2, rv e5]) (cells := eP ⟨e2, e5⟩) rfl ?hpl rfl ?hz) rfl rfl ?_; (case hpl => repeat (first | exact True.intro | refine ⟨rfl, ?_⟩)); (case hz => rfl))
            repeat (first | (refine isR' ?_; refine whR ?_) | (refine isT' ?_; refine whT ?_) | (refine isN' ?_; refine whN ?_))
            refine ND_closeP (a := e2) (b := e5) (k := 242) hvY hvY (ND_cut _ _ _ subG subF incF ⟨b13, ⟨e2, e5⟩, by simp only [PE.v, he2, he5, he1, he4, e3], rfl, rfl, rfl⟩)
        · (refine RD_alloc rfl rfl ?_; intro b13; refine ⟨okF, ?_⟩)
          refine RD_nil ?_
          refine ND_restEnd [4, 7, 8, 10] [0, 0, 0, 0] subF incF (by kernel_rfl) (by kernel_rfl) rfl rfl ?_
          repeat (first | (refine isR' ?_; refine whR ?_) | (refine isT' ?_; refine whT ?_) | (refine isN' ?_; refine whN ?_))
          (refine RD_callS rfl (hR _ _) rfl rfl ?_; rintro _ _ _ ⟨rfl, e4, rfl, he4, rfl⟩; refine ⟨okF, ?_⟩)
          repeat (first | (refine isR' ?_; refine whR ?_) | (refine isT' ?_; refine whT ?_) | (refine isN' ?_; refine whN ?_))
          (refine RD_callS rfl (hMy e4 _ _ hvY hvY) rfl rfl ?_; rintro _ _ _ ⟨rfl, e5, rfl, he5, rfl⟩; refine ⟨okF, ?_⟩)
          repeat (first | (refine isR' ?_; refine whR ?_) | (refine isT' ?_; refine whT ?_) | (refine isN' ?_; refine whN ?_))
          (refine RD_c rfl (fun _ => Const_structC (vals := [rv e2, rv e5]) (cells := eP ⟨e2, e5⟩) rfl ?hpl rfl ?hz) rfl rfl ?_; (case hpl => repeat (first | exact True.intro | refine ⟨rfl, ?_⟩)); (case hz => rfl))
          repeat (first | (refine isR' ?_; refine whR ?_) | (refine isT' ?_; refine whT ?_) | (refine isN' ?_; refine whN ?_))
          refine ND_closeP (a := e2) (b := e5) (k := 242) hvY hvY (ND_cut _ _ _ subG subF incF ⟨b13, ⟨e2, e5⟩, by simp only [PE.v, he2, he5, he1, he4, e3], rfl, rfl, rfl⟩)
      · (refine RD_alloc rfl rfl ?_; intro b13; refine ⟨okF, ?_⟩)
        refine RD_nil ?_
        refine ND_restEnd [3, 4, 7, 8, 10] [0, 0, 0, 0, 0] subF incF (by kernel_rfl) (by kernel_rfl) rfl rfl ?_
        repeat (first | (refine isR' ?_; refine whR ?_) | (refine isT' ?_; refine whT ?_) | (refine isN' ?_; refine whN ?_))
        (refine RD_callS rfl (hMx e1 _ _ hvY hvY) rfl rfl ?_; rintro _ _ _ ⟨rfl, e2, rfl, he2, rfl⟩; refine ⟨okF, ?_⟩)
        repeat (first | (refine isR' ?_; refine whR ?_) | (refine isT' ?_; refine whT ?_) | (refine isN' ?_; refine whN ?_))
        (refine RD_callS rfl (hR _ _) rfl rfl ?_; rintro _ _ _ ⟨rfl, e4, rfl, he4, rfl⟩; refine ⟨okF, ?_⟩)
        repeat (first | (refine isR' ?_; refine whR ?_) | (refine isT' ?_; refine whT ?_) | (refine isN' ?_; refine whN ?_))
        (refine RD_callS rfl (hMy e4 _ _ hvY hvY) rfl rfl ?_; rintro _ _ _ ⟨rfl, e5, rfl, he5, rfl⟩; refine ⟨okF, ?_⟩)
        repeat (first | (refine isR' ?_; refine whR ?_) | (refine isT' ?_; refine whT ?_) | (refine isN' ?_; refine whN ?_))
        (refine RD_c rfl (fun _ => Const_structC (vals := [rv e2, rv e5]) (cells := eP ⟨e2, e5⟩) rfl ?hpl rfl ?hz) rfl rfl ?_; (case hpl => repeat (first | exact True.intro | refine ⟨rfl, ?_⟩)); (case hz => rfl))
        repeat (first | (refine isR' ?_; refine whR ?_) | (refine isT' ?_; refine whT ?_) | (refine isN' ?_; refine whN ?_))
        refine ND_closeP (a := e2) (b := e5) (k := 242) hvY hvY (ND_cut _ _ _ subG subF incF ⟨b13, ⟨e2, e5⟩, by simp only [PE.v, he2, he5, he1, he4, e3], rfl, rfl, rfl⟩)
    · (refine RD_alloc rfl rfl ?_; intro b13; refine ⟨okF, ?_⟩)
      refine RD_nil ?_
      refine ND_restEnd [0, 3, 4, 7, 8, 10] [0, 0, 0, 0, 0, 0] subF incF (by kernel_rfl) (by kernel_rfl) rfl rfl ?_
      repeat (first | (refine isR' ?_; refine whR ?_) | (refine isT' ?_; refine whT ?_) | (refine isN' ?_; refine whN ?_))
      (refine RD_callS rfl (hR _ _) rfl rfl ?_; rintro _ _ _ ⟨rfl, e1, rfl, he1, rfl⟩; refine ⟨okF, ?_⟩)
      repeat (first | (refine isR' ?_; refine whR ?_) | (refine isT' ?_; refine whT ?_) | (refine isN' ?_; refine whN ?_))
      (refine RD_callS rfl (hMx e1 _ _ hvY hvY) rfl rfl ?_; rintro _ _ _ ⟨rfl, e2, rfl, he2, rfl⟩; refine ⟨okF, ?_⟩)
      repeat (first | (refine isR' ?_; refine whR ?_) | (refine isT' ?_; refine whT ?_) | (refine isN' ?_; refine whN ?_))
      (refine RD_callS rfl (hR _ _) rfl rfl ?_; rintro _ _ _ ⟨rfl, e4, rfl, he4, rfl⟩; refine ⟨okF, ?_⟩)
      repeat (first | (refine isR' ?_; refine whR ?_) | (refine isT' ?_; refine whT ?_) | (refine isN' ?_; refine whN ?_))
      (refine RD_callS rfl (hMy e4 _ _ hvY hvY) rfl rfl ?_; rintro _ _ _ ⟨rfl, e5, rfl, he5, rfl⟩; refine ⟨okF, ?_⟩)
      repeat (first | (refine isR' ?_; refine whR ?_) | (refine isT' ?_; refine whT ?_) | (refine isN' ?_; refine whN ?_))
      (refine RD_c rfl (fun _ => Const_structC (vals := [rv e2, rv e5]) (cells := eP ⟨e2, e5⟩) rfl ?hpl rfl ?hz) rfl rfl ?_; (case hpl => repeat (first | exact True.intro | refine ⟨rfl, ?_⟩)); (case hz => rfl))
      repeat (first | (refine isR' ?_; refine whR ?_) | (refine isT' ?_; refine whT ?_) | (refine isN' ?_; refine whN ?_))
      refine ND_closeP (a := e2) (b := e5) (k := 242) hvY hvY (ND_cut _ _ _ subG subF incF ⟨b13, ⟨e2, e5⟩, by simp only [PE.v, he2, he5, he1, he4, e3], rfl, rfl, rfl⟩)
  · rintro G M I ⟨b13, t, ht, rfl, rfl, rfl⟩
    repeat (first | (refine isR' ?_; refine whR ?_) | (refine isT' ?_; refine whT ?_) | (refine isN' ?_; refine whN ?_))
    (refine RD_callS rfl (hT t _ _ ht hvY hvY hvY) rfl rfl ?_; rintro _ _ _ ⟨rfl, e14, rfl, he14, rfl⟩; refine ⟨okF, ?_⟩)
    repeat (first | (refine isR' ?_; refine whR ?_) | (refine isT' ?_; refine whT ?_) | (refine isN' ?_; refine whN ?_))
    (refine RD_alloc rfl rfl ?_; intro b14; refine ⟨okF, ?_⟩)
    repeat (first | (refine isR' ?_; refine whR ?_) | (refine isT' ?_; refine whT ?_) | (refine isN' ?_; refine whN ?_))
    have hSb := fun M0 I0 => rSame_ok (X := X) (w0 := w0) (M0 := M0) (I0 := I0) (a := e14) (b := e7) (k := 2910) (m := 2886) (by decide)
    rw [B_true (he14.trans he7.symm)] at hSb
    (refine RD_callS rfl (hSb _ _ hvY hvY) rfl rfl ?_; rintro _ _ _ ⟨rfl, rfl, rfl⟩; refine ⟨okF, ?_⟩)
    repeat (first | (refine isR' ?_; refine whR ?_) | (refine isT' ?_; refine whT ?_) | (refine isN' ?_; refine whN ?_))
    refine ND_ret1 (by first | exact .inl rfl | exact .inr rfl) rfl rfl _ _ subF incF (⟨rfl, rfl, rfl⟩)
set_option maxRecDepth 100000 in
set_option maxHeartbeats 4000000 in
theorem LSl_false {c f p : PE} {r : Rat} (hd : ∀ x ∈ [c.raw, f.raw, p.raw], x.dig ≤ 8) (hc : Hv I0 (isP c 240)) (hf : Hv I0 (isP f 240)) (hp : Hv I0 (isP p 240))
    (hS : ∀ M0 I0, Hv I0 (isP c 240) → Hv I0 (isP f 240) → Hv I0 (isP p 240) → CD Tryz.prog 17 [pv c, pv f, pv p] X w0 M0 I0 (fun v M I => M0 = M ∧ ∃ e : RE, v = .tuple #[rv e, .bool false, .int .i64 0] ∧ e.q = r ∧ I = isR e 2886 :: I0))
    (hG : ∀ M0 I0, Hv I0 (isP c 240) → Hv I0 (isP f 240) → Hv I0 (isP p 240) → CD Tryz.prog 20 [pv c, pv f, pv p] X w0 M0 I0 (fun v M I => M0 = M ∧ ∃ e : RE, v = .tuple #[rv e, .bool false, .int .i64 0] ∧ e.q = r ∧ I = isR e 2886 :: I0))
    (hT : ∀ (t : PE) M0 I0, t.v = ⟨3 * f.v.x, 3 * f.v.y⟩ → Hv I0 (isP c 242) → Hv I0 (isP t 242) → Hv I0 (isP p 242) → CD Tryz.prog 17 [pv c, pv t, pv p] X w0 M0 I0 (fun v M I => M0 = M ∧ ∃ e : RE, v = .tuple #[rv e, .bool false, .int .i64 0] ∧ e.q = r ∧ I = isR e 2910 :: I0)) :
    CD Tryz.prog 3 [pv c, pv f, pv p] X w0 M0 I0 (fun v M I => M0 = M ∧ I0 = I ∧ v = .bool true) := by
  have hSh := fun q M0 I0 (hr : c.raw.reach ∧ f.raw.reach ∧ p.raw.reach) h1 => gShort_ok (X := X) (w0 := w0) (M0 := M0) (I0 := I0) (q := q) (c := 3) (m := 3) (ps := [c.raw, f.raw, p.raw]) rfl (by simp) (all3 hr.1 hr.2.1 hr.2.2) h1
  rw [B_true hd] at hSh
  have sc : c.raw.small := PW.small_of (hd c.raw (by simp))
  have sf : f.raw.small := PW.small_of (hd f.raw (by simp))
  have sp : p.raw.small := PW.small_of (hd p.raw (by simp))
  have rr : ∀ q : PW, q.small → q.reach := fun q h => ⟨⟨by have := h.1.1; omega, by have := h.1.2; omega⟩, ⟨by have := h.2.1; omega, by have := h.2.2; omega⟩⟩
  have hV := fun q M0 I0 h1 => gValid_ok (X := X) (w0 := w0) (M0 := M0) (I0 := I0) (q := q) (c := 3) (m := 3) (ps := [c.raw, f.raw, p.raw]) rfl (by simp) (all3 sc sf sp) h1
  rw [B_true (show ∀ x ∈ [c.raw, f.raw, p.raw], x.good from all3 c.raw_good f.raw_good p.raw_good)] at hV
  have hR := fun M0 I0 => gRat_ok (X := X) (w0 := w0) (M0 := M0) (I0 := I0) (x := 3) (by decide) (k := 2) (by decide)
  have hMx := fun e M0 I0 => gMul_ok (X := X) (w0 := w0) (M0 := M0) (I0 := I0) (a := e) (b := f.x) (k := 2) (m := 240) (by decide)
  have hMy := fun e M0 I0 => gMul_ok (X := X) (w0 := w0) (M0 := M0) (I0 := I0) (a := e) (b := f.y) (k := 2) (m := 240) (by decide)
  refine CD_hv (Hv.pw3 (hc.toPW (by decide)) (hf.toPW (by decide)) (hp.toPW (by decide))) (CD_hv hc.cons (CD_hv hf.cons.cons (CD_hv hp.cons.cons.cons ?_)))
  refine enterD3 Tryz.func3 rfl Tryz.ntmps3 rfl ?_
  refine TD_seq ?_
  refine TD_region ?_
  (refine RD_boxA rfl rfl rfl ?_; intro b3; refine ⟨okF, ?_⟩)
  (refine RD_boxA rfl rfl rfl ?_; intro b4; refine ⟨okF, ?_⟩)
  (refine RD_boxA rfl rfl rfl ?_; intro b5; refine ⟨okF, ?_⟩)
  repeat (first | (refine isR' ?_; refine whR ?_) | (refine isT' ?_; refine whT ?_) | (refine isN' ?_; refine whN ?_))
  (refine RD_callS rfl (known30_ok) rfl rfl ?_; rintro _ _ _ ⟨rfl, rfl, rfl⟩; refine ⟨okF, ?_⟩)
  repeat (first | (refine isR' ?_; refine whR ?_) | (refine isT' ?_; refine whT ?_) | (refine isN' ?_; refine whN ?_))
  (refine RD_vals (cs := recs ePW [c.raw, f.raw, p.raw]) ([pv c, pv f, pv p]) rfl rfl (by intro v hv; repeat (first | exact absurd hv (List.not_mem_nil) | (rcases List.mem_cons.1 hv with rfl | hv; · rfl))) (by omega) rfl rfl rfl ?_; intro bs; refine ⟨okF, ?_⟩)
  refine RD_freezeB remF ?_
  (refine RD_callS rfl (hSh _ _ _ ⟨rr _ sc, rr _ sf, rr _ sp⟩ (List.Mem.head _)) rfl rfl ?_; rintro _ _ _ ⟨rfl, rfl, rfl⟩; refine ⟨okF, ?_⟩)
  repeat (first | (refine isR' ?_; refine whR ?_) | (refine isT' ?_; refine whT ?_) | (refine isN' ?_; refine whN ?_))
  (refine RD_callS rfl (hS _ _ hvY hvY hvY) rfl rfl ?_; rintro _ _ _ ⟨rfl, e7, rfl, he7, rfl⟩; refine ⟨okF, ?_⟩)
  repeat (first | (refine isR' ?_; refine whR ?_) | (refine isT' ?_; refine whT ?_) | (refine isN' ?_; refine whN ?_))
  (refine RD_alloc rfl rfl ?_; intro b7; refine ⟨okF, ?_⟩)
  repeat (first | (refine isR' ?_; refine whR ?_) | (refine isT' ?_; refine whT ?_) | (refine isN' ?_; refine whN ?_))
  (refine RD_vals (cs := recs ePW [c.raw, f.raw, p.raw]) ([pv c, pv f, pv p]) rfl rfl (by intro v hv; repeat (first | exact absurd hv (List.not_mem_nil) | (rcases List.mem_cons.1 hv with rfl | hv; · rfl))) (by omega) rfl rfl rfl ?_; intro bt; refine ⟨okF, ?_⟩)
  refine RD_freezeB (b := bt) remF ?_
  (refine RD_callS rfl (hV _ _ _ (List.Mem.head _) hvY) rfl rfl ?_; rintro _ _ _ ⟨rfl, rfl, rfl⟩; refine ⟨okF, ?_⟩)
  repeat (first | (refine isR' ?_; refine whR ?_) | (refine isT' ?_; refine whT ?_) | (refine isN' ?_; refine whN ?_))
  (refine RD_callS rfl (hG _ _ hvY hvY hvY) rfl rfl ?_; rintro _ _ _ ⟨rfl, e10, rfl, he10, rfl⟩; refine ⟨okF, ?_⟩)
  repeat (first | (refine isR' ?_; refine whR ?_) | (refine isT' ?_; refine whT ?_) | (refine isN' ?_; refine whN ?_))
  (refine RD_alloc rfl rfl ?_; intro b10; refine ⟨okF, ?_⟩)
  repeat (first | (refine isR' ?_; refine whR ?_) | (refine isT' ?_; refine whT ?_) | (refine isN' ?_; refine whN ?_))
  have hSa := fun M0 I0 => rSame_ok (X := X) (w0 := w0) (M0 := M0) (I0 := I0) (a := e7) (b := e10) (k := 2886) (m := 2886) (by decide)
  rw [B_true (he7.trans he10.symm)] at hSa
  (refine RD_callS rfl (hSa _ _ hvY hvY) rfl rfl ?_; rintro _ _ _ ⟨rfl, rfl, rfl⟩; refine ⟨okF, ?_⟩)
  repeat (first | (refine isR' ?_; refine whR ?_) | (refine isT' ?_; refine whT ?_) | (refine isN' ?_; refine whN ?_))
  refine TD_cutT (fun G M I => ∃ (b13 : Nat) (t : PE), t.v = ⟨3 * f.v.x, 3 * f.v.y⟩ ∧ G = [(3, .pointer (some ⟨b3, 0, none⟩)), (5, .pointer (some ⟨b5, 0, none⟩)), (7, .pointer (some ⟨b7, 0, none⟩)), (8, .bool false), (9, .int .i64 0), (13, .pointer (some ⟨b13, 0, none⟩))] ∧ M = .blk b13 (eP t) 28 :: .blk b7 (eR e7) 26 :: .blk b5 (eP p) 28 :: .blk b3 (eP c) 28 :: M0 ∧ I = isP t 242 :: isR e7 2886 :: isP p 240 :: isP f 240 :: isP c 240 :: I0) ?_ ?_
  · have e3 : (((3 : Int) : Rat)) = 3 := rfl
    ((repeat refine TD_seq ?_); refine TD_rest (.blk b4 (eP f) 28 :: M0) (isP p 240 :: isP f 240 :: isP c 240 :: I0) mixed ?_)
    refine ND_restPre (fuel := 7) (listed' := #[false, true, true, false, false, true, true, false, false, false, false]) [1, 2, 5, 6] [5, 4, 5, 4] subF incF (by kernel_rfl) (by kernel_rfl) rfl rfl ?_
    repeat (first | (refine isR' ?_; refine whR ?_) | (refine isT' ?_; refine whT ?_) | (refine isN' ?_; refine whN ?_))
    refine ND_restFork (fuel := 6) (i := 0) (j := 9) (by kernel_rfl) ?_ ?_
    · (refine RD_callS rfl (hR _ _) rfl rfl ?_; rintro _ _ _ ⟨rfl, e1, rfl, he1, rfl⟩; refine ⟨okF, ?_⟩)
      refine RD_nil ?_
      repeat (first | (refine isR' ?_; refine whR ?_) | (refine isT' ?_; refine whT ?_) | (refine isN' ?_; refine whN ?_))
      refine ND_restFork (fuel := 5) (i := 3) (j := 9) (by kernel_rfl) ?_ ?_
      · (refine RD_callS rfl (hMx e1 _ _ hvY hvY) rfl rfl ?_; rintro _ _ _ ⟨rfl, e2, rfl, he2, rfl⟩; refine ⟨okF, ?_⟩)
        refine RD_nil ?_
        repeat (first | (refine isR' ?_; refine whR ?_) | (refine isT' ?_; refine whT ?_) | (refine isN' ?_; refine whN ?_))
        refine ND_restFork (fuel := 4) (i := 4) (j := 9) (by kernel_rfl) ?_ ?_
        · (refine RD_callS rfl (hR _ _) rfl rfl ?_; rintro _ _ _ ⟨rfl, e4, rfl, he4, rfl⟩; refine ⟨okF, ?_⟩)
          refine RD_nil ?_
          repeat (first | (refine isR' ?_; refine whR ?_) | (refine isT' ?_; refine whT ?_) | (refine isN' ?_; refine whN ?_))
          refine ND_restFork (fuel := 3) (i := 7) (j := 9) (by kernel_rfl) ?_ ?_
          · (refine RD_callS rfl (hMy e4 _ _ hvY hvY) rfl rfl ?_; rintro _ _ _ ⟨rfl, e5, rfl, he5, rfl⟩; refine ⟨okF, ?_⟩)
            refine RD_nil ?_
            refine ND_restEnd [8, 9, 10] [1, 0, 0] subF incF (by kernel_rfl) (by kernel_rfl) rfl rfl ?_
            repeat (first | (refine isR' ?_; refine whR ?_) | (refine isT' ?_; refine whT ?_) | (refine isN' ?_; refine whN ?_))
            (refine RD_c rfl (fun _ => Const_structC (vals := [rv e2, rv e5]) (cells := eP ⟨e2, e5⟩) rfl ?hpl rfl ?hz) rfl rfl ?_; (case hpl => repeat (first | exact True.intro | refine ⟨rfl, ?_⟩)); (case hz => rfl))
            repeat (first | (refine isR' ?_; refine whR ?_) | (refine isT' ?_; refine whT ?_) | (refine isN' ?_; refine whN ?_))
            (refine RD_alloc rfl rfl ?_; intro b13; refine ⟨okF, ?_⟩)
            repeat (first | (refine isR' ?_; refine whR ?_) | (refine isT' ?_; refine whT ?_) | (refine isN' ?_; refine whN ?_))
            refine ND_closeP (a := e2) (b := e5) (k := 242) hvY hvY (ND_cut _ _ _ subG subF incF ⟨b13, ⟨e2, e5⟩, by simp only [PE.v, he2, he5, he1, he4, e3], rfl, rfl, rfl⟩)
          · (refine RD_alloc rfl rfl ?_; intro b13; refine ⟨okF, ?_⟩)
            refine RD_nil ?_
            refine ND_restEnd [7, 8, 10] [0, 0, 0] subF incF (by kernel_rfl) (by kernel_rfl) rfl rfl ?_
            repeat (first | (refine isR' ?_; refine whR ?_) | (refine isT' ?_; refine whT ?_) | (refine isN' ?_; refine whN ?_))
            (refine RD_callS rfl (hMy e4 _ _ hvY hvY) rfl rfl ?_; rintro _ _ _ ⟨rfl, e5, rfl, he5, rfl⟩; refine ⟨okF, ?_⟩)
            repeat (first | (refine isR' ?_; refine whR ?_) | (refine isT' ?_; refine whT ?_) | (refine isN' ?_; refine whN ?_))
            (refine RD_c rfl (fun _ => Const_structC (vals := [rv e2, rv e5]) (cells := eP ⟨e2, e5⟩) rfl ?hpl rfl ?hz) rfl rfl ?_; (case hpl => repeat (first | exact True.intro | refine ⟨rfl, ?_⟩)); (case hz => rfl))
            repeat (first | (refine isR' ?_; refine whR ?_) | (refine isT' ?_; refine whT ?_) | (refine isN' ?_; refine whN ?_))
            refine ND_closeP (a := e2) (b := e5) (k := 242) hvY hvY (ND_cut _ _ _ subG subF incF ⟨b13, ⟨e2, e5⟩, by simp only [PE.v, he2, he5, he1, he4, e3], rfl, rfl, rfl⟩)
        · (refine RD_alloc rfl rfl ?_; intro b13; refine ⟨okF, ?_⟩)
          refine RD_nil ?_
          refine ND_restEnd [4, 7, 8, 10] [0, 0, 0, 0] subF incF (by kernel_rfl) (by kernel_rfl) rfl rfl ?_
          repeat (first | (refine isR' ?_; refine whR ?_) | (refine isT' ?_; refine whT ?_) | (refine isN' ?_; refine whN ?_))
          (refine RD_callS rfl (hR _ _) rfl rfl ?_; rintro _ _ _ ⟨rfl, e4, rfl, he4, rfl⟩; refine ⟨okF, ?_⟩)
          repeat (first | (refine isR' ?_; refine whR ?_) | (refine isT' ?_; refine whT ?_) | (refine isN' ?_; refine whN ?_))
          (refine RD_callS rfl (hMy e4 _ _ hvY hvY) rfl rfl ?_; rintro _ _ _ ⟨rfl, e5, rfl, he5, rfl⟩; refine ⟨okF, ?_⟩)
          repeat (first | (refine isR' ?_; refine whR ?_) | (refine isT' ?_; refine whT ?_) | (refine isN' ?_; refine whN ?_))
          (refine RD_c rfl (fun _ => Const_structC (vals := [rv e2, rv e5]) (cells := eP ⟨e2, e5⟩) rfl ?hpl rfl ?hz) rfl rfl ?_; (case hpl => repeat (first | exact True.intro | refine ⟨rfl, ?_⟩)); (case hz => rfl))
          repeat (first | (refine isR' ?_; refine whR ?_) | (refine isT' ?_; refine whT ?_) | (refine isN' ?_; refine whN ?_))
          refine ND_closeP (a := e2) (b := e5) (k := 242) hvY hvY (ND_cut _ _ _ subG subF incF ⟨b13, ⟨e2, e5⟩, by simp only [PE.v, he2, he5, he1, he4, e3], rfl, rfl, rfl⟩)
      · (refine RD_alloc rfl rfl ?_; intro b13; refine ⟨okF, ?_⟩)
        refine RD_nil ?_
        refine ND_restEnd [3, 4, 7, 8, 10] [0, 0, 0, 0, 0] subF incF (by kernel_rfl) (by kernel_rfl) rfl rfl ?_
        repeat (first | (refine isR' ?_; refine whR ?_) | (refine isT' ?_; refine whT ?_) | (refine isN' ?_; refine whN ?_))
        (refine RD_callS rfl (hMx e1 _ _ hvY hvY) rfl rfl ?_; rintro _ _ _ ⟨rfl, e2, rfl, he2, rfl⟩; refine ⟨okF, ?_⟩)
        repeat (first | (refine isR' ?_; refine whR ?_) | (refine isT' ?_; refine whT ?_) | (refine isN' ?_; refine whN ?_))
        (refine RD_callS rfl (hR _ _) rfl rfl ?_; rintro _ _ _ ⟨rfl, e4, rfl, he4, rfl⟩; refine ⟨okF, ?_⟩)
        repeat (first | (refine isR' ?_; refine whR ?_) | (refine isT' ?_; refine whT ?_) | (refine isN' ?_; refine whN ?_))
        (refine RD_callS rfl (hMy e4 _ _ hvY hvY) rfl rfl ?_; rintro _ _ _ ⟨rfl, e5, rfl, he5, rfl⟩; refine ⟨okF, ?_⟩)
        repeat (first | (refine isR' ?_; refine whR ?_) | (refine isT' ?_; refine whT ?_) | (refine isN' ?_; refine whN ?_))
        (refine RD_c rfl (fun _ => Const_structC (vals := [rv e2, rv e5]) (cells := eP ⟨e2, e5⟩) rfl ?hpl rfl ?hz) rfl rfl ?_; (case hpl => repeat (first | exact True.intro | refine ⟨rfl, ?_⟩)); (case hz => rfl))
        repeat (first | (refine isR' ?_; refine whR ?_) | (refine isT' ?_; refine whT ?_) | (refine isN' ?_; refine whN ?_))
        refine ND_closeP (a := e2) (b := e5) (k := 242) hvY hvY (ND_cut _ _ _ subG subF incF ⟨b13, ⟨e2, e5⟩, by simp only [PE.v, he2, he5, he1, he4, e3], rfl, rfl, rfl⟩)
    · (refine RD_alloc rfl rfl ?_; intro b13; refine ⟨okF, ?_⟩)
      refine RD_nil ?_
      refine ND_restEnd [0, 3, 4, 7, 8, 10] [0, 0, 0, 0, 0, 0] subF incF (by kernel_rfl) (by kernel_rfl) rfl rfl ?_
      repeat (first | (refine isR' ?_; refine whR ?_) | (refine isT' ?_; refine whT ?_) | (refine isN' ?_; refine whN ?_))
      (refine RD_callS rfl (hR _ _) rfl rfl ?_; rintro _ _ _ ⟨rfl, e1, rfl, he1, rfl⟩; refine ⟨okF, ?_⟩)
      repeat (first | (refine isR' ?_; refine whR ?_) | (refine isT' ?_; refine whT ?_) | (refine isN' ?_; refine whN ?_))
      (refine RD_callS rfl (hMx e1 _ _ hvY hvY) rfl rfl ?_; rintro _ _ _ ⟨rfl, e2, rfl, he2, rfl⟩; refine ⟨okF, ?_⟩)
      repeat (first | (refine isR' ?_; refine whR ?_) | (refine isT' ?_; refine whT ?_) | (refine isN' ?_; refine whN ?_))
      (refine RD_callS rfl (hR _ _) rfl rfl ?_; rintro _ _ _ ⟨rfl, e4, rfl, he4, rfl⟩; refine ⟨okF, ?_⟩)
      repeat (first | (refine isR' ?_; refine whR ?_) | (refine isT' ?_; refine whT ?_) | (refine isN' ?_; refine whN ?_))
      (refine RD_callS rfl (hMy e4 _ _ hvY hvY) rfl rfl ?_; rintro _ _ _ ⟨rfl, e5, rfl, he5, rfl⟩; refine ⟨okF, ?_⟩)
      repeat (first | (refine isR' ?_; refine whR ?_) | (refine isT' ?_; refine whT ?_) | (refine isN' ?_; refine whN ?_))
      (refine RD_c rfl (fun _ => Const_structC (vals := [rv e2, rv e5]) (cells := eP ⟨e2, e5⟩) rfl ?hpl rfl ?hz) rfl rfl ?_; (case hpl => repeat (first | exact True.intro | refine ⟨rfl, ?_⟩)); (case hz => rfl))
      repeat (first | (refine isR' ?_; refine whR ?_) | (refine isT' ?_; refine whT ?_) | (refine isN' ?_; refine whN ?_))
      refine ND_closeP (a := e2) (b := e5) (k := 242) hvY hvY (ND_cut _ _ _ subG subF incF ⟨b13, ⟨e2, e5⟩, by simp only [PE.v, he2, he5, he1, he4, e3], rfl, rfl, rfl⟩)
  · rintro G M I ⟨b13, t, ht, rfl, rfl, rfl⟩
    repeat (first | (refine isR' ?_; refine whR ?_) | (refine isT' ?_; refine whT ?_) | (refine isN' ?_; refine whN ?_))
    (refine RD_callS rfl (hT t _ _ ht hvY hvY hvY) rfl rfl ?_; rintro _ _ _ ⟨rfl, e14, rfl, he14, rfl⟩; refine ⟨okF, ?_⟩)
    repeat (first | (refine isR' ?_; refine whR ?_) | (refine isT' ?_; refine whT ?_) | (refine isN' ?_; refine whN ?_))
    (refine RD_alloc rfl rfl ?_; intro b14; refine ⟨okF, ?_⟩)
    repeat (first | (refine isR' ?_; refine whR ?_) | (refine isT' ?_; refine whT ?_) | (refine isN' ?_; refine whN ?_))
    have hSb := fun M0 I0 => rSame_ok (X := X) (w0 := w0) (M0 := M0) (I0 := I0) (a := e14) (b := e7) (k := 2910) (m := 2886) (by decide)
    rw [B_true (he14.trans he7.symm)] at hSb
    (refine RD_callS rfl (hSb _ _ hvY hvY) rfl rfl ?_; rintro _ _ _ ⟨rfl, rfl, rfl⟩; refine ⟨okF, ?_⟩)
    repeat (first | (refine isR' ?_; refine whR ?_) | (refine isT' ?_; refine whT ?_) | (refine isN' ?_; refine whN ?_))
    refine ND_ret1 (by first | exact .inl rfl | exact .inr rfl) rfl rfl _ _ subF incF (⟨rfl, rfl, rfl⟩)
end
end Go.Proofs.YteghpnkhlfkigaaGreat

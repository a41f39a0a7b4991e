/- Chapter 29's law: shape. Chapter 29's law: normal. matrix: zero, symmetric. Symmetric elimination, plain: pivots and leading determinants; the quadratic form as a sum of squares; witnesses. The document's SameList, SameMatrix, Symmetric, Nonzero, Form, Leading, Definite. The law ConsensusLists: Refit of the program; valid at every matrix; the law walked. The law ConsensusLists, walked. -/
import Derived.Test.YtjbhdfpjnjedhaaGreatZpbn
import Derived.Test.YtjbhdfpjnjedhaaGreatZpbj
import Derived.Test.YtjbhdfpjnjedhaaGreatZpan
import Derived.Test.YtjbhdfpjnjedhaaGreatZpbe
import Derived.Test.YtjbhdfpjnjedhaaGreatZpbb
import Derived.Test.YtjbhdfpjnjedhaaGreatZpbg
set_option linter.unusedSimpArgs false
set_option linter.unusedVariables false
set_option maxRecDepth 100000
set_option maxHeartbeats 4000000
namespace Go.Proofs.YtjbhdfpjnjedhaaGreat
open Go Go.Fx
theorem Hv.threeL {I : List aY} {a b c : RL} {k : Nat} (h1 : iZ a k ∈ I) (h2 : iZ b k ∈ I) (h3 : iZ c k ∈ I) : Hv I (jW [a, b, c] k) := ⟨fun X w hw => ⟨fun x hx => by
 simp only [List.mem_cons, List.not_mem_nil, or_false] at hx
 rcases hx with rfl | rfl | rfl
 ·exact hw _ h1
 ·exact hw _ h2
 ·exact hw _ h3⟩⟩
section
variable {X : List Nat} {w0 : World} {M0 M1 M2 : List Ent} {I0 : List aY}
abbrev l3 (b : Nat) (x y z : RE) : RL := ⟨some ⟨b, 0, none⟩, 3, [x, y, z]⟩
theorem mW {P : Program} {n : Nat} {Q : Exit → Act → World → Prop} {G : Env} {M : List Ent} {I : List aY} {ops l : List Oper} {m : Fx.Mode} {b k : Nat} {x y z : RE} {ty : TypeId} (ha : cO [x, y, z] k ∈ I) (h : RD P n ops Q m l G X w0 M (iZ (l3 b x y z) k :: I)) : RD P n ops Q m l G X w0 (.blk b (recs eR [x, y, z]) ty :: M) I := aKZ ha h
theorem uS {kd u : Nat} {x : RL} (hk : kd ≤ 2) (hu : u ≤ 100000000000) (hl : zA kd ≤ x.es.length) (hx : iZ x u ∈ I0) : CD Tryz.prog 41 [.int .i64 (kd : Int), lv x] X w0 M0 I0 (XQ (nP kd x.q) 3 3 u M0 I0) := by
 have hW0 := fun M0 I0 => pF (X := X) (w0 := w0) (M0 := M0) (I0 := I0) (x := 0) (by decide) (k := u) (by simp)
 have hW1 := fun M0 I0 => pF (X := X) (w0 := w0) (M0 := M0) (I0 := I0) (x := 1) (by decide) (k := u) (by show 1 ≤ 2 ^ u; exact Nat.one_le_two_pow)
 have hq : ∀ i : Nat, i < zA kd → x.q.getD i 0 = (gt x.es (i : Int)).q := fun i hi => jK (by omega)
 refine cZ (φ := aO x.p (recs eR x.es)) (Hv.lsl hx) (cZ (φ := iZ x u) (Hv.mem (List.mem_cons_of_mem _ hx)) ?_)
 refine aX Tryz.func41 rfl Tryz.ntmps41 rfl ?_
 repeat (refine aK ?_)
 (refine aA rfl (hW0 _ _) rfl rfl ?_; rintro _ _ _ ⟨rfl, e0, rfl, he0, rfl⟩; refine ⟨okF, ?_⟩)
 (refine aA rfl (hW1 _ _) rfl rfl ?_; rintro _ _ _ ⟨rfl, e1, rfl, he1, rfl⟩; refine ⟨okF, ?_⟩)
 (refine aI rfl rfl ?_; intro b5; refine ⟨okF, ?_⟩)
 (refine aI rfl rfl ?_; intro b6; refine ⟨okF, ?_⟩)
 repeat (refine aK ?_)
 (refine aQ (cs := recs eR [e0, e0, e1]) ([rv e0, rv e0, rv e1]) rfl rfl (by intro v hv; repeat (first | exact absurd hv (List.not_mem_nil) | (rcases List.mem_cons.1 hv with rfl | hv; · rfl))) (by omega) rfl rfl rfl ?_; intro b7; refine ⟨okF, ?_⟩)
 refine dP (φ := cO [e0, e0, e1] u) (Hv.three aB aB aB) ?_
 refine mW (k := u) aB ?_
 rcases (show kd = 0 ∨ kd = 1 ∨ kd = 2 by omega) with h0 | h0 | h0
 ·obtain rfl : kd = 0 := h0
  have hl2 : 2 ≤ x.es.length := hl
  have q0 : x.q.getD 0 0 = (gt x.es 0).q := hq 0 (by decide)
  have q1 : x.q.getD 1 0 = (gt x.es 1).q := hq 1 (by decide)
  refine dP (φ := bS (gt x.es 0) u) (Hv.lel (r := x) (k := u) aB ⟨by omega, by omega⟩) ?_
  refine dP (φ := bS (gt x.es 1) u) (Hv.lel (r := x) (k := u) aB ⟨by omega, by omega⟩) ?_
  refine dP (φ := cO [e1, e0, gt x.es 0] u) (Hv.three aB aB aB) ?_
  refine dP (φ := cO [e0, e1, gt x.es 1] u) (Hv.three aB aB aB) ?_
  repeat (refine aK ?_)
  refine mU (fun G M I => ∃ (ba bb bc : Nat) (r1 : RL) (r2 : RL), [r1.q, r2.q, [0, 0, 1]] = nP 0 x.q ∧ r1.es.length = 3 ∧ r2.es.length = 3 ∧ G = [(4, .slice (some ⟨bc, 0, none⟩) 3 3)] ∧ M = .blk bc (recs eL [r1, r2, l3 b7 e0 e0 e1]) 53 :: M0 ∧ I = iZ r2 u :: iZ r1 u :: iZ (l3 b7 e0 e0 e1) u :: I0) ?_ ?_
  ·((repeat refine aG ?_); refine mP (.blk b6 (eR e1) 50 :: .blk b5 (eR e0) 50 :: M0) (cO [e0, e1, gt x.es 1] u :: cO [e1, e0, gt x.es 0] u :: bS (gt x.es 0) u :: bS (gt x.es 1) u :: iZ (l3 b7 e0 e0 e1) u :: bS e1 u :: bS e0 u :: iZ x u :: aO x.p (recs eR x.es) :: I0) mixed ?_)
   refine iQ (fuel := 4) (listed' := #[true, true, true, true, true, false, true, true, true, true, true, false, true, false, false]) [0, 1, 2, 3, 4, 6, 7, 8, 9, 10, 12] [2, 2, 3, 3, 2, 2, 2, 3, 3, 2, 2] aD aC (by kernel_rfl) (by kernel_rfl) rfl rfl ?_
   repeat (refine aK ?_)
   refine bW (fuel := 3) (i := 5) (j := 11) (by kernel_rfl) ?_ ?_
   ·((refine aQ (cs := recs eR [e1, e0, gt x.es 0]) ([rv e1, rv e0, rv (gt x.es 0)]) rfl rfl (by intro v hv; repeat (first | exact absurd hv (List.not_mem_nil) | (rcases List.mem_cons.1 hv with rfl | hv; · rfl))) (by omega) rfl rfl rfl ?_; intro ba; refine ⟨okF, ?_⟩); refine mW (k := u) aB ?_)
    refine bH ?_
    refine bE [11, 13, 14] [0, 0, 0] aD aC (by kernel_rfl) (by kernel_rfl) rfl rfl ?_
    repeat (refine aK ?_)
    ((refine aQ (cs := recs eR [e0, e1, gt x.es 1]) ([rv e0, rv e1, rv (gt x.es 1)]) rfl rfl (by intro v hv; repeat (first | exact absurd hv (List.not_mem_nil) | (rcases List.mem_cons.1 hv with rfl | hv; · rfl))) (by omega) rfl rfl rfl ?_; intro bb; refine ⟨okF, ?_⟩); refine mW (k := u) aB ?_)
    repeat (refine aK ?_)
    (refine aQ (cs := recs eL [l3 ba e1 e0 (gt x.es 0), l3 bb e0 e1 (gt x.es 1), l3 b7 e0 e0 e1]) ([lv (l3 ba e1 e0 (gt x.es 0)), lv (l3 bb e0 e1 (gt x.es 1)), lv (l3 b7 e0 e0 e1)]) rfl rfl (by intro v hv; repeat (first | exact absurd hv (List.not_mem_nil) | (rcases List.mem_cons.1 hv with rfl | hv; · rfl))) (by omega) rfl rfl rfl ?_; intro bc; refine ⟨okF, ?_⟩)
    repeat (refine aK ?_)
    (refine eX _ _ _ aP aD aC ⟨ba, bb, bc, l3 ba e1 e0 (gt x.es 0), l3 bb e0 e1 (gt x.es 1), by show [[e1.q, e0.q, (gt x.es 0).q], [e0.q, e1.q, (gt x.es 1).q], [0, 0, 1]] = _; unfold nP; rw [if_pos rfl]; simp only [he0, he1, q0, q1]; rfl, rfl, rfl, rfl, rfl, rfl⟩)
   ·((refine aQ (cs := recs eR [e0, e1, gt x.es 1]) ([rv e0, rv e1, rv (gt x.es 1)]) rfl rfl (by intro v hv; repeat (first | exact absurd hv (List.not_mem_nil) | (rcases List.mem_cons.1 hv with rfl | hv; · rfl))) (by omega) rfl rfl rfl ?_; intro bb; refine ⟨okF, ?_⟩); refine mW (k := u) aB ?_)
    refine bH ?_
    refine bE [5, 13, 14] [0, 0, 0] aD aC (by kernel_rfl) (by kernel_rfl) rfl rfl ?_
    repeat (refine aK ?_)
    ((refine aQ (cs := recs eR [e1, e0, gt x.es 0]) ([rv e1, rv e0, rv (gt x.es 0)]) rfl rfl (by intro v hv; repeat (first | exact absurd hv (List.not_mem_nil) | (rcases List.mem_cons.1 hv with rfl | hv; · rfl))) (by omega) rfl rfl rfl ?_; intro ba; refine ⟨okF, ?_⟩); refine mW (k := u) aB ?_)
    repeat (refine aK ?_)
    (refine aQ (cs := recs eL [l3 ba e1 e0 (gt x.es 0), l3 bb e0 e1 (gt x.es 1), l3 b7 e0 e0 e1]) ([lv (l3 ba e1 e0 (gt x.es 0)), lv (l3 bb e0 e1 (gt x.es 1)), lv (l3 b7 e0 e0 e1)]) rfl rfl (by intro v hv; repeat (first | exact absurd hv (List.not_mem_nil) | (rcases List.mem_cons.1 hv with rfl | hv; · rfl))) (by omega) rfl rfl rfl ?_; intro bc; refine ⟨okF, ?_⟩)
    repeat (refine aK ?_)
    (refine eX _ _ _ aP aD aC ⟨ba, bb, bc, l3 ba e1 e0 (gt x.es 0), l3 bb e0 e1 (gt x.es 1), by show [[e1.q, e0.q, (gt x.es 0).q], [e0.q, e1.q, (gt x.es 1).q], [0, 0, 1]] = _; unfold nP; rw [if_pos rfl]; simp only [he0, he1, q0, q1]; rfl, rfl, rfl, rfl, rfl, rfl⟩)
  rintro G M I ⟨ba, bb, bc, r1, r2, hqq, hl1, hl2', rfl, rfl, rfl⟩
  refine iB (φ := jW [r1, r2, l3 b7 e0 e0 e1] u) (Hv.threeL aB aB aB) ?_
  refine zK (C := 3) rfl (by omega) aB ?_
  repeat (refine aK ?_)
  refine gZ (M' := M0) (I' := jF ⟨some ⟨bc, 0, none⟩, 3, [r1, r2, l3 b7 e0 e0 e1]⟩ u :: I0) aD aC ?_
  refine aH (by first | exact .inl rfl | exact .inr rfl) rfl rfl _ _ aD aC (⟨rfl, ⟨some ⟨bc, 0, none⟩, 3, [r1, r2, l3 b7 e0 e0 e1]⟩, rfl, by rw [← hqq]; show [r1.q, r2.q, [e0.q, e0.q, e1.q]] = _; rw [he0, he1]; rfl, ⟨rfl, fun r hr => by
   simp only [List.mem_cons, List.not_mem_nil, or_false] at hr
   rcases hr with rfl | rfl | rfl
   ·exact hl1
   ·exact hl2'
   ·rfl⟩, rfl⟩)
 ·obtain rfl : kd = 1 := h0
  have hl2 : 4 ≤ x.es.length := hl
  have q0 : x.q.getD 0 0 = (gt x.es 0).q := hq 0 (by decide)
  have q1 : x.q.getD 1 0 = (gt x.es 1).q := hq 1 (by decide)
  have q2 : x.q.getD 2 0 = (gt x.es 2).q := hq 2 (by decide)
  have q3 : x.q.getD 3 0 = (gt x.es 3).q := hq 3 (by decide)
  refine dP (φ := bS (gt x.es 0) u) (Hv.lel (r := x) (k := u) aB ⟨by omega, by omega⟩) ?_
  refine dP (φ := bS (gt x.es 1) u) (Hv.lel (r := x) (k := u) aB ⟨by omega, by omega⟩) ?_
  refine dP (φ := bS (gt x.es 2) u) (Hv.lel (r := x) (k := u) aB ⟨by omega, by omega⟩) ?_
  refine dP (φ := bS (gt x.es 3) u) (Hv.lel (r := x) (k := u) aB ⟨by omega, by omega⟩) ?_
  have hN := fun M0 I0 h => aBE (X := X) (w0 := w0) (M0 := M0) (I0 := I0) (e := gt x.es 1) (k := u) (by omega) h
  refine dP (φ := cO [gt x.es 1, gt x.es 0, gt x.es 3] u) (Hv.three aB aB aB) ?_
  repeat (refine aK ?_)
  refine mU (fun G M I => ∃ (ba bb bc : Nat) (r1 : RL) (r2 : RL), [r1.q, r2.q, [0, 0, 1]] = nP 1 x.q ∧ r1.es.length = 3 ∧ r2.es.length = 3 ∧ G = [(4, .slice (some ⟨bc, 0, none⟩) 3 3)] ∧ M = .blk bc (recs eL [r1, r2, l3 b7 e0 e0 e1]) 53 :: M0 ∧ I = iZ r2 u :: iZ r1 u :: iZ (l3 b7 e0 e0 e1) u :: I0) ?_ ?_
  ·((repeat refine aG ?_); refine mP (.blk b6 (eR e1) 50 :: .blk b5 (eR e0) 50 :: M0) (cO [gt x.es 1, gt x.es 0, gt x.es 3] u :: bS (gt x.es 0) u :: bS (gt x.es 1) u :: bS (gt x.es 2) u :: bS (gt x.es 3) u :: iZ (l3 b7 e0 e0 e1) u :: bS e1 u :: bS e0 u :: iZ x u :: aO x.p (recs eR x.es) :: I0) mixed ?_)
   refine iQ (fuel := 5) (listed' := #[true, true, true, true, true, true, false, true, true, true, false, true, true, true, true, true, true, true, true, true, false, true, false, false]) [0, 1, 2, 3, 4, 5, 7, 8, 9, 11, 12, 13, 14, 15, 16, 17, 18, 19, 21] [4, 4, 3, 4, 4, 3, 4, 4, 3, 4, 4, 3, 4, 4, 3, 4, 4, 3, 3] aD aC (by kernel_rfl) (by kernel_rfl) rfl rfl ?_
   repeat (refine aK ?_)
   refine bW (fuel := 4) (i := 6) (j := 20) (by kernel_rfl) ?_ ?_
   ·((refine aA rfl (hN _ _ (Hv.mem aB)) rfl rfl ?_; rintro _ _ _ ⟨rfl, yn, rfl, hyn, rfl⟩; refine ⟨okF, ?_⟩); refine dP (φ := cO [gt x.es 0, yn, gt x.es 2] u) (Hv.three aB aB aB) ?_)
    refine bH ?_
    repeat (refine aK ?_)
    refine bW (fuel := 3) (i := 10) (j := 20) (by kernel_rfl) ?_ ?_
    ·((refine aQ (cs := recs eR [gt x.es 0, yn, gt x.es 2]) ([rv (gt x.es 0), rv yn, rv (gt x.es 2)]) rfl rfl (by intro v hv; repeat (first | exact absurd hv (List.not_mem_nil) | (rcases List.mem_cons.1 hv with rfl | hv; · rfl))) (by omega) rfl rfl rfl ?_; intro ba; refine ⟨okF, ?_⟩); refine mW (k := u) aB ?_)
     refine bH ?_
     refine bE [20, 22, 23] [0, 0, 0] aD aC (by kernel_rfl) (by kernel_rfl) rfl rfl ?_
     repeat (refine aK ?_)
     ((refine aQ (cs := recs eR [gt x.es 1, gt x.es 0, gt x.es 3]) ([rv (gt x.es 1), rv (gt x.es 0), rv (gt x.es 3)]) rfl rfl (by intro v hv; repeat (first | exact absurd hv (List.not_mem_nil) | (rcases List.mem_cons.1 hv with rfl | hv; · rfl))) (by omega) rfl rfl rfl ?_; intro bb; refine ⟨okF, ?_⟩); refine mW (k := u) aB ?_)
     repeat (refine aK ?_)
     (refine aQ (cs := recs eL [l3 ba (gt x.es 0) yn (gt x.es 2), l3 bb (gt x.es 1) (gt x.es 0) (gt x.es 3), l3 b7 e0 e0 e1]) ([lv (l3 ba (gt x.es 0) yn (gt x.es 2)), lv (l3 bb (gt x.es 1) (gt x.es 0) (gt x.es 3)), lv (l3 b7 e0 e0 e1)]) rfl rfl (by intro v hv; repeat (first | exact absurd hv (List.not_mem_nil) | (rcases List.mem_cons.1 hv with rfl | hv; · rfl))) (by omega) rfl rfl rfl ?_; intro bc; refine ⟨okF, ?_⟩)
     repeat (refine aK ?_)
     (refine eX _ _ _ aP aD aC ⟨ba, bb, bc, l3 ba (gt x.es 0) yn (gt x.es 2), l3 bb (gt x.es 1) (gt x.es 0) (gt x.es 3), by show [[(gt x.es 0).q, yn.q, (gt x.es 2).q], [(gt x.es 1).q, (gt x.es 0).q, (gt x.es 3).q], [0, 0, 1]] = _; unfold nP; rw [if_neg (by decide), if_pos rfl]; simp only [he0, he1, q0, q1, q2, q3, hyn], rfl, rfl, rfl, rfl, rfl⟩)
    ·((refine aQ (cs := recs eR [gt x.es 1, gt x.es 0, gt x.es 3]) ([rv (gt x.es 1), rv (gt x.es 0), rv (gt x.es 3)]) rfl rfl (by intro v hv; repeat (first | exact absurd hv (List.not_mem_nil) | (rcases List.mem_cons.1 hv with rfl | hv; · rfl))) (by omega) rfl rfl rfl ?_; intro bb; refine ⟨okF, ?_⟩); refine mW (k := u) aB ?_)
     refine bH ?_
     refine bE [10, 22, 23] [0, 0, 0] aD aC (by kernel_rfl) (by kernel_rfl) rfl rfl ?_
     repeat (refine aK ?_)
     ((refine aQ (cs := recs eR [gt x.es 0, yn, gt x.es 2]) ([rv (gt x.es 0), rv yn, rv (gt x.es 2)]) rfl rfl (by intro v hv; repeat (first | exact absurd hv (List.not_mem_nil) | (rcases List.mem_cons.1 hv with rfl | hv; · rfl))) (by omega) rfl rfl rfl ?_; intro ba; refine ⟨okF, ?_⟩); refine mW (k := u) aB ?_)
     repeat (refine aK ?_)
     (refine aQ (cs := recs eL [l3 ba (gt x.es 0) yn (gt x.es 2), l3 bb (gt x.es 1) (gt x.es 0) (gt x.es 3), l3 b7 e0 e0 e1]) ([lv (l3 ba (gt x.es 0) yn (gt x.es 2)), lv (l3 bb (gt x.es 1) (gt x.es 0) (gt x.es 3)), lv (l3 b7 e0 e0 e1)]) rfl rfl (by intro v hv; repeat (first | exact absurd hv (List.not_mem_nil) | (rcases List.mem_cons.1 hv with rfl | hv; · rfl))) (by omega) rfl rfl rfl ?_; intro bc; refine ⟨okF, ?_⟩)
     repeat (refine aK ?_)
     (refine eX _ _ _ aP aD aC ⟨ba, bb, bc, l3 ba (gt x.es 0) yn (gt x.es 2), l3 bb (gt x.es 1) (gt x.es 0) (gt x.es 3), by show [[(gt x.es 0).q, yn.q, (gt x.es 2).q], [(gt x.es 1).q, (gt x.es 0).q, (gt x.es 3).q], [0, 0, 1]] = _; unfold nP; rw [if_neg (by decide), if_pos rfl]; simp only [he0, he1, q0, q1, q2, q3, hyn], rfl, rfl, rfl, rfl, rfl⟩)
   ·((refine aQ (cs := recs eR [gt x.es 1, gt x.es 0, gt x.es 3]) ([rv (gt x.es 1), rv (gt x.es 0), rv (gt x.es 3)]) rfl rfl (by intro v hv; repeat (first | exact absurd hv (List.not_mem_nil) | (rcases List.mem_cons.1 hv with rfl | hv; · rfl))) (by omega) rfl rfl rfl ?_; intro bb; refine ⟨okF, ?_⟩); refine mW (k := u) aB ?_)
    refine bH ?_
    refine bE [6, 10, 22, 23] [0, 0, 0, 0] aD aC (by kernel_rfl) (by kernel_rfl) rfl rfl ?_
    repeat (refine aK ?_)
    ((refine aA rfl (hN _ _ (Hv.mem aB)) rfl rfl ?_; rintro _ _ _ ⟨rfl, yn, rfl, hyn, rfl⟩; refine ⟨okF, ?_⟩); refine dP (φ := cO [gt x.es 0, yn, gt x.es 2] u) (Hv.three aB aB aB) ?_)
    repeat (refine aK ?_)
    ((refine aQ (cs := recs eR [gt x.es 0, yn, gt x.es 2]) ([rv (gt x.es 0), rv yn, rv (gt x.es 2)]) rfl rfl (by intro v hv; repeat (first | exact absurd hv (List.not_mem_nil) | (rcases List.mem_cons.1 hv with rfl | hv; · rfl))) (by omega) rfl rfl rfl ?_; intro ba; refine ⟨okF, ?_⟩); refine mW (k := u) aB ?_)
    repeat (refine aK ?_)
    (refine aQ (cs := recs eL [l3 ba (gt x.es 0) yn (gt x.es 2), l3 bb (gt x.es 1) (gt x.es 0) (gt x.es 3), l3 b7 e0 e0 e1]) ([lv (l3 ba (gt x.es 0) yn (gt x.es 2)), lv (l3 bb (gt x.es 1) (gt x.es 0) (gt x.es 3)), lv (l3 b7 e0 e0 e1)]) rfl rfl (by intro v hv; repeat (first | exact absurd hv (List.not_mem_nil) | (rcases List.mem_cons.1 hv with rfl | hv; · rfl))) (by omega) rfl rfl rfl ?_; intro bc; refine ⟨okF, ?_⟩)
    repeat (refine aK ?_)
    (refine eX _ _ _ aP aD aC ⟨ba, bb, bc, l3 ba (gt x.es 0) yn (gt x.es 2), l3 bb (gt x.es 1) (gt x.es 0) (gt x.es 3), by show [[(gt x.es 0).q, yn.q, (gt x.es 2).q], [(gt x.es 1).q, (gt x.es 0).q, (gt x.es 3).q], [0, 0, 1]] = _; unfold nP; rw [if_neg (by decide), if_pos rfl]; simp only [he0, he1, q0, q1, q2, q3, hyn], rfl, rfl, rfl, rfl, rfl⟩)
  rintro G M I ⟨ba, bb, bc, r1, r2, hqq, hl1, hl2', rfl, rfl, rfl⟩
  refine iB (φ := jW [r1, r2, l3 b7 e0 e0 e1] u) (Hv.threeL aB aB aB) ?_
  refine zK (C := 3) rfl (by omega) aB ?_
  repeat (refine aK ?_)
  refine gZ (M' := M0) (I' := jF ⟨some ⟨bc, 0, none⟩, 3, [r1, r2, l3 b7 e0 e0 e1]⟩ u :: I0) aD aC ?_
  refine aH (by first | exact .inl rfl | exact .inr rfl) rfl rfl _ _ aD aC (⟨rfl, ⟨some ⟨bc, 0, none⟩, 3, [r1, r2, l3 b7 e0 e0 e1]⟩, rfl, by rw [← hqq]; show [r1.q, r2.q, [e0.q, e0.q, e1.q]] = _; rw [he0, he1]; rfl, ⟨rfl, fun r hr => by
   simp only [List.mem_cons, List.not_mem_nil, or_false] at hr
   rcases hr with rfl | rfl | rfl
   ·exact hl1
   ·exact hl2'
   ·rfl⟩, rfl⟩)
 ·obtain rfl : kd = 2 := h0
  have hl2 : 6 ≤ x.es.length := hl
  have q0 : x.q.getD 0 0 = (gt x.es 0).q := hq 0 (by decide)
  have q1 : x.q.getD 1 0 = (gt x.es 1).q := hq 1 (by decide)
  have q2 : x.q.getD 2 0 = (gt x.es 2).q := hq 2 (by decide)
  have q3 : x.q.getD 3 0 = (gt x.es 3).q := hq 3 (by decide)
  have q4 : x.q.getD 4 0 = (gt x.es 4).q := hq 4 (by decide)
  have q5 : x.q.getD 5 0 = (gt x.es 5).q := hq 5 (by decide)
  refine dP (φ := bS (gt x.es 0) u) (Hv.lel (r := x) (k := u) aB ⟨by omega, by omega⟩) ?_
  refine dP (φ := bS (gt x.es 1) u) (Hv.lel (r := x) (k := u) aB ⟨by omega, by omega⟩) ?_
  refine dP (φ := bS (gt x.es 2) u) (Hv.lel (r := x) (k := u) aB ⟨by omega, by omega⟩) ?_
  refine dP (φ := bS (gt x.es 3) u) (Hv.lel (r := x) (k := u) aB ⟨by omega, by omega⟩) ?_
  refine dP (φ := bS (gt x.es 4) u) (Hv.lel (r := x) (k := u) aB ⟨by omega, by omega⟩) ?_
  refine dP (φ := bS (gt x.es 5) u) (Hv.lel (r := x) (k := u) aB ⟨by omega, by omega⟩) ?_
  refine dP (φ := cO [gt x.es 0, gt x.es 1, gt x.es 2] u) (Hv.three aB aB aB) ?_
  refine dP (φ := cO [gt x.es 3, gt x.es 4, gt x.es 5] u) (Hv.three aB aB aB) ?_
  repeat (refine aK ?_)
  refine mU (fun G M I => ∃ (ba bb bc : Nat) (r1 : RL) (r2 : RL), [r1.q, r2.q, [0, 0, 1]] = nP 2 x.q ∧ r1.es.length = 3 ∧ r2.es.length = 3 ∧ G = [(4, .slice (some ⟨bc, 0, none⟩) 3 3)] ∧ M = .blk bc (recs eL [r1, r2, l3 b7 e0 e0 e1]) 53 :: M0 ∧ I = iZ r2 u :: iZ r1 u :: iZ (l3 b7 e0 e0 e1) u :: I0) ?_ ?_
  ·((repeat refine aG ?_); refine mP (.blk b6 (eR e1) 50 :: .blk b5 (eR e0) 50 :: M0) (cO [gt x.es 3, gt x.es 4, gt x.es 5] u :: cO [gt x.es 0, gt x.es 1, gt x.es 2] u :: bS (gt x.es 0) u :: bS (gt x.es 1) u :: bS (gt x.es 2) u :: bS (gt x.es 3) u :: bS (gt x.es 4) u :: bS (gt x.es 5) u :: iZ (l3 b7 e0 e0 e1) u :: bS e1 u :: bS e0 u :: iZ x u :: aO x.p (recs eR x.es) :: I0) mixed ?_)
   refine iQ (fuel := 4) (listed' := #[true, true, true, true, true, true, true, true, true, false, true, true, true, true, true, true, true, true, true, false, true, false, false]) [0, 1, 2, 3, 4, 5, 6, 7, 8, 10, 11, 12, 13, 14, 15, 16, 17, 18, 20] [3, 3, 2, 3, 3, 2, 3, 3, 2, 3, 3, 2, 3, 3, 2, 3, 3, 2, 2] aD aC (by kernel_rfl) (by kernel_rfl) rfl rfl ?_
   repeat (refine aK ?_)
   refine bW (fuel := 3) (i := 9) (j := 19) (by kernel_rfl) ?_ ?_
   ·((refine aQ (cs := recs eR [gt x.es 0, gt x.es 1, gt x.es 2]) ([rv (gt x.es 0), rv (gt x.es 1), rv (gt x.es 2)]) rfl rfl (by intro v hv; repeat (first | exact absurd hv (List.not_mem_nil) | (rcases List.mem_cons.1 hv with rfl | hv; · rfl))) (by omega) rfl rfl rfl ?_; intro ba; refine ⟨okF, ?_⟩); refine mW (k := u) aB ?_)
    refine bH ?_
    refine bE [19, 21, 22] [0, 0, 0] aD aC (by kernel_rfl) (by kernel_rfl) rfl rfl ?_
    repeat (refine aK ?_)
    ((refine aQ (cs := recs eR [gt x.es 3, gt x.es 4, gt x.es 5]) ([rv (gt x.es 3), rv (gt x.es 4), rv (gt x.es 5)]) rfl rfl (by intro v hv; repeat (first | exact absurd hv (List.not_mem_nil) | (rcases List.mem_cons.1 hv with rfl | hv; · rfl))) (by omega) rfl rfl rfl ?_; intro bb; refine ⟨okF, ?_⟩); refine mW (k := u) aB ?_)
    repeat (refine aK ?_)
    (refine aQ (cs := recs eL [l3 ba (gt x.es 0) (gt x.es 1) (gt x.es 2), l3 bb (gt x.es 3) (gt x.es 4) (gt x.es 5), l3 b7 e0 e0 e1]) ([lv (l3 ba (gt x.es 0) (gt x.es 1) (gt x.es 2)), lv (l3 bb (gt x.es 3) (gt x.es 4) (gt x.es 5)), lv (l3 b7 e0 e0 e1)]) rfl rfl (by intro v hv; repeat (first | exact absurd hv (List.not_mem_nil) | (rcases List.mem_cons.1 hv with rfl | hv; · rfl))) (by omega) rfl rfl rfl ?_; intro bc; refine ⟨okF, ?_⟩)
    repeat (refine aK ?_)
    (refine eX _ _ _ aP aD aC ⟨ba, bb, bc, l3 ba (gt x.es 0) (gt x.es 1) (gt x.es 2), l3 bb (gt x.es 3) (gt x.es 4) (gt x.es 5), by show [[(gt x.es 0).q, (gt x.es 1).q, (gt x.es 2).q], [(gt x.es 3).q, (gt x.es 4).q, (gt x.es 5).q], [0, 0, 1]] = _; unfold nP; rw [if_neg (by decide), if_neg (by decide)]; simp only [he0, he1, q0, q1, q2, q3, q4, q5], rfl, rfl, rfl, rfl, rfl⟩)
   ·((refine aQ (cs := recs eR [gt x.es 3, gt x.es 4, gt x.es 5]) ([rv (gt x.es 3), rv (gt x.es 4), rv (gt x.es 5)]) rfl rfl (by intro v hv; repeat (first | exact absurd hv (List.not_mem_nil) | (rcases List.mem_cons.1 hv with rfl | hv; · rfl))) (by omega) rfl rfl rfl ?_; intro bb; refine ⟨okF, ?_⟩); refine mW (k := u) aB ?_)
    refine bH ?_
    refine bE [9, 21, 22] [0, 0, 0] aD aC (by kernel_rfl) (by kernel_rfl) rfl rfl ?_
    repeat (refine aK ?_)
    ((refine aQ (cs := recs eR [gt x.es 0, gt x.es 1, gt x.es 2]) ([rv (gt x.es 0), rv (gt x.es 1), rv (gt x.es 2)]) rfl rfl (by intro v hv; repeat (first | exact absurd hv (List.not_mem_nil) | (rcases List.mem_cons.1 hv with rfl | hv; · rfl))) (by omega) rfl rfl rfl ?_; intro ba; refine ⟨okF, ?_⟩); refine mW (k := u) aB ?_)
    repeat (refine aK ?_)
    (refine aQ (cs := recs eL [l3 ba (gt x.es 0) (gt x.es 1) (gt x.es 2), l3 bb (gt x.es 3) (gt x.es 4) (gt x.es 5), l3 b7 e0 e0 e1]) ([lv (l3 ba (gt x.es 0) (gt x.es 1) (gt x.es 2)), lv (l3 bb (gt x.es 3) (gt x.es 4) (gt x.es 5)), lv (l3 b7 e0 e0 e1)]) rfl rfl (by intro v hv; repeat (first | exact absurd hv (List.not_mem_nil) | (rcases List.mem_cons.1 hv with rfl | hv; · rfl))) (by omega) rfl rfl rfl ?_; intro bc; refine ⟨okF, ?_⟩)
    repeat (refine aK ?_)
    (refine eX _ _ _ aP aD aC ⟨ba, bb, bc, l3 ba (gt x.es 0) (gt x.es 1) (gt x.es 2), l3 bb (gt x.es 3) (gt x.es 4) (gt x.es 5), by show [[(gt x.es 0).q, (gt x.es 1).q, (gt x.es 2).q], [(gt x.es 3).q, (gt x.es 4).q, (gt x.es 5).q], [0, 0, 1]] = _; unfold nP; rw [if_neg (by decide), if_neg (by decide)]; simp only [he0, he1, q0, q1, q2, q3, q4, q5], rfl, rfl, rfl, rfl, rfl⟩)
  rintro G M I ⟨ba, bb, bc, r1, r2, hqq, hl1, hl2', rfl, rfl, rfl⟩
  refine iB (φ := jW [r1, r2, l3 b7 e0 e0 e1] u) (Hv.threeL aB aB aB) ?_
  refine zK (C := 3) rfl (by omega) aB ?_
  repeat (refine aK ?_)
  refine gZ (M' := M0) (I' := jF ⟨some ⟨bc, 0, none⟩, 3, [r1, r2, l3 b7 e0 e0 e1]⟩ u :: I0) aD aC ?_
  refine aH (by first | exact .inl rfl | exact .inr rfl) rfl rfl _ _ aD aC (⟨rfl, ⟨some ⟨bc, 0, none⟩, 3, [r1, r2, l3 b7 e0 e0 e1]⟩, rfl, by rw [← hqq]; show [r1.q, r2.q, [e0.q, e0.q, e1.q]] = _; rw [he0, he1]; rfl, ⟨rfl, fun r hr => by
   simp only [List.mem_cons, List.not_mem_nil, or_false] at hr
   rcases hr with rfl | rfl | rfl
   ·exact hl1
   ·exact hl2'
   ·rfl⟩, rfl⟩)
end
end Go.Proofs.YtjbhdfpjnjedhaaGreat
namespace Go.Proofs.YtjbhdfpjnjedhaaGreat
open Go Go.Fx
section
variable {X : List Nat} {w0 : World} {M0 M1 M2 : List Ent} {I0 : List aY}
def NorR (R C : Nat) (A : Mt) (b : List Rat) (k : Nat) (M0 : List Ent) (I0 : List aY) (v : Value) (M : List Ent) (I : List aY) : Prop :=
 M0 = M ∧ if dt C (at2 (nrN R C A)) = 0 then I0 = I ∧ v = .tuple #[.slice none 0 0, .bool false] else ∃ r : RL, v = .tuple #[lv r, .bool true] ∧ r.q = lsX R C A b ∧ I = iZ r k :: I0
end
end Go.Proofs.YtjbhdfpjnjedhaaGreat
namespace Go.Proofs.YtjbhdfpjnjedhaaGreat
open Go Go.Fx
/- ---------- IndexFunc, ContainsFunc of []fiducial/api.Rat ---------- -/
section
variable {X : List Nat} {w0 : World} {M0 : List Ent} {I0 : List aY}
end
def zeroL (l : List Rat) : Prop := ∀ x ∈ l, x = 0
instance (l : List Rat) : Decidable (zeroL l) := inferInstanceAs (Decidable (∀ x ∈ l, x = 0))
def symM (A : Mt) (n : Nat) : Prop := ∀ i, i < n → ∀ j, j < i → at2 A i j = at2 A j i
instance (A : Mt) (n : Nat) : Decidable (symM A n) := inferInstanceAs (Decidable (∀ i, i < n → ∀ j, j < i → at2 A i j = at2 A j i))
def symC (A : Mt) (n : Nat) : Int := if symM A n then 0 else 11
section
variable {X : List Nat} {w0 : World} {M0 : List Ent} {I0 : List aY}
end
end Go.Proofs.YtjbhdfpjnjedhaaGreat
namespace Go.Proofs.YtjbhdfpjnjedhaaGreat
def rsF (f : Nat → Nat → Rat) : Nat → Nat → Nat → Rat
 | 0 => f
 | k + 1 => fun i j => if k < i ∧ k ≤ j then rsF f k i j - rsF f k i k / rsF f k k k * rsF f k k j else rsF f k i j
def bk (f : Nat → Nat → Rat) (k : Nat) : Nat → Nat → Rat := fun a b => rsF f k (a + k) (b + k)
def pvs (f : Nat → Nat → Rat) : Nat → Rat
 | 0 => 1
 | k + 1 => pvs f k * bk f k 0 0
def qf (f : Nat → Nat → Rat) (v : Nat → Rat) (n k : Nat) : Rat := sm (n - k) (fun a => sm (n - k) (fun b => bk f k a b * v (a + k) * v (b + k)))
def yk (f : Nat → Nat → Rat) (v : Nat → Rat) (n k : Nat) : Rat := v k + sm (n - (k + 1)) (fun a => bk f k (a + 1) 0 / bk f k 0 0 * v (a + (k + 1)))
end Go.Proofs.YtjbhdfpjnjedhaaGreat
namespace Go.Proofs.YtjbhdfpjnjedhaaGreat
open Go Go.Fx
def qfr (A : Mt) (v : List Rat) (n : Nat) : Rat := sm n (fun t => v.getD t 0 * sm n (fun j => at2 A t j * v.getD j 0))
section
variable {X : List Nat} {w0 : World} {M0 : List Ent} {I0 : List aY}
theorem aFD {x y : RL} {u m : Nat} (hk : u + m + 1 ≤ 100000000000) (lx : x.es.length ≤ 1000) (ly : y.es.length ≤ 1000) (hx : Hv I0 (iZ x u)) (hy : Hv I0 (iZ y m)) :
  CD Tryz.prog 105 [lv x, lv y] X w0 M0 I0 (fun v M I => M0 = M ∧ I0 = I ∧ v = .bool (B (x.q = y.q))) := by
 refine aRO hx (aRO (φ := iZ y m) (hy.cons) ?_)
 refine cZ (φ := aO (x).p (recs eR (x).es)) (Hv.lsl aB) ?_
 refine cZ (φ := aO (y).p (recs eR (y).es)) (Hv.lsl aB) ?_
 by_cases hlen : x.es.length = y.es.length
 ·refine aX Tryz.func105 rfl Tryz.ntmps105 rfl ?_
  repeat (refine aK ?_)
  refine aT [0, 1] rfl (fun k G M I => ∃ i : Nat, i ≤ x.es.length ∧ k = x.es.length - i ∧ (∀ j : Nat, j < i → (gt x.es (j : Int)).q = (gt y.es (j : Int)).q) ∧ G = [(5, .int .i64 i)] ∧ M0 = M ∧ I = aO y.p (recs eR y.es) :: aO x.p (recs eR x.es) :: iZ y m :: iZ x u :: I0) (x.es.length) _ _ _ aP aD aC (⟨0, by omega, rfl, fun j hj => by omega, rfl, rfl, rfl⟩) ?_
  rintro kk G M I ⟨i, hi, rfl, hs, rfl, rfl, rfl⟩
  by_cases hi2 : i < x.es.length
  ·have hS := fun M0 I0 h1 h2 => aPY (X := X) (w0 := w0) (M0 := M0) (I0 := I0) (a := gt x.es (i : Int)) (b := gt y.es (i : Int)) (k := u) (m := m) (by omega) h1 h2
   by_cases he : (gt x.es (i : Int)).q = (gt y.es (i : Int)).q
   ·rw [bJ he] at hS
    repeat (refine aK ?_)
    (repeat refine aG ?_); refine bG 1 [0, 1, 2, 3, 4, 5, 6, 7, 8, 9] [1, 1, 1, 0, 1, 1, 1, 0, 0, 0] mixed (by kernel_rfl) ?_
    repeat (refine aK ?_)
    (refine aA rfl (hS _ _ (Hv.lel aB (by omega)) (Hv.lel aB (by omega))) rfl rfl ?_; rintro _ _ _ ⟨rfl, rfl, rfl⟩; refine ⟨okF, ?_⟩)
    repeat (refine aK ?_)
    refine aL (x.es.length - (i + 1)) _ _ _ (by first | omega | (simp only [List.length_append, List.length_cons, List.length_nil]; omega)) aP aD aC (⟨i + 1, by omega, rfl, fun j hj => ?_, rfl, rfl, rfl⟩)
    by_cases e : j = i
    ·subst e; exact he
    ·exact hs j (by omega)
   ·rw [bB he] at hS
    repeat (refine aK ?_)
    (repeat refine aG ?_); refine bG 1 [0, 1, 2, 3, 4, 5, 6, 7, 8, 9] [1, 1, 1, 0, 1, 1, 1, 0, 0, 0] mixed (by kernel_rfl) ?_
    repeat (refine aK ?_)
    (refine aA rfl (hS _ _ (Hv.lel aB (by omega)) (Hv.lel aB (by omega))) rfl rfl ?_; rintro _ _ _ ⟨rfl, rfl, rfl⟩; refine ⟨okF, ?_⟩)
    repeat (refine aK ?_)
    refine aH (by first | exact .inl rfl | exact .inr rfl) rfl rfl _ _ aD aC (⟨rfl, rfl, congrArg Value.bool (bB (fun e => he (q_at e hi2))).symm⟩)
  ·repeat (refine aK ?_)
   refine aH (by first | exact .inl rfl | exact .inr rfl) rfl rfl _ _ aD aC (⟨rfl, rfl, congrArg Value.bool (bJ (q_ext hlen (fun j hj => hs j (by omega)))).symm⟩)
 ·refine aX Tryz.func105 rfl Tryz.ntmps105 rfl ?_
  repeat (refine aK ?_)
  refine aH (by first | exact .inl rfl | exact .inr rfl) rfl rfl _ _ aD aC (⟨rfl, rfl, congrArg Value.bool (bB (fun e => hlen (by have := congrArg List.length e; simpa using this))).symm⟩)
theorem aCJ {a b : MX} {n C k m : Nat} (hk : k + m + 1 ≤ 100000000000) (hn : n ≤ 64) (hC : C ≤ 64) (da : a.dim n C) (db : b.dim n C) (ha : jF a k ∈ I0) (hb : jF b m ∈ I0) :
  CD Tryz.prog 61 [mv a, mv b] X w0 M0 I0 (fun v M I => M0 = M ∧ I0 = I ∧ v = .bool (B (a.q = b.q))) := by
 have la := da.1
 have lb := db.1
 refine cZ (φ := aO (a).p (recs eL (a).rows)) (Hv.xsl aB) ?_
 refine cZ (φ := aO (b).p (recs eL (b).rows)) (Hv.xsl aB) ?_
 refine aX Tryz.func61 rfl Tryz.ntmps61 rfl ?_
 repeat (refine aK ?_)
 refine aT [0, 1] rfl (fun k G M I => ∃ i : Nat, i ≤ n ∧ k = n - i ∧ (∀ j : Nat, j < i → (gt a.rows (j : Int)).q = (gt b.rows (j : Int)).q) ∧ G = [(5, .int .i64 i)] ∧ M0 = M ∧ I = aO b.p (recs eL b.rows) :: aO a.p (recs eL a.rows) :: I0) (n) _ _ _ aP aD aC (⟨0, by omega, rfl, fun j hj => by omega, rfl, rfl, rfl⟩) ?_
 rintro kk G M I ⟨i, hi, rfl, hs, rfl, rfl, rfl⟩
 by_cases hi2 : i < n
 ·have c1 := da.row (i := i) (by omega)
  have c2 := db.row (i := i) (by omega)
  have hS := fun M0 I0 h1 h2 => aFD (X := X) (w0 := w0) (M0 := M0) (I0 := I0) (x := gt a.rows (i : Int)) (y := gt b.rows (i : Int)) (u := k) (m := m) hk (by omega) (by omega) h1 h2
  by_cases he : (gt a.rows (i : Int)).q = (gt b.rows (i : Int)).q
  ·rw [bJ he] at hS
   repeat (refine aK ?_)
   (repeat refine aG ?_); refine bG 1 [0, 1, 2, 3, 4, 5, 6, 7, 8, 9] [1, 1, 1, 0, 1, 1, 1, 0, 0, 0] mixed (by kernel_rfl) ?_
   repeat (refine aK ?_)
   (refine aA rfl (hS _ _ (Hv.xrow aB (by omega)) (Hv.xrow aB (by omega))) rfl rfl ?_; rintro _ _ _ ⟨rfl, rfl, rfl⟩; refine ⟨okF, ?_⟩)
   repeat (refine aK ?_)
   refine aL (n - (i + 1)) _ _ _ (by first | omega | (simp only [List.length_append, List.length_cons, List.length_nil]; omega)) aP aD aC (⟨i + 1, by omega, rfl, fun j hj => ?_, rfl, rfl, rfl⟩)
   by_cases e : j = i
   ·subst e; exact he
   ·exact hs j (by omega)
  ·rw [bB he] at hS
   repeat (refine aK ?_)
   (repeat refine aG ?_); refine bG 1 [0, 1, 2, 3, 4, 5, 6, 7, 8, 9] [1, 1, 1, 0, 1, 1, 1, 0, 0, 0] mixed (by kernel_rfl) ?_
   repeat (refine aK ?_)
   (refine aA rfl (hS _ _ (Hv.xrow aB (by omega)) (Hv.xrow aB (by omega))) rfl rfl ?_; rintro _ _ _ ⟨rfl, rfl, rfl⟩; refine ⟨okF, ?_⟩)
   repeat (refine aK ?_)
   refine aH (by first | exact .inl rfl | exact .inr rfl) rfl rfl _ _ aD aC (⟨rfl, rfl, congrArg Value.bool (bB (fun e => he (aVH e (by omega)))).symm⟩)
 ·repeat (refine aK ?_)
  refine aH (by first | exact .inl rfl | exact .inr rfl) rfl rfl _ _ aD aC (⟨rfl, rfl, congrArg Value.bool (bJ (aVV (by omega) (fun j hj => hs j (by omega)))).symm⟩)
end
end Go.Proofs.YtjbhdfpjnjedhaaGreat
namespace Go.Proofs.YtjbhdfpjnjedhaaGreat
open Go Go.Fx
theorem aDZ {kd : Nat} {l : List Q4} (hk : kd ≤ 3) (h : kK l = 0) : kW (kd : Int) l = 0 := by
 unfold kW
 rw [if_pos h, if_pos (show kdP (kd : Int) from ⟨by omega, by omega⟩)]
section
variable {X : List Nat} {w0 : World} {M0 M1 M2 : List Ent} {I0 : List aY}
theorem aIA {A : MX} {u : Nat} (hu : u ≤ 110000000) (fA : A.fit 3 3) (ha : jF A u ∈ I0) : CD Tryz.prog 28 [mv A] X w0 M0 I0 (fun v M I => M0 = M ∧ I0 = I ∧ v = .bool (B (dt 3 (at2 A.q) ≠ 0))) := by
 refine rH (fun w hw => Mem.xsml ha fA (by omega) hw) (fun sa => ?_)
 have hC := fun M0 I0 h1 => aLP (X := X) (w0 := w0) (M0 := M0) (I0 := I0) (m := A.raw) sa h1
 rw [WM.code_ok fA.ok, aEE] at hC
 have hr : A.rows.length = 3 := fA.1.1
 have hr0 : (gt A.rows 0).es.length = 3 := fA.r0
 have hh : hD u 3 ≤ 50000000000 := by show (2 + 2) * (u + (1 + 2) * (u + (0 + 2) * (u + u + 1) + 1) + 1) ≤ _; omega
 have hDt := fun M0 I0 h1 => aJV 3 (X := X) (w0 := w0) (M0 := M0) (I0 := I0) (m := A) (k0 := u) (by omega) (by omega) hh fA.1 h1
 refine cZ (φ := jF A u) (Hv.mem ha) (cZ (φ := aO A.p (recs eL A.rows)) (Hv.xsl (k := u) aB) (cZ (φ := wR A.raw) (Hv.xraw (k := u) aB (by omega)) ?_))
 refine aZ Tryz.func28 rfl Tryz.ntmps28 rfl ?_
 repeat (refine aK ?_)
 (refine aA rfl (hC _ _ aB) rfl rfl ?_; rintro _ _ _ ⟨rfl, rfl, rfl⟩; refine ⟨okF, ?_⟩)
 repeat (refine aK ?_)
 (refine aA rfl (hDt _ _ aB) rfl rfl ?_; rintro _ _ _ ⟨rfl, e, rfl, he, rfl⟩; refine ⟨okF, ?_⟩)
 repeat (refine aK ?_)
 (refine aA rfl (uG (e := e) (k := hD u 3) (by omega) (Hv.mem aB)) rfl rfl ?_; rintro _ _ _ ⟨rfl, rfl, rfl⟩; refine ⟨okF, ?_⟩)
 repeat (refine aK ?_)
 refine gZ (M' := M0) (I' := I0) aD aC ?_
 refine aH (by first | exact .inl rfl | exact .inr rfl) rfl rfl _ _ aD aC (⟨rfl, rfl, congrArg Value.bool (gY (by rw [← he]; exact not_congr aLU))⟩)
def RefR (o : Option Mt) (k : Nat) (M0 : List Ent) (I0 : List aY) (v : Value) (M : List Ent) (I : List aY) : Prop := M0 = M ∧ match o with
 | none => I0 = I ∧ v = .tuple #[.slice none 0 0, .int .i64 13]
 | some A => ∃ m : MX, v = .tuple #[mv m, .int .i64 0] ∧ m.q = A ∧ m.dim 3 3 ∧ I = jF m k :: I0
theorem aPG {kd : Nat} {q qs_ : Option Addr} {l : List Q4} {smp : List Int} {n c ns cs_ : Nat} (hk : kd ≤ 2) (hl : l.length = n) (hn : n ≤ 64) (hs : ∀ s ∈ l, s.near) (hc : kK l = 0) (hsl : smp.length = ns) (hns : ns ≤ 64) (hls : xX n smp = 0) (hq : aO q (recs kU l) ∈ I0) (hqs : aO qs_ (recs eZ smp) ∈ I0) :
  CD Tryz.prog 40 [.int .i64 (kd : Int), .slice q n c, .slice qs_ ns cs_] X w0 M0 I0 (RefR (pY kd (kH l smp)) kX M0 I0) := by
 have hK := fun M0 I0 h => uJ (X := X) (w0 := w0) (M0 := M0) (I0 := I0) (x := (kd : Int)) (q := q) (l := l) (n := n) (c := c) hl (by omega) h
 rw [aDZ (by omega) hc] at hK
 have hLs := fun M0 I0 h => aAC (X := X) (w0 := w0) (M0 := M0) (I0 := I0) (q := q) (qs := qs_) (l := l) (smp := smp) (n := n) (c := c) (ns := ns) (cs := cs_) hl (by omega) hsl (by omega) h
 rw [hls] at hLs
 have hM := fun M0 I0 h1 h2 => aMR (X := X) (w0 := w0) (M0 := M0) (I0 := I0) (kd := kd) (q := q) (qs := qs_) (l := l) (smp := smp) (n := n) (c := c) (ns := ns) (cs := cs_) hk hl hn hs hsl hns (aUD hls) h1 h2
 unfold RefR
 unfold aMB at hM
 generalize pY kd (kH l smp) = o at *
 refine jU Tryz.func40 rfl Tryz.ntmps40 rfl ?_
 repeat (refine aK ?_)
 (refine aA rfl (hK _ _ aB) rfl rfl ?_; rintro _ _ _ ⟨rfl, rfl, rfl⟩; refine ⟨okF, ?_⟩)
 repeat (refine aK ?_)
 (refine aA rfl (hLs _ _ aB) rfl rfl ?_; rintro _ _ _ ⟨rfl, rfl, rfl⟩; refine ⟨okF, ?_⟩)
 rcases o with _ | A
 ·repeat (refine aK ?_)
  (refine aA rfl (hM _ _ aB aB) rfl rfl ?_; rintro _ _ _ ⟨rfl, rfl, u, rfl⟩; refine ⟨okF, ?_⟩)
  repeat (refine aK ?_)
  refine eP [6, 7] (by first | exact .inl rfl | exact .inr rfl) rfl rfl rfl _ _ aD aC (⟨rfl, rfl, rfl⟩)
 ·repeat (refine aK ?_)
  (refine aA rfl (hM _ _ aB aB) rfl rfl ?_; rintro _ _ _ ⟨rfl, m, rfl, hmq, hmd, rfl⟩; refine ⟨okF, ?_⟩)
  repeat (refine aK ?_)
  refine eP [6, 7] (by first | exact .inl rfl | exact .inr rfl) rfl rfl rfl _ _ aD aC (⟨rfl, m, rfl, hmq, hmd, rfl⟩)
end
end Go.Proofs.YtjbhdfpjnjedhaaGreat
namespace Go.Proofs.YtjbhdfpjnjedhaaGreat
open Go Go.Fx
section
variable {X : List Nat} {w0 : World} {M0 M1 M2 : List Ent} {I0 : List aY}
theorem aHM {x : Int} : CD Tryz.prog 13 [.int .i64 x] X w0 M0 I0 (fun v M I => M0 = M ∧ I0 = I ∧ v = .bool (B (kdP x))) := by
 refine aZ Tryz.func13 rfl Tryz.ntmps13 rfl ?_
 by_cases h0 : 0 ≤ x
 ·repeat (refine aK ?_)
  refine aH (by first | exact .inl rfl | exact .inr rfl) rfl rfl _ _ aD aC (⟨rfl, rfl, congrArg Value.bool (gY ⟨fun h => ⟨h0, h⟩, fun h => h.2⟩)⟩)
 ·repeat (refine aK ?_)
  refine aH (by first | exact .inl rfl | exact .inr rfl) rfl rfl _ _ aD aC (⟨rfl, rfl, congrArg Value.bool (bB (fun h => h0 h.1)).symm⟩)
theorem aBM {a b : MX} {k m : Nat} (hk : k + m + 1 ≤ 100000000000) (da : a.dim 3 3) (db : b.dim 3 3) (ha : jF a k ∈ I0) (hb : jF b m ∈ I0) :
  CD Tryz.prog 18 [mv a, mv b] X w0 M0 I0 (fun v M I => M0 = M ∧ I0 = I ∧ v = .bool (B (a.q = b.q))) := by
 have hS := fun M0 I0 h1 h2 => aCJ (X := X) (w0 := w0) (M0 := M0) (I0 := I0) (a := a) (b := b) (n := 3) (C := 3) (k := k) (m := m) hk (by omega) (by omega) da db h1 h2
 refine aX Tryz.func18 rfl Tryz.ntmps18 rfl ?_
 repeat (refine aK ?_)
 (refine aA rfl (hS _ _ aB aB) rfl rfl ?_; rintro _ _ _ ⟨rfl, rfl, rfl⟩; refine ⟨okF, ?_⟩)
 repeat (refine aK ?_)
 refine aH (by first | exact .inl rfl | exact .inr rfl) rfl rfl _ _ aD aC (⟨rfl, rfl, rfl⟩)
end
end Go.Proofs.YtjbhdfpjnjedhaaGreat

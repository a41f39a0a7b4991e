/- consensus.Densest. consensus: samples, for any visitor. -/
import Derived.Test.YtjbhdfpjnjedhaaGreatZpbd
import Derived.Test.YtjbhdfpjnjedhaaGreatZpbf
import Derived.Test.YtjbhdfpjnjedhaaGreatZpbj
import Derived.Test.YtjbhdfpjnjedhaaGreatZpan
set_option linter.unusedSimpArgs false
set_option linter.unusedVariables false
set_option maxRecDepth 100000
set_option maxHeartbeats 4000000
namespace Go.Proofs.YtjbhdfpjnjedhaaGreat
open Go Go.Fx
def oW (l : List Q4) : List (Int × Int) := l.map (fun s => (s.u - s.x, s.v - s.y))
def dxs (l : List Q4) : List Int := l.map (fun s => s.u - s.x)
def dys (l : List Q4) : List Int := l.map (fun s => s.v - s.y)
theorem aAS {l : List Q4} {s : Q4} : dxs (l ++ [s]) = dxs l ++ [s.u - s.x] := by simp [dxs]
theorem aAG {l : List Q4} {s : Q4} : dys (l ++ [s]) = dys l ++ [s.v - s.y] := by simp [dys]
theorem aSQ {l : List Q4} : (dxs l).length = l.length := by simp [dxs]
theorem aSF {l : List Q4} : (dys l).length = l.length := by simp [dys]
theorem aRP {l : List Q4} : (oW l).length = l.length := by simp [oW]
theorem aUG {l : List Q4} {z : Int} : z ∈ dxs l ↔ ∃ d ∈ oW l, d.1 = z := by
 simp only [dxs, oW, List.mem_map]
 exact ⟨fun ⟨a, h, e⟩ => ⟨_, ⟨a, h, rfl⟩, e⟩, fun ⟨_, ⟨a, h, rfl⟩, e⟩ => ⟨a, h, e⟩⟩
theorem aJP {l : List Q4} {z : Int} : z ∈ dys l ↔ ∃ d ∈ oW l, d.2 = z := by
 simp only [dys, oW, List.mem_map]
 exact ⟨fun ⟨a, h, e⟩ => ⟨_, ⟨a, h, rfl⟩, e⟩, fun ⟨_, ⟨a, h, rfl⟩, e⟩ => ⟨a, h, e⟩⟩
theorem aVR {l : List Q4} {i : Nat} (h : i < l.length) : gt (dxs l) (i : Int) = ((oW l).getD i (0, 0)).1 ∧ gt (dys l) (i : Int) = ((oW l).getD i (0, 0)).2 := by
 constructor <;> simp [gt, dxs, dys, oW, List.getD, h]
theorem aVY {l : List Q4} (hs : ∀ s ∈ l, s.near) : ∀ z ∈ dxs l, -65536 ≤ z ∧ z ≤ 65536 := fun z hz => by
 obtain ⟨s, h, rfl⟩ := List.mem_map.1 hz
 obtain ⟨n1, n2, n3, n4⟩ := hs s h
 omega
theorem aWJ {l : List Q4} (hs : ∀ s ∈ l, s.near) : ∀ z ∈ dys l, -65536 ≤ z ∧ z ≤ 65536 := fun z hz => by
 obtain ⟨s, h, rfl⟩ := List.mem_map.1 hz
 obtain ⟨n1, n2, n3, n4⟩ := hs s h
 omega
theorem aHR {l : List (Int × Int)} {t X Y : Int} {i : Nat} (h : i < l.length) : (l.take (i + 1)).countP (aCL t X Y) = (l.take i).countP (aCL t X Y) + (if aCL t X Y (l.getD i (0, 0)) = true then 1 else 0) := by
 have e : l.take (i + 1) = l.take i ++ [l[i]] := (List.take_append_getElem h).symm
 have e2 : l.getD i (0, 0) = l[i] := by simp [List.getD, h]
 rw [e, e2, List.countP_append, List.countP_singleton]
def tolD (t : Int) : Prop := 0 ≤ t ∧ t ≤ 32768
instance tolD.dec (x : Int) : Decidable (tolD x) := inferInstanceAs (Decidable (0 ≤ x ∧ x ≤ 32768))
def densC (l : List Q4) (t : Int) : Int := if kK l = 0 then (if tolD t then 0 else 2) else kK l
abbrev zP2 : List Value := [.int .i64 0, .int .i64 0]
section
variable {X : List Nat} {w0 : World} {M0 M1 M2 : List Ent} {I0 : List aY}
theorem aTV {tol : Int} {q : Option Addr} {l : List Q4} {n c : Nat} (hl : l.length = n) (hn : n ≤ 12) (hck : kK l = 0) (ht : tolD tol) (hq : aO q (recs kU l) ∈ I0) :
  CD Tryz.prog 22 [.slice q n c, .int .i64 tol] X w0 M0 I0 (fun v M I => M0 = M ∧ I0 = I ∧ ∃ (X Y : Int) (N : Nat), (0 < N ∧ BestD (oW l) tol X Y N) ∧ v = .tuple #[.agg #[.int .i64 (X - tol), .int .i64 (Y - tol)], .int .i64 (N : Int), .int .i64 0]) := by
 have hK := fun M0 I0 h => xR (X := X) (w0 := w0) (M0 := M0) (I0 := I0) (q := q) (l := l) (n := n) (c := c) hl (by omega) h
 rw [hck] at hK
 obtain ⟨⟨hn1, _⟩, hs⟩ := zQ hck
 rw [hl] at hn1
 obtain ⟨ht1, ht2⟩ := ht
 refine cZ (φ := aO q (recs kU l)) (Hv.mem hq) ?_
 refine aX Tryz.func22 rfl Tryz.ntmps22 rfl ?_
 refine aG ?_
 refine aJ ?_
 (refine aI rfl rfl ?_; intro b4; refine ⟨okF, ?_⟩)
 repeat (refine aK ?_)
 (refine aA rfl (hK _ _ aB) rfl rfl ?_; rintro _ _ _ ⟨rfl, rfl, rfl⟩; refine ⟨okF, ?_⟩)
 repeat (refine aK ?_)
 refine mM 3 1 ?_
 refine mM 3 1 ?_
 refine aT [1, 4, 37, 38] rfl (fun k G M I => ∃ (i : Nat) (xs ys : List Int) (qx qy : Option Addr) (cx cy : Nat), i ≤ n ∧ k = n - i ∧ xs = dxs (l.take i) ∧ ys = dys (l.take i) ∧ G = [(8, .slice qx xs.length cx), (9, .slice qy ys.length cy), (39, .int .i64 i)] ∧ M = .row qx xs.length cx (recs eZ xs) 3 1 :: .row qy ys.length cy (recs eZ ys) 3 1 :: .blk b4 zP2 56 :: M0 ∧ I = aO q (recs kU l) :: I0) (n) _ _ _ aP aD aC (⟨0, [], [], none, none, 0, 0, by omega, rfl, rfl, rfl, rfl, rfl, rfl⟩) ?_
 rintro kk G M I ⟨i, xs, ys, qx, qy, cx, cy, hi, rfl, hxs, hys, rfl, rfl, rfl⟩
 have hxl : xs.length = i := by rw [hxs, aSQ, List.length_take]; omega
 have hyl : ys.length = i := by rw [hys, aSF, List.length_take]; omega
 by_cases hin : i < n
 ·have hmem := dF (ms := l) (i := (i : Int)) (by omega)
  have htk : l.take (i + 1) = l.take i ++ [gt l (i : Int)] := by rw [gtQ (by omega)]; exact (List.take_append_getElem (by omega)).symm
  obtain ⟨s, hss⟩ : ∃ s, gt l (i : Int) = s := ⟨_, rfl⟩
  rw [hss] at hmem htk
  obtain ⟨n1, n2, n3, n4⟩ := hs s hmem
  repeat (refine aK ?_)
  rw [hss]
  (refine aI rfl rfl ?_; intro b11; refine ⟨okF, ?_⟩)
  repeat (refine aK ?_)
  ((repeat refine aG ?_); refine mP (.blk b11 (kU s) 65 :: M0) (aO q (recs kU l) :: I0) mixed ?_)
  refine iQ (fuel := 6) (listed' := #[true, true, true, true, true, true, true, true, false, false, true, true, true, true, true, true, true, true, false, false, false, false]) [0, 1, 2, 3, 4, 5, 6, 7, 10, 11, 12, 13, 14, 15, 16, 17] [3, 4, 4, 4, 4, 4, 4, 3, 3, 4, 4, 4, 4, 4, 4, 3] aD aC (by kernel_rfl) (by kernel_rfl) rfl rfl ?_
  repeat (refine aK ?_)
  refine bW (fuel := 5) (i := 8) (j := 18) (by kernel_rfl) ?_ ?_
  ·(refine aQ (cs := recs eZ [s.u - s.x]) ([.int .i64 (s.u - s.x)]) rfl rfl (by intro v hv; repeat (first | exact absurd hv (List.not_mem_nil) | (rcases List.mem_cons.1 hv with rfl | hv; · rfl))) (by omega) rfl rfl rfl ?_; intro bx; refine ⟨okF, ?_⟩)
   refine bH ?_
   repeat (refine aK ?_)
   refine bW (fuel := 4) (i := 9) (j := 18) (by kernel_rfl) ?_ ?_
   ·(first | (refine dI (ys := [s.u - s.x]) 2 rfl rfl rfl ?_ (by decide) rfl (by omega) (by omega) rfl rfl ?_; (· exact Src.blk aB); intro qx2 cx2; simp only [List.set_cons_succ, List.set_cons_zero]; refine ⟨okF, ?_⟩) | (refine dI (ys := [s.u - s.x]) 3 rfl rfl rfl ?_ (by decide) rfl (by omega) (by omega) rfl rfl ?_; (· exact Src.blk aB); intro qx2 cx2; simp only [List.set_cons_succ, List.set_cons_zero]; refine ⟨okF, ?_⟩))
    refine bH ?_
    refine bE [18, 19, 20, 21] [0, 0, 0, 0] aD aC (by kernel_rfl) (by kernel_rfl) rfl rfl ?_
    repeat (refine aK ?_)
    (refine aQ (cs := recs eZ [s.v - s.y]) ([.int .i64 (s.v - s.y)]) rfl rfl (by intro v hv; repeat (first | exact absurd hv (List.not_mem_nil) | (rcases List.mem_cons.1 hv with rfl | hv; · rfl))) (by omega) rfl rfl rfl ?_; intro by2; refine ⟨okF, ?_⟩)
    repeat (refine aK ?_)
    (refine dI (ys := [s.v - s.y]) 4 rfl rfl rfl ?_ (by decide) rfl (by omega) (by omega) rfl rfl ?_; (· exact Src.blk aB); intro qy2 cy2; simp only [List.set_cons_succ, List.set_cons_zero]; refine ⟨okF, ?_⟩)
    repeat (refine aK ?_)
    refine aL (n - (i + 1)) _ _ _ (by first | omega | (simp only [List.length_append, List.length_cons, List.length_nil]; omega)) aP aD aC (⟨i + 1, xs ++ [s.u - s.x], ys ++ [s.v - s.y], qx2, qy2, cx2, cy2, by omega, rfl, by rw [htk, aAS, ← hxs], by rw [htk, aAG, ← hys], rfl, rfl, rfl⟩)
   ·(refine aQ (cs := recs eZ [s.v - s.y]) ([.int .i64 (s.v - s.y)]) rfl rfl (by intro v hv; repeat (first | exact absurd hv (List.not_mem_nil) | (rcases List.mem_cons.1 hv with rfl | hv; · rfl))) (by omega) rfl rfl rfl ?_; intro by2; refine ⟨okF, ?_⟩)
    refine bH ?_
    refine bE [9, 19, 20, 21] [0, 0, 0, 0] aD aC (by kernel_rfl) (by kernel_rfl) rfl rfl ?_
    repeat (refine aK ?_)
    (first | (refine dI (ys := [s.u - s.x]) 2 rfl rfl rfl ?_ (by decide) rfl (by omega) (by omega) rfl rfl ?_; (· exact Src.blk aB); intro qx2 cx2; simp only [List.set_cons_succ, List.set_cons_zero]; refine ⟨okF, ?_⟩) | (refine dI (ys := [s.u - s.x]) 3 rfl rfl rfl ?_ (by decide) rfl (by omega) (by omega) rfl rfl ?_; (· exact Src.blk aB); intro qx2 cx2; simp only [List.set_cons_succ, List.set_cons_zero]; refine ⟨okF, ?_⟩))
    repeat (refine aK ?_)
    (refine dI (ys := [s.v - s.y]) 4 rfl rfl rfl ?_ (by decide) rfl (by omega) (by omega) rfl rfl ?_; (· exact Src.blk aB); intro qy2 cy2; simp only [List.set_cons_succ, List.set_cons_zero]; refine ⟨okF, ?_⟩)
    repeat (refine aK ?_)
    refine aL (n - (i + 1)) _ _ _ (by first | omega | (simp only [List.length_append, List.length_cons, List.length_nil]; omega)) aP aD aC (⟨i + 1, xs ++ [s.u - s.x], ys ++ [s.v - s.y], qx2, qy2, cx2, cy2, by omega, rfl, by rw [htk, aAS, ← hxs], by rw [htk, aAG, ← hys], rfl, rfl, rfl⟩)
  ·(refine aQ (cs := recs eZ [s.v - s.y]) ([.int .i64 (s.v - s.y)]) rfl rfl (by intro v hv; repeat (first | exact absurd hv (List.not_mem_nil) | (rcases List.mem_cons.1 hv with rfl | hv; · rfl))) (by omega) rfl rfl rfl ?_; intro by2; refine ⟨okF, ?_⟩)
   refine bH ?_
   refine bE [8, 9, 19, 20, 21] [0, 0, 0, 0, 0] aD aC (by kernel_rfl) (by kernel_rfl) rfl rfl ?_
   repeat (refine aK ?_)
   (refine aQ (cs := recs eZ [s.u - s.x]) ([.int .i64 (s.u - s.x)]) rfl rfl (by intro v hv; repeat (first | exact absurd hv (List.not_mem_nil) | (rcases List.mem_cons.1 hv with rfl | hv; · rfl))) (by omega) rfl rfl rfl ?_; intro bx; refine ⟨okF, ?_⟩)
   repeat (refine aK ?_)
   (first | (refine dI (ys := [s.u - s.x]) 2 rfl rfl rfl ?_ (by decide) rfl (by omega) (by omega) rfl rfl ?_; (· exact Src.blk aB); intro qx2 cx2; simp only [List.set_cons_succ, List.set_cons_zero]; refine ⟨okF, ?_⟩) | (refine dI (ys := [s.u - s.x]) 3 rfl rfl rfl ?_ (by decide) rfl (by omega) (by omega) rfl rfl ?_; (· exact Src.blk aB); intro qx2 cx2; simp only [List.set_cons_succ, List.set_cons_zero]; refine ⟨okF, ?_⟩))
   repeat (refine aK ?_)
   (refine dI (ys := [s.v - s.y]) 4 rfl rfl rfl ?_ (by decide) rfl (by omega) (by omega) rfl rfl ?_; (· exact Src.blk aB); intro qy2 cy2; simp only [List.set_cons_succ, List.set_cons_zero]; refine ⟨okF, ?_⟩)
   repeat (refine aK ?_)
   refine aL (n - (i + 1)) _ _ _ (by first | omega | (simp only [List.length_append, List.length_cons, List.length_nil]; omega)) aP aD aC (⟨i + 1, xs ++ [s.u - s.x], ys ++ [s.v - s.y], qx2, qy2, cx2, cy2, by omega, rfl, by rw [htk, aAS, ← hxs], by rw [htk, aAG, ← hys], rfl, rfl, rfl⟩)
 ·obtain rfl : i = n := by omega
  rw [← hl, List.take_length] at hxs hys
  have hxb := aVY hs
  have hyb := aWJ hs
  rw [← hxs] at hxb
  rw [← hys] at hyb
  have hat : ∀ t : Nat, t < i → gt xs (t : Int) = ((oW l).getD t (0, 0)).1 ∧ gt ys (t : Int) = ((oW l).getD t (0, 0)).2 := fun t ht => by rw [hxs, hys]; exact aVR (by omega)
  have hdl : (oW l).length = i := by rw [aRP]; exact hl
  obtain ⟨xl, hxl2⟩ : ∃ z, mG (yC id xs) = z := ⟨_, rfl⟩
  obtain ⟨cl, hcl⟩ : ∃ z, mG (yC id ys) = z := ⟨_, rfl⟩
  have hxa : aFA xl := by rw [← hxl2]; exact aEQ (aEZ id xs)
  have hca : aFA cl := by rw [← hcl]; exact aEQ (aEZ id ys)
  have hxm : ∀ z, z ∈ xl ↔ z ∈ xs := fun z => by rw [← hxl2, zD]; exact zN id z _ xs rfl
  have hcm : ∀ z, z ∈ cl ↔ z ∈ ys := fun z => by rw [← hcl, zD]; exact zN id z _ ys rfl
  have hxll : xl.length ≤ i := by rw [← hxl2]; exact Nat.le_trans (aEB _) (by rw [wK]; omega)
  have hcd : ∀ d ∈ oW l, d.2 ∈ cl := fun d hd => (hcm _).2 (by rw [hys]; exact aJP.2 ⟨d, hd, rfl⟩)
  have hl0 : oW l ≠ [] := fun e => by rw [e] at hdl; simp at hdl; omega
  repeat (refine aK ?_)
  refine eU .here ?_
  refine eU .here ?_
  (refine aA rfl (aDR) rfl rfl ?_; rintro _ _ _ ⟨rfl, bvx, rfl, rfl⟩; refine ⟨okF, ?_⟩)
  repeat (refine aK ?_)
  (refine aA rfl (aAT (q := qx) (zs := xs) (c := cx) (b := bvx) rfl (by omega) aB aB) rfl rfl ?_; rintro _ _ _ ⟨rfl, b12, c12, tx, rfl, hc12, rfl⟩; refine ⟨okF, ?_⟩)
  repeat (refine aK ?_)
  (refine aA rfl (aDR) rfl rfl ?_; rintro _ _ _ ⟨rfl, bvy, rfl, rfl⟩; refine ⟨okF, ?_⟩)
  repeat (refine aK ?_)
  (refine aA rfl (aAT (q := qy) (zs := ys) (c := cy) (b := bvy) rfl (by omega) aB aB) rfl rfl ?_; rintro _ _ _ ⟨rfl, b13, c13, ty, rfl, hc13, rfl⟩; refine ⟨okF, ?_⟩)
  repeat (refine aK ?_)
  (refine aI rfl rfl ?_; intro b14; refine ⟨okF, ?_⟩)
  repeat (refine aK ?_)
  refine uY (M' := .blk b12 (recs eZ (yC id xs) ++ tx) 3 :: .blk b13 (recs eZ (yC id ys) ++ ty) 3 :: .blk b14 zP2 56 :: .blk b4 zP2 56 :: M0) (I' := aO qy (recs eZ ys) :: aO qx (recs eZ xs) :: I0) aD aC ?_
  (refine aA rfl (aAN (n := xs.length) (c := c12) (D := yC id xs) (tl := tx) (wK id xs) (by omega) hc12) rfl rfl ?_; rintro _ _ _ ⟨rfl, rfl, rfl⟩; refine ⟨okF, ?_⟩)
  rw [hxl2]
  rw [show recs eZ (xl ++ List.replicate (xs.length - xl.length) 0) ++ tx = recs eZ xl ++ (recs eZ (List.replicate (xs.length - xl.length) 0) ++ tx) by rw [mZ, List.append_assoc]]
  refine bC .here ?_
  refine aRT (cs := recs eZ xl) (tl := recs eZ (List.replicate (xs.length - xl.length) 0) ++ tx) aB ?_
  repeat (refine aK ?_)
  refine aEJ (M' := .blk b13 (recs eZ (yC id ys) ++ ty) 3 :: .blk b14 [.int .i64 0, .int .i64 0] 56 :: .blk b4 zP2 56 :: M0) (I' := aO (some ⟨b12, 0, none⟩) (recs eZ xl) :: aO qy (recs eZ ys) :: aO qx (recs eZ xs) :: I0) aD aC ?_
  refine aT [1, 4, 8, 9, 13, 14, 71, 72] rfl (fun k G M I => ∃ (a : Nat) (E : List Int) (bx by_ : Int) (most : Nat), a ≤ xl.length ∧ k = xl.length - a ∧ E.length = ys.length ∧ (∃ z, mG E = cl ++ List.replicate z 0) ∧ most ≤ i ∧ BInv (oW l) tol (Vis xl cl a 0) (bx + tol) (by_ + tol) most ∧ G = [(15, .int .i64 most), (73, .int .i64 a)] ∧ M = .blk b13 (recs eZ E ++ ty) 3 :: .blk b14 [.int .i64 bx, .int .i64 by_] 56 :: .blk b4 zP2 56 :: M0 ∧ I = aO (some ⟨b12, 0, none⟩) (recs eZ xl) :: aO qy (recs eZ ys) :: aO qx (recs eZ xs) :: I0) (xl.length) _ _ _ aP aD aC (⟨0, yC id ys, 0, 0, 0, by omega, rfl, wK id ys, ⟨0, by rw [hcl]; simp⟩, by omega, aLY, rfl, rfl, rfl⟩) ?_
  rintro kk G M I ⟨a, E, bx, by_, most, ha, rfl, hE, ⟨z, hz⟩, hmi, hB, rfl, rfl, rfl⟩
  by_cases hax : a < xl.length
  ·have hxx := hxb _ ((hxm _).1 (dF (ms := xl) (i := (a : Int)) (by omega)))
   have hCl : (mG E).length ≤ ys.length := by rw [← hE]; exact aEB E
   repeat (refine aK ?_)
   (refine aA rfl (aAN (n := ys.length) (c := c13) (D := E) (tl := ty) hE (by omega) hc13) rfl rfl ?_; rintro _ _ _ ⟨rfl, rfl, rfl⟩; refine ⟨okF, ?_⟩)
   obtain ⟨E2, hE2⟩ : ∃ E2, mG E ++ List.replicate (ys.length - (mG E).length) 0 = E2 := ⟨_, rfl⟩
   have hE2l : E2.length = ys.length := by rw [← hE2, List.length_append, List.length_replicate]; omega
   have hE2c : E2 = cl ++ List.replicate (z + (ys.length - (mG E).length)) 0 := by rw [← hE2, hz, List.append_assoc, List.replicate_append_replicate]
   have hE2z : ∃ z, mG E2 = cl ++ List.replicate z 0 := by
    obtain ⟨z2, _, h⟩ := xK hca (z + (ys.length - (mG E).length))
    exact ⟨z2, by rw [hE2c]; exact h⟩
   have hclE : cl.length ≤ (mG E).length := by rw [hz, List.length_append]; omega
   obtain ⟨m, hm⟩ : ∃ m, (mG E).length = m := ⟨_, rfl⟩
   rw [hE2, hm]
   rw [hm] at hCl hclE
   clear hE2 hz hm
   have hE2g : ∀ j : Nat, j < m → (j < cl.length → gt E2 (j : Int) = gt cl (j : Int)) ∧ (¬ j < cl.length → gt E2 (j : Int) = 0) := fun j hj => by
    rw [hE2c, aPZ]
    constructor
    ·intro h; rw [if_pos h]
    ·intro h
     rw [if_neg h]
     have hlt : j - cl.length < (List.replicate (z + (ys.length - (mG E).length)) (0 : Int)).length := by
      have := congrArg List.length hE2c
      rw [List.length_append, List.length_replicate] at this
      rw [List.length_replicate]; omega
     rw [fT hlt]; simp
   repeat (refine aK ?_)
   refine aT [1, 4, 8, 9, 13, 14, 17, 71, 72, 73, 78, 79] rfl (fun k G M I => ∃ (j : Nat) (bx by_ : Int) (most : Nat), j ≤ m ∧ k = m - j ∧ most ≤ i ∧ BInv (oW l) tol (Vis xl cl a j) (bx + tol) (by_ + tol) most ∧ G = [(15, .int .i64 most), (80, .int .i64 j)] ∧ M = .blk b13 (recs eZ E2 ++ ty) 3 :: .blk b14 [.int .i64 bx, .int .i64 by_] 56 :: .blk b4 zP2 56 :: M0 ∧ I = aO (some ⟨b12, 0, none⟩) (recs eZ xl) :: aO qy (recs eZ ys) :: aO qx (recs eZ xs) :: I0) (m) _ _ _ aP aD aC (⟨0, bx, by_, most, by omega, rfl, hmi, hB, rfl, rfl, rfl⟩) ?_
   rintro kk G M I ⟨j, bx, by_, most, hj, rfl, hmi, hB, rfl, rfl, rfl⟩
   by_cases hjm : j < m
   ·have hg := hE2g j hjm
    obtain ⟨x, hxe⟩ : ∃ x, gt xl (a : Int) = x := ⟨_, rfl⟩
    obtain ⟨y, hye⟩ : ∃ y, gt E2 (j : Int) = y := ⟨_, rfl⟩
    have hyy : -65536 ≤ y ∧ y ≤ 65536 := by
     by_cases h : j < cl.length
     ·rw [← hye, hg.1 h]; exact hyb _ ((hcm _).1 (dF (ms := cl) (i := (j : Int)) (by omega)))
     ·rw [← hye, hg.2 h]; omega
    rw [hye] at hg
    repeat (refine aK ?_)
    rw [hye, hxe]
    rw [hxe] at hxx
    repeat (refine aK ?_)
    refine aT [1, 4, 8, 9, 13, 14, 15, 17, 19, 20, 21, 71, 72, 73, 78, 79, 80, 91] rfl (fun k G M I => ∃ (t N : Nat), t ≤ i ∧ k = i - t ∧ N = ((oW l).take t).countP (aCL tol x y) ∧ G = [(22, .int .i64 N), (92, .int .i64 t)] ∧ M = .blk b13 (recs eZ E2 ++ ty) 3 :: .blk b14 [.int .i64 bx, .int .i64 by_] 56 :: .blk b4 zP2 56 :: M0 ∧ I = aO (some ⟨b12, 0, none⟩) (recs eZ xl) :: aO qy (recs eZ ys) :: aO qx (recs eZ xs) :: I0) (i) _ _ _ aP aD aC (⟨0, 0, by omega, rfl, rfl, rfl, rfl, rfl⟩) ?_
    rintro kk G M I ⟨t, N, ht, rfl, hN, rfl, rfl, rfl⟩
    have hNt : N ≤ t := by rw [hN]; exact Nat.le_trans List.countP_le_length (by rw [List.length_take]; omega)
    by_cases hti : t < i
    ·obtain ⟨g1, g2⟩ := hat t hti
     have hcs := aHR (t := tol) (X := x) (Y := y) (l := oW l) (i := t) (by omega)
     rw [← hN] at hcs
     have d1 := hxb _ (dF (ms := xs) (i := (t : Int)) (by omega))
     have d2 := hyb _ (dF (ms := ys) (i := (t : Int)) (by omega))
     have hiff : aCL tol x y ((oW l).getD t (0, 0)) = true ↔ (x - tol - tol ≤ gt xs (t : Int) ∧ gt xs (t : Int) ≤ x) ∧ (y - tol - tol ≤ gt ys (t : Int) ∧ gt ys (t : Int) ≤ y) := by
      rw [g1, g2]
      simp only [aCL, decide_eq_true_eq]
      omega
     by_cases h1 : x - tol - tol ≤ gt xs (t : Int)
     ·by_cases h2 : gt xs (t : Int) ≤ x
      ·by_cases h3 : y - tol - tol ≤ gt ys (t : Int)
       ·by_cases h4 : gt ys (t : Int) ≤ y
        ·rw [if_pos (hiff.2 ⟨⟨h1, h2⟩, h3, h4⟩)] at hcs
         repeat (refine aK ?_)
         refine aL (i - (t + 1)) _ _ _ (by first | omega | (simp only [List.length_append, List.length_cons, List.length_nil]; omega)) aP aD aC (⟨t + 1, N + 1, by omega, by omega, hcs.symm, rfl, rfl, rfl⟩)
        ·rw [if_neg (fun h => h4 (hiff.1 h).2.2)] at hcs
         repeat (refine aK ?_)
         refine aL (i - (t + 1)) _ _ _ (by first | omega | (simp only [List.length_append, List.length_cons, List.length_nil]; omega)) aP aD aC (⟨t + 1, N, by omega, by omega, hcs.symm, rfl, rfl, rfl⟩)
       ·rw [if_neg (fun h => h3 (hiff.1 h).2.1)] at hcs
        repeat (refine aK ?_)
        refine aL (i - (t + 1)) _ _ _ (by first | omega | (simp only [List.length_append, List.length_cons, List.length_nil]; omega)) aP aD aC (⟨t + 1, N, by omega, by omega, hcs.symm, rfl, rfl, rfl⟩)
      ·rw [if_neg (fun h => h2 (hiff.1 h).1.2)] at hcs
       repeat (refine aK ?_)
       refine aL (i - (t + 1)) _ _ _ (by first | omega | (simp only [List.length_append, List.length_cons, List.length_nil]; omega)) aP aD aC (⟨t + 1, N, by omega, by omega, hcs.symm, rfl, rfl, rfl⟩)
     ·rw [if_neg (fun h => h1 (hiff.1 h).1.1)] at hcs
      repeat (refine aK ?_)
      refine aL (i - (t + 1)) _ _ _ (by first | omega | (simp only [List.length_append, List.length_cons, List.length_nil]; omega)) aP aD aC (⟨t + 1, N, by omega, by omega, hcs.symm, rfl, rfl, rfl⟩)
    ·obtain rfl : t = i := by omega
     rw [← hdl, List.take_length] at hN
     have hNc : N = pX (oW l) tol x y := hN
     by_cases hgt : most < N
     ·have hB2 : BInv (oW l) tol (Vis xl cl a (j + 1)) (x - tol + tol) (y - tol + tol) N := by
       rw [Int.sub_add_cancel, Int.sub_add_cancel]
       by_cases h : j < cl.length
       ·have := (aGT hxa hca hB hax h).1
        rw [hxe, ← hg.1 h, ← hNc] at this
        exact this hgt
       ·have := (aGK (by omega) hax hcd hB y).1
        rw [hxe, ← hNc] at this
        omega
      repeat (refine aK ?_)
      (refine aF rfl (fun _ => oH (vals := [.int .i64 (x - tol), .int .i64 (y - tol)]) (cells := [.int .i64 (x - tol), .int .i64 (y - tol)]) rfl ?hpl rfl ?hz) rfl rfl ?_; (case hpl => repeat (first | exact True.intro | refine ⟨rfl, ?_⟩)); (case hz => rfl))
      repeat (refine aK ?_)
      refine aL (m - (j + 1)) _ _ _ (by first | omega | (simp only [List.length_append, List.length_cons, List.length_nil]; omega)) aP aD aC (⟨j + 1, x - tol, y - tol, N, by omega, rfl, by omega, hB2, rfl, rfl, rfl⟩)
     ·have hB2 : BInv (oW l) tol (Vis xl cl a (j + 1)) (bx + tol) (by_ + tol) most := by
       by_cases h : j < cl.length
       ·have := (aGT hxa hca hB hax h).2
        rw [hxe, ← hg.1 h, ← hNc] at this
        exact this hgt
       ·exact (aGK (by omega) hax hcd hB y).2
      repeat (refine aK ?_)
      refine aL (m - (j + 1)) _ _ _ (by first | omega | (simp only [List.length_append, List.length_cons, List.length_nil]; omega)) aP aD aC (⟨j + 1, bx, by_, most, by omega, rfl, hmi, hB2, rfl, rfl, rfl⟩)
   ·obtain rfl : j = m := by omega
    have hB2 := aQA hB hax hclE
    repeat (refine aK ?_)
    refine aL (xl.length - (a + 1)) _ _ _ (by first | omega | (simp only [List.length_append, List.length_cons, List.length_nil]; omega)) aP aD aC (⟨a + 1, E2, bx, by_, most, by omega, rfl, hE2l, hE2z, hmi, hB2, rfl, rfl, rfl⟩)
  ·obtain rfl : a = xl.length := by omega
   have hend := aUF hB (fun z => by rw [hxm, hxs]; exact aUG) (fun z => by rw [hcm, hys]; exact aJP) hl0 ht1
   repeat (refine aK ?_)
   refine gZ (M' := .blk b4 [.int .i64 bx, .int .i64 by_] 56 :: M0) (I' := I0) aD aC ?_
   refine fO (rs := [.cell 4 56, .tmp 5, .tmp 6]) (vs := [.agg [.int .i64 bx, .int .i64 by_].toArray, .int .i64 most, .int .i64 0]) (.inl rfl) rfl (.cellN (cs := [.int .i64 bx, .int .i64 by_]) inferInstance rfl aB rfl (.tmp rfl (.tmp rfl .nil))) rfl M0 I0 aD aC ⟨rfl, rfl, bx + tol, by_ + tol, most, hend, by rw [Int.add_sub_cancel, Int.add_sub_cancel]⟩
end
end Go.Proofs.YtjbhdfpjnjedhaaGreat
namespace Go.Proofs.YtjbhdfpjnjedhaaGreat
open Go Go.Fx
structure PreP (n a : Nat) (pre : List Int) : Prop where
 lt : ∀ x ∈ pre, 0 ≤ x ∧ x < n ∧ x < a
 asc : pre.Pairwise (· < ·)
theorem PreP.snoc {n a i : Nat} {pre : List Int} (h : PreP n a pre) (hai : a ≤ i) (hi : i < n) : PreP n (i + 1) (pre ++ [(i : Int)]) := by
 refine ⟨fun x hx => ?_, List.pairwise_append.2 ⟨h.asc, List.pairwise_singleton _ _, fun x hx y hy => ?_⟩⟩
 ·rcases List.mem_append.1 hx with hx | hx
  ·have := h.lt x hx; omega
  ·rw [List.mem_singleton.1 hx]; omega
 ·rw [List.mem_singleton.1 hy]
  have := h.lt x hx; omega
theorem PreP.smp {n a : Nat} {pre : List Int} (h : PreP n a pre) : SmpP n pre.length 0 pre := ⟨rfl, fun x hx => by have := h.lt x hx; omega, h.asc⟩
theorem aSU {vis : List (List Int)} {n k a m : Nat} {pre : List Int} :
  (vis ++ (xN n k a m).map (fun l => pre ++ l)) ++ (cmb n k (a + m + 1)).map (fun l => (pre ++ [((a + m : Nat) : Int)]) ++ l) = vis ++ (xN n k a (m + 1)).map (fun l => pre ++ l) := by
 rw [aDB, List.map_append, List.map_map, List.append_assoc]
 congr 2
 refine List.map_congr_left (fun l _ => ?_)
 simp
section
variable {σ : Type} (en : σ → Ent) (im : σ → aY) [∀ s, Fx.Good (im s)] (R : List (List Int) → σ → Prop)
variable {X : List Nat} {w0 : World} {M0 M1 : List Ent} {I0 : List aY}
set_option linter.unusedSectionVars false in
theorem aTL {n size b6 b4 b5 b3 b7 : Nat} {g : FuncId} [FnOk Tryz.prog g] {fs cs : Array Value} (hn : n ≤ 64) (hsz : size ≤ 8)
  (f4 : aO (some ⟨b4, 0, none⟩) [.int .i64 (size : Int)] ∈ I0) (f3 : aO (some ⟨b3, 0, none⟩) [.int .i64 (n : Int)] ∈ I0) (f5 : aO (some ⟨b5, 0, none⟩) [.func (.func g) fs cs] ∈ I0)
  (f7 : aO (some ⟨b7, 0, none⟩) [.func (.func 84) #[] #[.pointer (some ⟨b6, 0, none⟩), .pointer (some ⟨b4, 0, none⟩), .pointer (some ⟨b5, 0, none⟩), .pointer (some ⟨b3, 0, none⟩), .pointer (some ⟨b7, 0, none⟩)]] ∈ I0)
  (hV : ∀ (vis : List (List Int)) (s : σ) (l : List Int) (q : Option Addr) (c : Nat) (M2 : List Ent), R vis s → SmpP n size 0 l → CD Tryz.prog g (fs.toList ++ [.slice q size c] ++ cs.toList) X w0 (.row q size c (recs eZ l) 3 1 :: en s :: M2) (im s :: I0)
   (fun _ M I => ∃ s', R (vis ++ [l]) s' ∧ M = .row q size c (recs eZ l) 3 1 :: en s' :: M2 ∧ I = im s' :: I0)) :
  ∀ (k a : Nat) (ai : Int) (pre : List Int) (vis : List (List Int)) (s : σ) (q : Option Addr) (c pl : Nat), ai = (a : Int) → pl = pre.length → pl + k = size → a ≤ n → PreP n a pre → R vis s →
   CD Tryz.prog 84 [.int .i64 ai, .pointer (some ⟨b6, 0, none⟩), .pointer (some ⟨b4, 0, none⟩), .pointer (some ⟨b5, 0, none⟩), .pointer (some ⟨b3, 0, none⟩), .pointer (some ⟨b7, 0, none⟩)] X w0
    (.blk b6 [.slice q pl c] 32 :: .row q pl c (recs eZ pre) 3 1 :: en s :: M1) (im s :: I0)
    (fun _ M I => ∃ (s' : σ) (q' : Option Addr) (c' : Nat), R (vis ++ (cmb n k a).map (fun l => pre ++ l)) s' ∧ M = .blk b6 [.slice q' pl c'] 32 :: .row q' pl c' (recs eZ pre) 3 1 :: en s' :: M1 ∧ I = im s' :: I0) := by
 intro k
 induction k with
 | zero =>
  intro a ai pre vis s q c pl hai hpl hk han hp hR
  have hpz : pl = size := by omega
  have hsm : SmpP n size 0 pre := by rw [← hpz, hpl]; exact hp.smp
  have hVs := fun M2 => hV vis s pre q c M2 hR hsm
  rw [← hpz] at hVs f4
  have hfin : vis ++ [pre] = vis ++ (cmb n 0 a).map (fun l => pre ++ l) := by simp [cmb]
  refine aKB Tryz.func84 rfl Tryz.ntmps84 rfl ?_
  repeat (refine aK ?_)
  refine uY (M' := .row q pl c (recs eZ pre) 3 1 :: en s :: .blk b6 [.slice q pl c] 32 :: M1) (I' := im s :: I0) aD aC ?_
  (refine fD rfl rfl (hVs _) rfl rfl rfl ?_; rintro _ _ _ ⟨s2, hR2, rfl, rfl⟩; refine ⟨okF, ?_⟩)
  repeat (refine aK ?_)
  refine gZ (M' := .blk b6 [.slice q pl c] 32 :: .row q pl c (recs eZ pre) 3 1 :: en s2 :: M1) (I' := im s2 :: I0) aD aC ?_
  refine mK (by first | exact .inl rfl | exact .inr rfl) rfl _ _ aD aC (⟨s2, q, c, by rw [← hfin]; exact hR2, rfl, rfl⟩)
 | succ k0 ih =>
  intro a ai pre vis s q c pl hai hpl hk han hp hR
  subst hai
  subst hpl
  refine aKB Tryz.func84 rfl Tryz.ntmps84 rfl ?_
  repeat (refine aK ?_)
  refine aT [1, 2, 4, 5] rfl (fun k G M I => ∃ (m : Nat) (i : Int) (s : σ) (q : Option Addr) (c : Nat), m ≤ n - a ∧ i = ((a + m : Nat) : Int) ∧ k = n - a - m ∧ R (vis ++ (xN n k0 a m).map (fun l => pre ++ l)) s ∧ G = [(7, .int .i64 i)] ∧ M = .blk b6 [.slice q pre.length c] 32 :: .row q pre.length c (recs eZ pre) 3 1 :: en s :: M1 ∧ I = im s :: I0) (n - a) _ _ _ aP aD aC (⟨0, (a : Int), s, q, c, by omega, rfl, rfl, by rw [aLN]; simpa using hR, rfl, rfl, rfl⟩) ?_
  rintro kk G M I ⟨m, i, s, q, c, hm, hi, rfl, hR, rfl, rfl, rfl⟩
  by_cases hlt : a + m + (k0 + 1) ≤ n
  ·have hih := fun vis s q c hR => ih (a + m + 1) (i + 1) (pre ++ [i]) vis s q c (pre ++ [i]).length (by omega) rfl (by simp; omega) (by omega) (by rw [hi]; exact hp.snoc (by omega) (by omega)) hR
   have hl1 : (pre ++ [i]).length = pre.length + 1 := by simp
   repeat (refine aK ?_)
   (refine aQ (cs := recs eZ [i]) ([.int .i64 i]) rfl rfl (by intro v hv; repeat (first | exact absurd hv (List.not_mem_nil) | (rcases List.mem_cons.1 hv with rfl | hv; · rfl))) (by omega) rfl rfl rfl ?_; intro b9; refine ⟨okF, ?_⟩)
   (refine dI (ys := [i]) 2 rfl rfl rfl ?_ (by decide) rfl (by omega) (by omega) rfl rfl ?_; (· first | exact Src.blk aB | exact Src.row aB | exact Src.imm aB (by first | assumption | exact .inl (Ok.mk _ _))); intro q2 c2; refine ⟨okF, ?_⟩)
   repeat (refine aK ?_)
   refine uY (M' := .blk b6 [.slice q2 (pre ++ [i]).length c2] 32 :: .row q2 (pre ++ [i]).length c2 (recs eZ (pre ++ [i])) 3 1 :: en s :: M1) (I' := im s :: I0) aD aC ?_
   (refine fD rfl rfl (hih _ s q2 c2 hR) rfl rfl rfl ?_; rintro _ _ _ ⟨s2, q3, c3, hR2, rfl, rfl⟩; refine ⟨okF, ?_⟩)
   rw [hi, aSU] at hR2
   refine mR (φ := ∃ b, q3 = some ⟨b, 0, none⟩ ∧ (pre ++ [i]).length ≤ c3) (fun w hw => Mem.rowA hw (List.Mem.tail _ (List.Mem.head _)) (by omega)) (fun hb => ?_)
   obtain ⟨b, rfl, hc3⟩ := hb
   repeat (refine aK ?_)
   (refine aF rfl (fun _ => pE pre.length rfl rfl (by omega) (by omega)) rfl rfl ?_)
   repeat (refine aK ?_)
   refine aVK (m' := pre.length) (.there .here) (by omega) ?_
   rw [show (recs eZ (pre ++ [i])).take (pre.length * 1) = recs eZ pre by rw [mZ]; exact List.take_left' (by rw [iL])]
   refine aL (n - a - (m + 1)) _ _ _ (by first | omega | (simp only [List.length_append, List.length_cons, List.length_nil]; omega)) aP aD aC (⟨m + 1, i + 1, s2, some ⟨b, 0, none⟩, c3, by omega, by omega, rfl, hR2, rfl, rfl, rfl⟩)
  ·have he : xN n k0 a m = cmb n (k0 + 1) a := aQE (by omega) hm
   rw [he] at hR
   repeat (refine aK ?_)
   refine mK (by first | exact .inl rfl | exact .inr rfl) rfl _ _ aD aC (⟨s, q, c, hR, rfl, rfl⟩)
theorem vW {n size : Nat} {g : FuncId} [FnOk Tryz.prog g] {fs cs : Array Value} (hn : n ≤ 64) (hsz : size ≤ 8) {s0 : σ} (h0 : R [] s0)
  (hV : ∀ (I1 : List aY), (∀ φ ∈ I0, φ ∈ I1) → ∀ (vis : List (List Int)) (s : σ) (l : List Int) (q : Option Addr) (c : Nat) (M2 : List Ent), R vis s → SmpP n size 0 l → CD Tryz.prog g (fs.toList ++ [.slice q size c] ++ cs.toList) X w0 (.row q size c (recs eZ l) 3 1 :: en s :: M2) (im s :: I1)
   (fun _ M I => ∃ s', R (vis ++ [l]) s' ∧ M = .row q size c (recs eZ l) 3 1 :: en s' :: M2 ∧ I = im s' :: I1)) :
  CD Tryz.prog 49 [.int .i64 (n : Int), .int .i64 (size : Int), .func (.func g) fs cs] X w0 (en s0 :: M1) (im s0 :: I0) (fun _ M I => ∃ s', R (cmb n size 0) s' ∧ M = en s' :: M1 ∧ I = im s' :: I0) := by
 refine jU Tryz.func49 rfl Tryz.ntmps49 rfl ?_
 refine aG ?_
 refine aJ ?_
 (refine kP rfl rfl rfl ?_; intro b3; refine ⟨okF, ?_⟩)
 refine bC .here ?_
 (refine kP rfl rfl rfl ?_; intro b4; refine ⟨okF, ?_⟩)
 refine bC .here ?_
 (refine kP rfl rfl rfl ?_; intro b5; refine ⟨okF, ?_⟩)
 refine bC .here ?_
 repeat (refine aK ?_)
 (refine aRY size rfl rfl (by omega) (by omega) (by omega) rfl rfl ?_; intro bs; refine ⟨okF, ?_⟩)
 (refine aI rfl rfl ?_; intro b6; refine ⟨okF, ?_⟩)
 repeat (refine aK ?_)
 (refine aI rfl rfl ?_; intro b7; refine ⟨okF, ?_⟩)
 repeat (refine aK ?_)
 refine bC .here ?_
 refine uY (M' := .blk b6 [.slice (some ⟨bs, 0, none⟩) 0 size] 32 :: .row (some ⟨bs, 0, none⟩) 0 size (recs eZ []) 3 1 :: en s0 :: M1) (I' := im s0 :: aO (some ⟨b7, 0, none⟩) [.func (.func 84) #[] #[.pointer (some ⟨b6, 0, none⟩), .pointer (some ⟨b4, 0, none⟩), .pointer (some ⟨b5, 0, none⟩), .pointer (some ⟨b3, 0, none⟩), .pointer (some ⟨b7, 0, none⟩)]] :: aO (some ⟨b5, 0, none⟩) [.func (.func g) fs cs] :: aO (some ⟨b4, 0, none⟩) [.int .i64 (size : Int)] :: aO (some ⟨b3, 0, none⟩) [.int .i64 (n : Int)] :: I0) aD aC ?_
 (refine fD rfl rfl (aTL en im R (M1 := M1) hn hsz aB aB aB aB (hV _ (fun φ h => by simp [h])) size 0 0 [] [] s0 (some ⟨bs, 0, none⟩) size 0 rfl rfl (by omega) (by omega) ⟨fun x hx => absurd hx List.not_mem_nil, List.Pairwise.nil⟩ h0) rfl rfl rfl ?_; rintro _ _ _ ⟨s2, q2, c2, hR2, rfl, rfl⟩; refine ⟨okF, ?_⟩)
 repeat (refine aK ?_)
 refine gZ (M' := en s2 :: M1) (I' := im s2 :: I0) aD aC ?_
 refine mK (by first | exact .inl rfl | exact .inr rfl) rfl _ _ aD aC (⟨s2, by simpa using hR2, rfl, rfl⟩)
end
end Go.Proofs.YtjbhdfpjnjedhaaGreat

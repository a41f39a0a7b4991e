/- Quadric of the program: the products of a package's table. The law DegenerateQuadrics, walked. Lists of points, opened (the seat of Quadrics). -/
import Derived.Test.YtkccjglmnhgabaaGreatDoorZqbl
import Derived.Test.YtkccjglmnhgabaaGreatDoorZqam
import Derived.Test.YtkccjglmnhgabaaGreatDoorZqbm
import Derived.Test.YtkccjglmnhgabaaGreatDoorZqbi
set_option linter.unusedSimpArgs false
set_option linter.unusedVariables false
set_option maxRecDepth 100000
set_option maxHeartbeats 4000000
namespace Go.Proofs.YtkccjglmnhgabaaGreatDoor
open Go Go.Fx
abbrev vC : List Int := [0, 0, 1, 1, 2, 2, 0, 1, 0, 2, 1, 2, 0, 3, 1, 3, 2, 3, 3, 3]
abbrev aEH : bB := aW (some ⟨0, 0, none⟩) (recs eZ vC)
def qv (s : S3) : List Int := [s.x * s.x, s.y * s.y, s.z * s.z, s.x * s.y, s.x * s.z, s.y * s.z, s.x * 1, s.y * 1, s.z * 1, 1 * 1]
def qvI (s : S3) : List Int := [s.x * s.x, s.y * s.y, s.z * s.z, s.x * s.y, s.x * s.z, s.y * s.z, s.x, s.y, s.z, 1]
theorem aRA (s : S3) : qv s = qvI s := by unfold qv qvI; simp only [Int.mul_one]
def kQ (l : List S3) : Mt := l.map (fun s => kP (qvI s))
theorem jN {a b : Int} (ha : -1048576 ≤ a ∧ a ≤ 1048576) (hb : -1048576 ≤ b ∧ b ≤ 1048576) : -1099511627776 ≤ a * b ∧ a * b ≤ 1099511627776 := by
 have h1 : (a * b).natAbs ≤ 1048576 * 1048576 := by rw [Int.natAbs_mul]; exact Nat.mul_le_mul (by omega) (by omega)
 omega
theorem aTZ {s : S3} (h : ¬ farI [s.x, s.y, s.z]) : ∀ x ∈ qvI s, (-9223372036854775808 ≤ x ∧ x ≤ 9223372036854775807) ∧ x.natAbs ≤ 2 ^ 41 := by
 obtain ⟨h1, h2, h3⟩ := zJ h
 have e41 : 2 ^ 41 = 2199023255552 := rfl
 have a1 := jN h1 h1
 have a2 := jN h2 h2
 have a3 := jN h3 h3
 have a4 := jN h1 h2
 have a5 := jN h1 h3
 have a6 := jN h2 h3
 intro x hx
 simp only [qvI, List.mem_cons, List.not_mem_nil, or_false] at hx
 rw [e41]
 rcases hx with rfl | rfl | rfl | rfl | rfl | rfl | rfl | rfl | rfl | rfl <;> omega
theorem aQU {l : List S3} {i : Nat} (h : i < l.length) : rowAt (kQ l) i = kP (qvI (gt l (i : Int))) := by rw [dH h]; simp [kQ, rowAt, List.getD, h]
theorem wY {l : List S3} {n : Nat} (hl : l.length = n) : kK (kQ l) n 10 := ⟨by simp [kQ, hl], fun i hi => by rw [aQU (by omega)]; rfl⟩
section
variable {P : Program} {f : FuncId} {vs : List Value} {X : List Nat} {w0 : World} {M : List Ent} {I : List bB}
theorem CD_w0 {K : Value → List Ent → List bB → Prop} {φ : bB} [hg : Fx.Good φ] (h : φ X w0) (k : CD P f vs X w0 M (φ :: I) K) : CD P f vs X w0 M I K := ⟨fun w hw => k.go w (hw.add (φ := φ) (hg.go X (muts M) w0 w h hw.ext hw.own))⟩
end
section
variable {X : List Nat} {w0 : World} {M0 M1 : List Ent} {I0 : List bB}
theorem aQE {s : S3} (hG : aEH X w0) (h : ¬ farI [s.x, s.y, s.z]) : CD Tryz.prog 20 [vS3 s] X w0 M0 I0 (LQ (kP (qvI s)) 41 M0 I0) := by
 obtain ⟨h1, h2, h3⟩ := zJ h
 have hW := fun q c M0 I0 h9 => aGO (X := X) (w0 := w0) (M0 := M0) (I0 := I0) (q := q) (l := qv s) (n := 10) (c := c) (u := 41) rfl (by omega) (by rw [aRA]; exact aTZ h) h9
 refine CD_w0 (φ := aEH) hG ?_
 refine bC Tryz.func20 rfl Tryz.ntmps20 rfl ?_
 refine aJ ?_
 refine aL ?_
 (refine aX rfl rfl rfl ?_; intro b1; refine ⟨okF, ?_⟩)
 repeat (refine aK ?_)
 (refine aC rfl (fun _ => zS (vals := [.int .i64 s.x, .int .i64 s.y, .int .i64 s.z, .int .i64 1]) (cells := [.int .i64 s.x, .int .i64 s.y, .int .i64 s.z, .int .i64 1]) rfl ?hpl rfl ?hz) rfl rfl ?_; (case hpl => exact (by intro v hv; repeat (first | exact absurd hv (List.not_mem_nil) | (rcases List.mem_cons.1 hv with rfl | hv; · rfl)))); (case hz => rfl))
 (refine aM rfl rfl ?_; intro b3; refine ⟨okF, ?_⟩)
 repeat (refine aK ?_)
 refine jR 3 1 ?_
 refine uV (M' := .row none 0 0 (recs eZ []) 3 1 :: .blk b3 [.int .i64 s.x, .int .i64 s.y, .int .i64 s.z, .int .i64 1] 62 :: M0) (I' := aW (some ⟨0, 0, none⟩) (recs eZ vC) :: I0) aF aD ?_
 refine aT [3, 14] rfl (fun k G M I => ∃ (i : Nat) (xs : List Int) (qx : Option Addr) (cx : Nat), i ≤ 10 ∧ k = 10 - i ∧ xs = (qv s).take i ∧ G = [(4, .slice qx xs.length cx), (15, .int .i64 i)] ∧ M = .row qx xs.length cx (recs eZ xs) 3 1 :: .blk b3 [.int .i64 s.x, .int .i64 s.y, .int .i64 s.z, .int .i64 1] 62 :: M0 ∧ I = aW (some ⟨0, 0, none⟩) (recs eZ vC) :: I0) (10) _ _ _ aQ aF aD (⟨0, [], none, 0, by omega, rfl, rfl, rfl, rfl, rfl⟩) ?_
 rintro kk G M I ⟨i, xs, qx, cx, hi, rfl, hxs, rfl, rfl, rfl⟩
 have hxl : xs.length ≤ 10 := by rw [hxs]; exact Nat.le_trans (List.length_take_le _ _) hi
 by_cases hin : i < 10
 ·obtain rfl | rfl | rfl | rfl | rfl | rfl | rfl | rfl | rfl | rfl : i = 0 ∨ i = 1 ∨ i = 2 ∨ i = 3 ∨ i = 4 ∨ i = 5 ∨ i = 6 ∨ i = 7 ∨ i = 8 ∨ i = 9 := by omega
  ·have ht : (qv s).take (0 + 1) = (qv s).take 0 ++ [s.x * s.x] := rfl
   have hp := jN (a := s.x) (b := s.x) (by omega) (by omega)
   repeat (refine aK ?_)
   (refine aC rfl (fun _ => iL (cs := recs eZ vC) (vs := [.int .i64 0, .int .i64 0]) rfl rfl (by decide) rfl) rfl rfl ?_)
   (refine aM rfl rfl ?_; intro b6; refine ⟨okF, ?_⟩)
   repeat (refine aK ?_)
   (repeat refine aJ ?_); refine dS (.blk b6 [.int .i64 0, .int .i64 0] 63 :: .blk b3 [.int .i64 s.x, .int .i64 s.y, .int .i64 s.z, .int .i64 1] 62 :: M0) (aW (some ⟨0, 0, none⟩) (recs eZ vC) :: I0) [0, 1, 2, 3, 4, 5, 6, 7, 8, 9, 10, 11, 12] [1, 2, 2, 2, 2, 2, 2, 2, 2, 1, 0, 0, 0] aF aD mixed (by kernel_rfl) ?_
   repeat (refine aK ?_)
   (refine aP (cs := recs eZ [s.x * s.x]) ([.int .i64 (s.x * s.x)]) rfl rfl (by intro v hv; repeat (first | exact absurd hv (List.not_mem_nil) | (rcases List.mem_cons.1 hv with rfl | hv; · rfl))) (by omega) rfl rfl rfl ?_; intro b7; refine ⟨okF, ?_⟩)
   (refine dC (ys := [s.x * s.x]) 2 rfl rfl rfl ?_ (by decide) rfl (by omega) (by omega) rfl rfl ?_; (· first | exact Src.blk aB | exact Src.row aB | exact Src.imm aB (by first | assumption | exact .inl (Ok.mk _ _))); intro q2 c2; refine ⟨okF, ?_⟩)
   repeat (refine aK ?_)
   refine aG (10 - (0 + 1)) _ _ _ (by first | omega | (simp only [List.length_append, List.length_cons, List.length_nil]; omega)) aQ aF aD (⟨0 + 1, xs ++ [s.x * s.x], q2, c2, by omega, rfl, by rw [ht, hxs], rfl, rfl, rfl⟩)
  ·have ht : (qv s).take (1 + 1) = (qv s).take 1 ++ [s.y * s.y] := rfl
   have hp := jN (a := s.y) (b := s.y) (by omega) (by omega)
   repeat (refine aK ?_)
   (refine aC rfl (fun _ => iL (cs := recs eZ vC) (vs := [.int .i64 1, .int .i64 1]) rfl rfl (by decide) rfl) rfl rfl ?_)
   (refine aM rfl rfl ?_; intro b6; refine ⟨okF, ?_⟩)
   repeat (refine aK ?_)
   (repeat refine aJ ?_); refine dS (.blk b6 [.int .i64 1, .int .i64 1] 63 :: .blk b3 [.int .i64 s.x, .int .i64 s.y, .int .i64 s.z, .int .i64 1] 62 :: M0) (aW (some ⟨0, 0, none⟩) (recs eZ vC) :: I0) [0, 1, 2, 3, 4, 5, 6, 7, 8, 9, 10, 11, 12] [1, 2, 2, 2, 2, 2, 2, 2, 2, 1, 0, 0, 0] aF aD mixed (by kernel_rfl) ?_
   repeat (refine aK ?_)
   (refine aP (cs := recs eZ [s.y * s.y]) ([.int .i64 (s.y * s.y)]) rfl rfl (by intro v hv; repeat (first | exact absurd hv (List.not_mem_nil) | (rcases List.mem_cons.1 hv with rfl | hv; · rfl))) (by omega) rfl rfl rfl ?_; intro b7; refine ⟨okF, ?_⟩)
   (refine dC (ys := [s.y * s.y]) 2 rfl rfl rfl ?_ (by decide) rfl (by omega) (by omega) rfl rfl ?_; (· first | exact Src.blk aB | exact Src.row aB | exact Src.imm aB (by first | assumption | exact .inl (Ok.mk _ _))); intro q2 c2; refine ⟨okF, ?_⟩)
   repeat (refine aK ?_)
   refine aG (10 - (1 + 1)) _ _ _ (by first | omega | (simp only [List.length_append, List.length_cons, List.length_nil]; omega)) aQ aF aD (⟨1 + 1, xs ++ [s.y * s.y], q2, c2, by omega, rfl, by rw [ht, hxs], rfl, rfl, rfl⟩)
  ·have ht : (qv s).take (2 + 1) = (qv s).take 2 ++ [s.z * s.z] := rfl
   have hp := jN (a := s.z) (b := s.z) (by omega) (by omega)
   repeat (refine aK ?_)
   (refine aC rfl (fun _ => iL (cs := recs eZ vC) (vs := [.int .i64 2, .int .i64 2]) rfl rfl (by decide) rfl) rfl rfl ?_)
   (refine aM rfl rfl ?_; intro b6; refine ⟨okF, ?_⟩)
   repeat (refine aK ?_)
   (repeat refine aJ ?_); refine dS (.blk b6 [.int .i64 2, .int .i64 2] 63 :: .blk b3 [.int .i64 s.x, .int .i64 s.y, .int .i64 s.z, .int .i64 1] 62 :: M0) (aW (some ⟨0, 0, none⟩) (recs eZ vC) :: I0) [0, 1, 2, 3, 4, 5, 6, 7, 8, 9, 10, 11, 12] [1, 2, 2, 2, 2, 2, 2, 2, 2, 1, 0, 0, 0] aF aD mixed (by kernel_rfl) ?_
   repeat (refine aK ?_)
   (refine aP (cs := recs eZ [s.z * s.z]) ([.int .i64 (s.z * s.z)]) rfl rfl (by intro v hv; repeat (first | exact absurd hv (List.not_mem_nil) | (rcases List.mem_cons.1 hv with rfl | hv; · rfl))) (by omega) rfl rfl rfl ?_; intro b7; refine ⟨okF, ?_⟩)
   (refine dC (ys := [s.z * s.z]) 2 rfl rfl rfl ?_ (by decide) rfl (by omega) (by omega) rfl rfl ?_; (· first | exact Src.blk aB | exact Src.row aB | exact Src.imm aB (by first | assumption | exact .inl (Ok.mk _ _))); intro q2 c2; refine ⟨okF, ?_⟩)
   repeat (refine aK ?_)
   refine aG (10 - (2 + 1)) _ _ _ (by first | omega | (simp only [List.length_append, List.length_cons, List.length_nil]; omega)) aQ aF aD (⟨2 + 1, xs ++ [s.z * s.z], q2, c2, by omega, rfl, by rw [ht, hxs], rfl, rfl, rfl⟩)
  ·have ht : (qv s).take (3 + 1) = (qv s).take 3 ++ [s.x * s.y] := rfl
   have hp := jN (a := s.x) (b := s.y) (by omega) (by omega)
   repeat (refine aK ?_)
   (refine aC rfl (fun _ => iL (cs := recs eZ vC) (vs := [.int .i64 0, .int .i64 1]) rfl rfl (by decide) rfl) rfl rfl ?_)
   (refine aM rfl rfl ?_; intro b6; refine ⟨okF, ?_⟩)
   repeat (refine aK ?_)
   (repeat refine aJ ?_); refine dS (.blk b6 [.int .i64 0, .int .i64 1] 63 :: .blk b3 [.int .i64 s.x, .int .i64 s.y, .int .i64 s.z, .int .i64 1] 62 :: M0) (aW (some ⟨0, 0, none⟩) (recs eZ vC) :: I0) [0, 1, 2, 3, 4, 5, 6, 7, 8, 9, 10, 11, 12] [1, 2, 2, 2, 2, 2, 2, 2, 2, 1, 0, 0, 0] aF aD mixed (by kernel_rfl) ?_
   repeat (refine aK ?_)
   (refine aP (cs := recs eZ [s.x * s.y]) ([.int .i64 (s.x * s.y)]) rfl rfl (by intro v hv; repeat (first | exact absurd hv (List.not_mem_nil) | (rcases List.mem_cons.1 hv with rfl | hv; · rfl))) (by omega) rfl rfl rfl ?_; intro b7; refine ⟨okF, ?_⟩)
   (refine dC (ys := [s.x * s.y]) 2 rfl rfl rfl ?_ (by decide) rfl (by omega) (by omega) rfl rfl ?_; (· first | exact Src.blk aB | exact Src.row aB | exact Src.imm aB (by first | assumption | exact .inl (Ok.mk _ _))); intro q2 c2; refine ⟨okF, ?_⟩)
   repeat (refine aK ?_)
   refine aG (10 - (3 + 1)) _ _ _ (by first | omega | (simp only [List.length_append, List.length_cons, List.length_nil]; omega)) aQ aF aD (⟨3 + 1, xs ++ [s.x * s.y], q2, c2, by omega, rfl, by rw [ht, hxs], rfl, rfl, rfl⟩)
  ·have ht : (qv s).take (4 + 1) = (qv s).take 4 ++ [s.x * s.z] := rfl
   have hp := jN (a := s.x) (b := s.z) (by omega) (by omega)
   repeat (refine aK ?_)
   (refine aC rfl (fun _ => iL (cs := recs eZ vC) (vs := [.int .i64 0, .int .i64 2]) rfl rfl (by decide) rfl) rfl rfl ?_)
   (refine aM rfl rfl ?_; intro b6; refine ⟨okF, ?_⟩)
   repeat (refine aK ?_)
   (repeat refine aJ ?_); refine dS (.blk b6 [.int .i64 0, .int .i64 2] 63 :: .blk b3 [.int .i64 s.x, .int .i64 s.y, .int .i64 s.z, .int .i64 1] 62 :: M0) (aW (some ⟨0, 0, none⟩) (recs eZ vC) :: I0) [0, 1, 2, 3, 4, 5, 6, 7, 8, 9, 10, 11, 12] [1, 2, 2, 2, 2, 2, 2, 2, 2, 1, 0, 0, 0] aF aD mixed (by kernel_rfl) ?_
   repeat (refine aK ?_)
   (refine aP (cs := recs eZ [s.x * s.z]) ([.int .i64 (s.x * s.z)]) rfl rfl (by intro v hv; repeat (first | exact absurd hv (List.not_mem_nil) | (rcases List.mem_cons.1 hv with rfl | hv; · rfl))) (by omega) rfl rfl rfl ?_; intro b7; refine ⟨okF, ?_⟩)
   (refine dC (ys := [s.x * s.z]) 2 rfl rfl rfl ?_ (by decide) rfl (by omega) (by omega) rfl rfl ?_; (· first | exact Src.blk aB | exact Src.row aB | exact Src.imm aB (by first | assumption | exact .inl (Ok.mk _ _))); intro q2 c2; refine ⟨okF, ?_⟩)
   repeat (refine aK ?_)
   refine aG (10 - (4 + 1)) _ _ _ (by first | omega | (simp only [List.length_append, List.length_cons, List.length_nil]; omega)) aQ aF aD (⟨4 + 1, xs ++ [s.x * s.z], q2, c2, by omega, rfl, by rw [ht, hxs], rfl, rfl, rfl⟩)
  ·have ht : (qv s).take (5 + 1) = (qv s).take 5 ++ [s.y * s.z] := rfl
   have hp := jN (a := s.y) (b := s.z) (by omega) (by omega)
   repeat (refine aK ?_)
   (refine aC rfl (fun _ => iL (cs := recs eZ vC) (vs := [.int .i64 1, .int .i64 2]) rfl rfl (by decide) rfl) rfl rfl ?_)
   (refine aM rfl rfl ?_; intro b6; refine ⟨okF, ?_⟩)
   repeat (refine aK ?_)
   (repeat refine aJ ?_); refine dS (.blk b6 [.int .i64 1, .int .i64 2] 63 :: .blk b3 [.int .i64 s.x, .int .i64 s.y, .int .i64 s.z, .int .i64 1] 62 :: M0) (aW (some ⟨0, 0, none⟩) (recs eZ vC) :: I0) [0, 1, 2, 3, 4, 5, 6, 7, 8, 9, 10, 11, 12] [1, 2, 2, 2, 2, 2, 2, 2, 2, 1, 0, 0, 0] aF aD mixed (by kernel_rfl) ?_
   repeat (refine aK ?_)
   (refine aP (cs := recs eZ [s.y * s.z]) ([.int .i64 (s.y * s.z)]) rfl rfl (by intro v hv; repeat (first | exact absurd hv (List.not_mem_nil) | (rcases List.mem_cons.1 hv with rfl | hv; · rfl))) (by omega) rfl rfl rfl ?_; intro b7; refine ⟨okF, ?_⟩)
   (refine dC (ys := [s.y * s.z]) 2 rfl rfl rfl ?_ (by decide) rfl (by omega) (by omega) rfl rfl ?_; (· first | exact Src.blk aB | exact Src.row aB | exact Src.imm aB (by first | assumption | exact .inl (Ok.mk _ _))); intro q2 c2; refine ⟨okF, ?_⟩)
   repeat (refine aK ?_)
   refine aG (10 - (5 + 1)) _ _ _ (by first | omega | (simp only [List.length_append, List.length_cons, List.length_nil]; omega)) aQ aF aD (⟨5 + 1, xs ++ [s.y * s.z], q2, c2, by omega, rfl, by rw [ht, hxs], rfl, rfl, rfl⟩)
  ·have ht : (qv s).take (6 + 1) = (qv s).take 6 ++ [s.x * 1] := rfl
   have hp := jN (a := s.x) (b := 1) (by omega) (by omega)
   repeat (refine aK ?_)
   (refine aC rfl (fun _ => iL (cs := recs eZ vC) (vs := [.int .i64 0, .int .i64 3]) rfl rfl (by decide) rfl) rfl rfl ?_)
   (refine aM rfl rfl ?_; intro b6; refine ⟨okF, ?_⟩)
   repeat (refine aK ?_)
   (repeat refine aJ ?_); refine dS (.blk b6 [.int .i64 0, .int .i64 3] 63 :: .blk b3 [.int .i64 s.x, .int .i64 s.y, .int .i64 s.z, .int .i64 1] 62 :: M0) (aW (some ⟨0, 0, none⟩) (recs eZ vC) :: I0) [0, 1, 2, 3, 4, 5, 6, 7, 8, 9, 10, 11, 12] [1, 2, 2, 2, 2, 2, 2, 2, 2, 1, 0, 0, 0] aF aD mixed (by kernel_rfl) ?_
   repeat (refine aK ?_)
   (refine aP (cs := recs eZ [s.x * 1]) ([.int .i64 (s.x * 1)]) rfl rfl (by intro v hv; repeat (first | exact absurd hv (List.not_mem_nil) | (rcases List.mem_cons.1 hv with rfl | hv; · rfl))) (by omega) rfl rfl rfl ?_; intro b7; refine ⟨okF, ?_⟩)
   (refine dC (ys := [s.x * 1]) 2 rfl rfl rfl ?_ (by decide) rfl (by omega) (by omega) rfl rfl ?_; (· first | exact Src.blk aB | exact Src.row aB | exact Src.imm aB (by first | assumption | exact .inl (Ok.mk _ _))); intro q2 c2; refine ⟨okF, ?_⟩)
   repeat (refine aK ?_)
   refine aG (10 - (6 + 1)) _ _ _ (by first | omega | (simp only [List.length_append, List.length_cons, List.length_nil]; omega)) aQ aF aD (⟨6 + 1, xs ++ [s.x * 1], q2, c2, by omega, rfl, by rw [ht, hxs], rfl, rfl, rfl⟩)
  ·have ht : (qv s).take (7 + 1) = (qv s).take 7 ++ [s.y * 1] := rfl
   have hp := jN (a := s.y) (b := 1) (by omega) (by omega)
   repeat (refine aK ?_)
   (refine aC rfl (fun _ => iL (cs := recs eZ vC) (vs := [.int .i64 1, .int .i64 3]) rfl rfl (by decide) rfl) rfl rfl ?_)
   (refine aM rfl rfl ?_; intro b6; refine ⟨okF, ?_⟩)
   repeat (refine aK ?_)
   (repeat refine aJ ?_); refine dS (.blk b6 [.int .i64 1, .int .i64 3] 63 :: .blk b3 [.int .i64 s.x, .int .i64 s.y, .int .i64 s.z, .int .i64 1] 62 :: M0) (aW (some ⟨0, 0, none⟩) (recs eZ vC) :: I0) [0, 1, 2, 3, 4, 5, 6, 7, 8, 9, 10, 11, 12] [1, 2, 2, 2, 2, 2, 2, 2, 2, 1, 0, 0, 0] aF aD mixed (by kernel_rfl) ?_
   repeat (refine aK ?_)
   (refine aP (cs := recs eZ [s.y * 1]) ([.int .i64 (s.y * 1)]) rfl rfl (by intro v hv; repeat (first | exact absurd hv (List.not_mem_nil) | (rcases List.mem_cons.1 hv with rfl | hv; · rfl))) (by omega) rfl rfl rfl ?_; intro b7; refine ⟨okF, ?_⟩)
   (refine dC (ys := [s.y * 1]) 2 rfl rfl rfl ?_ (by decide) rfl (by omega) (by omega) rfl rfl ?_; (· first | exact Src.blk aB | exact Src.row aB | exact Src.imm aB (by first | assumption | exact .inl (Ok.mk _ _))); intro q2 c2; refine ⟨okF, ?_⟩)
   repeat (refine aK ?_)
   refine aG (10 - (7 + 1)) _ _ _ (by first | omega | (simp only [List.length_append, List.length_cons, List.length_nil]; omega)) aQ aF aD (⟨7 + 1, xs ++ [s.y * 1], q2, c2, by omega, rfl, by rw [ht, hxs], rfl, rfl, rfl⟩)
  ·have ht : (qv s).take (8 + 1) = (qv s).take 8 ++ [s.z * 1] := rfl
   have hp := jN (a := s.z) (b := 1) (by omega) (by omega)
   repeat (refine aK ?_)
   (refine aC rfl (fun _ => iL (cs := recs eZ vC) (vs := [.int .i64 2, .int .i64 3]) rfl rfl (by decide) rfl) rfl rfl ?_)
   (refine aM rfl rfl ?_; intro b6; refine ⟨okF, ?_⟩)
   repeat (refine aK ?_)
   (repeat refine aJ ?_); refine dS (.blk b6 [.int .i64 2, .int .i64 3] 63 :: .blk b3 [.int .i64 s.x, .int .i64 s.y, .int .i64 s.z, .int .i64 1] 62 :: M0) (aW (some ⟨0, 0, none⟩) (recs eZ vC) :: I0) [0, 1, 2, 3, 4, 5, 6, 7, 8, 9, 10, 11, 12] [1, 2, 2, 2, 2, 2, 2, 2, 2, 1, 0, 0, 0] aF aD mixed (by kernel_rfl) ?_
   repeat (refine aK ?_)
   (refine aP (cs := recs eZ [s.z * 1]) ([.int .i64 (s.z * 1)]) rfl rfl (by intro v hv; repeat (first | exact absurd hv (List.not_mem_nil) | (rcases List.mem_cons.1 hv with rfl | hv; · rfl))) (by omega) rfl rfl rfl ?_; intro b7; refine ⟨okF, ?_⟩)
   (refine dC (ys := [s.z * 1]) 2 rfl rfl rfl ?_ (by decide) rfl (by omega) (by omega) rfl rfl ?_; (· first | exact Src.blk aB | exact Src.row aB | exact Src.imm aB (by first | assumption | exact .inl (Ok.mk _ _))); intro q2 c2; refine ⟨okF, ?_⟩)
   repeat (refine aK ?_)
   refine aG (10 - (8 + 1)) _ _ _ (by first | omega | (simp only [List.length_append, List.length_cons, List.length_nil]; omega)) aQ aF aD (⟨8 + 1, xs ++ [s.z * 1], q2, c2, by omega, rfl, by rw [ht, hxs], rfl, rfl, rfl⟩)
  ·have ht : (qv s).take (9 + 1) = (qv s).take 9 ++ [1 * 1] := rfl
   have hp := jN (a := 1) (b := 1) (by omega) (by omega)
   repeat (refine aK ?_)
   (refine aC rfl (fun _ => iL (cs := recs eZ vC) (vs := [.int .i64 3, .int .i64 3]) rfl rfl (by decide) rfl) rfl rfl ?_)
   (refine aM rfl rfl ?_; intro b6; refine ⟨okF, ?_⟩)
   repeat (refine aK ?_)
   (repeat refine aJ ?_); refine dS (.blk b6 [.int .i64 3, .int .i64 3] 63 :: .blk b3 [.int .i64 s.x, .int .i64 s.y, .int .i64 s.z, .int .i64 1] 62 :: M0) (aW (some ⟨0, 0, none⟩) (recs eZ vC) :: I0) [0, 1, 2, 3, 4, 5, 6, 7, 8, 9, 10, 11, 12] [1, 2, 2, 2, 2, 2, 2, 2, 2, 1, 0, 0, 0] aF aD mixed (by kernel_rfl) ?_
   repeat (refine aK ?_)
   (refine aP (cs := recs eZ [1 * 1]) ([.int .i64 (1 * 1)]) rfl rfl (by intro v hv; repeat (first | exact absurd hv (List.not_mem_nil) | (rcases List.mem_cons.1 hv with rfl | hv; · rfl))) (by omega) rfl rfl rfl ?_; intro b7; refine ⟨okF, ?_⟩)
   (refine dC (ys := [1 * 1]) 2 rfl rfl rfl ?_ (by decide) rfl (by omega) (by omega) rfl rfl ?_; (· first | exact Src.blk aB | exact Src.row aB | exact Src.imm aB (by first | assumption | exact .inl (Ok.mk _ _))); intro q2 c2; refine ⟨okF, ?_⟩)
   repeat (refine aK ?_)
   refine aG (10 - (9 + 1)) _ _ _ (by first | omega | (simp only [List.length_append, List.length_cons, List.length_nil]; omega)) aQ aF aD (⟨9 + 1, xs ++ [1 * 1], q2, c2, by omega, rfl, by rw [ht, hxs], rfl, rfl, rfl⟩)
 ·obtain rfl : i = 10 := by omega
  have hxq : xs = qv s := hxs
  subst hxq
  repeat (refine aK ?_)
  refine gW (mm := (qv s).length) .here ?_
  (refine aA rfl (hW _ _ _ _ aB) rfl rfl ?_; rintro _ _ _ ⟨rfl, x, rfl, hxq, rfl⟩; refine ⟨okF, ?_⟩)
  repeat (refine aK ?_)
  refine rV (M' := M0) (I' := nV x 41 :: I0) aF aD ?_
  refine aH (by first | exact .inl rfl | exact .inr rfl) rfl rfl _ _ aF aD (⟨rfl, x, rfl, by rw [hxq, aRA], rfl⟩)
theorem vU {q : Option Addr} {l : List S3} {n c : Nat} (hG : aEH X w0) (hl : l.length = n) (hq : aW q (recs oM l) ∈ I0) :
  CD Tryz.prog 7 [.slice q n c] X w0 M0 I0 (fun v M I => M0 = M ∧ I0 = I ∧ v = .tuple #[.int .i64 (if iZ l = 0 then (((jX (kQ l) qT n).1.length : Nat) : Int) else 0), .int .i64 (iZ l)]) := by
 have hP := fun M0 I0 h => aDC (X := X) (w0 := w0) (M0 := M0) (I0 := I0) (q := q) (l := l) (n := n) (c := c) (u := 41) (d := 10) (g := 20) (rowF := fun s => kP (qvI s)) hl (by omega) (by decide) h (fun s => rfl) (fun s _ hf M0 I0 => aQE hG hf)
 have e : l.map (fun s => kP (qvI s)) = kQ l := rfl
 rw [e] at hP
 have hle : (jX (kQ l) qT n).1.length ≤ 10 := vM (oC (q := qT) (wY hl) (k := n) (Nat.le_refl _))
 obtain ⟨N, hN⟩ : ∃ N, (jX (kQ l) qT n).1.length = N := ⟨_, rfl⟩
 rw [hN] at hP hle ⊢
 refine bC Tryz.func7 rfl Tryz.ntmps7 rfl ?_
 repeat (refine aK ?_)
 (refine aA rfl (hP _ _ aB) rfl rfl ?_; rintro _ _ _ ⟨rfl, rfl, rfl⟩; refine ⟨okF, ?_⟩)
 repeat (refine aK ?_)
 refine iD [2, 3] (by first | exact .inl rfl | exact .inr rfl) rfl rfl rfl _ _ aF aD (⟨rfl, rfl, rfl⟩)
end
end Go.Proofs.YtkccjglmnhgabaaGreatDoor
namespace Go.Proofs.YtkccjglmnhgabaaGreatDoor
open Go Go.Fx
section
variable {X : List Nat} {w0 : World} {M0 M1 : List Ent} {I0 : List bB}
theorem aVN {q : Option Addr} {l : List S3} {n c : Nat} (hl : l.length = n) (hn : n ≤ 80) (hno : ¬ farS l) (hq : aW q (recs oM l) ∈ I0) :
  CD Tryz.prog 9 [.slice q n c] X w0 M0 I0 (fun v M I => M0 = M ∧ ∃ x : MX, v = mv x ∧ x.q = kQ l ∧ x.dim n 10 ∧ I = jC x 41 :: I0) := by
 refine eQ (φ := aW q (recs oM l)) (Hv.mem hq) ?_
 refine bC Tryz.func9 rfl Tryz.ntmps9 rfl ?_
 repeat (refine aK ?_)
 (refine aP (cs := recs eL []) ([]) rfl rfl (by intro v hv; repeat (first | exact absurd hv (List.not_mem_nil) | (rcases List.mem_cons.1 hv with rfl | hv; · rfl))) (by omega) rfl rfl rfl ?_; intro b5; refine ⟨okF, ?_⟩; refine jS (mm := 0) 1 .here rfl (by omega) ?_)
 refine fQ (φ := qK [] 41) Hv.nilL ?_
 repeat (refine aK ?_)
 refine aT [10, 11] rfl (fun k G M I => ∃ (i : Nat) (rows : List RL) (qe : Option Addr) (ce : Nat), i ≤ n ∧ k = n - i ∧ rows.length = i ∧ rows.map RL.q = kQ (l.take i) ∧ G = [(3, .slice qe rows.length ce), (12, .int .i64 i)] ∧ M = .row qe rows.length ce (recs eL rows) 48 1 :: M0 ∧ I = qK rows 41 :: aW q (recs oM l) :: I0) (n) _ _ _ aQ aF aD (⟨0, [], some ⟨b5, 0, none⟩, _, by omega, rfl, rfl, rfl, rfl, rfl, rfl⟩) ?_
 rintro kk G M I ⟨i, rows, qe, ce, hi, rfl, hrl, hrq, rfl, rfl, rfl⟩
 by_cases hin : i < n
 ·have hmem := eX (ms := l) (i := (i : Int)) (by omega)
  have ht : l.take (i + 1) = l.take i ++ [gt l (i : Int)] := by rw [dH (by omega)]; exact (List.take_append_getElem (by omega)).symm
  obtain ⟨s, hss⟩ : ∃ s, gt l (i : Int) = s := ⟨_, rfl⟩
  rw [hss] at hmem ht
  have hf : ¬ farI [s.x, s.y, s.z] := fun e => hno ⟨s, hmem, e⟩
  obtain ⟨h1, h2, h3⟩ := zJ hf
  have a1 := jN h1 h1
  have a2 := jN h2 h2
  have a3 := jN h3 h3
  have a4 := jN h1 h2
  have a5 := jN h1 h3
  have a6 := jN h2 h3
  have hW := fun b M0 I0 h => yA (X := X) (w0 := w0) (M0 := M0) (I0 := I0) (q := some ⟨b, 0, none⟩) (l := qvI s) (n := 10) (c := 10) (u := 41) rfl (by omega) (aTZ hf) h
  repeat (refine aK ?_)
  rw [hss]
  (refine aM rfl rfl ?_; intro b8; refine ⟨okF, ?_⟩)
  repeat (refine aK ?_)
  (repeat refine aJ ?_); refine gT [0, 1, 2, 3, 4, 5, 6, 7, 8] [0, 0, 0, 0, 0, 0, 0, 0, 0] mixed (by kernel_rfl) ?_
  repeat (refine aK ?_)
  (refine aP (cs := recs eZ (qvI s)) ((qvI s).map (Value.int .i64)) rfl rfl (by intro v hv; repeat (first | exact absurd hv (List.not_mem_nil) | (rcases List.mem_cons.1 hv with rfl | hv; · rfl))) (by omega) rfl rfl rfl ?_; intro b10; refine ⟨okF, ?_⟩)
  refine aO .here ?_
  (refine aA rfl (hW _ _ _ aB) rfl rfl ?_; rintro _ _ _ ⟨rfl, y1, rfl, hy1, rfl⟩; refine ⟨okF, ?_⟩)
  (refine aP (cs := recs eL [y1]) ([lv y1]) rfl rfl (by intro v hv; repeat (first | exact absurd hv (List.not_mem_nil) | (rcases List.mem_cons.1 hv with rfl | hv; · rfl))) (by omega) rfl rfl rfl ?_; intro bl; refine ⟨okF, ?_⟩)
  (refine dC (ys := [y1]) 2 rfl rfl rfl ?_ (by decide) rfl (by omega) (by omega) rfl rfl ?_; (· first | exact Src.blk aB | exact Src.row aB | exact Src.imm aB (by first | assumption | exact .inl (Ok.mk _ _))); intro q3 c3; refine ⟨okF, ?_⟩)
  have hq2 : (rows ++ [y1]).map RL.q = kQ (l.take (i + 1)) := by
   rw [ht]
   unfold kQ at hrq ⊢
   rw [List.map_append, List.map_append, hrq]
   show _ ++ [y1.q] = _ ++ [kP (qvI s)]
   rw [hy1]
  have hle : (rows ++ [y1]).length = i + 1 := by rw [List.length_append, hrl]; rfl
  repeat (refine aK ?_)
  refine iW (φ := qK (rows ++ [y1]) 41) (Hv.snocL aB aB) ?_
  refine aG (n - (i + 1)) _ _ _ (by first | omega | (simp only [List.length_append, List.length_cons, List.length_nil]; omega)) aQ aF aD (⟨i + 1, rows ++ [y1], q3, c3, by omega, rfl, hle, hq2, rfl, rfl, rfl⟩)
 ·obtain rfl : i = n := by omega
  rw [List.take_of_length_le (by omega)] at hrq
  have dr : (⟨qe, ce, rows⟩ : MX).dim i 10 := ⟨hrl, fun r hr => by
   have : r.q ∈ rows.map RL.q := List.mem_map_of_mem hr
   rw [hrq] at this
   obtain ⟨s, _, hs⟩ := List.mem_map.1 this
   have := congrArg List.length hs
   simpa [RL.q, qs, kP, qvI] using this.symm⟩
  repeat (refine aK ?_)
  refine aER (k := 41) aB ?_
  refine aH (by first | exact .inl rfl | exact .inr rfl) rfl rfl _ _ aF aD (⟨rfl, ⟨qe, ce, rows⟩, rfl, hrq, dr, rfl⟩)
theorem LQdr {q : Option Addr} {l : List S3} {n c : Nat} (hGl : aEH X w0) (hl : l.length = n) (hn : (n : Int) ≤ 9223372036854775807) (hq : aW q (recs oM l) ∈ I0) :
  CD Tryz.prog 3 [.slice q n c] X w0 M0 I0 (fun v M I => M0 = M ∧ I0 = I ∧ v = .bool true) := by
 have hKn := fun M0 I0 => aAW (X := X) (w0 := w0) (M0 := M0) (I0 := I0)
 have hS := fun M0 I0 h => aFL (X := X) (w0 := w0) (M0 := M0) (I0 := I0) (q := q) (l := l) (n := n) (c := c) hl hn h
 have hP := fun M0 I0 h => vU (X := X) (w0 := w0) (M0 := M0) (I0 := I0) (q := q) (l := l) (n := n) (c := c) hGl hl h
 refine bC Tryz.func3 rfl Tryz.ntmps3 rfl ?_
 repeat (refine aK ?_)
 (refine aA rfl (hKn _ _) rfl rfl ?_; rintro _ _ _ ⟨rfl, rfl, rfl⟩; refine ⟨okF, ?_⟩)
 by_cases h300 : 300 < n
 ·repeat (refine aK ?_)
  refine aH (by first | exact .inl rfl | exact .inr rfl) rfl rfl _ _ aF aD (⟨rfl, rfl, rfl⟩)
 by_cases h0 : iZ l = 0
 case neg =>
  obtain ⟨cd, hcd⟩ : ∃ z, iZ l = z := ⟨_, rfl⟩
  rw [hcd] at h0
  rw [hcd, if_neg h0] at hP
  rw [hcd] at hS
  clear hcd
  repeat (refine aK ?_)
  (refine aA rfl (hS _ _ aB) rfl rfl ?_; rintro _ _ _ ⟨rfl, rfl, rfl⟩; refine ⟨okF, ?_⟩)
  repeat (refine aK ?_)
  (refine aA rfl (hP _ _ aB) rfl rfl ?_; rintro _ _ _ ⟨rfl, rfl, rfl⟩; refine ⟨okF, ?_⟩)
  repeat (refine aK ?_)
  refine aH (by first | exact .inl rfl | exact .inr rfl) rfl rfl _ _ aF aD (⟨rfl, rfl, congrArg Value.bool (dZ rfl)⟩)
 have hno : ¬ farS l := by
  unfold iZ at h0
  split at h0
  ·omega
  ·split at h0
   ·omega
   ·split at h0
    ·omega
    ·assumption
 have hn1 : 1 ≤ n := by
  unfold iZ at h0
  split at h0
  ·omega
  ·omega
 rw [h0, if_pos rfl] at hP
 rw [h0] at hS
 by_cases h12 : 12 < n
 ·repeat (refine aK ?_)
  (refine aA rfl (hS _ _ aB) rfl rfl ?_; rintro _ _ _ ⟨rfl, rfl, rfl⟩; refine ⟨okF, ?_⟩)
  repeat (refine aK ?_)
  refine aH (by first | exact .inl rfl | exact .inr rfl) rfl rfl _ _ aF aD (⟨rfl, rfl, rfl⟩)
 have hQ := fun M0 I0 h => aVN (X := X) (w0 := w0) (M0 := M0) (I0 := I0) (q := q) (l := l) (n := n) (c := c) hl (by omega) hno h
 have hall : (jX (kQ l) qT n).1.length = rk (kQ l) 10 := sD (wY hl)
 rw [hall] at hP
 have hkb : kb 41 10 ≤ 20000000000 := by decide
 repeat (refine aK ?_)
 (refine aA rfl (hS _ _ aB) rfl rfl ?_; rintro _ _ _ ⟨rfl, rfl, rfl⟩; refine ⟨okF, ?_⟩)
 repeat (refine aK ?_)
 (refine aA rfl (hP _ _ aB) rfl rfl ?_; rintro _ _ _ ⟨rfl, rfl, rfl⟩; refine ⟨okF, ?_⟩)
 repeat (refine aK ?_)
 (refine aA rfl (hQ _ _ aB) rfl rfl ?_; rintro _ _ _ ⟨rfl, x1, rfl, hx1, dx1, rfl⟩; refine ⟨okF, ?_⟩)
 have hG1 := fun M0 I0 h => aPG (X := X) (w0 := w0) (M0 := M0) (I0 := I0) (a := x1) (R := n) (C := 10) (k0 := 41) hkb (by omega) (by omega) dx1 h
 rw [hx1] at hG1
 (refine aA rfl (hG1 _ _ aB) rfl rfl ?_; rintro _ _ _ ⟨rfl, rfl, rfl⟩; refine ⟨okF, ?_⟩)
 generalize rk (kQ l) 10 = r1 at *
 repeat (refine aK ?_)
 refine aH (by first | exact .inl rfl | exact .inr rfl) rfl rfl _ _ aF aD (⟨rfl, rfl, congrArg Value.bool (dZ rfl)⟩)
end
end Go.Proofs.YtkccjglmnhgabaaGreatDoor
namespace Go.Proofs.YtkccjglmnhgabaaGreatDoor
open Go Go.Fx
open Go.ChangeShapes Go.WideShapes Go.RowKit Go.ChangeAt
section
variable {H : Type} {enc : TypeId × Value → H} {W : World}
theorem aRU {n : Nat} {cs : List Value} {y : DataW H × List MemPlace} (hl : cs.length = Tryz.prog.cellsOf 39) (h : DataW.trod enc Tryz.prog W 0 (fun _ => true) true n 39 cs = some y) : ∃ s : S3, cs = oM s ∧ True := by
 obtain ⟨xs, rfl, hx, _⟩ := aNW (k := .i64) (m := 3) Tryz.underlying39 (by kernel_rfl) (by intro f hf; simp at hf; rcases hf with rfl | rfl | rfl <;> exact Tryz.underlying3) (by rw [hl]; kernel_rfl) h
 obtain ⟨a, b, c, rfl⟩ := aFE hx
 exact ⟨⟨a, b, c⟩, rfl, trivial⟩
theorem aGM {base : Nat} {v : Value} {d : DataW H} {p : List MemPlace} (hv : Value.okWide Tryz.prog W .any base 22 v) (h : DataW.Trod enc Tryz.prog W 0 (fun _ => true) true 22 v d p) : ∃ (a : Option Addr) (ps : List S3) (c : Nat), v = .slice a ps.length c ∧ Sl [] W a (recs oM ps) ∧ (ps.length : Int) ≤ 9223372036854775807 ∧ ps.length ≤ c := by
 obtain ⟨a, ms, c, e, s, m, l, k, _⟩ := aGA (en := oM) (Pm := fun _ => True) Tryz.underlying22 (fun r n y hl hy => aRU hl hy) hv h
 exact ⟨a, ms, c, e, s, l, k⟩
end
end Go.Proofs.YtkccjglmnhgabaaGreatDoor

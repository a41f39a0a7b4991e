/- The law DegenerateMoved: the points moved. -/
import Derived.Test.YtkccjglmnhgabaaGreatDoorZqbo
import Derived.Test.YtkccjglmnhgabaaGreatDoorZqbm
import Derived.Test.YtkccjglmnhgabaaGreatDoorZqam
set_option linter.unusedSimpArgs false
set_option linter.unusedVariables false
set_option maxRecDepth 100000
set_option maxHeartbeats 4000000
namespace Go.Proofs.YtkccjglmnhgabaaGreatDoor
open Go Go.Fx
theorem recs3_len {a b c : Int} : (recs eZ [a, b, c]).length = 3 := rfl
attribute [local simp] recs3_len
def sel4 (a b c d : List Int) : Nat → List Int
 | 0 => a
 | 1 => b
 | 2 => c
 | _ => d
section
variable {X : List Nat} {w0 : World} {M0 M1 : List Ent} {I0 : List bB}
theorem LMov {q : Option Addr} {l : List S3} {n c : Nat} {m0 m1 m2 m3 m4 m5 m6 m7 m8 y0 y1 y2 : Int} (hGl : aEH X w0) (hl : l.length = n) (hn : (n : Int) ≤ 9223372036854775807) (hok : MB.ok ⟨m0, m1, m2, m3, m4, m5, m6, m7, m8, y0, y1, y2⟩) (hq : aW q (recs oM l) ∈ I0) :
  CD Tryz.prog 4 [.slice q n c, .agg (([.int .i8 m0, .int .i8 m1, .int .i8 m2, .int .i8 m3, .int .i8 m4, .int .i8 m5, .int .i8 m6, .int .i8 m7, .int .i8 m8] : List Value).toArray), .agg (([.int .i16 y0, .int .i16 y1, .int .i16 y2] : List Value).toArray)] X w0 M0 I0 (fun v M I => M0 = M ∧ I0 = I ∧ v = .bool true) := by
 have hKn := fun M0 I0 => aAW (X := X) (w0 := w0) (M0 := M0) (I0 := I0)
 obtain ⟨e0, e1, e2, e3, e4, e5, e6, e7, e8, f0, f1, f2⟩ : (-128 ≤ m0 ∧ m0 ≤ 127) ∧ (-128 ≤ m1 ∧ m1 ≤ 127) ∧ (-128 ≤ m2 ∧ m2 ≤ 127) ∧ (-128 ≤ m3 ∧ m3 ≤ 127) ∧ (-128 ≤ m4 ∧ m4 ≤ 127) ∧ (-128 ≤ m5 ∧ m5 ≤ 127) ∧ (-128 ≤ m6 ∧ m6 ≤ 127) ∧ (-128 ≤ m7 ∧ m7 ≤ 127) ∧ (-128 ≤ m8 ∧ m8 ≤ 127) ∧ (-32768 ≤ y0 ∧ y0 ≤ 32767) ∧ (-32768 ≤ y1 ∧ y1 ≤ 32767) ∧ (-32768 ≤ y2 ∧ y2 ≤ 32767) := hok
 refine eQ (φ := aW q (recs oM l)) (Hv.mem hq) ?_
 refine uR Tryz.func4 rfl Tryz.ntmps4 rfl ?_
 refine aJ ?_
 refine aL ?_
 (refine aX rfl rfl rfl ?_; intro b4; refine ⟨okF, ?_⟩)
 refine aO (cs := [.int .i8 m0, .int .i8 m1, .int .i8 m2, .int .i8 m3, .int .i8 m4, .int .i8 m5, .int .i8 m6, .int .i8 m7, .int .i8 m8]) .here ?_
 (refine aX rfl rfl rfl ?_; intro b5; refine ⟨okF, ?_⟩)
 refine aO (cs := [.int .i16 y0, .int .i16 y1, .int .i16 y2]) .here ?_
 repeat (refine aK ?_)
 (refine aA rfl (hKn _ _) rfl rfl ?_; rintro _ _ _ ⟨rfl, rfl, rfl⟩; refine ⟨okF, ?_⟩)
 by_cases h10 : 10 < n
 ·repeat (refine aK ?_)
  refine aH (by first | exact .inl rfl | exact .inr rfl) rfl rfl _ _ aF aD (⟨rfl, rfl, rfl⟩)
 by_cases h0 : n = 0
 ·repeat (refine aK ?_)
  refine aH (by first | exact .inl rfl | exact .inr rfl) rfl rfl _ _ aF aD (⟨rfl, rfl, rfl⟩)
 repeat (refine aK ?_)
 (refine aP (cs := recs oM []) ([]) rfl rfl (by intro v hv; repeat (first | exact absurd hv (List.not_mem_nil) | (rcases List.mem_cons.1 hv with rfl | hv; · rfl))) (by omega) rfl rfl rfl ?_; intro b6; refine ⟨okF, ?_⟩; refine jS (mm := 0) 3 .here rfl (by omega) ?_)
 repeat (refine aK ?_)
 refine aT [0, 4, 5, 33, 34] rfl (fun k G M I => ∃ (i : Nat) (rows : List S3) (qe : Option Addr) (ce : Nat), i ≤ n ∧ k = n - i ∧ rows = (l.take i).map (MB.mv ⟨m0, m1, m2, m3, m4, m5, m6, m7, m8, y0, y1, y2⟩) ∧ (∀ s ∈ l.take i, nr3 s) ∧ G = [(7, .slice qe rows.length ce), (35, .int .i64 i)] ∧ M = .row qe rows.length ce (recs oM rows) 39 3 :: M0 ∧ I = aW (some ⟨b5, 0, none⟩) [.int .i16 y0, .int .i16 y1, .int .i16 y2] :: aW (some ⟨b4, 0, none⟩) [.int .i8 m0, .int .i8 m1, .int .i8 m2, .int .i8 m3, .int .i8 m4, .int .i8 m5, .int .i8 m6, .int .i8 m7, .int .i8 m8] :: aW q (recs oM l) :: I0) (n) _ _ _ aQ aF aD (⟨0, [], some ⟨b6, 0, none⟩, _, by omega, rfl, rfl, fun s hs => by simp at hs, rfl, rfl, rfl⟩) ?_
 rintro kk G M I ⟨i, rows, qe, ce, hi, rfl, hrq, hnr, rfl, rfl, rfl⟩
 have hrl : rows.length = i := by rw [hrq, List.length_map, List.length_take]; omega
 by_cases hin : i < n
 ·have ht : l.take (i + 1) = l.take i ++ [gt l (i : Int)] := by rw [dH (by omega)]; exact (List.take_append_getElem (by omega)).symm
  obtain ⟨s, hss⟩ : ∃ s, gt l (i : Int) = s := ⟨_, rfl⟩
  rw [hss] at ht
  have hq2 : rows ++ [MB.mv ⟨m0, m1, m2, m3, m4, m5, m6, m7, m8, y0, y1, y2⟩ s] = (l.take (i + 1)).map (MB.mv ⟨m0, m1, m2, m3, m4, m5, m6, m7, m8, y0, y1, y2⟩) := by rw [ht, List.map_append, hrq]; rfl
  repeat (refine aK ?_)
  rw [hss]
  (refine aM rfl rfl ?_; intro b9; refine ⟨okF, ?_⟩)
  repeat (refine aK ?_)
  (refine aC rfl (fun _ => zS (vals := [.int .i64 s.x, .int .i64 s.y, .int .i64 s.z]) (cells := recs eZ [s.x, s.y, s.z]) rfl ?hpl rfl ?hz) rfl rfl ?_; (case hpl => exact (by intro v hv; repeat (first | exact absurd hv (List.not_mem_nil) | (rcases List.mem_cons.1 hv with rfl | hv; · rfl)))); (case hz => rfl))
  (refine aM rfl rfl ?_; intro b10; refine ⟨okF, ?_⟩)
  repeat (refine aK ?_)
  (refine aC rfl (fun _ => aCI (pvs := []) (cells := recs eZ [0, 0, 0]) rfl rfl) rfl rfl ?_)
  (refine aM rfl rfl ?_; intro b11; refine ⟨okF, ?_⟩)
  repeat (refine aK ?_)
  refine uV (M' := .blk b11 (recs eZ [0, 0, 0]) 40 :: .blk b10 (recs eZ [s.x, s.y, s.z]) 40 :: .row qe rows.length ce (recs oM rows) 39 3 :: M0) (I' := aW (some ⟨b5, 0, none⟩) [.int .i16 y0, .int .i16 y1, .int .i16 y2] :: aW (some ⟨b4, 0, none⟩) [.int .i8 m0, .int .i8 m1, .int .i8 m2, .int .i8 m3, .int .i8 m4, .int .i8 m5, .int .i8 m6, .int .i8 m7, .int .i8 m8] :: aW q (recs oM l) :: I0) aF aD ?_
  by_cases hs : nr3 s
  ·obtain ⟨n1, n2, n3⟩ : (-1000 ≤ s.x ∧ s.x ≤ 1000) ∧ (-1000 ≤ s.y ∧ s.y ≤ 1000) ∧ (-1000 ≤ s.z ∧ s.z ≤ 1000) := hs
   have p0 := rT e0 n1
   have p1 := rT e1 n2
   have p2 := rT e2 n3
   have p3 := rT e3 n1
   have p4 := rT e4 n2
   have p5 := rT e5 n3
   have p6 := rT e6 n1
   have p7 := rT e7 n2
   have p8 := rT e8 n3
   have hn2 : ∀ z ∈ l.take (i + 1), nr3 z := fun z hz => by
    rw [ht] at hz
    rcases List.mem_append.1 hz with hz | hz
    ·exact hnr z hz
    ·rw [List.mem_singleton.1 hz]; exact ⟨n1, n2, n3⟩
   refine aT [0, 4, 5, 7, 10, 11, 33, 34, 35] rfl (fun k G M I => ∃ (a : Nat) (ws : List Int), a ≤ 3 ∧ k = 3 - a ∧ ws = (sel4 [0, 0, 0] [y0 + m0 * s.x + m1 * s.y + m2 * s.z, 0, 0] [y0 + m0 * s.x + m1 * s.y + m2 * s.z, y1 + m3 * s.x + m4 * s.y + m5 * s.z, 0] [y0 + m0 * s.x + m1 * s.y + m2 * s.z, y1 + m3 * s.x + m4 * s.y + m5 * s.z, y2 + m6 * s.x + m7 * s.y + m8 * s.z]) a ∧ G = [(47, .int .i64 a)] ∧ M = .blk b11 (recs eZ ws) 40 :: .blk b10 (recs eZ [s.x, s.y, s.z]) 40 :: .row qe rows.length ce (recs oM rows) 39 3 :: M0 ∧ I = aW (some ⟨b5, 0, none⟩) [.int .i16 y0, .int .i16 y1, .int .i16 y2] :: aW (some ⟨b4, 0, none⟩) [.int .i8 m0, .int .i8 m1, .int .i8 m2, .int .i8 m3, .int .i8 m4, .int .i8 m5, .int .i8 m6, .int .i8 m7, .int .i8 m8] :: aW q (recs oM l) :: I0) (3) _ _ _ aQ aF aD (⟨0, _, by omega, rfl, rfl, rfl, rfl, rfl⟩) ?_
   rintro kk G M I ⟨a, ws, haa, rfl, hws, rfl, rfl, rfl⟩
   by_cases ha3 : a < 3
   ·obtain rfl | rfl | rfl : a = 0 ∨ a = 1 ∨ a = 2 := by omega
    ·replace hws : ws = [0, 0, 0] := hws
     subst hws
     repeat (refine aK ?_)
     refine aT [0, 4, 5, 7, 10, 11, 12, 33, 34, 35, 47] rfl (fun k G M I => ∃ (j : Nat) (ws : List Int), j ≤ 3 ∧ k = 3 - j ∧ ws = (sel4 [y0, 0, 0] [y0 + m0 * s.x, 0, 0] [y0 + m0 * s.x + m1 * s.y, 0, 0] [y0 + m0 * s.x + m1 * s.y + m2 * s.z, 0, 0]) j ∧ G = [(66, .int .i64 j)] ∧ M = .blk b11 (recs eZ ws) 40 :: .blk b10 (recs eZ [s.x, s.y, s.z]) 40 :: .row qe rows.length ce (recs oM rows) 39 3 :: M0 ∧ I = aW (some ⟨b5, 0, none⟩) [.int .i16 y0, .int .i16 y1, .int .i16 y2] :: aW (some ⟨b4, 0, none⟩) [.int .i8 m0, .int .i8 m1, .int .i8 m2, .int .i8 m3, .int .i8 m4, .int .i8 m5, .int .i8 m6, .int .i8 m7, .int .i8 m8] :: aW q (recs oM l) :: I0) (3) _ _ _ aQ aF aD (⟨0, _, by omega, rfl, rfl, rfl, rfl, rfl⟩) ?_
     rintro kk G M I ⟨j, ws, hjj, rfl, hws, rfl, rfl, rfl⟩
     by_cases hj3 : j < 3
     ·obtain rfl | rfl | rfl : j = 0 ∨ j = 1 ∨ j = 2 := by omega
      ·replace hws : ws = [y0, 0, 0] := hws
       subst hws
       repeat (refine aK ?_)
       (repeat refine aJ ?_); refine fJ [0, 1, 2, 3, 4, 5, 6, 7, 8, 9, 10, 11, 12, 13, 14, 15] [0, 0, 0, 0, 0, 0, 0, 0, 0, 0, 0, 0, 0, 0, 0, 0] mixed (by kernel_rfl) ?_
       repeat (refine aK ?_)
       refine aG (3 - (0 + 1)) _ _ _ (by first | omega | (simp only [List.length_append, List.length_cons, List.length_nil]; omega)) aQ aF aD (⟨0 + 1, [y0 + m0 * s.x, 0, 0], by omega, rfl, rfl, rfl, rfl, rfl⟩)
      ·replace hws : ws = [y0 + m0 * s.x, 0, 0] := hws
       subst hws
       repeat (refine aK ?_)
       (repeat refine aJ ?_); refine fJ [0, 1, 2, 3, 4, 5, 6, 7, 8, 9, 10, 11, 12, 13, 14, 15] [0, 0, 0, 0, 0, 0, 0, 0, 0, 0, 0, 0, 0, 0, 0, 0] mixed (by kernel_rfl) ?_
       repeat (refine aK ?_)
       refine aG (3 - (1 + 1)) _ _ _ (by first | omega | (simp only [List.length_append, List.length_cons, List.length_nil]; omega)) aQ aF aD (⟨1 + 1, [y0 + m0 * s.x + m1 * s.y, 0, 0], by omega, rfl, rfl, rfl, rfl, rfl⟩)
      ·replace hws : ws = [y0 + m0 * s.x + m1 * s.y, 0, 0] := hws
       subst hws
       repeat (refine aK ?_)
       (repeat refine aJ ?_); refine fJ [0, 1, 2, 3, 4, 5, 6, 7, 8, 9, 10, 11, 12, 13, 14, 15] [0, 0, 0, 0, 0, 0, 0, 0, 0, 0, 0, 0, 0, 0, 0, 0] mixed (by kernel_rfl) ?_
       repeat (refine aK ?_)
       refine aG (3 - (2 + 1)) _ _ _ (by first | omega | (simp only [List.length_append, List.length_cons, List.length_nil]; omega)) aQ aF aD (⟨2 + 1, [y0 + m0 * s.x + m1 * s.y + m2 * s.z, 0, 0], by omega, rfl, rfl, rfl, rfl, rfl⟩)
     ·obtain rfl : j = 3 := by omega
      replace hws : ws = [y0 + m0 * s.x + m1 * s.y + m2 * s.z, 0, 0] := hws
      subst hws
      repeat (refine aK ?_)
      refine aG (3 - (0 + 1)) _ _ _ (by first | omega | (simp only [List.length_append, List.length_cons, List.length_nil]; omega)) aQ aF aD (⟨0 + 1, [y0 + m0 * s.x + m1 * s.y + m2 * s.z, 0, 0], by omega, rfl, rfl, rfl, rfl, rfl⟩)
    ·replace hws : ws = [y0 + m0 * s.x + m1 * s.y + m2 * s.z, 0, 0] := hws
     subst hws
     repeat (refine aK ?_)
     refine aT [0, 4, 5, 7, 10, 11, 12, 33, 34, 35, 47] rfl (fun k G M I => ∃ (j : Nat) (ws : List Int), j ≤ 3 ∧ k = 3 - j ∧ ws = (sel4 [y0 + m0 * s.x + m1 * s.y + m2 * s.z, y1, 0] [y0 + m0 * s.x + m1 * s.y + m2 * s.z, y1 + m3 * s.x, 0] [y0 + m0 * s.x + m1 * s.y + m2 * s.z, y1 + m3 * s.x + m4 * s.y, 0] [y0 + m0 * s.x + m1 * s.y + m2 * s.z, y1 + m3 * s.x + m4 * s.y + m5 * s.z, 0]) j ∧ G = [(66, .int .i64 j)] ∧ M = .blk b11 (recs eZ ws) 40 :: .blk b10 (recs eZ [s.x, s.y, s.z]) 40 :: .row qe rows.length ce (recs oM rows) 39 3 :: M0 ∧ I = aW (some ⟨b5, 0, none⟩) [.int .i16 y0, .int .i16 y1, .int .i16 y2] :: aW (some ⟨b4, 0, none⟩) [.int .i8 m0, .int .i8 m1, .int .i8 m2, .int .i8 m3, .int .i8 m4, .int .i8 m5, .int .i8 m6, .int .i8 m7, .int .i8 m8] :: aW q (recs oM l) :: I0) (3) _ _ _ aQ aF aD (⟨0, _, by omega, rfl, rfl, rfl, rfl, rfl⟩) ?_
     rintro kk G M I ⟨j, ws, hjj, rfl, hws, rfl, rfl, rfl⟩
     by_cases hj3 : j < 3
     ·obtain rfl | rfl | rfl : j = 0 ∨ j = 1 ∨ j = 2 := by omega
      ·replace hws : ws = [y0 + m0 * s.x + m1 * s.y + m2 * s.z, y1, 0] := hws
       subst hws
       repeat (refine aK ?_)
       (repeat refine aJ ?_); refine fJ [0, 1, 2, 3, 4, 5, 6, 7, 8, 9, 10, 11, 12, 13, 14, 15] [0, 0, 0, 0, 0, 0, 0, 0, 0, 0, 0, 0, 0, 0, 0, 0] mixed (by kernel_rfl) ?_
       repeat (refine aK ?_)
       refine aG (3 - (0 + 1)) _ _ _ (by first | omega | (simp only [List.length_append, List.length_cons, List.length_nil]; omega)) aQ aF aD (⟨0 + 1, [y0 + m0 * s.x + m1 * s.y + m2 * s.z, y1 + m3 * s.x, 0], by omega, rfl, rfl, rfl, rfl, rfl⟩)
      ·replace hws : ws = [y0 + m0 * s.x + m1 * s.y + m2 * s.z, y1 + m3 * s.x, 0] := hws
       subst hws
       repeat (refine aK ?_)
       (repeat refine aJ ?_); refine fJ [0, 1, 2, 3, 4, 5, 6, 7, 8, 9, 10, 11, 12, 13, 14, 15] [0, 0, 0, 0, 0, 0, 0, 0, 0, 0, 0, 0, 0, 0, 0, 0] mixed (by kernel_rfl) ?_
       repeat (refine aK ?_)
       refine aG (3 - (1 + 1)) _ _ _ (by first | omega | (simp only [List.length_append, List.length_cons, List.length_nil]; omega)) aQ aF aD (⟨1 + 1, [y0 + m0 * s.x + m1 * s.y + m2 * s.z, y1 + m3 * s.x + m4 * s.y, 0], by omega, rfl, rfl, rfl, rfl, rfl⟩)
      ·replace hws : ws = [y0 + m0 * s.x + m1 * s.y + m2 * s.z, y1 + m3 * s.x + m4 * s.y, 0] := hws
       subst hws
       repeat (refine aK ?_)
       (repeat refine aJ ?_); refine fJ [0, 1, 2, 3, 4, 5, 6, 7, 8, 9, 10, 11, 12, 13, 14, 15] [0, 0, 0, 0, 0, 0, 0, 0, 0, 0, 0, 0, 0, 0, 0, 0] mixed (by kernel_rfl) ?_
       repeat (refine aK ?_)
       refine aG (3 - (2 + 1)) _ _ _ (by first | omega | (simp only [List.length_append, List.length_cons, List.length_nil]; omega)) aQ aF aD (⟨2 + 1, [y0 + m0 * s.x + m1 * s.y + m2 * s.z, y1 + m3 * s.x + m4 * s.y + m5 * s.z, 0], by omega, rfl, rfl, rfl, rfl, rfl⟩)
     ·obtain rfl : j = 3 := by omega
      replace hws : ws = [y0 + m0 * s.x + m1 * s.y + m2 * s.z, y1 + m3 * s.x + m4 * s.y + m5 * s.z, 0] := hws
      subst hws
      repeat (refine aK ?_)
      refine aG (3 - (1 + 1)) _ _ _ (by first | omega | (simp only [List.length_append, List.length_cons, List.length_nil]; omega)) aQ aF aD (⟨1 + 1, [y0 + m0 * s.x + m1 * s.y + m2 * s.z, y1 + m3 * s.x + m4 * s.y + m5 * s.z, 0], by omega, rfl, rfl, rfl, rfl, rfl⟩)
    ·replace hws : ws = [y0 + m0 * s.x + m1 * s.y + m2 * s.z, y1 + m3 * s.x + m4 * s.y + m5 * s.z, 0] := hws
     subst hws
     repeat (refine aK ?_)
     refine aT [0, 4, 5, 7, 10, 11, 12, 33, 34, 35, 47] rfl (fun k G M I => ∃ (j : Nat) (ws : List Int), j ≤ 3 ∧ k = 3 - j ∧ ws = (sel4 [y0 + m0 * s.x + m1 * s.y + m2 * s.z, y1 + m3 * s.x + m4 * s.y + m5 * s.z, y2] [y0 + m0 * s.x + m1 * s.y + m2 * s.z, y1 + m3 * s.x + m4 * s.y + m5 * s.z, y2 + m6 * s.x] [y0 + m0 * s.x + m1 * s.y + m2 * s.z, y1 + m3 * s.x + m4 * s.y + m5 * s.z, y2 + m6 * s.x + m7 * s.y] [y0 + m0 * s.x + m1 * s.y + m2 * s.z, y1 + m3 * s.x + m4 * s.y + m5 * s.z, y2 + m6 * s.x + m7 * s.y + m8 * s.z]) j ∧ G = [(66, .int .i64 j)] ∧ M = .blk b11 (recs eZ ws) 40 :: .blk b10 (recs eZ [s.x, s.y, s.z]) 40 :: .row qe rows.length ce (recs oM rows) 39 3 :: M0 ∧ I = aW (some ⟨b5, 0, none⟩) [.int .i16 y0, .int .i16 y1, .int .i16 y2] :: aW (some ⟨b4, 0, none⟩) [.int .i8 m0, .int .i8 m1, .int .i8 m2, .int .i8 m3, .int .i8 m4, .int .i8 m5, .int .i8 m6, .int .i8 m7, .int .i8 m8] :: aW q (recs oM l) :: I0) (3) _ _ _ aQ aF aD (⟨0, _, by omega, rfl, rfl, rfl, rfl, rfl⟩) ?_
     rintro kk G M I ⟨j, ws, hjj, rfl, hws, rfl, rfl, rfl⟩
     by_cases hj3 : j < 3
     ·obtain rfl | rfl | rfl : j = 0 ∨ j = 1 ∨ j = 2 := by omega
      ·replace hws : ws = [y0 + m0 * s.x + m1 * s.y + m2 * s.z, y1 + m3 * s.x + m4 * s.y + m5 * s.z, y2] := hws
       subst hws
       repeat (refine aK ?_)
       (repeat refine aJ ?_); refine fJ [0, 1, 2, 3, 4, 5, 6, 7, 8, 9, 10, 11, 12, 13, 14, 15] [0, 0, 0, 0, 0, 0, 0, 0, 0, 0, 0, 0, 0, 0, 0, 0] mixed (by kernel_rfl) ?_
       repeat (refine aK ?_)
       refine aG (3 - (0 + 1)) _ _ _ (by first | omega | (simp only [List.length_append, List.length_cons, List.length_nil]; omega)) aQ aF aD (⟨0 + 1, [y0 + m0 * s.x + m1 * s.y + m2 * s.z, y1 + m3 * s.x + m4 * s.y + m5 * s.z, y2 + m6 * s.x], by omega, rfl, rfl, rfl, rfl, rfl⟩)
      ·replace hws : ws = [y0 + m0 * s.x + m1 * s.y + m2 * s.z, y1 + m3 * s.x + m4 * s.y + m5 * s.z, y2 + m6 * s.x] := hws
       subst hws
       repeat (refine aK ?_)
       (repeat refine aJ ?_); refine fJ [0, 1, 2, 3, 4, 5, 6, 7, 8, 9, 10, 11, 12, 13, 14, 15] [0, 0, 0, 0, 0, 0, 0, 0, 0, 0, 0, 0, 0, 0, 0, 0] mixed (by kernel_rfl) ?_
       repeat (refine aK ?_)
       refine aG (3 - (1 + 1)) _ _ _ (by first | omega | (simp only [List.length_append, List.length_cons, List.length_nil]; omega)) aQ aF aD (⟨1 + 1, [y0 + m0 * s.x + m1 * s.y + m2 * s.z, y1 + m3 * s.x + m4 * s.y + m5 * s.z, y2 + m6 * s.x + m7 * s.y], by omega, rfl, rfl, rfl, rfl, rfl⟩)
      ·replace hws : ws = [y0 + m0 * s.x + m1 * s.y + m2 * s.z, y1 + m3 * s.x + m4 * s.y + m5 * s.z, y2 + m6 * s.x + m7 * s.y] := hws
       subst hws
       repeat (refine aK ?_)
       (repeat refine aJ ?_); refine fJ [0, 1, 2, 3, 4, 5, 6, 7, 8, 9, 10, 11, 12, 13, 14, 15] [0, 0, 0, 0, 0, 0, 0, 0, 0, 0, 0, 0, 0, 0, 0, 0] mixed (by kernel_rfl) ?_
       repeat (refine aK ?_)
       refine aG (3 - (2 + 1)) _ _ _ (by first | omega | (simp only [List.length_append, List.length_cons, List.length_nil]; omega)) aQ aF aD (⟨2 + 1, [y0 + m0 * s.x + m1 * s.y + m2 * s.z, y1 + m3 * s.x + m4 * s.y + m5 * s.z, y2 + m6 * s.x + m7 * s.y + m8 * s.z], by omega, rfl, rfl, rfl, rfl, rfl⟩)
     ·obtain rfl : j = 3 := by omega
      replace hws : ws = [y0 + m0 * s.x + m1 * s.y + m2 * s.z, y1 + m3 * s.x + m4 * s.y + m5 * s.z, y2 + m6 * s.x + m7 * s.y + m8 * s.z] := hws
      subst hws
      repeat (refine aK ?_)
      refine aG (3 - (2 + 1)) _ _ _ (by first | omega | (simp only [List.length_append, List.length_cons, List.length_nil]; omega)) aQ aF aD (⟨2 + 1, [y0 + m0 * s.x + m1 * s.y + m2 * s.z, y1 + m3 * s.x + m4 * s.y + m5 * s.z, y2 + m6 * s.x + m7 * s.y + m8 * s.z], by omega, rfl, rfl, rfl, rfl, rfl⟩)
   ·obtain rfl : a = 3 := by omega
    replace hws : ws = [y0 + m0 * s.x + m1 * s.y + m2 * s.z, y1 + m3 * s.x + m4 * s.y + m5 * s.z, y2 + m6 * s.x + m7 * s.y + m8 * s.z] := hws
    subst hws
    repeat (refine aK ?_)
    (refine aC rfl (fun _ => dE (pvs := ([.int .i64 (y0 + m0 * s.x + m1 * s.y + m2 * s.z), .int .i64 (y1 + m3 * s.x + m4 * s.y + m5 * s.z), .int .i64 (y2 + m6 * s.x + m7 * s.y + m8 * s.z)]).zipIdx.map (fun p => (p.2, p.1))) (cells := oM (MB.mv ⟨m0, m1, m2, m3, m4, m5, m6, m7, m8, y0, y1, y2⟩ s)) rfl rfl) rfl rfl ?_)
    (refine aP (cs := recs oM [MB.mv ⟨m0, m1, m2, m3, m4, m5, m6, m7, m8, y0, y1, y2⟩ s]) ([vS3 (MB.mv ⟨m0, m1, m2, m3, m4, m5, m6, m7, m8, y0, y1, y2⟩ s)]) rfl rfl (by intro v hv; repeat (first | exact absurd hv (List.not_mem_nil) | (rcases List.mem_cons.1 hv with rfl | hv; · rfl))) (by omega) rfl rfl rfl ?_; intro bl; refine ⟨okF, ?_⟩)
    (refine dC (ys := [MB.mv ⟨m0, m1, m2, m3, m4, m5, m6, m7, m8, y0, y1, y2⟩ s]) 3 rfl rfl rfl ?_ (by decide) rfl (by omega) (by omega) rfl rfl ?_; (· first | exact Src.blk aB | exact Src.row aB | exact Src.imm aB (by first | assumption | exact .inl (Ok.mk _ _))); intro q3 c3; refine ⟨okF, ?_⟩)
    repeat (refine aK ?_)
    refine aG (n - (i + 1)) _ _ _ (by first | omega | (simp only [List.length_append, List.length_cons, List.length_nil]; omega)) aQ aF aD (⟨i + 1, rows ++ [MB.mv ⟨m0, m1, m2, m3, m4, m5, m6, m7, m8, y0, y1, y2⟩ s], q3, c3, by omega, rfl, hq2, hn2, rfl, rfl, rfl⟩)
  ·clear hq2 ht
   refine aT [0, 4, 5, 7, 10, 11, 33, 34, 35] rfl (fun k G M I => ∃ (a : Nat) (v0 v1 v2 : Int), a ≤ 3 ∧ k = 3 - a ∧ (0 < a → -1000 ≤ s.x ∧ s.x ≤ 1000) ∧ (1 < a → -1000 ≤ s.y ∧ s.y ≤ 1000) ∧ (2 < a → -1000 ≤ s.z ∧ s.z ≤ 1000) ∧ G = [(47, .int .i64 a)] ∧ M = .blk b11 (recs eZ [v0, v1, v2]) 40 :: .blk b10 (recs eZ [s.x, s.y, s.z]) 40 :: .row qe rows.length ce (recs oM rows) 39 3 :: M0 ∧ I = aW (some ⟨b5, 0, none⟩) [.int .i16 y0, .int .i16 y1, .int .i16 y2] :: aW (some ⟨b4, 0, none⟩) [.int .i8 m0, .int .i8 m1, .int .i8 m2, .int .i8 m3, .int .i8 m4, .int .i8 m5, .int .i8 m6, .int .i8 m7, .int .i8 m8] :: aW q (recs oM l) :: I0) (3) _ _ _ aQ aF aD (⟨0, 0, 0, 0, by omega, rfl, fun h => by omega, fun h => by omega, fun h => by omega, rfl, rfl, rfl⟩) ?_
   rintro kk G M I ⟨a, v0, v1, v2, haa, rfl, k0, k1, k2, rfl, rfl, rfl⟩
   by_cases ha3 : a < 3
   ·obtain rfl | rfl | rfl : a = 0 ∨ a = 1 ∨ a = 2 := by omega
    ·by_cases c1 : s.x < -1000
     ·repeat (refine aK ?_)
      refine rV (M' := M0) (I' := I0) aF aD ?_
      refine aH (by first | exact .inl rfl | exact .inr rfl) rfl rfl _ _ aF aD (⟨rfl, rfl, rfl⟩)
     by_cases c2 : 1000 < s.x
     ·repeat (refine aK ?_)
      refine rV (M' := M0) (I' := I0) aF aD ?_
      refine aH (by first | exact .inl rfl | exact .inr rfl) rfl rfl _ _ aF aD (⟨rfl, rfl, rfl⟩)
     repeat (refine aK ?_)
     refine aT [0, 4, 5, 7, 10, 11, 12, 33, 34, 35, 47] rfl (fun k G M I => ∃ (j : Nat) (v0 v1 v2 : Int), j ≤ 3 ∧ k = 3 - j ∧ G = [(66, .int .i64 j)] ∧ M = .blk b11 (recs eZ [v0, v1, v2]) 40 :: .blk b10 (recs eZ [s.x, s.y, s.z]) 40 :: .row qe rows.length ce (recs oM rows) 39 3 :: M0 ∧ I = aW (some ⟨b5, 0, none⟩) [.int .i16 y0, .int .i16 y1, .int .i16 y2] :: aW (some ⟨b4, 0, none⟩) [.int .i8 m0, .int .i8 m1, .int .i8 m2, .int .i8 m3, .int .i8 m4, .int .i8 m5, .int .i8 m6, .int .i8 m7, .int .i8 m8] :: aW q (recs oM l) :: I0) (3) _ _ _ aQ aF aD (⟨0, _, _, _, by omega, rfl, rfl, rfl, rfl⟩) ?_
     rintro kk G M I ⟨j, v0, v1, v2, hjj, rfl, rfl, rfl, rfl⟩
     by_cases hj3 : j < 3
     ·obtain rfl | rfl | rfl : j = 0 ∨ j = 1 ∨ j = 2 := by omega
      ·repeat (refine aK ?_)
       (repeat refine aJ ?_); refine fJ [0, 1, 2, 3, 4, 5, 6, 7, 8, 9, 10, 11, 12, 13, 14, 15] [0, 0, 0, 0, 0, 0, 0, 0, 0, 0, 0, 0, 0, 0, 0, 0] mixed (by kernel_rfl) ?_
       repeat (refine aK ?_)
       (refine aC rfl (fun _ => bW rfl rfl rfl) rfl rfl ?_)
       (refine aC rfl (fun _ => bD rfl rfl rfl) rfl rfl ?_)
       repeat (refine aK ?_)
       refine aG (3 - (0 + 1)) _ _ _ (by first | omega | (simp only [List.length_append, List.length_cons, List.length_nil]; omega)) aQ aF aD (⟨0 + 1, _, _, _, by omega, rfl, rfl, rfl, rfl⟩)
      ·repeat (refine aK ?_)
       (repeat refine aJ ?_); refine fJ [0, 1, 2, 3, 4, 5, 6, 7, 8, 9, 10, 11, 12, 13, 14, 15] [0, 0, 0, 0, 0, 0, 0, 0, 0, 0, 0, 0, 0, 0, 0, 0] mixed (by kernel_rfl) ?_
       repeat (refine aK ?_)
       (refine aC rfl (fun _ => bW rfl rfl rfl) rfl rfl ?_)
       (refine aC rfl (fun _ => bD rfl rfl rfl) rfl rfl ?_)
       repeat (refine aK ?_)
       refine aG (3 - (1 + 1)) _ _ _ (by first | omega | (simp only [List.length_append, List.length_cons, List.length_nil]; omega)) aQ aF aD (⟨1 + 1, _, _, _, by omega, rfl, rfl, rfl, rfl⟩)
      ·repeat (refine aK ?_)
       (repeat refine aJ ?_); refine fJ [0, 1, 2, 3, 4, 5, 6, 7, 8, 9, 10, 11, 12, 13, 14, 15] [0, 0, 0, 0, 0, 0, 0, 0, 0, 0, 0, 0, 0, 0, 0, 0] mixed (by kernel_rfl) ?_
       repeat (refine aK ?_)
       (refine aC rfl (fun _ => bW rfl rfl rfl) rfl rfl ?_)
       (refine aC rfl (fun _ => bD rfl rfl rfl) rfl rfl ?_)
       repeat (refine aK ?_)
       refine aG (3 - (2 + 1)) _ _ _ (by first | omega | (simp only [List.length_append, List.length_cons, List.length_nil]; omega)) aQ aF aD (⟨2 + 1, _, _, _, by omega, rfl, rfl, rfl, rfl⟩)
     ·obtain rfl : j = 3 := by omega
      repeat (refine aK ?_)
      refine aG (3 - (0 + 1)) _ _ _ (by first | omega | (simp only [List.length_append, List.length_cons, List.length_nil]; omega)) aQ aF aD (⟨0 + 1, v0, v1, v2, by omega, rfl, fun _ => by omega, fun h => by omega, fun h => by omega, rfl, rfl, rfl⟩)
    ·by_cases c1 : s.y < -1000
     ·repeat (refine aK ?_)
      refine rV (M' := M0) (I' := I0) aF aD ?_
      refine aH (by first | exact .inl rfl | exact .inr rfl) rfl rfl _ _ aF aD (⟨rfl, rfl, rfl⟩)
     by_cases c2 : 1000 < s.y
     ·repeat (refine aK ?_)
      refine rV (M' := M0) (I' := I0) aF aD ?_
      refine aH (by first | exact .inl rfl | exact .inr rfl) rfl rfl _ _ aF aD (⟨rfl, rfl, rfl⟩)
     repeat (refine aK ?_)
     refine aT [0, 4, 5, 7, 10, 11, 12, 33, 34, 35, 47] rfl (fun k G M I => ∃ (j : Nat) (v0 v1 v2 : Int), j ≤ 3 ∧ k = 3 - j ∧ G = [(66, .int .i64 j)] ∧ M = .blk b11 (recs eZ [v0, v1, v2]) 40 :: .blk b10 (recs eZ [s.x, s.y, s.z]) 40 :: .row qe rows.length ce (recs oM rows) 39 3 :: M0 ∧ I = aW (some ⟨b5, 0, none⟩) [.int .i16 y0, .int .i16 y1, .int .i16 y2] :: aW (some ⟨b4, 0, none⟩) [.int .i8 m0, .int .i8 m1, .int .i8 m2, .int .i8 m3, .int .i8 m4, .int .i8 m5, .int .i8 m6, .int .i8 m7, .int .i8 m8] :: aW q (recs oM l) :: I0) (3) _ _ _ aQ aF aD (⟨0, _, _, _, by omega, rfl, rfl, rfl, rfl⟩) ?_
     rintro kk G M I ⟨j, v0, v1, v2, hjj, rfl, rfl, rfl, rfl⟩
     by_cases hj3 : j < 3
     ·obtain rfl | rfl | rfl : j = 0 ∨ j = 1 ∨ j = 2 := by omega
      ·repeat (refine aK ?_)
       (repeat refine aJ ?_); refine fJ [0, 1, 2, 3, 4, 5, 6, 7, 8, 9, 10, 11, 12, 13, 14, 15] [0, 0, 0, 0, 0, 0, 0, 0, 0, 0, 0, 0, 0, 0, 0, 0] mixed (by kernel_rfl) ?_
       repeat (refine aK ?_)
       (refine aC rfl (fun _ => bW rfl rfl rfl) rfl rfl ?_)
       (refine aC rfl (fun _ => bD rfl rfl rfl) rfl rfl ?_)
       repeat (refine aK ?_)
       refine aG (3 - (0 + 1)) _ _ _ (by first | omega | (simp only [List.length_append, List.length_cons, List.length_nil]; omega)) aQ aF aD (⟨0 + 1, _, _, _, by omega, rfl, rfl, rfl, rfl⟩)
      ·repeat (refine aK ?_)
       (repeat refine aJ ?_); refine fJ [0, 1, 2, 3, 4, 5, 6, 7, 8, 9, 10, 11, 12, 13, 14, 15] [0, 0, 0, 0, 0, 0, 0, 0, 0, 0, 0, 0, 0, 0, 0, 0] mixed (by kernel_rfl) ?_
       repeat (refine aK ?_)
       (refine aC rfl (fun _ => bW rfl rfl rfl) rfl rfl ?_)
       (refine aC rfl (fun _ => bD rfl rfl rfl) rfl rfl ?_)
       repeat (refine aK ?_)
       refine aG (3 - (1 + 1)) _ _ _ (by first | omega | (simp only [List.length_append, List.length_cons, List.length_nil]; omega)) aQ aF aD (⟨1 + 1, _, _, _, by omega, rfl, rfl, rfl, rfl⟩)
      ·repeat (refine aK ?_)
       (repeat refine aJ ?_); refine fJ [0, 1, 2, 3, 4, 5, 6, 7, 8, 9, 10, 11, 12, 13, 14, 15] [0, 0, 0, 0, 0, 0, 0, 0, 0, 0, 0, 0, 0, 0, 0, 0] mixed (by kernel_rfl) ?_
       repeat (refine aK ?_)
       (refine aC rfl (fun _ => bW rfl rfl rfl) rfl rfl ?_)
       (refine aC rfl (fun _ => bD rfl rfl rfl) rfl rfl ?_)
       repeat (refine aK ?_)
       refine aG (3 - (2 + 1)) _ _ _ (by first | omega | (simp only [List.length_append, List.length_cons, List.length_nil]; omega)) aQ aF aD (⟨2 + 1, _, _, _, by omega, rfl, rfl, rfl, rfl⟩)
     ·obtain rfl : j = 3 := by omega
      repeat (refine aK ?_)
      refine aG (3 - (1 + 1)) _ _ _ (by first | omega | (simp only [List.length_append, List.length_cons, List.length_nil]; omega)) aQ aF aD (⟨1 + 1, v0, v1, v2, by omega, rfl, fun _ => k0 (by omega), fun h => by omega, fun h => by omega, rfl, rfl, rfl⟩)
    ·by_cases c1 : s.z < -1000
     ·repeat (refine aK ?_)
      refine rV (M' := M0) (I' := I0) aF aD ?_
      refine aH (by first | exact .inl rfl | exact .inr rfl) rfl rfl _ _ aF aD (⟨rfl, rfl, rfl⟩)
     by_cases c2 : 1000 < s.z
     ·repeat (refine aK ?_)
      refine rV (M' := M0) (I' := I0) aF aD ?_
      refine aH (by first | exact .inl rfl | exact .inr rfl) rfl rfl _ _ aF aD (⟨rfl, rfl, rfl⟩)
     repeat (refine aK ?_)
     refine aT [0, 4, 5, 7, 10, 11, 12, 33, 34, 35, 47] rfl (fun k G M I => ∃ (j : Nat) (v0 v1 v2 : Int), j ≤ 3 ∧ k = 3 - j ∧ G = [(66, .int .i64 j)] ∧ M = .blk b11 (recs eZ [v0, v1, v2]) 40 :: .blk b10 (recs eZ [s.x, s.y, s.z]) 40 :: .row qe rows.length ce (recs oM rows) 39 3 :: M0 ∧ I = aW (some ⟨b5, 0, none⟩) [.int .i16 y0, .int .i16 y1, .int .i16 y2] :: aW (some ⟨b4, 0, none⟩) [.int .i8 m0, .int .i8 m1, .int .i8 m2, .int .i8 m3, .int .i8 m4, .int .i8 m5, .int .i8 m6, .int .i8 m7, .int .i8 m8] :: aW q (recs oM l) :: I0) (3) _ _ _ aQ aF aD (⟨0, _, _, _, by omega, rfl, rfl, rfl, rfl⟩) ?_
     rintro kk G M I ⟨j, v0, v1, v2, hjj, rfl, rfl, rfl, rfl⟩
     by_cases hj3 : j < 3
     ·obtain rfl | rfl | rfl : j = 0 ∨ j = 1 ∨ j = 2 := by omega
      ·repeat (refine aK ?_)
       (repeat refine aJ ?_); refine fJ [0, 1, 2, 3, 4, 5, 6, 7, 8, 9, 10, 11, 12, 13, 14, 15] [0, 0, 0, 0, 0, 0, 0, 0, 0, 0, 0, 0, 0, 0, 0, 0] mixed (by kernel_rfl) ?_
       repeat (refine aK ?_)
       (refine aC rfl (fun _ => bW rfl rfl rfl) rfl rfl ?_)
       (refine aC rfl (fun _ => bD rfl rfl rfl) rfl rfl ?_)
       repeat (refine aK ?_)
       refine aG (3 - (0 + 1)) _ _ _ (by first | omega | (simp only [List.length_append, List.length_cons, List.length_nil]; omega)) aQ aF aD (⟨0 + 1, _, _, _, by omega, rfl, rfl, rfl, rfl⟩)
      ·repeat (refine aK ?_)
       (repeat refine aJ ?_); refine fJ [0, 1, 2, 3, 4, 5, 6, 7, 8, 9, 10, 11, 12, 13, 14, 15] [0, 0, 0, 0, 0, 0, 0, 0, 0, 0, 0, 0, 0, 0, 0, 0] mixed (by kernel_rfl) ?_
       repeat (refine aK ?_)
       (refine aC rfl (fun _ => bW rfl rfl rfl) rfl rfl ?_)
       (refine aC rfl (fun _ => bD rfl rfl rfl) rfl rfl ?_)
       repeat (refine aK ?_)
       refine aG (3 - (1 + 1)) _ _ _ (by first | omega | (simp only [List.length_append, List.length_cons, List.length_nil]; omega)) aQ aF aD (⟨1 + 1, _, _, _, by omega, rfl, rfl, rfl, rfl⟩)
      ·repeat (refine aK ?_)
       (repeat refine aJ ?_); refine fJ [0, 1, 2, 3, 4, 5, 6, 7, 8, 9, 10, 11, 12, 13, 14, 15] [0, 0, 0, 0, 0, 0, 0, 0, 0, 0, 0, 0, 0, 0, 0, 0] mixed (by kernel_rfl) ?_
       repeat (refine aK ?_)
       (refine aC rfl (fun _ => bW rfl rfl rfl) rfl rfl ?_)
       (refine aC rfl (fun _ => bD rfl rfl rfl) rfl rfl ?_)
       repeat (refine aK ?_)
       refine aG (3 - (2 + 1)) _ _ _ (by first | omega | (simp only [List.length_append, List.length_cons, List.length_nil]; omega)) aQ aF aD (⟨2 + 1, _, _, _, by omega, rfl, rfl, rfl, rfl⟩)
     ·obtain rfl : j = 3 := by omega
      repeat (refine aK ?_)
      refine aG (3 - (2 + 1)) _ _ _ (by first | omega | (simp only [List.length_append, List.length_cons, List.length_nil]; omega)) aQ aF aD (⟨2 + 1, v0, v1, v2, by omega, rfl, fun _ => k0 (by omega), fun h => k1 (by omega), fun h => by omega, rfl, rfl, rfl⟩)
   ·exact absurd ⟨k0 (by omega), k1 (by omega), k2 (by omega)⟩ hs
 ·obtain rfl : i = n := by omega
  rw [List.take_of_length_le (by omega)] at hrq hnr
  have hno : ¬ farS l := by
   rintro ⟨s, hs, x, hx, hx2⟩
   obtain ⟨⟨a1, a2⟩, ⟨a3, a4⟩, a5, a6⟩ := hnr s hs
   simp only [List.mem_cons, List.not_mem_nil, or_false] at hx
   rcases hx with rfl | rfl | rfl <;> omega
  have hsl : iZ l = 0 := by unfold iZ; rw [if_neg (by omega), if_neg (by omega), if_neg hno]
  have hS := fun M0 I0 h => aFL (X := X) (w0 := w0) (M0 := M0) (I0 := I0) (q := qe) (l := rows) (n := i) (c := ce) hrl (by omega) h
  repeat (refine aK ?_)
  refine aCA (fun _ hw => hw.freezeR .here) ?_
  rw [hrl]
  by_cases hc : iZ rows = 0
  case neg =>
   generalize iZ rows = cd at *
   ((repeat refine aJ ?_); refine zM (M0) (aW qe (recs oM rows) :: aW (some ⟨b5, 0, none⟩) [.int .i16 y0, .int .i16 y1, .int .i16 y2] :: aW (some ⟨b4, 0, none⟩) [.int .i8 m0, .int .i8 m1, .int .i8 m2, .int .i8 m3, .int .i8 m4, .int .i8 m5, .int .i8 m6, .int .i8 m7, .int .i8 m8] :: aW q (recs oM l) :: I0) mixed ?_)
   refine sN (fuel := 11) (listed' := #[true, true, true, true, true, true, true, true, true, true, true, true, true, true, true, true, false, false, true, true, true, true, true, true, true, true, true, true, true, true, false, false, true, true, true, true, true, true, true, true, true, true, true, true, false, false, false, false, false, false, false]) [0, 1, 2, 3, 4, 5, 6, 7, 8, 9, 10, 11, 12, 13, 14, 15, 18, 19, 20, 21, 22, 23, 24, 25, 26, 27, 28, 29, 32, 33, 34, 35, 36, 37, 38, 39, 40, 41, 42, 43] [9, 0, 9, 0, 9, 9, 9, 8, 9, 9, 9, 8, 9, 9, 9, 8, 9, 9, 9, 8, 9, 9, 9, 8, 9, 9, 9, 8, 9, 9, 9, 8, 9, 9, 9, 8, 9, 9, 9, 8] aF aD (by kernel_rfl) (by kernel_rfl) rfl rfl ?_
   repeat (refine aK ?_)
   (refine aA rfl (hS _ _ aB) rfl rfl ?_; rintro _ _ _ ⟨rfl, rfl, rfl⟩; refine ⟨okF, ?_⟩)
   repeat (refine aK ?_)
   refine oU (fuel := 10) (i := 16) (j := 30) (m := 44) (by kernel_rfl) ?_ ?_ ?_
   ·(first | (refine aN rfl rfl ?_; refine aI rfl rfl rfl (by exact okF) ?_) | skip)
    refine bA ?_
    repeat (refine aK ?_)
    refine oU (fuel := 9) (i := 17) (j := 30) (m := 44) (by kernel_rfl) ?_ ?_ ?_
    ·(first | (refine aN rfl rfl ?_; refine aI rfl rfl rfl (by exact okF) ?_) | skip)
     refine bA ?_
     repeat (refine aK ?_)
     refine cK (fuel := 8) (i := 30) (j := 44) (by kernel_rfl) ?_ ?_
     ·(first | (refine aN rfl rfl ?_; refine aI rfl rfl rfl (by exact okF) ?_) | skip)
      refine bA ?_
      repeat (refine aK ?_)
      refine cK (fuel := 7) (i := 31) (j := 44) (by kernel_rfl) ?_ ?_
      ·(first | (refine aN rfl rfl ?_; refine aI rfl rfl rfl (by exact okF) ?_) | skip)
       refine bA ?_
       refine bG [44, 45, 46, 47, 48, 49, 50] [0, 0, 0, 0, 0, 0, 0] aF aD (by kernel_rfl) (by kernel_rfl) rfl rfl ?_
       repeat (refine aK ?_)
       (first | (refine aN rfl rfl ?_; refine aI rfl rfl rfl (by exact okF) ?_) | skip)
       repeat (refine aK ?_)
       (first | (refine aN rfl rfl ?_; refine aI rfl rfl rfl (by exact okF) ?_) | skip)
       repeat (refine aK ?_)
       (first | (refine aN rfl rfl ?_; refine aI rfl rfl rfl (by exact okF) ?_) | skip)
       repeat (refine aK ?_)
       (first | (refine aN rfl rfl ?_; refine aI rfl rfl rfl (by exact okF) ?_) | skip)
       repeat (refine aK ?_)
       (first | (refine aN rfl rfl ?_; refine aI rfl rfl rfl (by exact okF) ?_) | skip)
       repeat (refine aK ?_)
       refine aH (by first | exact .inl rfl | exact .inr rfl) rfl rfl _ _ aF aD (⟨rfl, rfl, rfl⟩)
      ·(first | (refine aN rfl rfl ?_; refine aI rfl rfl rfl (by exact okF) ?_) | skip)
       refine bA ?_
       refine bG [31, 45, 46, 47, 48, 49, 50] [0, 0, 0, 0, 0, 0, 0] aF aD (by kernel_rfl) (by kernel_rfl) rfl rfl ?_
       repeat (refine aK ?_)
       (first | (refine aN rfl rfl ?_; refine aI rfl rfl rfl (by exact okF) ?_) | skip)
       repeat (refine aK ?_)
       (first | (refine aN rfl rfl ?_; refine aI rfl rfl rfl (by exact okF) ?_) | skip)
       repeat (refine aK ?_)
       (first | (refine aN rfl rfl ?_; refine aI rfl rfl rfl (by exact okF) ?_) | skip)
       repeat (refine aK ?_)
       (first | (refine aN rfl rfl ?_; refine aI rfl rfl rfl (by exact okF) ?_) | skip)
       repeat (refine aK ?_)
       (first | (refine aN rfl rfl ?_; refine aI rfl rfl rfl (by exact okF) ?_) | skip)
       repeat (refine aK ?_)
       refine aH (by first | exact .inl rfl | exact .inr rfl) rfl rfl _ _ aF aD (⟨rfl, rfl, rfl⟩)
     ·(first | (refine aN rfl rfl ?_; refine aI rfl rfl rfl (by exact okF) ?_) | skip)
      refine bA ?_
      refine bG [30, 31, 45, 46, 47, 48, 49, 50] [0, 0, 0, 0, 0, 0, 0, 0] aF aD (by kernel_rfl) (by kernel_rfl) rfl rfl ?_
      repeat (refine aK ?_)
      (first | (refine aN rfl rfl ?_; refine aI rfl rfl rfl (by exact okF) ?_) | skip)
      repeat (refine aK ?_)
      (first | (refine aN rfl rfl ?_; refine aI rfl rfl rfl (by exact okF) ?_) | skip)
      repeat (refine aK ?_)
      (first | (refine aN rfl rfl ?_; refine aI rfl rfl rfl (by exact okF) ?_) | skip)
      repeat (refine aK ?_)
      (first | (refine aN rfl rfl ?_; refine aI rfl rfl rfl (by exact okF) ?_) | skip)
      repeat (refine aK ?_)
      (first | (refine aN rfl rfl ?_; refine aI rfl rfl rfl (by exact okF) ?_) | skip)
      repeat (refine aK ?_)
      (first | (refine aN rfl rfl ?_; refine aI rfl rfl rfl (by exact okF) ?_) | skip)
      repeat (refine aK ?_)
      refine aH (by first | exact .inl rfl | exact .inr rfl) rfl rfl _ _ aF aD (⟨rfl, rfl, rfl⟩)
    ·(first | (refine aN rfl rfl ?_; refine aI rfl rfl rfl (by exact okF) ?_) | skip)
     refine bA ?_
     repeat (refine aK ?_)
     refine cK (fuel := 8) (i := 17) (j := 44) (by kernel_rfl) ?_ ?_
     ·(first | (refine aN rfl rfl ?_; refine aI rfl rfl rfl (by exact okF) ?_) | skip)
      refine bA ?_
      repeat (refine aK ?_)
      refine cK (fuel := 7) (i := 31) (j := 44) (by kernel_rfl) ?_ ?_
      ·(first | (refine aN rfl rfl ?_; refine aI rfl rfl rfl (by exact okF) ?_) | skip)
       refine bA ?_
       refine bG [44, 45, 46, 47, 48, 49, 50] [0, 0, 0, 0, 0, 0, 0] aF aD (by kernel_rfl) (by kernel_rfl) rfl rfl ?_
       repeat (refine aK ?_)
       (first | (refine aN rfl rfl ?_; refine aI rfl rfl rfl (by exact okF) ?_) | skip)
       repeat (refine aK ?_)
       (first | (refine aN rfl rfl ?_; refine aI rfl rfl rfl (by exact okF) ?_) | skip)
       repeat (refine aK ?_)
       (first | (refine aN rfl rfl ?_; refine aI rfl rfl rfl (by exact okF) ?_) | skip)
       repeat (refine aK ?_)
       (first | (refine aN rfl rfl ?_; refine aI rfl rfl rfl (by exact okF) ?_) | skip)
       repeat (refine aK ?_)
       (first | (refine aN rfl rfl ?_; refine aI rfl rfl rfl (by exact okF) ?_) | skip)
       repeat (refine aK ?_)
       refine aH (by first | exact .inl rfl | exact .inr rfl) rfl rfl _ _ aF aD (⟨rfl, rfl, rfl⟩)
      ·(first | (refine aN rfl rfl ?_; refine aI rfl rfl rfl (by exact okF) ?_) | skip)
       refine bA ?_
       refine bG [31, 45, 46, 47, 48, 49, 50] [0, 0, 0, 0, 0, 0, 0] aF aD (by kernel_rfl) (by kernel_rfl) rfl rfl ?_
       repeat (refine aK ?_)
       (first | (refine aN rfl rfl ?_; refine aI rfl rfl rfl (by exact okF) ?_) | skip)
       repeat (refine aK ?_)
       (first | (refine aN rfl rfl ?_; refine aI rfl rfl rfl (by exact okF) ?_) | skip)
       repeat (refine aK ?_)
       (first | (refine aN rfl rfl ?_; refine aI rfl rfl rfl (by exact okF) ?_) | skip)
       repeat (refine aK ?_)
       (first | (refine aN rfl rfl ?_; refine aI rfl rfl rfl (by exact okF) ?_) | skip)
       repeat (refine aK ?_)
       (first | (refine aN rfl rfl ?_; refine aI rfl rfl rfl (by exact okF) ?_) | skip)
       repeat (refine aK ?_)
       refine aH (by first | exact .inl rfl | exact .inr rfl) rfl rfl _ _ aF aD (⟨rfl, rfl, rfl⟩)
     ·(first | (refine aN rfl rfl ?_; refine aI rfl rfl rfl (by exact okF) ?_) | skip)
      refine bA ?_
      refine bG [17, 31, 45, 46, 47, 48, 49, 50] [0, 0, 0, 0, 0, 0, 0, 0] aF aD (by kernel_rfl) (by kernel_rfl) rfl rfl ?_
      repeat (refine aK ?_)
      (first | (refine aN rfl rfl ?_; refine aI rfl rfl rfl (by exact okF) ?_) | skip)
      repeat (refine aK ?_)
      (first | (refine aN rfl rfl ?_; refine aI rfl rfl rfl (by exact okF) ?_) | skip)
      repeat (refine aK ?_)
      (first | (refine aN rfl rfl ?_; refine aI rfl rfl rfl (by exact okF) ?_) | skip)
      repeat (refine aK ?_)
      (first | (refine aN rfl rfl ?_; refine aI rfl rfl rfl (by exact okF) ?_) | skip)
      repeat (refine aK ?_)
      (first | (refine aN rfl rfl ?_; refine aI rfl rfl rfl (by exact okF) ?_) | skip)
      repeat (refine aK ?_)
      (first | (refine aN rfl rfl ?_; refine aI rfl rfl rfl (by exact okF) ?_) | skip)
      repeat (refine aK ?_)
      refine aH (by first | exact .inl rfl | exact .inr rfl) rfl rfl _ _ aF aD (⟨rfl, rfl, rfl⟩)
    ·(first | (refine aN rfl rfl ?_; refine aI rfl rfl rfl (by exact okF) ?_) | skip)
     refine bA ?_
     repeat (refine aK ?_)
     refine cK (fuel := 8) (i := 17) (j := 30) (by kernel_rfl) ?_ ?_
     ·(first | (refine aN rfl rfl ?_; refine aI rfl rfl rfl (by exact okF) ?_) | skip)
      refine bA ?_
      refine bG [30, 31, 45, 46, 47, 48, 49, 50] [0, 0, 0, 0, 0, 0, 0, 0] aF aD (by kernel_rfl) (by kernel_rfl) rfl rfl ?_
      repeat (refine aK ?_)
      (first | (refine aN rfl rfl ?_; refine aI rfl rfl rfl (by exact okF) ?_) | skip)
      repeat (refine aK ?_)
      (first | (refine aN rfl rfl ?_; refine aI rfl rfl rfl (by exact okF) ?_) | skip)
      repeat (refine aK ?_)
      (first | (refine aN rfl rfl ?_; refine aI rfl rfl rfl (by exact okF) ?_) | skip)
      repeat (refine aK ?_)
      (first | (refine aN rfl rfl ?_; refine aI rfl rfl rfl (by exact okF) ?_) | skip)
      repeat (refine aK ?_)
      (first | (refine aN rfl rfl ?_; refine aI rfl rfl rfl (by exact okF) ?_) | skip)
      repeat (refine aK ?_)
      (first | (refine aN rfl rfl ?_; refine aI rfl rfl rfl (by exact okF) ?_) | skip)
      repeat (refine aK ?_)
      refine aH (by first | exact .inl rfl | exact .inr rfl) rfl rfl _ _ aF aD (⟨rfl, rfl, rfl⟩)
     ·(first | (refine aN rfl rfl ?_; refine aI rfl rfl rfl (by exact okF) ?_) | skip)
      refine bA ?_
      refine bG [17, 31, 45, 46, 47, 48, 49, 50] [0, 0, 0, 0, 0, 0, 0, 0] aF aD (by kernel_rfl) (by kernel_rfl) rfl rfl ?_
      repeat (refine aK ?_)
      (first | (refine aN rfl rfl ?_; refine aI rfl rfl rfl (by exact okF) ?_) | skip)
      repeat (refine aK ?_)
      (first | (refine aN rfl rfl ?_; refine aI rfl rfl rfl (by exact okF) ?_) | skip)
      repeat (refine aK ?_)
      (first | (refine aN rfl rfl ?_; refine aI rfl rfl rfl (by exact okF) ?_) | skip)
      repeat (refine aK ?_)
      (first | (refine aN rfl rfl ?_; refine aI rfl rfl rfl (by exact okF) ?_) | skip)
      repeat (refine aK ?_)
      (first | (refine aN rfl rfl ?_; refine aI rfl rfl rfl (by exact okF) ?_) | skip)
      repeat (refine aK ?_)
      (first | (refine aN rfl rfl ?_; refine aI rfl rfl rfl (by exact okF) ?_) | skip)
      repeat (refine aK ?_)
      refine aH (by first | exact .inl rfl | exact .inr rfl) rfl rfl _ _ aF aD (⟨rfl, rfl, rfl⟩)
   ·(first | (refine aN rfl rfl ?_; refine aI rfl rfl rfl (by exact okF) ?_) | skip)
    refine bA ?_
    repeat (refine aK ?_)
    refine cK (fuel := 9) (i := 16) (j := 44) (by kernel_rfl) ?_ ?_
    ·(first | (refine aN rfl rfl ?_; refine aI rfl rfl rfl (by exact okF) ?_) | skip)
     refine bA ?_
     repeat (refine aK ?_)
     refine cK (fuel := 8) (i := 17) (j := 44) (by kernel_rfl) ?_ ?_
     ·(first | (refine aN rfl rfl ?_; refine aI rfl rfl rfl (by exact okF) ?_) | skip)
      refine bA ?_
      repeat (refine aK ?_)
      refine cK (fuel := 7) (i := 31) (j := 44) (by kernel_rfl) ?_ ?_
      ·(first | (refine aN rfl rfl ?_; refine aI rfl rfl rfl (by exact okF) ?_) | skip)
       refine bA ?_
       refine bG [44, 45, 46, 47, 48, 49, 50] [0, 0, 0, 0, 0, 0, 0] aF aD (by kernel_rfl) (by kernel_rfl) rfl rfl ?_
       repeat (refine aK ?_)
       (first | (refine aN rfl rfl ?_; refine aI rfl rfl rfl (by exact okF) ?_) | skip)
       repeat (refine aK ?_)
       (first | (refine aN rfl rfl ?_; refine aI rfl rfl rfl (by exact okF) ?_) | skip)
       repeat (refine aK ?_)
       (first | (refine aN rfl rfl ?_; refine aI rfl rfl rfl (by exact okF) ?_) | skip)
       repeat (refine aK ?_)
       (first | (refine aN rfl rfl ?_; refine aI rfl rfl rfl (by exact okF) ?_) | skip)
       repeat (refine aK ?_)
       (first | (refine aN rfl rfl ?_; refine aI rfl rfl rfl (by exact okF) ?_) | skip)
       repeat (refine aK ?_)
       refine aH (by first | exact .inl rfl | exact .inr rfl) rfl rfl _ _ aF aD (⟨rfl, rfl, rfl⟩)
      ·(first | (refine aN rfl rfl ?_; refine aI rfl rfl rfl (by exact okF) ?_) | skip)
       refine bA ?_
       refine bG [31, 45, 46, 47, 48, 49, 50] [0, 0, 0, 0, 0, 0, 0] aF aD (by kernel_rfl) (by kernel_rfl) rfl rfl ?_
       repeat (refine aK ?_)
       (first | (refine aN rfl rfl ?_; refine aI rfl rfl rfl (by exact okF) ?_) | skip)
       repeat (refine aK ?_)
       (first | (refine aN rfl rfl ?_; refine aI rfl rfl rfl (by exact okF) ?_) | skip)
       repeat (refine aK ?_)
       (first | (refine aN rfl rfl ?_; refine aI rfl rfl rfl (by exact okF) ?_) | skip)
       repeat (refine aK ?_)
       (first | (refine aN rfl rfl ?_; refine aI rfl rfl rfl (by exact okF) ?_) | skip)
       repeat (refine aK ?_)
       (first | (refine aN rfl rfl ?_; refine aI rfl rfl rfl (by exact okF) ?_) | skip)
       repeat (refine aK ?_)
       refine aH (by first | exact .inl rfl | exact .inr rfl) rfl rfl _ _ aF aD (⟨rfl, rfl, rfl⟩)
     ·(first | (refine aN rfl rfl ?_; refine aI rfl rfl rfl (by exact okF) ?_) | skip)
      refine bA ?_
      refine bG [17, 31, 45, 46, 47, 48, 49, 50] [0, 0, 0, 0, 0, 0, 0, 0] aF aD (by kernel_rfl) (by kernel_rfl) rfl rfl ?_
      repeat (refine aK ?_)
      (first | (refine aN rfl rfl ?_; refine aI rfl rfl rfl (by exact okF) ?_) | skip)
      repeat (refine aK ?_)
      (first | (refine aN rfl rfl ?_; refine aI rfl rfl rfl (by exact okF) ?_) | skip)
      repeat (refine aK ?_)
      (first | (refine aN rfl rfl ?_; refine aI rfl rfl rfl (by exact okF) ?_) | skip)
      repeat (refine aK ?_)
      (first | (refine aN rfl rfl ?_; refine aI rfl rfl rfl (by exact okF) ?_) | skip)
      repeat (refine aK ?_)
      (first | (refine aN rfl rfl ?_; refine aI rfl rfl rfl (by exact okF) ?_) | skip)
      repeat (refine aK ?_)
      (first | (refine aN rfl rfl ?_; refine aI rfl rfl rfl (by exact okF) ?_) | skip)
      repeat (refine aK ?_)
      refine aH (by first | exact .inl rfl | exact .inr rfl) rfl rfl _ _ aF aD (⟨rfl, rfl, rfl⟩)
    ·(first | (refine aN rfl rfl ?_; refine aI rfl rfl rfl (by exact okF) ?_) | skip)
     refine bA ?_
     refine bG [16, 17, 31, 45, 46, 47, 48, 49, 50] [0, 0, 0, 0, 0, 0, 0, 0, 0] aF aD (by kernel_rfl) (by kernel_rfl) rfl rfl ?_
     repeat (refine aK ?_)
     (first | (refine aN rfl rfl ?_; refine aI rfl rfl rfl (by exact okF) ?_) | skip)
     repeat (refine aK ?_)
     (first | (refine aN rfl rfl ?_; refine aI rfl rfl rfl (by exact okF) ?_) | skip)
     repeat (refine aK ?_)
     (first | (refine aN rfl rfl ?_; refine aI rfl rfl rfl (by exact okF) ?_) | skip)
     repeat (refine aK ?_)
     (first | (refine aN rfl rfl ?_; refine aI rfl rfl rfl (by exact okF) ?_) | skip)
     repeat (refine aK ?_)
     (first | (refine aN rfl rfl ?_; refine aI rfl rfl rfl (by exact okF) ?_) | skip)
     repeat (refine aK ?_)
     (first | (refine aN rfl rfl ?_; refine aI rfl rfl rfl (by exact okF) ?_) | skip)
     repeat (refine aK ?_)
     (first | (refine aN rfl rfl ?_; refine aI rfl rfl rfl (by exact okF) ?_) | skip)
     repeat (refine aK ?_)
     refine aH (by first | exact .inl rfl | exact .inr rfl) rfl rfl _ _ aF aD (⟨rfl, rfl, rfl⟩)
   ·(first | (refine aN rfl rfl ?_; refine aI rfl rfl rfl (by exact okF) ?_) | skip)
    refine bA ?_
    repeat (refine aK ?_)
    refine cK (fuel := 9) (i := 16) (j := 30) (by kernel_rfl) ?_ ?_
    ·(first | (refine aN rfl rfl ?_; refine aI rfl rfl rfl (by exact okF) ?_) | skip)
     refine bA ?_
     repeat (refine aK ?_)
     refine cK (fuel := 8) (i := 17) (j := 30) (by kernel_rfl) ?_ ?_
     ·(first | (refine aN rfl rfl ?_; refine aI rfl rfl rfl (by exact okF) ?_) | skip)
      refine bA ?_
      refine bG [30, 31, 45, 46, 47, 48, 49, 50] [0, 0, 0, 0, 0, 0, 0, 0] aF aD (by kernel_rfl) (by kernel_rfl) rfl rfl ?_
      repeat (refine aK ?_)
      (first | (refine aN rfl rfl ?_; refine aI rfl rfl rfl (by exact okF) ?_) | skip)
      repeat (refine aK ?_)
      (first | (refine aN rfl rfl ?_; refine aI rfl rfl rfl (by exact okF) ?_) | skip)
      repeat (refine aK ?_)
      (first | (refine aN rfl rfl ?_; refine aI rfl rfl rfl (by exact okF) ?_) | skip)
      repeat (refine aK ?_)
      (first | (refine aN rfl rfl ?_; refine aI rfl rfl rfl (by exact okF) ?_) | skip)
      repeat (refine aK ?_)
      (first | (refine aN rfl rfl ?_; refine aI rfl rfl rfl (by exact okF) ?_) | skip)
      repeat (refine aK ?_)
      (first | (refine aN rfl rfl ?_; refine aI rfl rfl rfl (by exact okF) ?_) | skip)
      repeat (refine aK ?_)
      refine aH (by first | exact .inl rfl | exact .inr rfl) rfl rfl _ _ aF aD (⟨rfl, rfl, rfl⟩)
     ·(first | (refine aN rfl rfl ?_; refine aI rfl rfl rfl (by exact okF) ?_) | skip)
      refine bA ?_
      refine bG [17, 31, 45, 46, 47, 48, 49, 50] [0, 0, 0, 0, 0, 0, 0, 0] aF aD (by kernel_rfl) (by kernel_rfl) rfl rfl ?_
      repeat (refine aK ?_)
      (first | (refine aN rfl rfl ?_; refine aI rfl rfl rfl (by exact okF) ?_) | skip)
      repeat (refine aK ?_)
      (first | (refine aN rfl rfl ?_; refine aI rfl rfl rfl (by exact okF) ?_) | skip)
      repeat (refine aK ?_)
      (first | (refine aN rfl rfl ?_; refine aI rfl rfl rfl (by exact okF) ?_) | skip)
      repeat (refine aK ?_)
      (first | (refine aN rfl rfl ?_; refine aI rfl rfl rfl (by exact okF) ?_) | skip)
      repeat (refine aK ?_)
      (first | (refine aN rfl rfl ?_; refine aI rfl rfl rfl (by exact okF) ?_) | skip)
      repeat (refine aK ?_)
      (first | (refine aN rfl rfl ?_; refine aI rfl rfl rfl (by exact okF) ?_) | skip)
      repeat (refine aK ?_)
      refine aH (by first | exact .inl rfl | exact .inr rfl) rfl rfl _ _ aF aD (⟨rfl, rfl, rfl⟩)
    ·(first | (refine aN rfl rfl ?_; refine aI rfl rfl rfl (by exact okF) ?_) | skip)
     refine bA ?_
     refine bG [16, 17, 31, 45, 46, 47, 48, 49, 50] [0, 0, 0, 0, 0, 0, 0, 0, 0] aF aD (by kernel_rfl) (by kernel_rfl) rfl rfl ?_
     repeat (refine aK ?_)
     (first | (refine aN rfl rfl ?_; refine aI rfl rfl rfl (by exact okF) ?_) | skip)
     repeat (refine aK ?_)
     (first | (refine aN rfl rfl ?_; refine aI rfl rfl rfl (by exact okF) ?_) | skip)
     repeat (refine aK ?_)
     (first | (refine aN rfl rfl ?_; refine aI rfl rfl rfl (by exact okF) ?_) | skip)
     repeat (refine aK ?_)
     (first | (refine aN rfl rfl ?_; refine aI rfl rfl rfl (by exact okF) ?_) | skip)
     repeat (refine aK ?_)
     (first | (refine aN rfl rfl ?_; refine aI rfl rfl rfl (by exact okF) ?_) | skip)
     repeat (refine aK ?_)
     (first | (refine aN rfl rfl ?_; refine aI rfl rfl rfl (by exact okF) ?_) | skip)
     repeat (refine aK ?_)
     (first | (refine aN rfl rfl ?_; refine aI rfl rfl rfl (by exact okF) ?_) | skip)
     repeat (refine aK ?_)
     refine aH (by first | exact .inl rfl | exact .inr rfl) rfl rfl _ _ aF aD (⟨rfl, rfl, rfl⟩)
  rw [hc] at hS
  have hb : ∀ a b d : Int, (-128 ≤ a ∧ a ≤ 127) → (-128 ≤ b ∧ b ≤ 127) → (-128 ≤ d ∧ d ≤ 127) → ∀ x ∈ [a, b, d], (-9223372036854775808 ≤ x ∧ x ≤ 9223372036854775807) ∧ x.natAbs ≤ 2 ^ 7 := fun a b d h1 h2 h3 x hx => by
   have e7 : 2 ^ 7 = 128 := rfl
   simp only [List.mem_cons, List.not_mem_nil, or_false] at hx
   rcases hx with rfl | rfl | rfl <;> omega
  have hb0 := hb m0 m1 m2 e0 e1 e2
  have hb1 := hb m3 m4 m5 e3 e4 e5
  have hb2 := hb m6 m7 m8 e6 e7 e8
  have hW3 := fun li (h3 : li.length = 3) hsm b M0 I0 h => yA (X := X) (w0 := w0) (M0 := M0) (I0 := I0) (q := some ⟨b, 0, none⟩) (l := li) (n := 3) (c := 3) (u := 7) h3 (by omega) hsm h
  have hdm : ∀ (b : Nat) (r1 r2 r3 : RL), r1.q = kP [m0, m1, m2] → r2.q = kP [m3, m4, m5] → r3.q = kP [m6, m7, m8] → (⟨some ⟨b, 0, none⟩, 3, [r1, r2, r3]⟩ : MX).dim 3 3 := fun b r1 r2 r3 h1 h2 h3 => ⟨rfl, fun r hr => by
   simp only [List.mem_cons, List.not_mem_nil, or_false] at hr
   rcases hr with rfl | rfl | rfl
   ·exact tQ h1
   ·exact tQ h2
   ·exact tQ h3⟩
  refine uJ (fun G M I => ∃ z : Int, (z = 0 ↔ dt 3 (at2 (MB.mat ⟨m0, m1, m2, m3, m4, m5, m6, m7, m8, y0, y1, y2⟩)) = 0) ∧ G = [(0, .slice q i c), (7, .slice qe i ce), (147, .bool (B (z = 0)))] ∧ M0 = M ∧ I = aW qe (recs oM rows) :: aW q (recs oM l) :: I0) ?_ ?_
  ·((repeat refine aJ ?_); refine zM (M0) (aW qe (recs oM rows) :: aW (some ⟨b5, 0, none⟩) [.int .i16 y0, .int .i16 y1, .int .i16 y2] :: aW (some ⟨b4, 0, none⟩) [.int .i8 m0, .int .i8 m1, .int .i8 m2, .int .i8 m3, .int .i8 m4, .int .i8 m5, .int .i8 m6, .int .i8 m7, .int .i8 m8] :: aW q (recs oM l) :: I0) mixed ?_)
   refine sN (fuel := 11) (listed' := #[true, true, true, true, true, true, true, true, true, true, true, true, true, true, true, true, false, false, true, true, true, true, true, true, true, true, true, true, true, true, false, false, true, true, true, true, true, true, true, true, true, true, true, true, false, false, false, false, false, false, false]) [0, 1, 2, 3, 4, 5, 6, 7, 8, 9, 10, 11, 12, 13, 14, 15, 18, 19, 20, 21, 22, 23, 24, 25, 26, 27, 28, 29, 32, 33, 34, 35, 36, 37, 38, 39, 40, 41, 42, 43] [9, 0, 9, 0, 9, 9, 9, 8, 9, 9, 9, 8, 9, 9, 9, 8, 9, 9, 9, 8, 9, 9, 9, 8, 9, 9, 9, 8, 9, 9, 9, 8, 9, 9, 9, 8, 9, 9, 9, 8] aF aD (by kernel_rfl) (by kernel_rfl) rfl rfl ?_
   repeat (refine aK ?_)
   (refine aA rfl (hS _ _ aB) rfl rfl ?_; rintro _ _ _ ⟨rfl, rfl, rfl⟩; refine ⟨okF, ?_⟩)
   repeat (refine aK ?_)
   refine oU (fuel := 10) (i := 16) (j := 30) (m := 44) (by kernel_rfl) ?_ ?_ ?_
   ·((refine aP (cs := recs eZ [m0, m1, m2]) ([.int .i64 m0, .int .i64 m1, .int .i64 m2]) rfl rfl (by intro v hv; repeat (first | exact absurd hv (List.not_mem_nil) | (rcases List.mem_cons.1 hv with rfl | hv; · rfl))) (by omega) rfl rfl rfl ?_; intro ba; refine ⟨okF, ?_⟩); refine aO .here ?_)
    refine bA ?_
    repeat (refine aK ?_)
    refine oU (fuel := 9) (i := 17) (j := 30) (m := 44) (by kernel_rfl) ?_ ?_ ?_
    ·(refine aA rfl (hW3 [m0, m1, m2] rfl hb0 ba _ _ aB) rfl rfl ?_; rintro _ _ _ ⟨rfl, r1, rfl, hr1, rfl⟩; refine ⟨okF, ?_⟩)
     refine bA ?_
     repeat (refine aK ?_)
     refine cK (fuel := 8) (i := 30) (j := 44) (by kernel_rfl) ?_ ?_
     ·((refine aP (cs := recs eZ [m3, m4, m5]) ([.int .i64 m3, .int .i64 m4, .int .i64 m5]) rfl rfl (by intro v hv; repeat (first | exact absurd hv (List.not_mem_nil) | (rcases List.mem_cons.1 hv with rfl | hv; · rfl))) (by omega) rfl rfl rfl ?_; intro bb; refine ⟨okF, ?_⟩); refine aO .here ?_)
      refine bA ?_
      repeat (refine aK ?_)
      refine cK (fuel := 7) (i := 31) (j := 44) (by kernel_rfl) ?_ ?_
      ·(refine aA rfl (hW3 [m3, m4, m5] rfl hb1 bb _ _ aB) rfl rfl ?_; rintro _ _ _ ⟨rfl, r2, rfl, hr2, rfl⟩; refine ⟨okF, ?_⟩)
       refine bA ?_
       refine bG [44, 45, 46, 47, 48, 49, 50] [0, 0, 0, 0, 0, 0, 0] aF aD (by kernel_rfl) (by kernel_rfl) rfl rfl ?_
       repeat (refine aK ?_)
       ((refine aP (cs := recs eZ [m6, m7, m8]) ([.int .i64 m6, .int .i64 m7, .int .i64 m8]) rfl rfl (by intro v hv; repeat (first | exact absurd hv (List.not_mem_nil) | (rcases List.mem_cons.1 hv with rfl | hv; · rfl))) (by omega) rfl rfl rfl ?_; intro bc; refine ⟨okF, ?_⟩); refine aO .here ?_)
       repeat (refine aK ?_)
       (refine aA rfl (hW3 [m6, m7, m8] rfl hb2 bc _ _ aB) rfl rfl ?_; rintro _ _ _ ⟨rfl, r3, rfl, hr3, rfl⟩; refine ⟨okF, ?_⟩)
       repeat (refine aK ?_)
       ((refine aP (cs := recs eL [r1, r2, r3]) ([lv r1, lv r2, lv r3]) rfl rfl (by intro v hv; repeat (first | exact absurd hv (List.not_mem_nil) | (rcases List.mem_cons.1 hv with rfl | hv; · rfl))) (by omega) rfl rfl rfl ?_; intro bm; refine ⟨okF, ?_⟩); refine aO .here ?_; refine fQ (φ := jC ⟨some ⟨bm, 0, none⟩, 3, [r1, r2, r3]⟩ 7) (Hv.x3 aB aB aB aB) ?_)
       repeat (refine aK ?_)
       (refine aA rfl (kG 3 (m := ⟨some ⟨bm, 0, none⟩, 3, [r1, r2, r3]⟩) (k0 := 7) (by omega) (by omega) (by decide) (hdm bm r1 r2 r3 hr1 hr2 hr3) aB) rfl rfl ?_; rintro _ _ _ ⟨rfl, ed, rfl, hed, rfl⟩; refine ⟨okF, ?_⟩)
       repeat (refine aK ?_)
       (refine aA rfl (fP (e := ed) (k := hD 7 3) (by decide) (Hv.mem aB)) rfl rfl ?_; rintro _ _ _ ⟨rfl, rfl, rfl⟩; refine ⟨okF, ?_⟩)
       repeat (refine aK ?_)
       refine fO _ _ _ aQ aF aD ⟨_, by rw [iE, hed]; simp only [MX.q, List.map, hr1, hr2, hr3]; exact Iff.rfl, rfl, rfl, rfl⟩
      ·((refine aP (cs := recs eZ [m6, m7, m8]) ([.int .i64 m6, .int .i64 m7, .int .i64 m8]) rfl rfl (by intro v hv; repeat (first | exact absurd hv (List.not_mem_nil) | (rcases List.mem_cons.1 hv with rfl | hv; · rfl))) (by omega) rfl rfl rfl ?_; intro bc; refine ⟨okF, ?_⟩); refine aO .here ?_)
       refine bA ?_
       refine bG [31, 45, 46, 47, 48, 49, 50] [0, 0, 0, 0, 0, 0, 0] aF aD (by kernel_rfl) (by kernel_rfl) rfl rfl ?_
       repeat (refine aK ?_)
       (refine aA rfl (hW3 [m3, m4, m5] rfl hb1 bb _ _ aB) rfl rfl ?_; rintro _ _ _ ⟨rfl, r2, rfl, hr2, rfl⟩; refine ⟨okF, ?_⟩)
       repeat (refine aK ?_)
       (refine aA rfl (hW3 [m6, m7, m8] rfl hb2 bc _ _ aB) rfl rfl ?_; rintro _ _ _ ⟨rfl, r3, rfl, hr3, rfl⟩; refine ⟨okF, ?_⟩)
       repeat (refine aK ?_)
       ((refine aP (cs := recs eL [r1, r2, r3]) ([lv r1, lv r2, lv r3]) rfl rfl (by intro v hv; repeat (first | exact absurd hv (List.not_mem_nil) | (rcases List.mem_cons.1 hv with rfl | hv; · rfl))) (by omega) rfl rfl rfl ?_; intro bm; refine ⟨okF, ?_⟩); refine aO .here ?_; refine fQ (φ := jC ⟨some ⟨bm, 0, none⟩, 3, [r1, r2, r3]⟩ 7) (Hv.x3 aB aB aB aB) ?_)
       repeat (refine aK ?_)
       (refine aA rfl (kG 3 (m := ⟨some ⟨bm, 0, none⟩, 3, [r1, r2, r3]⟩) (k0 := 7) (by omega) (by omega) (by decide) (hdm bm r1 r2 r3 hr1 hr2 hr3) aB) rfl rfl ?_; rintro _ _ _ ⟨rfl, ed, rfl, hed, rfl⟩; refine ⟨okF, ?_⟩)
       repeat (refine aK ?_)
       (refine aA rfl (fP (e := ed) (k := hD 7 3) (by decide) (Hv.mem aB)) rfl rfl ?_; rintro _ _ _ ⟨rfl, rfl, rfl⟩; refine ⟨okF, ?_⟩)
       repeat (refine aK ?_)
       refine fO _ _ _ aQ aF aD ⟨_, by rw [iE, hed]; simp only [MX.q, List.map, hr1, hr2, hr3]; exact Iff.rfl, rfl, rfl, rfl⟩
     ·((refine aP (cs := recs eZ [m6, m7, m8]) ([.int .i64 m6, .int .i64 m7, .int .i64 m8]) rfl rfl (by intro v hv; repeat (first | exact absurd hv (List.not_mem_nil) | (rcases List.mem_cons.1 hv with rfl | hv; · rfl))) (by omega) rfl rfl rfl ?_; intro bc; refine ⟨okF, ?_⟩); refine aO .here ?_)
      refine bA ?_
      refine bG [30, 31, 45, 46, 47, 48, 49, 50] [0, 0, 0, 0, 0, 0, 0, 0] aF aD (by kernel_rfl) (by kernel_rfl) rfl rfl ?_
      repeat (refine aK ?_)
      ((refine aP (cs := recs eZ [m3, m4, m5]) ([.int .i64 m3, .int .i64 m4, .int .i64 m5]) rfl rfl (by intro v hv; repeat (first | exact absurd hv (List.not_mem_nil) | (rcases List.mem_cons.1 hv with rfl | hv; · rfl))) (by omega) rfl rfl rfl ?_; intro bb; refine ⟨okF, ?_⟩); refine aO .here ?_)
      repeat (refine aK ?_)
      (refine aA rfl (hW3 [m3, m4, m5] rfl hb1 bb _ _ aB) rfl rfl ?_; rintro _ _ _ ⟨rfl, r2, rfl, hr2, rfl⟩; refine ⟨okF, ?_⟩)
      repeat (refine aK ?_)
      (refine aA rfl (hW3 [m6, m7, m8] rfl hb2 bc _ _ aB) rfl rfl ?_; rintro _ _ _ ⟨rfl, r3, rfl, hr3, rfl⟩; refine ⟨okF, ?_⟩)
      repeat (refine aK ?_)
      ((refine aP (cs := recs eL [r1, r2, r3]) ([lv r1, lv r2, lv r3]) rfl rfl (by intro v hv; repeat (first | exact absurd hv (List.not_mem_nil) | (rcases List.mem_cons.1 hv with rfl | hv; · rfl))) (by omega) rfl rfl rfl ?_; intro bm; refine ⟨okF, ?_⟩); refine aO .here ?_; refine fQ (φ := jC ⟨some ⟨bm, 0, none⟩, 3, [r1, r2, r3]⟩ 7) (Hv.x3 aB aB aB aB) ?_)
      repeat (refine aK ?_)
      (refine aA rfl (kG 3 (m := ⟨some ⟨bm, 0, none⟩, 3, [r1, r2, r3]⟩) (k0 := 7) (by omega) (by omega) (by decide) (hdm bm r1 r2 r3 hr1 hr2 hr3) aB) rfl rfl ?_; rintro _ _ _ ⟨rfl, ed, rfl, hed, rfl⟩; refine ⟨okF, ?_⟩)
      repeat (refine aK ?_)
      (refine aA rfl (fP (e := ed) (k := hD 7 3) (by decide) (Hv.mem aB)) rfl rfl ?_; rintro _ _ _ ⟨rfl, rfl, rfl⟩; refine ⟨okF, ?_⟩)
      repeat (refine aK ?_)
      refine fO _ _ _ aQ aF aD ⟨_, by rw [iE, hed]; simp only [MX.q, List.map, hr1, hr2, hr3]; exact Iff.rfl, rfl, rfl, rfl⟩
    ·((refine aP (cs := recs eZ [m3, m4, m5]) ([.int .i64 m3, .int .i64 m4, .int .i64 m5]) rfl rfl (by intro v hv; repeat (first | exact absurd hv (List.not_mem_nil) | (rcases List.mem_cons.1 hv with rfl | hv; · rfl))) (by omega) rfl rfl rfl ?_; intro bb; refine ⟨okF, ?_⟩); refine aO .here ?_)
     refine bA ?_
     repeat (refine aK ?_)
     refine cK (fuel := 8) (i := 17) (j := 44) (by kernel_rfl) ?_ ?_
     ·(refine aA rfl (hW3 [m0, m1, m2] rfl hb0 ba _ _ aB) rfl rfl ?_; rintro _ _ _ ⟨rfl, r1, rfl, hr1, rfl⟩; refine ⟨okF, ?_⟩)
      refine bA ?_
      repeat (refine aK ?_)
      refine cK (fuel := 7) (i := 31) (j := 44) (by kernel_rfl) ?_ ?_
      ·(refine aA rfl (hW3 [m3, m4, m5] rfl hb1 bb _ _ aB) rfl rfl ?_; rintro _ _ _ ⟨rfl, r2, rfl, hr2, rfl⟩; refine ⟨okF, ?_⟩)
       refine bA ?_
       refine bG [44, 45, 46, 47, 48, 49, 50] [0, 0, 0, 0, 0, 0, 0] aF aD (by kernel_rfl) (by kernel_rfl) rfl rfl ?_
       repeat (refine aK ?_)
       ((refine aP (cs := recs eZ [m6, m7, m8]) ([.int .i64 m6, .int .i64 m7, .int .i64 m8]) rfl rfl (by intro v hv; repeat (first | exact absurd hv (List.not_mem_nil) | (rcases List.mem_cons.1 hv with rfl | hv; · rfl))) (by omega) rfl rfl rfl ?_; intro bc; refine ⟨okF, ?_⟩); refine aO .here ?_)
       repeat (refine aK ?_)
       (refine aA rfl (hW3 [m6, m7, m8] rfl hb2 bc _ _ aB) rfl rfl ?_; rintro _ _ _ ⟨rfl, r3, rfl, hr3, rfl⟩; refine ⟨okF, ?_⟩)
       repeat (refine aK ?_)
       ((refine aP (cs := recs eL [r1, r2, r3]) ([lv r1, lv r2, lv r3]) rfl rfl (by intro v hv; repeat (first | exact absurd hv (List.not_mem_nil) | (rcases List.mem_cons.1 hv with rfl | hv; · rfl))) (by omega) rfl rfl rfl ?_; intro bm; refine ⟨okF, ?_⟩); refine aO .here ?_; refine fQ (φ := jC ⟨some ⟨bm, 0, none⟩, 3, [r1, r2, r3]⟩ 7) (Hv.x3 aB aB aB aB) ?_)
       repeat (refine aK ?_)
       (refine aA rfl (kG 3 (m := ⟨some ⟨bm, 0, none⟩, 3, [r1, r2, r3]⟩) (k0 := 7) (by omega) (by omega) (by decide) (hdm bm r1 r2 r3 hr1 hr2 hr3) aB) rfl rfl ?_; rintro _ _ _ ⟨rfl, ed, rfl, hed, rfl⟩; refine ⟨okF, ?_⟩)
       repeat (refine aK ?_)
       (refine aA rfl (fP (e := ed) (k := hD 7 3) (by decide) (Hv.mem aB)) rfl rfl ?_; rintro _ _ _ ⟨rfl, rfl, rfl⟩; refine ⟨okF, ?_⟩)
       repeat (refine aK ?_)
       refine fO _ _ _ aQ aF aD ⟨_, by rw [iE, hed]; simp only [MX.q, List.map, hr1, hr2, hr3]; exact Iff.rfl, rfl, rfl, rfl⟩
      ·((refine aP (cs := recs eZ [m6, m7, m8]) ([.int .i64 m6, .int .i64 m7, .int .i64 m8]) rfl rfl (by intro v hv; repeat (first | exact absurd hv (List.not_mem_nil) | (rcases List.mem_cons.1 hv with rfl | hv; · rfl))) (by omega) rfl rfl rfl ?_; intro bc; refine ⟨okF, ?_⟩); refine aO .here ?_)
       refine bA ?_
       refine bG [31, 45, 46, 47, 48, 49, 50] [0, 0, 0, 0, 0, 0, 0] aF aD (by kernel_rfl) (by kernel_rfl) rfl rfl ?_
       repeat (refine aK ?_)
       (refine aA rfl (hW3 [m3, m4, m5] rfl hb1 bb _ _ aB) rfl rfl ?_; rintro _ _ _ ⟨rfl, r2, rfl, hr2, rfl⟩; refine ⟨okF, ?_⟩)
       repeat (refine aK ?_)
       (refine aA rfl (hW3 [m6, m7, m8] rfl hb2 bc _ _ aB) rfl rfl ?_; rintro _ _ _ ⟨rfl, r3, rfl, hr3, rfl⟩; refine ⟨okF, ?_⟩)
       repeat (refine aK ?_)
       ((refine aP (cs := recs eL [r1, r2, r3]) ([lv r1, lv r2, lv r3]) rfl rfl (by intro v hv; repeat (first | exact absurd hv (List.not_mem_nil) | (rcases List.mem_cons.1 hv with rfl | hv; · rfl))) (by omega) rfl rfl rfl ?_; intro bm; refine ⟨okF, ?_⟩); refine aO .here ?_; refine fQ (φ := jC ⟨some ⟨bm, 0, none⟩, 3, [r1, r2, r3]⟩ 7) (Hv.x3 aB aB aB aB) ?_)
       repeat (refine aK ?_)
       (refine aA rfl (kG 3 (m := ⟨some ⟨bm, 0, none⟩, 3, [r1, r2, r3]⟩) (k0 := 7) (by omega) (by omega) (by decide) (hdm bm r1 r2 r3 hr1 hr2 hr3) aB) rfl rfl ?_; rintro _ _ _ ⟨rfl, ed, rfl, hed, rfl⟩; refine ⟨okF, ?_⟩)
       repeat (refine aK ?_)
       (refine aA rfl (fP (e := ed) (k := hD 7 3) (by decide) (Hv.mem aB)) rfl rfl ?_; rintro _ _ _ ⟨rfl, rfl, rfl⟩; refine ⟨okF, ?_⟩)
       repeat (refine aK ?_)
       refine fO _ _ _ aQ aF aD ⟨_, by rw [iE, hed]; simp only [MX.q, List.map, hr1, hr2, hr3]; exact Iff.rfl, rfl, rfl, rfl⟩
     ·((refine aP (cs := recs eZ [m6, m7, m8]) ([.int .i64 m6, .int .i64 m7, .int .i64 m8]) rfl rfl (by intro v hv; repeat (first | exact absurd hv (List.not_mem_nil) | (rcases List.mem_cons.1 hv with rfl | hv; · rfl))) (by omega) rfl rfl rfl ?_; intro bc; refine ⟨okF, ?_⟩); refine aO .here ?_)
      refine bA ?_
      refine bG [17, 31, 45, 46, 47, 48, 49, 50] [0, 0, 0, 0, 0, 0, 0, 0] aF aD (by kernel_rfl) (by kernel_rfl) rfl rfl ?_
      repeat (refine aK ?_)
      (refine aA rfl (hW3 [m0, m1, m2] rfl hb0 ba _ _ aB) rfl rfl ?_; rintro _ _ _ ⟨rfl, r1, rfl, hr1, rfl⟩; refine ⟨okF, ?_⟩)
      repeat (refine aK ?_)
      (refine aA rfl (hW3 [m3, m4, m5] rfl hb1 bb _ _ aB) rfl rfl ?_; rintro _ _ _ ⟨rfl, r2, rfl, hr2, rfl⟩; refine ⟨okF, ?_⟩)
      repeat (refine aK ?_)
      (refine aA rfl (hW3 [m6, m7, m8] rfl hb2 bc _ _ aB) rfl rfl ?_; rintro _ _ _ ⟨rfl, r3, rfl, hr3, rfl⟩; refine ⟨okF, ?_⟩)
      repeat (refine aK ?_)
      ((refine aP (cs := recs eL [r1, r2, r3]) ([lv r1, lv r2, lv r3]) rfl rfl (by intro v hv; repeat (first | exact absurd hv (List.not_mem_nil) | (rcases List.mem_cons.1 hv with rfl | hv; · rfl))) (by omega) rfl rfl rfl ?_; intro bm; refine ⟨okF, ?_⟩); refine aO .here ?_; refine fQ (φ := jC ⟨some ⟨bm, 0, none⟩, 3, [r1, r2, r3]⟩ 7) (Hv.x3 aB aB aB aB) ?_)
      repeat (refine aK ?_)
      (refine aA rfl (kG 3 (m := ⟨some ⟨bm, 0, none⟩, 3, [r1, r2, r3]⟩) (k0 := 7) (by omega) (by omega) (by decide) (hdm bm r1 r2 r3 hr1 hr2 hr3) aB) rfl rfl ?_; rintro _ _ _ ⟨rfl, ed, rfl, hed, rfl⟩; refine ⟨okF, ?_⟩)
      repeat (refine aK ?_)
      (refine aA rfl (fP (e := ed) (k := hD 7 3) (by decide) (Hv.mem aB)) rfl rfl ?_; rintro _ _ _ ⟨rfl, rfl, rfl⟩; refine ⟨okF, ?_⟩)
      repeat (refine aK ?_)
      refine fO _ _ _ aQ aF aD ⟨_, by rw [iE, hed]; simp only [MX.q, List.map, hr1, hr2, hr3]; exact Iff.rfl, rfl, rfl, rfl⟩
    ·((refine aP (cs := recs eZ [m6, m7, m8]) ([.int .i64 m6, .int .i64 m7, .int .i64 m8]) rfl rfl (by intro v hv; repeat (first | exact absurd hv (List.not_mem_nil) | (rcases List.mem_cons.1 hv with rfl | hv; · rfl))) (by omega) rfl rfl rfl ?_; intro bc; refine ⟨okF, ?_⟩); refine aO .here ?_)
     refine bA ?_
     repeat (refine aK ?_)
     refine cK (fuel := 8) (i := 17) (j := 30) (by kernel_rfl) ?_ ?_
     ·(refine aA rfl (hW3 [m0, m1, m2] rfl hb0 ba _ _ aB) rfl rfl ?_; rintro _ _ _ ⟨rfl, r1, rfl, hr1, rfl⟩; refine ⟨okF, ?_⟩)
      refine bA ?_
      refine bG [30, 31, 45, 46, 47, 48, 49, 50] [0, 0, 0, 0, 0, 0, 0, 0] aF aD (by kernel_rfl) (by kernel_rfl) rfl rfl ?_
      repeat (refine aK ?_)
      ((refine aP (cs := recs eZ [m3, m4, m5]) ([.int .i64 m3, .int .i64 m4, .int .i64 m5]) rfl rfl (by intro v hv; repeat (first | exact absurd hv (List.not_mem_nil) | (rcases List.mem_cons.1 hv with rfl | hv; · rfl))) (by omega) rfl rfl rfl ?_; intro bb; refine ⟨okF, ?_⟩); refine aO .here ?_)
      repeat (refine aK ?_)
      (refine aA rfl (hW3 [m3, m4, m5] rfl hb1 bb _ _ aB) rfl rfl ?_; rintro _ _ _ ⟨rfl, r2, rfl, hr2, rfl⟩; refine ⟨okF, ?_⟩)
      repeat (refine aK ?_)
      (refine aA rfl (hW3 [m6, m7, m8] rfl hb2 bc _ _ aB) rfl rfl ?_; rintro _ _ _ ⟨rfl, r3, rfl, hr3, rfl⟩; refine ⟨okF, ?_⟩)
      repeat (refine aK ?_)
      ((refine aP (cs := recs eL [r1, r2, r3]) ([lv r1, lv r2, lv r3]) rfl rfl (by intro v hv; repeat (first | exact absurd hv (List.not_mem_nil) | (rcases List.mem_cons.1 hv with rfl | hv; · rfl))) (by omega) rfl rfl rfl ?_; intro bm; refine ⟨okF, ?_⟩); refine aO .here ?_; refine fQ (φ := jC ⟨some ⟨bm, 0, none⟩, 3, [r1, r2, r3]⟩ 7) (Hv.x3 aB aB aB aB) ?_)
      repeat (refine aK ?_)
      (refine aA rfl (kG 3 (m := ⟨some ⟨bm, 0, none⟩, 3, [r1, r2, r3]⟩) (k0 := 7) (by omega) (by omega) (by decide) (hdm bm r1 r2 r3 hr1 hr2 hr3) aB) rfl rfl ?_; rintro _ _ _ ⟨rfl, ed, rfl, hed, rfl⟩; refine ⟨okF, ?_⟩)
      repeat (refine aK ?_)
      (refine aA rfl (fP (e := ed) (k := hD 7 3) (by decide) (Hv.mem aB)) rfl rfl ?_; rintro _ _ _ ⟨rfl, rfl, rfl⟩; refine ⟨okF, ?_⟩)
      repeat (refine aK ?_)
      refine fO _ _ _ aQ aF aD ⟨_, by rw [iE, hed]; simp only [MX.q, List.map, hr1, hr2, hr3]; exact Iff.rfl, rfl, rfl, rfl⟩
     ·((refine aP (cs := recs eZ [m3, m4, m5]) ([.int .i64 m3, .int .i64 m4, .int .i64 m5]) rfl rfl (by intro v hv; repeat (first | exact absurd hv (List.not_mem_nil) | (rcases List.mem_cons.1 hv with rfl | hv; · rfl))) (by omega) rfl rfl rfl ?_; intro bb; refine ⟨okF, ?_⟩); refine aO .here ?_)
      refine bA ?_
      refine bG [17, 31, 45, 46, 47, 48, 49, 50] [0, 0, 0, 0, 0, 0, 0, 0] aF aD (by kernel_rfl) (by kernel_rfl) rfl rfl ?_
      repeat (refine aK ?_)
      (refine aA rfl (hW3 [m0, m1, m2] rfl hb0 ba _ _ aB) rfl rfl ?_; rintro _ _ _ ⟨rfl, r1, rfl, hr1, rfl⟩; refine ⟨okF, ?_⟩)
      repeat (refine aK ?_)
      (refine aA rfl (hW3 [m3, m4, m5] rfl hb1 bb _ _ aB) rfl rfl ?_; rintro _ _ _ ⟨rfl, r2, rfl, hr2, rfl⟩; refine ⟨okF, ?_⟩)
      repeat (refine aK ?_)
      (refine aA rfl (hW3 [m6, m7, m8] rfl hb2 bc _ _ aB) rfl rfl ?_; rintro _ _ _ ⟨rfl, r3, rfl, hr3, rfl⟩; refine ⟨okF, ?_⟩)
      repeat (refine aK ?_)
      ((refine aP (cs := recs eL [r1, r2, r3]) ([lv r1, lv r2, lv r3]) rfl rfl (by intro v hv; repeat (first | exact absurd hv (List.not_mem_nil) | (rcases List.mem_cons.1 hv with rfl | hv; · rfl))) (by omega) rfl rfl rfl ?_; intro bm; refine ⟨okF, ?_⟩); refine aO .here ?_; refine fQ (φ := jC ⟨some ⟨bm, 0, none⟩, 3, [r1, r2, r3]⟩ 7) (Hv.x3 aB aB aB aB) ?_)
      repeat (refine aK ?_)
      (refine aA rfl (kG 3 (m := ⟨some ⟨bm, 0, none⟩, 3, [r1, r2, r3]⟩) (k0 := 7) (by omega) (by omega) (by decide) (hdm bm r1 r2 r3 hr1 hr2 hr3) aB) rfl rfl ?_; rintro _ _ _ ⟨rfl, ed, rfl, hed, rfl⟩; refine ⟨okF, ?_⟩)
      repeat (refine aK ?_)
      (refine aA rfl (fP (e := ed) (k := hD 7 3) (by decide) (Hv.mem aB)) rfl rfl ?_; rintro _ _ _ ⟨rfl, rfl, rfl⟩; refine ⟨okF, ?_⟩)
      repeat (refine aK ?_)
      refine fO _ _ _ aQ aF aD ⟨_, by rw [iE, hed]; simp only [MX.q, List.map, hr1, hr2, hr3]; exact Iff.rfl, rfl, rfl, rfl⟩
   ·((refine aP (cs := recs eZ [m3, m4, m5]) ([.int .i64 m3, .int .i64 m4, .int .i64 m5]) rfl rfl (by intro v hv; repeat (first | exact absurd hv (List.not_mem_nil) | (rcases List.mem_cons.1 hv with rfl | hv; · rfl))) (by omega) rfl rfl rfl ?_; intro bb; refine ⟨okF, ?_⟩); refine aO .here ?_)
    refine bA ?_
    repeat (refine aK ?_)
    refine cK (fuel := 9) (i := 16) (j := 44) (by kernel_rfl) ?_ ?_
    ·((refine aP (cs := recs eZ [m0, m1, m2]) ([.int .i64 m0, .int .i64 m1, .int .i64 m2]) rfl rfl (by intro v hv; repeat (first | exact absurd hv (List.not_mem_nil) | (rcases List.mem_cons.1 hv with rfl | hv; · rfl))) (by omega) rfl rfl rfl ?_; intro ba; refine ⟨okF, ?_⟩); refine aO .here ?_)
     refine bA ?_
     repeat (refine aK ?_)
     refine cK (fuel := 8) (i := 17) (j := 44) (by kernel_rfl) ?_ ?_
     ·(refine aA rfl (hW3 [m0, m1, m2] rfl hb0 ba _ _ aB) rfl rfl ?_; rintro _ _ _ ⟨rfl, r1, rfl, hr1, rfl⟩; refine ⟨okF, ?_⟩)
      refine bA ?_
      repeat (refine aK ?_)
      refine cK (fuel := 7) (i := 31) (j := 44) (by kernel_rfl) ?_ ?_
      ·(refine aA rfl (hW3 [m3, m4, m5] rfl hb1 bb _ _ aB) rfl rfl ?_; rintro _ _ _ ⟨rfl, r2, rfl, hr2, rfl⟩; refine ⟨okF, ?_⟩)
       refine bA ?_
       refine bG [44, 45, 46, 47, 48, 49, 50] [0, 0, 0, 0, 0, 0, 0] aF aD (by kernel_rfl) (by kernel_rfl) rfl rfl ?_
       repeat (refine aK ?_)
       ((refine aP (cs := recs eZ [m6, m7, m8]) ([.int .i64 m6, .int .i64 m7, .int .i64 m8]) rfl rfl (by intro v hv; repeat (first | exact absurd hv (List.not_mem_nil) | (rcases List.mem_cons.1 hv with rfl | hv; · rfl))) (by omega) rfl rfl rfl ?_; intro bc; refine ⟨okF, ?_⟩); refine aO .here ?_)
       repeat (refine aK ?_)
       (refine aA rfl (hW3 [m6, m7, m8] rfl hb2 bc _ _ aB) rfl rfl ?_; rintro _ _ _ ⟨rfl, r3, rfl, hr3, rfl⟩; refine ⟨okF, ?_⟩)
       repeat (refine aK ?_)
       ((refine aP (cs := recs eL [r1, r2, r3]) ([lv r1, lv r2, lv r3]) rfl rfl (by intro v hv; repeat (first | exact absurd hv (List.not_mem_nil) | (rcases List.mem_cons.1 hv with rfl | hv; · rfl))) (by omega) rfl rfl rfl ?_; intro bm; refine ⟨okF, ?_⟩); refine aO .here ?_; refine fQ (φ := jC ⟨some ⟨bm, 0, none⟩, 3, [r1, r2, r3]⟩ 7) (Hv.x3 aB aB aB aB) ?_)
       repeat (refine aK ?_)
       (refine aA rfl (kG 3 (m := ⟨some ⟨bm, 0, none⟩, 3, [r1, r2, r3]⟩) (k0 := 7) (by omega) (by omega) (by decide) (hdm bm r1 r2 r3 hr1 hr2 hr3) aB) rfl rfl ?_; rintro _ _ _ ⟨rfl, ed, rfl, hed, rfl⟩; refine ⟨okF, ?_⟩)
       repeat (refine aK ?_)
       (refine aA rfl (fP (e := ed) (k := hD 7 3) (by decide) (Hv.mem aB)) rfl rfl ?_; rintro _ _ _ ⟨rfl, rfl, rfl⟩; refine ⟨okF, ?_⟩)
       repeat (refine aK ?_)
       refine fO _ _ _ aQ aF aD ⟨_, by rw [iE, hed]; simp only [MX.q, List.map, hr1, hr2, hr3]; exact Iff.rfl, rfl, rfl, rfl⟩
      ·((refine aP (cs := recs eZ [m6, m7, m8]) ([.int .i64 m6, .int .i64 m7, .int .i64 m8]) rfl rfl (by intro v hv; repeat (first | exact absurd hv (List.not_mem_nil) | (rcases List.mem_cons.1 hv with rfl | hv; · rfl))) (by omega) rfl rfl rfl ?_; intro bc; refine ⟨okF, ?_⟩); refine aO .here ?_)
       refine bA ?_
       refine bG [31, 45, 46, 47, 48, 49, 50] [0, 0, 0, 0, 0, 0, 0] aF aD (by kernel_rfl) (by kernel_rfl) rfl rfl ?_
       repeat (refine aK ?_)
       (refine aA rfl (hW3 [m3, m4, m5] rfl hb1 bb _ _ aB) rfl rfl ?_; rintro _ _ _ ⟨rfl, r2, rfl, hr2, rfl⟩; refine ⟨okF, ?_⟩)
       repeat (refine aK ?_)
       (refine aA rfl (hW3 [m6, m7, m8] rfl hb2 bc _ _ aB) rfl rfl ?_; rintro _ _ _ ⟨rfl, r3, rfl, hr3, rfl⟩; refine ⟨okF, ?_⟩)
       repeat (refine aK ?_)
       ((refine aP (cs := recs eL [r1, r2, r3]) ([lv r1, lv r2, lv r3]) rfl rfl (by intro v hv; repeat (first | exact absurd hv (List.not_mem_nil) | (rcases List.mem_cons.1 hv with rfl | hv; · rfl))) (by omega) rfl rfl rfl ?_; intro bm; refine ⟨okF, ?_⟩); refine aO .here ?_; refine fQ (φ := jC ⟨some ⟨bm, 0, none⟩, 3, [r1, r2, r3]⟩ 7) (Hv.x3 aB aB aB aB) ?_)
       repeat (refine aK ?_)
       (refine aA rfl (kG 3 (m := ⟨some ⟨bm, 0, none⟩, 3, [r1, r2, r3]⟩) (k0 := 7) (by omega) (by omega) (by decide) (hdm bm r1 r2 r3 hr1 hr2 hr3) aB) rfl rfl ?_; rintro _ _ _ ⟨rfl, ed, rfl, hed, rfl⟩; refine ⟨okF, ?_⟩)
       repeat (refine aK ?_)
       (refine aA rfl (fP (e := ed) (k := hD 7 3) (by decide) (Hv.mem aB)) rfl rfl ?_; rintro _ _ _ ⟨rfl, rfl, rfl⟩; refine ⟨okF, ?_⟩)
       repeat (refine aK ?_)
       refine fO _ _ _ aQ aF aD ⟨_, by rw [iE, hed]; simp only [MX.q, List.map, hr1, hr2, hr3]; exact Iff.rfl, rfl, rfl, rfl⟩
     ·((refine aP (cs := recs eZ [m6, m7, m8]) ([.int .i64 m6, .int .i64 m7, .int .i64 m8]) rfl rfl (by intro v hv; repeat (first | exact absurd hv (List.not_mem_nil) | (rcases List.mem_cons.1 hv with rfl | hv; · rfl))) (by omega) rfl rfl rfl ?_; intro bc; refine ⟨okF, ?_⟩); refine aO .here ?_)
      refine bA ?_
      refine bG [17, 31, 45, 46, 47, 48, 49, 50] [0, 0, 0, 0, 0, 0, 0, 0] aF aD (by kernel_rfl) (by kernel_rfl) rfl rfl ?_
      repeat (refine aK ?_)
      (refine aA rfl (hW3 [m0, m1, m2] rfl hb0 ba _ _ aB) rfl rfl ?_; rintro _ _ _ ⟨rfl, r1, rfl, hr1, rfl⟩; refine ⟨okF, ?_⟩)
      repeat (refine aK ?_)
      (refine aA rfl (hW3 [m3, m4, m5] rfl hb1 bb _ _ aB) rfl rfl ?_; rintro _ _ _ ⟨rfl, r2, rfl, hr2, rfl⟩; refine ⟨okF, ?_⟩)
      repeat (refine aK ?_)
      (refine aA rfl (hW3 [m6, m7, m8] rfl hb2 bc _ _ aB) rfl rfl ?_; rintro _ _ _ ⟨rfl, r3, rfl, hr3, rfl⟩; refine ⟨okF, ?_⟩)
      repeat (refine aK ?_)
      ((refine aP (cs := recs eL [r1, r2, r3]) ([lv r1, lv r2, lv r3]) rfl rfl (by intro v hv; repeat (first | exact absurd hv (List.not_mem_nil) | (rcases List.mem_cons.1 hv with rfl | hv; · rfl))) (by omega) rfl rfl rfl ?_; intro bm; refine ⟨okF, ?_⟩); refine aO .here ?_; refine fQ (φ := jC ⟨some ⟨bm, 0, none⟩, 3, [r1, r2, r3]⟩ 7) (Hv.x3 aB aB aB aB) ?_)
      repeat (refine aK ?_)
      (refine aA rfl (kG 3 (m := ⟨some ⟨bm, 0, none⟩, 3, [r1, r2, r3]⟩) (k0 := 7) (by omega) (by omega) (by decide) (hdm bm r1 r2 r3 hr1 hr2 hr3) aB) rfl rfl ?_; rintro _ _ _ ⟨rfl, ed, rfl, hed, rfl⟩; refine ⟨okF, ?_⟩)
      repeat (refine aK ?_)
      (refine aA rfl (fP (e := ed) (k := hD 7 3) (by decide) (Hv.mem aB)) rfl rfl ?_; rintro _ _ _ ⟨rfl, rfl, rfl⟩; refine ⟨okF, ?_⟩)
      repeat (refine aK ?_)
      refine fO _ _ _ aQ aF aD ⟨_, by rw [iE, hed]; simp only [MX.q, List.map, hr1, hr2, hr3]; exact Iff.rfl, rfl, rfl, rfl⟩
    ·((refine aP (cs := recs eZ [m6, m7, m8]) ([.int .i64 m6, .int .i64 m7, .int .i64 m8]) rfl rfl (by intro v hv; repeat (first | exact absurd hv (List.not_mem_nil) | (rcases List.mem_cons.1 hv with rfl | hv; · rfl))) (by omega) rfl rfl rfl ?_; intro bc; refine ⟨okF, ?_⟩); refine aO .here ?_)
     refine bA ?_
     refine bG [16, 17, 31, 45, 46, 47, 48, 49, 50] [0, 0, 0, 0, 0, 0, 0, 0, 0] aF aD (by kernel_rfl) (by kernel_rfl) rfl rfl ?_
     repeat (refine aK ?_)
     ((refine aP (cs := recs eZ [m0, m1, m2]) ([.int .i64 m0, .int .i64 m1, .int .i64 m2]) rfl rfl (by intro v hv; repeat (first | exact absurd hv (List.not_mem_nil) | (rcases List.mem_cons.1 hv with rfl | hv; · rfl))) (by omega) rfl rfl rfl ?_; intro ba; refine ⟨okF, ?_⟩); refine aO .here ?_)
     repeat (refine aK ?_)
     (refine aA rfl (hW3 [m0, m1, m2] rfl hb0 ba _ _ aB) rfl rfl ?_; rintro _ _ _ ⟨rfl, r1, rfl, hr1, rfl⟩; refine ⟨okF, ?_⟩)
     repeat (refine aK ?_)
     (refine aA rfl (hW3 [m3, m4, m5] rfl hb1 bb _ _ aB) rfl rfl ?_; rintro _ _ _ ⟨rfl, r2, rfl, hr2, rfl⟩; refine ⟨okF, ?_⟩)
     repeat (refine aK ?_)
     (refine aA rfl (hW3 [m6, m7, m8] rfl hb2 bc _ _ aB) rfl rfl ?_; rintro _ _ _ ⟨rfl, r3, rfl, hr3, rfl⟩; refine ⟨okF, ?_⟩)
     repeat (refine aK ?_)
     ((refine aP (cs := recs eL [r1, r2, r3]) ([lv r1, lv r2, lv r3]) rfl rfl (by intro v hv; repeat (first | exact absurd hv (List.not_mem_nil) | (rcases List.mem_cons.1 hv with rfl | hv; · rfl))) (by omega) rfl rfl rfl ?_; intro bm; refine ⟨okF, ?_⟩); refine aO .here ?_; refine fQ (φ := jC ⟨some ⟨bm, 0, none⟩, 3, [r1, r2, r3]⟩ 7) (Hv.x3 aB aB aB aB) ?_)
     repeat (refine aK ?_)
     (refine aA rfl (kG 3 (m := ⟨some ⟨bm, 0, none⟩, 3, [r1, r2, r3]⟩) (k0 := 7) (by omega) (by omega) (by decide) (hdm bm r1 r2 r3 hr1 hr2 hr3) aB) rfl rfl ?_; rintro _ _ _ ⟨rfl, ed, rfl, hed, rfl⟩; refine ⟨okF, ?_⟩)
     repeat (refine aK ?_)
     (refine aA rfl (fP (e := ed) (k := hD 7 3) (by decide) (Hv.mem aB)) rfl rfl ?_; rintro _ _ _ ⟨rfl, rfl, rfl⟩; refine ⟨okF, ?_⟩)
     repeat (refine aK ?_)
     refine fO _ _ _ aQ aF aD ⟨_, by rw [iE, hed]; simp only [MX.q, List.map, hr1, hr2, hr3]; exact Iff.rfl, rfl, rfl, rfl⟩
   ·((refine aP (cs := recs eZ [m6, m7, m8]) ([.int .i64 m6, .int .i64 m7, .int .i64 m8]) rfl rfl (by intro v hv; repeat (first | exact absurd hv (List.not_mem_nil) | (rcases List.mem_cons.1 hv with rfl | hv; · rfl))) (by omega) rfl rfl rfl ?_; intro bc; refine ⟨okF, ?_⟩); refine aO .here ?_)
    refine bA ?_
    repeat (refine aK ?_)
    refine cK (fuel := 9) (i := 16) (j := 30) (by kernel_rfl) ?_ ?_
    ·((refine aP (cs := recs eZ [m0, m1, m2]) ([.int .i64 m0, .int .i64 m1, .int .i64 m2]) rfl rfl (by intro v hv; repeat (first | exact absurd hv (List.not_mem_nil) | (rcases List.mem_cons.1 hv with rfl | hv; · rfl))) (by omega) rfl rfl rfl ?_; intro ba; refine ⟨okF, ?_⟩); refine aO .here ?_)
     refine bA ?_
     repeat (refine aK ?_)
     refine cK (fuel := 8) (i := 17) (j := 30) (by kernel_rfl) ?_ ?_
     ·(refine aA rfl (hW3 [m0, m1, m2] rfl hb0 ba _ _ aB) rfl rfl ?_; rintro _ _ _ ⟨rfl, r1, rfl, hr1, rfl⟩; refine ⟨okF, ?_⟩)
      refine bA ?_
      refine bG [30, 31, 45, 46, 47, 48, 49, 50] [0, 0, 0, 0, 0, 0, 0, 0] aF aD (by kernel_rfl) (by kernel_rfl) rfl rfl ?_
      repeat (refine aK ?_)
      ((refine aP (cs := recs eZ [m3, m4, m5]) ([.int .i64 m3, .int .i64 m4, .int .i64 m5]) rfl rfl (by intro v hv; repeat (first | exact absurd hv (List.not_mem_nil) | (rcases List.mem_cons.1 hv with rfl | hv; · rfl))) (by omega) rfl rfl rfl ?_; intro bb; refine ⟨okF, ?_⟩); refine aO .here ?_)
      repeat (refine aK ?_)
      (refine aA rfl (hW3 [m3, m4, m5] rfl hb1 bb _ _ aB) rfl rfl ?_; rintro _ _ _ ⟨rfl, r2, rfl, hr2, rfl⟩; refine ⟨okF, ?_⟩)
      repeat (refine aK ?_)
      (refine aA rfl (hW3 [m6, m7, m8] rfl hb2 bc _ _ aB) rfl rfl ?_; rintro _ _ _ ⟨rfl, r3, rfl, hr3, rfl⟩; refine ⟨okF, ?_⟩)
      repeat (refine aK ?_)
      ((refine aP (cs := recs eL [r1, r2, r3]) ([lv r1, lv r2, lv r3]) rfl rfl (by intro v hv; repeat (first | exact absurd hv (List.not_mem_nil) | (rcases List.mem_cons.1 hv with rfl | hv; · rfl))) (by omega) rfl rfl rfl ?_; intro bm; refine ⟨okF, ?_⟩); refine aO .here ?_; refine fQ (φ := jC ⟨some ⟨bm, 0, none⟩, 3, [r1, r2, r3]⟩ 7) (Hv.x3 aB aB aB aB) ?_)
      repeat (refine aK ?_)
      (refine aA rfl (kG 3 (m := ⟨some ⟨bm, 0, none⟩, 3, [r1, r2, r3]⟩) (k0 := 7) (by omega) (by omega) (by decide) (hdm bm r1 r2 r3 hr1 hr2 hr3) aB) rfl rfl ?_; rintro _ _ _ ⟨rfl, ed, rfl, hed, rfl⟩; refine ⟨okF, ?_⟩)
      repeat (refine aK ?_)
      (refine aA rfl (fP (e := ed) (k := hD 7 3) (by decide) (Hv.mem aB)) rfl rfl ?_; rintro _ _ _ ⟨rfl, rfl, rfl⟩; refine ⟨okF, ?_⟩)
      repeat (refine aK ?_)
      refine fO _ _ _ aQ aF aD ⟨_, by rw [iE, hed]; simp only [MX.q, List.map, hr1, hr2, hr3]; exact Iff.rfl, rfl, rfl, rfl⟩
     ·((refine aP (cs := recs eZ [m3, m4, m5]) ([.int .i64 m3, .int .i64 m4, .int .i64 m5]) rfl rfl (by intro v hv; repeat (first | exact absurd hv (List.not_mem_nil) | (rcases List.mem_cons.1 hv with rfl | hv; · rfl))) (by omega) rfl rfl rfl ?_; intro bb; refine ⟨okF, ?_⟩); refine aO .here ?_)
      refine bA ?_
      refine bG [17, 31, 45, 46, 47, 48, 49, 50] [0, 0, 0, 0, 0, 0, 0, 0] aF aD (by kernel_rfl) (by kernel_rfl) rfl rfl ?_
      repeat (refine aK ?_)
      (refine aA rfl (hW3 [m0, m1, m2] rfl hb0 ba _ _ aB) rfl rfl ?_; rintro _ _ _ ⟨rfl, r1, rfl, hr1, rfl⟩; refine ⟨okF, ?_⟩)
      repeat (refine aK ?_)
      (refine aA rfl (hW3 [m3, m4, m5] rfl hb1 bb _ _ aB) rfl rfl ?_; rintro _ _ _ ⟨rfl, r2, rfl, hr2, rfl⟩; refine ⟨okF, ?_⟩)
      repeat (refine aK ?_)
      (refine aA rfl (hW3 [m6, m7, m8] rfl hb2 bc _ _ aB) rfl rfl ?_; rintro _ _ _ ⟨rfl, r3, rfl, hr3, rfl⟩; refine ⟨okF, ?_⟩)
      repeat (refine aK ?_)
      ((refine aP (cs := recs eL [r1, r2, r3]) ([lv r1, lv r2, lv r3]) rfl rfl (by intro v hv; repeat (first | exact absurd hv (List.not_mem_nil) | (rcases List.mem_cons.1 hv with rfl | hv; · rfl))) (by omega) rfl rfl rfl ?_; intro bm; refine ⟨okF, ?_⟩); refine aO .here ?_; refine fQ (φ := jC ⟨some ⟨bm, 0, none⟩, 3, [r1, r2, r3]⟩ 7) (Hv.x3 aB aB aB aB) ?_)
      repeat (refine aK ?_)
      (refine aA rfl (kG 3 (m := ⟨some ⟨bm, 0, none⟩, 3, [r1, r2, r3]⟩) (k0 := 7) (by omega) (by omega) (by decide) (hdm bm r1 r2 r3 hr1 hr2 hr3) aB) rfl rfl ?_; rintro _ _ _ ⟨rfl, ed, rfl, hed, rfl⟩; refine ⟨okF, ?_⟩)
      repeat (refine aK ?_)
      (refine aA rfl (fP (e := ed) (k := hD 7 3) (by decide) (Hv.mem aB)) rfl rfl ?_; rintro _ _ _ ⟨rfl, rfl, rfl⟩; refine ⟨okF, ?_⟩)
      repeat (refine aK ?_)
      refine fO _ _ _ aQ aF aD ⟨_, by rw [iE, hed]; simp only [MX.q, List.map, hr1, hr2, hr3]; exact Iff.rfl, rfl, rfl, rfl⟩
    ·((refine aP (cs := recs eZ [m3, m4, m5]) ([.int .i64 m3, .int .i64 m4, .int .i64 m5]) rfl rfl (by intro v hv; repeat (first | exact absurd hv (List.not_mem_nil) | (rcases List.mem_cons.1 hv with rfl | hv; · rfl))) (by omega) rfl rfl rfl ?_; intro bb; refine ⟨okF, ?_⟩); refine aO .here ?_)
     refine bA ?_
     refine bG [16, 17, 31, 45, 46, 47, 48, 49, 50] [0, 0, 0, 0, 0, 0, 0, 0, 0] aF aD (by kernel_rfl) (by kernel_rfl) rfl rfl ?_
     repeat (refine aK ?_)
     ((refine aP (cs := recs eZ [m0, m1, m2]) ([.int .i64 m0, .int .i64 m1, .int .i64 m2]) rfl rfl (by intro v hv; repeat (first | exact absurd hv (List.not_mem_nil) | (rcases List.mem_cons.1 hv with rfl | hv; · rfl))) (by omega) rfl rfl rfl ?_; intro ba; refine ⟨okF, ?_⟩); refine aO .here ?_)
     repeat (refine aK ?_)
     (refine aA rfl (hW3 [m0, m1, m2] rfl hb0 ba _ _ aB) rfl rfl ?_; rintro _ _ _ ⟨rfl, r1, rfl, hr1, rfl⟩; refine ⟨okF, ?_⟩)
     repeat (refine aK ?_)
     (refine aA rfl (hW3 [m3, m4, m5] rfl hb1 bb _ _ aB) rfl rfl ?_; rintro _ _ _ ⟨rfl, r2, rfl, hr2, rfl⟩; refine ⟨okF, ?_⟩)
     repeat (refine aK ?_)
     (refine aA rfl (hW3 [m6, m7, m8] rfl hb2 bc _ _ aB) rfl rfl ?_; rintro _ _ _ ⟨rfl, r3, rfl, hr3, rfl⟩; refine ⟨okF, ?_⟩)
     repeat (refine aK ?_)
     ((refine aP (cs := recs eL [r1, r2, r3]) ([lv r1, lv r2, lv r3]) rfl rfl (by intro v hv; repeat (first | exact absurd hv (List.not_mem_nil) | (rcases List.mem_cons.1 hv with rfl | hv; · rfl))) (by omega) rfl rfl rfl ?_; intro bm; refine ⟨okF, ?_⟩); refine aO .here ?_; refine fQ (φ := jC ⟨some ⟨bm, 0, none⟩, 3, [r1, r2, r3]⟩ 7) (Hv.x3 aB aB aB aB) ?_)
     repeat (refine aK ?_)
     (refine aA rfl (kG 3 (m := ⟨some ⟨bm, 0, none⟩, 3, [r1, r2, r3]⟩) (k0 := 7) (by omega) (by omega) (by decide) (hdm bm r1 r2 r3 hr1 hr2 hr3) aB) rfl rfl ?_; rintro _ _ _ ⟨rfl, ed, rfl, hed, rfl⟩; refine ⟨okF, ?_⟩)
     repeat (refine aK ?_)
     (refine aA rfl (fP (e := ed) (k := hD 7 3) (by decide) (Hv.mem aB)) rfl rfl ?_; rintro _ _ _ ⟨rfl, rfl, rfl⟩; refine ⟨okF, ?_⟩)
     repeat (refine aK ?_)
     refine fO _ _ _ aQ aF aD ⟨_, by rw [iE, hed]; simp only [MX.q, List.map, hr1, hr2, hr3]; exact Iff.rfl, rfl, rfl, rfl⟩
  rintro G M I ⟨z, hz, rfl, rfl, rfl⟩
  by_cases hz0 : z = 0
  ·repeat (refine aK ?_)
   refine aH (by first | exact .inl rfl | exact .inr rfl) rfl rfl _ _ aF aD (⟨rfl, rfl, rfl⟩)
  obtain ⟨k4, k10⟩ := aNG hl (fun e => hz0 (hz.2 e))
  rw [← hrq] at k4 k10
  have hA1 := fun M0 I0 h => aBI (X := X) (w0 := w0) (M0 := M0) (I0 := I0) (q := q) (l := l) (n := i) (c := c) hl h
  have hA2 := fun M0 I0 h => aBI (X := X) (w0 := w0) (M0 := M0) (I0 := I0) (q := qe) (l := rows) (n := i) (c := ce) hrl h
  have hB1 := fun M0 I0 h => vU (X := X) (w0 := w0) (M0 := M0) (I0 := I0) (q := q) (l := l) (n := i) (c := c) hGl hl h
  have hB2 := fun M0 I0 h => vU (X := X) (w0 := w0) (M0 := M0) (I0 := I0) (q := qe) (l := rows) (n := i) (c := ce) hGl hrl h
  have s1 : (jX (l.map sV) qT i).1.length = rk (l.map sV) 4 := sD (by rw [aEU hl]; exact aAK)
  have s2 : (jX (rows.map sV) qT i).1.length = rk (rows.map sV) 4 := sD (by rw [aEU hrl]; exact aAK)
  have s3 : (jX (kQ l) qT i).1.length = rk (kQ l) 10 := sD (wY hl)
  have s4 : (jX (kQ rows) qT i).1.length = rk (kQ rows) 10 := sD (wY hrl)
  rw [hsl, if_pos rfl, s1] at hA1
  rw [hc, if_pos rfl, s2, k4] at hA2
  rw [hsl, if_pos rfl, s3] at hB1
  rw [hc, if_pos rfl, s4, k10] at hB2
  generalize rk (l.map sV) 4 = ra at *
  generalize rk (kQ l) 10 = rb at *
  repeat (refine aK ?_)
  (refine aA rfl (hA1 _ _ aB) rfl rfl ?_; rintro _ _ _ ⟨rfl, rfl, rfl⟩; refine ⟨okF, ?_⟩)
  repeat (refine aK ?_)
  (refine aA rfl (hA2 _ _ aB) rfl rfl ?_; rintro _ _ _ ⟨rfl, rfl, rfl⟩; refine ⟨okF, ?_⟩)
  repeat (refine aK ?_)
  (refine aA rfl (hB1 _ _ aB) rfl rfl ?_; rintro _ _ _ ⟨rfl, rfl, rfl⟩; refine ⟨okF, ?_⟩)
  repeat (refine aK ?_)
  (refine aA rfl (hB2 _ _ aB) rfl rfl ?_; rintro _ _ _ ⟨rfl, rfl, rfl⟩; refine ⟨okF, ?_⟩)
  repeat (refine aK ?_)
  refine aH (by first | exact .inl rfl | exact .inr rfl) rfl rfl _ _ aF aD (⟨rfl, rfl, congrArg Value.bool (dZ rfl)⟩)
end
end Go.Proofs.YtkccjglmnhgabaaGreatDoor

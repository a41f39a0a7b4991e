/- The law ResectRecovers: its walk. The law ResectRecovers: any number of points; its arguments opened. -/
import Derived.Test.YtkccjglmnhgabaaGreatZhbl
import Derived.Test.YtkccjglmnhgabaaGreatZhbm
import Derived.Test.YtkccjglmnhgabaaGreatZhax
set_option linter.unusedSimpArgs false
set_option linter.unusedVariables false
set_option maxRecDepth 100000
set_option maxHeartbeats 4000000
namespace Go.Proofs.YtkccjglmnhgabaaGreat
open Go Go.Fx
theorem Hv.l4r {I : List aZ} {p : Option Addr} {a b c d : RE} {k : Nat} (h1 : bI p (recs eR [a, b, c, d]) ∈ I) (hp : Ok p) (ha : bM a k ∈ I) (hb : bM b k ∈ I) (hc : bM c k ∈ I) (hd : bM d k ∈ I) : Hv I (iY ⟨p, 4, [a, b, c, d]⟩ k) := ⟨fun X w hw => ⟨(hw _ h1 : SlI _ _ X w).go, fun e he => by
 simp only [List.mem_cons, List.not_mem_nil, or_false] at he
 rcases he with rfl | rfl | rfl | rfl
 ·exact hw _ ha
 ·exact hw _ hb
 ·exact hw _ hc
 ·exact hw _ hd, ⟨Nat.le_refl 4, .inl hp⟩⟩⟩
section
variable {X : List Nat} {w0 : World} {M0 : List Ent} {I0 : List aZ}
theorem aNI {q : Option Addr} {c n : Nat} {r0 r1 r2 : I4} {ps : List I3} (h0 : r0.ok) (h1 : r1.ok) (h2 : r2.ok) (hps : ∀ p ∈ ps, p.ok) (hn : ps.length = n) (hn6 : 6 ≤ n ∧ n ≤ 8) (hq : bI q (recs c3 ps) ∈ I0) :
  CD Tryz.prog 3 [.agg (recs c4 [r0, r1, r2]).toArray, .slice q n c] X w0 M0 I0 (fun v M I => M0 = M ∧ I0 = I ∧ v = .bool true) := by
 have hRt := fun (x : Int) M0 I0 (hx : x.natAbs ≤ 2 ^ 7) => qV (X := X) (w0 := w0) (M0 := M0) (I0 := I0) (x := x) (by omega) (k := 7) hx
 refine bE Tryz.func3 rfl Tryz.ntmps3 rfl ?_
 refine aL ?_
 refine aM ?_
 (refine aR rfl rfl rfl ?_; intro b2; refine ⟨okF, ?_⟩)
 refine bF (cs := recs c4 [r0, r1, r2]) .here ?_
 repeat (refine aJ ?_)
 (refine aA rfl (zA) rfl rfl ?_; rintro _ _ _ ⟨rfl, rfl, rfl⟩; refine ⟨okF, ?_⟩)
 repeat (refine aJ ?_)
 (refine aB rfl rfl ?_; intro b6; refine ⟨okF, ?_⟩)
 repeat (refine aJ ?_)
 refine kT 39 1 ?_
 refine fD (φ := kG [] 7) Hv.nilL ?_
 refine bG [1, 6, 29] rfl (fun k G M I => ∃ (i : Nat) (rows : List RL) (q1 : Option Addr) (d1 : Nat), i ≤ 3 ∧ k = 3 - i ∧ rows.length = i ∧ rows.map RL.q = ([r0, r1, r2].take i).map I4.q ∧ G = [(5, .slice q1 rows.length d1), (30, .int .i64 i)] ∧ M = .row q1 rows.length d1 (recs eL rows) 39 1 :: .blk b6 [.slice none 0 0, .slice none 0 0] 32 :: M0 ∧ I = kG rows 7 :: bI (some ⟨b2, 0, none⟩) (recs c4 [r0, r1, r2]) :: I0) (3) _ _ _ aO aD aF (⟨0, [], none, 0, by omega, rfl, rfl, rfl, rfl, rfl, rfl⟩) ?_
 rintro kk G M I ⟨i, rows, q1, d1, hi, rfl, hrl, hrq, rfl, rfl, rfl⟩
 by_cases hin : i < 3
 ·have ho : (gt [r0, r1, r2] (i : Int)).ok := by
   have := dX (ms := [r0, r1, r2]) (i := (i : Int)) ⟨by omega, by simp; omega⟩
   simp only [List.mem_cons, List.not_mem_nil, or_false] at this
   rcases this with e | e | e <;> rw [e] <;> assumption
  obtain ⟨o1, o2, o3, o4⟩ := ho
  repeat (refine aJ ?_)
  refine aH rfl (fun _ => vX (vs := c4 (gt [r0, r1, r2] (i : Int))) rfl rfl (by omega) (aAN (by simp; omega))) rfl rfl ?_
  (refine aB rfl rfl ?_; intro b8; refine ⟨okF, ?_⟩)
  repeat (refine aJ ?_)
  generalize hr : (gt [r0, r1, r2] (i : Int)) = r at *
  (repeat refine aL ?_); refine dJ (.blk b8 (c4 r) 23 :: .blk b6 [.slice none 0 0, .slice none 0 0] 32 :: M0) (kG rows 7 :: bI (some ⟨b2, 0, none⟩) (recs c4 [r0, r1, r2]) :: I0) [0, 1, 2, 3, 5, 6, 7, 9, 10, 11, 13, 14, 15, 4, 8, 12, 16, 17, 18, 19, 20] [6, 7, 7, 6, 7, 7, 6, 7, 7, 6, 7, 7, 6, 0, 0, 0, 0, 0, 0, 0, 0] aD aF mixed (by kernel_rfl) ?_
  repeat (refine aJ ?_)
  (refine aA rfl (hRt r.a _ _ o1) rfl rfl ?_; rintro _ _ _ ⟨rfl, a0, rfl, ha0, rfl⟩; refine ⟨okF, ?_⟩)
  repeat (refine aJ ?_)
  (refine aA rfl (hRt r.b _ _ o2) rfl rfl ?_; rintro _ _ _ ⟨rfl, a1, rfl, ha1, rfl⟩; refine ⟨okF, ?_⟩)
  repeat (refine aJ ?_)
  (refine aA rfl (hRt r.c _ _ o3) rfl rfl ?_; rintro _ _ _ ⟨rfl, a2, rfl, ha2, rfl⟩; refine ⟨okF, ?_⟩)
  repeat (refine aJ ?_)
  (refine aA rfl (hRt r.d _ _ o4) rfl rfl ?_; rintro _ _ _ ⟨rfl, a3, rfl, ha3, rfl⟩; refine ⟨okF, ?_⟩)
  (refine bO (cs := recs eR [a0, a1, a2, a3]) ([rv a0, rv a1, rv a2, rv a3]) rfl rfl (by intro v hv; repeat (first | exact absurd hv (List.not_mem_nil) | (rcases List.mem_cons.1 hv with rfl | hv; · rfl))) (by omega) rfl rfl rfl ?_; intro bl; refine ⟨okF, ?_⟩)
  refine bF (b := bl) mW ?_
  refine fI (φ := iY ⟨some ⟨bl, 0, none⟩, 4, [a0, a1, a2, a3]⟩ 7) (Hv.l4r aC (Ok.mk _ _) aC aC aC aC) ?_
  (refine bO (cs := recs eL [(⟨some ⟨bl, 0, none⟩, 4, [a0, a1, a2, a3]⟩ : RL)]) ([lv ⟨some ⟨bl, 0, none⟩, 4, [a0, a1, a2, a3]⟩]) rfl rfl (by intro v hv; repeat (first | exact absurd hv (List.not_mem_nil) | (rcases List.mem_cons.1 hv with rfl | hv; · rfl))) (by omega) rfl rfl rfl ?_; intro bs; refine ⟨okF, ?_⟩)
  (refine eQ (ys := [(⟨some ⟨bl, 0, none⟩, 4, [a0, a1, a2, a3]⟩ : RL)]) 2 rfl rfl rfl ?_ (by decide) rfl (by omega) (by omega) rfl rfl ?_; (· first | exact Src.blk aC | exact Src.row aC | exact Src.imm aC (by first | assumption | exact .inl (Ok.mk _ _))); intro q2 d2; refine ⟨okF, ?_⟩)
  refine pM (M' := .blk bs (recs eL [(⟨some ⟨bl, 0, none⟩, 4, [a0, a1, a2, a3]⟩ : RL)]) 39 :: .blk b8 (c4 r) 23 :: .row q2 (rows ++ [(⟨some ⟨bl, 0, none⟩, 4, [a0, a1, a2, a3]⟩ : RL)]).length d2 (recs eL (rows ++ [(⟨some ⟨bl, 0, none⟩, 4, [a0, a1, a2, a3]⟩ : RL)])) 39 1 :: .blk b6 [.slice none 0 0, .slice none 0 0] 32 :: M0) (fun _ hw => hw) ?_
  repeat (refine aJ ?_)
  refine bJ (φ := kG (rows ++ [(⟨some ⟨bl, 0, none⟩, 4, [a0, a1, a2, a3]⟩ : RL)]) 7) (Hv.snocL aC aC) ?_
  refine aS (3 - (i + 1)) _ _ _ (by first | omega | (simp only [List.length_append, List.length_cons, List.length_nil]; omega)) aO aD aF (⟨i + 1, rows ++ [(⟨some ⟨bl, 0, none⟩, 4, [a0, a1, a2, a3]⟩ : RL)], q2, d2, by omega, rfl, by simp; omega, ?_, rfl, rfl, rfl⟩)
  have ht : [r0, r1, r2].take (i + 1) = [r0, r1, r2].take i ++ [r] := by rw [← hr, fH (by simp; omega)]; exact (List.take_append_getElem (by simp; omega)).symm
  rw [List.map_append, hrq, ht, List.map_append]
  congr 1
  show [[a0.q, a1.q, a2.q, a3.q]] = [r.q]
  rw [ha0, ha1, ha2, ha3]; rfl
 obtain rfl : i = 3 := by omega
 refine yO (fun _ hw => Mem.toX hw aC) ?_
 obtain ⟨m, hm⟩ : ∃ m : MX, m = ⟨q1, d1, rows⟩ := ⟨_, rfl⟩
 have hmv : Value.slice q1 rows.length d1 = mv m := by rw [hm]
 have hmq : m.q = mI r0 r1 r2 := by rw [hm]; exact hrq
 rw [← hm, hmv]
 repeat (refine aJ ?_)
 have hfit : m.fit 3 4 := by
  rw [hm]
  refine ⟨⟨hrl, fun r hr => ?_⟩, by omega, by omega⟩
  have : r.q ∈ [r0, r1, r2].map I4.q := by
   have : r.q ∈ rows.map RL.q := List.mem_map.2 ⟨r, hr, rfl⟩
   rw [hrq] at this; exact this
  have h4 : r.q.length = 4 := by
   simp only [List.map_cons, List.map_nil, List.mem_cons, List.not_mem_nil, or_false] at this
   rcases this with e | e | e <;> rw [e] <;> rfl
  have : r.q.length = r.es.length := by show (qs r.es).length = _; simp [qs]
  omega
 clear hrl hrq hm hmv
 refine kT 41 12 ?_
 refine kT 43 8 ?_
 refine fD (φ := zY [] 30) ⟨fun X w _ => ⟨fun x hx => by simp at hx⟩⟩ ?_
 refine fD (φ := pO [] 30) ⟨fun X w _ => ⟨fun x hx => by simp at hx⟩⟩ ?_
 have hPr := fun (a b c : RE) M0 I0 x y z => aFE (X := X) (w0 := w0) (M0 := M0) (I0 := I0) (m := m) (a := a) (b := b) (c := c) (k := 7) (by omega) hfit x y z
 refine bG [5, 6, 54, 55] rfl (fun k G M I => ∃ (t : Nat) (W : List VE) (P : List PE) (qa : Option Addr) (ca : Nat) (qb : Option Addr) (cb : Nat), t ≤ n ∧ k = n - t ∧ Img r0 r1 r2 ps t W P ∧ G = [(56, .int .i64 t)] ∧ M = .row qa W.length ca (recs eV W) 41 12 :: .row qb P.length cb (recs eP P) 43 8 :: .blk b6 [.slice qa W.length ca, .slice qb P.length cb] 32 :: M0 ∧ I = pO P 30 :: zY W 30 :: nU m 7 :: bI (some ⟨b2, 0, none⟩) (recs c4 [r0, r1, r2]) :: I0) (n) _ _ _ aO aD aF (⟨0, [], [], none, 0, none, 0, by omega, rfl, Img.nil, rfl, rfl, rfl⟩) ?_
 rintro kk G M I ⟨t, W, P, qa, ca, qb, cb, ht, rfl, hi, rfl, rfl, rfl⟩
 by_cases htn : t < n
 ·have ho := hps _ (dX (ms := ps) (i := (t : Int)) ⟨by omega, by omega⟩)
  obtain ⟨o1, o2, o3⟩ := ho
  repeat (refine aJ ?_)
  (refine aB rfl rfl ?_; intro b10; refine ⟨okF, ?_⟩)
  repeat (refine aJ ?_)
  generalize hp : gt ps (t : Int) = p at *
  refine kU (fun G M I => ∃ (b11 : Nat) (z0 z1 z2 : RE), z0.q = (p.a : Rat) ∧ z1.q = (p.b : Rat) ∧ z2.q = (p.c : Rat) ∧ G = [(5, mv m), (6, .pointer (some ⟨b6, 0, none⟩)), (11, .pointer (some ⟨b11, 0, none⟩)), (54, .slice q n c), (55, .int .i64 n), (56, .int .i64 t)] ∧ M = .blk b11 (recs eR [z0, z1, z2]) 41 :: .row qa W.length ca (recs eV W) 41 12 :: .row qb P.length cb (recs eP P) 43 8 :: .blk b6 [.slice qa W.length ca, .slice qb P.length cb] 32 :: M0 ∧ I = bM z2 7 :: bM z1 7 :: bM z0 7 :: pO P 30 :: zY W 30 :: nU m 7 :: bI (some ⟨b2, 0, none⟩) (recs c4 [r0, r1, r2]) :: I0) ?_ ?_
  ·((repeat refine aL ?_); refine iL (.blk b10 (c3 p) 40 :: .row qa W.length ca (recs eV W) 41 12 :: .row qb P.length cb (recs eP P) 43 8 :: .blk b6 [.slice qa W.length ca, .slice qb P.length cb] 32 :: M0) (pO P 30 :: zY W 30 :: nU m 7 :: bI (some ⟨b2, 0, none⟩) (recs c4 [r0, r1, r2]) :: I0) mixed ?_)
   refine bH (fuel := 6) (listed' := #[true, true, true, false, true, true, true, false, true, true, true, false, false, false, false]) [0, 1, 2, 4, 5, 6, 8, 9, 10] [4, 4, 3, 4, 4, 3, 4, 4, 3] aD aF (by kernel_rfl) (by kernel_rfl) rfl rfl ?_
   repeat (refine aJ ?_)
   refine aK (fuel := 5) (i := 3) (j := 13) (by kernel_rfl) ?_ ?_
   ·(refine aA rfl (hRt p.a _ _ o1) rfl rfl ?_; rintro _ _ _ ⟨rfl, z0, rfl, hz0, rfl⟩; refine ⟨okF, ?_⟩)
    refine aI ?_
    repeat (refine aJ ?_)
    refine aK (fuel := 4) (i := 7) (j := 13) (by kernel_rfl) ?_ ?_
    ·(refine aA rfl (hRt p.b _ _ o2) rfl rfl ?_; rintro _ _ _ ⟨rfl, z1, rfl, hz1, rfl⟩; refine ⟨okF, ?_⟩)
     refine aI ?_
     repeat (refine aJ ?_)
     refine aK (fuel := 3) (i := 11) (j := 13) (by kernel_rfl) ?_ ?_
     ·(refine aA rfl (hRt p.c _ _ o3) rfl rfl ?_; rintro _ _ _ ⟨rfl, z2, rfl, hz2, rfl⟩; refine ⟨okF, ?_⟩)
      refine aI ?_
      refine aG [12, 13, 14] [1, 0, 0] aD aF (by kernel_rfl) (by kernel_rfl) rfl rfl ?_
      repeat (refine aJ ?_)
      (refine aH rfl (fun _ => aX (vals := [rv z0, rv z1, rv z2]) (cells := recs eR [z0, z1, z2]) rfl ?hpl rfl ?hz) rfl rfl ?_; (case hpl => exact (by intro v hv; repeat (first | exact absurd hv (List.not_mem_nil) | (rcases List.mem_cons.1 hv with rfl | hv; · rfl)))); (case hz => rfl))
      repeat (refine aJ ?_)
      (refine aB rfl rfl ?_; intro b11; refine ⟨okF, ?_⟩)
      repeat (refine aJ ?_)
      refine aN _ _ _ aO aD aF ⟨b11, z0, z1, z2, hz0, hz1, hz2, rfl, rfl, rfl⟩
     ·(refine aB rfl rfl ?_; intro b11; refine ⟨okF, ?_⟩)
      refine aI ?_
      refine aG [11, 12, 14] [0, 0, 0] aD aF (by kernel_rfl) (by kernel_rfl) rfl rfl ?_
      repeat (refine aJ ?_)
      (refine aA rfl (hRt p.c _ _ o3) rfl rfl ?_; rintro _ _ _ ⟨rfl, z2, rfl, hz2, rfl⟩; refine ⟨okF, ?_⟩)
      repeat (refine aJ ?_)
      (refine aH rfl (fun _ => aX (vals := [rv z0, rv z1, rv z2]) (cells := recs eR [z0, z1, z2]) rfl ?hpl rfl ?hz) rfl rfl ?_; (case hpl => exact (by intro v hv; repeat (first | exact absurd hv (List.not_mem_nil) | (rcases List.mem_cons.1 hv with rfl | hv; · rfl)))); (case hz => rfl))
      repeat (refine aJ ?_)
      refine aN _ _ _ aO aD aF ⟨b11, z0, z1, z2, hz0, hz1, hz2, rfl, rfl, rfl⟩
    ·(refine aB rfl rfl ?_; intro b11; refine ⟨okF, ?_⟩)
     refine aI ?_
     refine aG [7, 11, 12, 14] [0, 0, 0, 0] aD aF (by kernel_rfl) (by kernel_rfl) rfl rfl ?_
     repeat (refine aJ ?_)
     (refine aA rfl (hRt p.b _ _ o2) rfl rfl ?_; rintro _ _ _ ⟨rfl, z1, rfl, hz1, rfl⟩; refine ⟨okF, ?_⟩)
     repeat (refine aJ ?_)
     (refine aA rfl (hRt p.c _ _ o3) rfl rfl ?_; rintro _ _ _ ⟨rfl, z2, rfl, hz2, rfl⟩; refine ⟨okF, ?_⟩)
     repeat (refine aJ ?_)
     (refine aH rfl (fun _ => aX (vals := [rv z0, rv z1, rv z2]) (cells := recs eR [z0, z1, z2]) rfl ?hpl rfl ?hz) rfl rfl ?_; (case hpl => exact (by intro v hv; repeat (first | exact absurd hv (List.not_mem_nil) | (rcases List.mem_cons.1 hv with rfl | hv; · rfl)))); (case hz => rfl))
     repeat (refine aJ ?_)
     refine aN _ _ _ aO aD aF ⟨b11, z0, z1, z2, hz0, hz1, hz2, rfl, rfl, rfl⟩
   ·(refine aB rfl rfl ?_; intro b11; refine ⟨okF, ?_⟩)
    refine aI ?_
    refine aG [3, 7, 11, 12, 14] [0, 0, 0, 0, 0] aD aF (by kernel_rfl) (by kernel_rfl) rfl rfl ?_
    repeat (refine aJ ?_)
    (refine aA rfl (hRt p.a _ _ o1) rfl rfl ?_; rintro _ _ _ ⟨rfl, z0, rfl, hz0, rfl⟩; refine ⟨okF, ?_⟩)
    repeat (refine aJ ?_)
    (refine aA rfl (hRt p.b _ _ o2) rfl rfl ?_; rintro _ _ _ ⟨rfl, z1, rfl, hz1, rfl⟩; refine ⟨okF, ?_⟩)
    repeat (refine aJ ?_)
    (refine aA rfl (hRt p.c _ _ o3) rfl rfl ?_; rintro _ _ _ ⟨rfl, z2, rfl, hz2, rfl⟩; refine ⟨okF, ?_⟩)
    repeat (refine aJ ?_)
    (refine aH rfl (fun _ => aX (vals := [rv z0, rv z1, rv z2]) (cells := recs eR [z0, z1, z2]) rfl ?hpl rfl ?hz) rfl rfl ?_; (case hpl => exact (by intro v hv; repeat (first | exact absurd hv (List.not_mem_nil) | (rcases List.mem_cons.1 hv with rfl | hv; · rfl)))); (case hz => rfl))
    repeat (refine aJ ?_)
    refine aN _ _ _ aO aD aF ⟨b11, z0, z1, z2, hz0, hz1, hz2, rfl, rfl, rfl⟩
  rintro G M I ⟨b11, z0, z1, z2, hz0, hz1, hz2, rfl, rfl, rfl⟩
  have hPz := hPr z0 z1 z2
  rw [hmq, hz0, hz1, hz2, rU.1, rU.2.1, rU.2.2] at hPz
  repeat (refine aJ ?_)
  by_cases hz : (r2.at p : Rat) = 0
  ·simp only [if_pos hz] at hPz
   (refine aA rfl (hPz _ _ aC aC aC aC) rfl rfl ?_; rintro _ _ _ ⟨rfl, rfl, rfl⟩; refine ⟨okF, ?_⟩)
   repeat (refine aJ ?_)
   (refine aB rfl rfl ?_; intro b12; refine ⟨okF, ?_⟩)
   repeat (refine aJ ?_)
   refine aQ (by first | exact .inl rfl | exact .inr rfl) rfl rfl _ _ aD aF (⟨rfl, rfl, congrArg Value.bool (dG rfl)⟩)
  ·simp only [if_neg hz] at hPz
   (refine aA rfl (hPz _ _ aC aC aC aC) rfl rfl ?_; rintro _ _ _ ⟨rfl, e, rfl, he, rfl⟩; refine ⟨okF, ?_⟩)
   repeat (refine aJ ?_)
   (refine aB rfl rfl ?_; intro b12; refine ⟨okF, ?_⟩)
   repeat (refine aJ ?_)
   have lw := hi.lw
   have lp := hi.lp
   refine aKT (M' := .row qa W.length ca (recs eV W) 41 12 :: .row qb P.length cb (recs eP P) 43 8 :: .blk b12 (eP e) 43 :: .blk b11 (recs eR [z0, z1, z2]) 41 :: .blk b6 [.slice qa W.length ca, .slice qb P.length cb] 32 :: M0) (I' := cZ e (16 * 7 + 8) :: bM z2 7 :: bM z1 7 :: bM z0 7 :: pO P 30 :: zY W 30 :: nU m 7 :: bI (some ⟨b2, 0, none⟩) (recs c4 [r0, r1, r2]) :: I0) aD aF ?_
   refine aNG (fun G M I => ∃ (qa2 : Option Addr) (ca2 : Nat) (qb2 : Option Addr) (cb2 : Nat), G = [(5, mv m), (6, .pointer (some ⟨b6, 0, none⟩)), (54, .slice q n c), (55, .int .i64 n), (56, .int .i64 t)] ∧ M = .row qa2 (W ++ [(⟨z0, z1, z2⟩ : VE)]).length ca2 (recs eV (W ++ [(⟨z0, z1, z2⟩ : VE)])) 41 12 :: .row qb2 (P ++ [e]).length cb2 (recs eP (P ++ [e])) 43 8 :: .blk b6 [.slice qa2 (W ++ [(⟨z0, z1, z2⟩ : VE)]).length ca2, .slice qb2 (P ++ [e]).length cb2] 32 :: M0 ∧ I = cZ e (16 * 7 + 8) :: bM z2 7 :: bM z1 7 :: bM z0 7 :: pO P 30 :: zY W 30 :: nU m 7 :: bI (some ⟨b2, 0, none⟩) (recs c4 [r0, r1, r2]) :: I0) ?_ ?_
   ·((repeat refine aL ?_); refine aKP 4 (.blk b12 (eP e) 43 :: .blk b11 (recs eR [z0, z1, z2]) 41 :: .blk b6 [.slice qa W.length ca, .slice qb P.length cb] 32 :: M0) (.blk b12 (eP e) 43 :: .blk b11 (recs eR [z0, z1, z2]) 41 :: M0) (cZ e (16 * 7 + 8) :: bM z2 7 :: bM z1 7 :: bM z0 7 :: pO P 30 :: zY W 30 :: nU m 7 :: bI (some ⟨b2, 0, none⟩) (recs c4 [r0, r1, r2]) :: I0) mixed ?_)
    refine aGD (fuel := 12) (listed' := #[true, true, false, false, false, false, false, false, false, false, false, false, false, false]) (k1 := 0) [0, 1] [4, 3] (by kernel_rfl) rfl aD aD aF (by kernel_rfl) (by kernel_rfl) rfl rfl (by kernel_rfl) ?_
    repeat (refine aJ ?_)
    refine uU (fuel := 11) (listed' := #[true, true, true, false, false, false, false, false, false, false, false, false, false, false]) (k1 := 0) [2] [3] (by kernel_rfl) rfl aD aD aF (by kernel_rfl) (by kernel_rfl) rfl rfl (by kernel_rfl) ?_
    repeat (refine aJ ?_)
    refine aGD (fuel := 9) (listed' := #[true, true, true, false, false, true, true, false, false, false, false, false, false, false]) (k1 := 0) [5, 6] [4, 3] (by kernel_rfl) rfl aD aD aF (by kernel_rfl) (by kernel_rfl) rfl rfl (by kernel_rfl) ?_
    repeat (refine aJ ?_)
    refine uU (fuel := 8) (listed' := #[true, true, true, false, false, true, true, true, false, false, false, false, false, false]) (k1 := 0) [7] [4] (by kernel_rfl) rfl aD aD aF (by kernel_rfl) (by kernel_rfl) rfl rfl (by kernel_rfl) ?_
    repeat (refine aJ ?_)
    refine aDA (fuel := 7) (i := 3) (j := 8) (k1 := 1) rfl rfl aD (by kernel_rfl) (by kernel_rfl) ?_ ?_
    ·((refine bO (cs := recs eV [(⟨z0, z1, z2⟩ : VE)]) ([.agg (recs eR [z0, z1, z2]).toArray]) rfl rfl (by intro v hv; repeat (first | exact absurd hv (List.not_mem_nil) | (rcases List.mem_cons.1 hv with rfl | hv; · rfl))) (by omega) rfl rfl rfl ?_; intro bv; refine ⟨okF, ?_⟩); refine bF .here ?_)
     refine aI ?_
     refine aDA (fuel := 6) (i := 4) (j := 8) (k1 := 2) rfl rfl aD (by kernel_rfl) (by kernel_rfl) ?_ ?_
     ·(refine eQ (ys := [(⟨z0, z1, z2⟩ : VE)]) 0 rfl rfl rfl ?_ (by decide) rfl (by omega) (by omega) rfl rfl ?_; (· exact Src.imm aC (.inl (Ok.mk _ _))); intro qa2 ca2; refine ⟨OkD.any (SubP.drop (SubP.drop SubP.refl)) aF, ?_⟩; refine pM (M' := .row qa2 (W ++ [(⟨z0, z1, z2⟩ : VE)]).length ca2 (recs eV (W ++ [(⟨z0, z1, z2⟩ : VE)])) 41 12 :: .row qb P.length cb (recs eP P) 43 8 :: .blk b12 (eP e) 43 :: .blk b11 (recs eR [z0, z1, z2]) 41 :: .blk b6 [.slice qa W.length ca, .slice qb P.length cb] 32 :: M0) (fun _ hw => hw) ?_)
      refine aI ?_
      refine uU (fuel := 5) (listed' := #[true, true, true, true, true, true, true, true, false, false, true, false, false, false]) (k1 := 2) [10] [2] (by kernel_rfl) rfl aD aD aF (by kernel_rfl) (by kernel_rfl) rfl rfl (by kernel_rfl) ?_
      repeat (refine aJ ?_)
      refine uY (fuel := 3) (listed' := #[true, true, true, true, true, true, true, true, true, true, true, false, false, false]) (k1 := 4) [8, 9] [0, 0] (by kernel_rfl) rfl aD aD aF (by kernel_rfl) (by kernel_rfl) rfl rfl (by kernel_rfl) ?_
      repeat (refine aJ ?_)
      ((refine bO (cs := recs eP [e]) ([pv e]) rfl rfl (by intro v hv; repeat (first | exact absurd hv (List.not_mem_nil) | (rcases List.mem_cons.1 hv with rfl | hv; · rfl))) (by omega) rfl rfl rfl ?_; intro bq; refine ⟨okF, ?_⟩); refine bF .here ?_)
      repeat (refine aJ ?_)
      (refine eQ (ys := [e]) 1 rfl rfl rfl ?_ (by decide) rfl (by omega) (by omega) rfl rfl ?_; (· exact Src.imm aC (.inl (Ok.mk _ _))); intro qb2 cb2; refine ⟨OkD.any (SubP.drop (SubP.drop SubP.refl)) aF, ?_⟩; refine pM (M' := .row qa2 (W ++ [(⟨z0, z1, z2⟩ : VE)]).length ca2 (recs eV (W ++ [(⟨z0, z1, z2⟩ : VE)])) 41 12 :: .row qb2 (P ++ [e]).length cb2 (recs eP (P ++ [e])) 43 8 :: .blk b12 (eP e) 43 :: .blk b11 (recs eR [z0, z1, z2]) 41 :: .blk b6 [.slice qa W.length ca, .slice qb P.length cb] 32 :: M0) (fun _ hw => hw) ?_)
      repeat (refine aJ ?_)
      refine aBQ [11, 12, 13] [0, 0, 0] rfl aD aD aF (by kernel_rfl) (by kernel_rfl) rfl rfl ?_
      repeat (refine aJ ?_)
      refine aN _ _ _ aO aD aF ⟨qa2, ca2, qb2, cb2, rfl, rfl, rfl⟩
     ·((refine bO (cs := recs eP [e]) ([pv e]) rfl rfl (by intro v hv; repeat (first | exact absurd hv (List.not_mem_nil) | (rcases List.mem_cons.1 hv with rfl | hv; · rfl))) (by omega) rfl rfl rfl ?_; intro bq; refine ⟨okF, ?_⟩); refine bF .here ?_)
      refine aI ?_
      refine uY (fuel := 5) (listed' := #[true, true, true, true, true, true, true, true, true, false, false, false, false, false]) (k1 := 3) [4] [0] (by kernel_rfl) rfl aD aD aF (by kernel_rfl) (by kernel_rfl) rfl rfl (by kernel_rfl) ?_
      repeat (refine aJ ?_)
      (refine eQ (ys := [(⟨z0, z1, z2⟩ : VE)]) 0 rfl rfl rfl ?_ (by decide) rfl (by omega) (by omega) rfl rfl ?_; (· exact Src.imm aC (.inl (Ok.mk _ _))); intro qa2 ca2; refine ⟨OkD.any (SubP.drop (SubP.drop SubP.refl)) aF, ?_⟩; refine pM (M' := .row qa2 (W ++ [(⟨z0, z1, z2⟩ : VE)]).length ca2 (recs eV (W ++ [(⟨z0, z1, z2⟩ : VE)])) 41 12 :: .row qb P.length cb (recs eP P) 43 8 :: .blk b12 (eP e) 43 :: .blk b11 (recs eR [z0, z1, z2]) 41 :: .blk b6 [.slice qa W.length ca, .slice qb P.length cb] 32 :: M0) (fun _ hw => hw) ?_)
      repeat (refine aJ ?_)
      refine uU (fuel := 4) (listed' := #[true, true, true, true, true, true, true, true, true, false, true, false, false, false]) (k1 := 3) [10] [1] (by kernel_rfl) rfl aD aD aF (by kernel_rfl) (by kernel_rfl) rfl rfl (by kernel_rfl) ?_
      repeat (refine aJ ?_)
      refine uY (fuel := 3) (listed' := #[true, true, true, true, true, true, true, true, true, true, true, false, false, false]) (k1 := 4) [9] [0] (by kernel_rfl) rfl aD aD aF (by kernel_rfl) (by kernel_rfl) rfl rfl (by kernel_rfl) ?_
      repeat (refine aJ ?_)
      (refine eQ (ys := [e]) 1 rfl rfl rfl ?_ (by decide) rfl (by omega) (by omega) rfl rfl ?_; (· exact Src.imm aC (.inl (Ok.mk _ _))); intro qb2 cb2; refine ⟨OkD.any (SubP.drop (SubP.drop SubP.refl)) aF, ?_⟩; refine pM (M' := .row qa2 (W ++ [(⟨z0, z1, z2⟩ : VE)]).length ca2 (recs eV (W ++ [(⟨z0, z1, z2⟩ : VE)])) 41 12 :: .row qb2 (P ++ [e]).length cb2 (recs eP (P ++ [e])) 43 8 :: .blk b12 (eP e) 43 :: .blk b11 (recs eR [z0, z1, z2]) 41 :: .blk b6 [.slice qa W.length ca, .slice qb P.length cb] 32 :: M0) (fun _ hw => hw) ?_)
      repeat (refine aJ ?_)
      refine aBQ [11, 12, 13] [0, 0, 0] rfl aD aD aF (by kernel_rfl) (by kernel_rfl) rfl rfl ?_
      repeat (refine aJ ?_)
      refine aN _ _ _ aO aD aF ⟨qa2, ca2, qb2, cb2, rfl, rfl, rfl⟩
    ·((refine bO (cs := recs eP [e]) ([pv e]) rfl rfl (by intro v hv; repeat (first | exact absurd hv (List.not_mem_nil) | (rcases List.mem_cons.1 hv with rfl | hv; · rfl))) (by omega) rfl rfl rfl ?_; intro bq; refine ⟨okF, ?_⟩); refine bF .here ?_)
     refine aI ?_
     refine uY (fuel := 5) (listed' := #[true, true, true, true, true, true, true, true, true, false, false, false, false, false]) (k1 := 3) [3, 4] [0, 0] (by kernel_rfl) rfl aD aD aF (by kernel_rfl) (by kernel_rfl) rfl rfl (by kernel_rfl) ?_
     repeat (refine aJ ?_)
     ((refine bO (cs := recs eV [(⟨z0, z1, z2⟩ : VE)]) ([.agg (recs eR [z0, z1, z2]).toArray]) rfl rfl (by intro v hv; repeat (first | exact absurd hv (List.not_mem_nil) | (rcases List.mem_cons.1 hv with rfl | hv; · rfl))) (by omega) rfl rfl rfl ?_; intro bv; refine ⟨okF, ?_⟩); refine bF .here ?_)
     repeat (refine aJ ?_)
     (refine eQ (ys := [(⟨z0, z1, z2⟩ : VE)]) 0 rfl rfl rfl ?_ (by decide) rfl (by omega) (by omega) rfl rfl ?_; (· exact Src.imm aC (.inl (Ok.mk _ _))); intro qa2 ca2; refine ⟨OkD.any (SubP.drop (SubP.drop SubP.refl)) aF, ?_⟩; refine pM (M' := .row qa2 (W ++ [(⟨z0, z1, z2⟩ : VE)]).length ca2 (recs eV (W ++ [(⟨z0, z1, z2⟩ : VE)])) 41 12 :: .row qb P.length cb (recs eP P) 43 8 :: .blk b12 (eP e) 43 :: .blk b11 (recs eR [z0, z1, z2]) 41 :: .blk b6 [.slice qa W.length ca, .slice qb P.length cb] 32 :: M0) (fun _ hw => hw) ?_)
     repeat (refine aJ ?_)
     refine uU (fuel := 4) (listed' := #[true, true, true, true, true, true, true, true, true, false, true, false, false, false]) (k1 := 3) [10] [1] (by kernel_rfl) rfl aD aD aF (by kernel_rfl) (by kernel_rfl) rfl rfl (by kernel_rfl) ?_
     repeat (refine aJ ?_)
     refine uY (fuel := 3) (listed' := #[true, true, true, true, true, true, true, true, true, true, true, false, false, false]) (k1 := 4) [9] [0] (by kernel_rfl) rfl aD aD aF (by kernel_rfl) (by kernel_rfl) rfl rfl (by kernel_rfl) ?_
     repeat (refine aJ ?_)
     (refine eQ (ys := [e]) 1 rfl rfl rfl ?_ (by decide) rfl (by omega) (by omega) rfl rfl ?_; (· exact Src.imm aC (.inl (Ok.mk _ _))); intro qb2 cb2; refine ⟨OkD.any (SubP.drop (SubP.drop SubP.refl)) aF, ?_⟩; refine pM (M' := .row qa2 (W ++ [(⟨z0, z1, z2⟩ : VE)]).length ca2 (recs eV (W ++ [(⟨z0, z1, z2⟩ : VE)])) 41 12 :: .row qb2 (P ++ [e]).length cb2 (recs eP (P ++ [e])) 43 8 :: .blk b12 (eP e) 43 :: .blk b11 (recs eR [z0, z1, z2]) 41 :: .blk b6 [.slice qa W.length ca, .slice qb P.length cb] 32 :: M0) (fun _ hw => hw) ?_)
     repeat (refine aJ ?_)
     refine aBQ [11, 12, 13] [0, 0, 0] rfl aD aD aF (by kernel_rfl) (by kernel_rfl) rfl rfl ?_
     repeat (refine aJ ?_)
     refine aN _ _ _ aO aD aF ⟨qa2, ca2, qb2, cb2, rfl, rfl, rfl⟩
   rintro G M I ⟨qa2, ca2, qb2, cb2, rfl, rfl, rfl⟩
   refine fD (φ := zY (W ++ [(⟨z0, z1, z2⟩ : VE)]) 30) ⟨fun X w hw => ⟨fun p hp => by
    rcases List.mem_append.1 hp with hp | hp
    ·exact (hw _ (by exact aC) : AllV W 30 X w).go p hp
    ·rw [List.mem_singleton.1 hp]
     exact ⟨(hw _ (by exact aC) : IsR z0 7 X w).mono (by omega), (hw _ (by exact aC) : IsR z1 7 X w).mono (by omega), (hw _ (by exact aC) : IsR z2 7 X w).mono (by omega)⟩⟩⟩ ?_
   refine fD (φ := cZ e 30) (Hv.imgP (k := 16 * 7 + 8) aC h0 h1 h2 ⟨o1, o2, o3⟩ hz he) ?_
   refine fD (φ := pO (P ++ [e]) 30) ⟨fun X w hw => ⟨fun p hp => by
    rcases List.mem_append.1 hp with hp | hp
    ·exact (hw _ (by exact aC) : AllP P 30 X w).go p hp
    ·rw [List.mem_singleton.1 hp]
     exact hw _ (List.Mem.head _)⟩⟩ ?_
   repeat (refine aJ ?_)
   refine aS (n - (t + 1)) _ _ _ (by first | omega | (simp only [List.length_append, List.length_cons, List.length_nil]; omega)) aO aD aF (⟨t + 1, W ++ [(⟨z0, z1, z2⟩ : VE)], P ++ [e], qa2, ca2, qb2, cb2, by omega, rfl, Img.snoc hi (by rw [hp]; show [z0.q, z1.q, z2.q] = _; rw [hz0, hz1, hz2]; rfl) (by rw [hp]; exact hz) (by rw [hp]; exact he), rfl, rfl, rfl⟩)
 ·have e : t = n := by omega
  subst e
  clear hPr
  have lw := hi.lw
  have lp := hi.lp
  obtain ⟨law1, law2⟩ := hi.law (by omega)
  refine rC (φ := ∀ p ∈ P, p.raw.small) (fun w hw p hp => Mem.pureP (k := 30) ⟨fun X w h => (h _ (by exact aC) : AllP P 30 X w).go p hp⟩ (by omega) hw) (fun hsm => ?_)
  have hcan := fun M0 I0 (h2 : bI qb (recs eP P) ∈ I0) (a2 : pO P 30 ∈ I0) => uG (φ := sN (P.map PE.raw)) (Hv.rawPs (k := 30) (by omega) a2) (wC (X := X) (w0 := w0) (M0 := M0) (I0 := sN (P.map PE.raw) :: I0) (q := qb) (c := cb) (m := (P.map PE.raw).length) (ps := P.map PE.raw) rfl (by rw [List.length_map]; omega) (fun p hp => by
   obtain ⟨x, hx, rfl⟩ := List.mem_map.1 hp
   exact hsm x hx) (List.Mem.tail _ (by rw [aHR]; exact h2)) (Hv.mem (List.Mem.head _)))
  rw [dG (fun p hp => by
   obtain ⟨x, hx, rfl⟩ := List.mem_map.1 hp
   exact x.raw_good), List.length_map, lp] at hcan
  have hD := fun M0 I0 h1 h2 a1 a2 => aHI (X := X) (w0 := w0) (M0 := M0) (I0 := I0) (q1 := qa) (q2 := qb) (c1 := ca) (c2 := cb) (n := t) (K := kb 60 12) (W := W) (P := P) ⟨by omega, by omega⟩ lw lp rfl h1 h2 a1 a2 hcan
  have hK2 : kb 60 12 ≤ 2000000000 := by decide
  generalize kb 60 12 = K at *
  refine yO (fun _ hw => hw.freezeR (a := qa) .here) ?_
  refine yO (fun _ hw => hw.freezeR (a := qb) .here) ?_
  rw [lw, lp]
  repeat (refine aJ ?_)
  (refine aA rfl (hD _ _ aC aC aC aC) rfl rfl ?_; rintro _ _ _ ⟨rfl, hI, hres⟩; refine ⟨okF, ?_⟩)
  rcases hres with ⟨hz, rfl⟩ | ⟨hz, rfl⟩ | ⟨hz, nm, rfl, hnq, hnd, hni⟩
  ·exact absurd hz law1
  ·repeat (refine aJ ?_)
   refine aQ (by first | exact .inl rfl | exact .inr rfl) rfl rfl M0 I0 aD (.of (fun φ hp => hI.mem φ (by repeat (first | exact hp | refine List.mem_cons_of_mem _ ?_)))) ⟨rfl, rfl, congrArg Value.bool (dG rfl)⟩
  ·have hmr : m.rows.length = 3 := hfit.1.1
   repeat (refine aJ ?_)
   refine aKT (M' := M0) (I' := nU nm (2 * K) :: nU m 7 :: I0) aD (Inc.cons hni (Inc.cons (hI.mem _ aC) (.of (fun φ hp => hI.mem φ (by repeat (first | exact hp | refine List.mem_cons_of_mem _ ?_)))))) ?_
   rw [hmr]
   refine fD (φ := bI (m).p (recs eL (m).rows)) (Hv.xsl aC) ?_
   refine kT 37 4 ?_
   refine fD (φ := fE [] 7) Hv.nilR ?_
   refine bG [14, 108, 109] rfl (fun k G M I => ∃ (i : Nat) (es : List RE) (q3 : Option Addr) (d3 : Nat), i ≤ 3 ∧ k = 3 - i ∧ es.length = 4 * i ∧ qs es = (m.rows.take i).flatMap RL.q ∧ G = [(16, .slice q3 es.length d3), (110, .int .i64 i)] ∧ M = .row q3 es.length d3 (recs eR es) 37 4 :: M0 ∧ I = fE es 7 :: bI m.p (recs eL m.rows) :: nU nm (2 * K) :: nU m 7 :: I0) (3) _ _ _ aO aD aF (⟨0, [], none, 0, by omega, rfl, rfl, rfl, rfl, rfl, rfl⟩) ?_
   rintro kk G M I ⟨i, es, q3, d3, hi3, rfl, hel, heq, rfl, rfl, rfl⟩
   by_cases hin : i < 3
   ·have hle := hfit.1.row (i := i) hin
    refine rC (fun w hw => (((hw.imm _ (show nU m 7 ∈ _ by exact aC)).2 : IsX m 7 _ w).row _ (dX (i := (i : Int)) (by omega))).cap) (fun hcp => ?_)
    refine fD (φ := bI (gt m.rows (i : Int)).p (recs eR (gt m.rows (i : Int)).es)) (Hv.xrsl (m := m) (k := 7) aC (by omega)) ?_
    refine fD (φ := iY (gt m.rows (i : Int)) 7) (Hv.xrow aC (by omega)) ?_
    refine fD (φ := fE (gt m.rows (i : Int)).es 7) (Hv.lall aC) ?_
    repeat (refine aJ ?_)
    (refine eQ (enc := eR) (ys := (gt m.rows (i : Int)).es) 0 rfl rfl rfl (Src.imm aC hcp.2) (by decide) rfl (by omega) (by omega) rfl rfl ?_; intro q4 d4; refine ⟨okF, ?_⟩)
    repeat (refine aJ ?_)
    refine bJ (φ := fE (es ++ (gt m.rows (i : Int)).es) 7) ⟨fun X w hw => ⟨fun e he => by
     rcases List.mem_append.1 he with he | he
     ·exact (hw _ (by exact aC) : AllR es 7 X w).go e he
     ·exact (hw _ (List.Mem.head _) : AllR (gt m.rows (i : Int)).es 7 X w).go e he⟩⟩ ?_
    refine aS (3 - (i + 1)) _ _ _ (by first | omega | (simp only [List.length_append, List.length_cons, List.length_nil]; omega)) aO aD aF (⟨i + 1, es ++ (gt m.rows (i : Int)).es, q4, d4, by omega, rfl, by simp; omega, ?_, rfl, rfl, rfl⟩)
    have ht : m.rows.take (i + 1) = m.rows.take i ++ [gt m.rows (i : Int)] := by rw [fH (by omega)]; exact (List.take_append_getElem (by omega)).symm
    rw [ht, List.flatMap_append, ← heq]
    simp [qs]
   obtain rfl : i = 3 := by omega
   have hfl : (⟨q3, d3, es⟩ : RL).q = r0.q ++ (r1.q ++ r2.q) := by
    show qs es = _
    rw [heq, List.take_of_length_le (by omega)]
    have e1 : m.rows.flatMap RL.q = m.q.flatMap id := by
     show _ = (m.rows.map RL.q).flatMap id
     rw [List.flatMap_map]; rfl
    rw [e1, hmq]
    simp [mI]
   have hSc := fun M0 I0 h => aEN (X := X) (w0 := w0) (M0 := M0) (I0 := I0) (x := ⟨q3, d3, es⟩) (K := 7) (by omega) (by show es.length = 12; omega) h
   rw [hfl, ← law2 hz] at hSc
   refine aEL (k := 7) aC ?_
   repeat (refine aJ ?_)
   (refine aA rfl (hSc _ _ aC) rfl rfl ?_; rintro _ _ _ ⟨rfl, sm, rfl, hsq, hsd, rfl⟩; refine ⟨okF, ?_⟩)
   have hS := fun M0 I0 h1 h2 => zK (X := X) (w0 := w0) (M0 := M0) (I0 := I0) (a := nm) (b := sm) (n := 3) (C := 4) (k := 2 * K) (m := 2 * 7) (by omega) (by omega) (by omega) hnd hsd h1 h2
   simp only [dG (show nm.q = sm.q by rw [hnq, hsq])] at hS
   repeat (refine aJ ?_)
   (refine aA rfl (hS _ _ aC aC) rfl rfl ?_; rintro _ _ _ ⟨rfl, rfl, rfl⟩; refine ⟨okF, ?_⟩)
   repeat (refine aJ ?_)
   refine aQ (by first | exact .inl rfl | exact .inr rfl) rfl rfl _ _ aD aF (⟨rfl, rfl, rfl⟩)
end
end Go.Proofs.YtkccjglmnhgabaaGreat
namespace Go.Proofs.YtkccjglmnhgabaaGreat
open Go Go.Fx
open Go.ChangeShapes Go.WideShapes Go.RowKit Go.ChangeAt
section
variable {H : Type} {enc : TypeId × Value → H} {W : World}
theorem i8_of {a : Int} (h : (Lit.int .i8 a).wf = true) : a.natAbs ≤ 2 ^ 7 := by
 simp only [Lit.wf, Bool.and_eq_true, decide_eq_true_eq] at h
 obtain ⟨h2, h3⟩ := h
 rw [show IntKind.i8.max = 127 by decide] at h3
 rw [show IntKind.i8.min = -128 by decide] at h2
 omega
theorem aJU {n : Nat} {cs : List Value} {y : DataW H × List MemPlace} (h : DataW.trod enc Tryz.prog W 0 (fun _ => true) true n 22 cs = some y) : ∃ x : Int, cs = [.int .i8 x] ∧ x.natAbs ≤ 2 ^ 7 := by
 obtain ⟨x, e, hx⟩ := aMI Tryz.underlying22 h
 exact ⟨x, e, i8_of hx⟩
theorem aPS {n : Nat} {cs : List Value} {y : DataW H × List MemPlace} (h : DataW.trod enc Tryz.prog W 0 (fun _ => true) true n 40 cs = some y) : ∃ r : I3, cs = c3 r ∧ r.ok := by
 have hc1 : Tryz.prog.cellsOf 22 = 1 := by kernel_rfl
 have hc3 : Tryz.prog.cellsOf 40 = 3 := by kernel_rfl
 obtain ⟨xs, m, _, rfl, hl, hxl, hx⟩ := DataW.trod_array Tryz.underlying40 h
 rw [hc3] at hl
 have each : ∀ i : Nat, i < 3 → ∃ x : Int, (cs.drop (i * 1)).take 1 = [.int .i8 x] ∧ x.natAbs ≤ 2 ^ 7 := fun i hi => by
  have h1 := hx i hi
  rw [hc1, List.getElem?_eq_getElem (by omega)] at h1
  exact aJU h1
 obtain ⟨p0, e0, r0⟩ := each 0 (by omega)
 obtain ⟨p1, e1, r1⟩ := each 1 (by omega)
 obtain ⟨p2, e2, r2⟩ := each 2 (by omega)
 refine ⟨⟨p0, p1, p2⟩, ?_, r0, r1, r2⟩
 match cs, hl with
 | [a, b, c], _ =>
  have e0 : [a] = [Value.int .i8 p0] := e0
  have e1 : [b] = [Value.int .i8 p1] := e1
  have e2 : [c] = [Value.int .i8 p2] := e2
  rw [(List.cons.inj e0).1, (List.cons.inj e1).1, (List.cons.inj e2).1]
theorem aOV {n : Nat} {cs : List Value} {y : DataW H × List MemPlace} (h : DataW.trod enc Tryz.prog W 0 (fun _ => true) true n 23 cs = some y) : ∃ r : I4, cs = c4 r ∧ r.ok := by
 have hc1 : Tryz.prog.cellsOf 22 = 1 := by kernel_rfl
 have hc4 : Tryz.prog.cellsOf 23 = 4 := by kernel_rfl
 obtain ⟨xs, m, _, rfl, hl, hxl, hx⟩ := DataW.trod_array Tryz.underlying23 h
 rw [hc4] at hl
 have each : ∀ i : Nat, i < 4 → ∃ x : Int, (cs.drop (i * 1)).take 1 = [.int .i8 x] ∧ x.natAbs ≤ 2 ^ 7 := fun i hi => by
  have h1 := hx i hi
  rw [hc1, List.getElem?_eq_getElem (by omega)] at h1
  exact aJU h1
 obtain ⟨p0, e0, r0⟩ := each 0 (by omega)
 obtain ⟨p1, e1, r1⟩ := each 1 (by omega)
 obtain ⟨p2, e2, r2⟩ := each 2 (by omega)
 obtain ⟨p3, e3, r3⟩ := each 3 (by omega)
 refine ⟨⟨p0, p1, p2, p3⟩, ?_, r0, r1, r2, r3⟩
 match cs, hl with
 | [a, b, c, d], _ =>
  have e0 : [a] = [Value.int .i8 p0] := e0
  have e1 : [b] = [Value.int .i8 p1] := e1
  have e2 : [c] = [Value.int .i8 p2] := e2
  have e3 : [d] = [Value.int .i8 p3] := e3
  rw [(List.cons.inj e0).1, (List.cons.inj e1).1, (List.cons.inj e2).1, (List.cons.inj e3).1]
theorem aLK {base : Nat} {v : Value} {d : DataW H} {p : List MemPlace} (hv : Value.okWide Tryz.prog W .any base 24 v) (h : DataW.Trod enc Tryz.prog W 0 (fun _ => true) true 24 v d p) : ∃ r0 r1 r2 : I4, v = .agg (recs c4 [r0, r1, r2]).toArray ∧ r0.ok ∧ r1.ok ∧ r2.ok := by
 simp only [Value.okWide, Tryz.underlying24] at hv
 obtain ⟨cs, rfl, hsz, hrow⟩ := hv
 obtain ⟨fuel, hf⟩ := h
 have hc4 : Tryz.prog.cellsOf 23 = 4 := by kernel_rfl
 have hc12 : Tryz.prog.cellsOf 24 = 12 := by kernel_rfl
 obtain ⟨xs, m, _, _, hl, hxl, hx⟩ := DataW.trod_array (cs := cs.toList) Tryz.underlying24 hf
 rw [hc12] at hl
 have each : ∀ i : Nat, i < 3 → ∃ r : I4, (cs.toList.drop (i * 4)).take 4 = c4 r ∧ r.ok := fun i hi => by
  have h1 := hx i hi
  rw [hc4, List.getElem?_eq_getElem (by omega)] at h1
  exact aOV h1
 obtain ⟨p0, e0, r0⟩ := each 0 (by omega)
 obtain ⟨p1, e1, r1⟩ := each 1 (by omega)
 obtain ⟨p2, e2, r2⟩ := each 2 (by omega)
 refine ⟨p0, p1, p2, ?_, r0, r1, r2⟩
 have e : cs.toList = c4 p0 ++ (c4 p1 ++ c4 p2) := by
  rw [← e0, ← e1, ← e2]
  simp only [Nat.zero_mul, List.drop_zero, Nat.one_mul]
  rw [List.take_of_length_le (l := cs.toList.drop (2 * 4)) (by rw [List.length_drop]; omega)]
  have a1 : (cs.toList.drop 4).take 4 ++ cs.toList.drop (2 * 4) = cs.toList.drop 4 := by
   have := List.take_append_drop 4 (cs.toList.drop 4)
   rwa [List.drop_drop] at this
  rw [a1, List.take_append_drop]
 rw [show cs = cs.toList.toArray by simp, e]; rfl
theorem aLD {base : Nat} {v : Value} {d : DataW H} {p : List MemPlace} (hv : Value.okWide Tryz.prog W .any base 25 v) (h : DataW.Trod enc Tryz.prog W 0 (fun _ => true) true 25 v d p) : ∃ (a : Option Addr) (ps : List I3) (c : Nat), v = .slice a ps.length c ∧ Sl [] W a (recs c3 ps) ∧ (∀ p ∈ ps, p.ok) ∧ (ps.length : Int) ≤ 9223372036854775807 := by
 obtain ⟨a, ms, c, e, s, m, l, _⟩ := aCW (en := c3) (Pm := I3.ok) Tryz.underlying25 (fun r n y _ hy => aPS hy) hv h
 exact ⟨a, ms, c, e, s, m, l⟩
end
section
variable {X : List Nat} {w0 : World} {M0 : List Ent} {I0 : List aZ}
theorem aNU {q : Option Addr} {c n : Nat} {r0 r1 r2 : I4} (hn : n < 6 ∨ 8 < n) (hl : (n : Int) ≤ 9223372036854775807) :
  CD Tryz.prog 3 [.agg (recs c4 [r0, r1, r2]).toArray, .slice q n c] X w0 M0 I0 (fun v M I => M0 = M ∧ I0 = I ∧ v = .bool true) := by
 refine bE Tryz.func3 rfl Tryz.ntmps3 rfl ?_
 refine aL ?_
 refine aM ?_
 (refine aR rfl rfl rfl ?_; intro b2; refine ⟨okF, ?_⟩)
 refine bF (cs := recs c4 [r0, r1, r2]) .here ?_
 repeat (refine aJ ?_)
 (refine aA rfl (zA) rfl rfl ?_; rintro _ _ _ ⟨rfl, rfl, rfl⟩; refine ⟨okF, ?_⟩)
 by_cases h6 : n < 6
 ·repeat (refine aJ ?_)
  refine aQ (by first | exact .inl rfl | exact .inr rfl) rfl rfl _ _ aD aF (⟨rfl, rfl, rfl⟩)
 ·have h8 : 8 < n := by omega
  repeat (refine aJ ?_)
  refine aQ (by first | exact .inl rfl | exact .inr rfl) rfl rfl _ _ aD aF (⟨rfl, rfl, rfl⟩)
theorem LRec {q : Option Addr} {c : Nat} {r0 r1 r2 : I4} {ps : List I3} (h0 : r0.ok) (h1 : r1.ok) (h2 : r2.ok) (hps : ∀ p ∈ ps, p.ok) (hl : (ps.length : Int) ≤ 9223372036854775807) (hq : bI q (recs c3 ps) ∈ I0) :
  CD Tryz.prog 3 [.agg (recs c4 [r0, r1, r2]).toArray, .slice q ps.length c] X w0 M0 I0 (fun v M I => M0 = M ∧ I0 = I ∧ v = .bool true) := by
 by_cases hn : 6 ≤ ps.length ∧ ps.length ≤ 8
 ·exact aNI h0 h1 h2 hps rfl hn hq
 ·exact aNU (by omega) hl
end
end Go.Proofs.YtkccjglmnhgabaaGreat

/- The law TopConsensus, walked. The arguments of the laws of Consensus, opened. The arguments of TopConsensus opened. -/
import Derived.Test.YtmmmfphealhapaaGreatZrbj
import Derived.Test.YtmmmfphealhapaaGreatZraw
import Derived.Test.YtmmmfphealhapaaGreatZrbe
import Derived.Test.YtmmmfphealhapaaGreatZrax
set_option linter.unusedSimpArgs false
set_option linter.unusedVariables false
set_option maxRecDepth 100000
set_option maxHeartbeats 4000000
namespace Go.Proofs.YtmmmfphealhapaaGreat
open Go Go.Fx
theorem IsHZ.mono {h : HZ} {k m : Nat} {X : List Nat} {w : World} (hh : IsHZ h k X w) (hk : k ≤ m) : IsHZ h m X w := ⟨⟨hh.x.x.mono hk, hh.x.y.mono hk, hh.x.z.mono hk⟩, ⟨hh.y.x.mono hk, hh.y.y.mono hk, hh.y.z.mono hk⟩, ⟨hh.z.x.mono hk, hh.z.y.mono hk, hh.z.z.mono hk⟩⟩
theorem Hv.hUp {I : List bA} {h : HZ} {k m : Nat} (hh : eX h k ∈ I) (hk : k ≤ m) : Hv I (eX h m) := ⟨fun X w hw => IsHZ.mono (hw _ hh) hk⟩
abbrev zQ4 : Q4 := ⟨0, 0, 0, 0⟩
def aKH (o : Option (List Int × List Int × Mt)) (M0 : List Ent) (I0 : List bA) (v : Value) (M : List Ent) (I : List bA) : Prop := M0 = M ∧ ∃ (f : BF) (e : Int), v = .tuple #[.agg (zF f).toArray, .int .i64 e] ∧ (o = none → e = 6) ∧ (∀ g, o = some g → e = 0 ∧ f.smp = g.1 ∧ f.inl = g.2.1 ∧ f.m.q = g.2.2 ∧ f.m.dim 3 3) ∧ I = IsBF f :: I0
def aGD (ps : List Q4) (M0 : List Ent) (I0 : List bA) (v : Value) (M : List Ent) (I : List bA) : Prop := M0 = M ∧ ∃ (h : HZ) (e : Int), v = .tuple #[sN h, .int .i64 e] ∧ (colP (l4 ps) ∨ colP (m4 ps) → e = 13) ∧ (¬ colP (l4 ps) → ¬ colP (m4 ps) → e = 0 ∧ RedL (bD h.m) ∧ ∃ g : Int, g ≠ 0 ∧ (bD h.m).map (fun x => x * g) = bD (eD ps)) ∧ I = eX h 772 :: I0
theorem aMS {l : List Q4} {smp : List Int} (h : smp.length = 4) : mD l smp = [gt l (gt smp 0), gt l (gt smp 1), gt l (gt smp 2), gt l (gt smp 3)] := by
 match smp, h with
 | [_, _, _, _], _ => rfl
section
variable {X : List Nat} {w0 : World} {M0 : List Ent} {I0 : List bA}
theorem aLL {tol : Int} {q : Option Addr} {l : List Q4} {n c : Nat} (hl : l.length = n) (hn : n ≤ 12) (hc : pI l = 0) (ht : tolP tol) (hq : aX q (recs kI l) ∈ I0) :
  CD Tryz.prog 9 [.int .i64 3, .slice q n c, .int .i64 tol] X w0 M0 I0 (aKH (kL (vV 3 l) (fun A => gD A l tol) (uM n 4 0)) M0 I0) := by
 refine CD.post (aDU hl hn hc ht hq) (fun v M I w h hw => ?_)
 unfold aHH at h
 unfold aKH
 obtain ⟨rfl, h⟩ := h
 cases hb : kL (vV 3 l) (fun A => gD A l tol) (uM n 4 0) with
 | none =>
  rw [hb] at h
  obtain ⟨rfl, rfl⟩ := h
  exact ⟨M0, IsBF zBF :: I0, ⟨rfl, zBF, 6, rfl, fun _ => rfl, fun g e => (by cases e), rfl⟩, Mem.hv Hv.zBF hw⟩
 | some g =>
  rw [hb] at h
  obtain ⟨f, rfl, h1, h2, h3, h4, h5, rfl⟩ := h
  exact ⟨M0, IsBF f :: I0, ⟨rfl, f, 0, rfl, fun e => (by cases e), fun g' e => (by cases e; exact ⟨rfl, h2, h3, h4, h5⟩), rfl⟩, hw⟩
theorem aDX {ps : List Q4} (hp : ps.length = 4) (hs : ∀ s ∈ ps, s.near) : CD Tryz.prog 10 [.agg (recs kI ps).toArray] X w0 M0 I0 (aGD ps M0 I0) := by
 refine CD.post (aCN hp hs) (fun v M I w h hw => ?_)
 unfold aGU at h
 unfold aGD
 obtain ⟨rfl, h⟩ := h
 by_cases hc : colP (l4 ps) ∨ colP (m4 ps)
 ·rw [if_pos hc] at h
  obtain ⟨rfl, rfl⟩ := h
  exact ⟨M0, eX zH 772 :: I0, ⟨rfl, zH, 13, by rw [aCZ], fun _ => rfl, fun h1 h2 => absurd hc (fun h => h.elim h1 h2), rfl⟩, Mem.hv Hv.zH hw⟩
 ·rw [if_neg hc] at h
  obtain ⟨r, g, rfl, h1, h2, h3, rfl⟩ := h
  exact ⟨M0, eX r 772 :: I0, ⟨rfl, r, 0, rfl, fun h => absurd h hc, fun _ _ => ⟨rfl, h3, g, h1, h2⟩, rfl⟩, hw⟩
theorem LTopC {tol r0 r1 r2 r3 : Int} {q : Option Addr} {l : List Q4} {n c : Nat} (hl : l.length = n) (hn : (n : Int) ≤ 9223372036854775807) (hr : ∀ x ∈ [r0, r1, r2, r3], 0 ≤ x ∧ x ≤ 255) (hq : aX q (recs kI l) ∈ I0) :
  CD Tryz.prog 3 [.slice q n c, .int .i64 tol, .agg #[.int .u8 r0, .int .u8 r1, .int .u8 r2, .int .u8 r3]] X w0 M0 I0 (fun v M I => M0 = M ∧ I0 = I ∧ v = .bool true) := by
 have hA := fun M0 I0 => aKC (X := X) (w0 := w0) (M0 := M0) (I0 := I0)
 have hCk := fun M0 I0 h => aAB (X := X) (w0 := w0) (M0 := M0) (I0 := I0) (q := q) (l := l) (n := n) (c := c) hl hn h
 refine bX (φ := aX q (recs kI l)) (Hv.mem hq) ?_
 refine oU Tryz.func3 rfl Tryz.ntmps3 rfl ?_
 refine aH ?_
 refine aI ?_
 (refine aK rfl rfl rfl ?_; intro b5; refine ⟨okF, ?_⟩)
 refine aO .here ?_
 repeat (refine aJ ?_)
 (refine aA rfl (hA _ _) rfl rfl ?_; rintro _ _ _ ⟨rfl, rfl, rfl⟩; refine ⟨okF, ?_⟩)
 by_cases a4 : (n : Int) < 4
 ·repeat (refine aJ ?_)
  refine jZ (M' := M0) (I' := I0) aG aF ?_
  refine aN (by first | exact .inl rfl | exact .inr rfl) rfl rfl _ _ aG aF (⟨rfl, rfl, rfl⟩)
 by_cases a6 : 6 < (n : Int)
 ·repeat (refine aJ ?_)
  refine jZ (M' := M0) (I' := I0) aG aF ?_
  refine aN (by first | exact .inl rfl | exact .inr rfl) rfl rfl _ _ aG aF (⟨rfl, rfl, rfl⟩)
 repeat (refine aJ ?_)
 (refine aA rfl (hCk _ _ aB) rfl rfl ?_; rintro _ _ _ ⟨rfl, rfl, rfl⟩; refine ⟨okF, ?_⟩)
 by_cases hc0 : pI l = 0
 case neg =>
  repeat (refine aJ ?_)
  refine jZ (M' := M0) (I' := I0) aG aF ?_
  refine aN (by first | exact .inl rfl | exact .inr rfl) rfl rfl _ _ aG aF (⟨rfl, rfl, rfl⟩)
 by_cases t0 : tol < 0
 ·repeat (refine aJ ?_)
  refine jZ (M' := M0) (I' := I0) aG aF ?_
  refine aN (by first | exact .inl rfl | exact .inr rfl) rfl rfl _ _ aG aF (⟨rfl, rfl, rfl⟩)
 by_cases t1 : 1073741824 < tol
 ·repeat (refine aJ ?_)
  refine jZ (M' := M0) (I' := I0) aG aF ?_
  refine aN (by first | exact .inl rfl | exact .inr rfl) rfl rfl _ _ aG aF (⟨rfl, rfl, rfl⟩)
 obtain ⟨_, hs⟩ := aBL hc0
 repeat (refine aJ ?_)
 refine yV (M' := M0) (I' := aX (some ⟨b5, 0, none⟩) [.int .u8 r0, .int .u8 r1, .int .u8 r2, .int .u8 r3] :: aX q (recs kI l) :: I0) aG aF ?_
 refine bG [0, 1, 5, 45, 46] rfl (fun k G M I => ∃ i : Nat, i ≤ n ∧ k = n - i ∧ G = [(47, .int .i64 i)] ∧ M0 = M ∧ I = aX (some ⟨b5, 0, none⟩) [.int .u8 r0, .int .u8 r1, .int .u8 r2, .int .u8 r3] :: aX q (recs kI l) :: I0) (n) _ _ _ aS aG aF (⟨0, by omega, rfl, rfl, rfl, rfl⟩) ?_
 rintro kk G M I ⟨i, hi, rfl, rfl, rfl, rfl⟩
 by_cases hin : i < n
 ·obtain ⟨s, hss⟩ : ∃ s, gt l (i : Int) = s := ⟨_, rfl⟩
  have hsn : s.near := hs s (by rw [← hss]; exact jO ⟨by omega, by omega⟩)
  obtain ⟨zs, hzs⟩ : ∃ zs, [s.x, s.y, s.u, s.v] = zs := ⟨_, rfl⟩
  have hzl : zs.length = 4 := by rw [← hzs]; rfl
  have hzb : ∀ z ∈ zs, -32768 ≤ z ∧ z ≤ 32768 := fun z hz => by
   rw [← hzs] at hz
   simp only [List.mem_cons, List.not_mem_nil, or_false] at hz
   obtain ⟨h1, h2, h3, h4⟩ := hsn
   rcases hz with rfl | rfl | rfl | rfl <;> assumption
  repeat (refine aJ ?_)
  rw [hss]
  (refine aC rfl rfl ?_; intro b7; refine ⟨okF, ?_⟩)
  repeat (refine aJ ?_)
  (refine dM (cs := recs eZ [s.x, s.y, s.u, s.v]) ([.int .i64 s.x, .int .i64 s.y, .int .i64 s.u, .int .i64 s.v]) rfl rfl (by intro v hv; repeat (first | exact absurd hv (List.not_mem_nil) | (rcases List.mem_cons.1 hv with rfl | hv; · rfl))) (by omega) rfl rfl rfl ?_; intro b8; refine ⟨okF, ?_⟩)
  rw [hzs]
  repeat (refine aJ ?_)
  refine bG [0, 1, 5, 45, 46, 47, 63, 64] rfl (fun k G M I => ∃ j : Nat, j ≤ 4 ∧ k = 4 - j ∧ G = [(65, .int .i64 j)] ∧ M = .blk b8 (recs eZ zs) 3 :: M0 ∧ I = aX (some ⟨b5, 0, none⟩) [.int .u8 r0, .int .u8 r1, .int .u8 r2, .int .u8 r3] :: aX q (recs kI l) :: I0) (4) _ _ _ aS aG aF (⟨0, by omega, rfl, rfl, rfl, rfl⟩) ?_
  rintro kk G M I ⟨j, hj, rfl, rfl, rfl, rfl⟩
  by_cases hj4 : j < 4
  ·obtain ⟨z, hz⟩ : ∃ z, gt zs (j : Int) = z := ⟨_, rfl⟩
   obtain ⟨z1, z2⟩ := hzb z (by rw [← hz]; exact jO ⟨by omega, by omega⟩)
   repeat (refine aJ ?_)
   rw [hz]
   repeat (refine aJ ?_)
   refine aQ (4 - (j + 1)) _ _ _ (by first | omega | (simp only [List.length_append, List.length_cons, List.length_nil]; omega)) aS aG aF (⟨j + 1, by omega, rfl, rfl, rfl, rfl⟩)
  ·repeat (refine aJ ?_)
   refine aQ (n - (i + 1)) _ _ _ (by first | omega | (simp only [List.length_append, List.length_cons, List.length_nil]; omega)) aS aG aF (⟨i + 1, by omega, rfl, rfl, rfl, rfl⟩)
 have hB := fun M0 I0 h => aLL (X := X) (w0 := w0) (M0 := M0) (I0 := I0) (tol := tol) (q := q) (l := l) (n := n) (c := c) hl (by omega) hc0 ⟨by omega, by omega⟩ h
 obtain ⟨o, ho⟩ : ∃ o, kL (vV 3 l) (fun A => gD A l tol) (uM n 4 0) = o := ⟨_, rfl⟩
 rw [ho] at hB
 unfold aKH at hB
 repeat (refine aJ ?_)
 (refine aA rfl (hB _ _ aB) rfl rfl ?_; rintro _ _ _ ⟨rfl, f, e, rfl, he6, heg, rfl⟩; refine ⟨okF, ?_⟩)
 repeat (refine aJ ?_)
 (refine aC rfl rfl ?_; intro b11; refine ⟨okF, ?_⟩)
 repeat (refine aJ ?_)
 (refine aC rfl rfl ?_; intro b13; refine ⟨okF, ?_⟩)
 repeat (refine aJ ?_)
 refine yV (M' := .blk b13 (recs kI [zQ4, zQ4, zQ4, zQ4]) 39 :: .blk b11 (zF f) 36 :: M0) (I' := IsBF f :: aX q (recs kI l) :: I0) aG aF ?_
 refine bG [0, 1, 11, 12, 13, 83] rfl (fun k G M I => ∃ (i : Nat) (qs : List Q4), i ≤ 4 ∧ k = 4 - i ∧ qs.length = 4 ∧ (∀ j : Nat, j < i → gt qs (j : Int) = gt l (Int.tmod (gt [r0, r1, r2, r3] (j : Int)) n)) ∧ G = [(84, .int .i64 i)] ∧ M = .blk b13 (recs kI qs) 39 :: .blk b11 (zF f) 36 :: M0 ∧ I = IsBF f :: aX q (recs kI l) :: I0) (4) _ _ _ aS aG aF (⟨0, [zQ4, zQ4, zQ4, zQ4], by omega, rfl, rfl, fun j hj => absurd hj (by omega), rfl, rfl, rfl⟩) ?_
 rintro kk G M I ⟨i, qs, hi, rfl, hql, hqg, rfl, rfl, rfl⟩
 have hidx : ∀ r : Int, 0 ≤ r → 0 ≤ Int.tmod r n ∧ Int.tmod r n < (n : Int) := fun r h => ⟨Int.tmod_nonneg _ h, Int.tmod_lt_of_pos _ (by omega)⟩
 by_cases hi4 : i < 4
 ·obtain ⟨r, hrr⟩ : ∃ r, gt [r0, r1, r2, r3] (i : Int) = r := ⟨_, rfl⟩
  obtain ⟨b1, b2⟩ := hr r (by rw [← hrr]; exact jO ⟨by omega, by show (i : Int) < ((4 : Nat) : Int); omega⟩)
  obtain ⟨d1, d2⟩ := hidx r b1
  have hv : ([.int .u8 r0, .int .u8 r1, .int .u8 r2, .int .u8 r3] : List Value)[(i : Int).toNat]? = some (.int .u8 r) := by
   rw [← hrr]
   obtain rfl | rfl | rfl | rfl : i = 0 ∨ i = 1 ∨ i = 2 ∨ i = 3 := by omega
   all_goals rfl
  repeat (refine aJ ?_)
  (refine aD rfl (fun _ => aCE (cs := [.int .u8 r0, .int .u8 r1, .int .u8 r2, .int .u8 r3]) rfl rfl ⟨by omega, by show (i : Int) < ((4 : Nat) : Int); omega⟩ rfl hv) rfl rfl ?_)
  repeat (refine yXh ?_)
  refine gF (vs := kI (gt l (Int.tmod r n))) rfl rfl rfl (Ones.one _) lN (StAts.o0 (enc := kI) (sz := 4) (ms := qs) (i := (i : Int)) (gt l (Int.tmod r n)) ⟨by omega, by omega⟩ rfl) rfl rfl ⟨okF, ?_⟩
  repeat (refine aJ ?_)
  refine aQ (4 - (i + 1)) _ _ _ (by first | omega | (simp only [List.length_append, List.length_cons, List.length_nil]; omega)) aS aG aF (⟨i + 1, st qs (i : Int) (gt l (Int.tmod r n)), by omega, rfl, by rw [nT]; exact hql, fun t ht => by
   rw [pK (by omega) (by omega)]
   by_cases e2 : t = i
   ·subst e2
    rw [if_pos rfl, hrr]
   ·rw [if_neg e2]
    exact hqg t (by omega), rfl, rfl, rfl⟩)
 obtain rfl : i = 4 := by omega
 have hqe := os4 hql
 have q0 := hqg 0 (by omega)
 have q1 := hqg 1 (by omega)
 have q2 := hqg 2 (by omega)
 have q3 := hqg 3 (by omega)
 rw [show gt qs 0 = gt l (Int.tmod r0 n) from q0, show gt qs 1 = gt l (Int.tmod r1 n) from q1, show gt qs 2 = gt l (Int.tmod r2 n) from q2, show gt qs 3 = gt l (Int.tmod r3 n) from q3] at hqe
 clear hqg q0 q1 q2 q3
 subst hqe
 have i0 := hidx r0 (hr r0 (by simp)).1
 have i1 := hidx r1 (hr r1 (by simp)).1
 have i2 := hidx r2 (hr r2 (by simp)).1
 have i3 := hidx r3 (hr r3 (by simp)).1
 have hnr : ∀ s ∈ [gt l (Int.tmod r0 n), gt l (Int.tmod r1 n), gt l (Int.tmod r2 n), gt l (Int.tmod r3 n)], s.near := fun s hm => by
  simp only [List.mem_cons, List.not_mem_nil, or_false] at hm
  rcases hm with rfl | rfl | rfl | rfl
  ·exact hs _ (jO (by omega))
  ·exact hs _ (jO (by omega))
  ·exact hs _ (jO (by omega))
  ·exact hs _ (jO (by omega))
 have hF := fun M0 I0 => aDX (X := X) (w0 := w0) (M0 := M0) (I0 := I0) (ps := [gt l (Int.tmod r0 n), gt l (Int.tmod r1 n), gt l (Int.tmod r2 n), gt l (Int.tmod r3 n)]) rfl hnr
 have hriv := fun h1 h2 => aIP (l := l) (n := n) (tol := tol) hl i0 i1 i2 i3 h1 h2
 rw [ho] at hriv
 unfold aGD at hF
 obtain ⟨ps, hps⟩ : ∃ ps, [gt l (Int.tmod r0 n), gt l (Int.tmod r1 n), gt l (Int.tmod r2 n), gt l (Int.tmod r3 n)] = ps := ⟨_, rfl⟩
 rw [hps] at hF hriv
 repeat (refine aJ ?_)
 rw [hps]
 (refine aA rfl (hF _ _) rfl rfl ?_; rintro _ _ _ ⟨rfl, h, d, rfl, hd13, hd0, rfl⟩; refine ⟨okF, ?_⟩)
 repeat (refine aJ ?_)
 (refine aC rfl rfl ?_; intro b16; refine ⟨okF, ?_⟩)
 repeat (refine aJ ?_)
 cases o with
 | none =>
  obtain rfl := he6 rfl
  have hcol : colP (l4 ps) ∨ colP (m4 ps) := Classical.byContradiction (fun hn => by
   obtain ⟨g, hg, _⟩ := hriv (fun h => hn (.inl h)) (fun h => hn (.inr h))
   cases hg)
  obtain rfl := hd13 hcol
  repeat (refine aJ ?_)
  refine jZ (M' := M0) (I' := I0) aG aF ?_
  refine aN (by first | exact .inl rfl | exact .inr rfl) rfl rfl _ _ aG aF (⟨rfl, rfl, congrArg Value.bool (by first | rfl | exact fA (by decide))⟩)
 | some g =>
  obtain ⟨rfl, hfs, hfi, hfq, hfd⟩ := heg g rfl
  obtain ⟨hsm, n1, n2, hgm, hgi⟩ := aEJ ho
  rw [hgm] at hfq
  rw [← hfs] at hsm n1 n2 hfq hgi
  rw [← hfi] at hgi
  have hfl : f.smp.length = 4 := hsm.len
  repeat (refine aJ ?_)
  refine nC (fun G M I => G = [(0, .slice q n c), (1, .int .i64 tol), (11, .pointer (some ⟨b11, 0, none⟩)), (13, .pointer (some ⟨b13, 0, none⟩)), (124, .bool false)] ∧ M = .blk b13 (recs kI ps) 39 :: .blk b11 (zF f) 36 :: M0 ∧ I = IsBF f :: aX q (recs kI l) :: I0) ?_ ?_
  ·by_cases hcol : colP (l4 ps) ∨ colP (m4 ps)
   ·obtain rfl := hd13 hcol
    (repeat refine aH ?_); refine bB (.blk b16 (nQ h) 44 :: .blk b11 (zF f) 36 :: M0) (IsBF f :: aX q (recs kI l) :: I0) [0, 1, 2, 3, 4, 5, 8, 9, 10, 6, 7, 11, 12] [1, 1, 0, 0, 0, 0, 1, 1, 1, 0, 0, 0, 0] aG aF mixed (by kernel_rfl) ?_
    repeat (refine aJ ?_)
    refine bN _ _ _ aS aG aF ⟨rfl, rfl, rfl⟩
   ·have c1 : ¬ colP (l4 ps) := fun h => hcol (.inl h)
    have c2 : ¬ colP (m4 ps) := fun h => hcol (.inr h)
    obtain ⟨rfl, hrd, x, hx0, hxm⟩ := hd0 c1 c2
    obtain ⟨g', hg', hle⟩ := hriv c1 c2
    obtain rfl := Option.some.inj hg'
    rw [← hfi, ← aDL hx0 hxm] at hle
    have hI := fun M0 I0 h1 h2 => aGZ (X := X) (w0 := w0) (M0 := M0) (I0 := I0) (h := h) (u := 772) (q := q) (l := l) (n := n) (c := c) (tol := tol) (by omega) (by omega) ⟨hrd, aGR hxm c1 c2⟩ hl (by omega) hs ⟨by omega, by omega⟩ h1 h2
    obtain ⟨zs, hzs⟩ : ∃ zs, gD (xP (dB h.m)) l tol = zs := ⟨_, rfl⟩
    rw [hzs] at hI hle
    have hle2 : (zs.length : Int) ≤ (f.inl.length : Int) := by omega
    (repeat refine aH ?_); refine bB (.blk b16 (nQ h) 44 :: .blk b11 (zF f) 36 :: M0) (eX h 772 :: IsBF f :: aX q (recs kI l) :: I0) [0, 1, 2, 3, 4, 5, 8, 9, 10, 6, 7, 11, 12] [1, 1, 0, 0, 0, 0, 1, 1, 1, 0, 0, 0, 0] aG aF mixed (by kernel_rfl) ?_
    repeat (refine aJ ?_)
    (refine aA rfl (hI _ _ aB aB) rfl rfl ?_; rintro _ _ _ ⟨rfl, qi, ci, rfl, rfl⟩; refine ⟨okF, ?_⟩)
    repeat (refine aJ ?_)
    rw [dF (show ¬ (f.inl.length : Int) < (zs.length : Int) by omega)]
    refine bN _ _ _ aS aG aF ⟨rfl, rfl, rfl⟩
  rintro G M I ⟨rfl, rfl, rfl⟩
  have hpl : ps.length = 4 := by rw [← hps]; rfl
  refine dV (φ := aX f.ps (recs eZ f.smp)) (Hv.bfS aB) ?_
  repeat (refine aJ ?_)
  refine yV (M' := .blk b13 (recs kI ps) 39 :: .blk b11 (zF f) 36 :: M0) (I' := aX f.ps (recs eZ f.smp) :: IsBF f :: aX q (recs kI l) :: I0) aG aF ?_
  refine bG [0, 1, 11, 13, 130, 131] rfl (fun k G M I => ∃ (i : Nat) (qs : List Q4), i ≤ 4 ∧ k = 4 - i ∧ qs.length = 4 ∧ (∀ j : Nat, j < i → gt qs (j : Int) = gt l (gt f.smp (j : Int))) ∧ G = [(132, .int .i64 i)] ∧ M = .blk b13 (recs kI qs) 39 :: .blk b11 (zF f) 36 :: M0 ∧ I = aX f.ps (recs eZ f.smp) :: IsBF f :: aX q (recs kI l) :: I0) (4) _ _ _ aS aG aF (⟨0, ps, by omega, rfl, hpl, fun j hj => absurd hj (by omega), rfl, rfl, rfl⟩) ?_
  rintro kk G M I ⟨i, qs, hi, rfl, hql, hqg, rfl, rfl, rfl⟩
  by_cases hi4 : i < 4
  ·obtain ⟨r, hrr⟩ : ∃ r, gt f.smp (i : Int) = r := ⟨_, rfl⟩
   have hrb := hsm.lt r (by rw [← hrr]; exact jO ⟨by omega, by omega⟩)
   repeat (refine aJ ?_)
   rw [hrr]
   repeat (refine yXh ?_)
   refine gF (vs := kI (gt l r)) rfl rfl rfl (Ones.one _) lN (StAts.o0 (enc := kI) (sz := 4) (ms := qs) (i := (i : Int)) (gt l r) ⟨by omega, by omega⟩ rfl) rfl rfl ⟨okF, ?_⟩
   repeat (refine aJ ?_)
   refine aQ (4 - (i + 1)) _ _ _ (by first | omega | (simp only [List.length_append, List.length_cons, List.length_nil]; omega)) aS aG aF (⟨i + 1, st qs (i : Int) (gt l r), by omega, rfl, by rw [nT]; exact hql, fun t ht => by
    rw [pK (by omega) (by omega)]
    by_cases e2 : t = i
    ·subst e2
     rw [if_pos rfl, hrr]
    ·rw [if_neg e2]
     exact hqg t (by omega), rfl, rfl, rfl⟩)
  obtain rfl : i = 4 := by omega
  have hqe : qs = mD l f.smp := by
   rw [os4 hql, aMS hfl, show gt qs 0 = _ from hqg 0 (by omega), show gt qs 1 = _ from hqg 1 (by omega), show gt qs 2 = _ from hqg 2 (by omega), show gt qs 3 = _ from hqg 3 (by omega)]
   rfl
  clear hqg
  subst hqe
  have hnr2 := yK hs (smp := f.smp) (fun x hx => by have := hsm.lt x hx; omega)
  have hF2 := fun M0 I0 => aDX (X := X) (w0 := w0) (M0 := M0) (I0 := I0) (ps := mD l f.smp) hql hnr2
  unfold aGD at hF2
  have hOf := fun M0 I0 h => aKL (X := X) (w0 := w0) (M0 := M0) (I0 := I0) (m := f.m) (ku := kX) (by decide) hfd (by rw [hfq]; exact aDW n1 n2) h
  rw [aMS hfl]
  repeat (refine aJ ?_)
  rw [← aMS (l := l) hfl]
  (refine aA rfl (hF2 _ _) rfl rfl ?_; rintro _ _ _ ⟨rfl, h2, d2, rfl, _, hd2, rfl⟩; refine ⟨okF, ?_⟩)
  obtain ⟨rfl, hrd2, y, hy0, hym⟩ := hd2 n1 n2
  repeat (refine aJ ?_)
  (refine aC rfl rfl ?_; intro b20; refine ⟨okF, ?_⟩)
  repeat (refine aJ ?_)
  refine tO (φ := pM f.m kX) (Hv.bfM aB) ?_
  (refine aA rfl (hOf _ _ aB) rfl rfl ?_; rintro _ _ _ ⟨rfl, h3, c3, e3, rfl, hc3, he3, hw3, hrd3, rfl⟩; refine ⟨okF, ?_⟩)
  rw [hfq] at hw3
  have hfl2 := aJY n1 n2 rfl hc3 he3 hw3 hrd3 hrd2 hy0 hym
  have hSm := fun M0 I0 h1 h2' => aKE (X := X) (w0 := w0) (M0 := M0) (I0 := I0) (g := h2) (h := h3) (u := 63 + 10 * kX) (by decide) hfl2.symm h1 h2'
  have hI2 := fun M0 I0 h1 h2' => aGZ (X := X) (w0 := w0) (M0 := M0) (I0 := I0) (h := h2) (u := 772) (q := q) (l := l) (n := n) (c := c) (tol := tol) (by omega) (by omega) ⟨hrd2, aGR hym n1 n2⟩ hl (by omega) hs ⟨by omega, by omega⟩ h1 h2'
  have hlen : (gD (xP (dB h2.m)) l tol).length ≤ 6 := by unfold gD; have := qN (m := xP (dB h2.m)) (l := l) (tol := tol) (n := l.length); omega
  have hieq : gD (xP (dB h2.m)) l tol = f.inl := by rw [aDL hy0 hym, hgi]
  repeat (refine aJ ?_)
  (refine aC rfl rfl ?_; intro b21; refine ⟨okF, ?_⟩)
  repeat (refine aJ ?_)
  refine tO (φ := eX h2 (63 + 10 * kX)) (Hv.hUp (k := 772) aB (by decide)) ?_
  (refine aA rfl (hSm _ _ aB aB) rfl rfl ?_; rintro _ _ _ ⟨rfl, rfl, rfl⟩; refine ⟨okF, ?_⟩)
  repeat (refine aJ ?_)
  refine dV (φ := aX f.pi (recs eZ f.inl)) (Hv.bfI aB) ?_
  (repeat refine aH ?_); refine bB (.blk b20 (nQ h2) 44 :: .blk b11 (zF f) 36 :: M0) (aX f.pi (recs eZ f.inl) :: eX h2 772 :: aX q (recs kI l) :: I0) [0, 1, 2, 4, 5, 3, 6, 7] [1, 1, 1, 2, 1, 0, 0, 0] aG aF mixed (by kernel_rfl) ?_
  repeat (refine aJ ?_)
  (refine aA rfl (hI2 _ _ aB aB) rfl rfl ?_; rintro _ _ _ ⟨rfl, qi, ci, rfl, rfl⟩; refine ⟨okF, ?_⟩)
  (refine aA rfl (aFP (a := gD (xP (dB h2.m)) l tol) (b := f.inl) (by omega) aB aB) rfl rfl ?_; rintro _ _ _ ⟨rfl, rfl, rfl⟩; refine ⟨okF, ?_⟩)
  rw [fA hieq]
  repeat (refine aJ ?_)
  refine jZ (M' := M0) (I' := I0) aG aF ?_
  refine aN (by first | exact .inl rfl | exact .inr rfl) rfl rfl _ _ aG aF (⟨rfl, rfl, rfl⟩)
end
end Go.Proofs.YtmmmfphealhapaaGreat
namespace Go.Proofs.YtmmmfphealhapaaGreat
open Go Go.Fx
open Go.ChangeShapes Go.WideShapes Go.RowKit Go.ChangeAt
section
variable {H : Type} {enc : TypeId × Value → H} {W : World}
theorem aKK {n : Nat} {cs : List Value} {y : DataW H × List MemPlace} (hl : cs.length = 2) (h : DataW.trod enc Tryz.prog W 0 (fun _ => true) true n 28 cs = some y) : ∃ a b : Int, cs = [.int .i64 a, .int .i64 b] := by
 obtain ⟨xs, rfl, hx, _⟩ := aMD (k := .i64) (m := 2) Tryz.underlying28 (by kernel_rfl) (by intro f hf; simp at hf; rcases hf with rfl | rfl <;> exact Tryz.underlying3) hl h
 obtain ⟨a, b, rfl⟩ := aPQ hx
 exact ⟨a, b, rfl⟩
theorem aPW {n : Nat} {cs : List Value} {y : DataW H × List MemPlace} (h : DataW.trod enc Tryz.prog W 0 (fun _ => true) true n 30 cs = some y) : ∃ s : Q4, cs = kI s ∧ True := by
 obtain ⟨hl, n', z0, z1, h0, h1⟩ := aKW (t0 := 28) (t1 := 28) (m := 2) (k := 2) Tryz.underlying30 (by rfl) (by kernel_rfl) (by kernel_rfl) (by kernel_rfl) h
 obtain ⟨a, b, e0⟩ := aKK (by rw [List.length_take]; omega) h0
 obtain ⟨c, d, e1⟩ := aKK (by rw [List.length_drop]; omega) h1
 refine ⟨⟨a, b, c, d⟩, ?_, trivial⟩
 rw [← List.take_append_drop 2 cs, e0, e1]
 rfl
theorem aMF {base : Nat} {v : Value} {d : DataW H} {p : List MemPlace} (hv : Value.okWide Tryz.prog W .any base 22 v) (h : DataW.Trod enc Tryz.prog W 0 (fun _ => true) true 22 v d p) : ∃ (a : Option Addr) (ps : List Q4) (c : Nat), v = .slice a ps.length c ∧ Sl [] W a (recs kI ps) ∧ (ps.length : Int) ≤ 9223372036854775807 := by
 obtain ⟨a, ms, c, e, s, m, l, k, _⟩ := aCR (en := kI) (Pm := fun _ => True) Tryz.underlying22 (fun r n y _ hy => aPW hy) hv h
 exact ⟨a, ms, c, e, s, l⟩
end
end Go.Proofs.YtmmmfphealhapaaGreat
namespace Go.Proofs.YtmmmfphealhapaaGreat
open Go Go.Fx
theorem aPF {a : Int} (h : (Lit.int .u8 a).wf = true) : 0 ≤ a ∧ a ≤ 255 := by
 simp only [Lit.wf, Bool.and_eq_true, decide_eq_true_eq] at h
 obtain ⟨h2, h3⟩ := h
 rw [show IntKind.u8.max = 255 by decide] at h3
 rw [show IntKind.u8.min = 0 by decide] at h2
 omega
theorem aNA {xs : List Int} (h : xs.length = 4) (hw : ∀ x ∈ xs, (Lit.int .u8 x).wf = true) : ∃ a b c d : Int, xs = [a, b, c, d] ∧ ∀ x ∈ [a, b, c, d], 0 ≤ x ∧ x ≤ 255 := by
 match xs, h with
 | [a, b, c, d], _ => exact ⟨a, b, c, d, rfl, fun x hx => aPF (hw x hx)⟩
end Go.Proofs.YtmmmfphealhapaaGreat

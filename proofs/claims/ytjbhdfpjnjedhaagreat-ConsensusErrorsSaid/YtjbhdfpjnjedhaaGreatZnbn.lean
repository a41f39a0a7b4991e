/- Chapter 29's law: missed, inliers. Chapter 29's law: missed. consensus.Inliers and consensus.Error at every matrix of at most four short rows. -/
import Derived.Test.YtjbhdfpjnjedhaaGreatZnbm
import Derived.Test.YtjbhdfpjnjedhaaGreatZnan
set_option linter.unusedSimpArgs false
set_option linter.unusedVariables false
set_option maxRecDepth 100000
set_option maxHeartbeats 4000000
namespace Go.Proofs.YtjbhdfpjnjedhaaGreat
open Go Go.Fx
def aIL (m : Mt) (s : Q4) (k : Nat) (M0 : List Ent) (I0 : List bA) (v : Value) (M : List Ent) (I : List bA) : Prop :=
 M0 = M ∧ if mV m 2 s = 0 then I0 = I ∧ v = .tuple #[zR, .bool false] else ∃ e : RE, v = .tuple #[rv e, .bool true] ∧ e.q = aBR m s ∧ I = dD e k :: I0
section
variable {X : List Nat} {w0 : World} {M0 M1 M2 : List Ent} {I0 : List bA}
theorem aQX {a b : RE} {x y : Int} {k : Nat} (hk : k ≤ 10000000000) (hx : -32768 ≤ x ∧ x ≤ 32768) (hy : -32768 ≤ y ∧ y ≤ 32768) (ha : dD a k ∈ I0) (hb : dD b k ∈ I0) :
  CD Tryz.prog 76 [.agg #[.int .i64 x, .int .i64 y], .agg (eR a ++ eR b).toArray] X w0 M0 I0 (RQ ((a.q - (x : Rat)) * (a.q - (x : Rat)) + (b.q - (y : Rat)) * (b.q - (y : Rat))) (4 * k + 65) M0 I0) := by
 have hWx := fun M0 I0 => rW (X := X) (w0 := w0) (M0 := M0) (I0 := I0) (x := x) (by omega) (k := 15) (by rw [e15]; omega)
 have hWy := fun M0 I0 => rW (X := X) (w0 := w0) (M0 := M0) (I0 := I0) (x := y) (by omega) (k := 15) (by rw [e15]; omega)
 have hS := fun (a b : RE) M0 I0 h1 h2 => aFX (X := X) (w0 := w0) (M0 := M0) (I0 := I0) (a := a) (b := b) (k := k) (m := 15) (by omega) h1 h2
 have hM := fun (a : RE) M0 I0 h1 => rJ (X := X) (w0 := w0) (M0 := M0) (I0 := I0) (a := a) (b := a) (k := k + 15 + 1) (m := k + 15 + 1) (by omega) h1 h1
 have hA := fun (a b : RE) M0 I0 h1 h2 => tF (X := X) (w0 := w0) (M0 := M0) (I0 := I0) (a := a) (b := b) (k := k + 15 + 1 + (k + 15 + 1)) (m := k + 15 + 1 + (k + 15 + 1)) (by omega) h1 h2
 refine cK (φ := dD a k) (Hv.mem ha) (cK (φ := dD b k) (Hv.mem (List.mem_cons_of_mem _ hb)) ?_)
 refine aY Tryz.func76 rfl Tryz.ntmps76 rfl ?_
 refine aH ?_
 refine aJ ?_
 (refine aQ rfl rfl rfl ?_; intro b2; refine ⟨okF, ?_⟩)
 refine bE .here ?_
 (refine aQ rfl rfl rfl ?_; intro b3; refine ⟨okF, ?_⟩)
 refine bE (cs := recs eR [a, b]) .here ?_
 (refine aG rfl rfl ?_; intro b4; refine ⟨okF, ?_⟩)
 repeat (refine aK ?_)
 refine oP (fun G M I => ∃ (b5 : Nat) (ex : RE), ex.q = a.q - (x : Rat) ∧ G = [(2, .pointer (some ⟨b2, 0, none⟩)), (3, .pointer (some ⟨b3, 0, none⟩)), (4, .pointer (some ⟨b4, 0, none⟩)), (5, .pointer (some ⟨b5, 0, none⟩))] ∧ M = .blk b5 (eR ex) 50 :: .blk b4 zRg 50 :: M0 ∧ I = dD ex (k + 15 + 1) :: aP (some ⟨b3, 0, none⟩) (recs eR [a, b]) :: aP (some ⟨b2, 0, none⟩) [.int .i64 x, .int .i64 y] :: dD b k :: dD a k :: I0) ?_ ?_
 ·((repeat refine aH ?_); refine oQ (M0) (aP (some ⟨b3, 0, none⟩) (recs eR [a, b]) :: aP (some ⟨b2, 0, none⟩) [.int .i64 x, .int .i64 y] :: dD b k :: dD a k :: I0) mixed ?_)
  refine kI (fuel := 4) (listed' := #[true, true, true, true, false, false, false, false]) [0, 1, 2, 3] [3, 2, 3, 2] aD aC (by kernel_rfl) (by kernel_rfl) rfl rfl ?_
  repeat (refine aK ?_)
  refine dI (fuel := 3) (i := 4) (j := 6) (by kernel_rfl) ?_ ?_
  ·(refine aA rfl (hWx _ _) rfl rfl ?_; rintro _ _ _ ⟨rfl, g0, rfl, hg0, rfl⟩; refine ⟨okF, ?_⟩)
   refine bP ?_
   repeat (refine aK ?_)
   refine dI (fuel := 2) (i := 5) (j := 6) (by kernel_rfl) ?_ ?_
   ·(refine aA rfl (hS a g0 _ _ (Hv.mem aB) (Hv.mem aB)) rfl rfl ?_; rintro _ _ _ ⟨rfl, g1, rfl, hg1, rfl⟩; refine ⟨okF, ?_⟩)
    refine bP ?_
    refine bQ [6, 7] [0, 0] aD aC (by kernel_rfl) (by kernel_rfl) rfl rfl ?_
    repeat (refine aK ?_)
    (refine aG rfl rfl ?_; intro b5; refine ⟨okF, ?_⟩)
    repeat (refine aK ?_)
    (refine fJ _ _ _ aM aD aC ⟨b5, g1, by rw [hg1, hg0], rfl, rfl, rfl⟩)
   ·(refine aG rfl rfl ?_; intro b5; refine ⟨okF, ?_⟩)
    refine bP ?_
    refine bQ [5, 7] [0, 0] aD aC (by kernel_rfl) (by kernel_rfl) rfl rfl ?_
    repeat (refine aK ?_)
    (refine aA rfl (hS a g0 _ _ (Hv.mem aB) (Hv.mem aB)) rfl rfl ?_; rintro _ _ _ ⟨rfl, g1, rfl, hg1, rfl⟩; refine ⟨okF, ?_⟩)
    repeat (refine aK ?_)
    (refine fJ _ _ _ aM aD aC ⟨b5, g1, by rw [hg1, hg0], rfl, rfl, rfl⟩)
  ·(refine aG rfl rfl ?_; intro b5; refine ⟨okF, ?_⟩)
   refine bP ?_
   refine bQ [4, 5, 7] [0, 0, 0] aD aC (by kernel_rfl) (by kernel_rfl) rfl rfl ?_
   repeat (refine aK ?_)
   (refine aA rfl (hWx _ _) rfl rfl ?_; rintro _ _ _ ⟨rfl, g0, rfl, hg0, rfl⟩; refine ⟨okF, ?_⟩)
   repeat (refine aK ?_)
   (refine aA rfl (hS a g0 _ _ (Hv.mem aB) (Hv.mem aB)) rfl rfl ?_; rintro _ _ _ ⟨rfl, g1, rfl, hg1, rfl⟩; refine ⟨okF, ?_⟩)
   repeat (refine aK ?_)
   (refine fJ _ _ _ aM aD aC ⟨b5, g1, by rw [hg1, hg0], rfl, rfl, rfl⟩)
 rintro G M I ⟨b5, ex, hex, rfl, rfl, rfl⟩
 refine aH ?_
 refine oP (fun G M I => ∃ (b6 : Nat) (ey : RE), ey.q = b.q - (y : Rat) ∧ G = [(4, .pointer (some ⟨b4, 0, none⟩)), (5, .pointer (some ⟨b5, 0, none⟩)), (6, .pointer (some ⟨b6, 0, none⟩))] ∧ M = .blk b6 (eR ey) 50 :: .blk b5 (eR ex) 50 :: .blk b4 zRg 50 :: M0 ∧ I = dD ey (k + 15 + 1) :: dD ex (k + 15 + 1) :: I0) ?_ ?_
 ·((repeat refine aH ?_); refine oQ (M0) (dD ex (k + 15 + 1) :: aP (some ⟨b3, 0, none⟩) (recs eR [a, b]) :: aP (some ⟨b2, 0, none⟩) [.int .i64 x, .int .i64 y] :: dD b k :: dD a k :: I0) mixed ?_)
  refine kI (fuel := 4) (listed' := #[true, true, true, true, false, false, false, false]) [0, 1, 2, 3] [3, 2, 3, 2] aD aC (by kernel_rfl) (by kernel_rfl) rfl rfl ?_
  repeat (refine aK ?_)
  refine dI (fuel := 3) (i := 4) (j := 6) (by kernel_rfl) ?_ ?_
  ·(refine aA rfl (hWy _ _) rfl rfl ?_; rintro _ _ _ ⟨rfl, g0, rfl, hg0, rfl⟩; refine ⟨okF, ?_⟩)
   refine bP ?_
   repeat (refine aK ?_)
   refine dI (fuel := 2) (i := 5) (j := 6) (by kernel_rfl) ?_ ?_
   ·(refine aA rfl (hS b g0 _ _ (Hv.mem aB) (Hv.mem aB)) rfl rfl ?_; rintro _ _ _ ⟨rfl, g1, rfl, hg1, rfl⟩; refine ⟨okF, ?_⟩)
    refine bP ?_
    refine bQ [6, 7] [0, 0] aD aC (by kernel_rfl) (by kernel_rfl) rfl rfl ?_
    repeat (refine aK ?_)
    (refine aG rfl rfl ?_; intro b6; refine ⟨okF, ?_⟩)
    repeat (refine aK ?_)
    (refine fJ _ _ _ aM aD aC ⟨b6, g1, by rw [hg1, hg0], rfl, rfl, rfl⟩)
   ·(refine aG rfl rfl ?_; intro b6; refine ⟨okF, ?_⟩)
    refine bP ?_
    refine bQ [5, 7] [0, 0] aD aC (by kernel_rfl) (by kernel_rfl) rfl rfl ?_
    repeat (refine aK ?_)
    (refine aA rfl (hS b g0 _ _ (Hv.mem aB) (Hv.mem aB)) rfl rfl ?_; rintro _ _ _ ⟨rfl, g1, rfl, hg1, rfl⟩; refine ⟨okF, ?_⟩)
    repeat (refine aK ?_)
    (refine fJ _ _ _ aM aD aC ⟨b6, g1, by rw [hg1, hg0], rfl, rfl, rfl⟩)
  ·(refine aG rfl rfl ?_; intro b6; refine ⟨okF, ?_⟩)
   refine bP ?_
   refine bQ [4, 5, 7] [0, 0, 0] aD aC (by kernel_rfl) (by kernel_rfl) rfl rfl ?_
   repeat (refine aK ?_)
   (refine aA rfl (hWy _ _) rfl rfl ?_; rintro _ _ _ ⟨rfl, g0, rfl, hg0, rfl⟩; refine ⟨okF, ?_⟩)
   repeat (refine aK ?_)
   (refine aA rfl (hS b g0 _ _ (Hv.mem aB) (Hv.mem aB)) rfl rfl ?_; rintro _ _ _ ⟨rfl, g1, rfl, hg1, rfl⟩; refine ⟨okF, ?_⟩)
   repeat (refine aK ?_)
   (refine fJ _ _ _ aM aD aC ⟨b6, g1, by rw [hg1, hg0], rfl, rfl, rfl⟩)
 rintro G M I ⟨b6, ey, hey, rfl, rfl, rfl⟩
 (repeat refine aH ?_); refine dJ (.blk b6 (eR ey) 50 :: .blk b5 (eR ex) 50 :: M0) (dD ey (k + 15 + 1) :: dD ex (k + 15 + 1) :: I0) [0, 1, 3, 4, 2, 5, 6, 7] [2, 2, 2, 2, 0, 0, 0, 0] aD aC mixed (by kernel_rfl) ?_
 repeat (refine aK ?_)
 (refine aA rfl (hM ex _ _ (Hv.mem aB)) rfl rfl ?_; rintro _ _ _ ⟨rfl, f0, rfl, hf0, rfl⟩; refine ⟨okF, ?_⟩)
 (refine aA rfl (hM ey _ _ (Hv.mem aB)) rfl rfl ?_; rintro _ _ _ ⟨rfl, f1, rfl, hf1, rfl⟩; refine ⟨okF, ?_⟩)
 (refine aA rfl (hA f0 f1 _ _ (Hv.mem aB) (Hv.mem aB)) rfl rfl ?_; rintro _ _ _ ⟨rfl, f2, rfl, hf2, rfl⟩; refine ⟨okF, ?_⟩)
 repeat (refine aK ?_)
 have e9 : k + 15 + 1 + (k + 15 + 1) + (k + 15 + 1 + (k + 15 + 1)) + 1 = 4 * k + 65 := by omega
 rw [e9]
 refine bD (cs := eR f2) (.inl rfl) rfl rfl aB rfl M0 (dD f2 (4 * k + 65) :: I0) aD aC ⟨rfl, f2, rfl, by rw [hf2, hf1, hf0, hex, hey], rfl⟩
end
end Go.Proofs.YtjbhdfpjnjedhaaGreat
namespace Go.Proofs.YtjbhdfpjnjedhaaGreat
open Go Go.Fx
section
variable {X : List Nat} {w0 : World} {M0 M1 M2 : List Ent} {I0 : List bA}
theorem Hv.three {I : List bA} {a b c : RE} {k : Nat} (h1 : dD a k ∈ I) (h2 : dD b k ∈ I) (h3 : dD c k ∈ I) : Hv I (dB [a, b, c] k) := ⟨fun X w hw => ⟨fun x hx => by
 simp only [List.mem_cons, List.not_mem_nil, or_false] at hx
 rcases hx with rfl | rfl | rfl
 ·exact hw _ h1
 ·exact hw _ h2
 ·exact hw _ h3⟩⟩
theorem app3 {m : Mt} {x : List Rat} {i : Nat} (s : Q4) (hx : x = [(s.x : Rat), (s.y : Rat), ((1 : Int) : Rat)]) : sm 3 (fun t => at2 m i t * x.getD t 0) = mV m i s := by
 subst hx
 show ((0 + at2 m i 0 * (s.x : Rat)) + at2 m i 1 * (s.y : Rat)) + at2 m i 2 * ((1 : Int) : Rat) = _
 unfold mV
 grind
theorem aFV {m : MX} {s : Q4} {u : Nat} (hu : u ≤ 500000000) (dm : m.dim 3 3) (hn : s.near) (hm : iL m u ∈ I0) :
  CD Tryz.prog 32 [mv m, vQ4 s] X w0 M0 I0 (aIL m.q s (24 * u + 449) M0 I0) := by
 obtain ⟨n1, n2, n3, n4⟩ := hn
 have hWx := fun M0 I0 => uO (X := X) (w0 := w0) (M0 := M0) (I0 := I0) (x := s.x) (by omega) (k := 15) (by rw [e15]; omega)
 have hWy := fun M0 I0 => uO (X := X) (w0 := w0) (M0 := M0) (I0 := I0) (x := s.y) (by omega) (k := 15) (by rw [e15]; omega)
 have hW1 := fun M0 I0 => uO (X := X) (w0 := w0) (M0 := M0) (I0 := I0) (x := 1) (by omega) (k := 15) (by decide)
 have hAp := fun (x : RL) (hl : x.es.length = 3) M0 I0 h1 h2 => aLV (X := X) (w0 := w0) (M0 := M0) (I0 := I0) (a := m) (x := x) (R := 3) (C := 3) (k0 := u) (m := 15) (by omega) (by omega) (by omega) (by omega) dm hl h1 h2
 have hO := fun (a b : RE) (h0 : b.q ≠ 0) M0 I0 h1 h2 => aGG (X := X) (w0 := w0) (M0 := M0) (I0 := I0) (a := a) (b := b) (k := 3 * (u + 15 + 1)) (m := 3 * (u + 15 + 1)) (by omega) h0 h1 h2
 have hDi := fun (a b : RE) M0 I0 h1 h2 => aQX (X := X) (w0 := w0) (M0 := M0) (I0 := I0) (a := a) (b := b) (x := s.u) (y := s.v) (k := 3 * (u + 15 + 1) + 3 * (u + 15 + 1)) (by omega) ⟨by omega, by omega⟩ ⟨by omega, by omega⟩ h1 h2
 refine cK (φ := iL m u) (Hv.mem hm) ?_
 refine aY Tryz.func32 rfl Tryz.ntmps32 rfl ?_
 refine aH ?_
 refine aJ ?_
 (refine aQ rfl rfl rfl ?_; intro b3; refine ⟨okF, ?_⟩)
 refine bE .here ?_
 (refine aG rfl rfl ?_; intro b4; refine ⟨okF, ?_⟩)
 repeat (refine aK ?_)
 (repeat refine aH ?_); refine dJ (.blk b4 zRg 50 :: M0) (aP (some ⟨b3, 0, none⟩) (kG s) :: iL m u :: I0) [0, 1, 2, 3, 5, 6, 7, 4, 8, 9, 10, 11, 12] [4, 5, 5, 4, 5, 5, 4, 0, 0, 0, 0, 0, 0] aD aC mixed (by kernel_rfl) ?_
 repeat (refine aK ?_)
 (refine aA rfl (hWx _ _) rfl rfl ?_; rintro _ _ _ ⟨rfl, gx, rfl, hgx, rfl⟩; refine ⟨okF, ?_⟩)
 (refine aA rfl (hWy _ _) rfl rfl ?_; rintro _ _ _ ⟨rfl, gy, rfl, hgy, rfl⟩; refine ⟨okF, ?_⟩)
 (refine aA rfl (hW1 _ _) rfl rfl ?_; rintro _ _ _ ⟨rfl, g1, rfl, hg1, rfl⟩; refine ⟨okF, ?_⟩)
 repeat (refine aK ?_)
 (refine bB (cs := recs eR [gx, gy, g1]) ([rv gx, rv gy, rv g1]) rfl rfl (by intro v hv; repeat (first | exact absurd hv (List.not_mem_nil) | (rcases List.mem_cons.1 hv with rfl | hv; · rfl))) (by omega) rfl rfl rfl ?_; intro bl; refine ⟨okF, ?_⟩)
 refine iO (φ := dB [gx, gy, g1] 15) (Hv.three aB aB aB) ?_
 refine aQZ (k := 15) aB ?_
 (refine aA rfl (hAp ⟨some ⟨bl, 0, none⟩, 3, [gx, gy, g1]⟩ rfl _ _ aB aB) rfl rfl ?_; rintro _ _ _ ⟨rfl, r, rfl, hr, rfl⟩; refine ⟨okF, ?_⟩)
 repeat (refine aK ?_)
 have hrl : r.es.length = 3 := by
  have h : r.q.length = 3 := by rw [hr]; simp
  rwa [show r.q.length = r.es.length from List.length_map _] at h
 have hrw : ∀ i : Nat, i < 3 → (gt r.es (i : Int)).q = mV m.q i s := fun i hi => by
  rw [← mH (by omega)]
  show r.q.getD i 0 = _
  rw [hr]
  rw [show ((List.range 3).map (fun i => sm 3 (fun t => at2 m.q i t * (RL.q ⟨some ⟨bl, 0, none⟩, 3, [gx, gy, g1]⟩).getD t 0))).getD i 0 = sm 3 (fun t => at2 m.q i t * (RL.q ⟨some ⟨bl, 0, none⟩, 3, [gx, gy, g1]⟩).getD t 0) by simp [List.getD, hi]]
  exact app3 s (by show [gx.q, gy.q, g1.q] = _; rw [hgx, hgy, hg1])
 have hq0 : (gt r.es 0).q = mV m.q 0 s := hrw 0 (by omega)
 have hq1 : (gt r.es 1).q = mV m.q 1 s := hrw 1 (by omega)
 have hq2 : (gt r.es 2).q = mV m.q 2 s := hrw 2 (by omega)
 clear hrw hr
 refine iO (φ := aP r.p (recs eR r.es)) (Hv.lsl (k := (3 * (u + 15 + 1))) aB) ?_
 repeat (refine aK ?_)
 (refine aA rfl (qX (e := gt r.es 2) (k := (3 * (u + 15 + 1))) (by omega) (Hv.lel (r := r) (k := (3 * (u + 15 + 1))) aB ⟨by omega, by omega⟩)) rfl rfl ?_; rintro _ _ _ ⟨rfl, rfl, rfl⟩; refine ⟨okF, ?_⟩)
 by_cases h0 : mV m.q 2 s = 0
 ·have hs0 : (gt r.es 2).q.num.sign = 0 := aFR.2 (hq2.trans h0)
  rw [hs0]
  repeat (refine aK ?_)
  (refine aF rfl (fun _ => aV (pvs := ([]).zipIdx.map (fun p => (p.2, p.1))) (cells := zRg) rfl rfl) rfl rfl ?_)
  repeat (refine aK ?_)
  refine gW (M' := .blk b4 zRg 50 :: M0) (I' := I0) aD aC ?_
  refine eO (rs := [.cell 4 50, .tmp 5]) (vs := [zR, .bool false]) (.inl rfl) rfl (.cellN (cs := zRg) inferInstance rfl aB rfl (.tmp rfl .nil)) rfl M0 I0 aD aC ⟨rfl, by rw [if_pos h0]; exact ⟨rfl, rfl⟩⟩
 ·have hc0 : (gt r.es 2).q ≠ 0 := by rw [hq2]; exact h0
  have hs0 : ¬ (gt r.es 2).q.num.sign = 0 := fun e => hc0 (aFR.1 e)
  repeat (refine aK ?_)
  refine oP (fun G M I => ∃ (b7 : Nat) (ex : RE), ex.q = mV m.q 0 s / mV m.q 2 s ∧ G = [(3, .pointer (some ⟨b3, 0, none⟩)), (4, .pointer (some ⟨b4, 0, none⟩)), (6, lv r), (7, .pointer (some ⟨b7, 0, none⟩))] ∧ M = .blk b7 (eR ex) 50 :: .blk b4 zRg 50 :: M0 ∧ I = dD ex (3 * (u + 15 + 1) + 3 * (u + 15 + 1)) :: aP r.p (recs eR r.es) :: mF r (3 * (u + 15 + 1)) :: aP (some ⟨b3, 0, none⟩) (kG s) :: I0) ?_ ?_
  ·((repeat refine aH ?_); refine oQ (M0) (aP r.p (recs eR r.es) :: mF r (3 * (u + 15 + 1)) :: aP (some ⟨b3, 0, none⟩) (kG s) :: I0) mixed ?_)
   refine kI (fuel := 7) (listed' := #[true, true, true, true, true, true, false, false, false, false, false, false, false]) [0, 1, 2, 3, 4, 5] [2, 2, 1, 2, 2, 1] aD aC (by kernel_rfl) (by kernel_rfl) rfl rfl ?_
   repeat (refine aK ?_)
   refine dI (fuel := 6) (i := 6) (j := 10) (by kernel_rfl) ?_ ?_
   ·(refine aA rfl (hO (gt r.es 0) (gt r.es 2) hc0 _ _ (Hv.lel (r := r) (k := (3 * (u + 15 + 1))) aB ⟨by omega, by omega⟩) (Hv.lel (r := r) (k := (3 * (u + 15 + 1))) aB ⟨by omega, by omega⟩)) rfl rfl ?_; rintro _ _ _ ⟨rfl, g1, rfl, hg1, rfl⟩; refine ⟨okF, ?_⟩)
    refine bP ?_
    refine bQ [7, 8, 9, 10, 11, 12] [1, 1, 2, 0, 0, 0] aD aC (by kernel_rfl) (by kernel_rfl) rfl rfl ?_
    repeat (refine aK ?_)
    (refine aG rfl rfl ?_; intro b7; refine ⟨okF, ?_⟩)
    repeat (refine aK ?_)
    (refine fJ _ _ _ aM aD aC ⟨b7, g1, by rw [hg1, hq0, hq2], rfl, rfl, rfl⟩)
   ·(refine aG rfl rfl ?_; intro b7; refine ⟨okF, ?_⟩)
    refine bP ?_
    refine bQ [6, 7, 8, 9, 11, 12] [0, 0, 0, 1, 0, 0] aD aC (by kernel_rfl) (by kernel_rfl) rfl rfl ?_
    repeat (refine aK ?_)
    (refine aA rfl (hO (gt r.es 0) (gt r.es 2) hc0 _ _ (Hv.lel (r := r) (k := (3 * (u + 15 + 1))) aB ⟨by omega, by omega⟩) (Hv.lel (r := r) (k := (3 * (u + 15 + 1))) aB ⟨by omega, by omega⟩)) rfl rfl ?_; rintro _ _ _ ⟨rfl, g1, rfl, hg1, rfl⟩; refine ⟨okF, ?_⟩)
    repeat (refine aK ?_)
    (refine fJ _ _ _ aM aD aC ⟨b7, g1, by rw [hg1, hq0, hq2], rfl, rfl, rfl⟩)
  rintro G M I ⟨b7, ex, hex, rfl, rfl, rfl⟩
  refine aH ?_
  refine oP (fun G M I => ∃ (b9 : Nat) (ey : RE), ey.q = mV m.q 1 s / mV m.q 2 s ∧ G = [(3, .pointer (some ⟨b3, 0, none⟩)), (4, .pointer (some ⟨b4, 0, none⟩)), (7, .pointer (some ⟨b7, 0, none⟩)), (9, .pointer (some ⟨b9, 0, none⟩))] ∧ M = .blk b9 (eR ey) 50 :: .blk b7 (eR ex) 50 :: .blk b4 zRg 50 :: M0 ∧ I = dD ey (3 * (u + 15 + 1) + 3 * (u + 15 + 1)) :: dD ex (3 * (u + 15 + 1) + 3 * (u + 15 + 1)) :: aP (some ⟨b3, 0, none⟩) (kG s) :: I0) ?_ ?_
  ·((repeat refine aH ?_); refine oQ (M0) (dD ex (3 * (u + 15 + 1) + 3 * (u + 15 + 1)) :: aP r.p (recs eR r.es) :: mF r (3 * (u + 15 + 1)) :: aP (some ⟨b3, 0, none⟩) (kG s) :: I0) mixed ?_)
   refine kI (fuel := 7) (listed' := #[true, true, true, true, true, true, false, false, false, false, false, false, false]) [0, 1, 2, 3, 4, 5] [2, 2, 1, 2, 2, 1] aD aC (by kernel_rfl) (by kernel_rfl) rfl rfl ?_
   repeat (refine aK ?_)
   refine dI (fuel := 6) (i := 6) (j := 10) (by kernel_rfl) ?_ ?_
   ·(refine aA rfl (hO (gt r.es 1) (gt r.es 2) hc0 _ _ (Hv.lel (r := r) (k := (3 * (u + 15 + 1))) aB ⟨by omega, by omega⟩) (Hv.lel (r := r) (k := (3 * (u + 15 + 1))) aB ⟨by omega, by omega⟩)) rfl rfl ?_; rintro _ _ _ ⟨rfl, g1, rfl, hg1, rfl⟩; refine ⟨okF, ?_⟩)
    refine bP ?_
    refine bQ [7, 8, 9, 10, 11, 12] [1, 1, 2, 0, 0, 0] aD aC (by kernel_rfl) (by kernel_rfl) rfl rfl ?_
    repeat (refine aK ?_)
    (refine aG rfl rfl ?_; intro b9; refine ⟨okF, ?_⟩)
    repeat (refine aK ?_)
    (refine fJ _ _ _ aM aD aC ⟨b9, g1, by rw [hg1, hq1, hq2], rfl, rfl, rfl⟩)
   ·(refine aG rfl rfl ?_; intro b9; refine ⟨okF, ?_⟩)
    refine bP ?_
    refine bQ [6, 7, 8, 9, 11, 12] [0, 0, 0, 1, 0, 0] aD aC (by kernel_rfl) (by kernel_rfl) rfl rfl ?_
    repeat (refine aK ?_)
    (refine aA rfl (hO (gt r.es 1) (gt r.es 2) hc0 _ _ (Hv.lel (r := r) (k := (3 * (u + 15 + 1))) aB ⟨by omega, by omega⟩) (Hv.lel (r := r) (k := (3 * (u + 15 + 1))) aB ⟨by omega, by omega⟩)) rfl rfl ?_; rintro _ _ _ ⟨rfl, g1, rfl, hg1, rfl⟩; refine ⟨okF, ?_⟩)
    repeat (refine aK ?_)
    (refine fJ _ _ _ aM aD aC ⟨b9, g1, by rw [hg1, hq1, hq2], rfl, rfl, rfl⟩)
  rintro G M I ⟨b9, ey, hey, rfl, rfl, rfl⟩
  repeat (refine aK ?_)
  (refine aF rfl (fun _ => nW (vals := [rv ex, rv ey]) (cells := recs eR [ex, ey]) rfl ?hpl rfl ?hz) rfl rfl ?_; (case hpl => repeat (first | exact True.intro | refine ⟨rfl, ?_⟩)); (case hz => rfl))
  repeat (refine aK ?_)
  (refine aA rfl (hDi ex ey _ _ aB aB) rfl rfl ?_; rintro _ _ _ ⟨rfl, f, rfl, hf, rfl⟩; refine ⟨okF, ?_⟩)
  repeat (refine aK ?_)
  have e9 : 4 * (3 * (u + 15 + 1) + 3 * (u + 15 + 1)) + 65 = 24 * u + 449 := by omega
  rw [e9]
  refine eO (rs := [.cell 4 50, .tmp 5]) (vs := [rv f, .bool true]) (.inl rfl) rfl (.cellN (cs := eR f) inferInstance rfl aB rfl (.tmp rfl .nil)) rfl M0 (dD f (24 * u + 449) :: I0) aD aC ⟨rfl, by rw [if_neg h0]; exact ⟨f, rfl, by rw [hf, hex, hey]; rfl, rfl⟩⟩
theorem pF {m : MX} {s : Q4} (dm : m.dim 3 3) (hn : s.near) (hm : iL m 30 ∈ I0) :
  CD Tryz.prog 32 [mv m, vQ4 s] X w0 M0 I0 (aIL m.q s 1169 M0 I0) := aFV (u := 30) (by omega) dm hn hm
theorem aSX {m : MX} {q : Option Addr} {l : List Q4} {n c : Nat} {tol : Int} (dm : m.dim 3 3) (hl : l.length = n) (hn : n ≤ 64) (hs : ∀ s ∈ l, s.near) (ht : 0 ≤ tol ∧ tol ≤ 1073741824) (hm : iL m 30 ∈ I0) (hq : aP q (recs kG l) ∈ I0) :
  CD Tryz.prog 29 [mv m, .slice q n c, .int .i64 tol] X w0 M0 I0 (fun v M I => M0 = M ∧ ∃ (q' : Option Addr) (c' : Nat), v = .slice q' (jJ m.q l tol).length c' ∧ I = aP q' (recs eZ (jJ m.q l tol)) :: I0) := by
 have hWt := fun M0 I0 => uO (X := X) (w0 := w0) (M0 := M0) (I0 := I0) (x := tol) (by omega) (k := 30) (by have : 2 ^ 30 = 1073741824 := rfl; omega)
 refine cK (φ := iL m 30) (Hv.mem hm) (cK (φ := aP q (recs kG l)) (Hv.mem (List.mem_cons_of_mem _ hq)) ?_)
 refine jT Tryz.func29 rfl Tryz.ntmps29 rfl ?_
 repeat (refine aK ?_)
 refine nG 3 1 ?_
 refine aS [0, 2, 12, 13] rfl (fun k G M I => ∃ (i : Nat) (zs : List Int) (qe : Option Addr) (ce : Nat), i ≤ n ∧ k = n - i ∧ zs = aCB m.q l tol i ∧ G = [(7, .slice qe zs.length ce), (14, .int .i64 i)] ∧ M = .row qe zs.length ce (recs eZ zs) 3 1 :: M0 ∧ I = aP q (recs kG l) :: iL m 30 :: I0) (n) _ _ _ aM aD aC (⟨0, [], none, 0, by omega, rfl, rfl, rfl, rfl, rfl⟩) ?_
 rintro kk G M I ⟨i, zs, qe, ce, hi, rfl, hzs, rfl, rfl, rfl⟩
 have hzl : zs.length ≤ i := by rw [hzs]; exact qV
 by_cases hin : i < n
 ·have hmem := dP (ms := l) (i := (i : Int)) (by omega)
  obtain ⟨s, hss⟩ : ∃ s, gt l (i : Int) = s := ⟨_, rfl⟩
  rw [hss] at hmem
  have hMs := fun M0 I0 h => pF (X := X) (w0 := w0) (M0 := M0) (I0 := I0) (m := m) (s := s) dm (hs s hmem) h
  unfold aIL at hMs
  have hst : aCB m.q l tol (i + 1) = if okQ m.q tol s then zs ++ [(i : Int)] else zs := by show (if okQ m.q tol (gt l (i : Int)) then _ else _) = _; rw [hss, hzs]
  repeat (refine aK ?_)
  rw [hss]
  (refine aG rfl rfl ?_; intro b9; refine ⟨okF, ?_⟩)
  repeat (refine aK ?_)
  by_cases h0 : mV m.q 2 s = 0
  ·simp only [if_pos h0] at hMs
   rw [if_neg (show ¬ okQ m.q tol s from fun h => h.1 h0)] at hst
   (refine aA rfl (hMs _ _ aB) rfl rfl ?_; rintro _ _ _ ⟨rfl, rfl, rfl⟩; refine ⟨okF, ?_⟩)
   repeat (refine aK ?_)
   (refine aG rfl rfl ?_; intro b10; refine ⟨okF, ?_⟩)
   repeat (refine aK ?_)
   (repeat refine aH ?_); refine dV [0, 1, 2, 3, 4, 5, 6, 7] [2, 0, 1, 1, 0, 0, 0, 0] mixed (by kernel_rfl) ?_
   repeat (refine aK ?_)
   refine aL (n - (i + 1)) _ _ _ (by first | omega | (simp only [List.length_append, List.length_cons, List.length_nil]; omega)) aM aD aC (⟨i + 1, zs, qe, ce, by omega, rfl, hst.symm, rfl, rfl, rfl⟩)
  ·simp only [if_neg h0] at hMs
   (refine aA rfl (hMs _ _ aB) rfl rfl ?_; rintro _ _ _ ⟨rfl, e, rfl, he, rfl⟩; refine ⟨okF, ?_⟩)
   repeat (refine aK ?_)
   (refine aG rfl rfl ?_; intro b10; refine ⟨okF, ?_⟩)
   repeat (refine aK ?_)
   refine wD (M' := .blk b10 (eR e) 50 :: .row qe zs.length ce (recs eZ zs) 3 1 :: M0) (I' := dD e 1169 :: aP q (recs kG l) :: iL m 30 :: I0) aD aC ?_
   (repeat refine aH ?_); refine dJ (.blk b10 (eR e) 50 :: M0) (dD e 1169 :: I0) [0, 1, 2, 3, 4, 5, 6, 7] [2, 0, 1, 1, 0, 0, 0, 0] aD aC mixed (by kernel_rfl) ?_
   repeat (refine aK ?_)
   (refine aA rfl (hWt _ _) rfl rfl ?_; rintro _ _ _ ⟨rfl, et, rfl, het, rfl⟩; refine ⟨okF, ?_⟩)
   (refine aA rfl (wE (a := e) (b := et) (k := 1169) (m := 30) (by omega) (Hv.mem aB) (Hv.mem aB)) rfl rfl ?_; rintro _ _ _ ⟨rfl, rfl, rfl⟩; refine ⟨okF, ?_⟩)
   have hcp : yQ e.q et.q ≤ 0 ↔ aBR m.q s ≤ (tol : Rat) := by rw [aJB, he, het]
   by_cases h1 : aBR m.q s ≤ (tol : Rat)
   ·rw [if_pos (show okQ m.q tol s from ⟨h0, h1⟩)] at hst
    have h2 := hcp.2 h1
    repeat (refine aK ?_)
    (refine bB (cs := recs eZ [(i : Int)]) ([.int .i64 (i : Int)]) rfl rfl (by intro v hv; repeat (first | exact absurd hv (List.not_mem_nil) | (rcases List.mem_cons.1 hv with rfl | hv; · rfl))) (by omega) rfl rfl rfl ?_; intro b; refine ⟨okF, ?_⟩)
    (refine dK (ys := [(i : Int)]) 2 rfl rfl rfl ?_ (by decide) rfl (by omega) (by omega) rfl rfl ?_; (· first | exact Src.blk aB | exact Src.row aB | exact Src.imm aB (by first | assumption | exact .inl (Ok.mk _ _))); intro q2 c3; refine ⟨okF, ?_⟩)
    repeat (refine aK ?_)
    refine aL (n - (i + 1)) _ _ _ (by first | omega | (simp only [List.length_append, List.length_cons, List.length_nil]; omega)) aM aD aC (⟨i + 1, zs ++ [(i : Int)], q2, c3, by omega, rfl, hst.symm, rfl, rfl, rfl⟩)
   ·rw [if_neg (show ¬ okQ m.q tol s from fun h => h1 h.2)] at hst
    have h2 : ¬ yQ e.q et.q ≤ 0 := fun h => h1 (hcp.1 h)
    repeat (refine aK ?_)
    refine aL (n - (i + 1)) _ _ _ (by first | omega | (simp only [List.length_append, List.length_cons, List.length_nil]; omega)) aM aD aC (⟨i + 1, zs, qe, ce, by omega, rfl, hst.symm, rfl, rfl, rfl⟩)
 ·obtain rfl : i = n := by omega
  have hz : zs = jJ m.q l tol := by rw [hzs]; unfold jJ; rw [hl]
  subst hz
  repeat (refine aK ?_)
  refine vL .here ?_
  refine aI (by first | exact .inl rfl | exact .inr rfl) rfl rfl _ _ aD aC (⟨rfl, qe, ce, rfl, rfl⟩)
end
end Go.Proofs.YtjbhdfpjnjedhaaGreat
namespace Go.Proofs.YtjbhdfpjnjedhaaGreat
open Go Go.Fx
section
variable {X : List Nat} {w0 : World} {M0 M1 M2 : List Ent} {I0 : List bA}
theorem zJ {A : MX} (fA : A.fit 3 3) (hd : dt 3 (at2 A.q) ≠ 0) (ha : iL A 30 ∈ I0) : CD Tryz.prog 70 [mv A] X w0 M0 I0 (fun v M I => M0 = M ∧ I0 = I ∧ v = .bool true) := by
 have h := yE (X := X) (w0 := w0) (M0 := M0) (I0 := I0) (a := A) (k := 30) (by decide) (by decide) fA ha
 rwa [bH hd] at h
theorem aJL {m : Value} {q : Option Addr} {l : List Q4} {n c : Nat} {tol : Int} (hl : l.length = n) (hn : (n : Int) ≤ 9223372036854775807) (hc : jW l ≠ 0) (hq : aP q (recs kG l) ∈ I0) :
  CD Tryz.prog 27 [m, .slice q n c, .int .i64 tol] X w0 M0 I0 (fun v M I => M0 = M ∧ I0 = I ∧ v = .tuple #[.slice none 0 0, .int .i64 (jW l)]) := by
 have hCh := fun M0 I0 h => nR (X := X) (w0 := w0) (M0 := M0) (I0 := I0) (q := q) (l := l) (n := n) (c := c) hl hn h
 generalize jW l = C at *
 refine jT Tryz.func27 rfl Tryz.ntmps27 rfl ?_
 repeat (refine aK ?_)
 (refine aA rfl (hCh _ _ aB) rfl rfl ?_; rintro _ _ _ ⟨rfl, rfl, rfl⟩; refine ⟨okF, ?_⟩)
 repeat (refine aK ?_)
 refine eQ [6, 7] (by first | exact .inl rfl | exact .inr rfl) rfl rfl rfl _ _ aD aC (⟨rfl, rfl, rfl⟩)
theorem aVA {a : WM} {q : Option Addr} {l : List Q4} {n c : Nat} {tol : Int} (hl : l.length = n) (hn : (n : Int) ≤ 9223372036854775807) (hc : jW l = 0) (h4 : fourS a) (h : NR a) (ha : kR a ∈ I0) (hq : aP q (recs kG l) ∈ I0) :
  CD Tryz.prog 27 [mvW a, .slice q n c, .int .i64 tol] X w0 M0 I0 (fun v M I => M0 = M ∧ I0 = I ∧ v = .tuple #[.slice none 0 0, .int .i64 1]) := by
 have hCh := fun M0 I0 h => nR (X := X) (w0 := w0) (M0 := M0) (I0 := I0) (q := q) (l := l) (n := n) (c := c) hl hn h
 rw [hc] at hCh
 have hR := fun M0 I0 h1 => aBG (X := X) (w0 := w0) (M0 := M0) (I0 := I0) (a := a) h4 h h1
 refine jT Tryz.func27 rfl Tryz.ntmps27 rfl ?_
 repeat (refine aK ?_)
 (refine aA rfl (hCh _ _ aB) rfl rfl ?_; rintro _ _ _ ⟨rfl, rfl, rfl⟩; refine ⟨okF, ?_⟩)
 repeat (refine aK ?_)
 (refine aA rfl (hR _ _ aB) rfl rfl ?_; rintro _ _ _ ⟨rfl, rfl, rfl⟩; refine ⟨okF, ?_⟩)
 repeat (refine aK ?_)
 refine eQ [6, 7] (by first | exact .inl rfl | exact .inr rfl) rfl rfl rfl _ _ aD aC (⟨rfl, rfl, rfl⟩)
theorem aSI {A : MX} {q : Option Addr} {l : List Q4} {n c : Nat} {tol : Int} (hl : l.length = n) (hn : (n : Int) ≤ 9223372036854775807) (hc : jW l = 0) (ht : ¬ tolP tol) (fA : A.fit 3 3) (hd : dt 3 (at2 A.q) ≠ 0) (ha : iL A 30 ∈ I0) (hq : aP q (recs kG l) ∈ I0) :
  CD Tryz.prog 27 [mv A, .slice q n c, .int .i64 tol] X w0 M0 I0 (fun v M I => M0 = M ∧ I0 = I ∧ v = .tuple #[.slice none 0 0, .int .i64 2]) := by
 have hCh := fun M0 I0 h => nR (X := X) (w0 := w0) (M0 := M0) (I0 := I0) (q := q) (l := l) (n := n) (c := c) hl hn h
 rw [hc] at hCh
 have hT := fun M0 I0 => aII (X := X) (w0 := w0) (M0 := M0) (I0 := I0) (t := tol)
 simp only [if_neg ht] at hT
 have hR := fun M0 I0 h1 => zJ (X := X) (w0 := w0) (M0 := M0) (I0 := I0) (A := A) fA hd h1
 refine jT Tryz.func27 rfl Tryz.ntmps27 rfl ?_
 repeat (refine aK ?_)
 (refine aA rfl (hCh _ _ aB) rfl rfl ?_; rintro _ _ _ ⟨rfl, rfl, rfl⟩; refine ⟨okF, ?_⟩)
 repeat (refine aK ?_)
 (refine aA rfl (hR _ _ aB) rfl rfl ?_; rintro _ _ _ ⟨rfl, rfl, rfl⟩; refine ⟨okF, ?_⟩)
 repeat (refine aK ?_)
 (refine aA rfl (hT _ _) rfl rfl ?_; rintro _ _ _ ⟨rfl, rfl, rfl⟩; refine ⟨okF, ?_⟩)
 repeat (refine aK ?_)
 refine eQ [6, 7] (by first | exact .inl rfl | exact .inr rfl) rfl rfl rfl _ _ aD aC (⟨rfl, rfl, rfl⟩)
theorem aVH {A : MX} {q : Option Addr} {l : List Q4} {n c : Nat} {tol : Int} (hl : l.length = n) (hn : n ≤ 64) (hs : ∀ s ∈ l, s.near) (hc : jW l = 0) (ht : tolP tol) (fA : A.fit 3 3) (hd : dt 3 (at2 A.q) ≠ 0) (ha : iL A 30 ∈ I0) (hq : aP q (recs kG l) ∈ I0) :
  CD Tryz.prog 27 [mv A, .slice q n c, .int .i64 tol] X w0 M0 I0 (fun v M I => M0 = M ∧ ∃ (q' : Option Addr) (c' : Nat), v = .tuple #[.slice q' (jJ A.q l tol).length c', .int .i64 0] ∧ I = aP q' (recs eZ (jJ A.q l tol)) :: I0) := by
 have hCh := fun M0 I0 h => nR (X := X) (w0 := w0) (M0 := M0) (I0 := I0) (q := q) (l := l) (n := n) (c := c) hl (by omega) h
 rw [hc] at hCh
 have hT := fun M0 I0 => aII (X := X) (w0 := w0) (M0 := M0) (I0 := I0) (t := tol)
 simp only [if_pos ht] at hT
 have hR := fun M0 I0 h1 => zJ (X := X) (w0 := w0) (M0 := M0) (I0 := I0) (A := A) fA hd h1
 have hI := fun M0 I0 h1 h2 => aJD (X := X) (w0 := w0) (M0 := M0) (I0 := I0) (m := A) (q := q) (l := l) (n := n) (c := c) (u := 30) (tol := tol) (by omega) fA.1 hl hn hs ht h1 h2
 refine jT Tryz.func27 rfl Tryz.ntmps27 rfl ?_
 repeat (refine aK ?_)
 (refine aA rfl (hCh _ _ aB) rfl rfl ?_; rintro _ _ _ ⟨rfl, rfl, rfl⟩; refine ⟨okF, ?_⟩)
 repeat (refine aK ?_)
 (refine aA rfl (hR _ _ aB) rfl rfl ?_; rintro _ _ _ ⟨rfl, rfl, rfl⟩; refine ⟨okF, ?_⟩)
 repeat (refine aK ?_)
 (refine aA rfl (hT _ _) rfl rfl ?_; rintro _ _ _ ⟨rfl, rfl, rfl⟩; refine ⟨okF, ?_⟩)
 repeat (refine aK ?_)
 (refine aA rfl (hI _ _ aB aB) rfl rfl ?_; rintro _ _ _ ⟨rfl, q', c', rfl, rfl⟩; refine ⟨okF, ?_⟩)
 repeat (refine aK ?_)
 refine eQ [6, 7] (by first | exact .inl rfl | exact .inr rfl) rfl rfl rfl _ _ aD aC (⟨rfl, q', c', rfl, rfl⟩)
theorem aNP {a : WM} {s : Q4} (h4 : fourS a) (h : NR a) (ha : kR a ∈ I0) :
  CD Tryz.prog 30 [mvW a, vQ4 s] X w0 M0 I0 (fun v M I => M0 = M ∧ I0 = I ∧ v = .tuple #[zR, .int .i64 1]) := by
 have hR := fun M0 I0 h1 => aBG (X := X) (w0 := w0) (M0 := M0) (I0 := I0) (a := a) h4 h h1
 refine aY Tryz.func30 rfl Tryz.ntmps30 rfl ?_
 refine aH ?_
 refine aJ ?_
 (refine aQ rfl rfl rfl ?_; intro b3; refine ⟨okF, ?_⟩)
 (refine aG rfl rfl ?_; intro b4; refine ⟨okF, ?_⟩)
 repeat (refine aK ?_)
 (refine aA rfl (hR _ _ aB) rfl rfl ?_; rintro _ _ _ ⟨rfl, rfl, rfl⟩; refine ⟨okF, ?_⟩)
 repeat (refine aK ?_)
 (refine aF rfl (fun _ => aV (pvs := ([]).zipIdx.map (fun p => (p.2, p.1))) (cells := zRg) rfl rfl) rfl rfl ?_)
 repeat (refine aK ?_)
 refine eO (rs := [.cell 4 50, .tmp 5]) (vs := [zR, .int .i64 1]) (.inl rfl) rfl (.cellN (cs := zRg) inferInstance rfl aB rfl (.tmp rfl .nil)) rfl M0 I0 aD aC ⟨rfl, rfl, rfl⟩
theorem zB {A : MX} {s : Q4} (hs : s.far) (fA : A.fit 3 3) (hd : dt 3 (at2 A.q) ≠ 0) (ha : iL A 30 ∈ I0) :
  CD Tryz.prog 30 [mv A, vQ4 s] X w0 M0 I0 (fun v M I => M0 = M ∧ I0 = I ∧ v = .tuple #[zR, .int .i64 2]) := by
 have hR := fun M0 I0 h1 => zJ (X := X) (w0 := w0) (M0 := M0) (I0 := I0) (A := A) fA hd h1
 have hF1 := fun M0 I0 => uB (X := X) (w0 := w0) (M0 := M0) (I0 := I0) (a := s.x) (b := s.y)
 have hF2 := fun M0 I0 => uB (X := X) (w0 := w0) (M0 := M0) (I0 := I0) (a := s.u) (b := s.v)
 refine aY Tryz.func30 rfl Tryz.ntmps30 rfl ?_
 refine aH ?_
 refine aJ ?_
 (refine aQ rfl rfl rfl ?_; intro b3; refine ⟨okF, ?_⟩)
 (refine aG rfl rfl ?_; intro b4; refine ⟨okF, ?_⟩)
 repeat (refine aK ?_)
 (refine aA rfl (hR _ _ aB) rfl rfl ?_; rintro _ _ _ ⟨rfl, rfl, rfl⟩; refine ⟨okF, ?_⟩)
 repeat (refine aK ?_)
 by_cases h1 : farC s.x s.y
 ·rw [bH h1] at hF1
  (refine aA rfl (hF1 _ _) rfl rfl ?_; rintro _ _ _ ⟨rfl, rfl, rfl⟩; refine ⟨okF, ?_⟩)
  repeat (refine aK ?_)
  (refine aF rfl (fun _ => aV (pvs := ([]).zipIdx.map (fun p => (p.2, p.1))) (cells := zRg) rfl rfl) rfl rfl ?_)
  repeat (refine aK ?_)
  refine eO (rs := [.cell 4 50, .tmp 5]) (vs := [zR, .int .i64 2]) (.inl rfl) rfl (.cellN (cs := zRg) inferInstance rfl aB rfl (.tmp rfl .nil)) rfl M0 I0 aD aC ⟨rfl, rfl, rfl⟩
 ·have h2 : farC s.u s.v := by
   rcases hs with h | h
   ·exact absurd h h1
   ·exact h
  rw [aZ h1] at hF1
  rw [bH h2] at hF2
  (refine aA rfl (hF1 _ _) rfl rfl ?_; rintro _ _ _ ⟨rfl, rfl, rfl⟩; refine ⟨okF, ?_⟩)
  repeat (refine aK ?_)
  (refine aA rfl (hF2 _ _) rfl rfl ?_; rintro _ _ _ ⟨rfl, rfl, rfl⟩; refine ⟨okF, ?_⟩)
  repeat (refine aK ?_)
  (refine aF rfl (fun _ => aV (pvs := ([]).zipIdx.map (fun p => (p.2, p.1))) (cells := zRg) rfl rfl) rfl rfl ?_)
  repeat (refine aK ?_)
  refine eO (rs := [.cell 4 50, .tmp 5]) (vs := [zR, .int .i64 2]) (.inl rfl) rfl (.cellN (cs := zRg) inferInstance rfl aB rfl (.tmp rfl .nil)) rfl M0 I0 aD aC ⟨rfl, rfl, rfl⟩
def aPU (m : Mt) (s : Q4) (k : Nat) (M0 : List Ent) (I0 : List bA) (v : Value) (M : List Ent) (I : List bA) : Prop :=
 M0 = M ∧ if mV m 2 s = 0 then I0 = I ∧ v = .tuple #[zR, .int .i64 13] else ∃ e : RE, v = .tuple #[rv e, .int .i64 0] ∧ e.q = aBR m s ∧ I = dD e k :: I0
theorem sP {s : Q4} (h : ¬ s.far) : s.near := by
 unfold Q4.far farC at h
 exact ⟨by omega, by omega, by omega, by omega⟩
theorem aEA {A : MX} {s : Q4} (hs : ¬ s.far) (fA : A.fit 3 3) (hd : dt 3 (at2 A.q) ≠ 0) (ha : iL A 30 ∈ I0) :
  CD Tryz.prog 30 [mv A, vQ4 s] X w0 M0 I0 (aPU A.q s (kM 30) M0 I0) := by
 have hR := fun M0 I0 h1 => zJ (X := X) (w0 := w0) (M0 := M0) (I0 := I0) (A := A) fA hd h1
 have hF1 := fun M0 I0 => uB (X := X) (w0 := w0) (M0 := M0) (I0 := I0) (a := s.x) (b := s.y)
 have hF2 := fun M0 I0 => uB (X := X) (w0 := w0) (M0 := M0) (I0 := I0) (a := s.u) (b := s.v)
 rw [aZ (fun h => hs (.inl h))] at hF1
 rw [aZ (fun h => hs (.inr h))] at hF2
 have hMs := fun M0 I0 h => aIX (X := X) (w0 := w0) (M0 := M0) (I0 := I0) (m := A) (s := s) (k := 30) (by omega) fA.1 (sP hs) h
 unfold MisP at hMs
 refine aY Tryz.func30 rfl Tryz.ntmps30 rfl ?_
 refine aH ?_
 refine aJ ?_
 (refine aQ rfl rfl rfl ?_; intro b3; refine ⟨okF, ?_⟩)
 (refine aG rfl rfl ?_; intro b4; refine ⟨okF, ?_⟩)
 repeat (refine aK ?_)
 (refine aA rfl (hR _ _ aB) rfl rfl ?_; rintro _ _ _ ⟨rfl, rfl, rfl⟩; refine ⟨okF, ?_⟩)
 repeat (refine aK ?_)
 (refine aA rfl (hF1 _ _) rfl rfl ?_; rintro _ _ _ ⟨rfl, rfl, rfl⟩; refine ⟨okF, ?_⟩)
 repeat (refine aK ?_)
 (refine aA rfl (hF2 _ _) rfl rfl ?_; rintro _ _ _ ⟨rfl, rfl, rfl⟩; refine ⟨okF, ?_⟩)
 repeat (refine aK ?_)
 by_cases h0 : mV A.q 2 s = 0
 ·simp only [if_pos h0] at hMs
  (refine aA rfl (hMs _ _ aB) rfl rfl ?_; rintro _ _ _ ⟨rfl, rfl, rfl⟩; refine ⟨okF, ?_⟩)
  repeat (refine aK ?_)
  (refine aG rfl rfl ?_; intro b6; refine ⟨okF, ?_⟩)
  repeat (refine aK ?_)
  (refine aF rfl (fun _ => aV (pvs := ([]).zipIdx.map (fun p => (p.2, p.1))) (cells := zRg) rfl rfl) rfl rfl ?_)
  repeat (refine aK ?_)
  refine eO (rs := [.cell 4 50, .tmp 5]) (vs := [zR, .int .i64 13]) (.inl rfl) rfl (.cellN (cs := zRg) inferInstance rfl aB rfl (.tmp rfl .nil)) rfl M0 I0 aD aC ⟨rfl, by rw [if_pos h0]; exact ⟨rfl, rfl⟩⟩
 ·simp only [if_neg h0] at hMs
  (refine aA rfl (hMs _ _ aB) rfl rfl ?_; rintro _ _ _ ⟨rfl, e, rfl, he, rfl⟩; refine ⟨okF, ?_⟩)
  repeat (refine aK ?_)
  (refine aG rfl rfl ?_; intro b6; refine ⟨okF, ?_⟩)
  repeat (refine aK ?_)
  refine eO (rs := [.cell 4 50, .tmp 5]) (vs := [rv e, .int .i64 0]) (.inl rfl) rfl (.cellN (cs := eR e) inferInstance rfl aB rfl (.tmp rfl .nil)) rfl M0 (dD e (kM 30) :: I0) aD aC ⟨rfl, by rw [if_neg h0]; exact ⟨e, rfl, he, rfl⟩⟩
end
end Go.Proofs.YtjbhdfpjnjedhaaGreat

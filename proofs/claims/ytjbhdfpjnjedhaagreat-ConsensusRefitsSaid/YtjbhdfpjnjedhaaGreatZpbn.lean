/- Chapter 29's law: missed. consensus.Inliers and consensus.Error at every matrix of at most four short rows. The law ConsensusErrors, walked. Which lists of places are good: the program's and the law's. Chapter 29's law: equations. The document's Null. The document's Beside; Solve at a regular matrix. -/
import Derived.Test.YtjbhdfpjnjedhaaGreatZpbm
import Derived.Test.YtjbhdfpjnjedhaaGreatZpan
import Derived.Test.YtjbhdfpjnjedhaaGreatZpal
import Derived.Test.YtjbhdfpjnjedhaaGreatZpbj
import Derived.Test.YtjbhdfpjnjedhaaGreatZpbi
import Derived.Test.YtjbhdfpjnjedhaaGreatZpbf
import Derived.Test.YtjbhdfpjnjedhaaGreatZpbg
set_option linter.unusedSimpArgs false
set_option linter.unusedVariables false
set_option maxRecDepth 100000
set_option maxHeartbeats 4000000
namespace Go.Proofs.YtjbhdfpjnjedhaaGreat
open Go Go.Fx
section
variable {X : List Nat} {w0 : World} {M0 M1 M2 : List Ent} {I0 : List aY}
theorem Hv.three {I : List aY} {a b c : RE} {k : Nat} (h1 : bS a k ∈ I) (h2 : bS b k ∈ I) (h3 : bS c k ∈ I) : Hv I (cO [a, b, c] k) := ⟨fun X w hw => ⟨fun x hx => by
 simp only [List.mem_cons, List.not_mem_nil, or_false] at hx
 rcases hx with rfl | rfl | rfl
 ·exact hw _ h1
 ·exact hw _ h2
 ·exact hw _ h3⟩⟩
theorem app3 {m : Mt} {x : List Rat} {i : Nat} (s : Q4) (hx : x = [(s.x : Rat), (s.y : Rat), ((1 : Int) : Rat)]) : sm 3 (fun t => at2 m i t * x.getD t 0) = nN m i s := by
 subst hx
 show ((0 + at2 m i 0 * (s.x : Rat)) + at2 m i 1 * (s.y : Rat)) + at2 m i 2 * ((1 : Int) : Rat) = _
 unfold nN
 grind
theorem aHE {m : MX} {s : Q4} {u : Nat} (hu : u ≤ 500000000) (dm : m.dim 3 3) (hn : s.near) (hm : jF m u ∈ I0) :
  CD Tryz.prog 32 [mv m, vQ4 s] X w0 M0 I0 (MisK m.q s (24 * u + 449) M0 I0) := by
 obtain ⟨n1, n2, n3, n4⟩ := hn
 have hWx := fun M0 I0 => pF (X := X) (w0 := w0) (M0 := M0) (I0 := I0) (x := s.x) (by omega) (k := 15) (by rw [e15]; omega)
 have hWy := fun M0 I0 => pF (X := X) (w0 := w0) (M0 := M0) (I0 := I0) (x := s.y) (by omega) (k := 15) (by rw [e15]; omega)
 have hW1 := fun M0 I0 => pF (X := X) (w0 := w0) (M0 := M0) (I0 := I0) (x := 1) (by omega) (k := 15) (by decide)
 have hAp := fun (x : RL) (hl : x.es.length = 3) M0 I0 h1 h2 => aLT (X := X) (w0 := w0) (M0 := M0) (I0 := I0) (a := m) (x := x) (R := 3) (C := 3) (k0 := u) (m := 15) (by omega) (by omega) (by omega) (by omega) dm hl h1 h2
 have hO := fun (a b : RE) (h0 : b.q ≠ 0) M0 I0 h1 h2 => aGH (X := X) (w0 := w0) (M0 := M0) (I0 := I0) (a := a) (b := b) (k := 3 * (u + 15 + 1)) (m := 3 * (u + 15 + 1)) (by omega) h0 h1 h2
 have hDi := fun (a b : RE) M0 I0 h1 h2 => aSN (X := X) (w0 := w0) (M0 := M0) (I0 := I0) (a := a) (b := b) (x := s.u) (y := s.v) (k := 3 * (u + 15 + 1) + 3 * (u + 15 + 1)) (by omega) ⟨by omega, by omega⟩ ⟨by omega, by omega⟩ h1 h2
 refine cZ (φ := jF m u) (Hv.mem hm) ?_
 refine aX Tryz.func32 rfl Tryz.ntmps32 rfl ?_
 refine aG ?_
 refine aJ ?_
 (refine aR rfl rfl rfl ?_; intro b3; refine ⟨okF, ?_⟩)
 refine bC .here ?_
 (refine aI rfl rfl ?_; intro b4; refine ⟨okF, ?_⟩)
 repeat (refine aK ?_)
 (repeat refine aG ?_); refine bZ (.blk b4 zRg 50 :: M0) (aO (some ⟨b3, 0, none⟩) (kU s) :: jF m u :: I0) [0, 1, 2, 3, 5, 6, 7, 4, 8, 9, 10, 11, 12] [4, 5, 5, 4, 5, 5, 4, 0, 0, 0, 0, 0, 0] aD aC mixed (by kernel_rfl) ?_
 repeat (refine aK ?_)
 (refine aA rfl (hWx _ _) rfl rfl ?_; rintro _ _ _ ⟨rfl, gx, rfl, hgx, rfl⟩; refine ⟨okF, ?_⟩)
 (refine aA rfl (hWy _ _) rfl rfl ?_; rintro _ _ _ ⟨rfl, gy, rfl, hgy, rfl⟩; refine ⟨okF, ?_⟩)
 (refine aA rfl (hW1 _ _) rfl rfl ?_; rintro _ _ _ ⟨rfl, g1, rfl, hg1, rfl⟩; refine ⟨okF, ?_⟩)
 repeat (refine aK ?_)
 (refine aQ (cs := recs eR [gx, gy, g1]) ([rv gx, rv gy, rv g1]) rfl rfl (by intro v hv; repeat (first | exact absurd hv (List.not_mem_nil) | (rcases List.mem_cons.1 hv with rfl | hv; · rfl))) (by omega) rfl rfl rfl ?_; intro bl; refine ⟨okF, ?_⟩)
 refine dP (φ := cO [gx, gy, g1] 15) (Hv.three aB aB aB) ?_
 refine aKZ (k := 15) aB ?_
 (refine aA rfl (hAp ⟨some ⟨bl, 0, none⟩, 3, [gx, gy, g1]⟩ rfl _ _ aB aB) rfl rfl ?_; rintro _ _ _ ⟨rfl, r, rfl, hr, rfl⟩; refine ⟨okF, ?_⟩)
 repeat (refine aK ?_)
 have hrl : r.es.length = 3 := by
  have h : r.q.length = 3 := by rw [hr]; simp
  rwa [show r.q.length = r.es.length from List.length_map _] at h
 have hrw : ∀ i : Nat, i < 3 → (gt r.es (i : Int)).q = nN m.q i s := fun i hi => by
  rw [← jK (by omega)]
  show r.q.getD i 0 = _
  rw [hr]
  rw [show ((List.range 3).map (fun i => sm 3 (fun t => at2 m.q i t * (RL.q ⟨some ⟨bl, 0, none⟩, 3, [gx, gy, g1]⟩).getD t 0))).getD i 0 = sm 3 (fun t => at2 m.q i t * (RL.q ⟨some ⟨bl, 0, none⟩, 3, [gx, gy, g1]⟩).getD t 0) by simp [List.getD, hi]]
  exact app3 s (by show [gx.q, gy.q, g1.q] = _; rw [hgx, hgy, hg1])
 have hq0 : (gt r.es 0).q = nN m.q 0 s := hrw 0 (by omega)
 have hq1 : (gt r.es 1).q = nN m.q 1 s := hrw 1 (by omega)
 have hq2 : (gt r.es 2).q = nN m.q 2 s := hrw 2 (by omega)
 clear hrw hr
 refine dP (φ := aO r.p (recs eR r.es)) (Hv.lsl (k := (3 * (u + 15 + 1))) aB) ?_
 repeat (refine aK ?_)
 (refine aA rfl (uG (e := gt r.es 2) (k := (3 * (u + 15 + 1))) (by omega) (Hv.lel (r := r) (k := (3 * (u + 15 + 1))) aB ⟨by omega, by omega⟩)) rfl rfl ?_; rintro _ _ _ ⟨rfl, rfl, rfl⟩; refine ⟨okF, ?_⟩)
 by_cases h0 : nN m.q 2 s = 0
 ·have hs0 : (gt r.es 2).q.num.sign = 0 := aLU.2 (hq2.trans h0)
  rw [hs0]
  repeat (refine aK ?_)
  (refine aF rfl (fun _ => bA (pvs := ([]).zipIdx.map (fun p => (p.2, p.1))) (cells := zRg) rfl rfl) rfl rfl ?_)
  repeat (refine aK ?_)
  refine gZ (M' := .blk b4 zRg 50 :: M0) (I' := I0) aD aC ?_
  refine fO (rs := [.cell 4 50, .tmp 5]) (vs := [zR, .bool false]) (.inl rfl) rfl (.cellN (cs := zRg) inferInstance rfl aB rfl (.tmp rfl .nil)) rfl M0 I0 aD aC ⟨rfl, by rw [if_pos h0]; exact ⟨rfl, rfl⟩⟩
 ·have hc0 : (gt r.es 2).q ≠ 0 := by rw [hq2]; exact h0
  have hs0 : ¬ (gt r.es 2).q.num.sign = 0 := fun e => hc0 (aLU.1 e)
  repeat (refine aK ?_)
  refine mU (fun G M I => ∃ (b7 : Nat) (ex : RE), ex.q = nN m.q 0 s / nN m.q 2 s ∧ G = [(3, .pointer (some ⟨b3, 0, none⟩)), (4, .pointer (some ⟨b4, 0, none⟩)), (6, lv r), (7, .pointer (some ⟨b7, 0, none⟩))] ∧ M = .blk b7 (eR ex) 50 :: .blk b4 zRg 50 :: M0 ∧ I = bS ex (3 * (u + 15 + 1) + 3 * (u + 15 + 1)) :: aO r.p (recs eR r.es) :: iZ r (3 * (u + 15 + 1)) :: aO (some ⟨b3, 0, none⟩) (kU s) :: I0) ?_ ?_
  ·((repeat refine aG ?_); refine mP (M0) (aO r.p (recs eR r.es) :: iZ r (3 * (u + 15 + 1)) :: aO (some ⟨b3, 0, none⟩) (kU s) :: I0) mixed ?_)
   refine iQ (fuel := 7) (listed' := #[true, true, true, true, true, true, false, false, false, false, false, false, false]) [0, 1, 2, 3, 4, 5] [2, 2, 1, 2, 2, 1] aD aC (by kernel_rfl) (by kernel_rfl) rfl rfl ?_
   repeat (refine aK ?_)
   refine bW (fuel := 6) (i := 6) (j := 10) (by kernel_rfl) ?_ ?_
   ·(refine aA rfl (hO (gt r.es 0) (gt r.es 2) hc0 _ _ (Hv.lel (r := r) (k := (3 * (u + 15 + 1))) aB ⟨by omega, by omega⟩) (Hv.lel (r := r) (k := (3 * (u + 15 + 1))) aB ⟨by omega, by omega⟩)) rfl rfl ?_; rintro _ _ _ ⟨rfl, g1, rfl, hg1, rfl⟩; refine ⟨okF, ?_⟩)
    refine bH ?_
    refine bE [7, 8, 9, 10, 11, 12] [1, 1, 2, 0, 0, 0] aD aC (by kernel_rfl) (by kernel_rfl) rfl rfl ?_
    repeat (refine aK ?_)
    (refine aI rfl rfl ?_; intro b7; refine ⟨okF, ?_⟩)
    repeat (refine aK ?_)
    (refine eX _ _ _ aP aD aC ⟨b7, g1, by rw [hg1, hq0, hq2], rfl, rfl, rfl⟩)
   ·(refine aI rfl rfl ?_; intro b7; refine ⟨okF, ?_⟩)
    refine bH ?_
    refine bE [6, 7, 8, 9, 11, 12] [0, 0, 0, 1, 0, 0] aD aC (by kernel_rfl) (by kernel_rfl) rfl rfl ?_
    repeat (refine aK ?_)
    (refine aA rfl (hO (gt r.es 0) (gt r.es 2) hc0 _ _ (Hv.lel (r := r) (k := (3 * (u + 15 + 1))) aB ⟨by omega, by omega⟩) (Hv.lel (r := r) (k := (3 * (u + 15 + 1))) aB ⟨by omega, by omega⟩)) rfl rfl ?_; rintro _ _ _ ⟨rfl, g1, rfl, hg1, rfl⟩; refine ⟨okF, ?_⟩)
    repeat (refine aK ?_)
    (refine eX _ _ _ aP aD aC ⟨b7, g1, by rw [hg1, hq0, hq2], rfl, rfl, rfl⟩)
  rintro G M I ⟨b7, ex, hex, rfl, rfl, rfl⟩
  refine aG ?_
  refine mU (fun G M I => ∃ (b9 : Nat) (ey : RE), ey.q = nN m.q 1 s / nN m.q 2 s ∧ G = [(3, .pointer (some ⟨b3, 0, none⟩)), (4, .pointer (some ⟨b4, 0, none⟩)), (7, .pointer (some ⟨b7, 0, none⟩)), (9, .pointer (some ⟨b9, 0, none⟩))] ∧ M = .blk b9 (eR ey) 50 :: .blk b7 (eR ex) 50 :: .blk b4 zRg 50 :: M0 ∧ I = bS ey (3 * (u + 15 + 1) + 3 * (u + 15 + 1)) :: bS ex (3 * (u + 15 + 1) + 3 * (u + 15 + 1)) :: aO (some ⟨b3, 0, none⟩) (kU s) :: I0) ?_ ?_
  ·((repeat refine aG ?_); refine mP (M0) (bS ex (3 * (u + 15 + 1) + 3 * (u + 15 + 1)) :: aO r.p (recs eR r.es) :: iZ r (3 * (u + 15 + 1)) :: aO (some ⟨b3, 0, none⟩) (kU s) :: I0) mixed ?_)
   refine iQ (fuel := 7) (listed' := #[true, true, true, true, true, true, false, false, false, false, false, false, false]) [0, 1, 2, 3, 4, 5] [2, 2, 1, 2, 2, 1] aD aC (by kernel_rfl) (by kernel_rfl) rfl rfl ?_
   repeat (refine aK ?_)
   refine bW (fuel := 6) (i := 6) (j := 10) (by kernel_rfl) ?_ ?_
   ·(refine aA rfl (hO (gt r.es 1) (gt r.es 2) hc0 _ _ (Hv.lel (r := r) (k := (3 * (u + 15 + 1))) aB ⟨by omega, by omega⟩) (Hv.lel (r := r) (k := (3 * (u + 15 + 1))) aB ⟨by omega, by omega⟩)) rfl rfl ?_; rintro _ _ _ ⟨rfl, g1, rfl, hg1, rfl⟩; refine ⟨okF, ?_⟩)
    refine bH ?_
    refine bE [7, 8, 9, 10, 11, 12] [1, 1, 2, 0, 0, 0] aD aC (by kernel_rfl) (by kernel_rfl) rfl rfl ?_
    repeat (refine aK ?_)
    (refine aI rfl rfl ?_; intro b9; refine ⟨okF, ?_⟩)
    repeat (refine aK ?_)
    (refine eX _ _ _ aP aD aC ⟨b9, g1, by rw [hg1, hq1, hq2], rfl, rfl, rfl⟩)
   ·(refine aI rfl rfl ?_; intro b9; refine ⟨okF, ?_⟩)
    refine bH ?_
    refine bE [6, 7, 8, 9, 11, 12] [0, 0, 0, 1, 0, 0] aD aC (by kernel_rfl) (by kernel_rfl) rfl rfl ?_
    repeat (refine aK ?_)
    (refine aA rfl (hO (gt r.es 1) (gt r.es 2) hc0 _ _ (Hv.lel (r := r) (k := (3 * (u + 15 + 1))) aB ⟨by omega, by omega⟩) (Hv.lel (r := r) (k := (3 * (u + 15 + 1))) aB ⟨by omega, by omega⟩)) rfl rfl ?_; rintro _ _ _ ⟨rfl, g1, rfl, hg1, rfl⟩; refine ⟨okF, ?_⟩)
    repeat (refine aK ?_)
    (refine eX _ _ _ aP aD aC ⟨b9, g1, by rw [hg1, hq1, hq2], rfl, rfl, rfl⟩)
  rintro G M I ⟨b9, ey, hey, rfl, rfl, rfl⟩
  repeat (refine aK ?_)
  (refine aF rfl (fun _ => oH (vals := [rv ex, rv ey]) (cells := recs eR [ex, ey]) rfl ?hpl rfl ?hz) rfl rfl ?_; (case hpl => repeat (first | exact True.intro | refine ⟨rfl, ?_⟩)); (case hz => rfl))
  repeat (refine aK ?_)
  (refine aA rfl (hDi ex ey _ _ aB aB) rfl rfl ?_; rintro _ _ _ ⟨rfl, f, rfl, hf, rfl⟩; refine ⟨okF, ?_⟩)
  repeat (refine aK ?_)
  have e9 : 4 * (3 * (u + 15 + 1) + 3 * (u + 15 + 1)) + 65 = 24 * u + 449 := by omega
  rw [e9]
  refine fO (rs := [.cell 4 50, .tmp 5]) (vs := [rv f, .bool true]) (.inl rfl) rfl (.cellN (cs := eR f) inferInstance rfl aB rfl (.tmp rfl .nil)) rfl M0 (bS f (24 * u + 449) :: I0) aD aC ⟨rfl, by rw [if_neg h0]; exact ⟨f, rfl, by rw [hf, hex, hey]; rfl, rfl⟩⟩
end
end Go.Proofs.YtjbhdfpjnjedhaaGreat
namespace Go.Proofs.YtjbhdfpjnjedhaaGreat
open Go Go.Fx
section
variable {X : List Nat} {w0 : World} {M0 M1 M2 : List Ent} {I0 : List aY}
def ErrK (m : Mt) (s : Q4) (k : Nat) (M0 : List Ent) (I0 : List aY) (v : Value) (M : List Ent) (I : List aY) : Prop :=
 M0 = M ∧ if nN m 2 s = 0 then I0 = I ∧ v = .tuple #[zR, .int .i64 13] else ∃ e : RE, v = .tuple #[rv e, .int .i64 0] ∧ e.q = aAQ m s ∧ I = bS e k :: I0
end
end Go.Proofs.YtjbhdfpjnjedhaaGreat
namespace Go.Proofs.YtjbhdfpjnjedhaaGreat
open Go Go.Fx
section
variable {X : List Nat} {w0 : World} {M0 M1 M2 : List Ent} {I0 : List aY}
end
end Go.Proofs.YtjbhdfpjnjedhaaGreat
namespace Go.Proofs.YtjbhdfpjnjedhaaGreat
open Go Go.Fx
def aCP (l : List Int) : Prop := ∀ i, i < l.length → 0 < i → gt l ((i - 1 : Nat) : Int) < gt l (i : Int)
instance (l : List Int) : Decidable (aCP l) := by unfold aCP; exact inferInstance
def aPB (n : Nat) (l : List Int) : Prop := ∃ x ∈ l, x < 0 ∨ (n : Int) ≤ x
instance (n : Nat) (l : List Int) : Decidable (aPB n l) := by unfold aPB; exact inferInstance
def xX (n : Nat) (l : List Int) : Int := if ¬ aCP l then 5 else if aPB n l then 6 else 0
theorem aUD {n : Nat} {l : List Int} (h : xX n l = 0) : ∀ x ∈ l, 0 ≤ x ∧ x < n := fun x hx => by
 unfold xX at h
 by_cases h1 : aCP l
 ·rw [if_neg (fun h => h h1)] at h
  by_cases h2 : aPB n l
  ·rw [if_pos h2] at h; omega
  ·by_cases e : x < 0 ∨ (n : Int) ≤ x
   ·exact absurd ⟨x, hx, e⟩ h2
   ·omega
 ·rw [if_pos h1] at h; omega
section
variable {X : List Nat} {w0 : World} {M0 M1 M2 : List Ent} {I0 : List aY}
theorem aWZ {q : Option Addr} {l : List Int} {n c : Nat} (hl : l.length = n) (hn : n ≤ 1000) (hq : aO q (recs eZ l) ∈ I0) :
  CD Tryz.prog 124 [.slice q n c] X w0 M0 I0 (fun v M I => M0 = M ∧ I0 = I ∧ v = .bool (B (aCP l))) := by
 refine aZ Tryz.func124 rfl Tryz.ntmps124 rfl ?_
 repeat (refine aK ?_)
 refine aT [0, 5] rfl (fun k G M I => ∃ i : Nat, i ≤ n ∧ k = n - i ∧ (∀ j : Nat, j < i → 0 < j → gt l ((j - 1 : Nat) : Int) < gt l (j : Int)) ∧ G = [(6, .int .i64 i)] ∧ M0 = M ∧ I0 = I) (n) _ _ _ aP aD aC (⟨0, by omega, rfl, fun j hj => by omega, rfl, rfl, rfl⟩) ?_
 rintro kk G M I ⟨i, hi, rfl, hP, rfl, rfl, rfl⟩
 by_cases hin : i < n
 ·by_cases hi0 : 0 < i
  ·have ei : ((i - 1 : Nat) : Int) = (i : Int) - 1 := by omega
   by_cases hlt : gt l ((i : Int) - 1) < gt l (i : Int)
   ·repeat (refine aK ?_)
    (repeat refine aG ?_); refine dS [0, 1, 2, 3, 4, 5, 6, 7, 8, 9, 10, 11, 12, 13] [0, 0, 0, 0, 0, 0, 0, 0, 0, 0, 0, 0, 0, 0] mixed (by kernel_rfl) ?_
    repeat (refine aK ?_)
    refine aL (n - (i + 1)) _ _ _ (by first | omega | (simp only [List.length_append, List.length_cons, List.length_nil]; omega)) aP aD aC (⟨i + 1, by omega, rfl, fun j hj h0 => ?_, rfl, rfl, rfl⟩)
    by_cases e : j = i
    ·subst e; rw [ei]; exact hlt
    ·exact hP j (by omega) h0
   ·repeat (refine aK ?_)
    (repeat refine aG ?_); refine dS [0, 1, 2, 3, 4, 5, 6, 7, 8, 9, 10, 11, 12, 13] [0, 0, 0, 0, 0, 0, 0, 0, 0, 0, 0, 0, 0, 0] mixed (by kernel_rfl) ?_
    repeat (refine aK ?_)
    refine aH (by first | exact .inl rfl | exact .inr rfl) rfl rfl _ _ aD aC (⟨rfl, rfl, congrArg Value.bool (bB (fun h => hlt (by have := h i (by omega) hi0; rwa [ei] at this))).symm⟩)
  ·obtain rfl : i = 0 := by omega
   repeat (refine aK ?_)
   (repeat refine aG ?_); refine dS [0, 1, 2, 3, 4, 5, 6, 7, 8, 9, 10, 11, 12, 13] [0, 0, 0, 0, 0, 0, 0, 0, 0, 0, 0, 0, 0, 0] mixed (by kernel_rfl) ?_
   repeat (refine aK ?_)
   refine aL (n - (0 + 1)) _ _ _ (by first | omega | (simp only [List.length_append, List.length_cons, List.length_nil]; omega)) aP aD aC (⟨0 + 1, by omega, rfl, fun j hj h0 => by omega, rfl, rfl, rfl⟩)
 ·repeat (refine aK ?_)
  refine aH (by first | exact .inl rfl | exact .inr rfl) rfl rfl _ _ aD aC (⟨rfl, rfl, congrArg Value.bool (bJ (fun i hi h0 => hP i (by omega) h0)).symm⟩)
theorem aTR {b : Nat} {q : Option Addr} {n c : Nat} {x : Int} (hn : (n : Int) ≤ 9223372036854775807) (hb : aO (some ⟨b, 0, none⟩) [.slice q n c] ∈ I0) :
  CD Tryz.prog 126 [.int .i64 x, .pointer (some ⟨b, 0, none⟩)] X w0 M0 I0 (fun v M I => M0 = M ∧ I0 = I ∧ v = .bool (B (x < 0 ∨ (n : Int) ≤ x))) := by
 refine aX Tryz.func126 rfl Tryz.ntmps126 rfl ?_
 by_cases h0 : x < 0
 ·repeat (refine aK ?_)
  refine aH (by first | exact .inl rfl | exact .inr rfl) rfl rfl _ _ aD aC (⟨rfl, rfl, congrArg Value.bool (bJ (.inl h0)).symm⟩)
 ·repeat (refine aK ?_)
  refine aH (by first | exact .inl rfl | exact .inr rfl) rfl rfl _ _ aD aC (⟨rfl, rfl, congrArg Value.bool (gY ⟨fun h => .inr h, fun h => by omega⟩)⟩)
theorem aAC {q qs : Option Addr} {l : List Q4} {smp : List Int} {n c ns cs : Nat} (hl : l.length = n) (hn : (n : Int) ≤ 9223372036854775807) (hsl : smp.length = ns) (hns : ns ≤ 1000) (hqs : aO qs (recs eZ smp) ∈ I0) :
  CD Tryz.prog 77 [.slice q n c, .slice qs ns cs] X w0 M0 I0 (fun v M I => M0 = M ∧ I0 = I ∧ v = .int .i64 (xX n smp)) := by
 have hA := fun M0 I0 h => aWZ (X := X) (w0 := w0) (M0 := M0) (I0 := I0) (q := qs) (l := smp) (n := ns) (c := cs) hsl hns h
 subst hsl
 have hH := fun b M0 I0 h1 h2 => aTH (X := X) (w0 := w0) (M0 := M0) (I0 := I0) (p := qs) (a := smp) (c := cs) (g := 126) (fs := #[]) (cs := #[.pointer (some ⟨b, 0, none⟩)]) (fun x => x < 0 ∨ (n : Int) ≤ x) (by omega) h1 (fun i _ => aTR (b := b) (q := q) (n := n) (c := c) hn h2)
 refine aX Tryz.func77 rfl Tryz.ntmps77 rfl ?_
 refine aG ?_
 refine aJ ?_
 (refine oC rfl rfl rfl ?_; intro b2; refine ⟨okF, ?_⟩)
 by_cases ha : aCP smp
 ·rw [bJ ha] at hA
  by_cases ho : aPB n smp
  ·rw [show xX n smp = 6 by unfold xX; rw [if_neg (fun h => h ha), if_pos ho]]
   repeat (refine aK ?_)
   (refine aA rfl (hA _ _ aB) rfl rfl ?_; rintro _ _ _ ⟨rfl, rfl, rfl⟩; refine ⟨okF, ?_⟩)
   repeat (refine aK ?_)
   (refine aA rfl (hH b2 _ _ aB aB) rfl rfl ?_; rintro _ _ _ ⟨rfl, rfl, rfl⟩; refine ⟨okF, ?_⟩)
   rw [bJ (show ∃ x ∈ smp, x < 0 ∨ (n : Int) ≤ x from ho)]
   repeat (refine aK ?_)
   refine gZ (M' := M0) (I' := I0) aD aC ?_
   refine aH (by first | exact .inl rfl | exact .inr rfl) rfl rfl _ _ aD aC (⟨rfl, rfl, rfl⟩)
  ·rw [show xX n smp = 0 by unfold xX; rw [if_neg (fun h => h ha), if_neg ho]]
   repeat (refine aK ?_)
   (refine aA rfl (hA _ _ aB) rfl rfl ?_; rintro _ _ _ ⟨rfl, rfl, rfl⟩; refine ⟨okF, ?_⟩)
   repeat (refine aK ?_)
   (refine aA rfl (hH b2 _ _ aB aB) rfl rfl ?_; rintro _ _ _ ⟨rfl, rfl, rfl⟩; refine ⟨okF, ?_⟩)
   rw [bB (show ¬ ∃ x ∈ smp, x < 0 ∨ (n : Int) ≤ x from ho)]
   repeat (refine aK ?_)
   refine gZ (M' := M0) (I' := I0) aD aC ?_
   refine aH (by first | exact .inl rfl | exact .inr rfl) rfl rfl _ _ aD aC (⟨rfl, rfl, rfl⟩)
 ·rw [bB ha] at hA
  rw [show xX n smp = 5 by unfold xX; rw [if_pos ha]]
  repeat (refine aK ?_)
  (refine aA rfl (hA _ _ aB) rfl rfl ?_; rintro _ _ _ ⟨rfl, rfl, rfl⟩; refine ⟨okF, ?_⟩)
  repeat (refine aK ?_)
  refine gZ (M' := M0) (I' := I0) aD aC ?_
  refine aH (by first | exact .inl rfl | exact .inr rfl) rfl rfl _ _ aD aC (⟨rfl, rfl, rfl⟩)
end
end Go.Proofs.YtjbhdfpjnjedhaaGreat
namespace Go.Fx
open Go
section
variable {P : Program} {n : Nat} {G : Env} {C : World → Prop} {ty : TypeId}
end
end Go.Fx
namespace Go.Proofs.YtjbhdfpjnjedhaaGreat
open Go Go.Fx
section
variable {X : List Nat} {w0 : World} {M0 M1 M2 : List Ent} {I0 : List aY}
def inB (x : Int) : Prop := (-9223372036854775808 ≤ x ∧ x ≤ 9223372036854775807) ∧ x.natAbs ≤ 2 ^ 16
end
end Go.Proofs.YtjbhdfpjnjedhaaGreat
namespace Go.Proofs.YtjbhdfpjnjedhaaGreat
open Go Go.Fx
def NlR (A : Mt) (C k : Nat) (M0 : List Ent) (I0 : List aY) (v : Value) (M : List Ent) (I : List aY) : Prop :=
 M0 = M ∧ ∃ m : MX, v = mv m ∧ m.q = aUU A C ∧ (∀ r ∈ m.rows, r.es.length = C) ∧ I = jF m k :: I0
section
variable {X : List Nat} {w0 : World} {M : List Ent} {I : List aY}
variable {P : Program} {n : Nat} {Q : Exit → Act → World → Prop} {G : Env}
end
section
variable {X : List Nat} {w0 : World} {M0 : List Ent} {I0 : List aY}
end
end Go.Proofs.YtjbhdfpjnjedhaaGreat
namespace Go.Proofs.YtjbhdfpjnjedhaaGreat
open Go Go.Fx
def besM (R C D : Nat) (A B : Mt) : Mt := xW R (C + D) (fun i j => if j < C then at2 A i j else at2 B i (j - C))
def SolR (l : List Rat) (k : Nat) (M0 : List Ent) (I0 : List aY) (v : Value) (M : List Ent) (I : List aY) : Prop := M0 = M ∧ ∃ r : RL, v = .tuple #[lv r, .bool true] ∧ r.q = l ∧ I = iZ r k :: I0
section
variable {X : List Nat} {w0 : World} {M0 : List Ent} {I0 : List aY}
end
end Go.Proofs.YtjbhdfpjnjedhaaGreat

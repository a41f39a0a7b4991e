/- The law ConsensusErrors, walked. The law ConsensusDensest, walked. -/
import Derived.Test.YtjbhdfpjnjedhaaGreatZnbn
import Derived.Test.YtjbhdfpjnjedhaaGreatZnal
import Derived.Test.YtjbhdfpjnjedhaaGreatZnan
import Derived.Test.YtjbhdfpjnjedhaaGreatZnbm
import Derived.Test.YtjbhdfpjnjedhaaGreatZnbh
import Derived.Test.YtjbhdfpjnjedhaaGreatZnba
set_option linter.unusedSimpArgs false
set_option linter.unusedVariables false
set_option maxRecDepth 100000
set_option maxHeartbeats 4000000
namespace Go.Proofs.YtjbhdfpjnjedhaaGreat
open Go Go.Fx
theorem aRT {α : Type} [Inhabited α] {p : α → Prop} {l : List α} {n : Nat} (h : ∀ j : Nat, j < n → p (gt l (j : Int))) (hn : l.length ≤ n) : ∀ a ∈ l, p a := fun a ha => by
 obtain ⟨j, hj, rfl⟩ := List.mem_iff_getElem.1 ha
 have := h j (by omega)
 rwa [fK hj] at this
theorem aSD {p : Nat → Prop} {i : Nat} (h : ∀ j, j < i → p j) (hi : p i) : ∀ j, j < i + 1 → p j := fun j hj => by
 by_cases e : j = i
 ·rw [e]; exact hi
 ·exact h j (by omega)
section
variable {X : List Nat} {w0 : World} {M0 M1 M2 : List Ent} {I0 : List bA}
theorem aOV {r : RW} (hw : Hv I0 (isW r)) : CD Tryz.prog 26 [wv r] X w0 M0 I0 (fun v M I => M0 = M ∧ I0 = I ∧ v = .bool (B (¬ r.brief))) := by
 have hB := fun M0 I0 h => aOK (X := X) (w0 := w0) (M0 := M0) (I0 := I0) (r := r) h
 refine cK (φ := isW r) hw ?_
 refine aX Tryz.func26 rfl Tryz.ntmps26 rfl ?_
 refine aH ?_
 refine aJ ?_
 (refine aQ rfl rfl rfl ?_; intro b1; refine ⟨okF, ?_⟩)
 repeat (refine aK ?_)
 (refine aA rfl (hB _ _ (Hv.mem aB)) rfl rfl ?_; rintro _ _ _ ⟨rfl, rfl, rfl⟩; refine ⟨okF, ?_⟩)
 repeat (refine aK ?_)
 refine gW (M' := M0) (I' := I0) aD aC ?_
 refine aI (by first | exact .inl rfl | exact .inr rfl) rfl rfl _ _ aD aC (⟨rfl, rfl, rfl⟩)
theorem LErrs {a : WM} {q : Option Addr} {l : List Q4} {n c : Nat} {tol : Int} (hl : l.length = n) (hn : (n : Int) ≤ 9223372036854775807) (hq : aP q (recs kG l) ∈ I0) (ha : kR a ∈ I0) :
  CD Tryz.prog 6 [mvW a, .slice q n c, .int .i64 tol] X w0 M0 I0 (fun v M I => M0 = M ∧ I0 = I ∧ v = .bool true) := by
 have hKn := fun M0 I0 => aHR (X := X) (w0 := w0) (M0 := M0) (I0 := I0)
 have hCh := fun M0 I0 h => aMS (X := X) (w0 := w0) (M0 := M0) (I0 := I0) (q := q) (l := l) (n := n) (c := c) hl hn h
 refine tT (fun w hw => Mem.fitM ha hw) (fun hf => ?_)
 refine cK (φ := kR a) (Hv.mem ha) (cK (φ := aP q (recs kG l)) (Hv.mem (List.mem_cons_of_mem _ hq)) ?_)
 refine jT Tryz.func6 rfl Tryz.ntmps6 rfl ?_
 repeat (refine aK ?_)
 (refine aA rfl (hKn _ _) rfl rfl ?_; rintro _ _ _ ⟨rfl, rfl, rfl⟩; refine ⟨okF, ?_⟩)
 repeat (refine aK ?_)
 (refine aA rfl (aTD) rfl rfl ?_; rintro _ _ _ ⟨rfl, rfl, rfl⟩; refine ⟨okF, ?_⟩)
 by_cases h10 : (n : Int) ≤ 10
 case neg =>
  repeat (refine aK ?_)
  refine gW (M' := M0) (I' := I0) aD aC ?_
  refine aI (by first | exact .inl rfl | exact .inr rfl) rfl rfl _ _ aD aC (⟨rfl, rfl, rfl⟩)
 by_cases ha4 : 4 < a.rows.length
 ·repeat (refine aK ?_)
  refine gW (M' := M0) (I' := I0) aD aC ?_
  refine aI (by first | exact .inl rfl | exact .inr rfl) rfl rfl _ _ aD aC (⟨rfl, rfl, rfl⟩)
 repeat (refine aK ?_)
 refine iJ (φ := aP a.p (recs zA a.rows)) (Hv.wmsl aB) ?_
 refine aS [0, 1, 2, 29, 30] rfl (fun k G M I => ∃ i : Nat, i ≤ a.rows.length ∧ k = a.rows.length - i ∧ (∀ j : Nat, j < i → (gt a.rows (j : Int)).es.length ≤ 4 ∧ ∀ e ∈ (gt a.rows (j : Int)).es, e.brief) ∧ G = [(31, .int .i64 i)] ∧ M0 = M ∧ I = aP a.p (recs zA a.rows) :: aP q (recs kG l) :: kR a :: I0) (a.rows.length) _ _ _ aM aD aC (⟨0, by omega, rfl, fun j hj => by omega, rfl, rfl, rfl⟩) ?_
 rintro kk G M I ⟨i, hi, rfl, hP, rfl, rfl, rfl⟩
 by_cases hin : i < a.rows.length
 ·refine iJ (φ := wC (gt a.rows (i : Int))) (Hv.wmrow aB (by omega)) ?_
  refine iJ (φ := aP (gt a.rows (i : Int)).p (recs eW (gt a.rows (i : Int)).es)) (Hv.wlsl (List.Mem.head _)) ?_
  obtain ⟨r, hr⟩ : ∃ r, gt a.rows (i : Int) = r := ⟨_, rfl⟩
  rw [hr]
  have hH := fun M0 I0 (h1 : aP r.p (recs eW r.es) ∈ I0) (h2 : wC r ∈ I0) (h3 : (r.es.length : Int) ≤ 9223372036854775807) => aGP (X := X) (w0 := w0) (M0 := M0) (I0 := I0) (q := r.p) (a := r.es) (c := r.c) (g := 26) (fs := #[]) (cs := #[]) (fun r => ¬ r.brief) h3 h1 (fun i hi => aOV (Hv.wlel h2 (by omega)))
  by_cases h5 : 4 < r.es.length
  ·repeat (refine aK ?_)
   rw [hr]
   repeat (refine aK ?_)
   refine gW (M' := M0) (I' := I0) aD aC ?_
   refine aI (by first | exact .inl rfl | exact .inr rfl) rfl rfl _ _ aD aC (⟨rfl, rfl, rfl⟩)
  ·by_cases hbr : ∀ e ∈ r.es, e.brief
   ·rw [aZ (show ¬ ∃ x ∈ r.es, ¬ x.brief from fun ⟨x, hx, hn⟩ => hn (hbr x hx))] at hH
    repeat (refine aK ?_)
    rw [hr]
    repeat (refine aK ?_)
    (refine aA rfl (hH _ _ aB aB (by omega)) rfl rfl ?_; rintro _ _ _ ⟨rfl, rfl, rfl⟩; refine ⟨okF, ?_⟩)
    repeat (refine aK ?_)
    refine aL (a.rows.length - (i + 1)) _ _ _ (by first | omega | (simp only [List.length_append, List.length_cons, List.length_nil]; omega)) aM aD aC (⟨i + 1, by omega, rfl, aSD hP (by rw [hr]; exact ⟨by omega, hbr⟩), rfl, rfl, rfl⟩)
   ·rw [bH (show ∃ x ∈ r.es, ¬ x.brief from Classical.byContradiction (fun hn => hbr (fun x hx => Classical.byContradiction (fun h => hn ⟨x, hx, h⟩))))] at hH
    repeat (refine aK ?_)
    rw [hr]
    repeat (refine aK ?_)
    (refine aA rfl (hH _ _ aB aB (by omega)) rfl rfl ?_; rintro _ _ _ ⟨rfl, rfl, rfl⟩; refine ⟨okF, ?_⟩)
    repeat (refine aK ?_)
    refine gW (M' := M0) (I' := I0) aD aC ?_
    refine aI (by first | exact .inl rfl | exact .inr rfl) rfl rfl _ _ aD aC (⟨rfl, rfl, rfl⟩)
 have h4 : fourS a := ⟨by omega, fun r hr => aRT (p := fun r => r.es.length ≤ 4 ∧ ∀ e ∈ r.es, e.brief) hP (by omega) r hr⟩
 rcases aLJ hf h4 with hN | ⟨A, rfl, fA, hd⟩
 ·have hV := fun M0 I0 h => aLQ (X := X) (w0 := w0) (M0 := M0) (I0 := I0) (a := a) h4 hN h
  by_cases hc : jW l = 0
  ·have hI := fun M0 I0 h1 h2 => aVA (X := X) (w0 := w0) (M0 := M0) (I0 := I0) (a := a) (q := q) (l := l) (n := n) (c := c) (tol := tol) hl hn hc h4 hN h1 h2
   rw [hc] at hCh
   repeat (refine aK ?_)
   (refine aA rfl (hI _ _ aB aB) rfl rfl ?_; rintro _ _ _ ⟨rfl, rfl, rfl⟩; refine ⟨okF, ?_⟩)
   repeat (refine aK ?_)
   (refine aA rfl (hCh _ _ aB) rfl rfl ?_; rintro _ _ _ ⟨rfl, rfl, rfl⟩; refine ⟨okF, ?_⟩)
   repeat (refine aK ?_)
   (refine aA rfl (hV _ _ aB) rfl rfl ?_; rintro _ _ _ ⟨rfl, rfl, rfl⟩; refine ⟨okF, ?_⟩)
   repeat (refine aK ?_)
   refine aS [0, 90, 91] rfl (fun k G M I => ∃ i : Nat, i ≤ n ∧ k = n - i ∧ G = [(92, .int .i64 i)] ∧ M0 = M ∧ I = aP q (recs kG l) :: kR a :: I0) (n) _ _ _ aM aD aC (⟨0, by omega, rfl, rfl, rfl, rfl⟩) ?_
   rintro kk G M I ⟨i, hi, rfl, rfl, rfl, rfl⟩
   by_cases hin : i < n
   ·obtain ⟨s, hss⟩ : ∃ s, gt l (i : Int) = s := ⟨_, rfl⟩
    have hE := fun M0 I0 h => aNP (X := X) (w0 := w0) (M0 := M0) (I0 := I0) (a := a) (s := s) h4 hN h
    repeat (refine aK ?_)
    rw [hss]
    (refine aG rfl rfl ?_; intro b13; refine ⟨okF, ?_⟩)
    repeat (refine aK ?_)
    (refine aA rfl (hE _ _ aB) rfl rfl ?_; rintro _ _ _ ⟨rfl, rfl, rfl⟩; refine ⟨okF, ?_⟩)
    repeat (refine aK ?_)
    (refine aG rfl rfl ?_; intro b14; refine ⟨okF, ?_⟩)
    repeat (refine aK ?_)
    (refine aA rfl (hV _ _ aB) rfl rfl ?_; rintro _ _ _ ⟨rfl, rfl, rfl⟩; refine ⟨okF, ?_⟩)
    repeat (refine aK ?_)
    refine aL (n - (i + 1)) _ _ _ (by first | omega | (simp only [List.length_append, List.length_cons, List.length_nil]; omega)) aM aD aC (⟨i + 1, by omega, rfl, rfl, rfl, rfl⟩)
   ·repeat (refine aK ?_)
    refine gW (M' := M0) (I' := I0) aD aC ?_
    refine aI (by first | exact .inl rfl | exact .inr rfl) rfl rfl _ _ aD aC (⟨rfl, rfl, rfl⟩)
  ·have hI := fun M0 I0 h1 => aJL (X := X) (w0 := w0) (M0 := M0) (I0 := I0) (m := mvW a) (q := q) (l := l) (n := n) (c := c) (tol := tol) hl hn hc h1
   obtain ⟨C, hC⟩ : ∃ C, jW l = C := ⟨_, rfl⟩
   rw [hC] at hc
   simp only [hC] at hCh hI
   repeat (refine aK ?_)
   (refine aA rfl (hI _ _ aB) rfl rfl ?_; rintro _ _ _ ⟨rfl, rfl, rfl⟩; refine ⟨okF, ?_⟩)
   repeat (refine aK ?_)
   (refine aA rfl (hCh _ _ aB) rfl rfl ?_; rintro _ _ _ ⟨rfl, rfl, rfl⟩; refine ⟨okF, ?_⟩)
   repeat (refine aK ?_)
   refine aS [0, 90, 91] rfl (fun k G M I => ∃ i : Nat, i ≤ n ∧ k = n - i ∧ G = [(92, .int .i64 i)] ∧ M0 = M ∧ I = aP q (recs kG l) :: kR a :: I0) (n) _ _ _ aM aD aC (⟨0, by omega, rfl, rfl, rfl, rfl⟩) ?_
   rintro kk G M I ⟨i, hi, rfl, rfl, rfl, rfl⟩
   by_cases hin : i < n
   ·obtain ⟨s, hss⟩ : ∃ s, gt l (i : Int) = s := ⟨_, rfl⟩
    have hE := fun M0 I0 h => aNP (X := X) (w0 := w0) (M0 := M0) (I0 := I0) (a := a) (s := s) h4 hN h
    repeat (refine aK ?_)
    rw [hss]
    (refine aG rfl rfl ?_; intro b13; refine ⟨okF, ?_⟩)
    repeat (refine aK ?_)
    (refine aA rfl (hE _ _ aB) rfl rfl ?_; rintro _ _ _ ⟨rfl, rfl, rfl⟩; refine ⟨okF, ?_⟩)
    repeat (refine aK ?_)
    (refine aG rfl rfl ?_; intro b14; refine ⟨okF, ?_⟩)
    repeat (refine aK ?_)
    (refine aA rfl (hV _ _ aB) rfl rfl ?_; rintro _ _ _ ⟨rfl, rfl, rfl⟩; refine ⟨okF, ?_⟩)
    repeat (refine aK ?_)
    refine aL (n - (i + 1)) _ _ _ (by first | omega | (simp only [List.length_append, List.length_cons, List.length_nil]; omega)) aM aD aC (⟨i + 1, by omega, rfl, rfl, rfl, rfl⟩)
   ·repeat (refine aK ?_)
    refine gW (M' := M0) (I' := I0) aD aC ?_
    refine aI (by first | exact .inl rfl | exact .inr rfl) rfl rfl _ _ aD aC (⟨rfl, rfl, rfl⟩)
 ·have hV := fun M0 I0 h => aHJ (X := X) (w0 := w0) (M0 := M0) (I0 := I0) (A := A) fA hd h4 h
  rw [← lL A] at hV
  refine iJ (φ := iL A 30) (Hv.shtX rfl h4.sht aB) ?_
  by_cases hc : jW l = 0
  ·obtain ⟨⟨hn1, hn2⟩, hs⟩ := yU hc
   rw [hl] at hn1 hn2
   rw [hc] at hCh
   by_cases ht : tolP tol
   ·have hI := fun M0 I0 h1 h2 => aVH (X := X) (w0 := w0) (M0 := M0) (I0 := I0) (A := A) (q := q) (l := l) (n := n) (c := c) (tol := tol) hl hn2 hs hc ht fA hd h1 h2
    have hL := fun M0 I0 h1 h2 => aSX (X := X) (w0 := w0) (M0 := M0) (I0 := I0) (m := A) (q := q) (l := l) (n := n) (c := c) (tol := tol) fA.1 hl hn2 hs ht h1 h2
    rw [← lL A] at hI hL
    have hzl : (jJ A.q l tol).length ≤ 64 := by
     have h : (aCB A.q l tol l.length).length ≤ l.length := qV
     have h' : (jJ A.q l tol).length ≤ l.length := h
     omega
    obtain ⟨zs, hzs⟩ : ∃ zs, jJ A.q l tol = zs := ⟨_, rfl⟩
    rw [hzs] at hzl
    simp only [hzs] at hI hL
    obtain ⟨ht1, ht2⟩ := ht
    repeat (refine aK ?_)
    (refine aA rfl (hI _ _ aB aB) rfl rfl ?_; rintro _ _ _ ⟨rfl, qz, cz1, rfl, rfl⟩; refine ⟨okF, ?_⟩)
    repeat (refine aK ?_)
    (refine aA rfl (hCh _ _ aB) rfl rfl ?_; rintro _ _ _ ⟨rfl, rfl, rfl⟩; refine ⟨okF, ?_⟩)
    repeat (refine aK ?_)
    (refine aA rfl (hV _ _ aB) rfl rfl ?_; rintro _ _ _ ⟨rfl, rfl, rfl⟩; refine ⟨okF, ?_⟩)
    repeat (refine aK ?_)
    (refine aA rfl (hL _ _ aB aB) rfl rfl ?_; rintro _ _ _ ⟨rfl, qy, cy1, rfl, rfl⟩; refine ⟨okF, ?_⟩)
    repeat (refine aK ?_)
    have hEq := fun M0 I0 h1 h2 => aHV (X := X) (w0 := w0) (M0 := M0) (I0 := I0) (p := qz) (q := qy) (a := zs) (b := zs) (c := cz1) (c' := cy1) (by omega) h1 h2
    rw [bH (rfl : zs = zs)] at hEq
    (refine aA rfl (hEq _ _ aB aB) rfl rfl ?_; rintro _ _ _ ⟨rfl, rfl, rfl⟩; refine ⟨okF, ?_⟩)
    repeat (refine aK ?_)
    refine wD (M' := M0) (I' := iL A 30 :: aP q (recs kG l) :: kR A.raw :: I0) aD aC ?_
    refine aS [0, 90, 91] rfl (fun k G M I => ∃ i : Nat, i ≤ n ∧ k = n - i ∧ G = [(92, .int .i64 i)] ∧ M0 = M ∧ I = iL A 30 :: aP q (recs kG l) :: kR A.raw :: I0) (n) _ _ _ aM aD aC (⟨0, by omega, rfl, rfl, rfl, rfl⟩) ?_
    rintro kk G M I ⟨i, hi, rfl, rfl, rfl, rfl⟩
    by_cases hin : i < n
    ·obtain ⟨s, hss⟩ : ∃ s, gt l (i : Int) = s := ⟨_, rfl⟩
     have hNx := fun M0 I0 => nD (X := X) (w0 := w0) (M0 := M0) (I0 := I0) (a := s.x) (b := s.y)
     have hNy := fun M0 I0 => nD (X := X) (w0 := w0) (M0 := M0) (I0 := I0) (a := s.u) (b := s.v)
     by_cases hfar : s.far
     ·have hE := fun M0 I0 h => zB (X := X) (w0 := w0) (M0 := M0) (I0 := I0) (A := A) (s := s) hfar fA hd h
      rw [← lL A] at hE
      repeat (refine aK ?_)
      rw [hss]
      (refine aG rfl rfl ?_; intro b13; refine ⟨okF, ?_⟩)
      repeat (refine aK ?_)
      (refine aA rfl (hE _ _ aB) rfl rfl ?_; rintro _ _ _ ⟨rfl, rfl, rfl⟩; refine ⟨okF, ?_⟩)
      repeat (refine aK ?_)
      (refine aG rfl rfl ?_; intro b14; refine ⟨okF, ?_⟩)
      repeat (refine aK ?_)
      (refine aA rfl (hV _ _ aB) rfl rfl ?_; rintro _ _ _ ⟨rfl, rfl, rfl⟩; refine ⟨okF, ?_⟩)
      repeat (refine aK ?_)
      by_cases hf1 : farC s.x s.y
      ·rw [aZ (show ¬ ¬ farC s.x s.y from fun h => h hf1)] at hNx
       (refine aA rfl (hNx _ _) rfl rfl ?_; rintro _ _ _ ⟨rfl, rfl, rfl⟩; refine ⟨okF, ?_⟩)
       repeat (refine aK ?_)
       refine aL (n - (i + 1)) _ _ _ (by first | omega | (simp only [List.length_append, List.length_cons, List.length_nil]; omega)) aM aD aC (⟨i + 1, by omega, rfl, rfl, rfl, rfl⟩)
      ·have hf2 : farC s.u s.v := by
        rcases hfar with h | h
        ·exact absurd h hf1
        ·exact h
       rw [bH hf1] at hNx
       rw [aZ (show ¬ ¬ farC s.u s.v from fun h => h hf2)] at hNy
       (refine aA rfl (hNx _ _) rfl rfl ?_; rintro _ _ _ ⟨rfl, rfl, rfl⟩; refine ⟨okF, ?_⟩)
       repeat (refine aK ?_)
       (refine aA rfl (hNy _ _) rfl rfl ?_; rintro _ _ _ ⟨rfl, rfl, rfl⟩; refine ⟨okF, ?_⟩)
       repeat (refine aK ?_)
       refine aL (n - (i + 1)) _ _ _ (by first | omega | (simp only [List.length_append, List.length_cons, List.length_nil]; omega)) aM aD aC (⟨i + 1, by omega, rfl, rfl, rfl, rfl⟩)
     ·have hE := fun M0 I0 h => aEA (X := X) (w0 := w0) (M0 := M0) (I0 := I0) (A := A) (s := s) hfar fA hd h
      have hMs := fun M0 I0 h => pF (X := X) (w0 := w0) (M0 := M0) (I0 := I0) (m := A) (s := s) fA.1 (sP hfar) h
      rw [← lL A] at hE hMs
      unfold aPU at hE
      unfold aIL at hMs
      rw [bH (show ¬ farC s.x s.y from fun h => hfar (.inl h))] at hNx
      rw [bH (show ¬ farC s.u s.v from fun h => hfar (.inr h))] at hNy
      repeat (refine aK ?_)
      rw [hss]
      (refine aG rfl rfl ?_; intro b13; refine ⟨okF, ?_⟩)
      repeat (refine aK ?_)
      by_cases h0 : mV A.q 2 s = 0
      ·simp only [if_pos h0] at hE hMs
       (refine aA rfl (hE _ _ aB) rfl rfl ?_; rintro _ _ _ ⟨rfl, rfl, rfl⟩; refine ⟨okF, ?_⟩)
       repeat (refine aK ?_)
       (refine aG rfl rfl ?_; intro b14; refine ⟨okF, ?_⟩)
       repeat (refine aK ?_)
       (refine aA rfl (hV _ _ aB) rfl rfl ?_; rintro _ _ _ ⟨rfl, rfl, rfl⟩; refine ⟨okF, ?_⟩)
       repeat (refine aK ?_)
       (refine aA rfl (hNx _ _) rfl rfl ?_; rintro _ _ _ ⟨rfl, rfl, rfl⟩; refine ⟨okF, ?_⟩)
       repeat (refine aK ?_)
       (refine aA rfl (hNy _ _) rfl rfl ?_; rintro _ _ _ ⟨rfl, rfl, rfl⟩; refine ⟨okF, ?_⟩)
       repeat (refine aK ?_)
       (refine aA rfl (hMs _ _ aB) rfl rfl ?_; rintro _ _ _ ⟨rfl, rfl, rfl⟩; refine ⟨okF, ?_⟩)
       repeat (refine aK ?_)
       (refine aG rfl rfl ?_; intro b17; refine ⟨okF, ?_⟩)
       repeat (refine aK ?_)
       refine aL (n - (i + 1)) _ _ _ (by first | omega | (simp only [List.length_append, List.length_cons, List.length_nil]; omega)) aM aD aC (⟨i + 1, by omega, rfl, rfl, rfl, rfl⟩)
      ·simp only [if_neg h0] at hE hMs
       (refine aA rfl (hE _ _ aB) rfl rfl ?_; rintro _ _ _ ⟨rfl, e, rfl, he, rfl⟩; refine ⟨okF, ?_⟩)
       repeat (refine aK ?_)
       (refine aG rfl rfl ?_; intro b14; refine ⟨okF, ?_⟩)
       repeat (refine aK ?_)
       (refine aA rfl (hV _ _ aB) rfl rfl ?_; rintro _ _ _ ⟨rfl, rfl, rfl⟩; refine ⟨okF, ?_⟩)
       repeat (refine aK ?_)
       (refine aA rfl (hNx _ _) rfl rfl ?_; rintro _ _ _ ⟨rfl, rfl, rfl⟩; refine ⟨okF, ?_⟩)
       repeat (refine aK ?_)
       (refine aA rfl (hNy _ _) rfl rfl ?_; rintro _ _ _ ⟨rfl, rfl, rfl⟩; refine ⟨okF, ?_⟩)
       repeat (refine aK ?_)
       (refine aA rfl (hMs _ _ aB) rfl rfl ?_; rintro _ _ _ ⟨rfl, f, rfl, hf, rfl⟩; refine ⟨okF, ?_⟩)
       repeat (refine aK ?_)
       (refine aG rfl rfl ?_; intro b17; refine ⟨okF, ?_⟩)
       repeat (refine aK ?_)
       have hSm := fun M0 I0 h1 h2 => wW (X := X) (w0 := w0) (M0 := M0) (I0 := I0) (a := e) (b := f) (k := kM 30) (m := 1169) (by decide) h1 h2
       rw [bH (show e.q = f.q from he.trans hf.symm)] at hSm
       (refine aA rfl (hSm _ _ (Hv.mem aB) (Hv.mem aB)) rfl rfl ?_; rintro _ _ _ ⟨rfl, rfl, rfl⟩; refine ⟨okF, ?_⟩)
       repeat (refine aK ?_)
       refine aL (n - (i + 1)) _ _ _ (by first | omega | (simp only [List.length_append, List.length_cons, List.length_nil]; omega)) aM aD aC (⟨i + 1, by omega, rfl, rfl, rfl, rfl⟩)
    ·repeat (refine aK ?_)
     refine gW (M' := M0) (I' := I0) aD aC ?_
     refine aI (by first | exact .inl rfl | exact .inr rfl) rfl rfl _ _ aD aC (⟨rfl, rfl, rfl⟩)
   ·have hI := fun M0 I0 h1 h2 => aSI (X := X) (w0 := w0) (M0 := M0) (I0 := I0) (A := A) (q := q) (l := l) (n := n) (c := c) (tol := tol) hl hn hc ht fA hd h1 h2
    rw [← lL A] at hI
    unfold tolP at ht
    by_cases ht0 : tol < 0
    ·repeat (refine aK ?_)
     (refine aA rfl (hI _ _ aB aB) rfl rfl ?_; rintro _ _ _ ⟨rfl, rfl, rfl⟩; refine ⟨okF, ?_⟩)
     repeat (refine aK ?_)
     (refine aA rfl (hCh _ _ aB) rfl rfl ?_; rintro _ _ _ ⟨rfl, rfl, rfl⟩; refine ⟨okF, ?_⟩)
     repeat (refine aK ?_)
     (refine aA rfl (hV _ _ aB) rfl rfl ?_; rintro _ _ _ ⟨rfl, rfl, rfl⟩; refine ⟨okF, ?_⟩)
     repeat (refine aK ?_)
     refine wD (M' := M0) (I' := iL A 30 :: aP q (recs kG l) :: kR A.raw :: I0) aD aC ?_
     refine aS [0, 90, 91] rfl (fun k G M I => ∃ i : Nat, i ≤ n ∧ k = n - i ∧ G = [(92, .int .i64 i)] ∧ M0 = M ∧ I = iL A 30 :: aP q (recs kG l) :: kR A.raw :: I0) (n) _ _ _ aM aD aC (⟨0, by omega, rfl, rfl, rfl, rfl⟩) ?_
     rintro kk G M I ⟨i, hi, rfl, rfl, rfl, rfl⟩
     by_cases hin : i < n
     ·obtain ⟨s, hss⟩ : ∃ s, gt l (i : Int) = s := ⟨_, rfl⟩
      have hNx := fun M0 I0 => nD (X := X) (w0 := w0) (M0 := M0) (I0 := I0) (a := s.x) (b := s.y)
      have hNy := fun M0 I0 => nD (X := X) (w0 := w0) (M0 := M0) (I0 := I0) (a := s.u) (b := s.v)
      by_cases hfar : s.far
      ·have hE := fun M0 I0 h => zB (X := X) (w0 := w0) (M0 := M0) (I0 := I0) (A := A) (s := s) hfar fA hd h
       rw [← lL A] at hE
       repeat (refine aK ?_)
       rw [hss]
       (refine aG rfl rfl ?_; intro b13; refine ⟨okF, ?_⟩)
       repeat (refine aK ?_)
       (refine aA rfl (hE _ _ aB) rfl rfl ?_; rintro _ _ _ ⟨rfl, rfl, rfl⟩; refine ⟨okF, ?_⟩)
       repeat (refine aK ?_)
       (refine aG rfl rfl ?_; intro b14; refine ⟨okF, ?_⟩)
       repeat (refine aK ?_)
       (refine aA rfl (hV _ _ aB) rfl rfl ?_; rintro _ _ _ ⟨rfl, rfl, rfl⟩; refine ⟨okF, ?_⟩)
       repeat (refine aK ?_)
       by_cases hf1 : farC s.x s.y
       ·rw [aZ (show ¬ ¬ farC s.x s.y from fun h => h hf1)] at hNx
        (refine aA rfl (hNx _ _) rfl rfl ?_; rintro _ _ _ ⟨rfl, rfl, rfl⟩; refine ⟨okF, ?_⟩)
        repeat (refine aK ?_)
        refine aL (n - (i + 1)) _ _ _ (by first | omega | (simp only [List.length_append, List.length_cons, List.length_nil]; omega)) aM aD aC (⟨i + 1, by omega, rfl, rfl, rfl, rfl⟩)
       ·have hf2 : farC s.u s.v := by
         rcases hfar with h | h
         ·exact absurd h hf1
         ·exact h
        rw [bH hf1] at hNx
        rw [aZ (show ¬ ¬ farC s.u s.v from fun h => h hf2)] at hNy
        (refine aA rfl (hNx _ _) rfl rfl ?_; rintro _ _ _ ⟨rfl, rfl, rfl⟩; refine ⟨okF, ?_⟩)
        repeat (refine aK ?_)
        (refine aA rfl (hNy _ _) rfl rfl ?_; rintro _ _ _ ⟨rfl, rfl, rfl⟩; refine ⟨okF, ?_⟩)
        repeat (refine aK ?_)
        refine aL (n - (i + 1)) _ _ _ (by first | omega | (simp only [List.length_append, List.length_cons, List.length_nil]; omega)) aM aD aC (⟨i + 1, by omega, rfl, rfl, rfl, rfl⟩)
      ·have hE := fun M0 I0 h => aEA (X := X) (w0 := w0) (M0 := M0) (I0 := I0) (A := A) (s := s) hfar fA hd h
       have hMs := fun M0 I0 h => pF (X := X) (w0 := w0) (M0 := M0) (I0 := I0) (m := A) (s := s) fA.1 (sP hfar) h
       rw [← lL A] at hE hMs
       unfold aPU at hE
       unfold aIL at hMs
       rw [bH (show ¬ farC s.x s.y from fun h => hfar (.inl h))] at hNx
       rw [bH (show ¬ farC s.u s.v from fun h => hfar (.inr h))] at hNy
       repeat (refine aK ?_)
       rw [hss]
       (refine aG rfl rfl ?_; intro b13; refine ⟨okF, ?_⟩)
       repeat (refine aK ?_)
       by_cases h0 : mV A.q 2 s = 0
       ·simp only [if_pos h0] at hE hMs
        (refine aA rfl (hE _ _ aB) rfl rfl ?_; rintro _ _ _ ⟨rfl, rfl, rfl⟩; refine ⟨okF, ?_⟩)
        repeat (refine aK ?_)
        (refine aG rfl rfl ?_; intro b14; refine ⟨okF, ?_⟩)
        repeat (refine aK ?_)
        (refine aA rfl (hV _ _ aB) rfl rfl ?_; rintro _ _ _ ⟨rfl, rfl, rfl⟩; refine ⟨okF, ?_⟩)
        repeat (refine aK ?_)
        (refine aA rfl (hNx _ _) rfl rfl ?_; rintro _ _ _ ⟨rfl, rfl, rfl⟩; refine ⟨okF, ?_⟩)
        repeat (refine aK ?_)
        (refine aA rfl (hNy _ _) rfl rfl ?_; rintro _ _ _ ⟨rfl, rfl, rfl⟩; refine ⟨okF, ?_⟩)
        repeat (refine aK ?_)
        (refine aA rfl (hMs _ _ aB) rfl rfl ?_; rintro _ _ _ ⟨rfl, rfl, rfl⟩; refine ⟨okF, ?_⟩)
        repeat (refine aK ?_)
        (refine aG rfl rfl ?_; intro b17; refine ⟨okF, ?_⟩)
        repeat (refine aK ?_)
        refine aL (n - (i + 1)) _ _ _ (by first | omega | (simp only [List.length_append, List.length_cons, List.length_nil]; omega)) aM aD aC (⟨i + 1, by omega, rfl, rfl, rfl, rfl⟩)
       ·simp only [if_neg h0] at hE hMs
        (refine aA rfl (hE _ _ aB) rfl rfl ?_; rintro _ _ _ ⟨rfl, e, rfl, he, rfl⟩; refine ⟨okF, ?_⟩)
        repeat (refine aK ?_)
        (refine aG rfl rfl ?_; intro b14; refine ⟨okF, ?_⟩)
        repeat (refine aK ?_)
        (refine aA rfl (hV _ _ aB) rfl rfl ?_; rintro _ _ _ ⟨rfl, rfl, rfl⟩; refine ⟨okF, ?_⟩)
        repeat (refine aK ?_)
        (refine aA rfl (hNx _ _) rfl rfl ?_; rintro _ _ _ ⟨rfl, rfl, rfl⟩; refine ⟨okF, ?_⟩)
        repeat (refine aK ?_)
        (refine aA rfl (hNy _ _) rfl rfl ?_; rintro _ _ _ ⟨rfl, rfl, rfl⟩; refine ⟨okF, ?_⟩)
        repeat (refine aK ?_)
        (refine aA rfl (hMs _ _ aB) rfl rfl ?_; rintro _ _ _ ⟨rfl, f, rfl, hf, rfl⟩; refine ⟨okF, ?_⟩)
        repeat (refine aK ?_)
        (refine aG rfl rfl ?_; intro b17; refine ⟨okF, ?_⟩)
        repeat (refine aK ?_)
        have hSm := fun M0 I0 h1 h2 => wW (X := X) (w0 := w0) (M0 := M0) (I0 := I0) (a := e) (b := f) (k := kM 30) (m := 1169) (by decide) h1 h2
        rw [bH (show e.q = f.q from he.trans hf.symm)] at hSm
        (refine aA rfl (hSm _ _ (Hv.mem aB) (Hv.mem aB)) rfl rfl ?_; rintro _ _ _ ⟨rfl, rfl, rfl⟩; refine ⟨okF, ?_⟩)
        repeat (refine aK ?_)
        refine aL (n - (i + 1)) _ _ _ (by first | omega | (simp only [List.length_append, List.length_cons, List.length_nil]; omega)) aM aD aC (⟨i + 1, by omega, rfl, rfl, rfl, rfl⟩)
     ·repeat (refine aK ?_)
      refine gW (M' := M0) (I' := I0) aD aC ?_
      refine aI (by first | exact .inl rfl | exact .inr rfl) rfl rfl _ _ aD aC (⟨rfl, rfl, rfl⟩)
    ·have ht1 : 1073741824 < tol := by omega
     repeat (refine aK ?_)
     (refine aA rfl (hI _ _ aB aB) rfl rfl ?_; rintro _ _ _ ⟨rfl, rfl, rfl⟩; refine ⟨okF, ?_⟩)
     repeat (refine aK ?_)
     (refine aA rfl (hCh _ _ aB) rfl rfl ?_; rintro _ _ _ ⟨rfl, rfl, rfl⟩; refine ⟨okF, ?_⟩)
     repeat (refine aK ?_)
     (refine aA rfl (hV _ _ aB) rfl rfl ?_; rintro _ _ _ ⟨rfl, rfl, rfl⟩; refine ⟨okF, ?_⟩)
     repeat (refine aK ?_)
     refine wD (M' := M0) (I' := iL A 30 :: aP q (recs kG l) :: kR A.raw :: I0) aD aC ?_
     refine aS [0, 90, 91] rfl (fun k G M I => ∃ i : Nat, i ≤ n ∧ k = n - i ∧ G = [(92, .int .i64 i)] ∧ M0 = M ∧ I = iL A 30 :: aP q (recs kG l) :: kR A.raw :: I0) (n) _ _ _ aM aD aC (⟨0, by omega, rfl, rfl, rfl, rfl⟩) ?_
     rintro kk G M I ⟨i, hi, rfl, rfl, rfl, rfl⟩
     by_cases hin : i < n
     ·obtain ⟨s, hss⟩ : ∃ s, gt l (i : Int) = s := ⟨_, rfl⟩
      have hNx := fun M0 I0 => nD (X := X) (w0 := w0) (M0 := M0) (I0 := I0) (a := s.x) (b := s.y)
      have hNy := fun M0 I0 => nD (X := X) (w0 := w0) (M0 := M0) (I0 := I0) (a := s.u) (b := s.v)
      by_cases hfar : s.far
      ·have hE := fun M0 I0 h => zB (X := X) (w0 := w0) (M0 := M0) (I0 := I0) (A := A) (s := s) hfar fA hd h
       rw [← lL A] at hE
       repeat (refine aK ?_)
       rw [hss]
       (refine aG rfl rfl ?_; intro b13; refine ⟨okF, ?_⟩)
       repeat (refine aK ?_)
       (refine aA rfl (hE _ _ aB) rfl rfl ?_; rintro _ _ _ ⟨rfl, rfl, rfl⟩; refine ⟨okF, ?_⟩)
       repeat (refine aK ?_)
       (refine aG rfl rfl ?_; intro b14; refine ⟨okF, ?_⟩)
       repeat (refine aK ?_)
       (refine aA rfl (hV _ _ aB) rfl rfl ?_; rintro _ _ _ ⟨rfl, rfl, rfl⟩; refine ⟨okF, ?_⟩)
       repeat (refine aK ?_)
       by_cases hf1 : farC s.x s.y
       ·rw [aZ (show ¬ ¬ farC s.x s.y from fun h => h hf1)] at hNx
        (refine aA rfl (hNx _ _) rfl rfl ?_; rintro _ _ _ ⟨rfl, rfl, rfl⟩; refine ⟨okF, ?_⟩)
        repeat (refine aK ?_)
        refine aL (n - (i + 1)) _ _ _ (by first | omega | (simp only [List.length_append, List.length_cons, List.length_nil]; omega)) aM aD aC (⟨i + 1, by omega, rfl, rfl, rfl, rfl⟩)
       ·have hf2 : farC s.u s.v := by
         rcases hfar with h | h
         ·exact absurd h hf1
         ·exact h
        rw [bH hf1] at hNx
        rw [aZ (show ¬ ¬ farC s.u s.v from fun h => h hf2)] at hNy
        (refine aA rfl (hNx _ _) rfl rfl ?_; rintro _ _ _ ⟨rfl, rfl, rfl⟩; refine ⟨okF, ?_⟩)
        repeat (refine aK ?_)
        (refine aA rfl (hNy _ _) rfl rfl ?_; rintro _ _ _ ⟨rfl, rfl, rfl⟩; refine ⟨okF, ?_⟩)
        repeat (refine aK ?_)
        refine aL (n - (i + 1)) _ _ _ (by first | omega | (simp only [List.length_append, List.length_cons, List.length_nil]; omega)) aM aD aC (⟨i + 1, by omega, rfl, rfl, rfl, rfl⟩)
      ·have hE := fun M0 I0 h => aEA (X := X) (w0 := w0) (M0 := M0) (I0 := I0) (A := A) (s := s) hfar fA hd h
       have hMs := fun M0 I0 h => pF (X := X) (w0 := w0) (M0 := M0) (I0 := I0) (m := A) (s := s) fA.1 (sP hfar) h
       rw [← lL A] at hE hMs
       unfold aPU at hE
       unfold aIL at hMs
       rw [bH (show ¬ farC s.x s.y from fun h => hfar (.inl h))] at hNx
       rw [bH (show ¬ farC s.u s.v from fun h => hfar (.inr h))] at hNy
       repeat (refine aK ?_)
       rw [hss]
       (refine aG rfl rfl ?_; intro b13; refine ⟨okF, ?_⟩)
       repeat (refine aK ?_)
       by_cases h0 : mV A.q 2 s = 0
       ·simp only [if_pos h0] at hE hMs
        (refine aA rfl (hE _ _ aB) rfl rfl ?_; rintro _ _ _ ⟨rfl, rfl, rfl⟩; refine ⟨okF, ?_⟩)
        repeat (refine aK ?_)
        (refine aG rfl rfl ?_; intro b14; refine ⟨okF, ?_⟩)
        repeat (refine aK ?_)
        (refine aA rfl (hV _ _ aB) rfl rfl ?_; rintro _ _ _ ⟨rfl, rfl, rfl⟩; refine ⟨okF, ?_⟩)
        repeat (refine aK ?_)
        (refine aA rfl (hNx _ _) rfl rfl ?_; rintro _ _ _ ⟨rfl, rfl, rfl⟩; refine ⟨okF, ?_⟩)
        repeat (refine aK ?_)
        (refine aA rfl (hNy _ _) rfl rfl ?_; rintro _ _ _ ⟨rfl, rfl, rfl⟩; refine ⟨okF, ?_⟩)
        repeat (refine aK ?_)
        (refine aA rfl (hMs _ _ aB) rfl rfl ?_; rintro _ _ _ ⟨rfl, rfl, rfl⟩; refine ⟨okF, ?_⟩)
        repeat (refine aK ?_)
        (refine aG rfl rfl ?_; intro b17; refine ⟨okF, ?_⟩)
        repeat (refine aK ?_)
        refine aL (n - (i + 1)) _ _ _ (by first | omega | (simp only [List.length_append, List.length_cons, List.length_nil]; omega)) aM aD aC (⟨i + 1, by omega, rfl, rfl, rfl, rfl⟩)
       ·simp only [if_neg h0] at hE hMs
        (refine aA rfl (hE _ _ aB) rfl rfl ?_; rintro _ _ _ ⟨rfl, e, rfl, he, rfl⟩; refine ⟨okF, ?_⟩)
        repeat (refine aK ?_)
        (refine aG rfl rfl ?_; intro b14; refine ⟨okF, ?_⟩)
        repeat (refine aK ?_)
        (refine aA rfl (hV _ _ aB) rfl rfl ?_; rintro _ _ _ ⟨rfl, rfl, rfl⟩; refine ⟨okF, ?_⟩)
        repeat (refine aK ?_)
        (refine aA rfl (hNx _ _) rfl rfl ?_; rintro _ _ _ ⟨rfl, rfl, rfl⟩; refine ⟨okF, ?_⟩)
        repeat (refine aK ?_)
        (refine aA rfl (hNy _ _) rfl rfl ?_; rintro _ _ _ ⟨rfl, rfl, rfl⟩; refine ⟨okF, ?_⟩)
        repeat (refine aK ?_)
        (refine aA rfl (hMs _ _ aB) rfl rfl ?_; rintro _ _ _ ⟨rfl, f, rfl, hf, rfl⟩; refine ⟨okF, ?_⟩)
        repeat (refine aK ?_)
        (refine aG rfl rfl ?_; intro b17; refine ⟨okF, ?_⟩)
        repeat (refine aK ?_)
        have hSm := fun M0 I0 h1 h2 => wW (X := X) (w0 := w0) (M0 := M0) (I0 := I0) (a := e) (b := f) (k := kM 30) (m := 1169) (by decide) h1 h2
        rw [bH (show e.q = f.q from he.trans hf.symm)] at hSm
        (refine aA rfl (hSm _ _ (Hv.mem aB) (Hv.mem aB)) rfl rfl ?_; rintro _ _ _ ⟨rfl, rfl, rfl⟩; refine ⟨okF, ?_⟩)
        repeat (refine aK ?_)
        refine aL (n - (i + 1)) _ _ _ (by first | omega | (simp only [List.length_append, List.length_cons, List.length_nil]; omega)) aM aD aC (⟨i + 1, by omega, rfl, rfl, rfl, rfl⟩)
     ·repeat (refine aK ?_)
      refine gW (M' := M0) (I' := I0) aD aC ?_
      refine aI (by first | exact .inl rfl | exact .inr rfl) rfl rfl _ _ aD aC (⟨rfl, rfl, rfl⟩)
  ·have hI := fun M0 I0 h1 => aJL (X := X) (w0 := w0) (M0 := M0) (I0 := I0) (m := mvW A.raw) (q := q) (l := l) (n := n) (c := c) (tol := tol) hl hn hc h1
   obtain ⟨C, hC⟩ : ∃ C, jW l = C := ⟨_, rfl⟩
   rw [hC] at hc
   simp only [hC] at hCh hI
   repeat (refine aK ?_)
   (refine aA rfl (hI _ _ aB) rfl rfl ?_; rintro _ _ _ ⟨rfl, rfl, rfl⟩; refine ⟨okF, ?_⟩)
   repeat (refine aK ?_)
   (refine aA rfl (hCh _ _ aB) rfl rfl ?_; rintro _ _ _ ⟨rfl, rfl, rfl⟩; refine ⟨okF, ?_⟩)
   repeat (refine aK ?_)
   refine wD (M' := M0) (I' := iL A 30 :: aP q (recs kG l) :: kR A.raw :: I0) aD aC ?_
   refine aS [0, 90, 91] rfl (fun k G M I => ∃ i : Nat, i ≤ n ∧ k = n - i ∧ G = [(92, .int .i64 i)] ∧ M0 = M ∧ I = iL A 30 :: aP q (recs kG l) :: kR A.raw :: I0) (n) _ _ _ aM aD aC (⟨0, by omega, rfl, rfl, rfl, rfl⟩) ?_
   rintro kk G M I ⟨i, hi, rfl, rfl, rfl, rfl⟩
   by_cases hin : i < n
   ·obtain ⟨s, hss⟩ : ∃ s, gt l (i : Int) = s := ⟨_, rfl⟩
    have hNx := fun M0 I0 => nD (X := X) (w0 := w0) (M0 := M0) (I0 := I0) (a := s.x) (b := s.y)
    have hNy := fun M0 I0 => nD (X := X) (w0 := w0) (M0 := M0) (I0 := I0) (a := s.u) (b := s.v)
    by_cases hfar : s.far
    ·have hE := fun M0 I0 h => zB (X := X) (w0 := w0) (M0 := M0) (I0 := I0) (A := A) (s := s) hfar fA hd h
     rw [← lL A] at hE
     repeat (refine aK ?_)
     rw [hss]
     (refine aG rfl rfl ?_; intro b13; refine ⟨okF, ?_⟩)
     repeat (refine aK ?_)
     (refine aA rfl (hE _ _ aB) rfl rfl ?_; rintro _ _ _ ⟨rfl, rfl, rfl⟩; refine ⟨okF, ?_⟩)
     repeat (refine aK ?_)
     (refine aG rfl rfl ?_; intro b14; refine ⟨okF, ?_⟩)
     repeat (refine aK ?_)
     (refine aA rfl (hV _ _ aB) rfl rfl ?_; rintro _ _ _ ⟨rfl, rfl, rfl⟩; refine ⟨okF, ?_⟩)
     repeat (refine aK ?_)
     by_cases hf1 : farC s.x s.y
     ·rw [aZ (show ¬ ¬ farC s.x s.y from fun h => h hf1)] at hNx
      (refine aA rfl (hNx _ _) rfl rfl ?_; rintro _ _ _ ⟨rfl, rfl, rfl⟩; refine ⟨okF, ?_⟩)
      repeat (refine aK ?_)
      refine aL (n - (i + 1)) _ _ _ (by first | omega | (simp only [List.length_append, List.length_cons, List.length_nil]; omega)) aM aD aC (⟨i + 1, by omega, rfl, rfl, rfl, rfl⟩)
     ·have hf2 : farC s.u s.v := by
       rcases hfar with h | h
       ·exact absurd h hf1
       ·exact h
      rw [bH hf1] at hNx
      rw [aZ (show ¬ ¬ farC s.u s.v from fun h => h hf2)] at hNy
      (refine aA rfl (hNx _ _) rfl rfl ?_; rintro _ _ _ ⟨rfl, rfl, rfl⟩; refine ⟨okF, ?_⟩)
      repeat (refine aK ?_)
      (refine aA rfl (hNy _ _) rfl rfl ?_; rintro _ _ _ ⟨rfl, rfl, rfl⟩; refine ⟨okF, ?_⟩)
      repeat (refine aK ?_)
      refine aL (n - (i + 1)) _ _ _ (by first | omega | (simp only [List.length_append, List.length_cons, List.length_nil]; omega)) aM aD aC (⟨i + 1, by omega, rfl, rfl, rfl, rfl⟩)
    ·have hE := fun M0 I0 h => aEA (X := X) (w0 := w0) (M0 := M0) (I0 := I0) (A := A) (s := s) hfar fA hd h
     have hMs := fun M0 I0 h => pF (X := X) (w0 := w0) (M0 := M0) (I0 := I0) (m := A) (s := s) fA.1 (sP hfar) h
     rw [← lL A] at hE hMs
     unfold aPU at hE
     unfold aIL at hMs
     rw [bH (show ¬ farC s.x s.y from fun h => hfar (.inl h))] at hNx
     rw [bH (show ¬ farC s.u s.v from fun h => hfar (.inr h))] at hNy
     repeat (refine aK ?_)
     rw [hss]
     (refine aG rfl rfl ?_; intro b13; refine ⟨okF, ?_⟩)
     repeat (refine aK ?_)
     by_cases h0 : mV A.q 2 s = 0
     ·simp only [if_pos h0] at hE hMs
      (refine aA rfl (hE _ _ aB) rfl rfl ?_; rintro _ _ _ ⟨rfl, rfl, rfl⟩; refine ⟨okF, ?_⟩)
      repeat (refine aK ?_)
      (refine aG rfl rfl ?_; intro b14; refine ⟨okF, ?_⟩)
      repeat (refine aK ?_)
      (refine aA rfl (hV _ _ aB) rfl rfl ?_; rintro _ _ _ ⟨rfl, rfl, rfl⟩; refine ⟨okF, ?_⟩)
      repeat (refine aK ?_)
      (refine aA rfl (hNx _ _) rfl rfl ?_; rintro _ _ _ ⟨rfl, rfl, rfl⟩; refine ⟨okF, ?_⟩)
      repeat (refine aK ?_)
      (refine aA rfl (hNy _ _) rfl rfl ?_; rintro _ _ _ ⟨rfl, rfl, rfl⟩; refine ⟨okF, ?_⟩)
      repeat (refine aK ?_)
      (refine aA rfl (hMs _ _ aB) rfl rfl ?_; rintro _ _ _ ⟨rfl, rfl, rfl⟩; refine ⟨okF, ?_⟩)
      repeat (refine aK ?_)
      (refine aG rfl rfl ?_; intro b17; refine ⟨okF, ?_⟩)
      repeat (refine aK ?_)
      refine aL (n - (i + 1)) _ _ _ (by first | omega | (simp only [List.length_append, List.length_cons, List.length_nil]; omega)) aM aD aC (⟨i + 1, by omega, rfl, rfl, rfl, rfl⟩)
     ·simp only [if_neg h0] at hE hMs
      (refine aA rfl (hE _ _ aB) rfl rfl ?_; rintro _ _ _ ⟨rfl, e, rfl, he, rfl⟩; refine ⟨okF, ?_⟩)
      repeat (refine aK ?_)
      (refine aG rfl rfl ?_; intro b14; refine ⟨okF, ?_⟩)
      repeat (refine aK ?_)
      (refine aA rfl (hV _ _ aB) rfl rfl ?_; rintro _ _ _ ⟨rfl, rfl, rfl⟩; refine ⟨okF, ?_⟩)
      repeat (refine aK ?_)
      (refine aA rfl (hNx _ _) rfl rfl ?_; rintro _ _ _ ⟨rfl, rfl, rfl⟩; refine ⟨okF, ?_⟩)
      repeat (refine aK ?_)
      (refine aA rfl (hNy _ _) rfl rfl ?_; rintro _ _ _ ⟨rfl, rfl, rfl⟩; refine ⟨okF, ?_⟩)
      repeat (refine aK ?_)
      (refine aA rfl (hMs _ _ aB) rfl rfl ?_; rintro _ _ _ ⟨rfl, f, rfl, hf, rfl⟩; refine ⟨okF, ?_⟩)
      repeat (refine aK ?_)
      (refine aG rfl rfl ?_; intro b17; refine ⟨okF, ?_⟩)
      repeat (refine aK ?_)
      have hSm := fun M0 I0 h1 h2 => wW (X := X) (w0 := w0) (M0 := M0) (I0 := I0) (a := e) (b := f) (k := kM 30) (m := 1169) (by decide) h1 h2
      rw [bH (show e.q = f.q from he.trans hf.symm)] at hSm
      (refine aA rfl (hSm _ _ (Hv.mem aB) (Hv.mem aB)) rfl rfl ?_; rintro _ _ _ ⟨rfl, rfl, rfl⟩; refine ⟨okF, ?_⟩)
      repeat (refine aK ?_)
      refine aL (n - (i + 1)) _ _ _ (by first | omega | (simp only [List.length_append, List.length_cons, List.length_nil]; omega)) aM aD aC (⟨i + 1, by omega, rfl, rfl, rfl, rfl⟩)
   ·repeat (refine aK ?_)
    refine gW (M' := M0) (I' := I0) aD aC ?_
    refine aI (by first | exact .inl rfl | exact .inr rfl) rfl rfl _ _ aD aC (⟨rfl, rfl, rfl⟩)
end
end Go.Proofs.YtjbhdfpjnjedhaaGreat
namespace Go.Proofs.YtjbhdfpjnjedhaaGreat
open Go Go.Fx
section
variable {X : List Nat} {w0 : World} {M0 M1 M2 : List Ent} {I0 : List bA}
end
end Go.Proofs.YtjbhdfpjnjedhaaGreat

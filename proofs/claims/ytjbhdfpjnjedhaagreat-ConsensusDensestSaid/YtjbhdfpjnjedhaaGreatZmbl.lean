/- The law ConsensusDensest, walked. The arguments of the laws of Consensus, opened. -/
import Derived.Test.YtjbhdfpjnjedhaaGreatZmbk
import Derived.Test.YtjbhdfpjnjedhaaGreatZmbe
import Derived.Test.YtjbhdfpjnjedhaaGreatZmaz
import Derived.Test.YtjbhdfpjnjedhaaGreatZmam
set_option linter.unusedSimpArgs false
set_option linter.unusedVariables false
set_option maxRecDepth 100000
set_option maxHeartbeats 4000000
namespace Go.Proofs.YtjbhdfpjnjedhaaGreat
open Go Go.Fx
theorem Hv.wl2q {I : List aX} {b : Nat} {r s : RW} (h1 : aQ (some ⟨b, 0, none⟩) (recs eW [r, s]) ∈ I) (h2 : isW r ∈ I) (h3 : isW s ∈ I) : Hv I (wM ⟨some ⟨b, 0, none⟩, 2, [r, s]⟩) := ⟨fun X w hw => ⟨(hw _ h1 : SlI _ _ X w).go, fun e he => by
 simp only [List.mem_cons, List.not_mem_nil, or_false] at he
 rcases he with rfl | rfl
 ·exact hw _ h2
 ·exact hw _ h3, ⟨Nat.le_refl _, .inl (Ok.mk _ _)⟩⟩⟩
theorem aEG {l : List Q4} {t : Int} : (jY l = 0 ∧ tolD t ∧ wY l t = 0) ∨ (jY l = 0 ∧ ¬ tolD t ∧ wY l t = 2) ∨ (jY l ≠ 0 ∧ wY l t = jY l) := by
 unfold wY
 by_cases h : jY l = 0
 ·rw [if_pos h]
  by_cases h2 : tolD t
  ·exact .inl ⟨h, h2, by rw [if_pos h2]⟩
  ·exact .inr (.inl ⟨h, h2, by rw [if_neg h2]⟩)
 ·exact .inr (.inr ⟨h, by rw [if_neg h]⟩)
section
variable {X : List Nat} {w0 : World} {M0 M1 M2 : List Ent} {I0 : List aX}
theorem aOJ {r : RW} (hw : Hv I0 (isW r)) : CD Tryz.prog 20 [wv r] X w0 M0 I0 (fun v M I => M0 = M ∧ I0 = I ∧ v = .bool (B (¬ r.brief))) := by
 have hB := fun M0 I0 h => aMW (X := X) (w0 := w0) (M0 := M0) (I0 := I0) (r := r) h
 refine dW (φ := isW r) hw ?_
 refine bA Tryz.func20 rfl Tryz.ntmps20 rfl ?_
 refine aG ?_
 refine aH ?_
 (refine aR rfl rfl rfl ?_; intro b1; refine ⟨okF, ?_⟩)
 repeat (refine aL ?_)
 (refine aA rfl (hB _ _ (Hv.mem aB)) rfl rfl ?_; rintro _ _ _ ⟨rfl, rfl, rfl⟩; refine ⟨okF, ?_⟩)
 repeat (refine aL ?_)
 refine iV (M' := M0) (I' := I0) aF aD ?_
 refine aJ (by first | exact .inl rfl | exact .inr rfl) rfl rfl _ _ aF aD (⟨rfl, rfl, rfl⟩)
theorem LDens {q : Option Addr} {l : List Q4} {n c : Nat} {tol : Int} {r0 r1 : RW} (hl : l.length = n) (hn : (n : Int) ≤ 9223372036854775807) (hq : aQ q (recs jZ l) ∈ I0) (h0 : isW r0 ∈ I0) (h1 : isW r1 ∈ I0) :
  CD Tryz.prog 4 [.slice q n c, .int .i64 tol, .agg (recs eW [r0, r1]).toArray] X w0 M0 I0 (fun v M I => M0 = M ∧ I0 = I ∧ v = .bool true) := by
 have hKn := fun M0 I0 => aGK (X := X) (w0 := w0) (M0 := M0) (I0 := I0)
 have hCh := fun M0 I0 h => aLV (X := X) (w0 := w0) (M0 := M0) (I0 := I0) (q := q) (l := l) (n := n) (c := c) hl hn h
 refine qM (fun w hw => Mem.fitR h0 hw) (fun f0 => qM (fun w hw => Mem.fitR h1 hw) (fun f1 => ?_))
 refine dW (φ := isW r0) (Hv.mem h0) (dW (φ := isW r1) (Hv.mem (List.mem_cons_of_mem _ h1)) (dW (φ := aQ q (recs jZ l)) (Hv.mem (List.mem_cons_of_mem _ (List.mem_cons_of_mem _ hq))) ?_))
 refine mJ Tryz.func4 rfl Tryz.ntmps4 rfl ?_
 refine aG ?_
 refine aH ?_
 (refine aR rfl rfl rfl ?_; intro b5; refine ⟨okF, ?_⟩)
 refine aZ (cs := recs eW [r0, r1]) .here ?_
 repeat (refine aL ?_)
 (refine aA rfl (hKn _ _) rfl rfl ?_; rintro _ _ _ ⟨rfl, rfl, rfl⟩; refine ⟨okF, ?_⟩)
 repeat (refine aL ?_)
 (refine aA rfl (aRY) rfl rfl ?_; rintro _ _ _ ⟨rfl, rfl, rfl⟩; refine ⟨okF, ?_⟩)
 by_cases h12 : (n : Int) ≤ 12
 case neg =>
  repeat (refine aL ?_)
  refine iV (M' := M0) (I' := I0) aF aD ?_
  refine aJ (by first | exact .inl rfl | exact .inr rfl) rfl rfl _ _ aF aD (⟨rfl, rfl, rfl⟩)
 repeat (refine aL ?_)
 (refine aC rfl (fun _ => nZ rfl) rfl rfl ?_)
 have hF := fun M0 I0 hw0 hw1 h => aDX (X := X) (w0 := w0) (M0 := M0) (I0 := I0) (q := some ⟨b5, 0, none⟩) (a := [r0, r1]) (c := 2) (g := 20) (fs := #[]) (cs := #[]) (fun r => ¬ r.brief) (by show ((2:Nat):Int) ≤ _; decide) h (fun i hi => aOJ (by
  obtain rfl | rfl : i = 0 ∨ i = 1 := by simp at hi; omega
  ·exact Hv.mem hw0
  ·exact Hv.mem hw1))
 (refine aA rfl (hF _ _ aB aB aB) rfl rfl ?_; rintro _ _ _ ⟨rfl, rfl, rfl⟩; refine ⟨okF, ?_⟩)
 by_cases hbr : r0.brief ∧ r1.brief
 case neg =>
  rw [cB (show ∃ x ∈ [r0, r1], ¬ x.brief from by
   by_cases hb0 : r0.brief
   ·exact ⟨r1, by simp, fun h => hbr ⟨hb0, h⟩⟩
   ·exact ⟨r0, by simp, hb0⟩)]
  repeat (refine aL ?_)
  refine iV (M' := M0) (I' := I0) aF aD ?_
  refine aJ (by first | exact .inl rfl | exact .inr rfl) rfl rfl _ _ aF aD (⟨rfl, rfl, rfl⟩)
 obtain ⟨hb0, hb1⟩ := hbr
 rw [bE (show ¬ ∃ x ∈ [r0, r1], ¬ x.brief from by
  rintro ⟨x, hx, hn⟩
  simp only [List.mem_cons, List.not_mem_nil, or_false] at hx
  rcases hx with rfl | rfl
  ·exact hn hb0
  ·exact hn hb1)]
 rcases aEG (l := l) (t := tol) with ⟨hc0, htl, hd⟩ | ⟨hc0, htl, hd⟩ | ⟨hc0, hd⟩
 case inr.inl =>
  have hDb := fun M0 I0 h => aFM (X := X) (w0 := w0) (M0 := M0) (I0 := I0) (tol := tol) (q := q) (l := l) (n := n) (c := c) hl hn (by rw [hd]; decide) h
  rw [hd] at hDb
  rw [hc0] at hCh
  unfold tolD at htl
  by_cases h1' : tol < 0
  ·repeat (refine aL ?_)
   (refine aA rfl (hDb _ _ aB) rfl rfl ?_; rintro _ _ _ ⟨rfl, rfl, rfl⟩; refine ⟨okF, ?_⟩)
   repeat (refine aL ?_)
   (refine aI rfl rfl ?_; intro b7; refine ⟨okF, ?_⟩)
   repeat (refine aL ?_)
   (refine aA rfl (hCh _ _ aB) rfl rfl ?_; rintro _ _ _ ⟨rfl, rfl, rfl⟩; refine ⟨okF, ?_⟩)
   repeat (refine aL ?_)
   (refine aC rfl (fun _ => aU (pvs := ([]).zipIdx.map (fun p => (p.2, p.1))) (cells := zP2) rfl rfl) rfl rfl ?_)
   (refine aC rfl (fun _ => qO (xs := [0, 0]) (ys := [0, 0]) rfl rfl rfl rfl) rfl rfl ?_)
   rw [cB (show ([0, 0] : List Int) = [0, 0] from rfl)]
   repeat (refine aL ?_)
   refine iV (M' := M0) (I' := I0) aF aD ?_
   refine aJ (by first | exact .inl rfl | exact .inr rfl) rfl rfl _ _ aF aD (⟨rfl, rfl, congrArg Value.bool (cB rfl)⟩)
  ·have h2' : 32768 < tol := by omega
   repeat (refine aL ?_)
   (refine aA rfl (hDb _ _ aB) rfl rfl ?_; rintro _ _ _ ⟨rfl, rfl, rfl⟩; refine ⟨okF, ?_⟩)
   repeat (refine aL ?_)
   (refine aI rfl rfl ?_; intro b7; refine ⟨okF, ?_⟩)
   repeat (refine aL ?_)
   (refine aA rfl (hCh _ _ aB) rfl rfl ?_; rintro _ _ _ ⟨rfl, rfl, rfl⟩; refine ⟨okF, ?_⟩)
   repeat (refine aL ?_)
   (refine aC rfl (fun _ => aU (pvs := ([]).zipIdx.map (fun p => (p.2, p.1))) (cells := zP2) rfl rfl) rfl rfl ?_)
   (refine aC rfl (fun _ => qO (xs := [0, 0]) (ys := [0, 0]) rfl rfl rfl rfl) rfl rfl ?_)
   rw [cB (show ([0, 0] : List Int) = [0, 0] from rfl)]
   repeat (refine aL ?_)
   refine iV (M' := M0) (I' := I0) aF aD ?_
   refine aJ (by first | exact .inl rfl | exact .inr rfl) rfl rfl _ _ aF aD (⟨rfl, rfl, congrArg Value.bool (cB rfl)⟩)
 case inr.inr =>
  have hDb := fun M0 I0 h => aFM (X := X) (w0 := w0) (M0 := M0) (I0 := I0) (tol := tol) (q := q) (l := l) (n := n) (c := c) hl hn (by rw [hd]; exact hc0) h
  rw [hd] at hDb
  obtain ⟨C, hC⟩ : ∃ C, jY l = C := ⟨_, rfl⟩
  rw [hC] at hDb hCh hc0
  repeat (refine aL ?_)
  (refine aA rfl (hDb _ _ aB) rfl rfl ?_; rintro _ _ _ ⟨rfl, rfl, rfl⟩; refine ⟨okF, ?_⟩)
  repeat (refine aL ?_)
  (refine aI rfl rfl ?_; intro b7; refine ⟨okF, ?_⟩)
  repeat (refine aL ?_)
  (refine aA rfl (hCh _ _ aB) rfl rfl ?_; rintro _ _ _ ⟨rfl, rfl, rfl⟩; refine ⟨okF, ?_⟩)
  repeat (refine aL ?_)
  (refine aC rfl (fun _ => aU (pvs := ([]).zipIdx.map (fun p => (p.2, p.1))) (cells := zP2) rfl rfl) rfl rfl ?_)
  (refine aC rfl (fun _ => qO (xs := [0, 0]) (ys := [0, 0]) rfl rfl rfl rfl) rfl rfl ?_)
  rw [cB (show ([0, 0] : List Int) = [0, 0] from rfl)]
  repeat (refine aL ?_)
  refine iV (M' := M0) (I' := I0) aF aD ?_
  refine aJ (by first | exact .inl rfl | exact .inr rfl) rfl rfl _ _ aF aD (⟨rfl, rfl, congrArg Value.bool (cB rfl)⟩)
 case inl =>
  have hDo := fun M0 I0 h => aIN (X := X) (w0 := w0) (M0 := M0) (I0 := I0) (tol := tol) (q := q) (l := l) (n := n) (c := c) hl (by omega) hc0 htl h
  obtain ⟨⟨hn1, _⟩, hs⟩ := yF hc0
  rw [hl] at hn1
  have hLd := fun M0 I0 h => aOI (X := X) (w0 := w0) (M0 := M0) (I0 := I0) (q := q) (l := l) (n := n) (c := c) (tol := tol) hl ⟨hn1, by omega⟩ hs htl h
  rw [hc0] at hCh
  obtain ⟨ht1, ht2⟩ := htl
  repeat (refine aL ?_)
  (refine aA rfl (hDo _ _ aB) rfl rfl ?_; rintro _ _ _ ⟨rfl, rfl, x, y, N, ⟨hN0, hbd⟩, rfl⟩; refine ⟨okF, ?_⟩)
  repeat (refine aL ?_)
  (refine aI rfl rfl ?_; intro b7; refine ⟨okF, ?_⟩)
  repeat (refine aL ?_)
  (refine aA rfl (hCh _ _ aB) rfl rfl ?_; rintro _ _ _ ⟨rfl, rfl, rfl⟩; refine ⟨okF, ?_⟩)
  repeat (refine aL ?_)
  (refine aA rfl (hLd _ _ aB) rfl rfl ?_; rintro _ _ _ ⟨rfl, rfl, x2, y2, N2, ⟨_, hbd2⟩, rfl⟩; refine ⟨okF, ?_⟩)
  obtain ⟨rfl, rfl, rfl⟩ := hbd.uniq hbd2
  repeat (refine aL ?_)
  (refine aI rfl rfl ?_; intro b11; refine ⟨okF, ?_⟩)
  repeat (refine aL ?_)
  (refine aC rfl (fun _ => qO (xs := [x - tol, y - tol]) (ys := [x - tol, y - tol]) rfl rfl rfl rfl) rfl rfl ?_)
  rw [cB (show ([x - tol, y - tol] : List Int) = [x - tol, y - tol] from rfl)]
  repeat (refine aL ?_)
  (refine aC rfl (fun _ => nZ rfl) rfl rfl ?_)
  refine jP (φ := wM ⟨some ⟨b5, 0, none⟩, 2, [r0, r1]⟩) (Hv.wl2q aB aB aB) ?_
  have hV := fun M0 I0 h => aAS (X := X) (w0 := w0) (M0 := M0) (I0 := I0) (r := ⟨some ⟨b5, 0, none⟩, 2, [r0, r1]⟩) ⟨by show 2 ≤ 1000000000; decide, fun e he => by
   simp only [List.mem_cons, List.not_mem_nil, or_false] at he
   rcases he with rfl | rfl
   ·exact hb0.sml
   ·exact hb1.sml⟩ h
  (refine aA rfl (hV _ _ aB) rfl rfl ?_; rintro _ _ _ ⟨rfl, rfl, rfl⟩; refine ⟨okF, ?_⟩)
  by_cases hg : (⟨some ⟨b5, 0, none⟩, 2, [r0, r1]⟩ : WL).good
  case neg =>
   rw [bE hg]
   repeat (refine aL ?_)
   refine iV (M' := M0) (I' := I0) aF aD ?_
   refine aJ (by first | exact .inl rfl | exact .inr rfl) rfl rfl _ _ aF aD (⟨rfl, rfl, rfl⟩)
  rw [cB hg]
  obtain ⟨E0, e0⟩ := RW.good_raw f0 (hg r0 (by simp))
  obtain ⟨E1, e1⟩ := RW.good_raw f1 (hg r1 (by simp))
  refine jP (φ := dM E0 30) (Hv.shtR e0 hb0 aB) ?_
  refine jP (φ := dM E1 30) (Hv.shtR e1 hb1 aB) ?_
  have hWi := fun M0 I0 h h1 h2 => zX (X := X) (w0 := w0) (M0 := M0) (I0 := I0) (q := q) (l := l) (n := n) (c := c) (k0 := 30) (tol := tol) (a := E0) (b := E1) (by omega) hl (by omega) hs ⟨ht1, ht2⟩ h h1 h2
  have hle := aUC hbd E0.q E1.q
  obtain ⟨W, hW⟩ : ∃ W, (iP l).countP (uA tol E0.q E1.q) = W := ⟨_, rfl⟩
  rw [hW] at hWi hle
  subst e0
  subst e1
  repeat (refine aL ?_)
  (refine aA rfl (hWi _ _ aB (Hv.mem aB) (Hv.mem aB)) rfl rfl ?_; rintro _ _ _ ⟨rfl, rfl, rfl⟩; refine ⟨okF, ?_⟩)
  repeat (refine aL ?_)
  refine iV (M' := M0) (I' := I0) aF aD ?_
  refine aJ (by first | exact .inl rfl | exact .inr rfl) rfl rfl _ _ aF aD (⟨rfl, rfl, congrArg Value.bool (cB (by omega))⟩)
end
end Go.Proofs.YtjbhdfpjnjedhaaGreat
namespace Go.Proofs.YtjbhdfpjnjedhaaGreat
open Go Go.Fx
open Go.ChangeShapes Go.WideShapes Go.RowKit Go.ChangeAt
section
variable {H : Type} {enc : TypeId × Value → H} {W : World}
theorem aNI {n : Nat} {cs : List Value} {y : DataW H × List MemPlace} (hl : cs.length = 2) (h : DataW.trod enc Tryz.prog W 0 (fun _ => true) true n 56 cs = some y) : ∃ a b : Int, cs = [.int .i64 a, .int .i64 b] := by
 obtain ⟨xs, rfl, hx, _⟩ := aNP (k := .i64) (m := 2) Tryz.underlying56 (by kernel_rfl) (by intro f hf; simp at hf; rcases hf with rfl | rfl <;> exact Tryz.underlying3) hl h
 obtain ⟨a, b, rfl⟩ := aTT hx
 exact ⟨a, b, rfl⟩
theorem aTE {n : Nat} {cs : List Value} {y : DataW H × List MemPlace} (h : DataW.trod enc Tryz.prog W 0 (fun _ => true) true n 65 cs = some y) : ∃ s : Q4, cs = jZ s ∧ True := by
 obtain ⟨hl, n', z0, z1, h0, h1⟩ := aAA (t0 := 56) (t1 := 56) (m := 2) (k := 2) Tryz.underlying65 (by rfl) (by kernel_rfl) (by kernel_rfl) (by kernel_rfl) h
 obtain ⟨a, b, e0⟩ := aNI (by rw [List.length_take]; omega) h0
 obtain ⟨c, d, e1⟩ := aNI (by rw [List.length_drop]; omega) h1
 refine ⟨⟨a, b, c, d⟩, ?_, trivial⟩
 rw [← List.take_append_drop 2 cs, e0, e1]
 rfl
theorem aNJ {base : Nat} {v : Value} {d : DataW H} {p : List MemPlace} (hv : Value.okWide Tryz.prog W .any base 22 v) (h : DataW.Trod enc Tryz.prog W 0 (fun _ => true) true 22 v d p) : ∃ (a : Option Addr) (ps : List Q4) (c : Nat), v = .slice a ps.length c ∧ Sl [] W a (recs jZ ps) ∧ (ps.length : Int) ≤ 9223372036854775807 := by
 obtain ⟨a, ms, c, e, s, m, l, k, _⟩ := aDZ (en := jZ) (Pm := fun _ => True) Tryz.underlying22 (fun r n y _ hy => aTE hy) hv h
 exact ⟨a, ms, c, e, s, l⟩
theorem aLQ {base : Nat} {v : Value} {d : DataW H} {p : List MemPlace} (hv : Value.okWide Tryz.prog W .any base 51 v) (h : DataW.Trod enc Tryz.prog W 0 (fun _ => true) true 51 v d p) :
  ∃ p0 p1 : RW, v = .agg (recs eW [p0, p1]).toArray ∧ IsW p0 [] W ∧ IsW p1 [] W := by
 simp only [Value.okWide, Tryz.underlying51] at hv
 obtain ⟨cs, rfl, hsz, hrow⟩ := hv
 obtain ⟨fuel, hf⟩ := h
 have hc4 : Tryz.prog.cellsOf 50 = 4 := by kernel_rfl
 have hc8 : Tryz.prog.cellsOf 51 = 8 := by kernel_rfl
 obtain ⟨xs, n, _, hy, hl, hxl, hx⟩ := DataW.trod_array Tryz.underlying51 (show DataW.trod enc Tryz.prog W 0 (fun _ => true) true fuel 51 cs.toList = some (d, p) from hf)
 rw [hc8] at hl
 have each : ∀ i : Nat, i < 2 → ∃ q : RW, (cs.toList.drop (i * 4)).take 4 = eW q ∧ IsW q [] W := fun i hi => by
  have h1 := hx i hi
  rw [hc4, List.getElem?_eq_getElem (by omega)] at h1
  exact aPK h1
 obtain ⟨p0, e0, i0⟩ := each 0 (by omega)
 obtain ⟨p1, e1, i1⟩ := each 1 (by omega)
 refine ⟨p0, p1, ?_, i0, i1⟩
 have e : cs.toList = eW p0 ++ eW p1 := by
  rw [← e0, ← e1]
  simp only [Nat.zero_mul, List.drop_zero, Nat.one_mul]
  rw [List.take_of_length_le (l := cs.toList.drop 4) (by simp at hl ⊢; omega), List.take_append_drop]
 rw [show cs = cs.toList.toArray by simp, e]
 rfl
end
end Go.Proofs.YtjbhdfpjnjedhaaGreat

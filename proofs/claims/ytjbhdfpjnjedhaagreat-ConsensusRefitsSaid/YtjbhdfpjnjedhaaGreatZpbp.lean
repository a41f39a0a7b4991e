/- Chapter 29's law: total. The law ConsensusDensest, walked. The arguments of the laws of Consensus, opened. The arguments of the laws of Consensus, opened: tasks and six numbers. -/
import Derived.Test.YtjbhdfpjnjedhaaGreatZpbo
import Derived.Test.YtjbhdfpjnjedhaaGreatZpan
import Derived.Test.YtjbhdfpjnjedhaaGreatZpbm
import Derived.Test.YtjbhdfpjnjedhaaGreatZpbh
import Derived.Test.YtjbhdfpjnjedhaaGreatZpba
set_option linter.unusedSimpArgs false
set_option linter.unusedVariables false
set_option maxRecDepth 100000
set_option maxHeartbeats 4000000
namespace Go.Proofs.YtjbhdfpjnjedhaaGreat
open Go Go.Fx
section
variable {X : List Nat} {w0 : World} {M0 M1 M2 : List Ent} {I0 : List aY}
theorem aNG {m : MX} {q qs_ : Option Addr} {l : List Q4} {smp : List Int} {n c ns cs_ u : Nat} (hu : u ≤ 250000000) (dm : m.dim 3 3) (hr : ∀ s, nN m.q 2 s ≠ 0) (hl : l.length = n) (hn : n ≤ 64) (hs : ∀ s ∈ l, s.near) (hsl : smp.length = ns) (hns : ns ≤ 12) (hin : ∀ x ∈ smp, 0 ≤ x ∧ x < n) (hm : jF m u ∈ I0) (hq : aO q (recs kU l) ∈ I0) (hqs : aO qs_ (recs eZ smp) ∈ I0) :
  CD Tryz.prog 43 [mv m, .slice q n c, .slice qs_ ns cs_] X w0 M0 I0 (RQ (aNI m.q (kH l smp)) (ns * (24 * u + 449 + 1)) M0 I0) := by
 have hW0 := fun M0 I0 => pF (X := X) (w0 := w0) (M0 := M0) (I0 := I0) (x := 0) (by decide) (k := 0) (by decide)
 obtain ⟨h, hh⟩ : ∃ h, 24 * u + 449 = h := ⟨_, rfl⟩
 have hb : h ≤ 6000000449 := by omega
 have hpl : (kH l smp).length = ns := by rw [xM]; exact hsl
 have hMs := fun (s : Q4) (hs : s.near) M0 I0 h1 => aHE (X := X) (w0 := w0) (M0 := M0) (I0 := I0) (m := m) (s := s) (u := u) (by omega) dm hs h1
 unfold MisK at hMs
 simp only [if_neg (hr _)] at hMs
 rw [hh] at hMs ⊢
 refine cZ (φ := jF m u) (Hv.mem hm) (cZ (φ := aO q (recs kU l)) (Hv.mem (List.mem_cons_of_mem _ hq)) (cZ (φ := aO qs_ (recs eZ smp)) (Hv.mem (List.mem_cons_of_mem _ (List.mem_cons_of_mem _ hqs))) ?_))
 refine jU Tryz.func43 rfl Tryz.ntmps43 rfl ?_
 refine aG ?_
 refine aJ ?_
 (refine aI rfl rfl ?_; intro b6; refine ⟨okF, ?_⟩)
 repeat (refine aK ?_)
 (refine aA rfl (hW0 _ _) rfl rfl ?_; rintro _ _ _ ⟨rfl, e0, rfl, he0, rfl⟩; refine ⟨okF, ?_⟩)
 (refine aI rfl rfl ?_; intro b7; refine ⟨okF, ?_⟩)
 repeat (refine aK ?_)
 refine iB (φ := bS e0 (0 * (h + 1))) (Hv.q (k := 0) aB (Nat.zero_le _)) ?_
 refine aT [0, 1, 6, 7, 13, 14] rfl (fun k G M I => ∃ (i : Nat) (e : RE), i ≤ ns ∧ k = ns - i ∧ e.q = sm i (fun t => aAQ m.q (gt (kH l smp) (t : Int))) ∧ G = [(15, .int .i64 i)] ∧ M = .blk b7 (eR e) 50 :: .blk b6 zRg 50 :: M0 ∧ I = bS e (i * (h + 1)) :: aO qs_ (recs eZ smp) :: aO q (recs kU l) :: jF m u :: I0) (ns) _ _ _ aP aD aC (⟨0, e0, by omega, rfl, he0, rfl, rfl, rfl⟩) ?_
 rintro kk G M I ⟨i, e, hi, rfl, he, rfl, rfl, rfl⟩
 by_cases hii : i < ns
 ·have hzm := hin _ (dF (ms := smp) (i := (i : Int)) (by omega))
  have hpi : gt (kH l smp) (i : Int) = gt l (gt smp (i : Int)) := by
   rw [fB (by omega), fB (ms := smp) (by omega)]
   simp [kH]
  obtain ⟨z, hz⟩ : ∃ z, gt smp (i : Int) = z := ⟨_, rfl⟩
  rw [hz] at hzm hpi
  have hmem := dF (ms := l) (i := z) (by omega)
  obtain ⟨s, hss⟩ : ∃ s, gt l z = s := ⟨_, rfl⟩
  rw [hss] at hmem hpi
  have hMs2 := fun M0 I0 h1 => hMs s (hs s hmem) M0 I0 h1
  have hmul : i * (h + 1) ≤ 12 * (h + 1) := Nat.mul_le_mul_right _ (by omega)
  have hA := fun (f : RE) M0 I0 h1 h2 => rG (X := X) (w0 := w0) (M0 := M0) (I0 := I0) (a := e) (b := f) (k := i * (h + 1)) (m := h) (by omega) h1 h2
  have hk2 : i * (h + 1) + h + 1 = (i + 1) * (h + 1) := by rw [Nat.succ_mul]; omega
  rw [hk2] at hA
  repeat (refine aK ?_)
  rw [hz]
  repeat (refine aK ?_)
  rw [hss]
  repeat (refine aK ?_)
  (refine aA rfl (hMs2 _ _ aB) rfl rfl ?_; rintro _ _ _ ⟨rfl, f, rfl, hf, rfl⟩; refine ⟨okF, ?_⟩)
  repeat (refine aK ?_)
  (refine aI rfl rfl ?_; intro b10; refine ⟨okF, ?_⟩)
  repeat (refine aK ?_)
  (refine aA rfl (hA f _ _ (Hv.mem aB) (Hv.mem aB)) rfl rfl ?_; rintro _ _ _ ⟨rfl, g, rfl, hg, rfl⟩; refine ⟨okF, ?_⟩)
  repeat (refine aK ?_)
  refine aL (ns - (i + 1)) _ _ _ (by first | omega | (simp only [List.length_append, List.length_cons, List.length_nil]; omega)) aP aD aC (⟨i + 1, g, by omega, rfl, by rw [hg, he, hf]; show _ = sm i _ + aAQ m.q (gt (kH l smp) (i : Int)); rw [hpi], rfl, rfl, rfl⟩)
 ·obtain rfl : i = ns := by omega
  repeat (refine aK ?_)
  refine bD (cs := eR e) (.inl rfl) rfl rfl aB rfl M0 (bS e (i * (h + 1)) :: I0) aD aC ⟨rfl, e, rfl, by rw [he]; unfold aNI; rw [hpl], rfl⟩
end
end Go.Proofs.YtjbhdfpjnjedhaaGreat
namespace Go.Proofs.YtjbhdfpjnjedhaaGreat
open Go Go.Fx
section
variable {X : List Nat} {w0 : World} {M0 M1 M2 : List Ent} {I0 : List aY}
end
end Go.Proofs.YtjbhdfpjnjedhaaGreat
namespace Go.Proofs.YtjbhdfpjnjedhaaGreat
open Go Go.Fx
open Go.ChangeShapes Go.WideShapes Go.RowKit Go.ChangeAt
section
variable {H : Type} {enc : TypeId × Value → H} {W : World}
theorem aRG {n : Nat} {cs : List Value} {y : DataW H × List MemPlace} (hl : cs.length = 2) (h : DataW.trod enc Tryz.prog W 0 (fun _ => true) true n 56 cs = some y) : ∃ a b : Int, cs = [.int .i64 a, .int .i64 b] := by
 obtain ⟨xs, rfl, hx, _⟩ := aPW (k := .i64) (m := 2) Tryz.underlying56 (by kernel_rfl) (by intro f hf; simp at hf; rcases hf with rfl | rfl <;> exact Tryz.underlying3) hl h
 obtain ⟨a, b, rfl⟩ := aWY hx
 exact ⟨a, b, rfl⟩
theorem aWD {n : Nat} {cs : List Value} {y : DataW H × List MemPlace} (h : DataW.trod enc Tryz.prog W 0 (fun _ => true) true n 65 cs = some y) : ∃ s : Q4, cs = kU s ∧ True := by
 obtain ⟨hl, n', z0, z1, h0, h1⟩ := aCD (t0 := 56) (t1 := 56) (m := 2) (k := 2) Tryz.underlying65 (by rfl) (by kernel_rfl) (by kernel_rfl) (by kernel_rfl) h
 obtain ⟨a, b, e0⟩ := aRG (by rw [List.length_take]; omega) h0
 obtain ⟨c, d, e1⟩ := aRG (by rw [List.length_drop]; omega) h1
 refine ⟨⟨a, b, c, d⟩, ?_, trivial⟩
 rw [← List.take_append_drop 2 cs, e0, e1]
 rfl
theorem aOR {base : Nat} {v : Value} {d : DataW H} {p : List MemPlace} (hv : Value.okWide Tryz.prog W .any base 22 v) (h : DataW.Trod enc Tryz.prog W 0 (fun _ => true) true 22 v d p) : ∃ (a : Option Addr) (ps : List Q4) (c : Nat), v = .slice a ps.length c ∧ Sl [] W a (recs kU ps) ∧ (ps.length : Int) ≤ 9223372036854775807 := by
 obtain ⟨a, ms, c, e, s, m, l, k, _⟩ := aFQ (en := kU) (Pm := fun _ => True) Tryz.underlying22 (fun r n y _ hy => aWD hy) hv h
 exact ⟨a, ms, c, e, s, l⟩
end
end Go.Proofs.YtjbhdfpjnjedhaaGreat
namespace Go.Proofs.YtjbhdfpjnjedhaaGreat
open Go Go.Fx
open Go.ChangeShapes Go.WideShapes Go.RowKit Go.ChangeAt
abbrev eTk (kd t2 x y : Int) (ex tu : Bool) : List Value := [.int .i64 kd, .int .i64 t2, .int .i16 x, .int .i16 y, .bool ex, .bool tu]
theorem wf16 {x : Int} (h : (Lit.int .i16 x).wf = true) : -32768 ≤ x ∧ x ≤ 32767 := by
 simp [Lit.wf] at h
 have h1 : IntKind.i16.min = -32768 := by decide
 have h2 : IntKind.i16.max = 32767 := by decide
 rw [h1, h2] at h
 exact h
section
variable {H : Type} {enc : TypeId × Value → H} {W : World}
theorem aLZ {base : Nat} {v : Value} {d : DataW H} {p : List MemPlace} (hv : Value.okWide Tryz.prog W .any base 26 v) (h : DataW.Trod enc Tryz.prog W 0 (fun _ => true) true 26 v d p) :
  ∃ (kd t2 x y : Int) (ex tu : Bool), v = .agg (eTk kd t2 x y ex tu).toArray ∧ (-32768 ≤ x ∧ x ≤ 32767) ∧ (-32768 ≤ y ∧ y ≤ 32767) := by
 obtain ⟨cs, rfl, hl, hrow, hf⟩ := aFY Tryz.underlying26 hv h
 have hl6 : cs.length = 6 := by rw [hl]; kernel_rfl
 match cs, hl6 with
 | [c0, c1, c2, c3, c4, c5], _ =>
  obtain ⟨n0, y0, h0⟩ := hf 0 _ rfl
  obtain ⟨n1, y1, h1⟩ := hf 1 _ rfl
  obtain ⟨n2, y2, h2⟩ := hf 2 _ rfl
  obtain ⟨n3, y3, h3⟩ := hf 3 _ rfl
  obtain ⟨n4, y4, h4⟩ := hf 4 _ rfl
  obtain ⟨n5, y5, h5⟩ := hf 5 _ rfl
  have e0 : Tryz.prog.cellsOf 23 = 1 := by kernel_rfl
  have e1 : Tryz.prog.cellsOf 3 = 1 := by kernel_rfl
  have e2 : Tryz.prog.cellsOf 24 = 1 := by kernel_rfl
  have e3 : Tryz.prog.cellsOf 4 = 1 := by kernel_rfl
  replace h0 : DataW.trod enc Tryz.prog W 0 (fun _ => true) true n0 23 (([c0, c1, c2, c3, c4, c5].drop 0).take (Tryz.prog.cellsOf 23)) = some y0 := h0
  replace h1 : DataW.trod enc Tryz.prog W 0 (fun _ => true) true n1 3 (([c0, c1, c2, c3, c4, c5].drop 1).take (Tryz.prog.cellsOf 3)) = some y1 := h1
  replace h2 : DataW.trod enc Tryz.prog W 0 (fun _ => true) true n2 24 (([c0, c1, c2, c3, c4, c5].drop 2).take (Tryz.prog.cellsOf 24)) = some y2 := h2
  replace h3 : DataW.trod enc Tryz.prog W 0 (fun _ => true) true n3 24 (([c0, c1, c2, c3, c4, c5].drop 3).take (Tryz.prog.cellsOf 24)) = some y3 := h3
  replace h4 : DataW.trod enc Tryz.prog W 0 (fun _ => true) true n4 4 (([c0, c1, c2, c3, c4, c5].drop 4).take (Tryz.prog.cellsOf 4)) = some y4 := h4
  replace h5 : DataW.trod enc Tryz.prog W 0 (fun _ => true) true n5 4 (([c0, c1, c2, c3, c4, c5].drop 5).take (Tryz.prog.cellsOf 4)) = some y5 := h5
  rw [e0] at h0
  rw [e1] at h1
  rw [e2] at h2 h3
  rw [e3] at h4 h5
  obtain ⟨x0, q0, _⟩ := uC Tryz.underlying23 h0
  obtain ⟨x1, q1, _⟩ := uC Tryz.underlying3 h1
  obtain ⟨x2, q2, w2⟩ := uC Tryz.underlying24 h2
  obtain ⟨x3, q3, w3⟩ := uC Tryz.underlying24 h3
  obtain ⟨b4, q4, _⟩ := DataW.trod_bool Tryz.underlying4 h4
  obtain ⟨b5, q5, _⟩ := DataW.trod_bool Tryz.underlying4 h5
  simp at q0 q1 q2 q3 q4 q5
  subst q0; subst q1; subst q2; subst q3; subst q4; subst q5
  exact ⟨x0, x1, x2, x3, b4, b5, rfl, wf16 w2, wf16 w3⟩
theorem aNC {base : Nat} {v : Value} {d : DataW H} {p : List MemPlace} (hv : Value.okWide Tryz.prog W .any base 84 v) (h : DataW.Trod enc Tryz.prog W 0 (fun _ => true) true 84 v d p) :
  ∃ p0 p1 p2 p3 p4 p5 : RW, v = .agg (recs eW [p0, p1, p2, p3, p4, p5]).toArray ∧ IsW p0 [] W ∧ IsW p1 [] W ∧ IsW p2 [] W ∧ IsW p3 [] W ∧ IsW p4 [] W ∧ IsW p5 [] W := by
 simp only [Value.okWide, Tryz.underlying84] at hv
 obtain ⟨cs, rfl, hsz, hrow⟩ := hv
 obtain ⟨fuel, hf⟩ := h
 have hc4 : Tryz.prog.cellsOf 50 = 4 := by kernel_rfl
 have hc8 : Tryz.prog.cellsOf 84 = 24 := by kernel_rfl
 obtain ⟨xs, n, _, hy, hl, hxl, hx⟩ := DataW.trod_array Tryz.underlying84 (show DataW.trod enc Tryz.prog W 0 (fun _ => true) true fuel 84 cs.toList = some (d, p) from hf)
 rw [hc8] at hl
 have each : ∀ i : Nat, i < 6 → ∃ q : RW, (cs.toList.drop (i * 4)).take 4 = eW q ∧ IsW q [] W := fun i hi => by
  have h1 := hx i hi
  rw [hc4, List.getElem?_eq_getElem (by omega)] at h1
  exact aPC h1
 obtain ⟨p0, e0, i0⟩ := each 0 (by omega)
 obtain ⟨p1, e1, i1⟩ := each 1 (by omega)
 obtain ⟨p2, e2, i2⟩ := each 2 (by omega)
 obtain ⟨p3, e3, i3⟩ := each 3 (by omega)
 obtain ⟨p4, e4, i4⟩ := each 4 (by omega)
 obtain ⟨p5, e5, i5⟩ := each 5 (by omega)
 refine ⟨p0, p1, p2, p3, p4, p5, ?_, i0, i1, i2, i3, i4, i5⟩
 have e : cs.toList = eW p0 ++ (eW p1 ++ (eW p2 ++ (eW p3 ++ (eW p4 ++ eW p5)))) := by
  have cut : ∀ k : Nat, cs.toList.drop (k * 4) = (cs.toList.drop (k * 4)).take 4 ++ cs.toList.drop ((k + 1) * 4) := fun k => by
   have := (List.take_append_drop 4 (cs.toList.drop (k * 4))).symm
   rwa [List.drop_drop, show k * 4 + 4 = (k + 1) * 4 by omega] at this
  have hz : cs.toList.drop ((5 + 1) * 4) = [] := List.drop_eq_nil_of_le (by omega)
  have h0 := cut 0
  rw [show cs.toList.drop (0 * 4) = cs.toList from rfl] at h0 e0
  rw [h0, cut 1, cut 2, cut 3, cut 4, cut 5, hz, e0, e1, e2, e3, e4, e5, List.append_nil]
 rw [show cs = cs.toList.toArray by simp, e]
 rfl
end
end Go.Proofs.YtjbhdfpjnjedhaaGreat

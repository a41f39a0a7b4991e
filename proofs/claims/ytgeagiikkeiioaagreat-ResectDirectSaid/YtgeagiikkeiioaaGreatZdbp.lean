/- The law's scaled: its walk. The law's direct; no number of the equations' product. The law ResectDirect: what is too long, what is refused. The law ResectDirect, plain: the equations kill what Direct returns. The law ResectDirect at pairs that are accepted. -/
import Derived.Test.YtgeagiikkeiioaaGreatZdbo
import Derived.Test.YtgeagiikkeiioaaGreatZdbg
import Derived.Test.YtgeagiikkeiioaaGreatZdax
set_option linter.unusedSimpArgs false
set_option linter.unusedVariables false
set_option maxRecDepth 100000
set_option maxHeartbeats 4000000
namespace Go.Proofs.YtgeagiikkeiioaaGreat
open Go Go.Fx
theorem pt_b {b o : Nat} : pt (some ⟨b, 0, none⟩) o = ⟨b, o, none⟩ := by simp [pt, bl, of]
theorem aIE {done : List RL} {es : List RE} {e : RE} {l : List Rat} {i : Nat} (h : done.flatMap RL.q ++ qs es = l.take i) (hi : i < l.length) (he : l.getD i 0 = e.q) : done.flatMap RL.q ++ qs (es ++ [e]) = l.take (i + 1) := by
 have : l.take (i + 1) = l.take i ++ [l.getD i 0] := by
  rw [List.take_add_one]; congr 1
  simp [List.getD, hi]
 rw [this, ← h, he]
 simp [qs]
theorem aMW {X : List Nat} {w0 w : World} {M : List Ent} {I : List bD} {q : Option Addr} {mm c sz : Nat} {cs : List Value} {e : TypeId} (h : .row q mm c cs e sz ∈ M) (hp : 0 < mm) (hw : Mem X w0 M I w) : ∃ b, q = some ⟨b, 0, none⟩ := by
 have ho : w.ownsRow 0 e sz (.slice q mm c) mm cs := hw.ent _ h
 rcases ho.2 with ⟨h1, h2⟩ | ⟨g, cap, cur, hv, _⟩
 ·omega
 ·injection hv with e1
  exact ⟨g, e1⟩
section
variable {X : List Nat} {w0 : World} {M0 : List Ent} {I0 : List bD}
theorem aFN {x : RL} {K : Nat} (hK : K ≤ 20000000000) (hl : x.es.length = 12) (hx : iW x K ∈ I0) :
  CD Tryz.prog 36 [lv x] X w0 M0 I0 (fun v M I => M0 = M ∧ ∃ m : MX, v = mv m ∧ m.q = thr (scl x.q) ∧ m.dim 3 4 ∧ I = mW m (2 * K) :: I0) := by
 have hWh := fun x M0 I0 (hx : -9223372036854775808 ≤ x ∧ x ≤ 9223372036854775807) (h : x.natAbs ≤ 2 ^ 0) => rQ (X := X) (w0 := w0) (M0 := M0) (I0 := I0) (x := x) hx (k := 0) h
 have hZ := fun e M0 I0 h => aEW (X := X) (w0 := w0) (M0 := M0) (I0 := I0) (a := e) (k := K) (by omega) h
 have hlq : x.q.length = 12 := by rw [← hl]; show (qs _).length = _; simp [qs]
 have hsl : (scl x.q).length = 12 := by simp only [scl, List.length_map]; exact hl
 have hgx : ∀ i : Nat, i < 12 → (gt x.es (i : Int)).q = x.q.getD i 0 := fun i hi => (jR (by omega)).symm
 refine eX (φ := bH (x).p (recs eR (x).es)) (Hv.lsl aC) ?_
 refine bJ Tryz.func36 rfl Tryz.ntmps36 rfl ?_
 repeat (refine aI ?_)
 (refine aA rfl (hWh 0 _ _ (by decide) (by decide)) rfl rfl ?_; rintro _ _ _ ⟨rfl, e0, rfl, he0, rfl⟩; refine ⟨okF, ?_⟩)
 (refine aB rfl rfl ?_; intro b4; refine ⟨okF, ?_⟩)
 refine dW (φ := bP e0 K) (Hv.q (k := 0) aC (by omega)) ?_
 repeat (refine aI ?_)
 rw [hl]
 refine nR 34 1 ?_
 refine nR 42 4 ?_
 refine dC (φ := iR [] (2 * K)) ⟨fun X w hw => ⟨fun r hr => by simp at hr⟩⟩ ?_
 refine dC (φ := dL [] (2 * K)) Hv.nilR ?_
 refine aV [4, 8, 9] rfl (fun k G M I => ∃ (i : Nat) (e4 : RE) (hs done : List RL) (es : List RE) (q pc : Option Addr) (c cc : Nat), i ≤ 12 ∧ k = 12 - i ∧ e4.q = lead (x.q.take i) ∧ es.length ≤ 4 ∧ i = 4 * done.length + es.length ∧ (∀ r ∈ done, r.es.length = 4) ∧ done.flatMap RL.q ++ qs es = (scl x.q).take i ∧ (i = 0 ∧ hs = [] ∧ pc = none ∧ cc = 0 ∨ 0 < es.length ∧ hs = done ++ [⟨pc, cc, es⟩]) ∧ G = [(3, .slice q hs.length c), (10, .int .i64 i)] ∧ M = .row pc es.length cc (recs eR es) 42 4 :: .blk b4 (eR e4) 42 :: .row q hs.length c (recs eL hs) 34 1 :: M0 ∧ I = dL es (2 * K) :: iR done (2 * K) :: bP e4 K :: bH x.p (recs eR x.es) :: I0) (12) _ _ _ aO aF aD (⟨0, e0, [], [], [], none, none, 0, 0, by omega, rfl, by rw [he0]; rfl, by simp, rfl, by simp, by simp [qs], .inl ⟨rfl, rfl, rfl, rfl⟩, rfl, rfl, rfl⟩) ?_
 rintro kk G M I ⟨i, e4, hs, done, es, q, pc, c, cc, hi, rfl, h4, hes, hidx, hd4, hfl, hst, rfl, rfl, rfl⟩
 by_cases hin : i < 12
 ·refine dC (φ := bP (gt x.es (i : Int)) K) ⟨fun X w hw => (hw _ (by exact List.Mem.tail _ (List.Mem.tail _ (List.Mem.tail _ (List.Mem.tail _ hx)))) : IsL x K X w).el _ (bN (by omega))⟩ ?_
  repeat (refine aI ?_)
  (refine aB rfl rfl ?_; intro b6; refine ⟨okF, ?_⟩)
  repeat (refine aI ?_)
  refine aNW (fun G M I => ∃ e4' : RE, e4'.q = lead (x.q.take (i + 1)) ∧ G = [(3, .slice q hs.length c), (4, .pointer (some ⟨b4, 0, none⟩)), (5, .int .i64 i), (6, .pointer (some ⟨b6, 0, none⟩)), (8, lv x), (9, .int .i64 (12 : Nat)), (10, .int .i64 i)] ∧ M = .row pc es.length cc (recs eR es) 42 4 :: .blk b6 (eR (gt x.es (i : Int))) 42 :: .blk b4 (eR e4') 42 :: .row q hs.length c (recs eL hs) 34 1 :: M0 ∧ I = bP e4' K :: bP (gt x.es (i : Int)) K :: dL es (2 * K) :: iR done (2 * K) :: bH x.p (recs eR x.es) :: I0) ?_ ?_
  ·have hlt := aBG (l := x.q) (i := i) (by omega)
   have hZ4 := hZ e4
   by_cases h0 : e4.q = 0
   ·rw [bS h0] at hZ4
    rw [if_pos (by rw [← h4]; exact h0)] at hlt
    (refine aA rfl (hZ4 _ _ (Hv.mem aC)) rfl rfl ?_; rintro _ _ _ ⟨rfl, rfl, rfl⟩; refine ⟨okF, ?_⟩)
    repeat (refine aI ?_)
    refine aQ _ _ _ aO aF aD ⟨gt x.es (i : Int), by rw [hlt, hgx i hin], rfl, rfl, rfl⟩
   ·rw [aY h0] at hZ4
    rw [if_neg (by rw [← h4]; exact h0)] at hlt
    (refine aA rfl (hZ4 _ _ (Hv.mem aC)) rfl rfl ?_; rintro _ _ _ ⟨rfl, rfl, rfl⟩; refine ⟨okF, ?_⟩)
    repeat (refine aI ?_)
    refine aQ _ _ _ aO aF aD ⟨e4, by rw [hlt, h4], rfl, rfl, rfl⟩
  clear h4
  clear e4
  rintro G M I ⟨e4, h4, rfl, rfl, rfl⟩
  have htm : Int.tmod (i : Int) 4 = ((i % 4 : Nat) : Int) := by rw [Int.tmod_eq_emod_of_nonneg (by omega)]; omega
  refine sZ (fun G M I => ∃ (done : List RL) (es : List RE) (q pc : Option Addr) (c cc : Nat), es.length < 4 ∧ i = 4 * done.length + es.length ∧ (∀ r ∈ done, r.es.length = 4) ∧ done.flatMap RL.q ++ qs es = (scl x.q).take i ∧ G = [(3, .slice q (done ++ [(⟨pc, cc, es⟩ : RL)]).length c), (4, .pointer (some ⟨b4, 0, none⟩)), (5, .int .i64 i), (6, .pointer (some ⟨b6, 0, none⟩)), (8, lv x), (9, .int .i64 (12 : Nat)), (10, .int .i64 i)] ∧ M = .row pc es.length cc (recs eR es) 42 4 :: .blk b6 (eR (gt x.es (i : Int))) 42 :: .blk b4 (eR e4) 42 :: .row q (done ++ [(⟨pc, cc, es⟩ : RL)]).length c (recs eL (done ++ [(⟨pc, cc, es⟩ : RL)])) 34 1 :: M0 ∧ I = dL es (2 * K) :: iR done (2 * K) :: bP e4 K :: bP (gt x.es (i : Int)) K :: bH x.p (recs eR x.es) :: I0) ?_ ?_
  ·rcases hst with ⟨rfl, rfl, rfl, rfl⟩ | ⟨hpos, rfl⟩
   ·obtain rfl : done = [] := List.eq_nil_of_length_eq_zero (by omega)
    obtain rfl : es = [] := List.eq_nil_of_length_eq_zero (by simp at hidx; omega)
    repeat (refine aI ?_)
    (refine bL (cs := recs eL [(⟨none, 0, []⟩ : RL)]) ([.slice none 0 0]) rfl rfl (by intro v hv; repeat (first | exact absurd hv (List.not_mem_nil) | (rcases List.mem_cons.1 hv with rfl | hv; · rfl))) (by omega) rfl rfl rfl ?_; intro bn; refine ⟨okF, ?_⟩)
    (refine eY (ys := [(⟨none, 0, []⟩ : RL)]) 4 rfl rfl rfl ?_ (by decide) rfl (by omega) (by omega) rfl rfl ?_; (· first | exact Src.blk aC | exact Src.row aC | exact Src.imm aC (by first | assumption | exact .inl (Ok.mk _ _))); intro q3 c3; refine ⟨okF, ?_⟩)
    repeat (refine aI ?_)
    refine aQ _ _ _ aO aF aD ⟨[], [], q3, none, c3, 0, by simp, rfl, hd4, hfl, rfl, rfl, rfl⟩
   ·by_cases h4' : es.length = 4
    ·refine aGV (k := 2 * K) aC ?_
     refine dC (φ := iR (done ++ [(⟨pc, cc, es⟩ : RL)]) (2 * K)) (Hv.snoc1L aC aC) ?_
     refine nR 42 4 ?_
     refine dC (φ := dL [] (2 * K)) Hv.nilR ?_
     have hll : (done ++ [(⟨pc, cc, es⟩ : RL)]).length = done.length + 1 := by simp
     repeat (refine aI ?_)
     (refine bL (cs := recs eL [(⟨none, 0, []⟩ : RL)]) ([.slice none 0 0]) rfl rfl (by intro v hv; repeat (first | exact absurd hv (List.not_mem_nil) | (rcases List.mem_cons.1 hv with rfl | hv; · rfl))) (by omega) rfl rfl rfl ?_; intro bn; refine ⟨okF, ?_⟩)
     (refine eY (ys := [(⟨none, 0, []⟩ : RL)]) 4 rfl rfl rfl ?_ (by decide) rfl (by omega) (by omega) rfl rfl ?_; (· first | exact Src.blk aC | exact Src.row aC | exact Src.imm aC (by first | assumption | exact .inl (Ok.mk _ _))); intro q3 c3; refine ⟨okF, ?_⟩)
     repeat (refine aI ?_)
     refine aQ _ _ _ aO aF aD ⟨done ++ [(⟨pc, cc, es⟩ : RL)], [], q3, none, c3, 0, by simp, by simp; omega, fun r hr => ?_, ?_, rfl, rfl, rfl⟩
     ·rcases List.mem_append.1 hr with hr | hr
      ·exact hd4 r hr
      ·rw [List.mem_singleton.1 hr]; exact h4'
     ·rw [← hfl, List.flatMap_append]
      show _ ++ (qs es ++ []) ++ [] = _
      simp
    ·repeat (refine aI ?_)
     refine aQ _ _ _ aO aF aD ⟨done, es, q, pc, c, cc, by omega, hidx, hd4, hfl, rfl, rfl, rfl⟩
  clear hst hfl hd4 hidx hes
  clear htm
  clear hs done es q pc c cc
  rintro G M I ⟨done, es, q, pc, c, cc, hes, hidx, hd4, hfl, rfl, rfl, rfl⟩
  have htd : Int.tdiv (i : Int) 4 = ((done.length : Nat) : Int) := by rw [Int.tdiv_eq_ediv_of_nonneg (by omega)]; omega
  have hcur : gt (done ++ [(⟨pc, cc, es⟩ : RL)]) ((done.length : Nat) : Int) = ⟨pc, cc, es⟩ := by rw [fA (by simp)]; simp
  have hll : (done ++ [(⟨pc, cc, es⟩ : RL)]).length = done.length + 1 := by simp
  have hsc := aQS (l := x.q) (i := i) (by omega)
  rw [← h4] at hsc
  have hcp : (gt (done ++ [(⟨pc, cc, es⟩ : RL)]) ((done.length : Nat) : Int)).p = pc := by rw [hcur]
  have hcn : (gt (done ++ [(⟨pc, cc, es⟩ : RL)]) ((done.length : Nat) : Int)).es.length = es.length := by rw [hcur]
  have hcc : (gt (done ++ [(⟨pc, cc, es⟩ : RL)]) ((done.length : Nat) : Int)).c = cc := by rw [hcur]
  refine uJ (fun w hw => aMW (q := q) (mm := (done ++ [(⟨pc, cc, es⟩ : RL)]).length) aC (by omega) hw) (fun hqs => ?_)
  have hZ4 := hZ e4
  by_cases h0 : e4.q = 0
  ·rw [bS h0] at hZ4
   repeat (refine aI ?_)
   (refine aA rfl (hZ4 _ _ (Hv.mem aC)) rfl rfl ?_; rintro _ _ _ ⟨rfl, rfl, rfl⟩; refine ⟨okF, ?_⟩)
   repeat (refine aI ?_)
   (repeat refine aK ?_); refine zC 3 (.blk b6 (eR (gt x.es (i : Int))) 42 :: .blk b4 (eR e4) 42 :: .row q (done ++ [(⟨pc, cc, es⟩ : RL)]).length c (recs eL (done ++ [(⟨pc, cc, es⟩ : RL)])) 34 1 :: M0) (I0) [0, 1, 2, 3, 4, 5, 6, 7, 8, 9, 10, 11, 12] [3, 3, 3, 3, 3, 3, 3, 2, 0, 0, 0, 0, 0] aF aD mixed (by kernel_rfl) ?_
   repeat (refine aI ?_)
   rw [htd, hcp, hcn, hcc]
   repeat (refine aI ?_)
   (refine aA rfl (hWh 0 _ _ (by decide) (by decide)) rfl rfl ?_; rintro _ _ _ ⟨rfl, e, rfl, he, rfl⟩; refine ⟨okF, ?_⟩)
   refine dW (φ := bP e (2 * K)) (Hv.q (k := 0) aC (by omega)) ?_
   (refine bL (cs := recs eR [e]) ([rv e]) rfl rfl (by intro v hv; repeat (first | exact absurd hv (List.not_mem_nil) | (rcases List.mem_cons.1 hv with rfl | hv; · rfl))) (by omega) rfl rfl rfl ?_; intro bv; refine ⟨okF, ?_⟩)
   (refine eY (ys := [e]) 1 rfl rfl rfl ?_ (by decide) rfl (by omega) (by omega) rfl rfl ?_; (· first | exact Src.blk aC | exact Src.row aC | exact Src.imm aC (by first | assumption | exact .inl (Ok.mk _ _))); intro q2 c2; refine ⟨okF, ?_⟩)
   repeat (refine aI ?_)
   have hln : ((es ++ [e]).length : Int) = es.length + 1 := by simp
   obtain ⟨bq, rfl⟩ := hqs
   rw [pt_b]
   refine aFF (b := bq) rfl rfl rfl kQ (StAt.r1 (⟨q2, c2, es ++ [e]⟩ : RL) (by omega) rfl) (by simp [jL, dK]) rfl rfl ⟨okF, ?_⟩
   rw [wY (by simp)]
   refine dW (φ := dL (es ++ [e]) (2 * K)) (Hv.snoc aC aC) ?_
   rw [show (done ++ [(⟨pc, cc, es⟩ : RL)]).length = (done ++ [(⟨q2, c2, es ++ [e]⟩ : RL)]).length by simp]
   repeat (refine aI ?_)
   refine aP (12 - (i + 1)) _ _ _ (by first | omega | (simp only [List.length_append, List.length_cons, List.length_nil]; omega)) aO aF aD (⟨i + 1, e4, done ++ [(⟨q2, c2, es ++ [e]⟩ : RL)], done, es ++ [e], some ⟨bq, 0, none⟩, q2, c, c2, by omega, rfl, h4, by simp; omega, by simp; omega, hd4, ?_, .inr ⟨by simp, rfl⟩, rfl, rfl, rfl⟩)
   exact aIE hfl (by rw [hsl]; omega) (by rw [hsc, he, h0, Rat.div_def, Rat.inv_zero, Rat.mul_zero]; rfl)
  ·rw [aY h0] at hZ4
   have hD := fun M0 I0 h1 h2 => aON (X := X) (w0 := w0) (M0 := M0) (I0 := I0) (a := gt x.es (i : Int)) (b := e4) (k := K) (m := K) (by omega) h0 h1 h2
   repeat (refine aI ?_)
   (refine aA rfl (hZ4 _ _ (Hv.mem aC)) rfl rfl ?_; rintro _ _ _ ⟨rfl, rfl, rfl⟩; refine ⟨okF, ?_⟩)
   repeat (refine aI ?_)
   (repeat refine aK ?_); refine zC 3 (.blk b6 (eR (gt x.es (i : Int))) 42 :: .blk b4 (eR e4) 42 :: .row q (done ++ [(⟨pc, cc, es⟩ : RL)]).length c (recs eL (done ++ [(⟨pc, cc, es⟩ : RL)])) 34 1 :: M0) (I0) [0, 1, 2, 3, 4, 5, 6, 7, 8, 9, 10, 11, 12, 13, 14] [3, 3, 3, 3, 3, 3, 3, 2, 2, 2, 0, 0, 0, 0, 0] aF aD mixed (by kernel_rfl) ?_
   repeat (refine aI ?_)
   rw [htd, hcp, hcn, hcc]
   repeat (refine aI ?_)
   (refine aA rfl (hD _ _ (Hv.mem aC) (Hv.mem aC)) rfl rfl ?_; rintro _ _ _ ⟨rfl, e, rfl, he, rfl⟩; refine ⟨okF, ?_⟩)
   refine dW (φ := bP e (2 * K)) (Hv.q (k := K + K) aC (by omega)) ?_
   (refine bL (cs := recs eR [e]) ([rv e]) rfl rfl (by intro v hv; repeat (first | exact absurd hv (List.not_mem_nil) | (rcases List.mem_cons.1 hv with rfl | hv; · rfl))) (by omega) rfl rfl rfl ?_; intro bv; refine ⟨okF, ?_⟩)
   (refine eY (ys := [e]) 1 rfl rfl rfl ?_ (by decide) rfl (by omega) (by omega) rfl rfl ?_; (· first | exact Src.blk aC | exact Src.row aC | exact Src.imm aC (by first | assumption | exact .inl (Ok.mk _ _))); intro q2 c2; refine ⟨okF, ?_⟩)
   repeat (refine aI ?_)
   have hln : ((es ++ [e]).length : Int) = es.length + 1 := by simp
   obtain ⟨bq, rfl⟩ := hqs
   rw [pt_b]
   refine aFF (b := bq) rfl rfl rfl kQ (StAt.r1 (⟨q2, c2, es ++ [e]⟩ : RL) (by omega) rfl) (by simp [jL, dK]) rfl rfl ⟨okF, ?_⟩
   rw [wY (by simp)]
   refine dW (φ := dL (es ++ [e]) (2 * K)) (Hv.snoc aC aC) ?_
   rw [show (done ++ [(⟨pc, cc, es⟩ : RL)]).length = (done ++ [(⟨q2, c2, es ++ [e]⟩ : RL)]).length by simp]
   repeat (refine aI ?_)
   refine aP (12 - (i + 1)) _ _ _ (by first | omega | (simp only [List.length_append, List.length_cons, List.length_nil]; omega)) aO aF aD (⟨i + 1, e4, done ++ [(⟨q2, c2, es ++ [e]⟩ : RL)], done, es ++ [e], some ⟨bq, 0, none⟩, q2, c, c2, by omega, rfl, h4, by simp; omega, by simp; omega, hd4, ?_, .inr ⟨by simp, rfl⟩, rfl, rfl, rfl⟩)
   exact aIE hfl (by rw [hsl]; omega) (by rw [hsc, he, hgx i hin])
 ·obtain rfl : i = 12 := by omega
  obtain ⟨hpos, rfl⟩ : 0 < es.length ∧ hs = done ++ [⟨pc, cc, es⟩] := by
   rcases hst with ⟨h0, _⟩ | h
   ·omega
   ·exact h
  have hs4 : es.length = 4 := by omega
  have hd2 : done.length = 2 := by omega
  refine aGV (k := 2 * K) aC ?_
  refine dC (φ := iR (done ++ [(⟨pc, cc, es⟩ : RL)]) (2 * K)) (Hv.snoc1L aC aC) ?_
  refine aGI (M' := .row q (done ++ [(⟨pc, cc, es⟩ : RL)]).length c (recs eL (done ++ [(⟨pc, cc, es⟩ : RL)])) 34 1 :: M0) aF Inc.refl ?_
  repeat (refine aI ?_)
  refine yZ (k := 2 * K) aC ?_
  refine aN (by first | exact .inl rfl | exact .inr rfl) rfl rfl _ _ aF aD (⟨rfl, ⟨q, c, done ++ [(⟨pc, cc, es⟩ : RL)]⟩, rfl, ?_, ⟨by show (done ++ [_]).length = 3; simp; omega, fun r hr => ?_⟩, rfl⟩)
  ·obtain ⟨d0, d1, rfl⟩ : ∃ d0 d1, done = [d0, d1] := by
    match done, hd2 with
    | [a, b], _ => exact ⟨a, b, rfl⟩
   have l0 : d0.q.length = 4 := by show (qs _).length = 4; simp only [qs, List.length_map]; exact hd4 _ (by simp)
   have l1 : d1.q.length = 4 := by show (qs _).length = 4; simp only [qs, List.length_map]; exact hd4 _ (by simp)
   have l2 : (qs es).length = 4 := by simp only [qs, List.length_map]; exact hs4
   have hfl2 : scl x.q = d0.q ++ (d1.q ++ qs es) := by
    rw [List.take_of_length_le (by omega)] at hfl
    rw [← hfl]; simp
   show [d0.q, d1.q, qs es] = thr (scl x.q)
   rw [hfl2]
   unfold thr
   simp [List.take_append, List.drop_append, l0, l1, l2]
   rw [List.drop_eq_nil_of_le (by rw [List.length_take]; omega), List.take_of_length_le (by omega), List.nil_append]
  ·rcases List.mem_append.1 hr with hr | hr
   ·exact hd4 r hr
   ·rw [List.mem_singleton.1 hr]; exact hs4
end
end Go.Proofs.YtgeagiikkeiioaaGreat
namespace Go.Proofs.YtgeagiikkeiioaaGreat
open Go Go.Fx
section
variable {X : List Nat} {w0 : World} {M0 : List Ent} {I0 : List bD}
theorem aHD {q1 q2 : Option Addr} {c1 c2 n K : Nat} {W : List VE} {P : List PE} (hn : 6 ≤ n ∧ n ≤ 16) (hW : W.length = n) (hP : P.length = n) (hK : K = kb 60 12) (h1 : bH q1 (recs eV W) ∈ I0) (h2 : bH q2 (recs eP P) ∈ I0) (a1 : aCG W 30 ∈ I0) (a2 : rW P 30 ∈ I0) :
  CD Tryz.prog 17 [.slice q1 n c1, .slice q2 n c2] X w0 M0 I0 (fun v M I => M0 = M ∧ Inc I I0 ∧ ((lM (eqs (tL W) (xE P) n) 12).length = 0 ∧ v = .tuple #[.slice none 0 0, .int .i64 6] ∨
   1 < (lM (eqs (tL W) (xE P) n) 12).length ∧ v = .tuple #[.slice none 0 0, .int .i64 13] ∨
   (lM (eqs (tL W) (xE P) n) 12).length = 1 ∧ ∃ m : MX, v = .tuple #[mv m, .int .i64 0] ∧ m.q = thr (scl ((lM (eqs (tL W) (xE P) n) 12).getD 0 [])) ∧ m.dim 3 4 ∧ mW m (2 * K) ∈ I)) := by
 have hR := fun M0 I0 h1 h2 h3 h4 => aEK (X := X) (w0 := w0) (M0 := M0) (I0 := I0) (q1 := q1) (q2 := q2) (c1 := c1) (c2 := c2) (n := n) (W := W) (P := P) hn.2 hW hP h1 h2 h3 h4
 have hK2 : K ≤ 2000000000 := by rw [hK]; decide
 refine bG Tryz.func17 rfl Tryz.ntmps17 rfl ?_
 repeat (refine aI ?_)
 (refine aA rfl (hR _ _ aC aC aC aC) rfl rfl ?_; rintro _ _ _ ⟨rfl, mat, rfl, hmq, hmd, rfl⟩; refine ⟨okF, ?_⟩)
 rw [← hmq]
 repeat (refine aI ?_)
 (refine aA rfl (aNF (R := 2 * n) (C := 12) (k0 := 60) (by decide) (by omega) (by omega) hmd aC) rfl rfl ?_; rintro _ _ _ ⟨rfl, nl, rfl, hnq, hnr, rfl⟩; refine ⟨okF, ?_⟩)
 rw [← hK, ← hnq]
 have hnl : nl.q.length = nl.rows.length := by simp
 rw [hnl]
 refine dW (φ := bH (nl).p (recs eL (nl).rows)) (Hv.xsl aC) ?_
 by_cases l0 : nl.rows.length = 0
 ·repeat (refine aI ?_)
  refine fI [4, 5] (by first | exact .inl rfl | exact .inr rfl) rfl rfl rfl M0 I0 aF aD ⟨rfl, Inc.refl, .inl ⟨l0, rfl⟩⟩
 by_cases l1 : nl.rows.length = 1
 ·have hr12 : (gt nl.rows 0).es.length = 12 := hnr _ (bN (by omega))
  have hget : nl.q.getD 0 [] = (gt nl.rows 0).q := by
   show (nl.rows.map RL.q).getD 0 [] = (gt nl.rows ((0 : Nat) : Int)).q
   rw [fA (by omega)]
   simp [List.getD, l1]
  rw [hget]
  refine dW (φ := iW (gt nl.rows 0) K) (Hv.xrow aC (by omega)) ?_
  have hS := fun M0 I0 h => aFN (X := X) (w0 := w0) (M0 := M0) (I0 := I0) (x := gt nl.rows 0) (K := K) (by omega) hr12 h
  repeat (refine aI ?_)
  (refine aA rfl (hS _ _ aC) rfl rfl ?_; rintro _ _ _ ⟨rfl, m, rfl, hm, hmd2, rfl⟩; refine ⟨okF, ?_⟩)
  repeat (refine aI ?_)
  refine fI [4, 5] (by first | exact .inl rfl | exact .inr rfl) rfl rfl rfl M0 (mW m (2 * K) :: I0) aF aD ⟨rfl, Inc.wk Inc.refl, .inr (.inr ⟨l1, m, rfl, hm, hmd2, List.Mem.head _⟩)⟩
 ·repeat (refine aI ?_)
  refine fI [4, 5] (by first | exact .inl rfl | exact .inr rfl) rfl rfl rfl M0 I0 aF aD ⟨rfl, Inc.refl, .inr (.inl ⟨by omega, rfl⟩)⟩
end
end Go.Proofs.YtgeagiikkeiioaaGreat
namespace Go.Proofs.YtgeagiikkeiioaaGreat
open Go Go.Fx
theorem fewP.sml {ws : List VW} {ps : List PW} (h : fewP ws ps) : (∀ v ∈ ws, v.small) ∧ ∀ p ∈ ps, p.small := ⟨fun v hv => by
 have := (h.2.2 v hv).2
 exact ⟨((this v.x (by simp [VW.w])).2 (by omega)).sml, ((this v.y (by simp [VW.w])).2 (by omega)).sml, ((this v.z (by simp [VW.w])).2 (by omega)).sml⟩, fun p hp => (h.2.1 p hp).small⟩
section
variable {X : List Nat} {w0 : World} {M0 : List Ent} {I0 : List bD}
theorem aLM {q1 q2 : Option Addr} {c1 c2 : Nat} {ws : List VW} {ps : List PW} (rw_ : ws.length ≤ 35184372088832 ∧ ∀ v ∈ ws, v.reach) (rp : ps.length ≤ 35184372088832) (h1 : bH q1 (recs eVW ws) ∈ I0) (h2 : bH q2 (recs ePW ps) ∈ I0) (a1 : uR ws ∈ I0) (a2 : mE ps ∈ I0) (hb : ¬ (fewP ws ps ∧ dirOk ws ps)) :
  CD Tryz.prog 3 [.agg #[.slice q1 ws.length c1, .slice q2 ps.length c2]] X w0 M0 I0 (fun v M I => M0 = M ∧ I0 = I ∧ v = .bool true) := by
 have hF := fun M0 => xP (X := X) (w0 := w0) (M0 := M0) (I0 := I0) (q1 := q1) (q2 := q2) (c1 := c1) (c2 := c2) (ws := ws) (ps := ps) rw_ rp h1 h2 a1 a2
 by_cases hf : fewP ws ps
 ·have hd : ¬ dirOk ws ps := fun h => hb ⟨hf, h⟩
  rw [bS hf] at hF
  have hsm := hf.sml
  have hl1 := hf.1.1
  have hl2 := hf.1.2.1
  have hD := fun M0 => aFL (X := X) (w0 := w0) (M0 := M0) (I0 := I0) (q1 := q1) (q2 := q2) (c1 := c1) (c2 := c2) (ws := ws) (ps := ps) (by omega) (by omega) hsm.1 hsm.2 h1 h2 a1 a2 hd
  have hV := fun M0 => uQ (X := X) (w0 := w0) (M0 := M0) (I0 := I0) (q1 := q1) (q2 := q2) (c1 := c1) (c2 := c2) (ws := ws) (ps := ps) (by omega) (by omega) hsm.1 hsm.2 h1 h2 a1 a2
  unfold dirC at hD
  by_cases hg : goodP ws ps
  ·have hne : ¬ ((6 ≤ ws.length ∧ ws.length ≤ 16) ∧ ps.length = ws.length) := fun h => hd ⟨hg, h⟩
   have hG := fun M0 I0 => aDU (X := X) (w0 := w0) (M0 := M0) (I0 := I0) (q1 := q1) (q2 := q2) (c1 := c1) (c2 := c2) (n := ws.length) (m := ps.length) (by omega) (by omega) hne
   rw [bS hg] at hV
   simp only [if_pos hg] at hD
   obtain ⟨cd, hcd, hcd3⟩ : ∃ cd : Int, cd = (if ws.length < 6 ∨ 16 < ws.length then 3 else 4) ∧ 3 ≤ cd := ⟨_, rfl, by split <;> decide⟩
   simp only [← hcd] at hD hG
   refine bJ Tryz.func3 rfl Tryz.ntmps3 rfl ?_
   refine aK ?_
   refine aL ?_
   (refine aR rfl rfl rfl ?_; intro b1; refine ⟨okF, ?_⟩)
   repeat (refine aI ?_)
   (refine aA rfl (rM) rfl rfl ?_; rintro _ _ _ ⟨rfl, rfl, rfl⟩; refine ⟨okF, ?_⟩)
   repeat (refine aI ?_)
   (refine aA rfl (hF _) rfl rfl ?_; rintro _ _ _ ⟨rfl, rfl, rfl⟩; refine ⟨okF, ?_⟩)
   repeat (refine aI ?_)
   (refine aA rfl (hD _) rfl rfl ?_; rintro _ _ _ ⟨rfl, rfl, rfl⟩; refine ⟨okF, ?_⟩)
   repeat (refine aI ?_)
   (refine aA rfl (hV _) rfl rfl ?_; rintro _ _ _ ⟨rfl, rfl, rfl⟩; refine ⟨okF, ?_⟩)
   repeat (refine aI ?_)
   (refine aA rfl (hG _ _) rfl rfl ?_; rintro _ _ _ ⟨rfl, rfl, rfl⟩; refine ⟨okF, ?_⟩)
   repeat (refine aI ?_)
   refine aN (by first | exact .inl rfl | exact .inr rfl) rfl rfl _ _ aF aD (⟨rfl, rfl, congrArg Value.bool (bS (by simp))⟩)
  ·rw [aY hg] at hV
   simp only [if_neg hg] at hD
   refine bJ Tryz.func3 rfl Tryz.ntmps3 rfl ?_
   refine aK ?_
   refine aL ?_
   (refine aR rfl rfl rfl ?_; intro b1; refine ⟨okF, ?_⟩)
   repeat (refine aI ?_)
   (refine aA rfl (rM) rfl rfl ?_; rintro _ _ _ ⟨rfl, rfl, rfl⟩; refine ⟨okF, ?_⟩)
   repeat (refine aI ?_)
   (refine aA rfl (hF _) rfl rfl ?_; rintro _ _ _ ⟨rfl, rfl, rfl⟩; refine ⟨okF, ?_⟩)
   repeat (refine aI ?_)
   (refine aA rfl (hD _) rfl rfl ?_; rintro _ _ _ ⟨rfl, rfl, rfl⟩; refine ⟨okF, ?_⟩)
   repeat (refine aI ?_)
   (refine aA rfl (hV _) rfl rfl ?_; rintro _ _ _ ⟨rfl, rfl, rfl⟩; refine ⟨okF, ?_⟩)
   repeat (refine aI ?_)
   refine aN (by first | exact .inl rfl | exact .inr rfl) rfl rfl _ _ aF aD (⟨rfl, rfl, congrArg Value.bool (bS (by simp))⟩)
 ·rw [aY hf] at hF
  refine bJ Tryz.func3 rfl Tryz.ntmps3 rfl ?_
  refine aK ?_
  refine aL ?_
  (refine aR rfl rfl rfl ?_; intro b1; refine ⟨okF, ?_⟩)
  repeat (refine aI ?_)
  (refine aA rfl (rM) rfl rfl ?_; rintro _ _ _ ⟨rfl, rfl, rfl⟩; refine ⟨okF, ?_⟩)
  repeat (refine aI ?_)
  (refine aA rfl (hF _) rfl rfl ?_; rintro _ _ _ ⟨rfl, rfl, rfl⟩; refine ⟨okF, ?_⟩)
  repeat (refine aI ?_)
  refine aN (by first | exact .inl rfl | exact .inr rfl) rfl rfl _ _ aF aD (⟨rfl, rfl, rfl⟩)
end
end Go.Proofs.YtgeagiikkeiioaaGreat
namespace Go.Proofs.YtgeagiikkeiioaaGreat
open Go Go.Fx
theorem aJD {A : Mt} {R C : Nat} (hA : yE A R C) {v : List Rat} (hv : v ∈ lM A C) {i : Nat} (hi : i < R) : sm C (fun t => at2 A i t * v.getD t 0) = 0 := by
 obtain ⟨_, s, hr⟩ := sO hA C (Nat.le_refl _)
 obtain ⟨j, hj, rfl⟩ := List.mem_map.1 (show v ∈ (sF (kM A C).2 C).map (oW (kM A C).1 (kM A C).2 C) from hv)
 have hj2 := List.mem_filter.1 hj
 have h1 : j < C := List.mem_range.1 hj2.1
 have h2 : j ∉ (kM A C).2 := of_decide_eq_true hj2.2
 have := hr.null h1 h2 i hi
 exact (iE (fun t ht => by rw [zB ht])).trans this
theorem aBK {A : Mt} {C : Nat} {v : List Rat} (hv : v ∈ lM A C) : v.length = C := by
 obtain ⟨j, hj, rfl⟩ := List.mem_map.1 (show v ∈ (sF (kM A C).2 C).map (oW (kM A C).1 (kM A C).2 C) from hv)
 simp [oW]
theorem aNN {A : Mt} {R C : Nat} (hA : yE A R C) {v : List Rat} (hv : v ∈ lM A C) {i : Nat} (hi : i < R) : sm C (fun t => at2 A i t * (scl v).getD t 0) = 0 := by
 have h1 := aJD hA hv hi
 have hl := aBK hv
 have e : sm C (fun t => at2 A i t * (scl v).getD t 0) = sm C (fun t => (1 / lead v) * (at2 A i t * v.getD t 0)) := iE (fun t ht => by
  have : (scl v).getD t 0 = v.getD t 0 / lead v := by simp [scl, List.getD, hl, ht]
  rw [this]; grind)
 rw [e, sI, h1]; grind
theorem aNB {l : List Rat} (h : l.length = 12) : (thr l).flatMap id = l := by
 unfold thr
 have h1 : l.take 4 ++ ((l.take 8).drop 4 ++ ((l.take 12).drop 8)) = l := by
  rw [List.take_of_length_le (l := l) (i := 12) (by omega), List.drop_take]
  have e1 : (l.drop 4).take 4 ++ l.drop 8 = l.drop 4 := by
   have := List.take_append_drop 4 (l.drop 4)
   rwa [List.drop_drop] at this
  rw [show 8 - 4 = 4 by omega, e1, List.take_append_drop]
 simp only [List.flatMap_cons, List.flatMap_nil, id, List.append_nil, List.drop_zero]
 exact h1
end Go.Proofs.YtgeagiikkeiioaaGreat
namespace Go.Proofs.YtgeagiikkeiioaaGreat
open Go Go.Fx
theorem Hv.rawVs {I : List bD} {W : List VE} {k : Nat} (hk : k ≤ 1000000000) (h : aCG W k ∈ I) : Hv I (uR (W.map VE.raw)) := ⟨fun X w hw => ⟨fun r hr => by
 obtain ⟨v, hv, rfl⟩ := List.mem_map.1 hr
 have := (hw _ h : AllV W k X w).go v hv
 exact ⟨RE.fit (by omega) this.x, RE.fit (by omega) this.y, RE.fit (by omega) this.z⟩⟩⟩
theorem Hv.rawPs {I : List bD} {P : List PE} {k : Nat} (hk : k ≤ 1000000000) (h : rW P k ∈ I) : Hv I (mE (P.map PE.raw)) := ⟨fun X w hw => ⟨fun r hr => by
 obtain ⟨v, hv, rfl⟩ := List.mem_map.1 hr
 have := (hw _ h : AllP P k X w).go v hv
 exact ⟨RE.fit (by omega) this.x, RE.fit (by omega) this.y⟩⟩⟩
section
variable {X : List Nat} {w0 : World} {M0 : List Ent} {I0 : List bD}
theorem aOM {q1 q2 : Option Addr} {c1 c2 n : Nat} {W : List VE} {P : List PE} (hW : W.length = n) (hP : P.length = n) (hn : 6 ≤ n ∧ n ≤ 16) (few : fewP (W.map VE.raw) (P.map PE.raw)) (h1 : bH q1 (recs eV W) ∈ I0) (h2 : bH q2 (recs eP P) ∈ I0) (a1 : aCG W 30 ∈ I0) (a2 : rW P 30 ∈ I0)
  (hF : ∀ M0, CD Tryz.prog 14 [.agg #[.slice q1 n c1, .slice q2 n c2]] X w0 M0 I0 (fun v M I => M0 = M ∧ I0 = I ∧ v = .bool true))
  (hV : ∀ M0 I0, bH q1 (recs eV W) ∈ I0 → bH q2 (recs eP P) ∈ I0 → aCG W 30 ∈ I0 → rW P 30 ∈ I0 → CD Tryz.prog 16 [.agg #[.slice q1 n c1, .slice q2 n c2]] X w0 M0 I0 (fun v M I => M0 = M ∧ I0 = I ∧ v = .bool true))
  (hcan : ∀ M0 I0, bH q2 (recs eP P) ∈ I0 → rW P 30 ∈ I0 → CD Tryz.prog 69 [.slice q2 n c2] X w0 M0 I0 (fun v M I => M0 = M ∧ I0 = I ∧ v = .bool true)) :
  CD Tryz.prog 3 [.agg #[.slice q1 n c1, .slice q2 n c2]] X w0 M0 I0 (fun v M I => M0 = M ∧ I0 = I ∧ v = .bool true) := by
 have hD := fun M0 I0 h1 h2 a1 a2 => aKL (X := X) (w0 := w0) (M0 := M0) (I0 := I0) (q1 := q1) (q2 := q2) (c1 := c1) (c2 := c2) (n := n) (K := kb 60 12) (W := W) (P := P) hn hW hP rfl h1 h2 a1 a2 hcan
 have hG := fun M0 I0 h1 h2 a1 a2 => aHD (X := X) (w0 := w0) (M0 := M0) (I0 := I0) (q1 := q1) (q2 := q2) (c1 := c1) (c2 := c2) (n := n) (K := kb 60 12) (W := W) (P := P) hn hW hP rfl h1 h2 a1 a2
 have hR := fun M0 I0 h1 h2 h3 h4 => aEK (X := X) (w0 := w0) (M0 := M0) (I0 := I0) (q1 := q1) (q2 := q2) (c1 := c1) (c2 := c2) (n := n) (W := W) (P := P) hn.2 hW hP h1 h2 h3 h4
 have hK2 : kb 60 12 ≤ 2000000000 := by decide
 generalize kb 60 12 = K at *
 refine bJ Tryz.func3 rfl Tryz.ntmps3 rfl ?_
 refine aK ?_
 refine aL ?_
 (refine aR rfl rfl rfl ?_; intro b1; refine ⟨okF, ?_⟩)
 repeat (refine aI ?_)
 (refine aA rfl (rM) rfl rfl ?_; rintro _ _ _ ⟨rfl, rfl, rfl⟩; refine ⟨okF, ?_⟩)
 repeat (refine aI ?_)
 (refine aA rfl (hF _) rfl rfl ?_; rintro _ _ _ ⟨rfl, rfl, rfl⟩; refine ⟨okF, ?_⟩)
 repeat (refine aI ?_)
 (refine aA rfl (hD _ _ aC aC aC aC) rfl rfl ?_; rintro _ _ _ ⟨rfl, hI, hres⟩; refine ⟨okF, ?_⟩)
 have g1 := hI.mem _ h1
 have g2 := hI.mem _ h2
 have g3 := hI.mem _ a1
 have g4 := hI.mem _ a2
 rcases hres with ⟨hz, rfl⟩ | ⟨hz, rfl⟩ | ⟨hz, m, rfl, hmq, hmd, hmi⟩
 ·repeat (refine aI ?_)
  (refine aA rfl (hV _ _ g1 g2 g3 g4) rfl rfl ?_; rintro _ _ _ ⟨rfl, rfl, rfl⟩; refine ⟨okF, ?_⟩)
  repeat (refine aI ?_)
  (refine aA rfl (hG _ _ g1 g2 g3 g4) rfl rfl ?_; rintro _ _ _ ⟨rfl, hI2, hres2⟩; refine ⟨okF, ?_⟩)
  have hI3 := Inc.of (fun φ hp => hI2.mem φ (hI.mem φ hp))
  rcases hres2 with ⟨_, rfl⟩ | ⟨h, _⟩ | ⟨h, _⟩
  ·repeat (refine aI ?_)
   refine aN (by first | exact .inl rfl | exact .inr rfl) rfl rfl M0 I0 aF hI3 ⟨rfl, rfl, congrArg Value.bool (bS (by simp))⟩
  ·omega
  ·omega
 ·repeat (refine aI ?_)
  (refine aA rfl (hV _ _ g1 g2 g3 g4) rfl rfl ?_; rintro _ _ _ ⟨rfl, rfl, rfl⟩; refine ⟨okF, ?_⟩)
  repeat (refine aI ?_)
  (refine aA rfl (hG _ _ g1 g2 g3 g4) rfl rfl ?_; rintro _ _ _ ⟨rfl, hI2, hres2⟩; refine ⟨okF, ?_⟩)
  have hI3 := Inc.of (fun φ hp => hI2.mem φ (hI.mem φ hp))
  rcases hres2 with ⟨h, _⟩ | ⟨_, rfl⟩ | ⟨h, _⟩
  ·omega
  ·repeat (refine aI ?_)
   refine aN (by first | exact .inl rfl | exact .inr rfl) rfl rfl M0 I0 aF hI3 ⟨rfl, rfl, congrArg Value.bool (bS (by simp))⟩
  ·omega
 ·repeat (refine aI ?_)
  (refine aA rfl (hV _ _ g1 g2 g3 g4) rfl rfl ?_; rintro _ _ _ ⟨rfl, rfl, rfl⟩; refine ⟨okF, ?_⟩)
  repeat (refine aI ?_)
  (refine aA rfl (hG _ _ g1 g2 g3 g4) rfl rfl ?_; rintro _ _ _ ⟨rfl, hI2, hres2⟩; refine ⟨okF, ?_⟩)
  have hI3 := Inc.of (fun φ hp => hI2.mem φ (hI.mem φ hp))
  have hmi2 := hI2.mem _ hmi
  rcases hres2 with ⟨h, _⟩ | ⟨h, _⟩ | ⟨_, m2, rfl, hmq2, hmd2, hmi3⟩
  ·omega
  ·omega
  ·have hS := fun M0 I0 h1 h2 => aAK (X := X) (w0 := w0) (M0 := M0) (I0 := I0) (a := m) (b := m2) (n := 3) (C := 4) (k := 2 * K) (m := 2 * K) (by omega) (by omega) (by omega) hmd hmd2 h1 h2
   simp only [bS (show m.q = m2.q by rw [hmq, hmq2])] at hS
   repeat (refine aI ?_)
   (refine aA rfl (hS _ _ aC aC) rfl rfl ?_; rintro _ _ _ ⟨rfl, rfl, rfl⟩; refine ⟨okF, ?_⟩)
   repeat (refine aI ?_)
   refine aGI (M' := .blk b1 [.slice q1 n c1, .slice q2 n c2] 25 :: M0) (I' := mW m (2 * K) :: I0) SubP.refl (Inc.cons hmi2 hI3) ?_
   have hmr : m.rows.length = 3 := hmd.1
   rw [hmr]
   refine dC (φ := bH (m).p (recs eL (m).rows)) (Hv.xsl aC) ?_
   refine nR 42 4 ?_
   refine dC (φ := dL [] (2 * K)) Hv.nilR ?_
   refine aV [1, 60, 61] rfl (fun k G M I => ∃ (i : Nat) (es : List RE) (q : Option Addr) (c : Nat), i ≤ 3 ∧ k = 3 - i ∧ es.length = 4 * i ∧ qs es = (m.rows.take i).flatMap RL.q ∧ G = [(7, .slice q es.length c), (62, .int .i64 i)] ∧ M = .row q es.length c (recs eR es) 42 4 :: .blk b1 [.slice q1 n c1, .slice q2 n c2] 25 :: M0 ∧ I = dL es (2 * K) :: bH m.p (recs eL m.rows) :: mW m (2 * K) :: I0) (3) _ _ _ aO aF aD (⟨0, [], none, 0, by omega, rfl, rfl, by simp [qs], rfl, rfl, rfl⟩) ?_
   rintro kk G M I ⟨i, es, q, c, hi, rfl, hel, heq, rfl, rfl, rfl⟩
   by_cases hin : i < 3
   ·have hle := hmd.row (i := i) hin
    refine uJ (fun w hw => (((hw.imm _ (show mW m (2 * K) ∈ _ by exact aC)).2 : IsX m (2 * K) _ w).row _ (bN (i := (i : Int)) (by omega))).cap) (fun hcp => ?_)
    refine dC (φ := bH (gt m.rows (i : Int)).p (recs eR (gt m.rows (i : Int)).es)) (Hv.xrsl (m := m) (k := 2 * K) aC (by omega)) ?_
    refine dC (φ := iW (gt m.rows (i : Int)) (2 * K)) (Hv.xrow aC (by omega)) ?_
    refine dC (φ := dL (gt m.rows (i : Int)).es (2 * K)) (Hv.lall aC) ?_
    repeat (refine aI ?_)
    (refine eY (enc := eR) (ys := (gt m.rows (i : Int)).es) 0 rfl rfl rfl (Src.imm aC hcp.2) (by decide) rfl (by omega) (by omega) rfl rfl ?_; intro q3 c3; refine ⟨okF, ?_⟩)
    repeat (refine aI ?_)
    refine bI (φ := dL (es ++ (gt m.rows (i : Int)).es) (2 * K)) ⟨fun X w hw => ⟨fun e he => by
     rcases List.mem_append.1 he with he | he
     ·exact (hw _ (by exact aC) : AllR es (2 * K) X w).go e he
     ·exact (hw _ (List.Mem.head _) : AllR (gt m.rows (i : Int)).es (2 * K) X w).go e he⟩⟩ ?_
    refine aP (3 - (i + 1)) _ _ _ (by first | omega | (simp only [List.length_append, List.length_cons, List.length_nil]; omega)) aO aF aD (⟨i + 1, es ++ (gt m.rows (i : Int)).es, q3, c3, by omega, rfl, by simp; omega, ?_, rfl, rfl, rfl⟩)
    have ht : m.rows.take (i + 1) = m.rows.take i ++ [gt m.rows (i : Int)] := by rw [fA (by omega)]; exact (List.take_append_getElem (by omega)).symm
    rw [ht, List.flatMap_append, ← heq]
    simp [qs]
   obtain rfl : i = 3 := by omega
   refine aGV (k := 2 * K) aC ?_
   have hfl : (⟨q, c, es⟩ : RL).q = scl ((lM (eqs (tL W) (xE P) n) 12).getD 0 []) := by
    show qs es = _
    rw [heq, List.take_of_length_le (by omega)]
    have e1 : m.rows.flatMap RL.q = m.q.flatMap id := by
     show _ = (m.rows.map RL.q).flatMap id
     rw [List.flatMap_map]; rfl
    rw [e1, hmq]
    refine aNB ?_
    have h12 : ((lM (eqs (tL W) (xE P) n) 12).getD 0 []) ∈ lM (eqs (tL W) (xE P) n) 12 := by
     rw [List.getD_eq_getElem?_getD, List.getElem?_eq_getElem (by omega)]
     exact List.getElem_mem _
    simp only [scl, List.length_map]
    exact aBK h12
   repeat (refine aI ?_)
   (refine aA rfl (hR _ _ aC aC aC aC) rfl rfl ?_; rintro _ _ _ ⟨rfl, mat, rfl, hmtq, hmtd, rfl⟩; refine ⟨okF, ?_⟩)
   have hA := fun M0 I0 h1 h2 => aFT (X := X) (w0 := w0) (M0 := M0) (I0 := I0) (a := mat) (x := ⟨q, c, es⟩) (R := 2 * n) (C := 12) (k0 := 60) (m := 2 * K) (by omega) (by omega) (by omega) (by omega) hmtd (by show es.length = 12; omega) h1 h2
   repeat (refine aI ?_)
   (refine aA rfl (hA _ _ aC aC) rfl rfl ?_; rintro _ _ _ ⟨rfl, y, rfl, hy, rfl⟩; refine ⟨okF, ?_⟩)
   have hyz : aDM y.q := fun v hv => by
    rw [hy] at hv
    obtain ⟨i, hi, rfl⟩ := List.mem_map.1 hv
    rw [hfl, hmtq]
    refine aNN (R := 2 * n) ?_ ?_ (List.mem_range.1 hi)
    ·rw [← hmtq]; exact yN hmtd
    ·rw [List.getD_eq_getElem?_getD, List.getElem?_eq_getElem (by omega)]
     exact List.getElem_mem _
   have hNz := fun M0 I0 h => aEY (X := X) (w0 := w0) (M0 := M0) (I0 := I0) (x := y) (k := 12 * (60 + 2 * K + 1)) (by omega) (by have := congrArg List.length hy; simp at this; omega) h
   rw [aY (fun h => h hyz)] at hNz
   (refine aA rfl (hNz _ _ aC) rfl rfl ?_; rintro _ _ _ ⟨rfl, rfl, rfl⟩; refine ⟨okF, ?_⟩)
   repeat (refine aI ?_)
   refine aN (by first | exact .inl rfl | exact .inr rfl) rfl rfl _ _ aF aD (⟨rfl, rfl, rfl⟩)
end
end Go.Proofs.YtgeagiikkeiioaaGreat

/- resect.Direct: what it refuses; the law's direct: what it refuses. The law's rows of equations. The law's scaled: a list over its first number that is not 0, as rows of four. The law's scaled: its walk. The law's direct; no number of the equations' product. The law ResectDirect: what is too long, what is refused. The law ResectDirect, plain: the equations kill what Direct returns. The law ResectRecovers, plain: a kernel of one dimension; the flat matrix kills the equations of its own images. The law ResectDirect at pairs that are accepted. The law ResectDirect: every case. The law ResectRecovers: small numbers; heights of images. -/
import Derived.Test.YtkccjglmnhgabaaGreatZhbk
import Derived.Test.YtkccjglmnhgabaaGreatZhax
import Derived.Test.YtkccjglmnhgabaaGreatZhbf
set_option linter.unusedSimpArgs false
set_option linter.unusedVariables false
set_option maxRecDepth 100000
set_option maxHeartbeats 4000000
namespace Go.Proofs.YtkccjglmnhgabaaGreat
open Go Go.Fx
def dirC (ws : List VW) (ps : List PW) : Int := if goodP ws ps then (if ws.length < 6 ∨ 16 < ws.length then 3 else 4) else 1
def dirOk (ws : List VW) (ps : List PW) : Prop := goodP ws ps ∧ (6 ≤ ws.length ∧ ws.length ≤ 16) ∧ ps.length = ws.length
instance dirOk.dec (ws : List VW) (ps : List PW) : Decidable (dirOk ws ps) := by unfold dirOk; exact inferInstance
section
variable {X : List Nat} {w0 : World} {M0 : List Ent} {I0 : List aZ}
end
end Go.Proofs.YtkccjglmnhgabaaGreat
namespace Go.Proofs.YtkccjglmnhgabaaGreat
open Go Go.Fx
theorem Hv.snoc1L {I : List aZ} {rs : List RL} {a : RL} {k : Nat} (h : kG rs k ∈ I) (h1 : iY a k ∈ I) : Hv I (kG (rs ++ [a]) k) := ⟨fun X w hw => ⟨fun r hr => by
 rcases List.mem_append.1 hr with hr | hr
 ·exact (hw _ h : AllL rs k X w).go r hr
 ·rw [List.mem_singleton.1 hr]; exact hw _ h1⟩⟩
def rowF (w : List Rat) (s : Rat) (j t u : Nat) : Rat := if u < 8 then (if 4 * j ≤ u ∧ u < 4 * j + t then w.getD (u - 4 * j) 0 else 0) else (if u < 8 + t then -(s * w.getD (u - 8) 0) else 0)
section
variable {X : List Nat} {w0 : World} {M0 : List Ent} {I0 : List aZ}
end
end Go.Proofs.YtkccjglmnhgabaaGreat
namespace Go.Proofs.YtkccjglmnhgabaaGreat
open Go Go.Fx
theorem aDK {l m : List Rat} : lead (l ++ m) = if lead l = 0 then lead m else lead l := by
 induction l with
 | nil =>
  have e0 : lead ([] : List Rat) = 0 := rfl
  rw [e0, if_pos rfl]; rfl
 | cons a l ih =>
  by_cases ha : a = 0
  ·have e1 : ∀ m : List Rat, lead (a :: m) = lead m := fun m => by unfold lead; simp [List.find?, ha]
   rw [List.cons_append, e1, e1, ih]
  ·have e1 : ∀ m : List Rat, lead (a :: m) = a := fun m => by unfold lead; simp [List.find?, ha]
   rw [List.cons_append, e1, e1, if_neg ha]
theorem aJF {x : Rat} : lead [x] = x := by unfold lead; by_cases h : x = 0 <;> simp [List.find?, h]
theorem aAD {l : List Rat} {i : Nat} (hi : i < l.length) : lead (l.take (i + 1)) = if lead (l.take i) = 0 then l.getD i 0 else lead (l.take i) := by
 have : l.take (i + 1) = l.take i ++ [l.getD i 0] := by
  rw [List.take_add_one]; congr 1
  simp [List.getD, hi]
 rw [this, aDK, aJF]
theorem aHZ {l : List Rat} {i : Nat} (h : lead (l.take i) ≠ 0) : lead l = lead (l.take i) := by
 have : lead (l.take i ++ l.drop i) = lead (l.take i) := by rw [aDK, if_neg h]
 rwa [List.take_append_drop] at this
/- the number that stands at i -/
theorem aPH {l : List Rat} {i : Nat} (hi : i < l.length) : (scl l).getD i 0 = l.getD i 0 / lead (l.take (i + 1)) := by
 have e : (scl l).getD i 0 = l.getD i 0 / lead l := by simp [scl, List.getD, hi]
 rw [e]
 by_cases h : lead (l.take (i + 1)) = 0
 ·have h2 := aAD hi
  rw [h] at h2
  by_cases h3 : lead (l.take i) = 0
  ·rw [if_pos h3] at h2
   rw [← h2]; grind
  ·rw [if_neg h3] at h2; exact absurd h2.symm h3
 ·rw [aHZ h]
end Go.Proofs.YtkccjglmnhgabaaGreat
namespace Go.Proofs.YtkccjglmnhgabaaGreat
open Go Go.Fx
theorem pt_b {b o : Nat} : pt (some ⟨b, 0, none⟩) o = ⟨b, o, none⟩ := by simp [pt, bl, of]
theorem aGA {done : List RL} {es : List RE} {e : RE} {l : List Rat} {i : Nat} (h : done.flatMap RL.q ++ qs es = l.take i) (hi : i < l.length) (he : l.getD i 0 = e.q) : done.flatMap RL.q ++ qs (es ++ [e]) = l.take (i + 1) := by
 have : l.take (i + 1) = l.take i ++ [l.getD i 0] := by
  rw [List.take_add_one]; congr 1
  simp [List.getD, hi]
 rw [this, ← h, he]
 simp [qs]
theorem aME {X : List Nat} {w0 w : World} {M : List Ent} {I : List aZ} {q : Option Addr} {mm c sz : Nat} {cs : List Value} {e : TypeId} (h : .row q mm c cs e sz ∈ M) (hp : 0 < mm) (hw : Mem X w0 M I w) : ∃ b, q = some ⟨b, 0, none⟩ := by
 have ho : w.ownsRow 0 e sz (.slice q mm c) mm cs := hw.ent _ h
 rcases ho.2 with ⟨h1, h2⟩ | ⟨g, cap, cur, hv, _⟩
 ·omega
 ·injection hv with e1
  exact ⟨g, e1⟩
section
variable {X : List Nat} {w0 : World} {M0 : List Ent} {I0 : List aZ}
theorem aEN {x : RL} {K : Nat} (hK : K ≤ 20000000000) (hl : x.es.length = 12) (hx : iY x K ∈ I0) :
  CD Tryz.prog 16 [lv x] X w0 M0 I0 (fun v M I => M0 = M ∧ ∃ m : MX, v = mv m ∧ m.q = thr (scl x.q) ∧ m.dim 3 4 ∧ I = nU m (2 * K) :: I0) := by
 have hWh := fun x M0 I0 (hx : -9223372036854775808 ≤ x ∧ x ≤ 9223372036854775807) (h : x.natAbs ≤ 2 ^ 0) => qV (X := X) (w0 := w0) (M0 := M0) (I0 := I0) (x := x) hx (k := 0) h
 have hZ := fun e M0 I0 h => aCE (X := X) (w0 := w0) (M0 := M0) (I0 := I0) (a := e) (k := K) (by omega) h
 have hlq : x.q.length = 12 := by rw [← hl]; show (qs _).length = _; simp [qs]
 have hsl : (scl x.q).length = 12 := by simp only [scl, List.length_map]; exact hl
 have hgx : ∀ i : Nat, i < 12 → (gt x.es (i : Int)).q = x.q.getD i 0 := fun i hi => (kH (by omega)).symm
 refine eD (φ := bI (x).p (recs eR (x).es)) (Hv.lsl aC) ?_
 refine cO Tryz.func16 rfl Tryz.ntmps16 rfl ?_
 repeat (refine aJ ?_)
 (refine aA rfl (hWh 0 _ _ (by decide) (by decide)) rfl rfl ?_; rintro _ _ _ ⟨rfl, e0, rfl, he0, rfl⟩; refine ⟨okF, ?_⟩)
 (refine aB rfl rfl ?_; intro b4; refine ⟨okF, ?_⟩)
 refine fI (φ := bM e0 K) (Hv.q (k := 0) aC (by omega)) ?_
 repeat (refine aJ ?_)
 rw [hl]
 refine kT 39 1 ?_
 refine kT 37 4 ?_
 refine fD (φ := kG [] (2 * K)) ⟨fun X w hw => ⟨fun r hr => by simp at hr⟩⟩ ?_
 refine fD (φ := fE [] (2 * K)) Hv.nilR ?_
 refine bG [4, 8, 9] rfl (fun k G M I => ∃ (i : Nat) (e4 : RE) (hs done : List RL) (es : List RE) (q pc : Option Addr) (c cc : Nat), i ≤ 12 ∧ k = 12 - i ∧ e4.q = lead (x.q.take i) ∧ es.length ≤ 4 ∧ i = 4 * done.length + es.length ∧ (∀ r ∈ done, r.es.length = 4) ∧ done.flatMap RL.q ++ qs es = (scl x.q).take i ∧ (i = 0 ∧ hs = [] ∧ pc = none ∧ cc = 0 ∨ 0 < es.length ∧ hs = done ++ [⟨pc, cc, es⟩]) ∧ G = [(3, .slice q hs.length c), (10, .int .i64 i)] ∧ M = .row pc es.length cc (recs eR es) 37 4 :: .blk b4 (eR e4) 37 :: .row q hs.length c (recs eL hs) 39 1 :: M0 ∧ I = fE es (2 * K) :: kG done (2 * K) :: bM e4 K :: bI x.p (recs eR x.es) :: I0) (12) _ _ _ aO aD aF (⟨0, e0, [], [], [], none, none, 0, 0, by omega, rfl, by rw [he0]; rfl, by simp, rfl, by simp, by simp [qs], .inl ⟨rfl, rfl, rfl, rfl⟩, rfl, rfl, rfl⟩) ?_
 rintro kk G M I ⟨i, e4, hs, done, es, q, pc, c, cc, hi, rfl, h4, hes, hidx, hd4, hfl, hst, rfl, rfl, rfl⟩
 by_cases hin : i < 12
 ·refine fD (φ := bM (gt x.es (i : Int)) K) ⟨fun X w hw => (hw _ (by exact List.Mem.tail _ (List.Mem.tail _ (List.Mem.tail _ (List.Mem.tail _ hx)))) : IsL x K X w).el _ (dX (by omega))⟩ ?_
  repeat (refine aJ ?_)
  (refine aB rfl rfl ?_; intro b6; refine ⟨okF, ?_⟩)
  repeat (refine aJ ?_)
  refine aNX (fun G M I => ∃ e4' : RE, e4'.q = lead (x.q.take (i + 1)) ∧ G = [(3, .slice q hs.length c), (4, .pointer (some ⟨b4, 0, none⟩)), (5, .int .i64 i), (6, .pointer (some ⟨b6, 0, none⟩)), (8, lv x), (9, .int .i64 (12 : Nat)), (10, .int .i64 i)] ∧ M = .row pc es.length cc (recs eR es) 37 4 :: .blk b6 (eR (gt x.es (i : Int))) 37 :: .blk b4 (eR e4') 37 :: .row q hs.length c (recs eL hs) 39 1 :: M0 ∧ I = bM e4' K :: bM (gt x.es (i : Int)) K :: fE es (2 * K) :: kG done (2 * K) :: bI x.p (recs eR x.es) :: I0) ?_ ?_
  ·have hlt := aAD (l := x.q) (i := i) (by omega)
   have hZ4 := hZ e4
   by_cases h0 : e4.q = 0
   ·rw [dG h0] at hZ4
    rw [if_pos (by rw [← h4]; exact h0)] at hlt
    (refine aA rfl (hZ4 _ _ (Hv.mem aC)) rfl rfl ?_; rintro _ _ _ ⟨rfl, rfl, rfl⟩; refine ⟨okF, ?_⟩)
    repeat (refine aJ ?_)
    refine aN _ _ _ aO aD aF ⟨gt x.es (i : Int), by rw [hlt, hgx i hin], rfl, rfl, rfl⟩
   ·rw [bN h0] at hZ4
    rw [if_neg (by rw [← h4]; exact h0)] at hlt
    (refine aA rfl (hZ4 _ _ (Hv.mem aC)) rfl rfl ?_; rintro _ _ _ ⟨rfl, rfl, rfl⟩; refine ⟨okF, ?_⟩)
    repeat (refine aJ ?_)
    refine aN _ _ _ aO aD aF ⟨e4, by rw [hlt, h4], rfl, rfl, rfl⟩
  clear h4
  clear e4
  rintro G M I ⟨e4, h4, rfl, rfl, rfl⟩
  have htm : Int.tmod (i : Int) 4 = ((i % 4 : Nat) : Int) := by rw [Int.tmod_eq_emod_of_nonneg (by omega)]; omega
  refine oF (fun G M I => ∃ (done : List RL) (es : List RE) (q pc : Option Addr) (c cc : Nat), es.length < 4 ∧ i = 4 * done.length + es.length ∧ (∀ r ∈ done, r.es.length = 4) ∧ done.flatMap RL.q ++ qs es = (scl x.q).take i ∧ G = [(3, .slice q (done ++ [(⟨pc, cc, es⟩ : RL)]).length c), (4, .pointer (some ⟨b4, 0, none⟩)), (5, .int .i64 i), (6, .pointer (some ⟨b6, 0, none⟩)), (8, lv x), (9, .int .i64 (12 : Nat)), (10, .int .i64 i)] ∧ M = .row pc es.length cc (recs eR es) 37 4 :: .blk b6 (eR (gt x.es (i : Int))) 37 :: .blk b4 (eR e4) 37 :: .row q (done ++ [(⟨pc, cc, es⟩ : RL)]).length c (recs eL (done ++ [(⟨pc, cc, es⟩ : RL)])) 39 1 :: M0 ∧ I = fE es (2 * K) :: kG done (2 * K) :: bM e4 K :: bM (gt x.es (i : Int)) K :: bI x.p (recs eR x.es) :: I0) ?_ ?_
  ·rcases hst with ⟨rfl, rfl, rfl, rfl⟩ | ⟨hpos, rfl⟩
   ·obtain rfl : done = [] := List.eq_nil_of_length_eq_zero (by omega)
    obtain rfl : es = [] := List.eq_nil_of_length_eq_zero (by simp at hidx; omega)
    repeat (refine aJ ?_)
    (refine bO (cs := recs eL [(⟨none, 0, []⟩ : RL)]) ([.slice none 0 0]) rfl rfl (by intro v hv; repeat (first | exact absurd hv (List.not_mem_nil) | (rcases List.mem_cons.1 hv with rfl | hv; · rfl))) (by omega) rfl rfl rfl ?_; intro bn; refine ⟨okF, ?_⟩)
    (refine eQ (ys := [(⟨none, 0, []⟩ : RL)]) 4 rfl rfl rfl ?_ (by decide) rfl (by omega) (by omega) rfl rfl ?_; (· first | exact Src.blk aC | exact Src.row aC | exact Src.imm aC (by first | assumption | exact .inl (Ok.mk _ _))); intro q3 c3; refine ⟨okF, ?_⟩)
    repeat (refine aJ ?_)
    refine aN _ _ _ aO aD aF ⟨[], [], q3, none, c3, 0, by simp, rfl, hd4, hfl, rfl, rfl, rfl⟩
   ·by_cases h4' : es.length = 4
    ·refine aEL (k := 2 * K) aC ?_
     refine fD (φ := kG (done ++ [(⟨pc, cc, es⟩ : RL)]) (2 * K)) (Hv.snoc1L aC aC) ?_
     refine kT 37 4 ?_
     refine fD (φ := fE [] (2 * K)) Hv.nilR ?_
     have hll : (done ++ [(⟨pc, cc, es⟩ : RL)]).length = done.length + 1 := by simp
     repeat (refine aJ ?_)
     (refine bO (cs := recs eL [(⟨none, 0, []⟩ : RL)]) ([.slice none 0 0]) rfl rfl (by intro v hv; repeat (first | exact absurd hv (List.not_mem_nil) | (rcases List.mem_cons.1 hv with rfl | hv; · rfl))) (by omega) rfl rfl rfl ?_; intro bn; refine ⟨okF, ?_⟩)
     (refine eQ (ys := [(⟨none, 0, []⟩ : RL)]) 4 rfl rfl rfl ?_ (by decide) rfl (by omega) (by omega) rfl rfl ?_; (· first | exact Src.blk aC | exact Src.row aC | exact Src.imm aC (by first | assumption | exact .inl (Ok.mk _ _))); intro q3 c3; refine ⟨okF, ?_⟩)
     repeat (refine aJ ?_)
     refine aN _ _ _ aO aD aF ⟨done ++ [(⟨pc, cc, es⟩ : RL)], [], q3, none, c3, 0, by simp, by simp; omega, fun r hr => ?_, ?_, rfl, rfl, rfl⟩
     ·rcases List.mem_append.1 hr with hr | hr
      ·exact hd4 r hr
      ·rw [List.mem_singleton.1 hr]; exact h4'
     ·rw [← hfl, List.flatMap_append]
      show _ ++ (qs es ++ []) ++ [] = _
      simp
    ·repeat (refine aJ ?_)
     refine aN _ _ _ aO aD aF ⟨done, es, q, pc, c, cc, by omega, hidx, hd4, hfl, rfl, rfl, rfl⟩
  clear hst hfl hd4 hidx hes
  clear htm
  clear hs done es q pc c cc
  rintro G M I ⟨done, es, q, pc, c, cc, hes, hidx, hd4, hfl, rfl, rfl, rfl⟩
  have htd : Int.tdiv (i : Int) 4 = ((done.length : Nat) : Int) := by rw [Int.tdiv_eq_ediv_of_nonneg (by omega)]; omega
  have hcur : gt (done ++ [(⟨pc, cc, es⟩ : RL)]) ((done.length : Nat) : Int) = ⟨pc, cc, es⟩ := by rw [fH (by simp)]; simp
  have hll : (done ++ [(⟨pc, cc, es⟩ : RL)]).length = done.length + 1 := by simp
  have hsc := aPH (l := x.q) (i := i) (by omega)
  rw [← h4] at hsc
  have hcp : (gt (done ++ [(⟨pc, cc, es⟩ : RL)]) ((done.length : Nat) : Int)).p = pc := by rw [hcur]
  have hcn : (gt (done ++ [(⟨pc, cc, es⟩ : RL)]) ((done.length : Nat) : Int)).es.length = es.length := by rw [hcur]
  have hcc : (gt (done ++ [(⟨pc, cc, es⟩ : RL)]) ((done.length : Nat) : Int)).c = cc := by rw [hcur]
  refine rC (fun w hw => aME (q := q) (mm := (done ++ [(⟨pc, cc, es⟩ : RL)]).length) aC (by omega) hw) (fun hqs => ?_)
  have hZ4 := hZ e4
  by_cases h0 : e4.q = 0
  ·rw [dG h0] at hZ4
   repeat (refine aJ ?_)
   (refine aA rfl (hZ4 _ _ (Hv.mem aC)) rfl rfl ?_; rintro _ _ _ ⟨rfl, rfl, rfl⟩; refine ⟨okF, ?_⟩)
   repeat (refine aJ ?_)
   (repeat refine aL ?_); refine yT 3 (.blk b6 (eR (gt x.es (i : Int))) 37 :: .blk b4 (eR e4) 37 :: .row q (done ++ [(⟨pc, cc, es⟩ : RL)]).length c (recs eL (done ++ [(⟨pc, cc, es⟩ : RL)])) 39 1 :: M0) (I0) [0, 1, 2, 3, 4, 5, 6, 7, 8, 9, 10, 11, 12] [3, 3, 3, 3, 3, 3, 3, 2, 0, 0, 0, 0, 0] aD aF mixed (by kernel_rfl) ?_
   repeat (refine aJ ?_)
   rw [htd, hcp, hcn, hcc]
   repeat (refine aJ ?_)
   (refine aA rfl (hWh 0 _ _ (by decide) (by decide)) rfl rfl ?_; rintro _ _ _ ⟨rfl, e, rfl, he, rfl⟩; refine ⟨okF, ?_⟩)
   refine fI (φ := bM e (2 * K)) (Hv.q (k := 0) aC (by omega)) ?_
   (refine bO (cs := recs eR [e]) ([rv e]) rfl rfl (by intro v hv; repeat (first | exact absurd hv (List.not_mem_nil) | (rcases List.mem_cons.1 hv with rfl | hv; · rfl))) (by omega) rfl rfl rfl ?_; intro bv; refine ⟨okF, ?_⟩)
   (refine eQ (ys := [e]) 1 rfl rfl rfl ?_ (by decide) rfl (by omega) (by omega) rfl rfl ?_; (· first | exact Src.blk aC | exact Src.row aC | exact Src.imm aC (by first | assumption | exact .inl (Ok.mk _ _))); intro q2 c2; refine ⟨okF, ?_⟩)
   repeat (refine aJ ?_)
   have hln : ((es ++ [e]).length : Int) = es.length + 1 := by simp
   obtain ⟨bq, rfl⟩ := hqs
   rw [pt_b]
   refine aCF (b := bq) rfl rfl rfl lU (StAt.r1 (⟨q2, c2, es ++ [e]⟩ : RL) (by omega) rfl) (by simp [jN, eT]) rfl rfl ⟨okF, ?_⟩
   rw [yH (by simp)]
   refine fI (φ := fE (es ++ [e]) (2 * K)) (Hv.snoc aC aC) ?_
   rw [show (done ++ [(⟨pc, cc, es⟩ : RL)]).length = (done ++ [(⟨q2, c2, es ++ [e]⟩ : RL)]).length by simp]
   repeat (refine aJ ?_)
   refine aS (12 - (i + 1)) _ _ _ (by first | omega | (simp only [List.length_append, List.length_cons, List.length_nil]; omega)) aO aD aF (⟨i + 1, e4, done ++ [(⟨q2, c2, es ++ [e]⟩ : RL)], done, es ++ [e], some ⟨bq, 0, none⟩, q2, c, c2, by omega, rfl, h4, by simp; omega, by simp; omega, hd4, ?_, .inr ⟨by simp, rfl⟩, rfl, rfl, rfl⟩)
   exact aGA hfl (by rw [hsl]; omega) (by rw [hsc, he, h0, Rat.div_def, Rat.inv_zero, Rat.mul_zero]; rfl)
  ·rw [bN h0] at hZ4
   have hD := fun M0 I0 h1 h2 => aMT (X := X) (w0 := w0) (M0 := M0) (I0 := I0) (a := gt x.es (i : Int)) (b := e4) (k := K) (m := K) (by omega) h0 h1 h2
   repeat (refine aJ ?_)
   (refine aA rfl (hZ4 _ _ (Hv.mem aC)) rfl rfl ?_; rintro _ _ _ ⟨rfl, rfl, rfl⟩; refine ⟨okF, ?_⟩)
   repeat (refine aJ ?_)
   (repeat refine aL ?_); refine yT 3 (.blk b6 (eR (gt x.es (i : Int))) 37 :: .blk b4 (eR e4) 37 :: .row q (done ++ [(⟨pc, cc, es⟩ : RL)]).length c (recs eL (done ++ [(⟨pc, cc, es⟩ : RL)])) 39 1 :: M0) (I0) [0, 1, 2, 3, 4, 5, 6, 7, 8, 9, 10, 11, 12, 13, 14] [3, 3, 3, 3, 3, 3, 3, 2, 2, 2, 0, 0, 0, 0, 0] aD aF mixed (by kernel_rfl) ?_
   repeat (refine aJ ?_)
   rw [htd, hcp, hcn, hcc]
   repeat (refine aJ ?_)
   (refine aA rfl (hD _ _ (Hv.mem aC) (Hv.mem aC)) rfl rfl ?_; rintro _ _ _ ⟨rfl, e, rfl, he, rfl⟩; refine ⟨okF, ?_⟩)
   refine fI (φ := bM e (2 * K)) (Hv.q (k := K + K) aC (by omega)) ?_
   (refine bO (cs := recs eR [e]) ([rv e]) rfl rfl (by intro v hv; repeat (first | exact absurd hv (List.not_mem_nil) | (rcases List.mem_cons.1 hv with rfl | hv; · rfl))) (by omega) rfl rfl rfl ?_; intro bv; refine ⟨okF, ?_⟩)
   (refine eQ (ys := [e]) 1 rfl rfl rfl ?_ (by decide) rfl (by omega) (by omega) rfl rfl ?_; (· first | exact Src.blk aC | exact Src.row aC | exact Src.imm aC (by first | assumption | exact .inl (Ok.mk _ _))); intro q2 c2; refine ⟨okF, ?_⟩)
   repeat (refine aJ ?_)
   have hln : ((es ++ [e]).length : Int) = es.length + 1 := by simp
   obtain ⟨bq, rfl⟩ := hqs
   rw [pt_b]
   refine aCF (b := bq) rfl rfl rfl lU (StAt.r1 (⟨q2, c2, es ++ [e]⟩ : RL) (by omega) rfl) (by simp [jN, eT]) rfl rfl ⟨okF, ?_⟩
   rw [yH (by simp)]
   refine fI (φ := fE (es ++ [e]) (2 * K)) (Hv.snoc aC aC) ?_
   rw [show (done ++ [(⟨pc, cc, es⟩ : RL)]).length = (done ++ [(⟨q2, c2, es ++ [e]⟩ : RL)]).length by simp]
   repeat (refine aJ ?_)
   refine aS (12 - (i + 1)) _ _ _ (by first | omega | (simp only [List.length_append, List.length_cons, List.length_nil]; omega)) aO aD aF (⟨i + 1, e4, done ++ [(⟨q2, c2, es ++ [e]⟩ : RL)], done, es ++ [e], some ⟨bq, 0, none⟩, q2, c, c2, by omega, rfl, h4, by simp; omega, by simp; omega, hd4, ?_, .inr ⟨by simp, rfl⟩, rfl, rfl, rfl⟩)
   exact aGA hfl (by rw [hsl]; omega) (by rw [hsc, he, hgx i hin])
 ·obtain rfl : i = 12 := by omega
  obtain ⟨hpos, rfl⟩ : 0 < es.length ∧ hs = done ++ [⟨pc, cc, es⟩] := by
   rcases hst with ⟨h0, _⟩ | h
   ·omega
   ·exact h
  have hs4 : es.length = 4 := by omega
  have hd2 : done.length = 2 := by omega
  refine aEL (k := 2 * K) aC ?_
  refine fD (φ := kG (done ++ [(⟨pc, cc, es⟩ : RL)]) (2 * K)) (Hv.snoc1L aC aC) ?_
  refine aKT (M' := .row q (done ++ [(⟨pc, cc, es⟩ : RL)]).length c (recs eL (done ++ [(⟨pc, cc, es⟩ : RL)])) 39 1 :: M0) aD Inc.refl ?_
  repeat (refine aJ ?_)
  refine aKY (k := 2 * K) aC ?_
  refine aQ (by first | exact .inl rfl | exact .inr rfl) rfl rfl _ _ aD aF (⟨rfl, ⟨q, c, done ++ [(⟨pc, cc, es⟩ : RL)]⟩, rfl, ?_, ⟨by show (done ++ [_]).length = 3; simp; omega, fun r hr => ?_⟩, rfl⟩)
  ·obtain ⟨d0, d1, rfl⟩ : ∃ d0 d1, done = [d0, d1] := by
    match done, hd2 with
    | [a, b], _ => exact ⟨a, b, rfl⟩
   have l0 : d0.q.length = 4 := by show (qs _).length = 4; simp only [qs, List.length_map]; exact hd4 _ (by simp)
   have l1 : d1.q.length = 4 := by show (qs _).length = 4; simp only [qs, List.length_map]; exact hd4 _ (by simp)
   have l2 : (qs es).length = 4 := by simp only [qs, List.length_map]; exact hs4
   have hfl2 : scl x.q = d0.q ++ (d1.q ++ qs es) := by
    rw [List.take_of_length_le (by omega)] at hfl
    rw [← hfl]; simp
   show [d0.q, d1.q, qs es] = thr (scl x.q)
   rw [hfl2]
   unfold thr
   simp [List.take_append, List.drop_append, l0, l1, l2]
   rw [List.drop_eq_nil_of_le (by rw [List.length_take]; omega), List.take_of_length_le (by omega), List.nil_append]
  ·rcases List.mem_append.1 hr with hr | hr
   ·exact hd4 r hr
   ·rw [List.mem_singleton.1 hr]; exact hs4
end
end Go.Proofs.YtkccjglmnhgabaaGreat
namespace Go.Proofs.YtkccjglmnhgabaaGreat
open Go Go.Fx
section
variable {X : List Nat} {w0 : World} {M0 : List Ent} {I0 : List aZ}
end
end Go.Proofs.YtkccjglmnhgabaaGreat
namespace Go.Proofs.YtkccjglmnhgabaaGreat
open Go Go.Fx
section
variable {X : List Nat} {w0 : World} {M0 : List Ent} {I0 : List aZ}
end
end Go.Proofs.YtkccjglmnhgabaaGreat
namespace Go.Proofs.YtkccjglmnhgabaaGreat
open Go Go.Fx
theorem aHL {A : Mt} {C : Nat} {v : List Rat} (hv : v ∈ kI A C) : v.length = C := by
 obtain ⟨j, hj, rfl⟩ := List.mem_map.1 (show v ∈ (rG (kM A C).2 C).map (uD (kM A C).1 (kM A C).2 C) from hv)
 simp [uD]
end Go.Proofs.YtkccjglmnhgabaaGreat
namespace Go.Proofs.YtkccjglmnhgabaaGreat
open Go Go.Fx
theorem aHJ {R C : Nat} {A : Mt} (hA : xM A R C) {z : Nat → Rat} (hz : Go.Proofs.YtkccjglmnhgabaaGreat.ker R C (at2 A) z) {c0 : Nat} (hc : c0 < C) (h0 : z c0 ≠ 0) : (kI A C).length ≠ 0 := by
 obtain ⟨_, s, hr⟩ := uW hA C (Nat.le_refl _)
 intro hl
 unfold kI aGK at hl
 rw [List.length_map] at hl
 refine h0 ?_
 rw [hr.span hz hc]
 refine xS (fun j hj => ?_)
 by_cases hp : j ∈ (kM A C).2
 ·simp only [wG, if_pos hp]; grind
 ·have : j ∈ rG (kM A C).2 C := List.mem_filter.2 ⟨List.mem_range.2 hj, by simpa using hp⟩
  rw [List.eq_nil_of_length_eq_zero hl] at this
  cases this
theorem aMC {R C : Nat} {A : Mt} (hA : xM A R C) {z : Nat → Rat} (hz : Go.Proofs.YtkccjglmnhgabaaGreat.ker R C (at2 A) z) {c0 : Nat} (hc : c0 < C) (h0 : z c0 ≠ 0) (hl : (kI A C).length = 1) : ∃ κ : Rat, κ ≠ 0 ∧ ∀ c, c < C → z c = κ * ((kI A C).getD 0 []).getD c 0 := by
 obtain ⟨_, s, hr⟩ := uW hA C (Nat.le_refl _)
 unfold kI aGK at hl ⊢
 rw [List.length_map] at hl
 obtain ⟨j0, hj0⟩ := List.length_eq_one_iff.1 hl
 rw [hj0]
 have hm : j0 ∈ rG (kM A C).2 C := by rw [hj0]; exact List.mem_singleton.2 rfl
 have hm2 := List.mem_filter.1 hm
 have hjC : j0 < C := List.mem_range.1 hm2.1
 have hjp : j0 ∉ (kM A C).2 := of_decide_eq_true hm2.2
 have key : ∀ c, c < C → z c = z j0 * vG (at2 (kM A C).1) (kM A C).2 j0 c := fun c hc => by
  rw [hr.span hz hc, aEX (p := j0) hjC (fun j hj hne => ?_)]
  ·simp only [wG, if_neg hjp]
  ·by_cases hp : j ∈ (kM A C).2
   ·simp only [wG, if_pos hp]; grind
   ·have : j ∈ rG (kM A C).2 C := List.mem_filter.2 ⟨List.mem_range.2 hj, by simpa using hp⟩
    rw [hj0] at this
    exact absurd (List.mem_singleton.1 this) hne
 refine ⟨z j0, fun e => h0 ?_, fun c hc => ?_⟩
 ·rw [key c0 hc, e]; grind
 ·show z c = z j0 * (uD (kM A C).1 (kM A C).2 C j0).getD c 0
  rw [aDH hc]; exact key c hc
theorem aDL {κ : Rat} (hκ : κ ≠ 0) : ∀ l : List Rat, lead (l.map (fun x => κ * x)) = κ * lead l
 | [] => by unfold lead; simp
 | a :: l => by
  have ih := aDL hκ l
  unfold lead at ih ⊢
  by_cases ha : a = 0
  ·have e : κ * a = 0 := by rw [ha]; grind
   simp only [List.map_cons, List.find?_cons, ha, e, ne_eq, not_true_eq_false, decide_false, Rat.mul_zero] at ih ⊢
   exact ih
  ·have e : κ * a ≠ 0 := fun h => by
    rcases Rat.mul_eq_zero.1 h with h | h
    ·exact hκ h
    ·exact ha h
   simp [List.find?_cons, ha, e]
theorem aOH {κ : Rat} (hκ : κ ≠ 0) (l : List Rat) : scl (l.map (fun x => κ * x)) = scl l := by
 unfold scl
 rw [aDL hκ, List.map_map]
 refine List.map_congr_left (fun x _ => ?_)
 show κ * x / (κ * lead l) = x / lead l
 by_cases h : lead l = 0
 ·rw [h, Rat.mul_zero, Rat.div_def, Rat.div_def, Rat.inv_zero, Rat.mul_zero, Rat.mul_zero]
 ·have h2 : κ * lead l ≠ 0 := fun e => by
   rcases Rat.mul_eq_zero.1 e with e | e
   ·exact hκ e
   ·exact h e
  grind
theorem aKC {κ : Rat} (hκ : κ ≠ 0) {l l' : List Rat} {n : Nat} (h1 : l.length = n) (h2 : l'.length = n) (h : ∀ c, c < n → l.getD c 0 = κ * l'.getD c 0) : scl l = scl l' := by
 have : l = l'.map (fun x => κ * x) := by
  refine List.ext_getElem (by rw [List.length_map]; omega) (fun c hc hc' => ?_)
  have := h c (by omega)
  simp only [List.getD_eq_getElem?_getD, List.getElem?_eq_getElem hc, List.getElem?_eq_getElem (show c < l'.length by omega), Option.getD_some] at this
  rw [List.getElem_map]; exact this
 rw [this, aOH hκ]
theorem aMR {W : Nat → List Rat} {P : Nat → V2} {n : Nat} : ∀ r ∈ eqs W P n, ∃ j, j < n ∧ (r = eqU (W j) (P j).x ∨ r = eqV (W j) (P j).y) := by
 induction n with
 | zero => intro r hr; simp [eqs] at hr
 | succ n ih =>
  intro r hr
  simp only [eqs, List.mem_append, List.mem_cons, List.not_mem_nil, or_false] at hr
  rcases hr with hr | rfl | rfl
  ·obtain ⟨j, hj, h⟩ := ih r hr
   exact ⟨j, by omega, h⟩
  ·exact ⟨n, by omega, .inl rfl⟩
  ·exact ⟨n, by omega, .inr rfl⟩
section
variable {a0 a1 a2 a3 a4 a5 a6 a7 a8 a9 a10 a11 : Rat}
def m34 (a0 a1 a2 a3 a4 a5 a6 a7 a8 a9 a10 a11 : Rat) : Mt := [[a0, a1, a2, a3], [a4, a5, a6, a7], [a8, a9, a10, a11]]
def v12 (a0 a1 a2 a3 a4 a5 a6 a7 a8 a9 a10 a11 : Rat) : List Rat := [a0, a1, a2, a3, a4, a5, a6, a7, a8, a9, a10, a11]
theorem aBE {x y z : Rat} : qP (m34 a0 a1 a2 a3 a4 a5 a6 a7 a8 a9 a10 a11) x y z 0 = a0 * x + a1 * y + a2 * z + a3 ∧ qP (m34 a0 a1 a2 a3 a4 a5 a6 a7 a8 a9 a10 a11) x y z 1 = a4 * x + a5 * y + a6 * z + a7 ∧ qP (m34 a0 a1 a2 a3 a4 a5 a6 a7 a8 a9 a10 a11) x y z 2 = a8 * x + a9 * y + a10 * z + a11 := by
 refine ⟨?_, ?_, ?_⟩ <;> simp [qP, sm, m34, at2, rowAt] <;> grind
theorem aNW {W : Nat → List Rat} {P : Nat → V2} {n : Nat} (h : ∀ i, i < n → ∃ x y z, W i = [x, y, z] ∧ qP (m34 a0 a1 a2 a3 a4 a5 a6 a7 a8 a9 a10 a11) x y z 2 ≠ 0 ∧
   (P i).x = qP (m34 a0 a1 a2 a3 a4 a5 a6 a7 a8 a9 a10 a11) x y z 0 / qP (m34 a0 a1 a2 a3 a4 a5 a6 a7 a8 a9 a10 a11) x y z 2 ∧ (P i).y = qP (m34 a0 a1 a2 a3 a4 a5 a6 a7 a8 a9 a10 a11) x y z 1 / qP (m34 a0 a1 a2 a3 a4 a5 a6 a7 a8 a9 a10 a11) x y z 2) :
  Go.Proofs.YtkccjglmnhgabaaGreat.ker (2 * n) 12 (at2 (eqs W P n)) (fun c => (v12 a0 a1 a2 a3 a4 a5 a6 a7 a8 a9 a10 a11).getD c 0) := by
 intro i hi
 have hm : rowAt (eqs W P n) i ∈ eqs W P n := by
  unfold rowAt
  have hl : i < (eqs W P n).length := by rw [aBU]; exact hi
  simp only [List.getD_eq_getElem?_getD, List.getElem?_eq_getElem hl, Option.getD_some]
  exact List.getElem_mem hl
 show sm 12 (fun j => (rowAt (eqs W P n) i).getD j 0 * (v12 a0 a1 a2 a3 a4 a5 a6 a7 a8 a9 a10 a11).getD j 0) = 0
 obtain ⟨j, hj, hr⟩ := aMR _ hm
 obtain ⟨x, y, z, hw, h2, hx, hy⟩ := h j hj
 obtain ⟨e0, e1, e2⟩ := aBE (a0 := a0) (a1 := a1) (a2 := a2) (a3 := a3) (a4 := a4) (a5 := a5) (a6 := a6) (a7 := a7) (a8 := a8) (a9 := a9) (a10 := a10) (a11 := a11) (x := x) (y := y) (z := z)
 rw [e0, e2] at hx
 rw [e1, e2] at hy
 rw [e2] at h2
 rcases hr with hr | hr
 ·rw [hr, hx, hw]
  simp [sm, eqU, pt4, z4q, v12, List.range, List.range.loop]
  grind
 ·rw [hr, hy, hw]
  simp [sm, eqV, pt4, z4q, v12, List.range, List.range.loop]
  grind
theorem aPU {x y z : Rat} (h : qP (m34 a0 a1 a2 a3 a4 a5 a6 a7 a8 a9 a10 a11) x y z 2 ≠ 0) : ∃ c, c < 12 ∧ (v12 a0 a1 a2 a3 a4 a5 a6 a7 a8 a9 a10 a11).getD c 0 ≠ 0 := by
 refine Classical.byContradiction (fun hn => h ?_)
 have hz : ∀ c, c < 12 → (v12 a0 a1 a2 a3 a4 a5 a6 a7 a8 a9 a10 a11).getD c 0 = 0 := fun c hc => Classical.byContradiction (fun h0 => hn ⟨c, hc, h0⟩)
 have h8 : a8 = 0 := hz 8 (by decide)
 have h9 : a9 = 0 := hz 9 (by decide)
 have h10 : a10 = 0 := hz 10 (by decide)
 have h11 : a11 = 0 := hz 11 (by decide)
 rw [aBE.2.2, h8, h9, h10, h11]
 grind
theorem aNF {W : Nat → List Rat} {P : Nat → V2} {n : Nat} (hn : 1 ≤ n) (hd : xM (eqs W P n) (2 * n) 12) (h : ∀ i, i < n → ∃ x y z, W i = [x, y, z] ∧ qP (m34 a0 a1 a2 a3 a4 a5 a6 a7 a8 a9 a10 a11) x y z 2 ≠ 0 ∧
   (P i).x = qP (m34 a0 a1 a2 a3 a4 a5 a6 a7 a8 a9 a10 a11) x y z 0 / qP (m34 a0 a1 a2 a3 a4 a5 a6 a7 a8 a9 a10 a11) x y z 2 ∧ (P i).y = qP (m34 a0 a1 a2 a3 a4 a5 a6 a7 a8 a9 a10 a11) x y z 1 / qP (m34 a0 a1 a2 a3 a4 a5 a6 a7 a8 a9 a10 a11) x y z 2) :
  (kI (eqs W P n) 12).length ≠ 0 ∧ ((kI (eqs W P n) 12).length = 1 → scl ((kI (eqs W P n) 12).getD 0 []) = scl (v12 a0 a1 a2 a3 a4 a5 a6 a7 a8 a9 a10 a11)) := by
 have hk := aNW h
 obtain ⟨x, y, z, _, h2, _, _⟩ := h 0 (by omega)
 obtain ⟨c, hc, h0⟩ := aPU h2
 refine ⟨aHJ hd hk hc h0, fun hl => ?_⟩
 obtain ⟨κ, hκ, he⟩ := aMC hd hk hc h0 hl
 have hlen : ((kI (eqs W P n) 12).getD 0 []).length = 12 := by
  refine aHL (A := eqs W P n) (C := 12) ?_
  rw [List.getD_eq_getElem?_getD, List.getElem?_eq_getElem (by omega), Option.getD_some]
  exact List.getElem_mem _
 exact (aKC hκ (n := 12) rfl hlen (fun c hc => he c hc)).symm
end
/- heights of quotients of integers -/
theorem aHA {a b : Int} {k : Nat} (hb : b ≠ 0) (ha : a.natAbs ≤ 2 ^ k) (hb2 : b.natAbs ≤ 2 ^ k) : ((a : Rat) / (b : Rat)).num.natAbs ≤ 2 ^ k ∧ ((a : Rat) / (b : Rat)).den ≤ 2 ^ k := by
 have e : (a : Rat) / (b : Rat) = Rat.divInt a b := (Rat.divInt_eq_div a b).symm
 rw [e, Rat.num_divInt, Rat.den_divInt]
 constructor
 ·have hg : 0 < b.gcd a := Int.gcd_pos_of_ne_zero_left _ hb
  have hd : ((b.gcd a : Nat) : Int) ∣ b.sign * a := Int.dvd_mul_of_dvd_right (Int.gcd_dvd_right ..)
  obtain ⟨c, hc⟩ := hd
  rw [hc, Int.mul_ediv_cancel_left _ (by omega)]
  have h1 : (b.sign * a).natAbs ≤ a.natAbs := by
   rw [Int.natAbs_mul]
   have : b.sign.natAbs ≤ 1 := by rw [Int.natAbs_sign]; split <;> omega
   exact Nat.le_trans (Nat.mul_le_mul_right _ this) (by omega)
  rw [hc, Int.natAbs_mul, Int.natAbs_natCast] at h1
  have := Nat.le_mul_of_pos_left c.natAbs hg
  omega
 ·rw [if_neg hb]
  exact Nat.le_trans (Nat.div_le_self _ _) hb2
/- a number's height is that of its value -/
theorem Hv.fitK {I : List aZ} {e : RE} {k m : Nat} (h : bM e k ∈ I) (h1 : e.q.num.natAbs ≤ 2 ^ m) (h2 : e.q.den ≤ 2 ^ m) : Hv I (bM e m) := ⟨fun X w hw => by
 have hr := (hw _ h : IsR e k X w)
 obtain ⟨q, c, x1, x2, x3, x4⟩ := hr.num.ex
 obtain ⟨q', c', y1, y2, y3, y4⟩ := hr.den.ex
 exact ⟨⟨⟨q, c, x1, x2, h1, x4⟩⟩, ⟨⟨q', c', y1, y2, by simpa using h2, y4⟩⟩⟩⟩
end Go.Proofs.YtkccjglmnhgabaaGreat
namespace Go.Proofs.YtkccjglmnhgabaaGreat
open Go Go.Fx
theorem Hv.rawPs {I : List aZ} {P : List PE} {k : Nat} (hk : k ≤ 1000000000) (h : pO P k ∈ I) : Hv I (sN (P.map PE.raw)) := ⟨fun X w hw => ⟨fun r hr => by
 obtain ⟨v, hv, rfl⟩ := List.mem_map.1 hr
 have := (hw _ h : AllP P k X w).go v hv
 exact ⟨RE.fit (by omega) this.x, RE.fit (by omega) this.y⟩⟩⟩
section
variable {X : List Nat} {w0 : World} {M0 : List Ent} {I0 : List aZ}
end
end Go.Proofs.YtkccjglmnhgabaaGreat
namespace Go.Proofs.YtkccjglmnhgabaaGreat
open Go Go.Fx
section
variable {X : List Nat} {w0 : World} {M0 : List Ent} {I0 : List aZ}
end
end Go.Proofs.YtkccjglmnhgabaaGreat
namespace Go.Proofs.YtkccjglmnhgabaaGreat
open Go Go.Fx
structure I4 where
 a : Int
 b : Int
 c : Int
 d : Int
instance I4.inh : Inhabited I4 := ⟨⟨0, 0, 0, 0⟩⟩
abbrev c4 (r : I4) : List Value := [.int .i8 r.a, .int .i8 r.b, .int .i8 r.c, .int .i8 r.d]
instance I4.szd : Sized c4 4 := ⟨fun _ => rfl⟩
instance I4.one : Ones c4 := ⟨fun m u hu => by
 simp only [List.mem_cons, List.not_mem_nil, or_false] at hu
 rcases hu with rfl | rfl | rfl | rfl <;> rfl⟩
def I4.ok (r : I4) : Prop := r.a.natAbs ≤ 2 ^ 7 ∧ r.b.natAbs ≤ 2 ^ 7 ∧ r.c.natAbs ≤ 2 ^ 7 ∧ r.d.natAbs ≤ 2 ^ 7
def I4.q (r : I4) : List Rat := [(r.a : Rat), (r.b : Rat), (r.c : Rat), (r.d : Rat)]
structure I3 where
 a : Int
 b : Int
 c : Int
instance I3.inh : Inhabited I3 := ⟨⟨0, 0, 0⟩⟩
abbrev c3 (r : I3) : List Value := [.int .i8 r.a, .int .i8 r.b, .int .i8 r.c]
instance I3.szd : Sized c3 3 := ⟨fun _ => rfl⟩
instance I3.one : Ones c3 := ⟨fun m u hu => by
 simp only [List.mem_cons, List.not_mem_nil, or_false] at hu
 rcases hu with rfl | rfl | rfl <;> rfl⟩
def I3.ok (r : I3) : Prop := r.a.natAbs ≤ 2 ^ 7 ∧ r.b.natAbs ≤ 2 ^ 7 ∧ r.c.natAbs ≤ 2 ^ 7
def I3.q (r : I3) : List Rat := [(r.a : Rat), (r.b : Rat), (r.c : Rat)]
def I4.at (r : I4) (p : I3) : Int := r.a * p.a + r.b * p.b + r.c * p.c + r.d
theorem aCA {a b : Int} (ha : a.natAbs ≤ 2 ^ 7) (hb : b.natAbs ≤ 2 ^ 7) : (a * b).natAbs ≤ 2 ^ 14 := by
 rw [Int.natAbs_mul]
 exact Nat.le_trans (Nat.mul_le_mul ha hb) (by decide)
theorem I4.at_le {r : I4} {p : I3} (hr : r.ok) (hp : p.ok) : (r.at p).natAbs ≤ 2 ^ 30 := by
 have h1 := aCA hr.1 hp.1
 have h2 := aCA hr.2.1 hp.2.1
 have h3 := aCA hr.2.2.1 hp.2.2
 have h4 := hr.2.2.2
 unfold I4.at
 generalize r.a * p.a = x at *
 generalize r.b * p.b = y at *
 generalize r.c * p.c = z at *
 omega
def mI (r0 r1 r2 : I4) : Mt := [r0.q, r1.q, r2.q]
theorem rU {r0 r1 r2 : I4} {p : I3} : qP (mI r0 r1 r2) p.a p.b p.c 0 = (r0.at p : Rat) ∧ qP (mI r0 r1 r2) p.a p.b p.c 1 = (r1.at p : Rat) ∧ qP (mI r0 r1 r2) p.a p.b p.c 2 = (r2.at p : Rat) := by
 obtain ⟨h1, h2, h3⟩ := aBE (a0 := (r0.a : Rat)) (a1 := r0.b) (a2 := r0.c) (a3 := r0.d) (a4 := r1.a) (a5 := r1.b) (a6 := r1.c) (a7 := r1.d) (a8 := r2.a) (a9 := r2.b) (a10 := r2.c) (a11 := r2.d) (x := (p.a : Rat)) (y := p.b) (z := p.c)
 have e : mI r0 r1 r2 = m34 (r0.a : Rat) r0.b r0.c r0.d r1.a r1.b r1.c r1.d r2.a r2.b r2.c r2.d := rfl
 rw [e, h1, h2, h3]
 unfold I4.at
 refine ⟨?_, ?_, ?_⟩ <;> simp only [Rat.intCast_add, Rat.intCast_mul]
theorem Hv.imgP {I : List aZ} {e : PE} {k : Nat} {r0 r1 r2 : I4} {p : I3} (h : cZ e k ∈ I) (h0 : r0.ok) (h1 : r1.ok) (h2 : r2.ok) (hp : p.ok) (hz : (r2.at p : Rat) ≠ 0) (he : e.v = ⟨(r0.at p : Rat) / (r2.at p : Rat), (r1.at p : Rat) / (r2.at p : Rat)⟩) : Hv I (cZ e 30) := ⟨fun X w hw => by
 have hp' := (hw _ h : IsP e k X w)
 have hz' : r2.at p ≠ 0 := fun h => hz (by rw [h]; rfl)
 have hx : e.x.q = (r0.at p : Rat) / (r2.at p : Rat) := congrArg V2.x he
 have hy : e.y.q = (r1.at p : Rat) / (r2.at p : Rat) := congrArg V2.y he
 obtain ⟨x1, x2⟩ := aHA (k := 30) hz' (I4.at_le h0 hp) (I4.at_le h2 hp)
 obtain ⟨y1, y2⟩ := aHA (k := 30) hz' (I4.at_le h1 hp) (I4.at_le h2 hp)
 rw [← hx] at x1 x2
 rw [← hy] at y1 y2
 exact ⟨(Hv.fitK (I := [bM e.x k]) (List.Mem.head _) x1 x2).go X w (fun ψ hψ => by rw [List.mem_singleton.1 hψ]; exact hp'.x), (Hv.fitK (I := [bM e.y k]) (List.Mem.head _) y1 y2).go X w (fun ψ hψ => by rw [List.mem_singleton.1 hψ]; exact hp'.y)⟩⟩
structure Img (r0 r1 r2 : I4) (ps : List I3) (t : Nat) (W : List VE) (P : List PE) : Prop where
 lw : W.length = t
 lp : P.length = t
 w : ∀ j : Nat, j < t → wsF W j = (gt ps (j : Int)).q
 z : ∀ j : Nat, j < t → (r2.at (gt ps (j : Int)) : Rat) ≠ 0
 p : ∀ j : Nat, j < t → psF P j = ⟨(r0.at (gt ps (j : Int)) : Rat) / (r2.at (gt ps (j : Int)) : Rat), (r1.at (gt ps (j : Int)) : Rat) / (r2.at (gt ps (j : Int)) : Rat)⟩
theorem aHC {α : Type} [Inhabited α] {l : List α} {a : α} {j : Nat} (hj : j ≤ l.length) : gt (l ++ [a]) (j : Int) = if j = l.length then a else gt l (j : Int) := by
 by_cases e : j = l.length
 ·rw [if_pos e, fH (by simp; omega)]; simp [e]
 ·rw [if_neg e, fH (by simp; omega), fH (by omega), List.getElem_append_left (by omega)]
theorem Img.nil {r0 r1 r2 : I4} {ps : List I3} : Img r0 r1 r2 ps 0 [] [] := ⟨rfl, rfl, fun _ h => by omega, fun _ h => by omega, fun _ h => by omega⟩
theorem Img.snoc {r0 r1 r2 : I4} {ps : List I3} {t : Nat} {W : List VE} {P : List PE} {v : VE} {e : PE} (h : Img r0 r1 r2 ps t W P) (hv : v.q = (gt ps (t : Int)).q) (hz : (r2.at (gt ps (t : Int)) : Rat) ≠ 0) (he : e.v = ⟨(r0.at (gt ps (t : Int)) : Rat) / (r2.at (gt ps (t : Int)) : Rat), (r1.at (gt ps (t : Int)) : Rat) / (r2.at (gt ps (t : Int)) : Rat)⟩) : Img r0 r1 r2 ps (t + 1) (W ++ [v]) (P ++ [e]) := by
 refine ⟨by rw [List.length_append, h.lw]; rfl, by rw [List.length_append, h.lp]; rfl, fun j hj => ?_, fun j hj => ?_, fun j hj => ?_⟩
 ·unfold wsF; rw [aHC (by have := h.lw; omega)]
  by_cases e : j = W.length
  ·rw [if_pos e, hv, e, h.lw]
  ·rw [if_neg e]; exact h.w j (by have := h.lw; omega)
 ·by_cases e : j = t
  ·rw [e]; exact hz
  ·exact h.z j (by omega)
 ·unfold psF; rw [aHC (by have := h.lp; omega)]
  by_cases e : j = P.length
  ·rw [if_pos e, he, e, h.lp]
  ·rw [if_neg e]; exact h.p j (by have := h.lp; omega)
theorem Img.law {r0 r1 r2 : I4} {ps : List I3} {n : Nat} {W : List VE} {P : List PE} (h : Img r0 r1 r2 ps n W P) (hn : 1 ≤ n) :
  (kI (eqs (wsF W) (psF P) n) 12).length ≠ 0 ∧ ((kI (eqs (wsF W) (psF P) n) 12).length = 1 → scl ((kI (eqs (wsF W) (psF P) n) 12).getD 0 []) = scl (r0.q ++ (r1.q ++ r2.q))) := by
 refine aNF hn ⟨aBU _ _ _, fun i hi => aGI (W := wsF W) (fun i hi => by rw [h.w i hi]; rfl) _ (by
  unfold rowAt
  have hl : i < (eqs (wsF W) (psF P) n).length := by rw [aBU]; exact hi
  simp only [List.getD_eq_getElem?_getD, List.getElem?_eq_getElem hl, Option.getD_some]
  exact List.getElem_mem hl)⟩ (fun i hi => ⟨(gt ps (i : Int)).a, (gt ps (i : Int)).b, (gt ps (i : Int)).c, h.w i hi, ?_, ?_, ?_⟩)
 ·show qP (mI r0 r1 r2) _ _ _ 2 ≠ 0
  rw [rU.2.2]; exact h.z i hi
 ·show _ = qP (mI r0 r1 r2) _ _ _ 0 / qP (mI r0 r1 r2) _ _ _ 2
  rw [rU.1, rU.2.2, h.p i hi]
 ·show _ = qP (mI r0 r1 r2) _ _ _ 1 / qP (mI r0 r1 r2) _ _ _ 2
  rw [rU.2.1, rU.2.2, h.p i hi]
end Go.Proofs.YtkccjglmnhgabaaGreat

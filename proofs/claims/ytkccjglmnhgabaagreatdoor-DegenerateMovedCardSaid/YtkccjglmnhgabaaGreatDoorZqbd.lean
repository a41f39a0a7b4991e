/- The document's minor and determinant. Matrices that the document builds and then writes into: rows with room behind them. The document's unit matrix, copy, sum, product, transposed matrix. -/
import Derived.Test.YtkccjglmnhgabaaGreatDoorZqba
import Derived.Test.YtkccjglmnhgabaaGreatDoorZqal
import Derived.Test.YtkccjglmnhgabaaGreatDoorZqam
import Derived.Test.YtkccjglmnhgabaaGreatDoorZqbb
set_option linter.unusedSimpArgs false
set_option linter.unusedVariables false
set_option maxRecDepth 100000
set_option maxHeartbeats 4000000
namespace Go.Proofs.YtkccjglmnhgabaaGreatDoor
open Go Go.Fx
def hD (k : Nat) : Nat → Nat
 | 0 => k
 | n + 1 => (n + 2) * (k + hD k n + 1)
section
variable {X : List Nat} {w0 : World} {M0 : List Ent} {I0 : List bB}
theorem aFV {x : Int} (hx : x.natAbs ≤ 1) : CD Tryz.prog 25 [.int .i64 x] X w0 M0 I0 (RQ (x : Rat) 0 M0 I0) := by
 have hW := fun M0 I0 => vQ (X := X) (w0 := w0) (M0 := M0) (I0 := I0) (x := x) (by omega) (k := 0) hx
 refine bC Tryz.func25 rfl Tryz.ntmps25 rfl ?_
 refine aJ ?_
 refine aL ?_
 (refine aM rfl rfl ?_; intro b; refine ⟨okF, ?_⟩)
 repeat (refine aK ?_)
 (refine aA rfl (hW _ _) rfl rfl ?_; rintro _ _ _ ⟨rfl, e, rfl, he, rfl⟩; refine ⟨okF, ?_⟩)
 repeat (refine aK ?_)
 refine bL (cs := eR e) (.inl rfl) rfl rfl aB rfl M0 (fB e 0 :: I0) aF aD ⟨rfl, e, rfl, he, rfl⟩
theorem aND {m : MX} {n j k0 : Nat} (hn : n ≤ 100) (hd : m.dim (n + 1) (n + 1)) (hj : j ≤ n) (hw : jC m k0 ∈ I0) :
  CD Tryz.prog 27 [mv m, .int .i64 0, .int .i64 (j : Int)] X w0 M0 I0 (XQ (uY n n (fun i c => at2 m.q (i + 1) (sk j c))) n n k0 M0 I0) := by
 have hl := hd.1
 refine eQ (φ := aW (m).p (recs eL (m).rows)) (Hv.xsl aB) ?_
 refine uR Tryz.func27 rfl Tryz.ntmps27 rfl ?_
 repeat (refine aK ?_)
 (refine aP (cs := recs eL []) ([]) rfl rfl (by intro v hv; repeat (first | exact absurd hv (List.not_mem_nil) | (rcases List.mem_cons.1 hv with rfl | hv; · rfl))) (by omega) rfl rfl rfl ?_; intro bo; refine ⟨okF, ?_⟩; refine jS (mm := 0) 1 .here rfl (by omega) ?_)
 repeat (refine aK ?_)
 refine fI (φ := qK [] k0) Hv.nilL ?_
 refine aT [0, 1, 2] rfl (fun k G M I => ∃ (i : Nat) (rs : List RL) (q : Option Addr) (c : Nat), i ≤ n + 1 ∧ k = n + 1 - i ∧ rs.length = i - 1 ∧ (∀ r ∈ rs, r.es.length = n) ∧ rs.map RL.q = (List.range (i - 1)).map (fun t => (List.range n).map (fun c => at2 m.q (t + 1) (sk j c))) ∧ G = [(7, .slice q rs.length c), (8, .int .i64 i)] ∧ M = .row q rs.length c (recs eL rs) 48 1 :: M0 ∧ I = qK rs k0 :: aW m.p (recs eL m.rows) :: I0) (n + 1) _ _ _ aQ aF aD (⟨0, [], _, _, by omega, rfl, rfl, by simp, rfl, rfl, rfl, rfl⟩) ?_
 rintro kk G M I ⟨i, rs, q, c, hi, rfl, hrl, hrc, hrq, rfl, rfl, rfl⟩
 by_cases hin : i < n + 1
 ·by_cases hi0 : i = 0
  ·subst hi0
   repeat (refine aK ?_)
   refine aG (n + 1 - (0 + 1)) _ _ _ (by first | omega | (simp only [List.length_append, List.length_cons, List.length_nil]; omega)) aQ aF aD (⟨0 + 1, rs, q, c, by omega, rfl, hrl, hrc, hrq, rfl, rfl, rfl⟩)
  ·have hrow := hd.row hin
   refine fI (φ := aW (gt (m).rows (i : Int)).p (recs eR (gt (m).rows (i : Int)).es)) (Hv.xrsl aB (by omega)) ?_
   repeat (refine aK ?_)
   (refine aP (cs := recs eR []) ([]) rfl rfl (by intro v hv; repeat (first | exact absurd hv (List.not_mem_nil) | (rcases List.mem_cons.1 hv with rfl | hv; · rfl))) (by omega) rfl rfl rfl ?_; intro bl; refine ⟨okF, ?_⟩; refine jS (mm := 0) 4 .here rfl (by omega) ?_)
   repeat (refine aK ?_)
   refine fI (φ := dV [] k0) Hv.nilR ?_
   refine aT [0, 1, 2, 7, 8] rfl (fun k G M I => ∃ (u : Nat) (es : List RE) (ql : Option Addr) (cl : Nat), u ≤ n + 1 ∧ k = n + 1 - u ∧ es.length = (if u ≤ j then u else u - 1) ∧ qs es = (List.range (if u ≤ j then u else u - 1)).map (fun c => at2 m.q i (sk j c)) ∧ G = [(9, .slice ql es.length cl), (10, .int .i64 u)] ∧ M = .row ql es.length cl (recs eR es) 46 4 :: .row q rs.length c (recs eL rs) 48 1 :: M0 ∧ I = dV es k0 :: aW (gt m.rows (i : Int)).p (recs eR (gt m.rows (i : Int)).es) :: qK rs k0 :: aW m.p (recs eL m.rows) :: I0) (n + 1) _ _ _ aQ aF aD (⟨0, [], _, _, by omega, rfl, by simp, by simp, rfl, rfl, rfl⟩) ?_
   rintro kk G M I ⟨u, es, ql, cl, hu, rfl, hel, heq, rfl, rfl, rfl⟩
   have hel2 : es.length ≤ n + 1 := by rw [hel]; split <;> omega
   by_cases hun : u < n + 1
   ·by_cases huj : u = j
    ·repeat (refine aK ?_)
     refine aG (n + 1 - (u + 1)) _ _ _ (by first | omega | (simp only [List.length_append, List.length_cons, List.length_nil]; omega)) aQ aF aD (⟨u + 1, es, ql, cl, by omega, rfl, ?_, ?_, rfl, rfl, rfl⟩)
     ·rw [hel, if_pos (by omega), if_neg (by omega)]; omega
     ·rw [heq, if_pos (by omega), if_neg (by omega), Nat.add_sub_cancel]
    ·repeat (refine aK ?_)
     refine fQ (φ := fB (gt (gt m.rows (i : Int)).es (u : Int)) k0) (Hv.xel aB (by omega) (by omega)) ?_
     (refine aP (cs := recs eR [gt (gt m.rows (i : Int)).es (u : Int)]) ([rv (gt (gt m.rows (i : Int)).es (u : Int))]) rfl rfl (by intro v hv; repeat (first | exact absurd hv (List.not_mem_nil) | (rcases List.mem_cons.1 hv with rfl | hv; · rfl))) (by omega) rfl rfl rfl ?_; intro b; refine ⟨okF, ?_⟩)
     (refine dC (ys := [gt (gt m.rows (i : Int)).es (u : Int)]) 1 rfl rfl rfl ?_ (by decide) rfl (by omega) (by omega) rfl rfl ?_; (· first | exact Src.blk aB | exact Src.row aB | exact Src.imm aB (by first | assumption | exact .inl (Ok.mk _ _))); intro q2 c2; refine ⟨okF, ?_⟩)
     repeat (refine aK ?_)
     refine iW (φ := dV (es ++ [gt (gt m.rows (i : Int)).es (u : Int)]) k0) (Hv.snoc aB aB) ?_
     refine aG (n + 1 - (u + 1)) _ _ _ (by first | omega | (simp only [List.length_append, List.length_cons, List.length_nil]; omega)) aQ aF aD (⟨u + 1, es ++ [gt (gt m.rows (i : Int)).es (u : Int)], q2, c2, by omega, rfl, ?_, ?_, rfl, rfl, rfl⟩)
     ·rw [List.length_append, hel, List.length_singleton]
      by_cases h1 : u ≤ j
      ·rw [if_pos h1, if_pos (by omega)]
      ·rw [if_neg h1, if_neg (by omega)]; omega
     ·have hat := wT (m := m) (i := i) (j := u) (by omega) (by omega)
      show (es ++ [_]).map RE.q = _
      rw [List.map_append]
      show qs es ++ [(gt (gt m.rows (i : Int)).es (u : Int)).q] = _
      rw [heq, ← hat]
      by_cases h1 : u ≤ j
      ·rw [if_pos h1, if_pos (by omega), List.range_succ, List.map_append]
       simp [sk, show u < j by omega]
      ·rw [if_neg h1, if_neg (by omega), show u + 1 - 1 = (u - 1) + 1 by omega, List.range_succ, List.map_append]
       simp [sk, show ¬ u - 1 < j by omega, show u - 1 + 1 = u by omega]
   ·obtain rfl : u = n + 1 := by omega
    rw [if_neg (by omega)] at hel heq
    repeat (refine aK ?_)
    refine aVF aB ?_
    (refine aP (cs := recs eL [(⟨ql, cl, es⟩ : RL)]) ([lv (⟨ql, cl, es⟩ : RL)]) rfl rfl (by intro v hv; repeat (first | exact absurd hv (List.not_mem_nil) | (rcases List.mem_cons.1 hv with rfl | hv; · rfl))) (by omega) rfl rfl rfl ?_; intro b; refine ⟨okF, ?_⟩)
    (refine dC (ys := [(⟨ql, cl, es⟩ : RL)]) 1 rfl rfl rfl ?_ (by decide) rfl (by omega) (by omega) rfl rfl ?_; (· first | exact Src.blk aB | exact Src.row aB | exact Src.imm aB (by first | assumption | exact .inl (Ok.mk _ _))); intro q2 c2; refine ⟨okF, ?_⟩)
    repeat (refine aK ?_)
    refine iW (φ := qK (rs ++ [(⟨ql, cl, es⟩ : RL)]) k0) (Hv.snocL aB aB) ?_
    refine aG (n + 1 - (i + 1)) _ _ _ (by first | omega | (simp only [List.length_append, List.length_cons, List.length_nil]; omega)) aQ aF aD (⟨i + 1, rs ++ [(⟨ql, cl, es⟩ : RL)], q2, c2, by omega, rfl, ?_, ?_, ?_, rfl, rfl, rfl⟩)
    ·rw [List.length_append, hrl, List.length_singleton]; omega
    ·intro r hr
     rcases List.mem_append.1 hr with h | h
     ·exact hrc r h
     ·rw [List.mem_singleton.1 h]; exact hel
    ·rw [aEI, hrq, show i + 1 - 1 = (i - 1) + 1 by omega, List.range_succ, List.map_append]
     show _ ++ [qs es] = _
     rw [heq]
     simp [show i - 1 + 1 = i by omega]
 ·obtain rfl : i = n + 1 := by omega
  repeat (refine aK ?_)
  refine aER aB ?_
  refine aH (by first | exact .inl rfl | exact .inr rfl) rfl rfl _ _ aF aD (⟨rfl, ⟨q, c, rs⟩, rfl, hrq, ⟨hrl, hrc⟩, rfl⟩)
theorem kG : ∀ (n : Nat) {M0 : List Ent} {I0 : List bB} {m : MX} {k0 : Nat}, 1 ≤ n → n ≤ 100 → hD k0 n ≤ 50000000000 → m.dim n n → jC m k0 ∈ I0 → CD Tryz.prog 11 [mv m] X w0 M0 I0 (RQ (dt n (at2 m.q)) (hD k0 n) M0 I0)
 | 0, _, _, _, _, h, _, _, _, _ => by omega
 | 1, M0, I0, m, k0, _, _, hK, hd, hw => by
  have hl := hd.1
  have hrow : (gt m.rows 0).es.length = 1 := hd.row (i := 0) (by omega)
  have hKK : 2 * (k0 + k0 + 1) ≤ 50000000000 := hK
  refine eQ (φ := aW (m).p (recs eL (m).rows)) (Hv.xsl aB) ?_
  refine eQ (φ := aW (gt (m).rows 0).p (recs eR (gt (m).rows 0).es)) (Hv.xrsl aB (by omega)) ?_
  refine bC Tryz.func11 rfl Tryz.ntmps11 rfl ?_
  refine aJ ?_
  refine aL ?_
  (refine aM rfl rfl ?_; intro b2; refine ⟨okF, ?_⟩)
  repeat (refine aK ?_)
  refine iW (φ := fB (gt (gt m.rows 0).es 0) k0) (Hv.xel aB (by omega) (by omega)) ?_
  refine iW (φ := fB (gt (gt m.rows 0).es 0) (hD k0 1)) (Hv.q (k := k0) (List.Mem.head _) (by show k0 ≤ 2 * (k0 + k0 + 1); omega)) ?_
  refine bL (cs := eR (gt (gt m.rows 0).es 0)) (.inl rfl) rfl rfl aB rfl M0 (fB (gt (gt m.rows 0).es 0) (hD k0 1) :: I0) aF aD ⟨rfl, _, rfl, ?_, rfl⟩
  have hat : at2 m.q 0 0 = (gt (gt m.rows 0).es 0).q := wT (m := m) (i := 0) (j := 0) (by omega) (by show 0 < (gt m.rows 0).es.length; omega)
  show (gt (gt m.rows 0).es 0).q = 0 + sgd 0 * at2 m.q 0 0 * 1
  rw [hat]
  simp only [sgd]
  grind
 | n + 2, M0, I0, m, k0, _, hn, hK, hd, hw => by
  have hl := hd.1
  have hrow : (gt m.rows 0).es.length = n + 2 := hd.row (i := 0) (by omega)
  obtain ⟨hh, hhe⟩ : ∃ hh, hh = hD k0 (n + 1) := ⟨_, rfl⟩
  have hKe : hD k0 (n + 2) = (n + 3) * (k0 + hh + 1) := by rw [hhe]; rfl
  rw [hKe] at hK ⊢
  obtain ⟨c, hc⟩ : ∃ c, c = k0 + hh + 1 := ⟨_, rfl⟩
  rw [← hc] at hK ⊢
  have hc1 : c ≤ 50000000000 := Nat.le_trans (Nat.le_mul_of_pos_left c (by omega)) hK
  have ih := fun (m' : MX) M0 I0 h1 h2 => kG (n + 1) (M0 := M0) (I0 := I0) (m := m') (k0 := k0) (by omega) (by omega) (by omega) h1 h2
  rw [← hhe] at ih
  have hW := fun M0 I0 => aFV (X := X) (w0 := w0) (M0 := M0) (I0 := I0) (x := 0) (by decide)
  have hMi := fun (t : Nat) M0 I0 ht h2 => aND (X := X) (w0 := w0) (M0 := M0) (I0 := I0) (m := m) (n := n + 1) (j := t) (k0 := k0) (by omega) hd ht h2
  refine eQ (φ := aW (m).p (recs eL (m).rows)) (Hv.xsl aB) ?_
  refine eQ (φ := aW (gt (m).rows 0).p (recs eR (gt (m).rows 0).es)) (Hv.xrsl aB (by omega)) ?_
  refine bC Tryz.func11 rfl Tryz.ntmps11 rfl ?_
  refine aJ ?_
  refine aL ?_
  (refine aM rfl rfl ?_; intro b2; refine ⟨okF, ?_⟩)
  repeat (refine aK ?_)
  (refine aA rfl (hW _ _) rfl rfl ?_; rintro _ _ _ ⟨rfl, s0, rfl, hs0, rfl⟩; refine ⟨okF, ?_⟩)
  repeat (refine aK ?_)
  (refine aM rfl rfl ?_; intro b3; refine ⟨okF, ?_⟩)
  repeat (refine aK ?_)
  refine aT [0, 2, 3] rfl (fun k G M I => ∃ (t : Nat) (s : RE), t ≤ n + 2 ∧ k = n + 2 - t ∧ s.q = sm t (fun j => sgd j * at2 m.q 0 j * dt (n + 1) (fun i c => at2 m.q (i + 1) (sk j c))) ∧ G = [(4, .int .i64 t)] ∧ M = .blk b3 (eR s) 46 :: .blk b2 [.bool false, .slice none 0 0, .bool false, .slice none 0 0] 46 :: M0 ∧ I = fB s (t * c) :: aW (gt m.rows 0).p (recs eR (gt m.rows 0).es) :: aW m.p (recs eL m.rows) :: I0) (n + 2) _ _ _ aQ aF aD (⟨0, s0, by omega, rfl, hs0, rfl, rfl, by rw [Nat.zero_mul]⟩) ?_
  rintro kk G M I ⟨t, s, ht, rfl, hs, rfl, rfl, rfl⟩
  by_cases htn : t < n + 2
  ·have hu2 : (t + 1) * c = t * c + c := Nat.succ_mul t c
   have hu3 : (t + 1) * c ≤ 50000000000 := Nat.le_trans (Nat.mul_le_mul_right c (show t + 1 ≤ n + 3 by omega)) hK
   have hat : at2 m.q 0 t = (gt (gt m.rows 0).es (t : Int)).q := wT (m := m) (i := 0) (j := t) (by omega) (by show t < (gt m.rows 0).es.length; omega)
   have hEl : ∀ I, jC m k0 ∈ I → Hv I (fB (gt (gt m.rows 0).es (t : Int)) k0) := fun I h => Hv.xel h (by omega) (by omega)
   have hS := fun M0 I0 h => fP (X := X) (w0 := w0) (M0 := M0) (I0 := I0) (e := gt (gt m.rows 0).es (t : Int)) (k := k0) (by omega) h
   generalize t * c = u at *
   by_cases hx0 : (gt (gt m.rows 0).es (t : Int)).q = 0
   ·rw [(iE _).2 hx0] at hS
    repeat (refine aK ?_)
    (refine aA rfl (hS _ _ (hEl _ aB)) rfl rfl ?_; rintro _ _ _ ⟨rfl, rfl, rfl⟩; refine ⟨okF, ?_⟩)
    repeat (refine aK ?_)
    refine iW (φ := fB s ((t + 1) * c)) (Hv.q (k := u) aB (by omega)) ?_
    refine aG (n + 2 - (t + 1)) _ _ _ (by first | omega | (simp only [List.length_append, List.length_cons, List.length_nil]; omega)) aQ aF aD (⟨t + 1, s, by omega, rfl, ?_, rfl, rfl, rfl⟩)
    simp only [sm]
    have hx1 : at2 m.q 0 t = 0 := by rw [hat]; exact hx0
    rw [hs, hx1]; grind
   ·have hs0 : ¬ (gt (gt m.rows 0).es (t : Int)).q.num.sign = 0 := fun h => hx0 ((iE _).1 h)
    generalize (gt (gt m.rows 0).es (t : Int)).q.num.sign = sg1 at *
    repeat (refine aK ?_)
    (refine aA rfl (hS _ _ (hEl _ aB)) rfl rfl ?_; rintro _ _ _ ⟨rfl, rfl, rfl⟩; refine ⟨okF, ?_⟩)
    repeat (refine aK ?_)
    refine uJ (fun G M I => ∃ (b5 : Nat) (e : RE), e.q = at2 m.q 0 t * dt (n + 1) (fun i c => at2 m.q (i + 1) (sk t c)) ∧ G = [(0, mv m), (2, .pointer (some ⟨b2, 0, none⟩)), (3, .pointer (some ⟨b3, 0, none⟩)), (4, .int .i64 (t : Int)), (5, .pointer (some ⟨b5, 0, none⟩))] ∧ M = .blk b5 (eR e) 46 :: .blk b3 (eR s) 46 :: .blk b2 [.bool false, .slice none 0 0, .bool false, .slice none 0 0] 46 :: M0 ∧ I = fB e (k0 + hh) :: fB s u :: aW (gt m.rows 0).p (recs eR (gt m.rows 0).es) :: aW m.p (recs eL m.rows) :: I0) ?_ ?_
    ·have hfin : ∀ (y : MX) (e3 : RE), y.q = uY (n + 1) (n + 1) (fun i c => at2 m.q (i + 1) (sk t c)) → e3.q = (gt (gt m.rows 0).es (t : Int)).q * dt (n + 1) (at2 y.q) → e3.q = at2 m.q 0 t * dt (n + 1) (fun i c => at2 m.q (i + 1) (sk t c)) := fun y e3 h1 h2 => by
      rw [h2, hat]
      congr 1
      exact oI (fun i j hi hj => by rw [h1, vB hi hj])
     ((repeat refine aJ ?_); refine zM (.blk b3 (eR s) 46 :: .blk b2 [.bool false, .slice none 0 0, .bool false, .slice none 0 0] 46 :: M0) (fB s u :: aW (gt m.rows 0).p (recs eR (gt m.rows 0).es) :: aW m.p (recs eL m.rows) :: I0) mixed ?_)
     refine sN (fuel := 5) (listed' := #[true, true, true, true, true, true, true, true, false, false, false, false, false]) [0, 1, 2, 3, 4, 5, 6, 7] [4, 4, 4, 4, 4, 3, 3, 3] aF aD (by kernel_rfl) (by kernel_rfl) rfl rfl ?_
     repeat (refine aK ?_)
     refine cK (fuel := 4) (i := 8) (j := 11) (by kernel_rfl) ?_ ?_
     ·(refine aA rfl (hMi t _ _ (by omega) aB) rfl rfl ?_; rintro _ _ _ ⟨rfl, y, rfl, hy, hyd, rfl⟩; refine ⟨okF, ?_⟩)
      refine bA ?_
      repeat (refine aK ?_)
      refine cK (fuel := 3) (i := 9) (j := 11) (by kernel_rfl) ?_ ?_
      ·(refine aA rfl (ih y _ _ hyd aB) rfl rfl ?_; rintro _ _ _ ⟨rfl, e2, rfl, he2, rfl⟩; refine ⟨okF, ?_⟩)
       refine bA ?_
       repeat (refine aK ?_)
       refine cK (fuel := 2) (i := 10) (j := 11) (by kernel_rfl) ?_ ?_
       ·(refine aA rfl (tJ (k := k0) (m := hh) (by omega) (hEl _ aB) (Hv.mem aB)) rfl rfl ?_; rintro _ _ _ ⟨rfl, e3, rfl, he3, rfl⟩; refine ⟨okF, ?_⟩)
        refine bA ?_
        refine bG [11, 12] [0, 0] aF aD (by kernel_rfl) (by kernel_rfl) rfl rfl ?_
        repeat (refine aK ?_)
        (refine aM rfl rfl ?_; intro b5; refine ⟨okF, ?_⟩)
        repeat (refine aK ?_)
        refine fO _ _ _ aQ aF aD ⟨b5, e3, hfin y e3 hy (by rw [he3, he2]), rfl, rfl, rfl⟩
       ·(refine aM rfl rfl ?_; intro b5; refine ⟨okF, ?_⟩)
        refine bA ?_
        refine bG [10, 12] [0, 0] aF aD (by kernel_rfl) (by kernel_rfl) rfl rfl ?_
        repeat (refine aK ?_)
        (refine aA rfl (tJ (k := k0) (m := hh) (by omega) (hEl _ aB) (Hv.mem aB)) rfl rfl ?_; rintro _ _ _ ⟨rfl, e3, rfl, he3, rfl⟩; refine ⟨okF, ?_⟩)
        repeat (refine aK ?_)
        refine fO _ _ _ aQ aF aD ⟨b5, e3, hfin y e3 hy (by rw [he3, he2]), rfl, rfl, rfl⟩
      ·(refine aM rfl rfl ?_; intro b5; refine ⟨okF, ?_⟩)
       refine bA ?_
       refine bG [9, 10, 12] [0, 0, 0] aF aD (by kernel_rfl) (by kernel_rfl) rfl rfl ?_
       repeat (refine aK ?_)
       (refine aA rfl (ih y _ _ hyd aB) rfl rfl ?_; rintro _ _ _ ⟨rfl, e2, rfl, he2, rfl⟩; refine ⟨okF, ?_⟩)
       repeat (refine aK ?_)
       (refine aA rfl (tJ (k := k0) (m := hh) (by omega) (hEl _ aB) (Hv.mem aB)) rfl rfl ?_; rintro _ _ _ ⟨rfl, e3, rfl, he3, rfl⟩; refine ⟨okF, ?_⟩)
       repeat (refine aK ?_)
       refine fO _ _ _ aQ aF aD ⟨b5, e3, hfin y e3 hy (by rw [he3, he2]), rfl, rfl, rfl⟩
     ·(refine aM rfl rfl ?_; intro b5; refine ⟨okF, ?_⟩)
      refine bA ?_
      refine bG [8, 9, 10, 12] [0, 0, 0, 0] aF aD (by kernel_rfl) (by kernel_rfl) rfl rfl ?_
      repeat (refine aK ?_)
      (refine aA rfl (hMi t _ _ (by omega) aB) rfl rfl ?_; rintro _ _ _ ⟨rfl, y, rfl, hy, hyd, rfl⟩; refine ⟨okF, ?_⟩)
      repeat (refine aK ?_)
      (refine aA rfl (ih y _ _ hyd aB) rfl rfl ?_; rintro _ _ _ ⟨rfl, e2, rfl, he2, rfl⟩; refine ⟨okF, ?_⟩)
      repeat (refine aK ?_)
      (refine aA rfl (tJ (k := k0) (m := hh) (by omega) (hEl _ aB) (Hv.mem aB)) rfl rfl ?_; rintro _ _ _ ⟨rfl, e3, rfl, he3, rfl⟩; refine ⟨okF, ?_⟩)
      repeat (refine aK ?_)
      refine fO _ _ _ aQ aF aD ⟨b5, e3, hfin y e3 hy (by rw [he3, he2]), rfl, rfl, rfl⟩
    ·rintro G M I ⟨b5, e, he, rfl, rfl, rfl⟩
     have htm : (t : Int).tmod 2 = (t : Int) % 2 := Int.tmod_eq_emod_of_nonneg (by omega)
     by_cases hodd : t % 2 = 1
     ·repeat (refine aK ?_)
      (refine aA rfl (aFQ (k := k0 + hh) (by omega) (Hv.mem aB)) rfl rfl ?_; rintro _ _ _ ⟨rfl, e4, rfl, he4, rfl⟩; refine ⟨okF, ?_⟩)
      repeat (refine aK ?_)
      (refine aA rfl (aBF (k := u) (m := k0 + hh) (by omega) (Hv.mem aB) (Hv.mem aB)) rfl rfl ?_; rintro _ _ _ ⟨rfl, e5, rfl, he5, rfl⟩; refine ⟨okF, ?_⟩)
      repeat (refine aK ?_)
      refine iW (φ := fB e5 ((t + 1) * c)) (Hv.q (k := u + (k0 + hh) + 1) aB (by omega)) ?_
      refine aG (n + 2 - (t + 1)) _ _ _ (by first | omega | (simp only [List.length_append, List.length_cons, List.length_nil]; omega)) aQ aF aD (⟨t + 1, e5, by omega, rfl, ?_, rfl, rfl, rfl⟩)
      simp only [sm]
      rw [he5, he4, he, hs]
      simp only [sgd, if_neg (show ¬ t % 2 = 0 by omega)]
      grind
     ·repeat (refine aK ?_)
      (refine aA rfl (aBF (k := u) (m := k0 + hh) (by omega) (Hv.mem aB) (Hv.mem aB)) rfl rfl ?_; rintro _ _ _ ⟨rfl, e5, rfl, he5, rfl⟩; refine ⟨okF, ?_⟩)
      repeat (refine aK ?_)
      refine iW (φ := fB e5 ((t + 1) * c)) (Hv.q (k := u + (k0 + hh) + 1) aB (by omega)) ?_
      refine aG (n + 2 - (t + 1)) _ _ _ (by first | omega | (simp only [List.length_append, List.length_cons, List.length_nil]; omega)) aQ aF aD (⟨t + 1, e5, by omega, rfl, ?_, rfl, rfl, rfl⟩)
      simp only [sm]
      rw [he5, he, hs]
      simp only [sgd, if_pos (show t % 2 = 0 by omega)]
      grind
  ·obtain rfl : t = n + 2 := by omega
   repeat (refine aK ?_)
   refine iW (φ := fB s ((n + 3) * c)) (Hv.q (k := (n + 2) * c) aB (Nat.mul_le_mul_right c (by omega))) ?_
   refine bL (cs := eR s) (.inl rfl) rfl rfl aB rfl M0 (fB s ((n + 3) * c) :: I0) aF aD ⟨rfl, s, rfl, hs, rfl⟩
end
end Go.Proofs.YtkccjglmnhgabaaGreatDoor
namespace Go.Proofs.YtkccjglmnhgabaaGreatDoor
open Go Go.Fx
structure MS where
 b : Nat
 c : Nat
 es : List RE
 tl : List Value
instance : Inhabited MS := ⟨⟨0, 0, [], []⟩⟩
abbrev eS (r : MS) : List Value := [.slice (some ⟨r.b, 0, none⟩) r.es.length r.c]
instance : Sized eS 1 := ⟨fun _ => rfl⟩
instance : Ones eS := ⟨fun m u hu => by simp only [eS, List.mem_cons, List.not_mem_nil, or_false] at hu; subst hu; rfl⟩
abbrev kD (r : MS) : Ent := .blk r.b (recs eR r.es ++ r.tl) 46
structure AllS (rows : List MS) (k : Nat) (X : List Nat) (w : World) : Prop where
 go : ∀ r ∈ rows, ∀ e ∈ r.es, IsR e k X w
abbrev jP (rows : List MS) (k : Nat) : bB := AllS rows k
instance (rows : List MS) (k : Nat) : Fx.Good (AllS rows k) := ⟨fun X Y w w' h he hY => ⟨fun r hr e hm => Fx.Good.go (φ := IsR _ _) X Y w w' (h.go r hr e hm) he hY⟩⟩
theorem Hv.nilS {I : List bB} {k : Nat} : Hv I (jP [] k) := ⟨fun X w _ => ⟨fun x hx => by simp at hx⟩⟩
theorem Hv.snocS {I : List bB} {rows : List MS} {r : MS} {k : Nat} (h1 : jP rows k ∈ I) (h2 : Hv I (dV r.es k)) : Hv I (jP (rows ++ [r]) k) := ⟨fun X w hw => ⟨fun x hx => by
 rcases List.mem_append.1 hx with hx | hx
 ·exact (hw _ h1 : AllS rows k X w).go x hx
 ·rw [List.mem_singleton.1 hx]; exact (h2.go X w hw).go⟩⟩
theorem Hv.monoS {I : List bB} {rows : List MS} {k m : Nat} (h : jP rows k ∈ I) (hk : k ≤ m) : Hv I (jP rows m) := ⟨fun X w hw => ⟨fun r hr e he => ((hw _ h : AllS rows k X w).go r hr e he).mono hk⟩⟩
def Pw (rows : List MS) (R C : Nat) (V : Nat → Nat → Rat) : Prop := ∀ i j : Nat, i < R → j < C → (gt (gt rows (i : Int)).es (j : Int)).q = V i j
structure Shp (rows : List MS) (R C : Nat) : Prop where
 len : rows.length = R
 col : ∀ r ∈ rows, r.es.length = C ∧ C ≤ r.c
abbrev upR (r : MS) (j : Nat) (e : RE) : MS := ⟨r.b, r.c, st r.es (j : Int) e, r.tl⟩
def upS (rows : List MS) (i j : Nat) (e : RE) : List MS := rows.set i ⟨(gt rows (i : Int)).b, (gt rows (i : Int)).c, st (gt rows (i : Int)).es (j : Int) e, (gt rows (i : Int)).tl⟩
theorem aKS {rows : List MS} {i j : Nat} {e : RE} : rows.set i (upR (gt rows (i : Int)) j e) = upS rows i j e := rfl
theorem Shp.row {rows : List MS} {R C : Nat} (h : Shp rows R C) {i : Nat} (hi : i < R) : (gt rows (i : Int)).es.length = C := (h.col _ (eX (by have := h.len; omega))).1
theorem Shp.up {rows : List MS} {R C i j : Nat} {e : RE} (h : Shp rows R C) (hi : i < R) : Shp (upS rows i j e) R C := ⟨by unfold upS; rw [List.length_set]; exact h.len, fun r hr => by
 rcases List.mem_or_eq_of_mem_set hr with hr | hr
 ·exact h.col r hr
 ·subst hr
  have := h.col _ (eX (ms := rows) (i := (i : Int)) (by have := h.len; omega))
  exact ⟨by show (st _ _ _).length = C; rw [eF]; exact this.1, this.2⟩⟩
theorem aQV {rows : List MS} {R C i j t : Nat} {e : RE} (h : Shp rows R C) (hi : i < R) (ht : t < R) : gt (upS rows i j e) (t : Int) = if t = i then ⟨(gt rows (i : Int)).b, (gt rows (i : Int)).c, st (gt rows (i : Int)).es (j : Int) e, (gt rows (i : Int)).tl⟩ else gt rows (t : Int) := by
 have hl := h.len
 unfold upS
 rw [dH (by rw [List.length_set]; omega)]
 by_cases e1 : t = i
 ·subst e1; simp
 ·rw [List.getElem_set_ne (fun e => e1 e.symm), if_neg e1]
  exact (dH (by omega)).symm
theorem aFM {rows : List MS} {R C i j : Nat} {e : RE} (h : Shp rows R C) (hi : i < R) : recs eS (upS rows i j e) = recs eS rows := by
 have hl := h.len
 unfold upS
 rw [← oN (enc := eS) rows i _ (by omega)]
 have e1 : eS ⟨(gt rows (i : Int)).b, (gt rows (i : Int)).c, st (gt rows (i : Int)).es (j : Int) e, (gt rows (i : Int)).tl⟩ = eS (gt rows (i : Int)) := by simp [eS, eF]
 rw [e1, oN (enc := eS) rows i _ (by omega), dH (by omega), List.set_getElem_self]
theorem Hv.upS {I : List bB} {rows : List MS} {R C i j k : Nat} {e : RE} (h : Shp rows R C) (hi : i < R) (h1 : jP rows k ∈ I) (h2 : fB e k ∈ I) : Hv I (jP (upS rows i j e) k) := ⟨fun X w hw => ⟨fun r hr x hx => by
 have ha := (hw _ h1 : AllS rows k X w).go
 rcases List.mem_or_eq_of_mem_set hr with hr | hr
 ·exact ha r hr x hx
 ·subst hr
  rcases List.mem_or_eq_of_mem_set hx with hx | hx
  ·exact ha _ (eX (by have := h.len; omega)) x hx
  ·rw [hx]; exact hw _ h2⟩⟩
theorem aTW {M1 : List Ent} {r' : MS} : ∀ {rows : List MS} {i : Nat} (h : i < rows.length), Rep (kD rows[i]) (kD r') (rows.map kD ++ M1) ((rows.set i r').map kD ++ M1)
 | [], _, h => by simp at h
 | x :: r, 0, _ => .here
 | x :: r, i + 1, h => .there (aTW (rows := r) (i := i) (by simpa using h))
theorem repS {M1 : List Ent} {r' : MS} {rows : List MS} {i : Nat} (h : i < rows.length) {A : Ent} : Rep (kD (gt rows (i : Int))) (kD r') (A :: (rows.map kD ++ M1)) (A :: ((rows.set i r').map kD ++ M1)) := by
 rw [dH h]
 exact .there (aTW h)
theorem repS2 {M1 : List Ent} {r' : MS} {rows : List MS} {i : Nat} (h : i < rows.length) {A B : Ent} : Rep (kD (gt rows (i : Int))) (kD r') (A :: B :: (rows.map kD ++ M1)) (A :: B :: ((rows.set i r').map kD ++ M1)) := .there (repS h)
def MsP (R C : Nat) (V : Nat → Nat → Rat) (k : Nat) (M0 : List Ent) (I0 : List bB) (v : Value) (M : List Ent) (I : List bB) : Prop :=
 ∃ (bo co : Nat) (tlo : List Value) (rows : List MS), v = .slice (some ⟨bo, 0, none⟩) R co ∧ R ≤ co ∧ Shp rows R C ∧ Pw rows R C V ∧ M = .blk bo (recs eS rows ++ tlo) 48 :: (rows.map kD ++ M0) ∧ I = jP rows k :: I0
def MS.l (r : MS) : RL := ⟨some ⟨r.b, 0, none⟩, r.c, r.es⟩
def MS.x (bo co : Nat) (rows : List MS) : MX := ⟨some ⟨bo, 0, none⟩, co, rows.map MS.l⟩
theorem aRS (rows : List MS) : recs eL (rows.map MS.l) = recs eS rows := by
 induction rows with
 | nil => rfl
 | cons x r ih =>
  have h1 : recs eL ((x :: r).map MS.l) = eL x.l ++ recs eL (r.map MS.l) := rfl
  have h2 : recs eS (x :: r) = eS x ++ recs eS r := rfl
  rw [h1, h2, ih]; rfl
theorem aIO {X : List Nat} {w : World} {a : Option Addr} {cs tl : List Value} (h : Sl X w a (cs ++ tl)) : Sl X w a cs := by
 have := h.take cs.length
 rwa [List.take_left'] at this
 rfl
theorem vY {X : List Nat} {w0 w : World} {k : Nat} : ∀ {rows : List MS} {M : List Ent} {I : List bB}, Mem X w0 (rows.map kD ++ M) I w → (∀ r ∈ rows, r.es.length ≤ r.c) → (∀ r ∈ rows, AllR r.es k (muts (rows.map kD ++ M)) w) → ∃ I', (∀ φ ∈ I, φ ∈ I') ∧ (∀ r ∈ rows, nV r.l k ∈ I') ∧ Mem X w0 M I' w
 | [], M, I, h, _, _ => ⟨I, fun _ h => h, fun r hr => by simp at hr, h⟩
 | r :: rows, M, I, h, hc, ha => by
  have h1 : Mem X w0 (rows.map kD ++ M) (aW (some ⟨r.b, 0, none⟩) (recs eR r.es ++ r.tl) :: I) w := h.freezeB .here
  have hsub : ∀ y ∈ muts (rows.map kD ++ M), y ∈ muts ((r :: rows).map kD ++ M) := fun y hy => by simp [muts] at hy ⊢; right; exact hy
  have h2 : IsL r.l k (muts (rows.map kD ++ M)) w := by
   refine ⟨aIO (h1.sl (List.Mem.head _)), fun e he => ?_, hc r (List.Mem.head _), .inl (Ok.mk _ _)⟩
   exact Fx.Good.go (φ := IsR _ _) _ _ w w ((ha r (List.Mem.head _)).go e he) (Ext.refl _ _) (fun y hy => .inl (hsub y hy))
  obtain ⟨I', i1, i2, i3⟩ := vY (h1.add (φ := nV r.l k) h2) (fun s hs => hc s (List.Mem.tail _ hs)) (fun s hs => ⟨fun e he => Fx.Good.go (φ := IsR _ _) _ _ w w ((ha s (List.Mem.tail _ hs)).go e he) (Ext.refl _ _) (fun y hy => .inl (hsub y hy))⟩)
  refine ⟨I', fun φ hφ => i1 φ (List.Mem.tail _ (List.Mem.tail _ hφ)), fun s hs => ?_, i3⟩
  rcases List.mem_cons.1 hs with rfl | hs
  ·exact i1 _ (List.Mem.head _)
  ·exact i2 s hs
theorem aOL {X : List Nat} {w0 w : World} {k bo co : Nat} {tlo : List Value} {rows : List MS} {M : List Ent} {I : List bB} (h : Mem X w0 (.blk bo (recs eS rows ++ tlo) 48 :: (rows.map kD ++ M)) I w) (hc : ∀ r ∈ rows, r.es.length ≤ r.c) (hco : rows.length ≤ co) (ha : jP rows k ∈ I) : Mem X w0 M (jC (MS.x bo co rows) k :: I) w := by
 have h0 : Mem X w0 (rows.map kD ++ M) (aW (some ⟨bo, 0, none⟩) (recs eS rows ++ tlo) :: I) w := h.freezeB .here
 obtain ⟨I', i1, i2, i3⟩ := vY (k := k) h0 hc (fun r hr => ⟨fun e he => ((h0.imm _ (List.Mem.tail _ ha)).2 : AllS rows k _ w).go r hr e he⟩)
 have h3 : IsX (MS.x bo co rows) k (muts M) w := by
  refine ⟨?_, fun r hr => ?_, ?_⟩
  ·rw [show (MS.x bo co rows).rows = rows.map MS.l from rfl, aRS]; exact aIO (i3.sl (i1 _ (List.Mem.head _)))
  ·obtain ⟨s, hs, rfl⟩ := List.mem_map.1 hr
   exact (i3.imm _ (i2 s hs)).2
  ·show Cap (some ⟨bo, 0, none⟩) (rows.map MS.l).length co
   rw [List.length_map]; exact ⟨hco, .inl (Ok.mk _ _)⟩
 exact (i3.add (φ := jC (MS.x bo co rows) k) h3).inc (.of fun φ hφ => by
  rcases List.mem_cons.1 hφ with rfl | hφ
  ·exact List.Mem.head _
  ·exact List.Mem.tail _ (i1 _ (List.Mem.tail _ hφ)))
theorem q_xs {rows : List MS} {R C bo co : Nat} {V : Nat → Nat → Rat} (h : Shp rows R C) (hp : Pw rows R C V) : (MS.x bo co rows).q = uY R C V ∧ (MS.x bo co rows).dim R C := by
 have hd : (MS.x bo co rows).dim R C := ⟨by show (rows.map MS.l).length = R; rw [List.length_map]; exact h.len, fun r hr => by
  obtain ⟨s, hs, rfl⟩ := List.mem_map.1 hr
  exact (h.col s hs).1⟩
 refine ⟨?_, hd⟩
 rw [hd.mk]
 refine aDH (fun i j hi hj => ?_)
 have hl := hd.1
 have hg : gt (MS.x bo co rows).rows (i : Int) = (gt rows (i : Int)).l := aIE (by have := h.len; omega)
 rw [wT (by omega) (by rw [hg]; show j < (gt rows (i : Int)).es.length; rw [h.row hi]; exact hj), hg]
 exact hp i j hi hj
section
variable {X : List Nat} {w0 : World} {M0 : List Ent} {I0 : List bB}
end
end Go.Proofs.YtkccjglmnhgabaaGreatDoor
namespace Go.Proofs.YtkccjglmnhgabaaGreatDoor
open Go Go.Fx
section
variable {X : List Nat} {w0 : World} {M0 : List Ent} {I0 : List bB}
theorem aPC {a : MX} {R C k0 : Nat} (hR : 1 ≤ R ∧ R ≤ 100) (hC : 1 ≤ C ∧ C ≤ 100) (da : a.dim R C) (ha : jC a k0 ∈ I0) : CD Tryz.prog 87 [mv a] X w0 M0 I0 (MsP R C (at2 a.q) k0 M0 I0) := by
 have hl := da.1
 refine oL (φ := ∀ r ∈ a.rows, Cap r.p r.es.length r.c) (fun w hw r hr => ((((hw.imm _ ha).2 : IsX a k0 _ w)).row r hr).cap) (fun hcap => ?_)
 refine eQ (φ := aW (a).p (recs eL (a).rows)) (Hv.xsl aB) ?_
 refine bC Tryz.func87 rfl Tryz.ntmps87 rfl ?_
 repeat (refine aK ?_)
 (refine aP (cs := recs eS []) ([]) rfl rfl (by intro v hv; repeat (first | exact absurd hv (List.not_mem_nil) | (rcases List.mem_cons.1 hv with rfl | hv; · rfl))) (by omega) rfl rfl rfl ?_; intro bo; refine ⟨okF, ?_⟩; refine jS (mm := 0) 1 .here rfl (by omega) ?_)
 repeat (refine aK ?_)
 refine fI (φ := jP [] k0) Hv.nilS ?_
 refine aT [0] rfl (fun k G M I => ∃ (i : Nat) (rows : List MS) (q : Option Addr) (c : Nat), i ≤ R ∧ k = R - i ∧ Shp rows i C ∧ Pw rows i C (at2 a.q) ∧ G = [(3, .slice q rows.length c), (4, .int .i64 i)] ∧ M = .row q rows.length c (recs eS rows) 48 1 :: (rows.map kD ++ M0) ∧ I = jP rows k0 :: aW a.p (recs eL a.rows) :: I0) (R) _ _ _ aQ aF aD (⟨0, [], _, _, by omega, rfl, ⟨rfl, fun r hr => by simp at hr⟩, fun i j hi => by omega, rfl, rfl, rfl⟩) ?_
 rintro kk G M I ⟨i, rows, q, c, hi, rfl, hs, hp, rfl, rfl, rfl⟩
 have hlen := hs.len
 by_cases hiR : i < R
 ·have hrow := da.row hiR
  have hcp := (hcap _ (eX (ms := a.rows) (i := (i : Int)) (by omega))).2
  refine fI (φ := aW (gt (a).rows (i : Int)).p (recs eR (gt (a).rows (i : Int)).es)) (Hv.xrsl aB (by omega)) ?_
  refine fI (φ := dV (gt a.rows (i : Int)).es k0) ⟨fun X w hw => ⟨((hw _ (by exact aB) : IsX a k0 X w).row _ (eX (by omega))).el⟩⟩ ?_
  repeat (refine aK ?_)
  (refine aP (cs := recs eR []) ([]) rfl rfl (by intro v hv; repeat (first | exact absurd hv (List.not_mem_nil) | (rcases List.mem_cons.1 hv with rfl | hv; · rfl))) (by omega) rfl rfl rfl ?_; intro bl; refine ⟨okF, ?_⟩; refine jS (mm := 0) 4 .here rfl (by omega) ?_)
  repeat (refine aK ?_)
  (refine dC (enc := eR) (xs := []) (ys := (gt a.rows (i : Int)).es) 0 rfl rfl rfl (Src.imm aB hcp) (by decide) rfl (by rw [List.length_nil]; omega) (by rw [List.length_nil]; omega) rfl rfl ?_; intro q1 c1; refine ⟨okF, ?_⟩)
  rw [List.nil_append]
  refine xZ (fun h0 h1 h2 => by omega) (fun b tl h1 h2 => ?_)
  subst h1
  (refine aP (cs := recs eS [(⟨b, c1, (gt a.rows (i : Int)).es, tl⟩ : MS)]) ([.slice (some ⟨b, 0, none⟩) (gt a.rows (i : Int)).es.length c1]) rfl rfl (by intro v hv; repeat (first | exact absurd hv (List.not_mem_nil) | (rcases List.mem_cons.1 hv with rfl | hv; · rfl))) (by omega) rfl rfl rfl ?_; intro bb; refine ⟨okF, ?_⟩)
  (refine dC (ys := [(⟨b, c1, (gt a.rows (i : Int)).es, tl⟩ : MS)]) 2 rfl rfl rfl ?_ (by decide) rfl (by omega) (by omega) rfl rfl ?_; (· first | exact Src.blk aB | exact Src.row aB | exact Src.imm aB (by first | assumption | exact .inl (Ok.mk _ _))); intro q2 c2; refine ⟨okF, ?_⟩)
  repeat (refine aK ?_)
  refine iW (φ := jP (rows ++ [(⟨b, c1, (gt a.rows (i : Int)).es, tl⟩ : MS)]) k0) (Hv.snocS aB (Hv.mem aB)) ?_
  refine rV (M' := .blk b (recs eR (gt a.rows (i : Int)).es ++ tl) 46 :: .row q2 (rows ++ [(⟨b, c1, (gt a.rows (i : Int)).es, tl⟩ : MS)]).length c2 (recs eS (rows ++ [(⟨b, c1, (gt a.rows (i : Int)).es, tl⟩ : MS)])) 48 1 :: (rows.map kD ++ M0)) (I' := jP (rows ++ [(⟨b, c1, (gt a.rows (i : Int)).es, tl⟩ : MS)]) k0 :: aW a.p (recs eL a.rows) :: I0) (SubP.drop SubP.refl) aD ?_
  refine uQ (M' := .row q2 (rows ++ [(⟨b, c1, (gt a.rows (i : Int)).es, tl⟩ : MS)]).length c2 (recs eS (rows ++ [(⟨b, c1, (gt a.rows (i : Int)).es, tl⟩ : MS)])) 48 1 :: ((rows ++ [(⟨b, c1, (gt a.rows (i : Int)).es, tl⟩ : MS)]).map kD ++ M0)) (by rw [List.map_append (f := kD)]; exact aDE) ?_
  refine aG (R - (i + 1)) _ _ _ (by first | omega | (simp only [List.length_append, List.length_cons, List.length_nil]; omega)) aQ aF aD (⟨i + 1, rows ++ [(⟨b, c1, (gt a.rows (i : Int)).es, tl⟩ : MS)], q2, c2, by omega, rfl, ⟨by simp [hlen], fun r hr => ?_⟩, fun i' j' h1' h2' => ?_, rfl, rfl, rfl⟩)
  ·rcases List.mem_append.1 hr with h | h
   ·exact hs.col r h
   ·rw [List.mem_singleton.1 h]; exact ⟨hrow, by show C ≤ c1; omega⟩
  ·by_cases e1 : i' < i
   ·have : gt (rows ++ [(⟨b, c1, (gt a.rows (i : Int)).es, tl⟩ : MS)]) (i' : Int) = gt rows (i' : Int) := by rw [dH (by simp; omega), List.getElem_append_left (by omega)]; exact (dH (by omega)).symm
    rw [this]; exact hp i' j' e1 h2'
   ·have : gt (rows ++ [(⟨b, c1, (gt a.rows (i : Int)).es, tl⟩ : MS)]) (i' : Int) = ⟨b, c1, (gt a.rows (i : Int)).es, tl⟩ := aHU (A := rows) (B := []) (by omega)
    rw [this]
    obtain rfl : i' = i := by omega
    exact (wT (m := a) (by omega) (by omega)).symm
 ·obtain rfl : i = R := by omega
  repeat (refine aK ?_)
  refine aMF (fun h0 h1 h2 => by omega) (fun b tl h1 h2 => ?_)
  subst h1
  refine aH (by first | exact .inl rfl | exact .inr rfl) rfl rfl _ _ aF aD (⟨b, c, tl, rows, by rw [hlen], by omega, hs, hp, rfl, rfl⟩)
end
end Go.Proofs.YtkccjglmnhgabaaGreatDoor

/- controlled: Firm. -/
import Derived.Test.YtgeagiikkeiioaaGreatZgbm
import Derived.Test.YtgeagiikkeiioaaGreatZgaw
set_option linter.unusedSimpArgs false
set_option linter.unusedVariables false
set_option maxRecDepth 100000
set_option maxHeartbeats 4000000
namespace Go.Proofs.YtgeagiikkeiioaaGreat
open Go Go.Fx
def firmR (R C : Nat) (A : Mt) (set : List Int) (k : Nat) (y : List Rat) : Prop := (y.length = R ∧ annP R C A y) ∧ ∀ j ∈ List.range set.length, y.getD (gt set (j : Int)).toNat 0 = oO j k
instance firmR.dec (R C : Nat) (A : Mt) (set : List Int) (k : Nat) (y : List Rat) : Decidable (firmR R C A set k y) := by unfold firmR; exact inferInstance
def firmP (R C : Nat) (A : Mt) (set : List Int) (Y : Mt) : Prop := Y.length = set.length ∧ ∀ k ∈ List.range set.length, firmR R C A set k (rowAt Y k)
instance firmP.dec (R C : Nat) (A : Mt) (set : List Int) (Y : Mt) : Decidable (firmP R C A set Y) := by unfold firmP; exact inferInstance
theorem aSM {set : List Int} (h : ascP set) {j : Nat} (hj : j < set.length) : gt (nY set set.length) (j : Int) = (gt set (j : Int), (j : Int)) := by
 rw [aBL h (Nat.le_refl _), dY (by simpa using hj)]; simp
theorem aOY {set : List Int} (h : ascP set) : (nY set set.length).length = set.length := by rw [aBL h (Nat.le_refl _)]; simp
theorem aPD {l : List Nat} {n : Nat} (h : l.Nodup) (hl : ∀ j ∈ l, j < n) : l.length ≤ n := by
 have := List.Nodup.length_le_of_subset h (fun x hx => List.mem_range.2 (hl x hx))
 simpa using this
section
variable {X : List Nat} {w0 : World} {M0 : List Ent} {I0 : List bA}
theorem aTF {m : LE} {R C u n : Nat} {set : List Int} {q : Option Addr} {c : Nat} {Y : MX} (hk : u ≤ 1000000000) (hn : n ≤ 500000000) (f : m.fit R C) (h : mW m u ∈ I0) (hl : set.length ≤ 1000) (hq : aT q (recs (eI .i64) set) ∈ I0) (hY : gD Y n ∈ I0) (hYl : Y.rows.length ≤ 1000 ∧ ∀ r ∈ Y.rows, r.es.length ≤ 1000) :
  CD Tryz.prog 51 [vLE m, .slice q set.length c, mv Y] X w0 M0 I0 (fun v M I => M0 = M ∧ I0 = I ∧ v = .int .i64 (if vZ R set = 0 then (if set.length = 0 then 1 else if firmP R C m.a.q set Y.q then 0 else 12) else vZ R set)) := by
 have lR := f.d.1.1
 subst lR
 obtain ⟨r1, r2⟩ := f.d.2.1
 obtain ⟨c1, c2⟩ := f.d.2.2
 obtain ⟨y1, y2⟩ := hYl
 have hC := fun M0 I0 h => qE (X := X) (w0 := w0) (M0 := M0) (I0 := I0) (m := m) (k := u) (by omega) f h
 have hN := fun M0 I0 h1 h2 => yT (X := X) (w0 := w0) (M0 := M0) (I0 := I0) (m := m) (q := q) (c := c) (k := u) (by omega) f h1 hl h2
 have yl : Y.q.length = Y.rows.length := by show (Y.rows.map _).length = _; rw [List.length_map]
 refine bQ (φ := gD m.a u) (Hv.lea h) ?_
 refine bQ (φ := gD Y n) (Hv.mem aB) ?_
 refine bQ (φ := aT (Y).p (recs eL (Y).rows)) (Hv.xsl aB) ?_
 refine mE Tryz.func51 rfl Tryz.ntmps51 rfl ?_
 refine aJ ?_
 refine aI ?_
 (refine aP rfl rfl rfl ?_; intro b1; refine ⟨okF, ?_⟩)
 refine aF .here ?_
 repeat (refine aK ?_)
 (refine aA rfl (hC _ _ aB) rfl rfl ?_; rintro _ _ _ ⟨rfl, rfl, rfl⟩; refine ⟨okF, ?_⟩)
 repeat (refine aK ?_)
 refine aS [1, 2, 3, 22, 23] rfl (fun k G M I => ∃ i : Nat, i ≤ Y.rows.length ∧ k = Y.rows.length - i ∧ G = [(24, .int .i64 i)] ∧ M0 = M ∧ I = aT (some ⟨b1, 0, none⟩) [mv m.a, lv m.l, lv m.p] :: aT Y.p (recs eL Y.rows) :: gD Y n :: gD m.a u :: I0) (Y.rows.length) _ _ _ aO aC aD (⟨0, by omega, rfl, rfl, rfl, rfl⟩) ?_
 rintro kk G M I ⟨i, hi, rfl, rfl, rfl, rfl⟩
 by_cases hin : i < Y.rows.length
 ·have hV := fun M0 I0 h => zJ (X := X) (w0 := w0) (M0 := M0) (I0 := I0) (y := gt Y.rows (i : Int)) (k := n) (by omega) (by have := kQ y2 hin; omega) h
  refine bL (φ := jP (gt Y.rows (i : Int)) n) (Hv.xrow aB (by omega)) ?_
  repeat (refine aK ?_)
  (refine aA rfl (hV _ _ aB) rfl rfl ?_; rintro _ _ _ ⟨rfl, rfl, rfl⟩; refine ⟨okF, ?_⟩)
  repeat (refine aK ?_)
  refine aM (Y.rows.length - (i + 1)) _ _ _ (by first | omega | (simp only [List.length_append, List.length_cons, List.length_nil]; omega)) aO aC aD (⟨i + 1, by omega, rfl, rfl, rfl, rfl⟩)
 ·obtain rfl : i = Y.rows.length := by omega
  by_cases hs : vZ m.a.rows.length set = 0
  ·simp only [if_pos hs] at hN ⊢
   obtain ⟨hinP, hasc⟩ := aRH hs
   have hml := aOY hasc
   by_cases h0 : set.length = 0
   ·simp only [if_pos h0]
    repeat (refine aK ?_)
    (refine aA rfl (hN _ _ aB aB) rfl rfl ?_; rintro _ _ _ ⟨rfl, b, rfl, rfl⟩; refine ⟨okF, ?_⟩)
    repeat (refine aK ?_)
    refine aH (by first | exact .inl rfl | exact .inr rfl) rfl rfl _ _ aC aD (⟨rfl, rfl, rfl⟩)
   ·simp only [if_neg h0]
    by_cases hlen : Y.rows.length = set.length
    ·repeat (refine aK ?_)
     (refine aA rfl (hN _ _ aB aB) rfl rfl ?_; rintro _ _ _ ⟨rfl, b, rfl, rfl⟩; refine ⟨okF, ?_⟩)
     repeat (refine aK ?_)
     clear hN hC
     refine aS [3, 10, 49, 50] rfl (fun k G M I => ∃ i : Nat, i ≤ Y.rows.length ∧ k = Y.rows.length - i ∧ (∀ t, t < i → firmR m.a.rows.length C m.a.q set t (gt Y.rows (t : Int)).q) ∧ G = [(51, .int .i64 i)] ∧ M = .obj b (kG (nY set set.length)) :: M0 ∧ I = aT (some ⟨b1, 0, none⟩) [mv m.a, lv m.l, lv m.p] :: aT Y.p (recs eL Y.rows) :: gD Y n :: gD m.a u :: I0) (Y.rows.length) _ _ _ aO aC aD (⟨0, by omega, rfl, fun j hj => by omega, rfl, rfl, rfl⟩) ?_
     rintro kk G M I ⟨i, hi, rfl, hfr, rfl, rfl, rfl⟩
     by_cases hin : i < Y.rows.length
     ·have hra : rowAt Y.q i = (gt Y.rows (i : Int)).q := wL hin
      have hno : ¬ firmR m.a.rows.length C m.a.q set i (gt Y.rows (i : Int)).q → ¬ firmP m.a.rows.length C m.a.q set Y.q := fun hn h => hn (by rw [← hra]; exact h.2 i (List.mem_range.2 (by omega)))
      have hql : (gt Y.rows (i : Int)).q.length = (gt Y.rows (i : Int)).es.length := by simp
      refine bL (φ := jP (gt Y.rows (i : Int)) n) (Hv.xrow aB (by omega)) ?_
      by_cases e1 : (gt Y.rows (i : Int)).es.length = m.a.rows.length
      ·have hB := fun M0 I0 h1 h2 => zG (X := X) (w0 := w0) (M0 := M0) (I0 := I0) (y := gt Y.rows (i : Int)) (a := m.a) (k := u) (m := n) hk hn f.d e1 h1 h2
       have hkm : m.a.rows.length * (u + n + 1) ≤ 100000000000 := Nat.le_trans (Nat.mul_le_mul r2 (show u + n + 1 ≤ 1500000001 by omega)) (by decide)
       generalize m.a.rows.length * (u + n + 1) = K2 at *
       have hZ := fun (r : RL) (hr : r.q = apL C m.a.rows.length (trM m.a.rows.length C m.a.q) (gt Y.rows (i : Int)).q) M0 I0 h => by
        have := xR (X := X) (w0 := w0) (M0 := M0) (I0 := I0) (r := r) (k := K2) hkm (by
         have := congrArg List.length hr
         rw [aEB, List.length_map] at this; omega) h
        rw [hr] at this
        exact this
       by_cases e2 : annP m.a.rows.length C m.a.q (gt Y.rows (i : Int)).q
       ·repeat (refine aK ?_)
        (refine aA rfl (hB _ _ aB aB) rfl rfl ?_; rintro _ _ _ ⟨rfl, r, rfl, hr, rfl⟩; refine ⟨okF, ?_⟩)
        have hZr := hZ r hr
        rw [bR (show vJ _ from e2)] at hZr
        clear hZ hB
        repeat (refine aK ?_)
        (refine aA rfl (hZr _ _ aB) rfl rfl ?_; rintro _ _ _ ⟨rfl, rfl, rfl⟩; refine ⟨okF, ?_⟩)
        repeat (refine aK ?_)
        (refine aPK rfl aB rfl rfl ?_; intro it; refine ⟨okF, ?_⟩)
        repeat (refine aK ?_)
        refine aS [3, 10, 12, 13, 49, 50, 51, 71] rfl (fun k G M I => ∃ seen : List Nat, seen.Nodup ∧ (∀ j ∈ seen, j < set.length ∧ (gt Y.rows (i : Int)).q.getD (gt set (j : Int)).toNat 0 = oO j i) ∧ k = set.length - seen.length ∧ G = [] ∧ M = .obj it (yD b (nY set set.length) seen) :: .obj b (kG (nY set set.length)) :: M0 ∧ I = jP (gt Y.rows (i : Int)) n :: aT (some ⟨b1, 0, none⟩) [mv m.a, lv m.l, lv m.p] :: aT Y.p (recs eL Y.rows) :: gD Y n :: gD m.a u :: I0) (set.length) _ _ _ aO aC aD (⟨[], List.nodup_nil, fun j hj => by simp at hj, rfl, rfl, rfl, rfl⟩) ?_
        rintro kk G M I ⟨seen, hnd, hse, rfl, rfl, rfl, rfl⟩
        refine bL (φ := aT ((gt Y.rows (i : Int))).p (recs eR ((gt Y.rows (i : Int))).es)) (Hv.lsl aB) ?_
        repeat (refine aK ?_)
        refine aRB (M2 := fun j => .obj it (yD b (nY set set.length) (seen ++ [j])) :: .obj b (kG (nY set set.length)) :: M0) rfl aB aB (fun j => .here) rfl rfl (fun hall => ?_) (fun j hj hjn => ?_)
        ·refine ⟨okF, ?_⟩
         repeat (refine aK ?_)
         refine aM (Y.rows.length - (i + 1)) _ _ _ (by first | omega | (simp only [List.length_append, List.length_cons, List.length_nil]; omega)) aO aC aD (⟨i + 1, by omega, rfl, oP hfr ⟨⟨by omega, e2⟩, fun j hj => (hse j (hall j (by rw [hml]; exact List.mem_range.1 hj))).2⟩, rfl, rfl, rfl⟩)
        ·refine ⟨okF, ?_⟩
         rw [hml] at hj
         have hge := aSM hasc hj
         have hg1 : (gt (nY set set.length) (j : Int)).1 = gt set (j : Int) := by rw [hge]
         have hg2 : (gt (nY set set.length) (j : Int)).2 = (j : Int) := by rw [hge]
         have hnd2 : (seen ++ [j]).Nodup := by
          rw [List.nodup_append]
          exact ⟨hnd, by simp, fun x hx y hy e => hjn (by rw [List.mem_singleton] at hy; rw [← hy, ← e]; exact hx)⟩
         have hle := aPD (n := set.length) hnd2 (fun x hx => by
          rcases List.mem_append.1 hx with hx | hx
          ·exact (hse x hx).1
          ·rw [List.mem_singleton.1 hx]; exact hj)
         rw [List.length_append, List.length_singleton] at hle
         obtain ⟨p1, p2⟩ := hinP _ (cZ (ms := set) (i := (j : Int)) (by omega))
         have hpn : ((gt set (j : Int)).toNat : Int) = gt set (j : Int) := by omega
         have hqd : (gt Y.rows (i : Int)).q.getD (gt set (j : Int)).toNat 0 = (gt (gt Y.rows (i : Int)).es (gt set (j : Int))).q := by
          have := kS (es := (gt Y.rows (i : Int)).es) (j := (gt set (j : Int)).toNat) (by omega)
          rw [hpn] at this; exact this
         have hW0 := fun M0 I0 => lX (X := X) (w0 := w0) (M0 := M0) (I0 := I0) (x := 0) (by decide) (k := 0) (by decide)
         have hW1 := fun M0 I0 => lX (X := X) (w0 := w0) (M0 := M0) (I0 := I0) (x := 1) (by decide) (k := 0) (by decide)
         have hCm := fun (e : RE) M0 I0 h1 h2 => yZ (X := X) (w0 := w0) (M0 := M0) (I0 := I0) (a := gt (gt Y.rows (i : Int)).es (gt set (j : Int))) (b := e) (k := n) (m := 0) (by omega) h1 h2
         rw [hg1, hg2]
         repeat (refine aK ?_)
         (refine aQH (j := j) (by rw [hml]; exact hj) rfl aB aB rfl rfl ⟨okF, ?_⟩)
         rw [hg1, hg2]
         repeat (refine aK ?_)
         refine iA (φ := eQ (gt (gt Y.rows (i : Int)).es (gt set (j : Int))) n) (Hv.lel aB (by omega)) ?_
         repeat (refine aK ?_)
         (refine aA rfl (hW0 _ _) rfl rfl ?_; rintro _ _ _ ⟨rfl, u0, rfl, hu0, rfl⟩; refine ⟨okF, ?_⟩)
         repeat (refine aK ?_)
         (refine aN rfl rfl ?_; intro b3; refine ⟨okF, ?_⟩)
         repeat (refine aK ?_)
         refine xM (fun G M I => ∃ ue : RE, ue.q = oO j i ∧ G = [(3, .pointer (some ⟨b1, 0, none⟩)), (10, .map (some b)), (12, .int .i64 i), (13, lv (gt Y.rows (i : Int))), (14, .int .i64 (gt set (j : Int))), (16, .pointer (some ⟨b3, 0, none⟩)), (49, .slice Y.p Y.rows.length Y.c), (50, .int .i64 Y.rows.length), (51, .int .i64 i), (71, .pointer (some ⟨it, 0, none⟩))] ∧ M = .blk b3 (eR ue) 42 :: .obj it (yD b (nY set set.length) (seen ++ [j])) :: .obj b (kG (nY set set.length)) :: M0 ∧ I = eQ ue 0 :: eQ (gt (gt Y.rows (i : Int)).es (gt set (j : Int))) n :: aT (gt Y.rows (i : Int)).p (recs eR (gt Y.rows (i : Int)).es) :: jP (gt Y.rows (i : Int)) n :: aT (some ⟨b1, 0, none⟩) [mv m.a, lv m.l, lv m.p] :: aT Y.p (recs eL Y.rows) :: gD Y n :: gD m.a u :: I0) ?_ ?_
         ·by_cases e3 : j = i
          ·repeat (refine aK ?_)
           (refine aA rfl (hW1 _ _) rfl rfl ?_; rintro _ _ _ ⟨rfl, u1, rfl, hu1, rfl⟩; refine ⟨okF, ?_⟩)
           repeat (refine aK ?_)
           refine dP _ _ _ aO aC aD ⟨u1, by rw [hu1]; simp only [oO, if_pos e3]; rfl, rfl, rfl, rfl⟩
          ·repeat (refine aK ?_)
           refine dP _ _ _ aO aC aD ⟨u0, by rw [hu0]; simp only [oO, if_neg e3]; rfl, rfl, rfl, rfl⟩
         ·rintro G M I ⟨ue, hu, rfl, rfl, rfl⟩
          refine aJU .here ?_
          have hCu := hCm ue
          have hcq := aJO (p := (gt (gt Y.rows (i : Int)).es (gt set (j : Int))).q) (q := ue.q)
          generalize aPJ (gt (gt Y.rows (i : Int)).es (gt set (j : Int))).q ue.q = cv at *
          (repeat refine aJ ?_); refine dJ [0, 1, 2, 3, 4, 5, 6] [1, 1, 1, 0, 0, 0, 0] mixed (by kernel_rfl) ?_
          repeat (refine aK ?_)
          (refine aA rfl (hCu _ _ (Hv.mem aB) (Hv.mem aB)) rfl rfl ?_; rintro _ _ _ ⟨rfl, rfl, rfl⟩; refine ⟨okF, ?_⟩)
          by_cases e4 : cv = 0
          ·repeat (refine aK ?_)
           refine aM (set.length - (seen.length + 1)) _ _ _ (by first | omega | (simp only [List.length_append, List.length_cons, List.length_nil]; omega)) aO aC aD (⟨seen ++ [j], hnd2, fun x hx => by
            rcases List.mem_append.1 hx with hx | hx
            ·exact hse x hx
            ·rw [List.mem_singleton.1 hx]
             exact ⟨hj, by rw [hqd, hcq.1 e4, hu]⟩, by rw [List.length_append, List.length_singleton], rfl, rfl, rfl⟩)
          ·have hnf := hno (fun hf => e4 (hcq.2 (by rw [← hqd, hf.2 j (List.mem_range.2 hj), hu])))
           simp only [if_neg hnf]
           repeat (refine aK ?_)
           refine aH (by first | exact .inl rfl | exact .inr rfl) rfl rfl _ _ aC aD (⟨rfl, rfl, rfl⟩)
       ·have hnf := hno (fun hf => e2 hf.1.2)
        simp only [if_neg hnf]
        repeat (refine aK ?_)
        (refine aA rfl (hB _ _ aB aB) rfl rfl ?_; rintro _ _ _ ⟨rfl, r, rfl, hr, rfl⟩; refine ⟨okF, ?_⟩)
        have hZr := hZ r hr
        rw [aY (show ¬ vJ _ from e2)] at hZr
        repeat (refine aK ?_)
        (refine aA rfl (hZr _ _ aB) rfl rfl ?_; rintro _ _ _ ⟨rfl, rfl, rfl⟩; refine ⟨okF, ?_⟩)
        repeat (refine aK ?_)
        refine aH (by first | exact .inl rfl | exact .inr rfl) rfl rfl _ _ aC aD (⟨rfl, rfl, rfl⟩)
      ·have hnf := hno (fun hf => e1 (by have := hf.1.1; omega))
       simp only [if_neg hnf]
       repeat (refine aK ?_)
       refine aH (by first | exact .inl rfl | exact .inr rfl) rfl rfl _ _ aC aD (⟨rfl, rfl, rfl⟩)
     ·have hyes : firmP m.a.rows.length C m.a.q set Y.q := ⟨by omega, fun t ht => by
       have ht' := List.mem_range.1 ht
       rw [wL (by omega)]
       exact hfr t (by omega)⟩
      simp only [if_pos hyes]
      repeat (refine aK ?_)
      refine aH (by first | exact .inl rfl | exact .inr rfl) rfl rfl _ _ aC aD (⟨rfl, rfl, rfl⟩)
    ·have hnf : ¬ firmP m.a.rows.length C m.a.q set Y.q := fun hf => hlen (by have := hf.1; omega)
     simp only [if_neg hnf]
     repeat (refine aK ?_)
     (refine aA rfl (hN _ _ aB aB) rfl rfl ?_; rintro _ _ _ ⟨rfl, b, rfl, rfl⟩; refine ⟨okF, ?_⟩)
     repeat (refine aK ?_)
     refine aH (by first | exact .inl rfl | exact .inr rfl) rfl rfl _ _ aC aD (⟨rfl, rfl, rfl⟩)
  ·simp only [if_neg hs] at hN ⊢
   repeat (refine aK ?_)
   (refine aA rfl (hN _ _ aB aB) rfl rfl ?_; rintro _ _ _ ⟨rfl, rfl, rfl⟩; refine ⟨okF, ?_⟩)
   generalize vZ m.a.rows.length set = co at *
   repeat (refine aK ?_)
   refine aH (by first | exact .inl rfl | exact .inr rfl) rfl rfl _ _ aC aD (⟨rfl, rfl, rfl⟩)
end
end Go.Proofs.YtgeagiikkeiioaaGreat

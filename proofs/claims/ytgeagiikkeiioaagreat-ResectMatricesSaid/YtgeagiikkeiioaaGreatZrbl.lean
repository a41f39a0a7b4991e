/- The document's product, transposed matrix, product with a list. matrix.Inverse. Equality of lists and matrices; matrices of integers; the chapter's example. Matrices of integers; the chapter's example. The chapter's example. Symmetric elimination, plain: pivots and leading determinants; the quadratic form as a sum of squares; witnesses. The document's SameList, SameMatrix, Symmetric, Nonzero, Form, Leading, Definite. Arguments opened: matrices, lists, fractions, wherever they lie. -/
import Derived.Test.YtgeagiikkeiioaaGreatZrbe
import Derived.Test.YtgeagiikkeiioaaGreatZrax
import Derived.Test.YtgeagiikkeiioaaGreatZrbk
import Derived.Test.YtgeagiikkeiioaaGreatZrbb
import Derived.Test.YtgeagiikkeiioaaGreatZrba
set_option linter.unusedSimpArgs false
set_option linter.unusedVariables false
set_option maxRecDepth 100000
set_option maxHeartbeats 4000000
namespace Go.Proofs.YtgeagiikkeiioaaGreat
open Go Go.Fx
section
variable {X : List Nat} {w0 : World} {M0 : List Ent} {I0 : List bL}
theorem aKW {a b : MX} {R C D k0 m : Nat} (hk : k0 + m ≤ 700000000) (hm : m ≤ 600000000) (hR : 1 ≤ R ∧ R ≤ 64) (hC : 1 ≤ C ∧ C ≤ 64) (hD : 1 ≤ D ∧ D ≤ 64) (da : a.dim R C) (db : b.dim C D) (ha : nU a k0 ∈ I0) (hb : nU b m ∈ I0) :
  CD Tryz.prog 79 [mv a, mv b] X w0 M0 I0 (MsP R D (fun i j => sm C (fun t => at2 a.q i t * at2 b.q t j)) (C * (k0 + m + 1)) M0 I0) := by
 have lR := da.1
 have lC := db.1
 have lD : (gt b.rows 0).es.length = D := db.row (i := 0) (by omega)
 have hKK : C * (k0 + m + 1) ≤ 50000000000 := Nat.le_trans (Nat.mul_le_mul hC.2 (show k0 + m + 1 ≤ 700000001 by omega)) (by decide)
 have hW := fun M0 I0 => rY (X := X) (w0 := w0) (M0 := M0) (I0 := I0) (x := 0) (by decide)
 obtain ⟨K, hK⟩ : ∃ K, K = C * (k0 + m + 1) := ⟨_, rfl⟩
 rw [← hK] at hKK ⊢
 refine eD (φ := bP (a).p (recs eL (a).rows)) (Hv.xsl aB) ?_
 refine eD (φ := bP (b).p (recs eL (b).rows)) (Hv.xsl aB) ?_
 refine bJ Tryz.func79 rfl Tryz.ntmps79 rfl ?_
 repeat (refine aK ?_)
 rw [lR, lD]
 (refine aA rfl (aEG (R := R) (C := D) (by omega) (by omega)) rfl rfl ?_; rintro _ _ _ ⟨bo, co, tlo, rows0, rfl, hco, hs0, hp0, rfl, rfl⟩; refine ⟨okF, ?_⟩)
 repeat (refine aK ?_)
 refine fI (φ := jC rows0 K) (Hv.monoS (k := 0) (List.Mem.head _) (by omega)) ?_
 refine bH [0, 1, 5] rfl (fun k G M I => ∃ (i : Nat) (rows : List MS), i ≤ R ∧ k = R - i ∧ Shp rows R D ∧ Pw rows R D (fun x y => if x < i then sm C (fun t => at2 a.q x t * at2 b.q t y) else 0) ∧ G = [(6, .int .i64 i)] ∧ M = .blk bo (recs eS rows ++ tlo) 34 :: (rows.map jH ++ M0) ∧ I = jC rows K :: bP b.p (recs eL b.rows) :: bP a.p (recs eL a.rows) :: I0) (R) _ _ _ aV aF aG (⟨0, rows0, by omega, rfl, hs0, fun x y hx hy => by (have h_ := hp0 x y hx hy; dsimp only at h_ ⊢; rw [h_, if_neg (by omega)]), rfl, rfl, rfl⟩) ?_
 rintro kk G M I ⟨i, rows, hi, rfl, hs, hp, rfl, rfl, rfl⟩
 by_cases hiR : i < R
 ·have hra := da.row hiR
  refine fI (φ := bP (gt (a).rows (i : Int)).p (recs eR (gt (a).rows (i : Int)).es)) (Hv.xrsl aB (by omega)) ?_
  have hp_ : Pw rows R D (fun x y => if x < i ∨ (x = i ∧ y < 0) then sm C (fun t => at2 a.q x t * at2 b.q t y) else 0) := fun x y hx hy => by
   have h_ := hp x y hx hy
   dsimp only at h_ ⊢
   rw [h_]
   by_cases e : x < i
   ·rw [if_pos e, if_pos (.inl e)]
   ·rw [if_neg e, if_neg (by omega)]
  repeat (refine aK ?_)
  refine bH [0, 1, 5, 6] rfl (fun k G M I => ∃ (j : Nat) (rows : List MS), j ≤ D ∧ k = D - j ∧ Shp rows R D ∧ Pw rows R D (fun x y => if x < i ∨ (x = i ∧ y < j) then sm C (fun t => at2 a.q x t * at2 b.q t y) else 0) ∧ G = [(7, .int .i64 j)] ∧ M = .blk bo (recs eS rows ++ tlo) 34 :: (rows.map jH ++ M0) ∧ I = jC rows K :: bP (gt a.rows (i : Int)).p (recs eR (gt a.rows (i : Int)).es) :: bP b.p (recs eL b.rows) :: bP a.p (recs eL a.rows) :: I0) (D) _ _ _ aV aF aG (⟨0, rows, by omega, rfl, hs, hp_, rfl, rfl, rfl⟩) ?_
  rintro kk G M I ⟨j, rows1, hj, rfl, hs1, hp1, rfl, rfl, rfl⟩
  have hlen := hs1.len
  by_cases hjD : j < D
  ·have hrow := hs1.row hiR
   repeat (refine aK ?_)
   (refine aA rfl (hW _ _) rfl rfl ?_; rintro _ _ _ ⟨rfl, z0, rfl, hz0, rfl⟩; refine ⟨okF, ?_⟩)
   repeat (refine aK ?_)
   (refine aC rfl rfl ?_; intro b8; refine ⟨okF, ?_⟩)
   repeat (refine aK ?_)
   refine bH [0, 1, 5, 6, 7, 8] rfl (fun k G M I => ∃ (t : Nat) (s : RE), t ≤ C ∧ k = C - t ∧ s.q = sm t (fun t => at2 a.q i t * at2 b.q t j) ∧ G = [(9, .int .i64 t)] ∧ M = .blk b8 (eR s) 42 :: .blk bo (recs eS rows1 ++ tlo) 34 :: (rows1.map jH ++ M0) ∧ I = bZ s (t * (k0 + m + 1)) :: jC rows1 K :: bP (gt a.rows (i : Int)).p (recs eR (gt a.rows (i : Int)).es) :: bP b.p (recs eL b.rows) :: bP a.p (recs eL a.rows) :: I0) (C) _ _ _ aV aF aG (⟨0, z0, by omega, rfl, hz0, rfl, rfl, by rw [Nat.zero_mul]⟩) ?_
   rintro kk G M I ⟨t, s, ht, rfl, hsq, rfl, rfl, rfl⟩
   have hu : t * (k0 + m + 1) ≤ K := by rw [hK]; exact Nat.mul_le_mul_right _ ht
   by_cases htC : t < C
   ·have hu2 : (t + 1) * (k0 + m + 1) = t * (k0 + m + 1) + (k0 + m) + 1 := by rw [Nat.succ_mul]; omega
    have hrb := db.row htC
    have hat := rU (m := a) (i := i) (j := t) (by omega) (by omega)
    have hat2 := rU (m := b) (i := t) (j := j) (by omega) (by omega)
    refine fI (φ := bP (gt (b).rows (t : Int)).p (recs eR (gt (b).rows (t : Int)).es)) (Hv.xrsl aB (by omega)) ?_
    have hu3 : (t + 1) * (k0 + m + 1) ≤ K := by rw [hK]; exact Nat.mul_le_mul_right _ htC
    generalize t * (k0 + m + 1) = u at *
    repeat (refine aK ?_)
    (repeat refine aN ?_); refine dK 2 [0, 1, 2, 3, 4, 5, 6, 7, 8, 9, 10, 11, 12, 13, 14, 15, 16, 17] [1, 2, 2, 2, 2, 2, 2, 1, 2, 2, 2, 2, 2, 2, 1, 0, 0, 0] mixed (by kernel_rfl) ?_
    repeat (refine aK ?_)
    (refine aA rfl (aEF (k := k0) (m := m) (by omega) (Hv.xel aB (by omega) (by omega)) (Hv.xel aB (by omega) (by omega))) rfl rfl ?_; rintro _ _ _ ⟨rfl, e1, rfl, he1, rfl⟩; refine ⟨okF, ?_⟩)
    (refine aA rfl (aFC (k := u) (m := k0 + m) (by omega) (Hv.mem aB) (Hv.mem aB)) rfl rfl ?_; rintro _ _ _ ⟨rfl, e2, rfl, he2, rfl⟩; refine ⟨okF, ?_⟩)
    repeat (refine aK ?_)
    rw [← hu2]
    refine aW (C - (t + 1)) _ _ _ (by first | omega | (simp only [List.length_append, List.length_cons, List.length_nil]; omega)) aV aF aG (⟨t + 1, e2, by omega, rfl, ?_, rfl, rfl, rfl⟩)
    simp only [sm]
    rw [he2, he1, hsq, hat, hat2]
   ·obtain rfl : t = C := by omega
    repeat (refine aK ?_)
    (repeat refine aN ?_); refine dK 0 [0, 1, 2, 3, 4, 5, 6, 7] [0, 0, 0, 0, 0, 0, 0, 0] mixed (by kernel_rfl) ?_
    repeat' (first | refine aN ?_ | refine aI ?_ | refine iN ?_ | refine gJ ?_ | refine fF ?_ | refine fA ?_ | refine gL ?_ | refine fO ?_ | refine fE ?_ | refine fD ?_ | refine iM ?_ | refine iJ ?_ | refine iL ?_ | refine iO rfl ?_ | refine aM ?_ | (refine aJ ?_; first | refine fQ rfl rfl rfl ?_ | (refine fP rfl rfl ?_; refine eY rfl rfl rfl okF ?_) | refine gG rfl rfl (by omega) ?_ | refine gD rfl rfl (by omega) ?_ | refine aR rfl rfl (fun h => ?_) (fun h => ?_) | (fail_if_success (refine aT rfl ?_); refine aO rfl rfl (fun h => ?_) (fun h => ?_))) | (refine bO ?_; refine aD rfl (fun _ => dC rfl) rfl rfl ?_) | refine aD rfl (fun _ => bE rfl) rfl rfl ?_ | (refine gH ?_; first | refine aD rfl (fun _ => bT rfl rfl wF) rfl rfl ?_ | refine aD rfl (fun _ => bR rfl rfl wF) rfl rfl ?_ | refine aD rfl (fun _ => dV rfl rfl wF) rfl rfl ?_ | refine aD rfl (fun _ => dS rfl rfl (by omega) qF) rfl rfl ?_ | refine aD rfl (fun _ => dP rfl rfl (by omega) rfl) rfl rfl ?_ | refine aD rfl (fun _ => dB rfl rfl) rfl rfl ?_ | refine aD rfl (fun _ => dG rfl rfl) rfl rfl ?_ | refine aD rfl (fun _ => dD rfl rfl) rfl rfl ?_ | refine aD rfl (fun _ => jM rfl rfl) rfl rfl ?_ | refine aD rfl (fun _ => jX rfl rfl) rfl rfl ?_) | (refine bO ?_; first | refine aD rfl (fun _ => dL rfl wF) rfl rfl ?_) | (refine fU ?_; first | refine aD rfl (fun _ => cB rfl wF) rfl rfl ?_) | (refine fK ?_; first | refine aD rfl (fun _ => bS rfl) rfl rfl ?_ | refine aD rfl (fun _ => dH rfl rfl) rfl rfl ?_ | refine aD rfl (fun _ => cZ rfl rfl) rfl rfl ?_ | refine aD rfl (fun _ => dF rfl rfl rfl) rfl rfl ?_) | (refine fT ?_; first | refine gF rfl (by decide) rfl rfl ?_ | refine gY rfl (by decide) rfl rfl ?_) | (refine fZ ?_; first | refine gZ rfl rfl fG rfl rfl ?_ | refine iB dJ rfl rfl fG aB iD rfl rfl ?_ | refine gW dJ rfl rfl fG aB iD rfl rfl ?_ | refine aD rfl (fun _ => bN rfl rfl fG) rfl rfl ?_) | (refine bQ ?_; first | (apply dE; exact dJ; exact rfl; (focus ((repeat (first | with_reducible exact List.mem_cons_self | with_reducible assumption | with_reducible refine List.mem_cons_of_mem _ ?_)); done)); exact oJ; exact rfl; exact rfl) | (apply gT; exact dJ; exact rfl; (focus ((repeat (first | with_reducible exact List.mem_cons_self | with_reducible assumption | with_reducible refine List.mem_cons_of_mem _ ?_)); done)); exact oJ; exact rfl; exact rfl) | (apply iV; exact dJ; exact rfl; (focus ((repeat (first | with_reducible exact List.mem_cons_self | with_reducible assumption | with_reducible refine List.mem_cons_of_mem _ ?_)); done)); exact oJ; exact rfl; exact rfl) | (apply iT; exact dJ; exact rfl; (focus ((repeat (first | with_reducible exact List.mem_cons_self | with_reducible assumption | with_reducible refine List.mem_cons_of_mem _ ?_)); done)); exact oJ; exact rfl; exact rfl) | (apply iA; exact dJ; exact rfl; (focus ((repeat (first | with_reducible exact List.mem_cons_self | with_reducible assumption | with_reducible refine List.mem_cons_of_mem _ ?_)); done)); exact jU; exact rfl; exact rfl) | (apply fM; exact dJ; exact rfl; (focus ((repeat (first | with_reducible exact List.mem_cons_self | with_reducible assumption | with_reducible refine List.mem_cons_of_mem _ ?_)); done)); exact jU; exact rfl; exact rfl) | (apply gV; exact dJ; exact rfl; (focus ((repeat (first | with_reducible exact List.mem_cons_self | with_reducible assumption | with_reducible refine List.mem_cons_of_mem _ ?_)); done)); exact jU; exact rfl; exact rfl) | (apply iC; exact dJ; exact rfl; (focus ((repeat (first | with_reducible exact List.mem_cons_self | with_reducible assumption | with_reducible refine List.mem_cons_of_mem _ ?_)); done)); exact jU; exact rfl; exact rfl)) | (refine fV ?_; first | refine aD rfl (fun _ => bM rfl rfl) rfl rfl ?_ | refine aD rfl (fun _ => bG rfl) rfl rfl ?_) | (refine aL ?_; first | refine bV rfl ?_ | refine bK rfl ?_ | refine iK rfl (by omega) ?_ | refine jN rfl (by omega) ?_ | refine aS rfl (fun h => ?_) (fun h => ?_) | refine aP rfl (fun h => ?_) (fun h => ?_)))
    refine iU (vs := eR s) rfl rfl rfl (Ones.one s) (aPA (rows := rows1) (i := i) (r' := upR (gt rows1 (i : Int)) j s) (by omega)) (StAts.app (StAts.r (enc := eR) (ms := (gt rows1 (i : Int)).es) (i := (j : Int)) s (by omega) rfl)) rfl rfl ⟨okF, ?_⟩
    rw [aCG]
    refine gN (φ := bZ s K) (Hv.q (k := t * (k0 + m + 1)) aB hu) ?_
    refine gN (φ := jC (upS rows1 i j s) K) (Hv.upS hs1 hiR aB aB) ?_
    rw [← zT (i := i) (j := j) (e := s) hs1 hiR]
    repeat (refine aK ?_)
    refine aW (D - (j + 1)) _ _ _ (by first | omega | (simp only [List.length_append, List.length_cons, List.length_nil]; omega)) aV aF aG (⟨j + 1, upS rows1 i j s, by omega, rfl, hs1.up hiR, hp1.up hs1 hiR hjD (fun x y hx hy => ?_), rfl, rfl, rfl⟩)
    try dsimp only
    by_cases e1 : x = i ∧ y = j
    ·rw [if_pos e1, if_pos (by omega), hsq, e1.1, e1.2]
    ·rw [if_neg e1]
     by_cases e2 : x < i ∨ (x = i ∧ y < j)
     ·rw [if_pos e2, if_pos (by omega)]
     ·rw [if_neg e2, if_neg (by omega)]
  ·obtain rfl : j = D := by omega
   repeat (refine aK ?_)
   refine aW (R - (i + 1)) _ _ _ (by first | omega | (simp only [List.length_append, List.length_cons, List.length_nil]; omega)) aV aF aG (⟨i + 1, rows1, by omega, rfl, hs1, fun x y hx hy => ?_, rfl, rfl, rfl⟩)
   have h_ := hp1 x y hx hy
   dsimp only at h_ ⊢
   rw [h_]
   by_cases e2 : x < i + 1
   ·rw [if_pos e2, if_pos (by omega)]
   ·rw [if_neg e2, if_neg (by omega)]
 ·obtain rfl : i = R := by omega
  repeat (refine aK ?_)
  refine aU (by first | exact .inl rfl | exact .inr rfl) rfl rfl _ _ aF aG (⟨bo, co, tlo, rows, rfl, hco, hs, fun x y hx hy => by (have h_ := hp x y hx hy; dsimp only at h_ ⊢; rw [h_, if_pos hx]), rfl, rfl⟩)
theorem aIJ {x : RL} {n k0 : Nat} (hn : n ≤ 100) (hl : x.es.length = n) (hx : mF x k0 ∈ I0) : CD Tryz.prog 80 [lv x] X w0 M0 I0 (XQ (zZ n 1 (fun i _ => x.q.getD i 0)) n 1 k0 M0 I0) := by
 refine eD (φ := bP (x).p (recs eR (x).es)) (Hv.lsl aB) ?_
 refine bX Tryz.func80 rfl Tryz.ntmps80 rfl ?_
 repeat (refine aK ?_)
 (refine dM (cs := recs eL []) ([]) rfl rfl (by intro v hv; repeat (first | exact absurd hv (List.not_mem_nil) | (rcases List.mem_cons.1 hv with rfl | hv; · rfl))) (by omega) rfl rfl rfl ?_; intro bo; refine ⟨okF, ?_⟩; refine jY (mm := 0) 1 .here rfl (by omega) ?_)
 repeat (refine aK ?_)
 refine fI (φ := pQ [] k0) Hv.nilL ?_
 refine bH [0] rfl (fun k G M I => ∃ (i : Nat) (rs : List RL) (q : Option Addr) (c : Nat), i ≤ n ∧ k = n - i ∧ rs.length = i ∧ (∀ r ∈ rs, r.es.length = 1) ∧ rs.map RL.q = (List.range i).map (fun t => [x.q.getD t 0]) ∧ G = [(3, .slice q rs.length c), (4, .int .i64 i)] ∧ M = .row q rs.length c (recs eL rs) 34 1 :: M0 ∧ I = pQ rs k0 :: bP x.p (recs eR x.es) :: I0) (n) _ _ _ aV aF aG (⟨0, [], _, _, by omega, rfl, rfl, by simp, rfl, rfl, rfl, rfl⟩) ?_
 rintro kk G M I ⟨i, rs, q, c, hi, rfl, hrl, hrc, hrq, rfl, rfl, rfl⟩
 by_cases hin : i < n
 ·obtain ⟨s, hse⟩ : ∃ s, gt x.es (i : Int) = s := ⟨_, rfl⟩
  have hv : ∀ I, mF x k0 ∈ I → Hv I (bZ s k0) := fun I h => by rw [← hse]; exact Hv.lel h (by omega)
  have hqs := kH (es := x.es) (j := i) (by omega)
  rw [hse] at hqs
  repeat (refine aK ?_)
  rw [hse]
  refine gN (φ := bZ s k0) (hv _ aB) ?_
  refine gN (φ := gM [] k0) Hv.nilR ?_
  refine gN (φ := gM ([] ++ [s]) k0) (Hv.snoc aB aB) ?_
  rw [List.nil_append]
  (refine dM (cs := recs eR [s]) ([rv s]) rfl rfl (by intro v hv; repeat (first | exact absurd hv (List.not_mem_nil) | (rcases List.mem_cons.1 hv with rfl | hv; · rfl))) (by omega) rfl rfl rfl ?_; intro b; refine ⟨okF, ?_⟩)
  refine jY (mm := 1) 4 .here rfl (by omega) ?_
  refine aQG (es := [s]) (k := k0) aB ?_
  repeat (refine aK ?_)
  (refine dM (cs := recs eL [(⟨some ⟨b, 0, none⟩, 1, [s]⟩ : RL)]) ([lv (⟨some ⟨b, 0, none⟩, 1, [s]⟩ : RL)]) rfl rfl (by intro v hv; repeat (first | exact absurd hv (List.not_mem_nil) | (rcases List.mem_cons.1 hv with rfl | hv; · rfl))) (by omega) rfl rfl rfl ?_; intro b2; refine ⟨okF, ?_⟩)
  (refine iF (ys := [(⟨some ⟨b, 0, none⟩, 1, [s]⟩ : RL)]) 1 rfl rfl rfl ?_ (by decide) rfl (by omega) (by omega) rfl rfl ?_; (· first | exact Src.blk aB | exact Src.row aB | exact Src.imm aB (by first | assumption | exact .inl (Ok.mk _ _))); intro q2 c2; refine ⟨okF, ?_⟩)
  repeat (refine aK ?_)
  refine bW (φ := pQ (rs ++ [(⟨some ⟨b, 0, none⟩, 1, [s]⟩ : RL)]) k0) (Hv.snocL aB aB) ?_
  refine aW (n - (i + 1)) _ _ _ (by first | omega | (simp only [List.length_append, List.length_cons, List.length_nil]; omega)) aV aF aG (⟨i + 1, rs ++ [(⟨some ⟨b, 0, none⟩, 1, [s]⟩ : RL)], q2, c2, by omega, rfl, by simp [hrl], fun r hr => ?_, ?_, rfl, rfl, rfl⟩)
  ·rcases List.mem_append.1 hr with h | h
   ·exact hrc r h
   ·rw [List.mem_singleton.1 h]; rfl
  ·rw [aGW, hrq, List.range_succ, List.map_append]
   show _ ++ [[s.q]] = _ ++ [[x.q.getD i 0]]
   rw [hqs]
 ·obtain rfl : i = n := by omega
  repeat (refine aK ?_)
  refine aGH aB ?_
  refine aU (by first | exact .inl rfl | exact .inr rfl) rfl rfl _ _ aF aG (⟨rfl, ⟨q, c, rs⟩, rfl, ?_, ⟨hrl, hrc⟩, rfl⟩)
  show rs.map RL.q = _
  rw [hrq]
  unfold zZ
  apply List.map_congr_left
  intro a _
  rfl
theorem aMH {a : MX} {R C k0 : Nat} (hR : R ≤ 100) (hC : 1 ≤ C) (da : a.dim R C) (ha : nU a k0 ∈ I0) : CD Tryz.prog 78 [mv a] X w0 M0 I0 (LQ ((List.range R).map (fun i => at2 a.q i 0)) k0 M0 I0) := by
 have lR := da.1
 refine eD (φ := bP (a).p (recs eL (a).rows)) (Hv.xsl aB) ?_
 refine bX Tryz.func78 rfl Tryz.ntmps78 rfl ?_
 repeat (refine aK ?_)
 (refine dM (cs := recs eR []) ([]) rfl rfl (by intro v hv; repeat (first | exact absurd hv (List.not_mem_nil) | (rcases List.mem_cons.1 hv with rfl | hv; · rfl))) (by omega) rfl rfl rfl ?_; intro bo; refine ⟨okF, ?_⟩; refine jY (mm := 0) 4 .here rfl (by omega) ?_)
 repeat (refine aK ?_)
 refine fI (φ := gM [] k0) Hv.nilR ?_
 refine bH [0] rfl (fun k G M I => ∃ (i : Nat) (es : List RE) (q : Option Addr) (c : Nat), i ≤ R ∧ k = R - i ∧ es.length = i ∧ qs es = (List.range i).map (fun i => at2 a.q i 0) ∧ G = [(3, .slice q es.length c), (4, .int .i64 i)] ∧ M = .row q es.length c (recs eR es) 42 4 :: M0 ∧ I = gM es k0 :: bP a.p (recs eL a.rows) :: I0) (R) _ _ _ aV aF aG (⟨0, [], _, _, by omega, rfl, rfl, rfl, rfl, rfl, rfl⟩) ?_
 rintro kk G M I ⟨i, es, q, c, hi, rfl, hel, heq, rfl, rfl, rfl⟩
 by_cases hiR : i < R
 ·have hra := da.row hiR
  refine fI (φ := bP (gt (a).rows (i : Int)).p (recs eR (gt (a).rows (i : Int)).es)) (Hv.xrsl aB (by omega)) ?_
  obtain ⟨s, hse⟩ : ∃ s, gt (gt a.rows (i : Int)).es 0 = s := ⟨_, rfl⟩
  have hv : ∀ I, nU a k0 ∈ I → Hv I (bZ s k0) := fun I h => by rw [← hse]; exact Hv.xel h (by omega) (by omega)
  have hat : at2 a.q i 0 = s.q := by rw [← hse]; exact rU (m := a) (i := i) (j := 0) (by omega) (by omega)
  repeat (refine aK ?_)
  rw [hse]
  refine gN (φ := bZ s k0) (hv _ aB) ?_
  (refine dM (cs := recs eR [s]) ([rv s]) rfl rfl (by intro v hv; repeat (first | exact absurd hv (List.not_mem_nil) | (rcases List.mem_cons.1 hv with rfl | hv; · rfl))) (by omega) rfl rfl rfl ?_; intro b; refine ⟨okF, ?_⟩)
  (refine iF (ys := [s]) 1 rfl rfl rfl ?_ (by decide) rfl (by omega) (by omega) rfl rfl ?_; (· first | exact Src.blk aB | exact Src.row aB | exact Src.imm aB (by first | assumption | exact .inl (Ok.mk _ _))); intro q2 c2; refine ⟨okF, ?_⟩)
  repeat (refine aK ?_)
  refine bW (φ := gM (es ++ [s]) k0) (Hv.snoc aB aB) ?_
  refine aW (R - (i + 1)) _ _ _ (by first | omega | (simp only [List.length_append, List.length_cons, List.length_nil]; omega)) aV aF aG (⟨i + 1, es ++ [s], q2, c2, by omega, rfl, by simp; omega, ?_, rfl, rfl, rfl⟩)
  show (es ++ [s]).map RE.q = _
  rw [List.map_append, List.range_succ, List.map_append, ← heq]
  show qs es ++ [s.q] = qs es ++ [at2 a.q i 0]
  rw [hat]
 ·obtain rfl : i = R := by omega
  repeat (refine aK ?_)
  refine aCC aB ?_
  refine aU (by first | exact .inl rfl | exact .inr rfl) rfl rfl _ _ aF aG (⟨rfl, ⟨q, c, es⟩, rfl, heq, rfl⟩)
theorem aKI {a : MX} {x : RL} {R C k0 m : Nat} (hk : k0 + m ≤ 700000000) (hm : m ≤ 600000000) (hR : 1 ≤ R ∧ R ≤ 64) (hC : 1 ≤ C ∧ C ≤ 64) (da : a.dim R C) (hl : x.es.length = C) (ha : nU a k0 ∈ I0) (hx : mF x m ∈ I0) :
  CD Tryz.prog 20 [mv a, lv x] X w0 M0 I0 (LQ ((List.range R).map (fun i => sm C (fun t => at2 a.q i t * x.q.getD t 0))) (C * (k0 + m + 1)) M0 I0) := by
 have hCo := fun M0 I0 h => aIJ (X := X) (w0 := w0) (M0 := M0) (I0 := I0) (x := x) (n := C) (k0 := m) (by omega) hl h
 have hMu := fun (y : MX) (hy : y.dim C 1) M0 I0 h1 h2 => CD_ms (aKW (X := X) (w0 := w0) (M0 := M0) (I0 := I0) (a := a) (b := y) (R := R) (C := C) (D := 1) (k0 := k0) (m := m) hk hm hR hC (by omega) da hy h1 h2)
 have hFi := fun (y : MX) (hy : y.dim R 1) M0 I0 h1 => aMH (X := X) (w0 := w0) (M0 := M0) (I0 := I0) (a := y) (R := R) (C := 1) (k0 := C * (k0 + m + 1)) (by omega) (by omega) hy h1
 refine bJ Tryz.func20 rfl Tryz.ntmps20 rfl ?_
 repeat (refine aK ?_)
 (refine aA rfl (hCo _ _ aB) rfl rfl ?_; rintro _ _ _ ⟨rfl, y, rfl, hy, hyd, rfl⟩; refine ⟨okF, ?_⟩)
 (refine aA rfl (hMu y hyd _ _ aB aB) rfl rfl ?_; rintro _ _ _ ⟨rfl, z, rfl, hz, hzd, rfl⟩; refine ⟨okF, ?_⟩)
 (refine aA rfl (hFi z hzd _ _ aB) rfl rfl ?_; rintro _ _ _ ⟨rfl, r, rfl, hr, rfl⟩; refine ⟨okF, ?_⟩)
 repeat (refine aK ?_)
 refine aU (by first | exact .inl rfl | exact .inr rfl) rfl rfl _ _ aF aG (⟨rfl, r, rfl, ?_, rfl⟩)
 rw [hr]
 apply List.map_congr_left
 intro i hi
 rw [hz, aKT (List.mem_range.1 hi) (by omega)]
 exact jP (fun t ht => by rw [hy, aKT ht (by omega)])
end
end Go.Proofs.YtgeagiikkeiioaaGreat
namespace Go.Proofs.YtgeagiikkeiioaaGreat
open Go Go.Fx
def besI (n : Nat) (A : Mt) : Mt := zZ n (n + n) (fun i j => if j < n then at2 A i j else dlt i (j - n))
def invM (n : Nat) (A : Mt) : Mt := zZ n n (fun i j => at2 (mJ (besI n A) n).1 i (n + j))
section
variable {X : List Nat} {w0 : World} {M0 : List Ent} {I0 : List bL}
end
end Go.Proofs.YtgeagiikkeiioaaGreat
namespace Go.Proofs.YtgeagiikkeiioaaGreat
open Go Go.Fx
structure IL where
 p : Option Addr
 c : Nat
 xs : List Int
instance : Inhabited IL := ⟨⟨none, 0, []⟩⟩
abbrev eIL (r : IL) : List Value := [.slice r.p r.xs.length r.c]
abbrev ivL (r : IL) : Value := .slice r.p r.xs.length r.c
instance : Sized eIL 1 := ⟨fun _ => rfl⟩
instance : Ones eIL := ⟨fun m u hu => by simp only [eIL, List.mem_cons, List.not_mem_nil, or_false] at hu; subst hu; rfl⟩
/- ---------- IndexFunc, ContainsFunc of [][]int ---------- -/
section
variable {X : List Nat} {w0 : World} {M0 : List Ent} {I0 : List bL}
end
theorem q_ext {x y : RL} (hl : x.es.length = y.es.length) (h : ∀ j : Nat, j < x.es.length → (gt x.es (j : Int)).q = (gt y.es (j : Int)).q) : x.q = y.q := by
 apply qN
 ·simp [hl]
 ·intro t ht
  have ht' : t < x.es.length := by simpa using ht
  rw [kH ht', kH (by omega)]
  exact h t ht'
theorem q_at {x y : RL} (h : x.q = y.q) {j : Nat} (hj : j < x.es.length) : (gt x.es (j : Int)).q = (gt y.es (j : Int)).q := by
 have hl : x.es.length = y.es.length := by have := congrArg List.length h; simpa using this
 rw [← kH hj, ← kH (by omega)]
 exact congrArg (fun l => List.getD l j 0) h
section
variable {X : List Nat} {w0 : World} {M0 : List Ent} {I0 : List bL}
end
end Go.Proofs.YtgeagiikkeiioaaGreat
namespace Go.Proofs.YtgeagiikkeiioaaGreat
open Go Go.Fx
structure AllIL (rows : List IL) (X : List Nat) (w : World) : Prop where
 go : ∀ r ∈ rows, Sl X w r.p (recs (eI .i64) r.xs)
abbrev allIL (rows : List IL) : bL := AllIL rows
instance (rows : List IL) : Fx.Good (AllIL rows) := ⟨fun X Y w w' h he hY => ⟨fun r hm => Sl.carry (h.go r hm) he hY⟩⟩
abbrev bxI (b : Nat) (q : Option Addr) (n c : Nat) : bL := bP (some ⟨b, 0, none⟩) [.slice q n c]
section
variable {X : List Nat} {w0 : World} {M0 : List Ent} {I0 : List bL}
end
end Go.Proofs.YtgeagiikkeiioaaGreat
namespace Go.Proofs.YtgeagiikkeiioaaGreat
open Go Go.Fx
def kA : Mt := [[((2 : Int) : Rat), ((1 : Int) : Rat)], [((1 : Int) : Rat), ((1 : Int) : Rat)]]
def kC : Mt := [[((1 : Int) : Rat), ((-1 : Int) : Rat)], [((-1 : Int) : Rat), ((2 : Int) : Rat)]]
section
variable {X : List Nat} {w0 : World} {M0 : List Ent} {I0 : List bL}
end
end Go.Proofs.YtgeagiikkeiioaaGreat
namespace Go.Proofs.YtgeagiikkeiioaaGreat
def rsF (f : Nat → Nat → Rat) : Nat → Nat → Nat → Rat
 | 0 => f
 | k + 1 => fun i j => if k < i ∧ k ≤ j then rsF f k i j - rsF f k i k / rsF f k k k * rsF f k k j else rsF f k i j
def bk (f : Nat → Nat → Rat) (k : Nat) : Nat → Nat → Rat := fun a b => rsF f k (a + k) (b + k)
def pvs (f : Nat → Nat → Rat) : Nat → Rat
 | 0 => 1
 | k + 1 => pvs f k * bk f k 0 0
def qf (f : Nat → Nat → Rat) (v : Nat → Rat) (n k : Nat) : Rat := sm (n - k) (fun a => sm (n - k) (fun b => bk f k a b * v (a + k) * v (b + k)))
def yk (f : Nat → Nat → Rat) (v : Nat → Rat) (n k : Nat) : Rat := v k + sm (n - (k + 1)) (fun a => bk f k (a + 1) 0 / bk f k 0 0 * v (a + (k + 1)))
end Go.Proofs.YtgeagiikkeiioaaGreat
namespace Go.Proofs.YtgeagiikkeiioaaGreat
open Go Go.Fx
def qfr (A : Mt) (v : List Rat) (n : Nat) : Rat := sm n (fun t => v.getD t 0 * sm n (fun j => at2 A t j * v.getD j 0))
section
variable {X : List Nat} {w0 : World} {M0 : List Ent} {I0 : List bL}
theorem aCU {x y : RL} {u m : Nat} (hk : u + m + 1 ≤ 100000000000) (lx : x.es.length ≤ 1000) (ly : y.es.length ≤ 1000) (hx : Hv I0 (mF x u)) (hy : Hv I0 (mF y m)) :
  CD Tryz.prog 34 [lv x, lv y] X w0 M0 I0 (fun v M I => M0 = M ∧ I0 = I ∧ v = .bool (B (x.q = y.q))) := by
 refine zU hx (zU (φ := mF y m) (hy.cons) ?_)
 refine eD (φ := bP (x).p (recs eR (x).es)) (Hv.lsl aB) ?_
 refine eD (φ := bP (y).p (recs eR (y).es)) (Hv.lsl aB) ?_
 by_cases hlen : x.es.length = y.es.length
 ·refine bJ Tryz.func34 rfl Tryz.ntmps34 rfl ?_
  repeat (refine aK ?_)
  refine bH [0, 1] rfl (fun k G M I => ∃ i : Nat, i ≤ x.es.length ∧ k = x.es.length - i ∧ (∀ j : Nat, j < i → (gt x.es (j : Int)).q = (gt y.es (j : Int)).q) ∧ G = [(5, .int .i64 i)] ∧ M0 = M ∧ I = bP y.p (recs eR y.es) :: bP x.p (recs eR x.es) :: mF y m :: mF x u :: I0) (x.es.length) _ _ _ aV aF aG (⟨0, by omega, rfl, fun j hj => by omega, rfl, rfl, rfl⟩) ?_
  rintro kk G M I ⟨i, hi, rfl, hs, rfl, rfl, rfl⟩
  by_cases hi2 : i < x.es.length
  ·have hS := fun M0 I0 h1 h2 => aEQ (X := X) (w0 := w0) (M0 := M0) (I0 := I0) (a := gt x.es (i : Int)) (b := gt y.es (i : Int)) (k := u) (m := m) (by omega) h1 h2
   by_cases he : (gt x.es (i : Int)).q = (gt y.es (i : Int)).q
   ·rw [cO he] at hS
    repeat (refine aK ?_)
    (repeat refine aN ?_); refine dK 1 [0, 1, 2, 3, 4, 5, 6, 7, 8, 9] [1, 1, 1, 0, 1, 1, 1, 0, 0, 0] mixed (by kernel_rfl) ?_
    repeat (refine aK ?_)
    (refine aA rfl (hS _ _ (Hv.lel aB (by omega)) (Hv.lel aB (by omega))) rfl rfl ?_; rintro _ _ _ ⟨rfl, rfl, rfl⟩; refine ⟨okF, ?_⟩)
    repeat (refine aK ?_)
    refine aW (x.es.length - (i + 1)) _ _ _ (by first | omega | (simp only [List.length_append, List.length_cons, List.length_nil]; omega)) aV aF aG (⟨i + 1, by omega, rfl, fun j hj => ?_, rfl, rfl, rfl⟩)
    by_cases e : j = i
    ·subst e; exact he
    ·exact hs j (by omega)
   ·rw [bC he] at hS
    repeat (refine aK ?_)
    (repeat refine aN ?_); refine dK 1 [0, 1, 2, 3, 4, 5, 6, 7, 8, 9] [1, 1, 1, 0, 1, 1, 1, 0, 0, 0] mixed (by kernel_rfl) ?_
    repeat (refine aK ?_)
    (refine aA rfl (hS _ _ (Hv.lel aB (by omega)) (Hv.lel aB (by omega))) rfl rfl ?_; rintro _ _ _ ⟨rfl, rfl, rfl⟩; refine ⟨okF, ?_⟩)
    repeat (refine aK ?_)
    refine aU (by first | exact .inl rfl | exact .inr rfl) rfl rfl _ _ aF aG (⟨rfl, rfl, congrArg Value.bool (bC (fun e => he (q_at e hi2))).symm⟩)
  ·repeat (refine aK ?_)
   refine aU (by first | exact .inl rfl | exact .inr rfl) rfl rfl _ _ aF aG (⟨rfl, rfl, congrArg Value.bool (cO (q_ext hlen (fun j hj => hs j (by omega)))).symm⟩)
 ·refine bJ Tryz.func34 rfl Tryz.ntmps34 rfl ?_
  repeat (refine aK ?_)
  refine aU (by first | exact .inl rfl | exact .inr rfl) rfl rfl _ _ aF aG (⟨rfl, rfl, congrArg Value.bool (bC (fun e => hlen (by have := congrArg List.length e; simpa using this))).symm⟩)
end
end Go.Proofs.YtgeagiikkeiioaaGreat
namespace Go.Proofs.YtgeagiikkeiioaaGreat
open Go Go.Fx
open Go.ChangeShapes Go.WideShapes Go.RowKit Go.ChangeAt
section
variable {H : Type} {enc : TypeId × Value → H} {P : Program} {W : World}
end
section
variable {H : Type} {enc : TypeId × Value → H} {W : World}
end
end Go.Proofs.YtgeagiikkeiioaaGreat

/- The document's unit matrix, copy, sum, product, transposed matrix. -/
import Derived.Test.YtgeagiikkeiioaaGreatZgbd
import Derived.Test.YtgeagiikkeiioaaGreatZgaw
set_option linter.unusedSimpArgs false
set_option linter.unusedVariables false
set_option maxRecDepth 100000
set_option maxHeartbeats 4000000
namespace Go.Proofs.YtgeagiikkeiioaaGreat
open Go Go.Fx
section
variable {X : List Nat} {w0 : World} {M0 : List Ent} {I0 : List bA}
theorem aJB {n : Nat} (hn : 1 ≤ n ∧ n ≤ 100) : CD Tryz.prog 156 [.int .i64 (n : Int)] X w0 M0 I0 (MsP n n oO 0 M0 I0) := by
 have hW := fun M0 I0 => uF (X := X) (w0 := w0) (M0 := M0) (I0 := I0) (x := 1) (by decide)
 refine bE Tryz.func156 rfl Tryz.ntmps156 rfl ?_
 repeat (refine aK ?_)
 (refine aA rfl (aAV (R := n) (C := n) hn hn) rfl rfl ?_; rintro _ _ _ ⟨bo, co, tlo, rows0, rfl, hco, hs0, hp0, rfl, rfl⟩; refine ⟨okF, ?_⟩)
 repeat (refine aK ?_)
 refine aS [0, 3] rfl (fun k G M I => ∃ (i : Nat) (rows : List MS), i ≤ n ∧ k = n - i ∧ Shp rows n n ∧ Pw rows n n (fun a b => if a < i ∧ a = b then 1 else 0) ∧ G = [(4, .int .i64 i)] ∧ M = .blk bo (recs eS rows ++ tlo) 34 :: (rows.map gJ ++ M0) ∧ I = fG rows 0 :: I0) (n) _ _ _ aO aC aD (⟨0, rows0, by omega, rfl, hs0, fun a b ha hb => by (have h_ := hp0 a b ha hb; dsimp only at h_ ⊢; rw [h_, if_neg (by omega)]), rfl, rfl, rfl⟩) ?_
 rintro kk G M I ⟨i, rows, hi, rfl, hs, hp, rfl, rfl, rfl⟩
 have hlen := hs.len
 by_cases hin : i < n
 ·have hrow := hs.row hin
  repeat (refine aK ?_)
  (repeat refine aJ ?_); refine bK 1 [0, 1, 2, 3, 4, 5, 6, 7] [1, 1, 1, 1, 1, 0, 0, 0] mixed (by kernel_rfl) ?_
  repeat (refine aK ?_)
  (refine aA rfl (hW _ _) rfl rfl ?_; rintro _ _ _ ⟨rfl, e, rfl, he, rfl⟩; refine ⟨okF, ?_⟩)
  repeat (refine yXh ?_)
  refine fH (vs := eR e) rfl rfl rfl (Ones.one e) (repS (rows := rows) (i := i) (r' := upR (gt rows (i : Int)) i e) (by omega)) (StAts.app (StAts.r (enc := eR) (ms := (gt rows (i : Int)).es) (i := (i : Int)) e (by omega) rfl)) rfl rfl ⟨okF, ?_⟩
  rw [wO]
  refine iA (φ := fG (upS rows i i e) 0) (Hv.upS hs hin aB aB) ?_
  rw [← uB (i := i) (j := i) (e := e) hs hin]
  repeat (refine aK ?_)
  refine aM (n - (i + 1)) _ _ _ (by first | omega | (simp only [List.length_append, List.length_cons, List.length_nil]; omega)) aO aC aD (⟨i + 1, upS rows i i e, by omega, rfl, hs.up hin, hp.up hs hin hin (fun a b ha hb => ?_), rfl, rfl, rfl⟩)
  try dsimp only
  by_cases e1 : a = i ∧ b = i
  ·rw [if_pos e1, if_pos (by omega), he]; rfl
  ·rw [if_neg e1]
   by_cases e2 : a < i ∧ a = b
   ·rw [if_pos e2, if_pos (by omega)]
   ·rw [if_neg e2, if_neg (by omega)]
 ·obtain rfl : i = n := by omega
  repeat (refine aK ?_)
  refine aH (by first | exact .inl rfl | exact .inr rfl) rfl rfl _ _ aC aD (⟨bo, co, tlo, rows, rfl, hco, hs, fun a b ha hb => ?_, rfl, rfl⟩)
  have h_ := hp a b ha hb
  dsimp only at h_
  rw [h_]
  unfold oO
  by_cases e : a = b
  ·rw [if_pos e, if_pos ⟨ha, e⟩]
  ·rw [if_neg e, if_neg (fun x => e x.2)]
theorem aOK {a : MX} {R C k0 : Nat} (hR : 1 ≤ R ∧ R ≤ 100) (hC : 1 ≤ C ∧ C ≤ 100) (da : a.dim R C) (ha : gD a k0 ∈ I0) : CD Tryz.prog 157 [mv a] X w0 M0 I0 (MsP R C (at2 a.q) k0 M0 I0) := by
 have hl := da.1
 refine kM (φ := ∀ r ∈ a.rows, Cap r.p r.es.length r.c) (fun w hw r hr => ((((hw.imm _ ha).2 : IsX a k0 _ w)).row r hr).cap) (fun hcap => ?_)
 refine bQ (φ := aT (a).p (recs eL (a).rows)) (Hv.xsl aB) ?_
 refine bE Tryz.func157 rfl Tryz.ntmps157 rfl ?_
 repeat (refine aK ?_)
 (refine aL (cs := recs eS []) ([]) rfl rfl (by intro v hv; repeat (first | exact absurd hv (List.not_mem_nil) | (rcases List.mem_cons.1 hv with rfl | hv; · rfl))) (by omega) rfl rfl rfl ?_; intro bo; refine ⟨okF, ?_⟩; refine iJ (mm := 0) 1 .here rfl (by omega) ?_)
 repeat (refine aK ?_)
 refine bL (φ := fG [] k0) Hv.nilS ?_
 refine aS [0] rfl (fun k G M I => ∃ (i : Nat) (rows : List MS) (q : Option Addr) (c : Nat), i ≤ R ∧ k = R - i ∧ Shp rows i C ∧ Pw rows i C (at2 a.q) ∧ G = [(3, .slice q rows.length c), (4, .int .i64 i)] ∧ M = .row q rows.length c (recs eS rows) 34 1 :: (rows.map gJ ++ M0) ∧ I = fG rows k0 :: aT a.p (recs eL a.rows) :: I0) (R) _ _ _ aO aC aD (⟨0, [], _, _, by omega, rfl, ⟨rfl, fun r hr => by simp at hr⟩, fun i j hi => by omega, rfl, rfl, rfl⟩) ?_
 rintro kk G M I ⟨i, rows, q, c, hi, rfl, hs, hp, rfl, rfl, rfl⟩
 have hlen := hs.len
 by_cases hiR : i < R
 ·have hrow := da.row hiR
  have hcp := (hcap _ (cZ (ms := a.rows) (i := (i : Int)) (by omega))).2
  refine bL (φ := aT (gt (a).rows (i : Int)).p (recs eR (gt (a).rows (i : Int)).es)) (Hv.xrsl aB (by omega)) ?_
  refine bL (φ := cK (gt a.rows (i : Int)).es k0) ⟨fun X w hw => ⟨((hw _ (by exact aB) : IsX a k0 X w).row _ (cZ (by omega))).el⟩⟩ ?_
  repeat (refine aK ?_)
  (refine aL (cs := recs eR []) ([]) rfl rfl (by intro v hv; repeat (first | exact absurd hv (List.not_mem_nil) | (rcases List.mem_cons.1 hv with rfl | hv; · rfl))) (by omega) rfl rfl rfl ?_; intro bl; refine ⟨okF, ?_⟩; refine iJ (mm := 0) 4 .here rfl (by omega) ?_)
  repeat (refine aK ?_)
  (refine aX (enc := eR) (xs := []) (ys := (gt a.rows (i : Int)).es) 0 rfl rfl rfl (Src.imm aB hcp) (by decide) rfl (by rw [List.length_nil]; omega) (by rw [List.length_nil]; omega) rfl rfl ?_; intro q1 c1; refine ⟨okF, ?_⟩)
  rw [List.nil_append]
  refine aCR (fun h0 h1 h2 => by omega) (fun b tl h1 h2 => ?_)
  subst h1
  (refine aL (cs := recs eS [(⟨b, c1, (gt a.rows (i : Int)).es, tl⟩ : MS)]) ([.slice (some ⟨b, 0, none⟩) (gt a.rows (i : Int)).es.length c1]) rfl rfl (by intro v hv; repeat (first | exact absurd hv (List.not_mem_nil) | (rcases List.mem_cons.1 hv with rfl | hv; · rfl))) (by omega) rfl rfl rfl ?_; intro bb; refine ⟨okF, ?_⟩)
  (refine aX (ys := [(⟨b, c1, (gt a.rows (i : Int)).es, tl⟩ : MS)]) 2 rfl rfl rfl ?_ (by decide) rfl (by omega) (by omega) rfl rfl ?_; (· first | exact Src.blk aB | exact Src.row aB | exact Src.imm aB (by first | assumption | exact .inl (Ok.mk _ _))); intro q2 c2; refine ⟨okF, ?_⟩)
  repeat (refine aK ?_)
  refine fM (φ := fG (rows ++ [(⟨b, c1, (gt a.rows (i : Int)).es, tl⟩ : MS)]) k0) (Hv.snocS aB (Hv.mem aB)) ?_
  refine aQS (M' := .blk b (recs eR (gt a.rows (i : Int)).es ++ tl) 42 :: .row q2 (rows ++ [(⟨b, c1, (gt a.rows (i : Int)).es, tl⟩ : MS)]).length c2 (recs eS (rows ++ [(⟨b, c1, (gt a.rows (i : Int)).es, tl⟩ : MS)])) 34 1 :: (rows.map gJ ++ M0)) (I' := fG (rows ++ [(⟨b, c1, (gt a.rows (i : Int)).es, tl⟩ : MS)]) k0 :: aT a.p (recs eL a.rows) :: I0) (SubP.drop SubP.refl) aD ?_
  refine wN (M' := .row q2 (rows ++ [(⟨b, c1, (gt a.rows (i : Int)).es, tl⟩ : MS)]).length c2 (recs eS (rows ++ [(⟨b, c1, (gt a.rows (i : Int)).es, tl⟩ : MS)])) 34 1 :: ((rows ++ [(⟨b, c1, (gt a.rows (i : Int)).es, tl⟩ : MS)]).map gJ ++ M0)) (by rw [List.map_append (f := gJ)]; exact xQ) ?_
  refine aM (R - (i + 1)) _ _ _ (by first | omega | (simp only [List.length_append, List.length_cons, List.length_nil]; omega)) aO aC aD (⟨i + 1, rows ++ [(⟨b, c1, (gt a.rows (i : Int)).es, tl⟩ : MS)], q2, c2, by omega, rfl, ⟨by simp [hlen], fun r hr => ?_⟩, fun i' j' h1' h2' => ?_, rfl, rfl, rfl⟩)
  ·rcases List.mem_append.1 hr with h | h
   ·exact hs.col r h
   ·rw [List.mem_singleton.1 h]; exact ⟨hrow, by show C ≤ c1; omega⟩
  ·by_cases e1 : i' < i
   ·have : gt (rows ++ [(⟨b, c1, (gt a.rows (i : Int)).es, tl⟩ : MS)]) (i' : Int) = gt rows (i' : Int) := by rw [dY (by simp; omega), List.getElem_append_left (by omega)]; exact (dY (by omega)).symm
    rw [this]; exact hp i' j' e1 h2'
   ·have : gt (rows ++ [(⟨b, c1, (gt a.rows (i : Int)).es, tl⟩ : MS)]) (i' : Int) = ⟨b, c1, (gt a.rows (i : Int)).es, tl⟩ := tT (A := rows) (B := []) (by omega)
    rw [this]
    obtain rfl : i' = i := by omega
    exact (nK (m := a) (by omega) (by omega)).symm
 ·obtain rfl : i = R := by omega
  repeat (refine aK ?_)
  refine aDI (fun h0 h1 h2 => by omega) (fun b tl h1 h2 => ?_)
  subst h1
  refine aH (by first | exact .inl rfl | exact .inr rfl) rfl rfl _ _ aC aD (⟨b, c, tl, rows, by rw [hlen], by omega, hs, hp, rfl, rfl⟩)
end
end Go.Proofs.YtgeagiikkeiioaaGreat

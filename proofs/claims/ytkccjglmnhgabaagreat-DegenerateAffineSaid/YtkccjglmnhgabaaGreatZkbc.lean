/- The document's unit matrix, copy, sum, product, transposed matrix. -/
import Derived.Test.YtkccjglmnhgabaaGreatZkbb
import Derived.Test.YtkccjglmnhgabaaGreatZkam
set_option linter.unusedSimpArgs false
set_option linter.unusedVariables false
set_option maxRecDepth 100000
set_option maxHeartbeats 4000000
namespace Go.Proofs.YtkccjglmnhgabaaGreat
open Go Go.Fx
section
variable {X : List Nat} {w0 : World} {M0 : List Ent} {I0 : List aZ}
theorem aQO {a : MX} {R C k0 : Nat} (hR : 1 ≤ R ∧ R ≤ 100) (hC : 1 ≤ C ∧ C ≤ 100) (da : a.dim R C) (ha : kM a k0 ∈ I0) : CD Tryz.prog 123 [mv a] X w0 M0 I0 (MsP R C (at2 a.q) k0 M0 I0) := by
 have hl := da.1
 refine oM (φ := ∀ r ∈ a.rows, Cap r.p r.es.length r.c) (fun w hw r hr => ((((hw.imm _ ha).2 : IsX a k0 _ w)).row r hr).cap) (fun hcap => ?_)
 refine eQ (φ := aV (a).p (recs eL (a).rows)) (Hv.xsl aB) ?_
 refine bA Tryz.func123 rfl Tryz.ntmps123 rfl ?_
 repeat (refine aL ?_)
 (refine aW (cs := recs eS []) ([]) rfl rfl (by intro v hv; repeat (first | exact absurd hv (List.not_mem_nil) | (rcases List.mem_cons.1 hv with rfl | hv; · rfl))) (by omega) rfl rfl rfl ?_; intro bo; refine ⟨okF, ?_⟩; refine jN (mm := 0) 1 .here rfl (by omega) ?_)
 repeat (refine aL ?_)
 refine fP (φ := jU [] k0) Hv.nilS ?_
 refine aR [0] rfl (fun k G M I => ∃ (i : Nat) (rows : List MS) (q : Option Addr) (c : Nat), i ≤ R ∧ k = R - i ∧ Shp rows i C ∧ Pw rows i C (at2 a.q) ∧ G = [(3, .slice q rows.length c), (4, .int .i64 i)] ∧ M = .row q rows.length c (recs eS rows) 39 1 :: (rows.map kF ++ M0) ∧ I = jU rows k0 :: aV a.p (recs eL a.rows) :: I0) (R) _ _ _ aS aF aD (⟨0, [], _, _, by omega, rfl, ⟨rfl, fun r hr => by simp at hr⟩, fun i j hi => by omega, rfl, rfl, rfl⟩) ?_
 rintro kk G M I ⟨i, rows, q, c, hi, rfl, hs, hp, rfl, rfl, rfl⟩
 have hlen := hs.len
 by_cases hiR : i < R
 ·have hrow := da.row hiR
  have hcp := (hcap _ (eO (ms := a.rows) (i := (i : Int)) (by omega))).2
  refine fP (φ := aV (gt (a).rows (i : Int)).p (recs eR (gt (a).rows (i : Int)).es)) (Hv.xrsl aB (by omega)) ?_
  refine fP (φ := dW (gt a.rows (i : Int)).es k0) ⟨fun X w hw => ⟨((hw _ (by exact aB) : IsX a k0 X w).row _ (eO (by omega))).el⟩⟩ ?_
  repeat (refine aL ?_)
  (refine aW (cs := recs eR []) ([]) rfl rfl (by intro v hv; repeat (first | exact absurd hv (List.not_mem_nil) | (rcases List.mem_cons.1 hv with rfl | hv; · rfl))) (by omega) rfl rfl rfl ?_; intro bl; refine ⟨okF, ?_⟩; refine jN (mm := 0) 4 .here rfl (by omega) ?_)
  repeat (refine aL ?_)
  (refine eP (enc := eR) (xs := []) (ys := (gt a.rows (i : Int)).es) 0 rfl rfl rfl (Src.imm aB hcp) (by decide) rfl (by rw [List.length_nil]; omega) (by rw [List.length_nil]; omega) rfl rfl ?_; intro q1 c1; refine ⟨okF, ?_⟩)
  rw [List.nil_append]
  refine yH (fun h0 h1 h2 => by omega) (fun b tl h1 h2 => ?_)
  subst h1
  (refine aW (cs := recs eS [(⟨b, c1, (gt a.rows (i : Int)).es, tl⟩ : MS)]) ([.slice (some ⟨b, 0, none⟩) (gt a.rows (i : Int)).es.length c1]) rfl rfl (by intro v hv; repeat (first | exact absurd hv (List.not_mem_nil) | (rcases List.mem_cons.1 hv with rfl | hv; · rfl))) (by omega) rfl rfl rfl ?_; intro bb; refine ⟨okF, ?_⟩)
  (refine eP (ys := [(⟨b, c1, (gt a.rows (i : Int)).es, tl⟩ : MS)]) 2 rfl rfl rfl ?_ (by decide) rfl (by omega) (by omega) rfl rfl ?_; (· first | exact Src.blk aB | exact Src.row aB | exact Src.imm aB (by first | assumption | exact .inl (Ok.mk _ _))); intro q2 c2; refine ⟨okF, ?_⟩)
  repeat (refine aL ?_)
  refine kD (φ := jU (rows ++ [(⟨b, c1, (gt a.rows (i : Int)).es, tl⟩ : MS)]) k0) (Hv.snocS aB (Hv.mem aB)) ?_
  refine sW (M' := .blk b (recs eR (gt a.rows (i : Int)).es ++ tl) 37 :: .row q2 (rows ++ [(⟨b, c1, (gt a.rows (i : Int)).es, tl⟩ : MS)]).length c2 (recs eS (rows ++ [(⟨b, c1, (gt a.rows (i : Int)).es, tl⟩ : MS)])) 39 1 :: (rows.map kF ++ M0)) (I' := jU (rows ++ [(⟨b, c1, (gt a.rows (i : Int)).es, tl⟩ : MS)]) k0 :: aV a.p (recs eL a.rows) :: I0) (SubP.drop SubP.refl) aD ?_
  refine uQ (M' := .row q2 (rows ++ [(⟨b, c1, (gt a.rows (i : Int)).es, tl⟩ : MS)]).length c2 (recs eS (rows ++ [(⟨b, c1, (gt a.rows (i : Int)).es, tl⟩ : MS)])) 39 1 :: ((rows ++ [(⟨b, c1, (gt a.rows (i : Int)).es, tl⟩ : MS)]).map kF ++ M0)) (by rw [List.map_append (f := kF)]; exact aDR) ?_
  refine aJ (R - (i + 1)) _ _ _ (by first | omega | (simp only [List.length_append, List.length_cons, List.length_nil]; omega)) aS aF aD (⟨i + 1, rows ++ [(⟨b, c1, (gt a.rows (i : Int)).es, tl⟩ : MS)], q2, c2, by omega, rfl, ⟨by simp [hlen], fun r hr => ?_⟩, fun i' j' h1' h2' => ?_, rfl, rfl, rfl⟩)
  ·rcases List.mem_append.1 hr with h | h
   ·exact hs.col r h
   ·rw [List.mem_singleton.1 h]; exact ⟨hrow, by show C ≤ c1; omega⟩
  ·by_cases e1 : i' < i
   ·have : gt (rows ++ [(⟨b, c1, (gt a.rows (i : Int)).es, tl⟩ : MS)]) (i' : Int) = gt rows (i' : Int) := by rw [cK (by simp; omega), List.getElem_append_left (by omega)]; exact (cK (by omega)).symm
    rw [this]; exact hp i' j' e1 h2'
   ·have : gt (rows ++ [(⟨b, c1, (gt a.rows (i : Int)).es, tl⟩ : MS)]) (i' : Int) = ⟨b, c1, (gt a.rows (i : Int)).es, tl⟩ := aIU (A := rows) (B := []) (by omega)
    rw [this]
    obtain rfl : i' = i := by omega
    exact (aDO (m := a) (by omega) (by omega)).symm
 ·obtain rfl : i = R := by omega
  repeat (refine aL ?_)
  refine aMN (fun h0 h1 h2 => by omega) (fun b tl h1 h2 => ?_)
  subst h1
  refine aG (by first | exact .inl rfl | exact .inr rfl) rfl rfl _ _ aF aD (⟨b, c, tl, rows, by rw [hlen], by omega, hs, hp, rfl, rfl⟩)
end
end Go.Proofs.YtkccjglmnhgabaaGreat

/- Critical of the program. The example of chapter 31. -/
import Derived.Test.YtkccjglmnhgabaaGreatDoorZqbi
import Derived.Test.YtkccjglmnhgabaaGreatDoorZqam
import Derived.Test.YtkccjglmnhgabaaGreatDoorZqbl
set_option linter.unusedSimpArgs false
set_option linter.unusedVariables false
set_option maxRecDepth 100000
set_option maxHeartbeats 4000000
namespace Go.Proofs.YtkccjglmnhgabaaGreatDoor
open Go Go.Fx
def qN (i : Nat) : Nat → Bool := fun k => decide (k ≠ i)
def aAI (A : Mt) (R n i : Nat) : Bool := decide (rk (pY A ((List.range R).filter (qN i))) n < rk A n)
def tL (A : Mt) (R n m : Nat) : List Nat := (List.range m).filter (aAI A R n)
theorem aIG {A : Mt} {R n m : Nat} : tL A R n (m + 1) = if aAI A R n m then tL A R n m ++ [m] else tL A R n m := by
 unfold tL
 rw [List.range_succ, List.filter_append]
 by_cases h : aAI A R n m = true
 ·rw [if_pos h]; simp [h]
 ·rw [if_neg h]; simp [h]
theorem aPM {A : Mt} {R n m : Nat} : (tL A R n m).length ≤ m := by
 unfold tL
 exact Nat.le_trans (List.length_filter_le _ _) (by simp)
theorem aPE {A : Mt} {R n i : Nat} (hA : kK A R n) : aAI A R n i = decide ((jX A (qN i) R).1.length < rk A n) := by
 unfold aAI
 rw [aOK hA (Nat.le_refl R)]
theorem aLX {A : Mt} {R n i k : Nat} (hA : kK A R n) (hk : k ≤ R) (h : (jX A (qN i) k).1.length = rk A n) : aAI A R n i = false := by
 unfold aAI
 rw [aOK hA hk] at h
 have := aRV hA (ix := (List.range k).filter (qN i)) (jx := (List.range R).filter (qN i)) (fun j hj => List.mem_range.1 (List.mem_filter.1 hj).1) (fun j hj => List.mem_filter.2 ⟨List.mem_range.2 (by have := List.mem_range.1 (List.mem_filter.1 hj).1; omega), (List.mem_filter.1 hj).2⟩)
 simp only [decide_eq_false_iff_not]; omega
section
variable {X : List Nat} {w0 : World} {M0 M1 : List Ent} {I0 : List bB}
theorem aTI {m : MX} {R n u : Nat} (dm : m.fit R n) (hn12 : n ≤ 100) (hb : kb u n ≤ 20000000000) (hm : jC m u ∈ I0) :
  CD Tryz.prog 16 [mv m] X w0 M0 I0 (fun v M I => M0 = M ∧ ∃ q c, v = .tuple #[.slice q (tL m.q R n R).length c, .int .i64 0] ∧ I = aW q (recs eZ (zs (tL m.q R n R))) :: I0) := by
 have lR := dm.1.1
 obtain ⟨r1, r2⟩ := dm.2.1
 obtain ⟨c1, c2⟩ := dm.2.2
 have hdL := oV dm.1
 refine oL (fun w hw => Mem.xsml hm dm (by have := iO u (Nat.zero_le n); exact Nat.le_trans this hb) hw) (fun sa => ?_)
 have hC := fun M0 I0 h => uC (X := X) (w0 := w0) (M0 := M0) (I0 := I0) (m := m.raw) sa h
 have e0 : m.raw.code = 0 := by unfold WM.code; rw [if_pos dm.ok]
 rw [e0, vE] at hC
 have hrk := fun M0 I0 h => aJW (X := X) (w0 := w0) (M0 := M0) (I0 := I0) (m := m) (R := R) (n := n) (u := u) dm.1 ⟨c1, by omega⟩ (by omega) (by omega) h
 have hall : (jX m.q qT R).1.length = rk m.q n := sD hdL
 rw [hall] at hrk
 obtain ⟨al, hal⟩ : ∃ z, rk m.q n = z := ⟨_, rfl⟩
 rw [hal] at hrk
 have hal2 : al ≤ n := by rw [← hal]; exact aES hdL
 refine eQ (φ := jC m u) (Hv.mem hm) ?_
 refine eQ (φ := uT m.raw) (Hv.xraw (List.Mem.head _) (by have := iO u (Nat.zero_le n); exact Nat.le_trans this hb)) ?_
 refine eQ (φ := aW (m).p (recs eL (m).rows)) (Hv.xsl aB) ?_
 refine bC Tryz.func16 rfl Tryz.ntmps16 rfl ?_
 repeat (refine aK ?_)
 refine aQJ ?_
 repeat (refine aK ?_)
 (refine aA rfl (hC _ _ aB) rfl rfl ?_; rintro _ _ _ ⟨rfl, rfl, rfl⟩; refine ⟨okF, ?_⟩)
 repeat (refine aK ?_)
 (refine aA rfl (hrk _ _ aB) rfl rfl ?_; rintro _ _ _ ⟨rfl, rfl, rfl⟩; refine ⟨okF, ?_⟩)
 repeat (refine aK ?_)
 rw [lR]
 refine jR 3 1 ?_
 refine aT [0, 5, 19] rfl (fun k G M I => ∃ (i : Nat) (qx : Option Addr) (cx : Nat) (xs : List Int), i ≤ R ∧ k = R - i ∧ xs = zs (tL m.q R n i) ∧ G = [(6, .slice qx xs.length cx), (20, .int .i64 i)] ∧ M = .row qx xs.length cx (recs eZ xs) 3 1 :: M0 ∧ I = aW m.p (recs eL m.rows) :: uT m.raw :: jC m u :: I0) (R) _ _ _ aQ aF aD (⟨0, none, 0, [], by omega, rfl, rfl, rfl, rfl, rfl⟩) ?_
 rintro kk G M I ⟨i, qx, cx, xs, hi, rfl, hxs, rfl, rfl, rfl⟩
 have hxl : xs.length ≤ 100 := by rw [hxs, nP]; have := aPM (A := m.q) (R := R) (n := n) (m := i); omega
 by_cases hin : i < R
 ·have hsc := aIG (A := m.q) (R := R) (n := n) (m := i)
  repeat (refine aK ?_)
  (refine aC rfl (fun _ => dE (pvs := ([]).zipIdx.map (fun p => (p.2, p.1))) (cells := [.slice none 0 0, .slice none 0 0]) rfl rfl) rfl rfl ?_)
  (refine aX rfl rfl rfl ?_; intro ps; refine ⟨okF, ?_⟩)
  repeat (refine aK ?_)
  rw [lR]
  refine jR 3 1 ?_
  refine jR 48 1 ?_
  refine fI (φ := allK [] u) Hv.nilK ?_
  refine aT [0, 5, 6, 7, 8, 19, 20, 25, 26] rfl (fun k G M I => ∃ (t : Nat) (a b : Option Addr) (c0 c2 : Nat) (rows : List RL) (pz : List Int), t ≤ R ∧ k = R - t ∧ rows.map RL.q = mtS (jX m.q (qN i) t).1 ∧ pz = zs (pvS (jX m.q (qN i) t).1) ∧ G = [(27, .int .i64 t)] ∧ M = .row a rows.length c0 (recs eL rows) 48 1 :: .row b pz.length c2 (recs eZ pz) 3 1 :: .blk ps [.slice a rows.length c0, .slice b pz.length c2] 74 :: .row qx xs.length cx (recs eZ xs) 3 1 :: M0 ∧ I = allK rows u :: aW m.p (recs eL m.rows) :: uT m.raw :: jC m u :: I0) (R) _ _ _ aQ aF aD (⟨0, none, none, 0, 0, [], [], by omega, rfl, rfl, rfl, rfl, rfl, rfl⟩) ?_
  rintro kk G M I ⟨t, a, b, c0, c2, rows, pz, ht, rfl, hr, hz, rfl, rfl, rfl⟩
  have hI := oC (q := qN i) hdL (k := t) (by omega)
  have hle := vM hI
  have hku := iO u hle
  by_cases htR : t < R
  ·by_cases hti : t = i
   ·have hq : qN i t = false := by unfold qN; simp [hti]
    have hs := aEX (A := m.q) hq
    repeat (refine aK ?_)
    refine aG (R - (t + 1)) _ _ _ (by first | omega | (simp only [List.length_append, List.length_cons, List.length_nil]; omega)) aQ aF aD (⟨t + 1, a, b, c0, c2, rows, pz, by omega, rfl, by rw [hs]; exact hr, by rw [hs]; exact hz, rfl, rfl, rfl⟩)
   ·have hq : qN i t = true := by unfold qN; simp [hti]
    have hs := wV (A := m.q) hq
    rw [aAZ (m := m) (i := t) (by omega)] at hs
    have hrow := dm.1.row (i := t) htR
    have hstop := aLX (i := i) (k := t + 1) hdL (by omega)
    rw [hs, hal] at hstop
    obtain ⟨sp, hsp⟩ : ∃ sp, (jX m.q (qN i) t).1 = sp := ⟨_, rfl⟩
    rw [hsp] at hr hz hI hle hku hs hstop
    have hA := fun M1 I0 hx ha => aDM (X := X) (w0 := w0) (M1 := M1) (I0 := I0) (p := ps) (a := a) (b := b) (c := c0) (c2 := c2) (n := n) (u := u) (x := gt m.rows (t : Int)) (sp := sp) ⟨c1, by omega⟩ (by omega) (by omega) hrow hI hr hz hx ha
    obtain ⟨bb, hbb⟩ : ∃ bb, (adS sp (gt m.rows (t : Int)).q).1 = bb := ⟨_, rfl⟩
    rw [hbb] at hA
    refine fI (φ := nV (gt m.rows (t : Int)) u) (Hv.xrow aB (by omega)) ?_
    repeat (refine aK ?_)
    cases bb with
    | false =>
     (refine aA rfl (hA _ _ aB aB) rfl rfl ?_; rintro _ _ _ ⟨a1, b1, d1, d2, rows1, pz1, rfl, rfl, rfl, hr1, hz1⟩; refine ⟨okF, ?_⟩)
     repeat (refine aK ?_)
     refine aG (R - (t + 1)) _ _ _ (by first | omega | (simp only [List.length_append, List.length_cons, List.length_nil]; omega)) aQ aF aD (⟨t + 1, a1, b1, d1, d2, rows1, pz1, by omega, rfl, by rw [hs]; exact hr1, by rw [hs]; exact hz1, rfl, rfl, rfl⟩)
    | true =>
     (refine aA rfl (hA _ _ aB aB) rfl rfl ?_; rintro _ _ _ ⟨a1, b1, d1, d2, rows1, pz1, rfl, rfl, rfl, hr1, hz1⟩; refine ⟨okF, ?_⟩)
     have lz : pz1.length = (adS sp (gt m.rows (t : Int)).q).2.length := by rw [hz1, nP, oD]
     by_cases hst : pz1.length = al
     ·have hcr := hstop (by rw [← lz]; exact hst)
      rw [hcr] at hsc
      simp only [Bool.false_eq_true, if_false] at hsc
      repeat (refine aK ?_)
      refine aG (R - (i + 1)) _ _ _ (by first | omega | (simp only [List.length_append, List.length_cons, List.length_nil]; omega)) aQ aF aD (⟨i + 1, qx, cx, xs, by omega, rfl, by rw [hsc]; exact hxs, rfl, rfl, rfl⟩)
     ·repeat (refine aK ?_)
      refine aG (R - (t + 1)) _ _ _ (by first | omega | (simp only [List.length_append, List.length_cons, List.length_nil]; omega)) aQ aF aD (⟨t + 1, a1, b1, d1, d2, rows1, pz1, by omega, rfl, by rw [hs]; exact hr1, by rw [hs]; exact hz1, rfl, rfl, rfl⟩)
  ·obtain rfl : t = R := by omega
   have lz : pz.length = (jX m.q (qN i) t).1.length := by rw [hz, nP, oD]
   have hce := aPE (i := i) hdL
   rw [← lz, hal] at hce
   by_cases hlt : pz.length < al
   ·rw [hce, decide_eq_true hlt, if_pos rfl] at hsc
    repeat (refine aK ?_)
    (refine aP (cs := recs eZ [(i : Int)]) ([.int .i64 (i : Int)]) rfl rfl (by intro v hv; repeat (first | exact absurd hv (List.not_mem_nil) | (rcases List.mem_cons.1 hv with rfl | hv; · rfl))) (by omega) rfl rfl rfl ?_; intro bv; refine ⟨okF, ?_⟩)
    (refine dC (ys := [(i : Int)]) 4 rfl rfl rfl ?_ (by decide) rfl (by omega) (by omega) rfl rfl ?_; (· first | exact Src.blk aB | exact Src.row aB | exact Src.imm aB (by first | assumption | exact .inl (Ok.mk _ _))); intro q2 cx2; refine ⟨okF, ?_⟩)
    repeat (refine aK ?_)
    refine aG (t - (i + 1)) _ _ _ (by first | omega | (simp only [List.length_append, List.length_cons, List.length_nil]; omega)) aQ aF aD (⟨i + 1, q2, cx2, xs ++ [(i : Int)], by omega, rfl, by rw [hsc, hxs]; simp, rfl, rfl, rfl⟩)
   ·rw [hce, decide_eq_false hlt] at hsc
    simp only [Bool.false_eq_true, if_false] at hsc
    repeat (refine aK ?_)
    refine aG (t - (i + 1)) _ _ _ (by first | omega | (simp only [List.length_append, List.length_cons, List.length_nil]; omega)) aQ aF aD (⟨i + 1, qx, cx, xs, by omega, rfl, by rw [hsc]; exact hxs, rfl, rfl, rfl⟩)
 ·obtain rfl : i = R := by omega
  have lx : xs.length = (tL m.q i n i).length := by rw [hxs, nP]
  rw [← lx, ← hxs]
  repeat (refine aK ?_)
  refine vJ .here ?_
  refine aVT ?_
  refine iD [2, 3] (by first | exact .inl rfl | exact .inr rfl) rfl rfl rfl _ _ aF aD (⟨rfl, qx, cx, rfl, rfl⟩)
end
end Go.Proofs.YtkccjglmnhgabaaGreatDoor
namespace Go.Proofs.YtkccjglmnhgabaaGreatDoor
open Go Go.Fx
def aLT : Mt := [kP [1, 2, 3], kP [2, 4, 6], kP [0, 1, 1]]
def kK31 : Mt := [kP [-1, -1, 1]]
def kS31 : List S3 := [⟨0, 0, 0⟩, ⟨1, 1, 1⟩, ⟨2, 2, 2⟩]
theorem aUW : (jX aLT qT 3).1.length = 2 := by kernel_rfl
theorem aUQ : tL aLT 3 3 3 = [2] := by kernel_rfl
theorem aTH : (jX (kS31.map sV) qT 3).1.length = 2 := by kernel_rfl
theorem aVR : iZ kS31 = 0 := by kernel_rfl
theorem k_det : dt 2 (at2 (mnr aLT [0, 2] [0, 1])) = 1 := by kernel_rfl
theorem k_rk : rk kK31 3 = 1 := by kernel_rfl
theorem k_dot : (List.range 3).all (fun i => decide (aIP 3 (rowAt aLT i) (rowAt kK31 0) = 0)) = true := by kernel_rfl
theorem tQ {r : RL} {l : List Int} (h : r.q = kP l) : r.es.length = l.length := by have := congrArg List.length h; simpa [RL.q, qs, kP] using this
theorem Hv.x3 {I : List bB} {b k : Nat} {r1 r2 r3 : RL} (h : aW (some ⟨b, 0, none⟩) (recs eL [r1, r2, r3]) ∈ I) (h1 : nV r1 k ∈ I) (h2 : nV r2 k ∈ I) (h3 : nV r3 k ∈ I) : Hv I (jC ⟨some ⟨b, 0, none⟩, 3, [r1, r2, r3]⟩ k) := ⟨fun X w hw => ⟨(hw _ h : SlI _ _ X w).go, fun r hr => by
 simp only [List.mem_cons, List.not_mem_nil, or_false] at hr
 rcases hr with rfl | rfl | rfl
 ·exact hw _ h1
 ·exact hw _ h2
 ·exact hw _ h3, ⟨Nat.le_refl _, .inl (Ok.mk _ _)⟩⟩⟩
theorem Hv.x1 {I : List bB} {b k : Nat} {r1 : RL} (h : aW (some ⟨b, 0, none⟩) (recs eL [r1]) ∈ I) (h1 : nV r1 k ∈ I) : Hv I (jC ⟨some ⟨b, 0, none⟩, 1, [r1]⟩ k) := ⟨fun X w hw => ⟨(hw _ h : SlI _ _ X w).go, fun r hr => by
 rw [List.mem_singleton.1 hr]; exact hw _ h1, ⟨Nat.le_refl _, .inl (Ok.mk _ _)⟩⟩⟩
theorem sml3 {l : List Int} (h : ∀ x ∈ l, x.natAbs ≤ 8) : ∀ x ∈ l, (-9223372036854775808 ≤ x ∧ x ≤ 9223372036854775807) ∧ x.natAbs ≤ 2 ^ 3 := fun x hx => by
 have := h x hx
 have e : 2 ^ 3 = 8 := rfl
 omega
theorem k_chk {e : KE} (h1 : e.ri = [0, 2]) (h2 : e.ci = [0, 1]) (h3 : e.d.q = 1) (h4 : e.kn.q = kK31) (h5 : ∀ x ∈ e.kn.rows, x.es.length = 3) : nN 3 3 2 e.raw = 0 ∧ prV aLT 3 3 e ∧ nN 3 3 1 e.raw = 4 := by
 have hkl := aUO h4
 have e1 : e.raw.ri = [0, 2] := h1
 have e2 : e.raw.ci = [0, 1] := h2
 refine ⟨aUM (by omega) (by rw [e1, e2]; decide) ⟨by rw [e1]; decide, by rw [e2]; decide⟩ ⟨by rw [e1]; decide, by rw [e2]; decide⟩ ⟨?_, ?_⟩ ⟨aLF _, ?_⟩, ?_, aNT (by omega) (by rw [e1, e2]; decide)⟩
 ·show ((e.kn.rows.map RL.raw).length : Int) = _
  rw [List.length_map, hkl]; rfl
 ·intro v hv
  obtain ⟨r, hr, rfl⟩ := List.mem_map.1 (show v ∈ e.kn.rows.map RL.raw from hv)
  show (r.es.map RE.raw).length = 3
  rw [List.length_map]; exact h5 r hr
 ·intro v hv
  obtain ⟨r, hr, rfl⟩ := List.mem_map.1 (show v ∈ e.kn.rows.map RL.raw from hv)
  exact r.raw_good
 ·unfold prV
  rw [h1, h2, h3, h4]
  refine ⟨by decide, k_det.symm, k_rk, fun t ht i hi => ?_⟩
  have h0 : t = 0 := by have := List.mem_range.1 ht; simp at this; omega
  subst h0
  exact of_decide_eq_true (List.all_eq_true.1 k_dot i hi)
theorem aWF {e : KE} {k : Nat} {X : List Nat} {w0 w : World} {M : List Ent} {I : List bB} (h : isKE e k ∈ I) (hk : k ≤ 20000000000) (hr : e.kn.rows.length ≤ 1000) (hc : ∀ r ∈ e.kn.rows, r.es.length ≤ 1000) (hw : Mem X w0 M I w) : e.raw.d.sml ∧ e.raw.kn.sml := by
 have hh := ((hw.imm _ h).2 : IsKE e k _ w)
 refine ⟨IsR.sml hk hh.d, ⟨by have := MX.raw_rows e.kn; show e.kn.raw.rows.length ≤ _; omega, fun r hr' => ?_⟩⟩
 obtain ⟨x, hx, rfl⟩ := List.mem_map.1 (show r ∈ e.kn.rows.map RL.raw from hr')
 have hx2 := hh.n.row x hx
 refine ⟨by show (x.es.map RE.raw).length ≤ _; rw [List.length_map]; have := hc x hx; omega, fun f hf => ?_⟩
 obtain ⟨g, hg, rfl⟩ := List.mem_map.1 (show f ∈ x.es.map RE.raw from hf)
 exact IsR.sml hk (hx2.el g hg)
section
variable {X : List Nat} {w0 : World} {M0 M1 : List Ent} {I0 : List bB}
theorem aAW : CD Tryz.prog 5 [] X w0 M0 I0 (fun v M I => M0 = M ∧ I0 = I ∧ v = .bool true) := by
 have hR := fun (xs : List Int) (n : Nat) (hn : xs.length = n) (h100 : n ≤ 100) (hh : ∀ x ∈ xs, x.natAbs ≤ 8) (b c : Nat) M0 I0 h => yA (X := X) (w0 := w0) (M0 := M0) (I0 := I0) (q := some ⟨b, 0, none⟩) (l := xs) (n := n) (c := c) (u := 3) hn h100 (sml3 hh) h
 have hW1 := fun M0 I0 => vQ (X := X) (w0 := w0) (M0 := M0) (I0 := I0) (x := 1) (by decide) (k := 3) (by decide)
 refine aSM Tryz.func5 rfl Tryz.ntmps5 rfl ?_
 repeat (refine aK ?_)
 (refine aP (cs := recs eZ [1, 2, 3]) ([.int .i64 1, .int .i64 2, .int .i64 3]) rfl rfl (by intro v hv; repeat (first | exact absurd hv (List.not_mem_nil) | (rcases List.mem_cons.1 hv with rfl | hv; · rfl))) (by omega) rfl rfl rfl ?_; intro b1; refine ⟨okF, ?_⟩)
 refine aO .here ?_
 (refine aA rfl (hR [1, 2, 3] 3 rfl (by decide) (by decide) b1 3 _ _ aB) rfl rfl ?_; rintro _ _ _ ⟨rfl, r1, rfl, hr1, rfl⟩; refine ⟨okF, ?_⟩)
 (refine aP (cs := recs eZ [2, 4, 6]) ([.int .i64 2, .int .i64 4, .int .i64 6]) rfl rfl (by intro v hv; repeat (first | exact absurd hv (List.not_mem_nil) | (rcases List.mem_cons.1 hv with rfl | hv; · rfl))) (by omega) rfl rfl rfl ?_; intro b2; refine ⟨okF, ?_⟩)
 refine aO .here ?_
 (refine aA rfl (hR [2, 4, 6] 3 rfl (by decide) (by decide) b2 3 _ _ aB) rfl rfl ?_; rintro _ _ _ ⟨rfl, r2, rfl, hr2, rfl⟩; refine ⟨okF, ?_⟩)
 (refine aP (cs := recs eZ [0, 1, 1]) ([.int .i64 0, .int .i64 1, .int .i64 1]) rfl rfl (by intro v hv; repeat (first | exact absurd hv (List.not_mem_nil) | (rcases List.mem_cons.1 hv with rfl | hv; · rfl))) (by omega) rfl rfl rfl ?_; intro b3; refine ⟨okF, ?_⟩)
 refine aO .here ?_
 (refine aA rfl (hR [0, 1, 1] 3 rfl (by decide) (by decide) b3 3 _ _ aB) rfl rfl ?_; rintro _ _ _ ⟨rfl, r3, rfl, hr3, rfl⟩; refine ⟨okF, ?_⟩)
 (refine aP (cs := recs eL [r1, r2, r3]) ([lv r1, lv r2, lv r3]) rfl rfl (by intro v hv; repeat (first | exact absurd hv (List.not_mem_nil) | (rcases List.mem_cons.1 hv with rfl | hv; · rfl))) (by omega) rfl rfl rfl ?_; intro b4; refine ⟨okF, ?_⟩)
 refine aO .here ?_
 refine fQ (φ := jC ⟨some ⟨b4, 0, none⟩, 3, [r1, r2, r3]⟩ 3) (Hv.x3 aB aB aB aB) ?_
 obtain ⟨m, hm⟩ : ∃ m : MX, m = ⟨some ⟨b4, 0, none⟩, 3, [r1, r2, r3]⟩ := ⟨_, rfl⟩
 have fm : m.fit 3 3 := by
  rw [hm]
  refine ⟨⟨rfl, fun r hr => ?_⟩, by omega, by omega⟩
  simp only [List.mem_cons, List.not_mem_nil, or_false] at hr
  rcases hr with rfl | rfl | rfl
  ·exact tQ hr1
  ·exact tQ hr2
  ·exact tQ hr3
 have qm : m.q = aLT := by rw [hm]; show [r1.q, r2.q, r3.q] = _; rw [hr1, hr2, hr3]; rfl
 have vm : Value.slice (some ⟨b4, 0, none⟩) 3 3 = mv m := by rw [hm]; rfl
 rw [← hm]
 repeat (refine aK ?_)
 rw [vm]
 (refine aP (cs := recs eZ [0, 2]) ([.int .i64 0, .int .i64 2]) rfl rfl (by intro v hv; repeat (first | exact absurd hv (List.not_mem_nil) | (rcases List.mem_cons.1 hv with rfl | hv; · rfl))) (by omega) rfl rfl rfl ?_; intro b5; refine ⟨okF, ?_⟩)
 refine aO .here ?_
 (refine aP (cs := recs eZ [0, 1]) ([.int .i64 0, .int .i64 1]) rfl rfl (by intro v hv; repeat (first | exact absurd hv (List.not_mem_nil) | (rcases List.mem_cons.1 hv with rfl | hv; · rfl))) (by omega) rfl rfl rfl ?_; intro b6; refine ⟨okF, ?_⟩)
 refine aO .here ?_
 (refine aA rfl (hW1 _ _) rfl rfl ?_; rintro _ _ _ ⟨rfl, e, rfl, he, rfl⟩; refine ⟨okF, ?_⟩)
 (refine aP (cs := recs eZ [-1, -1, 1]) ([.int .i64 (-1), .int .i64 (-1), .int .i64 1]) rfl rfl (by intro v hv; repeat (first | exact absurd hv (List.not_mem_nil) | (rcases List.mem_cons.1 hv with rfl | hv; · rfl))) (by omega) rfl rfl rfl ?_; intro b7; refine ⟨okF, ?_⟩)
 refine aO .here ?_
 (refine aA rfl (hR [-1, -1, 1] 3 rfl (by decide) (by decide) b7 3 _ _ aB) rfl rfl ?_; rintro _ _ _ ⟨rfl, r4, rfl, hr4, rfl⟩; refine ⟨okF, ?_⟩)
 (refine aP (cs := recs eL [r4]) ([lv r4]) rfl rfl (by intro v hv; repeat (first | exact absurd hv (List.not_mem_nil) | (rcases List.mem_cons.1 hv with rfl | hv; · rfl))) (by omega) rfl rfl rfl ?_; intro b8; refine ⟨okF, ?_⟩)
 refine aO .here ?_
 refine fQ (φ := jC ⟨some ⟨b8, 0, none⟩, 1, [r4]⟩ 3) (Hv.x1 aB aB) ?_
 obtain ⟨p, hp⟩ : ∃ p : KE, p = ⟨[0, 2], [0, 1], some ⟨b5, 0, none⟩, 2, some ⟨b6, 0, none⟩, 2, e, ⟨some ⟨b8, 0, none⟩, 1, [r4]⟩⟩ := ⟨_, rfl⟩
 obtain ⟨k1, k2, k3⟩ := k_chk (e := p) (by rw [hp]) (by rw [hp]) (by rw [hp]; exact he) (by rw [hp]; show [r4.q] = _; rw [hr4]; rfl) (by
  rw [hp]; intro x hx; rw [List.mem_singleton.1 hx]; exact tQ hr4)
 (refine aC rfl (fun _ => qL (vals := [.slice (some ⟨b5, 0, none⟩) 2 2, .slice (some ⟨b6, 0, none⟩) 2 2, rv e, .slice (some ⟨b8, 0, none⟩) 1 1]) (cells := [.slice (some ⟨b5, 0, none⟩) 2 2, .slice (some ⟨b6, 0, none⟩) 2 2] ++ (eR e ++ [.slice (some ⟨b8, 0, none⟩) 1 1])) rfl ?hpl rfl ?hz) rfl rfl ?_; (case hpl => repeat (first | exact True.intro | refine ⟨rfl, ?_⟩)); (case hz => rfl))
 (refine aM rfl rfl ?_; intro b9; refine ⟨okF, ?_⟩)
 have hcl : ([.slice (some ⟨b5, 0, none⟩) 2 2, .slice (some ⟨b6, 0, none⟩) 2 2] ++ (eR e ++ [.slice (some ⟨b8, 0, none⟩) 1 1]) : List Value) = eKE p := by rw [hp]; rfl
 rw [hcl]
 refine fQ (φ := isKE p 3) ⟨fun X w hw => by
  rw [hp]
  exact ⟨(hw _ (by exact aB) : SlI (some ⟨b5, 0, none⟩) (recs eZ [0, 2]) X w), (hw _ (by exact aB) : SlI (some ⟨b6, 0, none⟩) (recs eZ [0, 1]) X w), (hw _ (by exact aB) : IsR e 3 X w), (hw _ (by exact aB) : IsX ⟨some ⟨b8, 0, none⟩, 1, [r4]⟩ 3 X w)⟩⟩ ?_
 refine fK (vs := eKE p) (cs := zKE) rfl rfl rfl (Ones.one p) jZ (.all rfl) rfl rfl ⟨okF, ?_⟩
 refine aO .here ?_
 refine fQ (φ := isKW p.raw) (Hv.kraw (k := 3) (by decide) (by rw [hp]; exact ⟨Nat.le_of_ble_eq_true rfl, Nat.le_of_ble_eq_true rfl⟩) aB) ?_
 refine RD_w (M' := M0) (I' := isKW p.raw :: aW (some ⟨b9, 0, none⟩) (eKE p) :: isKE p 3 :: jC m 3 :: I0) SubP.refl aD ?_
 have hrw : p.kn.rows.length ≤ 1000 ∧ ∀ r ∈ p.kn.rows, r.es.length ≤ 1000 := by
  rw [hp]; exact ⟨Nat.le_of_ble_eq_true rfl, fun r hr => by rw [List.mem_singleton.1 hr]; have := tQ hr4; rw [this]; decide⟩
 refine nH (fun w hw => aWF (e := p) (k := 3) aB (by decide) hrw.1 hrw.2 hw) (fun hsm => ?_)
 clear hR hW1 hr1 hr2 hr3 hr4 he hcl
 have hRk := fun M0 I0 h => aOA (X := X) (w0 := w0) (M0 := M0) (I0 := I0) (m := m) (R := 3) (n := 3) (u := 3) fm (by decide) (by decide) h
 rw [qm, aUW] at hRk
 have hCr := fun M0 I0 h => aTI (X := X) (w0 := w0) (M0 := M0) (I0 := I0) (m := m) (R := 3) (n := 3) (u := 3) fm (by decide) (by decide) h
 rw [qm, aUQ] at hCr
 have hSh := fun b M0 I0 h => aBI (X := X) (w0 := w0) (M0 := M0) (I0 := I0) (q := some ⟨b, 0, none⟩) (l := kS31) (n := 3) (c := 3) rfl h
 rw [aVR, if_pos rfl, aTH] at hSh
 have hC2 := fun M0 I0 hm hp hk => wM (X := X) (w0 := w0) (M0 := M0) (I0 := I0) (m := m) (R := 3) (n := 3) (u := 3) (kd := 3) (kk := 3) (r := 2) (p := p.raw) (e := p) fm (by decide) (by decide) (by decide) (by decide) (by decide) hm hp hsm.1 hsm.2 (fun _ => ⟨rfl, Hv.ked hk, Hv.ken hk⟩)
 rw [qm, k1, if_pos rfl, if_pos k2, aKP] at hC2
 have hC1 := fun M0 I0 hm hp hk => wM (X := X) (w0 := w0) (M0 := M0) (I0 := I0) (m := m) (R := 3) (n := 3) (u := 3) (kd := 3) (kk := 3) (r := 1) (p := p.raw) (e := p) fm (by decide) (by decide) (by decide) (by decide) (by decide) hm hp hsm.1 hsm.2 (fun _ => ⟨rfl, Hv.ked hk, Hv.ken hk⟩)
 rw [k3, if_neg (by decide), aKP] at hC1
 have hEq := fun q c b M0 I0 h1 h2 => aVC (X := X) (w0 := w0) (M0 := M0) (I0 := I0) (p := q) (q := some ⟨b, 0, none⟩) (a := [2]) (b := [2]) (c := c) (c' := 1) (by decide) h1 h2
 rw [dZ rfl] at hEq
 repeat (refine aK ?_)
 (refine aA rfl (hRk _ _ aB) rfl rfl ?_; rintro _ _ _ ⟨rfl, e4, rfl, _, _, _, _, _, rfl⟩; refine ⟨okF, ?_⟩)
 repeat (refine aK ?_)
 (refine aM rfl rfl ?_; intro b10; refine ⟨okF, ?_⟩)
 repeat (refine yXh ?_)
 refine fK (vs := eKE e4) (cs := zKE) rfl rfl rfl (Ones.one e4) jZ (.all rfl) rfl rfl ⟨okF, ?_⟩
 repeat (refine aK ?_)
 (refine aA rfl (hCr _ _ aB) rfl rfl ?_; rintro _ _ _ ⟨rfl, qc, cc, rfl, rfl⟩; refine ⟨okF, ?_⟩)
 repeat (refine aK ?_)
 (refine aC rfl (fun _ => dE (pvs := ([]).zipIdx.map (fun p => (p.2, p.1))) (cells := [.int .i64 0, .int .i64 0, .int .i64 0]) rfl rfl) rfl rfl ?_)
 (refine aC rfl (fun _ => qL (vals := [.int .i64 1, .int .i64 1, .int .i64 1]) (cells := [.int .i64 1, .int .i64 1, .int .i64 1]) rfl ?hpl rfl ?hz) rfl rfl ?_; (case hpl => repeat (first | exact True.intro | refine ⟨rfl, ?_⟩)); (case hz => rfl))
 (refine aC rfl (fun _ => qL (vals := [.int .i64 2, .int .i64 2, .int .i64 2]) (cells := [.int .i64 2, .int .i64 2, .int .i64 2]) rfl ?hpl rfl ?hz) rfl rfl ?_; (case hpl => repeat (first | exact True.intro | refine ⟨rfl, ?_⟩)); (case hz => rfl))
 (refine aP (cs := recs oM kS31) ([vS3 ⟨0, 0, 0⟩, vS3 ⟨1, 1, 1⟩, vS3 ⟨2, 2, 2⟩]) rfl rfl (by intro v hv; repeat (first | exact absurd hv (List.not_mem_nil) | (rcases List.mem_cons.1 hv with rfl | hv; · rfl))) (by omega) rfl rfl rfl ?_; intro b11; refine ⟨okF, ?_⟩)
 refine aO .here ?_
 (refine aA rfl (hSh b11 _ _ aB) rfl rfl ?_; rintro _ _ _ ⟨rfl, rfl, rfl⟩; refine ⟨okF, ?_⟩)
 repeat (refine aK ?_)
 (refine aP (cs := recs eZ [2]) ([.int .i64 2]) rfl rfl (by intro v hv; repeat (first | exact absurd hv (List.not_mem_nil) | (rcases List.mem_cons.1 hv with rfl | hv; · rfl))) (by omega) rfl rfl rfl ?_; intro b12; refine ⟨okF, ?_⟩)
 refine aO .here ?_
 (refine aA rfl (hEq qc cc b12 _ _ aB aB) rfl rfl ?_; rintro _ _ _ ⟨rfl, rfl, rfl⟩; refine ⟨okF, ?_⟩)
 repeat (refine aK ?_)
 (refine aA rfl (hC2 _ _ aB aB aB) rfl rfl ?_; rintro _ _ _ ⟨rfl, rfl, rfl⟩; refine ⟨okF, ?_⟩)
 repeat (refine aK ?_)
 (refine aA rfl (hC1 _ _ aB aB aB) rfl rfl ?_; rintro _ _ _ ⟨rfl, rfl, rfl⟩; refine ⟨okF, ?_⟩)
 repeat (refine aK ?_)
 refine rV (M' := M0) (I' := I0) aF aD ?_
 refine aH (by first | exact .inl rfl | exact .inr rfl) rfl rfl _ _ aF aD (⟨rfl, rfl, congrArg Value.bool (dZ rfl)⟩)
end
end Go.Proofs.YtkccjglmnhgabaaGreatDoor

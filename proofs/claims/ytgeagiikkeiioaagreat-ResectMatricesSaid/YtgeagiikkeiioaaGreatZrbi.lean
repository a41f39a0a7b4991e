/- resect.Project. Drawn regions: what stays is chosen anew in the middle. resect.Center. -/
import Derived.Test.YtgeagiikkeiioaaGreatZrbg
import Derived.Test.YtgeagiikkeiioaaGreatZrbh
import Derived.Test.YtgeagiikkeiioaaGreatZrax
import Derived.Test.YtgeagiikkeiioaaGreatZraw
set_option linter.unusedSimpArgs false
set_option linter.unusedVariables false
set_option maxRecDepth 100000
set_option maxHeartbeats 4000000
namespace Go.Proofs.YtgeagiikkeiioaaGreat
open Go Go.Fx
def xC (A : Mt) (a b c : Rat) (i : Nat) : Rat := sm 4 (fun t => at2 A i t * [a, b, c, 1].getD t 0)
theorem Hv.wl3 {I : List bL} {p : Option Addr} {a b c : RW} (h1 : bP p (recs eW [a, b, c]) ∈ I) (hp : Ok p) (ha : pO a ∈ I) (hb : pO b ∈ I) (hc : pO c ∈ I) : Hv I (mP ⟨p, 3, [a, b, c]⟩) := ⟨fun X w hw => ⟨(hw _ h1 : SlI _ _ X w).go, fun e he => by
 simp only [List.mem_cons, List.not_mem_nil, or_false] at he
 rcases he with rfl | rfl | rfl
 ·exact hw _ ha
 ·exact hw _ hb
 ·exact hw _ hc, ⟨Nat.le_refl _, .inl hp⟩⟩⟩
theorem Hv.l3 {I : List bL} {p : Option Addr} {a b c : RE} {k : Nat} (h1 : bP p (recs eR [a, b, c]) ∈ I) (hp : Ok p) (ha : bZ a k ∈ I) (hb : bZ b k ∈ I) (hc : bZ c k ∈ I) : Hv I (mF ⟨p, 3, [a, b, c]⟩ k) := ⟨fun X w hw => ⟨(hw _ h1 : SlI _ _ X w).go, fun e he => by
 simp only [List.mem_cons, List.not_mem_nil, or_false] at he
 rcases he with rfl | rfl | rfl
 ·exact hw _ ha
 ·exact hw _ hb
 ·exact hw _ hc, ⟨Nat.le_refl _, .inl hp⟩⟩⟩
theorem Hv.l1 {I : List bL} {b : Nat} {e : RE} {k : Nat} (h1 : bP (some ⟨b, 0, none⟩) (recs eR [e]) ∈ I) (h2 : bZ e k ∈ I) : Hv I (mF ⟨some ⟨b, 0, none⟩, 1, [e]⟩ k) := ⟨fun X w hw => ⟨(hw _ h1 : SlI _ _ X w).go, fun x hx => by rw [List.mem_singleton.1 hx]; exact hw _ h2, ⟨Nat.le_refl _, .inl (Ok.mk _ _)⟩⟩⟩
theorem Hv.allL2 {I : List bL} {a b : RL} {k : Nat} (h1 : mF a k ∈ I) (h2 : mF b k ∈ I) : Hv I (pQ [a, b] k) := ⟨fun X w hw => ⟨fun r hr => by
 simp only [List.mem_cons, List.not_mem_nil, or_false] at hr
 rcases hr with rfl | rfl
 ·exact hw _ h1
 ·exact hw _ h2⟩⟩
section
variable {X : List Nat} {w0 : World} {M0 : List Ent} {I0 : List bL}
theorem xH {m : WM} {a b c : RW} (sm : m.sml) (sx : a.sml ∧ b.sml ∧ c.sml) (hm : kW m ∈ I0) (ha : pO a ∈ I0) (hb : pO b ∈ I0) (hc : pO c ∈ I0) (h0 : qV m ⟨none, 0, [a, b, c]⟩ ≠ 0) :
  CD Tryz.prog 24 [mvW m, .agg (recs eW [a, b, c]).toArray] X w0 M0 I0 (fun v M I => M0 = M ∧ I0 = I ∧ v = .tuple #[zP, .int .i64 (qV m ⟨none, 0, [a, b, c]⟩)]) := by
 have hS := fun p M0 I0 h1 h2 => uB (X := X) (w0 := w0) (M0 := M0) (I0 := I0) (m := m) (x := ⟨p, 3, [a, b, c]⟩) sm ⟨by show 3 ≤ _; omega, fun e he => by
  simp only [List.mem_cons, List.not_mem_nil, or_false] at he
  rcases he with rfl | rfl | rfl
  ·exact sx.1
  ·exact sx.2.1
  ·exact sx.2.2⟩ h1 h2
 have e0 : ∀ p, qV m ⟨p, 3, [a, b, c]⟩ = qV m ⟨none, 0, [a, b, c]⟩ := fun p => rfl
 simp only [e0] at hS
 generalize qV m ⟨none, 0, [a, b, c]⟩ = cc at *
 refine bJ Tryz.func24 rfl Tryz.ntmps24 rfl ?_
 refine aN ?_
 refine aI ?_
 (refine aY rfl rfl rfl ?_; intro b3; refine ⟨okF, ?_⟩)
 refine eF (cs := recs eW [a, b, c]) .here ?_
 (refine aC rfl rfl ?_; intro b4; refine ⟨okF, ?_⟩)
 repeat (refine aK ?_)
 refine aD rfl (fun _ => gK rfl) rfl rfl ?_
 refine gN (φ := mP ⟨some ⟨b3, 0, none⟩, 3, [a, b, c]⟩) (Hv.wl3 aB (Ok.mk _ _) aB aB aB) ?_
 (refine aA rfl (hS (some ⟨b3, 0, none⟩) _ _ aB aB) rfl rfl ?_; rintro _ _ _ ⟨rfl, rfl, rfl⟩; refine ⟨okF, ?_⟩)
 repeat (refine aK ?_)
 (refine aD rfl (fun _ => dW (pvs := ([]).zipIdx.map (fun p => (p.2, p.1))) (cells := pY) rfl rfl) rfl rfl ?_)
 repeat (refine aK ?_)
 refine gI (rs := [.cell 4 47, .tmp 5]) (vs := [zP, .int .i64 cc]) (.inl rfl) rfl (.cellN (cs := pY) inferInstance rfl aB rfl (.tmp rfl .nil)) rfl M0 I0 aF aG ⟨rfl, rfl, rfl⟩
theorem aGQ {m : MX} {a b c : RE} {k : Nat} (hk : k ≤ 10000000) (dm : m.fit 3 4) (hm : nU m k ∈ I0) (ha : bZ a k ∈ I0) (hb : bZ b k ∈ I0) (hc : bZ c k ∈ I0) :
  CD Tryz.prog 24 [mv m, .agg (recs eR [a, b, c]).toArray] X w0 M0 I0 (fun v M I => if xC m.q a.q b.q c.q 2 = 0 then (M0 = M ∧ I0 = I ∧ v = .tuple #[zP, .int .i64 13]) else
   (M0 = M ∧ ∃ p : PE, v = .tuple #[pv p, .int .i64 0] ∧ p.v = ⟨xC m.q a.q b.q c.q 0 / xC m.q a.q b.q c.q 2, xC m.q a.q b.q c.q 1 / xC m.q a.q b.q c.q 2⟩ ∧ I = eT p (16 * k + 8) :: I0)) := by
 refine kV (φ := m.raw.sml ∧ a.raw.sml ∧ b.raw.sml ∧ c.raw.sml) (fun w hw => ⟨Mem.xsml hm dm (by omega) hw, IsR.sml (by omega) (hw.imm _ ha).2, IsR.sml (by omega) (hw.imm _ hb).2, IsR.sml (by omega) (hw.imm _ hc).2⟩) (fun hsm => ?_)
 have hS := fun p M0 I0 h1 h2 => uB (X := X) (w0 := w0) (M0 := M0) (I0 := I0) (m := m.raw) (x := ⟨p, 3, [a.raw, b.raw, c.raw]⟩) hsm.1 ⟨by show 3 ≤ _; omega, fun e he => by
  simp only [List.mem_cons, List.not_mem_nil, or_false] at he
  rcases he with rfl | rfl | rfl
  ·exact hsm.2.1
  ·exact hsm.2.2.1
  ·exact hsm.2.2.2⟩ h1 h2
 have e0 : ∀ p, qV m.raw ⟨p, 3, [a.raw, b.raw, c.raw]⟩ = 0 := fun p => by
  unfold qV
  rw [if_pos, if_pos]
  ·refine ⟨by rw [m.raw_rows]; exact dm.1.1, fun r hr => ?_⟩
   obtain ⟨s, hs, rfl⟩ := List.mem_map.1 hr
   show (s.es.map RE.raw).length = 4
   rw [List.length_map]; exact dm.1.2 s hs
  ·refine ⟨fun e he => ?_, fun r hr => ?_⟩
   ·simp only [List.mem_cons, List.not_mem_nil, or_false] at he
    rcases he with rfl | rfl | rfl <;> exact RE.raw_good _
   ·obtain ⟨s, hs, rfl⟩ := List.mem_map.1 hr
    exact s.raw_good
 simp only [e0, lU] at hS
 clear e0
 have hW := fun M0 I0 => nY (X := X) (w0 := w0) (M0 := M0) (I0 := I0) (x := 1) (by decide) (k := 0) (by decide)
 have hRw := fun q ls M0 I0 h1 h2 h3 h4 => aOU (X := X) (w0 := w0) (M0 := M0) (I0 := I0) (q0 := q) (c0 := 2) (u := k) (n := 2) (ls := ls) h1 (by omega) h2 h3 h4
 refine eD (φ := kW m.raw) (Hv.xraw hm (by omega)) ?_
 refine eD (φ := pO a.raw) ⟨fun X w hw => RE.fit (by omega) (hw _ (List.Mem.tail _ ha) : IsR a k X w)⟩ ?_
 refine eD (φ := pO b.raw) ⟨fun X w hw => RE.fit (by omega) (hw _ (List.Mem.tail _ (List.Mem.tail _ hb)) : IsR b k X w)⟩ ?_
 refine eD (φ := pO c.raw) ⟨fun X w hw => RE.fit (by omega) (hw _ (List.Mem.tail _ (List.Mem.tail _ (List.Mem.tail _ hc))) : IsR c k X w)⟩ ?_
 refine bJ Tryz.func24 rfl Tryz.ntmps24 rfl ?_
 refine aN ?_
 refine aI ?_
 (refine aY rfl rfl rfl ?_; intro b3; refine ⟨okF, ?_⟩)
 refine eF (cs := recs eR [a, b, c]) .here ?_
 (refine aC rfl rfl ?_; intro b4; refine ⟨okF, ?_⟩)
 repeat (refine aK ?_)
 refine aD rfl (fun _ => gK rfl) rfl rfl ?_
 refine gN (φ := mP ⟨some ⟨b3, 0, none⟩, 3, [a.raw, b.raw, c.raw]⟩) (Hv.wl3 aB (Ok.mk _ _) aB aB aB) ?_
 (refine aA rfl (hS (some ⟨b3, 0, none⟩) _ _ aB aB) rfl rfl ?_; rintro _ _ _ ⟨rfl, rfl, rfl⟩; refine ⟨okF, ?_⟩)
 refine gN (φ := mF ⟨some ⟨b3, 0, none⟩, 3, [a, b, c]⟩ k) (Hv.l3 aB (Ok.mk _ _) aB aB aB) ?_
 repeat (refine aK ?_)
 refine mY (fun G M I => ∃ (y : RL), y.q = (List.range 3).map (xC m.q a.q b.q c.q) ∧ G = [(4, .pointer (some ⟨b4, 0, none⟩)), (7, lv y)] ∧ M = .blk b4 pY 47 :: M0 ∧ I = mF y (8 * k + 4) :: I0) ?_ ?_
 ·(repeat refine aN ?_); refine iQ [0, 1, 2, 3, 4, 5, 6, 7, 8, 9, 10, 11] [4, 4, 0, 0, 0, 0, 0, 0, 0, 0, 0, 0] mixed (by kernel_rfl) ?_
  repeat (refine aK ?_)
  refine aD rfl (fun _ => gK rfl) rfl rfl ?_
  repeat (refine aK ?_)
  (refine aA rfl (hW _ _) rfl rfl ?_; rintro _ _ _ ⟨rfl, e1, rfl, he1, rfl⟩; refine ⟨okF, ?_⟩)
  (refine dM (cs := recs eR [e1]) ([rv e1]) rfl rfl (by intro v hv; repeat (first | exact absurd hv (List.not_mem_nil) | (rcases List.mem_cons.1 hv with rfl | hv; · rfl))) (by omega) rfl rfl rfl ?_; intro bl; refine ⟨okF, ?_⟩)
  refine eF .here ?_
  refine gN (φ := bZ e1 k) (Hv.q (k := 0) aB (by omega)) ?_
  refine gN (φ := mF ⟨some ⟨bl, 0, none⟩, 1, [e1]⟩ k) (Hv.l1 aB aB) ?_
  repeat (refine aK ?_)
  (refine dM (cs := recs eL [(⟨some ⟨b3, 0, none⟩, 3, [a, b, c]⟩ : RL), ⟨some ⟨bl, 0, none⟩, 1, [e1]⟩]) ([lv ⟨some ⟨b3, 0, none⟩, 3, [a, b, c]⟩, lv ⟨some ⟨bl, 0, none⟩, 1, [e1]⟩]) rfl rfl (by intro v hv; repeat (first | exact absurd hv (List.not_mem_nil) | (rcases List.mem_cons.1 hv with rfl | hv; · rfl))) (by omega) rfl rfl rfl ?_; intro bs; refine ⟨okF, ?_⟩)
  refine eF .here ?_
  refine gN (φ := pQ [(⟨some ⟨b3, 0, none⟩, 3, [a, b, c]⟩ : RL), ⟨some ⟨bl, 0, none⟩, 1, [e1]⟩] k) (Hv.allL2 aB aB) ?_
  repeat (refine aK ?_)
  (refine aA rfl (hRw (some ⟨bs, 0, none⟩) [(⟨some ⟨b3, 0, none⟩, 3, [a, b, c]⟩ : RL), ⟨some ⟨bl, 0, none⟩, 1, [e1]⟩] _ _ rfl (fun r hr => by simp only [List.mem_cons, List.not_mem_nil, or_false] at hr; rcases hr with rfl | rfl <;> (show _ ≤ 100; simp)) aB aB) rfl rfl ?_; rintro _ _ _ ⟨rfl, r, rfl, hr, rfl⟩; refine ⟨okF, ?_⟩)
  have hr4 : r.q = [a.q, b.q, c.q, 1] := by rw [hr]; show [a.q, b.q, c.q, e1.q] = _; rw [he1]; rfl
  have hrl : r.es.length = 4 := by have := congrArg List.length hr4; simpa using this
  repeat (refine aK ?_)
  have hA := fun M0 I0 h1 h2 => aIM (X := X) (w0 := w0) (M0 := M0) (I0 := I0) (a := m) (x := r) (k := k) (m := k) (by omega) (by omega) dm hrl h1 h2
  (refine aA rfl (hA _ _ aB aB) rfl rfl ?_; rintro _ _ _ ⟨rfl, y, rfl, hy, rfl⟩; refine ⟨okF, ?_⟩)
  repeat (refine aK ?_)
  rw [show 4 * (k + k + 1) = 8 * k + 4 by omega]
  refine aX _ _ _ aV aF aG ⟨y, by rw [hy, hr4]; rfl, rfl, rfl, rfl⟩
 ·rintro G M I ⟨y, hy, rfl, rfl, rfl⟩
  have hyl : y.es.length = 3 := by have := congrArg List.length hy; simpa using this
  have hyi : ∀ i : Nat, i < 3 → (gt y.es (i : Int)).q = xC m.q a.q b.q c.q i := fun i hi => by
   have := kH (es := y.es) (j := i) (by omega)
   rw [← this]
   show y.q.getD i 0 = _
   rw [hy]; simp [List.getD, hi]
  have y0 : (gt y.es 0).q = xC m.q a.q b.q c.q 0 := hyi 0 (by omega)
  have y1 : (gt y.es 1).q = xC m.q a.q b.q c.q 1 := hyi 1 (by omega)
  have y2 : (gt y.es 2).q = xC m.q a.q b.q c.q 2 := hyi 2 (by omega)
  refine fI (φ := bP (y).p (recs eR (y).es)) (Hv.lsl aB) ?_
  refine fI (φ := bZ (gt y.es 0) (8 * k + 4)) (Hv.lel aB (by omega)) ?_
  refine fI (φ := bZ (gt y.es 1) (8 * k + 4)) (Hv.lel aB (by omega)) ?_
  refine fI (φ := bZ (gt y.es 2) (8 * k + 4)) (Hv.lel aB (by omega)) ?_
  rw [← y0, ← y1, ← y2]
  by_cases hz : (gt y.es 2).q = 0
  ·simp only [if_pos hz]
   have hD := fun (x : RE) M0 I0 h1 h2 => aDI (X := X) (w0 := w0) (M0 := M0) (I0 := I0) (a := x) (b := gt y.es 2) (k := 8 * k + 4) (m := 8 * k + 4) (by omega) hz h1 h2
   refine oD (fun G M I => ∃ b9 : Nat, G = [(4, .pointer (some ⟨b4, 0, none⟩)), (7, lv y), (9, .pointer (some ⟨b9, 0, none⟩)), (10, .int .i64 14)] ∧ M = .blk b9 zRc 42 :: .blk b4 pY 47 :: M0 ∧ I = bZ (gt y.es 2) (8 * k + 4) :: bZ (gt y.es 1) (8 * k + 4) :: bZ (gt y.es 0) (8 * k + 4) :: bP y.p (recs eR y.es) :: mF y (8 * k + 4) :: I0) ?_ ?_
   ·((repeat refine aN ?_); refine jS (.blk b4 pY 47 :: M0) (bZ (gt y.es 2) (8 * k + 4) :: bZ (gt y.es 1) (8 * k + 4) :: bZ (gt y.es 0) (8 * k + 4) :: bP y.p (recs eR y.es) :: mF y (8 * k + 4) :: I0) mixed ?_)
    refine cK (fuel := 7) (listed' := #[true, true, true, true, true, true, false, false, false, false, false, false, false]) [0, 1, 2, 3, 4, 5] [2, 2, 1, 2, 2, 1] aF aG (by kernel_rfl) (by kernel_rfl) rfl rfl ?_
    repeat (refine aK ?_)
    refine aQ (fuel := 6) (i := 6) (j := 10) (by kernel_rfl) ?_ ?_
    ·(refine aA rfl (hD (gt y.es 0) _ _ (Hv.mem aB) (Hv.mem aB)) rfl rfl ?_; rintro _ _ _ ⟨rfl, rfl, rfl⟩; refine ⟨okF, ?_⟩)
     refine aM ?_
     refine aH [7, 8, 9, 10, 11, 12] [1, 1, 2, 0, 0, 0] aF aG (by kernel_rfl) (by kernel_rfl) rfl rfl ?_
     repeat (refine aK ?_)
     (refine aC rfl rfl ?_; intro b9; refine ⟨okF, ?_⟩)
     repeat (refine aK ?_)
     refine aX _ _ _ aV aF aG ⟨b9, rfl, rfl, rfl⟩
    ·(refine aC rfl rfl ?_; intro b9; refine ⟨okF, ?_⟩)
     refine aM ?_
     refine aH [6, 7, 8, 9, 11, 12] [0, 0, 0, 1, 0, 0] aF aG (by kernel_rfl) (by kernel_rfl) rfl rfl ?_
     repeat (refine aK ?_)
     (refine aA rfl (hD (gt y.es 0) _ _ (Hv.mem aB) (Hv.mem aB)) rfl rfl ?_; rintro _ _ _ ⟨rfl, rfl, rfl⟩; refine ⟨okF, ?_⟩)
     repeat (refine aK ?_)
     refine aX _ _ _ aV aF aG ⟨b9, rfl, rfl, rfl⟩
   ·rintro G M I ⟨b9, rfl, rfl, rfl⟩
    refine oD (fun G M I => ∃ b11 : Nat, G = [(4, .pointer (some ⟨b4, 0, none⟩)), (7, lv y), (9, .pointer (some ⟨b9, 0, none⟩)), (10, .int .i64 14), (11, .pointer (some ⟨b11, 0, none⟩)), (12, .int .i64 14)] ∧ M = .blk b11 zRc 42 :: .blk b9 zRc 42 :: .blk b4 pY 47 :: M0 ∧ I0 = I) ?_ ?_
    ·((repeat refine aN ?_); refine jS (.blk b9 zRc 42 :: .blk b4 pY 47 :: M0) (bZ (gt y.es 2) (8 * k + 4) :: bZ (gt y.es 1) (8 * k + 4) :: bZ (gt y.es 0) (8 * k + 4) :: bP y.p (recs eR y.es) :: mF y (8 * k + 4) :: I0) mixed ?_)
     refine cK (fuel := 7) (listed' := #[true, true, true, true, true, true, false, false, false, false, false, false, false]) [0, 1, 2, 3, 4, 5] [2, 2, 1, 2, 2, 1] aF aG (by kernel_rfl) (by kernel_rfl) rfl rfl ?_
     repeat (refine aK ?_)
     refine aQ (fuel := 6) (i := 6) (j := 10) (by kernel_rfl) ?_ ?_
     ·(refine aA rfl (hD (gt y.es 1) _ _ (Hv.mem aB) (Hv.mem aB)) rfl rfl ?_; rintro _ _ _ ⟨rfl, rfl, rfl⟩; refine ⟨okF, ?_⟩)
      refine aM ?_
      refine aH [7, 8, 9, 10, 11, 12] [1, 1, 2, 0, 0, 0] aF aG (by kernel_rfl) (by kernel_rfl) rfl rfl ?_
      repeat (refine aK ?_)
      (refine aC rfl rfl ?_; intro b11; refine ⟨okF, ?_⟩)
      repeat (refine aK ?_)
      refine aX _ _ _ aV aF aG ⟨b11, rfl, rfl, rfl⟩
     ·(refine aC rfl rfl ?_; intro b11; refine ⟨okF, ?_⟩)
      refine aM ?_
      refine aH [6, 7, 8, 9, 11, 12] [0, 0, 0, 1, 0, 0] aF aG (by kernel_rfl) (by kernel_rfl) rfl rfl ?_
      repeat (refine aK ?_)
      (refine aA rfl (hD (gt y.es 1) _ _ (Hv.mem aB) (Hv.mem aB)) rfl rfl ?_; rintro _ _ _ ⟨rfl, rfl, rfl⟩; refine ⟨okF, ?_⟩)
      repeat (refine aK ?_)
      refine aX _ _ _ aV aF aG ⟨b11, rfl, rfl, rfl⟩
    ·rintro G M I ⟨b11, rfl, rfl, rfl⟩
     repeat (refine aK ?_)
     (refine aD rfl (fun _ => dW (pvs := ([]).zipIdx.map (fun p => (p.2, p.1))) (cells := pY) rfl rfl) rfl rfl ?_)
     repeat (refine aK ?_)
     refine gI (rs := [.cell 4 47, .tmp 5]) (vs := [zP, .int .i64 13]) (.inl rfl) rfl (.cellN (cs := pY) inferInstance rfl aB rfl (.tmp rfl .nil)) rfl M0 I0 aF aG ⟨rfl, rfl, rfl⟩
  ·simp only [if_neg hz]
   have hD := fun (x : RE) M0 I0 h1 h2 => oN (X := X) (w0 := w0) (M0 := M0) (I0 := I0) (a := x) (b := gt y.es 2) (k := 8 * k + 4) (m := 8 * k + 4) (by omega) hz h1 h2
   rw [show 8 * k + 4 + (8 * k + 4) = 16 * k + 8 by omega] at hD
   refine oD (fun G M I => ∃ (b9 : Nat) (e9 : RE), e9.q = (gt y.es 0).q / (gt y.es 2).q ∧ G = [(4, .pointer (some ⟨b4, 0, none⟩)), (7, lv y), (9, .pointer (some ⟨b9, 0, none⟩)), (10, .int .i64 0)] ∧ M = .blk b9 (eR e9) 42 :: .blk b4 pY 47 :: M0 ∧ I = bZ e9 (16 * k + 8) :: bZ (gt y.es 2) (8 * k + 4) :: bZ (gt y.es 1) (8 * k + 4) :: bZ (gt y.es 0) (8 * k + 4) :: bP y.p (recs eR y.es) :: mF y (8 * k + 4) :: I0) ?_ ?_
   ·((repeat refine aN ?_); refine jS (.blk b4 pY 47 :: M0) (bZ (gt y.es 2) (8 * k + 4) :: bZ (gt y.es 1) (8 * k + 4) :: bZ (gt y.es 0) (8 * k + 4) :: bP y.p (recs eR y.es) :: mF y (8 * k + 4) :: I0) mixed ?_)
    refine cK (fuel := 7) (listed' := #[true, true, true, true, true, true, false, false, false, false, false, false, false]) [0, 1, 2, 3, 4, 5] [2, 2, 1, 2, 2, 1] aF aG (by kernel_rfl) (by kernel_rfl) rfl rfl ?_
    repeat (refine aK ?_)
    refine aQ (fuel := 6) (i := 6) (j := 10) (by kernel_rfl) ?_ ?_
    ·(refine aA rfl (hD (gt y.es 0) _ _ (Hv.mem aB) (Hv.mem aB)) rfl rfl ?_; rintro _ _ _ ⟨rfl, e9, rfl, he9, rfl⟩; refine ⟨okF, ?_⟩)
     refine aM ?_
     refine aH [7, 8, 9, 10, 11, 12] [1, 1, 2, 0, 0, 0] aF aG (by kernel_rfl) (by kernel_rfl) rfl rfl ?_
     repeat (refine aK ?_)
     (refine aC rfl rfl ?_; intro b9; refine ⟨okF, ?_⟩)
     repeat (refine aK ?_)
     refine aX _ _ _ aV aF aG ⟨b9, e9, he9, rfl, rfl, rfl⟩
    ·(refine aC rfl rfl ?_; intro b9; refine ⟨okF, ?_⟩)
     refine aM ?_
     refine aH [6, 7, 8, 9, 11, 12] [0, 0, 0, 1, 0, 0] aF aG (by kernel_rfl) (by kernel_rfl) rfl rfl ?_
     repeat (refine aK ?_)
     (refine aA rfl (hD (gt y.es 0) _ _ (Hv.mem aB) (Hv.mem aB)) rfl rfl ?_; rintro _ _ _ ⟨rfl, e9, rfl, he9, rfl⟩; refine ⟨okF, ?_⟩)
     repeat (refine aK ?_)
     refine aX _ _ _ aV aF aG ⟨b9, e9, he9, rfl, rfl, rfl⟩
   ·rintro G M I ⟨b9, e9, he9, rfl, rfl, rfl⟩
    refine oD (fun G M I => ∃ (b11 : Nat) (e11 : RE), e11.q = (gt y.es 1).q / (gt y.es 2).q ∧ G = [(4, .pointer (some ⟨b4, 0, none⟩)), (7, lv y), (9, .pointer (some ⟨b9, 0, none⟩)), (10, .int .i64 0), (11, .pointer (some ⟨b11, 0, none⟩)), (12, .int .i64 0)] ∧ M = .blk b11 (eR e11) 42 :: .blk b9 (eR e9) 42 :: .blk b4 pY 47 :: M0 ∧ I = bZ e11 (16 * k + 8) :: bZ e9 (16 * k + 8) :: I0) ?_ ?_
    ·((repeat refine aN ?_); refine jS (.blk b9 (eR e9) 42 :: .blk b4 pY 47 :: M0) (bZ e9 (16 * k + 8) :: bZ (gt y.es 2) (8 * k + 4) :: bZ (gt y.es 1) (8 * k + 4) :: bZ (gt y.es 0) (8 * k + 4) :: bP y.p (recs eR y.es) :: mF y (8 * k + 4) :: I0) mixed ?_)
     refine cK (fuel := 7) (listed' := #[true, true, true, true, true, true, false, false, false, false, false, false, false]) [0, 1, 2, 3, 4, 5] [2, 2, 1, 2, 2, 1] aF aG (by kernel_rfl) (by kernel_rfl) rfl rfl ?_
     repeat (refine aK ?_)
     refine aQ (fuel := 6) (i := 6) (j := 10) (by kernel_rfl) ?_ ?_
     ·(refine aA rfl (hD (gt y.es 1) _ _ (Hv.mem aB) (Hv.mem aB)) rfl rfl ?_; rintro _ _ _ ⟨rfl, e11, rfl, he11, rfl⟩; refine ⟨okF, ?_⟩)
      refine aM ?_
      refine aH [7, 8, 9, 10, 11, 12] [1, 1, 2, 0, 0, 0] aF aG (by kernel_rfl) (by kernel_rfl) rfl rfl ?_
      repeat (refine aK ?_)
      (refine aC rfl rfl ?_; intro b11; refine ⟨okF, ?_⟩)
      repeat (refine aK ?_)
      refine aX _ _ _ aV aF aG ⟨b11, e11, he11, rfl, rfl, rfl⟩
     ·(refine aC rfl rfl ?_; intro b11; refine ⟨okF, ?_⟩)
      refine aM ?_
      refine aH [6, 7, 8, 9, 11, 12] [0, 0, 0, 1, 0, 0] aF aG (by kernel_rfl) (by kernel_rfl) rfl rfl ?_
      repeat (refine aK ?_)
      (refine aA rfl (hD (gt y.es 1) _ _ (Hv.mem aB) (Hv.mem aB)) rfl rfl ?_; rintro _ _ _ ⟨rfl, e11, rfl, he11, rfl⟩; refine ⟨okF, ?_⟩)
      repeat (refine aK ?_)
      refine aX _ _ _ aV aF aG ⟨b11, e11, he11, rfl, rfl, rfl⟩
    ·rintro G M I ⟨b11, e11, he11, rfl, rfl, rfl⟩
     repeat (refine aK ?_)
     (refine aD rfl (fun _ => jK (vals := [rv e9, rv e11]) (cells := eP ⟨e9, e11⟩) rfl ?hpl rfl ?hz) rfl rfl ?_; (case hpl => repeat (first | exact True.intro | refine ⟨rfl, ?_⟩)); (case hz => rfl))
     repeat (refine aK ?_)
     refine bW (φ := eT ⟨e9, e11⟩ (16 * k + 8)) ⟨fun X w hw => ⟨hw _ (by exact List.Mem.tail _ (List.Mem.head _)), hw _ (by exact List.Mem.head _)⟩⟩ ?_
     refine gI (rs := [.cell 4 47, .tmp 5]) (vs := [pv ⟨e9, e11⟩, .int .i64 0]) (.inl rfl) rfl (.cellN (cs := eP ⟨e9, e11⟩) inferInstance rfl aB rfl (.tmp rfl .nil)) rfl M0 (eT ⟨e9, e11⟩ (16 * k + 8) :: I0) aF aG ⟨rfl, ⟨e9, e11⟩, rfl, by simp only [PE.v, he9, he11], rfl⟩
end
end Go.Proofs.YtgeagiikkeiioaaGreat
namespace Go.Fx
section
variable {P : Program} {ops : Array Oper} {Q : Exit → Act → World → Prop} {Cs Cs' : Nat → World → Prop}
theorem aGR {i : Nat} {a : Act} {w : World} {K K' : Act → World → Prop} (h : ∀ a w, K a w → K' a w) (hh : wpOp P ops QF i K a w) : wpOp P ops QF i K' a w := by
 unfold wpOp at *
 split
 ·exact h _ _ (by simpa [*] using hh)
 ·rename_i o ho
  simp only [ho] at hh
  split
  ·rename_i hw
   simp only [hw, if_true] at hh
   rcases hh with hh | ⟨_, _, _, hf⟩
   ·exact .inl (Oper.wp_mono h hh)
   ·exact hf.elim
  ·rename_i hw; simp only [hw] at hh; exact h _ _ hh
theorem xL (hC : ∀ s w, Cs s w → Cs' s w) : ∀ (fuel k : Nat) (listed : Array Bool) (a : Act) (w : World), nJ P ops Q Cs fuel k listed a w → nJ P ops Q Cs' fuel k listed a w
 | 0, _, _, _, _, h => h
 | fuel + 1, _, _, _, _, h => ⟨h.1, fun i hi => aGR (fun a w h => ⟨hC _ _ h.1, xL hC fuel _ _ a w h.2⟩) (h.2 i hi)⟩
end
section
variable {P : Program} {n : Nat} {Q : Exit → Act → World → Prop} {G : Env} {X : List Nat} {w0 : World} {M M1 M2 : List Ent} {I I1 I2 : List bL} {l : List Oper}
theorem aLU (M2 : List Ent) (I2 : List bL) {fuel k : Nat} {listed : Array Bool} (hM : SubP M2 M1) (hI : Inc I2 I1)
  (h : ND n (Rest P l Q (wS X w0 M2 I2) fuel k listed) .normal G X w0 M I) : ND n (Rest P l Q (wS X w0 M1 I1) fuel k listed) .normal G X w0 M I :=
 ⟨fun w hw => ⟨fun a ha => xL (fun _ _ h => h.weak hM hI) _ _ _ _ _ ((h.go w hw).go a ha)⟩⟩
end
end Go.Fx
namespace Go.Proofs.YtgeagiikkeiioaaGreat
open Go Go.Fx
theorem Hv.cut3 {I : List bL} {m : MX} {K : Nat} {i : Int} {k : Nat} (h : nU m K ∈ I) (hi : 0 ≤ i ∧ i < m.rows.length) : Hv I (mF ⟨vH (gt m.rows i).p (gt m.rows i).c 0 4, (gt m.rows i).c - 0, (gt m.rows i).es.take k⟩ K) := ⟨fun X w hw => by
 have hr := (hw _ h : IsX m K X w).row _ (dI hi)
 have hc := hr.cap.1
 refine ⟨?_, fun e he => hr.el e (List.mem_of_mem_take he), ?_, ?_⟩
 ·have := hr.sl.cut (gt m.rows i).c 0 (k * 4) 4 (by rw [kD]; exact Nat.mul_le_mul_right _ hc)
  rw [Nat.zero_mul, List.drop_zero] at this
  show Sl X w _ (recs eR ((gt m.rows i).es.take k))
  rw [wW]; exact this
 ·show ((gt m.rows i).es.take k).length ≤ (gt m.rows i).c - 0
  rw [List.length_take]; omega
 ·rcases hr.cap.2 with h | ⟨h1, h2⟩
  ·exact .inl (aME h)
  ·refine .inr ⟨?_, ?_⟩
   ·show ((gt m.rows i).es.take k).length = 0
    rw [List.length_take]; omega
   ·show (gt m.rows i).c - 0 = 0
    omega⟩
theorem Mem.okL {X : List Nat} {w0 w : World} {M : List Ent} {I : List bL} {r : RL} {k : Nat} (h : mF r k ∈ I) (hl : 0 < r.es.length) (hw : Mem X w0 M I w) : Ok r.p := by
 have hs := ((hw.imm _ h).2 : IsL r k _ w).sl
 have h0 : 0 < (recs eR r.es).length := by rw [kD]; omega
 exact (hs 0 _ (List.getElem?_eq_getElem h0)).1
theorem aOX {a : Option Addr} (h : Ok a) : some (pt a 0) = a := by
 obtain ⟨b, o, rfl⟩ := h.cases
 simp [pt, bl, of]
abbrev zT3 : List Value := [.bool false, .slice none 0 0, .bool false, .slice none 0 0, .bool false, .slice none 0 0, .bool false, .slice none 0 0, .bool false, .slice none 0 0, .bool false, .slice none 0 0]
def ctrOk (N : Mt) : Prop := N.length = 1 ∧ at2 N 0 3 ≠ 0
instance ctrOk.dec (N : Mt) : Decidable (ctrOk N) := by unfold ctrOk; exact inferInstance
theorem aJY {α : Type} {l : List α} (h : l.length = 3) : ∃ a b c, l = [a, b, c] := by
 match l, h with
 | [a, b, c], _ => exact ⟨a, b, c, rfl⟩
section
variable {X : List Nat} {w0 : World} {M0 : List Ent} {I0 : List bL}
theorem zK {m : WM} (sm : m.sml) (hm : kW m ∈ I0) (h0 : qV m ⟨none, 0, []⟩ ≠ 0) :
  CD Tryz.prog 25 [mvW m] X w0 M0 I0 (fun v M I => M0 = M ∧ I0 = I ∧ v = .tuple #[.agg zT3.toArray, .int .i64 (qV m ⟨none, 0, []⟩)]) := by
 have hS : ∀ M0 I0, kW m ∈ I0 → mP ⟨none, 0, []⟩ ∈ I0 → CD Tryz.prog 84 [mvW m, .slice none 0 0] X w0 M0 I0 (fun v M I => M0 = M ∧ I0 = I ∧ v = .int .i64 (qV m ⟨none, 0, []⟩)) := fun M0 I0 h1 h2 => uB (X := X) (w0 := w0) (M0 := M0) (I0 := I0) (m := m) (x := ⟨none, 0, []⟩) sm ⟨by show 0 ≤ _; omega, fun e he => by simp at he⟩ h1 h2
 generalize qV m ⟨none, 0, []⟩ = cc at *
 refine eD (φ := mP ⟨none, 0, []⟩) ⟨fun X w hw => ⟨Sl.nil _ _ _, fun e he => by simp at he, ⟨Nat.le_refl _, .inr ⟨rfl, rfl⟩⟩⟩⟩ ?_
 refine bX Tryz.func25 rfl Tryz.ntmps25 rfl ?_
 refine aN ?_
 refine aI ?_
 (refine aC rfl rfl ?_; intro b2; refine ⟨okF, ?_⟩)
 repeat (refine aK ?_)
 (refine aA rfl (hS _ _ aB aB) rfl rfl ?_; rintro _ _ _ ⟨rfl, rfl, rfl⟩; refine ⟨okF, ?_⟩)
 repeat (refine aK ?_)
 (refine aD rfl (fun _ => nC (pvs := []) (cells := zT3) rfl rfl) rfl rfl ?_)
 repeat (refine aK ?_)
 refine gI (rs := [.cell 2 43, .tmp 3]) (vs := [.agg zT3.toArray, .int .i64 cc]) (.inl rfl) rfl (.cellN (cs := zT3) inferInstance rfl aB rfl (.tmp rfl .nil)) rfl M0 I0 aF aG ⟨rfl, rfl, rfl⟩
theorem aJZ {m : MX} {k K : Nat} (hK : K = kb k 4) (hk : K ≤ 1000000000) (dm : m.fit 3 4) (hm : nU m k ∈ I0) :
  CD Tryz.prog 25 [mv m] X w0 M0 I0 (fun v M I => if ctrOk (oQ m.q 4) then
   (M0 = M ∧ ∃ a b c : RE, v = .tuple #[.agg (recs eR [a, b, c]).toArray, .int .i64 0] ∧ [a.q, b.q, c.q] = (List.range 3).map (fun i => at2 (oQ m.q 4) 0 i / at2 (oQ m.q 4) 0 3) ∧ I = bZ c (2 * K) :: bZ b (2 * K) :: bZ a (2 * K) :: I0) else (M0 = M ∧ I0 = I ∧ v = .tuple #[.agg zT3.toArray, .int .i64 13])) := by
 have hkk : k ≤ K := by rw [hK]; exact tX k (Nat.zero_le 4)
 refine kV (φ := m.raw.sml) (fun w hw => Mem.xsml hm dm (by omega) hw) (fun hsm => ?_)
 have hS : ∀ M0 I0, kW m.raw ∈ I0 → mP ⟨none, 0, []⟩ ∈ I0 → CD Tryz.prog 84 [mv m, .slice none 0 0] X w0 M0 I0 (fun v M I => M0 = M ∧ I0 = I ∧ v = .int .i64 0) := fun M0 I0 h1 h2 => by
  have := uB (X := X) (w0 := w0) (M0 := M0) (I0 := I0) (m := m.raw) (x := ⟨none, 0, []⟩) hsm ⟨by show 0 ≤ _; omega, fun e he => by simp at he⟩ h1 h2
  have e0 : qV m.raw ⟨none, 0, []⟩ = 0 := by
   unfold qV
   rw [if_pos, if_pos]
   ·refine ⟨by rw [m.raw_rows]; exact dm.1.1, fun r hr => ?_⟩
    obtain ⟨s, hs, rfl⟩ := List.mem_map.1 hr
    show (s.es.map RE.raw).length = 4
    rw [List.length_map]; exact dm.1.2 s hs
   ·refine ⟨fun e he => by simp at he, fun r hr => ?_⟩
    obtain ⟨s, hs, rfl⟩ := List.mem_map.1 hr
    exact s.raw_good
  rw [e0, lU] at this
  exact this
 have hW := fun M0 I0 => nY (X := X) (w0 := w0) (M0 := M0) (I0 := I0) (x := 1) (by decide) (k := 0) (by decide)
 refine eD (φ := kW m.raw) (Hv.xraw hm (by omega)) ?_
 refine eD (φ := mP ⟨none, 0, []⟩) ⟨fun X w hw => ⟨Sl.nil _ _ _, fun e he => by simp at he, ⟨Nat.le_refl _, .inr ⟨rfl, rfl⟩⟩⟩⟩ ?_
 refine bX Tryz.func25 rfl Tryz.ntmps25 rfl ?_
 refine aN ?_
 refine aI ?_
 (refine aC rfl rfl ?_; intro b2; refine ⟨okF, ?_⟩)
 repeat (refine aK ?_)
 (refine aA rfl (hS _ _ aB aB) rfl rfl ?_; rintro _ _ _ ⟨rfl, rfl, rfl⟩; refine ⟨okF, ?_⟩)
 repeat (refine aK ?_)
 (refine aA rfl (aOI (R := 3) (C := 4) (k0 := k) (by omega) dm aB) rfl rfl ?_; rintro _ _ _ ⟨rfl, n, rfl, hn, hnc, rfl⟩; refine ⟨okF, ?_⟩)
 rw [← hK]
 rw [← hn]
 have hnl : n.q.length = n.rows.length := by simp
 have hx : 0 < n.rows.length → at2 n.q 0 3 = (gt (gt n.rows 0).es 3).q := fun h => by
  have := hnc _ (dI (ms := n.rows) (i := 0) (by omega))
  exact rU (m := n) (i := 0) (j := 3) h (by show 3 < (gt n.rows 0).es.length; omega)
 refine gN (φ := bP (n).p (recs eL (n).rows)) (Hv.xsl aB) ?_
 by_cases h1 : n.rows.length = 1
 ·have hc4 : (gt n.rows 0).es.length = 4 := hnc _ (dI (by omega))
  refine gN (φ := bP (gt n.rows 0).p (recs eR (gt n.rows 0).es)) (Hv.xrsl aB (by omega)) ?_
  refine gN (φ := bZ (gt (gt n.rows 0).es 3) K) (Hv.xel aB (by omega) (by omega)) ?_
  have hSg := fun M0 I0 h => kQ (X := X) (w0 := w0) (M0 := M0) (I0 := I0) (e := gt (gt n.rows 0).es 3) (k := K) (by omega) h
  by_cases h0 : (gt (gt n.rows 0).es 3).q = 0
  ·have hno : ¬ ctrOk n.q := fun h => h.2 (by rw [hx (by omega)]; exact h0)
   simp only [if_neg hno]
   rw [(oF _).2 h0] at hSg
   repeat (refine aK ?_)
   (refine aA rfl (hSg _ _ (Hv.mem aB)) rfl rfl ?_; rintro _ _ _ ⟨rfl, rfl, rfl⟩; refine ⟨okF, ?_⟩)
   repeat (refine aK ?_)
   (refine aD rfl (fun _ => nC (pvs := []) (cells := zT3) rfl rfl) rfl rfl ?_)
   repeat (refine aK ?_)
   refine gI (rs := [.cell 2 43, .tmp 3]) (vs := [.agg zT3.toArray, .int .i64 13]) (.inl rfl) rfl (.cellN (cs := zT3) inferInstance rfl aB rfl (.tmp rfl .nil)) rfl M0 I0 aF aG ⟨rfl, rfl, rfl⟩
  ·have hyes : ctrOk n.q := ⟨by omega, by rw [hx (by omega)]; exact h0⟩
   simp only [if_pos hyes]
   have hs1 : ¬ (gt (gt n.rows 0).es 3).q.num.sign = 0 := fun h => h0 ((oF _).1 h)
   generalize (gt (gt n.rows 0).es 3).q.num.sign = sg1 at *
   have hD := fun (x : RE) M0 I0 h1 h2 => oN (X := X) (w0 := w0) (M0 := M0) (I0 := I0) (a := x) (b := gt (gt n.rows 0).es 3) (k := 0) (m := K) (by omega) h0 h1 h2
   refine gN (φ := mF ⟨vH (gt n.rows 0).p (gt n.rows 0).c 0 4, (gt n.rows 0).c - 0, (gt n.rows 0).es.take 3⟩ K) (Hv.cut3 (m := n) aB (by omega)) ?_
   refine mK (fun w hw => (((hw.imm _ (show nU n K ∈ _ by exact aB)).2 : IsX n K _ w).row _ (dI (i := 0) (by omega))).cap.1) (fun hcap => ?_)
   obtain ⟨rl, hrl2⟩ : ∃ rl : RL, rl = ⟨vH (gt n.rows 0).p (gt n.rows 0).c 0 4, (gt n.rows 0).c - 0, (gt n.rows 0).es.take 3⟩ := ⟨_, rfl⟩
   rw [← hrl2]
   have hrlen : rl.es.length = 3 := by rw [hrl2]; show ((gt n.rows 0).es.take 3).length = 3; rw [List.length_take]; omega
   have hrlv : Value.slice (vH (gt n.rows 0).p (gt n.rows 0).c 0 4) 3 ((gt n.rows 0).c - 0) = lv rl := by
    show _ = Value.slice rl.p rl.es.length rl.c
    rw [hrlen, hrl2]
   have hrq : ∀ i : Nat, i < 3 → rl.q.getD i 0 = at2 n.q 0 i := fun i hi => by
    have e1 : gt rl.es (i : Int) = gt (gt n.rows ((0 : Nat) : Int)).es (i : Int) := by
     rw [gU (by omega), gU (by show i < (gt n.rows 0).es.length; omega)]
     simp only [hrl2, List.getElem_take]; rfl
    rw [kH (by omega), e1]
    exact (rU (m := n) (i := 0) (j := i) (by omega) (by show i < (gt n.rows 0).es.length; omega)).symm
   repeat (refine aK ?_)
   (refine aA rfl (hSg _ _ (Hv.mem aB)) rfl rfl ?_; rintro _ _ _ ⟨rfl, rfl, rfl⟩; refine ⟨okF, ?_⟩)
   repeat (refine aK ?_)
   refine mY (fun G M I => ∃ (b7 : Nat) (e7 : RE), e7.q = 1 / (gt (gt n.rows 0).es 3).q ∧ G = [(2, .pointer (some ⟨b2, 0, none⟩)), (5, mv n), (7, .pointer (some ⟨b7, 0, none⟩))] ∧ M = .blk b7 (eR e7) 42 :: .blk b2 zT3 43 :: M0 ∧ I = bZ e7 K :: mF rl K :: bP n.p (recs eL n.rows) :: I0) ?_ ?_
   ·((repeat refine aN ?_); refine jS (.blk b2 zT3 43 :: M0) (bZ (gt (gt n.rows 0).es 3) K :: bP (gt n.rows 0).p (recs eR (gt n.rows 0).es) :: mF rl K :: bP n.p (recs eL n.rows) :: I0) mixed ?_)
    refine cK (fuel := 8) (listed' := #[false, true, true, true, true, true, false, false, false, false, false, false, false]) [1, 2, 3, 4, 5] [3, 3, 3, 3, 2] aF aG (by kernel_rfl) (by kernel_rfl) rfl rfl ?_
    repeat (refine aK ?_)
    refine aQ (fuel := 7) (i := 0) (j := 10) (by kernel_rfl) ?_ ?_
    ·(refine aA rfl (hW _ _) rfl rfl ?_; rintro _ _ _ ⟨rfl, e1, rfl, he1, rfl⟩; refine ⟨okF, ?_⟩)
     refine aM ?_
     repeat (refine aK ?_)
     refine aQ (fuel := 6) (i := 6) (j := 10) (by kernel_rfl) ?_ ?_
     ·(refine aA rfl (hD e1 _ _ (Hv.mem aB) (Hv.mem aB)) rfl rfl ?_; rintro _ _ _ ⟨rfl, e7, rfl, he7, rfl⟩; refine ⟨okF, ?_⟩)
      refine aM ?_
      refine aH [7, 8, 9, 10, 11, 12] [1, 1, 2, 0, 0, 0] aF aG (by kernel_rfl) (by kernel_rfl) rfl rfl ?_
      repeat (refine aK ?_)
      (refine aC rfl rfl ?_; intro b7; refine ⟨okF, ?_⟩)
      repeat (refine aK ?_)
      refine bW (φ := bZ e7 K) (Hv.q (k := 0 + K) aB (by omega)) ?_; refine aX _ _ _ aV aF aG ⟨b7, e7, by rw [he7, he1]; rfl, rfl, rfl, rfl⟩
     ·(refine aC rfl rfl ?_; intro b7; refine ⟨okF, ?_⟩)
      refine aM ?_
      refine aH [6, 7, 8, 9, 11, 12] [0, 0, 0, 1, 0, 0] aF aG (by kernel_rfl) (by kernel_rfl) rfl rfl ?_
      repeat (refine aK ?_)
      (refine aA rfl (hD e1 _ _ (Hv.mem aB) (Hv.mem aB)) rfl rfl ?_; rintro _ _ _ ⟨rfl, e7, rfl, he7, rfl⟩; refine ⟨okF, ?_⟩)
      repeat (refine aK ?_)
      refine bW (φ := bZ e7 K) (Hv.q (k := 0 + K) aB (by omega)) ?_; refine aX _ _ _ aV aF aG ⟨b7, e7, by rw [he7, he1]; rfl, rfl, rfl, rfl⟩
    ·(refine aC rfl rfl ?_; intro b7; refine ⟨okF, ?_⟩)
     refine aM ?_
     refine aH [0, 6, 7, 8, 9, 11, 12] [0, 0, 0, 0, 1, 0, 0] aF aG (by kernel_rfl) (by kernel_rfl) rfl rfl ?_
     repeat (refine aK ?_)
     (refine aA rfl (hW _ _) rfl rfl ?_; rintro _ _ _ ⟨rfl, e1, rfl, he1, rfl⟩; refine ⟨okF, ?_⟩)
     repeat (refine aK ?_)
     (refine aA rfl (hD e1 _ _ (Hv.mem aB) (Hv.mem aB)) rfl rfl ?_; rintro _ _ _ ⟨rfl, e7, rfl, he7, rfl⟩; refine ⟨okF, ?_⟩)
     repeat (refine aK ?_)
     refine bW (φ := bZ e7 K) (Hv.q (k := 0 + K) aB (by omega)) ?_; refine aX _ _ _ aV aF aG ⟨b7, e7, by rw [he7, he1]; rfl, rfl, rfl, rfl⟩
   ·rintro G M I ⟨b7, e7, he7, rfl, rfl, rfl⟩
    have hT := fun M0 I0 h1 h2 => aJR (X := X) (w0 := w0) (M0 := M0) (I0 := I0) (x := rl) (κ := e7) (u := K) (m := K) (n := 3) (by omega) (by omega) hrlen h1 h2
    (repeat refine aN ?_); refine jS (.blk b7 (eR e7) 42 :: M0) (bZ e7 K :: mF rl K :: bP n.p (recs eL n.rows) :: I0) mixed ?_
    refine cK (fuel := 4) (listed' := #[true, true, true, true, true, true, false, false, false, false]) [0, 1, 2, 3, 4, 5] [1, 1, 1, 0, 0, 0] aF aG (by kernel_rfl) (by kernel_rfl) rfl rfl ?_
    repeat (refine aK ?_)
    (refine aD rfl (fun _ => xB (e := 42) (sz := 4) 0 3 3 rfl (.inl ⟨rfl, rfl⟩) (.inr ⟨_, _, _, rfl, rfl, rfl⟩) (by omega) (by omega) (by omega)) rfl rfl ?_)
    rw [hrlv]
    repeat (refine aK ?_)
    (refine aA rfl (hT _ _ aB (Hv.mem aB)) rfl rfl ?_; rintro _ _ _ ⟨rfl, r, rfl, hr, rfl⟩; refine ⟨okF, ?_⟩)
    have hrl3 : r.es.length = 3 := by have := congrArg List.length hr; simpa using this
    have hrq2 : ∀ i : Nat, i < 3 → r.q.getD i 0 = at2 n.q 0 i / (gt (gt n.rows 0).es 3).q := fun i hi => by
     rw [hr]
     have : ((List.range 3).map (fun i => rl.q.getD i 0 * e7.q)).getD i 0 = rl.q.getD i 0 * e7.q := by simp [List.getD, hi]
     rw [this, hrq i hi, he7]; grind
    refine mK (fun w hw => Mem.okL (r := r) (k := K + K) aB (by omega) hw) (fun hok => ?_)
    obtain ⟨a, b, c, habc⟩ := aJY hrl3
    refine gN (φ := bP r.p (recs eR [a, b, c])) (by rw [← habc]; exact Hv.lsl aB) ?_
    refine gN (φ := gM [a, b, c] (2 * K)) (by rw [← habc, show 2 * K = K + K by omega]; exact Hv.lall aB) ?_
    refine gN (φ := bZ a (2 * K)) (Hv.all (i := 0) (List.Mem.head _) (by simp) (Nat.le_refl _)) ?_
    refine gN (φ := bZ b (2 * K)) (Hv.all (i := 1) (List.Mem.tail _ (List.Mem.head _)) (by simp) (Nat.le_refl _)) ?_
    refine gN (φ := bZ c (2 * K)) (Hv.all (i := 2) (List.Mem.tail _ (List.Mem.tail _ (List.Mem.head _))) (by simp) (Nat.le_refl _)) ?_
    refine aM ?_
    refine aLU (.blk b7 (eR e7) 42 :: M0) (bZ c (2 * K) :: bZ b (2 * K) :: bZ a (2 * K) :: bP r.p (recs eR [a, b, c]) :: bZ e7 K :: mF rl K :: bP n.p (recs eL n.rows) :: I0) aF aG ?_
    refine aH [6, 7, 8, 9] [0, 0, 0, 0] aF aG (by kernel_rfl) (by kernel_rfl) rfl rfl ?_
    refine aD rfl (fun _ => aFE (len := 3) (p := some (pt r.p 0)) (by rw [aOX hok]; rfl) (by omega)) rfl rfl ?_
    repeat (refine aK ?_)
    refine gI (rs := [.cell 2 43, .tmp 3]) (vs := [.agg (recs eR [a, b, c]).toArray, .int .i64 0]) (.inl rfl) rfl (.cellN (cs := recs eR [a, b, c]) inferInstance rfl aB rfl (.tmp rfl .nil)) rfl M0 (bZ c (2 * K) :: bZ b (2 * K) :: bZ a (2 * K) :: I0) aF aG ⟨rfl, a, b, c, rfl, ?_, rfl⟩
    rw [hx (by omega)]
    have h0' := hrq2 0 (by omega)
    have h1' := hrq2 1 (by omega)
    have h2' := hrq2 2 (by omega)
    have hre : r.q = [a.q, b.q, c.q] := by show qs r.es = _; rw [habc]; rfl
    rw [hre] at h0' h1' h2'
    simp only [List.getD, List.getElem?_cons_zero, List.getElem?_cons_succ, Option.getD_some] at h0' h1' h2'
    rw [h0', h1', h2']
    rfl
 ·have hno : ¬ ctrOk n.q := fun h => h1 (by rw [← hnl]; exact h.1)
  simp only [if_neg hno]
  repeat (refine aK ?_)
  (refine aD rfl (fun _ => nC (pvs := []) (cells := zT3) rfl rfl) rfl rfl ?_)
  repeat (refine aK ?_)
  refine gI (rs := [.cell 2 43, .tmp 3]) (vs := [.agg zT3.toArray, .int .i64 13]) (.inl rfl) rfl (.cellN (cs := zT3) inferInstance rfl aB rfl (.tmp rfl .nil)) rfl M0 I0 aF aG ⟨rfl, rfl, rfl⟩
end
end Go.Proofs.YtgeagiikkeiioaaGreat

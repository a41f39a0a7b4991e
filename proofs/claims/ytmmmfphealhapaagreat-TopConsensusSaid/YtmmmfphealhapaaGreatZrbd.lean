/- The homography of four pairs (package homography); quotients of integers; the first integer that is not zero. The walk, kept once. Functions of Go's slices package, at slices of ints and the like. consensus: far, Check, Size, kinded, tolerance. -/
import Derived.Test.YtmmmfphealhapaaGreatZrbc
import Derived.Test.YtmmmfphealhapaaGreatZrap
import Derived.Test.YtmmmfphealhapaaGreatZrba
import Derived.Test.YtmmmfphealhapaaGreatZraw
import Derived.Test.YtmmmfphealhapaaGreatZrae
import Derived.Test.YtmmmfphealhapaaGreatZrag
set_option linter.unusedSimpArgs false
set_option linter.unusedVariables false
set_option maxRecDepth 100000
set_option maxHeartbeats 4000000
namespace Go.Proofs.YtmmmfphealhapaaGreat
open Go Go.Fx
theorem os4 {α : Type} [Inhabited α] {os : List α} (h : os.length = 4) : os = [gt os 0, gt os 1, gt os 2, gt os 3] := by
 match os, h with
 | [_, _, _, _], _ => rfl
abbrev z24 : List Value := recs wT [none, none, none, none]
def aGU (ps : List Q4) (M0 : List Ent) (I0 : List bA) (v : Value) (M : List Ent) (I : List bA) : Prop := M0 = M ∧ if colP (l4 ps) ∨ colP (m4 ps) then (I0 = I ∧ v = .tuple #[.agg z18.toArray, .int .i64 13]) else ∃ (h : HZ) (g : Int), v = .tuple #[sN h, .int .i64 0] ∧ g ≠ 0 ∧ (bD h.m).map (fun x => x * g) = bD (eD ps) ∧ RedL (bD h.m) ∧ I = eX h 772 :: I0
section
variable {X : List Nat} {w0 : World} {M0 : List Ent} {I0 : List bA}
theorem aCN {ps : List Q4} (hp : ps.length = 4) (hs : ∀ s ∈ ps, s.near) : CD Tryz.prog 10 [.agg (recs kI ps).toArray] X w0 M0 I0 (aGU ps M0 I0) := by
 have hB := fun (w : QZ) M0 I0 h1 => aOA (X := X) (w0 := w0) (M0 := M0) (I0 := I0) (w := w) h1
 unfold aGU
 refine bV Tryz.func10 rfl Tryz.ntmps10 rfl ?_
 refine aH ?_
 refine aI ?_
 (refine aK rfl rfl rfl ?_; intro b1; refine ⟨okF, ?_⟩)
 refine aO (cs := recs kI ps) .here ?_
 (refine aC rfl rfl ?_; intro b2; refine ⟨okF, ?_⟩)
 repeat (refine aJ ?_)
 (refine aC rfl rfl ?_; intro b4; refine ⟨okF, ?_⟩)
 (refine aC rfl rfl ?_; intro b5; refine ⟨okF, ?_⟩)
 repeat (refine aJ ?_)
 (apply dW; exact fV; exact rfl; exact aB; exact AtsZ.all (by rw [iP, hp]); exact rfl; exact rfl)
 repeat (refine aJ ?_)
 refine dV (φ := allT [none, none, none, none] 63) (Hv.tNil (n := 4)) ?_
 refine bG [2, 4, 5, 12] rfl (fun k G M I => ∃ (i : Nat) (o1 o2 : List (Option TZ)), i ≤ 4 ∧ k = 4 - i ∧ o1.length = 4 ∧ o2.length = 4 ∧ (∀ j : Nat, j < i → ∃ e : TZ, gt o1 (j : Int) = some e ∧ e.t = oP (gt ps (j : Int))) ∧ (∀ j : Nat, j < i → ∃ e : TZ, gt o2 (j : Int) = some e ∧ e.t = ptT (gt ps (j : Int))) ∧ G = [(13, .int .i64 i)] ∧ M = .blk b5 (recs wT o2) 101 :: .blk b4 (recs wT o1) 101 :: .blk b2 z18 44 :: M0 ∧ I = allT o1 63 :: allT o2 63 :: aX (some ⟨b1, 0, none⟩) (recs kI ps) :: I0) (4) _ _ _ aS aG aF (⟨0, [none, none, none, none], [none, none, none, none], by omega, rfl, rfl, rfl, fun j hj => absurd hj (by omega), fun j hj => absurd hj (by omega), rfl, rfl, rfl⟩) ?_
 rintro kk G M I ⟨i, o1, o2, hi, rfl, hl1, hl2, ho1, ho2, rfl, rfl, rfl⟩
 by_cases hii : i < 4
 ·obtain ⟨s, hss⟩ : ∃ s, gt ps (i : Int) = s := ⟨_, rfl⟩
  have hsn : s.near := hs s (by rw [← hss]; exact jO ⟨by omega, by omega⟩)
  have hR1 := fun M0 I0 => sV (X := X) (w0 := w0) (M0 := M0) (I0 := I0) hsn.x hsn.y
  have hR2 := fun M0 I0 => sV (X := X) (w0 := w0) (M0 := M0) (I0 := I0) hsn.u hsn.v
  have hH1 := fun M0 I0 => aBM (X := X) (w0 := w0) (M0 := M0) (I0 := I0) hsn.x hsn.y
  have hH2 := fun M0 I0 => aBM (X := X) (w0 := w0) (M0 := M0) (I0 := I0) hsn.u hsn.v
  repeat (refine aJ ?_)
  (refine aD rfl (fun _ => vH (cs := recs kI ps) (vs := kI s) (i := (i : Int)) rfl rfl ⟨by omega, by omega⟩ (by rw [← hss]; exact aAT ⟨by omega, by omega⟩)) rfl rfl ?_)
  (refine aC rfl rfl ?_; intro b7; refine ⟨okF, ?_⟩)
  repeat (refine aJ ?_)
  (refine aA rfl (hR1 _ _) rfl rfl ?_; rintro _ _ _ ⟨rfl, rfl, rfl⟩; refine ⟨okF, ?_⟩)
  repeat (refine aJ ?_)
  (refine aA rfl (hR2 _ _) rfl rfl ?_; rintro _ _ _ ⟨rfl, rfl, rfl⟩; refine ⟨okF, ?_⟩)
  repeat (refine aJ ?_)
  (repeat refine aH ?_); refine bB (.blk b7 (kI s) 30 :: M0) (I0) [0, 1, 2, 3, 5, 6, 4, 8, 7, 9, 10, 11] [2, 3, 2, 1, 3, 2, 0, 1, 0, 0, 0, 0] aG aF mixed (by kernel_rfl) ?_
  repeat (refine aJ ?_)
  (refine aA rfl (hH1 _ _) rfl rfl ?_; rintro _ _ _ ⟨rfl, p, rfl, hp1, rfl⟩; refine ⟨okF, ?_⟩)
  repeat (refine yXh ?_)
  (refine aA rfl (hH2 _ _) rfl rfl ?_; rintro _ _ _ ⟨rfl, q, rfl, hq1, rfl⟩; refine ⟨okF, ?_⟩)
  refine gF (vs := kW p) rfl rfl rfl (Ones.one p) lN (StAts.o0 (enc := wT) (sz := 6) (ms := o1) (i := (i : Int)) (some p) ⟨by omega, by omega⟩ rfl) rfl rfl ⟨okF, ?_⟩
  repeat (refine yXh ?_)
  refine gF (vs := kW q) rfl rfl rfl (Ones.one q) lN (StAts.o0 (enc := wT) (sz := 6) (ms := o2) (i := (i : Int)) (some q) ⟨by omega, by omega⟩ rfl) rfl rfl ⟨okF, ?_⟩
  repeat (refine aJ ?_)
  refine rO (φ := allT (st o1 (i : Int) (some p)) 63) (Hv.tSet aB aB) ?_
  refine rO (φ := allT (st o2 (i : Int) (some q)) 63) (Hv.tSet (os := o2) (g := q) aB aB) ?_
  refine aQ (4 - (i + 1)) _ _ _ (by first | omega | (simp only [List.length_append, List.length_cons, List.length_nil]; omega)) aS aG aF (⟨i + 1, st o1 (i : Int) (some p), st o2 (i : Int) (some q), by omega, rfl, by rw [nT]; exact hl1, by rw [nT]; exact hl2, fun t ht => by
   rw [pK (by omega) (by omega)]
   by_cases e : t = i
   ·subst e
    rw [if_pos rfl, hss]
    exact ⟨p, rfl, hp1⟩
   ·rw [if_neg e]
    exact ho1 t (by omega), fun t ht => by
   rw [pK (by omega) (by omega)]
   by_cases e : t = i
   ·subst e
    rw [if_pos rfl, hss]
    exact ⟨q, rfl, hq1⟩
   ·rw [if_neg e]
    exact ho2 t (by omega), rfl, rfl, rfl⟩)
 obtain rfl : i = 4 := by omega
 obtain ⟨a0, ea0, ta0⟩ := ho1 0 (by omega)
 obtain ⟨a1, ea1, ta1⟩ := ho1 1 (by omega)
 obtain ⟨a2, ea2, ta2⟩ := ho1 2 (by omega)
 obtain ⟨a3, ea3, ta3⟩ := ho1 3 (by omega)
 obtain ⟨c0, ec0, tc0⟩ := ho2 0 (by omega)
 obtain ⟨c1, ec1, tc1⟩ := ho2 1 (by omega)
 obtain ⟨c2, ec2, tc2⟩ := ho2 2 (by omega)
 obtain ⟨c3, ec3, tc3⟩ := ho2 3 (by omega)
 have e1 : o1 = [some a0, some a1, some a2, some a3] := by rw [os4 hl1, show gt o1 0 = some a0 from ea0, show gt o1 1 = some a1 from ea1, show gt o1 2 = some a2 from ea2, show gt o1 3 = some a3 from ea3]
 have e2 : o2 = [some c0, some c1, some c2, some c3] := by rw [os4 hl2, show gt o2 0 = some c0 from ec0, show gt o2 1 = some c1 from ec1, show gt o2 2 = some c2 from ec2, show gt o2 3 = some c3 from ec3]
 clear ho1 ho2
 subst e1
 subst e2
 have hZ := fun (a b c d : TZ) (I : List bA) (h : allT [some a, some b, some c, some d] 63 ∈ I) => (⟨fun X wd hw2 => by
  have h1 : AllT _ _ X wd := hw2 _ h
  exact ⟨h1.go _ (by simp), h1.go _ (by simp), h1.go _ (by simp), h1.go _ (by simp)⟩⟩ : Hv I (nP ⟨a, b, c, d⟩ 63))
 refine dV (φ := nP ⟨a0, a1, a2, a3⟩ 63) (hZ a0 a1 a2 a3 _ aB) ?_
 refine dV (φ := nP ⟨c0, c1, c2, c3⟩ 63) (hZ c0 c1 c2 c3 _ aB) ?_
 have w1 : (QZ.mk a0 a1 a2 a3).t = l4 ps := by show (⟨a0.t, a1.t, a2.t, a3.t⟩ : P4 Int) = _; rw [ta0, ta1, ta2, ta3]; rfl
 have w2 : (QZ.mk c0 c1 c2 c3).t = m4 ps := by show (⟨c0.t, c1.t, c2.t, c3.t⟩ : P4 Int) = _; rw [tc0, tc1, tc2, tc3]; rfl
 have e3 : ∀ a b c d : TZ, recs wT [some a, some b, some c, some d] = eQZ ⟨a, b, c, d⟩ := fun _ _ _ _ => rfl
 rw [e3, e3]
 have hB1 := hB ⟨a0, a1, a2, a3⟩
 have hB2 := hB ⟨c0, c1, c2, c3⟩
 unfold BasR at hB1 hB2
 rw [w1] at hB1
 rw [w2] at hB2
 by_cases k1 : colP (l4 ps)
 ·simp only [if_pos k1] at hB1
  by_cases k2 : colP (m4 ps)
  ·simp only [if_pos k2] at hB2
   repeat (refine aJ ?_)
   (refine aA rfl (hB1 _ _ aB) rfl rfl ?_; rintro _ _ _ ⟨rfl, rfl, rfl⟩; refine ⟨okF, ?_⟩)
   repeat (refine aJ ?_)
   (refine aC rfl rfl ?_; intro b8; refine ⟨okF, ?_⟩)
   repeat (refine aJ ?_)
   (refine aA rfl (hB2 _ _ aB) rfl rfl ?_; rintro _ _ _ ⟨rfl, rfl, rfl⟩; refine ⟨okF, ?_⟩)
   repeat (refine aJ ?_)
   (refine aC rfl rfl ?_; intro b10; refine ⟨okF, ?_⟩)
   repeat (refine aJ ?_)
   (refine aD rfl (fun _ => nZ (pvs := []) (cells := z18) rfl rfl) rfl rfl ?_)
   repeat (refine aJ ?_)
   refine dP (rs := [.cell 2 44, .tmp 3]) (vs := [.agg z18.toArray, .int .i64 13]) (.inl rfl) rfl (.cellN (cs := z18) inferInstance rfl aB rfl (.tmp rfl .nil)) rfl M0 I0 aG aF ⟨rfl, by rw [if_pos (show colP (l4 ps) ∨ colP (m4 ps) from .inl k1)]; exact ⟨rfl, rfl⟩⟩
  ·simp only [if_neg k2] at hB2
   repeat (refine aJ ?_)
   (refine aA rfl (hB1 _ _ aB) rfl rfl ?_; rintro _ _ _ ⟨rfl, rfl, rfl⟩; refine ⟨okF, ?_⟩)
   repeat (refine aJ ?_)
   (refine aC rfl rfl ?_; intro b8; refine ⟨okF, ?_⟩)
   repeat (refine aJ ?_)
   (refine aA rfl (hB2 _ _ aB) rfl rfl ?_; rintro _ _ _ ⟨rfl, hb, rfl, hbm, rfl⟩; refine ⟨okF, ?_⟩)
   repeat (refine aJ ?_)
   (refine aC rfl rfl ?_; intro b10; refine ⟨okF, ?_⟩)
   repeat (refine aJ ?_)
   (refine aD rfl (fun _ => nZ (pvs := []) (cells := z18) rfl rfl) rfl rfl ?_)
   repeat (refine aJ ?_)
   refine dP (rs := [.cell 2 44, .tmp 3]) (vs := [.agg z18.toArray, .int .i64 13]) (.inl rfl) rfl (.cellN (cs := z18) inferInstance rfl aB rfl (.tmp rfl .nil)) rfl M0 I0 aG aF ⟨rfl, by rw [if_pos (show colP (l4 ps) ∨ colP (m4 ps) from .inl k1)]; exact ⟨rfl, rfl⟩⟩
 ·simp only [if_neg k1] at hB1
  by_cases k2 : colP (m4 ps)
  ·simp only [if_pos k2] at hB2
   repeat (refine aJ ?_)
   (refine aA rfl (hB1 _ _ aB) rfl rfl ?_; rintro _ _ _ ⟨rfl, ha, rfl, ham, rfl⟩; refine ⟨okF, ?_⟩)
   repeat (refine aJ ?_)
   (refine aC rfl rfl ?_; intro b8; refine ⟨okF, ?_⟩)
   repeat (refine aJ ?_)
   (refine aA rfl (hB2 _ _ aB) rfl rfl ?_; rintro _ _ _ ⟨rfl, rfl, rfl⟩; refine ⟨okF, ?_⟩)
   repeat (refine aJ ?_)
   (refine aC rfl rfl ?_; intro b10; refine ⟨okF, ?_⟩)
   repeat (refine aJ ?_)
   (refine aD rfl (fun _ => nZ (pvs := []) (cells := z18) rfl rfl) rfl rfl ?_)
   repeat (refine aJ ?_)
   refine dP (rs := [.cell 2 44, .tmp 3]) (vs := [.agg z18.toArray, .int .i64 13]) (.inl rfl) rfl (.cellN (cs := z18) inferInstance rfl aB rfl (.tmp rfl .nil)) rfl M0 I0 aG aF ⟨rfl, by rw [if_pos (show colP (l4 ps) ∨ colP (m4 ps) from .inr k2)]; exact ⟨rfl, rfl⟩⟩
  ·simp only [if_neg k2] at hB2
   repeat (refine aJ ?_)
   (refine aA rfl (hB1 _ _ aB) rfl rfl ?_; rintro _ _ _ ⟨rfl, ha, rfl, ham, rfl⟩; refine ⟨okF, ?_⟩)
   repeat (refine aJ ?_)
   (refine aC rfl rfl ?_; intro b8; refine ⟨okF, ?_⟩)
   repeat (refine aJ ?_)
   (refine aA rfl (hB2 _ _ aB) rfl rfl ?_; rintro _ _ _ ⟨rfl, hb, rfl, hbm, rfl⟩; refine ⟨okF, ?_⟩)
   repeat (refine aJ ?_)
   (refine aC rfl rfl ?_; intro b10; refine ⟨okF, ?_⟩)
   repeat (refine aJ ?_)
   have hC := fun M0 I0 h1 => aNC (X := X) (w0 := w0) (M0 := M0) (I0 := I0) (h := ha) (u := 256) (by omega) h1
   have hT := fun (c : HZ) M0 I0 h1 => aBY (X := X) (w0 := w0) (M0 := M0) (I0 := I0) (h := c) (u := 513) h1
   have hP := fun (c : HZ) M0 I0 h1 h2 => aKA (X := X) (w0 := w0) (M0 := M0) (I0 := I0) (g := hb) (h := c) (ku := 256) (m := 513) (by omega) (by omega) h1 h2
   have hRd := fun (p : HZ) (hnz : ∃ x ∈ bD p.m, x ≠ 0) M0 I0 h1 => aGC (X := X) (w0 := w0) (M0 := M0) (I0 := I0) (h := p) (u := 772) (by omega) hnz h1
   (repeat refine aH ?_); refine bB (.blk b10 (nQ hb) 44 :: .blk b8 (nQ ha) 44 :: M0) (I0) [0, 1, 2, 3, 4, 5, 6, 7] [3, 3, 0, 0, 0, 0, 0, 0] aG aF mixed (by kernel_rfl) ?_
   repeat (refine aJ ?_)
   (refine aA rfl (hC _ _ aB) rfl rfl ?_; rintro _ _ _ ⟨rfl, c, rfl, hc, rfl⟩; refine ⟨okF, ?_⟩)
   (refine aA rfl (hT c _ _ aB) rfl rfl ?_; rintro _ _ _ ⟨rfl, rfl, rfl⟩; refine ⟨okF, ?_⟩)
   (refine aA rfl (hP c.tr _ _ aB aB) rfl rfl ?_; rintro _ _ _ ⟨rfl, p, rfl, hpm, rfl⟩; refine ⟨okF, ?_⟩)
   have hpG : p.m = eD ps := by rw [hpm, HZ.tr_m, hc, ham, hbm]; rfl
   (refine aA rfl (hRd p (by rw [hpG]; exact vU k1 k2) _ _ aB) rfl rfl ?_; rintro _ _ _ ⟨rfl, r, g, rfl, hg0, hrm, hrr, rfl⟩; refine ⟨okF, ?_⟩)
   rw [hpG] at hrm
   repeat (refine aJ ?_)
   refine dP (rs := [.cell 2 44, .tmp 3]) (vs := [sN r, .int .i64 0]) (.inl rfl) rfl (.cellN (cs := nQ r) inferInstance rfl aB rfl (.tmp rfl .nil)) rfl M0 (eX r 772 :: I0) aG aF ⟨rfl, by rw [if_neg (show ¬ (colP (l4 ps) ∨ colP (m4 ps)) from fun h => h.elim k1 k2)]; exact ⟨r, g, rfl, hg0, hrm, hrr, rfl⟩⟩
theorem aLZ {x : ZE} : CD Tryz.prog 108 [nv x] X w0 M0 I0 (fun v M I => M0 = M ∧ I0 = I ∧ v = .bool (B (x.z ≠ 0))) := by
 refine bV Tryz.func108 rfl Tryz.ntmps108 rfl ?_
 refine aH ?_
 refine aI ?_
 (refine aK rfl rfl rfl ?_; intro b1; refine ⟨okF, ?_⟩)
 repeat (refine aJ ?_)
 refine jZ (M' := M0) (I' := I0) aG aF ?_
 refine aN (by first | exact .inl rfl | exact .inr rfl) rfl rfl _ _ aG aF (⟨rfl, rfl, congrArg Value.bool (lH (by
  have h0 : gr x.z.natAbs = [] ↔ x.z.natAbs = 0 := mI
  rw [← List.length_eq_zero_iff] at h0
  omega))⟩)
theorem aMY {b : Nat} {es : List ZE} {T : TypeId} (hl : es.length = 9) (hm : Ent.blk b (recs eN es) T ∈ M0) (hnz : ∃ j : Nat, j < 9 ∧ (gt es (j : Int)).z ≠ 0) :
  CD Tryz.prog 107 [.slice (some ⟨b, 0, none⟩) 9 9, .func (.func 108) #[] #[]] X w0 M0 I0 (fun v M I => M0 = M ∧ I0 = I ∧ ∃ f : Nat, v = .int .i64 (f : Int) ∧ f < 9 ∧ (gt es (f : Int)).z ≠ 0 ∧ ∀ j : Nat, j < f → (gt es (j : Int)).z = 0) := by
 have hC := fun (x : ZE) M0 I0 => aLZ (X := X) (w0 := w0) (M0 := M0) (I0 := I0) (x := x)
 refine bI Tryz.func107 rfl Tryz.ntmps107 rfl ?_
 repeat (refine aJ ?_)
 refine bG [0, 1, 7] rfl (fun k G M I => ∃ (i : Nat), i ≤ 9 ∧ k = 9 - i ∧ (∀ j : Nat, j < i → (gt es (j : Int)).z = 0) ∧ G = [(8, .int .i64 i)] ∧ M = M0 ∧ I = I0) (9) _ _ _ aS aG aF (⟨0, by omega, rfl, fun j hj => absurd hj (by omega), rfl, rfl, rfl⟩) ?_
 rintro kk G M I ⟨i, hi, rfl, hz, rfl, rfl, rfl⟩
 by_cases hii : i < 9
 ·obtain ⟨x, hx⟩ : ∃ x, gt es (i : Int) = x := ⟨_, rfl⟩
  repeat (refine aJ ?_)
  rw [hx]
  (refine jP rfl rfl (hC x _ _) rfl rfl rfl ?_; rintro _ _ _ ⟨rfl, rfl, rfl⟩; refine ⟨okF, ?_⟩)
  by_cases hx0 : x.z = 0
  ·rw [dF (show ¬ x.z ≠ 0 from fun h => h hx0)]
   repeat (refine aJ ?_)
   refine aQ (9 - (i + 1)) _ _ _ (by first | omega | (simp only [List.length_append, List.length_cons, List.length_nil]; omega)) aS aG aF (⟨i + 1, by omega, rfl, fun j hj => by
    by_cases e : j = i
    ·subst e; rw [hx]; exact hx0
    ·exact hz j (by omega), rfl, rfl, rfl⟩)
  ·rw [fA (show x.z ≠ 0 from hx0)]
   repeat (refine aJ ?_)
   refine aN (by first | exact .inl rfl | exact .inr rfl) rfl rfl _ _ aG aF (⟨rfl, rfl, i, rfl, hii, by rw [hx]; exact hx0, hz⟩)
 ·obtain ⟨j, hj, hj0⟩ := hnz
  exact absurd (hz j (by omega)) hj0
theorem wX {x : ZE} {u : Nat} (hu : u ≤ 100000000000) (hx : fZ x u ∈ I0) : CD Tryz.prog 189 [nv x] X w0 M0 I0 (fun v M I => M0 = M ∧ I0 = I ∧ v = nv x) := by
 have hV := fun M0 I0 h1 => sH (X := X) (w0 := w0) (M0 := M0) (I0 := I0) (u := nv x) (z := x.z) (k := u) (by omega) h1
 refine CD.mono (K := fun v M I => M0 = M ∧ I0 = I ∧ v = nv x) ?_ (fun _ _ _ h => h)
 refine bV Tryz.func189 rfl Tryz.ntmps189 rfl ?_
 refine aH ?_
 refine aI ?_
 (refine aK rfl rfl rfl ?_; intro b1; refine ⟨okF, ?_⟩)
 (refine aC rfl rfl ?_; intro b2; refine ⟨okF, ?_⟩)
 repeat (refine aJ ?_)
 (refine aA rfl (hV _ _ aB) rfl rfl ?_; rintro _ _ _ ⟨rfl, rfl, rfl⟩; refine ⟨okF, ?_⟩)
 repeat (refine aJ ?_)
 refine bC (cs := eN x) (.inl rfl) rfl rfl aB rfl M0 I0 aG aF ⟨rfl, rfl, rfl⟩
theorem aGP {x y : ZE} {u : Nat} (hu : u ≤ 100000000000) (hy0 : y.z ≠ 0) (hx : fZ x u ∈ I0) (hy : fZ y u ∈ I0) : CD Tryz.prog 109 [nv x, nv y] X w0 M0 I0 (RQc (Rat.divInt x.z y.z) u M0 I0) := by
 have hC := fun (x : ZE) M0 I0 h => wX (X := X) (w0 := w0) (M0 := M0) (I0 := I0) (x := x) (u := u) hu h
 have hS := fun M0 I0 h => lL (X := X) (w0 := w0) (M0 := M0) (I0 := I0) (u := nv y) (z := y.z) (k := u) (by omega) h
 have hR := fun M0 I0 h1 h2 => rH (X := X) (w0 := w0) (M0 := M0) (I0 := I0) (u := nv x) (v := nv y) (n := x.z) (d := y.z) (k := u) (by omega) hy0 h1 h2
 have hs0 : ¬ y.z.sign = 0 := fun h => hy0 (Int.sign_eq_zero_iff_zero.1 h)
 refine bI Tryz.func109 rfl Tryz.ntmps109 rfl ?_
 refine aH ?_
 refine aI ?_
 (refine aK rfl rfl rfl ?_; intro b2; refine ⟨okF, ?_⟩)
 (refine aK rfl rfl rfl ?_; intro b3; refine ⟨okF, ?_⟩)
 (refine aC rfl rfl ?_; intro b4; refine ⟨okF, ?_⟩)
 repeat (refine aJ ?_)
 (repeat refine aH ?_); refine dG 2 [0, 2, 1, 3, 4, 5] [1, 2, 0, 0, 0, 0] mixed (by kernel_rfl) ?_
 repeat (refine aJ ?_)
 (refine aA rfl (hC x _ _ aB) rfl rfl ?_; rintro _ _ _ ⟨rfl, rfl, rfl⟩; refine ⟨okF, ?_⟩)
 repeat (refine aJ ?_)
 (refine aA rfl (hC y _ _ aB) rfl rfl ?_; rintro _ _ _ ⟨rfl, rfl, rfl⟩; refine ⟨okF, ?_⟩)
 repeat (refine aJ ?_)
 (refine aA rfl (hS _ _ aB) rfl rfl ?_; rintro _ _ _ ⟨rfl, rfl, rfl⟩; refine ⟨okF, ?_⟩)
 repeat (refine aJ ?_)
 (refine aA rfl (hR _ _ aB aB) rfl rfl ?_; rintro _ _ _ ⟨rfl, e, rfl, he, rfl⟩; refine ⟨okF, ?_⟩)
 repeat (refine aJ ?_)
 refine dP (rs := [.cell 4 77, .tmp 5]) (vs := [rv e, .int .i64 0]) (.inl rfl) rfl (.cellN (cs := eR e) inferInstance rfl aB rfl (.tmp rfl .nil)) rfl M0 (jA e u :: I0) aG aF ⟨rfl, e, rfl, he, rfl⟩
end
end Go.Proofs.YtmmmfphealhapaaGreat
namespace Go.Fx
theorem wXn {p g : Prop} (h : g) (w : BoxP g → p := by (intro hh; (first | refine aH ?_ | refine aI ?_ | refine jU ?_ | refine iN ?_ | refine fU ?_ | refine fJ ?_ | refine iI ?_ | refine iB ?_ | refine fT ?_ | refine fP ?_ | refine jY ?_ | refine jR ?_ | refine jS ?_ | refine jX rfl ?_ | refine aL ?_ | (refine gX ?_; first | refine gQ rfl rfl rfl ?_ | (refine gJ rfl rfl ?_; refine fF rfl rfl rfl okD ?_) | refine gT rfl rfl (by omega) ?_ | refine gI rfl rfl (by omega) ?_) | (refine bT ?_; refine aD rfl (fun _ => dL rfl) rfl rfl ?_) | refine aD rfl (fun _ => bH rfl) rfl rfl ?_ | (refine gK ?_; first | refine aD rfl (fun _ => bK rfl rfl w_) rfl rfl ?_ | refine aD rfl (fun _ => bM rfl rfl w_) rfl rfl ?_ | refine aD rfl (fun _ => eQ rfl rfl w_) rfl rfl ?_ | refine aD rfl (fun _ => eO rfl rfl (by omega) q_) rfl rfl ?_ | refine aD rfl (fun _ => eP rfl rfl (by omega) rfl) rfl rfl ?_ | refine aD rfl (fun _ => dK rfl rfl) rfl rfl ?_) | (refine bT ?_; first | refine aD rfl (fun _ => dZ rfl w_) rfl rfl ?_) | (refine gM ?_; first | refine aD rfl (fun _ => dD rfl w_) rfl rfl ?_) | (refine gH ?_; first | refine aD rfl (fun _ => bL rfl) rfl rfl ?_ | refine aD rfl (fun _ => dH rfl rfl) rfl rfl ?_ | refine aD rfl (fun _ => dJ rfl rfl) rfl rfl ?_ | refine aD rfl (fun _ => dI rfl rfl rfl) rfl rfl ?_) | (refine gL ?_; first | refine gP rfl (by decide) rfl rfl ?_ | refine jH rfl (by decide) rfl rfl ?_) | (refine gN ?_; first | refine aD rfl (fun _ => cO rfl) rfl rfl ?_) | (refine gW ?_; first | refine jB rfl rfl iQ rfl rfl ?_ | refine jE zX rfl rfl iQ aP jL rfl rfl ?_ | refine jF zX rfl rfl iQ aP jL rfl rfl ?_ | refine aD rfl (fun _ => bS rfl rfl iQ) rfl rfl ?_) | (refine gV ?_; first | refine jI zX rfl aP nJ rfl rfl ?_ | refine jG zX rfl aP nJ rfl rfl ?_ | refine jC zX rfl aP nJ rfl rfl ?_ | refine fI zX rfl aP nJ rfl rfl ?_ | refine kQ zX rfl aP iG fC rfl rfl ?_ | refine kR zX rfl aP iG fC rfl rfl ?_ | refine kP zX rfl aP iG fC rfl rfl ?_ | refine jM zX rfl aP iG fC rfl rfl ?_) | (refine gU ?_; first | refine aD rfl (fun _ => bR rfl rfl) rfl rfl ?_ | refine aD rfl (fun _ => bJ rfl) rfl rfl ?_) | (refine iH ?_; first | refine lT rfl rfl rfl lW stC rfl rfl ⟨okD, ?_⟩ | refine gF rfl rfl fC qE lW qO rfl rfl ⟨okD, ?_⟩) | (refine iM ?_; first | refine bZ rfl ?_ | refine bQ rfl ?_ | refine jQ rfl (by omega) ?_ | refine lZ rfl (by omega) ?_)); (repeat (first | refine aH ?_ | refine aI ?_ | refine jU ?_ | refine iN ?_ | refine fU ?_ | refine fJ ?_ | refine iI ?_ | refine iB ?_ | refine fT ?_ | refine fP ?_ | refine jY ?_ | refine jR ?_ | refine jS ?_ | refine jX rfl ?_ | refine aL ?_ | (refine gX ?_; first | refine gQ rfl rfl rfl ?_ | (refine gJ rfl rfl ?_; refine fF rfl rfl rfl okD ?_) | refine gT rfl rfl (by omega) ?_ | refine gI rfl rfl (by omega) ?_) | (refine bT ?_; refine aD rfl (fun _ => dL rfl) rfl rfl ?_) | refine aD rfl (fun _ => bH rfl) rfl rfl ?_ | (refine gK ?_; first | refine aD rfl (fun _ => bK rfl rfl w_) rfl rfl ?_ | refine aD rfl (fun _ => bM rfl rfl w_) rfl rfl ?_ | refine aD rfl (fun _ => eQ rfl rfl w_) rfl rfl ?_ | refine aD rfl (fun _ => eO rfl rfl (by omega) q_) rfl rfl ?_ | refine aD rfl (fun _ => eP rfl rfl (by omega) rfl) rfl rfl ?_ | refine aD rfl (fun _ => dK rfl rfl) rfl rfl ?_) | (refine bT ?_; first | refine aD rfl (fun _ => dZ rfl w_) rfl rfl ?_) | (refine gM ?_; first | refine aD rfl (fun _ => dD rfl w_) rfl rfl ?_) | (refine gH ?_; first | refine aD rfl (fun _ => bL rfl) rfl rfl ?_ | refine aD rfl (fun _ => dH rfl rfl) rfl rfl ?_ | refine aD rfl (fun _ => dJ rfl rfl) rfl rfl ?_ | refine aD rfl (fun _ => dI rfl rfl rfl) rfl rfl ?_) | (refine gL ?_; first | refine gP rfl (by decide) rfl rfl ?_ | refine jH rfl (by decide) rfl rfl ?_) | (refine gN ?_; first | refine aD rfl (fun _ => cO rfl) rfl rfl ?_) | (refine gW ?_; first | refine jB rfl rfl iQ rfl rfl ?_ | refine jE zX rfl rfl iQ aP jL rfl rfl ?_ | refine jF zX rfl rfl iQ aP jL rfl rfl ?_ | refine aD rfl (fun _ => bS rfl rfl iQ) rfl rfl ?_) | (refine gV ?_; first | refine jI zX rfl aP nJ rfl rfl ?_ | refine jG zX rfl aP nJ rfl rfl ?_ | refine jC zX rfl aP nJ rfl rfl ?_ | refine fI zX rfl aP nJ rfl rfl ?_ | refine kQ zX rfl aP iG fC rfl rfl ?_ | refine kR zX rfl aP iG fC rfl rfl ?_ | refine kP zX rfl aP iG fC rfl rfl ?_ | refine jM zX rfl aP iG fC rfl rfl ?_) | (refine gU ?_; first | refine aD rfl (fun _ => bR rfl rfl) rfl rfl ?_ | refine aD rfl (fun _ => bJ rfl) rfl rfl ?_) | (refine iH ?_; first | refine lT rfl rfl rfl lW stC rfl rfl ⟨okD, ?_⟩ | refine gF rfl rfl fC qE lW qO rfl rfl ⟨okD, ?_⟩) | (refine iM ?_; first | refine bZ rfl ?_ | refine bQ rfl ?_ | refine jQ rfl (by omega) ?_ | refine lZ rfl (by omega) ?_))); exact hh.out)) : p := w ⟨h⟩
end Go.Fx
namespace Go.Proofs.YtmmmfphealhapaaGreat
open Go Go.Fx
theorem zM {α : Type} [Inhabited α] {a b : List α} (hl : a.length = b.length) (h : ∀ j : Nat, j < a.length → gt a j = gt b j) : a = b := by
 apply List.ext_getElem hl
 intro j h1 h2
 have := h j h1
 rwa [mZ h1, mZ h2] at this
section
variable {X : List Nat} {w0 : World} {M0 : List Ent} {I0 : List bA}
theorem aFP {p q : Option Addr} {a b : List Int} {c c' : Nat} (hn : (a.length : Int) ≤ 9223372036854775807) (ha : aX p (recs (eI .i64) a) ∈ I0) (hb : aX q (recs (eI .i64) b) ∈ I0) :
  CD Tryz.prog 14 [.slice p a.length c, .slice q b.length c'] X w0 M0 I0 (fun v M I => M0 = M ∧ I0 = I ∧ v = .bool (B (a = b))) := by
 refine eY Tryz.func14 rfl Tryz.ntmps14 rfl ?_
 repeat' (first | refine wXn ?_ | refine aV rfl (fun h => ?_) (fun h => ?_) | refine aW rfl rfl (fun h => ?_) (fun h => ?_) | fail)
 ·refine aN (by first | exact .inl rfl | exact .inr rfl) rfl rfl _ _ cZ cK (⟨rfl, rfl, congrArg Value.bool (dF (fun h => by subst h; omega)).symm⟩)
 refine bG [0, 1, 12] rfl (fun k G M I => ∃ i : Nat, i ≤ a.length ∧ k = a.length - i ∧ (∀ j : Nat, j < i → gt a j = gt b j) ∧ G = [(13, .int .i64 i)] ∧ M = M0 ∧ I = I0) (a.length) _ _ _ aS cZ cK (⟨0, by omega, rfl, fun j hj => by omega, rfl, rfl, rfl⟩) ?_
 rintro k G M I ⟨i, hi, rfl, hs, rfl, rfl, rfl⟩
 repeat' (first | refine wXn ?_ | refine aV rfl (fun h => ?_) (fun h => ?_) | refine aW rfl rfl (fun h => ?_) (fun h => ?_) | fail)
 ·(repeat refine aH ?_); refine gZ [0, 1, 2, 3, 4, 5, 6, 7, 8] [0, 0, 0, 0, 0, 0, 0, 0, 0] mixed (by kernel_rfl) ?_
  repeat' (first | refine wXn ?_ | refine aV rfl (fun h => ?_) (fun h => ?_) | refine aW rfl rfl (fun h => ?_) (fun h => ?_) | fail)
  ·refine aN (by first | exact .inl rfl | exact .inr rfl) rfl rfl _ _ cZ cK (⟨rfl, rfl, congrArg Value.bool (dF (fun h => by subst h; contradiction)).symm⟩)
  ·refine aQ (a.length - (i + 1)) _ _ _ (by first | omega | (simp only [List.length_append, List.length_cons, List.length_nil]; omega)) aS cZ cK (⟨i + 1, by omega, rfl, fun j hj => ?_, rfl, rfl, rfl⟩)
   by_cases e : j = i
   ·subst e; omega
   ·exact hs j (by omega)
 ·refine aN (by first | exact .inl rfl | exact .inr rfl) rfl rfl _ _ cZ cK (⟨rfl, rfl, congrArg Value.bool (fA (zM (by omega) (fun j hj => hs j (by omega)))).symm⟩)
end
end Go.Proofs.YtmmmfphealhapaaGreat
namespace Go.Proofs.YtmmmfphealhapaaGreat
open Go Go.Fx
/- ---------- IndexFunc, ContainsFunc of []fiducial/api.Pair ---------- -/
section
variable {X : List Nat} {w0 : World} {M0 : List Ent} {I0 : List bA}
theorem aKX {q : Option Addr} {a : List Q4} {c : Nat} {g : FuncId} [FnOk Tryz.prog g] {fs cs : Array Value} (pr : Q4 → Prop) [DecidablePred pr] (hn : (a.length : Int) ≤ 9223372036854775807) (ha : aX q (recs kI a) ∈ I0)
  (hg : ∀ i : Nat, i < a.length → CD Tryz.prog g (fs.toList ++ [vQ4 (gt a i)] ++ cs.toList) X w0 M0 I0 (fun v M I => M0 = M ∧ I0 = I ∧ v = .bool (B (pr (gt a i))))) :
  CD Tryz.prog 104 [.slice q a.length c, .func (.func g) fs cs] X w0 M0 I0 (fun v M I => M0 = M ∧ I0 = I ∧ ∃ r : Int, v = .int .i64 r ∧ ((∃ i : Nat, i < a.length ∧ r = i ∧ pr (gt a i) ∧ ∀ j : Nat, j < i → ¬ pr (gt a j)) ∨ (r = -1 ∧ ∀ j : Nat, j < a.length → ¬ pr (gt a j)))) := by
 refine bI Tryz.func104 rfl Tryz.ntmps104 rfl ?_
 repeat (refine aJ ?_)
 refine bG [0, 1, 7] rfl (fun k G M I => ∃ i : Nat, i ≤ a.length ∧ k = a.length - i ∧ (∀ j : Nat, j < i → ¬ pr (gt a j)) ∧ G = [(8, .int .i64 i)] ∧ M = M0 ∧ I = I0) (a.length) _ _ _ aS aG aF (⟨0, by omega, rfl, fun j hj => by omega, rfl, rfl, rfl⟩) ?_
 rintro k G M I ⟨i, hi, rfl, hs, rfl, rfl, rfl⟩
 repeat' (first | refine aJ ?_ | refine aV rfl (fun h => ?_) (fun h => ?_) | refine aW rfl rfl (fun h => ?_) (fun h => ?_) | fail)
 ·have hlt : i < a.length := by omega
  (refine jP rfl rfl (hg i hlt) rfl rfl rfl ?_; rintro _ _ _ ⟨rfl, rfl, rfl⟩; refine ⟨okF, ?_⟩)
  repeat' (first | refine aJ ?_ | refine aV rfl (fun h => ?_) (fun h => ?_) | refine aW rfl rfl (fun h => ?_) (fun h => ?_) | fail)
  ·refine aN (by first | exact .inl rfl | exact .inr rfl) rfl rfl _ _ aG aF (⟨rfl, rfl, _, rfl, .inl ⟨i, hlt, rfl, by assumption, hs⟩⟩)
  ·refine aQ (a.length - (i + 1)) _ _ _ (by first | omega | (simp only [List.length_append, List.length_cons, List.length_nil]; omega)) aS aG aF (⟨i + 1, by omega, rfl, fun j hj => ?_, rfl, rfl, rfl⟩)
   by_cases e : j = i
   ·subst e; assumption
   ·exact hs j (by omega)
 ·refine aN (by first | exact .inl rfl | exact .inr rfl) rfl rfl _ _ aG aF (⟨rfl, rfl, _, rfl, .inr ⟨rfl, fun j hj => hs j (by omega)⟩⟩)
theorem aLT {q : Option Addr} {a : List Q4} {c : Nat} {g : FuncId} [FnOk Tryz.prog g] {fs cs : Array Value} (pr : Q4 → Prop) [DecidablePred pr] (hn : (a.length : Int) ≤ 9223372036854775807) (ha : aX q (recs kI a) ∈ I0)
  (hg : ∀ i : Nat, i < a.length → CD Tryz.prog g (fs.toList ++ [vQ4 (gt a i)] ++ cs.toList) X w0 M0 I0 (fun v M I => M0 = M ∧ I0 = I ∧ v = .bool (B (pr (gt a i))))) :
  CD Tryz.prog 37 [.slice q a.length c, .func (.func g) fs cs] X w0 M0 I0 (fun v M I => M0 = M ∧ I0 = I ∧ v = .bool (B (∃ x ∈ a, pr x))) := by
 refine bI Tryz.func37 rfl Tryz.ntmps37 rfl ?_
 repeat (refine aJ ?_)
 (refine aA rfl (aKX pr hn ha hg) rfl rfl ?_; rintro _ _ _ ⟨rfl, rfl, r, rfl, h⟩; refine ⟨okF, ?_⟩)
 repeat (refine aJ ?_)
 refine aN (by first | exact .inl rfl | exact .inr rfl) rfl rfl _ _ aG aF (⟨rfl, rfl, congrArg Value.bool (lH ?_)⟩)
 rcases h with ⟨i, hi, rfl, hp, _⟩ | ⟨rfl, h⟩
 ·exact ⟨fun _ => ⟨gt a i, by rw [mZ hi]; exact List.getElem_mem hi, hp⟩, fun _ => by omega⟩
 ·refine ⟨fun h => by omega, ?_⟩
  rintro ⟨x, hx, hp⟩
  obtain ⟨j, hj, rfl⟩ := List.mem_iff_getElem.1 hx
  exact absurd (by rw [mZ hj]; exact hp) (h j hj)
end
section
variable {X : List Nat} {w0 : World} {M0 M1 : List Ent} {I0 : List bA}
theorem aGG {a b : Int} : CD Tryz.prog 39 [.agg #[.int .i64 a, .int .i64 b]] X w0 M0 I0 (fun v M I => M0 = M ∧ I0 = I ∧ v = .bool (B (farC a b))) := by
 refine bV Tryz.func39 rfl Tryz.ntmps39 rfl ?_
 refine aH ?_
 refine aI ?_
 (refine aK rfl rfl rfl ?_; intro b1; refine ⟨okF, ?_⟩)
 by_cases h1 : min a b < -32768
 ·repeat (refine aJ ?_)
  refine jZ (M' := M0) (I' := I0) aG aF ?_
  refine aN (by first | exact .inl rfl | exact .inr rfl) rfl rfl _ _ aG aF (⟨rfl, rfl, congrArg Value.bool (fA (show farC a b from .inl (by omega))).symm⟩)
 ·by_cases h2 : 32768 < max a b
  ·repeat (refine aJ ?_)
   refine jZ (M' := M0) (I' := I0) aG aF ?_
   refine aN (by first | exact .inl rfl | exact .inr rfl) rfl rfl _ _ aG aF (⟨rfl, rfl, congrArg Value.bool ((fA h2).trans (fA (show farC a b from .inr (by omega))).symm)⟩)
  ·repeat (refine aJ ?_)
   refine jZ (M' := M0) (I' := I0) aG aF ?_
   refine aN (by first | exact .inl rfl | exact .inr rfl) rfl rfl _ _ aG aF (⟨rfl, rfl, congrArg Value.bool ((dF h2).trans (dF (show ¬ farC a b by unfold farC; omega)).symm)⟩)
theorem aFN {s : Q4} : CD Tryz.prog 38 [vQ4 s] X w0 M0 I0 (fun v M I => M0 = M ∧ I0 = I ∧ v = .bool (B s.far)) := by
 have hF := fun M0 I0 => aGG (X := X) (w0 := w0) (M0 := M0) (I0 := I0) (a := s.x) (b := s.y)
 have hG := fun M0 I0 => aGG (X := X) (w0 := w0) (M0 := M0) (I0 := I0) (a := s.u) (b := s.v)
 refine bV Tryz.func38 rfl Tryz.ntmps38 rfl ?_
 refine aH ?_
 refine aI ?_
 (refine aK rfl rfl rfl ?_; intro b1; refine ⟨okF, ?_⟩)
 by_cases h1 : farC s.x s.y
 ·rw [fA h1] at hF
  repeat (refine aJ ?_)
  (refine aA rfl (hF _ _) rfl rfl ?_; rintro _ _ _ ⟨rfl, rfl, rfl⟩; refine ⟨okF, ?_⟩)
  repeat (refine aJ ?_)
  refine jZ (M' := M0) (I' := I0) aG aF ?_
  refine aN (by first | exact .inl rfl | exact .inr rfl) rfl rfl _ _ aG aF (⟨rfl, rfl, congrArg Value.bool (fA (show s.far from .inl h1)).symm⟩)
 ·rw [dF h1] at hF
  repeat (refine aJ ?_)
  (refine aA rfl (hF _ _) rfl rfl ?_; rintro _ _ _ ⟨rfl, rfl, rfl⟩; refine ⟨okF, ?_⟩)
  repeat (refine aJ ?_)
  (refine aA rfl (hG _ _) rfl rfl ?_; rintro _ _ _ ⟨rfl, rfl, rfl⟩; refine ⟨okF, ?_⟩)
  repeat (refine aJ ?_)
  refine jZ (M' := M0) (I' := I0) aG aF ?_
  refine aN (by first | exact .inl rfl | exact .inr rfl) rfl rfl _ _ aG aF (⟨rfl, rfl, congrArg Value.bool (lH ⟨fun h => .inr h, fun h => h.resolve_left h1⟩)⟩)
theorem aAB {q : Option Addr} {l : List Q4} {n c : Nat} (hl : l.length = n) (hn : (n : Int) ≤ 9223372036854775807) (hq : aX q (recs kI l) ∈ I0) : CD Tryz.prog 8 [.slice q n c] X w0 M0 I0 (fun v M I => M0 = M ∧ I0 = I ∧ v = .int .i64 (pI l)) := by
 subst hl
 have hF := fun M0 I0 h => aLT (X := X) (w0 := w0) (M0 := M0) (I0 := I0) (q := q) (a := l) (c := c) (g := 38) (fs := #[]) (cs := #[]) Q4.far hn h (fun i _ => aFN)
 refine bV Tryz.func8 rfl Tryz.ntmps8 rfl ?_
 by_cases h0 : l.length = 0
 ·rw [show pI l = 1 by unfold pI; rw [if_pos h0]]
  repeat (refine aJ ?_)
  refine aN (by first | exact .inl rfl | exact .inr rfl) rfl rfl _ _ aG aF (⟨rfl, rfl, rfl⟩)
 by_cases h1 : 64 < l.length
 ·rw [show pI l = 3 by unfold pI; rw [if_neg h0, if_pos h1]]
  repeat (refine aJ ?_)
  refine aN (by first | exact .inl rfl | exact .inr rfl) rfl rfl _ _ aG aF (⟨rfl, rfl, rfl⟩)
 by_cases h2 : anyFar l
 ·rw [show pI l = 2 by unfold pI; rw [if_neg h0, if_neg h1, if_pos h2]]
  repeat (refine aJ ?_)
  (refine aA rfl (hF _ _ aB) rfl rfl ?_; rintro _ _ _ ⟨rfl, rfl, rfl⟩; refine ⟨okF, ?_⟩)
  rw [fA (show ∃ x ∈ l, x.far from h2)]
  repeat (refine aJ ?_)
  refine aN (by first | exact .inl rfl | exact .inr rfl) rfl rfl _ _ aG aF (⟨rfl, rfl, rfl⟩)
 ·rw [show pI l = 0 by unfold pI; rw [if_neg h0, if_neg h1, if_neg h2]]
  repeat (refine aJ ?_)
  (refine aA rfl (hF _ _ aB) rfl rfl ?_; rintro _ _ _ ⟨rfl, rfl, rfl⟩; refine ⟨okF, ?_⟩)
  rw [dF (show ¬ ∃ x ∈ l, x.far from h2)]
  repeat (refine aJ ?_)
  refine aN (by first | exact .inl rfl | exact .inr rfl) rfl rfl _ _ aG aF (⟨rfl, rfl, rfl⟩)
def kdP (x : Int) : Prop := 0 ≤ x ∧ x ≤ 3
instance kdP.dec (x : Int) : Decidable (kdP x) := inferInstanceAs (Decidable (0 ≤ x ∧ x ≤ 3))
theorem aNT {x : Int} : CD Tryz.prog 17 [.int .i64 x] X w0 M0 I0 (fun v M I => M0 = M ∧ I0 = I ∧ v = .tuple #[.int .i64 (if kdP x then x + 1 else 0), .int .i64 (if kdP x then 0 else 1)]) := by
 refine bV Tryz.func17 rfl Tryz.ntmps17 rfl ?_
 by_cases h0 : x = 0
 ·rw [if_pos (show kdP x from ⟨by omega, by omega⟩), if_pos (show kdP x from ⟨by omega, by omega⟩)]
  subst h0
  repeat (refine aJ ?_)
  refine iL [2, 3] (by first | exact .inl rfl | exact .inr rfl) rfl rfl rfl _ _ aG aF (⟨rfl, rfl, rfl⟩)
 by_cases h1 : x = 1
 ·rw [if_pos (show kdP x from ⟨by omega, by omega⟩), if_pos (show kdP x from ⟨by omega, by omega⟩)]
  subst h1
  repeat (refine aJ ?_)
  refine iL [2, 3] (by first | exact .inl rfl | exact .inr rfl) rfl rfl rfl _ _ aG aF (⟨rfl, rfl, rfl⟩)
 by_cases h2 : x = 2
 ·rw [if_pos (show kdP x from ⟨by omega, by omega⟩), if_pos (show kdP x from ⟨by omega, by omega⟩)]
  subst h2
  repeat (refine aJ ?_)
  refine iL [2, 3] (by first | exact .inl rfl | exact .inr rfl) rfl rfl rfl _ _ aG aF (⟨rfl, rfl, rfl⟩)
 by_cases h3 : x = 3
 ·rw [if_pos (show kdP x from ⟨by omega, by omega⟩), if_pos (show kdP x from ⟨by omega, by omega⟩)]
  subst h3
  repeat (refine aJ ?_)
  refine iL [2, 3] (by first | exact .inl rfl | exact .inr rfl) rfl rfl rfl _ _ aG aF (⟨rfl, rfl, rfl⟩)
 rw [if_neg (show ¬ kdP x by unfold kdP; omega), if_neg (show ¬ kdP x by unfold kdP; omega)]
 repeat (refine aJ ?_)
 refine iL [2, 3] (by first | exact .inl rfl | exact .inr rfl) rfl rfl rfl _ _ aG aF (⟨rfl, rfl, rfl⟩)
def tX (x : Int) (l : List Q4) : Int := if pI l = 0 then (if kdP x then 0 else 1) else pI l
theorem aJR {x : Int} {q : Option Addr} {l : List Q4} {n c : Nat} (hl : l.length = n) (hn : (n : Int) ≤ 9223372036854775807) (hq : aX q (recs kI l) ∈ I0) :
  CD Tryz.prog 40 [.int .i64 x, .slice q n c] X w0 M0 I0 (fun v M I => M0 = M ∧ I0 = I ∧ v = .tuple #[.int .i64 (if tX x l = 0 then x + 1 else 0), .int .i64 (tX x l)]) := by
 have hC := fun M0 I0 h => aAB (X := X) (w0 := w0) (M0 := M0) (I0 := I0) (q := q) (l := l) (n := n) (c := c) hl hn h
 have hS := fun M0 I0 => aNT (X := X) (w0 := w0) (M0 := M0) (I0 := I0) (x := x)
 refine bI Tryz.func40 rfl Tryz.ntmps40 rfl ?_
 by_cases h0 : pI l = 0
 ·rw [h0] at hC
  have e : tX x l = if kdP x then 0 else 1 := by unfold tX; rw [if_pos h0]
  rw [e]
  by_cases hk : kdP x
  ·rw [if_pos hk, if_pos hk] at hS
   rw [if_pos hk, if_pos rfl]
   repeat (refine aJ ?_)
   (refine aA rfl (hC _ _ aB) rfl rfl ?_; rintro _ _ _ ⟨rfl, rfl, rfl⟩; refine ⟨okF, ?_⟩)
   repeat (refine aJ ?_)
   (refine aA rfl (hS _ _) rfl rfl ?_; rintro _ _ _ ⟨rfl, rfl, rfl⟩; refine ⟨okF, ?_⟩)
   repeat (refine aJ ?_)
   refine iL [4, 5] (by first | exact .inl rfl | exact .inr rfl) rfl rfl rfl _ _ aG aF (⟨rfl, rfl, rfl⟩)
  ·rw [if_neg hk, if_neg hk] at hS
   rw [if_neg hk, if_neg (by decide)]
   repeat (refine aJ ?_)
   (refine aA rfl (hC _ _ aB) rfl rfl ?_; rintro _ _ _ ⟨rfl, rfl, rfl⟩; refine ⟨okF, ?_⟩)
   repeat (refine aJ ?_)
   (refine aA rfl (hS _ _) rfl rfl ?_; rintro _ _ _ ⟨rfl, rfl, rfl⟩; refine ⟨okF, ?_⟩)
   repeat (refine aJ ?_)
   refine iL [4, 5] (by first | exact .inl rfl | exact .inr rfl) rfl rfl rfl _ _ aG aF (⟨rfl, rfl, rfl⟩)
 ·have e : tX x l = pI l := by unfold tX; rw [if_neg h0]
  rw [e, if_neg h0]
  obtain ⟨cd, hcd⟩ : ∃ z, pI l = z := ⟨_, rfl⟩
  rw [hcd] at hC h0 ⊢
  repeat (refine aJ ?_)
  (refine aA rfl (hC _ _ aB) rfl rfl ?_; rintro _ _ _ ⟨rfl, rfl, rfl⟩; refine ⟨okF, ?_⟩)
  repeat (refine aJ ?_)
  refine iL [4, 5] (by first | exact .inl rfl | exact .inr rfl) rfl rfl rfl _ _ aG aF (⟨rfl, rfl, rfl⟩)
def tolP (t : Int) : Prop := 0 ≤ t ∧ t ≤ 1073741824
instance tolP.dec (x : Int) : Decidable (tolP x) := inferInstanceAs (Decidable (0 ≤ x ∧ x ≤ 1073741824))
theorem aPX {t : Int} : CD Tryz.prog 41 [.int .i64 t] X w0 M0 I0 (fun v M I => M0 = M ∧ I0 = I ∧ v = .int .i64 (if tolP t then 0 else 2)) := by
 refine bV Tryz.func41 rfl Tryz.ntmps41 rfl ?_
 by_cases h0 : t < 0
 ·rw [if_neg (show ¬ tolP t by unfold tolP; omega)]
  repeat (refine aJ ?_)
  refine aN (by first | exact .inl rfl | exact .inr rfl) rfl rfl _ _ aG aF (⟨rfl, rfl, rfl⟩)
 by_cases h1 : 1073741824 < t
 ·rw [if_neg (show ¬ tolP t by unfold tolP; omega)]
  repeat (refine aJ ?_)
  refine aN (by first | exact .inl rfl | exact .inr rfl) rfl rfl _ _ aG aF (⟨rfl, rfl, rfl⟩)
 ·rw [if_pos (show tolP t from ⟨by omega, by omega⟩)]
  repeat (refine aJ ?_)
  refine aN (by first | exact .inl rfl | exact .inr rfl) rfl rfl _ _ aG aF (⟨rfl, rfl, rfl⟩)
end
end Go.Proofs.YtmmmfphealhapaaGreat

/- integer: long division integer: quotient and remainder of magnitudes -/
import Derived.Test.YtmmmfphealhapaaGreatZral
import Derived.Test.YtmmmfphealhapaaGreatZrak
set_option linter.unusedSimpArgs false
set_option linter.unusedVariables false
set_option maxRecDepth 100000
set_option maxHeartbeats 4000000
namespace Go.Proofs.YtmmmfphealhapaaGreat
open Go Go.Fx
theorem cut0 (b c : Nat) : zG (some ⟨b, 0, none⟩) c 0 1 = some ⟨b, 0, none⟩ := by
 unfold zG
 split <;> simp [Addr.add]
section
variable {X : List Nat} {w0 : World} {M0 : List Ent} {I0 : List bA}
set_option pp.maxSteps 300000 in
set_option pp.deepTerms true in
theorem aOP {p q : Option Addr} {m n cp cq : Nat} (hm : (gr m).length ≤ 50000000000) (hn : 2 ≤ (gr n).length) (hle : n ≤ m) (hp : aX p (recs eG (gr m)) ∈ I0) (hq : aX q (recs eG (gr n)) ∈ I0) :
  CD Tryz.prog 202 [.slice p (gr m).length cp, .slice q (gr n).length cq] X w0 M0 I0 (fun v M I => M0 = M ∧ ∃ p1 c1 p2 c2, oO p1 (m / n) c1 ∧ oO p2 (m % n) c2 ∧ v = .tuple #[.slice p1 (gr (m / n)).length c1, .slice p2 (gr (m % n)).length c2] ∧ I = aX p1 (recs eG (gr (m / n))) :: aX p2 (recs eG (gr (m % n))) :: I0) := by
 have hnm : (gr n).length ≤ (gr m).length := gG hle
 obtain ⟨bt, hgt, hbt⟩ := aJZ (n := n) (by omega)
 have da := bW m
 have db := bW n
 generalize ha : gr m = a at *
 generalize hb : gr n = b at *
 have hT1 := fun (M0 : List Ent) (I0 : List bA) (b1 : Nat) (f : Nat) (hf : 0 < f) (hf2 : f < 1000000000) (h : aX p (recs eG a) ∈ I0) (h2 : aX (some ⟨b1, 0, none⟩) (recs eG [(f : Int)]) ∈ I0) => aAF (X := X) (w0 := w0) (M0 := M0) (I0 := I0) (p := p) (q := some ⟨b1, 0, none⟩) (m := m) (n := f) (cp := cp) (cq := 1) (by rw [ha]; omega) (by rw [rX hf hf2]; simp) (by rw [ha]; exact h) (by rw [rX hf hf2]; exact h2)
 have hT2 := fun (M0 : List Ent) (I0 : List bA) (b1 : Nat) (f : Nat) (hf : 0 < f) (hf2 : f < 1000000000) (h : aX q (recs eG b) ∈ I0) (h2 : aX (some ⟨b1, 0, none⟩) (recs eG [(f : Int)]) ∈ I0) => aAF (X := X) (w0 := w0) (M0 := M0) (I0 := I0) (p := q) (q := some ⟨b1, 0, none⟩) (m := n) (n := f) (cp := cq) (cq := 1) (by rw [hb]; omega) (by rw [rX hf hf2]; simp) (by rw [hb]; exact h) (by rw [rX hf hf2]; exact h2)
 rw [ha] at hT1
 rw [hb] at hT2
 refine eY Tryz.func202 rfl Tryz.ntmps202 rfl ?_
 repeat (refine iX ?_)
 rw [hgt]
 repeat (refine iX ?_)
 obtain ⟨f, hf1, hf2, ef⟩ := aCX (bt := bt) hbt
 rw [ef]
 clear ef
 replace hT1 := fun M0 I0 b1 => hT1 M0 I0 b1 f hf1 hf2
 replace hT2 := fun M0 I0 b1 => hT2 M0 I0 b1 f hf1 hf2
 rw [rX hf1 hf2] at hT1 hT2
 have hlu := qM (m := m) hf1 hf2
 have hlv := qM (m := n) hf1 hf2
 have hluv : (gr (n * f)).length ≤ (gr (m * f)).length := gG (Nat.mul_le_mul_right _ hle)
 rw [ha] at hlu
 rw [hb] at hlv
 have du := bW (m * f)
 have dv := bW (n * f)
 have vu := dC (m * f)
 have vv := dC (n * f)
 have tv := yO (n * f)
 generalize hu0 : gr (m * f) = u0 at *
 generalize hv0 : gr (n * f) = v at *
 repeat (refine iX ?_)
 (refine dM (cs := recs eG [(f : Int)]) ([.int .u32 (f : Int)]) rfl rfl (by intro v hv; repeat (first | exact absurd hv (List.not_mem_nil) | (rcases List.mem_cons.1 hv with rfl | hv; · rfl))) (by omega) rfl rfl rfl ?_; intro b1; refine ⟨jD, ?_⟩)
 refine aO uK ?_
 (refine aT rfl (hT1 _ _ b1 aP aP) rfl rfl ?_; rintro _ _ _ ⟨bu, cu, rfl, hcu, rfl, rfl⟩; refine ⟨jD, ?_⟩)
 repeat (refine iX ?_)
 (refine dM (cs := recs eG [(f : Int)]) ([.int .u32 (f : Int)]) rfl rfl (by intro v hv; repeat (first | exact absurd hv (List.not_mem_nil) | (rcases List.mem_cons.1 hv with rfl | hv; · rfl))) (by omega) rfl rfl rfl ?_; intro b2; refine ⟨jD, ?_⟩)
 refine aO uK ?_
 (refine aT rfl (hT2 _ _ b2 aP aP) rfl rfl ?_; rintro _ _ _ ⟨bv, cv, rfl, hcv, rfl, rfl⟩; refine ⟨jD, ?_⟩)
 repeat (refine iX ?_)
 (refine dM (cs := recs eG [(0 : Int)]) ([.int .u32 0]) rfl rfl (by intro v hv; repeat (first | exact absurd hv (List.not_mem_nil) | (rcases List.mem_cons.1 hv with rfl | hv; · rfl))) (by omega) rfl rfl rfl ?_; intro b3; refine ⟨jD, ?_⟩)
 (refine iK (ys := [(0 : Int)]) 2 rfl rfl rfl ?_ (by decide) rfl (by omega) (by omega) rfl rfl ?_; (· first | exact Src.blk aP | exact Src.row aP | exact Src.imm aP (by first | assumption | exact .inl (Ok.mk _ _))); intro a2 c2; refine ⟨jD, ?_⟩)
 have hl0 : (u0 ++ [(0 : Int)]).length = u0.length + 1 := by simp
 repeat (refine iX ?_)
 (refine mJ (u0.length + 1 - v.length) rfl rfl (by omega) (by omega) (by omega) (by omega) (mG _ _) rfl rfl ?_; intro bq; refine ⟨jD, ?_⟩)
 repeat (refine iX ?_)
 refine yV (M' := .row a2 (u0 ++ [(0 : Int)]).length c2 (recs eG (u0 ++ [(0 : Int)])) 121 1 :: .blk bq (recs eG (List.replicate (u0.length + 1 - v.length) 0)) 121 :: .row (some ⟨bv, 0, none⟩) v.length cv (recs eG v) 121 1 :: M0) (I' := I0) cZ cK ?_
 refine aBE (fun _ h _ => absurd h (by omega)) (fun bU tl e hc2 => ?_)
 subst e
 refine aKP (M' := .blk bU (recs eG (u0 ++ [(0 : Int)]) ++ tl) 121 :: .blk bq (recs eG (List.replicate (u0.length + 1 - v.length) 0)) 121 :: M0) (I' := aX (some ⟨bv, 0, none⟩) (recs eG v) :: I0) (fun w hw => hw.freezeR uK) ?_
 clear hT1 hT2 hp hq
 obtain ⟨L, hL⟩ : ∃ L, (u0 ++ [(0 : Int)]).length = L := ⟨_, rfl⟩
 rw [hL] at hl0 hc2 ⊢
 have hin := aJK (v := v) ⟨dv, tv⟩ (by omega) du hluv
 refine bG [4, 6, 7, 8, 9] rfl (fun k G M I => ∃ (j : Nat) (c : Int) (u qs : List Int), j ≤ u0.length + 1 - v.length ∧ k = j ∧ c = (j : Int) - 1 ∧ u.length = L ∧ qs.length = u0.length + 1 - v.length ∧ Dig u ∧ Dig qs ∧ val u + 1000000000 ^ j * (val v * val (qs.drop j)) = val u0 ∧ val (u.drop j) < val v ∧ G = [(10, .int .i64 c)] ∧ M = .blk bU (recs eG u ++ tl) 121 :: .blk bq (recs eG qs) 121 :: M0 ∧ I = aX (some ⟨bv, 0, none⟩) (recs eG v) :: I0) (u0.length + 1 - v.length) _ _ _ aS cZ cK (⟨u0.length + 1 - v.length, _, _, _, Nat.le_refl _, rfl, by omega, hL, by simp, Dig.snoc du (by omega), Dig.zeros _, by rw [List.drop_of_length_le (by simp), val_append]; simp [val], hin, rfl, rfl, rfl⟩) ?_
 rintro k G M I ⟨j, c, u, qs, hj, rfl, hcj, hul, hql, dU, dQ, hval, hlt, rfl, rfl, rfl⟩
 by_cases hj0 : 0 ≤ c
 ·obtain ⟨j, rfl⟩ : ∃ j, k = j + 1 := ⟨k - 1, by omega⟩
  obtain rfl : c = (j : Int) := by omega
  repeat (refine iX ?_)
  have hk := aLM dU ⟨dv, tv⟩ (by omega) hlt (by omega)
  obtain ⟨t2, ht2⟩ : ∃ t2, gt u ((j : Int) + (v.length : Int)) = t2 := ⟨_, rfl⟩
  obtain ⟨t1, ht1⟩ : ∃ t1, gt u ((j : Int) + (v.length : Int) - 1) = t1 := ⟨_, rfl⟩
  obtain ⟨t0, ht0⟩ : ∃ t0, gt u ((j : Int) + (v.length : Int) - 2) = t0 := ⟨_, rfl⟩
  obtain ⟨v1, hv1⟩ : ∃ v1, gt v ((v.length : Int) - 1) = v1 := ⟨_, rfl⟩
  obtain ⟨v2, hv2⟩ : ∃ v2, gt v ((v.length : Int) - 2) = v2 := ⟨_, rfl⟩
  rw [ht2, ht1, ht0, hv1, hv2] at hk
  have k0 := hk.d0
  have k1 := hk.d1
  have k2 := hk.d2
  have k3 := hk.e1
  have k4 := hk.e0
  (repeat refine aH ?_); refine gZ [0, 1, 2, 3, 7, 8, 9, 10, 11, 12, 13, 14, 4, 5, 6, 15, 16] [0, 1, 1, 0, 1, 1, 1, 1, 1, 1, 1, 1, 0, 0, 0, 0, 0] mixed (by kernel_rfl) ?_
  repeat (refine iX ?_)
  rw [ht1]
  repeat (refine iX ?_)
  (refine aT rfl (CD.lend [aX (some ⟨bU, 0, none⟩) (recs eG u)] (fun w hw => Mem.lendBT (b := bU) (tl := tl) (e := 121) aP hw hw.imm0) (fun W => (aHB (X := []) (w0 := W) (M0 := []) (I0 := [aX (some ⟨bU, 0, none⟩) (recs eG u)]) (l := u) (n := L) (c := c2) (i := (j : Int) + v.length) hul.symm (by omega) aP).mono (fun _ _ _ h => h.2.2))) rfl rfl ?_; rintro _ _ _ ⟨rfl, rfl, rfl⟩; refine ⟨jD, ?_⟩)
  rw [ht2]
  repeat (refine iX ?_)
  (repeat refine aH ?_); refine gZ [0, 1, 2, 3, 4, 5, 6, 7, 8, 9, 10, 11, 12, 13, 14, 15, 16, 17] [0, 0, 0, 0, 0, 0, 0, 0, 0, 0, 0, 0, 0, 0, 0, 0, 0, 0] mixed (by kernel_rfl) ?_
  repeat (first | (refine gX ?_; first | refine gQ rfl rfl rfl ?_ | (refine gJ rfl rfl ?_; refine fF rfl rfl rfl jD ?_) | refine gT rfl rfl (by omega) ?_ | refine gI rfl rfl (by omega) ?_) | (refine bT ?_; refine aD rfl (fun _ => dL rfl) rfl rfl ?_) | refine aD rfl (fun _ => bH rfl) rfl rfl ?_ | (refine gK ?_; first | refine aD rfl (fun _ => bK rfl rfl w_) rfl rfl ?_ | refine aD rfl (fun _ => bM rfl rfl w_) rfl rfl ?_ | refine aD rfl (fun _ => eQ rfl rfl w_) rfl rfl ?_ | refine aD rfl (fun _ => eO rfl rfl (by omega) q_) rfl rfl ?_ | refine aD rfl (fun _ => eP rfl rfl (by omega) rfl) rfl rfl ?_ | refine aD rfl (fun _ => dK rfl rfl) rfl rfl ?_ | refine aD rfl (fun _ => dX rfl rfl) rfl rfl ?_ | refine aD rfl (fun _ => dY rfl rfl) rfl rfl ?_) | (refine bT ?_; first | refine aD rfl (fun _ => dZ rfl w_) rfl rfl ?_) | (refine gM ?_; first | refine aD rfl (fun _ => dD rfl w_) rfl rfl ?_) | (refine gH ?_; first | refine aD rfl (fun _ => bL rfl) rfl rfl ?_ | refine aD rfl (fun _ => dH rfl rfl) rfl rfl ?_ | refine aD rfl (fun _ => dJ rfl rfl) rfl rfl ?_ | refine aD rfl (fun _ => dI rfl rfl rfl) rfl rfl ?_) | (refine gL ?_; first | refine gP rfl (by decide) rfl rfl ?_ | refine jH rfl (by decide) rfl rfl ?_) | (refine gN ?_; first | refine aD rfl (fun _ => cO rfl) rfl rfl ?_) | (refine gW ?_; first | refine jB rfl rfl iQ rfl rfl ?_ | refine jE kV rfl rfl iQ aP jL rfl rfl ?_ | refine jF kV rfl rfl iQ aP jL rfl rfl ?_ | refine aD rfl (fun _ => bS rfl rfl iQ) rfl rfl ?_) | (refine gV ?_; first | refine jI kV rfl aP nJ rfl rfl ?_ | refine jG kV rfl aP nJ rfl rfl ?_ | refine jC kV rfl aP nJ rfl rfl ?_ | refine fI kV rfl aP nJ rfl rfl ?_ | refine kQ kV rfl aP iG fC rfl rfl ?_ | refine kR kV rfl aP iG fC rfl rfl ?_ | refine kP kV rfl aP iG fC rfl rfl ?_ | refine jM kV rfl aP iG fC rfl rfl ?_) | (refine gU ?_; first | refine aD rfl (fun _ => bR rfl rfl) rfl rfl ?_ | refine aD rfl (fun _ => bJ rfl) rfl rfl ?_) | (refine iH ?_; first | refine lT rfl rfl rfl lW stC rfl rfl ⟨jD, ?_⟩ | refine gF rfl rfl fC qE lW qO rfl rfl ⟨jD, ?_⟩))
  rw [hv1]
  repeat (first | (refine gX ?_; first | refine gQ rfl rfl rfl ?_ | (refine gJ rfl rfl ?_; refine fF rfl rfl rfl jD ?_) | refine gT rfl rfl (by omega) ?_ | refine gI rfl rfl (by omega) ?_) | (refine bT ?_; refine aD rfl (fun _ => dL rfl) rfl rfl ?_) | refine aD rfl (fun _ => bH rfl) rfl rfl ?_ | (refine gK ?_; first | refine aD rfl (fun _ => bK rfl rfl w_) rfl rfl ?_ | refine aD rfl (fun _ => bM rfl rfl w_) rfl rfl ?_ | refine aD rfl (fun _ => eQ rfl rfl w_) rfl rfl ?_ | refine aD rfl (fun _ => eO rfl rfl (by omega) q_) rfl rfl ?_ | refine aD rfl (fun _ => eP rfl rfl (by omega) rfl) rfl rfl ?_ | refine aD rfl (fun _ => dK rfl rfl) rfl rfl ?_ | refine aD rfl (fun _ => dX rfl rfl) rfl rfl ?_ | refine aD rfl (fun _ => dY rfl rfl) rfl rfl ?_) | (refine bT ?_; first | refine aD rfl (fun _ => dZ rfl w_) rfl rfl ?_) | (refine gM ?_; first | refine aD rfl (fun _ => dD rfl w_) rfl rfl ?_) | (refine gH ?_; first | refine aD rfl (fun _ => bL rfl) rfl rfl ?_ | refine aD rfl (fun _ => dH rfl rfl) rfl rfl ?_ | refine aD rfl (fun _ => dJ rfl rfl) rfl rfl ?_ | refine aD rfl (fun _ => dI rfl rfl rfl) rfl rfl ?_) | (refine gL ?_; first | refine gP rfl (by decide) rfl rfl ?_ | refine jH rfl (by decide) rfl rfl ?_) | (refine gN ?_; first | refine aD rfl (fun _ => cO rfl) rfl rfl ?_) | (refine gW ?_; first | refine jB rfl rfl iQ rfl rfl ?_ | refine jE kV rfl rfl iQ aP jL rfl rfl ?_ | refine jF kV rfl rfl iQ aP jL rfl rfl ?_ | refine aD rfl (fun _ => bS rfl rfl iQ) rfl rfl ?_) | (refine gV ?_; first | refine jI kV rfl aP nJ rfl rfl ?_ | refine jG kV rfl aP nJ rfl rfl ?_ | refine jC kV rfl aP nJ rfl rfl ?_ | refine fI kV rfl aP nJ rfl rfl ?_ | refine kQ kV rfl aP iG fC rfl rfl ?_ | refine kR kV rfl aP iG fC rfl rfl ?_ | refine kP kV rfl aP iG fC rfl rfl ?_ | refine jM kV rfl aP iG fC rfl rfl ?_) | (refine gU ?_; first | refine aD rfl (fun _ => bR rfl rfl) rfl rfl ?_ | refine aD rfl (fun _ => bJ rfl) rfl rfl ?_) | (refine iH ?_; first | refine lT rfl rfl rfl lW stC rfl rfl ⟨jD, ?_⟩ | refine gF rfl rfl fC qE lW qO rfl rfl ⟨jD, ?_⟩))
  refine aL ?_
  refine iB ?_
  have hz0 : 0 ≤ t2 * 1000000000 + t1 := by omega
  rw [Int.tdiv_eq_ediv_of_nonneg hz0, Int.tmod_eq_emod_of_nonneg hz0]
  obtain ⟨g0, hg0⟩ : ∃ g0, (t2 * 1000000000 + t1) / v1 = g0 := ⟨_, rfl⟩
  obtain ⟨r0, hr0⟩ : ∃ r0, (t2 * 1000000000 + t1) % v1 = r0 := ⟨_, rfl⟩
  have hgr0 : g0 * v1 + r0 = t2 * 1000000000 + t1 := by rw [← hg0, ← hr0, Int.mul_comm]; exact Int.mul_ediv_add_emod _ _
  have hr1 : 0 ≤ r0 ∧ r0 < v1 := by rw [← hr0]; exact ⟨Int.emod_nonneg _ (by omega), Int.emod_lt_of_pos _ (by omega)⟩
  have hg1 : 0 ≤ g0 := by rw [← hg0]; exact Int.ediv_nonneg hz0 (by omega)
  rw [hg0, hr0]
  refine aPZ (fun G M I => ∃ g : Int, (0 ≤ g ∧ g < 1000000000) ∧ GeQ (val (u.drop j)) (val v) g ∧ g * val v ≤ val (u.drop j) + val v ∧ G = [(4, .slice (some ⟨bq, 0, none⟩) (u0.length + 1 - v.length) (u0.length + 1 - v.length)), (6, .int .u32 f), (7, .slice (some ⟨bU, 0, none⟩) L c2), (8, .slice (some ⟨bv, 0, none⟩) v.length cv), (9, .int .i64 v.length), (10, .int .i64 j), (12, .int .u64 g)] ∧ M = .blk bU (recs eG u ++ tl) 121 :: .blk bq (recs eG qs) 121 :: M0 ∧ I = aX (some ⟨bv, 0, none⟩) (recs eG v) :: I0) ?_ ?_
  ·refine fJ ?_
   refine bG [4, 6, 7, 8, 9, 10] rfl (fun k G M I => ∃ (g r : Int), k = (1000000000 - r).toNat ∧ g * v1 + r = t2 * 1000000000 + t1 ∧ GeQ (val (u.drop j)) (val v) g ∧ (0 ≤ r ∧ r < 1000000000) ∧ 0 ≤ g ∧ G = [(12, .int .u64 g), (13, .int .u64 r)] ∧ M = .blk bU (recs eG u ++ tl) 121 :: .blk bq (recs eG qs) 121 :: M0 ∧ I = aX (some ⟨bv, 0, none⟩) (recs eG v) :: I0) ((1000000000 - r0).toNat) _ _ _ aS cZ cK (⟨g0, r0, rfl, hgr0, hk.start hgr0 hr1.2, by omega, hg1, rfl, rfl, rfl⟩) ?_
   rintro k G M I ⟨g, r, rfl, hgr, hgq, hr, hg, rfl, rfl, rfl⟩
   have hg2 := knu_g hk hgr hr.1 hg
   have e1 : (g - 1) * v1 = g * v1 - v1 := by rw [Int.sub_mul, Int.one_mul]
   have hp0 : 0 ≤ g * v2 := Int.mul_nonneg hg (by omega)
   have hp1 : g * v2 ≤ 2000000000 * 999999999 := Int.mul_le_mul (by omega) (by omega) (by omega) (by omega)
   have hless := hk.less hgr hgq
   have hB1 := aPP (g := g - 1) (r := r + v1) hk (by omega)
   have hdone1 := hk.done (g := g - 1) (r := r + v1) (by omega)
   have hdone := hk.done hgr hg
   have hgne : r * 1000000000 + t0 < g * v2 → 1 ≤ g := fun h => by
    rcases Int.lt_or_le 0 g with h1 | h1
    ·omega
    ·have : g = 0 := by omega
     subst this
     simp at h
     omega
   by_cases hgB : 1000000000 ≤ g
   ·(repeat refine aH ?_); refine gZ [0, 1, 2, 3, 4, 5, 6, 7, 8, 9, 10, 11, 12, 13, 14, 15, 16, 17, 18, 19, 20, 21, 22, 23] [0, 0, 0, 0, 0, 0, 0, 0, 0, 0, 0, 0, 0, 0, 0, 0, 0, 0, 0, 0, 0, 0, 0, 0] mixed (by kernel_rfl) ?_
    repeat' (first | refine iX ?_ | refine aV rfl (fun h => ?_) (fun h => ?_) | refine aW rfl rfl (fun h => ?_) (fun h => ?_) | fail)
    ·refine bN _ _ _ aS cZ cK ⟨g - 1, ⟨by omega, hB1 (by omega)⟩, hless (.inl hgB), hdone1 (by omega) (hB1 (by omega)) (.inl (by omega)), rfl, rfl, rfl⟩
    ·rw [hv1]
     refine aQ ((1000000000 - (r + v1)).toNat) _ _ _ (by first | omega | (simp only [List.length_append, List.length_cons, List.length_nil]; omega)) aS cZ cK (⟨g - 1, r + v1, rfl, by omega, hless (.inl hgB), by omega, by omega, rfl, rfl, rfl⟩)
   ·by_cases hc : r * 1000000000 + t0 < g * v2
    ·have hg1 := hgne hc
     (repeat refine aH ?_); refine gZ [0, 1, 2, 3, 4, 5, 6, 7, 8, 9, 10, 11, 12, 13, 14, 15, 16, 17, 18, 19, 20, 21, 22, 23] [0, 0, 0, 0, 0, 0, 0, 0, 0, 0, 0, 0, 0, 0, 0, 0, 0, 0, 0, 0, 0, 0, 0, 0] mixed (by kernel_rfl) ?_
     repeat (refine iX ?_)
     rw [hv2]
     repeat' (first | refine iX ?_ | refine aV rfl (fun h => ?_) (fun h => ?_) | refine aW rfl rfl (fun h => ?_) (fun h => ?_) | fail)
     ·refine bN _ _ _ aS cZ cK ⟨g - 1, ⟨by omega, hB1 (by omega)⟩, hless (.inr hc), hdone1 (by omega) (hB1 (by omega)) (.inl (by omega)), rfl, rfl, rfl⟩
     ·rw [hv1]
      refine aQ ((1000000000 - (r + v1)).toNat) _ _ _ (by first | omega | (simp only [List.length_append, List.length_cons, List.length_nil]; omega)) aS cZ cK (⟨g - 1, r + v1, rfl, by omega, hless (.inr hc), by omega, by omega, rfl, rfl, rfl⟩)
    ·(repeat refine aH ?_); refine gZ [0, 1, 2, 3, 4, 5, 6, 7, 8, 9, 10, 11, 12, 13, 14, 15, 16, 17, 18, 19, 20, 21, 22, 23] [0, 0, 0, 0, 0, 0, 0, 0, 0, 0, 0, 0, 0, 0, 0, 0, 0, 0, 0, 0, 0, 0, 0, 0] mixed (by kernel_rfl) ?_
     repeat (refine iX ?_)
     rw [hv2]
     repeat (refine iX ?_)
     refine bN _ _ _ aS cZ cK ⟨g, ⟨by omega, by omega⟩, hgq, hdone (by omega) (.inr (by omega)), rfl, rfl, rfl⟩
  ·rintro G M I ⟨g, hg, hgq, hgd, rfl, rfl, rfl⟩
   repeat (refine iX ?_)
   refine bG [4, 6, 7, 8, 9, 10, 12, 136] rfl (fun k G M I => ∃ (i : Nat) (o : List Int) (b c : Int), k = v.length - i ∧ i ≤ v.length ∧ o.length = L ∧ Dig o ∧ (0 ≤ b ∧ b ≤ 1) ∧ (0 ≤ c ∧ c < 1000000000) ∧ o.take j = u.take j ∧ o.drop (j + i) = u.drop (j + i) ∧ val ((o.drop j).take i) + g * val (v.take i) = val ((u.drop j).take i) + 1000000000 ^ i * (b + c) ∧ G = [(14, .int .i64 b), (15, .int .u64 c), (137, .int .i64 i)] ∧ M = .blk bU (recs eG o ++ tl) 121 :: .blk bq (recs eG qs) 121 :: M0 ∧ I = aX (some ⟨bv, 0, none⟩) (recs eG v) :: I0) (v.length) _ _ _ aS cZ cK (⟨0, u, 0, 0, rfl, by omega, hul, dU, by omega, by omega, rfl, rfl, by simp [val], rfl, rfl, rfl⟩) ?_
   rintro k G M I ⟨i, o, b', c, rfl, hi, hol, dO, hb', hc, htk, hdr, hvl, rfl, rfl, rfl⟩
   by_cases hin' : i < v.length
   ·have d2 := dv.gt i
    have d3 := dO.gt ((i : Int) + (j : Int))
    have d4 := qR hg d2 (o := 0) (by omega) hc
    rw [Int.zero_add] at d4
    have e1 : (g * gt v i + c).tmod 1000000000 = (g * gt v i + c) % 1000000000 := Int.tmod_eq_emod_of_nonneg d4.2.1.1
    have e2 : (g * gt v i + c).tdiv 1000000000 = (g * gt v i + c) / 1000000000 := Int.tdiv_eq_ediv_of_nonneg d4.2.1.1
    have hij : j + i < o.length := by omega
    repeat' (first | refine iX ?_ | refine aV rfl (fun h => ?_) (fun h => ?_) | refine aW rfl rfl (fun h => ?_) (fun h => ?_) | fail)
    ·have hs := aAG (y := gt o ((i : Int) + (j : Int)) - b' - (g * gt v i + c) % 1000000000 + 1000000000) (b2 := 1) dO hvl hij htk hdr (by omega) (by omega)
     rw [e1, e2]
     refine aQ (v.length - (i + 1)) _ _ _ (by first | omega | (simp only [List.length_append, List.length_cons, List.length_nil]; omega)) aS cZ cK (⟨i + 1, _, 1, _, rfl, by omega, by rw [fG]; exact hol, hs.1, by omega, d4.2.2, hs.2.1, hs.2.2.1, hs.2.2.2, rfl, rfl, rfl⟩)
    ·have hs := aAG (y := gt o ((i : Int) + (j : Int)) - b' - (g * gt v i + c) % 1000000000) (b2 := 0) dO hvl hij htk hdr (by omega) (by omega)
     rw [e1, e2]
     refine aQ (v.length - (i + 1)) _ _ _ (by first | omega | (simp only [List.length_append, List.length_cons, List.length_nil]; omega)) aS cZ cK (⟨i + 1, _, 0, _, rfl, by omega, by rw [fG]; exact hol, hs.1, by omega, d4.2.2, hs.2.1, hs.2.2.1, hs.2.2.2, rfl, rfl, rfl⟩)
   ·obtain rfl : i = v.length := by omega
    have d3 := dO.gt ((j : Int) + (v.length : Int))
    rw [List.take_length] at hvl
    obtain ⟨hx, hD, hset⟩ := aKJ dU dO ⟨dv, tv⟩ (by omega) (by omega) (by omega) hlt hvl hdr hgq hgd
    have hj1 : j < u.length := by omega
    have hj2 : j < qs.length := by omega
    have kg : (g + 1) * val v = g * val v + val v := by rw [Int.add_mul, Int.one_mul]
    have hgq' : val (u.drop j) < (g + 1) * val v := hgq
    have htk2 : ∀ y, (st o ((j : Int) + (v.length : Int)) y).take j = u.take j := fun y => by rw [iA, List.take_set_of_le (by omega)]; exact htk
    have hnn := bO ((dO.drop j).take v.length)
    repeat' (first | refine iX ?_ | refine aV rfl (fun h => ?_) (fun h => ?_) | refine aW rfl rfl (fun h => ?_) (fun h => ?_) | fail)
    ·have hx1 : gt o ((j : Int) + (v.length : Int)) - b' - c = -1 := by omega
     rw [hx1] at hD ⊢
     have h9 : (-1 : Int) + 1000000000 = 999999999 := rfl
     rw [h9]
     obtain ⟨o1, ho1⟩ : ∃ o1, st o ((j : Int) + (v.length : Int)) 999999999 = o1 := ⟨_, rfl⟩
     rw [ho1]
     have ho2 : o1 = o.set (j + v.length) 999999999 := by rw [← ho1, iA]
     have hl1 : o1.length = L := by rw [ho2, List.length_set]; exact hol
     have dO1 : Dig o1 := by rw [ho2]; exact dO.set _ (by omega)
     have htk1 : o1.take j = u.take j := by rw [← ho1]; exact htk2 _
     refine bG [4, 6, 7, 8, 9, 10, 12, 200] rfl (fun k G M I => ∃ (i : Nat) (o2 : List Int) (c3 : Int), k = v.length - i ∧ i ≤ v.length ∧ o2.length = L ∧ Dig o2 ∧ (0 ≤ c3 ∧ c3 ≤ 1) ∧ o2.take j = u.take j ∧ o2.drop (j + i) = o1.drop (j + i) ∧ val ((o2.drop j).take i) + 1000000000 ^ i * c3 = val ((o1.drop j).take i) + val (v.take i) ∧ G = [(20, .int .u32 c3), (201, .int .i64 i)] ∧ M = .blk bU (recs eG o2 ++ tl) 121 :: .blk bq (recs eG qs) 121 :: M0 ∧ I = aX (some ⟨bv, 0, none⟩) (recs eG v) :: I0) (v.length) _ _ _ aS cZ cK (⟨0, o1, 0, rfl, by omega, hl1, dO1, by omega, htk1, rfl, by simp [val], rfl, rfl, rfl⟩) ?_
     rintro k G M I ⟨i, o2, c3, rfl, hi, hol2, dO2, hc3, htk3, hdr3, hvl3, rfl, rfl, rfl⟩
     by_cases hin3 : i < v.length
     ·have f2 := dv.gt i
      have f3 := dO2.gt ((i : Int) + (j : Int))
      have hij3 : j + i < o2.length := by omega
      repeat (refine iX ?_)
      (repeat refine aH ?_); refine gZ [0, 1, 2, 3, 4, 5, 6, 7, 8, 9, 10, 11, 12, 13] [0, 0, 0, 0, 0, 0, 0, 0, 0, 0, 0, 0, 0, 0] mixed (by kernel_rfl) ?_
      repeat' (first | refine iX ?_ | refine aV rfl (fun h => ?_) (fun h => ?_) | refine aW rfl rfl (fun h => ?_) (fun h => ?_) | fail)
      ·have hs := aDQ (y := gt o2 ((i : Int) + (j : Int)) + gt v i + c3 - 1000000000) (c3 := 1) dO2 hvl3 hij3 htk3 hdr3 (by omega) (by omega)
       refine aQ (v.length - (i + 1)) _ _ _ (by first | omega | (simp only [List.length_append, List.length_cons, List.length_nil]; omega)) aS cZ cK (⟨i + 1, _, 1, rfl, by omega, by rw [fG]; exact hol2, hs.1, by omega, hs.2.1, hs.2.2.1, hs.2.2.2, rfl, rfl, rfl⟩)
      ·have hs := aDQ (y := gt o2 ((i : Int) + (j : Int)) + gt v i + c3) (c3 := 0) dO2 hvl3 hij3 htk3 hdr3 (by omega) (by omega)
       refine aQ (v.length - (i + 1)) _ _ _ (by first | omega | (simp only [List.length_append, List.length_cons, List.length_nil]; omega)) aS cZ cK (⟨i + 1, _, 0, rfl, by omega, by rw [fG]; exact hol2, hs.1, by omega, hs.2.1, hs.2.2.1, hs.2.2.2, rfl, rfl, rfl⟩)
     ·obtain rfl : i = v.length := by omega
      rw [List.take_length] at hvl3
      obtain ⟨rfl, hgo, hD3, hlt3, hnn3⟩ := aJT dO dO2 ⟨dv, tv⟩ (by omega) (by omega) ho2 hvl3 hc3 hdr3 hD hset hgd
      have f3 := dO2.gt ((j : Int) + (v.length : Int))
      repeat (refine iX ?_)
      have h10 : ((999999999 : Int) + 1).tmod 1000000000 = 0 := by decide
      rw [hgo, h10]
      have hD2 : val ((st o2 ((j : Int) + (v.length : Int)) 0).drop j) = val (u.drop j) - (g - 1) * val v := by rw [iA]; exact hD3
      refine aQ (j) _ _ _ (by first | omega | (simp only [List.length_append, List.length_cons, List.length_nil]; omega)) aS cZ cK (⟨j, _, _, _, by omega, rfl, rfl, by rw [fG]; exact hol2, by rw [fG]; exact hql, by rw [iA]; exact dO2.set _ (by omega), by rw [oF]; exact dQ.set _ (by omega), aAD hval hj1 (by rw [fG]; omega) hj2 (by rw [iA, List.take_set_of_le (by omega)]; exact htk3) hD2, by rw [hD2]; exact hlt3, rfl, rfl, rfl⟩)
    ·have hx0 : gt o ((j : Int) + (v.length : Int)) - b' - c = 0 := by omega
     rw [hx0] at hD ⊢
     have hD2 : val ((st o ((j : Int) + (v.length : Int)) 0).drop j) = val (u.drop j) - g * val v := by rw [iA, hset, hD]
     refine aQ (j) _ _ _ (by first | omega | (simp only [List.length_append, List.length_cons, List.length_nil]; omega)) aS cZ cK (⟨j, _, _, _, by omega, rfl, rfl, by rw [fG]; exact hol, by rw [fG]; exact hql, by rw [iA]; exact dO.set _ (by omega), by rw [oF]; exact dQ.set _ hg, aAD hval hj1 (by rw [fG]; omega) hj2 (htk2 0) hD2, by rw [hD2]; omega, rfl, rfl, rfl⟩)
 ·obtain rfl : k = 0 := by omega
  rw [List.drop_zero, Int.pow_zero, Int.one_mul, vu, vv] at hval
  rw [List.drop_zero] at hlt
  have hn0 : 0 < n * f := by
   have := bO dU
   rw [vv] at hlt
   omega
  obtain ⟨hru, hrq, hrl⟩ := aLR (m := m) (n := n) dU dQ hval (by rw [← vv]; exact hlt) hf1 hn0
  have hcq : (gr (m / n)).length ≤ u0.length + 1 - v.length := by
   rw [← mP (n := m / n) dQ hrq, ← hql]
   exact vD
  replace hrl : (gr ((m % n) * f)).length ≤ 100000000000 := by
   have h1 := (qM (m := m % n) hf1 hf2).2
   have h2 : (gr (m % n)).length ≤ (gr m).length := gG (Nat.mod_le _ _)
   rw [ha] at h2
   omega
  have hut : val (u.take v.length) = val u := aIB dU (by omega) hlt (jW dv)
  repeat (refine iX ?_)
  refine xZ (M' := M0) (I' := aX (some ⟨bU, 0, none⟩) (recs eG (u.take v.length)) :: aX (some ⟨bq, 0, none⟩) (recs eG qs) :: I0) (fun w hw => ?_) ?_
  ·have h1 := (hw.freezeB (b := bU) (M' := .blk bq (recs eG qs) 121 :: M0) uK).freezeB (b := bq) (M' := M0) uK
   have h2 := (h1.sl (a := some ⟨bU, 0, none⟩) (cs := recs eG u ++ tl) (by simp)).take v.length
   have e : (recs eG u ++ tl).take v.length = recs eG (u.take v.length) := by
    rw [List.take_append_of_le_length (by rw [nY, List.length_map]; omega), zB]
   rw [e] at h2
   exact (h1.add (φ := aX (some ⟨bU, 0, none⟩) (recs eG (u.take v.length))) ⟨h2⟩).inc cK
  refine aD rfl (fun _ => zY (e := 121) (sz := 1) 0 v.length v.length rfl (.inl ⟨rfl, rfl⟩) (.inr ⟨_, _, _, rfl, rfl, rfl⟩) (by omega) (by omega) (by omega)) rfl rfl ?_
  rw [cut0 bU c2, Nat.sub_zero]
  repeat (refine iX ?_)
  (refine aT rfl (pE (l := u.take v.length) (n := v.length) (c := c2) (q := some ⟨bU, 0, none⟩) (by rw [List.length_take]; omega) (by omega) (by rw [List.length_take]; omega) aP) rfl rfl ?_; rintro _ _ _ ⟨rfl, rfl, rfl⟩; refine ⟨jD, ?_⟩)
  rw [mP (n := (m % n) * f) (dU.take v.length) (by rw [hut]; exact hru)]
  repeat (refine iX ?_)
  (refine aT rfl (aEN (n := (m % n) * f) (d := f) hrl ⟨hf1, hf2⟩ aP) rfl rfl ?_; rintro _ _ _ ⟨rfl, p5, c5, hc5, ho5, rfl, rfl⟩; refine ⟨jD, ?_⟩)
  rw [Nat.mul_div_cancel _ hf1] at hc5
  rw [Nat.mul_div_cancel _ hf1]
  repeat (refine iX ?_)
  (refine aT rfl (pE (l := qs) (n := u0.length + 1 - v.length) (c := u0.length + 1 - v.length) (q := some ⟨bq, 0, none⟩) (by omega) (by omega) (by omega) aP) rfl rfl ?_; rintro _ _ _ ⟨rfl, rfl, rfl⟩; refine ⟨jD, ?_⟩)
  rw [mP (n := m / n) dQ hrq]
  repeat (refine iX ?_)
  refine iL [4, 5] (by first | exact .inl rfl | exact .inr rfl) rfl rfl rfl _ _ cZ cK (⟨rfl, some ⟨bq, 0, none⟩, _, p5, c5, ⟨hcq, .inl (Ok.mk _ _)⟩, ⟨hc5, .inl ho5⟩, rfl, rfl⟩)
end
end Go.Proofs.YtmmmfphealhapaaGreat
namespace Go.Proofs.YtmmmfphealhapaaGreat
open Go Go.Fx
theorem vT {x y : Int} (h : x < y) : fQ x y = -1 := by unfold fQ; rw [if_pos h]
theorem vX {x y : Int} (h : ¬ x < y) : 0 ≤ fQ x y ∧ fQ x y ≤ 1 := by unfold fQ; rw [if_neg h]; split <;> omega
def QrP (a b : Nat) (M0 : List Ent) (I0 : List bA) (v : Value) (M : List Ent) (I : List bA) : Prop :=
 M0 = M ∧ ∃ p1 c1 p2 c2, oO p1 a c1 ∧ oO p2 b c2 ∧ v = .tuple #[.slice p1 (gr a).length c1, .slice p2 (gr b).length c2] ∧ I = aX p1 (recs eG (gr a)) :: aX p2 (recs eG (gr b)) :: I0
section
variable {X : List Nat} {w0 : World} {M0 : List Ent} {I0 : List bA}
theorem aGO {p q : Option Addr} {m n cp cq : Nat} (hm : (gr m).length ≤ 50000000000) (hn0 : (gr n).length ≤ 50000000000) (hn : 0 < n) (hcp : oO p m cp) (hp : aX p (recs eG (gr m)) ∈ I0) (hq : aX q (recs eG (gr n)) ∈ I0) :
  CD Tryz.prog 127 [.slice p (gr m).length cp, .slice q (gr n).length cq] X w0 M0 I0 (QrP (m / n) (m % n) M0 I0) := by
 have hC := uR (X := X) (w0 := w0) (M0 := M0) (I0 := I0) (p := p) (q := q) (m := m) (n := n) (cp := cp) (cq := cq) (by omega) (by omega) hp hq
 have hW1 := xK (X := X) (w0 := w0) (M0 := M0) (I0 := I0) (q := p) (n := m) (c := cp) (by omega) hp
 have hW2 := xK (X := X) (w0 := w0) (M0 := M0) (I0 := I0) (q := q) (n := n) (c := cq) (by omega) hq
 by_cases hlt : m < n
 ·have e1 : m / n = 0 := Nat.div_eq_of_lt hlt
  have e2 : m % n = m := Nat.mod_eq_of_lt hlt
  rw [e1, e2]
  unfold QrP
  simp only [fH]
  rw [vT (by omega)] at hC
  have hO : oO p m cp := hcp
  refine eY Tryz.func127 rfl Tryz.ntmps127 rfl ?_
  repeat (refine iX ?_)
  (refine aT rfl (hC) rfl rfl ?_; rintro _ _ _ ⟨rfl, rfl, rfl⟩; refine ⟨jD, ?_⟩)
  repeat (refine iX ?_)
  refine aBT none ?_
  refine iL [4, 5] (by first | exact .inl rfl | exact .inr rfl) rfl rfl rfl _ _ cZ cK (⟨rfl, none, 0, p, cp, ⟨by rw [fH]; simp, .inr ⟨by rw [fH]; rfl, rfl⟩⟩, hO, rfl, rfl⟩)
 ·have hcv := vX (x := (m : Int)) (y := (n : Int)) (by omega)
  generalize fQ (m : Int) (n : Int) = cv at *
  have e1 : ((m : Int)).tdiv (n : Int) = ((m / n : Nat) : Int) := by rw [Int.tdiv_eq_ediv_of_nonneg (by omega), Int.natCast_ediv]
  have e2 : ((m : Int)).tmod (n : Int) = ((m % n : Nat) : Int) := by rw [Int.tmod_eq_emod_of_nonneg (by omega), Int.natCast_emod]
  have hmn : (gr n).length ≤ (gr m).length := gG (by omega)
  by_cases hw : (gr m).length ≤ 2
  ·have hw2 : (gr n).length ≤ 2 := by omega
   rw [if_pos hw, fA hw] at hW1
   rw [if_pos hw2, fA hw2] at hW2
   have hb : m < 1000000000000000000 := by
    have := jW (bW m)
    rw [dC] at this
    have h2 : (1000000000 : Int) ^ (gr m).length ≤ 1000000000 ^ 2 := mE hw
    omega
   have hS1 := fun M0 I0 => pQ (X := X) (w0 := w0) (M0 := M0) (I0 := I0) (n := m / n) (Nat.le_trans (Nat.div_le_self _ _) (by omega))
   have hS2 := fun M0 I0 => pQ (X := X) (w0 := w0) (M0 := M0) (I0 := I0) (n := m % n) (Nat.le_trans (Nat.mod_le _ _) (by omega))
   refine eY Tryz.func127 rfl Tryz.ntmps127 rfl ?_
   repeat (refine iX ?_)
   (refine aT rfl (hC) rfl rfl ?_; rintro _ _ _ ⟨rfl, rfl, rfl⟩; refine ⟨jD, ?_⟩)
   repeat (refine iX ?_)
   (refine aT rfl (hW1) rfl rfl ?_; rintro _ _ _ ⟨rfl, rfl, rfl⟩; refine ⟨jD, ?_⟩)
   repeat (refine iX ?_)
   (refine aT rfl (hW2) rfl rfl ?_; rintro _ _ _ ⟨rfl, rfl, rfl⟩; refine ⟨jD, ?_⟩)
   repeat (refine iX ?_)
   (repeat refine aH ?_); refine gZ [0, 1, 2, 4, 5, 6, 3, 7, 8, 9] [2, 2, 1, 2, 2, 1, 0, 0, 0, 0] mixed (by kernel_rfl) ?_
   repeat (refine iX ?_)
   rw [e1, e2]
   (refine aT rfl (hS1 _ _) rfl rfl ?_; rintro _ _ _ ⟨rfl, q1, c1, rfl, ho1, rfl⟩; refine ⟨jD, ?_⟩)
   repeat (refine iX ?_)
   (refine aT rfl (hS2 _ _) rfl rfl ?_; rintro _ _ _ ⟨rfl, q2, c2, rfl, ho2, rfl⟩; refine ⟨jD, ?_⟩)
   repeat (refine iX ?_)
   refine iL [4, 5] (by first | exact .inl rfl | exact .inr rfl) rfl rfl rfl _ _ cZ cK (⟨rfl, q1, c1, q2, c2, ho1, ho2, rfl, rfl⟩)
  ·rw [if_neg hw, dF hw] at hW1
   have hn1 : 0 < (gr n).length := List.length_pos_iff.2 (fun e => by have := mI.1 e; omega)
   by_cases h1 : (gr n).length = 1
   ·have hnb : n < 1000000000 := by
     have := jW (bW n)
     rw [dC, h1] at this
     omega
    have hgo := rX hn hnb
    have hS := fun M0 I0 hq => aEN (X := X) (w0 := w0) (M0 := M0) (I0 := I0) (q := p) (n := m) (c := cp) (d := n) (by omega) ⟨hn, hnb⟩ hq
    have hS2 := fun M0 I0 => pQ (X := X) (w0 := w0) (M0 := M0) (I0 := I0) (n := m % n) (Nat.le_trans (Nat.le_of_lt (Nat.mod_lt _ hn)) (by omega))
    have hgt : gt (gr n) 0 = (n : Int) := by rw [hgo]; rfl
    have hmr : m % n < n := Nat.mod_lt _ hn
    refine eY Tryz.func127 rfl Tryz.ntmps127 rfl ?_
    repeat (refine iX ?_)
    (refine aT rfl (hC) rfl rfl ?_; rintro _ _ _ ⟨rfl, rfl, rfl⟩; refine ⟨jD, ?_⟩)
    repeat (refine iX ?_)
    (refine aT rfl (hW1) rfl rfl ?_; rintro _ _ _ ⟨rfl, rfl, rfl⟩; refine ⟨jD, ?_⟩)
    repeat (refine iX ?_)
    (refine aT rfl (hW2) rfl rfl ?_; rintro _ _ _ ⟨rfl, rfl, rfl⟩; refine ⟨jD, ?_⟩)
    repeat (refine iX ?_)
    rw [hgt]
    (refine aT rfl (hS _ _ aP) rfl rfl ?_; rintro _ _ _ ⟨rfl, p1, c1, hc1, ho1, rfl, rfl⟩; refine ⟨jD, ?_⟩)
    repeat (refine iX ?_)
    (refine aT rfl (hS2 _ _) rfl rfl ?_; rintro _ _ _ ⟨rfl, q2, c2, rfl, ho2, rfl⟩; refine ⟨jD, ?_⟩)
    repeat (refine iX ?_)
    refine iL [4, 5] (by first | exact .inl rfl | exact .inr rfl) rfl rfl rfl _ _ cZ cK (⟨rfl, p1, c1, q2, c2, ⟨hc1, .inl ho1⟩, ho2, rfl, rfl⟩)
   ·have hL := fun M0 I0 hp hq => aOP (X := X) (w0 := w0) (M0 := M0) (I0 := I0) (p := p) (q := q) (m := m) (n := n) (cp := cp) (cq := cq) hm (by omega) (by omega) hp hq
    refine eY Tryz.func127 rfl Tryz.ntmps127 rfl ?_
    repeat (refine iX ?_)
    (refine aT rfl (hC) rfl rfl ?_; rintro _ _ _ ⟨rfl, rfl, rfl⟩; refine ⟨jD, ?_⟩)
    repeat (refine iX ?_)
    (refine aT rfl (hW1) rfl rfl ?_; rintro _ _ _ ⟨rfl, rfl, rfl⟩; refine ⟨jD, ?_⟩)
    repeat (refine iX ?_)
    (refine aT rfl (hW2) rfl rfl ?_; rintro _ _ _ ⟨rfl, rfl, rfl⟩; refine ⟨jD, ?_⟩)
    repeat (refine iX ?_)
    (refine aT rfl (hL _ _ aP aP) rfl rfl ?_; rintro _ _ _ ⟨rfl, p1, c1, p2, c2, ho1, ho2, rfl, rfl⟩; refine ⟨jD, ?_⟩)
    repeat (refine iX ?_)
    refine iL [4, 5] (by first | exact .inl rfl | exact .inr rfl) rfl rfl rfl _ _ cZ cK (⟨rfl, p1, c1, p2, c2, ho1, ho2, rfl, rfl⟩)
end
end Go.Proofs.YtmmmfphealhapaaGreat

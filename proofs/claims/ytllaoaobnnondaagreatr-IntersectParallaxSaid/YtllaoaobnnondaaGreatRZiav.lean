/- fiducialref01: pair, Gcd fiducialref01: Divide -/
import Derived.Test.YtllaoaobnnondaaGreatRZiau
import Derived.Test.YtllaoaobnnondaaGreatRZiao
set_option linter.unusedSimpArgs false
set_option linter.unusedVariables false
namespace Go.Proofs.YtllaoaobnnondaaGreatR
open Go Go.Fx
theorem small2 {t : Nat} (ht : (gr t).length ≤ 2) : t < 1000000000000000000 := by
  have := val_lt (gr_dig t)
  rw [gr_val] at this
  have h2 : (1000000000 : Int) ^ (gr t).length ≤ 1000000000 ^ 2 := pow_mono9 ht
  omega
theorem pair_val {n : Nat} (h : (gr n).length ≤ 2) : gt (gr n) 1 * 1000000000 + gt (gr n) 0 = (n : Int) := by
  have hv := gr_val n
  match hg : gr n, h with
  | [], _ => rw [hg] at hv; simp [val] at hv; rw [← hv]; rfl
  | [a], _ => rw [hg] at hv; simp [val] at hv; rw [← hv]; simp [gt]
  | [a, b], _ => rw [hg] at hv; simp [val] at hv; rw [← hv]; simp [gt]; omega
section
variable {X : List Nat} {w0 : World} {M0 : List Ent} {I0 : List Imm}
set_option maxRecDepth 100000 in
theorem pair_ok {q : Option Addr} {n c : Nat} (hl : (gr n).length ≤ 2) (hq : slI q (recs eG (gr n)) ∈ I0) :
    CD Tryz.prog 185 [.slice q (gr n).length c] X w0 M0 I0 (fun v M I => M0 = M ∧ I0 = I ∧ v = .int .u64 (n : Int)) := by
  have d0 := (gr_dig n).gt 0
  have d1 := (gr_dig n).gt 1
  rw [← pair_val hl]
  refine enterD1 Tryz.func185 rfl Tryz.ntmps185 rfl ?_
  repeat' (first | refine wXf ?_ | (refine TD_isCo ?_; first | refine TD_dec rfl (fun h => ?_) (fun h => ?_) | refine TD_cond rfl (fun h => ?_) (fun h => ?_)) | (refine RD_isGu ?_; first | refine RD_grd rfl rfl (fun h => ?_) (fun h => ?_) | (fail_if_success (refine RD_isW rfl ?_); refine RD_grdB rfl rfl (fun h => ?_) (fun h => ?_))))
  (refine RD_callS rfl (group_ok (l := gr n) (i := 1) rfl (by omega) memF (gr_dig n)) rfl rfl ?_; rintro _ _ _ ⟨rfl, rfl, rfl⟩; refine ⟨okF, ?_⟩)
  repeat' (first | refine wXf ?_ | (refine TD_isCo ?_; first | refine TD_dec rfl (fun h => ?_) (fun h => ?_) | refine TD_cond rfl (fun h => ?_) (fun h => ?_)) | (refine RD_isGu ?_; first | refine RD_grd rfl rfl (fun h => ?_) (fun h => ?_) | (fail_if_success (refine RD_isW rfl ?_); refine RD_grdB rfl rfl (fun h => ?_) (fun h => ?_))))
  (refine RD_callS rfl (group_ok (l := gr n) (i := 0) rfl (by omega) memF (gr_dig n)) rfl rfl ?_; rintro _ _ _ ⟨rfl, rfl, rfl⟩; refine ⟨okF, ?_⟩)
  repeat' (first | refine wXf ?_ | (refine TD_isCo ?_; first | refine TD_dec rfl (fun h => ?_) (fun h => ?_) | refine TD_cond rfl (fun h => ?_) (fun h => ?_)) | (refine RD_isGu ?_; first | refine RD_grd rfl rfl (fun h => ?_) (fun h => ?_) | (fail_if_success (refine RD_isW rfl ?_); refine RD_grdB rfl rfl (fun h => ?_) (fun h => ?_))))
  refine ND_ret1 (by first | exact .inl rfl | exact .inr rfl) rfl rfl _ _ subF incF (⟨rfl, rfl, rfl⟩)
set_option maxRecDepth 100000 in
set_option maxHeartbeats 1000000 in
theorem rGcd_ok {u v : Value} {y z : Int} {k0 m : Nat} (hk : k0 ≤ 1000000000) (hm : m ≤ 1000000000) (hu : isI u y k0 ∈ I0) (hv : isI v z m ∈ I0) : CD Tryz.prog 103 [u, v] X w0 M0 I0 (fun v M I => M0 = M ∧ I = isI v (Int.gcd y z) (k0 + m) :: I0) := by
  refine CD_openI hu (fun q cq e hc hy => ?_)
  subst e
  refine CD_openI (List.Mem.tail _ hv) (fun q' cq' e hc' hz => ?_)
  subst e
  have hy2 : y.natAbs ≤ 2 ^ (k0 + m) := Nat.le_trans hy (Nat.pow_le_pow_right (by decide) (by omega))
  have hz2 : z.natAbs ≤ 2 ^ (k0 + m) := Nat.le_trans hz (Nat.pow_le_pow_right (by decide) (by omega))
  have hMd := fun (a : Nat) (e : (Int.gcd y z : Int) = a) (ha : a ≤ 2 ^ (k0 + m)) (q : Option Addr) (l : List Int) (h0 : l.length ≤ 1000000000000) (c2 : Nat) (h1 : l.length ≤ c2) (h2 : Ok q ∨ (l.length = 0 ∧ c2 = 0)) (h3 : Dig l) (h4 : val l = (a : Int)) M0 I0 => rmade_ok (X := X) (w0 := w0) (M0 := M0) (I0 := I0) (p := False) (n := a) (q := q) (l := l) (c := c2) (k := k0 + m) h0 h1 h2 h3 h4 ha
  simp only [B_false (show ¬ False from id)] at hMd
  have hsg : ∀ a : Nat, sg False a = (a : Int) := fun a => by unfold sg; rw [if_neg (fun h => h)]
  unfold iv
  refine enterD2 Tryz.func103 rfl Tryz.ntmps103 rfl ?_
  refine TD_seq ?_
  refine TD_region ?_
  (refine RD_boxA rfl rfl rfl ?_; intro b; refine ⟨okF, ?_⟩)
  (refine RD_boxA rfl rfl rfl ?_; intro b2; refine ⟨okF, ?_⟩)
  (refine RD_alloc rfl rfl ?_; intro b3; refine ⟨okF, ?_⟩)
  repeat' (first | refine wXf ?_ | (refine TD_isCo ?_; first | refine TD_dec rfl (fun h => ?_) (fun h => ?_) | refine TD_cond rfl (fun h => ?_) (fun h => ?_)) | (refine RD_isGu ?_; first | refine RD_grd rfl rfl (fun h => ?_) (fun h => ?_) | (fail_if_success (refine RD_isW rfl ?_); refine RD_grdB rfl rfl (fun h => ?_) (fun h => ?_))))
  (repeat refine TD_seq ?_); refine TD_drawnJ 3 [0, 3, 1, 2, 4, 5, 6, 7] [1, 1, 0, 1, 0, 0, 0, 0] mixed (by kernel_rfl) ?_
  repeat' (first | refine wXf ?_ | (refine TD_isCo ?_; first | refine TD_dec rfl (fun h => ?_) (fun h => ?_) | refine TD_cond rfl (fun h => ?_) (fun h => ?_)) | (refine RD_isGu ?_; first | refine RD_grd rfl rfl (fun h => ?_) (fun h => ?_) | (fail_if_success (refine RD_isW rfl ?_); refine RD_grdB rfl rfl (fun h => ?_) (fun h => ?_))))
  (refine RD_callS rfl (rValue_ok hy (by omega) hc memF) rfl rfl ?_; rintro _ _ _ ⟨rfl, q3, c3, rfl, hc3, rfl⟩; refine ⟨okF, ?_⟩)
  repeat' (first | refine wXf ?_ | (refine TD_isCo ?_; first | refine TD_dec rfl (fun h => ?_) (fun h => ?_) | refine TD_cond rfl (fun h => ?_) (fun h => ?_)) | (refine RD_isGu ?_; first | refine RD_grd rfl rfl (fun h => ?_) (fun h => ?_) | (fail_if_success (refine RD_isW rfl ?_); refine RD_grdB rfl rfl (fun h => ?_) (fun h => ?_))))
  (refine RD_callS rfl (rValue_ok hz (by omega) hc' memF) rfl rfl ?_; rintro _ _ _ ⟨rfl, q4, c4, rfl, hc4, rfl⟩; refine ⟨okF, ?_⟩)
  repeat' (first | refine wXf ?_ | (refine TD_isCo ?_; first | refine TD_dec rfl (fun h => ?_) (fun h => ?_) | refine TD_cond rfl (fun h => ?_) (fun h => ?_)) | (refine RD_isGu ?_; first | refine RD_grd rfl rfl (fun h => ?_) (fun h => ?_) | (fail_if_success (refine RD_isW rfl ?_); refine RD_grdB rfl rfl (fun h => ?_) (fun h => ?_))))
  refine TD_loop [4] rfl (fun k G M I => ∃ (a b : Nat) (pa pb : Option Addr) (ca cb : Nat), k = b ∧ a ≤ 2 ^ (k0 + m) ∧ b ≤ 2 ^ (k0 + m) ∧ OkC pa a ca ∧ OkC pb b cb ∧ Nat.gcd a b = Nat.gcd y.natAbs z.natAbs ∧ G = [(5, .slice pa (gr a).length ca), (6, .slice pb (gr b).length cb)] ∧ M = .blk b3 [.bool false, .slice none 0 0] 24 :: M0 ∧ I = slI pa (recs eG (gr a)) :: slI pb (recs eG (gr b)) :: I0) (z.natAbs) _ _ _ subG subF incF (⟨y.natAbs, z.natAbs, q3, q4, c3, c4, rfl, hy2, hz2, hc3, hc4, rfl, rfl, rfl, rfl⟩) ?_
  rintro k G M I ⟨a, b', pa, pb, ca, cb, rfl, ha, hb, oa, ob, hg, rfl, rfl, rfl⟩
  have la := gr_len_pow ha
  have lb := gr_len_pow hb
  by_cases hk0 : k = 0
  · subst hk0
    have hl0 : (gr 0).length = 0 := by rw [gr_zero]; rfl
    rw [Nat.gcd_zero_right] at hg
    have hz : (Int.gcd y z : Int) = (a : Int) := by rw [Int.gcd_eq_natAbs_gcd_natAbs, hg]
    have hM := fun M0 I0 => hMd a hz ha pa (gr a) (by omega) ca oa.1 oa.2 (gr_dig a) (gr_val a) M0 I0
    rw [hsg, ← hz] at hM
    repeat' (first | refine wXf ?_ | (refine TD_isCo ?_; first | refine TD_dec rfl (fun h => ?_) (fun h => ?_) | refine TD_cond rfl (fun h => ?_) (fun h => ?_)) | (refine RD_isGu ?_; first | refine RD_grd rfl rfl (fun h => ?_) (fun h => ?_) | (fail_if_success (refine RD_isW rfl ?_); refine RD_grdB rfl rfl (fun h => ?_) (fun h => ?_))))
    (refine RD_callS rfl (hM _ _ memF) rfl rfl ?_; rintro _ _ _ ⟨rfl, rfl⟩; refine ⟨okF, ?_⟩; refine RD_openI (List.Mem.head _) (fun q2 c2 e__ hc2 hz2 => ?_); subst e__)
    unfold iv
    repeat' (first | refine wXf ?_ | (refine TD_isCo ?_; first | refine TD_dec rfl (fun h => ?_) (fun h => ?_) | refine TD_cond rfl (fun h => ?_) (fun h => ?_)) | (refine RD_isGu ?_; first | refine RD_grd rfl rfl (fun h => ?_) (fun h => ?_) | (fail_if_success (refine RD_isW rfl ?_); refine RD_grdB rfl rfl (fun h => ?_) (fun h => ?_))))
    refine ND_retC (cs := [.bool (B ((Int.gcd y z : Int) < 0)), .slice q2 (gr (Int.gcd y z : Int).natAbs).length c2]) (.inl rfl) rfl rfl memF rfl _ _ subF incF ⟨rfl, rfl⟩
  · have hlk : 0 < (gr k).length := List.length_pos_iff.2 (fun e => hk0 (gr_nil.1 e))
    by_cases hw : (gr a).length ≤ 2 ∧ (gr k).length ≤ 2
    · have a9 := small2 hw.1
      have k9 := small2 hw.2
      have hP1 := fun M0 I0 => pair_ok (X := X) (w0 := w0) (M0 := M0) (I0 := I0) (q := pa) (n := a) (c := ca) hw.1
      have hP2 := fun M0 I0 => pair_ok (X := X) (w0 := w0) (M0 := M0) (I0 := I0) (q := pb) (n := k) (c := cb) hw.2
      repeat' (first | refine wXf ?_ | (refine TD_isCo ?_; first | refine TD_dec rfl (fun h => ?_) (fun h => ?_) | refine TD_cond rfl (fun h => ?_) (fun h => ?_)) | (refine RD_isGu ?_; first | refine RD_grd rfl rfl (fun h => ?_) (fun h => ?_) | (fail_if_success (refine RD_isW rfl ?_); refine RD_grdB rfl rfl (fun h => ?_) (fun h => ?_))))
      (refine RD_callS rfl (hP1 _ _ memF) rfl rfl ?_; rintro _ _ _ ⟨rfl, rfl, rfl⟩; refine ⟨okF, ?_⟩)
      repeat' (first | refine wXf ?_ | (refine TD_isCo ?_; first | refine TD_dec rfl (fun h => ?_) (fun h => ?_) | refine TD_cond rfl (fun h => ?_) (fun h => ?_)) | (refine RD_isGu ?_; first | refine RD_grd rfl rfl (fun h => ?_) (fun h => ?_) | (fail_if_success (refine RD_isW rfl ?_); refine RD_grdB rfl rfl (fun h => ?_) (fun h => ?_))))
      (refine RD_callS rfl (hP2 _ _ memF) rfl rfl ?_; rintro _ _ _ ⟨rfl, rfl, rfl⟩; refine ⟨okF, ?_⟩)
      clear hlk la lb oa ob
      repeat' (first | refine wXf ?_ | (refine TD_isCo ?_; first | refine TD_dec rfl (fun h => ?_) (fun h => ?_) | refine TD_cond rfl (fun h => ?_) (fun h => ?_)) | (refine RD_isGu ?_; first | refine RD_grd rfl rfl (fun h => ?_) (fun h => ?_) | (fail_if_success (refine RD_isW rfl ?_); refine RD_grdB rfl rfl (fun h => ?_) (fun h => ?_))))
      refine TD_loop [4] rfl (fun k G M I => ∃ (x x2 : Nat) (xi xi2 : Int), k = x2 ∧ xi = x ∧ xi2 = x2 ∧ x < 1000000000000000000 ∧ x2 < 1000000000000000000 ∧ x ≤ 2 ^ (k0 + m) ∧ x2 ≤ 2 ^ (k0 + m) ∧ Nat.gcd x x2 = Nat.gcd y.natAbs z.natAbs ∧ G = [(9, .int .u64 xi), (10, .int .u64 xi2)] ∧ M = .blk b3 [.bool false, .slice none 0 0] 24 :: M0 ∧ I0 = I) (k) _ _ _ subG subF incF (⟨a, k, _, _, rfl, rfl, rfl, a9, k9, ha, hb, hg, rfl, rfl, rfl⟩) ?_
      rintro k G M I ⟨x, x2, xi, xi2, rfl, hxi, hxi2, hx9, hx29, hx, hx2, hxg, rfl, rfl, rfl⟩
      by_cases hx0 : k = 0
      · subst hx0
        rw [Nat.gcd_zero_right] at hxg
        have hz : (Int.gcd y z : Int) = (x : Int) := by rw [Int.gcd_eq_natAbs_gcd_natAbs, hxg]
        have e1 := tmod9 (s := xi) (by omega)
        have e2 := tdiv9 (s := xi) (by omega)
        obtain ⟨s, hs⟩ : ∃ s, s = xi % 1000000000 := ⟨_, rfl⟩
        obtain ⟨t, ht⟩ : ∃ t, t = xi / 1000000000 := ⟨_, rfl⟩
        have hst : (0 ≤ s ∧ s < 1000000000) ∧ (0 ≤ t ∧ t < 1000000000) ∧ s + 1000000000 * t = x := by omega
        rw [← hs] at e1
        rw [← ht] at e2
        have hd2 : Dig [s, t] := by rw [Dig.cons, Dig.cons]; exact ⟨hst.1, hst.2.1, Dig.nil⟩
        have hv2 : val [s, t] = (x : Int) := by simp [val]; omega
        have hM := fun b4 M0 I0 => hMd x hz hx (some ⟨b4, 0, none⟩) [s, t] (by simp) 2 (by simp) (.inl (Ok.mk _ _)) hd2 hv2 M0 I0
        rw [hsg, ← hz] at hM
        repeat' (first | refine wXf ?_ | (refine TD_isCo ?_; first | refine TD_dec rfl (fun h => ?_) (fun h => ?_) | refine TD_cond rfl (fun h => ?_) (fun h => ?_)) | (refine RD_isGu ?_; first | refine RD_grd rfl rfl (fun h => ?_) (fun h => ?_) | (fail_if_success (refine RD_isW rfl ?_); refine RD_grdB rfl rfl (fun h => ?_) (fun h => ?_))))
        rw [e1]
        repeat' (first | refine wXf ?_ | (refine TD_isCo ?_; first | refine TD_dec rfl (fun h => ?_) (fun h => ?_) | refine TD_cond rfl (fun h => ?_) (fun h => ?_)) | (refine RD_isGu ?_; first | refine RD_grd rfl rfl (fun h => ?_) (fun h => ?_) | (fail_if_success (refine RD_isW rfl ?_); refine RD_grdB rfl rfl (fun h => ?_) (fun h => ?_))))
        rw [e2]
        repeat' (first | refine wXf ?_ | (refine TD_isCo ?_; first | refine TD_dec rfl (fun h => ?_) (fun h => ?_) | refine TD_cond rfl (fun h => ?_) (fun h => ?_)) | (refine RD_isGu ?_; first | refine RD_grd rfl rfl (fun h => ?_) (fun h => ?_) | (fail_if_success (refine RD_isW rfl ?_); refine RD_grdB rfl rfl (fun h => ?_) (fun h => ?_))))
        (refine RD_vals (cs := recs eG [s, t]) ([.int .u32 s, .int .u32 t]) rfl rfl (by intro v hv; repeat (first | exact absurd hv (List.not_mem_nil) | (rcases List.mem_cons.1 hv with rfl | hv; · rfl))) (by omega) rfl rfl rfl ?_; intro b4; refine ⟨okF, ?_⟩)
        refine RD_freezeB remF ?_
        (refine RD_callS rfl (hM b4 _ _ memF) rfl rfl ?_; rintro _ _ _ ⟨rfl, rfl⟩; refine ⟨okF, ?_⟩; refine RD_openI (List.Mem.head _) (fun q2 c2 e__ hc2 hz2 => ?_); subst e__)
        unfold iv
        repeat' (first | refine wXf ?_ | (refine TD_isCo ?_; first | refine TD_dec rfl (fun h => ?_) (fun h => ?_) | refine TD_cond rfl (fun h => ?_) (fun h => ?_)) | (refine RD_isGu ?_; first | refine RD_grd rfl rfl (fun h => ?_) (fun h => ?_) | (fail_if_success (refine RD_isW rfl ?_); refine RD_grdB rfl rfl (fun h => ?_) (fun h => ?_))))
        refine ND_retC (cs := [.bool (B ((Int.gcd y z : Int) < 0)), .slice q2 (gr (Int.gcd y z : Int).natAbs).length c2]) (.inl rfl) rfl rfl memF rfl _ _ subF incF ⟨rfl, rfl⟩
      · have e2 : xi.tmod xi2 = ((x % k : Nat) : Int) := by rw [hxi, hxi2, Int.tmod_eq_emod_of_nonneg (by omega), Int.natCast_emod]
        have hmod := Nat.mod_lt x (show k > 0 by omega)
        have hg2 : Nat.gcd k (x % k) = Nat.gcd y.natAbs z.natAbs := by rw [← hxg, Nat.gcd_comm x k, Nat.gcd_rec k x, Nat.gcd_comm]
        obtain ⟨r, hr⟩ : ∃ r, r = x % k := ⟨_, rfl⟩
        rw [← hr] at e2 hmod hg2
        clear hr
        repeat' (first | refine wXf ?_ | (refine TD_isCo ?_; first | refine TD_dec rfl (fun h => ?_) (fun h => ?_) | refine TD_cond rfl (fun h => ?_) (fun h => ?_)) | (refine RD_isGu ?_; first | refine RD_grd rfl rfl (fun h => ?_) (fun h => ?_) | (fail_if_success (refine RD_isW rfl ?_); refine RD_grdB rfl rfl (fun h => ?_) (fun h => ?_))))
        (repeat refine TD_seq ?_); refine TD_drawn [0, 1, 2, 3, 4, 5] [0, 0, 0, 0, 0, 0] mixed (by kernel_rfl) ?_
        repeat' (first | refine wXf ?_ | (refine TD_isCo ?_; first | refine TD_dec rfl (fun h => ?_) (fun h => ?_) | refine TD_cond rfl (fun h => ?_) (fun h => ?_)) | (refine RD_isGu ?_; first | refine RD_grd rfl rfl (fun h => ?_) (fun h => ?_) | (fail_if_success (refine RD_isW rfl ?_); refine RD_grdB rfl rfl (fun h => ?_) (fun h => ?_))))
        rw [e2]
        refine ND_again (r) _ _ _ (by first | omega | (simp only [List.length_append, List.length_cons, List.length_nil]; omega)) subG subF incF (⟨k, r, xi2, _, rfl, hxi2, rfl, by omega, by omega, hx2, by omega, hg2, rfl, rfl, rfl⟩)
    · have hO := fun M0 I0 => parts_ok (X := X) (w0 := w0) (M0 := M0) (I0 := I0) (p := pa) (q := pb) (m := a) (n := k) (cp := ca) (cq := cb) (by omega) (by omega) (by omega) oa
      have hmod := Nat.mod_lt a (show k > 0 by omega)
      have hg2 : Nat.gcd k (a % k) = Nat.gcd y.natAbs z.natAbs := by rw [← hg, Nat.gcd_comm a k, Nat.gcd_rec k a, Nat.gcd_comm]
      obtain ⟨r, hr⟩ : ∃ r, r = a % k := ⟨_, rfl⟩
      obtain ⟨qq, hqq⟩ : ∃ r, r = a / k := ⟨_, rfl⟩
      rw [← hr, ← hqq] at hO
      rw [← hr] at hmod hg2
      clear hr hqq
      repeat' (first | refine wXf ?_ | (refine TD_isCo ?_; first | refine TD_dec rfl (fun h => ?_) (fun h => ?_) | refine TD_cond rfl (fun h => ?_) (fun h => ?_)) | (refine RD_isGu ?_; first | refine RD_grd rfl rfl (fun h => ?_) (fun h => ?_) | (fail_if_success (refine RD_isW rfl ?_); refine RD_grdB rfl rfl (fun h => ?_) (fun h => ?_))))
      all_goals
        (refine RD_callS rfl (hO _ _ memF memF) rfl rfl ?_; rintro _ _ _ ⟨rfl, p1, c1, p2, c2, ho1, ho2, rfl, rfl⟩; refine ⟨okF, ?_⟩)
        repeat' (first | refine wXf ?_ | (refine TD_isCo ?_; first | refine TD_dec rfl (fun h => ?_) (fun h => ?_) | refine TD_cond rfl (fun h => ?_) (fun h => ?_)) | (refine RD_isGu ?_; first | refine RD_grd rfl rfl (fun h => ?_) (fun h => ?_) | (fail_if_success (refine RD_isW rfl ?_); refine RD_grdB rfl rfl (fun h => ?_) (fun h => ?_))))
        refine ND_again (r) _ _ _ (by first | omega | (simp only [List.length_append, List.length_cons, List.length_nil]; omega)) subG subF incF (⟨k, r, pb, p2, cb, c2, rfl, hb, by omega, ob, ho2, hg2, rfl, rfl, rfl⟩)
end
end Go.Proofs.YtllaoaobnnondaaGreatR
namespace Go.Proofs.YtllaoaobnnondaaGreatR
open Go Go.Fx
theorem divide_sg {y z : Int} (hz : z ≠ 0) : ((y < 0 ↔ z < 0) ∨ y.natAbs % z.natAbs = 0 → sg (¬ (y < 0 ↔ z < 0)) (y.natAbs / z.natAbs) = y.fdiv z) ∧ (¬ (y < 0 ↔ z < 0) → y.natAbs % z.natAbs ≠ 0 → sg (¬ (y < 0 ↔ z < 0)) (y.natAbs / z.natAbs) - 1 = y.fdiv z) := by
  have h := fdiv_abs (y := y) hz
  refine ⟨fun h1 => by rw [(h.2 h1).1]; rfl, fun h1 h2 => ?_⟩
  rw [(h.1 h1 h2).1]
  unfold sg
  rw [if_pos h1]; omega
theorem ite_abs (p : Prop) [Decidable p] (n : Nat) : (if p then -(n : Int) else (n : Int)).natAbs = n := by split <;> omega
theorem fdiv_le {y z : Int} (hz : z ≠ 0) : (y.fdiv z).natAbs ≤ y.natAbs := by
  have h := fdiv_abs (y := y) hz
  have hz1 : 0 < z.natAbs := by omega
  have hab := Nat.div_add_mod y.natAbs z.natAbs
  have hbQ : y.natAbs / z.natAbs ≤ z.natAbs * (y.natAbs / z.natAbs) := Nat.le_mul_of_pos_left _ hz1
  by_cases h1 : (y < 0 ↔ z < 0) ∨ y.natAbs % z.natAbs = 0
  · rw [(h.2 h1).1, ite_abs]; exact Nat.div_le_self _ _
  · have h2 : y.natAbs % z.natAbs ≠ 0 := fun h' => h1 (.inr h')
    rw [(h.1 (fun h' => h1 (.inl h')) h2).1]
    generalize y.natAbs / z.natAbs = Q at *
    generalize y.natAbs % z.natAbs = R at *
    generalize z.natAbs * Q = p at *
    clear h h1
    omega
theorem fmod_le {y z : Int} (hz : z ≠ 0) : (y.fmod z).natAbs ≤ z.natAbs := by
  have h := fdiv_abs (y := y) hz
  have hz1 : 0 < z.natAbs := by omega
  have hlt := Nat.mod_lt y.natAbs hz1
  by_cases h1 : (y < 0 ↔ z < 0) ∨ y.natAbs % z.natAbs = 0
  · rw [(h.2 h1).2, ite_abs]; omega
  · rw [(h.1 (fun h' => h1 (.inl h')) (fun h' => h1 (.inr h'))).2, ite_abs]; omega
theorem fmod_eq (y z : Int) : y - (y.fdiv z) * z = y.fmod z := by rw [Int.fmod_def, Int.mul_comm]
section
variable {X : List Nat} {w0 : World} {M0 : List Ent} {I0 : List Imm}
set_option maxRecDepth 100000 in
set_option maxHeartbeats 1000000 in
theorem rDivide_ok {u v : Value} {y z : Int} {k m : Nat} (hk : k ≤ 1000000000) (hm : m ≤ 1000000000) (hz0 : z ≠ 0) (hu : isI u y k ∈ I0) (hv : isI v z m ∈ I0) :
    CD Tryz.prog 190 [u, v] X w0 M0 I0 (DvP (y.fdiv z) (y.fmod z) k m M0 I0) := by
  refine CD_openI hu (fun q cq e hc hy => ?_)
  subst e
  refine CD_openI (List.Mem.tail _ hv) (fun q' cq' e hc' hz => ?_)
  subst e
  have hly := gr_len_pow hy
  have hlz := gr_len_pow hz
  have hlz1 : ¬ (gr z.natAbs).length = 0 := fun e => by have := gr_nil.1 (List.eq_nil_of_length_eq_zero e); omega
  have hr0 : (gr (y.natAbs % z.natAbs)).length = 0 ↔ y.natAbs % z.natAbs = 0 := by rw [List.length_eq_zero_iff, gr_nil]
  have hqb : y.natAbs / z.natAbs ≤ 2 ^ k := natdiv_le_pow hy
  have hlq := gr_len_pow hqb
  have hdv := divide_sg (y := y) hz0
  have hfl : (y.fdiv z).natAbs ≤ 2 ^ k := Nat.le_trans (fdiv_le hz0) hy
  have hml : (y.fmod z).natAbs ≤ 2 ^ m := Nat.le_trans (fmod_le hz0) hz
  have hO := fun (p1 p2 : Option Addr) (c1 c2 : Nat) (h1 : OkC p1 y.natAbs c1) M0 I0 => parts_ok (X := X) (w0 := w0) (M0 := M0) (I0 := I0) (p := p1) (q := p2) (m := y.natAbs) (n := z.natAbs) (cp := c1) (cq := c2) (by omega) (by omega) (by omega) h1
  have hV1 := fun M0 I0 => rValue_ok (X := X) (w0 := w0) (M0 := M0) (I0 := I0) (q := q) (c := cq) hy (by omega) hc
  have hV2 := fun M0 I0 => rValue_ok (X := X) (w0 := w0) (M0 := M0) (I0 := I0) (q := q') (c := cq') hz (by omega) hc'
  have hMd := fun (q : Option Addr) (c2 : Nat) (h1 : OkC q (y.natAbs / z.natAbs) c2) M0 I0 => rmade_ok (X := X) (w0 := w0) (M0 := M0) (I0 := I0) (p := ¬ (y < 0 ↔ z < 0)) (n := y.natAbs / z.natAbs) (q := q) (l := gr (y.natAbs / z.natAbs)) (c := c2) (k := k) (by omega) h1.1 h1.2 (gr_dig _) (gr_val _) hqb
  have hMu := fun u v M0 I0 => rMul_ok (X := X) (w0 := w0) (M0 := M0) (I0 := I0) (u := u) (v := v) (y := y.fdiv z) (z := z) (k0 := k) (m0 := m) (by omega)
  have hSb := fun u v M0 I0 => rSub_ok (X := X) (w0 := w0) (M0 := M0) (I0 := I0) (u := u) (v := v) (y := y) (z := y.fdiv z * z) (k := k) (m := k + m) (c := k + (k + m) + 1) (by omega) (by omega) (by omega) (pow_sum _ _)
  have hSo := fun u v M0 I0 => rSub_ok (X := X) (w0 := w0) (M0 := M0) (I0 := I0) (u := u) (v := v) (y := sg (¬ (y < 0 ↔ z < 0)) (y.natAbs / z.natAbs)) (z := 1) (k := k) (m := 0) (c := k + 0 + 1) (by omega) (by omega) (by omega) (pow_sum _ _)
  rw [fmod_eq] at hSb
  obtain ⟨s0, hs0⟩ : ∃ s, s = sg (¬ (y < 0 ↔ z < 0)) (y.natAbs / z.natAbs) := ⟨_, rfl⟩
  rw [← hs0] at hMd hSo hdv
  clear hs0
  unfold iv
  by_cases hA : ¬ (y < 0 ↔ z < 0) ∧ ¬ (gr (y.natAbs % z.natAbs)).length = 0
  · obtain ⟨hA1, hA2⟩ := hA
    have e1 := hdv.2 hA1 (fun h => hA2 (hr0.2 h))
    rw [e1] at hSo
    clear hdv hr0 hqb
    obtain ⟨fd, hfd⟩ : ∃ s, s = y.fdiv z := ⟨_, rfl⟩
    obtain ⟨fm, hfm⟩ : ∃ s, s = y.fmod z := ⟨_, rfl⟩
    obtain ⟨Q, hQ⟩ : ∃ s, s = y.natAbs / z.natAbs := ⟨_, rfl⟩
    obtain ⟨R, hR⟩ : ∃ s, s = y.natAbs % z.natAbs := ⟨_, rfl⟩
    rw [← hfd] at hMu hSb hSo hfl ⊢
    rw [← hfm] at hSb hml ⊢
    rw [← hQ] at hO hMd hlq
    rw [← hR] at hO hA2
    clear hfd hfm hQ hR e1
    refine enterD2 Tryz.func190 rfl Tryz.ntmps190 rfl ?_
    refine TD_seq ?_
    refine TD_region ?_
    (refine RD_boxA rfl rfl rfl ?_; intro b; refine ⟨okF, ?_⟩)
    (refine RD_boxA rfl rfl rfl ?_; intro b2; refine ⟨okF, ?_⟩)
    (refine RD_alloc rfl rfl ?_; intro b3; refine ⟨okF, ?_⟩)
    (refine RD_alloc rfl rfl ?_; intro b4; refine ⟨okF, ?_⟩)
    repeat' (first | refine wXf ?_ | (refine TD_isCo ?_; first | refine TD_dec rfl (fun h => ?_) (fun h => ?_) | refine TD_cond rfl (fun h => ?_) (fun h => ?_)) | (refine RD_isGu ?_; first | refine RD_grd rfl rfl (fun h => ?_) (fun h => ?_) | (fail_if_success (refine RD_isW rfl ?_); refine RD_grdB rfl rfl (fun h => ?_) (fun h => ?_))))
    (repeat refine TD_seq ?_); refine TD_drawnJ 2 [0, 2, 1, 3, 4, 5] [1, 2, 0, 0, 0, 0] mixed (by kernel_rfl) ?_
    repeat' (first | refine wXf ?_ | (refine TD_isCo ?_; first | refine TD_dec rfl (fun h => ?_) (fun h => ?_) | refine TD_cond rfl (fun h => ?_) (fun h => ?_)) | (refine RD_isGu ?_; first | refine RD_grd rfl rfl (fun h => ?_) (fun h => ?_) | (fail_if_success (refine RD_isW rfl ?_); refine RD_grdB rfl rfl (fun h => ?_) (fun h => ?_))))
    (refine RD_callS rfl (hV1 _ _ memF) rfl rfl ?_; rintro _ _ _ ⟨rfl, q3, c3, rfl, hc3, rfl⟩; refine ⟨okF, ?_⟩)
    repeat' (first | refine wXf ?_ | (refine TD_isCo ?_; first | refine TD_dec rfl (fun h => ?_) (fun h => ?_) | refine TD_cond rfl (fun h => ?_) (fun h => ?_)) | (refine RD_isGu ?_; first | refine RD_grd rfl rfl (fun h => ?_) (fun h => ?_) | (fail_if_success (refine RD_isW rfl ?_); refine RD_grdB rfl rfl (fun h => ?_) (fun h => ?_))))
    (refine RD_callS rfl (hV2 _ _ memF) rfl rfl ?_; rintro _ _ _ ⟨rfl, q4, c4, rfl, hc4, rfl⟩; refine ⟨okF, ?_⟩)
    repeat' (first | refine wXf ?_ | (refine TD_isCo ?_; first | refine TD_dec rfl (fun h => ?_) (fun h => ?_) | refine TD_cond rfl (fun h => ?_) (fun h => ?_)) | (refine RD_isGu ?_; first | refine RD_grd rfl rfl (fun h => ?_) (fun h => ?_) | (fail_if_success (refine RD_isW rfl ?_); refine RD_grdB rfl rfl (fun h => ?_) (fun h => ?_))))
    (refine RD_callS rfl (hO q3 q4 c3 c4 hc3 _ _ memF memF) rfl rfl ?_; rintro _ _ _ ⟨rfl, p1, c1, p2, c2, ho1, ho2, rfl, rfl⟩; refine ⟨okF, ?_⟩)
    repeat' (first | refine wXf ?_ | (refine TD_isCo ?_; first | refine TD_dec rfl (fun h => ?_) (fun h => ?_) | refine TD_cond rfl (fun h => ?_) (fun h => ?_)) | (refine RD_isGu ?_; first | refine RD_grd rfl rfl (fun h => ?_) (fun h => ?_) | (fail_if_success (refine RD_isW rfl ?_); refine RD_grdB rfl rfl (fun h => ?_) (fun h => ?_))))
    (refine RD_callS rfl (hMd p1 c1 ho1 _ _ memF) rfl rfl ?_; rintro _ _ _ ⟨rfl, rfl⟩; refine ⟨okF, ?_⟩; refine RD_openI (List.Mem.head _) (fun q5 c5 e__ hc5 hz5 => ?_); subst e__)
    unfold iv
    repeat' (first | refine wXf ?_ | (refine TD_isCo ?_; first | refine TD_dec rfl (fun h => ?_) (fun h => ?_) | refine TD_cond rfl (fun h => ?_) (fun h => ?_)) | (refine RD_isGu ?_; first | refine RD_grd rfl rfl (fun h => ?_) (fun h => ?_) | (fail_if_success (refine RD_isW rfl ?_); refine RD_grdB rfl rfl (fun h => ?_) (fun h => ?_))))
    (refine RD_alloc rfl rfl ?_; intro b5; refine ⟨okF, ?_⟩)
    repeat' (first | refine wXf ?_ | (refine TD_isCo ?_; first | refine TD_dec rfl (fun h => ?_) (fun h => ?_) | refine TD_cond rfl (fun h => ?_) (fun h => ?_)) | (refine RD_isGu ?_; first | refine RD_grd rfl rfl (fun h => ?_) (fun h => ?_) | (fail_if_success (refine RD_isW rfl ?_); refine RD_grdB rfl rfl (fun h => ?_) (fun h => ?_))))
    (repeat refine TD_seq ?_); refine TD_drawnJ 2 [0, 1, 2, 3] [1, 0, 0, 0] mixed (by kernel_rfl) ?_
    repeat' (first | refine wXf ?_ | (refine TD_isCo ?_; first | refine TD_dec rfl (fun h => ?_) (fun h => ?_) | refine TD_cond rfl (fun h => ?_) (fun h => ?_)) | (refine RD_isGu ?_; first | refine RD_grd rfl rfl (fun h => ?_) (fun h => ?_) | (fail_if_success (refine RD_isW rfl ?_); refine RD_grdB rfl rfl (fun h => ?_) (fun h => ?_))))
    (refine RD_callS rfl (rOf_ok (x := 1) (by decide)) rfl rfl ?_; rintro _ _ _ ⟨rfl, rfl⟩; refine ⟨okF, ?_⟩; refine RD_openI (List.Mem.head _) (fun q6 c6 e__ hc6 hz6 => ?_); subst e__)
    unfold iv
    refine RD_tightI (k2 := 0) (z := 1) (List.Mem.tail _ (List.Mem.head _)) (by decide) ?_
    (refine RD_callS rfl (hSo _ _ _ _ memF memF) rfl rfl ?_; rintro _ _ _ ⟨rfl, rfl⟩; refine ⟨okF, ?_⟩; refine RD_openI (List.Mem.head _) (fun q7 c7 e__ hc7 hz7 => ?_); subst e__)
    unfold iv
    refine RD_tightI (k2 := k) (z := fd) (List.Mem.tail _ (List.Mem.head _)) hfl ?_
    repeat' (first | refine wXf ?_ | (refine TD_isCo ?_; first | refine TD_dec rfl (fun h => ?_) (fun h => ?_) | refine TD_cond rfl (fun h => ?_) (fun h => ?_)) | (refine RD_isGu ?_; first | refine RD_grd rfl rfl (fun h => ?_) (fun h => ?_) | (fail_if_success (refine RD_isW rfl ?_); refine RD_grdB rfl rfl (fun h => ?_) (fun h => ?_))))
    (repeat refine TD_seq ?_); refine TD_drawnW (.blk b5 [.bool (B (fd < 0)), .slice q7 (gr fd.natAbs).length c7] 24 :: .blk b2 [.bool (B (z < 0)), .slice q4 (gr z.natAbs).length c4] 24 :: .blk b [.bool (B (y < 0)), .slice q3 (gr y.natAbs).length c3] 24 :: M0) (isI (.agg #[.bool (B (fd < 0)), .slice q7 (gr fd.natAbs).length c7]) fd k :: I0) [0, 1, 2, 3, 4, 5, 6, 7, 8] [2, 2, 2, 2, 0, 0, 0, 0, 0] subF incF mixed (by kernel_rfl) ?_
    repeat' (first | refine wXf ?_ | (refine TD_isCo ?_; first | refine TD_dec rfl (fun h => ?_) (fun h => ?_) | refine TD_cond rfl (fun h => ?_) (fun h => ?_)) | (refine RD_isGu ?_; first | refine RD_grd rfl rfl (fun h => ?_) (fun h => ?_) | (fail_if_success (refine RD_isW rfl ?_); refine RD_grdB rfl rfl (fun h => ?_) (fun h => ?_))))
    refine RD_closeI (q := q3) (c := c3) (z := y) (k := k) memF hc3 hy ?_
    refine RD_closeI (q := q4) (c := c4) (z := z) (k := m) memF hc4 hz ?_
    unfold iv
    (refine RD_callS rfl (hMu _ _ _ _ memF memF) rfl rfl ?_; rintro _ _ _ ⟨rfl, rfl⟩; refine ⟨okF, ?_⟩; refine RD_openI (List.Mem.head _) (fun q8 c8 e__ hc8 hz8 => ?_); subst e__)
    unfold iv
    (refine RD_callS rfl (hSb _ _ _ _ memF memF) rfl rfl ?_; rintro _ _ _ ⟨rfl, rfl⟩; refine ⟨okF, ?_⟩; refine RD_openI (List.Mem.head _) (fun q9 c9 e__ hc9 hz9 => ?_); subst e__)
    unfold iv
    refine RD_tightI (k2 := m) (z := fm) (List.Mem.tail _ (List.Mem.head _)) hml ?_
    repeat' (first | refine wXf ?_ | (refine TD_isCo ?_; first | refine TD_dec rfl (fun h => ?_) (fun h => ?_) | refine TD_cond rfl (fun h => ?_) (fun h => ?_)) | (refine RD_isGu ?_; first | refine RD_grd rfl rfl (fun h => ?_) (fun h => ?_) | (fail_if_success (refine RD_isW rfl ?_); refine RD_grdB rfl rfl (fun h => ?_) (fun h => ?_))))
    refine ND_retsC (rs := [.cell 4 24, .cell 5 24, .tmp 6]) (.inl rfl) rfl (.cellN inferInstance rfl memF rfl (.cellN inferInstance rfl memF rfl (.tmp rfl .nil))) rfl M0 (isI (.agg #[.bool (B (fm < 0)), .slice q9 (gr fm.natAbs).length c9]) fm m :: isI (.agg #[.bool (B (fd < 0)), .slice q7 (gr fd.natAbs).length c7]) fd k :: I0) subF incF ⟨rfl, _, _, rfl, rfl⟩
  · have hA' : (y < 0 ↔ z < 0) ∨ y.natAbs % z.natAbs = 0 := by
      rcases Classical.em (y < 0 ↔ z < 0) with h | h
      · exact .inl h
      · exact .inr (hr0.1 (Classical.byContradiction fun h' => hA ⟨h, h'⟩))
    have e1 := hdv.1 hA'
    subst e1
    clear hdv hr0 hqb hSo
    obtain ⟨fd, hfd⟩ : ∃ s, s = y.fdiv z := ⟨_, rfl⟩
    obtain ⟨fm, hfm⟩ : ∃ s, s = y.fmod z := ⟨_, rfl⟩
    obtain ⟨Q, hQ⟩ : ∃ s, s = y.natAbs / z.natAbs := ⟨_, rfl⟩
    obtain ⟨R, hR⟩ : ∃ s, s = y.natAbs % z.natAbs := ⟨_, rfl⟩
    rw [← hfd] at hMu hSb hMd hfl ⊢
    rw [← hfm] at hSb hml ⊢
    rw [← hQ] at hO hMd hlq
    rw [← hR] at hO hA hA'
    clear hfd hfm hQ hR hA'
    refine enterD2 Tryz.func190 rfl Tryz.ntmps190 rfl ?_
    refine TD_seq ?_
    refine TD_region ?_
    (refine RD_boxA rfl rfl rfl ?_; intro b; refine ⟨okF, ?_⟩)
    (refine RD_boxA rfl rfl rfl ?_; intro b2; refine ⟨okF, ?_⟩)
    (refine RD_alloc rfl rfl ?_; intro b3; refine ⟨okF, ?_⟩)
    (refine RD_alloc rfl rfl ?_; intro b4; refine ⟨okF, ?_⟩)
    repeat' (first | refine wXf ?_ | (refine TD_isCo ?_; first | refine TD_dec rfl (fun h => ?_) (fun h => ?_) | refine TD_cond rfl (fun h => ?_) (fun h => ?_)) | (refine RD_isGu ?_; first | refine RD_grd rfl rfl (fun h => ?_) (fun h => ?_) | (fail_if_success (refine RD_isW rfl ?_); refine RD_grdB rfl rfl (fun h => ?_) (fun h => ?_))))
    (repeat refine TD_seq ?_); refine TD_drawnJ 2 [0, 2, 1, 3, 4, 5] [1, 2, 0, 0, 0, 0] mixed (by kernel_rfl) ?_
    repeat' (first | refine wXf ?_ | (refine TD_isCo ?_; first | refine TD_dec rfl (fun h => ?_) (fun h => ?_) | refine TD_cond rfl (fun h => ?_) (fun h => ?_)) | (refine RD_isGu ?_; first | refine RD_grd rfl rfl (fun h => ?_) (fun h => ?_) | (fail_if_success (refine RD_isW rfl ?_); refine RD_grdB rfl rfl (fun h => ?_) (fun h => ?_))))
    (refine RD_callS rfl (hV1 _ _ memF) rfl rfl ?_; rintro _ _ _ ⟨rfl, q3, c3, rfl, hc3, rfl⟩; refine ⟨okF, ?_⟩)
    repeat' (first | refine wXf ?_ | (refine TD_isCo ?_; first | refine TD_dec rfl (fun h => ?_) (fun h => ?_) | refine TD_cond rfl (fun h => ?_) (fun h => ?_)) | (refine RD_isGu ?_; first | refine RD_grd rfl rfl (fun h => ?_) (fun h => ?_) | (fail_if_success (refine RD_isW rfl ?_); refine RD_grdB rfl rfl (fun h => ?_) (fun h => ?_))))
    (refine RD_callS rfl (hV2 _ _ memF) rfl rfl ?_; rintro _ _ _ ⟨rfl, q4, c4, rfl, hc4, rfl⟩; refine ⟨okF, ?_⟩)
    repeat' (first | refine wXf ?_ | (refine TD_isCo ?_; first | refine TD_dec rfl (fun h => ?_) (fun h => ?_) | refine TD_cond rfl (fun h => ?_) (fun h => ?_)) | (refine RD_isGu ?_; first | refine RD_grd rfl rfl (fun h => ?_) (fun h => ?_) | (fail_if_success (refine RD_isW rfl ?_); refine RD_grdB rfl rfl (fun h => ?_) (fun h => ?_))))
    (refine RD_callS rfl (hO q3 q4 c3 c4 hc3 _ _ memF memF) rfl rfl ?_; rintro _ _ _ ⟨rfl, p1, c1, p2, c2, ho1, ho2, rfl, rfl⟩; refine ⟨okF, ?_⟩)
    repeat' (first | refine wXf ?_ | (refine TD_isCo ?_; first | refine TD_dec rfl (fun h => ?_) (fun h => ?_) | refine TD_cond rfl (fun h => ?_) (fun h => ?_)) | (refine RD_isGu ?_; first | refine RD_grd rfl rfl (fun h => ?_) (fun h => ?_) | (fail_if_success (refine RD_isW rfl ?_); refine RD_grdB rfl rfl (fun h => ?_) (fun h => ?_))))
    (refine RD_callS rfl (hMd p1 c1 ho1 _ _ memF) rfl rfl ?_; rintro _ _ _ ⟨rfl, rfl⟩; refine ⟨okF, ?_⟩; refine RD_openI (List.Mem.head _) (fun q5 c5 e__ hc5 hz5 => ?_); subst e__)
    unfold iv
    repeat' (first | refine wXf ?_ | (refine TD_isCo ?_; first | refine TD_dec rfl (fun h => ?_) (fun h => ?_) | refine TD_cond rfl (fun h => ?_) (fun h => ?_)) | (refine RD_isGu ?_; first | refine RD_grd rfl rfl (fun h => ?_) (fun h => ?_) | (fail_if_success (refine RD_isW rfl ?_); refine RD_grdB rfl rfl (fun h => ?_) (fun h => ?_))))
    (refine RD_alloc rfl rfl ?_; intro b5; refine ⟨okF, ?_⟩)
    repeat' (first | refine wXf ?_ | (refine TD_isCo ?_; first | refine TD_dec rfl (fun h => ?_) (fun h => ?_) | refine TD_cond rfl (fun h => ?_) (fun h => ?_)) | (refine RD_isGu ?_; first | refine RD_grd rfl rfl (fun h => ?_) (fun h => ?_) | (fail_if_success (refine RD_isW rfl ?_); refine RD_grdB rfl rfl (fun h => ?_) (fun h => ?_))))
    all_goals
      ((repeat refine TD_seq ?_); refine TD_drawnW (.blk b5 [.bool (B (fd < 0)), .slice q5 (gr fd.natAbs).length c5] 24 :: .blk b2 [.bool (B (z < 0)), .slice q4 (gr z.natAbs).length c4] 24 :: .blk b [.bool (B (y < 0)), .slice q3 (gr y.natAbs).length c3] 24 :: M0) (isI (.agg #[.bool (B (fd < 0)), .slice q5 (gr fd.natAbs).length c5]) fd k :: I0) [0, 1, 2, 3, 4, 5, 6, 7, 8] [2, 2, 2, 2, 0, 0, 0, 0, 0] subF incF mixed (by kernel_rfl) ?_)
      repeat' (first | refine wXf ?_ | (refine TD_isCo ?_; first | refine TD_dec rfl (fun h => ?_) (fun h => ?_) | refine TD_cond rfl (fun h => ?_) (fun h => ?_)) | (refine RD_isGu ?_; first | refine RD_grd rfl rfl (fun h => ?_) (fun h => ?_) | (fail_if_success (refine RD_isW rfl ?_); refine RD_grdB rfl rfl (fun h => ?_) (fun h => ?_))))
      refine RD_closeI (q := q3) (c := c3) (z := y) (k := k) memF hc3 hy ?_
      refine RD_closeI (q := q4) (c := c4) (z := z) (k := m) memF hc4 hz ?_
      unfold iv
      (refine RD_callS rfl (hMu _ _ _ _ memF memF) rfl rfl ?_; rintro _ _ _ ⟨rfl, rfl⟩; refine ⟨okF, ?_⟩; refine RD_openI (List.Mem.head _) (fun q8 c8 e__ hc8 hz8 => ?_); subst e__)
      unfold iv
      (refine RD_callS rfl (hSb _ _ _ _ memF memF) rfl rfl ?_; rintro _ _ _ ⟨rfl, rfl⟩; refine ⟨okF, ?_⟩; refine RD_openI (List.Mem.head _) (fun q9 c9 e__ hc9 hz9 => ?_); subst e__)
      unfold iv
      refine RD_tightI (k2 := m) (z := fm) (List.Mem.tail _ (List.Mem.head _)) hml ?_
      repeat' (first | refine wXf ?_ | (refine TD_isCo ?_; first | refine TD_dec rfl (fun h => ?_) (fun h => ?_) | refine TD_cond rfl (fun h => ?_) (fun h => ?_)) | (refine RD_isGu ?_; first | refine RD_grd rfl rfl (fun h => ?_) (fun h => ?_) | (fail_if_success (refine RD_isW rfl ?_); refine RD_grdB rfl rfl (fun h => ?_) (fun h => ?_))))
      refine ND_retsC (rs := [.cell 4 24, .cell 5 24, .tmp 6]) (.inl rfl) rfl (.cellN inferInstance rfl memF rfl (.cellN inferInstance rfl memF rfl (.tmp rfl .nil))) rfl M0 (isI (.agg #[.bool (B (fm < 0)), .slice q9 (gr fm.natAbs).length c9]) fm m :: isI (.agg #[.bool (B (fd < 0)), .slice q5 (gr fd.natAbs).length c5]) fd k :: I0) subF incF ⟨rfl, _, _, rfl, rfl⟩
end
end Go.Proofs.YtllaoaobnnondaaGreatR

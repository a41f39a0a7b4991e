/- fiducialref01: Of, pair, Gcd, Divide fiducialref01: pair, Gcd -/
import Derived.Test.YtdmlebigkakplaaGreatZmba
import Derived.Test.YtdmlebigkakplaaGreatZmau
set_option linter.unusedSimpArgs false
set_option linter.unusedVariables false
namespace Go.Proofs.YtdmlebigkakplaaGreat
open Go Go.Fx
theorem sg_neg' {x : Int} {n : Nat} (h : n = x.natAbs) : sg (x < 0) n = x := by subst h; exact sg_self x
section
variable {X : List Nat} {w0 : World} {M0 : List Ent} {I0 : List Imm}
set_option maxRecDepth 100000 in
theorem rOf_ok {x : Int} (hx : -9223372036854775808 ≤ x ∧ x ≤ 9223372036854775807) : CD Tryz.prog 226 [.int .i64 x] X w0 M0 I0 (fun v M I => M0 = M ∧ I = isI v x 63 :: I0) := by
  have hn : x.natAbs ≤ 2 ^ 63 := by omega
  have hMd := fun (q : Option Addr) (l : List Int) (h0 : l.length ≤ 1000000000000) (c2 : Nat) (h1 : l.length ≤ c2) (h2 : Ok q ∨ (l.length = 0 ∧ c2 = 0)) (h3 : Dig l) (h4 : val l = ((x.natAbs : Nat) : Int)) M0 I0 => rmade_ok (X := X) (w0 := w0) (M0 := M0) (I0 := I0) (p := x < 0) (n := x.natAbs) (q := q) (l := l) (c := c2) (k := 63) h0 h1 h2 h3 h4 hn
  rw [sg_self] at hMd
  have dA := gr_dig x.natAbs
  have vA := gr_val x.natAbs
  have hlA : (gr x.natAbs).length ≤ 3 := gr_len_le (by omega)
  have hgr : ∀ m : Nat, m ≠ 0 → gr m = ((m % 1000000000 : Nat) : Int) :: gr (m / 1000000000) := fun m h => gr_pos h
  refine enterD1 Tryz.func226 rfl Tryz.ntmps226 rfl ?_
  refine TD_seq ?_
  refine TD_region ?_
  (refine RD_alloc rfl rfl ?_; intro b; refine ⟨okF, ?_⟩)
  by_cases hx0 : x < 0
  · repeat (refine wXf ?_)
    refine RD_c rfl (fun _ => Const_conv rfl (wrap_neg (by omega))) rfl rfl ?_
    repeat (refine wXf ?_)
    all_goals
      (refine RD_vals (cs := recs eG []) ([]) rfl rfl (by intro v hv; repeat (first | exact absurd hv (List.not_mem_nil) | (rcases List.mem_cons.1 hv with rfl | hv; · rfl))) (by omega) rfl rfl rfl ?_; intro b1; refine ⟨okF, ?_⟩)
      repeat (refine wXf ?_)
      refine TD_toRow (b := b1) (mm := 0) 1 repF rfl (by omega) ?_
      refine TD_loop [0, 2] rfl (fun k G M I => ∃ (m : Nat) (ui : Int) (xs : List Int) (a : Option Addr) (c' : Nat), k = m ∧ ui = m ∧ m ≤ x.natAbs ∧ xs ++ gr m = gr x.natAbs ∧ G = [(3, .int .u64 ui), (4, .slice a xs.length c')] ∧ M = .row a xs.length c' (recs eG xs) 180 1 :: .blk b [.bool false, .slice none 0 0] 24 :: M0 ∧ I0 = I) (x.natAbs) _ _ _ subG subF incF (⟨x.natAbs, _, [], _, _, rfl, by omega, by omega, rfl, rfl, rfl, rfl⟩) ?_
      rintro k G M I ⟨m, ui, xs, a, c', rfl, hui, hm, hxs, rfl, rfl, rfl⟩
      have hlx : xs.length + (gr k).length ≤ 3 := by rw [← hxs] at hlA; simpa using hlA
      by_cases hk0 : k = 0
      · subst hk0
        rw [gr_zero, List.append_nil] at hxs
        subst hxs
        refine TD_fact (fun w hw => And.intro (hw.rowLe (List.Mem.head _)) ((hw.rowS (List.Mem.head _)).2.imp id And.right)) (fun ho3 => ?_)
        have hM := hMd a (gr x.natAbs) (by omega) c' ho3.1 ho3.2 dA vA
        repeat (refine wXf ?_)
        refine RD_freezeR remF ?_
        (refine RD_callS rfl (hM _ _ memF) rfl rfl ?_; rintro _ _ _ ⟨rfl, rfl⟩; refine ⟨okF, ?_⟩; refine RD_openI (List.Mem.head _) (fun q6 c6 e__ hc6 hz6 => ?_); subst e__)
        unfold iv
        repeat (refine wXf ?_)
        refine ND_retC (cs := [.bool (B (x < 0)), .slice q6 (gr x.natAbs).length c6]) (.inl rfl) rfl rfl memF rfl _ _ subF incF ⟨rfl, rfl⟩
      · have hgk := hgr k hk0
        have e1 := tmod9 (s := ui) (by omega)
        have e2 := tdiv9 (s := ui) (by omega)
        obtain ⟨s, hs⟩ : ∃ s, s = ui % 1000000000 := ⟨_, rfl⟩
        obtain ⟨t, ht⟩ : ∃ t, t = ui / 1000000000 := ⟨_, rfl⟩
        have hs1 : ((k % 1000000000 : Nat) : Int) = s := by omega
        have ht1 : ((k / 1000000000 : Nat) : Int) = t := by omega
        rw [hs1] at hgk
        rw [← hs] at e1
        rw [← ht] at e2
        have hs2 : 0 ≤ s ∧ s < 1000000000 := by omega
        have hl9 : (gr k).length = (gr (k / 1000000000)).length + 1 := by rw [hgk]; simp
        repeat (refine wXf ?_)
        rw [e1]
        repeat (refine wXf ?_)
        (refine RD_vals (cs := recs eG [s]) ([.int .u32 s]) rfl rfl (by intro v hv; repeat (first | exact absurd hv (List.not_mem_nil) | (rcases List.mem_cons.1 hv with rfl | hv; · rfl))) (by omega) rfl rfl rfl ?_; intro b2; refine ⟨okF, ?_⟩)
        (refine RD_appR (ys := [s]) 1 rfl rfl rfl ?_ (by decide) rfl (by omega) (by omega) rfl rfl ?_; (· first | exact Src.blk memF | exact Src.row memF | exact Src.imm memF (by first | assumption | exact .inl (Ok.mk _ _))); intro a2 c2; refine ⟨okF, ?_⟩)
        repeat (refine wXf ?_)
        rw [e2]
        refine ND_again (k / 1000000000) _ _ _ (by first | omega | (simp only [List.length_append, List.length_cons, List.length_nil]; omega)) subG subF incF (⟨k / 1000000000, t, xs ++ [s], a2, c2, rfl, ht1.symm, by omega, by rw [List.append_assoc]; rw [hgk] at hxs; exact hxs, rfl, rfl, rfl⟩)
  · repeat (refine wXf ?_)
    all_goals
      (refine RD_vals (cs := recs eG []) ([]) rfl rfl (by intro v hv; repeat (first | exact absurd hv (List.not_mem_nil) | (rcases List.mem_cons.1 hv with rfl | hv; · rfl))) (by omega) rfl rfl rfl ?_; intro b1; refine ⟨okF, ?_⟩)
      repeat (refine wXf ?_)
      refine TD_toRow (b := b1) (mm := 0) 1 repF rfl (by omega) ?_
      refine TD_loop [0, 2] rfl (fun k G M I => ∃ (m : Nat) (ui : Int) (xs : List Int) (a : Option Addr) (c' : Nat), k = m ∧ ui = m ∧ m ≤ x.natAbs ∧ xs ++ gr m = gr x.natAbs ∧ G = [(3, .int .u64 ui), (4, .slice a xs.length c')] ∧ M = .row a xs.length c' (recs eG xs) 180 1 :: .blk b [.bool false, .slice none 0 0] 24 :: M0 ∧ I0 = I) (x.natAbs) _ _ _ subG subF incF (⟨x.natAbs, _, [], _, _, rfl, by omega, by omega, rfl, rfl, rfl, rfl⟩) ?_
      rintro k G M I ⟨m, ui, xs, a, c', rfl, hui, hm, hxs, rfl, rfl, rfl⟩
      have hlx : xs.length + (gr k).length ≤ 3 := by rw [← hxs] at hlA; simpa using hlA
      by_cases hk0 : k = 0
      · subst hk0
        rw [gr_zero, List.append_nil] at hxs
        subst hxs
        refine TD_fact (fun w hw => And.intro (hw.rowLe (List.Mem.head _)) ((hw.rowS (List.Mem.head _)).2.imp id And.right)) (fun ho3 => ?_)
        have hM := hMd a (gr x.natAbs) (by omega) c' ho3.1 ho3.2 dA vA
        repeat (refine wXf ?_)
        refine RD_freezeR remF ?_
        (refine RD_callS rfl (hM _ _ memF) rfl rfl ?_; rintro _ _ _ ⟨rfl, rfl⟩; refine ⟨okF, ?_⟩; refine RD_openI (List.Mem.head _) (fun q6 c6 e__ hc6 hz6 => ?_); subst e__)
        unfold iv
        repeat (refine wXf ?_)
        refine ND_retC (cs := [.bool (B (x < 0)), .slice q6 (gr x.natAbs).length c6]) (.inl rfl) rfl rfl memF rfl _ _ subF incF ⟨rfl, rfl⟩
      · have hgk := hgr k hk0
        have e1 := tmod9 (s := ui) (by omega)
        have e2 := tdiv9 (s := ui) (by omega)
        obtain ⟨s, hs⟩ : ∃ s, s = ui % 1000000000 := ⟨_, rfl⟩
        obtain ⟨t, ht⟩ : ∃ t, t = ui / 1000000000 := ⟨_, rfl⟩
        have hs1 : ((k % 1000000000 : Nat) : Int) = s := by omega
        have ht1 : ((k / 1000000000 : Nat) : Int) = t := by omega
        rw [hs1] at hgk
        rw [← hs] at e1
        rw [← ht] at e2
        have hs2 : 0 ≤ s ∧ s < 1000000000 := by omega
        have hl9 : (gr k).length = (gr (k / 1000000000)).length + 1 := by rw [hgk]; simp
        repeat (refine wXf ?_)
        rw [e1]
        repeat (refine wXf ?_)
        (refine RD_vals (cs := recs eG [s]) ([.int .u32 s]) rfl rfl (by intro v hv; repeat (first | exact absurd hv (List.not_mem_nil) | (rcases List.mem_cons.1 hv with rfl | hv; · rfl))) (by omega) rfl rfl rfl ?_; intro b2; refine ⟨okF, ?_⟩)
        (refine RD_appR (ys := [s]) 1 rfl rfl rfl ?_ (by decide) rfl (by omega) (by omega) rfl rfl ?_; (· first | exact Src.blk memF | exact Src.row memF | exact Src.imm memF (by first | assumption | exact .inl (Ok.mk _ _))); intro a2 c2; refine ⟨okF, ?_⟩)
        repeat (refine wXf ?_)
        rw [e2]
        refine ND_again (k / 1000000000) _ _ _ (by first | omega | (simp only [List.length_append, List.length_cons, List.length_nil]; omega)) subG subF incF (⟨k / 1000000000, t, xs ++ [s], a2, c2, rfl, ht1.symm, by omega, by rw [List.append_assoc]; rw [hgk] at hxs; exact hxs, rfl, rfl, rfl⟩)
end
end Go.Proofs.YtdmlebigkakplaaGreat
--XF
namespace Go.Proofs.YtdmlebigkakplaaGreat
open Go Go.Fx
theorem small2 {t : Nat} (ht : (gr t).length ≤ 2) : t < 1000000000000000000 := by
  have := val_lt (gr_dig t)
  rw [gr_val] at this
  have h2 : (1000000000 : Int) ^ (gr t).length ≤ 1000000000 ^ 2 := pow_mono9 ht
  omega
theorem pair_val {n : Nat} (h : (gr n).length ≤ 2) : gt (gr n) 1 * 1000000000 + gt (gr n) 0 = (n : Int) := by
  have hv := gr_val n
  match hg : gr n, h with
  | [], _ => rw [hg] at hv; simp [val] at hv; rw [← hv]; rfl
  | [a], _ => rw [hg] at hv; simp [val] at hv; rw [← hv]; simp [gt]
  | [a, b], _ => rw [hg] at hv; simp [val] at hv; rw [← hv]; simp [gt]; omega
section
variable {X : List Nat} {w0 : World} {M0 : List Ent} {I0 : List Imm}
set_option maxRecDepth 100000 in
theorem pair_ok {q : Option Addr} {n c : Nat} (hl : (gr n).length ≤ 2) (hq : slI q (recs eG (gr n)) ∈ I0) :
    CD Tryz.prog 232 [.slice q (gr n).length c] X w0 M0 I0 (fun v M I => M0 = M ∧ I0 = I ∧ v = .int .u64 (n : Int)) := by
  have d0 := (gr_dig n).gt 0
  have d1 := (gr_dig n).gt 1
  rw [← pair_val hl]
  refine enterD1 Tryz.func232 rfl Tryz.ntmps232 rfl ?_
  repeat' (first | refine wXf ?_ | (refine TD_isCo ?_; first | refine TD_dec rfl (fun h => ?_) (fun h => ?_) | refine TD_cond rfl (fun h => ?_) (fun h => ?_)) | (refine RD_isGu ?_; first | refine RD_grd rfl rfl (fun h => ?_) (fun h => ?_) | (fail_if_success (refine RD_isW rfl ?_); refine RD_grdB rfl rfl (fun h => ?_) (fun h => ?_))))
  (refine RD_callS rfl (group_ok (l := gr n) (i := 1) rfl (by omega) memF (gr_dig n)) rfl rfl ?_; rintro _ _ _ ⟨rfl, rfl, rfl⟩; refine ⟨okF, ?_⟩)
  repeat' (first | refine wXf ?_ | (refine TD_isCo ?_; first | refine TD_dec rfl (fun h => ?_) (fun h => ?_) | refine TD_cond rfl (fun h => ?_) (fun h => ?_)) | (refine RD_isGu ?_; first | refine RD_grd rfl rfl (fun h => ?_) (fun h => ?_) | (fail_if_success (refine RD_isW rfl ?_); refine RD_grdB rfl rfl (fun h => ?_) (fun h => ?_))))
  (refine RD_callS rfl (group_ok (l := gr n) (i := 0) rfl (by omega) memF (gr_dig n)) rfl rfl ?_; rintro _ _ _ ⟨rfl, rfl, rfl⟩; refine ⟨okF, ?_⟩)
  repeat' (first | refine wXf ?_ | (refine TD_isCo ?_; first | refine TD_dec rfl (fun h => ?_) (fun h => ?_) | refine TD_cond rfl (fun h => ?_) (fun h => ?_)) | (refine RD_isGu ?_; first | refine RD_grd rfl rfl (fun h => ?_) (fun h => ?_) | (fail_if_success (refine RD_isW rfl ?_); refine RD_grdB rfl rfl (fun h => ?_) (fun h => ?_))))
  refine ND_ret1 (by first | exact .inl rfl | exact .inr rfl) rfl rfl _ _ subF incF (⟨rfl, rfl, rfl⟩)
set_option maxRecDepth 100000 in
set_option maxHeartbeats 1000000 in
theorem rGcd_ok {u v : Value} {y z : Int} {k0 m : Nat} (hk : k0 ≤ 1000000000) (hm : m ≤ 1000000000) (hu : isI u y k0 ∈ I0) (hv : isI v z m ∈ I0) : CD Tryz.prog 172 [u, v] X w0 M0 I0 (fun v M I => M0 = M ∧ I = isI v (Int.gcd y z) (k0 + m) :: I0) := by
  refine CD_openI hu (fun q cq e hc hy => ?_)
  subst e
  refine CD_openI (List.Mem.tail _ hv) (fun q' cq' e hc' hz => ?_)
  subst e
  have hy2 : y.natAbs ≤ 2 ^ (k0 + m) := Nat.le_trans hy (Nat.pow_le_pow_right (by decide) (by omega))
  have hz2 : z.natAbs ≤ 2 ^ (k0 + m) := Nat.le_trans hz (Nat.pow_le_pow_right (by decide) (by omega))
  have hMd := fun (a : Nat) (e : (Int.gcd y z : Int) = a) (ha : a ≤ 2 ^ (k0 + m)) (q : Option Addr) (l : List Int) (h0 : l.length ≤ 1000000000000) (c2 : Nat) (h1 : l.length ≤ c2) (h2 : Ok q ∨ (l.length = 0 ∧ c2 = 0)) (h3 : Dig l) (h4 : val l = (a : Int)) M0 I0 => rmade_ok (X := X) (w0 := w0) (M0 := M0) (I0 := I0) (p := False) (n := a) (q := q) (l := l) (c := c2) (k := k0 + m) h0 h1 h2 h3 h4 ha
  simp only [B_false (show ¬ False from id)] at hMd
  have hsg : ∀ a : Nat, sg False a = (a : Int) := fun a => by unfold sg; rw [if_neg (fun h => h)]
  unfold iv
  refine enterD2 Tryz.func172 rfl Tryz.ntmps172 rfl ?_
  refine TD_seq ?_
  refine TD_region ?_
  (refine RD_boxA rfl rfl rfl ?_; intro b; refine ⟨okF, ?_⟩)
  (refine RD_boxA rfl rfl rfl ?_; intro b2; refine ⟨okF, ?_⟩)
  (refine RD_alloc rfl rfl ?_; intro b3; refine ⟨okF, ?_⟩)
  repeat' (first | refine wXf ?_ | (refine TD_isCo ?_; first | refine TD_dec rfl (fun h => ?_) (fun h => ?_) | refine TD_cond rfl (fun h => ?_) (fun h => ?_)) | (refine RD_isGu ?_; first | refine RD_grd rfl rfl (fun h => ?_) (fun h => ?_) | (fail_if_success (refine RD_isW rfl ?_); refine RD_grdB rfl rfl (fun h => ?_) (fun h => ?_))))
  (repeat refine TD_seq ?_); refine TD_drawnJ 3 [0, 3, 1, 2, 4, 5, 6, 7] [1, 1, 0, 1, 0, 0, 0, 0] mixed (by kernel_rfl) ?_
  repeat' (first | refine wXf ?_ | (refine TD_isCo ?_; first | refine TD_dec rfl (fun h => ?_) (fun h => ?_) | refine TD_cond rfl (fun h => ?_) (fun h => ?_)) | (refine RD_isGu ?_; first | refine RD_grd rfl rfl (fun h => ?_) (fun h => ?_) | (fail_if_success (refine RD_isW rfl ?_); refine RD_grdB rfl rfl (fun h => ?_) (fun h => ?_))))
  (refine RD_callS rfl (rValue_ok hy (by omega) hc memF) rfl rfl ?_; rintro _ _ _ ⟨rfl, q3, c3, rfl, hc3, rfl⟩; refine ⟨okF, ?_⟩)
  repeat' (first | refine wXf ?_ | (refine TD_isCo ?_; first | refine TD_dec rfl (fun h => ?_) (fun h => ?_) | refine TD_cond rfl (fun h => ?_) (fun h => ?_)) | (refine RD_isGu ?_; first | refine RD_grd rfl rfl (fun h => ?_) (fun h => ?_) | (fail_if_success (refine RD_isW rfl ?_); refine RD_grdB rfl rfl (fun h => ?_) (fun h => ?_))))
  (refine RD_callS rfl (rValue_ok hz (by omega) hc' memF) rfl rfl ?_; rintro _ _ _ ⟨rfl, q4, c4, rfl, hc4, rfl⟩; refine ⟨okF, ?_⟩)
  repeat' (first | refine wXf ?_ | (refine TD_isCo ?_; first | refine TD_dec rfl (fun h => ?_) (fun h => ?_) | refine TD_cond rfl (fun h => ?_) (fun h => ?_)) | (refine RD_isGu ?_; first | refine RD_grd rfl rfl (fun h => ?_) (fun h => ?_) | (fail_if_success (refine RD_isW rfl ?_); refine RD_grdB rfl rfl (fun h => ?_) (fun h => ?_))))
  refine TD_loop [4] rfl (fun k G M I => ∃ (a b : Nat) (pa pb : Option Addr) (ca cb : Nat), k = b ∧ a ≤ 2 ^ (k0 + m) ∧ b ≤ 2 ^ (k0 + m) ∧ OkC pa a ca ∧ OkC pb b cb ∧ Nat.gcd a b = Nat.gcd y.natAbs z.natAbs ∧ G = [(5, .slice pa (gr a).length ca), (6, .slice pb (gr b).length cb)] ∧ M = .blk b3 [.bool false, .slice none 0 0] 24 :: M0 ∧ I = slI pa (recs eG (gr a)) :: slI pb (recs eG (gr b)) :: I0) (z.natAbs) _ _ _ subG subF incF (⟨y.natAbs, z.natAbs, q3, q4, c3, c4, rfl, hy2, hz2, hc3, hc4, rfl, rfl, rfl, rfl⟩) ?_
  rintro k G M I ⟨a, b', pa, pb, ca, cb, rfl, ha, hb, oa, ob, hg, rfl, rfl, rfl⟩
  have la := gr_len_pow ha
  have lb := gr_len_pow hb
  by_cases hk0 : k = 0
  · subst hk0
    have hl0 : (gr 0).length = 0 := by rw [gr_zero]; rfl
    rw [Nat.gcd_zero_right] at hg
    have hz : (Int.gcd y z : Int) = (a : Int) := by rw [Int.gcd_eq_natAbs_gcd_natAbs, hg]
    have hM := fun M0 I0 => hMd a hz ha pa (gr a) (by omega) ca oa.1 oa.2 (gr_dig a) (gr_val a) M0 I0
    rw [hsg, ← hz] at hM
    repeat' (first | refine wXf ?_ | (refine TD_isCo ?_; first | refine TD_dec rfl (fun h => ?_) (fun h => ?_) | refine TD_cond rfl (fun h => ?_) (fun h => ?_)) | (refine RD_isGu ?_; first | refine RD_grd rfl rfl (fun h => ?_) (fun h => ?_) | (fail_if_success (refine RD_isW rfl ?_); refine RD_grdB rfl rfl (fun h => ?_) (fun h => ?_))))
    (refine RD_callS rfl (hM _ _ memF) rfl rfl ?_; rintro _ _ _ ⟨rfl, rfl⟩; refine ⟨okF, ?_⟩; refine RD_openI (List.Mem.head _) (fun q2 c2 e__ hc2 hz2 => ?_); subst e__)
    unfold iv
    repeat' (first | refine wXf ?_ | (refine TD_isCo ?_; first | refine TD_dec rfl (fun h => ?_) (fun h => ?_) | refine TD_cond rfl (fun h => ?_) (fun h => ?_)) | (refine RD_isGu ?_; first | refine RD_grd rfl rfl (fun h => ?_) (fun h => ?_) | (fail_if_success (refine RD_isW rfl ?_); refine RD_grdB rfl rfl (fun h => ?_) (fun h => ?_))))
    refine ND_retC (cs := [.bool (B ((Int.gcd y z : Int) < 0)), .slice q2 (gr (Int.gcd y z : Int).natAbs).length c2]) (.inl rfl) rfl rfl memF rfl _ _ subF incF ⟨rfl, rfl⟩
  · have hlk : 0 < (gr k).length := List.length_pos_iff.2 (fun e => hk0 (gr_nil.1 e))
    by_cases hw : (gr a).length ≤ 2 ∧ (gr k).length ≤ 2
    · have a9 := small2 hw.1
      have k9 := small2 hw.2
      have hP1 := fun M0 I0 => pair_ok (X := X) (w0 := w0) (M0 := M0) (I0 := I0) (q := pa) (n := a) (c := ca) hw.1
      have hP2 := fun M0 I0 => pair_ok (X := X) (w0 := w0) (M0 := M0) (I0 := I0) (q := pb) (n := k) (c := cb) hw.2
      repeat' (first | refine wXf ?_ | (refine TD_isCo ?_; first | refine TD_dec rfl (fun h => ?_) (fun h => ?_) | refine TD_cond rfl (fun h => ?_) (fun h => ?_)) | (refine RD_isGu ?_; first | refine RD_grd rfl rfl (fun h => ?_) (fun h => ?_) | (fail_if_success (refine RD_isW rfl ?_); refine RD_grdB rfl rfl (fun h => ?_) (fun h => ?_))))
      (refine RD_callS rfl (hP1 _ _ memF) rfl rfl ?_; rintro _ _ _ ⟨rfl, rfl, rfl⟩; refine ⟨okF, ?_⟩)
      repeat' (first | refine wXf ?_ | (refine TD_isCo ?_; first | refine TD_dec rfl (fun h => ?_) (fun h => ?_) | refine TD_cond rfl (fun h => ?_) (fun h => ?_)) | (refine RD_isGu ?_; first | refine RD_grd rfl rfl (fun h => ?_) (fun h => ?_) | (fail_if_success (refine RD_isW rfl ?_); refine RD_grdB rfl rfl (fun h => ?_) (fun h => ?_))))
      (refine RD_callS rfl (hP2 _ _ memF) rfl rfl ?_; rintro _ _ _ ⟨rfl, rfl, rfl⟩; refine ⟨okF, ?_⟩)
      clear hlk la lb oa ob
      repeat' (first | refine wXf ?_ | (refine TD_isCo ?_; first | refine TD_dec rfl (fun h => ?_) (fun h => ?_) | refine TD_cond rfl (fun h => ?_) (fun h => ?_)) | (refine RD_isGu ?_; first | refine RD_grd rfl rfl (fun h => ?_) (fun h => ?_) | (fail_if_success (refine RD_isW rfl ?_); refine RD_grdB rfl rfl (fun h => ?_) (fun h => ?_))))
      refine TD_loop [4] rfl (fun k G M I => ∃ (x x2 : Nat) (xi xi2 : Int), k = x2 ∧ xi = x ∧ xi2 = x2 ∧ x < 1000000000000000000 ∧ x2 < 1000000000000000000 ∧ x ≤ 2 ^ (k0 + m) ∧ x2 ≤ 2 ^ (k0 + m) ∧ Nat.gcd x x2 = Nat.gcd y.natAbs z.natAbs ∧ G = [(9, .int .u64 xi), (10, .int .u64 xi2)] ∧ M = .blk b3 [.bool false, .slice none 0 0] 24 :: M0 ∧ I0 = I) (k) _ _ _ subG subF incF (⟨a, k, _, _, rfl, rfl, rfl, a9, k9, ha, hb, hg, rfl, rfl, rfl⟩) ?_
      rintro k G M I ⟨x, x2, xi, xi2, rfl, hxi, hxi2, hx9, hx29, hx, hx2, hxg, rfl, rfl, rfl⟩
      by_cases hx0 : k = 0
      · subst hx0
        rw [Nat.gcd_zero_right] at hxg
        have hz : (Int.gcd y z : Int) = (x : Int) := by rw [Int.gcd_eq_natAbs_gcd_natAbs, hxg]
        have e1 := tmod9 (s := xi) (by omega)
        have e2 := tdiv9 (s := xi) (by omega)
        obtain ⟨s, hs⟩ : ∃ s, s = xi % 1000000000 := ⟨_, rfl⟩
        obtain ⟨t, ht⟩ : ∃ t, t = xi / 1000000000 := ⟨_, rfl⟩
        have hst : (0 ≤ s ∧ s < 1000000000) ∧ (0 ≤ t ∧ t < 1000000000) ∧ s + 1000000000 * t = x := by omega
        rw [← hs] at e1
        rw [← ht] at e2
        have hd2 : Dig [s, t] := by rw [Dig.cons, Dig.cons]; exact ⟨hst.1, hst.2.1, Dig.nil⟩
        have hv2 : val [s, t] = (x : Int) := by simp [val]; omega
        have hM := fun b4 M0 I0 => hMd x hz hx (some ⟨b4, 0, none⟩) [s, t] (by simp) 2 (by simp) (.inl (Ok.mk _ _)) hd2 hv2 M0 I0
        rw [hsg, ← hz] at hM
        repeat' (first | refine wXf ?_ | (refine TD_isCo ?_; first | refine TD_dec rfl (fun h => ?_) (fun h => ?_) | refine TD_cond rfl (fun h => ?_) (fun h => ?_)) | (refine RD_isGu ?_; first | refine RD_grd rfl rfl (fun h => ?_) (fun h => ?_) | (fail_if_success (refine RD_isW rfl ?_); refine RD_grdB rfl rfl (fun h => ?_) (fun h => ?_))))
        rw [e1]
        repeat' (first | refine wXf ?_ | (refine TD_isCo ?_; first | refine TD_dec rfl (fun h => ?_) (fun h => ?_) | refine TD_cond rfl (fun h => ?_) (fun h => ?_)) | (refine RD_isGu ?_; first | refine RD_grd rfl rfl (fun h => ?_) (fun h => ?_) | (fail_if_success (refine RD_isW rfl ?_); refine RD_grdB rfl rfl (fun h => ?_) (fun h => ?_))))
        rw [e2]
        repeat' (first | refine wXf ?_ | (refine TD_isCo ?_; first | refine TD_dec rfl (fun h => ?_) (fun h => ?_) | refine TD_cond rfl (fun h => ?_) (fun h => ?_)) | (refine RD_isGu ?_; first | refine RD_grd rfl rfl (fun h => ?_) (fun h => ?_) | (fail_if_success (refine RD_isW rfl ?_); refine RD_grdB rfl rfl (fun h => ?_) (fun h => ?_))))
        (refine RD_vals (cs := recs eG [s, t]) ([.int .u32 s, .int .u32 t]) rfl rfl (by intro v hv; repeat (first | exact absurd hv (List.not_mem_nil) | (rcases List.mem_cons.1 hv with rfl | hv; · rfl))) (by omega) rfl rfl rfl ?_; intro b4; refine ⟨okF, ?_⟩)
        refine RD_freezeB remF ?_
        (refine RD_callS rfl (hM b4 _ _ memF) rfl rfl ?_; rintro _ _ _ ⟨rfl, rfl⟩; refine ⟨okF, ?_⟩; refine RD_openI (List.Mem.head _) (fun q2 c2 e__ hc2 hz2 => ?_); subst e__)
        unfold iv
        repeat' (first | refine wXf ?_ | (refine TD_isCo ?_; first | refine TD_dec rfl (fun h => ?_) (fun h => ?_) | refine TD_cond rfl (fun h => ?_) (fun h => ?_)) | (refine RD_isGu ?_; first | refine RD_grd rfl rfl (fun h => ?_) (fun h => ?_) | (fail_if_success (refine RD_isW rfl ?_); refine RD_grdB rfl rfl (fun h => ?_) (fun h => ?_))))
        refine ND_retC (cs := [.bool (B ((Int.gcd y z : Int) < 0)), .slice q2 (gr (Int.gcd y z : Int).natAbs).length c2]) (.inl rfl) rfl rfl memF rfl _ _ subF incF ⟨rfl, rfl⟩
      · have e2 : xi.tmod xi2 = ((x % k : Nat) : Int) := by rw [hxi, hxi2, Int.tmod_eq_emod_of_nonneg (by omega), Int.natCast_emod]
        have hmod := Nat.mod_lt x (show k > 0 by omega)
        have hg2 : Nat.gcd k (x % k) = Nat.gcd y.natAbs z.natAbs := by rw [← hxg, Nat.gcd_comm x k, Nat.gcd_rec k x, Nat.gcd_comm]
        obtain ⟨r, hr⟩ : ∃ r, r = x % k := ⟨_, rfl⟩
        rw [← hr] at e2 hmod hg2
        clear hr
        repeat' (first | refine wXf ?_ | (refine TD_isCo ?_; first | refine TD_dec rfl (fun h => ?_) (fun h => ?_) | refine TD_cond rfl (fun h => ?_) (fun h => ?_)) | (refine RD_isGu ?_; first | refine RD_grd rfl rfl (fun h => ?_) (fun h => ?_) | (fail_if_success (refine RD_isW rfl ?_); refine RD_grdB rfl rfl (fun h => ?_) (fun h => ?_))))
        (repeat refine TD_seq ?_); refine TD_drawn [0, 1, 2, 3, 4, 5] [0, 0, 0, 0, 0, 0] mixed (by kernel_rfl) ?_
        repeat' (first | refine wXf ?_ | (refine TD_isCo ?_; first | refine TD_dec rfl (fun h => ?_) (fun h => ?_) | refine TD_cond rfl (fun h => ?_) (fun h => ?_)) | (refine RD_isGu ?_; first | refine RD_grd rfl rfl (fun h => ?_) (fun h => ?_) | (fail_if_success (refine RD_isW rfl ?_); refine RD_grdB rfl rfl (fun h => ?_) (fun h => ?_))))
        rw [e2]
        refine ND_again (r) _ _ _ (by first | omega | (simp only [List.length_append, List.length_cons, List.length_nil]; omega)) subG subF incF (⟨k, r, xi2, _, rfl, hxi2, rfl, by omega, by omega, hx2, by omega, hg2, rfl, rfl, rfl⟩)
    · have hO := fun M0 I0 => parts_ok (X := X) (w0 := w0) (M0 := M0) (I0 := I0) (p := pa) (q := pb) (m := a) (n := k) (cp := ca) (cq := cb) (by omega) (by omega) (by omega) oa
      have hmod := Nat.mod_lt a (show k > 0 by omega)
      have hg2 : Nat.gcd k (a % k) = Nat.gcd y.natAbs z.natAbs := by rw [← hg, Nat.gcd_comm a k, Nat.gcd_rec k a, Nat.gcd_comm]
      obtain ⟨r, hr⟩ : ∃ r, r = a % k := ⟨_, rfl⟩
      obtain ⟨qq, hqq⟩ : ∃ r, r = a / k := ⟨_, rfl⟩
      rw [← hr, ← hqq] at hO
      rw [← hr] at hmod hg2
      clear hr hqq
      repeat' (first | refine wXf ?_ | (refine TD_isCo ?_; first | refine TD_dec rfl (fun h => ?_) (fun h => ?_) | refine TD_cond rfl (fun h => ?_) (fun h => ?_)) | (refine RD_isGu ?_; first | refine RD_grd rfl rfl (fun h => ?_) (fun h => ?_) | (fail_if_success (refine RD_isW rfl ?_); refine RD_grdB rfl rfl (fun h => ?_) (fun h => ?_))))
      all_goals
        (refine RD_callS rfl (hO _ _ memF memF) rfl rfl ?_; rintro _ _ _ ⟨rfl, p1, c1, p2, c2, ho1, ho2, rfl, rfl⟩; refine ⟨okF, ?_⟩)
        repeat' (first | refine wXf ?_ | (refine TD_isCo ?_; first | refine TD_dec rfl (fun h => ?_) (fun h => ?_) | refine TD_cond rfl (fun h => ?_) (fun h => ?_)) | (refine RD_isGu ?_; first | refine RD_grd rfl rfl (fun h => ?_) (fun h => ?_) | (fail_if_success (refine RD_isW rfl ?_); refine RD_grdB rfl rfl (fun h => ?_) (fun h => ?_))))
        refine ND_again (r) _ _ _ (by first | omega | (simp only [List.length_append, List.length_cons, List.length_nil]; omega)) subG subF incF (⟨k, r, pb, p2, cb, c2, rfl, hb, by omega, ob, ho2, hg2, rfl, rfl, rfl⟩)
end
end Go.Proofs.YtdmlebigkakplaaGreat

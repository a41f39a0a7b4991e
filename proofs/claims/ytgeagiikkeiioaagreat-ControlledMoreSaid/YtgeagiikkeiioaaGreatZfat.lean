/- fiducialref01: Of, pair, Gcd, Divide fiducialref01: pair, Gcd fiducialref01: Divide fiducialref02: reduced, Valid, Value, Whole, Sign, Neg fiducialref02: Add, Sub, Mul, Divide, Compare, Same -/
import Derived.Test.YtgeagiikkeiioaaGreatZfas
import Derived.Test.YtgeagiikkeiioaaGreatZfao
import Derived.Test.YtgeagiikkeiioaaGreatZfan
import Derived.Test.YtgeagiikkeiioaaGreatZfaq
set_option linter.unusedSimpArgs false
set_option linter.unusedVariables false
set_option maxRecDepth 100000
set_option maxHeartbeats 4000000
namespace Go.Proofs.YtgeagiikkeiioaaGreat
open Go Go.Fx
section
variable {X : List Nat} {w0 : World} {M0 : List Ent} {I0 : List bA}
theorem aRG {x : Int} (hx : -9223372036854775808 ≤ x ∧ x ≤ 9223372036854775807) : CD Tryz.prog 159 [.int .i64 x] X w0 M0 I0 (fun v M I => M0 = M ∧ I = iK v x 63 :: I0) := by
 have hn : x.natAbs ≤ 2 ^ 63 := by omega
 have hMd := fun (q : Option Addr) (l : List Int) (h0 : l.length ≤ 1000000000000) (c2 : Nat) (h1 : l.length ≤ c2) (h2 : Ok q ∨ (l.length = 0 ∧ c2 = 0)) (h3 : Dig l) (h4 : val l = ((x.natAbs : Nat) : Int)) M0 I0 => wH (X := X) (w0 := w0) (M0 := M0) (I0 := I0) (p := x < 0) (n := x.natAbs) (q := q) (l := l) (c := c2) (k := 63) h0 h1 h2 h3 h4 hn
 rw [oU] at hMd
 have dA := bW x.natAbs
 have vA := dC x.natAbs
 have hlA : (gr x.natAbs).length ≤ 3 := nY (by omega)
 have hgr : ∀ m : Nat, m ≠ 0 → gr m = ((m % 1000000000 : Nat) : Int) :: gr (m / 1000000000) := fun m h => rU h
 refine bF Tryz.func159 rfl Tryz.ntmps159 rfl ?_
 refine aL ?_
 refine aI ?_
 (refine aO rfl rfl ?_; intro b; refine ⟨okF, ?_⟩)
 by_cases hx0 : x < 0
 ·repeat (refine bD ?_)
  refine aF rfl (fun _ => cZ rfl (aDW (by omega))) rfl rfl ?_
  repeat (refine bD ?_)
  all_goals
   (refine aK (cs := recs eG []) ([]) rfl rfl (by intro v hv; repeat (first | exact absurd hv (List.not_mem_nil) | (rcases List.mem_cons.1 hv with rfl | hv; · rfl))) (by omega) rfl rfl rfl ?_; intro b1; refine ⟨okF, ?_⟩)
   repeat (refine bD ?_)
   refine sG (b := b1) (mm := 0) 1 kR rfl (by omega) ?_
   refine aW [0, 2] rfl (fun k G M I => ∃ (m : Nat) (ui : Int) (xs : List Int) (a : Option Addr) (c' : Nat), k = m ∧ ui = m ∧ m ≤ x.natAbs ∧ xs ++ gr m = gr x.natAbs ∧ G = [(3, .int .u64 ui), (4, .slice a xs.length c')] ∧ M = .row a xs.length c' (recs eG xs) 155 1 :: .blk b [.bool false, .slice none 0 0] 40 :: M0 ∧ I0 = I) (x.natAbs) _ _ _ aP aG aD (⟨x.natAbs, _, [], _, _, rfl, by omega, by omega, rfl, rfl, rfl, rfl⟩) ?_
   rintro k G M I ⟨m, ui, xs, a, c', rfl, hui, hm, hxs, rfl, rfl, rfl⟩
   have hlx : xs.length + (gr k).length ≤ 3 := by rw [← hxs] at hlA; simpa using hlA
   by_cases hk0 : k = 0
   ·subst hk0
    rw [fO, List.append_nil] at hxs
    subst hxs
    refine vK (fun w hw => And.intro (hw.rowLe (List.Mem.head _)) ((hw.rowS (List.Mem.head _)).2.imp id And.right)) (fun ho3 => ?_)
    have hM := hMd a (gr x.natAbs) (by omega) c' ho3.1 ho3.2 dA vA
    repeat (refine bD ?_)
    refine gP fF ?_
    (refine aA rfl (hM _ _ aB) rfl rfl ?_; rintro _ _ _ ⟨rfl, rfl⟩; refine ⟨okF, ?_⟩; refine bL (List.Mem.head _) (fun q6 c6 e__ hc6 hz6 => ?_); subst e__)
    unfold iv
    repeat (refine bD ?_)
    refine bN (cs := [.bool (B (x < 0)), .slice q6 (gr x.natAbs).length c6]) (.inl rfl) rfl rfl aB rfl _ _ aG aD ⟨rfl, rfl⟩
   ·have hgk := hgr k hk0
    have e1 := aAW (s := ui) (by omega)
    have e2 := aBP (s := ui) (by omega)
    obtain ⟨s, hs⟩ : ∃ s, s = ui % 1000000000 := ⟨_, rfl⟩
    obtain ⟨t, ht⟩ : ∃ t, t = ui / 1000000000 := ⟨_, rfl⟩
    have hs1 : ((k % 1000000000 : Nat) : Int) = s := by omega
    have ht1 : ((k / 1000000000 : Nat) : Int) = t := by omega
    rw [hs1] at hgk
    rw [← hs] at e1
    rw [← ht] at e2
    have hs2 : 0 ≤ s ∧ s < 1000000000 := by omega
    have hl9 : (gr k).length = (gr (k / 1000000000)).length + 1 := by rw [hgk]; simp
    repeat (refine bD ?_)
    rw [e1]
    repeat (refine bD ?_)
    (refine aK (cs := recs eG [s]) ([.int .u32 s]) rfl rfl (by intro v hv; repeat (first | exact absurd hv (List.not_mem_nil) | (rcases List.mem_cons.1 hv with rfl | hv; · rfl))) (by omega) rfl rfl rfl ?_; intro b2; refine ⟨okF, ?_⟩)
    (refine aM (ys := [s]) 1 rfl rfl rfl ?_ (by decide) rfl (by omega) (by omega) rfl rfl ?_; (· first | exact Src.blk aB | exact Src.row aB | exact Src.imm aB (by first | assumption | exact .inl (Ok.mk _ _))); intro a2 c2; refine ⟨okF, ?_⟩)
    repeat (refine bD ?_)
    rw [e2]
    refine aN (k / 1000000000) _ _ _ (by first | omega | (simp only [List.length_append, List.length_cons, List.length_nil]; omega)) aP aG aD (⟨k / 1000000000, t, xs ++ [s], a2, c2, rfl, ht1.symm, by omega, by rw [List.append_assoc]; rw [hgk] at hxs; exact hxs, rfl, rfl, rfl⟩)
 ·repeat (refine bD ?_)
  all_goals
   (refine aK (cs := recs eG []) ([]) rfl rfl (by intro v hv; repeat (first | exact absurd hv (List.not_mem_nil) | (rcases List.mem_cons.1 hv with rfl | hv; · rfl))) (by omega) rfl rfl rfl ?_; intro b1; refine ⟨okF, ?_⟩)
   repeat (refine bD ?_)
   refine sG (b := b1) (mm := 0) 1 kR rfl (by omega) ?_
   refine aW [0, 2] rfl (fun k G M I => ∃ (m : Nat) (ui : Int) (xs : List Int) (a : Option Addr) (c' : Nat), k = m ∧ ui = m ∧ m ≤ x.natAbs ∧ xs ++ gr m = gr x.natAbs ∧ G = [(3, .int .u64 ui), (4, .slice a xs.length c')] ∧ M = .row a xs.length c' (recs eG xs) 155 1 :: .blk b [.bool false, .slice none 0 0] 40 :: M0 ∧ I0 = I) (x.natAbs) _ _ _ aP aG aD (⟨x.natAbs, _, [], _, _, rfl, by omega, by omega, rfl, rfl, rfl, rfl⟩) ?_
   rintro k G M I ⟨m, ui, xs, a, c', rfl, hui, hm, hxs, rfl, rfl, rfl⟩
   have hlx : xs.length + (gr k).length ≤ 3 := by rw [← hxs] at hlA; simpa using hlA
   by_cases hk0 : k = 0
   ·subst hk0
    rw [fO, List.append_nil] at hxs
    subst hxs
    refine vK (fun w hw => And.intro (hw.rowLe (List.Mem.head _)) ((hw.rowS (List.Mem.head _)).2.imp id And.right)) (fun ho3 => ?_)
    have hM := hMd a (gr x.natAbs) (by omega) c' ho3.1 ho3.2 dA vA
    repeat (refine bD ?_)
    refine gP fF ?_
    (refine aA rfl (hM _ _ aB) rfl rfl ?_; rintro _ _ _ ⟨rfl, rfl⟩; refine ⟨okF, ?_⟩; refine bL (List.Mem.head _) (fun q6 c6 e__ hc6 hz6 => ?_); subst e__)
    unfold iv
    repeat (refine bD ?_)
    refine bN (cs := [.bool (B (x < 0)), .slice q6 (gr x.natAbs).length c6]) (.inl rfl) rfl rfl aB rfl _ _ aG aD ⟨rfl, rfl⟩
   ·have hgk := hgr k hk0
    have e1 := aAW (s := ui) (by omega)
    have e2 := aBP (s := ui) (by omega)
    obtain ⟨s, hs⟩ : ∃ s, s = ui % 1000000000 := ⟨_, rfl⟩
    obtain ⟨t, ht⟩ : ∃ t, t = ui / 1000000000 := ⟨_, rfl⟩
    have hs1 : ((k % 1000000000 : Nat) : Int) = s := by omega
    have ht1 : ((k / 1000000000 : Nat) : Int) = t := by omega
    rw [hs1] at hgk
    rw [← hs] at e1
    rw [← ht] at e2
    have hs2 : 0 ≤ s ∧ s < 1000000000 := by omega
    have hl9 : (gr k).length = (gr (k / 1000000000)).length + 1 := by rw [hgk]; simp
    repeat (refine bD ?_)
    rw [e1]
    repeat (refine bD ?_)
    (refine aK (cs := recs eG [s]) ([.int .u32 s]) rfl rfl (by intro v hv; repeat (first | exact absurd hv (List.not_mem_nil) | (rcases List.mem_cons.1 hv with rfl | hv; · rfl))) (by omega) rfl rfl rfl ?_; intro b2; refine ⟨okF, ?_⟩)
    (refine aM (ys := [s]) 1 rfl rfl rfl ?_ (by decide) rfl (by omega) (by omega) rfl rfl ?_; (· first | exact Src.blk aB | exact Src.row aB | exact Src.imm aB (by first | assumption | exact .inl (Ok.mk _ _))); intro a2 c2; refine ⟨okF, ?_⟩)
    repeat (refine bD ?_)
    rw [e2]
    refine aN (k / 1000000000) _ _ _ (by first | omega | (simp only [List.length_append, List.length_cons, List.length_nil]; omega)) aP aG aD (⟨k / 1000000000, t, xs ++ [s], a2, c2, rfl, ht1.symm, by omega, by rw [List.append_assoc]; rw [hgk] at hxs; exact hxs, rfl, rfl, rfl⟩)
end
end Go.Proofs.YtgeagiikkeiioaaGreat
namespace Go.Proofs.YtgeagiikkeiioaaGreat
open Go Go.Fx
theorem aNL {t : Nat} (ht : (gr t).length ≤ 2) : t < 1000000000000000000 := by
 have := jG (bW t)
 rw [dC] at this
 have h2 : (1000000000 : Int) ^ (gr t).length ≤ 1000000000 ^ 2 := lN ht
 omega
theorem aMY {n : Nat} (h : (gr n).length ≤ 2) : gt (gr n) 1 * 1000000000 + gt (gr n) 0 = (n : Int) := by
 have hv := dC n
 match hg : gr n, h with
 | [], _ => rw [hg] at hv; simp [val] at hv; rw [← hv]; rfl
 | [a], _ => rw [hg] at hv; simp [val] at hv; rw [← hv]; simp [gt]
 | [a, b], _ => rw [hg] at hv; simp [val] at hv; rw [← hv]; simp [gt]; omega
section
variable {X : List Nat} {w0 : World} {M0 : List Ent} {I0 : List bA}
theorem aIF {q : Option Addr} {n c : Nat} (hl : (gr n).length ≤ 2) (hq : aX q (recs eG (gr n)) ∈ I0) :
  CD Tryz.prog 188 [.slice q (gr n).length c] X w0 M0 I0 (fun v M I => M0 = M ∧ I0 = I ∧ v = .int .u64 (n : Int)) := by
 have d0 := (bW n).gt 0
 have d1 := (bW n).gt 1
 rw [← aMY hl]
 refine bF Tryz.func188 rfl Tryz.ntmps188 rfl ?_
 repeat' (first | refine bD ?_ | refine aR rfl (fun h => ?_) (fun h => ?_) | refine aQ rfl rfl (fun h => ?_) (fun h => ?_) | fail)
 (refine aA rfl (nJ (l := gr n) (i := 1) rfl (by omega) aB (bW n)) rfl rfl ?_; rintro _ _ _ ⟨rfl, rfl, rfl⟩; refine ⟨okF, ?_⟩)
 repeat' (first | refine bD ?_ | refine aR rfl (fun h => ?_) (fun h => ?_) | refine aQ rfl rfl (fun h => ?_) (fun h => ?_) | fail)
 (refine aA rfl (nJ (l := gr n) (i := 0) rfl (by omega) aB (bW n)) rfl rfl ?_; rintro _ _ _ ⟨rfl, rfl, rfl⟩; refine ⟨okF, ?_⟩)
 repeat' (first | refine bD ?_ | refine aR rfl (fun h => ?_) (fun h => ?_) | refine aQ rfl rfl (fun h => ?_) (fun h => ?_) | fail)
 refine aH (by first | exact .inl rfl | exact .inr rfl) rfl rfl _ _ aG aD (⟨rfl, rfl, rfl⟩)
theorem aIB {u v : Value} {y z : Int} {k0 m : Nat} (hk : k0 ≤ 500000000000) (hm : m ≤ 500000000000) (hu : iK u y k0 ∈ I0) (hv : iK v z m ∈ I0) : CD Tryz.prog 147 [u, v] X w0 M0 I0 (fun v M I => M0 = M ∧ I = iK v (Int.gcd y z) (k0 + m) :: I0) := by
 refine dX hu (fun q cq e hc hy => ?_)
 subst e
 refine dX (List.Mem.tail _ hv) (fun q' cq' e hc' hz => ?_)
 subst e
 have hy2 : y.natAbs ≤ 2 ^ (k0 + m) := Nat.le_trans hy (Nat.pow_le_pow_right (by decide) (by omega))
 have hz2 : z.natAbs ≤ 2 ^ (k0 + m) := Nat.le_trans hz (Nat.pow_le_pow_right (by decide) (by omega))
 have hMd := fun (a : Nat) (e : (Int.gcd y z : Int) = a) (ha : a ≤ 2 ^ (k0 + m)) (q : Option Addr) (l : List Int) (h0 : l.length ≤ 1000000000000) (c2 : Nat) (h1 : l.length ≤ c2) (h2 : Ok q ∨ (l.length = 0 ∧ c2 = 0)) (h3 : Dig l) (h4 : val l = (a : Int)) M0 I0 => wH (X := X) (w0 := w0) (M0 := M0) (I0 := I0) (p := False) (n := a) (q := q) (l := l) (c := c2) (k := k0 + m) h0 h1 h2 h3 h4 ha
 simp only [aY (show ¬ False from id)] at hMd
 have hsg : ∀ a : Nat, sg False a = (a : Int) := fun a => by unfold sg; rw [if_neg (fun h => h)]
 unfold iv
 refine bH Tryz.func147 rfl Tryz.ntmps147 rfl ?_
 refine aL ?_
 refine aI ?_
 (refine aZ rfl rfl rfl ?_; intro b; refine ⟨okF, ?_⟩)
 (refine aZ rfl rfl rfl ?_; intro b2; refine ⟨okF, ?_⟩)
 (refine aO rfl rfl ?_; intro b3; refine ⟨okF, ?_⟩)
 repeat' (first | refine bD ?_ | refine aR rfl (fun h => ?_) (fun h => ?_) | refine aQ rfl rfl (fun h => ?_) (fun h => ?_) | fail)
 (repeat refine aL ?_); refine dM 3 [0, 3, 1, 2, 4, 5, 6, 7] [1, 1, 0, 1, 0, 0, 0, 0] mixed (by kernel_rfl) ?_
 repeat' (first | refine bD ?_ | refine aR rfl (fun h => ?_) (fun h => ?_) | refine aQ rfl rfl (fun h => ?_) (fun h => ?_) | fail)
 (refine aA rfl (oC hy (by omega) hc aB) rfl rfl ?_; rintro _ _ _ ⟨rfl, q3, c3, rfl, hc3, rfl⟩; refine ⟨okF, ?_⟩)
 repeat' (first | refine bD ?_ | refine aR rfl (fun h => ?_) (fun h => ?_) | refine aQ rfl rfl (fun h => ?_) (fun h => ?_) | fail)
 (refine aA rfl (oC hz (by omega) hc' aB) rfl rfl ?_; rintro _ _ _ ⟨rfl, q4, c4, rfl, hc4, rfl⟩; refine ⟨okF, ?_⟩)
 repeat' (first | refine bD ?_ | refine aR rfl (fun h => ?_) (fun h => ?_) | refine aQ rfl rfl (fun h => ?_) (fun h => ?_) | fail)
 refine aW [4] rfl (fun k G M I => ∃ (a b : Nat) (pa pb : Option Addr) (ca cb : Nat), k = b ∧ a ≤ 2 ^ (k0 + m) ∧ b ≤ 2 ^ (k0 + m) ∧ pK pa a ca ∧ pK pb b cb ∧ Nat.gcd a b = Nat.gcd y.natAbs z.natAbs ∧ G = [(5, .slice pa (gr a).length ca), (6, .slice pb (gr b).length cb)] ∧ M = .blk b3 [.bool false, .slice none 0 0] 40 :: M0 ∧ I = aX pa (recs eG (gr a)) :: aX pb (recs eG (gr b)) :: I0) (z.natAbs) _ _ _ aP aG aD (⟨y.natAbs, z.natAbs, q3, q4, c3, c4, rfl, hy2, hz2, hc3, hc4, rfl, rfl, rfl, rfl⟩) ?_
 rintro k G M I ⟨a, b', pa, pb, ca, cb, rfl, ha, hb, oa, ob, hg, rfl, rfl, rfl⟩
 have la := eX ha
 have lb := eX hb
 by_cases hk0 : k = 0
 ·subst hk0
  have hl0 : (gr 0).length = 0 := by rw [fO]; rfl
  rw [Nat.gcd_zero_right] at hg
  have hz : (Int.gcd y z : Int) = (a : Int) := by rw [Int.gcd_eq_natAbs_gcd_natAbs, hg]
  have hM := fun M0 I0 => hMd a hz ha pa (gr a) (by omega) ca oa.1 oa.2 (bW a) (dC a) M0 I0
  rw [hsg, ← hz] at hM
  repeat' (first | refine bD ?_ | refine aR rfl (fun h => ?_) (fun h => ?_) | refine aQ rfl rfl (fun h => ?_) (fun h => ?_) | fail)
  (refine aA rfl (hM _ _ aB) rfl rfl ?_; rintro _ _ _ ⟨rfl, rfl⟩; refine ⟨okF, ?_⟩; refine bL (List.Mem.head _) (fun q2 c2 e__ hc2 hz2 => ?_); subst e__)
  unfold iv
  repeat' (first | refine bD ?_ | refine aR rfl (fun h => ?_) (fun h => ?_) | refine aQ rfl rfl (fun h => ?_) (fun h => ?_) | fail)
  refine bN (cs := [.bool (B ((Int.gcd y z : Int) < 0)), .slice q2 (gr (Int.gcd y z : Int).natAbs).length c2]) (.inl rfl) rfl rfl aB rfl _ _ aG aD ⟨rfl, rfl⟩
 ·have hlk : 0 < (gr k).length := List.length_pos_iff.2 (fun e => hk0 (oO.1 e))
  by_cases hw : (gr a).length ≤ 2 ∧ (gr k).length ≤ 2
  ·have a9 := aNL hw.1
   have k9 := aNL hw.2
   have hP1 := fun M0 I0 => aIF (X := X) (w0 := w0) (M0 := M0) (I0 := I0) (q := pa) (n := a) (c := ca) hw.1
   have hP2 := fun M0 I0 => aIF (X := X) (w0 := w0) (M0 := M0) (I0 := I0) (q := pb) (n := k) (c := cb) hw.2
   repeat' (first | refine bD ?_ | refine aR rfl (fun h => ?_) (fun h => ?_) | refine aQ rfl rfl (fun h => ?_) (fun h => ?_) | fail)
   (refine aA rfl (hP1 _ _ aB) rfl rfl ?_; rintro _ _ _ ⟨rfl, rfl, rfl⟩; refine ⟨okF, ?_⟩)
   repeat' (first | refine bD ?_ | refine aR rfl (fun h => ?_) (fun h => ?_) | refine aQ rfl rfl (fun h => ?_) (fun h => ?_) | fail)
   (refine aA rfl (hP2 _ _ aB) rfl rfl ?_; rintro _ _ _ ⟨rfl, rfl, rfl⟩; refine ⟨okF, ?_⟩)
   clear hlk la lb oa ob
   repeat' (first | refine bD ?_ | refine aR rfl (fun h => ?_) (fun h => ?_) | refine aQ rfl rfl (fun h => ?_) (fun h => ?_) | fail)
   refine aW [4] rfl (fun k G M I => ∃ (x x2 : Nat) (xi xi2 : Int), k = x2 ∧ xi = x ∧ xi2 = x2 ∧ x < 1000000000000000000 ∧ x2 < 1000000000000000000 ∧ x ≤ 2 ^ (k0 + m) ∧ x2 ≤ 2 ^ (k0 + m) ∧ Nat.gcd x x2 = Nat.gcd y.natAbs z.natAbs ∧ G = [(9, .int .u64 xi), (10, .int .u64 xi2)] ∧ M = .blk b3 [.bool false, .slice none 0 0] 40 :: M0 ∧ I0 = I) (k) _ _ _ aP aG aD (⟨a, k, _, _, rfl, rfl, rfl, a9, k9, ha, hb, hg, rfl, rfl, rfl⟩) ?_
   rintro k G M I ⟨x, x2, xi, xi2, rfl, hxi, hxi2, hx9, hx29, hx, hx2, hxg, rfl, rfl, rfl⟩
   by_cases hx0 : k = 0
   ·subst hx0
    rw [Nat.gcd_zero_right] at hxg
    have hz : (Int.gcd y z : Int) = (x : Int) := by rw [Int.gcd_eq_natAbs_gcd_natAbs, hxg]
    have e1 := aAW (s := xi) (by omega)
    have e2 := aBP (s := xi) (by omega)
    obtain ⟨s, hs⟩ : ∃ s, s = xi % 1000000000 := ⟨_, rfl⟩
    obtain ⟨t, ht⟩ : ∃ t, t = xi / 1000000000 := ⟨_, rfl⟩
    have hst : (0 ≤ s ∧ s < 1000000000) ∧ (0 ≤ t ∧ t < 1000000000) ∧ s + 1000000000 * t = x := by omega
    rw [← hs] at e1
    rw [← ht] at e2
    have hd2 : Dig [s, t] := by rw [Dig.cons, Dig.cons]; exact ⟨hst.1, hst.2.1, Dig.nil⟩
    have hv2 : val [s, t] = (x : Int) := by simp [val]; omega
    have hM := fun b4 M0 I0 => hMd x hz hx (some ⟨b4, 0, none⟩) [s, t] (by simp) 2 (by simp) (.inl (Ok.mk _ _)) hd2 hv2 M0 I0
    rw [hsg, ← hz] at hM
    repeat' (first | refine bD ?_ | refine aR rfl (fun h => ?_) (fun h => ?_) | refine aQ rfl rfl (fun h => ?_) (fun h => ?_) | fail)
    rw [e1]
    repeat' (first | refine bD ?_ | refine aR rfl (fun h => ?_) (fun h => ?_) | refine aQ rfl rfl (fun h => ?_) (fun h => ?_) | fail)
    rw [e2]
    repeat' (first | refine bD ?_ | refine aR rfl (fun h => ?_) (fun h => ?_) | refine aQ rfl rfl (fun h => ?_) (fun h => ?_) | fail)
    (refine aK (cs := recs eG [s, t]) ([.int .u32 s, .int .u32 t]) rfl rfl (by intro v hv; repeat (first | exact absurd hv (List.not_mem_nil) | (rcases List.mem_cons.1 hv with rfl | hv; · rfl))) (by omega) rfl rfl rfl ?_; intro b4; refine ⟨okF, ?_⟩)
    refine aC fF ?_
    (refine aA rfl (hM b4 _ _ aB) rfl rfl ?_; rintro _ _ _ ⟨rfl, rfl⟩; refine ⟨okF, ?_⟩; refine bL (List.Mem.head _) (fun q2 c2 e__ hc2 hz2 => ?_); subst e__)
    unfold iv
    repeat' (first | refine bD ?_ | refine aR rfl (fun h => ?_) (fun h => ?_) | refine aQ rfl rfl (fun h => ?_) (fun h => ?_) | fail)
    refine bN (cs := [.bool (B ((Int.gcd y z : Int) < 0)), .slice q2 (gr (Int.gcd y z : Int).natAbs).length c2]) (.inl rfl) rfl rfl aB rfl _ _ aG aD ⟨rfl, rfl⟩
   ·have e2 : xi.tmod xi2 = ((x % k : Nat) : Int) := by rw [hxi, hxi2, Int.tmod_eq_emod_of_nonneg (by omega), Int.natCast_emod]
    have hmod := Nat.mod_lt x (show k > 0 by omega)
    have hg2 : Nat.gcd k (x % k) = Nat.gcd y.natAbs z.natAbs := by rw [← hxg, Nat.gcd_comm x k, Nat.gcd_rec k x, Nat.gcd_comm]
    obtain ⟨r, hr⟩ : ∃ r, r = x % k := ⟨_, rfl⟩
    rw [← hr] at e2 hmod hg2
    clear hr
    repeat' (first | refine bD ?_ | refine aR rfl (fun h => ?_) (fun h => ?_) | refine aQ rfl rfl (fun h => ?_) (fun h => ?_) | fail)
    (repeat refine aL ?_); refine eF [0, 1, 2, 3, 4, 5] [0, 0, 0, 0, 0, 0] mixed (by kernel_rfl) ?_
    repeat' (first | refine bD ?_ | refine aR rfl (fun h => ?_) (fun h => ?_) | refine aQ rfl rfl (fun h => ?_) (fun h => ?_) | fail)
    rw [e2]
    refine aN (r) _ _ _ (by first | omega | (simp only [List.length_append, List.length_cons, List.length_nil]; omega)) aP aG aD (⟨k, r, xi2, _, rfl, hxi2, rfl, by omega, by omega, hx2, by omega, hg2, rfl, rfl, rfl⟩)
  ·have hO := fun M0 I0 => aLY (X := X) (w0 := w0) (M0 := M0) (I0 := I0) (p := pa) (q := pb) (m := a) (n := k) (cp := ca) (cq := cb) (by omega) (by omega) (by omega) oa
   have hmod := Nat.mod_lt a (show k > 0 by omega)
   have hg2 : Nat.gcd k (a % k) = Nat.gcd y.natAbs z.natAbs := by rw [← hg, Nat.gcd_comm a k, Nat.gcd_rec k a, Nat.gcd_comm]
   obtain ⟨r, hr⟩ : ∃ r, r = a % k := ⟨_, rfl⟩
   obtain ⟨qq, hqq⟩ : ∃ r, r = a / k := ⟨_, rfl⟩
   rw [← hr, ← hqq] at hO
   rw [← hr] at hmod hg2
   clear hr hqq
   repeat' (first | refine bD ?_ | refine aR rfl (fun h => ?_) (fun h => ?_) | refine aQ rfl rfl (fun h => ?_) (fun h => ?_) | fail)
   all_goals
    (refine aA rfl (hO _ _ aB aB) rfl rfl ?_; rintro _ _ _ ⟨rfl, p1, c1, p2, c2, ho1, ho2, rfl, rfl⟩; refine ⟨okF, ?_⟩)
    repeat' (first | refine bD ?_ | refine aR rfl (fun h => ?_) (fun h => ?_) | refine aQ rfl rfl (fun h => ?_) (fun h => ?_) | fail)
    refine aN (r) _ _ _ (by first | omega | (simp only [List.length_append, List.length_cons, List.length_nil]; omega)) aP aG aD (⟨k, r, pb, p2, cb, c2, rfl, hb, by omega, ob, ho2, hg2, rfl, rfl, rfl⟩)
end
end Go.Proofs.YtgeagiikkeiioaaGreat
namespace Go.Proofs.YtgeagiikkeiioaaGreat
open Go Go.Fx
section
variable {X : List Nat} {w0 : World} {M0 : List Ent} {I0 : List bA}
end
end Go.Proofs.YtgeagiikkeiioaaGreat
namespace Go.Proofs.YtgeagiikkeiioaaGreat
open Go Go.Fx
section
variable {X : List Nat} {w0 : World} {M0 : List Ent} {I0 : List bA}
theorem tF {x : Int} (hx : -9223372036854775808 ≤ x ∧ x ≤ 9223372036854775807) : CD Tryz.prog 111 [.int .i64 x] X w0 M0 I0 (fun v M I => M0 = M ∧ I = iK v x 63 :: I0) := by
 refine bF Tryz.func111 rfl Tryz.ntmps111 rfl ?_
 refine aL ?_
 refine aI ?_
 (refine aO rfl rfl ?_; intro b2; refine ⟨okF, ?_⟩)
 repeat (refine bD ?_)
 (refine aA rfl (aRG hx) rfl rfl ?_; rintro _ _ _ ⟨rfl, rfl⟩; refine ⟨okF, ?_⟩; refine bL (List.Mem.head _) (fun q3 c3 e__ hc3 hz3 => ?_); subst e__)
 unfold iv
 repeat (refine bD ?_)
 refine bN (cs := [.bool (B (x < 0)), .slice q3 (gr x.natAbs).length c3]) (.inl rfl) rfl rfl aB rfl _ _ aG aD ⟨rfl, rfl⟩
theorem vU {u : Value} {z : Int} {k : Nat} (hk : k ≤ 1000000000000) (hu : iK u z k ∈ I0) :
  CD Tryz.prog 145 [u] X w0 M0 I0 (fun v M I => M0 = M ∧ I0 = I ∧ v = .bool true) := by
 refine CD.post (K := fun v M I => M0 = M ∧ (∃ q, aX q (recs eG (gr z.natAbs)) :: I0 = I) ∧ v = .bool true) (dX hu (fun q c e hc hz => ?_)) (fun v M I w h hw => ?_)
 case refine_2 =>
  obtain ⟨e1, ⟨q, e2⟩, e3⟩ := h
  subst e1; subst e2
  exact ⟨_, _, ⟨rfl, rfl, e3⟩, hw.inc (Inc.wk Inc.refl)⟩
 subst e
 have hl := gV hz hk
 refine (qC (neg := B (z < 0)) (gs := gr z.natAbs) (by omega) (List.Mem.head _)).mono (fun v M I h => ⟨h.1, ⟨q, h.2.1⟩, ?_⟩)
 rw [h.2.2]
 exact congrArg Value.bool (bO (xD z))
theorem aFZ {e : RE} {k : Nat} (hk : k ≤ 100000000000) (he : Hv I0 (iI e k)) :
  CD Tryz.prog 86 [rv e] X w0 M0 I0 (fun v M I => M0 = M ∧ I0 = I ∧ v = .bool true) := by
 refine CD.post (K := fun v M I => M0 = M ∧ iK (vI e.p1 e.c1 e.q.num) e.q.num k :: iK (vI e.p2 e.c2 e.q.den) e.q.den k :: I0 = I ∧ v = .bool true) (aAD he ?_) (fun v M I w h hw => ?_)
 case refine_2 =>
  obtain ⟨e1, e2, e3⟩ := h
  subst e1; subst e2
  exact ⟨_, _, ⟨rfl, rfl, e3⟩, hw.inc (Inc.wk (Inc.wk Inc.refl))⟩
 have hV1 := fun M0 I0 h => vU (X := X) (w0 := w0) (M0 := M0) (I0 := I0) (u := vI e.p1 e.c1 e.q.num) (z := e.q.num) (k := k) (by omega) h
 have hV2 := fun M0 I0 h => vU (X := X) (w0 := w0) (M0 := M0) (I0 := I0) (u := vI e.p2 e.c2 e.q.den) (z := e.q.den) (k := k) (by omega) h
 have hS := fun M0 I0 => vC (X := X) (w0 := w0) (M0 := M0) (I0 := I0) (u := vI e.p2 e.c2 e.q.den) (z := e.q.den) (k := k) (by omega)
 have hs : ((e.q.den : Int)).sign = 1 := Int.sign_eq_one_of_pos (by have := e.q.den_nz; omega)
 rw [hs] at hS
 have hG := fun M0 I0 => aIB (X := X) (w0 := w0) (M0 := M0) (I0 := I0) (u := vI e.p1 e.c1 e.q.num) (v := vI e.p2 e.c2 e.q.den) (y := e.q.num) (z := e.q.den) (k0 := k) (m := k) (by omega) (by omega)
 rw [aHL] at hG
 have hC := fun u v M0 I0 => xL (X := X) (w0 := w0) (M0 := M0) (I0 := I0) (u := u) (v := v) (y := 1) (z := 1) (k := k + k) (m := 63) (by omega) (by omega)
 have hc : fD 1 1 = 0 := by decide
 rw [hc] at hC
 refine bF Tryz.func86 rfl Tryz.ntmps86 rfl ?_
 refine aL ?_
 refine aI ?_
 (refine aZ rfl rfl rfl ?_; intro b; refine ⟨okF, ?_⟩)
 repeat (refine bD ?_)
 (refine aA rfl (hV1 _ _ aB) rfl rfl ?_; rintro _ _ _ ⟨rfl, rfl, rfl⟩; refine ⟨okF, ?_⟩)
 repeat (refine bD ?_)
 (refine aA rfl (hV2 _ _ aB) rfl rfl ?_; rintro _ _ _ ⟨rfl, rfl, rfl⟩; refine ⟨okF, ?_⟩)
 repeat (refine bD ?_)
 (refine aA rfl (hS _ _ aB) rfl rfl ?_; rintro _ _ _ ⟨rfl, rfl, rfl⟩; refine ⟨okF, ?_⟩)
 repeat (refine bD ?_)
 (refine aA rfl (hG _ _ aB aB) rfl rfl ?_; rintro _ _ _ ⟨rfl, rfl⟩; refine ⟨okF, ?_⟩)
 repeat (refine bD ?_)
 (refine aA rfl (tF (x := 1) (by decide)) rfl rfl ?_; rintro _ _ _ ⟨rfl, rfl⟩; refine ⟨okF, ?_⟩)
 (refine aA rfl (hC _ _ _ _ aB aB) rfl rfl ?_; rintro _ _ _ ⟨rfl, rfl, rfl⟩; refine ⟨okF, ?_⟩)
 repeat (refine bD ?_)
 refine aH (by first | exact .inl rfl | exact .inr rfl) rfl rfl _ _ aG aD (⟨rfl, rfl, congrArg Value.bool (bO (by decide))⟩)
theorem aGS {e : RE} {k : Nat} (hk : k ≤ 100000000000) (he : Hv I0 (iI e k)) :
  CD Tryz.prog 119 [rv e] X w0 M0 I0 (fun v M I => M0 = M ∧ I0 = I ∧ v = rv e) := by
 refine bF Tryz.func119 rfl Tryz.ntmps119 rfl ?_
 refine aL ?_
 refine aI ?_
 (refine aZ rfl rfl rfl ?_; intro b; refine ⟨okF, ?_⟩)
 (refine aO rfl rfl ?_; intro b2; refine ⟨okF, ?_⟩)
 repeat (refine bD ?_)
 (refine aA rfl (aFZ hk he) rfl rfl ?_; rintro _ _ _ ⟨rfl, rfl, rfl⟩; refine ⟨okF, ?_⟩)
 repeat (refine bD ?_)
 refine bN (cs := eR e) (.inl rfl) rfl rfl aB rfl M0 I0 aG aD ⟨rfl, rfl, rfl⟩
theorem zZ {x : Int} (hx : -9223372036854775808 ≤ x ∧ x ≤ 9223372036854775807) {k : Nat} (hk : x.natAbs ≤ 2 ^ k) :
  CD Tryz.prog 55 [.int .i64 x] X w0 M0 I0 (RQ (x : Rat) k M0 I0) := by
 have hn : ((x : Rat)).num = x := Rat.num_intCast x
 have hd : (((x : Rat)).den : Int) = 1 := by rw [Rat.den_intCast]; rfl
 have h1 : (1 : Int).natAbs ≤ 2 ^ k := Nat.one_le_two_pow
 obtain ⟨q, hq⟩ : ∃ q : Rat, q = (x : Rat) := ⟨_, rfl⟩
 rw [← hq] at hn hd ⊢
 refine bF Tryz.func55 rfl Tryz.ntmps55 rfl ?_
 refine aL ?_
 refine aI ?_
 (refine aO rfl rfl ?_; intro b2; refine ⟨okF, ?_⟩)
 repeat (refine bD ?_)
 (refine aA rfl (tF hx) rfl rfl ?_; rintro _ _ _ ⟨rfl, rfl⟩; refine ⟨okF, ?_⟩; refine bL (List.Mem.head _) (fun q3 c3 e__ hc3 hz3 => ?_); subst e__)
 unfold iv
 refine tO (k2 := k) (z := x) (List.Mem.tail _ (List.Mem.head _)) hk ?_
 (refine aA rfl (tF (x := 1) (by decide)) rfl rfl ?_; rintro _ _ _ ⟨rfl, rfl⟩; refine ⟨okF, ?_⟩; refine bL (List.Mem.head _) (fun q4 c4 e__ hc4 hz4 => ?_); subst e__)
 unfold iv
 refine tO (k2 := k) (z := 1) (List.Mem.tail _ (List.Mem.head _)) h1 ?_
 rw [← hn, ← hd]
 (refine aF rfl (fun _ => eT (pvs := ([vI q3 c3 q.num, vI q4 c4 q.den]).zipIdx.map (fun p => (p.2, p.1))) (cells := eR ⟨q, q3, c3, q4, c4⟩) rfl rfl) rfl rfl ?_)
 repeat (refine bD ?_)
 refine nZ (q := q) (k := k) (p1 := q3) (c1 := c3) (p2 := q4) (c2 := c4) aB aB (Nat.le_refl _) (Nat.le_refl _) ?_
 refine bN (cs := eR ⟨q, q3, c3, q4, c4⟩) (.inl rfl) rfl rfl aB rfl M0 (iI ⟨q, q3, c3, q4, c4⟩ k :: I0) aG aD ⟨rfl, ⟨q, q3, c3, q4, c4⟩, rfl, rfl, rfl⟩
theorem aKE {e : RE} {k : Nat} (hk : k ≤ 100000000000) (he : Hv I0 (iI e k)) :
  CD Tryz.prog 61 [rv e] X w0 M0 I0 (fun v M I => M0 = M ∧ I0 = I ∧ v = .int .i64 e.q.num.sign) := by
 refine bF Tryz.func61 rfl Tryz.ntmps61 rfl ?_
 refine aL ?_
 refine aI ?_
 (refine aZ rfl rfl rfl ?_; intro b; refine ⟨okF, ?_⟩)
 repeat (refine bD ?_)
 (refine aA rfl (aGS hk he) rfl rfl ?_; rintro _ _ _ ⟨rfl, rfl, rfl⟩; refine ⟨okF, ?_⟩)
 refine aF rfl (fun _ => bG rfl) rfl rfl ?_
 refine kE (e := e) (k := k) he ?_
 (refine aA rfl (vC (z := e.q.num) (k := k) (by omega) aB) rfl rfl ?_; rintro _ _ _ ⟨rfl, rfl, rfl⟩; refine ⟨okF, ?_⟩)
 repeat (refine bD ?_)
 refine aH (by first | exact .inl rfl | exact .inr rfl) rfl rfl _ _ aG aD (⟨rfl, rfl, rfl⟩)
end
end Go.Proofs.YtgeagiikkeiioaaGreat
namespace Go.Proofs.YtgeagiikkeiioaaGreat
open Go Go.Fx
section
variable {X : List Nat} {w0 : World} {M0 : List Ent} {I0 : List bA}
end
end Go.Proofs.YtgeagiikkeiioaaGreat

/- fiducialref01: parts fiducialref01: the numbers: Valid, Value, Neg, Sign, Add, Sub, Mul, Compare fiducialref01: Add, Sub, Mul, Of, Compare -/
import Derived.Test.YtmmmfphealhapaaGreatZrar
import Derived.Test.YtmmmfphealhapaaGreatZral
import Derived.Test.YtmmmfphealhapaaGreatZrao
import Derived.Test.YtmmmfphealhapaaGreatZran
import Derived.Test.YtmmmfphealhapaaGreatZrap
set_option linter.unusedSimpArgs false
set_option linter.unusedVariables false
set_option maxRecDepth 100000
set_option maxHeartbeats 4000000
namespace Go.Proofs.YtmmmfphealhapaaGreat
open Go Go.Fx
theorem aFW {a' qs : List Int} {j R R1 R2 g Bn : Nat} (hj : j < a'.length) (hjq : j < qs.length) (hv : val (a'.drop (j + 1)) = (Bn : Int) * val (qs.drop (j + 1)) + R) {d : Nat} (hd : gt a' (j : Int) = (d : Int)) (h1 : R1 = R * 1000000000 + d) (h2 : R1 = g * Bn + R2) :
  val (a'.drop j) = (Bn : Int) * val ((st qs (j : Int) (g : Int)).drop j) + R2 := by
 rw [oF, qG a' j hj, drop_set qs j _ hjq, ← tH, hd, hv]
 simp only [val]
 have h3 : ((g * Bn + R2 : Nat) : Int) = ((R * 1000000000 + d : Nat) : Int) := by rw [← h2, h1]
 simp only [Int.natCast_add, Int.natCast_mul] at h3
 grind
theorem aIE {a' qs : List Int} {m n f R : Nat} (hf : 0 < f) (hn : 0 < n) (va : val a' = ((m * f : Nat) : Int)) (hv : val a' = ((n * f : Nat) : Int) * val qs + R) (hR : R < n * f) (hq : Dig qs) : val qs = ((m / n : Nat) : Int) ∧ R = (m % n) * f := by
 obtain ⟨Q, hQ⟩ : ∃ Q : Nat, val qs = (Q : Int) := ⟨(val qs).toNat, by have := bO hq; omega⟩
 rw [hQ, va] at hv
 have e : m * f = n * f * Q + R := by exact_mod_cast hv
 have e1 : m * f / (n * f) = Q := by rw [e, Nat.mul_add_div (by exact Nat.mul_pos hn hf), Nat.div_eq_of_lt hR, Nat.add_zero]
 have e2 : m * f % (n * f) = R := by rw [e, Nat.mul_add_mod, Nat.mod_eq_of_lt hR]
 rw [Nat.mul_div_mul_right _ _ hf] at e1
 rw [Nat.mul_mod_mul_right] at e2
 exact ⟨by rw [hQ, e1], e2.symm⟩
section
variable {X : List Nat} {w0 : World} {M0 : List Ent} {I0 : List bA}
theorem aIS {p q : Option Addr} {m n cp cq : Nat} (hm : (gr m).length ≤ 50000000000) (hn1 : (gr n).length = 1) (hp : aX p (recs eG (gr m)) ∈ I0) (hq : aX q (recs eG (gr n)) ∈ I0) :
  CD Tryz.prog 245 [.slice p (gr m).length cp, .slice q (gr n).length cq] X w0 M0 I0 (QrP (m / n) (m % n) M0 I0) := by
 have hn0 : 0 < n := by
  rcases Nat.eq_zero_or_pos n with h | h
  ·rw [h, fH] at hn1; simp at hn1
  ·exact h
 have hnb : n < 1000000000 := by
  have := jW (bW n)
  rw [dC, hn1] at this
  omega
 have hgt : gt (gr n) 0 = (n : Int) := by rw [rX hn0 hnb]; rfl
 have hS := fun M0 I0 => aAX (X := X) (w0 := w0) (M0 := M0) (I0 := I0) (q := p) (n := m) (c := cp) (d := n) (by omega) ⟨hn0, hnb⟩
 have hr := Nat.mod_lt m hn0
 have hvr : val [((m % n : Nat) : Int)] = ((m % n : Nat) : Int) := by simp [val]
 have hdr : Dig [((m % n : Nat) : Int)] := by rw [Dig.cons]; exact ⟨by omega, Dig.nil⟩
 refine bI Tryz.func245 rfl Tryz.ntmps245 rfl ?_
 repeat (refine bE ?_)
 rw [hgt]
 repeat (refine bE ?_)
 (refine aA rfl (hS _ _ aB) rfl rfl ?_; rintro _ _ _ ⟨rfl, p1, c1, hc1, rfl, rfl⟩; refine ⟨okF, ?_⟩)
 repeat (refine bE ?_)
 (refine dM (cs := recs eG [((m % n : Nat) : Int)]) ([.int .u32 ((m % n : Nat) : Int)]) rfl rfl (by intro v hv; repeat (first | exact absurd hv (List.not_mem_nil) | (rcases List.mem_cons.1 hv with rfl | hv; · rfl))) (by omega) rfl rfl rfl ?_; intro b1; refine ⟨okF, ?_⟩)
 refine aO tL ?_
 (refine aA rfl (lY (l := [((m % n : Nat) : Int)]) (by simp) (Nat.le_refl 1) (.inl (Ok.mk _ _)) hdr hvr aB) rfl rfl ?_; rintro _ _ _ ⟨rfl, p2, c2, rfl, hc2, rfl⟩; refine ⟨okF, ?_⟩)
 repeat (refine bE ?_)
 refine iL [4, 5] (by first | exact .inl rfl | exact .inr rfl) rfl rfl rfl _ _ aG aF (⟨rfl, p1, c1, p2, c2, hc1, hc2, rfl, rfl⟩)
theorem aJB {p q : Option Addr} {m n cp cq : Nat} (hm : (gr m).length ≤ 50000000000) (hn : (gr n).length ≤ 50000000000) (hn1 : ¬ (gr n).length = 1) (hlt : m < n) (hcp : oO p m cp) (hp : aX p (recs eG (gr m)) ∈ I0) (hq : aX q (recs eG (gr n)) ∈ I0) :
  CD Tryz.prog 245 [.slice p (gr m).length cp, .slice q (gr n).length cq] X w0 M0 I0 (QrP (m / n) (m % n) M0 I0) := by
 have e1 : m / n = 0 := Nat.div_eq_of_lt hlt
 have e2 : m % n = m := Nat.mod_eq_of_lt hlt
 rw [e1, e2]
 unfold QrP
 simp only [fH]
 have hC := fun M0 I0 => vJ (X := X) (w0 := w0) (M0 := M0) (I0 := I0) (p := p) (q := q) (m := m) (n := n) (cp := cp) (cq := cq) (by omega) (by omega)
 rw [vT (by omega)] at hC
 refine bI Tryz.func245 rfl Tryz.ntmps245 rfl ?_
 repeat (refine bE ?_)
 (refine aA rfl (hC _ _ aB aB) rfl rfl ?_; rintro _ _ _ ⟨rfl, rfl, rfl⟩; refine ⟨okF, ?_⟩)
 repeat (refine bE ?_)
 (refine dM (cs := recs eG []) ([]) rfl rfl (by intro v hv; repeat (first | exact absurd hv (List.not_mem_nil) | (rcases List.mem_cons.1 hv with rfl | hv; · rfl))) (by omega) rfl rfl rfl ?_; intro b1; refine ⟨okF, ?_⟩)
 refine aO tL ?_
 repeat (refine bE ?_)
 refine iL [4, 5] (by first | exact .inl rfl | exact .inr rfl) rfl rfl rfl _ _ aG aF (⟨rfl, some ⟨b1, 0, none⟩, 0, p, cp, ⟨by rw [fH]; simp, .inl (Ok.mk _ _)⟩, hcp, rfl, rfl⟩)
theorem aIZ {p q : Option Addr} {m n cp cq t : Nat} (hm : (gr m).length ≤ 50000000000) (ht : (gr n).length = t + 1) (ht1 : ¬ (gr n).length = 1) (hle : ¬ m < n) (hp : aX p (recs eG (gr m)) ∈ I0) (hq : aX q (recs eG (gr n)) ∈ I0) :
  CD Tryz.prog 245 [.slice p (gr m).length cp, .slice q (gr n).length cq] X w0 M0 I0 (QrP (m / n) (m % n) M0 I0) := by
 have hn0 : 0 < n := by
  rcases Nat.eq_zero_or_pos n with h | h
  ·rw [h, fH] at ht; simp at ht
  ·exact h
 have hlmn : (gr n).length ≤ (gr m).length := gG (by omega)
 obtain ⟨bt, hbt, hbt1, hbt2⟩ := aJZ (n := n) (by omega)
 obtain ⟨f, hf1, hf2, ef⟩ := aCX (bt := bt) ⟨hbt1, hbt2⟩
 have hf3 : f * (bt + 1) ≤ 1000000000 := by
  have e : f = 1000000000 / (bt + 1) := by
   rw [Int.tdiv_eq_ediv_of_nonneg (by decide)] at ef
   have : ((1000000000 / (bt + 1) : Nat) : Int) = (f : Int) := by rw [← ef, Int.natCast_ediv]; rfl
   omega
  rw [e]; exact Nat.div_mul_le_self _ _
 have hlb := aIW (n := n) (by omega) hbt hf1 hf3
 have hla := qM (m := m) hf1 hf2
 have hlab : (gr (n * f)).length ≤ (gr (m * f)).length := gG (Nat.mul_le_mul_right _ (by omega))
 have hC := fun M0 I0 => vJ (X := X) (w0 := w0) (M0 := M0) (I0 := I0) (p := p) (q := q) (m := m) (n := n) (cp := cp) (cq := cq) (by omega) (by omega)
 have hcv := vX (x := (m : Int)) (y := (n : Int)) (by omega)
 generalize fQ (m : Int) (n : Int) = cv at *
 have hS1 := fun M0 I0 => uG (X := X) (w0 := w0) (M0 := M0) (I0 := I0) (p := p) (m := m) (d := f) (cp := cp) (by omega) hf2
 have hS2 := fun M0 I0 => uG (X := X) (w0 := w0) (M0 := M0) (I0 := I0) (p := q) (m := n) (d := f) (cp := cq) (by omega) hf2
 refine bI Tryz.func245 rfl Tryz.ntmps245 rfl ?_
 repeat (refine bE ?_)
 (refine aA rfl (hC _ _ aB aB) rfl rfl ?_; rintro _ _ _ ⟨rfl, rfl, rfl⟩; refine ⟨okF, ?_⟩)
 repeat (refine bE ?_)
 rw [hbt]
 repeat (refine bE ?_)
 rw [ef]
 repeat (refine bE ?_)
 (refine aA rfl (hS1 _ _ aB) rfl rfl ?_; rintro _ _ _ ⟨rfl, pa, ca, rfl, hca, rfl⟩; refine ⟨okF, ?_⟩)
 repeat (refine bE ?_)
 (refine aA rfl (hS2 _ _ aB) rfl rfl ?_; rintro _ _ _ ⟨rfl, pb, cb, rfl, hcb, rfl⟩; refine ⟨okF, ?_⟩)
 repeat (refine bE ?_)
 rw [ht] at hlb hlmn
 clear hS1 hS2 hC hp hq ef hf3 hbt
 have vA := dC (m * f)
 have dA := bW (m * f)
 have hla3 : (gr (m * f)).length ≤ 50000000001 := by omega
 clear hla
 have hmf0 : 0 < n * f := Nat.mul_pos hn0 hf1
 obtain ⟨An, hAn⟩ : ∃ A, m * f = A := ⟨_, rfl⟩
 obtain ⟨Bn, hBn⟩ : ∃ A, n * f = A := ⟨_, rfl⟩
 rw [hAn] at vA dA hca hlab hla3 ⊢
 rw [hBn] at hcb hlb hlab hmf0 ⊢
 obtain ⟨hca1, hca2⟩ := hca
 have hokA : Ok pa := hca2.resolve_right (fun h => by omega)
 obtain ⟨La, hLa⟩ : ∃ L, (gr An).length = L := ⟨_, rfl⟩
 obtain ⟨A', hA'⟩ : ∃ A, gr An = A := ⟨_, rfl⟩
 rw [ht, hLa]
 rw [hLa] at hlab hla3 hca1
 rw [hlb] at hlab
 rw [hA'] at vA dA hLa ⊢
 have hdl : (A'.drop (La - t)).length = t := by rw [List.length_drop]; omega
 have hd0 := dA.drop (La - t)
 obtain ⟨R0, hR0⟩ : ∃ R : Nat, val (A'.drop (La - t)) = (R : Int) := ⟨(val (A'.drop (La - t))).toNat, by have := bO hd0; omega⟩
 have hR0l : R0 < Bn := by
  have h1 := jW hd0
  rw [hdl, hR0] at h1
  have h2 := xY (rT Bn) (by omega)
  rw [hlb, dC, Nat.add_sub_cancel] at h2
  omega
 refine aNN (a := pa) (ms := A') ca (La - t) La aB (by omega) ?_
 rw [List.take_of_length_le (show A'.length ≤ La by omega)]
 refine aD rfl (fun _ => zY (e := 121) (sz := 1) (La - t) La t rfl (.inr ⟨_, _, _, rfl, rfl, by omega⟩) (.inl ⟨rfl, rfl⟩) (by omega) (by omega) (by omega)) rfl rfl ?_
 have hM := fun M0 I0 => lY (X := X) (w0 := w0) (M0 := M0) (I0 := I0) (q := zG pa ca (La - t) 1) (l := A'.drop (La - t)) (c := ca - (La - t)) (by omega) (by omega) (.inl (aQI hokA)) hd0 hR0
 rw [hdl] at hM
 (refine aA rfl (hM _ _ aB) rfl rfl ?_; rintro _ _ _ ⟨rfl, pr0, cr0, rfl, hcr0, rfl⟩; refine ⟨okF, ?_⟩)
 repeat (refine bE ?_)
 (refine mJ (La - t) rfl rfl (by omega) (by omega) (by omega) (by omega) (mG _ _) rfl rfl ?_; intro bq; refine ⟨okF, ?_⟩)
 repeat (refine bE ?_)
 obtain ⟨gB, hgB⟩ : ∃ L, gr Bn = L := ⟨_, rfl⟩
 have hz0 : (List.replicate (La - t) (0 : Int)).drop (La - t) = [] := List.drop_of_length_le (by simp)
 have hlgB : gB.length = t + 1 := by rw [← hgB]; exact hlb
 refine bG [0, 1, 6, 9, 11] rfl (fun k G M I => ∃ (i : Nat) (x : Int) (R : Nat) (qs : List Int) (pr : Option Addr) (cr : Nat), i ≤ La - t ∧ k = i ∧ x = (i : Int) - 1 ∧ qs.length = La - t ∧ Dig qs ∧ R < Bn ∧ oO pr R cr ∧ val (A'.drop i) = (Bn : Int) * val (qs.drop i) + R ∧ G = [(10, .slice pr (gr R).length cr), (12, .int .i64 x)] ∧ M = .blk bq (recs eG qs) 121 :: M0 ∧ I = aX pr (recs eG (gr R)) :: aX pb (recs eG (gr Bn)) :: aX pa (recs eG A') :: I0) (La - t) _ _ _ aS aG aF (⟨La - t, _, R0, _, pr0, cr0, by omega, rfl, by omega, by simp, Dig.zeros _, hR0l, hcr0, by rw [hR0, hz0]; simp [val], rfl, rfl, rfl⟩) ?_
 rintro k G M I ⟨i, x, R, qs, pr, cr, hi, rfl, hx, hql, hdq, hRl, hcr, hv, rfl, rfl, rfl⟩
 have hlR : (gr R).length ≤ t + 1 := by rw [← hlb]; exact gG (by omega)
 by_cases h0 : k = 0
 ·subst h0
  rw [List.drop_zero, List.drop_zero] at hv
  rw [← hBn] at hv hRl
  obtain ⟨hq1, hr1⟩ := aIE hf1 hn0 (by rw [vA, hAn]) hv hRl hdq
  have hS := fun M0 I0 => aAX (X := X) (w0 := w0) (M0 := M0) (I0 := I0) (q := pr) (n := R) (c := cr) (d := f) (by omega) ⟨hf1, hf2⟩
  have e1 : R / f = m % n := by rw [hr1, Nat.mul_div_cancel _ hf1]
  rw [e1] at hS
  have hM2 := fun M0 I0 => lY (X := X) (w0 := w0) (M0 := M0) (I0 := I0) (q := some ⟨bq, 0, none⟩) (c := La - t) (by omega) (by omega) (.inl (Ok.mk _ _)) hdq hq1
  rw [hql] at hM2
  repeat (refine bE ?_)
  (refine aA rfl (hS _ _ aB) rfl rfl ?_; rintro _ _ _ ⟨rfl, p2, c2, hc2, rfl, rfl⟩; refine ⟨okF, ?_⟩)
  repeat (refine bE ?_)
  refine aO (b := bq) tL ?_
  (refine aA rfl (hM2 _ _ aB) rfl rfl ?_; rintro _ _ _ ⟨rfl, p1, c1, rfl, hc1, rfl⟩; refine ⟨okF, ?_⟩)
  repeat (refine bE ?_)
  refine iL [4, 5] (by first | exact .inl rfl | exact .inr rfl) rfl rfl rfl _ _ aG aF (⟨rfl, p1, c1, p2, c2, hc1, hc2, rfl, rfl⟩)
 ·obtain ⟨j, rfl⟩ : ∃ j, k = j + 1 := ⟨k - 1, by omega⟩
  obtain rfl : x = (j : Int) := by omega
  have d1 := dA.gt j
  obtain ⟨d, hd⟩ : ∃ d : Nat, gt A' (j : Int) = (d : Int) := ⟨(gt A' (j : Int)).toNat, by omega⟩
  rw [hd] at d1
  have hSh := fun M0 I0 => aDO (X := X) (w0 := w0) (M0 := M0) (I0 := I0) (p := pr) (m := R) (d := d) (cp := cr) (by omega) (by omega) hcr
  obtain ⟨R1, hR1⟩ : ∃ R1, R1 = R * 1000000000 + d := ⟨_, rfl⟩
  rw [← hR1] at hSh
  have hR1l : R1 < Bn * 1000000000 := by
   have : (R + 1) * 1000000000 ≤ Bn * 1000000000 := Nat.mul_le_mul_right _ hRl
   omega
  obtain ⟨g, hg1, hg2, hg3⟩ := aEC hlb hR1l
  have q1 := xW (n := R1) (i := t + 1)
  have q2 := xW (n := R1) (i := t)
  have q3 := xW (n := Bn) (i := t)
  have hG1 := fun (pp : Option Addr) (cc : Nat) M0 I0 => nI (X := X) (w0 := w0) (M0 := M0) (I0 := I0) (q := pp) (l := gr R1) (n := (gr R1).length) (c := cc) (i := ((t + 1 : Nat) : Int)) rfl (by omega)
  have hG2 := fun (pp : Option Addr) (cc : Nat) M0 I0 => nI (X := X) (w0 := w0) (M0 := M0) (I0 := I0) (q := pp) (l := gr R1) (n := (gr R1).length) (c := cc) (i := (t : Int)) rfl (by omega)
  have hSc := fun M0 I0 => uG (X := X) (w0 := w0) (M0 := M0) (I0 := I0) (p := pb) (m := Bn) (d := g) (cp := cb) (by omega) hg3
  have hlR1 : (gr R1).length ≤ t + 2 := by
   have h1 := (qM (m := Bn) (f := 999999999) (by omega) (by omega)).2
   refine oD ?_
   have h2 := jW (bW Bn)
   rw [dC, hlb] at h2
   have h3 : (R1 : Int) < ((1000000000 ^ (t + 2) : Nat) : Int) := by
    rw [Int.natCast_pow, show t + 2 = (t + 1) + 1 from rfl, Int.pow_succ]
    have : ((R1 : Nat) : Int) < (Bn : Int) * 1000000000 := by omega
    have h5 : (Bn : Int) * 1000000000 ≤ 1000000000 ^ (t + 1) * 1000000000 := by omega
    exact Int.lt_of_lt_of_le this h5
   omega
  have hMi := fun (pp pp' : Option Addr) (cc cc' : Nat) M0 I0 => sZ (X := X) (w0 := w0) (M0 := M0) (I0 := I0) (p := pp) (q := pp') (m := R1) (n := Bn * g) (cp := cc) (cq := cc') (by omega) (by rw [Nat.mul_comm]; exact hg2)
  obtain ⟨Rg, hRg⟩ : ∃ x, x = R1 - Bn * g := ⟨_, rfl⟩
  rw [← hRg] at hMi
  have hRg2 : R1 = g * Bn + Rg := by rw [hRg, Nat.mul_comm Bn g]; omega
  have et : ((t + 1 : Nat) : Int) - 1 = (t : Int) := by omega
  have q4 : 0 ≤ gt (gr Bn) (((t + 1 : Nat) : Int) - 1) ∧ gt (gr Bn) (((t + 1 : Nat) : Int) - 1) < 1000000000 := by rw [et]; exact q3
  repeat (refine bE ?_)
  rw [hd]
  (refine aA rfl (hSh _ _ aB) rfl rfl ?_; rintro _ _ _ ⟨rfl, p3, c3, rfl, hc3, rfl⟩; refine ⟨okF, ?_⟩)
  repeat (refine bE ?_)
  (repeat refine aH ?_); refine gZ [0, 1, 4, 5, 6, 9, 10, 11, 12, 13, 14, 15, 2, 3, 7, 8, 16, 17] [1, 1, 1, 2, 1, 2, 2, 2, 2, 2, 2, 2, 0, 1, 0, 0, 0, 0] mixed (by kernel_rfl) ?_
  repeat (refine bE ?_)
  rw [et]
  (refine aA rfl (hG1 p3 c3 _ _ aB (bW R1)) rfl rfl ?_; rintro _ _ _ ⟨rfl, rfl, rfl⟩; refine ⟨okF, ?_⟩)
  repeat (refine bE ?_)
  (refine aA rfl (hG2 p3 c3 _ _ aB (bW R1)) rfl rfl ?_; rintro _ _ _ ⟨rfl, rfl, rfl⟩; refine ⟨okF, ?_⟩)
  repeat (refine bE ?_)
  rw [hg1]
  repeat (refine bE ?_)
  (refine aA rfl (hSc _ _ aB) rfl rfl ?_; rintro _ _ _ ⟨rfl, p4, c4, rfl, hc4, rfl⟩; refine ⟨okF, ?_⟩)
  (refine aA rfl (hMi p3 p4 c3 c4 _ _ aB aB) rfl rfl ?_; rintro _ _ _ ⟨rfl, p5, c5, rfl, hc5, rfl⟩; refine ⟨okF, ?_⟩)
  repeat (refine bE ?_)
  clear hSh hSc hMi hG1 hG2
  refine bG [0, 1, 6, 9, 11, 12] rfl (fun k G M I => ∃ (R2 g2 : Nat) (gi : Int) (p6 : Option Addr) (c6 : Nat), k = R2 ∧ R1 = g2 * Bn + R2 ∧ gi = g2 ∧ oO p6 R2 c6 ∧ G = [(10, .slice p6 (gr R2).length c6), (13, .int .u64 gi)] ∧ M = .blk bq (recs eG qs) 121 :: M0 ∧ I = aX p6 (recs eG (gr R2)) :: aX pb (recs eG (gr Bn)) :: aX pa (recs eG A') :: I0) (Rg) _ _ _ aS aG aF (⟨Rg, g, _, p5, c5, rfl, hRg2, rfl, hc5, rfl, rfl, rfl⟩) ?_
  rintro k G M I ⟨R2, g2, gi, p6, c6, rfl, hR2, hgi, hc6, rfl, rfl, rfl⟩
  have hg9 : g2 < 1000000000 := by
   have h1 : g2 * Bn < 1000000000 * Bn := by omega
   exact Nat.lt_of_mul_lt_mul_right h1
  have hl2 : (gr k).length ≤ t + 2 := Nat.le_trans (gG (by omega)) hlR1
  have hSz := fun M0 I0 => vJ (X := X) (w0 := w0) (M0 := M0) (I0 := I0) (p := p6) (q := pb) (m := k) (n := Bn) (cp := c6) (cq := cb) (by omega) (by omega)
  by_cases hlt : k < Bn
  ·rw [vT (by omega)] at hSz
   repeat (refine bE ?_)
   (refine aA rfl (hSz _ _ aB aB) rfl rfl ?_; rintro _ _ _ ⟨rfl, rfl, rfl⟩; refine ⟨okF, ?_⟩)
   repeat (refine bE ?_)
   refine aQ (j) _ _ _ (by first | omega | (simp only [List.length_append, List.length_cons, List.length_nil]; omega)) aS aG aF (⟨j, (j : Int) - 1, k, _, p6, c6, by omega, rfl, by omega, by rw [fG]; exact hql, by rw [oF]; exact hdq.set _ (by omega), hlt, hc6, by rw [hgi]; exact aFW (by omega) (by omega) hv hd hR1 hR2, rfl, rfl, rfl⟩)
  ·have hcv2 := vX (x := (k : Int)) (y := (Bn : Int)) (by omega)
   generalize fQ (k : Int) (Bn : Int) = cv2 at *
   have hMi2 := fun M0 I0 => sZ (X := X) (w0 := w0) (M0 := M0) (I0 := I0) (p := p6) (q := pb) (m := k) (n := Bn) (cp := c6) (cq := cb) (by omega) (by omega)
   obtain ⟨R4, hR4⟩ : ∃ x, x = k - Bn := ⟨_, rfl⟩
   rw [← hR4] at hMi2
   have hR3 : R1 = (g2 + 1) * Bn + R4 := by rw [Nat.add_mul]; omega
   repeat (refine bE ?_)
   (refine aA rfl (hSz _ _ aB aB) rfl rfl ?_; rintro _ _ _ ⟨rfl, rfl, rfl⟩; refine ⟨okF, ?_⟩)
   repeat (refine bE ?_)
   (refine aA rfl (hMi2 _ _ aB aB) rfl rfl ?_; rintro _ _ _ ⟨rfl, p7, c7, rfl, hc7, rfl⟩; refine ⟨okF, ?_⟩)
   repeat (refine bE ?_)
   refine aQ (R4) _ _ _ (by first | omega | (simp only [List.length_append, List.length_cons, List.length_nil]; omega)) aS aG aF (⟨R4, g2 + 1, gi + 1, p7, c7, rfl, hR3, by omega, hc7, rfl, rfl, rfl⟩)
theorem aEB {p q : Option Addr} {m n cp cq : Nat} (hm : (gr m).length ≤ 50000000000) (hn0 : (gr n).length ≤ 50000000000) (hn : 0 < n) (hcp : oO p m cp) (hp : aX p (recs eG (gr m)) ∈ I0) (hq : aX q (recs eG (gr n)) ∈ I0) :
  CD Tryz.prog 245 [.slice p (gr m).length cp, .slice q (gr n).length cq] X w0 M0 I0 (QrP (m / n) (m % n) M0 I0) := by
 have h1 : 0 < (gr n).length := List.length_pos_iff.2 (fun e => by have := mI.1 e; omega)
 by_cases hn1 : (gr n).length = 1
 ·exact aIS hm hn1 hp hq
 ·by_cases hlt : m < n
  ·exact aJB hm hn0 hn1 hlt hcp hp hq
  ·exact aIZ (t := (gr n).length - 1) hm (by omega) hn1 hlt hp hq
end
end Go.Proofs.YtmmmfphealhapaaGreat
namespace Go.Proofs.YtmmmfphealhapaaGreat
open Go Go.Fx
section
variable {X : List Nat} {w0 : World} {M0 : List Ent} {I0 : List bA}
theorem aAC {neg : Bool} {q : Option Addr} {gs : List Int} {c : Nat} (hn : (gs.length : Int) ≤ 9223372036854775807) (hq : aX q (recs eG gs) ∈ I0) :
  CD Tryz.prog 182 [.agg #[.bool neg, .slice q gs.length c]] X w0 M0 I0 (fun v M I => M0 = M ∧ I0 = I ∧ v = .bool (B (tJ neg gs))) := by
 refine bV Tryz.func182 rfl Tryz.ntmps182 rfl ?_
 refine aH ?_
 refine aI ?_
 (refine aK rfl rfl rfl ?_; intro b; refine ⟨okF, ?_⟩)
 repeat (refine bE ?_)
 refine bG [1, 3] rfl (fun k G M I => ∃ i : Nat, i ≤ gs.length ∧ k = gs.length - i ∧ (∀ j : Nat, j < i → gt gs (j : Int) < 1000000000) ∧ G = [(4, .int .i64 i)] ∧ M = .blk b [.bool neg, .slice q gs.length c] 42 :: M0 ∧ I0 = I) (gs.length) _ _ _ aS aG aF (⟨0, by omega, rfl, fun j hj => by omega, rfl, rfl, rfl⟩) ?_
 rintro k G M I ⟨i, hi, rfl, hs, rfl, rfl, rfl⟩
 by_cases hin : i < gs.length
 ·repeat' (first | refine bE ?_ | refine aV rfl (fun h => ?_) (fun h => ?_) | refine aW rfl rfl (fun h => ?_) (fun h => ?_) | fail)
  ·have h1 := h
   have hF : ¬ tJ neg gs := by
    unfold tJ
    rintro (⟨h2, _⟩ | ⟨_, _, h2⟩)
    ·rw [h2] at hin; simp at hin
    ·exact h2 ⟨gt gs (i : Int), (by rw [mZ hin]; exact List.getElem_mem hin), h1⟩
   rw [← dF hF]
   refine aN (by first | exact .inl rfl | exact .inr rfl) rfl rfl _ _ aG aF (⟨rfl, rfl, rfl⟩)
  ·refine aQ (gs.length - (i + 1)) _ _ _ (by first | omega | (simp only [List.length_append, List.length_cons, List.length_nil]; omega)) aS aG aF (⟨i + 1, by omega, rfl, fun j hj => ?_, rfl, rfl, rfl⟩)
   by_cases e : j = i
   ·subst e; omega
   ·exact hs j (by omega)
 ·obtain rfl : i = gs.length := by omega
  by_cases h0 : gs.length = 0
  ·have hg : gs = [] := List.eq_nil_of_length_eq_zero h0
   repeat (refine bE ?_)
   refine aN (by first | exact .inl rfl | exact .inr rfl) rfl rfl _ _ aG aF (⟨rfl, rfl, by rw [show (!neg) = B (tJ neg gs) by rw [qW, hg]; cases neg <;> simp [tJ]]⟩)
  ·have hgs : gs ≠ [] := fun e => h0 (by rw [e]; rfl)
   have hlast := xN (gs := gs) (by omega)
   repeat (refine bE ?_)
   refine aN (by first | exact .inl rfl | exact .inr rfl) rfl rfl _ _ aG aF (⟨rfl, rfl, congrArg Value.bool (lH ?_)⟩)
   unfold tJ Top
   rw [hlast]
   refine ⟨fun h => .inr ⟨hgs, h, ?_⟩, fun h => h.elim (fun h => absurd h.1 hgs) (fun h => h.2.1)⟩
   rintro ⟨x, hx, h9⟩
   obtain ⟨j, hj, rfl⟩ := List.mem_iff_getElem.1 hx
   have := hs j hj
   rw [mZ hj] at this
   omega
theorem qI {p : Prop} [Decidable p] {q : Option Addr} {l : List Int} {n c k : Nat} (h63 : l.length ≤ 1000000000000) (hc : l.length ≤ c) (hok : Ok q ∨ (l.length = 0 ∧ c = 0)) (hd : Dig l) (hv : val l = n) (hk : n ≤ 2 ^ k) (hl : aX q (recs eG l) ∈ I0) :
  CD Tryz.prog 228 [.bool (B p), .slice q l.length c] X w0 M0 I0 (fun v M I => M0 = M ∧ I = iC v (sg p n) k :: I0) :=
 CD.post (aAP h63 hc hok hd hv hl) (fun v M1 I1 w ⟨e1, q', c', e2, hc', e3⟩ hw => by
  subst e1; subst e2; subst e3
  have ha := aLA p n
  have hiv : iv q' c' (sg p n) = .agg #[.bool (B (p ∧ n ≠ 0)), .slice q' (gr n).length c'] := by
   unfold iv
   rw [ha]
   refine congrArg (fun x => Value.agg #[.bool x, .slice q' (gr n).length c']) (lH ?_)
   unfold sg
   by_cases hp : p
   ·rw [if_pos hp]; constructor
    ·intro h; exact ⟨hp, by omega⟩
    ·intro h; have := h.2; omega
   ·rw [if_neg hp]; constructor
    ·intro h; omega
    ·intro h; exact absurd h.1 hp
  refine ⟨_, _, ⟨rfl, rfl⟩, ?_⟩
  have h1 := aEW (q := q') (c := c') (z := sg p n) (k := k) hw (by rw [ha]; exact List.Mem.head _) (by rw [ha]; exact hc') (by rw [ha]; exact hk)
  rw [hiv] at h1
  exact h1.inc (Inc.cons (List.Mem.head _) (Inc.wk (Inc.wk Inc.refl))))
def VoP (z : Int) (M0 : List Ent) (I0 : List bA) (v : Value) (M : List Ent) (I : List bA) : Prop := M0 = M ∧ ∃ q c, v = .agg #[.bool (B (z < 0)), .slice q (gr z.natAbs).length c] ∧ oO q z.natAbs c ∧ I = aX q (recs eG (gr z.natAbs)) :: I0
theorem kH {q : Option Addr} {c k : Nat} {z : Int} (hz : z.natAbs ≤ 2 ^ k) (hk : k ≤ 1000000000000) (hc : oO q z.natAbs c) (hq : aX q (recs eG (gr z.natAbs)) ∈ I0) :
  CD Tryz.prog 214 [.agg #[.bool (B (z < 0)), .slice q (gr z.natAbs).length c]] X w0 M0 I0 (VoP z M0 I0) := by
 have hl := fK hz hk
 have hV := fun M0 I0 => aAC (X := X) (w0 := w0) (M0 := M0) (I0 := I0) (neg := B (z < 0)) (q := q) (gs := gr z.natAbs) (c := c) (by omega)
 rw [fA (aCA z)] at hV
 obtain ⟨hc1, hc2⟩ := hc
 refine bV Tryz.func214 rfl Tryz.ntmps214 rfl ?_
 refine aH ?_
 refine aI ?_
 (refine aK rfl rfl rfl ?_; intro b; refine ⟨okF, ?_⟩)
 (refine aC rfl rfl ?_; intro b2; refine ⟨okF, ?_⟩)
 repeat (refine bE ?_)
 (refine aA rfl (hV _ _ aB) rfl rfl ?_; rintro _ _ _ ⟨rfl, rfl, rfl⟩; refine ⟨okF, ?_⟩)
 repeat (refine bE ?_)
 (repeat refine aH ?_); refine bB (.blk b [.bool (B (z < 0)), .slice q (gr z.natAbs).length c] 42 :: M0) (I0) [0, 1, 3, 4, 2, 5, 6, 7] [2, 2, 2, 1, 0, 0, 0, 0] aG aF mixed (by kernel_rfl) ?_
 repeat (refine bE ?_)
 (refine dM (cs := recs eG []) ([]) rfl rfl (by intro v hv; repeat (first | exact absurd hv (List.not_mem_nil) | (rcases List.mem_cons.1 hv with rfl | hv; · rfl))) (by omega) rfl rfl rfl ?_; intro b1; refine ⟨okF, ?_⟩)
 refine qC (b := b1) (mm := 0) 1 lN rfl (by omega) ?_
 refine iK (xs := []) (ys := gr z.natAbs) 0 rfl rfl rfl (Src.imm aB hc2) (by decide) rfl (by simp; omega) (by simp; omega) rfl rfl ?_
 intro a2 c2
 refine ⟨okF, ?_⟩
 rw [List.nil_append]
 refine lU (fun w hw => And.intro (hw.rowLe (List.Mem.head _)) ((hw.rowS (List.Mem.head _)).2.imp id And.right)) (fun ho3 => ?_)
 refine fO tL ?_
 (refine aD rfl (fun _ => aZ (pvs := ([.bool (B (z < 0)), .slice a2 (gr z.natAbs).length c2]).zipIdx.map (fun p => (p.2, p.1))) (cells := [.bool (B (z < 0)), .slice a2 (gr z.natAbs).length c2]) rfl rfl) rfl rfl ?_)
 repeat (refine bE ?_)
 refine bC (cs := [.bool (B (z < 0)), .slice a2 (gr z.natAbs).length c2]) (.inl rfl) rfl rfl aB rfl M0 (aX a2 (recs eG (gr z.natAbs)) :: I0) aG aF ⟨rfl, a2, c2, rfl, ho3, rfl⟩
theorem vC {u : Value} {z : Int} {k : Nat} (hk : k ≤ 1000000000000) (hu : iC u z k ∈ I0) : CD Tryz.prog 148 [u] X w0 M0 I0 (fun v M I => M0 = M ∧ I0 = I ∧ v = .int .i64 z.sign) := by
 refine cB hu (fun q c e hc hz => ?_)
 subst e
 unfold iv
 have hnil : (gr z.natAbs).length = 0 ↔ z = 0 := by rw [List.length_eq_zero_iff, mI]; omega
 refine bV Tryz.func148 rfl Tryz.ntmps148 rfl ?_
 refine aH ?_
 refine aI ?_
 (refine aK rfl rfl rfl ?_; intro b; refine ⟨okF, ?_⟩)
 repeat (refine bE ?_)
 (refine aA rfl (kH hz hk hc aB) rfl rfl ?_; rintro _ _ _ ⟨rfl, q2, c2, rfl, hc2, rfl⟩; refine ⟨okF, ?_⟩)
 by_cases h0 : z = 0
 ·have := hnil.2 h0
  repeat (refine bE ?_)
  refine aN (by first | exact .inl rfl | exact .inr rfl) rfl rfl _ _ aG aF (⟨rfl, rfl, by rw [h0]; rfl⟩)
 ·have : ¬ (gr z.natAbs).length = 0 := fun h => h0 (hnil.1 h)
  repeat' (first | refine bE ?_ | refine aV rfl (fun h => ?_) (fun h => ?_) | refine aW rfl rfl (fun h => ?_) (fun h => ?_) | fail)
  ·refine aN (by first | exact .inl rfl | exact .inr rfl) rfl rfl _ _ aG aF (⟨rfl, rfl, by rw [Int.sign_eq_neg_one_of_neg (by assumption)]⟩)
  ·refine aN (by first | exact .inl rfl | exact .inr rfl) rfl rfl _ _ aG aF (⟨rfl, rfl, by rw [Int.sign_eq_one_of_pos (by omega)]⟩)
theorem aBV {u : Value} {z : Int} {k : Nat} (hk : k ≤ 1000000000000) (hu : iC u z k ∈ I0) : CD Tryz.prog 213 [u] X w0 M0 I0 (fun v M I => M0 = M ∧ I = iC v (-z) k :: I0) := by
 refine cB hu (fun q c e hc hz => ?_)
 subst e
 have hl := fK hz hk
 unfold iv
 have hM := fun q2 c2 (hc2 : oO q2 z.natAbs c2) M0 I0 => qI (X := X) (w0 := w0) (M0 := M0) (I0 := I0) (p := ¬ z < 0) (q := q2) (l := gr z.natAbs) (n := z.natAbs) (c := c2) (k := k) (by omega) hc2.1 hc2.2 (bW _) (dC _) hz
 rw [aES] at hM
 refine bV Tryz.func213 rfl Tryz.ntmps213 rfl ?_
 refine aH ?_
 refine aI ?_
 (refine aK rfl rfl rfl ?_; intro b; refine ⟨okF, ?_⟩)
 (refine aC rfl rfl ?_; intro b2; refine ⟨okF, ?_⟩)
 repeat (refine bE ?_)
 (refine aA rfl (kH hz hk hc aB) rfl rfl ?_; rintro _ _ _ ⟨rfl, q2, c2, rfl, hc2, rfl⟩; refine ⟨okF, ?_⟩)
 repeat (refine bE ?_)
 (refine aA rfl (hM q2 c2 hc2 _ _ aB) rfl rfl ?_; rintro _ _ _ ⟨rfl, rfl⟩; refine ⟨okF, ?_⟩; refine aU (List.Mem.head _) (fun q3 c3 e__ hc3 hz3 => ?_); subst e__)
 unfold iv
 repeat (refine bE ?_)
 refine bC (cs := [.bool (B (-z < 0)), .slice q3 (gr (-z).natAbs).length c3]) (.inl rfl) rfl rfl aB rfl _ _ aG aF ⟨rfl, rfl⟩
end
end Go.Proofs.YtmmmfphealhapaaGreat
namespace Go.Proofs.YtmmmfphealhapaaGreat
open Go Go.Fx
section
variable {X : List Nat} {w0 : World} {M0 : List Ent} {I0 : List bA}
theorem aGA {u v : Value} {y z : Int} {k m c : Nat} (hk : k ≤ 1000000000000) (hm : m ≤ 1000000000000) (hc0 : c ≤ 1000000000000) (hs : 2 ^ k + 2 ^ m ≤ 2 ^ c) (hu : iC u y k ∈ I0) (hv : iC v z m ∈ I0) : CD Tryz.prog 216 [u, v] X w0 M0 I0 (fun v M I => M0 = M ∧ I = iC v (y + z) c :: I0) := by
 refine cB hu (fun q cq e hc hy => ?_)
 subst e
 refine cB (List.Mem.tail _ hv) (fun q' cq' e hc' hz => ?_)
 subst e
 have hl := fK hy (by omega)
 have hl' := fK hz (by omega)
 have hyz : y.natAbs + z.natAbs ≤ 2 ^ c := Nat.le_trans (Nat.add_le_add hy hz) hs
 unfold iv
 have hP := fun p1 c1 p2 c2 M0 I0 => aKQ (X := X) (w0 := w0) (M0 := M0) (I0 := I0) (p := p1) (q := p2) (m := y.natAbs) (n := z.natAbs) (cp := c1) (cq := c2) (by omega) (by omega)
 have hC := fun p1 c1 p2 c2 M0 I0 => vJ (X := X) (w0 := w0) (M0 := M0) (I0 := I0) (p := p1) (q := p2) (m := y.natAbs) (n := z.natAbs) (cp := c1) (cq := c2) (by omega) (by omega)
 have hMi := fun (hle : z.natAbs ≤ y.natAbs) p1 c1 p2 c2 M0 I0 => sZ (X := X) (w0 := w0) (M0 := M0) (I0 := I0) (p := p1) (q := p2) (m := y.natAbs) (n := z.natAbs) (cp := c1) (cq := c2) (by omega) hle
 have hMi2 := fun (hle : y.natAbs ≤ z.natAbs) p1 c1 p2 c2 M0 I0 => sZ (X := X) (w0 := w0) (M0 := M0) (I0 := I0) (p := p1) (q := p2) (m := z.natAbs) (n := y.natAbs) (cp := c1) (cq := c2) (by omega) hle
 have hMd := fun (p : Prop) [Decidable p] (n : Nat) (q : Option Addr) (c2 : Nat) (h1 : oO q n c2) (h2 : n ≤ 2 ^ c) M0 I0 => qI (X := X) (w0 := w0) (M0 := M0) (I0 := I0) (p := p) (n := n) (q := q) (l := gr n) (c := c2) (k := c) (by have := fK h2 hc0; omega) h1.1 h1.2 (bW _) (dC _) h2
 refine bI Tryz.func216 rfl Tryz.ntmps216 rfl ?_
 refine aH ?_
 refine aI ?_
 (refine aK rfl rfl rfl ?_; intro b; refine ⟨okF, ?_⟩)
 (refine aK rfl rfl rfl ?_; intro b2; refine ⟨okF, ?_⟩)
 (refine aC rfl rfl ?_; intro b3; refine ⟨okF, ?_⟩)
 repeat (refine bE ?_)
 (repeat refine aH ?_); refine dG 2 [0, 2, 1, 3, 4, 5] [1, 2, 0, 0, 0, 0] mixed (by kernel_rfl) ?_
 repeat (refine bE ?_)
 (refine aA rfl (kH hy hk hc aB) rfl rfl ?_; rintro _ _ _ ⟨rfl, q3, c3, rfl, hc3, rfl⟩; refine ⟨okF, ?_⟩)
 repeat (refine bE ?_)
 (refine aA rfl (kH hz hm hc' aB) rfl rfl ?_; rintro _ _ _ ⟨rfl, q4, c4, rfl, hc4, rfl⟩; refine ⟨okF, ?_⟩)
 by_cases hpq : (y < 0 ↔ z < 0)
 ·have hM1 := fun q2 c2 (h : oO q2 (y.natAbs + z.natAbs) c2) M0 I0 => hMd (y < 0) (y.natAbs + z.natAbs) q2 c2 h hyz M0 I0
  rw [aHK hpq, nS, nS] at hM1
  repeat (refine bE ?_)
  (repeat refine aH ?_); refine bB (.blk b2 [.bool (B (z < 0)), .slice q4 (gr z.natAbs).length c4] 42 :: .blk b [.bool (B (y < 0)), .slice q3 (gr y.natAbs).length c3] 42 :: M0) (I0) [0, 1, 2, 3, 4, 5, 6, 7, 8] [2, 1, 2, 1, 2, 1, 0, 0, 0] aG aF mixed (by kernel_rfl) ?_
  repeat (refine bE ?_)
  (refine aA rfl (hP q3 c3 q4 c4 _ _ aB aB) rfl rfl ?_; rintro _ _ _ ⟨rfl, q5, c5, rfl, hc5, rfl⟩; refine ⟨okF, ?_⟩)
  (refine aA rfl (hM1 q5 c5 hc5 _ _ aB) rfl rfl ?_; rintro _ _ _ ⟨rfl, rfl⟩; refine ⟨okF, ?_⟩; refine aU (List.Mem.head _) (fun q6 c6 e__ hc6 hz6 => ?_); subst e__)
  unfold iv
  repeat (refine bE ?_)
  refine bC (cs := [.bool (B (y + z < 0)), .slice q6 (gr (y + z).natAbs).length c6]) (.inl rfl) rfl rfl aB rfl _ _ aG aF ⟨rfl, rfl⟩
 ·by_cases hge : z.natAbs ≤ y.natAbs
  ·have hM1 := fun q2 c2 (h : oO q2 (y.natAbs - z.natAbs) c2) M0 I0 => hMd (y < 0) (y.natAbs - z.natAbs) q2 c2 h (by omega) M0 I0
   rw [xJ hpq hge, nS, nS] at hM1
   have hcv := vX (x := (y.natAbs : Int)) (y := (z.natAbs : Int)) (by omega)
   generalize fQ (y.natAbs : Int) (z.natAbs : Int) = cv at *
   have hMi := hMi hge
   clear hl hl' hyz hMi2
   repeat (refine bE ?_)
   (refine aA rfl (hC q3 c3 q4 c4 _ _ aB aB) rfl rfl ?_; rintro _ _ _ ⟨rfl, rfl, rfl⟩; refine ⟨okF, ?_⟩)
   repeat (refine bE ?_)
   (repeat refine aH ?_); refine bB (.blk b2 [.bool (B (z < 0)), .slice q4 (gr z.natAbs).length c4] 42 :: .blk b [.bool (B (y < 0)), .slice q3 (gr y.natAbs).length c3] 42 :: M0) (I0) [0, 1, 2, 3, 4, 5, 6, 7, 8] [2, 1, 2, 1, 2, 1, 0, 0, 0] aG aF mixed (by kernel_rfl) ?_
   repeat (refine bE ?_)
   (refine aA rfl (hMi q3 c3 q4 c4 _ _ aB aB) rfl rfl ?_; rintro _ _ _ ⟨rfl, q5, c5, rfl, hc5, rfl⟩; refine ⟨okF, ?_⟩)
   (refine aA rfl (hM1 q5 c5 hc5 _ _ aB) rfl rfl ?_; rintro _ _ _ ⟨rfl, rfl⟩; refine ⟨okF, ?_⟩; refine aU (List.Mem.head _) (fun q6 c6 e__ hc6 hz6 => ?_); subst e__)
   unfold iv
   repeat (refine bE ?_)
   refine bC (cs := [.bool (B (y + z < 0)), .slice q6 (gr (y + z).natAbs).length c6]) (.inl rfl) rfl rfl aB rfl _ _ aG aF ⟨rfl, rfl⟩
  ·have hM1 := fun q2 c2 (h : oO q2 (z.natAbs - y.natAbs) c2) M0 I0 => hMd (z < 0) (z.natAbs - y.natAbs) q2 c2 h (by omega) M0 I0
   rw [xJ (fun h => hpq h.symm) (by omega), nS, nS, Int.add_comm] at hM1
   have hcv := vT (x := (y.natAbs : Int)) (y := (z.natAbs : Int)) (by omega)
   generalize fQ (y.natAbs : Int) (z.natAbs : Int) = cv at *
   subst hcv
   have hMi := hMi2 (by omega)
   clear hl hl' hyz hMi2
   repeat (refine bE ?_)
   (refine aA rfl (hC q3 c3 q4 c4 _ _ aB aB) rfl rfl ?_; rintro _ _ _ ⟨rfl, rfl, rfl⟩; refine ⟨okF, ?_⟩)
   repeat (refine bE ?_)
   (repeat refine aH ?_); refine bB (.blk b2 [.bool (B (z < 0)), .slice q4 (gr z.natAbs).length c4] 42 :: .blk b [.bool (B (y < 0)), .slice q3 (gr y.natAbs).length c3] 42 :: M0) (I0) [0, 1, 2, 3, 4, 5, 6, 7, 8] [2, 1, 2, 1, 2, 1, 0, 0, 0] aG aF mixed (by kernel_rfl) ?_
   repeat (refine bE ?_)
   (refine aA rfl (hMi q4 c4 q3 c3 _ _ aB aB) rfl rfl ?_; rintro _ _ _ ⟨rfl, q5, c5, rfl, hc5, rfl⟩; refine ⟨okF, ?_⟩)
   (refine aA rfl (hM1 q5 c5 hc5 _ _ aB) rfl rfl ?_; rintro _ _ _ ⟨rfl, rfl⟩; refine ⟨okF, ?_⟩; refine aU (List.Mem.head _) (fun q6 c6 e__ hc6 hz6 => ?_); subst e__)
   unfold iv
   repeat (refine bE ?_)
   refine bC (cs := [.bool (B (y + z < 0)), .slice q6 (gr (y + z).natAbs).length c6]) (.inl rfl) rfl rfl aB rfl _ _ aG aF ⟨rfl, rfl⟩
end
end Go.Proofs.YtmmmfphealhapaaGreat

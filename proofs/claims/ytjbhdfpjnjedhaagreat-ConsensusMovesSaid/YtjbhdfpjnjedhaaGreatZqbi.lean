/- consensus.fitted: the least-squares matrix. make with length 0 and a capacity; a row cut short; where a row lies. consensus: model, for the kinds other than homographies. -/
import Derived.Test.YtjbhdfpjnjedhaaGreatZqbh
import Derived.Test.YtjbhdfpjnjedhaaGreatZqau
import Derived.Test.YtjbhdfpjnjedhaaGreatZqae
import Derived.Test.YtjbhdfpjnjedhaaGreatZqag
set_option linter.unusedSimpArgs false
set_option linter.unusedVariables false
set_option maxRecDepth 100000
set_option maxHeartbeats 4000000
namespace Go.Proofs.YtjbhdfpjnjedhaaGreat
open Go Go.Fx
abbrev kN : Nat := 4224
abbrev kX : Nat := 103842564
theorem kN_eq : kb kN 6 = 17302869 := by decide
def aQA (o : Option Mt) (k : Nat) (M0 : List Ent) (I0 : List aT) (v : Value) (M : List Ent) (I : List aT) : Prop := M0 = M ∧ match o with
 | none => I0 = I ∧ ∃ u, v = .tuple #[u, .bool false]
 | some A => ∃ m : MX, v = .tuple #[mv m, .bool true] ∧ m.q = A ∧ m.dim 3 3 ∧ I = lT m k :: I0
theorem aXA (kd : Nat) : 2 ≤ kU kd ∧ kU kd ≤ 6 := by unfold kU; split; omega; split <;> omega
section
variable {X : List Nat} {w0 : World} {M0 M1 : List Ent} {I0 : List aT}
theorem aOE {kd : Nat} {q : Option Addr} {l : List Q4} {n c : Nat} (hk : kd ≤ 2) (hl : l.length = n) (hn : n ≤ 64) (hs : ∀ s ∈ l, s.near) (hq : aR q (recs kP l) ∈ I0) :
  CD Tryz.prog 85 [.int .i64 (kd : Int), .slice q n c] X w0 M0 I0 (aQA (mE kd l) kX M0 I0) := by
 have hDs := fun M0 I0 h => aNA (X := X) (w0 := w0) (M0 := M0) (I0 := I0) (q := q) (l := l) (n := n) (c := c) hk hl hn hs h
 have hW0 := fun M0 I0 => jQ (X := X) (w0 := w0) (M0 := M0) (I0 := I0) (x := 0) (by decide) (k := 0) (by decide)
 refine bL Tryz.func85 rfl Tryz.ntmps85 rfl ?_
 by_cases h0 : n = 0
 ·have hl0 : l = [] := List.length_eq_zero_iff.1 (by omega)
  have e : mE kd l = none := by unfold mE; rw [if_pos hl0]
  rw [e]
  repeat (refine aJ ?_)
  refine gL [4, 5] (by first | exact .inl rfl | exact .inr rfl) rfl rfl rfl _ _ aG aD (⟨rfl, rfl, _, rfl⟩)
 have hl0 : l ≠ [] := fun e => h0 (by rw [← hl, e]; rfl)
 obtain ⟨C, hC⟩ : ∃ C, kU kd = C := ⟨_, rfl⟩
 have hC6 := aXA kd
 rw [hC] at hC6
 have hDd := aEW (k := kd) (l := l)
 rw [hl, hC] at hDd
 repeat (refine aJ ?_)
 (refine aA rfl (hDs _ _ aB) rfl rfl ?_; rintro _ _ _ ⟨rfl, A, b, rfl, hA, hb, rfl⟩; refine ⟨okF, ?_⟩)
 have hAR : A.rows.length = 2 * n := by have := hDd.1; rw [← hA] at this; simpa [MX.q] using this
 have hAC : ∀ t : Nat, t < 2 * n → (gt A.rows (t : Int)).es.length = C := fun t ht => by
  have := hDd.2 t ht
  rw [← hA] at this
  have e : rowAt A.q t = (gt A.rows (t : Int)).q := by
   have hlt : t < A.rows.length := by omega
   rw [gtQ hlt]; simp [rowAt, MX.q, List.getD, hlt]
  rw [e] at this
  simpa [RL.q, qs] using this
 have hbl : b.es.length = 2 * n := by have := congrArg List.length hb; rw [aKH, hl] at this; simpa [RL.q, qs] using this
 have hat : ∀ t j : Nat, t < 2 * n → j < C → at2 A.q t j = (gt (gt A.rows (t : Int)).es (j : Int)).q := fun t j ht hj => aDW (m := A) (by omega) (by rw [hAC t ht]; exact hj)
 have hbt : ∀ t : Nat, t < 2 * n → b.q.getD t 0 = (gt b.es (t : Int)).q := fun t ht => oK (by omega)
 have hc0 : (gt A.rows 0).es.length = C := hAC 0 (by omega)
 refine iX (φ := aR A.p (recs eL A.rows)) (Hv.xsl aB) ?_
 refine iX (φ := aR b.p (recs eR b.es)) (Hv.lsl aB) ?_
 repeat (refine aJ ?_)
 rw [hc0]
 repeat (refine aJ ?_)
 (refine lL (C) rfl rfl (by omega) (by omega) (by omega) (by omega) (pY (enc := eH) (by decide) ⟨none, 0, 0⟩ C) rfl rfl ?_; intro bn; refine ⟨okF, ?_⟩)
 repeat (refine aJ ?_)
 (refine lL (C) rfl rfl (by omega) (by omega) (by omega) (by omega) (pY (enc := e4) (by decide) z4 C) rfl rfl ?_; intro br; refine ⟨okF, ?_⟩)
 repeat (refine aJ ?_)
 refine dV (φ := dL [] kN) Hv.nilR ?_
 refine dV (φ := kI [] kN) Hv.nilL ?_
 refine aCU (M' := .blk br (recs e4 (List.replicate C z4)) 50 :: .blk bn (recs eH (List.replicate C ⟨none, 0, 0⟩)) 53 :: M0) (I' := kI [] kN :: dL [] kN :: aR b.p (recs eR b.es) :: aR A.p (recs eL A.rows) :: nT b 16 :: lT A 16 :: I0) aG aD ?_
 refine aZ [0, 6, 7, 8, 9, 10, 39] rfl (fun k G M I => ∃ (i : Nat) (rows : List RL) (rs : List RE), i ≤ C ∧ k = C - i ∧ rows.length = i ∧ rows.map RL.q = (List.range i).map (fun a => (List.range C).map (fun j => sm (2 * n) (fun t => at2 A.q t a * at2 A.q t j))) ∧ (∀ r ∈ rows, r.es.length = C) ∧ rs.length = i ∧ qs rs = (List.range i).map (fun a => sm (2 * n) (fun t => at2 A.q t a * b.q.getD t 0)) ∧ G = [(40, .int .i64 i)] ∧ M = .blk br (recs e4 (rs.map t4 ++ List.replicate (C - i) z4)) 50 :: .blk bn (recs eH (rows.map hdL ++ List.replicate (C - i) ⟨none, 0, 0⟩)) 53 :: M0 ∧ I = kI rows kN :: dL rs kN :: aR b.p (recs eR b.es) :: aR A.p (recs eL A.rows) :: nT b 16 :: lT A 16 :: I0) (C) _ _ _ aL aG aD (⟨0, [], [], by omega, rfl, rfl, rfl, fun r hr => by simp at hr, rfl, rfl, rfl, rfl, rfl⟩) ?_
 rintro kk G M I ⟨i, rows, rs, hi, rfl, hrl, hrq, hrc, hsl, hsq, rfl, rfl, rfl⟩
 by_cases hiC : i < C
 ·have hz := sM (n := C - i) (z := (⟨none, 0, 0⟩ : HD)) (by omega)
  have hz3 := sM (n := C - i) (z := z4) (by omega)
  repeat (refine aJ ?_)
  (refine lL (C) rfl rfl (by omega) (by omega) (by omega) (by omega) (pY (enc := e4) (by decide) z4 C) rfl rfl ?_; intro bi; refine ⟨okF, ?_⟩)
  rw [hz, hz3]
  have hlh0 : ((rows.map hdL ++ (⟨none, 0, 0⟩ : HD) :: List.replicate (C - i - 1) ⟨none, 0, 0⟩).length : Int) = C := by simp; omega
  repeat (refine yXh ?_)
  refine jR rfl rfl rfl kH (StAt.r1 (⟨some ⟨bi, 0, none⟩, C, C⟩ : HD) (by omega) rfl) rfl rfl ⟨okF, ?_⟩
  rw [uM (by simp; omega)]
  obtain ⟨hs2, hhs⟩ : ∃ hs2, hs2 = rows.map hdL ++ (⟨some ⟨bi, 0, none⟩, C, C⟩ : HD) :: List.replicate (C - i - 1) ⟨none, 0, 0⟩ := ⟨_, rfl⟩
  rw [← hhs]
  have hgh : gt hs2 (i : Int) = ⟨some ⟨bi, 0, none⟩, C, C⟩ := by rw [hhs]; exact aBL (by simp; omega)
  have hlh : hs2.length = C := by rw [hhs]; simp; omega
  have hgp : (gt hs2 (i : Int)).p = some ⟨bi, 0, none⟩ := by rw [hgh]
  have hgn : (gt hs2 (i : Int)).n = C := by rw [hgh]
  have hgc : (gt hs2 (i : Int)).c = C := by rw [hgh]
  obtain ⟨rz, hrz⟩ : ∃ rz, rz = rs.map t4 ++ z4 :: List.replicate (C - i - 1) z4 := ⟨_, rfl⟩
  rw [← hrz]
  have hlrz : rz.length = C := by rw [hrz]; simp; omega
  repeat (refine aJ ?_)
  refine dV (φ := dL [] kN) Hv.nilR ?_
  refine aCU (M' := .blk bi (recs e4 (List.replicate C z4)) 50 :: .blk br (recs e4 rz) 50 :: .blk bn (recs eH hs2) 53 :: M0) (I' := dL [] kN :: kI rows kN :: dL rs kN :: aR b.p (recs eR b.es) :: aR A.p (recs eL A.rows) :: nT b 16 :: lT A 16 :: I0) aG aD ?_
  refine aZ [0, 6, 7, 8, 9, 10, 11, 39, 40, 48] rfl (fun k G M I => ∃ (j : Nat) (es : List RE), j ≤ C ∧ k = C - j ∧ es.length = j ∧ qs es = (List.range j).map (fun j => sm (2 * n) (fun t => at2 A.q t i * at2 A.q t j)) ∧ G = [(49, .int .i64 j)] ∧ M = .blk bi (recs e4 (es.map t4 ++ List.replicate (C - j) z4)) 50 :: .blk br (recs e4 rz) 50 :: .blk bn (recs eH hs2) 53 :: M0 ∧ I = dL es kN :: kI rows kN :: dL rs kN :: aR b.p (recs eR b.es) :: aR A.p (recs eL A.rows) :: nT b 16 :: lT A 16 :: I0) (C) _ _ _ aL aG aD (⟨0, [], by omega, rfl, rfl, rfl, rfl, rfl, rfl⟩) ?_
  rintro kk G M I ⟨j, es, hj, rfl, hel, heq, rfl, rfl, rfl⟩
  by_cases hjC : j < C
  ·have hz2 := sM (n := C - j) (z := z4) (by omega)
   rw [hz2]
   have hl2 : ((es.map t4 ++ z4 :: List.replicate (C - j - 1) z4).length : Int) = C := by simp; omega
   repeat (refine aJ ?_)
   (repeat refine aH ?_); refine cZ 1 [0, 1, 2, 3, 4, 5, 6, 7] [1, 1, 1, 1, 1, 0, 0, 0] mixed (by kernel_rfl) ?_
   repeat (refine aJ ?_)
   rw [hgp, hgn, hgc]
   repeat (refine aJ ?_)
   (refine aA rfl (hW0 _ _) rfl rfl ?_; rintro _ _ _ ⟨rfl, e, rfl, he, rfl⟩; refine ⟨okF, ?_⟩)
   repeat (refine yXh ?_)
   refine fD (vs := eR e) rfl rfl rfl (Ones.one e) kH (StAts.r (t4 e) (by omega) rfl) rfl rfl ⟨okF, ?_⟩
   rw [uM (by simp; omega)]
   repeat (refine aJ ?_)
   refine aCU (M' := .blk bi (recs e4 (es.map t4 ++ t4 e :: List.replicate (C - j - 1) z4)) 50 :: .blk br (recs e4 rz) 50 :: .blk bn (recs eH hs2) 53 :: M0) (I' := gQ e 0 :: dL es kN :: kI rows kN :: dL rs kN :: aR b.p (recs eR b.es) :: aR A.p (recs eL A.rows) :: nT b 16 :: lT A 16 :: I0) aG aD ?_
   refine aZ [0, 6, 7, 8, 9, 10, 11, 12, 39, 40, 48, 49, 59, 60] rfl (fun k G M I => ∃ (t : Nat) (e : RE), t ≤ 2 * n ∧ k = 2 * n - t ∧ e.q = sm t (fun r => at2 A.q r i * at2 A.q r j) ∧ G = [(61, .int .i64 t)] ∧ M = .blk bi (recs e4 (es.map t4 ++ t4 e :: List.replicate (C - j - 1) z4)) 50 :: .blk br (recs e4 rz) 50 :: .blk bn (recs eH hs2) 53 :: M0 ∧ I = gQ e (t * 33) :: dL es kN :: kI rows kN :: dL rs kN :: aR b.p (recs eR b.es) :: aR A.p (recs eL A.rows) :: nT b 16 :: lT A 16 :: I0) (2 * n) _ _ _ aL aG aD (⟨0, e, by omega, rfl, he, rfl, rfl, rfl⟩) ?_
   rintro kk G M I ⟨t, e, ht, rfl, he, rfl, rfl, rfl⟩
   have hl3 : ((es.map t4 ++ t4 e :: List.replicate (C - j - 1) z4).length : Int) = C := by simp; omega
   by_cases htn : t < 2 * n
   ·have hcl := hAC t htn
    have hM := fun M0 I0 h1 h2 => qX (X := X) (w0 := w0) (M0 := M0) (I0 := I0) (a := gt (gt A.rows (t : Int)).es (i : Int)) (b := gt (gt A.rows (t : Int)).es (j : Int)) (k := 16) (m := 16) (by omega) h1 h2
    have hP := fun f M0 I0 h1 h2 => tC (X := X) (w0 := w0) (M0 := M0) (I0 := I0) (a := e) (b := f) (k := t * 33) (m := 32) (by omega) h1 h2
    refine dV (φ := aR (gt A.rows (t : Int)).p (recs eR (gt A.rows (t : Int)).es)) (Hv.xrsl (m := A) (k := 16) aB (by omega)) ?_
    repeat (refine aJ ?_)
    (repeat refine aH ?_); refine cZ 2 [0, 1, 2, 3, 4, 5, 6, 7, 8, 9, 10, 11, 12, 13, 14, 15, 16, 17, 18, 19, 20, 21, 22, 23] [2, 2, 2, 2, 2, 2, 2, 2, 2, 2, 2, 1, 2, 2, 2, 1, 2, 2, 2, 1, 0, 0, 0, 0] mixed (by kernel_rfl) ?_
    repeat (refine aJ ?_)
    rw [hgp, hgn, hgc]
    repeat (refine aJ ?_)
    rw [aBL (by simp; omega)]
    (refine aA rfl (hM _ _ (Hv.xel (m := A) (k := 16) aB (by omega) (by omega)) (Hv.xel (m := A) (k := 16) aB (by omega) (by omega))) rfl rfl ?_; rintro _ _ _ ⟨rfl, f, rfl, hf, rfl⟩; refine ⟨okF, ?_⟩)
    (refine aA rfl (hP f _ _ (Hv.mem aB) (Hv.mem aB)) rfl rfl ?_; rintro _ _ _ ⟨rfl, e2, rfl, he2, rfl⟩; refine ⟨okF, ?_⟩)
    repeat (refine yXh ?_)
    refine fD (vs := eR e2) rfl rfl rfl (Ones.one e2) kH (StAts.r (t4 e2) (by omega) rfl) rfl rfl ⟨okF, ?_⟩
    rw [uM (by simp; omega)]
    repeat (refine aJ ?_)
    have e33 : t * 33 + 32 + 1 = (t + 1) * 33 := by omega
    rw [e33]
    refine aK (2 * n - (t + 1)) _ _ _ (by first | omega | (simp only [List.length_append, List.length_cons, List.length_nil]; omega)) aL aG aD (⟨t + 1, e2, by omega, rfl, by rw [he2, hf, he, ← hat t i htn hiC, ← hat t j htn hjC]; rfl, rfl, rfl, rfl⟩)
   ·obtain rfl : t = 2 * n := by omega
    repeat (refine aJ ?_)
    refine iI (φ := gQ e kN) (Hv.q (k := 2 * n * 33) aB (by show 2 * n * 33 ≤ 4224; omega)) ?_
    refine iI (φ := dL (es ++ [e]) kN) (Hv.snoc aB aB) ?_
    have e9 : es.map t4 ++ t4 e :: List.replicate (C - j - 1) z4 = (es ++ [e]).map t4 ++ List.replicate (C - (j + 1)) z4 := by simp [Nat.sub_sub]
    rw [e9]
    refine aK (C - (j + 1)) _ _ _ (by first | omega | (simp only [List.length_append, List.length_cons, List.length_nil]; omega)) aL aG aD (⟨j + 1, es ++ [e], by omega, rfl, by simp; omega, by rw [List.range_succ, List.map_append, ← heq]; show (es ++ [e]).map RE.q = _; rw [List.map_append]; show _ ++ [e.q] = _; rw [he]; rfl, rfl, rfl, rfl⟩)
  ·obtain rfl : j = C := by omega
   rw [Nat.sub_self, List.replicate_zero, List.append_nil, aFK]
   refine aKZ (k := kN) aB ?_
   rw [hel]
   have hl4 : ((rs.map t4 ++ z4 :: List.replicate (j - i - 1) z4).length : Int) = j := by simp; omega
   rw [hrz]
   repeat (refine aJ ?_)
   (refine aA rfl (hW0 _ _) rfl rfl ?_; rintro _ _ _ ⟨rfl, e, rfl, he, rfl⟩; refine ⟨okF, ?_⟩)
   repeat (refine yXh ?_)
   refine fD (vs := eR e) rfl rfl rfl (Ones.one e) kH (StAts.r (t4 e) (by omega) rfl) rfl rfl ⟨okF, ?_⟩
   rw [uM (by simp; omega)]
   repeat (refine aJ ?_)
   refine aCU (M' := .blk br (recs e4 (rs.map t4 ++ t4 e :: List.replicate (j - i - 1) z4)) 50 :: .blk bn (recs eH hs2) 53 :: M0) (I' := gQ e 0 :: nT ⟨some ⟨bi, 0, none⟩, j, es⟩ kN :: kI rows kN :: dL rs kN :: aR b.p (recs eR b.es) :: aR A.p (recs eL A.rows) :: nT b 16 :: lT A 16 :: I0) aG aD ?_
   refine aZ [0, 6, 7, 8, 9, 10, 11, 39, 40, 94, 95] rfl (fun k G M I => ∃ (t : Nat) (e : RE), t ≤ 2 * n ∧ k = 2 * n - t ∧ e.q = sm t (fun r => at2 A.q r i * b.q.getD r 0) ∧ G = [(96, .int .i64 t)] ∧ M = .blk br (recs e4 (rs.map t4 ++ t4 e :: List.replicate (j - i - 1) z4)) 50 :: .blk bn (recs eH hs2) 53 :: M0 ∧ I = gQ e (t * 33) :: nT ⟨some ⟨bi, 0, none⟩, j, es⟩ kN :: kI rows kN :: dL rs kN :: aR b.p (recs eR b.es) :: aR A.p (recs eL A.rows) :: nT b 16 :: lT A 16 :: I0) (2 * n) _ _ _ aL aG aD (⟨0, e, by omega, rfl, he, rfl, rfl, rfl⟩) ?_
   rintro kk G M I ⟨t, e, ht, rfl, he, rfl, rfl, rfl⟩
   have hl3 : ((rs.map t4 ++ t4 e :: List.replicate (j - i - 1) z4).length : Int) = j := by simp; omega
   by_cases htn : t < 2 * n
   ·have hcl := hAC t htn
    have hM := fun M0 I0 h1 h2 => qX (X := X) (w0 := w0) (M0 := M0) (I0 := I0) (a := gt (gt A.rows (t : Int)).es (i : Int)) (b := gt b.es (t : Int)) (k := 16) (m := 16) (by omega) h1 h2
    have hP := fun f M0 I0 h1 h2 => tC (X := X) (w0 := w0) (M0 := M0) (I0 := I0) (a := e) (b := f) (k := t * 33) (m := 32) (by omega) h1 h2
    refine dV (φ := aR (gt A.rows (t : Int)).p (recs eR (gt A.rows (t : Int)).es)) (Hv.xrsl (m := A) (k := 16) aB (by omega)) ?_
    repeat (refine aJ ?_)
    (repeat refine aH ?_); refine cZ 2 [0, 1, 2, 3, 4, 5, 6, 7, 8, 9, 10, 11, 12, 13, 14, 15, 16, 17] [2, 2, 2, 2, 2, 1, 2, 2, 2, 1, 2, 2, 2, 1, 0, 0, 0, 0] mixed (by kernel_rfl) ?_
    repeat (refine aJ ?_)
    rw [aBL (by simp; omega)]
    (refine aA rfl (hM _ _ (Hv.xel (m := A) (k := 16) aB (by omega) (by omega)) (Hv.lel (r := b) (k := 16) aB (by omega))) rfl rfl ?_; rintro _ _ _ ⟨rfl, f, rfl, hf, rfl⟩; refine ⟨okF, ?_⟩)
    (refine aA rfl (hP f _ _ (Hv.mem aB) (Hv.mem aB)) rfl rfl ?_; rintro _ _ _ ⟨rfl, e2, rfl, he2, rfl⟩; refine ⟨okF, ?_⟩)
    repeat (refine yXh ?_)
    refine fD (vs := eR e2) rfl rfl rfl (Ones.one e2) kH (StAts.r (t4 e2) (by omega) rfl) rfl rfl ⟨okF, ?_⟩
    rw [uM (by simp; omega)]
    repeat (refine aJ ?_)
    have e33 : t * 33 + 32 + 1 = (t + 1) * 33 := by omega
    rw [e33]
    refine aK (2 * n - (t + 1)) _ _ _ (by first | omega | (simp only [List.length_append, List.length_cons, List.length_nil]; omega)) aL aG aD (⟨t + 1, e2, by omega, rfl, by rw [he2, hf, he, ← hat t i htn hiC, ← hbt t htn]; rfl, rfl, rfl, rfl⟩)
   ·obtain rfl : t = 2 * n := by omega
    repeat (refine aJ ?_)
    refine iI (φ := gQ e kN) (Hv.q (k := 2 * n * 33) aB (by show 2 * n * 33 ≤ 4224; omega)) ?_
    refine iI (φ := dL (rs ++ [e]) kN) (Hv.snoc aB aB) ?_
    refine iI (φ := kI (rows ++ [(⟨some ⟨bi, 0, none⟩, j, es⟩ : RL)]) kN) (Hv.snocL aB aB) ?_
    have e9 : rs.map t4 ++ t4 e :: List.replicate (j - i - 1) z4 = (rs ++ [e]).map t4 ++ List.replicate (j - (i + 1)) z4 := by simp [Nat.sub_sub]
    have e8 : hs2 = (rows ++ [(⟨some ⟨bi, 0, none⟩, j, es⟩ : RL)]).map hdL ++ List.replicate (j - (i + 1)) ⟨none, 0, 0⟩ := by rw [hhs]; simp [hel, Nat.sub_sub]
    rw [e9, e8]
    refine aK (j - (i + 1)) _ _ _ (by first | omega | (simp only [List.length_append, List.length_cons, List.length_nil]; omega)) aL aG aD (⟨i + 1, rows ++ [(⟨some ⟨bi, 0, none⟩, j, es⟩ : RL)], rs ++ [e], by omega, rfl, by simp; omega, by rw [List.range_succ, List.map_append, List.map_append, ← hrq]; show _ ++ [qs es] = _; rw [heq]; rfl, fun r hr => by rcases List.mem_append.1 hr with h | h; exact hrc r h; rw [List.mem_singleton.1 h]; exact hel, by simp; omega, by rw [List.range_succ, List.map_append, ← hsq]; show (rs ++ [e]).map RE.q = _; rw [List.map_append]; show _ ++ [e.q] = _; rw [he]; rfl, rfl, rfl, rfl⟩)
 ·obtain rfl : i = C := by omega
  rw [Nat.sub_self, List.replicate_zero, List.append_nil, aFK, List.replicate_zero, List.append_nil, aPW]
  refine aKZ (k := kN) aB ?_
  rw [hsl]
  refine aLV (C := i) (k := kN) hrl (by omega) aB ?_
  obtain ⟨Nm, hNm⟩ : ∃ z : MX, z = ⟨some ⟨bn, 0, none⟩, i, rows⟩ := ⟨_, rfl⟩
  obtain ⟨Rv, hRv⟩ : ∃ z : RL, z = ⟨some ⟨br, 0, none⟩, i, rs⟩ := ⟨_, rfl⟩
  have dN : Nm.fit i i := by rw [hNm]; exact ⟨⟨hrl, hrc⟩, ⟨by omega, by omega⟩, by omega, by omega⟩
  have qN : Nm.q = nrN (2 * n) i (xE kd l) := by rw [hNm, ← hA]; exact hrq
  have lR : Rv.es.length = i := by rw [hRv]; exact hsl
  have qR : Rv.q = nrB (2 * n) i (xE kd l) (dsB kd l) := by rw [hRv, ← hA, ← hb]; exact hsq
  have kb6 : kb kN i ≤ 17302869 := by rw [← kN_eq]; exact zM kN hC6.2
  have hIv := fun M0 I0 h => aFL (X := X) (w0 := w0) (M0 := M0) (I0 := I0) (a := Nm) (n := i) (k0 := kN) (by omega) (by decide) dN h
  have eD : qI kd l = dt i (at2 Nm.q) := by unfold qI; rw [hC, hl, qN]
  have hmv : (Value.slice (some ⟨bn, 0, none⟩) i i) = mv Nm := by rw [hNm]; show _ = Value.slice (some ⟨bn, 0, none⟩) rows.length i; rw [hrl]
  have hlv : (Value.slice (some ⟨br, 0, none⟩) i i) = lv Rv := by rw [hRv]; show _ = Value.slice (some ⟨br, 0, none⟩) rs.length i; rw [hsl]
  rw [← hNm, ← hRv]
  by_cases hd : qI kd l = 0
  ·have e : mE kd l = none := by unfold mE; rw [if_neg hl0, if_pos hd]
   rw [e]
   rw [eD] at hd
   simp only [if_pos hd] at hIv
   repeat (refine aJ ?_)
   rw [hmv]
   (refine aA rfl (hIv _ _ aB) rfl rfl ?_; rintro _ _ _ ⟨rfl, rfl, rfl⟩; refine ⟨okF, ?_⟩)
   repeat (refine aJ ?_)
   refine kD (M' := M0) (I' := I0) aG aD ?_
   refine gL [4, 5] (by first | exact .inl rfl | exact .inr rfl) rfl rfl rfl _ _ aG aD (⟨rfl, rfl, _, rfl⟩)
  ·have hd' := hd
   rw [eD] at hd'
   simp only [if_neg hd'] at hIv
   repeat (refine aJ ?_)
   rw [hmv]
   (refine aA rfl (hIv _ _ aB) rfl rfl ?_; rintro _ _ _ ⟨rfl, Iv, rfl, hIq, hId, rfl⟩; refine ⟨okF, ?_⟩)
   have fI : Iv.fit i i := ⟨hId, ⟨by omega, by omega⟩, by omega, by omega⟩
   refine iX (φ := lT Iv 17302869) (Hv.xm (k := kb kN i) aB kb6) ?_
   have hAp := fun M0 I0 h1 h2 => aMQ (X := X) (w0 := w0) (M0 := M0) (I0 := I0) (a := Iv) (x := Rv) (R := i) (C := i) (k := 17302869) (m := kN) (by decide) (by decide) fI lR h1 h2
   repeat (refine aJ ?_)
   rw [hlv]
   (refine aA rfl (hAp _ _ aB aB) rfl rfl ?_; rintro _ _ _ ⟨rfl, xx, rfl, hxq, rfl⟩; refine ⟨okF, ?_⟩)
   have hxe : xx.q = qK kd l := by
    rw [hxq]
    unfold qK lsX
    rw [hC, hl, hIq, qN, qR]
   have lx : xx.es.length = kU kd := by have := congrArg List.length hxq; rw [hC]; simpa [RL.q, qs] using this
   refine iX (φ := nT xx kX) (Hv.lm (k := i * (17302869 + kN + 1)) aB (by
    have : i * (17302869 + kN + 1) ≤ 6 * (17302869 + kN + 1) := Nat.mul_le_mul_right _ hC6.2
    exact Nat.le_trans this (by decide))) ?_
   repeat (refine aJ ?_)
   (refine aA rfl (aOJ (kd := kd) (k := kX) (x := xx) hk (by decide) lx aB) rfl rfl ?_; rintro _ _ _ ⟨rfl, mm, rfl, hmq, hmd, rfl⟩; refine ⟨okF, ?_⟩)
   have fm : mm.fit 3 3 := ⟨hmd, ⟨by omega, by omega⟩, by omega, by omega⟩
   rw [hxe] at hmq
   have hRg := fun M0 I0 h => aHX (X := X) (w0 := w0) (M0 := M0) (I0 := I0) (a := mm) (k := kX) (by decide) (by decide) fm h
   rw [hmq] at hRg
   by_cases hr : dt 3 (at2 (frm kd (qK kd l))) = 0
   ·have e : mE kd l = none := by unfold mE; rw [if_neg hl0, if_neg hd, if_pos hr]
    rw [e]
    rw [dP (show ¬ dt 3 (at2 (frm kd (qK kd l))) ≠ 0 from fun h => h hr)] at hRg
    repeat (refine aJ ?_)
    (refine aA rfl (hRg _ _ aB) rfl rfl ?_; rintro _ _ _ ⟨rfl, rfl, rfl⟩; refine ⟨okF, ?_⟩)
    repeat (refine aJ ?_)
    refine kD (M' := M0) (I' := I0) aG aD ?_
    refine gL [4, 5] (by first | exact .inl rfl | exact .inr rfl) rfl rfl rfl _ _ aG aD (⟨rfl, rfl, _, rfl⟩)
   ·have e : mE kd l = some (frm kd (qK kd l)) := by unfold mE; rw [if_neg hl0, if_neg hd, if_neg hr]
    rw [e]
    rw [bV (show dt 3 (at2 (frm kd (qK kd l))) ≠ 0 from hr)] at hRg
    repeat (refine aJ ?_)
    (refine aA rfl (hRg _ _ aB) rfl rfl ?_; rintro _ _ _ ⟨rfl, rfl, rfl⟩; refine ⟨okF, ?_⟩)
    repeat (refine aJ ?_)
    refine kD (M' := M0) (I' := lT mm kX :: I0) aG aD ?_
    refine gL [4, 5] (by first | exact .inl rfl | exact .inr rfl) rfl rfl rfl _ _ aG aD (⟨rfl, mm, rfl, hmq, hmd, rfl⟩)
end
end Go.Proofs.YtjbhdfpjnjedhaaGreat
namespace Go.Fx
section
variable {P : Program} {n : Nat} {ops : List Oper} {Q : Exit → Act → World → Prop} {m : Mode} {G : Env} {w : World} {ty : TypeId} {pos : String} {af : Array Edge} {g : Option (Nat × Bool)} {l : List Oper} {X : List Nat} {w0 : World} {M M' : List Ent} {I : List aT}
theorem aNO {t e : TypeId} {sz sz' by_ : Nat} {z : List Value} {lo co : Operand} {k k' : IntKind} {mm : Nat} [ht : SliceTy P t e sz'] [hz : ElemTy P e sz by_ z]
  (hl : ev G lo = some (.int k 0)) (hc : ev G co = some (.int k' (mm : Int))) (hb : (by_ : Int) * (mm : Int) ≤ 281474976710656) (hm : (mm : Int) ≤ 9223372036854775807) :
  Eff P n G (.makeSlice t lo co) ty w (fun v w' => ∃ b, b = w.heap.size ∧ v = .slice (some ⟨b, 0, none⟩) 0 mm ∧ w'.ownsRow 0 e sz (.slice (some ⟨b, 0, none⟩) 0 mm) 0 [] ∧ Ext [] w w' ∧ b < w'.heap.size) := by
 refine ⟨?_⟩
 intro a ha dst pos after guard
 obtain ⟨i, v, hi, hs, hby, hzv, hcl⟩ := uV hz
 have hr := run_make (P := P) w t e i v ht.und hi hzv k k' 0 mm (by omega) (by omega) (by rw [hby]; exact hb) hm
 refine sV (v := .slice (some ⟨w.heap.size, 0, none⟩) 0 mm) (w' := w.alloc (.cells (madeCells z.toArray (mm * sz)) e)) ?_ ⟨_, ⟨_, rfl, rfl, ⟨by simp, .inr ⟨w.heap.size, mm, madeCells z.toArray (mm * sz), rfl, Nat.zero_le _, heap_alloc_new w _, Nat.zero_le _, by show mm ≤ 9223372036854775807; omega, size_madeCells _ _, by simp⟩⟩, Ext.alloc _ _ _, by simp⟩, rfl⟩
 simp only [Int.toNat_natCast, hs, hcl] at hr
 simp [execOp, ha.ev hl, ha.ev hc, hr]
theorem aRG {d : Nat} {t e : TypeId} {sz sz' by_ : Nat} {z : List Value} {lo co : Operand} {k1 k2 : IntKind} (mm : Nat) {x2 : Int} [SliceTy P t e sz'] [ElemTy P e sz by_ z]
  (hl : ev G lo = some (.int k1 0)) (hc : ev G co = some (.int k2 x2)) (e2 : x2 = mm) (hb : (by_ : Int) * (mm : Int) ≤ 281474976710656) (hm : (mm : Int) ≤ 9223372036854775807) (hg : oZ ops G g = some true) (hd : Nat.ble (d + 1) n = true)
  (k : ∀ b, OkD m X w0 (.row (some ⟨b, 0, none⟩) 0 mm [] e sz :: M) I ∧ RD P n ops Q m.nextE l ((d, .slice (some ⟨b, 0, none⟩) 0 mm) :: G) X w0 (.row (some ⟨b, 0, none⟩) 0 mm [] e sz :: M) I) :
  RD P n ops Q m (⟨some d, .makeSlice t lo co, ty, pos, af, g⟩ :: l) G X w0 M I := by
 subst e2
 exact zH (d := some d) (K := fun v' M' I' => ∃ b, v' = .slice (some ⟨b, 0, none⟩) 0 mm ∧ M' = .row (some ⟨b, 0, none⟩) 0 mm [] e sz :: M ∧ I' = I) hg
  (fun w hw => (aNO (mm := mm) hl hc hb hm).mono (fun _ w' ⟨b, hb, hp, hB, hE, _⟩ => ⟨_, _, ⟨b, hp, rfl, rfl⟩, hw.push hE (by simp [Ent.blocks, hb]) (by simp [Ent.blocks]) hB⟩)) rfl hd
  (fun _ _ _ ⟨b, hp, hM, hI⟩ => by subst hp; subst hM; subst hI; exact k b)
end
end Go.Fx
namespace Go.Fx
section
variable {P : Program} {n : Nat} {ops : List Oper} {Q : Exit → Act → World → Prop} {m : Mode} {G : Env} {l : List Oper} {X : List Nat} {w0 : World} {M M' : List Ent} {I : List aT}
theorem aVM {w : World} {base : Nat} {e : TypeId} {sz mm m' c : Nat} {a : Option Addr} {xs : List Value} (h : w.ownsRow base e sz (.slice a mm c) mm xs) (hle : m' ≤ mm) : w.ownsRow base e sz (.slice a m' c) m' (xs.take (m' * sz)) := by
 obtain ⟨h1, h2⟩ := h
 have h3 : m' * sz ≤ mm * sz := Nat.mul_le_mul_right _ hle
 refine ⟨by rw [List.length_take, h1, Nat.min_eq_left h3], ?_⟩
 rcases h2 with ⟨hv, h0⟩ | ⟨g, cap, cur, hv, hb, hc, hn, hm, hs, ht⟩
 ·subst h0
  obtain rfl : m' = 0 := by omega
  exact .inl ⟨hv, rfl⟩
 ·injection hv with e1 e2 e3
  subst e1; subst e3
  exact .inr ⟨g, c, cur, rfl, hb, hc, by omega, hm, hs, by rw [← ht, List.take_take, Nat.min_eq_left h3]⟩
theorem Mem.pop {w : World} {a : Option Addr} {mm m' c : Nat} {cs : List Value} {e : TypeId} {sz : Nat} (h : Mem X w0 M I w) (hr : Rep (.row a mm c cs e sz) (.row a m' c (cs.take (m' * sz)) e sz) M M') (hle : m' ≤ mm) : Mem X w0 M' I w := by
 have ho : w.ownsRow 0 e sz (.slice a mm c) mm cs := h.ent _ hr.mem
 have hbl : (Ent.row a m' c (cs.take (m' * sz)) e sz).blocks = (Ent.row a mm c cs e sz).blocks := by cases a <;> rfl
 exact h.upd hr (Ext.refl _ _) (fun b hb => .inl (hbl ▸ hb)) (by cases a <;> simp [Ent.blocks]) (aVM ho hle)
theorem aXO {ex : Exit} {a : Option Addr} {mm m' c : Nat} {cs : List Value} {e : TypeId} {sz : Nat} (hr : Rep (.row a mm c cs e sz) (.row a m' c (cs.take (m' * sz)) e sz) M M') (hle : m' ≤ mm) (h : ND n Q ex G X w0 M' I) : ND n Q ex G X w0 M I := xP (fun _ hw => hw.pop hr hle) h
theorem Mem.rowA {w : World} {a : Option Addr} {mm c : Nat} {cs : List Value} {e : TypeId} {sz : Nat} (h : Mem X w0 M I w) (hm : .row a mm c cs e sz ∈ M) (h0 : 0 < mm) : ∃ b, a = some ⟨b, 0, none⟩ ∧ mm ≤ c := by
 have ho : w.ownsRow 0 e sz (.slice a mm c) mm cs := h.ent _ hm
 rcases ho.2 with ⟨_, h1⟩ | ⟨g, cap, cur, hv, _, _, hn, _⟩
 ·omega
 ·injection hv with e1 e2 e3
  exact ⟨g, e1, by omega⟩
end
end Go.Fx
namespace Go.Proofs.YtjbhdfpjnjedhaaGreat
open Go Go.Fx
instance Q4.ones : Ones kP := ⟨fun m u hu => by simp [kP] at hu; rcases hu with rfl | rfl | rfl | rfl <;> rfl⟩
theorem aBM {l : List Q4} {smp : List Int} {z : Int} : nE l (smp ++ [z]) = nE l smp ++ [gt l z] := by simp [nE]
theorem xM {l : List Q4} {smp : List Int} : (nE l smp).length = smp.length := by simp [nE]
theorem aAS {l : List Q4} {smp : List Int} (hs : ∀ s ∈ l, s.near) (hin : ∀ x ∈ smp, 0 ≤ x ∧ x < l.length) : ∀ s ∈ nE l smp, s.near := fun s h => by
 obtain ⟨z, hz, rfl⟩ := List.mem_map.1 h
 exact hs _ (eP (hin z hz))
section
variable {X : List Nat} {w0 : World} {M0 M1 : List Ent} {I0 : List aT}
theorem aBW {kd : Nat} {q qs : Option Addr} {l : List Q4} {smp : List Int} {n c ns cs : Nat} (hk : kd ≤ 2) (hl : l.length = n) (hn : n ≤ 64) (hs : ∀ s ∈ l, s.near) (hsl : smp.length = ns) (hns : ns ≤ 64) (hin : ∀ x ∈ smp, 0 ≤ x ∧ x < n) (hq : aR q (recs kP l) ∈ I0) :
  CD Tryz.prog 51 [.int .i64 (kd : Int), .slice q n c, .slice qs ns cs] X w0 (.row qs ns cs (recs eZ smp) 3 1 :: M0) I0 (aQA (mE kd (nE l smp)) kX (.row qs ns cs (recs eZ smp) 3 1 :: M0) I0) := by
 refine bK (φ := aR q (recs kP l)) (Hv.mem hq) ?_
 refine kZ Tryz.func51 rfl Tryz.ntmps51 rfl ?_
 repeat (refine aJ ?_)
 refine lX 65 4 ?_
 refine aZ [0, 1, 19, 20] rfl (fun k G M I => ∃ (i : Nat) (ps : List Q4) (qe : Option Addr) (ce : Nat), i ≤ ns ∧ k = ns - i ∧ ps = nE l (smp.take i) ∧ G = [(8, .slice qe ps.length ce), (21, .int .i64 i)] ∧ M = .row qe ps.length ce (recs kP ps) 65 4 :: .row qs ns cs (recs eZ smp) 3 1 :: M0 ∧ I = aR q (recs kP l) :: I0) (ns) _ _ _ aL aG aD (⟨0, [], none, 0, by omega, rfl, rfl, rfl, rfl, rfl⟩) ?_
 rintro kk G M I ⟨i, ps, qe, ce, hi, rfl, hps, rfl, rfl, rfl⟩
 have hpl : ps.length = i := by rw [hps, xM, List.length_take]; omega
 by_cases hin2 : i < ns
 ·have hz := hin _ (eP (ms := smp) (i := (i : Int)) (by omega))
  have ht : smp.take (i + 1) = smp.take i ++ [gt smp (i : Int)] := by rw [gtQ (by omega)]; exact (List.take_append_getElem (by omega)).symm
  repeat (refine aJ ?_)
  (refine dB (cs := recs kP [gt l (gt smp (i : Int))]) ([vQ4 (gt l (gt smp (i : Int)))]) rfl rfl (by intro v hv; repeat (first | exact absurd hv (List.not_mem_nil) | (rcases List.mem_cons.1 hv with rfl | hv; · rfl))) (by omega) rfl rfl rfl ?_; intro b; refine ⟨okF, ?_⟩)
  (refine gD (ys := [gt l (gt smp (i : Int))]) 1 rfl rfl rfl ?_ (by decide) rfl (by omega) (by omega) rfl rfl ?_; (· first | exact Src.blk aB | exact Src.row aB | exact Src.imm aB (by first | assumption | exact .inl (Ok.mk _ _))); intro q2 c2; refine ⟨okF, ?_⟩)
  repeat (refine aJ ?_)
  refine aK (ns - (i + 1)) _ _ _ (by first | omega | (simp only [List.length_append, List.length_cons, List.length_nil]; omega)) aL aG aD (⟨i + 1, ps ++ [gt l (gt smp (i : Int))], q2, c2, by omega, rfl, by rw [ht, aBM, ← hps], rfl, rfl, rfl⟩)
 ·obtain rfl : i = ns := by omega
  rw [← hsl, List.take_length] at hps
  have hnr := aAS hs (by rw [hl]; exact hin)
  rw [← hps] at hnr ⊢
  have hF := fun M0 I0 h => aOE (X := X) (w0 := w0) (M0 := M0) (I0 := I0) (kd := kd) (q := qe) (l := ps) (n := ps.length) (c := ce) hk rfl (by omega) hnr h
  repeat (refine aJ ?_)
  refine jY .here ?_
  cases hf : mE kd ps with
  | none =>
   rw [hf] at hF
   (refine aA rfl (hF _ _ aB) rfl rfl ?_; rintro _ _ _ ⟨rfl, rfl, u, rfl⟩; refine ⟨okF, ?_⟩)
   repeat (refine aJ ?_)
   refine kD (M' := .row qs i cs (recs eZ smp) 3 1 :: M0) (I' := I0) aG aD ?_
   refine gL [6, 7] (by first | exact .inl rfl | exact .inr rfl) rfl rfl rfl _ _ aG aD (⟨rfl, rfl, u, rfl⟩)
  | some A =>
   rw [hf] at hF
   (refine aA rfl (hF _ _ aB) rfl rfl ?_; rintro _ _ _ ⟨rfl, m, rfl, hmq, hmd, rfl⟩; refine ⟨okF, ?_⟩)
   repeat (refine aJ ?_)
   refine kD (M' := .row qs i cs (recs eZ smp) 3 1 :: M0) (I' := lT m kX :: I0) aG aD ?_
   refine gL [6, 7] (by first | exact .inl rfl | exact .inr rfl) rfl rfl rfl _ _ aG aD (⟨rfl, m, rfl, hmq, hmd, rfl⟩)
end
end Go.Proofs.YtjbhdfpjnjedhaaGreat

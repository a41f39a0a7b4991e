/- matrix: the functions that the elements are made by; dot. matrix: Add, Sub, Scale, Mul, Transpose, Apply, Identity, of matrices and of what is none. matrix: Mul, Apply, of matrices and of what is none. Elimination of lists of rows is elimination of numbers. Ranks, plain: the kernel of a reduced matrix; systems with more unknowns than equations; ranks compared by kernels. Kernels and systems, plain: the canonical basis of the kernel, what it spans; when a system has a solution, and which one is returned. matrix: Echelon, Rank, Null. slices.Sorted of slices.Values at ints. -/
import Derived.Test.YtjbhdfpjnjedhaaGreatZpba
import Derived.Test.YtjbhdfpjnjedhaaGreatZpbb
import Derived.Test.YtjbhdfpjnjedhaaGreatZpan
import Derived.Test.YtjbhdfpjnjedhaaGreatZpax
set_option linter.unusedSimpArgs false
set_option linter.unusedVariables false
set_option maxRecDepth 100000
set_option maxHeartbeats 4000000
namespace Go.Proofs.YtjbhdfpjnjedhaaGreat
open Go Go.Fx
abbrev pb (b : Nat) : Value := .pointer (some ⟨b, 0, none⟩)
abbrev bxX (b : Nat) (m : MX) : aY := aO (some ⟨b, 0, none⟩) [.slice m.p m.rows.length m.c]
def dotQ (n : Nat) (x y : List Rat) : Rat := sm n (fun t => x.getD t 0 * y.getD t 0)
theorem aEW {m : MX} {i : Nat} (hi : i < m.rows.length) : rowAt m.q i = (gt m.rows (i : Int)).q := by
 unfold rowAt
 rw [fB hi]
 simp [List.getD, hi]
section
variable {X : List Nat} {w0 : World} {M0 : List Ent} {I0 : List aY}
theorem aHX {a : MX} {p k i j : Nat} (hi : i < a.rows.length) (hj : j < (gt a.rows (i : Int)).es.length)
  (ha : jF a k ∈ I0) (fa : bxX p a ∈ I0) :
  CD Tryz.prog 220 [.int .i64 (i : Int), .int .i64 (j : Int), pb p] X w0 M0 I0 (RQ (at2 a.q i j) k M0 I0) := by
 rw [rF hi hj]
 refine cZ (φ := aO (a).p (recs eL (a).rows)) (Hv.xsl aB) ?_
 refine cZ (φ := aO (gt (a).rows (i : Int)).p (recs eR (gt (a).rows (i : Int)).es)) (Hv.xrsl aB (by omega)) ?_
 refine jU Tryz.func220 rfl Tryz.ntmps220 rfl ?_
 refine aG ?_
 refine aJ ?_
 (refine aI rfl rfl ?_; intro br; refine ⟨okF, ?_⟩)
 repeat (refine aK ?_)
 refine gV (φ := bS (gt (gt a.rows (i : Int)).es (j : Int)) k) (Hv.xel aB (by omega) (by omega)) ?_
 refine bD (cs := eR (gt (gt a.rows (i : Int)).es (j : Int))) (.inl rfl) rfl rfl aB rfl M0 (bS (gt (gt a.rows (i : Int)).es (j : Int)) k :: I0) aD aC ⟨rfl, _, rfl, rfl, rfl⟩
theorem aID {a b : MX} {p q k m i j C : Nat} (hC : (gt a.rows 0).es.length = C) (hR : 1 ≤ a.rows.length) (hi : i < a.rows.length) (hj : (gt a.rows (i : Int)).es.length = C) (hi2 : i < b.rows.length) (hj2 : j < C + (gt b.rows (i : Int)).es.length) (hB : (gt b.rows (i : Int)).es.length ≤ 200) (hk : k ≤ m) (hCC : C ≤ 200)
  (ha : jF a k ∈ I0) (hb : jF b m ∈ I0) (fa : bxX p a ∈ I0) (fb : bxX q b ∈ I0) :
  CD Tryz.prog 222 [.int .i64 (i : Int), .int .i64 (j : Int), pb p, pb q] X w0 M0 I0 (RQ (if j < C then at2 a.q i j else at2 b.q i (j - C)) m M0 I0) := by
 by_cases hjC : j < C
 ·rw [if_pos hjC, rF hi (by omega)]
  refine cZ (φ := aO (a).p (recs eL (a).rows)) (Hv.xsl aB) ?_
  refine cZ (φ := aO (gt (a).rows (i : Int)).p (recs eR (gt (a).rows (i : Int)).es)) (Hv.xrsl aB (by omega)) ?_
  refine wT Tryz.func222 rfl Tryz.ntmps222 rfl ?_
  refine aG ?_
  refine aJ ?_
  (refine aI rfl rfl ?_; intro br; refine ⟨okF, ?_⟩)
  repeat (refine aK ?_)
  refine gV (φ := bS (gt (gt a.rows (i : Int)).es (j : Int)) k) (Hv.xel aB (by omega) (by omega)) ?_
  refine gV (φ := bS (gt (gt a.rows (i : Int)).es (j : Int)) m) (Hv.q (k := k) (List.Mem.head _) hk) ?_
  refine bD (cs := eR (gt (gt a.rows (i : Int)).es (j : Int))) (.inl rfl) rfl rfl aB rfl M0 (bS (gt (gt a.rows (i : Int)).es (j : Int)) m :: I0) aD aC ⟨rfl, _, rfl, rfl, rfl⟩
 ·obtain ⟨u, rfl⟩ : ∃ u, j = C + u := ⟨j - C, by omega⟩
  rw [if_neg hjC, Nat.add_sub_cancel_left, rF hi2 (by omega)]
  have eu : ((C + u : Nat) : Int) - ((gt a.rows 0).es.length : Int) = (u : Int) := by omega
  refine cZ (φ := aO (a).p (recs eL (a).rows)) (Hv.xsl aB) ?_
  refine cZ (φ := aO (b).p (recs eL (b).rows)) (Hv.xsl aB) ?_
  refine cZ (φ := aO (gt (b).rows (i : Int)).p (recs eR (gt (b).rows (i : Int)).es)) (Hv.xrsl aB (by omega)) ?_
  refine wT Tryz.func222 rfl Tryz.ntmps222 rfl ?_
  refine aG ?_
  refine aJ ?_
  (refine aI rfl rfl ?_; intro br; refine ⟨okF, ?_⟩)
  repeat (refine aK ?_)
  (repeat refine aG ?_); refine bG 0 [0, 1, 2, 3, 4, 5, 6, 7, 8, 9, 10, 11, 12] [0, 0, 0, 0, 0, 0, 0, 0, 0, 0, 0, 0, 0] mixed (by kernel_rfl) ?_
  repeat (refine aK ?_)
  rw [eu]
  repeat (refine aK ?_)
  refine gV (φ := bS (gt (gt b.rows (i : Int)).es (u : Int)) m) (Hv.xel aB (by omega) (by omega)) ?_
  refine bD (cs := eR (gt (gt b.rows (i : Int)).es (u : Int))) (.inl rfl) rfl rfl aB rfl M0 (bS (gt (gt b.rows (i : Int)).es (u : Int)) m :: I0) aD aC ⟨rfl, _, rfl, rfl, rfl⟩
theorem aGD {a : MX} {p q k i j n : Nat} (hi : i < a.rows.length) (hj : n + j < (gt a.rows (i : Int)).es.length) (hn : n ≤ 100) (hjj : j ≤ 100)
  (ha : jF a k ∈ I0) (fa : bxX p a ∈ I0) (fn : aO (some ⟨q, 0, none⟩) [.int .i64 (n : Int)] ∈ I0) :
  CD Tryz.prog 178 [.int .i64 (i : Int), .int .i64 (j : Int), pb p, pb q] X w0 M0 I0 (RQ (at2 a.q i (n + j)) k M0 I0) := by
 rw [rF hi hj]
 have eu : (n : Int) + (j : Int) = ((n + j : Nat) : Int) := by omega
 refine cZ (φ := aO (a).p (recs eL (a).rows)) (Hv.xsl aB) ?_
 refine cZ (φ := aO (gt (a).rows (i : Int)).p (recs eR (gt (a).rows (i : Int)).es)) (Hv.xrsl aB (by omega)) ?_
 refine wT Tryz.func178 rfl Tryz.ntmps178 rfl ?_
 refine aG ?_
 refine aJ ?_
 (refine aI rfl rfl ?_; intro br; refine ⟨okF, ?_⟩)
 repeat (refine aK ?_)
 (repeat refine aG ?_); refine bG 0 [0, 1, 2, 3, 4, 5, 6, 7, 8, 9] [0, 0, 0, 0, 0, 0, 0, 0, 0, 0] mixed (by kernel_rfl) ?_
 repeat (refine aK ?_)
 rw [eu]
 repeat (refine aK ?_)
 refine gV (φ := bS (gt (gt a.rows (i : Int)).es ((n + j : Nat) : Int)) k) (Hv.xel aB (by omega) (by omega)) ?_
 refine bD (cs := eR (gt (gt a.rows (i : Int)).es ((n + j : Nat) : Int))) (.inl rfl) rfl rfl aB rfl M0 (bS (gt (gt a.rows (i : Int)).es ((n + j : Nat) : Int)) k :: I0) aD aC ⟨rfl, _, rfl, rfl, rfl⟩
theorem aWO {a b : RL} {ka kb n : Nat} (hn : n ≤ 200) (hK : n * (ka + kb + 1) ≤ 100000000000) (la : a.es.length = n) (lb : b.es.length = n) (ha : iZ a ka ∈ I0) (hb : iZ b kb ∈ I0) :
  CD Tryz.prog 224 [lv a, lv b] X w0 M0 I0 (RQ (dotQ n a.q b.q) (n * (ka + kb + 1)) M0 I0) := by
 refine cZ (φ := aO (a).p (recs eR (a).es)) (Hv.lsl aB) ?_
 refine cZ (φ := aO (b).p (recs eR (b).es)) (Hv.lsl aB) ?_
 have hW := fun M0 I0 => rO (X := X) (w0 := w0) (M0 := M0) (I0 := I0) (x := 0) (by decide) (k := 0) (by decide)
 refine aX Tryz.func224 rfl Tryz.ntmps224 rfl ?_
 refine aG ?_
 refine aJ ?_
 (refine aI rfl rfl ?_; intro b4; refine ⟨okF, ?_⟩)
 repeat (refine aK ?_)
 (refine aA rfl (hW _ _) rfl rfl ?_; rintro _ _ _ ⟨rfl, e0, rfl, he0, rfl⟩; refine ⟨okF, ?_⟩)
 repeat (refine aK ?_)
 (refine aI rfl rfl ?_; intro b5; refine ⟨okF, ?_⟩)
 repeat (refine aK ?_)
 refine aT [1, 4, 5, 9, 10] rfl (fun k G M I => ∃ (t : Nat) (s : RE), t ≤ n ∧ k = n - t ∧ s.q = sm t (fun t => a.q.getD t 0 * b.q.getD t 0) ∧ G = [(11, .int .i64 t)] ∧ M = .blk b5 (eR s) 50 :: .blk b4 [.bool false, .slice none 0 0, .bool false, .slice none 0 0] 50 :: M0 ∧ I = bS s (t * (ka + kb + 1)) :: aO b.p (recs eR b.es) :: aO a.p (recs eR a.es) :: I0) (n) _ _ _ aP aD aC (⟨0, e0, by omega, rfl, he0, rfl, rfl, by rw [Nat.zero_mul]⟩) ?_
 rintro kk G M I ⟨t, s, ht, rfl, hs, rfl, rfl, rfl⟩
 have hu : t * (ka + kb + 1) ≤ 100000000000 := Nat.le_trans (Nat.mul_le_mul_right _ ht) hK
 by_cases htn : t < n
 ·have hu2 : (t + 1) * (ka + kb + 1) = t * (ka + kb + 1) + (ka + kb) + 1 := by rw [Nat.succ_mul]; omega
  have hK2 : (t + 1) * (ka + kb + 1) ≤ 100000000000 := Nat.le_trans (Nat.mul_le_mul_right _ htn) hK
  have hva : Hv (bS s (t * (ka + kb + 1)) :: aO b.p (recs eR b.es) :: aO a.p (recs eR a.es) :: I0) (bS (gt a.es (t : Int)) ka) := Hv.lel aB (by omega)
  have hvb : Hv (bS s (t * (ka + kb + 1)) :: aO b.p (recs eR b.es) :: aO a.p (recs eR a.es) :: I0) (bS (gt b.es (t : Int)) kb) := Hv.lel aB (by omega)
  have hS1 := fun M0 => mF (X := X) (w0 := w0) (M0 := M0) (e := gt a.es (t : Int)) (k := ka) (by omega) hva
  have hS2 := fun M0 => mF (X := X) (w0 := w0) (M0 := M0) (e := gt b.es (t : Int)) (k := kb) (by omega) hvb
  have hq : sm (t + 1) (fun t => a.q.getD t 0 * b.q.getD t 0) = s.q + (gt a.es (t : Int)).q * (gt b.es (t : Int)).q := by
   simp only [sm]
   rw [hs, jK (by omega), jK (by omega)]
  generalize t * (ka + kb + 1) = u at *
  by_cases h1 : (gt a.es (t : Int)).q = 0
  ·rw [(oO _).2 h1] at hS1
   repeat (refine aK ?_)
   (refine aI rfl rfl ?_; intro b7; refine ⟨okF, ?_⟩)
   repeat (refine aK ?_)
   (refine aA rfl (hS1 _) rfl rfl ?_; rintro _ _ _ ⟨rfl, rfl, rfl⟩; refine ⟨okF, ?_⟩)
   repeat (refine aK ?_)
   refine gV (φ := bS s ((t + 1) * (ka + kb + 1))) (Hv.q (k := u) aB (by omega)) ?_
   refine aL (n - (t + 1)) _ _ _ (by first | omega | (simp only [List.length_append, List.length_cons, List.length_nil]; omega)) aP aD aC (⟨t + 1, s, by omega, rfl, by rw [hq, h1]; grind, rfl, rfl, rfl⟩)
  ·have hs1 : ¬ (gt a.es (t : Int)).q.num.sign = 0 := fun h => h1 ((oO _).1 h)
   generalize (gt a.es (t : Int)).q.num.sign = sg1 at *
   by_cases h2 : (gt b.es (t : Int)).q = 0
   ·rw [(oO _).2 h2] at hS2
    repeat (refine aK ?_)
    (refine aI rfl rfl ?_; intro b7; refine ⟨okF, ?_⟩)
    repeat (refine aK ?_)
    (refine aA rfl (hS1 _) rfl rfl ?_; rintro _ _ _ ⟨rfl, rfl, rfl⟩; refine ⟨okF, ?_⟩)
    repeat (refine aK ?_)
    (refine aA rfl (hS2 _) rfl rfl ?_; rintro _ _ _ ⟨rfl, rfl, rfl⟩; refine ⟨okF, ?_⟩)
    repeat (refine aK ?_)
    refine gV (φ := bS s ((t + 1) * (ka + kb + 1))) (Hv.q (k := u) aB (by omega)) ?_
    refine aL (n - (t + 1)) _ _ _ (by first | omega | (simp only [List.length_append, List.length_cons, List.length_nil]; omega)) aP aD aC (⟨t + 1, s, by omega, rfl, by rw [hq, h2]; grind, rfl, rfl, rfl⟩)
   ·have hs2 : ¬ (gt b.es (t : Int)).q.num.sign = 0 := fun h => h2 ((oO _).1 h)
    generalize (gt b.es (t : Int)).q.num.sign = sg2 at *
    repeat (refine aK ?_)
    (refine aI rfl rfl ?_; intro b7; refine ⟨okF, ?_⟩)
    repeat (refine aK ?_)
    (refine aA rfl (hS1 _) rfl rfl ?_; rintro _ _ _ ⟨rfl, rfl, rfl⟩; refine ⟨okF, ?_⟩)
    repeat (refine aK ?_)
    (refine aA rfl (hS2 _) rfl rfl ?_; rintro _ _ _ ⟨rfl, rfl, rfl⟩; refine ⟨okF, ?_⟩)
    repeat (refine aK ?_)
    (repeat refine aG ?_); refine bG 2 [0, 1, 2, 3, 4, 5, 6, 7, 8] [1, 1, 2, 2, 2, 1, 0, 0, 0] mixed (by kernel_rfl) ?_
    repeat (refine aK ?_)
    (refine aA rfl (qC (k := ka) (m := kb) (by omega) hva hvb) rfl rfl ?_; rintro _ _ _ ⟨rfl, e2, rfl, he2, rfl⟩; refine ⟨okF, ?_⟩)
    (refine aA rfl (sO (k := u) (m := ka + kb) (by omega) (Hv.mem aB) (Hv.mem aB)) rfl rfl ?_; rintro _ _ _ ⟨rfl, e3, rfl, he3, rfl⟩; refine ⟨okF, ?_⟩)
    repeat (refine aK ?_)
    rw [← hu2]
    refine aL (n - (t + 1)) _ _ _ (by first | omega | (simp only [List.length_append, List.length_cons, List.length_nil]; omega)) aP aD aC (⟨t + 1, e3, by omega, rfl, by rw [hq, he3, he2], rfl, rfl, rfl⟩)
 ·obtain rfl : t = n := by omega
  repeat (refine aK ?_)
  refine bD (cs := eR s) (.inl rfl) rfl rfl aB rfl M0 (bS s (t * (ka + kb + 1)) :: I0) aD aC ⟨rfl, s, rfl, hs, rfl⟩
end
end Go.Proofs.YtjbhdfpjnjedhaaGreat
namespace Go.Proofs.YtjbhdfpjnjedhaaGreat
open Go Go.Fx
theorem aSR {i j : Nat} : pR i j = if (i : Int) = (j : Int) then (1 : Rat) else 0 := by
 unfold pR
 by_cases e : i = j
 ·rw [if_pos e, if_pos (by omega)]
 ·rw [if_neg e, if_neg (by omega)]
theorem lH {M M' : List Ent} (h : SubP M M') : ∀ {xs : List Ent}, SubP (xs ++ M) M'
 | [] => h
 | _ :: _ => .drop (lH h)
def MX.fit (m : MX) (R C : Nat) : Prop := m.dim R C ∧ (1 ≤ R ∧ R ≤ 64) ∧ (1 ≤ C ∧ C ≤ 64)
theorem MX.fit.r0 {m : MX} {R C : Nat} (h : m.fit R C) : (gt m.rows 0).es.length = C := by
 have := h.1.row (i := 0) (by have := h.2.1; omega)
 exact this
theorem MX.fit.ok {m : MX} {R C : Nat} (h : m.fit R C) : m.raw.ok := aWU h.1 h.2.1 h.2.2
theorem MX.raw_rows (m : MX) : m.raw.rows.length = m.rows.length := by show (m.rows.map RL.raw).length = _; rw [List.length_map]
theorem MX.raw_c0 {m : MX} {R C : Nat} (h : m.fit R C) : (gt m.raw.rows 0).es.length = C := by
 have e : m.raw.rows = m.rows.map RL.raw := rfl
 rw [e, aFI (by have := h.1.1; have := h.2.1; omega)]
 show ((gt m.rows 0).es.map RE.raw).length = C
 rw [List.length_map]; exact h.r0
section
variable {P : Program} {f : FuncId} {vs : List Value} {X : List Nat} {w0 : World} {M : List Ent} {I : List aY}
theorem rH {K : Value → List Ent → List aY → Prop} {φ : Prop} (h : ∀ w, Mem X w0 M I w → φ) (k : φ → CD P f vs X w0 M I K) : CD P f vs X w0 M I K := ⟨fun w hw => (k (h w hw)).go w hw⟩
theorem aRO {K : Value → Prop} {φ : aY} [Fx.Good φ] (h : Hv I φ) (c : CD P f vs X w0 M (φ :: I) (fun v M' I' => M = M' ∧ φ :: I = I' ∧ K v)) : CD P f vs X w0 M I (fun v M' I' => M = M' ∧ I = I' ∧ K v) :=
 ⟨fun w hw => (c.go w (Mem.hv h hw)).mono (fun _ _ ⟨M', I', ⟨e1, e2, hk⟩, h2⟩ => by subst e1; subst e2; exact ⟨M, I, ⟨rfl, rfl, hk⟩, h2.inc (.of fun φ hφ => List.Mem.tail _ hφ)⟩)⟩
theorem Mem.xsml {w : World} {m : MX} {R C k : Nat} (hm : jF m k ∈ I) (hd : m.fit R C) (hk : k ≤ 20000000000) (hw : Mem X w0 M I w) : m.raw.sml := by
 have h : IsX m k (muts M) w := (hw.imm _ hm).2
 refine ⟨by rw [m.raw_rows, hd.1.1]; have := hd.2.1; omega, fun r hr => ?_⟩
 obtain ⟨s, hs, rfl⟩ := List.mem_map.1 hr
 refine ⟨by show (s.es.map RE.raw).length ≤ _; rw [List.length_map, hd.1.2 s hs]; have := hd.2.2; omega, fun e he => ?_⟩
 obtain ⟨x, hx, rfl⟩ := List.mem_map.1 he
 exact IsR.sml hk ((h.row s hs).el x hx)
theorem Mem.lsml {w : World} {r : RL} {k : Nat} (hm : iZ r k ∈ I) (hl : r.es.length ≤ 1000000000) (hk : k ≤ 20000000000) (hw : Mem X w0 M I w) : r.raw.sml := by
 have h : IsL r k (muts M) w := (hw.imm _ hm).2
 refine ⟨by show (r.es.map RE.raw).length ≤ _; rw [List.length_map]; exact hl, fun e he => ?_⟩
 obtain ⟨x, hx, rfl⟩ := List.mem_map.1 he
 exact IsR.sml hk (h.el x hx)
end
section
variable {X : List Nat} {w0 : World} {M0 : List Ent} {I0 : List aY}
theorem aHU {a : MX} {R C k : Nat} (da : a.fit R C) (ha : jF a k ∈ I0) : CD Tryz.prog 162 [mv a] X w0 M0 I0 (MkP R C (at2 a.q) k M0 I0) := by
 have lR := da.1.1
 have lC := da.r0
 obtain ⟨r1, r2⟩ := da.2.1
 obtain ⟨c1, c2⟩ := da.2.2
 refine cZ (φ := aO (a).p (recs eL (a).rows)) (Hv.xsl aB) ?_
 refine aZ Tryz.func162 rfl Tryz.ntmps162 rfl ?_
 refine aG ?_
 refine aJ ?_
 (refine oC rfl rfl rfl ?_; intro p1; refine ⟨okF, ?_⟩)
 repeat (refine aK ?_)
 (repeat refine aG ?_); refine dS [0, 1, 2, 3, 4, 5, 6, 7, 8] [1, 0, 1, 1, 1, 0, 0, 0, 0] mixed (by kernel_rfl) ?_
 repeat (refine aK ?_)
 have hg := fun M I (hI : ∀ φ ∈ aO (some ⟨p1, 0, none⟩) [.slice a.p a.rows.length a.c] :: aO a.p (recs eL a.rows) :: I0, φ ∈ I) (i j : Nat) (hi : i < a.rows.length) (hj : j < (gt a.rows 0).es.length) => aHX (X := X) (w0 := w0) (M0 := M) (I0 := I) (a := a) (p := p1) (k := k) (i := i) (j := j) (by omega) (by rw [da.1.row (by omega)]; omega) (hI _ aB) (hI _ aB)
 (refine aA rfl (aBH (R := a.rows.length) (C := (gt a.rows 0).es.length) (g := 220) (fs := #[]) (cs := #[pb p1]) (k0 := k) (by omega) (by omega) (at2 a.q) hg) rfl rfl ?_; rintro _ _ _ ⟨bo, rows, rfl, h1, h2, h3, rfl, rfl⟩; refine ⟨OkD.any (SubP.drop (lH SubP.refl)) aC, ?_⟩)
 rw [lR] at h1
 rw [lC] at h2
 rw [lR, lC] at h3
 have e1 : (a.rows.length : Int) = R := by omega
 repeat (refine aK ?_)
 refine aH (by first | exact .inl rfl | exact .inr rfl) rfl rfl _ _ aD aC (⟨bo, rows, by rw [lR], h1, h2, h3, rfl, rfl⟩)
theorem aMZ {a b : MX} {R C D k : Nat} (da : a.fit R C) (db : b.fit R D) (ha : jF a k ∈ I0) (hb : jF b k ∈ I0) : CD Tryz.prog 174 [mv a, mv b] X w0 M0 I0 (MkP R (C + D) (fun i j => if j < C then at2 a.q i j else at2 b.q i (j - C)) k M0 I0) := by
 have lR := da.1.1
 have lR2 := db.1.1
 have lC := da.r0
 have lD := db.r0
 obtain ⟨r1, r2⟩ := da.2.1
 obtain ⟨c1, c2⟩ := da.2.2
 obtain ⟨d1, d2⟩ := db.2.2
 refine cZ (φ := aO (a).p (recs eL (a).rows)) (Hv.xsl aB) ?_
 refine cZ (φ := aO (b).p (recs eL (b).rows)) (Hv.xsl aB) ?_
 refine aX Tryz.func174 rfl Tryz.ntmps174 rfl ?_
 refine aG ?_
 refine aJ ?_
 (refine oC rfl rfl rfl ?_; intro p1; refine ⟨okF, ?_⟩)
 (refine oC rfl rfl rfl ?_; intro p2; refine ⟨okF, ?_⟩)
 repeat (refine aK ?_)
 (repeat refine aG ?_); refine dS [0, 1, 2, 3, 4, 5, 6, 7, 8, 9, 10, 11, 12, 13] [1, 0, 1, 1, 1, 1, 1, 1, 1, 1, 0, 0, 0, 0] mixed (by kernel_rfl) ?_
 repeat (refine aK ?_)
 rw [show ((gt a.rows 0).es.length : Int) + ((gt b.rows 0).es.length : Int) = (((gt a.rows 0).es.length + (gt b.rows 0).es.length : Nat) : Int) by omega]
 have hg := fun M I (hI : ∀ φ ∈ aO (some ⟨p2, 0, none⟩) [.slice b.p b.rows.length b.c] :: aO (some ⟨p1, 0, none⟩) [.slice a.p a.rows.length a.c] :: aO b.p (recs eL b.rows) :: aO a.p (recs eL a.rows) :: I0, φ ∈ I) (i j : Nat) (hi : i < a.rows.length) (hj : j < (gt a.rows 0).es.length + (gt b.rows 0).es.length) => aID (X := X) (w0 := w0) (M0 := M) (I0 := I) (a := a) (b := b) (p := p1) (q := p2) (k := k) (m := k) (i := i) (j := j) (C := C) lC (by omega) (by omega) (da.1.row (by omega)) (by omega) (by rw [db.1.row (by omega)]; omega) (by rw [db.1.row (by omega)]; omega) (Nat.le_refl _) (by omega) (hI _ aB) (hI _ aB) (hI _ aB) (hI _ aB)
 (refine aA rfl (aBH (R := a.rows.length) (C := (gt a.rows 0).es.length + (gt b.rows 0).es.length) (g := 222) (fs := #[]) (cs := #[pb p1, pb p2]) (k0 := k) (by omega) (by omega) (fun i j => if j < C then at2 a.q i j else at2 b.q i (j - C)) hg) rfl rfl ?_; rintro _ _ _ ⟨bo, rows, rfl, h1, h2, h3, rfl, rfl⟩; refine ⟨OkD.any (SubP.drop (lH SubP.refl)) aC, ?_⟩)
 rw [lR] at h1
 rw [lC, lD] at h2
 rw [lR, lC, lD] at h3
 repeat (refine aK ?_)
 refine aH (by first | exact .inl rfl | exact .inr rfl) rfl rfl _ _ aD aC (⟨bo, rows, by rw [lR], h1, h2, h3, rfl, rfl⟩)
end
end Go.Proofs.YtjbhdfpjnjedhaaGreat
namespace Go.Proofs.YtjbhdfpjnjedhaaGreat
open Go Go.Fx
def mulC (a b : WM) : Int := if a.ok ∧ b.ok then (if (gt a.rows 0).es.length = b.rows.length then 0 else 4) else 1
def aKX (a : WM) (x : WL) (n : Nat) : Int := if a.ok then (if x.good then (if x.es.length = n then 0 else 4) else 1) else 1
section
variable {X : List Nat} {w0 : World} {M0 : List Ent} {I0 : List aY}
theorem aII {a : MX} {x : RL} {R C k m : Nat} (hk : k ≤ 1000000000) (hm : m ≤ 500000000) (hR : R ≤ 100) (hCC : C ≤ 64) (da : a.dim R C) (hl : x.es.length = C) (ha : jF a k ∈ I0) (hx : iZ x m ∈ I0) :
  CD Tryz.prog 181 [mv a, lv x] X w0 M0 I0 (LQ ((List.range R).map (fun i => sm C (fun t => at2 a.q i t * x.q.getD t 0))) (C * (k + m + 1)) M0 I0) := by
 have lR := da.1
 have hKK : C * (k + m + 1) ≤ 100000000000 := Nat.le_trans (Nat.mul_le_mul hCC (show k + m + 1 ≤ 1500000001 by omega)) (by decide)
 generalize hKe : C * (k + m + 1) = K at *
 refine cZ (φ := aO (a).p (recs eL (a).rows)) (Hv.xsl aB) ?_
 refine aX Tryz.func181 rfl Tryz.ntmps181 rfl ?_
 repeat (refine aK ?_)
 refine mM 50 4 ?_
 refine iB (φ := cO [] K) Hv.nilR ?_
 refine aT [1, 8, 9] rfl (fun k G M I => ∃ (i : Nat) (es : List RE) (q : Option Addr) (c : Nat), i ≤ R ∧ k = R - i ∧ es.length = i ∧ qs es = (List.range i).map (fun i => sm C (fun t => at2 a.q i t * x.q.getD t 0)) ∧ G = [(5, .slice q es.length c), (10, .int .i64 i)] ∧ M = .row q es.length c (recs eR es) 50 4 :: M0 ∧ I = cO es K :: aO a.p (recs eL a.rows) :: I0) (R) _ _ _ aP aD aC (⟨0, [], none, 0, by omega, rfl, rfl, rfl, rfl, rfl, rfl⟩) ?_
 rintro kk G M I ⟨i, es, q, c, hi, rfl, hel, heq, rfl, rfl, rfl⟩
 by_cases hiR : i < R
 ·refine iB (φ := iZ (gt (a).rows (i : Int)) k) (Hv.xrow aB (by omega)) ?_
  repeat (refine aK ?_)
  (refine aA rfl (aWO (ka := k) (kb := m) (n := C) (by omega) (by omega) (da.row hiR) hl aB aB) rfl rfl ?_; rintro _ _ _ ⟨rfl, e, rfl, he, rfl⟩; refine ⟨okF, ?_⟩)
  (refine aQ (cs := recs eR [e]) ([rv e]) rfl rfl (by intro v hv; repeat (first | exact absurd hv (List.not_mem_nil) | (rcases List.mem_cons.1 hv with rfl | hv; · rfl))) (by omega) rfl rfl rfl ?_; intro b; refine ⟨okF, ?_⟩)
  (refine dI (ys := [e]) 1 rfl rfl rfl ?_ (by decide) rfl (by omega) (by omega) rfl rfl ?_; (· first | exact Src.blk aB | exact Src.row aB | exact Src.imm aB (by first | assumption | exact .inl (Ok.mk _ _))); intro q2 c2; refine ⟨okF, ?_⟩)
  rw [hKe]
  repeat (refine aK ?_)
  refine gV (φ := cO (es ++ [e]) K) (Hv.snoc aB aB) ?_
  refine aL (R - (i + 1)) _ _ _ (by first | omega | (simp only [List.length_append, List.length_cons, List.length_nil]; omega)) aP aD aC (⟨i + 1, es ++ [e], q2, c2, by omega, rfl, by simp; omega, ?_, rfl, rfl, rfl⟩)
  rw [List.range_succ, List.map_append, ← heq]
  have e1 : sm C (fun t => at2 a.q i t * x.q.getD t 0) = dotQ C (gt a.rows (i : Int)).q x.q := by rw [← aEW (by omega)]; rfl
  show (es ++ [e]).map RE.q = qs es ++ [sm C (fun t => at2 a.q i t * x.q.getD t 0)]
  rw [List.map_append, e1, ← he]
  rfl
 ·obtain rfl : i = R := by omega
  repeat (refine aK ?_)
  refine aIP aB ?_
  refine aH (by first | exact .inl rfl | exact .inr rfl) rfl rfl _ _ aD aC (⟨rfl, ⟨q, c, es⟩, rfl, heq, rfl⟩)
theorem aLK {m : WM} {p : Nat} (hR : 1 ≤ m.rows.length) (hm : wR m ∈ I0) (hb : aO (some ⟨p, 0, none⟩) [.slice m.p m.rows.length m.c] ∈ I0) :
  CD Tryz.prog 180 [pb p] X w0 M0 I0 (fun v M I => M0 = M ∧ I0 = I ∧ v = .int .i64 ((gt m.rows 0).es.length : Int)) := by
 refine cZ (φ := aO m.p (recs eWL m.rows)) (Hv.wmsl hm) ?_
 refine aZ Tryz.func180 rfl Tryz.ntmps180 rfl ?_
 repeat (refine aK ?_)
 refine aH (by first | exact .inl rfl | exact .inr rfl) rfl rfl _ _ aD aC (⟨rfl, rfl, rfl⟩)
theorem aTX {a : WM} {x : WL} {n : Nat} {g : FuncId} [FnOk Tryz.prog g] {fs cs : Array Value} (sa : a.sml) (sx : x.sml) (ha : wR a ∈ I0) (hx : uX x ∈ I0)
  (hg : a.ok → CD Tryz.prog g (fs.toList ++ [] ++ cs.toList) X w0 M0 I0 (fun v M I => M0 = M ∧ I0 = I ∧ v = .int .i64 (n : Int))) :
  CD Tryz.prog 179 [mvW a, lvW x, .func (.func g) fs cs] X w0 M0 I0 (fun v M I => M0 = M ∧ I0 = I ∧ v = .int .i64 (aKX a x n)) := by
 have hC := fun M0 I0 h1 => aFM (X := X) (w0 := w0) (M0 := M0) (I0 := I0) (m := a) sa h1
 have hV := fun M0 I0 h1 => vD (X := X) (w0 := w0) (M0 := M0) (I0 := I0) (r := x) sx h1
 unfold aKX
 by_cases hok : a.ok
 ·rw [WM.code_ok hok] at hC
  rw [if_pos hok]
  by_cases hgx : x.good
  ·rw [bJ hgx] at hV
   rw [if_pos hgx]
   have hg' := hg hok
   by_cases hn : x.es.length = n
   ·rw [if_pos hn]
    refine jU Tryz.func179 rfl Tryz.ntmps179 rfl ?_
    repeat (refine aK ?_)
    (refine aA rfl (hC _ _ aB) rfl rfl ?_; rintro _ _ _ ⟨rfl, rfl, rfl⟩; refine ⟨okF, ?_⟩)
    repeat (refine aK ?_)
    (refine aA rfl (hV _ _ aB) rfl rfl ?_; rintro _ _ _ ⟨rfl, rfl, rfl⟩; refine ⟨okF, ?_⟩)
    repeat (refine aK ?_)
    (refine fD rfl rfl (hg') rfl rfl rfl ?_; rintro _ _ _ ⟨rfl, rfl, rfl⟩; refine ⟨okF, ?_⟩)
    repeat (refine aK ?_)
    refine aH (by first | exact .inl rfl | exact .inr rfl) rfl rfl _ _ aD aC (⟨rfl, rfl, rfl⟩)
   ·rw [if_neg hn]
    refine jU Tryz.func179 rfl Tryz.ntmps179 rfl ?_
    repeat (refine aK ?_)
    (refine aA rfl (hC _ _ aB) rfl rfl ?_; rintro _ _ _ ⟨rfl, rfl, rfl⟩; refine ⟨okF, ?_⟩)
    repeat (refine aK ?_)
    (refine aA rfl (hV _ _ aB) rfl rfl ?_; rintro _ _ _ ⟨rfl, rfl, rfl⟩; refine ⟨okF, ?_⟩)
    repeat (refine aK ?_)
    (refine fD rfl rfl (hg') rfl rfl rfl ?_; rintro _ _ _ ⟨rfl, rfl, rfl⟩; refine ⟨okF, ?_⟩)
    repeat (refine aK ?_)
    refine aH (by first | exact .inl rfl | exact .inr rfl) rfl rfl _ _ aD aC (⟨rfl, rfl, rfl⟩)
  ·rw [bB hgx] at hV
   rw [if_neg hgx]
   refine jU Tryz.func179 rfl Tryz.ntmps179 rfl ?_
   repeat (refine aK ?_)
   (refine aA rfl (hC _ _ aB) rfl rfl ?_; rintro _ _ _ ⟨rfl, rfl, rfl⟩; refine ⟨okF, ?_⟩)
   repeat (refine aK ?_)
   (refine aA rfl (hV _ _ aB) rfl rfl ?_; rintro _ _ _ ⟨rfl, rfl, rfl⟩; refine ⟨okF, ?_⟩)
   repeat (refine aK ?_)
   refine aH (by first | exact .inl rfl | exact .inr rfl) rfl rfl _ _ aD aC (⟨rfl, rfl, rfl⟩)
 ·rw [WM.code_no hok] at hC
  rw [if_neg hok]
  refine jU Tryz.func179 rfl Tryz.ntmps179 rfl ?_
  repeat (refine aK ?_)
  (refine aA rfl (hC _ _ aB) rfl rfl ?_; rintro _ _ _ ⟨rfl, rfl, rfl⟩; refine ⟨okF, ?_⟩)
  repeat (refine aK ?_)
  refine aH (by first | exact .inl rfl | exact .inr rfl) rfl rfl _ _ aD aC (⟨rfl, rfl, rfl⟩)
theorem aNJ {a : MX} {x : RL} {R C k m : Nat} (hk : k ≤ 1000000000) (hm : m ≤ 500000000) (da : a.fit R C) (hl : x.es.length = C) (ha : jF a k ∈ I0) (hx : iZ x m ∈ I0) : CD Tryz.prog 133 [mv a, lv x] X w0 M0 I0 (LQc ((List.range R).map (fun i => sm C (fun t => at2 a.q i t * x.q.getD t 0))) (C * (k + m + 1)) M0 I0) := by
 obtain ⟨r1, r2⟩ := da.2.1
 obtain ⟨c1, c2⟩ := da.2.2
 refine rH (fun w hw => Mem.xsml ha da (by omega) hw) (fun sa => rH (fun w hw => Mem.lsml hx (by omega) (by omega) hw) (fun sx => ?_))
 have hC := fun p M0 I0 h1 h2 h3 => aTX (X := X) (w0 := w0) (M0 := M0) (I0 := I0) (a := a.raw) (x := x.raw) (n := C) (g := 180) (fs := #[]) (cs := #[pb p]) sa sx h1 h2 (fun hok => by have := aLK (X := X) (w0 := w0) (M0 := M0) (I0 := I0) (p := p) hok.1.1 h1 h3; rw [MX.raw_c0 da] at this; exact this)
 have e0 : aKX a.raw x.raw C = 0 := by
  unfold aKX
  rw [if_pos da.ok, if_pos x.raw_good, if_pos (by show (x.es.map RE.raw).length = C; rw [List.length_map]; exact hl)]
 rw [e0, aEE, aWI] at hC
 have hA := fun M0 I0 h1 h2 => aII (X := X) (w0 := w0) (M0 := M0) (I0 := I0) (a := a) (x := x) (R := R) (C := C) (k := k) (m := m) hk hm (by omega) (by omega) da.1 hl h1 h2
 refine cZ (φ := wR a.raw) (Hv.xraw ha (by omega)) ?_
 refine cZ (φ := uX x.raw) (Hv.lraw (List.Mem.tail _ hx) (by omega)) ?_
 refine aX Tryz.func133 rfl Tryz.ntmps133 rfl ?_
 refine aG ?_
 refine aJ ?_
 (refine oC rfl rfl rfl ?_; intro p1; refine ⟨okF, ?_⟩)
 repeat (refine aK ?_)
 refine dP (φ := aO (some ⟨p1, 0, none⟩) [.slice a.raw.p a.raw.rows.length a.raw.c]) (by rw [MX.raw_rows]; exact Hv.mem aB) ?_
 (refine aA rfl (hC p1 _ _ aB aB aB) rfl rfl ?_; rintro _ _ _ ⟨rfl, rfl, rfl⟩; refine ⟨okF, ?_⟩)
 refine uY (M' := M0) (I' := aO (some ⟨p1, 0, none⟩) [.slice a.p a.rows.length a.c] :: uX x.raw :: wR a.raw :: I0) SubP.refl aC ?_
 repeat (refine aK ?_)
 (refine aA rfl (hA _ _ aB aB) rfl rfl ?_; rintro _ _ _ ⟨rfl, y, rfl, hy, rfl⟩; refine ⟨okF, ?_⟩)
 repeat (refine aK ?_)
 refine eP [4, 5] (by first | exact .inl rfl | exact .inr rfl) rfl rfl rfl _ _ aD aC (⟨rfl, y, rfl, hy, rfl⟩)
end
end Go.Proofs.YtjbhdfpjnjedhaaGreat
namespace Go.Proofs.YtjbhdfpjnjedhaaGreat
open Go Go.Fx
def wE (A : Mt) (R C : Nat) : Prop := A.length = R ∧ ∀ i, i < R → (rowAt A i).length = C
theorem rowAt_set {A : Mt} {i a : Nat} {l : List Rat} (hi : i < A.length) : rowAt (A.set i l) a = if a = i then l else rowAt A a := by
 unfold rowAt
 simp only [List.getD, List.getElem?_set]
 by_cases e : a = i
 ·subst e; simp [hi]
 ·have e' : ¬ i = a := fun h => e h.symm
  simp [e, e']
theorem aDY {A : Mt} {a : Nat} {f : Nat → List Rat → List Rat} (h : a < A.length) : rowAt (A.mapIdx f) a = f a (rowAt A a) := by
 simp [rowAt, List.getD, h]
theorem pG {A : Mt} {R C r k a : Nat} (h : wE A R C) (hr : r < R) (hk : k < R) : rowAt (swp A r k) a = rowAt A (tr r k a) := by
 unfold swp
 rw [rowAt_set (by rw [List.length_set, h.1]; exact hk), rowAt_set (by rw [h.1]; exact hr)]
 simp only [tr]
 by_cases e1 : a = k
 ·subst e1
  rw [if_pos rfl]
  by_cases e2 : a = r
  ·rw [if_pos e2, e2]
  ·rw [if_neg e2, if_pos rfl]
 ·rw [if_neg e1, if_neg e1]
  by_cases e2 : a = r
  ·rw [if_pos e2, if_pos e2]
  ·rw [if_neg e2, if_neg e2]
theorem aEU {A : Mt} {R C r k : Nat} (h : wE A R C) (hr : r < R) (hk : k < R) : wE (swp A r k) R C :=
 ⟨by unfold swp; rw [List.length_set, List.length_set]; exact h.1, fun i hi => by rw [pG h hr hk]; exact h.2 _ (yE hr hk hi)⟩
theorem tC {l : List Rat} {f : Nat → Rat → Rat} {c : Nat} (h : c < l.length) : (l.mapIdx f).getD c 0 = f c (l.getD c 0) := by
 simp [List.getD, h]
theorem aBN {B : Mt} {r j a : Nat} {pr : List Rat} (h : a < B.length) : rowAt (uM B r j pr) a = if a = r then rowAt B a else if (rowAt B a).getD j 0 = 0 then rowAt B a else jZ j ((rowAt B a).getD j 0) pr (rowAt B a) := by
 unfold uM
 rw [aDY h]
theorem aPA {A : Mt} {R C r j x : Nat} (h : wE A R C) (hr : r < R) (hx : x < R) : wE (wC A r j x) R C := by
 have hs := aEU (r := r) (k := x) h hr hx
 unfold wC
 refine ⟨by unfold uM; rw [List.length_mapIdx, List.length_set]; exact hs.1, fun i hi => ?_⟩
 have hb : rowAt ((swp A r x).set r (jE j (1 / at2 (swp A r x) r j) (rowAt (swp A r x) r))) i = if i = r then jE j (1 / at2 (swp A r x) r j) (rowAt (swp A r x) r) else rowAt (swp A r x) i := rowAt_set (by rw [hs.1]; exact hr)
 rw [aBN (by rw [List.length_set, hs.1]; exact hi), hb]
 by_cases e : i = r
 ·rw [if_pos e, if_pos e]; simp only [jE, List.length_mapIdx]; exact hs.2 r hr
 ·rw [if_neg e, if_neg e]
  split
  ·exact hs.2 i hi
  ·simp only [jZ, List.length_mapIdx]; exact hs.2 i hi
theorem aOK {A : Mt} {R C r j x : Nat} (h : wE A R C) (hr : r < R) (hx : x < R) (hj : j < C) (hz : ∀ b, b < j → at2 A x b = 0) : ∀ a b, a < R → b < C →
  at2 (wC A r j x) a b = elm r x (1 / at2 A x j) (fun a => at2 A (tr r x a) j) (at2 A) a b := by
 intro a b ha hb
 have hs := aEU (r := r) (k := x) h hr hx
 have hat : ∀ i c, at2 (swp A r x) i c = at2 A (tr r x i) c := fun i c => by unfold at2; rw [pG h hr hx]
 have htr : tr r x r = x := by simp [tr]
 have hrow : (rowAt (swp A r x) r) = rowAt A x := by rw [pG h hr hx, htr]
 have hκ : at2 (swp A r x) r j = at2 A x j := by rw [hat, htr]
 obtain ⟨κ, hk⟩ : ∃ κ, κ = 1 / at2 A x j := ⟨_, rfl⟩
 rw [← hk]
 have hpr : ∀ c, c < C → (jE j κ (rowAt A x)).getD c 0 = κ * at2 A x c := fun c hc => by
  unfold jE
  rw [tC (by rw [h.2 x hx]; exact hc)]
  by_cases e : c < j
  ·rw [if_pos e]
   have := hz c e
   rw [this]
   unfold at2 at this
   rw [this]; grind
  ·rw [if_neg e]; rfl
 have e1 : at2 (wC A r j x) a b = (rowAt (wC A r j x) a).getD b 0 := rfl
 rw [e1]
 unfold wC
 rw [hκ, hrow, ← hk]
 have hbb : rowAt ((swp A r x).set r (jE j κ (rowAt A x))) a = if a = r then jE j κ (rowAt A x) else rowAt (swp A r x) a := rowAt_set (by rw [hs.1]; exact hr)
 rw [aBN (by rw [List.length_set, hs.1]; exact ha), hbb]
 simp only [elm, htr]
 by_cases e : a = r
 ·rw [if_pos e, if_pos e, if_pos e]; exact hpr b hb
 ·rw [if_neg e, if_neg e, if_neg e, pG h hr hx]
  have hc : (rowAt A (tr r x a)).getD j 0 = at2 A (tr r x a) j := rfl
  rw [hc]
  by_cases e0 : at2 A (tr r x a) j = 0
  ·rw [if_pos e0, e0]
   show at2 A (tr r x a) b = _
   grind
  ·rw [if_neg e0]
   unfold jZ
   rw [tC (by rw [h.2 _ (yE hr hx ha)]; exact hb)]
   show (if b < j then at2 A (tr r x a) b else at2 A (tr r x a) b - _) = _
   by_cases ej : b < j
   ·rw [if_pos ej, hz b ej]; grind
   ·rw [if_neg ej, hpr b hb]
theorem aAB {A : Mt} {j : Nat} : ∀ (f k : Nat), k + f = A.length → ∀ i, k ≤ i → i < nG A j f k → at2 A i j = 0
 | 0, k, _, i, h1, h2 => by simp [nG] at h2; omega
 | f + 1, k, h, i, h1, h2 => by
  unfold nG at h2
  by_cases hc : k < A.length ∧ at2 A k j = 0
  ·rw [if_pos hc] at h2
   by_cases e : i = k
   ·subst e; exact hc.2
   ·exact aAB f (k + 1) (by omega) i (by omega) h2
  ·rw [if_neg hc] at h2; omega
theorem aAR {A : Mt} {R C : Nat} (h : wE A R C) : ∀ n, n ≤ C → wE (qA A n).1 R C ∧ ∃ s, Red R C n (at2 A) (at2 (qA A n).1) (qA A n).2 s
 | 0, _ => ⟨h, 1, Red.start⟩
 | n + 1, hn => by
  obtain ⟨hd, s, hr⟩ := aAR h n (by omega)
  rw [xD]
  generalize qA A n = st at hd hr
  obtain ⟨B, pv⟩ := st
  simp only at hd hr
  have hlen := hr.len
  obtain ⟨f1, f2, f3⟩ := aFR (A := B) (j := n) (B.length - pv.length) pv.length (by rw [hd.1]; omega)
  have f4 := aAB (A := B) (j := n) (B.length - pv.length) pv.length (by rw [hd.1]; omega)
  unfold aQY
  simp only
  generalize nG B n (B.length - pv.length) pv.length = x at f1 f2 f3 f4
  by_cases hx : x < B.length
  ·rw [if_pos hx]
   rw [hd.1] at hx
   refine ⟨aPA hd (by omega) hx, _, hr.step (x := x) (by omega) f1 hx (f3 (by rw [hd.1]; exact hx)) (aOK hd (by omega) hx (by omega) (fun b hb => hr.zero x b f1 hx hb))⟩
  ·rw [if_neg hx]
   exact ⟨hd, s, hr.none (fun i h1 h2 => f4 i h1 (by rw [hd.1] at hx; omega))⟩
end Go.Proofs.YtjbhdfpjnjedhaaGreat
namespace Go.Proofs.YtjbhdfpjnjedhaaGreat
open Go Go.Fx
def offP (pv : List Nat) (z : Nat → Rat) : Nat → Rat := fun j => if j ∈ pv then 0 else z j
section
variable {R C R' : Nat} {f0 f g0 g : Nat → Nat → Rat} {pv qv : List Nat} {s s' : Rat}
end
end Go.Proofs.YtjbhdfpjnjedhaaGreat
namespace Go.Proofs.YtjbhdfpjnjedhaaGreat
open Go Go.Fx
def nullF (f : Nat → Nat → Rat) (pv : List Nat) (j c : Nat) : Rat := if c ∈ pv then - f (pv.idxOf c) j else if c = j then 1 else 0
def freeP (pv : List Nat) (C : Nat) : List Nat := (List.range C).filter (fun j => decide (j ∉ pv))
def nullV (E : Mt) (pv : List Nat) (C j : Nat) : List Rat := (List.range C).map (nullF (at2 E) pv j)
def nullM (E : Mt) (pv : List Nat) (C : Nat) : Mt := (freeP pv C).map (nullV E pv C)
def aUU (A : Mt) (C : Nat) : Mt := nullM (qA A C).1 (qA A C).2 C
def rk (A : Mt) (C : Nat) : Nat := (qA A C).2.length
section
variable {R C : Nat} {f0 f : Nat → Nat → Rat} {pv : List Nat} {s : Rat}
end
/- systems: the right side is the column C of a wider matrix -/
section
variable {R C W : Nat} {f0 f : Nat → Nat → Rat} {pv : List Nat} {s : Rat}
def solF (f : Nat → Nat → Rat) (pv : List Nat) (C c : Nat) : Rat := if c ∈ pv then f (pv.idxOf c) C else 0
def solOk (R C : Nat) (f : Nat → Nat → Rat) (pv : List Nat) : Prop := ∀ i, pv.length ≤ i → i < R → f i C = 0
def ext1 (C : Nat) (x : Nat → Rat) (y : Rat) : Nat → Rat := fun j => if j < C then x j else if j = C then y else 0
end
end Go.Proofs.YtjbhdfpjnjedhaaGreat
namespace Go.Proofs.YtjbhdfpjnjedhaaGreat
open Go Go.Fx
abbrev pvI (q : Option Addr) (pv : List Nat) : aY := aO q (recs eZ (zs pv))
def EchP (A : Mt) (R C k : Nat) (M0 : List Ent) (I0 : List aY) (v : Value) (M : List Ent) (I : List aY) : Prop :=
 M0 = M ∧ ∃ (m : MX) (pv : List Nat) (q : Option Addr) (c : Nat), v = .tuple #[mv m, .slice q pv.length c, .int .i64 0] ∧ qA A C = (m.q, pv) ∧ m.dim R C ∧ I = pvI q pv :: jF m k :: I0
def NlP (A : Mt) (C k : Nat) (M0 : List Ent) (I0 : List aY) (v : Value) (M : List Ent) (I : List aY) : Prop :=
 M0 = M ∧ ∃ m : MX, v = .tuple #[mv m, .int .i64 0] ∧ m.q = aUU A C ∧ (∀ r ∈ m.rows, r.es.length = C) ∧ I = jF m k :: I0
section
variable {X : List Nat} {w0 : World} {M : List Ent} {I : List aY}
theorem Mem.blkL {w : World} {b k : Nat} {es : List RE} {ty : TypeId} (h : Mem X w0 (.blk b (recs eR es) ty :: M) I w) (ha : cO es k ∈ I) : Mem X w0 M (iZ ⟨some ⟨b, 0, none⟩, es.length, es⟩ k :: I) w := by
 have h1 := h.freezeB .here
 refine (h1.add (φ := iZ ⟨some ⟨b, 0, none⟩, es.length, es⟩ k) ⟨(h1.sl (List.Mem.head _)), (((h1.imm _ (List.Mem.tail _ ha)).2 : AllR es k _ w)).go, ⟨Nat.le_refl _, .inl (Ok.mk _ _)⟩⟩).inc (.of fun φ hφ => ?_)
 rcases List.mem_cons.1 hφ with rfl | hφ
 ·exact List.Mem.head _
 ·exact List.Mem.tail _ (List.Mem.tail _ hφ)
variable {P : Program} {n : Nat} {Q : Exit → Act → World → Prop} {G : Env}
theorem aKZ {ops l : List Oper} {m : Fx.Mode} {b k : Nat} {es : List RE} {ty : TypeId} (ha : cO es k ∈ I) (h : RD P n ops Q m l G X w0 M (iZ ⟨some ⟨b, 0, none⟩, es.length, es⟩ k :: I)) : RD P n ops Q m l G X w0 (.blk b (recs eR es) ty :: M) I := sW (fun _ hw => Mem.blkL hw ha) h
theorem aJW {cd : Code} {b k : Nat} {es : List RE} {ty : TypeId} (ha : cO es k ∈ I) (h : TD P n cd Q G X w0 M (iZ ⟨some ⟨b, 0, none⟩, es.length, es⟩ k :: I)) : TD P n cd Q G X w0 (.blk b (recs eR es) ty :: M) I := yT (fun _ hw => Mem.blkL hw ha) h
end
section
variable {X : List Nat} {w0 : World} {M0 : List Ent} {I0 : List aY}
/- reduce, and what it changed is only read from now on -/
/- a matrix made is only read from now on -/
end
end Go.Proofs.YtjbhdfpjnjedhaaGreat
namespace Go.Proofs.YtjbhdfpjnjedhaaGreat
open Go Go.Fx
section
variable {X : List Nat} {w0 : World} {M0 : List Ent} {I0 : List aY}
theorem aDR {q : Option Addr} {n c : Nat} : CD Tryz.prog 64 [.slice q n c] X w0 M0 I0 (fun v M I => M0 = M ∧ ∃ b, v = .func (.func 108) #[] #[.pointer (some ⟨b, 0, none⟩)] ∧ I = aO (some ⟨b, 0, none⟩) [.slice q n c] :: I0) := by
 refine aZ Tryz.func64 rfl Tryz.ntmps64 rfl ?_
 refine aG ?_
 refine aJ ?_
 (refine oC rfl rfl rfl ?_; intro b1; refine ⟨okF, ?_⟩)
 repeat (refine aK ?_)
 refine aH (by first | exact .inl rfl | exact .inr rfl) rfl rfl _ _ aD aC (⟨rfl, b1, rfl, rfl⟩)
end
end Go.Proofs.YtjbhdfpjnjedhaaGreat

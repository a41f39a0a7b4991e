/- matrix: the functions that the elements are made by; dot. matrix: Add, Sub, Scale, Mul, Transpose, Apply, Identity, of matrices and of what is none. The document's minor and determinant. Matrices that the document builds and then writes into: rows with room behind them. The document's unit matrix, copy, sum, product, transposed matrix. The document's product, transposed matrix, product with a list. matrix: Mul, Apply, of matrices and of what is none. Elimination of lists of rows is elimination of numbers. -/
import Derived.Test.YtjbhdfpjnjedhaaGreatZqau
import Derived.Test.YtjbhdfpjnjedhaaGreatZqav
import Derived.Test.YtjbhdfpjnjedhaaGreatZqar
set_option linter.unusedSimpArgs false
set_option linter.unusedVariables false
set_option maxRecDepth 100000
set_option maxHeartbeats 4000000
namespace Go.Proofs.YtjbhdfpjnjedhaaGreat
open Go Go.Fx
abbrev pb (b : Nat) : Value := .pointer (some ⟨b, 0, none⟩)
abbrev bxX (b : Nat) (m : MX) : aT := aR (some ⟨b, 0, none⟩) [.slice m.p m.rows.length m.c]
def dotQ (n : Nat) (x y : List Rat) : Rat := sm n (fun t => x.getD t 0 * y.getD t 0)
theorem aUT {m : MX} {i : Nat} (hi : i < m.rows.length) : rowAt m.q i = (gt m.rows (i : Int)).q := by
 unfold rowAt
 rw [gN hi]
 simp [List.getD, hi]
section
variable {X : List Nat} {w0 : World} {M0 : List Ent} {I0 : List aT}
theorem aJR {a : MX} {p k i j : Nat} (hi : i < a.rows.length) (hj : j < (gt a.rows (i : Int)).es.length)
  (ha : lT a k ∈ I0) (fa : bxX p a ∈ I0) :
  CD Tryz.prog 220 [.int .i64 (i : Int), .int .i64 (j : Int), pb p] X w0 M0 I0 (RQ (at2 a.q i j) k M0 I0) := by
 rw [aDW hi hj]
 refine bK (φ := aR (a).p (recs eL (a).rows)) (Hv.xsl aB) ?_
 refine bK (φ := aR (gt (a).rows (i : Int)).p (recs eR (gt (a).rows (i : Int)).es)) (Hv.xrsl aB (by omega)) ?_
 refine kZ Tryz.func220 rfl Tryz.ntmps220 rfl ?_
 refine aH ?_
 refine aI ?_
 (refine aF rfl rfl ?_; intro br; refine ⟨okF, ?_⟩)
 repeat (refine aJ ?_)
 refine iI (φ := gQ (gt (gt a.rows (i : Int)).es (j : Int)) k) (Hv.xel aB (by omega) (by omega)) ?_
 refine bJ (cs := eR (gt (gt a.rows (i : Int)).es (j : Int))) (.inl rfl) rfl rfl aB rfl M0 (gQ (gt (gt a.rows (i : Int)).es (j : Int)) k :: I0) aG aD ⟨rfl, _, rfl, rfl, rfl⟩
theorem aJK {a b : MX} {p q k m i j C : Nat} (hC : (gt a.rows 0).es.length = C) (hR : 1 ≤ a.rows.length) (hi : i < a.rows.length) (hj : (gt a.rows (i : Int)).es.length = C) (hi2 : i < b.rows.length) (hj2 : j < C + (gt b.rows (i : Int)).es.length) (hB : (gt b.rows (i : Int)).es.length ≤ 200) (hk : k ≤ m) (hCC : C ≤ 200)
  (ha : lT a k ∈ I0) (hb : lT b m ∈ I0) (fa : bxX p a ∈ I0) (fb : bxX q b ∈ I0) :
  CD Tryz.prog 222 [.int .i64 (i : Int), .int .i64 (j : Int), pb p, pb q] X w0 M0 I0 (RQ (if j < C then at2 a.q i j else at2 b.q i (j - C)) m M0 I0) := by
 by_cases hjC : j < C
 ·rw [if_pos hjC, aDW hi (by omega)]
  refine bK (φ := aR (a).p (recs eL (a).rows)) (Hv.xsl aB) ?_
  refine bK (φ := aR (gt (a).rows (i : Int)).p (recs eR (gt (a).rows (i : Int)).es)) (Hv.xrsl aB (by omega)) ?_
  refine wQ Tryz.func222 rfl Tryz.ntmps222 rfl ?_
  refine aH ?_
  refine aI ?_
  (refine aF rfl rfl ?_; intro br; refine ⟨okF, ?_⟩)
  repeat (refine aJ ?_)
  refine iI (φ := gQ (gt (gt a.rows (i : Int)).es (j : Int)) k) (Hv.xel aB (by omega) (by omega)) ?_
  refine iI (φ := gQ (gt (gt a.rows (i : Int)).es (j : Int)) m) (Hv.q (k := k) (List.Mem.head _) hk) ?_
  refine bJ (cs := eR (gt (gt a.rows (i : Int)).es (j : Int))) (.inl rfl) rfl rfl aB rfl M0 (gQ (gt (gt a.rows (i : Int)).es (j : Int)) m :: I0) aG aD ⟨rfl, _, rfl, rfl, rfl⟩
 ·obtain ⟨u, rfl⟩ : ∃ u, j = C + u := ⟨j - C, by omega⟩
  rw [if_neg hjC, Nat.add_sub_cancel_left, aDW hi2 (by omega)]
  have eu : ((C + u : Nat) : Int) - ((gt a.rows 0).es.length : Int) = (u : Int) := by omega
  refine bK (φ := aR (a).p (recs eL (a).rows)) (Hv.xsl aB) ?_
  refine bK (φ := aR (b).p (recs eL (b).rows)) (Hv.xsl aB) ?_
  refine bK (φ := aR (gt (b).rows (i : Int)).p (recs eR (gt (b).rows (i : Int)).es)) (Hv.xrsl aB (by omega)) ?_
  refine wQ Tryz.func222 rfl Tryz.ntmps222 rfl ?_
  refine aH ?_
  refine aI ?_
  (refine aF rfl rfl ?_; intro br; refine ⟨okF, ?_⟩)
  repeat (refine aJ ?_)
  (repeat refine aH ?_); refine cZ 0 [0, 1, 2, 3, 4, 5, 6, 7, 8, 9, 10, 11, 12] [0, 0, 0, 0, 0, 0, 0, 0, 0, 0, 0, 0, 0] mixed (by kernel_rfl) ?_
  repeat (refine aJ ?_)
  rw [eu]
  repeat (refine aJ ?_)
  refine iI (φ := gQ (gt (gt b.rows (i : Int)).es (u : Int)) m) (Hv.xel aB (by omega) (by omega)) ?_
  refine bJ (cs := eR (gt (gt b.rows (i : Int)).es (u : Int))) (.inl rfl) rfl rfl aB rfl M0 (gQ (gt (gt b.rows (i : Int)).es (u : Int)) m :: I0) aG aD ⟨rfl, _, rfl, rfl, rfl⟩
theorem aHP {a : MX} {p q k i j n : Nat} (hi : i < a.rows.length) (hj : n + j < (gt a.rows (i : Int)).es.length) (hn : n ≤ 100) (hjj : j ≤ 100)
  (ha : lT a k ∈ I0) (fa : bxX p a ∈ I0) (fn : aR (some ⟨q, 0, none⟩) [.int .i64 (n : Int)] ∈ I0) :
  CD Tryz.prog 178 [.int .i64 (i : Int), .int .i64 (j : Int), pb p, pb q] X w0 M0 I0 (RQ (at2 a.q i (n + j)) k M0 I0) := by
 rw [aDW hi hj]
 have eu : (n : Int) + (j : Int) = ((n + j : Nat) : Int) := by omega
 refine bK (φ := aR (a).p (recs eL (a).rows)) (Hv.xsl aB) ?_
 refine bK (φ := aR (gt (a).rows (i : Int)).p (recs eR (gt (a).rows (i : Int)).es)) (Hv.xrsl aB (by omega)) ?_
 refine wQ Tryz.func178 rfl Tryz.ntmps178 rfl ?_
 refine aH ?_
 refine aI ?_
 (refine aF rfl rfl ?_; intro br; refine ⟨okF, ?_⟩)
 repeat (refine aJ ?_)
 (repeat refine aH ?_); refine cZ 0 [0, 1, 2, 3, 4, 5, 6, 7, 8, 9] [0, 0, 0, 0, 0, 0, 0, 0, 0, 0] mixed (by kernel_rfl) ?_
 repeat (refine aJ ?_)
 rw [eu]
 repeat (refine aJ ?_)
 refine iI (φ := gQ (gt (gt a.rows (i : Int)).es ((n + j : Nat) : Int)) k) (Hv.xel aB (by omega) (by omega)) ?_
 refine bJ (cs := eR (gt (gt a.rows (i : Int)).es ((n + j : Nat) : Int))) (.inl rfl) rfl rfl aB rfl M0 (gQ (gt (gt a.rows (i : Int)).es ((n + j : Nat) : Int)) k :: I0) aG aD ⟨rfl, _, rfl, rfl, rfl⟩
theorem aXR {a b : RL} {ka kb n : Nat} (hn : n ≤ 200) (hK : n * (ka + kb + 1) ≤ 100000000000) (la : a.es.length = n) (lb : b.es.length = n) (ha : nT a ka ∈ I0) (hb : nT b kb ∈ I0) :
  CD Tryz.prog 224 [lv a, lv b] X w0 M0 I0 (RQ (dotQ n a.q b.q) (n * (ka + kb + 1)) M0 I0) := by
 refine bK (φ := aR (a).p (recs eR (a).es)) (Hv.lsl aB) ?_
 refine bK (φ := aR (b).p (recs eR (b).es)) (Hv.lsl aB) ?_
 have hW := fun M0 I0 => sQ (X := X) (w0 := w0) (M0 := M0) (I0 := I0) (x := 0) (by decide) (k := 0) (by decide)
 refine bL Tryz.func224 rfl Tryz.ntmps224 rfl ?_
 refine aH ?_
 refine aI ?_
 (refine aF rfl rfl ?_; intro b4; refine ⟨okF, ?_⟩)
 repeat (refine aJ ?_)
 (refine aA rfl (hW _ _) rfl rfl ?_; rintro _ _ _ ⟨rfl, e0, rfl, he0, rfl⟩; refine ⟨okF, ?_⟩)
 repeat (refine aJ ?_)
 (refine aF rfl rfl ?_; intro b5; refine ⟨okF, ?_⟩)
 repeat (refine aJ ?_)
 refine aZ [1, 4, 5, 9, 10] rfl (fun k G M I => ∃ (t : Nat) (s : RE), t ≤ n ∧ k = n - t ∧ s.q = sm t (fun t => a.q.getD t 0 * b.q.getD t 0) ∧ G = [(11, .int .i64 t)] ∧ M = .blk b5 (eR s) 50 :: .blk b4 [.bool false, .slice none 0 0, .bool false, .slice none 0 0] 50 :: M0 ∧ I = gQ s (t * (ka + kb + 1)) :: aR b.p (recs eR b.es) :: aR a.p (recs eR a.es) :: I0) (n) _ _ _ aL aG aD (⟨0, e0, by omega, rfl, he0, rfl, rfl, by rw [Nat.zero_mul]⟩) ?_
 rintro kk G M I ⟨t, s, ht, rfl, hs, rfl, rfl, rfl⟩
 have hu : t * (ka + kb + 1) ≤ 100000000000 := Nat.le_trans (Nat.mul_le_mul_right _ ht) hK
 by_cases htn : t < n
 ·have hu2 : (t + 1) * (ka + kb + 1) = t * (ka + kb + 1) + (ka + kb) + 1 := by rw [Nat.succ_mul]; omega
  have hK2 : (t + 1) * (ka + kb + 1) ≤ 100000000000 := Nat.le_trans (Nat.mul_le_mul_right _ htn) hK
  have hva : Hv (gQ s (t * (ka + kb + 1)) :: aR b.p (recs eR b.es) :: aR a.p (recs eR a.es) :: I0) (gQ (gt a.es (t : Int)) ka) := Hv.lel aB (by omega)
  have hvb : Hv (gQ s (t * (ka + kb + 1)) :: aR b.p (recs eR b.es) :: aR a.p (recs eR a.es) :: I0) (gQ (gt b.es (t : Int)) kb) := Hv.lel aB (by omega)
  have hS1 := fun M0 => mV (X := X) (w0 := w0) (M0 := M0) (e := gt a.es (t : Int)) (k := ka) (by omega) hva
  have hS2 := fun M0 => mV (X := X) (w0 := w0) (M0 := M0) (e := gt b.es (t : Int)) (k := kb) (by omega) hvb
  have hq : sm (t + 1) (fun t => a.q.getD t 0 * b.q.getD t 0) = s.q + (gt a.es (t : Int)).q * (gt b.es (t : Int)).q := by
   simp only [sm]
   rw [hs, oK (by omega), oK (by omega)]
  generalize t * (ka + kb + 1) = u at *
  by_cases h1 : (gt a.es (t : Int)).q = 0
  ·rw [(qZ _).2 h1] at hS1
   repeat (refine aJ ?_)
   (refine aF rfl rfl ?_; intro b7; refine ⟨okF, ?_⟩)
   repeat (refine aJ ?_)
   (refine aA rfl (hS1 _) rfl rfl ?_; rintro _ _ _ ⟨rfl, rfl, rfl⟩; refine ⟨okF, ?_⟩)
   repeat (refine aJ ?_)
   refine iI (φ := gQ s ((t + 1) * (ka + kb + 1))) (Hv.q (k := u) aB (by omega)) ?_
   refine aK (n - (t + 1)) _ _ _ (by first | omega | (simp only [List.length_append, List.length_cons, List.length_nil]; omega)) aL aG aD (⟨t + 1, s, by omega, rfl, by rw [hq, h1]; grind, rfl, rfl, rfl⟩)
  ·have hs1 : ¬ (gt a.es (t : Int)).q.num.sign = 0 := fun h => h1 ((qZ _).1 h)
   generalize (gt a.es (t : Int)).q.num.sign = sg1 at *
   by_cases h2 : (gt b.es (t : Int)).q = 0
   ·rw [(qZ _).2 h2] at hS2
    repeat (refine aJ ?_)
    (refine aF rfl rfl ?_; intro b7; refine ⟨okF, ?_⟩)
    repeat (refine aJ ?_)
    (refine aA rfl (hS1 _) rfl rfl ?_; rintro _ _ _ ⟨rfl, rfl, rfl⟩; refine ⟨okF, ?_⟩)
    repeat (refine aJ ?_)
    (refine aA rfl (hS2 _) rfl rfl ?_; rintro _ _ _ ⟨rfl, rfl, rfl⟩; refine ⟨okF, ?_⟩)
    repeat (refine aJ ?_)
    refine iI (φ := gQ s ((t + 1) * (ka + kb + 1))) (Hv.q (k := u) aB (by omega)) ?_
    refine aK (n - (t + 1)) _ _ _ (by first | omega | (simp only [List.length_append, List.length_cons, List.length_nil]; omega)) aL aG aD (⟨t + 1, s, by omega, rfl, by rw [hq, h2]; grind, rfl, rfl, rfl⟩)
   ·have hs2 : ¬ (gt b.es (t : Int)).q.num.sign = 0 := fun h => h2 ((qZ _).1 h)
    generalize (gt b.es (t : Int)).q.num.sign = sg2 at *
    repeat (refine aJ ?_)
    (refine aF rfl rfl ?_; intro b7; refine ⟨okF, ?_⟩)
    repeat (refine aJ ?_)
    (refine aA rfl (hS1 _) rfl rfl ?_; rintro _ _ _ ⟨rfl, rfl, rfl⟩; refine ⟨okF, ?_⟩)
    repeat (refine aJ ?_)
    (refine aA rfl (hS2 _) rfl rfl ?_; rintro _ _ _ ⟨rfl, rfl, rfl⟩; refine ⟨okF, ?_⟩)
    repeat (refine aJ ?_)
    (repeat refine aH ?_); refine cZ 2 [0, 1, 2, 3, 4, 5, 6, 7, 8] [1, 1, 2, 2, 2, 1, 0, 0, 0] mixed (by kernel_rfl) ?_
    repeat (refine aJ ?_)
    (refine aA rfl (qX (k := ka) (m := kb) (by omega) hva hvb) rfl rfl ?_; rintro _ _ _ ⟨rfl, e2, rfl, he2, rfl⟩; refine ⟨okF, ?_⟩)
    (refine aA rfl (tC (k := u) (m := ka + kb) (by omega) (Hv.mem aB) (Hv.mem aB)) rfl rfl ?_; rintro _ _ _ ⟨rfl, e3, rfl, he3, rfl⟩; refine ⟨okF, ?_⟩)
    repeat (refine aJ ?_)
    rw [← hu2]
    refine aK (n - (t + 1)) _ _ _ (by first | omega | (simp only [List.length_append, List.length_cons, List.length_nil]; omega)) aL aG aD (⟨t + 1, e3, by omega, rfl, by rw [hq, he3, he2], rfl, rfl, rfl⟩)
 ·obtain rfl : t = n := by omega
  repeat (refine aJ ?_)
  refine bJ (cs := eR s) (.inl rfl) rfl rfl aB rfl M0 (gQ s (t * (ka + kb + 1)) :: I0) aG aD ⟨rfl, s, rfl, hs, rfl⟩
end
end Go.Proofs.YtjbhdfpjnjedhaaGreat
namespace Go.Proofs.YtjbhdfpjnjedhaaGreat
open Go Go.Fx
theorem aVU {i j : Nat} : nG i j = if (i : Int) = (j : Int) then (1 : Rat) else 0 := by
 unfold nG
 by_cases e : i = j
 ·rw [if_pos e, if_pos (by omega)]
 ·rw [if_neg e, if_neg (by omega)]
theorem lK {M M' : List Ent} (h : SubP M M') : ∀ {xs : List Ent}, SubP (xs ++ M) M'
 | [] => h
 | _ :: _ => .drop (lK h)
def MX.fit (m : MX) (R C : Nat) : Prop := m.dim R C ∧ (1 ≤ R ∧ R ≤ 64) ∧ (1 ≤ C ∧ C ≤ 64)
theorem MX.fit.r0 {m : MX} {R C : Nat} (h : m.fit R C) : (gt m.rows 0).es.length = C := by
 have := h.1.row (i := 0) (by have := h.2.1; omega)
 exact this
theorem MX.fit.ok {m : MX} {R C : Nat} (h : m.fit R C) : m.raw.ok := aXZ h.1 h.2.1 h.2.2
theorem MX.raw_rows (m : MX) : m.raw.rows.length = m.rows.length := by show (m.rows.map RL.raw).length = _; rw [List.length_map]
theorem MX.raw_c0 {m : MX} {R C : Nat} (h : m.fit R C) : (gt m.raw.rows 0).es.length = C := by
 have e : m.raw.rows = m.rows.map RL.raw := rfl
 rw [e, aIG (by have := h.1.1; have := h.2.1; omega)]
 show ((gt m.rows 0).es.map RE.raw).length = C
 rw [List.length_map]; exact h.r0
section
variable {P : Program} {f : FuncId} {vs : List Value} {X : List Nat} {w0 : World} {M : List Ent} {I : List aT}
theorem wL {K : Value → List Ent → List aT → Prop} {φ : Prop} (h : ∀ w, Mem X w0 M I w → φ) (k : φ → CD P f vs X w0 M I K) : CD P f vs X w0 M I K := ⟨fun w hw => (k (h w hw)).go w hw⟩
theorem Mem.xsml {w : World} {m : MX} {R C k : Nat} (hm : lT m k ∈ I) (hd : m.fit R C) (hk : k ≤ 20000000000) (hw : Mem X w0 M I w) : m.raw.sml := by
 have h : IsX m k (muts M) w := (hw.imm _ hm).2
 refine ⟨by rw [m.raw_rows, hd.1.1]; have := hd.2.1; omega, fun r hr => ?_⟩
 obtain ⟨s, hs, rfl⟩ := List.mem_map.1 hr
 refine ⟨by show (s.es.map RE.raw).length ≤ _; rw [List.length_map, hd.1.2 s hs]; have := hd.2.2; omega, fun e he => ?_⟩
 obtain ⟨x, hx, rfl⟩ := List.mem_map.1 he
 exact IsR.sml hk ((h.row s hs).el x hx)
theorem Mem.lsml {w : World} {r : RL} {k : Nat} (hm : nT r k ∈ I) (hl : r.es.length ≤ 1000000000) (hk : k ≤ 20000000000) (hw : Mem X w0 M I w) : r.raw.sml := by
 have h : IsL r k (muts M) w := (hw.imm _ hm).2
 refine ⟨by show (r.es.map RE.raw).length ≤ _; rw [List.length_map]; exact hl, fun e he => ?_⟩
 obtain ⟨x, hx, rfl⟩ := List.mem_map.1 he
 exact IsR.sml hk (h.el x hx)
end
section
variable {X : List Nat} {w0 : World} {M0 : List Ent} {I0 : List aT}
theorem aJV {a : MX} {R C k : Nat} (da : a.fit R C) (ha : lT a k ∈ I0) : CD Tryz.prog 162 [mv a] X w0 M0 I0 (MkP R C (at2 a.q) k M0 I0) := by
 have lR := da.1.1
 have lC := da.r0
 obtain ⟨r1, r2⟩ := da.2.1
 obtain ⟨c1, c2⟩ := da.2.2
 refine bK (φ := aR (a).p (recs eL (a).rows)) (Hv.xsl aB) ?_
 refine bN Tryz.func162 rfl Tryz.ntmps162 rfl ?_
 refine aH ?_
 refine aI ?_
 (refine oJ rfl rfl rfl ?_; intro p1; refine ⟨okF, ?_⟩)
 repeat (refine aJ ?_)
 (repeat refine aH ?_); refine gY [0, 1, 2, 3, 4, 5, 6, 7, 8] [1, 0, 1, 1, 1, 0, 0, 0, 0] mixed (by kernel_rfl) ?_
 repeat (refine aJ ?_)
 have hg := fun M I (hI : ∀ φ ∈ aR (some ⟨p1, 0, none⟩) [.slice a.p a.rows.length a.c] :: aR a.p (recs eL a.rows) :: I0, φ ∈ I) (i j : Nat) (hi : i < a.rows.length) (hj : j < (gt a.rows 0).es.length) => aJR (X := X) (w0 := w0) (M0 := M) (I0 := I) (a := a) (p := p1) (k := k) (i := i) (j := j) (by omega) (by rw [da.1.row (by omega)]; omega) (hI _ aB) (hI _ aB)
 (refine aA rfl (aAF (R := a.rows.length) (C := (gt a.rows 0).es.length) (g := 220) (fs := #[]) (cs := #[pb p1]) (k0 := k) (by omega) (by omega) (at2 a.q) hg) rfl rfl ?_; rintro _ _ _ ⟨bo, rows, rfl, h1, h2, h3, rfl, rfl⟩; refine ⟨OkD.any (SubP.drop (lK SubP.refl)) aD, ?_⟩)
 rw [lR] at h1
 rw [lC] at h2
 rw [lR, lC] at h3
 have e1 : (a.rows.length : Int) = R := by omega
 repeat (refine aJ ?_)
 refine aM (by first | exact .inl rfl | exact .inr rfl) rfl rfl _ _ aG aD (⟨bo, rows, by rw [lR], h1, h2, h3, rfl, rfl⟩)
theorem aOK {a b : MX} {R C D k : Nat} (da : a.fit R C) (db : b.fit R D) (ha : lT a k ∈ I0) (hb : lT b k ∈ I0) : CD Tryz.prog 174 [mv a, mv b] X w0 M0 I0 (MkP R (C + D) (fun i j => if j < C then at2 a.q i j else at2 b.q i (j - C)) k M0 I0) := by
 have lR := da.1.1
 have lR2 := db.1.1
 have lC := da.r0
 have lD := db.r0
 obtain ⟨r1, r2⟩ := da.2.1
 obtain ⟨c1, c2⟩ := da.2.2
 obtain ⟨d1, d2⟩ := db.2.2
 refine bK (φ := aR (a).p (recs eL (a).rows)) (Hv.xsl aB) ?_
 refine bK (φ := aR (b).p (recs eL (b).rows)) (Hv.xsl aB) ?_
 refine bL Tryz.func174 rfl Tryz.ntmps174 rfl ?_
 refine aH ?_
 refine aI ?_
 (refine oJ rfl rfl rfl ?_; intro p1; refine ⟨okF, ?_⟩)
 (refine oJ rfl rfl rfl ?_; intro p2; refine ⟨okF, ?_⟩)
 repeat (refine aJ ?_)
 (repeat refine aH ?_); refine gY [0, 1, 2, 3, 4, 5, 6, 7, 8, 9, 10, 11, 12, 13] [1, 0, 1, 1, 1, 1, 1, 1, 1, 1, 0, 0, 0, 0] mixed (by kernel_rfl) ?_
 repeat (refine aJ ?_)
 rw [show ((gt a.rows 0).es.length : Int) + ((gt b.rows 0).es.length : Int) = (((gt a.rows 0).es.length + (gt b.rows 0).es.length : Nat) : Int) by omega]
 have hg := fun M I (hI : ∀ φ ∈ aR (some ⟨p2, 0, none⟩) [.slice b.p b.rows.length b.c] :: aR (some ⟨p1, 0, none⟩) [.slice a.p a.rows.length a.c] :: aR b.p (recs eL b.rows) :: aR a.p (recs eL a.rows) :: I0, φ ∈ I) (i j : Nat) (hi : i < a.rows.length) (hj : j < (gt a.rows 0).es.length + (gt b.rows 0).es.length) => aJK (X := X) (w0 := w0) (M0 := M) (I0 := I) (a := a) (b := b) (p := p1) (q := p2) (k := k) (m := k) (i := i) (j := j) (C := C) lC (by omega) (by omega) (da.1.row (by omega)) (by omega) (by rw [db.1.row (by omega)]; omega) (by rw [db.1.row (by omega)]; omega) (Nat.le_refl _) (by omega) (hI _ aB) (hI _ aB) (hI _ aB) (hI _ aB)
 (refine aA rfl (aAF (R := a.rows.length) (C := (gt a.rows 0).es.length + (gt b.rows 0).es.length) (g := 222) (fs := #[]) (cs := #[pb p1, pb p2]) (k0 := k) (by omega) (by omega) (fun i j => if j < C then at2 a.q i j else at2 b.q i (j - C)) hg) rfl rfl ?_; rintro _ _ _ ⟨bo, rows, rfl, h1, h2, h3, rfl, rfl⟩; refine ⟨OkD.any (SubP.drop (lK SubP.refl)) aD, ?_⟩)
 rw [lR] at h1
 rw [lC, lD] at h2
 rw [lR, lC, lD] at h3
 repeat (refine aJ ?_)
 refine aM (by first | exact .inl rfl | exact .inr rfl) rfl rfl _ _ aG aD (⟨bo, rows, by rw [lR], h1, h2, h3, rfl, rfl⟩)
end
end Go.Proofs.YtjbhdfpjnjedhaaGreat
namespace Go.Proofs.YtjbhdfpjnjedhaaGreat
open Go Go.Fx
def hD (k : Nat) : Nat → Nat
 | 0 => k
 | n + 1 => (n + 2) * (k + hD k n + 1)
section
variable {X : List Nat} {w0 : World} {M0 : List Ent} {I0 : List aT}
end
end Go.Proofs.YtjbhdfpjnjedhaaGreat
namespace Go.Proofs.YtjbhdfpjnjedhaaGreat
open Go Go.Fx
structure MS where
 b : Nat
 c : Nat
 es : List RE
 tl : List Value
instance : Inhabited MS := ⟨⟨0, 0, [], []⟩⟩
abbrev eS (r : MS) : List Value := [.slice (some ⟨r.b, 0, none⟩) r.es.length r.c]
instance : Sized eS 1 := ⟨fun _ => rfl⟩
instance : Ones eS := ⟨fun m u hu => by simp only [eS, List.mem_cons, List.not_mem_nil, or_false] at hu; subst hu; rfl⟩
abbrev entS (r : MS) : Ent := .blk r.b (recs eR r.es ++ r.tl) 50
structure AllS (rows : List MS) (k : Nat) (X : List Nat) (w : World) : Prop where
 go : ∀ r ∈ rows, ∀ e ∈ r.es, IsR e k X w
abbrev allS (rows : List MS) (k : Nat) : aT := AllS rows k
instance (rows : List MS) (k : Nat) : Fx.Good (AllS rows k) := ⟨fun X Y w w' h he hY => ⟨fun r hr e hm => Fx.Good.go (φ := IsR _ _) X Y w w' (h.go r hr e hm) he hY⟩⟩
def Pw (rows : List MS) (R C : Nat) (V : Nat → Nat → Rat) : Prop := ∀ i j : Nat, i < R → j < C → (gt (gt rows (i : Int)).es (j : Int)).q = V i j
structure Shp (rows : List MS) (R C : Nat) : Prop where
 len : rows.length = R
 col : ∀ r ∈ rows, r.es.length = C ∧ C ≤ r.c
abbrev upR (r : MS) (j : Nat) (e : RE) : MS := ⟨r.b, r.c, st r.es (j : Int) e, r.tl⟩
def upS (rows : List MS) (i j : Nat) (e : RE) : List MS := rows.set i ⟨(gt rows (i : Int)).b, (gt rows (i : Int)).c, st (gt rows (i : Int)).es (j : Int) e, (gt rows (i : Int)).tl⟩
def MsP (R C : Nat) (V : Nat → Nat → Rat) (k : Nat) (M0 : List Ent) (I0 : List aT) (v : Value) (M : List Ent) (I : List aT) : Prop :=
 ∃ (bo co : Nat) (tlo : List Value) (rows : List MS), v = .slice (some ⟨bo, 0, none⟩) R co ∧ R ≤ co ∧ Shp rows R C ∧ Pw rows R C V ∧ M = .blk bo (recs eS rows ++ tlo) 53 :: (rows.map entS ++ M0) ∧ I = allS rows k :: I0
def MS.l (r : MS) : RL := ⟨some ⟨r.b, 0, none⟩, r.c, r.es⟩
def MS.x (bo co : Nat) (rows : List MS) : MX := ⟨some ⟨bo, 0, none⟩, co, rows.map MS.l⟩
section
variable {X : List Nat} {w0 : World} {M0 : List Ent} {I0 : List aT}
end
end Go.Proofs.YtjbhdfpjnjedhaaGreat
namespace Go.Proofs.YtjbhdfpjnjedhaaGreat
open Go Go.Fx
section
variable {X : List Nat} {w0 : World} {M0 : List Ent} {I0 : List aT}
end
end Go.Proofs.YtjbhdfpjnjedhaaGreat
namespace Go.Proofs.YtjbhdfpjnjedhaaGreat
open Go Go.Fx
section
variable {X : List Nat} {w0 : World} {M0 : List Ent} {I0 : List aT}
end
end Go.Proofs.YtjbhdfpjnjedhaaGreat
namespace Go.Proofs.YtjbhdfpjnjedhaaGreat
open Go Go.Fx
def mulC (a b : WM) : Int := if a.ok ∧ b.ok then (if (gt a.rows 0).es.length = b.rows.length then 0 else 4) else 1
def aKU (a : WM) (x : WL) (n : Nat) : Int := if a.ok then (if x.good then (if x.es.length = n then 0 else 4) else 1) else 1
section
variable {X : List Nat} {w0 : World} {M0 : List Ent} {I0 : List aT}
theorem aIE {a : MX} {x : RL} {R C k m : Nat} (hk : k ≤ 1000000000) (hm : m ≤ 500000000) (hR : R ≤ 100) (hCC : C ≤ 64) (da : a.dim R C) (hl : x.es.length = C) (ha : lT a k ∈ I0) (hx : nT x m ∈ I0) :
  CD Tryz.prog 181 [mv a, lv x] X w0 M0 I0 (LQ ((List.range R).map (fun i => sm C (fun t => at2 a.q i t * x.q.getD t 0))) (C * (k + m + 1)) M0 I0) := by
 have lR := da.1
 have hKK : C * (k + m + 1) ≤ 100000000000 := Nat.le_trans (Nat.mul_le_mul hCC (show k + m + 1 ≤ 1500000001 by omega)) (by decide)
 generalize hKe : C * (k + m + 1) = K at *
 refine bK (φ := aR (a).p (recs eL (a).rows)) (Hv.xsl aB) ?_
 refine bL Tryz.func181 rfl Tryz.ntmps181 rfl ?_
 repeat (refine aJ ?_)
 refine lX 50 4 ?_
 refine dV (φ := dL [] K) Hv.nilR ?_
 refine aZ [1, 8, 9] rfl (fun k G M I => ∃ (i : Nat) (es : List RE) (q : Option Addr) (c : Nat), i ≤ R ∧ k = R - i ∧ es.length = i ∧ qs es = (List.range i).map (fun i => sm C (fun t => at2 a.q i t * x.q.getD t 0)) ∧ G = [(5, .slice q es.length c), (10, .int .i64 i)] ∧ M = .row q es.length c (recs eR es) 50 4 :: M0 ∧ I = dL es K :: aR a.p (recs eL a.rows) :: I0) (R) _ _ _ aL aG aD (⟨0, [], none, 0, by omega, rfl, rfl, rfl, rfl, rfl, rfl⟩) ?_
 rintro kk G M I ⟨i, es, q, c, hi, rfl, hel, heq, rfl, rfl, rfl⟩
 by_cases hiR : i < R
 ·refine dV (φ := nT (gt (a).rows (i : Int)) k) (Hv.xrow aB (by omega)) ?_
  repeat (refine aJ ?_)
  (refine aA rfl (aXR (ka := k) (kb := m) (n := C) (by omega) (by omega) (da.row hiR) hl aB aB) rfl rfl ?_; rintro _ _ _ ⟨rfl, e, rfl, he, rfl⟩; refine ⟨okF, ?_⟩)
  (refine dB (cs := recs eR [e]) ([rv e]) rfl rfl (by intro v hv; repeat (first | exact absurd hv (List.not_mem_nil) | (rcases List.mem_cons.1 hv with rfl | hv; · rfl))) (by omega) rfl rfl rfl ?_; intro b; refine ⟨okF, ?_⟩)
  (refine gD (ys := [e]) 1 rfl rfl rfl ?_ (by decide) rfl (by omega) (by omega) rfl rfl ?_; (· first | exact Src.blk aB | exact Src.row aB | exact Src.imm aB (by first | assumption | exact .inl (Ok.mk _ _))); intro q2 c2; refine ⟨okF, ?_⟩)
  rw [hKe]
  repeat (refine aJ ?_)
  refine iI (φ := dL (es ++ [e]) K) (Hv.snoc aB aB) ?_
  refine aK (R - (i + 1)) _ _ _ (by first | omega | (simp only [List.length_append, List.length_cons, List.length_nil]; omega)) aL aG aD (⟨i + 1, es ++ [e], q2, c2, by omega, rfl, by simp; omega, ?_, rfl, rfl, rfl⟩)
  rw [List.range_succ, List.map_append, ← heq]
  have e1 : sm C (fun t => at2 a.q i t * x.q.getD t 0) = dotQ C (gt a.rows (i : Int)).q x.q := by rw [← aUT (by omega)]; rfl
  show (es ++ [e]).map RE.q = qs es ++ [sm C (fun t => at2 a.q i t * x.q.getD t 0)]
  rw [List.map_append, e1, ← he]
  rfl
 ·obtain rfl : i = R := by omega
  repeat (refine aJ ?_)
  refine aJA aB ?_
  refine aM (by first | exact .inl rfl | exact .inr rfl) rfl rfl _ _ aG aD (⟨rfl, ⟨q, c, es⟩, rfl, heq, rfl⟩)
theorem aMS {m : WM} {p : Nat} (hR : 1 ≤ m.rows.length) (hm : zJ m ∈ I0) (hb : aR (some ⟨p, 0, none⟩) [.slice m.p m.rows.length m.c] ∈ I0) :
  CD Tryz.prog 180 [pb p] X w0 M0 I0 (fun v M I => M0 = M ∧ I0 = I ∧ v = .int .i64 ((gt m.rows 0).es.length : Int)) := by
 refine bK (φ := aR m.p (recs eWL m.rows)) (Hv.wmsl hm) ?_
 refine bN Tryz.func180 rfl Tryz.ntmps180 rfl ?_
 repeat (refine aJ ?_)
 refine aM (by first | exact .inl rfl | exact .inr rfl) rfl rfl _ _ aG aD (⟨rfl, rfl, rfl⟩)
theorem aVY {a : WM} {x : WL} {n : Nat} {g : FuncId} [FnOk Tryz.prog g] {fs cs : Array Value} (sa : a.sml) (sx : x.sml) (ha : zJ a ∈ I0) (hx : aCP x ∈ I0)
  (hg : a.ok → CD Tryz.prog g (fs.toList ++ [] ++ cs.toList) X w0 M0 I0 (fun v M I => M0 = M ∧ I0 = I ∧ v = .int .i64 (n : Int))) :
  CD Tryz.prog 179 [mvW a, lvW x, .func (.func g) fs cs] X w0 M0 I0 (fun v M I => M0 = M ∧ I0 = I ∧ v = .int .i64 (aKU a x n)) := by
 have hC := fun M0 I0 h1 => aHW (X := X) (w0 := w0) (M0 := M0) (I0 := I0) (m := a) sa h1
 have hV := fun M0 I0 h1 => vF (X := X) (w0 := w0) (M0 := M0) (I0 := I0) (r := x) sx h1
 unfold aKU
 by_cases hok : a.ok
 ·rw [WM.code_ok hok] at hC
  rw [if_pos hok]
  by_cases hgx : x.good
  ·rw [bV hgx] at hV
   rw [if_pos hgx]
   have hg' := hg hok
   by_cases hn : x.es.length = n
   ·rw [if_pos hn]
    refine kZ Tryz.func179 rfl Tryz.ntmps179 rfl ?_
    repeat (refine aJ ?_)
    (refine aA rfl (hC _ _ aB) rfl rfl ?_; rintro _ _ _ ⟨rfl, rfl, rfl⟩; refine ⟨okF, ?_⟩)
    repeat (refine aJ ?_)
    (refine aA rfl (hV _ _ aB) rfl rfl ?_; rintro _ _ _ ⟨rfl, rfl, rfl⟩; refine ⟨okF, ?_⟩)
    repeat (refine aJ ?_)
    (refine eO rfl rfl (hg') rfl rfl rfl ?_; rintro _ _ _ ⟨rfl, rfl, rfl⟩; refine ⟨okF, ?_⟩)
    repeat (refine aJ ?_)
    refine aM (by first | exact .inl rfl | exact .inr rfl) rfl rfl _ _ aG aD (⟨rfl, rfl, rfl⟩)
   ·rw [if_neg hn]
    refine kZ Tryz.func179 rfl Tryz.ntmps179 rfl ?_
    repeat (refine aJ ?_)
    (refine aA rfl (hC _ _ aB) rfl rfl ?_; rintro _ _ _ ⟨rfl, rfl, rfl⟩; refine ⟨okF, ?_⟩)
    repeat (refine aJ ?_)
    (refine aA rfl (hV _ _ aB) rfl rfl ?_; rintro _ _ _ ⟨rfl, rfl, rfl⟩; refine ⟨okF, ?_⟩)
    repeat (refine aJ ?_)
    (refine eO rfl rfl (hg') rfl rfl rfl ?_; rintro _ _ _ ⟨rfl, rfl, rfl⟩; refine ⟨okF, ?_⟩)
    repeat (refine aJ ?_)
    refine aM (by first | exact .inl rfl | exact .inr rfl) rfl rfl _ _ aG aD (⟨rfl, rfl, rfl⟩)
  ·rw [dP hgx] at hV
   rw [if_neg hgx]
   refine kZ Tryz.func179 rfl Tryz.ntmps179 rfl ?_
   repeat (refine aJ ?_)
   (refine aA rfl (hC _ _ aB) rfl rfl ?_; rintro _ _ _ ⟨rfl, rfl, rfl⟩; refine ⟨okF, ?_⟩)
   repeat (refine aJ ?_)
   (refine aA rfl (hV _ _ aB) rfl rfl ?_; rintro _ _ _ ⟨rfl, rfl, rfl⟩; refine ⟨okF, ?_⟩)
   repeat (refine aJ ?_)
   refine aM (by first | exact .inl rfl | exact .inr rfl) rfl rfl _ _ aG aD (⟨rfl, rfl, rfl⟩)
 ·rw [WM.code_no hok] at hC
  rw [if_neg hok]
  refine kZ Tryz.func179 rfl Tryz.ntmps179 rfl ?_
  repeat (refine aJ ?_)
  (refine aA rfl (hC _ _ aB) rfl rfl ?_; rintro _ _ _ ⟨rfl, rfl, rfl⟩; refine ⟨okF, ?_⟩)
  repeat (refine aJ ?_)
  refine aM (by first | exact .inl rfl | exact .inr rfl) rfl rfl _ _ aG aD (⟨rfl, rfl, rfl⟩)
theorem aMQ {a : MX} {x : RL} {R C k m : Nat} (hk : k ≤ 1000000000) (hm : m ≤ 500000000) (da : a.fit R C) (hl : x.es.length = C) (ha : lT a k ∈ I0) (hx : nT x m ∈ I0) : CD Tryz.prog 133 [mv a, lv x] X w0 M0 I0 (LQc ((List.range R).map (fun i => sm C (fun t => at2 a.q i t * x.q.getD t 0))) (C * (k + m + 1)) M0 I0) := by
 obtain ⟨r1, r2⟩ := da.2.1
 obtain ⟨c1, c2⟩ := da.2.2
 refine wL (fun w hw => Mem.xsml ha da (by omega) hw) (fun sa => wL (fun w hw => Mem.lsml hx (by omega) (by omega) hw) (fun sx => ?_))
 have hC := fun p M0 I0 h1 h2 h3 => aVY (X := X) (w0 := w0) (M0 := M0) (I0 := I0) (a := a.raw) (x := x.raw) (n := C) (g := 180) (fs := #[]) (cs := #[pb p]) sa sx h1 h2 (fun hok => by have := aMS (X := X) (w0 := w0) (M0 := M0) (I0 := I0) (p := p) hok.1.1 h1 h3; rw [MX.raw_c0 da] at this; exact this)
 have e0 : aKU a.raw x.raw C = 0 := by
  unfold aKU
  rw [if_pos da.ok, if_pos x.raw_good, if_pos (by show (x.es.map RE.raw).length = C; rw [List.length_map]; exact hl)]
 rw [e0, aJY, aYH] at hC
 have hA := fun M0 I0 h1 h2 => aIE (X := X) (w0 := w0) (M0 := M0) (I0 := I0) (a := a) (x := x) (R := R) (C := C) (k := k) (m := m) hk hm (by omega) (by omega) da.1 hl h1 h2
 refine bK (φ := zJ a.raw) (Hv.xraw ha (by omega)) ?_
 refine bK (φ := aCP x.raw) (Hv.lraw (List.Mem.tail _ hx) (by omega)) ?_
 refine bL Tryz.func133 rfl Tryz.ntmps133 rfl ?_
 refine aH ?_
 refine aI ?_
 (refine oJ rfl rfl rfl ?_; intro p1; refine ⟨okF, ?_⟩)
 repeat (refine aJ ?_)
 refine iX (φ := aR (some ⟨p1, 0, none⟩) [.slice a.raw.p a.raw.rows.length a.raw.c]) (by rw [MX.raw_rows]; exact Hv.mem aB) ?_
 (refine aA rfl (hC p1 _ _ aB aB aB) rfl rfl ?_; rintro _ _ _ ⟨rfl, rfl, rfl⟩; refine ⟨okF, ?_⟩)
 refine vE (M' := M0) (I' := aR (some ⟨p1, 0, none⟩) [.slice a.p a.rows.length a.c] :: aCP x.raw :: zJ a.raw :: I0) SubP.refl aD ?_
 repeat (refine aJ ?_)
 (refine aA rfl (hA _ _ aB aB) rfl rfl ?_; rintro _ _ _ ⟨rfl, y, rfl, hy, rfl⟩; refine ⟨okF, ?_⟩)
 repeat (refine aJ ?_)
 refine gL [4, 5] (by first | exact .inl rfl | exact .inr rfl) rfl rfl rfl _ _ aG aD (⟨rfl, y, rfl, hy, rfl⟩)
end
end Go.Proofs.YtjbhdfpjnjedhaaGreat
namespace Go.Proofs.YtjbhdfpjnjedhaaGreat
open Go Go.Fx
def qP (A : Mt) (R C : Nat) : Prop := A.length = R ∧ ∀ i, i < R → (rowAt A i).length = C
theorem rowAt_set {A : Mt} {i a : Nat} {l : List Rat} (hi : i < A.length) : rowAt (A.set i l) a = if a = i then l else rowAt A a := by
 unfold rowAt
 simp only [List.getD, List.getElem?_set]
 by_cases e : a = i
 ·subst e; simp [hi]
 ·have e' : ¬ i = a := fun h => e h.symm
  simp [e, e']
theorem aDK {A : Mt} {a : Nat} {f : Nat → List Rat → List Rat} (h : a < A.length) : rowAt (A.mapIdx f) a = f a (rowAt A a) := by
 simp [rowAt, List.getD, h]
theorem qC {A : Mt} {R C r k a : Nat} (h : qP A R C) (hr : r < R) (hk : k < R) : rowAt (swp A r k) a = rowAt A (tr r k a) := by
 unfold swp
 rw [rowAt_set (by rw [List.length_set, h.1]; exact hk), rowAt_set (by rw [h.1]; exact hr)]
 simp only [tr]
 by_cases e1 : a = k
 ·subst e1
  rw [if_pos rfl]
  by_cases e2 : a = r
  ·rw [if_pos e2, e2]
  ·rw [if_neg e2, if_pos rfl]
 ·rw [if_neg e1, if_neg e1]
  by_cases e2 : a = r
  ·rw [if_pos e2, if_pos e2]
  ·rw [if_neg e2, if_neg e2]
theorem aFF {A : Mt} {R C r k : Nat} (h : qP A R C) (hr : r < R) (hk : k < R) : qP (swp A r k) R C :=
 ⟨by unfold swp; rw [List.length_set, List.length_set]; exact h.1, fun i hi => by rw [qC h hr hk]; exact h.2 _ (yV hr hk hi)⟩
theorem uB {l : List Rat} {f : Nat → Rat → Rat} {c : Nat} (h : c < l.length) : (l.mapIdx f).getD c 0 = f c (l.getD c 0) := by
 simp [List.getD, h]
theorem aAL {B : Mt} {r j a : Nat} {pr : List Rat} (h : a < B.length) : rowAt (uY B r j pr) a = if a = r then rowAt B a else if (rowAt B a).getD j 0 = 0 then rowAt B a else kE j ((rowAt B a).getD j 0) pr (rowAt B a) := by
 unfold uY
 rw [aDK h]
theorem aQF {A : Mt} {R C r j x : Nat} (h : qP A R C) (hr : r < R) (hx : x < R) : qP (wY A r j x) R C := by
 have hs := aFF (r := r) (k := x) h hr hx
 unfold wY
 refine ⟨by unfold uY; rw [List.length_mapIdx, List.length_set]; exact hs.1, fun i hi => ?_⟩
 have hb : rowAt ((swp A r x).set r (jJ j (1 / at2 (swp A r x) r j) (rowAt (swp A r x) r))) i = if i = r then jJ j (1 / at2 (swp A r x) r j) (rowAt (swp A r x) r) else rowAt (swp A r x) i := rowAt_set (by rw [hs.1]; exact hr)
 rw [aAL (by rw [List.length_set, hs.1]; exact hi), hb]
 by_cases e : i = r
 ·rw [if_pos e, if_pos e]; simp only [jJ, List.length_mapIdx]; exact hs.2 r hr
 ·rw [if_neg e, if_neg e]
  split
  ·exact hs.2 i hi
  ·simp only [kE, List.length_mapIdx]; exact hs.2 i hi
theorem aOW {A : Mt} {R C r j x : Nat} (h : qP A R C) (hr : r < R) (hx : x < R) (hj : j < C) (hz : ∀ b, b < j → at2 A x b = 0) : ∀ a b, a < R → b < C →
  at2 (wY A r j x) a b = elm r x (1 / at2 A x j) (fun a => at2 A (tr r x a) j) (at2 A) a b := by
 intro a b ha hb
 have hs := aFF (r := r) (k := x) h hr hx
 have hat : ∀ i c, at2 (swp A r x) i c = at2 A (tr r x i) c := fun i c => by unfold at2; rw [qC h hr hx]
 have htr : tr r x r = x := by simp [tr]
 have hrow : (rowAt (swp A r x) r) = rowAt A x := by rw [qC h hr hx, htr]
 have hκ : at2 (swp A r x) r j = at2 A x j := by rw [hat, htr]
 obtain ⟨κ, hk⟩ : ∃ κ, κ = 1 / at2 A x j := ⟨_, rfl⟩
 rw [← hk]
 have hpr : ∀ c, c < C → (jJ j κ (rowAt A x)).getD c 0 = κ * at2 A x c := fun c hc => by
  unfold jJ
  rw [uB (by rw [h.2 x hx]; exact hc)]
  by_cases e : c < j
  ·rw [if_pos e]
   have := hz c e
   rw [this]
   unfold at2 at this
   rw [this]; grind
  ·rw [if_neg e]; rfl
 have e1 : at2 (wY A r j x) a b = (rowAt (wY A r j x) a).getD b 0 := rfl
 rw [e1]
 unfold wY
 rw [hκ, hrow, ← hk]
 have hbb : rowAt ((swp A r x).set r (jJ j κ (rowAt A x))) a = if a = r then jJ j κ (rowAt A x) else rowAt (swp A r x) a := rowAt_set (by rw [hs.1]; exact hr)
 rw [aAL (by rw [List.length_set, hs.1]; exact ha), hbb]
 simp only [elm, htr]
 by_cases e : a = r
 ·rw [if_pos e, if_pos e, if_pos e]; exact hpr b hb
 ·rw [if_neg e, if_neg e, if_neg e, qC h hr hx]
  have hc : (rowAt A (tr r x a)).getD j 0 = at2 A (tr r x a) j := rfl
  rw [hc]
  by_cases e0 : at2 A (tr r x a) j = 0
  ·rw [if_pos e0, e0]
   show at2 A (tr r x a) b = _
   grind
  ·rw [if_neg e0]
   unfold kE
   rw [uB (by rw [h.2 _ (yV hr hx ha)]; exact hb)]
   show (if b < j then at2 A (tr r x a) b else at2 A (tr r x a) b - _) = _
   by_cases ej : b < j
   ·rw [if_pos ej, hz b ej]; grind
   ·rw [if_neg ej, hpr b hb]
theorem aBU {A : Mt} {j : Nat} : ∀ (f k : Nat), k + f = A.length → ∀ i, k ≤ i → i < nI A j f k → at2 A i j = 0
 | 0, k, _, i, h1, h2 => by simp [nI] at h2; omega
 | f + 1, k, h, i, h1, h2 => by
  unfold nI at h2
  by_cases hc : k < A.length ∧ at2 A k j = 0
  ·rw [if_pos hc] at h2
   by_cases e : i = k
   ·subst e; exact hc.2
   ·exact aBU f (k + 1) (by omega) i (by omega) h2
  ·rw [if_neg hc] at h2; omega
theorem lS {A : Mt} {R C : Nat} (h : qP A R C) : ∀ n, n ≤ C → qP (qM A n).1 R C ∧ ∃ s, Red R C n (at2 A) (at2 (qM A n).1) (qM A n).2 s
 | 0, _ => ⟨h, 1, Red.start⟩
 | n + 1, hn => by
  obtain ⟨hd, s, hr⟩ := lS h n (by omega)
  rw [yG]
  generalize qM A n = st at hd hr
  obtain ⟨B, pv⟩ := st
  simp only at hd hr
  have hlen := hr.len
  obtain ⟨f1, f2, f3⟩ := aHK (A := B) (j := n) (B.length - pv.length) pv.length (by rw [hd.1]; omega)
  have f4 := aBU (A := B) (j := n) (B.length - pv.length) pv.length (by rw [hd.1]; omega)
  unfold aOO
  simp only
  generalize nI B n (B.length - pv.length) pv.length = x at f1 f2 f3 f4
  by_cases hx : x < B.length
  ·rw [if_pos hx]
   rw [hd.1] at hx
   refine ⟨aQF hd (by omega) hx, _, hr.step (x := x) (by omega) f1 hx (f3 (by rw [hd.1]; exact hx)) (aOW hd (by omega) hx (by omega) (fun b hb => hr.zero x b f1 hx hb))⟩
  ·rw [if_neg hx]
   exact ⟨hd, s, hr.none (fun i h1 h2 => f4 i h1 (by rw [hd.1] at hx; omega))⟩
end Go.Proofs.YtjbhdfpjnjedhaaGreat

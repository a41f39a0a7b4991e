/- matrix: Add, Sub, Scale, Mul, Transpose, Apply, Identity, of matrices and of what is none. matrix: Mul, Apply, of matrices and of what is none. Elimination of lists of rows is elimination of numbers. Ranks, plain: the kernel of a reduced matrix; systems with more unknowns than equations; ranks compared by kernels. Kernels and systems, plain: the canonical basis of the kernel, what it spans; when a system has a solution, and which one is returned. matrix: Echelon, Rank, Null. slices.Sorted of slices.Values at ints. slices.Sorted of slices.Values at ints: a list of its own. make with length 0 and a capacity; a row cut short; where a row lies. -/
import Derived.Test.YtjbhdfpjnjedhaaGreatZnbb
import Derived.Test.YtjbhdfpjnjedhaaGreatZnan
import Derived.Test.YtjbhdfpjnjedhaaGreatZnax
import Derived.Test.YtjbhdfpjnjedhaaGreatZnae
import Derived.Test.YtjbhdfpjnjedhaaGreatZnaf
set_option linter.unusedSimpArgs false
set_option linter.unusedVariables false
set_option maxRecDepth 100000
set_option maxHeartbeats 4000000
namespace Go.Proofs.YtjbhdfpjnjedhaaGreat
open Go Go.Fx
theorem aSN {i j : Nat} : yK i j = if (i : Int) = (j : Int) then (1 : Rat) else 0 := by
 unfold yK
 by_cases e : i = j
 ·rw [if_pos e, if_pos (by omega)]
 ·rw [if_neg e, if_neg (by omega)]
theorem lI {M M' : List Ent} (h : SubP M M') : ∀ {xs : List Ent}, SubP (xs ++ M) M'
 | [] => h
 | _ :: _ => .drop (lI h)
def MX.fit (m : MX) (R C : Nat) : Prop := m.dim R C ∧ (1 ≤ R ∧ R ≤ 64) ∧ (1 ≤ C ∧ C ≤ 64)
theorem MX.fit.r0 {m : MX} {R C : Nat} (h : m.fit R C) : (gt m.rows 0).es.length = C := by
 have := h.1.row (i := 0) (by have := h.2.1; omega)
 exact this
theorem MX.fit.ok {m : MX} {R C : Nat} (h : m.fit R C) : m.raw.ok := aVM h.1 h.2.1 h.2.2
theorem MX.raw_rows (m : MX) : m.raw.rows.length = m.rows.length := by show (m.rows.map RL.raw).length = _; rw [List.length_map]
theorem MX.raw_c0 {m : MX} {R C : Nat} (h : m.fit R C) : (gt m.raw.rows 0).es.length = C := by
 have e : m.raw.rows = m.rows.map RL.raw := rfl
 rw [e, xS (by have := h.1.1; have := h.2.1; omega)]
 show ((gt m.rows 0).es.map RE.raw).length = C
 rw [List.length_map]; exact h.r0
section
variable {P : Program} {f : FuncId} {vs : List Value} {X : List Nat} {w0 : World} {M : List Ent} {I : List bA}
theorem tT {K : Value → List Ent → List bA → Prop} {φ : Prop} (h : ∀ w, Mem X w0 M I w → φ) (k : φ → CD P f vs X w0 M I K) : CD P f vs X w0 M I K := ⟨fun w hw => (k (h w hw)).go w hw⟩
theorem Mem.xsml {w : World} {m : MX} {R C k : Nat} (hm : iL m k ∈ I) (hd : m.fit R C) (hk : k ≤ 20000000000) (hw : Mem X w0 M I w) : m.raw.sml := by
 have h : IsX m k (muts M) w := (hw.imm _ hm).2
 refine ⟨by rw [m.raw_rows, hd.1.1]; have := hd.2.1; omega, fun r hr => ?_⟩
 obtain ⟨s, hs, rfl⟩ := List.mem_map.1 hr
 refine ⟨by show (s.es.map RE.raw).length ≤ _; rw [List.length_map, hd.1.2 s hs]; have := hd.2.2; omega, fun e he => ?_⟩
 obtain ⟨x, hx, rfl⟩ := List.mem_map.1 he
 exact IsR.sml hk ((h.row s hs).el x hx)
theorem Mem.lsml {w : World} {r : RL} {k : Nat} (hm : mF r k ∈ I) (hl : r.es.length ≤ 1000000000) (hk : k ≤ 20000000000) (hw : Mem X w0 M I w) : r.raw.sml := by
 have h : IsL r k (muts M) w := (hw.imm _ hm).2
 refine ⟨by show (r.es.map RE.raw).length ≤ _; rw [List.length_map]; exact hl, fun e he => ?_⟩
 obtain ⟨x, hx, rfl⟩ := List.mem_map.1 he
 exact IsR.sml hk (h.el x hx)
end
section
variable {X : List Nat} {w0 : World} {M0 : List Ent} {I0 : List bA}
theorem aIM {a : MX} {R C k : Nat} (da : a.fit R C) (ha : iL a k ∈ I0) : CD Tryz.prog 162 [mv a] X w0 M0 I0 (MkP R C (at2 a.q) k M0 I0) := by
 have lR := da.1.1
 have lC := da.r0
 obtain ⟨r1, r2⟩ := da.2.1
 obtain ⟨c1, c2⟩ := da.2.2
 refine cK (φ := aP (a).p (recs eL (a).rows)) (Hv.xsl aB) ?_
 refine aX Tryz.func162 rfl Tryz.ntmps162 rfl ?_
 refine aH ?_
 refine aJ ?_
 (refine oL rfl rfl rfl ?_; intro p1; refine ⟨okF, ?_⟩)
 repeat (refine aK ?_)
 (repeat refine aH ?_); refine dV [0, 1, 2, 3, 4, 5, 6, 7, 8] [1, 0, 1, 1, 1, 0, 0, 0, 0] mixed (by kernel_rfl) ?_
 repeat (refine aK ?_)
 have hg := fun M I (hI : ∀ φ ∈ aP (some ⟨p1, 0, none⟩) [.slice a.p a.rows.length a.c] :: aP a.p (recs eL a.rows) :: I0, φ ∈ I) (i j : Nat) (hi : i < a.rows.length) (hj : j < (gt a.rows 0).es.length) => aHY (X := X) (w0 := w0) (M0 := M) (I0 := I) (a := a) (p := p1) (k := k) (i := i) (j := j) (by omega) (by rw [da.1.row (by omega)]; omega) (hI _ aB) (hI _ aB)
 (refine aA rfl (aAZ (R := a.rows.length) (C := (gt a.rows 0).es.length) (g := 220) (fs := #[]) (cs := #[pb p1]) (k0 := k) (by omega) (by omega) (at2 a.q) hg) rfl rfl ?_; rintro _ _ _ ⟨bo, rows, rfl, h1, h2, h3, rfl, rfl⟩; refine ⟨OkD.any (SubP.drop (lI SubP.refl)) aC, ?_⟩)
 rw [lR] at h1
 rw [lC] at h2
 rw [lR, lC] at h3
 have e1 : (a.rows.length : Int) = R := by omega
 repeat (refine aK ?_)
 refine aI (by first | exact .inl rfl | exact .inr rfl) rfl rfl _ _ aD aC (⟨bo, rows, by rw [lR], h1, h2, h3, rfl, rfl⟩)
theorem aKW {a b : MX} {R C D k : Nat} (da : a.fit R C) (db : b.fit R D) (ha : iL a k ∈ I0) (hb : iL b k ∈ I0) : CD Tryz.prog 174 [mv a, mv b] X w0 M0 I0 (MkP R (C + D) (fun i j => if j < C then at2 a.q i j else at2 b.q i (j - C)) k M0 I0) := by
 have lR := da.1.1
 have lR2 := db.1.1
 have lC := da.r0
 have lD := db.r0
 obtain ⟨r1, r2⟩ := da.2.1
 obtain ⟨c1, c2⟩ := da.2.2
 obtain ⟨d1, d2⟩ := db.2.2
 refine cK (φ := aP (a).p (recs eL (a).rows)) (Hv.xsl aB) ?_
 refine cK (φ := aP (b).p (recs eL (b).rows)) (Hv.xsl aB) ?_
 refine aY Tryz.func174 rfl Tryz.ntmps174 rfl ?_
 refine aH ?_
 refine aJ ?_
 (refine oL rfl rfl rfl ?_; intro p1; refine ⟨okF, ?_⟩)
 (refine oL rfl rfl rfl ?_; intro p2; refine ⟨okF, ?_⟩)
 repeat (refine aK ?_)
 (repeat refine aH ?_); refine dV [0, 1, 2, 3, 4, 5, 6, 7, 8, 9, 10, 11, 12, 13] [1, 0, 1, 1, 1, 1, 1, 1, 1, 1, 0, 0, 0, 0] mixed (by kernel_rfl) ?_
 repeat (refine aK ?_)
 rw [show ((gt a.rows 0).es.length : Int) + ((gt b.rows 0).es.length : Int) = (((gt a.rows 0).es.length + (gt b.rows 0).es.length : Nat) : Int) by omega]
 have hg := fun M I (hI : ∀ φ ∈ aP (some ⟨p2, 0, none⟩) [.slice b.p b.rows.length b.c] :: aP (some ⟨p1, 0, none⟩) [.slice a.p a.rows.length a.c] :: aP b.p (recs eL b.rows) :: aP a.p (recs eL a.rows) :: I0, φ ∈ I) (i j : Nat) (hi : i < a.rows.length) (hj : j < (gt a.rows 0).es.length + (gt b.rows 0).es.length) => aIB (X := X) (w0 := w0) (M0 := M) (I0 := I) (a := a) (b := b) (p := p1) (q := p2) (k := k) (m := k) (i := i) (j := j) (C := C) lC (by omega) (by omega) (da.1.row (by omega)) (by omega) (by rw [db.1.row (by omega)]; omega) (by rw [db.1.row (by omega)]; omega) (Nat.le_refl _) (by omega) (hI _ aB) (hI _ aB) (hI _ aB) (hI _ aB)
 (refine aA rfl (aAZ (R := a.rows.length) (C := (gt a.rows 0).es.length + (gt b.rows 0).es.length) (g := 222) (fs := #[]) (cs := #[pb p1, pb p2]) (k0 := k) (by omega) (by omega) (fun i j => if j < C then at2 a.q i j else at2 b.q i (j - C)) hg) rfl rfl ?_; rintro _ _ _ ⟨bo, rows, rfl, h1, h2, h3, rfl, rfl⟩; refine ⟨OkD.any (SubP.drop (lI SubP.refl)) aC, ?_⟩)
 rw [lR] at h1
 rw [lC, lD] at h2
 rw [lR, lC, lD] at h3
 repeat (refine aK ?_)
 refine aI (by first | exact .inl rfl | exact .inr rfl) rfl rfl _ _ aD aC (⟨bo, rows, by rw [lR], h1, h2, h3, rfl, rfl⟩)
end
end Go.Proofs.YtjbhdfpjnjedhaaGreat
namespace Go.Proofs.YtjbhdfpjnjedhaaGreat
open Go Go.Fx
def mulC (a b : WM) : Int := if a.ok ∧ b.ok then (if (gt a.rows 0).es.length = b.rows.length then 0 else 4) else 1
def aJI (a : WM) (x : WL) (n : Nat) : Int := if a.ok then (if x.good then (if x.es.length = n then 0 else 4) else 1) else 1
section
variable {X : List Nat} {w0 : World} {M0 : List Ent} {I0 : List bA}
theorem aGY {a : MX} {x : RL} {R C k m : Nat} (hk : k ≤ 1000000000) (hm : m ≤ 500000000) (hR : R ≤ 100) (hCC : C ≤ 64) (da : a.dim R C) (hl : x.es.length = C) (ha : iL a k ∈ I0) (hx : mF x m ∈ I0) :
  CD Tryz.prog 181 [mv a, lv x] X w0 M0 I0 (LQ ((List.range R).map (fun i => sm C (fun t => at2 a.q i t * x.q.getD t 0))) (C * (k + m + 1)) M0 I0) := by
 have lR := da.1
 have hKK : C * (k + m + 1) ≤ 100000000000 := Nat.le_trans (Nat.mul_le_mul hCC (show k + m + 1 ≤ 1500000001 by omega)) (by decide)
 generalize hKe : C * (k + m + 1) = K at *
 refine cK (φ := aP (a).p (recs eL (a).rows)) (Hv.xsl aB) ?_
 refine aY Tryz.func181 rfl Tryz.ntmps181 rfl ?_
 repeat (refine aK ?_)
 refine nG 50 4 ?_
 refine iJ (φ := dB [] K) Hv.nilR ?_
 refine aS [1, 8, 9] rfl (fun k G M I => ∃ (i : Nat) (es : List RE) (q : Option Addr) (c : Nat), i ≤ R ∧ k = R - i ∧ es.length = i ∧ qs es = (List.range i).map (fun i => sm C (fun t => at2 a.q i t * x.q.getD t 0)) ∧ G = [(5, .slice q es.length c), (10, .int .i64 i)] ∧ M = .row q es.length c (recs eR es) 50 4 :: M0 ∧ I = dB es K :: aP a.p (recs eL a.rows) :: I0) (R) _ _ _ aM aD aC (⟨0, [], none, 0, by omega, rfl, rfl, rfl, rfl, rfl, rfl⟩) ?_
 rintro kk G M I ⟨i, es, q, c, hi, rfl, hel, heq, rfl, rfl, rfl⟩
 by_cases hiR : i < R
 ·refine iJ (φ := mF (gt (a).rows (i : Int)) k) (Hv.xrow aB (by omega)) ?_
  repeat (refine aK ?_)
  (refine aA rfl (aVL (ka := k) (kb := m) (n := C) (by omega) (by omega) (da.row hiR) hl aB aB) rfl rfl ?_; rintro _ _ _ ⟨rfl, e, rfl, he, rfl⟩; refine ⟨okF, ?_⟩)
  (refine bB (cs := recs eR [e]) ([rv e]) rfl rfl (by intro v hv; repeat (first | exact absurd hv (List.not_mem_nil) | (rcases List.mem_cons.1 hv with rfl | hv; · rfl))) (by omega) rfl rfl rfl ?_; intro b; refine ⟨okF, ?_⟩)
  (refine dK (ys := [e]) 1 rfl rfl rfl ?_ (by decide) rfl (by omega) (by omega) rfl rfl ?_; (· first | exact Src.blk aB | exact Src.row aB | exact Src.imm aB (by first | assumption | exact .inl (Ok.mk _ _))); intro q2 c2; refine ⟨okF, ?_⟩)
  rw [hKe]
  repeat (refine aK ?_)
  refine gU (φ := dB (es ++ [e]) K) (Hv.snoc aB aB) ?_
  refine aL (R - (i + 1)) _ _ _ (by first | omega | (simp only [List.length_append, List.length_cons, List.length_nil]; omega)) aM aD aC (⟨i + 1, es ++ [e], q2, c2, by omega, rfl, by simp; omega, ?_, rfl, rfl, rfl⟩)
  rw [List.range_succ, List.map_append, ← heq]
  have e1 : sm C (fun t => at2 a.q i t * x.q.getD t 0) = dotQ C (gt a.rows (i : Int)).q x.q := by rw [← aQT (by omega)]; rfl
  show (es ++ [e]).map RE.q = qs es ++ [sm C (fun t => at2 a.q i t * x.q.getD t 0)]
  rw [List.map_append, e1, ← he]
  rfl
 ·obtain rfl : i = R := by omega
  repeat (refine aK ?_)
  refine aHA aB ?_
  refine aI (by first | exact .inl rfl | exact .inr rfl) rfl rfl _ _ aD aC (⟨rfl, ⟨q, c, es⟩, rfl, heq, rfl⟩)
theorem aKR {m : WM} {p : Nat} (hR : 1 ≤ m.rows.length) (hm : kR m ∈ I0) (hb : aP (some ⟨p, 0, none⟩) [.slice m.p m.rows.length m.c] ∈ I0) :
  CD Tryz.prog 180 [pb p] X w0 M0 I0 (fun v M I => M0 = M ∧ I0 = I ∧ v = .int .i64 ((gt m.rows 0).es.length : Int)) := by
 refine cK (φ := aP m.p (recs zA m.rows)) (Hv.wmsl hm) ?_
 refine aX Tryz.func180 rfl Tryz.ntmps180 rfl ?_
 repeat (refine aK ?_)
 refine aI (by first | exact .inl rfl | exact .inr rfl) rfl rfl _ _ aD aC (⟨rfl, rfl, rfl⟩)
theorem aRF {a : WM} {x : WL} {n : Nat} {g : FuncId} [FnOk Tryz.prog g] {fs cs : Array Value} (sa : a.sml) (sx : x.sml) (ha : kR a ∈ I0) (hx : wC x ∈ I0)
  (hg : a.ok → CD Tryz.prog g (fs.toList ++ [] ++ cs.toList) X w0 M0 I0 (fun v M I => M0 = M ∧ I0 = I ∧ v = .int .i64 (n : Int))) :
  CD Tryz.prog 179 [mvW a, lvW x, .func (.func g) fs cs] X w0 M0 I0 (fun v M I => M0 = M ∧ I0 = I ∧ v = .int .i64 (aJI a x n)) := by
 have hC := fun M0 I0 h1 => aEV (X := X) (w0 := w0) (M0 := M0) (I0 := I0) (m := a) sa h1
 have hV := fun M0 I0 h1 => uV (X := X) (w0 := w0) (M0 := M0) (I0 := I0) (r := x) sx h1
 unfold aJI
 by_cases hok : a.ok
 ·rw [WM.code_ok hok] at hC
  rw [if_pos hok]
  by_cases hgx : x.good
  ·rw [bH hgx] at hV
   rw [if_pos hgx]
   have hg' := hg hok
   by_cases hn : x.es.length = n
   ·rw [if_pos hn]
    refine jT Tryz.func179 rfl Tryz.ntmps179 rfl ?_
    repeat (refine aK ?_)
    (refine aA rfl (hC _ _ aB) rfl rfl ?_; rintro _ _ _ ⟨rfl, rfl, rfl⟩; refine ⟨okF, ?_⟩)
    repeat (refine aK ?_)
    (refine aA rfl (hV _ _ aB) rfl rfl ?_; rintro _ _ _ ⟨rfl, rfl, rfl⟩; refine ⟨okF, ?_⟩)
    repeat (refine aK ?_)
    (refine eY rfl rfl (hg') rfl rfl rfl ?_; rintro _ _ _ ⟨rfl, rfl, rfl⟩; refine ⟨okF, ?_⟩)
    repeat (refine aK ?_)
    refine aI (by first | exact .inl rfl | exact .inr rfl) rfl rfl _ _ aD aC (⟨rfl, rfl, rfl⟩)
   ·rw [if_neg hn]
    refine jT Tryz.func179 rfl Tryz.ntmps179 rfl ?_
    repeat (refine aK ?_)
    (refine aA rfl (hC _ _ aB) rfl rfl ?_; rintro _ _ _ ⟨rfl, rfl, rfl⟩; refine ⟨okF, ?_⟩)
    repeat (refine aK ?_)
    (refine aA rfl (hV _ _ aB) rfl rfl ?_; rintro _ _ _ ⟨rfl, rfl, rfl⟩; refine ⟨okF, ?_⟩)
    repeat (refine aK ?_)
    (refine eY rfl rfl (hg') rfl rfl rfl ?_; rintro _ _ _ ⟨rfl, rfl, rfl⟩; refine ⟨okF, ?_⟩)
    repeat (refine aK ?_)
    refine aI (by first | exact .inl rfl | exact .inr rfl) rfl rfl _ _ aD aC (⟨rfl, rfl, rfl⟩)
  ·rw [aZ hgx] at hV
   rw [if_neg hgx]
   refine jT Tryz.func179 rfl Tryz.ntmps179 rfl ?_
   repeat (refine aK ?_)
   (refine aA rfl (hC _ _ aB) rfl rfl ?_; rintro _ _ _ ⟨rfl, rfl, rfl⟩; refine ⟨okF, ?_⟩)
   repeat (refine aK ?_)
   (refine aA rfl (hV _ _ aB) rfl rfl ?_; rintro _ _ _ ⟨rfl, rfl, rfl⟩; refine ⟨okF, ?_⟩)
   repeat (refine aK ?_)
   refine aI (by first | exact .inl rfl | exact .inr rfl) rfl rfl _ _ aD aC (⟨rfl, rfl, rfl⟩)
 ·rw [WM.code_no hok] at hC
  rw [if_neg hok]
  refine jT Tryz.func179 rfl Tryz.ntmps179 rfl ?_
  repeat (refine aK ?_)
  (refine aA rfl (hC _ _ aB) rfl rfl ?_; rintro _ _ _ ⟨rfl, rfl, rfl⟩; refine ⟨okF, ?_⟩)
  repeat (refine aK ?_)
  refine aI (by first | exact .inl rfl | exact .inr rfl) rfl rfl _ _ aD aC (⟨rfl, rfl, rfl⟩)
theorem aLB {a : MX} {x : RL} {R C k m : Nat} (hk : k ≤ 1000000000) (hm : m ≤ 500000000) (da : a.fit R C) (hl : x.es.length = C) (ha : iL a k ∈ I0) (hx : mF x m ∈ I0) : CD Tryz.prog 133 [mv a, lv x] X w0 M0 I0 (LQc ((List.range R).map (fun i => sm C (fun t => at2 a.q i t * x.q.getD t 0))) (C * (k + m + 1)) M0 I0) := by
 obtain ⟨r1, r2⟩ := da.2.1
 obtain ⟨c1, c2⟩ := da.2.2
 refine tT (fun w hw => Mem.xsml ha da (by omega) hw) (fun sa => tT (fun w hw => Mem.lsml hx (by omega) (by omega) hw) (fun sx => ?_))
 have hC := fun p M0 I0 h1 h2 h3 => aRF (X := X) (w0 := w0) (M0 := M0) (I0 := I0) (a := a.raw) (x := x.raw) (n := C) (g := 180) (fs := #[]) (cs := #[pb p]) sa sx h1 h2 (fun hok => by have := aKR (X := X) (w0 := w0) (M0 := M0) (I0 := I0) (p := p) hok.1.1 h1 h3; rw [MX.raw_c0 da] at this; exact this)
 have e0 : aJI a.raw x.raw C = 0 := by
  unfold aJI
  rw [if_pos da.ok, if_pos x.raw_good, if_pos (by show (x.es.map RE.raw).length = C; rw [List.length_map]; exact hl)]
 rw [e0, lL, aUU] at hC
 have hA := fun M0 I0 h1 h2 => aGY (X := X) (w0 := w0) (M0 := M0) (I0 := I0) (a := a) (x := x) (R := R) (C := C) (k := k) (m := m) hk hm (by omega) (by omega) da.1 hl h1 h2
 refine cK (φ := kR a.raw) (Hv.xraw ha (by omega)) ?_
 refine cK (φ := wC x.raw) (Hv.lraw (List.Mem.tail _ hx) (by omega)) ?_
 refine aY Tryz.func133 rfl Tryz.ntmps133 rfl ?_
 refine aH ?_
 refine aJ ?_
 (refine oL rfl rfl rfl ?_; intro p1; refine ⟨okF, ?_⟩)
 repeat (refine aK ?_)
 refine iO (φ := aP (some ⟨p1, 0, none⟩) [.slice a.raw.p a.raw.rows.length a.raw.c]) (by rw [MX.raw_rows]; exact Hv.mem aB) ?_
 (refine aA rfl (hC p1 _ _ aB aB aB) rfl rfl ?_; rintro _ _ _ ⟨rfl, rfl, rfl⟩; refine ⟨okF, ?_⟩)
 refine uS (M' := M0) (I' := aP (some ⟨p1, 0, none⟩) [.slice a.p a.rows.length a.c] :: wC x.raw :: kR a.raw :: I0) SubP.refl aC ?_
 repeat (refine aK ?_)
 (refine aA rfl (hA _ _ aB aB) rfl rfl ?_; rintro _ _ _ ⟨rfl, y, rfl, hy, rfl⟩; refine ⟨okF, ?_⟩)
 repeat (refine aK ?_)
 refine eQ [4, 5] (by first | exact .inl rfl | exact .inr rfl) rfl rfl rfl _ _ aD aC (⟨rfl, y, rfl, hy, rfl⟩)
end
end Go.Proofs.YtjbhdfpjnjedhaaGreat
namespace Go.Proofs.YtjbhdfpjnjedhaaGreat
open Go Go.Fx
def wL (A : Mt) (R C : Nat) : Prop := A.length = R ∧ ∀ i, i < R → (rowAt A i).length = C
theorem rowAt_set {A : Mt} {i a : Nat} {l : List Rat} (hi : i < A.length) : rowAt (A.set i l) a = if a = i then l else rowAt A a := by
 unfold rowAt
 simp only [List.getD, List.getElem?_set]
 by_cases e : a = i
 ·subst e; simp [hi]
 ·have e' : ¬ i = a := fun h => e h.symm
  simp [e, e']
theorem aCN {A : Mt} {a : Nat} {f : Nat → List Rat → List Rat} (h : a < A.length) : rowAt (A.mapIdx f) a = f a (rowAt A a) := by
 simp [rowAt, List.getD, h]
theorem oZ {A : Mt} {R C r k a : Nat} (h : wL A R C) (hr : r < R) (hk : k < R) : rowAt (swp A r k) a = rowAt A (tr r k a) := by
 unfold swp
 rw [rowAt_set (by rw [List.length_set, h.1]; exact hk), rowAt_set (by rw [h.1]; exact hr)]
 simp only [tr]
 by_cases e1 : a = k
 ·subst e1
  rw [if_pos rfl]
  by_cases e2 : a = r
  ·rw [if_pos e2, e2]
  ·rw [if_neg e2, if_pos rfl]
 ·rw [if_neg e1, if_neg e1]
  by_cases e2 : a = r
  ·rw [if_pos e2, if_pos e2]
  ·rw [if_neg e2, if_neg e2]
theorem aDX {A : Mt} {R C r k : Nat} (h : wL A R C) (hr : r < R) (hk : k < R) : wL (swp A r k) R C :=
 ⟨by unfold swp; rw [List.length_set, List.length_set]; exact h.1, fun i hi => by rw [oZ h hr hk]; exact h.2 _ (yD hr hk hi)⟩
theorem tO {l : List Rat} {f : Nat → Rat → Rat} {c : Nat} (h : c < l.length) : (l.mapIdx f).getD c 0 = f c (l.getD c 0) := by
 simp [List.getD, h]
theorem aAT {B : Mt} {r j a : Nat} {pr : List Rat} (h : a < B.length) : rowAt (tX B r j pr) a = if a = r then rowAt B a else if (rowAt B a).getD j 0 = 0 then rowAt B a else jX j ((rowAt B a).getD j 0) pr (rowAt B a) := by
 unfold tX
 rw [aCN h]
theorem aNE {A : Mt} {R C r j x : Nat} (h : wL A R C) (hr : r < R) (hx : x < R) : wL (wR A r j x) R C := by
 have hs := aDX (r := r) (k := x) h hr hx
 unfold wR
 refine ⟨by unfold tX; rw [List.length_mapIdx, List.length_set]; exact hs.1, fun i hi => ?_⟩
 have hb : rowAt ((swp A r x).set r (jB j (1 / at2 (swp A r x) r j) (rowAt (swp A r x) r))) i = if i = r then jB j (1 / at2 (swp A r x) r j) (rowAt (swp A r x) r) else rowAt (swp A r x) i := rowAt_set (by rw [hs.1]; exact hr)
 rw [aAT (by rw [List.length_set, hs.1]; exact hi), hb]
 by_cases e : i = r
 ·rw [if_pos e, if_pos e]; simp only [jB, List.length_mapIdx]; exact hs.2 r hr
 ·rw [if_neg e, if_neg e]
  split
  ·exact hs.2 i hi
  ·simp only [jX, List.length_mapIdx]; exact hs.2 i hi
theorem aOC {A : Mt} {R C r j x : Nat} (h : wL A R C) (hr : r < R) (hx : x < R) (hj : j < C) (hz : ∀ b, b < j → at2 A x b = 0) : ∀ a b, a < R → b < C →
  at2 (wR A r j x) a b = elm r x (1 / at2 A x j) (fun a => at2 A (tr r x a) j) (at2 A) a b := by
 intro a b ha hb
 have hs := aDX (r := r) (k := x) h hr hx
 have hat : ∀ i c, at2 (swp A r x) i c = at2 A (tr r x i) c := fun i c => by unfold at2; rw [oZ h hr hx]
 have htr : tr r x r = x := by simp [tr]
 have hrow : (rowAt (swp A r x) r) = rowAt A x := by rw [oZ h hr hx, htr]
 have hκ : at2 (swp A r x) r j = at2 A x j := by rw [hat, htr]
 obtain ⟨κ, hk⟩ : ∃ κ, κ = 1 / at2 A x j := ⟨_, rfl⟩
 rw [← hk]
 have hpr : ∀ c, c < C → (jB j κ (rowAt A x)).getD c 0 = κ * at2 A x c := fun c hc => by
  unfold jB
  rw [tO (by rw [h.2 x hx]; exact hc)]
  by_cases e : c < j
  ·rw [if_pos e]
   have := hz c e
   rw [this]
   unfold at2 at this
   rw [this]; grind
  ·rw [if_neg e]; rfl
 have e1 : at2 (wR A r j x) a b = (rowAt (wR A r j x) a).getD b 0 := rfl
 rw [e1]
 unfold wR
 rw [hκ, hrow, ← hk]
 have hbb : rowAt ((swp A r x).set r (jB j κ (rowAt A x))) a = if a = r then jB j κ (rowAt A x) else rowAt (swp A r x) a := rowAt_set (by rw [hs.1]; exact hr)
 rw [aAT (by rw [List.length_set, hs.1]; exact ha), hbb]
 simp only [elm, htr]
 by_cases e : a = r
 ·rw [if_pos e, if_pos e, if_pos e]; exact hpr b hb
 ·rw [if_neg e, if_neg e, if_neg e, oZ h hr hx]
  have hc : (rowAt A (tr r x a)).getD j 0 = at2 A (tr r x a) j := rfl
  rw [hc]
  by_cases e0 : at2 A (tr r x a) j = 0
  ·rw [if_pos e0, e0]
   show at2 A (tr r x a) b = _
   grind
  ·rw [if_neg e0]
   unfold jX
   rw [tO (by rw [h.2 _ (yD hr hx ha)]; exact hb)]
   show (if b < j then at2 A (tr r x a) b else at2 A (tr r x a) b - _) = _
   by_cases ej : b < j
   ·rw [if_pos ej, hz b ej]; grind
   ·rw [if_neg ej, hpr b hb]
theorem aBO {A : Mt} {j : Nat} : ∀ (f k : Nat), k + f = A.length → ∀ i, k ≤ i → i < nC A j f k → at2 A i j = 0
 | 0, k, _, i, h1, h2 => by simp [nC] at h2; omega
 | f + 1, k, h, i, h1, h2 => by
  unfold nC at h2
  by_cases hc : k < A.length ∧ at2 A k j = 0
  ·rw [if_pos hc] at h2
   by_cases e : i = k
   ·subst e; exact hc.2
   ·exact aBO f (k + 1) (by omega) i (by omega) h2
  ·rw [if_neg hc] at h2; omega
theorem aGC {A : Mt} {R C : Nat} (h : wL A R C) : ∀ n, n ≤ C → wL (qA A n).1 R C ∧ ∃ s, Red R C n (at2 A) (at2 (qA A n).1) (qA A n).2 s
 | 0, _ => ⟨h, 1, Red.start⟩
 | n + 1, hn => by
  obtain ⟨hd, s, hr⟩ := aGC h n (by omega)
  rw [xR]
  generalize qA A n = st at hd hr
  obtain ⟨B, pv⟩ := st
  simp only at hd hr
  have hlen := hr.len
  obtain ⟨f1, f2, f3⟩ := aEZ (A := B) (j := n) (B.length - pv.length) pv.length (by rw [hd.1]; omega)
  have f4 := aBO (A := B) (j := n) (B.length - pv.length) pv.length (by rw [hd.1]; omega)
  unfold aOU
  simp only
  generalize nC B n (B.length - pv.length) pv.length = x at f1 f2 f3 f4
  by_cases hx : x < B.length
  ·rw [if_pos hx]
   rw [hd.1] at hx
   refine ⟨aNE hd (by omega) hx, _, hr.step (x := x) (by omega) f1 hx (f3 (by rw [hd.1]; exact hx)) (aOC hd (by omega) hx (by omega) (fun b hb => hr.zero x b f1 hx hb))⟩
  ·rw [if_neg hx]
   exact ⟨hd, s, hr.none (fun i h1 h2 => f4 i h1 (by rw [hd.1] at hx; omega))⟩
end Go.Proofs.YtjbhdfpjnjedhaaGreat
namespace Go.Proofs.YtjbhdfpjnjedhaaGreat
open Go Go.Fx
def offP (pv : List Nat) (z : Nat → Rat) : Nat → Rat := fun j => if j ∈ pv then 0 else z j
section
variable {R C R' : Nat} {f0 f g0 g : Nat → Nat → Rat} {pv qv : List Nat} {s s' : Rat}
end
end Go.Proofs.YtjbhdfpjnjedhaaGreat
namespace Go.Proofs.YtjbhdfpjnjedhaaGreat
open Go Go.Fx
def nullF (f : Nat → Nat → Rat) (pv : List Nat) (j c : Nat) : Rat := if c ∈ pv then - f (pv.idxOf c) j else if c = j then 1 else 0
def freeP (pv : List Nat) (C : Nat) : List Nat := (List.range C).filter (fun j => decide (j ∉ pv))
def nullV (E : Mt) (pv : List Nat) (C j : Nat) : List Rat := (List.range C).map (nullF (at2 E) pv j)
def nullM (E : Mt) (pv : List Nat) (C : Nat) : Mt := (freeP pv C).map (nullV E pv C)
def nullA (A : Mt) (C : Nat) : Mt := nullM (qA A C).1 (qA A C).2 C
def rk (A : Mt) (C : Nat) : Nat := (qA A C).2.length
section
variable {R C : Nat} {f0 f : Nat → Nat → Rat} {pv : List Nat} {s : Rat}
end
/- systems: the right side is the column C of a wider matrix -/
section
variable {R C W : Nat} {f0 f : Nat → Nat → Rat} {pv : List Nat} {s : Rat}
def solF (f : Nat → Nat → Rat) (pv : List Nat) (C c : Nat) : Rat := if c ∈ pv then f (pv.idxOf c) C else 0
def solOk (R C : Nat) (f : Nat → Nat → Rat) (pv : List Nat) : Prop := ∀ i, pv.length ≤ i → i < R → f i C = 0
def ext1 (C : Nat) (x : Nat → Rat) (y : Rat) : Nat → Rat := fun j => if j < C then x j else if j = C then y else 0
end
end Go.Proofs.YtjbhdfpjnjedhaaGreat
namespace Go.Proofs.YtjbhdfpjnjedhaaGreat
open Go Go.Fx
abbrev pvI (q : Option Addr) (pv : List Nat) : bA := aP q (recs eZ (zs pv))
def EchP (A : Mt) (R C k : Nat) (M0 : List Ent) (I0 : List bA) (v : Value) (M : List Ent) (I : List bA) : Prop :=
 M0 = M ∧ ∃ (m : MX) (pv : List Nat) (q : Option Addr) (c : Nat), v = .tuple #[mv m, .slice q pv.length c, .int .i64 0] ∧ qA A C = (m.q, pv) ∧ m.dim R C ∧ I = pvI q pv :: iL m k :: I0
def NlP (A : Mt) (C k : Nat) (M0 : List Ent) (I0 : List bA) (v : Value) (M : List Ent) (I : List bA) : Prop :=
 M0 = M ∧ ∃ m : MX, v = .tuple #[mv m, .int .i64 0] ∧ m.q = nullA A C ∧ (∀ r ∈ m.rows, r.es.length = C) ∧ I = iL m k :: I0
section
variable {X : List Nat} {w0 : World} {M : List Ent} {I : List bA}
theorem Mem.blkL {w : World} {b k : Nat} {es : List RE} {ty : TypeId} (h : Mem X w0 (.blk b (recs eR es) ty :: M) I w) (ha : dB es k ∈ I) : Mem X w0 M (mF ⟨some ⟨b, 0, none⟩, es.length, es⟩ k :: I) w := by
 have h1 := h.freezeB .here
 refine (h1.add (φ := mF ⟨some ⟨b, 0, none⟩, es.length, es⟩ k) ⟨(h1.sl (List.Mem.head _)), (((h1.imm _ (List.Mem.tail _ ha)).2 : AllR es k _ w)).go, ⟨Nat.le_refl _, .inl (Ok.mk _ _)⟩⟩).inc (.of fun φ hφ => ?_)
 rcases List.mem_cons.1 hφ with rfl | hφ
 ·exact List.Mem.head _
 ·exact List.Mem.tail _ (List.Mem.tail _ hφ)
variable {P : Program} {n : Nat} {Q : Exit → Act → World → Prop} {G : Env}
theorem aQZ {ops l : List Oper} {m : Fx.Mode} {b k : Nat} {es : List RE} {ty : TypeId} (ha : dB es k ∈ I) (h : RD P n ops Q m l G X w0 M (mF ⟨some ⟨b, 0, none⟩, es.length, es⟩ k :: I)) : RD P n ops Q m l G X w0 (.blk b (recs eR es) ty :: M) I := tH (fun _ hw => Mem.blkL hw ha) h
theorem aJQ {cd : Code} {b k : Nat} {es : List RE} {ty : TypeId} (ha : dB es k ∈ I) (h : TD P n cd Q G X w0 M (mF ⟨some ⟨b, 0, none⟩, es.length, es⟩ k :: I)) : TD P n cd Q G X w0 (.blk b (recs eR es) ty :: M) I := aDU (fun _ hw => Mem.blkL hw ha) h
end
section
variable {X : List Nat} {w0 : World} {M0 : List Ent} {I0 : List bA}
/- reduce, and what it changed is only read from now on -/
/- a matrix made is only read from now on -/
end
end Go.Proofs.YtjbhdfpjnjedhaaGreat
namespace Go.Proofs.YtjbhdfpjnjedhaaGreat
open Go Go.Fx
section
variable {X : List Nat} {w0 : World} {M0 : List Ent} {I0 : List bA}
theorem aCE {q : Option Addr} {n c : Nat} : CD Tryz.prog 64 [.slice q n c] X w0 M0 I0 (fun v M I => M0 = M ∧ ∃ b, v = .func (.func 108) #[] #[.pointer (some ⟨b, 0, none⟩)] ∧ I = aP (some ⟨b, 0, none⟩) [.slice q n c] :: I0) := by
 refine aX Tryz.func64 rfl Tryz.ntmps64 rfl ?_
 refine aH ?_
 refine aJ ?_
 (refine oL rfl rfl rfl ?_; intro b1; refine ⟨okF, ?_⟩)
 repeat (refine aK ?_)
 refine aI (by first | exact .inl rfl | exact .inr rfl) rfl rfl _ _ aD aC (⟨rfl, b1, rfl, rfl⟩)
end
end Go.Proofs.YtjbhdfpjnjedhaaGreat
namespace Go.Proofs.YtjbhdfpjnjedhaaGreat
open Go Go.Fx
section
variable {X : List Nat} {w0 : World} {M0 : List Ent} {I0 : List bA}
theorem aAU {q : Option Addr} {zs : List Int} {c b n : Nat} (hl : zs.length = n) (hn : 1 ≤ n ∧ n ≤ 12) (hb : aP (some ⟨b, 0, none⟩) [.slice q n c] ∈ I0) (hq : aP q (recs eZ zs) ∈ I0) :
  CD Tryz.prog 63 [.func (.func 108) #[] #[.pointer (some ⟨b, 0, none⟩)]] X w0 M0 I0 (fun v M I => I0 = I ∧ ∃ (b2 c2 : Nat) (tl : List Value), v = .slice (some ⟨b2, 0, none⟩) n c2 ∧ n ≤ c2 ∧ M = .blk b2 (recs eZ (yG id zs) ++ tl) 3 :: M0) := by
 subst hl
 have hA := fun M0 I0 hb hq => aTG (X := X) (w0 := w0) (M0 := M0) (I0 := I0) (q := q) (zs := zs) (c := c) (Bs := b) (by omega) hb hq
 have hC : ∀ M0 I0, aP (some ⟨b, 0, none⟩) [.slice q zs.length c] ∈ I0 → aP q (recs eZ zs) ∈ I0 → CD Tryz.prog 106 [.func (.func 108) #[] #[.pointer (some ⟨b, 0, none⟩)]] X w0 M0 I0 (fun v M I => I0 = I ∧ ∃ q' c', v = .slice q' zs.length c' ∧ M = .row q' zs.length c' (recs eZ zs) 3 1 :: M0) := fun M0 I0 h1 h2 => by
  refine aX Tryz.func106 rfl Tryz.ntmps106 rfl ?_
  repeat (refine aK ?_)
  (refine aA rfl (hA _ _ aB aB) rfl rfl ?_; rintro _ _ _ ⟨rfl, q', c', rfl, rfl⟩; refine ⟨okF, ?_⟩)
  repeat (refine aK ?_)
  refine aI (by first | exact .inl rfl | exact .inr rfl) rfl rfl _ _ aD aC (⟨rfl, q', c', rfl, rfl⟩)
 refine aX Tryz.func63 rfl Tryz.ntmps63 rfl ?_
 repeat (refine aK ?_)
 (refine aA rfl (hC _ _ aB aB) rfl rfl ?_; rintro _ _ _ ⟨rfl, q1, c1, rfl, rfl⟩; refine ⟨okF, ?_⟩)
 refine aCK (fun h1 h2 h3 => ?_) (fun bq tl e hle => ?_)
 ·omega
 ·subst e
  repeat (refine aK ?_)
  (refine aA rfl (aRS (b := bq) (tl := tl) (D := zs) rfl hn.2) rfl rfl ?_; rintro _ _ _ ⟨rfl, rfl⟩; refine ⟨okF, ?_⟩)
  repeat (refine aK ?_)
  refine aI (by first | exact .inl rfl | exact .inr rfl) rfl rfl _ _ aD aC (⟨rfl, bq, c1, tl, rfl, hle, rfl⟩)
end
end Go.Proofs.YtjbhdfpjnjedhaaGreat
namespace Go.Fx
section
variable {P : Program} {n : Nat} {ops : List Oper} {Q : Exit → Act → World → Prop} {m : Mode} {G : Env} {w : World} {ty : TypeId} {pos : String} {af : Array Edge} {g : Option (Nat × Bool)} {l : List Oper} {X : List Nat} {w0 : World} {M M' : List Ent} {I : List bA}
theorem aLS {t e : TypeId} {sz sz' by_ : Nat} {z : List Value} {lo co : Operand} {k k' : IntKind} {mm : Nat} [ht : SliceTy P t e sz'] [hz : ElemTy P e sz by_ z]
  (hl : ev G lo = some (.int k 0)) (hc : ev G co = some (.int k' (mm : Int))) (hb : (by_ : Int) * (mm : Int) ≤ 281474976710656) (hm : (mm : Int) ≤ 9223372036854775807) :
  Eff P n G (.makeSlice t lo co) ty w (fun v w' => ∃ b, b = w.heap.size ∧ v = .slice (some ⟨b, 0, none⟩) 0 mm ∧ w'.ownsRow 0 e sz (.slice (some ⟨b, 0, none⟩) 0 mm) 0 [] ∧ Ext [] w w' ∧ b < w'.heap.size) := by
 refine ⟨?_⟩
 intro a ha dst pos after guard
 obtain ⟨i, v, hi, hs, hby, hzv, hcl⟩ := uI hz
 have hr := run_make (P := P) w t e i v ht.und hi hzv k k' 0 mm (by omega) (by omega) (by rw [hby]; exact hb) hm
 refine rY (v := .slice (some ⟨w.heap.size, 0, none⟩) 0 mm) (w' := w.alloc (.cells (madeCells z.toArray (mm * sz)) e)) ?_ ⟨_, ⟨_, rfl, rfl, ⟨by simp, .inr ⟨w.heap.size, mm, madeCells z.toArray (mm * sz), rfl, Nat.zero_le _, heap_alloc_new w _, Nat.zero_le _, by show mm ≤ 9223372036854775807; omega, size_madeCells _ _, by simp⟩⟩, Ext.alloc _ _ _, by simp⟩, rfl⟩
 simp only [Int.toNat_natCast, hs, hcl] at hr
 simp [execOp, ha.ev hl, ha.ev hc, hr]
theorem aQF {d : Nat} {t e : TypeId} {sz sz' by_ : Nat} {z : List Value} {lo co : Operand} {k1 k2 : IntKind} (mm : Nat) {x2 : Int} [SliceTy P t e sz'] [ElemTy P e sz by_ z]
  (hl : ev G lo = some (.int k1 0)) (hc : ev G co = some (.int k2 x2)) (e2 : x2 = mm) (hb : (by_ : Int) * (mm : Int) ≤ 281474976710656) (hm : (mm : Int) ≤ 9223372036854775807) (hg : oH ops G g = some true) (hd : Nat.ble (d + 1) n = true)
  (k : ∀ b, OkD m X w0 (.row (some ⟨b, 0, none⟩) 0 mm [] e sz :: M) I ∧ RD P n ops Q m.nextE l ((d, .slice (some ⟨b, 0, none⟩) 0 mm) :: G) X w0 (.row (some ⟨b, 0, none⟩) 0 mm [] e sz :: M) I) :
  RD P n ops Q m (⟨some d, .makeSlice t lo co, ty, pos, af, g⟩ :: l) G X w0 M I := by
 subst e2
 exact yN (d := some d) (K := fun v' M' I' => ∃ b, v' = .slice (some ⟨b, 0, none⟩) 0 mm ∧ M' = .row (some ⟨b, 0, none⟩) 0 mm [] e sz :: M ∧ I' = I) hg
  (fun w hw => (aLS (mm := mm) hl hc hb hm).mono (fun _ w' ⟨b, hb, hp, hB, hE, _⟩ => ⟨_, _, ⟨b, hp, rfl, rfl⟩, hw.push hE (by simp [Ent.blocks, hb]) (by simp [Ent.blocks]) hB⟩)) rfl hd
  (fun _ _ _ ⟨b, hp, hM, hI⟩ => by subst hp; subst hM; subst hI; exact k b)
end
end Go.Fx
namespace Go.Fx
section
variable {P : Program} {n : Nat} {ops : List Oper} {Q : Exit → Act → World → Prop} {m : Mode} {G : Env} {l : List Oper} {X : List Nat} {w0 : World} {M M' : List Ent} {I : List bA}
theorem aSZ {w : World} {base : Nat} {e : TypeId} {sz mm m' c : Nat} {a : Option Addr} {xs : List Value} (h : w.ownsRow base e sz (.slice a mm c) mm xs) (hle : m' ≤ mm) : w.ownsRow base e sz (.slice a m' c) m' (xs.take (m' * sz)) := by
 obtain ⟨h1, h2⟩ := h
 have h3 : m' * sz ≤ mm * sz := Nat.mul_le_mul_right _ hle
 refine ⟨by rw [List.length_take, h1, Nat.min_eq_left h3], ?_⟩
 rcases h2 with ⟨hv, h0⟩ | ⟨g, cap, cur, hv, hb, hc, hn, hm, hs, ht⟩
 ·subst h0
  obtain rfl : m' = 0 := by omega
  exact .inl ⟨hv, rfl⟩
 ·injection hv with e1 e2 e3
  subst e1; subst e3
  exact .inr ⟨g, c, cur, rfl, hb, hc, by omega, hm, hs, by rw [← ht, List.take_take, Nat.min_eq_left h3]⟩
theorem Mem.pop {w : World} {a : Option Addr} {mm m' c : Nat} {cs : List Value} {e : TypeId} {sz : Nat} (h : Mem X w0 M I w) (hr : Rep (.row a mm c cs e sz) (.row a m' c (cs.take (m' * sz)) e sz) M M') (hle : m' ≤ mm) : Mem X w0 M' I w := by
 have ho : w.ownsRow 0 e sz (.slice a mm c) mm cs := h.ent _ hr.mem
 have hbl : (Ent.row a m' c (cs.take (m' * sz)) e sz).blocks = (Ent.row a mm c cs e sz).blocks := by cases a <;> rfl
 exact h.upd hr (Ext.refl _ _) (fun b hb => .inl (hbl ▸ hb)) (by cases a <;> simp [Ent.blocks]) (aSZ ho hle)
theorem aVR {ex : Exit} {a : Option Addr} {mm m' c : Nat} {cs : List Value} {e : TypeId} {sz : Nat} (hr : Rep (.row a mm c cs e sz) (.row a m' c (cs.take (m' * sz)) e sz) M M') (hle : m' ≤ mm) (h : ND n Q ex G X w0 M' I) : ND n Q ex G X w0 M I := yM (fun _ hw => hw.pop hr hle) h
theorem Mem.rowA {w : World} {a : Option Addr} {mm c : Nat} {cs : List Value} {e : TypeId} {sz : Nat} (h : Mem X w0 M I w) (hm : .row a mm c cs e sz ∈ M) (h0 : 0 < mm) : ∃ b, a = some ⟨b, 0, none⟩ ∧ mm ≤ c := by
 have ho : w.ownsRow 0 e sz (.slice a mm c) mm cs := h.ent _ hm
 rcases ho.2 with ⟨_, h1⟩ | ⟨g, cap, cur, hv, _, _, hn, _⟩
 ·omega
 ·injection hv with e1 e2 e3
  exact ⟨g, e1, by omega⟩
end
end Go.Fx

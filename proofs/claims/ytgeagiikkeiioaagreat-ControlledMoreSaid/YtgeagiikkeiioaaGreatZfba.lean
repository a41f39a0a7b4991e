/- matrix: Add, Sub, Scale, Mul, Transpose, Apply, Identity, of matrices and of what is none. matrix: Mul, Apply, of matrices and of what is none. Elimination of lists of rows is elimination of numbers. Ranks, plain: the kernel of a reduced matrix; systems with more unknowns than equations; ranks compared by kernels. -/
import Derived.Test.YtgeagiikkeiioaaGreatZfaz
import Derived.Test.YtgeagiikkeiioaaGreatZfav
import Derived.Test.YtgeagiikkeiioaaGreatZfaw
set_option linter.unusedSimpArgs false
set_option linter.unusedVariables false
set_option maxRecDepth 100000
set_option maxHeartbeats 4000000
namespace Go.Proofs.YtgeagiikkeiioaaGreat
open Go Go.Fx
theorem aOT {i j : Nat} : tY i j = if (i : Int) = (j : Int) then (1 : Rat) else 0 := by
 unfold tY
 by_cases e : i = j
 ·rw [if_pos e, if_pos (by omega)]
 ·rw [if_neg e, if_neg (by omega)]
theorem oF {M M' : List Ent} (h : SubP M M') : ∀ {xs : List Ent}, SubP (xs ++ M) M'
 | [] => h
 | _ :: _ => .drop (oF h)
def MX.fit (m : MX) (R C : Nat) : Prop := m.dim R C ∧ (1 ≤ R ∧ R ≤ 64) ∧ (1 ≤ C ∧ C ≤ 64)
theorem MX.fit.r0 {m : MX} {R C : Nat} (h : m.fit R C) : (gt m.rows 0).es.length = C := by
 have := h.1.row (i := 0) (by have := h.2.1; omega)
 exact this
theorem MX.fit.ok {m : MX} {R C : Nat} (h : m.fit R C) : m.raw.ok := aQR h.1 h.2.1 h.2.2
theorem MX.raw_rows (m : MX) : m.raw.rows.length = m.rows.length := by show (m.rows.map RL.raw).length = _; rw [List.length_map]
theorem MX.raw_c0 {m : MX} {R C : Nat} (h : m.fit R C) : (gt m.raw.rows 0).es.length = C := by
 have e : m.raw.rows = m.rows.map RL.raw := rfl
 rw [e, aCK (by have := h.1.1; have := h.2.1; omega)]
 show ((gt m.rows 0).es.map RE.raw).length = C
 rw [List.length_map]; exact h.r0
section
variable {P : Program} {f : FuncId} {vs : List Value} {X : List Nat} {w0 : World} {M : List Ent} {I : List bA}
theorem jT {K : Value → List Ent → List bA → Prop} {φ : Prop} (h : ∀ w, Mem X w0 M I w → φ) (k : φ → CD P f vs X w0 M I K) : CD P f vs X w0 M I K := ⟨fun w hw => (k (h w hw)).go w hw⟩
theorem sI {K : Value → Prop} {φ : bA} [Fx.Good φ] (h : Hv I φ) (c : CD P f vs X w0 M (φ :: I) (fun v M' I' => M = M' ∧ φ :: I = I' ∧ K v)) : CD P f vs X w0 M I (fun v M' I' => M = M' ∧ I = I' ∧ K v) :=
 ⟨fun w hw => (c.go w (Mem.hv h hw)).mono (fun _ _ ⟨M', I', ⟨e1, e2, hk⟩, h2⟩ => by subst e1; subst e2; exact ⟨M, I, ⟨rfl, rfl, hk⟩, h2.inc (.of fun φ hφ => List.Mem.tail _ hφ)⟩)⟩
theorem Mem.xsml {w : World} {m : MX} {R C k : Nat} (hm : jC m k ∈ I) (hd : m.fit R C) (hk : k ≤ 20000000000) (hw : Mem X w0 M I w) : m.raw.sml := by
 have h : IsX m k (muts M) w := (hw.imm _ hm).2
 refine ⟨by rw [m.raw_rows, hd.1.1]; have := hd.2.1; omega, fun r hr => ?_⟩
 obtain ⟨s, hs, rfl⟩ := List.mem_map.1 hr
 refine ⟨by show (s.es.map RE.raw).length ≤ _; rw [List.length_map, hd.1.2 s hs]; have := hd.2.2; omega, fun e he => ?_⟩
 obtain ⟨x, hx, rfl⟩ := List.mem_map.1 he
 exact IsR.sml hk ((h.row s hs).el x hx)
theorem Mem.lsml {w : World} {r : RL} {k : Nat} (hm : kZ r k ∈ I) (hl : r.es.length ≤ 1000000000) (hk : k ≤ 20000000000) (hw : Mem X w0 M I w) : r.raw.sml := by
 have h : IsL r k (muts M) w := (hw.imm _ hm).2
 refine ⟨by show (r.es.map RE.raw).length ≤ _; rw [List.length_map]; exact hl, fun e he => ?_⟩
 obtain ⟨x, hx, rfl⟩ := List.mem_map.1 he
 exact IsR.sml hk (h.el x hx)
end
section
variable {X : List Nat} {w0 : World} {M0 : List Ent} {I0 : List bA}
theorem aAZ {a : MX} {R C k : Nat} (hk : k ≤ 20000000000) (da : a.fit R C) (ha : jC a k ∈ I0) : CD Tryz.prog 160 [mv a] X w0 M0 I0 (fun v M I => M0 = M ∧ I0 = I ∧ v = .int .i64 0) := by
 refine jT (fun w hw => Mem.xsml ha da hk hw) (fun sa => ?_)
 refine sI (φ := nN a.raw) (Hv.xraw ha hk) ?_
 have := aEQ (X := X) (w0 := w0) (M0 := M0) (I0 := nN a.raw :: I0) (m := a.raw) sa (List.Mem.head _)
 rw [WM.code_ok da.ok, zK] at this
 exact this
theorem aIU {a : MX} {R C k : Nat} (da : a.fit R C) (ha : jC a k ∈ I0) : CD Tryz.prog 161 [mv a] X w0 M0 I0 (XQ (yF C R (fun i j => at2 a.q j i)) C R k M0 I0) := by
 have lR := da.1.1
 have lC := da.r0
 obtain ⟨r1, r2⟩ := da.2.1
 obtain ⟨c1, c2⟩ := da.2.2
 refine cB (φ := aX (a).p (recs eL (a).rows)) (Hv.xsl aB) ?_
 refine bF Tryz.func161 rfl Tryz.ntmps161 rfl ?_
 refine aL ?_
 refine aI ?_
 (refine lW rfl rfl rfl ?_; intro p1; refine ⟨okF, ?_⟩)
 repeat (refine aJ ?_)
 (repeat refine aL ?_); refine eF [0, 1, 2, 3, 4, 5, 6, 7, 8] [1, 1, 1, 0, 1, 0, 0, 0, 0] mixed (by kernel_rfl) ?_
 repeat (refine aJ ?_)
 have hg := fun M I (hI : ∀ φ ∈ aX (some ⟨p1, 0, none⟩) [.slice a.p a.rows.length a.c] :: aX a.p (recs eL a.rows) :: I0, φ ∈ I) (i j : Nat) (hi : i < (gt a.rows 0).es.length) (hj : j < a.rows.length) => aGU (X := X) (w0 := w0) (M0 := M) (I0 := I) (a := a) (p := p1) (k := k) (i := i) (j := j) (by omega) (by rw [da.1.row (by omega)]; omega) (hI _ aB) (hI _ aB)
 (refine aA rfl (yO (R := (gt a.rows 0).es.length) (C := a.rows.length) (g := 198) (fs := #[]) (cs := #[pb p1]) (k0 := k) (by omega) (by omega) (fun i j => at2 a.q j i) hg) rfl rfl ?_; rintro _ _ _ ⟨rfl, x, rfl, hx, hd, rfl⟩; refine ⟨okF, ?_⟩)
 rw [lR, lC] at hx hd
 repeat (refine aJ ?_)
 refine aH (by first | exact .inl rfl | exact .inr rfl) rfl rfl _ _ aG aD (⟨rfl, x, rfl, hx, hd, rfl⟩)
theorem aFT {a : MX} {R C k : Nat} (da : a.fit R C) (ha : jC a k ∈ I0) : CD Tryz.prog 177 [mv a] X w0 M0 I0 (MkP R C (at2 a.q) k M0 I0) := by
 have lR := da.1.1
 have lC := da.r0
 obtain ⟨r1, r2⟩ := da.2.1
 obtain ⟨c1, c2⟩ := da.2.2
 refine cB (φ := aX (a).p (recs eL (a).rows)) (Hv.xsl aB) ?_
 refine bF Tryz.func177 rfl Tryz.ntmps177 rfl ?_
 refine aL ?_
 refine aI ?_
 (refine lW rfl rfl rfl ?_; intro p1; refine ⟨okF, ?_⟩)
 repeat (refine aJ ?_)
 (repeat refine aL ?_); refine eF [0, 1, 2, 3, 4, 5, 6, 7, 8] [1, 0, 1, 1, 1, 0, 0, 0, 0] mixed (by kernel_rfl) ?_
 repeat (refine aJ ?_)
 have hg := fun M I (hI : ∀ φ ∈ aX (some ⟨p1, 0, none⟩) [.slice a.p a.rows.length a.c] :: aX a.p (recs eL a.rows) :: I0, φ ∈ I) (i j : Nat) (hi : i < a.rows.length) (hj : j < (gt a.rows 0).es.length) => aFK (X := X) (w0 := w0) (M0 := M) (I0 := I) (a := a) (p := p1) (k := k) (i := i) (j := j) (by omega) (by rw [da.1.row (by omega)]; omega) (hI _ aB) (hI _ aB)
 (refine aA rfl (zD (R := a.rows.length) (C := (gt a.rows 0).es.length) (g := 208) (fs := #[]) (cs := #[pb p1]) (k0 := k) (by omega) (by omega) (at2 a.q) hg) rfl rfl ?_; rintro _ _ _ ⟨bo, rows, rfl, h1, h2, h3, rfl, rfl⟩; refine ⟨OkD.any (SubP.drop (oF SubP.refl)) aD, ?_⟩)
 rw [lR] at h1
 rw [lC] at h2
 rw [lR, lC] at h3
 have e1 : (a.rows.length : Int) = R := by omega
 repeat (refine aJ ?_)
 refine aH (by first | exact .inl rfl | exact .inr rfl) rfl rfl _ _ aG aD (⟨bo, rows, by rw [lR], h1, h2, h3, rfl, rfl⟩)
theorem wQ {a b : MX} {R C D k : Nat} (da : a.fit R C) (db : b.fit R D) (ha : jC a k ∈ I0) (hb : jC b k ∈ I0) : CD Tryz.prog 163 [mv a, mv b] X w0 M0 I0 (MkP R (C + D) (fun i j => if j < C then at2 a.q i j else at2 b.q i (j - C)) k M0 I0) := by
 have lR := da.1.1
 have lR2 := db.1.1
 have lC := da.r0
 have lD := db.r0
 obtain ⟨r1, r2⟩ := da.2.1
 obtain ⟨c1, c2⟩ := da.2.2
 obtain ⟨d1, d2⟩ := db.2.2
 refine cB (φ := aX (a).p (recs eL (a).rows)) (Hv.xsl aB) ?_
 refine cB (φ := aX (b).p (recs eL (b).rows)) (Hv.xsl aB) ?_
 refine bH Tryz.func163 rfl Tryz.ntmps163 rfl ?_
 refine aL ?_
 refine aI ?_
 (refine lW rfl rfl rfl ?_; intro p1; refine ⟨okF, ?_⟩)
 (refine lW rfl rfl rfl ?_; intro p2; refine ⟨okF, ?_⟩)
 repeat (refine aJ ?_)
 (repeat refine aL ?_); refine eF [0, 1, 2, 3, 4, 5, 6, 7, 8, 9, 10, 11, 12, 13] [1, 0, 1, 1, 1, 1, 1, 1, 1, 1, 0, 0, 0, 0] mixed (by kernel_rfl) ?_
 repeat (refine aJ ?_)
 rw [show ((gt a.rows 0).es.length : Int) + ((gt b.rows 0).es.length : Int) = (((gt a.rows 0).es.length + (gt b.rows 0).es.length : Nat) : Int) by omega]
 have hg := fun M I (hI : ∀ φ ∈ aX (some ⟨p2, 0, none⟩) [.slice b.p b.rows.length b.c] :: aX (some ⟨p1, 0, none⟩) [.slice a.p a.rows.length a.c] :: aX b.p (recs eL b.rows) :: aX a.p (recs eL a.rows) :: I0, φ ∈ I) (i j : Nat) (hi : i < a.rows.length) (hj : j < (gt a.rows 0).es.length + (gt b.rows 0).es.length) => aHD (X := X) (w0 := w0) (M0 := M) (I0 := I) (a := a) (b := b) (p := p1) (q := p2) (k := k) (m := k) (i := i) (j := j) (C := C) lC (by omega) (by omega) (da.1.row (by omega)) (by omega) (by rw [db.1.row (by omega)]; omega) (by rw [db.1.row (by omega)]; omega) (Nat.le_refl _) (by omega) (hI _ aB) (hI _ aB) (hI _ aB) (hI _ aB)
 (refine aA rfl (zD (R := a.rows.length) (C := (gt a.rows 0).es.length + (gt b.rows 0).es.length) (g := 199) (fs := #[]) (cs := #[pb p1, pb p2]) (k0 := k) (by omega) (by omega) (fun i j => if j < C then at2 a.q i j else at2 b.q i (j - C)) hg) rfl rfl ?_; rintro _ _ _ ⟨bo, rows, rfl, h1, h2, h3, rfl, rfl⟩; refine ⟨OkD.any (SubP.drop (oF SubP.refl)) aD, ?_⟩)
 rw [lR] at h1
 rw [lC, lD] at h2
 rw [lR, lC, lD] at h3
 repeat (refine aJ ?_)
 refine aH (by first | exact .inl rfl | exact .inr rfl) rfl rfl _ _ aG aD (⟨bo, rows, by rw [lR], h1, h2, h3, rfl, rfl⟩)
theorem aAL {a : MX} {R C k : Nat} (hk : k ≤ 20000000000) (da : a.fit R C) (ha : jC a k ∈ I0) : CD Tryz.prog 112 [mv a] X w0 M0 I0 (XQc (yF C R (fun i j => at2 a.q j i)) C R k M0 I0) := by
 have hC := fun M0 I0 h1 => aAZ (X := X) (w0 := w0) (M0 := M0) (I0 := I0) (a := a) (k := k) (by omega) da h1
 refine bF Tryz.func112 rfl Tryz.ntmps112 rfl ?_
 repeat (refine aJ ?_)
 (refine aA rfl (hC _ _ aB) rfl rfl ?_; rintro _ _ _ ⟨rfl, rfl, rfl⟩; refine ⟨okF, ?_⟩)
 repeat (refine aJ ?_)
 (refine aA rfl (aIU da aB) rfl rfl ?_; rintro _ _ _ ⟨rfl, x, rfl, hx, hd, rfl⟩; refine ⟨okF, ?_⟩)
 repeat (refine aJ ?_)
 refine fC [2, 3] (by first | exact .inl rfl | exact .inr rfl) rfl rfl rfl _ _ aG aD (⟨rfl, x, rfl, hx, hd, rfl⟩)
end
end Go.Proofs.YtgeagiikkeiioaaGreat
namespace Go.Proofs.YtgeagiikkeiioaaGreat
open Go Go.Fx
def mulC (a b : WM) : Int := if a.ok ∧ b.ok then (if (gt a.rows 0).es.length = b.rows.length then 0 else 4) else 1
def xN (a : WM) (x : WL) (n : Nat) : Int := if a.ok then (if x.good then (if x.es.length = n then 0 else 4) else 1) else 1
section
variable {X : List Nat} {w0 : World} {M0 : List Ent} {I0 : List bA}
theorem aGZ {a : MX} {x : RL} {R C k m : Nat} (hk : k ≤ 1000000000) (hm : m ≤ 500000000) (hR : R ≤ 100) (hCC : C ≤ 64) (da : a.dim R C) (hl : x.es.length = C) (ha : jC a k ∈ I0) (hx : kZ x m ∈ I0) :
  CD Tryz.prog 144 [mv a, lv x] X w0 M0 I0 (LQ ((List.range R).map (fun i => sm C (fun t => at2 a.q i t * x.q.getD t 0))) (C * (k + m + 1)) M0 I0) := by
 have lR := da.1
 have hKK : C * (k + m + 1) ≤ 100000000000 := Nat.le_trans (Nat.mul_le_mul hCC (show k + m + 1 ≤ 1500000001 by omega)) (by decide)
 generalize hKe : C * (k + m + 1) = K at *
 refine cB (φ := aX (a).p (recs eL (a).rows)) (Hv.xsl aB) ?_
 refine bH Tryz.func144 rfl Tryz.ntmps144 rfl ?_
 repeat (refine aJ ?_)
 refine nT 42 4 ?_
 refine fP (φ := bT [] K) Hv.nilR ?_
 refine aW [1, 8, 9] rfl (fun k G M I => ∃ (i : Nat) (es : List RE) (q : Option Addr) (c : Nat), i ≤ R ∧ k = R - i ∧ es.length = i ∧ qs es = (List.range i).map (fun i => sm C (fun t => at2 a.q i t * x.q.getD t 0)) ∧ G = [(5, .slice q es.length c), (10, .int .i64 i)] ∧ M = .row q es.length c (recs eR es) 42 4 :: M0 ∧ I = bT es K :: aX a.p (recs eL a.rows) :: I0) (R) _ _ _ aP aG aD (⟨0, [], none, 0, by omega, rfl, rfl, rfl, rfl, rfl, rfl⟩) ?_
 rintro kk G M I ⟨i, es, q, c, hi, rfl, hel, heq, rfl, rfl, rfl⟩
 by_cases hiR : i < R
 ·refine fP (φ := kZ (gt (a).rows (i : Int)) k) (Hv.xrow aB (by omega)) ?_
  repeat (refine aJ ?_)
  (refine aA rfl (aQX (ka := k) (kb := m) (n := C) (by omega) (by omega) (da.row hiR) hl aB aB) rfl rfl ?_; rintro _ _ _ ⟨rfl, e, rfl, he, rfl⟩; refine ⟨okF, ?_⟩)
  (refine aK (cs := recs eR [e]) ([rv e]) rfl rfl (by intro v hv; repeat (first | exact absurd hv (List.not_mem_nil) | (rcases List.mem_cons.1 hv with rfl | hv; · rfl))) (by omega) rfl rfl rfl ?_; intro b; refine ⟨okF, ?_⟩)
  (refine aM (ys := [e]) 1 rfl rfl rfl ?_ (by decide) rfl (by omega) (by omega) rfl rfl ?_; (· first | exact Src.blk aB | exact Src.row aB | exact Src.imm aB (by first | assumption | exact .inl (Ok.mk _ _))); intro q2 c2; refine ⟨okF, ?_⟩)
  rw [hKe]
  repeat (refine aJ ?_)
  refine dV (φ := bT (es ++ [e]) K) (Hv.snoc aB aB) ?_
  refine aN (R - (i + 1)) _ _ _ (by first | omega | (simp only [List.length_append, List.length_cons, List.length_nil]; omega)) aP aG aD (⟨i + 1, es ++ [e], q2, c2, by omega, rfl, by simp; omega, ?_, rfl, rfl, rfl⟩)
  rw [List.range_succ, List.map_append, ← heq]
  have e1 : sm C (fun t => at2 a.q i t * x.q.getD t 0) = dotQ C (gt a.rows (i : Int)).q x.q := by rw [← wG (by omega)]; rfl
  show (es ++ [e]).map RE.q = qs es ++ [sm C (fun t => at2 a.q i t * x.q.getD t 0)]
  rw [List.map_append, e1, ← he]
  rfl
 ·obtain rfl : i = R := by omega
  repeat (refine aJ ?_)
  refine aGT aB ?_
  refine aH (by first | exact .inl rfl | exact .inr rfl) rfl rfl _ _ aG aD (⟨rfl, ⟨q, c, es⟩, rfl, heq, rfl⟩)
theorem aKF {m : WM} {p : Nat} (hR : 1 ≤ m.rows.length) (hm : nN m ∈ I0) (hb : aX (some ⟨p, 0, none⟩) [.slice m.p m.rows.length m.c] ∈ I0) :
  CD Tryz.prog 143 [pb p] X w0 M0 I0 (fun v M I => M0 = M ∧ I0 = I ∧ v = .int .i64 ((gt m.rows 0).es.length : Int)) := by
 refine cB (φ := aX m.p (recs uT m.rows)) (Hv.wmsl hm) ?_
 refine bF Tryz.func143 rfl Tryz.ntmps143 rfl ?_
 repeat (refine aJ ?_)
 refine aH (by first | exact .inl rfl | exact .inr rfl) rfl rfl _ _ aG aD (⟨rfl, rfl, rfl⟩)
theorem aCS {a : WM} {x : WL} {n : Nat} {g : FuncId} [FnOk Tryz.prog g] {fs cs : Array Value} (sa : a.sml) (sx : x.sml) (ha : nN a ∈ I0) (hx : gQ x ∈ I0)
  (hg : a.ok → CD Tryz.prog g (fs.toList ++ [] ++ cs.toList) X w0 M0 I0 (fun v M I => M0 = M ∧ I0 = I ∧ v = .int .i64 (n : Int))) :
  CD Tryz.prog 142 [mvW a, rR x, .func (.func g) fs cs] X w0 M0 I0 (fun v M I => M0 = M ∧ I0 = I ∧ v = .int .i64 (xN a x n)) := by
 have hC := fun M0 I0 h1 => aEQ (X := X) (w0 := w0) (M0 := M0) (I0 := I0) (m := a) sa h1
 have hV := fun M0 I0 h1 => uE (X := X) (w0 := w0) (M0 := M0) (I0 := I0) (r := x) sx h1
 unfold xN
 by_cases hok : a.ok
 ·rw [WM.code_ok hok] at hC
  rw [if_pos hok]
  by_cases hgx : x.good
  ·rw [bO hgx] at hV
   rw [if_pos hgx]
   have hg' := hg hok
   by_cases hn : x.es.length = n
   ·rw [if_pos hn]
    refine lI Tryz.func142 rfl Tryz.ntmps142 rfl ?_
    repeat (refine aJ ?_)
    (refine aA rfl (hC _ _ aB) rfl rfl ?_; rintro _ _ _ ⟨rfl, rfl, rfl⟩; refine ⟨okF, ?_⟩)
    repeat (refine aJ ?_)
    (refine aA rfl (hV _ _ aB) rfl rfl ?_; rintro _ _ _ ⟨rfl, rfl, rfl⟩; refine ⟨okF, ?_⟩)
    repeat (refine aJ ?_)
    (refine pW rfl rfl (hg') rfl rfl rfl ?_; rintro _ _ _ ⟨rfl, rfl, rfl⟩; refine ⟨okF, ?_⟩)
    repeat (refine aJ ?_)
    refine aH (by first | exact .inl rfl | exact .inr rfl) rfl rfl _ _ aG aD (⟨rfl, rfl, rfl⟩)
   ·rw [if_neg hn]
    refine lI Tryz.func142 rfl Tryz.ntmps142 rfl ?_
    repeat (refine aJ ?_)
    (refine aA rfl (hC _ _ aB) rfl rfl ?_; rintro _ _ _ ⟨rfl, rfl, rfl⟩; refine ⟨okF, ?_⟩)
    repeat (refine aJ ?_)
    (refine aA rfl (hV _ _ aB) rfl rfl ?_; rintro _ _ _ ⟨rfl, rfl, rfl⟩; refine ⟨okF, ?_⟩)
    repeat (refine aJ ?_)
    (refine pW rfl rfl (hg') rfl rfl rfl ?_; rintro _ _ _ ⟨rfl, rfl, rfl⟩; refine ⟨okF, ?_⟩)
    repeat (refine aJ ?_)
    refine aH (by first | exact .inl rfl | exact .inr rfl) rfl rfl _ _ aG aD (⟨rfl, rfl, rfl⟩)
  ·rw [aY hgx] at hV
   rw [if_neg hgx]
   refine lI Tryz.func142 rfl Tryz.ntmps142 rfl ?_
   repeat (refine aJ ?_)
   (refine aA rfl (hC _ _ aB) rfl rfl ?_; rintro _ _ _ ⟨rfl, rfl, rfl⟩; refine ⟨okF, ?_⟩)
   repeat (refine aJ ?_)
   (refine aA rfl (hV _ _ aB) rfl rfl ?_; rintro _ _ _ ⟨rfl, rfl, rfl⟩; refine ⟨okF, ?_⟩)
   repeat (refine aJ ?_)
   refine aH (by first | exact .inl rfl | exact .inr rfl) rfl rfl _ _ aG aD (⟨rfl, rfl, rfl⟩)
 ·rw [WM.code_no hok] at hC
  rw [if_neg hok]
  refine lI Tryz.func142 rfl Tryz.ntmps142 rfl ?_
  repeat (refine aJ ?_)
  (refine aA rfl (hC _ _ aB) rfl rfl ?_; rintro _ _ _ ⟨rfl, rfl, rfl⟩; refine ⟨okF, ?_⟩)
  repeat (refine aJ ?_)
  refine aH (by first | exact .inl rfl | exact .inr rfl) rfl rfl _ _ aG aD (⟨rfl, rfl, rfl⟩)
theorem aBZ {a : MX} {x : RL} {R C k m : Nat} (hk : k ≤ 1000000000) (hm : m ≤ 500000000) (da : a.fit R C) (hl : x.es.length = C) (ha : jC a k ∈ I0) (hx : kZ x m ∈ I0) : CD Tryz.prog 85 [mv a, lv x] X w0 M0 I0 (LQc ((List.range R).map (fun i => sm C (fun t => at2 a.q i t * x.q.getD t 0))) (C * (k + m + 1)) M0 I0) := by
 obtain ⟨r1, r2⟩ := da.2.1
 obtain ⟨c1, c2⟩ := da.2.2
 refine jT (fun w hw => Mem.xsml ha da (by omega) hw) (fun sa => jT (fun w hw => Mem.lsml hx (by omega) (by omega) hw) (fun sx => ?_))
 have hC := fun p M0 I0 h1 h2 h3 => aCS (X := X) (w0 := w0) (M0 := M0) (I0 := I0) (a := a.raw) (x := x.raw) (n := C) (g := 143) (fs := #[]) (cs := #[pb p]) sa sx h1 h2 (fun hok => by have := aKF (X := X) (w0 := w0) (M0 := M0) (I0 := I0) (p := p) hok.1.1 h1 h3; rw [MX.raw_c0 da] at this; exact this)
 have e0 : xN a.raw x.raw C = 0 := by
  unfold xN
  rw [if_pos da.ok, if_pos x.raw_good, if_pos (by show (x.es.map RE.raw).length = C; rw [List.length_map]; exact hl)]
 rw [e0, zK, rA] at hC
 have hA := fun M0 I0 h1 h2 => aGZ (X := X) (w0 := w0) (M0 := M0) (I0 := I0) (a := a) (x := x) (R := R) (C := C) (k := k) (m := m) hk hm (by omega) (by omega) da.1 hl h1 h2
 refine cB (φ := nN a.raw) (Hv.xraw ha (by omega)) ?_
 refine cB (φ := gQ x.raw) (Hv.lraw (List.Mem.tail _ hx) (by omega)) ?_
 refine bH Tryz.func85 rfl Tryz.ntmps85 rfl ?_
 refine aL ?_
 refine aI ?_
 (refine lW rfl rfl rfl ?_; intro p1; refine ⟨okF, ?_⟩)
 repeat (refine aJ ?_)
 refine cK (φ := aX (some ⟨p1, 0, none⟩) [.slice a.raw.p a.raw.rows.length a.raw.c]) (by rw [MX.raw_rows]; exact Hv.mem aB) ?_
 (refine aA rfl (hC p1 _ _ aB aB aB) rfl rfl ?_; rintro _ _ _ ⟨rfl, rfl, rfl⟩; refine ⟨okF, ?_⟩)
 refine aMQ (M' := M0) (I' := aX (some ⟨p1, 0, none⟩) [.slice a.p a.rows.length a.c] :: gQ x.raw :: nN a.raw :: I0) SubP.refl aD ?_
 repeat (refine aJ ?_)
 (refine aA rfl (hA _ _ aB aB) rfl rfl ?_; rintro _ _ _ ⟨rfl, y, rfl, hy, rfl⟩; refine ⟨okF, ?_⟩)
 repeat (refine aJ ?_)
 refine fC [4, 5] (by first | exact .inl rfl | exact .inr rfl) rfl rfl rfl _ _ aG aD (⟨rfl, y, rfl, hy, rfl⟩)
end
end Go.Proofs.YtgeagiikkeiioaaGreat
namespace Go.Proofs.YtgeagiikkeiioaaGreat
open Go Go.Fx
def sM (A : Mt) (R C : Nat) : Prop := A.length = R ∧ ∀ i, i < R → (rowAt A i).length = C
theorem rowAt_set {A : Mt} {i a : Nat} {l : List Rat} (hi : i < A.length) : rowAt (A.set i l) a = if a = i then l else rowAt A a := by
 unfold rowAt
 simp only [List.getD, List.getElem?_set]
 by_cases e : a = i
 ·subst e; simp [hi]
 ·have e' : ¬ i = a := fun h => e h.symm
  simp [e, e']
theorem aJJ {A : Mt} {a : Nat} {f : Nat → List Rat → List Rat} (h : a < A.length) : rowAt (A.mapIdx f) a = f a (rowAt A a) := by
 simp [rowAt, List.getD, h]
theorem sW {A : Mt} {R C r k a : Nat} (h : sM A R C) (hr : r < R) (hk : k < R) : rowAt (swp A r k) a = rowAt A (tr r k a) := by
 unfold swp
 rw [rowAt_set (by rw [List.length_set, h.1]; exact hk), rowAt_set (by rw [h.1]; exact hr)]
 simp only [tr]
 by_cases e1 : a = k
 ·subst e1
  rw [if_pos rfl]
  by_cases e2 : a = r
  ·rw [if_pos e2, e2]
  ·rw [if_neg e2, if_pos rfl]
 ·rw [if_neg e1, if_neg e1]
  by_cases e2 : a = r
  ·rw [if_pos e2, if_pos e2]
  ·rw [if_neg e2, if_neg e2]
theorem aHG {A : Mt} {R C r k : Nat} (h : sM A R C) (hr : r < R) (hk : k < R) : sM (swp A r k) R C :=
 ⟨by unfold swp; rw [List.length_set, List.length_set]; exact h.1, fun i hi => by rw [sW h hr hk]; exact h.2 _ (zF hr hk hi)⟩
theorem xV {l : List Rat} {f : Nat → Rat → Rat} {c : Nat} (h : c < l.length) : (l.mapIdx f).getD c 0 = f c (l.getD c 0) := by
 simp [List.getD, h]
theorem aAE {B : Mt} {r j a : Nat} {pr : List Rat} (h : a < B.length) : rowAt (tZ B r j pr) a = if a = r then rowAt B a else if (rowAt B a).getD j 0 = 0 then rowAt B a else nE j ((rowAt B a).getD j 0) pr (rowAt B a) := by
 unfold tZ
 rw [aJJ h]
theorem aLM {A : Mt} {R C r j x : Nat} (h : sM A R C) (hr : r < R) (hx : x < R) : sM (vS A r j x) R C := by
 have hs := aHG (r := r) (k := x) h hr hx
 unfold vS
 refine ⟨by unfold tZ; rw [List.length_mapIdx, List.length_set]; exact hs.1, fun i hi => ?_⟩
 have hb : rowAt ((swp A r x).set r (iH j (1 / at2 (swp A r x) r j) (rowAt (swp A r x) r))) i = if i = r then iH j (1 / at2 (swp A r x) r j) (rowAt (swp A r x) r) else rowAt (swp A r x) i := rowAt_set (by rw [hs.1]; exact hr)
 rw [aAE (by rw [List.length_set, hs.1]; exact hi), hb]
 by_cases e : i = r
 ·rw [if_pos e, if_pos e]; simp only [iH, List.length_mapIdx]; exact hs.2 r hr
 ·rw [if_neg e, if_neg e]
  split
  ·exact hs.2 i hi
  ·simp only [nE, List.length_mapIdx]; exact hs.2 i hi
theorem aMS {A : Mt} {R C r j x : Nat} (h : sM A R C) (hr : r < R) (hx : x < R) (hj : j < C) (hz : ∀ b, b < j → at2 A x b = 0) : ∀ a b, a < R → b < C →
  at2 (vS A r j x) a b = elm r x (1 / at2 A x j) (fun a => at2 A (tr r x a) j) (at2 A) a b := by
 intro a b ha hb
 have hs := aHG (r := r) (k := x) h hr hx
 have hat : ∀ i c, at2 (swp A r x) i c = at2 A (tr r x i) c := fun i c => by unfold at2; rw [sW h hr hx]
 have htr : tr r x r = x := by simp [tr]
 have hrow : (rowAt (swp A r x) r) = rowAt A x := by rw [sW h hr hx, htr]
 have hκ : at2 (swp A r x) r j = at2 A x j := by rw [hat, htr]
 obtain ⟨κ, hk⟩ : ∃ κ, κ = 1 / at2 A x j := ⟨_, rfl⟩
 rw [← hk]
 have hpr : ∀ c, c < C → (iH j κ (rowAt A x)).getD c 0 = κ * at2 A x c := fun c hc => by
  unfold iH
  rw [xV (by rw [h.2 x hx]; exact hc)]
  by_cases e : c < j
  ·rw [if_pos e]
   have := hz c e
   rw [this]
   unfold at2 at this
   rw [this]; grind
  ·rw [if_neg e]; rfl
 have e1 : at2 (vS A r j x) a b = (rowAt (vS A r j x) a).getD b 0 := rfl
 rw [e1]
 unfold vS
 rw [hκ, hrow, ← hk]
 have hbb : rowAt ((swp A r x).set r (iH j κ (rowAt A x))) a = if a = r then iH j κ (rowAt A x) else rowAt (swp A r x) a := rowAt_set (by rw [hs.1]; exact hr)
 rw [aAE (by rw [List.length_set, hs.1]; exact ha), hbb]
 simp only [elm, htr]
 by_cases e : a = r
 ·rw [if_pos e, if_pos e, if_pos e]; exact hpr b hb
 ·rw [if_neg e, if_neg e, if_neg e, sW h hr hx]
  have hc : (rowAt A (tr r x a)).getD j 0 = at2 A (tr r x a) j := rfl
  rw [hc]
  by_cases e0 : at2 A (tr r x a) j = 0
  ·rw [if_pos e0, e0]
   show at2 A (tr r x a) b = _
   grind
  ·rw [if_neg e0]
   unfold nE
   rw [xV (by rw [h.2 _ (zF hr hx ha)]; exact hb)]
   show (if b < j then at2 A (tr r x a) b else at2 A (tr r x a) b - _) = _
   by_cases ej : b < j
   ·rw [if_pos ej, hz b ej]; grind
   ·rw [if_neg ej, hpr b hb]
theorem yZ {A : Mt} {j : Nat} : ∀ (f k : Nat), k + f = A.length → ∀ i, k ≤ i → i < mG A j f k → at2 A i j = 0
 | 0, k, _, i, h1, h2 => by simp [mG] at h2; omega
 | f + 1, k, h, i, h1, h2 => by
  unfold mG at h2
  by_cases hc : k < A.length ∧ at2 A k j = 0
  ·rw [if_pos hc] at h2
   by_cases e : i = k
   ·subst e; exact hc.2
   ·exact yZ f (k + 1) (by omega) i (by omega) h2
  ·rw [if_neg hc] at h2; omega
theorem kV {A : Mt} {R C : Nat} (h : sM A R C) : ∀ n, n ≤ C → sM (jV A n).1 R C ∧ ∃ s, Red R C n (at2 A) (at2 (jV A n).1) (jV A n).2 s
 | 0, _ => ⟨h, 1, Red.start⟩
 | n + 1, hn => by
  obtain ⟨hd, s, hr⟩ := kV h n (by omega)
  rw [wS]
  generalize jV A n = st at hd hr
  obtain ⟨B, pv⟩ := st
  simp only at hd hr
  have hlen := hr.len
  obtain ⟨f1, f2, f3⟩ := aET (A := B) (j := n) (B.length - pv.length) pv.length (by rw [hd.1]; omega)
  have f4 := yZ (A := B) (j := n) (B.length - pv.length) pv.length (by rw [hd.1]; omega)
  unfold aMR
  simp only
  generalize mG B n (B.length - pv.length) pv.length = x at f1 f2 f3 f4
  by_cases hx : x < B.length
  ·rw [if_pos hx]
   rw [hd.1] at hx
   refine ⟨aLM hd (by omega) hx, _, hr.step (x := x) (by omega) f1 hx (f3 (by rw [hd.1]; exact hx)) (aMS hd (by omega) hx (by omega) (fun b hb => hr.zero x b f1 hx hb))⟩
  ·rw [if_neg hx]
   exact ⟨hd, s, hr.none (fun i h1 h2 => f4 i h1 (by rw [hd.1] at hx; omega))⟩
end Go.Proofs.YtgeagiikkeiioaaGreat
namespace Go.Proofs.YtgeagiikkeiioaaGreat
open Go Go.Fx
def nS (pv : List Nat) (z : Nat → Rat) : Nat → Rat := fun j => if j ∈ pv then 0 else z j
theorem mO {pv : List Nat} {i : Nat} (h : i < pv.length) : pv.getD i 0 = pv[i] := by simp [List.getD, h]
theorem jW {pv : List Nat} {j : Nat} : j ∈ pv ↔ ∃ t, t < pv.length ∧ pv.getD t 0 = j := by
 rw [List.mem_iff_getElem]
 constructor
 ·rintro ⟨t, ht, e⟩; exact ⟨t, ht, by simp [List.getD, ht, e]⟩
 ·rintro ⟨t, ht, e⟩; exact ⟨t, ht, by simpa [List.getD, ht] using e⟩
theorem Red.piv_lt {R C j : Nat} {f0 f : Nat → Nat → Rat} {pv : List Nat} {s : Rat} (h : Red R C j f0 f pv s) {t : Nat} (ht : t < pv.length) : pv.getD t 0 < j := (h.inc t ht).1
theorem Red.piv_inj {R C j : Nat} {f0 f : Nat → Nat → Rat} {pv : List Nat} {s : Rat} (h : Red R C j f0 f pv s) {t u : Nat} (ht : t < pv.length) (hu : u < pv.length) (e : pv.getD t 0 = pv.getD u 0) : t = u := by
 rcases Nat.lt_trichotomy t u with l | l | l
 ·have := (h.inc u hu).2.2 t l; omega
 ·exact l
 ·have := (h.inc t ht).2.2 u l; omega
theorem Red.row {R C : Nat} {f0 f : Nat → Nat → Rat} {pv : List Nat} {s : Rat} (h : Red R C C f0 f pv s) {t : Nat} (ht : t < pv.length) (z : Nat → Rat) : sm C (fun j => f t j * z j) = z (pv.getD t 0) + sm C (fun j => f t j * nS pv z j) := by
 have hR := h.len
 have h1 : sm C (fun j => f t j * z j) = sm C (fun j => (f t j * z j - f t j * nS pv z j) + f t j * nS pv z j) := bM (fun j _ => by grind)
 rw [h1, aDG]
 congr 1
 rw [rT (p := pv.getD t 0) (h.piv_lt ht) (fun j hj hne => ?_)]
 ·have hm : pv.getD t 0 ∈ pv := jW.2 ⟨t, ht, rfl⟩
  rw [h.unit t t ht (by omega)]
  simp only [nS, if_pos hm, tY, if_true]; grind
 ·by_cases hm : j ∈ pv
  ·obtain ⟨u, hu, rfl⟩ := jW.1 hm
   have : t ≠ u := fun e => hne (by rw [e])
   rw [h.unit u t hu (by omega)]
   simp only [tY, if_neg this]; grind
  ·simp only [nS, if_neg hm]; grind
theorem Red.kerE {R C : Nat} {f0 f : Nat → Nat → Rat} {pv : List Nat} {s : Rat} (h : Red R C C f0 f pv s) (z : Nat → Rat) : Go.Proofs.YtgeagiikkeiioaaGreat.ker R C f0 z ↔ ∀ t, t < pv.length → z (pv.getD t 0) + sm C (fun j => f t j * nS pv z j) = 0 := by
 rw [← h.ker z]
 constructor
 ·intro hk t ht
  rw [← h.row ht z]; exact hk t (by have := h.len; omega)
 ·intro hk i hi
  by_cases e : i < pv.length
  ·rw [h.row e z]; exact hk i e
  ·exact kL (fun j hj => by rw [h.zero i j (by omega) hi hj]; grind)
theorem hom {m n : Nat} (g : Nat → Nat → Rat) (hmn : m < n) : ∃ w : Nat → Rat, (∀ e, e < m → sm n (fun u => g e u * w u) = 0) ∧ ∃ u, u < n ∧ w u ≠ 0 := by
 obtain ⟨_, s, h⟩ := kV (A := (List.range m).map (fun i => (List.range n).map (g i))) (R := m) (C := n) ⟨by simp, fun i hi => by simp [rowAt, List.getD, hi]⟩ n (Nat.le_refl _)
 generalize jV ((List.range m).map (fun i => (List.range n).map (g i))) n = st at h
 obtain ⟨E, pv⟩ := st
 simp only at h
 have hg : ∀ i j, i < m → j < n → at2 ((List.range m).map (fun i => (List.range n).map (g i))) i j = g i j := fun i j hi hj => by simp [at2, rowAt, List.getD, hi, hj]
 have hlen := h.len
 -- a free place
 have hfree : ∃ j, j < n ∧ j ∉ pv := by
  refine Classical.byContradiction (fun hno => ?_)
  have hall : ∀ j, j < n → j ∈ pv := fun j hj => Classical.byContradiction (fun hn => hno ⟨j, hj, hn⟩)
  have : (List.range n).length ≤ pv.length := by
   have hsub : ∀ x ∈ List.range n, x ∈ pv := fun x hx => hall x (List.mem_range.1 hx)
   exact List.Nodup.length_le_of_subset List.nodup_range hsub
  simp at this; omega
 obtain ⟨j, hj, hjp⟩ := hfree
 refine ⟨fun c => if c ∈ pv then - at2 E (pv.idxOf c) j else if c = j then 1 else 0, ?_, j, hj, by simp only [if_neg hjp, if_true]; decide⟩
 have hk : ker m n (at2 ((List.range m).map (fun i => (List.range n).map (g i)))) (fun c => if c ∈ pv then - at2 E (pv.idxOf c) j else if c = j then 1 else 0) := by
  rw [h.kerE]
  intro t ht
  have hm : pv.getD t 0 ∈ pv := jW.2 ⟨t, ht, rfl⟩
  have hidx : pv.idxOf (pv.getD t 0) = t := by
   have h1 : pv.idxOf (pv.getD t 0) < pv.length := List.idxOf_lt_length_of_mem hm
   refine h.piv_inj h1 ht ?_
   have := List.getElem_idxOf h1
   exact (mO h1).trans this
  simp only [if_pos hm, hidx]
  rw [rT (p := j) hj (fun c hc hne => ?_)]
  ·simp only [nS, if_neg hjp, if_true]; grind
  ·simp only [nS]
   by_cases e : c ∈ pv
   ·rw [if_pos e]; grind
   ·rw [if_neg e, if_neg e, if_neg hne]; grind
 intro e he
 refine Eq.trans (bM (fun u hu => ?_)) (hk e he)
 rw [hg e u he hu]
theorem aOJ {R C n : Nat} {f : Nat → Nat → Rat} {Z : Nat → Nat → Rat} {d : Nat → Rat} (h : ∀ i, i < n → ker R C f (Z i)) : ker R C f (fun j => sm n (fun i => d i * Z i j)) := fun t ht => by
 have h1 : sm C (fun j => f t j * sm n (fun i => d i * Z i j)) = sm C (fun j => sm n (fun i => d i * (f t j * Z i j))) := bM (fun j _ => by rw [← kT]; exact bM (fun i _ => by grind))
 rw [h1, vY]
 exact kL (fun i hi => by rw [kT, h i hi t ht]; grind)
theorem aHW {R C : Nat} {f : Nat → Nat → Rat} {x y : Nat → Rat} {c d : Rat} (hx : ker R C f x) (hy : ker R C f y) : ker R C f (fun j => c * x j + d * y j) := fun t ht => by
 have : ∀ j, f t j * (c * x j + d * y j) = c * (f t j * x j) + d * (f t j * y j) := fun j => by grind
 simp only [this]
 rw [aAF, hx t ht, hy t ht]; grind
theorem Red.count {R C m k : Nat} {f0 f : Nat → Nat → Rat} {pv : List Nat} {s : Rat} (h : Red R C C f0 f pv s) (g : Nat → Nat → Rat) (Z : Nat → Nat → Rat)
  (hg : ∀ z, Go.Proofs.YtgeagiikkeiioaaGreat.ker m C g z → Go.Proofs.YtgeagiikkeiioaaGreat.ker R C f0 z) (hZ : ∀ i, i < k → Go.Proofs.YtgeagiikkeiioaaGreat.ker R C f0 (Z i))
  (hi : ∀ d : Nat → Rat, Go.Proofs.YtgeagiikkeiioaaGreat.ker m C g (fun j => sm k (fun i => d i * Z i j)) → ∀ i, i < k → d i = 0) : pv.length + k ≤ m := by
 refine Classical.byContradiction (fun hlt => ?_)
 obtain ⟨p, hp⟩ : ∃ p, p = pv.length := ⟨_, rfl⟩
 rw [← hp] at hlt
 obtain ⟨w, hw, u, hu, hwu⟩ := hom (m := m) (n := p + k) (fun e u => if u < p then g e (pv.getD u 0) else sm C (fun j => g e j * Z (u - p) j)) (by omega)
 -- the vector
 obtain ⟨x, hx⟩ : ∃ x : Nat → Rat, x = fun j => sm p (fun t => w t * tY (pv.getD t 0) j) := ⟨_, rfl⟩
 obtain ⟨y, hy⟩ : ∃ y : Nat → Rat, y = fun j => sm k (fun i => w (p + i) * Z i j) := ⟨_, rfl⟩
 have kx : ∀ e, sm C (fun j => g e j * x j) = sm p (fun t => g e (pv.getD t 0) * w t) := fun e => by
  have h1 : sm C (fun j => g e j * x j) = sm C (fun j => sm p (fun t => w t * (g e j * tY (pv.getD t 0) j))) := bM (fun j _ => by rw [hx, ← kT]; exact bM (fun i _ => by grind))
  rw [h1, vY]
  refine bM (fun t ht => ?_)
  rw [kT, rT (p := pv.getD t 0) (h.piv_lt (by omega)) (fun j _ hne => by simp only [tY]; rw [if_neg (fun e => hne e.symm)]; grind)]
  simp only [tY, if_true]; grind
 have ky : ∀ e, sm C (fun j => g e j * y j) = sm k (fun i => sm C (fun j => g e j * Z i j) * w (p + i)) := fun e => by
  have h1 : sm C (fun j => g e j * y j) = sm C (fun j => sm k (fun i => w (p + i) * (g e j * Z i j))) := bM (fun j _ => by rw [hy, ← kT]; exact bM (fun i _ => by grind))
  rw [h1, vY]
  exact bM (fun i _ => by rw [kT]; grind)
 have kg : Go.Proofs.YtgeagiikkeiioaaGreat.ker m C g (fun j => 1 * x j + 1 * y j) := fun e he => by
  have : ∀ j, g e j * (1 * x j + 1 * y j) = 1 * (g e j * x j) + 1 * (g e j * y j) := fun j => by grind
  simp only [this]
  rw [aAF, kx, ky]
  have := hw e he
  rw [aFE, bM (n := p) (g := fun t => g e (pv.getD t 0) * w t) (fun t ht => by rw [if_pos ht]), bM (n := k) (g := fun i => sm C (fun j => g e j * Z i j) * w (p + i)) (fun t _ => by rw [if_neg (by omega), Nat.add_sub_cancel_left])] at this
  grind
 have ky0 : Go.Proofs.YtgeagiikkeiioaaGreat.ker R C f0 y := by rw [hy]; exact aOJ (d := fun i => w (p + i)) hZ
 have kx0 : Go.Proofs.YtgeagiikkeiioaaGreat.ker R C f0 x := by
  have h1 := aHW (c := 1) (d := -1) (hg _ kg) ky0
  have e : (fun j => 1 * (1 * x j + 1 * y j) + -1 * y j) = x := by funext j; grind
  rwa [e] at h1
 have hx0 : ∀ t, t < p → x (pv.getD t 0) = w t := fun t ht => by
  rw [hx]
  show sm p (fun u => w u * tY (pv.getD u 0) (pv.getD t 0)) = _
  rw [rT (p := t) ht (fun u hu hne => by simp only [tY]; rw [if_neg (fun e => hne (h.piv_inj (by omega) (by omega) e))]; grind)]
  simp only [tY, if_true]; grind
 have hoff : ∀ j, nS pv x j = 0 := fun j => by
  unfold nS
  by_cases e : j ∈ pv
  ·rw [if_pos e]
  ·rw [if_neg e, hx]
   exact kL (fun t ht => by simp only [tY]; rw [if_neg (fun e' => e (jW.2 ⟨t, by omega, e'⟩))]; grind)
 have hw0 : ∀ t, t < p → w t = 0 := fun t ht => by
  have := (h.kerE x).1 kx0 t (by omega)
  rw [hx0 t ht, kL (fun j _ => by rw [hoff j]; grind)] at this
  grind
 have hxz : ∀ j, x j = 0 := fun j => by rw [hx]; exact kL (fun t ht => by rw [hw0 t ht]; grind)
 have kgy : Go.Proofs.YtgeagiikkeiioaaGreat.ker m C g (fun j => sm k (fun i => w (p + i) * Z i j)) := by
  have e : (fun j => 1 * x j + 1 * y j) = (fun j => sm k (fun i => w (p + i) * Z i j)) := by funext j; rw [hxz j, hy]; grind
  rwa [e] at kg
 have hd := hi (fun i => w (p + i)) kgy
 by_cases e : u < p
 ·exact hwu (hw0 u e)
 ·have := hd (u - p) (by omega)
  rw [show p + (u - p) = u by omega] at this
  exact hwu this
theorem Red.kerP {R C : Nat} {f0 f : Nat → Nat → Rat} {pv : List Nat} {s : Rat} (h : Red R C C f0 f pv s) (z : Nat → Rat) : Go.Proofs.YtgeagiikkeiioaaGreat.ker pv.length C f z ↔ Go.Proofs.YtgeagiikkeiioaaGreat.ker R C f0 z := by
 rw [h.kerE]
 constructor
 ·intro hk t ht; rw [← h.row ht z]; exact hk t ht
 ·intro hk t ht; rw [h.row ht z]; exact hk t ht
section
variable {R C R' : Nat} {f0 f g0 g : Nat → Nat → Rat} {pv qv : List Nat} {s s' : Rat}
theorem Red.le (h : Red R C C f0 f pv s) (h' : Red R' C C g0 g qv s') (hk : ∀ z, Go.Proofs.YtgeagiikkeiioaaGreat.ker R' C g0 z → Go.Proofs.YtgeagiikkeiioaaGreat.ker R C f0 z) : pv.length ≤ qv.length := by
 have := h.count (k := 0) g (fun _ _ => 0) (fun z hz => hk z ((h'.kerP z).1 hz)) (fun i hi => by omega) (fun d _ i hi => by omega)
 omega
theorem Red.lt (h : Red R C C f0 f pv s) (h' : Red R' C C g0 g qv s') (hk : ∀ z, Go.Proofs.YtgeagiikkeiioaaGreat.ker R' C g0 z → Go.Proofs.YtgeagiikkeiioaaGreat.ker R C f0 z) {x : Nat → Rat} (hx : Go.Proofs.YtgeagiikkeiioaaGreat.ker R C f0 x) (hx2 : ¬ Go.Proofs.YtgeagiikkeiioaaGreat.ker R' C g0 x) : pv.length < qv.length := by
 have := h.count (k := 1) g (fun _ => x) (fun z hz => hk z ((h'.kerP z).1 hz)) (fun _ _ => hx) (fun d hd i hi => by
  obtain rfl : i = 0 := by omega
  refine Classical.byContradiction (fun hne => hx2 ?_)
  have h1 : Go.Proofs.YtgeagiikkeiioaaGreat.ker R' C g0 (fun j => sm 1 (fun i => d i * x j)) := (h'.kerP _).1 hd
  have h2 := aHW (c := 1 / d 0) (d := 0) h1 h1
  have e : (fun j => 1 / d 0 * sm 1 (fun i => d i * x j) + 0 * sm 1 (fun i => d i * x j)) = x := by
   funext j
   have : sm 1 (fun i => d i * x j) = d 0 * x j := by simp only [sm]; grind
   rw [this]; grind
  rwa [e] at h2)
 omega
theorem Red.eq_iff (h : Red R C C f0 f pv s) (h' : Red R' C C g0 g qv s') (hk : ∀ z, Go.Proofs.YtgeagiikkeiioaaGreat.ker R' C g0 z → Go.Proofs.YtgeagiikkeiioaaGreat.ker R C f0 z) : pv.length = qv.length ↔ ∀ z, Go.Proofs.YtgeagiikkeiioaaGreat.ker R C f0 z → Go.Proofs.YtgeagiikkeiioaaGreat.ker R' C g0 z := by
 constructor
 ·intro e z hz
  refine Classical.byContradiction (fun hn => ?_)
  have := h.lt h' hk hz hn
  omega
 ·intro hz
  have := h.le h' hk
  have := h'.le h hz
  omega
end
end Go.Proofs.YtgeagiikkeiioaaGreat

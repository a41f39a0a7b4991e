/- matrix: Mul, Apply, of matrices and of what is none. Elimination of lists of rows is elimination of numbers. Ranks, plain: the kernel of a reduced matrix; systems with more unknowns than equations; ranks compared by kernels. Kernels and systems, plain: the canonical basis of the kernel, what it spans; when a system has a solution, and which one is returned. matrix: Echelon, Rank, Null. -/
import Derived.Test.YtkccjglmnhgabaaGreatZhbb
import Derived.Test.YtkccjglmnhgabaaGreatZhax
import Derived.Test.YtkccjglmnhgabaaGreatZhay
set_option linter.unusedSimpArgs false
set_option linter.unusedVariables false
set_option maxRecDepth 100000
set_option maxHeartbeats 4000000
namespace Go.Proofs.YtkccjglmnhgabaaGreat
open Go Go.Fx
def mulC (a b : WM) : Int := if a.ok ∧ b.ok then (if (gt a.rows 0).es.length = b.rows.length then 0 else 4) else 1
def aGX (a : WM) (x : WL) (n : Nat) : Int := if a.ok then (if x.good then (if x.es.length = n then 0 else 4) else 1) else 1
section
variable {X : List Nat} {w0 : World} {M0 : List Ent} {I0 : List aZ}
theorem aEG {a : MX} {x : RL} {R C k m : Nat} (hk : k ≤ 1000000000) (hm : m ≤ 500000000) (hR : R ≤ 100) (hCC : C ≤ 64) (da : a.dim R C) (hl : x.es.length = C) (ha : nU a k ∈ I0) (hx : iY x m ∈ I0) :
  CD Tryz.prog 100 [mv a, lv x] X w0 M0 I0 (LQ ((List.range R).map (fun i => sm C (fun t => at2 a.q i t * x.q.getD t 0))) (C * (k + m + 1)) M0 I0) := by
 have lR := da.1
 have hKK : C * (k + m + 1) ≤ 100000000000 := Nat.le_trans (Nat.mul_le_mul hCC (show k + m + 1 ≤ 1500000001 by omega)) (by decide)
 generalize hKe : C * (k + m + 1) = K at *
 refine eD (φ := bI (a).p (recs eL (a).rows)) (Hv.xsl aC) ?_
 refine bE Tryz.func100 rfl Tryz.ntmps100 rfl ?_
 repeat (refine aJ ?_)
 refine kT 37 4 ?_
 refine fD (φ := fE [] K) Hv.nilR ?_
 refine bG [1, 8, 9] rfl (fun k G M I => ∃ (i : Nat) (es : List RE) (q : Option Addr) (c : Nat), i ≤ R ∧ k = R - i ∧ es.length = i ∧ qs es = (List.range i).map (fun i => sm C (fun t => at2 a.q i t * x.q.getD t 0)) ∧ G = [(5, .slice q es.length c), (10, .int .i64 i)] ∧ M = .row q es.length c (recs eR es) 37 4 :: M0 ∧ I = fE es K :: bI a.p (recs eL a.rows) :: I0) (R) _ _ _ aO aD aF (⟨0, [], none, 0, by omega, rfl, rfl, rfl, rfl, rfl, rfl⟩) ?_
 rintro kk G M I ⟨i, es, q, c, hi, rfl, hel, heq, rfl, rfl, rfl⟩
 by_cases hiR : i < R
 ·refine fD (φ := iY (gt (a).rows (i : Int)) k) (Hv.xrow aC (by omega)) ?_
  repeat (refine aJ ?_)
  (refine aA rfl (aOS (ka := k) (kb := m) (n := C) (by omega) (by omega) (da.row hiR) hl aC aC) rfl rfl ?_; rintro _ _ _ ⟨rfl, e, rfl, he, rfl⟩; refine ⟨okF, ?_⟩)
  (refine bO (cs := recs eR [e]) ([rv e]) rfl rfl (by intro v hv; repeat (first | exact absurd hv (List.not_mem_nil) | (rcases List.mem_cons.1 hv with rfl | hv; · rfl))) (by omega) rfl rfl rfl ?_; intro b; refine ⟨okF, ?_⟩)
  (refine eQ (ys := [e]) 1 rfl rfl rfl ?_ (by decide) rfl (by omega) (by omega) rfl rfl ?_; (· first | exact Src.blk aC | exact Src.row aC | exact Src.imm aC (by first | assumption | exact .inl (Ok.mk _ _))); intro q2 c2; refine ⟨okF, ?_⟩)
  rw [hKe]
  repeat (refine aJ ?_)
  refine bJ (φ := fE (es ++ [e]) K) (Hv.snoc aC aC) ?_
  refine aS (R - (i + 1)) _ _ _ (by first | omega | (simp only [List.length_append, List.length_cons, List.length_nil]; omega)) aO aD aF (⟨i + 1, es ++ [e], q2, c2, by omega, rfl, by simp; omega, ?_, rfl, rfl, rfl⟩)
  rw [List.range_succ, List.map_append, ← heq]
  have e1 : sm C (fun t => at2 a.q i t * x.q.getD t 0) = dotQ C (gt a.rows (i : Int)).q x.q := by rw [← xR (by omega)]; rfl
  show (es ++ [e]).map RE.q = qs es ++ [sm C (fun t => at2 a.q i t * x.q.getD t 0)]
  rw [List.map_append, e1, ← he]
  rfl
 ·obtain rfl : i = R := by omega
  repeat (refine aJ ?_)
  refine aBO aC ?_
  refine aQ (by first | exact .inl rfl | exact .inr rfl) rfl rfl _ _ aD aF (⟨rfl, ⟨q, c, es⟩, rfl, heq, rfl⟩)
theorem aIP {m : WM} {p : Nat} (hR : 1 ≤ m.rows.length) (hm : wR m ∈ I0) (hb : bI (some ⟨p, 0, none⟩) [.slice m.p m.rows.length m.c] ∈ I0) :
  CD Tryz.prog 99 [pb p] X w0 M0 I0 (fun v M I => M0 = M ∧ I0 = I ∧ v = .int .i64 ((gt m.rows 0).es.length : Int)) := by
 refine eD (φ := bI m.p (recs eWL m.rows)) (Hv.wmsl hm) ?_
 refine cO Tryz.func99 rfl Tryz.ntmps99 rfl ?_
 repeat (refine aJ ?_)
 refine aQ (by first | exact .inl rfl | exact .inr rfl) rfl rfl _ _ aD aF (⟨rfl, rfl, rfl⟩)
theorem aNC {a : WM} {x : WL} {n : Nat} {g : FuncId} [FnOk Tryz.prog g] {fs cs : Array Value} (sa : a.sml) (sx : x.sml) (ha : wR a ∈ I0) (hx : rJ x ∈ I0)
  (hg : a.ok → CD Tryz.prog g (fs.toList ++ [] ++ cs.toList) X w0 M0 I0 (fun v M I => M0 = M ∧ I0 = I ∧ v = .int .i64 (n : Int))) :
  CD Tryz.prog 98 [mvW a, lvW x, .func (.func g) fs cs] X w0 M0 I0 (fun v M I => M0 = M ∧ I0 = I ∧ v = .int .i64 (aGX a x n)) := by
 have hC := fun M0 I0 h1 => aCJ (X := X) (w0 := w0) (M0 := M0) (I0 := I0) (m := a) sa h1
 have hV := fun M0 I0 h1 => uE (X := X) (w0 := w0) (M0 := M0) (I0 := I0) (r := x) sx h1
 unfold aGX
 by_cases hok : a.ok
 ·rw [WM.code_ok hok] at hC
  rw [if_pos hok]
  by_cases hgx : x.good
  ·rw [dG hgx] at hV
   rw [if_pos hgx]
   have hg' := hg hok
   by_cases hn : x.es.length = n
   ·rw [if_pos hn]
    refine oL Tryz.func98 rfl Tryz.ntmps98 rfl ?_
    repeat (refine aJ ?_)
    (refine aA rfl (hC _ _ aC) rfl rfl ?_; rintro _ _ _ ⟨rfl, rfl, rfl⟩; refine ⟨okF, ?_⟩)
    repeat (refine aJ ?_)
    (refine aA rfl (hV _ _ aC) rfl rfl ?_; rintro _ _ _ ⟨rfl, rfl, rfl⟩; refine ⟨okF, ?_⟩)
    repeat (refine aJ ?_)
    (refine qI rfl rfl (hg') rfl rfl rfl ?_; rintro _ _ _ ⟨rfl, rfl, rfl⟩; refine ⟨okF, ?_⟩)
    repeat (refine aJ ?_)
    refine aQ (by first | exact .inl rfl | exact .inr rfl) rfl rfl _ _ aD aF (⟨rfl, rfl, rfl⟩)
   ·rw [if_neg hn]
    refine oL Tryz.func98 rfl Tryz.ntmps98 rfl ?_
    repeat (refine aJ ?_)
    (refine aA rfl (hC _ _ aC) rfl rfl ?_; rintro _ _ _ ⟨rfl, rfl, rfl⟩; refine ⟨okF, ?_⟩)
    repeat (refine aJ ?_)
    (refine aA rfl (hV _ _ aC) rfl rfl ?_; rintro _ _ _ ⟨rfl, rfl, rfl⟩; refine ⟨okF, ?_⟩)
    repeat (refine aJ ?_)
    (refine qI rfl rfl (hg') rfl rfl rfl ?_; rintro _ _ _ ⟨rfl, rfl, rfl⟩; refine ⟨okF, ?_⟩)
    repeat (refine aJ ?_)
    refine aQ (by first | exact .inl rfl | exact .inr rfl) rfl rfl _ _ aD aF (⟨rfl, rfl, rfl⟩)
  ·rw [bN hgx] at hV
   rw [if_neg hgx]
   refine oL Tryz.func98 rfl Tryz.ntmps98 rfl ?_
   repeat (refine aJ ?_)
   (refine aA rfl (hC _ _ aC) rfl rfl ?_; rintro _ _ _ ⟨rfl, rfl, rfl⟩; refine ⟨okF, ?_⟩)
   repeat (refine aJ ?_)
   (refine aA rfl (hV _ _ aC) rfl rfl ?_; rintro _ _ _ ⟨rfl, rfl, rfl⟩; refine ⟨okF, ?_⟩)
   repeat (refine aJ ?_)
   refine aQ (by first | exact .inl rfl | exact .inr rfl) rfl rfl _ _ aD aF (⟨rfl, rfl, rfl⟩)
 ·rw [WM.code_no hok] at hC
  rw [if_neg hok]
  refine oL Tryz.func98 rfl Tryz.ntmps98 rfl ?_
  repeat (refine aJ ?_)
  (refine aA rfl (hC _ _ aC) rfl rfl ?_; rintro _ _ _ ⟨rfl, rfl, rfl⟩; refine ⟨okF, ?_⟩)
  repeat (refine aJ ?_)
  refine aQ (by first | exact .inl rfl | exact .inr rfl) rfl rfl _ _ aD aF (⟨rfl, rfl, rfl⟩)
theorem aIF {a : MX} {x : RL} {R C k m : Nat} (hk : k ≤ 1000000000) (hm : m ≤ 500000000) (da : a.fit R C) (hl : x.es.length = C) (ha : nU a k ∈ I0) (hx : iY x m ∈ I0) : CD Tryz.prog 45 [mv a, lv x] X w0 M0 I0 (LQc ((List.range R).map (fun i => sm C (fun t => at2 a.q i t * x.q.getD t 0))) (C * (k + m + 1)) M0 I0) := by
 obtain ⟨r1, r2⟩ := da.2.1
 obtain ⟨c1, c2⟩ := da.2.2
 refine pW (fun w hw => Mem.xsml ha da (by omega) hw) (fun sa => pW (fun w hw => Mem.lsml hx (by omega) (by omega) hw) (fun sx => ?_))
 have hC := fun p M0 I0 h1 h2 h3 => aNC (X := X) (w0 := w0) (M0 := M0) (I0 := I0) (a := a.raw) (x := x.raw) (n := C) (g := 99) (fs := #[]) (cs := #[pb p]) sa sx h1 h2 (fun hok => by have := aIP (X := X) (w0 := w0) (M0 := M0) (I0 := I0) (p := p) hok.1.1 h1 h3; rw [MX.raw_c0 da] at this; exact this)
 have e0 : aGX a.raw x.raw C = 0 := by
  unfold aGX
  rw [if_pos da.ok, if_pos x.raw_good, if_pos (by show (x.es.map RE.raw).length = C; rw [List.length_map]; exact hl)]
 rw [e0, aFL, aJX] at hC
 have hA := fun M0 I0 h1 h2 => aEG (X := X) (w0 := w0) (M0 := M0) (I0 := I0) (a := a) (x := x) (R := R) (C := C) (k := k) (m := m) hk hm (by omega) (by omega) da.1 hl h1 h2
 refine eD (φ := wR a.raw) (Hv.xraw ha (by omega)) ?_
 refine eD (φ := rJ x.raw) (Hv.lraw (List.Mem.tail _ hx) (by omega)) ?_
 refine bE Tryz.func45 rfl Tryz.ntmps45 rfl ?_
 refine aL ?_
 refine aM ?_
 (refine vM rfl rfl rfl ?_; intro p1; refine ⟨okF, ?_⟩)
 repeat (refine aJ ?_)
 refine fI (φ := bI (some ⟨p1, 0, none⟩) [.slice a.raw.p a.raw.rows.length a.raw.c]) (by rw [MX.raw_rows]; exact Hv.mem aC) ?_
 (refine aA rfl (hC p1 _ _ aC aC aC) rfl rfl ?_; rintro _ _ _ ⟨rfl, rfl, rfl⟩; refine ⟨okF, ?_⟩)
 refine RD_w (M' := M0) (I' := bI (some ⟨p1, 0, none⟩) [.slice a.p a.rows.length a.c] :: rJ x.raw :: wR a.raw :: I0) SubP.refl aF ?_
 repeat (refine aJ ?_)
 (refine aA rfl (hA _ _ aC aC) rfl rfl ?_; rintro _ _ _ ⟨rfl, y, rfl, hy, rfl⟩; refine ⟨okF, ?_⟩)
 repeat (refine aJ ?_)
 refine jI [4, 5] (by first | exact .inl rfl | exact .inr rfl) rfl rfl rfl _ _ aD aF (⟨rfl, y, rfl, hy, rfl⟩)
end
end Go.Proofs.YtkccjglmnhgabaaGreat
namespace Go.Proofs.YtkccjglmnhgabaaGreat
open Go Go.Fx
def xM (A : Mt) (R C : Nat) : Prop := A.length = R ∧ ∀ i, i < R → (rowAt A i).length = C
theorem rowAt_set {A : Mt} {i a : Nat} {l : List Rat} (hi : i < A.length) : rowAt (A.set i l) a = if a = i then l else rowAt A a := by
 unfold rowAt
 simp only [List.getD, List.getElem?_set]
 by_cases e : a = i
 ·subst e; simp [hi]
 ·have e' : ¬ i = a := fun h => e h.symm
  simp [e, e']
theorem aIB {A : Mt} {a : Nat} {f : Nat → List Rat → List Rat} (h : a < A.length) : rowAt (A.mapIdx f) a = f a (rowAt A a) := by
 simp [rowAt, List.getD, h]
theorem tH {A : Mt} {R C r k a : Nat} (h : xM A R C) (hr : r < R) (hk : k < R) : rowAt (swp A r k) a = rowAt A (tr r k a) := by
 unfold swp
 rw [rowAt_set (by rw [List.length_set, h.1]; exact hk), rowAt_set (by rw [h.1]; exact hr)]
 simp only [tr]
 by_cases e1 : a = k
 ·subst e1
  rw [if_pos rfl]
  by_cases e2 : a = r
  ·rw [if_pos e2, e2]
  ·rw [if_neg e2, if_pos rfl]
 ·rw [if_neg e1, if_neg e1]
  by_cases e2 : a = r
  ·rw [if_pos e2, if_pos e2]
  ·rw [if_neg e2, if_neg e2]
theorem aGZ {A : Mt} {R C r k : Nat} (h : xM A R C) (hr : r < R) (hk : k < R) : xM (swp A r k) R C :=
 ⟨by unfold swp; rw [List.length_set, List.length_set]; exact h.1, fun i hi => by rw [tH h hr hk]; exact h.2 _ (zG hr hk hi)⟩
theorem xE {l : List Rat} {f : Nat → Rat → Rat} {c : Nat} (h : c < l.length) : (l.mapIdx f).getD c 0 = f c (l.getD c 0) := by
 simp [List.getD, h]
theorem yC {B : Mt} {r j a : Nat} {pr : List Rat} (h : a < B.length) : rowAt (sP B r j pr) a = if a = r then rowAt B a else if (rowAt B a).getD j 0 = 0 then rowAt B a else nQ j ((rowAt B a).getD j 0) pr (rowAt B a) := by
 unfold sP
 rw [aIB h]
theorem aJP {A : Mt} {R C r j x : Nat} (h : xM A R C) (hr : r < R) (hx : x < R) : xM (vP A r j x) R C := by
 have hs := aGZ (r := r) (k := x) h hr hx
 unfold vP
 refine ⟨by unfold sP; rw [List.length_mapIdx, List.length_set]; exact hs.1, fun i hi => ?_⟩
 have hb : rowAt ((swp A r x).set r (iQ j (1 / at2 (swp A r x) r j) (rowAt (swp A r x) r))) i = if i = r then iQ j (1 / at2 (swp A r x) r j) (rowAt (swp A r x) r) else rowAt (swp A r x) i := rowAt_set (by rw [hs.1]; exact hr)
 rw [yC (by rw [List.length_set, hs.1]; exact hi), hb]
 by_cases e : i = r
 ·rw [if_pos e, if_pos e]; simp only [iQ, List.length_mapIdx]; exact hs.2 r hr
 ·rw [if_neg e, if_neg e]
  split
  ·exact hs.2 i hi
  ·simp only [nQ, List.length_mapIdx]; exact hs.2 i hi
theorem aKR {A : Mt} {R C r j x : Nat} (h : xM A R C) (hr : r < R) (hx : x < R) (hj : j < C) (hz : ∀ b, b < j → at2 A x b = 0) : ∀ a b, a < R → b < C →
  at2 (vP A r j x) a b = elm r x (1 / at2 A x j) (fun a => at2 A (tr r x a) j) (at2 A) a b := by
 intro a b ha hb
 have hs := aGZ (r := r) (k := x) h hr hx
 have hat : ∀ i c, at2 (swp A r x) i c = at2 A (tr r x i) c := fun i c => by unfold at2; rw [tH h hr hx]
 have htr : tr r x r = x := by simp [tr]
 have hrow : (rowAt (swp A r x) r) = rowAt A x := by rw [tH h hr hx, htr]
 have hκ : at2 (swp A r x) r j = at2 A x j := by rw [hat, htr]
 obtain ⟨κ, hk⟩ : ∃ κ, κ = 1 / at2 A x j := ⟨_, rfl⟩
 rw [← hk]
 have hpr : ∀ c, c < C → (iQ j κ (rowAt A x)).getD c 0 = κ * at2 A x c := fun c hc => by
  unfold iQ
  rw [xE (by rw [h.2 x hx]; exact hc)]
  by_cases e : c < j
  ·rw [if_pos e]
   have := hz c e
   rw [this]
   unfold at2 at this
   rw [this]; grind
  ·rw [if_neg e]; rfl
 have e1 : at2 (vP A r j x) a b = (rowAt (vP A r j x) a).getD b 0 := rfl
 rw [e1]
 unfold vP
 rw [hκ, hrow, ← hk]
 have hbb : rowAt ((swp A r x).set r (iQ j κ (rowAt A x))) a = if a = r then iQ j κ (rowAt A x) else rowAt (swp A r x) a := rowAt_set (by rw [hs.1]; exact hr)
 rw [yC (by rw [List.length_set, hs.1]; exact ha), hbb]
 simp only [elm, htr]
 by_cases e : a = r
 ·rw [if_pos e, if_pos e, if_pos e]; exact hpr b hb
 ·rw [if_neg e, if_neg e, if_neg e, tH h hr hx]
  have hc : (rowAt A (tr r x a)).getD j 0 = at2 A (tr r x a) j := rfl
  rw [hc]
  by_cases e0 : at2 A (tr r x a) j = 0
  ·rw [if_pos e0, e0]
   show at2 A (tr r x a) b = _
   grind
  ·rw [if_neg e0]
   unfold nQ
   rw [xE (by rw [h.2 _ (zG hr hx ha)]; exact hb)]
   show (if b < j then at2 A (tr r x a) b else at2 A (tr r x a) b - _) = _
   by_cases ej : b < j
   ·rw [if_pos ej, hz b ej]; grind
   ·rw [if_neg ej, hpr b hb]
theorem xZ {A : Mt} {j : Nat} : ∀ (f k : Nat), k + f = A.length → ∀ i, k ≤ i → i < mX A j f k → at2 A i j = 0
 | 0, k, _, i, h1, h2 => by simp [mX] at h2; omega
 | f + 1, k, h, i, h1, h2 => by
  unfold mX at h2
  by_cases hc : k < A.length ∧ at2 A k j = 0
  ·rw [if_pos hc] at h2
   by_cases e : i = k
   ·subst e; exact hc.2
   ·exact xZ f (k + 1) (by omega) i (by omega) h2
  ·rw [if_neg hc] at h2; omega
theorem uW {A : Mt} {R C : Nat} (h : xM A R C) : ∀ n, n ≤ C → xM (kM A n).1 R C ∧ ∃ s, Red R C n (at2 A) (at2 (kM A n).1) (kM A n).2 s
 | 0, _ => ⟨h, 1, Red.start⟩
 | n + 1, hn => by
  obtain ⟨hd, s, hr⟩ := uW h n (by omega)
  rw [wQ]
  generalize kM A n = st at hd hr
  obtain ⟨B, pv⟩ := st
  simp only at hd hr
  have hlen := hr.len
  obtain ⟨f1, f2, f3⟩ := aCG (A := B) (j := n) (B.length - pv.length) pv.length (by rw [hd.1]; omega)
  have f4 := xZ (A := B) (j := n) (B.length - pv.length) pv.length (by rw [hd.1]; omega)
  unfold aKN
  simp only
  generalize mX B n (B.length - pv.length) pv.length = x at f1 f2 f3 f4
  by_cases hx : x < B.length
  ·rw [if_pos hx]
   rw [hd.1] at hx
   refine ⟨aJP hd (by omega) hx, _, hr.step (x := x) (by omega) f1 hx (f3 (by rw [hd.1]; exact hx)) (aKR hd (by omega) hx (by omega) (fun b hb => hr.zero x b f1 hx hb))⟩
  ·rw [if_neg hx]
   exact ⟨hd, s, hr.none (fun i h1 h2 => f4 i h1 (by rw [hd.1] at hx; omega))⟩
end Go.Proofs.YtkccjglmnhgabaaGreat
namespace Go.Proofs.YtkccjglmnhgabaaGreat
open Go Go.Fx
def wG (pv : List Nat) (z : Nat → Rat) : Nat → Rat := fun j => if j ∈ pv then 0 else z j
theorem uN {pv : List Nat} {i : Nat} (h : i < pv.length) : pv.getD i 0 = pv[i] := by simp [List.getD, h]
theorem vL {pv : List Nat} {j : Nat} : j ∈ pv ↔ ∃ t, t < pv.length ∧ pv.getD t 0 = j := by
 rw [List.mem_iff_getElem]
 constructor
 ·rintro ⟨t, ht, e⟩; exact ⟨t, ht, by simp [List.getD, ht, e]⟩
 ·rintro ⟨t, ht, e⟩; exact ⟨t, ht, by simpa [List.getD, ht] using e⟩
theorem Red.piv_lt {R C j : Nat} {f0 f : Nat → Nat → Rat} {pv : List Nat} {s : Rat} (h : Red R C j f0 f pv s) {t : Nat} (ht : t < pv.length) : pv.getD t 0 < j := (h.inc t ht).1
theorem Red.piv_inj {R C j : Nat} {f0 f : Nat → Nat → Rat} {pv : List Nat} {s : Rat} (h : Red R C j f0 f pv s) {t u : Nat} (ht : t < pv.length) (hu : u < pv.length) (e : pv.getD t 0 = pv.getD u 0) : t = u := by
 rcases Nat.lt_trichotomy t u with l | l | l
 ·have := (h.inc u hu).2.2 t l; omega
 ·exact l
 ·have := (h.inc t ht).2.2 u l; omega
theorem Red.row {R C : Nat} {f0 f : Nat → Nat → Rat} {pv : List Nat} {s : Rat} (h : Red R C C f0 f pv s) {t : Nat} (ht : t < pv.length) (z : Nat → Rat) : sm C (fun j => f t j * z j) = z (pv.getD t 0) + sm C (fun j => f t j * wG pv z j) := by
 have hR := h.len
 have h1 : sm C (fun j => f t j * z j) = sm C (fun j => (f t j * z j - f t j * wG pv z j) + f t j * wG pv z j) := iN (fun j _ => by grind)
 rw [h1, aFN]
 congr 1
 rw [aEX (p := pv.getD t 0) (h.piv_lt ht) (fun j hj hne => ?_)]
 ·have hm : pv.getD t 0 ∈ pv := vL.2 ⟨t, ht, rfl⟩
  rw [h.unit t t ht (by omega)]
  simp only [wG, if_pos hm, dlt, if_true]; grind
 ·by_cases hm : j ∈ pv
  ·obtain ⟨u, hu, rfl⟩ := vL.1 hm
   have : t ≠ u := fun e => hne (by rw [e])
   rw [h.unit u t hu (by omega)]
   simp only [dlt, if_neg this]; grind
  ·simp only [wG, if_neg hm]; grind
theorem Red.kerE {R C : Nat} {f0 f : Nat → Nat → Rat} {pv : List Nat} {s : Rat} (h : Red R C C f0 f pv s) (z : Nat → Rat) : Go.Proofs.YtkccjglmnhgabaaGreat.ker R C f0 z ↔ ∀ t, t < pv.length → z (pv.getD t 0) + sm C (fun j => f t j * wG pv z j) = 0 := by
 rw [← h.ker z]
 constructor
 ·intro hk t ht
  rw [← h.row ht z]; exact hk t (by have := h.len; omega)
 ·intro hk i hi
  by_cases e : i < pv.length
  ·rw [h.row e z]; exact hk i e
  ·exact xS (fun j hj => by rw [h.zero i j (by omega) hi hj]; grind)
section
variable {R C R' : Nat} {f0 f g0 g : Nat → Nat → Rat} {pv qv : List Nat} {s s' : Rat}
end
end Go.Proofs.YtkccjglmnhgabaaGreat
namespace Go.Proofs.YtkccjglmnhgabaaGreat
open Go Go.Fx
def vG (f : Nat → Nat → Rat) (pv : List Nat) (j c : Nat) : Rat := if c ∈ pv then - f (pv.idxOf c) j else if c = j then 1 else 0
def rG (pv : List Nat) (C : Nat) : List Nat := (List.range C).filter (fun j => decide (j ∉ pv))
def uD (E : Mt) (pv : List Nat) (C j : Nat) : List Rat := (List.range C).map (vG (at2 E) pv j)
def aGK (E : Mt) (pv : List Nat) (C : Nat) : Mt := (rG pv C).map (uD E pv C)
def kI (A : Mt) (C : Nat) : Mt := aGK (kM A C).1 (kM A C).2 C
def rk (A : Mt) (C : Nat) : Nat := (kM A C).2.length
theorem aDH {E : Mt} {pv : List Nat} {C j c : Nat} (h : c < C) : (uD E pv C j).getD c 0 = vG (at2 E) pv j c := by simp [uD, List.getD, h]
theorem Red.idx {R C j : Nat} {f0 f : Nat → Nat → Rat} {pv : List Nat} {s : Rat} (h : Red R C j f0 f pv s) {t : Nat} (ht : t < pv.length) : pv.idxOf (pv.getD t 0) = t := by
 have hm : pv.getD t 0 ∈ pv := vL.2 ⟨t, ht, rfl⟩
 have h1 : pv.idxOf (pv.getD t 0) < pv.length := List.idxOf_lt_length_of_mem hm
 exact h.piv_inj h1 ht ((uN h1).trans (List.getElem_idxOf h1))
theorem Red.idx_lt {pv : List Nat} {c : Nat} (hm : c ∈ pv) : pv.idxOf c < pv.length ∧ pv.getD (pv.idxOf c) 0 = c := by
 have h1 : pv.idxOf c < pv.length := List.idxOf_lt_length_of_mem hm
 exact ⟨h1, (uN h1).trans (List.getElem_idxOf h1)⟩
section
variable {R C : Nat} {f0 f : Nat → Nat → Rat} {pv : List Nat} {s : Rat}
theorem Red.span (h : Red R C C f0 f pv s) {z : Nat → Rat} (hz : Go.Proofs.YtkccjglmnhgabaaGreat.ker R C f0 z) {c : Nat} (hc : c < C) : z c = sm C (fun j => wG pv z j * vG f pv j c) := by
 by_cases hm : c ∈ pv
 ·obtain ⟨h1, h2⟩ := Red.idx_lt hm
  have := (h.kerE z).1 hz _ h1
  rw [h2] at this
  have e : sm C (fun j => wG pv z j * vG f pv j c) = sm C (fun j => (-1 : Rat) * (f (pv.idxOf c) j * wG pv z j)) := iN (fun j _ => by simp only [vG, if_pos hm]; grind)
  rw [e, rZ]; grind
 ·rw [aEX (p := c) hc (fun j _ hne => by simp only [vG, if_neg hm, if_neg (show ¬ c = j from fun e => hne e.symm)]; grind)]
  simp only [wG, vG, if_neg hm, if_true]; grind
end
/- systems: the right side is the column C of a wider matrix -/
section
variable {R C W : Nat} {f0 f : Nat → Nat → Rat} {pv : List Nat} {s : Rat}
def solF (f : Nat → Nat → Rat) (pv : List Nat) (C c : Nat) : Rat := if c ∈ pv then f (pv.idxOf c) C else 0
def solOk (R C : Nat) (f : Nat → Nat → Rat) (pv : List Nat) : Prop := ∀ i, pv.length ≤ i → i < R → f i C = 0
def ext1 (C : Nat) (x : Nat → Rat) (y : Rat) : Nat → Rat := fun j => if j < C then x j else if j = C then y else 0
end
end Go.Proofs.YtkccjglmnhgabaaGreat
namespace Go.Proofs.YtkccjglmnhgabaaGreat
open Go Go.Fx
abbrev pvI (q : Option Addr) (pv : List Nat) : aZ := bI q (recs eZ (zs pv))
def EchP (A : Mt) (R C k : Nat) (M0 : List Ent) (I0 : List aZ) (v : Value) (M : List Ent) (I : List aZ) : Prop :=
 M0 = M ∧ ∃ (m : MX) (pv : List Nat) (q : Option Addr) (c : Nat), v = .tuple #[mv m, .slice q pv.length c, .int .i64 0] ∧ kM A C = (m.q, pv) ∧ m.dim R C ∧ I = pvI q pv :: nU m k :: I0
def NlP (A : Mt) (C k : Nat) (M0 : List Ent) (I0 : List aZ) (v : Value) (M : List Ent) (I : List aZ) : Prop :=
 M0 = M ∧ ∃ m : MX, v = .tuple #[mv m, .int .i64 0] ∧ m.q = kI A C ∧ (∀ r ∈ m.rows, r.es.length = C) ∧ I = nU m k :: I0
theorem aJY {pv : List Nat} {j : Nat} : (j : Int) ∈ zs pv ↔ j ∈ pv := by
 rw [List.mem_map]
 exact ⟨fun ⟨x, hx, e⟩ => by obtain rfl : x = j := by omega
                             exact hx, fun h => ⟨j, h, rfl⟩⟩
theorem gt_zs {pv : List Nat} {r : Nat} (h : r < pv.length) : gt (zs pv) (r : Int) = ((pv.getD r 0 : Nat) : Int) := by
 rw [fH (by simpa using h)]
 rw [uN h]
 simp
theorem yP {pv : List Nat} {j : Nat} : rG pv (j + 1) = if j ∈ pv then rG pv j else rG pv j ++ [j] := by
 unfold rG
 rw [List.range_succ, List.filter_append]
 by_cases h : j ∈ pv
 ·rw [if_pos h]; simp [h]
 ·rw [if_neg h]; simp [h]
theorem aLY {pv : List Nat} {j : Nat} : (rG pv j).length ≤ j := by
 unfold rG
 exact Nat.le_trans (List.length_filter_le _ _) (by simp)
theorem aMK {a : MX} {R C : Nat} (h : a.dim R C) : xM a.q R C := ⟨by simp [h.1], fun i hi => by
 rw [xR (by have := h.1; omega)]; simp [h.row hi]⟩
theorem MX.dim.red {a : MX} {R C : Nat} (h : a.dim R C) {E : Mt} {pv : List Nat} (hr : kM a.q C = (E, pv)) : ∃ s, Red R C C (at2 a.q) (at2 E) pv s := by
 obtain ⟨_, s, h2⟩ := uW (aMK h) C (Nat.le_refl _)
 rw [hr] at h2
 exact ⟨s, h2⟩
section
variable {X : List Nat} {w0 : World} {M : List Ent} {I : List aZ}
theorem Mem.blkL {w : World} {b k : Nat} {es : List RE} {ty : TypeId} (h : Mem X w0 (.blk b (recs eR es) ty :: M) I w) (ha : fE es k ∈ I) : Mem X w0 M (iY ⟨some ⟨b, 0, none⟩, es.length, es⟩ k :: I) w := by
 have h1 := h.freezeB .here
 refine (h1.add (φ := iY ⟨some ⟨b, 0, none⟩, es.length, es⟩ k) ⟨(h1.sl (List.Mem.head _)), (((h1.imm _ (List.Mem.tail _ ha)).2 : AllR es k _ w)).go, ⟨Nat.le_refl _, .inl (Ok.mk _ _)⟩⟩).inc (.of fun φ hφ => ?_)
 rcases List.mem_cons.1 hφ with rfl | hφ
 ·exact List.Mem.head _
 ·exact List.Mem.tail _ (List.Mem.tail _ hφ)
variable {P : Program} {n : Nat} {Q : Exit → Act → World → Prop} {G : Env}
theorem aOF {ops l : List Oper} {m : Fx.Mode} {b k : Nat} {es : List RE} {ty : TypeId} (ha : fE es k ∈ I) (h : RD P n ops Q m l G X w0 M (iY ⟨some ⟨b, 0, none⟩, es.length, es⟩ k :: I)) : RD P n ops Q m l G X w0 (.blk b (recs eR es) ty :: M) I := pM (fun _ hw => Mem.blkL hw ha) h
end
section
variable {X : List Nat} {w0 : World} {M0 : List Ent} {I0 : List aZ}
theorem aIO {p : Option Addr} {l : List Int} {t c : Nat} {x : Int} (hl : l.length = t) (ht : t ≤ 100000) (hp : bI p (recs (eI .i64) l) ∈ I0) :
  CD Tryz.prog 156 [.slice p t c, .int .i64 x] X w0 M0 I0 (fun v M I => M0 = M ∧ I0 = I ∧ ∃ r : Int, v = .int .i64 r ∧ (0 ≤ r ↔ x ∈ l)) := by
 refine bE Tryz.func156 rfl Tryz.ntmps156 rfl ?_
 repeat (refine aJ ?_)
 refine bG [0, 1, 7] rfl (fun k G M I => ∃ i : Nat, i ≤ t ∧ k = t - i ∧ (∀ j : Nat, j < i → gt l j ≠ x) ∧ G = [(8, .int .i64 i)] ∧ M0 = M ∧ I0 = I) (t) _ _ _ aO aD aF (⟨0, by omega, rfl, fun j hj => by omega, rfl, rfl, rfl⟩) ?_
 rintro kk G M I ⟨i, hi, rfl, hs, rfl, rfl, rfl⟩
 by_cases h : i < t
 ·by_cases he : x = gt l i
  ·repeat (refine aJ ?_)
   refine aQ (by first | exact .inl rfl | exact .inr rfl) rfl rfl _ _ aD aF (⟨rfl, rfl, (i : Int), rfl, ⟨fun _ => by { rw [he]; exact dX (by omega) }, fun _ => by omega⟩⟩)
  ·repeat (refine aJ ?_)
   refine aS (t - (i + 1)) _ _ _ (by first | omega | (simp only [List.length_append, List.length_cons, List.length_nil]; omega)) aO aD aF (⟨i + 1, by omega, rfl, fun j hj => ?_, rfl, rfl, rfl⟩)
   by_cases e : j = i
   ·subst e; exact fun h => he h.symm
   ·exact hs j (by omega)
 ·repeat (refine aJ ?_)
  refine aQ (by first | exact .inl rfl | exact .inr rfl) rfl rfl _ _ aD aF (⟨rfl, rfl, -1, rfl, ⟨fun h => by omega, fun h => by { obtain ⟨j, hj, e⟩ := List.mem_iff_getElem.1 h; exact absurd (by rw [lI hj]; exact e) (hs j (by omega)) }⟩⟩)
theorem aBT {p : Option Addr} {l : List Int} {t c : Nat} {x : Int} (hl : l.length = t) (ht : t ≤ 100000) (hp : bI p (recs (eI .i64) l) ∈ I0) :
  CD Tryz.prog 109 [.slice p t c, .int .i64 x] X w0 M0 I0 (fun v M I => M0 = M ∧ I0 = I ∧ v = .bool (B (x ∈ l))) := by
 refine bE Tryz.func109 rfl Tryz.ntmps109 rfl ?_
 repeat (refine aJ ?_)
 (refine aA rfl (aIO hl ht hp) rfl rfl ?_; rintro _ _ _ ⟨rfl, rfl, r, rfl, h⟩; refine ⟨okF, ?_⟩)
 repeat (refine aJ ?_)
 refine aQ (by first | exact .inl rfl | exact .inr rfl) rfl rfl _ _ aD aF (⟨rfl, rfl, congrArg Value.bool (gD h)⟩)
/- reduce, and what it changed is only read from now on -/
theorem aEU {bo R C n k0 : Nat} {rows : List MR} {M1 : List Ent} (hR : rows.length = R) (hRb : R ≤ 100) (hCb : C ≤ 200) (hC : ∀ r ∈ rows, r.es.length = C) (hn : n ≤ C) (hk : kb k0 n ≤ 50000000000) (hA : allM rows k0 ∈ I0)
  (hM : M0 = .blk bo (recs eM rows) 39 :: (rows.map gG ++ M1)) :
  CD Tryz.prog 155 [.slice (some ⟨bo, 0, none⟩) R R, .int .i64 (n : Int)] X w0 M0 I0 (fun v M I => M1 = M ∧ ∃ (x : MX) (pv : List Nat) (q : Option Addr) (c : Nat), v = .slice q pv.length c ∧ x.p = some ⟨bo, 0, none⟩ ∧ x.c = R ∧ x.dim R C ∧ kM (mq rows) n = (x.q, pv) ∧ pv.length ≤ R ∧ I = pvI q pv :: nU x (kb k0 n) :: I0) := by
 refine CD.post (aHW hR hRb hCb hC hn hk hA hM) (fun v M I w h hw => ?_)
 obtain ⟨rows2, pv, q, c, rfl, hl, hc, hred, hpv, rfl, rfl⟩ := h
 have h1 : Mem X w0 (.blk bo (recs eM rows2) 39 :: (rows2.map gG ++ M1)) (pvI q pv :: allM rows2 (kb k0 n) :: I0) w := hw.freezeR .here
 have h2 := aMO (k := kb k0 n) h1 (List.Mem.tail _ (List.Mem.head _))
 refine ⟨M1, pvI q pv :: nU (MR.x bo rows2) (kb k0 n) :: I0, ⟨rfl, MR.x bo rows2, pv, q, c, rfl, rfl, hl, ⟨?_, fun r hr => ?_⟩, by rw [q_x]; exact hred, hpv, rfl⟩, h2.inc (.of fun φ hφ => ?_)⟩
 ·show (rows2.map MR.l).length = R; rw [List.length_map, hl]
 ·obtain ⟨s, hs, rfl⟩ := List.mem_map.1 hr
  exact hc s hs
 ·rcases List.mem_cons.1 hφ with rfl | hφ
  ·exact List.Mem.tail _ (List.Mem.head _)
  ·rcases List.mem_cons.1 hφ with rfl | hφ
   ·exact List.Mem.head _
   ·exact List.Mem.tail _ (List.Mem.tail _ (List.Mem.tail _ hφ))
/- a matrix made is only read from now on -/
theorem aES {a : MX} {R C k0 : Nat} (hb : kb k0 C ≤ 20000000000) (da : a.fit R C) (ha : nU a k0 ∈ I0) : CD Tryz.prog 108 [mv a] X w0 M0 I0 (EchP a.q R C (kb k0 C) M0 I0) := by
 have hk0 : k0 ≤ 20000000000 := Nat.le_trans (aGB k0 (Nat.zero_le C)) hb
 obtain ⟨r1, r2⟩ := da.2.1
 obtain ⟨c1, c2⟩ := da.2.2
 have hC := fun M0 I0 h1 => aIZ (X := X) (w0 := w0) (M0 := M0) (I0 := I0) (a := a) (k := k0) (by omega) da h1
 refine cO Tryz.func108 rfl Tryz.ntmps108 rfl ?_
 repeat (refine aJ ?_)
 (refine aA rfl (hC _ _ aC) rfl rfl ?_; rintro _ _ _ ⟨rfl, rfl, rfl⟩; refine ⟨okF, ?_⟩)
 repeat (refine aJ ?_)
 (refine aA rfl (aFD da aC) rfl rfl ?_; rintro _ _ _ ⟨bo, rows0, rfl, hl0, hc0, hq0, rfl, rfl⟩; refine ⟨okF, ?_⟩)
 have lC : (gt rows0 0).es.length = C := hc0 _ (dX (by omega))
 have hmq0 : mq rows0 = a.q := by rw [da.1.mk]; exact hq0
 repeat (refine aJ ?_)
 rw [lC]
 have hRd := fun I0 h => aEU (X := X) (w0 := w0) (M0 := .blk bo (recs eM rows0) 39 :: (rows0.map gG ++ M0)) (I0 := I0) (bo := bo) (R := R) (C := C) (n := C) (k0 := k0) (rows := rows0) (M1 := M0) hl0 (by omega) (by omega) hc0 (by omega) (by omega) h rfl
 (refine aA rfl (hRd _ aC) rfl rfl ?_; rintro _ _ _ ⟨rfl, x, pv, q, c, rfl, xp, xc, xd, hred, hpv, rfl⟩; refine ⟨okF, ?_⟩)
 rw [hmq0] at hred
 repeat (refine aJ ?_)
 refine jI [2, 3, 4] (by first | exact .inl rfl | exact .inr rfl) rfl rfl rfl _ _ aD aF (⟨rfl, x, pv, q, c, ?_, hred, xd, rfl⟩)
 show _ = Value.tuple #[.slice x.p x.rows.length x.c, _, _]
 rw [xd.1, xp, xc]
theorem aNS {a : MX} {R C k0 : Nat} (hb : kb k0 C ≤ 20000000000) (da : a.fit R C) (ha : nU a k0 ∈ I0) : CD Tryz.prog 53 [mv a] X w0 M0 I0 (NlP a.q C (kb k0 C) M0 I0) := by
 obtain ⟨r1, r2⟩ := da.2.1
 obtain ⟨c1, c2⟩ := da.2.2
 refine cO Tryz.func53 rfl Tryz.ntmps53 rfl ?_
 repeat (refine aJ ?_)
 (refine aA rfl (aES hb da aC) rfl rfl ?_; rintro _ _ _ ⟨rfl, m, pv, q, c, rfl, hm, hd, rfl⟩; refine ⟨okF, ?_⟩)
 obtain ⟨s, hr⟩ := da.1.red hm
 have hlen := hr.len
 have hpi : ∀ r : Nat, r < pv.length → pv.getD r 0 < C := fun r h => hr.piv_lt h
 have hidx : ∀ r : Nat, r < pv.length → pv.idxOf (pv.getD r 0) = r := fun r h => hr.idx h
 have mR := hd.1
 have m0 : (gt m.rows 0).es.length = C := hd.row (i := 0) (by omega)
 have hz : (zs pv).length = pv.length := by simp
 generalize hK : kb k0 C = K at *
 refine fI (φ := bI (m).p (recs eL (m).rows)) (Hv.xsl aC) ?_
 repeat (refine aJ ?_)
 refine kT 39 1 ?_
 refine fD (φ := kG [] K) Hv.nilL ?_
 repeat (refine aJ ?_)
 rw [m0]
 refine bG [4, 5, 25] rfl (fun k G M I => ∃ (j : Nat) (rows : List RL) (qo : Option Addr) (co : Nat), j ≤ C ∧ k = C - j ∧ rows.map RL.q = (rG pv j).map (uD m.q pv C) ∧ (∀ r ∈ rows, r.es.length = C) ∧ G = [(7, .slice qo rows.length co), (26, .int .i64 j)] ∧ M = .row qo rows.length co (recs eL rows) 39 1 :: M0 ∧ I = kG rows K :: bI m.p (recs eL m.rows) :: pvI q pv :: nU m K :: I0) (C) _ _ _ aO aD aF (⟨0, [], none, 0, by omega, rfl, rfl, fun r hr => by simp at hr, rfl, rfl, rfl⟩) ?_
 rintro kk G M I ⟨j, rows, qo, co, hj, rfl, hq, hl, rfl, rfl, rfl⟩
 have hrl : rows.length ≤ j := by have := congrArg List.length hq; rw [List.length_map, List.length_map] at this; have := aLY (pv := pv) (j := j); omega
 by_cases hjC : j < C
 ·have hCn := fun M0 I0 h => aBT (X := X) (w0 := w0) (M0 := M0) (I0 := I0) (p := q) (l := zs pv) (t := pv.length) (c := c) (x := (j : Int)) hz (by omega) h
  by_cases hjp : j ∈ pv
  ·rw [dG (aJY.2 hjp)] at hCn
   repeat (refine aJ ?_)
   (refine aA rfl (hCn _ _ aC) rfl rfl ?_; rintro _ _ _ ⟨rfl, rfl, rfl⟩; refine ⟨okF, ?_⟩)
   repeat (refine aJ ?_)
   refine aS (C - (j + 1)) _ _ _ (by first | omega | (simp only [List.length_append, List.length_cons, List.length_nil]; omega)) aO aD aF (⟨j + 1, rows, qo, co, by omega, rfl, by rw [yP, if_pos hjp]; exact hq, hl, rfl, rfl, rfl⟩)
  ·rw [bN (fun h => hjp (aJY.1 h))] at hCn
   repeat (refine aJ ?_)
   (refine aA rfl (hCn _ _ aC) rfl rfl ?_; rintro _ _ _ ⟨rfl, rfl, rfl⟩; refine ⟨okF, ?_⟩)
   repeat (refine aJ ?_)
   rw [m0]
   (refine jU (C) rfl rfl (by omega) (by omega) (by omega) (by omega) (pX (enc := e4) (by decide) z4 C) rfl rfl ?_; intro bi; refine ⟨okF, ?_⟩)
   repeat (refine aJ ?_)
   refine fD (φ := fE [] K) Hv.nilR ?_
   refine bG [4, 5, 7, 8, 9, 25, 26, 38] rfl (fun k G M I => ∃ (x : Nat) (es : List RE), x ≤ C ∧ k = C - x ∧ es.length = x ∧ (∀ t : Nat, t < x → (gt es (t : Int)).q = if t = j then 1 else 0) ∧ G = [(39, .int .i64 x)] ∧ M = .blk bi (recs e4 (es.map t4 ++ List.replicate (C - x) z4)) 37 :: .row qo rows.length co (recs eL rows) 39 1 :: M0 ∧ I = fE es K :: kG rows K :: bI m.p (recs eL m.rows) :: pvI q pv :: nU m K :: I0) (C) _ _ _ aO aD aF (⟨0, [], by omega, by omega, rfl, fun t ht => by omega, rfl, rfl, rfl⟩) ?_
   rintro kk G M I ⟨x, es, hx, rfl, hel, heq, rfl, rfl, rfl⟩
   by_cases hxC : x < C
   ·have hz2 := wS (n := C - x) (z := z4) (by omega)
    have hl2 : ((es.map t4 ++ z4 :: List.replicate (C - x - 1) z4).length : Int) = C := by simp; omega
    have hU := fun M0 I0 => aNK (X := X) (w0 := w0) (M0 := M0) (I0 := I0) (i := (x : Int)) (j := (j : Int))
    rw [hz2]
    repeat (refine aJ ?_)
    (refine aA rfl (hU _ _) rfl rfl ?_; rintro _ _ _ ⟨rfl, e, rfl, he, rfl⟩; refine ⟨okF, ?_⟩)
    repeat (refine yXh ?_)
    refine iT (vs := eR e) rfl rfl rfl (Ones.one e) lU (StAts.r (t4 e) (by omega) rfl) rfl rfl ⟨okF, ?_⟩
    rw [yH (by simp; omega)]
    repeat (refine aJ ?_)
    refine bJ (φ := bM e K) (Hv.q (k := 0) aC (by omega)) ?_
    refine bJ (φ := fE (es ++ [e]) K) (Hv.snoc aC aC) ?_
    have e9 : es.map t4 ++ t4 e :: List.replicate (C - x - 1) z4 = (es ++ [e]).map t4 ++ List.replicate (C - (x + 1)) z4 := by simp [Nat.sub_sub]
    rw [e9]
    refine aS (C - (x + 1)) _ _ _ (by first | omega | (simp only [List.length_append, List.length_cons, List.length_nil]; omega)) aO aD aF (⟨x + 1, es ++ [e], by omega, rfl, by simp; omega, fun t ht => ?_, rfl, rfl, rfl⟩)
    by_cases e1 : t < x
    ·have : gt (es ++ [e]) (t : Int) = gt es (t : Int) := by rw [fH (by simp; omega), fH (by omega), List.getElem_append_left (by omega)]
     rw [this]; exact heq t e1
    ·have : gt (es ++ [e]) (t : Int) = e := aJH (A := es) (B := []) (by omega)
     rw [this, he]
     obtain rfl : t = x := by omega
     by_cases e2 : t = j
     ·rw [if_pos e2, if_pos (by omega)]
     ·rw [if_neg e2, if_neg (by omega)]
   ·obtain rfl : x = C := by omega
    rw [Nat.sub_self, List.replicate_zero, List.append_nil, aGT]
    repeat (refine aJ ?_)
    refine bG [4, 5, 7, 8, 9, 25, 26, 49, 50] rfl (fun k G M I => ∃ (r : Nat) (es2 : List RE), r ≤ pv.length ∧ k = pv.length - r ∧ es2.length = x ∧ (∀ t : Nat, t < x → (gt es2 (t : Int)).q = if t ∈ pv ∧ pv.idxOf t < r then - at2 m.q (pv.idxOf t) j else if t = j then 1 else 0) ∧ G = [(51, .int .i64 r)] ∧ M = .blk bi (recs eR es2) 37 :: .row qo rows.length co (recs eL rows) 39 1 :: M0 ∧ I = fE es2 K :: kG rows K :: bI m.p (recs eL m.rows) :: pvI q pv :: nU m K :: I0) (pv.length) _ _ _ aO aD aF (⟨0, es, by omega, by omega, hel, fun t ht => by rw [if_neg (by omega)]; exact heq t ht, rfl, rfl, rfl⟩) ?_
    rintro kk G M I ⟨r, es2, hr2, rfl, hel2, heq2, rfl, rfl, rfl⟩
    by_cases hrp : r < pv.length
    ·have hgz := gt_zs hrp
     have hpr := hpi r hrp
     have hmr := hd.row (i := r) (by omega)
     have hat := aKU (m := m) (i := r) (j := j) (by omega) (by omega)
     refine fD (φ := bI (gt (m).rows (r : Int)).p (recs eR (gt (m).rows (r : Int)).es)) (Hv.xrsl aC (by omega)) ?_
     have hNg := fun M0 I0 h => vW (X := X) (w0 := w0) (M0 := M0) (I0 := I0) (e := gt (gt m.rows (r : Int)).es (j : Int)) (k := K) (by omega) h
     repeat (refine aJ ?_)
     rw [hgz]
     (refine aA rfl (hNg _ _ (Hv.xel aC (by omega) (by omega))) rfl rfl ?_; rintro _ _ _ ⟨rfl, e, rfl, he, rfl⟩; refine ⟨okF, ?_⟩)
     repeat (refine yXh ?_)
     refine iT (vs := eR e) rfl rfl rfl (Ones.one e) lU (StAts.r e (by omega) rfl) rfl rfl ⟨okF, ?_⟩
     repeat (refine aJ ?_)
     refine bJ (φ := fE (st es2 ((pv.getD r 0 : Nat) : Int) e) K) (Hv.stR aC aC) ?_
     refine aS (pv.length - (r + 1)) _ _ _ (by first | omega | (simp only [List.length_append, List.length_cons, List.length_nil]; omega)) aO aD aF (⟨r + 1, st es2 ((pv.getD r 0 : Nat) : Int) e, by omega, rfl, by rw [eT]; exact hel2, fun t ht => ?_, rfl, rfl, rfl⟩)
     rw [yU (by omega)]
     by_cases e1 : t = pv.getD r 0
     ·subst e1
      rw [if_pos rfl, if_pos ⟨vL.2 ⟨r, hrp, rfl⟩, by rw [hidx r hrp]; omega⟩, he, hidx r hrp, hat]
     ·rw [if_neg e1, heq2 t ht]
      by_cases e2 : t ∈ pv
      ·have e3 : pv.idxOf t ≠ r := fun e => e1 (by rw [← e]; exact (Red.idx_lt e2).2.symm)
       by_cases e4 : pv.idxOf t < r
       ·rw [if_pos ⟨e2, e4⟩, if_pos ⟨e2, by omega⟩]
       ·rw [if_neg (show ¬ (t ∈ pv ∧ pv.idxOf t < r) from fun h => e4 h.2), if_neg (show ¬ (t ∈ pv ∧ pv.idxOf t < r + 1) from fun h => by have := h.2; omega)]
      ·rw [if_neg (show ¬ (t ∈ pv ∧ pv.idxOf t < r) from fun h => e2 h.1), if_neg (show ¬ (t ∈ pv ∧ pv.idxOf t < r + 1) from fun h => e2 h.1)]
    ·obtain rfl : r = pv.length := by omega
     have hV : qs es2 = uD m.q pv x j := by
      apply tC
      ·simp [uD, hel2]
      ·intro t ht
       have ht' : t < x := by simpa [hel2] using ht
       rw [kH (by omega), heq2 t ht', aDH ht']
       unfold vG
       by_cases e2 : t ∈ pv
       ·rw [if_pos ⟨e2, (Red.idx_lt e2).1⟩, if_pos e2]
       ·rw [if_neg (fun h => e2 h.1), if_neg e2]
     repeat (refine aJ ?_)
     refine aOF (k := K) aC ?_
     rw [hel2]
     have hvv : Value.slice (some ⟨bi, 0, none⟩) x x = lv (⟨some ⟨bi, 0, none⟩, x, es2⟩ : RL) := by show _ = Value.slice _ es2.length _; rw [hel2]
     rw [hvv]
     (refine bO (cs := recs eL [(⟨some ⟨bi, 0, none⟩, x, es2⟩ : RL)]) ([lv (⟨some ⟨bi, 0, none⟩, x, es2⟩ : RL)]) rfl rfl (by intro v hv; repeat (first | exact absurd hv (List.not_mem_nil) | (rcases List.mem_cons.1 hv with rfl | hv; · rfl))) (by omega) rfl rfl rfl ?_; intro bb; refine ⟨okF, ?_⟩)
     (refine eQ (ys := [(⟨some ⟨bi, 0, none⟩, x, es2⟩ : RL)]) 1 rfl rfl rfl ?_ (by decide) rfl (by omega) (by omega) rfl rfl ?_; (· first | exact Src.blk aC | exact Src.row aC | exact Src.imm aC (by first | assumption | exact .inl (Ok.mk _ _))); intro q2 c2; refine ⟨okF, ?_⟩)
     repeat (refine aJ ?_)
     refine bJ (φ := kG (rows ++ [(⟨some ⟨bi, 0, none⟩, x, es2⟩ : RL)]) K) (Hv.snocL aC aC) ?_
     refine aS (x - (j + 1)) _ _ _ (by first | omega | (simp only [List.length_append, List.length_cons, List.length_nil]; omega)) aO aD aF (⟨j + 1, rows ++ [(⟨some ⟨bi, 0, none⟩, x, es2⟩ : RL)], q2, c2, by omega, rfl, ?_, fun r hr => ?_, rfl, rfl, rfl⟩)
     ·rw [aOZ, hq, yP, if_neg hjp, List.map_append]
      show _ ++ [qs es2] = _ ++ [uD m.q pv x j]
      rw [hV]
     ·rcases List.mem_append.1 hr with h | h
      ·exact hl r h
      ·rw [List.mem_singleton.1 h]; exact hel2
 ·obtain rfl : j = C := by omega
  repeat (refine aJ ?_)
  refine aKY (k := K) aC ?_
  refine jI [2, 3] (by first | exact .inl rfl | exact .inr rfl) rfl rfl rfl _ _ aD aF (⟨rfl, ⟨qo, co, rows⟩, rfl, by unfold kI aGK; rw [hm]; exact hq, hl, rfl⟩)
end
end Go.Proofs.YtkccjglmnhgabaaGreat

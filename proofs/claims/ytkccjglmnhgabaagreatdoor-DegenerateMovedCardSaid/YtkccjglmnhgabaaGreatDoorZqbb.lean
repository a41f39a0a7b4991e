/- matrix: Add, Sub, Scale, Mul, Transpose, Apply, Identity, of matrices and of what is none. matrix: Mul, Apply, of matrices and of what is none. Elimination of lists of rows is elimination of numbers. Ranks, plain: the kernel of a reduced matrix; systems with more unknowns than equations; ranks compared by kernels. Kernels and systems, plain: the canonical basis of the kernel, what it spans; when a system has a solution, and which one is returned. -/
import Derived.Test.YtkccjglmnhgabaaGreatDoorZqba
import Derived.Test.YtkccjglmnhgabaaGreatDoorZqam
import Derived.Test.YtkccjglmnhgabaaGreatDoorZqax
set_option linter.unusedSimpArgs false
set_option linter.unusedVariables false
set_option maxRecDepth 100000
set_option maxHeartbeats 4000000
namespace Go.Proofs.YtkccjglmnhgabaaGreatDoor
open Go Go.Fx
theorem sF {M M' : List Ent} (h : SubP M M') : ∀ {xs : List Ent}, SubP (xs ++ M) M'
 | [] => h
 | _ :: _ => .drop (sF h)
def MX.fit (m : MX) (R C : Nat) : Prop := m.dim R C ∧ (1 ≤ R ∧ R ≤ 64) ∧ (1 ≤ C ∧ C ≤ 64)
theorem MX.fit.r0 {m : MX} {R C : Nat} (h : m.fit R C) : (gt m.rows 0).es.length = C := by
 have := h.1.row (i := 0) (by have := h.2.1; omega)
 exact this
theorem MX.fit.ok {m : MX} {R C : Nat} (h : m.fit R C) : m.raw.ok := aWC h.1 h.2.1 h.2.2
theorem MX.raw_rows (m : MX) : m.raw.rows.length = m.rows.length := by show (m.rows.map RL.raw).length = _; rw [List.length_map]
theorem MX.raw_c0 {m : MX} {R C : Nat} (h : m.fit R C) : (gt m.raw.rows 0).es.length = C := by
 have e : m.raw.rows = m.rows.map RL.raw := rfl
 rw [e, aIE (by have := h.1.1; have := h.2.1; omega)]
 show ((gt m.rows 0).es.map RE.raw).length = C
 rw [List.length_map]; exact h.r0
section
variable {P : Program} {f : FuncId} {vs : List Value} {X : List Nat} {w0 : World} {M : List Ent} {I : List bB}
theorem oL {K : Value → List Ent → List bB → Prop} {φ : Prop} (h : ∀ w, Mem X w0 M I w → φ) (k : φ → CD P f vs X w0 M I K) : CD P f vs X w0 M I K := ⟨fun w hw => (k (h w hw)).go w hw⟩
theorem aUP {K : Value → Prop} {φ : bB} [Fx.Good φ] (h : Hv I φ) (c : CD P f vs X w0 M (φ :: I) (fun v M' I' => M = M' ∧ φ :: I = I' ∧ K v)) : CD P f vs X w0 M I (fun v M' I' => M = M' ∧ I = I' ∧ K v) :=
 ⟨fun w hw => (c.go w (Mem.hv h hw)).mono (fun _ _ ⟨M', I', ⟨e1, e2, hk⟩, h2⟩ => by subst e1; subst e2; exact ⟨M, I, ⟨rfl, rfl, hk⟩, h2.inc (.of fun φ hφ => List.Mem.tail _ hφ)⟩)⟩
theorem Mem.xsml {w : World} {m : MX} {R C k : Nat} (hm : jC m k ∈ I) (hd : m.fit R C) (hk : k ≤ 20000000000) (hw : Mem X w0 M I w) : m.raw.sml := by
 have h : IsX m k (muts M) w := (hw.imm _ hm).2
 refine ⟨by rw [m.raw_rows, hd.1.1]; have := hd.2.1; omega, fun r hr => ?_⟩
 obtain ⟨s, hs, rfl⟩ := List.mem_map.1 hr
 refine ⟨by show (s.es.map RE.raw).length ≤ _; rw [List.length_map, hd.1.2 s hs]; have := hd.2.2; omega, fun e he => ?_⟩
 obtain ⟨x, hx, rfl⟩ := List.mem_map.1 he
 exact IsR.sml hk ((h.row s hs).el x hx)
end
section
variable {X : List Nat} {w0 : World} {M0 : List Ent} {I0 : List bB}
theorem aMQ {a : MX} {R C k : Nat} (hk : k ≤ 20000000000) (da : a.fit R C) (ha : jC a k ∈ I0) : CD Tryz.prog 32 [mv a] X w0 M0 I0 (fun v M I => M0 = M ∧ I0 = I ∧ v = .int .i64 0) := by
 refine oL (fun w hw => Mem.xsml ha da hk hw) (fun sa => ?_)
 refine aUP (φ := uT a.raw) (Hv.xraw ha hk) ?_
 have := uC (X := X) (w0 := w0) (M0 := M0) (I0 := uT a.raw :: I0) (m := a.raw) sa (List.Mem.head _)
 rw [WM.code_ok da.ok, vE] at this
 exact this
theorem aAL {a : MX} {R C k : Nat} (da : a.fit R C) (ha : jC a k ∈ I0) : CD Tryz.prog 104 [mv a] X w0 M0 I0 (MkP R C (at2 a.q) k M0 I0) := by
 have lR := da.1.1
 have lC := da.r0
 obtain ⟨r1, r2⟩ := da.2.1
 obtain ⟨c1, c2⟩ := da.2.2
 refine eQ (φ := aW (a).p (recs eL (a).rows)) (Hv.xsl aB) ?_
 refine bC Tryz.func104 rfl Tryz.ntmps104 rfl ?_
 refine aJ ?_
 refine aL ?_
 (refine xG rfl rfl rfl ?_; intro p1; refine ⟨okF, ?_⟩)
 repeat (refine aK ?_)
 (repeat refine aJ ?_); refine gT [0, 1, 2, 3, 4, 5, 6, 7, 8] [1, 0, 1, 1, 1, 0, 0, 0, 0] mixed (by kernel_rfl) ?_
 repeat (refine aK ?_)
 have hg := fun M I (hI : ∀ φ ∈ aW (some ⟨p1, 0, none⟩) [.slice a.p a.rows.length a.c] :: aW a.p (recs eL a.rows) :: I0, φ ∈ I) (i j : Nat) (hi : i < a.rows.length) (hj : j < (gt a.rows 0).es.length) => aIK (X := X) (w0 := w0) (M0 := M) (I0 := I) (a := a) (p := p1) (k := k) (i := i) (j := j) (by omega) (by rw [da.1.row (by omega)]; omega) (hI _ aB) (hI _ aB)
 (refine aA rfl (aNO (R := a.rows.length) (C := (gt a.rows 0).es.length) (g := 142) (fs := #[]) (cs := #[pb p1]) (k0 := k) (by omega) (by omega) (at2 a.q) hg) rfl rfl ?_; rintro _ _ _ ⟨bo, rows, rfl, h1, h2, h3, rfl, rfl⟩; refine ⟨OkD.any (SubP.drop (sF SubP.refl)) aD, ?_⟩)
 rw [lR] at h1
 rw [lC] at h2
 rw [lR, lC] at h3
 have e1 : (a.rows.length : Int) = R := by omega
 repeat (refine aK ?_)
 refine aH (by first | exact .inl rfl | exact .inr rfl) rfl rfl _ _ aF aD (⟨bo, rows, by rw [lR], h1, h2, h3, rfl, rfl⟩)
end
end Go.Proofs.YtkccjglmnhgabaaGreatDoor
namespace Go.Proofs.YtkccjglmnhgabaaGreatDoor
open Go Go.Fx
def mulC (a b : WM) : Int := if a.ok ∧ b.ok then (if (gt a.rows 0).es.length = b.rows.length then 0 else 4) else 1
def listC (a : WM) (x : WL) (n : Nat) : Int := if a.ok then (if x.good then (if x.es.length = n then 0 else 4) else 1) else 1
section
variable {X : List Nat} {w0 : World} {M0 : List Ent} {I0 : List bB}
end
end Go.Proofs.YtkccjglmnhgabaaGreatDoor
namespace Go.Proofs.YtkccjglmnhgabaaGreatDoor
open Go Go.Fx
def kK (A : Mt) (R C : Nat) : Prop := A.length = R ∧ ∀ i, i < R → (rowAt A i).length = C
theorem rowAt_set {A : Mt} {i a : Nat} {l : List Rat} (hi : i < A.length) : rowAt (A.set i l) a = if a = i then l else rowAt A a := by
 unfold rowAt
 simp only [List.getD, List.getElem?_set]
 by_cases e : a = i
 ·subst e; simp [hi]
 ·have e' : ¬ i = a := fun h => e h.symm
  simp [e, e']
theorem aCM {A : Mt} {a : Nat} {f : Nat → List Rat → List Rat} (h : a < A.length) : rowAt (A.mapIdx f) a = f a (rowAt A a) := by
 simp [rowAt, List.getD, h]
theorem pE {A : Mt} {R C r k a : Nat} (h : kK A R C) (hr : r < R) (hk : k < R) : rowAt (swp A r k) a = rowAt A (tr r k a) := by
 unfold swp
 rw [rowAt_set (by rw [List.length_set, h.1]; exact hk), rowAt_set (by rw [h.1]; exact hr)]
 simp only [tr]
 by_cases e1 : a = k
 ·subst e1
  rw [if_pos rfl]
  by_cases e2 : a = r
  ·rw [if_pos e2, e2]
  ·rw [if_neg e2, if_pos rfl]
 ·rw [if_neg e1, if_neg e1]
  by_cases e2 : a = r
  ·rw [if_pos e2, if_pos e2]
  ·rw [if_neg e2, if_neg e2]
theorem aDR {A : Mt} {R C r k : Nat} (h : kK A R C) (hr : r < R) (hk : k < R) : kK (swp A r k) R C :=
 ⟨by unfold swp; rw [List.length_set, List.length_set]; exact h.1, fun i hi => by rw [pE h hr hk]; exact h.2 _ (xB hr hk hi)⟩
theorem qB {l : List Rat} {f : Nat → Rat → Rat} {c : Nat} (h : c < l.length) : (l.mapIdx f).getD c 0 = f c (l.getD c 0) := by
 simp [List.getD, h]
theorem aAB {B : Mt} {r j a : Nat} {pr : List Rat} (h : a < B.length) : rowAt (uP B r j pr) a = if a = r then rowAt B a else if (rowAt B a).getD j 0 = 0 then rowAt B a else kE j ((rowAt B a).getD j 0) pr (rowAt B a) := by
 unfold uP
 rw [aCM h]
theorem aOI {A : Mt} {R C r j x : Nat} (h : kK A R C) (hr : r < R) (hx : x < R) : kK (sP A r j x) R C := by
 have hs := aDR (r := r) (k := x) h hr hx
 unfold sP
 refine ⟨by unfold uP; rw [List.length_mapIdx, List.length_set]; exact hs.1, fun i hi => ?_⟩
 have hb : rowAt ((swp A r x).set r (jB j (1 / at2 (swp A r x) r j) (rowAt (swp A r x) r))) i = if i = r then jB j (1 / at2 (swp A r x) r j) (rowAt (swp A r x) r) else rowAt (swp A r x) i := rowAt_set (by rw [hs.1]; exact hr)
 rw [aAB (by rw [List.length_set, hs.1]; exact hi), hb]
 by_cases e : i = r
 ·rw [if_pos e, if_pos e]; simp only [jB, List.length_mapIdx]; exact hs.2 r hr
 ·rw [if_neg e, if_neg e]
  split
  ·exact hs.2 i hi
  ·simp only [kE, List.length_mapIdx]; exact hs.2 i hi
theorem aFT {A : Mt} {R C r j x : Nat} (h : kK A R C) (hr : r < R) (hx : x < R) (hj : j < C) (hz : ∀ b, b < j → at2 A x b = 0) : ∀ a b, a < R → b < C →
  at2 (sP A r j x) a b = elm r x (1 / at2 A x j) (fun a => at2 A (tr r x a) j) (at2 A) a b := by
 intro a b ha hb
 have hs := aDR (r := r) (k := x) h hr hx
 have hat : ∀ i c, at2 (swp A r x) i c = at2 A (tr r x i) c := fun i c => by unfold at2; rw [pE h hr hx]
 have htr : tr r x r = x := by simp [tr]
 have hrow : (rowAt (swp A r x) r) = rowAt A x := by rw [pE h hr hx, htr]
 have hκ : at2 (swp A r x) r j = at2 A x j := by rw [hat, htr]
 obtain ⟨κ, hk⟩ : ∃ κ, κ = 1 / at2 A x j := ⟨_, rfl⟩
 rw [← hk]
 have hpr : ∀ c, c < C → (jB j κ (rowAt A x)).getD c 0 = κ * at2 A x c := fun c hc => by
  unfold jB
  rw [qB (by rw [h.2 x hx]; exact hc)]
  by_cases e : c < j
  ·rw [if_pos e]
   have := hz c e
   rw [this]
   unfold at2 at this
   rw [this]; grind
  ·rw [if_neg e]; rfl
 have e1 : at2 (sP A r j x) a b = (rowAt (sP A r j x) a).getD b 0 := rfl
 rw [e1]
 unfold sP
 rw [hκ, hrow, ← hk]
 have hbb : rowAt ((swp A r x).set r (jB j κ (rowAt A x))) a = if a = r then jB j κ (rowAt A x) else rowAt (swp A r x) a := rowAt_set (by rw [hs.1]; exact hr)
 rw [aAB (by rw [List.length_set, hs.1]; exact ha), hbb]
 simp only [elm, htr]
 by_cases e : a = r
 ·rw [if_pos e, if_pos e, if_pos e]; exact hpr b hb
 ·rw [if_neg e, if_neg e, if_neg e, pE h hr hx]
  have hc : (rowAt A (tr r x a)).getD j 0 = at2 A (tr r x a) j := rfl
  rw [hc]
  by_cases e0 : at2 A (tr r x a) j = 0
  ·rw [if_pos e0, e0]
   show at2 A (tr r x a) b = _
   grind
  ·rw [if_neg e0]
   unfold kE
   rw [qB (by rw [h.2 _ (xB hr hx ha)]; exact hb)]
   show (if b < j then at2 A (tr r x a) b else at2 A (tr r x a) b - _) = _
   by_cases ej : b < j
   ·rw [if_pos ej, hz b ej]; grind
   ·rw [if_neg ej, hpr b hb]
theorem vP {A : Mt} {j : Nat} : ∀ (f k : Nat), k + f = A.length → ∀ i, k ≤ i → i < lG A j f k → at2 A i j = 0
 | 0, k, _, i, h1, h2 => by simp [lG] at h2; omega
 | f + 1, k, h, i, h1, h2 => by
  unfold lG at h2
  by_cases hc : k < A.length ∧ at2 A k j = 0
  ·rw [if_pos hc] at h2
   by_cases e : i = k
   ·subst e; exact hc.2
   ·exact vP f (k + 1) (by omega) i (by omega) h2
  ·rw [if_neg hc] at h2; omega
theorem kT {A : Mt} {R C : Nat} (h : kK A R C) : ∀ n, n ≤ C → kK (mE A n).1 R C ∧ ∃ s, Red R C n (at2 A) (at2 (mE A n).1) (mE A n).2 s
 | 0, _ => ⟨h, 1, Red.start⟩
 | n + 1, hn => by
  obtain ⟨hd, s, hr⟩ := kT h n (by omega)
  rw [rF]
  generalize mE A n = st at hd hr
  obtain ⟨B, pv⟩ := st
  simp only at hd hr
  have hlen := hr.len
  obtain ⟨f1, f2, f3⟩ := vX (A := B) (j := n) (B.length - pv.length) pv.length (by rw [hd.1]; omega)
  have f4 := vP (A := B) (j := n) (B.length - pv.length) pv.length (by rw [hd.1]; omega)
  unfold aIL
  simp only
  generalize lG B n (B.length - pv.length) pv.length = x at f1 f2 f3 f4
  by_cases hx : x < B.length
  ·rw [if_pos hx]
   rw [hd.1] at hx
   refine ⟨aOI hd (by omega) hx, _, hr.step (x := x) (by omega) f1 hx (f3 (by rw [hd.1]; exact hx)) (aFT hd (by omega) hx (by omega) (fun b hb => hr.zero x b f1 hx hb))⟩
  ·rw [if_neg hx]
   exact ⟨hd, s, hr.none (fun i h1 h2 => f4 i h1 (by rw [hd.1] at hx; omega))⟩
end Go.Proofs.YtkccjglmnhgabaaGreatDoor
namespace Go.Proofs.YtkccjglmnhgabaaGreatDoor
open Go Go.Fx
def sZ (pv : List Nat) (z : Nat → Rat) : Nat → Rat := fun j => if j ∈ pv then 0 else z j
theorem nR {pv : List Nat} {i : Nat} (h : i < pv.length) : pv.getD i 0 = pv[i] := by simp [List.getD, h]
theorem kH {pv : List Nat} {j : Nat} : j ∈ pv ↔ ∃ t, t < pv.length ∧ pv.getD t 0 = j := by
 rw [List.mem_iff_getElem]
 constructor
 ·rintro ⟨t, ht, e⟩; exact ⟨t, ht, by simp [List.getD, ht, e]⟩
 ·rintro ⟨t, ht, e⟩; exact ⟨t, ht, by simpa [List.getD, ht] using e⟩
theorem Red.piv_lt {R C j : Nat} {f0 f : Nat → Nat → Rat} {pv : List Nat} {s : Rat} (h : Red R C j f0 f pv s) {t : Nat} (ht : t < pv.length) : pv.getD t 0 < j := (h.inc t ht).1
theorem Red.piv_inj {R C j : Nat} {f0 f : Nat → Nat → Rat} {pv : List Nat} {s : Rat} (h : Red R C j f0 f pv s) {t u : Nat} (ht : t < pv.length) (hu : u < pv.length) (e : pv.getD t 0 = pv.getD u 0) : t = u := by
 rcases Nat.lt_trichotomy t u with l | l | l
 ·have := (h.inc u hu).2.2 t l; omega
 ·exact l
 ·have := (h.inc t ht).2.2 u l; omega
theorem Red.row {R C : Nat} {f0 f : Nat → Nat → Rat} {pv : List Nat} {s : Rat} (h : Red R C C f0 f pv s) {t : Nat} (ht : t < pv.length) (z : Nat → Rat) : sm C (fun j => f t j * z j) = z (pv.getD t 0) + sm C (fun j => f t j * sZ pv z j) := by
 have hR := h.len
 have h1 : sm C (fun j => f t j * z j) = sm C (fun j => (f t j * z j - f t j * sZ pv z j) + f t j * sZ pv z j) := bI (fun j _ => by grind)
 rw [h1, aHL]
 congr 1
 rw [rW (p := pv.getD t 0) (h.piv_lt ht) (fun j hj hne => ?_)]
 ·have hm : pv.getD t 0 ∈ pv := kH.2 ⟨t, ht, rfl⟩
  rw [h.unit t t ht (by omega)]
  simp only [sZ, if_pos hm, dlt, if_true]; grind
 ·by_cases hm : j ∈ pv
  ·obtain ⟨u, hu, rfl⟩ := kH.1 hm
   have : t ≠ u := fun e => hne (by rw [e])
   rw [h.unit u t hu (by omega)]
   simp only [dlt, if_neg this]; grind
  ·simp only [sZ, if_neg hm]; grind
theorem Red.kerE {R C : Nat} {f0 f : Nat → Nat → Rat} {pv : List Nat} {s : Rat} (h : Red R C C f0 f pv s) (z : Nat → Rat) : Go.Proofs.YtkccjglmnhgabaaGreatDoor.ker R C f0 z ↔ ∀ t, t < pv.length → z (pv.getD t 0) + sm C (fun j => f t j * sZ pv z j) = 0 := by
 rw [← h.ker z]
 constructor
 ·intro hk t ht
  rw [← h.row ht z]; exact hk t (by have := h.len; omega)
 ·intro hk i hi
  by_cases e : i < pv.length
  ·rw [h.row e z]; exact hk i e
  ·exact mK (fun j hj => by rw [h.zero i j (by omega) hi hj]; grind)
theorem hom {m n : Nat} (g : Nat → Nat → Rat) (hmn : m < n) : ∃ w : Nat → Rat, (∀ e, e < m → sm n (fun u => g e u * w u) = 0) ∧ ∃ u, u < n ∧ w u ≠ 0 := by
 obtain ⟨_, s, h⟩ := kT (A := (List.range m).map (fun i => (List.range n).map (g i))) (R := m) (C := n) ⟨by simp, fun i hi => by simp [rowAt, List.getD, hi]⟩ n (Nat.le_refl _)
 generalize mE ((List.range m).map (fun i => (List.range n).map (g i))) n = st at h
 obtain ⟨E, pv⟩ := st
 simp only at h
 have hg : ∀ i j, i < m → j < n → at2 ((List.range m).map (fun i => (List.range n).map (g i))) i j = g i j := fun i j hi hj => by simp [at2, rowAt, List.getD, hi, hj]
 have hlen := h.len
 -- a free place
 have hfree : ∃ j, j < n ∧ j ∉ pv := by
  refine Classical.byContradiction (fun hno => ?_)
  have hall : ∀ j, j < n → j ∈ pv := fun j hj => Classical.byContradiction (fun hn => hno ⟨j, hj, hn⟩)
  have : (List.range n).length ≤ pv.length := by
   have hsub : ∀ x ∈ List.range n, x ∈ pv := fun x hx => hall x (List.mem_range.1 hx)
   exact List.Nodup.length_le_of_subset List.nodup_range hsub
  simp at this; omega
 obtain ⟨j, hj, hjp⟩ := hfree
 refine ⟨fun c => if c ∈ pv then - at2 E (pv.idxOf c) j else if c = j then 1 else 0, ?_, j, hj, by simp only [if_neg hjp, if_true]; decide⟩
 have hk : ker m n (at2 ((List.range m).map (fun i => (List.range n).map (g i)))) (fun c => if c ∈ pv then - at2 E (pv.idxOf c) j else if c = j then 1 else 0) := by
  rw [h.kerE]
  intro t ht
  have hm : pv.getD t 0 ∈ pv := kH.2 ⟨t, ht, rfl⟩
  have hidx : pv.idxOf (pv.getD t 0) = t := by
   have h1 : pv.idxOf (pv.getD t 0) < pv.length := List.idxOf_lt_length_of_mem hm
   refine h.piv_inj h1 ht ?_
   have := List.getElem_idxOf h1
   exact (nR h1).trans this
  simp only [if_pos hm, hidx]
  rw [rW (p := j) hj (fun c hc hne => ?_)]
  ·simp only [sZ, if_neg hjp, if_true]; grind
  ·simp only [sZ]
   by_cases e : c ∈ pv
   ·rw [if_pos e]; grind
   ·rw [if_neg e, if_neg e, if_neg hne]; grind
 intro e he
 refine Eq.trans (bI (fun u hu => ?_)) (hk e he)
 rw [hg e u he hu]
theorem aRY {R C n : Nat} {f : Nat → Nat → Rat} {Z : Nat → Nat → Rat} {d : Nat → Rat} (h : ∀ i, i < n → ker R C f (Z i)) : ker R C f (fun j => sm n (fun i => d i * Z i j)) := fun t ht => by
 have h1 : sm C (fun j => f t j * sm n (fun i => d i * Z i j)) = sm C (fun j => sm n (fun i => d i * (f t j * Z i j))) := bI (fun j _ => by rw [← kS]; exact bI (fun i _ => by grind))
 rw [h1, uI]
 exact mK (fun i hi => by rw [kS, h i hi t ht]; grind)
theorem aSH {R C : Nat} {f : Nat → Nat → Rat} {x y : Nat → Rat} {c d : Rat} (hx : ker R C f x) (hy : ker R C f y) : ker R C f (fun j => c * x j + d * y j) := fun t ht => by
 have : ∀ j, f t j * (c * x j + d * y j) = c * (f t j * x j) + d * (f t j * y j) := fun j => by grind
 simp only [this]
 rw [yD, hx t ht, hy t ht]; grind
theorem Red.count {R C m k : Nat} {f0 f : Nat → Nat → Rat} {pv : List Nat} {s : Rat} (h : Red R C C f0 f pv s) (g : Nat → Nat → Rat) (Z : Nat → Nat → Rat)
  (hg : ∀ z, Go.Proofs.YtkccjglmnhgabaaGreatDoor.ker m C g z → Go.Proofs.YtkccjglmnhgabaaGreatDoor.ker R C f0 z) (hZ : ∀ i, i < k → Go.Proofs.YtkccjglmnhgabaaGreatDoor.ker R C f0 (Z i))
  (hi : ∀ d : Nat → Rat, Go.Proofs.YtkccjglmnhgabaaGreatDoor.ker m C g (fun j => sm k (fun i => d i * Z i j)) → ∀ i, i < k → d i = 0) : pv.length + k ≤ m := by
 refine Classical.byContradiction (fun hlt => ?_)
 obtain ⟨p, hp⟩ : ∃ p, p = pv.length := ⟨_, rfl⟩
 rw [← hp] at hlt
 obtain ⟨w, hw, u, hu, hwu⟩ := hom (m := m) (n := p + k) (fun e u => if u < p then g e (pv.getD u 0) else sm C (fun j => g e j * Z (u - p) j)) (by omega)
 -- the vector
 obtain ⟨x, hx⟩ : ∃ x : Nat → Rat, x = fun j => sm p (fun t => w t * dlt (pv.getD t 0) j) := ⟨_, rfl⟩
 obtain ⟨y, hy⟩ : ∃ y : Nat → Rat, y = fun j => sm k (fun i => w (p + i) * Z i j) := ⟨_, rfl⟩
 have kx : ∀ e, sm C (fun j => g e j * x j) = sm p (fun t => g e (pv.getD t 0) * w t) := fun e => by
  have h1 : sm C (fun j => g e j * x j) = sm C (fun j => sm p (fun t => w t * (g e j * dlt (pv.getD t 0) j))) := bI (fun j _ => by rw [hx, ← kS]; exact bI (fun i _ => by grind))
  rw [h1, uI]
  refine bI (fun t ht => ?_)
  rw [kS, rW (p := pv.getD t 0) (h.piv_lt (by omega)) (fun j _ hne => by simp only [dlt]; rw [if_neg (fun e => hne e.symm)]; grind)]
  simp only [dlt, if_true]; grind
 have ky : ∀ e, sm C (fun j => g e j * y j) = sm k (fun i => sm C (fun j => g e j * Z i j) * w (p + i)) := fun e => by
  have h1 : sm C (fun j => g e j * y j) = sm C (fun j => sm k (fun i => w (p + i) * (g e j * Z i j))) := bI (fun j _ => by rw [hy, ← kS]; exact bI (fun i _ => by grind))
  rw [h1, uI]
  exact bI (fun i _ => by rw [kS]; grind)
 have kg : Go.Proofs.YtkccjglmnhgabaaGreatDoor.ker m C g (fun j => 1 * x j + 1 * y j) := fun e he => by
  have : ∀ j, g e j * (1 * x j + 1 * y j) = 1 * (g e j * x j) + 1 * (g e j * y j) := fun j => by grind
  simp only [this]
  rw [yD, kx, ky]
  have := hw e he
  rw [aNZ, bI (n := p) (g := fun t => g e (pv.getD t 0) * w t) (fun t ht => by rw [if_pos ht]), bI (n := k) (g := fun i => sm C (fun j => g e j * Z i j) * w (p + i)) (fun t _ => by rw [if_neg (by omega), Nat.add_sub_cancel_left])] at this
  grind
 have ky0 : Go.Proofs.YtkccjglmnhgabaaGreatDoor.ker R C f0 y := by rw [hy]; exact aRY (d := fun i => w (p + i)) hZ
 have kx0 : Go.Proofs.YtkccjglmnhgabaaGreatDoor.ker R C f0 x := by
  have h1 := aSH (c := 1) (d := -1) (hg _ kg) ky0
  have e : (fun j => 1 * (1 * x j + 1 * y j) + -1 * y j) = x := by funext j; grind
  rwa [e] at h1
 have hx0 : ∀ t, t < p → x (pv.getD t 0) = w t := fun t ht => by
  rw [hx]
  show sm p (fun u => w u * dlt (pv.getD u 0) (pv.getD t 0)) = _
  rw [rW (p := t) ht (fun u hu hne => by simp only [dlt]; rw [if_neg (fun e => hne (h.piv_inj (by omega) (by omega) e))]; grind)]
  simp only [dlt, if_true]; grind
 have hoff : ∀ j, sZ pv x j = 0 := fun j => by
  unfold sZ
  by_cases e : j ∈ pv
  ·rw [if_pos e]
  ·rw [if_neg e, hx]
   exact mK (fun t ht => by simp only [dlt]; rw [if_neg (fun e' => e (kH.2 ⟨t, by omega, e'⟩))]; grind)
 have hw0 : ∀ t, t < p → w t = 0 := fun t ht => by
  have := (h.kerE x).1 kx0 t (by omega)
  rw [hx0 t ht, mK (fun j _ => by rw [hoff j]; grind)] at this
  grind
 have hxz : ∀ j, x j = 0 := fun j => by rw [hx]; exact mK (fun t ht => by rw [hw0 t ht]; grind)
 have kgy : Go.Proofs.YtkccjglmnhgabaaGreatDoor.ker m C g (fun j => sm k (fun i => w (p + i) * Z i j)) := by
  have e : (fun j => 1 * x j + 1 * y j) = (fun j => sm k (fun i => w (p + i) * Z i j)) := by funext j; rw [hxz j, hy]; grind
  rwa [e] at kg
 have hd := hi (fun i => w (p + i)) kgy
 by_cases e : u < p
 ·exact hwu (hw0 u e)
 ·have := hd (u - p) (by omega)
  rw [show p + (u - p) = u by omega] at this
  exact hwu this
theorem Red.kerP {R C : Nat} {f0 f : Nat → Nat → Rat} {pv : List Nat} {s : Rat} (h : Red R C C f0 f pv s) (z : Nat → Rat) : Go.Proofs.YtkccjglmnhgabaaGreatDoor.ker pv.length C f z ↔ Go.Proofs.YtkccjglmnhgabaaGreatDoor.ker R C f0 z := by
 rw [h.kerE]
 constructor
 ·intro hk t ht; rw [← h.row ht z]; exact hk t ht
 ·intro hk t ht; rw [h.row ht z]; exact hk t ht
section
variable {R C R' : Nat} {f0 f g0 g : Nat → Nat → Rat} {pv qv : List Nat} {s s' : Rat}
theorem Red.le (h : Red R C C f0 f pv s) (h' : Red R' C C g0 g qv s') (hk : ∀ z, Go.Proofs.YtkccjglmnhgabaaGreatDoor.ker R' C g0 z → Go.Proofs.YtkccjglmnhgabaaGreatDoor.ker R C f0 z) : pv.length ≤ qv.length := by
 have := h.count (k := 0) g (fun _ _ => 0) (fun z hz => hk z ((h'.kerP z).1 hz)) (fun i hi => by omega) (fun d _ i hi => by omega)
 omega
end
end Go.Proofs.YtkccjglmnhgabaaGreatDoor
namespace Go.Proofs.YtkccjglmnhgabaaGreatDoor
open Go Go.Fx
def nI (f : Nat → Nat → Rat) (pv : List Nat) (j c : Nat) : Rat := if c ∈ pv then - f (pv.idxOf c) j else if c = j then 1 else 0
def pO (pv : List Nat) (C : Nat) : List Nat := (List.range C).filter (fun j => decide (j ∉ pv))
def zQ (E : Mt) (pv : List Nat) (C j : Nat) : List Rat := (List.range C).map (nI (at2 E) pv j)
def aNF (E : Mt) (pv : List Nat) (C : Nat) : Mt := (pO pv C).map (zQ E pv C)
def aCE (A : Mt) (C : Nat) : Mt := aNF (mE A C).1 (mE A C).2 C
def rk (A : Mt) (C : Nat) : Nat := (mE A C).2.length
theorem aQW {E : Mt} {pv : List Nat} {C j c : Nat} (h : c < C) : (zQ E pv C j).getD c 0 = nI (at2 E) pv j c := by simp [zQ, List.getD, h]
theorem Red.idx {R C j : Nat} {f0 f : Nat → Nat → Rat} {pv : List Nat} {s : Rat} (h : Red R C j f0 f pv s) {t : Nat} (ht : t < pv.length) : pv.idxOf (pv.getD t 0) = t := by
 have hm : pv.getD t 0 ∈ pv := kH.2 ⟨t, ht, rfl⟩
 have h1 : pv.idxOf (pv.getD t 0) < pv.length := List.idxOf_lt_length_of_mem hm
 exact h.piv_inj h1 ht ((nR h1).trans (List.getElem_idxOf h1))
theorem Red.idx_lt {pv : List Nat} {c : Nat} (hm : c ∈ pv) : pv.idxOf c < pv.length ∧ pv.getD (pv.idxOf c) 0 = c := by
 have h1 : pv.idxOf c < pv.length := List.idxOf_lt_length_of_mem hm
 exact ⟨h1, (nR h1).trans (List.getElem_idxOf h1)⟩
section
variable {R C : Nat} {f0 f : Nat → Nat → Rat} {pv : List Nat} {s : Rat}
theorem Red.null (h : Red R C C f0 f pv s) {j : Nat} (hj : j < C) (hp : j ∉ pv) : Go.Proofs.YtkccjglmnhgabaaGreatDoor.ker R C f0 (nI f pv j) := by
 rw [h.kerE]
 intro t ht
 have hm : pv.getD t 0 ∈ pv := kH.2 ⟨t, ht, rfl⟩
 simp only [nI, if_pos hm, h.idx ht]
 rw [rW (p := j) hj (fun c hc hne => ?_)]
 ·simp only [sZ, nI, if_neg hp, if_true]; grind
 ·simp only [sZ, nI]
  by_cases e : c ∈ pv
  ·rw [if_pos e]; grind
  ·rw [if_neg e, if_neg e, if_neg hne]; grind
theorem Red.span (h : Red R C C f0 f pv s) {z : Nat → Rat} (hz : Go.Proofs.YtkccjglmnhgabaaGreatDoor.ker R C f0 z) {c : Nat} (hc : c < C) : z c = sm C (fun j => sZ pv z j * nI f pv j c) := by
 by_cases hm : c ∈ pv
 ·obtain ⟨h1, h2⟩ := Red.idx_lt hm
  have := (h.kerE z).1 hz _ h1
  rw [h2] at this
  have e : sm C (fun j => sZ pv z j * nI f pv j c) = sm C (fun j => (-1 : Rat) * (f (pv.idxOf c) j * sZ pv z j)) := bI (fun j _ => by simp only [nI, if_pos hm]; grind)
  rw [e, kS]; grind
 ·rw [rW (p := c) hc (fun j _ hne => by simp only [nI, if_neg hm, if_neg (show ¬ c = j from fun e => hne e.symm)]; grind)]
  simp only [sZ, nI, if_neg hm, if_true]; grind
theorem Red.nodup (h : Red R C C f0 f pv s) : pv.Nodup := by
 rw [List.nodup_iff_pairwise_ne, List.pairwise_iff_getElem]
 intro i j hi hj hij e
 have := h.piv_inj (t := i) (u := j) hi hj (by rw [nR hi, nR hj]; exact e)
 omega
theorem aAS (p : Nat → Bool) : ∀ l : List Nat, (l.filter p).length + (l.filter (fun x => !p x)).length = l.length
 | [] => rfl
 | x :: l => by
  have ih := aAS p l
  rw [List.filter_cons, List.filter_cons, List.length_cons]
  cases p x <;> simp <;> omega
theorem Red.free_len (h : Red R C C f0 f pv s) : (pO pv C).length + pv.length = C := by
 have h1 : ((List.range C).filter (fun j => decide (j ∉ pv))).length + ((List.range C).filter (fun j => !decide (j ∉ pv))).length = C := by
  have := aAS (fun j => decide (j ∉ pv)) (List.range C)
  rw [List.length_range] at this; omega
 have h2 : ((List.range C).filter (fun j => !decide (j ∉ pv))).length = pv.length := by
  apply Nat.le_antisymm
  ·refine List.Nodup.length_le_of_subset (List.Pairwise.filter _ List.nodup_range) (fun x hx => ?_)
   have := (List.mem_filter.1 hx).2
   simpa using this
  ·refine List.Nodup.length_le_of_subset h.nodup (fun x hx => ?_)
   obtain ⟨t, ht, rfl⟩ := kH.1 hx
   refine List.mem_filter.2 ⟨List.mem_range.2 (h.piv_lt ht), by simpa using hx⟩
 unfold pO
 omega
theorem aFC {pv : List Nat} {C j : Nat} : j ∈ pO pv C ↔ j < C ∧ j ∉ pv := by
 unfold pO
 rw [List.mem_filter, List.mem_range]
 simp
end
/- systems: the right side is the column C of a wider matrix -/
section
variable {R C W : Nat} {f0 f : Nat → Nat → Rat} {pv : List Nat} {s : Rat}
def solF (f : Nat → Nat → Rat) (pv : List Nat) (C c : Nat) : Rat := if c ∈ pv then f (pv.idxOf c) C else 0
def solOk (R C : Nat) (f : Nat → Nat → Rat) (pv : List Nat) : Prop := ∀ i, pv.length ≤ i → i < R → f i C = 0
def ext1 (C : Nat) (x : Nat → Rat) (y : Rat) : Nat → Rat := fun j => if j < C then x j else if j = C then y else 0
end
end Go.Proofs.YtkccjglmnhgabaaGreatDoor

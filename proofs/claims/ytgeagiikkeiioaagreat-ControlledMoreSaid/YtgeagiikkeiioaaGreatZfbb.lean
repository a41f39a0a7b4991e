/- Kernels and systems, plain: the canonical basis of the kernel, what it spans; when a system has a solution, and which one is returned. matrix: Echelon, Rank, Null. The document's minor and determinant. Matrices that the document builds and then writes into: rows with room behind them. The document's unit matrix, copy, sum, product, transposed matrix. The document's Echelon, Rank. The document's Null. -/
import Derived.Test.YtgeagiikkeiioaaGreatZfba
import Derived.Test.YtgeagiikkeiioaaGreatZfav
import Derived.Test.YtgeagiikkeiioaaGreatZfaz
import Derived.Test.YtgeagiikkeiioaaGreatZfau
set_option linter.unusedSimpArgs false
set_option linter.unusedVariables false
set_option maxRecDepth 100000
set_option maxHeartbeats 4000000
namespace Go.Proofs.YtgeagiikkeiioaaGreat
open Go Go.Fx
def nO (f : Nat → Nat → Rat) (pv : List Nat) (j c : Nat) : Rat := if c ∈ pv then - f (pv.idxOf c) j else if c = j then 1 else 0
def qO (pv : List Nat) (C : Nat) : List Nat := (List.range C).filter (fun j => decide (j ∉ pv))
def rO (E : Mt) (pv : List Nat) (C j : Nat) : List Rat := (List.range C).map (nO (at2 E) pv j)
def aNN (E : Mt) (pv : List Nat) (C : Nat) : Mt := (qO pv C).map (rO E pv C)
def xM (A : Mt) (C : Nat) : Mt := aNN (jV A C).1 (jV A C).2 C
def rk (A : Mt) (C : Nat) : Nat := (jV A C).2.length
theorem aEO {E : Mt} {pv : List Nat} {C j c : Nat} (h : c < C) : (rO E pv C j).getD c 0 = nO (at2 E) pv j c := by simp [rO, List.getD, h]
theorem Red.idx {R C j : Nat} {f0 f : Nat → Nat → Rat} {pv : List Nat} {s : Rat} (h : Red R C j f0 f pv s) {t : Nat} (ht : t < pv.length) : pv.idxOf (pv.getD t 0) = t := by
 have hm : pv.getD t 0 ∈ pv := jW.2 ⟨t, ht, rfl⟩
 have h1 : pv.idxOf (pv.getD t 0) < pv.length := List.idxOf_lt_length_of_mem hm
 exact h.piv_inj h1 ht ((mO h1).trans (List.getElem_idxOf h1))
theorem Red.idx_lt {pv : List Nat} {c : Nat} (hm : c ∈ pv) : pv.idxOf c < pv.length ∧ pv.getD (pv.idxOf c) 0 = c := by
 have h1 : pv.idxOf c < pv.length := List.idxOf_lt_length_of_mem hm
 exact ⟨h1, (mO h1).trans (List.getElem_idxOf h1)⟩
section
variable {R C : Nat} {f0 f : Nat → Nat → Rat} {pv : List Nat} {s : Rat}
theorem Red.null (h : Red R C C f0 f pv s) {j : Nat} (hj : j < C) (hp : j ∉ pv) : Go.Proofs.YtgeagiikkeiioaaGreat.ker R C f0 (nO f pv j) := by
 rw [h.kerE]
 intro t ht
 have hm : pv.getD t 0 ∈ pv := jW.2 ⟨t, ht, rfl⟩
 simp only [nO, if_pos hm, h.idx ht]
 rw [rT (p := j) hj (fun c hc hne => ?_)]
 ·simp only [nS, nO, if_neg hp, if_true]; grind
 ·simp only [nS, nO]
  by_cases e : c ∈ pv
  ·rw [if_pos e]; grind
  ·rw [if_neg e, if_neg e, if_neg hne]; grind
theorem Red.span (h : Red R C C f0 f pv s) {z : Nat → Rat} (hz : Go.Proofs.YtgeagiikkeiioaaGreat.ker R C f0 z) {c : Nat} (hc : c < C) : z c = sm C (fun j => nS pv z j * nO f pv j c) := by
 by_cases hm : c ∈ pv
 ·obtain ⟨h1, h2⟩ := Red.idx_lt hm
  have := (h.kerE z).1 hz _ h1
  rw [h2] at this
  have e : sm C (fun j => nS pv z j * nO f pv j c) = sm C (fun j => (-1 : Rat) * (f (pv.idxOf c) j * nS pv z j)) := bM (fun j _ => by simp only [nO, if_pos hm]; grind)
  rw [e, kT]; grind
 ·rw [rT (p := c) hc (fun j _ hne => by simp only [nO, if_neg hm, if_neg (show ¬ c = j from fun e => hne e.symm)]; grind)]
  simp only [nS, nO, if_neg hm, if_true]; grind
theorem Red.sub (h : Red R C C f0 f pv s) {R' : Nat} {g : Nat → Nat → Rat} (hb : ∀ j, j < C → j ∉ pv → Go.Proofs.YtgeagiikkeiioaaGreat.ker R' C g (nO f pv j)) : ∀ z, Go.Proofs.YtgeagiikkeiioaaGreat.ker R C f0 z → Go.Proofs.YtgeagiikkeiioaaGreat.ker R' C g z := by
 intro z hz t ht
 have h1 : sm C (fun c => g t c * z c) = sm C (fun c => sm C (fun j => nS pv z j * (g t c * nO f pv j c))) := bM (fun c hc => by
  rw [h.span hz hc, ← kT]; exact bM (fun j _ => by grind))
 rw [h1, vY]
 refine kL (fun j hj => ?_)
 rw [kT]
 by_cases hp : j ∈ pv
 ·simp only [nS, if_pos hp]; grind
 ·rw [hb j hj hp t ht]; grind
theorem Red.nodup (h : Red R C C f0 f pv s) : pv.Nodup := by
 rw [List.nodup_iff_pairwise_ne, List.pairwise_iff_getElem]
 intro i j hi hj hij e
 have := h.piv_inj (t := i) (u := j) hi hj (by rw [mO hi, mO hj]; exact e)
 omega
theorem zH (p : Nat → Bool) : ∀ l : List Nat, (l.filter p).length + (l.filter (fun x => !p x)).length = l.length
 | [] => rfl
 | x :: l => by
  have ih := zH p l
  rw [List.filter_cons, List.filter_cons, List.length_cons]
  cases p x <;> simp <;> omega
theorem Red.free_len (h : Red R C C f0 f pv s) : (qO pv C).length + pv.length = C := by
 have h1 : ((List.range C).filter (fun j => decide (j ∉ pv))).length + ((List.range C).filter (fun j => !decide (j ∉ pv))).length = C := by
  have := zH (fun j => decide (j ∉ pv)) (List.range C)
  rw [List.length_range] at this; omega
 have h2 : ((List.range C).filter (fun j => !decide (j ∉ pv))).length = pv.length := by
  apply Nat.le_antisymm
  ·refine List.Nodup.length_le_of_subset (List.Pairwise.filter _ List.nodup_range) (fun x hx => ?_)
   have := (List.mem_filter.1 hx).2
   simpa using this
  ·refine List.Nodup.length_le_of_subset h.nodup (fun x hx => ?_)
   obtain ⟨t, ht, rfl⟩ := jW.1 hx
   refine List.mem_filter.2 ⟨List.mem_range.2 (h.piv_lt ht), by simpa using hx⟩
 unfold qO
 omega
theorem aEZ {pv : List Nat} {C j : Nat} : j ∈ qO pv C ↔ j < C ∧ j ∉ pv := by
 unfold qO
 rw [List.mem_filter, List.mem_range]
 simp
end
/- systems: the right side is the column C of a wider matrix -/
section
variable {R C W : Nat} {f0 f : Nat → Nat → Rat} {pv : List Nat} {s : Rat}
def aEA (f : Nat → Nat → Rat) (pv : List Nat) (C c : Nat) : Rat := if c ∈ pv then f (pv.idxOf c) C else 0
def aLW (R C : Nat) (f : Nat → Nat → Rat) (pv : List Nat) : Prop := ∀ i, pv.length ≤ i → i < R → f i C = 0
def aDU (C : Nat) (x : Nat → Rat) (y : Rat) : Nat → Rat := fun j => if j < C then x j else if j = C then y else 0
theorem yE {C W : Nat} (hW : C < W) {g x : Nat → Rat} {y : Rat} : sm W (fun j => g j * aDU C x y j) = sm C (fun j => g j * x j) + g C * y := by
 obtain ⟨d, rfl⟩ : ∃ d, W = C + 1 + d := ⟨W - (C + 1), by omega⟩
 rw [aFE]
 have h1 : sm (C + 1) (fun j => g j * aDU C x y j) = sm C (fun j => g j * x j) + g C * y := by
  simp only [sm]
  rw [bM (n := C) (g := fun j => g j * x j) (fun j hj => by simp only [aDU, if_pos hj])]
  simp only [aDU, Nat.lt_irrefl, if_false, if_true]
 have h2 : sm d (fun k => g (C + 1 + k) * aDU C x y (C + 1 + k)) = 0 := kL (fun k _ => by
  simp only [aDU, if_neg (show ¬ C + 1 + k < C by omega), if_neg (show ¬ C + 1 + k = C by omega)]; grind)
 rw [h1, h2]; grind
theorem Red.rowC (h : Red R W C f0 f pv s) {t : Nat} (ht : t < pv.length) (x : Nat → Rat) : sm C (fun j => f t j * x j) = x (pv.getD t 0) + sm C (fun j => f t j * nS pv x j) := by
 have hR := h.len
 have h1 : sm C (fun j => f t j * x j) = sm C (fun j => (f t j * x j - f t j * nS pv x j) + f t j * nS pv x j) := bM (fun j _ => by grind)
 rw [h1, aDG]
 congr 1
 rw [rT (p := pv.getD t 0) (h.piv_lt ht) (fun j hj hne => ?_)]
 ·have hm : pv.getD t 0 ∈ pv := jW.2 ⟨t, ht, rfl⟩
  rw [h.unit t t ht (by omega)]
  simp only [nS, if_pos hm, tY, if_true]; grind
 ·by_cases hm : j ∈ pv
  ·obtain ⟨u, hu, rfl⟩ := jW.1 hm
   have : t ≠ u := fun e => hne (by rw [e])
   rw [h.unit u t hu (by omega)]
   simp only [tY, if_neg this]; grind
  ·simp only [nS, if_neg hm]; grind
theorem Red.sol (h : Red R W C f0 f pv s) (hW : C < W) (x : Nat → Rat) : (∀ i, i < R → sm C (fun j => f0 i j * x j) = f0 i C) ↔ (∀ i, i < R → sm C (fun j => f i j * x j) = f i C) := by
 have k0 : Go.Proofs.YtgeagiikkeiioaaGreat.ker R W f0 (aDU C x (-1)) ↔ (∀ i, i < R → sm C (fun j => f0 i j * x j) = f0 i C) := by
  unfold Go.Proofs.YtgeagiikkeiioaaGreat.ker
  constructor
  ·intro hk i hi; have := hk i hi; rw [yE hW] at this; grind
  ·intro hk i hi; have := hk i hi; rw [yE hW]; grind
 have k1 : Go.Proofs.YtgeagiikkeiioaaGreat.ker R W f (aDU C x (-1)) ↔ (∀ i, i < R → sm C (fun j => f i j * x j) = f i C) := by
  unfold Go.Proofs.YtgeagiikkeiioaaGreat.ker
  constructor
  ·intro hk i hi; have := hk i hi; rw [yE hW] at this; grind
  ·intro hk i hi; have := hk i hi; rw [yE hW]; grind
 exact (k0.symm.trans (h.ker _).symm).trans k1
theorem Red.sol_x (h : Red R W C f0 f pv s) (hW : C < W) (ok : aLW R C f pv) : ∀ i, i < R → sm C (fun j => f0 i j * aEA f pv C j) = f0 i C := by
 rw [h.sol hW]
 intro i hi
 by_cases e : i < pv.length
 ·rw [h.rowC e]
  have hm : pv.getD i 0 ∈ pv := jW.2 ⟨i, e, rfl⟩
  rw [kL (fun j _ => by
   simp only [nS, aEA]
   by_cases hj : j ∈ pv
   ·rw [if_pos hj]; grind
   ·rw [if_neg hj, if_neg hj]; grind)]
  simp only [aEA, if_pos hm, h.idx e]; grind
 ·rw [kL (fun j hj => by rw [h.zero i j (by omega) hi hj]; grind), ok i (by omega) hi]
theorem Red.sol_iff (h : Red R W C f0 f pv s) (hW : C < W) : aLW R C f pv ↔ ∃ x : Nat → Rat, ∀ i, i < R → sm C (fun j => f0 i j * x j) = f0 i C := by
 constructor
 ·intro ok; exact ⟨_, h.sol_x hW ok⟩
 ·rintro ⟨x, hx⟩ i hp hi
  have := (h.sol hW x).1 hx i hi
  rw [← this]
  exact kL (fun j hj => by rw [h.zero i j hp hi hj]; grind)
end
end Go.Proofs.YtgeagiikkeiioaaGreat
namespace Go.Proofs.YtgeagiikkeiioaaGreat
open Go Go.Fx
abbrev pvI (q : Option Addr) (pv : List Nat) : bA := aX q (recs eZ (zs pv))
def EchP (A : Mt) (R C k : Nat) (M0 : List Ent) (I0 : List bA) (v : Value) (M : List Ent) (I : List bA) : Prop :=
 M0 = M ∧ ∃ (m : MX) (pv : List Nat) (q : Option Addr) (c : Nat), v = .tuple #[mv m, .slice q pv.length c, .int .i64 0] ∧ jV A C = (m.q, pv) ∧ m.dim R C ∧ I = pvI q pv :: jC m k :: I0
def NlP (A : Mt) (C k : Nat) (M0 : List Ent) (I0 : List bA) (v : Value) (M : List Ent) (I : List bA) : Prop :=
 M0 = M ∧ ∃ m : MX, v = .tuple #[mv m, .int .i64 0] ∧ m.q = xM A C ∧ (∀ r ∈ m.rows, r.es.length = C) ∧ I = jC m k :: I0
theorem aMM {pv : List Nat} {j : Nat} : (j : Int) ∈ zs pv ↔ j ∈ pv := by
 rw [List.mem_map]
 exact ⟨fun ⟨x, hx, e⟩ => by obtain rfl : x = j := by omega
                             exact hx, fun h => ⟨j, h, rfl⟩⟩
theorem aPZ {pv : List Nat} {r : Nat} (h : r < pv.length) : gt (zs pv) (r : Int) = ((pv.getD r 0 : Nat) : Int) := by
 rw [eY (by simpa using h)]
 rw [mO h]
 simp
theorem zT {pv : List Nat} {j : Nat} : qO pv (j + 1) = if j ∈ pv then qO pv j else qO pv j ++ [j] := by
 unfold qO
 rw [List.range_succ, List.filter_append]
 by_cases h : j ∈ pv
 ·rw [if_pos h]; simp [h]
 ·rw [if_neg h]; simp [h]
theorem aNG {pv : List Nat} {j : Nat} : (qO pv j).length ≤ j := by
 unfold qO
 exact Nat.le_trans (List.length_filter_le _ _) (by simp)
theorem aIK {a : MX} {R C : Nat} (h : a.dim R C) : sM a.q R C := ⟨by simp [h.1], fun i hi => by
 rw [wG (by have := h.1; omega)]; simp [h.row hi]⟩
theorem MX.dim.red {a : MX} {R C : Nat} (h : a.dim R C) {E : Mt} {pv : List Nat} (hr : jV a.q C = (E, pv)) : ∃ s, Red R C C (at2 a.q) (at2 E) pv s := by
 obtain ⟨_, s, h2⟩ := kV (aIK h) C (Nat.le_refl _)
 rw [hr] at h2
 exact ⟨s, h2⟩
section
variable {X : List Nat} {w0 : World} {M : List Ent} {I : List bA}
theorem Mem.blkL {w : World} {b k : Nat} {es : List RE} {ty : TypeId} (h : Mem X w0 (.blk b (recs eR es) ty :: M) I w) (ha : bT es k ∈ I) : Mem X w0 M (kZ ⟨some ⟨b, 0, none⟩, es.length, es⟩ k :: I) w := by
 have h1 := h.freezeB .here
 refine (h1.add (φ := kZ ⟨some ⟨b, 0, none⟩, es.length, es⟩ k) ⟨(h1.sl (List.Mem.head _)), (((h1.imm _ (List.Mem.tail _ ha)).2 : AllR es k _ w)).go, ⟨Nat.le_refl _, .inl (Ok.mk _ _)⟩⟩).inc (.of fun φ hφ => ?_)
 rcases List.mem_cons.1 hφ with rfl | hφ
 ·exact List.Mem.head _
 ·exact List.Mem.tail _ (List.Mem.tail _ hφ)
variable {P : Program} {n : Nat} {Q : Exit → Act → World → Prop} {G : Env}
theorem aPC {ops l : List Oper} {m : Fx.Mode} {b k : Nat} {es : List RE} {ty : TypeId} (ha : bT es k ∈ I) (h : RD P n ops Q m l G X w0 M (kZ ⟨some ⟨b, 0, none⟩, es.length, es⟩ k :: I)) : RD P n ops Q m l G X w0 (.blk b (recs eR es) ty :: M) I := uU (fun _ hw => Mem.blkL hw ha) h
theorem aIL {ex : Exit} {b k : Nat} {es : List RE} {ty : TypeId} (ha : bT es k ∈ I) (h : ND n Q ex G X w0 M (kZ ⟨some ⟨b, 0, none⟩, es.length, es⟩ k :: I)) : ND n Q ex G X w0 (.blk b (recs eR es) ty :: M) I := wT (fun _ hw => Mem.blkL hw ha) h
end
section
variable {X : List Nat} {w0 : World} {M0 : List Ent} {I0 : List bA}
theorem aKB {p : Option Addr} {l : List Int} {t c : Nat} {x : Int} (hl : l.length = t) (ht : t ≤ 100000) (hp : aX p (recs (eI .i64) l) ∈ I0) :
  CD Tryz.prog 120 [.slice p t c, .int .i64 x] X w0 M0 I0 (fun v M I => M0 = M ∧ I0 = I ∧ ∃ r : Int, v = .int .i64 r ∧ (0 ≤ r ↔ x ∈ l)) := by
 refine bH Tryz.func120 rfl Tryz.ntmps120 rfl ?_
 repeat (refine aJ ?_)
 refine aW [0, 1, 7] rfl (fun k G M I => ∃ i : Nat, i ≤ t ∧ k = t - i ∧ (∀ j : Nat, j < i → gt l j ≠ x) ∧ G = [(8, .int .i64 i)] ∧ M0 = M ∧ I0 = I) (t) _ _ _ aP aG aD (⟨0, by omega, rfl, fun j hj => by omega, rfl, rfl, rfl⟩) ?_
 rintro kk G M I ⟨i, hi, rfl, hs, rfl, rfl, rfl⟩
 by_cases h : i < t
 ·by_cases he : x = gt l i
  ·repeat (refine aJ ?_)
   refine aH (by first | exact .inl rfl | exact .inr rfl) rfl rfl _ _ aG aD (⟨rfl, rfl, (i : Int), rfl, ⟨fun _ => by { rw [he]; exact eQ (by omega) }, fun _ => by omega⟩⟩)
  ·repeat (refine aJ ?_)
   refine aN (t - (i + 1)) _ _ _ (by first | omega | (simp only [List.length_append, List.length_cons, List.length_nil]; omega)) aP aG aD (⟨i + 1, by omega, rfl, fun j hj => ?_, rfl, rfl, rfl⟩)
   by_cases e : j = i
   ·subst e; exact fun h => he h.symm
   ·exact hs j (by omega)
 ·repeat (refine aJ ?_)
  refine aH (by first | exact .inl rfl | exact .inr rfl) rfl rfl _ _ aG aD (⟨rfl, rfl, -1, rfl, ⟨fun h => by omega, fun h => by { obtain ⟨j, hj, e⟩ := List.mem_iff_getElem.1 h; exact absurd (by rw [iU hj]; exact e) (hs j (by omega)) }⟩⟩)
theorem aDA {p : Option Addr} {l : List Int} {t c : Nat} {x : Int} (hl : l.length = t) (ht : t ≤ 100000) (hp : aX p (recs (eI .i64) l) ∈ I0) :
  CD Tryz.prog 62 [.slice p t c, .int .i64 x] X w0 M0 I0 (fun v M I => M0 = M ∧ I0 = I ∧ v = .bool (B (x ∈ l))) := by
 refine bH Tryz.func62 rfl Tryz.ntmps62 rfl ?_
 repeat (refine aJ ?_)
 (refine aA rfl (aKB hl ht hp) rfl rfl ?_; rintro _ _ _ ⟨rfl, rfl, r, rfl, h⟩; refine ⟨okF, ?_⟩)
 repeat (refine aJ ?_)
 refine aH (by first | exact .inl rfl | exact .inr rfl) rfl rfl _ _ aG aD (⟨rfl, rfl, congrArg Value.bool (jH h)⟩)
/- reduce, and what it changed is only read from now on -/
theorem uW {bo R C n k0 : Nat} {rows : List MR} {M1 : List Ent} (hR : rows.length = R) (hRb : R ≤ 100) (hCb : C ≤ 200) (hC : ∀ r ∈ rows, r.es.length = C) (hn : n ≤ C) (hk : kb k0 n ≤ 50000000000) (hA : allM rows k0 ∈ I0)
  (hM : M0 = .blk bo (recs eM rows) 34 :: (rows.map fM ++ M1)) :
  CD Tryz.prog 165 [.slice (some ⟨bo, 0, none⟩) R R, .int .i64 (n : Int)] X w0 M0 I0 (fun v M I => M1 = M ∧ ∃ (x : MX) (pv : List Nat) (q : Option Addr) (c : Nat), v = .slice q pv.length c ∧ x.p = some ⟨bo, 0, none⟩ ∧ x.c = R ∧ x.dim R C ∧ jV (mq rows) n = (x.q, pv) ∧ pv.length ≤ R ∧ I = pvI q pv :: jC x (kb k0 n) :: I0) := by
 refine CD.post (aKJ hR hRb hCb hC hn hk hA hM) (fun v M I w h hw => ?_)
 obtain ⟨rows2, pv, q, c, rfl, hl, hc, hred, hpv, rfl, rfl⟩ := h
 have h1 : Mem X w0 (.blk bo (recs eM rows2) 34 :: (rows2.map fM ++ M1)) (pvI q pv :: allM rows2 (kb k0 n) :: I0) w := hw.freezeR .here
 have h2 := aCU (k := kb k0 n) h1 (List.Mem.tail _ (List.Mem.head _))
 refine ⟨M1, pvI q pv :: jC (MR.x bo rows2) (kb k0 n) :: I0, ⟨rfl, MR.x bo rows2, pv, q, c, rfl, rfl, hl, ⟨?_, fun r hr => ?_⟩, by rw [q_x]; exact hred, hpv, rfl⟩, h2.inc (.of fun φ hφ => ?_)⟩
 ·show (rows2.map MR.l).length = R; rw [List.length_map, hl]
 ·obtain ⟨s, hs, rfl⟩ := List.mem_map.1 hr
  exact hc s hs
 ·rcases List.mem_cons.1 hφ with rfl | hφ
  ·exact List.Mem.tail _ (List.Mem.head _)
  ·rcases List.mem_cons.1 hφ with rfl | hφ
   ·exact List.Mem.head _
   ·exact List.Mem.tail _ (List.Mem.tail _ (List.Mem.tail _ hφ))
/- a matrix made is only read from now on -/
theorem mkXQ {f : FuncId} {vs : List Value} {R C k : Nat} {F : Nat → Nat → Rat} (h : CD Tryz.prog f vs X w0 M0 I0 (MkP R C F k M0 I0)) : CD Tryz.prog f vs X w0 M0 I0 (XQ (yF R C F) R C k M0 I0) := by
 refine CD.post h (fun v M I w h hw => ?_)
 obtain ⟨bo, rows, rfl, hl, hc, hF, rfl, rfl⟩ := h
 refine ⟨M0, jC (MR.x bo rows) k :: I0, ⟨rfl, MR.x bo rows, ?_, ?_, ⟨by simp [MR.x, hl], fun r hr => ?_⟩, rfl⟩, (aCU hw (List.Mem.head _)).inc (.of fun φ hφ => by
  rcases List.mem_cons.1 hφ with rfl | hφ
  ·exact List.Mem.head _
  ·exact List.Mem.tail _ (List.Mem.tail _ hφ))⟩
 ·have e : (MR.x bo rows).rows.length = R := by show (rows.map MR.l).length = R; rw [List.length_map, hl]
  have e2 : (MR.x bo rows).c = R := hl
  show _ = Value.slice (MR.x bo rows).p (MR.x bo rows).rows.length (MR.x bo rows).c
  rw [e, e2]; rfl
 ·rw [q_x]; exact hF
 ·obtain ⟨s, hs, rfl⟩ := List.mem_map.1 hr
  exact hc s hs
theorem aGK {a : MX} {R C k0 : Nat} (hb : kb k0 C ≤ 20000000000) (da : a.fit R C) (ha : jC a k0 ∈ I0) : CD Tryz.prog 134 [mv a] X w0 M0 I0 (EchP a.q R C (kb k0 C) M0 I0) := by
 have hk0 : k0 ≤ 20000000000 := Nat.le_trans (pG k0 (Nat.zero_le C)) hb
 obtain ⟨r1, r2⟩ := da.2.1
 obtain ⟨c1, c2⟩ := da.2.2
 have hC := fun M0 I0 h1 => aAZ (X := X) (w0 := w0) (M0 := M0) (I0 := I0) (a := a) (k := k0) (by omega) da h1
 refine bF Tryz.func134 rfl Tryz.ntmps134 rfl ?_
 repeat (refine aJ ?_)
 (refine aA rfl (hC _ _ aB) rfl rfl ?_; rintro _ _ _ ⟨rfl, rfl, rfl⟩; refine ⟨okF, ?_⟩)
 repeat (refine aJ ?_)
 (refine aA rfl (aFT da aB) rfl rfl ?_; rintro _ _ _ ⟨bo, rows0, rfl, hl0, hc0, hq0, rfl, rfl⟩; refine ⟨okF, ?_⟩)
 have lC : (gt rows0 0).es.length = C := hc0 _ (eQ (by omega))
 have hmq0 : mq rows0 = a.q := by rw [da.1.mk]; exact hq0
 repeat (refine aJ ?_)
 rw [lC]
 have hRd := fun I0 h => uW (X := X) (w0 := w0) (M0 := .blk bo (recs eM rows0) 34 :: (rows0.map fM ++ M0)) (I0 := I0) (bo := bo) (R := R) (C := C) (n := C) (k0 := k0) (rows := rows0) (M1 := M0) hl0 (by omega) (by omega) hc0 (by omega) (by omega) h rfl
 (refine aA rfl (hRd _ aB) rfl rfl ?_; rintro _ _ _ ⟨rfl, x, pv, q, c, rfl, xp, xc, xd, hred, hpv, rfl⟩; refine ⟨okF, ?_⟩)
 rw [hmq0] at hred
 repeat (refine aJ ?_)
 refine fC [2, 3, 4] (by first | exact .inl rfl | exact .inr rfl) rfl rfl rfl _ _ aG aD (⟨rfl, x, pv, q, c, ?_, hred, xd, rfl⟩)
 show _ = Value.tuple #[.slice x.p x.rows.length x.c, _, _]
 rw [xd.1, xp, xc]
theorem aPB {a : MX} {R C k0 : Nat} (hb : kb k0 C ≤ 20000000000) (da : a.fit R C) (ha : jC a k0 ∈ I0) : CD Tryz.prog 75 [mv a] X w0 M0 I0 (NlP a.q C (kb k0 C) M0 I0) := by
 obtain ⟨r1, r2⟩ := da.2.1
 obtain ⟨c1, c2⟩ := da.2.2
 refine bF Tryz.func75 rfl Tryz.ntmps75 rfl ?_
 repeat (refine aJ ?_)
 (refine aA rfl (aGK hb da aB) rfl rfl ?_; rintro _ _ _ ⟨rfl, m, pv, q, c, rfl, hm, hd, rfl⟩; refine ⟨okF, ?_⟩)
 obtain ⟨s, hr⟩ := da.1.red hm
 have hlen := hr.len
 have hpi : ∀ r : Nat, r < pv.length → pv.getD r 0 < C := fun r h => hr.piv_lt h
 have hidx : ∀ r : Nat, r < pv.length → pv.idxOf (pv.getD r 0) = r := fun r h => hr.idx h
 have mR := hd.1
 have m0 : (gt m.rows 0).es.length = C := hd.row (i := 0) (by omega)
 have hz : (zs pv).length = pv.length := by simp
 generalize hK : kb k0 C = K at *
 refine cK (φ := aX (m).p (recs eL (m).rows)) (Hv.xsl aB) ?_
 repeat (refine aJ ?_)
 refine nT 34 1 ?_
 refine fP (φ := mD [] K) Hv.nilL ?_
 repeat (refine aJ ?_)
 rw [m0]
 refine aW [4, 5, 25] rfl (fun k G M I => ∃ (j : Nat) (rows : List RL) (qo : Option Addr) (co : Nat), j ≤ C ∧ k = C - j ∧ rows.map RL.q = (qO pv j).map (rO m.q pv C) ∧ (∀ r ∈ rows, r.es.length = C) ∧ G = [(7, .slice qo rows.length co), (26, .int .i64 j)] ∧ M = .row qo rows.length co (recs eL rows) 34 1 :: M0 ∧ I = mD rows K :: aX m.p (recs eL m.rows) :: pvI q pv :: jC m K :: I0) (C) _ _ _ aP aG aD (⟨0, [], none, 0, by omega, rfl, rfl, fun r hr => by simp at hr, rfl, rfl, rfl⟩) ?_
 rintro kk G M I ⟨j, rows, qo, co, hj, rfl, hq, hl, rfl, rfl, rfl⟩
 have hrl : rows.length ≤ j := by have := congrArg List.length hq; rw [List.length_map, List.length_map] at this; have := aNG (pv := pv) (j := j); omega
 by_cases hjC : j < C
 ·have hCn := fun M0 I0 h => aDA (X := X) (w0 := w0) (M0 := M0) (I0 := I0) (p := q) (l := zs pv) (t := pv.length) (c := c) (x := (j : Int)) hz (by omega) h
  by_cases hjp : j ∈ pv
  ·rw [bO (aMM.2 hjp)] at hCn
   repeat (refine aJ ?_)
   (refine aA rfl (hCn _ _ aB) rfl rfl ?_; rintro _ _ _ ⟨rfl, rfl, rfl⟩; refine ⟨okF, ?_⟩)
   repeat (refine aJ ?_)
   refine aN (C - (j + 1)) _ _ _ (by first | omega | (simp only [List.length_append, List.length_cons, List.length_nil]; omega)) aP aG aD (⟨j + 1, rows, qo, co, by omega, rfl, by rw [zT, if_pos hjp]; exact hq, hl, rfl, rfl, rfl⟩)
  ·rw [aY (fun h => hjp (aMM.1 h))] at hCn
   repeat (refine aJ ?_)
   (refine aA rfl (hCn _ _ aB) rfl rfl ?_; rintro _ _ _ ⟨rfl, rfl, rfl⟩; refine ⟨okF, ?_⟩)
   repeat (refine aJ ?_)
   rw [m0]
   (refine jU (C) rfl rfl (by omega) (by omega) (by omega) (by omega) (qL (enc := e4) (by decide) z4 C) rfl rfl ?_; intro bi; refine ⟨okF, ?_⟩)
   repeat (refine aJ ?_)
   refine fP (φ := bT [] K) Hv.nilR ?_
   refine aW [4, 5, 7, 8, 9, 25, 26, 38] rfl (fun k G M I => ∃ (x : Nat) (es : List RE), x ≤ C ∧ k = C - x ∧ es.length = x ∧ (∀ t : Nat, t < x → (gt es (t : Int)).q = if t = j then 1 else 0) ∧ G = [(39, .int .i64 x)] ∧ M = .blk bi (recs e4 (es.map t4 ++ List.replicate (C - x) z4)) 42 :: .row qo rows.length co (recs eL rows) 34 1 :: M0 ∧ I = bT es K :: mD rows K :: aX m.p (recs eL m.rows) :: pvI q pv :: jC m K :: I0) (C) _ _ _ aP aG aD (⟨0, [], by omega, by omega, rfl, fun t ht => by omega, rfl, rfl, rfl⟩) ?_
   rintro kk G M I ⟨x, es, hx, rfl, hel, heq, rfl, rfl, rfl⟩
   by_cases hxC : x < C
   ·have hz2 := qB (n := C - x) (z := z4) (by omega)
    have hl2 : ((es.map t4 ++ z4 :: List.replicate (C - x - 1) z4).length : Int) = C := by simp; omega
    have hU := fun M0 I0 => aIA (X := X) (w0 := w0) (M0 := M0) (I0 := I0) (i := (x : Int)) (j := (j : Int))
    rw [hz2]
    repeat (refine aJ ?_)
    (refine aA rfl (hU _ _) rfl rfl ?_; rintro _ _ _ ⟨rfl, e, rfl, he, rfl⟩; refine ⟨okF, ?_⟩)
    repeat (refine yXh ?_)
    refine iB (vs := eR e) rfl rfl rfl (Ones.one e) kR (StAts.r (t4 e) (by omega) rfl) rfl rfl ⟨okF, ?_⟩
    rw [yT (by simp; omega)]
    repeat (refine aJ ?_)
    refine dV (φ := iI e K) (Hv.q (k := 0) aB (by omega)) ?_
    refine dV (φ := bT (es ++ [e]) K) (Hv.snoc aB aB) ?_
    have e9 : es.map t4 ++ t4 e :: List.replicate (C - x - 1) z4 = (es ++ [e]).map t4 ++ List.replicate (C - (x + 1)) z4 := by simp [Nat.sub_sub]
    rw [e9]
    refine aN (C - (x + 1)) _ _ _ (by first | omega | (simp only [List.length_append, List.length_cons, List.length_nil]; omega)) aP aG aD (⟨x + 1, es ++ [e], by omega, rfl, by simp; omega, fun t ht => ?_, rfl, rfl, rfl⟩)
    by_cases e1 : t < x
    ·have : gt (es ++ [e]) (t : Int) = gt es (t : Int) := by rw [eY (by simp; omega), eY (by omega), List.getElem_append_left (by omega)]
     rw [this]; exact heq t e1
    ·have : gt (es ++ [e]) (t : Int) = e := aCH (A := es) (B := []) (by omega)
     rw [this, he]
     obtain rfl : t = x := by omega
     by_cases e2 : t = j
     ·rw [if_pos e2, if_pos (by omega)]
     ·rw [if_neg e2, if_neg (by omega)]
   ·obtain rfl : x = C := by omega
    rw [Nat.sub_self, List.replicate_zero, List.append_nil, yJ]
    repeat (refine aJ ?_)
    refine aW [4, 5, 7, 8, 9, 25, 26, 49, 50] rfl (fun k G M I => ∃ (r : Nat) (es2 : List RE), r ≤ pv.length ∧ k = pv.length - r ∧ es2.length = x ∧ (∀ t : Nat, t < x → (gt es2 (t : Int)).q = if t ∈ pv ∧ pv.idxOf t < r then - at2 m.q (pv.idxOf t) j else if t = j then 1 else 0) ∧ G = [(51, .int .i64 r)] ∧ M = .blk bi (recs eR es2) 42 :: .row qo rows.length co (recs eL rows) 34 1 :: M0 ∧ I = bT es2 K :: mD rows K :: aX m.p (recs eL m.rows) :: pvI q pv :: jC m K :: I0) (pv.length) _ _ _ aP aG aD (⟨0, es, by omega, by omega, hel, fun t ht => by rw [if_neg (by omega)]; exact heq t ht, rfl, rfl, rfl⟩) ?_
    rintro kk G M I ⟨r, es2, hr2, rfl, hel2, heq2, rfl, rfl, rfl⟩
    by_cases hrp : r < pv.length
    ·have hgz := aPZ hrp
     have hpr := hpi r hrp
     have hmr := hd.row (i := r) (by omega)
     have hat := wB (m := m) (i := r) (j := j) (by omega) (by omega)
     refine fP (φ := aX (gt (m).rows (r : Int)).p (recs eR (gt (m).rows (r : Int)).es)) (Hv.xrsl aB (by omega)) ?_
     have hNg := fun M0 I0 h => aHF (X := X) (w0 := w0) (M0 := M0) (I0 := I0) (e := gt (gt m.rows (r : Int)).es (j : Int)) (k := K) (by omega) h
     repeat (refine aJ ?_)
     rw [hgz]
     (refine aA rfl (hNg _ _ (Hv.xel aB (by omega) (by omega))) rfl rfl ?_; rintro _ _ _ ⟨rfl, e, rfl, he, rfl⟩; refine ⟨okF, ?_⟩)
     repeat (refine yXh ?_)
     refine iB (vs := eR e) rfl rfl rfl (Ones.one e) kR (StAts.r e (by omega) rfl) rfl rfl ⟨okF, ?_⟩
     repeat (refine aJ ?_)
     refine dV (φ := bT (st es2 ((pv.getD r 0 : Nat) : Int) e) K) (Hv.stR aB aB) ?_
     refine aN (pv.length - (r + 1)) _ _ _ (by first | omega | (simp only [List.length_append, List.length_cons, List.length_nil]; omega)) aP aG aD (⟨r + 1, st es2 ((pv.getD r 0 : Nat) : Int) e, by omega, rfl, by rw [dP]; exact hel2, fun t ht => ?_, rfl, rfl, rfl⟩)
     rw [uK (by omega)]
     by_cases e1 : t = pv.getD r 0
     ·subst e1
      rw [if_pos rfl, if_pos ⟨jW.2 ⟨r, hrp, rfl⟩, by rw [hidx r hrp]; omega⟩, he, hidx r hrp, hat]
     ·rw [if_neg e1, heq2 t ht]
      by_cases e2 : t ∈ pv
      ·have e3 : pv.idxOf t ≠ r := fun e => e1 (by rw [← e]; exact (Red.idx_lt e2).2.symm)
       by_cases e4 : pv.idxOf t < r
       ·rw [if_pos ⟨e2, e4⟩, if_pos ⟨e2, by omega⟩]
       ·rw [if_neg (show ¬ (t ∈ pv ∧ pv.idxOf t < r) from fun h => e4 h.2), if_neg (show ¬ (t ∈ pv ∧ pv.idxOf t < r + 1) from fun h => by have := h.2; omega)]
      ·rw [if_neg (show ¬ (t ∈ pv ∧ pv.idxOf t < r) from fun h => e2 h.1), if_neg (show ¬ (t ∈ pv ∧ pv.idxOf t < r + 1) from fun h => e2 h.1)]
    ·obtain rfl : r = pv.length := by omega
     have hV : qs es2 = rO m.q pv x j := by
      apply qQ
      ·simp [rO, hel2]
      ·intro t ht
       have ht' : t < x := by simpa [hel2] using ht
       rw [lZ (by omega), heq2 t ht', aEO ht']
       unfold nO
       by_cases e2 : t ∈ pv
       ·rw [if_pos ⟨e2, (Red.idx_lt e2).1⟩, if_pos e2]
       ·rw [if_neg (fun h => e2 h.1), if_neg e2]
     repeat (refine aJ ?_)
     refine aPC (k := K) aB ?_
     rw [hel2]
     have hvv : Value.slice (some ⟨bi, 0, none⟩) x x = lv (⟨some ⟨bi, 0, none⟩, x, es2⟩ : RL) := by show _ = Value.slice _ es2.length _; rw [hel2]
     rw [hvv]
     (refine aK (cs := recs eL [(⟨some ⟨bi, 0, none⟩, x, es2⟩ : RL)]) ([lv (⟨some ⟨bi, 0, none⟩, x, es2⟩ : RL)]) rfl rfl (by intro v hv; repeat (first | exact absurd hv (List.not_mem_nil) | (rcases List.mem_cons.1 hv with rfl | hv; · rfl))) (by omega) rfl rfl rfl ?_; intro bb; refine ⟨okF, ?_⟩)
     (refine aM (ys := [(⟨some ⟨bi, 0, none⟩, x, es2⟩ : RL)]) 1 rfl rfl rfl ?_ (by decide) rfl (by omega) (by omega) rfl rfl ?_; (· first | exact Src.blk aB | exact Src.row aB | exact Src.imm aB (by first | assumption | exact .inl (Ok.mk _ _))); intro q2 c2; refine ⟨okF, ?_⟩)
     repeat (refine aJ ?_)
     refine dV (φ := mD (rows ++ [(⟨some ⟨bi, 0, none⟩, x, es2⟩ : RL)]) K) (Hv.snocL aB aB) ?_
     refine aN (x - (j + 1)) _ _ _ (by first | omega | (simp only [List.length_append, List.length_cons, List.length_nil]; omega)) aP aG aD (⟨j + 1, rows ++ [(⟨some ⟨bi, 0, none⟩, x, es2⟩ : RL)], q2, c2, by omega, rfl, ?_, fun r hr => ?_, rfl, rfl, rfl⟩)
     ·rw [aQL, hq, zT, if_neg hjp, List.map_append]
      show _ ++ [qs es2] = _ ++ [rO m.q pv x j]
      rw [hV]
     ·rcases List.mem_append.1 hr with h | h
      ·exact hl r h
      ·rw [List.mem_singleton.1 h]; exact hel2
 ·obtain rfl : j = C := by omega
  repeat (refine aJ ?_)
  refine aGJ (k := K) aB ?_
  refine fC [2, 3] (by first | exact .inl rfl | exact .inr rfl) rfl rfl rfl _ _ aG aD (⟨rfl, ⟨qo, co, rows⟩, rfl, by unfold xM aNN; rw [hm]; exact hq, hl, rfl⟩)
end
end Go.Proofs.YtgeagiikkeiioaaGreat
namespace Go.Proofs.YtgeagiikkeiioaaGreat
open Go Go.Fx
def hD (k : Nat) : Nat → Nat
 | 0 => k
 | n + 1 => (n + 2) * (k + hD k n + 1)
section
variable {X : List Nat} {w0 : World} {M0 : List Ent} {I0 : List bA}
end
end Go.Proofs.YtgeagiikkeiioaaGreat
namespace Go.Proofs.YtgeagiikkeiioaaGreat
open Go Go.Fx
structure MS where
 b : Nat
 c : Nat
 es : List RE
 tl : List Value
instance : Inhabited MS := ⟨⟨0, 0, [], []⟩⟩
abbrev eS (r : MS) : List Value := [.slice (some ⟨r.b, 0, none⟩) r.es.length r.c]
instance : Sized eS 1 := ⟨fun _ => rfl⟩
instance : Ones eS := ⟨fun m u hu => by simp only [eS, List.mem_cons, List.not_mem_nil, or_false] at hu; subst hu; rfl⟩
abbrev entS (r : MS) : Ent := .blk r.b (recs eR r.es ++ r.tl) 42
structure AllS (rows : List MS) (k : Nat) (X : List Nat) (w : World) : Prop where
 go : ∀ r ∈ rows, ∀ e ∈ r.es, IsR e k X w
abbrev allS (rows : List MS) (k : Nat) : bA := AllS rows k
instance (rows : List MS) (k : Nat) : Fx.Good (AllS rows k) := ⟨fun X Y w w' h he hY => ⟨fun r hr e hm => Fx.Good.go (φ := IsR _ _) X Y w w' (h.go r hr e hm) he hY⟩⟩
def Pw (rows : List MS) (R C : Nat) (V : Nat → Nat → Rat) : Prop := ∀ i j : Nat, i < R → j < C → (gt (gt rows (i : Int)).es (j : Int)).q = V i j
structure Shp (rows : List MS) (R C : Nat) : Prop where
 len : rows.length = R
 col : ∀ r ∈ rows, r.es.length = C ∧ C ≤ r.c
abbrev upR (r : MS) (j : Nat) (e : RE) : MS := ⟨r.b, r.c, st r.es (j : Int) e, r.tl⟩
def upS (rows : List MS) (i j : Nat) (e : RE) : List MS := rows.set i ⟨(gt rows (i : Int)).b, (gt rows (i : Int)).c, st (gt rows (i : Int)).es (j : Int) e, (gt rows (i : Int)).tl⟩
def MsP (R C : Nat) (V : Nat → Nat → Rat) (k : Nat) (M0 : List Ent) (I0 : List bA) (v : Value) (M : List Ent) (I : List bA) : Prop :=
 ∃ (bo co : Nat) (tlo : List Value) (rows : List MS), v = .slice (some ⟨bo, 0, none⟩) R co ∧ R ≤ co ∧ Shp rows R C ∧ Pw rows R C V ∧ M = .blk bo (recs eS rows ++ tlo) 34 :: (rows.map entS ++ M0) ∧ I = allS rows k :: I0
def MS.l (r : MS) : RL := ⟨some ⟨r.b, 0, none⟩, r.c, r.es⟩
def MS.x (bo co : Nat) (rows : List MS) : MX := ⟨some ⟨bo, 0, none⟩, co, rows.map MS.l⟩
section
variable {X : List Nat} {w0 : World} {M0 : List Ent} {I0 : List bA}
end
end Go.Proofs.YtgeagiikkeiioaaGreat
namespace Go.Proofs.YtgeagiikkeiioaaGreat
open Go Go.Fx
section
variable {X : List Nat} {w0 : World} {M0 : List Ent} {I0 : List bA}
end
end Go.Proofs.YtgeagiikkeiioaaGreat
namespace Go.Proofs.YtgeagiikkeiioaaGreat
open Go Go.Fx
def rEchO (A : Mt) (R C k : Nat) (M0 : List Ent) (I0 : List bA) (v : Value) (M : List Ent) (I : List bA) : Prop :=
 ∃ (bo co : Nat) (tlo : List Value) (rows : List MS) (E : Mt) (pv : List Nat) (q : Option Addr) (c : Nat), v = .tuple #[.slice (some ⟨bo, 0, none⟩) R co, .slice q pv.length c] ∧ R ≤ co ∧ Shp rows R C ∧ jV A C = (E, pv) ∧ Pw rows R C (at2 E) ∧
  M = .row q pv.length c (recs eZ (zs pv)) 3 1 :: .blk bo (recs eS rows ++ tlo) 34 :: (rows.map entS ++ M0) ∧ I = allS rows k :: I0
def rEchP (A : Mt) (R C k : Nat) (M0 : List Ent) (I0 : List bA) (v : Value) (M : List Ent) (I : List bA) : Prop :=
 M0 = M ∧ ∃ (m : MX) (pv : List Nat) (q : Option Addr) (c : Nat), v = .tuple #[mv m, .slice q pv.length c] ∧ jV A C = (m.q, pv) ∧ m.dim R C ∧ I = pvI q pv :: jC m k :: I0
section
variable {X : List Nat} {w0 : World} {M0 : List Ent} {I0 : List bA}
end
end Go.Proofs.YtgeagiikkeiioaaGreat
namespace Go.Proofs.YtgeagiikkeiioaaGreat
open Go Go.Fx
def NlR (A : Mt) (C k : Nat) (M0 : List Ent) (I0 : List bA) (v : Value) (M : List Ent) (I : List bA) : Prop :=
 M0 = M ∧ ∃ m : MX, v = mv m ∧ m.q = xM A C ∧ (∀ r ∈ m.rows, r.es.length = C) ∧ I = jC m k :: I0
section
variable {X : List Nat} {w0 : World} {M : List Ent} {I : List bA}
variable {P : Program} {n : Nat} {Q : Exit → Act → World → Prop} {G : Env}
end
section
variable {X : List Nat} {w0 : World} {M0 : List Ent} {I0 : List bA}
end
end Go.Proofs.YtgeagiikkeiioaaGreat

/- Kernels and systems, plain: the canonical basis of the kernel, what it spans; when a system has a solution, and which one is returned. matrix: Echelon, Rank, Null. slices.Sorted of slices.Values at ints. slices.Sorted of slices.Values at ints: a list of its own. make with length 0 and a capacity; a row cut short; where a row lies. The densest shift of integers, plain: which candidate is the best, and that no shift of fractions has more. -/
import Derived.Test.YtjbhdfpjnjedhaaGreatZobc
import Derived.Test.YtjbhdfpjnjedhaaGreatZoan
import Derived.Test.YtjbhdfpjnjedhaaGreatZoae
import Derived.Test.YtjbhdfpjnjedhaaGreatZoaf
import Derived.Test.YtjbhdfpjnjedhaaGreatZoad
set_option linter.unusedSimpArgs false
set_option linter.unusedVariables false
set_option maxRecDepth 100000
set_option maxHeartbeats 4000000
namespace Go.Proofs.YtjbhdfpjnjedhaaGreat
open Go Go.Fx
def nullF (f : Nat → Nat → Rat) (pv : List Nat) (j c : Nat) : Rat := if c ∈ pv then - f (pv.idxOf c) j else if c = j then 1 else 0
def aRT (pv : List Nat) (C : Nat) : List Nat := (List.range C).filter (fun j => decide (j ∉ pv))
def nullV (E : Mt) (pv : List Nat) (C j : Nat) : List Rat := (List.range C).map (nullF (at2 E) pv j)
def nullM (E : Mt) (pv : List Nat) (C : Nat) : Mt := (aRT pv C).map (nullV E pv C)
def aVY (A : Mt) (C : Nat) : Mt := nullM (mK A C).1 (mK A C).2 C
def rk (A : Mt) (C : Nat) : Nat := (mK A C).2.length
theorem Red.idx {R C j : Nat} {f0 f : Nat → Nat → Rat} {pv : List Nat} {s : Rat} (h : Red R C j f0 f pv s) {t : Nat} (ht : t < pv.length) : pv.idxOf (pv.getD t 0) = t := by
 have hm : pv.getD t 0 ∈ pv := pO.2 ⟨t, ht, rfl⟩
 have h1 : pv.idxOf (pv.getD t 0) < pv.length := List.idxOf_lt_length_of_mem hm
 exact h.piv_inj h1 ht ((pW h1).trans (List.getElem_idxOf h1))
theorem Red.idx_lt {pv : List Nat} {c : Nat} (hm : c ∈ pv) : pv.idxOf c < pv.length ∧ pv.getD (pv.idxOf c) 0 = c := by
 have h1 : pv.idxOf c < pv.length := List.idxOf_lt_length_of_mem hm
 exact ⟨h1, (pW h1).trans (List.getElem_idxOf h1)⟩
section
variable {R C : Nat} {f0 f : Nat → Nat → Rat} {pv : List Nat} {s : Rat}
theorem Red.nodup (h : Red R C C f0 f pv s) : pv.Nodup := by
 rw [List.nodup_iff_pairwise_ne, List.pairwise_iff_getElem]
 intro i j hi hj hij e
 have := h.piv_inj (t := i) (u := j) hi hj (by rw [pW hi, pW hj]; exact e)
 omega
theorem aCA (p : Nat → Bool) : ∀ l : List Nat, (l.filter p).length + (l.filter (fun x => !p x)).length = l.length
 | [] => rfl
 | x :: l => by
  have ih := aCA p l
  rw [List.filter_cons, List.filter_cons, List.length_cons]
  cases p x <;> simp <;> omega
theorem Red.free_len (h : Red R C C f0 f pv s) : (aRT pv C).length + pv.length = C := by
 have h1 : ((List.range C).filter (fun j => decide (j ∉ pv))).length + ((List.range C).filter (fun j => !decide (j ∉ pv))).length = C := by
  have := aCA (fun j => decide (j ∉ pv)) (List.range C)
  rw [List.length_range] at this; omega
 have h2 : ((List.range C).filter (fun j => !decide (j ∉ pv))).length = pv.length := by
  apply Nat.le_antisymm
  ·refine List.Nodup.length_le_of_subset (List.Pairwise.filter _ List.nodup_range) (fun x hx => ?_)
   have := (List.mem_filter.1 hx).2
   simpa using this
  ·refine List.Nodup.length_le_of_subset h.nodup (fun x hx => ?_)
   obtain ⟨t, ht, rfl⟩ := pO.1 hx
   refine List.mem_filter.2 ⟨List.mem_range.2 (h.piv_lt ht), by simpa using hx⟩
 unfold aRT
 omega
end
/- systems: the right side is the column C of a wider matrix -/
section
variable {R C W : Nat} {f0 f : Nat → Nat → Rat} {pv : List Nat} {s : Rat}
def aQZ (f : Nat → Nat → Rat) (pv : List Nat) (C c : Nat) : Rat := if c ∈ pv then f (pv.idxOf c) C else 0
def aST (R C : Nat) (f : Nat → Nat → Rat) (pv : List Nat) : Prop := ∀ i, pv.length ≤ i → i < R → f i C = 0
def aIJ (C : Nat) (x : Nat → Rat) (y : Rat) : Nat → Rat := fun j => if j < C then x j else if j = C then y else 0
theorem zZ {C W : Nat} (hW : C < W) {g x : Nat → Rat} {y : Rat} : sm W (fun j => g j * aIJ C x y j) = sm C (fun j => g j * x j) + g C * y := by
 obtain ⟨d, rfl⟩ : ∃ d, W = C + 1 + d := ⟨W - (C + 1), by omega⟩
 rw [aBA]
 have h1 : sm (C + 1) (fun j => g j * aIJ C x y j) = sm C (fun j => g j * x j) + g C * y := by
  simp only [sm]
  rw [dH (n := C) (g := fun j => g j * x j) (fun j hj => by simp only [aIJ, if_pos hj])]
  simp only [aIJ, Nat.lt_irrefl, if_false, if_true]
 have h2 : sm d (fun k => g (C + 1 + k) * aIJ C x y (C + 1 + k)) = 0 := sQ (fun k _ => by
  simp only [aIJ, if_neg (show ¬ C + 1 + k < C by omega), if_neg (show ¬ C + 1 + k = C by omega)]; grind)
 rw [h1, h2]; grind
theorem Red.rowC (h : Red R W C f0 f pv s) {t : Nat} (ht : t < pv.length) (x : Nat → Rat) : sm C (fun j => f t j * x j) = x (pv.getD t 0) + sm C (fun j => f t j * aOB pv x j) := by
 have hR := h.len
 have h1 : sm C (fun j => f t j * x j) = sm C (fun j => (f t j * x j - f t j * aOB pv x j) + f t j * aOB pv x j) := dH (fun j _ => by grind)
 rw [h1, aJL]
 congr 1
 rw [uN (p := pv.getD t 0) (h.piv_lt ht) (fun j hj hne => ?_)]
 ·have hm : pv.getD t 0 ∈ pv := pO.2 ⟨t, ht, rfl⟩
  rw [h.unit t t ht (by omega)]
  simp only [aOB, if_pos hm, oU, if_true]; grind
 ·by_cases hm : j ∈ pv
  ·obtain ⟨u, hu, rfl⟩ := pO.1 hm
   have : t ≠ u := fun e => hne (by rw [e])
   rw [h.unit u t hu (by omega)]
   simp only [oU, if_neg this]; grind
  ·simp only [aOB, if_neg hm]; grind
theorem Red.sol (h : Red R W C f0 f pv s) (hW : C < W) (x : Nat → Rat) : (∀ i, i < R → sm C (fun j => f0 i j * x j) = f0 i C) ↔ (∀ i, i < R → sm C (fun j => f i j * x j) = f i C) := by
 have k0 : Go.Proofs.YtjbhdfpjnjedhaaGreat.ker R W f0 (aIJ C x (-1)) ↔ (∀ i, i < R → sm C (fun j => f0 i j * x j) = f0 i C) := by
  unfold Go.Proofs.YtjbhdfpjnjedhaaGreat.ker
  constructor
  ·intro hk i hi; have := hk i hi; rw [zZ hW] at this; grind
  ·intro hk i hi; have := hk i hi; rw [zZ hW]; grind
 have k1 : Go.Proofs.YtjbhdfpjnjedhaaGreat.ker R W f (aIJ C x (-1)) ↔ (∀ i, i < R → sm C (fun j => f i j * x j) = f i C) := by
  unfold Go.Proofs.YtjbhdfpjnjedhaaGreat.ker
  constructor
  ·intro hk i hi; have := hk i hi; rw [zZ hW] at this; grind
  ·intro hk i hi; have := hk i hi; rw [zZ hW]; grind
 exact (k0.symm.trans (h.ker _).symm).trans k1
theorem Red.sol_x (h : Red R W C f0 f pv s) (hW : C < W) (ok : aST R C f pv) : ∀ i, i < R → sm C (fun j => f0 i j * aQZ f pv C j) = f0 i C := by
 rw [h.sol hW]
 intro i hi
 by_cases e : i < pv.length
 ·rw [h.rowC e]
  have hm : pv.getD i 0 ∈ pv := pO.2 ⟨i, e, rfl⟩
  rw [sQ (fun j _ => by
   simp only [aOB, aQZ]
   by_cases hj : j ∈ pv
   ·rw [if_pos hj]; grind
   ·rw [if_neg hj, if_neg hj]; grind)]
  simp only [aQZ, if_pos hm, h.idx e]; grind
 ·rw [sQ (fun j hj => by rw [h.zero i j (by omega) hi hj]; grind), ok i (by omega) hi]
theorem Red.sol_iff (h : Red R W C f0 f pv s) (hW : C < W) : aST R C f pv ↔ ∃ x : Nat → Rat, ∀ i, i < R → sm C (fun j => f0 i j * x j) = f0 i C := by
 constructor
 ·intro ok; exact ⟨_, h.sol_x hW ok⟩
 ·rintro ⟨x, hx⟩ i hp hi
  have := (h.sol hW x).1 hx i hi
  rw [← this]
  exact sQ (fun j hj => by rw [h.zero i j hp hi hj]; grind)
end
end Go.Proofs.YtjbhdfpjnjedhaaGreat
namespace Go.Proofs.YtjbhdfpjnjedhaaGreat
open Go Go.Fx
abbrev pvI (q : Option Addr) (pv : List Nat) : aY := aM q (recs eZ (zs pv))
def EchP (A : Mt) (R C k : Nat) (M0 : List Ent) (I0 : List aY) (v : Value) (M : List Ent) (I : List aY) : Prop :=
 M0 = M ∧ ∃ (m : MX) (pv : List Nat) (q : Option Addr) (c : Nat), v = .tuple #[mv m, .slice q pv.length c, .int .i64 0] ∧ mK A C = (m.q, pv) ∧ m.dim R C ∧ I = pvI q pv :: iT m k :: I0
def NlP (A : Mt) (C k : Nat) (M0 : List Ent) (I0 : List aY) (v : Value) (M : List Ent) (I : List aY) : Prop :=
 M0 = M ∧ ∃ m : MX, v = .tuple #[mv m, .int .i64 0] ∧ m.q = aVY A C ∧ (∀ r ∈ m.rows, r.es.length = C) ∧ I = iT m k :: I0
theorem aXC {pv : List Nat} {j : Nat} : (j : Int) ∈ zs pv ↔ j ∈ pv := by
 rw [List.mem_map]
 exact ⟨fun ⟨x, hx, e⟩ => by obtain rfl : x = j := by omega
                             exact hx, fun h => ⟨j, h, rfl⟩⟩
theorem gt_zs {pv : List Nat} {r : Nat} (h : r < pv.length) : gt (zs pv) (r : Int) = ((pv.getD r 0 : Nat) : Int) := by
 rw [fC (by simpa using h)]
 rw [pW h]
 simp
theorem aKP {a : MX} {R C : Nat} (h : a.dim R C) : qO a.q R C := ⟨by simp [h.1], fun i hi => by
 rw [zT (by have := h.1; omega)]; simp [h.row hi]⟩
section
variable {X : List Nat} {w0 : World} {M : List Ent} {I : List aY}
theorem Mem.blkL {w : World} {b k : Nat} {es : List RE} {ty : TypeId} (h : Mem X w0 (.blk b (recs eR es) ty :: M) I w) (ha : bB es k ∈ I) : Mem X w0 M (jI ⟨some ⟨b, 0, none⟩, es.length, es⟩ k :: I) w := by
 have h1 := h.freezeB .here
 refine (h1.add (φ := jI ⟨some ⟨b, 0, none⟩, es.length, es⟩ k) ⟨(h1.sl (List.Mem.head _)), (((h1.imm _ (List.Mem.tail _ ha)).2 : AllR es k _ w)).go, ⟨Nat.le_refl _, .inl (Ok.mk _ _)⟩⟩).inc (.of fun φ hφ => ?_)
 rcases List.mem_cons.1 hφ with rfl | hφ
 ·exact List.Mem.head _
 ·exact List.Mem.tail _ (List.Mem.tail _ hφ)
variable {P : Program} {n : Nat} {Q : Exit → Act → World → Prop} {G : Env}
theorem aVI {ops l : List Oper} {m : Fx.Mode} {b k : Nat} {es : List RE} {ty : TypeId} (ha : bB es k ∈ I) (h : RD P n ops Q m l G X w0 M (jI ⟨some ⟨b, 0, none⟩, es.length, es⟩ k :: I)) : RD P n ops Q m l G X w0 (.blk b (recs eR es) ty :: M) I := tV (fun _ hw => Mem.blkL hw ha) h
theorem aLY {cd : Code} {b k : Nat} {es : List RE} {ty : TypeId} (ha : bB es k ∈ I) (h : TD P n cd Q G X w0 M (jI ⟨some ⟨b, 0, none⟩, es.length, es⟩ k :: I)) : TD P n cd Q G X w0 (.blk b (recs eR es) ty :: M) I := aFD (fun _ hw => Mem.blkL hw ha) h
end
section
variable {X : List Nat} {w0 : World} {M0 : List Ent} {I0 : List aY}
/- reduce, and what it changed is only read from now on -/
/- a matrix made is only read from now on -/
end
end Go.Proofs.YtjbhdfpjnjedhaaGreat
namespace Go.Proofs.YtjbhdfpjnjedhaaGreat
open Go Go.Fx
section
variable {X : List Nat} {w0 : World} {M0 : List Ent} {I0 : List aY}
theorem aDU {q : Option Addr} {n c : Nat} : CD Tryz.prog 64 [.slice q n c] X w0 M0 I0 (fun v M I => M0 = M ∧ ∃ b, v = .func (.func 108) #[] #[.pointer (some ⟨b, 0, none⟩)] ∧ I = aM (some ⟨b, 0, none⟩) [.slice q n c] :: I0) := by
 refine aZ Tryz.func64 rfl Tryz.ntmps64 rfl ?_
 refine aH ?_
 refine aL ?_
 (refine oH rfl rfl rfl ?_; intro b1; refine ⟨okF, ?_⟩)
 repeat (refine aI ?_)
 refine aG (by first | exact .inl rfl | exact .inr rfl) rfl rfl _ _ aD aC (⟨rfl, b1, rfl, rfl⟩)
end
end Go.Proofs.YtjbhdfpjnjedhaaGreat
namespace Go.Proofs.YtjbhdfpjnjedhaaGreat
open Go Go.Fx
section
variable {X : List Nat} {w0 : World} {M0 : List Ent} {I0 : List aY}
theorem aCE {q : Option Addr} {zs : List Int} {c b n : Nat} (hl : zs.length = n) (hn : 1 ≤ n ∧ n ≤ 12) (hb : aM (some ⟨b, 0, none⟩) [.slice q n c] ∈ I0) (hq : aM q (recs eZ zs) ∈ I0) :
  CD Tryz.prog 63 [.func (.func 108) #[] #[.pointer (some ⟨b, 0, none⟩)]] X w0 M0 I0 (fun v M I => I0 = I ∧ ∃ (b2 c2 : Nat) (tl : List Value), v = .slice (some ⟨b2, 0, none⟩) n c2 ∧ n ≤ c2 ∧ M = .blk b2 (recs eZ (zB id zs) ++ tl) 3 :: M0) := by
 subst hl
 have hA := fun M0 I0 hb hq => aTO (X := X) (w0 := w0) (M0 := M0) (I0 := I0) (q := q) (zs := zs) (c := c) (Bs := b) (by omega) hb hq
 have hC : ∀ M0 I0, aM (some ⟨b, 0, none⟩) [.slice q zs.length c] ∈ I0 → aM q (recs eZ zs) ∈ I0 → CD Tryz.prog 106 [.func (.func 108) #[] #[.pointer (some ⟨b, 0, none⟩)]] X w0 M0 I0 (fun v M I => I0 = I ∧ ∃ q' c', v = .slice q' zs.length c' ∧ M = .row q' zs.length c' (recs eZ zs) 3 1 :: M0) := fun M0 I0 h1 h2 => by
  refine aZ Tryz.func106 rfl Tryz.ntmps106 rfl ?_
  repeat (refine aI ?_)
  (refine aA rfl (hA _ _ aB aB) rfl rfl ?_; rintro _ _ _ ⟨rfl, q', c', rfl, rfl⟩; refine ⟨okF, ?_⟩)
  repeat (refine aI ?_)
  refine aG (by first | exact .inl rfl | exact .inr rfl) rfl rfl _ _ aD aC (⟨rfl, q', c', rfl, rfl⟩)
 refine aZ Tryz.func63 rfl Tryz.ntmps63 rfl ?_
 repeat (refine aI ?_)
 (refine aA rfl (hC _ _ aB aB) rfl rfl ?_; rintro _ _ _ ⟨rfl, q1, c1, rfl, rfl⟩; refine ⟨okF, ?_⟩)
 refine yC (fun h1 h2 h3 => ?_) (fun bq tl e hle => ?_)
 ·omega
 ·subst e
  repeat (refine aI ?_)
  (refine aA rfl (aUS (b := bq) (tl := tl) (D := zs) rfl hn.2) rfl rfl ?_; rintro _ _ _ ⟨rfl, rfl⟩; refine ⟨okF, ?_⟩)
  repeat (refine aI ?_)
  refine aG (by first | exact .inl rfl | exact .inr rfl) rfl rfl _ _ aD aC (⟨rfl, bq, c1, tl, rfl, hle, rfl⟩)
end
end Go.Proofs.YtjbhdfpjnjedhaaGreat
namespace Go.Fx
section
variable {P : Program} {n : Nat} {ops : List Oper} {Q : Exit → Act → World → Prop} {m : Mode} {G : Env} {w : World} {ty : TypeId} {pos : String} {af : Array Edge} {g : Option (Nat × Bool)} {l : List Oper} {X : List Nat} {w0 : World} {M M' : List Ent} {I : List aY}
theorem aOG {t e : TypeId} {sz sz' by_ : Nat} {z : List Value} {lo co : Operand} {k k' : IntKind} {mm : Nat} [ht : SliceTy P t e sz'] [hz : ElemTy P e sz by_ z]
  (hl : ev G lo = some (.int k 0)) (hc : ev G co = some (.int k' (mm : Int))) (hb : (by_ : Int) * (mm : Int) ≤ 281474976710656) (hm : (mm : Int) ≤ 9223372036854775807) :
  Eff P n G (.makeSlice t lo co) ty w (fun v w' => ∃ b, b = w.heap.size ∧ v = .slice (some ⟨b, 0, none⟩) 0 mm ∧ w'.ownsRow 0 e sz (.slice (some ⟨b, 0, none⟩) 0 mm) 0 [] ∧ Ext [] w w' ∧ b < w'.heap.size) := by
 refine ⟨?_⟩
 intro a ha dst pos after guard
 obtain ⟨i, v, hi, hs, hby, hzv, hcl⟩ := uS hz
 have hr := run_make (P := P) w t e i v ht.und hi hzv k k' 0 mm (by omega) (by omega) (by rw [hby]; exact hb) hm
 refine tH (v := .slice (some ⟨w.heap.size, 0, none⟩) 0 mm) (w' := w.alloc (.cells (madeCells z.toArray (mm * sz)) e)) ?_ ⟨_, ⟨_, rfl, rfl, ⟨by simp, .inr ⟨w.heap.size, mm, madeCells z.toArray (mm * sz), rfl, Nat.zero_le _, heap_alloc_new w _, Nat.zero_le _, by show mm ≤ 9223372036854775807; omega, size_madeCells _ _, by simp⟩⟩, Ext.alloc _ _ _, by simp⟩, rfl⟩
 simp only [Int.toNat_natCast, hs, hcl] at hr
 simp [execOp, ha.ev hl, ha.ev hc, hr]
theorem aPX {d : Nat} {t e : TypeId} {sz sz' by_ : Nat} {z : List Value} {lo co : Operand} {k1 k2 : IntKind} (mm : Nat) {x2 : Int} [SliceTy P t e sz'] [ElemTy P e sz by_ z]
  (hl : ev G lo = some (.int k1 0)) (hc : ev G co = some (.int k2 x2)) (e2 : x2 = mm) (hb : (by_ : Int) * (mm : Int) ≤ 281474976710656) (hm : (mm : Int) ≤ 9223372036854775807) (hg : oO ops G g = some true) (hd : Nat.ble (d + 1) n = true)
  (k : ∀ b, OkD m X w0 (.row (some ⟨b, 0, none⟩) 0 mm [] e sz :: M) I ∧ RD P n ops Q m.nextE l ((d, .slice (some ⟨b, 0, none⟩) 0 mm) :: G) X w0 (.row (some ⟨b, 0, none⟩) 0 mm [] e sz :: M) I) :
  RD P n ops Q m (⟨some d, .makeSlice t lo co, ty, pos, af, g⟩ :: l) G X w0 M I := by
 subst e2
 exact zO (d := some d) (K := fun v' M' I' => ∃ b, v' = .slice (some ⟨b, 0, none⟩) 0 mm ∧ M' = .row (some ⟨b, 0, none⟩) 0 mm [] e sz :: M ∧ I' = I) hg
  (fun w hw => (aOG (mm := mm) hl hc hb hm).mono (fun _ w' ⟨b, hb, hp, hB, hE, _⟩ => ⟨_, _, ⟨b, hp, rfl, rfl⟩, hw.push hE (by simp [Ent.blocks, hb]) (by simp [Ent.blocks]) hB⟩)) rfl hd
  (fun _ _ _ ⟨b, hp, hM, hI⟩ => by subst hp; subst hM; subst hI; exact k b)
end
end Go.Fx
namespace Go.Fx
section
variable {P : Program} {n : Nat} {ops : List Oper} {Q : Exit → Act → World → Prop} {m : Mode} {G : Env} {l : List Oper} {X : List Nat} {w0 : World} {M M' : List Ent} {I : List aY}
theorem aUN {w : World} {base : Nat} {e : TypeId} {sz mm m' c : Nat} {a : Option Addr} {xs : List Value} (h : w.ownsRow base e sz (.slice a mm c) mm xs) (hle : m' ≤ mm) : w.ownsRow base e sz (.slice a m' c) m' (xs.take (m' * sz)) := by
 obtain ⟨h1, h2⟩ := h
 have h3 : m' * sz ≤ mm * sz := Nat.mul_le_mul_right _ hle
 refine ⟨by rw [List.length_take, h1, Nat.min_eq_left h3], ?_⟩
 rcases h2 with ⟨hv, h0⟩ | ⟨g, cap, cur, hv, hb, hc, hn, hm, hs, ht⟩
 ·subst h0
  obtain rfl : m' = 0 := by omega
  exact .inl ⟨hv, rfl⟩
 ·injection hv with e1 e2 e3
  subst e1; subst e3
  exact .inr ⟨g, c, cur, rfl, hb, hc, by omega, hm, hs, by rw [← ht, List.take_take, Nat.min_eq_left h3]⟩
theorem Mem.pop {w : World} {a : Option Addr} {mm m' c : Nat} {cs : List Value} {e : TypeId} {sz : Nat} (h : Mem X w0 M I w) (hr : Rep (.row a mm c cs e sz) (.row a m' c (cs.take (m' * sz)) e sz) M M') (hle : m' ≤ mm) : Mem X w0 M' I w := by
 have ho : w.ownsRow 0 e sz (.slice a mm c) mm cs := h.ent _ hr.mem
 have hbl : (Ent.row a m' c (cs.take (m' * sz)) e sz).blocks = (Ent.row a mm c cs e sz).blocks := by cases a <;> rfl
 exact h.upd hr (Ext.refl _ _) (fun b hb => .inl (hbl ▸ hb)) (by cases a <;> simp [Ent.blocks]) (aUN ho hle)
theorem aXO {ex : Exit} {a : Option Addr} {mm m' c : Nat} {cs : List Value} {e : TypeId} {sz : Nat} (hr : Rep (.row a mm c cs e sz) (.row a m' c (cs.take (m' * sz)) e sz) M M') (hle : m' ≤ mm) (h : ND n Q ex G X w0 M' I) : ND n Q ex G X w0 M I := yO (fun _ hw => hw.pop hr hle) h
theorem Mem.rowA {w : World} {a : Option Addr} {mm c : Nat} {cs : List Value} {e : TypeId} {sz : Nat} (h : Mem X w0 M I w) (hm : .row a mm c cs e sz ∈ M) (h0 : 0 < mm) : ∃ b, a = some ⟨b, 0, none⟩ ∧ mm ≤ c := by
 have ho : w.ownsRow 0 e sz (.slice a mm c) mm cs := h.ent _ hm
 rcases ho.2 with ⟨_, h1⟩ | ⟨g, cap, cur, hv, _, _, hn, _⟩
 ·omega
 ·injection hv with e1 e2 e3
  exact ⟨g, e1, by omega⟩
end
end Go.Fx
namespace Go.Proofs.YtjbhdfpjnjedhaaGreat
open Go Go.Fx
def aCZ (t X Y : Int) (d : Int × Int) : Bool := decide ((X - 2 * t ≤ d.1 ∧ d.1 ≤ X) ∧ (Y - 2 * t ≤ d.2 ∧ d.2 ≤ Y))
def qB (l : List (Int × Int)) (t X Y : Int) : Nat := l.countP (aCZ t X Y)
def lexL (X Y x y : Int) : Prop := X < x ∨ (X = x ∧ Y ≤ y)
structure BestD (l : List (Int × Int)) (t X Y : Int) (n : Nat) : Prop where
 eq : n = qB l t X Y
 inx : ∃ d ∈ l, d.1 = X
 iny : ∃ d ∈ l, d.2 = Y
 max : ∀ a ∈ l, ∀ b ∈ l, qB l t a.1 b.2 ≤ n
 least : ∀ a ∈ l, ∀ b ∈ l, qB l t a.1 b.2 = n → lexL X Y a.1 b.2
theorem BestD.uniq {l : List (Int × Int)} {t X Y X' Y' : Int} {n n' : Nat} (h : BestD l t X Y n) (h' : BestD l t X' Y' n') : X = X' ∧ Y = Y' ∧ n = n' := by
 obtain ⟨a, ha, ea⟩ := h.inx
 obtain ⟨b, hb, eb⟩ := h.iny
 obtain ⟨a', ha', ea'⟩ := h'.inx
 obtain ⟨b', hb', eb'⟩ := h'.iny
 have e1 := h'.max a ha b hb
 have e2 := h.max a' ha' b' hb'
 rw [ea, eb, ← h.eq] at e1
 rw [ea', eb', ← h'.eq] at e2
 have en : n = n' := by omega
 have l1 := h'.least a ha b hb (by rw [ea, eb, ← h.eq]; exact en)
 have l2 := h.least a' ha' b' hb' (by rw [ea', eb', ← h'.eq]; exact en.symm)
 rw [ea, eb] at l1
 rw [ea', eb'] at l2
 unfold lexL at l1 l2
 refine ⟨?_, ?_, en⟩ <;> omega
structure Bst (l : List (Int × Int)) (t : Int) (V : Int → Int → Prop) (X Y : Int) (n : Nat) : Prop where
 eq : n = qB l t X Y
 mem : V X Y
 max : ∀ x y, V x y → qB l t x y ≤ n
 least : ∀ x y, V x y → qB l t x y = n → lexL X Y x y
def BInv (l : List (Int × Int)) (t : Int) (V : Int → Int → Prop) (X Y : Int) (n : Nat) : Prop := (n = 0 ∧ ∀ x y, V x y → qB l t x y = 0) ∨ (0 < n ∧ Bst l t V X Y n)
section
variable {l : List (Int × Int)} {t X Y x y : Int} {V V' : Int → Int → Prop} {n : Nat}
theorem BInv.le (h : BInv l t V X Y n) {a b : Int} (hv : V a b) : qB l t a b ≤ n := by
 rcases h with ⟨_, h⟩ | ⟨_, h⟩
 ·rw [h a b hv]; omega
 ·exact h.max a b hv
theorem BInv.more (h : BInv l t V X Y n) (hc : n < qB l t x y) (hV : ∀ a b, V' a b → V a b ∨ (a = x ∧ b = y)) (hm : V' x y) : BInv l t V' x y (qB l t x y) := by
 refine .inr ⟨by omega, rfl, hm, fun a b hv => ?_, fun a b hv he => ?_⟩
 ·rcases hV a b hv with h1 | ⟨rfl, rfl⟩
  ·have := h.le h1; omega
  ·omega
 ·rcases hV a b hv with h1 | ⟨rfl, rfl⟩
  ·have := h.le h1; omega
  ·exact .inr ⟨rfl, Int.le_refl _⟩
theorem BInv.keep (h : BInv l t V X Y n) (hc : qB l t x y ≤ n) (hl : 0 < n → qB l t x y = n → V X Y → lexL X Y x y) (hV : ∀ a b, V' a b → V a b ∨ (a = x ∧ b = y)) (hm : ∀ a b, V a b → V' a b) : BInv l t V' X Y n := by
 rcases h with ⟨h0, h⟩ | ⟨h0, h⟩
 ·refine .inl ⟨h0, fun a b hv => ?_⟩
  rcases hV a b hv with h1 | ⟨rfl, rfl⟩
  ·exact h a b h1
  ·omega
 ·refine .inr ⟨h0, h.eq, hm _ _ h.mem, fun a b hv => ?_, fun a b hv he => ?_⟩
  ·rcases hV a b hv with h1 | ⟨rfl, rfl⟩
   ·exact h.max a b h1
   ·exact hc
  ·rcases hV a b hv with h1 | ⟨rfl, rfl⟩
   ·exact h.least a b h1 he
   ·exact hl h0 he h.mem
theorem BInv.same (h : BInv l t V X Y n) (hV : ∀ a b, V' a b ↔ V a b) : BInv l t V' X Y n := by
 have e : V' = V := by funext a b; exact propext (hV a b)
 rw [e]; exact h
theorem aUF {d : Int × Int} (hd : d ∈ l) (ht : 0 ≤ t) : 0 < qB l t d.1 d.2 :=
 List.countP_pos_iff.2 ⟨d, hd, by simp only [aCZ, decide_eq_true_eq]; omega⟩
theorem BInv.best (h : BInv l t V X Y n) (hl : l ≠ []) (ht : 0 ≤ t) (h1 : ∀ a ∈ l, ∀ b ∈ l, V a.1 b.2) (h2 : ∀ x y, V x y → (∃ d ∈ l, d.1 = x) ∧ (∃ d ∈ l, d.2 = y)) : 0 < n ∧ BestD l t X Y n := by
 obtain ⟨d, r, rfl⟩ := List.exists_cons_of_ne_nil hl
 have hd : d ∈ d :: r := List.mem_cons_self
 have hp := aUF hd ht
 rcases h with ⟨h0, h⟩ | ⟨h0, h⟩
 ·have := h _ _ (h1 d hd d hd); omega
 ·exact ⟨h0, h.eq, (h2 _ _ h.mem).1, (h2 _ _ h.mem).2, fun a ha b hb => h.max _ _ (h1 a ha b hb), fun a ha b hb he => h.least _ _ (h1 a ha b hb) he⟩
end
theorem max2 : ∀ (L : List (Int × Int)), L ≠ [] → ∃ a ∈ L, ∀ b ∈ L, b.2 ≤ a.2
 | [], h => absurd rfl h
 | [d], _ => ⟨d, by simp, fun b hb => by simp at hb; rw [hb]; exact Int.le_refl _⟩
 | d :: e :: r, _ => by
  obtain ⟨a, ha, hm⟩ := max2 (e :: r) (by simp)
  by_cases h : d.2 ≤ a.2
  ·exact ⟨a, List.mem_cons_of_mem _ ha, fun b hb => by
    rcases List.mem_cons.1 hb with rfl | hb
    ·exact h
    ·exact hm b hb⟩
  ·exact ⟨d, List.mem_cons_self, fun b hb => by
    rcases List.mem_cons.1 hb with rfl | hb
    ·exact Int.le_refl _
    ·have := hm b hb; omega⟩
def abR (q : Rat) : Rat := if q < 0 then -q else q
def winR (t : Int) (s r : Rat) (d : Int × Int) : Bool := decide (abR ((d.1 : Rat) - s) ≤ (t : Rat) ∧ abR ((d.2 : Rat) - r) ≤ (t : Rat))
/- ---------- duplicates taken out of a sorted list ---------- -/
def mO : List Int → List Int
 | [] => []
 | [x] => [x]
 | x :: y :: r => if x = y then mO (y :: r) else x :: mO (y :: r)
theorem aBL : ∀ (l : List Int) (y x : Int), mO (l ++ [y, x]) = if x = y then mO (l ++ [y]) else mO (l ++ [y]) ++ [x]
 | [], y, x => by
  show (if y = x then mO [x] else y :: mO [x]) = _
  by_cases h : x = y
  ·subst h; simp [mO]
  ·rw [if_neg h, if_neg (fun e => h e.symm)]; rfl
 | [a], y, x => by
  have ih := aBL [] y x
  simp only [List.nil_append] at ih
  show (if a = y then mO [y, x] else a :: mO [y, x]) = if x = y then (if a = y then mO [y] else a :: mO [y]) else (if a = y then mO [y] else a :: mO [y]) ++ [x]
  rw [ih]
  by_cases h : a = y <;> by_cases h2 : x = y <;> simp [h, h2]
 | a :: b :: r, y, x => by
  have ih := aBL (b :: r) y x
  show (if a = b then mO (b :: (r ++ [y, x])) else a :: mO (b :: (r ++ [y, x]))) = if x = y then (if a = b then mO (b :: (r ++ [y])) else a :: mO (b :: (r ++ [y]))) else (if a = b then mO (b :: (r ++ [y])) else a :: mO (b :: (r ++ [y]))) ++ [x]
  rw [List.cons_append, List.cons_append] at ih
  rw [ih]
  by_cases h : a = b <;> by_cases h2 : x = y <;> simp [h, h2]
theorem aFO : ∀ (l : List Int), (mO l).length ≤ l.length
 | [] => Nat.le_refl _
 | [x] => Nat.le_refl _
 | x :: y :: r => by
  have ih := aFO (y :: r)
  show (if x = y then mO (y :: r) else x :: mO (y :: r)).length ≤ _
  split
  ·simp at ih ⊢; omega
  ·simp at ih ⊢; omega
theorem aAC : ∀ (l : List Int) (z : Int), z ∈ mO l ↔ z ∈ l
 | [], z => Iff.rfl
 | [x], z => Iff.rfl
 | x :: y :: r, z => by
  have ih := aAC (y :: r) z
  show z ∈ (if x = y then mO (y :: r) else x :: mO (y :: r)) ↔ _
  by_cases h : x = y
  ·rw [if_pos h, ih, List.mem_cons (b := x), h]
   constructor
   ·exact fun h => .inr h
   ·rintro (rfl | h)
    ·exact List.mem_cons_self
    ·exact h
  ·rw [if_neg h, List.mem_cons, ih, List.mem_cons (b := x)]
def aGC (l : List Int) : Prop := l.Pairwise (· < ·)
def asw (l : List Int) : Prop := l.Pairwise (· ≤ ·)
theorem aRH {y : Int} {r : List Int} : ∃ t, mO (y :: r) = y :: t := by
 induction r generalizing y with
 | nil => exact ⟨[], rfl⟩
 | cons z r ih =>
  show ∃ t, (if y = z then mO (z :: r) else y :: mO (z :: r)) = y :: t
  by_cases h : y = z
  ·subst h; rw [if_pos rfl]; exact ih
  ·rw [if_neg h]; exact ⟨_, rfl⟩
theorem aGA : ∀ {l : List Int}, asw l → aGC (mO l)
 | [], _ => List.Pairwise.nil
 | [x], _ => by unfold aGC mO; simp
 | x :: y :: r, h => by
  have h' := List.pairwise_cons.1 h
  have ih := aGA (l := y :: r) h'.2
  show aGC (if x = y then mO (y :: r) else x :: mO (y :: r))
  by_cases e : x = y
  ·rw [if_pos e]; exact ih
  ·rw [if_neg e]
   refine List.pairwise_cons.2 ⟨fun z hz => ?_, ih⟩
   rw [aAC] at hz
   have h1 := h'.1 y List.mem_cons_self
   rcases List.mem_cons.1 hz with rfl | hz2
   ·omega
   ·have := (List.pairwise_cons.1 h'.2).1 z hz2
    omega
theorem yF : ∀ {l : List Int}, aGC l → ∀ j : Nat, ∃ i : Nat, i ≤ j ∧ mO (l ++ List.replicate j 0) = l ++ List.replicate i 0
 | [], _, 0 => ⟨0, Nat.le_refl _, rfl⟩
 | [], _, j + 1 => by
  refine ⟨1, by omega, ?_⟩
  have : ∀ j : Nat, mO (List.replicate (j + 1) (0 : Int)) = [0] := by
   intro j
   induction j with
   | zero => rfl
   | succ j ih =>
    show (if (0 : Int) = 0 then mO (List.replicate (j + 1) (0 : Int)) else _) = _
    rw [if_pos rfl]; exact ih
  exact this j
 | [x], _, 0 => ⟨0, Nat.le_refl _, rfl⟩
 | [x], h, j + 1 => by
  obtain ⟨i, hi, e⟩ := yF (l := []) List.Pairwise.nil (j + 1)
  simp only [List.nil_append] at e
  by_cases hx : x = 0
  ·subst hx
   have e2 : mO ([0] ++ List.replicate (j + 1) (0 : Int)) = mO (List.replicate (j + 1) (0 : Int)) := rfl
   rw [e2, e]
   cases i with
   | zero =>
    obtain ⟨t, ht⟩ := aRH (y := 0) (r := List.replicate j (0 : Int))
    have : mO (0 :: List.replicate j (0 : Int)) = [] := e
    rw [ht] at this
    cases this
   | succ i => exact ⟨i, by omega, rfl⟩
  ·refine ⟨i, hi, ?_⟩
   show (if x = 0 then mO (List.replicate (j + 1) (0 : Int)) else x :: mO (List.replicate (j + 1) (0 : Int))) = _
   rw [if_neg hx, e]
   rfl
 | x :: y :: r, h, j => by
  have h' := List.pairwise_cons.1 h
  obtain ⟨i, hi, e⟩ := yF h'.2 j
  have := h'.1 y List.mem_cons_self
  refine ⟨i, hi, ?_⟩
  show (if x = y then mO (y :: (r ++ List.replicate j 0)) else x :: mO (y :: (r ++ List.replicate j 0))) = _
  rw [if_neg (by omega)]
  exact congrArg (x :: ·) e
/- ---------- the program's order ---------- -/
def Vis (xs c : List Int) (i j : Nat) (x y : Int) : Prop := (∃ a : Nat, a < i ∧ a < xs.length ∧ x = gt xs (a : Int) ∧ y ∈ c) ∨ (i < xs.length ∧ x = gt xs (i : Int) ∧ ∃ b : Nat, b < j ∧ b < c.length ∧ y = gt c (b : Int))
theorem aPM {l : List Int} (h : aGC l) {a b : Nat} (hab : a < b) (hb : b < l.length) : gt l (a : Int) < gt l (b : Int) := by
 have := List.pairwise_iff_getElem.1 h a b (by omega) hb hab
 simpa [gt, List.getD, hb, show a < l.length by omega] using this
theorem aCC {l : List Int} {z : Int} : z ∈ l ↔ ∃ a : Nat, a < l.length ∧ z = gt l (a : Int) := by
 constructor
 ·intro h
  obtain ⟨a, ha, rfl⟩ := List.mem_iff_getElem.1 h
  exact ⟨a, ha, by simp [gt, List.getD, ha]⟩
 ·rintro ⟨a, ha, rfl⟩
  have : gt l (a : Int) = l[a] := by simp [gt, List.getD, ha]
  rw [this]; exact List.getElem_mem ha
theorem aPF (l : List (Int × Int)) (t x y : Int) : qB l t x y = 0 ∨ ∃ d ∈ l, qB l t x y ≤ qB l t x d.2 := by
 by_cases he : l.filter (aCZ t x y) = []
 ·exact .inl (by unfold qB; rw [List.countP_eq_length_filter, he]; rfl)
 ·obtain ⟨b, hb, mb⟩ := max2 _ he
  obtain ⟨hb1, hb2⟩ := List.mem_filter.1 hb
  refine .inr ⟨b, hb1, List.countP_mono_left (fun d hd hw => ?_)⟩
  have hm := mb d (List.mem_filter.2 ⟨hd, hw⟩)
  simp only [aCZ, decide_eq_true_eq] at hw hb2 ⊢
  omega
section
variable {l : List (Int × Int)} {t X Y : Int} {xs c : List Int} {i j n : Nat}
theorem xU {x y : Int} (hi : i < xs.length) (hj : j < c.length) : Vis xs c i (j + 1) x y ↔ Vis xs c i j x y ∨ (x = gt xs (i : Int) ∧ y = gt c (j : Int)) := by
 unfold Vis
 constructor
 ·rintro (h | ⟨h1, h2, b, h3, h4, h5⟩)
  ·exact .inl (.inl h)
  ·by_cases e : b = j
   ·subst e; exact .inr ⟨h2, h5⟩
   ·exact .inl (.inr ⟨h1, h2, b, by omega, h4, h5⟩)
 ·rintro ((h | ⟨h1, h2, b, h3, h4, h5⟩) | ⟨h1, h2⟩)
  ·exact .inl h
  ·exact .inr ⟨h1, h2, b, by omega, h4, h5⟩
  ·exact .inr ⟨hi, h1, j, by omega, hj, h2⟩
theorem aHM (hx : aGC xs) (hc : aGC c) (h : BInv l t (Vis xs c i j) X Y n) (hi : i < xs.length) (hj : j < c.length) :
  (n < qB l t (gt xs (i : Int)) (gt c (j : Int)) → BInv l t (Vis xs c i (j + 1)) (gt xs (i : Int)) (gt c (j : Int)) (qB l t (gt xs (i : Int)) (gt c (j : Int)))) ∧ (¬ n < qB l t (gt xs (i : Int)) (gt c (j : Int)) → BInv l t (Vis xs c i (j + 1)) X Y n) := by
 constructor
 ·intro hlt
  exact h.more hlt (fun a b hv => (xU hi hj).1 hv) ((xU hi hj).2 (.inr ⟨rfl, rfl⟩))
 ·intro hge
  refine h.keep (x := gt xs (i : Int)) (y := gt c (j : Int)) (by omega) (fun _ _ hV => ?_) (fun a b hv => (xU hi hj).1 hv) (fun a b hv => (xU hi hj).2 (.inl hv))
  unfold lexL
  rcases hV with ⟨a, h1, h2, h3, _⟩ | ⟨h1, h2, b, h3, h4, h5⟩
  ·left; rw [h3]; exact aPM hx h1 hi
  ·right; exact ⟨h2, by rw [h5]; exact Int.le_of_lt (aPM hc h3 hj)⟩
theorem aHP (hcl : c.length ≤ j) (hi : i < xs.length) (hl : ∀ d ∈ l, d.2 ∈ c) (h : BInv l t (Vis xs c i j) X Y n) (y : Int) : qB l t (gt xs (i : Int)) y ≤ n ∧ BInv l t (Vis xs c i (j + 1)) X Y n := by
 constructor
 ·rcases aPF l t (gt xs (i : Int)) y with h0 | ⟨d, hd, hle⟩
  ·omega
  ·obtain ⟨b, hb, e⟩ := aCC.1 (hl d hd)
   have := h.le (a := gt xs (i : Int)) (b := d.2) (.inr ⟨hi, rfl, b, by omega, hb, e⟩)
   omega
 ·refine h.same (fun a b => ?_)
  unfold Vis
  constructor
  ·rintro (h | ⟨h1, h2, b, h3, h4, h5⟩)
   ·exact .inl h
   ·exact .inr ⟨h1, h2, b, by omega, h4, h5⟩
  ·rintro (h | ⟨h1, h2, b, h3, h4, h5⟩)
   ·exact .inl h
   ·exact .inr ⟨h1, h2, b, by omega, h4, h5⟩
theorem aQN (h : BInv l t (Vis xs c i j) X Y n) (hi : i < xs.length) (hj : c.length ≤ j) : BInv l t (Vis xs c (i + 1) 0) X Y n := by
 refine h.same (fun a b => ?_)
 unfold Vis
 constructor
 ·rintro (⟨a, h1, h2, h3, h4⟩ | ⟨_, _, b, h3, _⟩)
  ·by_cases e : a = i
   ·subst e
    obtain ⟨b, hb, e⟩ := aCC.1 h4
    exact .inr ⟨hi, h3, b, by omega, hb, e⟩
   ·exact .inl ⟨a, by omega, h2, h3, h4⟩
  ·omega
 ·rintro (⟨a, h1, h2, h3, h4⟩ | ⟨h1, h2, b, h3, h4, h5⟩)
  ·exact .inl ⟨a, by omega, h2, h3, h4⟩
  ·exact .inl ⟨i, by omega, hi, h2, aCC.2 ⟨b, h4, h5⟩⟩
theorem aML : BInv l t (Vis xs c 0 0) X Y 0 := .inl ⟨rfl, fun x y hv => by
 rcases hv with ⟨a, h, _⟩ | ⟨_, _, b, h, _⟩ <;> omega⟩
theorem aTL (h : BInv l t (Vis xs c xs.length 0) X Y n) (hx : ∀ z, z ∈ xs ↔ ∃ d ∈ l, d.1 = z) (hc : ∀ z, z ∈ c ↔ ∃ d ∈ l, d.2 = z) (hl : l ≠ []) (ht : 0 ≤ t) : 0 < n ∧ BestD l t X Y n := by
 refine h.best hl ht (fun a ha b hb => ?_) (fun x y hv => ?_)
 ·obtain ⟨k, hk, e⟩ := aCC.1 ((hx a.1).2 ⟨a, ha, rfl⟩)
  exact .inl ⟨k, hk, hk, e, (hc b.2).2 ⟨b, hb, rfl⟩⟩
 ·rcases hv with ⟨a, h1, h2, h3, h4⟩ | ⟨h1, _⟩
  ·exact ⟨(hx x).1 (aCC.2 ⟨a, h2, h3⟩), (hc y).1 h4⟩
  ·omega
end
end Go.Proofs.YtjbhdfpjnjedhaaGreat

/- slices.Sorted of slices.Values at ints: a list of its own. make with length 0 and a capacity; a row cut short; where a row lies. The densest shift of integers, plain: which candidate is the best, and that no shift of fractions has more. clear of a slice of ints; indices of a slice that begins inside its block; slices.Compact of ints. The determinant by elimination, one column at a time. -/
import Derived.Test.YtjbhdfpjnjedhaaGreatZpbc
import Derived.Test.YtjbhdfpjnjedhaaGreatZpan
import Derived.Test.YtjbhdfpjnjedhaaGreatZpae
import Derived.Test.YtjbhdfpjnjedhaaGreatZpaf
import Derived.Test.YtjbhdfpjnjedhaaGreatZpad
import Derived.Lib.SliceRun
import Derived.Test.YtjbhdfpjnjedhaaGreatZpag
import Derived.Test.YtjbhdfpjnjedhaaGreatZpal
set_option linter.unusedSimpArgs false
set_option linter.unusedVariables false
set_option maxRecDepth 100000
set_option maxHeartbeats 4000000
namespace Go.Proofs.YtjbhdfpjnjedhaaGreat
open Go Go.Fx
section
variable {X : List Nat} {w0 : World} {M0 : List Ent} {I0 : List aY}
theorem aAT {q : Option Addr} {zs : List Int} {c b n : Nat} (hl : zs.length = n) (hn : 1 ≤ n ∧ n ≤ 12) (hb : aO (some ⟨b, 0, none⟩) [.slice q n c] ∈ I0) (hq : aO q (recs eZ zs) ∈ I0) :
  CD Tryz.prog 63 [.func (.func 108) #[] #[.pointer (some ⟨b, 0, none⟩)]] X w0 M0 I0 (fun v M I => I0 = I ∧ ∃ (b2 c2 : Nat) (tl : List Value), v = .slice (some ⟨b2, 0, none⟩) n c2 ∧ n ≤ c2 ∧ M = .blk b2 (recs eZ (yC id zs) ++ tl) 3 :: M0) := by
 subst hl
 have hA := fun M0 I0 hb hq => aTA (X := X) (w0 := w0) (M0 := M0) (I0 := I0) (q := q) (zs := zs) (c := c) (Bs := b) (by omega) hb hq
 have hC : ∀ M0 I0, aO (some ⟨b, 0, none⟩) [.slice q zs.length c] ∈ I0 → aO q (recs eZ zs) ∈ I0 → CD Tryz.prog 106 [.func (.func 108) #[] #[.pointer (some ⟨b, 0, none⟩)]] X w0 M0 I0 (fun v M I => I0 = I ∧ ∃ q' c', v = .slice q' zs.length c' ∧ M = .row q' zs.length c' (recs eZ zs) 3 1 :: M0) := fun M0 I0 h1 h2 => by
  refine aZ Tryz.func106 rfl Tryz.ntmps106 rfl ?_
  repeat (refine aK ?_)
  (refine aA rfl (hA _ _ aB aB) rfl rfl ?_; rintro _ _ _ ⟨rfl, q', c', rfl, rfl⟩; refine ⟨okF, ?_⟩)
  repeat (refine aK ?_)
  refine aH (by first | exact .inl rfl | exact .inr rfl) rfl rfl _ _ aD aC (⟨rfl, q', c', rfl, rfl⟩)
 refine aZ Tryz.func63 rfl Tryz.ntmps63 rfl ?_
 repeat (refine aK ?_)
 (refine aA rfl (hC _ _ aB aB) rfl rfl ?_; rintro _ _ _ ⟨rfl, q1, c1, rfl, rfl⟩; refine ⟨okF, ?_⟩)
 refine aCY (fun h1 h2 h3 => ?_) (fun bq tl e hle => ?_)
 ·omega
 ·subst e
  repeat (refine aK ?_)
  (refine aA rfl (aTF (b := bq) (tl := tl) (D := zs) rfl hn.2) rfl rfl ?_; rintro _ _ _ ⟨rfl, rfl⟩; refine ⟨okF, ?_⟩)
  repeat (refine aK ?_)
  refine aH (by first | exact .inl rfl | exact .inr rfl) rfl rfl _ _ aD aC (⟨rfl, bq, c1, tl, rfl, hle, rfl⟩)
end
end Go.Proofs.YtjbhdfpjnjedhaaGreat
namespace Go.Fx
section
variable {P : Program} {n : Nat} {ops : List Oper} {Q : Exit → Act → World → Prop} {m : Mode} {G : Env} {w : World} {ty : TypeId} {pos : String} {af : Array Edge} {g : Option (Nat × Bool)} {l : List Oper} {X : List Nat} {w0 : World} {M M' : List Ent} {I : List aY}
theorem aLL {t e : TypeId} {sz sz' by_ : Nat} {z : List Value} {lo co : Operand} {k k' : IntKind} {mm : Nat} [ht : SliceTy P t e sz'] [hz : ElemTy P e sz by_ z]
  (hl : ev G lo = some (.int k 0)) (hc : ev G co = some (.int k' (mm : Int))) (hb : (by_ : Int) * (mm : Int) ≤ 281474976710656) (hm : (mm : Int) ≤ 9223372036854775807) :
  Eff P n G (.makeSlice t lo co) ty w (fun v w' => ∃ b, b = w.heap.size ∧ v = .slice (some ⟨b, 0, none⟩) 0 mm ∧ w'.ownsRow 0 e sz (.slice (some ⟨b, 0, none⟩) 0 mm) 0 [] ∧ Ext [] w w' ∧ b < w'.heap.size) := by
 refine ⟨?_⟩
 intro a ha dst pos after guard
 obtain ⟨i, v, hi, hs, hby, hzv, hcl⟩ := uA hz
 have hr := run_make (P := P) w t e i v ht.und hi hzv k k' 0 mm (by omega) (by omega) (by rw [hby]; exact hb) hm
 refine sM (v := .slice (some ⟨w.heap.size, 0, none⟩) 0 mm) (w' := w.alloc (.cells (madeCells z.toArray (mm * sz)) e)) ?_ ⟨_, ⟨_, rfl, rfl, ⟨by simp, .inr ⟨w.heap.size, mm, madeCells z.toArray (mm * sz), rfl, Nat.zero_le _, heap_alloc_new w _, Nat.zero_le _, by show mm ≤ 9223372036854775807; omega, size_madeCells _ _, by simp⟩⟩, Ext.alloc _ _ _, by simp⟩, rfl⟩
 simp only [Int.toNat_natCast, hs, hcl] at hr
 simp [execOp, ha.ev hl, ha.ev hc, hr]
theorem aRY {d : Nat} {t e : TypeId} {sz sz' by_ : Nat} {z : List Value} {lo co : Operand} {k1 k2 : IntKind} (mm : Nat) {x2 : Int} [SliceTy P t e sz'] [ElemTy P e sz by_ z]
  (hl : ev G lo = some (.int k1 0)) (hc : ev G co = some (.int k2 x2)) (e2 : x2 = mm) (hb : (by_ : Int) * (mm : Int) ≤ 281474976710656) (hm : (mm : Int) ≤ 9223372036854775807) (hg : oM ops G g = some true) (hd : Nat.ble (d + 1) n = true)
  (k : ∀ b, OkD m X w0 (.row (some ⟨b, 0, none⟩) 0 mm [] e sz :: M) I ∧ RD P n ops Q m.nextE l ((d, .slice (some ⟨b, 0, none⟩) 0 mm) :: G) X w0 (.row (some ⟨b, 0, none⟩) 0 mm [] e sz :: M) I) :
  RD P n ops Q m (⟨some d, .makeSlice t lo co, ty, pos, af, g⟩ :: l) G X w0 M I := by
 subst e2
 exact yX (d := some d) (K := fun v' M' I' => ∃ b, v' = .slice (some ⟨b, 0, none⟩) 0 mm ∧ M' = .row (some ⟨b, 0, none⟩) 0 mm [] e sz :: M ∧ I' = I) hg
  (fun w hw => (aLL (mm := mm) hl hc hb hm).mono (fun _ w' ⟨b, hb, hp, hB, hE, _⟩ => ⟨_, _, ⟨b, hp, rfl, rfl⟩, hw.push hE (by simp [Ent.blocks, hb]) (by simp [Ent.blocks]) hB⟩)) rfl hd
  (fun _ _ _ ⟨b, hp, hM, hI⟩ => by subst hp; subst hM; subst hI; exact k b)
end
end Go.Fx
namespace Go.Fx
section
variable {P : Program} {n : Nat} {ops : List Oper} {Q : Exit → Act → World → Prop} {m : Mode} {G : Env} {l : List Oper} {X : List Nat} {w0 : World} {M M' : List Ent} {I : List aY}
theorem aSJ {w : World} {base : Nat} {e : TypeId} {sz mm m' c : Nat} {a : Option Addr} {xs : List Value} (h : w.ownsRow base e sz (.slice a mm c) mm xs) (hle : m' ≤ mm) : w.ownsRow base e sz (.slice a m' c) m' (xs.take (m' * sz)) := by
 obtain ⟨h1, h2⟩ := h
 have h3 : m' * sz ≤ mm * sz := Nat.mul_le_mul_right _ hle
 refine ⟨by rw [List.length_take, h1, Nat.min_eq_left h3], ?_⟩
 rcases h2 with ⟨hv, h0⟩ | ⟨g, cap, cur, hv, hb, hc, hn, hm, hs, ht⟩
 ·subst h0
  obtain rfl : m' = 0 := by omega
  exact .inl ⟨hv, rfl⟩
 ·injection hv with e1 e2 e3
  subst e1; subst e3
  exact .inr ⟨g, c, cur, rfl, hb, hc, by omega, hm, hs, by rw [← ht, List.take_take, Nat.min_eq_left h3]⟩
theorem Mem.pop {w : World} {a : Option Addr} {mm m' c : Nat} {cs : List Value} {e : TypeId} {sz : Nat} (h : Mem X w0 M I w) (hr : Rep (.row a mm c cs e sz) (.row a m' c (cs.take (m' * sz)) e sz) M M') (hle : m' ≤ mm) : Mem X w0 M' I w := by
 have ho : w.ownsRow 0 e sz (.slice a mm c) mm cs := h.ent _ hr.mem
 have hbl : (Ent.row a m' c (cs.take (m' * sz)) e sz).blocks = (Ent.row a mm c cs e sz).blocks := by cases a <;> rfl
 exact h.upd hr (Ext.refl _ _) (fun b hb => .inl (hbl ▸ hb)) (by cases a <;> simp [Ent.blocks]) (aSJ ho hle)
theorem aVK {ex : Exit} {a : Option Addr} {mm m' c : Nat} {cs : List Value} {e : TypeId} {sz : Nat} (hr : Rep (.row a mm c cs e sz) (.row a m' c (cs.take (m' * sz)) e sz) M M') (hle : m' ≤ mm) (h : ND n Q ex G X w0 M' I) : ND n Q ex G X w0 M I := yY (fun _ hw => hw.pop hr hle) h
theorem Mem.rowA {w : World} {a : Option Addr} {mm c : Nat} {cs : List Value} {e : TypeId} {sz : Nat} (h : Mem X w0 M I w) (hm : .row a mm c cs e sz ∈ M) (h0 : 0 < mm) : ∃ b, a = some ⟨b, 0, none⟩ ∧ mm ≤ c := by
 have ho : w.ownsRow 0 e sz (.slice a mm c) mm cs := h.ent _ hm
 rcases ho.2 with ⟨_, h1⟩ | ⟨g, cap, cur, hv, _, _, hn, _⟩
 ·omega
 ·injection hv with e1 e2 e3
  exact ⟨g, e1, by omega⟩
end
end Go.Fx
namespace Go.Proofs.YtjbhdfpjnjedhaaGreat
open Go Go.Fx
def aCL (t X Y : Int) (d : Int × Int) : Bool := decide ((X - 2 * t ≤ d.1 ∧ d.1 ≤ X) ∧ (Y - 2 * t ≤ d.2 ∧ d.2 ≤ Y))
def pX (l : List (Int × Int)) (t X Y : Int) : Nat := l.countP (aCL t X Y)
def lexL (X Y x y : Int) : Prop := X < x ∨ (X = x ∧ Y ≤ y)
structure BestD (l : List (Int × Int)) (t X Y : Int) (n : Nat) : Prop where
 eq : n = pX l t X Y
 inx : ∃ d ∈ l, d.1 = X
 iny : ∃ d ∈ l, d.2 = Y
 max : ∀ a ∈ l, ∀ b ∈ l, pX l t a.1 b.2 ≤ n
 least : ∀ a ∈ l, ∀ b ∈ l, pX l t a.1 b.2 = n → lexL X Y a.1 b.2
theorem BestD.uniq {l : List (Int × Int)} {t X Y X' Y' : Int} {n n' : Nat} (h : BestD l t X Y n) (h' : BestD l t X' Y' n') : X = X' ∧ Y = Y' ∧ n = n' := by
 obtain ⟨a, ha, ea⟩ := h.inx
 obtain ⟨b, hb, eb⟩ := h.iny
 obtain ⟨a', ha', ea'⟩ := h'.inx
 obtain ⟨b', hb', eb'⟩ := h'.iny
 have e1 := h'.max a ha b hb
 have e2 := h.max a' ha' b' hb'
 rw [ea, eb, ← h.eq] at e1
 rw [ea', eb', ← h'.eq] at e2
 have en : n = n' := by omega
 have l1 := h'.least a ha b hb (by rw [ea, eb, ← h.eq]; exact en)
 have l2 := h.least a' ha' b' hb' (by rw [ea', eb', ← h'.eq]; exact en.symm)
 rw [ea, eb] at l1
 rw [ea', eb'] at l2
 unfold lexL at l1 l2
 refine ⟨?_, ?_, en⟩ <;> omega
structure Bst (l : List (Int × Int)) (t : Int) (V : Int → Int → Prop) (X Y : Int) (n : Nat) : Prop where
 eq : n = pX l t X Y
 mem : V X Y
 max : ∀ x y, V x y → pX l t x y ≤ n
 least : ∀ x y, V x y → pX l t x y = n → lexL X Y x y
def BInv (l : List (Int × Int)) (t : Int) (V : Int → Int → Prop) (X Y : Int) (n : Nat) : Prop := (n = 0 ∧ ∀ x y, V x y → pX l t x y = 0) ∨ (0 < n ∧ Bst l t V X Y n)
section
variable {l : List (Int × Int)} {t X Y x y : Int} {V V' : Int → Int → Prop} {n : Nat}
theorem BInv.le (h : BInv l t V X Y n) {a b : Int} (hv : V a b) : pX l t a b ≤ n := by
 rcases h with ⟨_, h⟩ | ⟨_, h⟩
 ·rw [h a b hv]; omega
 ·exact h.max a b hv
theorem BInv.more (h : BInv l t V X Y n) (hc : n < pX l t x y) (hV : ∀ a b, V' a b → V a b ∨ (a = x ∧ b = y)) (hm : V' x y) : BInv l t V' x y (pX l t x y) := by
 refine .inr ⟨by omega, rfl, hm, fun a b hv => ?_, fun a b hv he => ?_⟩
 ·rcases hV a b hv with h1 | ⟨rfl, rfl⟩
  ·have := h.le h1; omega
  ·omega
 ·rcases hV a b hv with h1 | ⟨rfl, rfl⟩
  ·have := h.le h1; omega
  ·exact .inr ⟨rfl, Int.le_refl _⟩
theorem BInv.keep (h : BInv l t V X Y n) (hc : pX l t x y ≤ n) (hl : 0 < n → pX l t x y = n → V X Y → lexL X Y x y) (hV : ∀ a b, V' a b → V a b ∨ (a = x ∧ b = y)) (hm : ∀ a b, V a b → V' a b) : BInv l t V' X Y n := by
 rcases h with ⟨h0, h⟩ | ⟨h0, h⟩
 ·refine .inl ⟨h0, fun a b hv => ?_⟩
  rcases hV a b hv with h1 | ⟨rfl, rfl⟩
  ·exact h a b h1
  ·omega
 ·refine .inr ⟨h0, h.eq, hm _ _ h.mem, fun a b hv => ?_, fun a b hv he => ?_⟩
  ·rcases hV a b hv with h1 | ⟨rfl, rfl⟩
   ·exact h.max a b h1
   ·exact hc
  ·rcases hV a b hv with h1 | ⟨rfl, rfl⟩
   ·exact h.least a b h1 he
   ·exact hl h0 he h.mem
theorem BInv.same (h : BInv l t V X Y n) (hV : ∀ a b, V' a b ↔ V a b) : BInv l t V' X Y n := by
 have e : V' = V := by funext a b; exact propext (hV a b)
 rw [e]; exact h
theorem aTD {d : Int × Int} (hd : d ∈ l) (ht : 0 ≤ t) : 0 < pX l t d.1 d.2 :=
 List.countP_pos_iff.2 ⟨d, hd, by simp only [aCL, decide_eq_true_eq]; omega⟩
theorem BInv.best (h : BInv l t V X Y n) (hl : l ≠ []) (ht : 0 ≤ t) (h1 : ∀ a ∈ l, ∀ b ∈ l, V a.1 b.2) (h2 : ∀ x y, V x y → (∃ d ∈ l, d.1 = x) ∧ (∃ d ∈ l, d.2 = y)) : 0 < n ∧ BestD l t X Y n := by
 obtain ⟨d, r, rfl⟩ := List.exists_cons_of_ne_nil hl
 have hd : d ∈ d :: r := List.mem_cons_self
 have hp := aTD hd ht
 rcases h with ⟨h0, h⟩ | ⟨h0, h⟩
 ·have := h _ _ (h1 d hd d hd); omega
 ·exact ⟨h0, h.eq, (h2 _ _ h.mem).1, (h2 _ _ h.mem).2, fun a ha b hb => h.max _ _ (h1 a ha b hb), fun a ha b hb he => h.least _ _ (h1 a ha b hb) he⟩
end
theorem max2 : ∀ (L : List (Int × Int)), L ≠ [] → ∃ a ∈ L, ∀ b ∈ L, b.2 ≤ a.2
 | [], h => absurd rfl h
 | [d], _ => ⟨d, by simp, fun b hb => by simp at hb; rw [hb]; exact Int.le_refl _⟩
 | d :: e :: r, _ => by
  obtain ⟨a, ha, hm⟩ := max2 (e :: r) (by simp)
  by_cases h : d.2 ≤ a.2
  ·exact ⟨a, List.mem_cons_of_mem _ ha, fun b hb => by
    rcases List.mem_cons.1 hb with rfl | hb
    ·exact h
    ·exact hm b hb⟩
  ·exact ⟨d, List.mem_cons_self, fun b hb => by
    rcases List.mem_cons.1 hb with rfl | hb
    ·exact Int.le_refl _
    ·have := hm b hb; omega⟩
def abR (q : Rat) : Rat := if q < 0 then -q else q
def winR (t : Int) (s r : Rat) (d : Int × Int) : Bool := decide (abR ((d.1 : Rat) - s) ≤ (t : Rat) ∧ abR ((d.2 : Rat) - r) ≤ (t : Rat))
/- ---------- duplicates taken out of a sorted list ---------- -/
def mG : List Int → List Int
 | [] => []
 | [x] => [x]
 | x :: y :: r => if x = y then mG (y :: r) else x :: mG (y :: r)
theorem aCB : ∀ (l : List Int) (y x : Int), mG (l ++ [y, x]) = if x = y then mG (l ++ [y]) else mG (l ++ [y]) ++ [x]
 | [], y, x => by
  show (if y = x then mG [x] else y :: mG [x]) = _
  by_cases h : x = y
  ·subst h; simp [mG]
  ·rw [if_neg h, if_neg (fun e => h e.symm)]; rfl
 | [a], y, x => by
  have ih := aCB [] y x
  simp only [List.nil_append] at ih
  show (if a = y then mG [y, x] else a :: mG [y, x]) = if x = y then (if a = y then mG [y] else a :: mG [y]) else (if a = y then mG [y] else a :: mG [y]) ++ [x]
  rw [ih]
  by_cases h : a = y <;> by_cases h2 : x = y <;> simp [h, h2]
 | a :: b :: r, y, x => by
  have ih := aCB (b :: r) y x
  show (if a = b then mG (b :: (r ++ [y, x])) else a :: mG (b :: (r ++ [y, x]))) = if x = y then (if a = b then mG (b :: (r ++ [y])) else a :: mG (b :: (r ++ [y]))) else (if a = b then mG (b :: (r ++ [y])) else a :: mG (b :: (r ++ [y]))) ++ [x]
  rw [List.cons_append, List.cons_append] at ih
  rw [ih]
  by_cases h : a = b <;> by_cases h2 : x = y <;> simp [h, h2]
theorem aEB : ∀ (l : List Int), (mG l).length ≤ l.length
 | [] => Nat.le_refl _
 | [x] => Nat.le_refl _
 | x :: y :: r => by
  have ih := aEB (y :: r)
  show (if x = y then mG (y :: r) else x :: mG (y :: r)).length ≤ _
  split
  ·simp at ih ⊢; omega
  ·simp at ih ⊢; omega
theorem zD : ∀ (l : List Int) (z : Int), z ∈ mG l ↔ z ∈ l
 | [], z => Iff.rfl
 | [x], z => Iff.rfl
 | x :: y :: r, z => by
  have ih := zD (y :: r) z
  show z ∈ (if x = y then mG (y :: r) else x :: mG (y :: r)) ↔ _
  by_cases h : x = y
  ·rw [if_pos h, ih, List.mem_cons (b := x), h]
   constructor
   ·exact fun h => .inr h
   ·rintro (rfl | h)
    ·exact List.mem_cons_self
    ·exact h
  ·rw [if_neg h, List.mem_cons, ih, List.mem_cons (b := x)]
def aFA (l : List Int) : Prop := l.Pairwise (· < ·)
def asw (l : List Int) : Prop := l.Pairwise (· ≤ ·)
theorem aRV {y : Int} {r : List Int} : ∃ t, mG (y :: r) = y :: t := by
 induction r generalizing y with
 | nil => exact ⟨[], rfl⟩
 | cons z r ih =>
  show ∃ t, (if y = z then mG (z :: r) else y :: mG (z :: r)) = y :: t
  by_cases h : y = z
  ·subst h; rw [if_pos rfl]; exact ih
  ·rw [if_neg h]; exact ⟨_, rfl⟩
theorem aEQ : ∀ {l : List Int}, asw l → aFA (mG l)
 | [], _ => List.Pairwise.nil
 | [x], _ => by unfold aFA mG; simp
 | x :: y :: r, h => by
  have h' := List.pairwise_cons.1 h
  have ih := aEQ (l := y :: r) h'.2
  show aFA (if x = y then mG (y :: r) else x :: mG (y :: r))
  by_cases e : x = y
  ·rw [if_pos e]; exact ih
  ·rw [if_neg e]
   refine List.pairwise_cons.2 ⟨fun z hz => ?_, ih⟩
   rw [zD] at hz
   have h1 := h'.1 y List.mem_cons_self
   rcases List.mem_cons.1 hz with rfl | hz2
   ·omega
   ·have := (List.pairwise_cons.1 h'.2).1 z hz2
    omega
theorem xK : ∀ {l : List Int}, aFA l → ∀ j : Nat, ∃ i : Nat, i ≤ j ∧ mG (l ++ List.replicate j 0) = l ++ List.replicate i 0
 | [], _, 0 => ⟨0, Nat.le_refl _, rfl⟩
 | [], _, j + 1 => by
  refine ⟨1, by omega, ?_⟩
  have : ∀ j : Nat, mG (List.replicate (j + 1) (0 : Int)) = [0] := by
   intro j
   induction j with
   | zero => rfl
   | succ j ih =>
    show (if (0 : Int) = 0 then mG (List.replicate (j + 1) (0 : Int)) else _) = _
    rw [if_pos rfl]; exact ih
  exact this j
 | [x], _, 0 => ⟨0, Nat.le_refl _, rfl⟩
 | [x], h, j + 1 => by
  obtain ⟨i, hi, e⟩ := xK (l := []) List.Pairwise.nil (j + 1)
  simp only [List.nil_append] at e
  by_cases hx : x = 0
  ·subst hx
   have e2 : mG ([0] ++ List.replicate (j + 1) (0 : Int)) = mG (List.replicate (j + 1) (0 : Int)) := rfl
   rw [e2, e]
   cases i with
   | zero =>
    obtain ⟨t, ht⟩ := aRV (y := 0) (r := List.replicate j (0 : Int))
    have : mG (0 :: List.replicate j (0 : Int)) = [] := e
    rw [ht] at this
    cases this
   | succ i => exact ⟨i, by omega, rfl⟩
  ·refine ⟨i, hi, ?_⟩
   show (if x = 0 then mG (List.replicate (j + 1) (0 : Int)) else x :: mG (List.replicate (j + 1) (0 : Int))) = _
   rw [if_neg hx, e]
   rfl
 | x :: y :: r, h, j => by
  have h' := List.pairwise_cons.1 h
  obtain ⟨i, hi, e⟩ := xK h'.2 j
  have := h'.1 y List.mem_cons_self
  refine ⟨i, hi, ?_⟩
  show (if x = y then mG (y :: (r ++ List.replicate j 0)) else x :: mG (y :: (r ++ List.replicate j 0))) = _
  rw [if_neg (by omega)]
  exact congrArg (x :: ·) e
/- ---------- the program's order ---------- -/
def Vis (xs c : List Int) (i j : Nat) (x y : Int) : Prop := (∃ a : Nat, a < i ∧ a < xs.length ∧ x = gt xs (a : Int) ∧ y ∈ c) ∨ (i < xs.length ∧ x = gt xs (i : Int) ∧ ∃ b : Nat, b < j ∧ b < c.length ∧ y = gt c (b : Int))
theorem aRM {l : List Int} (h : aFA l) {a b : Nat} (hab : a < b) (hb : b < l.length) : gt l (a : Int) < gt l (b : Int) := by
 have := List.pairwise_iff_getElem.1 h a b (by omega) hb hab
 simpa [gt, List.getD, hb, show a < l.length by omega] using this
theorem zY {l : List Int} {z : Int} : z ∈ l ↔ ∃ a : Nat, a < l.length ∧ z = gt l (a : Int) := by
 constructor
 ·intro h
  obtain ⟨a, ha, rfl⟩ := List.mem_iff_getElem.1 h
  exact ⟨a, ha, by simp [gt, List.getD, ha]⟩
 ·rintro ⟨a, ha, rfl⟩
  have : gt l (a : Int) = l[a] := by simp [gt, List.getD, ha]
  rw [this]; exact List.getElem_mem ha
theorem aOA (l : List (Int × Int)) (t x y : Int) : pX l t x y = 0 ∨ ∃ d ∈ l, pX l t x y ≤ pX l t x d.2 := by
 by_cases he : l.filter (aCL t x y) = []
 ·exact .inl (by unfold pX; rw [List.countP_eq_length_filter, he]; rfl)
 ·obtain ⟨b, hb, mb⟩ := max2 _ he
  obtain ⟨hb1, hb2⟩ := List.mem_filter.1 hb
  refine .inr ⟨b, hb1, List.countP_mono_left (fun d hd hw => ?_)⟩
  have hm := mb d (List.mem_filter.2 ⟨hd, hw⟩)
  simp only [aCL, decide_eq_true_eq] at hw hb2 ⊢
  omega
section
variable {l : List (Int × Int)} {t X Y : Int} {xs c : List Int} {i j n : Nat}
theorem wY {x y : Int} (hi : i < xs.length) (hj : j < c.length) : Vis xs c i (j + 1) x y ↔ Vis xs c i j x y ∨ (x = gt xs (i : Int) ∧ y = gt c (j : Int)) := by
 unfold Vis
 constructor
 ·rintro (h | ⟨h1, h2, b, h3, h4, h5⟩)
  ·exact .inl (.inl h)
  ·by_cases e : b = j
   ·subst e; exact .inr ⟨h2, h5⟩
   ·exact .inl (.inr ⟨h1, h2, b, by omega, h4, h5⟩)
 ·rintro ((h | ⟨h1, h2, b, h3, h4, h5⟩) | ⟨h1, h2⟩)
  ·exact .inl h
  ·exact .inr ⟨h1, h2, b, by omega, h4, h5⟩
  ·exact .inr ⟨hi, h1, j, by omega, hj, h2⟩
theorem aGT (hx : aFA xs) (hc : aFA c) (h : BInv l t (Vis xs c i j) X Y n) (hi : i < xs.length) (hj : j < c.length) :
  (n < pX l t (gt xs (i : Int)) (gt c (j : Int)) → BInv l t (Vis xs c i (j + 1)) (gt xs (i : Int)) (gt c (j : Int)) (pX l t (gt xs (i : Int)) (gt c (j : Int)))) ∧ (¬ n < pX l t (gt xs (i : Int)) (gt c (j : Int)) → BInv l t (Vis xs c i (j + 1)) X Y n) := by
 constructor
 ·intro hlt
  exact h.more hlt (fun a b hv => (wY hi hj).1 hv) ((wY hi hj).2 (.inr ⟨rfl, rfl⟩))
 ·intro hge
  refine h.keep (x := gt xs (i : Int)) (y := gt c (j : Int)) (by omega) (fun _ _ hV => ?_) (fun a b hv => (wY hi hj).1 hv) (fun a b hv => (wY hi hj).2 (.inl hv))
  unfold lexL
  rcases hV with ⟨a, h1, h2, h3, _⟩ | ⟨h1, h2, b, h3, h4, h5⟩
  ·left; rw [h3]; exact aRM hx h1 hi
  ·right; exact ⟨h2, by rw [h5]; exact Int.le_of_lt (aRM hc h3 hj)⟩
theorem aGK (hcl : c.length ≤ j) (hi : i < xs.length) (hl : ∀ d ∈ l, d.2 ∈ c) (h : BInv l t (Vis xs c i j) X Y n) (y : Int) : pX l t (gt xs (i : Int)) y ≤ n ∧ BInv l t (Vis xs c i (j + 1)) X Y n := by
 constructor
 ·rcases aOA l t (gt xs (i : Int)) y with h0 | ⟨d, hd, hle⟩
  ·omega
  ·obtain ⟨b, hb, e⟩ := zY.1 (hl d hd)
   have := h.le (a := gt xs (i : Int)) (b := d.2) (.inr ⟨hi, rfl, b, by omega, hb, e⟩)
   omega
 ·refine h.same (fun a b => ?_)
  unfold Vis
  constructor
  ·rintro (h | ⟨h1, h2, b, h3, h4, h5⟩)
   ·exact .inl h
   ·exact .inr ⟨h1, h2, b, by omega, h4, h5⟩
  ·rintro (h | ⟨h1, h2, b, h3, h4, h5⟩)
   ·exact .inl h
   ·exact .inr ⟨h1, h2, b, by omega, h4, h5⟩
theorem aQA (h : BInv l t (Vis xs c i j) X Y n) (hi : i < xs.length) (hj : c.length ≤ j) : BInv l t (Vis xs c (i + 1) 0) X Y n := by
 refine h.same (fun a b => ?_)
 unfold Vis
 constructor
 ·rintro (⟨a, h1, h2, h3, h4⟩ | ⟨_, _, b, h3, _⟩)
  ·by_cases e : a = i
   ·subst e
    obtain ⟨b, hb, e⟩ := zY.1 h4
    exact .inr ⟨hi, h3, b, by omega, hb, e⟩
   ·exact .inl ⟨a, by omega, h2, h3, h4⟩
  ·omega
 ·rintro (⟨a, h1, h2, h3, h4⟩ | ⟨h1, h2, b, h3, h4, h5⟩)
  ·exact .inl ⟨a, by omega, h2, h3, h4⟩
  ·exact .inl ⟨i, by omega, hi, h2, zY.2 ⟨b, h4, h5⟩⟩
theorem aLY : BInv l t (Vis xs c 0 0) X Y 0 := .inl ⟨rfl, fun x y hv => by
 rcases hv with ⟨a, h, _⟩ | ⟨_, _, b, h, _⟩ <;> omega⟩
theorem aUF (h : BInv l t (Vis xs c xs.length 0) X Y n) (hx : ∀ z, z ∈ xs ↔ ∃ d ∈ l, d.1 = z) (hc : ∀ z, z ∈ c ↔ ∃ d ∈ l, d.2 = z) (hl : l ≠ []) (ht : 0 ≤ t) : 0 < n ∧ BestD l t X Y n := by
 refine h.best hl ht (fun a ha b hb => ?_) (fun x y hv => ?_)
 ·obtain ⟨k, hk, e⟩ := zY.1 ((hx a.1).2 ⟨a, ha, rfl⟩)
  exact .inl ⟨k, hk, hk, e, (hc b.2).2 ⟨b, hb, rfl⟩⟩
 ·rcases hv with ⟨a, h1, h2, h3, h4⟩ | ⟨h1, _⟩
  ·exact ⟨(hx x).1 (zY.2 ⟨a, h2, h3⟩), (hc y).1 h4⟩
  ·omega
end
end Go.Proofs.YtjbhdfpjnjedhaaGreat
namespace Go.Fx
section
variable {P : Program} {n : Nat} {ops : List Oper} {Q : Exit → Act → World → Prop} {m : Mode} {G : Env} {w : World} {ty : TypeId} {pos : String} {af : Array Edge} {g : Option (Nat × Bool)} {l : List Oper} {X : List Nat} {w0 : World} {M M' : List Ent} {I : List aY}
theorem aJB {t e e' : TypeId} {sz b o k c : Nat} {x : Operand} {cs : List Value} [ht : SliceTy P t e sz] (hz : ∀ w, (zeroValue e).run P w = .ok (.int .i64 0) w) (hx : ev G x = some (.slice (some ⟨b, o, none⟩) k c)) (hk : 0 < k) (hB : Blk w b cs e') (ho : o + k ≤ cs.length) :
  Eff P n G (.call { callee := .builtin .clear, args := #[x], argTypes := #[t] }) ty w (fun _ w' => Blk w' b (splice cs o (List.replicate k (.int .i64 0))) e' ∧ Ext [b] w w') := by
 refine ⟨?_⟩
 intro a ha dst pos after guard
 have hl : (List.replicate k (Value.int .i64 0)).length = k := List.length_replicate
 have hst := run_storeCells_at P b o e' (List.replicate k (Value.int .i64 0)) 0 cs.toArray w hB (by simpa using ho) (by intro u hu; rw [List.eq_of_mem_replicate hu]; rfl)
 simp only [Nat.add_zero] at hst
 have hzc : (Builtin.zeroCells (Value.int .i64 0).cells k).toList = List.replicate k (Value.int .i64 0) := by
  show (Builtin.zeroCells #[Value.int .i64 0] k).toList = _
  simp [Builtin.zeroCells]
  apply List.ext_getElem
  ·simp
  ·intro i h1 h2
   simp [Nat.mod_one]
 refine sM (v := .tuple #[]) (w' := w.setRow b (splice cs o (List.replicate k (.int .i64 0))).toArray) ?_ ⟨_, ⟨?_, Ext.setRow (by simp) _⟩, rfl⟩
 ·obtain ⟨k', rfl⟩ : ∃ k', k = k' + 1 := ⟨k - 1, by omega⟩
  simp only [splice, hl]
  simp only [hl] at hst
  simp [execOp, resolve, invoke, builtin, ha.ev hx, Builtin.clear_, fF ht.und, hz, hzc, hst]
 ·exact setRow_heap w b _ _ _ _ hB
theorem aMI {t e e' : TypeId} {sz b o k c : Nat} {x : Operand} {cs cs' : List Value} [SliceTy P t e sz] (hz : ∀ w, (zeroValue e).run P w = .ok (.int .i64 0) w) (hx : ev G x = some (.slice (some ⟨b, o, none⟩) k c)) (hk : 0 < k) (hr : Rep (.blk b cs e') (.blk b cs' e') M M') (hs : splice cs o (List.replicate k (.int .i64 0)) = cs') (ho : o + k ≤ cs.length) (hg : oM ops G g = some true)
  (kk : OkD m X w0 M' I ∧ RD P n ops Q m.nextE l G X w0 M' I) : RD P n ops Q m (⟨none, .call { callee := .builtin .clear, args := #[x], argTypes := #[t] }, ty, pos, af, g⟩ :: l) G X w0 M I :=
 yX (d := none) (K := fun _ M2 I2 => M2 = M' ∧ I2 = I) hg
  (fun w hw => (aJB hz hx hk (hw.blk hr.mem) ho).mono (fun _ w' ⟨hB, hE⟩ => ⟨_, _, ⟨rfl, rfl⟩, hw.upd hr hE (fun b hb => .inl hb) (by simp [Ent.blocks]) (by rw [hs] at hB; exact hB)⟩)) rfl rfl
  (fun _ _ _ ⟨hM, hI⟩ => by subst hM; subst hI; exact kk)
end
theorem aJE {P : Program} {n : Nat} {Q : Exit → Act → World → Prop} {G : Env} {X : List Nat} {w0 : World} {M : List Ent} {I : List aY} {ops l : List Oper} {m : Fx.Mode} {ty : TypeId} {pos : String} {af : Array Edge} {g : Option (Nat × Bool)} {d : Nat} {t e : TypeId} {sz : Nat} {x ix : Operand} {b o len c : Nat} {k' : IntKind} {i : Int} [SliceTy P t e sz] (hx : ev G x = some (.slice (some ⟨b, o, none⟩) len c)) (hi : ev G ix = some (.int k' i)) (h : 0 ≤ i ∧ i < len) (hg : oM ops G g = some true)
  (hd : Nat.ble (d + 1) n = true) (k : RD P n ops Q m.next l ((d, .pointer (some ⟨b, o + i.toNat * sz, none⟩)) :: G) X w0 M I) : RD P n ops Q m (⟨some d, .indexAddr t x ix, ty, pos, af, g⟩ :: l) G X w0 M I :=
 aF hg (fun _ => by
  have := oU (n := n) (ty := ty) (P := P) (G := G) (t := t) (e := e) (sz := sz) hx hi h (Ok.mk b o) (C := fun _ => True)
  refine ⟨fun a ha dst pos after guard w _ => ?_⟩
  have h2 := this.go a ha dst pos after guard w True.intro
  simpa [pt, bl, of] using h2) rfl hd k
end Go.Fx
namespace Go.Proofs.YtjbhdfpjnjedhaaGreat
open Go Go.Fx
theorem aUO (w : World) : (zeroValue 3).run Tryz.prog w = .ok (.int .i64 0) w := by kernel_rfl
theorem aRK {b c j : Nat} (h : j < c) : yV (some ⟨b, 0, none⟩) c j 1 = some ⟨b, j, none⟩ := by
 unfold yV
 rw [if_neg (by omega)]
 simp [Addr.add]
 exact fun h => h.symm
theorem aNZ {E : List Int} {tl : List Value} {o i : Nat} (h : i < E.length) (e : o = i) : At (recs (eI .i64) E ++ tl) o (.int .i64 (gt E (i : Int))) := by
 subst e
 refine At.mk ?_
 rw [kR, List.getElem?_append_left (by simpa using h), List.getElem?_map, fT h]
 simp [h]
theorem aOD {E L : List Int} {tl : List Value} {kk n : Nat} (hE : E.length = n) (hk : kk ≤ n) (hL : E.take kk = L) : splice (recs (eI .i64) E ++ tl) kk (List.replicate (n - kk) (Value.int .i64 0)) = recs (eI .i64) (L ++ List.replicate (n - kk) 0) ++ tl := by
 subst hL
 have hlen : (E.map (Value.int .i64)).length = n := by simp [hE]
 simp only [splice, kR, List.length_replicate, List.map_append, List.map_take, List.map_replicate]
 rw [List.take_append_of_le_length (by omega), show kk + (n - kk) = (E.map (Value.int .i64)).length by omega, List.drop_left]
theorem aKD {E D : List Int} {a i : Nat} (h : E.drop a = D.drop a) (hi : a ≤ i) (hE : E.length = D.length) (hlt : i < E.length) : gt E (i : Int) = gt D (i : Int) := by
 rw [fT hlt, fT (by omega)]
 have h1 : (E.drop a)[i - a]? = (D.drop a)[i - a]? := by rw [h]
 rw [List.getElem?_drop, List.getElem?_drop, show a + (i - a) = i by omega] at h1
 rw [List.getElem?_eq_getElem hlt, List.getElem?_eq_getElem (by omega)] at h1
 exact Option.some.inj h1
theorem aHC {D : List Int} {j : Nat} (h1 : 1 ≤ j) (hj : j < D.length) : D.take (j + 1) = D.take (j - 1) ++ [gt D ((j - 1 : Nat) : Int), gt D (j : Int)] ∧ D.take j = D.take (j - 1) ++ [gt D ((j - 1 : Nat) : Int)] := by
 have e1 : D.take (j + 1) = D.take j ++ [D[j]] := (List.take_append_getElem hj).symm
 have e2 : D.take (j - 1 + 1) = D.take (j - 1) ++ [D[j - 1]] := (List.take_append_getElem (by omega)).symm
 rw [show j - 1 + 1 = j by omega] at e2
 rw [fT (by omega), fT hj]
 refine ⟨?_, e2⟩
 rw [e1, e2, List.append_assoc]; rfl
theorem aHI {D : List Int} {j : Nat} (h1 : 1 ≤ j) (hj : j < D.length) : mG (D.take (j + 1)) = if gt D (j : Int) = gt D ((j - 1 : Nat) : Int) then mG (D.take j) else mG (D.take j) ++ [gt D (j : Int)] := by
 rw [(aHC h1 hj).1, (aHC h1 hj).2]
 exact aCB _ _ _
section
variable {X : List Nat} {w0 : World} {M0 M1 : List Ent} {I0 : List aY}
theorem aAN {b n c : Nat} {D : List Int} {tl : List Value} (hl : D.length = n) (hn : n ≤ 100) (hc : n ≤ c) :
  CD Tryz.prog 65 [.slice (some ⟨b, 0, none⟩) n c] X w0 (.blk b (recs (eI .i64) D ++ tl) 3 :: M1) I0 (fun v M I => I0 = I ∧ v = .slice (some ⟨b, 0, none⟩) (mG D).length c ∧ M = .blk b (recs (eI .i64) (mG D ++ List.replicate (n - (mG D).length) 0) ++ tl) 3 :: M1) := by
 refine aZ Tryz.func65 rfl Tryz.ntmps65 rfl ?_
 by_cases h2 : n < 2
 ·have e : mG D = D := by
   match D, hl with
   | [], _ => rfl
   | [x], _ => rfl
   | _ :: _ :: _, h => simp at h; omega
  rw [e, hl, Nat.sub_self, List.replicate_zero, List.append_nil]
  repeat (refine aK ?_)
  refine aH (by first | exact .inl rfl | exact .inr rfl) rfl rfl _ _ aD aC (⟨rfl, rfl, rfl⟩)
 repeat (refine aK ?_)
 refine aT [0] rfl (fun k G M I => ∃ j : Nat, 1 ≤ j ∧ j ≤ n ∧ k = n - j ∧ mG (D.take j) = D.take j ∧ G = [(3, .int .i64 j)] ∧ M = .blk b (recs (eI .i64) D ++ tl) 3 :: M1 ∧ I0 = I) (n - 1) _ _ _ aP aD aC (⟨1, by omega, by omega, rfl, by rw [List.take_one]; cases D <;> rfl, rfl, rfl, rfl⟩) ?_
 rintro kk G M I ⟨j, hj1, hj, rfl, hcj, rfl, rfl, rfl⟩
 by_cases hjn : j < n
 ·have hcm := aHI (D := D) hj1 (by omega)
  have ejm : ((j : Int) - 1) = ((j - 1 : Nat) : Int) := by omega
  have hlD : (D.length : Int) = n := by omega
  repeat (refine aK ?_)
  (repeat refine aG ?_); refine dS [0, 1, 2, 3, 4, 5, 6, 7, 8, 9] [0, 0, 0, 0, 0, 0, 0, 0, 0, 0] mixed (by kernel_rfl) ?_
  repeat (refine aK ?_)
  rw [ejm]
  by_cases heq : gt D (j : Int) = gt D ((j - 1 : Nat) : Int)
  ·rw [if_pos heq] at hcm
   have hjc : j < c := by omega
   repeat (refine aK ?_)
   (refine aF rfl (fun _ => uH (e := 3) (sz := 1) j n (n - j) rfl (.inr ⟨_, _, _, rfl, rfl, rfl⟩) (.inl ⟨rfl, rfl⟩) (by omega) (by omega) (by omega)) rfl rfl ?_)
   rw [aRK hjc]
   repeat (refine aK ?_)
   refine aT [0, 4] rfl (fun k G M I => ∃ (q t : Nat) (E : List Int), 1 ≤ t ∧ t ≤ n - j ∧ k = n - j - t ∧ E.length = n ∧ 1 ≤ q ∧ q + 1 ≤ j + t ∧ E.take q = mG (D.take (j + t)) ∧ E.drop (j + t - 1) = D.drop (j + t - 1) ∧ G = [(3, .int .i64 q), (5, .int .i64 t)] ∧ M = .blk b (recs (eI .i64) E ++ tl) 3 :: M1 ∧ I0 = I) (n - j - 1) _ _ _ aP aD aC (⟨j, 1, D, by omega, by omega, rfl, hl, hj1, by omega, by rw [hcm, hcj], rfl, rfl, rfl, rfl⟩) ?_
   rintro kk G M I ⟨q, t, E, ht1, ht, rfl, hE, hq1, hq, hEt, hEd, rfl, rfl, rfl⟩
   have hlE : (E.length : Int) = n := by omega
   by_cases htn : t < n - j
   ·have hcm2 := aHI (D := D) (j := j + t) (by omega) (by omega)
    have g1 := aKD (i := j + t) hEd (by omega) (by omega) (by omega)
    have g2 := aKD (i := j + t - 1) hEd (by omega) (by omega) (by omega)
    repeat (refine aK ?_)
    (repeat refine aG ?_); refine dS [0, 1, 2, 3, 4, 5, 6, 7, 8, 9] [0, 0, 0, 0, 0, 0, 0, 0, 0, 0] mixed (by kernel_rfl) ?_
    repeat (refine aK ?_)
    refine aJE rfl rfl (by omega) rfl rfl ?_
    (apply fU; exact iG; exact rfl; exact aB; exact aNZ (i := j + t) (by omega) (by omega); exact rfl; exact rfl)
    repeat (refine aK ?_)
    refine aJE rfl rfl (by omega) rfl rfl ?_
    (apply fU; exact iG; exact rfl; exact aB; exact aNZ (i := j + t - 1) (by omega) (by omega); exact rfl; exact rfl)
    rw [g1, g2]
    by_cases hne : gt D ((j + t : Nat) : Int) = gt D ((j + t - 1 : Nat) : Int)
    ·rw [if_pos hne] at hcm2
     repeat (refine aK ?_)
     refine aL (n - j - (t + 1)) _ _ _ (by first | omega | (simp only [List.length_append, List.length_cons, List.length_nil]; omega)) aP aD aC (⟨q, t + 1, E, by omega, by omega, by omega, hE, hq1, by omega, by rw [hEt, ← hcm2]; rfl, by rw [show j + (t + 1) - 1 = (j + t - 1) + 1 by omega, ← List.drop_drop, hEd, List.drop_drop], rfl, rfl, rfl⟩)
    ·rw [if_neg hne] at hcm2
     repeat (refine aK ?_)
     refine aJE rfl rfl (by omega) rfl rfl ?_
     (apply fU; exact iG; exact rfl; exact aB; exact aNZ (i := j + t) (by omega) (by omega); exact rfl; exact rfl)
     repeat (refine aK ?_)
     have hst : (st E (q : Int) (gt E ((j + t : Nat) : Int))) = E.set q (gt E ((j + t : Nat) : Int)) := rfl
     refine aL (n - j - (t + 1)) _ _ _ (by first | omega | (simp only [List.length_append, List.length_cons, List.length_nil]; omega)) aP aD aC (⟨q + 1, t + 1, st E (q : Int) (gt E ((j + t : Nat) : Int)), by omega, by omega, by omega, by rw [eQ]; exact hE, by omega, by omega, ?_, ?_, rfl, rfl, rfl⟩)
     ·rw [hst, List.take_add_one, List.take_set_of_le (Nat.le_refl _), hEt, show j + (t + 1) = j + t + 1 by omega, hcm2, g1]
      rw [List.getElem?_set_self (by omega)]
      rfl
     ·rw [hst, List.drop_set_of_lt (by omega), show j + (t + 1) - 1 = (j + t - 1) + 1 by omega, ← List.drop_drop, hEd, List.drop_drop]
   ·obtain rfl : t = n - j := by omega
    rw [show j + (n - j) = D.length by omega, List.take_length] at hEt
    have hql : (mG D).length = q := by rw [← hEt, List.length_take]; omega
    have hqc : q < c := by omega
    rw [hql]
    repeat (refine aK ?_)
    (refine aF rfl (fun _ => uH (e := 3) (sz := 1) q n (n - q) rfl (.inr ⟨_, _, _, rfl, rfl, rfl⟩) (.inl ⟨rfl, rfl⟩) (by omega) (by omega) (by omega)) rfl rfl ?_)
    rw [aRK hqc]
    refine aMI aUO rfl (by omega) .here (aOD hE (by omega) hEt) (by rw [List.length_append, iL]; omega) rfl ⟨okF, ?_⟩
    repeat (refine aK ?_)
    (refine aF rfl (fun _ => pE q rfl rfl rfl (by omega)) rfl rfl ?_)
    repeat (refine aK ?_)
    refine aH (by first | exact .inl rfl | exact .inr rfl) rfl rfl _ _ aD aC (⟨rfl, rfl, rfl⟩)
  ·rw [if_neg heq] at hcm
   repeat (refine aK ?_)
   refine aL (n - (j + 1)) _ _ _ (by first | omega | (simp only [List.length_append, List.length_cons, List.length_nil]; omega)) aP aD aC (⟨j + 1, by omega, by omega, rfl, by rw [hcm, hcj, fT (by omega)]; exact List.take_append_getElem (by omega), rfl, rfl, rfl⟩)
 ·obtain rfl : j = n := by omega
  rw [← hl, List.take_length] at hcj
  rw [hcj, hl, Nat.sub_self, List.replicate_zero, List.append_nil]
  repeat (refine aK ?_)
  refine aH (by first | exact .inl rfl | exact .inr rfl) rfl rfl _ _ aD aC (⟨rfl, rfl, rfl⟩)
end
end Go.Proofs.YtjbhdfpjnjedhaaGreat
namespace Go.Proofs.YtjbhdfpjnjedhaaGreat
open Go Go.Fx
def tX (A : Mt) (j x : Nat) : Mt := (swp A j x).mapIdx (fun i row => if i ≤ j then row else if row.getD j 0 = 0 then row else jZ j (row.getD j 0 / at2 (swp A j x) j j) (rowAt (swp A j x) j) row)
def yQ (A : Mt) (j : Nat) : Nat → Nat → Rat := fun i k => at2 A (i + j) (k + j)
theorem aFS {A : Mt} {R C j x a : Nat} (h : wE A R C) (hj : j < R) (hx : x < R) (ha : a < R) : rowAt (tX A j x) a = if a ≤ j then rowAt A (tr j x a) else if at2 A (tr j x a) j = 0 then rowAt A (tr j x a) else jZ j (at2 A (tr j x a) j / at2 A x j) (rowAt A x) (rowAt A (tr j x a)) := by
 have hs := aEU (r := j) (k := x) h hj hx
 have hr : ∀ i, rowAt (swp A j x) i = rowAt A (tr j x i) := fun i => pG h hj hx
 have htr : tr j x j = x := by simp [tr]
 have hat : at2 (swp A j x) j j = at2 A x j := by unfold at2; rw [hr, htr]
 have e1 : rowAt (tX A j x) a = if a ≤ j then rowAt (swp A j x) a else if (rowAt (swp A j x) a).getD j 0 = 0 then rowAt (swp A j x) a else jZ j ((rowAt (swp A j x) a).getD j 0 / at2 (swp A j x) j j) (rowAt (swp A j x) j) (rowAt (swp A j x) a) := by
  have hl : a < (swp A j x).length := by rw [hs.1]; exact ha
  unfold tX
  rw [aDY hl]
 rw [e1, hat, hr, hr, htr]
 rfl
theorem aNP {A : Mt} {R C j x a b : Nat} (h : wE A R C) (hj : j < R) (hx : x < R) (ha : a < R) (hb : b < C) (haj : j < a) (hbj : j ≤ b) : at2 (tX A j x) a b = at2 A (tr j x a) b - at2 A (tr j x a) j / at2 A x j * at2 A x b := by
 have e : at2 (tX A j x) a b = (rowAt (tX A j x) a).getD b 0 := rfl
 rw [e, aFS h hj hx ha, if_neg (by omega)]
 by_cases e0 : at2 A (tr j x a) j = 0
 ·rw [if_pos e0, e0]
  show at2 A (tr j x a) b = _
  grind
 ·rw [if_neg e0]
  unfold jZ
  rw [tC (by rw [h.2 _ (yE hj hx ha)]; exact hb), if_neg (by omega)]
  rfl
theorem aQV {A : Mt} {n j x : Nat} (h : wE A n n) (hj : j < n) (hjx : j ≤ x) (hx : x < n) (h0 : at2 A x j ≠ 0) :
  dt (n - j) (yQ A j) = esg j x * at2 A x j * dt (n - (j + 1)) (yQ (tX A j x) (j + 1)) := by
 obtain ⟨m, hm⟩ : ∃ m, n - j = m + 1 := ⟨n - j - 1, by omega⟩
 have hm2 : n - (j + 1) = m := by omega
 rw [hm, hm2]
 -- exchanged
 have h1 : dt (m + 1) (fun a b => yQ A j (tr 0 (x - j) a) b) = esg j x * dt (m + 1) (yQ A j) := by
  unfold esg
  by_cases e : j = x
  ·subst e
   rw [if_pos rfl, Nat.sub_self, show (fun a b => yQ A j (tr 0 0 a) b) = yQ A j by funext a b; simp only [tr]; split <;> simp_all]; grind
  ·rw [if_neg e, aKA (by omega) (by omega) (by omega)]; grind
 obtain ⟨g, hg⟩ : ∃ g : Nat → Nat → Rat, g = fun a b => yQ A j (tr 0 (x - j) a) b := ⟨_, rfl⟩
 rw [← hg] at h1
 have htr : ∀ a, tr 0 (x - j) a + j = tr j x (a + j) := fun a => by
  by_cases e1 : a = 0
  ·have : tr 0 (x - j) a = x - j := by simp [tr, e1]
   have h2 : tr j x (a + j) = x := by simp [tr, e1]
   omega
  ·by_cases e2 : a = x - j
   ·have : tr 0 (x - j) a = 0 := by simp [tr, e1, e2]
    have h2 : tr j x (a + j) = j := by simp [tr, e1, show a + j = x by omega]
    omega
   ·have : tr 0 (x - j) a = a := by simp [tr, e1, e2]
    have h2 : tr j x (a + j) = a + j := by simp [tr, e1, show ¬ a + j = x by omega]
    omega
 have hgv : ∀ a b, g a b = at2 A (tr j x (a + j)) (b + j) := fun a b => by rw [hg]; show at2 A (tr 0 (x - j) a + j) (b + j) = _; rw [htr]
 have htj : tr j x (0 + j) = x := by simp [tr]
 have hg0 : ∀ b, g 0 b = at2 A x (b + j) := fun b => by rw [hgv, htj]
 have h2 := aLB (n := m + 1) (r := 0) (f := g) (c := fun a => g a 0 / g 0 0) (by omega)
 have hg00 : g 0 0 ≠ 0 := by rw [hg0, Nat.zero_add]; exact h0
 have h3 : dt (m + 1) (fun a b => if a = 0 then g 0 b else g a b - g a 0 / g 0 0 * g 0 b) = g 0 0 * dt m (yQ (tX A j x) (j + 1)) := by
  rw [aFV (fun i hi _ => by
   rw [if_neg (by omega)]
   have : g i 0 / g 0 0 * g 0 0 = g i 0 := by grind
   grind)]
  rw [if_pos rfl]
  congr 1
  apply kF
  intro a b ha hb
  rw [if_neg (by omega)]
  show _ = at2 (tX A j x) (a + (j + 1)) (b + (j + 1))
  rw [aNP h hj hx (by omega) (by omega) (by omega) (by omega), hg0, hg0, hgv, hgv, Nat.zero_add]
  rw [show a + 1 + j = a + (j + 1) by omega, show b + 1 + j = b + (j + 1) by omega]
 have hs : esg j x * esg j x = 1 := by unfold esg; split <;> grind
 have h4 : dt (m + 1) (yQ A j) = esg j x * dt (m + 1) g := by rw [h1]; grind
 rw [h4, ← h2, h3, hg0, Nat.zero_add]; grind
theorem aOE {A : Mt} {n j : Nat} (hj : j < n) (h : ∀ i, j ≤ i → i < n → at2 A i j = 0) : dt (n - j) (yQ A j) = 0 := by
 obtain ⟨m, hm⟩ : ∃ m, n - j = m + 1 := ⟨n - j - 1, by omega⟩
 rw [hm]
 exact aFK (fun i hi => by show at2 A (i + j) (0 + j) = 0; rw [Nat.zero_add]; exact h _ (by omega) (by omega))
theorem aSV {A : Mt} {n : Nat} : dt (n - 0) (yQ A 0) = dt n (at2 A) := rfl
end Go.Proofs.YtjbhdfpjnjedhaaGreat

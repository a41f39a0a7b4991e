/- consensus: far, Check, Size, kinded, tolerance. The document's minor and determinant. Matrices that the document builds and then writes into: rows with room behind them. The document's unit matrix, copy, sum, product, transposed matrix. The document's product, transposed matrix, product with a list. Equality of lists and matrices; matrices of integers; the chapter's example. Matrices of integers; the chapter's example. The chapter's example. Arguments, opened: slices of records, structs with slices. Arguments opened: matrices, lists, fractions, wherever they lie. What the laws of matrices share. -/
import Derived.Test.YtjbhdfpjnjedhaaGreatZmbd
import Derived.Test.YtjbhdfpjnjedhaaGreatZmak
import Derived.Test.YtjbhdfpjnjedhaaGreatZmaz
import Derived.Test.YtjbhdfpjnjedhaaGreatZmam
import Derived.Test.YtjbhdfpjnjedhaaGreatZmba
import Derived.Test.YtjbhdfpjnjedhaaGreatZmal
import Derived.Test.YtjbhdfpjnjedhaaGreatZmbb
import Derived.Test.YtjbhdfpjnjedhaaGreatZmab
import Derived.Test.YtjbhdfpjnjedhaaGreatZmae
import Derived.Test.YtjbhdfpjnjedhaaGreatZmay
set_option linter.unusedSimpArgs false
set_option linter.unusedVariables false
set_option maxRecDepth 100000
set_option maxHeartbeats 4000000
namespace Go.Proofs.YtjbhdfpjnjedhaaGreat
open Go Go.Fx
/- ---------- IndexFunc, ContainsFunc of []fiducial/api.Pair ---------- -/
section
variable {X : List Nat} {w0 : World} {M0 : List Ent} {I0 : List aX}
theorem aMD {q : Option Addr} {a : List Q4} {c : Nat} {g : FuncId} [FnOk Tryz.prog g] {fs cs : Array Value} (pr : Q4 → Prop) [DecidablePred pr] (hn : (a.length : Int) ≤ 9223372036854775807) (ha : aQ q (recs jZ a) ∈ I0)
  (hg : ∀ i : Nat, i < a.length → CD Tryz.prog g (fs.toList ++ [vQ4 (gt a i)] ++ cs.toList) X w0 M0 I0 (fun v M I => M0 = M ∧ I0 = I ∧ v = .bool (B (pr (gt a i))))) :
  CD Tryz.prog 127 [.slice q a.length c, .func (.func g) fs cs] X w0 M0 I0 (fun v M I => M0 = M ∧ I0 = I ∧ ∃ r : Int, v = .int .i64 r ∧ ((∃ i : Nat, i < a.length ∧ r = i ∧ pr (gt a i) ∧ ∀ j : Nat, j < i → ¬ pr (gt a j)) ∨ (r = -1 ∧ ∀ j : Nat, j < a.length → ¬ pr (gt a j)))) := by
 refine bB Tryz.func127 rfl Tryz.ntmps127 rfl ?_
 repeat (refine aL ?_)
 refine aW [0, 1, 7] rfl (fun k G M I => ∃ i : Nat, i ≤ a.length ∧ k = a.length - i ∧ (∀ j : Nat, j < i → ¬ pr (gt a j)) ∧ G = [(8, .int .i64 i)] ∧ M = M0 ∧ I = I0) (a.length) _ _ _ aS aF aD (⟨0, by omega, rfl, fun j hj => by omega, rfl, rfl, rfl⟩) ?_
 rintro k G M I ⟨i, hi, rfl, hs, rfl, rfl, rfl⟩
 repeat' (first | refine aL ?_ | refine aM rfl (fun h => ?_) (fun h => ?_) | refine aN rfl rfl (fun h => ?_) (fun h => ?_) | fail)
 ·have hlt : i < a.length := by omega
  (refine eU rfl rfl (hg i hlt) rfl rfl rfl ?_; rintro _ _ _ ⟨rfl, rfl, rfl⟩; refine ⟨okF, ?_⟩)
  repeat' (first | refine aL ?_ | refine aM rfl (fun h => ?_) (fun h => ?_) | refine aN rfl rfl (fun h => ?_) (fun h => ?_) | fail)
  ·refine aJ (by first | exact .inl rfl | exact .inr rfl) rfl rfl _ _ aF aD (⟨rfl, rfl, _, rfl, .inl ⟨i, hlt, rfl, by assumption, hs⟩⟩)
  ·refine aK (a.length - (i + 1)) _ _ _ (by first | omega | (simp only [List.length_append, List.length_cons, List.length_nil]; omega)) aS aF aD (⟨i + 1, by omega, rfl, fun j hj => ?_, rfl, rfl, rfl⟩)
   by_cases e : j = i
   ·subst e; assumption
   ·exact hs j (by omega)
 ·refine aJ (by first | exact .inl rfl | exact .inr rfl) rfl rfl _ _ aF aD (⟨rfl, rfl, _, rfl, .inr ⟨rfl, fun j hj => hs j (by omega)⟩⟩)
theorem aMJ {q : Option Addr} {a : List Q4} {c : Nat} {g : FuncId} [FnOk Tryz.prog g] {fs cs : Array Value} (pr : Q4 → Prop) [DecidablePred pr] (hn : (a.length : Int) ≤ 9223372036854775807) (ha : aQ q (recs jZ a) ∈ I0)
  (hg : ∀ i : Nat, i < a.length → CD Tryz.prog g (fs.toList ++ [vQ4 (gt a i)] ++ cs.toList) X w0 M0 I0 (fun v M I => M0 = M ∧ I0 = I ∧ v = .bool (B (pr (gt a i))))) :
  CD Tryz.prog 78 [.slice q a.length c, .func (.func g) fs cs] X w0 M0 I0 (fun v M I => M0 = M ∧ I0 = I ∧ v = .bool (B (∃ x ∈ a, pr x))) := by
 refine bB Tryz.func78 rfl Tryz.ntmps78 rfl ?_
 repeat (refine aL ?_)
 (refine aA rfl (aMD pr hn ha hg) rfl rfl ?_; rintro _ _ _ ⟨rfl, rfl, r, rfl, h⟩; refine ⟨okF, ?_⟩)
 repeat (refine aL ?_)
 refine aJ (by first | exact .inl rfl | exact .inr rfl) rfl rfl _ _ aF aD (⟨rfl, rfl, congrArg Value.bool (jA ?_)⟩)
 rcases h with ⟨i, hi, rfl, hp, _⟩ | ⟨rfl, h⟩
 ·exact ⟨fun _ => ⟨gt a i, by rw [gQ hi]; exact List.getElem_mem hi, hp⟩, fun _ => by omega⟩
 ·refine ⟨fun h => by omega, ?_⟩
  rintro ⟨x, hx, hp⟩
  obtain ⟨j, hj, rfl⟩ := List.mem_iff_getElem.1 hx
  exact absurd (by rw [gQ hj]; exact hp) (h j hj)
end
section
variable {X : List Nat} {w0 : World} {M0 M1 : List Ent} {I0 : List aX}
theorem aIT {a b : Int} : CD Tryz.prog 72 [.agg #[.int .i64 a, .int .i64 b]] X w0 M0 I0 (fun v M I => M0 = M ∧ I0 = I ∧ v = .bool (B (farC a b))) := by
 refine bA Tryz.func72 rfl Tryz.ntmps72 rfl ?_
 refine aG ?_
 refine aH ?_
 (refine aR rfl rfl rfl ?_; intro b1; refine ⟨okF, ?_⟩)
 by_cases h1 : min a b < -32768
 ·repeat (refine aL ?_)
  refine iV (M' := M0) (I' := I0) aF aD ?_
  refine aJ (by first | exact .inl rfl | exact .inr rfl) rfl rfl _ _ aF aD (⟨rfl, rfl, congrArg Value.bool (cB (show farC a b from .inl (by omega))).symm⟩)
 ·by_cases h2 : 32768 < max a b
  ·repeat (refine aL ?_)
   refine iV (M' := M0) (I' := I0) aF aD ?_
   refine aJ (by first | exact .inl rfl | exact .inr rfl) rfl rfl _ _ aF aD (⟨rfl, rfl, congrArg Value.bool ((cB h2).trans (cB (show farC a b from .inr (by omega))).symm)⟩)
  ·repeat (refine aL ?_)
   refine iV (M' := M0) (I' := I0) aF aD ?_
   refine aJ (by first | exact .inl rfl | exact .inr rfl) rfl rfl _ _ aF aD (⟨rfl, rfl, congrArg Value.bool ((bE h2).trans (bE (show ¬ farC a b by unfold farC; omega)).symm)⟩)
theorem aFW {s : Q4} : CD Tryz.prog 79 [vQ4 s] X w0 M0 I0 (fun v M I => M0 = M ∧ I0 = I ∧ v = .bool (B s.far)) := by
 have hF := fun M0 I0 => aIT (X := X) (w0 := w0) (M0 := M0) (I0 := I0) (a := s.x) (b := s.y)
 have hG := fun M0 I0 => aIT (X := X) (w0 := w0) (M0 := M0) (I0 := I0) (a := s.u) (b := s.v)
 refine bA Tryz.func79 rfl Tryz.ntmps79 rfl ?_
 refine aG ?_
 refine aH ?_
 (refine aR rfl rfl rfl ?_; intro b1; refine ⟨okF, ?_⟩)
 by_cases h1 : farC s.x s.y
 ·rw [cB h1] at hF
  repeat (refine aL ?_)
  (refine aA rfl (hF _ _) rfl rfl ?_; rintro _ _ _ ⟨rfl, rfl, rfl⟩; refine ⟨okF, ?_⟩)
  repeat (refine aL ?_)
  refine iV (M' := M0) (I' := I0) aF aD ?_
  refine aJ (by first | exact .inl rfl | exact .inr rfl) rfl rfl _ _ aF aD (⟨rfl, rfl, congrArg Value.bool (cB (show s.far from .inl h1)).symm⟩)
 ·rw [bE h1] at hF
  repeat (refine aL ?_)
  (refine aA rfl (hF _ _) rfl rfl ?_; rintro _ _ _ ⟨rfl, rfl, rfl⟩; refine ⟨okF, ?_⟩)
  repeat (refine aL ?_)
  (refine aA rfl (hG _ _) rfl rfl ?_; rintro _ _ _ ⟨rfl, rfl, rfl⟩; refine ⟨okF, ?_⟩)
  repeat (refine aL ?_)
  refine iV (M' := M0) (I' := I0) aF aD ?_
  refine aJ (by first | exact .inl rfl | exact .inr rfl) rfl rfl _ _ aF aD (⟨rfl, rfl, congrArg Value.bool (jA ⟨fun h => .inr h, fun h => h.resolve_left h1⟩)⟩)
theorem sW {q : Option Addr} {l : List Q4} {n c : Nat} (hl : l.length = n) (hn : (n : Int) ≤ 9223372036854775807) (hq : aQ q (recs jZ l) ∈ I0) : CD Tryz.prog 37 [.slice q n c] X w0 M0 I0 (fun v M I => M0 = M ∧ I0 = I ∧ v = .int .i64 (jY l)) := by
 subst hl
 have hF := fun M0 I0 h => aMJ (X := X) (w0 := w0) (M0 := M0) (I0 := I0) (q := q) (a := l) (c := c) (g := 79) (fs := #[]) (cs := #[]) Q4.far hn h (fun i _ => aFW)
 refine bA Tryz.func37 rfl Tryz.ntmps37 rfl ?_
 by_cases h0 : l.length = 0
 ·rw [show jY l = 1 by unfold jY; rw [if_pos h0]]
  repeat (refine aL ?_)
  refine aJ (by first | exact .inl rfl | exact .inr rfl) rfl rfl _ _ aF aD (⟨rfl, rfl, rfl⟩)
 by_cases h1 : 64 < l.length
 ·rw [show jY l = 3 by unfold jY; rw [if_neg h0, if_pos h1]]
  repeat (refine aL ?_)
  refine aJ (by first | exact .inl rfl | exact .inr rfl) rfl rfl _ _ aF aD (⟨rfl, rfl, rfl⟩)
 by_cases h2 : anyFar l
 ·rw [show jY l = 2 by unfold jY; rw [if_neg h0, if_neg h1, if_pos h2]]
  repeat (refine aL ?_)
  (refine aA rfl (hF _ _ aB) rfl rfl ?_; rintro _ _ _ ⟨rfl, rfl, rfl⟩; refine ⟨okF, ?_⟩)
  rw [cB (show ∃ x ∈ l, x.far from h2)]
  repeat (refine aL ?_)
  refine aJ (by first | exact .inl rfl | exact .inr rfl) rfl rfl _ _ aF aD (⟨rfl, rfl, rfl⟩)
 ·rw [show jY l = 0 by unfold jY; rw [if_neg h0, if_neg h1, if_neg h2]]
  repeat (refine aL ?_)
  (refine aA rfl (hF _ _ aB) rfl rfl ?_; rintro _ _ _ ⟨rfl, rfl, rfl⟩; refine ⟨okF, ?_⟩)
  rw [bE (show ¬ ∃ x ∈ l, x.far from h2)]
  repeat (refine aL ?_)
  refine aJ (by first | exact .inl rfl | exact .inr rfl) rfl rfl _ _ aF aD (⟨rfl, rfl, rfl⟩)
def kdP (x : Int) : Prop := 0 ≤ x ∧ x ≤ 3
instance kdP.dec (x : Int) : Decidable (kdP x) := inferInstanceAs (Decidable (0 ≤ x ∧ x ≤ 3))
theorem aQQ {x : Int} : CD Tryz.prog 34 [.int .i64 x] X w0 M0 I0 (fun v M I => M0 = M ∧ I0 = I ∧ v = .tuple #[.int .i64 (if kdP x then x + 1 else 0), .int .i64 (if kdP x then 0 else 1)]) := by
 refine bA Tryz.func34 rfl Tryz.ntmps34 rfl ?_
 by_cases h0 : x = 0
 ·rw [if_pos (show kdP x from ⟨by omega, by omega⟩), if_pos (show kdP x from ⟨by omega, by omega⟩)]
  subst h0
  repeat (refine aL ?_)
  refine fB [2, 3] (by first | exact .inl rfl | exact .inr rfl) rfl rfl rfl _ _ aF aD (⟨rfl, rfl, rfl⟩)
 by_cases h1 : x = 1
 ·rw [if_pos (show kdP x from ⟨by omega, by omega⟩), if_pos (show kdP x from ⟨by omega, by omega⟩)]
  subst h1
  repeat (refine aL ?_)
  refine fB [2, 3] (by first | exact .inl rfl | exact .inr rfl) rfl rfl rfl _ _ aF aD (⟨rfl, rfl, rfl⟩)
 by_cases h2 : x = 2
 ·rw [if_pos (show kdP x from ⟨by omega, by omega⟩), if_pos (show kdP x from ⟨by omega, by omega⟩)]
  subst h2
  repeat (refine aL ?_)
  refine fB [2, 3] (by first | exact .inl rfl | exact .inr rfl) rfl rfl rfl _ _ aF aD (⟨rfl, rfl, rfl⟩)
 by_cases h3 : x = 3
 ·rw [if_pos (show kdP x from ⟨by omega, by omega⟩), if_pos (show kdP x from ⟨by omega, by omega⟩)]
  subst h3
  repeat (refine aL ?_)
  refine fB [2, 3] (by first | exact .inl rfl | exact .inr rfl) rfl rfl rfl _ _ aF aD (⟨rfl, rfl, rfl⟩)
 rw [if_neg (show ¬ kdP x by unfold kdP; omega), if_neg (show ¬ kdP x by unfold kdP; omega)]
 repeat (refine aL ?_)
 refine fB [2, 3] (by first | exact .inl rfl | exact .inr rfl) rfl rfl rfl _ _ aF aD (⟨rfl, rfl, rfl⟩)
def uG (x : Int) (l : List Q4) : Int := if jY l = 0 then (if kdP x then 0 else 1) else jY l
theorem aLP {x : Int} {q : Option Addr} {l : List Q4} {n c : Nat} (hl : l.length = n) (hn : (n : Int) ≤ 9223372036854775807) (hq : aQ q (recs jZ l) ∈ I0) :
  CD Tryz.prog 47 [.int .i64 x, .slice q n c] X w0 M0 I0 (fun v M I => M0 = M ∧ I0 = I ∧ v = .tuple #[.int .i64 (if uG x l = 0 then x + 1 else 0), .int .i64 (uG x l)]) := by
 have hC := fun M0 I0 h => sW (X := X) (w0 := w0) (M0 := M0) (I0 := I0) (q := q) (l := l) (n := n) (c := c) hl hn h
 have hS := fun M0 I0 => aQQ (X := X) (w0 := w0) (M0 := M0) (I0 := I0) (x := x)
 refine bB Tryz.func47 rfl Tryz.ntmps47 rfl ?_
 by_cases h0 : jY l = 0
 ·rw [h0] at hC
  have e : uG x l = if kdP x then 0 else 1 := by unfold uG; rw [if_pos h0]
  rw [e]
  by_cases hk : kdP x
  ·rw [if_pos hk, if_pos hk] at hS
   rw [if_pos hk, if_pos rfl]
   repeat (refine aL ?_)
   (refine aA rfl (hC _ _ aB) rfl rfl ?_; rintro _ _ _ ⟨rfl, rfl, rfl⟩; refine ⟨okF, ?_⟩)
   repeat (refine aL ?_)
   (refine aA rfl (hS _ _) rfl rfl ?_; rintro _ _ _ ⟨rfl, rfl, rfl⟩; refine ⟨okF, ?_⟩)
   repeat (refine aL ?_)
   refine fB [4, 5] (by first | exact .inl rfl | exact .inr rfl) rfl rfl rfl _ _ aF aD (⟨rfl, rfl, rfl⟩)
  ·rw [if_neg hk, if_neg hk] at hS
   rw [if_neg hk, if_neg (by decide)]
   repeat (refine aL ?_)
   (refine aA rfl (hC _ _ aB) rfl rfl ?_; rintro _ _ _ ⟨rfl, rfl, rfl⟩; refine ⟨okF, ?_⟩)
   repeat (refine aL ?_)
   (refine aA rfl (hS _ _) rfl rfl ?_; rintro _ _ _ ⟨rfl, rfl, rfl⟩; refine ⟨okF, ?_⟩)
   repeat (refine aL ?_)
   refine fB [4, 5] (by first | exact .inl rfl | exact .inr rfl) rfl rfl rfl _ _ aF aD (⟨rfl, rfl, rfl⟩)
 ·have e : uG x l = jY l := by unfold uG; rw [if_neg h0]
  rw [e, if_neg h0]
  obtain ⟨cd, hcd⟩ : ∃ z, jY l = z := ⟨_, rfl⟩
  rw [hcd] at hC h0 ⊢
  repeat (refine aL ?_)
  (refine aA rfl (hC _ _ aB) rfl rfl ?_; rintro _ _ _ ⟨rfl, rfl, rfl⟩; refine ⟨okF, ?_⟩)
  repeat (refine aL ?_)
  refine fB [4, 5] (by first | exact .inl rfl | exact .inr rfl) rfl rfl rfl _ _ aF aD (⟨rfl, rfl, rfl⟩)
def tolP (t : Int) : Prop := 0 ≤ t ∧ t ≤ 1073741824
instance tolP.dec (x : Int) : Decidable (tolP x) := inferInstanceAs (Decidable (0 ≤ x ∧ x ≤ 1073741824))
theorem aTU {t : Int} : CD Tryz.prog 48 [.int .i64 t] X w0 M0 I0 (fun v M I => M0 = M ∧ I0 = I ∧ v = .int .i64 (if tolP t then 0 else 2)) := by
 refine bA Tryz.func48 rfl Tryz.ntmps48 rfl ?_
 by_cases h0 : t < 0
 ·rw [if_neg (show ¬ tolP t by unfold tolP; omega)]
  repeat (refine aL ?_)
  refine aJ (by first | exact .inl rfl | exact .inr rfl) rfl rfl _ _ aF aD (⟨rfl, rfl, rfl⟩)
 by_cases h1 : 1073741824 < t
 ·rw [if_neg (show ¬ tolP t by unfold tolP; omega)]
  repeat (refine aL ?_)
  refine aJ (by first | exact .inl rfl | exact .inr rfl) rfl rfl _ _ aF aD (⟨rfl, rfl, rfl⟩)
 ·rw [if_pos (show tolP t from ⟨by omega, by omega⟩)]
  repeat (refine aL ?_)
  refine aJ (by first | exact .inl rfl | exact .inr rfl) rfl rfl _ _ aF aD (⟨rfl, rfl, rfl⟩)
end
end Go.Proofs.YtjbhdfpjnjedhaaGreat
namespace Go.Proofs.YtjbhdfpjnjedhaaGreat
open Go Go.Fx
def hD (k : Nat) : Nat → Nat
 | 0 => k
 | n + 1 => (n + 2) * (k + hD k n + 1)
section
variable {X : List Nat} {w0 : World} {M0 : List Ent} {I0 : List aX}
end
end Go.Proofs.YtjbhdfpjnjedhaaGreat
namespace Go.Proofs.YtjbhdfpjnjedhaaGreat
open Go Go.Fx
structure MS where
 b : Nat
 c : Nat
 es : List RE
 tl : List Value
instance : Inhabited MS := ⟨⟨0, 0, [], []⟩⟩
abbrev eS (r : MS) : List Value := [.slice (some ⟨r.b, 0, none⟩) r.es.length r.c]
instance : Sized eS 1 := ⟨fun _ => rfl⟩
instance : Ones eS := ⟨fun m u hu => by simp only [eS, List.mem_cons, List.not_mem_nil, or_false] at hu; subst hu; rfl⟩
abbrev entS (r : MS) : Ent := .blk r.b (recs eR r.es ++ r.tl) 50
structure AllS (rows : List MS) (k : Nat) (X : List Nat) (w : World) : Prop where
 go : ∀ r ∈ rows, ∀ e ∈ r.es, IsR e k X w
abbrev allS (rows : List MS) (k : Nat) : aX := AllS rows k
instance (rows : List MS) (k : Nat) : Fx.Good (AllS rows k) := ⟨fun X Y w w' h he hY => ⟨fun r hr e hm => Fx.Good.go (φ := IsR _ _) X Y w w' (h.go r hr e hm) he hY⟩⟩
def Pw (rows : List MS) (R C : Nat) (V : Nat → Nat → Rat) : Prop := ∀ i j : Nat, i < R → j < C → (gt (gt rows (i : Int)).es (j : Int)).q = V i j
structure Shp (rows : List MS) (R C : Nat) : Prop where
 len : rows.length = R
 col : ∀ r ∈ rows, r.es.length = C ∧ C ≤ r.c
abbrev upR (r : MS) (j : Nat) (e : RE) : MS := ⟨r.b, r.c, st r.es (j : Int) e, r.tl⟩
def upS (rows : List MS) (i j : Nat) (e : RE) : List MS := rows.set i ⟨(gt rows (i : Int)).b, (gt rows (i : Int)).c, st (gt rows (i : Int)).es (j : Int) e, (gt rows (i : Int)).tl⟩
def MsP (R C : Nat) (V : Nat → Nat → Rat) (k : Nat) (M0 : List Ent) (I0 : List aX) (v : Value) (M : List Ent) (I : List aX) : Prop :=
 ∃ (bo co : Nat) (tlo : List Value) (rows : List MS), v = .slice (some ⟨bo, 0, none⟩) R co ∧ R ≤ co ∧ Shp rows R C ∧ Pw rows R C V ∧ M = .blk bo (recs eS rows ++ tlo) 53 :: (rows.map entS ++ M0) ∧ I = allS rows k :: I0
def MS.l (r : MS) : RL := ⟨some ⟨r.b, 0, none⟩, r.c, r.es⟩
def MS.x (bo co : Nat) (rows : List MS) : MX := ⟨some ⟨bo, 0, none⟩, co, rows.map MS.l⟩
section
variable {X : List Nat} {w0 : World} {M0 : List Ent} {I0 : List aX}
end
end Go.Proofs.YtjbhdfpjnjedhaaGreat
namespace Go.Proofs.YtjbhdfpjnjedhaaGreat
open Go Go.Fx
section
variable {X : List Nat} {w0 : World} {M0 : List Ent} {I0 : List aX}
end
end Go.Proofs.YtjbhdfpjnjedhaaGreat
namespace Go.Proofs.YtjbhdfpjnjedhaaGreat
open Go Go.Fx
section
variable {X : List Nat} {w0 : World} {M0 : List Ent} {I0 : List aX}
end
end Go.Proofs.YtjbhdfpjnjedhaaGreat
namespace Go.Proofs.YtjbhdfpjnjedhaaGreat
open Go Go.Fx
structure IL where
 p : Option Addr
 c : Nat
 xs : List Int
instance : Inhabited IL := ⟨⟨none, 0, []⟩⟩
abbrev eIL (r : IL) : List Value := [.slice r.p r.xs.length r.c]
abbrev ivL (r : IL) : Value := .slice r.p r.xs.length r.c
instance : Sized eIL 1 := ⟨fun _ => rfl⟩
instance : Ones eIL := ⟨fun m u hu => by simp only [eIL, List.mem_cons, List.not_mem_nil, or_false] at hu; subst hu; rfl⟩
/- ---------- IndexFunc, ContainsFunc of [][]int ---------- -/
section
variable {X : List Nat} {w0 : World} {M0 : List Ent} {I0 : List aX}
end
section
variable {X : List Nat} {w0 : World} {M0 : List Ent} {I0 : List aX}
end
end Go.Proofs.YtjbhdfpjnjedhaaGreat
namespace Go.Proofs.YtjbhdfpjnjedhaaGreat
open Go Go.Fx
structure AllIL (rows : List IL) (X : List Nat) (w : World) : Prop where
 go : ∀ r ∈ rows, Sl X w r.p (recs (eI .i64) r.xs)
abbrev allIL (rows : List IL) : aX := AllIL rows
instance (rows : List IL) : Fx.Good (AllIL rows) := ⟨fun X Y w w' h he hY => ⟨fun r hm => Sl.carry (h.go r hm) he hY⟩⟩
abbrev bxI (b : Nat) (q : Option Addr) (n c : Nat) : aX := aQ (some ⟨b, 0, none⟩) [.slice q n c]
section
variable {X : List Nat} {w0 : World} {M0 : List Ent} {I0 : List aX}
end
end Go.Proofs.YtjbhdfpjnjedhaaGreat
namespace Go.Proofs.YtjbhdfpjnjedhaaGreat
open Go Go.Fx
def kA : Mt := [[((2 : Int) : Rat), ((1 : Int) : Rat)], [((1 : Int) : Rat), ((1 : Int) : Rat)]]
def kC : Mt := [[((1 : Int) : Rat), ((-1 : Int) : Rat)], [((-1 : Int) : Rat), ((2 : Int) : Rat)]]
section
variable {X : List Nat} {w0 : World} {M0 : List Ent} {I0 : List aX}
end
end Go.Proofs.YtjbhdfpjnjedhaaGreat
namespace Go.Fx
open Go.ChangeShapes Go.WideShapes Go.RowKit Go.ChangeAt
section
variable {H : Type} {enc : TypeId × Value → H} {P : Program} {W : World}
theorem aAI {sz : Nat} : ∀ (rows : List (List Value)) (k : Nat) (v : Value), (∀ r ∈ rows, r.length = sz) → rows.flatten[k]? = some v → ∃ i row, rows[i]? = some row ∧ i * sz ≤ k ∧ row[k - i * sz]? = some v
 | [], k, v, _, h => by simp at h
 | r :: rows, k, v, hr, h => by
  rw [List.flatten_cons] at h
  have hl := hr r (by simp)
  by_cases hk : k < r.length
  ·rw [List.getElem?_append_left hk] at h
   exact ⟨0, r, by simp, by omega, by simpa using h⟩
  ·rw [List.getElem?_append_right (by omega)] at h
   obtain ⟨i, row, h1, h2, h3⟩ := aAI rows _ v (fun r' hr' => hr r' (by simp [hr'])) h
   refine ⟨i + 1, row, by simpa using h1, by rw [Nat.add_mul]; omega, ?_⟩
   rw [← h3]
   congr 1
   rw [Nat.add_mul]; omega
theorem aLO {base fuel : Nat} {t e : TypeId} {v : Value} {x : DataW H × List MemPlace} (ht : P.underlying t = some (.slice e)) (hv : Value.okWide P W .any base t v) (h : DataW.trod enc P W 0 (fun _ => true) true fuel t v.cells.toList = some x) :
  ∃ (a : Option Addr) (len c : Nat), v = .slice a len c ∧ (len : Int) ≤ 9223372036854775807 ∧ len ≤ c ∧ (Ok a ∨ (a = none ∧ len = 0 ∧ c = 0)) ∧
   ∃ rows : List (List Value), rows.length = len ∧ (∀ r ∈ rows, r.length = P.cellsOf e ∧ ∃ n y, DataW.trod enc P W 0 (fun _ => true) true n e r = some y) ∧ Sl [] W a rows.flatten := by
 obtain ⟨a, len, c, rfl⟩ := okWide_slice ht hv
 obtain ⟨h1, h2, h3⟩ := aOQ ht hv
 refine ⟨a, len, c, rfl, h1, h2, h3, ?_⟩
 rcases DataW.trod_slice ht h with ⟨hcs, _⟩ | ⟨a', len', cap', elems, rest, n, _, hcs, _, _, _, _, hlen, hel, _, _⟩
 ·simp [Value.cells] at hcs
  obtain ⟨rfl, rfl, rfl⟩ := hcs
  exact ⟨[], rfl, by simp, Sl.nil _ _ _⟩
 ·simp [Value.cells] at hcs
  obtain ⟨rfl, rfl, rfl⟩ := hcs
  have hok : Ok (some a') := h3.resolve_right (by simp)
  have each : ∀ i, i < len → ∃ cs y, W.cells? 0 (a'.add (i * P.cellsOf e)) (P.cellsOf e) = some cs ∧ DataW.trod enc P W 0 (fun _ => true) true n e cs = some y := fun i hi => by
   have := hel i hi
   rw [List.getElem?_eq_getElem (by omega), Option.bind_eq_some_iff] at this
   obtain ⟨cs, h1, h2⟩ := this
   exact ⟨cs, _, h1, h2⟩
  refine ⟨(List.range len).map (fun i => (W.cells? 0 (a'.add (i * P.cellsOf e)) (P.cellsOf e)).getD []), by simp, ?_, ?_⟩
  ·intro r hr
   obtain ⟨i, hi, rfl⟩ := List.mem_map.1 hr
   obtain ⟨cs, y, h4, h5⟩ := each i (by simpa using hi)
   rw [h4]
   exact ⟨(World.cells?_some h4).2.1, n, y, h5⟩
  ·intro j v hj
   have hall : ∀ r ∈ (List.range len).map (fun i => (W.cells? 0 (a'.add (i * P.cellsOf e)) (P.cellsOf e)).getD []), r.length = P.cellsOf e := by
    intro r hr
    obtain ⟨i, hi, rfl⟩ := List.mem_map.1 hr
    obtain ⟨cs, y, h4, h5⟩ := each i (by simpa using hi)
    rw [h4]
    exact (World.cells?_some h4).2.1
   obtain ⟨i, row, h4, h5, h6⟩ := aAI _ j v hall hj
   rw [List.getElem?_map] at h4
   obtain ⟨i', hi', rfl⟩ := Option.map_eq_some_iff.1 h4
   have hii : i' = i ∧ i < len := by
    obtain ⟨q1, q2⟩ := List.getElem?_eq_some_iff.1 hi'
    rw [List.getElem_range] at q2
    exact ⟨q2.symm, by simpa using q1⟩
   obtain ⟨rfl, hil⟩ := hii
   obtain ⟨cs, y, h7, h8⟩ := each i' hil
   rw [h7] at h6
   simp only [Option.getD_some] at h6
   obtain ⟨_, hl, hc⟩ := World.cells?_some h7
   have hlt : j - i' * P.cellsOf e < P.cellsOf e := by
    have := (List.getElem?_eq_some_iff.1 h6).1
    omega
   have hcell := hc _ hlt
   rw [h6] at hcell
   refine ⟨hok, by simp, ?_⟩
   obtain ⟨b, o, eq⟩ := hok.cases
   injection eq with eq
   subst eq
   rw [add_lit, add_lit] at hcell
   rw [← hcell]
   simp only [pt, bl, of, Option.getD_some]
   congr 2
   omega
theorem aDZ {α : Type} {en : α → List Value} {Pm : α → Prop} {base : Nat} {t e : TypeId} {v : Value} {d : DataW H} {p : List MemPlace} (ht : P.underlying t = some (.slice e)) (hdec : ∀ (r : List Value) n y, r.length = P.cellsOf e → DataW.trod enc P W 0 (fun _ => true) true n e r = some y → ∃ m, r = en m ∧ Pm m)
  (hv : Value.okWide P W .any base t v) (h : DataW.Trod enc P W 0 (fun _ => true) true t v d p) :
  ∃ (a : Option Addr) (ms : List α) (c : Nat), v = .slice a ms.length c ∧ Sl [] W a (recs en ms) ∧ (∀ m ∈ ms, Pm m) ∧ (ms.length : Int) ≤ 9223372036854775807 ∧ ms.length ≤ c ∧ (Ok a ∨ (a = none ∧ ms.length = 0 ∧ c = 0)) := by
 obtain ⟨fuel, hf⟩ := h
 obtain ⟨a, len, c, rfl, h1, h2, h3, rows, hl, hr, hs⟩ := aLO ht hv hf
 have key : ∀ rows : List (List Value), (∀ r ∈ rows, r.length = P.cellsOf e ∧ ∃ n y, DataW.trod enc P W 0 (fun _ => true) true n e r = some y) → ∃ ms : List α, rows = ms.map en ∧ ∀ m ∈ ms, Pm m := by
  intro rows
  induction rows with
  | nil => intro _; exact ⟨[], rfl, by simp⟩
  | cons r rows ih =>
   intro hr
   obtain ⟨hrl, n, y, hy⟩ := hr r (by simp)
   obtain ⟨m, rfl, hm⟩ := hdec r n y hrl hy
   obtain ⟨ms, rfl, hms⟩ := ih (fun r' hr' => hr r' (by simp [hr']))
   exact ⟨m :: ms, rfl, fun m' hm' => by
    rcases List.mem_cons.1 hm' with rfl | hm'
    ·exact hm
    ·exact hms m' hm'⟩
 obtain ⟨ms, rfl, hms⟩ := key rows hr
 have hlen : ms.length = len := by simpa using hl
 subst hlen
 refine ⟨a, ms, c, rfl, ?_, hms, h1, h2, h3⟩
 rw [← List.flatMap_def] at hs
 exact hs
theorem aIJ {t : TypeId} {k : IntKind} {n : Nat} {cs : List Value} {y : DataW H × List MemPlace} (ht : P.underlying t = some (.int k)) (h : DataW.trod enc P W 0 (fun _ => true) true n t cs = some y) : ∃ x : Int, cs = [.int k x] ∧ (Lit.int k x).wf = true := by
 obtain ⟨m, h1, _, h2⟩ := DataW.trod_int ht h
 exact ⟨m, h1, h2⟩
theorem aNP {t : TypeId} {k : IntKind} {m n : Nat} {cs : List Value} {y : DataW H × List MemPlace} {fs : Array Field} (ht : P.underlying t = some (.struct fs)) (hf : fs.toList.map (fun (f : Field) => (f.offset, P.cellsOf f.type)) = (List.range m).map (fun i => (i, 1))) (hk : ∀ f ∈ fs.toList, P.underlying f.type = some (.int k)) (hl : cs.length = m)
  (h : DataW.trod enc P W 0 (fun _ => true) true n t cs = some y) : ∃ xs : List Int, cs = xs.map (Value.int k) ∧ xs.length = m ∧ ∀ x ∈ xs, (Lit.int k x).wf = true := by
 obtain ⟨zs, n', rfl, _, _, hzl, hz⟩ := DataW.trod_struct ht h
 have each : ∀ i, i < m → ∃ x : Int, cs[i]? = some (.int k x) ∧ (Lit.int k x).wf = true := fun i hi => by
  have hsz : fs.toList.length = m := by have := congrArg List.length hf; simpa using this
  obtain ⟨f, hfi⟩ : ∃ f, fs.toList[i]? = some f := ⟨_, List.getElem?_eq_getElem (by omega)⟩
  have hoff : (f.offset, P.cellsOf f.type) = (i, 1) := by
   have : (fs.toList.map (fun f => (f.offset, P.cellsOf f.type)))[i]? = some (f.offset, P.cellsOf f.type) := by rw [List.getElem?_map, hfi]; rfl
   rw [hf, List.getElem?_map, List.getElem?_range hi] at this
   simpa using this.symm
  injection hoff with ho hc
  have hf2 : fs[i]? = some f := by simpa using hfi
  have := hz i f hf2
  rw [List.getElem?_eq_getElem (by rw [hzl]; exact (Array.getElem?_eq_some_iff.1 hf2).1), ho, hc] at this
  obtain ⟨x, hx, hw⟩ := aIJ (hk f (List.mem_of_getElem? hfi)) this
  refine ⟨x, ?_, hw⟩
  have : ((cs.drop i).take 1)[0]? = some (.int k x) := by rw [hx]; rfl
  rw [List.getElem?_take, if_pos (by omega), List.getElem?_drop] at this
  simpa using this
 refine ⟨cs.map (fun v => match v with | .int _ x => x | _ => 0), ?_, by simpa using hl, ?_⟩
 ·apply List.ext_getElem
  ·simp
  ·intro i h1 h2
   obtain ⟨x, hx, _⟩ := each i (by omega)
   have : cs[i] = .int k x := by
    have := (List.getElem?_eq_some_iff.1 hx).2
    exact this
   simp [this]
 ·intro x hx
  obtain ⟨v, hv, rfl⟩ := List.mem_map.1 hx
  obtain ⟨i, hi, rfl⟩ := List.mem_iff_getElem.1 hv
  obtain ⟨y, hy, hw⟩ := each i (by omega)
  have : cs[i] = .int k y := (List.getElem?_eq_some_iff.1 hy).2
  rw [this]
  exact hw
theorem Mem.startS {W : World} {I : List aX} {a : Option Addr} {cs : List Value} (h : Mem [] W [] I W) (hs : Sl [] W a cs) : Mem [] W [] (aQ a cs :: I) W := h.add (φ := aQ a cs) ⟨hs⟩
end
end Go.Fx
namespace Go.Proofs.YtjbhdfpjnjedhaaGreat
open Go Go.Fx
open Go.ChangeShapes Go.WideShapes Go.RowKit Go.ChangeAt
section
variable {H : Type} {enc : TypeId × Value → H} {P : Program} {W : World}
theorem aKE {fuel : Nat} {t e : TypeId} {cs : List Value} {x : DataW H × List MemPlace} (ht : P.underlying t = some (.slice e)) (hc : 1 ≤ P.cellsOf e) (h : DataW.trod enc P W 0 (fun _ => true) true fuel t cs = some x) :
  ∃ (a : Option Addr) (len c : Nat), cs = [.slice a len c] ∧ (len : Int) ≤ 9223372036854775807 ∧ Cap a len c ∧
   ∃ rows : List (List Value), rows.length = len ∧ (∀ r ∈ rows, r.length = P.cellsOf e ∧ ∃ n y, DataW.trod enc P W 0 (fun _ => true) true n e r = some y) ∧ Sl [] W a rows.flatten := by
 rcases DataW.trod_slice ht h with ⟨hcs, _⟩ | ⟨a', len, c, elems, rest, n, _, hcs, _, _, hlc, hcm, hlen, hel, hsp, _⟩
 ·exact ⟨none, 0, 0, hcs, by omega, ⟨Nat.le_refl _, .inr ⟨rfl, rfl⟩⟩, [], rfl, by simp, Sl.nil _ _ _⟩
 ·have hm : maxLen = 9223372036854775807 := by decide
  obtain ⟨hrl, hsp⟩ := hsp rfl
  have hspot : 0 < c → Ok (some a') := fun h0 => by
   have : ∃ v, W.cell? a' = some v := by
    by_cases hl : 0 < len
    ·have := hel 0 hl
     rw [List.getElem?_eq_getElem (by omega), Option.bind_eq_some_iff] at this
     obtain ⟨cs', h1, _⟩ := this
     obtain ⟨_, hl2, hcell⟩ := World.cells?_some h1
     have := hcell 0 (by omega)
     rw [List.getElem?_eq_getElem (by omega)] at this
     have e1 : (a'.add (0 * P.cellsOf e)).add 0 = a' := by simp [Addr.add]
     rw [e1] at this
     exact ⟨_, this⟩
    ·have hl0 : len = 0 := by omega
     have := hsp 0 (by omega)
     rw [List.getElem?_eq_getElem (by omega), Option.bind_eq_some_iff] at this
     obtain ⟨cs', h1, _⟩ := this
     obtain ⟨_, hl2, hcell⟩ := World.cells?_some h1
     have := hcell 0 (by omega)
     rw [List.getElem?_eq_getElem (by omega)] at this
     have e1 : (a'.add ((len + 0) * P.cellsOf e)).add 0 = a' := by simp [Addr.add, hl0]
     rw [e1] at this
     exact ⟨_, this⟩
   obtain ⟨v, hv⟩ := this
   unfold World.cell? at hv
   cases a' with
   | mk b o s =>
    have : s = none := by
     cases s with
     | none => rfl
     | some s => split at hv <;> simp at hv
    subst this
    exact Ok.mk b o
  have hcap : Cap (some a') len c := ⟨hlc, by
   by_cases h0 : 0 < c
   ·exact .inl (hspot h0)
   ·exact .inr ⟨by omega, by omega⟩⟩
  refine ⟨some a', len, c, hcs, by omega, hcap, ?_⟩
  have each : ∀ i, i < len → ∃ cs y, W.cells? 0 (a'.add (i * P.cellsOf e)) (P.cellsOf e) = some cs ∧ DataW.trod enc P W 0 (fun _ => true) true n e cs = some y := fun i hi => by
   have := hel i hi
   rw [List.getElem?_eq_getElem (by omega), Option.bind_eq_some_iff] at this
   obtain ⟨cs, h1, h2⟩ := this
   exact ⟨cs, _, h1, h2⟩
  refine ⟨(List.range len).map (fun i => (W.cells? 0 (a'.add (i * P.cellsOf e)) (P.cellsOf e)).getD []), by simp, ?_, ?_⟩
  ·intro r hr
   obtain ⟨i, hi, rfl⟩ := List.mem_map.1 hr
   obtain ⟨cs, y, h4, h5⟩ := each i (by simpa using hi)
   rw [h4]
   exact ⟨(World.cells?_some h4).2.1, n, y, h5⟩
  ·intro j v hj
   have hall : ∀ r ∈ (List.range len).map (fun i => (W.cells? 0 (a'.add (i * P.cellsOf e)) (P.cellsOf e)).getD []), r.length = P.cellsOf e := by
    intro r hr
    obtain ⟨i, hi, rfl⟩ := List.mem_map.1 hr
    obtain ⟨cs, y, h4, h5⟩ := each i (by simpa using hi)
    rw [h4]
    exact (World.cells?_some h4).2.1
   obtain ⟨i, row, h4, h5, h6⟩ := aAI _ j v hall hj
   rw [List.getElem?_map] at h4
   obtain ⟨i', hi', rfl⟩ := Option.map_eq_some_iff.1 h4
   have hii : i' = i ∧ i < len := by
    obtain ⟨q1, q2⟩ := List.getElem?_eq_some_iff.1 hi'
    rw [List.getElem_range] at q2
    exact ⟨q2.symm, by simpa using q1⟩
   obtain ⟨rfl, hil⟩ := hii
   have hok : Ok (some a') := hspot (by omega)
   obtain ⟨cs, y, h7, h8⟩ := each i' hil
   rw [h7] at h6
   simp only [Option.getD_some] at h6
   obtain ⟨_, hl, hc'⟩ := World.cells?_some h7
   have hlt : j - i' * P.cellsOf e < P.cellsOf e := by
    have := (List.getElem?_eq_some_iff.1 h6).1
    omega
   have hcell := hc' _ hlt
   rw [h6] at hcell
   refine ⟨hok, by simp, ?_⟩
   obtain ⟨b, o, eq⟩ := hok.cases
   injection eq with eq
   subst eq
   rw [add_lit, add_lit] at hcell
   rw [← hcell]
   simp only [pt, bl, of, Option.getD_some]
   congr 2
   omega
theorem aHL {α : Type} {en : α → List Value} {Pm : α → Prop} {fuel : Nat} {t e : TypeId} {cs : List Value} {x : DataW H × List MemPlace} (ht : P.underlying t = some (.slice e)) (hc : 1 ≤ P.cellsOf e)
  (hdec : ∀ (r : List Value) n y, r.length = P.cellsOf e → DataW.trod enc P W 0 (fun _ => true) true n e r = some y → ∃ m, r = en m ∧ Pm m) (h : DataW.trod enc P W 0 (fun _ => true) true fuel t cs = some x) :
  ∃ (a : Option Addr) (ms : List α) (c : Nat), cs = [.slice a ms.length c] ∧ Sl [] W a (recs en ms) ∧ (∀ m ∈ ms, Pm m) ∧ (ms.length : Int) ≤ 9223372036854775807 ∧ Cap a ms.length c := by
 obtain ⟨a, len, c, rfl, h1, h3, rows, hl, hr, hs⟩ := aKE ht hc h
 have key : ∀ rows : List (List Value), (∀ r ∈ rows, r.length = P.cellsOf e ∧ ∃ n y, DataW.trod enc P W 0 (fun _ => true) true n e r = some y) → ∃ ms : List α, rows = ms.map en ∧ ∀ m ∈ ms, Pm m := by
  intro rows
  induction rows with
  | nil => intro _; exact ⟨[], rfl, by simp⟩
  | cons r rows ih =>
   intro hr
   obtain ⟨hrl, n, y, hy⟩ := hr r (by simp)
   obtain ⟨m, rfl, hm⟩ := hdec r n y hrl hy
   obtain ⟨ms, rfl, hms⟩ := ih (fun r' hr' => hr r' (by simp [hr']))
   exact ⟨m :: ms, rfl, fun m' hm' => by
    rcases List.mem_cons.1 hm' with rfl | hm'
    ·exact hm
    ·exact hms m' hm'⟩
 obtain ⟨ms, rfl, hms⟩ := key rows hr
 have hlen : ms.length = len := by simpa using hl
 subst hlen
 refine ⟨a, ms, c, rfl, ?_, hms, h1, h3⟩
 rw [← List.flatMap_def] at hs
 exact hs
theorem aAA {tr t0 t1 : TypeId} {fr : Array Field} {m k n : Nat} {cs : List Value} {y : DataW H × List MemPlace} (hr : P.underlying tr = some (.struct fr)) (hfr : fr.toList.map (fun f => (f.offset, f.type)) = [(0, t0), (m, t1)]) (cm : P.cellsOf t0 = m) (ck : P.cellsOf t1 = k) (c5 : P.cellsOf tr = m + k) (h : DataW.trod enc P W 0 (fun _ => true) true n tr cs = some y) :
  cs.length = m + k ∧ ∃ n' z0 z1, DataW.trod enc P W 0 (fun _ => true) true n' t0 (cs.take m) = some z0 ∧ DataW.trod enc P W 0 (fun _ => true) true n' t1 (cs.drop m) = some z1 := by
 obtain ⟨zs, n', rfl, rfl, hl, hzl, hz⟩ := DataW.trod_struct hr h
 have hsz : fr.toList.length = 2 := by have := congrArg List.length hfr; simpa using this
 obtain ⟨f0, f1, hfs⟩ : ∃ f0 f1, fr.toList = [f0, f1] := by
  match hh : fr.toList, hsz with
  | [a, b], _ => exact ⟨a, b, rfl⟩
 rw [hfs] at hfr
 simp only [List.map_cons, List.map_nil, List.cons.injEq, Prod.mk.injEq, and_true] at hfr
 obtain ⟨⟨o0, e0⟩, o1, e1⟩ := hfr
 rw [c5] at hl
 have hg0 : fr[0]? = some f0 := by rw [← Array.getElem?_toList, hfs]; rfl
 have hg1 : fr[1]? = some f1 := by rw [← Array.getElem?_toList, hfs]; rfl
 have h0 := hz 0 f0 hg0
 have h1 := hz 1 f1 hg1
 rw [o0, e0, cm] at h0
 rw [o1, e1, ck] at h1
 have hz2 : zs.length = 2 := by rw [hzl]; simpa using hsz
 obtain ⟨z0, z1, rfl⟩ : ∃ z0 z1, zs = [z0, z1] := by
  match zs, hz2 with
  | [a, b], _ => exact ⟨a, b, rfl⟩
 simp only [List.drop_zero, List.getElem?_cons_zero, List.getElem?_cons_succ] at h0 h1
 rw [List.take_of_length_le (l := cs.drop m) (by simp; omega)] at h1
 exact ⟨hl, n', z0, z1, h0, h1⟩
theorem aNQ {t tb ts te : TypeId} {fs : Array Field} {n : Nat} {cs : List Value} {y : DataW H × List MemPlace} (ht : P.underlying t = some (.struct fs)) (hf : fs.toList.map (fun f => (f.offset, f.type)) = [(0, tb), (1, ts)]) (hb : P.underlying tb = some .bool) (hs : P.underlying ts = some (.slice te)) (he : P.underlying te = some (.int .u32))
  (c1 : P.cellsOf tb = 1) (c2 : P.cellsOf ts = 1) (c3 : P.cellsOf te = 1) (c4 : P.cellsOf t = 2) (h : DataW.trod enc P W 0 (fun _ => true) true n t cs = some y) :
  ∃ (nb : Bool) (a : Option Addr) (g : List Int) (c : Nat), cs = [.bool nb, .slice a g.length c] ∧ (∀ x ∈ g, 0 ≤ x) ∧ Sl [] W a (recs eG g) ∧ Cap a g.length c ∧ (g.length : Int) ≤ 9223372036854775807 := by
 obtain ⟨hl, n', z0, z1, h0, h1⟩ := aAA ht hf c1 c2 c4 h
 obtain ⟨u0, u1, rfl⟩ : ∃ u0 u1, cs = [u0, u1] := by
  match cs, hl with
  | [a, b], _ => exact ⟨a, b, rfl⟩
 obtain ⟨nb, hnb, _⟩ := DataW.trod_bool hb h0
 simp at hnb
 subst hnb
 obtain ⟨a, g, c, e1, hsl, hg, hlen, hcap⟩ := aHL (en := eG) (Pm := fun x => 0 ≤ x) hs (by omega) (fun r n y hr hy => by
  obtain ⟨x, rfl, hw⟩ := aIJ he hy
  refine ⟨x, rfl, ?_⟩
  simp [Lit.wf] at hw
  have h32 : IntKind.u32.min = 0 := by decide
  rw [h32] at hw
  exact hw.1) h1
 simp at e1
 subst e1
 exact ⟨nb, a, g, c, rfl, hg, hsl, hcap, hlen⟩
theorem aSZ {tr t tb ts te : TypeId} {fr fs : Array Field} {n : Nat} {cs : List Value} {y : DataW H × List MemPlace} (hr : P.underlying tr = some (.struct fr)) (hfr : fr.toList.map (fun f => (f.offset, f.type)) = [(0, t), (2, t)]) (ht : P.underlying t = some (.struct fs)) (hf : fs.toList.map (fun f => (f.offset, f.type)) = [(0, tb), (1, ts)]) (hb : P.underlying tb = some .bool) (hs : P.underlying ts = some (.slice te)) (he : P.underlying te = some (.int .u32))
  (c1 : P.cellsOf tb = 1) (c2 : P.cellsOf ts = 1) (c3 : P.cellsOf te = 1) (c4 : P.cellsOf t = 2) (c5 : P.cellsOf tr = 4) (h : DataW.trod enc P W 0 (fun _ => true) true n tr cs = some y) :
  ∃ r : RW, cs = eW r ∧ IsW r [] W := by
 obtain ⟨hl, n', z0, z1, h0, h1⟩ := aAA hr hfr c4 c4 c5 h
 obtain ⟨n1, p1, g1, k1, e1, a1, a2, a3, a4⟩ := aNQ ht hf hb hs he c1 c2 c3 c4 h0
 obtain ⟨n2, p2, g2, k2, e2, b1, b2, b3, b4⟩ := aNQ ht hf hb hs he c1 c2 c3 c4 h1
 refine ⟨⟨n1, p1, g1, k1, n2, p2, g2, k2⟩, ?_, ⟨⟨a1, b1, a4, b4, a3, b3⟩, a2, b2⟩⟩
 rw [← List.take_append_drop 2 cs, e1, e2]
 rfl
end
section
variable {H : Type} {enc : TypeId × Value → H} {W : World}
theorem aPK {n : Nat} {cs : List Value} {y : DataW H × List MemPlace} (h : DataW.trod enc Tryz.prog W 0 (fun _ => true) true n 50 cs = some y) : ∃ r : RW, cs = eW r ∧ IsW r [] W :=
 aSZ (tb := 4) (ts := 46) (te := 104) (t := 48) (tr := 50) Tryz.underlying50 (by rfl) Tryz.underlying48 (by rfl) Tryz.underlying4 Tryz.underlying46 Tryz.underlying104 (by kernel_rfl) (by kernel_rfl) (by kernel_rfl) (by kernel_rfl) (by kernel_rfl) h
end
end Go.Proofs.YtjbhdfpjnjedhaaGreat
namespace Go.Proofs.YtjbhdfpjnjedhaaGreat
open Go Go.Fx
theorem Hv.shtR {I : List aX} {a : RW} {A : RE} (e : a = A.raw) (hs : a.brief) (h : isW a ∈ I) : Hv I (dM A 30) := ⟨fun X w hw => by subst e; exact aKP hs (hw _ h)⟩
theorem Mem.fitR {X : List Nat} {w0 w : World} {M : List Ent} {I : List aX} {a : RW} (h : isW a ∈ I) (hw : Mem X w0 M I w) : a.Fit := ((hw.imm _ h).2 : IsW a _ w).fit
end Go.Proofs.YtjbhdfpjnjedhaaGreat

/- consensus: far, Check, Size, kinded, tolerance. Vectors of space in memory; products of lists. consensus: whole, over, rows, formed. -/
import Derived.Test.YtjbhdfpjnjedhaaGreatZqbb
import Derived.Test.YtjbhdfpjnjedhaaGreatZqbf
import Derived.Test.YtjbhdfpjnjedhaaGreatZqau
import Derived.Test.YtjbhdfpjnjedhaaGreatZqay
import Derived.Test.YtjbhdfpjnjedhaaGreatZqaq
set_option linter.unusedSimpArgs false
set_option linter.unusedVariables false
set_option maxRecDepth 100000
set_option maxHeartbeats 4000000
namespace Go.Proofs.YtjbhdfpjnjedhaaGreat
open Go Go.Fx
/- ---------- IndexFunc, ContainsFunc of []fiducial/api.Pair ---------- -/
section
variable {X : List Nat} {w0 : World} {M0 : List Ent} {I0 : List aT}
theorem aQX {q : Option Addr} {a : List Q4} {c : Nat} {g : FuncId} [FnOk Tryz.prog g] {fs cs : Array Value} (pr : Q4 → Prop) [DecidablePred pr] (hn : (a.length : Int) ≤ 9223372036854775807) (ha : aR q (recs kP a) ∈ I0)
  (hg : ∀ i : Nat, i < a.length → CD Tryz.prog g (fs.toList ++ [vQ4 (gt a i)] ++ cs.toList) X w0 M0 I0 (fun v M I => M0 = M ∧ I0 = I ∧ v = .bool (B (pr (gt a i))))) :
  CD Tryz.prog 127 [.slice q a.length c, .func (.func g) fs cs] X w0 M0 I0 (fun v M I => M0 = M ∧ I0 = I ∧ ∃ r : Int, v = .int .i64 r ∧ ((∃ i : Nat, i < a.length ∧ r = i ∧ pr (gt a i) ∧ ∀ j : Nat, j < i → ¬ pr (gt a j)) ∨ (r = -1 ∧ ∀ j : Nat, j < a.length → ¬ pr (gt a j)))) := by
 refine bL Tryz.func127 rfl Tryz.ntmps127 rfl ?_
 repeat (refine aJ ?_)
 refine aZ [0, 1, 7] rfl (fun k G M I => ∃ i : Nat, i ≤ a.length ∧ k = a.length - i ∧ (∀ j : Nat, j < i → ¬ pr (gt a j)) ∧ G = [(8, .int .i64 i)] ∧ M = M0 ∧ I = I0) (a.length) _ _ _ aL aG aD (⟨0, by omega, rfl, fun j hj => by omega, rfl, rfl, rfl⟩) ?_
 rintro k G M I ⟨i, hi, rfl, hs, rfl, rfl, rfl⟩
 repeat' (first | refine aJ ?_ | refine bR rfl (fun h => ?_) (fun h => ?_) | refine bQ rfl rfl (fun h => ?_) (fun h => ?_) | fail)
 ·have hlt : i < a.length := by omega
  (refine eO rfl rfl (hg i hlt) rfl rfl rfl ?_; rintro _ _ _ ⟨rfl, rfl, rfl⟩; refine ⟨okF, ?_⟩)
  repeat' (first | refine aJ ?_ | refine bR rfl (fun h => ?_) (fun h => ?_) | refine bQ rfl rfl (fun h => ?_) (fun h => ?_) | fail)
  ·refine aM (by first | exact .inl rfl | exact .inr rfl) rfl rfl _ _ aG aD (⟨rfl, rfl, _, rfl, .inl ⟨i, hlt, rfl, by assumption, hs⟩⟩)
  ·refine aK (a.length - (i + 1)) _ _ _ (by first | omega | (simp only [List.length_append, List.length_cons, List.length_nil]; omega)) aL aG aD (⟨i + 1, by omega, rfl, fun j hj => ?_, rfl, rfl, rfl⟩)
   by_cases e : j = i
   ·subst e; assumption
   ·exact hs j (by omega)
 ·refine aM (by first | exact .inl rfl | exact .inr rfl) rfl rfl _ _ aG aD (⟨rfl, rfl, _, rfl, .inr ⟨rfl, fun j hj => hs j (by omega)⟩⟩)
theorem aRM {q : Option Addr} {a : List Q4} {c : Nat} {g : FuncId} [FnOk Tryz.prog g] {fs cs : Array Value} (pr : Q4 → Prop) [DecidablePred pr] (hn : (a.length : Int) ≤ 9223372036854775807) (ha : aR q (recs kP a) ∈ I0)
  (hg : ∀ i : Nat, i < a.length → CD Tryz.prog g (fs.toList ++ [vQ4 (gt a i)] ++ cs.toList) X w0 M0 I0 (fun v M I => M0 = M ∧ I0 = I ∧ v = .bool (B (pr (gt a i))))) :
  CD Tryz.prog 78 [.slice q a.length c, .func (.func g) fs cs] X w0 M0 I0 (fun v M I => M0 = M ∧ I0 = I ∧ v = .bool (B (∃ x ∈ a, pr x))) := by
 refine bL Tryz.func78 rfl Tryz.ntmps78 rfl ?_
 repeat (refine aJ ?_)
 (refine aA rfl (aQX pr hn ha hg) rfl rfl ?_; rintro _ _ _ ⟨rfl, rfl, r, rfl, h⟩; refine ⟨okF, ?_⟩)
 repeat (refine aJ ?_)
 refine aM (by first | exact .inl rfl | exact .inr rfl) rfl rfl _ _ aG aD (⟨rfl, rfl, congrArg Value.bool (lF ?_)⟩)
 rcases h with ⟨i, hi, rfl, hp, _⟩ | ⟨rfl, h⟩
 ·exact ⟨fun _ => ⟨gt a i, by rw [jD hi]; exact List.getElem_mem hi, hp⟩, fun _ => by omega⟩
 ·refine ⟨fun h => by omega, ?_⟩
  rintro ⟨x, hx, hp⟩
  obtain ⟨j, hj, rfl⟩ := List.mem_iff_getElem.1 hx
  exact absurd (by rw [jD hj]; exact hp) (h j hj)
end
section
variable {X : List Nat} {w0 : World} {M0 M1 : List Ent} {I0 : List aT}
theorem aKS {a b : Int} : CD Tryz.prog 72 [.agg #[.int .i64 a, .int .i64 b]] X w0 M0 I0 (fun v M I => M0 = M ∧ I0 = I ∧ v = .bool (B (farC a b))) := by
 refine bN Tryz.func72 rfl Tryz.ntmps72 rfl ?_
 refine aH ?_
 refine aI ?_
 (refine aV rfl rfl rfl ?_; intro b1; refine ⟨okF, ?_⟩)
 by_cases h1 : min a b < -32768
 ·repeat (refine aJ ?_)
  refine kD (M' := M0) (I' := I0) aG aD ?_
  refine aM (by first | exact .inl rfl | exact .inr rfl) rfl rfl _ _ aG aD (⟨rfl, rfl, congrArg Value.bool (bV (show farC a b from .inl (by omega))).symm⟩)
 ·by_cases h2 : 32768 < max a b
  ·repeat (refine aJ ?_)
   refine kD (M' := M0) (I' := I0) aG aD ?_
   refine aM (by first | exact .inl rfl | exact .inr rfl) rfl rfl _ _ aG aD (⟨rfl, rfl, congrArg Value.bool ((bV h2).trans (bV (show farC a b from .inr (by omega))).symm)⟩)
  ·repeat (refine aJ ?_)
   refine kD (M' := M0) (I' := I0) aG aD ?_
   refine aM (by first | exact .inl rfl | exact .inr rfl) rfl rfl _ _ aG aD (⟨rfl, rfl, congrArg Value.bool ((dP h2).trans (dP (show ¬ farC a b by unfold farC; omega)).symm)⟩)
theorem aIP {s : Q4} : CD Tryz.prog 79 [vQ4 s] X w0 M0 I0 (fun v M I => M0 = M ∧ I0 = I ∧ v = .bool (B s.far)) := by
 have hF := fun M0 I0 => aKS (X := X) (w0 := w0) (M0 := M0) (I0 := I0) (a := s.x) (b := s.y)
 have hG := fun M0 I0 => aKS (X := X) (w0 := w0) (M0 := M0) (I0 := I0) (a := s.u) (b := s.v)
 refine bN Tryz.func79 rfl Tryz.ntmps79 rfl ?_
 refine aH ?_
 refine aI ?_
 (refine aV rfl rfl rfl ?_; intro b1; refine ⟨okF, ?_⟩)
 by_cases h1 : farC s.x s.y
 ·rw [bV h1] at hF
  repeat (refine aJ ?_)
  (refine aA rfl (hF _ _) rfl rfl ?_; rintro _ _ _ ⟨rfl, rfl, rfl⟩; refine ⟨okF, ?_⟩)
  repeat (refine aJ ?_)
  refine kD (M' := M0) (I' := I0) aG aD ?_
  refine aM (by first | exact .inl rfl | exact .inr rfl) rfl rfl _ _ aG aD (⟨rfl, rfl, congrArg Value.bool (bV (show s.far from .inl h1)).symm⟩)
 ·rw [dP h1] at hF
  repeat (refine aJ ?_)
  (refine aA rfl (hF _ _) rfl rfl ?_; rintro _ _ _ ⟨rfl, rfl, rfl⟩; refine ⟨okF, ?_⟩)
  repeat (refine aJ ?_)
  (refine aA rfl (hG _ _) rfl rfl ?_; rintro _ _ _ ⟨rfl, rfl, rfl⟩; refine ⟨okF, ?_⟩)
  repeat (refine aJ ?_)
  refine kD (M' := M0) (I' := I0) aG aD ?_
  refine aM (by first | exact .inl rfl | exact .inr rfl) rfl rfl _ _ aG aD (⟨rfl, rfl, congrArg Value.bool (lF ⟨fun h => .inr h, fun h => h.resolve_left h1⟩)⟩)
theorem yB {q : Option Addr} {l : List Q4} {n c : Nat} (hl : l.length = n) (hn : (n : Int) ≤ 9223372036854775807) (hq : aR q (recs kP l) ∈ I0) : CD Tryz.prog 37 [.slice q n c] X w0 M0 I0 (fun v M I => M0 = M ∧ I0 = I ∧ v = .int .i64 (oD l)) := by
 subst hl
 have hF := fun M0 I0 h => aRM (X := X) (w0 := w0) (M0 := M0) (I0 := I0) (q := q) (a := l) (c := c) (g := 79) (fs := #[]) (cs := #[]) Q4.far hn h (fun i _ => aIP)
 refine bN Tryz.func37 rfl Tryz.ntmps37 rfl ?_
 by_cases h0 : l.length = 0
 ·rw [show oD l = 1 by unfold oD; rw [if_pos h0]]
  repeat (refine aJ ?_)
  refine aM (by first | exact .inl rfl | exact .inr rfl) rfl rfl _ _ aG aD (⟨rfl, rfl, rfl⟩)
 by_cases h1 : 64 < l.length
 ·rw [show oD l = 3 by unfold oD; rw [if_neg h0, if_pos h1]]
  repeat (refine aJ ?_)
  refine aM (by first | exact .inl rfl | exact .inr rfl) rfl rfl _ _ aG aD (⟨rfl, rfl, rfl⟩)
 by_cases h2 : anyFar l
 ·rw [show oD l = 2 by unfold oD; rw [if_neg h0, if_neg h1, if_pos h2]]
  repeat (refine aJ ?_)
  (refine aA rfl (hF _ _ aB) rfl rfl ?_; rintro _ _ _ ⟨rfl, rfl, rfl⟩; refine ⟨okF, ?_⟩)
  rw [bV (show ∃ x ∈ l, x.far from h2)]
  repeat (refine aJ ?_)
  refine aM (by first | exact .inl rfl | exact .inr rfl) rfl rfl _ _ aG aD (⟨rfl, rfl, rfl⟩)
 ·rw [show oD l = 0 by unfold oD; rw [if_neg h0, if_neg h1, if_neg h2]]
  repeat (refine aJ ?_)
  (refine aA rfl (hF _ _ aB) rfl rfl ?_; rintro _ _ _ ⟨rfl, rfl, rfl⟩; refine ⟨okF, ?_⟩)
  rw [dP (show ¬ ∃ x ∈ l, x.far from h2)]
  repeat (refine aJ ?_)
  refine aM (by first | exact .inl rfl | exact .inr rfl) rfl rfl _ _ aG aD (⟨rfl, rfl, rfl⟩)
def kdP (x : Int) : Prop := 0 ≤ x ∧ x ≤ 3
instance kdP.dec (x : Int) : Decidable (kdP x) := inferInstanceAs (Decidable (0 ≤ x ∧ x ≤ 3))
theorem aTF {x : Int} : CD Tryz.prog 34 [.int .i64 x] X w0 M0 I0 (fun v M I => M0 = M ∧ I0 = I ∧ v = .tuple #[.int .i64 (if kdP x then x + 1 else 0), .int .i64 (if kdP x then 0 else 1)]) := by
 refine bN Tryz.func34 rfl Tryz.ntmps34 rfl ?_
 by_cases h0 : x = 0
 ·rw [if_pos (show kdP x from ⟨by omega, by omega⟩), if_pos (show kdP x from ⟨by omega, by omega⟩)]
  subst h0
  repeat (refine aJ ?_)
  refine gL [2, 3] (by first | exact .inl rfl | exact .inr rfl) rfl rfl rfl _ _ aG aD (⟨rfl, rfl, rfl⟩)
 by_cases h1 : x = 1
 ·rw [if_pos (show kdP x from ⟨by omega, by omega⟩), if_pos (show kdP x from ⟨by omega, by omega⟩)]
  subst h1
  repeat (refine aJ ?_)
  refine gL [2, 3] (by first | exact .inl rfl | exact .inr rfl) rfl rfl rfl _ _ aG aD (⟨rfl, rfl, rfl⟩)
 by_cases h2 : x = 2
 ·rw [if_pos (show kdP x from ⟨by omega, by omega⟩), if_pos (show kdP x from ⟨by omega, by omega⟩)]
  subst h2
  repeat (refine aJ ?_)
  refine gL [2, 3] (by first | exact .inl rfl | exact .inr rfl) rfl rfl rfl _ _ aG aD (⟨rfl, rfl, rfl⟩)
 by_cases h3 : x = 3
 ·rw [if_pos (show kdP x from ⟨by omega, by omega⟩), if_pos (show kdP x from ⟨by omega, by omega⟩)]
  subst h3
  repeat (refine aJ ?_)
  refine gL [2, 3] (by first | exact .inl rfl | exact .inr rfl) rfl rfl rfl _ _ aG aD (⟨rfl, rfl, rfl⟩)
 rw [if_neg (show ¬ kdP x by unfold kdP; omega), if_neg (show ¬ kdP x by unfold kdP; omega)]
 repeat (refine aJ ?_)
 refine gL [2, 3] (by first | exact .inl rfl | exact .inr rfl) rfl rfl rfl _ _ aG aD (⟨rfl, rfl, rfl⟩)
def sD (x : Int) (l : List Q4) : Int := if oD l = 0 then (if kdP x then 0 else 1) else oD l
theorem aDC {x : Int} {q : Option Addr} {l : List Q4} {n c : Nat} (hl : l.length = n) (hn : (n : Int) ≤ 9223372036854775807) (hq : aR q (recs kP l) ∈ I0) :
  CD Tryz.prog 47 [.int .i64 x, .slice q n c] X w0 M0 I0 (fun v M I => M0 = M ∧ I0 = I ∧ v = .tuple #[.int .i64 (if sD x l = 0 then x + 1 else 0), .int .i64 (sD x l)]) := by
 have hC := fun M0 I0 h => yB (X := X) (w0 := w0) (M0 := M0) (I0 := I0) (q := q) (l := l) (n := n) (c := c) hl hn h
 have hS := fun M0 I0 => aTF (X := X) (w0 := w0) (M0 := M0) (I0 := I0) (x := x)
 refine bL Tryz.func47 rfl Tryz.ntmps47 rfl ?_
 by_cases h0 : oD l = 0
 ·rw [h0] at hC
  have e : sD x l = if kdP x then 0 else 1 := by unfold sD; rw [if_pos h0]
  rw [e]
  by_cases hk : kdP x
  ·rw [if_pos hk, if_pos hk] at hS
   rw [if_pos hk, if_pos rfl]
   repeat (refine aJ ?_)
   (refine aA rfl (hC _ _ aB) rfl rfl ?_; rintro _ _ _ ⟨rfl, rfl, rfl⟩; refine ⟨okF, ?_⟩)
   repeat (refine aJ ?_)
   (refine aA rfl (hS _ _) rfl rfl ?_; rintro _ _ _ ⟨rfl, rfl, rfl⟩; refine ⟨okF, ?_⟩)
   repeat (refine aJ ?_)
   refine gL [4, 5] (by first | exact .inl rfl | exact .inr rfl) rfl rfl rfl _ _ aG aD (⟨rfl, rfl, rfl⟩)
  ·rw [if_neg hk, if_neg hk] at hS
   rw [if_neg hk, if_neg (by decide)]
   repeat (refine aJ ?_)
   (refine aA rfl (hC _ _ aB) rfl rfl ?_; rintro _ _ _ ⟨rfl, rfl, rfl⟩; refine ⟨okF, ?_⟩)
   repeat (refine aJ ?_)
   (refine aA rfl (hS _ _) rfl rfl ?_; rintro _ _ _ ⟨rfl, rfl, rfl⟩; refine ⟨okF, ?_⟩)
   repeat (refine aJ ?_)
   refine gL [4, 5] (by first | exact .inl rfl | exact .inr rfl) rfl rfl rfl _ _ aG aD (⟨rfl, rfl, rfl⟩)
 ·have e : sD x l = oD l := by unfold sD; rw [if_neg h0]
  rw [e, if_neg h0]
  obtain ⟨cd, hcd⟩ : ∃ z, oD l = z := ⟨_, rfl⟩
  rw [hcd] at hC h0 ⊢
  repeat (refine aJ ?_)
  (refine aA rfl (hC _ _ aB) rfl rfl ?_; rintro _ _ _ ⟨rfl, rfl, rfl⟩; refine ⟨okF, ?_⟩)
  repeat (refine aJ ?_)
  refine gL [4, 5] (by first | exact .inl rfl | exact .inr rfl) rfl rfl rfl _ _ aG aD (⟨rfl, rfl, rfl⟩)
def tolP (t : Int) : Prop := 0 ≤ t ∧ t ≤ 1073741824
instance tolP.dec (x : Int) : Decidable (tolP x) := inferInstanceAs (Decidable (0 ≤ x ∧ x ≤ 1073741824))
theorem aPY {t : Int} : CD Tryz.prog 48 [.int .i64 t] X w0 M0 I0 (fun v M I => M0 = M ∧ I0 = I ∧ v = .int .i64 (if tolP t then 0 else 2)) := by
 refine bN Tryz.func48 rfl Tryz.ntmps48 rfl ?_
 by_cases h0 : t < 0
 ·rw [if_neg (show ¬ tolP t by unfold tolP; omega)]
  repeat (refine aJ ?_)
  refine aM (by first | exact .inl rfl | exact .inr rfl) rfl rfl _ _ aG aD (⟨rfl, rfl, rfl⟩)
 by_cases h1 : 1073741824 < t
 ·rw [if_neg (show ¬ tolP t by unfold tolP; omega)]
  repeat (refine aJ ?_)
  refine aM (by first | exact .inl rfl | exact .inr rfl) rfl rfl _ _ aG aD (⟨rfl, rfl, rfl⟩)
 ·rw [if_pos (show tolP t from ⟨by omega, by omega⟩)]
  repeat (refine aJ ?_)
  refine aM (by first | exact .inl rfl | exact .inr rfl) rfl rfl _ _ aG aD (⟨rfl, rfl, rfl⟩)
end
end Go.Proofs.YtjbhdfpjnjedhaaGreat
namespace Go.Proofs.YtjbhdfpjnjedhaaGreat
open Go Go.Fx
structure V3 where
 x : Rat
 y : Rat
 z : Rat
def V3.dot (a b : V3) : Rat := a.x * b.x + a.y * b.y + a.z * b.z
def V3.sub (a b : V3) : V3 := ⟨a.x - b.x, a.y - b.y, a.z - b.z⟩
def V3.along (a : V3) (s : Rat) (b : V3) : V3 := ⟨a.x + s * b.x, a.y + s * b.y, a.z + s * b.z⟩
structure TE where
 x : RE
 y : RE
 z : RE
instance : Inhabited TE := ⟨⟨default, default, default⟩⟩
abbrev eT (p : TE) : List Value := recs eR [p.x, p.y, p.z]
abbrev tv (p : TE) : Value := .agg (recs eR [p.x, p.y, p.z]).toArray
instance : Sized eT 12 := ⟨fun _ => rfl⟩
instance : Ones eT := ⟨fun m u hu => uJ _ u hu⟩
def TE.v (p : TE) : V3 := ⟨p.x.q, p.y.q, p.z.q⟩
structure IsT (p : TE) (k : Nat) (X : List Nat) (w : World) : Prop where
 x : IsR p.x k X w
 y : IsR p.y k X w
 z : IsR p.z k X w
abbrev isT (p : TE) (k : Nat) : aT := IsT p k
instance (p : TE) (k : Nat) : Fx.Good (IsT p k) := ⟨fun X Y w w' h he hY => ⟨Fx.Good.go (φ := IsR _ _) X Y w w' h.x he hY, Fx.Good.go (φ := IsR _ _) X Y w w' h.y he hY, Fx.Good.go (φ := IsR _ _) X Y w w' h.z he hY⟩⟩
theorem Hv.mkT {I : List aT} {a b c : RE} {k : Nat} (ha : Hv I (gQ a k)) (hb : Hv I (gQ b k)) (hc : Hv I (gQ c k)) : Hv I (isT ⟨a, b, c⟩ k) := ⟨fun X w hw => ⟨ha.go X w hw, hb.go X w hw, hc.go X w hw⟩⟩
def TE.l (p : TE) (b : Nat) : RL := ⟨some ⟨b, 0, none⟩, 3, [p.x, p.y, p.z]⟩
theorem Hv.tl {I : List aT} {p : TE} {b k : Nat} (h : Hv I (isT p k)) (hs : aR (some ⟨b, 0, none⟩) (eT p) ∈ I) : Hv I (nT (p.l b) k) := ⟨fun X w hw => ⟨(hw _ hs : SlI _ _ X w).go, fun e he => by
 have h1 := h.go X w hw
 have he : e ∈ [p.x, p.y, p.z] := he
 simp only [List.mem_cons, List.not_mem_nil, or_false] at he
 rcases he with rfl | rfl | rfl
 ·exact h1.x
 ·exact h1.y
 ·exact h1.z, ⟨Nat.le_refl 3, .inl (Ok.mk _ _)⟩⟩⟩
def TQ (q : V3) (k : Nat) (M0 : List Ent) (I0 : List aT) (v : Value) (M : List Ent) (I : List aT) : Prop := M0 = M ∧ ∃ p : TE, v = tv p ∧ p.v = q ∧ I = isT p k :: I0
section
variable {X : List Nat} {w0 : World} {M0 : List Ent} {I0 : List aT}
end
end Go.Proofs.YtjbhdfpjnjedhaaGreat
namespace Go.Proofs.YtjbhdfpjnjedhaaGreat
open Go Go.Fx
theorem Hv.r3 {I : List aT} {a b c : RE} {k : Nat} (ha : Hv I (gQ a k)) (hb : Hv I (gQ b k)) (hc : Hv I (gQ c k)) : Hv I (dL [a, b, c] k) := ⟨fun X w hw => ⟨fun x hx => by
 simp only [List.mem_cons, List.not_mem_nil, or_false] at hx
 rcases hx with rfl | rfl | rfl
 ·exact ha.go X w hw
 ·exact hb.go X w hw
 ·exact hc.go X w hw⟩⟩
theorem Hv.l3q {I : List aT} {a b c : RL} {k : Nat} (ha : Hv I (nT a k)) (hb : Hv I (nT b k)) (hc : Hv I (nT c k)) : Hv I (kI [a, b, c] k) := ⟨fun X w hw => ⟨fun x hx => by
 simp only [List.mem_cons, List.not_mem_nil, or_false] at hx
 rcases hx with rfl | rfl | rfl
 ·exact ha.go X w hw
 ·exact hb.go X w hw
 ·exact hc.go X w hw⟩⟩
section
variable {X : List Nat} {w0 : World} {M0 M1 : List Ent} {I0 : List aT}
theorem jQ {x : Int} (hx : -9223372036854775808 ≤ x ∧ x ≤ 9223372036854775807) {k : Nat} (hk : x.natAbs ≤ 2 ^ k) : CD Tryz.prog 91 [.int .i64 x] X w0 M0 I0 (RQ (x : Rat) k M0 I0) := by
 refine bN Tryz.func91 rfl Tryz.ntmps91 rfl ?_
 refine aH ?_
 refine aI ?_
 (refine aF rfl rfl ?_; intro b2; refine ⟨okF, ?_⟩)
 repeat (refine aJ ?_)
 (refine aA rfl (sQ hx hk) rfl rfl ?_; rintro _ _ _ ⟨rfl, e, rfl, he, rfl⟩; refine ⟨okF, ?_⟩)
 repeat (refine aJ ?_)
 refine bJ (cs := eR e) (.inl rfl) rfl rfl aB rfl M0 (gQ e k :: I0) aG aD ⟨rfl, e, rfl, he, rfl⟩
theorem aSA {a b : RE} {k m : Nat} (hk : k + m ≤ 500000000000) (hb0 : b.q ≠ 0) (ha : Hv I0 (gQ a k)) (hb : Hv I0 (gQ b m)) :
  CD Tryz.prog 120 [rv a, rv b] X w0 M0 I0 (RQ (a.q / b.q) (k + m) M0 I0) := by
 refine bL Tryz.func120 rfl Tryz.ntmps120 rfl ?_
 refine aH ?_
 refine aI ?_
 (refine aV rfl rfl rfl ?_; intro b2; refine ⟨okF, ?_⟩)
 (refine aV rfl rfl rfl ?_; intro b3; refine ⟨okF, ?_⟩)
 (refine aF rfl rfl ?_; intro b4; refine ⟨okF, ?_⟩)
 repeat (refine aJ ?_)
 (refine aA rfl (aAV (k := k) (m := m) hk hb0 ha hb) rfl rfl ?_; rintro _ _ _ ⟨rfl, e, rfl, he, rfl⟩; refine ⟨okF, ?_⟩)
 repeat (refine aJ ?_)
 (refine aF rfl rfl ?_; intro b5; refine ⟨okF, ?_⟩)
 repeat (refine aJ ?_)
 refine bJ (cs := eR e) (.inl rfl) rfl rfl aB rfl M0 (gQ e (k + m) :: I0) aG aD ⟨rfl, e, rfl, he, rfl⟩
theorem aAZ {a b : TE} {k : Nat} (ha : Hv I0 (isT a k)) (hb : Hv I0 (isT b k)) :
  CD Tryz.prog 182 [tv a, tv b] X w0 M0 I0 (XQ [[a.x.q, a.y.q, a.z.q], [b.x.q, b.y.q, b.z.q], [0, 0, 1]] 3 3 k M0 I0) := by
 have hW0 := fun M0 I0 => jQ (X := X) (w0 := w0) (M0 := M0) (I0 := I0) (x := 0) (by decide) (k := 0) (by decide)
 have hW1 := fun M0 I0 => jQ (X := X) (w0 := w0) (M0 := M0) (I0 := I0) (x := 1) (by decide) (k := 0) (by decide)
 refine bK (φ := isT a k) ha (bK (φ := isT b k) hb.cons ?_)
 refine bL Tryz.func182 rfl Tryz.ntmps182 rfl ?_
 refine aH ?_
 refine aI ?_
 (refine aV rfl rfl rfl ?_; intro b2; refine ⟨okF, ?_⟩)
 refine aO .here ?_
 (refine aV rfl rfl rfl ?_; intro b3; refine ⟨okF, ?_⟩)
 refine aO .here ?_
 repeat (refine aJ ?_)
 refine dV (φ := nT (a.l b2) k) (Hv.tl (Hv.mem (φ := isT a k) aB) aB) ?_
 refine dV (φ := nT (b.l b3) k) (Hv.tl (Hv.mem (φ := isT b k) aB) aB) ?_
 (repeat refine aH ?_); refine bS (M0) (nT (b.l b3) k :: nT (a.l b2) k :: I0) [0, 1, 2, 3, 4, 5, 6, 7] [4, 4, 0, 0, 0, 0, 0, 0] aG aD mixed (by kernel_rfl) ?_
 (refine aC rfl (fun _ => pV rfl) rfl rfl ?_)
 (refine aC rfl (fun _ => pV rfl) rfl rfl ?_)
 (refine aA rfl (hW0 _ _) rfl rfl ?_; rintro _ _ _ ⟨rfl, e0, rfl, he0, rfl⟩; refine ⟨okF, ?_⟩)
 (refine aA rfl (hW0 _ _) rfl rfl ?_; rintro _ _ _ ⟨rfl, e1, rfl, he1, rfl⟩; refine ⟨okF, ?_⟩)
 (refine aA rfl (hW1 _ _) rfl rfl ?_; rintro _ _ _ ⟨rfl, e2, rfl, he2, rfl⟩; refine ⟨okF, ?_⟩)
 (refine dB (cs := recs eR [e0, e1, e2]) ([rv e0, rv e1, rv e2]) rfl rfl (by intro v hv; repeat (first | exact absurd hv (List.not_mem_nil) | (rcases List.mem_cons.1 hv with rfl | hv; · rfl))) (by omega) rfl rfl rfl ?_; intro b5; refine ⟨okF, ?_⟩)
 refine iX (φ := dL [e0, e1, e2] k) (Hv.r3 (Hv.q (k := 0) aB (Nat.zero_le _)) (Hv.q (k := 0) aB (Nat.zero_le _)) (Hv.q (k := 0) aB (Nat.zero_le _))) ?_
 refine wJ (mm := 3) 4 .here rfl (by omega) ?_
 refine aXF (es := [e0, e1, e2]) (k := k) aB ?_
 (refine dB (cs := recs eL [a.l b2, b.l b3, ⟨some ⟨b5, 0, none⟩, 3, [e0, e1, e2]⟩]) ([lv (a.l b2), lv (b.l b3), lv ⟨some ⟨b5, 0, none⟩, 3, [e0, e1, e2]⟩]) rfl rfl (by intro v hv; repeat (first | exact absurd hv (List.not_mem_nil) | (rcases List.mem_cons.1 hv with rfl | hv; · rfl))) (by omega) rfl rfl rfl ?_; intro b6; refine ⟨okF, ?_⟩)
 refine iX (φ := kI [a.l b2, b.l b3, ⟨some ⟨b5, 0, none⟩, 3, [e0, e1, e2]⟩] k) (Hv.l3q (Hv.mem aB) (Hv.mem aB) (Hv.mem aB)) ?_
 refine wJ (mm := 3) 1 .here rfl (by omega) ?_
 refine aYV (rows := [a.l b2, b.l b3, ⟨some ⟨b5, 0, none⟩, 3, [e0, e1, e2]⟩]) (k := k) aB ?_
 repeat (refine aJ ?_)
 refine kD (M' := M0) (I' := lT ⟨some ⟨b6, 0, none⟩, 3, [a.l b2, b.l b3, ⟨some ⟨b5, 0, none⟩, 3, [e0, e1, e2]⟩]⟩ k :: I0) aG aD ?_
 refine aM (by first | exact .inl rfl | exact .inr rfl) rfl rfl _ _ aG aD (⟨rfl, ⟨some ⟨b6, 0, none⟩, 3, [a.l b2, b.l b3, ⟨some ⟨b5, 0, none⟩, 3, [e0, e1, e2]⟩]⟩, rfl, by show [_, _, [e0.q, e1.q, e2.q]] = _; rw [he0, he1, he2]; rfl, ⟨rfl, fun r hr => by
  simp only [List.mem_cons, List.not_mem_nil, or_false] at hr
  rcases hr with rfl | rfl | rfl <;> rfl⟩, rfl⟩)
end
end Go.Proofs.YtjbhdfpjnjedhaaGreat

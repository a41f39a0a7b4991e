/- consensus: far, Check, Size, kinded, tolerance. The document's minor and determinant. -/
import Derived.Test.YtjbhdfpjnjedhaaGreatZpbe
import Derived.Test.YtjbhdfpjnjedhaaGreatZpal
import Derived.Test.YtjbhdfpjnjedhaaGreatZpba
import Derived.Test.YtjbhdfpjnjedhaaGreatZpan
import Derived.Test.YtjbhdfpjnjedhaaGreatZpbb
import Derived.Test.YtjbhdfpjnjedhaaGreatZpam
set_option linter.unusedSimpArgs false
set_option linter.unusedVariables false
set_option maxRecDepth 100000
set_option maxHeartbeats 4000000
namespace Go.Proofs.YtjbhdfpjnjedhaaGreat
open Go Go.Fx
/- ---------- IndexFunc, ContainsFunc of []fiducial/api.Pair ---------- -/
section
variable {X : List Nat} {w0 : World} {M0 : List Ent} {I0 : List aY}
theorem aOO {q : Option Addr} {a : List Q4} {c : Nat} {g : FuncId} [FnOk Tryz.prog g] {fs cs : Array Value} (pr : Q4 → Prop) [DecidablePred pr] (hn : (a.length : Int) ≤ 9223372036854775807) (ha : aO q (recs kU a) ∈ I0)
  (hg : ∀ i : Nat, i < a.length → CD Tryz.prog g (fs.toList ++ [vQ4 (gt a i)] ++ cs.toList) X w0 M0 I0 (fun v M I => M0 = M ∧ I0 = I ∧ v = .bool (B (pr (gt a i))))) :
  CD Tryz.prog 127 [.slice q a.length c, .func (.func g) fs cs] X w0 M0 I0 (fun v M I => M0 = M ∧ I0 = I ∧ ∃ r : Int, v = .int .i64 r ∧ ((∃ i : Nat, i < a.length ∧ r = i ∧ pr (gt a i) ∧ ∀ j : Nat, j < i → ¬ pr (gt a j)) ∨ (r = -1 ∧ ∀ j : Nat, j < a.length → ¬ pr (gt a j)))) := by
 refine aX Tryz.func127 rfl Tryz.ntmps127 rfl ?_
 repeat (refine aK ?_)
 refine aT [0, 1, 7] rfl (fun k G M I => ∃ i : Nat, i ≤ a.length ∧ k = a.length - i ∧ (∀ j : Nat, j < i → ¬ pr (gt a j)) ∧ G = [(8, .int .i64 i)] ∧ M = M0 ∧ I = I0) (a.length) _ _ _ aP aD aC (⟨0, by omega, rfl, fun j hj => by omega, rfl, rfl, rfl⟩) ?_
 rintro k G M I ⟨i, hi, rfl, hs, rfl, rfl, rfl⟩
 repeat' (first | refine aK ?_ | refine aM rfl (fun h => ?_) (fun h => ?_) | refine aN rfl rfl (fun h => ?_) (fun h => ?_) | fail)
 ·have hlt : i < a.length := by omega
  (refine fD rfl rfl (hg i hlt) rfl rfl rfl ?_; rintro _ _ _ ⟨rfl, rfl, rfl⟩; refine ⟨okF, ?_⟩)
  repeat' (first | refine aK ?_ | refine aM rfl (fun h => ?_) (fun h => ?_) | refine aN rfl rfl (fun h => ?_) (fun h => ?_) | fail)
  ·refine aH (by first | exact .inl rfl | exact .inr rfl) rfl rfl _ _ aD aC (⟨rfl, rfl, _, rfl, .inl ⟨i, hlt, rfl, by assumption, hs⟩⟩)
  ·refine aL (a.length - (i + 1)) _ _ _ (by first | omega | (simp only [List.length_append, List.length_cons, List.length_nil]; omega)) aP aD aC (⟨i + 1, by omega, rfl, fun j hj => ?_, rfl, rfl, rfl⟩)
   by_cases e : j = i
   ·subst e; assumption
   ·exact hs j (by omega)
 ·refine aH (by first | exact .inl rfl | exact .inr rfl) rfl rfl _ _ aD aC (⟨rfl, rfl, _, rfl, .inr ⟨rfl, fun j hj => hs j (by omega)⟩⟩)
theorem aQU {q : Option Addr} {a : List Q4} {c : Nat} {g : FuncId} [FnOk Tryz.prog g] {fs cs : Array Value} (pr : Q4 → Prop) [DecidablePred pr] (hn : (a.length : Int) ≤ 9223372036854775807) (ha : aO q (recs kU a) ∈ I0)
  (hg : ∀ i : Nat, i < a.length → CD Tryz.prog g (fs.toList ++ [vQ4 (gt a i)] ++ cs.toList) X w0 M0 I0 (fun v M I => M0 = M ∧ I0 = I ∧ v = .bool (B (pr (gt a i))))) :
  CD Tryz.prog 78 [.slice q a.length c, .func (.func g) fs cs] X w0 M0 I0 (fun v M I => M0 = M ∧ I0 = I ∧ v = .bool (B (∃ x ∈ a, pr x))) := by
 refine aX Tryz.func78 rfl Tryz.ntmps78 rfl ?_
 repeat (refine aK ?_)
 (refine aA rfl (aOO pr hn ha hg) rfl rfl ?_; rintro _ _ _ ⟨rfl, rfl, r, rfl, h⟩; refine ⟨okF, ?_⟩)
 repeat (refine aK ?_)
 refine aH (by first | exact .inl rfl | exact .inr rfl) rfl rfl _ _ aD aC (⟨rfl, rfl, congrArg Value.bool (gY ?_)⟩)
 rcases h with ⟨i, hi, rfl, hp, _⟩ | ⟨rfl, h⟩
 ·exact ⟨fun _ => ⟨gt a i, by rw [fT hi]; exact List.getElem_mem hi, hp⟩, fun _ => by omega⟩
 ·refine ⟨fun h => by omega, ?_⟩
  rintro ⟨x, hx, hp⟩
  obtain ⟨j, hj, rfl⟩ := List.mem_iff_getElem.1 hx
  exact absurd (by rw [fT hj]; exact hp) (h j hj)
end
section
variable {X : List Nat} {w0 : World} {M0 M1 : List Ent} {I0 : List aY}
theorem aKT {a b : Int} : CD Tryz.prog 72 [.agg #[.int .i64 a, .int .i64 b]] X w0 M0 I0 (fun v M I => M0 = M ∧ I0 = I ∧ v = .bool (B (farC a b))) := by
 refine aZ Tryz.func72 rfl Tryz.ntmps72 rfl ?_
 refine aG ?_
 refine aJ ?_
 (refine aR rfl rfl rfl ?_; intro b1; refine ⟨okF, ?_⟩)
 by_cases h1 : min a b < -32768
 ·repeat (refine aK ?_)
  refine gZ (M' := M0) (I' := I0) aD aC ?_
  refine aH (by first | exact .inl rfl | exact .inr rfl) rfl rfl _ _ aD aC (⟨rfl, rfl, congrArg Value.bool (bJ (show farC a b from .inl (by omega))).symm⟩)
 ·by_cases h2 : 32768 < max a b
  ·repeat (refine aK ?_)
   refine gZ (M' := M0) (I' := I0) aD aC ?_
   refine aH (by first | exact .inl rfl | exact .inr rfl) rfl rfl _ _ aD aC (⟨rfl, rfl, congrArg Value.bool ((bJ h2).trans (bJ (show farC a b from .inr (by omega))).symm)⟩)
  ·repeat (refine aK ?_)
   refine gZ (M' := M0) (I' := I0) aD aC ?_
   refine aH (by first | exact .inl rfl | exact .inr rfl) rfl rfl _ _ aD aC (⟨rfl, rfl, congrArg Value.bool ((bB h2).trans (bB (show ¬ farC a b by unfold farC; omega)).symm)⟩)
theorem aHW {s : Q4} : CD Tryz.prog 79 [vQ4 s] X w0 M0 I0 (fun v M I => M0 = M ∧ I0 = I ∧ v = .bool (B s.far)) := by
 have hF := fun M0 I0 => aKT (X := X) (w0 := w0) (M0 := M0) (I0 := I0) (a := s.x) (b := s.y)
 have hG := fun M0 I0 => aKT (X := X) (w0 := w0) (M0 := M0) (I0 := I0) (a := s.u) (b := s.v)
 refine aZ Tryz.func79 rfl Tryz.ntmps79 rfl ?_
 refine aG ?_
 refine aJ ?_
 (refine aR rfl rfl rfl ?_; intro b1; refine ⟨okF, ?_⟩)
 by_cases h1 : farC s.x s.y
 ·rw [bJ h1] at hF
  repeat (refine aK ?_)
  (refine aA rfl (hF _ _) rfl rfl ?_; rintro _ _ _ ⟨rfl, rfl, rfl⟩; refine ⟨okF, ?_⟩)
  repeat (refine aK ?_)
  refine gZ (M' := M0) (I' := I0) aD aC ?_
  refine aH (by first | exact .inl rfl | exact .inr rfl) rfl rfl _ _ aD aC (⟨rfl, rfl, congrArg Value.bool (bJ (show s.far from .inl h1)).symm⟩)
 ·rw [bB h1] at hF
  repeat (refine aK ?_)
  (refine aA rfl (hF _ _) rfl rfl ?_; rintro _ _ _ ⟨rfl, rfl, rfl⟩; refine ⟨okF, ?_⟩)
  repeat (refine aK ?_)
  (refine aA rfl (hG _ _) rfl rfl ?_; rintro _ _ _ ⟨rfl, rfl, rfl⟩; refine ⟨okF, ?_⟩)
  repeat (refine aK ?_)
  refine gZ (M' := M0) (I' := I0) aD aC ?_
  refine aH (by first | exact .inl rfl | exact .inr rfl) rfl rfl _ _ aD aC (⟨rfl, rfl, congrArg Value.bool (gY ⟨fun h => .inr h, fun h => h.resolve_left h1⟩)⟩)
theorem xR {q : Option Addr} {l : List Q4} {n c : Nat} (hl : l.length = n) (hn : (n : Int) ≤ 9223372036854775807) (hq : aO q (recs kU l) ∈ I0) : CD Tryz.prog 37 [.slice q n c] X w0 M0 I0 (fun v M I => M0 = M ∧ I0 = I ∧ v = .int .i64 (kK l)) := by
 subst hl
 have hF := fun M0 I0 h => aQU (X := X) (w0 := w0) (M0 := M0) (I0 := I0) (q := q) (a := l) (c := c) (g := 79) (fs := #[]) (cs := #[]) Q4.far hn h (fun i _ => aHW)
 refine aZ Tryz.func37 rfl Tryz.ntmps37 rfl ?_
 by_cases h0 : l.length = 0
 ·rw [show kK l = 1 by unfold kK; rw [if_pos h0]]
  repeat (refine aK ?_)
  refine aH (by first | exact .inl rfl | exact .inr rfl) rfl rfl _ _ aD aC (⟨rfl, rfl, rfl⟩)
 by_cases h1 : 64 < l.length
 ·rw [show kK l = 3 by unfold kK; rw [if_neg h0, if_pos h1]]
  repeat (refine aK ?_)
  refine aH (by first | exact .inl rfl | exact .inr rfl) rfl rfl _ _ aD aC (⟨rfl, rfl, rfl⟩)
 by_cases h2 : anyFar l
 ·rw [show kK l = 2 by unfold kK; rw [if_neg h0, if_neg h1, if_pos h2]]
  repeat (refine aK ?_)
  (refine aA rfl (hF _ _ aB) rfl rfl ?_; rintro _ _ _ ⟨rfl, rfl, rfl⟩; refine ⟨okF, ?_⟩)
  rw [bJ (show ∃ x ∈ l, x.far from h2)]
  repeat (refine aK ?_)
  refine aH (by first | exact .inl rfl | exact .inr rfl) rfl rfl _ _ aD aC (⟨rfl, rfl, rfl⟩)
 ·rw [show kK l = 0 by unfold kK; rw [if_neg h0, if_neg h1, if_neg h2]]
  repeat (refine aK ?_)
  (refine aA rfl (hF _ _ aB) rfl rfl ?_; rintro _ _ _ ⟨rfl, rfl, rfl⟩; refine ⟨okF, ?_⟩)
  rw [bB (show ¬ ∃ x ∈ l, x.far from h2)]
  repeat (refine aK ?_)
  refine aH (by first | exact .inl rfl | exact .inr rfl) rfl rfl _ _ aD aC (⟨rfl, rfl, rfl⟩)
def kdP (x : Int) : Prop := 0 ≤ x ∧ x ≤ 3
instance kdP.dec (x : Int) : Decidable (kdP x) := inferInstanceAs (Decidable (0 ≤ x ∧ x ≤ 3))
theorem aTN {x : Int} : CD Tryz.prog 34 [.int .i64 x] X w0 M0 I0 (fun v M I => M0 = M ∧ I0 = I ∧ v = .tuple #[.int .i64 (if kdP x then x + 1 else 0), .int .i64 (if kdP x then 0 else 1)]) := by
 refine aZ Tryz.func34 rfl Tryz.ntmps34 rfl ?_
 by_cases h0 : x = 0
 ·rw [if_pos (show kdP x from ⟨by omega, by omega⟩), if_pos (show kdP x from ⟨by omega, by omega⟩)]
  subst h0
  repeat (refine aK ?_)
  refine eP [2, 3] (by first | exact .inl rfl | exact .inr rfl) rfl rfl rfl _ _ aD aC (⟨rfl, rfl, rfl⟩)
 by_cases h1 : x = 1
 ·rw [if_pos (show kdP x from ⟨by omega, by omega⟩), if_pos (show kdP x from ⟨by omega, by omega⟩)]
  subst h1
  repeat (refine aK ?_)
  refine eP [2, 3] (by first | exact .inl rfl | exact .inr rfl) rfl rfl rfl _ _ aD aC (⟨rfl, rfl, rfl⟩)
 by_cases h2 : x = 2
 ·rw [if_pos (show kdP x from ⟨by omega, by omega⟩), if_pos (show kdP x from ⟨by omega, by omega⟩)]
  subst h2
  repeat (refine aK ?_)
  refine eP [2, 3] (by first | exact .inl rfl | exact .inr rfl) rfl rfl rfl _ _ aD aC (⟨rfl, rfl, rfl⟩)
 by_cases h3 : x = 3
 ·rw [if_pos (show kdP x from ⟨by omega, by omega⟩), if_pos (show kdP x from ⟨by omega, by omega⟩)]
  subst h3
  repeat (refine aK ?_)
  refine eP [2, 3] (by first | exact .inl rfl | exact .inr rfl) rfl rfl rfl _ _ aD aC (⟨rfl, rfl, rfl⟩)
 rw [if_neg (show ¬ kdP x by unfold kdP; omega), if_neg (show ¬ kdP x by unfold kdP; omega)]
 repeat (refine aK ?_)
 refine eP [2, 3] (by first | exact .inl rfl | exact .inr rfl) rfl rfl rfl _ _ aD aC (⟨rfl, rfl, rfl⟩)
def kW (x : Int) (l : List Q4) : Int := if kK l = 0 then (if kdP x then 0 else 1) else kK l
theorem uJ {x : Int} {q : Option Addr} {l : List Q4} {n c : Nat} (hl : l.length = n) (hn : (n : Int) ≤ 9223372036854775807) (hq : aO q (recs kU l) ∈ I0) :
  CD Tryz.prog 47 [.int .i64 x, .slice q n c] X w0 M0 I0 (fun v M I => M0 = M ∧ I0 = I ∧ v = .tuple #[.int .i64 (if kW x l = 0 then x + 1 else 0), .int .i64 (kW x l)]) := by
 have hC := fun M0 I0 h => xR (X := X) (w0 := w0) (M0 := M0) (I0 := I0) (q := q) (l := l) (n := n) (c := c) hl hn h
 have hS := fun M0 I0 => aTN (X := X) (w0 := w0) (M0 := M0) (I0 := I0) (x := x)
 refine aX Tryz.func47 rfl Tryz.ntmps47 rfl ?_
 by_cases h0 : kK l = 0
 ·rw [h0] at hC
  have e : kW x l = if kdP x then 0 else 1 := by unfold kW; rw [if_pos h0]
  rw [e]
  by_cases hk : kdP x
  ·rw [if_pos hk, if_pos hk] at hS
   rw [if_pos hk, if_pos rfl]
   repeat (refine aK ?_)
   (refine aA rfl (hC _ _ aB) rfl rfl ?_; rintro _ _ _ ⟨rfl, rfl, rfl⟩; refine ⟨okF, ?_⟩)
   repeat (refine aK ?_)
   (refine aA rfl (hS _ _) rfl rfl ?_; rintro _ _ _ ⟨rfl, rfl, rfl⟩; refine ⟨okF, ?_⟩)
   repeat (refine aK ?_)
   refine eP [4, 5] (by first | exact .inl rfl | exact .inr rfl) rfl rfl rfl _ _ aD aC (⟨rfl, rfl, rfl⟩)
  ·rw [if_neg hk, if_neg hk] at hS
   rw [if_neg hk, if_neg (by decide)]
   repeat (refine aK ?_)
   (refine aA rfl (hC _ _ aB) rfl rfl ?_; rintro _ _ _ ⟨rfl, rfl, rfl⟩; refine ⟨okF, ?_⟩)
   repeat (refine aK ?_)
   (refine aA rfl (hS _ _) rfl rfl ?_; rintro _ _ _ ⟨rfl, rfl, rfl⟩; refine ⟨okF, ?_⟩)
   repeat (refine aK ?_)
   refine eP [4, 5] (by first | exact .inl rfl | exact .inr rfl) rfl rfl rfl _ _ aD aC (⟨rfl, rfl, rfl⟩)
 ·have e : kW x l = kK l := by unfold kW; rw [if_neg h0]
  rw [e, if_neg h0]
  obtain ⟨cd, hcd⟩ : ∃ z, kK l = z := ⟨_, rfl⟩
  rw [hcd] at hC h0 ⊢
  repeat (refine aK ?_)
  (refine aA rfl (hC _ _ aB) rfl rfl ?_; rintro _ _ _ ⟨rfl, rfl, rfl⟩; refine ⟨okF, ?_⟩)
  repeat (refine aK ?_)
  refine eP [4, 5] (by first | exact .inl rfl | exact .inr rfl) rfl rfl rfl _ _ aD aC (⟨rfl, rfl, rfl⟩)
def tolP (t : Int) : Prop := 0 ≤ t ∧ t ≤ 1073741824
instance tolP.dec (x : Int) : Decidable (tolP x) := inferInstanceAs (Decidable (0 ≤ x ∧ x ≤ 1073741824))
theorem aWQ {t : Int} : CD Tryz.prog 48 [.int .i64 t] X w0 M0 I0 (fun v M I => M0 = M ∧ I0 = I ∧ v = .int .i64 (if tolP t then 0 else 2)) := by
 refine aZ Tryz.func48 rfl Tryz.ntmps48 rfl ?_
 by_cases h0 : t < 0
 ·rw [if_neg (show ¬ tolP t by unfold tolP; omega)]
  repeat (refine aK ?_)
  refine aH (by first | exact .inl rfl | exact .inr rfl) rfl rfl _ _ aD aC (⟨rfl, rfl, rfl⟩)
 by_cases h1 : 1073741824 < t
 ·rw [if_neg (show ¬ tolP t by unfold tolP; omega)]
  repeat (refine aK ?_)
  refine aH (by first | exact .inl rfl | exact .inr rfl) rfl rfl _ _ aD aC (⟨rfl, rfl, rfl⟩)
 ·rw [if_pos (show tolP t from ⟨by omega, by omega⟩)]
  repeat (refine aK ?_)
  refine aH (by first | exact .inl rfl | exact .inr rfl) rfl rfl _ _ aD aC (⟨rfl, rfl, rfl⟩)
end
end Go.Proofs.YtjbhdfpjnjedhaaGreat
namespace Go.Proofs.YtjbhdfpjnjedhaaGreat
open Go Go.Fx
def hD (k : Nat) : Nat → Nat
 | 0 => k
 | n + 1 => (n + 2) * (k + hD k n + 1)
section
variable {X : List Nat} {w0 : World} {M0 : List Ent} {I0 : List aY}
theorem tT {x : Int} (hx : x.natAbs ≤ 1) : CD Tryz.prog 102 [.int .i64 x] X w0 M0 I0 (RQ (x : Rat) 0 M0 I0) := by
 have hW := fun M0 I0 => sS (X := X) (w0 := w0) (M0 := M0) (I0 := I0) (x := x) (by omega) (k := 0) hx
 refine aZ Tryz.func102 rfl Tryz.ntmps102 rfl ?_
 refine aG ?_
 refine aJ ?_
 (refine aI rfl rfl ?_; intro b; refine ⟨okF, ?_⟩)
 repeat (refine aK ?_)
 (refine aA rfl (hW _ _) rfl rfl ?_; rintro _ _ _ ⟨rfl, e, rfl, he, rfl⟩; refine ⟨okF, ?_⟩)
 repeat (refine aK ?_)
 refine bD (cs := eR e) (.inl rfl) rfl rfl aB rfl M0 (bS e 0 :: I0) aD aC ⟨rfl, e, rfl, he, rfl⟩
theorem aOS {m : MX} {n j k0 : Nat} (hn : n ≤ 100) (hd : m.dim (n + 1) (n + 1)) (hj : j ≤ n) (hw : jF m k0 ∈ I0) :
  CD Tryz.prog 104 [mv m, .int .i64 0, .int .i64 (j : Int)] X w0 M0 I0 (XQ (xW n n (fun i c => at2 m.q (i + 1) (sk j c))) n n k0 M0 I0) := by
 have hl := hd.1
 refine cZ (φ := aO (m).p (recs eL (m).rows)) (Hv.xsl aB) ?_
 refine jU Tryz.func104 rfl Tryz.ntmps104 rfl ?_
 repeat (refine aK ?_)
 (refine aQ (cs := recs eL []) ([]) rfl rfl (by intro v hv; repeat (first | exact absurd hv (List.not_mem_nil) | (rcases List.mem_cons.1 hv with rfl | hv; · rfl))) (by omega) rfl rfl rfl ?_; intro bo; refine ⟨okF, ?_⟩; refine jI (mm := 0) 1 .here rfl (by omega) ?_)
 repeat (refine aK ?_)
 refine iB (φ := jW [] k0) Hv.nilL ?_
 refine aT [0, 1, 2] rfl (fun k G M I => ∃ (i : Nat) (rs : List RL) (q : Option Addr) (c : Nat), i ≤ n + 1 ∧ k = n + 1 - i ∧ rs.length = i - 1 ∧ (∀ r ∈ rs, r.es.length = n) ∧ rs.map RL.q = (List.range (i - 1)).map (fun t => (List.range n).map (fun c => at2 m.q (t + 1) (sk j c))) ∧ G = [(7, .slice q rs.length c), (8, .int .i64 i)] ∧ M = .row q rs.length c (recs eL rs) 53 1 :: M0 ∧ I = jW rs k0 :: aO m.p (recs eL m.rows) :: I0) (n + 1) _ _ _ aP aD aC (⟨0, [], _, _, by omega, rfl, rfl, by simp, rfl, rfl, rfl, rfl⟩) ?_
 rintro kk G M I ⟨i, rs, q, c, hi, rfl, hrl, hrc, hrq, rfl, rfl, rfl⟩
 by_cases hin : i < n + 1
 ·by_cases hi0 : i = 0
  ·subst hi0
   repeat (refine aK ?_)
   refine aL (n + 1 - (0 + 1)) _ _ _ (by first | omega | (simp only [List.length_append, List.length_cons, List.length_nil]; omega)) aP aD aC (⟨0 + 1, rs, q, c, by omega, rfl, hrl, hrc, hrq, rfl, rfl, rfl⟩)
  ·have hrow := hd.row hin
   refine iB (φ := aO (gt (m).rows (i : Int)).p (recs eR (gt (m).rows (i : Int)).es)) (Hv.xrsl aB (by omega)) ?_
   repeat (refine aK ?_)
   (refine aQ (cs := recs eR []) ([]) rfl rfl (by intro v hv; repeat (first | exact absurd hv (List.not_mem_nil) | (rcases List.mem_cons.1 hv with rfl | hv; · rfl))) (by omega) rfl rfl rfl ?_; intro bl; refine ⟨okF, ?_⟩; refine jI (mm := 0) 4 .here rfl (by omega) ?_)
   repeat (refine aK ?_)
   refine iB (φ := cO [] k0) Hv.nilR ?_
   refine aT [0, 1, 2, 7, 8] rfl (fun k G M I => ∃ (u : Nat) (es : List RE) (ql : Option Addr) (cl : Nat), u ≤ n + 1 ∧ k = n + 1 - u ∧ es.length = (if u ≤ j then u else u - 1) ∧ qs es = (List.range (if u ≤ j then u else u - 1)).map (fun c => at2 m.q i (sk j c)) ∧ G = [(9, .slice ql es.length cl), (10, .int .i64 u)] ∧ M = .row ql es.length cl (recs eR es) 50 4 :: .row q rs.length c (recs eL rs) 53 1 :: M0 ∧ I = cO es k0 :: aO (gt m.rows (i : Int)).p (recs eR (gt m.rows (i : Int)).es) :: jW rs k0 :: aO m.p (recs eL m.rows) :: I0) (n + 1) _ _ _ aP aD aC (⟨0, [], _, _, by omega, rfl, by simp, by simp, rfl, rfl, rfl⟩) ?_
   rintro kk G M I ⟨u, es, ql, cl, hu, rfl, hel, heq, rfl, rfl, rfl⟩
   have hel2 : es.length ≤ n + 1 := by rw [hel]; split <;> omega
   by_cases hun : u < n + 1
   ·by_cases huj : u = j
    ·repeat (refine aK ?_)
     refine aL (n + 1 - (u + 1)) _ _ _ (by first | omega | (simp only [List.length_append, List.length_cons, List.length_nil]; omega)) aP aD aC (⟨u + 1, es, ql, cl, by omega, rfl, ?_, ?_, rfl, rfl, rfl⟩)
     ·rw [hel, if_pos (by omega), if_neg (by omega)]; omega
     ·rw [heq, if_pos (by omega), if_neg (by omega), Nat.add_sub_cancel]
    ·repeat (refine aK ?_)
     refine dP (φ := bS (gt (gt m.rows (i : Int)).es (u : Int)) k0) (Hv.xel aB (by omega) (by omega)) ?_
     (refine aQ (cs := recs eR [gt (gt m.rows (i : Int)).es (u : Int)]) ([rv (gt (gt m.rows (i : Int)).es (u : Int))]) rfl rfl (by intro v hv; repeat (first | exact absurd hv (List.not_mem_nil) | (rcases List.mem_cons.1 hv with rfl | hv; · rfl))) (by omega) rfl rfl rfl ?_; intro b; refine ⟨okF, ?_⟩)
     (refine dI (ys := [gt (gt m.rows (i : Int)).es (u : Int)]) 1 rfl rfl rfl ?_ (by decide) rfl (by omega) (by omega) rfl rfl ?_; (· first | exact Src.blk aB | exact Src.row aB | exact Src.imm aB (by first | assumption | exact .inl (Ok.mk _ _))); intro q2 c2; refine ⟨okF, ?_⟩)
     repeat (refine aK ?_)
     refine gV (φ := cO (es ++ [gt (gt m.rows (i : Int)).es (u : Int)]) k0) (Hv.snoc aB aB) ?_
     refine aL (n + 1 - (u + 1)) _ _ _ (by first | omega | (simp only [List.length_append, List.length_cons, List.length_nil]; omega)) aP aD aC (⟨u + 1, es ++ [gt (gt m.rows (i : Int)).es (u : Int)], q2, c2, by omega, rfl, ?_, ?_, rfl, rfl, rfl⟩)
     ·rw [List.length_append, hel, List.length_singleton]
      by_cases h1 : u ≤ j
      ·rw [if_pos h1, if_pos (by omega)]
      ·rw [if_neg h1, if_neg (by omega)]; omega
     ·have hat := rF (m := m) (i := i) (j := u) (by omega) (by omega)
      show (es ++ [_]).map RE.q = _
      rw [List.map_append]
      show qs es ++ [(gt (gt m.rows (i : Int)).es (u : Int)).q] = _
      rw [heq, ← hat]
      by_cases h1 : u ≤ j
      ·rw [if_pos h1, if_pos (by omega), List.range_succ, List.map_append]
       simp [sk, show u < j by omega]
      ·rw [if_neg h1, if_neg (by omega), show u + 1 - 1 = (u - 1) + 1 by omega, List.range_succ, List.map_append]
       simp [sk, show ¬ u - 1 < j by omega, show u - 1 + 1 = u by omega]
   ·obtain rfl : u = n + 1 := by omega
    rw [if_neg (by omega)] at hel heq
    repeat (refine aK ?_)
    refine aHP aB ?_
    (refine aQ (cs := recs eL [(⟨ql, cl, es⟩ : RL)]) ([lv (⟨ql, cl, es⟩ : RL)]) rfl rfl (by intro v hv; repeat (first | exact absurd hv (List.not_mem_nil) | (rcases List.mem_cons.1 hv with rfl | hv; · rfl))) (by omega) rfl rfl rfl ?_; intro b; refine ⟨okF, ?_⟩)
    (refine dI (ys := [(⟨ql, cl, es⟩ : RL)]) 1 rfl rfl rfl ?_ (by decide) rfl (by omega) (by omega) rfl rfl ?_; (· first | exact Src.blk aB | exact Src.row aB | exact Src.imm aB (by first | assumption | exact .inl (Ok.mk _ _))); intro q2 c2; refine ⟨okF, ?_⟩)
    repeat (refine aK ?_)
    refine gV (φ := jW (rs ++ [(⟨ql, cl, es⟩ : RL)]) k0) (Hv.snocL aB aB) ?_
    refine aL (n + 1 - (i + 1)) _ _ _ (by first | omega | (simp only [List.length_append, List.length_cons, List.length_nil]; omega)) aP aD aC (⟨i + 1, rs ++ [(⟨ql, cl, es⟩ : RL)], q2, c2, by omega, rfl, ?_, ?_, ?_, rfl, rfl, rfl⟩)
    ·rw [List.length_append, hrl, List.length_singleton]; omega
    ·intro r hr
     rcases List.mem_append.1 hr with h | h
     ·exact hrc r h
     ·rw [List.mem_singleton.1 h]; exact hel
    ·rw [aQB, hrq, show i + 1 - 1 = (i - 1) + 1 by omega, List.range_succ, List.map_append]
     show _ ++ [qs es] = _
     rw [heq]
     simp [show i - 1 + 1 = i by omega]
 ·obtain rfl : i = n + 1 := by omega
  repeat (refine aK ?_)
  refine aJC aB ?_
  refine aH (by first | exact .inl rfl | exact .inr rfl) rfl rfl _ _ aD aC (⟨rfl, ⟨q, c, rs⟩, rfl, hrq, ⟨hrl, hrc⟩, rfl⟩)
theorem aJV : ∀ (n : Nat) {M0 : List Ent} {I0 : List aY} {m : MX} {k0 : Nat}, 1 ≤ n → n ≤ 100 → hD k0 n ≤ 50000000000 → m.dim n n → jF m k0 ∈ I0 → CD Tryz.prog 60 [mv m] X w0 M0 I0 (RQ (dt n (at2 m.q)) (hD k0 n) M0 I0)
 | 0, _, _, _, _, h, _, _, _, _ => by omega
 | 1, M0, I0, m, k0, _, _, hK, hd, hw => by
  have hl := hd.1
  have hrow : (gt m.rows 0).es.length = 1 := hd.row (i := 0) (by omega)
  have hKK : 2 * (k0 + k0 + 1) ≤ 50000000000 := hK
  refine cZ (φ := aO (m).p (recs eL (m).rows)) (Hv.xsl aB) ?_
  refine cZ (φ := aO (gt (m).rows 0).p (recs eR (gt (m).rows 0).es)) (Hv.xrsl aB (by omega)) ?_
  refine aZ Tryz.func60 rfl Tryz.ntmps60 rfl ?_
  refine aG ?_
  refine aJ ?_
  (refine aI rfl rfl ?_; intro b2; refine ⟨okF, ?_⟩)
  repeat (refine aK ?_)
  refine gV (φ := bS (gt (gt m.rows 0).es 0) k0) (Hv.xel aB (by omega) (by omega)) ?_
  refine gV (φ := bS (gt (gt m.rows 0).es 0) (hD k0 1)) (Hv.q (k := k0) (List.Mem.head _) (by show k0 ≤ 2 * (k0 + k0 + 1); omega)) ?_
  refine bD (cs := eR (gt (gt m.rows 0).es 0)) (.inl rfl) rfl rfl aB rfl M0 (bS (gt (gt m.rows 0).es 0) (hD k0 1) :: I0) aD aC ⟨rfl, _, rfl, ?_, rfl⟩
  have hat : at2 m.q 0 0 = (gt (gt m.rows 0).es 0).q := rF (m := m) (i := 0) (j := 0) (by omega) (by show 0 < (gt m.rows 0).es.length; omega)
  show (gt (gt m.rows 0).es 0).q = 0 + sgd 0 * at2 m.q 0 0 * 1
  rw [hat]
  simp only [sgd]
  grind
 | n + 2, M0, I0, m, k0, _, hn, hK, hd, hw => by
  have hl := hd.1
  have hrow : (gt m.rows 0).es.length = n + 2 := hd.row (i := 0) (by omega)
  obtain ⟨hh, hhe⟩ : ∃ hh, hh = hD k0 (n + 1) := ⟨_, rfl⟩
  have hKe : hD k0 (n + 2) = (n + 3) * (k0 + hh + 1) := by rw [hhe]; rfl
  rw [hKe] at hK ⊢
  obtain ⟨c, hc⟩ : ∃ c, c = k0 + hh + 1 := ⟨_, rfl⟩
  rw [← hc] at hK ⊢
  have hc1 : c ≤ 50000000000 := Nat.le_trans (Nat.le_mul_of_pos_left c (by omega)) hK
  have ih := fun (m' : MX) M0 I0 h1 h2 => aJV (n + 1) (M0 := M0) (I0 := I0) (m := m') (k0 := k0) (by omega) (by omega) (by omega) h1 h2
  rw [← hhe] at ih
  have hW := fun M0 I0 => tT (X := X) (w0 := w0) (M0 := M0) (I0 := I0) (x := 0) (by decide)
  have hMi := fun (t : Nat) M0 I0 ht h2 => aOS (X := X) (w0 := w0) (M0 := M0) (I0 := I0) (m := m) (n := n + 1) (j := t) (k0 := k0) (by omega) hd ht h2
  refine cZ (φ := aO (m).p (recs eL (m).rows)) (Hv.xsl aB) ?_
  refine cZ (φ := aO (gt (m).rows 0).p (recs eR (gt (m).rows 0).es)) (Hv.xrsl aB (by omega)) ?_
  refine aZ Tryz.func60 rfl Tryz.ntmps60 rfl ?_
  refine aG ?_
  refine aJ ?_
  (refine aI rfl rfl ?_; intro b2; refine ⟨okF, ?_⟩)
  repeat (refine aK ?_)
  (refine aA rfl (hW _ _) rfl rfl ?_; rintro _ _ _ ⟨rfl, s0, rfl, hs0, rfl⟩; refine ⟨okF, ?_⟩)
  repeat (refine aK ?_)
  (refine aI rfl rfl ?_; intro b3; refine ⟨okF, ?_⟩)
  repeat (refine aK ?_)
  refine aT [0, 2, 3] rfl (fun k G M I => ∃ (t : Nat) (s : RE), t ≤ n + 2 ∧ k = n + 2 - t ∧ s.q = sm t (fun j => sgd j * at2 m.q 0 j * dt (n + 1) (fun i c => at2 m.q (i + 1) (sk j c))) ∧ G = [(4, .int .i64 t)] ∧ M = .blk b3 (eR s) 50 :: .blk b2 [.bool false, .slice none 0 0, .bool false, .slice none 0 0] 50 :: M0 ∧ I = bS s (t * c) :: aO (gt m.rows 0).p (recs eR (gt m.rows 0).es) :: aO m.p (recs eL m.rows) :: I0) (n + 2) _ _ _ aP aD aC (⟨0, s0, by omega, rfl, hs0, rfl, rfl, by rw [Nat.zero_mul]⟩) ?_
  rintro kk G M I ⟨t, s, ht, rfl, hs, rfl, rfl, rfl⟩
  by_cases htn : t < n + 2
  ·have hu2 : (t + 1) * c = t * c + c := Nat.succ_mul t c
   have hu3 : (t + 1) * c ≤ 50000000000 := Nat.le_trans (Nat.mul_le_mul_right c (show t + 1 ≤ n + 3 by omega)) hK
   have hat : at2 m.q 0 t = (gt (gt m.rows 0).es (t : Int)).q := rF (m := m) (i := 0) (j := t) (by omega) (by show t < (gt m.rows 0).es.length; omega)
   have hEl : ∀ I, jF m k0 ∈ I → Hv I (bS (gt (gt m.rows 0).es (t : Int)) k0) := fun I h => Hv.xel h (by omega) (by omega)
   have hS := fun M0 I0 h => uG (X := X) (w0 := w0) (M0 := M0) (I0 := I0) (e := gt (gt m.rows 0).es (t : Int)) (k := k0) (by omega) h
   generalize t * c = u at *
   by_cases hx0 : (gt (gt m.rows 0).es (t : Int)).q = 0
   ·rw [(oO _).2 hx0] at hS
    repeat (refine aK ?_)
    (refine aA rfl (hS _ _ (hEl _ aB)) rfl rfl ?_; rintro _ _ _ ⟨rfl, rfl, rfl⟩; refine ⟨okF, ?_⟩)
    repeat (refine aK ?_)
    refine gV (φ := bS s ((t + 1) * c)) (Hv.q (k := u) aB (by omega)) ?_
    refine aL (n + 2 - (t + 1)) _ _ _ (by first | omega | (simp only [List.length_append, List.length_cons, List.length_nil]; omega)) aP aD aC (⟨t + 1, s, by omega, rfl, ?_, rfl, rfl, rfl⟩)
    simp only [sm]
    have hx1 : at2 m.q 0 t = 0 := by rw [hat]; exact hx0
    rw [hs, hx1]; grind
   ·have hs0 : ¬ (gt (gt m.rows 0).es (t : Int)).q.num.sign = 0 := fun h => hx0 ((oO _).1 h)
    generalize (gt (gt m.rows 0).es (t : Int)).q.num.sign = sg1 at *
    repeat (refine aK ?_)
    (refine aA rfl (hS _ _ (hEl _ aB)) rfl rfl ?_; rintro _ _ _ ⟨rfl, rfl, rfl⟩; refine ⟨okF, ?_⟩)
    repeat (refine aK ?_)
    refine mU (fun G M I => ∃ (b5 : Nat) (e : RE), e.q = at2 m.q 0 t * dt (n + 1) (fun i c => at2 m.q (i + 1) (sk t c)) ∧ G = [(0, mv m), (2, .pointer (some ⟨b2, 0, none⟩)), (3, .pointer (some ⟨b3, 0, none⟩)), (4, .int .i64 (t : Int)), (5, .pointer (some ⟨b5, 0, none⟩))] ∧ M = .blk b5 (eR e) 50 :: .blk b3 (eR s) 50 :: .blk b2 [.bool false, .slice none 0 0, .bool false, .slice none 0 0] 50 :: M0 ∧ I = bS e (k0 + hh) :: bS s u :: aO (gt m.rows 0).p (recs eR (gt m.rows 0).es) :: aO m.p (recs eL m.rows) :: I0) ?_ ?_
    ·have hfin : ∀ (y : MX) (e3 : RE), y.q = xW (n + 1) (n + 1) (fun i c => at2 m.q (i + 1) (sk t c)) → e3.q = (gt (gt m.rows 0).es (t : Int)).q * dt (n + 1) (at2 y.q) → e3.q = at2 m.q 0 t * dt (n + 1) (fun i c => at2 m.q (i + 1) (sk t c)) := fun y e3 h1 h2 => by
      rw [h2, hat]
      congr 1
      exact kF (fun i j hi hj => by rw [h1, tQ hi hj])
     ((repeat refine aG ?_); refine mP (.blk b3 (eR s) 50 :: .blk b2 [.bool false, .slice none 0 0, .bool false, .slice none 0 0] 50 :: M0) (bS s u :: aO (gt m.rows 0).p (recs eR (gt m.rows 0).es) :: aO m.p (recs eL m.rows) :: I0) mixed ?_)
     refine iQ (fuel := 5) (listed' := #[true, true, true, true, true, true, true, true, false, false, false, false, false]) [0, 1, 2, 3, 4, 5, 6, 7] [4, 4, 4, 4, 4, 3, 3, 3] aD aC (by kernel_rfl) (by kernel_rfl) rfl rfl ?_
     repeat (refine aK ?_)
     refine bW (fuel := 4) (i := 8) (j := 11) (by kernel_rfl) ?_ ?_
     ·(refine aA rfl (hMi t _ _ (by omega) aB) rfl rfl ?_; rintro _ _ _ ⟨rfl, y, rfl, hy, hyd, rfl⟩; refine ⟨okF, ?_⟩)
      refine bH ?_
      repeat (refine aK ?_)
      refine bW (fuel := 3) (i := 9) (j := 11) (by kernel_rfl) ?_ ?_
      ·(refine aA rfl (ih y _ _ hyd aB) rfl rfl ?_; rintro _ _ _ ⟨rfl, e2, rfl, he2, rfl⟩; refine ⟨okF, ?_⟩)
       refine bH ?_
       repeat (refine aK ?_)
       refine bW (fuel := 2) (i := 10) (j := 11) (by kernel_rfl) ?_ ?_
       ·(refine aA rfl (rA (k := k0) (m := hh) (by omega) (hEl _ aB) (Hv.mem aB)) rfl rfl ?_; rintro _ _ _ ⟨rfl, e3, rfl, he3, rfl⟩; refine ⟨okF, ?_⟩)
        refine bH ?_
        refine bE [11, 12] [0, 0] aD aC (by kernel_rfl) (by kernel_rfl) rfl rfl ?_
        repeat (refine aK ?_)
        (refine aI rfl rfl ?_; intro b5; refine ⟨okF, ?_⟩)
        repeat (refine aK ?_)
        refine eX _ _ _ aP aD aC ⟨b5, e3, hfin y e3 hy (by rw [he3, he2]), rfl, rfl, rfl⟩
       ·(refine aI rfl rfl ?_; intro b5; refine ⟨okF, ?_⟩)
        refine bH ?_
        refine bE [10, 12] [0, 0] aD aC (by kernel_rfl) (by kernel_rfl) rfl rfl ?_
        repeat (refine aK ?_)
        (refine aA rfl (rA (k := k0) (m := hh) (by omega) (hEl _ aB) (Hv.mem aB)) rfl rfl ?_; rintro _ _ _ ⟨rfl, e3, rfl, he3, rfl⟩; refine ⟨okF, ?_⟩)
        repeat (refine aK ?_)
        refine eX _ _ _ aP aD aC ⟨b5, e3, hfin y e3 hy (by rw [he3, he2]), rfl, rfl, rfl⟩
      ·(refine aI rfl rfl ?_; intro b5; refine ⟨okF, ?_⟩)
       refine bH ?_
       refine bE [9, 10, 12] [0, 0, 0] aD aC (by kernel_rfl) (by kernel_rfl) rfl rfl ?_
       repeat (refine aK ?_)
       (refine aA rfl (ih y _ _ hyd aB) rfl rfl ?_; rintro _ _ _ ⟨rfl, e2, rfl, he2, rfl⟩; refine ⟨okF, ?_⟩)
       repeat (refine aK ?_)
       (refine aA rfl (rA (k := k0) (m := hh) (by omega) (hEl _ aB) (Hv.mem aB)) rfl rfl ?_; rintro _ _ _ ⟨rfl, e3, rfl, he3, rfl⟩; refine ⟨okF, ?_⟩)
       repeat (refine aK ?_)
       refine eX _ _ _ aP aD aC ⟨b5, e3, hfin y e3 hy (by rw [he3, he2]), rfl, rfl, rfl⟩
     ·(refine aI rfl rfl ?_; intro b5; refine ⟨okF, ?_⟩)
      refine bH ?_
      refine bE [8, 9, 10, 12] [0, 0, 0, 0] aD aC (by kernel_rfl) (by kernel_rfl) rfl rfl ?_
      repeat (refine aK ?_)
      (refine aA rfl (hMi t _ _ (by omega) aB) rfl rfl ?_; rintro _ _ _ ⟨rfl, y, rfl, hy, hyd, rfl⟩; refine ⟨okF, ?_⟩)
      repeat (refine aK ?_)
      (refine aA rfl (ih y _ _ hyd aB) rfl rfl ?_; rintro _ _ _ ⟨rfl, e2, rfl, he2, rfl⟩; refine ⟨okF, ?_⟩)
      repeat (refine aK ?_)
      (refine aA rfl (rA (k := k0) (m := hh) (by omega) (hEl _ aB) (Hv.mem aB)) rfl rfl ?_; rintro _ _ _ ⟨rfl, e3, rfl, he3, rfl⟩; refine ⟨okF, ?_⟩)
      repeat (refine aK ?_)
      refine eX _ _ _ aP aD aC ⟨b5, e3, hfin y e3 hy (by rw [he3, he2]), rfl, rfl, rfl⟩
    ·rintro G M I ⟨b5, e, he, rfl, rfl, rfl⟩
     have htm : (t : Int).tmod 2 = (t : Int) % 2 := Int.tmod_eq_emod_of_nonneg (by omega)
     by_cases hodd : t % 2 = 1
     ·repeat (refine aK ?_)
      (refine aA rfl (aBE (k := k0 + hh) (by omega) (Hv.mem aB)) rfl rfl ?_; rintro _ _ _ ⟨rfl, e4, rfl, he4, rfl⟩; refine ⟨okF, ?_⟩)
      repeat (refine aK ?_)
      (refine aA rfl (rG (k := u) (m := k0 + hh) (by omega) (Hv.mem aB) (Hv.mem aB)) rfl rfl ?_; rintro _ _ _ ⟨rfl, e5, rfl, he5, rfl⟩; refine ⟨okF, ?_⟩)
      repeat (refine aK ?_)
      refine gV (φ := bS e5 ((t + 1) * c)) (Hv.q (k := u + (k0 + hh) + 1) aB (by omega)) ?_
      refine aL (n + 2 - (t + 1)) _ _ _ (by first | omega | (simp only [List.length_append, List.length_cons, List.length_nil]; omega)) aP aD aC (⟨t + 1, e5, by omega, rfl, ?_, rfl, rfl, rfl⟩)
      simp only [sm]
      rw [he5, he4, he, hs]
      simp only [sgd, if_neg (show ¬ t % 2 = 0 by omega)]
      grind
     ·repeat (refine aK ?_)
      (refine aA rfl (rG (k := u) (m := k0 + hh) (by omega) (Hv.mem aB) (Hv.mem aB)) rfl rfl ?_; rintro _ _ _ ⟨rfl, e5, rfl, he5, rfl⟩; refine ⟨okF, ?_⟩)
      repeat (refine aK ?_)
      refine gV (φ := bS e5 ((t + 1) * c)) (Hv.q (k := u + (k0 + hh) + 1) aB (by omega)) ?_
      refine aL (n + 2 - (t + 1)) _ _ _ (by first | omega | (simp only [List.length_append, List.length_cons, List.length_nil]; omega)) aP aD aC (⟨t + 1, e5, by omega, rfl, ?_, rfl, rfl, rfl⟩)
      simp only [sm]
      rw [he5, he, hs]
      simp only [sgd, if_pos (show t % 2 = 0 by omega)]
      grind
  ·obtain rfl : t = n + 2 := by omega
   repeat (refine aK ?_)
   refine gV (φ := bS s ((n + 3) * c)) (Hv.q (k := (n + 2) * c) aB (Nat.mul_le_mul_right c (by omega))) ?_
   refine bD (cs := eR s) (.inl rfl) rfl rfl aB rfl M0 (bS s ((n + 3) * c) :: I0) aD aC ⟨rfl, s, rfl, hs, rfl⟩
end
end Go.Proofs.YtjbhdfpjnjedhaaGreat

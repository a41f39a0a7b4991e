/- Chapter 29, plain: homographies of moved pairs. The homography of four pairs (package homography); quotients of integers; the first integer that is not zero. The walk, kept once. Functions of Go's slices package, at slices of ints and the like. -/
import Derived.Test.YtjbhdfpjnjedhaaGreatZqbd
import Derived.Test.YtjbhdfpjnjedhaaGreatZqbc
import Derived.Test.YtjbhdfpjnjedhaaGreatZqbe
import Derived.Test.YtjbhdfpjnjedhaaGreatZqap
import Derived.Test.YtjbhdfpjnjedhaaGreatZqau
import Derived.Test.YtjbhdfpjnjedhaaGreatZqae
import Derived.Test.YtjbhdfpjnjedhaaGreatZqag
set_option linter.unusedSimpArgs false
set_option linter.unusedVariables false
set_option maxRecDepth 100000
set_option maxHeartbeats 4000000
namespace Go.Proofs.YtjbhdfpjnjedhaaGreat
open Go Go.Fx
theorem zS {ps : List Q4} (hl : ¬ colP (l4 ps)) (hm : ¬ colP (m4 ps)) : ∃ x ∈ gP (pG ps), x ≠ 0 := by
 apply Classical.byContradiction
 intro hn
 have hz : ∀ x ∈ gP (pG ps), x = 0 := fun x hx => Classical.byContradiction (fun h => hn ⟨x, hx, h⟩)
 have h1 := (aFW (iH (l4 ps)) (iH (m4 ps))).1
 rw [← xS] at h1
 have h2 := congrArg T3.c h1
 have za : (pG ps).z.a = 0 := hz _ (by simp [gP])
 have zb : (pG ps).z.b = 0 := hz _ (by simp [gP])
 have zc : (pG ps).z.c = 0 := hz _ (by simp [gP])
 have e1 : ((mM (pG ps)).app (iH (l4 ps)).p).c = 0 := by
  show ((pG ps).z.a : Rat) * _ + ((pG ps).z.b : Rat) * _ + ((pG ps).z.c : Rat) * _ = 0
  rw [za, zb, zc, show ((0 : Int) : Rat) = 0 from rfl, Rat.zero_mul, Rat.zero_mul, Rat.zero_mul, Rat.add_zero, Rat.add_zero]
 have oL := zV hl
 have oM := zV hm
 have hK := vR (vR (vR oM.h0 oL.h1) oL.h2) oL.h3
 have e2 : ((iH (m4 ps)).p.smul ((iH (m4 ps)).k0 * (iH (l4 ps)).k1 * (iH (l4 ps)).k2 * (iH (l4 ps)).k3)).c = (iH (m4 ps)).k0 * (iH (l4 ps)).k1 * (iH (l4 ps)).k2 * (iH (l4 ps)).k3 := by
  show _ * ((1 : Int) : Rat) = _
  rw [show ((1 : Int) : Rat) = 1 from rfl, Rat.mul_one]
 exact hK (e2.symm.trans (h2.symm.trans e1))
def pF (s : Q4) : T3 Rat := iF (rQ s)
def pT (s : Q4) : T3 Rat := iF (tQ s)
def mOf (H : M9 Rat) : Mt := aMZ (gP H)
theorem uO (H : M9 Rat) (s : Q4) : oU (mOf H) 0 s = H.x.dot (pF s) ∧ oU (mOf H) 1 s = H.y.dot (pF s) ∧ oU (mOf H) 2 s = H.z.dot (pF s) := by
 have h : ∀ a b c : Rat, a * (s.x : Rat) + b * (s.y : Rat) + c = a * (s.x : Rat) + b * (s.y : Rat) + c * ((1 : Int) : Rat) := fun a b c => by rw [show ((1 : Int) : Rat) = 1 from rfl, Rat.mul_one]
 exact ⟨h _ _ _, h _ _ _, h _ _ _⟩
structure HomM (f : Q4 → Q4) where
 T : M9 Rat → M9 Rat
 ap : ∀ H s c, H.app (pF s) = (pT s).smul c → (T H).app (pF (f s)) = (pT (f s)).smul c
 nz : ∀ H, (∀ x ∈ gP (T H), x = 0) → ∀ x ∈ gP H, x = 0
 last : ∀ H s, (T H).z.dot (pF (f s)) = H.z.dot (pF s)
 mis : ∀ H s, H.z.dot (pF s) ≠ 0 → tO (mOf (T H)) (f s) = tO (mOf H) s
 col : ∀ a b c d, (colP ⟨rQ (f a), rQ (f b), rQ (f c), rQ (f d)⟩ ↔ colP ⟨rQ a, rQ b, rQ c, rQ d⟩) ∧ (colP ⟨tQ (f a), tQ (f b), tQ (f c), tQ (f d)⟩ ↔ colP ⟨tQ a, tQ b, tQ c, tQ d⟩)
theorem aDA {ps : List Q4} (h1 : ¬ colP (l4 ps)) (h2 : ¬ colP (m4 ps)) {H : M9 Rat} {s : Rat} (hs : s ≠ 0) (hH : gP H = (gP (mM (pG ps))).map (fun x => s * x)) : ∃ c : Rat, c ≠ 0 ∧ ∀ i j, i < 3 → j < 3 → at2 (aMZ (aEK (gP (mM (pG ps))))) i j = c * at2 (mOf H) i j := by
 have hn : wO (gP H) ≠ 0 := fun e => by
  obtain ⟨x, hx, hx0⟩ := zS h1 h2
  have h3 := aVD.1 e (s * (x : Rat)) (by rw [hH]; exact List.mem_map_of_mem (List.mem_map_of_mem hx))
  exact vR hs (int_ne hx0) h3
 have e : aEK (gP (mM (pG ps))) = (gP H).map (fun x => x / wO (gP H)) := by
  rw [← aDV hs, ← hH]; rfl
 refine ⟨1 / wO (gP H), by grind, fun i j hi hj => ?_⟩
 rw [e]
 obtain rfl | rfl | rfl : i = 0 ∨ i = 1 ∨ i = 2 := by omega
 all_goals obtain rfl | rfl | rfl : j = 0 ∨ j = 1 ∨ j = 2 := by omega
 all_goals
  unfold mOf
  simp only [aMZ, gP, at2, rowAt, List.map, List.getD]
  simp
  grind
theorem aVH {f : Q4 → Q4} (M : HomM f) {ps : List Q4} (h4 : ps.length = 4) : Alike (oW ps) (oW (ps.map f)) f := by
 obtain ⟨a, b, c, d, rfl⟩ : ∃ a b c d, ps = [a, b, c, d] := by
  match ps, h4 with
  | [a, b, c, d], _ => exact ⟨a, b, c, d, rfl⟩
 have hcl := M.col a b c d
 have k1 : colP (l4 [f a, f b, f c, f d]) ↔ colP (l4 [a, b, c, d]) := hcl.1
 have k2 : colP (m4 [f a, f b, f c, f d]) ↔ colP (m4 [a, b, c, d]) := hcl.2
 have key : ∀ m m', oW [a, b, c, d] = some m → oW [f a, f b, f c, f d] = some m' → ∃ (H : M9 Rat) (c1 c2 : Rat), c1 ≠ 0 ∧ c2 ≠ 0 ∧ (∀ i j, i < 3 → j < 3 → at2 m i j = c1 * at2 (mOf H) i j) ∧ (∀ i j, i < 3 → j < 3 → at2 m' i j = c2 * at2 (mOf (M.T H)) i j) := by
  intro m m' h h'
  unfold oW at h h'
  split at h
  ·cases h
  ·rename_i hc
   split at h'
   ·cases h'
   ·injection h with h
    injection h' with h'
    obtain ⟨n1, n2⟩ : ¬ colP (l4 [a, b, c, d]) ∧ ¬ colP (m4 [a, b, c, d]) := ⟨fun h => hc (.inl h), fun h => hc (.inr h)⟩
    have n1' : ¬ colP (l4 [f a, f b, f c, f d]) := fun h => n1 (k1.1 h)
    have n2' : ¬ colP (m4 [f a, f b, f c, f d]) := fun h => n2 (k2.1 h)
    obtain ⟨p0, p1, p2, p3⟩ := aFW (iH (l4 [a, b, c, d])) (iH (m4 [a, b, c, d]))
    rw [← xS] at p0 p1 p2 p3
    obtain ⟨s, hs, hsm⟩ := aSV n1' n2' (H := M.T (mM (pG [a, b, c, d]))) (M.ap _ a _ p0) (M.ap _ b _ p1) (M.ap _ c _ p2) (M.ap _ d _ p3) (Classical.byContradiction (fun hn => by
     obtain ⟨x, hx, hx0⟩ := zS n1 n2
     exact int_ne hx0 (M.nz _ (fun y hy => Classical.byContradiction (fun h => hn ⟨y, hy, h⟩)) _ (List.mem_map_of_mem (f := fun x : Int => (x : Rat)) hx))))
    obtain ⟨c1, hc1, e1⟩ := aDA n1 n2 (H := mM (pG [a, b, c, d])) (s := 1) (by decide) (by simp)
    obtain ⟨c2, hc2, e2⟩ := aDA n1' n2' hs hsm
    exact ⟨mM (pG [a, b, c, d]), c1, c2, hc1, hc2, by rw [← h]; exact e1, by rw [← h']; exact e2⟩
 refine ⟨?_, fun m m' h h' s => ?_, fun m m' h h' s h0 => ?_⟩
 ·show oW [a, b, c, d] = none ↔ oW [f a, f b, f c, f d] = none
  unfold oW
  by_cases hc : colP (l4 [a, b, c, d]) ∨ colP (m4 [a, b, c, d])
  ·rw [if_pos hc, if_pos (hc.imp k1.2 k2.2)]
  ·rw [if_neg hc, if_neg (fun h => hc (h.imp k1.1 k2.1))]
   exact ⟨fun h => (by cases h), fun h => (by cases h)⟩
 ·obtain ⟨H, c1, c2, hc1, hc2, e1, e2⟩ := key m m' h h'
  rw [(uK hc1 e1 s).1, (uK hc2 e2 (f s)).1, (uO _ _).2.2, (uO _ _).2.2, M.last]
 ·obtain ⟨H, c1, c2, hc1, hc2, e1, e2⟩ := key m m' h h'
  rw [(uK hc1 e1 s).2, (uK hc2 e2 (f s)).2]
  refine (M.mis H s ?_).symm
  rw [← (uO _ _).2.2]
  exact fun e => h0 ((uK hc1 e1 s).1.2 e)
theorem uW (H : M9 Rat) (s : Q4) : tO (mOf H) s = (H.x.dot (pF s) / H.z.dot (pF s) - (s.u : Rat)) * (H.x.dot (pF s) / H.z.dot (pF s) - (s.u : Rat)) + (H.y.dot (pF s) / H.z.dot (pF s) - (s.v : Rat)) * (H.y.dot (pF s) / H.z.dot (pF s) - (s.v : Rat)) := by
 unfold tO aJP aJC
 rw [(uO H s).1, (uO H s).2.1, (uO H s).2.2]
def shT (a b : Int) (H : M9 Rat) : M9 Rat := ⟨H.x.add (H.z.smul (a : Rat)), H.y.add (H.z.smul (b : Rat)), H.z⟩
theorem aPO (p q r : Q4) (a b : Int) : d3 (tQ (iB a b p)) (tQ (iB a b q)) (tQ (iB a b r)) = d3 (tQ p) (tQ q) (tQ r) := by
 simp only [d3, T3.cross, T3.dot, tQ, iB]; grind
def aOP (a b : Int) : HomM (iB a b) where
 T := shT a b
 ap := fun H s c h => by
  simp only [M9.app, T3.smul, T3.mk.injEq, shT, T3.dot, T3.add, pF, pT, iF, rQ, tQ, iB, Rat.intCast_add] at h ⊢
  obtain ⟨h1, h2, h3⟩ := h
  refine ⟨?_, ?_, ?_⟩ <;> grind
 nz := fun H h => by
  simp only [gP, shT, T3.add, T3.smul, List.mem_cons, List.not_mem_nil, or_false, forall_eq_or_imp, forall_eq] at h ⊢
  refine ⟨?_, ?_, ?_, ?_, ?_, ?_, ?_, ?_, ?_⟩ <;> grind
 last := fun H s => rfl
 mis := fun H s h0 => by
  rw [uW, uW]
  have e1 : (shT a b H).x.dot (pF (iB a b s)) = H.x.dot (pF s) + (a : Rat) * H.z.dot (pF s) := by simp only [shT, T3.dot, T3.add, T3.smul, pF, iF, rQ, iB]; grind
  have e2 : (shT a b H).y.dot (pF (iB a b s)) = H.y.dot (pF s) + (b : Rat) * H.z.dot (pF s) := by simp only [shT, T3.dot, T3.add, T3.smul, pF, iF, rQ, iB]; grind
  have e3 : (shT a b H).z.dot (pF (iB a b s)) = H.z.dot (pF s) := rfl
  have key : ∀ x k : Rat, (x + k * H.z.dot (pF s)) / H.z.dot (pF s) = x / H.z.dot (pF s) + k := fun x k => by
   generalize H.z.dot (pF s) = d at *
   grind
  rw [e1, e2, e3, key, key]
  simp only [iB, Rat.intCast_add]
  grind
 col := fun p q r s => ⟨Iff.rfl, by unfold colP P4.k0 P4.k1 P4.k2 P4.k3; simp only [aPO]⟩
def aCT (H : M9 Rat) : M9 Rat := ⟨⟨H.y.b, H.y.a, H.y.c⟩, ⟨H.x.b, H.x.a, H.x.c⟩, ⟨H.z.b, H.z.a, H.z.c⟩⟩
theorem aLC (p q r : Q4) : d3 (tQ (jH p)) (tQ (jH q)) (tQ (jH r)) = -d3 (tQ p) (tQ q) (tQ r) ∧ d3 (rQ (jH p)) (rQ (jH q)) (rQ (jH r)) = -d3 (rQ p) (rQ q) (rQ r) := by
 simp only [d3, T3.cross, T3.dot, tQ, rQ, jH]; constructor <;> grind
theorem aWH (z : Int) : -z = 0 ↔ z = 0 := by omega
def aTS : HomM jH where
 T := aCT
 ap := fun H s c h => by
  simp only [M9.app, T3.smul, T3.mk.injEq, aCT, T3.dot, pF, pT, iF, rQ, tQ, jH] at h ⊢
  obtain ⟨h1, h2, h3⟩ := h
  refine ⟨?_, ?_, ?_⟩ <;> grind
 nz := fun H h => by
  simp only [gP, aCT, List.mem_cons, List.not_mem_nil, or_false, forall_eq_or_imp, forall_eq] at h ⊢
  grind
 last := fun H s => by simp only [aCT, T3.dot, pF, iF, rQ, jH]; grind
 mis := fun H s h0 => by
  rw [uW, uW]
  have e1 : (aCT H).x.dot (pF (jH s)) = H.y.dot (pF s) := by simp only [aCT, T3.dot, pF, iF, rQ, jH]; grind
  have e2 : (aCT H).y.dot (pF (jH s)) = H.x.dot (pF s) := by simp only [aCT, T3.dot, pF, iF, rQ, jH]; grind
  have e3 : (aCT H).z.dot (pF (jH s)) = H.z.dot (pF s) := by simp only [aCT, T3.dot, pF, iF, rQ, jH]; grind
  rw [e1, e2, e3]
  simp only [jH]
  grind
 col := fun p q r s => ⟨by unfold colP P4.k0 P4.k1 P4.k2 P4.k3; simp only [(aLC _ _ _).2, aWH], by unfold colP P4.k0 P4.k1 P4.k2 P4.k3; simp only [(aLC _ _ _).1, aWH]⟩
def aCI (H : M9 Rat) : M9 Rat := ⟨⟨H.y.b, -H.y.a, -H.y.c⟩, ⟨-H.x.b, H.x.a, H.x.c⟩, ⟨-H.z.b, H.z.a, H.z.c⟩⟩
theorem aKM (p q r : Q4) : d3 (tQ (jZ p)) (tQ (jZ q)) (tQ (jZ r)) = d3 (tQ p) (tQ q) (tQ r) ∧ d3 (rQ (jZ p)) (rQ (jZ q)) (rQ (jZ r)) = d3 (rQ p) (rQ q) (rQ r) := by
 simp only [d3, T3.cross, T3.dot, tQ, rQ, jZ]; constructor <;> grind
def aTK : HomM jZ where
 T := aCI
 ap := fun H s c h => by
  simp only [M9.app, T3.smul, T3.mk.injEq, aCI, T3.dot, pF, pT, iF, rQ, tQ, jZ, Rat.intCast_neg] at h ⊢
  obtain ⟨h1, h2, h3⟩ := h
  refine ⟨?_, ?_, ?_⟩ <;> grind
 nz := fun H h => by
  simp only [gP, aCI, List.mem_cons, List.not_mem_nil, or_false, forall_eq_or_imp, forall_eq] at h ⊢
  grind
 last := fun H s => by simp only [aCI, T3.dot, pF, iF, rQ, jZ, Rat.intCast_neg]; grind
 mis := fun H s h0 => by
  rw [uW, uW]
  have e1 : (aCI H).x.dot (pF (jZ s)) = -H.y.dot (pF s) := by simp only [aCI, T3.dot, pF, iF, rQ, jZ, Rat.intCast_neg]; grind
  have e2 : (aCI H).y.dot (pF (jZ s)) = H.x.dot (pF s) := by simp only [aCI, T3.dot, pF, iF, rQ, jZ, Rat.intCast_neg]; grind
  have e3 : (aCI H).z.dot (pF (jZ s)) = H.z.dot (pF s) := by simp only [aCI, T3.dot, pF, iF, rQ, jZ, Rat.intCast_neg]; grind
  rw [e1, e2, e3]
  simp only [jZ, Rat.intCast_neg]
  grind
 col := fun p q r s => ⟨by unfold colP P4.k0 P4.k1 P4.k2 P4.k3; simp only [(aKM _ _ _).2], by unfold colP P4.k0 P4.k1 P4.k2 P4.k3; simp only [(aKM _ _ _).1]⟩
theorem Alike.comp {mp mp' mp'' : Option Mt} {f g : Q4 → Q4} (h1 : Alike mp mp' f) (h2 : Alike mp' mp'' g) : Alike mp mp'' (fun s => g (f s)) := by
 have hs : ∀ m m'', mp = some m → mp'' = some m'' → ∃ m', mp' = some m' := fun m m'' e1 e2 => by
  rcases h : mp' with _ | m'
  ·have := h1.none.2 h; rw [this] at e1; cases e1
  ·exact ⟨m', rfl⟩
 refine ⟨h1.none.trans h2.none, fun m m'' e1 e2 s => ?_, fun m m'' e1 e2 s h0 => ?_⟩
 ·obtain ⟨m', e⟩ := hs m m'' e1 e2
  exact (h1.last m m' e1 e s).trans (h2.last m' m'' e e2 (f s))
 ·obtain ⟨m', e⟩ := hs m m'' e1 e2
  exact (h1.mis m m' e1 e s h0).trans (h2.mis m' m'' e e2 (f s) (fun h => h0 ((h1.last m m' e1 e s).2 h)))
end Go.Proofs.YtjbhdfpjnjedhaaGreat
namespace Go.Proofs.YtjbhdfpjnjedhaaGreat
open Go Go.Fx
theorem os4 {α : Type} [Inhabited α] {os : List α} (h : os.length = 4) : os = [gt os 0, gt os 1, gt os 2, gt os 3] := by
 match os, h with
 | [_, _, _, _], _ => rfl
abbrev z24 : List Value := recs wT [none, none, none, none]
def aPA (ps : List Q4) (M0 : List Ent) (I0 : List aT) (v : Value) (M : List Ent) (I : List aT) : Prop := M0 = M ∧ if colP (l4 ps) ∨ colP (m4 ps) then (I0 = I ∧ v = .tuple #[.agg z18.toArray, .int .i64 13]) else ∃ (h : HZ) (g : Int), v = .tuple #[gZ h, .int .i64 0] ∧ g ≠ 0 ∧ (gP h.m).map (fun x => x * g) = gP (pG ps) ∧ I = dY h 772 :: I0
section
variable {X : List Nat} {w0 : World} {M0 : List Ent} {I0 : List aT}
theorem aSL {ps : List Q4} (hp : ps.length = 4) (hs : ∀ s ∈ ps, s.near) : CD Tryz.prog 86 [.agg (recs kP ps).toArray] X w0 M0 I0 (aPA ps M0 I0) := by
 have hB := fun (w : QZ) M0 I0 h1 => aVI (X := X) (w0 := w0) (M0 := M0) (I0 := I0) (w := w) h1
 unfold aPA
 refine bN Tryz.func86 rfl Tryz.ntmps86 rfl ?_
 refine aH ?_
 refine aI ?_
 (refine aV rfl rfl rfl ?_; intro b1; refine ⟨okF, ?_⟩)
 refine aO (cs := recs kP ps) .here ?_
 (refine aF rfl rfl ?_; intro b2; refine ⟨okF, ?_⟩)
 repeat (refine aJ ?_)
 (refine aF rfl rfl ?_; intro b4; refine ⟨okF, ?_⟩)
 (refine aF rfl rfl ?_; intro b5; refine ⟨okF, ?_⟩)
 repeat (refine aJ ?_)
 (apply dG; exact dX; exact rfl; exact aB; exact AtsZ.all (by rw [iE, hp]); exact rfl; exact rfl)
 repeat (refine aJ ?_)
 refine dV (φ := allT [none, none, none, none] 63) (Hv.tNil (n := 4)) ?_
 refine aZ [2, 4, 5, 12] rfl (fun k G M I => ∃ (i : Nat) (o1 o2 : List (Option TZ)), i ≤ 4 ∧ k = 4 - i ∧ o1.length = 4 ∧ o2.length = 4 ∧ (∀ j : Nat, j < i → ∃ e : TZ, gt o1 (j : Int) = some e ∧ e.t = rQ (gt ps (j : Int))) ∧ (∀ j : Nat, j < i → ∃ e : TZ, gt o2 (j : Int) = some e ∧ e.t = tQ (gt ps (j : Int))) ∧ G = [(13, .int .i64 i)] ∧ M = .blk b5 (recs wT o2) 167 :: .blk b4 (recs wT o1) 167 :: .blk b2 z18 128 :: M0 ∧ I = allT o1 63 :: allT o2 63 :: aR (some ⟨b1, 0, none⟩) (recs kP ps) :: I0) (4) _ _ _ aL aG aD (⟨0, [none, none, none, none], [none, none, none, none], by omega, rfl, rfl, rfl, fun j hj => absurd hj (by omega), fun j hj => absurd hj (by omega), rfl, rfl, rfl⟩) ?_
 rintro kk G M I ⟨i, o1, o2, hi, rfl, hl1, hl2, ho1, ho2, rfl, rfl, rfl⟩
 by_cases hii : i < 4
 ·obtain ⟨s, hss⟩ : ∃ s, gt ps (i : Int) = s := ⟨_, rfl⟩
  have hsn : s.near := hs s (by rw [← hss]; exact eP ⟨by omega, by omega⟩)
  have hR1 := fun M0 I0 => aCZ (X := X) (w0 := w0) (M0 := M0) (I0 := I0) hsn.x hsn.y
  have hR2 := fun M0 I0 => aCZ (X := X) (w0 := w0) (M0 := M0) (I0 := I0) hsn.u hsn.v
  have hH1 := fun M0 I0 => aKI (X := X) (w0 := w0) (M0 := M0) (I0 := I0) hsn.x hsn.y
  have hH2 := fun M0 I0 => aKI (X := X) (w0 := w0) (M0 := M0) (I0 := I0) hsn.u hsn.v
  repeat (refine aJ ?_)
  (refine aC rfl (fun _ => wK (cs := recs kP ps) (vs := kP s) (i := (i : Int)) rfl rfl ⟨by omega, by omega⟩ (by rw [← hss]; exact aDI ⟨by omega, by omega⟩)) rfl rfl ?_)
  (refine aF rfl rfl ?_; intro b7; refine ⟨okF, ?_⟩)
  repeat (refine aJ ?_)
  (refine aA rfl (hR1 _ _) rfl rfl ?_; rintro _ _ _ ⟨rfl, rfl, rfl⟩; refine ⟨okF, ?_⟩)
  repeat (refine aJ ?_)
  (refine aA rfl (hR2 _ _) rfl rfl ?_; rintro _ _ _ ⟨rfl, rfl, rfl⟩; refine ⟨okF, ?_⟩)
  repeat (refine aJ ?_)
  (repeat refine aH ?_); refine bS (.blk b7 (kP s) 65 :: M0) (I0) [0, 1, 2, 3, 5, 6, 4, 8, 7, 9, 10, 11] [2, 3, 2, 1, 3, 2, 0, 1, 0, 0, 0, 0] aG aD mixed (by kernel_rfl) ?_
  repeat (refine aJ ?_)
  (refine aA rfl (hH1 _ _) rfl rfl ?_; rintro _ _ _ ⟨rfl, p, rfl, hp1, rfl⟩; refine ⟨okF, ?_⟩)
  repeat (refine yXh ?_)
  (refine aA rfl (hH2 _ _) rfl rfl ?_; rintro _ _ _ ⟨rfl, q, rfl, hq1, rfl⟩; refine ⟨okF, ?_⟩)
  refine fD (vs := lW p) rfl rfl rfl (Ones.one p) kH (StAts.o0 (enc := wT) (sz := 6) (ms := o1) (i := (i : Int)) (some p) ⟨by omega, by omega⟩ rfl) rfl rfl ⟨okF, ?_⟩
  repeat (refine yXh ?_)
  refine fD (vs := lW q) rfl rfl rfl (Ones.one q) kH (StAts.o0 (enc := wT) (sz := 6) (ms := o2) (i := (i : Int)) (some q) ⟨by omega, by omega⟩ rfl) rfl rfl ⟨okF, ?_⟩
  repeat (refine aJ ?_)
  refine iI (φ := allT (st o1 (i : Int) (some p)) 63) (Hv.tSet aB aB) ?_
  refine iI (φ := allT (st o2 (i : Int) (some q)) 63) (Hv.tSet (os := o2) (g := q) aB aB) ?_
  refine aK (4 - (i + 1)) _ _ _ (by first | omega | (simp only [List.length_append, List.length_cons, List.length_nil]; omega)) aL aG aD (⟨i + 1, st o1 (i : Int) (some p), st o2 (i : Int) (some q), by omega, rfl, by rw [uX]; exact hl1, by rw [uX]; exact hl2, fun t ht => by
   rw [vG (by omega) (by omega)]
   by_cases e : t = i
   ·subst e
    rw [if_pos rfl, hss]
    exact ⟨p, rfl, hp1⟩
   ·rw [if_neg e]
    exact ho1 t (by omega), fun t ht => by
   rw [vG (by omega) (by omega)]
   by_cases e : t = i
   ·subst e
    rw [if_pos rfl, hss]
    exact ⟨q, rfl, hq1⟩
   ·rw [if_neg e]
    exact ho2 t (by omega), rfl, rfl, rfl⟩)
 obtain rfl : i = 4 := by omega
 obtain ⟨a0, ea0, ta0⟩ := ho1 0 (by omega)
 obtain ⟨a1, ea1, ta1⟩ := ho1 1 (by omega)
 obtain ⟨a2, ea2, ta2⟩ := ho1 2 (by omega)
 obtain ⟨a3, ea3, ta3⟩ := ho1 3 (by omega)
 obtain ⟨c0, ec0, tc0⟩ := ho2 0 (by omega)
 obtain ⟨c1, ec1, tc1⟩ := ho2 1 (by omega)
 obtain ⟨c2, ec2, tc2⟩ := ho2 2 (by omega)
 obtain ⟨c3, ec3, tc3⟩ := ho2 3 (by omega)
 have e1 : o1 = [some a0, some a1, some a2, some a3] := by rw [os4 hl1, show gt o1 0 = some a0 from ea0, show gt o1 1 = some a1 from ea1, show gt o1 2 = some a2 from ea2, show gt o1 3 = some a3 from ea3]
 have e2 : o2 = [some c0, some c1, some c2, some c3] := by rw [os4 hl2, show gt o2 0 = some c0 from ec0, show gt o2 1 = some c1 from ec1, show gt o2 2 = some c2 from ec2, show gt o2 3 = some c3 from ec3]
 clear ho1 ho2
 subst e1
 subst e2
 have hZ := fun (a b c d : TZ) (I : List aT) (h : allT [some a, some b, some c, some d] 63 ∈ I) => (⟨fun X wd hw2 => by
  have h1 : AllT _ _ X wd := hw2 _ h
  exact ⟨h1.go _ (by simp), h1.go _ (by simp), h1.go _ (by simp), h1.go _ (by simp)⟩⟩ : Hv I (pU ⟨a, b, c, d⟩ 63))
 refine dV (φ := pU ⟨a0, a1, a2, a3⟩ 63) (hZ a0 a1 a2 a3 _ aB) ?_
 refine dV (φ := pU ⟨c0, c1, c2, c3⟩ 63) (hZ c0 c1 c2 c3 _ aB) ?_
 have w1 : (QZ.mk a0 a1 a2 a3).t = l4 ps := by show (⟨a0.t, a1.t, a2.t, a3.t⟩ : P4 Int) = _; rw [ta0, ta1, ta2, ta3]; rfl
 have w2 : (QZ.mk c0 c1 c2 c3).t = m4 ps := by show (⟨c0.t, c1.t, c2.t, c3.t⟩ : P4 Int) = _; rw [tc0, tc1, tc2, tc3]; rfl
 have e3 : ∀ a b c d : TZ, recs wT [some a, some b, some c, some d] = eQZ ⟨a, b, c, d⟩ := fun _ _ _ _ => rfl
 rw [e3, e3]
 have hB1 := hB ⟨a0, a1, a2, a3⟩
 have hB2 := hB ⟨c0, c1, c2, c3⟩
 unfold BasR at hB1 hB2
 rw [w1] at hB1
 rw [w2] at hB2
 by_cases k1 : colP (l4 ps)
 ·simp only [if_pos k1] at hB1
  by_cases k2 : colP (m4 ps)
  ·simp only [if_pos k2] at hB2
   repeat (refine aJ ?_)
   (refine aA rfl (hB1 _ _ aB) rfl rfl ?_; rintro _ _ _ ⟨rfl, rfl, rfl⟩; refine ⟨okF, ?_⟩)
   repeat (refine aJ ?_)
   (refine aF rfl rfl ?_; intro b8; refine ⟨okF, ?_⟩)
   repeat (refine aJ ?_)
   (refine aA rfl (hB2 _ _ aB) rfl rfl ?_; rintro _ _ _ ⟨rfl, rfl, rfl⟩; refine ⟨okF, ?_⟩)
   repeat (refine aJ ?_)
   (refine aF rfl rfl ?_; intro b10; refine ⟨okF, ?_⟩)
   repeat (refine aJ ?_)
   (refine aC rfl (fun _ => rW (pvs := []) (cells := z18) rfl rfl) rfl rfl ?_)
   repeat (refine aJ ?_)
   refine dZ (rs := [.cell 2 128, .tmp 3]) (vs := [.agg z18.toArray, .int .i64 13]) (.inl rfl) rfl (.cellN (cs := z18) inferInstance rfl aB rfl (.tmp rfl .nil)) rfl M0 I0 aG aD ⟨rfl, by rw [if_pos (show colP (l4 ps) ∨ colP (m4 ps) from .inl k1)]; exact ⟨rfl, rfl⟩⟩
  ·simp only [if_neg k2] at hB2
   repeat (refine aJ ?_)
   (refine aA rfl (hB1 _ _ aB) rfl rfl ?_; rintro _ _ _ ⟨rfl, rfl, rfl⟩; refine ⟨okF, ?_⟩)
   repeat (refine aJ ?_)
   (refine aF rfl rfl ?_; intro b8; refine ⟨okF, ?_⟩)
   repeat (refine aJ ?_)
   (refine aA rfl (hB2 _ _ aB) rfl rfl ?_; rintro _ _ _ ⟨rfl, hb, rfl, hbm, rfl⟩; refine ⟨okF, ?_⟩)
   repeat (refine aJ ?_)
   (refine aF rfl rfl ?_; intro b10; refine ⟨okF, ?_⟩)
   repeat (refine aJ ?_)
   (refine aC rfl (fun _ => rW (pvs := []) (cells := z18) rfl rfl) rfl rfl ?_)
   repeat (refine aJ ?_)
   refine dZ (rs := [.cell 2 128, .tmp 3]) (vs := [.agg z18.toArray, .int .i64 13]) (.inl rfl) rfl (.cellN (cs := z18) inferInstance rfl aB rfl (.tmp rfl .nil)) rfl M0 I0 aG aD ⟨rfl, by rw [if_pos (show colP (l4 ps) ∨ colP (m4 ps) from .inl k1)]; exact ⟨rfl, rfl⟩⟩
 ·simp only [if_neg k1] at hB1
  by_cases k2 : colP (m4 ps)
  ·simp only [if_pos k2] at hB2
   repeat (refine aJ ?_)
   (refine aA rfl (hB1 _ _ aB) rfl rfl ?_; rintro _ _ _ ⟨rfl, ha, rfl, ham, rfl⟩; refine ⟨okF, ?_⟩)
   repeat (refine aJ ?_)
   (refine aF rfl rfl ?_; intro b8; refine ⟨okF, ?_⟩)
   repeat (refine aJ ?_)
   (refine aA rfl (hB2 _ _ aB) rfl rfl ?_; rintro _ _ _ ⟨rfl, rfl, rfl⟩; refine ⟨okF, ?_⟩)
   repeat (refine aJ ?_)
   (refine aF rfl rfl ?_; intro b10; refine ⟨okF, ?_⟩)
   repeat (refine aJ ?_)
   (refine aC rfl (fun _ => rW (pvs := []) (cells := z18) rfl rfl) rfl rfl ?_)
   repeat (refine aJ ?_)
   refine dZ (rs := [.cell 2 128, .tmp 3]) (vs := [.agg z18.toArray, .int .i64 13]) (.inl rfl) rfl (.cellN (cs := z18) inferInstance rfl aB rfl (.tmp rfl .nil)) rfl M0 I0 aG aD ⟨rfl, by rw [if_pos (show colP (l4 ps) ∨ colP (m4 ps) from .inr k2)]; exact ⟨rfl, rfl⟩⟩
  ·simp only [if_neg k2] at hB2
   repeat (refine aJ ?_)
   (refine aA rfl (hB1 _ _ aB) rfl rfl ?_; rintro _ _ _ ⟨rfl, ha, rfl, ham, rfl⟩; refine ⟨okF, ?_⟩)
   repeat (refine aJ ?_)
   (refine aF rfl rfl ?_; intro b8; refine ⟨okF, ?_⟩)
   repeat (refine aJ ?_)
   (refine aA rfl (hB2 _ _ aB) rfl rfl ?_; rintro _ _ _ ⟨rfl, hb, rfl, hbm, rfl⟩; refine ⟨okF, ?_⟩)
   repeat (refine aJ ?_)
   (refine aF rfl rfl ?_; intro b10; refine ⟨okF, ?_⟩)
   repeat (refine aJ ?_)
   have hC := fun M0 I0 h1 => aUK (X := X) (w0 := w0) (M0 := M0) (I0 := I0) (h := ha) (u := 256) (by omega) h1
   have hT := fun (c : HZ) M0 I0 h1 => aET (X := X) (w0 := w0) (M0 := M0) (I0 := I0) (h := c) (u := 513) h1
   have hP := fun (c : HZ) M0 I0 h1 h2 => aRR (X := X) (w0 := w0) (M0 := M0) (I0 := I0) (g := hb) (h := c) (ku := 256) (m := 513) (by omega) (by omega) h1 h2
   have hRd := fun (p : HZ) (hnz : ∃ x ∈ gP p.m, x ≠ 0) M0 I0 h1 => aUD (X := X) (w0 := w0) (M0 := M0) (I0 := I0) (h := p) (u := 772) (by omega) hnz h1
   (repeat refine aH ?_); refine bS (.blk b10 (lV hb) 128 :: .blk b8 (lV ha) 128 :: M0) (I0) [0, 1, 2, 3, 4, 5, 6, 7] [3, 3, 0, 0, 0, 0, 0, 0] aG aD mixed (by kernel_rfl) ?_
   repeat (refine aJ ?_)
   (refine aA rfl (hC _ _ aB) rfl rfl ?_; rintro _ _ _ ⟨rfl, c, rfl, hc, rfl⟩; refine ⟨okF, ?_⟩)
   (refine aA rfl (hT c _ _ aB) rfl rfl ?_; rintro _ _ _ ⟨rfl, rfl, rfl⟩; refine ⟨okF, ?_⟩)
   (refine aA rfl (hP c.tr _ _ aB aB) rfl rfl ?_; rintro _ _ _ ⟨rfl, p, rfl, hpm, rfl⟩; refine ⟨okF, ?_⟩)
   have hpG : p.m = pG ps := by rw [hpm, HZ.tr_m, hc, ham, hbm]; rfl
   (refine aA rfl (hRd p (by rw [hpG]; exact zS k1 k2) _ _ aB) rfl rfl ?_; rintro _ _ _ ⟨rfl, r, g, rfl, hg0, hrm, rfl⟩; refine ⟨okF, ?_⟩)
   rw [hpG] at hrm
   repeat (refine aJ ?_)
   refine dZ (rs := [.cell 2 128, .tmp 3]) (vs := [gZ r, .int .i64 0]) (.inl rfl) rfl (.cellN (cs := lV r) inferInstance rfl aB rfl (.tmp rfl .nil)) rfl M0 (dY r 772 :: I0) aG aD ⟨rfl, by rw [if_neg (show ¬ (colP (l4 ps) ∨ colP (m4 ps)) from fun h => h.elim k1 k2)]; exact ⟨r, g, rfl, hg0, hrm, rfl⟩⟩
theorem aRN {x : ZE} : CD Tryz.prog 88 [nv x] X w0 M0 I0 (fun v M I => M0 = M ∧ I0 = I ∧ v = .bool (B (x.z ≠ 0))) := by
 refine bN Tryz.func88 rfl Tryz.ntmps88 rfl ?_
 refine aH ?_
 refine aI ?_
 (refine aV rfl rfl rfl ?_; intro b1; refine ⟨okF, ?_⟩)
 repeat (refine aJ ?_)
 refine kD (M' := M0) (I' := I0) aG aD ?_
 refine aM (by first | exact .inl rfl | exact .inr rfl) rfl rfl _ _ aG aD (⟨rfl, rfl, congrArg Value.bool (lF (by
  have h0 : gr x.z.natAbs = [] ↔ x.z.natAbs = 0 := uF
  rw [← List.length_eq_zero_iff] at h0
  omega))⟩)
theorem aUI {b : Nat} {es : List ZE} {T : TypeId} (hl : es.length = 9) (hm : Ent.blk b (recs eN es) T ∈ M0) (hnz : ∃ j : Nat, j < 9 ∧ (gt es (j : Int)).z ≠ 0) :
  CD Tryz.prog 87 [.slice (some ⟨b, 0, none⟩) 9 9, .func (.func 88) #[] #[]] X w0 M0 I0 (fun v M I => M0 = M ∧ I0 = I ∧ ∃ f : Nat, v = .int .i64 (f : Int) ∧ f < 9 ∧ (gt es (f : Int)).z ≠ 0 ∧ ∀ j : Nat, j < f → (gt es (j : Int)).z = 0) := by
 have hC := fun (x : ZE) M0 I0 => aRN (X := X) (w0 := w0) (M0 := M0) (I0 := I0) (x := x)
 refine bL Tryz.func87 rfl Tryz.ntmps87 rfl ?_
 repeat (refine aJ ?_)
 refine aZ [0, 1, 7] rfl (fun k G M I => ∃ (i : Nat), i ≤ 9 ∧ k = 9 - i ∧ (∀ j : Nat, j < i → (gt es (j : Int)).z = 0) ∧ G = [(8, .int .i64 i)] ∧ M = M0 ∧ I = I0) (9) _ _ _ aL aG aD (⟨0, by omega, rfl, fun j hj => absurd hj (by omega), rfl, rfl, rfl⟩) ?_
 rintro kk G M I ⟨i, hi, rfl, hz, rfl, rfl, rfl⟩
 by_cases hii : i < 9
 ·obtain ⟨x, hx⟩ : ∃ x, gt es (i : Int) = x := ⟨_, rfl⟩
  repeat (refine aJ ?_)
  rw [hx]
  (refine eO rfl rfl (hC x _ _) rfl rfl rfl ?_; rintro _ _ _ ⟨rfl, rfl, rfl⟩; refine ⟨okF, ?_⟩)
  by_cases hx0 : x.z = 0
  ·rw [dP (show ¬ x.z ≠ 0 from fun h => h hx0)]
   repeat (refine aJ ?_)
   refine aK (9 - (i + 1)) _ _ _ (by first | omega | (simp only [List.length_append, List.length_cons, List.length_nil]; omega)) aL aG aD (⟨i + 1, by omega, rfl, fun j hj => by
    by_cases e : j = i
    ·subst e; rw [hx]; exact hx0
    ·exact hz j (by omega), rfl, rfl, rfl⟩)
  ·rw [bV (show x.z ≠ 0 from hx0)]
   repeat (refine aJ ?_)
   refine aM (by first | exact .inl rfl | exact .inr rfl) rfl rfl _ _ aG aD (⟨rfl, rfl, i, rfl, hii, by rw [hx]; exact hx0, hz⟩)
 ·obtain ⟨j, hj, hj0⟩ := hnz
  exact absurd (hz j (by omega)) hj0
theorem aHM {x : ZE} {u : Nat} (hu : u ≤ 100000) (hx : jM x u ∈ I0) : CD Tryz.prog 143 [nv x] X w0 M0 I0 (fun v M I => M0 = M ∧ I0 = I ∧ v = nv x) := by
 have hV := fun M0 I0 h1 => pX (X := X) (w0 := w0) (M0 := M0) (I0 := I0) (u := nv x) (z := x.z) (k := u) (by omega) h1
 refine CD.mono (K := fun v M I => M0 = M ∧ I0 = I ∧ v = nv x) ?_ (fun _ _ _ h => h)
 refine bN Tryz.func143 rfl Tryz.ntmps143 rfl ?_
 refine aH ?_
 refine aI ?_
 (refine aV rfl rfl rfl ?_; intro b1; refine ⟨okF, ?_⟩)
 (refine aF rfl rfl ?_; intro b2; refine ⟨okF, ?_⟩)
 repeat (refine aJ ?_)
 (refine aA rfl (hV _ _ aB) rfl rfl ?_; rintro _ _ _ ⟨rfl, rfl, rfl⟩; refine ⟨okF, ?_⟩)
 repeat (refine aJ ?_)
 refine bJ (cs := eN x) (.inl rfl) rfl rfl aB rfl M0 I0 aG aD ⟨rfl, rfl, rfl⟩
theorem aUB {x y : ZE} {u : Nat} (hu : u ≤ 100000) (hy0 : y.z ≠ 0) (hx : jM x u ∈ I0) (hy : jM y u ∈ I0) : CD Tryz.prog 89 [nv x, nv y] X w0 M0 I0 (RQc (Rat.divInt x.z y.z) u M0 I0) := by
 have hC := fun (x : ZE) M0 I0 h => aHM (X := X) (w0 := w0) (M0 := M0) (I0 := I0) (x := x) (u := u) hu h
 have hS := fun M0 I0 h => oO (X := X) (w0 := w0) (M0 := M0) (I0 := I0) (u := nv y) (z := y.z) (k := u) (by omega) h
 have hR := fun M0 I0 h1 h2 => tJ (X := X) (w0 := w0) (M0 := M0) (I0 := I0) (u := nv x) (v := nv y) (n := x.z) (d := y.z) (k := u) (by omega) hy0 h1 h2
 have hs0 : ¬ y.z.sign = 0 := fun h => hy0 (Int.sign_eq_zero_iff_zero.1 h)
 refine bL Tryz.func89 rfl Tryz.ntmps89 rfl ?_
 refine aH ?_
 refine aI ?_
 (refine aV rfl rfl rfl ?_; intro b2; refine ⟨okF, ?_⟩)
 (refine aV rfl rfl rfl ?_; intro b3; refine ⟨okF, ?_⟩)
 (refine aF rfl rfl ?_; intro b4; refine ⟨okF, ?_⟩)
 repeat (refine aJ ?_)
 (repeat refine aH ?_); refine cZ 2 [0, 2, 1, 3, 4, 5] [1, 2, 0, 0, 0, 0] mixed (by kernel_rfl) ?_
 repeat (refine aJ ?_)
 (refine aA rfl (hC x _ _ aB) rfl rfl ?_; rintro _ _ _ ⟨rfl, rfl, rfl⟩; refine ⟨okF, ?_⟩)
 repeat (refine aJ ?_)
 (refine aA rfl (hC y _ _ aB) rfl rfl ?_; rintro _ _ _ ⟨rfl, rfl, rfl⟩; refine ⟨okF, ?_⟩)
 repeat (refine aJ ?_)
 (refine aA rfl (hS _ _ aB) rfl rfl ?_; rintro _ _ _ ⟨rfl, rfl, rfl⟩; refine ⟨okF, ?_⟩)
 repeat (refine aJ ?_)
 (refine aA rfl (hR _ _ aB aB) rfl rfl ?_; rintro _ _ _ ⟨rfl, e, rfl, he, rfl⟩; refine ⟨okF, ?_⟩)
 repeat (refine aJ ?_)
 refine dZ (rs := [.cell 4 50, .tmp 5]) (vs := [rv e, .int .i64 0]) (.inl rfl) rfl (.cellN (cs := eR e) inferInstance rfl aB rfl (.tmp rfl .nil)) rfl M0 (gQ e u :: I0) aG aD ⟨rfl, e, rfl, he, rfl⟩
end
end Go.Proofs.YtjbhdfpjnjedhaaGreat
namespace Go.Fx
theorem wXn {p g : Prop} (h : g) (w : BoxP g → p := by (intro hh; (first | refine aH ?_ | refine aI ?_ | refine jA ?_ | refine gV ?_ | refine fC ?_ | refine eQ ?_ | refine gT ?_ | refine gK ?_ | refine eY ?_ | refine fA ?_ | refine jF ?_ | refine jB ?_ | refine iZ ?_ | refine jC rfl ?_ | refine aN ?_ | (refine gI ?_; first | refine fM rfl rfl rfl ?_ | (refine fZ rfl rfl ?_; refine eF rfl rfl rfl okD ?_) | refine fK rfl rfl (by omega) ?_ | refine fU rfl rfl (by omega) ?_) | (refine bI ?_; refine aC rfl (fun _ => bY rfl) rfl rfl ?_) | refine aC rfl (fun _ => aY rfl) rfl rfl ?_ | (refine gB ?_; first | refine aC rfl (fun _ => bC rfl rfl w_) rfl rfl ?_ | refine aC rfl (fun _ => bE rfl rfl w_) rfl rfl ?_ | refine aC rfl (fun _ => dH rfl rfl w_) rfl rfl ?_ | refine aC rfl (fun _ => dI rfl rfl (by omega) q_) rfl rfl ?_ | refine aC rfl (fun _ => dJ rfl rfl (by omega) rfl) rfl rfl ?_ | refine aC rfl (fun _ => bW rfl rfl) rfl rfl ?_) | (refine bI ?_; first | refine aC rfl (fun _ => dE rfl w_) rfl rfl ?_) | (refine fV ?_; first | refine aC rfl (fun _ => bT rfl w_) rfl rfl ?_) | (refine fQ ?_; first | refine aC rfl (fun _ => bD rfl) rfl rfl ?_ | refine aC rfl (fun _ => bZ rfl rfl) rfl rfl ?_ | refine aC rfl (fun _ => bX rfl rfl) rfl rfl ?_ | refine aC rfl (fun _ => cB rfl rfl rfl) rfl rfl ?_) | (refine gF ?_; first | refine fJ rfl (by decide) rfl rfl ?_ | refine iO rfl (by decide) rfl rfl ?_) | (refine fO ?_; first | refine aC rfl (fun _ => bP rfl) rfl rfl ?_) | (refine gG ?_; first | refine iM rfl rfl iA rfl rfl ?_ | refine iP vwX rfl rfl iA aP iU rfl rfl ?_ | refine iL vwX rfl rfl iA aP iU rfl rfl ?_ | refine aC rfl (fun _ => bG rfl rfl iA) rfl rfl ?_) | (refine fT ?_; first | refine iR vwX rfl aP oP rfl rfl ?_ | refine iK vwX rfl aP oP rfl rfl ?_ | refine fH vwX rfl aP oP rfl rfl ?_ | refine gH vwX rfl aP oP rfl rfl ?_ | refine kW vwX rfl aP iT fB rfl rfl ?_ | refine lG vwX rfl aP iT fB rfl rfl ?_ | refine lI vwX rfl aP iT fB rfl rfl ?_ | refine jT vwX rfl aP iT fB rfl rfl ?_) | (refine fP ?_; first | refine aC rfl (fun _ => bH rfl rfl) rfl rfl ?_ | refine aC rfl (fun _ => bA rfl) rfl rfl ?_) | (refine iC ?_; first | refine jR rfl rfl rfl nJ stC rfl rfl ⟨okD, ?_⟩ | refine fD rfl rfl fB qV nJ qQ rfl rfl ⟨okD, ?_⟩) | (refine gU ?_; first | refine bM rfl ?_ | refine bB rfl ?_ | refine jE rfl (by omega) ?_ | refine lH rfl (by omega) ?_)); (repeat (first | refine aH ?_ | refine aI ?_ | refine jA ?_ | refine gV ?_ | refine fC ?_ | refine eQ ?_ | refine gT ?_ | refine gK ?_ | refine eY ?_ | refine fA ?_ | refine jF ?_ | refine jB ?_ | refine iZ ?_ | refine jC rfl ?_ | refine aN ?_ | (refine gI ?_; first | refine fM rfl rfl rfl ?_ | (refine fZ rfl rfl ?_; refine eF rfl rfl rfl okD ?_) | refine fK rfl rfl (by omega) ?_ | refine fU rfl rfl (by omega) ?_) | (refine bI ?_; refine aC rfl (fun _ => bY rfl) rfl rfl ?_) | refine aC rfl (fun _ => aY rfl) rfl rfl ?_ | (refine gB ?_; first | refine aC rfl (fun _ => bC rfl rfl w_) rfl rfl ?_ | refine aC rfl (fun _ => bE rfl rfl w_) rfl rfl ?_ | refine aC rfl (fun _ => dH rfl rfl w_) rfl rfl ?_ | refine aC rfl (fun _ => dI rfl rfl (by omega) q_) rfl rfl ?_ | refine aC rfl (fun _ => dJ rfl rfl (by omega) rfl) rfl rfl ?_ | refine aC rfl (fun _ => bW rfl rfl) rfl rfl ?_) | (refine bI ?_; first | refine aC rfl (fun _ => dE rfl w_) rfl rfl ?_) | (refine fV ?_; first | refine aC rfl (fun _ => bT rfl w_) rfl rfl ?_) | (refine fQ ?_; first | refine aC rfl (fun _ => bD rfl) rfl rfl ?_ | refine aC rfl (fun _ => bZ rfl rfl) rfl rfl ?_ | refine aC rfl (fun _ => bX rfl rfl) rfl rfl ?_ | refine aC rfl (fun _ => cB rfl rfl rfl) rfl rfl ?_) | (refine gF ?_; first | refine fJ rfl (by decide) rfl rfl ?_ | refine iO rfl (by decide) rfl rfl ?_) | (refine fO ?_; first | refine aC rfl (fun _ => bP rfl) rfl rfl ?_) | (refine gG ?_; first | refine iM rfl rfl iA rfl rfl ?_ | refine iP vwX rfl rfl iA aP iU rfl rfl ?_ | refine iL vwX rfl rfl iA aP iU rfl rfl ?_ | refine aC rfl (fun _ => bG rfl rfl iA) rfl rfl ?_) | (refine fT ?_; first | refine iR vwX rfl aP oP rfl rfl ?_ | refine iK vwX rfl aP oP rfl rfl ?_ | refine fH vwX rfl aP oP rfl rfl ?_ | refine gH vwX rfl aP oP rfl rfl ?_ | refine kW vwX rfl aP iT fB rfl rfl ?_ | refine lG vwX rfl aP iT fB rfl rfl ?_ | refine lI vwX rfl aP iT fB rfl rfl ?_ | refine jT vwX rfl aP iT fB rfl rfl ?_) | (refine fP ?_; first | refine aC rfl (fun _ => bH rfl rfl) rfl rfl ?_ | refine aC rfl (fun _ => bA rfl) rfl rfl ?_) | (refine iC ?_; first | refine jR rfl rfl rfl nJ stC rfl rfl ⟨okD, ?_⟩ | refine fD rfl rfl fB qV nJ qQ rfl rfl ⟨okD, ?_⟩) | (refine gU ?_; first | refine bM rfl ?_ | refine bB rfl ?_ | refine jE rfl (by omega) ?_ | refine lH rfl (by omega) ?_))); exact hh.out)) : p := w ⟨h⟩
end Go.Fx
namespace Go.Proofs.YtjbhdfpjnjedhaaGreat
open Go Go.Fx
theorem aCQ {α : Type} [Inhabited α] {a b : List α} (hl : a.length = b.length) (h : ∀ j : Nat, j < a.length → gt a j = gt b j) : a = b := by
 apply List.ext_getElem hl
 intro j h1 h2
 have := h j h1
 rwa [jD h1, jD h2] at this
section
variable {X : List Nat} {w0 : World} {M0 : List Ent} {I0 : List aT}
theorem uD {p q : Option Addr} {a b : List Int} {c c' : Nat} (hn : (a.length : Int) ≤ 9223372036854775807) (ha : aR p (recs (eI .i64) a) ∈ I0) (hb : aR q (recs (eI .i64) b) ∈ I0) :
  CD Tryz.prog 17 [.slice p a.length c, .slice q b.length c'] X w0 M0 I0 (fun v M I => M0 = M ∧ I0 = I ∧ v = .bool (B (a = b))) := by
 refine dW Tryz.func17 rfl Tryz.ntmps17 rfl ?_
 repeat' (first | refine wXn ?_ | refine bR rfl (fun h => ?_) (fun h => ?_) | refine bQ rfl rfl (fun h => ?_) (fun h => ?_) | fail)
 ·refine aM (by first | exact .inl rfl | exact .inr rfl) rfl rfl _ _ cO cK (⟨rfl, rfl, congrArg Value.bool (dP (fun h => by subst h; omega)).symm⟩)
 refine aZ [0, 1, 12] rfl (fun k G M I => ∃ i : Nat, i ≤ a.length ∧ k = a.length - i ∧ (∀ j : Nat, j < i → gt a j = gt b j) ∧ G = [(13, .int .i64 i)] ∧ M = M0 ∧ I = I0) (a.length) _ _ _ aL cO cK (⟨0, by omega, rfl, fun j hj => by omega, rfl, rfl, rfl⟩) ?_
 rintro k G M I ⟨i, hi, rfl, hs, rfl, rfl, rfl⟩
 repeat' (first | refine wXn ?_ | refine bR rfl (fun h => ?_) (fun h => ?_) | refine bQ rfl rfl (fun h => ?_) (fun h => ?_) | fail)
 ·(repeat refine aH ?_); refine gY [0, 1, 2, 3, 4, 5, 6, 7, 8] [0, 0, 0, 0, 0, 0, 0, 0, 0] mixed (by kernel_rfl) ?_
  repeat' (first | refine wXn ?_ | refine bR rfl (fun h => ?_) (fun h => ?_) | refine bQ rfl rfl (fun h => ?_) (fun h => ?_) | fail)
  ·refine aM (by first | exact .inl rfl | exact .inr rfl) rfl rfl _ _ cO cK (⟨rfl, rfl, congrArg Value.bool (dP (fun h => by subst h; contradiction)).symm⟩)
  ·refine aK (a.length - (i + 1)) _ _ _ (by first | omega | (simp only [List.length_append, List.length_cons, List.length_nil]; omega)) aL cO cK (⟨i + 1, by omega, rfl, fun j hj => ?_, rfl, rfl, rfl⟩)
   by_cases e : j = i
   ·subst e; omega
   ·exact hs j (by omega)
 ·refine aM (by first | exact .inl rfl | exact .inr rfl) rfl rfl _ _ cO cK (⟨rfl, rfl, congrArg Value.bool (bV (aCQ (by omega) (fun j hj => hs j (by omega)))).symm⟩)
end
end Go.Proofs.YtjbhdfpjnjedhaaGreat

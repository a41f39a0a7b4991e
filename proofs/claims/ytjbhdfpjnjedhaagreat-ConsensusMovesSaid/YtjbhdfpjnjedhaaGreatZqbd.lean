/- The homographies of samples, plain: the law's way (a vector of the kernel, divided by its first number that is not 0) gives the same map; moving the pairs. The common divisor; matrices reduced (package homography). -/
import Derived.Test.YtjbhdfpjnjedhaaGreatZqae
import Derived.Test.YtjbhdfpjnjedhaaGreatZqbc
import Derived.Test.YtjbhdfpjnjedhaaGreatZqba
import Derived.Test.YtjbhdfpjnjedhaaGreatZqan
import Derived.Test.YtjbhdfpjnjedhaaGreatZqau
set_option linter.unusedSimpArgs false
set_option linter.unusedVariables false
set_option maxRecDepth 100000
set_option maxHeartbeats 4000000
namespace Go.Proofs.YtjbhdfpjnjedhaaGreat
open Go Go.Fx
def hr1 (s : Q4) : List Int := [s.x, s.y, 1, 0, 0, 0, -s.u * s.x, -s.u * s.y, -s.u]
def hr2 (s : Q4) : List Int := [0, 0, 0, s.x, s.y, 1, -s.v * s.x, -s.v * s.y, -s.v]
def hA (l : List Q4) : Mt := l.flatMap (fun s => [cz (hr1 s), cz (hr2 s)])
def rQ (s : Q4) : T3 Int := ⟨s.x, s.y, 1⟩
def tQ (s : Q4) : T3 Int := ⟨s.u, s.v, 1⟩
def ofH (z : Nat → Rat) : M9 Rat := ⟨⟨z 0, z 1, z 2⟩, ⟨z 3, z 4, z 5⟩, ⟨z 6, z 7, z 8⟩⟩
def wO : List Rat → Rat
 | [] => 0
 | x :: r => if x = 0 then wO r else x
def aEK (l : List Rat) : List Rat := l.map (fun x => x / wO l)
theorem aEB {s : Rat} (hs : s ≠ 0) : ∀ l : List Rat, wO (l.map (fun x => s * x)) = s * wO l
 | [] => by show (0 : Rat) = s * 0; grind
 | x :: r => by
  have ih := aEB hs r
  show (if s * x = 0 then wO (r.map (fun x => s * x)) else s * x) = s * (if x = 0 then wO r else x)
  by_cases h : x = 0
  ·rw [if_pos h, if_pos (by rw [h]; grind), ih]
  ·rw [if_neg h, if_neg (fun e => (Rat.mul_eq_zero.1 e).elim hs h)]
theorem vO {s x f : Rat} (hs : s ≠ 0) : s * x / (s * f) = x / f := by
 by_cases hf : f = 0
 ·subst hf
  have e1 : s * (0 : Rat) = 0 := by grind
  rw [e1, Rat.div_def, Rat.div_def]
  have e2 : (0 : Rat)⁻¹ = 0 := by decide +kernel
  rw [e2]; grind
 ·grind
theorem aDV {s : Rat} (hs : s ≠ 0) (l : List Rat) : aEK (l.map (fun x => s * x)) = aEK l := by
 unfold aEK
 rw [aEB hs, List.map_map]
 exact List.map_congr_left (fun x _ => vO hs)
theorem aVD {l : List Rat} : wO l = 0 ↔ ∀ x ∈ l, x = 0 := by
 induction l with
 | nil => simp [wO]
 | cons x r ih =>
  show (if x = 0 then wO r else x) = 0 ↔ _
  by_cases h : x = 0
  ·rw [if_pos h, ih]; simp [h]
  ·rw [if_neg h]; simp [h]
def gP {α : Type} (m : M9 α) : List α := [m.x.a, m.x.b, m.x.c, m.y.a, m.y.b, m.y.c, m.z.a, m.z.b, m.z.c]
def aMZ (l : List Rat) : Mt := [[l.getD 0 0, l.getD 1 0, l.getD 2 0], [l.getD 3 0, l.getD 4 0, l.getD 5 0], [l.getD 6 0, l.getD 7 0, l.getD 8 0]]
def l4 (ps : List Q4) : P4 Int := ⟨rQ (gt ps 0), rQ (gt ps 1), rQ (gt ps 2), rQ (gt ps 3)⟩
def m4 (ps : List Q4) : P4 Int := ⟨tQ (gt ps 0), tQ (gt ps 1), tQ (gt ps 2), tQ (gt ps 3)⟩
def colP (l : P4 Int) : Prop := l.k0 = 0 ∨ l.k1 = 0 ∨ l.k2 = 0 ∨ l.k3 = 0
instance colP.dec (l : P4 Int) : Decidable (colP l) := inferInstanceAs (Decidable (l.k0 = 0 ∨ l.k1 = 0 ∨ l.k2 = 0 ∨ l.k3 = 0))
def pG (ps : List Q4) : M9 Int := rA (l4 ps) (m4 ps)
def oW (ps : List Q4) : Option Mt := if colP (l4 ps) ∨ colP (m4 ps) then none else some (aMZ (aEK (gP (mM (pG ps)))))
theorem int_ne {z : Int} (h : z ≠ 0) : (z : Rat) ≠ 0 := fun e => h (by
 have : ((z : Int) : Rat) = ((0 : Int) : Rat) := e
 exact Rat.intCast_inj.1 this)
theorem zV {l : P4 Int} (h : ¬ colP l) : (iH l).ok := by
 unfold colP at h
 have hk := aXY l
 refine ⟨?_, ?_, ?_, ?_⟩
 ·rw [← hk.1]; exact int_ne (fun e => h (.inl e))
 ·rw [← hk.2.1]; exact int_ne (fun e => h (.inr (.inl e)))
 ·rw [← hk.2.2.1]; exact int_ne (fun e => h (.inr (.inr (.inl e))))
 ·rw [← hk.2.2.2]; exact int_ne (fun e => h (.inr (.inr (.inr e))))
theorem vR {a b : Rat} (ha : a ≠ 0) (hb : b ≠ 0) : a * b ≠ 0 := fun e => (Rat.mul_eq_zero.1 e).elim ha hb
theorem aSV {ps : List Q4} (hl : ¬ colP (l4 ps)) (hm : ¬ colP (m4 ps)) {H : M9 Rat} {c0 c1 c2 c3 : Rat} (h0 : H.app (iH (l4 ps)).p = (iH (m4 ps)).p.smul c0) (h1 : H.app (iH (l4 ps)).q = (iH (m4 ps)).q.smul c1)
  (h2 : H.app (iH (l4 ps)).r = (iH (m4 ps)).r.smul c2) (h3 : H.app (iH (l4 ps)).s = (iH (m4 ps)).s.smul c3) (hH : ∃ x ∈ gP H, x ≠ 0) : ∃ s : Rat, s ≠ 0 ∧ gP H = (gP (mM (pG ps))).map (fun x => s * x) := by
 have ol := zV hl
 have om := zV hm
 obtain ⟨e1, e2, e3⟩ := aNW ol om h0 h1 h2 h3
 unfold pG
 rw [xS]
 have hκ := vR (vR (vR om.h3 ol.h0) ol.h1) ol.h2
 generalize (iH (m4 ps)).k3 * (iH (l4 ps)).k0 * (iH (l4 ps)).k1 * (iH (l4 ps)).k2 = κ at *
 generalize rA (iH (l4 ps)) (iH (m4 ps)) = G at *
 simp only [T3.smul, T3.mk.injEq] at e1 e2 e3
 obtain ⟨a1, a2, a3⟩ := e1
 obtain ⟨b1, b2, b3⟩ := e2
 obtain ⟨d1, d2, d3⟩ := e3
 have key : ∀ x g : Rat, κ * x = c3 * g → x = c3 / κ * g := by intro x g h; grind
 have hc : c3 ≠ 0 := by
  intro e
  obtain ⟨x, hx, hx0⟩ := hH
  apply hx0
  have z : ∀ y g : Rat, κ * y = c3 * g → y = 0 := by
   intro y g h
   have : κ * y = 0 := by rw [h, e]; grind
   exact (Rat.mul_eq_zero.1 this).resolve_left hκ
  simp only [gP, List.mem_cons, List.not_mem_nil, or_false] at hx
  rcases hx with rfl | rfl | rfl | rfl | rfl | rfl | rfl | rfl | rfl
  ·exact z _ _ a1
  ·exact z _ _ a2
  ·exact z _ _ a3
  ·exact z _ _ b1
  ·exact z _ _ b2
  ·exact z _ _ b3
  ·exact z _ _ d1
  ·exact z _ _ d2
  ·exact z _ _ d3
 refine ⟨c3 / κ, by grind, ?_⟩
 simp only [gP, List.map]
 rw [key _ _ a1, key _ _ a2, key _ _ a3, key _ _ b1, key _ _ b2, key _ _ b3, key _ _ d1, key _ _ d2, key _ _ d3]
theorem uK {m m' : Mt} {c : Rat} (hc : c ≠ 0) (h : ∀ i j, i < 3 → j < 3 → at2 m' i j = c * at2 m i j) (s : Q4) : (oU m' 2 s = 0 ↔ oU m 2 s = 0) ∧ tO m' s = tO m s := by
 have hr : ∀ i, i < 3 → oU m' i s = c * oU m i s := fun i hi => by
  unfold oU
  rw [h i 0 hi (by omega), h i 1 hi (by omega), h i 2 hi (by omega)]
  grind
 constructor
 ·rw [hr 2 (by omega)]
  constructor
  ·exact fun e => (Rat.mul_eq_zero.1 e).resolve_left hc
  ·intro e; rw [e]; grind
 ·unfold tO aJP aJC
  rw [hr 0 (by omega), hr 1 (by omega), hr 2 (by omega), vO hc, vO hc]
end Go.Proofs.YtjbhdfpjnjedhaaGreat
namespace Go.Proofs.YtjbhdfpjnjedhaaGreat
open Go Go.Fx
theorem tZ {es : List ZE} {i : Int} (hi : 0 ≤ i ∧ i < es.length) : gt (es.map some) i = some (gt es i) := by
 obtain ⟨n, rfl⟩ : ∃ n : Nat, i = (n : Int) := ⟨i.toNat, by omega⟩
 rw [gN (by simp; omega), gN (by omega)]
 simp
theorem aQT {es : List ZE} {i : Int} {g : ZE} : (st es i g).map some = st (es.map some) i (some g) := by simp [st]
theorem es9 {es : List ZE} (h : es.length = 9) : es = [gt es 0, gt es 1, gt es 2, gt es 3, gt es 4, gt es 5, gt es 6, gt es 7, gt es 8] := by
 match es, h with
 | [_, _, _, _, _, _, _, _, _], _ => rfl
abbrev HZ.l (h : HZ) : List ZE := [h.x.x, h.x.y, h.x.z, h.y.x, h.y.y, h.y.z, h.z.x, h.z.y, h.z.z]
theorem Hv.hAll {I : List aT} {h : HZ} {u : Nat} (hh : dY h u ∈ I) : Hv I (nS (h.l.map some) u) := ⟨fun X w hw => ⟨fun e he => by
 have h1 : IsHZ h u X w := hw _ hh
 simp only [List.map_cons, List.map_nil, List.mem_cons, Option.some.injEq, List.not_mem_nil, or_false] at he
 rcases he with rfl | rfl | rfl | rfl | rfl | rfl | rfl | rfl | rfl
 ·exact h1.x.x
 ·exact h1.x.y
 ·exact h1.x.z
 ·exact h1.y.x
 ·exact h1.y.y
 ·exact h1.y.z
 ·exact h1.z.x
 ·exact h1.z.y
 ·exact h1.z.z⟩⟩
theorem Hv.ofAll {I : List aT} {a0 a1 a2 a3 a4 a5 a6 a7 a8 : ZE} {u : Nat} (h : nS ([a0, a1, a2, a3, a4, a5, a6, a7, a8].map some) u ∈ I) : Hv I (dY ⟨⟨a0, a1, a2⟩, ⟨a3, a4, a5⟩, ⟨a6, a7, a8⟩⟩ u) := ⟨fun X w hw => by
 have h1 : AllO _ u X w := hw _ h
 exact ⟨⟨h1.go _ (by simp), h1.go _ (by simp), h1.go _ (by simp)⟩, ⟨h1.go _ (by simp), h1.go _ (by simp), h1.go _ (by simp)⟩, ⟨h1.go _ (by simp), h1.go _ (by simp), h1.go _ (by simp)⟩⟩⟩
section
variable {X : List Nat} {w0 : World} {M0 : List Ent} {I0 : List aT}
theorem NNeg {a : ZE} {k : Nat} (hk : k ≤ 1000000) (ha : jM a k ∈ I0) : CD Tryz.prog 194 [nv a] X w0 M0 I0 (NQ (-a.z) k M0 I0) := CD.nq (aFP (by omega) ha)
theorem NGcd {a b : ZE} {k m : Nat} (hk : k ≤ 1000000) (hm : m ≤ 1000000) (ha : jM a k ∈ I0) (hb : jM b m ∈ I0) : CD Tryz.prog 195 [nv a, nv b] X w0 M0 I0 (NQ (Int.gcd a.z b.z) (k + m) M0 I0) := CD.nq (aFO (by omega) (by omega) ha hb)
theorem NDiv {a b : ZE} {k m : Nat} (hk : k ≤ 1000000) (hm : m ≤ 1000000) (h0 : b.z ≠ 0) (ha : jM a k ∈ I0) (hb : jM b m ∈ I0) : CD Tryz.prog 187 [nv a, nv b] X w0 M0 I0 (fun v M I => M0 = M ∧ ∃ q r : ZE, v = .tuple #[nv q, nv r, .int .i64 0] ∧ q.z = a.z.fdiv b.z ∧ I = jM q k :: I0) :=
 (xQ (by omega) (by omega) h0 ha hb).post (fun v M I w h hw => by
  obtain ⟨rfl, v1, v2, rfl, rfl⟩ := h
  have h1 : IsI v1 (a.z.fdiv b.z) k (muts M0) w := (hw.imm _ (List.Mem.tail _ (List.Mem.head _))).2
  have h2 : IsI v2 (a.z.fmod b.z) m (muts M0) w := (hw.imm _ (List.Mem.head _)).2
  obtain ⟨q, c, rfl, _⟩ := h1.ex
  obtain ⟨q2, c2, rfl, _⟩ := h2.ex
  exact ⟨M0, _, ⟨rfl, ⟨_, q, c⟩, ⟨_, q2, c2⟩, rfl, rfl, rfl⟩, hw.inc (Inc.wk Inc.refl)⟩)
theorem aUY {b : Nat} {es : List ZE} {u : Nat} {T : TypeId} (hu : u ≤ 10000) (hl : es.length = 9) (hm : Ent.blk b (recs eN es) T ∈ M0) (ha : nS (es.map some) u ∈ I0) :
  CD Tryz.prog 186 [.slice (some ⟨b, 0, none⟩) 9 9] X w0 M0 I0 (fun v M I => M0 = M ∧ ∃ (g : ZE) (ok : Bool), v = .tuple #[nv g, .bool ok] ∧ (∀ j : Nat, j < 9 → g.z ∣ (gt es (j : Int)).z) ∧ (g.z = 0 → ∀ j : Nat, j < 9 → (gt es (j : Int)).z = 0) ∧ I = jM g (63 + 9 * u) :: I0) := by
 have hO := fun M0 I0 => NOf (X := X) (w0 := w0) (M0 := M0) (I0 := I0) (x := 0) (by decide)
 refine bK (φ := nS (es.map some) u) (Hv.mem ha) ?_
 refine bN Tryz.func186 rfl Tryz.ntmps186 rfl ?_
 refine aH ?_
 refine aI ?_
 (refine aF rfl rfl ?_; intro b2; refine ⟨okF, ?_⟩)
 repeat (refine aJ ?_)
 (refine aA rfl (hO _ _) rfl rfl ?_; rintro _ _ _ ⟨rfl, e0, rfl, he0, rfl⟩; refine ⟨okF, ?_⟩)
 (refine aF rfl rfl ?_; intro b4; refine ⟨okF, ?_⟩)
 repeat (refine aJ ?_)
 refine dV (φ := jM e0 (63 + 0 * u)) (Hv.nUp (k := 63) (Hv.mem aB) (by omega)) ?_
 refine aZ [2, 4, 9, 10] rfl (fun k G M I => ∃ (i : Nat) (g : ZE) (s : Int), i ≤ 9 ∧ k = 9 - i ∧ (∀ j : Nat, j < i → g.z ∣ (gt es (j : Int)).z) ∧ (g.z = 0 ↔ ∀ j : Nat, j < i → (gt es (j : Int)).z = 0) ∧ (s = 0 ↔ g.z = 0) ∧ G = [(5, .int .i64 s), (11, .int .i64 i)] ∧ M = .blk b4 (eN g) 48 :: .blk b2 zN 48 :: M0 ∧ I = jM g (63 + i * u) :: nS (es.map some) u :: I0) (9) _ _ _ aL aG aD (⟨0, e0, 0, by omega, rfl, fun j hj => absurd hj (by omega), ⟨fun _ j hj => absurd hj (by omega), fun _ => he0⟩, ⟨fun _ => he0, fun _ => rfl⟩, rfl, rfl, rfl⟩) ?_
 rintro kk G M I ⟨i, g, s, hi, rfl, hdv, hz, hs0, rfl, rfl, rfl⟩
 by_cases hii : i < 9
 ·have hmul : i * u ≤ 9 * u := Nat.mul_le_mul_right _ hi
  obtain ⟨x, hx⟩ : ∃ x, gt es (i : Int) = x := ⟨_, rfl⟩
  refine dV (φ := jM x u) (Hv.oAt (os := es.map some) (i := (i : Int)) aB ⟨by omega, by rw [List.length_map]; omega⟩ (by rw [tZ ⟨by omega, by omega⟩, hx])) ?_
  have hG := fun M0 I0 h1 h2 => NGcd (X := X) (w0 := w0) (M0 := M0) (I0 := I0) (a := g) (b := x) (k := 63 + i * u) (m := u) (by omega) (by omega) h1 h2
  have e9 : 63 + i * u + u = 63 + (i + 1) * u := by rw [Nat.succ_mul]; omega
  rw [e9] at hG
  have hV := fun M0 I0 h1 => pX (X := X) (w0 := w0) (M0 := M0) (I0 := I0) (u := nv x) (z := x.z) (k := u) (by omega) h1
  have hSg := fun M0 I0 h1 => oO (X := X) (w0 := w0) (M0 := M0) (I0 := I0) (u := nv x) (z := x.z) (k := u) (by omega) h1
  repeat (refine aJ ?_)
  rw [hx]
  (refine aF rfl rfl ?_; intro b7; refine ⟨okF, ?_⟩)
  repeat (refine aJ ?_)
  (refine aA rfl (hV _ _ aB) rfl rfl ?_; rintro _ _ _ ⟨rfl, rfl, rfl⟩; refine ⟨okF, ?_⟩)
  repeat (refine aJ ?_)
  (refine aA rfl (hG _ _ aB aB) rfl rfl ?_; rintro _ _ _ ⟨rfl, g2, rfl, hg2, rfl⟩; refine ⟨okF, ?_⟩)
  have hd2 : ∀ j : Nat, j < i + 1 → g2.z ∣ (gt es (j : Int)).z := fun j hj => by
   rw [hg2]
   by_cases e : j = i
   ·subst e; rw [hx]; exact Int.gcd_dvd_right ..
   ·exact Int.dvd_trans (Int.gcd_dvd_left ..) (hdv j (by omega))
  have hz2 : g2.z = 0 ↔ ∀ j : Nat, j < i + 1 → (gt es (j : Int)).z = 0 := by
   rw [hg2]
   constructor
   ·intro h j hj
    have h2 := Int.gcd_eq_zero_iff.1 (Int.ofNat_eq_zero.1 h)
    by_cases e : j = i
    ·subst e; rw [hx]; exact h2.2
    ·exact hz.1 h2.1 j (by omega)
   ·intro h
    have h1 : g.z = 0 := hz.2 (fun j hj => h j (by omega))
    have h2 : x.z = 0 := by rw [← hx]; exact h i (by omega)
    rw [h1, h2]; rfl
  by_cases hs : s = 0
  ·repeat (refine aJ ?_)
   (refine aA rfl (hSg _ _ aB) rfl rfl ?_; rintro _ _ _ ⟨rfl, rfl, rfl⟩; refine ⟨okF, ?_⟩)
   repeat (refine aJ ?_)
   refine aK (9 - (i + 1)) _ _ _ (by first | omega | (simp only [List.length_append, List.length_cons, List.length_nil]; omega)) aL aG aD (⟨i + 1, g2, x.z.sign, by omega, rfl, hd2, hz2, by
    rw [hg2, hs0.1 hs]
    constructor
    ·intro h; rw [Int.sign_eq_zero_iff_zero.1 h]; rfl
    ·intro h
     have h2 := Int.gcd_eq_zero_iff.1 (Int.ofNat_eq_zero.1 h)
     rw [h2.2]; rfl, rfl, rfl, rfl⟩)
  ·repeat (refine aJ ?_)
   refine aK (9 - (i + 1)) _ _ _ (by first | omega | (simp only [List.length_append, List.length_cons, List.length_nil]; omega)) aL aG aD (⟨i + 1, g2, s, by omega, rfl, hd2, hz2, by
    rw [hg2]
    constructor
    ·intro h; exact absurd h hs
    ·intro h
     have h2 := Int.gcd_eq_zero_iff.1 (Int.ofNat_eq_zero.1 h)
     exact hs0.2 h2.1, rfl, rfl, rfl⟩)
 ·obtain rfl : i = 9 := by omega
  have hN := fun M0 I0 h1 => NNeg (X := X) (w0 := w0) (M0 := M0) (I0 := I0) (a := g) (k := 63 + 9 * u) (by omega) h1
  by_cases hs : s < 0
  ·repeat (refine aJ ?_)
   (refine aA rfl (hN _ _ aB) rfl rfl ?_; rintro _ _ _ ⟨rfl, g2, rfl, hg2, rfl⟩; refine ⟨okF, ?_⟩)
   repeat (refine aJ ?_)
   refine dZ (rs := [.cell 2 48, .tmp 3]) (vs := [nv g2, .bool (B (s ≠ 0))]) (.inl rfl) rfl (.cellN (cs := eN g2) inferInstance rfl aB rfl (.tmp rfl .nil)) rfl M0 (jM g2 (63 + 9 * u) :: I0) aG aD ⟨rfl, g2, _, rfl, fun j hj => by rw [hg2]; exact Int.neg_dvd.2 (hdv j hj), fun h => hz.1 (by omega), rfl⟩
  ·repeat (refine aJ ?_)
   refine dZ (rs := [.cell 2 48, .tmp 3]) (vs := [nv g, .bool (B (s ≠ 0))]) (.inl rfl) rfl (.cellN (cs := eN g) inferInstance rfl aB rfl (.tmp rfl .nil)) rfl M0 (jM g (63 + 9 * u) :: I0) aG aD ⟨rfl, g, _, rfl, hdv, fun h => hz.1 h, rfl⟩
theorem aON {b : Nat} : CD Tryz.prog 142 [.pointer (some ⟨b, 0, none⟩)] X w0 M0 I0 (fun v M I => M0 = M ∧ I0 = I ∧ v = .slice (some ⟨b, 0, none⟩) 9 9) := by
 refine bN Tryz.func142 rfl Tryz.ntmps142 rfl ?_
 repeat (refine aJ ?_)
 (refine aC rfl (fun _ => pV rfl) rfl rfl ?_)
 repeat (refine aJ ?_)
 refine aM (by first | exact .inl rfl | exact .inr rfl) rfl rfl _ _ aG aD (⟨rfl, rfl, rfl⟩)
theorem aUD {h : HZ} {u : Nat} (hu : u ≤ 10000) (hnz : ∃ x ∈ gP h.m, x ≠ 0) (hh : dY h u ∈ I0) :
  CD Tryz.prog 138 [gZ h, .func (.func 142) #[] #[]] X w0 M0 I0 (fun v M I => M0 = M ∧ ∃ (h' : HZ) (g : Int), v = gZ h' ∧ g ≠ 0 ∧ (gP h'.m).map (fun x => x * g) = gP h.m ∧ I = dY h' u :: I0) := by
 have hN := fun (b : Nat) M0 I0 => aON (X := X) (w0 := w0) (M0 := M0) (I0 := I0) (b := b)
 have hD := fun (b : Nat) M0 I0 h1 h2 => aUY (X := X) (w0 := w0) (M0 := M0) (I0 := I0) (b := b) (es := h.l) (u := u) (T := 128) hu rfl h1 h2
 refine bK (φ := dY h u) (Hv.mem hh) ?_
 refine bK (φ := nS (h.l.map some) u) (Hv.hAll aB) ?_
 refine bL Tryz.func138 rfl Tryz.ntmps138 rfl ?_
 refine aH ?_
 refine aI ?_
 (refine aV rfl rfl rfl ?_; intro b2; refine ⟨okF, ?_⟩)
 (refine aF rfl rfl ?_; intro b4; refine ⟨okF, ?_⟩)
 repeat (refine aJ ?_)
 (refine eO rfl rfl (hN b2 _ _) rfl rfl rfl ?_; rintro _ _ _ ⟨rfl, rfl, rfl⟩; refine ⟨okF, ?_⟩)
 repeat (refine aJ ?_)
 (refine aA rfl (hD b2 _ _ aB aB) rfl rfl ?_; rintro _ _ _ ⟨rfl, g, ok, rfl, hdv, hg0, rfl⟩; refine ⟨okF, ?_⟩)
 have hgz : g.z ≠ 0 := fun e => by
  have h9 := hg0 e
  obtain ⟨x, hx, hx0⟩ := hnz
  have hx : x ∈ [h.x.x.z, h.x.y.z, h.x.z.z, h.y.x.z, h.y.y.z, h.y.z.z, h.z.x.z, h.z.y.z, h.z.z.z] := hx
  simp only [List.mem_cons, List.not_mem_nil, or_false] at hx
  rcases hx with rfl | rfl | rfl | rfl | rfl | rfl | rfl | rfl | rfl
  ·exact hx0 (h9 0 (by omega))
  ·exact hx0 (h9 1 (by omega))
  ·exact hx0 (h9 2 (by omega))
  ·exact hx0 (h9 3 (by omega))
  ·exact hx0 (h9 4 (by omega))
  ·exact hx0 (h9 5 (by omega))
  ·exact hx0 (h9 6 (by omega))
  ·exact hx0 (h9 7 (by omega))
  ·exact hx0 (h9 8 (by omega))
 repeat (refine aJ ?_)
 (refine aF rfl rfl ?_; intro b6; refine ⟨okF, ?_⟩)
 repeat (refine aJ ?_)
 refine aZ [2, 4, 5, 6, 17, 18] rfl (fun k G M I => ∃ (i : Nat) (cur : List ZE), i ≤ 9 ∧ k = 9 - i ∧ cur.length = 9 ∧ (∀ j : Nat, j < i → (gt cur (j : Int)).z * g.z = (gt h.l (j : Int)).z) ∧ (∀ j : Nat, i ≤ j → j < 9 → gt cur (j : Int) = gt h.l (j : Int)) ∧ G = [(19, .int .i64 i)] ∧ M = .blk b6 (eN g) 48 :: .blk b4 z18 128 :: .blk b2 (recs eN cur) 128 :: M0 ∧ I = nS (cur.map some) u :: jM g (63 + 9 * u) :: I0) (9) _ _ _ aL aG aD (⟨0, h.l, by omega, rfl, rfl, fun j hj => absurd hj (by omega), fun j _ _ => rfl, rfl, rfl, rfl⟩) ?_
 rintro kk G M I ⟨i, cur, hi, rfl, hcl, hlo, hhi, rfl, rfl, rfl⟩
 by_cases hii : i < 9
 ·obtain ⟨x, hx⟩ : ∃ x, gt cur (i : Int) = x := ⟨_, rfl⟩
  refine dV (φ := jM x u) (Hv.oAt (os := cur.map some) (i := (i : Int)) aB ⟨by omega, by rw [List.length_map]; omega⟩ (by rw [tZ ⟨by omega, by omega⟩, hx])) ?_
  have hQ := fun M0 I0 h1 h2 => NDiv (X := X) (w0 := w0) (M0 := M0) (I0 := I0) (a := x) (b := g) (k := u) (m := 63 + 9 * u) (by omega) (by omega) hgz h1 h2
  repeat (refine aJ ?_)
  rw [hx]
  (refine aF rfl rfl ?_; intro b9; refine ⟨okF, ?_⟩)
  repeat (refine aJ ?_)
  (refine aA rfl (hQ _ _ aB aB) rfl rfl ?_; rintro _ _ _ ⟨rfl, q, r, rfl, hq, rfl⟩; refine ⟨okF, ?_⟩)
  repeat (refine yXh ?_)
  refine fD (vs := eN q) rfl rfl rfl (Ones.one q) kH (StAts.r (enc := eN) (sz := 2) (ms := cur) (i := (i : Int)) q ⟨by omega, by omega⟩ rfl) rfl rfl ⟨okF, ?_⟩
  repeat (refine aJ ?_)
  refine iI (φ := nS ((st cur (i : Int) q).map some) u) (by rw [aQT]; exact Hv.oSet aB aB) ?_
  refine aK (9 - (i + 1)) _ _ _ (by first | omega | (simp only [List.length_append, List.length_cons, List.length_nil]; omega)) aL aG aD (⟨i + 1, st cur (i : Int) q, by omega, rfl, by rw [uX]; exact hcl, fun t ht => by
   rw [vG (by omega) (by omega)]
   by_cases e : t = i
   ·subst e
    rw [if_pos rfl, hq, ← hhi t (Nat.le_refl _) hii, hx, Int.fdiv_mul_cancel (by rw [← hx, hhi t (Nat.le_refl _) hii]; exact hdv t (by omega))]
   ·rw [if_neg e]
    exact hlo t (by omega), fun t ht h9 => by
   rw [vG (by omega) (by omega), if_neg (by omega)]
   exact hhi t (by omega) h9, rfl, rfl, rfl⟩)
 ·obtain rfl : i = 9 := by omega
  have e9 := es9 hcl
  generalize gt cur 0 = a0, gt cur 1 = a1, gt cur 2 = a2, gt cur 3 = a3, gt cur 4 = a4, gt cur 5 = a5, gt cur 6 = a6, gt cur 7 = a7, gt cur 8 = a8 at e9
  subst e9
  refine dV (φ := dY ⟨⟨a0, a1, a2⟩, ⟨a3, a4, a5⟩, ⟨a6, a7, a8⟩⟩ u) (Hv.ofAll aB) ?_
  repeat (refine aJ ?_)
  refine bJ (cs := recs eN [a0, a1, a2, a3, a4, a5, a6, a7, a8]) (.inl rfl) rfl rfl aB rfl M0 (dY ⟨⟨a0, a1, a2⟩, ⟨a3, a4, a5⟩, ⟨a6, a7, a8⟩⟩ u :: I0) aG aD ⟨rfl, ⟨⟨a0, a1, a2⟩, ⟨a3, a4, a5⟩, ⟨a6, a7, a8⟩⟩, g.z, rfl, hgz, by
   show [a0.z * g.z, a1.z * g.z, a2.z * g.z, a3.z * g.z, a4.z * g.z, a5.z * g.z, a6.z * g.z, a7.z * g.z, a8.z * g.z] = [h.x.x.z, h.x.y.z, h.x.z.z, h.y.x.z, h.y.y.z, h.y.z.z, h.z.x.z, h.z.y.z, h.z.z.z]
   rw [show a0.z * g.z = h.x.x.z from hlo 0 (by omega), show a1.z * g.z = h.x.y.z from hlo 1 (by omega), show a2.z * g.z = h.x.z.z from hlo 2 (by omega), show a3.z * g.z = h.y.x.z from hlo 3 (by omega), show a4.z * g.z = h.y.y.z from hlo 4 (by omega), show a5.z * g.z = h.y.z.z from hlo 5 (by omega), show a6.z * g.z = h.z.x.z from hlo 6 (by omega), show a7.z * g.z = h.z.y.z from hlo 7 (by omega), show a8.z * g.z = h.z.z.z from hlo 8 (by omega)], rfl⟩
end
end Go.Proofs.YtjbhdfpjnjedhaaGreat

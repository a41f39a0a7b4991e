/- Plain: integers in the ratio of a matrix; what Of comes to; the error of a homography. Reduced integers, valid homographies, affine ones (package homography). The homography of a matrix (package homography: Of). -/
import Derived.Test.YtmmmfphealhapaaGreatZrbg
import Derived.Test.YtmmmfphealhapaaGreatZrbb
import Derived.Test.YtmmmfphealhapaaGreatZran
import Derived.Test.YtmmmfphealhapaaGreatZraw
import Derived.Test.YtmmmfphealhapaaGreatZrbc
import Derived.Test.YtmmmfphealhapaaGreatZrav
set_option linter.unusedSimpArgs false
set_option linter.unusedVariables false
set_option maxRecDepth 100000
set_option maxHeartbeats 4000000
namespace Go.Proofs.YtmmmfphealhapaaGreat
open Go Go.Fx
theorem aAH : ∀ l : List Int, sG (l.map (fun x : Int => (x : Rat))) = ((kK l : Int) : Rat)
 | [] => rfl
 | x :: r => by
  have ih := aAH r
  show (if (x : Rat) = 0 then sG (r.map (fun x : Int => (x : Rat))) else (x : Rat)) = (((if x = 0 then kK r else x) : Int) : Rat)
  by_cases h : x = 0
  ·rw [if_pos h, if_pos (by rw [h]; rfl), ih]
  ·rw [if_neg h, if_neg (int_ne h)]
def mM (m : Mt) : M9 Rat := ⟨⟨at2 m 0 0, at2 m 0 1, at2 m 0 2⟩, ⟨at2 m 1 0, at2 m 1 1, at2 m 1 2⟩, ⟨at2 m 2 0, at2 m 2 1, at2 m 2 2⟩⟩
def detM (m : Mt) : Rat := d3 (mM m).x (mM m).y (mM m).z
structure Pro9 (w : List Int) (c : Int) (m : Mt) : Prop where
 ne : c ≠ 0
 go : ∀ i j, i < 3 → j < 3 → ((w.getD (3 * i + j) 0 : Int) : Rat) = (c : Rat) * at2 m i j
theorem aLX (k : Rat) (p q r : T3 Rat) : d3 (p.smul k) (q.smul k) (r.smul k) = k * k * k * d3 p q r := by
 simp only [d3, T3.cross, T3.dot, T3.smul]
 grind
theorem Pro9.det {W : M9 Int} {c : Int} {m : Mt} (h : Pro9 (bD W) c m) (hd : detM m ≠ 0) : d3 W.x W.y W.z ≠ 0 := by
 intro e
 have h1 : ((d3 W.x W.y W.z : Int) : Rat) = 0 := by rw [e]; rfl
 have hg := h.go
 have ex : iU W.x = (mM m).x.smul (c : Rat) := by
  show (⟨_, _, _⟩ : T3 Rat) = ⟨_, _, _⟩
  rw [show ((W.x.a : Int) : Rat) = _ from hg 0 0 (by decide) (by decide), show ((W.x.b : Int) : Rat) = _ from hg 0 1 (by decide) (by decide), show ((W.x.c : Int) : Rat) = _ from hg 0 2 (by decide) (by decide)]
  rfl
 have ey : iU W.y = (mM m).y.smul (c : Rat) := by
  show (⟨_, _, _⟩ : T3 Rat) = ⟨_, _, _⟩
  rw [show ((W.y.a : Int) : Rat) = _ from hg 1 0 (by decide) (by decide), show ((W.y.b : Int) : Rat) = _ from hg 1 1 (by decide) (by decide), show ((W.y.c : Int) : Rat) = _ from hg 1 2 (by decide) (by decide)]
  rfl
 have ez : iU W.z = (mM m).z.smul (c : Rat) := by
  show (⟨_, _, _⟩ : T3 Rat) = ⟨_, _, _⟩
  rw [show ((W.z.a : Int) : Rat) = _ from hg 2 0 (by decide) (by decide), show ((W.z.b : Int) : Rat) = _ from hg 2 1 (by decide) (by decide), show ((W.z.c : Int) : Rat) = _ from hg 2 2 (by decide) (by decide)]
  rfl
 rw [nO, ex, ey, ez, aLX] at h1
 have hc := int_ne h.ne
 exact iF (iF (iF hc hc) hc) hd h1
theorem aEH {ps : List Q4} (h1 : ¬ colP (l4 ps)) (h2 : ¬ colP (m4 ps)) : kK (bD (eD ps)) ≠ 0 := fun e => by
 obtain ⟨x, hx, hx0⟩ := vU h1 h2
 exact hx0 (wH.1 e x hx)
theorem aGM {ps : List Q4} {i j : Nat} (hi : i < 3) (hj : j < 3) : at2 (tK (pW (bD (dB (eD ps))))) i j = (((bD (eD ps)).getD (3 * i + j) 0 : Int) : Rat) / ((kK (bD (eD ps)) : Int) : Rat) := by
 have e : sG (bD (dB (eD ps))) = ((kK (bD (eD ps)) : Int) : Rat) := aAH (bD (eD ps))
 unfold pW
 rw [e]
 obtain rfl | rfl | rfl : i = 0 ∨ i = 1 ∨ i = 2 := by omega
 all_goals obtain rfl | rfl | rfl : j = 0 ∨ j = 1 ∨ j = 2 := by omega
 all_goals rfl
theorem aDW {ps : List Q4} (h1 : ¬ colP (l4 ps)) (h2 : ¬ colP (m4 ps)) : detM (tK (pW (bD (dB (eD ps))))) ≠ 0 := by
 have hF := int_ne (aEH h1 h2)
 have hd := aDN h1 h2
 have key : ∀ {i j : Nat}, i < 3 → j < 3 → at2 (tK (pW (bD (dB (eD ps))))) i j = (1 / ((kK (bD (eD ps)) : Int) : Rat)) * (((bD (eD ps)).getD (3 * i + j) 0 : Int) : Rat) := fun {i j} hi hj => by
  rw [aGM hi hj]
  grind
 have e : mM (tK (pW (bD (dB (eD ps))))) = ⟨(dB (eD ps)).x.smul (1 / ((kK (bD (eD ps)) : Int) : Rat)), (dB (eD ps)).y.smul (1 / ((kK (bD (eD ps)) : Int) : Rat)), (dB (eD ps)).z.smul (1 / ((kK (bD (eD ps)) : Int) : Rat))⟩ := by
  unfold mM
  rw [key (i := 0) (j := 0) (by decide) (by decide), key (i := 0) (j := 1) (by decide) (by decide), key (i := 0) (j := 2) (by decide) (by decide), key (i := 1) (j := 0) (by decide) (by decide), key (i := 1) (j := 1) (by decide) (by decide), key (i := 1) (j := 2) (by decide) (by decide), key (i := 2) (j := 0) (by decide) (by decide), key (i := 2) (j := 1) (by decide) (by decide), key (i := 2) (j := 2) (by decide) (by decide)]
  rfl
 unfold detM
 rw [e, aLX]
 have hi : (1 : Rat) / ((kK (bD (eD ps)) : Int) : Rat) ≠ 0 := by grind
 exact iF (iF (iF hi hi) hi) hd
theorem aHE {l : List Int} (h : l.length = 9) : l = [l.getD 0 0, l.getD 1 0, l.getD 2 0, l.getD 3 0, l.getD 4 0, l.getD 5 0, l.getD 6 0, l.getD 7 0, l.getD 8 0] := by
 match l, h with
 | [_, _, _, _, _, _, _, _, _], _ => rfl
theorem aJY {ps : List Q4} {h r : List Int} {c g g' : Int} (h1 : ¬ colP (l4 ps)) (h2 : ¬ colP (m4 ps)) (hl : h.length = 9) (hc : c ≠ 0) (hg : g ≠ 0) (hw : ∀ i j, i < 3 → j < 3 → ((h.getD (3 * i + j) 0 * g : Int) : Rat) = (c : Rat) * at2 (tK (pW (bD (dB (eD ps))))) i j)
  (hh : RedL h) (hr : RedL r) (hg' : g' ≠ 0) (hrm : r.map (fun x => x * g') = bD (eD ps)) : h = r := by
 have hF := aEH h1 h2
 have hFr := int_ne hF
 obtain ⟨F, hFe⟩ : ∃ F, kK (bD (eD ps)) = F := ⟨_, rfl⟩
 obtain ⟨L, hLe⟩ : ∃ L, bD (eD ps) = L := ⟨_, rfl⟩
 have hLl : L.length = 9 := by rw [← hLe]; rfl
 have key : ∀ k, k < 9 → g * F * h.getD k 0 = c * L.getD k 0 := fun k hk => by
  have e := hw (k / 3) (k % 3) (by omega) (by omega)
  rw [aGM (by omega) (by omega), show 3 * (k / 3) + k % 3 = k by omega, hFe, hLe] at e
  rw [hFe] at hFr
  have e2 : ((g * F * h.getD k 0 : Int) : Rat) = ((c * L.getD k 0 : Int) : Rat) := by
   rw [Rat.intCast_mul] at e
   rw [Rat.intCast_mul, Rat.intCast_mul, Rat.intCast_mul]
   grind
  exact Rat.intCast_inj.1 e2
 have hm : h.map (fun x => g * F * x) = r.map (fun x => c * g' * x) := by
  have e3 : r.map (fun x => c * g' * x) = L.map (fun x => c * x) := by
   rw [← hLe, ← hrm, List.map_map]
   exact List.map_congr_left (fun x _ => by show c * g' * x = c * (x * g'); rw [Int.mul_assoc, Int.mul_comm g' x])
  rw [e3, aHE hl, aHE hLl]
  simp only [List.map]
  rw [key 0 (by decide), key 1 (by decide), key 2 (by decide), key 3 (by decide), key 4 (by decide), key 5 (by decide), key 6 (by decide), key 7 (by decide), key 8 (by decide)]
 exact aOO hh hr (fun e => (Int.mul_eq_zero.1 e).elim hg (by rw [← hFe]; exact hF)) (fun e => (Int.mul_eq_zero.1 e).elim hc hg') hm
def aFJ (m : M9 Int) (s : Q4) : Rat := tF (xP (dB m)) s
theorem aMX (m : M9 Int) (s : Q4) : aFJ m s = (Rat.divInt (m.app (oP s)).a (m.app (oP s)).c - (s.u : Rat)) * (Rat.divInt (m.app (oP s)).a (m.app (oP s)).c - (s.u : Rat)) + (Rat.divInt (m.app (oP s)).b (m.app (oP s)).c - (s.v : Rat)) * (Rat.divInt (m.app (oP s)).b (m.app (oP s)).c - (s.v : Rat)) := by
 unfold aFJ
 rw [aOJ, Rat.divInt_eq_div, Rat.divInt_eq_div]
 have hx : ((m.app (oP s)).a : Rat) = (dB m).x.dot (pF s) := nG m.x (oP s)
 have hy : ((m.app (oP s)).b : Rat) = (dB m).y.dot (pF s) := nG m.y (oP s)
 have hz : ((m.app (oP s)).c : Rat) = (dB m).z.dot (pF s) := nG m.z (oP s)
 rw [hx, hy, hz]
theorem aNE (m : M9 Int) (tol : Int) (s : Q4) : okQ (xP (dB m)) tol s ↔ (m.app (oP s)).c ≠ 0 ∧ aFJ m s ≤ (tol : Rat) := by
 have hz : oN (xP (dB m)) 2 s = (((m.app (oP s)).c : Int) : Rat) := ((xQ (dB m) s).2.2).trans (nG m.z (oP s)).symm
 unfold okQ aFJ
 rw [hz]
 exact ⟨fun ⟨a, b⟩ => ⟨fun e => a (by rw [e]; rfl), b⟩, fun ⟨a, b⟩ => ⟨int_ne a, b⟩⟩
theorem aDL {ps : List Q4} {m : M9 Int} {g : Int} (hg : g ≠ 0) (hm : (bD m).map (fun x => x * g) = bD (eD ps)) (l : List Q4) (tol : Int) : gD (xP (dB m)) l tol = aJA ps l tol := by
 refine (uD (int_ne hg) (aAA (H := dB m) (H' := dB (eD ps)) (c := (g : Rat)) ?_) l tol).symm
 show (bD (eD ps)).map (fun x : Int => (x : Rat)) = ((bD m).map (fun x : Int => (x : Rat))).map (fun x => (g : Rat) * x)
 rw [← hm, List.map_map, List.map_map]
 exact List.map_congr_left (fun x _ => by show ((x * g : Int) : Rat) = (g : Rat) * (x : Rat); rw [Rat.intCast_mul, Rat.mul_comm])
theorem aGR {ps : List Q4} {m : M9 Int} {g : Int} (hm : (bD m).map (fun x => x * g) = bD (eD ps)) (h1 : ¬ colP (l4 ps)) (h2 : ¬ colP (m4 ps)) : d3 m.x m.y m.z ≠ 0 := by
 have hd := aDN h1 h2
 intro e
 apply hd
 have e0 : ((d3 m.x m.y m.z : Int) : Rat) = 0 := by rw [e]; rfl
 rw [nO] at e0
 have hE : ∀ k, k < 9 → (bD (eD ps)).getD k 0 = g * (bD m).getD k 0 := fun k hk => by
  rw [← hm]
  obtain rfl | rfl | rfl | rfl | rfl | rfl | rfl | rfl | rfl : k = 0 ∨ k = 1 ∨ k = 2 ∨ k = 3 ∨ k = 4 ∨ k = 5 ∨ k = 6 ∨ k = 7 ∨ k = 8 := by omega
  all_goals exact Int.mul_comm _ _
 have cs : ∀ (a b : T3 Int), a.a = g * b.a → a.b = g * b.b → a.c = g * b.c → iU a = (iU b).smul (g : Rat) := fun a b p q r => by
  show (⟨_, _, _⟩ : T3 Rat) = ⟨_, _, _⟩
  rw [p, q, r, Rat.intCast_mul, Rat.intCast_mul, Rat.intCast_mul]
  rfl
 have ex := cs (eD ps).x m.x (hE 0 (by decide)) (hE 1 (by decide)) (hE 2 (by decide))
 have ey := cs (eD ps).y m.y (hE 3 (by decide)) (hE 4 (by decide)) (hE 5 (by decide))
 have ez := cs (eD ps).z m.z (hE 6 (by decide)) (hE 7 (by decide)) (hE 8 (by decide))
 show d3 (iU (eD ps).x) (iU (eD ps).y) (iU (eD ps).z) = 0
 rw [ex, ey, ez, aLX, e0, Rat.mul_zero]
theorem aNO : ([2, 0, 0, 0, 2, 0, 0, 0, 1] : List Int).map (fun x => x * (kK (bD (eD (mD ex5 [0, 1, 2, 3]))) / 2)) = bD (eD (mD ex5 [0, 1, 2, 3])) := by decide
theorem aOG : RedL [2, 0, 0, 0, 2, 0, 0, 0, 1] := by unfold RedL; decide
theorem ex5_g : kK (bD (eD (mD ex5 [0, 1, 2, 3]))) / 2 ≠ 0 := by decide
end Go.Proofs.YtmmmfphealhapaaGreat
namespace Go.Proofs.YtmmmfphealhapaaGreat
open Go Go.Fx
abbrev aFU (h : HZ) : Prop := RedL (bD h.m) ∧ d3 h.m.x h.m.y h.m.z ≠ 0
instance RedL.dec (l : List Int) : Decidable (RedL l) := inferInstanceAs (Decidable (_ ∧ _))
theorem aPB {y z : Int} : fQ y z = 0 ↔ y = z := by
 unfold fQ
 split
 ·omega
 ·split <;> omega
theorem aNX {l : List Int} (h0 : kK l ≠ 0) : RedL l ↔ dvL l = 1 := by
 unfold RedL dvL
 constructor
 ·rintro ⟨h1, h2⟩
  rw [if_neg (by omega), h1]
  rfl
 ·intro h
  split at h
  ·omega
  ·exact ⟨by omega, by omega⟩
section
variable {X : List Nat} {w0 : World} {M0 : List Ent} {I0 : List bA}
theorem aIO {b : Nat} {es : List ZE} {u : Nat} {T : TypeId} (hu : u ≤ 10000000000) (hl : es.length = 9) (hm : Ent.blk b (recs eN es) T ∈ M0) (ha : kD (es.map some) u ∈ I0) :
  CD Tryz.prog 185 [.slice (some ⟨b, 0, none⟩) 9 9] X w0 M0 I0 (fun v M I => M0 = M ∧ I0 = I ∧ v = .bool (B (RedL (es.map ZE.z)))) := by
 have hD := fun M0 I0 h1 h2 => aGI (X := X) (w0 := w0) (M0 := M0) (I0 := I0) (b := b) (es := es) (u := u) (T := T) hu hl h1 h2
 have hO := fun M0 I0 => NOf (X := X) (w0 := w0) (M0 := M0) (I0 := I0) (x := 1) (by decide)
 have hC := fun (g o : ZE) M0 I0 h1 h2 => uN (X := X) (w0 := w0) (M0 := M0) (I0 := I0) (u := nv g) (v := nv o) (y := g.z) (z := o.z) (k := 63 + 9 * u) (m := 63) (by omega) (by omega) h1 h2
 refine bX (φ := kD (es.map some) u) (Hv.mem ha) ?_
 refine bV Tryz.func185 rfl Tryz.ntmps185 rfl ?_
 repeat (refine aJ ?_)
 (refine aA rfl (hD _ _ aB aB) rfl rfl ?_; rintro _ _ _ ⟨rfl, g, ok, rfl, hg, hok, rfl⟩; refine ⟨okF, ?_⟩)
 repeat (refine aJ ?_)
 (refine aC rfl rfl ?_; intro b3; refine ⟨okF, ?_⟩)
 repeat (refine aJ ?_)
 by_cases h0 : kK (es.map ZE.z) ≠ 0
 ·rw [fA h0] at hok
  subst hok
  (repeat refine aH ?_); refine bB (.blk b3 (eN g) 42 :: M0) (I0) [0, 1, 2, 3, 4, 5, 6, 7] [2, 0, 1, 0, 0, 0, 0, 0] aG aF mixed (by kernel_rfl) ?_
  repeat (refine aJ ?_)
  (refine aA rfl (hO _ _) rfl rfl ?_; rintro _ _ _ ⟨rfl, o, rfl, ho, rfl⟩; refine ⟨okF, ?_⟩)
  repeat (refine aJ ?_)
  (refine aA rfl (hC g o _ _ aB aB) rfl rfl ?_; rintro _ _ _ ⟨rfl, rfl, rfl⟩; refine ⟨okF, ?_⟩)
  repeat (refine aJ ?_)
  refine jZ (M' := M0) (I' := I0) aG aF ?_
  refine aN (by first | exact .inl rfl | exact .inr rfl) rfl rfl _ _ aG aF (⟨rfl, rfl, congrArg Value.bool (lH (by rw [aPB, ho, aNX h0, hg]))⟩)
 ·rw [dF h0] at hok
  subst hok
  (repeat refine aH ?_); refine bB (.blk b3 (eN g) 42 :: M0) (I0) [0, 1, 2, 3, 4, 5, 6, 7] [2, 0, 1, 0, 0, 0, 0, 0] aG aF mixed (by kernel_rfl) ?_
  repeat (refine aJ ?_)
  refine jZ (M' := M0) (I' := I0) aG aF ?_
  refine aN (by first | exact .inl rfl | exact .inr rfl) rfl rfl _ _ aG aF (⟨rfl, rfl, congrArg Value.bool (dF (fun h => h0 (by have := h.2; omega))).symm⟩)
theorem aHA {h : HZ} {u : Nat} (hu0 : 63 ≤ u) (hu : u ≤ 10000000000) (hh : eX h u ∈ I0) :
  CD Tryz.prog 103 [sN h] X w0 M0 I0 (fun v M I => M0 = M ∧ I0 = I ∧ v = .bool (B (aFU h))) := by
 have hR := fun (b : Nat) M0 I0 h1 h2 => aIO (X := X) (w0 := w0) (M0 := M0) (I0 := I0) (b := b) (es := h.l) (u := u) (T := 44) hu rfl h1 h2
 have h0 := fun M0 I0 h1 => uX (X := X) (w0 := w0) (M0 := M0) (I0 := I0) (h := h) (u := u) h1
 have h1 := fun M0 I0 h1 => vK (X := X) (w0 := w0) (M0 := M0) (I0 := I0) (h := h) (u := u) h1
 have h2 := fun M0 I0 h1 => vE (X := X) (w0 := w0) (M0 := M0) (I0 := I0) (h := h) (u := u) h1
 have hD := fun M0 I0 h1 h2 h3 => aCH (X := X) (w0 := w0) (M0 := M0) (I0 := I0) (p := h.x) (q := h.y) (r := h.z) (u := u) hu0 (by omega) h1 h2 h3
 have hS := fun (g : ZE) M0 I0 h1 => lL (X := X) (w0 := w0) (M0 := M0) (I0 := I0) (u := nv g) (z := g.z) (k := u + u + 1 + u + 3) (by omega) h1
 refine bX (φ := eX h u) (Hv.mem hh) ?_
 refine bX (φ := kD (h.l.map some) u) (Hv.hAll aB) ?_
 have hfl : h.l.map ZE.z = bD h.m := rfl
 rw [hfl] at hR
 refine bV Tryz.func103 rfl Tryz.ntmps103 rfl ?_
 refine aH ?_
 refine aI ?_
 (refine aK rfl rfl rfl ?_; intro b1; refine ⟨okF, ?_⟩)
 repeat (refine aJ ?_)
 (repeat refine aH ?_); refine bB (.blk b1 (recs eN h.l) 44 :: M0) (I0) [0, 1, 2, 3, 5, 7, 4, 6, 8, 9, 10, 11, 12, 13] [5, 0, 0, 4, 4, 4, 0, 0, 0, 0, 0, 0, 0, 0] aG aF mixed (by kernel_rfl) ?_
 repeat (refine aJ ?_)
 (refine aD rfl (fun _ => rM rfl) rfl rfl ?_)
 (refine aA rfl (hR b1 _ _ aB aB) rfl rfl ?_; rintro _ _ _ ⟨rfl, rfl, rfl⟩; refine ⟨okF, ?_⟩)
 by_cases hr : RedL (bD h.m)
 ·rw [fA hr]
  repeat (refine aJ ?_)
  (refine aA rfl (h0 _ _ aB) rfl rfl ?_; rintro _ _ _ ⟨rfl, rfl, rfl⟩; refine ⟨okF, ?_⟩)
  repeat (refine aJ ?_)
  (refine aA rfl (h1 _ _ aB) rfl rfl ?_; rintro _ _ _ ⟨rfl, rfl, rfl⟩; refine ⟨okF, ?_⟩)
  repeat (refine aJ ?_)
  (refine aA rfl (h2 _ _ aB) rfl rfl ?_; rintro _ _ _ ⟨rfl, rfl, rfl⟩; refine ⟨okF, ?_⟩)
  repeat (refine aJ ?_)
  (refine aA rfl (hD _ _ aB aB aB) rfl rfl ?_; rintro _ _ _ ⟨rfl, g, rfl, hg, rfl⟩; refine ⟨okF, ?_⟩)
  repeat (refine aJ ?_)
  (refine aA rfl (hS g _ _ aB) rfl rfl ?_; rintro _ _ _ ⟨rfl, rfl, rfl⟩; refine ⟨okF, ?_⟩)
  repeat (refine aJ ?_)
  refine jZ (M' := M0) (I' := I0) aG aF ?_
  refine aN (by first | exact .inl rfl | exact .inr rfl) rfl rfl _ _ aG aF (⟨rfl, rfl, congrArg Value.bool (lH ⟨fun h => ⟨hr, fun e => h (Int.sign_eq_zero_iff_zero.2 (hg.trans e))⟩, fun h e => h.2 (hg.symm.trans (Int.sign_eq_zero_iff_zero.1 e))⟩)⟩)
 ·rw [dF hr]
  repeat (refine aJ ?_)
  refine jZ (M' := M0) (I' := I0) aG aF ?_
  refine aN (by first | exact .inl rfl | exact .inr rfl) rfl rfl _ _ aG aF (⟨rfl, rfl, congrArg Value.bool (dF (fun h => hr h.1)).symm⟩)
theorem aGL {h : HZ} {u : Nat} (hu0 : 63 ≤ u) (hu : u ≤ 10000000000) (hh : eX h u ∈ I0) :
  CD Tryz.prog 36 [sN h] X w0 M0 I0 (fun v M I => M0 = M ∧ I0 = I ∧ v = .bool (B (aFU h ∧ h.z.x.z = 0 ∧ h.z.y.z = 0))) := by
 have hV := fun M0 I0 h1 => aHA (X := X) (w0 := w0) (M0 := M0) (I0 := I0) (h := h) (u := u) hu0 hu h1
 have hS := fun (g : ZE) M0 I0 h1 => lL (X := X) (w0 := w0) (M0 := M0) (I0 := I0) (u := nv g) (z := g.z) (k := u) (by omega) h1
 refine bX (φ := eX h u) (Hv.mem hh) ?_
 refine bX (φ := aY h.z u) (Hv.hz aB) ?_
 refine bX (φ := fZ h.z.x u) (Hv.zx aB) (bX (φ := fZ h.z.y u) (Hv.zy aB) ?_)
 refine bV Tryz.func36 rfl Tryz.ntmps36 rfl ?_
 refine aH ?_
 refine aI ?_
 (refine aK rfl rfl rfl ?_; intro b1; refine ⟨okF, ?_⟩)
 repeat (refine aJ ?_)
 (refine aA rfl (hV _ _ aB) rfl rfl ?_; rintro _ _ _ ⟨rfl, rfl, rfl⟩; refine ⟨okF, ?_⟩)
 by_cases hv : aFU h
 ·rw [fA hv]
  repeat (refine aJ ?_)
  (refine aA rfl (hS h.z.x _ _ aB) rfl rfl ?_; rintro _ _ _ ⟨rfl, rfl, rfl⟩; refine ⟨okF, ?_⟩)
  repeat (refine aJ ?_)
  by_cases hx : h.z.x.z = 0
  ·rw [fA (show h.z.x.z.sign = 0 from Int.sign_eq_zero_iff_zero.2 hx)]
   repeat (refine aJ ?_)
   (refine aA rfl (hS h.z.y _ _ aB) rfl rfl ?_; rintro _ _ _ ⟨rfl, rfl, rfl⟩; refine ⟨okF, ?_⟩)
   repeat (refine aJ ?_)
   refine jZ (M' := M0) (I' := I0) aG aF ?_
   refine aN (by first | exact .inl rfl | exact .inr rfl) rfl rfl _ _ aG aF (⟨rfl, rfl, congrArg Value.bool (lH ⟨fun h => ⟨hv, hx, Int.sign_eq_zero_iff_zero.1 h⟩, fun h => Int.sign_eq_zero_iff_zero.2 h.2.2⟩)⟩)
  ·rw [dF (show ¬ h.z.x.z.sign = 0 from fun e => hx (Int.sign_eq_zero_iff_zero.1 e))]
   repeat (refine aJ ?_)
   refine jZ (M' := M0) (I' := I0) aG aF ?_
   refine aN (by first | exact .inl rfl | exact .inr rfl) rfl rfl _ _ aG aF (⟨rfl, rfl, congrArg Value.bool (dF (fun h => hx h.2.1)).symm⟩)
 ·rw [dF hv]
  repeat (refine aJ ?_)
  refine jZ (M' := M0) (I' := I0) aG aF ?_
  refine aN (by first | exact .inl rfl | exact .inr rfl) rfl rfl _ _ aG aF (⟨rfl, rfl, congrArg Value.bool (dF (fun h => hv h.1)).symm⟩)
end
end Go.Proofs.YtmmmfphealhapaaGreat
namespace Go.Proofs.YtmmmfphealhapaaGreat
open Go Go.Fx
def xR (A : Mt) (t : Nat) : Int := ((at2 A (t / 3) (t % 3)).den : Int)
def aCI (A : Mt) : Nat → Int
 | 0 => 1
 | n + 1 => aCI A n * xR A n
def aLG (A : Mt) (t : Nat) : Int := (aCI A 9).fdiv (xR A t) * (at2 A (t / 3) (t % 3)).num
theorem yP (A : Mt) (t : Nat) : 0 < xR A t := by
 have := (at2 A (t / 3) (t % 3)).den_pos
 unfold xR
 omega
theorem aCV (A : Mt) : ∀ n, 0 < aCI A n
 | 0 => by show (0 : Int) < 1; decide
 | n + 1 => Int.mul_pos (aCV A n) (yP A n)
theorem aEE (A : Mt) : ∀ {n t : Nat}, t < n → xR A t ∣ aCI A n
 | n + 1, t, h => by
  by_cases e : t = n
  ·subst e
   exact Int.dvd_mul_left _ _
  ·exact Int.dvd_trans (aEE A (n := n) (t := t) (by omega)) (Int.dvd_mul_right _ _)
theorem aOL (A : Mt) {t : Nat} (ht : t < 9) : ((aLG A t : Int) : Rat) = ((aCI A 9 : Int) : Rat) * at2 A (t / 3) (t % 3) := by
 obtain ⟨k, hk⟩ := aEE A ht
 have hp := yP A t
 unfold aLG
 rw [hk, Int.mul_fdiv_cancel_left _ (by omega), Rat.intCast_mul, Rat.intCast_mul]
 have hq : (((at2 A (t / 3) (t % 3)).num : Int) : Rat) / (((at2 A (t / 3) (t % 3)).den : Int) : Rat) = at2 A (t / 3) (t % 3) := by rw [← Rat.divInt_eq_div, Rat.num_divInt_den]
 have hd : ((xR A t : Int) : Rat) ≠ 0 := int_ne (by omega)
 have e : ((xR A t : Int) : Rat) = (((at2 A (t / 3) (t % 3)).den : Int) : Rat) := rfl
 rw [← e] at hq
 generalize (at2 A (t / 3) (t % 3)).num = z at *
 rw [← hq]
 grind
theorem d3_nz {W : M9 Int} (h : d3 W.x W.y W.z ≠ 0) : ∃ x ∈ bD W, x ≠ 0 := Classical.byContradiction (fun hn => by
 have hz : ∀ x ∈ bD W, x = 0 := fun x hx => Classical.byContradiction (fun h => hn ⟨x, hx, h⟩)
 simp only [bD, List.mem_cons, List.not_mem_nil, or_false, forall_eq_or_imp, forall_eq] at hz
 obtain ⟨a, b, c, d, e, f, _, _, _⟩ := hz
 apply h
 simp only [d3, T3.cross, T3.dot, a, b, c, d, e, f]
 simp)
theorem aJI (l : List Int) (g : Int) (t : Nat) : (l.map (fun x => x * g)).getD t 0 = l.getD t 0 * g := by
 simp only [List.getD, List.getElem?_map]
 cases l[t]? with
 | none => simp
 | some x => rfl
theorem os9 {os : List (Option ZE)} (hl : os.length = 9) {F : Nat → Int} (h : ∀ t : Nat, t < 9 → ∃ e : ZE, gt os (t : Int) = some e ∧ e.z = F t) : ∃ H : HZ, os = H.l.map some ∧ bD H.m = (List.range 9).map F := by
 obtain ⟨a0, e0, z0⟩ := h 0 (by decide)
 obtain ⟨a1, e1, z1⟩ := h 1 (by decide)
 obtain ⟨a2, e2, z2⟩ := h 2 (by decide)
 obtain ⟨a3, e3, z3⟩ := h 3 (by decide)
 obtain ⟨a4, e4, z4⟩ := h 4 (by decide)
 obtain ⟨a5, e5, z5⟩ := h 5 (by decide)
 obtain ⟨a6, e6, z6⟩ := h 6 (by decide)
 obtain ⟨a7, e7, z7⟩ := h 7 (by decide)
 obtain ⟨a8, e8, z8⟩ := h 8 (by decide)
 refine ⟨⟨⟨a0, a1, a2⟩, ⟨a3, a4, a5⟩, ⟨a6, a7, a8⟩⟩, ?_, ?_⟩
 ·match os, hl with
  | [b0, b1, b2, b3, b4, b5, b6, b7, b8], _ =>
   rw [show b0 = some a0 from e0, show b1 = some a1 from e1, show b2 = some a2 from e2, show b3 = some a3 from e3, show b4 = some a4 from e4, show b5 = some a5 from e5, show b6 = some a6 from e6, show b7 = some a7 from e7, show b8 = some a8 from e8]
   rfl
 ·show [a0.z, a1.z, a2.z, a3.z, a4.z, a5.z, a6.z, a7.z, a8.z] = _
  rw [z0, z1, z2, z3, z4, z5, z6, z7, z8]
  rfl
theorem aJF {F : Nat → Int} {t : Nat} (h : t < 9) : ((List.range 9).map F).getD t 0 = F t := by simp [List.getD, h]
theorem aOU {A : Mt} {W : M9 Int} (h : bD W = (List.range 9).map (aLG A)) : Pro9 (bD W) (aCI A 9) A := ⟨by have := aCV A 9; omega, fun i j hi hj => by
 rw [h, aJF (by omega), aOL A (by omega), show (3 * i + j) / 3 = i by omega, show (3 * i + j) % 3 = j by omega]⟩
abbrev dz (e : RE) : ZE := ⟨(e.q.den : Int), e.p2, e.c2⟩
abbrev nz (e : RE) : ZE := ⟨e.q.num, e.p1, e.c1⟩
theorem Hv.rden {I : List bA} {e : RE} {k : Nat} (h : jA e k ∈ I) : Hv I (fZ (dz e) k) := ⟨fun X w hw => (hw _ h : IsR e k X w).den⟩
theorem Hv.rnum {I : List bA} {e : RE} {k : Nat} (h : jA e k ∈ I) : Hv I (fZ (nz e) k) := ⟨fun X w hw => (hw _ h : IsR e k X w).num⟩
theorem Hv.hOf {I : List bA} {H : HZ} {u : Nat} (h : kD (H.l.map some) u ∈ I) : Hv I (eX H u) := Hv.ofAll (a0 := H.x.x) (a1 := H.x.y) (a2 := H.x.z) (a3 := H.y.x) (a4 := H.y.y) (a5 := H.y.z) (a6 := H.z.x) (a7 := H.z.y) (a8 := H.z.z) h
section
variable {X : List Nat} {w0 : World} {M0 : List Ent} {I0 : List bA}
theorem aKL {m : MX} {ku : Nat} (hk : ku ≤ 500000000) (hd : m.dim 3 3) (hdet : detM m.q ≠ 0) (hm : pM m ku ∈ I0) :
  CD Tryz.prog 12 [mv m] X w0 M0 I0 (fun v M I => M0 = M ∧ ∃ (h : HZ) (c g : Int), v = .tuple #[sN h, .int .i64 0] ∧ c ≠ 0 ∧ g ≠ 0 ∧ (∀ i j, i < 3 → j < 3 → (((bD h.m).getD (3 * i + j) 0 * g : Int) : Rat) = (c : Rat) * at2 m.q i j) ∧ RedL (bD h.m) ∧ I = eX h (63 + 10 * ku) :: I0) := by
 have hr3 : m.rows.length = 3 := hd.1
 have hV := fun (e : RE) M0 I0 h1 => aAR (X := X) (w0 := w0) (M0 := M0) (I0 := I0) (e := e) (k := ku) (by omega) h1
 have hO := fun M0 I0 => NOf (X := X) (w0 := w0) (M0 := M0) (I0 := I0) (x := 1) (by decide)
 refine bX (φ := pM m ku) (Hv.mem hm) (bX (φ := aX m.p (recs eL m.rows)) (Hv.xsl List.mem_cons_self) ?_)
 refine bV Tryz.func12 rfl Tryz.ntmps12 rfl ?_
 repeat (refine aJ ?_)
 (refine aC rfl rfl ?_; intro b2; refine ⟨okF, ?_⟩)
 repeat (refine aJ ?_)
 rw [hr3]
 repeat (refine aJ ?_)
 rw [fA (show ((3 : Nat) : Int) = 3 from rfl)]
 refine yV (M' := .blk b2 z18 44 :: M0) (I' := aX m.p (recs eL m.rows) :: pM m ku :: I0) aG aF ?_
 refine bG [0, 2, 23, 24] rfl (fun k G M I => ∃ i : Nat, i ≤ 3 ∧ k = 3 - i ∧ G = [(4, .bool true), (25, .int .i64 i)] ∧ M = .blk b2 z18 44 :: M0 ∧ I = aX m.p (recs eL m.rows) :: pM m ku :: I0) (3) _ _ _ aS aG aF (⟨0, by omega, rfl, rfl, rfl, rfl⟩) ?_
 rintro kk G M I ⟨i, hi, rfl, rfl, rfl, rfl⟩
 by_cases hii : i < 3
 ·obtain ⟨R, hR⟩ : ∃ R, gt m.rows (i : Int) = R := ⟨_, rfl⟩
  have hRl : R.es.length = 3 := by rw [← hR]; exact hd.row hii
  refine dV (φ := isL R ku) (by rw [← hR]; exact Hv.xrow aB ⟨by omega, by omega⟩) ?_
  refine dV (φ := aX R.p (recs eR R.es)) (Hv.lsl aB) ?_
  repeat (refine aJ ?_)
  rw [hR, hRl]
  repeat (refine aJ ?_)
  rw [fA (show ((3 : Nat) : Int) = 3 from rfl)]
  repeat (refine aJ ?_)
  refine bG [0, 2, 4, 23, 24, 25, 35, 36] rfl (fun k G M I => ∃ j : Nat, j ≤ 3 ∧ k = 3 - j ∧ G = [(37, .int .i64 j)] ∧ M = .blk b2 z18 44 :: M0 ∧ I = aX R.p (recs eR R.es) :: isL R ku :: aX m.p (recs eL m.rows) :: pM m ku :: I0) (3) _ _ _ aS aG aF (⟨0, by omega, rfl, rfl, rfl, rfl⟩) ?_
  rintro kk G M I ⟨j, hj, rfl, rfl, rfl, rfl⟩
  by_cases hjj : j < 3
  ·obtain ⟨e, he⟩ : ∃ e, gt R.es (j : Int) = e := ⟨_, rfl⟩
   refine dV (φ := jA e ku) (by rw [← he]; exact Hv.lel aB ⟨by omega, by omega⟩) ?_
   repeat (refine aJ ?_)
   rw [he]
   (refine aC rfl rfl ?_; intro b8; refine ⟨okF, ?_⟩)
   repeat (refine aJ ?_)
   (refine aA rfl (hV e _ _ (Hv.mem aB)) rfl rfl ?_; rintro _ _ _ ⟨rfl, rfl, rfl⟩; refine ⟨okF, ?_⟩)
   repeat (refine aJ ?_)
   refine aQ (3 - (j + 1)) _ _ _ (by first | omega | (simp only [List.length_append, List.length_cons, List.length_nil]; omega)) aS aG aF (⟨j + 1, by omega, rfl, rfl, rfl, rfl⟩)
  ·repeat (refine aJ ?_)
   refine aQ (3 - (i + 1)) _ _ _ (by first | omega | (simp only [List.length_append, List.length_cons, List.length_nil]; omega)) aS aG aF (⟨i + 1, by omega, rfl, rfl, rfl, rfl⟩)
 repeat (refine aJ ?_)
 (refine aA rfl (hO _ _) rfl rfl ?_; rintro _ _ _ ⟨rfl, g0, rfl, hg0, rfl⟩; refine ⟨okF, ?_⟩)
 (refine aC rfl rfl ?_; intro b9; refine ⟨okF, ?_⟩)
 repeat (refine aJ ?_)
 rw [hr3]
 refine dV (φ := fZ g0 (63 + 0 * ku)) (Hv.nUp (k := 63) (Hv.mem aB) (by omega)) ?_
 refine yV (M' := .blk b9 (eN g0) 42 :: .blk b2 z18 44 :: M0) (I' := fZ g0 (63 + 0 * ku) :: aX m.p (recs eL m.rows) :: pM m ku :: I0) aG aF ?_
 refine bG [0, 2, 9, 51, 52] rfl (fun k G M I => ∃ (i t : Nat) (g : ZE), i ≤ 3 ∧ 3 * i = t ∧ k = 3 - i ∧ g.z = aCI m.q t ∧ G = [(53, .int .i64 i)] ∧ M = .blk b9 (eN g) 42 :: .blk b2 z18 44 :: M0 ∧ I = fZ g (63 + t * ku) :: aX m.p (recs eL m.rows) :: pM m ku :: I0) (3) _ _ _ aS aG aF (⟨0, 0, g0, by omega, rfl, rfl, hg0, rfl, rfl, rfl⟩) ?_
 rintro kk G M I ⟨i, t0, g1, hi, ht0, rfl, hg1, rfl, rfl, rfl⟩
 by_cases hii : i < 3
 ·obtain ⟨R, hR⟩ : ∃ R, gt m.rows (i : Int) = R := ⟨_, rfl⟩
  have hRl : R.es.length = 3 := by rw [← hR]; exact hd.row hii
  refine dV (φ := isL R ku) (by rw [← hR]; exact Hv.xrow aB ⟨by omega, by omega⟩) ?_
  refine dV (φ := aX R.p (recs eR R.es)) (Hv.lsl aB) ?_
  repeat (refine aJ ?_)
  rw [hR, hRl]
  repeat (refine aJ ?_)
  refine yV (M' := .blk b9 (eN g1) 42 :: .blk b2 z18 44 :: M0) (I' := fZ g1 (63 + t0 * ku) :: aX R.p (recs eR R.es) :: isL R ku :: aX m.p (recs eL m.rows) :: pM m ku :: I0) aG aF ?_
  refine bG [0, 2, 9, 51, 52, 53, 57, 58] rfl (fun k G M I => ∃ (j t : Nat) (g : ZE), j ≤ 3 ∧ 3 * i + j = t ∧ k = 3 - j ∧ g.z = aCI m.q t ∧ G = [(59, .int .i64 j)] ∧ M = .blk b9 (eN g) 42 :: .blk b2 z18 44 :: M0 ∧ I = fZ g (63 + t * ku) :: aX R.p (recs eR R.es) :: isL R ku :: aX m.p (recs eL m.rows) :: pM m ku :: I0) (3) _ _ _ aS aG aF (⟨0, t0, g1, by omega, by omega, rfl, hg1, rfl, rfl, rfl⟩) ?_
  rintro kk G M I ⟨j, t, g2, hj, ht, rfl, hg2, rfl, rfl, rfl⟩
  by_cases hjj : j < 3
  ·obtain ⟨e, he⟩ : ∃ e, gt R.es (j : Int) = e := ⟨_, rfl⟩
   have hmul : t * ku ≤ 9 * ku := Nat.mul_le_mul_right _ (by omega)
   refine dV (φ := jA e ku) (by rw [← he]; exact Hv.lel aB ⟨by omega, by omega⟩) ?_
   refine dV (φ := fZ (dz e) ku) (Hv.rden aB) ?_
   have hM := fun M0 I0 h1 h2 => aLU (X := X) (w0 := w0) (M0 := M0) (I0 := I0) (a := g2) (b := dz e) (k := 63 + t * ku) (m := ku) (by omega) h1 h2
   rw [show 63 + t * ku + ku = 63 + (t + 1) * ku by rw [Nat.succ_mul]; omega] at hM
   have hde : (dz e).z = xR m.q t := by
    unfold xR
    rw [show t / 3 = i by omega, show t % 3 = j by omega, aPD (by omega) (by rw [hR]; omega), hR, he]
   repeat (refine aJ ?_)
   rw [he]
   (refine aC rfl rfl ?_; intro b13; refine ⟨okF, ?_⟩)
   repeat (refine aJ ?_)
   (refine aA rfl (hM _ _ aB aB) rfl rfl ?_; rintro _ _ _ ⟨rfl, g3, rfl, hg3, rfl⟩; refine ⟨okF, ?_⟩)
   repeat (refine aJ ?_)
   refine aQ (3 - (j + 1)) _ _ _ (by first | omega | (simp only [List.length_append, List.length_cons, List.length_nil]; omega)) aS aG aF (⟨j + 1, t + 1, g3, by omega, by omega, rfl, by rw [hg3, hg2, hde]; rfl, rfl, rfl, rfl⟩)
  ·repeat (refine aJ ?_)
   refine aQ (3 - (i + 1)) _ _ _ (by first | omega | (simp only [List.length_append, List.length_cons, List.length_nil]; omega)) aS aG aF (⟨i + 1, t, g2, by omega, by omega, rfl, hg2, rfl, rfl, rfl⟩)
 obtain rfl : t0 = 9 := by omega
 repeat (refine aJ ?_)
 (refine aC rfl rfl ?_; intro b14; refine ⟨okF, ?_⟩)
 repeat (refine aJ ?_)
 refine dV (φ := kD [none, none, none, none, none, none, none, none, none] (63 + 9 * ku + ku)) (Hv.oNil (n := 9)) ?_
 refine yV (M' := .blk b14 z18 44 :: .blk b9 (eN g1) 42 :: .blk b2 z18 44 :: M0) (I' := kD [none, none, none, none, none, none, none, none, none] (63 + 9 * ku + ku) :: fZ g1 (63 + 9 * ku) :: aX m.p (recs eL m.rows) :: pM m ku :: I0) aG aF ?_
 refine bG [0, 2, 9, 14] rfl (fun k G M I => ∃ (i : Nat) (os : List (Option ZE)), i ≤ 9 ∧ k = 9 - i ∧ os.length = 9 ∧ (∀ t : Nat, t < i → ∃ e : ZE, gt os (t : Int) = some e ∧ e.z = aLG m.q t) ∧ G = [(69, .int .i64 i)] ∧ M = .blk b14 (recs wN os) 44 :: .blk b9 (eN g1) 42 :: .blk b2 z18 44 :: M0 ∧ I = kD os (63 + 9 * ku + ku) :: fZ g1 (63 + 9 * ku) :: aX m.p (recs eL m.rows) :: pM m ku :: I0) (9) _ _ _ aS aG aF (⟨0, _, by omega, rfl, rfl, fun t ht => absurd ht (by omega), rfl, rfl, rfl⟩) ?_
 rintro kk G M I ⟨n, os, hn, rfl, hol, ho, rfl, rfl, rfl⟩
 by_cases hnn : n < 9
 ·obtain ⟨a, ha⟩ : ∃ a, n / 3 = a := ⟨_, rfl⟩
  obtain ⟨b, hb⟩ : ∃ b, n % 3 = b := ⟨_, rfl⟩
  have hqa : Int.tdiv (n : Int) 3 = (a : Int) := by rw [Int.tdiv_eq_ediv_of_nonneg (by omega)]; omega
  have hqb : Int.tmod (n : Int) 3 = (b : Int) := by rw [Int.tmod_eq_emod_of_nonneg (by omega)]; omega
  obtain ⟨R, hR⟩ : ∃ R, gt m.rows (a : Int) = R := ⟨_, rfl⟩
  have hRl : R.es.length = 3 := by rw [← hR]; exact hd.row (by omega)
  obtain ⟨e, he⟩ : ∃ e, gt R.es (b : Int) = e := ⟨_, rfl⟩
  refine dV (φ := isL R ku) (by rw [← hR]; exact Hv.xrow aB ⟨by omega, by omega⟩) ?_
  refine dV (φ := aX R.p (recs eR R.es)) (Hv.lsl aB) ?_
  refine dV (φ := jA e ku) (by rw [← he]; exact Hv.lel aB ⟨by omega, by omega⟩) ?_
  refine dV (φ := fZ (dz e) ku) (Hv.rden aB) ?_
  refine dV (φ := fZ (nz e) ku) (Hv.rnum aB) ?_
  have hat : at2 m.q (n / 3) (n % 3) = e.q := by rw [ha, hb, aPD (by omega) (by rw [hR]; omega), hR, he]
  have hde : (dz e).z = xR m.q n := by unfold xR; rw [hat]
  have hD := fun M0 I0 h1 h2 => NDiv (X := X) (w0 := w0) (M0 := M0) (I0 := I0) (a := g1) (b := dz e) (k := 63 + 9 * ku) (m := ku) (by omega) (by omega) (by rw [hde]; have := yP m.q n; omega) h1 h2
  have hM := fun (q : ZE) M0 I0 h1 h2 => aLU (X := X) (w0 := w0) (M0 := M0) (I0 := I0) (a := q) (b := nz e) (k := 63 + 9 * ku) (m := ku) (by omega) h1 h2
  repeat (refine aJ ?_)
  rw [hqa]
  repeat (refine aJ ?_)
  rw [hR]
  repeat (refine aJ ?_)
  rw [hqb, hRl]
  repeat (refine aJ ?_)
  rw [he]
  (refine aC rfl rfl ?_; intro b16; refine ⟨okF, ?_⟩)
  repeat (refine aJ ?_)
  (refine aA rfl (hD _ _ aB aB) rfl rfl ?_; rintro _ _ _ ⟨rfl, q, r, rfl, hq, rfl⟩; refine ⟨okF, ?_⟩)
  repeat (refine aJ ?_)
  (refine aC rfl rfl ?_; intro b17; refine ⟨okF, ?_⟩)
  (refine aC rfl rfl ?_; intro b18; refine ⟨okF, ?_⟩)
  repeat (refine aJ ?_)
  (refine aA rfl (hM q _ _ aB aB) rfl rfl ?_; rintro _ _ _ ⟨rfl, z, rfl, hz, rfl⟩; refine ⟨okF, ?_⟩)
  repeat (refine yXh ?_)
  refine gF (vs := eN z) rfl rfl rfl (Ones.one z) lN (StAts.o0 (enc := wN) (sz := 2) (ms := os) (i := (n : Int)) (some z) ⟨by omega, by omega⟩ rfl) rfl rfl ⟨okF, ?_⟩
  repeat (refine aJ ?_)
  refine rO (φ := kD (st os (n : Int) (some z)) (63 + 9 * ku + ku)) (Hv.oSet aB aB) ?_
  refine aQ (9 - (n + 1)) _ _ _ (by first | omega | (simp only [List.length_append, List.length_cons, List.length_nil]; omega)) aS aG aF (⟨n + 1, st os (n : Int) (some z), by omega, rfl, by rw [nT]; exact hol, fun t ht => by
   rw [pK (by omega) (by omega)]
   by_cases e2 : t = n
   ·subst e2
    rw [if_pos rfl]
    exact ⟨z, rfl, by unfold aLG; rw [hz, hq, hg1, hde, hat]⟩
   ·rw [if_neg e2]
    exact ho t (by omega), rfl, rfl, rfl⟩)
 obtain rfl : n = 9 := by omega
 obtain ⟨H, hos, hF⟩ := os9 hol ho
 subst hos
 have hpr := aOU hF
 have hdn := hpr.det hdet
 rw [aNG]
 refine dV (φ := eX H (63 + 9 * ku + ku)) (Hv.hOf aB) ?_
 have e10 : 63 + 9 * ku + ku = 63 + 10 * ku := by omega
 rw [e10]
 have h0 := fun M0 I0 h1 => uX (X := X) (w0 := w0) (M0 := M0) (I0 := I0) (h := H) (u := 63 + 10 * ku) h1
 have h1 := fun M0 I0 h1 => vK (X := X) (w0 := w0) (M0 := M0) (I0 := I0) (h := H) (u := 63 + 10 * ku) h1
 have h2 := fun M0 I0 h1 => vE (X := X) (w0 := w0) (M0 := M0) (I0 := I0) (h := H) (u := 63 + 10 * ku) h1
 have hD := fun M0 I0 h1 h2 h3 => aCH (X := X) (w0 := w0) (M0 := M0) (I0 := I0) (p := H.x) (q := H.y) (r := H.z) (u := 63 + 10 * ku) (by omega) (by omega) h1 h2 h3
 have hS := fun (g : ZE) M0 I0 h1 => lL (X := X) (w0 := w0) (M0 := M0) (I0 := I0) (u := nv g) (z := g.z) (k := 63 + 10 * ku + (63 + 10 * ku) + 1 + (63 + 10 * ku) + 3) (by omega) h1
 have hRd := fun M0 I0 h1 => aGC (X := X) (w0 := w0) (M0 := M0) (I0 := I0) (h := H) (u := 63 + 10 * ku) (by omega) (d3_nz hdn) h1
 repeat (refine aJ ?_)
 (repeat refine aH ?_); refine bB (.blk b14 (recs eN H.l) 44 :: .blk b2 z18 44 :: M0) (eX H (63 + 10 * ku) :: I0) [0, 2, 4, 1, 3, 5, 6, 7, 8] [4, 4, 4, 0, 0, 0, 0, 0, 0] aG aF mixed (by kernel_rfl) ?_
 repeat (refine aJ ?_)
 (refine aA rfl (h0 _ _ aB) rfl rfl ?_; rintro _ _ _ ⟨rfl, rfl, rfl⟩; refine ⟨okF, ?_⟩)
 repeat (refine aJ ?_)
 (refine aA rfl (h1 _ _ aB) rfl rfl ?_; rintro _ _ _ ⟨rfl, rfl, rfl⟩; refine ⟨okF, ?_⟩)
 repeat (refine aJ ?_)
 (refine aA rfl (h2 _ _ aB) rfl rfl ?_; rintro _ _ _ ⟨rfl, rfl, rfl⟩; refine ⟨okF, ?_⟩)
 repeat (refine aJ ?_)
 (refine aA rfl (hD _ _ aB aB aB) rfl rfl ?_; rintro _ _ _ ⟨rfl, d, rfl, hdz, rfl⟩; refine ⟨okF, ?_⟩)
 repeat (refine aJ ?_)
 (refine aA rfl (hS d _ _ aB) rfl rfl ?_; rintro _ _ _ ⟨rfl, rfl, rfl⟩; refine ⟨okF, ?_⟩)
 have hds : ¬ d.z.sign = 0 := fun e => hdn (hdz.symm.trans (Int.sign_eq_zero_iff_zero.1 e))
 repeat (refine aJ ?_)
 (refine aA rfl (hRd _ _ aB) rfl rfl ?_; rintro _ _ _ ⟨rfl, h', g, rfl, hg, hmp, hrd, rfl⟩; refine ⟨okF, ?_⟩)
 repeat (refine aJ ?_)
 refine dP (rs := [.cell 2 44, .tmp 3]) (vs := [sN h', .int .i64 0]) (.inl rfl) rfl (.cellN (cs := nQ h') inferInstance rfl aB rfl (.tmp rfl .nil)) rfl M0 (eX h' (63 + 10 * ku) :: I0) aG aF ⟨rfl, h', aCI m.q 9, g, rfl, hpr.ne, hg, fun i j hi hj => by rw [← aJI, hmp]; exact hpr.go i j hi hj, hrd, rfl⟩
end
end Go.Proofs.YtmmmfphealhapaaGreat

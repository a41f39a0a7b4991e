/- Plain: lists of integers in reduced form are determined by their ratios; homographies of permuted pairs. The common divisor; matrices reduced (package homography). -/
import Derived.Test.YtmmmfphealhapaaGreatZrba
import Derived.Test.YtmmmfphealhapaaGreatZraz
import Derived.Test.YtmmmfphealhapaaGreatZran
import Derived.Test.YtmmmfphealhapaaGreatZraw
set_option linter.unusedSimpArgs false
set_option linter.unusedVariables false
set_option maxRecDepth 100000
set_option maxHeartbeats 4000000
namespace Go.Proofs.YtmmmfphealhapaaGreat
open Go Go.Fx
def xC : Nat → List Int → Nat
 | g, [] => g
 | g, x :: r => xC (Int.gcd g x) r
def uA (l : List Int) : Nat := xC 0 l
def kK : List Int → Int
 | [] => 0
 | x :: r => if x = 0 then kK r else x
def dvL (l : List Int) : Int := if kK l < 0 then -(uA l : Int) else (uA l : Int)
def RedL (l : List Int) : Prop := uA l = 1 ∧ 0 < kK l
theorem aBG : ∀ (l : List Int) (g : Nat) (x : Int), xC g (l ++ [x]) = Int.gcd (xC g l) x
 | [], _, _ => rfl
 | y :: r, g, x => aBG r (Int.gcd g y) x
theorem aJP (l : List Int) (x : Int) : uA (l ++ [x]) = Int.gcd (uA l) x := aBG l 0 x
theorem wU : ∀ (l : List Int) (x : Int), kK (l ++ [x]) = if kK l = 0 then x else kK l
 | [], x => by
  show (if x = 0 then 0 else x) = if (0 : Int) = 0 then x else 0
  rw [if_pos rfl]
  by_cases h : x = 0
  ·rw [if_pos h, h]
  ·rw [if_neg h]
 | y :: r, x => by
  have ih := wU r x
  show (if y = 0 then kK (r ++ [x]) else y) = if (if y = 0 then kK r else y) = 0 then x else (if y = 0 then kK r else y)
  by_cases h : y = 0
  ·rw [if_pos h, if_pos h, ih]
  ·rw [if_neg h, if_neg h, if_neg h]
theorem aDP (a : Int) : ∀ (l : List Int) (g : Nat), xC (a.natAbs * g) (l.map (fun x => a * x)) = a.natAbs * xC g l
 | [], _ => rfl
 | x :: r, g => by
  show xC (Int.gcd ((a.natAbs * g : Nat) : Int) (a * x)) _ = a.natAbs * xC (Int.gcd g x) r
  have e : Int.gcd ((a.natAbs * g : Nat) : Int) (a * x) = a.natAbs * Int.gcd g x := by
   unfold Int.gcd
   rw [Int.natAbs_mul, Int.natAbs_natCast, Int.natAbs_natCast, Nat.gcd_mul_left]
  rw [e]
  exact aDP a r _
theorem zD (a : Int) (l : List Int) : uA (l.map (fun x => a * x)) = a.natAbs * uA l := by
 have := aDP a l 0
 rwa [Nat.mul_zero] at this
theorem uT {a : Int} (ha : a ≠ 0) : ∀ l : List Int, kK (l.map (fun x => a * x)) = a * kK l
 | [] => by show (0 : Int) = a * 0; rw [Int.mul_zero]
 | x :: r => by
  have ih := uT ha r
  show (if a * x = 0 then kK (r.map (fun x => a * x)) else a * x) = a * (if x = 0 then kK r else x)
  by_cases h : x = 0
  ·rw [if_pos h, if_pos (by rw [h, Int.mul_zero]), ih]
  ·rw [if_neg h, if_neg (fun e => (Int.mul_eq_zero.1 e).elim ha h)]
theorem wH : ∀ {l : List Int}, kK l = 0 ↔ ∀ x ∈ l, x = 0
 | [] => ⟨fun _ x hx => absurd hx List.not_mem_nil, fun _ => rfl⟩
 | y :: r => by
  have ih := wH (l := r)
  show (if y = 0 then kK r else y) = 0 ↔ _
  by_cases h : y = 0
  ·rw [if_pos h, ih]
   exact ⟨fun h1 x hx => (List.mem_cons.1 hx).elim (fun e => e.trans h) (h1 x), fun h1 x hx => h1 x (List.mem_cons_of_mem _ hx)⟩
  ·rw [if_neg h]
   exact ⟨fun e => absurd e h, fun h1 => h1 y List.mem_cons_self⟩
theorem aAJ : ∀ (l : List Int) (g : Nat), xC g l = 0 ↔ g = 0 ∧ ∀ x ∈ l, x = 0
 | [], g => ⟨fun h => ⟨h, fun x hx => absurd hx List.not_mem_nil⟩, fun h => h.1⟩
 | y :: r, g => by
  show xC (Int.gcd g y) r = 0 ↔ _
  rw [aAJ r, Int.gcd_eq_zero_iff]
  constructor
  ·rintro ⟨⟨h1, h2⟩, h3⟩
   exact ⟨by omega, fun x hx => (List.mem_cons.1 hx).elim (fun e => e.trans h2) (h3 x)⟩
  ·rintro ⟨h1, h2⟩
   exact ⟨⟨by omega, h2 y List.mem_cons_self⟩, fun x hx => h2 x (List.mem_cons_of_mem _ hx)⟩
theorem aAO {l : List Int} : uA l = 0 ↔ ∀ x ∈ l, x = 0 := by
 unfold uA
 rw [aAJ]
 exact ⟨fun h => h.2, fun h => ⟨rfl, h⟩⟩
theorem aEK : ∀ (l : List Int) (g : Nat), ((xC g l : Nat) : Int) ∣ (g : Int) ∧ ∀ x ∈ l, ((xC g l : Nat) : Int) ∣ x
 | [], g => ⟨Int.dvd_refl _, fun x hx => absurd hx List.not_mem_nil⟩
 | y :: r, g => by
  obtain ⟨h1, h2⟩ := aEK r (Int.gcd g y)
  refine ⟨Int.dvd_trans h1 (Int.gcd_dvd_left ..), fun x hx => ?_⟩
  rcases List.mem_cons.1 hx with e | e
  ·rw [e]; exact Int.dvd_trans h1 (Int.gcd_dvd_right ..)
  ·exact h2 x e
theorem aMV {l : List Int} {x : Int} (h : x ∈ l) : dvL l ∣ x := by
 have h1 := (aEK l 0).2 x h
 unfold dvL
 split
 ·exact Int.neg_dvd.2 h1
 ·exact h1
theorem aKS {l : List Int} (h : dvL l = 0) : ∀ x ∈ l, x = 0 := aAO.1 (by unfold dvL at h; split at h <;> omega)
theorem aGF (x : Int) : x.sign < 0 ↔ x < 0 := by
 rcases Int.lt_trichotomy x 0 with h | h | h
 ·rw [Int.sign_eq_neg_one_of_neg h]; omega
 ·rw [h]; decide
 ·rw [Int.sign_eq_one_of_pos h]; omega
theorem aQS {l q : List Int} (hnz : ∃ x ∈ l, x ≠ 0) (h : q.map (fun x => x * dvL l) = l) : RedL q := by
 have e0 : (q.map (fun x => dvL l * x)) = l := by rw [← h]; exact List.map_congr_left (fun x _ => by rw [h, Int.mul_comm])
 have hg : uA l ≠ 0 := fun e => by
  obtain ⟨x, hx, hx0⟩ := hnz
  exact hx0 (aAO.1 e x hx)
 have hf : kK l ≠ 0 := fun e => by
  obtain ⟨x, hx, hx0⟩ := hnz
  exact hx0 (wH.1 e x hx)
 have hd : (dvL l).natAbs = uA l := by unfold dvL; split <;> omega
 have hd0 : dvL l ≠ 0 := by omega
 have h1 := zD (dvL l) q
 rw [e0, hd] at h1
 have h2 := uT hd0 q
 rw [e0] at h2
 refine ⟨Nat.eq_of_mul_eq_mul_left (Nat.pos_of_ne_zero hg) (by omega), ?_⟩
 have hs : (kK l < 0 ↔ dvL l < 0) := by unfold dvL; split <;> omega
 by_cases hn : kK l < 0
 ·have := hs.1 hn
  rw [h2] at hn
  exact Int.pos_of_mul_neg_right hn (by omega)
 ·have h3 : ¬ dvL l < 0 := fun e => hn (hs.2 e)
  have h4 : 0 < dvL l * kK q := by omega
  exact Int.pos_of_mul_pos_right h4 (by omega)
theorem aOO {l q : List Int} {a b : Int} (hl : RedL l) (hq : RedL q) (ha : a ≠ 0) (hb : b ≠ 0) (h : l.map (fun x => a * x) = q.map (fun x => b * x)) : l = q := by
 have h1 := congrArg uA h
 rw [zD, zD, hl.1, hq.1, Nat.mul_one, Nat.mul_one] at h1
 have h2 := congrArg kK h
 rw [uT ha, uT hb] at h2
 have e : a = b := by
  rcases Int.natAbs_eq_natAbs_iff.1 h1 with e | e
  ·exact e
  ·exfalso
   have p1 := hl.2
   have p2 := hq.2
   rw [e, Int.neg_mul] at h2
   rcases Int.lt_or_gt_of_ne hb with hb | hb
   ·have := Int.mul_neg_of_neg_of_pos hb p1
    have := Int.mul_neg_of_neg_of_pos hb p2
    omega
   ·have := Int.mul_pos hb p1
    have := Int.mul_pos hb p2
    omega
 subst e
 have key : ∀ (l q : List Int), l.map (fun x => a * x) = q.map (fun x => a * x) → l = q := by
  intro l
  induction l with
  | nil => intro q h; cases q with
   | nil => rfl
   | cons y r => cases h
  | cons x r ih => intro q h; cases q with
   | nil => cases h
   | cons y s =>
    injection h with h1 h2
    rw [Int.eq_of_mul_eq_mul_left ha h1, ih s h2]
 exact key l q h
end Go.Proofs.YtmmmfphealhapaaGreat
namespace Go.Proofs.YtmmmfphealhapaaGreat
open Go Go.Fx
theorem oK {es : List ZE} {i : Int} (hi : 0 ≤ i ∧ i < es.length) : gt (es.map some) i = some (gt es i) := by
 obtain ⟨n, rfl⟩ : ∃ n : Nat, i = (n : Int) := ⟨i.toNat, by omega⟩
 rw [vO (by simp; omega), vO (by omega)]
 simp
theorem aLB {es : List ZE} {i : Int} {g : ZE} : (st es i g).map some = st (es.map some) i (some g) := by simp [st]
theorem es9 {es : List ZE} (h : es.length = 9) : es = [gt es 0, gt es 1, gt es 2, gt es 3, gt es 4, gt es 5, gt es 6, gt es 7, gt es 8] := by
 match es, h with
 | [_, _, _, _, _, _, _, _, _], _ => rfl
abbrev HZ.l (h : HZ) : List ZE := [h.x.x, h.x.y, h.x.z, h.y.x, h.y.y, h.y.z, h.z.x, h.z.y, h.z.z]
theorem Hv.hAll {I : List bA} {h : HZ} {u : Nat} (hh : eX h u ∈ I) : Hv I (kD (h.l.map some) u) := ⟨fun X w hw => ⟨fun e he => by
 have h1 : IsHZ h u X w := hw _ hh
 simp only [List.map_cons, List.map_nil, List.mem_cons, Option.some.injEq, List.not_mem_nil, or_false] at he
 rcases he with rfl | rfl | rfl | rfl | rfl | rfl | rfl | rfl | rfl
 ·exact h1.x.x
 ·exact h1.x.y
 ·exact h1.x.z
 ·exact h1.y.x
 ·exact h1.y.y
 ·exact h1.y.z
 ·exact h1.z.x
 ·exact h1.z.y
 ·exact h1.z.z⟩⟩
theorem Hv.ofAll {I : List bA} {a0 a1 a2 a3 a4 a5 a6 a7 a8 : ZE} {u : Nat} (h : kD ([a0, a1, a2, a3, a4, a5, a6, a7, a8].map some) u ∈ I) : Hv I (eX ⟨⟨a0, a1, a2⟩, ⟨a3, a4, a5⟩, ⟨a6, a7, a8⟩⟩ u) := ⟨fun X w hw => by
 have h1 : AllO _ u X w := hw _ h
 exact ⟨⟨h1.go _ (by simp), h1.go _ (by simp), h1.go _ (by simp)⟩, ⟨h1.go _ (by simp), h1.go _ (by simp), h1.go _ (by simp)⟩, ⟨h1.go _ (by simp), h1.go _ (by simp), h1.go _ (by simp)⟩⟩⟩
section
variable {X : List Nat} {w0 : World} {M0 : List Ent} {I0 : List bA}
theorem NNeg {a : ZE} {k : Nat} (hk : k ≤ 400000000000) (ha : fZ a k ∈ I0) : CD Tryz.prog 192 [nv a] X w0 M0 I0 (NQ (-a.z) k M0 I0) := CD.nq (aBZ (by omega) ha)
theorem NGcd {a b : ZE} {k m : Nat} (hk : k ≤ 400000000000) (hm : m ≤ 400000000000) (ha : fZ a k ∈ I0) (hb : fZ b m ∈ I0) : CD Tryz.prog 122 [nv a, nv b] X w0 M0 I0 (NQ (Int.gcd a.z b.z) (k + m) M0 I0) := CD.nq (aFS (by omega) (by omega) ha hb)
theorem NDiv {a b : ZE} {k m : Nat} (hk : k ≤ 400000000000) (hm : m ≤ 400000000000) (h0 : b.z ≠ 0) (ha : fZ a k ∈ I0) (hb : fZ b m ∈ I0) : CD Tryz.prog 60 [nv a, nv b] X w0 M0 I0 (fun v M I => M0 = M ∧ ∃ q r : ZE, v = .tuple #[nv q, nv r, .int .i64 0] ∧ q.z = a.z.fdiv b.z ∧ I = fZ q k :: I0) :=
 (wE (by omega) (by omega) h0 ha hb).post (fun v M I w h hw => by
  obtain ⟨rfl, v1, v2, rfl, rfl⟩ := h
  have h1 : IsI v1 (a.z.fdiv b.z) k (muts M0) w := (hw.imm _ (List.Mem.tail _ (List.Mem.head _))).2
  have h2 : IsI v2 (a.z.fmod b.z) m (muts M0) w := (hw.imm _ (List.Mem.head _)).2
  obtain ⟨q, c, rfl, _⟩ := h1.ex
  obtain ⟨q2, c2, rfl, _⟩ := h2.ex
  exact ⟨M0, _, ⟨rfl, ⟨_, q, c⟩, ⟨_, q2, c2⟩, rfl, rfl, rfl⟩, hw.inc (Inc.wk Inc.refl)⟩)
theorem aGI {b : Nat} {es : List ZE} {u : Nat} {T : TypeId} (hu : u ≤ 10000000000) (hl : es.length = 9) (hm : Ent.blk b (recs eN es) T ∈ M0) (ha : kD (es.map some) u ∈ I0) :
  CD Tryz.prog 113 [.slice (some ⟨b, 0, none⟩) 9 9] X w0 M0 I0 (fun v M I => M0 = M ∧ ∃ (g : ZE) (ok : Bool), v = .tuple #[nv g, .bool ok] ∧ g.z = dvL (es.map ZE.z) ∧ ok = B (kK (es.map ZE.z) ≠ 0) ∧ I = fZ g (63 + 9 * u) :: I0) := by
 have hO := fun M0 I0 => NOf (X := X) (w0 := w0) (M0 := M0) (I0 := I0) (x := 0) (by decide)
 refine bX (φ := kD (es.map some) u) (Hv.mem ha) ?_
 refine bV Tryz.func113 rfl Tryz.ntmps113 rfl ?_
 refine aH ?_
 refine aI ?_
 (refine aC rfl rfl ?_; intro b2; refine ⟨okF, ?_⟩)
 repeat (refine aJ ?_)
 (refine aA rfl (hO _ _) rfl rfl ?_; rintro _ _ _ ⟨rfl, e0, rfl, he0, rfl⟩; refine ⟨okF, ?_⟩)
 (refine aC rfl rfl ?_; intro b4; refine ⟨okF, ?_⟩)
 repeat (refine aJ ?_)
 refine dV (φ := fZ e0 (63 + 0 * u)) (Hv.nUp (k := 63) (Hv.mem aB) (by omega)) ?_
 refine bG [2, 4, 9, 10] rfl (fun k G M I => ∃ (i : Nat) (g : ZE) (s : Int), i ≤ 9 ∧ k = 9 - i ∧ g.z = (uA ((es.map ZE.z).take i) : Int) ∧ s = (kK ((es.map ZE.z).take i)).sign ∧ G = [(5, .int .i64 s), (11, .int .i64 i)] ∧ M = .blk b4 (eN g) 42 :: .blk b2 zN 42 :: M0 ∧ I = fZ g (63 + i * u) :: kD (es.map some) u :: I0) (9) _ _ _ aS aG aF (⟨0, e0, 0, by omega, rfl, he0, rfl, rfl, rfl, rfl⟩) ?_
 rintro kk G M I ⟨i, g, s, hi, rfl, hg0, hs0, rfl, rfl, rfl⟩
 by_cases hii : i < 9
 ·have hmul : i * u ≤ 9 * u := Nat.mul_le_mul_right _ hi
  obtain ⟨x, hx⟩ : ∃ x, gt es (i : Int) = x := ⟨_, rfl⟩
  refine dV (φ := fZ x u) (Hv.oAt (os := es.map some) (i := (i : Int)) aB ⟨by omega, by rw [List.length_map]; omega⟩ (by rw [oK ⟨by omega, by omega⟩, hx])) ?_
  have hG := fun M0 I0 h1 h2 => NGcd (X := X) (w0 := w0) (M0 := M0) (I0 := I0) (a := g) (b := x) (k := 63 + i * u) (m := u) (by omega) (by omega) h1 h2
  have e9 : 63 + i * u + u = 63 + (i + 1) * u := by rw [Nat.succ_mul]; omega
  rw [e9] at hG
  have hV := fun M0 I0 h1 => sH (X := X) (w0 := w0) (M0 := M0) (I0 := I0) (u := nv x) (z := x.z) (k := u) (by omega) h1
  have hSg := fun M0 I0 h1 => lL (X := X) (w0 := w0) (M0 := M0) (I0 := I0) (u := nv x) (z := x.z) (k := u) (by omega) h1
  repeat (refine aJ ?_)
  rw [hx]
  (refine aC rfl rfl ?_; intro b7; refine ⟨okF, ?_⟩)
  repeat (refine aJ ?_)
  (refine aA rfl (hV _ _ aB) rfl rfl ?_; rintro _ _ _ ⟨rfl, rfl, rfl⟩; refine ⟨okF, ?_⟩)
  repeat (refine aJ ?_)
  (refine aA rfl (hG _ _ aB aB) rfl rfl ?_; rintro _ _ _ ⟨rfl, g2, rfl, hg2, rfl⟩; refine ⟨okF, ?_⟩)
  have hzs : (es.map ZE.z).take (i + 1) = (es.map ZE.z).take i ++ [x.z] := by
   have hl9 : i < (es.map ZE.z).length := by rw [List.length_map]; omega
   rw [← List.take_append_getElem hl9, List.getElem_map, ← hx, vO (by omega)]
  have hg3 : g2.z = (uA ((es.map ZE.z).take (i + 1)) : Int) := by rw [hg2, hzs, aJP, hg0]
  by_cases hs : s = 0
  ·repeat (refine aJ ?_)
   (refine aA rfl (hSg _ _ aB) rfl rfl ?_; rintro _ _ _ ⟨rfl, rfl, rfl⟩; refine ⟨okF, ?_⟩)
   repeat (refine aJ ?_)
   refine aQ (9 - (i + 1)) _ _ _ (by first | omega | (simp only [List.length_append, List.length_cons, List.length_nil]; omega)) aS aG aF (⟨i + 1, g2, x.z.sign, by omega, rfl, hg3, by rw [hzs, wU, if_pos (Int.sign_eq_zero_iff_zero.1 (hs0.symm.trans hs))], rfl, rfl, rfl⟩)
  ·repeat (refine aJ ?_)
   refine aQ (9 - (i + 1)) _ _ _ (by first | omega | (simp only [List.length_append, List.length_cons, List.length_nil]; omega)) aS aG aF (⟨i + 1, g2, s, by omega, rfl, hg3, by rw [hzs, wU, if_neg (fun e => hs (by rw [hs0, e]; rfl))]; exact hs0, rfl, rfl, rfl⟩)
 ·obtain rfl : i = 9 := by omega
  rw [List.take_of_length_le (by rw [List.length_map]; omega)] at hg0 hs0
  have hN := fun M0 I0 h1 => NNeg (X := X) (w0 := w0) (M0 := M0) (I0 := I0) (a := g) (k := 63 + 9 * u) (by omega) h1
  by_cases hs : s < 0
  ·repeat (refine aJ ?_)
   (refine aA rfl (hN _ _ aB) rfl rfl ?_; rintro _ _ _ ⟨rfl, g2, rfl, hg2, rfl⟩; refine ⟨okF, ?_⟩)
   repeat (refine aJ ?_)
   refine dP (rs := [.cell 2 42, .tmp 3]) (vs := [nv g2, .bool (B (s ≠ 0))]) (.inl rfl) rfl (.cellN (cs := eN g2) inferInstance rfl aB rfl (.tmp rfl .nil)) rfl M0 (fZ g2 (63 + 9 * u) :: I0) aG aF ⟨rfl, g2, _, rfl, by unfold dvL; rw [if_pos ((aGF _).1 (by rw [← hs0]; exact hs)), hg2, hg0], lH (by rw [hs0]; exact not_congr Int.sign_eq_zero_iff_zero), rfl⟩
  ·repeat (refine aJ ?_)
   refine dP (rs := [.cell 2 42, .tmp 3]) (vs := [nv g, .bool (B (s ≠ 0))]) (.inl rfl) rfl (.cellN (cs := eN g) inferInstance rfl aB rfl (.tmp rfl .nil)) rfl M0 (fZ g (63 + 9 * u) :: I0) aG aF ⟨rfl, g, _, rfl, by unfold dvL; rw [if_neg (fun e => hs (by rw [hs0]; exact (aGF _).2 e)), hg0], lH (by rw [hs0]; exact not_congr Int.sign_eq_zero_iff_zero), rfl⟩
theorem aLK {b : Nat} : CD Tryz.prog 54 [.pointer (some ⟨b, 0, none⟩)] X w0 M0 I0 (fun v M I => M0 = M ∧ I0 = I ∧ v = .slice (some ⟨b, 0, none⟩) 9 9) := by
 refine bV Tryz.func54 rfl Tryz.ntmps54 rfl ?_
 repeat (refine aJ ?_)
 (refine aD rfl (fun _ => rM rfl) rfl rfl ?_)
 repeat (refine aJ ?_)
 refine aN (by first | exact .inl rfl | exact .inr rfl) rfl rfl _ _ aG aF (⟨rfl, rfl, rfl⟩)
theorem aGC {h : HZ} {u : Nat} (hu : u ≤ 10000000000) (hnz : ∃ x ∈ bD h.m, x ≠ 0) (hh : eX h u ∈ I0) :
  CD Tryz.prog 50 [sN h, .func (.func 54) #[] #[]] X w0 M0 I0 (fun v M I => M0 = M ∧ ∃ (h' : HZ) (g : Int), v = sN h' ∧ g ≠ 0 ∧ (bD h'.m).map (fun x => x * g) = bD h.m ∧ RedL (bD h'.m) ∧ I = eX h' u :: I0) := by
 have hN := fun (b : Nat) M0 I0 => aLK (X := X) (w0 := w0) (M0 := M0) (I0 := I0) (b := b)
 have hD := fun (b : Nat) M0 I0 h1 h2 => aGI (X := X) (w0 := w0) (M0 := M0) (I0 := I0) (b := b) (es := h.l) (u := u) (T := 44) hu rfl h1 h2
 refine bX (φ := eX h u) (Hv.mem hh) ?_
 refine bX (φ := kD (h.l.map some) u) (Hv.hAll aB) ?_
 refine bI Tryz.func50 rfl Tryz.ntmps50 rfl ?_
 refine aH ?_
 refine aI ?_
 (refine aK rfl rfl rfl ?_; intro b2; refine ⟨okF, ?_⟩)
 (refine aC rfl rfl ?_; intro b4; refine ⟨okF, ?_⟩)
 repeat (refine aJ ?_)
 (refine jP rfl rfl (hN b2 _ _) rfl rfl rfl ?_; rintro _ _ _ ⟨rfl, rfl, rfl⟩; refine ⟨okF, ?_⟩)
 repeat (refine aJ ?_)
 (refine aA rfl (hD b2 _ _ aB aB) rfl rfl ?_; rintro _ _ _ ⟨rfl, g, ok, rfl, hgd, _, rfl⟩; refine ⟨okF, ?_⟩)
 have hfl : h.l.map ZE.z = bD h.m := rfl
 rw [hfl] at hgd
 have hgz : g.z ≠ 0 := fun e => by
  obtain ⟨x, hx, hx0⟩ := hnz
  exact hx0 (aKS (hgd.symm.trans e) x hx)
 have hdv : ∀ j : Nat, j < 9 → g.z ∣ (gt h.l (j : Int)).z := fun j hj => by
  rw [hgd]
  exact aMV (by rw [← hfl]; exact List.mem_map_of_mem (jO ⟨by omega, by show (j : Int) < ((9 : Nat) : Int); omega⟩))
 repeat (refine aJ ?_)
 (refine aC rfl rfl ?_; intro b6; refine ⟨okF, ?_⟩)
 repeat (refine aJ ?_)
 refine bG [2, 4, 5, 6, 17, 18] rfl (fun k G M I => ∃ (i : Nat) (cur : List ZE), i ≤ 9 ∧ k = 9 - i ∧ cur.length = 9 ∧ (∀ j : Nat, j < i → (gt cur (j : Int)).z * g.z = (gt h.l (j : Int)).z) ∧ (∀ j : Nat, i ≤ j → j < 9 → gt cur (j : Int) = gt h.l (j : Int)) ∧ G = [(19, .int .i64 i)] ∧ M = .blk b6 (eN g) 42 :: .blk b4 z18 44 :: .blk b2 (recs eN cur) 44 :: M0 ∧ I = kD (cur.map some) u :: fZ g (63 + 9 * u) :: I0) (9) _ _ _ aS aG aF (⟨0, h.l, by omega, rfl, rfl, fun j hj => absurd hj (by omega), fun j _ _ => rfl, rfl, rfl, rfl⟩) ?_
 rintro kk G M I ⟨i, cur, hi, rfl, hcl, hlo, hhi, rfl, rfl, rfl⟩
 by_cases hii : i < 9
 ·obtain ⟨x, hx⟩ : ∃ x, gt cur (i : Int) = x := ⟨_, rfl⟩
  refine dV (φ := fZ x u) (Hv.oAt (os := cur.map some) (i := (i : Int)) aB ⟨by omega, by rw [List.length_map]; omega⟩ (by rw [oK ⟨by omega, by omega⟩, hx])) ?_
  have hQ := fun M0 I0 h1 h2 => NDiv (X := X) (w0 := w0) (M0 := M0) (I0 := I0) (a := x) (b := g) (k := u) (m := 63 + 9 * u) (by omega) (by omega) hgz h1 h2
  repeat (refine aJ ?_)
  rw [hx]
  (refine aC rfl rfl ?_; intro b9; refine ⟨okF, ?_⟩)
  repeat (refine aJ ?_)
  (refine aA rfl (hQ _ _ aB aB) rfl rfl ?_; rintro _ _ _ ⟨rfl, q, r, rfl, hq, rfl⟩; refine ⟨okF, ?_⟩)
  repeat (refine yXh ?_)
  refine gF (vs := eN q) rfl rfl rfl (Ones.one q) lN (StAts.r (enc := eN) (sz := 2) (ms := cur) (i := (i : Int)) q ⟨by omega, by omega⟩ rfl) rfl rfl ⟨okF, ?_⟩
  repeat (refine aJ ?_)
  refine rO (φ := kD ((st cur (i : Int) q).map some) u) (by rw [aLB]; exact Hv.oSet aB aB) ?_
  refine aQ (9 - (i + 1)) _ _ _ (by first | omega | (simp only [List.length_append, List.length_cons, List.length_nil]; omega)) aS aG aF (⟨i + 1, st cur (i : Int) q, by omega, rfl, by rw [nT]; exact hcl, fun t ht => by
   rw [pK (by omega) (by omega)]
   by_cases e : t = i
   ·subst e
    rw [if_pos rfl, hq, ← hhi t (Nat.le_refl _) hii, hx, Int.fdiv_mul_cancel (by rw [← hx, hhi t (Nat.le_refl _) hii]; exact hdv t (by omega))]
   ·rw [if_neg e]
    exact hlo t (by omega), fun t ht h9 => by
   rw [pK (by omega) (by omega), if_neg (by omega)]
   exact hhi t (by omega) h9, rfl, rfl, rfl⟩)
 ·obtain rfl : i = 9 := by omega
  have e9 := es9 hcl
  generalize gt cur 0 = a0, gt cur 1 = a1, gt cur 2 = a2, gt cur 3 = a3, gt cur 4 = a4, gt cur 5 = a5, gt cur 6 = a6, gt cur 7 = a7, gt cur 8 = a8 at e9
  subst e9
  have hmm : (bD (HZ.m ⟨⟨a0, a1, a2⟩, ⟨a3, a4, a5⟩, ⟨a6, a7, a8⟩⟩)).map (fun x => x * g.z) = bD h.m := by
   show [a0.z * g.z, a1.z * g.z, a2.z * g.z, a3.z * g.z, a4.z * g.z, a5.z * g.z, a6.z * g.z, a7.z * g.z, a8.z * g.z] = [h.x.x.z, h.x.y.z, h.x.z.z, h.y.x.z, h.y.y.z, h.y.z.z, h.z.x.z, h.z.y.z, h.z.z.z]
   rw [show a0.z * g.z = h.x.x.z from hlo 0 (by omega), show a1.z * g.z = h.x.y.z from hlo 1 (by omega), show a2.z * g.z = h.x.z.z from hlo 2 (by omega), show a3.z * g.z = h.y.x.z from hlo 3 (by omega), show a4.z * g.z = h.y.y.z from hlo 4 (by omega), show a5.z * g.z = h.y.z.z from hlo 5 (by omega), show a6.z * g.z = h.z.x.z from hlo 6 (by omega), show a7.z * g.z = h.z.y.z from hlo 7 (by omega), show a8.z * g.z = h.z.z.z from hlo 8 (by omega)]
  refine dV (φ := eX ⟨⟨a0, a1, a2⟩, ⟨a3, a4, a5⟩, ⟨a6, a7, a8⟩⟩ u) (Hv.ofAll aB) ?_
  repeat (refine aJ ?_)
  refine bC (cs := recs eN [a0, a1, a2, a3, a4, a5, a6, a7, a8]) (.inl rfl) rfl rfl aB rfl M0 (eX ⟨⟨a0, a1, a2⟩, ⟨a3, a4, a5⟩, ⟨a6, a7, a8⟩⟩ u :: I0) aG aF ⟨rfl, ⟨⟨a0, a1, a2⟩, ⟨a3, a4, a5⟩, ⟨a6, a7, a8⟩⟩, g.z, rfl, hgz, hmm, aQS hnz (by rw [← hgd]; exact hmm), rfl⟩
end
end Go.Proofs.YtmmmfphealhapaaGreat

/- matrix: column, Solve, Refute. resect: row, times, canonical of lists, shaped. resect: condition, meet. resect: meet. resect.Slope. resect.Project. Drawn regions: what stays is chosen anew in the middle. resect.Center. resect.Plane. resect.Plane where there is not exactly one position. Arguments, opened: slices of records, structs with slices. Arguments opened: integers, fractions in groups of digits, as they come in. The law's arithmetic with numbers and vectors (chapter 30). The law's guards and slope (chapter 30). The determinant by elimination, one column at a time. matrix.Determinant. matrix: zero, symmetric. -/
import Derived.Test.YtgeagiikkeiioaaGreatZgbd
import Derived.Test.YtgeagiikkeiioaaGreatZgaw
import Derived.Test.YtgeagiikkeiioaaGreatZgbf
import Derived.Test.YtgeagiikkeiioaaGreatZgav
import Derived.Test.YtgeagiikkeiioaaGreatZgab
import Derived.Test.YtgeagiikkeiioaaGreatZgae
import Derived.Test.YtgeagiikkeiioaaGreatZgbb
set_option linter.unusedSimpArgs false
set_option linter.unusedVariables false
set_option maxRecDepth 100000
set_option maxHeartbeats 4000000
namespace Go.Proofs.YtgeagiikkeiioaaGreat
open Go Go.Fx
def zS (R C : Nat) (A : Mt) (b : List Rat) : Mt := vE R (C + 1) (fun i j => if j < C then at2 A i j else b.getD i 0)
def aFE (R C : Nat) (A : Mt) (b : List Rat) : Mt := vE R (C + 1 + R) (fun i j => if j < C then at2 A i j else if j = C then b.getD i 0 else oO i (j - (C + 1)))
theorem dimK {R C : Nat} {F : Nat → Nat → Rat} : oV (vE R C F) R C := ⟨by simp [vE], fun i hi => by simp [vE, rowAt, List.getD, hi]⟩
def aHQ (R C : Nat) (f : Nat → Nat → Rat) (pv : List Nat) : Prop := ∀ i ∈ List.range R, pv.length ≤ i → f i C = 0
instance (R C : Nat) (f : Nat → Nat → Rat) (pv : List Nat) : Decidable (aHQ R C f pv) := by unfold aHQ; exact inferInstance
theorem tN {R C : Nat} {f : Nat → Nat → Rat} {pv : List Nat} : aHQ R C f pv ↔ aQA R C f pv := ⟨fun h i h1 h2 => h i (List.mem_range.2 h2) h1, fun h i h1 h2 => h i h2 (List.mem_range.1 h1)⟩
def wD (R C : Nat) (A : Mt) (b : List Rat) : Prop := aHQ R C (at2 (iH (zS R C A b) C).1) (iH (zS R C A b) C).2
instance (R C : Nat) (A : Mt) (b : List Rat) : Decidable (wD R C A b) := by unfold wD; exact inferInstance
def solL (R C : Nat) (A : Mt) (b : List Rat) : List Rat := (List.range C).map (aFO (at2 (iH (zS R C A b) C).1) (iH (zS R C A b) C).2 C)
theorem aOM {R C : Nat} {A : Mt} {b : List Rat} {i j : Nat} (hi : i < R) (hj : j < C) : at2 (zS R C A b) i j = at2 A i j := by unfold zS; rw [nU hi (by omega), if_pos hj]
theorem aPT {R C : Nat} {A : Mt} {b : List Rat} {i : Nat} (hi : i < R) : at2 (zS R C A b) i C = b.getD i 0 := by unfold zS; rw [nU hi (by omega), if_neg (by omega)]
theorem aFT {R C : Nat} {A : Mt} {b : List Rat} : wD R C A b ↔ ∃ x : Nat → Rat, ∀ i, i < R → sm C (fun j => at2 A i j * x j) = b.getD i 0 := by
 obtain ⟨_, s, hr⟩ := iC (A := zS R C A b) (R := R) (C := C + 1) dimK C (by omega)
 unfold wD
 rw [tN, hr.sol_iff (by omega)]
 constructor
 ·rintro ⟨x, hx⟩; exact ⟨x, fun i hi => by rw [← aPT (A := A) (C := C) hi, ← hx i hi]; exact bJ (fun j hj => by rw [aOM hi hj])⟩
 ·rintro ⟨x, hx⟩; exact ⟨x, fun i hi => by rw [aPT hi, ← hx i hi]; exact bJ (fun j hj => by rw [aOM hi hj])⟩
/- the wider matrix tells the same -/
theorem aOW {R C : Nat} {A : Mt} {b : List Rat} : aHQ R C (at2 (iH (aFE R C A b) C).1) (iH (aFE R C A b) C).2 ↔ wD R C A b := by
 obtain ⟨_, s, hr⟩ := iC (A := aFE R C A b) (R := R) (C := C + 1 + R) dimK C (by omega)
 rw [tN, hr.sol_iff (by omega), aFT]
 have h1 : ∀ i j, i < R → j < C → at2 (aFE R C A b) i j = at2 A i j := fun i j hi hj => by unfold aFE; rw [nU hi (by omega), if_pos hj]
 have h2 : ∀ i, i < R → at2 (aFE R C A b) i C = b.getD i 0 := fun i hi => by unfold aFE; rw [nU hi (by omega), if_neg (by omega), if_pos rfl]
 constructor
 ·rintro ⟨x, hx⟩; exact ⟨x, fun i hi => by rw [← h2 i hi, ← hx i hi]; exact bJ (fun j hj => by rw [h1 i j hi hj])⟩
 ·rintro ⟨x, hx⟩; exact ⟨x, fun i hi => by rw [h2 i hi, ← hx i hi]; exact bJ (fun j hj => by rw [h1 i j hi hj])⟩
theorem aON {rows : List RL} {R p i : Nat} (hR : rows.length = R) (h : p + i < R) : gt ((rows.take R).drop p) (i : Int) = gt rows ((p + i : Nat) : Int) := by
 rw [dY (by simp; omega), dY (by omega)]
 simp
section
variable {X : List Nat} {w0 : World} {M0 : List Ent} {I0 : List bA}
theorem aHU {x : RL} {p k i : Nat} {j : Int} (hi : i < x.es.length) (hx : jP x k ∈ I0) (fx : aT (some ⟨p, 0, none⟩) [.slice x.p x.es.length x.c] ∈ I0) :
  CD Tryz.prog 200 [.int .i64 (i : Int), .int .i64 j, pb p] X w0 M0 I0 (RQ (x.q.getD i 0) k M0 I0) := by
 have e0 : x.q.getD i 0 = (gt x.es (i : Int)).q := kS hi
 rw [e0]
 refine bQ (φ := aT (x).p (recs eR (x).es)) (Hv.lsl aB) ?_
 refine mE Tryz.func200 rfl Tryz.ntmps200 rfl ?_
 refine aJ ?_
 refine aI ?_
 (refine aN rfl rfl ?_; intro br; refine ⟨okF, ?_⟩)
 repeat (refine aK ?_)
 refine fM (φ := eQ (gt x.es (i : Int)) k) (Hv.lel aB (by omega)) ?_
 refine bG (cs := eR (gt x.es (i : Int))) (.inl rfl) rfl rfl aB rfl M0 (eQ (gt x.es (i : Int)) k :: I0) aC aD ⟨rfl, _, rfl, rfl, rfl⟩
theorem aDO {x : RL} {n k : Nat} (hn : n ≤ 100) (hl : x.es.length = n) (hx : jP x k ∈ I0) : CD Tryz.prog 164 [lv x] X w0 M0 I0 (XQ (vE n 1 (fun i _ => x.q.getD i 0)) n 1 k M0 I0) := by
 refine bE Tryz.func164 rfl Tryz.ntmps164 rfl ?_
 refine aJ ?_
 refine aI ?_
 (refine nG rfl rfl rfl ?_; intro p1; refine ⟨okF, ?_⟩)
 repeat (refine aK ?_)
 have hg := fun M I (hI : ∀ φ ∈ aT (some ⟨p1, 0, none⟩) [.slice x.p x.es.length x.c] :: I0, φ ∈ I) (i j : Nat) (hi : i < x.es.length) (hj : j < 1) => aHU (X := X) (w0 := w0) (M0 := M) (I0 := I) (x := x) (p := p1) (k := k) (i := i) (j := (j : Int)) hi (hI _ aB) (hI _ aB)
 (refine aA rfl (aAR (R := x.es.length) (C := 1) (g := 200) (fs := #[]) (cs := #[pb p1]) (k0 := k) (by omega) (by omega) (fun i _ => x.q.getD i 0) hg) rfl rfl ?_; rintro _ _ _ ⟨rfl, y, rfl, hy, hd, rfl⟩; refine ⟨okF, ?_⟩)
 rw [hl] at hy hd
 repeat (refine aK ?_)
 refine aH (by first | exact .inl rfl | exact .inr rfl) rfl rfl _ _ aC aD (⟨rfl, y, rfl, hy, hd, rfl⟩)
theorem aMW {m : WM} {p : Nat} (hb : aT (some ⟨p, 0, none⟩) [.slice m.p m.rows.length m.c] ∈ I0) :
  CD Tryz.prog 162 [pb p] X w0 M0 I0 (fun v M I => M0 = M ∧ I0 = I ∧ v = .int .i64 (m.rows.length : Int)) := by
 refine bE Tryz.func162 rfl Tryz.ntmps162 rfl ?_
 repeat (refine aK ?_)
 refine aH (by first | exact .inl rfl | exact .inr rfl) rfl rfl _ _ aC aD (⟨rfl, rfl, rfl⟩)
theorem aQI {a : MX} {b : RL} {R C k0 : Nat} (hb : kb k0 C ≤ 20000000000) (hC : C ≤ 60) (da : a.fit R C) (hl : b.es.length = R) (ha : gD a k0 ∈ I0) (hbb : jP b k0 ∈ I0) :
  CD Tryz.prog 117 [mv a, lv b] X w0 M0 I0 (fun v M I => if wD R C a.q b.q then LQc (solL R C a.q b.q) (kb k0 C) M0 I0 v M I else (M0 = M ∧ I0 = I ∧ v = .tuple #[.slice none 0 0, .int .i64 6])) := by
 have hk0 : k0 ≤ 20000000000 := Nat.le_trans (nH k0 (Nat.zero_le C)) hb
 obtain ⟨r1, r2⟩ := da.2.1
 obtain ⟨c1, c2⟩ := da.2.2
 refine kM (fun w hw => Mem.xsml ha da (by omega) hw) (fun sa => kM (fun w hw => Mem.lsml hbb (by omega) (by omega) hw) (fun sx => ?_))
 have hC0 := fun p M0 I0 h1 h2 h3 => aEI (X := X) (w0 := w0) (M0 := M0) (I0 := I0) (a := a.raw) (x := b.raw) (n := R) (g := 162) (fs := #[]) (cs := #[pb p]) sa sx h1 h2 (fun _ => by have := aMW (X := X) (w0 := w0) (M0 := M0) (I0 := I0) (m := a.raw) (p := p) h3; rw [MX.raw_rows, da.1.1] at this; exact this)
 have e0 : zM a.raw b.raw R = 0 := by
  unfold zM
  rw [if_pos da.ok, if_pos b.raw_good, if_pos (by show (b.es.map RE.raw).length = R; rw [List.length_map]; exact hl)]
 rw [e0, aBX, xX] at hC0
 have lR := da.1.1
 have lC := da.r0
 refine bQ (φ := oZ a.raw) (Hv.xraw ha (by omega)) ?_
 refine bQ (φ := iW b.raw) (Hv.lraw (List.Mem.tail _ hbb) (by omega)) ?_
 refine bQ (φ := aT (a).p (recs eL (a).rows)) (Hv.xsl aB) ?_
 refine bD Tryz.func117 rfl Tryz.ntmps117 rfl ?_
 refine aJ ?_
 refine aI ?_
 (refine nG rfl rfl rfl ?_; intro p1; refine ⟨okF, ?_⟩)
 repeat (refine aK ?_)
 refine iA (φ := aT (some ⟨p1, 0, none⟩) [.slice a.raw.p a.raw.rows.length a.raw.c]) (by rw [MX.raw_rows]; exact Hv.mem aB) ?_
 (refine aA rfl (hC0 p1 _ _ aB aB aB) rfl rfl ?_; rintro _ _ _ ⟨rfl, rfl, rfl⟩; refine ⟨okF, ?_⟩)
 refine aPF (M' := M0) (I' := aT (some ⟨p1, 0, none⟩) [.slice a.p a.rows.length a.c] :: aT a.p (recs eL a.rows) :: I0) SubP.refl aD ?_
 repeat (refine aK ?_)
 rw [lC]
 (repeat refine aJ ?_); refine dJ [0, 1, 2, 3, 4] [1, 1, 0, 0, 0] mixed (by kernel_rfl) ?_
 repeat (refine aK ?_)
 (refine aA rfl (aDO (n := R) (by omega) hl aB) rfl rfl ?_; rintro _ _ _ ⟨rfl, y, rfl, hy, hyd, rfl⟩; refine ⟨okF, ?_⟩)
 (refine aA rfl (yH da (b := y) (D := 1) ⟨hyd, ⟨r1, r2⟩, by omega, by omega⟩ aB aB) rfl rfl ?_; rintro _ _ _ ⟨bo, rows0, rfl, hl0, hc0, hq0, rfl, rfl⟩; refine ⟨OkD.any (SubP.drop (qA SubP.refl)) aD, ?_⟩)
 repeat (refine aK ?_)
 have hB : mq rows0 = zS R C a.q b.q := by
  unfold zS
  refine Eq.trans hq0 ?_
  refine uW (R := R) (C := C + 1) (fun i j hi hj => ?_)
  by_cases e : j < C
  ·rw [if_pos e, if_pos e]
  ·rw [if_neg e, if_neg e, hy, nU hi (by omega)]
 have hRd := fun I0 h => vO (X := X) (w0 := w0) (M0 := .blk bo (recs eM rows0) 34 :: (rows0.map gF ++ M0)) (I0 := I0) (bo := bo) (R := R) (C := C + 1) (n := C) (k0 := k0) (rows := rows0) (M1 := M0) hl0 (by omega) (by omega) hc0 (by omega) (by omega) h rfl
 (refine aA rfl (hRd _ aB) rfl rfl ?_; rintro _ _ _ ⟨rfl, m, pv, q, c, rfl, mp, mc, md, hred, hpv, rfl⟩; refine ⟨okF, ?_⟩)
 rw [hB] at hred
 have hS : wD R C a.q b.q ↔ aHQ R C (at2 m.q) pv := by unfold wD; rw [hred]
 have hL : solL R C a.q b.q = (List.range C).map (aFO (at2 m.q) pv C) := by unfold solL; rw [hred]
 obtain ⟨_, s, hr⟩ := iC (A := zS R C a.q b.q) (R := R) (C := C + 1) dimK C (by omega)
 rw [hred] at hr
 have hpi : ∀ r : Nat, r < pv.length → pv.getD r 0 < C := fun r h => hr.piv_lt h
 have hidx : ∀ r : Nat, r < pv.length → pv.idxOf (pv.getD r 0) = r := fun r h => hr.idx h
 clear hr hred hB hRd
 have mR := md.1
 have hz : (zs pv).length = pv.length := by simp
 generalize hK : kb k0 C = K at *
 refine iA (φ := aT (some ⟨bo, 0, none⟩) (recs eL m.rows)) (by rw [← mp]; exact Hv.xsl aB) ?_
 repeat (refine aK ?_)
 (refine aG rfl (fun _ => pQ (e := 34) (sz := 1) pv.length R (R - pv.length) rfl (.inr ⟨_, _, _, rfl, rfl, rfl⟩) (.inl ⟨rfl, rfl⟩) (by omega) (by omega) rfl) rfl rfl ?_)
 refine aEC R pv.length R (enc := eL) (ms := m.rows) aB (by omega) ?_
 have hcl : ((m.rows.take R).drop pv.length).length = R - pv.length := by simp; omega
 generalize hcr : (m.rows.take R).drop pv.length = cr at *
 have hcg : ∀ i : Nat, pv.length + i < R → gt cr (i : Int) = gt m.rows ((pv.length + i : Nat) : Int) := fun i hi => by rw [← hcr]; exact aON mR hi
 generalize hca : tC (some ⟨bo, 0, none⟩) R pv.length 1 = ca at *
 repeat (refine aK ?_)
 refine aS [7, 8, 9, 37, 38] rfl (fun k G M I => ∃ i : Nat, i ≤ R - pv.length ∧ k = R - pv.length - i ∧ (∀ t : Nat, pv.length ≤ t → t < pv.length + i → at2 m.q t C = 0) ∧ G = [(39, .int .i64 i)] ∧ M0 = M ∧ I = aT ca (recs eL cr) :: aT (some ⟨bo, 0, none⟩) (recs eL m.rows) :: pvI q pv :: gD m K :: I0) (R - pv.length) _ _ _ aO aC aD (⟨0, by omega, rfl, fun t h1 h2 => by omega, rfl, rfl, rfl⟩) ?_
 rintro kk G M I ⟨i, hi, rfl, hz0, rfl, rfl, rfl⟩
 by_cases hiR : i < R - pv.length
 ·have hg := hcg i (by omega)
  have hmr := md.row (i := pv.length + i) (by omega)
  have hat := nK (m := m) (i := pv.length + i) (j := C) (by omega) (by omega)
  have hlc : (gt cr (i : Int)).es.length = C + 1 := by rw [hg]; exact hmr
  refine bL (φ := aT (gt cr (i : Int)).p (recs eR (gt cr (i : Int)).es)) (by rw [hg]; exact Hv.xrsl aB (by omega)) ?_
  refine bL (φ := eQ (gt (gt cr (i : Int)).es (C : Int)) K) (by rw [hg]; exact Hv.xel aB (by omega) (by omega)) ?_
  have hSg := fun M0 I0 h => lZ (X := X) (w0 := w0) (M0 := M0) (I0 := I0) (e := gt (gt cr (i : Int)).es (C : Int)) (k := K) (by omega) h
  rw [← hg] at hat
  by_cases h0 : (gt (gt cr (i : Int)).es (C : Int)).q = 0
  ·rw [(mP _).2 h0] at hSg
   repeat (refine aK ?_)
   (refine aA rfl (hSg _ _ (Hv.mem aB)) rfl rfl ?_; rintro _ _ _ ⟨rfl, rfl, rfl⟩; refine ⟨okF, ?_⟩)
   repeat (refine aK ?_)
   refine aM (R - pv.length - (i + 1)) _ _ _ (by first | omega | (simp only [List.length_append, List.length_cons, List.length_nil]; omega)) aO aC aD (⟨i + 1, by omega, rfl, fun t h1 h2 => ?_, rfl, rfl, rfl⟩)
   by_cases e : t = pv.length + i
   ·rw [e, hat]; exact h0
   ·exact hz0 t h1 (by omega)
  ·have hs1 : ¬ (gt (gt cr (i : Int)).es (C : Int)).q.num.sign = 0 := fun h => h0 ((mP _).1 h)
   generalize (gt (gt cr (i : Int)).es (C : Int)).q.num.sign = sg1 at *
   have hno : ¬ wD R C a.q b.q := fun h => h0 (by rw [← hat]; exact tN.1 (hS.1 h) _ (by omega) (by omega))
   simp only [if_neg hno]
   repeat (refine aK ?_)
   (refine aA rfl (hSg _ _ (Hv.mem aB)) rfl rfl ?_; rintro _ _ _ ⟨rfl, rfl, rfl⟩; refine ⟨okF, ?_⟩)
   repeat (refine aK ?_)
   refine dZ [4, 5] (by first | exact .inl rfl | exact .inr rfl) rfl rfl rfl _ _ aC aD (⟨rfl, rfl, rfl⟩)
 ·obtain rfl : i = R - pv.length := by omega
  have hyes : wD R C a.q b.q := hS.2 (tN.2 (fun t h1 h2 => hz0 t h1 (by omega)))
  simp only [if_pos hyes]
  have hW := fun M0 I0 => lX (X := X) (w0 := w0) (M0 := M0) (I0 := I0) (x := 0) (by decide) (k := 0) (by decide)
  repeat (refine aK ?_)
  (refine jM (C) rfl rfl (by omega) (by omega) (by omega) (by omega) (pK (enc := e4) (by decide) z4 C) rfl rfl ?_; intro bi; refine ⟨okF, ?_⟩)
  repeat (refine aK ?_)
  refine bL (φ := cK [] K) Hv.nilR ?_
  refine aS [7, 8, 9, 12, 53] rfl (fun k G M I => ∃ (x : Nat) (es : List RE), x ≤ C ∧ k = C - x ∧ es.length = x ∧ (∀ t : Nat, t < x → (gt es (t : Int)).q = 0) ∧ G = [(54, .int .i64 x)] ∧ M = .blk bi (recs e4 (es.map t4 ++ List.replicate (C - x) z4)) 42 :: M0 ∧ I = cK es K :: aT (some ⟨bo, 0, none⟩) (recs eL m.rows) :: pvI q pv :: gD m K :: I0) (C) _ _ _ aO aC aD (⟨0, [], by omega, by omega, rfl, fun t ht => by omega, rfl, rfl, rfl⟩) ?_
  rintro kk G M I ⟨x, es, hx, rfl, hel, heq, rfl, rfl, rfl⟩
  by_cases hxC : x < C
  ·have hz2 := pJ (n := C - x) (z := z4) (by omega)
   have hl2 : ((es.map t4 ++ z4 :: List.replicate (C - x - 1) z4).length : Int) = C := by simp; omega
   rw [hz2]
   repeat (refine aK ?_)
   (refine aA rfl (hW _ _) rfl rfl ?_; rintro _ _ _ ⟨rfl, e, rfl, he, rfl⟩; refine ⟨okF, ?_⟩)
   repeat (refine yXh ?_)
   refine fH (vs := eR e) rfl rfl rfl (Ones.one e) kU (StAts.r (t4 e) (by omega) rfl) rfl rfl ⟨okF, ?_⟩
   rw [vQ (by simp; omega)]
   repeat (refine aK ?_)
   refine fM (φ := eQ e K) (Hv.q (k := 0) aB (by omega)) ?_
   refine fM (φ := cK (es ++ [e]) K) (Hv.snoc aB aB) ?_
   have e9 : es.map t4 ++ t4 e :: List.replicate (C - x - 1) z4 = (es ++ [e]).map t4 ++ List.replicate (C - (x + 1)) z4 := by simp [Nat.sub_sub]
   rw [e9]
   refine aM (C - (x + 1)) _ _ _ (by first | omega | (simp only [List.length_append, List.length_cons, List.length_nil]; omega)) aO aC aD (⟨x + 1, es ++ [e], by omega, rfl, by simp; omega, fun t ht => ?_, rfl, rfl, rfl⟩)
   by_cases e1 : t < x
   ·have : gt (es ++ [e]) (t : Int) = gt es (t : Int) := by rw [dY (by simp; omega), dY (by omega), List.getElem_append_left (by omega)]
    rw [this]; exact heq t e1
   ·have : gt (es ++ [e]) (t : Int) = e := tT (A := es) (B := []) (by omega)
    rw [this, he]; rfl
  ·obtain rfl : x = C := by omega
   rw [Nat.sub_self, List.replicate_zero, List.append_nil, wM]
   repeat (refine aK ?_)
   refine aS [7, 8, 12, 62, 63] rfl (fun k G M I => ∃ (r : Nat) (es2 : List RE), r ≤ pv.length ∧ k = pv.length - r ∧ es2.length = x ∧ (∀ t : Nat, t < x → (gt es2 (t : Int)).q = if t ∈ pv ∧ pv.idxOf t < r then at2 m.q (pv.idxOf t) x else 0) ∧ G = [(64, .int .i64 r)] ∧ M = .blk bi (recs eR es2) 42 :: M0 ∧ I = cK es2 K :: aT (some ⟨bo, 0, none⟩) (recs eL m.rows) :: pvI q pv :: gD m K :: I0) (pv.length) _ _ _ aO aC aD (⟨0, es, by omega, by omega, hel, fun t ht => by rw [if_neg (by omega)]; exact heq t ht, rfl, rfl, rfl⟩) ?_
   rintro kk G M I ⟨r, es2, hr2, rfl, hel2, heq2, rfl, rfl, rfl⟩
   by_cases hrp : r < pv.length
   ·have hgz := aPH hrp
    have hpr := hpi r hrp
    have hmr := md.row (i := r) (by omega)
    have hat := nK (m := m) (i := r) (j := x) (by omega) (by omega)
    refine bL (φ := aT (gt (m).rows (r : Int)).p (recs eR (gt (m).rows (r : Int)).es)) (Hv.xrsl aB (by omega)) ?_
    repeat (refine aK ?_)
    rw [hgz]
    repeat (refine aK ?_)
    refine fM (φ := eQ (gt (gt m.rows (r : Int)).es (x : Int)) K) (Hv.xel aB (by omega) (by omega)) ?_
    refine fM (φ := cK (st es2 ((pv.getD r 0 : Nat) : Int) (gt (gt m.rows (r : Int)).es (x : Int))) K) (Hv.stR aB aB) ?_
    refine aM (pv.length - (r + 1)) _ _ _ (by first | omega | (simp only [List.length_append, List.length_cons, List.length_nil]; omega)) aO aC aD (⟨r + 1, st es2 ((pv.getD r 0 : Nat) : Int) (gt (gt m.rows (r : Int)).es (x : Int)), by omega, rfl, by rw [dH]; exact hel2, fun t ht => ?_, rfl, rfl, rfl⟩)
    rw [sI (by omega)]
    by_cases e1 : t = pv.getD r 0
    ·subst e1
     rw [if_pos rfl, if_pos ⟨kK.2 ⟨r, hrp, rfl⟩, by rw [hidx r hrp]; omega⟩, hidx r hrp, hat]
    ·rw [if_neg e1, heq2 t ht]
     by_cases e2 : t ∈ pv
     ·have e3 : pv.idxOf t ≠ r := fun e => e1 (by rw [← e]; exact (Red.idx_lt e2).2.symm)
      by_cases e4 : pv.idxOf t < r
      ·rw [if_pos ⟨e2, e4⟩, if_pos ⟨e2, by omega⟩]
      ·rw [if_neg (show ¬ (t ∈ pv ∧ pv.idxOf t < r) from fun h => e4 h.2), if_neg (show ¬ (t ∈ pv ∧ pv.idxOf t < r + 1) from fun h => by have := h.2; omega)]
     ·rw [if_neg (show ¬ (t ∈ pv ∧ pv.idxOf t < r) from fun h => e2 h.1), if_neg (show ¬ (t ∈ pv ∧ pv.idxOf t < r + 1) from fun h => e2 h.1)]
   ·obtain rfl : r = pv.length := by omega
    repeat (refine aK ?_)
    refine aKJ (k := K) aB ?_
    refine dZ [4, 5] (by first | exact .inl rfl | exact .inr rfl) rfl rfl rfl _ _ aC aD (⟨rfl, ⟨some ⟨bi, 0, none⟩, es2.length, es2⟩, by show _ = Value.tuple #[.slice (some ⟨bi, 0, none⟩) es2.length es2.length, .int .i64 0]; rw [hel2], ?_, rfl⟩)
    rw [hL]
    apply rT
    ·simp [hel2]
    ·intro t ht
     have ht' : t < x := by simpa [hel2] using ht
     show (qs es2).getD t 0 = _
     rw [kS (by omega), heq2 t ht']
     have : ((List.range x).map (aFO (at2 m.q) pv x)).getD t 0 = aFO (at2 m.q) pv x t := by simp [List.getD, ht']
     rw [this]
     unfold aFO
     by_cases e2 : t ∈ pv
     ·rw [if_pos ⟨e2, (Red.idx_lt e2).1⟩, if_pos e2]
     ·rw [if_neg (fun h => e2 h.1), if_neg e2]
end
end Go.Proofs.YtgeagiikkeiioaaGreat
namespace Go.Fx
section
variable {P : Program} {n : Nat} {ops : List Oper} {Q : Exit → Act → World → Prop} {m : Mode} {G : Env} {w : World} {ty : TypeId} {pos : String} {af : Array Edge} {g : Option (Nat × Bool)} {l : List Oper} {X : List Nat} {w0 : World} {M M' : List Ent} {I : List bA}
end
end Go.Fx
namespace Go.Proofs.YtgeagiikkeiioaaGreat
open Go Go.Fx
section
variable {X : List Nat} {w0 : World} {M0 : List Ent} {I0 : List bA}
def catQ (ls : List RL) : List Rat := ls.flatMap RL.q
def shpC (m : WM) (x : WL) : Int := if x.good ∧ ∀ r ∈ m.rows, r.good then (if m.rows.length = 3 ∧ ∀ r ∈ m.rows, r.es.length = 4 then 0 else 4) else 1
end
end Go.Proofs.YtgeagiikkeiioaaGreat
namespace Go.Proofs.YtgeagiikkeiioaaGreat
open Go Go.Fx
structure CE where
 a : RE
 b : PE
instance : Inhabited CE := ⟨⟨default, default⟩⟩
abbrev eC (c : CE) : List Value := [.bool (B (c.a.q.num < 0)), .slice c.a.p1 (gr c.a.q.num.natAbs).length c.a.c1, .bool (B ((c.a.q.den : Int) < 0)), .slice c.a.p2 (gr (c.a.q.den : Int).natAbs).length c.a.c2, .bool (B (c.b.x.q.num < 0)), .slice c.b.x.p1 (gr c.b.x.q.num.natAbs).length c.b.x.c1, .bool (B ((c.b.x.q.den : Int) < 0)), .slice c.b.x.p2 (gr (c.b.x.q.den : Int).natAbs).length c.b.x.c2, .bool (B (c.b.y.q.num < 0)), .slice c.b.y.p1 (gr c.b.y.q.num.natAbs).length c.b.y.c1, .bool (B ((c.b.y.q.den : Int) < 0)), .slice c.b.y.p2 (gr (c.b.y.q.den : Int).natAbs).length c.b.y.c2]
instance : Sized eC 12 := ⟨fun _ => rfl⟩
abbrev cv (c : CE) : Value := .agg (eC c).toArray
section
variable {X : List Nat} {w0 : World} {M0 : List Ent} {I0 : List bA}
end
end Go.Proofs.YtgeagiikkeiioaaGreat
namespace Go.Proofs.YtgeagiikkeiioaaGreat
open Go Go.Fx
abbrev zP : Value := .agg #[.bool false, .slice none 0 0, .bool false, .slice none 0 0, .bool false, .slice none 0 0, .bool false, .slice none 0 0]
abbrev zPc : List Value := [.bool false, .slice none 0 0, .bool false, .slice none 0 0, .bool false, .slice none 0 0, .bool false, .slice none 0 0]
section
variable {X : List Nat} {w0 : World} {M0 : List Ent} {I0 : List bA}
end
end Go.Proofs.YtgeagiikkeiioaaGreat
namespace Go.Proofs.YtgeagiikkeiioaaGreat
open Go Go.Fx
abbrev zRc : List Value := [.bool false, .slice none 0 0, .bool false, .slice none 0 0]
section
variable {X : List Nat} {w0 : World} {M0 : List Ent} {I0 : List bA}
end
end Go.Proofs.YtgeagiikkeiioaaGreat
namespace Go.Proofs.YtgeagiikkeiioaaGreat
open Go Go.Fx
def prV (A : Mt) (a b c : Rat) (i : Nat) : Rat := sm 4 (fun t => at2 A i t * [a, b, c, 1].getD t 0)
section
variable {X : List Nat} {w0 : World} {M0 : List Ent} {I0 : List bA}
end
end Go.Proofs.YtgeagiikkeiioaaGreat
namespace Go.Fx
section
variable {P : Program} {ops : Array Oper} {Q : Exit → Act → World → Prop} {Cs Cs' : Nat → World → Prop}
end
section
variable {P : Program} {n : Nat} {Q : Exit → Act → World → Prop} {G : Env} {X : List Nat} {w0 : World} {M M1 M2 : List Ent} {I I1 I2 : List bA} {l : List Oper}
end
section
variable {P : Program} {n : Nat} {ops l : List Oper} {Q : Exit → Act → World → Prop} {m : Mode} {G : Env} {ty : TypeId} {pos : String} {af : Array Edge} {g : Option (Nat × Bool)} {X : List Nat} {w0 : World} {M M' : List Ent} {I : List bA}
/- a store into a row that may still grow -/
end
section
variable {P : Program} {n : Nat} {ops l : List Oper} {Q Q' Q1 Q2 : Exit → Act → World → Prop} {m : Mode} {G : Env} {X : List Nat} {w0 : World} {M M' : List Ent} {I : List bA}
/- a cut from within a region that a test follows -/
end
end Go.Fx
namespace Go.Proofs.YtgeagiikkeiioaaGreat
open Go Go.Fx
abbrev zT3 : List Value := [.bool false, .slice none 0 0, .bool false, .slice none 0 0, .bool false, .slice none 0 0, .bool false, .slice none 0 0, .bool false, .slice none 0 0, .bool false, .slice none 0 0]
def ctrOk (N : Mt) : Prop := N.length = 1 ∧ at2 N 0 3 ≠ 0
instance ctrOk.dec (N : Mt) : Decidable (ctrOk N) := by unfold ctrOk; exact inferInstance
section
variable {X : List Nat} {w0 : World} {M0 : List Ent} {I0 : List bA}
end
end Go.Proofs.YtgeagiikkeiioaaGreat
namespace Go.Proofs.YtgeagiikkeiioaaGreat
open Go Go.Fx
def plD (p0 p1 p2 : V2) (s0 s1 s2 : Rat) : Rat := (cnB (p0.sub p1) s0 s1).crs (cnB (p2.sub p1) s2 s1)
def plZ (p0 p1 p2 : V2) (s0 s1 s2 : Rat) : V2 := mtZ (cnA s0 s1) (cnA s2 s1) (cnB (p0.sub p1) s0 s1) (cnB (p2.sub p1) s2 s1)
def plC (p0 p1 p2 : V2) (s0 s1 s2 : Rat) : V2 := mtC (cnA s0 s1) (cnA s2 s1) (cnB (p0.sub p1) s0 s1) (cnB (p2.sub p1) s2 s1)
def plA (p0 p1 p2 : V2) (s0 s1 s2 : Rat) : V2 := p1.add (plC p0 p1 p2 s0 s1 s2)
def plF (p0 p1 p2 : V2) (s0 s1 s2 : Rat) : V2 := ((plC p0 p1 p2 s0 s1 s2).scl (-1)).sub ((((plC p0 p1 p2 s0 s1 s2).scl (-1)).sd).scl s1)
structure AllP (ps : List PE) (k : Nat) (X : List Nat) (w : World) : Prop where
 go : ∀ p ∈ ps, IsP p k X w
abbrev allP (ps : List PE) (k : Nat) : bA := AllP ps k
instance (ps : List PE) (k : Nat) : Fx.Good (AllP ps k) := ⟨fun X Y w w' h he hY => ⟨fun r hm => Fx.Good.go (φ := IsP _ _) X Y w w' (h.go r hm) he hY⟩⟩
section
variable {X : List Nat} {w0 : World} {M0 : List Ent} {I0 : List bA}
end
end Go.Proofs.YtgeagiikkeiioaaGreat
namespace Go.Proofs.YtgeagiikkeiioaaGreat
open Go Go.Fx
section
variable {X : List Nat} {w0 : World} {M0 : List Ent} {I0 : List bA}
end
end Go.Proofs.YtgeagiikkeiioaaGreat
namespace Go.Fx
open Go.ChangeShapes Go.WideShapes Go.RowKit Go.ChangeAt
section
variable {H : Type} {enc : TypeId × Value → H} {P : Program} {W : World}
theorem aFG {sz : Nat} : ∀ (rows : List (List Value)) (k : Nat) (v : Value), (∀ r ∈ rows, r.length = sz) → rows.flatten[k]? = some v → ∃ i row, rows[i]? = some row ∧ i * sz ≤ k ∧ row[k - i * sz]? = some v
 | [], k, v, _, h => by simp at h
 | r :: rows, k, v, hr, h => by
  rw [List.flatten_cons] at h
  have hl := hr r (by simp)
  by_cases hk : k < r.length
  ·rw [List.getElem?_append_left hk] at h
   exact ⟨0, r, by simp, by omega, by simpa using h⟩
  ·rw [List.getElem?_append_right (by omega)] at h
   obtain ⟨i, row, h1, h2, h3⟩ := aFG rows _ v (fun r' hr' => hr r' (by simp [hr'])) h
   refine ⟨i + 1, row, by simpa using h1, by rw [Nat.add_mul]; omega, ?_⟩
   rw [← h3]
   congr 1
   rw [Nat.add_mul]; omega
theorem aRQ {t : TypeId} {k : IntKind} {n : Nat} {cs : List Value} {y : DataW H × List MemPlace} (ht : P.underlying t = some (.int k)) (h : DataW.trod enc P W 0 (fun _ => true) true n t cs = some y) : ∃ x : Int, cs = [.int k x] ∧ (Lit.int k x).wf = true := by
 obtain ⟨m, h1, _, h2⟩ := DataW.trod_int ht h
 exact ⟨m, h1, h2⟩
end
end Go.Fx
namespace Go.Proofs.YtgeagiikkeiioaaGreat
open Go Go.Fx
open Go.ChangeShapes Go.WideShapes Go.RowKit Go.ChangeAt
def RW.reach (r : RW) : Prop := r.g1.length ≤ 35184372088832 ∧ r.g2.length ≤ 35184372088832
section
variable {H : Type} {enc : TypeId × Value → H} {P : Program} {W : World}
end
end Go.Proofs.YtgeagiikkeiioaaGreat
namespace Go.Proofs.YtgeagiikkeiioaaGreat
open Go Go.Fx
section
variable {X : List Nat} {w0 : World} {M0 : List Ent} {I0 : List bA}
theorem aIB {r : RW} (h : r.reach) : CD Tryz.prog 83 [wv r] X w0 M0 I0 (fun v M I => M0 = M ∧ I0 = I ∧ v = .int .i64 (r.g1.length + r.g2.length)) := by
 obtain ⟨h1, h2⟩ := h
 refine bE Tryz.func83 rfl Tryz.ntmps83 rfl ?_
 refine aJ ?_
 refine aI ?_
 (refine aP rfl rfl rfl ?_; intro b1; refine ⟨okF, ?_⟩)
 repeat (refine aK ?_)
 refine aH (by first | exact .inl rfl | exact .inr rfl) rfl rfl _ _ aC aD (⟨rfl, rfl, rfl⟩)
end
end Go.Proofs.YtgeagiikkeiioaaGreat
namespace Go.Proofs.YtgeagiikkeiioaaGreat
open Go Go.Fx
def PW.reach (p : PW) : Prop := p.x.reach ∧ p.y.reach
def PW.dig (p : PW) : Nat := p.x.g1.length + p.x.g2.length + (p.y.g1.length + p.y.g2.length)
section
variable {X : List Nat} {w0 : World} {M0 : List Ent} {I0 : List bA}
end
end Go.Proofs.YtgeagiikkeiioaaGreat
namespace Go.Proofs.YtgeagiikkeiioaaGreat
open Go Go.Fx
def dstep (A : Mt) (j x : Nat) : Mt := (swp A j x).mapIdx (fun i row => if i ≤ j then row else if row.getD j 0 = 0 then row else oF j (row.getD j 0 / at2 (swp A j x) j j) (rowAt (swp A j x) j) row)
def blkF (A : Mt) (j : Nat) : Nat → Nat → Rat := fun i k => at2 A (i + j) (k + j)
end Go.Proofs.YtgeagiikkeiioaaGreat
namespace Go.Proofs.YtgeagiikkeiioaaGreat
open Go Go.Fx
/- regions that draw: some reads see all up to a first effect, others what stays up to a second one -/
section
variable {P : Program} {n : Nat} {Q : Exit → Act → World → Prop} {G : Env} {X : List Nat} {w0 : World} {M M' M1 Ms : List Ent} {I I' I1 Is : List bA}
def CsL (J1 J2 : Nat) (X : List Nat) (w0 : World) (M : List Ent) (I : List bA) (Ms : List Ent) (Is : List bA) : Nat → World → Prop := fun s w => (s ≤ J1 → Mem X w0 M I w) ∧ (s ≤ J2 → Mem X w0 Ms Is w)
end
section
variable {X : List Nat} {w0 : World} {M0 : List Ent} {I0 : List bA}
abbrev zRm : List Value := [.bool false, .slice none 0 0, .bool false, .slice none 0 0]
end
end Go.Proofs.YtgeagiikkeiioaaGreat
namespace Go.Proofs.YtgeagiikkeiioaaGreat
open Go Go.Fx
/- ---------- IndexFunc, ContainsFunc of []fiducial/api.Rat ---------- -/
section
variable {X : List Nat} {w0 : World} {M0 : List Ent} {I0 : List bA}
end
def vJ (l : List Rat) : Prop := ∀ x ∈ l, x = 0
instance (l : List Rat) : Decidable (vJ l) := inferInstanceAs (Decidable (∀ x ∈ l, x = 0))
def symM (A : Mt) (n : Nat) : Prop := ∀ i, i < n → ∀ j, j < i → at2 A i j = at2 A j i
instance (A : Mt) (n : Nat) : Decidable (symM A n) := inferInstanceAs (Decidable (∀ i, i < n → ∀ j, j < i → at2 A i j = at2 A j i))
def symC (A : Mt) (n : Nat) : Int := if symM A n then 0 else 11
section
variable {X : List Nat} {w0 : World} {M0 : List Ent} {I0 : List bA}
end
end Go.Proofs.YtgeagiikkeiioaaGreat

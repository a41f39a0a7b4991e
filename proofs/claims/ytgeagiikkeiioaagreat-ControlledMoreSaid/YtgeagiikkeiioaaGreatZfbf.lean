/- matrix: Refute (what it returns is a list; that is all that is asked of it). What the laws of matrices share. Models of numbers: few; the program's one, zero, canonical, combined, prove, Controlled. -/
import Derived.Test.YtgeagiikkeiioaaGreatZfbc
import Derived.Test.YtgeagiikkeiioaaGreatZfav
import Derived.Test.YtgeagiikkeiioaaGreatZfbe
set_option linter.unusedSimpArgs false
set_option linter.unusedVariables false
set_option maxRecDepth 100000
set_option maxHeartbeats 4000000
namespace Go.Proofs.YtgeagiikkeiioaaGreat
open Go Go.Fx
theorem Hv.cutR {I : List bA} {m : MX} {K : Nat} {i : Int} {lo : Nat} (h : jC m K ∈ I) (hi : 0 ≤ i ∧ i < m.rows.length) (hlo : lo ≤ (gt m.rows i).es.length) : Hv I (aX (uF (gt m.rows i).p (gt m.rows i).c lo 4) (recs eR ((gt m.rows i).es.drop lo))) := ⟨fun X w hw => by
 have hr := (hw _ h : IsX m K X w).row _ (eQ hi)
 have hc := hr.cap.1
 refine ⟨?_⟩
 have := hr.sl.cut (gt m.rows i).c lo ((gt m.rows i).es.length * 4) 4 (by rw [jA]; exact Nat.mul_le_mul_right _ hc)
 rw [List.take_of_length_le (by rw [jA]; exact Nat.le_refl _)] at this
 rw [wU]; exact this⟩
section
variable {X : List Nat} {w0 : World} {M0 : List Ent} {I0 : List bA}
theorem aGM {a b : MX} {R C D k : Nat} (da : a.fit R C) (db : b.fit R D) (ha : jC a k ∈ I0) (hb : jC b k ∈ I0) : CD Tryz.prog 163 [mv a, mv b] X w0 M0 I0 (XQ (yF R (C + D) (fun i j => if j < C then at2 a.q i j else at2 b.q i (j - C))) R (C + D) k M0 I0) := mkXQ (wQ da db ha hb)
theorem aGE {m : WM} {p : Nat} (hb : aX (some ⟨p, 0, none⟩) [.slice m.p m.rows.length m.c] ∈ I0) :
  CD Tryz.prog 194 [pb p] X w0 M0 I0 (fun v M I => M0 = M ∧ I0 = I ∧ v = .int .i64 (m.rows.length : Int)) := by
 refine bF Tryz.func194 rfl Tryz.ntmps194 rfl ?_
 repeat (refine aJ ?_)
 refine aH (by first | exact .inl rfl | exact .inr rfl) rfl rfl _ _ aG aD (⟨rfl, rfl, rfl⟩)
theorem aIY {a : MX} {b : RL} {R C k0 : Nat} (hb : 2 * kb k0 C ≤ 20000000000) (hC : C ≤ 30) (hR30 : R ≤ 64) (da : a.fit R C) (hl : b.es.length = R) (ha : jC a k0 ∈ I0) (hbb : kZ b k0 ∈ I0) (hno : ¬ uH R C a.q b.q) :
  CD Tryz.prog 152 [mv a, lv b] X w0 M0 I0 (fun v M I => M0 = M ∧ ∃ r : RL, v = .tuple #[lv r, .int .i64 0] ∧ I = kZ r (kb k0 C + kb k0 C) :: I0) := by
 have hk0 : k0 ≤ kb k0 C := pG k0 (Nat.zero_le C)
 obtain ⟨r1, r2⟩ := da.2.1
 obtain ⟨c1, c2⟩ := da.2.2
 refine jT (fun w hw => Mem.xsml ha da (by omega) hw) (fun sa => jT (fun w hw => Mem.lsml hbb (by omega) (by omega) hw) (fun sx => ?_))
 have hC0 := fun p M0 I0 h1 h2 h3 => aCS (X := X) (w0 := w0) (M0 := M0) (I0 := I0) (a := a.raw) (x := b.raw) (n := R) (g := 194) (fs := #[]) (cs := #[pb p]) sa sx h1 h2 (fun _ => by have := aGE (X := X) (w0 := w0) (M0 := M0) (I0 := I0) (m := a.raw) (p := p) h3; rw [MX.raw_rows, da.1.1] at this; exact this)
 have e0 : xN a.raw b.raw R = 0 := by
  unfold xN
  rw [if_pos da.ok, if_pos b.raw_good, if_pos (by show (b.es.map RE.raw).length = R; rw [List.length_map]; exact hl)]
 rw [e0, zK, rA] at hC0
 have lR := da.1.1
 have lC := da.r0
 refine cB (φ := nN a.raw) (Hv.xraw ha (by omega)) ?_
 refine cB (φ := gQ b.raw) (Hv.lraw (List.Mem.tail _ hbb) (by omega)) ?_
 refine cB (φ := aX (a).p (recs eL (a).rows)) (Hv.xsl aB) ?_
 refine bH Tryz.func152 rfl Tryz.ntmps152 rfl ?_
 refine aL ?_
 refine aI ?_
 (refine lW rfl rfl rfl ?_; intro p1; refine ⟨okF, ?_⟩)
 repeat (refine aJ ?_)
 refine cK (φ := aX (some ⟨p1, 0, none⟩) [.slice a.raw.p a.raw.rows.length a.raw.c]) (by rw [MX.raw_rows]; exact Hv.mem aB) ?_
 (refine aA rfl (hC0 p1 _ _ aB aB aB) rfl rfl ?_; rintro _ _ _ ⟨rfl, rfl, rfl⟩; refine ⟨okF, ?_⟩)
 refine aMQ (M' := M0) (I' := aX (some ⟨p1, 0, none⟩) [.slice a.p a.rows.length a.c] :: aX a.p (recs eL a.rows) :: I0) SubP.refl aD ?_
 repeat (refine aJ ?_)
 (repeat refine aL ?_); refine eF [0, 1, 2, 3, 4, 5, 6, 7] [0, 0, 0, 0, 0, 0, 0, 0] mixed (by kernel_rfl) ?_
 repeat (refine aJ ?_)
 rw [lC, show ((a.rows.length : Nat) : Int) = (R : Int) by rw [lR]]
 (repeat refine aL ?_); refine eF [0, 1, 4, 5, 2, 3, 6, 7, 8] [3, 3, 3, 3, 0, 0, 0, 0, 0] mixed (by kernel_rfl) ?_
 repeat (refine aJ ?_)
 (refine aA rfl (aBG (n := R) (by omega) hl aB) rfl rfl ?_; rintro _ _ _ ⟨rfl, y, rfl, hy, hyd, rfl⟩; refine ⟨okF, ?_⟩)
 (refine aA rfl (aGM da (b := y) (D := 1) ⟨hyd, ⟨r1, r2⟩, by omega, by omega⟩ aB aB) rfl rfl ?_; rintro _ _ _ ⟨rfl, ab, rfl, hab, habd, rfl⟩; refine ⟨okF, ?_⟩)
 (refine aA rfl (yO (R := R) (C := R) (g := 135) (fs := #[]) (cs := #[]) (k0 := 0) (by omega) (by omega) tY (fun M I _ i j hi hj => by have := aIA (X := X) (w0 := w0) (M0 := M) (I0 := I) (i := (i : Int)) (j := (j : Int)); rw [← aOT] at this; exact this)) rfl rfl ?_; rintro _ _ _ ⟨rfl, u, rfl, hu, hud, rfl⟩; refine ⟨okF, ?_⟩)
 refine cK (φ := jC u k0) (Hv.xm (k := 0) aB (Nat.zero_le _)) ?_
 (refine aA rfl (wQ (a := ab) (b := u) (R := R) (C := C + 1) (D := R) ⟨habd, ⟨r1, r2⟩, by omega, by omega⟩ ⟨hud, ⟨r1, r2⟩, r1, r2⟩ aB aB) rfl rfl ?_; rintro _ _ _ ⟨bo, rows0, rfl, hl0, hc0, hq0, rfl, rfl⟩; refine ⟨OkD.any (SubP.drop (oF SubP.refl)) aD, ?_⟩)
 repeat (refine aJ ?_)
 have hB : mq rows0 = aCJ R C a.q b.q := by
  unfold aCJ
  refine Eq.trans hq0 ?_
  refine aCD (R := R) (C := C + 1 + R) (fun i j hi hj => ?_)
  by_cases e : j < C
  ·rw [if_pos (by omega), if_pos e, hab, qX hi (by omega), if_pos e]
  ·rw [if_neg e]
   by_cases e1 : j = C
   ·rw [if_pos (by omega), if_pos e1, hab, qX hi (by omega), if_neg e, hy, qX hi (by omega)]
   ·rw [if_neg (by omega), if_neg e1, hu, qX hi (by omega)]
 have hRd := fun I0 h => uW (X := X) (w0 := w0) (M0 := .blk bo (recs eM rows0) 34 :: (rows0.map fM ++ M0)) (I0 := I0) (bo := bo) (R := R) (C := C + 1 + R) (n := C) (k0 := k0) (rows := rows0) (M1 := M0) hl0 (by omega) (by omega) hc0 (by omega) (by omega) h rfl
 (refine aA rfl (hRd _ aB) rfl rfl ?_; rintro _ _ _ ⟨rfl, m, pv, q, c, rfl, mp, mc, md, hred, hpv, rfl⟩; refine ⟨okF, ?_⟩)
 rw [hB] at hred
 have hS : ¬ aFU R C (at2 m.q) pv := by have := aMO (R := R) (C := C) (A := a.q) (b := b.q); rw [hred] at this; exact fun h => hno (this.1 h)
 clear hred hB hRd hC0
 have mR := md.1
 have hz : (zs pv).length = pv.length := by simp
 generalize hK : kb k0 C = K at *
 refine cK (φ := aX (some ⟨bo, 0, none⟩) (recs eL m.rows)) (by rw [← mp]; exact Hv.xsl aB) ?_
 repeat (refine aJ ?_)
 (refine aF rfl (fun _ => pO (e := 34) (sz := 1) pv.length R (R - pv.length) rfl (.inr ⟨_, _, _, rfl, rfl, rfl⟩) (.inl ⟨rfl, rfl⟩) (by omega) (by omega) rfl) rfl rfl ?_)
 refine aCM R pv.length R (enc := eL) (ms := m.rows) aB (by omega) ?_
 have hcl : ((m.rows.take R).drop pv.length).length = R - pv.length := by simp; omega
 generalize hcr : (m.rows.take R).drop pv.length = cr at *
 have hcg : ∀ i : Nat, pv.length + i < R → gt cr (i : Int) = gt m.rows ((pv.length + i : Nat) : Int) := fun i hi => by rw [← hcr]; exact aNJ mR hi
 generalize hca : uF (some ⟨bo, 0, none⟩) R pv.length 1 = ca at *
 repeat (refine aJ ?_)
 refine aW [7, 43, 44] rfl (fun k G M I => ∃ i : Nat, i ≤ R - pv.length ∧ k = R - pv.length - i ∧ (∀ t : Nat, pv.length ≤ t → t < pv.length + i → at2 m.q t C = 0) ∧ G = [(45, .int .i64 i)] ∧ M0 = M ∧ I = aX ca (recs eL cr) :: aX (some ⟨bo, 0, none⟩) (recs eL m.rows) :: pvI q pv :: jC m K :: I0) (R - pv.length) _ _ _ aP aG aD (⟨0, by omega, rfl, fun t h1 h2 => by omega, rfl, rfl, rfl⟩) ?_
 rintro kk G M I ⟨i, hi, rfl, hz0, rfl, rfl, rfl⟩
 by_cases hiR : i < R - pv.length
 ·have hg := hcg i (by omega)
  have hmr := md.row (i := pv.length + i) (by omega)
  have hat := wB (m := m) (i := pv.length + i) (j := C) (by omega) (by omega)
  have hlc : (gt cr (i : Int)).es.length = C + 1 + R := by rw [hg]; exact hmr
  refine fP (φ := aX (gt cr (i : Int)).p (recs eR (gt cr (i : Int)).es)) (by rw [hg]; exact Hv.xrsl aB (by omega)) ?_
  refine fP (φ := iI (gt (gt cr (i : Int)).es (C : Int)) K) (by rw [hg]; exact Hv.xel aB (by omega) (by omega)) ?_
  have hSg := fun M0 I0 h => lF (X := X) (w0 := w0) (M0 := M0) (I0 := I0) (e := gt (gt cr (i : Int)).es (C : Int)) (k := K) (by omega) h
  rw [← hg] at hat
  by_cases h0 : (gt (gt cr (i : Int)).es (C : Int)).q = 0
  ·rw [(nP _).2 h0] at hSg
   repeat (refine aJ ?_)
   (refine aA rfl (hSg _ _ (Hv.mem aB)) rfl rfl ?_; rintro _ _ _ ⟨rfl, rfl, rfl⟩; refine ⟨okF, ?_⟩)
   repeat (refine aJ ?_)
   refine aN (R - pv.length - (i + 1)) _ _ _ (by first | omega | (simp only [List.length_append, List.length_cons, List.length_nil]; omega)) aP aG aD (⟨i + 1, by omega, rfl, fun t h1 h2 => ?_, rfl, rfl, rfl⟩)
   by_cases e : t = pv.length + i
   ·rw [e, hat]; exact h0
   ·exact hz0 t h1 (by omega)
  ·have hs1 : ¬ (gt (gt cr (i : Int)).es (C : Int)).q.num.sign = 0 := fun h => h0 ((nP _).1 h)
   generalize (gt (gt cr (i : Int)).es (C : Int)).q.num.sign = sg1 at *
   refine fP (φ := jC m K) (Hv.mem aB) ?_
   refine vK (fun w hw => (((hw.imm _ (List.Mem.head _)).2 : IsX m K _ w).row _ (eQ (i := ((pv.length + i : Nat) : Int)) (by omega))).cap.1) (fun hcap => ?_)
   rw [← hg] at hcap
   have hqt := fun M0 I0 (x : RE) h1 h2 => xR (X := X) (w0 := w0) (M0 := M0) (I0 := I0) (a := x) (b := gt (gt cr (i : Int)).es (C : Int)) (k := K) (m := K) (by omega) h0 h1 h2
   refine fP (φ := aX (uF (gt cr (i : Int)).p (gt cr (i : Int)).c (C + 1) 4) (recs eR ((gt cr (i : Int)).es.drop (C + 1)))) (by rw [hg]; exact Hv.cutR (List.Mem.head _) (by omega) (by omega)) ?_
   repeat (refine aJ ?_)
   (refine aA rfl (hSg _ _ (Hv.mem aB)) rfl rfl ?_; rintro _ _ _ ⟨rfl, rfl, rfl⟩; refine ⟨okF, ?_⟩)
   repeat (refine aJ ?_)
   have hdl : ((gt cr (i : Int)).es.drop (C + 1)).length = R := by simp; omega
   have hdg : ∀ t : Nat, t < R → gt ((gt cr (i : Int)).es.drop (C + 1)) (t : Int) = gt (gt cr (i : Int)).es ((C + 1 + t : Nat) : Int) := fun t ht => by
    rw [eY (by omega), List.getElem_drop]; exact (eY (by omega)).symm
   have eC : (C : Int) + 1 = ((C + 1 : Nat) : Int) := by omega
   rw [eC]
   refine uU (fun _ hw => hw.row0 42 4) ?_
   refine cK (φ := bT [] (K + K)) Hv.nilR ?_
   repeat (refine aJ ?_)
   (refine aF rfl (fun _ => pO (e := 42) (sz := 4) (C + 1) (gt cr (i : Int)).es.length R rfl (.inr ⟨_, _, _, rfl, rfl, rfl⟩) (.inl ⟨rfl, rfl⟩) (by omega) (by omega) (by omega)) rfl rfl ?_)
   generalize hxa : uF (gt cr (i : Int)).p (gt cr (i : Int)).c (C + 1) 4 = xa at *
   generalize hdr : (gt cr (i : Int)).es.drop (C + 1) = dr at *
   repeat (refine aJ ?_)
   refine aW [7, 12, 58, 59] rfl (fun k G M I => ∃ (t : Nat) (es : List RE) (q2 : Option Addr) (cc : Nat), t ≤ R ∧ k = R - t ∧ es.length = t ∧ G = [(13, .slice q2 es.length cc), (60, .int .i64 t)] ∧ M = .row q2 es.length cc (recs eR es) 42 4 :: M0 ∧ I = bT es (K + K) :: aX xa (recs eR dr) :: iI (gt (gt cr (i : Int)).es (C : Int)) K :: aX (gt cr (i : Int)).p (recs eR (gt cr (i : Int)).es) :: jC m K :: I0) (R) _ _ _ aP aG aD (⟨0, [], none, 0, by omega, rfl, rfl, rfl, rfl, rfl⟩) ?_
   rintro kk G M I ⟨t, es, q2, cc, ht, rfl, hel, rfl, rfl, rfl⟩
   by_cases htR : t < R
   ·have hge := hdg t htR
    refine fP (φ := iI (gt dr (t : Int)) K) (by rw [hge, hg]; exact Hv.xel (List.Mem.tail _ (List.Mem.tail _ (List.Mem.tail _ (List.Mem.tail _ (List.Mem.head _))))) (by omega) (by rw [← hg]; omega)) ?_
    repeat (refine aJ ?_)
    (refine aO rfl rfl ?_; intro b15; refine ⟨okF, ?_⟩)
    repeat (refine aJ ?_)
    (repeat refine aL ?_); refine jI (.blk b15 (eR (gt dr (t : Int))) 42 :: M0) (iI (gt dr (t : Int)) K :: bT es (K + K) :: aX xa (recs eR dr) :: iI (gt (gt cr (i : Int)).es (C : Int)) K :: aX (gt cr (i : Int)).p (recs eR (gt cr (i : Int)).es) :: jC m K :: I0) [0, 1, 2, 3, 4, 5, 6, 7, 8, 9] [2, 2, 3, 3, 3, 2, 0, 0, 0, 0] aG aD mixed (by kernel_rfl) ?_
    repeat (refine aJ ?_)
    (refine aA rfl (hqt _ _ (gt dr (t : Int)) (Hv.mem aB) (Hv.mem aB)) rfl rfl ?_; rintro _ _ _ ⟨rfl, e, rfl, he, rfl⟩; refine ⟨okF, ?_⟩)
    (refine aK (cs := recs eR [e]) ([rv e]) rfl rfl (by intro v hv; repeat (first | exact absurd hv (List.not_mem_nil) | (rcases List.mem_cons.1 hv with rfl | hv; · rfl))) (by omega) rfl rfl rfl ?_; intro b; refine ⟨okF, ?_⟩)
    (refine aM (ys := [e]) 2 rfl rfl rfl ?_ (by decide) rfl (by omega) (by omega) rfl rfl ?_; (· first | exact Src.blk aB | exact Src.row aB | exact Src.imm aB (by first | assumption | exact .inl (Ok.mk _ _))); intro q3 c3; refine ⟨okF, ?_⟩)
    repeat (refine aJ ?_)
    refine dV (φ := bT (es ++ [e]) (K + K)) (Hv.snoc aB aB) ?_
    refine aN (R - (t + 1)) _ _ _ (by first | omega | (simp only [List.length_append, List.length_cons, List.length_nil]; omega)) aP aG aD (⟨t + 1, es ++ [e], q3, c3, by omega, rfl, by simp; omega, rfl, rfl, rfl⟩)
   ·obtain rfl : t = R := by omega
    repeat (refine aJ ?_)
    refine aGT (k := K + K) aB ?_
    refine fC [4, 5] (by first | exact .inl rfl | exact .inr rfl) rfl rfl rfl _ _ aG aD (⟨rfl, ⟨q2, cc, es⟩, rfl, rfl⟩)
 ·obtain rfl : i = R - pv.length := by omega
  exact absurd (rW.2 (fun t h1 h2 => hz0 t h1 (by omega))) hS
end
end Go.Proofs.YtgeagiikkeiioaaGreat
namespace Go.Proofs.YtgeagiikkeiioaaGreat
open Go Go.Fx
theorem aQY {a : WM} (hf : ∀ r ∈ a.rows, ∀ e ∈ r.es, e.Fit) (h : a.ok) : ∃ A : MX, a = A.raw ∧ A.fit a.rows.length (gt a.rows 0).es.length := by
 obtain ⟨A, rfl⟩ := WM.good_raw hf (fun r hr => (h.2 r hr).2)
 refine ⟨A, rfl, ?_⟩
 obtain ⟨h1, h2, h3, h4, h5⟩ := aQW h
 have e : (gt A.raw.rows 0).es.length = (gt A.rows 0).es.length := by
  rw [show A.raw.rows = A.rows.map RL.raw from rfl, aCK (by omega)]
  show ((gt A.rows 0).es.map RE.raw).length = _
  rw [List.length_map]
 rw [A.raw_rows, e]
 exact ⟨h1, ⟨h2, h3⟩, h4, h5⟩
theorem Mem.fitL {X : List Nat} {w0 w : World} {M : List Ent} {I : List bA} {a : WL} (h : gQ a ∈ I) (hw : Mem X w0 M I w) : ∀ e ∈ a.es, e.Fit := fun e he => (((hw.imm _ h).2 : IsWL a _ w).el e he).fit
theorem wV {x : WL} (hf : ∀ e ∈ x.es, e.Fit) (h : x.good) : ∃ A : RL, x = A.raw ∧ A.es.length = x.es.length := by
 obtain ⟨A, rfl⟩ := WL.good_raw hf h
 exact ⟨A, rfl, by show A.es.length = (A.es.map RE.raw).length; rw [List.length_map]⟩
end Go.Proofs.YtgeagiikkeiioaaGreat
namespace Go.Proofs.YtgeagiikkeiioaaGreat
open Go Go.Fx
theorem aEY {q : Rat} : 0 < q.num ↔ 0 < q := by
 have h1 : 0 ≤ q.num ↔ 0 ≤ q := Rat.num_nonneg
 have h2 : q.num = 0 ↔ q = 0 := Rat.num_eq_zero
 constructor
 ·intro h
  have a := h1.1 (by omega)
  have b : q ≠ 0 := fun e => by have := h2.2 e; omega
  grind
 ·intro h
  have a := h1.2 (by grind)
  have b : q.num ≠ 0 := fun e => by have := h2.1 e; grind
  omega
def LW.few (m : LW) (R C : Nat) : Prop := (m.a.rows.length ≤ R ∧ m.l.shN R 6 ∧ m.p.shN R 6) ∧ ∀ r ∈ m.a.rows, r.shN C 6
instance LW.decFew (m : LW) (R C : Nat) : Decidable (m.few R C) := by unfold LW.few; exact inferInstance
structure LE where
 a : MX
 l : RL
 p : RL
abbrev vLE (m : LE) : Value := .agg #[mv m.a, lv m.l, lv m.p]
def LE.raw (m : LE) : LW := ⟨m.a.raw, m.l.raw, m.p.raw⟩
theorem yC (m : LE) : vLW m.raw = vLE m := by
 show Value.agg #[mvW m.a.raw, rR m.l.raw, rR m.p.raw] = _
 rw [zK, rA, rA]
structure IsLE (m : LE) (k : Nat) (X : List Nat) (w : World) : Prop where
 a : IsX m.a k X w
 l : IsL m.l k X w
 p : IsL m.p k X w
abbrev iC (m : LE) (k : Nat) : bA := IsLE m k
instance LE.gd (m : LE) (k : Nat) : Fx.Good (IsLE m k) := ⟨fun X Y w w' h he hY => ⟨Fx.Good.go (φ := IsX _ _) X Y w w' h.a he hY, Fx.Good.go (φ := IsL _ _) X Y w w' h.l he hY, Fx.Good.go (φ := IsL _ _) X Y w w' h.p he hY⟩⟩
theorem Hv.lea {I : List bA} {m : LE} {k : Nat} (h : iC m k ∈ I) : Hv I (jC m.a k) := ⟨fun X w hw => (hw _ h : IsLE m k X w).a⟩
theorem Hv.lel' {I : List bA} {m : LE} {k : Nat} (h : iC m k ∈ I) : Hv I (kZ m.l k) := ⟨fun X w hw => (hw _ h : IsLE m k X w).l⟩
theorem Hv.lep {I : List bA} {m : LE} {k : Nat} (h : iC m k ∈ I) : Hv I (kZ m.p k) := ⟨fun X w hw => (hw _ h : IsLE m k X w).p⟩
theorem Hv.leraw {I : List bA} {m : LE} {k : Nat} (h : iC m k ∈ I) (hk : k ≤ 20000000000) : Hv I (qY m.raw) := ⟨fun X w hw => by
 have := (hw _ h : IsLE m k X w)
 exact ⟨IsX.raw (by omega) this.a, IsL.raw (by omega) this.l, IsL.raw (by omega) this.p⟩⟩
structure LE.fit (m : LE) (R C : Nat) : Prop where
 d : m.a.fit R C
 c : C ≤ 24
 l : m.l.es.length = R
 p : m.p.es.length = R
 pos : ∀ e ∈ m.p.es, 0 < e.q
theorem LE.fit.code {m : LE} {R C : Nat} (h : m.fit R C) : m.raw.code = 0 := by
 have hok := h.d.ok
 have hR : m.a.raw.rows.length = R := by rw [MX.raw_rows]; exact h.d.1.1
 have hC : (gt m.a.raw.rows 0).es.length = C := MX.raw_c0 h.d
 refine LW.code_0 ⟨fun r hr => (hok.2 r hr).2, RL.raw_good _, RL.raw_good _⟩ ⟨⟨hok.1.1, hok.1.2.1⟩, hok.1.2.2.1, ?_⟩ ⟨fun r hr => (hok.2 r hr).1, ?_, ?_⟩ (fun e he => ?_)
 ·show (gt m.a.raw.rows 0).es.length ≤ 24; have := h.c; omega
 ·show (m.l.es.map RE.raw).length = m.a.raw.rows.length; rw [List.length_map, h.l, hR]
 ·show (m.p.es.map RE.raw).length = m.a.raw.rows.length; rw [List.length_map, h.p, hR]
 ·obtain ⟨x, hx, rfl⟩ := List.mem_map.1 (show e ∈ m.p.es.map RE.raw from he)
  have e1 : zI x.raw.n1 x.raw.g1 = x.q.num := rH _
  unfold RW.posi
  rw [e1]
  exact aEY.2 (h.pos x hx)
theorem LW.num {m : LW} (hf : (∀ r ∈ m.a.rows, ∀ e ∈ r.es, e.Fit) ∧ (∀ e ∈ m.l.es, e.Fit) ∧ ∀ e ∈ m.p.es, e.Fit) (h : m.code = 0) : ∃ (n : LE) (R C : Nat), m = n.raw ∧ n.fit R C ∧ R = m.a.rows.length ∧ C = (gt m.a.rows 0).es.length := by
 obtain ⟨⟨g1, g2, g3⟩, ⟨⟨r1, r2⟩, c1, c2⟩, ⟨h1, h2, h3⟩, hp⟩ := LW.code_ok h
 obtain ⟨a, l, p⟩ := m
 simp only at *
 obtain ⟨A, rfl, hA⟩ := aQY hf.1 ⟨⟨r1, r2, c1, by omega⟩, fun r hr => ⟨h1 r hr, g1 r hr⟩⟩
 obtain ⟨L, rfl, hL⟩ := wV hf.2.1 g2
 obtain ⟨P, rfl, hP⟩ := wV hf.2.2 g3
 refine ⟨⟨A, L, P⟩, _, _, rfl, ⟨hA, c2, by rw [hL]; exact h2, by rw [hP]; exact h3, fun e he => ?_⟩, rfl, rfl⟩
 have := hp e.raw (List.mem_map.2 ⟨e, he, rfl⟩)
 have e1 : zI e.raw.n1 e.raw.g1 = e.q.num := rH _
 unfold RW.posi at this
 rw [e1] at this
 exact aEY.1 this
theorem Mem.fitLW {X : List Nat} {w0 w : World} {M : List Ent} {I : List bA} {m : LW} (h : qY m ∈ I) (hw : Mem X w0 M I w) : (∀ r ∈ m.a.rows, ∀ e ∈ r.es, e.Fit) ∧ (∀ e ∈ m.l.es, e.Fit) ∧ ∀ e ∈ m.p.es, e.Fit := by
 have := ((hw.imm _ h).2 : IsLW m _ w)
 exact ⟨fun r hr e he => ((this.a.row r hr).el e he).fit, fun e he => (this.l.el e he).fit, fun e he => (this.p.el e he).fit⟩
theorem LW.few.sml {m : LW} {R C : Nat} (hR : R ≤ 1000 ∧ C ≤ 1000) (h : m.few R C) : m.sml := by
 obtain ⟨⟨h1, h2, h3⟩, h4⟩ := h
 exact ⟨⟨by omega, fun r hr => ⟨by have := (h4 r hr).1; omega, fun e he => (((h4 r hr).2 e he).2 (by omega)).sml⟩⟩, ⟨by have := h2.1; omega, fun e he => ((h2.2 e he).2 (by omega)).sml⟩, ⟨by have := h3.1; omega, fun e he => ((h3.2 e he).2 (by omega)).sml⟩⟩
theorem Hv.few {I : List bA} {m : LE} {R C : Nat} (hf : m.raw.few R C) (h : qY m.raw ∈ I) : Hv I (iC m 30) := ⟨fun X w hw => by
 have hh := (hw _ h : IsLW m.raw X w)
 obtain ⟨⟨h1, h2, h3⟩, h4⟩ := hf
 have lst : ∀ {r : RL} {n : Nat}, r.raw.shN n 6 → IsWL r.raw X w → IsL r 30 X w := fun {r n} h0 hi => ⟨by have := hi.sl; rw [show r.raw.es = r.es.map RE.raw from rfl, yX] at this; exact this, fun e he => aJI ((h0.2 e.raw (List.mem_map.2 ⟨e, he, rfl⟩)).2 (by omega)) (hi.el e.raw (List.mem_map.2 ⟨e, he, rfl⟩)), by have := hi.cap; rw [show r.raw.es.length = r.es.length from by show (r.es.map RE.raw).length = _; rw [List.length_map]] at this; exact this⟩
 refine ⟨⟨by have := hh.a.sl; rw [show m.raw.a.rows = m.a.rows.map RL.raw from rfl, aAV] at this; exact this, fun r hr => lst (h4 r.raw (List.mem_map.2 ⟨r, hr, rfl⟩)) (hh.a.row r.raw (List.mem_map.2 ⟨r, hr, rfl⟩)), by have := hh.a.cap; rw [show m.raw.a.rows.length = m.a.rows.length from MX.raw_rows _] at this; exact this⟩, lst h2 hh.l, lst h3 hh.p⟩⟩
section
variable {X : List Nat} {w0 : World} {M0 : List Ent} {I0 : List bA}
theorem aQG {m : LW} {R C : Nat} (hn : R ≤ 1000000 ∧ C ≤ 1000000) (hR : m.rch) (hm : qY m ∈ I0) : CD Tryz.prog 92 [vLW m, .int .i64 (R : Int), .int .i64 (C : Int)] X w0 M0 I0 (fun v M I => M0 = M ∧ I0 = I ∧ v = .bool (B (m.few R C))) := by
 obtain ⟨ra, rl, rp⟩ := hR
 have hla := ra.1
 refine cB (φ := nN m.a) (Hv.lwa hm) ?_
 refine cB (φ := gQ m.l) (Hv.lwl (List.Mem.tail _ hm)) ?_
 refine cB (φ := gQ m.p) (Hv.lwp (List.Mem.tail _ (List.Mem.tail _ hm))) ?_
 refine cB (φ := aX m.a.p (recs uT m.a.rows)) (Hv.wmsl aB) ?_
 have hSl := fun M0 I0 h => sF (X := X) (w0 := w0) (M0 := M0) (I0 := I0) (r := m.l) (n := R) (g := 6) ⟨hn.1, by omega⟩ rl h
 have hSp := fun M0 I0 h => sF (X := X) (w0 := w0) (M0 := M0) (I0 := I0) (r := m.p) (n := R) (g := 6) ⟨hn.1, by omega⟩ rp h
 refine lI Tryz.func92 rfl Tryz.ntmps92 rfl ?_
 refine aL ?_
 refine aI ?_
 (refine aZ rfl rfl rfl ?_; intro b1; refine ⟨okF, ?_⟩)
 refine aC .here ?_
 by_cases e1 : m.a.rows.length ≤ R
 ·by_cases e2 : m.l.shN R 6
  ·rw [bO e2] at hSl
   by_cases e3 : m.p.shN R 6
   ·rw [bO e3] at hSp
    repeat (refine aJ ?_)
    (refine aA rfl (hSl _ _ aB) rfl rfl ?_; rintro _ _ _ ⟨rfl, rfl, rfl⟩; refine ⟨okF, ?_⟩)
    repeat (refine aJ ?_)
    (refine aA rfl (hSp _ _ aB) rfl rfl ?_; rintro _ _ _ ⟨rfl, rfl, rfl⟩; refine ⟨okF, ?_⟩)
    repeat (refine aJ ?_)
    refine aW [2, 29, 30] rfl (fun k G M I => ∃ i : Nat, i ≤ m.a.rows.length ∧ k = m.a.rows.length - i ∧ (∀ j : Nat, j < i → (gt m.a.rows (j : Int)).shN C 6) ∧ G = [(31, .int .i64 i)] ∧ M0 = M ∧ I = aX (some ⟨b1, 0, none⟩) [mvW m.a, rR m.l, rR m.p] :: aX m.a.p (recs uT m.a.rows) :: gQ m.p :: gQ m.l :: nN m.a :: I0) (m.a.rows.length) _ _ _ aP aG aD (⟨0, by omega, rfl, fun j hj => by omega, rfl, rfl, rfl⟩) ?_
    rintro kk G M I ⟨i, hi, rfl, hg, rfl, rfl, rfl⟩
    by_cases hin : i < m.a.rows.length
    ·have hS := fun M0 I0 h => sF (X := X) (w0 := w0) (M0 := M0) (I0 := I0) (r := gt m.a.rows (i : Int)) (n := C) (g := 6) ⟨hn.2, by omega⟩ (jZ ra.2 hin) h
     refine fP (φ := gQ (gt m.a.rows (i : Int))) (Hv.wmrow aB (by omega)) ?_
     by_cases e : (gt m.a.rows (i : Int)).shN C 6
     ·rw [bO e] at hS
      repeat (refine aJ ?_)
      (refine aA rfl (hS _ _ aB) rfl rfl ?_; rintro _ _ _ ⟨rfl, rfl, rfl⟩; refine ⟨okF, ?_⟩)
      repeat (refine aJ ?_)
      refine aN (m.a.rows.length - (i + 1)) _ _ _ (by first | omega | (simp only [List.length_append, List.length_cons, List.length_nil]; omega)) aP aG aD (⟨i + 1, by omega, rfl, nM hg e, rfl, rfl, rfl⟩)
     ·rw [aY e] at hS
      repeat (refine aJ ?_)
      (refine aA rfl (hS _ _ aB) rfl rfl ?_; rintro _ _ _ ⟨rfl, rfl, rfl⟩; refine ⟨okF, ?_⟩)
      repeat (refine aJ ?_)
      refine aH (by first | exact .inl rfl | exact .inr rfl) rfl rfl _ _ aG aD (⟨rfl, rfl, congrArg Value.bool (aY (fun h => e (jZ h.2 hin))).symm⟩)
    ·repeat (refine aJ ?_)
     refine aH (by first | exact .inl rfl | exact .inr rfl) rfl rfl _ _ aG aD (⟨rfl, rfl, congrArg Value.bool (bO ⟨⟨e1, e2, e3⟩, oK hg (by omega)⟩).symm⟩)
   ·rw [aY e3] at hSp
    repeat (refine aJ ?_)
    (refine aA rfl (hSl _ _ aB) rfl rfl ?_; rintro _ _ _ ⟨rfl, rfl, rfl⟩; refine ⟨okF, ?_⟩)
    repeat (refine aJ ?_)
    (refine aA rfl (hSp _ _ aB) rfl rfl ?_; rintro _ _ _ ⟨rfl, rfl, rfl⟩; refine ⟨okF, ?_⟩)
    repeat (refine aJ ?_)
    refine aH (by first | exact .inl rfl | exact .inr rfl) rfl rfl _ _ aG aD (⟨rfl, rfl, congrArg Value.bool (aY (fun h => e3 h.1.2.2)).symm⟩)
  ·rw [aY e2] at hSl
   repeat (refine aJ ?_)
   (refine aA rfl (hSl _ _ aB) rfl rfl ?_; rintro _ _ _ ⟨rfl, rfl, rfl⟩; refine ⟨okF, ?_⟩)
   repeat (refine aJ ?_)
   refine aH (by first | exact .inl rfl | exact .inr rfl) rfl rfl _ _ aG aD (⟨rfl, rfl, congrArg Value.bool (aY (fun h => e2 h.1.2.1)).symm⟩)
 ·repeat (refine aJ ?_)
  refine aH (by first | exact .inl rfl | exact .inr rfl) rfl rfl _ _ aG aD (⟨rfl, rfl, congrArg Value.bool (aY (fun h => e1 h.1.1)).symm⟩)
theorem aFG {m : LW} (hR : m.rch) (hm : qY m ∈ I0) : CD Tryz.prog 38 [vLW m] X w0 M0 I0 (fun v M I => M0 = M ∧ I0 = I ∧ v = .bool (B (m.few 7 5))) := by
 have hF := fun M0 I0 h => aQG (X := X) (w0 := w0) (M0 := M0) (I0 := I0) (m := m) (R := 7) (C := 5) ⟨by omega, by omega⟩ hR h
 refine bF Tryz.func38 rfl Tryz.ntmps38 rfl ?_
 refine aL ?_
 refine aI ?_
 (refine aZ rfl rfl rfl ?_; intro b1; refine ⟨okF, ?_⟩)
 refine aC .here ?_
 repeat (refine aJ ?_)
 (refine aA rfl (hF _ _ aB) rfl rfl ?_; rintro _ _ _ ⟨rfl, rfl, rfl⟩; refine ⟨okF, ?_⟩)
 repeat (refine aJ ?_)
 refine aH (by first | exact .inl rfl | exact .inr rfl) rfl rfl _ _ aG aD (⟨rfl, rfl, rfl⟩)
theorem vF {m : LW} (hs : m.sml) (hm : qY m ∈ I0) : CD Tryz.prog 39 [vLW m] X w0 M0 I0 (fun v M I => M0 = M ∧ I0 = I ∧ v = .int .i64 m.code) := by
 have hF := fun M0 I0 h => aFC (X := X) (w0 := w0) (M0 := M0) (I0 := I0) (m := m) hs h
 refine bF Tryz.func39 rfl Tryz.ntmps39 rfl ?_
 refine aL ?_
 refine aI ?_
 (refine aZ rfl rfl rfl ?_; intro b1; refine ⟨okF, ?_⟩)
 refine aC .here ?_
 repeat (refine aJ ?_)
 (refine aA rfl (hF _ _ aB) rfl rfl ?_; rintro _ _ _ ⟨rfl, rfl, rfl⟩; refine ⟨okF, ?_⟩)
 repeat (refine aJ ?_)
 refine aH (by first | exact .inl rfl | exact .inr rfl) rfl rfl _ _ aG aD (⟨rfl, rfl, rfl⟩)
theorem oJ {m : LE} {R C k : Nat} (hk : k ≤ 20000000000) (f : m.fit R C) (h : iC m k ∈ I0) : CD Tryz.prog 95 [vLE m] X w0 M0 I0 (fun v M I => M0 = M ∧ I0 = I ∧ v = .int .i64 0) := by
 have hR := f.d.2.1
 have hC := f.d.2.2
 refine jT (φ := m.raw.sml) (fun w hw => ?_) (fun hs => ?_)
 ·have hh := ((hw.imm _ h).2 : IsLE m k _ w)
  have lst : ∀ {r : RL}, r.es.length ≤ 1000000000 → IsL r k (muts M0) w → r.raw.sml := fun {r} hl hi => ⟨by show (r.es.map RE.raw).length ≤ _; rw [List.length_map]; exact hl, fun e he => by
   obtain ⟨x, hx, rfl⟩ := List.mem_map.1 (show e ∈ r.es.map RE.raw from he)
   exact (hi.el x hx).sml hk⟩
  refine ⟨⟨by rw [show m.raw.a.rows.length = m.a.rows.length from MX.raw_rows _, f.d.1.1]; omega, fun r hr => ?_⟩, lst (by rw [f.l]; omega) hh.l, lst (by rw [f.p]; omega) hh.p⟩
  obtain ⟨x, hx, rfl⟩ := List.mem_map.1 (show r ∈ m.a.rows.map RL.raw from hr)
  exact lst (by rw [f.d.1.2 x hx]; omega) (hh.a.row x hx)
 ·refine sI (φ := qY m.raw) (Hv.leraw h hk) ?_
  have := aKM (X := X) (w0 := w0) (M0 := M0) (I0 := qY m.raw :: I0) (m := m.raw) hs (List.Mem.head _)
  rw [yC, f.code] at this
  exact this
theorem zA {r : WL} (hs : r.sml) (hw : gQ r ∈ I0) : CD Tryz.prog 96 [rR r] X w0 M0 I0 (fun v M I => M0 = M ∧ I0 = I ∧ v = .bool (B r.good)) := by
 refine cB (φ := aX r.p (recs eW r.es)) (Hv.wlsl hw) ?_
 have hl := hs.1
 refine bF Tryz.func96 rfl Tryz.ntmps96 rfl ?_
 repeat (refine aJ ?_)
 refine aW [5, 6] rfl (fun k G M I => ∃ i : Nat, i ≤ r.es.length ∧ k = r.es.length - i ∧ (∀ j : Nat, j < i → (gt r.es (j : Int)).good) ∧ G = [(7, .int .i64 i)] ∧ M0 = M ∧ I = aX r.p (recs eW r.es) :: I0) (r.es.length) _ _ _ aP aG aD (⟨0, by omega, rfl, fun j hj => by omega, rfl, rfl, rfl⟩) ?_
 rintro kk G M I ⟨i, hi, rfl, hg, rfl, rfl, rfl⟩
 by_cases hin : i < r.es.length
 ·have hV := fun M0 I0 h => wL (X := X) (w0 := w0) (M0 := M0) (I0 := I0) (r := gt r.es (i : Int)) (jZ hs.2 hin) h
  refine fP (φ := isW (gt r.es (i : Int))) (Hv.wlel (List.Mem.tail _ hw) (by omega)) ?_
  by_cases e : (gt r.es (i : Int)).good
  ·rw [bO e] at hV
   repeat (refine aJ ?_)
   (refine aO rfl rfl ?_; intro b; refine ⟨okF, ?_⟩)
   repeat (refine aJ ?_)
   (refine aA rfl (hV _ _ (Hv.mem aB)) rfl rfl ?_; rintro _ _ _ ⟨rfl, rfl, rfl⟩; refine ⟨okF, ?_⟩)
   repeat (refine aJ ?_)
   refine aN (r.es.length - (i + 1)) _ _ _ (by first | omega | (simp only [List.length_append, List.length_cons, List.length_nil]; omega)) aP aG aD (⟨i + 1, by omega, rfl, nM hg e, rfl, rfl, rfl⟩)
  ·rw [aY e] at hV
   repeat (refine aJ ?_)
   (refine aO rfl rfl ?_; intro b; refine ⟨okF, ?_⟩)
   repeat (refine aJ ?_)
   (refine aA rfl (hV _ _ (Hv.mem aB)) rfl rfl ?_; rintro _ _ _ ⟨rfl, rfl, rfl⟩; refine ⟨okF, ?_⟩)
   repeat (refine aJ ?_)
   refine aH (by first | exact .inl rfl | exact .inr rfl) rfl rfl _ _ aG aD (⟨rfl, rfl, congrArg Value.bool (aY (fun h => e (jZ h hin))).symm⟩)
 ·repeat (refine aJ ?_)
  refine aH (by first | exact .inl rfl | exact .inr rfl) rfl rfl _ _ aG aD (⟨rfl, rfl, congrArg Value.bool (bO (oK hg (by omega))).symm⟩)
theorem xA {r : RL} {k : Nat} (hk : k ≤ 100000000000) (hl : r.es.length ≤ 1000000000) (hr : kZ r k ∈ I0) : CD Tryz.prog 98 [lv r] X w0 M0 I0 (fun v M I => M0 = M ∧ I0 = I ∧ v = .bool (B (uD r.q))) := by
 refine cB (φ := aX (r).p (recs eR (r).es)) (Hv.lsl aB) ?_
 refine bF Tryz.func98 rfl Tryz.ntmps98 rfl ?_
 repeat (refine aJ ?_)
 refine aW [5, 6] rfl (fun k G M I => ∃ i : Nat, i ≤ r.es.length ∧ k = r.es.length - i ∧ (∀ j : Nat, j < i → (gt r.es (j : Int)).q = 0) ∧ G = [(7, .int .i64 i)] ∧ M0 = M ∧ I = aX r.p (recs eR r.es) :: I0) (r.es.length) _ _ _ aP aG aD (⟨0, by omega, rfl, fun j hj => by omega, rfl, rfl, rfl⟩) ?_
 rintro kk G M I ⟨i, hi, rfl, hg, rfl, rfl, rfl⟩
 by_cases hin : i < r.es.length
 ·have hS := fun M0 I0 h => lF (X := X) (w0 := w0) (M0 := M0) (I0 := I0) (e := gt r.es (i : Int)) (k := k) (by omega) h
  refine fP (φ := iI (gt r.es (i : Int)) k) (Hv.lel (List.Mem.tail _ hr) (by omega)) ?_
  by_cases e : (gt r.es (i : Int)).q = 0
  ·rw [(nP _).2 e] at hS
   repeat (refine aJ ?_)
   (refine aO rfl rfl ?_; intro b; refine ⟨okF, ?_⟩)
   repeat (refine aJ ?_)
   (refine aA rfl (hS _ _ (Hv.mem aB)) rfl rfl ?_; rintro _ _ _ ⟨rfl, rfl, rfl⟩; refine ⟨okF, ?_⟩)
   repeat (refine aJ ?_)
   refine aN (r.es.length - (i + 1)) _ _ _ (by first | omega | (simp only [List.length_append, List.length_cons, List.length_nil]; omega)) aP aG aD (⟨i + 1, by omega, rfl, nM hg e, rfl, rfl, rfl⟩)
  ·have hs1 : ¬ (gt r.es (i : Int)).q.num.sign = 0 := fun h => e ((nP _).1 h)
   generalize (gt r.es (i : Int)).q.num.sign = sg at *
   repeat (refine aJ ?_)
   (refine aO rfl rfl ?_; intro b; refine ⟨okF, ?_⟩)
   repeat (refine aJ ?_)
   (refine aA rfl (hS _ _ (Hv.mem aB)) rfl rfl ?_; rintro _ _ _ ⟨rfl, rfl, rfl⟩; refine ⟨okF, ?_⟩)
   repeat (refine aJ ?_)
   refine aH (by first | exact .inl rfl | exact .inr rfl) rfl rfl _ _ aG aD (⟨rfl, rfl, congrArg Value.bool (aY (fun h => e (h _ (List.mem_map.2 ⟨_, eQ (by omega), rfl⟩)))).symm⟩)
 ·repeat (refine aJ ?_)
  refine aH (by first | exact .inl rfl | exact .inr rfl) rfl rfl _ _ aG aD (⟨rfl, rfl, congrArg Value.bool (bO (fun x hx => by
   obtain ⟨y, hy, rfl⟩ := List.mem_map.1 hx
   exact oK (p := fun e : RE => e.q = 0) hg (by omega) y hy)).symm⟩)
theorem aDQ {n i : Nat} (hn : n ≤ 100) (hi : i < n) : CD Tryz.prog 101 [.int .i64 (n : Int), .int .i64 (i : Int)] X w0 M0 I0 (fun v M I => M0 = M ∧ ∃ r : RL, v = lv r ∧ r.q = unL n i ∧ r.es.length = n ∧ I = kZ r 0 :: I0) := by
 have hW := fun M0 I0 => lG (X := X) (w0 := w0) (M0 := M0) (I0 := I0) (x := 0) (by decide) (k := 0) (by decide)
 have hW1 := fun M0 I0 => lG (X := X) (w0 := w0) (M0 := M0) (I0 := I0) (x := 1) (by decide) (k := 0) (by decide)
 refine bH Tryz.func101 rfl Tryz.ntmps101 rfl ?_
 repeat (refine aJ ?_)
 (refine jU (n) rfl rfl (by omega) (by omega) (by omega) (by omega) (qL (enc := e4) (by decide) z4 n) rfl rfl ?_; intro bi; refine ⟨okF, ?_⟩)
 repeat (refine aJ ?_)
 refine fP (φ := bT [] 0) Hv.nilR ?_
 refine aW [1, 5, 10] rfl (fun k G M I => ∃ (x : Nat) (es : List RE), x ≤ n ∧ k = n - x ∧ es.length = x ∧ (∀ t : Nat, t < x → (gt es (t : Int)).q = 0) ∧ G = [(11, .int .i64 x)] ∧ M = .blk bi (recs e4 (es.map t4 ++ List.replicate (n - x) z4)) 42 :: M0 ∧ I = bT es 0 :: I0) (n) _ _ _ aP aG aD (⟨0, [], by omega, by omega, rfl, fun t ht => by omega, rfl, rfl, rfl⟩) ?_
 rintro kk G M I ⟨x, es, hx, rfl, hel, heq, rfl, rfl, rfl⟩
 by_cases hxC : x < n
 ·have hz2 := qB (n := n - x) (z := z4) (by omega)
  have hl2 : ((es.map t4 ++ z4 :: List.replicate (n - x - 1) z4).length : Int) = n := by simp; omega
  rw [hz2]
  repeat (refine aJ ?_)
  (refine aA rfl (hW _ _) rfl rfl ?_; rintro _ _ _ ⟨rfl, e, rfl, he, rfl⟩; refine ⟨okF, ?_⟩)
  repeat (refine yXh ?_)
  refine iB (vs := eR e) rfl rfl rfl (Ones.one e) kR (StAts.r (t4 e) (by omega) rfl) rfl rfl ⟨okF, ?_⟩
  rw [yT (by simp; omega)]
  repeat (refine aJ ?_)
  refine dV (φ := bT (es ++ [e]) 0) (Hv.snoc aB aB) ?_
  have e9 : es.map t4 ++ t4 e :: List.replicate (n - x - 1) z4 = (es ++ [e]).map t4 ++ List.replicate (n - (x + 1)) z4 := by simp [Nat.sub_sub]
  rw [e9]
  refine aN (n - (x + 1)) _ _ _ (by first | omega | (simp only [List.length_append, List.length_cons, List.length_nil]; omega)) aP aG aD (⟨x + 1, es ++ [e], by omega, rfl, by simp; omega, fun t ht => ?_, rfl, rfl, rfl⟩)
  by_cases e1 : t < x
  ·have : gt (es ++ [e]) (t : Int) = gt es (t : Int) := by rw [eY (by simp; omega), eY (by omega), List.getElem_append_left (by omega)]
   rw [this]; exact heq t e1
  ·have : gt (es ++ [e]) (t : Int) = e := aCH (A := es) (B := []) (by omega)
   rw [this, he]; rfl
 ·obtain rfl : x = n := by omega
  rw [Nat.sub_self, List.replicate_zero, List.append_nil, yJ]
  repeat (refine aJ ?_)
  (refine aA rfl (hW1 _ _) rfl rfl ?_; rintro _ _ _ ⟨rfl, e, rfl, he, rfl⟩; refine ⟨okF, ?_⟩)
  repeat (refine aJ ?_)
  refine dV (φ := bT (st es (i : Int) e) 0) (Hv.stR aB aB) ?_
  refine aIL (k := 0) aB ?_
  refine aH (by first | exact .inl rfl | exact .inr rfl) rfl rfl _ _ aG aD (⟨rfl, ⟨some ⟨bi, 0, none⟩, (st es (i : Int) e).length, st es (i : Int) e⟩, ?_, ?_, ?_, rfl⟩)
  ·show _ = Value.slice (some ⟨bi, 0, none⟩) (st es (i : Int) e).length (st es (i : Int) e).length
   rw [dP, hel]
  ·apply qQ
   ·simp [dP, hel, unL]
   ·intro t ht
    have ht' : t < x := by simpa [dP, hel] using ht
    show (qs (st es (i : Int) e)).getD t 0 = _
    rw [lZ (by rw [dP]; omega), zC ht', uK (by omega)]
    simp only [tY]
    by_cases e1 : t = i
    ·rw [if_pos e1, if_pos e1.symm, he]; rfl
    ·rw [if_neg e1, if_neg (fun h => e1 h.symm)]; exact heq t ht'
  ·show (st es (i : Int) e).length = x
   rw [dP]; exact hel
end
end Go.Proofs.YtgeagiikkeiioaaGreat

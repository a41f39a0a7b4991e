/- matrix: Echelon, Rank, Null. slices.Sorted of slices.Values at ints. matrix: column, Solve, Refute. -/
import Derived.Test.YtkccjglmnhgabaaGreatZjba
import Derived.Test.YtkccjglmnhgabaaGreatZjbb
import Derived.Test.YtkccjglmnhgabaaGreatZjam
import Derived.Test.YtkccjglmnhgabaaGreatZjan
set_option linter.unusedSimpArgs false
set_option linter.unusedVariables false
set_option maxRecDepth 100000
set_option maxHeartbeats 4000000
namespace Go.Proofs.YtkccjglmnhgabaaGreat
open Go Go.Fx
abbrev pvI (q : Option Addr) (pv : List Nat) : aZ := aQ q (recs eZ (zs pv))
def EchP (A : Mt) (R C k : Nat) (M0 : List Ent) (I0 : List aZ) (v : Value) (M : List Ent) (I : List aZ) : Prop :=
 M0 = M ∧ ∃ (m : MX) (pv : List Nat) (q : Option Addr) (c : Nat), v = .tuple #[mv m, .slice q pv.length c, .int .i64 0] ∧ iN A C = (m.q, pv) ∧ m.dim R C ∧ I = pvI q pv :: fJ m k :: I0
def NlP (A : Mt) (C k : Nat) (M0 : List Ent) (I0 : List aZ) (v : Value) (M : List Ent) (I : List aZ) : Prop :=
 M0 = M ∧ ∃ m : MX, v = .tuple #[mv m, .int .i64 0] ∧ m.q = pG A C ∧ (∀ r ∈ m.rows, r.es.length = C) ∧ I = fJ m k :: I0
theorem aTI {pv : List Nat} {j : Nat} : (j : Int) ∈ zs pv ↔ j ∈ pv := by
 rw [List.mem_map]
 exact ⟨fun ⟨x, hx, e⟩ => by obtain rfl : x = j := by omega
                             exact hx, fun h => ⟨j, h, rfl⟩⟩
theorem xA {pv : List Nat} {r : Nat} (h : r < pv.length) : gt (zs pv) (r : Int) = ((pv.getD r 0 : Nat) : Int) := by
 rw [dM (by simpa using h)]
 rw [iY h]
 simp
theorem aCV {pv : List Nat} {j : Nat} : jS pv (j + 1) = if j ∈ pv then jS pv j else jS pv j ++ [j] := by
 unfold jS
 rw [List.range_succ, List.filter_append]
 by_cases h : j ∈ pv
 ·rw [if_pos h]; simp [h]
 ·rw [if_neg h]; simp [h]
theorem aTY {pv : List Nat} {j : Nat} : (jS pv j).length ≤ j := by
 unfold jS
 exact Nat.le_trans (List.length_filter_le _ _) (by simp)
theorem kL {a : MX} {R C : Nat} (h : a.dim R C) : iD a.q R C := ⟨by simp [h.1], fun i hi => by
 rw [aMI (by have := h.1; omega)]; simp [h.row hi]⟩
theorem MX.dim.red {a : MX} {R C : Nat} (h : a.dim R C) {E : Mt} {pv : List Nat} (hr : iN a.q C = (E, pv)) : ∃ s, Red R C C (at2 a.q) (at2 E) pv s := by
 obtain ⟨_, s, h2⟩ := iI (kL h) C (Nat.le_refl _)
 rw [hr] at h2
 exact ⟨s, h2⟩
section
variable {X : List Nat} {w0 : World} {M : List Ent} {I : List aZ}
theorem Mem.blkL {w : World} {b k : Nat} {es : List RE} {ty : TypeId} (h : Mem X w0 (.blk b (recs eR es) ty :: M) I w) (ha : dB es k ∈ I) : Mem X w0 M (nD ⟨some ⟨b, 0, none⟩, es.length, es⟩ k :: I) w := by
 have h1 := h.freezeB .here
 refine (h1.add (φ := nD ⟨some ⟨b, 0, none⟩, es.length, es⟩ k) ⟨(h1.sl (List.Mem.head _)), (((h1.imm _ (List.Mem.tail _ ha)).2 : AllR es k _ w)).go, ⟨Nat.le_refl _, .inl (Ok.mk _ _)⟩⟩).inc (.of fun φ hφ => ?_)
 rcases List.mem_cons.1 hφ with rfl | hφ
 ·exact List.Mem.head _
 ·exact List.Mem.tail _ (List.Mem.tail _ hφ)
variable {P : Program} {n : Nat} {Q : Exit → Act → World → Prop} {G : Env}
theorem aUG {ops l : List Oper} {m : Fx.Mode} {b k : Nat} {es : List RE} {ty : TypeId} (ha : dB es k ∈ I) (h : RD P n ops Q m l G X w0 M (nD ⟨some ⟨b, 0, none⟩, es.length, es⟩ k :: I)) : RD P n ops Q m l G X w0 (.blk b (recs eR es) ty :: M) I := rJ (fun _ hw => Mem.blkL hw ha) h
end
section
variable {X : List Nat} {w0 : World} {M0 : List Ent} {I0 : List aZ}
theorem aPT {p : Option Addr} {l : List Int} {t c : Nat} {x : Int} (hl : l.length = t) (ht : t ≤ 100000) (hp : aQ p (recs (eI .i64) l) ∈ I0) :
  CD Tryz.prog 156 [.slice p t c, .int .i64 x] X w0 M0 I0 (fun v M I => M0 = M ∧ I0 = I ∧ ∃ r : Int, v = .int .i64 r ∧ (0 ≤ r ↔ x ∈ l)) := by
 refine bF Tryz.func156 rfl Tryz.ntmps156 rfl ?_
 repeat (refine aK ?_)
 refine aM [0, 1, 7] rfl (fun k G M I => ∃ i : Nat, i ≤ t ∧ k = t - i ∧ (∀ j : Nat, j < i → gt l j ≠ x) ∧ G = [(8, .int .i64 i)] ∧ M0 = M ∧ I0 = I) (t) _ _ _ aP aG aD (⟨0, by omega, rfl, fun j hj => by omega, rfl, rfl, rfl⟩) ?_
 rintro kk G M I ⟨i, hi, rfl, hs, rfl, rfl, rfl⟩
 by_cases h : i < t
 ·by_cases he : x = gt l i
  ·repeat (refine aK ?_)
   refine aF (by first | exact .inl rfl | exact .inr rfl) rfl rfl _ _ aG aD (⟨rfl, rfl, (i : Int), rfl, ⟨fun _ => by { rw [he]; exact dP (by omega) }, fun _ => by omega⟩⟩)
  ·repeat (refine aK ?_)
   refine aJ (t - (i + 1)) _ _ _ (by first | omega | (simp only [List.length_append, List.length_cons, List.length_nil]; omega)) aP aG aD (⟨i + 1, by omega, rfl, fun j hj => ?_, rfl, rfl, rfl⟩)
   by_cases e : j = i
   ·subst e; exact fun h => he h.symm
   ·exact hs j (by omega)
 ·repeat (refine aK ?_)
  refine aF (by first | exact .inl rfl | exact .inr rfl) rfl rfl _ _ aG aD (⟨rfl, rfl, -1, rfl, ⟨fun h => by omega, fun h => by { obtain ⟨j, hj, e⟩ := List.mem_iff_getElem.1 h; exact absurd (by rw [jD hj]; exact e) (hs j (by omega)) }⟩⟩)
theorem aFW {p : Option Addr} {l : List Int} {t c : Nat} {x : Int} (hl : l.length = t) (ht : t ≤ 100000) (hp : aQ p (recs (eI .i64) l) ∈ I0) :
  CD Tryz.prog 109 [.slice p t c, .int .i64 x] X w0 M0 I0 (fun v M I => M0 = M ∧ I0 = I ∧ v = .bool (B (x ∈ l))) := by
 refine bF Tryz.func109 rfl Tryz.ntmps109 rfl ?_
 repeat (refine aK ?_)
 (refine aA rfl (aPT hl ht hp) rfl rfl ?_; rintro _ _ _ ⟨rfl, rfl, r, rfl, h⟩; refine ⟨okF, ?_⟩)
 repeat (refine aK ?_)
 refine aF (by first | exact .inl rfl | exact .inr rfl) rfl rfl _ _ aG aD (⟨rfl, rfl, congrArg Value.bool (fE h)⟩)
/- reduce, and what it changed is only read from now on -/
theorem aKN {bo R C n k0 : Nat} {rows : List MR} {M1 : List Ent} (hR : rows.length = R) (hRb : R ≤ 100) (hCb : C ≤ 200) (hC : ∀ r ∈ rows, r.es.length = C) (hn : n ≤ C) (hk : kb k0 n ≤ 50000000000) (hA : allM rows k0 ∈ I0)
  (hM : M0 = .blk bo (recs eM rows) 39 :: (rows.map fK ++ M1)) :
  CD Tryz.prog 155 [.slice (some ⟨bo, 0, none⟩) R R, .int .i64 (n : Int)] X w0 M0 I0 (fun v M I => M1 = M ∧ ∃ (x : MX) (pv : List Nat) (q : Option Addr) (c : Nat), v = .slice q pv.length c ∧ x.p = some ⟨bo, 0, none⟩ ∧ x.c = R ∧ x.dim R C ∧ iN (mq rows) n = (x.q, pv) ∧ pv.length ≤ R ∧ I = pvI q pv :: fJ x (kb k0 n) :: I0) := by
 refine CD.post (aNS hR hRb hCb hC hn hk hA hM) (fun v M I w h hw => ?_)
 obtain ⟨rows2, pv, q, c, rfl, hl, hc, hred, hpv, rfl, rfl⟩ := h
 have h1 : Mem X w0 (.blk bo (recs eM rows2) 39 :: (rows2.map fK ++ M1)) (pvI q pv :: allM rows2 (kb k0 n) :: I0) w := hw.freezeR .here
 have h2 := aWG (k := kb k0 n) h1 (List.Mem.tail _ (List.Mem.head _))
 refine ⟨M1, pvI q pv :: fJ (MR.x bo rows2) (kb k0 n) :: I0, ⟨rfl, MR.x bo rows2, pv, q, c, rfl, rfl, hl, ⟨?_, fun r hr => ?_⟩, by rw [q_x]; exact hred, hpv, rfl⟩, h2.inc (.of fun φ hφ => ?_)⟩
 ·show (rows2.map MR.l).length = R; rw [List.length_map, hl]
 ·obtain ⟨s, hs, rfl⟩ := List.mem_map.1 hr
  exact hc s hs
 ·rcases List.mem_cons.1 hφ with rfl | hφ
  ·exact List.Mem.tail _ (List.Mem.head _)
  ·rcases List.mem_cons.1 hφ with rfl | hφ
   ·exact List.Mem.head _
   ·exact List.Mem.tail _ (List.Mem.tail _ (List.Mem.tail _ hφ))
/- a matrix made is only read from now on -/
theorem aKF {a : MX} {R C k0 : Nat} (hb : kb k0 C ≤ 20000000000) (da : a.fit R C) (ha : fJ a k0 ∈ I0) : CD Tryz.prog 108 [mv a] X w0 M0 I0 (EchP a.q R C (kb k0 C) M0 I0) := by
 have hk0 : k0 ≤ 20000000000 := Nat.le_trans (gU k0 (Nat.zero_le C)) hb
 obtain ⟨r1, r2⟩ := da.2.1
 obtain ⟨c1, c2⟩ := da.2.2
 have hC := fun M0 I0 h1 => aNQ (X := X) (w0 := w0) (M0 := M0) (I0 := I0) (a := a) (k := k0) (by omega) da h1
 refine aU Tryz.func108 rfl Tryz.ntmps108 rfl ?_
 repeat (refine aK ?_)
 (refine aA rfl (hC _ _ aB) rfl rfl ?_; rintro _ _ _ ⟨rfl, rfl, rfl⟩; refine ⟨okF, ?_⟩)
 repeat (refine aK ?_)
 (refine aA rfl (aCD da aB) rfl rfl ?_; rintro _ _ _ ⟨bo, rows0, rfl, hl0, hc0, hq0, rfl, rfl⟩; refine ⟨okF, ?_⟩)
 have lC : (gt rows0 0).es.length = C := hc0 _ (dP (by omega))
 have hmq0 : mq rows0 = a.q := by rw [da.1.mk]; exact hq0
 repeat (refine aK ?_)
 rw [lC]
 have hRd := fun I0 h => aKN (X := X) (w0 := w0) (M0 := .blk bo (recs eM rows0) 39 :: (rows0.map fK ++ M0)) (I0 := I0) (bo := bo) (R := R) (C := C) (n := C) (k0 := k0) (rows := rows0) (M1 := M0) hl0 (by omega) (by omega) hc0 (by omega) (by omega) h rfl
 (refine aA rfl (hRd _ aB) rfl rfl ?_; rintro _ _ _ ⟨rfl, x, pv, q, c, rfl, xp, xc, xd, hred, hpv, rfl⟩; refine ⟨okF, ?_⟩)
 rw [hmq0] at hred
 repeat (refine aK ?_)
 refine iA [2, 3, 4] (by first | exact .inl rfl | exact .inr rfl) rfl rfl rfl _ _ aG aD (⟨rfl, x, pv, q, c, ?_, hred, xd, rfl⟩)
 show _ = Value.tuple #[.slice x.p x.rows.length x.c, _, _]
 rw [xd.1, xp, xc]
theorem aWI {a : MX} {R C k0 : Nat} (hb : kb k0 C ≤ 20000000000) (da : a.fit R C) (ha : fJ a k0 ∈ I0) : CD Tryz.prog 53 [mv a] X w0 M0 I0 (NlP a.q C (kb k0 C) M0 I0) := by
 obtain ⟨r1, r2⟩ := da.2.1
 obtain ⟨c1, c2⟩ := da.2.2
 refine aU Tryz.func53 rfl Tryz.ntmps53 rfl ?_
 repeat (refine aK ?_)
 (refine aA rfl (aKF hb da aB) rfl rfl ?_; rintro _ _ _ ⟨rfl, m, pv, q, c, rfl, hm, hd, rfl⟩; refine ⟨okF, ?_⟩)
 obtain ⟨s, hr⟩ := da.1.red hm
 have hlen := hr.len
 have hpi : ∀ r : Nat, r < pv.length → pv.getD r 0 < C := fun r h => hr.piv_lt h
 have hidx : ∀ r : Nat, r < pv.length → pv.idxOf (pv.getD r 0) = r := fun r h => hr.idx h
 have mR := hd.1
 have m0 : (gt m.rows 0).es.length = C := hd.row (i := 0) (by omega)
 have hz : (zs pv).length = pv.length := by simp
 generalize hK : kb k0 C = K at *
 refine iQ (φ := aQ (m).p (recs eL (m).rows)) (Hv.xsl aB) ?_
 repeat (refine aK ?_)
 refine kI 39 1 ?_
 refine dK (φ := nS [] K) Hv.nilL ?_
 repeat (refine aK ?_)
 rw [m0]
 refine aM [4, 5, 25] rfl (fun k G M I => ∃ (j : Nat) (rows : List RL) (qo : Option Addr) (co : Nat), j ≤ C ∧ k = C - j ∧ rows.map RL.q = (jS pv j).map (uD m.q pv C) ∧ (∀ r ∈ rows, r.es.length = C) ∧ G = [(7, .slice qo rows.length co), (26, .int .i64 j)] ∧ M = .row qo rows.length co (recs eL rows) 39 1 :: M0 ∧ I = nS rows K :: aQ m.p (recs eL m.rows) :: pvI q pv :: fJ m K :: I0) (C) _ _ _ aP aG aD (⟨0, [], none, 0, by omega, rfl, rfl, fun r hr => by simp at hr, rfl, rfl, rfl⟩) ?_
 rintro kk G M I ⟨j, rows, qo, co, hj, rfl, hq, hl, rfl, rfl, rfl⟩
 have hrl : rows.length ≤ j := by have := congrArg List.length hq; rw [List.length_map, List.length_map] at this; have := aTY (pv := pv) (j := j); omega
 by_cases hjC : j < C
 ·have hCn := fun M0 I0 h => aFW (X := X) (w0 := w0) (M0 := M0) (I0 := I0) (p := q) (l := zs pv) (t := pv.length) (c := c) (x := (j : Int)) hz (by omega) h
  by_cases hjp : j ∈ pv
  ·rw [bB (aTI.2 hjp)] at hCn
   repeat (refine aK ?_)
   (refine aA rfl (hCn _ _ aB) rfl rfl ?_; rintro _ _ _ ⟨rfl, rfl, rfl⟩; refine ⟨okF, ?_⟩)
   repeat (refine aK ?_)
   refine aJ (C - (j + 1)) _ _ _ (by first | omega | (simp only [List.length_append, List.length_cons, List.length_nil]; omega)) aP aG aD (⟨j + 1, rows, qo, co, by omega, rfl, by rw [aCV, if_pos hjp]; exact hq, hl, rfl, rfl, rfl⟩)
  ·rw [aX (fun h => hjp (aTI.1 h))] at hCn
   repeat (refine aK ?_)
   (refine aA rfl (hCn _ _ aB) rfl rfl ?_; rintro _ _ _ ⟨rfl, rfl, rfl⟩; refine ⟨okF, ?_⟩)
   repeat (refine aK ?_)
   rw [m0]
   (refine lT (C) rfl rfl (by omega) (by omega) (by omega) (by omega) (yN (enc := e4) (by decide) z4 C) rfl rfl ?_; intro bi; refine ⟨okF, ?_⟩)
   repeat (refine aK ?_)
   refine dK (φ := dB [] K) Hv.nilR ?_
   refine aM [4, 5, 7, 8, 9, 25, 26, 38] rfl (fun k G M I => ∃ (x : Nat) (es : List RE), x ≤ C ∧ k = C - x ∧ es.length = x ∧ (∀ t : Nat, t < x → (gt es (t : Int)).q = if t = j then 1 else 0) ∧ G = [(39, .int .i64 x)] ∧ M = .blk bi (recs e4 (es.map t4 ++ List.replicate (C - x) z4)) 37 :: .row qo rows.length co (recs eL rows) 39 1 :: M0 ∧ I = dB es K :: nS rows K :: aQ m.p (recs eL m.rows) :: pvI q pv :: fJ m K :: I0) (C) _ _ _ aP aG aD (⟨0, [], by omega, by omega, rfl, fun t ht => by omega, rfl, rfl, rfl⟩) ?_
   rintro kk G M I ⟨x, es, hx, rfl, hel, heq, rfl, rfl, rfl⟩
   by_cases hxC : x < C
   ·have hz2 := zL (n := C - x) (z := z4) (by omega)
    have hl2 : ((es.map t4 ++ z4 :: List.replicate (C - x - 1) z4).length : Int) = C := by simp; omega
    have hU := fun M0 I0 => aUU (X := X) (w0 := w0) (M0 := M0) (I0 := I0) (i := (x : Int)) (j := (j : Int))
    rw [hz2]
    repeat (refine aK ?_)
    (refine aA rfl (hU _ _) rfl rfl ?_; rintro _ _ _ ⟨rfl, e, rfl, he, rfl⟩; refine ⟨okF, ?_⟩)
    repeat (refine yXh ?_)
    refine eY (vs := eR e) rfl rfl rfl (Ones.one e) jV (StAts.r (t4 e) (by omega) rfl) rfl rfl ⟨okF, ?_⟩
    rw [aKA (by simp; omega)]
    repeat (refine aK ?_)
    refine gP (φ := dX e K) (Hv.q (k := 0) aB (by omega)) ?_
    refine gP (φ := dB (es ++ [e]) K) (Hv.snoc aB aB) ?_
    have e9 : es.map t4 ++ t4 e :: List.replicate (C - x - 1) z4 = (es ++ [e]).map t4 ++ List.replicate (C - (x + 1)) z4 := by simp [Nat.sub_sub]
    rw [e9]
    refine aJ (C - (x + 1)) _ _ _ (by first | omega | (simp only [List.length_append, List.length_cons, List.length_nil]; omega)) aP aG aD (⟨x + 1, es ++ [e], by omega, rfl, by simp; omega, fun t ht => ?_, rfl, rfl, rfl⟩)
    by_cases e1 : t < x
    ·have : gt (es ++ [e]) (t : Int) = gt es (t : Int) := by rw [dM (by simp; omega), dM (by omega), List.getElem_append_left (by omega)]
     rw [this]; exact heq t e1
    ·have : gt (es ++ [e]) (t : Int) = e := aEZ (A := es) (B := []) (by omega)
     rw [this, he]
     obtain rfl : t = x := by omega
     by_cases e2 : t = j
     ·rw [if_pos e2, if_pos (by omega)]
     ·rw [if_neg e2, if_neg (by omega)]
   ·obtain rfl : x = C := by omega
    rw [Nat.sub_self, List.replicate_zero, List.append_nil, aNG]
    repeat (refine aK ?_)
    refine aM [4, 5, 7, 8, 9, 25, 26, 49, 50] rfl (fun k G M I => ∃ (r : Nat) (es2 : List RE), r ≤ pv.length ∧ k = pv.length - r ∧ es2.length = x ∧ (∀ t : Nat, t < x → (gt es2 (t : Int)).q = if t ∈ pv ∧ pv.idxOf t < r then - at2 m.q (pv.idxOf t) j else if t = j then 1 else 0) ∧ G = [(51, .int .i64 r)] ∧ M = .blk bi (recs eR es2) 37 :: .row qo rows.length co (recs eL rows) 39 1 :: M0 ∧ I = dB es2 K :: nS rows K :: aQ m.p (recs eL m.rows) :: pvI q pv :: fJ m K :: I0) (pv.length) _ _ _ aP aG aD (⟨0, es, by omega, by omega, hel, fun t ht => by rw [if_neg (by omega)]; exact heq t ht, rfl, rfl, rfl⟩) ?_
    rintro kk G M I ⟨r, es2, hr2, rfl, hel2, heq2, rfl, rfl, rfl⟩
    by_cases hrp : r < pv.length
    ·have hgz := xA hrp
     have hpr := hpi r hrp
     have hmr := hd.row (i := r) (by omega)
     have hat := sN (m := m) (i := r) (j := j) (by omega) (by omega)
     refine dK (φ := aQ (gt (m).rows (r : Int)).p (recs eR (gt (m).rows (r : Int)).es)) (Hv.xrsl aB (by omega)) ?_
     have hNg := fun M0 I0 h => aGB (X := X) (w0 := w0) (M0 := M0) (I0 := I0) (e := gt (gt m.rows (r : Int)).es (j : Int)) (k := K) (by omega) h
     repeat (refine aK ?_)
     rw [hgz]
     (refine aA rfl (hNg _ _ (Hv.xel aB (by omega) (by omega))) rfl rfl ?_; rintro _ _ _ ⟨rfl, e, rfl, he, rfl⟩; refine ⟨okF, ?_⟩)
     repeat (refine yXh ?_)
     refine eY (vs := eR e) rfl rfl rfl (Ones.one e) jV (StAts.r e (by omega) rfl) rfl rfl ⟨okF, ?_⟩
     repeat (refine aK ?_)
     refine gP (φ := dB (st es2 ((pv.getD r 0 : Nat) : Int) e) K) (Hv.stR aB aB) ?_
     refine aJ (pv.length - (r + 1)) _ _ _ (by first | omega | (simp only [List.length_append, List.length_cons, List.length_nil]; omega)) aP aG aD (⟨r + 1, st es2 ((pv.getD r 0 : Nat) : Int) e, by omega, rfl, by rw [dZ]; exact hel2, fun t ht => ?_, rfl, rfl, rfl⟩)
     rw [qA (by omega)]
     by_cases e1 : t = pv.getD r 0
     ·subst e1
      rw [if_pos rfl, if_pos ⟨eP.2 ⟨r, hrp, rfl⟩, by rw [hidx r hrp]; omega⟩, he, hidx r hrp, hat]
     ·rw [if_neg e1, heq2 t ht]
      by_cases e2 : t ∈ pv
      ·have e3 : pv.idxOf t ≠ r := fun e => e1 (by rw [← e]; exact (Red.idx_lt e2).2.symm)
       by_cases e4 : pv.idxOf t < r
       ·rw [if_pos ⟨e2, e4⟩, if_pos ⟨e2, by omega⟩]
       ·rw [if_neg (show ¬ (t ∈ pv ∧ pv.idxOf t < r) from fun h => e4 h.2), if_neg (show ¬ (t ∈ pv ∧ pv.idxOf t < r + 1) from fun h => by have := h.2; omega)]
      ·rw [if_neg (show ¬ (t ∈ pv ∧ pv.idxOf t < r) from fun h => e2 h.1), if_neg (show ¬ (t ∈ pv ∧ pv.idxOf t < r + 1) from fun h => e2 h.1)]
    ·obtain rfl : r = pv.length := by omega
     have hV : qs es2 = uD m.q pv x j := by
      apply pM
      ·simp [uD, hel2]
      ·intro t ht
       have ht' : t < x := by simpa [hel2] using ht
       rw [kE (by omega), heq2 t ht', aBY ht']
       unfold nK
       by_cases e2 : t ∈ pv
       ·rw [if_pos ⟨e2, (Red.idx_lt e2).1⟩, if_pos e2]
       ·rw [if_neg (fun h => e2 h.1), if_neg e2]
     repeat (refine aK ?_)
     refine aUG (k := K) aB ?_
     rw [hel2]
     have hvv : Value.slice (some ⟨bi, 0, none⟩) x x = lv (⟨some ⟨bi, 0, none⟩, x, es2⟩ : RL) := by show _ = Value.slice _ es2.length _; rw [hel2]
     rw [hvv]
     (refine aW (cs := recs eL [(⟨some ⟨bi, 0, none⟩, x, es2⟩ : RL)]) ([lv (⟨some ⟨bi, 0, none⟩, x, es2⟩ : RL)]) rfl rfl (by intro v hv; repeat (first | exact absurd hv (List.not_mem_nil) | (rcases List.mem_cons.1 hv with rfl | hv; · rfl))) (by omega) rfl rfl rfl ?_; intro bb; refine ⟨okF, ?_⟩)
     (refine dD (ys := [(⟨some ⟨bi, 0, none⟩, x, es2⟩ : RL)]) 1 rfl rfl rfl ?_ (by decide) rfl (by omega) (by omega) rfl rfl ?_; (· first | exact Src.blk aB | exact Src.row aB | exact Src.imm aB (by first | assumption | exact .inl (Ok.mk _ _))); intro q2 c2; refine ⟨okF, ?_⟩)
     repeat (refine aK ?_)
     refine gP (φ := nS (rows ++ [(⟨some ⟨bi, 0, none⟩, x, es2⟩ : RL)]) K) (Hv.snocL aB aB) ?_
     refine aJ (x - (j + 1)) _ _ _ (by first | omega | (simp only [List.length_append, List.length_cons, List.length_nil]; omega)) aP aG aD (⟨j + 1, rows ++ [(⟨some ⟨bi, 0, none⟩, x, es2⟩ : RL)], q2, c2, by omega, rfl, ?_, fun r hr => ?_, rfl, rfl, rfl⟩)
     ·rw [yT, hq, aCV, if_neg hjp, List.map_append]
      show _ ++ [qs es2] = _ ++ [uD m.q pv x j]
      rw [hV]
     ·rcases List.mem_append.1 hr with h | h
      ·exact hl r h
      ·rw [List.mem_singleton.1 h]; exact hel2
 ·obtain rfl : j = C := by omega
  repeat (refine aK ?_)
  refine aCP (k := K) aB ?_
  refine iA [2, 3] (by first | exact .inl rfl | exact .inr rfl) rfl rfl rfl _ _ aG aD (⟨rfl, ⟨qo, co, rows⟩, rfl, by unfold pG aIU; rw [hm]; exact hq, hl, rfl⟩)
end
end Go.Proofs.YtkccjglmnhgabaaGreat
namespace Go.Proofs.YtkccjglmnhgabaaGreat
open Go Go.Fx
theorem aFQ {α : Type} {key : α → Int} : ∀ (xs ys : List α), (mg key xs ys).Perm (xs ++ ys)
 | [], ys => by simp [mg]
 | x :: xs, [] => by rw [zP]; simp
 | x :: xs, y :: ys => by
  rw [qU]
  by_cases h : key x ≤ key y
  ·rw [if_pos h]; exact List.Perm.cons _ (aFQ xs (y :: ys))
  ·rw [if_neg h]
   exact (List.Perm.cons _ (aFQ (x :: xs) ys)).trans List.perm_middle.symm
 termination_by xs ys => xs.length + ys.length
theorem aHM {α : Type} {key : α → Int} (l : List α) : (yP key l).Perm l := by
 have h : ∀ (l acc : List α), (l.foldl (fun acc x => mg key acc [x]) acc).Perm (acc ++ l) := by
  intro l
  induction l with
  | nil => intro acc; simp
  | cons x r ih =>
   intro acc
   refine (ih (mg key acc [x])).trans ?_
   have := (aFQ (key := key) acc [x]).append_right r
   simpa using this
 simpa [yP] using h l []
section
variable {X : List Nat} {w0 : World} {M0 : List Ent} {I0 : List aZ}
theorem aOY {q : Option Addr} {n c : Nat} : CD Tryz.prog 62 [.slice q n c] X w0 M0 I0 (fun v M I => M0 = M ∧ ∃ b, v = .func (.func 121) #[] #[.pointer (some ⟨b, 0, none⟩)] ∧ I = aQ (some ⟨b, 0, none⟩) [.slice q n c] :: I0) := by
 refine aU Tryz.func62 rfl Tryz.ntmps62 rfl ?_
 refine aI ?_
 refine aH ?_
 (refine xM rfl rfl rfl ?_; intro b1; refine ⟨okF, ?_⟩)
 repeat (refine aK ?_)
 refine aF (by first | exact .inl rfl | exact .inr rfl) rfl rfl _ _ aG aD (⟨rfl, b1, rfl, rfl⟩)
theorem aPM {q : Option Addr} {zs : List Int} {c b n : Nat} (hl : zs.length = n) (hn : n ≤ 12) (hb : aQ (some ⟨b, 0, none⟩) [.slice q n c] ∈ I0) (hq : aQ q (recs eZ zs) ∈ I0) :
  CD Tryz.prog 61 [.func (.func 121) #[] #[.pointer (some ⟨b, 0, none⟩)]] X w0 M0 I0 (fun v M I => M0 = M ∧ ∃ q' c', v = .slice q' n c' ∧ I = aQ q' (recs eZ (yP id zs)) :: I0) := by
 subst hl
 have hA := fun M0 I0 hb hq => aUW (X := X) (w0 := w0) (M0 := M0) (I0 := I0) (q := q) (zs := zs) (c := c) (Bs := b) (by omega) hb hq
 have hC : ∀ M0 I0, aQ (some ⟨b, 0, none⟩) [.slice q zs.length c] ∈ I0 → aQ q (recs eZ zs) ∈ I0 → CD Tryz.prog 119 [.func (.func 121) #[] #[.pointer (some ⟨b, 0, none⟩)]] X w0 M0 I0 (fun v M I => I0 = I ∧ ∃ q' c', v = .slice q' zs.length c' ∧ M = .row q' zs.length c' (recs eZ zs) 3 1 :: M0) := fun M0 I0 h1 h2 => by
  refine aU Tryz.func119 rfl Tryz.ntmps119 rfl ?_
  repeat (refine aK ?_)
  (refine aA rfl (hA _ _ aB aB) rfl rfl ?_; rintro _ _ _ ⟨rfl, q', c', rfl, rfl⟩; refine ⟨okF, ?_⟩)
  repeat (refine aK ?_)
  refine aF (by first | exact .inl rfl | exact .inr rfl) rfl rfl _ _ aG aD (⟨rfl, q', c', rfl, rfl⟩)
 refine aU Tryz.func61 rfl Tryz.ntmps61 rfl ?_
 repeat (refine aK ?_)
 (refine aA rfl (hC _ _ aB aB) rfl rfl ?_; rintro _ _ _ ⟨rfl, q1, c1, rfl, rfl⟩; refine ⟨okF, ?_⟩)
 refine mQ (φ := q1 = none → c1 = 0) (fun w hw h0 => ?_) (fun hc0 => ?_)
 ·have ho : w.ownsRow 0 3 1 (.slice q1 zs.length c1) zs.length (recs eZ zs) := hw.ent _ List.mem_cons_self
  rcases ho.2 with ⟨h1, _⟩ | ⟨g, cap, cur, h1, _⟩
  ·injection h1
  ·rw [h0] at h1; injection h1 with h2; cases h2
 refine vM (fun h1 h2 h3 => ?_) (fun bq tl e hle => ?_)
 ·subst h1
  obtain rfl := hc0 rfl
  have hz : zs = [] := List.length_eq_zero_iff.1 h2
  subst hz
  repeat (refine aK ?_)
  (refine aA rfl (aQY) rfl rfl ?_; rintro _ _ _ ⟨rfl, rfl⟩; refine ⟨okF, ?_⟩)
  repeat (refine aK ?_)
  refine wL .here ?_
  refine aF (by first | exact .inl rfl | exact .inr rfl) rfl rfl _ _ aG aD (⟨rfl, none, 0, rfl, rfl⟩)
 ·subst e
  repeat (refine aK ?_)
  (refine aA rfl (aUE (b := bq) (tl := tl) (D := zs) rfl hn) rfl rfl ?_; rintro _ _ _ ⟨rfl, rfl⟩; refine ⟨okF, ?_⟩)
  repeat (refine aK ?_)
  refine aJK .here ?_
  refine aTT (cs := recs eZ (yP id zs)) (tl := tl) aB ?_
  refine aAZ (M' := M0) (I' := aQ (some ⟨bq, 0, none⟩) (recs eZ (yP id zs)) :: I0) SubP.refl aD ?_
  refine aF (by first | exact .inl rfl | exact .inr rfl) rfl rfl _ _ aG aD (⟨rfl, _, _, rfl, rfl⟩)
end
end Go.Proofs.YtkccjglmnhgabaaGreat
namespace Go.Proofs.YtkccjglmnhgabaaGreat
open Go Go.Fx
def bes1 (R C : Nat) (A : Mt) (b : List Rat) : Mt := wP R (C + 1) (fun i j => if j < C then at2 A i j else b.getD i 0)
def besU (R C : Nat) (A : Mt) (b : List Rat) : Mt := wP R (C + 1 + R) (fun i j => if j < C then at2 A i j else if j = C then b.getD i 0 else pE i (j - (C + 1)))
theorem dimK {R C : Nat} {F : Nat → Nat → Rat} : iD (wP R C F) R C := ⟨by simp [wP], fun i hi => by simp [wP, rowAt, List.getD, hi]⟩
def solB (R C : Nat) (f : Nat → Nat → Rat) (pv : List Nat) : Prop := ∀ i ∈ List.range R, pv.length ≤ i → f i C = 0
instance (R C : Nat) (f : Nat → Nat → Rat) (pv : List Nat) : Decidable (solB R C f pv) := by unfold solB; exact inferInstance
def solP (R C : Nat) (A : Mt) (b : List Rat) : Prop := solB R C (at2 (iN (bes1 R C A b) C).1) (iN (bes1 R C A b) C).2
instance (R C : Nat) (A : Mt) (b : List Rat) : Decidable (solP R C A b) := by unfold solP; exact inferInstance
def solL (R C : Nat) (A : Mt) (b : List Rat) : List Rat := (List.range C).map (solF (at2 (iN (bes1 R C A b) C).1) (iN (bes1 R C A b) C).2 C)
/- the wider matrix tells the same -/
section
variable {X : List Nat} {w0 : World} {M0 : List Ent} {I0 : List aZ}
end
end Go.Proofs.YtkccjglmnhgabaaGreat

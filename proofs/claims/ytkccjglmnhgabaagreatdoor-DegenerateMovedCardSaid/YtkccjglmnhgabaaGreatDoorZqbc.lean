/- matrix: Echelon, Rank, Null. slices.Sorted of slices.Values at ints. matrix: column, Solve, Refute. -/
import Derived.Test.YtkccjglmnhgabaaGreatDoorZqbb
import Derived.Test.YtkccjglmnhgabaaGreatDoorZqam
import Derived.Test.YtkccjglmnhgabaaGreatDoorZqan
set_option linter.unusedSimpArgs false
set_option linter.unusedVariables false
set_option maxRecDepth 100000
set_option maxHeartbeats 4000000
namespace Go.Proofs.YtkccjglmnhgabaaGreatDoor
open Go Go.Fx
abbrev pvI (q : Option Addr) (pv : List Nat) : bB := aW q (recs eZ (zs pv))
def EchP (A : Mt) (R C k : Nat) (M0 : List Ent) (I0 : List bB) (v : Value) (M : List Ent) (I : List bB) : Prop :=
 M0 = M ∧ ∃ (m : MX) (pv : List Nat) (q : Option Addr) (c : Nat), v = .tuple #[mv m, .slice q pv.length c, .int .i64 0] ∧ mE A C = (m.q, pv) ∧ m.dim R C ∧ I = pvI q pv :: jC m k :: I0
def NlP (A : Mt) (C k : Nat) (M0 : List Ent) (I0 : List bB) (v : Value) (M : List Ent) (I : List bB) : Prop :=
 M0 = M ∧ ∃ m : MX, v = .tuple #[mv m, .int .i64 0] ∧ m.q = aCE A C ∧ (∀ r ∈ m.rows, r.es.length = C) ∧ I = jC m k :: I0
theorem aRE {pv : List Nat} {j : Nat} : (j : Int) ∈ zs pv ↔ j ∈ pv := by
 rw [List.mem_map]
 exact ⟨fun ⟨x, hx, e⟩ => by obtain rfl : x = j := by omega
                             exact hx, fun h => ⟨j, h, rfl⟩⟩
theorem aKU {pv : List Nat} {r : Nat} (h : r < pv.length) : gt (zs pv) (r : Int) = ((pv.getD r 0 : Nat) : Int) := by
 rw [dH (by simpa using h)]
 rw [nR h]
 simp
theorem aBL {pv : List Nat} {j : Nat} : pO pv (j + 1) = if j ∈ pv then pO pv j else pO pv j ++ [j] := by
 unfold pO
 rw [List.range_succ, List.filter_append]
 by_cases h : j ∈ pv
 ·rw [if_pos h]; simp [h]
 ·rw [if_neg h]; simp [h]
theorem aPD {pv : List Nat} {j : Nat} : (pO pv j).length ≤ j := by
 unfold pO
 exact Nat.le_trans (List.length_filter_le _ _) (by simp)
theorem oV {a : MX} {R C : Nat} (h : a.dim R C) : kK a.q R C := ⟨by simp [h.1], fun i hi => by
 rw [aKI (by have := h.1; omega)]; simp [h.row hi]⟩
theorem MX.dim.red {a : MX} {R C : Nat} (h : a.dim R C) {E : Mt} {pv : List Nat} (hr : mE a.q C = (E, pv)) : ∃ s, Red R C C (at2 a.q) (at2 E) pv s := by
 obtain ⟨_, s, h2⟩ := kT (oV h) C (Nat.le_refl _)
 rw [hr] at h2
 exact ⟨s, h2⟩
section
variable {X : List Nat} {w0 : World} {M : List Ent} {I : List bB}
theorem Mem.blkL {w : World} {b k : Nat} {es : List RE} {ty : TypeId} (h : Mem X w0 (.blk b (recs eR es) ty :: M) I w) (ha : dV es k ∈ I) : Mem X w0 M (nV ⟨some ⟨b, 0, none⟩, es.length, es⟩ k :: I) w := by
 have h1 := h.freezeB .here
 refine (h1.add (φ := nV ⟨some ⟨b, 0, none⟩, es.length, es⟩ k) ⟨(h1.sl (List.Mem.head _)), (((h1.imm _ (List.Mem.tail _ ha)).2 : AllR es k _ w)).go, ⟨Nat.le_refl _, .inl (Ok.mk _ _)⟩⟩).inc (.of fun φ hφ => ?_)
 rcases List.mem_cons.1 hφ with rfl | hφ
 ·exact List.Mem.head _
 ·exact List.Mem.tail _ (List.Mem.tail _ hφ)
variable {P : Program} {n : Nat} {Q : Exit → Act → World → Prop} {G : Env}
theorem aRM {ops l : List Oper} {m : Fx.Mode} {b k : Nat} {es : List RE} {ty : TypeId} (ha : dV es k ∈ I) (h : RD P n ops Q m l G X w0 M (nV ⟨some ⟨b, 0, none⟩, es.length, es⟩ k :: I)) : RD P n ops Q m l G X w0 (.blk b (recs eR es) ty :: M) I := rM (fun _ hw => Mem.blkL hw ha) h
end
section
variable {X : List Nat} {w0 : World} {M0 : List Ent} {I0 : List bB}
theorem aNC {p : Option Addr} {l : List Int} {t c : Nat} {x : Int} (hl : l.length = t) (ht : t ≤ 100000) (hp : aW p (recs (eI .i64) l) ∈ I0) :
  CD Tryz.prog 108 [.slice p t c, .int .i64 x] X w0 M0 I0 (fun v M I => M0 = M ∧ I0 = I ∧ ∃ r : Int, v = .int .i64 r ∧ (0 ≤ r ↔ x ∈ l)) := by
 refine bR Tryz.func108 rfl Tryz.ntmps108 rfl ?_
 repeat (refine aK ?_)
 refine aT [0, 1, 7] rfl (fun k G M I => ∃ i : Nat, i ≤ t ∧ k = t - i ∧ (∀ j : Nat, j < i → gt l j ≠ x) ∧ G = [(8, .int .i64 i)] ∧ M0 = M ∧ I0 = I) (t) _ _ _ aQ aF aD (⟨0, by omega, rfl, fun j hj => by omega, rfl, rfl, rfl⟩) ?_
 rintro kk G M I ⟨i, hi, rfl, hs, rfl, rfl, rfl⟩
 by_cases h : i < t
 ·by_cases he : x = gt l i
  ·repeat (refine aK ?_)
   refine aH (by first | exact .inl rfl | exact .inr rfl) rfl rfl _ _ aF aD (⟨rfl, rfl, (i : Int), rfl, ⟨fun _ => by { rw [he]; exact eX (by omega) }, fun _ => by omega⟩⟩)
  ·repeat (refine aK ?_)
   refine aG (t - (i + 1)) _ _ _ (by first | omega | (simp only [List.length_append, List.length_cons, List.length_nil]; omega)) aQ aF aD (⟨i + 1, by omega, rfl, fun j hj => ?_, rfl, rfl, rfl⟩)
   by_cases e : j = i
   ·subst e; exact fun h => he h.symm
   ·exact hs j (by omega)
 ·repeat (refine aK ?_)
  refine aH (by first | exact .inl rfl | exact .inr rfl) rfl rfl _ _ aF aD (⟨rfl, rfl, -1, rfl, ⟨fun h => by omega, fun h => by { obtain ⟨j, hj, e⟩ := List.mem_iff_getElem.1 h; exact absurd (by rw [kL hj]; exact e) (hs j (by omega)) }⟩⟩)
theorem aEJ {p : Option Addr} {l : List Int} {t c : Nat} {x : Int} (hl : l.length = t) (ht : t ≤ 100000) (hp : aW p (recs (eI .i64) l) ∈ I0) :
  CD Tryz.prog 73 [.slice p t c, .int .i64 x] X w0 M0 I0 (fun v M I => M0 = M ∧ I0 = I ∧ v = .bool (B (x ∈ l))) := by
 refine bR Tryz.func73 rfl Tryz.ntmps73 rfl ?_
 repeat (refine aK ?_)
 (refine aA rfl (aNC hl ht hp) rfl rfl ?_; rintro _ _ _ ⟨rfl, rfl, r, rfl, h⟩; refine ⟨okF, ?_⟩)
 repeat (refine aK ?_)
 refine aH (by first | exact .inl rfl | exact .inr rfl) rfl rfl _ _ aF aD (⟨rfl, rfl, congrArg Value.bool (gZ h)⟩)
/- reduce, and what it changed is only read from now on -/
theorem aIR {bo R C n k0 : Nat} {rows : List MR} {M1 : List Ent} (hR : rows.length = R) (hRb : R ≤ 100) (hCb : C ≤ 200) (hC : ∀ r ∈ rows, r.es.length = C) (hn : n ≤ C) (hk : kb k0 n ≤ 50000000000) (hA : allM rows k0 ∈ I0)
  (hM : M0 = .blk bo (recs eM rows) 48 :: (rows.map fM ++ M1)) :
  CD Tryz.prog 107 [.slice (some ⟨bo, 0, none⟩) R R, .int .i64 (n : Int)] X w0 M0 I0 (fun v M I => M1 = M ∧ ∃ (x : MX) (pv : List Nat) (q : Option Addr) (c : Nat), v = .slice q pv.length c ∧ x.p = some ⟨bo, 0, none⟩ ∧ x.c = R ∧ x.dim R C ∧ mE (mq rows) n = (x.q, pv) ∧ pv.length ≤ R ∧ I = pvI q pv :: jC x (kb k0 n) :: I0) := by
 refine CD.post (aLP hR hRb hCb hC hn hk hA hM) (fun v M I w h hw => ?_)
 obtain ⟨rows2, pv, q, c, rfl, hl, hc, hred, hpv, rfl, rfl⟩ := h
 have h1 : Mem X w0 (.blk bo (recs eM rows2) 48 :: (rows2.map fM ++ M1)) (pvI q pv :: allM rows2 (kb k0 n) :: I0) w := hw.freezeR .here
 have h2 := aRI (k := kb k0 n) h1 (List.Mem.tail _ (List.Mem.head _))
 refine ⟨M1, pvI q pv :: jC (MR.x bo rows2) (kb k0 n) :: I0, ⟨rfl, MR.x bo rows2, pv, q, c, rfl, rfl, hl, ⟨?_, fun r hr => ?_⟩, by rw [q_x]; exact hred, hpv, rfl⟩, h2.inc (.of fun φ hφ => ?_)⟩
 ·show (rows2.map MR.l).length = R; rw [List.length_map, hl]
 ·obtain ⟨s, hs, rfl⟩ := List.mem_map.1 hr
  exact hc s hs
 ·rcases List.mem_cons.1 hφ with rfl | hφ
  ·exact List.Mem.tail _ (List.Mem.head _)
  ·rcases List.mem_cons.1 hφ with rfl | hφ
   ·exact List.Mem.head _
   ·exact List.Mem.tail _ (List.Mem.tail _ (List.Mem.tail _ hφ))
/- a matrix made is only read from now on -/
theorem aIA {a : MX} {R C k0 : Nat} (hb : kb k0 C ≤ 20000000000) (da : a.fit R C) (ha : jC a k0 ∈ I0) : CD Tryz.prog 72 [mv a] X w0 M0 I0 (EchP a.q R C (kb k0 C) M0 I0) := by
 have hk0 : k0 ≤ 20000000000 := Nat.le_trans (iO k0 (Nat.zero_le C)) hb
 obtain ⟨r1, r2⟩ := da.2.1
 obtain ⟨c1, c2⟩ := da.2.2
 have hC := fun M0 I0 h1 => aMQ (X := X) (w0 := w0) (M0 := M0) (I0 := I0) (a := a) (k := k0) (by omega) da h1
 refine bC Tryz.func72 rfl Tryz.ntmps72 rfl ?_
 repeat (refine aK ?_)
 (refine aA rfl (hC _ _ aB) rfl rfl ?_; rintro _ _ _ ⟨rfl, rfl, rfl⟩; refine ⟨okF, ?_⟩)
 repeat (refine aK ?_)
 (refine aA rfl (aAL da aB) rfl rfl ?_; rintro _ _ _ ⟨bo, rows0, rfl, hl0, hc0, hq0, rfl, rfl⟩; refine ⟨okF, ?_⟩)
 have lC : (gt rows0 0).es.length = C := hc0 _ (eX (by omega))
 have hmq0 : mq rows0 = a.q := by rw [da.1.mk]; exact hq0
 repeat (refine aK ?_)
 rw [lC]
 have hRd := fun I0 h => aIR (X := X) (w0 := w0) (M0 := .blk bo (recs eM rows0) 48 :: (rows0.map fM ++ M0)) (I0 := I0) (bo := bo) (R := R) (C := C) (n := C) (k0 := k0) (rows := rows0) (M1 := M0) hl0 (by omega) (by omega) hc0 (by omega) (by omega) h rfl
 (refine aA rfl (hRd _ aB) rfl rfl ?_; rintro _ _ _ ⟨rfl, x, pv, q, c, rfl, xp, xc, xd, hred, hpv, rfl⟩; refine ⟨okF, ?_⟩)
 rw [hmq0] at hred
 repeat (refine aK ?_)
 refine iD [2, 3, 4] (by first | exact .inl rfl | exact .inr rfl) rfl rfl rfl _ _ aF aD (⟨rfl, x, pv, q, c, ?_, hred, xd, rfl⟩)
 show _ = Value.tuple #[.slice x.p x.rows.length x.c, _, _]
 rw [xd.1, xp, xc]
theorem aTA {a : MX} {R C k0 : Nat} (hb : kb k0 C ≤ 20000000000) (da : a.fit R C) (ha : jC a k0 ∈ I0) : CD Tryz.prog 38 [mv a] X w0 M0 I0 (NlP a.q C (kb k0 C) M0 I0) := by
 obtain ⟨r1, r2⟩ := da.2.1
 obtain ⟨c1, c2⟩ := da.2.2
 refine bC Tryz.func38 rfl Tryz.ntmps38 rfl ?_
 repeat (refine aK ?_)
 (refine aA rfl (aIA hb da aB) rfl rfl ?_; rintro _ _ _ ⟨rfl, m, pv, q, c, rfl, hm, hd, rfl⟩; refine ⟨okF, ?_⟩)
 obtain ⟨s, hr⟩ := da.1.red hm
 have hlen := hr.len
 have hpi : ∀ r : Nat, r < pv.length → pv.getD r 0 < C := fun r h => hr.piv_lt h
 have hidx : ∀ r : Nat, r < pv.length → pv.idxOf (pv.getD r 0) = r := fun r h => hr.idx h
 have mR := hd.1
 have m0 : (gt m.rows 0).es.length = C := hd.row (i := 0) (by omega)
 have hz : (zs pv).length = pv.length := by simp
 generalize hK : kb k0 C = K at *
 refine fQ (φ := aW (m).p (recs eL (m).rows)) (Hv.xsl aB) ?_
 repeat (refine aK ?_)
 refine jR 48 1 ?_
 refine fI (φ := qK [] K) Hv.nilL ?_
 repeat (refine aK ?_)
 rw [m0]
 refine aT [4, 5, 25] rfl (fun k G M I => ∃ (j : Nat) (rows : List RL) (qo : Option Addr) (co : Nat), j ≤ C ∧ k = C - j ∧ rows.map RL.q = (pO pv j).map (zQ m.q pv C) ∧ (∀ r ∈ rows, r.es.length = C) ∧ G = [(7, .slice qo rows.length co), (26, .int .i64 j)] ∧ M = .row qo rows.length co (recs eL rows) 48 1 :: M0 ∧ I = qK rows K :: aW m.p (recs eL m.rows) :: pvI q pv :: jC m K :: I0) (C) _ _ _ aQ aF aD (⟨0, [], none, 0, by omega, rfl, rfl, fun r hr => by simp at hr, rfl, rfl, rfl⟩) ?_
 rintro kk G M I ⟨j, rows, qo, co, hj, rfl, hq, hl, rfl, rfl, rfl⟩
 have hrl : rows.length ≤ j := by have := congrArg List.length hq; rw [List.length_map, List.length_map] at this; have := aPD (pv := pv) (j := j); omega
 by_cases hjC : j < C
 ·have hCn := fun M0 I0 h => aEJ (X := X) (w0 := w0) (M0 := M0) (I0 := I0) (p := q) (l := zs pv) (t := pv.length) (c := c) (x := (j : Int)) hz (by omega) h
  by_cases hjp : j ∈ pv
  ·rw [dZ (aRE.2 hjp)] at hCn
   repeat (refine aK ?_)
   (refine aA rfl (hCn _ _ aB) rfl rfl ?_; rintro _ _ _ ⟨rfl, rfl, rfl⟩; refine ⟨okF, ?_⟩)
   repeat (refine aK ?_)
   refine aG (C - (j + 1)) _ _ _ (by first | omega | (simp only [List.length_append, List.length_cons, List.length_nil]; omega)) aQ aF aD (⟨j + 1, rows, qo, co, by omega, rfl, by rw [aBL, if_pos hjp]; exact hq, hl, rfl, rfl, rfl⟩)
  ·rw [dF (fun h => hjp (aRE.1 h))] at hCn
   repeat (refine aK ?_)
   (refine aA rfl (hCn _ _ aB) rfl rfl ?_; rintro _ _ _ ⟨rfl, rfl, rfl⟩; refine ⟨okF, ?_⟩)
   repeat (refine aK ?_)
   rw [m0]
   (refine lJ (C) rfl rfl (by omega) (by omega) (by omega) (by omega) (xN (enc := e4) (by decide) z4 C) rfl rfl ?_; intro bi; refine ⟨okF, ?_⟩)
   repeat (refine aK ?_)
   refine fI (φ := dV [] K) Hv.nilR ?_
   refine aT [4, 5, 7, 8, 9, 25, 26, 38] rfl (fun k G M I => ∃ (x : Nat) (es : List RE), x ≤ C ∧ k = C - x ∧ es.length = x ∧ (∀ t : Nat, t < x → (gt es (t : Int)).q = if t = j then 1 else 0) ∧ G = [(39, .int .i64 x)] ∧ M = .blk bi (recs e4 (es.map t4 ++ List.replicate (C - x) z4)) 46 :: .row qo rows.length co (recs eL rows) 48 1 :: M0 ∧ I = dV es K :: qK rows K :: aW m.p (recs eL m.rows) :: pvI q pv :: jC m K :: I0) (C) _ _ _ aQ aF aD (⟨0, [], by omega, by omega, rfl, fun t ht => by omega, rfl, rfl, rfl⟩) ?_
   rintro kk G M I ⟨x, es, hx, rfl, hel, heq, rfl, rfl, rfl⟩
   by_cases hxC : x < C
   ·have hz2 := xQ (n := C - x) (z := z4) (by omega)
    have hl2 : ((es.map t4 ++ z4 :: List.replicate (C - x - 1) z4).length : Int) = C := by simp; omega
    have hU := fun M0 I0 => aSY (X := X) (w0 := w0) (M0 := M0) (I0 := I0) (i := (x : Int)) (j := (j : Int))
    rw [hz2]
    repeat (refine aK ?_)
    (refine aA rfl (hU _ _) rfl rfl ?_; rintro _ _ _ ⟨rfl, e, rfl, he, rfl⟩; refine ⟨okF, ?_⟩)
    repeat (refine yXh ?_)
    refine fK (vs := eR e) rfl rfl rfl (Ones.one e) jZ (StAts.r (t4 e) (by omega) rfl) rfl rfl ⟨okF, ?_⟩
    rw [aIN (by simp; omega)]
    repeat (refine aK ?_)
    refine iW (φ := fB e K) (Hv.q (k := 0) aB (by omega)) ?_
    refine iW (φ := dV (es ++ [e]) K) (Hv.snoc aB aB) ?_
    have e9 : es.map t4 ++ t4 e :: List.replicate (C - x - 1) z4 = (es ++ [e]).map t4 ++ List.replicate (C - (x + 1)) z4 := by simp [Nat.sub_sub]
    rw [e9]
    refine aG (C - (x + 1)) _ _ _ (by first | omega | (simp only [List.length_append, List.length_cons, List.length_nil]; omega)) aQ aF aD (⟨x + 1, es ++ [e], by omega, rfl, by simp; omega, fun t ht => ?_, rfl, rfl, rfl⟩)
    by_cases e1 : t < x
    ·have : gt (es ++ [e]) (t : Int) = gt es (t : Int) := by rw [dH (by simp; omega), dH (by omega), List.getElem_append_left (by omega)]
     rw [this]; exact heq t e1
    ·have : gt (es ++ [e]) (t : Int) = e := aHU (A := es) (B := []) (by omega)
     rw [this, he]
     obtain rfl : t = x := by omega
     by_cases e2 : t = j
     ·rw [if_pos e2, if_pos (by omega)]
     ·rw [if_neg e2, if_neg (by omega)]
   ·obtain rfl : x = C := by omega
    rw [Nat.sub_self, List.replicate_zero, List.append_nil, aJO]
    repeat (refine aK ?_)
    refine aT [4, 5, 7, 8, 9, 25, 26, 49, 50] rfl (fun k G M I => ∃ (r : Nat) (es2 : List RE), r ≤ pv.length ∧ k = pv.length - r ∧ es2.length = x ∧ (∀ t : Nat, t < x → (gt es2 (t : Int)).q = if t ∈ pv ∧ pv.idxOf t < r then - at2 m.q (pv.idxOf t) j else if t = j then 1 else 0) ∧ G = [(51, .int .i64 r)] ∧ M = .blk bi (recs eR es2) 46 :: .row qo rows.length co (recs eL rows) 48 1 :: M0 ∧ I = dV es2 K :: qK rows K :: aW m.p (recs eL m.rows) :: pvI q pv :: jC m K :: I0) (pv.length) _ _ _ aQ aF aD (⟨0, es, by omega, by omega, hel, fun t ht => by rw [if_neg (by omega)]; exact heq t ht, rfl, rfl, rfl⟩) ?_
    rintro kk G M I ⟨r, es2, hr2, rfl, hel2, heq2, rfl, rfl, rfl⟩
    by_cases hrp : r < pv.length
    ·have hgz := aKU hrp
     have hpr := hpi r hrp
     have hmr := hd.row (i := r) (by omega)
     have hat := wT (m := m) (i := r) (j := j) (by omega) (by omega)
     refine fI (φ := aW (gt (m).rows (r : Int)).p (recs eR (gt (m).rows (r : Int)).es)) (Hv.xrsl aB (by omega)) ?_
     have hNg := fun M0 I0 h => aEC (X := X) (w0 := w0) (M0 := M0) (I0 := I0) (e := gt (gt m.rows (r : Int)).es (j : Int)) (k := K) (by omega) h
     repeat (refine aK ?_)
     rw [hgz]
     (refine aA rfl (hNg _ _ (Hv.xel aB (by omega) (by omega))) rfl rfl ?_; rintro _ _ _ ⟨rfl, e, rfl, he, rfl⟩; refine ⟨okF, ?_⟩)
     repeat (refine yXh ?_)
     refine fK (vs := eR e) rfl rfl rfl (Ones.one e) jZ (StAts.r e (by omega) rfl) rfl rfl ⟨okF, ?_⟩
     repeat (refine aK ?_)
     refine iW (φ := dV (st es2 ((pv.getD r 0 : Nat) : Int) e) K) (Hv.stR aB aB) ?_
     refine aG (pv.length - (r + 1)) _ _ _ (by first | omega | (simp only [List.length_append, List.length_cons, List.length_nil]; omega)) aQ aF aD (⟨r + 1, st es2 ((pv.getD r 0 : Nat) : Int) e, by omega, rfl, by rw [eF]; exact hel2, fun t ht => ?_, rfl, rfl, rfl⟩)
     rw [qM (by omega)]
     by_cases e1 : t = pv.getD r 0
     ·subst e1
      rw [if_pos rfl, if_pos ⟨kH.2 ⟨r, hrp, rfl⟩, by rw [hidx r hrp]; omega⟩, he, hidx r hrp, hat]
     ·rw [if_neg e1, heq2 t ht]
      by_cases e2 : t ∈ pv
      ·have e3 : pv.idxOf t ≠ r := fun e => e1 (by rw [← e]; exact (Red.idx_lt e2).2.symm)
       by_cases e4 : pv.idxOf t < r
       ·rw [if_pos ⟨e2, e4⟩, if_pos ⟨e2, by omega⟩]
       ·rw [if_neg (show ¬ (t ∈ pv ∧ pv.idxOf t < r) from fun h => e4 h.2), if_neg (show ¬ (t ∈ pv ∧ pv.idxOf t < r + 1) from fun h => by have := h.2; omega)]
      ·rw [if_neg (show ¬ (t ∈ pv ∧ pv.idxOf t < r) from fun h => e2 h.1), if_neg (show ¬ (t ∈ pv ∧ pv.idxOf t < r + 1) from fun h => e2 h.1)]
    ·obtain rfl : r = pv.length := by omega
     have hV : qs es2 = zQ m.q pv x j := by
      apply pI
      ·simp [zQ, hel2]
      ·intro t ht
       have ht' : t < x := by simpa [hel2] using ht
       rw [kF (by omega), heq2 t ht', aQW ht']
       unfold nI
       by_cases e2 : t ∈ pv
       ·rw [if_pos ⟨e2, (Red.idx_lt e2).1⟩, if_pos e2]
       ·rw [if_neg (fun h => e2 h.1), if_neg e2]
     repeat (refine aK ?_)
     refine aRM (k := K) aB ?_
     rw [hel2]
     have hvv : Value.slice (some ⟨bi, 0, none⟩) x x = lv (⟨some ⟨bi, 0, none⟩, x, es2⟩ : RL) := by show _ = Value.slice _ es2.length _; rw [hel2]
     rw [hvv]
     (refine aP (cs := recs eL [(⟨some ⟨bi, 0, none⟩, x, es2⟩ : RL)]) ([lv (⟨some ⟨bi, 0, none⟩, x, es2⟩ : RL)]) rfl rfl (by intro v hv; repeat (first | exact absurd hv (List.not_mem_nil) | (rcases List.mem_cons.1 hv with rfl | hv; · rfl))) (by omega) rfl rfl rfl ?_; intro bb; refine ⟨okF, ?_⟩)
     (refine dC (ys := [(⟨some ⟨bi, 0, none⟩, x, es2⟩ : RL)]) 1 rfl rfl rfl ?_ (by decide) rfl (by omega) (by omega) rfl rfl ?_; (· first | exact Src.blk aB | exact Src.row aB | exact Src.imm aB (by first | assumption | exact .inl (Ok.mk _ _))); intro q2 c2; refine ⟨okF, ?_⟩)
     repeat (refine aK ?_)
     refine iW (φ := qK (rows ++ [(⟨some ⟨bi, 0, none⟩, x, es2⟩ : RL)]) K) (Hv.snocL aB aB) ?_
     refine aG (x - (j + 1)) _ _ _ (by first | omega | (simp only [List.length_append, List.length_cons, List.length_nil]; omega)) aQ aF aD (⟨j + 1, rows ++ [(⟨some ⟨bi, 0, none⟩, x, es2⟩ : RL)], q2, c2, by omega, rfl, ?_, fun r hr => ?_, rfl, rfl, rfl⟩)
     ·rw [aEI, hq, aBL, if_neg hjp, List.map_append]
      show _ ++ [qs es2] = _ ++ [zQ m.q pv x j]
      rw [hV]
     ·rcases List.mem_append.1 hr with h | h
      ·exact hl r h
      ·rw [List.mem_singleton.1 h]; exact hel2
 ·obtain rfl : j = C := by omega
  repeat (refine aK ?_)
  refine aER (k := K) aB ?_
  refine iD [2, 3] (by first | exact .inl rfl | exact .inr rfl) rfl rfl rfl _ _ aF aD (⟨rfl, ⟨qo, co, rows⟩, rfl, by unfold aCE aNF; rw [hm]; exact hq, hl, rfl⟩)
end
end Go.Proofs.YtkccjglmnhgabaaGreatDoor
namespace Go.Proofs.YtkccjglmnhgabaaGreatDoor
open Go Go.Fx
theorem aDO {α : Type} {key : α → Int} : ∀ (xs ys : List α), (mg key xs ys).Perm (xs ++ ys)
 | [], ys => by simp [mg]
 | x :: xs, [] => by rw [yF]; simp
 | x :: xs, y :: ys => by
  rw [qE]
  by_cases h : key x ≤ key y
  ·rw [if_pos h]; exact List.Perm.cons _ (aDO xs (y :: ys))
  ·rw [if_neg h]
   exact (List.Perm.cons _ (aDO (x :: xs) ys)).trans List.perm_middle.symm
 termination_by xs ys => xs.length + ys.length
theorem aFN {α : Type} {key : α → Int} (l : List α) : (xR key l).Perm l := by
 have h : ∀ (l acc : List α), (l.foldl (fun acc x => mg key acc [x]) acc).Perm (acc ++ l) := by
  intro l
  induction l with
  | nil => intro acc; simp
  | cons x r ih =>
   intro acc
   refine (ih (mg key acc [x])).trans ?_
   have := (aDO (key := key) acc [x]).append_right r
   simpa using this
 simpa [xR] using h l []
section
variable {X : List Nat} {w0 : World} {M0 : List Ent} {I0 : List bB}
theorem aMS {q : Option Addr} {n c : Nat} : CD Tryz.prog 35 [.slice q n c] X w0 M0 I0 (fun v M I => M0 = M ∧ ∃ b, v = .func (.func 70) #[] #[.pointer (some ⟨b, 0, none⟩)] ∧ I = aW (some ⟨b, 0, none⟩) [.slice q n c] :: I0) := by
 refine bC Tryz.func35 rfl Tryz.ntmps35 rfl ?_
 refine aJ ?_
 refine aL ?_
 (refine xG rfl rfl rfl ?_; intro b1; refine ⟨okF, ?_⟩)
 repeat (refine aK ?_)
 refine aH (by first | exact .inl rfl | exact .inr rfl) rfl rfl _ _ aF aD (⟨rfl, b1, rfl, rfl⟩)
theorem aLD {q : Option Addr} {zs : List Int} {c b n : Nat} (hl : zs.length = n) (hn : n ≤ 12) (hb : aW (some ⟨b, 0, none⟩) [.slice q n c] ∈ I0) (hq : aW q (recs eZ zs) ∈ I0) :
  CD Tryz.prog 34 [.func (.func 70) #[] #[.pointer (some ⟨b, 0, none⟩)]] X w0 M0 I0 (fun v M I => M0 = M ∧ ∃ q' c', v = .slice q' n c' ∧ I = aW q' (recs eZ (xR id zs)) :: I0) := by
 subst hl
 have hA := fun M0 I0 hb hq => aSW (X := X) (w0 := w0) (M0 := M0) (I0 := I0) (q := q) (zs := zs) (c := c) (Bs := b) (by omega) hb hq
 have hC : ∀ M0 I0, aW (some ⟨b, 0, none⟩) [.slice q zs.length c] ∈ I0 → aW q (recs eZ zs) ∈ I0 → CD Tryz.prog 68 [.func (.func 70) #[] #[.pointer (some ⟨b, 0, none⟩)]] X w0 M0 I0 (fun v M I => I0 = I ∧ ∃ q' c', v = .slice q' zs.length c' ∧ M = .row q' zs.length c' (recs eZ zs) 3 1 :: M0) := fun M0 I0 h1 h2 => by
  refine bC Tryz.func68 rfl Tryz.ntmps68 rfl ?_
  repeat (refine aK ?_)
  (refine aA rfl (hA _ _ aB aB) rfl rfl ?_; rintro _ _ _ ⟨rfl, q', c', rfl, rfl⟩; refine ⟨okF, ?_⟩)
  repeat (refine aK ?_)
  refine aH (by first | exact .inl rfl | exact .inr rfl) rfl rfl _ _ aF aD (⟨rfl, q', c', rfl, rfl⟩)
 refine bC Tryz.func34 rfl Tryz.ntmps34 rfl ?_
 repeat (refine aK ?_)
 (refine aA rfl (hC _ _ aB aB) rfl rfl ?_; rintro _ _ _ ⟨rfl, q1, c1, rfl, rfl⟩; refine ⟨okF, ?_⟩)
 refine nH (φ := q1 = none → c1 = 0) (fun w hw h0 => ?_) (fun hc0 => ?_)
 ·have ho : w.ownsRow 0 3 1 (.slice q1 zs.length c1) zs.length (recs eZ zs) := hw.ent _ List.mem_cons_self
  rcases ho.2 with ⟨h1, _⟩ | ⟨g, cap, cur, h1, _⟩
  ·injection h1
  ·rw [h0] at h1; injection h1 with h2; cases h2
 refine xZ (fun h1 h2 h3 => ?_) (fun bq tl e hle => ?_)
 ·subst h1
  obtain rfl := hc0 rfl
  have hz : zs = [] := List.length_eq_zero_iff.1 h2
  subst hz
  repeat (refine aK ?_)
  (refine aA rfl (aNU) rfl rfl ?_; rintro _ _ _ ⟨rfl, rfl⟩; refine ⟨okF, ?_⟩)
  repeat (refine aK ?_)
  refine vJ .here ?_
  refine aH (by first | exact .inl rfl | exact .inr rfl) rfl rfl _ _ aF aD (⟨rfl, none, 0, rfl, rfl⟩)
 ·subst e
  repeat (refine aK ?_)
  (refine aA rfl (aTJ (b := bq) (tl := tl) (D := zs) rfl hn) rfl rfl ?_; rintro _ _ _ ⟨rfl, rfl⟩; refine ⟨okF, ?_⟩)
  repeat (refine aK ?_)
  refine aIB .here ?_
  refine aPY (cs := recs eZ (xR id zs)) (tl := tl) aB ?_
  refine rV (M' := M0) (I' := aW (some ⟨bq, 0, none⟩) (recs eZ (xR id zs)) :: I0) SubP.refl aD ?_
  refine aH (by first | exact .inl rfl | exact .inr rfl) rfl rfl _ _ aF aD (⟨rfl, _, _, rfl, rfl⟩)
end
end Go.Proofs.YtkccjglmnhgabaaGreatDoor
namespace Go.Proofs.YtkccjglmnhgabaaGreatDoor
open Go Go.Fx
def bes1 (R C : Nat) (A : Mt) (b : List Rat) : Mt := uY R (C + 1) (fun i j => if j < C then at2 A i j else b.getD i 0)
def besU (R C : Nat) (A : Mt) (b : List Rat) : Mt := uY R (C + 1 + R) (fun i j => if j < C then at2 A i j else if j = C then b.getD i 0 else dlt i (j - (C + 1)))
theorem aAK {R C : Nat} {F : Nat → Nat → Rat} : kK (uY R C F) R C := ⟨by simp [uY], fun i hi => by simp [uY, rowAt, List.getD, hi]⟩
def solB (R C : Nat) (f : Nat → Nat → Rat) (pv : List Nat) : Prop := ∀ i ∈ List.range R, pv.length ≤ i → f i C = 0
instance (R C : Nat) (f : Nat → Nat → Rat) (pv : List Nat) : Decidable (solB R C f pv) := by unfold solB; exact inferInstance
def solP (R C : Nat) (A : Mt) (b : List Rat) : Prop := solB R C (at2 (mE (bes1 R C A b) C).1) (mE (bes1 R C A b) C).2
instance (R C : Nat) (A : Mt) (b : List Rat) : Decidable (solP R C A b) := by unfold solP; exact inferInstance
def solL (R C : Nat) (A : Mt) (b : List Rat) : List Rat := (List.range C).map (solF (at2 (mE (bes1 R C A b) C).1) (mE (bes1 R C A b) C).2 C)
/- the wider matrix tells the same -/
section
variable {X : List Nat} {w0 : World} {M0 : List Ent} {I0 : List bB}
end
end Go.Proofs.YtkccjglmnhgabaaGreatDoor

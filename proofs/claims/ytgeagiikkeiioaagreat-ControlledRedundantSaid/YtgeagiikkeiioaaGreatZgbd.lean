/- matrix: Echelon, Rank, Null. The document's minor and determinant. Matrices that the document builds and then writes into: rows with room behind them. -/
import Derived.Test.YtgeagiikkeiioaaGreatZgbb
import Derived.Test.YtgeagiikkeiioaaGreatZgbc
import Derived.Test.YtgeagiikkeiioaaGreatZgaw
import Derived.Test.YtgeagiikkeiioaaGreatZgba
import Derived.Test.YtgeagiikkeiioaaGreatZgav
set_option linter.unusedSimpArgs false
set_option linter.unusedVariables false
set_option maxRecDepth 100000
set_option maxHeartbeats 4000000
namespace Go.Proofs.YtgeagiikkeiioaaGreat
open Go Go.Fx
abbrev pvI (q : Option Addr) (pv : List Nat) : bA := aT q (recs eZ (zs pv))
def EchP (A : Mt) (R C k : Nat) (M0 : List Ent) (I0 : List bA) (v : Value) (M : List Ent) (I : List bA) : Prop :=
 M0 = M ∧ ∃ (m : MX) (pv : List Nat) (q : Option Addr) (c : Nat), v = .tuple #[mv m, .slice q pv.length c, .int .i64 0] ∧ iH A C = (m.q, pv) ∧ m.dim R C ∧ I = pvI q pv :: gD m k :: I0
def NlP (A : Mt) (C k : Nat) (M0 : List Ent) (I0 : List bA) (v : Value) (M : List Ent) (I : List bA) : Prop :=
 M0 = M ∧ ∃ m : MX, v = .tuple #[mv m, .int .i64 0] ∧ m.q = zB A C ∧ (∀ r ∈ m.rows, r.es.length = C) ∧ I = gD m k :: I0
theorem aOB {pv : List Nat} {j : Nat} : (j : Int) ∈ zs pv ↔ j ∈ pv := by
 rw [List.mem_map]
 exact ⟨fun ⟨x, hx, e⟩ => by obtain rfl : x = j := by omega
                             exact hx, fun h => ⟨j, h, rfl⟩⟩
theorem aPH {pv : List Nat} {r : Nat} (h : r < pv.length) : gt (zs pv) (r : Int) = ((pv.getD r 0 : Nat) : Int) := by
 rw [dY (by simpa using h)]
 rw [mM h]
 simp
theorem aBB {pv : List Nat} {j : Nat} : rM pv (j + 1) = if j ∈ pv then rM pv j else rM pv j ++ [j] := by
 unfold rM
 rw [List.range_succ, List.filter_append]
 by_cases h : j ∈ pv
 ·rw [if_pos h]; simp [h]
 ·rw [if_neg h]; simp [h]
theorem aQE {pv : List Nat} {j : Nat} : (rM pv j).length ≤ j := by
 unfold rM
 exact Nat.le_trans (List.length_filter_le _ _) (by simp)
theorem oH {a : MX} {R C : Nat} (h : a.dim R C) : oV a.q R C := ⟨by simp [h.1], fun i hi => by
 rw [wL (by have := h.1; omega)]; simp [h.row hi]⟩
theorem MX.dim.red {a : MX} {R C : Nat} (h : a.dim R C) {E : Mt} {pv : List Nat} (hr : iH a.q C = (E, pv)) : ∃ s, Red R C C (at2 a.q) (at2 E) pv s := by
 obtain ⟨_, s, h2⟩ := iC (oH h) C (Nat.le_refl _)
 rw [hr] at h2
 exact ⟨s, h2⟩
section
variable {X : List Nat} {w0 : World} {M : List Ent} {I : List bA}
theorem Mem.blkL {w : World} {b k : Nat} {es : List RE} {ty : TypeId} (h : Mem X w0 (.blk b (recs eR es) ty :: M) I w) (ha : cK es k ∈ I) : Mem X w0 M (jP ⟨some ⟨b, 0, none⟩, es.length, es⟩ k :: I) w := by
 have h1 := h.freezeB .here
 refine (h1.add (φ := jP ⟨some ⟨b, 0, none⟩, es.length, es⟩ k) ⟨(h1.sl (List.Mem.head _)), (((h1.imm _ (List.Mem.tail _ ha)).2 : AllR es k _ w)).go, ⟨Nat.le_refl _, .inl (Ok.mk _ _)⟩⟩).inc (.of fun φ hφ => ?_)
 rcases List.mem_cons.1 hφ with rfl | hφ
 ·exact List.Mem.head _
 ·exact List.Mem.tail _ (List.Mem.tail _ hφ)
variable {P : Program} {n : Nat} {Q : Exit → Act → World → Prop} {G : Env}
theorem aSW {ops l : List Oper} {m : Fx.Mode} {b k : Nat} {es : List RE} {ty : TypeId} (ha : cK es k ∈ I) (h : RD P n ops Q m l G X w0 M (jP ⟨some ⟨b, 0, none⟩, es.length, es⟩ k :: I)) : RD P n ops Q m l G X w0 (.blk b (recs eR es) ty :: M) I := gH (fun _ hw => Mem.blkL hw ha) h
theorem aKJ {ex : Exit} {b k : Nat} {es : List RE} {ty : TypeId} (ha : cK es k ∈ I) (h : ND n Q ex G X w0 M (jP ⟨some ⟨b, 0, none⟩, es.length, es⟩ k :: I)) : ND n Q ex G X w0 (.blk b (recs eR es) ty :: M) I := yL (fun _ hw => Mem.blkL hw ha) h
end
section
variable {X : List Nat} {w0 : World} {M0 : List Ent} {I0 : List bA}
theorem aMP {p : Option Addr} {l : List Int} {t c : Nat} {x : Int} (hl : l.length = t) (ht : t ≤ 100000) (hp : aT p (recs (eI .i64) l) ∈ I0) :
  CD Tryz.prog 120 [.slice p t c, .int .i64 x] X w0 M0 I0 (fun v M I => M0 = M ∧ I0 = I ∧ ∃ r : Int, v = .int .i64 r ∧ (0 ≤ r ↔ x ∈ l)) := by
 refine bD Tryz.func120 rfl Tryz.ntmps120 rfl ?_
 repeat (refine aK ?_)
 refine aS [0, 1, 7] rfl (fun k G M I => ∃ i : Nat, i ≤ t ∧ k = t - i ∧ (∀ j : Nat, j < i → gt l j ≠ x) ∧ G = [(8, .int .i64 i)] ∧ M0 = M ∧ I0 = I) (t) _ _ _ aO aC aD (⟨0, by omega, rfl, fun j hj => by omega, rfl, rfl, rfl⟩) ?_
 rintro kk G M I ⟨i, hi, rfl, hs, rfl, rfl, rfl⟩
 by_cases h : i < t
 ·by_cases he : x = gt l i
  ·repeat (refine aK ?_)
   refine aH (by first | exact .inl rfl | exact .inr rfl) rfl rfl _ _ aC aD (⟨rfl, rfl, (i : Int), rfl, ⟨fun _ => by { rw [he]; exact cZ (by omega) }, fun _ => by omega⟩⟩)
  ·repeat (refine aK ?_)
   refine aM (t - (i + 1)) _ _ _ (by first | omega | (simp only [List.length_append, List.length_cons, List.length_nil]; omega)) aO aC aD (⟨i + 1, by omega, rfl, fun j hj => ?_, rfl, rfl, rfl⟩)
   by_cases e : j = i
   ·subst e; exact fun h => he h.symm
   ·exact hs j (by omega)
 ·repeat (refine aK ?_)
  refine aH (by first | exact .inl rfl | exact .inr rfl) rfl rfl _ _ aC aD (⟨rfl, rfl, -1, rfl, ⟨fun h => by omega, fun h => by { obtain ⟨j, hj, e⟩ := List.mem_iff_getElem.1 h; exact absurd (by rw [jC hj]; exact e) (hs j (by omega)) }⟩⟩)
theorem aFA {p : Option Addr} {l : List Int} {t c : Nat} {x : Int} (hl : l.length = t) (ht : t ≤ 100000) (hp : aT p (recs (eI .i64) l) ∈ I0) :
  CD Tryz.prog 62 [.slice p t c, .int .i64 x] X w0 M0 I0 (fun v M I => M0 = M ∧ I0 = I ∧ v = .bool (B (x ∈ l))) := by
 refine bD Tryz.func62 rfl Tryz.ntmps62 rfl ?_
 repeat (refine aK ?_)
 (refine aA rfl (aMP hl ht hp) rfl rfl ?_; rintro _ _ _ ⟨rfl, rfl, r, rfl, h⟩; refine ⟨okF, ?_⟩)
 repeat (refine aK ?_)
 refine aH (by first | exact .inl rfl | exact .inr rfl) rfl rfl _ _ aC aD (⟨rfl, rfl, congrArg Value.bool (jU h)⟩)
/- reduce, and what it changed is only read from now on -/
theorem vO {bo R C n k0 : Nat} {rows : List MR} {M1 : List Ent} (hR : rows.length = R) (hRb : R ≤ 100) (hCb : C ≤ 200) (hC : ∀ r ∈ rows, r.es.length = C) (hn : n ≤ C) (hk : kb k0 n ≤ 50000000000) (hA : allM rows k0 ∈ I0)
  (hM : M0 = .blk bo (recs eM rows) 34 :: (rows.map gF ++ M1)) :
  CD Tryz.prog 165 [.slice (some ⟨bo, 0, none⟩) R R, .int .i64 (n : Int)] X w0 M0 I0 (fun v M I => M1 = M ∧ ∃ (x : MX) (pv : List Nat) (q : Option Addr) (c : Nat), v = .slice q pv.length c ∧ x.p = some ⟨bo, 0, none⟩ ∧ x.c = R ∧ x.dim R C ∧ iH (mq rows) n = (x.q, pv) ∧ pv.length ≤ R ∧ I = pvI q pv :: gD x (kb k0 n) :: I0) := by
 refine CD.post (aMB hR hRb hCb hC hn hk hA hM) (fun v M I w h hw => ?_)
 obtain ⟨rows2, pv, q, c, rfl, hl, hc, hred, hpv, rfl, rfl⟩ := h
 have h1 : Mem X w0 (.blk bo (recs eM rows2) 34 :: (rows2.map gF ++ M1)) (pvI q pv :: allM rows2 (kb k0 n) :: I0) w := hw.freezeR .here
 have h2 := aDZ (k := kb k0 n) h1 (List.Mem.tail _ (List.Mem.head _))
 refine ⟨M1, pvI q pv :: gD (MR.x bo rows2) (kb k0 n) :: I0, ⟨rfl, MR.x bo rows2, pv, q, c, rfl, rfl, hl, ⟨?_, fun r hr => ?_⟩, by rw [q_x]; exact hred, hpv, rfl⟩, h2.inc (.of fun φ hφ => ?_)⟩
 ·show (rows2.map MR.l).length = R; rw [List.length_map, hl]
 ·obtain ⟨s, hs, rfl⟩ := List.mem_map.1 hr
  exact hc s hs
 ·rcases List.mem_cons.1 hφ with rfl | hφ
  ·exact List.Mem.tail _ (List.Mem.head _)
  ·rcases List.mem_cons.1 hφ with rfl | hφ
   ·exact List.Mem.head _
   ·exact List.Mem.tail _ (List.Mem.tail _ (List.Mem.tail _ hφ))
/- a matrix made is only read from now on -/
theorem mkXQ {f : FuncId} {vs : List Value} {R C k : Nat} {F : Nat → Nat → Rat} (h : CD Tryz.prog f vs X w0 M0 I0 (MkP R C F k M0 I0)) : CD Tryz.prog f vs X w0 M0 I0 (XQ (vE R C F) R C k M0 I0) := by
 refine CD.post h (fun v M I w h hw => ?_)
 obtain ⟨bo, rows, rfl, hl, hc, hF, rfl, rfl⟩ := h
 refine ⟨M0, gD (MR.x bo rows) k :: I0, ⟨rfl, MR.x bo rows, ?_, ?_, ⟨by simp [MR.x, hl], fun r hr => ?_⟩, rfl⟩, (aDZ hw (List.Mem.head _)).inc (.of fun φ hφ => by
  rcases List.mem_cons.1 hφ with rfl | hφ
  ·exact List.Mem.head _
  ·exact List.Mem.tail _ (List.Mem.tail _ hφ))⟩
 ·have e : (MR.x bo rows).rows.length = R := by show (rows.map MR.l).length = R; rw [List.length_map, hl]
  have e2 : (MR.x bo rows).c = R := hl
  show _ = Value.slice (MR.x bo rows).p (MR.x bo rows).rows.length (MR.x bo rows).c
  rw [e, e2]; rfl
 ·rw [q_x]; exact hF
 ·obtain ⟨s, hs, rfl⟩ := List.mem_map.1 hr
  exact hc s hs
theorem aIF {a : MX} {R C k0 : Nat} (hb : kb k0 C ≤ 20000000000) (da : a.fit R C) (ha : gD a k0 ∈ I0) : CD Tryz.prog 134 [mv a] X w0 M0 I0 (EchP a.q R C (kb k0 C) M0 I0) := by
 have hk0 : k0 ≤ 20000000000 := Nat.le_trans (nH k0 (Nat.zero_le C)) hb
 obtain ⟨r1, r2⟩ := da.2.1
 obtain ⟨c1, c2⟩ := da.2.2
 have hC := fun M0 I0 h1 => aDD (X := X) (w0 := w0) (M0 := M0) (I0 := I0) (a := a) (k := k0) (by omega) da h1
 refine bE Tryz.func134 rfl Tryz.ntmps134 rfl ?_
 repeat (refine aK ?_)
 (refine aA rfl (hC _ _ aB) rfl rfl ?_; rintro _ _ _ ⟨rfl, rfl, rfl⟩; refine ⟨okF, ?_⟩)
 repeat (refine aK ?_)
 (refine aA rfl (aIO da aB) rfl rfl ?_; rintro _ _ _ ⟨bo, rows0, rfl, hl0, hc0, hq0, rfl, rfl⟩; refine ⟨okF, ?_⟩)
 have lC : (gt rows0 0).es.length = C := hc0 _ (cZ (by omega))
 have hmq0 : mq rows0 = a.q := by rw [da.1.mk]; exact hq0
 repeat (refine aK ?_)
 rw [lC]
 have hRd := fun I0 h => vO (X := X) (w0 := w0) (M0 := .blk bo (recs eM rows0) 34 :: (rows0.map gF ++ M0)) (I0 := I0) (bo := bo) (R := R) (C := C) (n := C) (k0 := k0) (rows := rows0) (M1 := M0) hl0 (by omega) (by omega) hc0 (by omega) (by omega) h rfl
 (refine aA rfl (hRd _ aB) rfl rfl ?_; rintro _ _ _ ⟨rfl, x, pv, q, c, rfl, xp, xc, xd, hred, hpv, rfl⟩; refine ⟨okF, ?_⟩)
 rw [hmq0] at hred
 repeat (refine aK ?_)
 refine dZ [2, 3, 4] (by first | exact .inl rfl | exact .inr rfl) rfl rfl rfl _ _ aC aD (⟨rfl, x, pv, q, c, ?_, hred, xd, rfl⟩)
 show _ = Value.tuple #[.slice x.p x.rows.length x.c, _, _]
 rw [xd.1, xp, xc]
theorem aSX {a : MX} {R C k0 : Nat} (hb : kb k0 C ≤ 20000000000) (da : a.fit R C) (ha : gD a k0 ∈ I0) : CD Tryz.prog 75 [mv a] X w0 M0 I0 (NlP a.q C (kb k0 C) M0 I0) := by
 obtain ⟨r1, r2⟩ := da.2.1
 obtain ⟨c1, c2⟩ := da.2.2
 refine bE Tryz.func75 rfl Tryz.ntmps75 rfl ?_
 repeat (refine aK ?_)
 (refine aA rfl (aIF hb da aB) rfl rfl ?_; rintro _ _ _ ⟨rfl, m, pv, q, c, rfl, hm, hd, rfl⟩; refine ⟨okF, ?_⟩)
 obtain ⟨s, hr⟩ := da.1.red hm
 have hlen := hr.len
 have hpi : ∀ r : Nat, r < pv.length → pv.getD r 0 < C := fun r h => hr.piv_lt h
 have hidx : ∀ r : Nat, r < pv.length → pv.idxOf (pv.getD r 0) = r := fun r h => hr.idx h
 have mR := hd.1
 have m0 : (gt m.rows 0).es.length = C := hd.row (i := 0) (by omega)
 have hz : (zs pv).length = pv.length := by simp
 generalize hK : kb k0 C = K at *
 refine iA (φ := aT (m).p (recs eL (m).rows)) (Hv.xsl aB) ?_
 repeat (refine aK ?_)
 refine mI 34 1 ?_
 refine bL (φ := mK [] K) Hv.nilL ?_
 repeat (refine aK ?_)
 rw [m0]
 refine aS [4, 5, 25] rfl (fun k G M I => ∃ (j : Nat) (rows : List RL) (qo : Option Addr) (co : Nat), j ≤ C ∧ k = C - j ∧ rows.map RL.q = (rM pv j).map (sW m.q pv C) ∧ (∀ r ∈ rows, r.es.length = C) ∧ G = [(7, .slice qo rows.length co), (26, .int .i64 j)] ∧ M = .row qo rows.length co (recs eL rows) 34 1 :: M0 ∧ I = mK rows K :: aT m.p (recs eL m.rows) :: pvI q pv :: gD m K :: I0) (C) _ _ _ aO aC aD (⟨0, [], none, 0, by omega, rfl, rfl, fun r hr => by simp at hr, rfl, rfl, rfl⟩) ?_
 rintro kk G M I ⟨j, rows, qo, co, hj, rfl, hq, hl, rfl, rfl, rfl⟩
 have hrl : rows.length ≤ j := by have := congrArg List.length hq; rw [List.length_map, List.length_map] at this; have := aQE (pv := pv) (j := j); omega
 by_cases hjC : j < C
 ·have hCn := fun M0 I0 h => aFA (X := X) (w0 := w0) (M0 := M0) (I0 := I0) (p := q) (l := zs pv) (t := pv.length) (c := c) (x := (j : Int)) hz (by omega) h
  by_cases hjp : j ∈ pv
  ·rw [bR (aOB.2 hjp)] at hCn
   repeat (refine aK ?_)
   (refine aA rfl (hCn _ _ aB) rfl rfl ?_; rintro _ _ _ ⟨rfl, rfl, rfl⟩; refine ⟨okF, ?_⟩)
   repeat (refine aK ?_)
   refine aM (C - (j + 1)) _ _ _ (by first | omega | (simp only [List.length_append, List.length_cons, List.length_nil]; omega)) aO aC aD (⟨j + 1, rows, qo, co, by omega, rfl, by rw [aBB, if_pos hjp]; exact hq, hl, rfl, rfl, rfl⟩)
  ·rw [aY (fun h => hjp (aOB.1 h))] at hCn
   repeat (refine aK ?_)
   (refine aA rfl (hCn _ _ aB) rfl rfl ?_; rintro _ _ _ ⟨rfl, rfl, rfl⟩; refine ⟨okF, ?_⟩)
   repeat (refine aK ?_)
   rw [m0]
   (refine jM (C) rfl rfl (by omega) (by omega) (by omega) (by omega) (pK (enc := e4) (by decide) z4 C) rfl rfl ?_; intro bi; refine ⟨okF, ?_⟩)
   repeat (refine aK ?_)
   refine bL (φ := cK [] K) Hv.nilR ?_
   refine aS [4, 5, 7, 8, 9, 25, 26, 38] rfl (fun k G M I => ∃ (x : Nat) (es : List RE), x ≤ C ∧ k = C - x ∧ es.length = x ∧ (∀ t : Nat, t < x → (gt es (t : Int)).q = if t = j then 1 else 0) ∧ G = [(39, .int .i64 x)] ∧ M = .blk bi (recs e4 (es.map t4 ++ List.replicate (C - x) z4)) 42 :: .row qo rows.length co (recs eL rows) 34 1 :: M0 ∧ I = cK es K :: mK rows K :: aT m.p (recs eL m.rows) :: pvI q pv :: gD m K :: I0) (C) _ _ _ aO aC aD (⟨0, [], by omega, by omega, rfl, fun t ht => by omega, rfl, rfl, rfl⟩) ?_
   rintro kk G M I ⟨x, es, hx, rfl, hel, heq, rfl, rfl, rfl⟩
   by_cases hxC : x < C
   ·have hz2 := pJ (n := C - x) (z := z4) (by omega)
    have hl2 : ((es.map t4 ++ z4 :: List.replicate (C - x - 1) z4).length : Int) = C := by simp; omega
    have hU := fun M0 I0 => aKN (X := X) (w0 := w0) (M0 := M0) (I0 := I0) (i := (x : Int)) (j := (j : Int))
    rw [hz2]
    repeat (refine aK ?_)
    (refine aA rfl (hU _ _) rfl rfl ?_; rintro _ _ _ ⟨rfl, e, rfl, he, rfl⟩; refine ⟨okF, ?_⟩)
    repeat (refine yXh ?_)
    refine fH (vs := eR e) rfl rfl rfl (Ones.one e) kU (StAts.r (t4 e) (by omega) rfl) rfl rfl ⟨okF, ?_⟩
    rw [vQ (by simp; omega)]
    repeat (refine aK ?_)
    refine fM (φ := eQ e K) (Hv.q (k := 0) aB (by omega)) ?_
    refine fM (φ := cK (es ++ [e]) K) (Hv.snoc aB aB) ?_
    have e9 : es.map t4 ++ t4 e :: List.replicate (C - x - 1) z4 = (es ++ [e]).map t4 ++ List.replicate (C - (x + 1)) z4 := by simp [Nat.sub_sub]
    rw [e9]
    refine aM (C - (x + 1)) _ _ _ (by first | omega | (simp only [List.length_append, List.length_cons, List.length_nil]; omega)) aO aC aD (⟨x + 1, es ++ [e], by omega, rfl, by simp; omega, fun t ht => ?_, rfl, rfl, rfl⟩)
    by_cases e1 : t < x
    ·have : gt (es ++ [e]) (t : Int) = gt es (t : Int) := by rw [dY (by simp; omega), dY (by omega), List.getElem_append_left (by omega)]
     rw [this]; exact heq t e1
    ·have : gt (es ++ [e]) (t : Int) = e := tT (A := es) (B := []) (by omega)
     rw [this, he]
     obtain rfl : t = x := by omega
     by_cases e2 : t = j
     ·rw [if_pos e2, if_pos (by omega)]
     ·rw [if_neg e2, if_neg (by omega)]
   ·obtain rfl : x = C := by omega
    rw [Nat.sub_self, List.replicate_zero, List.append_nil, wM]
    repeat (refine aK ?_)
    refine aS [4, 5, 7, 8, 9, 25, 26, 49, 50] rfl (fun k G M I => ∃ (r : Nat) (es2 : List RE), r ≤ pv.length ∧ k = pv.length - r ∧ es2.length = x ∧ (∀ t : Nat, t < x → (gt es2 (t : Int)).q = if t ∈ pv ∧ pv.idxOf t < r then - at2 m.q (pv.idxOf t) j else if t = j then 1 else 0) ∧ G = [(51, .int .i64 r)] ∧ M = .blk bi (recs eR es2) 42 :: .row qo rows.length co (recs eL rows) 34 1 :: M0 ∧ I = cK es2 K :: mK rows K :: aT m.p (recs eL m.rows) :: pvI q pv :: gD m K :: I0) (pv.length) _ _ _ aO aC aD (⟨0, es, by omega, by omega, hel, fun t ht => by rw [if_neg (by omega)]; exact heq t ht, rfl, rfl, rfl⟩) ?_
    rintro kk G M I ⟨r, es2, hr2, rfl, hel2, heq2, rfl, rfl, rfl⟩
    by_cases hrp : r < pv.length
    ·have hgz := aPH hrp
     have hpr := hpi r hrp
     have hmr := hd.row (i := r) (by omega)
     have hat := nK (m := m) (i := r) (j := j) (by omega) (by omega)
     refine bL (φ := aT (gt (m).rows (r : Int)).p (recs eR (gt (m).rows (r : Int)).es)) (Hv.xrsl aB (by omega)) ?_
     have hNg := fun M0 I0 h => aKH (X := X) (w0 := w0) (M0 := M0) (I0 := I0) (e := gt (gt m.rows (r : Int)).es (j : Int)) (k := K) (by omega) h
     repeat (refine aK ?_)
     rw [hgz]
     (refine aA rfl (hNg _ _ (Hv.xel aB (by omega) (by omega))) rfl rfl ?_; rintro _ _ _ ⟨rfl, e, rfl, he, rfl⟩; refine ⟨okF, ?_⟩)
     repeat (refine yXh ?_)
     refine fH (vs := eR e) rfl rfl rfl (Ones.one e) kU (StAts.r e (by omega) rfl) rfl rfl ⟨okF, ?_⟩
     repeat (refine aK ?_)
     refine fM (φ := cK (st es2 ((pv.getD r 0 : Nat) : Int) e) K) (Hv.stR aB aB) ?_
     refine aM (pv.length - (r + 1)) _ _ _ (by first | omega | (simp only [List.length_append, List.length_cons, List.length_nil]; omega)) aO aC aD (⟨r + 1, st es2 ((pv.getD r 0 : Nat) : Int) e, by omega, rfl, by rw [dH]; exact hel2, fun t ht => ?_, rfl, rfl, rfl⟩)
     rw [sI (by omega)]
     by_cases e1 : t = pv.getD r 0
     ·subst e1
      rw [if_pos rfl, if_pos ⟨kK.2 ⟨r, hrp, rfl⟩, by rw [hidx r hrp]; omega⟩, he, hidx r hrp, hat]
     ·rw [if_neg e1, heq2 t ht]
      by_cases e2 : t ∈ pv
      ·have e3 : pv.idxOf t ≠ r := fun e => e1 (by rw [← e]; exact (Red.idx_lt e2).2.symm)
       by_cases e4 : pv.idxOf t < r
       ·rw [if_pos ⟨e2, e4⟩, if_pos ⟨e2, by omega⟩]
       ·rw [if_neg (show ¬ (t ∈ pv ∧ pv.idxOf t < r) from fun h => e4 h.2), if_neg (show ¬ (t ∈ pv ∧ pv.idxOf t < r + 1) from fun h => by have := h.2; omega)]
      ·rw [if_neg (show ¬ (t ∈ pv ∧ pv.idxOf t < r) from fun h => e2 h.1), if_neg (show ¬ (t ∈ pv ∧ pv.idxOf t < r + 1) from fun h => e2 h.1)]
    ·obtain rfl : r = pv.length := by omega
     have hV : qs es2 = sW m.q pv x j := by
      apply rT
      ·simp [sW, hel2]
      ·intro t ht
       have ht' : t < x := by simpa [hel2] using ht
       rw [kS (by omega), heq2 t ht', aGO ht']
       unfold oQ
       by_cases e2 : t ∈ pv
       ·rw [if_pos ⟨e2, (Red.idx_lt e2).1⟩, if_pos e2]
       ·rw [if_neg (fun h => e2 h.1), if_neg e2]
     repeat (refine aK ?_)
     refine aSW (k := K) aB ?_
     rw [hel2]
     have hvv : Value.slice (some ⟨bi, 0, none⟩) x x = lv (⟨some ⟨bi, 0, none⟩, x, es2⟩ : RL) := by show _ = Value.slice _ es2.length _; rw [hel2]
     rw [hvv]
     (refine aL (cs := recs eL [(⟨some ⟨bi, 0, none⟩, x, es2⟩ : RL)]) ([lv (⟨some ⟨bi, 0, none⟩, x, es2⟩ : RL)]) rfl rfl (by intro v hv; repeat (first | exact absurd hv (List.not_mem_nil) | (rcases List.mem_cons.1 hv with rfl | hv; · rfl))) (by omega) rfl rfl rfl ?_; intro bb; refine ⟨okF, ?_⟩)
     (refine aX (ys := [(⟨some ⟨bi, 0, none⟩, x, es2⟩ : RL)]) 1 rfl rfl rfl ?_ (by decide) rfl (by omega) (by omega) rfl rfl ?_; (· first | exact Src.blk aB | exact Src.row aB | exact Src.imm aB (by first | assumption | exact .inl (Ok.mk _ _))); intro q2 c2; refine ⟨okF, ?_⟩)
     repeat (refine aK ?_)
     refine fM (φ := mK (rows ++ [(⟨some ⟨bi, 0, none⟩, x, es2⟩ : RL)]) K) (Hv.snocL aB aB) ?_
     refine aM (x - (j + 1)) _ _ _ (by first | omega | (simp only [List.length_append, List.length_cons, List.length_nil]; omega)) aO aC aD (⟨j + 1, rows ++ [(⟨some ⟨bi, 0, none⟩, x, es2⟩ : RL)], q2, c2, by omega, rfl, ?_, fun r hr => ?_, rfl, rfl, rfl⟩)
     ·rw [aNO, hq, aBB, if_neg hjp, List.map_append]
      show _ ++ [qs es2] = _ ++ [sW m.q pv x j]
      rw [hV]
     ·rcases List.mem_append.1 hr with h | h
      ·exact hl r h
      ·rw [List.mem_singleton.1 h]; exact hel2
 ·obtain rfl : j = C := by omega
  repeat (refine aK ?_)
  refine vY (k := K) aB ?_
  refine dZ [2, 3] (by first | exact .inl rfl | exact .inr rfl) rfl rfl rfl _ _ aC aD (⟨rfl, ⟨qo, co, rows⟩, rfl, by unfold zB aOP; rw [hm]; exact hq, hl, rfl⟩)
end
end Go.Proofs.YtgeagiikkeiioaaGreat
namespace Go.Proofs.YtgeagiikkeiioaaGreat
open Go Go.Fx
def hD (k : Nat) : Nat → Nat
 | 0 => k
 | n + 1 => (n + 2) * (k + hD k n + 1)
section
variable {X : List Nat} {w0 : World} {M0 : List Ent} {I0 : List bA}
theorem uF {x : Int} (hx : x.natAbs ≤ 1) : CD Tryz.prog 115 [.int .i64 x] X w0 M0 I0 (RQ (x : Rat) 0 M0 I0) := by
 have hW := fun M0 I0 => vV (X := X) (w0 := w0) (M0 := M0) (I0 := I0) (x := x) (by omega) (k := 0) hx
 refine bE Tryz.func115 rfl Tryz.ntmps115 rfl ?_
 refine aJ ?_
 refine aI ?_
 (refine aN rfl rfl ?_; intro b; refine ⟨okF, ?_⟩)
 repeat (refine aK ?_)
 (refine aA rfl (hW _ _) rfl rfl ?_; rintro _ _ _ ⟨rfl, e, rfl, he, rfl⟩; refine ⟨okF, ?_⟩)
 repeat (refine aK ?_)
 refine bG (cs := eR e) (.inl rfl) rfl rfl aB rfl M0 (eQ e 0 :: I0) aC aD ⟨rfl, e, rfl, he, rfl⟩
end
end Go.Proofs.YtgeagiikkeiioaaGreat
namespace Go.Proofs.YtgeagiikkeiioaaGreat
open Go Go.Fx
structure MS where
 b : Nat
 c : Nat
 es : List RE
 tl : List Value
instance : Inhabited MS := ⟨⟨0, 0, [], []⟩⟩
abbrev eS (r : MS) : List Value := [.slice (some ⟨r.b, 0, none⟩) r.es.length r.c]
instance : Sized eS 1 := ⟨fun _ => rfl⟩
instance : Ones eS := ⟨fun m u hu => by simp only [eS, List.mem_cons, List.not_mem_nil, or_false] at hu; subst hu; rfl⟩
abbrev gJ (r : MS) : Ent := .blk r.b (recs eR r.es ++ r.tl) 42
structure AllS (rows : List MS) (k : Nat) (X : List Nat) (w : World) : Prop where
 go : ∀ r ∈ rows, ∀ e ∈ r.es, IsR e k X w
abbrev fG (rows : List MS) (k : Nat) : bA := AllS rows k
instance (rows : List MS) (k : Nat) : Fx.Good (AllS rows k) := ⟨fun X Y w w' h he hY => ⟨fun r hr e hm => Fx.Good.go (φ := IsR _ _) X Y w w' (h.go r hr e hm) he hY⟩⟩
theorem Hv.nilS {I : List bA} {k : Nat} : Hv I (fG [] k) := ⟨fun X w _ => ⟨fun x hx => by simp at hx⟩⟩
theorem Hv.snocS {I : List bA} {rows : List MS} {r : MS} {k : Nat} (h1 : fG rows k ∈ I) (h2 : Hv I (cK r.es k)) : Hv I (fG (rows ++ [r]) k) := ⟨fun X w hw => ⟨fun x hx => by
 rcases List.mem_append.1 hx with hx | hx
 ·exact (hw _ h1 : AllS rows k X w).go x hx
 ·rw [List.mem_singleton.1 hx]; exact (h2.go X w hw).go⟩⟩
theorem Hv.monoS {I : List bA} {rows : List MS} {k m : Nat} (h : fG rows k ∈ I) (hk : k ≤ m) : Hv I (fG rows m) := ⟨fun X w hw => ⟨fun r hr e he => ((hw _ h : AllS rows k X w).go r hr e he).mono hk⟩⟩
def Pw (rows : List MS) (R C : Nat) (V : Nat → Nat → Rat) : Prop := ∀ i j : Nat, i < R → j < C → (gt (gt rows (i : Int)).es (j : Int)).q = V i j
structure Shp (rows : List MS) (R C : Nat) : Prop where
 len : rows.length = R
 col : ∀ r ∈ rows, r.es.length = C ∧ C ≤ r.c
abbrev upR (r : MS) (j : Nat) (e : RE) : MS := ⟨r.b, r.c, st r.es (j : Int) e, r.tl⟩
def upS (rows : List MS) (i j : Nat) (e : RE) : List MS := rows.set i ⟨(gt rows (i : Int)).b, (gt rows (i : Int)).c, st (gt rows (i : Int)).es (j : Int) e, (gt rows (i : Int)).tl⟩
theorem wO {rows : List MS} {i j : Nat} {e : RE} : rows.set i (upR (gt rows (i : Int)) j e) = upS rows i j e := rfl
theorem Shp.row {rows : List MS} {R C : Nat} (h : Shp rows R C) {i : Nat} (hi : i < R) : (gt rows (i : Int)).es.length = C := (h.col _ (cZ (by have := h.len; omega))).1
theorem Shp.up {rows : List MS} {R C i j : Nat} {e : RE} (h : Shp rows R C) (hi : i < R) : Shp (upS rows i j e) R C := ⟨by unfold upS; rw [List.length_set]; exact h.len, fun r hr => by
 rcases List.mem_or_eq_of_mem_set hr with hr | hr
 ·exact h.col r hr
 ·subst hr
  have := h.col _ (cZ (ms := rows) (i := (i : Int)) (by have := h.len; omega))
  exact ⟨by show (st _ _ _).length = C; rw [dH]; exact this.1, this.2⟩⟩
theorem aJA {rows : List MS} {R C i j t : Nat} {e : RE} (h : Shp rows R C) (hi : i < R) (ht : t < R) : gt (upS rows i j e) (t : Int) = if t = i then ⟨(gt rows (i : Int)).b, (gt rows (i : Int)).c, st (gt rows (i : Int)).es (j : Int) e, (gt rows (i : Int)).tl⟩ else gt rows (t : Int) := by
 have hl := h.len
 unfold upS
 rw [dY (by rw [List.length_set]; omega)]
 by_cases e1 : t = i
 ·subst e1; simp
 ·rw [List.getElem_set_ne (fun e => e1 e.symm), if_neg e1]
  exact (dY (by omega)).symm
theorem Pw.up {rows : List MS} {R C i j : Nat} {e : RE} {V V' : Nat → Nat → Rat} (hp : Pw rows R C V) (h : Shp rows R C) (hi : i < R) (hj : j < C) (hV : ∀ a b, a < R → b < C → V' a b = if a = i ∧ b = j then e.q else V a b) : Pw (upS rows i j e) R C V' := fun a b ha hb => by
 rw [aJA h hi ha, hV a b ha hb]
 by_cases e1 : a = i
 ·subst e1
  rw [if_pos rfl]
  show (gt (st (gt rows (a : Int)).es (j : Int) e) (b : Int)).q = _
  rw [sI (by rw [h.row ha]; exact hj)]
  by_cases e2 : b = j
  ·rw [if_pos e2, if_pos ⟨rfl, e2⟩]
  ·rw [if_neg e2, if_neg (fun x => e2 x.2)]; exact hp a b ha hb
 ·rw [if_neg e1, if_neg (fun x => e1 x.1)]; exact hp a b ha hb
theorem uB {rows : List MS} {R C i j : Nat} {e : RE} (h : Shp rows R C) (hi : i < R) : recs eS (upS rows i j e) = recs eS rows := by
 have hl := h.len
 unfold upS
 rw [← oM (enc := eS) rows i _ (by omega)]
 have e1 : eS ⟨(gt rows (i : Int)).b, (gt rows (i : Int)).c, st (gt rows (i : Int)).es (j : Int) e, (gt rows (i : Int)).tl⟩ = eS (gt rows (i : Int)) := by simp [eS, dH]
 rw [e1, oM (enc := eS) rows i _ (by omega), dY (by omega), List.set_getElem_self]
theorem Hv.upS {I : List bA} {rows : List MS} {R C i j k : Nat} {e : RE} (h : Shp rows R C) (hi : i < R) (h1 : fG rows k ∈ I) (h2 : eQ e k ∈ I) : Hv I (fG (upS rows i j e) k) := ⟨fun X w hw => ⟨fun r hr x hx => by
 have ha := (hw _ h1 : AllS rows k X w).go
 rcases List.mem_or_eq_of_mem_set hr with hr | hr
 ·exact ha r hr x hx
 ·subst hr
  rcases List.mem_or_eq_of_mem_set hx with hx | hx
  ·exact ha _ (cZ (by have := h.len; omega)) x hx
  ·rw [hx]; exact hw _ h2⟩⟩
theorem aTO {M1 : List Ent} {r' : MS} : ∀ {rows : List MS} {i : Nat} (h : i < rows.length), Rep (gJ rows[i]) (gJ r') (rows.map gJ ++ M1) ((rows.set i r').map gJ ++ M1)
 | [], _, h => by simp at h
 | x :: r, 0, _ => .here
 | x :: r, i + 1, h => .there (aTO (rows := r) (i := i) (by simpa using h))
theorem repS {M1 : List Ent} {r' : MS} {rows : List MS} {i : Nat} (h : i < rows.length) {A : Ent} : Rep (gJ (gt rows (i : Int))) (gJ r') (A :: (rows.map gJ ++ M1)) (A :: ((rows.set i r').map gJ ++ M1)) := by
 rw [dY h]
 exact .there (aTO h)
theorem aOQ {M1 : List Ent} {r' : MS} {rows : List MS} {i : Nat} (h : i < rows.length) {A B : Ent} : Rep (gJ (gt rows (i : Int))) (gJ r') (A :: B :: (rows.map gJ ++ M1)) (A :: B :: ((rows.set i r').map gJ ++ M1)) := .there (repS h)
def MsP (R C : Nat) (V : Nat → Nat → Rat) (k : Nat) (M0 : List Ent) (I0 : List bA) (v : Value) (M : List Ent) (I : List bA) : Prop :=
 ∃ (bo co : Nat) (tlo : List Value) (rows : List MS), v = .slice (some ⟨bo, 0, none⟩) R co ∧ R ≤ co ∧ Shp rows R C ∧ Pw rows R C V ∧ M = .blk bo (recs eS rows ++ tlo) 34 :: (rows.map gJ ++ M0) ∧ I = fG rows k :: I0
def MS.l (r : MS) : RL := ⟨some ⟨r.b, 0, none⟩, r.c, r.es⟩
def MS.x (bo co : Nat) (rows : List MS) : MX := ⟨some ⟨bo, 0, none⟩, co, rows.map MS.l⟩
theorem aRJ (rows : List MS) : recs eL (rows.map MS.l) = recs eS rows := by
 induction rows with
 | nil => rfl
 | cons x r ih =>
  have h1 : recs eL ((x :: r).map MS.l) = eL x.l ++ recs eL (r.map MS.l) := rfl
  have h2 : recs eS (x :: r) = eS x ++ recs eS r := rfl
  rw [h1, h2, ih]; rfl
theorem aPY {X : List Nat} {w : World} {a : Option Addr} {cs tl : List Value} (h : Sl X w a (cs ++ tl)) : Sl X w a cs := by
 have := h.take cs.length
 rwa [List.take_left'] at this
 rfl
theorem xI {X : List Nat} {w0 w : World} {k : Nat} : ∀ {rows : List MS} {M : List Ent} {I : List bA}, Mem X w0 (rows.map gJ ++ M) I w → (∀ r ∈ rows, r.es.length ≤ r.c) → (∀ r ∈ rows, AllR r.es k (muts (rows.map gJ ++ M)) w) → ∃ I', (∀ φ ∈ I, φ ∈ I') ∧ (∀ r ∈ rows, jP r.l k ∈ I') ∧ Mem X w0 M I' w
 | [], M, I, h, _, _ => ⟨I, fun _ h => h, fun r hr => by simp at hr, h⟩
 | r :: rows, M, I, h, hc, ha => by
  have h1 : Mem X w0 (rows.map gJ ++ M) (aT (some ⟨r.b, 0, none⟩) (recs eR r.es ++ r.tl) :: I) w := h.freezeB .here
  have hsub : ∀ y ∈ muts (rows.map gJ ++ M), y ∈ muts ((r :: rows).map gJ ++ M) := fun y hy => by simp [muts] at hy ⊢; right; exact hy
  have h2 : IsL r.l k (muts (rows.map gJ ++ M)) w := by
   refine ⟨aPY (h1.sl (List.Mem.head _)), fun e he => ?_, hc r (List.Mem.head _), .inl (Ok.mk _ _)⟩
   exact Fx.Good.go (φ := IsR _ _) _ _ w w ((ha r (List.Mem.head _)).go e he) (Ext.refl _ _) (fun y hy => .inl (hsub y hy))
  obtain ⟨I', i1, i2, i3⟩ := xI (h1.add (φ := jP r.l k) h2) (fun s hs => hc s (List.Mem.tail _ hs)) (fun s hs => ⟨fun e he => Fx.Good.go (φ := IsR _ _) _ _ w w ((ha s (List.Mem.tail _ hs)).go e he) (Ext.refl _ _) (fun y hy => .inl (hsub y hy))⟩)
  refine ⟨I', fun φ hφ => i1 φ (List.Mem.tail _ (List.Mem.tail _ hφ)), fun s hs => ?_, i3⟩
  rcases List.mem_cons.1 hs with rfl | hs
  ·exact i1 _ (List.Mem.head _)
  ·exact i2 s hs
theorem aAC {X : List Nat} {w0 w : World} {k bo co : Nat} {tlo : List Value} {rows : List MS} {M : List Ent} {I : List bA} (h : Mem X w0 (.blk bo (recs eS rows ++ tlo) 34 :: (rows.map gJ ++ M)) I w) (hc : ∀ r ∈ rows, r.es.length ≤ r.c) (hco : rows.length ≤ co) (ha : fG rows k ∈ I) : Mem X w0 M (gD (MS.x bo co rows) k :: I) w := by
 have h0 : Mem X w0 (rows.map gJ ++ M) (aT (some ⟨bo, 0, none⟩) (recs eS rows ++ tlo) :: I) w := h.freezeB .here
 obtain ⟨I', i1, i2, i3⟩ := xI (k := k) h0 hc (fun r hr => ⟨fun e he => ((h0.imm _ (List.Mem.tail _ ha)).2 : AllS rows k _ w).go r hr e he⟩)
 have h3 : IsX (MS.x bo co rows) k (muts M) w := by
  refine ⟨?_, fun r hr => ?_, ?_⟩
  ·rw [show (MS.x bo co rows).rows = rows.map MS.l from rfl, aRJ]; exact aPY (i3.sl (i1 _ (List.Mem.head _)))
  ·obtain ⟨s, hs, rfl⟩ := List.mem_map.1 hr
   exact (i3.imm _ (i2 s hs)).2
  ·show Cap (some ⟨bo, 0, none⟩) (rows.map MS.l).length co
   rw [List.length_map]; exact ⟨hco, .inl (Ok.mk _ _)⟩
 exact (i3.add (φ := gD (MS.x bo co rows) k) h3).inc (.of fun φ hφ => by
  rcases List.mem_cons.1 hφ with rfl | hφ
  ·exact List.Mem.head _
  ·exact List.Mem.tail _ (i1 _ (List.Mem.tail _ hφ)))
theorem q_xs {rows : List MS} {R C bo co : Nat} {V : Nat → Nat → Rat} (h : Shp rows R C) (hp : Pw rows R C V) : (MS.x bo co rows).q = vE R C V ∧ (MS.x bo co rows).dim R C := by
 have hd : (MS.x bo co rows).dim R C := ⟨by show (rows.map MS.l).length = R; rw [List.length_map]; exact h.len, fun r hr => by
  obtain ⟨s, hs, rfl⟩ := List.mem_map.1 hr
  exact (h.col s hs).1⟩
 refine ⟨?_, hd⟩
 rw [hd.mk]
 refine uW (fun i j hi hj => ?_)
 have hl := hd.1
 have hg : gt (MS.x bo co rows).rows (i : Int) = (gt rows (i : Int)).l := aBU (by have := h.len; omega)
 rw [nK (by omega) (by rw [hg]; show j < (gt rows (i : Int)).es.length; rw [h.row hi]; exact hj), hg]
 exact hp i j hi hj
theorem aTN {f : FuncId} {vs : List Value} {X : List Nat} {w0 : World} {M0 : List Ent} {I0 : List bA} {R C k : Nat} {V : Nat → Nat → Rat} (h : CD Tryz.prog f vs X w0 M0 I0 (MsP R C V k M0 I0)) : CD Tryz.prog f vs X w0 M0 I0 (XQ (vE R C V) R C k M0 I0) := by
 refine CD.post h (fun v M I w h hw => ?_)
 obtain ⟨bo, co, tlo, rows, rfl, hco, hs, hp, rfl, rfl⟩ := h
 obtain ⟨hq, hd⟩ := q_xs (bo := bo) (co := co) hs hp
 refine ⟨M0, gD (MS.x bo co rows) k :: I0, ⟨rfl, MS.x bo co rows, ?_, hq, hd, rfl⟩, (aAC (co := co) (k := k) hw (fun r hr => by have := hs.col r hr; omega) (by have := hs.len; omega) (List.Mem.head _)).inc (.of fun φ hφ => by
  rcases List.mem_cons.1 hφ with rfl | hφ
  ·exact List.Mem.head _
  ·exact List.Mem.tail _ (List.Mem.tail _ hφ))⟩
 have e1 := hd.1
 show _ = Value.slice (MS.x bo co rows).p (MS.x bo co rows).rows.length (MS.x bo co rows).c
 rw [e1]; rfl
section
variable {X : List Nat} {w0 : World} {M0 : List Ent} {I0 : List bA}
theorem aAV {R C : Nat} (hR : 1 ≤ R ∧ R ≤ 100) (hC : 1 ≤ C ∧ C ≤ 100) : CD Tryz.prog 114 [.int .i64 (R : Int), .int .i64 (C : Int)] X w0 M0 I0 (MsP R C (fun _ _ => 0) 0 M0 I0) := by
 have hW := fun M0 I0 => uF (X := X) (w0 := w0) (M0 := M0) (I0 := I0) (x := 0) (by decide)
 refine bD Tryz.func114 rfl Tryz.ntmps114 rfl ?_
 repeat (refine aK ?_)
 (refine aL (cs := recs eS []) ([]) rfl rfl (by intro v hv; repeat (first | exact absurd hv (List.not_mem_nil) | (rcases List.mem_cons.1 hv with rfl | hv; · rfl))) (by omega) rfl rfl rfl ?_; intro bo; refine ⟨okF, ?_⟩; refine iJ (mm := 0) 1 .here rfl (by omega) ?_)
 repeat (refine aK ?_)
 refine bL (φ := fG [] 0) Hv.nilS ?_
 refine aS [0, 1] rfl (fun k G M I => ∃ (i : Nat) (rows : List MS) (q : Option Addr) (c : Nat), i ≤ R ∧ k = R - i ∧ Shp rows i C ∧ Pw rows i C (fun _ _ => 0) ∧ G = [(5, .slice q rows.length c), (6, .int .i64 i)] ∧ M = .row q rows.length c (recs eS rows) 34 1 :: (rows.map gJ ++ M0) ∧ I = fG rows 0 :: I0) (R) _ _ _ aO aC aD (⟨0, [], _, _, by omega, rfl, ⟨rfl, fun r hr => by simp at hr⟩, fun i j hi => by omega, rfl, rfl, rfl⟩) ?_
 rintro kk G M I ⟨i, rows, q, c, hi, rfl, hs, hp, rfl, rfl, rfl⟩
 have hlen := hs.len
 by_cases hiR : i < R
 ·repeat (refine aK ?_)
  (refine aL (cs := recs eR []) ([]) rfl rfl (by intro v hv; repeat (first | exact absurd hv (List.not_mem_nil) | (rcases List.mem_cons.1 hv with rfl | hv; · rfl))) (by omega) rfl rfl rfl ?_; intro bl; refine ⟨okF, ?_⟩; refine iJ (mm := 0) 4 .here rfl (by omega) ?_)
  repeat (refine aK ?_)
  refine bL (φ := cK [] 0) Hv.nilR ?_
  refine aS [0, 1, 5, 6] rfl (fun k G M I => ∃ (j : Nat) (es : List RE) (ql : Option Addr) (cl : Nat), j ≤ C ∧ k = C - j ∧ es.length = j ∧ (∀ e ∈ es, e.q = 0) ∧ G = [(7, .slice ql es.length cl), (8, .int .i64 j)] ∧ M = .row ql es.length cl (recs eR es) 42 4 :: .row q rows.length c (recs eS rows) 34 1 :: (rows.map gJ ++ M0) ∧ I = cK es 0 :: fG rows 0 :: I0) (C) _ _ _ aO aC aD (⟨0, [], _, _, by omega, rfl, rfl, by simp, rfl, rfl, rfl⟩) ?_
  rintro kk G M I ⟨j, es, ql, cl, hj, rfl, hel, heq, rfl, rfl, rfl⟩
  by_cases hjC : j < C
  ·repeat (refine aK ?_)
   (refine aA rfl (hW _ _) rfl rfl ?_; rintro _ _ _ ⟨rfl, e, rfl, he, rfl⟩; refine ⟨okF, ?_⟩)
   (refine aL (cs := recs eR [e]) ([rv e]) rfl rfl (by intro v hv; repeat (first | exact absurd hv (List.not_mem_nil) | (rcases List.mem_cons.1 hv with rfl | hv; · rfl))) (by omega) rfl rfl rfl ?_; intro b; refine ⟨okF, ?_⟩)
   (refine aX (ys := [e]) 1 rfl rfl rfl ?_ (by decide) rfl (by omega) (by omega) rfl rfl ?_; (· first | exact Src.blk aB | exact Src.row aB | exact Src.imm aB (by first | assumption | exact .inl (Ok.mk _ _))); intro q2 c2; refine ⟨okF, ?_⟩)
   repeat (refine aK ?_)
   refine fM (φ := cK (es ++ [e]) 0) (Hv.snoc aB aB) ?_
   refine aM (C - (j + 1)) _ _ _ (by first | omega | (simp only [List.length_append, List.length_cons, List.length_nil]; omega)) aO aC aD (⟨j + 1, es ++ [e], q2, c2, by omega, rfl, by simp; omega, fun x hx => ?_, rfl, rfl, rfl⟩)
   rcases List.mem_append.1 hx with h | h
   ·exact heq x h
   ·rw [List.mem_singleton.1 h, he]; rfl
  ·obtain rfl : j = C := by omega
   repeat (refine aK ?_)
   refine aCR (fun h0 h1 h2 => by omega) (fun b tl h1 h2 => ?_)
   subst h1
   (refine aL (cs := recs eS [(⟨b, cl, es, tl⟩ : MS)]) ([.slice (some ⟨b, 0, none⟩) es.length cl]) rfl rfl (by intro v hv; repeat (first | exact absurd hv (List.not_mem_nil) | (rcases List.mem_cons.1 hv with rfl | hv; · rfl))) (by omega) rfl rfl rfl ?_; intro bb; refine ⟨okF, ?_⟩)
   (refine aX (ys := [(⟨b, cl, es, tl⟩ : MS)]) 2 rfl rfl rfl ?_ (by decide) rfl (by omega) (by omega) rfl rfl ?_; (· first | exact Src.blk aB | exact Src.row aB | exact Src.imm aB (by first | assumption | exact .inl (Ok.mk _ _))); intro q2 c2; refine ⟨okF, ?_⟩)
   repeat (refine aK ?_)
   refine fM (φ := fG (rows ++ [(⟨b, cl, es, tl⟩ : MS)]) 0) (Hv.snocS aB (Hv.mem aB)) ?_
   refine aQS (M' := .blk b (recs eR es ++ tl) 42 :: .row q2 (rows ++ [(⟨b, cl, es, tl⟩ : MS)]).length c2 (recs eS (rows ++ [(⟨b, cl, es, tl⟩ : MS)])) 34 1 :: (rows.map gJ ++ M0)) (I' := fG (rows ++ [(⟨b, cl, es, tl⟩ : MS)]) 0 :: I0) (SubP.drop SubP.refl) aD ?_
   refine wN (M' := .row q2 (rows ++ [(⟨b, cl, es, tl⟩ : MS)]).length c2 (recs eS (rows ++ [(⟨b, cl, es, tl⟩ : MS)])) 34 1 :: ((rows ++ [(⟨b, cl, es, tl⟩ : MS)]).map gJ ++ M0)) (by rw [List.map_append (f := gJ)]; exact xQ) ?_
   refine aM (R - (i + 1)) _ _ _ (by first | omega | (simp only [List.length_append, List.length_cons, List.length_nil]; omega)) aO aC aD (⟨i + 1, rows ++ [(⟨b, cl, es, tl⟩ : MS)], q2, c2, by omega, rfl, ⟨by simp [hlen], fun r hr => ?_⟩, fun i' j' h1' h2' => ?_, rfl, rfl, rfl⟩)
   ·rcases List.mem_append.1 hr with h | h
    ·exact hs.col r h
    ·rw [List.mem_singleton.1 h]; exact ⟨hel, by show j ≤ cl; omega⟩
   ·by_cases e1 : i' < i
    ·have : gt (rows ++ [(⟨b, cl, es, tl⟩ : MS)]) (i' : Int) = gt rows (i' : Int) := by rw [dY (by simp; omega), dY (by omega), List.getElem_append_left (by omega)]
     rw [this]; exact hp i' j' e1 h2'
    ·have : gt (rows ++ [(⟨b, cl, es, tl⟩ : MS)]) (i' : Int) = ⟨b, cl, es, tl⟩ := tT (A := rows) (B := []) (by omega)
     rw [this]
     exact heq _ (cZ (by show (0 : Int) ≤ _ ∧ _ < (es.length : Int); omega))
 ·obtain rfl : i = R := by omega
  repeat (refine aK ?_)
  refine aDI (fun h0 h1 h2 => by omega) (fun b tl h1 h2 => ?_)
  subst h1
  refine aH (by first | exact .inl rfl | exact .inr rfl) rfl rfl _ _ aC aD (⟨b, c, tl, rows, by rw [hlen], by omega, hs, hp, rfl, rfl⟩)
end
end Go.Proofs.YtgeagiikkeiioaaGreat

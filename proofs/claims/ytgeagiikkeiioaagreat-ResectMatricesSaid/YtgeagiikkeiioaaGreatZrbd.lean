/- matrix: Echelon, Rank, Null. The document's minor and determinant. -/
import Derived.Test.YtgeagiikkeiioaaGreatZrbc
import Derived.Test.YtgeagiikkeiioaaGreatZrax
import Derived.Test.YtgeagiikkeiioaaGreatZrbb
import Derived.Test.YtgeagiikkeiioaaGreatZraw
set_option linter.unusedSimpArgs false
set_option linter.unusedVariables false
set_option maxRecDepth 100000
set_option maxHeartbeats 4000000
namespace Go.Proofs.YtgeagiikkeiioaaGreat
open Go Go.Fx
abbrev pvI (q : Option Addr) (pv : List Nat) : bL := bP q (recs eZ (zs pv))
def EchP (A : Mt) (R C k : Nat) (M0 : List Ent) (I0 : List bL) (v : Value) (M : List Ent) (I : List bL) : Prop :=
 M0 = M ∧ ∃ (m : MX) (pv : List Nat) (q : Option Addr) (c : Nat), v = .tuple #[mv m, .slice q pv.length c, .int .i64 0] ∧ mJ A C = (m.q, pv) ∧ m.dim R C ∧ I = pvI q pv :: nU m k :: I0
def NlP (A : Mt) (C k : Nat) (M0 : List Ent) (I0 : List bL) (v : Value) (M : List Ent) (I : List bL) : Prop :=
 M0 = M ∧ ∃ m : MX, v = .tuple #[mv m, .int .i64 0] ∧ m.q = oQ A C ∧ (∀ r ∈ m.rows, r.es.length = C) ∧ I = nU m k :: I0
theorem aCO {pv : List Nat} {j : Nat} : (j : Int) ∈ zs pv ↔ j ∈ pv := by
 rw [List.mem_map]
 exact ⟨fun ⟨x, hx, e⟩ => by obtain rfl : x = j := by omega
                             exact hx, fun h => ⟨j, h, rfl⟩⟩
theorem aPB {pv : List Nat} {r : Nat} (h : r < pv.length) : gt (zs pv) (r : Int) = ((pv.getD r 0 : Nat) : Int) := by
 rw [gU (by simpa using h)]
 rw [uW h]
 simp
theorem rG {pv : List Nat} {j : Nat} : wD pv (j + 1) = if j ∈ pv then wD pv j else wD pv j ++ [j] := by
 unfold wD
 rw [List.range_succ, List.filter_append]
 by_cases h : j ∈ pv
 ·rw [if_pos h]; simp [h]
 ·rw [if_neg h]; simp [h]
theorem aDM {pv : List Nat} {j : Nat} : (wD pv j).length ≤ j := by
 unfold wD
 exact Nat.le_trans (List.length_filter_le _ _) (by simp)
theorem aCR {a : MX} {R C : Nat} (h : a.dim R C) : aAE a.q R C := ⟨by simp [h.1], fun i hi => by
 rw [aHM (by have := h.1; omega)]; simp [h.row hi]⟩
theorem MX.dim.red {a : MX} {R C : Nat} (h : a.dim R C) {E : Mt} {pv : List Nat} (hr : mJ a.q C = (E, pv)) : ∃ s, Red R C C (at2 a.q) (at2 E) pv s := by
 obtain ⟨_, s, h2⟩ := wG (aCR h) C (Nat.le_refl _)
 rw [hr] at h2
 exact ⟨s, h2⟩
section
variable {X : List Nat} {w0 : World} {M : List Ent} {I : List bL}
theorem Mem.blkL {w : World} {b k : Nat} {es : List RE} {ty : TypeId} (h : Mem X w0 (.blk b (recs eR es) ty :: M) I w) (ha : gM es k ∈ I) : Mem X w0 M (mF ⟨some ⟨b, 0, none⟩, es.length, es⟩ k :: I) w := by
 have h1 := h.freezeB .here
 refine (h1.add (φ := mF ⟨some ⟨b, 0, none⟩, es.length, es⟩ k) ⟨(h1.sl (List.Mem.head _)), (((h1.imm _ (List.Mem.tail _ ha)).2 : AllR es k _ w)).go, ⟨Nat.le_refl _, .inl (Ok.mk _ _)⟩⟩).inc (.of fun φ hφ => ?_)
 rcases List.mem_cons.1 hφ with rfl | hφ
 ·exact List.Mem.head _
 ·exact List.Mem.tail _ (List.Mem.tail _ hφ)
variable {P : Program} {n : Nat} {Q : Exit → Act → World → Prop} {G : Env}
theorem aOE {ops l : List Oper} {m : Fx.Mode} {b k : Nat} {es : List RE} {ty : TypeId} (ha : gM es k ∈ I) (h : RD P n ops Q m l G X w0 M (mF ⟨some ⟨b, 0, none⟩, es.length, es⟩ k :: I)) : RD P n ops Q m l G X w0 (.blk b (recs eR es) ty :: M) I := uQ (fun _ hw => Mem.blkL hw ha) h
end
section
variable {X : List Nat} {w0 : World} {M0 : List Ent} {I0 : List bL}
theorem aKK {p : Option Addr} {l : List Int} {t c : Nat} {x : Int} (hl : l.length = t) (ht : t ≤ 100000) (hp : bP p (recs (eI .i64) l) ∈ I0) :
  CD Tryz.prog 120 [.slice p t c, .int .i64 x] X w0 M0 I0 (fun v M I => M0 = M ∧ I0 = I ∧ ∃ r : Int, v = .int .i64 r ∧ (0 ≤ r ↔ x ∈ l)) := by
 refine bJ Tryz.func120 rfl Tryz.ntmps120 rfl ?_
 repeat (refine aK ?_)
 refine bH [0, 1, 7] rfl (fun k G M I => ∃ i : Nat, i ≤ t ∧ k = t - i ∧ (∀ j : Nat, j < i → gt l j ≠ x) ∧ G = [(8, .int .i64 i)] ∧ M0 = M ∧ I0 = I) (t) _ _ _ aV aF aG (⟨0, by omega, rfl, fun j hj => by omega, rfl, rfl, rfl⟩) ?_
 rintro kk G M I ⟨i, hi, rfl, hs, rfl, rfl, rfl⟩
 by_cases h : i < t
 ·by_cases he : x = gt l i
  ·repeat (refine aK ?_)
   refine aU (by first | exact .inl rfl | exact .inr rfl) rfl rfl _ _ aF aG (⟨rfl, rfl, (i : Int), rfl, ⟨fun _ => by { rw [he]; exact dI (by omega) }, fun _ => by omega⟩⟩)
  ·repeat (refine aK ?_)
   refine aW (t - (i + 1)) _ _ _ (by first | omega | (simp only [List.length_append, List.length_cons, List.length_nil]; omega)) aV aF aG (⟨i + 1, by omega, rfl, fun j hj => ?_, rfl, rfl, rfl⟩)
   by_cases e : j = i
   ·subst e; exact fun h => he h.symm
   ·exact hs j (by omega)
 ·repeat (refine aK ?_)
  refine aU (by first | exact .inl rfl | exact .inr rfl) rfl rfl _ _ aF aG (⟨rfl, rfl, -1, rfl, ⟨fun h => by omega, fun h => by { obtain ⟨j, hj, e⟩ := List.mem_iff_getElem.1 h; exact absurd (by rw [kG hj]; exact e) (hs j (by omega)) }⟩⟩)
theorem aBR {p : Option Addr} {l : List Int} {t c : Nat} {x : Int} (hl : l.length = t) (ht : t ≤ 100000) (hp : bP p (recs (eI .i64) l) ∈ I0) :
  CD Tryz.prog 62 [.slice p t c, .int .i64 x] X w0 M0 I0 (fun v M I => M0 = M ∧ I0 = I ∧ v = .bool (B (x ∈ l))) := by
 refine bJ Tryz.func62 rfl Tryz.ntmps62 rfl ?_
 repeat (refine aK ?_)
 (refine aA rfl (aKK hl ht hp) rfl rfl ?_; rintro _ _ _ ⟨rfl, rfl, r, rfl, h⟩; refine ⟨okF, ?_⟩)
 repeat (refine aK ?_)
 refine aU (by first | exact .inl rfl | exact .inr rfl) rfl rfl _ _ aF aG (⟨rfl, rfl, congrArg Value.bool (gP h)⟩)
/- reduce, and what it changed is only read from now on -/
theorem aFQ {bo R C n k0 : Nat} {rows : List MR} {M1 : List Ent} (hR : rows.length = R) (hRb : R ≤ 100) (hCb : C ≤ 200) (hC : ∀ r ∈ rows, r.es.length = C) (hn : n ≤ C) (hk : kb k0 n ≤ 50000000000) (hA : allM rows k0 ∈ I0)
  (hM : M0 = .blk bo (recs eM rows) 34 :: (rows.map iX ++ M1)) :
  CD Tryz.prog 165 [.slice (some ⟨bo, 0, none⟩) R R, .int .i64 (n : Int)] X w0 M0 I0 (fun v M I => M1 = M ∧ ∃ (x : MX) (pv : List Nat) (q : Option Addr) (c : Nat), v = .slice q pv.length c ∧ x.p = some ⟨bo, 0, none⟩ ∧ x.c = R ∧ x.dim R C ∧ mJ (mq rows) n = (x.q, pv) ∧ pv.length ≤ R ∧ I = pvI q pv :: nU x (kb k0 n) :: I0) := by
 refine CD.post (aJE hR hRb hCb hC hn hk hA hM) (fun v M I w h hw => ?_)
 obtain ⟨rows2, pv, q, c, rfl, hl, hc, hred, hpv, rfl, rfl⟩ := h
 have h1 : Mem X w0 (.blk bo (recs eM rows2) 34 :: (rows2.map iX ++ M1)) (pvI q pv :: allM rows2 (kb k0 n) :: I0) w := hw.freezeR .here
 have h2 := aNM (k := kb k0 n) h1 (List.Mem.tail _ (List.Mem.head _))
 refine ⟨M1, pvI q pv :: nU (MR.x bo rows2) (kb k0 n) :: I0, ⟨rfl, MR.x bo rows2, pv, q, c, rfl, rfl, hl, ⟨?_, fun r hr => ?_⟩, by rw [q_x]; exact hred, hpv, rfl⟩, h2.inc (.of fun φ hφ => ?_)⟩
 ·show (rows2.map MR.l).length = R; rw [List.length_map, hl]
 ·obtain ⟨s, hs, rfl⟩ := List.mem_map.1 hr
  exact hc s hs
 ·rcases List.mem_cons.1 hφ with rfl | hφ
  ·exact List.Mem.tail _ (List.Mem.head _)
  ·rcases List.mem_cons.1 hφ with rfl | hφ
   ·exact List.Mem.head _
   ·exact List.Mem.tail _ (List.Mem.tail _ (List.Mem.tail _ hφ))
/- a matrix made is only read from now on -/
theorem aFV {a : MX} {R C k0 : Nat} (hb : kb k0 C ≤ 20000000000) (da : a.fit R C) (ha : nU a k0 ∈ I0) : CD Tryz.prog 134 [mv a] X w0 M0 I0 (EchP a.q R C (kb k0 C) M0 I0) := by
 have hk0 : k0 ≤ 20000000000 := Nat.le_trans (tX k0 (Nat.zero_le C)) hb
 obtain ⟨r1, r2⟩ := da.2.1
 obtain ⟨c1, c2⟩ := da.2.2
 have hC := fun M0 I0 h1 => aIR (X := X) (w0 := w0) (M0 := M0) (I0 := I0) (a := a) (k := k0) (by omega) da h1
 refine bX Tryz.func134 rfl Tryz.ntmps134 rfl ?_
 repeat (refine aK ?_)
 (refine aA rfl (hC _ _ aB) rfl rfl ?_; rintro _ _ _ ⟨rfl, rfl, rfl⟩; refine ⟨okF, ?_⟩)
 repeat (refine aK ?_)
 (refine aA rfl (aGE da aB) rfl rfl ?_; rintro _ _ _ ⟨bo, rows0, rfl, hl0, hc0, hq0, rfl, rfl⟩; refine ⟨okF, ?_⟩)
 have lC : (gt rows0 0).es.length = C := hc0 _ (dI (by omega))
 have hmq0 : mq rows0 = a.q := by rw [da.1.mk]; exact hq0
 repeat (refine aK ?_)
 rw [lC]
 have hRd := fun I0 h => aFQ (X := X) (w0 := w0) (M0 := .blk bo (recs eM rows0) 34 :: (rows0.map iX ++ M0)) (I0 := I0) (bo := bo) (R := R) (C := C) (n := C) (k0 := k0) (rows := rows0) (M1 := M0) hl0 (by omega) (by omega) hc0 (by omega) (by omega) h rfl
 (refine aA rfl (hRd _ aB) rfl rfl ?_; rintro _ _ _ ⟨rfl, x, pv, q, c, rfl, xp, xc, xd, hred, hpv, rfl⟩; refine ⟨okF, ?_⟩)
 rw [hmq0] at hred
 repeat (refine aK ?_)
 refine kL [2, 3, 4] (by first | exact .inl rfl | exact .inr rfl) rfl rfl rfl _ _ aF aG (⟨rfl, x, pv, q, c, ?_, hred, xd, rfl⟩)
 show _ = Value.tuple #[.slice x.p x.rows.length x.c, _, _]
 rw [xd.1, xp, xc]
theorem aOI {a : MX} {R C k0 : Nat} (hb : kb k0 C ≤ 20000000000) (da : a.fit R C) (ha : nU a k0 ∈ I0) : CD Tryz.prog 75 [mv a] X w0 M0 I0 (NlP a.q C (kb k0 C) M0 I0) := by
 obtain ⟨r1, r2⟩ := da.2.1
 obtain ⟨c1, c2⟩ := da.2.2
 refine bX Tryz.func75 rfl Tryz.ntmps75 rfl ?_
 repeat (refine aK ?_)
 (refine aA rfl (aFV hb da aB) rfl rfl ?_; rintro _ _ _ ⟨rfl, m, pv, q, c, rfl, hm, hd, rfl⟩; refine ⟨okF, ?_⟩)
 obtain ⟨s, hr⟩ := da.1.red hm
 have hlen := hr.len
 have hpi : ∀ r : Nat, r < pv.length → pv.getD r 0 < C := fun r h => hr.piv_lt h
 have hidx : ∀ r : Nat, r < pv.length → pv.idxOf (pv.getD r 0) = r := fun r h => hr.idx h
 have mR := hd.1
 have m0 : (gt m.rows 0).es.length = C := hd.row (i := 0) (by omega)
 have hz : (zs pv).length = pv.length := by simp
 generalize hK : kb k0 C = K at *
 refine gN (φ := bP (m).p (recs eL (m).rows)) (Hv.xsl aB) ?_
 repeat (refine aK ?_)
 refine wM 34 1 ?_
 refine fI (φ := pQ [] K) Hv.nilL ?_
 repeat (refine aK ?_)
 rw [m0]
 refine bH [4, 5, 25] rfl (fun k G M I => ∃ (j : Nat) (rows : List RL) (qo : Option Addr) (co : Nat), j ≤ C ∧ k = C - j ∧ rows.map RL.q = (wD pv j).map (rZ m.q pv C) ∧ (∀ r ∈ rows, r.es.length = C) ∧ G = [(7, .slice qo rows.length co), (26, .int .i64 j)] ∧ M = .row qo rows.length co (recs eL rows) 34 1 :: M0 ∧ I = pQ rows K :: bP m.p (recs eL m.rows) :: pvI q pv :: nU m K :: I0) (C) _ _ _ aV aF aG (⟨0, [], none, 0, by omega, rfl, rfl, fun r hr => by simp at hr, rfl, rfl, rfl⟩) ?_
 rintro kk G M I ⟨j, rows, qo, co, hj, rfl, hq, hl, rfl, rfl, rfl⟩
 have hrl : rows.length ≤ j := by have := congrArg List.length hq; rw [List.length_map, List.length_map] at this; have := aDM (pv := pv) (j := j); omega
 by_cases hjC : j < C
 ·have hCn := fun M0 I0 h => aBR (X := X) (w0 := w0) (M0 := M0) (I0 := I0) (p := q) (l := zs pv) (t := pv.length) (c := c) (x := (j : Int)) hz (by omega) h
  by_cases hjp : j ∈ pv
  ·rw [cO (aCO.2 hjp)] at hCn
   repeat (refine aK ?_)
   (refine aA rfl (hCn _ _ aB) rfl rfl ?_; rintro _ _ _ ⟨rfl, rfl, rfl⟩; refine ⟨okF, ?_⟩)
   repeat (refine aK ?_)
   refine aW (C - (j + 1)) _ _ _ (by first | omega | (simp only [List.length_append, List.length_cons, List.length_nil]; omega)) aV aF aG (⟨j + 1, rows, qo, co, by omega, rfl, by rw [rG, if_pos hjp]; exact hq, hl, rfl, rfl, rfl⟩)
  ·rw [bC (fun h => hjp (aCO.1 h))] at hCn
   repeat (refine aK ?_)
   (refine aA rfl (hCn _ _ aB) rfl rfl ?_; rintro _ _ _ ⟨rfl, rfl, rfl⟩; refine ⟨okF, ?_⟩)
   repeat (refine aK ?_)
   rw [m0]
   (refine lH (C) rfl rfl (by omega) (by omega) (by omega) (by omega) (wY (enc := e4) (by decide) z4 C) rfl rfl ?_; intro bi; refine ⟨okF, ?_⟩)
   repeat (refine aK ?_)
   refine fI (φ := gM [] K) Hv.nilR ?_
   refine bH [4, 5, 7, 8, 9, 25, 26, 38] rfl (fun k G M I => ∃ (x : Nat) (es : List RE), x ≤ C ∧ k = C - x ∧ es.length = x ∧ (∀ t : Nat, t < x → (gt es (t : Int)).q = if t = j then 1 else 0) ∧ G = [(39, .int .i64 x)] ∧ M = .blk bi (recs e4 (es.map t4 ++ List.replicate (C - x) z4)) 42 :: .row qo rows.length co (recs eL rows) 34 1 :: M0 ∧ I = gM es K :: pQ rows K :: bP m.p (recs eL m.rows) :: pvI q pv :: nU m K :: I0) (C) _ _ _ aV aF aG (⟨0, [], by omega, by omega, rfl, fun t ht => by omega, rfl, rfl, rfl⟩) ?_
   rintro kk G M I ⟨x, es, hx, rfl, hel, heq, rfl, rfl, rfl⟩
   by_cases hxC : x < C
   ·have hz2 := wV (n := C - x) (z := z4) (by omega)
    have hl2 : ((es.map t4 ++ z4 :: List.replicate (C - x - 1) z4).length : Int) = C := by simp; omega
    have hU := fun M0 I0 => aOS (X := X) (w0 := w0) (M0 := M0) (I0 := I0) (i := (x : Int)) (j := (j : Int))
    rw [hz2]
    repeat (refine aK ?_)
    (refine aA rfl (hU _ _) rfl rfl ?_; rintro _ _ _ ⟨rfl, e, rfl, he, rfl⟩; refine ⟨okF, ?_⟩)
    repeat' (first | refine aN ?_ | refine aI ?_ | refine iN ?_ | refine gJ ?_ | refine fF ?_ | refine fA ?_ | refine gL ?_ | refine fO ?_ | refine fE ?_ | refine fD ?_ | refine iM ?_ | refine iJ ?_ | refine iL ?_ | refine iO rfl ?_ | refine aM ?_ | (refine aJ ?_; first | refine fQ rfl rfl rfl ?_ | (refine fP rfl rfl ?_; refine eY rfl rfl rfl okF ?_) | refine gG rfl rfl (by omega) ?_ | refine gD rfl rfl (by omega) ?_ | refine aR rfl rfl (fun h => ?_) (fun h => ?_) | (fail_if_success (refine aT rfl ?_); refine aO rfl rfl (fun h => ?_) (fun h => ?_))) | (refine bO ?_; refine aD rfl (fun _ => dC rfl) rfl rfl ?_) | refine aD rfl (fun _ => bE rfl) rfl rfl ?_ | (refine gH ?_; first | refine aD rfl (fun _ => bT rfl rfl wF) rfl rfl ?_ | refine aD rfl (fun _ => bR rfl rfl wF) rfl rfl ?_ | refine aD rfl (fun _ => dV rfl rfl wF) rfl rfl ?_ | refine aD rfl (fun _ => dS rfl rfl (by omega) qF) rfl rfl ?_ | refine aD rfl (fun _ => dP rfl rfl (by omega) rfl) rfl rfl ?_ | refine aD rfl (fun _ => dB rfl rfl) rfl rfl ?_ | refine aD rfl (fun _ => dG rfl rfl) rfl rfl ?_ | refine aD rfl (fun _ => dD rfl rfl) rfl rfl ?_ | refine aD rfl (fun _ => jM rfl rfl) rfl rfl ?_ | refine aD rfl (fun _ => jX rfl rfl) rfl rfl ?_) | (refine bO ?_; first | refine aD rfl (fun _ => dL rfl wF) rfl rfl ?_) | (refine fU ?_; first | refine aD rfl (fun _ => cB rfl wF) rfl rfl ?_) | (refine fK ?_; first | refine aD rfl (fun _ => bS rfl) rfl rfl ?_ | refine aD rfl (fun _ => dH rfl rfl) rfl rfl ?_ | refine aD rfl (fun _ => cZ rfl rfl) rfl rfl ?_ | refine aD rfl (fun _ => dF rfl rfl rfl) rfl rfl ?_) | (refine fT ?_; first | refine gF rfl (by decide) rfl rfl ?_ | refine gY rfl (by decide) rfl rfl ?_) | (refine fZ ?_; first | refine gZ rfl rfl fG rfl rfl ?_ | refine iB dJ rfl rfl fG aB iD rfl rfl ?_ | refine gW dJ rfl rfl fG aB iD rfl rfl ?_ | refine aD rfl (fun _ => bN rfl rfl fG) rfl rfl ?_) | (refine bQ ?_; first | (apply dE; exact dJ; exact rfl; (focus ((repeat (first | with_reducible exact List.mem_cons_self | with_reducible assumption | with_reducible refine List.mem_cons_of_mem _ ?_)); done)); exact oJ; exact rfl; exact rfl) | (apply gT; exact dJ; exact rfl; (focus ((repeat (first | with_reducible exact List.mem_cons_self | with_reducible assumption | with_reducible refine List.mem_cons_of_mem _ ?_)); done)); exact oJ; exact rfl; exact rfl) | (apply iV; exact dJ; exact rfl; (focus ((repeat (first | with_reducible exact List.mem_cons_self | with_reducible assumption | with_reducible refine List.mem_cons_of_mem _ ?_)); done)); exact oJ; exact rfl; exact rfl) | (apply iT; exact dJ; exact rfl; (focus ((repeat (first | with_reducible exact List.mem_cons_self | with_reducible assumption | with_reducible refine List.mem_cons_of_mem _ ?_)); done)); exact oJ; exact rfl; exact rfl) | (apply iA; exact dJ; exact rfl; (focus ((repeat (first | with_reducible exact List.mem_cons_self | with_reducible assumption | with_reducible refine List.mem_cons_of_mem _ ?_)); done)); exact jU; exact rfl; exact rfl) | (apply fM; exact dJ; exact rfl; (focus ((repeat (first | with_reducible exact List.mem_cons_self | with_reducible assumption | with_reducible refine List.mem_cons_of_mem _ ?_)); done)); exact jU; exact rfl; exact rfl) | (apply gV; exact dJ; exact rfl; (focus ((repeat (first | with_reducible exact List.mem_cons_self | with_reducible assumption | with_reducible refine List.mem_cons_of_mem _ ?_)); done)); exact jU; exact rfl; exact rfl) | (apply iC; exact dJ; exact rfl; (focus ((repeat (first | with_reducible exact List.mem_cons_self | with_reducible assumption | with_reducible refine List.mem_cons_of_mem _ ?_)); done)); exact jU; exact rfl; exact rfl)) | (refine fV ?_; first | refine aD rfl (fun _ => bM rfl rfl) rfl rfl ?_ | refine aD rfl (fun _ => bG rfl) rfl rfl ?_) | (refine aL ?_; first | refine bV rfl ?_ | refine bK rfl ?_ | refine iK rfl (by omega) ?_ | refine jN rfl (by omega) ?_ | refine aS rfl (fun h => ?_) (fun h => ?_) | refine aP rfl (fun h => ?_) (fun h => ?_)))
    refine iU (vs := eR e) rfl rfl rfl (Ones.one e) kX (StAts.r (t4 e) (by omega) rfl) rfl rfl ⟨okF, ?_⟩
    rw [aFW (by simp; omega)]
    repeat (refine aK ?_)
    refine bW (φ := bZ e K) (Hv.q (k := 0) aB (by omega)) ?_
    refine bW (φ := gM (es ++ [e]) K) (Hv.snoc aB aB) ?_
    have e9 : es.map t4 ++ t4 e :: List.replicate (C - x - 1) z4 = (es ++ [e]).map t4 ++ List.replicate (C - (x + 1)) z4 := by simp [Nat.sub_sub]
    rw [e9]
    refine aW (C - (x + 1)) _ _ _ (by first | omega | (simp only [List.length_append, List.length_cons, List.length_nil]; omega)) aV aF aG (⟨x + 1, es ++ [e], by omega, rfl, by simp; omega, fun t ht => ?_, rfl, rfl, rfl⟩)
    by_cases e1 : t < x
    ·have : gt (es ++ [e]) (t : Int) = gt es (t : Int) := by rw [gU (by simp; omega), gU (by omega), List.getElem_append_left (by omega)]
     rw [this]; exact heq t e1
    ·have : gt (es ++ [e]) (t : Int) = e := aCF (A := es) (B := []) (by omega)
     rw [this, he]
     obtain rfl : t = x := by omega
     by_cases e2 : t = j
     ·rw [if_pos e2, if_pos (by omega)]
     ·rw [if_neg e2, if_neg (by omega)]
   ·obtain rfl : x = C := by omega
    rw [Nat.sub_self, List.replicate_zero, List.append_nil, aHX]
    repeat (refine aK ?_)
    refine bH [4, 5, 7, 8, 9, 25, 26, 49, 50] rfl (fun k G M I => ∃ (r : Nat) (es2 : List RE), r ≤ pv.length ∧ k = pv.length - r ∧ es2.length = x ∧ (∀ t : Nat, t < x → (gt es2 (t : Int)).q = if t ∈ pv ∧ pv.idxOf t < r then - at2 m.q (pv.idxOf t) j else if t = j then 1 else 0) ∧ G = [(51, .int .i64 r)] ∧ M = .blk bi (recs eR es2) 42 :: .row qo rows.length co (recs eL rows) 34 1 :: M0 ∧ I = gM es2 K :: pQ rows K :: bP m.p (recs eL m.rows) :: pvI q pv :: nU m K :: I0) (pv.length) _ _ _ aV aF aG (⟨0, es, by omega, by omega, hel, fun t ht => by rw [if_neg (by omega)]; exact heq t ht, rfl, rfl, rfl⟩) ?_
    rintro kk G M I ⟨r, es2, hr2, rfl, hel2, heq2, rfl, rfl, rfl⟩
    by_cases hrp : r < pv.length
    ·have hgz := aPB hrp
     have hpr := hpi r hrp
     have hmr := hd.row (i := r) (by omega)
     have hat := rU (m := m) (i := r) (j := j) (by omega) (by omega)
     refine fI (φ := bP (gt (m).rows (r : Int)).p (recs eR (gt (m).rows (r : Int)).es)) (Hv.xrsl aB (by omega)) ?_
     have hNg := fun M0 I0 h => yC (X := X) (w0 := w0) (M0 := M0) (I0 := I0) (e := gt (gt m.rows (r : Int)).es (j : Int)) (k := K) (by omega) h
     repeat (refine aK ?_)
     rw [hgz]
     (refine aA rfl (hNg _ _ (Hv.xel aB (by omega) (by omega))) rfl rfl ?_; rintro _ _ _ ⟨rfl, e, rfl, he, rfl⟩; refine ⟨okF, ?_⟩)
     repeat' (first | refine aN ?_ | refine aI ?_ | refine iN ?_ | refine gJ ?_ | refine fF ?_ | refine fA ?_ | refine gL ?_ | refine fO ?_ | refine fE ?_ | refine fD ?_ | refine iM ?_ | refine iJ ?_ | refine iL ?_ | refine iO rfl ?_ | refine aM ?_ | (refine aJ ?_; first | refine fQ rfl rfl rfl ?_ | (refine fP rfl rfl ?_; refine eY rfl rfl rfl okF ?_) | refine gG rfl rfl (by omega) ?_ | refine gD rfl rfl (by omega) ?_ | refine aR rfl rfl (fun h => ?_) (fun h => ?_) | (fail_if_success (refine aT rfl ?_); refine aO rfl rfl (fun h => ?_) (fun h => ?_))) | (refine bO ?_; refine aD rfl (fun _ => dC rfl) rfl rfl ?_) | refine aD rfl (fun _ => bE rfl) rfl rfl ?_ | (refine gH ?_; first | refine aD rfl (fun _ => bT rfl rfl wF) rfl rfl ?_ | refine aD rfl (fun _ => bR rfl rfl wF) rfl rfl ?_ | refine aD rfl (fun _ => dV rfl rfl wF) rfl rfl ?_ | refine aD rfl (fun _ => dS rfl rfl (by omega) qF) rfl rfl ?_ | refine aD rfl (fun _ => dP rfl rfl (by omega) rfl) rfl rfl ?_ | refine aD rfl (fun _ => dB rfl rfl) rfl rfl ?_ | refine aD rfl (fun _ => dG rfl rfl) rfl rfl ?_ | refine aD rfl (fun _ => dD rfl rfl) rfl rfl ?_ | refine aD rfl (fun _ => jM rfl rfl) rfl rfl ?_ | refine aD rfl (fun _ => jX rfl rfl) rfl rfl ?_) | (refine bO ?_; first | refine aD rfl (fun _ => dL rfl wF) rfl rfl ?_) | (refine fU ?_; first | refine aD rfl (fun _ => cB rfl wF) rfl rfl ?_) | (refine fK ?_; first | refine aD rfl (fun _ => bS rfl) rfl rfl ?_ | refine aD rfl (fun _ => dH rfl rfl) rfl rfl ?_ | refine aD rfl (fun _ => cZ rfl rfl) rfl rfl ?_ | refine aD rfl (fun _ => dF rfl rfl rfl) rfl rfl ?_) | (refine fT ?_; first | refine gF rfl (by decide) rfl rfl ?_ | refine gY rfl (by decide) rfl rfl ?_) | (refine fZ ?_; first | refine gZ rfl rfl fG rfl rfl ?_ | refine iB dJ rfl rfl fG aB iD rfl rfl ?_ | refine gW dJ rfl rfl fG aB iD rfl rfl ?_ | refine aD rfl (fun _ => bN rfl rfl fG) rfl rfl ?_) | (refine bQ ?_; first | (apply dE; exact dJ; exact rfl; (focus ((repeat (first | with_reducible exact List.mem_cons_self | with_reducible assumption | with_reducible refine List.mem_cons_of_mem _ ?_)); done)); exact oJ; exact rfl; exact rfl) | (apply gT; exact dJ; exact rfl; (focus ((repeat (first | with_reducible exact List.mem_cons_self | with_reducible assumption | with_reducible refine List.mem_cons_of_mem _ ?_)); done)); exact oJ; exact rfl; exact rfl) | (apply iV; exact dJ; exact rfl; (focus ((repeat (first | with_reducible exact List.mem_cons_self | with_reducible assumption | with_reducible refine List.mem_cons_of_mem _ ?_)); done)); exact oJ; exact rfl; exact rfl) | (apply iT; exact dJ; exact rfl; (focus ((repeat (first | with_reducible exact List.mem_cons_self | with_reducible assumption | with_reducible refine List.mem_cons_of_mem _ ?_)); done)); exact oJ; exact rfl; exact rfl) | (apply iA; exact dJ; exact rfl; (focus ((repeat (first | with_reducible exact List.mem_cons_self | with_reducible assumption | with_reducible refine List.mem_cons_of_mem _ ?_)); done)); exact jU; exact rfl; exact rfl) | (apply fM; exact dJ; exact rfl; (focus ((repeat (first | with_reducible exact List.mem_cons_self | with_reducible assumption | with_reducible refine List.mem_cons_of_mem _ ?_)); done)); exact jU; exact rfl; exact rfl) | (apply gV; exact dJ; exact rfl; (focus ((repeat (first | with_reducible exact List.mem_cons_self | with_reducible assumption | with_reducible refine List.mem_cons_of_mem _ ?_)); done)); exact jU; exact rfl; exact rfl) | (apply iC; exact dJ; exact rfl; (focus ((repeat (first | with_reducible exact List.mem_cons_self | with_reducible assumption | with_reducible refine List.mem_cons_of_mem _ ?_)); done)); exact jU; exact rfl; exact rfl)) | (refine fV ?_; first | refine aD rfl (fun _ => bM rfl rfl) rfl rfl ?_ | refine aD rfl (fun _ => bG rfl) rfl rfl ?_) | (refine aL ?_; first | refine bV rfl ?_ | refine bK rfl ?_ | refine iK rfl (by omega) ?_ | refine jN rfl (by omega) ?_ | refine aS rfl (fun h => ?_) (fun h => ?_) | refine aP rfl (fun h => ?_) (fun h => ?_)))
     refine iU (vs := eR e) rfl rfl rfl (Ones.one e) kX (StAts.r e (by omega) rfl) rfl rfl ⟨okF, ?_⟩
     repeat (refine aK ?_)
     refine bW (φ := gM (st es2 ((pv.getD r 0 : Nat) : Int) e) K) (Hv.stR aB aB) ?_
     refine aW (pv.length - (r + 1)) _ _ _ (by first | omega | (simp only [List.length_append, List.length_cons, List.length_nil]; omega)) aV aF aG (⟨r + 1, st es2 ((pv.getD r 0 : Nat) : Int) e, by omega, rfl, by rw [fH]; exact hel2, fun t ht => ?_, rfl, rfl, rfl⟩)
     rw [rJ (by omega)]
     by_cases e1 : t = pv.getD r 0
     ·subst e1
      rw [if_pos rfl, if_pos ⟨yF.2 ⟨r, hrp, rfl⟩, by rw [hidx r hrp]; omega⟩, he, hidx r hrp, hat]
     ·rw [if_neg e1, heq2 t ht]
      by_cases e2 : t ∈ pv
      ·have e3 : pv.idxOf t ≠ r := fun e => e1 (by rw [← e]; exact (Red.idx_lt e2).2.symm)
       by_cases e4 : pv.idxOf t < r
       ·rw [if_pos ⟨e2, e4⟩, if_pos ⟨e2, by omega⟩]
       ·rw [if_neg (show ¬ (t ∈ pv ∧ pv.idxOf t < r) from fun h => e4 h.2), if_neg (show ¬ (t ∈ pv ∧ pv.idxOf t < r + 1) from fun h => by have := h.2; omega)]
      ·rw [if_neg (show ¬ (t ∈ pv ∧ pv.idxOf t < r) from fun h => e2 h.1), if_neg (show ¬ (t ∈ pv ∧ pv.idxOf t < r + 1) from fun h => e2 h.1)]
    ·obtain rfl : r = pv.length := by omega
     have hV : qs es2 = rZ m.q pv x j := by
      apply qN
      ·simp [rZ, hel2]
      ·intro t ht
       have ht' : t < x := by simpa [hel2] using ht
       rw [kH (by omega), heq2 t ht', aEU ht']
       unfold aHG
       by_cases e2 : t ∈ pv
       ·rw [if_pos ⟨e2, (Red.idx_lt e2).1⟩, if_pos e2]
       ·rw [if_neg (fun h => e2 h.1), if_neg e2]
     repeat (refine aK ?_)
     refine aOE (k := K) aB ?_
     rw [hel2]
     have hvv : Value.slice (some ⟨bi, 0, none⟩) x x = lv (⟨some ⟨bi, 0, none⟩, x, es2⟩ : RL) := by show _ = Value.slice _ es2.length _; rw [hel2]
     rw [hvv]
     (refine dM (cs := recs eL [(⟨some ⟨bi, 0, none⟩, x, es2⟩ : RL)]) ([lv (⟨some ⟨bi, 0, none⟩, x, es2⟩ : RL)]) rfl rfl (by intro v hv; repeat (first | exact absurd hv (List.not_mem_nil) | (rcases List.mem_cons.1 hv with rfl | hv; · rfl))) (by omega) rfl rfl rfl ?_; intro bb; refine ⟨okF, ?_⟩)
     (refine iF (ys := [(⟨some ⟨bi, 0, none⟩, x, es2⟩ : RL)]) 1 rfl rfl rfl ?_ (by decide) rfl (by omega) (by omega) rfl rfl ?_; (· first | exact Src.blk aB | exact Src.row aB | exact Src.imm aB (by first | assumption | exact .inl (Ok.mk _ _))); intro q2 c2; refine ⟨okF, ?_⟩)
     repeat (refine aK ?_)
     refine bW (φ := pQ (rows ++ [(⟨some ⟨bi, 0, none⟩, x, es2⟩ : RL)]) K) (Hv.snocL aB aB) ?_
     refine aW (x - (j + 1)) _ _ _ (by first | omega | (simp only [List.length_append, List.length_cons, List.length_nil]; omega)) aV aF aG (⟨j + 1, rows ++ [(⟨some ⟨bi, 0, none⟩, x, es2⟩ : RL)], q2, c2, by omega, rfl, ?_, fun r hr => ?_, rfl, rfl, rfl⟩)
     ·rw [aGW, hq, rG, if_neg hjp, List.map_append]
      show _ ++ [qs es2] = _ ++ [rZ m.q pv x j]
      rw [hV]
     ·rcases List.mem_append.1 hr with h | h
      ·exact hl r h
      ·rw [List.mem_singleton.1 h]; exact hel2
 ·obtain rfl : j = C := by omega
  repeat (refine aK ?_)
  refine aGH (k := K) aB ?_
  refine kL [2, 3] (by first | exact .inl rfl | exact .inr rfl) rfl rfl rfl _ _ aF aG (⟨rfl, ⟨qo, co, rows⟩, rfl, by unfold oQ aKU; rw [hm]; exact hq, hl, rfl⟩)
end
end Go.Proofs.YtgeagiikkeiioaaGreat
namespace Go.Proofs.YtgeagiikkeiioaaGreat
open Go Go.Fx
def hD (k : Nat) : Nat → Nat
 | 0 => k
 | n + 1 => (n + 2) * (k + hD k n + 1)
section
variable {X : List Nat} {w0 : World} {M0 : List Ent} {I0 : List bL}
theorem rY {x : Int} (hx : x.natAbs ≤ 1) : CD Tryz.prog 115 [.int .i64 x] X w0 M0 I0 (RQ (x : Rat) 0 M0 I0) := by
 have hW := fun M0 I0 => yQ (X := X) (w0 := w0) (M0 := M0) (I0 := I0) (x := x) (by omega) (k := 0) hx
 refine bX Tryz.func115 rfl Tryz.ntmps115 rfl ?_
 refine aN ?_
 refine aI ?_
 (refine aC rfl rfl ?_; intro b; refine ⟨okF, ?_⟩)
 repeat (refine aK ?_)
 (refine aA rfl (hW _ _) rfl rfl ?_; rintro _ _ _ ⟨rfl, e, rfl, he, rfl⟩; refine ⟨okF, ?_⟩)
 repeat (refine aK ?_)
 refine bY (cs := eR e) (.inl rfl) rfl rfl aB rfl M0 (bZ e 0 :: I0) aF aG ⟨rfl, e, rfl, he, rfl⟩
end
end Go.Proofs.YtgeagiikkeiioaaGreat

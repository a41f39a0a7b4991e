/- The document's Null. matrix: column, Solve, Refute. resect: row, times, canonical of lists, shaped. -/
import Derived.Test.YtgeagiikkeiioaaGreatZrbf
import Derived.Test.YtgeagiikkeiioaaGreatZrax
import Derived.Test.YtgeagiikkeiioaaGreatZrbd
set_option linter.unusedSimpArgs false
set_option linter.unusedVariables false
set_option maxRecDepth 100000
set_option maxHeartbeats 4000000
namespace Go.Proofs.YtgeagiikkeiioaaGreat
open Go Go.Fx
def NlR (A : Mt) (C k : Nat) (M0 : List Ent) (I0 : List bL) (v : Value) (M : List Ent) (I : List bL) : Prop :=
 M0 = M ∧ ∃ m : MX, v = mv m ∧ m.q = oQ A C ∧ (∀ r ∈ m.rows, r.es.length = C) ∧ I = nU m k :: I0
theorem Hv.allS1 {I : List bL} {r : MS} {k : Nat} (h : jC [r] k ∈ I) : Hv I (gM r.es k) := ⟨fun X w hw => ⟨(hw _ h : AllS [r] k X w).go r List.mem_cons_self⟩⟩
section
variable {X : List Nat} {w0 : World} {M : List Ent} {I : List bL}
theorem Mem.blkT {w : World} {b k c : Nat} {es : List RE} {tl : List Value} {ty : TypeId} (hc : es.length ≤ c) (h : Mem X w0 (.blk b (recs eR es ++ tl) ty :: M) I w) (ha : gM es k ∈ I) : Mem X w0 M (mF ⟨some ⟨b, 0, none⟩, c, es⟩ k :: I) w := by
 have h1 := h.freezeB .here
 refine (h1.add (φ := mF ⟨some ⟨b, 0, none⟩, c, es⟩ k) ⟨aGK (h1.sl (List.Mem.head _)), (((h1.imm _ (List.Mem.tail _ ha)).2 : AllR es k _ w)).go, ⟨hc, .inl (Ok.mk _ _)⟩⟩).inc (.of fun φ hφ => ?_)
 rcases List.mem_cons.1 hφ with rfl | hφ
 ·exact List.Mem.head _
 ·exact List.Mem.tail _ (List.Mem.tail _ hφ)
variable {P : Program} {n : Nat} {Q : Exit → Act → World → Prop} {G : Env}
theorem aNU {ops l : List Oper} {m : Fx.Mode} {b k c : Nat} {es : List RE} {tl : List Value} {ty : TypeId} (hc : es.length ≤ c) (ha : gM es k ∈ I) (h : RD P n ops Q m l G X w0 M (mF ⟨some ⟨b, 0, none⟩, c, es⟩ k :: I)) : RD P n ops Q m l G X w0 (.blk b (recs eR es ++ tl) ty :: M) I := uQ (fun _ hw => Mem.blkT hc hw ha) h
end
section
variable {X : List Nat} {w0 : World} {M0 : List Ent} {I0 : List bL}
theorem aNG {p : Option Addr} {l : List Int} {t c : Nat} {x : Int} (hl : l.length = t) (ht : t ≤ 100000) (hp : bP p (recs (eI .i64) l) ∈ I0) :
  CD Tryz.prog 113 [.slice p t c, .int .i64 x] X w0 M0 I0 (fun v M I => M0 = M ∧ I0 = I ∧ v = .bool (B (x ∈ l))) := by
 refine bJ Tryz.func113 rfl Tryz.ntmps113 rfl ?_
 repeat (refine aK ?_)
 refine bH [0, 1] rfl (fun k G M I => ∃ i : Nat, i ≤ t ∧ k = t - i ∧ (∀ j : Nat, j < i → gt l j ≠ x) ∧ G = [(5, .int .i64 i)] ∧ M0 = M ∧ I0 = I) (t) _ _ _ aV aF aG (⟨0, by omega, rfl, fun j hj => by omega, rfl, rfl, rfl⟩) ?_
 rintro kk G M I ⟨i, hi, rfl, hs, rfl, rfl, rfl⟩
 by_cases h : i < t
 ·by_cases he : gt l i = x
  ·repeat (refine aK ?_)
   refine aU (by first | exact .inl rfl | exact .inr rfl) rfl rfl _ _ aF aG (⟨rfl, rfl, congrArg Value.bool (cO (by rw [← he]; exact dI (by omega))).symm⟩)
  ·repeat (refine aK ?_)
   refine aW (t - (i + 1)) _ _ _ (by first | omega | (simp only [List.length_append, List.length_cons, List.length_nil]; omega)) aV aF aG (⟨i + 1, by omega, rfl, fun j hj => ?_, rfl, rfl, rfl⟩)
   by_cases e : j = i
   ·subst e; exact he
   ·exact hs j (by omega)
 ·repeat (refine aK ?_)
  refine aU (by first | exact .inl rfl | exact .inr rfl) rfl rfl _ _ aF aG (⟨rfl, rfl, congrArg Value.bool (bC (fun h => by { obtain ⟨j, hj, e⟩ := List.mem_iff_getElem.1 h; exact absurd (by rw [kG hj]; exact e) (hs j (by omega)) })).symm⟩)
theorem aKY {a : MX} {R C k0 : Nat} (hb : kb k0 C ≤ 20000000000) (hR : 1 ≤ R ∧ R ≤ 100) (hC : 1 ≤ C ∧ C ≤ 100) (da : a.dim R C) (ha : nU a k0 ∈ I0) : CD Tryz.prog 57 [mv a] X w0 M0 I0 (NlR a.q C (kb k0 C) M0 I0) := by
 have lR := da.1
 have lC : (gt a.rows 0).es.length = C := da.row (i := 0) (by omega)
 have hZ : ∀ M0 I0, CD Tryz.prog 114 [.int .i64 1, .int .i64 (C : Int)] X w0 M0 I0 (MsP 1 C (fun _ _ => 0) 0 M0 I0) := fun M0 I0 => aEG (X := X) (w0 := w0) (M0 := M0) (I0 := I0) (R := 1) (C := C) (by omega) hC
 have hW := fun M0 I0 => rY (X := X) (w0 := w0) (M0 := M0) (I0 := I0) (x := 1) (by decide)
 refine eD (φ := bP (a).p (recs eL (a).rows)) (Hv.xsl aB) ?_
 refine bX Tryz.func57 rfl Tryz.ntmps57 rfl ?_
 repeat (refine aK ?_)
 (refine aA rfl (aNK hb hR hC da aB) rfl rfl ?_; rintro _ _ _ ⟨rfl, m, pv, q, c, rfl, hm, hd, rfl⟩; refine ⟨okF, ?_⟩)
 obtain ⟨s, hr⟩ := da.red hm
 have hlen := hr.len
 have hpi : ∀ r : Nat, r < pv.length → pv.getD r 0 < C := fun r h => hr.piv_lt h
 have hidx : ∀ r : Nat, r < pv.length → pv.idxOf (pv.getD r 0) = r := fun r h => hr.idx h
 have mR := hd.1
 have hz : (zs pv).length = pv.length := by simp
 generalize hK : kb k0 C = K at *
 refine gN (φ := bP (m).p (recs eL (m).rows)) (Hv.xsl aB) ?_
 repeat (refine aK ?_)
 (refine dM (cs := recs eL []) ([]) rfl rfl (by intro v hv; repeat (first | exact absurd hv (List.not_mem_nil) | (rcases List.mem_cons.1 hv with rfl | hv; · rfl))) (by omega) rfl rfl rfl ?_; intro bo; refine ⟨okF, ?_⟩; refine jY (mm := 0) 1 .here rfl (by omega) ?_)
 repeat (refine aK ?_)
 refine fI (φ := pQ [] K) Hv.nilL ?_
 repeat (refine aK ?_)
 refine bH [0, 3, 4] rfl (fun k G M I => ∃ (j : Nat) (rows : List RL) (qo : Option Addr) (co : Nat), j ≤ C ∧ k = C - j ∧ rows.map RL.q = (wD pv j).map (rZ m.q pv C) ∧ (∀ r ∈ rows, r.es.length = C) ∧ G = [(5, .slice qo rows.length co), (6, .int .i64 j)] ∧ M = .row qo rows.length co (recs eL rows) 34 1 :: M0 ∧ I = pQ rows K :: bP m.p (recs eL m.rows) :: pvI q pv :: nU m K :: bP a.p (recs eL a.rows) :: I0) (C) _ _ _ aV aF aG (⟨0, [], _, _, by omega, rfl, rfl, fun r hr => by simp at hr, rfl, rfl, rfl⟩) ?_
 rintro kk G M I ⟨j, rows, qo, co, hj, rfl, hq, hl, rfl, rfl, rfl⟩
 have hrl : rows.length ≤ j := by have := congrArg List.length hq; rw [List.length_map, List.length_map] at this; have := aDM (pv := pv) (j := j); omega
 by_cases hjC : j < C
 ·have hCn := fun M0 I0 h => aNG (X := X) (w0 := w0) (M0 := M0) (I0 := I0) (p := q) (l := zs pv) (t := pv.length) (c := c) (x := (j : Int)) hz (by omega) h
  by_cases hjp : j ∈ pv
  ·rw [cO (aCO.2 hjp)] at hCn
   repeat (refine aK ?_)
   (refine aA rfl (hCn _ _ aB) rfl rfl ?_; rintro _ _ _ ⟨rfl, rfl, rfl⟩; refine ⟨okF, ?_⟩)
   repeat (refine aK ?_)
   refine aW (C - (j + 1)) _ _ _ (by first | omega | (simp only [List.length_append, List.length_cons, List.length_nil]; omega)) aV aF aG (⟨j + 1, rows, qo, co, by omega, rfl, by rw [rG, if_pos hjp]; exact hq, hl, rfl, rfl, rfl⟩)
  ·rw [bC (fun h => hjp (aCO.1 h))] at hCn
   repeat (refine aK ?_)
   (refine aA rfl (hCn _ _ aB) rfl rfl ?_; rintro _ _ _ ⟨rfl, rfl, rfl⟩; refine ⟨okF, ?_⟩)
   repeat (refine aK ?_)
   rw [lC]
   (refine aA rfl (hZ _ _) rfl rfl ?_; rintro _ _ _ ⟨bz, cz, tlz, rz, rfl, hcz, hsz, hpz, rfl, rfl⟩; refine ⟨okF, ?_⟩)
   obtain ⟨r0, rfl⟩ : ∃ r0, rz = [r0] := by
    have := hsz.len
    match rz, this with
    | [x], _ => exact ⟨x, rfl⟩
   have hcol := hsz.col r0 (by simp)
   have hp0 : ∀ t : Nat, t < C → (gt r0.es (t : Int)).q = 0 := fun t ht => hpz 0 t (by omega) ht
   refine gN (φ := gM r0.es 0) (Hv.allS1 aB) ?_
   simp only [List.map_cons, List.map_nil, List.cons_append, List.nil_append]
   obtain ⟨hel, hcv⟩ := hcol
   have hg1 : gt [r0] 0 = r0 := rfl
   repeat (refine aK ?_)
   rw [hel]
   (refine aA rfl (hW _ _) rfl rfl ?_; rintro _ _ _ ⟨rfl, e, rfl, he, rfl⟩; refine ⟨okF, ?_⟩)
   repeat' (first | refine aN ?_ | refine aI ?_ | refine iN ?_ | refine gJ ?_ | refine fF ?_ | refine fA ?_ | refine gL ?_ | refine fO ?_ | refine fE ?_ | refine fD ?_ | refine iM ?_ | refine iJ ?_ | refine iL ?_ | refine iO rfl ?_ | refine aM ?_ | (refine aJ ?_; first | refine fQ rfl rfl rfl ?_ | (refine fP rfl rfl ?_; refine eY rfl rfl rfl okF ?_) | refine gG rfl rfl (by omega) ?_ | refine gD rfl rfl (by omega) ?_ | refine aR rfl rfl (fun h => ?_) (fun h => ?_) | (fail_if_success (refine aT rfl ?_); refine aO rfl rfl (fun h => ?_) (fun h => ?_))) | (refine bO ?_; refine aD rfl (fun _ => dC rfl) rfl rfl ?_) | refine aD rfl (fun _ => bE rfl) rfl rfl ?_ | (refine gH ?_; first | refine aD rfl (fun _ => bT rfl rfl wF) rfl rfl ?_ | refine aD rfl (fun _ => bR rfl rfl wF) rfl rfl ?_ | refine aD rfl (fun _ => dV rfl rfl wF) rfl rfl ?_ | refine aD rfl (fun _ => dS rfl rfl (by omega) qF) rfl rfl ?_ | refine aD rfl (fun _ => dP rfl rfl (by omega) rfl) rfl rfl ?_ | refine aD rfl (fun _ => dB rfl rfl) rfl rfl ?_ | refine aD rfl (fun _ => dG rfl rfl) rfl rfl ?_ | refine aD rfl (fun _ => dD rfl rfl) rfl rfl ?_ | refine aD rfl (fun _ => jM rfl rfl) rfl rfl ?_ | refine aD rfl (fun _ => jX rfl rfl) rfl rfl ?_) | (refine bO ?_; first | refine aD rfl (fun _ => dL rfl wF) rfl rfl ?_) | (refine fU ?_; first | refine aD rfl (fun _ => cB rfl wF) rfl rfl ?_) | (refine fK ?_; first | refine aD rfl (fun _ => bS rfl) rfl rfl ?_ | refine aD rfl (fun _ => dH rfl rfl) rfl rfl ?_ | refine aD rfl (fun _ => cZ rfl rfl) rfl rfl ?_ | refine aD rfl (fun _ => dF rfl rfl rfl) rfl rfl ?_) | (refine fT ?_; first | refine gF rfl (by decide) rfl rfl ?_ | refine gY rfl (by decide) rfl rfl ?_) | (refine fZ ?_; first | refine gZ rfl rfl fG rfl rfl ?_ | refine iB dJ rfl rfl fG aB iD rfl rfl ?_ | refine gW dJ rfl rfl fG aB iD rfl rfl ?_ | refine aD rfl (fun _ => bN rfl rfl fG) rfl rfl ?_) | (refine bQ ?_; first | (apply dE; exact dJ; exact rfl; (focus ((repeat (first | with_reducible exact List.mem_cons_self | with_reducible assumption | with_reducible refine List.mem_cons_of_mem _ ?_)); done)); exact oJ; exact rfl; exact rfl) | (apply gT; exact dJ; exact rfl; (focus ((repeat (first | with_reducible exact List.mem_cons_self | with_reducible assumption | with_reducible refine List.mem_cons_of_mem _ ?_)); done)); exact oJ; exact rfl; exact rfl) | (apply iV; exact dJ; exact rfl; (focus ((repeat (first | with_reducible exact List.mem_cons_self | with_reducible assumption | with_reducible refine List.mem_cons_of_mem _ ?_)); done)); exact oJ; exact rfl; exact rfl) | (apply iT; exact dJ; exact rfl; (focus ((repeat (first | with_reducible exact List.mem_cons_self | with_reducible assumption | with_reducible refine List.mem_cons_of_mem _ ?_)); done)); exact oJ; exact rfl; exact rfl) | (apply iA; exact dJ; exact rfl; (focus ((repeat (first | with_reducible exact List.mem_cons_self | with_reducible assumption | with_reducible refine List.mem_cons_of_mem _ ?_)); done)); exact jU; exact rfl; exact rfl) | (apply fM; exact dJ; exact rfl; (focus ((repeat (first | with_reducible exact List.mem_cons_self | with_reducible assumption | with_reducible refine List.mem_cons_of_mem _ ?_)); done)); exact jU; exact rfl; exact rfl) | (apply gV; exact dJ; exact rfl; (focus ((repeat (first | with_reducible exact List.mem_cons_self | with_reducible assumption | with_reducible refine List.mem_cons_of_mem _ ?_)); done)); exact jU; exact rfl; exact rfl) | (apply iC; exact dJ; exact rfl; (focus ((repeat (first | with_reducible exact List.mem_cons_self | with_reducible assumption | with_reducible refine List.mem_cons_of_mem _ ?_)); done)); exact jU; exact rfl; exact rfl)) | (refine fV ?_; first | refine aD rfl (fun _ => bM rfl rfl) rfl rfl ?_ | refine aD rfl (fun _ => bG rfl) rfl rfl ?_) | (refine aL ?_; first | refine bV rfl ?_ | refine bK rfl ?_ | refine iK rfl (by omega) ?_ | refine jN rfl (by omega) ?_ | refine aS rfl (fun h => ?_) (fun h => ?_) | refine aP rfl (fun h => ?_) (fun h => ?_)))
   refine iU (vs := eR e) rfl rfl rfl (Ones.one e) kX (StAts.app (StAts.r (enc := eR) (ms := r0.es) (i := (j : Int)) e (by omega) rfl)) rfl rfl ⟨okF, ?_⟩
   refine gN (φ := gM (st r0.es (j : Int) e) 0) (Hv.stR aB aB) ?_
   refine gN (φ := gM (st r0.es (j : Int) e) K) (Hv.allMono (k := 0) (List.Mem.head _) (Nat.zero_le _)) ?_
   obtain ⟨es1, hes1⟩ : ∃ es1, es1 = st r0.es (j : Int) e := ⟨_, rfl⟩
   have hel1 : es1.length = C := by rw [hes1, fH]; exact hel
   have heq1 : ∀ t : Nat, t < C → (gt es1 (t : Int)).q = if t = j then 1 else 0 := fun t ht => by
    rw [hes1, rJ (by omega)]
    by_cases e1 : t = j
    ·rw [if_pos e1, if_pos e1, he]; rfl
    ·rw [if_neg e1, if_neg e1]; exact hp0 t ht
   rw [← hes1]
   repeat (refine aK ?_)
   refine aLJ (M' := .blk r0.b (recs eR es1 ++ r0.tl) 42 :: .row qo rows.length co (recs eL rows) 34 1 :: M0) (I' := gM es1 K :: pQ rows K :: bP m.p (recs eL m.rows) :: pvI q pv :: nU m K :: bP a.p (recs eL a.rows) :: I0) (SubP.drop SubP.refl) aG ?_
   refine bH [0, 3, 4, 5, 6, 7] rfl (fun k G M I => ∃ (r : Nat) (es2 : List RE), r ≤ pv.length ∧ k = pv.length - r ∧ es2.length = C ∧ (∀ t : Nat, t < C → (gt es2 (t : Int)).q = if t ∈ pv ∧ pv.idxOf t < r then - at2 m.q (pv.idxOf t) j else if t = j then 1 else 0) ∧ G = [(8, .int .i64 r)] ∧ M = .blk r0.b (recs eR es2 ++ r0.tl) 42 :: .row qo rows.length co (recs eL rows) 34 1 :: M0 ∧ I = gM es2 K :: pQ rows K :: bP m.p (recs eL m.rows) :: pvI q pv :: nU m K :: bP a.p (recs eL a.rows) :: I0) (pv.length) _ _ _ aV aF aG (⟨0, es1, by omega, by omega, hel1, fun t ht => by rw [if_neg (by omega)]; exact heq1 t ht, rfl, rfl, rfl⟩) ?_
   rintro kk G M I ⟨r, es2, hr2, rfl, hel2, heq2, rfl, rfl, rfl⟩
   by_cases hrp : r < pv.length
   ·have hgz := aPB hrp
    have hpr := hpi r hrp
    have hmr := hd.row (i := r) (by omega)
    have hat := rU (m := m) (i := r) (j := j) (by omega) (by omega)
    refine fI (φ := bP (gt (m).rows (r : Int)).p (recs eR (gt (m).rows (r : Int)).es)) (Hv.xrsl aB (by omega)) ?_
    have hNg := fun M0 I0 h => aEP (X := X) (w0 := w0) (M0 := M0) (I0 := I0) (e := gt (gt m.rows (r : Int)).es (j : Int)) (k := K) (by omega) h
    repeat (refine aK ?_)
    (repeat refine aN ?_); refine dK 1 [0, 1, 2, 3, 4, 5, 6, 7, 8, 9, 10, 11, 12, 13, 14] [1, 1, 1, 1, 1, 1, 1, 1, 1, 1, 1, 0, 0, 0, 0] mixed (by kernel_rfl) ?_
    repeat (refine aK ?_)
    rw [hgz]
    (refine aA rfl (hNg _ _ (Hv.xel aB (by omega) (by omega))) rfl rfl ?_; rintro _ _ _ ⟨rfl, e2, rfl, he2, rfl⟩; refine ⟨okF, ?_⟩)
    repeat' (first | refine aN ?_ | refine aI ?_ | refine iN ?_ | refine gJ ?_ | refine fF ?_ | refine fA ?_ | refine gL ?_ | refine fO ?_ | refine fE ?_ | refine fD ?_ | refine iM ?_ | refine iJ ?_ | refine iL ?_ | refine iO rfl ?_ | refine aM ?_ | (refine aJ ?_; first | refine fQ rfl rfl rfl ?_ | (refine fP rfl rfl ?_; refine eY rfl rfl rfl okF ?_) | refine gG rfl rfl (by omega) ?_ | refine gD rfl rfl (by omega) ?_ | refine aR rfl rfl (fun h => ?_) (fun h => ?_) | (fail_if_success (refine aT rfl ?_); refine aO rfl rfl (fun h => ?_) (fun h => ?_))) | (refine bO ?_; refine aD rfl (fun _ => dC rfl) rfl rfl ?_) | refine aD rfl (fun _ => bE rfl) rfl rfl ?_ | (refine gH ?_; first | refine aD rfl (fun _ => bT rfl rfl wF) rfl rfl ?_ | refine aD rfl (fun _ => bR rfl rfl wF) rfl rfl ?_ | refine aD rfl (fun _ => dV rfl rfl wF) rfl rfl ?_ | refine aD rfl (fun _ => dS rfl rfl (by omega) qF) rfl rfl ?_ | refine aD rfl (fun _ => dP rfl rfl (by omega) rfl) rfl rfl ?_ | refine aD rfl (fun _ => dB rfl rfl) rfl rfl ?_ | refine aD rfl (fun _ => dG rfl rfl) rfl rfl ?_ | refine aD rfl (fun _ => dD rfl rfl) rfl rfl ?_ | refine aD rfl (fun _ => jM rfl rfl) rfl rfl ?_ | refine aD rfl (fun _ => jX rfl rfl) rfl rfl ?_) | (refine bO ?_; first | refine aD rfl (fun _ => dL rfl wF) rfl rfl ?_) | (refine fU ?_; first | refine aD rfl (fun _ => cB rfl wF) rfl rfl ?_) | (refine fK ?_; first | refine aD rfl (fun _ => bS rfl) rfl rfl ?_ | refine aD rfl (fun _ => dH rfl rfl) rfl rfl ?_ | refine aD rfl (fun _ => cZ rfl rfl) rfl rfl ?_ | refine aD rfl (fun _ => dF rfl rfl rfl) rfl rfl ?_) | (refine fT ?_; first | refine gF rfl (by decide) rfl rfl ?_ | refine gY rfl (by decide) rfl rfl ?_) | (refine fZ ?_; first | refine gZ rfl rfl fG rfl rfl ?_ | refine iB dJ rfl rfl fG aB iD rfl rfl ?_ | refine gW dJ rfl rfl fG aB iD rfl rfl ?_ | refine aD rfl (fun _ => bN rfl rfl fG) rfl rfl ?_) | (refine bQ ?_; first | (apply dE; exact dJ; exact rfl; (focus ((repeat (first | with_reducible exact List.mem_cons_self | with_reducible assumption | with_reducible refine List.mem_cons_of_mem _ ?_)); done)); exact oJ; exact rfl; exact rfl) | (apply gT; exact dJ; exact rfl; (focus ((repeat (first | with_reducible exact List.mem_cons_self | with_reducible assumption | with_reducible refine List.mem_cons_of_mem _ ?_)); done)); exact oJ; exact rfl; exact rfl) | (apply iV; exact dJ; exact rfl; (focus ((repeat (first | with_reducible exact List.mem_cons_self | with_reducible assumption | with_reducible refine List.mem_cons_of_mem _ ?_)); done)); exact oJ; exact rfl; exact rfl) | (apply iT; exact dJ; exact rfl; (focus ((repeat (first | with_reducible exact List.mem_cons_self | with_reducible assumption | with_reducible refine List.mem_cons_of_mem _ ?_)); done)); exact oJ; exact rfl; exact rfl) | (apply iA; exact dJ; exact rfl; (focus ((repeat (first | with_reducible exact List.mem_cons_self | with_reducible assumption | with_reducible refine List.mem_cons_of_mem _ ?_)); done)); exact jU; exact rfl; exact rfl) | (apply fM; exact dJ; exact rfl; (focus ((repeat (first | with_reducible exact List.mem_cons_self | with_reducible assumption | with_reducible refine List.mem_cons_of_mem _ ?_)); done)); exact jU; exact rfl; exact rfl) | (apply gV; exact dJ; exact rfl; (focus ((repeat (first | with_reducible exact List.mem_cons_self | with_reducible assumption | with_reducible refine List.mem_cons_of_mem _ ?_)); done)); exact jU; exact rfl; exact rfl) | (apply iC; exact dJ; exact rfl; (focus ((repeat (first | with_reducible exact List.mem_cons_self | with_reducible assumption | with_reducible refine List.mem_cons_of_mem _ ?_)); done)); exact jU; exact rfl; exact rfl)) | (refine fV ?_; first | refine aD rfl (fun _ => bM rfl rfl) rfl rfl ?_ | refine aD rfl (fun _ => bG rfl) rfl rfl ?_) | (refine aL ?_; first | refine bV rfl ?_ | refine bK rfl ?_ | refine iK rfl (by omega) ?_ | refine jN rfl (by omega) ?_ | refine aS rfl (fun h => ?_) (fun h => ?_) | refine aP rfl (fun h => ?_) (fun h => ?_)))
    refine iU (vs := eR e2) rfl rfl rfl (Ones.one e2) kX (StAts.app (StAts.r (enc := eR) (ms := es2) (i := ((pv.getD r 0 : Nat) : Int)) e2 (by omega) rfl)) rfl rfl ⟨okF, ?_⟩
    repeat (refine aK ?_)
    refine bW (φ := gM (st es2 ((pv.getD r 0 : Nat) : Int) e2) K) (Hv.stR aB aB) ?_
    refine aW (pv.length - (r + 1)) _ _ _ (by first | omega | (simp only [List.length_append, List.length_cons, List.length_nil]; omega)) aV aF aG (⟨r + 1, st es2 ((pv.getD r 0 : Nat) : Int) e2, by omega, rfl, by rw [fH]; exact hel2, fun t ht => ?_, rfl, rfl, rfl⟩)
    rw [rJ (by omega)]
    by_cases e1 : t = pv.getD r 0
    ·subst e1
     rw [if_pos rfl, if_pos ⟨yF.2 ⟨r, hrp, rfl⟩, by rw [hidx r hrp]; omega⟩, he2, hidx r hrp, hat]
    ·rw [if_neg e1, heq2 t ht]
     by_cases e2 : t ∈ pv
     ·have e3 : pv.idxOf t ≠ r := fun e => e1 (by rw [← e]; exact (Red.idx_lt e2).2.symm)
      by_cases e4 : pv.idxOf t < r
      ·rw [if_pos ⟨e2, e4⟩, if_pos ⟨e2, by omega⟩]
      ·rw [if_neg (show ¬ (t ∈ pv ∧ pv.idxOf t < r) from fun h => e4 h.2), if_neg (show ¬ (t ∈ pv ∧ pv.idxOf t < r + 1) from fun h => by have := h.2; omega)]
     ·rw [if_neg (show ¬ (t ∈ pv ∧ pv.idxOf t < r) from fun h => e2 h.1), if_neg (show ¬ (t ∈ pv ∧ pv.idxOf t < r + 1) from fun h => e2 h.1)]
   ·obtain rfl : r = pv.length := by omega
    have hV : qs es2 = rZ m.q pv C j := by
     apply qN
     ·simp [rZ, hel2]
     ·intro t ht
      have ht' : t < C := by simpa [hel2] using ht
      rw [kH (by omega), heq2 t ht', aEU ht']
      unfold aHG
      by_cases e2 : t ∈ pv
      ·rw [if_pos ⟨e2, (Red.idx_lt e2).1⟩, if_pos e2]
      ·rw [if_neg (fun h => e2 h.1), if_neg e2]
    repeat (refine aK ?_)
    refine aNU (k := K) (c := r0.c) (by omega) aB ?_
    have hvv : Value.slice (some ⟨r0.b, 0, none⟩) C r0.c = lv (⟨some ⟨r0.b, 0, none⟩, r0.c, es2⟩ : RL) := by show _ = Value.slice _ es2.length _; rw [hel2]
    rw [hvv]
    (refine dM (cs := recs eL [(⟨some ⟨r0.b, 0, none⟩, r0.c, es2⟩ : RL)]) ([lv (⟨some ⟨r0.b, 0, none⟩, r0.c, es2⟩ : RL)]) rfl rfl (by intro v hv; repeat (first | exact absurd hv (List.not_mem_nil) | (rcases List.mem_cons.1 hv with rfl | hv; · rfl))) (by omega) rfl rfl rfl ?_; intro bb; refine ⟨okF, ?_⟩)
    (refine iF (ys := [(⟨some ⟨r0.b, 0, none⟩, r0.c, es2⟩ : RL)]) 1 rfl rfl rfl ?_ (by decide) rfl (by omega) (by omega) rfl rfl ?_; (· first | exact Src.blk aB | exact Src.row aB | exact Src.imm aB (by first | assumption | exact .inl (Ok.mk _ _))); intro q2 c2; refine ⟨okF, ?_⟩)
    repeat (refine aK ?_)
    refine bW (φ := pQ (rows ++ [(⟨some ⟨r0.b, 0, none⟩, r0.c, es2⟩ : RL)]) K) (Hv.snocL aB aB) ?_
    refine aW (C - (j + 1)) _ _ _ (by first | omega | (simp only [List.length_append, List.length_cons, List.length_nil]; omega)) aV aF aG (⟨j + 1, rows ++ [(⟨some ⟨r0.b, 0, none⟩, r0.c, es2⟩ : RL)], q2, c2, by omega, rfl, ?_, fun r hr => ?_, rfl, rfl, rfl⟩)
    ·rw [aGW, hq, rG, if_neg hjp, List.map_append]
     show _ ++ [qs es2] = _ ++ [rZ m.q pv C j]
     rw [hV]
    ·rcases List.mem_append.1 hr with h | h
     ·exact hl r h
     ·rw [List.mem_singleton.1 h]; exact hel2
 ·obtain rfl : j = C := by omega
  repeat (refine aK ?_)
  refine aGH (k := K) aB ?_
  refine aU (by first | exact .inl rfl | exact .inr rfl) rfl rfl _ _ aF aG (⟨rfl, ⟨qo, co, rows⟩, rfl, by unfold oQ aKU; rw [hm]; exact hq, hl, rfl⟩)
end
end Go.Proofs.YtgeagiikkeiioaaGreat
namespace Go.Proofs.YtgeagiikkeiioaaGreat
open Go Go.Fx
def bes1 (R C : Nat) (A : Mt) (b : List Rat) : Mt := zZ R (C + 1) (fun i j => if j < C then at2 A i j else b.getD i 0)
def besU (R C : Nat) (A : Mt) (b : List Rat) : Mt := zZ R (C + 1 + R) (fun i j => if j < C then at2 A i j else if j = C then b.getD i 0 else dlt i (j - (C + 1)))
def solB (R C : Nat) (f : Nat → Nat → Rat) (pv : List Nat) : Prop := ∀ i ∈ List.range R, pv.length ≤ i → f i C = 0
instance (R C : Nat) (f : Nat → Nat → Rat) (pv : List Nat) : Decidable (solB R C f pv) := by unfold solB; exact inferInstance
def solP (R C : Nat) (A : Mt) (b : List Rat) : Prop := solB R C (at2 (mJ (bes1 R C A b) C).1) (mJ (bes1 R C A b) C).2
instance (R C : Nat) (A : Mt) (b : List Rat) : Decidable (solP R C A b) := by unfold solP; exact inferInstance
def solL (R C : Nat) (A : Mt) (b : List Rat) : List Rat := (List.range C).map (solF (at2 (mJ (bes1 R C A b) C).1) (mJ (bes1 R C A b) C).2 C)
/- the wider matrix tells the same -/
section
variable {X : List Nat} {w0 : World} {M0 : List Ent} {I0 : List bL}
end
end Go.Proofs.YtgeagiikkeiioaaGreat
namespace Go.Fx
section
variable {P : Program} {n : Nat} {ops : List Oper} {Q : Exit → Act → World → Prop} {m : Mode} {G : Env} {w : World} {ty : TypeId} {pos : String} {af : Array Edge} {g : Option (Nat × Bool)} {l : List Oper} {X : List Nat} {w0 : World} {M M' : List Ent} {I : List bL}
theorem aIO {t e : TypeId} {sz sz' by_ : Nat} {z : List Value} {lo co : Operand} {k k' : IntKind} {mm : Nat} [ht : SliceTy P t e sz'] [hz : ElemTy P e sz by_ z]
  (hl : ev G lo = some (.int k 0)) (hc : ev G co = some (.int k' (mm : Int))) (hb : (by_ : Int) * (mm : Int) ≤ 281474976710656) (hm : (mm : Int) ≤ 9223372036854775807) :
  Eff P n G (.makeSlice t lo co) ty w (fun v w' => ∃ b, b = w.heap.size ∧ v = .slice (some ⟨b, 0, none⟩) 0 mm ∧ w'.ownsRow 0 e sz (.slice (some ⟨b, 0, none⟩) 0 mm) 0 [] ∧ Ext [] w w' ∧ b < w'.heap.size) := by
 refine ⟨?_⟩
 intro a ha dst pos after guard
 obtain ⟨i, v, hi, hs, hby, hzv, hcl⟩ := sV hz
 have hr := run_make (P := P) w t e i v ht.und hi hzv k k' 0 mm (by omega) (by omega) (by rw [hby]; exact hb) hm
 refine sN (v := .slice (some ⟨w.heap.size, 0, none⟩) 0 mm) (w' := w.alloc (.cells (madeCells z.toArray (mm * sz)) e)) ?_ ⟨_, ⟨_, rfl, rfl, ⟨by simp, .inr ⟨w.heap.size, mm, madeCells z.toArray (mm * sz), rfl, Nat.zero_le _, heap_alloc_new w _, Nat.zero_le _, by show mm ≤ 9223372036854775807; omega, size_madeCells _ _, by simp⟩⟩, Ext.alloc _ _ _, by simp⟩, rfl⟩
 simp only [Int.toNat_natCast, hs, hcl] at hr
 simp [execOp, ha.ev hl, ha.ev hc, hr]
theorem aLK {d : Nat} {t e : TypeId} {sz sz' by_ : Nat} {z : List Value} {lo co : Operand} {k1 k2 : IntKind} (mm : Nat) {x2 : Int} [SliceTy P t e sz'] [ElemTy P e sz by_ z]
  (hl : ev G lo = some (.int k1 0)) (hc : ev G co = some (.int k2 x2)) (e2 : x2 = mm) (hb : (by_ : Int) * (mm : Int) ≤ 281474976710656) (hm : (mm : Int) ≤ 9223372036854775807) (hg : oH ops G g = some true) (hd : Nat.ble (d + 1) n = true)
  (k : ∀ b, OkD m X w0 (.row (some ⟨b, 0, none⟩) 0 mm [] e sz :: M) I ∧ RD P n ops Q m.nextE l ((d, .slice (some ⟨b, 0, none⟩) 0 mm) :: G) X w0 (.row (some ⟨b, 0, none⟩) 0 mm [] e sz :: M) I) :
  RD P n ops Q m (⟨some d, .makeSlice t lo co, ty, pos, af, g⟩ :: l) G X w0 M I := by
 subst e2
 exact yU (d := some d) (K := fun v' M' I' => ∃ b, v' = .slice (some ⟨b, 0, none⟩) 0 mm ∧ M' = .row (some ⟨b, 0, none⟩) 0 mm [] e sz :: M ∧ I' = I) hg
  (fun w hw => (aIO (mm := mm) hl hc hb hm).mono (fun _ w' ⟨b, hb, hp, hB, hE, _⟩ => ⟨_, _, ⟨b, hp, rfl, rfl⟩, hw.push hE (by simp [Ent.blocks, hb]) (by simp [Ent.blocks]) hB⟩)) rfl hd
  (fun _ _ _ ⟨b, hp, hM, hI⟩ => by subst hp; subst hM; subst hI; exact k b)
end
end Go.Fx
namespace Go.Proofs.YtgeagiikkeiioaaGreat
open Go Go.Fx
section
variable {X : List Nat} {w0 : World} {M0 : List Ent} {I0 : List bL}
theorem aJR {x : RL} {κ : RE} {u m n : Nat} (hn : n ≤ 100) (hkm : u + m ≤ 400000000000) (hl : x.es.length = n) (hx : mF x u ∈ I0) (hκ : Hv I0 (bZ κ m)) :
  CD Tryz.prog 71 [lv x, rv κ] X w0 M0 I0 (LQ ((List.range n).map (fun i => x.q.getD i 0 * κ.q)) (u + m) M0 I0) := by
 refine eD (φ := bZ κ m) hκ ?_
 refine eD (φ := bP (x).p (recs eR (x).es)) (Hv.lsl aB) ?_
 refine bJ Tryz.func71 rfl Tryz.ntmps71 rfl ?_
 refine aN ?_
 refine aI ?_
 (refine aY rfl rfl rfl ?_; intro b3; refine ⟨okF, ?_⟩)
 repeat (refine aK ?_)
 (refine aLK n rfl rfl (by omega) (by omega) (by omega) rfl rfl ?_; intro b; refine ⟨okF, ?_⟩)
 refine gN (φ := gM [] (u + m)) Hv.nilR ?_
 repeat (refine aK ?_)
 rw [hl]
 refine bH [3, 11, 12] rfl (fun k G M I => ∃ (i : Nat) (es : List RE) (q : Option Addr) (c : Nat), i ≤ n ∧ k = n - i ∧ es.length = i ∧ qs es = (List.range i).map (fun i => x.q.getD i 0 * κ.q) ∧ G = [(5, .slice q es.length c), (13, .int .i64 i)] ∧ M = .row q es.length c (recs eR es) 42 4 :: .blk b3 (eR κ) 42 :: M0 ∧ I = gM es (u + m) :: bP x.p (recs eR x.es) :: bZ κ m :: I0) (n) _ _ _ aV aF aG (⟨0, [], _, _, by omega, rfl, rfl, rfl, rfl, rfl, rfl⟩) ?_
 rintro kk G M I ⟨i, es, q, c, hi, rfl, hel, heq, rfl, rfl, rfl⟩
 by_cases hin : i < n
 ·have hM := fun M0 I0 h1 h2 => mM (X := X) (w0 := w0) (M0 := M0) (I0 := I0) (a := gt x.es (i : Int)) (b := κ) (k := u) (m := m) (by omega) h1 h2
  refine fI (φ := bZ (gt x.es (i : Int)) u) ⟨fun X w hw => ((hw _ (by exact List.Mem.tail _ (List.Mem.tail _ (List.Mem.tail _ hx))) : IsL x u X w)).el _ (dI (by omega))⟩ ?_
  repeat (refine aK ?_)
  (refine aC rfl rfl ?_; intro b7; refine ⟨okF, ?_⟩)
  repeat (refine aK ?_)
  (refine aA rfl (hM _ _ (Hv.mem aB) (Hv.mem aB)) rfl rfl ?_; rintro _ _ _ ⟨rfl, e, rfl, he, rfl⟩; refine ⟨okF, ?_⟩)
  (refine dM (cs := recs eR [e]) ([rv e]) rfl rfl (by intro v hv; repeat (first | exact absurd hv (List.not_mem_nil) | (rcases List.mem_cons.1 hv with rfl | hv; · rfl))) (by omega) rfl rfl rfl ?_; intro b; refine ⟨okF, ?_⟩)
  (refine iF (ys := [e]) 2 rfl rfl rfl ?_ (by decide) rfl (by omega) (by omega) rfl rfl ?_; (· first | exact Src.blk aB | exact Src.row aB | exact Src.imm aB (by first | assumption | exact .inl (Ok.mk _ _))); intro q2 c2; refine ⟨okF, ?_⟩)
  repeat (refine aK ?_)
  refine bW (φ := gM (es ++ [e]) (u + m)) (Hv.snoc aB aB) ?_
  refine aW (n - (i + 1)) _ _ _ (by first | omega | (simp only [List.length_append, List.length_cons, List.length_nil]; omega)) aV aF aG (⟨i + 1, es ++ [e], q2, c2, by omega, rfl, by simp; omega, ?_, rfl, rfl, rfl⟩)
  rw [List.range_succ, List.map_append, ← heq]
  show (es ++ [e]).map RE.q = qs es ++ [x.q.getD i 0 * κ.q]
  rw [List.map_append, kH (by omega), ← he]
  rfl
 ·obtain rfl : i = n := by omega
  repeat (refine aK ?_)
  refine aCC (k := u + m) aB ?_
  refine aU (by first | exact .inl rfl | exact .inr rfl) rfl rfl _ _ aF aG (⟨rfl, ⟨q, c, es⟩, rfl, heq, rfl⟩)
def catQ (ls : List RL) : List Rat := ls.flatMap RL.q
theorem aOU {q0 : Option Addr} {c0 u n : Nat} {ls : List RL} (hn : ls.length = n) (hn2 : n ≤ 100) (hs : ∀ r ∈ ls, r.es.length ≤ 100) (hq : bP q0 (recs eL ls) ∈ I0) (ha : pQ ls u ∈ I0) :
  CD Tryz.prog 73 [.slice q0 n c0] X w0 M0 I0 (LQ (catQ ls) u M0 I0) := by
 refine kV (φ := ∀ r ∈ ls, Cap r.p r.es.length r.c) (fun w hw r hr => ((((hw.imm _ ha).2 : AllL ls u _ w)).go r hr).cap) (fun hcap => ?_)
 refine bX Tryz.func73 rfl Tryz.ntmps73 rfl ?_
 repeat (refine aK ?_)
 refine wM 42 4 ?_
 refine fI (φ := gM [] u) Hv.nilR ?_
 repeat (refine aK ?_)
 refine bH [6, 7] rfl (fun k G M I => ∃ (i : Nat) (es : List RE) (q : Option Addr) (c : Nat), i ≤ n ∧ k = n - i ∧ es.length ≤ 100 * i ∧ qs es = catQ (ls.take i) ∧ G = [(3, .slice q es.length c), (8, .int .i64 i)] ∧ M = .row q es.length c (recs eR es) 42 4 :: M0 ∧ I = gM es u :: I0) (n) _ _ _ aV aF aG (⟨0, [], none, 0, by omega, rfl, by simp, by simp [catQ], rfl, rfl, rfl⟩) ?_
 rintro kk G M I ⟨i, es, q, c, hi, rfl, hel, heq, rfl, rfl, rfl⟩
 by_cases hin : i < n
 ·have hcp := (hcap _ (dI (ms := ls) (i := (i : Int)) (by omega))).2
  have hle := hs _ (dI (ms := ls) (i := (i : Int)) (by omega))
  refine fI (φ := bP (gt ls (i : Int)).p (recs eR (gt ls (i : Int)).es)) ⟨fun X w hw => ⟨((hw _ (List.Mem.tail _ ha) : AllL ls u X w).go _ (dI (by omega))).sl⟩⟩ ?_
  refine fI (φ := gM (gt ls (i : Int)).es u) ⟨fun X w hw => ⟨((hw _ (List.Mem.tail _ (List.Mem.tail _ ha)) : AllL ls u X w).go _ (dI (by omega))).el⟩⟩ ?_
  repeat (refine aK ?_)
  (refine iF (enc := eR) (ys := (gt ls (i : Int)).es) 0 rfl rfl rfl (Src.imm aB hcp) (by decide) rfl (by omega) (by omega) rfl rfl ?_; intro q1 c1; refine ⟨okF, ?_⟩)
  repeat (refine aK ?_)
  refine bW (φ := gM (es ++ (gt ls (i : Int)).es) u) ⟨fun X w hw => ⟨fun e he => by
   rcases List.mem_append.1 he with he | he
   ·exact (hw _ (List.Mem.tail _ (List.Mem.tail _ (List.Mem.head _))) : AllR es u X w).go e he
   ·exact (hw _ (List.Mem.head _) : AllR (gt ls (i : Int)).es u X w).go e he⟩⟩ ?_
  refine aW (n - (i + 1)) _ _ _ (by first | omega | (simp only [List.length_append, List.length_cons, List.length_nil]; omega)) aV aF aG (⟨i + 1, es ++ (gt ls (i : Int)).es, q1, c1, by omega, rfl, by simp; omega, ?_, rfl, rfl, rfl⟩)
  have ht : ls.take (i + 1) = ls.take i ++ [gt ls (i : Int)] := by rw [gU (by omega)]; exact (List.take_append_getElem (by omega)).symm
  rw [ht]
  unfold catQ at heq ⊢
  rw [List.flatMap_append, ← heq]
  simp
 ·obtain rfl : i = n := by omega
  repeat (refine aK ?_)
  refine aCC (k := u) aB ?_
  refine aU (by first | exact .inl rfl | exact .inr rfl) rfl rfl _ _ aF aG (⟨rfl, ⟨q, c, es⟩, rfl, by rw [← hn, List.take_length] at heq; exact heq, rfl⟩)
def qV (m : WM) (x : WL) : Int := if x.good ∧ ∀ r ∈ m.rows, r.good then (if m.rows.length = 3 ∧ ∀ r ∈ m.rows, r.es.length = 4 then 0 else 4) else 1
theorem Hv.wlall {I : List bL} {r : WL} (h : mP r ∈ I) : Hv I (aEO r.es) := ⟨fun X w hw => ⟨(hw _ h : IsWL r X w).el⟩⟩
theorem aAX {r : WL} (hs : r.sml) (hr : mP r ∈ I0) : CD Tryz.prog 70 [lvW r] X w0 M0 I0 (fun v M I => M0 = M ∧ I0 = I ∧ v = .bool (B r.good)) := by
 refine zU (φ := bP r.p (recs eW r.es)) (Hv.wlsl hr) ?_
 exact rO rfl hs.1 (fun e he => hs.2 e he) (List.Mem.head _) (Hv.wlall (List.Mem.tail _ hr))
theorem uB {m : WM} {x : WL} (sm : m.sml) (sx : x.sml) (hm : kW m ∈ I0) (hx : mP x ∈ I0) : CD Tryz.prog 84 [mvW m, lvW x] X w0 M0 I0 (fun v M I => M0 = M ∧ I0 = I ∧ v = .int .i64 (qV m x)) := by
 have hlen := sm.1
 have hX := fun M0 I0 h => aAX (X := X) (w0 := w0) (M0 := M0) (I0 := I0) (r := x) sx h
 refine zU (φ := bP m.p (recs yB m.rows)) (Hv.wmsl hm) ?_
 refine bJ Tryz.func84 rfl Tryz.ntmps84 rfl ?_
 repeat (refine aK ?_)
 (refine aA rfl (hX _ _ aB) rfl rfl ?_; rintro _ _ _ ⟨rfl, rfl, rfl⟩; refine ⟨okF, ?_⟩)
 repeat (refine aK ?_)
 have g5 : B x.good = B (x.good ∧ ∀ t : Nat, t < 0 → (gt m.rows (t : Int)).good) := gP ⟨fun h => ⟨h, fun t ht => by omega⟩, fun h => h.1⟩
 have g6 : B ((m.rows.length : Int) = 3) = B (m.rows.length = 3 ∧ ∀ t : Nat, t < 0 → (gt m.rows (t : Int)).es.length = 4) := gP ⟨fun h => ⟨by omega, fun t ht => by omega⟩, fun h => by omega⟩
 refine bH [14, 15] rfl (fun k G M I => ∃ (i : Nat) (b5 b6 : Bool), i ≤ m.rows.length ∧ k = m.rows.length - i ∧ b5 = B (x.good ∧ ∀ t : Nat, t < i → (gt m.rows (t : Int)).good) ∧ b6 = B (m.rows.length = 3 ∧ ∀ t : Nat, t < i → (gt m.rows (t : Int)).es.length = 4) ∧ G = [(5, .bool b5), (6, .bool b6), (16, .int .i64 i)] ∧ M0 = M ∧ I = bP m.p (recs yB m.rows) :: I0) (m.rows.length) _ _ _ aV aF aG (⟨0, _, _, by omega, rfl, g5, g6, rfl, rfl, rfl⟩) ?_
 rintro kk G M I ⟨i, b5, b6, hi, rfl, rfl, rfl, rfl, rfl, rfl⟩
 by_cases hin : i < m.rows.length
 ·have hsr := sm.2 _ (dI (ms := m.rows) (i := (i : Int)) (by omega))
  have hRg := fun M0 I0 h => aAX (X := X) (w0 := w0) (M0 := M0) (I0 := I0) (r := gt m.rows (i : Int)) hsr h
  refine fI (φ := mP (gt m.rows (i : Int))) (Hv.wmrow (List.Mem.tail _ hm) (by omega)) ?_
  have last1 : ∀ {p : WL → Prop}, (∀ t : Nat, t < i + 1 → p (gt m.rows (t : Int))) ↔ (∀ t : Nat, t < i → p (gt m.rows (t : Int))) ∧ p (gt m.rows (i : Int)) := fun {p} =>
   ⟨fun h => ⟨fun t ht => h t (by omega), h i (by omega)⟩, fun h t ht => by
    by_cases e : t = i
    ·subst e; exact h.2
    ·exact h.1 t (by omega)⟩
  by_cases h1 : x.good ∧ ∀ t : Nat, t < i → (gt m.rows (t : Int)).good
  ·have e1 : B (x.good ∧ ∀ t : Nat, t < i + 1 → (gt m.rows (t : Int)).good) = B (gt m.rows (i : Int)).good := gP ⟨fun h => ((last1 (p := WL.good)).1 h.2).2, fun h => ⟨h1.1, (last1 (p := WL.good)).2 ⟨h1.2, h⟩⟩⟩
   rw [cO h1]
   by_cases h2 : m.rows.length = 3 ∧ ∀ t : Nat, t < i → (gt m.rows (t : Int)).es.length = 4
   ·have e2 : B (m.rows.length = 3 ∧ ∀ t : Nat, t < i + 1 → (gt m.rows (t : Int)).es.length = 4) = B (((gt m.rows (i : Int)).es.length : Int) = 4) := gP ⟨fun h => by have := ((last1 (p := fun r => r.es.length = 4)).1 h.2).2; omega, fun h => ⟨h2.1, (last1 (p := fun r => r.es.length = 4)).2 ⟨h2.2, by omega⟩⟩⟩
    rw [cO h2]
    repeat (refine aK ?_)
    (refine aA rfl (hRg _ _ aB) rfl rfl ?_; rintro _ _ _ ⟨rfl, rfl, rfl⟩; refine ⟨okF, ?_⟩)
    repeat (refine aK ?_)
    refine aW (m.rows.length - (i + 1)) _ _ _ (by first | omega | (simp only [List.length_append, List.length_cons, List.length_nil]; omega)) aV aF aG (⟨i + 1, _, _, by omega, rfl, e1.symm, e2.symm, rfl, rfl, rfl⟩)
   ·have e2 : B (m.rows.length = 3 ∧ ∀ t : Nat, t < i + 1 → (gt m.rows (t : Int)).es.length = 4) = false := bC (fun h => h2 ⟨h.1, ((last1 (p := fun r => r.es.length = 4)).1 h.2).1⟩)
    rw [bC h2]
    repeat (refine aK ?_)
    (refine aA rfl (hRg _ _ aB) rfl rfl ?_; rintro _ _ _ ⟨rfl, rfl, rfl⟩; refine ⟨okF, ?_⟩)
    repeat (refine aK ?_)
    refine aW (m.rows.length - (i + 1)) _ _ _ (by first | omega | (simp only [List.length_append, List.length_cons, List.length_nil]; omega)) aV aF aG (⟨i + 1, _, _, by omega, rfl, e1.symm, e2.symm, rfl, rfl, rfl⟩)
  ·have e1 : B (x.good ∧ ∀ t : Nat, t < i + 1 → (gt m.rows (t : Int)).good) = false := bC (fun h => h1 ⟨h.1, ((last1 (p := WL.good)).1 h.2).1⟩)
   rw [bC h1]
   by_cases h2 : m.rows.length = 3 ∧ ∀ t : Nat, t < i → (gt m.rows (t : Int)).es.length = 4
   ·have e2 : B (m.rows.length = 3 ∧ ∀ t : Nat, t < i + 1 → (gt m.rows (t : Int)).es.length = 4) = B (((gt m.rows (i : Int)).es.length : Int) = 4) := gP ⟨fun h => by have := ((last1 (p := fun r => r.es.length = 4)).1 h.2).2; omega, fun h => ⟨h2.1, (last1 (p := fun r => r.es.length = 4)).2 ⟨h2.2, by omega⟩⟩⟩
    rw [cO h2]
    repeat (refine aK ?_)
    refine aW (m.rows.length - (i + 1)) _ _ _ (by first | omega | (simp only [List.length_append, List.length_cons, List.length_nil]; omega)) aV aF aG (⟨i + 1, _, _, by omega, rfl, e1.symm, e2.symm, rfl, rfl, rfl⟩)
   ·have e2 : B (m.rows.length = 3 ∧ ∀ t : Nat, t < i + 1 → (gt m.rows (t : Int)).es.length = 4) = false := bC (fun h => h2 ⟨h.1, ((last1 (p := fun r => r.es.length = 4)).1 h.2).1⟩)
    rw [bC h2]
    repeat (refine aK ?_)
    refine aW (m.rows.length - (i + 1)) _ _ _ (by first | omega | (simp only [List.length_append, List.length_cons, List.length_nil]; omega)) aV aF aG (⟨i + 1, _, _, by omega, rfl, e1.symm, e2.symm, rfl, rfl, rfl⟩)
 ·obtain rfl : i = m.rows.length := by omega
  have all1 : ∀ {p : WL → Prop}, (∀ t : Nat, t < m.rows.length → p (gt m.rows (t : Int))) ↔ ∀ r ∈ m.rows, p r := fun {p} =>
   ⟨fun h => vF h, fun h t ht => h _ (dI (by omega))⟩
  unfold qV
  have e1 : (x.good ∧ ∀ t : Nat, t < m.rows.length → (gt m.rows (t : Int)).good) ↔ (x.good ∧ ∀ r ∈ m.rows, r.good) := and_congr Iff.rfl all1
  have e2 : (m.rows.length = 3 ∧ ∀ t : Nat, t < m.rows.length → (gt m.rows (t : Int)).es.length = 4) ↔ (m.rows.length = 3 ∧ ∀ r ∈ m.rows, r.es.length = 4) := and_congr Iff.rfl (all1 (p := fun r => r.es.length = 4))
  by_cases h1 : x.good ∧ ∀ r ∈ m.rows, r.good
  ·rw [cO (e1.2 h1), if_pos h1]
   by_cases h2 : m.rows.length = 3 ∧ ∀ r ∈ m.rows, r.es.length = 4
   ·rw [cO (e2.2 h2), if_pos h2]
    repeat (refine aK ?_)
    refine aU (by first | exact .inl rfl | exact .inr rfl) rfl rfl _ _ aF aG (⟨rfl, rfl, rfl⟩)
   ·rw [bC (fun h => h2 (e2.1 h)), if_neg h2]
    repeat (refine aK ?_)
    refine aU (by first | exact .inl rfl | exact .inr rfl) rfl rfl _ _ aF aG (⟨rfl, rfl, rfl⟩)
  ·rw [bC (fun h => h1 (e1.1 h)), if_neg h1]
   repeat (refine aK ?_)
   refine aU (by first | exact .inl rfl | exact .inr rfl) rfl rfl _ _ aF aG (⟨rfl, rfl, rfl⟩)
end
end Go.Proofs.YtgeagiikkeiioaaGreat

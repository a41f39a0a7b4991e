/- The document's Null. matrix: column, Solve, Refute. resect: row, times, canonical of lists, shaped. resect: condition, meet. -/
import Derived.Test.YtgeagiikkeiioaaGreatZdbe
import Derived.Test.YtgeagiikkeiioaaGreatZdax
import Derived.Test.YtgeagiikkeiioaaGreatZdbc
set_option linter.unusedSimpArgs false
set_option linter.unusedVariables false
set_option maxRecDepth 100000
set_option maxHeartbeats 4000000
namespace Go.Proofs.YtgeagiikkeiioaaGreat
open Go Go.Fx
def NlR (A : Mt) (C k : Nat) (M0 : List Ent) (I0 : List bD) (v : Value) (M : List Ent) (I : List bD) : Prop :=
 M0 = M ∧ ∃ m : MX, v = mv m ∧ m.q = lM A C ∧ (∀ r ∈ m.rows, r.es.length = C) ∧ I = mW m k :: I0
theorem Hv.allS1 {I : List bD} {r : MS} {k : Nat} (h : iH [r] k ∈ I) : Hv I (dL r.es k) := ⟨fun X w hw => ⟨(hw _ h : AllS [r] k X w).go r List.mem_cons_self⟩⟩
section
variable {X : List Nat} {w0 : World} {M : List Ent} {I : List bD}
theorem Mem.blkT {w : World} {b k c : Nat} {es : List RE} {tl : List Value} {ty : TypeId} (hc : es.length ≤ c) (h : Mem X w0 (.blk b (recs eR es ++ tl) ty :: M) I w) (ha : dL es k ∈ I) : Mem X w0 M (iW ⟨some ⟨b, 0, none⟩, c, es⟩ k :: I) w := by
 have h1 := h.freezeB .here
 refine (h1.add (φ := iW ⟨some ⟨b, 0, none⟩, c, es⟩ k) ⟨aGO (h1.sl (List.Mem.head _)), (((h1.imm _ (List.Mem.tail _ ha)).2 : AllR es k _ w)).go, ⟨hc, .inl (Ok.mk _ _)⟩⟩).inc (.of fun φ hφ => ?_)
 rcases List.mem_cons.1 hφ with rfl | hφ
 ·exact List.Mem.head _
 ·exact List.Mem.tail _ (List.Mem.tail _ hφ)
variable {P : Program} {n : Nat} {Q : Exit → Act → World → Prop} {G : Env}
theorem aOW {ops l : List Oper} {m : Fx.Mode} {b k c : Nat} {es : List RE} {tl : List Value} {ty : TypeId} (hc : es.length ≤ c) (ha : dL es k ∈ I) (h : RD P n ops Q m l G X w0 M (iW ⟨some ⟨b, 0, none⟩, c, es⟩ k :: I)) : RD P n ops Q m l G X w0 (.blk b (recs eR es ++ tl) ty :: M) I := vB (fun _ hw => Mem.blkT hc hw ha) h
end
section
variable {X : List Nat} {w0 : World} {M0 : List Ent} {I0 : List bD}
theorem aOY {p : Option Addr} {l : List Int} {t c : Nat} {x : Int} (hl : l.length = t) (ht : t ≤ 100000) (hp : bH p (recs (eI .i64) l) ∈ I0) :
  CD Tryz.prog 113 [.slice p t c, .int .i64 x] X w0 M0 I0 (fun v M I => M0 = M ∧ I0 = I ∧ v = .bool (B (x ∈ l))) := by
 refine bG Tryz.func113 rfl Tryz.ntmps113 rfl ?_
 repeat (refine aI ?_)
 refine aV [0, 1] rfl (fun k G M I => ∃ i : Nat, i ≤ t ∧ k = t - i ∧ (∀ j : Nat, j < i → gt l j ≠ x) ∧ G = [(5, .int .i64 i)] ∧ M0 = M ∧ I0 = I) (t) _ _ _ aO aF aD (⟨0, by omega, rfl, fun j hj => by omega, rfl, rfl, rfl⟩) ?_
 rintro kk G M I ⟨i, hi, rfl, hs, rfl, rfl, rfl⟩
 by_cases h : i < t
 ·by_cases he : gt l i = x
  ·repeat (refine aI ?_)
   refine aN (by first | exact .inl rfl | exact .inr rfl) rfl rfl _ _ aF aD (⟨rfl, rfl, congrArg Value.bool (bS (by rw [← he]; exact bN (by omega))).symm⟩)
  ·repeat (refine aI ?_)
   refine aP (t - (i + 1)) _ _ _ (by first | omega | (simp only [List.length_append, List.length_cons, List.length_nil]; omega)) aO aF aD (⟨i + 1, by omega, rfl, fun j hj => ?_, rfl, rfl, rfl⟩)
   by_cases e : j = i
   ·subst e; exact he
   ·exact hs j (by omega)
 ·repeat (refine aI ?_)
  refine aN (by first | exact .inl rfl | exact .inr rfl) rfl rfl _ _ aF aD (⟨rfl, rfl, congrArg Value.bool (aY (fun h => by { obtain ⟨j, hj, e⟩ := List.mem_iff_getElem.1 h; exact absurd (by rw [kE hj]; exact e) (hs j (by omega)) })).symm⟩)
theorem aNF {a : MX} {R C k0 : Nat} (hb : kb k0 C ≤ 20000000000) (hR : 1 ≤ R ∧ R ≤ 100) (hC : 1 ≤ C ∧ C ≤ 100) (da : a.dim R C) (ha : mW a k0 ∈ I0) : CD Tryz.prog 57 [mv a] X w0 M0 I0 (NlR a.q C (kb k0 C) M0 I0) := by
 have lR := da.1
 have lC : (gt a.rows 0).es.length = C := da.row (i := 0) (by omega)
 have hZ : ∀ M0 I0, CD Tryz.prog 114 [.int .i64 1, .int .i64 (C : Int)] X w0 M0 I0 (MsP 1 C (fun _ _ => 0) 0 M0 I0) := fun M0 I0 => aFA (X := X) (w0 := w0) (M0 := M0) (I0 := I0) (R := 1) (C := C) (by omega) hC
 have hW := fun M0 I0 => sN (X := X) (w0 := w0) (M0 := M0) (I0 := I0) (x := 1) (by decide)
 refine eX (φ := bH (a).p (recs eL (a).rows)) (Hv.xsl aC) ?_
 refine bJ Tryz.func57 rfl Tryz.ntmps57 rfl ?_
 repeat (refine aI ?_)
 (refine aA rfl (aPG hb hR hC da aC) rfl rfl ?_; rintro _ _ _ ⟨rfl, m, pv, q, c, rfl, hm, hd, rfl⟩; refine ⟨okF, ?_⟩)
 obtain ⟨s, hr⟩ := da.red hm
 have hlen := hr.len
 have hpi : ∀ r : Nat, r < pv.length → pv.getD r 0 < C := fun r h => hr.piv_lt h
 have hidx : ∀ r : Nat, r < pv.length → pv.idxOf (pv.getD r 0) = r := fun r h => hr.idx h
 have mR := hd.1
 have hz : (zs pv).length = pv.length := by simp
 generalize hK : kb k0 C = K at *
 refine dW (φ := bH (m).p (recs eL (m).rows)) (Hv.xsl aC) ?_
 repeat (refine aI ?_)
 (refine bL (cs := recs eL []) ([]) rfl rfl (by intro v hv; repeat (first | exact absurd hv (List.not_mem_nil) | (rcases List.mem_cons.1 hv with rfl | hv; · rfl))) (by omega) rfl rfl rfl ?_; intro bo; refine ⟨okF, ?_⟩; refine jP (mm := 0) 1 .here rfl (by omega) ?_)
 repeat (refine aI ?_)
 refine dC (φ := iR [] K) Hv.nilL ?_
 repeat (refine aI ?_)
 refine aV [0, 3, 4] rfl (fun k G M I => ∃ (j : Nat) (rows : List RL) (qo : Option Addr) (co : Nat), j ≤ C ∧ k = C - j ∧ rows.map RL.q = (sF pv j).map (oW m.q pv C) ∧ (∀ r ∈ rows, r.es.length = C) ∧ G = [(5, .slice qo rows.length co), (6, .int .i64 j)] ∧ M = .row qo rows.length co (recs eL rows) 34 1 :: M0 ∧ I = iR rows K :: bH m.p (recs eL m.rows) :: pvI q pv :: mW m K :: bH a.p (recs eL a.rows) :: I0) (C) _ _ _ aO aF aD (⟨0, [], _, _, by omega, rfl, rfl, fun r hr => by simp at hr, rfl, rfl, rfl⟩) ?_
 rintro kk G M I ⟨j, rows, qo, co, hj, rfl, hq, hl, rfl, rfl, rfl⟩
 have hrl : rows.length ≤ j := by have := congrArg List.length hq; rw [List.length_map, List.length_map] at this; have := aDV (pv := pv) (j := j); omega
 by_cases hjC : j < C
 ·have hCn := fun M0 I0 h => aOY (X := X) (w0 := w0) (M0 := M0) (I0 := I0) (p := q) (l := zs pv) (t := pv.length) (c := c) (x := (j : Int)) hz (by omega) h
  by_cases hjp : j ∈ pv
  ·rw [bS (aCZ.2 hjp)] at hCn
   repeat (refine aI ?_)
   (refine aA rfl (hCn _ _ aC) rfl rfl ?_; rintro _ _ _ ⟨rfl, rfl, rfl⟩; refine ⟨okF, ?_⟩)
   repeat (refine aI ?_)
   refine aP (C - (j + 1)) _ _ _ (by first | omega | (simp only [List.length_append, List.length_cons, List.length_nil]; omega)) aO aF aD (⟨j + 1, rows, qo, co, by omega, rfl, by rw [rR, if_pos hjp]; exact hq, hl, rfl, rfl, rfl⟩)
  ·rw [aY (fun h => hjp (aCZ.1 h))] at hCn
   repeat (refine aI ?_)
   (refine aA rfl (hCn _ _ aC) rfl rfl ?_; rintro _ _ _ ⟨rfl, rfl, rfl⟩; refine ⟨okF, ?_⟩)
   repeat (refine aI ?_)
   rw [lC]
   (refine aA rfl (hZ _ _) rfl rfl ?_; rintro _ _ _ ⟨bz, cz, tlz, rz, rfl, hcz, hsz, hpz, rfl, rfl⟩; refine ⟨okF, ?_⟩)
   obtain ⟨r0, rfl⟩ : ∃ r0, rz = [r0] := by
    have := hsz.len
    match rz, this with
    | [x], _ => exact ⟨x, rfl⟩
   have hcol := hsz.col r0 (by simp)
   have hp0 : ∀ t : Nat, t < C → (gt r0.es (t : Int)).q = 0 := fun t ht => hpz 0 t (by omega) ht
   refine dW (φ := dL r0.es 0) (Hv.allS1 aC) ?_
   simp only [List.map_cons, List.map_nil, List.cons_append, List.nil_append]
   obtain ⟨hel, hcv⟩ := hcol
   have hg1 : gt [r0] 0 = r0 := rfl
   repeat (refine aI ?_)
   rw [hel]
   (refine aA rfl (hW _ _) rfl rfl ?_; rintro _ _ _ ⟨rfl, e, rfl, he, rfl⟩; refine ⟨okF, ?_⟩)
   repeat (refine yXh ?_)
   refine gI (vs := eR e) rfl rfl rfl (Ones.one e) kQ (StAts.app (StAts.r (enc := eR) (ms := r0.es) (i := (j : Int)) e (by omega) rfl)) rfl rfl ⟨okF, ?_⟩
   refine dW (φ := dL (st r0.es (j : Int) e) 0) (Hv.stR aC aC) ?_
   refine dW (φ := dL (st r0.es (j : Int) e) K) (Hv.allMono (k := 0) (List.Mem.head _) (Nat.zero_le _)) ?_
   obtain ⟨es1, hes1⟩ : ∃ es1, es1 = st r0.es (j : Int) e := ⟨_, rfl⟩
   have hel1 : es1.length = C := by rw [hes1, dK]; exact hel
   have heq1 : ∀ t : Nat, t < C → (gt es1 (t : Int)).q = if t = j then 1 else 0 := fun t ht => by
    rw [hes1, nH (by omega)]
    by_cases e1 : t = j
    ·rw [if_pos e1, if_pos e1, he]; rfl
    ·rw [if_neg e1, if_neg e1]; exact hp0 t ht
   rw [← hes1]
   repeat (refine aI ?_)
   refine aGI (M' := .blk r0.b (recs eR es1 ++ r0.tl) 42 :: .row qo rows.length co (recs eL rows) 34 1 :: M0) (I' := dL es1 K :: iR rows K :: bH m.p (recs eL m.rows) :: pvI q pv :: mW m K :: bH a.p (recs eL a.rows) :: I0) (SubP.drop SubP.refl) aD ?_
   refine aV [0, 3, 4, 5, 6, 7] rfl (fun k G M I => ∃ (r : Nat) (es2 : List RE), r ≤ pv.length ∧ k = pv.length - r ∧ es2.length = C ∧ (∀ t : Nat, t < C → (gt es2 (t : Int)).q = if t ∈ pv ∧ pv.idxOf t < r then - at2 m.q (pv.idxOf t) j else if t = j then 1 else 0) ∧ G = [(8, .int .i64 r)] ∧ M = .blk r0.b (recs eR es2 ++ r0.tl) 42 :: .row qo rows.length co (recs eL rows) 34 1 :: M0 ∧ I = dL es2 K :: iR rows K :: bH m.p (recs eL m.rows) :: pvI q pv :: mW m K :: bH a.p (recs eL a.rows) :: I0) (pv.length) _ _ _ aO aF aD (⟨0, es1, by omega, by omega, hel1, fun t ht => by rw [if_neg (by omega)]; exact heq1 t ht, rfl, rfl, rfl⟩) ?_
   rintro kk G M I ⟨r, es2, hr2, rfl, hel2, heq2, rfl, rfl, rfl⟩
   by_cases hrp : r < pv.length
   ·have hgz := aPU hrp
    have hpr := hpi r hrp
    have hmr := hd.row (i := r) (by omega)
    have hat := wS (m := m) (i := r) (j := j) (by omega) (by omega)
    refine dC (φ := bH (gt (m).rows (r : Int)).p (recs eR (gt (m).rows (r : Int)).es)) (Hv.xrsl aC (by omega)) ?_
    have hNg := fun M0 I0 h => zG (X := X) (w0 := w0) (M0 := M0) (I0 := I0) (e := gt (gt m.rows (r : Int)).es (j : Int)) (k := K) (by omega) h
    repeat (refine aI ?_)
    (repeat refine aK ?_); refine bQ 1 [0, 1, 2, 3, 4, 5, 6, 7, 8, 9, 10, 11, 12, 13, 14] [1, 1, 1, 1, 1, 1, 1, 1, 1, 1, 1, 0, 0, 0, 0] mixed (by kernel_rfl) ?_
    repeat (refine aI ?_)
    rw [hgz]
    (refine aA rfl (hNg _ _ (Hv.xel aC (by omega) (by omega))) rfl rfl ?_; rintro _ _ _ ⟨rfl, e2, rfl, he2, rfl⟩; refine ⟨okF, ?_⟩)
    repeat (refine yXh ?_)
    refine gI (vs := eR e2) rfl rfl rfl (Ones.one e2) kQ (StAts.app (StAts.r (enc := eR) (ms := es2) (i := ((pv.getD r 0 : Nat) : Int)) e2 (by omega) rfl)) rfl rfl ⟨okF, ?_⟩
    repeat (refine aI ?_)
    refine bI (φ := dL (st es2 ((pv.getD r 0 : Nat) : Int) e2) K) (Hv.stR aC aC) ?_
    refine aP (pv.length - (r + 1)) _ _ _ (by first | omega | (simp only [List.length_append, List.length_cons, List.length_nil]; omega)) aO aF aD (⟨r + 1, st es2 ((pv.getD r 0 : Nat) : Int) e2, by omega, rfl, by rw [dK]; exact hel2, fun t ht => ?_, rfl, rfl, rfl⟩)
    rw [nH (by omega)]
    by_cases e1 : t = pv.getD r 0
    ·subst e1
     rw [if_pos rfl, if_pos ⟨pX.2 ⟨r, hrp, rfl⟩, by rw [hidx r hrp]; omega⟩, he2, hidx r hrp, hat]
    ·rw [if_neg e1, heq2 t ht]
     by_cases e2 : t ∈ pv
     ·have e3 : pv.idxOf t ≠ r := fun e => e1 (by rw [← e]; exact (Red.idx_lt e2).2.symm)
      by_cases e4 : pv.idxOf t < r
      ·rw [if_pos ⟨e2, e4⟩, if_pos ⟨e2, by omega⟩]
      ·rw [if_neg (show ¬ (t ∈ pv ∧ pv.idxOf t < r) from fun h => e4 h.2), if_neg (show ¬ (t ∈ pv ∧ pv.idxOf t < r + 1) from fun h => by have := h.2; omega)]
     ·rw [if_neg (show ¬ (t ∈ pv ∧ pv.idxOf t < r) from fun h => e2 h.1), if_neg (show ¬ (t ∈ pv ∧ pv.idxOf t < r + 1) from fun h => e2 h.1)]
   ·obtain rfl : r = pv.length := by omega
    have hV : qs es2 = oW m.q pv C j := by
     apply qR
     ·simp [oW, hel2]
     ·intro t ht
      have ht' : t < C := by simpa [hel2] using ht
      rw [jR (by omega), heq2 t ht', zB ht']
      unfold yA
      by_cases e2 : t ∈ pv
      ·rw [if_pos ⟨e2, (Red.idx_lt e2).1⟩, if_pos e2]
      ·rw [if_neg (fun h => e2 h.1), if_neg e2]
    repeat (refine aI ?_)
    refine aOW (k := K) (c := r0.c) (by omega) aC ?_
    have hvv : Value.slice (some ⟨r0.b, 0, none⟩) C r0.c = lv (⟨some ⟨r0.b, 0, none⟩, r0.c, es2⟩ : RL) := by show _ = Value.slice _ es2.length _; rw [hel2]
    rw [hvv]
    (refine bL (cs := recs eL [(⟨some ⟨r0.b, 0, none⟩, r0.c, es2⟩ : RL)]) ([lv (⟨some ⟨r0.b, 0, none⟩, r0.c, es2⟩ : RL)]) rfl rfl (by intro v hv; repeat (first | exact absurd hv (List.not_mem_nil) | (rcases List.mem_cons.1 hv with rfl | hv; · rfl))) (by omega) rfl rfl rfl ?_; intro bb; refine ⟨okF, ?_⟩)
    (refine eY (ys := [(⟨some ⟨r0.b, 0, none⟩, r0.c, es2⟩ : RL)]) 1 rfl rfl rfl ?_ (by decide) rfl (by omega) (by omega) rfl rfl ?_; (· first | exact Src.blk aC | exact Src.row aC | exact Src.imm aC (by first | assumption | exact .inl (Ok.mk _ _))); intro q2 c2; refine ⟨okF, ?_⟩)
    repeat (refine aI ?_)
    refine bI (φ := iR (rows ++ [(⟨some ⟨r0.b, 0, none⟩, r0.c, es2⟩ : RL)]) K) (Hv.snocL aC aC) ?_
    refine aP (C - (j + 1)) _ _ _ (by first | omega | (simp only [List.length_append, List.length_cons, List.length_nil]; omega)) aO aF aD (⟨j + 1, rows ++ [(⟨some ⟨r0.b, 0, none⟩, r0.c, es2⟩ : RL)], q2, c2, by omega, rfl, ?_, fun r hr => ?_, rfl, rfl, rfl⟩)
    ·rw [aFS, hq, rR, if_neg hjp, List.map_append]
     show _ ++ [qs es2] = _ ++ [oW m.q pv C j]
     rw [hV]
    ·rcases List.mem_append.1 hr with h | h
     ·exact hl r h
     ·rw [List.mem_singleton.1 h]; exact hel2
 ·obtain rfl : j = C := by omega
  repeat (refine aI ?_)
  refine yZ (k := K) aC ?_
  refine aN (by first | exact .inl rfl | exact .inr rfl) rfl rfl _ _ aF aD (⟨rfl, ⟨qo, co, rows⟩, rfl, by unfold lM aLN; rw [hm]; exact hq, hl, rfl⟩)
end
end Go.Proofs.YtgeagiikkeiioaaGreat
namespace Go.Proofs.YtgeagiikkeiioaaGreat
open Go Go.Fx
def bes1 (R C : Nat) (A : Mt) (b : List Rat) : Mt := mkM R (C + 1) (fun i j => if j < C then at2 A i j else b.getD i 0)
def besU (R C : Nat) (A : Mt) (b : List Rat) : Mt := mkM R (C + 1 + R) (fun i j => if j < C then at2 A i j else if j = C then b.getD i 0 else dlt i (j - (C + 1)))
def solB (R C : Nat) (f : Nat → Nat → Rat) (pv : List Nat) : Prop := ∀ i ∈ List.range R, pv.length ≤ i → f i C = 0
instance (R C : Nat) (f : Nat → Nat → Rat) (pv : List Nat) : Decidable (solB R C f pv) := by unfold solB; exact inferInstance
def solP (R C : Nat) (A : Mt) (b : List Rat) : Prop := solB R C (at2 (kM (bes1 R C A b) C).1) (kM (bes1 R C A b) C).2
instance (R C : Nat) (A : Mt) (b : List Rat) : Decidable (solP R C A b) := by unfold solP; exact inferInstance
def solL (R C : Nat) (A : Mt) (b : List Rat) : List Rat := (List.range C).map (solF (at2 (kM (bes1 R C A b) C).1) (kM (bes1 R C A b) C).2 C)
/- the wider matrix tells the same -/
section
variable {X : List Nat} {w0 : World} {M0 : List Ent} {I0 : List bD}
end
end Go.Proofs.YtgeagiikkeiioaaGreat
namespace Go.Fx
section
variable {P : Program} {n : Nat} {ops : List Oper} {Q : Exit → Act → World → Prop} {m : Mode} {G : Env} {w : World} {ty : TypeId} {pos : String} {af : Array Edge} {g : Option (Nat × Bool)} {l : List Oper} {X : List Nat} {w0 : World} {M M' : List Ent} {I : List bD}
theorem aIP {t e : TypeId} {sz sz' by_ : Nat} {z : List Value} {lo co : Operand} {k k' : IntKind} {mm : Nat} [ht : SliceTy P t e sz'] [hz : ElemTy P e sz by_ z]
  (hl : ev G lo = some (.int k 0)) (hc : ev G co = some (.int k' (mm : Int))) (hb : (by_ : Int) * (mm : Int) ≤ 281474976710656) (hm : (mm : Int) ≤ 9223372036854775807) :
  Eff P n G (.makeSlice t lo co) ty w (fun v w' => ∃ b, b = w.heap.size ∧ v = .slice (some ⟨b, 0, none⟩) 0 mm ∧ w'.ownsRow 0 e sz (.slice (some ⟨b, 0, none⟩) 0 mm) 0 [] ∧ Ext [] w w' ∧ b < w'.heap.size) := by
 refine ⟨?_⟩
 intro a ha dst pos after guard
 obtain ⟨i, v, hi, hs, hby, hzv, hcl⟩ := tO hz
 have hr := run_make (P := P) w t e i v ht.und hi hzv k k' 0 mm (by omega) (by omega) (by rw [hby]; exact hb) hm
 refine sP (v := .slice (some ⟨w.heap.size, 0, none⟩) 0 mm) (w' := w.alloc (.cells (madeCells z.toArray (mm * sz)) e)) ?_ ⟨_, ⟨_, rfl, rfl, ⟨by simp, .inr ⟨w.heap.size, mm, madeCells z.toArray (mm * sz), rfl, Nat.zero_le _, heap_alloc_new w _, Nat.zero_le _, by show mm ≤ 9223372036854775807; omega, size_madeCells _ _, by simp⟩⟩, Ext.alloc _ _ _, by simp⟩, rfl⟩
 simp only [Int.toNat_natCast, hs, hcl] at hr
 simp [execOp, ha.ev hl, ha.ev hc, hr]
theorem aDQ {d : Nat} {t e : TypeId} {sz sz' by_ : Nat} {z : List Value} {lo co : Operand} {k1 k2 : IntKind} (mm : Nat) {x2 : Int} [SliceTy P t e sz'] [ElemTy P e sz by_ z]
  (hl : ev G lo = some (.int k1 0)) (hc : ev G co = some (.int k2 x2)) (e2 : x2 = mm) (hb : (by_ : Int) * (mm : Int) ≤ 281474976710656) (hm : (mm : Int) ≤ 9223372036854775807) (hg : nX ops G g = some true) (hd : Nat.ble (d + 1) n = true)
  (k : ∀ b, OkD m X w0 (.row (some ⟨b, 0, none⟩) 0 mm [] e sz :: M) I ∧ RD P n ops Q m.nextE l ((d, .slice (some ⟨b, 0, none⟩) 0 mm) :: G) X w0 (.row (some ⟨b, 0, none⟩) 0 mm [] e sz :: M) I) :
  RD P n ops Q m (⟨some d, .makeSlice t lo co, ty, pos, af, g⟩ :: l) G X w0 M I := by
 subst e2
 exact yF (d := some d) (K := fun v' M' I' => ∃ b, v' = .slice (some ⟨b, 0, none⟩) 0 mm ∧ M' = .row (some ⟨b, 0, none⟩) 0 mm [] e sz :: M ∧ I' = I) hg
  (fun w hw => (aIP (mm := mm) hl hc hb hm).mono (fun _ w' ⟨b, hb, hp, hB, hE, _⟩ => ⟨_, _, ⟨b, hp, rfl, rfl⟩, hw.push hE (by simp [Ent.blocks, hb]) (by simp [Ent.blocks]) hB⟩)) rfl hd
  (fun _ _ _ ⟨b, hp, hM, hI⟩ => by subst hp; subst hM; subst hI; exact k b)
end
end Go.Fx
namespace Go.Proofs.YtgeagiikkeiioaaGreat
open Go Go.Fx
section
variable {X : List Nat} {w0 : World} {M0 : List Ent} {I0 : List bD}
theorem aBI {x : RL} {κ : RE} {u m n : Nat} (hn : n ≤ 100) (hkm : u + m ≤ 400000000000) (hl : x.es.length = n) (hx : iW x u ∈ I0) (hκ : Hv I0 (bP κ m)) :
  CD Tryz.prog 71 [lv x, rv κ] X w0 M0 I0 (LQ ((List.range n).map (fun i => x.q.getD i 0 * κ.q)) (u + m) M0 I0) := by
 refine eX (φ := bP κ m) hκ ?_
 refine eX (φ := bH (x).p (recs eR (x).es)) (Hv.lsl aC) ?_
 refine bG Tryz.func71 rfl Tryz.ntmps71 rfl ?_
 refine aK ?_
 refine aL ?_
 (refine aR rfl rfl rfl ?_; intro b3; refine ⟨okF, ?_⟩)
 repeat (refine aI ?_)
 (refine aDQ n rfl rfl (by omega) (by omega) (by omega) rfl rfl ?_; intro b; refine ⟨okF, ?_⟩)
 refine dW (φ := dL [] (u + m)) Hv.nilR ?_
 repeat (refine aI ?_)
 rw [hl]
 refine aV [3, 11, 12] rfl (fun k G M I => ∃ (i : Nat) (es : List RE) (q : Option Addr) (c : Nat), i ≤ n ∧ k = n - i ∧ es.length = i ∧ qs es = (List.range i).map (fun i => x.q.getD i 0 * κ.q) ∧ G = [(5, .slice q es.length c), (13, .int .i64 i)] ∧ M = .row q es.length c (recs eR es) 42 4 :: .blk b3 (eR κ) 42 :: M0 ∧ I = dL es (u + m) :: bH x.p (recs eR x.es) :: bP κ m :: I0) (n) _ _ _ aO aF aD (⟨0, [], _, _, by omega, rfl, rfl, rfl, rfl, rfl, rfl⟩) ?_
 rintro kk G M I ⟨i, es, q, c, hi, rfl, hel, heq, rfl, rfl, rfl⟩
 by_cases hin : i < n
 ·have hM := fun M0 I0 h1 h2 => nO (X := X) (w0 := w0) (M0 := M0) (I0 := I0) (a := gt x.es (i : Int)) (b := κ) (k := u) (m := m) (by omega) h1 h2
  refine dC (φ := bP (gt x.es (i : Int)) u) ⟨fun X w hw => ((hw _ (by exact List.Mem.tail _ (List.Mem.tail _ (List.Mem.tail _ hx))) : IsL x u X w)).el _ (bN (by omega))⟩ ?_
  repeat (refine aI ?_)
  (refine aB rfl rfl ?_; intro b7; refine ⟨okF, ?_⟩)
  repeat (refine aI ?_)
  (refine aA rfl (hM _ _ (Hv.mem aC) (Hv.mem aC)) rfl rfl ?_; rintro _ _ _ ⟨rfl, e, rfl, he, rfl⟩; refine ⟨okF, ?_⟩)
  (refine bL (cs := recs eR [e]) ([rv e]) rfl rfl (by intro v hv; repeat (first | exact absurd hv (List.not_mem_nil) | (rcases List.mem_cons.1 hv with rfl | hv; · rfl))) (by omega) rfl rfl rfl ?_; intro b; refine ⟨okF, ?_⟩)
  (refine eY (ys := [e]) 2 rfl rfl rfl ?_ (by decide) rfl (by omega) (by omega) rfl rfl ?_; (· first | exact Src.blk aC | exact Src.row aC | exact Src.imm aC (by first | assumption | exact .inl (Ok.mk _ _))); intro q2 c2; refine ⟨okF, ?_⟩)
  repeat (refine aI ?_)
  refine bI (φ := dL (es ++ [e]) (u + m)) (Hv.snoc aC aC) ?_
  refine aP (n - (i + 1)) _ _ _ (by first | omega | (simp only [List.length_append, List.length_cons, List.length_nil]; omega)) aO aF aD (⟨i + 1, es ++ [e], q2, c2, by omega, rfl, by simp; omega, ?_, rfl, rfl, rfl⟩)
  rw [List.range_succ, List.map_append, ← heq]
  show (es ++ [e]).map RE.q = qs es ++ [x.q.getD i 0 * κ.q]
  rw [List.map_append, jR (by omega), ← he]
  rfl
 ·obtain rfl : i = n := by omega
  repeat (refine aI ?_)
  refine aDC (k := u + m) aC ?_
  refine aN (by first | exact .inl rfl | exact .inr rfl) rfl rfl _ _ aF aD (⟨rfl, ⟨q, c, es⟩, rfl, heq, rfl⟩)
def aLV (ls : List RL) : List Rat := ls.flatMap RL.q
theorem aHV {q0 : Option Addr} {c0 u n : Nat} {ls : List RL} (hn : ls.length = n) (hn2 : n ≤ 100) (hs : ∀ r ∈ ls, r.es.length ≤ 100) (hq : bH q0 (recs eL ls) ∈ I0) (ha : iR ls u ∈ I0) :
  CD Tryz.prog 73 [.slice q0 n c0] X w0 M0 I0 (LQ (aLV ls) u M0 I0) := by
 refine vT (φ := ∀ r ∈ ls, Cap r.p r.es.length r.c) (fun w hw r hr => ((((hw.imm _ ha).2 : AllL ls u _ w)).go r hr).cap) (fun hcap => ?_)
 refine bJ Tryz.func73 rfl Tryz.ntmps73 rfl ?_
 repeat (refine aI ?_)
 refine nR 42 4 ?_
 refine dC (φ := dL [] u) Hv.nilR ?_
 repeat (refine aI ?_)
 refine aV [6, 7] rfl (fun k G M I => ∃ (i : Nat) (es : List RE) (q : Option Addr) (c : Nat), i ≤ n ∧ k = n - i ∧ es.length ≤ 100 * i ∧ qs es = aLV (ls.take i) ∧ G = [(3, .slice q es.length c), (8, .int .i64 i)] ∧ M = .row q es.length c (recs eR es) 42 4 :: M0 ∧ I = dL es u :: I0) (n) _ _ _ aO aF aD (⟨0, [], none, 0, by omega, rfl, by simp, by simp [aLV], rfl, rfl, rfl⟩) ?_
 rintro kk G M I ⟨i, es, q, c, hi, rfl, hel, heq, rfl, rfl, rfl⟩
 by_cases hin : i < n
 ·have hcp := (hcap _ (bN (ms := ls) (i := (i : Int)) (by omega))).2
  have hle := hs _ (bN (ms := ls) (i := (i : Int)) (by omega))
  refine dC (φ := bH (gt ls (i : Int)).p (recs eR (gt ls (i : Int)).es)) ⟨fun X w hw => ⟨((hw _ (List.Mem.tail _ ha) : AllL ls u X w).go _ (bN (by omega))).sl⟩⟩ ?_
  refine dC (φ := dL (gt ls (i : Int)).es u) ⟨fun X w hw => ⟨((hw _ (List.Mem.tail _ (List.Mem.tail _ ha)) : AllL ls u X w).go _ (bN (by omega))).el⟩⟩ ?_
  repeat (refine aI ?_)
  (refine eY (enc := eR) (ys := (gt ls (i : Int)).es) 0 rfl rfl rfl (Src.imm aC hcp) (by decide) rfl (by omega) (by omega) rfl rfl ?_; intro q1 c1; refine ⟨okF, ?_⟩)
  repeat (refine aI ?_)
  refine bI (φ := dL (es ++ (gt ls (i : Int)).es) u) ⟨fun X w hw => ⟨fun e he => by
   rcases List.mem_append.1 he with he | he
   ·exact (hw _ (List.Mem.tail _ (List.Mem.tail _ (List.Mem.head _))) : AllR es u X w).go e he
   ·exact (hw _ (List.Mem.head _) : AllR (gt ls (i : Int)).es u X w).go e he⟩⟩ ?_
  refine aP (n - (i + 1)) _ _ _ (by first | omega | (simp only [List.length_append, List.length_cons, List.length_nil]; omega)) aO aF aD (⟨i + 1, es ++ (gt ls (i : Int)).es, q1, c1, by omega, rfl, by simp; omega, ?_, rfl, rfl, rfl⟩)
  have ht : ls.take (i + 1) = ls.take i ++ [gt ls (i : Int)] := by rw [fA (by omega)]; exact (List.take_append_getElem (by omega)).symm
  rw [ht]
  unfold aLV at heq ⊢
  rw [List.flatMap_append, ← heq]
  simp
 ·obtain rfl : i = n := by omega
  repeat (refine aI ?_)
  refine aDC (k := u) aC ?_
  refine aN (by first | exact .inl rfl | exact .inr rfl) rfl rfl _ _ aF aD (⟨rfl, ⟨q, c, es⟩, rfl, by rw [← hn, List.take_length] at heq; exact heq, rfl⟩)
def shpC (m : WM) (x : WL) : Int := if x.good ∧ ∀ r ∈ m.rows, r.good then (if m.rows.length = 3 ∧ ∀ r ∈ m.rows, r.es.length = 4 then 0 else 4) else 1
theorem Hv.wlall {I : List bD} {r : WL} (h : tK r ∈ I) : Hv I (aDK r.es) := ⟨fun X w hw => ⟨(hw _ h : IsWL r X w).el⟩⟩
theorem aAZ {r : WL} (hs : r.sml) (hr : tK r ∈ I0) : CD Tryz.prog 70 [lvW r] X w0 M0 I0 (fun v M I => M0 = M ∧ I0 = I ∧ v = .bool (B r.good)) := by
 refine pO (φ := bH r.p (recs eW r.es)) (Hv.wlsl hr) ?_
 exact rU rfl hs.1 (fun e he => hs.2 e he) (List.Mem.head _) (Hv.wlall (List.Mem.tail _ hr))
end
end Go.Proofs.YtgeagiikkeiioaaGreat
namespace Go.Proofs.YtgeagiikkeiioaaGreat
open Go Go.Fx
structure CE where
 a : RE
 b : PE
instance : Inhabited CE := ⟨⟨default, default⟩⟩
abbrev eC (c : CE) : List Value := [.bool (B (c.a.q.num < 0)), .slice c.a.p1 (gr c.a.q.num.natAbs).length c.a.c1, .bool (B ((c.a.q.den : Int) < 0)), .slice c.a.p2 (gr (c.a.q.den : Int).natAbs).length c.a.c2, .bool (B (c.b.x.q.num < 0)), .slice c.b.x.p1 (gr c.b.x.q.num.natAbs).length c.b.x.c1, .bool (B ((c.b.x.q.den : Int) < 0)), .slice c.b.x.p2 (gr (c.b.x.q.den : Int).natAbs).length c.b.x.c2, .bool (B (c.b.y.q.num < 0)), .slice c.b.y.p1 (gr c.b.y.q.num.natAbs).length c.b.y.c1, .bool (B ((c.b.y.q.den : Int) < 0)), .slice c.b.y.p2 (gr (c.b.y.q.den : Int).natAbs).length c.b.y.c2]
instance : Sized eC 12 := ⟨fun _ => rfl⟩
abbrev cv (c : CE) : Value := .agg (eC c).toArray
section
variable {X : List Nat} {w0 : World} {M0 : List Ent} {I0 : List bD}
theorem vX {p : PE} {own org : RE} {k s : Nat} (hk : 4 * s + 2 * k + 3 ≤ 400000000000) (hp : Hv I0 (dJ p k)) (ho : Hv I0 (bP own s)) (hr : Hv I0 (bP org s)) :
  CD Tryz.prog 123 [pv p, rv own, rv org] X w0 M0 I0 (fun v M I => M0 = M ∧ ∃ c : CE, v = cv c ∧ c.a.q = cnA own.q org.q ∧ c.b.v = cnB p.v own.q org.q ∧ I = dJ c.b (4 * s + 2 * k + 3) :: bP c.a (2 * s + 1) :: I0) := by
 have hS := fun M0 I0 => vL (X := X) (w0 := w0) (M0 := M0) (I0 := I0) (a := own) (b := org) (k := s) (m := s) (by omega)
 have hW := fun M0 I0 => oQ (X := X) (w0 := w0) (M0 := M0) (I0 := I0) (x := 1) (by decide) (k := 0) (by decide)
 have hM := fun M0 I0 => nO (X := X) (w0 := w0) (M0 := M0) (I0 := I0) (a := own) (b := org) (k := s) (m := s) (by omega)
 have hA := fun e1 e2 M0 I0 => wO (X := X) (w0 := w0) (M0 := M0) (I0 := I0) (a := e1) (b := e2) (k := 0) (m := s + s) (by omega)
 have hSd := fun M0 I0 => rZ (X := X) (w0 := w0) (M0 := M0) (I0 := I0) (a := p) (k := k) (by omega)
 have hN := fun e8 M0 I0 => vP (X := X) (w0 := w0) (M0 := M0) (I0 := I0) (e := e8) (k := 0 + (s + s) + 1) (by omega)
 have hC1 := fun p1 e9 M0 I0 => nA (X := X) (w0 := w0) (M0 := M0) (I0 := I0) (a := p1) (b := e9) (k := k) (m := 0 + (s + s) + 1) (by omega)
 have hC2 := fun e7 M0 I0 => nA (X := X) (w0 := w0) (M0 := M0) (I0 := I0) (a := p) (b := e7) (k := k) (m := s + s + 1) (by omega)
 have hMi := fun p2 p3 M0 I0 => nK (X := X) (w0 := w0) (M0 := M0) (I0 := I0) (a := p2) (b := p3) (k := 0 + (s + s) + 1 + k) (m := s + s + 1 + k) (by omega)
 refine eX hp (eX ho.cons (eX hr.cons.cons ?_))
 refine vZ Tryz.func123 rfl Tryz.ntmps123 rfl ?_
 refine aK ?_
 refine aL ?_
 (refine aR rfl rfl rfl ?_; intro b3; refine ⟨okF, ?_⟩)
 (refine aR rfl rfl rfl ?_; intro b4; refine ⟨okF, ?_⟩)
 (refine aR rfl rfl rfl ?_; intro b5; refine ⟨okF, ?_⟩)
 (refine aB rfl rfl ?_; intro b6; refine ⟨okF, ?_⟩)
 repeat (refine aI ?_)
 (refine aA rfl (hS _ _ fP fP) rfl rfl ?_; rintro _ _ _ ⟨rfl, e7, rfl, he7, rfl⟩; refine ⟨okF, ?_⟩)
 (refine aB rfl rfl ?_; intro b7; refine ⟨okF, ?_⟩)
 repeat (refine aI ?_)
 refine lU (fun G M I => ∃ (b8 : Nat) (e8 : RE), e8.q = 1 + own.q * org.q ∧ G = [(3, .pointer (some ⟨b3, 0, none⟩)), (6, .pointer (some ⟨b6, 0, none⟩)), (7, .pointer (some ⟨b7, 0, none⟩)), (8, .pointer (some ⟨b8, 0, none⟩))] ∧ M = .blk b8 (eR e8) 42 :: .blk b7 (eR e7) 42 :: .blk b6 [.bool false, .slice none 0 0, .bool false, .slice none 0 0, .bool false, .slice none 0 0, .bool false, .slice none 0 0, .bool false, .slice none 0 0, .bool false, .slice none 0 0] 149 :: .blk b3 (eP p) 47 :: M0 ∧ I = bP e8 (0 + (s + s) + 1) :: bP e7 (s + s + 1) :: bP org s :: bP own s :: dJ p k :: I0) ?_ ?_
 ·((repeat refine aK ?_); refine kD (.blk b5 (eR org) 42 :: .blk b4 (eR own) 42 :: M0) (bP org s :: bP own s :: dJ p k :: I0) mixed ?_)
  refine bR (fuel := 5) (listed' := #[false, true, true, false, false, false, false]) [1, 2] [3, 3] aF aD (by kernel_rfl) (by kernel_rfl) rfl rfl ?_
  repeat (refine aI ?_)
  refine aM (fuel := 4) (i := 0) (j := 5) (by kernel_rfl) ?_ ?_
  ·(refine aA rfl (hW _ _) rfl rfl ?_; rintro _ _ _ ⟨rfl, e1, rfl, he1, rfl⟩; refine ⟨okF, ?_⟩)
   refine aJ ?_
   repeat (refine aI ?_)
   refine aM (fuel := 3) (i := 3) (j := 5) (by kernel_rfl) ?_ ?_
   ·(refine aA rfl (hM _ _ fP fP) rfl rfl ?_; rintro _ _ _ ⟨rfl, e2, rfl, he2, rfl⟩; refine ⟨okF, ?_⟩)
    refine aJ ?_
    repeat (refine aI ?_)
    refine aM (fuel := 2) (i := 4) (j := 5) (by kernel_rfl) ?_ ?_
    ·(refine aA rfl (hA e1 e2 _ _ fP fP) rfl rfl ?_; rintro _ _ _ ⟨rfl, e8, rfl, he8, rfl⟩; refine ⟨okF, ?_⟩)
     refine aJ ?_
     refine aG [5, 6] [0, 0] aF aD (by kernel_rfl) (by kernel_rfl) rfl rfl ?_
     repeat (refine aI ?_)
     (refine aB rfl rfl ?_; intro b8; refine ⟨okF, ?_⟩)
     repeat (refine aI ?_)
     refine aQ _ _ _ aO aF aD ⟨b8, e8, by rw [he8, he1, he2]; rfl, rfl, rfl, rfl⟩
    ·(refine aB rfl rfl ?_; intro b8; refine ⟨okF, ?_⟩)
     refine aJ ?_
     refine aG [4, 6] [0, 0] aF aD (by kernel_rfl) (by kernel_rfl) rfl rfl ?_
     repeat (refine aI ?_)
     (refine aA rfl (hA e1 e2 _ _ fP fP) rfl rfl ?_; rintro _ _ _ ⟨rfl, e8, rfl, he8, rfl⟩; refine ⟨okF, ?_⟩)
     repeat (refine aI ?_)
     refine aQ _ _ _ aO aF aD ⟨b8, e8, by rw [he8, he1, he2]; rfl, rfl, rfl, rfl⟩
   ·(refine aB rfl rfl ?_; intro b8; refine ⟨okF, ?_⟩)
    refine aJ ?_
    refine aG [3, 4, 6] [0, 0, 0] aF aD (by kernel_rfl) (by kernel_rfl) rfl rfl ?_
    repeat (refine aI ?_)
    (refine aA rfl (hM _ _ fP fP) rfl rfl ?_; rintro _ _ _ ⟨rfl, e2, rfl, he2, rfl⟩; refine ⟨okF, ?_⟩)
    repeat (refine aI ?_)
    (refine aA rfl (hA e1 e2 _ _ fP fP) rfl rfl ?_; rintro _ _ _ ⟨rfl, e8, rfl, he8, rfl⟩; refine ⟨okF, ?_⟩)
    repeat (refine aI ?_)
    refine aQ _ _ _ aO aF aD ⟨b8, e8, by rw [he8, he1, he2]; rfl, rfl, rfl, rfl⟩
  ·(refine aB rfl rfl ?_; intro b8; refine ⟨okF, ?_⟩)
   refine aJ ?_
   refine aG [0, 3, 4, 6] [0, 0, 0, 0] aF aD (by kernel_rfl) (by kernel_rfl) rfl rfl ?_
   repeat (refine aI ?_)
   (refine aA rfl (hW _ _) rfl rfl ?_; rintro _ _ _ ⟨rfl, e1, rfl, he1, rfl⟩; refine ⟨okF, ?_⟩)
   repeat (refine aI ?_)
   (refine aA rfl (hM _ _ fP fP) rfl rfl ?_; rintro _ _ _ ⟨rfl, e2, rfl, he2, rfl⟩; refine ⟨okF, ?_⟩)
   repeat (refine aI ?_)
   (refine aA rfl (hA e1 e2 _ _ fP fP) rfl rfl ?_; rintro _ _ _ ⟨rfl, e8, rfl, he8, rfl⟩; refine ⟨okF, ?_⟩)
   repeat (refine aI ?_)
   refine aQ _ _ _ aO aF aD ⟨b8, e8, by rw [he8, he1, he2]; rfl, rfl, rfl, rfl⟩
 ·rintro G M I ⟨b8, e8, he8, rfl, rfl, rfl⟩
  refine sZ (fun G M I => ∃ (b9 : Nat) (p9 : PE), p9.v = cnB p.v own.q org.q ∧ G = [(6, .pointer (some ⟨b6, 0, none⟩)), (7, .pointer (some ⟨b7, 0, none⟩)), (9, .pointer (some ⟨b9, 0, none⟩))] ∧ M = .blk b9 (eP p9) 47 :: .blk b7 (eR e7) 42 :: .blk b6 [.bool false, .slice none 0 0, .bool false, .slice none 0 0, .bool false, .slice none 0 0, .bool false, .slice none 0 0, .bool false, .slice none 0 0, .bool false, .slice none 0 0] 149 :: M0 ∧ I = dJ p9 (0 + (s + s) + 1 + k + (s + s + 1 + k) + 1) :: bP e7 (s + s + 1) :: I0) ?_ ?_
  ·((repeat refine aK ?_); refine kD (.blk b8 (eR e8) 42 :: .blk b7 (eR e7) 42 :: .blk b3 (eP p) 47 :: M0) (bP e8 (0 + (s + s) + 1) :: bP e7 (s + s + 1) :: bP org s :: bP own s :: dJ p k :: I0) mixed ?_)
   refine bR (fuel := 7) (listed' := #[true, false, true, false, false, true, true, false, false, false, false]) [0, 2, 5, 6] [5, 5, 5, 5] aF aD (by kernel_rfl) (by kernel_rfl) rfl rfl ?_
   repeat (refine aI ?_)
   refine aM (fuel := 6) (i := 1) (j := 9) (by kernel_rfl) ?_ ?_
   ·(refine aA rfl (hSd _ _ fP) rfl rfl ?_; rintro _ _ _ ⟨rfl, p1, rfl, hp1, rfl⟩; refine ⟨okF, ?_⟩)
    refine aJ ?_
    repeat (refine aI ?_)
    refine aM (fuel := 5) (i := 3) (j := 9) (by kernel_rfl) ?_ ?_
    ·(refine aA rfl (hN e8 _ _ fP) rfl rfl ?_; rintro _ _ _ ⟨rfl, e9, rfl, he9, rfl⟩; refine ⟨okF, ?_⟩)
     refine aJ ?_
     repeat (refine aI ?_)
     refine aM (fuel := 4) (i := 4) (j := 9) (by kernel_rfl) ?_ ?_
     ·(refine aA rfl (hC1 p1 e9 _ _ fP fP) rfl rfl ?_; rintro _ _ _ ⟨rfl, p2, rfl, hp2, rfl⟩; refine ⟨okF, ?_⟩)
      refine aJ ?_
      repeat (refine aI ?_)
      refine aM (fuel := 3) (i := 7) (j := 9) (by kernel_rfl) ?_ ?_
      ·(refine aA rfl (hC2 e7 _ _ fP fP) rfl rfl ?_; rintro _ _ _ ⟨rfl, p3, rfl, hp3, rfl⟩; refine ⟨okF, ?_⟩)
       refine aJ ?_
       repeat (refine aI ?_)
       refine aM (fuel := 2) (i := 8) (j := 9) (by kernel_rfl) ?_ ?_
       ·(refine aA rfl (hMi p2 p3 _ _ fP fP) rfl rfl ?_; rintro _ _ _ ⟨rfl, p9, rfl, hp9, rfl⟩; refine ⟨okF, ?_⟩)
        refine aJ ?_
        refine aG [9, 10] [0, 0] aF aD (by kernel_rfl) (by kernel_rfl) rfl rfl ?_
        repeat (refine aI ?_)
        (refine aB rfl rfl ?_; intro b9; refine ⟨okF, ?_⟩)
        repeat (refine aI ?_)
        refine aQ _ _ _ aO aF aD ⟨b9, p9, by rw [hp9, hp2, hp3, hp1, he9, he8, he7]; rfl, rfl, rfl, rfl⟩
       ·(refine aB rfl rfl ?_; intro b9; refine ⟨okF, ?_⟩)
        refine aJ ?_
        refine aG [8, 10] [0, 0] aF aD (by kernel_rfl) (by kernel_rfl) rfl rfl ?_
        repeat (refine aI ?_)
        (refine aA rfl (hMi p2 p3 _ _ fP fP) rfl rfl ?_; rintro _ _ _ ⟨rfl, p9, rfl, hp9, rfl⟩; refine ⟨okF, ?_⟩)
        repeat (refine aI ?_)
        refine aQ _ _ _ aO aF aD ⟨b9, p9, by rw [hp9, hp2, hp3, hp1, he9, he8, he7]; rfl, rfl, rfl, rfl⟩
      ·(refine aB rfl rfl ?_; intro b9; refine ⟨okF, ?_⟩)
       refine aJ ?_
       refine aG [7, 8, 10] [0, 0, 0] aF aD (by kernel_rfl) (by kernel_rfl) rfl rfl ?_
       repeat (refine aI ?_)
       (refine aA rfl (hC2 e7 _ _ fP fP) rfl rfl ?_; rintro _ _ _ ⟨rfl, p3, rfl, hp3, rfl⟩; refine ⟨okF, ?_⟩)
       repeat (refine aI ?_)
       (refine aA rfl (hMi p2 p3 _ _ fP fP) rfl rfl ?_; rintro _ _ _ ⟨rfl, p9, rfl, hp9, rfl⟩; refine ⟨okF, ?_⟩)
       repeat (refine aI ?_)
       refine aQ _ _ _ aO aF aD ⟨b9, p9, by rw [hp9, hp2, hp3, hp1, he9, he8, he7]; rfl, rfl, rfl, rfl⟩
     ·(refine aB rfl rfl ?_; intro b9; refine ⟨okF, ?_⟩)
      refine aJ ?_
      refine aG [4, 7, 8, 10] [0, 0, 0, 0] aF aD (by kernel_rfl) (by kernel_rfl) rfl rfl ?_
      repeat (refine aI ?_)
      (refine aA rfl (hC1 p1 e9 _ _ fP fP) rfl rfl ?_; rintro _ _ _ ⟨rfl, p2, rfl, hp2, rfl⟩; refine ⟨okF, ?_⟩)
      repeat (refine aI ?_)
      (refine aA rfl (hC2 e7 _ _ fP fP) rfl rfl ?_; rintro _ _ _ ⟨rfl, p3, rfl, hp3, rfl⟩; refine ⟨okF, ?_⟩)
      repeat (refine aI ?_)
      (refine aA rfl (hMi p2 p3 _ _ fP fP) rfl rfl ?_; rintro _ _ _ ⟨rfl, p9, rfl, hp9, rfl⟩; refine ⟨okF, ?_⟩)
      repeat (refine aI ?_)
      refine aQ _ _ _ aO aF aD ⟨b9, p9, by rw [hp9, hp2, hp3, hp1, he9, he8, he7]; rfl, rfl, rfl, rfl⟩
    ·(refine aB rfl rfl ?_; intro b9; refine ⟨okF, ?_⟩)
     refine aJ ?_
     refine aG [3, 4, 7, 8, 10] [0, 0, 0, 0, 0] aF aD (by kernel_rfl) (by kernel_rfl) rfl rfl ?_
     repeat (refine aI ?_)
     (refine aA rfl (hN e8 _ _ fP) rfl rfl ?_; rintro _ _ _ ⟨rfl, e9, rfl, he9, rfl⟩; refine ⟨okF, ?_⟩)
     repeat (refine aI ?_)
     (refine aA rfl (hC1 p1 e9 _ _ fP fP) rfl rfl ?_; rintro _ _ _ ⟨rfl, p2, rfl, hp2, rfl⟩; refine ⟨okF, ?_⟩)
     repeat (refine aI ?_)
     (refine aA rfl (hC2 e7 _ _ fP fP) rfl rfl ?_; rintro _ _ _ ⟨rfl, p3, rfl, hp3, rfl⟩; refine ⟨okF, ?_⟩)
     repeat (refine aI ?_)
     (refine aA rfl (hMi p2 p3 _ _ fP fP) rfl rfl ?_; rintro _ _ _ ⟨rfl, p9, rfl, hp9, rfl⟩; refine ⟨okF, ?_⟩)
     repeat (refine aI ?_)
     refine aQ _ _ _ aO aF aD ⟨b9, p9, by rw [hp9, hp2, hp3, hp1, he9, he8, he7]; rfl, rfl, rfl, rfl⟩
   ·(refine aB rfl rfl ?_; intro b9; refine ⟨okF, ?_⟩)
    refine aJ ?_
    refine aG [1, 3, 4, 7, 8, 10] [0, 0, 0, 0, 0, 0] aF aD (by kernel_rfl) (by kernel_rfl) rfl rfl ?_
    repeat (refine aI ?_)
    (refine aA rfl (hSd _ _ fP) rfl rfl ?_; rintro _ _ _ ⟨rfl, p1, rfl, hp1, rfl⟩; refine ⟨okF, ?_⟩)
    repeat (refine aI ?_)
    (refine aA rfl (hN e8 _ _ fP) rfl rfl ?_; rintro _ _ _ ⟨rfl, e9, rfl, he9, rfl⟩; refine ⟨okF, ?_⟩)
    repeat (refine aI ?_)
    (refine aA rfl (hC1 p1 e9 _ _ fP fP) rfl rfl ?_; rintro _ _ _ ⟨rfl, p2, rfl, hp2, rfl⟩; refine ⟨okF, ?_⟩)
    repeat (refine aI ?_)
    (refine aA rfl (hC2 e7 _ _ fP fP) rfl rfl ?_; rintro _ _ _ ⟨rfl, p3, rfl, hp3, rfl⟩; refine ⟨okF, ?_⟩)
    repeat (refine aI ?_)
    (refine aA rfl (hMi p2 p3 _ _ fP fP) rfl rfl ?_; rintro _ _ _ ⟨rfl, p9, rfl, hp9, rfl⟩; refine ⟨okF, ?_⟩)
    repeat (refine aI ?_)
    refine aQ _ _ _ aO aF aD ⟨b9, p9, by rw [hp9, hp2, hp3, hp1, he9, he8, he7]; rfl, rfl, rfl, rfl⟩
  ·rintro G M I ⟨b9, p9, hp9, rfl, rfl, rfl⟩
   refine aK ?_
   refine aL ?_
   repeat (refine aI ?_)
   (refine aH rfl (fun _ => kK (vals := [rv e7, pv p9]) (cells := eC ⟨e7, p9⟩) rfl ?hpl rfl ?hz) rfl rfl ?_; (case hpl => repeat (first | exact True.intro | refine ⟨rfl, ?_⟩)); (case hz => rfl))
   repeat (refine aI ?_)
   refine bI (φ := bP e7 (2 * s + 1)) fP (bI (φ := dJ p9 (4 * s + 2 * k + 3)) fP ?_)
   refine bK (cs := eC ⟨e7, p9⟩) (.inl rfl) rfl rfl aC rfl M0 (dJ p9 (4 * s + 2 * k + 3) :: bP e7 (2 * s + 1) :: I0) aF aD ⟨rfl, ⟨e7, p9⟩, rfl, he7, hp9, rfl⟩
end
end Go.Proofs.YtgeagiikkeiioaaGreat

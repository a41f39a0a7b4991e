/- The document's Null. matrix: column, Solve, Refute. resect: row, times, canonical of lists, shaped. resect: condition, meet. resect: meet. resect.Slope. resect.Project. Drawn regions: what stays is chosen anew in the middle. resect.Center. resect.Plane. resect.Plane where there is not exactly one position. -/
import Derived.Test.YtgeagiikkeiioaaGreatZebe
import Derived.Test.YtgeagiikkeiioaaGreatZeaw
import Derived.Test.YtgeagiikkeiioaaGreatZebc
set_option linter.unusedSimpArgs false
set_option linter.unusedVariables false
set_option maxRecDepth 100000
set_option maxHeartbeats 4000000
namespace Go.Proofs.YtgeagiikkeiioaaGreat
open Go Go.Fx
def NlR (A : Mt) (C k : Nat) (M0 : List Ent) (I0 : List bD) (v : Value) (M : List Ent) (I : List bD) : Prop :=
 M0 = M ∧ ∃ m : MX, v = mv m ∧ m.q = mK A C ∧ (∀ r ∈ m.rows, r.es.length = C) ∧ I = fF m k :: I0
theorem Hv.allS1 {I : List bD} {r : MS} {k : Nat} (h : gJ [r] k ∈ I) : Hv I (dD r.es k) := ⟨fun X w hw => ⟨(hw _ h : AllS [r] k X w).go r List.mem_cons_self⟩⟩
section
variable {X : List Nat} {w0 : World} {M : List Ent} {I : List bD}
theorem Mem.blkT {w : World} {b k c : Nat} {es : List RE} {tl : List Value} {ty : TypeId} (hc : es.length ≤ c) (h : Mem X w0 (.blk b (recs eR es ++ tl) ty :: M) I w) (ha : dD es k ∈ I) : Mem X w0 M (jR ⟨some ⟨b, 0, none⟩, c, es⟩ k :: I) w := by
 have h1 := h.freezeB .here
 refine (h1.add (φ := jR ⟨some ⟨b, 0, none⟩, c, es⟩ k) ⟨aIZ (h1.sl (List.Mem.head _)), (((h1.imm _ (List.Mem.tail _ ha)).2 : AllR es k _ w)).go, ⟨hc, .inl (Ok.mk _ _)⟩⟩).inc (.of fun φ hφ => ?_)
 rcases List.mem_cons.1 hφ with rfl | hφ
 ·exact List.Mem.head _
 ·exact List.Mem.tail _ (List.Mem.tail _ hφ)
variable {P : Program} {n : Nat} {Q : Exit → Act → World → Prop} {G : Env}
theorem aSW {ops l : List Oper} {m : Fx.Mode} {b k c : Nat} {es : List RE} {tl : List Value} {ty : TypeId} (hc : es.length ≤ c) (ha : dD es k ∈ I) (h : RD P n ops Q m l G X w0 M (jR ⟨some ⟨b, 0, none⟩, c, es⟩ k :: I)) : RD P n ops Q m l G X w0 (.blk b (recs eR es ++ tl) ty :: M) I := wR (fun _ hw => Mem.blkT hc hw ha) h
end
section
variable {X : List Nat} {w0 : World} {M0 : List Ent} {I0 : List bD}
theorem aUF {p : Option Addr} {l : List Int} {t c : Nat} {x : Int} (hl : l.length = t) (ht : t ≤ 100000) (hp : aV p (recs (eI .i64) l) ∈ I0) :
  CD Tryz.prog 113 [.slice p t c, .int .i64 x] X w0 M0 I0 (fun v M I => M0 = M ∧ I0 = I ∧ v = .bool (B (x ∈ l))) := by
 refine aW Tryz.func113 rfl Tryz.ntmps113 rfl ?_
 repeat (refine aI ?_)
 refine aQ [0, 1] rfl (fun k G M I => ∃ i : Nat, i ≤ t ∧ k = t - i ∧ (∀ j : Nat, j < i → gt l j ≠ x) ∧ G = [(5, .int .i64 i)] ∧ M0 = M ∧ I0 = I) (t) _ _ _ aR aG aD (⟨0, by omega, rfl, fun j hj => by omega, rfl, rfl, rfl⟩) ?_
 rintro kk G M I ⟨i, hi, rfl, hs, rfl, rfl, rfl⟩
 by_cases h : i < t
 ·by_cases he : gt l i = x
  ·repeat (refine aI ?_)
   refine aC (by first | exact .inl rfl | exact .inr rfl) rfl rfl _ _ aG aD (⟨rfl, rfl, congrArg Value.bool (aU (by rw [← he]; exact bM (by omega))).symm⟩)
  ·repeat (refine aI ?_)
   refine aL (t - (i + 1)) _ _ _ (by first | omega | (simp only [List.length_append, List.length_cons, List.length_nil]; omega)) aR aG aD (⟨i + 1, by omega, rfl, fun j hj => ?_, rfl, rfl, rfl⟩)
   by_cases e : j = i
   ·subst e; exact he
   ·exact hs j (by omega)
 ·repeat (refine aI ?_)
  refine aC (by first | exact .inl rfl | exact .inr rfl) rfl rfl _ _ aG aD (⟨rfl, rfl, congrArg Value.bool (aP (fun h => by { obtain ⟨j, hj, e⟩ := List.mem_iff_getElem.1 h; exact absurd (by rw [iJ hj]; exact e) (hs j (by omega)) })).symm⟩)
theorem aIR {a : MX} {R C k0 : Nat} (hb : kb k0 C ≤ 20000000000) (hR : 1 ≤ R ∧ R ≤ 100) (hC : 1 ≤ C ∧ C ≤ 100) (da : a.dim R C) (ha : fF a k0 ∈ I0) : CD Tryz.prog 57 [mv a] X w0 M0 I0 (NlR a.q C (kb k0 C) M0 I0) := by
 have lR := da.1
 have lC : (gt a.rows 0).es.length = C := da.row (i := 0) (by omega)
 have hZ : ∀ M0 I0, CD Tryz.prog 114 [.int .i64 1, .int .i64 (C : Int)] X w0 M0 I0 (MsP 1 C (fun _ _ => 0) 0 M0 I0) := fun M0 I0 => aCJ (X := X) (w0 := w0) (M0 := M0) (I0 := I0) (R := 1) (C := C) (by omega) hC
 have hW := fun M0 I0 => uZ (X := X) (w0 := w0) (M0 := M0) (I0 := I0) (x := 1) (by decide)
 refine bI (φ := aV (a).p (recs eL (a).rows)) (Hv.xsl aB) ?_
 refine bC Tryz.func57 rfl Tryz.ntmps57 rfl ?_
 repeat (refine aI ?_)
 (refine aA rfl (aKX hb hR hC da aB) rfl rfl ?_; rintro _ _ _ ⟨rfl, m, pv, q, c, rfl, hm, hd, rfl⟩; refine ⟨okF, ?_⟩)
 obtain ⟨s, hr⟩ := da.red hm
 have hlen := hr.len
 have hpi : ∀ r : Nat, r < pv.length → pv.getD r 0 < C := fun r h => hr.piv_lt h
 have hidx : ∀ r : Nat, r < pv.length → pv.idxOf (pv.getD r 0) = r := fun r h => hr.idx h
 have mR := hd.1
 have hz : (zs pv).length = pv.length := by simp
 generalize hK : kb k0 C = K at *
 refine fD (φ := aV (m).p (recs eL (m).rows)) (Hv.xsl aB) ?_
 repeat (refine aI ?_)
 (refine aO (cs := recs eL []) ([]) rfl rfl (by intro v hv; repeat (first | exact absurd hv (List.not_mem_nil) | (rcases List.mem_cons.1 hv with rfl | hv; · rfl))) (by omega) rfl rfl rfl ?_; intro bo; refine ⟨okF, ?_⟩; refine jS (mm := 0) 1 .here rfl (by omega) ?_)
 repeat (refine aI ?_)
 refine bQ (φ := mO [] K) Hv.nilL ?_
 repeat (refine aI ?_)
 refine aQ [0, 3, 4] rfl (fun k G M I => ∃ (j : Nat) (rows : List RL) (qo : Option Addr) (co : Nat), j ≤ C ∧ k = C - j ∧ rows.map RL.q = (rC pv j).map (pO m.q pv C) ∧ (∀ r ∈ rows, r.es.length = C) ∧ G = [(5, .slice qo rows.length co), (6, .int .i64 j)] ∧ M = .row qo rows.length co (recs eL rows) 34 1 :: M0 ∧ I = mO rows K :: aV m.p (recs eL m.rows) :: pvI q pv :: fF m K :: aV a.p (recs eL a.rows) :: I0) (C) _ _ _ aR aG aD (⟨0, [], _, _, by omega, rfl, rfl, fun r hr => by simp at hr, rfl, rfl, rfl⟩) ?_
 rintro kk G M I ⟨j, rows, qo, co, hj, rfl, hq, hl, rfl, rfl, rfl⟩
 have hrl : rows.length ≤ j := by have := congrArg List.length hq; rw [List.length_map, List.length_map] at this; have := aHU (pv := pv) (j := j); omega
 by_cases hjC : j < C
 ·have hCn := fun M0 I0 h => aUF (X := X) (w0 := w0) (M0 := M0) (I0 := I0) (p := q) (l := zs pv) (t := pv.length) (c := c) (x := (j : Int)) hz (by omega) h
  by_cases hjp : j ∈ pv
  ·rw [aU (aGC.2 hjp)] at hCn
   repeat (refine aI ?_)
   (refine aA rfl (hCn _ _ aB) rfl rfl ?_; rintro _ _ _ ⟨rfl, rfl, rfl⟩; refine ⟨okF, ?_⟩)
   repeat (refine aI ?_)
   refine aL (C - (j + 1)) _ _ _ (by first | omega | (simp only [List.length_append, List.length_cons, List.length_nil]; omega)) aR aG aD (⟨j + 1, rows, qo, co, by omega, rfl, by rw [uG, if_pos hjp]; exact hq, hl, rfl, rfl, rfl⟩)
  ·rw [aP (fun h => hjp (aGC.1 h))] at hCn
   repeat (refine aI ?_)
   (refine aA rfl (hCn _ _ aB) rfl rfl ?_; rintro _ _ _ ⟨rfl, rfl, rfl⟩; refine ⟨okF, ?_⟩)
   repeat (refine aI ?_)
   rw [lC]
   (refine aA rfl (hZ _ _) rfl rfl ?_; rintro _ _ _ ⟨bz, cz, tlz, rz, rfl, hcz, hsz, hpz, rfl, rfl⟩; refine ⟨okF, ?_⟩)
   obtain ⟨r0, rfl⟩ : ∃ r0, rz = [r0] := by
    have := hsz.len
    match rz, this with
    | [x], _ => exact ⟨x, rfl⟩
   have hcol := hsz.col r0 (by simp)
   have hp0 : ∀ t : Nat, t < C → (gt r0.es (t : Int)).q = 0 := fun t ht => hpz 0 t (by omega) ht
   refine fD (φ := dD r0.es 0) (Hv.allS1 aB) ?_
   simp only [List.map_cons, List.map_nil, List.cons_append, List.nil_append]
   obtain ⟨hel, hcv⟩ := hcol
   have hg1 : gt [r0] 0 = r0 := rfl
   repeat (refine aI ?_)
   rw [hel]
   (refine aA rfl (hW _ _) rfl rfl ?_; rintro _ _ _ ⟨rfl, e, rfl, he, rfl⟩; refine ⟨okF, ?_⟩)
   repeat (refine yXh ?_)
   refine fI (vs := eR e) rfl rfl rfl (Ones.one e) lF (StAts.app (StAts.r (enc := eR) (ms := r0.es) (i := (j : Int)) e (by omega) rfl)) rfl rfl ⟨okF, ?_⟩
   refine fD (φ := dD (st r0.es (j : Int) e) 0) (Hv.stR aB aB) ?_
   refine fD (φ := dD (st r0.es (j : Int) e) K) (Hv.allMono (k := 0) (List.Mem.head _) (Nat.zero_le _)) ?_
   obtain ⟨es1, hes1⟩ : ∃ es1, es1 = st r0.es (j : Int) e := ⟨_, rfl⟩
   have hel1 : es1.length = C := by rw [hes1, cZ]; exact hel
   have heq1 : ∀ t : Nat, t < C → (gt es1 (t : Int)).q = if t = j then 1 else 0 := fun t ht => by
    rw [hes1, nJ (by omega)]
    by_cases e1 : t = j
    ·rw [if_pos e1, if_pos e1, he]; rfl
    ·rw [if_neg e1, if_neg e1]; exact hp0 t ht
   rw [← hes1]
   repeat (refine aI ?_)
   refine aPR (M' := .blk r0.b (recs eR es1 ++ r0.tl) 42 :: .row qo rows.length co (recs eL rows) 34 1 :: M0) (I' := dD es1 K :: mO rows K :: aV m.p (recs eL m.rows) :: pvI q pv :: fF m K :: aV a.p (recs eL a.rows) :: I0) (SubP.drop SubP.refl) aD ?_
   refine aQ [0, 3, 4, 5, 6, 7] rfl (fun k G M I => ∃ (r : Nat) (es2 : List RE), r ≤ pv.length ∧ k = pv.length - r ∧ es2.length = C ∧ (∀ t : Nat, t < C → (gt es2 (t : Int)).q = if t ∈ pv ∧ pv.idxOf t < r then - at2 m.q (pv.idxOf t) j else if t = j then 1 else 0) ∧ G = [(8, .int .i64 r)] ∧ M = .blk r0.b (recs eR es2 ++ r0.tl) 42 :: .row qo rows.length co (recs eL rows) 34 1 :: M0 ∧ I = dD es2 K :: mO rows K :: aV m.p (recs eL m.rows) :: pvI q pv :: fF m K :: aV a.p (recs eL a.rows) :: I0) (pv.length) _ _ _ aR aG aD (⟨0, es1, by omega, by omega, hel1, fun t ht => by rw [if_neg (by omega)]; exact heq1 t ht, rfl, rfl, rfl⟩) ?_
   rintro kk G M I ⟨r, es2, hr2, rfl, hel2, heq2, rfl, rfl, rfl⟩
   by_cases hrp : r < pv.length
   ·have hgz := aMB hrp
    have hpr := hpi r hrp
    have hmr := hd.row (i := r) (by omega)
    have hat := pX (m := m) (i := r) (j := j) (by omega) (by omega)
    refine bQ (φ := aV (gt (m).rows (r : Int)).p (recs eR (gt (m).rows (r : Int)).es)) (Hv.xrsl aB (by omega)) ?_
    have hNg := fun M0 I0 h => aGV (X := X) (w0 := w0) (M0 := M0) (I0 := I0) (e := gt (gt m.rows (r : Int)).es (j : Int)) (k := K) (by omega) h
    repeat (refine aI ?_)
    (repeat refine aJ ?_); refine bE 1 [0, 1, 2, 3, 4, 5, 6, 7, 8, 9, 10, 11, 12, 13, 14] [1, 1, 1, 1, 1, 1, 1, 1, 1, 1, 1, 0, 0, 0, 0] mixed (by kernel_rfl) ?_
    repeat (refine aI ?_)
    rw [hgz]
    (refine aA rfl (hNg _ _ (Hv.xel aB (by omega) (by omega))) rfl rfl ?_; rintro _ _ _ ⟨rfl, e2, rfl, he2, rfl⟩; refine ⟨okF, ?_⟩)
    repeat (refine yXh ?_)
    refine fI (vs := eR e2) rfl rfl rfl (Ones.one e2) lF (StAts.app (StAts.r (enc := eR) (ms := es2) (i := ((pv.getD r 0 : Nat) : Int)) e2 (by omega) rfl)) rfl rfl ⟨okF, ?_⟩
    repeat (refine aI ?_)
    refine eT (φ := dD (st es2 ((pv.getD r 0 : Nat) : Int) e2) K) (Hv.stR aB aB) ?_
    refine aL (pv.length - (r + 1)) _ _ _ (by first | omega | (simp only [List.length_append, List.length_cons, List.length_nil]; omega)) aR aG aD (⟨r + 1, st es2 ((pv.getD r 0 : Nat) : Int) e2, by omega, rfl, by rw [cZ]; exact hel2, fun t ht => ?_, rfl, rfl, rfl⟩)
    rw [nJ (by omega)]
    by_cases e1 : t = pv.getD r 0
    ·subst e1
     rw [if_pos rfl, if_pos ⟨gK.2 ⟨r, hrp, rfl⟩, by rw [hidx r hrp]; omega⟩, he2, hidx r hrp, hat]
    ·rw [if_neg e1, heq2 t ht]
     by_cases e2 : t ∈ pv
     ·have e3 : pv.idxOf t ≠ r := fun e => e1 (by rw [← e]; exact (Red.idx_lt e2).2.symm)
      by_cases e4 : pv.idxOf t < r
      ·rw [if_pos ⟨e2, e4⟩, if_pos ⟨e2, by omega⟩]
      ·rw [if_neg (show ¬ (t ∈ pv ∧ pv.idxOf t < r) from fun h => e4 h.2), if_neg (show ¬ (t ∈ pv ∧ pv.idxOf t < r + 1) from fun h => by have := h.2; omega)]
     ·rw [if_neg (show ¬ (t ∈ pv ∧ pv.idxOf t < r) from fun h => e2 h.1), if_neg (show ¬ (t ∈ pv ∧ pv.idxOf t < r + 1) from fun h => e2 h.1)]
   ·obtain rfl : r = pv.length := by omega
    have hV : qs es2 = pO m.q pv C j := by
     apply nI
     ·simp [pO, hel2]
     ·intro t ht
      have ht' : t < C := by simpa [hel2] using ht
      rw [fA (by omega), heq2 t ht', yY ht']
      unfold mJ
      by_cases e2 : t ∈ pv
      ·rw [if_pos ⟨e2, (Red.idx_lt e2).1⟩, if_pos e2]
      ·rw [if_neg (fun h => e2 h.1), if_neg e2]
    repeat (refine aI ?_)
    refine aSW (k := K) (c := r0.c) (by omega) aB ?_
    have hvv : Value.slice (some ⟨r0.b, 0, none⟩) C r0.c = lv (⟨some ⟨r0.b, 0, none⟩, r0.c, es2⟩ : RL) := by show _ = Value.slice _ es2.length _; rw [hel2]
    rw [hvv]
    (refine aO (cs := recs eL [(⟨some ⟨r0.b, 0, none⟩, r0.c, es2⟩ : RL)]) ([lv (⟨some ⟨r0.b, 0, none⟩, r0.c, es2⟩ : RL)]) rfl rfl (by intro v hv; repeat (first | exact absurd hv (List.not_mem_nil) | (rcases List.mem_cons.1 hv with rfl | hv; · rfl))) (by omega) rfl rfl rfl ?_; intro bb; refine ⟨okF, ?_⟩)
    (refine dV (ys := [(⟨some ⟨r0.b, 0, none⟩, r0.c, es2⟩ : RL)]) 1 rfl rfl rfl ?_ (by decide) rfl (by omega) (by omega) rfl rfl ?_; (· first | exact Src.blk aB | exact Src.row aB | exact Src.imm aB (by first | assumption | exact .inl (Ok.mk _ _))); intro q2 c2; refine ⟨okF, ?_⟩)
    repeat (refine aI ?_)
    refine eT (φ := mO (rows ++ [(⟨some ⟨r0.b, 0, none⟩, r0.c, es2⟩ : RL)]) K) (Hv.snocL aB aB) ?_
    refine aL (C - (j + 1)) _ _ _ (by first | omega | (simp only [List.length_append, List.length_cons, List.length_nil]; omega)) aR aG aD (⟨j + 1, rows ++ [(⟨some ⟨r0.b, 0, none⟩, r0.c, es2⟩ : RL)], q2, c2, by omega, rfl, ?_, fun r hr => ?_, rfl, rfl, rfl⟩)
    ·rw [aKK, hq, uG, if_neg hjp, List.map_append]
     show _ ++ [qs es2] = _ ++ [pO m.q pv C j]
     rw [hV]
    ·rcases List.mem_append.1 hr with h | h
     ·exact hl r h
     ·rw [List.mem_singleton.1 h]; exact hel2
 ·obtain rfl : j = C := by omega
  repeat (refine aI ?_)
  refine xC (k := K) aB ?_
  refine aC (by first | exact .inl rfl | exact .inr rfl) rfl rfl _ _ aG aD (⟨rfl, ⟨qo, co, rows⟩, rfl, by unfold mK aLY; rw [hm]; exact hq, hl, rfl⟩)
end
end Go.Proofs.YtgeagiikkeiioaaGreat
namespace Go.Proofs.YtgeagiikkeiioaaGreat
open Go Go.Fx
def zD (R C : Nat) (A : Mt) (b : List Rat) : Mt := wO R (C + 1) (fun i j => if j < C then at2 A i j else b.getD i 0)
def uL (R C : Nat) (A : Mt) (b : List Rat) : Mt := wO R (C + 1 + R) (fun i j => if j < C then at2 A i j else if j = C then b.getD i 0 else mM i (j - (C + 1)))
theorem aDJ {R C : Nat} {F : Nat → Nat → Rat} : pJ (wO R C F) R C := ⟨by simp [wO], fun i hi => by simp [wO, rowAt, List.getD, hi]⟩
def aJR (R C : Nat) (f : Nat → Nat → Rat) (pv : List Nat) : Prop := ∀ i ∈ List.range R, pv.length ≤ i → f i C = 0
instance (R C : Nat) (f : Nat → Nat → Rat) (pv : List Nat) : Decidable (aJR R C f pv) := by unfold aJR; exact inferInstance
theorem qZ {R C : Nat} {f : Nat → Nat → Rat} {pv : List Nat} : aJR R C f pv ↔ aPT R C f pv := ⟨fun h i h1 h2 => h i (List.mem_range.2 h2) h1, fun h i h1 h2 => h i h2 (List.mem_range.1 h1)⟩
def qN (R C : Nat) (A : Mt) (b : List Rat) : Prop := aJR R C (at2 (iU (zD R C A b) C).1) (iU (zD R C A b) C).2
instance (R C : Nat) (A : Mt) (b : List Rat) : Decidable (qN R C A b) := by unfold qN; exact inferInstance
def aHE (R C : Nat) (A : Mt) (b : List Rat) : List Rat := (List.range C).map (aIN (at2 (iU (zD R C A b) C).1) (iU (zD R C A b) C).2 C)
theorem aKF {R C : Nat} {A : Mt} {b : List Rat} {i j : Nat} (hi : i < R) (hj : j < C) : at2 (zD R C A b) i j = at2 A i j := by unfold zD; rw [lM hi (by omega), if_pos hj]
theorem aKI {R C : Nat} {A : Mt} {b : List Rat} {i : Nat} (hi : i < R) : at2 (zD R C A b) i C = b.getD i 0 := by unfold zD; rw [lM hi (by omega), if_neg (by omega)]
theorem aCZ {R C : Nat} {A : Mt} {b : List Rat} : qN R C A b ↔ ∃ x : Nat → Rat, ∀ i, i < R → sm C (fun j => at2 A i j * x j) = b.getD i 0 := by
 obtain ⟨_, s, hr⟩ := iG (A := zD R C A b) (R := R) (C := C + 1) aDJ C (by omega)
 unfold qN
 rw [qZ, hr.sol_iff (by omega)]
 constructor
 ·rintro ⟨x, hx⟩; exact ⟨x, fun i hi => by rw [← aKI (A := A) (C := C) hi, ← hx i hi]; exact bA (fun j hj => by rw [aKF hi hj])⟩
 ·rintro ⟨x, hx⟩; exact ⟨x, fun i hi => by rw [aKI hi, ← hx i hi]; exact bA (fun j hj => by rw [aKF hi hj])⟩
theorem aTQ {R C : Nat} {A : Mt} {b : List Rat} (h : qN R C A b) : ∀ i, i < R → sm C (fun j => at2 A i j * (aHE R C A b).getD j 0) = b.getD i 0 := by
 obtain ⟨_, s, hr⟩ := iG (A := zD R C A b) (R := R) (C := C + 1) aDJ C (by omega)
 intro i hi
 have := hr.sol_x (by omega) (qZ.1 h) i hi
 rw [aKI hi] at this
 rw [← this]
 refine bA (fun j hj => ?_)
 rw [aKF hi hj]
 unfold aHE
 simp [List.getD, hj]
/- the wider matrix tells the same -/
theorem aHO {R C : Nat} {A : Mt} {b : List Rat} : aJR R C (at2 (iU (uL R C A b) C).1) (iU (uL R C A b) C).2 ↔ qN R C A b := by
 obtain ⟨_, s, hr⟩ := iG (A := uL R C A b) (R := R) (C := C + 1 + R) aDJ C (by omega)
 rw [qZ, hr.sol_iff (by omega), aCZ]
 have h1 : ∀ i j, i < R → j < C → at2 (uL R C A b) i j = at2 A i j := fun i j hi hj => by unfold uL; rw [lM hi (by omega), if_pos hj]
 have h2 : ∀ i, i < R → at2 (uL R C A b) i C = b.getD i 0 := fun i hi => by unfold uL; rw [lM hi (by omega), if_neg (by omega), if_pos rfl]
 constructor
 ·rintro ⟨x, hx⟩; exact ⟨x, fun i hi => by rw [← h2 i hi, ← hx i hi]; exact bA (fun j hj => by rw [h1 i j hi hj])⟩
 ·rintro ⟨x, hx⟩; exact ⟨x, fun i hi => by rw [h2 i hi, ← hx i hi]; exact bA (fun j hj => by rw [h1 i j hi hj])⟩
theorem aPO {rows : List RL} {R p i : Nat} (hR : rows.length = R) (h : p + i < R) : gt ((rows.take R).drop p) (i : Int) = gt rows ((p + i : Nat) : Int) := by
 rw [dH (by simp; omega), dH (by omega)]
 simp
section
variable {X : List Nat} {w0 : World} {M0 : List Ent} {I0 : List bD}
theorem aJP {x : RL} {p k i : Nat} {j : Int} (hi : i < x.es.length) (hx : jR x k ∈ I0) (fx : aV (some ⟨p, 0, none⟩) [.slice x.p x.es.length x.c] ∈ I0) :
  CD Tryz.prog 200 [.int .i64 (i : Int), .int .i64 j, pb p] X w0 M0 I0 (RQ (x.q.getD i 0) k M0 I0) := by
 have e0 : x.q.getD i 0 = (gt x.es (i : Int)).q := fA hi
 rw [e0]
 refine bI (φ := aV (x).p (recs eR (x).es)) (Hv.lsl aB) ?_
 refine eQ Tryz.func200 rfl Tryz.ntmps200 rfl ?_
 refine aJ ?_
 refine aH ?_
 (refine aN rfl rfl ?_; intro br; refine ⟨okF, ?_⟩)
 repeat (refine aI ?_)
 refine eT (φ := eY (gt x.es (i : Int)) k) (Hv.lel aB (by omega)) ?_
 refine bG (cs := eR (gt x.es (i : Int))) (.inl rfl) rfl rfl aB rfl M0 (eY (gt x.es (i : Int)) k :: I0) aG aD ⟨rfl, _, rfl, rfl, rfl⟩
theorem aEK {x : RL} {n k : Nat} (hn : n ≤ 100) (hl : x.es.length = n) (hx : jR x k ∈ I0) : CD Tryz.prog 164 [lv x] X w0 M0 I0 (XQ (wO n 1 (fun i _ => x.q.getD i 0)) n 1 k M0 I0) := by
 refine bC Tryz.func164 rfl Tryz.ntmps164 rfl ?_
 refine aJ ?_
 refine aH ?_
 (refine nR rfl rfl rfl ?_; intro p1; refine ⟨okF, ?_⟩)
 repeat (refine aI ?_)
 have hg := fun M I (hI : ∀ φ ∈ aV (some ⟨p1, 0, none⟩) [.slice x.p x.es.length x.c] :: I0, φ ∈ I) (i j : Nat) (hi : i < x.es.length) (hj : j < 1) => aJP (X := X) (w0 := w0) (M0 := M) (I0 := I) (x := x) (p := p1) (k := k) (i := i) (j := (j : Int)) hi (hI _ aB) (hI _ aB)
 (refine aA rfl (aBV (R := x.es.length) (C := 1) (g := 200) (fs := #[]) (cs := #[pb p1]) (k0 := k) (by omega) (by omega) (fun i _ => x.q.getD i 0) hg) rfl rfl ?_; rintro _ _ _ ⟨rfl, y, rfl, hy, hd, rfl⟩; refine ⟨okF, ?_⟩)
 rw [hl] at hy hd
 repeat (refine aI ?_)
 refine aC (by first | exact .inl rfl | exact .inr rfl) rfl rfl _ _ aG aD (⟨rfl, y, rfl, hy, hd, rfl⟩)
theorem aOV {m : WM} {p : Nat} (hb : aV (some ⟨p, 0, none⟩) [.slice m.p m.rows.length m.c] ∈ I0) :
  CD Tryz.prog 162 [pb p] X w0 M0 I0 (fun v M I => M0 = M ∧ I0 = I ∧ v = .int .i64 (m.rows.length : Int)) := by
 refine bC Tryz.func162 rfl Tryz.ntmps162 rfl ?_
 repeat (refine aI ?_)
 refine aC (by first | exact .inl rfl | exact .inr rfl) rfl rfl _ _ aG aD (⟨rfl, rfl, rfl⟩)
theorem aGX {a : MX} {b : RL} {R C k0 : Nat} (hb : kb k0 C ≤ 20000000000) (hC : C ≤ 60) (da : a.fit R C) (hl : b.es.length = R) (ha : fF a k0 ∈ I0) (hbb : jR b k0 ∈ I0) :
  CD Tryz.prog 117 [mv a, lv b] X w0 M0 I0 (fun v M I => if qN R C a.q b.q then LQc (aHE R C a.q b.q) (kb k0 C) M0 I0 v M I else (M0 = M ∧ I0 = I ∧ v = .tuple #[.slice none 0 0, .int .i64 6])) := by
 have hk0 : k0 ≤ 20000000000 := Nat.le_trans (iC k0 (Nat.zero_le C)) hb
 obtain ⟨r1, r2⟩ := da.2.1
 obtain ⟨c1, c2⟩ := da.2.2
 refine iW (fun w hw => Mem.xsml ha da (by omega) hw) (fun sa => iW (fun w hw => Mem.lsml hbb (by omega) (by omega) hw) (fun sx => ?_))
 have hC0 := fun p M0 I0 h1 h2 h3 => aFF (X := X) (w0 := w0) (M0 := M0) (I0 := I0) (a := a.raw) (x := b.raw) (n := R) (g := 162) (fs := #[]) (cs := #[pb p]) sa sx h1 h2 (fun _ => by have := aOV (X := X) (w0 := w0) (M0 := M0) (I0 := I0) (m := a.raw) (p := p) h3; rw [MX.raw_rows, da.1.1] at this; exact this)
 have e0 : aAK a.raw b.raw R = 0 := by
  unfold aAK
  rw [if_pos da.ok, if_pos b.raw_good, if_pos (by show (b.es.map RE.raw).length = R; rw [List.length_map]; exact hl)]
 rw [e0, uW, tY] at hC0
 have lR := da.1.1
 have lC := da.r0
 refine bI (φ := lS a.raw) (Hv.xraw ha (by omega)) ?_
 refine bI (φ := fT b.raw) (Hv.lraw (List.Mem.tail _ hbb) (by omega)) ?_
 refine bI (φ := aV (a).p (recs eL (a).rows)) (Hv.xsl aB) ?_
 refine aW Tryz.func117 rfl Tryz.ntmps117 rfl ?_
 refine aJ ?_
 refine aH ?_
 (refine nR rfl rfl rfl ?_; intro p1; refine ⟨okF, ?_⟩)
 repeat (refine aI ?_)
 refine fD (φ := aV (some ⟨p1, 0, none⟩) [.slice a.raw.p a.raw.rows.length a.raw.c]) (by rw [MX.raw_rows]; exact Hv.mem aB) ?_
 (refine aA rfl (hC0 p1 _ _ aB aB aB) rfl rfl ?_; rintro _ _ _ ⟨rfl, rfl, rfl⟩; refine ⟨okF, ?_⟩)
 refine aQW (M' := M0) (I' := aV (some ⟨p1, 0, none⟩) [.slice a.p a.rows.length a.c] :: aV a.p (recs eL a.rows) :: I0) SubP.refl aD ?_
 repeat (refine aI ?_)
 rw [lC]
 (repeat refine aJ ?_); refine bK [0, 1, 2, 3, 4] [1, 1, 0, 0, 0] mixed (by kernel_rfl) ?_
 repeat (refine aI ?_)
 (refine aA rfl (aEK (n := R) (by omega) hl aB) rfl rfl ?_; rintro _ _ _ ⟨rfl, y, rfl, hy, hyd, rfl⟩; refine ⟨okF, ?_⟩)
 (refine aA rfl (zQ da (b := y) (D := 1) ⟨hyd, ⟨r1, r2⟩, by omega, by omega⟩ aB aB) rfl rfl ?_; rintro _ _ _ ⟨bo, rows0, rfl, hl0, hc0, hq0, rfl, rfl⟩; refine ⟨OkD.any (SubP.drop (rD SubP.refl)) aD, ?_⟩)
 repeat (refine aI ?_)
 have hB : mq rows0 = zD R C a.q b.q := by
  unfold zD
  refine Eq.trans hq0 ?_
  refine wI (R := R) (C := C + 1) (fun i j hi hj => ?_)
  by_cases e : j < C
  ·rw [if_pos e, if_pos e]
  ·rw [if_neg e, if_neg e, hy, lM hi (by omega)]
 have hRd := fun I0 h => xE (X := X) (w0 := w0) (M0 := .blk bo (recs eM rows0) 34 :: (rows0.map gG ++ M0)) (I0 := I0) (bo := bo) (R := R) (C := C + 1) (n := C) (k0 := k0) (rows := rows0) (M1 := M0) hl0 (by omega) (by omega) hc0 (by omega) (by omega) h rfl
 (refine aA rfl (hRd _ aB) rfl rfl ?_; rintro _ _ _ ⟨rfl, m, pv, q, c, rfl, mp, mc, md, hred, hpv, rfl⟩; refine ⟨okF, ?_⟩)
 rw [hB] at hred
 have hS : qN R C a.q b.q ↔ aJR R C (at2 m.q) pv := by unfold qN; rw [hred]
 have hL : aHE R C a.q b.q = (List.range C).map (aIN (at2 m.q) pv C) := by unfold aHE; rw [hred]
 obtain ⟨_, s, hr⟩ := iG (A := zD R C a.q b.q) (R := R) (C := C + 1) aDJ C (by omega)
 rw [hred] at hr
 have hpi : ∀ r : Nat, r < pv.length → pv.getD r 0 < C := fun r h => hr.piv_lt h
 have hidx : ∀ r : Nat, r < pv.length → pv.idxOf (pv.getD r 0) = r := fun r h => hr.idx h
 clear hr hred hB hRd
 have mR := md.1
 have hz : (zs pv).length = pv.length := by simp
 generalize hK : kb k0 C = K at *
 refine fD (φ := aV (some ⟨bo, 0, none⟩) (recs eL m.rows)) (by rw [← mp]; exact Hv.xsl aB) ?_
 repeat (refine aI ?_)
 (refine aK rfl (fun _ => sV (e := 34) (sz := 1) pv.length R (R - pv.length) rfl (.inr ⟨_, _, _, rfl, rfl, rfl⟩) (.inl ⟨rfl, rfl⟩) (by omega) (by omega) rfl) rfl rfl ?_)
 refine aFT R pv.length R (enc := eL) (ms := m.rows) aB (by omega) ?_
 have hcl : ((m.rows.take R).drop pv.length).length = R - pv.length := by simp; omega
 generalize hcr : (m.rows.take R).drop pv.length = cr at *
 have hcg : ∀ i : Nat, pv.length + i < R → gt cr (i : Int) = gt m.rows ((pv.length + i : Nat) : Int) := fun i hi => by rw [← hcr]; exact aPO mR hi
 generalize hca : xM (some ⟨bo, 0, none⟩) R pv.length 1 = ca at *
 repeat (refine aI ?_)
 refine aQ [7, 8, 9, 37, 38] rfl (fun k G M I => ∃ i : Nat, i ≤ R - pv.length ∧ k = R - pv.length - i ∧ (∀ t : Nat, pv.length ≤ t → t < pv.length + i → at2 m.q t C = 0) ∧ G = [(39, .int .i64 i)] ∧ M0 = M ∧ I = aV ca (recs eL cr) :: aV (some ⟨bo, 0, none⟩) (recs eL m.rows) :: pvI q pv :: fF m K :: I0) (R - pv.length) _ _ _ aR aG aD (⟨0, by omega, rfl, fun t h1 h2 => by omega, rfl, rfl, rfl⟩) ?_
 rintro kk G M I ⟨i, hi, rfl, hz0, rfl, rfl, rfl⟩
 by_cases hiR : i < R - pv.length
 ·have hg := hcg i (by omega)
  have hmr := md.row (i := pv.length + i) (by omega)
  have hat := pX (m := m) (i := pv.length + i) (j := C) (by omega) (by omega)
  have hlc : (gt cr (i : Int)).es.length = C + 1 := by rw [hg]; exact hmr
  refine bQ (φ := aV (gt cr (i : Int)).p (recs eR (gt cr (i : Int)).es)) (by rw [hg]; exact Hv.xrsl aB (by omega)) ?_
  refine bQ (φ := eY (gt (gt cr (i : Int)).es (C : Int)) K) (by rw [hg]; exact Hv.xel aB (by omega) (by omega)) ?_
  have hSg := fun M0 I0 h => mU (X := X) (w0 := w0) (M0 := M0) (I0 := I0) (e := gt (gt cr (i : Int)).es (C : Int)) (k := K) (by omega) h
  rw [← hg] at hat
  by_cases h0 : (gt (gt cr (i : Int)).es (C : Int)).q = 0
  ·rw [(lH _).2 h0] at hSg
   repeat (refine aI ?_)
   (refine aA rfl (hSg _ _ (Hv.mem aB)) rfl rfl ?_; rintro _ _ _ ⟨rfl, rfl, rfl⟩; refine ⟨okF, ?_⟩)
   repeat (refine aI ?_)
   refine aL (R - pv.length - (i + 1)) _ _ _ (by first | omega | (simp only [List.length_append, List.length_cons, List.length_nil]; omega)) aR aG aD (⟨i + 1, by omega, rfl, fun t h1 h2 => ?_, rfl, rfl, rfl⟩)
   by_cases e : t = pv.length + i
   ·rw [e, hat]; exact h0
   ·exact hz0 t h1 (by omega)
  ·have hs1 : ¬ (gt (gt cr (i : Int)).es (C : Int)).q.num.sign = 0 := fun h => h0 ((lH _).1 h)
   generalize (gt (gt cr (i : Int)).es (C : Int)).q.num.sign = sg1 at *
   have hno : ¬ qN R C a.q b.q := fun h => h0 (by rw [← hat]; exact qZ.1 (hS.1 h) _ (by omega) (by omega))
   simp only [if_neg hno]
   repeat (refine aI ?_)
   (refine aA rfl (hSg _ _ (Hv.mem aB)) rfl rfl ?_; rintro _ _ _ ⟨rfl, rfl, rfl⟩; refine ⟨okF, ?_⟩)
   repeat (refine aI ?_)
   refine bZ [4, 5] (by first | exact .inl rfl | exact .inr rfl) rfl rfl rfl _ _ aG aD (⟨rfl, rfl, rfl⟩)
 ·obtain rfl : i = R - pv.length := by omega
  have hyes : qN R C a.q b.q := hS.2 (qZ.2 (fun t h1 h2 => hz0 t h1 (by omega)))
  simp only [if_pos hyes]
  have hW := fun M0 I0 => kV (X := X) (w0 := w0) (M0 := M0) (I0 := I0) (x := 0) (by decide) (k := 0) (by decide)
  repeat (refine aI ?_)
  (refine jU (C) rfl rfl (by omega) (by omega) (by omega) (by omega) (qG (enc := e4) (by decide) z4 C) rfl rfl ?_; intro bi; refine ⟨okF, ?_⟩)
  repeat (refine aI ?_)
  refine bQ (φ := dD [] K) Hv.nilR ?_
  refine aQ [7, 8, 9, 12, 53] rfl (fun k G M I => ∃ (x : Nat) (es : List RE), x ≤ C ∧ k = C - x ∧ es.length = x ∧ (∀ t : Nat, t < x → (gt es (t : Int)).q = 0) ∧ G = [(54, .int .i64 x)] ∧ M = .blk bi (recs e4 (es.map t4 ++ List.replicate (C - x) z4)) 42 :: M0 ∧ I = dD es K :: aV (some ⟨bo, 0, none⟩) (recs eL m.rows) :: pvI q pv :: fF m K :: I0) (C) _ _ _ aR aG aD (⟨0, [], by omega, by omega, rfl, fun t ht => by omega, rfl, rfl, rfl⟩) ?_
  rintro kk G M I ⟨x, es, hx, rfl, hel, heq, rfl, rfl, rfl⟩
  by_cases hxC : x < C
  ·have hz2 := qH (n := C - x) (z := z4) (by omega)
   have hl2 : ((es.map t4 ++ z4 :: List.replicate (C - x - 1) z4).length : Int) = C := by simp; omega
   rw [hz2]
   repeat (refine aI ?_)
   (refine aA rfl (hW _ _) rfl rfl ?_; rintro _ _ _ ⟨rfl, e, rfl, he, rfl⟩; refine ⟨okF, ?_⟩)
   repeat (refine yXh ?_)
   refine fI (vs := eR e) rfl rfl rfl (Ones.one e) lF (StAts.r (t4 e) (by omega) rfl) rfl rfl ⟨okF, ?_⟩
   rw [zT (by simp; omega)]
   repeat (refine aI ?_)
   refine eT (φ := eY e K) (Hv.q (k := 0) aB (by omega)) ?_
   refine eT (φ := dD (es ++ [e]) K) (Hv.snoc aB aB) ?_
   have e9 : es.map t4 ++ t4 e :: List.replicate (C - x - 1) z4 = (es ++ [e]).map t4 ++ List.replicate (C - (x + 1)) z4 := by simp [Nat.sub_sub]
   rw [e9]
   refine aL (C - (x + 1)) _ _ _ (by first | omega | (simp only [List.length_append, List.length_cons, List.length_nil]; omega)) aR aG aD (⟨x + 1, es ++ [e], by omega, rfl, by simp; omega, fun t ht => ?_, rfl, rfl, rfl⟩)
   by_cases e1 : t < x
   ·have : gt (es ++ [e]) (t : Int) = gt es (t : Int) := by rw [dH (by simp; omega), dH (by omega), List.getElem_append_left (by omega)]
    rw [this]; exact heq t e1
   ·have : gt (es ++ [e]) (t : Int) = e := rU (A := es) (B := []) (by omega)
    rw [this, he]; rfl
  ·obtain rfl : x = C := by omega
   rw [Nat.sub_self, List.replicate_zero, List.append_nil, xQ]
   repeat (refine aI ?_)
   refine aQ [7, 8, 12, 62, 63] rfl (fun k G M I => ∃ (r : Nat) (es2 : List RE), r ≤ pv.length ∧ k = pv.length - r ∧ es2.length = x ∧ (∀ t : Nat, t < x → (gt es2 (t : Int)).q = if t ∈ pv ∧ pv.idxOf t < r then at2 m.q (pv.idxOf t) x else 0) ∧ G = [(64, .int .i64 r)] ∧ M = .blk bi (recs eR es2) 42 :: M0 ∧ I = dD es2 K :: aV (some ⟨bo, 0, none⟩) (recs eL m.rows) :: pvI q pv :: fF m K :: I0) (pv.length) _ _ _ aR aG aD (⟨0, es, by omega, by omega, hel, fun t ht => by rw [if_neg (by omega)]; exact heq t ht, rfl, rfl, rfl⟩) ?_
   rintro kk G M I ⟨r, es2, hr2, rfl, hel2, heq2, rfl, rfl, rfl⟩
   by_cases hrp : r < pv.length
   ·have hgz := aMB hrp
    have hpr := hpi r hrp
    have hmr := md.row (i := r) (by omega)
    have hat := pX (m := m) (i := r) (j := x) (by omega) (by omega)
    refine bQ (φ := aV (gt (m).rows (r : Int)).p (recs eR (gt (m).rows (r : Int)).es)) (Hv.xrsl aB (by omega)) ?_
    repeat (refine aI ?_)
    rw [hgz]
    repeat (refine aI ?_)
    refine eT (φ := eY (gt (gt m.rows (r : Int)).es (x : Int)) K) (Hv.xel aB (by omega) (by omega)) ?_
    refine eT (φ := dD (st es2 ((pv.getD r 0 : Nat) : Int) (gt (gt m.rows (r : Int)).es (x : Int))) K) (Hv.stR aB aB) ?_
    refine aL (pv.length - (r + 1)) _ _ _ (by first | omega | (simp only [List.length_append, List.length_cons, List.length_nil]; omega)) aR aG aD (⟨r + 1, st es2 ((pv.getD r 0 : Nat) : Int) (gt (gt m.rows (r : Int)).es (x : Int)), by omega, rfl, by rw [cZ]; exact hel2, fun t ht => ?_, rfl, rfl, rfl⟩)
    rw [nJ (by omega)]
    by_cases e1 : t = pv.getD r 0
    ·subst e1
     rw [if_pos rfl, if_pos ⟨gK.2 ⟨r, hrp, rfl⟩, by rw [hidx r hrp]; omega⟩, hidx r hrp, hat]
    ·rw [if_neg e1, heq2 t ht]
     by_cases e2 : t ∈ pv
     ·have e3 : pv.idxOf t ≠ r := fun e => e1 (by rw [← e]; exact (Red.idx_lt e2).2.symm)
      by_cases e4 : pv.idxOf t < r
      ·rw [if_pos ⟨e2, e4⟩, if_pos ⟨e2, by omega⟩]
      ·rw [if_neg (show ¬ (t ∈ pv ∧ pv.idxOf t < r) from fun h => e4 h.2), if_neg (show ¬ (t ∈ pv ∧ pv.idxOf t < r + 1) from fun h => by have := h.2; omega)]
     ·rw [if_neg (show ¬ (t ∈ pv ∧ pv.idxOf t < r) from fun h => e2 h.1), if_neg (show ¬ (t ∈ pv ∧ pv.idxOf t < r + 1) from fun h => e2 h.1)]
   ·obtain rfl : r = pv.length := by omega
    repeat (refine aI ?_)
    refine aLW (k := K) aB ?_
    refine bZ [4, 5] (by first | exact .inl rfl | exact .inr rfl) rfl rfl rfl _ _ aG aD (⟨rfl, ⟨some ⟨bi, 0, none⟩, es2.length, es2⟩, by show _ = Value.tuple #[.slice (some ⟨bi, 0, none⟩) es2.length es2.length, .int .i64 0]; rw [hel2], ?_, rfl⟩)
    rw [hL]
    apply nI
    ·simp [hel2]
    ·intro t ht
     have ht' : t < x := by simpa [hel2] using ht
     show (qs es2).getD t 0 = _
     rw [fA (by omega), heq2 t ht']
     have : ((List.range x).map (aIN (at2 m.q) pv x)).getD t 0 = aIN (at2 m.q) pv x t := by simp [List.getD, ht']
     rw [this]
     unfold aIN
     by_cases e2 : t ∈ pv
     ·rw [if_pos ⟨e2, (Red.idx_lt e2).1⟩, if_pos e2]
     ·rw [if_neg (fun h => e2 h.1), if_neg e2]
end
end Go.Proofs.YtgeagiikkeiioaaGreat
namespace Go.Fx
section
variable {P : Program} {n : Nat} {ops : List Oper} {Q : Exit → Act → World → Prop} {m : Mode} {G : Env} {w : World} {ty : TypeId} {pos : String} {af : Array Edge} {g : Option (Nat × Bool)} {l : List Oper} {X : List Nat} {w0 : World} {M M' : List Ent} {I : List bD}
end
end Go.Fx
namespace Go.Proofs.YtgeagiikkeiioaaGreat
open Go Go.Fx
section
variable {X : List Nat} {w0 : World} {M0 : List Ent} {I0 : List bD}
def catQ (ls : List RL) : List Rat := ls.flatMap RL.q
def shpC (m : WM) (x : WL) : Int := if x.good ∧ ∀ r ∈ m.rows, r.good then (if m.rows.length = 3 ∧ ∀ r ∈ m.rows, r.es.length = 4 then 0 else 4) else 1
end
end Go.Proofs.YtgeagiikkeiioaaGreat
namespace Go.Proofs.YtgeagiikkeiioaaGreat
open Go Go.Fx
structure CE where
 a : RE
 b : PE
instance : Inhabited CE := ⟨⟨default, default⟩⟩
abbrev eC (c : CE) : List Value := [.bool (B (c.a.q.num < 0)), .slice c.a.p1 (gr c.a.q.num.natAbs).length c.a.c1, .bool (B ((c.a.q.den : Int) < 0)), .slice c.a.p2 (gr (c.a.q.den : Int).natAbs).length c.a.c2, .bool (B (c.b.x.q.num < 0)), .slice c.b.x.p1 (gr c.b.x.q.num.natAbs).length c.b.x.c1, .bool (B ((c.b.x.q.den : Int) < 0)), .slice c.b.x.p2 (gr (c.b.x.q.den : Int).natAbs).length c.b.x.c2, .bool (B (c.b.y.q.num < 0)), .slice c.b.y.p1 (gr c.b.y.q.num.natAbs).length c.b.y.c1, .bool (B ((c.b.y.q.den : Int) < 0)), .slice c.b.y.p2 (gr (c.b.y.q.den : Int).natAbs).length c.b.y.c2]
instance : Sized eC 12 := ⟨fun _ => rfl⟩
abbrev cv (c : CE) : Value := .agg (eC c).toArray
section
variable {X : List Nat} {w0 : World} {M0 : List Ent} {I0 : List bD}
end
end Go.Proofs.YtgeagiikkeiioaaGreat
namespace Go.Proofs.YtgeagiikkeiioaaGreat
open Go Go.Fx
abbrev zP : Value := .agg #[.bool false, .slice none 0 0, .bool false, .slice none 0 0, .bool false, .slice none 0 0, .bool false, .slice none 0 0]
abbrev zPc : List Value := [.bool false, .slice none 0 0, .bool false, .slice none 0 0, .bool false, .slice none 0 0, .bool false, .slice none 0 0]
section
variable {X : List Nat} {w0 : World} {M0 : List Ent} {I0 : List bD}
end
end Go.Proofs.YtgeagiikkeiioaaGreat
namespace Go.Proofs.YtgeagiikkeiioaaGreat
open Go Go.Fx
abbrev zRc : List Value := [.bool false, .slice none 0 0, .bool false, .slice none 0 0]
section
variable {X : List Nat} {w0 : World} {M0 : List Ent} {I0 : List bD}
end
end Go.Proofs.YtgeagiikkeiioaaGreat
namespace Go.Proofs.YtgeagiikkeiioaaGreat
open Go Go.Fx
def prV (A : Mt) (a b c : Rat) (i : Nat) : Rat := sm 4 (fun t => at2 A i t * [a, b, c, 1].getD t 0)
section
variable {X : List Nat} {w0 : World} {M0 : List Ent} {I0 : List bD}
end
end Go.Proofs.YtgeagiikkeiioaaGreat
namespace Go.Fx
section
variable {P : Program} {ops : Array Oper} {Q : Exit → Act → World → Prop} {Cs Cs' : Nat → World → Prop}
end
section
variable {P : Program} {n : Nat} {Q : Exit → Act → World → Prop} {G : Env} {X : List Nat} {w0 : World} {M M1 M2 : List Ent} {I I1 I2 : List bD} {l : List Oper}
end
section
variable {P : Program} {n : Nat} {ops l : List Oper} {Q : Exit → Act → World → Prop} {m : Mode} {G : Env} {ty : TypeId} {pos : String} {af : Array Edge} {g : Option (Nat × Bool)} {X : List Nat} {w0 : World} {M M' : List Ent} {I : List bD}
/- a store into a row that may still grow -/
end
section
variable {P : Program} {n : Nat} {ops l : List Oper} {Q Q' Q1 Q2 : Exit → Act → World → Prop} {m : Mode} {G : Env} {X : List Nat} {w0 : World} {M M' : List Ent} {I : List bD}
/- a cut from within a region that a test follows -/
end
end Go.Fx
namespace Go.Proofs.YtgeagiikkeiioaaGreat
open Go Go.Fx
abbrev zT3 : List Value := [.bool false, .slice none 0 0, .bool false, .slice none 0 0, .bool false, .slice none 0 0, .bool false, .slice none 0 0, .bool false, .slice none 0 0, .bool false, .slice none 0 0]
def ctrOk (N : Mt) : Prop := N.length = 1 ∧ at2 N 0 3 ≠ 0
instance ctrOk.dec (N : Mt) : Decidable (ctrOk N) := by unfold ctrOk; exact inferInstance
section
variable {X : List Nat} {w0 : World} {M0 : List Ent} {I0 : List bD}
end
end Go.Proofs.YtgeagiikkeiioaaGreat
namespace Go.Proofs.YtgeagiikkeiioaaGreat
open Go Go.Fx
def plD (p0 p1 p2 : V2) (s0 s1 s2 : Rat) : Rat := (cnB (p0.sub p1) s0 s1).crs (cnB (p2.sub p1) s2 s1)
def plZ (p0 p1 p2 : V2) (s0 s1 s2 : Rat) : V2 := mtZ (cnA s0 s1) (cnA s2 s1) (cnB (p0.sub p1) s0 s1) (cnB (p2.sub p1) s2 s1)
def plC (p0 p1 p2 : V2) (s0 s1 s2 : Rat) : V2 := mtC (cnA s0 s1) (cnA s2 s1) (cnB (p0.sub p1) s0 s1) (cnB (p2.sub p1) s2 s1)
def plA (p0 p1 p2 : V2) (s0 s1 s2 : Rat) : V2 := p1.add (plC p0 p1 p2 s0 s1 s2)
def plF (p0 p1 p2 : V2) (s0 s1 s2 : Rat) : V2 := ((plC p0 p1 p2 s0 s1 s2).scl (-1)).sub ((((plC p0 p1 p2 s0 s1 s2).scl (-1)).sd).scl s1)
structure AllP (ps : List PE) (k : Nat) (X : List Nat) (w : World) : Prop where
 go : ∀ p ∈ ps, IsP p k X w
abbrev allP (ps : List PE) (k : Nat) : bD := AllP ps k
instance (ps : List PE) (k : Nat) : Fx.Good (AllP ps k) := ⟨fun X Y w w' h he hY => ⟨fun r hm => Fx.Good.go (φ := IsP _ _) X Y w w' (h.go r hm) he hY⟩⟩
section
variable {X : List Nat} {w0 : World} {M0 : List Ent} {I0 : List bD}
end
end Go.Proofs.YtgeagiikkeiioaaGreat
namespace Go.Proofs.YtgeagiikkeiioaaGreat
open Go Go.Fx
section
variable {X : List Nat} {w0 : World} {M0 : List Ent} {I0 : List bD}
end
end Go.Proofs.YtgeagiikkeiioaaGreat

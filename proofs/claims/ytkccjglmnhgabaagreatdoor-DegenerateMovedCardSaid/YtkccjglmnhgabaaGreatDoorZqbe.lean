/- The document's Echelon, Rank. -/
import Derived.Test.YtkccjglmnhgabaaGreatDoorZqbc
import Derived.Test.YtkccjglmnhgabaaGreatDoorZqbd
import Derived.Test.YtkccjglmnhgabaaGreatDoorZqam
set_option linter.unusedSimpArgs false
set_option linter.unusedVariables false
set_option maxRecDepth 100000
set_option maxHeartbeats 4000000
namespace Go.Proofs.YtkccjglmnhgabaaGreatDoor
open Go Go.Fx
theorem aPK {A : Mt} {R r j x : Nat} (hl : A.length = R) (hr : r ≤ x) (hx : x < R) (hz : ∀ i, r ≤ i → i < x → at2 A i j = 0) (hn : at2 A x j ≠ 0) : lG A j (R - r) r = x := by
 obtain ⟨f1, f2, f3⟩ := vX (A := A) (j := j) (R - r) r (by omega)
 have f4 := vP (A := A) (j := j) (R - r) r (by omega)
 generalize lG A j (R - r) r = y at *
 rcases Nat.lt_trichotomy y x with h | h | h
 ·exact absurd (hz y f1 h) (f3 (by omega))
 ·exact h
 ·exact absurd (f4 x hr h) hn
theorem aOY {A : Mt} {R r j : Nat} (hl : A.length = R) (hr : r ≤ R) (hz : ∀ i, r ≤ i → i < R → at2 A i j = 0) : lG A j (R - r) r = R := by
 obtain ⟨f1, f2, f3⟩ := vX (A := A) (j := j) (R - r) r (by omega)
 generalize lG A j (R - r) r = y at *
 rcases Nat.lt_or_ge y R with h | h
 ·exact absurd (hz y f1 h) (f3 (by omega))
 ·omega
theorem aOR {A E : Mt} {pv : List Nat} {R j x : Nat} (h : mE A j = (E, pv)) (hl : E.length = R) (hr : pv.length ≤ x) (hx : x < R) (hz : ∀ i, pv.length ≤ i → i < x → at2 E i j = 0) (hn : at2 E x j ≠ 0) : mE A (j + 1) = (sP E pv.length j x, pv ++ [j]) := by
 rw [rF, h]
 unfold aIL
 simp only
 rw [hl, aPK hl hr hx hz hn, if_pos hx]
theorem aJA {A E : Mt} {pv : List Nat} {R j : Nat} (h : mE A j = (E, pv)) (hl : E.length = R) (hr : pv.length ≤ R) (hz : ∀ i, pv.length ≤ i → i < R → at2 E i j = 0) : mE A (j + 1) = (E, pv) := by
 rw [rF, h]
 unfold aIL
 simp only
 rw [hl, aOY hl hr hz, if_neg (by omega)]
theorem aDB {A E : Mt} {pv : List Nat} {R j : Nat} (h : mE A j = (E, pv)) (hl : E.length = R) (hr : pv.length = R) : ∀ d, mE A (j + d) = (E, pv)
 | 0 => h
 | d + 1 => by
  have := aDB h hl hr d
  rw [← Nat.add_assoc]
  exact aJA this hl (by omega) (fun i h1 h2 => by omega)
theorem aGD {E : Mt} {R C : Nat} (h : kK E R C) : E = uY R C (at2 E) := by
 apply List.ext_getElem
 ·simp [uY, h.1]
 ·intro i h1 h2
  have hi : i < R := by rw [← h.1]; exact h1
  have hrow : rowAt E i = E[i] := by simp [rowAt, List.getD, h1]
  have hc := h.2 i hi
  rw [hrow] at hc
  apply List.ext_getElem
  ·simp [uY, hc]
  ·intro j h3 h4
   simp only [uY, List.getElem_map, List.getElem_range]
   unfold at2
   rw [hrow]
   simp [List.getD, h3]
theorem aHY {α : Type} [Inhabited α] {rows : List α} {r k : Nat} (hr : r < rows.length) (hk : k < rows.length) : (st (st rows (r : Int) (gt rows (k : Int))) (k : Int) (gt rows (r : Int))).Perm rows := by
 unfold st
 simp only [Int.toNat_natCast]
 by_cases h : r = k
 ·subst h
  rw [dH hr, List.set_getElem_self, List.set_getElem_self]
 ·have hr' : r < ((rows.set r (gt rows (k : Int))).set k (gt rows (r : Int))).length := by simpa using hr
  have hk' : k < ((rows.set r (gt rows (k : Int))).set k (gt rows (r : Int))).length := by simpa using hk
  have h1 := oK _ r k hr' hk' h
  have h2 := oK rows r k hr hk h
  have e : jW ((rows.set r (gt rows (k : Int))).set k (gt rows (r : Int))) r k = jW rows r k := by
   have h3 := oZ (rows.set r (gt rows (k : Int))) k r (gt rows (r : Int)) (Ne.symm h)
   have h4 := oZ rows r k (gt rows (k : Int)) h
   have c : ∀ l : List α, jW l k r = jW l r k := fun l => by unfold jW; rw [Nat.max_comm, Nat.min_comm]
   rw [c, c, h4] at h3
   exact h3
  rw [e] at h1
  have g1 : ((rows.set r (gt rows (k : Int))).set k (gt rows (r : Int)))[r]'hr' = rows[k] := by
   rw [List.getElem_set_ne (Ne.symm h), List.getElem_set_self, dH hk]
  have g2 : ((rows.set r (gt rows (k : Int))).set k (gt rows (r : Int)))[k]'hk' = rows[r] := by
   rw [List.getElem_set_self, dH hr]
  rw [g1, g2] at h1
  exact (h1.trans (List.Perm.swap _ _ _)).trans h2.symm
theorem aQF {α : Type} [Inhabited α] {rows : List α} {r k t : Nat} (hr : r < rows.length) (hk : k < rows.length) : gt (st (st rows (r : Int) (gt rows (k : Int))) (k : Int) (gt rows (r : Int))) (t : Int) = gt rows ((tr r k t : Nat) : Int) := by
 rw [aFG _ (by rw [eF]; omega) (by omega), aFG _ (by omega) (by omega)]
 simp only [tr]
 by_cases e1 : t = k
 ·subst e1
  rw [if_pos rfl]
  by_cases e2 : t = r
  ·rw [if_pos e2, e2]
  ·rw [if_neg e2, if_pos rfl]
 ·rw [if_neg (by omega)]
  by_cases e2 : t = r
  ·rw [if_pos (by omega), if_pos e2]
  ·rw [if_neg (by omega), if_neg e2, if_neg e1]
theorem Hv.elS {I : List bB} {rows : List MS} {i j : Int} {k m : Nat} (h : jP rows k ∈ I) (hi : 0 ≤ i ∧ i < rows.length) (hj : 0 ≤ j ∧ j < (gt rows i).es.length) (hk : k ≤ m) : Hv I (fB (gt (gt rows i).es j) m) :=
 ⟨fun X w hw => ((hw _ h : AllS rows k X w).go _ (eX hi) _ (eX hj)).mono hk⟩
theorem Hv.permS {I : List bB} {rows rows' : List MS} {k : Nat} (h : jP rows k ∈ I) (hp : rows'.Perm rows) : Hv I (jP rows' k) := ⟨fun X w hw => ⟨fun r hr => (hw _ h : AllS rows k X w).go r (hp.mem_iff.1 hr)⟩⟩
theorem aMU {rows : List MS} {i : Nat} {M1 : List Ent} (h : i < rows.length) : kD (gt rows (i : Int)) ∈ rows.map kD ++ M1 := List.mem_append_left _ (List.mem_map.2 ⟨_, eX (by omega), rfl⟩)
theorem aUJ {M1 : List Ent} {r' : MS} {rows : List MS} {i : Nat} (h : i < rows.length) {A B C : Ent} : Rep (kD (gt rows (i : Int))) (kD r') (A :: B :: C :: (rows.map kD ++ M1)) (A :: B :: C :: ((rows.set i r').map kD ++ M1)) := .there (repS2 h)
theorem aCG {rows : List MS} {R C i j t : Nat} {e : RE} (h : Shp rows R C) (hi : i < R) (ht : t < R) (hne : t ≠ i) : gt (upS rows i j e) (t : Int) = gt rows (t : Int) := by rw [aQV h hi ht, if_neg hne]
theorem uG {rows : List MS} {R C i j c : Nat} {e : RE} (h : Shp rows R C) (hi : i < R) (hj : j < C) : gt (gt (upS rows i j e) (i : Int)).es (c : Int) = if c = j then e else gt (gt rows (i : Int)).es (c : Int) := by
 rw [aQV h hi hi, if_pos rfl]
 show gt (st (gt rows (i : Int)).es (j : Int) e) (c : Int) = _
 rw [qM (by rw [h.row hi]; exact hj)]
def rEchO (A : Mt) (R C k : Nat) (M0 : List Ent) (I0 : List bB) (v : Value) (M : List Ent) (I : List bB) : Prop :=
 ∃ (bo co : Nat) (tlo : List Value) (rows : List MS) (E : Mt) (pv : List Nat) (q : Option Addr) (c : Nat), v = .tuple #[.slice (some ⟨bo, 0, none⟩) R co, .slice q pv.length c] ∧ R ≤ co ∧ Shp rows R C ∧ mE A C = (E, pv) ∧ Pw rows R C (at2 E) ∧
  M = .row q pv.length c (recs eZ (zs pv)) 3 1 :: .blk bo (recs eS rows ++ tlo) 48 :: (rows.map kD ++ M0) ∧ I = jP rows k :: I0
def rEchP (A : Mt) (R C k : Nat) (M0 : List Ent) (I0 : List bB) (v : Value) (M : List Ent) (I : List bB) : Prop :=
 M0 = M ∧ ∃ (m : MX) (pv : List Nat) (q : Option Addr) (c : Nat), v = .tuple #[mv m, .slice q pv.length c] ∧ mE A C = (m.q, pv) ∧ m.dim R C ∧ I = pvI q pv :: jC m k :: I0
section
variable {X : List Nat} {w0 : World} {M0 : List Ent} {I0 : List bB}
theorem aPO {a : MX} {R C k0 : Nat} (hb : kb k0 C ≤ 20000000000) (hR : 1 ≤ R ∧ R ≤ 100) (hC : 1 ≤ C ∧ C ≤ 100) (da : a.dim R C) (ha : jC a k0 ∈ I0) : CD Tryz.prog 52 [mv a] X w0 M0 I0 (rEchO a.q R C (kb k0 C) M0 I0) := by
 have lR := da.1
 have lC : (gt a.rows 0).es.length = C := da.row (i := 0) (by omega)
 have hdim := oV da
 have hCo := fun M0 I0 h => aPC (X := X) (w0 := w0) (M0 := M0) (I0 := I0) (a := a) (k0 := k0) hR hC da h
 refine eQ (φ := aW (a).p (recs eL (a).rows)) (Hv.xsl aB) ?_
 refine bC Tryz.func52 rfl Tryz.ntmps52 rfl ?_
 repeat (first | (refine aK ?_) | (refine bF ?_; apply bQ; exact fA; exact rfl; exact aB; exact AtsZ.app (AtsZ.r fD); exact rfl; exact rfl))
 repeat (refine aK ?_)
 (refine aA rfl (hCo _ _ aB) rfl rfl ?_; rintro _ _ _ ⟨bo, co, tlo, rows0, rfl, hco, hs0, hp0, rfl, rfl⟩; refine ⟨okF, ?_⟩)
 clear hCo
 repeat (first | (refine aK ?_) | (refine bF ?_; apply bQ; exact fA; exact rfl; exact aB; exact AtsZ.app (AtsZ.r fD); exact rfl; exact rfl))
 repeat (refine aK ?_)
 (refine aP (cs := recs eZ []) ([]) rfl rfl (by intro v hv; repeat (first | exact absurd hv (List.not_mem_nil) | (rcases List.mem_cons.1 hv with rfl | hv; · rfl))) (by omega) rfl rfl rfl ?_; intro bp; refine ⟨okF, ?_⟩; refine jS (mm := 0) 1 .here rfl (by omega) ?_)
 repeat (first | (refine aK ?_) | (refine bF ?_; apply bQ; exact fA; exact rfl; exact aB; exact AtsZ.app (AtsZ.r fD); exact rfl; exact rfl))
 repeat (refine aK ?_)
 refine aT [0, 4] rfl (fun k G M I => ∃ (j r : Nat) (rows : List MS) (E : Mt) (pv : List Nat) (q : Option Addr) (c : Nat), j ≤ C ∧ k = C - j ∧ pv.length = r ∧ mE a.q j = (E, pv) ∧ r ≤ R ∧ r ≤ j ∧ Shp rows R C ∧ Pw rows R C (at2 E) ∧ G = [(5, .slice q r c), (6, .int .i64 j)] ∧ M = .row q r c (recs eZ (zs pv)) 3 1 :: .blk bo (recs eS rows ++ tlo) 48 :: (rows.map kD ++ M0) ∧ I = jP rows (kb k0 j) :: aW a.p (recs eL a.rows) :: I0) (C) _ _ _ aQ aF aD (⟨0, 0, rows0, a.q, [], _, _, by omega, rfl, rfl, rfl, by omega, by omega, hs0, hp0, rfl, rfl, rfl⟩) ?_
 rintro kk G M I ⟨j, r, rows, E, pv, q, c, hj, rfl, hr, hred, hpR, hpj, hs, hp, rfl, rfl, rfl⟩
 obtain ⟨hdE, s, hRd⟩ := kT hdim j hj
 rw [hred] at hdE hRd
 simp only at hdE hRd
 have hEl := hdE.1
 have hlen := hs.len
 have hzl : (zs pv).length = r := by simp [hr]
 by_cases hjC : j < C
 ·by_cases hrR : r < R
  ·have hkj : kb k0 (j + 1) ≤ 20000000000 := Nat.le_trans (iO k0 (by omega)) hb
   have hkj1 : kb k0 (j + 1) = 4 * kb k0 j + 1 := rfl
   obtain ⟨kj, hkj0⟩ : ∃ x, kb k0 j = x := ⟨_, rfl⟩
   rw [hkj0] at hkj1 ⊢
   repeat (first | (refine aK ?_) | (refine bF ?_; apply bQ; exact fA; exact rfl; exact aB; exact AtsZ.app (AtsZ.r fD); exact rfl; exact rfl))
   repeat (refine aK ?_)
   refine aT [0, 4, 5, 6, 7] rfl (fun k G M I => ∃ (x : Nat) (a1 : Int), r ≤ x ∧ x ≤ R ∧ k = R - x ∧ ((a1 = -1 ∧ ∀ i : Nat, r ≤ i → i < x → at2 E i j = 0) ∨ (a1 + 1 = x ∧ r < x ∧ at2 E (x - 1) j ≠ 0 ∧ ∀ i : Nat, r ≤ i → i < x - 1 → at2 E i j = 0)) ∧ G = [(8, .int .i64 a1), (9, .int .i64 x)] ∧ M = .row q r c (recs eZ (zs pv)) 3 1 :: .blk bo (recs eS rows ++ tlo) 48 :: (rows.map kD ++ M0) ∧ I = jP rows kj :: aW a.p (recs eL a.rows) :: I0) (R - r) _ _ _ aQ aF aD (⟨r, -1, by omega, by omega, rfl, .inl ⟨rfl, fun i h1 h2 => by omega⟩, rfl, rfl, rfl⟩) ?_
   rintro kk G M I ⟨x, a1, hrx, hxR, rfl, hcase, rfl, rfl, rfl⟩
   rcases hcase with ⟨rfl, hz⟩ | ⟨ha1, hrx2, hn, hz⟩
   ·by_cases hx : x < R
    ·have hrow := hs.row hx
     have hmx := aMU (rows := rows) (i := x) (M1 := M0) (by omega)
     have hat := hp x j hx hjC
     have hSg := fun M0 I0 h => fP (X := X) (w0 := w0) (M0 := M0) (I0 := I0) (e := gt (gt rows (x : Int)).es (j : Int)) (k := kj) (by omega) h
     refine fI (φ := fB (gt (gt rows (x : Int)).es (j : Int)) kj) (Hv.elS (k := kj) aB (by omega) (by omega) (Nat.le_refl _)) ?_
     by_cases h0 : at2 E x j = 0
     ·rw [← hat] at h0
      rw [(iE _).2 h0] at hSg
      repeat (first | (refine aK ?_) | (refine bF ?_; apply bQ; exact fA; exact rfl; exact aB; exact AtsZ.app (AtsZ.r fD); exact rfl; exact rfl))
      repeat (refine aK ?_)
      (refine aA rfl (hSg _ _ (Hv.mem aB)) rfl rfl ?_; rintro _ _ _ ⟨rfl, rfl, rfl⟩; refine ⟨okF, ?_⟩)
      repeat (first | (refine aK ?_) | (refine bF ?_; apply bQ; exact fA; exact rfl; exact aB; exact AtsZ.app (AtsZ.r fD); exact rfl; exact rfl))
      repeat (refine aK ?_)
      refine aG (R - (x + 1)) _ _ _ (by first | omega | (simp only [List.length_append, List.length_cons, List.length_nil]; omega)) aQ aF aD (⟨x + 1, -1, by omega, by omega, rfl, .inl ⟨rfl, fun i h1 h2 => ?_⟩, rfl, rfl, rfl⟩)
      by_cases e : i = x
      ·subst e; rw [← hat]; exact h0
      ·exact hz i h1 (by omega)
     ·have h0' := h0
      rw [← hat] at h0'
      have hs1 : ¬ (gt (gt rows (x : Int)).es (j : Int)).q.num.sign = 0 := fun h => h0' ((iE _).1 h)
      generalize (gt (gt rows (x : Int)).es (j : Int)).q.num.sign = sg1 at *
      repeat (first | (refine aK ?_) | (refine bF ?_; apply bQ; exact fA; exact rfl; exact aB; exact AtsZ.app (AtsZ.r fD); exact rfl; exact rfl))
      repeat (refine aK ?_)
      (refine aA rfl (hSg _ _ (Hv.mem aB)) rfl rfl ?_; rintro _ _ _ ⟨rfl, rfl, rfl⟩; refine ⟨okF, ?_⟩)
      repeat (first | (refine aK ?_) | (refine bF ?_; apply bQ; exact fA; exact rfl; exact aB; exact AtsZ.app (AtsZ.r fD); exact rfl; exact rfl))
      repeat (refine aK ?_)
      refine aG (R - (x + 1)) _ _ _ (by first | omega | (simp only [List.length_append, List.length_cons, List.length_nil]; omega)) aQ aF aD (⟨x + 1, (x : Int), by omega, by omega, rfl, .inr ⟨by omega, by omega, by rw [Nat.add_sub_cancel]; exact h0, fun i h1 h2 => hz i h1 (by omega)⟩, rfl, rfl, rfl⟩)
    ·obtain rfl : x = R := by omega
     repeat (first | (refine aK ?_) | (refine bF ?_; apply bQ; exact fA; exact rfl; exact aB; exact AtsZ.app (AtsZ.r fD); exact rfl; exact rfl))
     repeat (refine aK ?_)
     refine iW (φ := jP rows (kb k0 (j + 1))) (Hv.monoS (k := kj) aB (by omega)) ?_
     refine aG (C - (j + 1)) _ _ _ (by first | omega | (simp only [List.length_append, List.length_cons, List.length_nil]; omega)) aQ aF aD (⟨j + 1, r, rows, E, pv, q, c, by omega, rfl, hr, aJA hred hEl (by omega) (fun i h1 h2 => hz i (by omega) h2), hpR, by omega, hs, hp, rfl, rfl, rfl⟩)
   ·obtain ⟨y, rfl⟩ : ∃ y, x = y + 1 := ⟨x - 1, by omega⟩
    rw [Nat.add_sub_cancel] at hn hz
    obtain rfl : a1 = (y : Int) := by omega
    have hyR : y < R := by omega
    rcases Nat.lt_or_ge (y + 1) R with hy1 | hy1 <;> (
     repeat (first | (refine aK ?_) | (refine bF ?_; apply bQ; exact fA; exact rfl; exact aB; exact AtsZ.app (AtsZ.r fD); exact rfl; exact rfl))
     repeat (refine aK ?_)
     (repeat refine aJ ?_); refine bZ 0 [0, 1, 2, 3, 4, 5, 6, 7, 8, 9, 10, 11, 12, 13, 14, 15] [0, 0, 1, 1, 0, 0, 0, 0, 1, 1, 1, 0, 0, 0, 0, 0] mixed (by kernel_rfl) ?_
     repeat (refine yXh ?_)
     refine jY rfl rfl rfl jZ (StAt.app (StAt.r1 (gt rows (y : Int)) (by omega) rfl)) rfl rfl ⟨okF, ?_⟩
     repeat (refine yXh ?_)
     refine jY rfl rfl rfl jZ (StAt.app (StAt.r1 (gt rows (r : Int)) (by rw [eF]; omega) rfl)) rfl rfl ⟨okF, ?_⟩
     obtain ⟨rows2, hrows2⟩ : ∃ rows2, rows2 = st (st rows (r : Int) (gt rows (y : Int))) (y : Int) (gt rows (r : Int)) := ⟨_, rfl⟩
     have hsp := aHY (rows := rows) (r := r) (k := y) (by omega) (by omega)
     have hgs : ∀ t : Nat, gt rows2 (t : Int) = gt rows ((tr r y t : Nat) : Int) := fun t => by rw [hrows2]; exact aQF (by omega) (by omega)
     rw [← hrows2] at hsp ⊢
     have hs2 : Shp rows2 R C := ⟨by rw [hsp.length_eq]; exact hlen, fun r hr => hs.col r (hsp.mem_iff.1 hr)⟩
     have hp2 : ∀ t b : Nat, t < R → b < C → (gt (gt rows2 (t : Int)).es (b : Int)).q = at2 E (tr r y t) b := fun t b ht hb => by rw [hgs]; exact hp _ b (xB hrR hyR ht) hb
     clear hrows2
     refine xE (M' := .row q r c (recs eZ (zs pv)) 3 1 :: .blk bo (recs eS rows2 ++ tlo) 48 :: (rows2.map kD ++ M0)) (List.Perm.cons _ (List.Perm.cons _ ((hsp.symm.map kD).append_right M0))) ?_
     refine fQ (φ := jP rows2 kj) (Hv.permS (k := kj) aB hsp) ?_
     have hlen2 := hs2.len
     have hrow2 := hs2.row hrR
     have hmr := aMU (rows := rows2) (i := r) (M1 := M0) (by omega)
     have htr : tr r y r = y := by simp [tr]
     have hpq := hp2 r j hrR hjC
     rw [htr] at hpq
     obtain ⟨p, hpp⟩ : ∃ p, gt (gt rows2 (r : Int)).es (j : Int) = p := ⟨_, rfl⟩
     repeat (first | (refine aK ?_) | (refine bF ?_; apply bQ; exact fA; exact rfl; exact aB; exact AtsZ.app (AtsZ.r fD); exact rfl; exact rfl))
     repeat (refine aK ?_)
     (refine aM rfl rfl ?_; intro b10; refine ⟨okF, ?_⟩)
     repeat (first | (refine aK ?_) | (refine bF ?_; apply bQ; exact fA; exact rfl; exact aB; exact AtsZ.app (AtsZ.r fD); exact rfl; exact rfl))
     repeat (refine aK ?_)
     refine fI (φ := fB (gt (gt rows2 (r : Int)).es (j : Int)) kj) (Hv.elS (k := kj) aB (by omega) (by omega) (Nat.le_refl _)) ?_
     rw [hpp] at hpq ⊢
     have hp0 : p.q ≠ 0 := by rw [hpq]; exact hn
     refine fI (φ := jP rows2 (kj + kj)) (Hv.monoS (k := kj) aB (by omega)) ?_
     clear hmr
     refine uV (M' := .blk b10 (eR p) 46 :: .row q r c (recs eZ (zs pv)) 3 1 :: .blk bo (recs eS rows2 ++ tlo) 48 :: (rows2.map kD ++ M0)) (I' := jP rows2 (kj + kj) :: fB p kj :: jP rows2 kj :: aW a.p (recs eL a.rows) :: I0) SubP.refl aD ?_
     refine aT [0, 4, 5, 6, 7, 10] rfl (fun k G M I => ∃ (x : Nat) (rows3 : List MS), x ≤ C ∧ k = C - x ∧ Shp rows3 R C ∧ (∀ t : Nat, t < R → t ≠ r → gt rows3 (t : Int) = gt rows2 (t : Int)) ∧ (∀ b : Nat, x ≤ b → gt (gt rows3 (r : Int)).es (b : Int) = gt (gt rows2 (r : Int)).es (b : Int)) ∧ (∀ b : Nat, b < x → (gt (gt rows3 (r : Int)).es (b : Int)).q = (gt (gt rows2 (r : Int)).es (b : Int)).q / p.q) ∧ G = [(11, .int .i64 x)] ∧ M = .blk b10 (eR p) 46 :: .row q r c (recs eZ (zs pv)) 3 1 :: .blk bo (recs eS rows3 ++ tlo) 48 :: (rows3.map kD ++ M0) ∧ I = jP rows3 (kj + kj) :: fB p kj :: jP rows2 kj :: aW a.p (recs eL a.rows) :: I0) (C) _ _ _ aQ aF aD (⟨0, rows2, by omega, rfl, hs2, fun _ _ _ => rfl, fun _ _ => rfl, fun b hb => by omega, rfl, rfl, rfl⟩) ?_
     rintro kk G M I ⟨x, rows3, hx, rfl, hs3, hk3, hk3r, hd3, rfl, rfl, rfl⟩
     have hlen3 := hs3.len
     have hrow3 := hs3.row hrR
     by_cases hxC : x < C
     ·have hmr := aMU (rows := rows3) (i := r) (M1 := M0) (by omega)
      have hge := hk3r x (Nat.le_refl _)
      have hve : ∀ I, jP rows2 kj ∈ I → Hv I (fB (gt (gt rows3 (r : Int)).es (x : Int)) kj) := fun I h => by rw [hge]; exact Hv.elS h (by omega) (by omega) (Nat.le_refl _)
      repeat (first | (refine aK ?_) | (refine bF ?_; apply bQ; exact fA; exact rfl; exact aB; exact AtsZ.app (AtsZ.r fD); exact rfl; exact rfl))
      repeat (refine aK ?_)
      (repeat refine aJ ?_); refine bZ 1 [0, 1, 2, 3, 4, 5, 6, 7, 8, 9, 10, 11, 12, 13, 14, 15, 16, 17, 18] [1, 1, 1, 1, 1, 1, 1, 1, 1, 1, 1, 0, 0, 0, 0, 0, 1, 0, 0] mixed (by kernel_rfl) ?_
      repeat (first | (refine aK ?_) | (refine bF ?_; apply bQ; exact fA; exact rfl; exact aB; exact AtsZ.app (AtsZ.r fD); exact rfl; exact rfl))
      repeat (refine aK ?_)
      (refine aA rfl (aHA (k := kj) (m := kj) (by omega) hp0 (hve _ aB) (Hv.mem aB)) rfl rfl ?_; rintro _ _ _ ⟨rfl, e, rfl, he, rfl⟩; refine ⟨okF, ?_⟩)
      repeat (refine yXh ?_)
      refine fK (vs := eR e) rfl rfl rfl (Ones.one e) (aUJ (rows := rows3) (i := r) (r' := upR (gt rows3 (r : Int)) x e) (by omega)) (StAts.app (StAts.r (enc := eR) (ms := (gt rows3 (r : Int)).es) (i := (x : Int)) e (by omega) rfl)) rfl rfl ⟨okF, ?_⟩
      rw [aKS]
      refine fQ (φ := jP (upS rows3 r x e) (kj + kj)) (Hv.upS hs3 hrR aB aB) ?_
      rw [← aFM (i := r) (j := x) (e := e) hs3 hrR]
      repeat (first | (refine aK ?_) | (refine bF ?_; apply bQ; exact fA; exact rfl; exact aB; exact AtsZ.app (AtsZ.r fD); exact rfl; exact rfl))
      repeat (refine aK ?_)
      refine aG (C - (x + 1)) _ _ _ (by first | omega | (simp only [List.length_append, List.length_cons, List.length_nil]; omega)) aQ aF aD (⟨x + 1, upS rows3 r x e, by omega, rfl, hs3.up hrR, fun t ht hne => ?_, fun b hb => ?_, fun b hb => ?_, rfl, rfl, rfl⟩)
      ·rw [aCG hs3 hrR ht hne]; exact hk3 t ht hne
      ·rw [uG hs3 hrR hxC, if_neg (by omega)]; exact hk3r b (by omega)
      ·rw [uG hs3 hrR hxC]
       by_cases e1 : b = x
       ·subst e1; rw [if_pos rfl, he, hge]
       ·rw [if_neg e1]; exact hd3 b (by omega)
     ·obtain rfl : x = C := by omega
      repeat (first | (refine aK ?_) | (refine bF ?_; apply bQ; exact fA; exact rfl; exact aB; exact AtsZ.app (AtsZ.r fD); exact rfl; exact rfl))
      repeat (refine aK ?_)
      refine fI (φ := jP rows3 (4 * kj + 1)) (Hv.monoS (k := kj + kj) aB (by omega)) ?_
      refine uV (M' := .row q r c (recs eZ (zs pv)) 3 1 :: .blk bo (recs eS rows3 ++ tlo) 48 :: (rows3.map kD ++ M0)) (I' := jP rows3 (4 * kj + 1) :: jP rows3 (kj + kj) :: jP rows2 kj :: aW a.p (recs eL a.rows) :: I0) (SubP.drop SubP.refl) aD ?_
      refine aT [0, 4, 5, 6, 7] rfl (fun k G M I => ∃ (i : Nat) (rows4 : List MS), i ≤ R ∧ k = R - i ∧ Shp rows4 R x ∧ (∀ t : Nat, t < R → (i ≤ t ∨ t = r) → gt rows4 (t : Int) = gt rows3 (t : Int)) ∧ (∀ t b : Nat, t < i → t ≠ r → b < x → (gt (gt rows4 (t : Int)).es (b : Int)).q = (gt (gt rows2 (t : Int)).es (b : Int)).q - (gt (gt rows2 (t : Int)).es (j : Int)).q * (gt (gt rows3 (r : Int)).es (b : Int)).q) ∧ G = [(12, .int .i64 i)] ∧ M = .row q r c (recs eZ (zs pv)) 3 1 :: .blk bo (recs eS rows4 ++ tlo) 48 :: (rows4.map kD ++ M0) ∧ I = jP rows4 (4 * kj + 1) :: jP rows3 (kj + kj) :: jP rows2 kj :: aW a.p (recs eL a.rows) :: I0) (R) _ _ _ aQ aF aD (⟨0, rows3, by omega, rfl, hs3, fun _ _ _ => rfl, fun t b ht => by omega, rfl, rfl, rfl⟩) ?_
      rintro kk G M I ⟨i, rows4, hi, rfl, hs4, hk4, hd4, rfl, rfl, rfl⟩
      have hlen4 := hs4.len
      by_cases hiR : i < R
      ·have hrow4 := hs4.row hiR
       have hmi := aMU (rows := rows4) (i := i) (M1 := M0) (by omega)
       have hg4 := hk4 i hiR (.inl (Nat.le_refl _))
       by_cases hir : i = r
       ·repeat (first | (refine aK ?_) | (refine bF ?_; apply bQ; exact fA; exact rfl; exact aB; exact AtsZ.app (AtsZ.r fD); exact rfl; exact rfl))
        repeat (refine aK ?_)
        (refine aM rfl rfl ?_; intro b13; refine ⟨okF, ?_⟩)
        repeat (first | (refine aK ?_) | (refine bF ?_; apply bQ; exact fA; exact rfl; exact aB; exact AtsZ.app (AtsZ.r fD); exact rfl; exact rfl))
        repeat (refine aK ?_)
        refine aG (R - (i + 1)) _ _ _ (by first | omega | (simp only [List.length_append, List.length_cons, List.length_nil]; omega)) aQ aF aD (⟨i + 1, rows4, by omega, rfl, hs4, fun t ht h => hk4 t ht (by omega), fun t b ht hne hb => hd4 t b (by omega) hne hb, rfl, rfl, rfl⟩)
       ·have hg3 := hk3 i hiR hir
        have hg2 : gt rows4 (i : Int) = gt rows2 (i : Int) := hg4.trans hg3
        have hrow2i := hs2.row hiR
        obtain ⟨f, hf⟩ : ∃ f, gt (gt rows4 (i : Int)).es (j : Int) = f := ⟨_, rfl⟩
        have hf2 : gt (gt rows2 (i : Int)).es (j : Int) = f := by rw [← hg2]; exact hf
        have hSg := fun M0 I0 h => fP (X := X) (w0 := w0) (M0 := M0) (I0 := I0) (e := f) (k := kj) (by omega) h
        by_cases h0 : f.q = 0
        ·rw [(iE _).2 h0] at hSg
         repeat (first | (refine aK ?_) | (refine bF ?_; apply bQ; exact fA; exact rfl; exact aB; exact AtsZ.app (AtsZ.r fD); exact rfl; exact rfl))
         repeat (refine aK ?_)
         (refine aM rfl rfl ?_; intro b13; refine ⟨okF, ?_⟩)
         rw [hf]
         repeat (first | (refine aK ?_) | (refine bF ?_; apply bQ; exact fA; exact rfl; exact aB; exact AtsZ.app (AtsZ.r fD); exact rfl; exact rfl))
         repeat (refine aK ?_)
         refine fQ (φ := fB f kj) (by rw [← hf2]; exact Hv.elS (k := kj) aB (by omega) (by omega) (Nat.le_refl _)) ?_
         (refine aA rfl (hSg _ _ (Hv.mem aB)) rfl rfl ?_; rintro _ _ _ ⟨rfl, rfl, rfl⟩; refine ⟨okF, ?_⟩)
         repeat (first | (refine aK ?_) | (refine bF ?_; apply bQ; exact fA; exact rfl; exact aB; exact AtsZ.app (AtsZ.r fD); exact rfl; exact rfl))
         repeat (refine aK ?_)
         refine aG (R - (i + 1)) _ _ _ (by first | omega | (simp only [List.length_append, List.length_cons, List.length_nil]; omega)) aQ aF aD (⟨i + 1, rows4, by omega, rfl, hs4, fun t ht h => hk4 t ht (by omega), fun t b ht hne hb => ?_, rfl, rfl, rfl⟩)
         by_cases e : t = i
         ·subst e; rw [hg2, hf2, h0]; grind
         ·exact hd4 t b (by omega) hne hb
        ·have hs1 : ¬ f.q.num.sign = 0 := fun h => h0 ((iE _).1 h)
         generalize f.q.num.sign = sg1 at *
         repeat (first | (refine aK ?_) | (refine bF ?_; apply bQ; exact fA; exact rfl; exact aB; exact AtsZ.app (AtsZ.r fD); exact rfl; exact rfl))
         repeat (refine aK ?_)
         (refine aM rfl rfl ?_; intro b13; refine ⟨okF, ?_⟩)
         rw [hf]
         repeat (first | (refine aK ?_) | (refine bF ?_; apply bQ; exact fA; exact rfl; exact aB; exact AtsZ.app (AtsZ.r fD); exact rfl; exact rfl))
         repeat (refine aK ?_)
         refine fQ (φ := fB f kj) (by rw [← hf2]; exact Hv.elS (k := kj) aB (by omega) (by omega) (Nat.le_refl _)) ?_
         (refine aA rfl (hSg _ _ (Hv.mem aB)) rfl rfl ?_; rintro _ _ _ ⟨rfl, rfl, rfl⟩; refine ⟨okF, ?_⟩)
         repeat (first | (refine aK ?_) | (refine bF ?_; apply bQ; exact fA; exact rfl; exact aB; exact AtsZ.app (AtsZ.r fD); exact rfl; exact rfl))
         repeat (refine aK ?_)
         clear hmi
         refine aT [0, 4, 5, 6, 7, 12, 13] rfl (fun k G M I => ∃ (z : Nat) (rows5 : List MS), z ≤ x ∧ k = x - z ∧ Shp rows5 R x ∧ (∀ t : Nat, t < R → t ≠ i → gt rows5 (t : Int) = gt rows4 (t : Int)) ∧ (∀ b : Nat, z ≤ b → gt (gt rows5 (i : Int)).es (b : Int) = gt (gt rows2 (i : Int)).es (b : Int)) ∧ (∀ b : Nat, b < z → (gt (gt rows5 (i : Int)).es (b : Int)).q = (gt (gt rows2 (i : Int)).es (b : Int)).q - f.q * (gt (gt rows3 (r : Int)).es (b : Int)).q) ∧ G = [(14, .int .i64 z)] ∧ M = .blk b13 (eR f) 46 :: .row q r c (recs eZ (zs pv)) 3 1 :: .blk bo (recs eS rows5 ++ tlo) 48 :: (rows5.map kD ++ M0) ∧ I = jP rows5 (4 * kj + 1) :: fB f kj :: jP rows3 (kj + kj) :: jP rows2 kj :: aW a.p (recs eL a.rows) :: I0) (x) _ _ _ aQ aF aD (⟨0, rows4, by omega, rfl, hs4, fun _ _ _ => rfl, fun b _ => by rw [hg2], fun b hb => by omega, rfl, rfl, rfl⟩) ?_
         rintro kk G M I ⟨z, rows5, hz5, rfl, hs5, hk5, hk5i, hd5, rfl, rfl, rfl⟩
         have hlen5 := hs5.len
         have hrow5 := hs5.row hiR
         by_cases hzC : z < x
         ·have hrow5r := hs5.row hrR
          have hmi := aMU (rows := rows5) (i := i) (M1 := M0) (by omega)
          have hmr := aMU (rows := rows5) (i := r) (M1 := M0) (by omega)
          have hge := hk5i z (Nat.le_refl _)
          have hgr : gt rows5 (r : Int) = gt rows3 (r : Int) := by rw [hk5 r hrR (Ne.symm hir)]; exact hk4 r hrR (.inr rfl)
          have hve : ∀ I, jP rows2 kj ∈ I → Hv I (fB (gt (gt rows5 (i : Int)).es (z : Int)) kj) := fun I h => by rw [hge]; exact Hv.elS h (by omega) (by omega) (Nat.le_refl _)
          have hvr : ∀ I, jP rows3 (kj + kj) ∈ I → Hv I (fB (gt (gt rows5 (r : Int)).es (z : Int)) (kj + kj)) := fun I h => by rw [hgr]; exact Hv.elS h (by omega) (by omega) (Nat.le_refl _)
          repeat (first | (refine aK ?_) | (refine bF ?_; apply bQ; exact fA; exact rfl; exact aB; exact AtsZ.app (AtsZ.r fD); exact rfl; exact rfl))
          repeat (refine aK ?_)
          (repeat refine aJ ?_); refine bZ 2 [0, 1, 2, 3, 4, 5, 6, 7, 8, 9, 10, 11, 12, 13, 14, 15, 16, 17, 18, 19, 20, 21, 22, 23] [2, 2, 2, 2, 2, 2, 2, 2, 2, 2, 2, 1, 1, 2, 2, 2, 2, 2, 2, 1, 0, 0, 0, 0] mixed (by kernel_rfl) ?_
          repeat (first | (refine aK ?_) | (refine bF ?_; apply bQ; exact fA; exact rfl; exact aB; exact AtsZ.app (AtsZ.r fD); exact rfl; exact rfl))
          repeat (refine aK ?_)
          (refine aA rfl (tJ (k := kj) (m := kj + kj) (by omega) (Hv.mem aB) (hvr _ aB)) rfl rfl ?_; rintro _ _ _ ⟨rfl, e1, rfl, he1, rfl⟩; refine ⟨okF, ?_⟩)
          (refine aA rfl (aPV (k := kj) (m := kj + (kj + kj)) (by omega) (hve _ aB) (Hv.mem aB)) rfl rfl ?_; rintro _ _ _ ⟨rfl, e, rfl, he, rfl⟩; refine ⟨okF, ?_⟩)
          repeat (refine yXh ?_)
          refine fK (vs := eR e) rfl rfl rfl (Ones.one e) (aUJ (rows := rows5) (i := i) (r' := upR (gt rows5 (i : Int)) z e) (by omega)) (StAts.app (StAts.r (enc := eR) (ms := (gt rows5 (i : Int)).es) (i := (z : Int)) e (by omega) rfl)) rfl rfl ⟨okF, ?_⟩
          rw [aKS]
          refine fQ (φ := fB e (4 * kj + 1)) (Hv.q (k := kj + (kj + (kj + kj)) + 1) aB (by omega)) ?_
          refine fQ (φ := jP (upS rows5 i z e) (4 * kj + 1)) (Hv.upS hs5 hiR aB aB) ?_
          rw [← aFM (i := i) (j := z) (e := e) hs5 hiR]
          repeat (first | (refine aK ?_) | (refine bF ?_; apply bQ; exact fA; exact rfl; exact aB; exact AtsZ.app (AtsZ.r fD); exact rfl; exact rfl))
          repeat (refine aK ?_)
          refine aG (x - (z + 1)) _ _ _ (by first | omega | (simp only [List.length_append, List.length_cons, List.length_nil]; omega)) aQ aF aD (⟨z + 1, upS rows5 i z e, by omega, rfl, hs5.up hiR, fun t ht hne => ?_, fun b hb => ?_, fun b hb => ?_, rfl, rfl, rfl⟩)
          ·rw [aCG hs5 hiR ht hne]; exact hk5 t ht hne
          ·rw [uG hs5 hiR hzC, if_neg (by omega)]; exact hk5i b (by omega)
          ·rw [uG hs5 hiR hzC]
           by_cases e2 : b = z
           ·subst e2; rw [if_pos rfl, he, he1, hge, hgr]
           ·rw [if_neg e2]; exact hd5 b (by omega)
         ·obtain rfl : z = x := by omega
          repeat (first | (refine aK ?_) | (refine bF ?_; apply bQ; exact fA; exact rfl; exact aB; exact AtsZ.app (AtsZ.r fD); exact rfl; exact rfl))
          repeat (refine aK ?_)
          refine aG (R - (i + 1)) _ _ _ (by first | omega | (simp only [List.length_append, List.length_cons, List.length_nil]; omega)) aQ aF aD (⟨i + 1, rows5, by omega, rfl, hs5, fun t ht h => ?_, fun t b ht hne hb => ?_, rfl, rfl, rfl⟩)
          ·rw [hk5 t ht (by omega)]; exact hk4 t ht (by omega)
          ·by_cases e : t = i
           ·subst e; rw [hd5 b hb, hf2]
           ·rw [hk5 t (by omega) e]; exact hd4 t b (by omega) hne hb
      ·obtain rfl : i = R := by omega
       have e1 : recs eZ (zs pv) ++ recs eZ [(j : Int)] = recs eZ (zs (pv ++ [j])) := by rw [← oJ]; exact congrArg (recs eZ) (List.map_append (f := fun (x : Nat) => (x : Int)) (l₁ := pv) (l₂ := [j])).symm
       have hst := aFT (A := E) (R := i) (C := x) (r := r) (j := j) (x := y) hdE hrR hyR hjC (fun b hb => hRd.zero y b (by omega) hyR hb)
       have hPw : Pw rows4 i x (at2 (sP E r j y)) := fun t b ht hb => by
        rw [hst t b ht hb]
        simp only [elm, htr]
        have h3 := hd3 b hb
        have h2r := hp2 r b hrR hb
        rw [htr] at h2r
        by_cases e : t = r
        ·rw [if_pos e, e, hk4 r hrR (.inr rfl), h3, h2r, hpq]; grind
        ·rw [if_neg e, hd4 t b ht e hb, hp2 t b ht hb, hp2 t j ht hjC, h3, h2r, hpq]; grind
       repeat (first | (refine aK ?_) | (refine bF ?_; apply bQ; exact fA; exact rfl; exact aB; exact AtsZ.app (AtsZ.r fD); exact rfl; exact rfl))
       repeat (refine aK ?_)
       (refine aP (cs := recs eZ [(j : Int)]) ([.int .i64 (j : Int)]) rfl rfl (by intro v hv; repeat (first | exact absurd hv (List.not_mem_nil) | (rcases List.mem_cons.1 hv with rfl | hv; · rfl))) (by omega) rfl rfl rfl ?_; intro b3; refine ⟨okF, ?_⟩)
       refine aHO (len := 1) (news := recs eZ [(j : Int)]) 1 rfl rfl rfl (Src.blk aB) (by decide) rfl (xD (enc := eZ) [(j : Int)]) (by omega) (by omega) rfl rfl ?_
       intro a2 c3
       refine ⟨okF, ?_⟩
       rw [e1]
       repeat (first | (refine aK ?_) | (refine bF ?_; apply bQ; exact fA; exact rfl; exact aB; exact AtsZ.app (AtsZ.r fD); exact rfl; exact rfl))
       repeat (refine aK ?_)
       refine iW (φ := jP rows4 (kb k0 (j + 1))) (Hv.monoS (k := 4 * kj + 1) aB (by omega)) ?_
       refine aG (x - (j + 1)) _ _ _ (by first | omega | (simp only [List.length_append, List.length_cons, List.length_nil]; omega)) aQ aF aD (⟨j + 1, r + 1, rows4, sP E r j y, pv ++ [j], a2, c3, by omega, rfl, by simp [hr], ?_, by omega, by omega, hs4, hPw, rfl, rfl, rfl⟩)
       have := aOR (x := y) hred hEl (by omega) hyR (fun t h1 h2 => hz t (by omega) h2) hn
       rwa [hr] at this)
  ·obtain rfl : r = R := by omega
   have hfull : mE a.q C = (E, pv) := by
    have := aDB hred hEl hr (C - j)
    rwa [show j + (C - j) = C by omega] at this
   repeat (first | (refine aK ?_) | (refine bF ?_; apply bQ; exact fA; exact rfl; exact aB; exact AtsZ.app (AtsZ.r fD); exact rfl; exact rfl))
   repeat (refine aK ?_)
   refine iW (φ := jP rows (kb k0 C)) (Hv.monoS (k := kb k0 j) aB (iO k0 hj)) ?_
   refine iD [2, 3] (by first | exact .inl rfl | exact .inr rfl) rfl rfl rfl _ _ aF aD (⟨bo, co, tlo, rows, E, pv, q, c, by rw [hr], hco, hs, hfull, hp, by rw [hr], rfl⟩)
 ·obtain rfl : j = C := by omega
  repeat (first | (refine aK ?_) | (refine bF ?_; apply bQ; exact fA; exact rfl; exact aB; exact AtsZ.app (AtsZ.r fD); exact rfl; exact rfl))
  repeat (refine aK ?_)
  refine iD [2, 3] (by first | exact .inl rfl | exact .inr rfl) rfl rfl rfl _ _ aF aD (⟨bo, co, tlo, rows, E, pv, q, c, by rw [hr], hco, hs, hred, hp, by rw [hr], rfl⟩)
theorem aTO {a : MX} {R C k0 : Nat} (hb : kb k0 C ≤ 20000000000) (hR : 1 ≤ R ∧ R ≤ 100) (hC : 1 ≤ C ∧ C ≤ 100) (da : a.dim R C) (ha : jC a k0 ∈ I0) : CD Tryz.prog 52 [mv a] X w0 M0 I0 (rEchP a.q R C (kb k0 C) M0 I0) := by
 refine CD.post (aPO hb hR hC da ha) (fun v M I w h hw => ?_)
 obtain ⟨bo, co, tlo, rows, E, pv, q, c, rfl, hco, hs, hred, hp, rfl, rfl⟩ := h
 obtain ⟨hdE, _⟩ := kT (oV da) C (Nat.le_refl _)
 rw [hred] at hdE
 obtain ⟨hq, hd⟩ := q_xs (bo := bo) (co := co) hs hp
 have h1 : Mem X w0 (.blk bo (recs eS rows ++ tlo) 48 :: (rows.map kD ++ M0)) (pvI q pv :: jP rows (kb k0 C) :: I0) w := hw.freezeR .here
 have h2 := aOL (co := co) (k := kb k0 C) h1 (fun r hr => by have := hs.col r hr; omega) (by have := hs.len; omega) (List.Mem.tail _ (List.Mem.head _))
 refine ⟨M0, pvI q pv :: jC (MS.x bo co rows) (kb k0 C) :: I0, ⟨rfl, MS.x bo co rows, pv, q, c, ?_, by rw [hq, ← aGD hdE]; exact hred, hd, rfl⟩, h2.inc (.of fun φ hφ => ?_)⟩
 ·have e1 := hd.1
  show _ = Value.tuple #[.slice (MS.x bo co rows).p (MS.x bo co rows).rows.length (MS.x bo co rows).c, _]
  rw [e1]; rfl
 ·rcases List.mem_cons.1 hφ with rfl | hφ
  ·exact List.Mem.tail _ (List.Mem.head _)
  ·rcases List.mem_cons.1 hφ with rfl | hφ
   ·exact List.Mem.head _
   ·exact List.Mem.tail _ (List.Mem.tail _ (List.Mem.tail _ hφ))
theorem aOS {a : MX} {R C k0 : Nat} (hb : kb k0 C ≤ 20000000000) (hR : 1 ≤ R ∧ R ≤ 100) (hC : 1 ≤ C ∧ C ≤ 100) (da : a.dim R C) (ha : jC a k0 ∈ I0) : CD Tryz.prog 22 [mv a] X w0 M0 I0 (fun v M I => M0 = M ∧ I0 = I ∧ v = .int .i64 ((rk a.q C : Nat) : Int)) := by
 have hE := fun M0 I0 h => aTO (X := X) (w0 := w0) (M0 := M0) (I0 := I0) (a := a) (k0 := k0) hb hR hC da h
 refine bC Tryz.func22 rfl Tryz.ntmps22 rfl ?_
 repeat (refine aK ?_)
 (refine aA rfl (hE _ _ aB) rfl rfl ?_; rintro _ _ _ ⟨rfl, m, pv, q, c, rfl, hm, hd, rfl⟩; refine ⟨okF, ?_⟩)
 repeat (refine aK ?_)
 refine aH (by first | exact .inl rfl | exact .inr rfl) rfl rfl _ _ aF aD (⟨rfl, rfl, by unfold rk; rw [hm]⟩)
end
end Go.Proofs.YtkccjglmnhgabaaGreatDoor

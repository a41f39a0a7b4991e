/- The document's Echelon, Rank. Controlled observations, plain: Fredholm's alternative, rows left out, the rank of the transposed matrix, weights, certificates. Chapter 29, plain: the law's way to solve the equations gives the same maps. -/
import Derived.Test.YtjbhdfpjnjedhaaGreatZobd
import Derived.Test.YtjbhdfpjnjedhaaGreatZobh
import Derived.Test.YtjbhdfpjnjedhaaGreatZoan
import Derived.Test.YtjbhdfpjnjedhaaGreatZobj
set_option linter.unusedSimpArgs false
set_option linter.unusedVariables false
set_option maxRecDepth 100000
set_option maxHeartbeats 4000000
namespace Go.Proofs.YtjbhdfpjnjedhaaGreat
open Go Go.Fx
theorem aSC {A : Mt} {R r j x : Nat} (hl : A.length = R) (hr : r ≤ x) (hx : x < R) (hz : ∀ i, r ≤ i → i < x → at2 A i j = 0) (hn : at2 A x j ≠ 0) : lV A j (R - r) r = x := by
 obtain ⟨f1, f2, f3⟩ := wU (A := A) (j := j) (R - r) r (by omega)
 have f4 := vX (A := A) (j := j) (R - r) r (by omega)
 generalize lV A j (R - r) r = y at *
 rcases Nat.lt_trichotomy y x with h | h | h
 ·exact absurd (hz y f1 h) (f3 (by omega))
 ·exact h
 ·exact absurd (f4 x hr h) hn
theorem aOV {A : Mt} {R r j : Nat} (hl : A.length = R) (hr : r ≤ R) (hz : ∀ i, r ≤ i → i < R → at2 A i j = 0) : lV A j (R - r) r = R := by
 obtain ⟨f1, f2, f3⟩ := wU (A := A) (j := j) (R - r) r (by omega)
 generalize lV A j (R - r) r = y at *
 rcases Nat.lt_or_ge y R with h | h
 ·exact absurd (hz y f1 h) (f3 (by omega))
 ·omega
theorem aPA {A E : Mt} {pv : List Nat} {R j x : Nat} (h : mK A j = (E, pv)) (hl : E.length = R) (hr : pv.length ≤ x) (hx : x < R) (hz : ∀ i, pv.length ≤ i → i < x → at2 E i j = 0) (hn : at2 E x j ≠ 0) : mK A (j + 1) = (tQ E pv.length j x, pv ++ [j]) := by
 rw [qX, h]
 unfold aKH
 simp only
 rw [hl, aSC hl hr hx hz hn, if_pos hx]
theorem aME {A E : Mt} {pv : List Nat} {R j : Nat} (h : mK A j = (E, pv)) (hl : E.length = R) (hr : pv.length ≤ R) (hz : ∀ i, pv.length ≤ i → i < R → at2 E i j = 0) : mK A (j + 1) = (E, pv) := by
 rw [qX, h]
 unfold aKH
 simp only
 rw [hl, aOV hl hr hz, if_neg (by omega)]
theorem yM {A E : Mt} {pv : List Nat} {R j : Nat} (h : mK A j = (E, pv)) (hl : E.length = R) (hr : pv.length = R) : ∀ d, mK A (j + d) = (E, pv)
 | 0 => h
 | d + 1 => by
  have := yM h hl hr d
  rw [← Nat.add_assoc]
  exact aME this hl (by omega) (fun i h1 h2 => by omega)
theorem aPB {E : Mt} {R C : Nat} (h : qO E R C) : E = uK R C (at2 E) := by
 apply List.ext_getElem
 ·simp [uK, h.1]
 ·intro i h1 h2
  have hi : i < R := by rw [← h.1]; exact h1
  have hrow : rowAt E i = E[i] := by simp [rowAt, List.getD, h1]
  have hc := h.2 i hi
  rw [hrow] at hc
  apply List.ext_getElem
  ·simp [uK, hc]
  ·intro j h3 h4
   simp only [uK, List.getElem_map, List.getElem_range]
   unfold at2
   rw [hrow]
   simp [List.getD, h3]
theorem aKC {α : Type} [Inhabited α] {rows : List α} {r k : Nat} (hr : r < rows.length) (hk : k < rows.length) : (st (st rows (r : Int) (gt rows (k : Int))) (k : Int) (gt rows (r : Int))).Perm rows := by
 unfold st
 simp only [Int.toNat_natCast]
 by_cases h : r = k
 ·subst h
  rw [fC hr, List.set_getElem_self, List.set_getElem_self]
 ·have hr' : r < ((rows.set r (gt rows (k : Int))).set k (gt rows (r : Int))).length := by simpa using hr
  have hk' : k < ((rows.set r (gt rows (k : Int))).set k (gt rows (r : Int))).length := by simpa using hk
  have h1 := oI _ r k hr' hk' h
  have h2 := oI rows r k hr hk h
  have e : kH ((rows.set r (gt rows (k : Int))).set k (gt rows (r : Int))) r k = kH rows r k := by
   have h3 := pM (rows.set r (gt rows (k : Int))) k r (gt rows (r : Int)) (Ne.symm h)
   have h4 := pM rows r k (gt rows (k : Int)) h
   have c : ∀ l : List α, kH l k r = kH l r k := fun l => by unfold kH; rw [Nat.max_comm, Nat.min_comm]
   rw [c, c, h4] at h3
   exact h3
  rw [e] at h1
  have g1 : ((rows.set r (gt rows (k : Int))).set k (gt rows (r : Int)))[r]'hr' = rows[k] := by
   rw [List.getElem_set_ne (Ne.symm h), List.getElem_set_self, fC hk]
  have g2 : ((rows.set r (gt rows (k : Int))).set k (gt rows (r : Int)))[k]'hk' = rows[r] := by
   rw [List.getElem_set_self, fC hr]
  rw [g1, g2] at h1
  exact (h1.trans (List.Perm.swap _ _ _)).trans h2.symm
theorem aPG {α : Type} [Inhabited α] {rows : List α} {r k t : Nat} (hr : r < rows.length) (hk : k < rows.length) : gt (st (st rows (r : Int) (gt rows (k : Int))) (k : Int) (gt rows (r : Int))) (t : Int) = gt rows ((tr r k t : Nat) : Int) := by
 rw [aHG _ (by rw [eU]; omega) (by omega), aHG _ (by omega) (by omega)]
 simp only [tr]
 by_cases e1 : t = k
 ·subst e1
  rw [if_pos rfl]
  by_cases e2 : t = r
  ·rw [if_pos e2, e2]
  ·rw [if_neg e2, if_pos rfl]
 ·rw [if_neg (by omega)]
  by_cases e2 : t = r
  ·rw [if_pos (by omega), if_pos e2]
  ·rw [if_neg (by omega), if_neg e2, if_neg e1]
theorem Hv.elS {I : List aY} {rows : List MS} {i j : Int} {k m : Nat} (h : iG rows k ∈ I) (hi : 0 ≤ i ∧ i < rows.length) (hj : 0 ≤ j ∧ j < (gt rows i).es.length) (hk : k ≤ m) : Hv I (dD (gt (gt rows i).es j) m) :=
 ⟨fun X w hw => ((hw _ h : AllS rows k X w).go _ (bS hi) _ (bS hj)).mono hk⟩
theorem Hv.permS {I : List aY} {rows rows' : List MS} {k : Nat} (h : iG rows k ∈ I) (hp : rows'.Perm rows) : Hv I (iG rows' k) := ⟨fun X w hw => ⟨fun r hr => (hw _ h : AllS rows k X w).go r (hp.mem_iff.1 hr)⟩⟩
theorem aMM {rows : List MS} {i : Nat} {M1 : List Ent} (h : i < rows.length) : iU (gt rows (i : Int)) ∈ rows.map iU ++ M1 := List.mem_append_left _ (List.mem_map.2 ⟨_, bS (by omega), rfl⟩)
theorem aVR {M1 : List Ent} {r' : MS} {rows : List MS} {i : Nat} (h : i < rows.length) {A B C : Ent} : Rep (iU (gt rows (i : Int))) (iU r') (A :: B :: C :: (rows.map iU ++ M1)) (A :: B :: C :: ((rows.set i r').map iU ++ M1)) := .there (aWA h)
theorem aEA {rows : List MS} {R C i j t : Nat} {e : RE} (h : Shp rows R C) (hi : i < R) (ht : t < R) (hne : t ≠ i) : gt (upS rows i j e) (t : Int) = gt rows (t : Int) := by rw [aJH h hi ht, if_neg hne]
theorem uU {rows : List MS} {R C i j c : Nat} {e : RE} (h : Shp rows R C) (hi : i < R) (hj : j < C) : gt (gt (upS rows i j e) (i : Int)).es (c : Int) = if c = j then e else gt (gt rows (i : Int)).es (c : Int) := by
 rw [aJH h hi hi, if_pos rfl]
 show gt (st (gt rows (i : Int)).es (j : Int) e) (c : Int) = _
 rw [wC (by rw [h.row hi]; exact hj)]
def rEchO (A : Mt) (R C k : Nat) (M0 : List Ent) (I0 : List aY) (v : Value) (M : List Ent) (I : List aY) : Prop :=
 ∃ (bo co : Nat) (tlo : List Value) (rows : List MS) (E : Mt) (pv : List Nat) (q : Option Addr) (c : Nat), v = .tuple #[.slice (some ⟨bo, 0, none⟩) R co, .slice q pv.length c] ∧ R ≤ co ∧ Shp rows R C ∧ mK A C = (E, pv) ∧ Pw rows R C (at2 E) ∧
  M = .row q pv.length c (recs eZ (zs pv)) 3 1 :: .blk bo (recs eS rows ++ tlo) 53 :: (rows.map iU ++ M0) ∧ I = iG rows k :: I0
def rEchP (A : Mt) (R C k : Nat) (M0 : List Ent) (I0 : List aY) (v : Value) (M : List Ent) (I : List aY) : Prop :=
 M0 = M ∧ ∃ (m : MX) (pv : List Nat) (q : Option Addr) (c : Nat), v = .tuple #[mv m, .slice q pv.length c] ∧ mK A C = (m.q, pv) ∧ m.dim R C ∧ I = pvI q pv :: iT m k :: I0
section
variable {X : List Nat} {w0 : World} {M0 : List Ent} {I0 : List aY}
theorem aQT {a : MX} {R C k0 : Nat} (hb : kb k0 C ≤ 20000000000) (hR : 1 ≤ R ∧ R ≤ 100) (hC : 1 ≤ C ∧ C ≤ 100) (da : a.dim R C) (ha : iT a k0 ∈ I0) : CD Tryz.prog 95 [mv a] X w0 M0 I0 (rEchO a.q R C (kb k0 C) M0 I0) := by
 have lR := da.1
 have lC : (gt a.rows 0).es.length = C := da.row (i := 0) (by omega)
 have hdim := aKP da
 have hCo := fun M0 I0 h => aPU (X := X) (w0 := w0) (M0 := M0) (I0 := I0) (a := a) (k0 := k0) hR hC da h
 refine bT (φ := aM (a).p (recs eL (a).rows)) (Hv.xsl aB) ?_
 refine aZ Tryz.func95 rfl Tryz.ntmps95 rfl ?_
 repeat (first | (refine aI ?_) | (refine bH ?_; apply cZ; exact fJ; exact rfl; exact aB; exact AtsZ.app (AtsZ.r fQ); exact rfl; exact rfl))
 repeat (refine aI ?_)
 (refine aA rfl (hCo _ _ aB) rfl rfl ?_; rintro _ _ _ ⟨bo, co, tlo, rows0, rfl, hco, hs0, hp0, rfl, rfl⟩; refine ⟨okF, ?_⟩)
 clear hCo
 repeat (first | (refine aI ?_) | (refine bH ?_; apply cZ; exact fJ; exact rfl; exact aB; exact AtsZ.app (AtsZ.r fQ); exact rfl; exact rfl))
 repeat (refine aI ?_)
 (refine aN (cs := recs eZ []) ([]) rfl rfl (by intro v hv; repeat (first | exact absurd hv (List.not_mem_nil) | (rcases List.mem_cons.1 hv with rfl | hv; · rfl))) (by omega) rfl rfl rfl ?_; intro bp; refine ⟨okF, ?_⟩; refine gJ (mm := 0) 1 .here rfl (by omega) ?_)
 repeat (first | (refine aI ?_) | (refine bH ?_; apply cZ; exact fJ; exact rfl; exact aB; exact AtsZ.app (AtsZ.r fQ); exact rfl; exact rfl))
 repeat (refine aI ?_)
 refine aP [0, 4] rfl (fun k G M I => ∃ (j r : Nat) (rows : List MS) (E : Mt) (pv : List Nat) (q : Option Addr) (c : Nat), j ≤ C ∧ k = C - j ∧ pv.length = r ∧ mK a.q j = (E, pv) ∧ r ≤ R ∧ r ≤ j ∧ Shp rows R C ∧ Pw rows R C (at2 E) ∧ G = [(5, .slice q r c), (6, .int .i64 j)] ∧ M = .row q r c (recs eZ (zs pv)) 3 1 :: .blk bo (recs eS rows ++ tlo) 53 :: (rows.map iU ++ M0) ∧ I = iG rows (kb k0 j) :: aM a.p (recs eL a.rows) :: I0) (C) _ _ _ aO aD aC (⟨0, 0, rows0, a.q, [], _, _, by omega, rfl, rfl, rfl, by omega, by omega, hs0, hp0, rfl, rfl, rfl⟩) ?_
 rintro kk G M I ⟨j, r, rows, E, pv, q, c, hj, rfl, hr, hred, hpR, hpj, hs, hp, rfl, rfl, rfl⟩
 obtain ⟨hdE, s, hRd⟩ := lL hdim j hj
 rw [hred] at hdE hRd
 simp only at hdE hRd
 have hEl := hdE.1
 have hlen := hs.len
 have hzl : (zs pv).length = r := by simp [hr]
 by_cases hjC : j < C
 ·by_cases hrR : r < R
  ·have hkj : kb k0 (j + 1) ≤ 20000000000 := Nat.le_trans (sV k0 (by omega)) hb
   have hkj1 : kb k0 (j + 1) = 4 * kb k0 j + 1 := rfl
   obtain ⟨kj, hkj0⟩ : ∃ x, kb k0 j = x := ⟨_, rfl⟩
   rw [hkj0] at hkj1 ⊢
   repeat (first | (refine aI ?_) | (refine bH ?_; apply cZ; exact fJ; exact rfl; exact aB; exact AtsZ.app (AtsZ.r fQ); exact rfl; exact rfl))
   repeat (refine aI ?_)
   refine aP [0, 4, 5, 6, 7] rfl (fun k G M I => ∃ (x : Nat) (a1 : Int), r ≤ x ∧ x ≤ R ∧ k = R - x ∧ ((a1 = -1 ∧ ∀ i : Nat, r ≤ i → i < x → at2 E i j = 0) ∨ (a1 + 1 = x ∧ r < x ∧ at2 E (x - 1) j ≠ 0 ∧ ∀ i : Nat, r ≤ i → i < x - 1 → at2 E i j = 0)) ∧ G = [(8, .int .i64 a1), (9, .int .i64 x)] ∧ M = .row q r c (recs eZ (zs pv)) 3 1 :: .blk bo (recs eS rows ++ tlo) 53 :: (rows.map iU ++ M0) ∧ I = iG rows kj :: aM a.p (recs eL a.rows) :: I0) (R - r) _ _ _ aO aD aC (⟨r, -1, by omega, by omega, rfl, .inl ⟨rfl, fun i h1 h2 => by omega⟩, rfl, rfl, rfl⟩) ?_
   rintro kk G M I ⟨x, a1, hrx, hxR, rfl, hcase, rfl, rfl, rfl⟩
   rcases hcase with ⟨rfl, hz⟩ | ⟨ha1, hrx2, hn, hz⟩
   ·by_cases hx : x < R
    ·have hrow := hs.row hx
     have hmx := aMM (rows := rows) (i := x) (M1 := M0) (by omega)
     have hat := hp x j hx hjC
     have hSg := fun M0 I0 h => rU (X := X) (w0 := w0) (M0 := M0) (I0 := I0) (e := gt (gt rows (x : Int)).es (j : Int)) (k := kj) (by omega) h
     refine eO (φ := dD (gt (gt rows (x : Int)).es (j : Int)) kj) (Hv.elS (k := kj) aB (by omega) (by omega) (Nat.le_refl _)) ?_
     by_cases h0 : at2 E x j = 0
     ·rw [← hat] at h0
      rw [(nH _).2 h0] at hSg
      repeat (first | (refine aI ?_) | (refine bH ?_; apply cZ; exact fJ; exact rfl; exact aB; exact AtsZ.app (AtsZ.r fQ); exact rfl; exact rfl))
      repeat (refine aI ?_)
      (refine aA rfl (hSg _ _ (Hv.mem aB)) rfl rfl ?_; rintro _ _ _ ⟨rfl, rfl, rfl⟩; refine ⟨okF, ?_⟩)
      repeat (first | (refine aI ?_) | (refine bH ?_; apply cZ; exact fJ; exact rfl; exact aB; exact AtsZ.app (AtsZ.r fQ); exact rfl; exact rfl))
      repeat (refine aI ?_)
      refine aK (R - (x + 1)) _ _ _ (by first | omega | (simp only [List.length_append, List.length_cons, List.length_nil]; omega)) aO aD aC (⟨x + 1, -1, by omega, by omega, rfl, .inl ⟨rfl, fun i h1 h2 => ?_⟩, rfl, rfl, rfl⟩)
      by_cases e : i = x
      ·subst e; rw [← hat]; exact h0
      ·exact hz i h1 (by omega)
     ·have h0' := h0
      rw [← hat] at h0'
      have hs1 : ¬ (gt (gt rows (x : Int)).es (j : Int)).q.num.sign = 0 := fun h => h0' ((nH _).1 h)
      generalize (gt (gt rows (x : Int)).es (j : Int)).q.num.sign = sg1 at *
      repeat (first | (refine aI ?_) | (refine bH ?_; apply cZ; exact fJ; exact rfl; exact aB; exact AtsZ.app (AtsZ.r fQ); exact rfl; exact rfl))
      repeat (refine aI ?_)
      (refine aA rfl (hSg _ _ (Hv.mem aB)) rfl rfl ?_; rintro _ _ _ ⟨rfl, rfl, rfl⟩; refine ⟨okF, ?_⟩)
      repeat (first | (refine aI ?_) | (refine bH ?_; apply cZ; exact fJ; exact rfl; exact aB; exact AtsZ.app (AtsZ.r fQ); exact rfl; exact rfl))
      repeat (refine aI ?_)
      refine aK (R - (x + 1)) _ _ _ (by first | omega | (simp only [List.length_append, List.length_cons, List.length_nil]; omega)) aO aD aC (⟨x + 1, (x : Int), by omega, by omega, rfl, .inr ⟨by omega, by omega, by rw [Nat.add_sub_cancel]; exact h0, fun i h1 h2 => hz i h1 (by omega)⟩, rfl, rfl, rfl⟩)
    ·obtain rfl : x = R := by omega
     repeat (first | (refine aI ?_) | (refine bH ?_; apply cZ; exact fJ; exact rfl; exact aB; exact AtsZ.app (AtsZ.r fQ); exact rfl; exact rfl))
     repeat (refine aI ?_)
     refine fD (φ := iG rows (kb k0 (j + 1))) (Hv.monoS (k := kj) aB (by omega)) ?_
     refine aK (C - (j + 1)) _ _ _ (by first | omega | (simp only [List.length_append, List.length_cons, List.length_nil]; omega)) aO aD aC (⟨j + 1, r, rows, E, pv, q, c, by omega, rfl, hr, aME hred hEl (by omega) (fun i h1 h2 => hz i (by omega) h2), hpR, by omega, hs, hp, rfl, rfl, rfl⟩)
   ·obtain ⟨y, rfl⟩ : ∃ y, x = y + 1 := ⟨x - 1, by omega⟩
    rw [Nat.add_sub_cancel] at hn hz
    obtain rfl : a1 = (y : Int) := by omega
    have hyR : y < R := by omega
    rcases Nat.lt_or_ge (y + 1) R with hy1 | hy1 <;> (
     repeat (first | (refine aI ?_) | (refine bH ?_; apply cZ; exact fJ; exact rfl; exact aB; exact AtsZ.app (AtsZ.r fQ); exact rfl; exact rfl))
     repeat (refine aI ?_)
     (repeat refine aH ?_); refine bA 0 [0, 1, 2, 3, 4, 5, 6, 7, 8, 9, 10, 11, 12, 13, 14, 15] [0, 0, 1, 1, 0, 0, 0, 0, 1, 1, 1, 0, 0, 0, 0, 0] mixed (by kernel_rfl) ?_
     repeat (refine yXh ?_)
     refine kI rfl rfl rfl kZ (StAt.app (StAt.r1 (gt rows (y : Int)) (by omega) rfl)) rfl rfl ⟨okF, ?_⟩
     repeat (refine yXh ?_)
     refine kI rfl rfl rfl kZ (StAt.app (StAt.r1 (gt rows (r : Int)) (by rw [eU]; omega) rfl)) rfl rfl ⟨okF, ?_⟩
     obtain ⟨rows2, hrows2⟩ : ∃ rows2, rows2 = st (st rows (r : Int) (gt rows (y : Int))) (y : Int) (gt rows (r : Int)) := ⟨_, rfl⟩
     have hsp := aKC (rows := rows) (r := r) (k := y) (by omega) (by omega)
     have hgs : ∀ t : Nat, gt rows2 (t : Int) = gt rows ((tr r y t : Nat) : Int) := fun t => by rw [hrows2]; exact aPG (by omega) (by omega)
     rw [← hrows2] at hsp ⊢
     have hs2 : Shp rows2 R C := ⟨by rw [hsp.length_eq]; exact hlen, fun r hr => hs.col r (hsp.mem_iff.1 hr)⟩
     have hp2 : ∀ t b : Nat, t < R → b < C → (gt (gt rows2 (t : Int)).es (b : Int)).q = at2 E (tr r y t) b := fun t b ht hb => by rw [hgs]; exact hp _ b (xM hrR hyR ht) hb
     clear hrows2
     refine wX (M' := .row q r c (recs eZ (zs pv)) 3 1 :: .blk bo (recs eS rows2 ++ tlo) 53 :: (rows2.map iU ++ M0)) (List.Perm.cons _ (List.Perm.cons _ ((hsp.symm.map iU).append_right M0))) ?_
     refine dS (φ := iG rows2 kj) (Hv.permS (k := kj) aB hsp) ?_
     have hlen2 := hs2.len
     have hrow2 := hs2.row hrR
     have hmr := aMM (rows := rows2) (i := r) (M1 := M0) (by omega)
     have htr : tr r y r = y := by simp [tr]
     have hpq := hp2 r j hrR hjC
     rw [htr] at hpq
     obtain ⟨p, hpp⟩ : ∃ p, gt (gt rows2 (r : Int)).es (j : Int) = p := ⟨_, rfl⟩
     repeat (first | (refine aI ?_) | (refine bH ?_; apply cZ; exact fJ; exact rfl; exact aB; exact AtsZ.app (AtsZ.r fQ); exact rfl; exact rfl))
     repeat (refine aI ?_)
     (refine aJ rfl rfl ?_; intro b10; refine ⟨okF, ?_⟩)
     repeat (first | (refine aI ?_) | (refine bH ?_; apply cZ; exact fJ; exact rfl; exact aB; exact AtsZ.app (AtsZ.r fQ); exact rfl; exact rfl))
     repeat (refine aI ?_)
     refine eO (φ := dD (gt (gt rows2 (r : Int)).es (j : Int)) kj) (Hv.elS (k := kj) aB (by omega) (by omega) (Nat.le_refl _)) ?_
     rw [hpp] at hpq ⊢
     have hp0 : p.q ≠ 0 := by rw [hpq]; exact hn
     refine eO (φ := iG rows2 (kj + kj)) (Hv.monoS (k := kj) aB (by omega)) ?_
     clear hmr
     refine wD (M' := .blk b10 (eR p) 50 :: .row q r c (recs eZ (zs pv)) 3 1 :: .blk bo (recs eS rows2 ++ tlo) 53 :: (rows2.map iU ++ M0)) (I' := iG rows2 (kj + kj) :: dD p kj :: iG rows2 kj :: aM a.p (recs eL a.rows) :: I0) SubP.refl aC ?_
     refine aP [0, 4, 5, 6, 7, 10] rfl (fun k G M I => ∃ (x : Nat) (rows3 : List MS), x ≤ C ∧ k = C - x ∧ Shp rows3 R C ∧ (∀ t : Nat, t < R → t ≠ r → gt rows3 (t : Int) = gt rows2 (t : Int)) ∧ (∀ b : Nat, x ≤ b → gt (gt rows3 (r : Int)).es (b : Int) = gt (gt rows2 (r : Int)).es (b : Int)) ∧ (∀ b : Nat, b < x → (gt (gt rows3 (r : Int)).es (b : Int)).q = (gt (gt rows2 (r : Int)).es (b : Int)).q / p.q) ∧ G = [(11, .int .i64 x)] ∧ M = .blk b10 (eR p) 50 :: .row q r c (recs eZ (zs pv)) 3 1 :: .blk bo (recs eS rows3 ++ tlo) 53 :: (rows3.map iU ++ M0) ∧ I = iG rows3 (kj + kj) :: dD p kj :: iG rows2 kj :: aM a.p (recs eL a.rows) :: I0) (C) _ _ _ aO aD aC (⟨0, rows2, by omega, rfl, hs2, fun _ _ _ => rfl, fun _ _ => rfl, fun b hb => by omega, rfl, rfl, rfl⟩) ?_
     rintro kk G M I ⟨x, rows3, hx, rfl, hs3, hk3, hk3r, hd3, rfl, rfl, rfl⟩
     have hlen3 := hs3.len
     have hrow3 := hs3.row hrR
     by_cases hxC : x < C
     ·have hmr := aMM (rows := rows3) (i := r) (M1 := M0) (by omega)
      have hge := hk3r x (Nat.le_refl _)
      have hve : ∀ I, iG rows2 kj ∈ I → Hv I (dD (gt (gt rows3 (r : Int)).es (x : Int)) kj) := fun I h => by rw [hge]; exact Hv.elS h (by omega) (by omega) (Nat.le_refl _)
      repeat (first | (refine aI ?_) | (refine bH ?_; apply cZ; exact fJ; exact rfl; exact aB; exact AtsZ.app (AtsZ.r fQ); exact rfl; exact rfl))
      repeat (refine aI ?_)
      (repeat refine aH ?_); refine bA 1 [0, 1, 2, 3, 4, 5, 6, 7, 8, 9, 10, 11, 12, 13, 14, 15, 16, 17, 18] [1, 1, 1, 1, 1, 1, 1, 1, 1, 1, 1, 0, 0, 0, 0, 0, 1, 0, 0] mixed (by kernel_rfl) ?_
      repeat (first | (refine aI ?_) | (refine bH ?_; apply cZ; exact fJ; exact rfl; exact aB; exact AtsZ.app (AtsZ.r fQ); exact rfl; exact rfl))
      repeat (refine aI ?_)
      (refine aA rfl (aHZ (k := kj) (m := kj) (by omega) hp0 (hve _ aB) (Hv.mem aB)) rfl rfl ?_; rintro _ _ _ ⟨rfl, e, rfl, he, rfl⟩; refine ⟨okF, ?_⟩)
      repeat (refine yXh ?_)
      refine gG (vs := eR e) rfl rfl rfl (Ones.one e) (aVR (rows := rows3) (i := r) (r' := upR (gt rows3 (r : Int)) x e) (by omega)) (StAts.app (StAts.r (enc := eR) (ms := (gt rows3 (r : Int)).es) (i := (x : Int)) e (by omega) rfl)) rfl rfl ⟨okF, ?_⟩
      rw [aAD]
      refine dS (φ := iG (upS rows3 r x e) (kj + kj)) (Hv.upS hs3 hrR aB aB) ?_
      rw [← xQ (i := r) (j := x) (e := e) hs3 hrR]
      repeat (first | (refine aI ?_) | (refine bH ?_; apply cZ; exact fJ; exact rfl; exact aB; exact AtsZ.app (AtsZ.r fQ); exact rfl; exact rfl))
      repeat (refine aI ?_)
      refine aK (C - (x + 1)) _ _ _ (by first | omega | (simp only [List.length_append, List.length_cons, List.length_nil]; omega)) aO aD aC (⟨x + 1, upS rows3 r x e, by omega, rfl, hs3.up hrR, fun t ht hne => ?_, fun b hb => ?_, fun b hb => ?_, rfl, rfl, rfl⟩)
      ·rw [aEA hs3 hrR ht hne]; exact hk3 t ht hne
      ·rw [uU hs3 hrR hxC, if_neg (by omega)]; exact hk3r b (by omega)
      ·rw [uU hs3 hrR hxC]
       by_cases e1 : b = x
       ·subst e1; rw [if_pos rfl, he, hge]
       ·rw [if_neg e1]; exact hd3 b (by omega)
     ·obtain rfl : x = C := by omega
      repeat (first | (refine aI ?_) | (refine bH ?_; apply cZ; exact fJ; exact rfl; exact aB; exact AtsZ.app (AtsZ.r fQ); exact rfl; exact rfl))
      repeat (refine aI ?_)
      refine eO (φ := iG rows3 (4 * kj + 1)) (Hv.monoS (k := kj + kj) aB (by omega)) ?_
      refine wD (M' := .row q r c (recs eZ (zs pv)) 3 1 :: .blk bo (recs eS rows3 ++ tlo) 53 :: (rows3.map iU ++ M0)) (I' := iG rows3 (4 * kj + 1) :: iG rows3 (kj + kj) :: iG rows2 kj :: aM a.p (recs eL a.rows) :: I0) (SubP.drop SubP.refl) aC ?_
      refine aP [0, 4, 5, 6, 7] rfl (fun k G M I => ∃ (i : Nat) (rows4 : List MS), i ≤ R ∧ k = R - i ∧ Shp rows4 R x ∧ (∀ t : Nat, t < R → (i ≤ t ∨ t = r) → gt rows4 (t : Int) = gt rows3 (t : Int)) ∧ (∀ t b : Nat, t < i → t ≠ r → b < x → (gt (gt rows4 (t : Int)).es (b : Int)).q = (gt (gt rows2 (t : Int)).es (b : Int)).q - (gt (gt rows2 (t : Int)).es (j : Int)).q * (gt (gt rows3 (r : Int)).es (b : Int)).q) ∧ G = [(12, .int .i64 i)] ∧ M = .row q r c (recs eZ (zs pv)) 3 1 :: .blk bo (recs eS rows4 ++ tlo) 53 :: (rows4.map iU ++ M0) ∧ I = iG rows4 (4 * kj + 1) :: iG rows3 (kj + kj) :: iG rows2 kj :: aM a.p (recs eL a.rows) :: I0) (R) _ _ _ aO aD aC (⟨0, rows3, by omega, rfl, hs3, fun _ _ _ => rfl, fun t b ht => by omega, rfl, rfl, rfl⟩) ?_
      rintro kk G M I ⟨i, rows4, hi, rfl, hs4, hk4, hd4, rfl, rfl, rfl⟩
      have hlen4 := hs4.len
      by_cases hiR : i < R
      ·have hrow4 := hs4.row hiR
       have hmi := aMM (rows := rows4) (i := i) (M1 := M0) (by omega)
       have hg4 := hk4 i hiR (.inl (Nat.le_refl _))
       by_cases hir : i = r
       ·repeat (first | (refine aI ?_) | (refine bH ?_; apply cZ; exact fJ; exact rfl; exact aB; exact AtsZ.app (AtsZ.r fQ); exact rfl; exact rfl))
        repeat (refine aI ?_)
        (refine aJ rfl rfl ?_; intro b13; refine ⟨okF, ?_⟩)
        repeat (first | (refine aI ?_) | (refine bH ?_; apply cZ; exact fJ; exact rfl; exact aB; exact AtsZ.app (AtsZ.r fQ); exact rfl; exact rfl))
        repeat (refine aI ?_)
        refine aK (R - (i + 1)) _ _ _ (by first | omega | (simp only [List.length_append, List.length_cons, List.length_nil]; omega)) aO aD aC (⟨i + 1, rows4, by omega, rfl, hs4, fun t ht h => hk4 t ht (by omega), fun t b ht hne hb => hd4 t b (by omega) hne hb, rfl, rfl, rfl⟩)
       ·have hg3 := hk3 i hiR hir
        have hg2 : gt rows4 (i : Int) = gt rows2 (i : Int) := hg4.trans hg3
        have hrow2i := hs2.row hiR
        obtain ⟨f, hf⟩ : ∃ f, gt (gt rows4 (i : Int)).es (j : Int) = f := ⟨_, rfl⟩
        have hf2 : gt (gt rows2 (i : Int)).es (j : Int) = f := by rw [← hg2]; exact hf
        have hSg := fun M0 I0 h => rU (X := X) (w0 := w0) (M0 := M0) (I0 := I0) (e := f) (k := kj) (by omega) h
        by_cases h0 : f.q = 0
        ·rw [(nH _).2 h0] at hSg
         repeat (first | (refine aI ?_) | (refine bH ?_; apply cZ; exact fJ; exact rfl; exact aB; exact AtsZ.app (AtsZ.r fQ); exact rfl; exact rfl))
         repeat (refine aI ?_)
         (refine aJ rfl rfl ?_; intro b13; refine ⟨okF, ?_⟩)
         rw [hf]
         repeat (first | (refine aI ?_) | (refine bH ?_; apply cZ; exact fJ; exact rfl; exact aB; exact AtsZ.app (AtsZ.r fQ); exact rfl; exact rfl))
         repeat (refine aI ?_)
         refine dS (φ := dD f kj) (by rw [← hf2]; exact Hv.elS (k := kj) aB (by omega) (by omega) (Nat.le_refl _)) ?_
         (refine aA rfl (hSg _ _ (Hv.mem aB)) rfl rfl ?_; rintro _ _ _ ⟨rfl, rfl, rfl⟩; refine ⟨okF, ?_⟩)
         repeat (first | (refine aI ?_) | (refine bH ?_; apply cZ; exact fJ; exact rfl; exact aB; exact AtsZ.app (AtsZ.r fQ); exact rfl; exact rfl))
         repeat (refine aI ?_)
         refine aK (R - (i + 1)) _ _ _ (by first | omega | (simp only [List.length_append, List.length_cons, List.length_nil]; omega)) aO aD aC (⟨i + 1, rows4, by omega, rfl, hs4, fun t ht h => hk4 t ht (by omega), fun t b ht hne hb => ?_, rfl, rfl, rfl⟩)
         by_cases e : t = i
         ·subst e; rw [hg2, hf2, h0]; grind
         ·exact hd4 t b (by omega) hne hb
        ·have hs1 : ¬ f.q.num.sign = 0 := fun h => h0 ((nH _).1 h)
         generalize f.q.num.sign = sg1 at *
         repeat (first | (refine aI ?_) | (refine bH ?_; apply cZ; exact fJ; exact rfl; exact aB; exact AtsZ.app (AtsZ.r fQ); exact rfl; exact rfl))
         repeat (refine aI ?_)
         (refine aJ rfl rfl ?_; intro b13; refine ⟨okF, ?_⟩)
         rw [hf]
         repeat (first | (refine aI ?_) | (refine bH ?_; apply cZ; exact fJ; exact rfl; exact aB; exact AtsZ.app (AtsZ.r fQ); exact rfl; exact rfl))
         repeat (refine aI ?_)
         refine dS (φ := dD f kj) (by rw [← hf2]; exact Hv.elS (k := kj) aB (by omega) (by omega) (Nat.le_refl _)) ?_
         (refine aA rfl (hSg _ _ (Hv.mem aB)) rfl rfl ?_; rintro _ _ _ ⟨rfl, rfl, rfl⟩; refine ⟨okF, ?_⟩)
         repeat (first | (refine aI ?_) | (refine bH ?_; apply cZ; exact fJ; exact rfl; exact aB; exact AtsZ.app (AtsZ.r fQ); exact rfl; exact rfl))
         repeat (refine aI ?_)
         clear hmi
         refine aP [0, 4, 5, 6, 7, 12, 13] rfl (fun k G M I => ∃ (z : Nat) (rows5 : List MS), z ≤ x ∧ k = x - z ∧ Shp rows5 R x ∧ (∀ t : Nat, t < R → t ≠ i → gt rows5 (t : Int) = gt rows4 (t : Int)) ∧ (∀ b : Nat, z ≤ b → gt (gt rows5 (i : Int)).es (b : Int) = gt (gt rows2 (i : Int)).es (b : Int)) ∧ (∀ b : Nat, b < z → (gt (gt rows5 (i : Int)).es (b : Int)).q = (gt (gt rows2 (i : Int)).es (b : Int)).q - f.q * (gt (gt rows3 (r : Int)).es (b : Int)).q) ∧ G = [(14, .int .i64 z)] ∧ M = .blk b13 (eR f) 50 :: .row q r c (recs eZ (zs pv)) 3 1 :: .blk bo (recs eS rows5 ++ tlo) 53 :: (rows5.map iU ++ M0) ∧ I = iG rows5 (4 * kj + 1) :: dD f kj :: iG rows3 (kj + kj) :: iG rows2 kj :: aM a.p (recs eL a.rows) :: I0) (x) _ _ _ aO aD aC (⟨0, rows4, by omega, rfl, hs4, fun _ _ _ => rfl, fun b _ => by rw [hg2], fun b hb => by omega, rfl, rfl, rfl⟩) ?_
         rintro kk G M I ⟨z, rows5, hz5, rfl, hs5, hk5, hk5i, hd5, rfl, rfl, rfl⟩
         have hlen5 := hs5.len
         have hrow5 := hs5.row hiR
         by_cases hzC : z < x
         ·have hrow5r := hs5.row hrR
          have hmi := aMM (rows := rows5) (i := i) (M1 := M0) (by omega)
          have hmr := aMM (rows := rows5) (i := r) (M1 := M0) (by omega)
          have hge := hk5i z (Nat.le_refl _)
          have hgr : gt rows5 (r : Int) = gt rows3 (r : Int) := by rw [hk5 r hrR (Ne.symm hir)]; exact hk4 r hrR (.inr rfl)
          have hve : ∀ I, iG rows2 kj ∈ I → Hv I (dD (gt (gt rows5 (i : Int)).es (z : Int)) kj) := fun I h => by rw [hge]; exact Hv.elS h (by omega) (by omega) (Nat.le_refl _)
          have hvr : ∀ I, iG rows3 (kj + kj) ∈ I → Hv I (dD (gt (gt rows5 (r : Int)).es (z : Int)) (kj + kj)) := fun I h => by rw [hgr]; exact Hv.elS h (by omega) (by omega) (Nat.le_refl _)
          repeat (first | (refine aI ?_) | (refine bH ?_; apply cZ; exact fJ; exact rfl; exact aB; exact AtsZ.app (AtsZ.r fQ); exact rfl; exact rfl))
          repeat (refine aI ?_)
          (repeat refine aH ?_); refine bA 2 [0, 1, 2, 3, 4, 5, 6, 7, 8, 9, 10, 11, 12, 13, 14, 15, 16, 17, 18, 19, 20, 21, 22, 23] [2, 2, 2, 2, 2, 2, 2, 2, 2, 2, 2, 1, 1, 2, 2, 2, 2, 2, 2, 1, 0, 0, 0, 0] mixed (by kernel_rfl) ?_
          repeat (first | (refine aI ?_) | (refine bH ?_; apply cZ; exact fJ; exact rfl; exact aB; exact AtsZ.app (AtsZ.r fQ); exact rfl; exact rfl))
          repeat (refine aI ?_)
          (refine aA rfl (rZ (k := kj) (m := kj + kj) (by omega) (Hv.mem aB) (hvr _ aB)) rfl rfl ?_; rintro _ _ _ ⟨rfl, e1, rfl, he1, rfl⟩; refine ⟨okF, ?_⟩)
          (refine aA rfl (aHL (k := kj) (m := kj + (kj + kj)) (by omega) (hve _ aB) (Hv.mem aB)) rfl rfl ?_; rintro _ _ _ ⟨rfl, e, rfl, he, rfl⟩; refine ⟨okF, ?_⟩)
          repeat (refine yXh ?_)
          refine gG (vs := eR e) rfl rfl rfl (Ones.one e) (aVR (rows := rows5) (i := i) (r' := upR (gt rows5 (i : Int)) z e) (by omega)) (StAts.app (StAts.r (enc := eR) (ms := (gt rows5 (i : Int)).es) (i := (z : Int)) e (by omega) rfl)) rfl rfl ⟨okF, ?_⟩
          rw [aAD]
          refine dS (φ := dD e (4 * kj + 1)) (Hv.q (k := kj + (kj + (kj + kj)) + 1) aB (by omega)) ?_
          refine dS (φ := iG (upS rows5 i z e) (4 * kj + 1)) (Hv.upS hs5 hiR aB aB) ?_
          rw [← xQ (i := i) (j := z) (e := e) hs5 hiR]
          repeat (first | (refine aI ?_) | (refine bH ?_; apply cZ; exact fJ; exact rfl; exact aB; exact AtsZ.app (AtsZ.r fQ); exact rfl; exact rfl))
          repeat (refine aI ?_)
          refine aK (x - (z + 1)) _ _ _ (by first | omega | (simp only [List.length_append, List.length_cons, List.length_nil]; omega)) aO aD aC (⟨z + 1, upS rows5 i z e, by omega, rfl, hs5.up hiR, fun t ht hne => ?_, fun b hb => ?_, fun b hb => ?_, rfl, rfl, rfl⟩)
          ·rw [aEA hs5 hiR ht hne]; exact hk5 t ht hne
          ·rw [uU hs5 hiR hzC, if_neg (by omega)]; exact hk5i b (by omega)
          ·rw [uU hs5 hiR hzC]
           by_cases e2 : b = z
           ·subst e2; rw [if_pos rfl, he, he1, hge, hgr]
           ·rw [if_neg e2]; exact hd5 b (by omega)
         ·obtain rfl : z = x := by omega
          repeat (first | (refine aI ?_) | (refine bH ?_; apply cZ; exact fJ; exact rfl; exact aB; exact AtsZ.app (AtsZ.r fQ); exact rfl; exact rfl))
          repeat (refine aI ?_)
          refine aK (R - (i + 1)) _ _ _ (by first | omega | (simp only [List.length_append, List.length_cons, List.length_nil]; omega)) aO aD aC (⟨i + 1, rows5, by omega, rfl, hs5, fun t ht h => ?_, fun t b ht hne hb => ?_, rfl, rfl, rfl⟩)
          ·rw [hk5 t ht (by omega)]; exact hk4 t ht (by omega)
          ·by_cases e : t = i
           ·subst e; rw [hd5 b hb, hf2]
           ·rw [hk5 t (by omega) e]; exact hd4 t b (by omega) hne hb
      ·obtain rfl : i = R := by omega
       have e1 : recs eZ (zs pv) ++ recs eZ [(j : Int)] = recs eZ (zs (pv ++ [j])) := by rw [← lU]; exact congrArg (recs eZ) (List.map_append (f := fun (x : Nat) => (x : Int)) (l₁ := pv) (l₂ := [j])).symm
       have hst := aHK (A := E) (R := i) (C := x) (r := r) (j := j) (x := y) hdE hrR hyR hjC (fun b hb => hRd.zero y b (by omega) hyR hb)
       have hPw : Pw rows4 i x (at2 (tQ E r j y)) := fun t b ht hb => by
        rw [hst t b ht hb]
        simp only [elm, htr]
        have h3 := hd3 b hb
        have h2r := hp2 r b hrR hb
        rw [htr] at h2r
        by_cases e : t = r
        ·rw [if_pos e, e, hk4 r hrR (.inr rfl), h3, h2r, hpq]; grind
        ·rw [if_neg e, hd4 t b ht e hb, hp2 t b ht hb, hp2 t j ht hjC, h3, h2r, hpq]; grind
       repeat (first | (refine aI ?_) | (refine bH ?_; apply cZ; exact fJ; exact rfl; exact aB; exact AtsZ.app (AtsZ.r fQ); exact rfl; exact rfl))
       repeat (refine aI ?_)
       (refine aN (cs := recs eZ [(j : Int)]) ([.int .i64 (j : Int)]) rfl rfl (by intro v hv; repeat (first | exact absurd hv (List.not_mem_nil) | (rcases List.mem_cons.1 hv with rfl | hv; · rfl))) (by omega) rfl rfl rfl ?_; intro b3; refine ⟨okF, ?_⟩)
       refine aIW (len := 1) (news := recs eZ [(j : Int)]) 1 rfl rfl rfl (Src.blk aB) (by decide) rfl (xD (enc := eZ) [(j : Int)]) (by omega) (by omega) rfl rfl ?_
       intro a2 c3
       refine ⟨okF, ?_⟩
       rw [e1]
       repeat (first | (refine aI ?_) | (refine bH ?_; apply cZ; exact fJ; exact rfl; exact aB; exact AtsZ.app (AtsZ.r fQ); exact rfl; exact rfl))
       repeat (refine aI ?_)
       refine fD (φ := iG rows4 (kb k0 (j + 1))) (Hv.monoS (k := 4 * kj + 1) aB (by omega)) ?_
       refine aK (x - (j + 1)) _ _ _ (by first | omega | (simp only [List.length_append, List.length_cons, List.length_nil]; omega)) aO aD aC (⟨j + 1, r + 1, rows4, tQ E r j y, pv ++ [j], a2, c3, by omega, rfl, by simp [hr], ?_, by omega, by omega, hs4, hPw, rfl, rfl, rfl⟩)
       have := aPA (x := y) hred hEl (by omega) hyR (fun t h1 h2 => hz t (by omega) h2) hn
       rwa [hr] at this)
  ·obtain rfl : r = R := by omega
   have hfull : mK a.q C = (E, pv) := by
    have := yM hred hEl hr (C - j)
    rwa [show j + (C - j) = C by omega] at this
   repeat (first | (refine aI ?_) | (refine bH ?_; apply cZ; exact fJ; exact rfl; exact aB; exact AtsZ.app (AtsZ.r fQ); exact rfl; exact rfl))
   repeat (refine aI ?_)
   refine fD (φ := iG rows (kb k0 C)) (Hv.monoS (k := kb k0 j) aB (sV k0 hj)) ?_
   refine dV [2, 3] (by first | exact .inl rfl | exact .inr rfl) rfl rfl rfl _ _ aD aC (⟨bo, co, tlo, rows, E, pv, q, c, by rw [hr], hco, hs, hfull, hp, by rw [hr], rfl⟩)
 ·obtain rfl : j = C := by omega
  repeat (first | (refine aI ?_) | (refine bH ?_; apply cZ; exact fJ; exact rfl; exact aB; exact AtsZ.app (AtsZ.r fQ); exact rfl; exact rfl))
  repeat (refine aI ?_)
  refine dV [2, 3] (by first | exact .inl rfl | exact .inr rfl) rfl rfl rfl _ _ aD aC (⟨bo, co, tlo, rows, E, pv, q, c, by rw [hr], hco, hs, hred, hp, by rw [hr], rfl⟩)
theorem aKS {a : MX} {R C k0 : Nat} (hb : kb k0 C ≤ 20000000000) (hR : 1 ≤ R ∧ R ≤ 100) (hC : 1 ≤ C ∧ C ≤ 100) (da : a.dim R C) (ha : iT a k0 ∈ I0) : CD Tryz.prog 95 [mv a] X w0 M0 I0 (rEchP a.q R C (kb k0 C) M0 I0) := by
 refine CD.post (aQT hb hR hC da ha) (fun v M I w h hw => ?_)
 obtain ⟨bo, co, tlo, rows, E, pv, q, c, rfl, hco, hs, hred, hp, rfl, rfl⟩ := h
 obtain ⟨hdE, _⟩ := lL (aKP da) C (Nat.le_refl _)
 rw [hred] at hdE
 obtain ⟨hq, hd⟩ := q_xs (bo := bo) (co := co) hs hp
 have h1 : Mem X w0 (.blk bo (recs eS rows ++ tlo) 53 :: (rows.map iU ++ M0)) (pvI q pv :: iG rows (kb k0 C) :: I0) w := hw.freezeR .here
 have h2 := aHN (co := co) (k := kb k0 C) h1 (fun r hr => by have := hs.col r hr; omega) (by have := hs.len; omega) (List.Mem.tail _ (List.Mem.head _))
 refine ⟨M0, pvI q pv :: iT (MS.x bo co rows) (kb k0 C) :: I0, ⟨rfl, MS.x bo co rows, pv, q, c, ?_, by rw [hq, ← aPB hdE]; exact hred, hd, rfl⟩, h2.inc (.of fun φ hφ => ?_)⟩
 ·have e1 := hd.1
  show _ = Value.tuple #[.slice (MS.x bo co rows).p (MS.x bo co rows).rows.length (MS.x bo co rows).c, _]
  rw [e1]; rfl
 ·rcases List.mem_cons.1 hφ with rfl | hφ
  ·exact List.Mem.tail _ (List.Mem.head _)
  ·rcases List.mem_cons.1 hφ with rfl | hφ
   ·exact List.Mem.head _
   ·exact List.Mem.tail _ (List.Mem.tail _ (List.Mem.tail _ hφ))
theorem aQE {a : MX} {R C k0 : Nat} (hb : kb k0 C ≤ 20000000000) (hR : 1 ≤ R ∧ R ≤ 100) (hC : 1 ≤ C ∧ C ≤ 100) (da : a.dim R C) (ha : iT a k0 ∈ I0) : CD Tryz.prog 58 [mv a] X w0 M0 I0 (fun v M I => M0 = M ∧ I0 = I ∧ v = .int .i64 ((rk a.q C : Nat) : Int)) := by
 have hE := fun M0 I0 h => aKS (X := X) (w0 := w0) (M0 := M0) (I0 := I0) (a := a) (k0 := k0) hb hR hC da h
 refine aZ Tryz.func58 rfl Tryz.ntmps58 rfl ?_
 repeat (refine aI ?_)
 (refine aA rfl (hE _ _ aB) rfl rfl ?_; rintro _ _ _ ⟨rfl, m, pv, q, c, rfl, hm, hd, rfl⟩; refine ⟨okF, ?_⟩)
 repeat (refine aI ?_)
 refine aG (by first | exact .inl rfl | exact .inr rfl) rfl rfl _ _ aD aC (⟨rfl, rfl, by unfold rk; rw [hm]⟩)
end
end Go.Proofs.YtjbhdfpjnjedhaaGreat
namespace Go.Proofs.YtjbhdfpjnjedhaaGreat
open Go Go.Fx
def unL (n i : Nat) : List Rat := (List.range n).map (oU i)
def rw1 (A : Mt) (C i : Nat) (z : Nat → Rat) : Rat := sm C (fun j => at2 A i j * z j)
def ctl (R C : Nat) (A : Mt) (i : Nat) : Prop := ¬ aGS R C A (unL R i)
instance (R C : Nat) (A : Mt) (i : Nat) : Decidable (ctl R C A i) := by unfold ctl; exact inferInstance
/- rows left out -/
def rowsM (A : Mt) (ix : List Nat) : Mt := ix.map (rowAt A)
def restI (R : Nat) (set : List Int) : List Nat := (List.range R).filter (fun i => decide ((i : Int) ∉ set))
def und (R C : Nat) (A : Mt) (set : List Int) : Prop := rk (rowsM A (restI R set)) C < rk A C
instance (R C : Nat) (A : Mt) (set : List Int) : Decidable (und R C A set) := by unfold und; exact inferInstance
/- the transposed matrix -/
def trM (R C : Nat) (A : Mt) : Mt := uK C R (fun i j => at2 A j i)
/- certificates -/
/- weights: the normal matrix has the kernel of the design matrix -/
def nrmM (R C : Nat) (A : Mt) (p : Nat → Rat) : Mt := uK C C (fun i j => sm R (fun k => p k * at2 A k i * at2 A k j))
/- the document's inverse: the pivots of the matrix with the unit matrix beside -/
end Go.Proofs.YtjbhdfpjnjedhaaGreat
namespace Go.Proofs.YtjbhdfpjnjedhaaGreat
open Go Go.Fx
theorem aXM {A : Mt} {R C : Nat} (hA : qO A R C) : rk A C ≤ C := by
 obtain ⟨_, s, hr⟩ := lL hA C (Nat.le_refl _)
 have := hr.free_len
 unfold rk
 omega
theorem aVT {A : Mt} {C : Nat} (hA : qO A C C) : rk A C = C ↔ dt C (at2 A) ≠ 0 := by
 obtain ⟨_, s, hr⟩ := lL hA C (Nat.le_refl _)
 exact hr.iff (Nat.le_refl _)
theorem aER {R C : Nat} {A : Mt} : qO (zG R C A) C C := aPN
theorem aUL {C : Nat} {a b : List Rat} (ha : a.length = C) (hb : b.length = C) (h : ∀ i, i < C → a.getD i 0 = b.getD i 0) : a = b := by
 apply List.ext_getElem (by rw [ha, hb])
 intro i h1 h2
 have := h i (by omega)
 simpa [List.getD, h1, h2] using this
theorem solLn {R C : Nat} {A : Mt} {b : List Rat} : (aAZ R C A b).length = C := by simp [aAZ]
theorem aTK {R C : Nat} {A : Mt} {b : List Rat} (h : dt C (at2 (zG R C A)) ≠ 0) : aGS C C (zG R C A) (nrB R C A b) ∧ aAZ C C (zG R C A) (nrB R C A b) = lsX R C A b := by
 have hs : aGS C C (zG R C A) (nrB R C A b) := aSJ.2 ⟨fun j => (lsX R C A b).getD j 0, aXI h⟩
 refine ⟨hs, aUL solLn aFG (fun i hi => ?_)⟩
 exact aWY (b := b) (x := fun j => (aAZ C C (zG R C A) (nrB R C A b)).getD j 0) h (fun i hi => aTU hs i hi) i hi
end Go.Proofs.YtjbhdfpjnjedhaaGreat

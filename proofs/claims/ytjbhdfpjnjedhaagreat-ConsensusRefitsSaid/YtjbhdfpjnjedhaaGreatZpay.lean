/- matrix.reduce -/
import Derived.Test.YtjbhdfpjnjedhaaGreatZpax
import Derived.Test.YtjbhdfpjnjedhaaGreatZpar
set_option linter.unusedSimpArgs false
set_option linter.unusedVariables false
set_option maxRecDepth 100000
set_option maxHeartbeats 4000000
namespace Go.Proofs.YtjbhdfpjnjedhaaGreat
open Go Go.Fx
def kb (k : Nat) : Nat → Nat
 | 0 => k
 | n + 1 => 4 * kb k n + 1
theorem zU (k : Nat) {m n : Nat} (h : m ≤ n) : kb k m ≤ kb k n := by
 induction n with
 | zero => obtain rfl : m = 0 := by omega
           exact Nat.le_refl _
 | succ n ih =>
  by_cases e : m = n + 1
  ·subst e; exact Nat.le_refl _
  ·have := ih (by omega)
   show kb k m ≤ 4 * kb k n + 1
   omega
abbrev zs (pv : List Nat) : List Int := pv.map (fun (x : Nat) => (x : Int))
abbrev eZ : Int → List Value := eI .i64
theorem yR {rows : List MR} {i : Nat} (h : i < rows.length) {A B : Ent} {M1 : List Ent} : (A :: B :: (rows.map fM ++ M1)).Perm (fM (gt rows (i : Int)) :: A :: B :: ((rows.eraseIdx i).map fM ++ M1)) := by
 have h1 : (rows.map fM).Perm (fM (gt rows (i : Int)) :: (rows.eraseIdx i).map fM) := by
  have := (nX rows i h).map fM
  rwa [List.map_cons, ← fB h] at this
 have h2 : (rows.map fM ++ M1).Perm (fM (gt rows (i : Int)) :: ((rows.eraseIdx i).map fM ++ M1)) := h1.append_right M1
 exact ((List.Perm.cons _ (List.Perm.cons _ h2)).trans (List.Perm.cons _ (List.Perm.swap _ _ _))).trans (List.Perm.swap _ _ _)
theorem foc2 {rows : List MR} {i j : Nat} (hi : i < rows.length) (hj : j < rows.length) (hij : i ≠ j) {A B : Ent} {M1 : List Ent} : (A :: B :: (rows.map fM ++ M1)).Perm (fM (gt rows (i : Int)) :: fM (gt rows (j : Int)) :: A :: B :: ((lL rows i j).map fM ++ M1)) := by
 have h1 : (rows.map fM).Perm (fM (gt rows (i : Int)) :: fM (gt rows (j : Int)) :: (lL rows i j).map fM) := by
  have := (tY rows i j hi hj hij).map fM
  rwa [List.map_cons, List.map_cons, ← fB hi, ← fB hj] at this
 have h2 : (rows.map fM ++ M1).Perm (fM (gt rows (i : Int)) :: fM (gt rows (j : Int)) :: ((lL rows i j).map fM ++ M1)) := h1.append_right M1
 refine (List.Perm.cons _ (List.Perm.cons _ h2)).trans ?_
 generalize fM (gt rows (i : Int)) = x
 generalize fM (gt rows (j : Int)) = y
 generalize (lL rows i j).map fM ++ M1 = r
 have e1 : (A :: B :: x :: y :: r).Perm (x :: A :: B :: y :: r) := (List.Perm.cons _ (List.Perm.swap _ _ _)).trans (List.Perm.swap _ _ _)
 have e2 : (A :: B :: y :: r).Perm (y :: A :: B :: r) := (List.Perm.cons _ (List.Perm.swap _ _ _)).trans (List.Perm.swap _ _ _)
 exact e1.trans (List.Perm.cons _ e2)
theorem swap_perm {rows : List MR} {r k : Nat} (hr : r < rows.length) (hk : k < rows.length) : (st (st rows (r : Int) (gt rows (k : Int))) (k : Int) (gt rows (r : Int))).Perm rows := by
 unfold st
 simp only [Int.toNat_natCast]
 by_cases h : r = k
 ·subst h
  rw [fB hr, List.set_getElem_self, List.set_getElem_self]
 ·have hr' : r < ((rows.set r (gt rows (k : Int))).set k (gt rows (r : Int))).length := by simpa using hr
  have hk' : k < ((rows.set r (gt rows (k : Int))).set k (gt rows (r : Int))).length := by simpa using hk
  have h1 := tY _ r k hr' hk' h
  have h2 := tY rows r k hr hk h
  have e : lL ((rows.set r (gt rows (k : Int))).set k (gt rows (r : Int))) r k = lL rows r k := by
   have h3 := uE (rows.set r (gt rows (k : Int))) k r (gt rows (r : Int)) (Ne.symm h)
   have h4 := uE rows r k (gt rows (k : Int)) h
   have c : ∀ l : List MR, lL l k r = lL l r k := fun l => by unfold lL; rw [Nat.max_comm, Nat.min_comm]
   rw [c, c, h4] at h3
   exact h3
  rw [e] at h1
  have g1 : ((rows.set r (gt rows (k : Int))).set k (gt rows (r : Int)))[r]'hr' = rows[k] := by
   rw [List.getElem_set_ne (Ne.symm h), List.getElem_set_self, fB hk]
  have g2 : ((rows.set r (gt rows (k : Int))).set k (gt rows (r : Int)))[k]'hk' = rows[r] := by
   rw [List.getElem_set_self, fB hr]
  rw [g1, g2] at h1
  exact (h1.trans (List.Perm.swap _ _ _)).trans h2.symm
theorem Hv.elM {I : List aY} {rows : List MR} {i j : Int} {k m : Nat} (h : allM rows k ∈ I) (hi : 0 ≤ i ∧ i < rows.length) (hj : 0 ≤ j ∧ j < (gt rows i).es.length) (hk : k ≤ m) : Hv I (bS (gt (gt rows i).es j) m) :=
 ⟨fun X w hw => ((hw _ h : AllM rows k X w).go _ (dF hi) _ (dF hj)).mono hk⟩
theorem Hv.rowMm {I : List aY} {rows : List MR} {i : Int} {k m : Nat} (h : allM rows k ∈ I) (hi : 0 ≤ i ∧ i < rows.length) (hk : k ≤ m) : Hv I (cO (gt rows i).es m) := ⟨fun X w hw => ⟨fun e he => ((hw _ h : AllM rows k X w).go _ (dF hi) e he).mono hk⟩⟩
theorem Hv.permM {I : List aY} {rows rows' : List MR} {k : Nat} (h : allM rows k ∈ I) (hp : rows'.Perm rows) : Hv I (allM rows' k) := ⟨fun X w hw => ⟨fun r hr => (hw _ h : AllM rows k X w).go r (hp.mem_iff.1 hr)⟩⟩
theorem Hv.setM {I : List aY} {rows : List MR} {i : Nat} {b : Nat} {es : List RE} {k m K : Nat} (h : allM rows k ∈ I) (h2 : cO es m ∈ I) (hk : k ≤ K) (hm : m ≤ K) : Hv I (allM (rows.set i ⟨b, es⟩) K) := ⟨fun X w hw => ⟨fun r hr e he => by
 rcases List.mem_or_eq_of_mem_set hr with hr | hr
 ·exact ((hw _ h : AllM rows k X w).go r hr e he).mono hk
 ·subst hr; exact ((hw _ h2 : AllR es m X w).go e he).mono hm⟩⟩
theorem Hv.monoM {I : List aY} {rows : List MR} {k m : Nat} (h : allM rows k ∈ I) (hk : k ≤ m) : Hv I (allM rows m) := ⟨fun X w hw => ⟨fun r hr e he => ((hw _ h : AllM rows k X w).go r hr e he).mono hk⟩⟩
theorem xY {a b : List Rat} (hl : a.length = b.length) (h : ∀ t : Nat, t < a.length → a.getD t 0 = b.getD t 0) : a = b := by
 apply List.ext_getElem hl
 intro t h1 h2
 have := h t h1
 simpa [List.getD, h1, h2] using this
theorem aQD {er e1 : List RE} {κ : Rat} {j C : Nat} (h1 : e1.length = C) (hr : er.length = C) (hd : ∀ t : Nat, t < C → (gt e1 (t : Int)).q = if t < j then (gt er (t : Int)).q else κ * (gt er (t : Int)).q) : qs e1 = jE j κ (qs er) := by
 apply xY
 ·simp [jE, h1, hr]
 ·intro t ht
  have ht' : t < C := by simpa [h1] using ht
  rw [jK (by omega), hd t ht']
  unfold jE
  rw [fB (show t < er.length by omega)]
  simp [List.getD, show t < er.length by omega]
theorem aTY {rows4 rows3 : List MR} {R r j br : Nat} {e1 : List RE} (h4 : rows4.length = R) (h3 : rows3.length = R) (hr : r < R) (hg4 : (gt rows4 (r : Int)).es = e1) (hg3 : gt rows3 (r : Int) = ⟨br, e1⟩)
  (hd : ∀ t : Nat, t < R → t ≠ r → qs (gt rows4 (t : Int)).es = if at2 (mq rows3) t j = 0 then qs (gt rows3 (t : Int)).es else jZ j (at2 (mq rows3) t j) (qs e1) (qs (gt rows3 (t : Int)).es)) :
  mq rows4 = uM (mq rows3) r j (qs e1) := by
 unfold uM
 apply List.ext_getElem
 ·simp [h4, h3]
 ·intro t h1 h2
  have ht : t < R := by simpa [h4] using h1
  have e4 : (mq rows4)[t] = qs (gt rows4 (t : Int)).es := by rw [fB (by omega)]; simp
  have e3 : (mq rows3)[t]'(by simp; omega) = qs (gt rows3 (t : Int)).es := by rw [fB (by omega)]; simp
  have ea : at2 (mq rows3) t j = (qs (gt rows3 (t : Int)).es).getD j 0 := by unfold at2; rw [mH (by omega)]
  rw [e4, List.getElem_mapIdx, e3]
  by_cases htr : t = r
  ·subst htr
   rw [if_pos rfl, hg4, hg3]
  ·rw [if_neg htr, hd t ht htr, ea]
theorem aPI {es ps e1 : List RE} {κ : Rat} {j C : Nat} (h1 : e1.length = C) (hr : es.length = C) (hp : ps.length = C) (hd : ∀ t : Nat, t < C → (gt e1 (t : Int)).q = if t < j then (gt es (t : Int)).q else (gt es (t : Int)).q - κ * (gt ps (t : Int)).q) : qs e1 = jZ j κ (qs ps) (qs es) := by
 apply xY
 ·simp [jZ, h1, hr]
 ·intro t ht
  have ht' : t < C := by simpa [h1] using ht
  rw [jK (by omega), hd t ht']
  unfold jZ
  rw [fB (show t < es.length by omega), fB (show t < ps.length by omega)]
  simp [List.getD, show t < es.length by omega, show t < ps.length by omega]
section
variable {X : List Nat} {w0 : World} {M0 : List Ent} {I0 : List aY}
def RdP (bo R C : Nat) (A : Mt) (n K : Nat) (M1 : List Ent) (I0 : List aY) (v : Value) (M : List Ent) (I : List aY) : Prop :=
 ∃ (rows : List MR) (pv : List Nat) (q : Option Addr) (c : Nat), v = .slice q pv.length c ∧ rows.length = R ∧ (∀ r ∈ rows, r.es.length = C) ∧ qA A n = (mq rows, pv) ∧ pv.length ≤ R ∧
  M = .row q pv.length c (recs eZ (zs pv)) 3 1 :: .blk bo (recs eM rows) 53 :: (rows.map fM ++ M1) ∧ I = allM rows K :: I0
theorem aLS {bo R C n k0 : Nat} {rows : List MR} {M1 : List Ent} (hR : rows.length = R) (hRb : R ≤ 100) (hCb : C ≤ 200) (hC : ∀ r ∈ rows, r.es.length = C) (hn : n ≤ C) (hk : kb k0 n ≤ 50000000000) (hA : allM rows k0 ∈ I0)
  (hM : M0 = .blk bo (recs eM rows) 53 :: (rows.map fM ++ M1)) :
  CD Tryz.prog 177 [.slice (some ⟨bo, 0, none⟩) R R, .int .i64 (n : Int)] X w0 M0 I0 (RdP bo R C (mq rows) n (kb k0 n) M1 I0) := by
 subst hM
 refine aX Tryz.func177 rfl Tryz.ntmps177 rfl ?_
 repeat' (first | refine aV ?_ | refine aM rfl (fun h => ?_) (fun h => ?_) | refine aN rfl rfl (fun h => ?_) (fun h => ?_) | fail)
 refine mM 3 1 ?_
 refine iB (φ := allM rows (kb k0 0)) (Hv.mem hA) ?_
 refine aT [0, 12] rfl (fun k G M I => ∃ (j r : Nat) (rows1 : List MR) (pv : List Nat) (q : Option Addr) (c : Nat), j ≤ n ∧ k = n - j ∧ pv.length = r ∧ rows1.length = R ∧ (∀ r ∈ rows1, r.es.length = C) ∧ qA (mq rows) j = (mq rows1, pv) ∧ r ≤ R ∧ r ≤ j ∧ G = [(5, .slice q r c), (13, .int .i64 j)] ∧ M = .row q r c (recs eZ (zs pv)) 3 1 :: .blk bo (recs eM rows1) 53 :: (rows1.map fM ++ M1) ∧ I = allM rows1 (kb k0 j) :: I0) (n) _ _ _ aP aD aC (⟨0, 0, rows, [], none, 0, by omega, rfl, rfl, hR, hC, rfl, by omega, by omega, rfl, rfl, rfl⟩) ?_
 rintro k G M I ⟨j, r, rows1, pv, q, c, hj, rfl, hr, hl1, hC1, hred, hpv, hpj, rfl, rfl, rfl⟩
 by_cases hjn : j < n
 ·have hzl : (zs pv).length = r := by simp [hr]
  have hkj : kb k0 (j + 1) ≤ 50000000000 := Nat.le_trans (zU k0 (by omega)) hk
  have hkj1 : kb k0 (j + 1) = 4 * kb k0 j + 1 := rfl
  obtain ⟨kj, hkj0⟩ : ∃ x, kb k0 j = x := ⟨_, rfl⟩
  rw [hkj0] at hkj1 ⊢
  have hCg : ∀ x : Nat, x < R → (gt rows1 (x : Int)).es.length = C := fun x hx => hC1 _ (dF (by omega))
  repeat' (first | refine aV ?_ | refine aM rfl (fun h => ?_) (fun h => ?_) | refine aN rfl rfl (fun h => ?_) (fun h => ?_) | fail)
  refine aT [0, 5, 6, 7, 12, 13] rfl (fun k G M I => ∃ (x : Nat), r ≤ x ∧ x ≤ R ∧ k = R - x ∧ nG (mq rows1) j (R - x) x = nG (mq rows1) j (R - r) r ∧ G = [(8, .int .i64 x)] ∧ M = .row q r c (recs eZ (zs pv)) 3 1 :: .blk bo (recs eM rows1) 53 :: (rows1.map fM ++ M1) ∧ I = allM rows1 kj :: I0) (R - r) _ _ _ aP aD aC (⟨r, by omega, by omega, by omega, rfl, rfl, rfl, rfl⟩) ?_
  rintro k G M I ⟨x, hrx, hxR, rfl, hfx, rfl, rfl, rfl⟩
  have hlen1 : (mq rows1).length = R := by simp [hl1]
  by_cases hx : x < R ∧ at2 (mq rows1) x j = 0
  ·obtain ⟨hx1, hx2⟩ := hx
   have hlx := hCg x hx1
   have hat := vV (rows := rows1) (i := x) (j := j) (by omega) (by omega)
   rw [hat] at hx2
   have hS := mF (X := X) (w0 := w0) (M0 := .blk (gt rows1 (x : Int)).b (recs eR (gt rows1 (x : Int)).es) 50 :: .row q r c (recs eZ (zs pv)) 3 1 :: .blk bo (recs eM rows1) 53 :: ((rows1.eraseIdx x).map fM ++ M1)) (I0 := allM rows1 kj :: I0) (e := gt (gt rows1 (x : Int)).es (j : Int)) (k := kj) (by omega) (Hv.elM (List.Mem.head _) (by omega) (by omega) (Nat.le_refl _))
   rw [(oO _).2 hx2] at hS
   refine mO (yR (rows := rows1) (i := x) (by omega)) ?_
   repeat' (first | refine aV ?_ | refine aM rfl (fun h => ?_) (fun h => ?_) | refine aN rfl rfl (fun h => ?_) (fun h => ?_) | fail)
   (refine aA rfl (hS) rfl rfl ?_; rintro _ _ _ ⟨rfl, rfl, rfl⟩; refine ⟨okF, ?_⟩)
   repeat' (first | refine aV ?_ | refine aM rfl (fun h => ?_) (fun h => ?_) | refine aN rfl rfl (fun h => ?_) (fun h => ?_) | fail)
   refine uD (yR (rows := rows1) (i := x) (by omega)).symm ?_
   refine aL (R - (x + 1)) _ _ _ (by first | omega | (simp only [List.length_append, List.length_cons, List.length_nil]; omega)) aP aD aC (⟨x + 1, by omega, by omega, rfl, ?_, rfl, rfl, rfl⟩)
   rw [← hfx]
   obtain ⟨f, hf⟩ : ∃ f, R - x = f + 1 := ⟨R - x - 1, by omega⟩
   rw [hf, show R - (x + 1) = f by omega]
   conv => rhs; unfold nG
   rw [if_pos ⟨by omega, by rw [hat]; exact hx2⟩]
  ·have hfx2 : nG (mq rows1) j (R - r) r = x := by
    rw [← hfx]
    cases hf : R - x with
    | zero => rfl
    | succ f =>
     unfold nG
     rw [if_neg (fun h => hx ⟨by omega, h.2⟩)]
   by_cases hxR2 : x < R
   ·have hx2 : at2 (mq rows1) x j ≠ 0 := fun h => hx ⟨hxR2, h⟩
    have hlx := hCg x hxR2
    have hat := vV (rows := rows1) (i := x) (j := j) (by omega) (by omega)
    rw [hat] at hx2
    have hS := mF (X := X) (w0 := w0) (M0 := .blk (gt rows1 (x : Int)).b (recs eR (gt rows1 (x : Int)).es) 50 :: .row q r c (recs eZ (zs pv)) 3 1 :: .blk bo (recs eM rows1) 53 :: ((rows1.eraseIdx x).map fM ++ M1)) (I0 := allM rows1 kj :: I0) (e := gt (gt rows1 (x : Int)).es (j : Int)) (k := kj) (by omega) (Hv.elM (List.Mem.head _) (by omega) (by omega) (Nat.le_refl _))
    have hs0 : ¬ (gt (gt rows1 (x : Int)).es (j : Int)).q.num.sign = 0 := fun h => hx2 ((oO _).1 h)
    generalize (gt (gt rows1 (x : Int)).es (j : Int)).q.num.sign = sg at *
    refine mO (yR (rows := rows1) (i := x) (by omega)) ?_
    repeat' (first | refine aV ?_ | refine aM rfl (fun h => ?_) (fun h => ?_) | refine aN rfl rfl (fun h => ?_) (fun h => ?_) | fail)
    (refine aA rfl (hS) rfl rfl ?_; rintro _ _ _ ⟨rfl, rfl, rfl⟩; refine ⟨okF, ?_⟩)
    clear hS
    repeat' (first | refine aV ?_ | refine aM rfl (fun h => ?_) (fun h => ?_) | refine aN rfl rfl (fun h => ?_) (fun h => ?_) | fail)
    refine mO (yR (rows := rows1) (i := x) (by omega)).symm ?_
    have hrR : r < R := by omega
    (repeat refine aG ?_); refine bG 0 [0, 1, 2, 3, 4, 5, 6, 7, 8, 9, 10, 11, 12, 13, 14, 15] [0, 0, 1, 1, 0, 0, 0, 0, 1, 1, 1, 0, 0, 0, 0, 0] mixed (by kernel_rfl) ?_
    repeat (refine yXf ?_)
    refine kI rfl rfl rfl lN (StAt.r1 (gt rows1 (x : Int)) (by omega) rfl) rfl rfl ⟨okF, ?_⟩
    repeat (refine yXf ?_)
    refine kI rfl rfl rfl lN (StAt.r1 (gt rows1 (r : Int)) (by rw [eQ]; omega) rfl) rfl rfl ⟨okF, ?_⟩
    obtain ⟨rows2, hrows2⟩ : ∃ rows2, rows2 = st (st rows1 (r : Int) (gt rows1 (x : Int))) (x : Int) (gt rows1 (r : Int)) := ⟨_, rfl⟩
    have hsp := swap_perm (rows := rows1) (r := r) (k := x) (by omega) (by omega)
    rw [← hrows2] at hsp ⊢
    have hl2 : rows2.length = R := by rw [hsp.length_eq]; exact hl1
    have hC2 : ∀ r ∈ rows2, r.es.length = C := fun r hr => hC1 r (hsp.mem_iff.1 hr)
    have hmq2 : mq rows2 = swp (mq rows1) r x := by
     rw [hrows2]
     unfold st swp
     simp only [Int.toNat_natCast]
     rw [aBQ, aBQ, mH (by omega), mH (by omega)]
    have hpiv : (gt (gt rows2 (r : Int)).es (j : Int)).q ≠ 0 := by
     have e : gt rows2 (r : Int) = gt rows1 (x : Int) := by
      rw [hrows2, aPU _ (by rw [eQ]; omega) (by omega), aPU _ (by omega) (by omega)]
      by_cases hxr : r = x
      ·subst hxr; rw [if_pos rfl]
      ·rw [if_neg (by omega), if_pos rfl]
     rw [e]; exact hx2
    have hlr : (gt rows2 (r : Int)).es.length = C := hC2 _ (dF (by omega))
    clear hrows2 hs0 hx2
    refine zC (M' := .row q r c (recs eZ (zs pv)) 3 1 :: .blk bo (recs eM rows2) 53 :: (rows2.map fM ++ M1)) (List.Perm.cons _ (List.Perm.cons _ ((hsp.symm.map fM).append_right M1))) ?_
    refine dP (φ := allM rows2 kj) (Hv.permM (List.Mem.head _) hsp) ?_
    repeat' (first | refine aV ?_ | refine aM rfl (fun h => ?_) (fun h => ?_) | refine aN rfl rfl (fun h => ?_) (fun h => ?_) | fail)
    refine mO (yR (rows := rows2) (i := r) (by omega)) ?_
    refine mU (fun G M I => ∃ (b9 : Nat) (e9 : RE), e9.q = 1 / (gt (gt rows2 (r : Int)).es (j : Int)).q ∧ G = [(0, .slice (some ⟨bo, 0, none⟩) R R), (5, .slice q r c), (6, .int .i64 (j : Int)), (7, .int .i64 (r : Int)), (9, .pointer (some ⟨b9, 0, none⟩)), (12, .int .i64 (n : Int)), (13, .int .i64 (j : Int))] ∧ M = .blk b9 (eR e9) 50 :: .blk (gt rows2 (r : Int)).b (recs eR (gt rows2 (r : Int)).es) 50 :: .row q r c (recs eZ (zs pv)) 3 1 :: .blk bo (recs eM rows2) 53 :: ((rows2.eraseIdx r).map fM ++ M1) ∧ I = bS e9 (0 + kj) :: allM rows2 kj :: I0) ?_ ?_
    ·have hW := fun M0 I0 => rO (X := X) (w0 := w0) (M0 := M0) (I0 := I0) (x := 1) (by decide) (k := 0) (by decide)
     have hEl : Hv (allM rows2 kj :: allM rows1 kj :: I0) (bS (gt (gt rows2 (r : Int)).es (j : Int)) kj) := Hv.elM (List.Mem.head _) (by omega) (by omega) (Nat.le_refl _)
     have hQ := fun (e1 : RE) M0 I0 h1 h2 => yL (X := X) (w0 := w0) (M0 := M0) (I0 := I0) (a := e1) (b := gt (gt rows2 (r : Int)).es (j : Int)) (k := 0) (m := kj) (by omega) hpiv h1 h2
     ((repeat refine aG ?_); refine mP (.blk (gt rows2 (r : Int)).b (recs eR (gt rows2 (r : Int)).es) 50 :: .row q r c (recs eZ (zs pv)) 3 1 :: .blk bo (recs eM rows2) 53 :: ((rows2.eraseIdx r).map fM ++ M1)) (allM rows2 kj :: I0) mixed ?_)
     refine iQ (fuel := 4) (listed' := #[false, true, true, true, true, true, true, true, false, false, false]) [1, 2, 3, 4, 5, 6, 7] [3, 3, 3, 3, 3, 3, 2] aD aC (by kernel_rfl) (by kernel_rfl) rfl rfl ?_
     repeat' (first | refine aV ?_ | refine aM rfl (fun h => ?_) (fun h => ?_) | refine aN rfl rfl (fun h => ?_) (fun h => ?_) | fail)
     refine bW (fuel := 3) (i := 0) (j := 9) (by kernel_rfl) ?_ ?_
     ·(refine aA rfl (hW _ _) rfl rfl ?_; rintro _ _ _ ⟨rfl, e1, rfl, he1, rfl⟩; refine ⟨okF, ?_⟩)
      repeat' (first | refine aV ?_ | refine aM rfl (fun h => ?_) (fun h => ?_) | refine aN rfl rfl (fun h => ?_) (fun h => ?_) | fail)
      refine bW (fuel := 2) (i := 8) (j := 9) (by kernel_rfl) ?_ ?_
      ·(refine aA rfl (hQ e1 _ _ (Hv.mem (List.Mem.head _)) hEl.cons) rfl rfl ?_; rintro _ _ _ ⟨rfl, e9, rfl, he9, rfl⟩; refine ⟨okF, ?_⟩)
       repeat' (first | refine aV ?_ | refine aM rfl (fun h => ?_) (fun h => ?_) | refine aN rfl rfl (fun h => ?_) (fun h => ?_) | fail)
       refine bE [9, 10] [0, 0] aD aC (by kernel_rfl) (by kernel_rfl) rfl rfl ?_
       (refine aI rfl rfl ?_; intro b9; refine ⟨okF, ?_⟩)
       repeat' (first | refine aV ?_ | refine aM rfl (fun h => ?_) (fun h => ?_) | refine aN rfl rfl (fun h => ?_) (fun h => ?_) | fail)
       refine eX _ _ _ aP aD aC ⟨b9, e9, by rw [he9, he1]; rfl, rfl, rfl, rfl⟩
      ·(refine aI rfl rfl ?_; intro b9; refine ⟨okF, ?_⟩)
       repeat' (first | refine aV ?_ | refine aM rfl (fun h => ?_) (fun h => ?_) | refine aN rfl rfl (fun h => ?_) (fun h => ?_) | fail)
       refine bE [8, 10] [0, 0] aD aC (by kernel_rfl) (by kernel_rfl) rfl rfl ?_
       (refine aA rfl (hQ e1 _ _ (Hv.mem (List.Mem.head _)) hEl.cons) rfl rfl ?_; rintro _ _ _ ⟨rfl, e9, rfl, he9, rfl⟩; refine ⟨okF, ?_⟩)
       repeat' (first | refine aV ?_ | refine aM rfl (fun h => ?_) (fun h => ?_) | refine aN rfl rfl (fun h => ?_) (fun h => ?_) | fail)
       refine eX _ _ _ aP aD aC ⟨b9, e9, by rw [he9, he1]; rfl, rfl, rfl, rfl⟩
     ·(refine aI rfl rfl ?_; intro b9; refine ⟨okF, ?_⟩)
      repeat' (first | refine aV ?_ | refine aM rfl (fun h => ?_) (fun h => ?_) | refine aN rfl rfl (fun h => ?_) (fun h => ?_) | fail)
      refine bE [0, 8, 10] [0, 0, 0] aD aC (by kernel_rfl) (by kernel_rfl) rfl rfl ?_
      (refine aA rfl (hW _ _) rfl rfl ?_; rintro _ _ _ ⟨rfl, e1, rfl, he1, rfl⟩; refine ⟨okF, ?_⟩)
      (refine aA rfl (hQ e1 _ _ (Hv.mem (List.Mem.head _)) hEl.cons) rfl rfl ?_; rintro _ _ _ ⟨rfl, e9, rfl, he9, rfl⟩; refine ⟨okF, ?_⟩)
      repeat' (first | refine aV ?_ | refine aM rfl (fun h => ?_) (fun h => ?_) | refine aN rfl rfl (fun h => ?_) (fun h => ?_) | fail)
      refine eX _ _ _ aP aD aC ⟨b9, e9, by rw [he9, he1]; rfl, rfl, rfl, rfl⟩
    ·rintro G M I ⟨b9, e9, he9, rfl, rfl, rfl⟩
     obtain ⟨er, her⟩ : ∃ e, (gt rows2 (r : Int)).es = e := ⟨_, rfl⟩
     rw [her]
     rw [her] at hlr hpiv he9
     refine iB (φ := cO er (kj + kj)) (by rw [← her]; exact Hv.rowMm (List.Mem.tail _ (List.Mem.head _)) (by omega) (by omega)) ?_
     repeat' (first | refine aV ?_ | refine aM rfl (fun h => ?_) (fun h => ?_) | refine aN rfl rfl (fun h => ?_) (fun h => ?_) | fail)
     refine aT [0, 5, 6, 7, 9, 12, 13] rfl (fun k G M I => ∃ (c2 : Nat) (e1 : List RE), j ≤ c2 ∧ c2 ≤ C ∧ k = C - c2 ∧ e1.length = C ∧ (∀ t : Nat, c2 ≤ t → gt e1 (t : Int) = gt er (t : Int)) ∧ (∀ t : Nat, t < c2 → (gt e1 (t : Int)).q = if t < j then (gt er (t : Int)).q else e9.q * (gt er (t : Int)).q) ∧ G = [(10, .int .i64 c2)] ∧ M = .blk b9 (eR e9) 50 :: .blk (gt rows2 (r : Int)).b (recs eR e1) 50 :: .row q r c (recs eZ (zs pv)) 3 1 :: .blk bo (recs eM rows2) 53 :: ((rows2.eraseIdx r).map fM ++ M1) ∧ I = cO e1 (kj + kj) :: bS e9 (0 + kj) :: allM rows2 kj :: I0) (C - j) _ _ _ aP aD aC (⟨j, er, by omega, by omega, rfl, hlr, fun _ _ => rfl, fun t ht => by rw [if_pos ht], rfl, rfl, rfl⟩) ?_
     rintro k G M I ⟨c2, e1, hc1, hc2, rfl, hel, hkeep, hdone, rfl, rfl, rfl⟩
     have hlr2 : (gt rows2 (r : Int)).es.length = C := by rw [her]; exact hlr
     by_cases hcC : c2 < C
     ·have hgc : gt e1 (c2 : Int) = gt er (c2 : Int) := hkeep c2 (Nat.le_refl _)
      have hve : Hv (cO e1 (kj + kj) :: bS e9 (0 + kj) :: allM rows2 kj :: I0) (bS (gt e1 (c2 : Int)) kj) := by rw [hgc, ← her]; exact Hv.elM (List.Mem.tail _ (List.Mem.tail _ (List.Mem.head _))) (by omega) (by omega) (Nat.le_refl _)
      have hQ := fun M0 => qC (X := X) (w0 := w0) (M0 := M0) (a := e9) (b := gt e1 (c2 : Int)) (k := 0 + kj) (m := kj) (by omega) (Hv.mem (List.Mem.tail _ (List.Mem.head _))) hve
      rw [show 0 + kj + kj = kj + kj by omega] at hQ
      repeat' (first | refine aV ?_ | refine aM rfl (fun h => ?_) (fun h => ?_) | refine aN rfl rfl (fun h => ?_) (fun h => ?_) | fail)
      (repeat refine aG ?_); refine bG 1 [0, 1, 2, 3, 4, 5, 6, 7, 8, 9, 10, 11, 12, 13, 14, 15] [1, 1, 1, 1, 1, 0, 1, 1, 1, 1, 1, 1, 0, 0, 0, 0] mixed (by kernel_rfl) ?_
      repeat' (first | refine aV ?_ | refine aM rfl (fun h => ?_) (fun h => ?_) | refine aN rfl rfl (fun h => ?_) (fun h => ?_) | fail)
      (refine aA rfl (hQ _) rfl rfl ?_; rintro _ _ _ ⟨rfl, e2, rfl, he2, rfl⟩; refine ⟨okF, ?_⟩)
      repeat (refine yXf ?_)
      refine iC (vs := eR e2) rfl rfl rfl (Ones.one e2) lN (StAts.r e2 (by omega) rfl) rfl rfl ⟨okF, ?_⟩
      repeat' (first | refine aV ?_ | refine aM rfl (fun h => ?_) (fun h => ?_) | refine aN rfl rfl (fun h => ?_) (fun h => ?_) | fail)
      refine gV (φ := cO (st e1 (c2 : Int) e2) (kj + kj)) (Hv.stR aB aB) ?_
      refine aL (C - (c2 + 1)) _ _ _ (by first | omega | (simp only [List.length_append, List.length_cons, List.length_nil]; omega)) aP aD aC (⟨c2 + 1, st e1 (c2 : Int) e2, by omega, by omega, rfl, by rw [eQ]; exact hel, fun t ht => by rw [aAK (by omega), if_neg (by omega)]; exact hkeep t (by omega), fun t ht => ?_, rfl, rfl, rfl⟩)
      rw [aAK (by omega)]
      by_cases htj : t = c2
      ·subst htj
       rw [if_pos rfl, if_neg (by omega), he2, hgc]
      ·rw [if_neg htj]; exact hdone t (by omega)
     ·obtain rfl : c2 = C := by omega
      have hpr : qs e1 = jE j (1 / at2 (mq rows2) r j) (rowAt (mq rows2) r) := by
       rw [vV (by omega) (by omega), mH (by omega), her, ← he9]
       exact aQD hel hlr hdone
      obtain ⟨rows3, hrows3⟩ : ∃ rows3, rows3 = rows2.set r ⟨(gt rows2 (r : Int)).b, e1⟩ := ⟨_, rfl⟩
      have hl3 : rows3.length = R := by rw [hrows3, List.length_set]; exact hl2
      have hg3 : gt rows3 (r : Int) = ⟨(gt rows2 (r : Int)).b, e1⟩ := by rw [hrows3, fB (by simpa using (show r < rows2.length by omega))]; simp
      have hh3 : recs eM rows2 = recs eM rows3 := by rw [hrows3]; exact (tN (by omega) (by rw [her, hlr, hel])).symm
      have he3 : rows2.eraseIdx r = rows3.eraseIdx r := by rw [hrows3, aCI]
      have hmq3 : mq rows3 = (mq rows2).set r (qs e1) := by rw [hrows3]; exact aBQ
      have hk3 : ∀ t : Nat, t < R → t ≠ r → gt rows3 (t : Int) = gt rows2 (t : Int) := fun t ht htr => by
       rw [hrows3, fB (by simpa using (show t < rows2.length by omega)), List.getElem_set_ne (Ne.symm htr)]; exact (fB (by omega)).symm
      have hC3 : ∀ t : Nat, t < R → (gt rows3 (t : Int)).es.length = c2 := fun t ht => by
       by_cases htr : t = r
       ·subst htr; rw [hg3]; exact hel
       ·rw [hk3 t ht htr]; exact hC2 _ (dF (by omega))
      rw [hh3, he3]
      refine iB (φ := allM rows3 (4 * kj + 1)) (by rw [hrows3]; exact Hv.setM (k := kj) (m := kj + kj) aB aB (by omega) (by omega)) ?_
      refine aEJ (M' := .blk (gt rows2 (r : Int)).b (recs eR e1) 50 :: .row q r c (recs eZ (zs pv)) 3 1 :: .blk bo (recs eM rows3) 53 :: ((rows3.eraseIdx r).map fM ++ M1)) (I' := allM rows3 (4 * kj + 1) :: cO e1 (kj + kj) :: allM rows2 kj :: I0) aD aC ?_
      refine mO (M' := .row q r c (recs eZ (zs pv)) 3 1 :: .blk bo (recs eM rows3) 53 :: (rows3.map fM ++ M1)) (by have := yR (rows := rows3) (i := r) (by omega) (A := .row q r c (recs eZ (zs pv)) 3 1) (B := .blk bo (recs eM rows3) 53) (M1 := M1); rw [hg3] at this; exact this.symm) ?_
      clear hkeep hdone hh3 he3 hrows3
      have hlr3 : (gt rows3 (r : Int)).es.length = c2 := hC3 r (by omega)
      repeat' (first | refine aV ?_ | refine aM rfl (fun h => ?_) (fun h => ?_) | refine aN rfl rfl (fun h => ?_) (fun h => ?_) | fail)
      refine aT [0, 5, 6, 7, 12, 13, 89] rfl (fun k G M I => ∃ (i : Nat) (rows4 : List MR), i ≤ R ∧ k = R - i ∧ rows4.length = R ∧ (∀ t : Nat, t < R → (gt rows4 (t : Int)).es.length = c2) ∧ (∀ t : Nat, i ≤ t → t < R → gt rows4 (t : Int) = gt rows3 (t : Int)) ∧ gt rows4 (r : Int) = ⟨(gt rows2 (r : Int)).b, e1⟩ ∧ (∀ t : Nat, t < i → t ≠ r → qs (gt rows4 (t : Int)).es = if at2 (mq rows3) t j = 0 then qs (gt rows3 (t : Int)).es else jZ j (at2 (mq rows3) t j) (qs e1) (qs (gt rows3 (t : Int)).es)) ∧ G = [(90, .int .i64 i)] ∧ M = .row q r c (recs eZ (zs pv)) 3 1 :: .blk bo (recs eM rows4) 53 :: (rows4.map fM ++ M1) ∧ I = allM rows4 (4 * kj + 1) :: cO e1 (kj + kj) :: allM rows2 kj :: I0) (R) _ _ _ aP aD aC (⟨0, rows3, by omega, by omega, hl3, hC3, fun _ _ _ => rfl, hg3, fun t ht => by omega, rfl, rfl, rfl⟩) ?_
      rintro k G M I ⟨i, rows4, hi, rfl, hl4, hC4, hrest, hg4, hdone4, rfl, rfl, rfl⟩
      by_cases hiR : i < R
      ·have hgi := hrest i (Nat.le_refl _) hiR
       by_cases hir : i = r
       ·subst hir
        repeat' (first | refine aV ?_ | refine aM rfl (fun h => ?_) (fun h => ?_) | refine aN rfl rfl (fun h => ?_) (fun h => ?_) | fail)
        refine aL (R - (i + 1)) _ _ _ (by first | omega | (simp only [List.length_append, List.length_cons, List.length_nil]; omega)) aP aD aC (⟨i + 1, rows4, by omega, rfl, hl4, hC4, fun t ht => hrest t (by omega), hg4, fun t ht htr => hdone4 t (by omega) htr, rfl, rfl, rfl⟩)
       ·have hlx := hC4 i hiR
        have hgi2 : gt rows4 (i : Int) = gt rows2 (i : Int) := by rw [hgi]; exact hk3 i hiR hir
        have hat : at2 (mq rows3) i j = (gt (gt rows4 (i : Int)).es (j : Int)).q := by rw [hgi]; rw [hgi] at hlx; exact vV (by omega) (by omega)
        have hlr4 : (gt rows4 (r : Int)).es.length = c2 := hC4 r (by omega)
        have hlx0 := hlx
        have hEl : Hv (allM rows4 (4 * kj + 1) :: cO e1 (kj + kj) :: allM rows2 kj :: I0) (bS (gt (gt rows4 (i : Int)).es (j : Int)) kj) := by rw [hgi2]; exact Hv.elM (List.Mem.tail _ (List.Mem.tail _ (List.Mem.head _))) (by omega) (by rw [← hgi2]; omega) (Nat.le_refl _)
        have hRw : Hv (allM rows4 (4 * kj + 1) :: cO e1 (kj + kj) :: allM rows2 kj :: I0) (cO (gt rows4 (i : Int)).es kj) := by rw [hgi2]; exact Hv.rowMm (List.Mem.tail _ (List.Mem.tail _ (List.Mem.head _))) (by omega) (Nat.le_refl _)
        have hRr : Hv (allM rows4 (4 * kj + 1) :: cO e1 (kj + kj) :: allM rows2 kj :: I0) (cO (gt rows4 (r : Int)).es (kj + kj)) := by rw [hg4]; exact Hv.mem (List.Mem.tail _ (List.Mem.head _))
        have hfoc := foc2 (rows := rows4) (i := i) (j := r) (by omega) (by omega) hir (A := .row q r c (recs eZ (zs pv)) 3 1) (B := .blk bo (recs eM rows4) 53) (M1 := M1)
        have hS := fun M0 => mF (X := X) (w0 := w0) (M0 := M0) (e := gt (gt rows4 (i : Int)).es (j : Int)) (k := kj) (by omega) hEl
        refine mO hfoc ?_
        by_cases hx0 : (gt (gt rows4 (i : Int)).es (j : Int)).q = 0
        ·rw [(oO _).2 hx0] at hS
         repeat' (first | refine aV ?_ | refine aM rfl (fun h => ?_) (fun h => ?_) | refine aN rfl rfl (fun h => ?_) (fun h => ?_) | fail)
         (refine aA rfl (hS _) rfl rfl ?_; rintro _ _ _ ⟨rfl, rfl, rfl⟩; refine ⟨okF, ?_⟩)
         repeat' (first | refine aV ?_ | refine aM rfl (fun h => ?_) (fun h => ?_) | refine aN rfl rfl (fun h => ?_) (fun h => ?_) | fail)
         refine uD hfoc.symm ?_
         refine aL (R - (i + 1)) _ _ _ (by first | omega | (simp only [List.length_append, List.length_cons, List.length_nil]; omega)) aP aD aC (⟨i + 1, rows4, by omega, rfl, hl4, hC4, fun t ht => hrest t (by omega), hg4, fun t ht htr => ?_, rfl, rfl, rfl⟩)
         by_cases hti : t = i
         ·subst hti
          rw [hat, if_pos hx0, hgi]
         ·exact hdone4 t (by omega) htr
        ·have hs0 : ¬ (gt (gt rows4 (i : Int)).es (j : Int)).q.num.sign = 0 := fun h => hx0 ((oO _).1 h)
         have hSb := fun M0 I0 h1 h2 h3 => yO (X := X) (w0 := w0) (M0 := M0) (I0 := I0) (b1 := (gt rows4 (i : Int)).b) (b2 := (gt rows4 (r : Int)).b) (es := (gt rows4 (i : Int)).es) (os := (gt rows4 (r : Int)).es) (κ := gt (gt rows4 (i : Int)).es (j : Int)) (kz := kj) (h := kj + kj) (m := kj) (fr := j) (n := c2) (M1 := .row q r c (recs eZ (zs pv)) 3 1 :: .blk bo (recs eM rows4) 53 :: ((lL rows4 i r).map fM ++ M1)) (by omega) (by omega) hlx hlr4 (by omega) h1 h2 h3
         have hK : kj + (kj + (kj + kj)) + 1 = 4 * kj + 1 := by omega
         rw [hK] at hSb
         generalize (gt (gt rows4 (i : Int)).es (j : Int)).q.num.sign = sg at *
         repeat' (first | refine aV ?_ | refine aM rfl (fun h => ?_) (fun h => ?_) | refine aN rfl rfl (fun h => ?_) (fun h => ?_) | fail)
         (refine aA rfl (hS _) rfl rfl ?_; rintro _ _ _ ⟨rfl, rfl, rfl⟩; refine ⟨okF, ?_⟩)
         repeat' (first | refine aV ?_ | refine aM rfl (fun h => ?_) (fun h => ?_) | refine aN rfl rfl (fun h => ?_) (fun h => ?_) | fail)
         (repeat refine aG ?_); refine uU 1 (.blk bo (recs eM rows4) 53 :: ((lL rows4 i r).map fM ++ M1)) (allM rows4 (4 * kj + 1) :: cO e1 (kj + kj) :: allM rows2 kj :: I0) [0, 1, 2, 3, 4, 5, 6, 7, 8, 9, 10, 11, 12, 13, 14, 15, 16] [1, 1, 1, 0, 1, 1, 1, 0, 1, 1, 1, 1, 1, 1, 0, 0, 0] aD aC mixed (by kernel_rfl) ?_
         repeat' (first | refine aV ?_ | refine aM rfl (fun h => ?_) (fun h => ?_) | refine aN rfl rfl (fun h => ?_) (fun h => ?_) | fail)
         rw [hlx0, hlr4]
         refine dP (φ := cO (gt rows4 (i : Int)).es kj) hRw ?_
         refine dP (φ := bS (gt (gt rows4 (i : Int)).es (j : Int)) kj) hEl.cons ?_
         refine dP (φ := cO (gt rows4 (r : Int)).es (kj + kj)) hRr.cons.cons ?_
         (refine aU rfl (hSb _ _ (List.Mem.tail _ (List.Mem.tail _ (List.Mem.head _))) (List.Mem.head _) (List.Mem.tail _ (List.Mem.head _)) rfl) rfl rfl ?_; rintro _ _ _ ⟨rfl, e5, hl5, hd5, rfl, rfl⟩; refine ⟨okF, ?_⟩)
         obtain ⟨rows5, hrows5⟩ : ∃ rows5, rows5 = rows4.set i ⟨(gt rows4 (i : Int)).b, e5⟩ := ⟨_, rfl⟩
         have hl5' : rows5.length = R := by rw [hrows5, List.length_set]; exact hl4
         have hh5 : recs eM rows4 = recs eM rows5 := by rw [hrows5]; exact (tN (by omega) (by rw [hlx0, hl5])).symm
         have hr5 : lL rows4 i r = lL rows5 i r := by rw [hrows5, uE _ _ _ _ hir]
         have hg5i : gt rows5 (i : Int) = ⟨(gt rows4 (i : Int)).b, e5⟩ := by rw [hrows5, fB (by simpa using (show i < rows4.length by omega))]; simp
         have hg5o : ∀ t : Nat, t < R → t ≠ i → gt rows5 (t : Int) = gt rows4 (t : Int) := fun t ht hti => by
          rw [hrows5, fB (by simpa using (show t < rows4.length by omega)), List.getElem_set_ne (Ne.symm hti)]; exact (fB (by omega)).symm
         have hf5 := foc2 (rows := rows5) (i := i) (j := r) (by omega) (by omega) hir (A := .row q r c (recs eZ (zs pv)) 3 1) (B := .blk bo (recs eM rows5) 53) (M1 := M1)
         rw [hg5i, hg5o r (by omega) (Ne.symm hir)] at hf5
         rw [hh5, hr5]
         refine zC hf5.symm ?_
         refine dP (φ := allM rows5 (4 * kj + 1)) (by rw [hrows5]; exact Hv.setM (k := 4 * kj + 1) (m := 4 * kj + 1) aB aB (by omega) (by omega)) ?_
         repeat' (first | refine aV ?_ | refine aM rfl (fun h => ?_) (fun h => ?_) | refine aN rfl rfl (fun h => ?_) (fun h => ?_) | fail)
         refine aL (R - (i + 1)) _ _ _ (by first | omega | (simp only [List.length_append, List.length_cons, List.length_nil]; omega)) aP aD aC (⟨i + 1, rows5, by omega, rfl, hl5', fun t ht => ?_, fun t ht htR => ?_, ?_, fun t ht htr => ?_, rfl, rfl, rfl⟩)
         ·by_cases hti : t = i
          ·subst hti; rw [hg5i]; exact hl5
          ·rw [hg5o t ht hti]; exact hC4 t ht
         ·rw [hg5o t htR (by omega)]; exact hrest t (by omega) htR
         ·rw [hg5o r (by omega) (Ne.symm hir)]; exact hg4
         ·by_cases hti : t = i
          ·subst hti
           rw [hg5i, hat, if_neg hx0, ← hgi]
           rw [hg4] at hd5
           exact aPI hl5 hlx hel hd5
          ·rw [hg5o t (by omega) hti]; exact hdone4 t (by omega) htr
      ·obtain rfl : i = R := by omega
       have hmq4 : mq rows4 = wC (mq rows1) r j x := by
        unfold wC
        rw [← hmq2, ← hpr, ← hmq3]
        exact aTY hl4 hl3 (by omega) (by rw [hg4]) hg3 hdone4
       have e1 : recs eZ (zs pv) ++ recs eZ [(j : Int)] = recs eZ (zs (pv ++ [j])) := by rw [← mZ]; exact congrArg (recs eZ) (List.map_append (f := fun (x : Nat) => (x : Int)) (l₁ := pv) (l₂ := [j])).symm
       repeat' (first | refine aV ?_ | refine aM rfl (fun h => ?_) (fun h => ?_) | refine aN rfl rfl (fun h => ?_) (fun h => ?_) | fail)
       (refine aQ (cs := recs eZ [(j : Int)]) ([.int .i64 (j : Int)]) rfl rfl (by intro v hv; repeat (first | exact absurd hv (List.not_mem_nil) | (rcases List.mem_cons.1 hv with rfl | hv; · rfl))) (by omega) rfl rfl rfl ?_; intro b3; refine ⟨okF, ?_⟩)
       refine aRW (len := 1) (news := recs eZ [(j : Int)]) 1 rfl rfl rfl (Src.blk aB) (by decide) rfl (aBI (enc := eZ) [(j : Int)]) (by omega) (by omega) rfl rfl ?_
       intro a2 c3
       refine ⟨okF, ?_⟩
       rw [e1]
       repeat' (first | refine aV ?_ | refine aM rfl (fun h => ?_) (fun h => ?_) | refine aN rfl rfl (fun h => ?_) (fun h => ?_) | fail)
       refine gV (φ := allM rows4 (kb k0 (j + 1))) (Hv.monoM (List.Mem.head _) (by omega)) ?_
       refine aL (n - (j + 1)) _ _ _ (by first | omega | (simp only [List.length_append, List.length_cons, List.length_nil]; omega)) aP aD aC (⟨j + 1, r + 1, rows4, pv ++ [j], a2, c3, by omega, rfl, by simp [hr], hl4, fun s hs => ?_, ?_, by omega, by omega, rfl, rfl, rfl⟩)
       ·obtain ⟨t, ht, rfl⟩ := List.mem_iff_getElem.1 hs
        have := hC4 t (by omega)
        rwa [fB ht] at this
       ·rw [xD, hred]
        unfold aQY
        rw [hlen1, hr, hfx2, if_pos hxR2, hmq4]
   ·obtain rfl : x = R := by omega
    repeat' (first | refine aV ?_ | refine aM rfl (fun h => ?_) (fun h => ?_) | refine aN rfl rfl (fun h => ?_) (fun h => ?_) | fail)
    refine gV (φ := allM rows1 (kb k0 (j + 1))) (Hv.monoM (List.Mem.head _) (by omega)) ?_
    refine aL (n - (j + 1)) _ _ _ (by first | omega | (simp only [List.length_append, List.length_cons, List.length_nil]; omega)) aP aD aC (⟨j + 1, r, rows1, pv, q, c, by omega, rfl, hr, hl1, hC1, ?_, hpv, by omega, rfl, rfl, rfl⟩)
    rw [xD, hred]
    unfold aQY
    rw [hlen1, hr, hfx2, if_neg (by omega)]
 ·obtain rfl : j = n := by omega
  repeat' (first | refine aV ?_ | refine aM rfl (fun h => ?_) (fun h => ?_) | refine aN rfl rfl (fun h => ?_) (fun h => ?_) | fail)
  subst hr
  refine aH (by first | exact .inl rfl | exact .inr rfl) rfl rfl _ _ aD aC (⟨rows1, pv, q, c, rfl, hl1, hC1, hred, hpv, rfl, rfl⟩)
end
end Go.Proofs.YtjbhdfpjnjedhaaGreat

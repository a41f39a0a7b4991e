/- matrix.Determinant. matrix.Inverse. Chapter 29, plain: pairs, the maps that they determine, by how much a map misses a pair, samples. -/
import Derived.Test.YtjbhdfpjnjedhaaGreatZpbc
import Derived.Test.YtjbhdfpjnjedhaaGreatZpbd
import Derived.Test.YtjbhdfpjnjedhaaGreatZpam
import Derived.Test.YtjbhdfpjnjedhaaGreatZpan
set_option linter.unusedSimpArgs false
set_option linter.unusedVariables false
set_option maxRecDepth 100000
set_option maxHeartbeats 4000000
namespace Go.Proofs.YtjbhdfpjnjedhaaGreat
open Go Go.Fx
theorem aOU {A : Mt} {r : Nat} (h : r < A.length) : swp A r r = A := by
 have e : rowAt A r = A[r] := by simp [rowAt, List.getD, h]
 unfold swp
 rw [e, List.set_set, List.set_getElem_self]
theorem aPD {rows : List MR} {R C : Nat} (hl : rows.length = R) (hc : ∀ r ∈ rows, r.es.length = C) : wE (mq rows) R C :=
 ⟨by simp [hl], fun i hi => by rw [mH (by omega)]; simp [hc _ (dF (ms := rows) (i := (i : Int)) (by omega))]⟩
theorem aPQ {rows4 rows2 : List MR} {n j : Nat} (h4 : rows4.length = n) (h2 : rows2.length = n)
  (hk : ∀ t : Nat, t < n → t ≤ j → gt rows4 (t : Int) = gt rows2 (t : Int))
  (hd : ∀ t : Nat, t < n → j < t → qs (gt rows4 (t : Int)).es = if at2 (mq rows2) t j = 0 then qs (gt rows2 (t : Int)).es else jZ j (at2 (mq rows2) t j / at2 (mq rows2) j j) (rowAt (mq rows2) j) (qs (gt rows2 (t : Int)).es)) :
  mq rows4 = (mq rows2).mapIdx (fun i row => if i ≤ j then row else if row.getD j 0 = 0 then row else jZ j (row.getD j 0 / at2 (mq rows2) j j) (rowAt (mq rows2) j) row) := by
 apply List.ext_getElem
 ·simp [h4, h2]
 ·intro t h1 h3
  have ht : t < n := by simpa [h4] using h1
  have e4 : (mq rows4)[t] = qs (gt rows4 (t : Int)).es := by rw [fB (by omega)]; simp
  have e3 : (mq rows2)[t]'(by simp; omega) = qs (gt rows2 (t : Int)).es := by rw [fB (by omega)]; simp
  have ea : at2 (mq rows2) t j = (qs (gt rows2 (t : Int)).es).getD j 0 := by unfold at2; rw [mH (by omega)]
  rw [e4, List.getElem_mapIdx, e3]
  by_cases htj : t ≤ j
  ·rw [if_pos htj, hk t ht htj]
  ·rw [if_neg htj, hd t ht (by omega), ea]
/- regions that draw: some reads see all up to a first effect, others what stays up to a second one -/
section
variable {P : Program} {n : Nat} {Q : Exit → Act → World → Prop} {G : Env} {X : List Nat} {w0 : World} {M M' M1 Ms : List Ent} {I I' I1 Is : List aY}
def CsL (J1 J2 : Nat) (X : List Nat) (w0 : World) (M : List Ent) (I : List aY) (Ms : List Ent) (Is : List aY) : Nat → World → Prop := fun s w => (s ≤ J1 → Mem X w0 M I w) ∧ (s ≤ J2 → Mem X w0 Ms Is w)
theorem aNK {id : Nat} {l : List Oper} (J1 J2 : Nat) (Ms : List Ent) (Is : List aY) (p ms : List Nat) (hM : SubP M Ms) (hI : Inc I Is) (hx : P.follows .mixedOrders = true)
  (hp : (Region.noSelect l.toArray && iP l.toArray p ms (Array.replicate l.length false) && p.length == l.length) = true)
  (h : RD P n l Q (.any (CsL J1 J2 X w0 M I Ms Is) 0 ms) (pick l p) G X w0 M I) : TD P n (.region id l.toArray true) Q G X w0 M I :=
 qZ (CsL J1 J2 X w0 M I Ms Is) p ms hx (fun s w h => ⟨fun hs => h.1 (by omega), fun hs => h.2 (by omega)⟩) hp (fun _ h => ⟨fun _ => h, fun _ => h.weak hM hI⟩) h
theorem aJR {J1 J2 k : Nat} {ms : List Nat} (h : k + ms.headD 0 ≤ J1) : View (.any (CsL J1 J2 X w0 M1 I1 Ms Is) k ms) X w0 M I M1 I1 := ⟨fun w w' _ hc => by
 have hc' : CsL J1 J2 X w0 M1 I1 Ms Is (k + ms.headD 0) w' := hc
 exact hc'.1 h⟩
theorem zO {J1 J2 k : Nat} {ms : List Nat} (h : k + ms.headD 0 ≤ J2) : View (.any (CsL J1 J2 X w0 M1 I1 Ms Is) k ms) X w0 M I Ms Is := ⟨fun w w' _ hc => by
 have hc' : CsL J1 J2 X w0 M1 I1 Ms Is (k + ms.headD 0) w' := hc
 exact hc'.2 h⟩
theorem aWP {J1 J2 k : Nat} {ms : List Nat} (h1 : SubP M M1) (i1 : Inc I I1) (h2 : SubP M Ms) (i2 : Inc I Is) : OkD (.any (CsL J1 J2 X w0 M1 I1 Ms Is) k ms) X w0 M I := ⟨fun w hw => by
 show CsL J1 J2 X w0 M1 I1 Ms Is (k + 1) w
 exact ⟨fun _ => hw.weak h1 i1, fun _ => hw.weak h2 i2⟩⟩
theorem aVO {J1 J2 k : Nat} {ms : List Nat} (h1 : J1 ≤ k) (h2 : SubP M Ms) (i2 : Inc I Is) : OkD (.any (CsL J1 J2 X w0 M1 I1 Ms Is) k ms) X w0 M I := ⟨fun w hw => by
 show CsL J1 J2 X w0 M1 I1 Ms Is (k + 1) w
 exact ⟨fun hs => by omega, fun _ => hw.weak h2 i2⟩⟩
end
section
variable {X : List Nat} {w0 : World} {M0 : List Ent} {I0 : List aY}
abbrev zRm : List Value := [.bool false, .slice none 0 0, .bool false, .slice none 0 0]
theorem yP {a : MX} {n k0 : Nat} (hb : kb k0 n ≤ 20000000000) (hk0 : k0 ≤ 20000000000) (da : a.fit n n) (ha : jF a k0 ∈ I0) : CD Tryz.prog 114 [mv a] X w0 M0 I0 (RQc (dt n (at2 a.q)) (kb k0 n) M0 I0) := by
 obtain ⟨n1, n2⟩ := da.2.1
 refine rH (fun w hw => Mem.xsml ha da (by omega) hw) (fun sa => ?_)
 have hC := fun M0 I0 h1 => aDQ (X := X) (w0 := w0) (M0 := M0) (I0 := I0) (a := a.raw) sa h1
 have e0 : sqC a.raw = 0 := by
  unfold sqC
  rw [if_pos da.ok, a.raw_rows, MX.raw_c0 da, da.1.1, if_pos rfl]
 rw [e0, aEE] at hC
 have hW := fun (x : Int) (hx : x.natAbs ≤ 1) M0 I0 => rO (X := X) (w0 := w0) (M0 := M0) (I0 := I0) (x := x) (by omega) (k := 0) hx
 refine cZ (φ := wR a.raw) (Hv.xraw ha (by omega)) ?_
 refine aZ Tryz.func114 rfl Tryz.ntmps114 rfl ?_
 refine aG ?_
 refine aJ ?_
 (refine aI rfl rfl ?_; intro b2; refine ⟨okF, ?_⟩)
 repeat (refine aK ?_)
 (refine aA rfl (hC _ _ aB) rfl rfl ?_; rintro _ _ _ ⟨rfl, rfl, rfl⟩; refine ⟨okF, ?_⟩)
 repeat (refine aK ?_)
 (refine aA rfl (aHU da aB) rfl rfl ?_; rintro _ _ _ ⟨bo, rows0, rfl, hl0, hc0, hq0, rfl, rfl⟩; refine ⟨okF, ?_⟩)
 repeat (refine aK ?_)
 (refine aA rfl (hW 1 (by decide) _ _) rfl rfl ?_; rintro _ _ _ ⟨rfl, d0, rfl, hd0, rfl⟩; refine ⟨okF, ?_⟩)
 repeat (refine aK ?_)
 (refine aI rfl rfl ?_; intro b6; refine ⟨okF, ?_⟩)
 repeat (refine aK ?_)
 obtain ⟨M1, hM1⟩ : ∃ M1 : List Ent, M1 = .blk b2 zRm 50 :: M0 := ⟨_, rfl⟩
 rw [← hM1]
 have hmq0 : mq rows0 = a.q := by rw [da.1.mk]; exact hq0
 refine iB (φ := bS d0 (kb k0 0)) (Hv.q (k := 0) (List.Mem.head _) (Nat.zero_le _)) ?_
 refine aT [2, 5, 6, 20] rfl (fun k G M I => ∃ (j : Nat) (rows1 : List MR) (d : RE), j ≤ n ∧ k = n - j ∧ rows1.length = n ∧ (∀ r ∈ rows1, r.es.length = n) ∧ dt n (at2 a.q) = d.q * dt (n - j) (yQ (mq rows1) j) ∧ G = [(21, .int .i64 j)] ∧ M = .blk b6 (eR d) 50 :: .blk bo (recs eM rows1) 53 :: (rows1.map fM ++ M1) ∧ I = bS d (kb k0 j) :: allM rows1 (kb k0 j) :: I0) (n) _ _ _ aP aD aC (⟨0, rows0, d0, by omega, rfl, hl0, hc0, by rw [hd0, hmq0, aSV]; grind, rfl, rfl, rfl⟩) ?_
 clear hC
 rintro kk G M I ⟨j, rows1, d, hj, rfl, hl1, hC1, hD, rfl, rfl, rfl⟩
 have hCg : ∀ t : Nat, t < n → (gt rows1 (t : Int)).es.length = n := fun t ht => hC1 _ (dF (by omega))
 have hdim := aPD hl1 hC1
 have hbj := zU k0 (m := j) (n := n) hj
 by_cases hjn : j < n
 ·have hb4 : 4 * kb k0 j + 1 ≤ 20000000000 := Nat.le_trans (zU k0 (m := j + 1) (n := n) hjn) hb
  have hkj1 : kb k0 (j + 1) = 4 * kb k0 j + 1 := rfl
  generalize hkj : kb k0 j = kj at *
  repeat (refine aK ?_)
  refine aT [2, 5, 6, 7, 20, 21] rfl (fun k G M I => ∃ x : Nat, j ≤ x ∧ x ≤ n ∧ k = n - x ∧ (∀ i : Nat, j ≤ i → i < x → at2 (mq rows1) i j = 0) ∧ G = [(8, .int .i64 x)] ∧ M = .blk b6 (eR d) 50 :: .blk bo (recs eM rows1) 53 :: (rows1.map fM ++ M1) ∧ I = bS d kj :: allM rows1 kj :: I0) (n - j) _ _ _ aP aD aC (⟨j, by omega, by omega, rfl, fun i h1 h2 => by omega, rfl, rfl, rfl⟩) ?_
  rintro k G M I ⟨x, hjx, hxn, rfl, hz, rfl, rfl, rfl⟩
  by_cases hxn2 : x < n
  ·have hlx := hCg x hxn2
   have hat := vV (rows := rows1) (i := x) (j := j) (by omega) (by omega)
   have hS := mF (X := X) (w0 := w0) (M0 := .blk (gt rows1 (x : Int)).b (recs eR (gt rows1 (x : Int)).es) 50 :: .blk b6 (eR d) 50 :: .blk bo (recs eM rows1) 53 :: ((rows1.eraseIdx x).map fM ++ M1)) (I0 := bS d kj :: allM rows1 kj :: I0) (e := gt (gt rows1 (x : Int)).es (j : Int)) (k := kj) (by omega) (Hv.elM (List.Mem.tail _ (List.Mem.head _)) (by omega) (by omega) (Nat.le_refl _))
   by_cases hx2 : at2 (mq rows1) x j = 0
   ·rw [hat] at hx2
    rw [(oO _).2 hx2] at hS
    refine mO (yR (rows := rows1) (i := x) (by omega)) ?_
    repeat (refine aK ?_)
    (refine aA rfl (hS) rfl rfl ?_; rintro _ _ _ ⟨rfl, rfl, rfl⟩; refine ⟨okF, ?_⟩)
    repeat (refine aK ?_)
    refine uD (yR (rows := rows1) (i := x) (by omega)).symm ?_
    refine aL (n - (x + 1)) _ _ _ (by first | omega | (simp only [List.length_append, List.length_cons, List.length_nil]; omega)) aP aD aC (⟨x + 1, by omega, by omega, rfl, fun i h1 h2 => ?_, rfl, rfl, rfl⟩)
    by_cases e : i = x
    ·rw [e, hat]; exact hx2
    ·exact hz i h1 (by omega)
   ·have hxne := hx2
    rw [hat] at hx2
    have hs0 : ¬ (gt (gt rows1 (x : Int)).es (j : Int)).q.num.sign = 0 := fun h => hx2 ((oO _).1 h)
    generalize (gt (gt rows1 (x : Int)).es (j : Int)).q.num.sign = sg1 at *
    refine mO (yR (rows := rows1) (i := x) (by omega)) ?_
    repeat (refine aK ?_)
    (refine aA rfl (hS) rfl rfl ?_; rintro _ _ _ ⟨rfl, rfl, rfl⟩; refine ⟨okF, ?_⟩)
    clear hS
    repeat (refine aK ?_)
    refine mO (yR (rows := rows1) (i := x) (by omega)).symm ?_
    refine mU (fun G M I => ∃ (rows2 : List MR) (d2 : RE), rows2.length = n ∧ (∀ r ∈ rows2, r.es.length = n) ∧ mq rows2 = swp (mq rows1) j x ∧ d2.q = esg j x * d.q ∧ G = [(2, .pointer (some ⟨b2, 0, none⟩)), (5, .slice (some ⟨bo, 0, none⟩) n n), (6, .pointer (some ⟨b6, 0, none⟩)), (7, .int .i64 (j : Int)), (20, .int .i64 (n : Int)), (21, .int .i64 (j : Int))] ∧ M = .blk b6 (eR d2) 50 :: .blk bo (recs eM rows2) 53 :: (rows2.map fM ++ M1) ∧ I = bS d2 kj :: allM rows2 kj :: I0) ?_ ?_
    ·by_cases hxj : x = j
     ·subst hxj
      repeat (refine aK ?_)
      refine eX _ _ _ aP aD aC ⟨rows1, d, hl1, hC1, ?_, ?_, rfl, rfl, rfl⟩
      ·exact (aOU (by simp [hl1]; omega)).symm
      ·unfold esg; rw [if_pos rfl]; grind
     ·repeat (refine aK ?_)
      (repeat refine aG ?_); refine bG 0 [0, 1, 2, 3, 4, 5, 6, 7, 8, 9, 10, 11, 12, 13, 14, 15] [0, 0, 1, 1, 0, 0, 0, 0, 1, 1, 1, 0, 0, 0, 0, 0] mixed (by kernel_rfl) ?_
      repeat (refine yXh ?_)
      refine kI rfl rfl rfl lN (StAt.r1 (gt rows1 (j : Int)) (by omega) rfl) rfl rfl ⟨okF, ?_⟩
      repeat (refine yXh ?_)
      refine kI rfl rfl rfl lN (StAt.r1 (gt rows1 (x : Int)) (by rw [eQ]; omega) rfl) rfl rfl ⟨okF, ?_⟩
      obtain ⟨rows2, hrows2⟩ : ∃ rows2, rows2 = st (st rows1 (x : Int) (gt rows1 (j : Int))) (j : Int) (gt rows1 (x : Int)) := ⟨_, rfl⟩
      have hsp := swap_perm (rows := rows1) (r := x) (k := j) (by omega) (by omega)
      rw [← hrows2] at hsp ⊢
      refine zC (M' := .blk b6 (eR d) 50 :: .blk bo (recs eM rows2) 53 :: (rows2.map fM ++ M1)) (List.Perm.cons _ (List.Perm.cons _ ((hsp.symm.map fM).append_right M1))) ?_
      refine dP (φ := allM rows2 kj) (Hv.permM (List.Mem.tail _ (List.Mem.head _)) hsp) ?_
      repeat (refine aK ?_)
      (refine aA rfl (aEO (k := kj) (by omega) (Hv.mem aB)) rfl rfl ?_; rintro _ _ _ ⟨rfl, d2, rfl, hd2, rfl⟩; refine ⟨okF, ?_⟩)
      repeat (refine aK ?_)
      refine eX _ _ _ aP aD aC ⟨rows2, d2, by rw [hsp.length_eq]; exact hl1, fun r hr => hC1 r (hsp.mem_iff.1 hr), ?_, ?_, rfl, rfl, rfl⟩
      ·rw [hrows2]
       unfold st swp
       simp only [Int.toNat_natCast]
       rw [aBQ, aBQ, mH (by omega), mH (by omega), List.set_comm _ _ hxj]
      ·unfold esg; rw [if_neg (fun e => hxj e.symm), hd2]; grind
    ·clear hs0 hz
     rintro G M I ⟨rows2, d2, hl2, hC2, hmq2, hd2, rfl, rfl, rfl⟩
     have hC2g : ∀ t : Nat, t < n → (gt rows2 (t : Int)).es.length = n := fun t ht => hC2 _ (dF (by omega))
     have hdim2 := aPD hl2 hC2
     have hlr := hC2g j hjn
     have hatj := vV (rows := rows2) (i := j) (j := j) (by omega) (by omega)
     have hpe : at2 (mq rows2) j j = at2 (mq rows1) x j := by
      rw [hmq2]
      unfold at2
      rw [pG hdim hjn hxn2]
      simp [tr]
     have hpiv : (gt (gt rows2 (j : Int)).es (j : Int)).q ≠ 0 := by rw [← hatj, hpe]; exact hxne
     have hEl : ∀ I, allM rows2 kj ∈ I → Hv I (bS (gt (gt rows2 (j : Int)).es (j : Int)) kj) := fun I h => Hv.elM h (by omega) (by omega) (Nat.le_refl _)
     refine mO (yR (rows := rows2) (i := j) (by omega)) ?_
     (repeat refine aG ?_); refine bG 1 [0, 1, 2, 3, 4, 5, 6, 7, 8, 9] [0, 1, 1, 1, 1, 1, 1, 0, 0, 0] mixed (by kernel_rfl) ?_
     repeat (refine aK ?_)
     (refine aA rfl (qC (k := kj) (m := kj) (by omega) (Hv.mem aB) (hEl _ aB)) rfl rfl ?_; rintro _ _ _ ⟨rfl, d3, rfl, hd3, rfl⟩; refine ⟨okF, ?_⟩)
     repeat (refine aK ?_)
     refine mO (yR (rows := rows2) (i := j) (by omega)).symm ?_
     refine iB (φ := allM rows2 (4 * kj + 1)) (Hv.monoM (k := kj) aB (by omega)) ?_
     refine aT [2, 5, 6, 7, 20, 21] rfl (fun k G M I => ∃ (i : Nat) (rows4 : List MR), j + 1 ≤ i ∧ i ≤ n ∧ k = n - i ∧ rows4.length = n ∧ (∀ t : Nat, t < n → (gt rows4 (t : Int)).es.length = n) ∧ (∀ t : Nat, t < n → (t ≤ j ∨ i ≤ t) → gt rows4 (t : Int) = gt rows2 (t : Int)) ∧ (∀ t : Nat, j < t → t < i → qs (gt rows4 (t : Int)).es = if at2 (mq rows2) t j = 0 then qs (gt rows2 (t : Int)).es else jZ j (at2 (mq rows2) t j / at2 (mq rows2) j j) (rowAt (mq rows2) j) (qs (gt rows2 (t : Int)).es)) ∧ G = [(9, .int .i64 i)] ∧ M = .blk b6 (eR d3) 50 :: .blk bo (recs eM rows4) 53 :: (rows4.map fM ++ M1) ∧ I = allM rows4 (4 * kj + 1) :: bS d3 (kj + kj) :: allM rows2 kj :: I0) (n - (j + 1)) _ _ _ aP aD aC (⟨j + 1, rows2, by omega, by omega, rfl, hl2, hC2g, fun _ _ _ => rfl, fun t h1 h2 => by omega, rfl, rfl, rfl⟩) ?_
     rintro k G M I ⟨i, rows4, hji, hin, rfl, hl4, hC4, hrest, hdone, rfl, rfl, rfl⟩
     have hg4j := hrest j hjn (.inl (Nat.le_refl _))
     by_cases hi : i < n
     ·have hgi := hrest i hi (.inr (Nat.le_refl _))
      have hij : i ≠ j := by omega
      have hlx := hC4 i hi
      have hlj := hC4 j hjn
      have hat : at2 (mq rows2) i j = (gt (gt rows4 (i : Int)).es (j : Int)).q := by rw [hgi]; exact vV (by omega) (by rw [hC2g i hi]; omega)
      have hEi : ∀ I, allM rows2 kj ∈ I → Hv I (bS (gt (gt rows4 (i : Int)).es (j : Int)) kj) := fun I h => by rw [hgi]; exact Hv.elM h (by omega) (by rw [hC2g i hi]; omega) (Nat.le_refl _)
      have hEj : ∀ I, allM rows2 kj ∈ I → Hv I (bS (gt (gt rows4 (j : Int)).es (j : Int)) kj) := fun I h => by rw [hg4j]; exact hEl I h
      have hpj : (gt (gt rows4 (j : Int)).es (j : Int)).q ≠ 0 := by rw [hg4j]; exact hpiv
      have hRi : ∀ I, allM rows2 kj ∈ I → Hv I (cO (gt rows4 (i : Int)).es kj) := fun I h => by rw [hgi]; exact Hv.rowMm h (by omega) (Nat.le_refl _)
      have hRj : ∀ I, allM rows2 kj ∈ I → Hv I (cO (gt rows4 (j : Int)).es kj) := fun I h => by rw [hg4j]; exact Hv.rowMm h (by omega) (Nat.le_refl _)
      have hfoc := foc2 (rows := rows4) (i := i) (j := j) (by omega) (by omega) hij (A := .blk b6 (eR d3) 50) (B := .blk bo (recs eM rows4) 53) (M1 := M1)
      have hS := fun M0 I0 h => mF (X := X) (w0 := w0) (M0 := M0) (I0 := I0) (e := gt (gt rows4 (i : Int)).es (j : Int)) (k := kj) (by omega) h
      refine mO hfoc ?_
      by_cases hx0 : (gt (gt rows4 (i : Int)).es (j : Int)).q = 0
      ·rw [(oO _).2 hx0] at hS
       repeat (refine aK ?_)
       (refine aA rfl (hS _ _ (hEi _ aB)) rfl rfl ?_; rintro _ _ _ ⟨rfl, rfl, rfl⟩; refine ⟨okF, ?_⟩)
       repeat (refine aK ?_)
       refine uD hfoc.symm ?_
       refine aL (n - (i + 1)) _ _ _ (by first | omega | (simp only [List.length_append, List.length_cons, List.length_nil]; omega)) aP aD aC (⟨i + 1, rows4, by omega, by omega, rfl, hl4, hC4, fun t ht h => hrest t ht (by omega), fun t h1 h2 => ?_, rfl, rfl, rfl⟩)
       by_cases hti : t = i
       ·subst hti
        rw [hat, if_pos hx0, hgi]
       ·exact hdone t h1 (by omega)
      ·have hs0 : ¬ (gt (gt rows4 (i : Int)).es (j : Int)).q.num.sign = 0 := fun h => hx0 ((oO _).1 h)
       generalize (gt (gt rows4 (i : Int)).es (j : Int)).q.num.sign = sg2 at *
       repeat (refine aK ?_)
       (refine aA rfl (hS _ _ (hEi _ aB)) rfl rfl ?_; rintro _ _ _ ⟨rfl, rfl, rfl⟩; refine ⟨okF, ?_⟩)
       repeat (refine aK ?_)
       (repeat refine aG ?_); refine aNK 1 2 (.blk b6 (eR d3) 50 :: .blk bo (recs eM rows4) 53 :: ((lL rows4 i j).map fM ++ M1)) (allM rows4 (4 * kj + 1) :: bS d3 (kj + kj) :: allM rows2 kj :: I0) [0, 1, 2, 3, 4, 5, 6, 7, 8, 9, 10, 11, 12, 13, 14, 15, 16, 17, 18, 19, 20, 21, 23, 22, 24] [2, 2, 2, 1, 2, 2, 2, 1, 2, 2, 2, 2, 2, 2, 1, 2, 2, 2, 2, 2, 2, 1, 1, 0, 0] aD aC mixed (by kernel_rfl) ?_
       repeat (refine aK ?_)
       (apply fU; exact zO (by decide); exact rfl; exact aB; exact pI; exact rfl; exact rfl)
       repeat (refine aK ?_)
       (apply fU; exact zO (by decide); exact rfl; exact aB; exact pI; exact rfl; exact rfl)
       repeat (refine aK ?_)
       (apply fU; exact zO (by decide); exact rfl; exact aB; exact pI; exact rfl; exact rfl)
       repeat (refine aK ?_)
       (apply lV; exact aJR (by decide); exact rfl; exact aB; exact atY; exact rfl; exact rfl)
       repeat (refine aK ?_)
       (apply fU; exact zO (by decide); exact rfl; exact aB; exact pI; exact rfl; exact rfl)
       repeat (refine aK ?_)
       (apply lV; exact aJR (by decide); exact rfl; exact aB; exact atY; exact rfl; exact rfl)
       repeat (refine aK ?_)
       (refine aA rfl (yL (k := kj) (m := kj) (by omega) hpj (hEi _ aB) (hEj _ aB)) rfl rfl ?_; rintro _ _ _ ⟨rfl, κ, rfl, hκ, rfl⟩; refine ⟨aWP aD aC aD aC, ?_⟩)
       repeat (refine aK ?_)
       rw [hlx, hlj]
       refine dP (φ := cO (gt rows4 (i : Int)).es kj) (hRi _ aB) ?_
       refine dP (φ := cO (gt rows4 (j : Int)).es kj) (hRj _ aB) ?_
       (refine aA rfl (yO (kz := kj) (m := kj + kj) (h := kj) (fr := j) (n := n) (κ := κ) (M1 := .blk b6 (eR d3) 50 :: .blk bo (recs eM rows4) 53 :: ((lL rows4 i j).map fM ++ M1)) (by omega) (by omega) hlx hlj (by omega) aB aB aB rfl) rfl rfl ?_; rintro _ _ _ ⟨rfl, e5, hl5, hd5, rfl, rfl⟩; refine ⟨aVO (by decide) aD aC, ?_⟩)
       rw [show kj + (kj + kj + kj) + 1 = 4 * kj + 1 by omega]
       obtain ⟨rows5, hrows5⟩ : ∃ rows5, rows5 = rows4.set i ⟨(gt rows4 (i : Int)).b, e5⟩ := ⟨_, rfl⟩
       have hl5' : rows5.length = n := by rw [hrows5, List.length_set]; exact hl4
       have hh5 : recs eM rows4 = recs eM rows5 := by rw [hrows5]; exact (tN (by omega) (by rw [hlx, hl5])).symm
       have hr5 : lL rows4 i j = lL rows5 i j := by rw [hrows5, uE _ _ _ _ hij]
       have hg5i : gt rows5 (i : Int) = ⟨(gt rows4 (i : Int)).b, e5⟩ := by rw [hrows5, fB (by simpa using (show i < rows4.length by omega))]; simp
       have hg5o : ∀ t : Nat, t < n → t ≠ i → gt rows5 (t : Int) = gt rows4 (t : Int) := fun t ht hti => by
        rw [hrows5, fB (by simpa using (show t < rows4.length by omega)), List.getElem_set_ne (Ne.symm hti)]; exact (fB (by omega)).symm
       have hf5 := foc2 (rows := rows5) (i := i) (j := j) (by omega) (by omega) hij (A := .blk b6 (eR d3) 50) (B := .blk bo (recs eM rows5) 53) (M1 := M1)
       rw [hg5i, hg5o j (by omega) (Ne.symm hij)] at hf5
       rw [hh5, hr5]
       refine zC hf5.symm ?_
       refine dP (φ := allM rows5 (4 * kj + 1)) (by rw [hrows5]; exact Hv.setM (k := 4 * kj + 1) (m := 4 * kj + 1) aB aB (by omega) (by omega)) ?_
       repeat (refine aK ?_)
       refine aL (n - (i + 1)) _ _ _ (by first | omega | (simp only [List.length_append, List.length_cons, List.length_nil]; omega)) aP aD aC (⟨i + 1, rows5, by omega, by omega, rfl, hl5', fun t ht => ?_, fun t ht h => ?_, fun t h1 h2 => ?_, rfl, rfl, rfl⟩)
       ·by_cases hti : t = i
        ·subst hti; rw [hg5i]; exact hl5
        ·rw [hg5o t ht hti]; exact hC4 t ht
       ·rw [hg5o t ht (by omega)]; exact hrest t ht (by omega)
       ·by_cases hti : t = i
        ·subst hti
         rw [hg5i, hat, if_neg hx0, ← hgi]
         have e1 : rowAt (mq rows2) j = qs (gt rows4 (j : Int)).es := by rw [mH (by omega), hg4j]
         have e2 : at2 (mq rows2) j j = (gt (gt rows4 (j : Int)).es (j : Int)).q := by rw [hg4j]; exact hatj
         rw [e1, e2, ← hκ]
         exact aPI hl5 hlx hlj hd5
        ·rw [hg5o t (by omega) hti]; exact hdone t h1 (by omega)
     ·obtain rfl : i = n := by omega
      have hmq4 : mq rows4 = tX (mq rows1) j x := by
       unfold tX
       rw [← hmq2]
       exact aPQ hl4 hl2 (fun t ht h => hrest t ht (.inl h)) (fun t ht h => hdone t h ht)
      repeat (refine aK ?_)
      refine gV (φ := bS d3 (kb k0 (j + 1))) (Hv.q (k := kj + kj) aB (by omega)) ?_
      refine gV (φ := allM rows4 (kb k0 (j + 1))) (Hv.monoM (k := 4 * kj + 1) aB (by omega)) ?_
      refine aL (i - (j + 1)) _ _ _ (by first | omega | (simp only [List.length_append, List.length_cons, List.length_nil]; omega)) aP aD aC (⟨j + 1, rows4, d3, by omega, rfl, hl4, fun r hr => ?_, ?_, rfl, rfl, rfl⟩)
      ·obtain ⟨t, ht, rfl⟩ := List.mem_iff_getElem.1 hr
       have := hC4 t (by omega)
       rwa [fB ht] at this
      ·rw [hD, hd3, ← hatj, hpe, hd2, aQV hdim hjn hjx hxn2 hxne, hmq4]; grind
  ·obtain rfl : x = n := by omega
   repeat (refine aK ?_)
   (refine aA rfl (hW 0 (by decide) _ _) rfl rfl ?_; rintro _ _ _ ⟨rfl, e1, rfl, he1, rfl⟩; refine ⟨okF, ?_⟩)
   rw [hM1]
   refine uY (M' := .blk b2 zRm 50 :: M0) (I' := bS e1 0 :: I0) (SubP.drop (SubP.drop (lH SubP.refl))) aC ?_
   repeat (refine aK ?_)
   refine gV (φ := bS e1 (kb k0 x)) (Hv.q (k := 0) aB (Nat.zero_le _)) ?_
   refine fO (rs := [.cell 2 50, .tmp 3]) (vs := [rv e1, .int .i64 0]) (.inl rfl) rfl (.cellN (cs := eR e1) inferInstance rfl aB rfl (.tmp rfl .nil)) rfl M0 (bS e1 (kb k0 x) :: I0) aD aC ⟨rfl, e1, rfl, ?_, rfl⟩
   rw [hD, he1, aOE hjn (fun i h1 h2 => hz i h1 h2)]; grind
 ·obtain rfl : j = n := by omega
  rw [hM1]
  refine aEJ (M' := .blk b6 (eR d) 50 :: .blk b2 zRm 50 :: M0) (I' := bS d (kb k0 j) :: I0) (SubP.cons .here (SubP.drop (lH SubP.refl))) aC ?_
  repeat (refine aK ?_)
  refine fO (rs := [.cell 2 50, .tmp 3]) (vs := [rv d, .int .i64 0]) (.inl rfl) rfl (.cellN (cs := eR d) inferInstance rfl aB rfl (.tmp rfl .nil)) rfl M0 (bS d (kb k0 j) :: I0) aD aC ⟨rfl, d, rfl, ?_, rfl⟩
  rw [hD, Nat.sub_self]
  show d.q = d.q * 1
  grind
end
end Go.Proofs.YtjbhdfpjnjedhaaGreat
namespace Go.Proofs.YtjbhdfpjnjedhaaGreat
open Go Go.Fx
def yU (n : Nat) (A : Mt) : Mt := xW n (n + n) (fun i j => if j < n then at2 A i j else pR i (j - n))
def aCM (n : Nat) (A : Mt) : Mt := xW n n (fun i j => at2 (qA (yU n A) n).1 i (n + j))
theorem aJY {R C : Nat} {F : Nat → Nat → Rat} : wE (xW R C F) R C := ⟨by simp [xW], fun i hi => by simp [xW, rowAt, List.getD, hi]⟩
theorem aQF {n : Nat} {A : Mt} {i j : Nat} (hi : i < n) (hj : j < n) : at2 (yU n A) i j = at2 A i j := by
 unfold yU
 rw [tQ hi (by omega), if_pos hj]
theorem aVA {n : Nat} {A : Mt} {i j : Nat} (hi : i < n) (hj : j < n) : at2 (yU n A) i (n + j) = pR i j := by
 unfold yU
 rw [tQ hi (by omega), if_neg (by omega), Nat.add_sub_cancel_left]
theorem aJZ {n : Nat} {A : Mt} : (qA (yU n A) n).2.length = n ↔ dt n (at2 A) ≠ 0 := by
 obtain ⟨_, s, hr⟩ := aAR (A := yU n A) (R := n) (C := n + n) aJY n (by omega)
 rw [hr.iff (by omega), kF (f := at2 (yU n A)) (g := at2 A) (fun i j hi hj => aQF hi hj)]
theorem aUJ {n : Nat} {A : Mt} (h : dt n (at2 A) ≠ 0) : (∀ i j, i < n → j < n → rP n (at2 A) (at2 (aCM n A)) i j = pR i j) ∧ (∀ i j, i < n → j < n → rP n (at2 (aCM n A)) (at2 A) i j = pR i j) := by
 obtain ⟨_, s, hr⟩ := aAR (A := yU n A) (R := n) (C := n + n) aJY n (by omega)
 obtain ⟨h1, h2⟩ := hr.inv (a := at2 A) (aJZ.2 h) (fun i j hi hj => aQF hi hj) (fun i j hi hj => aVA hi hj)
 have e : ∀ i j, i < n → j < n → at2 (aCM n A) i j = at2 (qA (yU n A) n).1 i (n + j) := fun i j hi hj => by unfold aCM; rw [tQ hi hj]
 constructor
 ·intro i j hi hj
  rw [← h1 i j hi hj]
  exact vP (fun _ _ => rfl) (fun k hk => e k j hk hj)
 ·intro i j hi hj
  rw [← h2 i j hi hj]
  exact vP (fun k hk => e i k hi hk) (fun _ _ => rfl)
section
variable {X : List Nat} {w0 : World} {M0 : List Ent} {I0 : List aY}
theorem aEX {a : MX} {n k0 : Nat} (hb : kb k0 n ≤ 20000000000) (hk0 : k0 ≤ 20000000000) (da : a.fit n n) (ha : jF a k0 ∈ I0) : CD Tryz.prog 132 [mv a] X w0 M0 I0 (fun v M I => if dt n (at2 a.q) = 0 then (M0 = M ∧ I0 = I ∧ v = .tuple #[.slice none 0 0, .int .i64 14]) else XQc (aCM n a.q) n n (kb k0 n) M0 I0 v M I) := by
 obtain ⟨n1, n2⟩ := da.2.1
 refine rH (fun w hw => Mem.xsml ha da (by omega) hw) (fun sa => ?_)
 have hC := fun M0 I0 h1 => aDQ (X := X) (w0 := w0) (M0 := M0) (I0 := I0) (a := a.raw) sa h1
 have e0 : sqC a.raw = 0 := by
  unfold sqC
  rw [if_pos da.ok, a.raw_rows, MX.raw_c0 da, da.1.1, if_pos rfl]
 rw [e0, aEE] at hC
 have lR := da.1.1
 refine cZ (φ := wR a.raw) (Hv.xraw ha (by omega)) ?_
 refine aZ Tryz.func132 rfl Tryz.ntmps132 rfl ?_
 repeat (refine aK ?_)
 (refine aA rfl (hC _ _ aB) rfl rfl ?_; rintro _ _ _ ⟨rfl, rfl, rfl⟩; refine ⟨okF, ?_⟩)
 repeat (refine aK ?_)
 (refine aI rfl rfl ?_; intro b5; refine ⟨okF, ?_⟩)
 repeat (refine aK ?_)
 rw [lR]
 refine bC .here ?_
 repeat (refine aK ?_)
 (refine aA rfl (aGP (R := n) (C := n) (g := 176) (fs := #[]) (cs := #[]) (k0 := 0) (by omega) (by omega) pR (fun M I _ i j hi hj => by have := aTI (X := X) (w0 := w0) (M0 := M) (I0 := I) (i := (i : Int)) (j := (j : Int)); rw [← aSR] at this; exact this)) rfl rfl ?_; rintro _ _ _ ⟨rfl, u, rfl, hu, hud, rfl⟩; refine ⟨okF, ?_⟩)
 repeat (refine aK ?_)
 refine dP (φ := jF u k0) (Hv.xm (k := 0) aB (Nat.zero_le _)) ?_
 (refine aA rfl (aMZ da ⟨hud, ⟨n1, n2⟩, n1, n2⟩ aB aB) rfl rfl ?_; rintro _ _ _ ⟨bo, rows0, rfl, hl0, hc0, hq0, rfl, rfl⟩; refine ⟨okF, ?_⟩)
 repeat (refine aK ?_)
 (refine aI rfl rfl ?_; intro b6; refine ⟨okF, ?_⟩)
 repeat (refine aK ?_)
 refine yT (fun _ hw => hw.freezeB .here) ?_
 have hB : mq rows0 = yU n a.q := by
  unfold yU
  refine Eq.trans hq0 ?_
  refine aDN (R := n) (C := n + n) (fun i j hi hj => ?_)
  by_cases e : j < n
  ·rw [if_pos e, if_pos e]
  ·rw [if_neg e, if_neg e, hu, tQ hi (by omega)]
 (repeat refine aG ?_); refine uU 1 (M0) (aO (some ⟨b6, 0, none⟩) [.slice (some ⟨bo, 0, none⟩) n n] :: aO (some ⟨b5, 0, none⟩) [.int .i64 (n : Int)] :: I0) [0, 1, 4, 2, 3, 5] [0, 0, 1, 0, 0, 0] (SubP.drop (lH SubP.refl)) aC mixed (by kernel_rfl) ?_
 repeat (refine aK ?_)
 have hRd := fun I0 h => aLS (X := X) (w0 := w0) (M0 := .blk bo (recs eM rows0) 53 :: (rows0.map fM ++ M0)) (I0 := I0) (bo := bo) (R := n) (C := n + n) (n := n) (k0 := k0) (rows := rows0) (M1 := M0) hl0 (by omega) (by omega) hc0 (by omega) (by omega) h rfl
 (refine aA rfl (hRd _ aB) rfl rfl ?_; rintro _ _ _ ⟨rows, pv, q, c, rfl, hl, hc, hred, hpv, rfl, rfl⟩; refine ⟨OkD.kY (SubP.drop (SubP.drop (lH SubP.refl))) aC, ?_⟩)
 rw [hB] at hred
 have hiff : pv.length = n ↔ dt n (at2 a.q) ≠ 0 := by
  have := aJZ (n := n) (A := a.q)
  rw [hred] at this
  exact this
 by_cases hd0 : dt n (at2 a.q) = 0
 ·simp only [if_pos hd0]
  have hlt : pv.length < n := by
   rcases Nat.lt_or_ge pv.length n with h | h
   ·exact h
   ·exact absurd hd0 (hiff.1 (by omega))
  repeat (refine aK ?_)
  refine eP [2, 3] (.inl rfl) rfl rfl rfl M0 I0 (SubP.drop (SubP.drop (lH SubP.refl))) aC ⟨rfl, rfl, rfl⟩
 ·simp only [if_neg hd0]
  have hlt : pv.length = n := hiff.2 hd0
  repeat (refine aK ?_)
  refine uY (M' := .blk bo (recs eM rows) 53 :: (rows.map fM ++ M0)) (I' := allM rows (kb k0 n) :: aO (some ⟨b6, 0, none⟩) [.slice (some ⟨bo, 0, none⟩) n n] :: aO (some ⟨b5, 0, none⟩) [.int .i64 (n : Int)] :: I0) (SubP.drop SubP.refl) aC ?_
  refine sW (fun _ hw => aJS hw (List.Mem.head _)) ?_
  refine dP (φ := bxX b6 (MR.x bo rows)) (by show Hv _ (aO _ [.slice (some ⟨bo, 0, none⟩) (rows.map MR.l).length rows.length]); rw [List.length_map, hl]; exact Hv.mem aB) ?_
  have xl : (MR.x bo rows).rows.length = n := by show (rows.map MR.l).length = n; rw [List.length_map, hl]
  have xc : ∀ i : Nat, i < n → (gt (MR.x bo rows).rows (i : Int)).es.length = n + n := fun i hi => by
   have : gt (MR.x bo rows).rows (i : Int) = (gt rows (i : Int)).l := aFI (by omega)
   rw [this]; exact hc _ (dF (by omega))
  have hg := fun M I (hI : ∀ φ ∈ bxX b6 (MR.x bo rows) :: jF (MR.x bo rows) (kb k0 n) :: allM rows (kb k0 n) :: aO (some ⟨b6, 0, none⟩) [.slice (some ⟨bo, 0, none⟩) n n] :: aO (some ⟨b5, 0, none⟩) [.int .i64 (n : Int)] :: I0, φ ∈ I) (i j : Nat) (hi : i < n) (hj : j < n) => aGD (X := X) (w0 := w0) (M0 := M) (I0 := I) (a := MR.x bo rows) (p := b6) (q := b5) (k := kb k0 n) (i := i) (j := j) (n := n) (by omega) (by rw [xc i hi]; omega) (by omega) (by omega) (hI _ aB) (hI _ aB) (hI _ aB)
  (refine aA rfl (aGP (R := n) (C := n) (g := 178) (fs := #[]) (cs := #[pb b6, pb b5]) (k0 := kb k0 n) (by omega) (by omega) (fun i j => at2 (MR.x bo rows).q i (n + j)) hg) rfl rfl ?_; rintro _ _ _ ⟨rfl, x, rfl, hx, hd, rfl⟩; refine ⟨okF, ?_⟩)
  rw [q_x] at hx
  repeat (refine aK ?_)
  refine eP [2, 3] (by first | exact .inl rfl | exact .inr rfl) rfl rfl rfl _ _ aD aC (⟨rfl, x, rfl, by unfold aCM; rw [hred]; exact hx, hd, rfl⟩)
end
end Go.Proofs.YtjbhdfpjnjedhaaGreat
namespace Go.Proofs.YtjbhdfpjnjedhaaGreat
open Go Go.Fx
structure Q4 where
 x : Int
 y : Int
 u : Int
 v : Int
instance Q4.inh : Inhabited Q4 := ⟨⟨0, 0, 0, 0⟩⟩
abbrev kU (s : Q4) : List Value := [.int .i64 s.x, .int .i64 s.y, .int .i64 s.u, .int .i64 s.v]
abbrev vQ4 (s : Q4) : Value := .agg (kU s).toArray
instance Q4.szd : Sized kU 4 := ⟨fun _ => rfl⟩
def farC (a b : Int) : Prop := (a < -32768 ∨ b < -32768) ∨ 32768 < a ∨ 32768 < b
instance farC.dec (a b : Int) : Decidable (farC a b) := inferInstanceAs (Decidable ((a < -32768 ∨ b < -32768) ∨ 32768 < a ∨ 32768 < b))
def Q4.far (s : Q4) : Prop := farC s.x s.y ∨ farC s.u s.v
instance Q4.far.dec (s : Q4) : Decidable s.far := inferInstanceAs (Decidable (farC s.x s.y ∨ farC s.u s.v))
def anyFar (l : List Q4) : Prop := ∃ s ∈ l, s.far
instance anyFar.dec (l : List Q4) : Decidable (anyFar l) := inferInstanceAs (Decidable (∃ s ∈ l, s.far))
def kK (l : List Q4) : Int := if l.length = 0 then 1 else if 64 < l.length then 3 else if anyFar l then 2 else 0
structure Q4.near (s : Q4) : Prop where
 x : -32768 ≤ s.x ∧ s.x ≤ 32768
 y : -32768 ≤ s.y ∧ s.y ≤ 32768
 u : -32768 ≤ s.u ∧ s.u ≤ 32768
 v : -32768 ≤ s.v ∧ s.v ≤ 32768
theorem Q4.near_of {s : Q4} (h : ¬ s.far) : s.near := by
 unfold Q4.far farC at h
 refine ⟨?_, ?_, ?_, ?_⟩ <;> omega
theorem zQ {l : List Q4} (h : kK l = 0) : (1 ≤ l.length ∧ l.length ≤ 64) ∧ ∀ s ∈ l, s.near := by
 unfold kK at h
 split at h
 ·omega
 ·split at h
  ·omega
  ·split at h
   ·omega
   ·rename_i h1 h2 h3
    exact ⟨by omega, fun s hs => Q4.near_of (fun e => h3 ⟨s, hs, e⟩)⟩
def cz (l : List Int) : List Rat := l.map (fun x : Int => (x : Rat))
def dr1 (k : Nat) (s : Q4) : List Int := if k = 0 then [1, 0] else if k = 1 then [s.x, -s.y, 1, 0] else [s.x, s.y, 1, 0, 0, 0]
def dr2 (k : Nat) (s : Q4) : List Int := if k = 0 then [0, 1] else if k = 1 then [s.y, s.x, 0, 1] else [0, 0, 0, s.x, s.y, 1]
def db1 (k : Nat) (s : Q4) : Int := if k = 0 then s.u - s.x else s.u
def db2 (k : Nat) (s : Q4) : Int := if k = 0 then s.v - s.y else s.v
def zA (k : Nat) : Nat := if k = 0 then 2 else if k = 1 then 4 else 6
def dsA (k : Nat) (l : List Q4) : Mt := l.flatMap (fun s => [cz (dr1 k s), cz (dr2 k s)])
def dsB (k : Nat) (l : List Q4) : List Rat := l.flatMap (fun s => [(db1 k s : Rat), (db2 k s : Rat)])
def nP (k : Nat) (x : List Rat) : Mt :=
 if k = 0 then [[1, 0, x.getD 0 0], [0, 1, x.getD 1 0], [0, 0, 1]]
 else if k = 1 then [[x.getD 0 0, -x.getD 1 0, x.getD 2 0], [x.getD 1 0, x.getD 0 0, x.getD 3 0], [0, 0, 1]]
 else [[x.getD 0 0, x.getD 1 0, x.getD 2 0], [x.getD 3 0, x.getD 4 0, x.getD 5 0], [0, 0, 1]]
def nrN (R C : Nat) (A : Mt) : Mt := xW C C (fun i j => sm R (fun t => at2 A t i * at2 A t j))
def nrB (R C : Nat) (A : Mt) (b : List Rat) : List Rat := (List.range C).map (fun i => sm R (fun t => at2 A t i * b.getD t 0))
def lsX (R C : Nat) (A : Mt) (b : List Rat) : List Rat := (List.range C).map (fun i => sm C (fun t => at2 (aCM C (nrN R C A)) i t * (nrB R C A b).getD t 0))
def wU (k : Nat) (l : List Q4) : List Rat := lsX (2 * l.length) (zA k) (dsA k l) (dsB k l)
def aJA (k : Nat) (l : List Q4) : Rat := dt (zA k) (at2 (nrN (2 * l.length) (zA k) (dsA k l)))
def pY (k : Nat) (l : List Q4) : Option Mt := if l = [] then none else if aJA k l = 0 then none else if dt 3 (at2 (nP k (wU k l))) = 0 then none else some (nP k (wU k l))
def nN (m : Mt) (i : Nat) (s : Q4) : Rat := at2 m i 0 * (s.x : Rat) + at2 m i 1 * (s.y : Rat) + at2 m i 2
def aOF (m : Mt) (s : Q4) : Rat := nN m 0 s / nN m 2 s - (s.u : Rat)
def aRA (m : Mt) (s : Q4) : Rat := nN m 1 s / nN m 2 s - (s.v : Rat)
def aAQ (m : Mt) (s : Q4) : Rat := aOF m s * aOF m s + aRA m s * aRA m s
def okQ (m : Mt) (tol : Int) (s : Q4) : Prop := nN m 2 s ≠ 0 ∧ aAQ m s ≤ (tol : Rat)
instance okQ.dec (m : Mt) (tol : Int) (s : Q4) : Decidable (okQ m tol s) := inferInstanceAs (Decidable (nN m 2 s ≠ 0 ∧ aAQ m s ≤ (tol : Rat)))
def aIY (m : Mt) (l : List Q4) (tol : Int) : Nat → List Int
 | 0 => []
 | n + 1 => if okQ m tol (gt l (n : Int)) then aIY m l tol n ++ [(n : Int)] else aIY m l tol n
def lF (m : Mt) (l : List Q4) (tol : Int) : List Int := aIY m l tol l.length
theorem vZ {m : Mt} {l : List Q4} {tol : Int} : ∀ {n : Nat}, (aIY m l tol n).length ≤ n
 | 0 => Nat.le_refl _
 | n + 1 => by
  have ih := vZ (m := m) (l := l) (tol := tol) (n := n)
  unfold aIY
  split
  ·simp; exact ih
  ·omega
def kH (l : List Q4) (smp : List Int) : List Q4 := smp.map (fun i => gt l i)
def cmb (n : Nat) : Nat → Nat → List (List Int)
 | 0, _ => [[]]
 | k + 1, a => (List.range (n - a)).flatMap (fun j => (cmb n k (a + j + 1)).map (fun l => ((a + j : Nat) : Int) :: l))
def xN (n k a m : Nat) : List (List Int) := (List.range m).flatMap (fun j => (cmb n k (a + j + 1)).map (fun l => ((a + j : Nat) : Int) :: l))
theorem aAU {n k a : Nat} : cmb n (k + 1) a = xN n k a (n - a) := rfl
theorem aLN {n k a : Nat} : xN n k a 0 = [] := rfl
theorem aDB {n k a m : Nat} : xN n k a (m + 1) = xN n k a m ++ (cmb n k (a + m + 1)).map (fun l => ((a + m : Nat) : Int) :: l) := by
 unfold xN
 rw [List.range_succ, List.flatMap_append]
 simp
theorem aKG {n : Nat} : ∀ {k a : Nat}, n < a + (k + 1) → cmb n (k + 1) a = []
 | 0, a, h => by
  rw [aAU, show n - a = 0 by omega]; rfl
 | k + 1, a, h => by
  rw [aAU]
  unfold xN
  rw [List.flatMap_eq_nil_iff]
  intro j hj
  rw [aKG (k := k) (a := a + j + 1) (by omega)]
  rfl
theorem aQE {n k a m : Nat} (hm : n < a + m + (k + 1)) (hle : m ≤ n - a) : xN n k a m = cmb n (k + 1) a := by
 rw [aAU]
 by_cases hna : n ≤ a
 ·rw [show n - a = 0 by omega, show m = 0 by omega]
 have h : ∀ d, xN n k a (m + d) = xN n k a m ∨ n < a + m + d := by
  intro d
  induction d with
  | zero => exact .inl rfl
  | succ d ih =>
   by_cases h : n < a + m + (d + 1)
   ·exact .inr (by omega)
   rcases ih with ih | ih
   ·refine .inl ?_
    rw [← Nat.add_assoc, aDB, ih]
    cases k with
    | zero => omega
    | succ k => rw [aKG (by omega)]; simp
   ·omega
 rcases h (n - a - m) with h | h
 ·rw [show n - a = m + (n - a - m) by omega, h]
 ·omega
structure SmpP (n k a : Nat) (l : List Int) : Prop where
 len : l.length = k
 lt : ∀ x ∈ l, (a : Int) ≤ x ∧ x < n
 asc : l.Pairwise (· < ·)
def aEA (mdl : List Int → Option Mt) (inl : Mt → List Int) (o : Option (List Int × List Int × Mt)) (l : List Int) : Option (List Int × List Int × Mt) :=
 match mdl l with
 | none => o
 | some m => match o with
  | none => some (l, inl m, m)
  | some f => if f.2.1.length < (inl m).length then some (l, inl m, m) else o
def nQ (mdl : List Int → Option Mt) (inl : Mt → List Int) (ls : List (List Int)) : Option (List Int × List Int × Mt) := ls.foldl (aEA mdl inl) none
theorem vJ {mdl : List Int → Option Mt} {inl : Mt → List Int} {ls : List (List Int)} {l : List Int} : nQ mdl inl (ls ++ [l]) = aEA mdl inl (nQ mdl inl ls) l := by
 unfold nQ
 rw [List.foldl_append]
 rfl
theorem aBX {mdl : List Int → Option Mt} {inl : Mt → List Int} : ∀ (ls done : List (List Int)) (o : Option (List Int × List Int × Mt)), (∀ f, o = some f → f.1 ∈ done ∧ mdl f.1 = some f.2.2 ∧ f.2.1 = inl f.2.2) →
  ∀ f, ls.foldl (aEA mdl inl) o = some f → f.1 ∈ done ++ ls ∧ mdl f.1 = some f.2.2 ∧ f.2.1 = inl f.2.2
 | [], done, o, h, f, hf => by
  obtain ⟨a, b, c⟩ := h f hf
  exact ⟨by simpa using a, b, c⟩
 | l :: ls, done, o, h, f, hf => by
  have := aBX ls (done ++ [l]) (aEA mdl inl o l) (fun g hg => by
   unfold aEA at hg
   split at hg
   ·obtain ⟨a, b, c⟩ := h g hg
    exact ⟨List.mem_append_left _ a, b, c⟩
   ·rename_i m hm
    split at hg
    ·injection hg with hg; subst hg; exact ⟨by simp, hm, rfl⟩
    ·split at hg
     ·injection hg with hg; subst hg; exact ⟨by simp, hm, rfl⟩
     ·obtain ⟨a, b, c⟩ := h g hg
      exact ⟨List.mem_append_left _ a, b, c⟩) f hf
  simpa using this
theorem aNO {mdl : List Int → Option Mt} {inl : Mt → List Int} {ls : List (List Int)} {f : List Int × List Int × Mt} (h : nQ mdl inl ls = some f) : f.1 ∈ ls ∧ mdl f.1 = some f.2.2 ∧ f.2.1 = inl f.2.2 := by
 have := aBX (mdl := mdl) (inl := inl) ls [] none (fun f h => by cases h) f h
 simpa using this
end Go.Proofs.YtjbhdfpjnjedhaaGreat

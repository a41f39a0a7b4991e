/- The determinant by elimination, one column at a time. matrix.Determinant. matrix.Inverse. Equality of lists and matrices; matrices of integers; the chapter's example. Matrices of integers; the chapter's example. The chapter's example. -/
import Derived.Test.YtjbhdfpjnjedhaaGreatZqaw
import Derived.Test.YtjbhdfpjnjedhaaGreatZqar
import Derived.Test.YtjbhdfpjnjedhaaGreatZqau
set_option linter.unusedSimpArgs false
set_option linter.unusedVariables false
set_option maxRecDepth 100000
set_option maxHeartbeats 4000000
namespace Go.Proofs.YtjbhdfpjnjedhaaGreat
open Go Go.Fx
def uC (A : Mt) (j x : Nat) : Mt := (swp A j x).mapIdx (fun i row => if i ≤ j then row else if row.getD j 0 = 0 then row else kE j (row.getD j 0 / at2 (swp A j x) j j) (rowAt (swp A j x) j) row)
def zC (A : Mt) (j : Nat) : Nat → Nat → Rat := fun i k => at2 A (i + j) (k + j)
theorem aGD {A : Mt} {R C j x a : Nat} (h : qP A R C) (hj : j < R) (hx : x < R) (ha : a < R) : rowAt (uC A j x) a = if a ≤ j then rowAt A (tr j x a) else if at2 A (tr j x a) j = 0 then rowAt A (tr j x a) else kE j (at2 A (tr j x a) j / at2 A x j) (rowAt A x) (rowAt A (tr j x a)) := by
 have hs := aFF (r := j) (k := x) h hj hx
 have hr : ∀ i, rowAt (swp A j x) i = rowAt A (tr j x i) := fun i => qC h hj hx
 have htr : tr j x j = x := by simp [tr]
 have hat : at2 (swp A j x) j j = at2 A x j := by unfold at2; rw [hr, htr]
 have e1 : rowAt (uC A j x) a = if a ≤ j then rowAt (swp A j x) a else if (rowAt (swp A j x) a).getD j 0 = 0 then rowAt (swp A j x) a else kE j ((rowAt (swp A j x) a).getD j 0 / at2 (swp A j x) j j) (rowAt (swp A j x) j) (rowAt (swp A j x) a) := by
  have hl : a < (swp A j x).length := by rw [hs.1]; exact ha
  unfold uC
  rw [aDK hl]
 rw [e1, hat, hr, hr, htr]
 rfl
theorem aOH {A : Mt} {R C j x a b : Nat} (h : qP A R C) (hj : j < R) (hx : x < R) (ha : a < R) (hb : b < C) (haj : j < a) (hbj : j ≤ b) : at2 (uC A j x) a b = at2 A (tr j x a) b - at2 A (tr j x a) j / at2 A x j * at2 A x b := by
 have e : at2 (uC A j x) a b = (rowAt (uC A j x) a).getD b 0 := rfl
 rw [e, aGD h hj hx ha, if_neg (by omega)]
 by_cases e0 : at2 A (tr j x a) j = 0
 ·rw [if_pos e0, e0]
  show at2 A (tr j x a) b = _
  grind
 ·rw [if_neg e0]
  unfold kE
  rw [uB (by rw [h.2 _ (yV hj hx ha)]; exact hb), if_neg (by omega)]
  rfl
theorem aSG {A : Mt} {n j x : Nat} (h : qP A n n) (hj : j < n) (hjx : j ≤ x) (hx : x < n) (h0 : at2 A x j ≠ 0) :
  dt (n - j) (zC A j) = esg j x * at2 A x j * dt (n - (j + 1)) (zC (uC A j x) (j + 1)) := by
 obtain ⟨m, hm⟩ : ∃ m, n - j = m + 1 := ⟨n - j - 1, by omega⟩
 have hm2 : n - (j + 1) = m := by omega
 rw [hm, hm2]
 -- exchanged
 have h1 : dt (m + 1) (fun a b => zC A j (tr 0 (x - j) a) b) = esg j x * dt (m + 1) (zC A j) := by
  unfold esg
  by_cases e : j = x
  ·subst e
   rw [if_pos rfl, Nat.sub_self, show (fun a b => zC A j (tr 0 0 a) b) = zC A j by funext a b; simp only [tr]; split <;> simp_all]; grind
  ·rw [if_neg e, aKW (by omega) (by omega) (by omega)]; grind
 obtain ⟨g, hg⟩ : ∃ g : Nat → Nat → Rat, g = fun a b => zC A j (tr 0 (x - j) a) b := ⟨_, rfl⟩
 rw [← hg] at h1
 have htr : ∀ a, tr 0 (x - j) a + j = tr j x (a + j) := fun a => by
  by_cases e1 : a = 0
  ·have : tr 0 (x - j) a = x - j := by simp [tr, e1]
   have h2 : tr j x (a + j) = x := by simp [tr, e1]
   omega
  ·by_cases e2 : a = x - j
   ·have : tr 0 (x - j) a = 0 := by simp [tr, e1, e2]
    have h2 : tr j x (a + j) = j := by simp [tr, e1, show a + j = x by omega]
    omega
   ·have : tr 0 (x - j) a = a := by simp [tr, e1, e2]
    have h2 : tr j x (a + j) = a + j := by simp [tr, e1, show ¬ a + j = x by omega]
    omega
 have hgv : ∀ a b, g a b = at2 A (tr j x (a + j)) (b + j) := fun a b => by rw [hg]; show at2 A (tr 0 (x - j) a + j) (b + j) = _; rw [htr]
 have htj : tr j x (0 + j) = x := by simp [tr]
 have hg0 : ∀ b, g 0 b = at2 A x (b + j) := fun b => by rw [hgv, htj]
 have h2 := aMJ (n := m + 1) (r := 0) (f := g) (c := fun a => g a 0 / g 0 0) (by omega)
 have hg00 : g 0 0 ≠ 0 := by rw [hg0, Nat.zero_add]; exact h0
 have h3 : dt (m + 1) (fun a b => if a = 0 then g 0 b else g a b - g a 0 / g 0 0 * g 0 b) = g 0 0 * dt m (zC (uC A j x) (j + 1)) := by
  rw [aID (fun i hi _ => by
   rw [if_neg (by omega)]
   have : g i 0 / g 0 0 * g 0 0 = g i 0 := by grind
   grind)]
  rw [if_pos rfl]
  congr 1
  apply kT
  intro a b ha hb
  rw [if_neg (by omega)]
  show _ = at2 (uC A j x) (a + (j + 1)) (b + (j + 1))
  rw [aOH h hj hx (by omega) (by omega) (by omega) (by omega), hg0, hg0, hgv, hgv, Nat.zero_add]
  rw [show a + 1 + j = a + (j + 1) by omega, show b + 1 + j = b + (j + 1) by omega]
 have hs : esg j x * esg j x = 1 := by unfold esg; split <;> grind
 have h4 : dt (m + 1) (zC A j) = esg j x * dt (m + 1) g := by rw [h1]; grind
 rw [h4, ← h2, h3, hg0, Nat.zero_add]; grind
theorem aPV {A : Mt} {n j : Nat} (hj : j < n) (h : ∀ i, j ≤ i → i < n → at2 A i j = 0) : dt (n - j) (zC A j) = 0 := by
 obtain ⟨m, hm⟩ : ∃ m, n - j = m + 1 := ⟨n - j - 1, by omega⟩
 rw [hm]
 exact aEO (fun i hi => by show at2 A (i + j) (0 + j) = 0; rw [Nat.zero_add]; exact h _ (by omega) (by omega))
theorem aTH {A : Mt} {n : Nat} : dt (n - 0) (zC A 0) = dt n (at2 A) := rfl
end Go.Proofs.YtjbhdfpjnjedhaaGreat
namespace Go.Proofs.YtjbhdfpjnjedhaaGreat
open Go Go.Fx
theorem aRO {A : Mt} {r : Nat} (h : r < A.length) : swp A r r = A := by
 have e : rowAt A r = A[r] := by simp [rowAt, List.getD, h]
 unfold swp
 rw [e, List.set_set, List.set_getElem_self]
theorem aRZ {rows : List MR} {R C : Nat} (hl : rows.length = R) (hc : ∀ r ∈ rows, r.es.length = C) : qP (mq rows) R C :=
 ⟨by simp [hl], fun i hi => by rw [mX (by omega)]; simp [hc _ (eP (ms := rows) (i := (i : Int)) (by omega))]⟩
theorem aQH {rows4 rows2 : List MR} {n j : Nat} (h4 : rows4.length = n) (h2 : rows2.length = n)
  (hk : ∀ t : Nat, t < n → t ≤ j → gt rows4 (t : Int) = gt rows2 (t : Int))
  (hd : ∀ t : Nat, t < n → j < t → qs (gt rows4 (t : Int)).es = if at2 (mq rows2) t j = 0 then qs (gt rows2 (t : Int)).es else kE j (at2 (mq rows2) t j / at2 (mq rows2) j j) (rowAt (mq rows2) j) (qs (gt rows2 (t : Int)).es)) :
  mq rows4 = (mq rows2).mapIdx (fun i row => if i ≤ j then row else if row.getD j 0 = 0 then row else kE j (row.getD j 0 / at2 (mq rows2) j j) (rowAt (mq rows2) j) row) := by
 apply List.ext_getElem
 ·simp [h4, h2]
 ·intro t h1 h3
  have ht : t < n := by simpa [h4] using h1
  have e4 : (mq rows4)[t] = qs (gt rows4 (t : Int)).es := by rw [gN (by omega)]; simp
  have e3 : (mq rows2)[t]'(by simp; omega) = qs (gt rows2 (t : Int)).es := by rw [gN (by omega)]; simp
  have ea : at2 (mq rows2) t j = (qs (gt rows2 (t : Int)).es).getD j 0 := by unfold at2; rw [mX (by omega)]
  rw [e4, List.getElem_mapIdx, e3]
  by_cases htj : t ≤ j
  ·rw [if_pos htj, hk t ht htj]
  ·rw [if_neg htj, hd t ht (by omega), ea]
/- regions that draw: some reads see all up to a first effect, others what stays up to a second one -/
section
variable {P : Program} {n : Nat} {Q : Exit → Act → World → Prop} {G : Env} {X : List Nat} {w0 : World} {M M' M1 Ms : List Ent} {I I' I1 Is : List aT}
def CsL (J1 J2 : Nat) (X : List Nat) (w0 : World) (M : List Ent) (I : List aT) (Ms : List Ent) (Is : List aT) : Nat → World → Prop := fun s w => (s ≤ J1 → Mem X w0 M I w) ∧ (s ≤ J2 → Mem X w0 Ms Is w)
theorem aMV {id : Nat} {l : List Oper} (J1 J2 : Nat) (Ms : List Ent) (Is : List aT) (p ms : List Nat) (hM : SubP M Ms) (hI : Inc I Is) (hx : P.follows .mixedOrders = true)
  (hp : (Region.noSelect l.toArray && iW l.toArray p ms (Array.replicate l.length false) && p.length == l.length) = true)
  (h : RD P n l Q (.any (CsL J1 J2 X w0 M I Ms Is) 0 ms) (pick l p) G X w0 M I) : TD P n (.region id l.toArray true) Q G X w0 M I :=
 sH (CsL J1 J2 X w0 M I Ms Is) p ms hx (fun s w h => ⟨fun hs => h.1 (by omega), fun hs => h.2 (by omega)⟩) hp (fun _ h => ⟨fun _ => h, fun _ => h.weak hM hI⟩) h
theorem aLA {J1 J2 k : Nat} {ms : List Nat} (h : k + ms.headD 0 ≤ J1) : View (.any (CsL J1 J2 X w0 M1 I1 Ms Is) k ms) X w0 M I M1 I1 := ⟨fun w w' _ hc => by
 have hc' : CsL J1 J2 X w0 M1 I1 Ms Is (k + ms.headD 0) w' := hc
 exact hc'.1 h⟩
theorem aAA {J1 J2 k : Nat} {ms : List Nat} (h : k + ms.headD 0 ≤ J2) : View (.any (CsL J1 J2 X w0 M1 I1 Ms Is) k ms) X w0 M I Ms Is := ⟨fun w w' _ hc => by
 have hc' : CsL J1 J2 X w0 M1 I1 Ms Is (k + ms.headD 0) w' := hc
 exact hc'.2 h⟩
theorem aYB {J1 J2 k : Nat} {ms : List Nat} (h1 : SubP M M1) (i1 : Inc I I1) (h2 : SubP M Ms) (i2 : Inc I Is) : OkD (.any (CsL J1 J2 X w0 M1 I1 Ms Is) k ms) X w0 M I := ⟨fun w hw => by
 show CsL J1 J2 X w0 M1 I1 Ms Is (k + 1) w
 exact ⟨fun _ => hw.weak h1 i1, fun _ => hw.weak h2 i2⟩⟩
theorem aXW {J1 J2 k : Nat} {ms : List Nat} (h1 : J1 ≤ k) (h2 : SubP M Ms) (i2 : Inc I Is) : OkD (.any (CsL J1 J2 X w0 M1 I1 Ms Is) k ms) X w0 M I := ⟨fun w hw => by
 show CsL J1 J2 X w0 M1 I1 Ms Is (k + 1) w
 exact ⟨fun hs => by omega, fun _ => hw.weak h2 i2⟩⟩
end
section
variable {X : List Nat} {w0 : World} {M0 : List Ent} {I0 : List aT}
abbrev zRm : List Value := [.bool false, .slice none 0 0, .bool false, .slice none 0 0]
theorem zA {a : MX} {n k0 : Nat} (hb : kb k0 n ≤ 20000000000) (hk0 : k0 ≤ 20000000000) (da : a.fit n n) (ha : lT a k0 ∈ I0) : CD Tryz.prog 114 [mv a] X w0 M0 I0 (RQc (dt n (at2 a.q)) (kb k0 n) M0 I0) := by
 obtain ⟨n1, n2⟩ := da.2.1
 refine wL (fun w hw => Mem.xsml ha da (by omega) hw) (fun sa => ?_)
 have hC := fun M0 I0 h1 => aDS (X := X) (w0 := w0) (M0 := M0) (I0 := I0) (a := a.raw) sa h1
 have e0 : sqC a.raw = 0 := by
  unfold sqC
  rw [if_pos da.ok, a.raw_rows, MX.raw_c0 da, da.1.1, if_pos rfl]
 rw [e0, aJY] at hC
 have hW := fun (x : Int) (hx : x.natAbs ≤ 1) M0 I0 => sQ (X := X) (w0 := w0) (M0 := M0) (I0 := I0) (x := x) (by omega) (k := 0) hx
 refine bK (φ := zJ a.raw) (Hv.xraw ha (by omega)) ?_
 refine bN Tryz.func114 rfl Tryz.ntmps114 rfl ?_
 refine aH ?_
 refine aI ?_
 (refine aF rfl rfl ?_; intro b2; refine ⟨okF, ?_⟩)
 repeat (refine aJ ?_)
 (refine aA rfl (hC _ _ aB) rfl rfl ?_; rintro _ _ _ ⟨rfl, rfl, rfl⟩; refine ⟨okF, ?_⟩)
 repeat (refine aJ ?_)
 (refine aA rfl (aJV da aB) rfl rfl ?_; rintro _ _ _ ⟨bo, rows0, rfl, hl0, hc0, hq0, rfl, rfl⟩; refine ⟨okF, ?_⟩)
 repeat (refine aJ ?_)
 (refine aA rfl (hW 1 (by decide) _ _) rfl rfl ?_; rintro _ _ _ ⟨rfl, d0, rfl, hd0, rfl⟩; refine ⟨okF, ?_⟩)
 repeat (refine aJ ?_)
 (refine aF rfl rfl ?_; intro b6; refine ⟨okF, ?_⟩)
 repeat (refine aJ ?_)
 obtain ⟨M1, hM1⟩ : ∃ M1 : List Ent, M1 = .blk b2 zRm 50 :: M0 := ⟨_, rfl⟩
 rw [← hM1]
 have hmq0 : mq rows0 = a.q := by rw [da.1.mk]; exact hq0
 refine dV (φ := gQ d0 (kb k0 0)) (Hv.q (k := 0) (List.Mem.head _) (Nat.zero_le _)) ?_
 refine aZ [2, 5, 6, 20] rfl (fun k G M I => ∃ (j : Nat) (rows1 : List MR) (d : RE), j ≤ n ∧ k = n - j ∧ rows1.length = n ∧ (∀ r ∈ rows1, r.es.length = n) ∧ dt n (at2 a.q) = d.q * dt (n - j) (zC (mq rows1) j) ∧ G = [(21, .int .i64 j)] ∧ M = .blk b6 (eR d) 50 :: .blk bo (recs eM rows1) 53 :: (rows1.map gJ ++ M1) ∧ I = gQ d (kb k0 j) :: allM rows1 (kb k0 j) :: I0) (n) _ _ _ aL aG aD (⟨0, rows0, d0, by omega, rfl, hl0, hc0, by rw [hd0, hmq0, aTH]; grind, rfl, rfl, rfl⟩) ?_
 clear hC
 rintro kk G M I ⟨j, rows1, d, hj, rfl, hl1, hC1, hD, rfl, rfl, rfl⟩
 have hCg : ∀ t : Nat, t < n → (gt rows1 (t : Int)).es.length = n := fun t ht => hC1 _ (eP (by omega))
 have hdim := aRZ hl1 hC1
 have hbj := zM k0 (m := j) (n := n) hj
 by_cases hjn : j < n
 ·have hb4 : 4 * kb k0 j + 1 ≤ 20000000000 := Nat.le_trans (zM k0 (m := j + 1) (n := n) hjn) hb
  have hkj1 : kb k0 (j + 1) = 4 * kb k0 j + 1 := rfl
  generalize hkj : kb k0 j = kj at *
  repeat (refine aJ ?_)
  refine aZ [2, 5, 6, 7, 20, 21] rfl (fun k G M I => ∃ x : Nat, j ≤ x ∧ x ≤ n ∧ k = n - x ∧ (∀ i : Nat, j ≤ i → i < x → at2 (mq rows1) i j = 0) ∧ G = [(8, .int .i64 x)] ∧ M = .blk b6 (eR d) 50 :: .blk bo (recs eM rows1) 53 :: (rows1.map gJ ++ M1) ∧ I = gQ d kj :: allM rows1 kj :: I0) (n - j) _ _ _ aL aG aD (⟨j, by omega, by omega, rfl, fun i h1 h2 => by omega, rfl, rfl, rfl⟩) ?_
  rintro k G M I ⟨x, hjx, hxn, rfl, hz, rfl, rfl, rfl⟩
  by_cases hxn2 : x < n
  ·have hlx := hCg x hxn2
   have hat := vN (rows := rows1) (i := x) (j := j) (by omega) (by omega)
   have hS := mV (X := X) (w0 := w0) (M0 := .blk (gt rows1 (x : Int)).b (recs eR (gt rows1 (x : Int)).es) 50 :: .blk b6 (eR d) 50 :: .blk bo (recs eM rows1) 53 :: ((rows1.eraseIdx x).map gJ ++ M1)) (I0 := gQ d kj :: allM rows1 kj :: I0) (e := gt (gt rows1 (x : Int)).es (j : Int)) (k := kj) (by omega) (Hv.elM (List.Mem.tail _ (List.Mem.head _)) (by omega) (by omega) (Nat.le_refl _))
   by_cases hx2 : at2 (mq rows1) x j = 0
   ·rw [hat] at hx2
    rw [(qZ _).2 hx2] at hS
    refine nC (zG (rows := rows1) (i := x) (by omega)) ?_
    repeat (refine aJ ?_)
    (refine aA rfl (hS) rfl rfl ?_; rintro _ _ _ ⟨rfl, rfl, rfl⟩; refine ⟨okF, ?_⟩)
    repeat (refine aJ ?_)
    refine wV (zG (rows := rows1) (i := x) (by omega)).symm ?_
    refine aK (n - (x + 1)) _ _ _ (by first | omega | (simp only [List.length_append, List.length_cons, List.length_nil]; omega)) aL aG aD (⟨x + 1, by omega, by omega, rfl, fun i h1 h2 => ?_, rfl, rfl, rfl⟩)
    by_cases e : i = x
    ·rw [e, hat]; exact hx2
    ·exact hz i h1 (by omega)
   ·have hxne := hx2
    rw [hat] at hx2
    have hs0 : ¬ (gt (gt rows1 (x : Int)).es (j : Int)).q.num.sign = 0 := fun h => hx2 ((qZ _).1 h)
    generalize (gt (gt rows1 (x : Int)).es (j : Int)).q.num.sign = sg1 at *
    refine nC (zG (rows := rows1) (i := x) (by omega)) ?_
    repeat (refine aJ ?_)
    (refine aA rfl (hS) rfl rfl ?_; rintro _ _ _ ⟨rfl, rfl, rfl⟩; refine ⟨okF, ?_⟩)
    clear hS
    repeat (refine aJ ?_)
    refine nC (zG (rows := rows1) (i := x) (by omega)).symm ?_
    refine pW (fun G M I => ∃ (rows2 : List MR) (d2 : RE), rows2.length = n ∧ (∀ r ∈ rows2, r.es.length = n) ∧ mq rows2 = swp (mq rows1) j x ∧ d2.q = esg j x * d.q ∧ G = [(2, .pointer (some ⟨b2, 0, none⟩)), (5, .slice (some ⟨bo, 0, none⟩) n n), (6, .pointer (some ⟨b6, 0, none⟩)), (7, .int .i64 (j : Int)), (20, .int .i64 (n : Int)), (21, .int .i64 (j : Int))] ∧ M = .blk b6 (eR d2) 50 :: .blk bo (recs eM rows2) 53 :: (rows2.map gJ ++ M1) ∧ I = gQ d2 kj :: allM rows2 kj :: I0) ?_ ?_
    ·by_cases hxj : x = j
     ·subst hxj
      repeat (refine aJ ?_)
      refine dS _ _ _ aL aG aD ⟨rows1, d, hl1, hC1, ?_, ?_, rfl, rfl, rfl⟩
      ·exact (aRO (by simp [hl1]; omega)).symm
      ·unfold esg; rw [if_pos rfl]; grind
     ·repeat (refine aJ ?_)
      (repeat refine aH ?_); refine cZ 0 [0, 1, 2, 3, 4, 5, 6, 7, 8, 9, 10, 11, 12, 13, 14, 15] [0, 0, 1, 1, 0, 0, 0, 0, 1, 1, 1, 0, 0, 0, 0, 0] mixed (by kernel_rfl) ?_
      repeat (refine yXh ?_)
      refine jR rfl rfl rfl kH (StAt.r1 (gt rows1 (j : Int)) (by omega) rfl) rfl rfl ⟨okF, ?_⟩
      repeat (refine yXh ?_)
      refine jR rfl rfl rfl kH (StAt.r1 (gt rows1 (x : Int)) (by rw [fF]; omega) rfl) rfl rfl ⟨okF, ?_⟩
      obtain ⟨rows2, hrows2⟩ : ∃ rows2, rows2 = st (st rows1 (x : Int) (gt rows1 (j : Int))) (j : Int) (gt rows1 (x : Int)) := ⟨_, rfl⟩
      have hsp := swap_perm (rows := rows1) (r := x) (k := j) (by omega) (by omega)
      rw [← hrows2] at hsp ⊢
      refine zY (M' := .blk b6 (eR d) 50 :: .blk bo (recs eM rows2) 53 :: (rows2.map gJ ++ M1)) (List.Perm.cons _ (List.Perm.cons _ ((hsp.symm.map gJ).append_right M1))) ?_
      refine iX (φ := allM rows2 kj) (Hv.permM (List.Mem.tail _ (List.Mem.head _)) hsp) ?_
      repeat (refine aJ ?_)
      (refine aA rfl (aFN (k := kj) (by omega) (Hv.mem aB)) rfl rfl ?_; rintro _ _ _ ⟨rfl, d2, rfl, hd2, rfl⟩; refine ⟨okF, ?_⟩)
      repeat (refine aJ ?_)
      refine dS _ _ _ aL aG aD ⟨rows2, d2, by rw [hsp.length_eq]; exact hl1, fun r hr => hC1 r (hsp.mem_iff.1 hr), ?_, ?_, rfl, rfl, rfl⟩
      ·rw [hrows2]
       unfold st swp
       simp only [Int.toNat_natCast]
       rw [aBD, aBD, mX (by omega), mX (by omega), List.set_comm _ _ hxj]
      ·unfold esg; rw [if_neg (fun e => hxj e.symm), hd2]; grind
    ·clear hs0 hz
     rintro G M I ⟨rows2, d2, hl2, hC2, hmq2, hd2, rfl, rfl, rfl⟩
     have hC2g : ∀ t : Nat, t < n → (gt rows2 (t : Int)).es.length = n := fun t ht => hC2 _ (eP (by omega))
     have hdim2 := aRZ hl2 hC2
     have hlr := hC2g j hjn
     have hatj := vN (rows := rows2) (i := j) (j := j) (by omega) (by omega)
     have hpe : at2 (mq rows2) j j = at2 (mq rows1) x j := by
      rw [hmq2]
      unfold at2
      rw [qC hdim hjn hxn2]
      simp [tr]
     have hpiv : (gt (gt rows2 (j : Int)).es (j : Int)).q ≠ 0 := by rw [← hatj, hpe]; exact hxne
     have hEl : ∀ I, allM rows2 kj ∈ I → Hv I (gQ (gt (gt rows2 (j : Int)).es (j : Int)) kj) := fun I h => Hv.elM h (by omega) (by omega) (Nat.le_refl _)
     refine nC (zG (rows := rows2) (i := j) (by omega)) ?_
     (repeat refine aH ?_); refine cZ 1 [0, 1, 2, 3, 4, 5, 6, 7, 8, 9] [0, 1, 1, 1, 1, 1, 1, 0, 0, 0] mixed (by kernel_rfl) ?_
     repeat (refine aJ ?_)
     (refine aA rfl (qX (k := kj) (m := kj) (by omega) (Hv.mem aB) (hEl _ aB)) rfl rfl ?_; rintro _ _ _ ⟨rfl, d3, rfl, hd3, rfl⟩; refine ⟨okF, ?_⟩)
     repeat (refine aJ ?_)
     refine nC (zG (rows := rows2) (i := j) (by omega)).symm ?_
     refine dV (φ := allM rows2 (4 * kj + 1)) (Hv.monoM (k := kj) aB (by omega)) ?_
     refine aZ [2, 5, 6, 7, 20, 21] rfl (fun k G M I => ∃ (i : Nat) (rows4 : List MR), j + 1 ≤ i ∧ i ≤ n ∧ k = n - i ∧ rows4.length = n ∧ (∀ t : Nat, t < n → (gt rows4 (t : Int)).es.length = n) ∧ (∀ t : Nat, t < n → (t ≤ j ∨ i ≤ t) → gt rows4 (t : Int) = gt rows2 (t : Int)) ∧ (∀ t : Nat, j < t → t < i → qs (gt rows4 (t : Int)).es = if at2 (mq rows2) t j = 0 then qs (gt rows2 (t : Int)).es else kE j (at2 (mq rows2) t j / at2 (mq rows2) j j) (rowAt (mq rows2) j) (qs (gt rows2 (t : Int)).es)) ∧ G = [(9, .int .i64 i)] ∧ M = .blk b6 (eR d3) 50 :: .blk bo (recs eM rows4) 53 :: (rows4.map gJ ++ M1) ∧ I = allM rows4 (4 * kj + 1) :: gQ d3 (kj + kj) :: allM rows2 kj :: I0) (n - (j + 1)) _ _ _ aL aG aD (⟨j + 1, rows2, by omega, by omega, rfl, hl2, hC2g, fun _ _ _ => rfl, fun t h1 h2 => by omega, rfl, rfl, rfl⟩) ?_
     rintro k G M I ⟨i, rows4, hji, hin, rfl, hl4, hC4, hrest, hdone, rfl, rfl, rfl⟩
     have hg4j := hrest j hjn (.inl (Nat.le_refl _))
     by_cases hi : i < n
     ·have hgi := hrest i hi (.inr (Nat.le_refl _))
      have hij : i ≠ j := by omega
      have hlx := hC4 i hi
      have hlj := hC4 j hjn
      have hat : at2 (mq rows2) i j = (gt (gt rows4 (i : Int)).es (j : Int)).q := by rw [hgi]; exact vN (by omega) (by rw [hC2g i hi]; omega)
      have hEi : ∀ I, allM rows2 kj ∈ I → Hv I (gQ (gt (gt rows4 (i : Int)).es (j : Int)) kj) := fun I h => by rw [hgi]; exact Hv.elM h (by omega) (by rw [hC2g i hi]; omega) (Nat.le_refl _)
      have hEj : ∀ I, allM rows2 kj ∈ I → Hv I (gQ (gt (gt rows4 (j : Int)).es (j : Int)) kj) := fun I h => by rw [hg4j]; exact hEl I h
      have hpj : (gt (gt rows4 (j : Int)).es (j : Int)).q ≠ 0 := by rw [hg4j]; exact hpiv
      have hRi : ∀ I, allM rows2 kj ∈ I → Hv I (dL (gt rows4 (i : Int)).es kj) := fun I h => by rw [hgi]; exact Hv.rowMm h (by omega) (Nat.le_refl _)
      have hRj : ∀ I, allM rows2 kj ∈ I → Hv I (dL (gt rows4 (j : Int)).es kj) := fun I h => by rw [hg4j]; exact Hv.rowMm h (by omega) (Nat.le_refl _)
      have hfoc := foc2 (rows := rows4) (i := i) (j := j) (by omega) (by omega) hij (A := .blk b6 (eR d3) 50) (B := .blk bo (recs eM rows4) 53) (M1 := M1)
      have hS := fun M0 I0 h => mV (X := X) (w0 := w0) (M0 := M0) (I0 := I0) (e := gt (gt rows4 (i : Int)).es (j : Int)) (k := kj) (by omega) h
      refine nC hfoc ?_
      by_cases hx0 : (gt (gt rows4 (i : Int)).es (j : Int)).q = 0
      ·rw [(qZ _).2 hx0] at hS
       repeat (refine aJ ?_)
       (refine aA rfl (hS _ _ (hEi _ aB)) rfl rfl ?_; rintro _ _ _ ⟨rfl, rfl, rfl⟩; refine ⟨okF, ?_⟩)
       repeat (refine aJ ?_)
       refine wV hfoc.symm ?_
       refine aK (n - (i + 1)) _ _ _ (by first | omega | (simp only [List.length_append, List.length_cons, List.length_nil]; omega)) aL aG aD (⟨i + 1, rows4, by omega, by omega, rfl, hl4, hC4, fun t ht h => hrest t ht (by omega), fun t h1 h2 => ?_, rfl, rfl, rfl⟩)
       by_cases hti : t = i
       ·subst hti
        rw [hat, if_pos hx0, hgi]
       ·exact hdone t h1 (by omega)
      ·have hs0 : ¬ (gt (gt rows4 (i : Int)).es (j : Int)).q.num.sign = 0 := fun h => hx0 ((qZ _).1 h)
       generalize (gt (gt rows4 (i : Int)).es (j : Int)).q.num.sign = sg2 at *
       repeat (refine aJ ?_)
       (refine aA rfl (hS _ _ (hEi _ aB)) rfl rfl ?_; rintro _ _ _ ⟨rfl, rfl, rfl⟩; refine ⟨okF, ?_⟩)
       repeat (refine aJ ?_)
       (repeat refine aH ?_); refine aMV 1 2 (.blk b6 (eR d3) 50 :: .blk bo (recs eM rows4) 53 :: ((lQ rows4 i j).map gJ ++ M1)) (allM rows4 (4 * kj + 1) :: gQ d3 (kj + kj) :: allM rows2 kj :: I0) [0, 1, 2, 3, 4, 5, 6, 7, 8, 9, 10, 11, 12, 13, 14, 15, 16, 17, 18, 19, 20, 21, 23, 22, 24] [2, 2, 2, 1, 2, 2, 2, 1, 2, 2, 2, 2, 2, 2, 1, 2, 2, 2, 2, 2, 2, 1, 1, 0, 0] aG aD mixed (by kernel_rfl) ?_
       repeat (refine aJ ?_)
       (apply fH; exact aAA (by decide); exact rfl; exact aB; exact nU; exact rfl; exact rfl)
       repeat (refine aJ ?_)
       (apply fH; exact aAA (by decide); exact rfl; exact aB; exact nU; exact rfl; exact rfl)
       repeat (refine aJ ?_)
       (apply fH; exact aAA (by decide); exact rfl; exact aB; exact nU; exact rfl; exact rfl)
       repeat (refine aJ ?_)
       (apply gM; exact aLA (by decide); exact rfl; exact aB; exact yR; exact rfl; exact rfl)
       repeat (refine aJ ?_)
       (apply fH; exact aAA (by decide); exact rfl; exact aB; exact nU; exact rfl; exact rfl)
       repeat (refine aJ ?_)
       (apply gM; exact aLA (by decide); exact rfl; exact aB; exact yR; exact rfl; exact rfl)
       repeat (refine aJ ?_)
       (refine aA rfl (yN (k := kj) (m := kj) (by omega) hpj (hEi _ aB) (hEj _ aB)) rfl rfl ?_; rintro _ _ _ ⟨rfl, κ, rfl, hκ, rfl⟩; refine ⟨aYB aG aD aG aD, ?_⟩)
       repeat (refine aJ ?_)
       rw [hlx, hlj]
       refine iX (φ := dL (gt rows4 (i : Int)).es kj) (hRi _ aB) ?_
       refine iX (φ := dL (gt rows4 (j : Int)).es kj) (hRj _ aB) ?_
       (refine aA rfl (yP (kz := kj) (m := kj + kj) (h := kj) (fr := j) (n := n) (κ := κ) (M1 := .blk b6 (eR d3) 50 :: .blk bo (recs eM rows4) 53 :: ((lQ rows4 i j).map gJ ++ M1)) (by omega) (by omega) hlx hlj (by omega) aB aB aB rfl) rfl rfl ?_; rintro _ _ _ ⟨rfl, e5, hl5, hd5, rfl, rfl⟩; refine ⟨aXW (by decide) aG aD, ?_⟩)
       rw [show kj + (kj + kj + kj) + 1 = 4 * kj + 1 by omega]
       obtain ⟨rows5, hrows5⟩ : ∃ rows5, rows5 = rows4.set i ⟨(gt rows4 (i : Int)).b, e5⟩ := ⟨_, rfl⟩
       have hl5' : rows5.length = n := by rw [hrows5, List.length_set]; exact hl4
       have hh5 : recs eM rows4 = recs eM rows5 := by rw [hrows5]; exact (uN (by omega) (by rw [hlx, hl5])).symm
       have hr5 : lQ rows4 i j = lQ rows5 i j := by rw [hrows5, vD _ _ _ _ hij]
       have hg5i : gt rows5 (i : Int) = ⟨(gt rows4 (i : Int)).b, e5⟩ := by rw [hrows5, gN (by simpa using (show i < rows4.length by omega))]; simp
       have hg5o : ∀ t : Nat, t < n → t ≠ i → gt rows5 (t : Int) = gt rows4 (t : Int) := fun t ht hti => by
        rw [hrows5, gN (by simpa using (show t < rows4.length by omega)), List.getElem_set_ne (Ne.symm hti)]; exact (gN (by omega)).symm
       have hf5 := foc2 (rows := rows5) (i := i) (j := j) (by omega) (by omega) hij (A := .blk b6 (eR d3) 50) (B := .blk bo (recs eM rows5) 53) (M1 := M1)
       rw [hg5i, hg5o j (by omega) (Ne.symm hij)] at hf5
       rw [hh5, hr5]
       refine zY hf5.symm ?_
       refine iX (φ := allM rows5 (4 * kj + 1)) (by rw [hrows5]; exact Hv.setM (k := 4 * kj + 1) (m := 4 * kj + 1) aB aB (by omega) (by omega)) ?_
       repeat (refine aJ ?_)
       refine aK (n - (i + 1)) _ _ _ (by first | omega | (simp only [List.length_append, List.length_cons, List.length_nil]; omega)) aL aG aD (⟨i + 1, rows5, by omega, by omega, rfl, hl5', fun t ht => ?_, fun t ht h => ?_, fun t h1 h2 => ?_, rfl, rfl, rfl⟩)
       ·by_cases hti : t = i
        ·subst hti; rw [hg5i]; exact hl5
        ·rw [hg5o t ht hti]; exact hC4 t ht
       ·rw [hg5o t ht (by omega)]; exact hrest t ht (by omega)
       ·by_cases hti : t = i
        ·subst hti
         rw [hg5i, hat, if_neg hx0, ← hgi]
         have e1 : rowAt (mq rows2) j = qs (gt rows4 (j : Int)).es := by rw [mX (by omega), hg4j]
         have e2 : at2 (mq rows2) j j = (gt (gt rows4 (j : Int)).es (j : Int)).q := by rw [hg4j]; exact hatj
         rw [e1, e2, ← hκ]
         exact aPP hl5 hlx hlj hd5
        ·rw [hg5o t (by omega) hti]; exact hdone t h1 (by omega)
     ·obtain rfl : i = n := by omega
      have hmq4 : mq rows4 = uC (mq rows1) j x := by
       unfold uC
       rw [← hmq2]
       exact aQH hl4 hl2 (fun t ht h => hrest t ht (.inl h)) (fun t ht h => hdone t h ht)
      repeat (refine aJ ?_)
      refine iI (φ := gQ d3 (kb k0 (j + 1))) (Hv.q (k := kj + kj) aB (by omega)) ?_
      refine iI (φ := allM rows4 (kb k0 (j + 1))) (Hv.monoM (k := 4 * kj + 1) aB (by omega)) ?_
      refine aK (i - (j + 1)) _ _ _ (by first | omega | (simp only [List.length_append, List.length_cons, List.length_nil]; omega)) aL aG aD (⟨j + 1, rows4, d3, by omega, rfl, hl4, fun r hr => ?_, ?_, rfl, rfl, rfl⟩)
      ·obtain ⟨t, ht, rfl⟩ := List.mem_iff_getElem.1 hr
       have := hC4 t (by omega)
       rwa [gN ht] at this
      ·rw [hD, hd3, ← hatj, hpe, hd2, aSG hdim hjn hjx hxn2 hxne, hmq4]; grind
  ·obtain rfl : x = n := by omega
   repeat (refine aJ ?_)
   (refine aA rfl (hW 0 (by decide) _ _) rfl rfl ?_; rintro _ _ _ ⟨rfl, e1, rfl, he1, rfl⟩; refine ⟨okF, ?_⟩)
   rw [hM1]
   refine vE (M' := .blk b2 zRm 50 :: M0) (I' := gQ e1 0 :: I0) (SubP.drop (SubP.drop (lK SubP.refl))) aD ?_
   repeat (refine aJ ?_)
   refine iI (φ := gQ e1 (kb k0 x)) (Hv.q (k := 0) aB (Nat.zero_le _)) ?_
   refine dZ (rs := [.cell 2 50, .tmp 3]) (vs := [rv e1, .int .i64 0]) (.inl rfl) rfl (.cellN (cs := eR e1) inferInstance rfl aB rfl (.tmp rfl .nil)) rfl M0 (gQ e1 (kb k0 x) :: I0) aG aD ⟨rfl, e1, rfl, ?_, rfl⟩
   rw [hD, he1, aPV hjn (fun i h1 h2 => hz i h1 h2)]; grind
 ·obtain rfl : j = n := by omega
  rw [hM1]
  refine aCU (M' := .blk b6 (eR d) 50 :: .blk b2 zRm 50 :: M0) (I' := gQ d (kb k0 j) :: I0) (SubP.cons .here (SubP.drop (lK SubP.refl))) aD ?_
  repeat (refine aJ ?_)
  refine dZ (rs := [.cell 2 50, .tmp 3]) (vs := [rv d, .int .i64 0]) (.inl rfl) rfl (.cellN (cs := eR d) inferInstance rfl aB rfl (.tmp rfl .nil)) rfl M0 (gQ d (kb k0 j) :: I0) aG aD ⟨rfl, d, rfl, ?_, rfl⟩
  rw [hD, Nat.sub_self]
  show d.q = d.q * 1
  grind
end
end Go.Proofs.YtjbhdfpjnjedhaaGreat
namespace Go.Proofs.YtjbhdfpjnjedhaaGreat
open Go Go.Fx
def yY (n : Nat) (A : Mt) : Mt := mkM n (n + n) (fun i j => if j < n then at2 A i j else nG i (j - n))
def aAB (n : Nat) (A : Mt) : Mt := mkM n n (fun i j => at2 (qM (yY n A) n).1 i (n + j))
theorem aKY {R C : Nat} {F : Nat → Nat → Rat} : qP (mkM R C F) R C := ⟨by simp [mkM], fun i hi => by simp [mkM, rowAt, List.getD, hi]⟩
theorem aSJ {n : Nat} {A : Mt} {i j : Nat} (hi : i < n) (hj : j < n) : at2 (yY n A) i j = at2 A i j := by
 unfold yY
 rw [uL hi (by omega), if_pos hj]
theorem aXK {n : Nat} {A : Mt} {i j : Nat} (hi : i < n) (hj : j < n) : at2 (yY n A) i (n + j) = nG i j := by
 unfold yY
 rw [uL hi (by omega), if_neg (by omega), Nat.add_sub_cancel_left]
theorem aLJ {n : Nat} {A : Mt} : (qM (yY n A) n).2.length = n ↔ dt n (at2 A) ≠ 0 := by
 obtain ⟨_, s, hr⟩ := lS (A := yY n A) (R := n) (C := n + n) aKY n (by omega)
 rw [hr.iff (by omega), kT (f := at2 (yY n A)) (g := at2 A) (fun i j hi hj => aSJ hi hj)]
theorem aLD {n : Nat} {A : Mt} (h : dt n (at2 A) ≠ 0) : (∀ i j, i < n → j < n → rE n (at2 A) (at2 (aAB n A)) i j = nG i j) ∧ (∀ i j, i < n → j < n → rE n (at2 (aAB n A)) (at2 A) i j = nG i j) := by
 obtain ⟨_, s, hr⟩ := lS (A := yY n A) (R := n) (C := n + n) aKY n (by omega)
 obtain ⟨h1, h2⟩ := hr.inv (a := at2 A) (aLJ.2 h) (fun i j hi hj => aSJ hi hj) (fun i j hi hj => aXK hi hj)
 have e : ∀ i j, i < n → j < n → at2 (aAB n A) i j = at2 (qM (yY n A) n).1 i (n + j) := fun i j hi hj => by unfold aAB; rw [uL hi hj]
 constructor
 ·intro i j hi hj
  rw [← h1 i j hi hj]
  exact vK (fun _ _ => rfl) (fun k hk => e k j hk hj)
 ·intro i j hi hj
  rw [← h2 i j hi hj]
  exact vK (fun k hk => e i k hi hk) (fun _ _ => rfl)
section
variable {X : List Nat} {w0 : World} {M0 : List Ent} {I0 : List aT}
theorem aFL {a : MX} {n k0 : Nat} (hb : kb k0 n ≤ 20000000000) (hk0 : k0 ≤ 20000000000) (da : a.fit n n) (ha : lT a k0 ∈ I0) : CD Tryz.prog 132 [mv a] X w0 M0 I0 (fun v M I => if dt n (at2 a.q) = 0 then (M0 = M ∧ I0 = I ∧ v = .tuple #[.slice none 0 0, .int .i64 14]) else XQc (aAB n a.q) n n (kb k0 n) M0 I0 v M I) := by
 obtain ⟨n1, n2⟩ := da.2.1
 refine wL (fun w hw => Mem.xsml ha da (by omega) hw) (fun sa => ?_)
 have hC := fun M0 I0 h1 => aDS (X := X) (w0 := w0) (M0 := M0) (I0 := I0) (a := a.raw) sa h1
 have e0 : sqC a.raw = 0 := by
  unfold sqC
  rw [if_pos da.ok, a.raw_rows, MX.raw_c0 da, da.1.1, if_pos rfl]
 rw [e0, aJY] at hC
 have lR := da.1.1
 refine bK (φ := zJ a.raw) (Hv.xraw ha (by omega)) ?_
 refine bN Tryz.func132 rfl Tryz.ntmps132 rfl ?_
 repeat (refine aJ ?_)
 (refine aA rfl (hC _ _ aB) rfl rfl ?_; rintro _ _ _ ⟨rfl, rfl, rfl⟩; refine ⟨okF, ?_⟩)
 repeat (refine aJ ?_)
 (refine aF rfl rfl ?_; intro b5; refine ⟨okF, ?_⟩)
 repeat (refine aJ ?_)
 rw [lR]
 refine aO .here ?_
 repeat (refine aJ ?_)
 (refine aA rfl (aHQ (R := n) (C := n) (g := 176) (fs := #[]) (cs := #[]) (k0 := 0) (by omega) (by omega) nG (fun M I _ i j hi hj => by have := aVT (X := X) (w0 := w0) (M0 := M) (I0 := I) (i := (i : Int)) (j := (j : Int)); rw [← aVU] at this; exact this)) rfl rfl ?_; rintro _ _ _ ⟨rfl, u, rfl, hu, hud, rfl⟩; refine ⟨okF, ?_⟩)
 repeat (refine aJ ?_)
 refine iX (φ := lT u k0) (Hv.xm (k := 0) aB (Nat.zero_le _)) ?_
 (refine aA rfl (aOK da ⟨hud, ⟨n1, n2⟩, n1, n2⟩ aB aB) rfl rfl ?_; rintro _ _ _ ⟨bo, rows0, rfl, hl0, hc0, hq0, rfl, rfl⟩; refine ⟨okF, ?_⟩)
 repeat (refine aJ ?_)
 (refine aF rfl rfl ?_; intro b6; refine ⟨okF, ?_⟩)
 repeat (refine aJ ?_)
 refine aEN (fun _ hw => hw.freezeB .here) ?_
 have hB : mq rows0 = yY n a.q := by
  unfold yY
  refine Eq.trans hq0 ?_
  refine aNS (R := n) (C := n + n) (fun i j hi hj => ?_)
  by_cases e : j < n
  ·rw [if_pos e, if_pos e]
  ·rw [if_neg e, if_neg e, hu, uL hi (by omega)]
 (repeat refine aH ?_); refine rT 1 (M0) (aR (some ⟨b6, 0, none⟩) [.slice (some ⟨bo, 0, none⟩) n n] :: aR (some ⟨b5, 0, none⟩) [.int .i64 (n : Int)] :: I0) [0, 1, 4, 2, 3, 5] [0, 0, 1, 0, 0, 0] (SubP.drop (lK SubP.refl)) aD mixed (by kernel_rfl) ?_
 repeat (refine aJ ?_)
 have hRd := fun I0 h => aOL (X := X) (w0 := w0) (M0 := .blk bo (recs eM rows0) 53 :: (rows0.map gJ ++ M0)) (I0 := I0) (bo := bo) (R := n) (C := n + n) (n := n) (k0 := k0) (rows := rows0) (M1 := M0) hl0 (by omega) (by omega) hc0 (by omega) (by omega) h rfl
 (refine aA rfl (hRd _ aB) rfl rfl ?_; rintro _ _ _ ⟨rows, pv, q, c, rfl, hl, hc, hred, hpv, rfl, rfl⟩; refine ⟨OkD.kY (SubP.drop (SubP.drop (lK SubP.refl))) aD, ?_⟩)
 rw [hB] at hred
 have hiff : pv.length = n ↔ dt n (at2 a.q) ≠ 0 := by
  have := aLJ (n := n) (A := a.q)
  rw [hred] at this
  exact this
 by_cases hd0 : dt n (at2 a.q) = 0
 ·simp only [if_pos hd0]
  have hlt : pv.length < n := by
   rcases Nat.lt_or_ge pv.length n with h | h
   ·exact h
   ·exact absurd hd0 (hiff.1 (by omega))
  repeat (refine aJ ?_)
  refine gL [2, 3] (.inl rfl) rfl rfl rfl M0 I0 (SubP.drop (SubP.drop (lK SubP.refl))) aD ⟨rfl, rfl, rfl⟩
 ·simp only [if_neg hd0]
  have hlt : pv.length = n := hiff.2 hd0
  repeat (refine aJ ?_)
  refine vE (M' := .blk bo (recs eM rows) 53 :: (rows.map gJ ++ M0)) (I' := allM rows (kb k0 n) :: aR (some ⟨b6, 0, none⟩) [.slice (some ⟨bo, 0, none⟩) n n] :: aR (some ⟨b5, 0, none⟩) [.int .i64 (n : Int)] :: I0) (SubP.drop SubP.refl) aD ?_
  refine xJ (fun _ hw => aKP hw (List.Mem.head _)) ?_
  refine iX (φ := bxX b6 (MR.x bo rows)) (by show Hv _ (aR _ [.slice (some ⟨bo, 0, none⟩) (rows.map MR.l).length rows.length]); rw [List.length_map, hl]; exact Hv.mem aB) ?_
  have xl : (MR.x bo rows).rows.length = n := by show (rows.map MR.l).length = n; rw [List.length_map, hl]
  have xc : ∀ i : Nat, i < n → (gt (MR.x bo rows).rows (i : Int)).es.length = n + n := fun i hi => by
   have : gt (MR.x bo rows).rows (i : Int) = (gt rows (i : Int)).l := aIG (by omega)
   rw [this]; exact hc _ (eP (by omega))
  have hg := fun M I (hI : ∀ φ ∈ bxX b6 (MR.x bo rows) :: lT (MR.x bo rows) (kb k0 n) :: allM rows (kb k0 n) :: aR (some ⟨b6, 0, none⟩) [.slice (some ⟨bo, 0, none⟩) n n] :: aR (some ⟨b5, 0, none⟩) [.int .i64 (n : Int)] :: I0, φ ∈ I) (i j : Nat) (hi : i < n) (hj : j < n) => aHP (X := X) (w0 := w0) (M0 := M) (I0 := I) (a := MR.x bo rows) (p := b6) (q := b5) (k := kb k0 n) (i := i) (j := j) (n := n) (by omega) (by rw [xc i hi]; omega) (by omega) (by omega) (hI _ aB) (hI _ aB) (hI _ aB)
  (refine aA rfl (aHQ (R := n) (C := n) (g := 178) (fs := #[]) (cs := #[pb b6, pb b5]) (k0 := kb k0 n) (by omega) (by omega) (fun i j => at2 (MR.x bo rows).q i (n + j)) hg) rfl rfl ?_; rintro _ _ _ ⟨rfl, x, rfl, hx, hd, rfl⟩; refine ⟨okF, ?_⟩)
  rw [q_x] at hx
  repeat (refine aJ ?_)
  refine gL [2, 3] (by first | exact .inl rfl | exact .inr rfl) rfl rfl rfl _ _ aG aD (⟨rfl, x, rfl, by unfold aAB; rw [hred]; exact hx, hd, rfl⟩)
end
end Go.Proofs.YtjbhdfpjnjedhaaGreat
namespace Go.Proofs.YtjbhdfpjnjedhaaGreat
open Go Go.Fx
structure IL where
 p : Option Addr
 c : Nat
 xs : List Int
instance : Inhabited IL := ⟨⟨none, 0, []⟩⟩
abbrev eIL (r : IL) : List Value := [.slice r.p r.xs.length r.c]
abbrev ivL (r : IL) : Value := .slice r.p r.xs.length r.c
instance : Sized eIL 1 := ⟨fun _ => rfl⟩
instance : Ones eIL := ⟨fun m u hu => by simp only [eIL, List.mem_cons, List.not_mem_nil, or_false] at hu; subst hu; rfl⟩
/- ---------- IndexFunc, ContainsFunc of [][]int ---------- -/
section
variable {X : List Nat} {w0 : World} {M0 : List Ent} {I0 : List aT}
end
section
variable {X : List Nat} {w0 : World} {M0 : List Ent} {I0 : List aT}
end
end Go.Proofs.YtjbhdfpjnjedhaaGreat
namespace Go.Proofs.YtjbhdfpjnjedhaaGreat
open Go Go.Fx
structure AllIL (rows : List IL) (X : List Nat) (w : World) : Prop where
 go : ∀ r ∈ rows, Sl X w r.p (recs (eI .i64) r.xs)
abbrev allIL (rows : List IL) : aT := AllIL rows
instance (rows : List IL) : Fx.Good (AllIL rows) := ⟨fun X Y w w' h he hY => ⟨fun r hm => Sl.carry (h.go r hm) he hY⟩⟩
abbrev bxI (b : Nat) (q : Option Addr) (n c : Nat) : aT := aR (some ⟨b, 0, none⟩) [.slice q n c]
section
variable {X : List Nat} {w0 : World} {M0 : List Ent} {I0 : List aT}
end
end Go.Proofs.YtjbhdfpjnjedhaaGreat
namespace Go.Proofs.YtjbhdfpjnjedhaaGreat
open Go Go.Fx
def kA : Mt := [[((2 : Int) : Rat), ((1 : Int) : Rat)], [((1 : Int) : Rat), ((1 : Int) : Rat)]]
def kC : Mt := [[((1 : Int) : Rat), ((-1 : Int) : Rat)], [((-1 : Int) : Rat), ((2 : Int) : Rat)]]
section
variable {X : List Nat} {w0 : World} {M0 : List Ent} {I0 : List aT}
end
end Go.Proofs.YtjbhdfpjnjedhaaGreat

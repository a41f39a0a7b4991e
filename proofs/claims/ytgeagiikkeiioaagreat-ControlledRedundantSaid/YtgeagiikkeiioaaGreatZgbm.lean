/- controlled: numbered sets, what lies outside. controlled: Undetectable. -/
import Derived.Test.YtgeagiikkeiioaaGreatZgbk
import Derived.Test.YtgeagiikkeiioaaGreatZgbl
import Derived.Test.YtgeagiikkeiioaaGreatZgaw
set_option linter.unusedSimpArgs false
set_option linter.unusedVariables false
set_option maxRecDepth 100000
set_option maxHeartbeats 4000000
namespace Go.Proofs.YtgeagiikkeiioaaGreat
open Go Go.Fx
def ascP (set : List Int) : Prop := ∀ k ∈ List.range set.length, 0 < k → gt set ((k : Int) - 1) < gt set (k : Int)
instance ascP.dec (set : List Int) : Decidable (ascP set) := by unfold ascP; exact inferInstance
def inP (R : Nat) (set : List Int) : Prop := ∀ i ∈ set, 0 ≤ i ∧ i < (R : Int)
instance inP.dec (R : Nat) (set : List Int) : Decidable (inP R set) := by unfold inP; exact inferInstance
def vZ (R : Nat) (set : List Int) : Int := if inP R set then (if ascP set then 0 else 5) else 2
theorem aRH {R : Nat} {set : List Int} (h : vZ R set = 0) : inP R set ∧ ascP set := by
 unfold vZ at h
 by_cases h1 : inP R set
 ·by_cases h2 : ascP set
  ·exact ⟨h1, h2⟩
  ·simp [h1, h2] at h
 ·simp [h1] at h
theorem ascP.lt {set : List Int} (h : ascP set) : ∀ d j : Nat, j + d + 1 < set.length → gt set (j : Int) < gt set ((j + d + 1 : Nat) : Int)
 | 0, j, hj => by
  have := h (j + 1) (List.mem_range.2 hj) (by omega)
  rwa [show (((j + 1 : Nat) : Int) - 1) = (j : Int) by omega] at this
 | d + 1, j, hj => by
  have h1 := ascP.lt h d j (by omega)
  have h2 := h (j + d + 1 + 1) (List.mem_range.2 (by omega)) (by omega)
  rw [show (((j + d + 1 + 1 : Nat) : Int) - 1) = ((j + d + 1 : Nat) : Int) by omega] at h2
  have e : j + (d + 1) + 1 = j + d + 1 + 1 := by omega
  rw [e]; omega
theorem ascP.ne {set : List Int} (h : ascP set) {j k : Nat} (hj : j < set.length) (hk : k < set.length) (hn : j ≠ k) : gt set (j : Int) ≠ gt set (k : Int) := by
 rcases Nat.lt_or_gt_of_ne hn with e | e
 ·have := h.lt (k - j - 1) j (by omega)
  rw [show j + (k - j - 1) + 1 = k by omega] at this; omega
 ·have := h.lt (j - k - 1) k (by omega)
  rw [show k + (j - k - 1) + 1 = j by omega] at this; omega
theorem aOD {set : List Int} {n : Nat} (h : ∀ k, k < n → 0 < k → gt set ((k : Int) - 1) < gt set (k : Int)) (hn : set.length ≤ n) : ascP set := fun k hk h0 => h k (by have := List.mem_range.1 hk; omega) h0
def nY (set : List Int) (n : Nat) : List (Int × Int) := (List.range n).foldl (fun (es : List (Int × Int)) (k : Nat) => aBS es (gt set (k : Int)) (k : Int)) []
theorem yK (set : List Int) (n : Nat) : nY set (n + 1) = aBS (nY set n) (gt set (n : Int)) (n : Int) := by
 unfold nY; rw [List.range_succ, List.foldl_append]; rfl
theorem uO {x : Int} : ∀ {es : List (Int × Int)} {j : Nat}, (Fx.look es x j).isSome = true ↔ ∃ p ∈ es, p.1 = x
 | [], j => by simp [Fx.look]
 | p :: r, j => by
  unfold Fx.look
  by_cases e : x = p.1
  ·rw [if_pos e]; simp [e]
  ·rw [if_neg e, uO (es := r)]
   constructor
   ·rintro ⟨q, hq, h⟩; exact ⟨q, List.Mem.tail _ hq, h⟩
   ·rintro ⟨q, hq, h⟩
    rcases List.mem_cons.1 hq with rfl | hq
    ·exact absurd h.symm e
    ·exact ⟨q, hq, h⟩
theorem aPQ {es : List (Int × Int)} {k v x : Int} : (∃ p ∈ aBS es k v, p.1 = x) ↔ (∃ p ∈ es, p.1 = x) ∨ x = k := by
 unfold aBS
 cases hl : Fx.look es k 0 with
 | none =>
  simp only
  constructor
  ·rintro ⟨p, hp, h⟩
   rcases List.mem_append.1 hp with hp | hp
   ·exact .inl ⟨p, hp, h⟩
   ·rw [List.mem_singleton.1 hp] at h; exact .inr h.symm
  ·rintro (⟨p, hp, h⟩ | h)
   ·exact ⟨p, List.mem_append_left _ hp, h⟩
   ·exact ⟨(k, v), List.mem_append_right _ (List.mem_singleton.2 rfl), h.symm⟩
 | some q =>
  simp only
  obtain ⟨_, hg⟩ := aAZ hl
  rw [Nat.sub_zero] at hg
  obtain ⟨hlt, hge⟩ := List.getElem?_eq_some_iff.1 hg
  constructor
  ·rintro ⟨p, hp, h⟩
   rcases List.mem_or_eq_of_mem_set hp with hp | hp
   ·exact .inl ⟨p, hp, h⟩
   ·rw [hp] at h; exact .inr h.symm
  ·rintro (⟨p, hp, h⟩ | h)
   ·obtain ⟨i, hi, e⟩ := List.mem_iff_getElem.1 hp
    by_cases e1 : i = q.1
    ·subst e1
     rw [hge] at e
     exact ⟨(k, v), List.mem_iff_getElem.2 ⟨q.1, by simpa using hlt, by simp⟩, by rw [← h, ← e]⟩
    ·exact ⟨p, List.mem_iff_getElem.2 ⟨i, by simpa using hi, by rw [List.getElem_set_ne (fun h => e1 h.symm)]; exact e⟩, h⟩
   ·exact ⟨(k, v), List.mem_iff_getElem.2 ⟨q.1, by simpa using hlt, by simp⟩, h.symm⟩
theorem wI {set : List Int} {x : Int} : ∀ {n : Nat}, (∃ p ∈ nY set n, p.1 = x) ↔ ∃ k, k < n ∧ gt set (k : Int) = x
 | 0 => by simp [nY]
 | n + 1 => by
  rw [yK, aPQ, wI (n := n)]
  constructor
  ·rintro (⟨k, hk, h⟩ | h)
   ·exact ⟨k, by omega, h⟩
   ·exact ⟨n, by omega, h.symm⟩
  ·rintro ⟨k, hk, h⟩
   by_cases e : k = n
   ·subst e; exact .inr h.symm
   ·exact .inl ⟨k, by omega, h⟩
theorem aMD {set : List Int} {x : Int} : (Fx.look (nY set set.length) x 0).isSome = B (x ∈ set) := by
 by_cases h : x ∈ set
 ·rw [bR h, uO, wI]
  obtain ⟨k, hk, e⟩ := List.mem_iff_getElem.1 h
  exact ⟨k, hk, by rw [jC hk]; exact e⟩
 ·rw [aY h, Bool.eq_false_iff, ne_eq, uO, wI]
  rintro ⟨k, hk, e⟩
  exact h (by rw [← e]; exact cZ (by omega))
theorem aBL {set : List Int} (h : ascP set) : ∀ {n : Nat}, n ≤ set.length → nY set n = (List.range n).map (fun k : Nat => (gt set (k : Int), (k : Int)))
 | 0, _ => rfl
 | n + 1, hn => by
  rw [yK]
  have hno : Fx.look (nY set n) (gt set (n : Int)) 0 = none := by
   have : ¬ (Fx.look (nY set n) (gt set (n : Int)) 0).isSome = true := by
    rw [uO, wI]
    rintro ⟨k, hk, e⟩
    exact h.ne (by omega) (by omega) (by omega) e
   simpa using this
  unfold aBS
  rw [hno]
  simp only
  rw [aBL h (by omega), List.range_succ, List.map_append]; rfl
instance mapTy : MapTy Tryz.prog 132 := ⟨by
 obtain ⟨i, hi, hz⟩ := Option.bind_eq_some_iff.1 (show (Tryz.prog.info? 3).bind (fun i => i.zero) = some (.int .i64 0) by kernel_rfl)
 exact ⟨_, _, Tryz.underlying132, Tryz.underlying3, i, hi, hz⟩⟩
section
variable {X : List Nat} {w0 : World} {M0 : List Ent} {I0 : List bA}
theorem yT {m : LE} {R C k : Nat} {set : List Int} {q : Option Addr} {c : Nat} (hk : k ≤ 20000000000) (f : m.fit R C) (h : mW m k ∈ I0) (hl : set.length ≤ 1000) (hq : aT q (recs (eI .i64) set) ∈ I0) :
  CD Tryz.prog 106 [vLE m, .slice q set.length c] X w0 M0 I0 (fun v M I => if vZ R set = 0 then (I0 = I ∧ ∃ b, v = .tuple #[.map (some b), .int .i64 0] ∧ M = .obj b (kG (nY set set.length)) :: M0) else (M0 = M ∧ I0 = I ∧ v = .tuple #[.map none, .int .i64 (vZ R set)])) := by
 have lR := f.d.1.1
 subst lR
 obtain ⟨r1, r2⟩ := f.d.2.1
 have hC := fun M0 I0 h => qE (X := X) (w0 := w0) (M0 := M0) (I0 := I0) (m := m) (k := k) hk f h
 refine bD Tryz.func106 rfl Tryz.ntmps106 rfl ?_
 refine aJ ?_
 refine aI ?_
 (refine aP rfl rfl rfl ?_; intro b1; refine ⟨okF, ?_⟩)
 refine aF .here ?_
 repeat (refine aK ?_)
 (refine aA rfl (hC _ _ aB) rfl rfl ?_; rintro _ _ _ ⟨rfl, rfl, rfl⟩; refine ⟨okF, ?_⟩)
 repeat (refine aK ?_)
 (refine aIZ rfl rfl ?_; intro b; refine ⟨okF, ?_⟩)
 repeat (refine aK ?_)
 refine aS [1, 2, 7, 18, 19] rfl (fun k G M I => ∃ i : Nat, i ≤ set.length ∧ k = set.length - i ∧ (∀ j : Nat, j < i → 0 ≤ gt set (j : Int) ∧ gt set (j : Int) < (m.a.rows.length : Int)) ∧ G = [(20, .int .i64 i)] ∧ M = .obj b (kG (nY set i)) :: M0 ∧ I = aT (some ⟨b1, 0, none⟩) [mv m.a, lv m.l, lv m.p] :: I0) (set.length) _ _ _ aO aC aD (⟨0, by omega, rfl, fun j hj => by omega, rfl, rfl, rfl⟩) ?_
 rintro kk G M I ⟨i, hi, rfl, hg, rfl, rfl, rfl⟩
 by_cases hin : i < set.length
 ·have bad : ¬ (0 ≤ gt set (i : Int) ∧ gt set (i : Int) < (m.a.rows.length : Int)) → vZ m.a.rows.length set = 2 := fun hn => if_neg (fun h => hn (h _ (cZ (by omega))))
  by_cases e1 : 0 ≤ gt set (i : Int)
  ·by_cases e2 : gt set (i : Int) < (m.a.rows.length : Int)
   ·repeat (refine aK ?_)
    (refine aSY rfl rfl rfl kU rfl rfl ⟨okF, ?_⟩)
    rw [← yK]
    repeat (refine aK ?_)
    refine aM (set.length - (i + 1)) _ _ _ (by first | omega | (simp only [List.length_append, List.length_cons, List.length_nil]; omega)) aO aC aD (⟨i + 1, by omega, rfl, oP hg ⟨e1, e2⟩, rfl, rfl, rfl⟩)
   ·have hb := bad (fun h => e2 h.2)
    simp only [hb, if_neg (show ¬ (2 : Int) = 0 by decide)]
    repeat (refine aK ?_)
    refine dZ [4, 5] (by first | exact .inl rfl | exact .inr rfl) rfl rfl rfl _ _ aC aD (⟨rfl, rfl, rfl⟩)
  ·have hb := bad (fun h => e1 h.1)
   simp only [hb, if_neg (show ¬ (2 : Int) = 0 by decide)]
   repeat (refine aK ?_)
   refine dZ [4, 5] (by first | exact .inl rfl | exact .inr rfl) rfl rfl rfl _ _ aC aD (⟨rfl, rfl, rfl⟩)
 ·obtain rfl : i = set.length := by omega
  have hin' : inP m.a.rows.length set := pW (p := fun x => 0 ≤ x ∧ x < (m.a.rows.length : Int)) hg (by omega)
  repeat (refine aK ?_)
  refine aS [1, 7, 38, 39] rfl (fun k G M I => ∃ i : Nat, i ≤ set.length ∧ k = set.length - i ∧ (∀ j : Nat, j < i → 0 < j → gt set ((j : Int) - 1) < gt set (j : Int)) ∧ G = [(40, .int .i64 i)] ∧ M = .obj b (kG (nY set set.length)) :: M0 ∧ I = aT (some ⟨b1, 0, none⟩) [mv m.a, lv m.l, lv m.p] :: I0) (set.length) _ _ _ aO aC aD (⟨0, by omega, rfl, fun j hj => by omega, rfl, rfl, rfl⟩) ?_
  rintro kk G M I ⟨i, hi, rfl, ha, rfl, rfl, rfl⟩
  by_cases hin2 : i < set.length
  ·by_cases h0 : 0 < i
   ·by_cases e1 : gt set ((i : Int) - 1) < gt set (i : Int)
    ·repeat (refine aK ?_)
     refine aM (set.length - (i + 1)) _ _ _ (by first | omega | (simp only [List.length_append, List.length_cons, List.length_nil]; omega)) aO aC aD (⟨i + 1, by omega, rfl, fun j hj h0 => by
      by_cases e : j = i
      ·subst e; exact e1
      ·exact ha j (by omega) h0, rfl, rfl, rfl⟩)
    ·have hb : vZ m.a.rows.length set = 5 := by unfold vZ; rw [if_pos hin', if_neg (fun h => e1 (h i (List.mem_range.2 hin2) h0))]
     simp only [hb, if_neg (show ¬ (5 : Int) = 0 by decide)]
     repeat (refine aK ?_)
     refine dZ [4, 5] (by first | exact .inl rfl | exact .inr rfl) rfl rfl rfl _ _ aC aD (⟨rfl, rfl, rfl⟩)
   ·repeat (refine aK ?_)
    refine aM (set.length - (i + 1)) _ _ _ (by first | omega | (simp only [List.length_append, List.length_cons, List.length_nil]; omega)) aO aC aD (⟨i + 1, by omega, rfl, fun j hj h1 => by omega, rfl, rfl, rfl⟩)
  ·have hb : vZ m.a.rows.length set = 0 := by unfold vZ; rw [if_pos hin', if_pos (aOD ha (by omega))]
   simp only [hb, if_true]
   repeat (refine aK ?_)
   refine dZ [4, 5] (by first | exact .inl rfl | exact .inr rfl) rfl rfl rfl _ _ aC aD (⟨rfl, b, rfl, rfl⟩)
def bB (m : MX) (set : List Int) (n : Nat) : List RL := (dD n set).map (fun t : Nat => gt m.rows (t : Int))
theorem qB {n : Nat} {set : List Int} : dD (n + 1) set = if (n : Int) ∈ set then dD n set else dD n set ++ [n] := by
 unfold dD
 rw [List.range_succ, List.filter_append]
 by_cases h : (n : Int) ∈ set
 ·rw [if_pos h]; simp [h]
 ·rw [if_neg h]; simp [h]
theorem yN {n : Nat} {set : List Int} : (dD n set).length ≤ n := by
 unfold dD
 exact Nat.le_trans (List.length_filter_le _ _) (by simp)
theorem aOT {m : MX} {R C : Nat} {set : List Int} (h : m.dim R C) : (bB m set R).map RL.q = iK m.q (dD R set) := by
 unfold bB iK
 rw [List.map_map]
 refine List.map_congr_left (fun t ht => ?_)
 exact (wL (by rw [h.1]; exact (iY.1 ht).1)).symm
theorem aIY {m : LE} {R C u b : Nat} {set : List Int} (hk : u ≤ 20000000000) (f : m.fit R C) (h : mW m u ∈ I0) {M1 : List Ent} (hM : M0 = .obj b (kG (nY set set.length)) :: M1) :
  CD Tryz.prog 107 [vLE m, .map (some b)] X w0 M0 I0 (fun v M I => M0 = M ∧ ∃ (q1 : Option Addr) (c1 : Nat) (x : MX), v = .tuple #[.slice q1 (dD R set).length c1, mv x] ∧ x.rows = bB m.a set R ∧ I = gD x u :: aT q1 (recs eZ (zs (dD R set))) :: I0) := by
 subst hM
 have lR := f.d.1.1
 subst lR
 obtain ⟨r1, r2⟩ := f.d.2.1
 refine bQ (φ := gD m.a u) (Hv.lea h) ?_
 refine bQ (φ := aT (m.a).p (recs eL (m.a).rows)) (Hv.xsl aB) ?_
 refine bD Tryz.func107 rfl Tryz.ntmps107 rfl ?_
 refine aJ ?_
 refine aI ?_
 (refine aP rfl rfl rfl ?_; intro b1; refine ⟨okF, ?_⟩)
 refine aF .here ?_
 repeat (refine aK ?_)
 refine mI 3 1 ?_
 refine mI 34 1 ?_
 refine bL (φ := mK [] u) Hv.nilL ?_
 refine aS [1, 13, 14] rfl (fun k G M I => ∃ (i : Nat) (q1 : Option Addr) (c1 : Nat) (q2 : Option Addr) (c2 : Nat), i ≤ m.a.rows.length ∧ k = m.a.rows.length - i ∧ G = [(6, .slice q1 (zs (dD i set)).length c1), (7, .slice q2 (bB m.a set i).length c2), (15, .int .i64 i)] ∧ M = .row q2 (bB m.a set i).length c2 (recs eL (bB m.a set i)) 34 1 :: .row q1 (zs (dD i set)).length c1 (recs eZ (zs (dD i set))) 3 1 :: .obj b (kG (nY set set.length)) :: M1 ∧ I = mK (bB m.a set i) u :: aT (some ⟨b1, 0, none⟩) [mv m.a, lv m.l, lv m.p] :: aT m.a.p (recs eL m.a.rows) :: gD m.a u :: I0) (m.a.rows.length) _ _ _ aO aC aD (⟨0, none, 0, none, 0, by omega, rfl, rfl, rfl, rfl⟩) ?_
 rintro kk G M I ⟨i, q1, c1, q2, c2, hi, rfl, rfl, rfl, rfl⟩
 have hrl := yN (n := i) (set := set)
 have hl1 : (zs (dD i set)).length ≤ i := by simpa using hrl
 have hl2 : (bB m.a set i).length ≤ i := by unfold bB; simpa using hrl
 by_cases hin : i < m.a.rows.length
 ·have hlk := aMD (set := set) (x := (i : Int))
  by_cases e : (i : Int) ∈ set
  ·rw [bR e] at hlk
   have e2 : dD (i + 1) set = dD i set := by rw [qB, if_pos e]
   repeat (refine aK ?_)
   (refine zH rfl rfl aB rfl rfl ⟨okF, ?_⟩)
   rw [hlk]
   have e5 : bB m.a set (i + 1) = bB m.a set i := by unfold bB; rw [e2]
   have e6 : zs (dD (i + 1) set) = zs (dD i set) := by rw [e2]
   repeat (refine aK ?_)
   rw [← e5, ← e6]
   refine aM (m.a.rows.length - (i + 1)) _ _ _ (by first | omega | (simp only [List.length_append, List.length_cons, List.length_nil]; omega)) aO aC aD (⟨i + 1, q1, c1, q2, c2, by omega, rfl, rfl, rfl, rfl⟩)
  ·rw [aY e] at hlk
   have e2 : dD (i + 1) set = dD i set ++ [i] := by rw [qB, if_neg e]
   have e3 : zs (dD (i + 1) set) = zs (dD i set) ++ [(i : Int)] := by rw [e2]; simp
   have e4 : bB m.a set (i + 1) = bB m.a set i ++ [gt m.a.rows (i : Int)] := by unfold bB; rw [e2]; simp
   refine bL (φ := jP (gt m.a.rows (i : Int)) u) (Hv.xrow aB (by omega)) ?_
   repeat (refine aK ?_)
   (refine zH rfl rfl aB rfl rfl ⟨okF, ?_⟩)
   rw [hlk]
   repeat (refine aK ?_)
   (refine aL (cs := recs eZ [(i : Int)]) ([.int .i64 (i : Int)]) rfl rfl (by intro v hv; repeat (first | exact absurd hv (List.not_mem_nil) | (rcases List.mem_cons.1 hv with rfl | hv; · rfl))) (by omega) rfl rfl rfl ?_; intro b2; refine ⟨okF, ?_⟩)
   (refine aX (ys := [(i : Int)]) 2 rfl rfl rfl ?_ (by decide) rfl (by omega) (by omega) rfl rfl ?_; (· first | exact Src.blk aB | exact Src.row aB | exact Src.imm aB (by first | assumption | exact .inl (Ok.mk _ _))); intro q3 c3; refine ⟨okF, ?_⟩)
   repeat (refine aK ?_)
   (refine aL (cs := recs eL [gt m.a.rows (i : Int)]) ([lv (gt m.a.rows (i : Int))]) rfl rfl (by intro v hv; repeat (first | exact absurd hv (List.not_mem_nil) | (rcases List.mem_cons.1 hv with rfl | hv; · rfl))) (by omega) rfl rfl rfl ?_; intro b3; refine ⟨okF, ?_⟩)
   (refine aX (ys := [gt m.a.rows (i : Int)]) 2 rfl rfl rfl ?_ (by decide) rfl (by omega) (by omega) rfl rfl ?_; (· first | exact Src.blk aB | exact Src.row aB | exact Src.imm aB (by first | assumption | exact .inl (Ok.mk _ _))); intro q4 c4; refine ⟨okF, ?_⟩)
   repeat (refine aK ?_)
   refine fM (φ := mK (bB m.a set i ++ [gt m.a.rows (i : Int)]) u) (Hv.snocL aB aB) ?_
   rw [← e3, ← e4]
   refine aM (m.a.rows.length - (i + 1)) _ _ _ (by first | omega | (simp only [List.length_append, List.length_cons, List.length_nil]; omega)) aO aC aD (⟨i + 1, q3, c3, q4, c4, by omega, rfl, rfl, rfl, rfl⟩)
 ·obtain rfl : i = m.a.rows.length := by omega
  repeat (refine aK ?_)
  refine vY (k := u) aB ?_
  refine wE .here ?_
  refine aQS (M' := .obj b (kG (nY set set.length)) :: M1) (I' := gD ⟨q2, c2, bB m.a set m.a.rows.length⟩ u :: aT q1 (recs eZ (zs (dD m.a.rows.length set))) :: I0) SubP.refl aD ?_
  rw [show (zs (dD m.a.rows.length set)).length = (dD m.a.rows.length set).length by simp]
  refine dZ [4, 5] (by first | exact .inl rfl | exact .inr rfl) rfl rfl rfl _ _ aC aD (⟨rfl, q1, c1, ⟨q2, c2, bB m.a set m.a.rows.length⟩, rfl, rfl, rfl⟩)
end
end Go.Proofs.YtgeagiikkeiioaaGreat
namespace Go.Proofs.YtgeagiikkeiioaaGreat
open Go Go.Fx
structure CandP (R C : Nat) (A : Mt) (set : List Int) (V : Mt) : Prop where
 len : ∀ x ∈ V, x.length = C
 out : ∀ x ∈ V, ∀ i, i < R → (i : Int) ∉ set → sV A C i (fun j => x.getD j 0) = 0
 all : (∀ x ∈ V, ∀ i, i < R → sV A C i (fun j => x.getD j 0) = 0) → ¬ und R C A set
theorem aLO {R C : Nat} {A : Mt} (hA : oV A R C) {set : List Int} : CandP R C A set (zB (iK A (dD R set)) C) := by
 have hx : ∀ i ∈ dD R set, i < R := fun i hi => (iY.1 hi).1
 obtain ⟨_, s, hr⟩ := iC (yO hA hx) C (Nat.le_refl _)
 have at0 : ∀ j, ∀ c, c < C → (sW (iH (iK A (dD R set)) C).1 (iH (iK A (dD R set)) C).2 C j).getD c 0 = oQ (at2 (iH (iK A (dD R set)) C).1) (iH (iK A (dD R set)) C).2 j c := fun j c hc => aGO hc
 have rwc : ∀ (i j : Nat), sV A C i (fun c => (sW (iH (iK A (dD R set)) C).1 (iH (iK A (dD R set)) C).2 C j).getD c 0) = sV A C i (oQ (at2 (iH (iK A (dD R set)) C).1) (iH (iK A (dD R set)) C).2 j) := fun i j => by
  unfold sV; exact bJ (fun c hc => congrArg (at2 A i c * ·) (at0 j c hc))
 have hj : ∀ x ∈ zB (iK A (dD R set)) C, ∃ j, (j < C ∧ j ∉ (iH (iK A (dD R set)) C).2) ∧ sW (iH (iK A (dD R set)) C).1 (iH (iK A (dD R set)) C).2 C j = x := fun x hx => by
  obtain ⟨j, h1, h2⟩ := List.mem_map.1 (show x ∈ (rM _ C).map _ from hx)
  exact ⟨j, aGV.1 h1, h2⟩
 refine ⟨fun x hx => ?_, fun x hx i hi hs => ?_, fun h => ?_⟩
 ·obtain ⟨j, _, rfl⟩ := hj x hx
  simp [sW]
 ·obtain ⟨j, ⟨h1, h2⟩, rfl⟩ := hj x hx
  rw [rwc]
  exact qW.1 (hr.null h1 h2) i (iY.2 ⟨hi, hs⟩)
 ·rw [aAB hA]
  intro z hz
  have := hr.sub (R' := R) (g := at2 A) (fun j h1 h2 => fun i hi => by
   have h3 := h _ (List.mem_map.2 ⟨j, aGV.2 ⟨h1, h2⟩, rfl⟩ : sW (iH (iK A (dD R set)) C).1 (iH (iK A (dD R set)) C).2 C j ∈ zB (iK A (dD R set)) C) i hi
   rw [rwc] at h3
   exact h3) z (qW.2 (fun i hi => hz i (iY.1 hi).1 (iY.1 hi).2))
  exact fun i hi => this i hi
theorem aMY {R C : Nat} {A : Mt} (hA : oV A R C) {set : List Int} (he : dD R set = []) : CandP R C A set ((List.range C).map (unL C)) := by
 refine ⟨fun x hx => ?_, fun x hx i hi hs => ?_, fun h => ?_⟩
 ·obtain ⟨j, _, rfl⟩ := List.mem_map.1 hx
  exact aRZ
 ·have := iY.2 ⟨hi, hs⟩
  rw [he] at this; simp at this
 ·rw [aAB hA]
  intro z _ i hi
  have h0 : ∀ j, j < C → at2 A i j = 0 := fun j hj => by
   have h3 := h _ (List.mem_map.2 ⟨j, List.mem_range.2 hj, rfl⟩) i hi
   have : sV A C i (fun c => (unL C j).getD c 0) = at2 A i j := by
    unfold sV
    rw [qO (p := j) hj (fun c hc hne => by show at2 A i c * (unL C j).getD c 0 = 0; rw [xZ hc]; simp only [oO]; rw [if_neg (fun e => hne e.symm)]; grind)]
    show at2 A i j * (unL C j).getD j 0 = at2 A i j
    rw [xZ hj]
    simp only [oO, if_true]; grind
   rw [this] at h3; exact h3
  unfold sV
  exact jT (fun j hj => by rw [h0 j hj]; grind)
def UndP (R C : Nat) (A : Mt) (set : List Int) (K : Nat) (M0 : List Ent) (I0 : List bA) (v : Value) (M : List Ent) (I : List bA) : Prop :=
 M0 = M ∧ ∃ (x : RL) (is : Bool), v = .tuple #[lv x, .bool is, .int .i64 0] ∧ I = jP x K :: I0 ∧ is = B (und R C A set) ∧ (is = false → x = ⟨none, 0, []⟩) ∧
  (is = true → x.es.length = C ∧ (∀ i, i < R → (i : Int) ∉ set → sV A C i (fun j => x.q.getD j 0) = 0) ∧ ∃ i, i < R ∧ sV A C i (fun j => x.q.getD j 0) ≠ 0)
theorem Hv.nil0 {I : List bA} {k : Nat} : Hv I (jP ⟨none, 0, []⟩ k) := ⟨fun X w hw => ⟨Sl.nil _ _ _, fun e he => by simp at he, ⟨Nat.le_refl _, .inr ⟨rfl, rfl⟩⟩⟩⟩
theorem aAD {R C : Nat} {A : Mt} {x : List Rat} : vJ (apL R C A x) ↔ ∀ i, i < R → sV A C i (fun j => x.getD j 0) = 0 := by
 unfold vJ apL sV
 simp only [List.mem_map, List.mem_range, forall_exists_index, and_imp, forall_apply_eq_imp_iff₂]
section
variable {X : List Nat} {w0 : World} {M0 : List Ent} {I0 : List bA}
theorem aOU {m : LE} {R C u K : Nat} {set : List Int} {q : Option Addr} {c : Nat} (hK : K = kb u C) (hb : K ≤ 500000000) (f : m.fit R C) (h : mW m u ∈ I0) (hl : set.length ≤ 1000) (hq : aT q (recs (eI .i64) set) ∈ I0) (hs : vZ R set = 0) :
  CD Tryz.prog 47 [vLE m, .slice q set.length c] X w0 M0 I0 (UndP R C m.a.q set K M0 I0) := by
 have hk0 : u ≤ K := by rw [hK]; exact nH u (Nat.zero_le C)
 have lR := f.d.1.1
 subst lR
 obtain ⟨r1, r2⟩ := f.d.2.1
 obtain ⟨c1, c2⟩ := f.d.2.2
 have lC := f.d.r0
 have hA := oH f.d.1
 have hN := fun M0 I0 h1 h2 => yT (X := X) (w0 := w0) (M0 := M0) (I0 := I0) (m := m) (q := q) (c := c) (k := u) (by omega) f h1 hl h2
 simp only [if_pos hs] at hN
 have hO := fun b M1 I0 h1 => aIY (X := X) (w0 := w0) (M0 := .obj b (kG (nY set set.length)) :: M1) (I0 := I0) (m := m) (u := u) (b := b) (set := set) (by omega) f h1 rfl
 refine bQ (φ := gD m.a u) (Hv.lea h) ?_
 refine bQ (φ := aT (m.a).p (recs eL (m.a).rows)) (Hv.xsl aB) ?_
 refine bD Tryz.func47 rfl Tryz.ntmps47 rfl ?_
 refine aJ ?_
 refine aI ?_
 (refine aP rfl rfl rfl ?_; intro b1; refine ⟨okF, ?_⟩)
 refine aF .here ?_
 repeat (refine aK ?_)
 (refine aA rfl (hN _ _ aB aB) rfl rfl ?_; rintro _ _ _ ⟨rfl, b, rfl, rfl⟩; refine ⟨okF, ?_⟩)
 repeat (refine aK ?_)
 rw [lC]
 repeat (refine aK ?_)
 (refine aA rfl (hO b _ _ aB) rfl rfl ?_; rintro _ _ _ ⟨rfl, q1, cc1, x, rfl, hx, rfl⟩; refine ⟨okF, ?_⟩)
 have hxq : x.q = iK m.a.q (dD m.a.rows.length set) := by
  show x.rows.map RL.q = _
  rw [hx]; exact aOT f.d.1
 have hxl : x.rows.length = (dD m.a.rows.length set).length := by rw [hx]; simp [bB]
 have hrl := yN (n := m.a.rows.length) (set := set)
 have hxc : ∀ r ∈ x.rows, r.es.length = C := fun r hr => by
  rw [hx] at hr
  obtain ⟨t, ht, rfl⟩ := List.mem_map.1 hr
  exact f.d.1.row (iY.1 ht).1
 repeat (refine aK ?_)
 refine xM (fun G M I => ∃ cd : MX, CandP m.a.rows.length C m.a.q set cd.q ∧ cd.rows.length ≤ C ∧ G = [(2, .pointer (some ⟨b1, 0, none⟩)), (10, mv cd)] ∧ M0 = M ∧ I = gD cd K :: aT (some ⟨b1, 0, none⟩) [mv m.a, lv m.l, lv m.p] :: aT m.a.p (recs eL m.a.rows) :: gD m.a u :: I0) ?_ ?_
 ·by_cases h0 : 0 < (dD m.a.rows.length set).length
  ·have hNl := fun M0 I0 h => aSX (X := X) (w0 := w0) (M0 := M0) (I0 := I0) (a := x) (R := x.rows.length) (C := C) (k0 := u) (by omega) ⟨⟨rfl, hxc⟩, ⟨by omega, by omega⟩, c1, c2⟩ h
   rw [← hK, hxq] at hNl
   repeat (refine aK ?_)
   (refine aA rfl (hNl _ _ aB) rfl rfl ?_; rintro _ _ _ ⟨rfl, cd, rfl, hcd, hcl, rfl⟩; refine ⟨okF, ?_⟩)
   repeat (refine aK ?_)
   refine dP _ _ _ aO aC aD ⟨cd, by rw [hcd]; exact aLO hA, ?_, rfl, rfl, rfl⟩
   have h1 := aPB (yO hA (ix := dD m.a.rows.length set) (fun i hi => (iY.1 hi).1))
   have h2 := congrArg List.length hcd
   rw [List.length_map] at h2
   omega
  ·have he : dD m.a.rows.length set = [] := List.eq_nil_of_length_eq_zero (by omega)
   repeat (refine aK ?_)
   refine mI 34 1 ?_
   refine bL (φ := mK [] K) Hv.nilL ?_
   refine aS [2, 9, 46] rfl (fun k G M I => ∃ (i : Nat) (rows : List RL) (qo : Option Addr) (co : Nat), i ≤ C ∧ k = C - i ∧ rows.length = i ∧ rows.map RL.q = (List.range i).map (unL C) ∧ G = [(10, .slice qo rows.length co), (47, .int .i64 i)] ∧ M = .row qo rows.length co (recs eL rows) 34 1 :: M0 ∧ I = mK rows K :: aT (some ⟨b1, 0, none⟩) [mv m.a, lv m.l, lv m.p] :: aT m.a.p (recs eL m.a.rows) :: gD m.a u :: I0) (C) _ _ _ aO aC aD (⟨0, [], none, 0, by omega, rfl, rfl, rfl, rfl, rfl, rfl⟩) ?_
   rintro kk G M I ⟨i, rows, qo, co, hi, rfl, hrl2, hrq, rfl, rfl, rfl⟩
   by_cases hin : i < C
   ·have hOn := fun M0 I0 => aGM (X := X) (w0 := w0) (M0 := M0) (I0 := I0) (n := C) (i := i) (by omega) hin
    repeat (refine aK ?_)
    (refine aA rfl (hOn _ _) rfl rfl ?_; rintro _ _ _ ⟨rfl, e, rfl, he1, hel, rfl⟩; refine ⟨okF, ?_⟩)
    (refine aL (cs := recs eL [e]) ([lv e]) rfl rfl (by intro v hv; repeat (first | exact absurd hv (List.not_mem_nil) | (rcases List.mem_cons.1 hv with rfl | hv; · rfl))) (by omega) rfl rfl rfl ?_; intro b4; refine ⟨okF, ?_⟩)
    (refine aX (ys := [e]) 1 rfl rfl rfl ?_ (by decide) rfl (by omega) (by omega) rfl rfl ?_; (· first | exact Src.blk aB | exact Src.row aB | exact Src.imm aB (by first | assumption | exact .inl (Ok.mk _ _))); intro q4 c4; refine ⟨okF, ?_⟩)
    repeat (refine aK ?_)
    refine fM (φ := jP e K) (Hv.lm (k := 0) aB (Nat.zero_le _)) ?_
    refine fM (φ := mK (rows ++ [e]) K) (Hv.snocL aB aB) ?_
    refine aM (C - (i + 1)) _ _ _ (by first | omega | (simp only [List.length_append, List.length_cons, List.length_nil]; omega)) aO aC aD (⟨i + 1, rows ++ [e], q4, c4, by omega, rfl, by simp; omega, by rw [List.range_succ, List.map_append, List.map_append, hrq]; simp [he1], rfl, rfl, rfl⟩)
   ·obtain rfl : i = C := by omega
    repeat (refine aK ?_)
    refine vY (k := K) aB ?_
    refine dP _ _ _ aO aC aD ⟨⟨qo, co, rows⟩, by rw [show (⟨qo, co, rows⟩ : MX).q = rows.map RL.q from rfl, hrq]; exact aMY hA he, by show rows.length ≤ _; omega, rfl, rfl, rfl⟩
 ·rintro G M I ⟨cd, hP, hcl, rfl, rfl, rfl⟩
  refine bL (φ := aT (cd).p (recs eL (cd).rows)) (Hv.xsl aB) ?_
  repeat (refine aK ?_)
  refine aS [2, 57, 58] rfl (fun k G M I => ∃ i : Nat, i ≤ cd.rows.length ∧ k = cd.rows.length - i ∧ (∀ j : Nat, j < i → ∀ t, t < m.a.rows.length → sV m.a.q C t (fun c => (gt cd.rows (j : Int)).q.getD c 0) = 0) ∧ G = [(59, .int .i64 i)] ∧ M0 = M ∧ I = aT cd.p (recs eL cd.rows) :: gD cd K :: aT (some ⟨b1, 0, none⟩) [mv m.a, lv m.l, lv m.p] :: aT m.a.p (recs eL m.a.rows) :: gD m.a u :: I0) (cd.rows.length) _ _ _ aO aC aD (⟨0, by omega, rfl, fun j hj => by omega, rfl, rfl, rfl⟩) ?_
  rintro kk G M I ⟨i, hi, rfl, hz, rfl, rfl, rfl⟩
  by_cases hin : i < cd.rows.length
  ·have hmem : (gt cd.rows (i : Int)).q ∈ cd.q := List.mem_map.2 ⟨_, cZ (by omega), rfl⟩
   have hgl : (gt cd.rows (i : Int)).es.length = C := by have := hP.len _ hmem; simpa using this
   refine bL (φ := jP (gt cd.rows (i : Int)) K) (Hv.xrow aB (by omega)) ?_
   have hAp := fun M0 I0 h1 h2 => aDH (X := X) (w0 := w0) (M0 := M0) (I0 := I0) (a := m.a) (x := gt cd.rows (i : Int)) (k := u) (m := K) (by omega) (by omega) f.d hgl h1 h2
   have hkm : C * (u + K + 1) ≤ 100000000000 := Nat.le_trans (Nat.mul_le_mul c2 (show u + K + 1 ≤ 1000000001 by omega)) (by decide)
   generalize C * (u + K + 1) = K2 at *
   repeat (refine aK ?_)
   (refine aA rfl (hAp _ _ aB aB) rfl rfl ?_; rintro _ _ _ ⟨rfl, d, rfl, hd, rfl⟩; refine ⟨okF, ?_⟩)
   have hd' : d.q = apL m.a.rows.length C m.a.q (gt cd.rows (i : Int)).q := hd
   have hdl : d.es.length = m.a.rows.length := by have := congrArg List.length hd'; rw [aEB, List.length_map] at this; exact this
   have hZ := fun M0 I0 h => xR (X := X) (w0 := w0) (M0 := M0) (I0 := I0) (r := d) (k := K2) hkm (by omega) h
   rw [hd'] at hZ
   by_cases e : vJ (apL m.a.rows.length C m.a.q (gt cd.rows (i : Int)).q)
   ·rw [bR e] at hZ
    repeat (refine aK ?_)
    (refine aA rfl (hZ _ _ aB) rfl rfl ?_; rintro _ _ _ ⟨rfl, rfl, rfl⟩; refine ⟨okF, ?_⟩)
    repeat (refine aK ?_)
    refine aM (cd.rows.length - (i + 1)) _ _ _ (by first | omega | (simp only [List.length_append, List.length_cons, List.length_nil]; omega)) aO aC aD (⟨i + 1, by omega, rfl, oP hz (aAD.1 e), rfl, rfl, rfl⟩)
   ·rw [aY e] at hZ
    repeat (refine aK ?_)
    (refine aA rfl (hZ _ _ aB) rfl rfl ?_; rintro _ _ _ ⟨rfl, rfl, rfl⟩; refine ⟨okF, ?_⟩)
    repeat (refine aK ?_)
    have hu : und m.a.rows.length C m.a.q set := Classical.byContradiction (fun hn => e (aAD.2 (fun t ht => (aAB hA).1 hn _ (fun k hk hks => hP.out _ hmem k hk hks) t ht)))
    refine dZ [4, 5, 6] (by first | exact .inl rfl | exact .inr rfl) rfl rfl rfl _ _ aC aD (⟨rfl, gt cd.rows (i : Int), true, rfl, rfl, (bR hu).symm, fun h => (by cases h), fun _ => ⟨hgl, hP.out _ hmem, Classical.byContradiction (fun hn => e (aAD.2 (fun t ht => Classical.byContradiction (fun h => hn ⟨t, ht, h⟩))))⟩⟩)
  ·have hu : ¬ und m.a.rows.length C m.a.q set := hP.all (fun y hy => by
    obtain ⟨r, hr, rfl⟩ := List.mem_map.1 hy
    exact pW (p := fun r : RL => ∀ t, t < m.a.rows.length → sV m.a.q C t (fun c => r.q.getD c 0) = 0) hz (by omega) r hr)
   repeat (refine aK ?_)
   refine fM (φ := jP ⟨none, 0, []⟩ K) Hv.nil0 ?_
   refine dZ [4, 5, 6] (by first | exact .inl rfl | exact .inr rfl) rfl rfl rfl _ _ aC aD (⟨rfl, ⟨none, 0, []⟩, false, rfl, rfl, (aY hu).symm, fun _ => rfl, fun h => (by cases h)⟩)
end
end Go.Proofs.YtgeagiikkeiioaaGreat

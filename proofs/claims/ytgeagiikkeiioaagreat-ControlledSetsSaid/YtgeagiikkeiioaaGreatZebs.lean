/- The law ControlledFirm: setCode, canonical, rest, undetectable, firm; the walk. The law ControlledFirm: the walk. -/
import Derived.Test.YtgeagiikkeiioaaGreatZebr
import Derived.Test.YtgeagiikkeiioaaGreatZeaw
set_option linter.unusedSimpArgs false
set_option linter.unusedVariables false
set_option maxRecDepth 100000
set_option maxHeartbeats 4000000
namespace Go.Proofs.YtgeagiikkeiioaaGreat
open Go Go.Fx
theorem Hv.shX {I : List bD} {y : WM} {Y : MX} {n g : Nat} (e : y = Y.raw) (hs : y.shN n g) (h : lS y ∈ I) : Hv I (fF Y (30 * g)) := ⟨fun X w hw => by
 subst e
 have hi := (hw _ h : IsWM Y.raw X w)
 refine ⟨by have := hi.sl; rw [show Y.raw.rows = Y.rows.map RL.raw from rfl, zG] at this; exact this, fun r hr => ?_, by have := hi.cap; rw [show Y.raw.rows.length = Y.rows.length from MX.raw_rows _] at this; exact this⟩
 have hr2 := hi.row r.raw (List.mem_map.2 ⟨r, hr, rfl⟩)
 have hs2 := hs.2 r.raw (List.mem_map.2 ⟨r, hr, rfl⟩)
 exact (Hv.shL (I := [fT r.raw]) rfl hs2 (List.Mem.head _)).go X w (fun φ hφ => by rw [List.mem_singleton.1 hφ]; exact hr2)⟩
theorem WM.shN.smlN {m : WM} {n g : Nat} (hn : n ≤ 1000000 ∧ g ≤ 1000000) (hs : m.shN n g) : m.sml := ⟨by have := hs.1; omega, fun r hr => WL.shN.sml hn (hs.2 r hr)⟩
section
variable {X : List Nat} {w0 : World} {M0 : List Ent} {I0 : List bD}
theorem rA {m : LE} {R : Nat} {set : List Int} {q : Option Addr} {c : Nat} (hR : m.a.rows.length = R) (hl : set.length ≤ 1000) (hq : aV q (recs (eI .i64) set) ∈ I0) :
  CD Tryz.prog 49 [uN m, .slice q set.length c] X w0 M0 I0 (fun v M I => M0 = M ∧ I0 = I ∧ v = .int .i64 (kQ R set)) := by
 have hIn := fun (i : Int) M0 I0 => aAN (X := X) (w0 := w0) (M0 := M0) (I0 := I0) (a := mv m.a) (l := lv m.l) (p := lv m.p) (q := m.a.p) (n := m.a.rows.length) (c := m.a.c) (i := i) rfl
 rw [hR] at hIn
 refine aW Tryz.func49 rfl Tryz.ntmps49 rfl ?_
 refine aJ ?_
 refine aH ?_
 (refine aM rfl rfl rfl ?_; intro b1; refine ⟨okF, ?_⟩)
 refine aF .here ?_
 repeat (refine aI ?_)
 refine aQ [1, 2, 8, 9] rfl (fun k G M I => ∃ i : Nat, i ≤ set.length ∧ k = set.length - i ∧ (∀ j : Nat, j < i → 0 ≤ gt set (j : Int) ∧ gt set (j : Int) < (R : Int)) ∧ G = [(10, .int .i64 i)] ∧ M0 = M ∧ I = aV (some ⟨b1, 0, none⟩) [mv m.a, lv m.l, lv m.p] :: I0) (set.length) _ _ _ aR aG aD (⟨0, by omega, rfl, fun j hj => by omega, rfl, rfl, rfl⟩) ?_
 rintro kk G M I ⟨i, hi, rfl, hg, rfl, rfl, rfl⟩
 by_cases hin : i < set.length
 ·have hIi := hIn (gt set (i : Int))
  by_cases e : 0 ≤ gt set (i : Int) ∧ gt set (i : Int) < (R : Int)
  ·rw [aU e] at hIi
   repeat (refine aI ?_)
   (refine aA rfl (hIi _ _) rfl rfl ?_; rintro _ _ _ ⟨rfl, rfl, rfl⟩; refine ⟨okF, ?_⟩)
   repeat (refine aI ?_)
   refine aL (set.length - (i + 1)) _ _ _ (by first | omega | (simp only [List.length_append, List.length_cons, List.length_nil]; omega)) aR aG aD (⟨i + 1, by omega, rfl, kR hg e, rfl, rfl, rfl⟩)
  ·rw [aP e] at hIi
   have hs : kQ R set = 2 := if_neg (fun h => e (h _ (bM (by omega))))
   rw [hs]
   repeat (refine aI ?_)
   (refine aA rfl (hIi _ _) rfl rfl ?_; rintro _ _ _ ⟨rfl, rfl, rfl⟩; refine ⟨okF, ?_⟩)
   repeat (refine aI ?_)
   refine aC (by first | exact .inl rfl | exact .inr rfl) rfl rfl _ _ aG aD (⟨rfl, rfl, rfl⟩)
 ·obtain rfl : i = set.length := by omega
  have hin' : inP R set := oG (p := fun x => 0 ≤ x ∧ x < (R : Int)) hg (by omega)
  repeat (refine aI ?_)
  refine aQ [1, 20] rfl (fun k G M I => ∃ i : Nat, i ≤ set.length ∧ k = set.length - i ∧ (∀ j : Nat, j < i → 0 < j → gt set ((j : Int) - 1) < gt set (j : Int)) ∧ G = [(21, .int .i64 i)] ∧ M0 = M ∧ I0 = I) (set.length) _ _ _ aR aG aD (⟨0, by omega, rfl, fun j hj => by omega, rfl, rfl, rfl⟩) ?_
  rintro kk G M I ⟨i, hi, rfl, ha, rfl, rfl, rfl⟩
  by_cases hin2 : i < set.length
  ·by_cases h0 : 0 < i
   ·by_cases e1 : gt set ((i : Int) - 1) < gt set (i : Int)
    ·repeat (refine aI ?_)
     (repeat refine aJ ?_); refine bK [0, 1, 2, 3, 4, 5, 6, 7, 8, 9, 10, 11, 12, 13] [0, 0, 0, 0, 0, 0, 0, 0, 0, 0, 0, 0, 0, 0] mixed (by kernel_rfl) ?_
     repeat (refine aI ?_)
     refine aL (set.length - (i + 1)) _ _ _ (by first | omega | (simp only [List.length_append, List.length_cons, List.length_nil]; omega)) aR aG aD (⟨i + 1, by omega, rfl, fun j hj h0 => by
      by_cases e : j = i
      ·subst e; exact e1
      ·exact ha j (by omega) h0, rfl, rfl, rfl⟩)
    ·have hb : kQ R set = 5 := by unfold kQ; rw [if_pos hin', if_neg (fun h => e1 (h i (List.mem_range.2 hin2) h0))]
     rw [hb]
     repeat (refine aI ?_)
     (repeat refine aJ ?_); refine bK [0, 1, 2, 3, 4, 5, 6, 7, 8, 9, 10, 11, 12, 13] [0, 0, 0, 0, 0, 0, 0, 0, 0, 0, 0, 0, 0, 0] mixed (by kernel_rfl) ?_
     repeat (refine aI ?_)
     refine aC (by first | exact .inl rfl | exact .inr rfl) rfl rfl _ _ aG aD (⟨rfl, rfl, rfl⟩)
   ·repeat (refine aI ?_)
    (repeat refine aJ ?_); refine bK [0, 1, 2, 3, 4, 5, 6, 7, 8, 9, 10, 11, 12, 13] [0, 0, 0, 0, 0, 0, 0, 0, 0, 0, 0, 0, 0, 0] mixed (by kernel_rfl) ?_
    repeat (refine aI ?_)
    refine aL (set.length - (i + 1)) _ _ _ (by first | omega | (simp only [List.length_append, List.length_cons, List.length_nil]; omega)) aR aG aD (⟨i + 1, by omega, rfl, fun j hj h1 => by omega, rfl, rfl, rfl⟩)
  ·have hb : kQ R set = 0 := by unfold kQ; rw [if_pos hin', if_pos (aGQ ha (by omega))]
   rw [hb]
   repeat (refine aI ?_)
   refine aC (by first | exact .inl rfl | exact .inr rfl) rfl rfl _ _ aG aD (⟨rfl, rfl, rfl⟩)
theorem aKR {r : WL} (hs : r.sml) (hw : Hv I0 (fT r)) : CD Tryz.prog 109 [rZ r] X w0 M0 I0 (fun v M I => M0 = M ∧ I0 = I ∧ v = .bool (B (¬ r.good))) := by
 refine nC hw ?_
 refine bC Tryz.func109 rfl Tryz.ntmps109 rfl ?_
 repeat (refine aI ?_)
 (refine aA rfl (oU (r := r) hs aB) rfl rfl ?_; rintro _ _ _ ⟨rfl, rfl, rfl⟩; refine ⟨okF, ?_⟩)
 repeat (refine aI ?_)
 refine aC (by first | exact .inl rfl | exact .inr rfl) rfl rfl _ _ aG aD (⟨rfl, rfl, rfl⟩)
theorem aEI {m : WM} (hs : m.sml) (hw : lS m ∈ I0) : CD Tryz.prog 48 [mvW m] X w0 M0 I0 (fun v M I => M0 = M ∧ I0 = I ∧ v = .bool (B (∀ r ∈ m.rows, r.good))) := by
 refine bI (φ := aV m.p (recs uR m.rows)) (Hv.wmsl hw) ?_
 have hl := hs.1
 refine bC Tryz.func48 rfl Tryz.ntmps48 rfl ?_
 repeat (refine aI ?_)
 (refine aA rfl (aCE (g := 109) (fs := #[]) (cs := #[]) (fun (x : WL) => ¬ x.good) (by omega) (List.Mem.head _) (fun i hi => aKR (hs.2 _ (bM (by omega))) (Hv.wmrow (List.Mem.tail _ hw) (by omega)))) rfl rfl ?_; rintro _ _ _ ⟨rfl, rfl, rfl⟩; refine ⟨okF, ?_⟩)
 repeat (refine aI ?_)
 refine aC (by first | exact .inl rfl | exact .inr rfl) rfl rfl _ _ aG aD (⟨rfl, rfl, congrArg Value.bool (fK ?_)⟩)
 exact ⟨fun e x hx => Decidable.of_not_not (fun hn => e ⟨x, hx, hn⟩), fun e ⟨x, hx, hn⟩ => hn (e x hx)⟩
theorem aMO {m : LE} {R C u : Nat} {set : List Int} {q : Option Addr} {c : Nat} (hk : u ≤ 20000000000) (f : m.fit R C) (h : iX m u ∈ I0) (hl : set.length ≤ 1000) (hq : aV q (recs (eI .i64) set) ∈ I0) :
  CD Tryz.prog 110 [uN m, .slice q set.length c] X w0 M0 I0 (fun v M I => M0 = M ∧ ∃ x : MX, v = .tuple #[mv x, .bool (B (0 < (bJ R set).length))] ∧ x.rows = kU m.a set R ∧ I = fF x u :: I0) := by
 have lR := f.d.1.1
 subst lR
 obtain ⟨r1, r2⟩ := f.d.2.1
 refine bI (φ := fF m.a u) (Hv.lea h) ?_
 refine bI (φ := aV (m.a).p (recs eL (m.a).rows)) (Hv.xsl aB) ?_
 refine aW Tryz.func110 rfl Tryz.ntmps110 rfl ?_
 refine aJ ?_
 refine aH ?_
 (refine aM rfl rfl rfl ?_; intro b1; refine ⟨okF, ?_⟩)
 refine aF .here ?_
 repeat (refine aI ?_)
 refine mI 34 1 ?_
 refine bQ (φ := mO [] u) Hv.nilL ?_
 refine aQ [1, 10, 11] rfl (fun k G M I => ∃ (i : Nat) (q2 : Option Addr) (c2 : Nat), i ≤ m.a.rows.length ∧ k = m.a.rows.length - i ∧ G = [(6, .slice q2 (kU m.a set i).length c2), (12, .int .i64 i)] ∧ M = .row q2 (kU m.a set i).length c2 (recs eL (kU m.a set i)) 34 1 :: M0 ∧ I = mO (kU m.a set i) u :: aV (some ⟨b1, 0, none⟩) [mv m.a, lv m.l, lv m.p] :: aV m.a.p (recs eL m.a.rows) :: fF m.a u :: I0) (m.a.rows.length) _ _ _ aR aG aD (⟨0, none, 0, by omega, rfl, rfl, rfl, rfl⟩) ?_
 rintro kk G M I ⟨i, q2, c2, hi, rfl, rfl, rfl, rfl⟩
 have hrl := sH (n := i) (set := set)
 have hl2 : (kU m.a set i).length ≤ i := by unfold kU; simpa using hrl
 by_cases hin : i < m.a.rows.length
 ·have hCn := fun M0 I0 h => uE (X := X) (w0 := w0) (M0 := M0) (I0 := I0) (p := q) (l := set) (t := set.length) (c := c) (x := (i : Int)) rfl (by omega) h
  by_cases e : (i : Int) ∈ set
  ·rw [aU e] at hCn
   have e2 : bJ (i + 1) set = bJ i set := by rw [qO, if_pos e]
   have e5 : kU m.a set (i + 1) = kU m.a set i := by unfold kU; rw [e2]
   repeat (refine aI ?_)
   (refine aA rfl (hCn _ _ aB) rfl rfl ?_; rintro _ _ _ ⟨rfl, rfl, rfl⟩; refine ⟨okF, ?_⟩)
   repeat (refine aI ?_)
   rw [← e5]
   refine aL (m.a.rows.length - (i + 1)) _ _ _ (by first | omega | (simp only [List.length_append, List.length_cons, List.length_nil]; omega)) aR aG aD (⟨i + 1, q2, c2, by omega, rfl, rfl, rfl, rfl⟩)
  ·rw [aP e] at hCn
   have e2 : bJ (i + 1) set = bJ i set ++ [i] := by rw [qO, if_neg e]
   have e4 : kU m.a set (i + 1) = kU m.a set i ++ [gt m.a.rows (i : Int)] := by unfold kU; rw [e2]; simp
   refine bQ (φ := jR (gt m.a.rows (i : Int)) u) (Hv.xrow aB (by omega)) ?_
   repeat (refine aI ?_)
   (refine aA rfl (hCn _ _ aB) rfl rfl ?_; rintro _ _ _ ⟨rfl, rfl, rfl⟩; refine ⟨okF, ?_⟩)
   repeat (refine aI ?_)
   (refine aO (cs := recs eL [gt m.a.rows (i : Int)]) ([lv (gt m.a.rows (i : Int))]) rfl rfl (by intro v hv; repeat (first | exact absurd hv (List.not_mem_nil) | (rcases List.mem_cons.1 hv with rfl | hv; · rfl))) (by omega) rfl rfl rfl ?_; intro b3; refine ⟨okF, ?_⟩)
   (refine dV (ys := [gt m.a.rows (i : Int)]) 1 rfl rfl rfl ?_ (by decide) rfl (by omega) (by omega) rfl rfl ?_; (· first | exact Src.blk aB | exact Src.row aB | exact Src.imm aB (by first | assumption | exact .inl (Ok.mk _ _))); intro q4 c4; refine ⟨okF, ?_⟩)
   repeat (refine aI ?_)
   refine eT (φ := mO (kU m.a set i ++ [gt m.a.rows (i : Int)]) u) (Hv.snocL aB aB) ?_
   rw [← e4]
   refine aL (m.a.rows.length - (i + 1)) _ _ _ (by first | omega | (simp only [List.length_append, List.length_cons, List.length_nil]; omega)) aR aG aD (⟨i + 1, q4, c4, by omega, rfl, rfl, rfl, rfl⟩)
 ·obtain rfl : i = m.a.rows.length := by omega
  have hol : (kU m.a set m.a.rows.length).length = (bJ m.a.rows.length set).length := by simp [kU]
  repeat (refine aI ?_)
  refine xC (k := u) aB ?_
  refine aOM (M' := M0) (I' := fF ⟨q2, c2, kU m.a set m.a.rows.length⟩ u :: I0) SubP.refl aD ?_
  refine bZ [4, 5] (by first | exact .inl rfl | exact .inr rfl) rfl rfl rfl _ _ aG aD (⟨rfl, ⟨q2, c2, kU m.a set m.a.rows.length⟩, congrArg (fun b => Value.tuple #[_, Value.bool b]) (fK (by rw [hol]; omega)), rfl, rfl⟩)
theorem tX {m : LE} {R C u : Nat} {set : List Int} {q : Option Addr} {c : Nat} (hb : kb u C ≤ 500000000) (f : m.fit R C) (h : iX m u ∈ I0) (hl : set.length ≤ 1000) (hq : aV q (recs (eI .i64) set) ∈ I0) :
  CD Tryz.prog 52 [uN m, .slice q set.length c] X w0 M0 I0 (fun v M I => M0 = M ∧ I0 = I ∧ v = .bool (B (und R C m.a.q set))) := by
 have hk0 : u ≤ kb u C := iC u (Nat.zero_le C)
 obtain ⟨r1, r2⟩ := f.d.2.1
 obtain ⟨c1, c2⟩ := f.d.2.2
 have hRs := fun M0 I0 h1 h2 => aMO (X := X) (w0 := w0) (M0 := M0) (I0 := I0) (m := m) (u := u) (q := q) (c := c) (by omega) f h1 hl h2
 have hRk := fun M0 I0 h => aBN (X := X) (w0 := w0) (M0 := M0) (I0 := I0) (a := m.a) (R := R) (C := C) (k0 := u) (by omega) (by omega) (by omega) f.d.1 h
 refine bI (φ := fF m.a u) (Hv.lea h) ?_
 refine aW Tryz.func52 rfl Tryz.ntmps52 rfl ?_
 refine aJ ?_
 refine aH ?_
 (refine aM rfl rfl rfl ?_; intro b1; refine ⟨okF, ?_⟩)
 refine aF .here ?_
 repeat (refine aI ?_)
 (refine aA rfl (hRs _ _ aB aB) rfl rfl ?_; rintro _ _ _ ⟨rfl, x, rfl, hx, rfl⟩; refine ⟨okF, ?_⟩)
 have hxq : x.q = gM m.a.q (bJ R set) := by
  show x.rows.map RL.q = _
  rw [hx]; exact aJB f.d.1
 have hxl : x.rows.length = (bJ R set).length := by rw [hx]; simp [kU]
 have hrl := sH (n := R) (set := set)
 have hxc : ∀ r ∈ x.rows, r.es.length = C := fun r hr => by
  rw [hx] at hr
  obtain ⟨t, ht, rfl⟩ := List.mem_map.1 hr
  exact f.d.1.row (fZ.1 ht).1
 by_cases h0 : 0 < (bJ R set).length
 ·have hRx := fun M0 I0 h => aBN (X := X) (w0 := w0) (M0 := M0) (I0 := I0) (a := x) (R := x.rows.length) (C := C) (k0 := u) (by omega) (by omega) (by omega) ⟨rfl, hxc⟩ h
  rw [hxq] at hRx
  rw [aU h0]
  repeat (refine aI ?_)
  (refine aA rfl (hRx _ _ aB) rfl rfl ?_; rintro _ _ _ ⟨rfl, rfl, rfl⟩; refine ⟨okF, ?_⟩)
  repeat (refine aI ?_)
  (refine aA rfl (hRk _ _ aB) rfl rfl ?_; rintro _ _ _ ⟨rfl, rfl, rfl⟩; refine ⟨okF, ?_⟩)
  repeat (refine aI ?_)
  refine aC (by first | exact .inl rfl | exact .inr rfl) rfl rfl _ _ aG aD (⟨rfl, rfl, congrArg Value.bool (fK (by unfold und; omega))⟩)
 ·have hz : rk (gM m.a.q (bJ R set)) C = 0 := by
   obtain ⟨_, s, hr⟩ := iG (vY (pG f.d.1) (ix := bJ R set) (fun i hi => (fZ.1 hi).1)) C (Nat.le_refl _)
   have := hr.len
   unfold rk; omega
  rw [aP h0]
  repeat (refine aI ?_)
  (refine aA rfl (hRk _ _ aB) rfl rfl ?_; rintro _ _ _ ⟨rfl, rfl, rfl⟩; refine ⟨okF, ?_⟩)
  repeat (refine aI ?_)
  refine aC (by first | exact .inl rfl | exact .inr rfl) rfl rfl _ _ aG aD (⟨rfl, rfl, congrArg Value.bool (fK (by unfold und; rw [hz]; omega))⟩)
theorem aDV {m : LE} {R C u n : Nat} {set : List Int} {q : Option Addr} {c : Nat} {Y : MX} (hk : u + n ≤ 500000000) (f : m.fit R C) (h : iX m u ∈ I0) (hl : set.length ≤ 1000) (hin : inP R set) (hq : aV q (recs (eI .i64) set) ∈ I0) (hY : fF Y n ∈ I0) (hYl : Y.rows.length ≤ 1000 ∧ ∀ r ∈ Y.rows, r.es.length ≤ 1000) :
  CD Tryz.prog 50 [uN m, .slice q set.length c, mv Y] X w0 M0 I0 (fun v M I => M0 = M ∧ I0 = I ∧ v = .bool (B (firmP R C m.a.q set Y.q))) := by
 have lR := f.d.1.1
 subst lR
 obtain ⟨r1, r2⟩ := f.d.2.1
 obtain ⟨y1, y2⟩ := hYl
 have yl : Y.q.length = Y.rows.length := by show (Y.rows.map _).length = _; rw [List.length_map]
 refine bI (φ := fF Y n) (Hv.mem aB) ?_
 refine bI (φ := aV (Y).p (recs eL (Y).rows)) (Hv.xsl aB) ?_
 refine eQ Tryz.func50 rfl Tryz.ntmps50 rfl ?_
 refine aJ ?_
 refine aH ?_
 (refine aM rfl rfl rfl ?_; intro b1; refine ⟨okF, ?_⟩)
 refine aF .here ?_
 by_cases hlen : Y.rows.length = set.length
 ·repeat (refine aI ?_)
  refine aQ [1, 3, 17, 18] rfl (fun k G M I => ∃ i : Nat, i ≤ Y.rows.length ∧ k = Y.rows.length - i ∧ (∀ t, t < i → firmR m.a.rows.length C m.a.q set t (gt Y.rows (t : Int)).q) ∧ G = [(19, .int .i64 i)] ∧ M0 = M ∧ I = aV (some ⟨b1, 0, none⟩) [mv m.a, lv m.l, lv m.p] :: aV Y.p (recs eL Y.rows) :: fF Y n :: I0) (Y.rows.length) _ _ _ aR aG aD (⟨0, by omega, rfl, fun j hj => by omega, rfl, rfl, rfl⟩) ?_
  rintro kk G M I ⟨i, hi, rfl, hfr, rfl, rfl, rfl⟩
  by_cases hin1 : i < Y.rows.length
  ·have hra : rowAt Y.q i = (gt Y.rows (i : Int)).q := nO hin1
   have hno : ¬ firmR m.a.rows.length C m.a.q set i (gt Y.rows (i : Int)).q → ¬ firmP m.a.rows.length C m.a.q set Y.q := fun hn h => hn (by rw [← hra]; exact h.2 i (List.mem_range.2 (by omega)))
   have hql : (gt Y.rows (i : Int)).q.length = (gt Y.rows (i : Int)).es.length := by simp
   have hV := fun M0 I0 h => qV (X := X) (w0 := w0) (M0 := M0) (I0 := I0) (y := gt Y.rows (i : Int)) (k := n) (by omega) (by have := kP y2 hin1; omega) h
   refine bQ (φ := jR (gt Y.rows (i : Int)) n) (Hv.xrow aB (by omega)) ?_
   by_cases e1 : (gt Y.rows (i : Int)).es.length = m.a.rows.length
   ·have hB := fun M0 I0 h1 h2 => vG (X := X) (w0 := w0) (M0 := M0) (I0 := I0) (y := gt Y.rows (i : Int)) (m := m) (k := u) (n := n) (by omega) f e1 h1 h2
    by_cases e2 : annP m.a.rows.length C m.a.q (gt Y.rows (i : Int)).q
    ·rw [aU e2] at hB
     repeat (refine aI ?_)
     (refine aA rfl (hV _ _ aB) rfl rfl ?_; rintro _ _ _ ⟨rfl, rfl, rfl⟩; refine ⟨okF, ?_⟩)
     repeat (refine aI ?_)
     (refine aA rfl (hB _ _ aB aB) rfl rfl ?_; rintro _ _ _ ⟨rfl, rfl, rfl⟩; refine ⟨okF, ?_⟩)
     repeat (refine aI ?_)
     refine aQ [1, 3, 7, 8, 17, 18, 19, 41, 42] rfl (fun k G M I => ∃ j : Nat, j ≤ set.length ∧ k = set.length - j ∧ (∀ t, t < j → (gt Y.rows (i : Int)).q.getD (gt set (t : Int)).toNat 0 = mM t i) ∧ G = [(43, .int .i64 j)] ∧ M0 = M ∧ I = jR (gt Y.rows (i : Int)) n :: aV (some ⟨b1, 0, none⟩) [mv m.a, lv m.l, lv m.p] :: aV Y.p (recs eL Y.rows) :: fF Y n :: I0) (set.length) _ _ _ aR aG aD (⟨0, by omega, rfl, fun t ht => by omega, rfl, rfl, rfl⟩) ?_
     rintro kk G M I ⟨j, hj, rfl, hse, rfl, rfl, rfl⟩
     by_cases hjn : j < set.length
     ·obtain ⟨p1, p2⟩ := hin _ (bM (ms := set) (i := (j : Int)) (by omega))
      have hpn : ((gt set (j : Int)).toNat : Int) = gt set (j : Int) := by omega
      have hqd : (gt Y.rows (i : Int)).q.getD (gt set (j : Int)).toNat 0 = (gt (gt Y.rows (i : Int)).es (gt set (j : Int))).q := by
       have := fA (es := (gt Y.rows (i : Int)).es) (j := (gt set (j : Int)).toNat) (by omega)
       rw [hpn] at this; exact this
      have hW0 := fun M0 I0 => nA (X := X) (w0 := w0) (M0 := M0) (I0 := I0) (x := 0) (by decide) (k := 0) (by decide)
      have hW1 := fun M0 I0 => nA (X := X) (w0 := w0) (M0 := M0) (I0 := I0) (x := 1) (by decide) (k := 0) (by decide)
      have hS := fun (e : RE) M0 I0 h1 h2 => aBY (X := X) (w0 := w0) (M0 := M0) (I0 := I0) (a := gt (gt Y.rows (i : Int)).es (gt set (j : Int))) (b := e) (k := n) (m := 0) (by omega) h1 h2
      refine bQ (φ := aV ((gt Y.rows (i : Int))).p (recs eR ((gt Y.rows (i : Int))).es)) (Hv.lsl aB) ?_
      refine bQ (φ := eY (gt (gt Y.rows (i : Int)).es (gt set (j : Int))) n) (Hv.lel aB (by omega)) ?_
      repeat (refine aI ?_)
      by_cases e3 : j = i
      ·repeat (refine aI ?_)
       (repeat refine aJ ?_); refine bK [0, 1, 2, 3, 4, 5, 6, 7] [2, 2, 2, 1, 1, 0, 0, 0] mixed (by kernel_rfl) ?_
       repeat (refine aI ?_)
       (refine aA rfl (hW1 _ _) rfl rfl ?_; rintro _ _ _ ⟨rfl, e, rfl, he, rfl⟩; refine ⟨okF, ?_⟩)
       have hSe := hS e
       by_cases e4 : (gt (gt Y.rows (i : Int)).es (gt set (j : Int))).q = e.q
       ·rw [aU e4] at hSe
        repeat (refine aI ?_)
        (refine aA rfl (hSe _ _ (Hv.mem aB) (Hv.mem aB)) rfl rfl ?_; rintro _ _ _ ⟨rfl, rfl, rfl⟩; refine ⟨okF, ?_⟩)
        repeat (refine aI ?_)
        refine aL (set.length - (j + 1)) _ _ _ (by first | omega | (simp only [List.length_append, List.length_cons, List.length_nil]; omega)) aR aG aD (⟨j + 1, by omega, rfl, kR hse (by rw [hqd, e4, he]; simp only [mM, if_pos e3]; rfl), rfl, rfl, rfl⟩)
       ·rw [aP e4] at hSe
        have hnf := hno (fun hf => e4 (by rw [← hqd, hf.2 j (List.mem_range.2 hjn), he]; simp only [mM, if_pos e3]; rfl))
        repeat (refine aI ?_)
        (refine aA rfl (hSe _ _ (Hv.mem aB) (Hv.mem aB)) rfl rfl ?_; rintro _ _ _ ⟨rfl, rfl, rfl⟩; refine ⟨okF, ?_⟩)
        repeat (refine aI ?_)
        refine aC (by first | exact .inl rfl | exact .inr rfl) rfl rfl _ _ aG aD (⟨rfl, rfl, congrArg Value.bool (aP hnf).symm⟩)
      ·repeat (refine aI ?_)
       (repeat refine aJ ?_); refine bK [0, 1, 2, 3, 4, 5, 6, 7] [2, 2, 2, 1, 1, 0, 0, 0] mixed (by kernel_rfl) ?_
       repeat (refine aI ?_)
       (refine aA rfl (hW0 _ _) rfl rfl ?_; rintro _ _ _ ⟨rfl, e, rfl, he, rfl⟩; refine ⟨okF, ?_⟩)
       have hSe := hS e
       by_cases e4 : (gt (gt Y.rows (i : Int)).es (gt set (j : Int))).q = e.q
       ·rw [aU e4] at hSe
        repeat (refine aI ?_)
        (refine aA rfl (hSe _ _ (Hv.mem aB) (Hv.mem aB)) rfl rfl ?_; rintro _ _ _ ⟨rfl, rfl, rfl⟩; refine ⟨okF, ?_⟩)
        repeat (refine aI ?_)
        refine aL (set.length - (j + 1)) _ _ _ (by first | omega | (simp only [List.length_append, List.length_cons, List.length_nil]; omega)) aR aG aD (⟨j + 1, by omega, rfl, kR hse (by rw [hqd, e4, he]; simp only [mM, if_neg e3]; rfl), rfl, rfl, rfl⟩)
       ·rw [aP e4] at hSe
        have hnf := hno (fun hf => e4 (by rw [← hqd, hf.2 j (List.mem_range.2 hjn), he]; simp only [mM, if_neg e3]; rfl))
        repeat (refine aI ?_)
        (refine aA rfl (hSe _ _ (Hv.mem aB) (Hv.mem aB)) rfl rfl ?_; rintro _ _ _ ⟨rfl, rfl, rfl⟩; refine ⟨okF, ?_⟩)
        repeat (refine aI ?_)
        refine aC (by first | exact .inl rfl | exact .inr rfl) rfl rfl _ _ aG aD (⟨rfl, rfl, congrArg Value.bool (aP hnf).symm⟩)
     ·repeat (refine aI ?_)
      refine aL (Y.rows.length - (i + 1)) _ _ _ (by first | omega | (simp only [List.length_append, List.length_cons, List.length_nil]; omega)) aR aG aD (⟨i + 1, by omega, rfl, kR hfr ⟨⟨by omega, e2⟩, fun t ht => hse t (by have := List.mem_range.1 ht; omega)⟩, rfl, rfl, rfl⟩)
    ·rw [aP e2] at hB
     have hnf := hno (fun hf => e2 hf.1.2)
     repeat (refine aI ?_)
     (refine aA rfl (hV _ _ aB) rfl rfl ?_; rintro _ _ _ ⟨rfl, rfl, rfl⟩; refine ⟨okF, ?_⟩)
     repeat (refine aI ?_)
     (refine aA rfl (hB _ _ aB aB) rfl rfl ?_; rintro _ _ _ ⟨rfl, rfl, rfl⟩; refine ⟨okF, ?_⟩)
     repeat (refine aI ?_)
     refine aC (by first | exact .inl rfl | exact .inr rfl) rfl rfl _ _ aG aD (⟨rfl, rfl, congrArg Value.bool (aP hnf).symm⟩)
   ·have hnf := hno (fun hf => e1 (by have := hf.1.1; omega))
    repeat (refine aI ?_)
    refine aC (by first | exact .inl rfl | exact .inr rfl) rfl rfl _ _ aG aD (⟨rfl, rfl, congrArg Value.bool (aP hnf).symm⟩)
  ·have hyes : firmP m.a.rows.length C m.a.q set Y.q := ⟨by omega, fun t ht => by
    have ht' := List.mem_range.1 ht
    rw [nO (by omega)]
    exact hfr t (by omega)⟩
   repeat (refine aI ?_)
   refine aC (by first | exact .inl rfl | exact .inr rfl) rfl rfl _ _ aG aD (⟨rfl, rfl, congrArg Value.bool (aU hyes).symm⟩)
 ·have hnf : ¬ firmP m.a.rows.length C m.a.q set Y.q := fun hf => hlen (by have := hf.1; omega)
  repeat (refine aI ?_)
  refine aC (by first | exact .inl rfl | exact .inr rfl) rfl rfl _ _ aG aD (⟨rfl, rfl, congrArg Value.bool (aP hnf).symm⟩)
end
end Go.Proofs.YtgeagiikkeiioaaGreat
namespace Go.Proofs.YtgeagiikkeiioaaGreat
open Go Go.Fx
section
variable {X : List Nat} {w0 : World} {M0 : List Ent} {I0 : List bD}
theorem aSY {m : LW} {y : WM} {set : List Int} {q : Option Addr} {c : Nat} (hR : m.rch) (hyr : y.rch) (hl : (set.length : Int) ≤ 9223372036854775807) (hm : iZ m ∈ I0) (hy : lS y ∈ I0) (hn : ¬ (m.few 7 5 ∧ set.length ≤ 12 ∧ y.shN 10 8)) :
  CD Tryz.prog 9 [vLW m, .slice q set.length c, mvW y] X w0 M0 I0 (fun v M I => M0 = M ∧ I0 = I ∧ v = .bool true) := by
 have hKn := fun M0 I0 => eU (X := X) (w0 := w0) (M0 := M0) (I0 := I0)
 have hF := fun M0 I0 h => nU (X := X) (w0 := w0) (M0 := M0) (I0 := I0) hR h
 have hS := fun M0 I0 h => nQ (X := X) (w0 := w0) (M0 := M0) (I0 := I0) (m := y) (n := 10) (g := 8) (by omega) hyr h
 refine eQ Tryz.func9 rfl Tryz.ntmps9 rfl ?_
 refine aJ ?_
 refine aH ?_
 (refine aM rfl rfl rfl ?_; intro b1; refine ⟨okF, ?_⟩)
 refine aF .here ?_
 repeat (refine aI ?_)
 (refine aA rfl (hKn _ _) rfl rfl ?_; rintro _ _ _ ⟨rfl, rfl, rfl⟩; refine ⟨okF, ?_⟩)
 by_cases fw : m.few 7 5
 ·rw [aU fw] at hF
  by_cases h12 : set.length ≤ 12
  ·rw [aP (show ¬ y.shN 10 8 from fun h => hn ⟨fw, h12, h⟩)] at hS
   repeat (refine aI ?_)
   (refine aA rfl (hF _ _ aB) rfl rfl ?_; rintro _ _ _ ⟨rfl, rfl, rfl⟩; refine ⟨okF, ?_⟩)
   repeat (refine aI ?_)
   (refine aA rfl (hS _ _ aB) rfl rfl ?_; rintro _ _ _ ⟨rfl, rfl, rfl⟩; refine ⟨okF, ?_⟩)
   repeat (refine aI ?_)
   refine aC (by first | exact .inl rfl | exact .inr rfl) rfl rfl _ _ aG aD (⟨rfl, rfl, rfl⟩)
  ·repeat (refine aI ?_)
   (refine aA rfl (hF _ _ aB) rfl rfl ?_; rintro _ _ _ ⟨rfl, rfl, rfl⟩; refine ⟨okF, ?_⟩)
   repeat (refine aI ?_)
   refine aC (by first | exact .inl rfl | exact .inr rfl) rfl rfl _ _ aG aD (⟨rfl, rfl, rfl⟩)
 ·rw [aP fw] at hF
  repeat (refine aI ?_)
  (refine aA rfl (hF _ _ aB) rfl rfl ?_; rintro _ _ _ ⟨rfl, rfl, rfl⟩; refine ⟨okF, ?_⟩)
  repeat (refine aI ?_)
  refine aC (by first | exact .inl rfl | exact .inr rfl) rfl rfl _ _ aG aD (⟨rfl, rfl, rfl⟩)
theorem aQA {m : LW} {y : WM} {set : List Int} {q : Option Addr} {c : Nat} (hR : m.rch) (hyr : y.rch) (h12 : set.length ≤ 12) (hm : iZ m ∈ I0) (hy : lS y ∈ I0) (fw : m.few 7 5) (ys : y.shN 10 8) (hc : m.code ≠ 0) :
  CD Tryz.prog 9 [vLW m, .slice q set.length c, mvW y] X w0 M0 I0 (fun v M I => M0 = M ∧ I0 = I ∧ v = .bool true) := by
 have hKn := fun M0 I0 => eU (X := X) (w0 := w0) (M0 := M0) (I0 := I0)
 have hF := fun M0 I0 h => nU (X := X) (w0 := w0) (M0 := M0) (I0 := I0) hR h
 have hS := fun M0 I0 h => nQ (X := X) (w0 := w0) (M0 := M0) (I0 := I0) (m := y) (n := 10) (g := 8) (by omega) hyr h
 rw [aU fw] at hF
 rw [aU ys] at hS
 have hCk := fun M0 I0 h => mF (X := X) (w0 := w0) (M0 := M0) (I0 := I0) (fw.sml (by omega)) h
 have hCc := fun M0 I0 h => aOW (X := X) (w0 := w0) (M0 := M0) (I0 := I0) (s := .slice q set.length c) (y := mvW y) (fw.sml (by omega)) hc h
 generalize m.code = co at *
 refine eQ Tryz.func9 rfl Tryz.ntmps9 rfl ?_
 refine aJ ?_
 refine aH ?_
 (refine aM rfl rfl rfl ?_; intro b1; refine ⟨okF, ?_⟩)
 refine aF .here ?_
 repeat (refine aI ?_)
 (refine aA rfl (hKn _ _) rfl rfl ?_; rintro _ _ _ ⟨rfl, rfl, rfl⟩; refine ⟨okF, ?_⟩)
 repeat (refine aI ?_)
 (refine aA rfl (hF _ _ aB) rfl rfl ?_; rintro _ _ _ ⟨rfl, rfl, rfl⟩; refine ⟨okF, ?_⟩)
 repeat (refine aI ?_)
 (refine aA rfl (hS _ _ aB) rfl rfl ?_; rintro _ _ _ ⟨rfl, rfl, rfl⟩; refine ⟨okF, ?_⟩)
 repeat (refine aI ?_)
 (refine aA rfl (hCk _ _ aB) rfl rfl ?_; rintro _ _ _ ⟨rfl, rfl, rfl⟩; refine ⟨okF, ?_⟩)
 repeat (refine aI ?_)
 (refine aA rfl (hCc _ _ aB) rfl rfl ?_; rintro _ _ _ ⟨rfl, rfl, rfl⟩; refine ⟨okF, ?_⟩)
 have hcc : B (co = co) = true := aU rfl
 have hcn : B (¬ co = 0) = true := aU hc
 repeat (refine aI ?_)
 rw [hcc, hcn]
 repeat (refine aI ?_)
 refine aC (by first | exact .inl rfl | exact .inr rfl) rfl rfl _ _ aG aD (⟨rfl, rfl, rfl⟩)
theorem aPD {m : LE} {R C : Nat} {y : WM} {set : List Int} {q : Option Addr} {c : Nat} (hR : m.raw.rch) (hyr : y.rch) (h12 : set.length ≤ 12) (f : m.fit R C) (hm : iZ m.raw ∈ I0) (h : iX m 30 ∈ I0) (hy : lS y ∈ I0) (fw : m.raw.few 7 5) (ys : y.shN 10 8) (hg : ¬ ∀ r ∈ y.rows, r.good) :
  CD Tryz.prog 9 [uN m, .slice q set.length c, mvW y] X w0 M0 I0 (fun v M I => M0 = M ∧ I0 = I ∧ v = .bool true) := by
 have hKn := fun M0 I0 => eU (X := X) (w0 := w0) (M0 := M0) (I0 := I0)
 have hF := fun M0 I0 h => kX (X := X) (w0 := w0) (M0 := M0) (I0 := I0) hR fw h
 have hS := fun M0 I0 h => nQ (X := X) (w0 := w0) (M0 := M0) (I0 := I0) (m := y) (n := 10) (g := 8) (by omega) hyr h
 rw [aU ys] at hS
 have hCk := fun M0 I0 h => gH (X := X) (w0 := w0) (M0 := M0) (I0 := I0) fw f h
 have hV := fun M0 I0 h => aEI (X := X) (w0 := w0) (M0 := M0) (I0 := I0) (m := y) (ys.smlN (by omega)) h
 rw [aP hg] at hV
 have hCc := fun M0 I0 h h2 => aRT (X := X) (w0 := w0) (M0 := M0) (I0 := I0) (y := y) (s := .slice q set.length c) (k := 30) (by omega) f h (ys.smlN (by omega)) h2 hg
 refine eQ Tryz.func9 rfl Tryz.ntmps9 rfl ?_
 refine aJ ?_
 refine aH ?_
 (refine aM rfl rfl rfl ?_; intro b1; refine ⟨okF, ?_⟩)
 refine aF .here ?_
 repeat (refine aI ?_)
 (refine aA rfl (hKn _ _) rfl rfl ?_; rintro _ _ _ ⟨rfl, rfl, rfl⟩; refine ⟨okF, ?_⟩)
 repeat (refine aI ?_)
 (refine aA rfl (hF _ _ aB) rfl rfl ?_; rintro _ _ _ ⟨rfl, rfl, rfl⟩; refine ⟨okF, ?_⟩)
 repeat (refine aI ?_)
 (refine aA rfl (hS _ _ aB) rfl rfl ?_; rintro _ _ _ ⟨rfl, rfl, rfl⟩; refine ⟨okF, ?_⟩)
 repeat (refine aI ?_)
 (refine aA rfl (hCk _ _ aB) rfl rfl ?_; rintro _ _ _ ⟨rfl, rfl, rfl⟩; refine ⟨okF, ?_⟩)
 repeat (refine aI ?_)
 (refine aA rfl (hV _ _ aB) rfl rfl ?_; rintro _ _ _ ⟨rfl, rfl, rfl⟩; refine ⟨okF, ?_⟩)
 repeat (refine aI ?_)
 (refine aA rfl (hCc _ _ aB aB) rfl rfl ?_; rintro _ _ _ ⟨rfl, rfl, rfl⟩; refine ⟨okF, ?_⟩)
 repeat (refine aI ?_)
 refine aC (by first | exact .inl rfl | exact .inr rfl) rfl rfl _ _ aG aD (⟨rfl, rfl, rfl⟩)
theorem aSL {m : LE} {R C : Nat} {Y : MX} {set : List Int} {q : Option Addr} {c : Nat} (hR : m.raw.rch) (hyr : Y.raw.rch) (h12 : set.length ≤ 12) (f : m.fit R C) (hd : R ≤ 7 ∧ C ≤ 5) (hm : iZ m.raw ∈ I0) (h : iX m 30 ∈ I0) (hy : lS Y.raw ∈ I0) (hyn : fF Y 240 ∈ I0) (hq : aV q (recs (eI .i64) set) ∈ I0) (fw : m.raw.few 7 5) (ys : Y.raw.shN 10 8) :
  CD Tryz.prog 9 [uN m, .slice q set.length c, mv Y] X w0 M0 I0 (fun v M I => M0 = M ∧ I0 = I ∧ v = .bool true) := by
 have hkb : kb 30 C ≤ 40000 := Nat.le_trans (iC 30 hd.2) (by decide)
 have hKn := fun M0 I0 => eU (X := X) (w0 := w0) (M0 := M0) (I0 := I0)
 have hF := fun M0 I0 h => kX (X := X) (w0 := w0) (M0 := M0) (I0 := I0) hR fw h
 have hS := fun M0 I0 h => nQ (X := X) (w0 := w0) (M0 := M0) (I0 := I0) (m := Y.raw) (n := 10) (g := 8) (by omega) hyr h
 rw [aU ys, uW] at hS
 have hCk := fun M0 I0 h => gH (X := X) (w0 := w0) (M0 := M0) (I0 := I0) fw f h
 have hV := fun M0 I0 h => aEI (X := X) (w0 := w0) (M0 := M0) (I0 := I0) (m := Y.raw) (ys.smlN (by omega)) h
 rw [aU (fun r hr => by
  obtain ⟨x, _, rfl⟩ := List.mem_map.1 (show r ∈ Y.rows.map RL.raw from hr)
  exact x.raw_good), uW] at hV
 have hYl : Y.rows.length ≤ 1000 ∧ ∀ r ∈ Y.rows, r.es.length ≤ 1000 := by
  have h1 := ys.1
  rw [MX.raw_rows] at h1
  refine ⟨by omega, fun r hr => ?_⟩
  have h2 := (ys.2 r.raw (List.mem_map.2 ⟨r, hr, rfl⟩)).1
  rw [show r.raw.es.length = r.es.length from by show (r.es.map RE.raw).length = _; rw [List.length_map]] at h2
  omega
 have hSc := fun M0 I0 h => rA (X := X) (w0 := w0) (M0 := M0) (I0 := I0) (m := m) (R := R) (set := set) (q := q) (c := c) f.d.1.1 (by omega) h
 have hFm := fun M0 I0 h1 h2 h3 => aGG (X := X) (w0 := w0) (M0 := M0) (I0 := I0) (m := m) (u := 30) (n := 240) (set := set) (q := q) (c := c) (Y := Y) (by omega) (by omega) f h1 (by omega) h2 h3 hYl
 have hA := pG f.d.1
 refine eQ Tryz.func9 rfl Tryz.ntmps9 rfl ?_
 refine aJ ?_
 refine aH ?_
 (refine aM rfl rfl rfl ?_; intro b1; refine ⟨okF, ?_⟩)
 refine aF .here ?_
 repeat (refine aI ?_)
 (refine aA rfl (hKn _ _) rfl rfl ?_; rintro _ _ _ ⟨rfl, rfl, rfl⟩; refine ⟨okF, ?_⟩)
 repeat (refine aI ?_)
 (refine aA rfl (hF _ _ aB) rfl rfl ?_; rintro _ _ _ ⟨rfl, rfl, rfl⟩; refine ⟨okF, ?_⟩)
 repeat (refine aI ?_)
 (refine aA rfl (hS _ _ aB) rfl rfl ?_; rintro _ _ _ ⟨rfl, rfl, rfl⟩; refine ⟨okF, ?_⟩)
 repeat (refine aI ?_)
 (refine aA rfl (hCk _ _ aB) rfl rfl ?_; rintro _ _ _ ⟨rfl, rfl, rfl⟩; refine ⟨okF, ?_⟩)
 repeat (refine aI ?_)
 (refine aA rfl (hV _ _ aB) rfl rfl ?_; rintro _ _ _ ⟨rfl, rfl, rfl⟩; refine ⟨okF, ?_⟩)
 repeat (refine aI ?_)
 by_cases hs : kQ R set = 0
 ·have hin := (aAY hs).1
  rw [hs] at hSc
  simp only [if_pos hs] at hFm
  repeat (refine aI ?_)
  (refine aA rfl (hSc _ _ aB) rfl rfl ?_; rintro _ _ _ ⟨rfl, rfl, rfl⟩; refine ⟨okF, ?_⟩)
  by_cases h0 : set.length = 0
  ·simp only [if_pos h0] at hFm
   repeat (refine aI ?_)
   (refine aA rfl (hFm _ _ aB aB aB) rfl rfl ?_; rintro _ _ _ ⟨rfl, rfl, rfl⟩; refine ⟨okF, ?_⟩)
   repeat (refine aI ?_)
   refine aC (by first | exact .inl rfl | exact .inr rfl) rfl rfl _ _ aG aD (⟨rfl, rfl, rfl⟩)
  ·simp only [if_neg h0] at hFm
   have hfi := fun M0 I0 h1 h2 h3 => aDV (X := X) (w0 := w0) (M0 := M0) (I0 := I0) (m := m) (u := 30) (n := 240) (set := set) (q := q) (c := c) (Y := Y) (by omega) f h1 (by omega) hin h2 h3 hYl
   have hUn := fun M0 I0 h1 h2 => tX (X := X) (w0 := w0) (M0 := M0) (I0 := I0) (m := m) (u := 30) (set := set) (q := q) (c := c) (by omega) f h1 (by omega) h2
   by_cases e : firmP R C m.a.q set Y.q
   ·simp only [if_pos e] at hFm
    rw [aU e] at hfi
    rw [aP (e.und hA hin)] at hUn
    repeat (refine aI ?_)
    (refine aA rfl (hfi _ _ aB aB aB) rfl rfl ?_; rintro _ _ _ ⟨rfl, rfl, rfl⟩; refine ⟨okF, ?_⟩)
    repeat (refine aI ?_)
    (refine aA rfl (hFm _ _ aB aB aB) rfl rfl ?_; rintro _ _ _ ⟨rfl, rfl, rfl⟩; refine ⟨okF, ?_⟩)
    repeat (refine aI ?_)
    (refine aA rfl (hUn _ _ aB aB) rfl rfl ?_; rintro _ _ _ ⟨rfl, rfl, rfl⟩; refine ⟨okF, ?_⟩)
    repeat (refine aI ?_)
    refine aC (by first | exact .inl rfl | exact .inr rfl) rfl rfl _ _ aG aD (⟨rfl, rfl, rfl⟩)
   ·simp only [if_neg e] at hFm
    rw [aP e] at hfi
    repeat (refine aI ?_)
    (refine aA rfl (hfi _ _ aB aB aB) rfl rfl ?_; rintro _ _ _ ⟨rfl, rfl, rfl⟩; refine ⟨okF, ?_⟩)
    repeat (refine aI ?_)
    (refine aA rfl (hFm _ _ aB aB aB) rfl rfl ?_; rintro _ _ _ ⟨rfl, rfl, rfl⟩; refine ⟨okF, ?_⟩)
    repeat (refine aI ?_)
    refine aC (by first | exact .inl rfl | exact .inr rfl) rfl rfl _ _ aG aD (⟨rfl, rfl, rfl⟩)
 ·simp only [if_neg hs] at hFm
  generalize kQ R set = co at *
  repeat (refine aI ?_)
  (refine aA rfl (hSc _ _ aB) rfl rfl ?_; rintro _ _ _ ⟨rfl, rfl, rfl⟩; refine ⟨okF, ?_⟩)
  repeat (refine aI ?_)
  (refine aA rfl (hFm _ _ aB aB aB) rfl rfl ?_; rintro _ _ _ ⟨rfl, rfl, rfl⟩; refine ⟨okF, ?_⟩)
  have hcc : B (co = co) = true := aU rfl
  have hcn : B (¬ co = 0) = true := aU hs
  repeat (refine aI ?_)
  rw [hcc, hcn]
  repeat (refine aI ?_)
  refine aC (by first | exact .inl rfl | exact .inr rfl) rfl rfl _ _ aG aD (⟨rfl, rfl, rfl⟩)
theorem aUI {m : LW} {y : WM} {set : List Int} {q : Option Addr} {c : Nat} (hR : m.rch) (hyr : y.rch) (hl : (set.length : Int) ≤ 9223372036854775807) (hm : iZ m ∈ I0) (hq : aV q (recs (eI .i64) set) ∈ I0) (hy : lS y ∈ I0) :
  CD Tryz.prog 9 [vLW m, .slice q set.length c, mvW y] X w0 M0 I0 (fun v M I => M0 = M ∧ I0 = I ∧ v = .bool true) := by
 by_cases hn : m.few 7 5 ∧ set.length ≤ 12 ∧ y.shN 10 8
 ·obtain ⟨fw, h12, ys⟩ := hn
  by_cases hc : m.code = 0
  ·refine iW (φ := ((∀ r ∈ m.a.rows, ∀ e ∈ r.es, e.Fit) ∧ (∀ e ∈ m.l.es, e.Fit) ∧ ∀ e ∈ m.p.es, e.Fit) ∧ ∀ r ∈ y.rows, ∀ e ∈ r.es, e.Fit) (fun w hw => ⟨Mem.fitLW hm hw, Mem.fitM hy hw⟩) (fun hf => ?_)
   obtain ⟨n, R, C, rfl, f, _, _⟩ := LW.num hf.1 hc
   rw [rG]
   refine nC (φ := iX n 30) (Hv.few fw hm) ?_
   by_cases yg : ∀ r ∈ y.rows, r.good
   ·obtain ⟨Y, rfl⟩ := WM.good_raw hf.2 yg
    rw [uW]
    refine nC (φ := fF Y 240) (Hv.shX rfl ys (List.Mem.tail _ hy)) ?_
    exact aSL hR hyr h12 f (aBQ f fw) (List.Mem.tail _ (List.Mem.tail _ hm)) (List.Mem.tail _ (List.Mem.head _)) (List.Mem.tail _ (List.Mem.tail _ hy)) (List.Mem.head _) (List.Mem.tail _ (List.Mem.tail _ hq)) fw ys
   ·exact aPD hR hyr h12 f (List.Mem.tail _ hm) (List.Mem.head _) (List.Mem.tail _ hy) fw ys yg
  ·exact aQA hR hyr h12 hm hy fw ys hc
 ·exact aSY hR hyr hl hm hy hn
end
end Go.Proofs.YtgeagiikkeiioaaGreat

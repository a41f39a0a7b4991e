/- Chapter 29's law: equations. The document's Null. -/
import Derived.Test.YtjbhdfpjnjedhaaGreatZobp
import Derived.Test.YtjbhdfpjnjedhaaGreatZobl
import Derived.Test.YtjbhdfpjnjedhaaGreatZoan
import Derived.Test.YtjbhdfpjnjedhaaGreatZobk
set_option linter.unusedSimpArgs false
set_option linter.unusedVariables false
set_option maxRecDepth 100000
set_option maxHeartbeats 4000000
namespace Go.Fx
open Go
section
variable {P : Program} {n : Nat} {G : Env} {C : World → Prop} {ty : TypeId}
theorem sU {t e : TypeId} {sz len : Nat} {x ix : Operand} {cs : List Value} {v : Value} {k : IntKind} {i : Int} [ht : ArrTy P t len e sz] [he : ScalarTy P e] (hx : ev G x = some (.agg cs.toArray)) (hi : ev G ix = some (.int k i)) (h : 0 ≤ i ∧ i < len)
  (hs : sz = 1) (hv : cs[i.toNat]? = some v) : Const P n G (.index t x ix) ty C v := by
 subst hs
 refine ⟨?_⟩
 intro st ha dst pos after guard w _
 have hu := ht.und
 simp [execOp, Instr.index, ha.ev hx, ha.ev hi, asIntOf, fH hu, h.1, h.2, part, mF, run_sizeOf ht.size, hv]
end
end Go.Fx
namespace Go.Proofs.YtjbhdfpjnjedhaaGreat
open Go Go.Fx
section
variable {X : List Nat} {w0 : World} {M0 M1 M2 : List Ent} {I0 : List aY}
def wO (x : Int) : Prop := (-9223372036854775808 ≤ x ∧ x ≤ 9223372036854775807) ∧ x.natAbs ≤ 2 ^ 16
theorem aFP {b9 b10 m t : Nat} {x1 x2 : List Int} {d1 d2 : Int} {I : List aY} (h1 : aM (some ⟨b9, 0, none⟩) (recs eZ x1) ∈ I) (h2 : aM (some ⟨b10, 0, none⟩) (recs eZ x2) ∈ I) (l1 : x1.length = m) (l2 : x2.length = m) (hx1 : ∀ z ∈ x1, wO z) (hx2 : ∀ z ∈ x2, wO z) (hd1 : wO d1) (hd2 : wO d2) (ht : t < 2) :
  ∃ (bt : Nat) (xs : List Int) (d : Int), [Value.slice (some ⟨b9, 0, none⟩) m m, .slice (some ⟨b10, 0, none⟩) m m][t]? = some (.slice (some ⟨bt, 0, none⟩) m m) ∧ aM (some ⟨bt, 0, none⟩) (recs eZ xs) ∈ I ∧ xs.length = m ∧ (∀ z ∈ xs, wO z) ∧ (recs eZ [d1, d2])[0 + (t : Int).toNat * 1]? = some (Value.int .i64 d) ∧ wO d ∧ [cz x1, cz x2].take (t + 1) = [cz x1, cz x2].take t ++ [cz xs] ∧ [(d1 : Rat), (d2 : Rat)].take (t + 1) = [(d1 : Rat), (d2 : Rat)].take t ++ [(d : Rat)] := by
 rcases (show t = 0 ∨ t = 1 by omega) with rfl | rfl
 ·exact ⟨b9, x1, d1, rfl, h1, l1, hx1, rfl, hd1, rfl, rfl⟩
 ·exact ⟨b10, x2, d2, rfl, h2, l2, hx2, rfl, hd2, rfl, rfl⟩
theorem aCY {kd : Nat} {q qs_ : Option Addr} {l : List Q4} {smp : List Int} {n c ns cs_ : Nat} (hk : kd ≤ 2) (hl : l.length = n) (hn : n ≤ 64) (hs : ∀ s ∈ l, s.near) (hsl : smp.length = ns) (hns : ns ≤ 64) (hin : ∀ x ∈ smp, 0 ≤ x ∧ x < n) (hq : aM q (recs kP l) ∈ I0) (hqs : aM qs_ (recs eZ smp) ∈ I0) :
  CD Tryz.prog 44 [.int .i64 (kd : Int), .slice q n c, .slice qs_ ns cs_] X w0 M0 I0 (fun v M I => M0 = M ∧ ∃ (A : MX) (b : RL), v = .tuple #[mv A, lv b] ∧ A.q = vQ kd (dY l smp) ∧ b.q = dsB kd (dY l smp) ∧ I = jI b 16 :: iT A 16 :: I0) := by
 refine bT (φ := aM q (recs kP l)) (Hv.mem hq) (bT (φ := aM qs_ (recs eZ smp)) (Hv.mem (List.mem_cons_of_mem _ hqs)) ?_)
 refine jE Tryz.func44 rfl Tryz.ntmps44 rfl ?_
 repeat (refine aI ?_)
 refine kL 50 4 ?_
 refine kL 53 1 ?_
 refine eO (φ := bB [] 16) Hv.nilR ?_
 refine eO (φ := gD [] 16) Hv.nilL ?_
 refine aP [0, 1, 22, 23] rfl (fun k G M I => ∃ (i : Nat) (rows : List RL) (bs : List RE) (qa qb : Option Addr) (ca cb : Nat), i ≤ ns ∧ k = ns - i ∧ rows.map RL.q = vQ kd (dY l (smp.take i)) ∧ qs bs = dsB kd (dY l (smp.take i)) ∧ G = [(8, .slice qa rows.length ca), (9, .slice qb bs.length cb), (24, .int .i64 i)] ∧ M = .row qa rows.length ca (recs eL rows) 53 1 :: .row qb bs.length cb (recs eR bs) 50 4 :: M0 ∧ I = gD rows 16 :: bB bs 16 :: aM qs_ (recs eZ smp) :: aM q (recs kP l) :: I0) (ns) _ _ _ aO aD aC (⟨0, [], [], none, none, 0, 0, by omega, rfl, rfl, rfl, rfl, rfl, rfl⟩) ?_
 rintro kk G M I ⟨i, rows, bs, qa, qb, ca, cb, hi, rfl, hrq, hbq, rfl, rfl, rfl⟩
 have hpl : (dY l (smp.take i)).length = i := by rw [vD, List.length_take]; omega
 have hlr : rows.length = 2 * i := by have := congrArg List.length hrq; rw [List.length_map, vH, hpl] at this; omega
 have hlb : bs.length = 2 * i := by have := congrArg List.length hbq; rw [show (qs bs).length = bs.length from List.length_map .., tN, hpl] at this; omega
 by_cases hii : i < ns
 ·have hzm := hin _ (bS (ms := smp) (i := (i : Int)) (by omega))
  have ht : dY l (smp.take (i + 1)) = dY l (smp.take i) ++ [gt l (gt smp (i : Int))] := by rw [← vV, gtQ (by omega)]; exact congrArg (dY l) (List.take_append_getElem (by omega)).symm
  obtain ⟨z, hz⟩ : ∃ z, gt smp (i : Int) = z := ⟨_, rfl⟩
  rw [hz] at hzm ht
  have hmem := bS (ms := l) (i := z) (by omega)
  obtain ⟨s, hss⟩ : ∃ s, gt l z = s := ⟨_, rfl⟩
  rw [hss] at hmem ht
  obtain ⟨n1, n2, n3, n4⟩ := hs s hmem
  repeat (refine aI ?_)
  rw [hz]
  repeat (refine aI ?_)
  rw [hss]
  (refine aJ rfl rfl ?_; intro b12; refine ⟨okF, ?_⟩)
  repeat (refine aI ?_)
  (repeat refine aH ?_); refine dI [0, 1, 2, 3, 4, 5, 6, 7] [0, 0, 0, 0, 0, 0, 0, 0] mixed (by kernel_rfl) ?_
  repeat (refine aI ?_)
  (refine aJ rfl rfl ?_; intro b15; refine ⟨okF, ?_⟩)
  repeat (refine aI ?_)
  (refine aF rfl (fun _ => jP (vals := [.int .i64 s.u, .int .i64 s.v]) (cells := recs eZ [s.u, s.v]) rfl ?hpl rfl ?hz) rfl rfl ?_; (case hpl => exact (by intro v hv; repeat (first | exact absurd hv (List.not_mem_nil) | (rcases List.mem_cons.1 hv with rfl | hv; · rfl)))); (case hz => rfl))
  (refine aJ rfl rfl ?_; intro b16; refine ⟨okF, ?_⟩)
  repeat (refine aI ?_)
  rcases (show kd = 0 ∨ kd = 1 ∨ kd = 2 by omega) with h0 | h0 | h0
  ·obtain rfl : kd = 0 := by omega
   repeat (refine aI ?_)
   (refine aN (cs := recs eZ [1, 0]) ([.int .i64 (1), .int .i64 (0)]) rfl rfl (by intro v hv; repeat (first | exact absurd hv (List.not_mem_nil) | (rcases List.mem_cons.1 hv with rfl | hv; · rfl))) (by omega) rfl rfl rfl ?_; intro b9; refine ⟨okF, ?_⟩)
   refine bD .here ?_
   repeat (refine aI ?_)
   (refine aN (cs := recs eZ [0, 1]) ([.int .i64 (0), .int .i64 (1)]) rfl rfl (by intro v hv; repeat (first | exact absurd hv (List.not_mem_nil) | (rcases List.mem_cons.1 hv with rfl | hv; · rfl))) (by omega) rfl rfl rfl ?_; intro b10; refine ⟨okF, ?_⟩)
   refine bD .here ?_
   (refine aF rfl (fun _ => jP (vals := [.slice (some ⟨b9, 0, none⟩) 2 2, .slice (some ⟨b10, 0, none⟩) 2 2]) (cells := [.slice (some ⟨b9, 0, none⟩) 2 2, .slice (some ⟨b10, 0, none⟩) 2 2]) rfl ?hpl rfl ?hz) rfl rfl ?_; (case hpl => exact (by intro v hv; repeat (first | exact absurd hv (List.not_mem_nil) | (rcases List.mem_cons.1 hv with rfl | hv; · rfl)))); (case hz => rfl))
   repeat (refine aI ?_)
   (refine aF rfl (fun _ => jP (vals := [.int .i64 (s.u - s.x), .int .i64 (s.v - s.y)]) (cells := recs eZ [s.u - s.x, s.v - s.y]) rfl ?hpl rfl ?hz) rfl rfl ?_; (case hpl => exact (by intro v hv; repeat (first | exact absurd hv (List.not_mem_nil) | (rcases List.mem_cons.1 hv with rfl | hv; · rfl)))); (case hz => rfl))
   repeat (refine aI ?_)
   have hb1 : ∀ z ∈ ([1, 0] : List Int), wO z := by unfold wO; rw [e16]; intro z hz; simp only [List.mem_cons, List.not_mem_nil, or_false] at hz; omega
   have hb2 : ∀ z ∈ ([0, 1] : List Int), wO z := by unfold wO; rw [e16]; intro z hz; simp only [List.mem_cons, List.not_mem_nil, or_false] at hz; omega
   have hd1 : wO (s.u - s.x) := by unfold wO; rw [e16]; omega
   have hd2 : wO (s.v - s.y) := by unfold wO; rw [e16]; omega
   have hA2 : vQ 0 (dY l (smp.take (i + 1))) = vQ 0 (dY l (smp.take i)) ++ [cz ([1, 0]), cz ([0, 1])] := by rw [ht, sK]; rfl
   have hB2 : dsB 0 (dY l (smp.take (i + 1))) = dsB 0 (dY l (smp.take i)) ++ [((s.u - s.x : Int) : Rat), ((s.v - s.y : Int) : Rat)] := by rw [ht, qW]; rfl
   obtain ⟨X1, hX1⟩ : ∃ X1 : List Int, X1 = [1, 0] := ⟨_, rfl⟩
   obtain ⟨X2, hX2⟩ : ∃ X2 : List Int, X2 = [0, 1] := ⟨_, rfl⟩
   obtain ⟨D1, hD1⟩ : ∃ D1 : Int, D1 = s.u - s.x := ⟨_, rfl⟩
   obtain ⟨D2, hD2⟩ : ∃ D2 : Int, D2 = s.v - s.y := ⟨_, rfl⟩
   have hl1 : X1.length = 2 := by rw [hX1]; rfl
   have hl2 : X2.length = 2 := by rw [hX2]; rfl
   rw [← hX1] at hb1 hA2
   rw [← hX2] at hb2 hA2
   rw [← hD1] at hd1 hB2
   rw [← hD2] at hd2 hB2
   rw [← hX1, ← hX2, ← hD1, ← hD2]
   refine wD (M' := .blk b16 (recs eZ [D1, D2]) 122 :: .row qa rows.length ca (recs eL rows) 53 1 :: .row qb bs.length cb (recs eR bs) 50 4 :: M0) (I' := aM (some ⟨b10, 0, none⟩) (recs eZ X2) :: aM (some ⟨b9, 0, none⟩) (recs eZ X1) :: gD rows 16 :: bB bs 16 :: aM qs_ (recs eZ smp) :: aM q (recs kP l) :: I0) aD aC ?_
   refine aP [0, 1, 16, 22, 23, 24, 79] rfl (fun k G M I => ∃ (t : Nat) (rows1 : List RL) (bs1 : List RE) (qa1 qb1 : Option Addr) (ca1 cb1 : Nat), t ≤ 2 ∧ k = 2 - t ∧ rows1.map RL.q = vQ 0 (dY l (smp.take i)) ++ [cz X1, cz X2].take t ∧ qs bs1 = dsB 0 (dY l (smp.take i)) ++ [(D1 : Rat), (D2 : Rat)].take t ∧ G = [(8, .slice qa1 rows1.length ca1), (9, .slice qb1 bs1.length cb1), (80, .int .i64 t)] ∧ M = .blk b16 (recs eZ [D1, D2]) 122 :: .row qa1 rows1.length ca1 (recs eL rows1) 53 1 :: .row qb1 bs1.length cb1 (recs eR bs1) 50 4 :: M0 ∧ I = gD rows1 16 :: bB bs1 16 :: aM (some ⟨b10, 0, none⟩) (recs eZ X2) :: aM (some ⟨b9, 0, none⟩) (recs eZ X1) :: aM qs_ (recs eZ smp) :: aM q (recs kP l) :: I0) (2) _ _ _ aO aD aC (⟨0, rows, bs, qa, qb, ca, cb, by omega, rfl, by rw [hrq]; simp, by rw [hbq]; simp, rfl, rfl, rfl⟩) ?_
   rintro kk G M I ⟨t, rows1, bs1, qa1, qb1, ca1, cb1, ht2, rfl, hrq1, hbq1, rfl, rfl, rfl⟩
   have hlr1 : rows1.length = 2 * i + t := by have := congrArg List.length hrq1; rw [List.length_map, List.length_append, vH, hpl, List.length_take] at this; simp at this; omega
   have hlb1 : bs1.length = 2 * i + t := by have := congrArg List.length hbq1; rw [show (qs bs1).length = bs1.length from List.length_map .., List.length_append, tN, hpl, List.length_take] at this; simp at this; omega
   by_cases ht3 : t < 2
   ·obtain ⟨bt, xs, d, hv, hf, hxl, hxb, hgd, hdb, hA3, hB3⟩ := aFP (I := gD rows1 16 :: bB bs1 16 :: aM (some ⟨b10, 0, none⟩) (recs eZ X2) :: aM (some ⟨b9, 0, none⟩) (recs eZ X1) :: aM qs_ (recs eZ smp) :: aM q (recs kP l) :: I0) (b9 := b9) (b10 := b10) (by simp) (by simp) hl1 hl2 hb1 hb2 hd1 hd2 ht3
    refine eO (φ := aM (some ⟨bt, 0, none⟩) (recs eZ xs)) (Hv.mem hf) ?_
    have hWd := fun M0 I0 => nD (X := X) (w0 := w0) (M0 := M0) (I0 := I0) (x := d) hdb.1 (k := 16) hdb.2
    repeat (refine aI ?_)
    (refine aF rfl (fun _ => sU (cs := [.slice (some ⟨b9, 0, none⟩) 2 2, .slice (some ⟨b10, 0, none⟩) 2 2]) rfl rfl ⟨by omega, by show (t : Int) < ((2 : Nat) : Int); omega⟩ rfl hv) rfl rfl ?_)
    repeat (refine aI ?_)
    refine kL 50 4 ?_
    refine eO (φ := bB [] 16) Hv.nilR ?_
    refine aP [0, 1, 16, 17, 22, 23, 24, 79, 80, 84, 85] rfl (fun k G M I => ∃ (j : Nat) (es : List RE) (qe : Option Addr) (ce : Nat), j ≤ 2 ∧ k = 2 - j ∧ es.length = j ∧ qs es = cz (xs.take j) ∧ G = [(8, .slice qa1 rows1.length ca1), (9, .slice qb1 bs1.length cb1), (19, .slice qe es.length ce), (86, .int .i64 j)] ∧ M = .row qe es.length ce (recs eR es) 50 4 :: .blk b16 (recs eZ [D1, D2]) 122 :: .row qa1 rows1.length ca1 (recs eL rows1) 53 1 :: .row qb1 bs1.length cb1 (recs eR bs1) 50 4 :: M0 ∧ I = bB es 16 :: aM (some ⟨bt, 0, none⟩) (recs eZ xs) :: gD rows1 16 :: bB bs1 16 :: aM (some ⟨b10, 0, none⟩) (recs eZ X2) :: aM (some ⟨b9, 0, none⟩) (recs eZ X1) :: aM qs_ (recs eZ smp) :: aM q (recs kP l) :: I0) (2) _ _ _ aO aD aC (⟨0, [], none, 0, by omega, rfl, rfl, rfl, rfl, rfl, rfl⟩) ?_
    rintro kk G M I ⟨j, es, qe, ce, hj, rfl, hel, heq, rfl, rfl, rfl⟩
    by_cases hjm : j < 2
    ·have hx := hxb _ (bS (ms := xs) (i := (j : Int)) (by omega))
     obtain ⟨x, hxx⟩ : ∃ x, gt xs (j : Int) = x := ⟨_, rfl⟩
     rw [hxx] at hx
     have hW := fun M0 I0 => nD (X := X) (w0 := w0) (M0 := M0) (I0 := I0) (x := x) hx.1 (k := 16) hx.2
     have htx : xs.take (j + 1) = xs.take j ++ [x] := by rw [← hxx, fK (by omega)]; exact (List.take_append_getElem (by omega)).symm
     repeat (refine aI ?_)
     rw [hxx]
     repeat (refine aI ?_)
     (refine aA rfl (hW _ _) rfl rfl ?_; rintro _ _ _ ⟨rfl, e, rfl, he, rfl⟩; refine ⟨okF, ?_⟩)
     (refine aN (cs := recs eR [e]) ([rv e]) rfl rfl (by intro v hv; repeat (first | exact absurd hv (List.not_mem_nil) | (rcases List.mem_cons.1 hv with rfl | hv; · rfl))) (by omega) rfl rfl rfl ?_; intro b; refine ⟨okF, ?_⟩)
     (refine bJ (ys := [e]) 1 rfl rfl rfl ?_ (by decide) rfl (by omega) (by omega) rfl rfl ?_; (· first | exact Src.blk aB | exact Src.row aB | exact Src.imm aB (by first | assumption | exact .inl (Ok.mk _ _))); intro q2 c3; refine ⟨okF, ?_⟩)
     repeat (refine aI ?_)
     refine fD (φ := bB (es ++ [e]) 16) (Hv.snoc aB aB) ?_
     refine aK (2 - (j + 1)) _ _ _ (by first | omega | (simp only [List.length_append, List.length_cons, List.length_nil]; omega)) aO aD aC (⟨j + 1, es ++ [e], q2, c3, by omega, rfl, by simp [hel], ?_, rfl, rfl, rfl⟩)
     rw [htx, zV, ← heq]
     show (es ++ [e]).map RE.q = qs es ++ [(x : Rat)]
     rw [List.map_append, ← he]
     rfl
    ·obtain rfl : j = 2 := by omega
     rw [← hxl, List.take_length] at heq
     repeat (refine aI ?_)
     refine aES (k := 16) aB ?_
     (repeat refine aH ?_); refine nU 5 (.blk b16 (recs eZ [D1, D2]) 122 :: M0) (jI ⟨qe, ce, es⟩ 16 :: gD rows1 16 :: bB bs1 16 :: aM qs_ (recs eZ smp) :: aM q (recs kP l) :: I0) [0, 1, 4, 5, 6, 7, 2, 3, 8, 9, 10, 11, 12] [4, 4, 4, 5, 5, 4, 0, 0, 0, 0, 0, 0, 0] aD aC mixed (by kernel_rfl) ?_
     repeat (refine aI ?_)
     (apply fT (v := .int .i64 d); exact fJ; exact rfl; exact aB; exact At.mk hgd; exact rfl; exact rfl)
     repeat (refine aI ?_)
     (refine aN (cs := recs eL [⟨qe, ce, es⟩]) ([lv ⟨qe, ce, es⟩]) rfl rfl (by intro v hv; repeat (first | exact absurd hv (List.not_mem_nil) | (rcases List.mem_cons.1 hv with rfl | hv; · rfl))) (by omega) rfl rfl rfl ?_; intro b17; refine ⟨okF, ?_⟩)
     (refine bJ (ys := [⟨qe, ce, es⟩]) 2 rfl rfl rfl ?_ (by decide) rfl (by omega) (by omega) rfl rfl ?_; (· first | exact Src.blk aB | exact Src.row aB | exact Src.imm aB (by first | assumption | exact .inl (Ok.mk _ _))); intro qa2 ca2; refine ⟨okF, ?_⟩)
     (refine aA rfl (hWd _ _) rfl rfl ?_; rintro _ _ _ ⟨rfl, e, rfl, he, rfl⟩; refine ⟨okF, ?_⟩)
     (refine aN (cs := recs eR [e]) ([rv e]) rfl rfl (by intro v hv; repeat (first | exact absurd hv (List.not_mem_nil) | (rcases List.mem_cons.1 hv with rfl | hv; · rfl))) (by omega) rfl rfl rfl ?_; intro b18; refine ⟨okF, ?_⟩)
     (refine bJ (ys := [e]) 4 rfl rfl rfl ?_ (by decide) rfl (by omega) (by omega) rfl rfl ?_; (· first | exact Src.blk aB | exact Src.row aB | exact Src.imm aB (by first | assumption | exact .inl (Ok.mk _ _))); intro qb2 cb2; refine ⟨okF, ?_⟩)
     repeat (refine aI ?_)
     refine fD (φ := bB (bs1 ++ [e]) 16) (Hv.snoc aB aB) ?_
     refine fD (φ := gD (rows1 ++ [(⟨qe, ce, es⟩ : RL)]) 16) (Hv.snocL aB aB) ?_
     refine aK (2 - (t + 1)) _ _ _ (by first | omega | (simp only [List.length_append, List.length_cons, List.length_nil]; omega)) aO aD aC (⟨t + 1, rows1 ++ [(⟨qe, ce, es⟩ : RL)], bs1 ++ [e], qa2, qb2, ca2, cb2, by omega, rfl, by rw [hA3, List.map_append, hrq1, List.append_assoc]; show _ ++ (_ ++ [qs es]) = _; rw [heq], by rw [hB3]; show (bs1 ++ [e]).map RE.q = _; rw [List.map_append, show bs1.map RE.q = qs bs1 from rfl, hbq1, List.append_assoc]; show _ ++ (_ ++ [e.q]) = _; rw [he], rfl, rfl, rfl⟩)
   ·obtain rfl : t = 2 := by omega
    repeat (refine aI ?_)
    refine aK (ns - (i + 1)) _ _ _ (by first | omega | (simp only [List.length_append, List.length_cons, List.length_nil]; omega)) aO aD aC (⟨i + 1, rows1, bs1, qa1, qb1, ca1, cb1, by omega, rfl, by rw [hrq1, hA2]; rfl, by rw [hbq1, hB2]; rfl, rfl, rfl, rfl⟩)
  ·obtain rfl : kd = 1 := by omega
   repeat (refine aI ?_)
   rw [Int.zero_sub]
   (refine aN (cs := recs eZ [s.x, -s.y, 1, 0]) ([.int .i64 (s.x), .int .i64 (-s.y), .int .i64 (1), .int .i64 (0)]) rfl rfl (by intro v hv; repeat (first | exact absurd hv (List.not_mem_nil) | (rcases List.mem_cons.1 hv with rfl | hv; · rfl))) (by omega) rfl rfl rfl ?_; intro b9; refine ⟨okF, ?_⟩)
   refine bD .here ?_
   repeat (refine aI ?_)
   (refine aN (cs := recs eZ [s.y, s.x, 0, 1]) ([.int .i64 (s.y), .int .i64 (s.x), .int .i64 (0), .int .i64 (1)]) rfl rfl (by intro v hv; repeat (first | exact absurd hv (List.not_mem_nil) | (rcases List.mem_cons.1 hv with rfl | hv; · rfl))) (by omega) rfl rfl rfl ?_; intro b10; refine ⟨okF, ?_⟩)
   refine bD .here ?_
   (refine aF rfl (fun _ => jP (vals := [.slice (some ⟨b9, 0, none⟩) 4 4, .slice (some ⟨b10, 0, none⟩) 4 4]) (cells := [.slice (some ⟨b9, 0, none⟩) 4 4, .slice (some ⟨b10, 0, none⟩) 4 4]) rfl ?hpl rfl ?hz) rfl rfl ?_; (case hpl => exact (by intro v hv; repeat (first | exact absurd hv (List.not_mem_nil) | (rcases List.mem_cons.1 hv with rfl | hv; · rfl)))); (case hz => rfl))
   repeat (refine aI ?_)
   have hb1 : ∀ z ∈ ([s.x, -s.y, 1, 0] : List Int), wO z := by unfold wO; rw [e16]; intro z hz; simp only [List.mem_cons, List.not_mem_nil, or_false] at hz; omega
   have hb2 : ∀ z ∈ ([s.y, s.x, 0, 1] : List Int), wO z := by unfold wO; rw [e16]; intro z hz; simp only [List.mem_cons, List.not_mem_nil, or_false] at hz; omega
   have hd1 : wO (s.u) := by unfold wO; rw [e16]; omega
   have hd2 : wO (s.v) := by unfold wO; rw [e16]; omega
   have hA2 : vQ 1 (dY l (smp.take (i + 1))) = vQ 1 (dY l (smp.take i)) ++ [cz ([s.x, -s.y, 1, 0]), cz ([s.y, s.x, 0, 1])] := by rw [ht, sK]; rfl
   have hB2 : dsB 1 (dY l (smp.take (i + 1))) = dsB 1 (dY l (smp.take i)) ++ [((s.u : Int) : Rat), ((s.v : Int) : Rat)] := by rw [ht, qW]; rfl
   obtain ⟨X1, hX1⟩ : ∃ X1 : List Int, X1 = [s.x, -s.y, 1, 0] := ⟨_, rfl⟩
   obtain ⟨X2, hX2⟩ : ∃ X2 : List Int, X2 = [s.y, s.x, 0, 1] := ⟨_, rfl⟩
   obtain ⟨D1, hD1⟩ : ∃ D1 : Int, D1 = s.u := ⟨_, rfl⟩
   obtain ⟨D2, hD2⟩ : ∃ D2 : Int, D2 = s.v := ⟨_, rfl⟩
   have hl1 : X1.length = 4 := by rw [hX1]; rfl
   have hl2 : X2.length = 4 := by rw [hX2]; rfl
   rw [← hX1] at hb1 hA2
   rw [← hX2] at hb2 hA2
   rw [← hD1] at hd1 hB2
   rw [← hD2] at hd2 hB2
   rw [← hX1, ← hX2, ← hD1, ← hD2]
   refine wD (M' := .blk b16 (recs eZ [D1, D2]) 122 :: .row qa rows.length ca (recs eL rows) 53 1 :: .row qb bs.length cb (recs eR bs) 50 4 :: M0) (I' := aM (some ⟨b10, 0, none⟩) (recs eZ X2) :: aM (some ⟨b9, 0, none⟩) (recs eZ X1) :: gD rows 16 :: bB bs 16 :: aM qs_ (recs eZ smp) :: aM q (recs kP l) :: I0) aD aC ?_
   refine aP [0, 1, 16, 22, 23, 24, 79] rfl (fun k G M I => ∃ (t : Nat) (rows1 : List RL) (bs1 : List RE) (qa1 qb1 : Option Addr) (ca1 cb1 : Nat), t ≤ 2 ∧ k = 2 - t ∧ rows1.map RL.q = vQ 1 (dY l (smp.take i)) ++ [cz X1, cz X2].take t ∧ qs bs1 = dsB 1 (dY l (smp.take i)) ++ [(D1 : Rat), (D2 : Rat)].take t ∧ G = [(8, .slice qa1 rows1.length ca1), (9, .slice qb1 bs1.length cb1), (80, .int .i64 t)] ∧ M = .blk b16 (recs eZ [D1, D2]) 122 :: .row qa1 rows1.length ca1 (recs eL rows1) 53 1 :: .row qb1 bs1.length cb1 (recs eR bs1) 50 4 :: M0 ∧ I = gD rows1 16 :: bB bs1 16 :: aM (some ⟨b10, 0, none⟩) (recs eZ X2) :: aM (some ⟨b9, 0, none⟩) (recs eZ X1) :: aM qs_ (recs eZ smp) :: aM q (recs kP l) :: I0) (2) _ _ _ aO aD aC (⟨0, rows, bs, qa, qb, ca, cb, by omega, rfl, by rw [hrq]; simp, by rw [hbq]; simp, rfl, rfl, rfl⟩) ?_
   rintro kk G M I ⟨t, rows1, bs1, qa1, qb1, ca1, cb1, ht2, rfl, hrq1, hbq1, rfl, rfl, rfl⟩
   have hlr1 : rows1.length = 2 * i + t := by have := congrArg List.length hrq1; rw [List.length_map, List.length_append, vH, hpl, List.length_take] at this; simp at this; omega
   have hlb1 : bs1.length = 2 * i + t := by have := congrArg List.length hbq1; rw [show (qs bs1).length = bs1.length from List.length_map .., List.length_append, tN, hpl, List.length_take] at this; simp at this; omega
   by_cases ht3 : t < 2
   ·obtain ⟨bt, xs, d, hv, hf, hxl, hxb, hgd, hdb, hA3, hB3⟩ := aFP (I := gD rows1 16 :: bB bs1 16 :: aM (some ⟨b10, 0, none⟩) (recs eZ X2) :: aM (some ⟨b9, 0, none⟩) (recs eZ X1) :: aM qs_ (recs eZ smp) :: aM q (recs kP l) :: I0) (b9 := b9) (b10 := b10) (by simp) (by simp) hl1 hl2 hb1 hb2 hd1 hd2 ht3
    refine eO (φ := aM (some ⟨bt, 0, none⟩) (recs eZ xs)) (Hv.mem hf) ?_
    have hWd := fun M0 I0 => nD (X := X) (w0 := w0) (M0 := M0) (I0 := I0) (x := d) hdb.1 (k := 16) hdb.2
    repeat (refine aI ?_)
    (refine aF rfl (fun _ => sU (cs := [.slice (some ⟨b9, 0, none⟩) 4 4, .slice (some ⟨b10, 0, none⟩) 4 4]) rfl rfl ⟨by omega, by show (t : Int) < ((2 : Nat) : Int); omega⟩ rfl hv) rfl rfl ?_)
    repeat (refine aI ?_)
    refine kL 50 4 ?_
    refine eO (φ := bB [] 16) Hv.nilR ?_
    refine aP [0, 1, 16, 17, 22, 23, 24, 79, 80, 84, 85] rfl (fun k G M I => ∃ (j : Nat) (es : List RE) (qe : Option Addr) (ce : Nat), j ≤ 4 ∧ k = 4 - j ∧ es.length = j ∧ qs es = cz (xs.take j) ∧ G = [(8, .slice qa1 rows1.length ca1), (9, .slice qb1 bs1.length cb1), (19, .slice qe es.length ce), (86, .int .i64 j)] ∧ M = .row qe es.length ce (recs eR es) 50 4 :: .blk b16 (recs eZ [D1, D2]) 122 :: .row qa1 rows1.length ca1 (recs eL rows1) 53 1 :: .row qb1 bs1.length cb1 (recs eR bs1) 50 4 :: M0 ∧ I = bB es 16 :: aM (some ⟨bt, 0, none⟩) (recs eZ xs) :: gD rows1 16 :: bB bs1 16 :: aM (some ⟨b10, 0, none⟩) (recs eZ X2) :: aM (some ⟨b9, 0, none⟩) (recs eZ X1) :: aM qs_ (recs eZ smp) :: aM q (recs kP l) :: I0) (4) _ _ _ aO aD aC (⟨0, [], none, 0, by omega, rfl, rfl, rfl, rfl, rfl, rfl⟩) ?_
    rintro kk G M I ⟨j, es, qe, ce, hj, rfl, hel, heq, rfl, rfl, rfl⟩
    by_cases hjm : j < 4
    ·have hx := hxb _ (bS (ms := xs) (i := (j : Int)) (by omega))
     obtain ⟨x, hxx⟩ : ∃ x, gt xs (j : Int) = x := ⟨_, rfl⟩
     rw [hxx] at hx
     have hW := fun M0 I0 => nD (X := X) (w0 := w0) (M0 := M0) (I0 := I0) (x := x) hx.1 (k := 16) hx.2
     have htx : xs.take (j + 1) = xs.take j ++ [x] := by rw [← hxx, fK (by omega)]; exact (List.take_append_getElem (by omega)).symm
     repeat (refine aI ?_)
     rw [hxx]
     repeat (refine aI ?_)
     (refine aA rfl (hW _ _) rfl rfl ?_; rintro _ _ _ ⟨rfl, e, rfl, he, rfl⟩; refine ⟨okF, ?_⟩)
     (refine aN (cs := recs eR [e]) ([rv e]) rfl rfl (by intro v hv; repeat (first | exact absurd hv (List.not_mem_nil) | (rcases List.mem_cons.1 hv with rfl | hv; · rfl))) (by omega) rfl rfl rfl ?_; intro b; refine ⟨okF, ?_⟩)
     (refine bJ (ys := [e]) 1 rfl rfl rfl ?_ (by decide) rfl (by omega) (by omega) rfl rfl ?_; (· first | exact Src.blk aB | exact Src.row aB | exact Src.imm aB (by first | assumption | exact .inl (Ok.mk _ _))); intro q2 c3; refine ⟨okF, ?_⟩)
     repeat (refine aI ?_)
     refine fD (φ := bB (es ++ [e]) 16) (Hv.snoc aB aB) ?_
     refine aK (4 - (j + 1)) _ _ _ (by first | omega | (simp only [List.length_append, List.length_cons, List.length_nil]; omega)) aO aD aC (⟨j + 1, es ++ [e], q2, c3, by omega, rfl, by simp [hel], ?_, rfl, rfl, rfl⟩)
     rw [htx, zV, ← heq]
     show (es ++ [e]).map RE.q = qs es ++ [(x : Rat)]
     rw [List.map_append, ← he]
     rfl
    ·obtain rfl : j = 4 := by omega
     rw [← hxl, List.take_length] at heq
     repeat (refine aI ?_)
     refine aES (k := 16) aB ?_
     (repeat refine aH ?_); refine nU 5 (.blk b16 (recs eZ [D1, D2]) 122 :: M0) (jI ⟨qe, ce, es⟩ 16 :: gD rows1 16 :: bB bs1 16 :: aM qs_ (recs eZ smp) :: aM q (recs kP l) :: I0) [0, 1, 4, 5, 6, 7, 2, 3, 8, 9, 10, 11, 12] [4, 4, 4, 5, 5, 4, 0, 0, 0, 0, 0, 0, 0] aD aC mixed (by kernel_rfl) ?_
     repeat (refine aI ?_)
     (apply fT (v := .int .i64 d); exact fJ; exact rfl; exact aB; exact At.mk hgd; exact rfl; exact rfl)
     repeat (refine aI ?_)
     (refine aN (cs := recs eL [⟨qe, ce, es⟩]) ([lv ⟨qe, ce, es⟩]) rfl rfl (by intro v hv; repeat (first | exact absurd hv (List.not_mem_nil) | (rcases List.mem_cons.1 hv with rfl | hv; · rfl))) (by omega) rfl rfl rfl ?_; intro b17; refine ⟨okF, ?_⟩)
     (refine bJ (ys := [⟨qe, ce, es⟩]) 2 rfl rfl rfl ?_ (by decide) rfl (by omega) (by omega) rfl rfl ?_; (· first | exact Src.blk aB | exact Src.row aB | exact Src.imm aB (by first | assumption | exact .inl (Ok.mk _ _))); intro qa2 ca2; refine ⟨okF, ?_⟩)
     (refine aA rfl (hWd _ _) rfl rfl ?_; rintro _ _ _ ⟨rfl, e, rfl, he, rfl⟩; refine ⟨okF, ?_⟩)
     (refine aN (cs := recs eR [e]) ([rv e]) rfl rfl (by intro v hv; repeat (first | exact absurd hv (List.not_mem_nil) | (rcases List.mem_cons.1 hv with rfl | hv; · rfl))) (by omega) rfl rfl rfl ?_; intro b18; refine ⟨okF, ?_⟩)
     (refine bJ (ys := [e]) 4 rfl rfl rfl ?_ (by decide) rfl (by omega) (by omega) rfl rfl ?_; (· first | exact Src.blk aB | exact Src.row aB | exact Src.imm aB (by first | assumption | exact .inl (Ok.mk _ _))); intro qb2 cb2; refine ⟨okF, ?_⟩)
     repeat (refine aI ?_)
     refine fD (φ := bB (bs1 ++ [e]) 16) (Hv.snoc aB aB) ?_
     refine fD (φ := gD (rows1 ++ [(⟨qe, ce, es⟩ : RL)]) 16) (Hv.snocL aB aB) ?_
     refine aK (2 - (t + 1)) _ _ _ (by first | omega | (simp only [List.length_append, List.length_cons, List.length_nil]; omega)) aO aD aC (⟨t + 1, rows1 ++ [(⟨qe, ce, es⟩ : RL)], bs1 ++ [e], qa2, qb2, ca2, cb2, by omega, rfl, by rw [hA3, List.map_append, hrq1, List.append_assoc]; show _ ++ (_ ++ [qs es]) = _; rw [heq], by rw [hB3]; show (bs1 ++ [e]).map RE.q = _; rw [List.map_append, show bs1.map RE.q = qs bs1 from rfl, hbq1, List.append_assoc]; show _ ++ (_ ++ [e.q]) = _; rw [he], rfl, rfl, rfl⟩)
   ·obtain rfl : t = 2 := by omega
    repeat (refine aI ?_)
    refine aK (ns - (i + 1)) _ _ _ (by first | omega | (simp only [List.length_append, List.length_cons, List.length_nil]; omega)) aO aD aC (⟨i + 1, rows1, bs1, qa1, qb1, ca1, cb1, by omega, rfl, by rw [hrq1, hA2]; rfl, by rw [hbq1, hB2]; rfl, rfl, rfl, rfl⟩)
  ·obtain rfl : kd = 2 := by omega
   repeat (refine aI ?_)
   (refine aN (cs := recs eZ [s.x, s.y, 1, 0, 0, 0]) ([.int .i64 (s.x), .int .i64 (s.y), .int .i64 (1), .int .i64 (0), .int .i64 (0), .int .i64 (0)]) rfl rfl (by intro v hv; repeat (first | exact absurd hv (List.not_mem_nil) | (rcases List.mem_cons.1 hv with rfl | hv; · rfl))) (by omega) rfl rfl rfl ?_; intro b9; refine ⟨okF, ?_⟩)
   refine bD .here ?_
   repeat (refine aI ?_)
   (refine aN (cs := recs eZ [0, 0, 0, s.x, s.y, 1]) ([.int .i64 (0), .int .i64 (0), .int .i64 (0), .int .i64 (s.x), .int .i64 (s.y), .int .i64 (1)]) rfl rfl (by intro v hv; repeat (first | exact absurd hv (List.not_mem_nil) | (rcases List.mem_cons.1 hv with rfl | hv; · rfl))) (by omega) rfl rfl rfl ?_; intro b10; refine ⟨okF, ?_⟩)
   refine bD .here ?_
   (refine aF rfl (fun _ => jP (vals := [.slice (some ⟨b9, 0, none⟩) 6 6, .slice (some ⟨b10, 0, none⟩) 6 6]) (cells := [.slice (some ⟨b9, 0, none⟩) 6 6, .slice (some ⟨b10, 0, none⟩) 6 6]) rfl ?hpl rfl ?hz) rfl rfl ?_; (case hpl => exact (by intro v hv; repeat (first | exact absurd hv (List.not_mem_nil) | (rcases List.mem_cons.1 hv with rfl | hv; · rfl)))); (case hz => rfl))
   repeat (refine aI ?_)
   have hb1 : ∀ z ∈ ([s.x, s.y, 1, 0, 0, 0] : List Int), wO z := by unfold wO; rw [e16]; intro z hz; simp only [List.mem_cons, List.not_mem_nil, or_false] at hz; omega
   have hb2 : ∀ z ∈ ([0, 0, 0, s.x, s.y, 1] : List Int), wO z := by unfold wO; rw [e16]; intro z hz; simp only [List.mem_cons, List.not_mem_nil, or_false] at hz; omega
   have hd1 : wO (s.u) := by unfold wO; rw [e16]; omega
   have hd2 : wO (s.v) := by unfold wO; rw [e16]; omega
   have hA2 : vQ 2 (dY l (smp.take (i + 1))) = vQ 2 (dY l (smp.take i)) ++ [cz ([s.x, s.y, 1, 0, 0, 0]), cz ([0, 0, 0, s.x, s.y, 1])] := by rw [ht, sK]; rfl
   have hB2 : dsB 2 (dY l (smp.take (i + 1))) = dsB 2 (dY l (smp.take i)) ++ [((s.u : Int) : Rat), ((s.v : Int) : Rat)] := by rw [ht, qW]; rfl
   obtain ⟨X1, hX1⟩ : ∃ X1 : List Int, X1 = [s.x, s.y, 1, 0, 0, 0] := ⟨_, rfl⟩
   obtain ⟨X2, hX2⟩ : ∃ X2 : List Int, X2 = [0, 0, 0, s.x, s.y, 1] := ⟨_, rfl⟩
   obtain ⟨D1, hD1⟩ : ∃ D1 : Int, D1 = s.u := ⟨_, rfl⟩
   obtain ⟨D2, hD2⟩ : ∃ D2 : Int, D2 = s.v := ⟨_, rfl⟩
   have hl1 : X1.length = 6 := by rw [hX1]; rfl
   have hl2 : X2.length = 6 := by rw [hX2]; rfl
   rw [← hX1] at hb1 hA2
   rw [← hX2] at hb2 hA2
   rw [← hD1] at hd1 hB2
   rw [← hD2] at hd2 hB2
   rw [← hX1, ← hX2, ← hD1, ← hD2]
   refine wD (M' := .blk b16 (recs eZ [D1, D2]) 122 :: .row qa rows.length ca (recs eL rows) 53 1 :: .row qb bs.length cb (recs eR bs) 50 4 :: M0) (I' := aM (some ⟨b10, 0, none⟩) (recs eZ X2) :: aM (some ⟨b9, 0, none⟩) (recs eZ X1) :: gD rows 16 :: bB bs 16 :: aM qs_ (recs eZ smp) :: aM q (recs kP l) :: I0) aD aC ?_
   refine aP [0, 1, 16, 22, 23, 24, 79] rfl (fun k G M I => ∃ (t : Nat) (rows1 : List RL) (bs1 : List RE) (qa1 qb1 : Option Addr) (ca1 cb1 : Nat), t ≤ 2 ∧ k = 2 - t ∧ rows1.map RL.q = vQ 2 (dY l (smp.take i)) ++ [cz X1, cz X2].take t ∧ qs bs1 = dsB 2 (dY l (smp.take i)) ++ [(D1 : Rat), (D2 : Rat)].take t ∧ G = [(8, .slice qa1 rows1.length ca1), (9, .slice qb1 bs1.length cb1), (80, .int .i64 t)] ∧ M = .blk b16 (recs eZ [D1, D2]) 122 :: .row qa1 rows1.length ca1 (recs eL rows1) 53 1 :: .row qb1 bs1.length cb1 (recs eR bs1) 50 4 :: M0 ∧ I = gD rows1 16 :: bB bs1 16 :: aM (some ⟨b10, 0, none⟩) (recs eZ X2) :: aM (some ⟨b9, 0, none⟩) (recs eZ X1) :: aM qs_ (recs eZ smp) :: aM q (recs kP l) :: I0) (2) _ _ _ aO aD aC (⟨0, rows, bs, qa, qb, ca, cb, by omega, rfl, by rw [hrq]; simp, by rw [hbq]; simp, rfl, rfl, rfl⟩) ?_
   rintro kk G M I ⟨t, rows1, bs1, qa1, qb1, ca1, cb1, ht2, rfl, hrq1, hbq1, rfl, rfl, rfl⟩
   have hlr1 : rows1.length = 2 * i + t := by have := congrArg List.length hrq1; rw [List.length_map, List.length_append, vH, hpl, List.length_take] at this; simp at this; omega
   have hlb1 : bs1.length = 2 * i + t := by have := congrArg List.length hbq1; rw [show (qs bs1).length = bs1.length from List.length_map .., List.length_append, tN, hpl, List.length_take] at this; simp at this; omega
   by_cases ht3 : t < 2
   ·obtain ⟨bt, xs, d, hv, hf, hxl, hxb, hgd, hdb, hA3, hB3⟩ := aFP (I := gD rows1 16 :: bB bs1 16 :: aM (some ⟨b10, 0, none⟩) (recs eZ X2) :: aM (some ⟨b9, 0, none⟩) (recs eZ X1) :: aM qs_ (recs eZ smp) :: aM q (recs kP l) :: I0) (b9 := b9) (b10 := b10) (by simp) (by simp) hl1 hl2 hb1 hb2 hd1 hd2 ht3
    refine eO (φ := aM (some ⟨bt, 0, none⟩) (recs eZ xs)) (Hv.mem hf) ?_
    have hWd := fun M0 I0 => nD (X := X) (w0 := w0) (M0 := M0) (I0 := I0) (x := d) hdb.1 (k := 16) hdb.2
    repeat (refine aI ?_)
    (refine aF rfl (fun _ => sU (cs := [.slice (some ⟨b9, 0, none⟩) 6 6, .slice (some ⟨b10, 0, none⟩) 6 6]) rfl rfl ⟨by omega, by show (t : Int) < ((2 : Nat) : Int); omega⟩ rfl hv) rfl rfl ?_)
    repeat (refine aI ?_)
    refine kL 50 4 ?_
    refine eO (φ := bB [] 16) Hv.nilR ?_
    refine aP [0, 1, 16, 17, 22, 23, 24, 79, 80, 84, 85] rfl (fun k G M I => ∃ (j : Nat) (es : List RE) (qe : Option Addr) (ce : Nat), j ≤ 6 ∧ k = 6 - j ∧ es.length = j ∧ qs es = cz (xs.take j) ∧ G = [(8, .slice qa1 rows1.length ca1), (9, .slice qb1 bs1.length cb1), (19, .slice qe es.length ce), (86, .int .i64 j)] ∧ M = .row qe es.length ce (recs eR es) 50 4 :: .blk b16 (recs eZ [D1, D2]) 122 :: .row qa1 rows1.length ca1 (recs eL rows1) 53 1 :: .row qb1 bs1.length cb1 (recs eR bs1) 50 4 :: M0 ∧ I = bB es 16 :: aM (some ⟨bt, 0, none⟩) (recs eZ xs) :: gD rows1 16 :: bB bs1 16 :: aM (some ⟨b10, 0, none⟩) (recs eZ X2) :: aM (some ⟨b9, 0, none⟩) (recs eZ X1) :: aM qs_ (recs eZ smp) :: aM q (recs kP l) :: I0) (6) _ _ _ aO aD aC (⟨0, [], none, 0, by omega, rfl, rfl, rfl, rfl, rfl, rfl⟩) ?_
    rintro kk G M I ⟨j, es, qe, ce, hj, rfl, hel, heq, rfl, rfl, rfl⟩
    by_cases hjm : j < 6
    ·have hx := hxb _ (bS (ms := xs) (i := (j : Int)) (by omega))
     obtain ⟨x, hxx⟩ : ∃ x, gt xs (j : Int) = x := ⟨_, rfl⟩
     rw [hxx] at hx
     have hW := fun M0 I0 => nD (X := X) (w0 := w0) (M0 := M0) (I0 := I0) (x := x) hx.1 (k := 16) hx.2
     have htx : xs.take (j + 1) = xs.take j ++ [x] := by rw [← hxx, fK (by omega)]; exact (List.take_append_getElem (by omega)).symm
     repeat (refine aI ?_)
     rw [hxx]
     repeat (refine aI ?_)
     (refine aA rfl (hW _ _) rfl rfl ?_; rintro _ _ _ ⟨rfl, e, rfl, he, rfl⟩; refine ⟨okF, ?_⟩)
     (refine aN (cs := recs eR [e]) ([rv e]) rfl rfl (by intro v hv; repeat (first | exact absurd hv (List.not_mem_nil) | (rcases List.mem_cons.1 hv with rfl | hv; · rfl))) (by omega) rfl rfl rfl ?_; intro b; refine ⟨okF, ?_⟩)
     (refine bJ (ys := [e]) 1 rfl rfl rfl ?_ (by decide) rfl (by omega) (by omega) rfl rfl ?_; (· first | exact Src.blk aB | exact Src.row aB | exact Src.imm aB (by first | assumption | exact .inl (Ok.mk _ _))); intro q2 c3; refine ⟨okF, ?_⟩)
     repeat (refine aI ?_)
     refine fD (φ := bB (es ++ [e]) 16) (Hv.snoc aB aB) ?_
     refine aK (6 - (j + 1)) _ _ _ (by first | omega | (simp only [List.length_append, List.length_cons, List.length_nil]; omega)) aO aD aC (⟨j + 1, es ++ [e], q2, c3, by omega, rfl, by simp [hel], ?_, rfl, rfl, rfl⟩)
     rw [htx, zV, ← heq]
     show (es ++ [e]).map RE.q = qs es ++ [(x : Rat)]
     rw [List.map_append, ← he]
     rfl
    ·obtain rfl : j = 6 := by omega
     rw [← hxl, List.take_length] at heq
     repeat (refine aI ?_)
     refine aES (k := 16) aB ?_
     (repeat refine aH ?_); refine nU 5 (.blk b16 (recs eZ [D1, D2]) 122 :: M0) (jI ⟨qe, ce, es⟩ 16 :: gD rows1 16 :: bB bs1 16 :: aM qs_ (recs eZ smp) :: aM q (recs kP l) :: I0) [0, 1, 4, 5, 6, 7, 2, 3, 8, 9, 10, 11, 12] [4, 4, 4, 5, 5, 4, 0, 0, 0, 0, 0, 0, 0] aD aC mixed (by kernel_rfl) ?_
     repeat (refine aI ?_)
     (apply fT (v := .int .i64 d); exact fJ; exact rfl; exact aB; exact At.mk hgd; exact rfl; exact rfl)
     repeat (refine aI ?_)
     (refine aN (cs := recs eL [⟨qe, ce, es⟩]) ([lv ⟨qe, ce, es⟩]) rfl rfl (by intro v hv; repeat (first | exact absurd hv (List.not_mem_nil) | (rcases List.mem_cons.1 hv with rfl | hv; · rfl))) (by omega) rfl rfl rfl ?_; intro b17; refine ⟨okF, ?_⟩)
     (refine bJ (ys := [⟨qe, ce, es⟩]) 2 rfl rfl rfl ?_ (by decide) rfl (by omega) (by omega) rfl rfl ?_; (· first | exact Src.blk aB | exact Src.row aB | exact Src.imm aB (by first | assumption | exact .inl (Ok.mk _ _))); intro qa2 ca2; refine ⟨okF, ?_⟩)
     (refine aA rfl (hWd _ _) rfl rfl ?_; rintro _ _ _ ⟨rfl, e, rfl, he, rfl⟩; refine ⟨okF, ?_⟩)
     (refine aN (cs := recs eR [e]) ([rv e]) rfl rfl (by intro v hv; repeat (first | exact absurd hv (List.not_mem_nil) | (rcases List.mem_cons.1 hv with rfl | hv; · rfl))) (by omega) rfl rfl rfl ?_; intro b18; refine ⟨okF, ?_⟩)
     (refine bJ (ys := [e]) 4 rfl rfl rfl ?_ (by decide) rfl (by omega) (by omega) rfl rfl ?_; (· first | exact Src.blk aB | exact Src.row aB | exact Src.imm aB (by first | assumption | exact .inl (Ok.mk _ _))); intro qb2 cb2; refine ⟨okF, ?_⟩)
     repeat (refine aI ?_)
     refine fD (φ := bB (bs1 ++ [e]) 16) (Hv.snoc aB aB) ?_
     refine fD (φ := gD (rows1 ++ [(⟨qe, ce, es⟩ : RL)]) 16) (Hv.snocL aB aB) ?_
     refine aK (2 - (t + 1)) _ _ _ (by first | omega | (simp only [List.length_append, List.length_cons, List.length_nil]; omega)) aO aD aC (⟨t + 1, rows1 ++ [(⟨qe, ce, es⟩ : RL)], bs1 ++ [e], qa2, qb2, ca2, cb2, by omega, rfl, by rw [hA3, List.map_append, hrq1, List.append_assoc]; show _ ++ (_ ++ [qs es]) = _; rw [heq], by rw [hB3]; show (bs1 ++ [e]).map RE.q = _; rw [List.map_append, show bs1.map RE.q = qs bs1 from rfl, hbq1, List.append_assoc]; show _ ++ (_ ++ [e.q]) = _; rw [he], rfl, rfl, rfl⟩)
   ·obtain rfl : t = 2 := by omega
    repeat (refine aI ?_)
    refine aK (ns - (i + 1)) _ _ _ (by first | omega | (simp only [List.length_append, List.length_cons, List.length_nil]; omega)) aO aD aC (⟨i + 1, rows1, bs1, qa1, qb1, ca1, cb1, by omega, rfl, by rw [hrq1, hA2]; rfl, by rw [hbq1, hB2]; rfl, rfl, rfl, rfl⟩)
 ·obtain rfl : i = ns := by omega
  rw [← hsl, List.take_length] at hrq hbq
  repeat (refine aI ?_)
  refine aBJ (k := 16) aB ?_
  refine aFZ (k := 16) aB ?_
  refine dV [6, 7] (by first | exact .inl rfl | exact .inr rfl) rfl rfl rfl _ _ aD aC (⟨rfl, ⟨qa, ca, rows⟩, ⟨qb, cb, bs⟩, rfl, hrq, hbq, rfl⟩)
end
end Go.Proofs.YtjbhdfpjnjedhaaGreat
namespace Go.Proofs.YtjbhdfpjnjedhaaGreat
open Go Go.Fx
def NlR (A : Mt) (C k : Nat) (M0 : List Ent) (I0 : List aY) (v : Value) (M : List Ent) (I : List aY) : Prop :=
 M0 = M ∧ ∃ m : MX, v = mv m ∧ m.q = aVY A C ∧ (∀ r ∈ m.rows, r.es.length = C) ∧ I = iT m k :: I0
theorem Hv.allS1 {I : List aY} {r : MS} {k : Nat} (h : iG [r] k ∈ I) : Hv I (bB r.es k) := ⟨fun X w hw => ⟨(hw _ h : AllS [r] k X w).go r List.mem_cons_self⟩⟩
section
variable {X : List Nat} {w0 : World} {M : List Ent} {I : List aY}
theorem Mem.blkT {w : World} {b k c : Nat} {es : List RE} {tl : List Value} {ty : TypeId} (hc : es.length ≤ c) (h : Mem X w0 (.blk b (recs eR es ++ tl) ty :: M) I w) (ha : bB es k ∈ I) : Mem X w0 M (jI ⟨some ⟨b, 0, none⟩, c, es⟩ k :: I) w := by
 have h1 := h.freezeB .here
 refine (h1.add (φ := jI ⟨some ⟨b, 0, none⟩, c, es⟩ k) ⟨aJI (h1.sl (List.Mem.head _)), (((h1.imm _ (List.Mem.tail _ ha)).2 : AllR es k _ w)).go, ⟨hc, .inl (Ok.mk _ _)⟩⟩).inc (.of fun φ hφ => ?_)
 rcases List.mem_cons.1 hφ with rfl | hφ
 ·exact List.Mem.head _
 ·exact List.Mem.tail _ (List.Mem.tail _ hφ)
variable {P : Program} {n : Nat} {Q : Exit → Act → World → Prop} {G : Env}
end
section
variable {X : List Nat} {w0 : World} {M0 : List Ent} {I0 : List aY}
theorem aTC {p : Option Addr} {l : List Int} {t c : Nat} {x : Int} (hl : l.length = t) (ht : t ≤ 100000) (hp : aM p (recs (eI .i64) l) ∈ I0) :
  CD Tryz.prog 98 [.slice p t c, .int .i64 x] X w0 M0 I0 (fun v M I => M0 = M ∧ I0 = I ∧ v = .bool (B (x ∈ l))) := by
 refine aW Tryz.func98 rfl Tryz.ntmps98 rfl ?_
 repeat (refine aI ?_)
 refine aP [0, 1] rfl (fun k G M I => ∃ i : Nat, i ≤ t ∧ k = t - i ∧ (∀ j : Nat, j < i → gt l j ≠ x) ∧ G = [(5, .int .i64 i)] ∧ M0 = M ∧ I0 = I) (t) _ _ _ aO aD aC (⟨0, by omega, rfl, fun j hj => by omega, rfl, rfl, rfl⟩) ?_
 rintro kk G M I ⟨i, hi, rfl, hs, rfl, rfl, rfl⟩
 by_cases h : i < t
 ·by_cases he : gt l i = x
  ·repeat (refine aI ?_)
   refine aG (by first | exact .inl rfl | exact .inr rfl) rfl rfl _ _ aD aC (⟨rfl, rfl, congrArg Value.bool (bZ (by rw [← he]; exact bS (by omega))).symm⟩)
  ·repeat (refine aI ?_)
   refine aK (t - (i + 1)) _ _ _ (by first | omega | (simp only [List.length_append, List.length_cons, List.length_nil]; omega)) aO aD aC (⟨i + 1, by omega, rfl, fun j hj => ?_, rfl, rfl, rfl⟩)
   by_cases e : j = i
   ·subst e; exact he
   ·exact hs j (by omega)
 ·repeat (refine aI ?_)
  refine aG (by first | exact .inl rfl | exact .inr rfl) rfl rfl _ _ aD aC (⟨rfl, rfl, congrArg Value.bool (bE (fun h => by { obtain ⟨j, hj, e⟩ := List.mem_iff_getElem.1 h; exact absurd (by rw [fK hj]; exact e) (hs j (by omega)) })).symm⟩)
end
end Go.Proofs.YtjbhdfpjnjedhaaGreat

/- consensus: design (its closure add), regular, formed. consensus: regular, formed, fitted. -/
import Derived.Test.YtjbhdfpjnjedhaaGreatZqbg
import Derived.Test.YtjbhdfpjnjedhaaGreatZqax
import Derived.Test.YtjbhdfpjnjedhaaGreatZqbc
import Derived.Test.YtjbhdfpjnjedhaaGreatZqau
import Derived.Test.YtjbhdfpjnjedhaaGreatZqaw
import Derived.Test.YtjbhdfpjnjedhaaGreatZqar
import Derived.Test.YtjbhdfpjnjedhaaGreatZqbb
set_option linter.unusedSimpArgs false
set_option linter.unusedVariables false
set_option maxRecDepth 100000
set_option maxHeartbeats 4000000
namespace Go.Proofs.YtjbhdfpjnjedhaaGreat
open Go Go.Fx
section
variable {X : List Nat} {w0 : World} {M0 M1 : List Ent} {I0 : List aT}
theorem aTY (l : List Int) (x : Int) : cz (l ++ [x]) = cz l ++ [(x : Rat)] := by simp [cz]
theorem uU {r : Int} {q : Option Addr} {xs : List Int} {n c pa pb : Nat} {qa qb : Option Addr} {ca cb u : Nat} {rows : List RL} {bs : List RE} (hl : xs.length = n) (hn : n ≤ 100) (hlr : rows.length ≤ 1000 ∧ bs.length ≤ 1000)
  (hb : ∀ x ∈ xs, (-9223372036854775808 ≤ x ∧ x ≤ 9223372036854775807) ∧ x.natAbs ≤ 2 ^ u) (hr : (-9223372036854775808 ≤ r ∧ r ≤ 9223372036854775807) ∧ r.natAbs ≤ 2 ^ u) (hq : aR q (recs eZ xs) ∈ I0) (ha : kI rows u ∈ I0) (hbb : dL bs u ∈ I0) :
  CD Tryz.prog 173 [.int .i64 r, .slice q n c, .pointer (some ⟨pa, 0, none⟩), .pointer (some ⟨pb, 0, none⟩)] X w0
   (.row qa rows.length ca (recs eL rows) 53 1 :: .row qb bs.length cb (recs eR bs) 50 4 :: .blk pb [.slice qb bs.length cb] 53 :: .blk pa [.slice qa rows.length ca] 34 :: M1) I0
   (fun _ M I => ∃ (qa' qb' : Option Addr) (ca' cb' : Nat) (x : RL) (e : RE), x.q = cz xs ∧ e.q = (r : Rat) ∧
    M = .row qa' (rows ++ [x]).length ca' (recs eL (rows ++ [x])) 53 1 :: .row qb' (bs ++ [e]).length cb' (recs eR (bs ++ [e])) 50 4 :: .blk pb [.slice qb' (bs ++ [e]).length cb'] 53 :: .blk pa [.slice qa' (rows ++ [x]).length ca'] 34 :: M1 ∧ I = kI (rows ++ [x]) u :: dL (bs ++ [e]) u :: I0) := by
 refine bK (φ := aR q (recs eZ xs)) (Hv.mem hq) (bK (φ := kI rows u) (Hv.mem (List.mem_cons_of_mem _ ha)) (bK (φ := dL bs u) (Hv.mem (List.mem_cons_of_mem _ (List.mem_cons_of_mem _ hbb))) ?_))
 have hWr := fun M0 I0 => jQ (X := X) (w0 := w0) (M0 := M0) (I0 := I0) (x := r) hr.1 (k := u) hr.2
 refine wQ Tryz.func173 rfl Tryz.ntmps173 rfl ?_
 repeat (refine aJ ?_)
 refine lX 50 4 ?_
 refine dV (φ := dL [] u) Hv.nilR ?_
 refine aZ [0, 2, 3, 9, 10] rfl (fun k G M I => ∃ (i : Nat) (es : List RE) (qe : Option Addr) (ce : Nat), i ≤ n ∧ k = n - i ∧ es.length = i ∧ qs es = cz (xs.take i) ∧ G = [(6, .slice qe es.length ce), (11, .int .i64 i)] ∧ M = .row qe es.length ce (recs eR es) 50 4 :: .row qa rows.length ca (recs eL rows) 53 1 :: .row qb bs.length cb (recs eR bs) 50 4 :: .blk pb [.slice qb bs.length cb] 53 :: .blk pa [.slice qa rows.length ca] 34 :: M1 ∧ I = dL es u :: dL bs u :: kI rows u :: aR q (recs eZ xs) :: I0) (n) _ _ _ aL aG aD (⟨0, [], none, 0, by omega, rfl, rfl, rfl, rfl, rfl, rfl⟩) ?_
 rintro kk G M I ⟨i, es, qe, ce, hi, rfl, hel, heq, rfl, rfl, rfl⟩
 by_cases hin : i < n
 ·have hx := hb _ (eP (ms := xs) (i := (i : Int)) (by omega))
  obtain ⟨x, hxx⟩ : ∃ x, gt xs (i : Int) = x := ⟨_, rfl⟩
  rw [hxx] at hx
  have hW := fun M0 I0 => jQ (X := X) (w0 := w0) (M0 := M0) (I0 := I0) (x := x) hx.1 (k := u) hx.2
  have ht : xs.take (i + 1) = xs.take i ++ [x] := by rw [← hxx, jD (by omega)]; exact (List.take_append_getElem (by omega)).symm
  repeat (refine aJ ?_)
  rw [hxx]
  (refine aA rfl (hW _ _) rfl rfl ?_; rintro _ _ _ ⟨rfl, e, rfl, he, rfl⟩; refine ⟨okF, ?_⟩)
  (refine dB (cs := recs eR [e]) ([rv e]) rfl rfl (by intro v hv; repeat (first | exact absurd hv (List.not_mem_nil) | (rcases List.mem_cons.1 hv with rfl | hv; · rfl))) (by omega) rfl rfl rfl ?_; intro b; refine ⟨okF, ?_⟩)
  (refine gD (ys := [e]) 1 rfl rfl rfl ?_ (by decide) rfl (by omega) (by omega) rfl rfl ?_; (· first | exact Src.blk aB | exact Src.row aB | exact Src.imm aB (by first | assumption | exact .inl (Ok.mk _ _))); intro q2 c3; refine ⟨okF, ?_⟩)
  repeat (refine aJ ?_)
  refine iI (φ := dL (es ++ [e]) u) (Hv.snoc aB aB) ?_
  refine aK (n - (i + 1)) _ _ _ (by first | omega | (simp only [List.length_append, List.length_cons, List.length_nil]; omega)) aL aG aD (⟨i + 1, es ++ [e], q2, c3, by omega, rfl, by simp [hel], ?_, rfl, rfl, rfl⟩)
  rw [ht, aTY, ← heq]
  show (es ++ [e]).map RE.q = qs es ++ [(x : Rat)]
  rw [List.map_append, ← he]
  rfl
 ·obtain rfl : i = n := by omega
  rw [← hl, List.take_length] at heq
  repeat (refine aJ ?_)
  refine aXH (k := u) aB ?_
  (repeat refine aH ?_); refine rT 5 (.blk pb [.slice qb bs.length cb] 53 :: .blk pa [.slice qa rows.length ca] 34 :: M1) (nT ⟨qe, ce, es⟩ u :: dL bs u :: kI rows u :: aR q (recs eZ xs) :: I0) [0, 1, 4, 5, 2, 3, 6, 7, 8, 9, 10] [4, 4, 5, 5, 0, 0, 0, 0, 0, 0, 0] aG aD mixed (by kernel_rfl) ?_
  repeat (refine aJ ?_)
  (refine dB (cs := recs eL [⟨qe, ce, es⟩]) ([lv ⟨qe, ce, es⟩]) rfl rfl (by intro v hv; repeat (first | exact absurd hv (List.not_mem_nil) | (rcases List.mem_cons.1 hv with rfl | hv; · rfl))) (by omega) rfl rfl rfl ?_; intro b7; refine ⟨okF, ?_⟩)
  (refine gD (ys := [⟨qe, ce, es⟩]) 1 rfl rfl rfl ?_ (by decide) rfl (by omega) (by omega) rfl rfl ?_; (· first | exact Src.blk aB | exact Src.row aB | exact Src.imm aB (by first | assumption | exact .inl (Ok.mk _ _))); intro qa2 ca2; refine ⟨okF, ?_⟩)
  (refine aA rfl (hWr _ _) rfl rfl ?_; rintro _ _ _ ⟨rfl, e, rfl, he, rfl⟩; refine ⟨okF, ?_⟩)
  (refine dB (cs := recs eR [e]) ([rv e]) rfl rfl (by intro v hv; repeat (first | exact absurd hv (List.not_mem_nil) | (rcases List.mem_cons.1 hv with rfl | hv; · rfl))) (by omega) rfl rfl rfl ?_; intro b8; refine ⟨okF, ?_⟩)
  (refine gD (ys := [e]) 3 rfl rfl rfl ?_ (by decide) rfl (by omega) (by omega) rfl rfl ?_; (· first | exact Src.blk aB | exact Src.row aB | exact Src.imm aB (by first | assumption | exact .inl (Ok.mk _ _))); intro qb2 cb2; refine ⟨okF, ?_⟩)
  repeat (refine aJ ?_)
  refine iI (φ := dL (bs ++ [e]) u) (Hv.snoc aB aB) ?_
  refine iI (φ := kI (rows ++ [(⟨qe, ce, es⟩ : RL)]) u) (Hv.snocL aB aB) ?_
  refine nA (by first | exact .inl rfl | exact .inr rfl) rfl _ _ aG aD (⟨qa2, qb2, ca2, cb2, ⟨qe, ce, es⟩, e, heq, he, rfl, rfl⟩)
theorem aCA {k : Nat} {l : List Q4} {s : Q4} : xE k (l ++ [s]) = xE k l ++ [cz (dr1 k s), cz (dr2 k s)] := by simp [xE]
theorem aBZ {k : Nat} {l : List Q4} {s : Q4} : dsB k (l ++ [s]) = dsB k l ++ [(db1 k s : Rat), (db2 k s : Rat)] := by simp [dsB]
theorem e16 : 2 ^ 16 = 65536 := rfl
theorem aNA {kd : Nat} {q : Option Addr} {l : List Q4} {n c : Nat} (hk : kd ≤ 2) (hl : l.length = n) (hn : n ≤ 64) (hs : ∀ s ∈ l, s.near) (hq : aR q (recs kP l) ∈ I0) :
  CD Tryz.prog 131 [.int .i64 (kd : Int), .slice q n c] X w0 M0 I0 (fun v M I => M0 = M ∧ ∃ (A : MX) (b : RL), v = .tuple #[mv A, lv b] ∧ A.q = xE kd l ∧ b.q = dsB kd l ∧ I = nT b 16 :: lT A 16 :: I0) := by
 refine bK (φ := aR q (recs kP l)) (Hv.mem hq) ?_
 refine bL Tryz.func131 rfl Tryz.ntmps131 rfl ?_
 refine aH ?_
 refine aI ?_
 (refine aF rfl rfl ?_; intro pa; refine ⟨okF, ?_⟩)
 (refine aF rfl rfl ?_; intro pb; refine ⟨okF, ?_⟩)
 repeat (refine aJ ?_)
 refine lX 50 4 ?_
 refine lX 53 1 ?_
 refine dV (φ := dL [] 16) Hv.nilR ?_
 refine dV (φ := kI [] 16) Hv.nilL ?_
 refine aZ [0, 4, 5, 6, 14, 15] rfl (fun k G M I => ∃ (i : Nat) (rows : List RL) (bs : List RE) (qa qb : Option Addr) (ca cb : Nat), i ≤ n ∧ k = n - i ∧ rows.map RL.q = xE kd (l.take i) ∧ qs bs = dsB kd (l.take i) ∧ G = [(16, .int .i64 i)] ∧ M = .row qa rows.length ca (recs eL rows) 53 1 :: .row qb bs.length cb (recs eR bs) 50 4 :: .blk pb [.slice qb bs.length cb] 53 :: .blk pa [.slice qa rows.length ca] 34 :: M0 ∧ I = kI rows 16 :: dL bs 16 :: aR q (recs kP l) :: I0) (n) _ _ _ aL aG aD (⟨0, [], [], none, none, 0, 0, by omega, rfl, rfl, rfl, rfl, rfl, rfl⟩) ?_
 rintro kk G M I ⟨i, rows, bs, qa, qb, ca, cb, hi, rfl, hrq, hbq, rfl, rfl, rfl⟩
 have hlr : rows.length = 2 * i := by have := congrArg List.length hrq; rw [List.length_map, aKL, List.length_take] at this; omega
 have hlb : bs.length = 2 * i := by have := congrArg List.length hbq; rw [show (qs bs).length = bs.length from List.length_map .., aKH, List.length_take] at this; omega
 by_cases hin : i < n
 ·have hmem := eP (ms := l) (i := (i : Int)) (by omega)
  have ht : l.take (i + 1) = l.take i ++ [gt l (i : Int)] := by rw [gtQ (by omega)]; exact (List.take_append_getElem (by omega)).symm
  obtain ⟨s, hss⟩ : ∃ s, gt l (i : Int) = s := ⟨_, rfl⟩
  rw [hss] at hmem ht
  obtain ⟨n1, n2, n3, n4⟩ := hs s hmem
  repeat (refine aJ ?_)
  rw [hss]
  (refine aF rfl rfl ?_; intro b8; refine ⟨okF, ?_⟩)
  repeat (refine aJ ?_)
  (repeat refine aH ?_); refine gY [0, 1, 2, 3, 4, 5, 6, 7, 8, 9, 10, 11, 12, 13, 14, 15] [0, 0, 0, 0, 0, 0, 0, 0, 0, 0, 0, 0, 0, 0, 0, 0] mixed (by kernel_rfl) ?_
  repeat (refine aJ ?_)
  rcases (show kd = 0 ∨ kd = 1 ∨ kd = 2 by omega) with h0 | h0 | h0
  ·obtain rfl : kd = 0 := by omega
   have hr1 : (-9223372036854775808 ≤ s.u - s.x ∧ s.u - s.x ≤ 9223372036854775807) ∧ (s.u - s.x).natAbs ≤ 2 ^ 16 := by rw [e16]; omega
   have hr2 : (-9223372036854775808 ≤ s.v - s.y ∧ s.v - s.y ≤ 9223372036854775807) ∧ (s.v - s.y).natAbs ≤ 2 ^ 16 := by rw [e16]; omega
   have hx1 : ∀ z ∈ [1, 0], (-9223372036854775808 ≤ z ∧ z ≤ 9223372036854775807) ∧ z.natAbs ≤ 2 ^ 16 := by rw [e16]; intro z hz; simp only [List.mem_cons, List.not_mem_nil, or_false] at hz; omega
   have hx2 : ∀ z ∈ [0, 1], (-9223372036854775808 ≤ z ∧ z ≤ 9223372036854775807) ∧ z.natAbs ≤ 2 ^ 16 := by rw [e16]; intro z hz; simp only [List.mem_cons, List.not_mem_nil, or_false] at hz; omega
   repeat (refine aJ ?_)
   (refine dB (cs := recs eZ [1, 0]) ([.int .i64 (1), .int .i64 (0)]) rfl rfl (by intro v hv; repeat (first | exact absurd hv (List.not_mem_nil) | (rcases List.mem_cons.1 hv with rfl | hv; · rfl))) (by omega) rfl rfl rfl ?_; intro b9; refine ⟨okF, ?_⟩)
   refine aO .here ?_
   refine vE (M' := .row qa rows.length ca (recs eL rows) 53 1 :: .row qb bs.length cb (recs eR bs) 50 4 :: .blk pb [.slice qb bs.length cb] 53 :: .blk pa [.slice qa rows.length ca] 34 :: M0) (I' := aR (some ⟨b9, 0, none⟩) (recs eZ [1, 0]) :: kI rows 16 :: dL bs 16 :: aR q (recs kP l) :: I0) aG aD ?_
   (refine eO rfl rfl (uU (u := 16) (q := some ⟨b9, 0, none⟩) (xs := [1, 0]) (n := 2) (c := 2) (rows := rows) (bs := bs) (r := s.u - s.x) rfl (by omega) ⟨by omega, by omega⟩ hx1 hr1 aB aB aB) rfl rfl rfl ?_; rintro _ _ _ ⟨qa1, qb1, ca1, cb1, x1, y1, hxq1, hyq1, rfl, rfl⟩; refine ⟨okF, ?_⟩)
   repeat (refine aJ ?_)
   (refine dB (cs := recs eZ [0, 1]) ([.int .i64 (0), .int .i64 (1)]) rfl rfl (by intro v hv; repeat (first | exact absurd hv (List.not_mem_nil) | (rcases List.mem_cons.1 hv with rfl | hv; · rfl))) (by omega) rfl rfl rfl ?_; intro b10; refine ⟨okF, ?_⟩)
   refine aO .here ?_
   refine vE (M' := .row qa1 (rows ++ [x1]).length ca1 (recs eL (rows ++ [x1])) 53 1 :: .row qb1 (bs ++ [y1]).length cb1 (recs eR (bs ++ [y1])) 50 4 :: .blk pb [.slice qb1 (bs ++ [y1]).length cb1] 53 :: .blk pa [.slice qa1 (rows ++ [x1]).length ca1] 34 :: M0) (I' := aR (some ⟨b10, 0, none⟩) (recs eZ [0, 1]) :: kI (rows ++ [x1]) 16 :: dL (bs ++ [y1]) 16 :: aR q (recs kP l) :: I0) aG aD ?_
   (refine eO rfl rfl (uU (u := 16) (q := some ⟨b10, 0, none⟩) (xs := [0, 1]) (n := 2) (c := 2) (rows := rows ++ [x1]) (bs := bs ++ [y1]) (r := s.v - s.y) rfl (by omega) ⟨by simp; omega, by simp; omega⟩ hx2 hr2 aB aB aB) rfl rfl rfl ?_; rintro _ _ _ ⟨qa2, qb2, ca2, cb2, x2, y2, hxq2, hyq2, rfl, rfl⟩; refine ⟨okF, ?_⟩)
   repeat (refine aJ ?_)
   refine aK (n - (i + 1)) _ _ _ (by first | omega | (simp only [List.length_append, List.length_cons, List.length_nil]; omega)) aL aG aD (⟨i + 1, rows ++ [x1] ++ [x2], bs ++ [y1] ++ [y2], qa2, qb2, ca2, cb2, by omega, rfl, by rw [ht, aCA, ← hrq, List.map_append, List.map_append, List.append_assoc]; show _ ++ [x1.q, x2.q] = _; rw [hxq1, hxq2]; rfl, by rw [ht, aBZ, ← hbq]; show (bs ++ [y1] ++ [y2]).map RE.q = _; rw [List.map_append, List.map_append, List.append_assoc]; show _ ++ [y1.q, y2.q] = _; rw [hyq1, hyq2]; rfl, rfl, rfl, rfl⟩)
  ·obtain rfl : kd = 1 := by omega
   have hr1 : (-9223372036854775808 ≤ s.u ∧ s.u ≤ 9223372036854775807) ∧ (s.u).natAbs ≤ 2 ^ 16 := by rw [e16]; omega
   have hr2 : (-9223372036854775808 ≤ s.v ∧ s.v ≤ 9223372036854775807) ∧ (s.v).natAbs ≤ 2 ^ 16 := by rw [e16]; omega
   have hx1 : ∀ z ∈ [s.x, -s.y, 1, 0], (-9223372036854775808 ≤ z ∧ z ≤ 9223372036854775807) ∧ z.natAbs ≤ 2 ^ 16 := by rw [e16]; intro z hz; simp only [List.mem_cons, List.not_mem_nil, or_false] at hz; omega
   have hx2 : ∀ z ∈ [s.y, s.x, 0, 1], (-9223372036854775808 ≤ z ∧ z ≤ 9223372036854775807) ∧ z.natAbs ≤ 2 ^ 16 := by rw [e16]; intro z hz; simp only [List.mem_cons, List.not_mem_nil, or_false] at hz; omega
   repeat (refine aJ ?_)
   rw [Int.zero_sub]
   (refine dB (cs := recs eZ [s.x, -s.y, 1, 0]) ([.int .i64 (s.x), .int .i64 (-s.y), .int .i64 (1), .int .i64 (0)]) rfl rfl (by intro v hv; repeat (first | exact absurd hv (List.not_mem_nil) | (rcases List.mem_cons.1 hv with rfl | hv; · rfl))) (by omega) rfl rfl rfl ?_; intro b9; refine ⟨okF, ?_⟩)
   refine aO .here ?_
   refine vE (M' := .row qa rows.length ca (recs eL rows) 53 1 :: .row qb bs.length cb (recs eR bs) 50 4 :: .blk pb [.slice qb bs.length cb] 53 :: .blk pa [.slice qa rows.length ca] 34 :: M0) (I' := aR (some ⟨b9, 0, none⟩) (recs eZ [s.x, -s.y, 1, 0]) :: kI rows 16 :: dL bs 16 :: aR q (recs kP l) :: I0) aG aD ?_
   (refine eO rfl rfl (uU (u := 16) (q := some ⟨b9, 0, none⟩) (xs := [s.x, -s.y, 1, 0]) (n := 4) (c := 4) (rows := rows) (bs := bs) (r := s.u) rfl (by omega) ⟨by omega, by omega⟩ hx1 hr1 aB aB aB) rfl rfl rfl ?_; rintro _ _ _ ⟨qa1, qb1, ca1, cb1, x1, y1, hxq1, hyq1, rfl, rfl⟩; refine ⟨okF, ?_⟩)
   repeat (refine aJ ?_)
   (refine dB (cs := recs eZ [s.y, s.x, 0, 1]) ([.int .i64 (s.y), .int .i64 (s.x), .int .i64 (0), .int .i64 (1)]) rfl rfl (by intro v hv; repeat (first | exact absurd hv (List.not_mem_nil) | (rcases List.mem_cons.1 hv with rfl | hv; · rfl))) (by omega) rfl rfl rfl ?_; intro b10; refine ⟨okF, ?_⟩)
   refine aO .here ?_
   refine vE (M' := .row qa1 (rows ++ [x1]).length ca1 (recs eL (rows ++ [x1])) 53 1 :: .row qb1 (bs ++ [y1]).length cb1 (recs eR (bs ++ [y1])) 50 4 :: .blk pb [.slice qb1 (bs ++ [y1]).length cb1] 53 :: .blk pa [.slice qa1 (rows ++ [x1]).length ca1] 34 :: M0) (I' := aR (some ⟨b10, 0, none⟩) (recs eZ [s.y, s.x, 0, 1]) :: kI (rows ++ [x1]) 16 :: dL (bs ++ [y1]) 16 :: aR q (recs kP l) :: I0) aG aD ?_
   (refine eO rfl rfl (uU (u := 16) (q := some ⟨b10, 0, none⟩) (xs := [s.y, s.x, 0, 1]) (n := 4) (c := 4) (rows := rows ++ [x1]) (bs := bs ++ [y1]) (r := s.v) rfl (by omega) ⟨by simp; omega, by simp; omega⟩ hx2 hr2 aB aB aB) rfl rfl rfl ?_; rintro _ _ _ ⟨qa2, qb2, ca2, cb2, x2, y2, hxq2, hyq2, rfl, rfl⟩; refine ⟨okF, ?_⟩)
   repeat (refine aJ ?_)
   refine aK (n - (i + 1)) _ _ _ (by first | omega | (simp only [List.length_append, List.length_cons, List.length_nil]; omega)) aL aG aD (⟨i + 1, rows ++ [x1] ++ [x2], bs ++ [y1] ++ [y2], qa2, qb2, ca2, cb2, by omega, rfl, by rw [ht, aCA, ← hrq, List.map_append, List.map_append, List.append_assoc]; show _ ++ [x1.q, x2.q] = _; rw [hxq1, hxq2]; rfl, by rw [ht, aBZ, ← hbq]; show (bs ++ [y1] ++ [y2]).map RE.q = _; rw [List.map_append, List.map_append, List.append_assoc]; show _ ++ [y1.q, y2.q] = _; rw [hyq1, hyq2]; rfl, rfl, rfl, rfl⟩)
  ·obtain rfl : kd = 2 := by omega
   have hr1 : (-9223372036854775808 ≤ s.u ∧ s.u ≤ 9223372036854775807) ∧ (s.u).natAbs ≤ 2 ^ 16 := by rw [e16]; omega
   have hr2 : (-9223372036854775808 ≤ s.v ∧ s.v ≤ 9223372036854775807) ∧ (s.v).natAbs ≤ 2 ^ 16 := by rw [e16]; omega
   have hx1 : ∀ z ∈ [s.x, s.y, 1, 0, 0, 0], (-9223372036854775808 ≤ z ∧ z ≤ 9223372036854775807) ∧ z.natAbs ≤ 2 ^ 16 := by rw [e16]; intro z hz; simp only [List.mem_cons, List.not_mem_nil, or_false] at hz; omega
   have hx2 : ∀ z ∈ [0, 0, 0, s.x, s.y, 1], (-9223372036854775808 ≤ z ∧ z ≤ 9223372036854775807) ∧ z.natAbs ≤ 2 ^ 16 := by rw [e16]; intro z hz; simp only [List.mem_cons, List.not_mem_nil, or_false] at hz; omega
   repeat (refine aJ ?_)
   (refine dB (cs := recs eZ [s.x, s.y, 1, 0, 0, 0]) ([.int .i64 (s.x), .int .i64 (s.y), .int .i64 (1), .int .i64 (0), .int .i64 (0), .int .i64 (0)]) rfl rfl (by intro v hv; repeat (first | exact absurd hv (List.not_mem_nil) | (rcases List.mem_cons.1 hv with rfl | hv; · rfl))) (by omega) rfl rfl rfl ?_; intro b9; refine ⟨okF, ?_⟩)
   refine aO .here ?_
   refine vE (M' := .row qa rows.length ca (recs eL rows) 53 1 :: .row qb bs.length cb (recs eR bs) 50 4 :: .blk pb [.slice qb bs.length cb] 53 :: .blk pa [.slice qa rows.length ca] 34 :: M0) (I' := aR (some ⟨b9, 0, none⟩) (recs eZ [s.x, s.y, 1, 0, 0, 0]) :: kI rows 16 :: dL bs 16 :: aR q (recs kP l) :: I0) aG aD ?_
   (refine eO rfl rfl (uU (u := 16) (q := some ⟨b9, 0, none⟩) (xs := [s.x, s.y, 1, 0, 0, 0]) (n := 6) (c := 6) (rows := rows) (bs := bs) (r := s.u) rfl (by omega) ⟨by omega, by omega⟩ hx1 hr1 aB aB aB) rfl rfl rfl ?_; rintro _ _ _ ⟨qa1, qb1, ca1, cb1, x1, y1, hxq1, hyq1, rfl, rfl⟩; refine ⟨okF, ?_⟩)
   repeat (refine aJ ?_)
   (refine dB (cs := recs eZ [0, 0, 0, s.x, s.y, 1]) ([.int .i64 (0), .int .i64 (0), .int .i64 (0), .int .i64 (s.x), .int .i64 (s.y), .int .i64 (1)]) rfl rfl (by intro v hv; repeat (first | exact absurd hv (List.not_mem_nil) | (rcases List.mem_cons.1 hv with rfl | hv; · rfl))) (by omega) rfl rfl rfl ?_; intro b10; refine ⟨okF, ?_⟩)
   refine aO .here ?_
   refine vE (M' := .row qa1 (rows ++ [x1]).length ca1 (recs eL (rows ++ [x1])) 53 1 :: .row qb1 (bs ++ [y1]).length cb1 (recs eR (bs ++ [y1])) 50 4 :: .blk pb [.slice qb1 (bs ++ [y1]).length cb1] 53 :: .blk pa [.slice qa1 (rows ++ [x1]).length ca1] 34 :: M0) (I' := aR (some ⟨b10, 0, none⟩) (recs eZ [0, 0, 0, s.x, s.y, 1]) :: kI (rows ++ [x1]) 16 :: dL (bs ++ [y1]) 16 :: aR q (recs kP l) :: I0) aG aD ?_
   (refine eO rfl rfl (uU (u := 16) (q := some ⟨b10, 0, none⟩) (xs := [0, 0, 0, s.x, s.y, 1]) (n := 6) (c := 6) (rows := rows ++ [x1]) (bs := bs ++ [y1]) (r := s.v) rfl (by omega) ⟨by simp; omega, by simp; omega⟩ hx2 hr2 aB aB aB) rfl rfl rfl ?_; rintro _ _ _ ⟨qa2, qb2, ca2, cb2, x2, y2, hxq2, hyq2, rfl, rfl⟩; refine ⟨okF, ?_⟩)
   repeat (refine aJ ?_)
   refine aK (n - (i + 1)) _ _ _ (by first | omega | (simp only [List.length_append, List.length_cons, List.length_nil]; omega)) aL aG aD (⟨i + 1, rows ++ [x1] ++ [x2], bs ++ [y1] ++ [y2], qa2, qb2, ca2, cb2, by omega, rfl, by rw [ht, aCA, ← hrq, List.map_append, List.map_append, List.append_assoc]; show _ ++ [x1.q, x2.q] = _; rw [hxq1, hxq2]; rfl, by rw [ht, aBZ, ← hbq]; show (bs ++ [y1] ++ [y2]).map RE.q = _; rw [List.map_append, List.map_append, List.append_assoc]; show _ ++ [y1.q, y2.q] = _; rw [hyq1, hyq2]; rfl, rfl, rfl, rfl⟩)
 ·obtain rfl : i = n := by omega
  rw [← hl, List.take_length] at hrq hbq
  repeat (refine aJ ?_)
  (repeat refine aH ?_); refine rT 1 (.blk pb [.slice qb bs.length cb] 53 :: M0) (I0) [0, 1, 2, 3] [0, 1, 0, 0] aG aD mixed (by kernel_rfl) ?_
  repeat (refine aJ ?_)
  refine aXL (k := 16) aB ?_
  refine aJA (k := 16) aB ?_
  refine dZ (rs := [.cell 4 34, .cell 5 53]) (vs := [mv ⟨qa, ca, rows⟩, lv ⟨qb, cb, bs⟩]) (.inl rfl) rfl (.cell inferInstance rfl aB (.cell inferInstance rfl aB .nil)) rfl M0 (nT ⟨qb, cb, bs⟩ 16 :: lT ⟨qa, ca, rows⟩ 16 :: I0) aG aD ⟨rfl, ⟨qa, ca, rows⟩, ⟨qb, cb, bs⟩, rfl, hrq, hbq, rfl⟩
end
end Go.Proofs.YtjbhdfpjnjedhaaGreat
namespace Go.Proofs.YtjbhdfpjnjedhaaGreat
open Go Go.Fx
theorem sgnQ {q : Rat} : q.num.sign = 0 ↔ q = 0 := by rw [Int.sign_eq_zero_iff_zero, Rat.num_eq_zero]
abbrev hdL (r : RL) : HD := ⟨r.p, r.es.length, r.c⟩
theorem aPW (rows : List RL) : recs eH (rows.map hdL) = recs eL rows := by
 induction rows with
 | nil => rfl
 | cons x r ih =>
  have h1 : recs eH ((x :: r).map hdL) = eH (hdL x) ++ recs eH (r.map hdL) := rfl
  have h2 : recs eL (x :: r) = eL x ++ recs eL r := rfl
  rw [h1, h2, ih]
section
variable {P : Program} {n : Nat} {Q : Exit → Act → World → Prop} {G : Env} {X : List Nat} {w0 : World} {M : List Ent} {I : List aT}
theorem aLV {cd : Code} {b k C : Nat} {rows : List RL} {ty : TypeId} (hl : rows.length = C) (hC : C ≤ 1000000) (ha : kI rows k ∈ I) (h : TD P n cd Q G X w0 M (lT ⟨some ⟨b, 0, none⟩, C, rows⟩ k :: I)) : TD P n cd Q G X w0 (.blk b (recs eL rows) ty :: M) I := by
 subst hl
 refine aQM (mm := rows.length) 1 .here (by rw [iE]) (by omega) ?_
 exact aEN (fun _ hw => Mem.toX hw ha) h
end
section
variable {X : List Nat} {w0 : World} {M0 M1 : List Ent} {I0 : List aT}
theorem aHX {a : MX} {k : Nat} (hb : kb k 3 ≤ 20000000000) (hk0 : k ≤ 20000000000) (da : a.fit 3 3) (ha : lT a k ∈ I0) : CD Tryz.prog 70 [mv a] X w0 M0 I0 (fun v M I => M0 = M ∧ I0 = I ∧ v = .bool (B (dt 3 (at2 a.q) ≠ 0))) := by
 have hD := fun M0 I0 h => zA (X := X) (w0 := w0) (M0 := M0) (I0 := I0) (a := a) (n := 3) (k0 := k) hb hk0 da h
 have hr := da.1.1
 refine bN Tryz.func70 rfl Tryz.ntmps70 rfl ?_
 repeat (refine aJ ?_)
 (refine aA rfl (hD _ _ aB) rfl rfl ?_; rintro _ _ _ ⟨rfl, e, rfl, he, rfl⟩; refine ⟨okF, ?_⟩)
 repeat (refine aJ ?_)
 (refine aF rfl rfl ?_; intro b3; refine ⟨okF, ?_⟩)
 repeat (refine aJ ?_)
 (refine aA rfl (mV (e := e) (k := kb k 3) (by omega) (Hv.mem aB)) rfl rfl ?_; rintro _ _ _ ⟨rfl, rfl, rfl⟩; refine ⟨okF, ?_⟩)
 repeat (refine aJ ?_)
 refine kD (M' := M0) (I' := I0) aG aD ?_
 refine aM (by first | exact .inl rfl | exact .inr rfl) rfl rfl _ _ aG aD (⟨rfl, rfl, congrArg Value.bool (lF (by rw [← he]; exact not_congr sgnQ))⟩)
theorem aOJ {kd k : Nat} {x : RL} (hk : kd ≤ 2) (hkk : k ≤ 100000000000) (hl : x.es.length = kU kd) (hx : nT x k ∈ I0) : CD Tryz.prog 134 [.int .i64 (kd : Int), lv x] X w0 M0 I0 (XQ (frm kd x.q) 3 3 k M0 I0) := by
 have hW0 := fun M0 I0 => jQ (X := X) (w0 := w0) (M0 := M0) (I0 := I0) (x := 0) (by decide) (k := 0) (by decide)
 have hW1 := fun M0 I0 => jQ (X := X) (w0 := w0) (M0 := M0) (I0 := I0) (x := 1) (by decide) (k := 0) (by decide)
 have hq : ∀ i : Nat, i < kU kd → x.q.getD i 0 = (gt x.es (i : Int)).q := fun i hi => oK (by omega)
 refine bK (φ := aR x.p (recs eR x.es)) (Hv.lsl hx) (bK (φ := nT x k) (Hv.mem (List.mem_cons_of_mem _ hx)) ?_)
 refine bL Tryz.func134 rfl Tryz.ntmps134 rfl ?_
 rcases (show kd = 0 ∨ kd = 1 ∨ kd = 2 by omega) with h0 | h0 | h0
 ·obtain rfl : kd = 0 := h0
  have hl2 : x.es.length = 2 := hl
  have q0 := hq 0 (by decide)
  have q1 := hq 1 (by decide)
  repeat (refine aJ ?_)
  (repeat refine aH ?_); refine bS (M0) (nT x k :: aR x.p (recs eR x.es) :: I0) [2, 3, 4, 8, 9, 10, 0, 1, 5, 6, 7, 11, 12, 13] [5, 5, 5, 5, 5, 5, 0, 0, 2, 0, 0, 0, 0, 0] aG aD mixed (by kernel_rfl) ?_
  repeat (refine aJ ?_)
  (refine aA rfl (hW1 _ _) rfl rfl ?_; rintro _ _ _ ⟨rfl, e0, rfl, he0, rfl⟩; refine ⟨okF, ?_⟩)
  repeat (refine aJ ?_)
  (refine aA rfl (hW0 _ _) rfl rfl ?_; rintro _ _ _ ⟨rfl, e1, rfl, he1, rfl⟩; refine ⟨okF, ?_⟩)
  repeat (refine aJ ?_)
  (refine aC rfl (fun _ => fG (vals := [rv e0, rv e1, rv (gt x.es 0)]) (cells := recs eR [e0, e1, gt x.es 0]) rfl ?hpl rfl ?hz) rfl rfl ?_; (case hpl => exact (by intro v hv; repeat (first | exact absurd hv (List.not_mem_nil) | (rcases List.mem_cons.1 hv with rfl | hv; · rfl)))); (case hz => rfl))
  repeat (refine aJ ?_)
  (refine aA rfl (hW0 _ _) rfl rfl ?_; rintro _ _ _ ⟨rfl, e2, rfl, he2, rfl⟩; refine ⟨okF, ?_⟩)
  repeat (refine aJ ?_)
  (refine aA rfl (hW1 _ _) rfl rfl ?_; rintro _ _ _ ⟨rfl, e3, rfl, he3, rfl⟩; refine ⟨okF, ?_⟩)
  repeat (refine aJ ?_)
  (refine aC rfl (fun _ => fG (vals := [rv e2, rv e3, rv (gt x.es 1)]) (cells := recs eR [e2, e3, gt x.es 1]) rfl ?hpl rfl ?hz) rfl rfl ?_; (case hpl => exact (by intro v hv; repeat (first | exact absurd hv (List.not_mem_nil) | (rcases List.mem_cons.1 hv with rfl | hv; · rfl)))); (case hz => rfl))
  repeat (refine aJ ?_)
  (refine aA rfl (aAZ (a := ⟨e0, e1, gt x.es 0⟩) (b := ⟨e2, e3, gt x.es 1⟩) (k := k) (Hv.mkT (Hv.q (k := 0) aB (Nat.zero_le _)) (Hv.q (k := 0) aB (Nat.zero_le _)) (Hv.lel (r := x) (k := k) aB ⟨by omega, by omega⟩)) (Hv.mkT (Hv.q (k := 0) aB (Nat.zero_le _)) (Hv.q (k := 0) aB (Nat.zero_le _)) (Hv.lel (r := x) (k := k) aB ⟨by omega, by omega⟩))) rfl rfl ?_; rintro _ _ _ ⟨rfl, m, rfl, hm, dm, rfl⟩; refine ⟨okF, ?_⟩)
  repeat (refine aJ ?_)
  refine kD (M' := M0) (I' := lT m k :: I0) aG aD ?_
  refine aM (by first | exact .inl rfl | exact .inr rfl) rfl rfl _ _ aG aD (⟨rfl, m, rfl, by rw [hm, he0, he1, he2, he3]; unfold frm; rw [if_pos rfl, q0, q1]; rfl, dm, rfl⟩)
 ·obtain rfl : kd = 1 := h0
  have hl2 : x.es.length = 4 := hl
  have q0 := hq 0 (by decide)
  have q1 := hq 1 (by decide)
  have q2 := hq 2 (by decide)
  have q3 := hq 3 (by decide)
  have hN := fun M0 I0 h => aFN (X := X) (w0 := w0) (M0 := M0) (I0 := I0) (e := gt x.es 1) (k := k) (by omega) h
  repeat (refine aJ ?_)
  (repeat refine aH ?_); refine bS (M0) (nT x k :: aR x.p (recs eR x.es) :: I0) [0, 1, 2, 3, 4, 5, 7, 8, 9, 11, 12, 13, 14, 15, 16, 17, 18, 19, 20, 6, 10, 21, 22] [2, 2, 2, 2, 2, 1, 2, 2, 2, 2, 2, 2, 2, 2, 2, 2, 2, 2, 1, 0, 0, 0, 0] aG aD mixed (by kernel_rfl) ?_
  repeat (refine aJ ?_)
  (refine aC rfl (fun _ => fG (vals := [rv (gt x.es 1), rv (gt x.es 0), rv (gt x.es 3)]) (cells := recs eR [gt x.es 1, gt x.es 0, gt x.es 3]) rfl ?hpl rfl ?hz) rfl rfl ?_; (case hpl => exact (by intro v hv; repeat (first | exact absurd hv (List.not_mem_nil) | (rcases List.mem_cons.1 hv with rfl | hv; · rfl)))); (case hz => rfl))
  repeat (refine aJ ?_)
  (refine aA rfl (hN _ _ (Hv.lel (r := x) (k := k) aB ⟨by omega, by omega⟩)) rfl rfl ?_; rintro _ _ _ ⟨rfl, e1, rfl, he1, rfl⟩; refine ⟨okF, ?_⟩)
  repeat (refine aJ ?_)
  (refine aC rfl (fun _ => fG (vals := [rv (gt x.es 0), rv e1, rv (gt x.es 2)]) (cells := recs eR [gt x.es 0, e1, gt x.es 2]) rfl ?hpl rfl ?hz) rfl rfl ?_; (case hpl => exact (by intro v hv; repeat (first | exact absurd hv (List.not_mem_nil) | (rcases List.mem_cons.1 hv with rfl | hv; · rfl)))); (case hz => rfl))
  repeat (refine aJ ?_)
  (refine aA rfl (aAZ (a := ⟨gt x.es 0, e1, gt x.es 2⟩) (b := ⟨gt x.es 1, gt x.es 0, gt x.es 3⟩) (k := k) (Hv.mkT (Hv.lel (r := x) (k := k) aB ⟨by omega, by omega⟩) (Hv.mem aB) (Hv.lel (r := x) (k := k) aB ⟨by omega, by omega⟩)) (Hv.mkT (Hv.lel (r := x) (k := k) aB ⟨by omega, by omega⟩) (Hv.lel (r := x) (k := k) aB ⟨by omega, by omega⟩) (Hv.lel (r := x) (k := k) aB ⟨by omega, by omega⟩))) rfl rfl ?_; rintro _ _ _ ⟨rfl, m, rfl, hm, dm, rfl⟩; refine ⟨okF, ?_⟩)
  repeat (refine aJ ?_)
  refine kD (M' := M0) (I' := lT m k :: I0) aG aD ?_
  refine aM (by first | exact .inl rfl | exact .inr rfl) rfl rfl _ _ aG aD (⟨rfl, m, rfl, by rw [hm, he1]; unfold frm; rw [if_neg (by decide), if_pos rfl, q0, q1, q2, q3]; rfl, dm, rfl⟩)
 ·obtain rfl : kd = 2 := h0
  have hl2 : x.es.length = 6 := hl
  have q0 := hq 0 (by decide)
  have q1 := hq 1 (by decide)
  have q2 := hq 2 (by decide)
  have q3 := hq 3 (by decide)
  have q4 := hq 4 (by decide)
  have q5 := hq 5 (by decide)
  repeat (refine aJ ?_)
  (repeat refine aH ?_); refine bS (M0) (nT x k :: aR x.p (recs eR x.es) :: I0) [0, 1, 2, 3, 4, 5, 6, 7, 8, 9, 10, 11, 12, 13, 14, 15, 16, 17, 18, 19, 20, 21] [1, 1, 1, 1, 1, 1, 1, 1, 1, 0, 1, 1, 1, 1, 1, 1, 1, 1, 1, 0, 0, 0] aG aD mixed (by kernel_rfl) ?_
  repeat (refine aJ ?_)
  (refine aC rfl (fun _ => fG (vals := [rv (gt x.es 0), rv (gt x.es 1), rv (gt x.es 2)]) (cells := recs eR [gt x.es 0, gt x.es 1, gt x.es 2]) rfl ?hpl rfl ?hz) rfl rfl ?_; (case hpl => exact (by intro v hv; repeat (first | exact absurd hv (List.not_mem_nil) | (rcases List.mem_cons.1 hv with rfl | hv; · rfl)))); (case hz => rfl))
  repeat (refine aJ ?_)
  (refine aC rfl (fun _ => fG (vals := [rv (gt x.es 3), rv (gt x.es 4), rv (gt x.es 5)]) (cells := recs eR [gt x.es 3, gt x.es 4, gt x.es 5]) rfl ?hpl rfl ?hz) rfl rfl ?_; (case hpl => exact (by intro v hv; repeat (first | exact absurd hv (List.not_mem_nil) | (rcases List.mem_cons.1 hv with rfl | hv; · rfl)))); (case hz => rfl))
  repeat (refine aJ ?_)
  (refine aA rfl (aAZ (a := ⟨gt x.es 0, gt x.es 1, gt x.es 2⟩) (b := ⟨gt x.es 3, gt x.es 4, gt x.es 5⟩) (k := k) (Hv.mkT (Hv.lel (r := x) (k := k) aB ⟨by omega, by omega⟩) (Hv.lel (r := x) (k := k) aB ⟨by omega, by omega⟩) (Hv.lel (r := x) (k := k) aB ⟨by omega, by omega⟩)) (Hv.mkT (Hv.lel (r := x) (k := k) aB ⟨by omega, by omega⟩) (Hv.lel (r := x) (k := k) aB ⟨by omega, by omega⟩) (Hv.lel (r := x) (k := k) aB ⟨by omega, by omega⟩))) rfl rfl ?_; rintro _ _ _ ⟨rfl, m, rfl, hm, dm, rfl⟩; refine ⟨okF, ?_⟩)
  repeat (refine aJ ?_)
  refine kD (M' := M0) (I' := lT m k :: I0) aG aD ?_
  refine aM (by first | exact .inl rfl | exact .inr rfl) rfl rfl _ _ aG aD (⟨rfl, m, rfl, by rw [hm]; unfold frm; rw [if_neg (by decide), if_neg (by decide), q0, q1, q2, q3, q4, q5]; rfl, dm, rfl⟩)
end
end Go.Proofs.YtjbhdfpjnjedhaaGreat

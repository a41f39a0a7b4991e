/- Forest: the document's numbering, of links in an owned list. Forest: the document's Tree. -/
import Derived.Test.YtkhgglkkdnemlaaZbaj
import Derived.Test.YtkhgglkkdnemlaaZbai
import Derived.Test.YtkhgglkkdnemlaaZbap
set_option linter.unusedSimpArgs false
set_option linter.unusedVariables false
namespace Go.Proofs.Ytkhgglkkdnemlaa
open Go Go.Fx
section
variable {X : List Nat} {w0 : World} {M0 : List Ent} {I0 : List Imm}
set_option maxRecDepth 100000 in
set_option maxHeartbeats 4000000 in
theorem LabelsR_ok {p q : Option Addr} {n : Nat} {ms : List LK} {ls : List Int} {m c t ct : Nat} {M1 : List Ent} (hn : n ≤ 256) (hm : ms.length = m) (hm2 : m ≤ 1024) (hg : Gd ms n) (ht : ls.length = t) (ht2 : t ≤ 100000) (hls : ∀ k ∈ ls, 0 ≤ k ∧ k < m) (hp : slI p (recs eK ms) ∈ I0) (hM : M0 = .row q t ct (recs (eI .i64) ls) 3 1 :: M1) :
    CD Try.prog 50 [gv n p m c, .slice q t ct] X w0 M0 I0 (fun v M I => M0 = M ∧ ∃ q' c', v = .slice q' n c' ∧ I = slI q' (recs (eI .i64) (labs n (lo (es ms ls)))) :: I0) := by
  by_cases hn0 : n = 0
  · subst hn0
    exact Labels0_ok ht2
  subst hM
  have hE : Nds n (es ms ls) := hg.nds (by rw [hm]; exact hls)
  have hli : ∀ i : Nat, i < t → 0 ≤ gt ls i ∧ gt ls i < m := fun i hi => by rw [gt_get (by omega)]; exact hls _ (List.getElem_mem _)
  have hends : ∀ i : Nat, i < t → (0 ≤ (gt ms (gt ls i)).a ∧ (gt ms (gt ls i)).a < n) ∧ (0 ≤ (gt ms (gt ls i)).b ∧ (gt ms (gt ls i)).b < n) := fun i hi => ⟨hg.a _ (hli i hi).1 (by have := (hli i hi).2; omega), hg.b _ (hli i hi).1 (by have := (hli i hi).2; omega)⟩
  have hin : ∀ i : Nat, i < t → ((gt ms (gt ls i)).a, (gt ms (gt ls i)).b) ∈ es ms ls := fun i hi => List.mem_map_of_mem (f := pr ms) (gt_in (ms := ls) (i := (i : Int)) (by omega))
  refine enterD2 Try.func50 rfl Try.ntmps50 rfl ?_
  refine TD_seq ?_
  refine TD_region ?_
  (refine RD_boxA rfl rfl rfl ?_; intro b2; refine ⟨okF, ?_⟩)
  refine RD_freezeB .here ?_
  repeat (refine wXh ?_)
  (refine RD_vals (cs := recs (eI .i64) []) ([]) rfl rfl (by intro v hv; repeat (first | exact absurd hv (List.not_mem_nil) | (rcases List.mem_cons.1 hv with rfl | hv; · rfl))) (by omega) rfl rfl rfl ?_; intro b5; refine ⟨okF, ?_⟩; refine RD_toRow (mm := 0) 1 .here rfl (by omega) ?_)
  repeat (refine wXh ?_)
  refine TD_loop [1, 2] rfl (fun k G M I => ∃ (i : Nat) (qq : Option Addr) (c' : Nat) (xs : List Int), i ≤ n ∧ k = n - i ∧ xs = rg i ∧ G = [(5, .slice qq xs.length c'), (6, .int .i64 i)] ∧ M = .row qq xs.length c' (recs (eI .i64) xs) 3 1 :: .row q t ct (recs (eI .i64) ls) 3 1 :: M1 ∧ I = slI (some ⟨b2, 0, none⟩) [.int .i64 n, .slice p m c] :: I0) (n) _ _ _ subG subF incF (⟨0, some ⟨b5, 0, none⟩, 0, [], by omega, rfl, rfl, rfl, rfl, rfl⟩) ?_
  rintro kk G M I ⟨i, a, c', xs, hi, rfl, hxs, rfl, rfl, rfl⟩
  have hxl : xs.length = i := by rw [hxs, rg_len]
  by_cases him : i < n
  · repeat (refine wXh ?_)
    (refine RD_vals (cs := recs (eI .i64) [(i : Int)]) ([.int .i64 (i : Int)]) rfl rfl (by intro v hv; repeat (first | exact absurd hv (List.not_mem_nil) | (rcases List.mem_cons.1 hv with rfl | hv; · rfl))) (by omega) rfl rfl rfl ?_; intro b4; refine ⟨okF, ?_⟩)
    (refine RD_appR (ys := [(i : Int)]) 1 rfl rfl rfl ?_ (by decide) rfl (by omega) (by omega) rfl rfl ?_; (· first | exact Src.blk memF | exact Src.row memF | exact Src.imm memF (by first | assumption | exact .inl (Ok.mk _ _))); intro a2 c2; refine ⟨okF, ?_⟩)
    repeat (refine wXh ?_)
    refine ND_again (n - (i + 1)) _ _ _ (by first | omega | (simp only [List.length_append, List.length_cons, List.length_nil]; omega)) subG subF incF (⟨i + 1, a2, c2, xs ++ [(i : Int)], by omega, rfl, by rw [rg_succ, hxs], rfl, rfl, rfl⟩)
  obtain rfl : i = n := by omega
  clear him hi
  rw [hxl, hxs]
  clear hxl hxs xs
  repeat (refine wXh ?_)
  refine TD_rowBlk (fun _ h _ => absurd h hn0) (fun b tl e hcc => ?_)
  subst e
  refine TD_loop [1, 2, 5, 26] rfl (fun k G M I => ∃ (r : Nat) (l : List Int), r ≤ i ∧ k = i - r ∧ l.length = i ∧ Lw i (es ms ls) (gt l) ∧ r ≤ cnt i (atL (es ms ls) (gt l)) ∧ G = [(27, .int .i64 r)] ∧ M = .blk b (recs (eI .i64) l ++ tl) 3 :: .row q t ct (recs (eI .i64) ls) 3 1 :: M1 ∧ I = slI (some ⟨b2, 0, none⟩) [.int .i64 i, .slice p m c] :: I0) (i) _ _ _ subG subF incF (⟨0, rg i, by omega, rfl, rg_len i, lw_rg hE, Nat.zero_le _, rfl, rfl, rfl⟩) ?_
  rintro kk G M I ⟨r, l, hr, rfl, hl, hlw, hcnt, rfl, rfl, rfl⟩
  by_cases hri : r < i
  · repeat (refine wXh ?_)
    refine TD_loop [1, 2, 5, 26, 27, 29, 30] rfl (fun k G M I => ∃ (j : Nat) (l' : List Int), j ≤ t ∧ k = t - j ∧ Lr i (es ms ls) l l' ms ls j ∧ G = [(31, .int .i64 j)] ∧ M = .blk b (recs (eI .i64) l' ++ tl) 3 :: .row q t ct (recs (eI .i64) ls) 3 1 :: M1 ∧ I = slI (some ⟨b2, 0, none⟩) [.int .i64 i, .slice p m c] :: I0) (t) _ _ _ subG subF incF (⟨0, l, by omega, rfl, Lr.start hl hlw, rfl, rfl, rfl⟩) ?_
    rintro kk G M I ⟨j, l', hj, rfl, hlr, rfl, rfl, rfl⟩
    have hl' := hlr.len
    by_cases hjt : j < t
    · have hjj := hli j hjt
      have hinj := hin j hjt
      obtain ⟨ra, rb⟩ := hends j hjt
      obtain ⟨x, hx⟩ : ∃ x, gt ls (j : Int) = x := ⟨_, rfl⟩
      obtain ⟨A, hA⟩ : ∃ A, (gt ms x).a = A := ⟨_, rfl⟩
      obtain ⟨D, hD⟩ : ∃ D, (gt ms x).b = D := ⟨_, rfl⟩
      have hstep := fun (l2 : List Int) h1 h2 => hlr.step (l2 := l2) (a := A) (b := D) (fun i hi => hends i (by omega)) (by rw [hx, hA]) (by rw [hx, hD]) (by rw [hx, hA, hD] at hinj; exact hinj) h1 h2
      rw [hx, hA] at ra
      rw [hx, hD] at rb
      rw [hx] at hjj
      repeat (refine wXh ?_)
      rw [hx]
      (repeat refine TD_seq ?_); refine TD_drawnJ 0 [0, 1, 2, 3, 4, 5, 6, 7, 8, 9, 10, 11, 12, 13] [0, 0, 0, 0, 0, 0, 0, 0, 0, 0, 0, 0, 0, 0] mixed (by kernel_rfl) ?_
      repeat (refine wXh ?_)
      rw [hA, hD]
      (repeat refine TD_seq ?_); refine TD_drawnJ 0 [0, 1, 2, 3, 4, 5, 6, 7, 8] [0, 0, 0, 0, 0, 0, 0, 0, 0] mixed (by kernel_rfl) ?_
      have hne : ∀ y : Int, gt l' A ≠ gt l' D → A ≠ D := fun y h e => h (by rw [e])
      rcases Int.lt_trichotomy (gt l' A) (gt l' D) with h1 | h1 | h1
      · have hAD := hne 0 (by omega)
        have g1 : gt (st l' D (gt l' A)) D = gt l' A := by rw [gt_st _ (by omega) rb.1, if_pos rfl]
        have g2 : gt (st l' D (gt l' A)) A = gt l' A := by rw [gt_st _ (by omega) ra.1, if_neg hAD]
        have hl2 : (st l' D (gt l' A)).length = i := by rw [st_len, hl']
        have hs2 := hstep (st l' D (gt l' A)) hl2 (fun y y0 yn => by
          rw [gt_st _ (by omega) y0]
          by_cases e1 : y = D
          · rw [if_pos e1, if_pos (.inr e1)]; omega
          · rw [if_neg e1]
            by_cases e2 : y = A
            · rw [if_pos (.inl e2), e2]; omega
            · rw [if_neg (by omega)])
        repeat (refine wXh ?_)
        (repeat refine TD_seq ?_); refine TD_drawnJ 0 [0, 1, 2, 3, 4, 5, 6, 7, 8] [0, 0, 0, 0, 0, 0, 0, 0, 0] mixed (by kernel_rfl) ?_
        repeat (refine wXh ?_)
        refine ND_again (t - (j + 1)) _ _ _ (by first | omega | (simp only [List.length_append, List.length_cons, List.length_nil]; omega)) subG subF incF (⟨j + 1, _, by omega, rfl, hs2, rfl, rfl, rfl⟩)
      · have hs2 := hstep l' hl' (fun y y0 yn => by
          by_cases e1 : y = A
          · rw [if_pos (.inl e1), e1]; omega
          · by_cases e2 : y = D
            · rw [if_pos (.inr e2), e2]; omega
            · rw [if_neg (by omega)])
        repeat (refine wXh ?_)
        (repeat refine TD_seq ?_); refine TD_drawnJ 0 [0, 1, 2, 3, 4, 5, 6, 7, 8] [0, 0, 0, 0, 0, 0, 0, 0, 0] mixed (by kernel_rfl) ?_
        repeat (refine wXh ?_)
        refine ND_again (t - (j + 1)) _ _ _ (by first | omega | (simp only [List.length_append, List.length_cons, List.length_nil]; omega)) subG subF incF (⟨j + 1, _, by omega, rfl, hs2, rfl, rfl, rfl⟩)
      · have hAD := hne 0 (by omega)
        have hl2 : (st l' A (gt l' D)).length = i := by rw [st_len, hl']
        have hs2 := hstep (st l' A (gt l' D)) hl2 (fun y y0 yn => by
          rw [gt_st _ (by omega) y0]
          by_cases e1 : y = A
          · rw [if_pos e1, if_pos (.inl e1)]; omega
          · rw [if_neg e1]
            by_cases e2 : y = D
            · rw [if_pos (.inr e2), e2]; omega
            · rw [if_neg (by omega)])
        repeat (refine wXh ?_)
        (repeat refine TD_seq ?_); refine TD_drawnJ 0 [0, 1, 2, 3, 4, 5, 6, 7, 8] [0, 0, 0, 0, 0, 0, 0, 0, 0] mixed (by kernel_rfl) ?_
        repeat (refine wXh ?_)
        refine ND_again (t - (j + 1)) _ _ _ (by first | omega | (simp only [List.length_append, List.length_cons, List.length_nil]; omega)) subG subF incF (⟨j + 1, _, by omega, rfl, hs2, rfl, rfl, rfl⟩)
    · have hlr2 := hlr
      rw [show j = ls.length by omega] at hlr2
      have hd := Lr.done hE hlw hlr2 hri hcnt
      repeat (refine wXh ?_)
      refine ND_again (i - (r + 1)) _ _ _ (by first | omega | (simp only [List.length_append, List.length_cons, List.length_nil]; omega)) subG subF incF (⟨r + 1, l', by omega, rfl, hl', hlr.lw, hd, rfl, rfl, rfl⟩)
  obtain rfl : r = i := by omega
  have hfull := Lw.full hcnt
  clear hcnt hlw hri hr hin hends hli
  repeat (refine wXh ?_)
  (refine RD_vals (cs := recs (eI .i64) []) ([]) rfl rfl (by intro v hv; repeat (first | exact absurd hv (List.not_mem_nil) | (rcases List.mem_cons.1 hv with rfl | hv; · rfl))) (by omega) rfl rfl rfl ?_; intro b6; refine ⟨okF, ?_⟩; refine RD_toRow (mm := 0) 1 .here rfl (by omega) ?_)
  repeat (refine wXh ?_)
  refine TD_loop [2, 5] rfl (fun k G M I => ∃ (y : Nat) (q2 : Option Addr) (c2 : Nat) (xs : List Int) (z : Int), y ≤ r ∧ k = r - y ∧ xs = (rg y).map (lb (lo (es ms ls))) ∧ z = (cnt y (fun x => decide (lo (es ms ls) x = x)) : Nat) ∧ G = [(11, .slice q2 xs.length c2), (12, .int .i64 z), (13, .int .i64 y)] ∧ M = .row q2 xs.length c2 (recs (eI .i64) xs) 3 1 :: .blk b (recs (eI .i64) l ++ tl) 3 :: .row q t ct (recs (eI .i64) ls) 3 1 :: M1 ∧ I = slI (some ⟨b2, 0, none⟩) [.int .i64 r, .slice p m c] :: I0) (r) _ _ _ subG subF incF (⟨0, some ⟨b6, 0, none⟩, 0, [], 0, by omega, rfl, rfl, rfl, rfl, rfl, rfl⟩) ?_
  rintro kk G M I ⟨y, q2, c2, xs, z, hy, rfl, hxs, hz, rfl, rfl, rfl⟩
  have hxl : xs.length = y := by rw [hxs, List.length_map, rg_len]
  by_cases hyr : y < r
  · have hcy := cnt_le y (fun x => decide (lo (es ms ls) x = x))
    have hc1 := cnt_succ y (fun x => decide (lo (es ms ls) x = x))
    have hly := hfull y (by omega) (by omega)
    by_cases hroot : lo (es ms ls) y = y
    · rw [if_pos (decide_eq_true hroot)] at hc1
      rw [hroot] at hly
      repeat (refine wXh ?_)
      (refine RD_vals (cs := recs (eI .i64) [z]) ([.int .i64 z]) rfl rfl (by intro v hv; repeat (first | exact absurd hv (List.not_mem_nil) | (rcases List.mem_cons.1 hv with rfl | hv; · rfl))) (by omega) rfl rfl rfl ?_; intro b7; refine ⟨okF, ?_⟩)
      (refine RD_appR (ys := [z]) 1 rfl rfl rfl ?_ (by decide) rfl (by omega) (by omega) rfl rfl ?_; (· first | exact Src.blk memF | exact Src.row memF | exact Src.imm memF (by first | assumption | exact .inl (Ok.mk _ _))); intro a3 c3; refine ⟨okF, ?_⟩)
      repeat (refine wXh ?_)
      refine ND_again (r - (y + 1)) _ _ _ (by first | omega | (simp only [List.length_append, List.length_cons, List.length_nil]; omega)) subG subF incF (⟨y + 1, a3, c3, xs ++ [z], z + 1, by omega, rfl, by rw [rg_succ, hxs, List.map_append, hz, List.map_singleton, lb, hroot]; rfl, by omega, rfl, rfl, rfl⟩)
    · rw [if_neg (by simpa using hroot)] at hc1
      have hle := lo_le (es ms ls) y
      have hrg := lo_rng hE (x := (y : Int)) (by omega)
      have hgx : gt xs (gt l y) = lb (lo (es ms ls)) y := by
        rw [hly, hxs, gt_map (by rw [rg_len]; omega), gt_rg (by omega), lb_root (lo_lo _ _)]
      repeat (refine wXh ?_)
      rw [hgx]
      (refine RD_vals (cs := recs (eI .i64) [lb (lo (es ms ls)) y]) ([.int .i64 (lb (lo (es ms ls)) y)]) rfl rfl (by intro v hv; repeat (first | exact absurd hv (List.not_mem_nil) | (rcases List.mem_cons.1 hv with rfl | hv; · rfl))) (by omega) rfl rfl rfl ?_; intro b7; refine ⟨okF, ?_⟩)
      (refine RD_appR (ys := [lb (lo (es ms ls)) y]) 1 rfl rfl rfl ?_ (by decide) rfl (by omega) (by omega) rfl rfl ?_; (· first | exact Src.blk memF | exact Src.row memF | exact Src.imm memF (by first | assumption | exact .inl (Ok.mk _ _))); intro a3 c3; refine ⟨okF, ?_⟩)
      repeat (refine wXh ?_)
      refine ND_again (r - (y + 1)) _ _ _ (by first | omega | (simp only [List.length_append, List.length_cons, List.length_nil]; omega)) subG subF incF (⟨y + 1, a3, c3, xs ++ [lb (lo (es ms ls)) y], z, by omega, rfl, by rw [rg_succ, hxs, List.map_append, List.map_singleton], by omega, rfl, rfl, rfl⟩)
  · obtain rfl : y = r := by omega
    repeat (refine wXh ?_)
    refine ND_freezeR remF ?_
    rw [hxl, hxs]
    refine ND_ret1 (by first | exact .inl rfl | exact .inr rfl) rfl rfl _ _ subF incF (⟨rfl, q2, c2, rfl, rfl⟩)
end
end Go.Proofs.Ytkhgglkkdnemlaa
namespace Go.Proofs.Ytkhgglkkdnemlaa
open Go Go.Fx
section
variable {X : List Nat} {w0 : World} {M0 : List Ent} {I0 : List Imm}
theorem lighter_ok {p : Option Addr} {n m c : Nat} {ms : List LK} {x y : Int} (hm : ms.length = m) (hm2 : m ≤ 1024) (hx : 0 ≤ x ∧ x < m) (hy : 0 ≤ y ∧ y < m) (hp : slI p (recs eK ms) ∈ I0) :
    CD Try.prog 49 [gv n p m c, .int .i64 x, .int .i64 y] X w0 M0 I0 (fun v M I => M0 = M ∧ I0 = I ∧ v = .bool (B (kl ms x y))) := by
  have hk : kl ms x y ↔ (gt ms x).w < (gt ms y).w ∨ (gt ms x).w = (gt ms y).w ∧ x < y := Iff.rfl
  refine enterD3 Try.func49 rfl Try.ntmps49 rfl ?_
  refine TD_seq ?_
  refine TD_region ?_
  (refine RD_boxA rfl rfl rfl ?_; intro b3; refine ⟨okF, ?_⟩)
  refine RD_freezeB .here ?_
  by_cases h : (gt ms x).w = (gt ms y).w
  · repeat (refine wXh ?_)
    (repeat refine TD_seq ?_); refine TD_drawnJ 0 [0, 1, 2, 3, 4, 5, 6, 7, 8, 9, 10, 11, 12] [0, 0, 0, 0, 0, 0, 0, 0, 0, 0, 0, 0, 0] mixed (by kernel_rfl) ?_
    repeat (refine wXh ?_)
    refine ND_ret1 (by first | exact .inl rfl | exact .inr rfl) rfl rfl _ _ subF incF (⟨rfl, rfl, congrArg Value.bool (B_congr (by rw [hk]; omega))⟩)
  · repeat (refine wXh ?_)
    (repeat refine TD_seq ?_); refine TD_drawnJ 0 [0, 1, 2, 3, 4, 5, 6, 7, 8, 9, 10, 11, 12] [0, 0, 0, 0, 0, 0, 0, 0, 0, 0, 0, 0, 0] mixed (by kernel_rfl) ?_
    repeat (refine wXh ?_)
    (repeat refine TD_seq ?_); refine TD_drawnJ 0 [0, 1, 2, 3, 4, 5, 6, 7, 8, 9, 10, 11, 12, 13] [0, 0, 0, 0, 0, 0, 0, 0, 0, 0, 0, 0, 0, 0] mixed (by kernel_rfl) ?_
    repeat (refine wXh ?_)
    refine ND_ret1 (by first | exact .inl rfl | exact .inr rfl) rfl rfl _ _ subF incF (⟨rfl, rfl, congrArg Value.bool (B_congr (by rw [hk]; omega))⟩)
set_option maxRecDepth 100000 in
set_option maxHeartbeats 2000000 in
theorem rTree_ok {p : Option Addr} {n : Nat} {ms : List LK} {m c : Nat} (hn : n ≤ 256) (hm : ms.length = m) (hm2 : m ≤ 1024) (hg : Gd ms n) (hp : slI p (recs eK ms) ∈ I0) :
    CD Try.prog 17 [gv n p m c] X w0 M0 I0 (fun v M I => M0 = M ∧ ∃ q c', v = .slice q (kt ms).length c' ∧ I = slI q (recs (eI .i64) (kt ms)) :: I0) := by
  refine enterD1 Try.func17 rfl Try.ntmps17 rfl ?_
  refine TD_seq ?_
  refine TD_region ?_
  (refine RD_boxA rfl rfl rfl ?_; intro b1; refine ⟨okF, ?_⟩)
  refine RD_freezeB .here ?_
  repeat (refine wXh ?_)
  (refine RD_callS rfl (every_ok hm2) rfl rfl ?_; rintro _ _ _ ⟨rfl, q, c', rfl, hc', rfl⟩; refine ⟨okF, ?_⟩)
  repeat (refine wXh ?_)
  (refine RD_vals (cs := recs (eI .i64) []) ([]) rfl rfl (by intro v hv; repeat (first | exact absurd hv (List.not_mem_nil) | (rcases List.mem_cons.1 hv with rfl | hv; · rfl))) (by omega) rfl rfl rfl ?_; intro b4; refine ⟨okF, ?_⟩; refine RD_toRow (mm := 0) 1 .here rfl (by omega) ?_)
  repeat (refine wXh ?_)
  have hs0 := Sel.start ms
  rw [hm] at hs0
  have hrl := rg_len m
  refine TD_loop [1] rfl (fun k G M I => ∃ (P L C : List Int) (a a2 : Option Addr) (c1 c2 l : Nat), k = l ∧ L.length = l ∧ Sel ms P L ∧ C = kr ms P ∧ l ≤ c1 ∧ G = [(3, .slice a l c1), (4, .slice a2 C.length c2)] ∧ M = .row a2 C.length c2 (recs (eI .i64) C) 3 1 :: M0 ∧ I = slI a (recs (eI .i64) L) :: slI (some ⟨b1, 0, none⟩) [.int .i64 n, .slice p m c] :: I0) (m) _ _ _ subG subF incF (⟨[], rg m, [], q, some ⟨b4, 0, none⟩, c', 0, m, rfl, hrl, hs0, rfl, hc', rfl, rfl, rfl⟩) ?_
  clear hs0 hrl hc'
  rintro kk G M I ⟨P, L, C, a, a2, c1, c2, _, rfl, rfl, hs, hC, hlc, rfl, rfl, rfl⟩
  have hLl := hs.len
  have hLr := hs.rngL
  have hPr := hs.rngP
  have hCr : inR m C := fun k hk => by
    rw [hC] at hk
    have := hPr k (kr_mem hk)
    rwa [hm] at this
  rw [hm] at hLl hLr hPr
  have hCl : C.length ≤ n := by
    have h2 := forest_size (hg.nds (l := C) (by rw [hm]; exact hCr)) (by rw [hC]; exact kr_fst ms _)
    rw [es_len] at h2
    omega
  by_cases hL0 : 0 < L.length
  · refine TD_fact (φ := Ok a) (fun w hw => (hw.sl (a := a) (cs := recs (eI .i64) L) memF).ok (by rw [recs_len]; omega)) (fun hoa => ?_)
    have hgr : ∀ j : Nat, j < L.length → 0 ≤ gt L j ∧ gt L j < m := fun j hj => hLr _ (gt_in ⟨by omega, by omega⟩)
    repeat (refine wXh ?_)
    refine TD_loop [1, 3, 4, 18] rfl (fun k G M I => ∃ (at_ i : Nat), i ≤ L.length ∧ k = L.length - i ∧ at_ < L.length ∧ (i = 0 → at_ = 0) ∧ (∀ j : Nat, j < i → j ≠ at_ → kl ms (gt L at_) (gt L j)) ∧ G = [(5, .int .i64 at_), (19, .int .i64 i)] ∧ M = .row a2 C.length c2 (recs (eI .i64) C) 3 1 :: M0 ∧ I = slI a (recs (eI .i64) L) :: slI (some ⟨b1, 0, none⟩) [.int .i64 n, .slice p m c] :: I0) (L.length) _ _ _ subG subF incF (⟨0, 0, by omega, rfl, by omega, fun _ => rfl, fun j hj => by omega, rfl, rfl, rfl⟩) ?_
    rintro kk G M I ⟨at_, i, hi, rfl, hat, hz, hmin, rfl, rfl, rfl⟩
    by_cases hiL : i < L.length
    · have hli := fun M0 I0 h => lighter_ok (X := X) (w0 := w0) (M0 := M0) (I0 := I0) (p := p) (n := n) (c := c) (x := gt L i) (y := gt L at_) hm hm2 (hgr i hiL) (hgr at_ hat) h
      by_cases hk : kl ms (gt L i) (gt L at_)
      · rw [B_true hk] at hli
        repeat (refine wXh ?_)
        (repeat refine TD_seq ?_); refine TD_drawnW (M0) (slI a (recs (eI .i64) L) :: slI (some ⟨b1, 0, none⟩) [.int .i64 n, .slice p m c] :: I0) [0, 1, 2, 3, 4, 5, 6, 7, 8, 9] [0, 1, 1, 1, 0, 1, 1, 1, 0, 0] subF incF mixed (by kernel_rfl) ?_
        repeat (refine wXh ?_)
        (refine RD_callS rfl (hli _ _ memF) rfl rfl ?_; rintro _ _ _ ⟨rfl, rfl, rfl⟩; refine ⟨okF, ?_⟩)
        repeat (refine wXh ?_)
        refine ND_again (L.length - (i + 1)) _ _ _ (by first | omega | (simp only [List.length_append, List.length_cons, List.length_nil]; omega)) subG subF incF (⟨i, i + 1, by omega, rfl, hiL, fun h => by omega, fun j hj hne => ?_, rfl, rfl, rfl⟩)
        by_cases e : j = at_
        · rw [e]; exact hk
        · exact kl_trans ms hk (hmin j (by omega) e)
      · rw [B_false hk] at hli
        repeat (refine wXh ?_)
        (repeat refine TD_seq ?_); refine TD_drawnW (M0) (slI a (recs (eI .i64) L) :: slI (some ⟨b1, 0, none⟩) [.int .i64 n, .slice p m c] :: I0) [0, 1, 2, 3, 4, 5, 6, 7, 8, 9] [0, 1, 1, 1, 0, 1, 1, 1, 0, 0] subF incF mixed (by kernel_rfl) ?_
        repeat (refine wXh ?_)
        (refine RD_callS rfl (hli _ _ memF) rfl rfl ?_; rintro _ _ _ ⟨rfl, rfl, rfl⟩; refine ⟨okF, ?_⟩)
        repeat (refine wXh ?_)
        refine ND_again (L.length - (i + 1)) _ _ _ (by first | omega | (simp only [List.length_append, List.length_cons, List.length_nil]; omega)) subG subF incF (⟨at_, i + 1, by omega, rfl, hat, fun h => by omega, fun j hj hne => ?_, rfl, rfl, rfl⟩)
        by_cases e : j = i
        · subst e
          refine kl_tot (fun h => ?_) hk
          rw [gt_get hiL, gt_get hat] at h
          have := List.pairwise_iff_getElem.1 hs.asc
          rcases Nat.lt_or_gt_of_ne hne with h1 | h1
          · have := this _ _ hiL hat h1; omega
          · have := this _ _ hat hiL h1; omega
        · exact hmin j (by omega) hne
    obtain rfl : i = L.length := by omega
    have hnx := hs.next hat hmin
    have hkr : kr ms (P ++ [gt L at_]) = kst ms C (gt L at_) := by rw [kr_snoc, hC]
    obtain ⟨x, hx⟩ : ∃ x, gt L (at_ : Int) = x := ⟨_, rfl⟩
    have hxr := hgr at_ hat
    rw [hx] at hnx hkr hxr
    unfold kst pr at hkr
    dsimp only at hkr
    have hA := hg.a x hxr.1 (by omega)
    have hB := hg.b x hxr.1 (by omega)
    have hiff := labs_iff (hg.nds (l := C) (by rw [hm]; exact hCr)) hA hB
    have hl' : (L.take at_ ++ L.drop (at_ + 1)).length = L.length - 1 := by simp; omega
    have hl1 : (L.take at_).length = at_ := by rw [List.length_take]; omega
    have hl2 : (L.drop (at_ + 1)).length = L.length - (at_ + 1) := by rw [List.length_drop]
    have ho1 : Ok (cutA a c1 0 1) ∨ (at_ = 0 ∧ c1 - 0 = 0) := .inl (okCut hoa)
    have ho2 : Ok (cutA a c1 (at_ + 1) 1) ∨ (L.length - (at_ + 1) = 0 ∧ c1 - (at_ + 1) = 0) := .inl (okCut hoa)
    repeat (refine wXh ?_)
    rw [hx]
    (repeat refine TD_seq ?_); refine TD_drawnW (.row a2 C.length c2 (recs (eI .i64) C) 3 1 :: M0) (slI a (recs (eI .i64) L) :: slI (some ⟨b1, 0, none⟩) [.int .i64 n, .slice p m c] :: I0) [1, 2, 3, 5, 6, 7, 8, 0, 4, 9, 10] [3, 3, 2, 3, 3, 3, 2, 0, 0, 0, 0] subF incF mixed (by kernel_rfl) ?_
    repeat (refine wXh ?_)
    (refine RD_c rfl (fun _ => Const_cut (e := 3) (sz := 1) 0 at_ at_ rfl (.inl ⟨rfl, rfl⟩) (.inr ⟨_, _, _, rfl, rfl, rfl⟩) (by omega) (by omega) (by omega)) rfl rfl ?_)
    repeat (refine wXh ?_)
    (refine RD_c rfl (fun _ => Const_cut (e := 3) (sz := 1) (at_ + 1) L.length (L.length - (at_ + 1)) rfl (.inr ⟨_, _, _, rfl, rfl, by omega⟩) (.inl ⟨rfl, rfl⟩) (by omega) (by omega) (by omega)) rfl rfl ?_)
    refine RD_cutI (enc := eI .i64) (ms := L) c1 0 at_ memF (by omega) ?_
    refine RD_cutI (enc := eI .i64) (ms := L) c1 (at_ + 1) L.length memF (by omega) ?_
    rw [List.drop_zero, List.take_length]
    (refine RD_vals (cs := recs (eI .i64) []) ([]) rfl rfl (by intro v hv; repeat (first | exact absurd hv (List.not_mem_nil) | (rcases List.mem_cons.1 hv with rfl | hv; · rfl))) (by omega) rfl rfl rfl ?_; intro b5; refine ⟨okF, ?_⟩; refine RD_toRow (mm := 0) 1 .here rfl (by omega) ?_)
    (refine RD_appR (xs := []) (ys := L.take at_) 0 rfl rfl rfl (Src.imm memF ho1) (by decide) hl1 (by simp; omega) (by simp; omega) rfl rfl ?_; intro a5 c5; refine ⟨okF, ?_⟩)
    (refine RD_appR (xs := [] ++ L.take at_) (ys := L.drop (at_ + 1)) 0 rfl rfl rfl (Src.imm memF ho2) (by decide) hl2 (by simp; omega) (by simp; omega) rfl rfl ?_; intro a6 c6; refine ⟨okF, ?_⟩)
    rw [List.nil_append]
    have hLc : (L.take at_ ++ L.drop (at_ + 1)).length ≤ 1024 := by omega
    generalize hL' : L.take at_ ++ L.drop (at_ + 1) = L' at *
    repeat (refine wXh ?_)
    refine RD_fact (fun w hw => Mem.rowLe hw) (fun hle => ?_)
    refine RD_freezeR (mm := L'.length) .here ?_
    (refine RD_callS rfl (LabelsR_ok (ls := C) hn hm hm2 hg rfl (by omega) hCr memF rfl) rfl rfl ?_; rintro _ _ _ ⟨rfl, q7, c7, rfl, rfl⟩; refine ⟨okF, ?_⟩)
    have hll := labs_len n (lo (es ms C))
    generalize labs n (lo (es ms C)) = Lb at hiff hll
    obtain ⟨y, hy⟩ : ∃ y, (gt ms x).a = y := ⟨_, rfl⟩
    obtain ⟨z, hz⟩ : ∃ z, (gt ms x).b = z := ⟨_, rfl⟩
    rw [hy] at hA
    rw [hz] at hB
    rw [hy, hz] at hiff hkr
    by_cases hc : gt Lb y = gt Lb z
    · rw [if_pos (lo_iff.2 (hiff.1 hc))] at hkr
      repeat (refine wXh ?_)
      (repeat refine TD_seq ?_); refine TD_drawnW (.row a2 C.length c2 (recs (eI .i64) C) 3 1 :: M0) (slI q7 (recs (eI .i64) Lb) :: slI a6 (recs (eI .i64) L') :: slI (some ⟨b1, 0, none⟩) [.int .i64 n, .slice p m c] :: I0) [0, 1, 2, 3, 4, 5, 6, 7, 8, 9, 10, 11, 12, 13, 14, 15, 16, 17, 18] [0, 0, 0, 0, 0, 0, 0, 0, 0, 0, 0, 0, 0, 0, 0, 0, 0, 0, 0] subF incF mixed (by kernel_rfl) ?_
      repeat (refine wXh ?_)
      rw [hy]
      repeat (refine wXh ?_)
      rw [hz]
      repeat (refine wXh ?_)
      refine ND_again (L.length - 1) _ _ _ (by first | omega | (simp only [List.length_append, List.length_cons, List.length_nil]; omega)) subG subF incF (⟨P ++ [x], L', C, a6, a2, c6, c2, L'.length, hl'.symm, rfl, hnx, hkr.symm, hle, rfl, rfl, rfl⟩)
    · rw [if_neg (fun h => hc (hiff.2 (lo_iff.1 h)))] at hkr
      repeat (refine wXh ?_)
      (repeat refine TD_seq ?_); refine TD_drawnW (.row a2 C.length c2 (recs (eI .i64) C) 3 1 :: M0) (slI q7 (recs (eI .i64) Lb) :: slI a6 (recs (eI .i64) L') :: slI (some ⟨b1, 0, none⟩) [.int .i64 n, .slice p m c] :: I0) [0, 1, 2, 3, 4, 5, 6, 7, 8, 9, 10, 11, 12, 13, 14, 15, 16, 17, 18] [0, 0, 0, 0, 0, 0, 0, 0, 0, 0, 0, 0, 0, 0, 0, 0, 0, 0, 0] subF incF mixed (by kernel_rfl) ?_
      repeat (refine wXh ?_)
      rw [hy]
      repeat (refine wXh ?_)
      rw [hz]
      repeat (refine wXh ?_)
      (refine RD_vals (cs := recs (eI .i64) [x]) ([.int .i64 x]) rfl rfl (by intro v hv; repeat (first | exact absurd hv (List.not_mem_nil) | (rcases List.mem_cons.1 hv with rfl | hv; · rfl))) (by omega) rfl rfl rfl ?_; intro b8; refine ⟨okF, ?_⟩)
      (refine RD_appR (ys := [x]) 1 rfl rfl rfl ?_ (by decide) rfl (by omega) (by omega) rfl rfl ?_; (· first | exact Src.blk memF | exact Src.row memF | exact Src.imm memF (by first | assumption | exact .inl (Ok.mk _ _))); intro a9 c9; refine ⟨okF, ?_⟩)
      repeat (refine wXh ?_)
      refine ND_again (L.length - 1) _ _ _ (by first | omega | (simp only [List.length_append, List.length_cons, List.length_nil]; omega)) subG subF incF (⟨P ++ [x], L', C ++ [x], a6, a9, c6, c9, L'.length, hl'.symm, rfl, hnx, hkr.symm, hle, rfl, rfl, rfl⟩)
  obtain rfl : L = [] := List.eq_nil_of_length_eq_zero (by omega)
  have hP := hs.done
  rw [hP] at hC
  have hkt : kt ms = (rg m).filter (fun k => decide (k ∈ C)) := by rw [kt, hm, hC]
  repeat (refine wXh ?_)
  refine RD_freezeR (mm := C.length) .here ?_
  (refine RD_vals (cs := recs (eI .i64) []) ([]) rfl rfl (by intro v hv; repeat (first | exact absurd hv (List.not_mem_nil) | (rcases List.mem_cons.1 hv with rfl | hv; · rfl))) (by omega) rfl rfl rfl ?_; intro b9; refine ⟨okF, ?_⟩; refine RD_toRow (mm := 0) 1 .here rfl (by omega) ?_)
  repeat (refine wXh ?_)
  refine TD_loop [4, 77] rfl (fun k G M I => ∃ (i : Nat) (xs : List Int) (a3 : Option Addr) (c3 : Nat), i ≤ m ∧ k = m - i ∧ xs = (rg i).filter (fun k => decide (k ∈ C)) ∧ G = [(9, .slice a3 xs.length c3), (78, .int .i64 i)] ∧ M = .row a3 xs.length c3 (recs (eI .i64) xs) 3 1 :: M0 ∧ I = slI a2 (recs (eI .i64) C) :: slI (some ⟨b1, 0, none⟩) [.int .i64 n, .slice p m c] :: I0) (m) _ _ _ subG subF incF (⟨0, [], some ⟨b9, 0, none⟩, 0, by omega, rfl, rfl, rfl, rfl, rfl⟩) ?_
  rintro kk G M I ⟨i, xs, a3, c3, hi, rfl, hxs, rfl, rfl, rfl⟩
  have hxl : xs.length ≤ i := by
    rw [hxs]
    have := List.length_filter_le (fun k => decide (k ∈ C)) (rg i)
    rwa [rg_len] at this
  by_cases him : i < m
  · have hco := fun M0 I0 h => rcontains_ok (X := X) (w0 := w0) (M0 := M0) (I0 := I0) (q := a2) (ls := C) (x := (i : Int)) (t := C.length) (c := c2) rfl (by omega) h
    have hsn : (rg (i + 1)).filter (fun k => decide (k ∈ C)) = xs ++ (if (i : Int) ∈ C then [(i : Int)] else []) := by
      rw [rg_succ, List.filter_append, ← hxs]
      congr 1
      by_cases h : (i : Int) ∈ C
      · rw [if_pos h, List.filter_cons_of_pos (p := fun k => decide (k ∈ C)) (decide_eq_true h)]; rfl
      · rw [if_neg h, List.filter_cons_of_neg (p := fun k => decide (k ∈ C)) (by simpa using h)]; rfl
    by_cases h : (i : Int) ∈ C
    · rw [if_pos h] at hsn
      rw [B_true h] at hco
      repeat (refine wXh ?_)
      (refine RD_callS rfl (hco _ _ memF) rfl rfl ?_; rintro _ _ _ ⟨rfl, rfl, rfl⟩; refine ⟨okF, ?_⟩)
      repeat (refine wXh ?_)
      (refine RD_vals (cs := recs (eI .i64) [(i : Int)]) ([.int .i64 (i : Int)]) rfl rfl (by intro v hv; repeat (first | exact absurd hv (List.not_mem_nil) | (rcases List.mem_cons.1 hv with rfl | hv; · rfl))) (by omega) rfl rfl rfl ?_; intro b8; refine ⟨okF, ?_⟩)
      (refine RD_appR (ys := [(i : Int)]) 1 rfl rfl rfl ?_ (by decide) rfl (by omega) (by omega) rfl rfl ?_; (· first | exact Src.blk memF | exact Src.row memF | exact Src.imm memF (by first | assumption | exact .inl (Ok.mk _ _))); intro a4 c4; refine ⟨okF, ?_⟩)
      repeat (refine wXh ?_)
      refine ND_again (m - (i + 1)) _ _ _ (by first | omega | (simp only [List.length_append, List.length_cons, List.length_nil]; omega)) subG subF incF (⟨i + 1, xs ++ [(i : Int)], a4, c4, by omega, rfl, hsn.symm, rfl, rfl, rfl⟩)
    · rw [if_neg h, List.append_nil] at hsn
      rw [B_false h] at hco
      repeat (refine wXh ?_)
      (refine RD_callS rfl (hco _ _ memF) rfl rfl ?_; rintro _ _ _ ⟨rfl, rfl, rfl⟩; refine ⟨okF, ?_⟩)
      repeat (refine wXh ?_)
      refine ND_again (m - (i + 1)) _ _ _ (by first | omega | (simp only [List.length_append, List.length_cons, List.length_nil]; omega)) subG subF incF (⟨i + 1, xs, a3, c3, by omega, rfl, hsn.symm, rfl, rfl, rfl⟩)
  · obtain rfl : i = m := by omega
    rw [← hkt] at hxs
    subst hxs
    repeat (refine wXh ?_)
    refine ND_freezeR remF ?_
    refine ND_ret1 (by first | exact .inl rfl | exact .inr rfl) rfl rfl _ _ subF incF (⟨rfl, a3, c3, rfl, rfl⟩)
end
end Go.Proofs.Ytkhgglkkdnemlaa

/- Plain: the rounds of the document's numbering. Forest: components, of the program and of the document. Plain: the codes of forests. Forest: forests of both, spanning, weights. Forest: the codes of forests. -/
import Derived.Test.YtkhgglkkdnemlaaZgai
set_option linter.unusedSimpArgs false
set_option linter.unusedVariables false
namespace Go.Proofs.Ytkhgglkkdnemlaa
open Go Go.Fx
/-- within a round: lists of numbers, the first j links done -/
structure Lr (n : Nat) (E : List (Int × Int)) (l l' : List Int) (ms : List LK) (ls : List Int) (j : Nat) : Prop where
  len : l'.length = n
  lw : Lw n E (gt l')
  dec : ∀ x : Int, 0 ≤ x → x < n → gt l' x ≤ gt l x
  lk : ∀ i : Nat, i < j → gt l' (gt ms (gt ls i)).a ≤ gt l (gt ms (gt ls i)).b ∧ gt l' (gt ms (gt ls i)).b ≤ gt l (gt ms (gt ls i)).a
theorem Lr.step {n : Nat} {E : List (Int × Int)} {l l' l2 : List Int} {ms : List LK} {ls : List Int} {j : Nat} {a b : Int} (h : Lr n E l l' ms ls j) (hn : ∀ i : Nat, i ≤ j → (0 ≤ (gt ms (gt ls i)).a ∧ (gt ms (gt ls i)).a < n) ∧ (0 ≤ (gt ms (gt ls i)).b ∧ (gt ms (gt ls i)).b < n))
    (ea : (gt ms (gt ls j)).a = a) (eb : (gt ms (gt ls j)).b = b) (hE : (a, b) ∈ E) (hl : l2.length = n) (hs : ∀ x : Int, 0 ≤ x → x < n → gt l2 x = if x = a ∨ x = b then min (gt l' a) (gt l' b) else gt l' x) : Lr n E l l2 ms ls (j + 1) := by
  have hnj := hn j (Nat.le_refl _)
  rw [ea, eb] at hnj
  obtain ⟨ha, hb⟩ := hnj
  have hlab := lo_link hE
  dsimp only at hlab
  have la := h.lw.ge a ha.1 ha.2
  have lb := h.lw.ge b hb.1 hb.2
  have ua := h.lw.le a ha.1 ha.2
  have ub := h.lw.le b hb.1 hb.2
  have dec2 : ∀ x : Int, 0 ≤ x → x < n → gt l2 x ≤ gt l' x := fun x h0 hx => by
    rw [hs x h0 hx]
    split
    · rename_i e
      rcases e with e | e <;> subst e <;> omega
    · exact Int.le_refl _
  refine ⟨hl, ⟨fun x h0 hx => Int.le_trans (dec2 x h0 hx) (h.lw.le x h0 hx), fun x h0 hx => ?_⟩, fun x h0 hx => Int.le_trans (dec2 x h0 hx) (h.dec x h0 hx), fun i hi => ?_⟩
  · rw [hs x h0 hx]
    split
    · rename_i e
      rcases e with e | e <;> subst e <;> omega
    · exact h.lw.ge x h0 hx
  · obtain ⟨q1, q2⟩ := hn i (by omega)
    by_cases e : i = j
    · subst e
      rw [ea, eb, hs a ha.1 ha.2, hs b hb.1 hb.2, if_pos (.inl rfl), if_pos (.inr rfl)]
      have := h.dec a ha.1 ha.2
      have := h.dec b hb.1 hb.2
      omega
    · have := h.lk i (by omega)
      have := dec2 _ q1.1 q1.2
      have := dec2 _ q2.1 q2.2
      omega
theorem Lr.start {n : Nat} {E : List (Int × Int)} {l : List Int} {ms : List LK} {ls : List Int} (hl : l.length = n) (h : Lw n E (gt l)) : Lr n E l l ms ls 0 := ⟨hl, h, fun _ _ _ => Int.le_refl _, fun i hi => by omega⟩
theorem Lr.done {n : Nat} {l l' : List Int} {ms : List LK} {ls : List Int} (hE : Nds n (es ms ls)) (hl : Lw n (es ms ls) (gt l)) (h : Lr n (es ms ls) l l' ms ls ls.length) {t : Nat} (ht : t < n) (hc : t ≤ cnt n (atL (es ms ls) (gt l))) : t + 1 ≤ cnt n (atL (es ms ls) (gt l')) := by
  have := Lw.round hE hl h.lw h.dec (fun e he => by
    obtain ⟨k, hk, rfl⟩ := List.mem_map.1 he
    obtain ⟨i, hi, rfl⟩ := List.mem_iff_getElem.1 hk
    have := h.lk i hi
    rw [gt_get hi] at this
    exact this) (Nat.le_of_lt ht) hc
  omega
theorem lw_rg {n : Nat} {E : List (Int × Int)} (hE : Nds n E) : Lw n E (gt (rg n)) := ⟨fun x h0 hx => by rw [gt_rg ⟨h0, hx⟩]; exact Int.le_refl _, fun x h0 hx => by rw [gt_rg ⟨h0, hx⟩]; exact lo_le E x⟩
end Go.Proofs.Ytkhgglkkdnemlaa
namespace Go.Proofs.Ytkhgglkkdnemlaa
open Go Go.Fx
theorem Mem.rowLe {X : List Nat} {w0 w : World} {M : List Ent} {I : List Imm} {a : Option Addr} {mm c : Nat} {cs : List Value} {e : TypeId} {sz : Nat} (h : Mem X w0 (.row a mm c cs e sz :: M) I w) : mm ≤ c := by
  rcases h.rowBlk with ⟨_, h1, _⟩ | ⟨_, _, _, h1, _⟩
  · omega
  · exact h1
section
variable {X : List Nat} {w0 : World} {M0 : List Ent} {I0 : List Imm}
set_option maxRecDepth 100000 in
set_option maxHeartbeats 2000000 in
theorem Labels0_ok {p q : Option Addr} {f : Int → Int} {m c t ct : Nat} (ht2 : t ≤ 100000) :
    CD Try.prog 50 [gv (0 : Nat) p m c, .slice q t ct] X w0 M0 I0 (fun v M I => M0 = M ∧ ∃ q' c', v = .slice q' 0 c' ∧ I = slI q' (recs (eI .i64) (labs 0 f)) :: I0) := by
  refine enterD2 Try.func50 rfl Try.ntmps50 rfl ?_
  refine TD_seq ?_
  refine TD_region ?_
  (refine RD_boxA rfl rfl rfl ?_; intro b2; refine ⟨okF, ?_⟩)
  refine RD_freezeB .here ?_
  repeat (refine wXh ?_)
  (refine RD_vals (cs := recs (eI .i64) []) ([]) rfl rfl (by intro v hv; repeat (first | exact absurd hv (List.not_mem_nil) | (rcases List.mem_cons.1 hv with rfl | hv; · rfl))) (by omega) rfl rfl rfl ?_; intro b5; refine ⟨okF, ?_⟩; refine RD_toRow (mm := 0) 1 .here rfl (by omega) ?_)
  repeat (refine wXh ?_)
  refine TD_loop [1, 2] rfl (fun k G M I => k = 0 ∧ G = [(5, .slice (some ⟨b5, 0, none⟩) 0 0), (6, .int .i64 (0 : Nat))] ∧ M0 = M ∧ I = slI (some ⟨b2, 0, none⟩) [.int .i64 (0 : Nat), .slice p m c] :: I0) (0) _ _ _ subG subF incF (⟨rfl, rfl, rfl, rfl⟩) ?_
  rintro kk G M I ⟨rfl, rfl, rfl, rfl⟩
  repeat (refine wXh ?_)
  refine TD_loop [1, 2, 5, 26] rfl (fun k G M I => k = 0 ∧ G = [(27, .int .i64 (0 : Nat))] ∧ M0 = M ∧ I = slI (some ⟨b2, 0, none⟩) [.int .i64 (0 : Nat), .slice p m c] :: I0) (0) _ _ _ subG subF incF (⟨rfl, rfl, rfl, rfl⟩) ?_
  rintro kk G M I ⟨rfl, rfl, rfl, rfl⟩
  repeat (refine wXh ?_)
  (refine RD_vals (cs := recs (eI .i64) []) ([]) rfl rfl (by intro v hv; repeat (first | exact absurd hv (List.not_mem_nil) | (rcases List.mem_cons.1 hv with rfl | hv; · rfl))) (by omega) rfl rfl rfl ?_; intro b6; refine ⟨okF, ?_⟩; refine RD_toRow (mm := 0) 1 .here rfl (by omega) ?_)
  repeat (refine wXh ?_)
  refine TD_loop [2, 5] rfl (fun k G M I => k = 0 ∧ G = [(11, .slice (some ⟨b6, 0, none⟩) 0 0), (12, .int .i64 (0 : Nat)), (13, .int .i64 (0 : Nat))] ∧ M = .row (some ⟨b6, 0, none⟩) 0 0 (recs (eI .i64) []) 3 1 :: M0 ∧ I = slI (some ⟨b2, 0, none⟩) [.int .i64 (0 : Nat), .slice p m c] :: I0) (0) _ _ _ subG subF incF (⟨rfl, rfl, rfl, rfl⟩) ?_
  rintro kk G M I ⟨rfl, rfl, rfl, rfl⟩
  repeat (refine wXh ?_)
  refine ND_freezeR remF ?_
  refine ND_ret1 (by first | exact .inl rfl | exact .inr rfl) rfl rfl _ _ subF incF (⟨rfl, some ⟨b6, 0, none⟩, 0, rfl, rfl⟩)
set_option maxRecDepth 100000 in
set_option maxHeartbeats 4000000 in
theorem Labels_ok {p q : Option Addr} {n : Nat} {ms : List LK} {ls : List Int} {m c t ct : Nat} (hn : n ≤ 256) (hm : ms.length = m) (hm2 : m ≤ 1024) (hg : Gd ms n) (ht : ls.length = t) (ht2 : t ≤ 100000) (hls : ∀ k ∈ ls, 0 ≤ k ∧ k < m) (hp : slI p (recs eK ms) ∈ I0) (hq : slI q (recs (eI .i64) ls) ∈ I0) :
    CD Try.prog 50 [gv n p m c, .slice q t ct] X w0 M0 I0 (fun v M I => M0 = M ∧ ∃ q' c', v = .slice q' n c' ∧ I = slI q' (recs (eI .i64) (labs n (lo (es ms ls)))) :: I0) := by
  by_cases hn0 : n = 0
  · subst hn0
    exact Labels0_ok ht2
  have hE : Nds n (es ms ls) := hg.nds (by rw [hm]; exact hls)
  have hli : ∀ i : Nat, i < t → 0 ≤ gt ls i ∧ gt ls i < m := fun i hi => by rw [gt_get (by omega)]; exact hls _ (List.getElem_mem _)
  have hends : ∀ i : Nat, i < t → (0 ≤ (gt ms (gt ls i)).a ∧ (gt ms (gt ls i)).a < n) ∧ (0 ≤ (gt ms (gt ls i)).b ∧ (gt ms (gt ls i)).b < n) := fun i hi => ⟨hg.a _ (hli i hi).1 (by have := (hli i hi).2; omega), hg.b _ (hli i hi).1 (by have := (hli i hi).2; omega)⟩
  have hin : ∀ i : Nat, i < t → ((gt ms (gt ls i)).a, (gt ms (gt ls i)).b) ∈ es ms ls := fun i hi => List.mem_map_of_mem (f := pr ms) (gt_in (ms := ls) (i := (i : Int)) (by omega))
  refine enterD2 Try.func50 rfl Try.ntmps50 rfl ?_
  refine TD_seq ?_
  refine TD_region ?_
  (refine RD_boxA rfl rfl rfl ?_; intro b2; refine ⟨okF, ?_⟩)
  refine RD_freezeB .here ?_
  repeat (refine wXh ?_)
  (refine RD_vals (cs := recs (eI .i64) []) ([]) rfl rfl (by intro v hv; repeat (first | exact absurd hv (List.not_mem_nil) | (rcases List.mem_cons.1 hv with rfl | hv; · rfl))) (by omega) rfl rfl rfl ?_; intro b5; refine ⟨okF, ?_⟩; refine RD_toRow (mm := 0) 1 .here rfl (by omega) ?_)
  repeat (refine wXh ?_)
  refine TD_loop [1, 2] rfl (fun k G M I => ∃ (i : Nat) (q : Option Addr) (c' : Nat) (xs : List Int), i ≤ n ∧ k = n - i ∧ xs = rg i ∧ G = [(5, .slice q xs.length c'), (6, .int .i64 i)] ∧ M = .row q xs.length c' (recs (eI .i64) xs) 3 1 :: M0 ∧ I = slI (some ⟨b2, 0, none⟩) [.int .i64 n, .slice p m c] :: I0) (n) _ _ _ subG subF incF (⟨0, some ⟨b5, 0, none⟩, 0, [], by omega, rfl, rfl, rfl, rfl, rfl⟩) ?_
  rintro kk G M I ⟨i, a, c', xs, hi, rfl, hxs, rfl, rfl, rfl⟩
  have hxl : xs.length = i := by rw [hxs, rg_len]
  by_cases him : i < n
  · repeat (refine wXh ?_)
    (refine RD_vals (cs := recs (eI .i64) [(i : Int)]) ([.int .i64 (i : Int)]) rfl rfl (by intro v hv; repeat (first | exact absurd hv (List.not_mem_nil) | (rcases List.mem_cons.1 hv with rfl | hv; · rfl))) (by omega) rfl rfl rfl ?_; intro b4; refine ⟨okF, ?_⟩)
    (refine RD_appR (ys := [(i : Int)]) 1 rfl rfl rfl ?_ (by decide) rfl (by omega) (by omega) rfl rfl ?_; (· first | exact Src.blk memF | exact Src.row memF | exact Src.imm memF (by first | assumption | exact .inl (Ok.mk _ _))); intro a2 c2; refine ⟨okF, ?_⟩)
    repeat (refine wXh ?_)
    refine ND_again (n - (i + 1)) _ _ _ (by first | omega | (simp only [List.length_append, List.length_cons, List.length_nil]; omega)) subG subF incF (⟨i + 1, a2, c2, xs ++ [(i : Int)], by omega, rfl, by rw [rg_succ, hxs], rfl, rfl, rfl⟩)
  obtain rfl : i = n := by omega
  clear him hi
  rw [hxl, hxs]
  clear hxl hxs xs
  repeat (refine wXh ?_)
  refine TD_rowBlk (fun _ h _ => absurd h hn0) (fun b tl e hcc => ?_)
  subst e
  refine TD_loop [1, 2, 5, 26] rfl (fun k G M I => ∃ (r : Nat) (l : List Int), r ≤ i ∧ k = i - r ∧ l.length = i ∧ Lw i (es ms ls) (gt l) ∧ r ≤ cnt i (atL (es ms ls) (gt l)) ∧ G = [(27, .int .i64 r)] ∧ M = .blk b (recs (eI .i64) l ++ tl) 3 :: M0 ∧ I = slI (some ⟨b2, 0, none⟩) [.int .i64 i, .slice p m c] :: I0) (i) _ _ _ subG subF incF (⟨0, rg i, by omega, rfl, rg_len i, lw_rg hE, Nat.zero_le _, rfl, rfl, rfl⟩) ?_
  rintro kk G M I ⟨r, l, hr, rfl, hl, hlw, hcnt, rfl, rfl, rfl⟩
  by_cases hri : r < i
  · repeat (refine wXh ?_)
    refine TD_loop [1, 2, 5, 26, 27, 29, 30] rfl (fun k G M I => ∃ (j : Nat) (l' : List Int), j ≤ t ∧ k = t - j ∧ Lr i (es ms ls) l l' ms ls j ∧ G = [(31, .int .i64 j)] ∧ M = .blk b (recs (eI .i64) l' ++ tl) 3 :: M0 ∧ I = slI (some ⟨b2, 0, none⟩) [.int .i64 i, .slice p m c] :: I0) (t) _ _ _ subG subF incF (⟨0, l, by omega, rfl, Lr.start hl hlw, rfl, rfl, rfl⟩) ?_
    rintro kk G M I ⟨j, l', hj, rfl, hlr, rfl, rfl, rfl⟩
    have hl' := hlr.len
    by_cases hjt : j < t
    · have hjj := hli j hjt
      have hinj := hin j hjt
      obtain ⟨ra, rb⟩ := hends j hjt
      obtain ⟨x, hx⟩ : ∃ x, gt ls (j : Int) = x := ⟨_, rfl⟩
      obtain ⟨A, hA⟩ : ∃ A, (gt ms x).a = A := ⟨_, rfl⟩
      obtain ⟨D, hD⟩ : ∃ D, (gt ms x).b = D := ⟨_, rfl⟩
      have hstep := fun (l2 : List Int) h1 h2 => hlr.step (l2 := l2) (a := A) (b := D) (fun i hi => hends i (by omega)) (by rw [hx, hA]) (by rw [hx, hD]) (by rw [hx, hA, hD] at hinj; exact hinj) h1 h2
      rw [hx, hA] at ra
      rw [hx, hD] at rb
      rw [hx] at hjj
      repeat (refine wXh ?_)
      rw [hx]
      (repeat refine TD_seq ?_); refine TD_drawnJ 0 [0, 1, 2, 3, 4, 5, 6, 7, 8, 9, 10, 11, 12, 13] [0, 0, 0, 0, 0, 0, 0, 0, 0, 0, 0, 0, 0, 0] mixed (by kernel_rfl) ?_
      repeat (refine wXh ?_)
      rw [hA, hD]
      (repeat refine TD_seq ?_); refine TD_drawnJ 0 [0, 1, 2, 3, 4, 5, 6, 7, 8] [0, 0, 0, 0, 0, 0, 0, 0, 0] mixed (by kernel_rfl) ?_
      have hne : ∀ y : Int, gt l' A ≠ gt l' D → A ≠ D := fun y h e => h (by rw [e])
      rcases Int.lt_trichotomy (gt l' A) (gt l' D) with h1 | h1 | h1
      · have hAD := hne 0 (by omega)
        have g1 : gt (st l' D (gt l' A)) D = gt l' A := by rw [gt_st _ (by omega) rb.1, if_pos rfl]
        have g2 : gt (st l' D (gt l' A)) A = gt l' A := by rw [gt_st _ (by omega) ra.1, if_neg hAD]
        have hl2 : (st l' D (gt l' A)).length = i := by rw [st_len, hl']
        have hs2 := hstep (st l' D (gt l' A)) hl2 (fun y y0 yn => by
          rw [gt_st _ (by omega) y0]
          by_cases e1 : y = D
          · rw [if_pos e1, if_pos (.inr e1)]; omega
          · rw [if_neg e1]
            by_cases e2 : y = A
            · rw [if_pos (.inl e2), e2]; omega
            · rw [if_neg (by omega)])
        repeat (refine wXh ?_)
        (repeat refine TD_seq ?_); refine TD_drawnJ 0 [0, 1, 2, 3, 4, 5, 6, 7, 8] [0, 0, 0, 0, 0, 0, 0, 0, 0] mixed (by kernel_rfl) ?_
        repeat (refine wXh ?_)
        refine ND_again (t - (j + 1)) _ _ _ (by first | omega | (simp only [List.length_append, List.length_cons, List.length_nil]; omega)) subG subF incF (⟨j + 1, _, by omega, rfl, hs2, rfl, rfl, rfl⟩)
      · have hs2 := hstep l' hl' (fun y y0 yn => by
          by_cases e1 : y = A
          · rw [if_pos (.inl e1), e1]; omega
          · by_cases e2 : y = D
            · rw [if_pos (.inr e2), e2]; omega
            · rw [if_neg (by omega)])
        repeat (refine wXh ?_)
        (repeat refine TD_seq ?_); refine TD_drawnJ 0 [0, 1, 2, 3, 4, 5, 6, 7, 8] [0, 0, 0, 0, 0, 0, 0, 0, 0] mixed (by kernel_rfl) ?_
        repeat (refine wXh ?_)
        refine ND_again (t - (j + 1)) _ _ _ (by first | omega | (simp only [List.length_append, List.length_cons, List.length_nil]; omega)) subG subF incF (⟨j + 1, _, by omega, rfl, hs2, rfl, rfl, rfl⟩)
      · have hAD := hne 0 (by omega)
        have hl2 : (st l' A (gt l' D)).length = i := by rw [st_len, hl']
        have hs2 := hstep (st l' A (gt l' D)) hl2 (fun y y0 yn => by
          rw [gt_st _ (by omega) y0]
          by_cases e1 : y = A
          · rw [if_pos e1, if_pos (.inl e1)]; omega
          · rw [if_neg e1]
            by_cases e2 : y = D
            · rw [if_pos (.inr e2), e2]; omega
            · rw [if_neg (by omega)])
        repeat (refine wXh ?_)
        (repeat refine TD_seq ?_); refine TD_drawnJ 0 [0, 1, 2, 3, 4, 5, 6, 7, 8] [0, 0, 0, 0, 0, 0, 0, 0, 0] mixed (by kernel_rfl) ?_
        repeat (refine wXh ?_)
        refine ND_again (t - (j + 1)) _ _ _ (by first | omega | (simp only [List.length_append, List.length_cons, List.length_nil]; omega)) subG subF incF (⟨j + 1, _, by omega, rfl, hs2, rfl, rfl, rfl⟩)
    · have hlr2 := hlr
      rw [show j = ls.length by omega] at hlr2
      have hd := Lr.done hE hlw hlr2 hri hcnt
      repeat (refine wXh ?_)
      refine ND_again (i - (r + 1)) _ _ _ (by first | omega | (simp only [List.length_append, List.length_cons, List.length_nil]; omega)) subG subF incF (⟨r + 1, l', by omega, rfl, hl', hlr.lw, hd, rfl, rfl, rfl⟩)
  obtain rfl : r = i := by omega
  have hfull := Lw.full hcnt
  clear hcnt hlw hri hr hin hends hli
  repeat (refine wXh ?_)
  (refine RD_vals (cs := recs (eI .i64) []) ([]) rfl rfl (by intro v hv; repeat (first | exact absurd hv (List.not_mem_nil) | (rcases List.mem_cons.1 hv with rfl | hv; · rfl))) (by omega) rfl rfl rfl ?_; intro b6; refine ⟨okF, ?_⟩; refine RD_toRow (mm := 0) 1 .here rfl (by omega) ?_)
  repeat (refine wXh ?_)
  refine TD_loop [2, 5] rfl (fun k G M I => ∃ (y : Nat) (q2 : Option Addr) (c2 : Nat) (xs : List Int) (z : Int), y ≤ r ∧ k = r - y ∧ xs = (rg y).map (lb (lo (es ms ls))) ∧ z = (cnt y (fun x => decide (lo (es ms ls) x = x)) : Nat) ∧ G = [(11, .slice q2 xs.length c2), (12, .int .i64 z), (13, .int .i64 y)] ∧ M = .row q2 xs.length c2 (recs (eI .i64) xs) 3 1 :: .blk b (recs (eI .i64) l ++ tl) 3 :: M0 ∧ I = slI (some ⟨b2, 0, none⟩) [.int .i64 r, .slice p m c] :: I0) (r) _ _ _ subG subF incF (⟨0, some ⟨b6, 0, none⟩, 0, [], 0, by omega, rfl, rfl, rfl, rfl, rfl, rfl⟩) ?_
  rintro kk G M I ⟨y, q2, c2, xs, z, hy, rfl, hxs, hz, rfl, rfl, rfl⟩
  have hxl : xs.length = y := by rw [hxs, List.length_map, rg_len]
  by_cases hyr : y < r
  · have hcy := cnt_le y (fun x => decide (lo (es ms ls) x = x))
    have hc1 := cnt_succ y (fun x => decide (lo (es ms ls) x = x))
    have hly := hfull y (by omega) (by omega)
    by_cases hroot : lo (es ms ls) y = y
    · rw [if_pos (decide_eq_true hroot)] at hc1
      rw [hroot] at hly
      repeat (refine wXh ?_)
      (refine RD_vals (cs := recs (eI .i64) [z]) ([.int .i64 z]) rfl rfl (by intro v hv; repeat (first | exact absurd hv (List.not_mem_nil) | (rcases List.mem_cons.1 hv with rfl | hv; · rfl))) (by omega) rfl rfl rfl ?_; intro b7; refine ⟨okF, ?_⟩)
      (refine RD_appR (ys := [z]) 1 rfl rfl rfl ?_ (by decide) rfl (by omega) (by omega) rfl rfl ?_; (· first | exact Src.blk memF | exact Src.row memF | exact Src.imm memF (by first | assumption | exact .inl (Ok.mk _ _))); intro a3 c3; refine ⟨okF, ?_⟩)
      repeat (refine wXh ?_)
      refine ND_again (r - (y + 1)) _ _ _ (by first | omega | (simp only [List.length_append, List.length_cons, List.length_nil]; omega)) subG subF incF (⟨y + 1, a3, c3, xs ++ [z], z + 1, by omega, rfl, by rw [rg_succ, hxs, List.map_append, hz, List.map_singleton, lb, hroot]; rfl, by omega, rfl, rfl, rfl⟩)
    · rw [if_neg (by simpa using hroot)] at hc1
      have hle := lo_le (es ms ls) y
      have hrg := lo_rng hE (x := (y : Int)) (by omega)
      have hgx : gt xs (gt l y) = lb (lo (es ms ls)) y := by
        rw [hly, hxs, gt_map (by rw [rg_len]; omega), gt_rg (by omega), lb_root (lo_lo _ _)]
      repeat (refine wXh ?_)
      rw [hgx]
      (refine RD_vals (cs := recs (eI .i64) [lb (lo (es ms ls)) y]) ([.int .i64 (lb (lo (es ms ls)) y)]) rfl rfl (by intro v hv; repeat (first | exact absurd hv (List.not_mem_nil) | (rcases List.mem_cons.1 hv with rfl | hv; · rfl))) (by omega) rfl rfl rfl ?_; intro b7; refine ⟨okF, ?_⟩)
      (refine RD_appR (ys := [lb (lo (es ms ls)) y]) 1 rfl rfl rfl ?_ (by decide) rfl (by omega) (by omega) rfl rfl ?_; (· first | exact Src.blk memF | exact Src.row memF | exact Src.imm memF (by first | assumption | exact .inl (Ok.mk _ _))); intro a3 c3; refine ⟨okF, ?_⟩)
      repeat (refine wXh ?_)
      refine ND_again (r - (y + 1)) _ _ _ (by first | omega | (simp only [List.length_append, List.length_cons, List.length_nil]; omega)) subG subF incF (⟨y + 1, a3, c3, xs ++ [lb (lo (es ms ls)) y], z, by omega, rfl, by rw [rg_succ, hxs, List.map_append, List.map_singleton], by omega, rfl, rfl, rfl⟩)
  · obtain rfl : y = r := by omega
    repeat (refine wXh ?_)
    refine ND_freezeR remF ?_
    rw [hxl, hxs]
    refine ND_ret1 (by first | exact .inl rfl | exact .inr rfl) rfl rfl _ _ subF incF (⟨rfl, q2, c2, rfl, rfl⟩)
end
end Go.Proofs.Ytkhgglkkdnemlaa
namespace Go.Proofs.Ytkhgglkkdnemlaa
open Go Go.Fx
instance decCon (E : List (Int × Int)) (x y : Int) : Decidable (Con E x y) := decidable_of_iff (lo E x = lo E y) lo_iff
instance decFst : (E F : List (Int × Int)) → Decidable (Fst E F)
  | _, [] => .isTrue trivial
  | E, e :: F => have := decFst (E ++ [e]) F; inferInstanceAs (Decidable (_ ∧ _))
def inR (m : Nat) (tree : List Int) : Prop := ∀ k ∈ tree, 0 ≤ k ∧ k < m
instance (m : Nat) (tree : List Int) : Decidable (inR m tree) := inferInstanceAs (Decidable (∀ k ∈ tree, _))
def asc (tree : List Int) : Prop := tree.Pairwise (· < ·)
instance (tree : List Int) : Decidable (asc tree) := inferInstanceAs (Decidable (List.Pairwise _ _))
def fcode (ms : List LK) (tree : List Int) : Int := if ¬ inR ms.length tree then 2 else if ¬ asc tree then 5 else if ¬ Fst [] (es ms tree) then 11 else 0
theorem take_snoc {α : Type} [Inhabited α] {l : List α} {j : Nat} (h : j < l.length) : l.take (j + 1) = l.take j ++ [gt l (j : Int)] := by
  rw [List.take_succ_eq_append_getElem h, gt_get h]
theorem Fst.left {E F G : List (Int × Int)} (h : Fst E (F ++ G)) : Fst E F := by
  induction F generalizing E with
  | nil => trivial
  | cons d F ih => exact ⟨h.1, ih h.2⟩
theorem es_app (ms : List LK) (a b : List Int) : es ms (a ++ b) = es ms a ++ es ms b := by simp [es]
theorem asc_of {l : List Int} (h : ∀ i : Nat, 0 < i → i < l.length → gt l ((i : Int) - 1) < gt l i) : asc l := by
  induction l with
  | nil => exact List.Pairwise.nil
  | cons a r ih =>
    cases r with
    | nil => exact List.pairwise_singleton _ _
    | cons b r =>
      have h1 := ih (fun i h0 hi => by
        have := h (i + 1) (by omega) (by rw [List.length_cons]; omega)
        rw [show ((i + 1 : Nat) : Int) - 1 = ((i : Nat) : Int) by omega, gt_get (by rw [List.length_cons]; omega), gt_get (by rw [List.length_cons]; omega)] at this
        rw [gt_get hi, show (i : Int) - 1 = ((i - 1 : Nat) : Int) by omega, gt_get (by omega)]
        obtain ⟨j, rfl⟩ : ∃ j, i = j + 1 := ⟨i - 1, by omega⟩
        simpa using this)
      have h2 := h 1 (by omega) (by simp)
      have h2 : a < b := h2
      refine List.Pairwise.cons (fun x hx => ?_) h1
      rcases List.mem_cons.1 hx with e | e
      · omega
      · have := (List.pairwise_cons.1 h1).1 x e
        omega
theorem asc_at {l : List Int} (h : asc l) {i : Nat} (h0 : 0 < i) (hi : i < l.length) : gt l ((i : Int) - 1) < gt l i := by
  rw [gt_get hi, show (i : Int) - 1 = ((i - 1 : Nat) : Int) by omega, gt_get (by omega)]
  exact List.pairwise_iff_getElem.1 h _ _ (by omega) hi (by omega)
theorem fcode_2 {ms : List LK} {tree : List Int} {i : Nat} (hi : i < tree.length) (h : ¬ (0 ≤ gt tree i ∧ gt tree i < ms.length)) : fcode ms tree = 2 := if_pos (fun hr => h (hr _ (gt_in ⟨by omega, by omega⟩)))
theorem inR_of {m : Nat} {tree : List Int} (h : ∀ j : Nat, j < tree.length → 0 ≤ gt tree j ∧ gt tree j < m) : inR m tree := fun k hk => by
  obtain ⟨j, hj, rfl⟩ := List.mem_iff_getElem.1 hk
  have := h j hj
  rwa [gt_get hj] at this
theorem fcode_5 {ms : List LK} {tree : List Int} (hr : inR ms.length tree) {i : Nat} (h0 : 0 < i) (hi : i < tree.length) (h : gt tree i ≤ gt tree ((i : Int) - 1)) : fcode ms tree = 5 := by
  unfold fcode
  rw [if_neg (fun hn => hn hr), if_pos]
  intro ha
  have := asc_at ha h0 hi
  omega
theorem fcode_11 {ms : List LK} {tree : List Int} (hr : inR ms.length tree) (ha : asc tree) {i : Nat} (hi : i < tree.length) (h : Con (es ms (tree.take i)) (gt ms (gt tree i)).a (gt ms (gt tree i)).b) : fcode ms tree = 11 := by
  unfold fcode
  rw [if_neg (fun hn => hn hr), if_neg (fun hn => hn ha), if_pos]
  intro hf
  rw [← List.take_append_drop (i + 1) tree, es_app] at hf
  have h1 := hf.left
  rw [take_snoc hi, es_snoc] at h1
  exact (Fst.snoc.1 h1).2 h
theorem fcode_0 {ms : List LK} {tree : List Int} (hr : inR ms.length tree) (ha : asc tree) (hf : Fst [] (es ms tree)) : fcode ms tree = 0 := by
  unfold fcode
  rw [if_neg (fun hn => hn hr), if_neg (fun hn => hn ha), if_neg (fun hn => hn hf)]
theorem fcode_ok {ms : List LK} {tree : List Int} (h : fcode ms tree = 0) : inR ms.length tree ∧ asc tree ∧ Fst [] (es ms tree) := by
  unfold fcode at h
  split at h
  · omega
  · split at h
    · omega
    · split at h
      · omega
      · rename_i h1 h2 h3
        exact ⟨Decidable.of_not_not h1, Decidable.of_not_not h2, Decidable.of_not_not h3⟩
theorem fst_next {ms : List LK} {tree : List Int} {i : Nat} (hi : i < tree.length) (hf : Fst [] (es ms (tree.take i))) (h : ¬ Con (es ms (tree.take i)) (gt ms (gt tree i)).a (gt ms (gt tree i)).b) : Fst [] (es ms (tree.take (i + 1))) := by
  rw [take_snoc hi, es_snoc]
  exact Fst.snoc.2 ⟨hf, h⟩
/-- spanning -/
def spn (ms : List LK) (tree : List Int) : Prop := ∀ l ∈ ms, lo (es ms tree) l.a = lo (es ms tree) l.b
instance (ms : List LK) (tree : List Int) : Decidable (spn ms tree) := inferInstanceAs (Decidable (∀ l ∈ ms, _))
/-- sums of weights -/
def wsum (ms : List LK) (l : List Int) : Int := sumI (l.map (wt ms))
end Go.Proofs.Ytkhgglkkdnemlaa
namespace Go.Proofs.Ytkhgglkkdnemlaa
open Go Go.Fx
section
variable {X : List Nat} {w0 : World} {M0 : List Ent} {I0 : List Imm}
end
end Go.Proofs.Ytkhgglkkdnemlaa
namespace Go.Proofs.Ytkhgglkkdnemlaa
open Go Go.Fx
section
variable {X : List Nat} {w0 : World} {M0 : List Ent} {I0 : List Imm}
set_option maxRecDepth 100000 in
set_option maxHeartbeats 2000000 in
theorem rForest_ok {p q : Option Addr} {n : Nat} {ms : List LK} {ls : List Int} {m c t ct : Nat} (hn : n ≤ 256) (hm : ms.length = m) (hm2 : m ≤ 1024) (hg : Gd ms n) (ht : ls.length = t) (ht2 : t ≤ 100000) (hct : t ≤ ct) (hp : slI p (recs eK ms) ∈ I0) (hq : slI q (recs (eI .i64) ls) ∈ I0) :
    CD Try.prog 28 [gv n p m c, .slice q t ct] X w0 M0 I0 (fun v M I => M0 = M ∧ I0 = I ∧ v = .int .i64 (fcode ms ls)) := by
  refine enterD2 Try.func28 rfl Try.ntmps28 rfl ?_
  refine TD_seq ?_
  refine TD_region ?_
  (refine RD_boxA rfl rfl rfl ?_; intro b2; refine ⟨okF, ?_⟩)
  refine RD_freezeB .here ?_
  repeat (refine wXh ?_)
  refine TD_loop [1, 2, 11, 12] rfl (fun k G M I => ∃ i : Nat, i ≤ t ∧ k = t - i ∧ (∀ j : Nat, j < i → 0 ≤ gt ls j ∧ gt ls j < m) ∧ G = [(13, .int .i64 i)] ∧ M0 = M ∧ I = slI (some ⟨b2, 0, none⟩) [.int .i64 n, .slice p m c] :: I0) (t) _ _ _ subG subF incF (⟨0, by omega, rfl, fun j hj => by omega, rfl, rfl, rfl⟩) ?_
  rintro kk G M I ⟨i, hi, rfl, hs, rfl, rfl, rfl⟩
  by_cases hit : i < t
  · by_cases h0 : 0 ≤ gt ls i
    · by_cases h1 : gt ls i < m
      · repeat (refine wXh ?_)
        refine ND_again (t - (i + 1)) _ _ _ (by first | omega | (simp only [List.length_append, List.length_cons, List.length_nil]; omega)) subG subF incF (⟨i + 1, by omega, rfl, fun j hj => ?_, rfl, rfl, rfl⟩)
        by_cases e : j = i
        · subst e; exact ⟨h0, h1⟩
        · exact hs j (by omega)
      · repeat (refine wXh ?_)
        refine ND_ret1 (by first | exact .inl rfl | exact .inr rfl) rfl rfl _ _ subF incF (⟨rfl, rfl, by rw [fcode_2 (ms := ms) (tree := ls) (i := i) (by omega) (fun h => h1 (by have := h.2; omega))]⟩)
    · repeat (refine wXh ?_)
      refine ND_ret1 (by first | exact .inl rfl | exact .inr rfl) rfl rfl _ _ subF incF (⟨rfl, rfl, by rw [fcode_2 (ms := ms) (tree := ls) (i := i) (by omega) (fun h => h0 h.1)]⟩)
  have hr : inR m ls := inR_of (fun j hj => hs j (by omega))
  have hr' : inR ms.length ls := by rw [hm]; exact hr
  repeat (refine wXh ?_)
  clear hs hi hit
  refine TD_loop [1, 2, 28] rfl (fun k G M I => ∃ i : Nat, i ≤ t ∧ k = t - i ∧ (∀ j : Nat, 0 < j → j < i → gt ls ((j : Int) - 1) < gt ls j) ∧ G = [(29, .int .i64 i)] ∧ M0 = M ∧ I = slI (some ⟨b2, 0, none⟩) [.int .i64 n, .slice p m c] :: I0) (t) _ _ _ subG subF incF (⟨0, by omega, rfl, fun j h0 hj => by omega, rfl, rfl, rfl⟩) ?_
  rintro kk G M I ⟨i, hi, rfl, hs, rfl, rfl, rfl⟩
  by_cases hit : i < t
  · by_cases h0 : 0 < i
    · by_cases h1 : gt ls ((i : Int) - 1) < gt ls i
      · repeat (refine wXh ?_)
        (repeat refine TD_seq ?_); refine TD_drawnJ 0 [0, 1, 2, 3, 4, 5, 6, 7, 8, 9, 10, 11, 12, 13] [0, 0, 0, 0, 0, 0, 0, 0, 0, 0, 0, 0, 0, 0] mixed (by kernel_rfl) ?_
        repeat (refine wXh ?_)
        refine ND_again (t - (i + 1)) _ _ _ (by first | omega | (simp only [List.length_append, List.length_cons, List.length_nil]; omega)) subG subF incF (⟨i + 1, by omega, rfl, fun j hj0 hj => ?_, rfl, rfl, rfl⟩)
        by_cases e : j = i
        · subst e; exact h1
        · exact hs j hj0 (by omega)
      · repeat (refine wXh ?_)
        (repeat refine TD_seq ?_); refine TD_drawnJ 0 [0, 1, 2, 3, 4, 5, 6, 7, 8, 9, 10, 11, 12, 13] [0, 0, 0, 0, 0, 0, 0, 0, 0, 0, 0, 0, 0, 0] mixed (by kernel_rfl) ?_
        repeat (refine wXh ?_)
        refine ND_ret1 (by first | exact .inl rfl | exact .inr rfl) rfl rfl _ _ subF incF (⟨rfl, rfl, by rw [fcode_5 (ms := ms) (tree := ls) (i := i) hr' h0 (by omega) (by omega)]⟩)
    · repeat (refine wXh ?_)
      (repeat refine TD_seq ?_); refine TD_drawnJ 0 [0, 1, 2, 3, 4, 5, 6, 7, 8, 9, 10, 11, 12, 13] [0, 0, 0, 0, 0, 0, 0, 0, 0, 0, 0, 0, 0, 0] mixed (by kernel_rfl) ?_
      repeat (refine wXh ?_)
      refine ND_again (t - (i + 1)) _ _ _ (by first | omega | (simp only [List.length_append, List.length_cons, List.length_nil]; omega)) subG subF incF (⟨i + 1, by omega, rfl, fun j hj0 hj => by omega, rfl, rfl, rfl⟩)
  have ha : asc ls := asc_of (fun j h0 hj => hs j h0 (by omega))
  repeat (refine wXh ?_)
  clear hs hi hit
  refine TD_loop [1, 2, 47, 48] rfl (fun k G M I => ∃ i : Nat, i ≤ t ∧ k = t - i ∧ Fst [] (es ms (ls.take i)) ∧ G = [(49, .int .i64 i)] ∧ M0 = M ∧ I = slI (some ⟨b2, 0, none⟩) [.int .i64 n, .slice p m c] :: I0) (t) _ _ _ subG subF incF (⟨0, by omega, rfl, trivial, rfl, rfl, rfl⟩) ?_
  rintro kk G M I ⟨i, hi, rfl, hf, rfl, rfl, rfl⟩
  by_cases hit : i < t
  · have hri : 0 ≤ gt ls i ∧ gt ls i < m := hr _ (gt_in ⟨by omega, by omega⟩)
    have hA := hg.a _ hri.1 (by omega)
    have hB := hg.b _ hri.1 (by omega)
    have hrt : inR m (ls.take i) := fun k hk => hr k (List.mem_of_mem_take hk)
    have hlt : (ls.take i).length = i := by rw [List.length_take]; omega
    have hiff := labs_iff (hg.nds (by rw [hm]; exact hrt)) hA hB
    repeat (refine wXh ?_)
    (repeat refine TD_seq ?_); refine TD_drawnW (M0) (slI (some ⟨b2, 0, none⟩) [.int .i64 n, .slice p m c] :: I0) [0, 1, 2, 3, 4, 5] [0, 1, 1, 0, 0, 0] subF incF mixed (by kernel_rfl) ?_
    repeat (refine wXh ?_)
    (refine RD_c rfl (fun _ => Const_cut (e := 3) (sz := 1) 0 i i rfl (.inl ⟨rfl, rfl⟩) (.inr ⟨_, _, _, rfl, rfl, rfl⟩) (by omega) (by omega) (by omega)) rfl rfl ?_)
    refine RD_cutI (enc := eI .i64) (ms := ls) ct 0 i memF (by omega) ?_
    rw [List.drop_zero]
    (refine RD_callS rfl (Labels_ok (ls := ls.take i) hn hm hm2 hg hlt (by omega) hrt memF memF) rfl rfl ?_; rintro _ _ _ ⟨rfl, q1, c1, rfl, rfl⟩; refine ⟨okF, ?_⟩)
    have hl := labs_len n (lo (es ms (ls.take i)))
    generalize labs n (lo (es ms (ls.take i))) = A at hiff hl
    obtain ⟨x, hx⟩ : ∃ x, gt ls (i : Int) = x := ⟨_, rfl⟩
    obtain ⟨y, hy⟩ : ∃ y, (gt ms x).a = y := ⟨_, rfl⟩
    obtain ⟨z, hz⟩ : ∃ z, (gt ms x).b = z := ⟨_, rfl⟩
    rw [hx] at hri
    rw [hx, hy] at hA
    rw [hx, hz] at hB
    rw [hx, hy, hz] at hiff
    have h11 := fun h => fcode_11 (ms := ms) hr' ha (i := i) (by omega) h
    have hnx := fun h => fst_next (ms := ms) (tree := ls) (i := i) (by omega) hf h
    rw [hx, hy, hz] at h11 hnx
    by_cases hc : gt A y = gt A z
    · repeat (refine wXh ?_)
      rw [hx]
      (repeat refine TD_seq ?_); refine TD_drawnJ 0 [0, 1, 2, 3, 4, 5, 6, 7, 8, 9, 10, 11, 12, 13, 14, 15, 16, 17, 18] [0, 0, 0, 0, 0, 0, 0, 0, 0, 0, 0, 0, 0, 0, 0, 0, 0, 0, 0] mixed (by kernel_rfl) ?_
      repeat (refine wXh ?_)
      rw [hy]
      repeat (refine wXh ?_)
      rw [hz]
      repeat (refine wXh ?_)
      refine ND_ret1 (by first | exact .inl rfl | exact .inr rfl) rfl rfl _ _ subF incF (⟨rfl, rfl, by rw [h11 (hiff.1 hc)]⟩)
    · repeat (refine wXh ?_)
      rw [hx]
      (repeat refine TD_seq ?_); refine TD_drawnJ 0 [0, 1, 2, 3, 4, 5, 6, 7, 8, 9, 10, 11, 12, 13, 14, 15, 16, 17, 18] [0, 0, 0, 0, 0, 0, 0, 0, 0, 0, 0, 0, 0, 0, 0, 0, 0, 0, 0] mixed (by kernel_rfl) ?_
      repeat (refine wXh ?_)
      rw [hy]
      repeat (refine wXh ?_)
      rw [hz]
      repeat (refine wXh ?_)
      refine ND_again (t - (i + 1)) _ _ _ (by first | omega | (simp only [List.length_append, List.length_cons, List.length_nil]; omega)) subG subF incF (⟨i + 1, by omega, rfl, hnx (fun h => hc (hiff.2 h)), rfl, rfl, rfl⟩)
  · obtain rfl : i = t := by omega
    rw [List.take_of_length_le (by omega)] at hf
    repeat (refine wXh ?_)
    refine ND_ret1 (by first | exact .inl rfl | exact .inr rfl) rfl rfl _ _ subF incF (⟨rfl, rfl, by rw [fcode_0 hr' ha hf]⟩)
end
end Go.Proofs.Ytkhgglkkdnemlaa

/- Forest: the codes of forests. Forest: the program's checkForest, spans. -/
import Derived.Test.YtkhgglkkdnemlaaZhaj
import Derived.Test.YtkhgglkkdnemlaaZhai
set_option linter.unusedSimpArgs false
set_option linter.unusedVariables false
namespace Go.Proofs.Ytkhgglkkdnemlaa
open Go Go.Fx
section
variable {X : List Nat} {w0 : World} {M0 : List Ent} {I0 : List Imm}
set_option maxRecDepth 100000 in
set_option maxHeartbeats 2000000 in
theorem rForest_ok {p q : Option Addr} {n : Nat} {ms : List LK} {ls : List Int} {m c t ct : Nat} (hn : n ≤ 256) (hm : ms.length = m) (hm2 : m ≤ 1024) (hg : Gd ms n) (ht : ls.length = t) (ht2 : t ≤ 100000) (hct : t ≤ ct) (hp : slI p (recs eK ms) ∈ I0) (hq : slI q (recs (eI .i64) ls) ∈ I0) :
    CD Try.prog 28 [gv n p m c, .slice q t ct] X w0 M0 I0 (fun v M I => M0 = M ∧ I0 = I ∧ v = .int .i64 (fcode ms ls)) := by
  refine enterD2 Try.func28 rfl Try.ntmps28 rfl ?_
  refine TD_seq ?_
  refine TD_region ?_
  (refine RD_boxA rfl rfl rfl ?_; intro b2; refine ⟨okF, ?_⟩)
  refine RD_freezeB .here ?_
  repeat (refine wXh ?_)
  refine TD_loop [1, 2, 11, 12] rfl (fun k G M I => ∃ i : Nat, i ≤ t ∧ k = t - i ∧ (∀ j : Nat, j < i → 0 ≤ gt ls j ∧ gt ls j < m) ∧ G = [(13, .int .i64 i)] ∧ M0 = M ∧ I = slI (some ⟨b2, 0, none⟩) [.int .i64 n, .slice p m c] :: I0) (t) _ _ _ subG subF incF (⟨0, by omega, rfl, fun j hj => by omega, rfl, rfl, rfl⟩) ?_
  rintro kk G M I ⟨i, hi, rfl, hs, rfl, rfl, rfl⟩
  by_cases hit : i < t
  · by_cases h0 : 0 ≤ gt ls i
    · by_cases h1 : gt ls i < m
      · repeat (refine wXh ?_)
        refine ND_again (t - (i + 1)) _ _ _ (by first | omega | (simp only [List.length_append, List.length_cons, List.length_nil]; omega)) subG subF incF (⟨i + 1, by omega, rfl, fun j hj => ?_, rfl, rfl, rfl⟩)
        by_cases e : j = i
        · subst e; exact ⟨h0, h1⟩
        · exact hs j (by omega)
      · repeat (refine wXh ?_)
        refine ND_ret1 (by first | exact .inl rfl | exact .inr rfl) rfl rfl _ _ subF incF (⟨rfl, rfl, by rw [fcode_2 (ms := ms) (tree := ls) (i := i) (by omega) (fun h => h1 (by have := h.2; omega))]⟩)
    · repeat (refine wXh ?_)
      refine ND_ret1 (by first | exact .inl rfl | exact .inr rfl) rfl rfl _ _ subF incF (⟨rfl, rfl, by rw [fcode_2 (ms := ms) (tree := ls) (i := i) (by omega) (fun h => h0 h.1)]⟩)
  have hr : inR m ls := inR_of (fun j hj => hs j (by omega))
  have hr' : inR ms.length ls := by rw [hm]; exact hr
  repeat (refine wXh ?_)
  clear hs hi hit
  refine TD_loop [1, 2, 28] rfl (fun k G M I => ∃ i : Nat, i ≤ t ∧ k = t - i ∧ (∀ j : Nat, 0 < j → j < i → gt ls ((j : Int) - 1) < gt ls j) ∧ G = [(29, .int .i64 i)] ∧ M0 = M ∧ I = slI (some ⟨b2, 0, none⟩) [.int .i64 n, .slice p m c] :: I0) (t) _ _ _ subG subF incF (⟨0, by omega, rfl, fun j h0 hj => by omega, rfl, rfl, rfl⟩) ?_
  rintro kk G M I ⟨i, hi, rfl, hs, rfl, rfl, rfl⟩
  by_cases hit : i < t
  · by_cases h0 : 0 < i
    · by_cases h1 : gt ls ((i : Int) - 1) < gt ls i
      · repeat (refine wXh ?_)
        (repeat refine TD_seq ?_); refine TD_drawnJ 0 [0, 1, 2, 3, 4, 5, 6, 7, 8, 9, 10, 11, 12, 13] [0, 0, 0, 0, 0, 0, 0, 0, 0, 0, 0, 0, 0, 0] mixed (by kernel_rfl) ?_
        repeat (refine wXh ?_)
        refine ND_again (t - (i + 1)) _ _ _ (by first | omega | (simp only [List.length_append, List.length_cons, List.length_nil]; omega)) subG subF incF (⟨i + 1, by omega, rfl, fun j hj0 hj => ?_, rfl, rfl, rfl⟩)
        by_cases e : j = i
        · subst e; exact h1
        · exact hs j hj0 (by omega)
      · repeat (refine wXh ?_)
        (repeat refine TD_seq ?_); refine TD_drawnJ 0 [0, 1, 2, 3, 4, 5, 6, 7, 8, 9, 10, 11, 12, 13] [0, 0, 0, 0, 0, 0, 0, 0, 0, 0, 0, 0, 0, 0] mixed (by kernel_rfl) ?_
        repeat (refine wXh ?_)
        refine ND_ret1 (by first | exact .inl rfl | exact .inr rfl) rfl rfl _ _ subF incF (⟨rfl, rfl, by rw [fcode_5 (ms := ms) (tree := ls) (i := i) hr' h0 (by omega) (by omega)]⟩)
    · repeat (refine wXh ?_)
      (repeat refine TD_seq ?_); refine TD_drawnJ 0 [0, 1, 2, 3, 4, 5, 6, 7, 8, 9, 10, 11, 12, 13] [0, 0, 0, 0, 0, 0, 0, 0, 0, 0, 0, 0, 0, 0] mixed (by kernel_rfl) ?_
      repeat (refine wXh ?_)
      refine ND_again (t - (i + 1)) _ _ _ (by first | omega | (simp only [List.length_append, List.length_cons, List.length_nil]; omega)) subG subF incF (⟨i + 1, by omega, rfl, fun j hj0 hj => by omega, rfl, rfl, rfl⟩)
  have ha : asc ls := asc_of (fun j h0 hj => hs j h0 (by omega))
  repeat (refine wXh ?_)
  clear hs hi hit
  refine TD_loop [1, 2, 47, 48] rfl (fun k G M I => ∃ i : Nat, i ≤ t ∧ k = t - i ∧ Fst [] (es ms (ls.take i)) ∧ G = [(49, .int .i64 i)] ∧ M0 = M ∧ I = slI (some ⟨b2, 0, none⟩) [.int .i64 n, .slice p m c] :: I0) (t) _ _ _ subG subF incF (⟨0, by omega, rfl, trivial, rfl, rfl, rfl⟩) ?_
  rintro kk G M I ⟨i, hi, rfl, hf, rfl, rfl, rfl⟩
  by_cases hit : i < t
  · have hri : 0 ≤ gt ls i ∧ gt ls i < m := hr _ (gt_in ⟨by omega, by omega⟩)
    have hA := hg.a _ hri.1 (by omega)
    have hB := hg.b _ hri.1 (by omega)
    have hrt : inR m (ls.take i) := fun k hk => hr k (List.mem_of_mem_take hk)
    have hlt : (ls.take i).length = i := by rw [List.length_take]; omega
    have hiff := labs_iff (hg.nds (by rw [hm]; exact hrt)) hA hB
    repeat (refine wXh ?_)
    (repeat refine TD_seq ?_); refine TD_drawnW (M0) (slI (some ⟨b2, 0, none⟩) [.int .i64 n, .slice p m c] :: I0) [0, 1, 2, 3, 4, 5] [0, 1, 1, 0, 0, 0] subF incF mixed (by kernel_rfl) ?_
    repeat (refine wXh ?_)
    (refine RD_c rfl (fun _ => Const_cut (e := 3) (sz := 1) 0 i i rfl (.inl ⟨rfl, rfl⟩) (.inr ⟨_, _, _, rfl, rfl, rfl⟩) (by omega) (by omega) (by omega)) rfl rfl ?_)
    refine RD_cutI (enc := eI .i64) (ms := ls) ct 0 i memF (by omega) ?_
    rw [List.drop_zero]
    (refine RD_callS rfl (Labels_ok (ls := ls.take i) hn hm hm2 hg hlt (by omega) hrt memF memF) rfl rfl ?_; rintro _ _ _ ⟨rfl, q1, c1, rfl, rfl⟩; refine ⟨okF, ?_⟩)
    have hl := labs_len n (lo (es ms (ls.take i)))
    generalize labs n (lo (es ms (ls.take i))) = A at hiff hl
    obtain ⟨x, hx⟩ : ∃ x, gt ls (i : Int) = x := ⟨_, rfl⟩
    obtain ⟨y, hy⟩ : ∃ y, (gt ms x).a = y := ⟨_, rfl⟩
    obtain ⟨z, hz⟩ : ∃ z, (gt ms x).b = z := ⟨_, rfl⟩
    rw [hx] at hri
    rw [hx, hy] at hA
    rw [hx, hz] at hB
    rw [hx, hy, hz] at hiff
    have h11 := fun h => fcode_11 (ms := ms) hr' ha (i := i) (by omega) h
    have hnx := fun h => fst_next (ms := ms) (tree := ls) (i := i) (by omega) hf h
    rw [hx, hy, hz] at h11 hnx
    by_cases hc : gt A y = gt A z
    · repeat (refine wXh ?_)
      rw [hx]
      (repeat refine TD_seq ?_); refine TD_drawnJ 0 [0, 1, 2, 3, 4, 5, 6, 7, 8, 9, 10, 11, 12, 13, 14, 15, 16, 17, 18] [0, 0, 0, 0, 0, 0, 0, 0, 0, 0, 0, 0, 0, 0, 0, 0, 0, 0, 0] mixed (by kernel_rfl) ?_
      repeat (refine wXh ?_)
      rw [hy]
      repeat (refine wXh ?_)
      rw [hz]
      repeat (refine wXh ?_)
      refine ND_ret1 (by first | exact .inl rfl | exact .inr rfl) rfl rfl _ _ subF incF (⟨rfl, rfl, by rw [h11 (hiff.1 hc)]⟩)
    · repeat (refine wXh ?_)
      rw [hx]
      (repeat refine TD_seq ?_); refine TD_drawnJ 0 [0, 1, 2, 3, 4, 5, 6, 7, 8, 9, 10, 11, 12, 13, 14, 15, 16, 17, 18] [0, 0, 0, 0, 0, 0, 0, 0, 0, 0, 0, 0, 0, 0, 0, 0, 0, 0, 0] mixed (by kernel_rfl) ?_
      repeat (refine wXh ?_)
      rw [hy]
      repeat (refine wXh ?_)
      rw [hz]
      repeat (refine wXh ?_)
      refine ND_again (t - (i + 1)) _ _ _ (by first | omega | (simp only [List.length_append, List.length_cons, List.length_nil]; omega)) subG subF incF (⟨i + 1, by omega, rfl, hnx (fun h => hc (hiff.2 h)), rfl, rfl, rfl⟩)
  · obtain rfl : i = t := by omega
    rw [List.take_of_length_le (by omega)] at hf
    repeat (refine wXh ?_)
    refine ND_ret1 (by first | exact .inl rfl | exact .inr rfl) rfl rfl _ _ subF incF (⟨rfl, rfl, by rw [fcode_0 hr' ha hf]⟩)
end
end Go.Proofs.Ytkhgglkkdnemlaa
namespace Go.Proofs.Ytkhgglkkdnemlaa
open Go Go.Fx
section
variable {X : List Nat} {w0 : World} {M0 : List Ent} {I0 : List Imm}
set_option maxRecDepth 100000 in
set_option maxHeartbeats 2000000 in
theorem cForest_all {p q : Option Addr} {n : Nat} {ms : List LK} {ls : List Int} {m c t ct : Nat} (hn : n ≤ 256) (hm : ms.length = m) (hm2 : m ≤ 1024) (hg : Gd ms n) (ht : ls.length = t) (ht2 : t ≤ 100000) (hp : slI p (recs eK ms) ∈ I0) (hq : slI q (recs (eI .i64) ls) ∈ I0) :
    CD Try.prog 58 [gv n p m c, .slice q t ct] X w0 M0 I0 (fun v M I => (fcode ms ls ≠ 0 ∧ M0 = M ∧ I0 = I ∧ v = .tuple #[.slice none 0 0, .int .i64 (fcode ms ls)]) ∨
      (fcode ms ls = 0 ∧ I0 = I ∧ ∃ b u, v = .tuple #[.slice (some ⟨b, 0, none⟩) n n, .int .i64 0] ∧ Rp n u (lo (es ms ls)) ∧ M = .blk b (recs (eI .i64) u) 3 :: M0)) := by
  refine enterD2 Try.func58 rfl Try.ntmps58 rfl ?_
  refine TD_seq ?_
  refine TD_region ?_
  (refine RD_boxA rfl rfl rfl ?_; intro b2; refine ⟨okF, ?_⟩)
  refine RD_freezeB .here ?_
  repeat (refine wXh ?_)
  refine TD_loop [1, 2, 12, 13] rfl (fun k G M I => ∃ i : Nat, i ≤ t ∧ k = t - i ∧ (∀ j : Nat, j < i → 0 ≤ gt ls j ∧ gt ls j < m) ∧ G = [(14, .int .i64 i)] ∧ M0 = M ∧ I = slI (some ⟨b2, 0, none⟩) [.int .i64 n, .slice p m c] :: I0) (t) _ _ _ subG subF incF (⟨0, by omega, rfl, fun j hj => by omega, rfl, rfl, rfl⟩) ?_
  rintro kk G M I ⟨i, hi, rfl, hs, rfl, rfl, rfl⟩
  by_cases hit : i < t
  · by_cases h0 : 0 ≤ gt ls i
    · by_cases h1 : gt ls i < m
      · repeat (refine wXh ?_)
        refine ND_again (t - (i + 1)) _ _ _ (by first | omega | (simp only [List.length_append, List.length_cons, List.length_nil]; omega)) subG subF incF (⟨i + 1, by omega, rfl, fun j hj => ?_, rfl, rfl, rfl⟩)
        by_cases e : j = i
        · subst e; exact ⟨h0, h1⟩
        · exact hs j (by omega)
      · have hc := fcode_2 (ms := ms) (tree := ls) (i := i) (by omega) (fun h => h1 (by have := h.2; omega))
        repeat (refine wXh ?_)
        refine ND_rets [4, 5] (by first | exact .inl rfl | exact .inr rfl) rfl rfl rfl _ _ subF incF (.inl ⟨by rw [hc]; decide, rfl, rfl, by rw [hc]⟩)
    · have hc := fcode_2 (ms := ms) (tree := ls) (i := i) (by omega) (fun h => h0 h.1)
      repeat (refine wXh ?_)
      refine ND_rets [4, 5] (by first | exact .inl rfl | exact .inr rfl) rfl rfl rfl _ _ subF incF (.inl ⟨by rw [hc]; decide, rfl, rfl, by rw [hc]⟩)
  have hr : inR m ls := inR_of (fun j hj => hs j (by omega))
  have hr' : inR ms.length ls := by rw [hm]; exact hr
  repeat (refine wXh ?_)
  clear hs hi hit
  refine TD_loop [1, 2] rfl (fun k G M I => ∃ i : Nat, 1 ≤ i ∧ (i ≤ t ∨ i = 1) ∧ k = t - i ∧ (∀ j : Nat, 0 < j → j < i → gt ls ((j : Int) - 1) < gt ls j) ∧ G = [(8, .int .i64 i)] ∧ M0 = M ∧ I = slI (some ⟨b2, 0, none⟩) [.int .i64 n, .slice p m c] :: I0) (t - 1) _ _ _ subG subF incF (⟨1, by omega, .inr rfl, rfl, fun j h0 hj => by omega, rfl, rfl, rfl⟩) ?_
  rintro kk G M I ⟨i, h0, hi, rfl, hs, rfl, rfl, rfl⟩
  by_cases hit : i < t
  · by_cases h1 : gt ls ((i : Int) - 1) < gt ls i
    · repeat (refine wXh ?_)
      (repeat refine TD_seq ?_); refine TD_drawnJ 0 [0, 1, 2, 3, 4, 5, 6, 7, 8, 9] [0, 0, 0, 0, 0, 0, 0, 0, 0, 0] mixed (by kernel_rfl) ?_
      repeat (refine wXh ?_)
      refine ND_again (t - (i + 1)) _ _ _ (by first | omega | (simp only [List.length_append, List.length_cons, List.length_nil]; omega)) subG subF incF (⟨i + 1, by omega, .inl (by omega), rfl, fun j hj0 hj => ?_, rfl, rfl, rfl⟩)
      by_cases e : j = i
      · subst e; exact h1
      · exact hs j hj0 (by omega)
    · have hc := fcode_5 (ms := ms) (tree := ls) (i := i) hr' (by omega) (by omega) (by omega)
      repeat (refine wXh ?_)
      (repeat refine TD_seq ?_); refine TD_drawnJ 0 [0, 1, 2, 3, 4, 5, 6, 7, 8, 9] [0, 0, 0, 0, 0, 0, 0, 0, 0, 0] mixed (by kernel_rfl) ?_
      repeat (refine wXh ?_)
      refine ND_rets [4, 5] (by first | exact .inl rfl | exact .inr rfl) rfl rfl rfl _ _ subF incF (.inl ⟨by rw [hc]; decide, rfl, rfl, by rw [hc]⟩)
  have ha : asc ls := asc_of (fun j h0 hj => hs j h0 (by omega))
  repeat (refine wXh ?_)
  clear hs hi hit
  (refine RD_callS rfl (newU_ok hn) rfl rfl ?_; rintro _ _ _ ⟨rfl, b, rfl, rfl⟩; refine ⟨okF, ?_⟩)
  repeat (refine wXh ?_)
  refine TD_loop [2, 9, 47, 48] rfl (fun k G M I => ∃ (i : Nat) (u : List Int), i ≤ t ∧ k = t - i ∧ Fst [] (es ms (ls.take i)) ∧ Rp n u (lo (es ms (ls.take i))) ∧ G = [(49, .int .i64 i)] ∧ M = .blk b (recs (eI .i64) u) 3 :: M0 ∧ I = slI (some ⟨b2, 0, none⟩) [.int .i64 n, .slice p m c] :: I0) (t) _ _ _ subG subF incF (⟨0, rg n, by omega, rfl, trivial, Rp.new n, rfl, rfl, rfl⟩) ?_
  rintro kk G M I ⟨i, u, hi, rfl, hf, hu, rfl, rfl, rfl⟩
  by_cases hit : i < t
  · have hri : 0 ≤ gt ls i ∧ gt ls i < m := hr _ (gt_in ⟨by omega, by omega⟩)
    have hA := hg.a _ hri.1 (by omega)
    have hB := hg.b _ hri.1 (by omega)
    have htk := take_snoc (l := ls) (j := i) (by omega)
    obtain ⟨x, hx⟩ : ∃ x, gt ls (i : Int) = x := ⟨_, rfl⟩
    obtain ⟨y, hy⟩ : ∃ y, (gt ms x).a = y := ⟨_, rfl⟩
    obtain ⟨z, hz⟩ : ∃ z, (gt ms x).b = z := ⟨_, rfl⟩
    rw [hx] at hri htk
    rw [hx, hy] at hA
    rw [hx, hz] at hB
    have h11 := fun h => fcode_11 (ms := ms) hr' ha (i := i) (by omega) h
    have hnx := fun h => fst_next (ms := ms) (tree := ls) (i := i) (by omega) hf h
    rw [hx, hy, hz] at h11 hnx
    have hj := fun M0 I0 => ujoin_ok (X := X) (w0 := w0) (M0 := M0) (I0 := I0) (b := b) (c := n) hn hu hA hB
    by_cases hc : lo (es ms (ls.take i)) y = lo (es ms (ls.take i)) z
    · rw [B_false (fun h => h hc)] at hj
      have hc2 := h11 (lo_iff.1 hc)
      repeat (refine wXh ?_)
      rw [hx]
      (repeat refine TD_seq ?_); refine TD_drawnW (M0) (slI (some ⟨b2, 0, none⟩) [.int .i64 n, .slice p m c] :: I0) [0, 1, 2, 3, 4, 5, 6, 7, 8, 9, 10, 11, 12, 13, 14] [0, 1, 1, 1, 1, 1, 0, 1, 1, 1, 1, 1, 0, 0, 0] subF incF mixed (by kernel_rfl) ?_
      repeat (refine wXh ?_)
      rw [hy]
      repeat (refine wXh ?_)
      rw [hz]
      (refine RD_callS rfl (hj _ _) rfl rfl ?_; rintro _ _ _ ⟨rfl, rfl, u2, hu2, rfl⟩; refine ⟨okF, ?_⟩)
      repeat (refine wXh ?_)
      refine ND_rets [4, 5] (by first | exact .inl rfl | exact .inr rfl) rfl rfl rfl _ _ subF incF (.inl ⟨by rw [hc2]; decide, rfl, rfl, by rw [hc2]⟩)
    · rw [B_true hc] at hj
      repeat (refine wXh ?_)
      rw [hx]
      (repeat refine TD_seq ?_); refine TD_drawnW (M0) (slI (some ⟨b2, 0, none⟩) [.int .i64 n, .slice p m c] :: I0) [0, 1, 2, 3, 4, 5, 6, 7, 8, 9, 10, 11, 12, 13, 14] [0, 1, 1, 1, 1, 1, 0, 1, 1, 1, 1, 1, 0, 0, 0] subF incF mixed (by kernel_rfl) ?_
      repeat (refine wXh ?_)
      rw [hy]
      repeat (refine wXh ?_)
      rw [hz]
      (refine RD_callS rfl (hj _ _) rfl rfl ?_; rintro _ _ _ ⟨rfl, rfl, u2, hu2, rfl⟩; refine ⟨okF, ?_⟩)
      repeat (refine wXh ?_)
      refine ND_again (t - (i + 1)) _ _ _ (by first | omega | (simp only [List.length_append, List.length_cons, List.length_nil]; omega)) subG subF incF (⟨i + 1, u2, by omega, rfl, hnx (fun h => hc (lo_iff.2 h)), by rw [htk, lo_at, hy, hz]; exact hu2, rfl, rfl, rfl⟩)
  · obtain rfl : i = t := by omega
    rw [List.take_of_length_le (by omega)] at hf hu
    repeat (refine wXh ?_)
    refine ND_rets [4, 5] (by first | exact .inl rfl | exact .inr rfl) rfl rfl rfl _ _ subF incF (.inr ⟨fcode_0 hr' ha hf, rfl, b, u, rfl, hu, rfl⟩)
theorem cForest_ok {p q : Option Addr} {n : Nat} {ms : List LK} {ls : List Int} {m c t ct : Nat} (hn : n ≤ 256) (hm : ms.length = m) (hm2 : m ≤ 1024) (hg : Gd ms n) (ht : ls.length = t) (ht2 : t ≤ 100000) (hc : fcode ms ls = 0) (hp : slI p (recs eK ms) ∈ I0) (hq : slI q (recs (eI .i64) ls) ∈ I0) :
    CD Try.prog 58 [gv n p m c, .slice q t ct] X w0 M0 I0 (fun v M I => I0 = I ∧ ∃ b u, v = .tuple #[.slice (some ⟨b, 0, none⟩) n n, .int .i64 0] ∧ Rp n u (lo (es ms ls)) ∧ M = .blk b (recs (eI .i64) u) 3 :: M0) :=
  CD.mono (cForest_all hn hm hm2 hg ht ht2 hp hq) (fun v M I h => by
    rcases h with h | h
    · exact absurd hc h.1
    · exact h.2)
theorem cForest_bad {p q : Option Addr} {n : Nat} {ms : List LK} {ls : List Int} {m c t ct : Nat} (hn : n ≤ 256) (hm : ms.length = m) (hm2 : m ≤ 1024) (hg : Gd ms n) (ht : ls.length = t) (ht2 : t ≤ 100000) (hc : fcode ms ls ≠ 0) (hp : slI p (recs eK ms) ∈ I0) (hq : slI q (recs (eI .i64) ls) ∈ I0) :
    CD Try.prog 58 [gv n p m c, .slice q t ct] X w0 M0 I0 (fun v M I => M0 = M ∧ I0 = I ∧ v = .tuple #[.slice none 0 0, .int .i64 (fcode ms ls)]) :=
  CD.mono (cForest_all hn hm hm2 hg ht ht2 hp hq) (fun v M I h => by
    rcases h with h | h
    · exact h.2
    · exact absurd h.1 hc)
theorem spans1_ok {b n b3 : Nat} {l : LK} {u : List Int} {f : Int → Int} (hn : n ≤ 256) (hu : Rp n u f) (ha : 0 ≤ l.a ∧ l.a < n) (hb : 0 ≤ l.b ∧ l.b < n) (h3 : slI (some ⟨b3, 0, none⟩) [.slice (some ⟨b, 0, none⟩) n n] ∈ I0) :
    CD Try.prog 72 [.agg (eK l).toArray, .pointer (some ⟨b3, 0, none⟩)] X w0 (.blk b (recs (eI .i64) u) 3 :: M0) I0 (fun v M I => I0 = I ∧ v = .bool (B (f l.a ≠ f l.b)) ∧ ∃ u', Rp n u' f ∧ M = .blk b (recs (eI .i64) u') 3 :: M0) := by
  refine enterD2 Try.func72 rfl Try.ntmps72 rfl ?_
  refine TD_seq ?_
  refine TD_region ?_
  (refine RD_boxA rfl rfl rfl ?_; intro b2; refine ⟨okF, ?_⟩)
  refine RD_freezeB .here ?_
  repeat (refine wXh ?_)
  (repeat refine TD_seq ?_); refine TD_drawnW (M0) (slI (some ⟨b2, 0, none⟩) (eK l) :: I0) [0, 1, 2, 4, 5, 6, 3, 7, 8, 9] [1, 2, 1, 1, 2, 1, 0, 0, 0, 0] subF incF mixed (by kernel_rfl) ?_
  repeat (refine wXh ?_)
  (refine RD_callS rfl (ufind_ok hn hu ha) rfl rfl ?_; rintro _ _ _ ⟨rfl, rfl, u1, hu1, rfl⟩; refine ⟨okF, ?_⟩)
  (refine RD_callS rfl (ufind_ok hn hu1 hb) rfl rfl ?_; rintro _ _ _ ⟨rfl, rfl, u2, hu2, rfl⟩; refine ⟨okF, ?_⟩)
  repeat (refine wXh ?_)
  refine ND_ret1 (by first | exact .inl rfl | exact .inr rfl) rfl rfl _ _ subF incF (⟨rfl, rfl, u2, hu2, rfl⟩)
set_option maxRecDepth 100000 in
theorem spansX_ok {p : Option Addr} {b n b3 m c : Nat} {ms : List LK} {u : List Int} {f : Int → Int} (hn : n ≤ 256) (hm : ms.length = m) (hm2 : m ≤ 1024) (hg : Gd ms n) (hu : Rp n u f) (hp : slI p (recs eK ms) ∈ I0) (h3 : slI (some ⟨b3, 0, none⟩) [.slice (some ⟨b, 0, none⟩) n n] ∈ I0) :
    CD Try.prog 79 [.slice p m c, .func (.func 72) #[] #[.pointer (some ⟨b3, 0, none⟩)]] X w0 (.blk b (recs (eI .i64) u) 3 :: M0) I0 (fun v M I => I0 = I ∧ (∃ r : Int, v = .int .i64 r ∧ ((0 ≤ r ∧ ∃ l ∈ ms, f l.a ≠ f l.b) ∨ (r = -1 ∧ ∀ l ∈ ms, f l.a = f l.b))) ∧ ∃ u', Rp n u' f ∧ M = .blk b (recs (eI .i64) u') 3 :: M0) := by
  refine enterD2 Try.func79 rfl Try.ntmps79 rfl ?_
  repeat (refine wXh ?_)
  refine TD_loop [0, 1, 7] rfl (fun k G M I => ∃ (i : Nat) (u : List Int), i ≤ m ∧ k = m - i ∧ (∀ j : Nat, j < i → f (gt ms j).a = f (gt ms j).b) ∧ Rp n u f ∧ G = [(8, .int .i64 i)] ∧ M = .blk b (recs (eI .i64) u) 3 :: M0 ∧ I0 = I) (m) _ _ _ subG subF incF (⟨0, u, by omega, rfl, fun j hj => by omega, hu, rfl, rfl, rfl⟩) ?_
  clear hu
  rintro kk G M I ⟨i, u, hi, rfl, hs, hu, rfl, rfl, rfl⟩
  by_cases him : i < m
  · have hA := hg.a (i : Int) (by omega) (by omega)
    have hB := hg.b (i : Int) (by omega) (by omega)
    by_cases he : f (gt ms i).a = f (gt ms i).b
    · repeat (refine wXh ?_)
      (refine RD_callVS rfl rfl (spans1_ok (l := gt ms i) hn hu hA hB memF) rfl rfl rfl ?_; rintro _ _ _ ⟨rfl, rfl, u2, hu2, rfl⟩; refine ⟨okF, ?_⟩)
      rw [B_false (fun h => h he)]
      repeat (refine wXh ?_)
      refine ND_again (m - (i + 1)) _ _ _ (by first | omega | (simp only [List.length_append, List.length_cons, List.length_nil]; omega)) subG subF incF (⟨i + 1, u2, by omega, rfl, fun j hj => ?_, hu2, rfl, rfl, rfl⟩)
      by_cases e : j = i
      · subst e; exact he
      · exact hs j (by omega)
    · repeat (refine wXh ?_)
      (refine RD_callVS rfl rfl (spans1_ok (l := gt ms i) hn hu hA hB memF) rfl rfl rfl ?_; rintro _ _ _ ⟨rfl, rfl, u2, hu2, rfl⟩; refine ⟨okF, ?_⟩)
      rw [B_true he]
      repeat (refine wXh ?_)
      refine ND_ret1 (by first | exact .inl rfl | exact .inr rfl) rfl rfl _ _ subF incF (⟨rfl, ⟨_, rfl, .inl ⟨by omega, gt ms i, gt_in ⟨by omega, by omega⟩, he⟩⟩, u2, hu2, rfl⟩)
  · repeat (refine wXh ?_)
    refine ND_ret1 (by first | exact .inl rfl | exact .inr rfl) rfl rfl _ _ subF incF (⟨rfl, ⟨_, rfl, .inr ⟨rfl, fun l hl => ?_⟩⟩, u, hu, rfl⟩)
    obtain ⟨j, hj, rfl⟩ := List.mem_iff_getElem.1 hl
    have := hs j (by omega)
    rwa [gt_get hj] at this
theorem spansC_ok {p : Option Addr} {b n b3 m c : Nat} {ms : List LK} {u : List Int} {f : Int → Int} (hn : n ≤ 256) (hm : ms.length = m) (hm2 : m ≤ 1024) (hg : Gd ms n) (hu : Rp n u f) (hp : slI p (recs eK ms) ∈ I0) (h3 : slI (some ⟨b3, 0, none⟩) [.slice (some ⟨b, 0, none⟩) n n] ∈ I0) :
    CD Try.prog 71 [.slice p m c, .func (.func 72) #[] #[.pointer (some ⟨b3, 0, none⟩)]] X w0 (.blk b (recs (eI .i64) u) 3 :: M0) I0 (fun v M I => I0 = I ∧ v = .bool (B (¬ ∀ l ∈ ms, f l.a = f l.b)) ∧ ∃ u', Rp n u' f ∧ M = .blk b (recs (eI .i64) u') 3 :: M0) := by
  refine enterD2 Try.func71 rfl Try.ntmps71 rfl ?_
  repeat (refine wXh ?_)
  (refine RD_callS rfl (spansX_ok hn hm hm2 hg hu hp h3) rfl rfl ?_; rintro _ _ _ ⟨rfl, ⟨r, rfl, hr⟩, u2, hu2, rfl⟩; refine ⟨okF, ?_⟩)
  repeat (refine wXh ?_)
  refine ND_ret1 (by first | exact .inl rfl | exact .inr rfl) rfl rfl _ _ subF incF (⟨rfl, congrArg Value.bool (B_congr ?_), u2, hu2, rfl⟩)
  rcases hr with ⟨h1, l, hl, h2⟩ | ⟨rfl, h1⟩
  · exact ⟨fun _ h => h2 (h l hl), fun _ => h1⟩
  · exact ⟨fun h => by omega, fun h => absurd h1 h⟩
theorem spans_ok {p : Option Addr} {b n m c : Nat} {ms : List LK} {u : List Int} {f : Int → Int} (hn : n ≤ 256) (hm : ms.length = m) (hm2 : m ≤ 1024) (hg : Gd ms n) (hu : Rp n u f) (hp : slI p (recs eK ms) ∈ I0) :
    CD Try.prog 59 [gv n p m c, .slice (some ⟨b, 0, none⟩) n n] X w0 (.blk b (recs (eI .i64) u) 3 :: M0) I0 (fun v M I => I0 = I ∧ v = .bool (B (∀ l ∈ ms, f l.a = f l.b)) ∧ ∃ u', Rp n u' f ∧ M = .blk b (recs (eI .i64) u') 3 :: M0) := by
  refine enterD2 Try.func59 rfl Try.ntmps59 rfl ?_
  refine TD_seq ?_
  refine TD_region ?_
  (refine RD_boxA rfl rfl rfl ?_; intro b2; refine ⟨okF, ?_⟩)
  refine RD_freezeB .here ?_
  (refine RD_boxL rfl rfl rfl ?_; intro b3; refine ⟨okF, ?_⟩)
  repeat (refine wXh ?_)
  (refine RD_callS rfl (spansC_ok (b3 := b3) hn hm hm2 hg hu memF memF) rfl rfl ?_; rintro _ _ _ ⟨rfl, rfl, u2, hu2, rfl⟩; refine ⟨okF, ?_⟩)
  repeat (refine wXh ?_)
  refine ND_ret1 (by first | exact .inl rfl | exact .inr rfl) rfl rfl _ _ subF incF (⟨rfl, congrArg Value.bool (B_congr ⟨fun h => Decidable.of_not_not h, fun h hn => hn h⟩), u2, hu2, rfl⟩)
end
end Go.Proofs.Ytkhgglkkdnemlaa

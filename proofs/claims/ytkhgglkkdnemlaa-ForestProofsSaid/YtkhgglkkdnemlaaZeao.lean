/- Forest: CheckCycle, Closed, Proved, closures of ForestProofs. -/
import Derived.Test.YtkhgglkkdnemlaaZeaj
import Derived.Test.YtkhgglkkdnemlaaZean
import Derived.Test.YtkhgglkkdnemlaaZeai
set_option linter.unusedSimpArgs false
set_option linter.unusedVariables false
namespace Go.Proofs.Ytkhgglkkdnemlaa
open Go Go.Fx
/-- the walk is closed -/
def chn (ms : List LK) (l : List Int) : Prop := ∀ i : Nat, i < l.length → (gt ms (gt l i)).b = (gt ms (gt l (((i : Int) + 1).tmod l.length))).a
theorem tmod_next {i t : Nat} (h : i < t) : ((i : Int) + 1).tmod t = if i + 1 = t then 0 else (i : Int) + 1 := by
  split
  · rename_i e
    rw [show (i : Int) + 1 = (t : Int) by omega, Int.tmod_self]
  · exact Int.tmod_eq_of_lt (by omega) (by omega)
theorem tmod_in {i t : Nat} (h : i < t) : 0 ≤ ((i : Int) + 1).tmod t ∧ ((i : Int) + 1).tmod t < t := by
  rw [tmod_next h]; split <;> omega
theorem cyc_pos {ms : List LK} {l : List Int} {p : Int → Int} (hp : Pot ms p) (hr : inR ms.length l) (hc : chn ms l) : 0 ≤ wsum ms l := by
  have hin : ∀ k : Nat, k < l.length → 0 ≤ gt l k ∧ gt l k < ms.length := fun k hk => by rw [gt_get hk]; exact hr _ (List.getElem_mem hk)
  have key : ∀ k : Nat, k < l.length → p (gt ms (gt l k)).b - p (gt ms (gt l (0 : Nat))).a ≤ wsum ms (l.take (k + 1)) := fun k => by
    induction k with
    | zero => intro hk; have := hin 0 hk; have := hp _ this.1 this.2; rw [take_snoc hk, wsum_snoc, List.take_zero]; simp only [wsum, List.map_nil, sumI]; omega
    | succ k ih =>
      intro hk
      have h1 := ih (by omega)
      have h2 := hin (k + 1) hk
      have h3 := hp _ h2.1 h2.2
      have h4 := hc k (by omega)
      rw [tmod_next (by omega), if_neg (by omega)] at h4
      rw [h4] at h1
      rw [take_snoc hk, wsum_snoc]
      have e : ((k : Int) + 1) = ((k + 1 : Nat) : Int) := by omega
      rw [e] at h1
      omega
  rcases Nat.eq_zero_or_pos l.length with h0 | h0
  · rw [List.eq_nil_of_length_eq_zero h0]; simp [wsum, sumI]
  · have h1 := key (l.length - 1) (by omega)
    have h4 := hc (l.length - 1) (by omega)
    rw [tmod_next (by omega), if_pos (by omega)] at h4
    rw [show l.length - 1 + 1 = l.length by omega, List.take_length] at h1
    rw [h4] at h1
    have e : gt l ((0 : Nat) : Int) = gt l 0 := rfl
    rw [e] at h1
    omega
/-- CheckCycle's code -/
def CC (ms : List LK) (l : List Int) (e : Int) : Prop := (¬ inR ms.length l ∧ e = 2) ∨ (inR ms.length l ∧ ¬ chn ms l ∧ e = 12) ∨ (inR ms.length l ∧ chn ms l ∧ 0 ≤ wsum ms l ∧ e = 12) ∨ (inR ms.length l ∧ chn ms l ∧ wsum ms l < 0 ∧ e = 0)
theorem CC.ex (ms : List LK) (l : List Int) : ∃ e, CC ms l e := by
  by_cases h1 : inR ms.length l
  · by_cases h2 : chn ms l
    · by_cases h3 : 0 ≤ wsum ms l
      · exact ⟨12, .inr (.inr (.inl ⟨h1, h2, h3, rfl⟩))⟩
      · exact ⟨0, .inr (.inr (.inr ⟨h1, h2, by omega, rfl⟩))⟩
    · exact ⟨12, .inr (.inl ⟨h1, h2, rfl⟩)⟩
  · exact ⟨2, .inl ⟨h1, rfl⟩⟩
theorem inR_gt {m : Nat} {l : List Int} (h : inR m l) {j : Nat} (hj : j < l.length) : 0 ≤ gt l j ∧ gt l j < m := by
  rw [gt_get hj]; exact h _ (List.getElem_mem hj)
section
variable {X : List Nat} {w0 : World} {M0 : List Ent} {I0 : List Imm}
set_option maxRecDepth 100000 in
set_option maxHeartbeats 2000000 in
theorem Closed_ok {p q : Option Addr} {n m c t ct : Nat} {ms : List LK} {l : List Int} (hm : ms.length = m) (hm2 : m ≤ 1024) (hl : l.length = t) (hl2 : t ≤ 100000) (hr : inR m l) (hp : slI p (recs eK ms) ∈ I0) (hq : slI q (recs (eI .i64) l) ∈ I0) :
    CD Try.prog 34 [gv n p m c, .slice q t ct] X w0 M0 I0 (fun v M I => M0 = M ∧ I0 = I ∧ ∃ f : Bool, v = .bool f ∧ (f = true ↔ chn ms l ∧ 0 < t)) := by
  refine enterD2 Try.func34 rfl Try.ntmps34 rfl ?_
  refine TD_seq ?_
  refine TD_region ?_
  (refine RD_boxA rfl rfl rfl ?_; intro b2; refine ⟨okF, ?_⟩)
  refine RD_freezeB .here ?_
  repeat (refine wXh ?_)
  refine TD_loop [1, 2, 7, 8] rfl (fun k G M I => ∃ i : Nat, i ≤ t ∧ k = t - i ∧ (∀ j : Nat, j < i → (gt ms (gt l j)).b = (gt ms (gt l (((j : Int) + 1).tmod t))).a) ∧ G = [(9, .int .i64 i)] ∧ M0 = M ∧ I = slI (some ⟨b2, 0, none⟩) [.int .i64 n, .slice p m c] :: I0) (t) _ _ _ subG subF incF (⟨0, by omega, rfl, fun j hj => by omega, rfl, rfl, rfl⟩) ?_
  rintro kk G M I ⟨i, hi, rfl, hs, rfl, rfl, rfl⟩
  by_cases hit : i < t
  · have h1 := inR_gt hr (j := i) (by omega)
    have h2 := tmod_in hit
    have h3 := inR_gt hr (j := (((i : Int) + 1).tmod t).toNat) (by omega)
    rw [Int.toNat_of_nonneg h2.1] at h3
    by_cases he : (gt ms (gt l (i : Int))).b = (gt ms (gt l (((i : Int) + 1).tmod t))).a
    · repeat (refine wXh ?_)
      (repeat refine TD_seq ?_); refine TD_drawnJ 0 [0, 1, 2, 3, 4, 5, 6, 7, 8, 9, 10, 11, 12, 13, 14, 15, 16, 17, 18, 19] [0, 0, 0, 0, 0, 0, 0, 0, 0, 0, 0, 0, 0, 0, 0, 0, 0, 0, 0, 0] mixed (by kernel_rfl) ?_
      repeat (refine wXh ?_)
      refine ND_again (t - (i + 1)) _ _ _ (by first | omega | (simp only [List.length_append, List.length_cons, List.length_nil]; omega)) subG subF incF (⟨i + 1, by omega, rfl, fun j hj => ?_, rfl, rfl, rfl⟩)
      by_cases e : j = i
      · subst e; exact he
      · exact hs j (by omega)
    · repeat (refine wXh ?_)
      (repeat refine TD_seq ?_); refine TD_drawnJ 0 [0, 1, 2, 3, 4, 5, 6, 7, 8, 9, 10, 11, 12, 13, 14, 15, 16, 17, 18, 19] [0, 0, 0, 0, 0, 0, 0, 0, 0, 0, 0, 0, 0, 0, 0, 0, 0, 0, 0, 0] mixed (by kernel_rfl) ?_
      repeat (refine wXh ?_)
      refine ND_ret1 (by first | exact .inl rfl | exact .inr rfl) rfl rfl _ _ subF incF (⟨rfl, rfl, false, rfl, ⟨fun h => absurd h (by decide), fun h => absurd (by have := h.1 i (by omega); rw [hl] at this; exact this) he⟩⟩)
  · have hch : chn ms l := fun j hj => by rw [hl]; exact hs j (by omega)
    repeat (refine wXh ?_)
    refine ND_ret1 (by first | exact .inl rfl | exact .inr rfl) rfl rfl _ _ subF incF (⟨rfl, rfl, _, rfl, ⟨fun h => ⟨hch, by have := B_get h; omega⟩, fun h => B_true (by have := h.2; omega)⟩⟩)
theorem Proved_ok {p q : Option Addr} {n m c ct : Nat} {ms : List LK} {l : List Int} (hm : ms.length = m) (hm2 : m ≤ 1024) (hg : Gd ms n) (hl : l.length = n) (hb : bdP n l) (hp : slI p (recs eK ms) ∈ I0) (hq : slI q (recs (eI .i64) l) ∈ I0) :
    CD Try.prog 36 [gv n p m c, .slice q n ct] X w0 M0 I0 (fun v M I => M0 = M ∧ I0 = I ∧ ∃ f : Bool, v = .bool f ∧ (f = true ↔ Pot ms (gt l))) := by
  refine enterD2 Try.func36 rfl Try.ntmps36 rfl ?_
  refine TD_seq ?_
  refine TD_region ?_
  (refine RD_boxA rfl rfl rfl ?_; intro b2; refine ⟨okF, ?_⟩)
  refine RD_freezeB .here ?_
  repeat (refine wXh ?_)
  refine TD_loop [1, 8, 9] rfl (fun k G M I => ∃ k2 : Nat, k2 ≤ m ∧ k = m - k2 ∧ (∀ j : Nat, j < k2 → gt l (gt ms j).b ≤ gt l (gt ms j).a + (gt ms j).w) ∧ G = [(10, .int .i64 k2)] ∧ M0 = M ∧ I = slI (some ⟨b2, 0, none⟩) [.int .i64 n, .slice p m c] :: I0) (m) _ _ _ subG subF incF (⟨0, by omega, rfl, fun j hj => by omega, rfl, rfl, rfl⟩) ?_
  rintro kk G M I ⟨k2, hk, rfl, hs, rfl, rfl, rfl⟩
  by_cases hkm : k2 < m
  · have hA := hg.a (k2 : Int) (by omega) (by omega)
    have hB := hg.b (k2 : Int) (by omega) (by omega)
    have hW := hg.w (k2 : Int) (by omega) (by omega)
    unfold wt at hW
    have hbA := hb (gt ms (k2 : Int)).a.toNat (by omega)
    rw [Int.toNat_of_nonneg hA.1] at hbA
    by_cases hle : gt l (gt ms (k2 : Int)).b ≤ gt l (gt ms (k2 : Int)).a + (gt ms (k2 : Int)).w
    · repeat (refine wXh ?_)
      (refine RD_alloc rfl rfl ?_; intro b9; refine ⟨okF, ?_⟩)
      repeat (refine wXh ?_)
      (repeat refine TD_seq ?_); refine TD_drawnJ 0 [0, 1, 2, 3, 4, 5, 6, 7, 8, 9, 10, 11, 12, 13] [0, 0, 0, 0, 0, 0, 0, 0, 0, 0, 0, 0, 0, 0] mixed (by kernel_rfl) ?_
      repeat (refine wXh ?_)
      refine ND_again (m - (k2 + 1)) _ _ _ (by first | omega | (simp only [List.length_append, List.length_cons, List.length_nil]; omega)) subG subF incF (⟨k2 + 1, by omega, rfl, fun j hj => ?_, rfl, rfl, rfl⟩)
      by_cases e : j = k2
      · subst e; exact hle
      · exact hs j (by omega)
    · repeat (refine wXh ?_)
      (refine RD_alloc rfl rfl ?_; intro b9; refine ⟨okF, ?_⟩)
      repeat (refine wXh ?_)
      (repeat refine TD_seq ?_); refine TD_drawnJ 0 [0, 1, 2, 3, 4, 5, 6, 7, 8, 9, 10, 11, 12, 13] [0, 0, 0, 0, 0, 0, 0, 0, 0, 0, 0, 0, 0, 0] mixed (by kernel_rfl) ?_
      repeat (refine wXh ?_)
      refine ND_ret1 (by first | exact .inl rfl | exact .inr rfl) rfl rfl _ _ subF incF (⟨rfl, rfl, false, rfl, ⟨fun h => absurd h (by decide), fun h => absurd (h (k2 : Int) (by omega) (by omega)) hle⟩⟩)
  · repeat (refine wXh ?_)
    refine ND_ret1 (by first | exact .inl rfl | exact .inr rfl) rfl rfl _ _ subF incF (⟨rfl, rfl, true, rfl, ⟨fun _ j h0 hj => by { have := hs j.toNat (by omega); rw [Int.toNat_of_nonneg h0] at this; exact this }, fun _ => rfl⟩⟩)
theorem prf1_ok {b m c : Nat} {x N : Int} {p : Option Addr} (hm : slI (some ⟨b, 0, none⟩) [.int .i64 N, .slice p m c] ∈ I0) :
    CD Try.prog 33 [.int .i64 x, .pointer (some ⟨b, 0, none⟩)] X w0 M0 I0 (fun v M I => M0 = M ∧ I0 = I ∧ v = .bool (B (x < 0 ∨ (m : Int) ≤ x))) := by
  refine enterD2 Try.func33 rfl Try.ntmps33 rfl ?_
  by_cases h : x < 0
  · repeat (refine wXh ?_)
    refine ND_ret1 (by first | exact .inl rfl | exact .inr rfl) rfl rfl _ _ subF incF (⟨rfl, rfl, congrArg Value.bool (B_true (.inl h)).symm⟩)
  · by_cases h2 : (m : Int) ≤ x
    · repeat (refine wXh ?_)
      refine ND_ret1 (by first | exact .inl rfl | exact .inr rfl) rfl rfl _ _ subF incF (⟨rfl, rfl, congrArg Value.bool ((B_true h2).trans (B_true (.inr h2)).symm)⟩)
    · repeat (refine wXh ?_)
      refine ND_ret1 (by first | exact .inl rfl | exact .inr rfl) rfl rfl _ _ subF incF (⟨rfl, rfl, congrArg Value.bool ((B_false h2).trans (B_false (fun h3 => h3.elim h h2)).symm)⟩)
theorem prf2_ok {x : Int} :
    CD Try.prog 35 [.int .i64 x] X w0 M0 I0 (fun v M I => M0 = M ∧ I0 = I ∧ v = .bool (B (x < -274877906944 ∨ 274877906944 < x))) := by
  refine enterD1 Try.func35 rfl Try.ntmps35 rfl ?_
  by_cases h : x < -274877906944
  · repeat (refine wXh ?_)
    refine ND_ret1 (by first | exact .inl rfl | exact .inr rfl) rfl rfl _ _ subF incF (⟨rfl, rfl, congrArg Value.bool (B_true (.inl h)).symm⟩)
  · by_cases h2 : 274877906944 < x
    · repeat (refine wXh ?_)
      refine ND_ret1 (by first | exact .inl rfl | exact .inr rfl) rfl rfl _ _ subF incF (⟨rfl, rfl, congrArg Value.bool ((B_true h2).trans (B_true (.inr h2)).symm)⟩)
    · repeat (refine wXh ?_)
      refine ND_ret1 (by first | exact .inl rfl | exact .inr rfl) rfl rfl _ _ subF incF (⟨rfl, rfl, congrArg Value.bool ((B_false h2).trans (B_false (fun h3 => h3.elim h h2)).symm)⟩)
set_option maxRecDepth 100000 in
set_option maxHeartbeats 2000000 in
theorem CheckCycle_ok {p q : Option Addr} {n m c t ct : Nat} {ms : List LK} {l : List Int} {e : Int} (hn : n ≤ 256) (hm : ms.length = m) (hm2 : m ≤ 1024) (hg : Gd ms n) (hl : l.length = t) (hl2 : t ≤ 1024) (he : CC ms l e) (hp : slI p (recs eK ms) ∈ I0) (hq : slI q (recs (eI .i64) l) ∈ I0) :
    CD Try.prog 31 [gv n p m c, .slice q t ct] X w0 M0 I0 (fun v M I => M0 = M ∧ I0 = I ∧ v = .int .i64 e) := by
  have hC := fun M0 I0 h => gCheck_ok (X := X) (w0 := w0) (M0 := M0) (I0 := I0) (p := p) (N := n) (ms := ms) (c := c) hm (by omega) h
  rw [gcode_gd (by omega) (by omega) hg] at hC
  refine enterD2 Try.func31 rfl Try.ntmps31 rfl ?_
  refine TD_seq ?_
  refine TD_region ?_
  (refine RD_boxA rfl rfl rfl ?_; intro b2; refine ⟨okF, ?_⟩)
  refine RD_freezeB .here ?_
  repeat (refine wXh ?_)
  (refine RD_callS rfl (hC _ _ memF) rfl rfl ?_; rintro _ _ _ ⟨rfl, rfl, rfl⟩; refine ⟨okF, ?_⟩)
  repeat (refine wXh ?_)
  refine TD_loop [1, 2, 18, 19] rfl (fun k G M I => ∃ i : Nat, i ≤ t ∧ k = t - i ∧ (∀ j : Nat, j < i → 0 ≤ gt l j ∧ gt l j < m) ∧ G = [(20, .int .i64 i)] ∧ M0 = M ∧ I = slI (some ⟨b2, 0, none⟩) [.int .i64 n, .slice p m c] :: I0) (t) _ _ _ subG subF incF (⟨0, by omega, rfl, fun j hj => by omega, rfl, rfl, rfl⟩) ?_
  rintro kk G M I ⟨i, hi, rfl, hb, rfl, rfl, rfl⟩
  by_cases hit : i < t
  · have hout : ¬ (0 ≤ gt l (i : Int) ∧ gt l (i : Int) < m) → e = 2 := fun h => by
      have h5 : ¬ inR ms.length l := fun h2 => h (by have := inR_gt h2 (j := i) (by omega); rwa [hm] at this)
      rcases he with h1 | h1 | h1 | h1
      · exact h1.2
      · exact absurd h1.1 h5
      · exact absurd h1.1 h5
      · exact absurd h1.1 h5
    by_cases h1 : gt l (i : Int) < 0
    · obtain rfl := hout (fun h => by omega)
      repeat (refine wXh ?_)
      refine ND_ret1 (by first | exact .inl rfl | exact .inr rfl) rfl rfl _ _ subF incF (⟨rfl, rfl, rfl⟩)
    by_cases h2 : (m : Int) ≤ gt l (i : Int)
    · obtain rfl := hout (fun h => by omega)
      repeat (refine wXh ?_)
      refine ND_ret1 (by first | exact .inl rfl | exact .inr rfl) rfl rfl _ _ subF incF (⟨rfl, rfl, rfl⟩)
    repeat (refine wXh ?_)
    refine ND_again (t - (i + 1)) _ _ _ (by first | omega | (simp only [List.length_append, List.length_cons, List.length_nil]; omega)) subG subF incF (⟨i + 1, by omega, rfl, fun j hj => ?_, rfl, rfl, rfl⟩)
    by_cases e : j = i
    · subst e; omega
    · exact hb j (by omega)
  obtain rfl : i = t := by omega
  have hr : inR m l := inR_of (fun j hj => hb j (by omega))
  have hr2 := hr
  rw [← hm] at hr2
  have hW := fun M0 I0 h1 h2 => gweight_ok (X := X) (w0 := w0) (M0 := M0) (I0 := I0) (p := p) (q := q) (n := n) (c := c) (ct := ct) hm hm2 hg hl (by omega) hr h1 h2
  generalize hws : wsum ms l = ww at hW
  repeat (refine wXh ?_)
  refine TD_loop [1, 2, 34, 35] rfl (fun k G M I => ∃ k2 : Nat, k2 ≤ i ∧ k = i - k2 ∧ (∀ j : Nat, j < k2 → (gt ms (gt l j)).b = (gt ms (gt l (((j : Int) + 1).tmod i))).a) ∧ G = [(36, .int .i64 k2)] ∧ M0 = M ∧ I = slI (some ⟨b2, 0, none⟩) [.int .i64 n, .slice p m c] :: I0) (i) _ _ _ subG subF incF (⟨0, by omega, rfl, fun j hj => by omega, rfl, rfl, rfl⟩) ?_
  rintro kk G M I ⟨k2, hk, rfl, hs, rfl, rfl, rfl⟩
  by_cases hkm : k2 < i
  · have h1 := inR_gt hr (j := k2) (by omega)
    have h2 := tmod_in hkm
    have h3 := inR_gt hr (j := (((k2 : Int) + 1).tmod i).toNat) (by omega)
    rw [Int.toNat_of_nonneg h2.1] at h3
    by_cases hch : (gt ms (gt l (k2 : Int))).b = (gt ms (gt l (((k2 : Int) + 1).tmod i))).a
    · clear hW hws
      repeat (refine wXh ?_)
      (repeat refine TD_seq ?_); refine TD_drawnJ 0 [0, 1, 2, 3, 4, 5, 6, 7, 8, 9, 10, 11, 12, 13, 14, 15, 16, 17, 18, 19] [0, 0, 0, 0, 0, 0, 0, 0, 0, 0, 0, 0, 0, 0, 0, 0, 0, 0, 0, 0] mixed (by kernel_rfl) ?_
      repeat (refine wXh ?_)
      refine ND_again (i - (k2 + 1)) _ _ _ (by first | omega | (simp only [List.length_append, List.length_cons, List.length_nil]; omega)) subG subF incF (⟨k2 + 1, by omega, rfl, fun j hj => ?_, rfl, rfl, rfl⟩)
      by_cases e : j = k2
      · subst e; exact hch
      · exact hs j (by omega)
    · have hnc : ¬ chn ms l := fun h => hch (by have := h k2 (by omega); rw [hl] at this; exact this)
      have he2 : e = 12 := by
        rcases he with h1 | h1 | h1 | h1
        · exact absurd hr2 h1.1
        · exact h1.2.2
        · exact absurd h1.2.1 hnc
        · exact absurd h1.2.1 hnc
      subst he2
      clear hW hws
      repeat (refine wXh ?_)
      (repeat refine TD_seq ?_); refine TD_drawnJ 0 [0, 1, 2, 3, 4, 5, 6, 7, 8, 9, 10, 11, 12, 13, 14, 15, 16, 17, 18, 19] [0, 0, 0, 0, 0, 0, 0, 0, 0, 0, 0, 0, 0, 0, 0, 0, 0, 0, 0, 0] mixed (by kernel_rfl) ?_
      repeat (refine wXh ?_)
      refine ND_ret1 (by first | exact .inl rfl | exact .inr rfl) rfl rfl _ _ subF incF (⟨rfl, rfl, rfl⟩)
  · have hch : chn ms l := fun j hj => by rw [hl]; exact hs j (by omega)
    have he2 : (0 ≤ ww ∧ e = 12) ∨ (ww < 0 ∧ e = 0) := by
      rw [← hws]
      rcases he with h1 | h1 | h1 | h1
      · exact absurd hr2 h1.1
      · exact absurd hch h1.2.1
      · exact .inl h1.2.2
      · exact .inr h1.2.2
    clear hws
    rcases he2 with ⟨h1, rfl⟩ | ⟨h1, rfl⟩
    · repeat (refine wXh ?_)
      (refine RD_callS rfl (hW _ _ memF memF) rfl rfl ?_; rintro _ _ _ ⟨rfl, rfl, rfl⟩; refine ⟨okF, ?_⟩)
      repeat (refine wXh ?_)
      refine ND_ret1 (by first | exact .inl rfl | exact .inr rfl) rfl rfl _ _ subF incF (⟨rfl, rfl, rfl⟩)
    · repeat (refine wXh ?_)
      (refine RD_callS rfl (hW _ _ memF memF) rfl rfl ?_; rintro _ _ _ ⟨rfl, rfl, rfl⟩; refine ⟨okF, ?_⟩)
      repeat (refine wXh ?_)
      refine ND_ret1 (by first | exact .inl rfl | exact .inr rfl) rfl rfl _ _ subF incF (⟨rfl, rfl, rfl⟩)
theorem CheckCycle_bad {p : Option Addr} {N : Int} {ms : List LK} {m c : Nat} {s : Value} (hm : ms.length = m) (hm2 : (m : Int) ≤ 9223372036854775807) (hc : gcode N ms ≠ 0) (hp : slI p (recs eK ms) ∈ I0) :
    CD Try.prog 31 [gv N p m c, s] X w0 M0 I0 (fun v M I => M0 = M ∧ I0 = I ∧ v = .int .i64 (gcode N ms)) := by
  have hC := fun M0 I0 h => gCheck_ok (X := X) (w0 := w0) (M0 := M0) (I0 := I0) (p := p) (N := N) (ms := ms) (c := c) hm hm2 h
  generalize gcode N ms = e at *
  refine enterD2 Try.func31 rfl Try.ntmps31 rfl ?_
  refine TD_seq ?_
  refine TD_region ?_
  (refine RD_boxA rfl rfl rfl ?_; intro b2; refine ⟨okF, ?_⟩)
  refine RD_freezeB .here ?_
  repeat (refine wXh ?_)
  (refine RD_callS rfl (hC _ _ memF) rfl rfl ?_; rintro _ _ _ ⟨rfl, rfl, rfl⟩; refine ⟨okF, ?_⟩)
  repeat (refine wXh ?_)
  refine ND_ret1 (by first | exact .inl rfl | exact .inr rfl) rfl rfl _ _ subF incF (⟨rfl, rfl, rfl⟩)
theorem CheckPot_bad {p : Option Addr} {N : Int} {ms : List LK} {m c : Nat} {s : Value} (hm : ms.length = m) (hm2 : (m : Int) ≤ 9223372036854775807) (hc : gcode N ms ≠ 0) (hp : slI p (recs eK ms) ∈ I0) :
    CD Try.prog 23 [gv N p m c, s] X w0 M0 I0 (fun v M I => M0 = M ∧ I0 = I ∧ v = .int .i64 (gcode N ms)) := by
  have hC := fun M0 I0 h => gCheck_ok (X := X) (w0 := w0) (M0 := M0) (I0 := I0) (p := p) (N := N) (ms := ms) (c := c) hm hm2 h
  generalize gcode N ms = e at *
  refine enterD2 Try.func23 rfl Try.ntmps23 rfl ?_
  refine TD_seq ?_
  refine TD_region ?_
  (refine RD_boxA rfl rfl rfl ?_; intro b2; refine ⟨okF, ?_⟩)
  refine RD_freezeB .here ?_
  repeat (refine wXh ?_)
  (refine RD_callS rfl (hC _ _ memF) rfl rfl ?_; rintro _ _ _ ⟨rfl, rfl, rfl⟩; refine ⟨okF, ?_⟩)
  repeat (refine wXh ?_)
  refine ND_ret1 (by first | exact .inl rfl | exact .inr rfl) rfl rfl _ _ subF incF (⟨rfl, rfl, rfl⟩)
end
end Go.Proofs.Ytkhgglkkdnemlaa

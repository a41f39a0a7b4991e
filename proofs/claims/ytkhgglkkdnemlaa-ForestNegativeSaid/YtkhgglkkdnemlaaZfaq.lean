/- Forest: Negative, plain. Forest: the program's Negative, walked. Forest: the law ForestNegative, walked. -/
import Derived.Test.YtkhgglkkdnemlaaZfaf
import Derived.Test.YtkhgglkkdnemlaaZfap
import Derived.Test.YtkhgglkkdnemlaaZfaj
set_option linter.unusedSimpArgs false
set_option linter.unusedVariables false
namespace Go.Proofs.Ytkhgglkkdnemlaa
open Go Go.Fx
/-- the links on the way back -/
def bl (ms : List LK) (ls : Int → Int) : Nat → Int → List Int
  | 0, _ => []
  | k + 1, v => bl ms ls k v ++ [ls (bk ms ls k v)]
theorem bl_len (ms : List LK) (ls : Int → Int) (k : Nat) (v : Int) : (bl ms ls k v).length = k := by
  induction k with
  | zero => rfl
  | succ k ih => rw [bl, List.length_append, ih]; rfl
theorem bl_gt (ms : List LK) (ls : Int → Int) (k : Nat) (v : Int) {j : Nat} (hj : j < k) : gt (bl ms ls k v) j = ls (bk ms ls j v) := by
  induction k with
  | zero => omega
  | succ k ih =>
    rw [gt_get (by rw [bl_len]; omega)]
    by_cases h : j < k
    · rw [← ih h, gt_get (by rw [bl_len]; omega)]
      simp only [bl]
      rw [List.getElem_append_left (by rw [bl_len]; omega)]
    · have e : j = k := by omega
      subst e
      simp only [bl]
      rw [List.getElem_append_right (by rw [bl_len]; omega)]
      simp
theorem bl_sum (ms : List LK) (ls : Int → Int) (k : Nat) (v : Int) : wsum ms (bl ms ls k v) = bw ms ls k v := by
  induction k with
  | zero => rfl
  | succ k ih => rw [bl, wsum_snoc, ih, bw]
theorem wsum_rev (ms : List LK) (l : List Int) : wsum ms l.reverse = wsum ms l := by
  induction l with
  | nil => rfl
  | cons x l ih => rw [List.reverse_cons, wsum_snoc, ih, wsum, wsum, List.map_cons, sumI]; omega
/-- a cycle that shows that there are no potentials -/
structure NegC (ms : List LK) (n : Nat) (l : List Int) : Prop where
  inr : inR ms.length l
  chn : chn ms l
  neg : wsum ms l < 0
  pos : 0 < l.length
  len : l.length ≤ n
  dis : ∀ i j : Nat, i < j → j < l.length → (gt ms (gt l i)).a ≠ (gt ms (gt l j)).a
theorem rev_gt {l : List Int} {i : Nat} (h : i < l.length) : gt l.reverse i = gt l ((l.length - 1 - i : Nat) : Int) := by
  rw [gt_get (by rw [List.length_reverse]; omega), gt_get (by omega), List.getElem_reverse]
theorem NegC.of {ms : List LK} {n r T p : Nat} {i : Int} {d ls : Int → Int} {ti rd : Int → Nat} {c : Int} (h : NS ms n r i T d ls ti rd) (h0 : 0 < p) (hpn : p ≤ n) (hc : bk ms ls p c = c) (hmin : ∀ j, j < p → j = 0 ∨ bk ms ls j c ≠ c) (hall : ∀ j, (0 ≤ bk ms ls j c ∧ bk ms ls j c < n) ∧ 0 < rd (bk ms ls j c)) : NegC ms n (bl ms ls p c).reverse := by
  have hlen : (bl ms ls p c).reverse.length = p := by rw [List.length_reverse, bl_len]
  have hgt : ∀ i : Nat, i < p → gt (bl ms ls p c).reverse i = ls (bk ms ls (p - 1 - i) c) := fun i hi => by
    rw [rev_gt (by rw [bl_len]; omega), bl_len, bl_gt _ _ _ _ (by omega)]
  have hid := fun j => h.idx _ (hall j).1.1 (hall j).1.2 (hall j).2
  have hb : ∀ i : Nat, i < p → (gt ms (gt (bl ms ls p c).reverse i)).b = bk ms ls (p - 1 - i) c := fun i hi => by rw [hgt i hi]; exact (hid _).2
  have ha : ∀ i : Nat, i < p → (gt ms (gt (bl ms ls p c).reverse i)).a = bk ms ls (p - i) c := fun i hi => by
    rw [hgt i hi, show p - i = (p - 1 - i) + 1 by omega, bk]
  refine ⟨?_, ?_, ?_, by omega, by omega, ?_⟩
  · refine inR_of (fun j hj => ?_)
    rw [hgt j (by omega)]
    exact (hid _).1
  · intro i hi
    rw [hlen] at hi
    rw [hlen, tmod_next hi, hb i hi]
    split
    · rename_i e
      have e2 : (0 : Int) = ((0 : Nat) : Int) := rfl
      rw [e2, ha 0 (by omega), show p - 1 - i = 0 by omega, Nat.sub_zero, hc]
      rfl
    · rw [show (i : Int) + 1 = ((i + 1 : Nat) : Int) by omega, ha (i + 1) (by omega)]
      congr 1
      omega
  · rw [wsum_rev, bl_sum]
    exact h.neg (fun j _ => hall j) h0 hc
  · intro i j hij hj he
    rw [hlen] at hj
    rw [ha i (by omega), ha j hj] at he
    have h1 : bk ms ls (p - i + i) c = bk ms ls (p - j + i) c := by rw [bk_add, bk_add, he]
    rw [show p - i + i = p by omega, hc] at h1
    rcases hmin (p - j + i) (by omega) with h2 | h2
    · omega
    · exact h2 h1.symm
theorem NegC.no {ms : List LK} {n : Nat} {l : List Int} (h : NegC ms n l) {p : Int → Int} (hp : Pot ms p) : False := by
  have := cyc_pos hp h.inr h.chn
  have := h.neg
  omega
theorem NS.congr {ms : List LK} {n r T : Nat} {i : Int} {d ls d' ls' : Int → Int} {ti rd : Int → Nat} (hg : Gd ms n) (h : NS ms n r i T d ls ti rd) (hd : ∀ v : Int, 0 ≤ v → v < n → d v = d' v) (hl : ∀ v : Int, 0 ≤ v → v < n → ls v = ls' v) : NS ms n r i T d' ls' ti rd :=
  ⟨fun v h0 hv hr => by rw [← hl v h0 hv]; exact h.idx v h0 hv hr,
   fun v h0 hv hr => by
    have h1 := h.idx v h0 hv hr
    have h2 := hg.a _ h1.1.1 h1.1.2
    rw [← hl v h0 hv, ← hd v h0 hv, ← hd _ h2.1 h2.2]
    exact h.inv v h0 hv hr,
   h.tim,
   fun v h0 hv => by rw [← hl v h0 hv]; exact h.rnd v h0 hv,
   fun j h0 hj q hq hq0 hlt => by
    have h2 := hg.a _ h0 hj
    have h3 := hg.b _ h0 hj
    rw [← hd _ h2.1 h2.2, ← hd _ h3.1 h3.2]
    exact h.old j h0 hj q hq hq0 hlt,
   h.max⟩
theorem NS.zero {ms : List LK} {n : Nat} {i : Int} {ls d : Int → Int} : NS ms n 0 i 0 d ls (fun _ => 0) (fun _ => 0) :=
  ⟨fun v _ _ h => absurd h (Nat.lt_irrefl 0), fun v _ _ h => absurd h (Nat.lt_irrefl 0), fun _ => Nat.le_refl 0, fun _ _ _ => .inr rfl, fun j _ _ q hq h => by
    split at hq <;> omega, fun _ => Nat.le_refl 0⟩
theorem NS.put {ms : List LK} {n r T : Nat} {i : Int} {d ls : List Int} {ti rd : Int → Nat} (hg : Gd ms n) (h : NS ms n r i T (gt d) (gt ls) ti rd) (hr : 0 < r) (h0 : 0 ≤ i) (hi : i < ms.length) (ld : d.length = n) (ll : ls.length = n) (hl : gt d (gt ms i).a + wt ms i < gt d (gt ms i).b) :
    NS ms n r (i + 1) (T + 1) (gt (st d (gt ms i).b (gt d (gt ms i).a + wt ms i))) (gt (st ls (gt ms i).b i)) (fset ti (gt ms i).b (T + 1)) (fset rd (gt ms i).b r) := by
  have hB := hg.b i h0 hi
  refine (h.low hg hr h0 hi hl).congr hg (fun v h1 h2 => ?_) (fun v h1 h2 => ?_)
  · rw [gt_st _ (by omega) h1]; rfl
  · rw [gt_st _ (by omega) h1]; rfl
end Go.Proofs.Ytkhgglkkdnemlaa
namespace Go.Proofs.Ytkhgglkkdnemlaa
open Go Go.Fx
section
variable {X : List Nat} {w0 : World} {M0 : List Ent} {I0 : List Imm}
set_option maxRecDepth 100000 in
set_option maxHeartbeats 4000000 in
theorem gNegative_all {p : Option Addr} {n m c : Nat} {ms : List LK} {Q : Value → List Ent → List Imm → Prop} (hn : n ≤ 10) (hm : ms.length = m) (hm2 : m ≤ 24) (hg : Gd ms n) (hp : slI p (recs eK ms) ∈ I0)
    (h1 : ∀ (q : Option Addr) (c1 : Nat) (l : List Int), NegC ms n l → Q (.tuple #[.slice q l.length c1, .int .i64 0]) M0 (slI q (recs (eI .i64) l) :: I0))
    (h2 : hasFix ms (fun v => 0 ≤ v ∧ v < (n : Int)) → Q (.tuple #[.slice none 0 0, .int .i64 6]) M0 I0) :
    CD Try.prog 37 [gv n p m c] X w0 M0 I0 Q := by
  have hC := fun M0 I0 h => gCheck_ok (X := X) (w0 := w0) (M0 := M0) (I0 := I0) (p := p) (N := n) (ms := ms) (c := c) hm (by omega) h
  rw [gcode_gd (by omega) (by omega) hg] at hC
  refine enterD1 Try.func37 rfl Try.ntmps37 rfl ?_
  refine TD_seq ?_
  refine TD_region ?_
  (refine RD_boxA rfl rfl rfl ?_; intro b1; refine ⟨okF, ?_⟩)
  refine RD_freezeB .here ?_
  repeat (refine wXh ?_)
  (refine RD_callS rfl (hC _ _ memF) rfl rfl ?_; rintro _ _ _ ⟨rfl, rfl, rfl⟩; refine ⟨okF, ?_⟩)
  repeat (refine wXh ?_)
  refine TD_cutT (fun G M I => ∃ b5 b6 : Nat, G = [(1, .pointer (some ⟨b1, 0, none⟩)), (5, .slice (some ⟨b5, 0, none⟩) n n), (6, .slice (some ⟨b6, 0, none⟩) n n)] ∧ M = .blk b5 (recs (eI .i64) (List.replicate n 0)) 3 :: .blk b6 (recs (eI .i64) (List.replicate n 0)) 3 :: M0 ∧ I = slI (some ⟨b1, 0, none⟩) [.int .i64 n, .slice p m c] :: I0) ?_ ?_
  · ((repeat refine TD_seq ?_); refine TD_rest (M0) (slI (some ⟨b1, 0, none⟩) [.int .i64 n, .slice p m c] :: I0) mixed ?_)
    refine ND_restPre (fuel := 4) (listed' := #[true, true, false, true, true, false, false, false]) [0, 1, 3, 4] [2, 1, 2, 1] subF incF (by kernel_rfl) (by kernel_rfl) rfl rfl ?_
    repeat (refine wXh ?_)
    refine ND_restFork (fuel := 3) (i := 2) (j := 5) (by kernel_rfl) ?_ ?_
    · (refine RD_makeX (n) rfl rfl (by omega) (by omega) (by omega) (by omega) (made_int _ _) rfl rfl ?_; intro b5; refine ⟨okF, ?_⟩)
      refine RD_nil ?_
      refine ND_restEnd [6, 5, 7] [1, 0, 0] subF incF (by kernel_rfl) (by kernel_rfl) rfl rfl ?_
      repeat (refine wXh ?_)
      (refine RD_makeX (n) rfl rfl (by omega) (by omega) (by omega) (by omega) (made_int _ _) rfl rfl ?_; intro b6; refine ⟨okF, ?_⟩)
      repeat (refine wXh ?_)
      refine ND_cut _ _ _ subG subF incF ⟨b5, b6, rfl, rfl, rfl⟩
    · (refine RD_makeX (n) rfl rfl (by omega) (by omega) (by omega) (by omega) (made_int _ _) rfl rfl ?_; intro b6; refine ⟨okF, ?_⟩)
      refine RD_nil ?_
      refine ND_restEnd [2, 6, 7] [0, 0, 0] subF incF (by kernel_rfl) (by kernel_rfl) rfl rfl ?_
      repeat (refine wXh ?_)
      (refine RD_makeX (n) rfl rfl (by omega) (by omega) (by omega) (by omega) (made_int _ _) rfl rfl ?_; intro b5; refine ⟨okF, ?_⟩)
      repeat (refine wXh ?_)
      refine ND_cut _ _ _ subG subF incF ⟨b5, b6, rfl, rfl, rfl⟩
  rintro G M I ⟨b5, b6, rfl, rfl, rfl⟩
  repeat (refine wXh ?_)
  refine TD_loop [1, 5, 6, 26] rfl (fun k G M I => ∃ (t T : Nat) (x : Int) (d ls : List Int) (ti rd : Int → Nat), t ≤ n + 1 ∧ k = n + 1 - t ∧ T ≤ t * 24 ∧ d.length = n ∧ ls.length = n ∧ NS ms n t (ms.length : Int) T (gt d) (gt ls) ti rd ∧ (∀ v : Int, 0 ≤ v → v < n → (gt d v).natAbs ≤ T * 1073741824) ∧ ((x = -1 ∧ (t = 0 ∨ Pot ms (gt d))) ∨ (0 ≤ x ∧ x < n ∧ rd x = t ∧ 0 < t)) ∧ G = [(7, .int .i64 x), (27, .int .i64 t)] ∧ M = .blk b5 (recs (eI .i64) d) 3 :: .blk b6 (recs (eI .i64) ls) 3 :: M0 ∧ I = slI (some ⟨b1, 0, none⟩) [.int .i64 n, .slice p m c] :: I0) (n + 1) _ _ _ subG subF incF (⟨0, 0, -1, List.replicate n 0, List.replicate n 0, fun _ => 0, fun _ => 0, by omega, rfl, by omega, List.length_replicate, List.length_replicate, NS.zero, fun v h0 hv => by rw [gt_rep ⟨h0, hv⟩]; decide, .inl ⟨rfl, .inl rfl⟩, rfl, rfl, rfl⟩) ?_
  rintro kk G M I ⟨t, T, x, d, ls, ti, rd, ht, rfl, hT, ld, ll, hns, hbd, hx, rfl, rfl, rfl⟩
  by_cases htn : t < n + 1
  · have hnx := hns.next
    clear hns hx
    repeat (refine wXh ?_)
    refine TD_loop [1, 5, 6, 26, 27, 30, 31] rfl (fun k G M I => ∃ (i T : Nat) (x : Int) (d ls : List Int) (ti rd : Int → Nat), i ≤ m ∧ k = m - i ∧ T ≤ t * 24 + i ∧ d.length = n ∧ ls.length = n ∧ NS ms n (t + 1) (i : Int) T (gt d) (gt ls) ti rd ∧ (∀ v : Int, 0 ≤ v → v < n → (gt d v).natAbs ≤ T * 1073741824) ∧ ((x = -1 ∧ (∀ j : Nat, j < i → gt d (gt ms j).b ≤ gt d (gt ms j).a + wt ms j)) ∨ (0 ≤ x ∧ x < n ∧ rd x = t + 1)) ∧ G = [(7, .int .i64 x), (32, .int .i64 i)] ∧ M = .blk b5 (recs (eI .i64) d) 3 :: .blk b6 (recs (eI .i64) ls) 3 :: M0 ∧ I = slI (some ⟨b1, 0, none⟩) [.int .i64 n, .slice p m c] :: I0) (m) _ _ _ subG subF incF (⟨0, T, -1, d, ls, ti, rd, by omega, rfl, by omega, ld, ll, hnx, hbd, .inl ⟨rfl, fun j hj => by omega⟩, rfl, rfl, rfl⟩) ?_
    clear hnx hbd hT ld ll T x d ls ti rd
    rintro kk G M I ⟨i, T, x, d, ls, ti, rd, hi, rfl, hT, ld, ll, hns, hbd, hx, rfl, rfl, rfl⟩
    by_cases him : i < m
    · have hA := hg.a (i : Int) (by omega) (by omega)
      have hB := hg.b (i : Int) (by omega) (by omega)
      have hW := hg.w (i : Int) (by omega) (by omega)
      have hbA := hbd _ hA.1 hA.2
      have hTT : T * 1073741824 ≤ 300 * 1073741824 := Nat.mul_le_mul_right _ (by omega)
      have hput := hns.put hg (by omega) (by omega) (by omega) ld ll (i := (i : Int))
      have hsame := hns.same (i := (i : Int))
      unfold wt at hW hput hsame
      by_cases hlt : gt d (gt ms (i : Int)).a + (gt ms (i : Int)).w < gt d (gt ms (i : Int)).b
      · have hns2 := hput hlt
        have hbd2 : ∀ v : Int, 0 ≤ v → v < n → (gt (st d (gt ms (i : Int)).b (gt d (gt ms (i : Int)).a + (gt ms (i : Int)).w)) v).natAbs ≤ (T + 1) * 1073741824 := fun v h0 hv => by
          rw [gt_st _ (by omega) h0]
          split
          · omega
          · exact Nat.le_trans (hbd v h0 hv) (Nat.mul_le_mul_right _ (Nat.le_succ _))
        have hrd : fset rd (gt ms (i : Int)).b (t + 1) (gt ms (i : Int)).b = t + 1 := fset_at _ _ _
        clear hput hsame hx
        repeat (refine wXh ?_)
        (refine RD_alloc rfl rfl ?_; intro b9; refine ⟨okF, ?_⟩)
        repeat (refine wXh ?_)
        (repeat refine TD_seq ?_); refine TD_drawnJ 0 [0, 1, 2, 3, 4, 5, 6, 7, 8] [0, 0, 0, 0, 0, 0, 0, 0, 0] mixed (by kernel_rfl) ?_
        repeat (refine wXh ?_)
        (repeat refine TD_seq ?_); refine TD_drawnW (.blk b9 (eK (gt ms (i : Int))) 39 :: M0) (slI (some ⟨b1, 0, none⟩) [.int .i64 n, .slice p m c] :: I0) [0, 1, 2, 3, 4, 5, 6, 7, 8, 9, 10, 11, 12, 13, 14] [0, 0, 0, 1, 1, 1, 0, 1, 2, 2, 0, 0, 0, 0, 0] subF incF mixed (by kernel_rfl) ?_
        repeat (refine wXh ?_)
        refine ND_again (m - (i + 1)) _ _ _ (by first | omega | (simp only [List.length_append, List.length_cons, List.length_nil]; omega)) subG subF incF (⟨i + 1, T + 1, _, _, _, _, _, by omega, rfl, by omega, by rw [st_len]; exact ld, by rw [st_len]; exact ll, hns2, hbd2, .inr ⟨hB.1, hB.2, hrd⟩, rfl, rfl, rfl⟩)
      · have hns2 := hsame hlt
        clear hput hsame
        repeat (refine wXh ?_)
        (refine RD_alloc rfl rfl ?_; intro b9; refine ⟨okF, ?_⟩)
        repeat (refine wXh ?_)
        (repeat refine TD_seq ?_); refine TD_drawnJ 0 [0, 1, 2, 3, 4, 5, 6, 7, 8] [0, 0, 0, 0, 0, 0, 0, 0, 0] mixed (by kernel_rfl) ?_
        repeat (refine wXh ?_)
        refine ND_again (m - (i + 1)) _ _ _ (by first | omega | (simp only [List.length_append, List.length_cons, List.length_nil]; omega)) subG subF incF (⟨i + 1, T, x, d, ls, ti, rd, by omega, rfl, by omega, ld, ll, hns2, hbd, hx.imp (fun h => ⟨h.1, fun j hj => ?_⟩) id, rfl, rfl, rfl⟩)
        by_cases e : j = i
        · subst e; unfold wt; omega
        · exact h.2 j (by omega)
    · obtain rfl : i = m := by omega
      subst hm
      repeat (refine wXh ?_)
      refine ND_again (n + 1 - (t + 1)) _ _ _ (by first | omega | (simp only [List.length_append, List.length_cons, List.length_nil]; omega)) subG subF incF (⟨t + 1, T, x, d, ls, ti, rd, by omega, rfl, by omega, ld, ll, hns, hbd, hx.imp (fun h => ⟨h.1, .inr (fun j h0 hj => ?_)⟩) (fun h => ⟨h.1, h.2.1, h.2.2, by omega⟩), rfl, rfl, rfl⟩)
      have := h.2 j.toNat (by omega)
      rwa [Int.toNat_of_nonneg h0] at this
  · obtain rfl : t = n + 1 := by omega
    rcases hx with ⟨rfl, hx⟩ | ⟨hx0, hxn, hxr, _⟩
    · have hpot : Pot ms (gt d) := hx.resolve_left (by omega)
      have hfix := hpot.fix (S := fun v => 0 ≤ v ∧ v < (n : Int)) (M := T * 1073741824) (fun s hs => by have := hbd s hs.1 hs.2; omega)
      clear hns hbd hT
      repeat (refine wXh ?_)
      refine ND_rets [2, 3] (by first | exact .inl rfl | exact .inr rfl) rfl rfl rfl _ _ subF incF (h2 hfix)
    have hch := hns.chain hg ⟨hx0, hxn⟩ (Nat.le_of_eq hxr.symm)
    obtain ⟨q, hq0, hqn, hqc, hqm, hqa⟩ := hns.cycle hg ⟨hx0, hxn⟩ (Nat.le_of_eq hxr.symm)
    have hneg := NegC.of hns hq0 hqn hqc hqm hqa
    have hid : ∀ v : Int, 0 ≤ v → v < n → 0 < rd v → (0 ≤ gt ls v ∧ gt ls v < m) := fun v a b e => by
      have := (hns.idx v a b e).1
      rwa [hm] at this
    clear hns hbd hT hxr
    obtain ⟨y, hy⟩ : ∃ y, bk ms (gt ls) n x = y := ⟨_, rfl⟩
    rw [hy] at hqc hqm hqa hneg
    repeat (refine wXh ?_)
    refine TD_loop [1, 6, 69] rfl (fun k G M I => ∃ j : Nat, j ≤ n ∧ k = n - j ∧ G = [(7, .int .i64 (bk ms (gt ls) j x)), (70, .int .i64 j)] ∧ M = .blk b5 (recs (eI .i64) d) 3 :: .blk b6 (recs (eI .i64) ls) 3 :: M0 ∧ I = slI (some ⟨b1, 0, none⟩) [.int .i64 n, .slice p m c] :: I0) (n) _ _ _ subG subF incF (⟨0, by omega, rfl, rfl, rfl, rfl⟩) ?_
    rintro kk G M I ⟨j, hj, rfl, rfl, rfl, rfl⟩
    by_cases hjn : j < n
    · have h3 := hch j (by omega)
      have h4 := hid _ h3.1.1 h3.1.2 (by omega)
      have h5 : (gt ms (gt ls (bk ms (gt ls) j x))).a = bk ms (gt ls) (j + 1) x := rfl
      generalize bk ms (gt ls) j x = u at *
      repeat (refine wXh ?_)
      (repeat refine TD_seq ?_); refine TD_drawnJ 0 [0, 1, 2, 3, 4, 5, 6, 7, 8, 9] [0, 0, 0, 0, 0, 0, 0, 0, 0, 0] mixed (by kernel_rfl) ?_
      repeat (refine wXh ?_)
      rw [h5]
      refine ND_again (n - (j + 1)) _ _ _ (by first | omega | (simp only [List.length_append, List.length_cons, List.length_nil]; omega)) subG subF incF (⟨j + 1, by omega, rfl, rfl, rfl, rfl⟩)
    · obtain rfl : j = n := by omega
      rw [hy]
      clear hch hy
      repeat (refine wXh ?_)
      refine TD_row0 3 1 ?_
      refine TD_loop [1, 6, 7] rfl (fun k G M I => ∃ (i : Nat) (q2 : Option Addr) (c2 : Nat) (xs : List Int), i ≤ q ∧ k = q - i ∧ xs = bl ms (gt ls) i y ∧ G = [(11, .slice q2 xs.length c2), (12, .int .i64 (bk ms (gt ls) i y))] ∧ M = .row q2 xs.length c2 (recs (eI .i64) xs) 3 1 :: .blk b5 (recs (eI .i64) d) 3 :: .blk b6 (recs (eI .i64) ls) 3 :: M0 ∧ I = slI (some ⟨b1, 0, none⟩) [.int .i64 j, .slice p m c] :: I0) (q) _ _ _ subG subF incF (⟨0, none, 0, [], by omega, rfl, rfl, rfl, rfl, rfl⟩) ?_
      rintro kk G M I ⟨i, q2, c2, xs, hi, rfl, hxs, rfl, rfl, rfl⟩
      have hxl : xs.length = i := by rw [hxs, bl_len]
      by_cases hiq : i < q
      · have h3 := hqa i
        have h4 := hid _ h3.1.1 h3.1.2 h3.2
        have h5 : (gt ms (gt ls (bk ms (gt ls) i y))).a = bk ms (gt ls) (i + 1) y := rfl
        have h6 : xs ++ [gt ls (bk ms (gt ls) i y)] = bl ms (gt ls) (i + 1) y := by rw [hxs]; rfl
        have h7 := hqm i hiq
        generalize bk ms (gt ls) i y = u at *
        rcases h7 with h7 | h7
        · have hx0 : xs.length = 0 := by omega
          repeat (refine wXh ?_)
          (refine RD_vals (cs := recs (eI .i64) [gt ls u]) ([.int .i64 (gt ls u)]) rfl rfl (by intro v hv; repeat (first | exact absurd hv (List.not_mem_nil) | (rcases List.mem_cons.1 hv with rfl | hv; · rfl))) (by omega) rfl rfl rfl ?_; intro b4; refine ⟨okF, ?_⟩)
          (refine RD_appR (ys := [gt ls u]) 1 rfl rfl rfl ?_ (by decide) rfl (by omega) (by omega) rfl rfl ?_; (· first | exact Src.blk memF | exact Src.row memF | exact Src.imm memF (by first | assumption | exact .inl (Ok.mk _ _))); intro a2 c3; refine ⟨okF, ?_⟩)
          repeat (refine wXh ?_)
          refine TD_w2 (M' := .row a2 (xs ++ [gt ls u]).length c3 (recs (eI .i64) (xs ++ [gt ls u])) 3 1 :: .blk b5 (recs (eI .i64) d) 3 :: .blk b6 (recs (eI .i64) ls) 3 :: M0) subF Inc.refl ?_
          (repeat refine TD_seq ?_); refine TD_drawnJ 0 [0, 1, 2, 3, 4, 5, 6, 7, 8, 9] [0, 0, 0, 0, 0, 0, 0, 0, 0, 0] mixed (by kernel_rfl) ?_
          repeat (refine wXh ?_)
          rw [h5]
          refine ND_again (q - (i + 1)) _ _ _ (by first | omega | (simp only [List.length_append, List.length_cons, List.length_nil]; omega)) subG subF incF (⟨i + 1, a2, c3, xs ++ [gt ls u], by omega, rfl, h6, rfl, rfl, rfl⟩)
        · by_cases hx0 : i = 0
          · have hx1 : xs.length = 0 := by omega
            repeat (refine wXh ?_)
            (refine RD_vals (cs := recs (eI .i64) [gt ls u]) ([.int .i64 (gt ls u)]) rfl rfl (by intro v hv; repeat (first | exact absurd hv (List.not_mem_nil) | (rcases List.mem_cons.1 hv with rfl | hv; · rfl))) (by omega) rfl rfl rfl ?_; intro b4; refine ⟨okF, ?_⟩)
            (refine RD_appR (ys := [gt ls u]) 1 rfl rfl rfl ?_ (by decide) rfl (by omega) (by omega) rfl rfl ?_; (· first | exact Src.blk memF | exact Src.row memF | exact Src.imm memF (by first | assumption | exact .inl (Ok.mk _ _))); intro a2 c3; refine ⟨okF, ?_⟩)
            repeat (refine wXh ?_)
            refine TD_w2 (M' := .row a2 (xs ++ [gt ls u]).length c3 (recs (eI .i64) (xs ++ [gt ls u])) 3 1 :: .blk b5 (recs (eI .i64) d) 3 :: .blk b6 (recs (eI .i64) ls) 3 :: M0) subF Inc.refl ?_
            (repeat refine TD_seq ?_); refine TD_drawnJ 0 [0, 1, 2, 3, 4, 5, 6, 7, 8, 9] [0, 0, 0, 0, 0, 0, 0, 0, 0, 0] mixed (by kernel_rfl) ?_
            repeat (refine wXh ?_)
            rw [h5]
            refine ND_again (q - (i + 1)) _ _ _ (by first | omega | (simp only [List.length_append, List.length_cons, List.length_nil]; omega)) subG subF incF (⟨i + 1, a2, c3, xs ++ [gt ls u], by omega, rfl, h6, rfl, rfl, rfl⟩)
          · have hx1 : xs.length ≠ 0 := by omega
            repeat (refine wXh ?_)
            (refine RD_vals (cs := recs (eI .i64) [gt ls u]) ([.int .i64 (gt ls u)]) rfl rfl (by intro v hv; repeat (first | exact absurd hv (List.not_mem_nil) | (rcases List.mem_cons.1 hv with rfl | hv; · rfl))) (by omega) rfl rfl rfl ?_; intro b4; refine ⟨okF, ?_⟩)
            (refine RD_appR (ys := [gt ls u]) 1 rfl rfl rfl ?_ (by decide) rfl (by omega) (by omega) rfl rfl ?_; (· first | exact Src.blk memF | exact Src.row memF | exact Src.imm memF (by first | assumption | exact .inl (Ok.mk _ _))); intro a2 c3; refine ⟨okF, ?_⟩)
            repeat (refine wXh ?_)
            refine TD_w2 (M' := .row a2 (xs ++ [gt ls u]).length c3 (recs (eI .i64) (xs ++ [gt ls u])) 3 1 :: .blk b5 (recs (eI .i64) d) 3 :: .blk b6 (recs (eI .i64) ls) 3 :: M0) subF Inc.refl ?_
            (repeat refine TD_seq ?_); refine TD_drawnJ 0 [0, 1, 2, 3, 4, 5, 6, 7, 8, 9] [0, 0, 0, 0, 0, 0, 0, 0, 0, 0] mixed (by kernel_rfl) ?_
            repeat (refine wXh ?_)
            rw [h5]
            refine ND_again (q - (i + 1)) _ _ _ (by first | omega | (simp only [List.length_append, List.length_cons, List.length_nil]; omega)) subG subF incF (⟨i + 1, a2, c3, xs ++ [gt ls u], by omega, rfl, h6, rfl, rfl, rfl⟩)
      · obtain rfl : i = q := by omega
        have hx1 : xs.length ≠ 0 := by omega
        rw [hqc]
        rw [← hxs] at hneg
        have h1' := h1 q2 c2 _ hneg
        rw [List.length_reverse] at h1'
        clear h1 h2 hqa hqm hid
        repeat (refine wXh ?_)
        (refine RD_callS rfl (ReverseR_ok (by omega)) rfl rfl ?_; rintro _ _ _ ⟨rfl, rfl, rfl⟩; refine ⟨okF, ?_⟩)
        repeat (refine wXh ?_)
        refine ND_rets [2, 3] (by first | exact .inl rfl | exact .inr rfl) rfl rfl rfl _ _ subF incF (h1')
end
end Go.Proofs.Ytkhgglkkdnemlaa
namespace Go.Proofs.Ytkhgglkkdnemlaa
open Go Go.Fx
theorem fix_pot {ms : List LK} {n : Nat} (hg : Gd ms n) (h : hasFix ms (fun v => 0 ≤ v ∧ v < (n : Int))) : ∃ p, Pot ms p := by
  obtain ⟨F, hF⟩ := h
  refine ⟨fun v => (F v).getD 0, fun i h0 hi => ?_⟩
  obtain ⟨x, hx, _⟩ := hF.src _ (hg.a i h0 hi)
  obtain ⟨y, hy, hle⟩ := hF.closed i h0 hi x hx
  simp only [hx, hy, Option.getD_some]
  exact hle
section
variable {X : List Nat} {w0 : World} {M0 : List Ent} {I0 : List Imm}
theorem IndexR_ok {p : Option Addr} {l : List Int} {t c : Nat} {x : Int} (hl : l.length = t) (ht : t ≤ 100000) :
    CD Try.prog 63 [.slice p t c, .int .i64 x] X w0 (.row p t c (recs (eI .i64) l) 3 1 :: M0) I0 (fun v M I => M = .row p t c (recs (eI .i64) l) 3 1 :: M0 ∧ I0 = I ∧ ∃ r : Int, v = .int .i64 r ∧ (0 ≤ r ↔ x ∈ l)) := by
  refine enterD2 Try.func63 rfl Try.ntmps63 rfl ?_
  repeat (refine wXh ?_)
  refine TD_loop [0, 1, 7] rfl (fun k G M I => ∃ i : Nat, i ≤ t ∧ k = t - i ∧ (∀ j : Nat, j < i → gt l j ≠ x) ∧ G = [(8, .int .i64 i)] ∧ M = .row p t c (recs (eI .i64) l) 3 1 :: M0 ∧ I0 = I) (t) _ _ _ subG subF incF (⟨0, by omega, rfl, fun j hj => by omega, rfl, rfl, rfl⟩) ?_
  rintro kk G M I ⟨i, hi, rfl, hs, rfl, rfl, rfl⟩
  by_cases hit : i < t
  · by_cases he : x = gt l (i : Int)
    · repeat (refine wXh ?_)
      refine ND_ret1 (by first | exact .inl rfl | exact .inr rfl) rfl rfl _ _ subF incF (⟨rfl, rfl, (i : Int), rfl, ⟨fun _ => by rw [he, gt_get (by omega)]; exact List.getElem_mem _, fun _ => by omega⟩⟩)
    · repeat (refine wXh ?_)
      refine ND_again (t - (i + 1)) _ _ _ (by first | omega | (simp only [List.length_append, List.length_cons, List.length_nil]; omega)) subG subF incF (⟨i + 1, by omega, rfl, fun j hj => ?_, rfl, rfl, rfl⟩)
      by_cases e : j = i
      · subst e; exact fun h => he h.symm
      · exact hs j (by omega)
  · repeat (refine wXh ?_)
    refine ND_ret1 (by first | exact .inl rfl | exact .inr rfl) rfl rfl _ _ subF incF (⟨rfl, rfl, -1, rfl, ⟨fun h => by omega, fun h => by { obtain ⟨j, hj, e⟩ := List.mem_iff_getElem.1 h; exact absurd (by rw [gt_get hj]; exact e) (hs j (by omega)) }⟩⟩)
theorem ContainsR_ok {p : Option Addr} {l : List Int} {t c : Nat} {x : Int} (hl : l.length = t) (ht : t ≤ 100000) :
    CD Try.prog 38 [.slice p t c, .int .i64 x] X w0 (.row p t c (recs (eI .i64) l) 3 1 :: M0) I0 (fun v M I => M = .row p t c (recs (eI .i64) l) 3 1 :: M0 ∧ I0 = I ∧ v = .bool (B (x ∈ l))) := by
  refine enterD2 Try.func38 rfl Try.ntmps38 rfl ?_
  repeat (refine wXh ?_)
  (refine RD_callS rfl (IndexR_ok hl ht) rfl rfl ?_; rintro _ _ _ ⟨rfl, rfl, r, rfl, h⟩; refine ⟨okF, ?_⟩)
  repeat (refine wXh ?_)
  refine ND_ret1 (by first | exact .inl rfl | exact .inr rfl) rfl rfl _ _ subF incF (⟨rfl, rfl, congrArg Value.bool (B_congr h)⟩)
theorem Negative_bad {p : Option Addr} {N : Int} {ms : List LK} {m c : Nat} (hm : ms.length = m) (hm2 : (m : Int) ≤ 9223372036854775807) (hc : gcode N ms ≠ 0) (hp : slI p (recs eK ms) ∈ I0) :
    CD Try.prog 37 [gv N p m c] X w0 M0 I0 (fun v M I => M0 = M ∧ I0 = I ∧ v = .tuple #[.slice none 0 0, .int .i64 (gcode N ms)]) := by
  have hC := fun M0 I0 h => gCheck_ok (X := X) (w0 := w0) (M0 := M0) (I0 := I0) (p := p) (N := N) (ms := ms) (c := c) hm hm2 h
  generalize gcode N ms = e at *
  refine enterD1 Try.func37 rfl Try.ntmps37 rfl ?_
  refine TD_seq ?_
  refine TD_region ?_
  (refine RD_boxA rfl rfl rfl ?_; intro b2; refine ⟨okF, ?_⟩)
  refine RD_freezeB .here ?_
  repeat (refine wXh ?_)
  (refine RD_callS rfl (hC _ _ memF) rfl rfl ?_; rintro _ _ _ ⟨rfl, rfl, rfl⟩; refine ⟨okF, ?_⟩)
  repeat (refine wXh ?_)
  refine ND_rets [2, 3] (by first | exact .inl rfl | exact .inr rfl) rfl rfl rfl _ _ subF incF (⟨rfl, rfl, rfl⟩)
theorem Potentials_bad {p : Option Addr} {N : Int} {ms : List LK} {m c : Nat} (hm : ms.length = m) (hm2 : (m : Int) ≤ 9223372036854775807) (hc : gcode N ms ≠ 0) (hp : slI p (recs eK ms) ∈ I0) :
    CD Try.prog 21 [gv N p m c] X w0 M0 I0 (fun v M I => M0 = M ∧ I0 = I ∧ v = .tuple #[.slice none 0 0, .int .i64 (gcode N ms)]) := by
  have hC := fun M0 I0 h => gCheck_ok (X := X) (w0 := w0) (M0 := M0) (I0 := I0) (p := p) (N := N) (ms := ms) (c := c) hm hm2 h
  generalize gcode N ms = e at *
  refine enterD1 Try.func21 rfl Try.ntmps21 rfl ?_
  refine TD_seq ?_
  refine TD_region ?_
  (refine RD_boxA rfl rfl rfl ?_; intro b2; refine ⟨okF, ?_⟩)
  refine RD_freezeB .here ?_
  repeat (refine wXh ?_)
  (refine RD_callS rfl (hC _ _ memF) rfl rfl ?_; rintro _ _ _ ⟨rfl, rfl, rfl⟩; refine ⟨okF, ?_⟩)
  repeat (refine wXh ?_)
  refine ND_rets [2, 3] (by first | exact .inl rfl | exact .inr rfl) rfl rfl rfl _ _ subF incF (⟨rfl, rfl, rfl⟩)
theorem gNegative_no {p : Option Addr} {n m c : Nat} {ms : List LK} (hn : n ≤ 10) (hm : ms.length = m) (hm2 : m ≤ 24) (hg : Gd ms n) (hx : hasFix ms (fun v => 0 ≤ v ∧ v < (n : Int))) (hp : slI p (recs eK ms) ∈ I0) :
    CD Try.prog 37 [gv n p m c] X w0 M0 I0 (fun v M I => M0 = M ∧ I0 = I ∧ v = .tuple #[.slice none 0 0, .int .i64 6]) :=
  gNegative_all hn hm hm2 hg hp (fun q c1 l h => by
    obtain ⟨f, hf⟩ := fix_pot hg hx
    exact (h.no hf).elim) (fun _ => ⟨rfl, rfl, rfl⟩)
theorem gNegative_ok {p : Option Addr} {n m c : Nat} {ms : List LK} (hn : n ≤ 10) (hm : ms.length = m) (hm2 : m ≤ 24) (hg : Gd ms n) (hx : ¬ hasFix ms (fun v => 0 ≤ v ∧ v < (n : Int))) (hp : slI p (recs eK ms) ∈ I0) :
    CD Try.prog 37 [gv n p m c] X w0 M0 I0 (fun v M I => M0 = M ∧ ∃ (q : Option Addr) (c1 : Nat) (l : List Int), v = .tuple #[.slice q l.length c1, .int .i64 0] ∧ NegC ms n l ∧ I = slI q (recs (eI .i64) l) :: I0) :=
  gNegative_all hn hm hm2 hg hp (fun q c1 l h => ⟨rfl, q, c1, l, rfl, h, rfl⟩) (fun h => absurd h hx)
set_option maxRecDepth 100000 in
set_option maxHeartbeats 4000000 in
theorem LNegative_ok {p : Option Addr} {N : Int} {ms : List LK} {c : Nat} (hm2 : (ms.length : Int) ≤ 9223372036854775807) (hp : slI p (recs eK ms) ∈ I0) :
    CD Try.prog 9 [gv N p ms.length c] X w0 M0 I0 (fun v _ _ => v = .bool true) := by
  have hR := fun M0 I0 h => rgCheck_ok (X := X) (w0 := w0) (M0 := M0) (I0 := I0) (p := p) (N := N) (ms := ms) (c := c) rfl hm2 h
  obtain ⟨m, hm⟩ : ∃ m, ms.length = m := ⟨_, rfl⟩
  rw [hm] at hR hm2
  rw [hm]
  refine enterD1 Try.func9 rfl Try.ntmps9 rfl ?_
  refine TD_seq ?_
  refine TD_region ?_
  (refine RD_boxA rfl rfl rfl ?_; intro b1; refine ⟨okF, ?_⟩)
  refine RD_freezeB .here ?_
  repeat (refine wXh ?_)
  (refine RD_callS rfl (known11_ok) rfl rfl ?_; rintro _ _ _ ⟨rfl, rfl, rfl⟩; refine ⟨okF, ?_⟩)
  repeat (refine wXh ?_)
  (refine RD_callS rfl (few_ok) rfl rfl ?_; rintro _ _ _ ⟨rfl, rfl, rfl⟩; refine ⟨okF, ?_⟩)
  by_cases hf : N ≤ 10 ∧ m ≤ 24
  rotate_left
  · rw [B_false hf]
    repeat (refine wXh ?_)
    refine ND_ret1 (by first | exact .inl rfl | exact .inr rfl) rfl rfl _ _ subF incF (rfl)
  rw [B_true hf]
  by_cases hc : gcode N ms = 0
  rotate_left
  · have hB1 := fun M0 I0 h => Negative_bad (X := X) (w0 := w0) (M0 := M0) (I0 := I0) (p := p) (N := N) (ms := ms) (c := c) hm hm2 hc h
    have hB2 := fun M0 I0 h => Potentials_bad (X := X) (w0 := w0) (M0 := M0) (I0 := I0) (p := p) (N := N) (ms := ms) (c := c) hm hm2 hc h
    generalize gcode N ms = e at *
    repeat (refine wXh ?_)
    (refine RD_callS rfl (hB1 _ _ memF) rfl rfl ?_; rintro _ _ _ ⟨rfl, rfl, rfl⟩; refine ⟨okF, ?_⟩)
    repeat (refine wXh ?_)
    (refine RD_callS rfl (hB2 _ _ memF) rfl rfl ?_; rintro _ _ _ ⟨rfl, rfl, rfl⟩; refine ⟨okF, ?_⟩)
    repeat (refine wXh ?_)
    (refine RD_callS rfl (hR _ _ memF) rfl rfl ?_; rintro _ _ _ ⟨rfl, rfl, rfl⟩; refine ⟨okF, ?_⟩)
    repeat (refine wXh ?_)
    refine ND_ret1 (by first | exact .inl rfl | exact .inr rfl) rfl rfl _ _ subF incF (congrArg Value.bool (B_true rfl))
  rw [hc] at hR
  obtain ⟨n, rfl, hn, hl, hg⟩ := gd_gcode hc
  rw [hm] at hl
  clear hc
  by_cases hx : hasFix ms (fun v => 0 ≤ v ∧ v < (n : Int))
  · repeat (refine wXh ?_)
    (refine RD_callS rfl (gNegative_no (by omega) hm (by omega) hg hx memF) rfl rfl ?_; rintro _ _ _ ⟨rfl, rfl, rfl⟩; refine ⟨okF, ?_⟩)
    repeat (refine wXh ?_)
    (refine RD_callS rfl (Potentials_ok (by omega) hm (by omega) hg hx memF) rfl rfl ?_; rintro _ _ _ ⟨rfl, d, kn, q3, c3, rfl, hF, ld, lk, rfl⟩; refine ⟨okF, ?_⟩)
    repeat (refine wXh ?_)
    (refine RD_callS rfl (hR _ _ memF) rfl rfl ?_; rintro _ _ _ ⟨rfl, rfl, rfl⟩; refine ⟨okF, ?_⟩)
    repeat (refine wXh ?_)
    (refine RD_callS rfl (rPot_ok (by omega) hm (by omega) hg hF ld memF) rfl rfl ?_; rintro _ _ _ ⟨rfl, q4, c4, rfl, hdo, hdk, rfl⟩; refine ⟨okF, ?_⟩)
    repeat (refine wXh ?_)
    refine ND_ret1 (by first | exact .inl rfl | exact .inr rfl) rfl rfl _ _ subF incF (congrArg Value.bool (B_true rfl))
  repeat (refine wXh ?_)
  (refine RD_callS rfl (gNegative_ok (by omega) hm (by omega) hg hx memF) rfl rfl ?_; rintro _ _ _ ⟨rfl, q3, c3, l, rfl, hl3, rfl⟩; refine ⟨okF, ?_⟩)
  repeat (refine wXh ?_)
  (refine RD_callS rfl (Potentials_no (by omega) hm (by omega) hg hx memF) rfl rfl ?_; rintro _ _ _ ⟨rfl, rfl, rfl⟩; refine ⟨okF, ?_⟩)
  repeat (refine wXh ?_)
  (refine RD_callS rfl (hR _ _ memF) rfl rfl ?_; rintro _ _ _ ⟨rfl, rfl, rfl⟩; refine ⟨okF, ?_⟩)
  repeat (refine wXh ?_)
  (refine RD_callS rfl (rPot_no (by omega) hm (by omega) hg hx memF) rfl rfl ?_; rintro _ _ _ ⟨rfl, rfl, rfl⟩; refine ⟨okF, ?_⟩)
  obtain ⟨t, ht⟩ : ∃ t, l.length = t := ⟨_, rfl⟩
  have hpos := hl3.pos
  have hlen := hl3.len
  have hinr := hl3.inr
  rw [hm] at hinr
  have hcl := fun M0 I0 h1 h2 => Closed_ok (X := X) (w0 := w0) (M0 := M0) (I0 := I0) (p := p) (q := q3) (n := n) (c := c) (ct := c3) hm (by omega) ht (by omega) hinr h1 h2
  have hW := fun M0 I0 h1 h2 => rWeight_ok (X := X) (w0 := w0) (M0 := M0) (I0 := I0) (p := p) (q := q3) (n := n) (c := c) (ct := c3) hm (by omega) hg ht (by omega) hinr h1 h2
  have hCC := fun M0 I0 h1 h2 => CheckCycle_ok (X := X) (w0 := w0) (M0 := M0) (I0 := I0) (p := p) (q := q3) (n := n) (c := c) (ct := c3) (by omega) hm (by omega) hg ht (by omega) (.inr (.inr (.inr ⟨hl3.inr, hl3.chn, hl3.neg, rfl⟩))) h1 h2
  have hneg := hl3.neg
  generalize wsum ms l = ww at hW hneg
  rw [ht] at hpos hlen
  rw [ht]
  repeat (refine wXh ?_)
  (refine RD_vals (cs := recs (eI .i64) []) ([]) rfl rfl (by intro v hv; repeat (first | exact absurd hv (List.not_mem_nil) | (rcases List.mem_cons.1 hv with rfl | hv; · rfl))) (by omega) rfl rfl rfl ?_; intro b10; refine ⟨okF, ?_⟩; refine RD_toRow (mm := 0) 1 .here rfl (by omega) ?_)
  repeat (refine wXh ?_)
  refine TD_loop [1, 3, 4, 68, 69] rfl (fun k G M I => ∃ (i : Nat) (q5 : Option Addr) (c5 : Nat) (xs : List Int), i ≤ t ∧ k = t - i ∧ xs.length = i ∧ (∀ j : Nat, j < i → gt xs j = (gt ms (gt l j)).a) ∧ G = [(10, .slice q5 xs.length c5), (70, .int .i64 i)] ∧ M = .row q5 xs.length c5 (recs (eI .i64) xs) 3 1 :: M0 ∧ I = slI q3 (recs (eI .i64) l) :: slI (some ⟨b1, 0, none⟩) [.int .i64 n, .slice p m c] :: I0) (t) _ _ _ subG subF incF (⟨0, some ⟨b10, 0, none⟩, 0, [], by omega, rfl, rfl, fun j hj => by omega, rfl, rfl, rfl⟩) ?_
  rintro kk G M I ⟨i, q5, c5, xs, hi, rfl, hxl, hxs, rfl, rfl, rfl⟩
  by_cases hit : i < t
  · have h1 := inR_gt hinr (j := i) (by omega)
    obtain ⟨z, hz⟩ : ∃ z, gt l (i : Int) = z := ⟨_, rfl⟩
    have hno : ¬ (gt ms z).a ∈ xs := fun h => by
      obtain ⟨j, hj, e⟩ := List.mem_iff_getElem.1 h
      have h2 := hxs j (by omega)
      rw [gt_get hj] at h2
      exact hl3.dis j i (by omega) (by omega) (by rw [← h2, e, hz])
    rw [hz] at h1
    have hK := fun M0 I0 => ContainsR_ok (X := X) (w0 := w0) (M0 := M0) (I0 := I0) (p := q5) (l := xs) (t := xs.length) (c := c5) (x := (gt ms z).a) rfl (by omega)
    rw [B_false hno] at hK
    repeat (refine wXh ?_)
    rw [hz]
    repeat (refine wXh ?_)
    (refine RD_callS rfl (hK _ _) rfl rfl ?_; rintro _ _ _ ⟨rfl, rfl, rfl⟩; refine ⟨okF, ?_⟩)
    repeat (refine wXh ?_)
    (refine RD_vals (cs := recs (eI .i64) [(gt ms z).a]) ([.int .i64 (gt ms z).a]) rfl rfl (by intro v hv; repeat (first | exact absurd hv (List.not_mem_nil) | (rcases List.mem_cons.1 hv with rfl | hv; · rfl))) (by omega) rfl rfl rfl ?_; intro b4; refine ⟨okF, ?_⟩)
    (refine RD_appR (ys := [(gt ms z).a]) 1 rfl rfl rfl ?_ (by decide) rfl (by omega) (by omega) rfl rfl ?_; (· first | exact Src.blk memF | exact Src.row memF | exact Src.imm memF (by first | assumption | exact .inl (Ok.mk _ _))); intro a2 c2; refine ⟨okF, ?_⟩)
    repeat (refine wXh ?_)
    refine ND_again (t - (i + 1)) _ _ _ (by first | omega | (simp only [List.length_append, List.length_cons, List.length_nil]; omega)) subG subF incF (⟨i + 1, a2, c2, xs ++ [(gt ms z).a], by omega, rfl, by rw [List.length_append, hxl]; rfl, fun j hj => ?_, rfl, rfl, rfl⟩)
    rw [gt_get (by rw [List.length_append, hxl]; exact hj)]
    by_cases e : j = i
    · subst e
      rw [List.getElem_append_right (by omega), hz]
      simp [hxl]
    · rw [List.getElem_append_left (by omega), ← gt_get (by omega)]
      exact hxs j (by omega)
  · clear hxs
    repeat (refine wXh ?_)
    (refine RD_callS rfl (hcl _ _ memF memF) rfl rfl ?_; rintro _ _ _ ⟨rfl, rfl, f, rfl, hf1⟩; refine ⟨okF, ?_⟩)
    obtain rfl := hf1.2 ⟨hl3.chn, hpos⟩
    repeat (refine wXh ?_)
    (refine RD_callS rfl (hW _ _ memF memF) rfl rfl ?_; rintro _ _ _ ⟨rfl, rfl, rfl⟩; refine ⟨okF, ?_⟩)
    repeat (refine wXh ?_)
    (refine RD_callS rfl (hCC _ _ memF memF) rfl rfl ?_; rintro _ _ _ ⟨rfl, rfl, rfl⟩; refine ⟨okF, ?_⟩)
    repeat (refine wXh ?_)
    refine ND_ret1 (by first | exact .inl rfl | exact .inr rfl) rfl rfl _ _ subF incF (by first | exact congrArg Value.bool (B_true (by decide)) | exact rfl)
end
end Go.Proofs.Ytkhgglkkdnemlaa

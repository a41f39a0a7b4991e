/- neighbour, plain: the trees that Build makes are right -/
import Derived.Test.YtefkpnhhmjdcnaaPb
namespace Go.Proofs.Ytefkpnhhmjdcnaa
open Go Go.Fx

theorem flat_ch_len : ∀ l : List N4, (l.flatMap ch).length = 2 * l.length
  | [] => rfl
  | x :: l => by rw [List.flatMap_cons, List.length_append, flat_ch_len l]; simp [ch]; omega
structure TrP (l : List Int) (n0 : Nat) (xs : List Int) (s : List N4) : Prop where
  nodes : ∀ k : Nat, k < s.length → (gt s k).1 ∈ xs ∧ (0 ≤ (gt s k).2.1 ∧ (gt s k).2.1 ≤ 64) ∧ ∀ c ∈ ch (gt s k), c = -1 ∨ ((n0 : Int) + k < c ∧ c < n0 + s.length)
  items : (s.map (fun (x : N4) => x.1)).Perm xs
  cnt : ∀ c : Int, 0 ≤ c → (s.flatMap ch).count c = if (n0 : Int) < c ∧ c < n0 + s.length then 1 else 0
  bel : ∀ (t : List N4), (∀ k : Nat, k < s.length → gt t ((n0 + k : Nat) : Int) = gt s k) → ∀ f, s.length ≤ f → (bel t f (if xs = [] then -1 else (n0 : Int))).Perm xs
  sides : ∀ (t : List N4), (∀ k : Nat, k < s.length → gt t ((n0 + k : Nat) : Int) = gt s k) → ∀ f, s.length ≤ f → ∀ k : Nat, k < s.length → Near l (gt s k) (Proofs.Ytefkpnhhmjdcnaa.bel t f (gt s k).2.2.1) ∧ Far l (gt s k) (Proofs.Ytefkpnhhmjdcnaa.bel t f (gt s k).2.2.2)
theorem gt_cons0 (x : N4) (r : List N4) : gt (x :: r) ((0 : Nat) : Int) = x := rfl
theorem gt_consS (x : N4) (r : List N4) (k : Nat) : gt (x :: r) ((k + 1 : Nat) : Int) = gt r (k : Int) := by rw [gt_nat, gt_nat]; rfl
theorem gt_appL {a b : List N4} {k : Nat} (h : k < a.length) : gt (a ++ b) (k : Int) = gt a (k : Int) := by rw [gt_nat, gt_nat]; simp [List.getD, List.getElem?_append_left h]
theorem gt_appR {a b : List N4} {k : Nat} : gt (a ++ b) ((a.length + k : Nat) : Int) = gt b (k : Int) := by rw [gt_nat, gt_nat]; simp [List.getD, List.getElem?_append_right]
theorem Tree.tp {l : List Int} {n0 : Nat} {xs : List Int} {s : List N4} (h : Tree l n0 xs s) : TrP l n0 xs s := by
  induction h with
  | nil n0 =>
    refine ⟨fun k hk => by simp at hk, by simp, fun c hc => ?_, fun t _ f _ => ?_, fun t _ f _ k hk => by simp at hk⟩
    · rw [if_neg (by simp; omega)]; rfl
    · rw [if_pos rfl, bel_neg _ _ (by decide)]
  | @node n0 x r rest ys1 ys2 s1 s2 hp h1 h2 hr t1 t2 ih1 ih2 =>
    have l1 := t1.len
    have l2 := t2.len
    have e1 : ys1 = [] ↔ s1.length = 0 := by rw [l1]; exact List.length_eq_zero_iff.symm
    have e2 : ys2 = [] ↔ s2.length = 0 := by rw [l2]; exact List.length_eq_zero_iff.symm
    generalize hc1 : (if ys1 = [] then (-1 : Int) else ((n0 + 1 : Nat) : Int)) = c1
    generalize hc2 : (if ys2 = [] then (-1 : Int) else ((n0 + 1 + ys1.length : Nat) : Int)) = c2
    have hC1 : (s1.length = 0 ∧ c1 = -1) ∨ (0 < s1.length ∧ c1 = ((n0 + 1 : Nat) : Int)) := by
      by_cases e : ys1 = []
      · rw [if_pos e] at hc1; exact .inl ⟨e1.1 e, hc1.symm⟩
      · rw [if_neg e] at hc1; exact .inr ⟨by have : ¬ s1.length = 0 := fun h => e (e1.2 h); omega, hc1.symm⟩
    have hC2 : (s2.length = 0 ∧ c2 = -1) ∨ (0 < s2.length ∧ c2 = ((n0 + 1 + ys1.length : Nat) : Int)) := by
      by_cases e : ys2 = []
      · rw [if_pos e] at hc2; exact .inl ⟨e2.1 e, hc2.symm⟩
      · rw [if_neg e] at hc2; exact .inr ⟨by have : ¬ s2.length = 0 := fun h => e (e2.2 h); omega, hc2.symm⟩
    have hlen : ((x, r, c1, c2) :: (s1 ++ s2)).length = s1.length + s2.length + 1 := by simp
    have sub1 : ∀ t : List N4, (∀ k : Nat, k < ((x, r, c1, c2) :: (s1 ++ s2)).length → gt t ((n0 + k : Nat) : Int) = gt ((x, r, c1, c2) :: (s1 ++ s2)) k) → ∀ k : Nat, k < s1.length → gt t ((n0 + 1 + k : Nat) : Int) = gt s1 k := by
      intro t ht k hk
      have := ht (k + 1) (by rw [hlen]; omega)
      rw [gt_consS, gt_appL hk] at this
      rw [← this]; congr 1; omega
    have sub2 : ∀ t : List N4, (∀ k : Nat, k < ((x, r, c1, c2) :: (s1 ++ s2)).length → gt t ((n0 + k : Nat) : Int) = gt ((x, r, c1, c2) :: (s1 ++ s2)) k) → ∀ k : Nat, k < s2.length → gt t ((n0 + 1 + ys1.length + k : Nat) : Int) = gt s2 k := by
      intro t ht k hk
      have := ht (s1.length + k + 1) (by rw [hlen]; omega)
      rw [gt_consS, gt_appR] at this
      rw [← this]; congr 1; omega
    have root : ∀ t : List N4, (∀ k : Nat, k < ((x, r, c1, c2) :: (s1 ++ s2)).length → gt t ((n0 + k : Nat) : Int) = gt ((x, r, c1, c2) :: (s1 ++ s2)) k) → ∀ f, s1.length + s2.length ≤ f → (Proofs.Ytefkpnhhmjdcnaa.bel t f c1).Perm ys1 ∧ (Proofs.Ytefkpnhhmjdcnaa.bel t f c2).Perm ys2 := by
      intro t ht f hf
      have b1 := ih1.bel t (sub1 t ht) f (by omega)
      have b2 := ih2.bel t (sub2 t ht) f (by omega)
      rw [hc1] at b1
      rw [hc2] at b2
      exact ⟨b1, b2⟩
    refine ⟨?_, ?_, ?_, ?_, ?_⟩
    · intro k hk
      cases k with
      | zero =>
        rw [gt_cons0]
        refine ⟨List.mem_cons_self, hr, fun c hc => ?_⟩
        simp only [ch, List.mem_cons, List.not_mem_nil, or_false] at hc
        rw [hlen]
        omega
      | succ k =>
        rw [gt_consS]
        rw [hlen] at hk ⊢
        by_cases hk1 : k < s1.length
        · rw [gt_appL hk1]
          obtain ⟨q1, q2, q3⟩ := ih1.nodes k hk1
          refine ⟨List.mem_cons_of_mem _ (hp.mem_iff.1 (List.mem_append.2 (.inl q1))), q2, fun c hc => ?_⟩
          have := q3 c hc
          omega
        · obtain ⟨j, rfl⟩ : ∃ j, k = s1.length + j := ⟨k - s1.length, by omega⟩
          rw [gt_appR]
          obtain ⟨q1, q2, q3⟩ := ih2.nodes j (by omega)
          refine ⟨List.mem_cons_of_mem _ (hp.mem_iff.1 (List.mem_append.2 (.inr q1))), q2, fun c hc => ?_⟩
          have := q3 c hc
          omega
    · simp only [List.map_cons, List.map_append]
      exact ((ih1.items.append ih2.items).trans hp).cons _
    · intro c hc
      rw [List.flatMap_cons, List.flatMap_append, List.count_append, List.count_append, ih1.cnt c hc, ih2.cnt c hc, hlen]
      simp only [ch, List.count_cons, List.count_nil, beq_iff_eq, Nat.zero_add]
      repeat' split
      all_goals omega
    · intro t ht f hf
      rw [if_neg (by simp)]
      obtain ⟨f, rfl⟩ : ∃ g, f = g + 1 := ⟨f - 1, by rw [hlen] at hf; omega⟩
      have h0 := ht 0 (by rw [hlen]; omega)
      rw [gt_cons0, Nat.add_zero] at h0
      rw [bel_succ, if_neg (by omega), h0]
      obtain ⟨b1, b2⟩ := root t ht f (by rw [hlen] at hf; omega)
      exact ((b1.append b2).trans hp).cons _
    · intro t ht f hf k hk
      rw [hlen] at hf hk
      cases k with
      | zero =>
        rw [gt_cons0]
        obtain ⟨b1, b2⟩ := root t ht f (by omega)
        exact ⟨fun i hi => h1 i (b1.mem_iff.1 hi), fun i hi => h2 i (b2.mem_iff.1 hi)⟩
      | succ k =>
        rw [gt_consS]
        by_cases hk1 : k < s1.length
        · rw [gt_appL hk1]
          exact ih1.sides t (sub1 t ht) f (by omega) k hk1
        · obtain ⟨j, rfl⟩ : ∃ j, k = s1.length + j := ⟨k - s1.length, by omega⟩
          rw [gt_appR]
          exact ih2.sides t (sub2 t ht) f (by omega) j (by omega)
theorem upto_mem {n : Nat} {x : Int} : x ∈ upto n ↔ 0 ≤ x ∧ x < n := by
  simp only [upto, List.mem_map, List.mem_range]
  constructor
  · rintro ⟨i, hi, rfl⟩; omega
  · intro h; exact ⟨x.toNat, by omega, by omega⟩
theorem Tree.right {l : List Int} {s : List N4} (h : Tree l 0 (upto l.length) s) : RightP l s := by
  have hl := h.len
  rw [upto_len] at hl
  have tp := h.tp
  refine ⟨hl, fun k hk => ?_, fun k hk => ⟨?_, ?_⟩, fun k hk => ?_⟩
  · obtain ⟨q1, q2, q3⟩ := tp.nodes k hk
    have q1' := upto_mem.1 q1
    have c1 := q3 (gt s k).2.2.1 (by simp [ch])
    have c2 := q3 (gt s k).2.2.2 (by simp [ch])
    refine ⟨by omega, q2, ?_, ?_⟩
    · unfold ChOk; omega
    · unfold ChOk; omega
  · rw [tp.items.count_eq, below_perm.upto_count (by omega)]
  · rw [tp.cnt k (by omega)]
    split <;> omega
  · exact tp.sides s (fun k _ => by rw [Nat.zero_add]) s.length (Nat.le_refl _) k hk
end Go.Proofs.Ytefkpnhhmjdcnaa

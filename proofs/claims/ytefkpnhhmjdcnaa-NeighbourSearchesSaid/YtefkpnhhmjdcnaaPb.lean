/- neighbour, plain: right trees, what lies below a node, the search -/
import Derived.Test.YtefkpnhhmjdcnaaPa
import Derived.Test.YtefkpnhhmjdcnaaNk
namespace Go.Proofs.Ytefkpnhhmjdcnaa
open Go Go.Fx

def ch (x : N4) : List Int := [x.2.2.1, x.2.2.2]
def ChOk (n k c : Int) : Prop := c = -1 ∨ (k < c ∧ c < n)
instance (n k c : Int) : Decidable (ChOk n k c) := by unfold ChOk; exact inferInstance
def NodeOk (n k : Int) (x : N4) : Prop := (0 ≤ x.1 ∧ x.1 < n) ∧ (0 ≤ x.2.1 ∧ x.2.1 ≤ 64) ∧ ChOk n k x.2.2.1 ∧ ChOk n k x.2.2.2
instance (n k : Int) (x : N4) : Decidable (NodeOk n k x) := by unfold NodeOk; exact inferInstance
def NodesOk (t : List N4) : Prop := ∀ k : Nat, k < t.length → NodeOk t.length k (gt t k)
/-- the nodes below a node -/
def nds (t : List N4) : Nat → Int → List Int
  | 0, _ => []
  | f + 1, k => if k < 0 then [] else k :: (nds t f (gt t k).2.2.1 ++ nds t f (gt t k).2.2.2)
def bel (t : List N4) (f : Nat) (k : Int) : List Int := (nds t f k).map (fun j => (gt t j).1)
theorem bel_succ (t : List N4) (f : Nat) (k : Int) : bel t (f + 1) k = if k < 0 then [] else (gt t k).1 :: (bel t f (gt t k).2.2.1 ++ bel t f (gt t k).2.2.2) := by
  unfold bel
  rw [nds]
  split <;> simp
theorem bel_zero (t : List N4) (k : Int) : bel t 0 k = [] := rfl
theorem bel_neg (t : List N4) (f : Nat) {k : Int} (h : k < 0) : bel t f k = [] := by
  cases f with
  | zero => rfl
  | succ f => rw [bel_succ, if_pos h]
theorem nds_neg (t : List N4) (f : Nat) {k : Int} (h : k < 0) : nds t f k = [] := by
  cases f with
  | zero => rfl
  | succ f => rw [nds, if_pos h]
theorem bel_len (t : List N4) : ∀ f k, (bel t f k).length + 1 ≤ 2 ^ f
  | 0, k => by simp [bel_zero]
  | f + 1, k => by
    rw [bel_succ]
    have h1 := bel_len t f (gt t k).2.2.1
    have h2 := bel_len t f (gt t k).2.2.2
    have := Nat.one_le_two_pow (n := f)
    rw [Nat.pow_succ]
    split
    · simp; omega
    · simp; omega
/-- fuel enough is fuel enough -/
theorem nds_fuel {t : List N4} (h : NodesOk t) : ∀ (f g : Nat) (k : Int), k < t.length → (t.length : Int) - k ≤ f → (t.length : Int) - k ≤ g → nds t f k = nds t g k
  | 0, g, k, hk, hf, hg => by omega
  | f + 1, 0, k, hk, hf, hg => by omega
  | f + 1, g + 1, k, hk, hf, hg => by
    rw [nds, nds]
    by_cases c : k < 0
    · rw [if_pos c, if_pos c]
    · rw [if_neg c, if_neg c]
      have e : ((k.toNat : Nat) : Int) = k := by omega
      have hn := h k.toNat (by omega)
      rw [e] at hn
      have key : ∀ c, ChOk t.length k c → nds t f c = nds t g c := by
        intro c hc
        rcases hc with rfl | ⟨h1, h2⟩
        · rw [nds_neg _ _ (by decide), nds_neg _ _ (by decide)]
        · exact nds_fuel h f g c h2 (by omega) (by omega)
      rw [key _ hn.2.2.1, key _ hn.2.2.2]
theorem bel_fuel {t : List N4} (h : NodesOk t) (f g : Nat) (k : Int) (hk : k < t.length) (hf : (t.length : Int) - k ≤ f) (hg : (t.length : Int) - k ≤ g) : bel t f k = bel t g k := by
  unfold bel; rw [nds_fuel h f g k hk hf hg]
theorem nds_mem {t : List N4} (h : NodesOk t) : ∀ (f : Nat) (k : Int), (k = -1 ∨ k < t.length) → ∀ j ∈ nds t f k, k ≤ j ∧ 0 ≤ j ∧ j < t.length
  | 0, k, hk, j, hj => by simp [nds] at hj
  | f + 1, k, hk, j, hj => by
    rw [nds] at hj
    by_cases c : k < 0
    · rw [if_pos c] at hj; simp at hj
    · rw [if_neg c] at hj
      have e : ((k.toNat : Nat) : Int) = k := by omega
      have hn := h k.toNat (by omega)
      rw [e] at hn
      rcases List.mem_cons.1 hj with rfl | hj
      · omega
      · rcases List.mem_append.1 hj with hj | hj
        · have := nds_mem h f _ (hn.2.2.1.imp id (fun h => h.2)) j hj
          rcases hn.2.2.1 with h | h
          · rw [h, nds_neg _ _ (by decide)] at hj; simp at hj
          · omega
        · have := nds_mem h f _ (hn.2.2.2.imp id (fun h => h.2)) j hj
          rcases hn.2.2.2 with h | h
          · rw [h, nds_neg _ _ (by decide)] at hj; simp at hj
          · omega
/-- is every item below a node near, or far? -/
def Near (l : List Int) (x : N4) (is : List Int) : Prop := ∀ i ∈ is, dist (gt l i) (gt l x.1) ≤ x.2.1
def Far (l : List Int) (x : N4) (is : List Int) : Prop := ∀ i ∈ is, x.2.1 < dist (gt l i) (gt l x.1)
instance (l : List Int) (x : N4) (is : List Int) : Decidable (Near l x is) := by unfold Near; exact inferInstance
instance (l : List Int) (x : N4) (is : List Int) : Decidable (Far l x is) := by unfold Far; exact inferInstance
def Once (t : List N4) : Prop := ∀ k : Nat, k < t.length → (t.map (fun (x : N4) => x.1)).count (k : Int) = 1 ∧ (t.flatMap ch).count (k : Int) = min k 1
def Sides (l : List Int) (t : List N4) : Prop := ∀ k : Nat, k < t.length → Near l (gt t k) (bel t t.length (gt t k).2.2.1) ∧ Far l (gt t k) (bel t t.length (gt t k).2.2.2)
/-- a right tree -/
def RightP (l : List Int) (t : List N4) : Prop := t.length = l.length ∧ NodesOk t ∧ Once t ∧ Sides l t
instance (t : List N4) : Decidable (NodesOk t) := by unfold NodesOk; exact inferInstance
instance (t : List N4) : Decidable (Once t) := by unfold Once; exact inferInstance
instance (l : List Int) (t : List N4) : Decidable (Sides l t) := by unfold Sides; exact inferInstance
instance (l : List Int) (t : List N4) : Decidable (RightP l t) := by unfold RightP; exact inferInstance

/- ---------- every node lies below the first, once ---------- -/
theorem count_flat {α : Type} [BEq α] [LawfulBEq α] (f : Int → List α) (c : α) : ∀ (a b : List Int), a.Perm b → (a.flatMap f).count c = (b.flatMap f).count c := fun a b h => (h.flatMap_right f).count_eq c
theorem nds_count {t : List N4} (f : Nat) (k : Int) (c : Int) (hc : 0 ≤ c) (hk : k < t.length) (h : NodesOk t) (hf : (t.length : Int) - k ≤ f) : (nds t f k).count c = (if c = k then 1 else 0) + ((nds t f k).flatMap (fun j => ch (gt t j))).count c := by
  induction f generalizing k with
  | zero => omega
  | succ f ih =>
    rw [nds]
    by_cases c0 : k < 0
    · rw [if_pos c0, if_neg (by omega)]; simp
    · rw [if_neg c0]
      have e : ((k.toNat : Nat) : Int) = k := by omega
      have hn := h k.toNat (by omega)
      rw [e] at hn
      have key : ∀ d, ChOk t.length k d → (nds t f d).count c = (if c = d then 1 else 0) + ((nds t f d).flatMap (fun j => ch (gt t j))).count c := by
        intro d hd
        rcases hd with rfl | ⟨h1, h2⟩
        · rw [nds_neg _ _ (by decide), if_neg (by omega)]; simp
        · exact ih d h2 (by omega)
      have k1 := key _ hn.2.2.1
      have k2 := key _ hn.2.2.2
      rw [List.count_cons, List.count_append, k1, k2, List.flatMap_cons, List.flatMap_append, List.count_append, List.count_append]
      simp only [ch, List.count_cons, List.count_nil, beq_iff_eq, Nat.zero_add]
      have ec : ∀ (a b : Int), (if a = b then (1 : Nat) else 0) = (if b = a then 1 else 0) := fun a b => by
        by_cases h : a = b
        · rw [if_pos h, if_pos h.symm]
        · rw [if_neg h, if_neg (fun e => h e.symm)]
      rw [ec (gt t k).2.2.1 c, ec (gt t k).2.2.2 c, ec k c]
      omega
/-- lists of places below k, each once: a reordering of 0 .. k-1 -/
theorem below_perm {L : List Int} {c : Nat} (h : ∀ p : Nat, p < c → L.count (p : Int) = 1) : ((L.filter (fun (x : Int) => decide (0 ≤ x ∧ x < c)))).Perm (upto c) := by
  rw [List.perm_iff_count]
  intro x
  by_cases hx : 0 ≤ x ∧ x < c
  · rw [List.count_filter (by simpa using hx)]
    have e : ((x.toNat : Nat) : Int) = x := by omega
    have h1 := h x.toNat (by omega)
    rw [e] at h1
    rw [h1, upto_count hx]
  · rw [List.count_eq_zero.2 (fun hm => hx (by simpa using (List.mem_filter.1 hm).2)), List.count_eq_zero.2 (fun hm => hx (by
      obtain ⟨i, hi, rfl⟩ := List.mem_map.1 hm
      simp at hi
      omega))]
where
  upto_count {c : Nat} {x : Int} (hx : 0 ≤ x ∧ x < c) : (upto c).count x = 1 := by
    induction c with
    | zero => omega
    | succ c ih =>
      rw [upto_succ, List.count_append]
      by_cases e : x = (c : Int)
      · subst e
        rw [List.count_eq_zero.2 (fun hm => by
          obtain ⟨i, hi, e⟩ := List.mem_map.1 hm
          simp at hi
          omega)]
        simp
      · rw [ih (by omega), List.count_eq_zero.2 (fun hm => e (by simpa using hm))]
theorem flat_filter {α : Type} [BEq α] [LawfulBEq α] (f : Int → List α) (p : Int → Bool) (c : α) : ∀ L : List Int, (∀ x ∈ L, p x = false → (f x).count c = 0) → (L.flatMap f).count c = ((L.filter p).flatMap f).count c
  | [], _ => rfl
  | x :: L, hc => by
    have ih := flat_filter f p c L (fun y hy => hc y (List.mem_cons_of_mem _ hy))
    rw [List.flatMap_cons, List.count_append, ih]
    by_cases hp : p x = true
    · rw [List.filter_cons_of_pos hp, List.flatMap_cons, List.count_append]
    · rw [List.filter_cons_of_neg hp, hc x List.mem_cons_self (by simpa using hp), Nat.zero_add]
theorem flat_upto (t : List N4) : ∀ c, c ≤ t.length → (upto c).flatMap (fun j => ch (gt t j)) = (t.take c).flatMap ch
  | 0, _ => by simp [upto]
  | c + 1, hc => by
    rw [upto_succ, List.flatMap_append, flat_upto t c (by omega), List.take_succ_eq_append_getElem (by omega), List.flatMap_append]
    simp [gt_get (show c < t.length by omega)]
theorem ch_nodeOk {n k : Int} {x : N4} (h : NodeOk n k x) {c : Int} (h0 : 0 ≤ c) (hc : c ≤ k) : (ch x).count c = 0 := by
  refine List.count_eq_zero.2 (fun hm => ?_)
  simp only [ch, List.mem_cons, List.not_mem_nil, or_false] at hm
  have h1 := h.2.2.1
  have h2 := h.2.2.2
  unfold ChOk at h1 h2
  omega
theorem gt_out {α : Type} [Inhabited α] {l : List α} {i : Int} (h : (l.length : Int) ≤ i) : gt l i = default := by
  unfold gt
  simp [List.getD, show l.length ≤ i.toNat by omega]
theorem drop_ch {t : List N4} (h : NodesOk t) (c : Nat) (hc : c < t.length) : ((t.take c).flatMap ch).count (c : Int) = (t.flatMap ch).count (c : Int) := by
  have e : (t.flatMap ch).count (c : Int) = ((t.take c).flatMap ch).count (c : Int) + ((t.drop c).flatMap ch).count (c : Int) := by
    rw [← List.count_append, ← List.flatMap_append, List.take_append_drop]
  rw [e]
  have : ((t.drop c).flatMap ch).count (c : Int) = 0 := by
    refine List.count_eq_zero.2 (fun hm => ?_)
    obtain ⟨x, hx, hm⟩ := List.mem_flatMap.1 hm
    obtain ⟨i, hi, rfl⟩ := List.mem_iff_getElem.1 hx
    rw [List.getElem_drop] at hm
    have hl : c + i < t.length := by simp at hi; omega
    have := ch_nodeOk (h (c + i) hl) (c := c) (by omega) (by omega)
    rw [gt_get hl] at this
    exact absurd hm (List.count_eq_zero.1 this)
  omega
theorem nds_once {t : List N4} (h : NodesOk t) (ho : ∀ k : Nat, k < t.length → (t.flatMap ch).count (k : Int) = min k 1) (h0 : 0 < t.length) : ∀ c : Nat, c < t.length → (nds t t.length 0).count (c : Int) = 1 := by
  intro c
  induction c using Nat.strongRecOn with
  | _ c ih =>
    intro hc
    have hf := flat_filter (fun j => ch (gt t j)) (fun (x : Int) => decide (0 ≤ x ∧ x < c)) (c : Int) (nds t t.length 0) (fun x hx hp => by
      simp only [decide_eq_false_iff_not] at hp
      have hm := nds_mem h t.length 0 (.inr (by omega)) x hx
      have e : ((x.toNat : Nat) : Int) = x := by omega
      have hn := h x.toNat (by omega)
      rw [e] at hn
      exact ch_nodeOk hn (by omega) (by omega))
    rw [nds_count t.length 0 c (by omega) (by omega) h (by omega), hf, count_flat _ _ _ _ (below_perm (fun p hp => ih p hp (by omega))), flat_upto t c (by omega), drop_ch h c hc, ho c hc]
    by_cases e : c = 0
    · subst e; simp
    · rw [if_neg (by omega)]; omega
theorem nds_perm {t : List N4} (h : NodesOk t) (ho : ∀ k : Nat, k < t.length → (t.flatMap ch).count (k : Int) = min k 1) (h0 : 0 < t.length) : (nds t t.length 0).Perm (upto t.length) := by
  have h1 := below_perm (L := nds t t.length 0) (c := t.length) (fun p hp => nds_once h ho h0 p hp)
  have h2 : (nds t t.length 0).filter (fun (x : Int) => decide (0 ≤ x ∧ x < t.length)) = nds t t.length 0 := List.filter_eq_self.2 (fun x hx => by
    have := nds_mem h t.length 0 (.inr (by omega)) x hx
    simpa using this.2)
  rwa [h2] at h1
theorem upto_map (t : List N4) : (upto t.length).map (fun j => (gt t j).1) = t.map (fun (x : N4) => x.1) := by
  apply List.ext_getElem
  · simp [upto]
  · intro i h1 h2
    have : i < t.length := by simpa using h2
    simp [upto, gt_get this]
/-- all items lie below the first node -/
theorem bel_all {l : List Int} {t : List N4} (h : RightP l t) (h0 : 0 < t.length) : (bel t t.length 0).Perm (upto t.length) := by
  have h1 : (bel t t.length 0).Perm (t.map (fun (x : N4) => x.1)) := by
    have := (nds_perm h.2.1 (fun k hk => (h.2.2.1 k hk).2) h0).map (fun j => (gt t j).1)
    rwa [upto_map] at this
  refine h1.trans ?_
  have h2 := below_perm (L := t.map (fun (x : N4) => x.1)) (c := t.length) (fun p hp => (h.2.2.1 p hp).1)
  have h3 : (t.map (fun (x : N4) => x.1)).filter (fun (x : Int) => decide (0 ≤ x ∧ x < t.length)) = t.map (fun (x : N4) => x.1) := List.filter_eq_self.2 (fun x hx => by
    obtain ⟨y, hy, rfl⟩ := List.mem_map.1 hx
    obtain ⟨i, hi, rfl⟩ := List.mem_iff_getElem.1 hy
    have := (h.2.1 i hi).1
    rw [gt_get hi] at this
    simpa using this)
  rwa [h3] at h2

/- ---------- the search ---------- -/
abbrev St3 := Int × Int × Int
/-- the state: index, distance, visited -/
def upd (l : List Int) (w : Int) (x : N4) (s : St3) : St3 :=
  if dist (gt l x.1) w < s.2.1 ∨ (dist (gt l x.1) w = s.2.1 ∧ x.1 < s.1) then (x.1, dist (gt l x.1) w, s.2.2 + 1) else (s.1, s.2.1, s.2.2 + 1)
def vis (l : List Int) (t : List N4) (w : Int) : Nat → Int → St3 → St3
  | 0, _, s => s
  | f + 1, k, s => if k < 0 then s else
      let x := gt t k
      let d := dist (gt l x.1) w
      let s1 := upd l w x s
      let s2 := if d - x.2.1 ≤ s1.2.1 then vis l t w f x.2.2.1 s1 else s1
      if x.2.1 + 1 - d ≤ s2.2.1 then vis l t w f x.2.2.2 s2 else s2
/-- s is at least as good as index i -/
def Le3 (l : List Int) (w : Int) (s : St3) (i : Int) : Prop := s.2.1 < dist (gt l i) w ∨ (s.2.1 = dist (gt l i) w ∧ s.1 ≤ i)
def Lx (s s' : St3) : Prop := s'.2.1 < s.2.1 ∨ (s'.2.1 = s.2.1 ∧ s'.1 ≤ s.1)
theorem Le3.lx {l : List Int} {w : Int} {s s' : St3} {i : Int} (h : Le3 l w s i) (h' : Lx s s') : Le3 l w s' i := by
  unfold Le3 Lx at *
  omega
theorem Lx.trans {a b c : St3} (h : Lx a b) (h' : Lx b c) : Lx a c := by
  unfold Lx at *
  omega
theorem Lx.refl (a : St3) : Lx a a := by unfold Lx; omega
structure VisP (l : List Int) (t : List N4) (w : Int) (f : Nat) (k : Int) (s s' : St3) : Prop where
  lx : Lx s s'
  cov : ∀ i ∈ bel t f k, Le3 l w s' i
  val : (s'.1, s'.2.1) = (s.1, s.2.1) ∨ ∃ i ∈ bel t f k, s'.1 = i ∧ s'.2.1 = dist (gt l i) w
  cnt : s.2.2 ≤ s'.2.2 ∧ s'.2.2 ≤ s.2.2 + (bel t f k).length
theorem Sides.at {l : List Int} {t : List N4} (h : Sides l t) (hn : NodesOk t) {f : Nat} {k : Int} (hk : 0 ≤ k ∧ k < t.length) (hf : (t.length : Int) - k ≤ f + 1) :
    Near l (gt t k) (bel t f (gt t k).2.2.1) ∧ Far l (gt t k) (bel t f (gt t k).2.2.2) := by
  have e : ((k.toNat : Nat) : Int) = k := by omega
  have h1 := h k.toNat (by omega)
  have h2 := hn k.toNat (by omega)
  rw [e] at h1 h2
  have key : ∀ c, ChOk t.length k c → bel t f c = bel t t.length c := by
    intro c hc
    rcases hc with rfl | ⟨h3, h4⟩
    · rw [bel_neg _ _ (by decide), bel_neg _ _ (by decide)]
    · exact bel_fuel hn _ _ _ h4 (by omega) (by omega)
  rw [key _ h2.2.2.1, key _ h2.2.2.2]
  exact h1
theorem vis_ok {l : List Int} {t : List N4} {w : Int} (hn : NodesOk t) (hs : Sides l t) : ∀ (f : Nat) (k : Int) (s : St3), (k = -1 ∨ (0 ≤ k ∧ k < t.length)) → (t.length : Int) - k ≤ f ∨ k = -1 → VisP l t w f k s (vis l t w f k s)
  | 0, k, s, hk, hf => by
    refine ⟨Lx.refl _, fun i hi => by simp [bel_zero] at hi, .inl rfl, by simp [vis, bel_zero]⟩
  | f + 1, k, s, hk, hf => by
    rw [vis]
    by_cases c : k < 0
    · rw [if_pos c]
      refine ⟨Lx.refl _, fun i hi => by rw [bel_neg _ _ c] at hi; simp at hi, .inl rfl, by omega⟩
    · rw [if_neg c]
      have hk' : 0 ≤ k ∧ k < t.length := by omega
      obtain ⟨hN, hF⟩ := hs.at hn (f := f) hk' (by omega)
      have e : ((k.toNat : Nat) : Int) = k := by omega
      have hnk := hn k.toNat (by omega)
      rw [e] at hnk
      generalize hx : gt t k = x at *
      have cond : ∀ c, ChOk t.length k c → (c = -1 ∨ (0 ≤ c ∧ c < t.length)) ∧ ((t.length : Int) - c ≤ f ∨ c = -1) := by
        intro c hc
        rcases hc with rfl | h
        · exact ⟨.inl rfl, .inr rfl⟩
        · exact ⟨.inr (by omega), .inl (by omega)⟩
      have ih1 := fun s => vis_ok hn hs (w := w) f x.2.2.1 s (cond _ hnk.2.2.1).1 (cond _ hnk.2.2.1).2
      have ih2 := fun s => vis_ok hn hs (w := w) f x.2.2.2 s (cond _ hnk.2.2.2).1 (cond _ hnk.2.2.2).2
      dsimp only
      generalize hs1 : upd l w x s = s1
      have u1 : Lx s s1 ∧ Le3 l w s1 x.1 ∧ ((s1.1, s1.2.1) = (s.1, s.2.1) ∨ (s1.1 = x.1 ∧ s1.2.1 = dist (gt l x.1) w)) ∧ s1.2.2 = s.2.2 + 1 := by
        subst hs1
        unfold upd Lx Le3
        split
        · rename_i hu
          refine ⟨?_, .inr ⟨rfl, Int.le_refl _⟩, .inr ⟨rfl, rfl⟩, rfl⟩
          show dist (gt l x.1) w < s.2.1 ∨ (dist (gt l x.1) w = s.2.1 ∧ x.1 ≤ s.1)
          omega
        · rename_i hu
          refine ⟨.inr ⟨rfl, Int.le_refl _⟩, ?_, .inl rfl, rfl⟩
          show s.2.1 < dist (gt l x.1) w ∨ (s.2.1 = dist (gt l x.1) w ∧ s.1 ≤ x.1)
          omega
      generalize hs2 : (if dist (gt l x.1) w - x.2.1 ≤ s1.2.1 then vis l t w f x.2.2.1 s1 else s1) = s2
      have u2 : VisP l t w f x.2.2.1 s1 s2 := by
        subst hs2
        split
        · exact ih1 s1
        · rename_i hc
          refine ⟨Lx.refl _, fun i hi => .inl ?_, .inl rfl, by omega⟩
          have h1 := hN i hi
          have h2 := dist_tri (gt l x.1) (gt l i) w
          rw [dist_comm (gt l x.1) (gt l i)] at h2
          omega
      generalize hs3 : (if x.2.1 + 1 - dist (gt l x.1) w ≤ s2.2.1 then vis l t w f x.2.2.2 s2 else s2) = s3
      have u3 : VisP l t w f x.2.2.2 s2 s3 := by
        subst hs3
        split
        · exact ih2 s2
        · rename_i hc
          refine ⟨Lx.refl _, fun i hi => .inl ?_, .inl rfl, by omega⟩
          have h1 := hF i hi
          have h2 := dist_tri (gt l i) w (gt l x.1)
          rw [dist_comm w (gt l x.1)] at h2
          omega
      refine ⟨(u1.1.trans u2.lx).trans u3.lx, ?_, ?_, ?_⟩
      · intro i hi
        rw [bel_succ, if_neg c, hx] at hi
        rcases List.mem_cons.1 hi with rfl | hi
        · exact (u1.2.1.lx u2.lx).lx u3.lx
        · rcases List.mem_append.1 hi with hi | hi
          · exact (u2.cov i hi).lx u3.lx
          · exact u3.cov i hi
      · rw [bel_succ, if_neg c, hx]
        rcases u3.val with h3 | ⟨i, hi, h3⟩
        · rcases u2.val with h2 | ⟨i, hi, h2⟩
          · rcases u1.2.2.1 with h1 | h1
            · exact .inl (h3.trans (h2.trans h1))
            · refine .inr ⟨x.1, List.mem_cons_self, ?_⟩
              have := h3.trans h2
              simp only [Prod.mk.injEq] at this
              omega
          · refine .inr ⟨i, List.mem_cons_of_mem _ (List.mem_append.2 (.inl hi)), ?_⟩
            simp only [Prod.mk.injEq] at h3
            omega
        · exact .inr ⟨i, List.mem_cons_of_mem _ (List.mem_append.2 (.inr hi)), h3⟩
      · rw [bel_succ, if_neg c, hx]
        have := u2.cnt
        have := u3.cnt
        have := u1.2.2.2
        simp only [List.length_cons, List.length_append]
        omega
/-- nearest, first -/
theorem nr_first (l : List Int) (w : Int) : ∀ k, 0 < k → ∃ i : Nat, i < k ∧ nr l w (-1) k = ((i : Int), dist (l.getD i 0) w) ∧ (∀ j : Nat, j < k → dist (l.getD i 0) w ≤ dist (l.getD j 0) w) ∧ (∀ j : Nat, j < i → dist (l.getD i 0) w < dist (l.getD j 0) w)
  | 1, _ => ⟨0, by omega, by simp [nr], fun j hj => by rw [show j = 0 by omega]; omega, fun j hj => by omega⟩
  | k + 2, _ => by
    obtain ⟨i, hi, he, h1, h2⟩ := nr_first l w (k + 1) (by omega)
    have e : nr l w (-1) (k + 1 + 1) = if ((k + 1 : Nat) : Int) ≠ -1 ∧ ((nr l w (-1) (k + 1)).1 < 0 ∨ dist (l.getD (k + 1) 0) w < (nr l w (-1) (k + 1)).2) then (((k + 1 : Nat) : Int), dist (l.getD (k + 1) 0) w) else nr l w (-1) (k + 1) := rfl
    rw [show k + 2 = k + 1 + 1 from rfl, e, he]
    simp only
    by_cases h : dist (l.getD (k + 1) 0) w < dist (l.getD i 0) w
    · rw [if_pos ⟨by omega, .inr h⟩]
      refine ⟨k + 1, by omega, rfl, fun j hj => ?_, fun j hj => ?_⟩
      · by_cases ej : j = k + 1
        · subst ej; omega
        · have := h1 j (by omega); omega
      · have := h1 j (by omega); omega
    · rw [if_neg (by omega)]
      refine ⟨i, by omega, rfl, fun j hj => ?_, h2⟩
      by_cases ej : j = k + 1
      · subst ej; omega
      · exact h1 j (by omega)
theorem gt_natI (l : List Int) (i : Nat) : gt l (i : Int) = l.getD i 0 := gt_nat l i
theorem vis_cnt {l : List Int} {t : List N4} {w : Int} {s : St3} {n : Nat} (e : s = vis l t w t.length 0 (-1, 65, 0)) (hn : t.length = n + 1) (h : RightP l t) : 1 ≤ s.2.2 := by
  rw [hn, vis, if_neg (by omega)] at e
  have h0 := (h.2.1 0 (by omega))
  have cond : ∀ c, ChOk t.length ((0 : Nat) : Int) c → (c = -1 ∨ (0 ≤ c ∧ c < t.length)) ∧ ((t.length : Int) - c ≤ n ∨ c = -1) := by
    intro c hc
    rcases hc with rfl | h
    · exact ⟨.inl rfl, .inr rfl⟩
    · exact ⟨.inr (by omega), .inl (by omega)⟩
  have i1 := fun s => (vis_ok (w := w) h.2.1 h.2.2.2 n _ s (cond _ h0.2.2.1).1 (cond _ h0.2.2.1).2).cnt.1
  have i2 := fun s => (vis_ok (w := w) h.2.1 h.2.2.2 n _ s (cond _ h0.2.2.2).1 (cond _ h0.2.2.2).2).cnt.1
  have e0 : gt t ((0 : Nat) : Int) = gt t 0 := rfl
  rw [e0] at i1 i2
  dsimp only at e
  have hu : (upd l w (gt t 0) (-1, 65, 0)).2.2 = 1 := by unfold upd; split <;> rfl
  generalize upd l w (gt t 0) (-1, 65, 0) = s1 at *
  subst e
  have a1 : 1 ≤ (if dist (gt l (gt t 0).1) w - (gt t 0).2.1 ≤ s1.2.1 then vis l t w n (gt t 0).2.2.1 s1 else s1).2.2 := by
    split
    · have := i1 s1; omega
    · omega
  generalize (if dist (gt l (gt t 0).1) w - (gt t 0).2.1 ≤ s1.2.1 then vis l t w n (gt t 0).2.2.1 s1 else s1) = s2 at *
  split
  · have := i2 s2; omega
  · exact a1
theorem search_nr {l : List Int} {t : List N4} {w : Int} (h : RightP l t) (h0 : 0 < l.length) {s : St3} (hs : s = vis l t w t.length 0 (-1, 65, 0)) :
    (s.1, s.2.1) = nr l w (-1) l.length ∧ 1 ≤ s.2.2 ∧ s.2.2 ≤ l.length := by
  have hl : 0 < t.length := by have := h.1; omega
  have hv := vis_ok (w := w) h.2.1 h.2.2.2 t.length 0 (-1, 65, 0) (.inr (by omega)) (.inl (by omega))
  obtain ⟨n, hn⟩ : ∃ n, t.length = n + 1 := ⟨t.length - 1, by omega⟩
  have hcnt : 1 ≤ s.2.2 := vis_cnt hs hn h
  rw [← hs] at hv
  clear hs
  have hp := bel_all h hl
  have hlen : (bel t t.length 0).length = l.length := by rw [hp.length_eq, upto_len, h.1]
  have hmem : ∀ i : Int, i ∈ bel t t.length 0 ↔ 0 ≤ i ∧ i < l.length := by
    intro i
    rw [hp.mem_iff]
    simp only [upto, List.mem_map, List.mem_range]
    constructor
    · rintro ⟨j, hj, rfl⟩; have := h.1; omega
    · intro hi; exact ⟨i.toNat, by have := h.1; omega, by omega⟩
  obtain ⟨i, hi, he, h1, h2⟩ := nr_first l w l.length h0
  rw [he]
  have hbd := dist_bd (gt l 0) w
  have c0 := hv.cov 0 ((hmem 0).2 (by omega))
  have hval : ∃ j ∈ bel t t.length 0, s.1 = j ∧ s.2.1 = dist (gt l j) w := by
    rcases hv.val with hh | hh
    · exfalso
      simp only [Prod.mk.injEq] at hh
      unfold Le3 at c0
      omega
    · exact hh
  obtain ⟨j, hj, e1, e2⟩ := hval
  have hj' := (hmem j).1 hj
  have ci := hv.cov i ((hmem i).2 (by omega))
  have g1 := h1 j.toNat (by omega)
  rw [← gt_natI l, ← gt_natI l, show ((j.toNat : Nat) : Int) = j by omega] at g1
  refine ⟨?_, hcnt, ?_⟩
  · have ci' : s.2.1 < dist (gt l i) w ∨ (s.2.1 = dist (gt l i) w ∧ s.1 ≤ i) := ci
    rw [← gt_natI l]
    simp only [Prod.mk.injEq]
    by_cases hji : j < i
    · have g2 := h2 j.toNat (by omega)
      rw [← gt_natI l, ← gt_natI l, show ((j.toNat : Nat) : Int) = j by omega] at g2
      omega
    · omega
  · have := hv.cnt.2
    rw [hlen] at this
    have e : s.2.2 ≤ 0 + l.length := this
    omega
end Go.Proofs.Ytefkpnhhmjdcnaa

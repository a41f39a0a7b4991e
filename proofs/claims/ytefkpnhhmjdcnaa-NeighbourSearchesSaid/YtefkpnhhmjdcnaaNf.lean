/- neighbour: the comparator of Build, the insertion sort -/
import Derived.Test.YtefkpnhhmjdcnaaFs
import Derived.Test.YtefkpnhhmjdcnaaNe
namespace Go.Proofs.Ytefkpnhhmjdcnaa
open Go Go.Fx

def W64' (l : List Int) : Prop := ∀ i, 0 ≤ l.getD i 0 ∧ l.getD i 0 ≤ 18446744073709551615
def key (l : List Int) (item x : Int) : Int := dist (l.getD x.toNat 0) (l.getD item.toNat 0)

theorem from_ok (p : Option Addr) (l : List Int) (c : Nat) (item i : Int) (b1 b2 : Nat) (w : World) (hl : Ints [] w .u64 p l) (h64 : W64' l) (hi : 0 ≤ i ∧ i < l.length) (hit : 0 ≤ item ∧ item < l.length)
    (c1 : w.cell? ⟨b1, 0, none⟩ = some (.slice p l.length c)) (c2 : w.cell? ⟨b2, 0, none⟩ = some (.int .i64 item)) :
    Ret Try.prog 48 [.int .i64 i, .pointer (some ⟨b1, 0, none⟩), .pointer (some ⟨b2, 0, none⟩)] w (fun v w' => Ext [] w w' ∧ v = .int .i64 (key l item i)) := by
  refine enter Try.func48 rfl Try.ntmps48 rfl ?_
  repeat (first | refine T_seq ?_ | refine T_region ?_ | refine T_ret ?_ | refine T_skip ?_ | refine T_label ?_ | refine T_block ?_ | refine T_exit ?_ | refine N_then ?_ | refine N_thenR ?_ | refine N_thenE ?_ | refine N_inN ?_ | refine N_inR ?_ | refine N_inE ?_ | refine N_inO rfl ?_ | refine R_nil ?_ | refine R_skip rfl rfl rfl ?_ | refine R_skipS rfl rfl rfl ?_ | refine R_do rfl (Const_pure rfl) rfl rfl ?_ | refine R_do rfl (Const_len rfl) rfl rfl ?_ | refine R_do rfl (Const_add rfl rfl (by first | exact wrap_i64 (by omega) | exact wrap_u64 (by omega) | exact wrap_u32 (by omega) | exact wrap_u8 (by omega))) rfl rfl ?_ | refine R_do rfl (Const_sub rfl rfl (by first | exact wrap_i64 (by omega) | exact wrap_u64 (by omega) | exact wrap_u32 (by omega) | exact wrap_u8 (by omega))) rfl rfl ?_)
  (repeat refine T_seq ?_); refine T_drawn (fun _ => Ext [] w) [0, 1, 2, 3, 4, 5, 6, 7, 8, 9] [1, 1, 1, 0, 1, 1, 1, 0, 0, 0] mixed (fun _ _ h => h) (by kernel_rfl) (Ext.drew _ _) ?_
  refine R_do rfl (Const_load rfl (extC c1 (by simp))) rfl rfl ?_
  repeat (first | refine T_seq ?_ | refine T_region ?_ | refine T_ret ?_ | refine T_skip ?_ | refine T_label ?_ | refine T_block ?_ | refine T_exit ?_ | refine N_then ?_ | refine N_thenR ?_ | refine N_thenE ?_ | refine N_inN ?_ | refine N_inR ?_ | refine N_inE ?_ | refine N_inO rfl ?_ | refine R_nil ?_ | refine R_skip rfl rfl rfl ?_ | refine R_skipS rfl rfl rfl ?_ | refine R_do rfl (Const_pure rfl) rfl rfl ?_ | refine R_do rfl (Const_len rfl) rfl rfl ?_ | refine R_do rfl (Const_add rfl rfl (by first | exact wrap_i64 (by omega) | exact wrap_u64 (by omega) | exact wrap_u32 (by omega) | exact wrap_u8 (by omega))) rfl rfl ?_ | refine R_do rfl (Const_sub rfl rfl (by first | exact wrap_i64 (by omega) | exact wrap_u64 (by omega) | exact wrap_u32 (by omega) | exact wrap_u8 (by omega))) rfl rfl ?_)
  refine R_do rfl (Const_indexS rfl rfl ⟨by omega, by omega⟩ (hl.ok (by omega))) rfl rfl ?_
  refine R_do rfl (Const_load rfl (extC (hl.cell (i := i.toNat) (by omega)) (by simp))) rfl rfl ?_
  refine R_do rfl (Const_load rfl (extC c1 (by simp))) rfl rfl ?_
  refine R_do rfl (Const_load rfl (extC c2 (by simp))) rfl rfl ?_
  refine R_do rfl (Const_indexS rfl rfl ⟨by omega, by omega⟩ (hl.ok (by omega))) rfl rfl ?_
  refine R_do rfl (Const_load rfl (extC (hl.cell (i := item.toNat) (by omega)) (by simp))) rfl rfl ?_
  (refine R_ef rfl (Eff_call rfl (dist_ok _ _ w.drew (h64 i.toNat) (h64 item.toNat))) rfl rfl ?_; rintro _ w' ⟨rfl, rfl⟩)
  refine ⟨Ext.drew _ _, ?_⟩
  repeat (first | refine T_seq ?_ | refine T_region ?_ | refine T_ret ?_ | refine T_skip ?_ | refine T_label ?_ | refine T_block ?_ | refine T_exit ?_ | refine N_then ?_ | refine N_thenR ?_ | refine N_thenE ?_ | refine N_inN ?_ | refine N_inR ?_ | refine N_inE ?_ | refine N_inO rfl ?_ | refine R_nil ?_ | refine R_skip rfl rfl rfl ?_ | refine R_skipS rfl rfl rfl ?_ | refine R_do rfl (Const_pure rfl) rfl rfl ?_ | refine R_do rfl (Const_len rfl) rfl rfl ?_ | refine R_do rfl (Const_add rfl rfl (by first | exact wrap_i64 (by omega) | exact wrap_u64 (by omega) | exact wrap_u32 (by omega) | exact wrap_u8 (by omega))) rfl rfl ?_ | refine R_do rfl (Const_sub rfl rfl (by first | exact wrap_i64 (by omega) | exact wrap_u64 (by omega) | exact wrap_u32 (by omega) | exact wrap_u8 (by omega))) rfl rfl ?_)
  exact N_ret1 (.inl rfl) rfl rfl ⟨Ext.drew _ _, rfl⟩

theorem cmp_ok (p : Option Addr) (l : List Int) (c : Nat) (item i j : Int) (b1 b2 b3 : Nat) (w : World) (hl : Ints [] w .u64 p l) (h64 : W64' l) (hi : 0 ≤ i ∧ i < l.length) (hj : 0 ≤ j ∧ j < l.length) (hit : 0 ≤ item ∧ item < l.length)
    (c1 : w.cell? ⟨b1, 0, none⟩ = some (.slice p l.length c)) (c2 : w.cell? ⟨b2, 0, none⟩ = some (.int .i64 item))
    (c3 : w.cell? ⟨b3, 0, none⟩ = some (.func (.func 48) #[] #[.pointer (some ⟨b1, 0, none⟩), .pointer (some ⟨b2, 0, none⟩)])) :
    Ret Try.prog 50 [.int .i64 i, .int .i64 j, .pointer (some ⟨b3, 0, none⟩)] w (fun v w' => Ext [] w w' ∧ v = .int .i64 (key l item i - key l item j)) := by
  have k1 := dist_bd (l.getD i.toNat 0) (l.getD item.toNat 0)
  have k2 := dist_bd (l.getD j.toNat 0) (l.getD item.toNat 0)
  refine enter Try.func50 rfl Try.ntmps50 rfl ?_
  repeat (first | refine T_seq ?_ | refine T_region ?_ | refine T_ret ?_ | refine T_skip ?_ | refine T_label ?_ | refine T_block ?_ | refine T_exit ?_ | refine N_then ?_ | refine N_thenR ?_ | refine N_thenE ?_ | refine N_inN ?_ | refine N_inR ?_ | refine N_inE ?_ | refine N_inO rfl ?_ | refine R_nil ?_ | refine R_skip rfl rfl rfl ?_ | refine R_skipS rfl rfl rfl ?_ | refine R_do rfl (Const_pure rfl) rfl rfl ?_ | refine R_do rfl (Const_len rfl) rfl rfl ?_ | refine R_do rfl (Const_add rfl rfl (by first | exact wrap_i64 (by omega) | exact wrap_u64 (by omega) | exact wrap_u32 (by omega) | exact wrap_u8 (by omega))) rfl rfl ?_ | refine R_do rfl (Const_sub rfl rfl (by first | exact wrap_i64 (by omega) | exact wrap_u64 (by omega) | exact wrap_u32 (by omega) | exact wrap_u8 (by omega))) rfl rfl ?_)
  (repeat refine T_seq ?_); refine T_drawn (fun _ => Ext [] w) [0, 1, 3, 4, 2, 5, 6, 7] [1, 1, 1, 1, 0, 0, 0, 0] mixed (fun _ _ h => h) (by kernel_rfl) (Ext.drew _ _) ?_
  refine R_do rfl (Const_load rfl (extC c3 (by simp))) rfl rfl ?_
  repeat (first | refine T_seq ?_ | refine T_region ?_ | refine T_ret ?_ | refine T_skip ?_ | refine T_label ?_ | refine T_block ?_ | refine T_exit ?_ | refine N_then ?_ | refine N_thenR ?_ | refine N_thenE ?_ | refine N_inN ?_ | refine N_inR ?_ | refine N_inE ?_ | refine N_inO rfl ?_ | refine R_nil ?_ | refine R_skip rfl rfl rfl ?_ | refine R_skipS rfl rfl rfl ?_ | refine R_do rfl (Const_pure rfl) rfl rfl ?_ | refine R_do rfl (Const_len rfl) rfl rfl ?_ | refine R_do rfl (Const_add rfl rfl (by first | exact wrap_i64 (by omega) | exact wrap_u64 (by omega) | exact wrap_u32 (by omega) | exact wrap_u8 (by omega))) rfl rfl ?_ | refine R_do rfl (Const_sub rfl rfl (by first | exact wrap_i64 (by omega) | exact wrap_u64 (by omega) | exact wrap_u32 (by omega) | exact wrap_u8 (by omega))) rfl rfl ?_)
  refine R_do rfl (Const_load rfl (extC c3 (by simp))) rfl rfl ?_
  repeat (first | refine T_seq ?_ | refine T_region ?_ | refine T_ret ?_ | refine T_skip ?_ | refine T_label ?_ | refine T_block ?_ | refine T_exit ?_ | refine N_then ?_ | refine N_thenR ?_ | refine N_thenE ?_ | refine N_inN ?_ | refine N_inR ?_ | refine N_inE ?_ | refine N_inO rfl ?_ | refine R_nil ?_ | refine R_skip rfl rfl rfl ?_ | refine R_skipS rfl rfl rfl ?_ | refine R_do rfl (Const_pure rfl) rfl rfl ?_ | refine R_do rfl (Const_len rfl) rfl rfl ?_ | refine R_do rfl (Const_add rfl rfl (by first | exact wrap_i64 (by omega) | exact wrap_u64 (by omega) | exact wrap_u32 (by omega) | exact wrap_u8 (by omega))) rfl rfl ?_ | refine R_do rfl (Const_sub rfl rfl (by first | exact wrap_i64 (by omega) | exact wrap_u64 (by omega) | exact wrap_u32 (by omega) | exact wrap_u8 (by omega))) rfl rfl ?_)
  refine R_ef rfl (Eff_callV rfl rfl (from_ok p l c item i b1 b2 w.drew (hl.mono (Ext.drew _ _)) h64 hi hit c1 c2)) rfl rfl ?_
  rintro _ w1 ⟨e1, rfl⟩
  have E1 := (Ext.drew [] w).trans e1
  refine ⟨E1, ?_⟩
  refine R_ef rfl (Eff_callV rfl rfl (from_ok p l c item j b1 b2 w1 (hl.mono E1) h64 hj hit (E1.cell c1 (by simp)) (E1.cell c2 (by simp)))) rfl rfl ?_
  rintro _ w2 ⟨e2, rfl⟩
  refine ⟨E1.trans e2, ?_⟩
  refine R_do rfl (Const_sub rfl rfl (wrap_i64 ⟨by unfold key; omega, by unfold key; omega⟩)) rfl rfl ?_
  repeat (first | refine T_seq ?_ | refine T_region ?_ | refine T_ret ?_ | refine T_skip ?_ | refine T_label ?_ | refine T_block ?_ | refine T_exit ?_ | refine N_then ?_ | refine N_thenR ?_ | refine N_thenE ?_ | refine N_inN ?_ | refine N_inR ?_ | refine N_inE ?_ | refine N_inO rfl ?_ | refine R_nil ?_ | refine R_skip rfl rfl rfl ?_ | refine R_skipS rfl rfl rfl ?_ | refine R_do rfl (Const_pure rfl) rfl rfl ?_ | refine R_do rfl (Const_len rfl) rfl rfl ?_ | refine R_do rfl (Const_add rfl rfl (by first | exact wrap_i64 (by omega) | exact wrap_u64 (by omega) | exact wrap_u32 (by omega) | exact wrap_u8 (by omega))) rfl rfl ?_ | refine R_do rfl (Const_sub rfl rfl (by first | exact wrap_i64 (by omega) | exact wrap_u64 (by omega) | exact wrap_u32 (by omega) | exact wrap_u8 (by omega))) rfl rfl ?_)
  exact N_ret1 (.inl rfl) rfl rfl ⟨E1.trans e2, rfl⟩

/- ---------- the plain part of the sort ---------- -/
def swp (zs : List Int) (j : Nat) : List Int := (zs.set j (zs.getD (j - 1) 0)).set (j - 1) (zs.getD j 0)
theorem swp_perm (zs : List Int) (j : Nat) (h0 : 0 < j) (h : j < zs.length) : (swp zs j).Perm zs := by
  have := Array.swap_perm (xs := zs.toArray) (i := j) (j := j - 1) (by simpa using h) (by simp; omega)
  have e : (zs.toArray.swap j (j - 1) (by simpa using h) (by simp; omega)).toList = swp zs j := by
    simp [Array.swap, swp, h, show j - 1 < zs.length by omega]
  rw [← e]
  simpa using this.toList
theorem swp_len (zs : List Int) (j : Nat) : (swp zs j).length = zs.length := by simp [swp]
theorem swp_get (zs : List Int) (j q : Nat) (h0 : 0 < j) (h : j < zs.length) : (swp zs j).getD q 0 = if q = j then zs.getD (j - 1) 0 else if q = j - 1 then zs.getD j 0 else zs.getD q 0 := by
  unfold swp
  simp only [List.getD_eq_getElem?_getD, List.getElem?_set, List.length_set]
  by_cases h1 : q = j
  · subst h1
    rw [if_neg (by omega), if_pos rfl, if_pos h, if_pos rfl]
    rfl
  · by_cases h2 : q = j - 1
    · subst h2
      rw [if_pos rfl, if_pos (by omega), if_neg h1, if_pos rfl]
      rfl
    · rw [if_neg (by omega), if_neg (by omega), if_neg h1, if_neg h2]

def InsInv (k : Int → Int) (zs : List Int) (i j : Nat) : Prop :=
  (∀ p q, p < q → q ≤ i → p ≠ j → q ≠ j → k (zs.getD p 0) ≤ k (zs.getD q 0)) ∧ (∀ q, j < q → q ≤ i → k (zs.getD j 0) ≤ k (zs.getD q 0))
def Srt (k : Int → Int) (zs : List Int) (i : Nat) : Prop := ∀ p q, p < q → q < i → k (zs.getD p 0) ≤ k (zs.getD q 0)
theorem ins_start {k : Int → Int} {zs : List Int} {i : Nat} (h : Srt k zs i) : InsInv k zs i i :=
  ⟨fun p q hpq hq _ hqi => h p q hpq (by omega), fun q h1 h2 => by omega⟩
theorem ins_end {k : Int → Int} {zs : List Int} {i j : Nat} (h : InsInv k zs i j) (hj : j = 0 ∨ ¬ k (zs.getD j 0) < k (zs.getD (j - 1) 0)) : Srt k zs (i + 1) := by
  intro p q hpq hq
  by_cases h1 : p = j
  · subst h1; exact h.2 q hpq (by omega)
  · by_cases h2 : q = j
    · subst h2
      rcases hj with hj | hj
      · omega
      · by_cases h3 : p = q - 1
        · subst h3; omega
        · have := h.1 p (q - 1) (by omega) (by omega) h1 (by omega)
          omega
    · exact h.1 p q hpq (by omega) h1 h2
theorem ins_swap {k : Int → Int} {zs : List Int} {i j : Nat} (h : InsInv k zs i j) (h0 : 0 < j) (hl : j < zs.length) (hji : j ≤ i) (hlt : k (zs.getD j 0) < k (zs.getD (j - 1) 0)) : InsInv k (swp zs j) i (j - 1) := by
  refine ⟨fun p q hpq hq hp hq' => ?_, fun q h1 h2 => ?_⟩
  · rw [swp_get zs j p h0 hl, swp_get zs j q h0 hl, if_neg hp, if_neg hq']
    by_cases h1 : p = j
    · subst h1
      rw [if_pos rfl, if_neg (by omega)]
      exact h.1 (p - 1) q (by omega) hq (by omega) (by omega)
    · rw [if_neg h1]
      by_cases h2 : q = j
      · subst h2
        rw [if_pos rfl]
        exact h.1 p (q - 1) (by omega) (by omega) h1 (by omega)
      · rw [if_neg h2]
        exact h.1 p q hpq hq h1 h2
  · rw [swp_get zs j (j - 1) h0 hl, swp_get zs j q h0 hl, if_neg (by omega), if_pos rfl, if_neg (show ¬ q = j - 1 by omega)]
    by_cases h3 : q = j
    · rw [if_pos h3]; omega
    · rw [if_neg h3]; exact h.2 q (by omega) h2
theorem i64s_set (zs : List Int) (tail : List Value) (j : Nat) (x : Int) (h : j < zs.length) : (i64s zs ++ tail).set j (.int .i64 x) = i64s (zs.set j x) ++ tail := by
  rw [List.set_append_left _ _ (by simpa [i64s] using h)]
  simp [i64s]
theorem i64s_get (zs : List Int) (tail : List Value) (j : Nat) (h : j < zs.length) : (i64s zs ++ tail)[j]? = some (.int .i64 (zs.getD j 0)) := by
  rw [List.getElem?_append_left (by simpa [i64s] using h)]
  simp [i64s, List.getD, h]
end Go.Proofs.Ytefkpnhhmjdcnaa

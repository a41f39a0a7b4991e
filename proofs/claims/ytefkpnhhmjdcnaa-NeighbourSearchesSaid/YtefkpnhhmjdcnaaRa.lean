/- neighbour: the law's own words: few, distance, nearest, second -/
import Derived.Test.YtefkpnhhmjdcnaaNl
import Derived.Test.YtefkpnhhmjdcnaaFe
namespace Go.Proofs.Ytefkpnhhmjdcnaa
open Go Go.Fx

theorem few_ok (a : Option Addr) (n c : Nat) (w : World) : Ret Try.prog 13 [.slice a n c] w (fun v w' => w = w' ∧ v = .bool (B (n ≤ 20 ∨ (64 < n ∧ n ≤ 80)))) := by
  refine enter Try.func13 rfl Try.ntmps13 rfl ?_
  repeat' (first | refine T_seq ?_ | refine T_region ?_ | refine T_ret ?_ | refine T_skip ?_ | refine T_label ?_ | refine T_block ?_ | refine T_exit ?_ | refine N_then ?_ | refine N_thenR ?_ | refine N_thenE ?_ | refine N_inN ?_ | refine N_inR ?_ | refine N_inE ?_ | refine N_inO rfl ?_ | refine R_nil ?_ | refine R_skip rfl rfl rfl ?_ | refine R_skipS rfl rfl rfl ?_ | refine R_do rfl (Const_pure rfl) rfl rfl ?_ | refine R_do rfl (Const_len rfl) rfl rfl ?_ | refine R_do rfl (Const_add rfl rfl (by first | exact wrap_i64 (by omega) | exact wrap_u64 (by omega) | exact wrap_u32 (by omega) | exact wrap_u8 (by omega))) rfl rfl ?_ | refine R_do rfl (Const_sub rfl rfl (by first | exact wrap_i64 (by omega) | exact wrap_u64 (by omega) | exact wrap_u32 (by omega) | exact wrap_u8 (by omega))) rfl rfl ?_ | refine T_dec rfl (fun h => ?_) (fun h => ?_) | refine T_cond_true rfl ?_ | refine T_cond_false rfl ?_ | refine R_grd rfl rfl (fun h => ?_) (fun h => ?_))
  all_goals refine N_ret1 (.inl rfl) rfl rfl ⟨rfl, ?_⟩
  · rw [B_true (by omega)]
  · exact congrArg Value.bool (B_congr (by omega))
  · exact congrArg Value.bool (B_false (by omega)).symm

theorem ldist_ok (a b : Int) (w : World) (ha : 0 ≤ a ∧ a ≤ 18446744073709551615) (hb : 0 ≤ b ∧ b ≤ 18446744073709551615) :
    Ret Try.prog 21 [.int .u64 a, .int .u64 b] w (fun v w' => w = w' ∧ v = .int .i64 (dist a b)) := by
  obtain ⟨x, rfl⟩ := Int.eq_ofNat_of_zero_le ha.1
  obtain ⟨y, rfl⟩ := Int.eq_ofNat_of_zero_le hb.1
  refine enter Try.func21 rfl Try.ntmps21 rfl ?_
  repeat (first | refine T_seq ?_ | refine T_region ?_ | refine T_ret ?_ | refine T_skip ?_ | refine T_label ?_ | refine T_block ?_ | refine T_exit ?_ | refine N_then ?_ | refine N_thenR ?_ | refine N_thenE ?_ | refine N_inN ?_ | refine N_inR ?_ | refine N_inE ?_ | refine N_inO rfl ?_ | refine R_nil ?_ | refine R_skip rfl rfl rfl ?_ | refine R_skipS rfl rfl rfl ?_ | refine R_do rfl (Const_pure rfl) rfl rfl ?_ | refine R_do rfl (Const_len rfl) rfl rfl ?_ | refine R_do rfl (Const_add rfl rfl (by first | exact wrap_i64 (by omega) | exact wrap_u64 (by omega) | exact wrap_u32 (by omega) | exact wrap_u8 (by omega))) rfl rfl ?_ | refine R_do rfl (Const_sub rfl rfl (by first | exact wrap_i64 (by omega) | exact wrap_u64 (by omega) | exact wrap_u32 (by omega) | exact wrap_u8 (by omega))) rfl rfl ?_)
  refine R_do rfl (Const_xor64 (a := x) (b := y) rfl rfl (by omega) (by omega)) rfl rfl ?_
  (refine R_ef rfl (Eff_call rfl (ones_ok (x ^^^ y) (Nat.xor_lt_two_pow (by omega) (by omega)) w)) rfl rfl ?_; rintro _ w' ⟨rfl, rfl⟩)
  refine ⟨trivial, ?_⟩
  repeat (first | refine T_seq ?_ | refine T_region ?_ | refine T_ret ?_ | refine T_skip ?_ | refine T_label ?_ | refine T_block ?_ | refine T_exit ?_ | refine N_then ?_ | refine N_thenR ?_ | refine N_thenE ?_ | refine N_inN ?_ | refine N_inR ?_ | refine N_inE ?_ | refine N_inO rfl ?_ | refine R_nil ?_ | refine R_skip rfl rfl rfl ?_ | refine R_skipS rfl rfl rfl ?_ | refine R_do rfl (Const_pure rfl) rfl rfl ?_ | refine R_do rfl (Const_len rfl) rfl rfl ?_ | refine R_do rfl (Const_add rfl rfl (by first | exact wrap_i64 (by omega) | exact wrap_u64 (by omega) | exact wrap_u32 (by omega) | exact wrap_u8 (by omega))) rfl rfl ?_ | refine R_do rfl (Const_sub rfl rfl (by first | exact wrap_i64 (by omega) | exact wrap_u64 (by omega) | exact wrap_u32 (by omega) | exact wrap_u8 (by omega))) rfl rfl ?_)
  exact N_ret1 (.inl rfl) rfl rfl ⟨rfl, rfl⟩

/-- the law's nearest -/
def bst (l : List Int) (w : Int) : Nat → Nat
  | 0 => 0
  | k + 1 => if dist (l.getD k 0) w < dist (l.getD (bst l w k) 0) w then k else bst l w k
theorem bst_lt (l : List Int) (w : Int) : ∀ k, 0 < k → bst l w k < k
  | 1, _ => by simp [bst]
  | k + 2, _ => by
    have := bst_lt l w (k + 1) (by omega)
    unfold bst
    split <;> omega
theorem bst_nr (l : List Int) (w : Int) : ∀ k, nr l w (-1) (k + 1) = ((bst l w (k + 1) : Int), dist (l.getD (bst l w (k + 1)) 0) w)
  | 0 => by simp [nr, bst]
  | k + 1 => by
    have ih := bst_nr l w k
    have e1 : nr l w (-1) (k + 1 + 1) = if ((k + 1 : Nat) : Int) ≠ -1 ∧ ((nr l w (-1) (k + 1)).1 < 0 ∨ dist (l.getD (k + 1) 0) w < (nr l w (-1) (k + 1)).2) then (((k + 1 : Nat) : Int), dist (l.getD (k + 1) 0) w) else nr l w (-1) (k + 1) := rfl
    have e2 : bst l w (k + 1 + 1) = if dist (l.getD (k + 1) 0) w < dist (l.getD (bst l w (k + 1)) 0) w then k + 1 else bst l w (k + 1) := rfl
    rw [e1, e2, ih]
    have h0 : ¬ ((bst l w (k + 1) : Int) < 0) := by omega
    by_cases h : dist (l.getD (k + 1) 0) w < dist (l.getD (bst l w (k + 1)) 0) w
    · rw [if_pos ⟨by omega, .inr h⟩, if_pos h]
    · rw [if_neg (fun hh => hh.2.elim h0 h), if_neg h]

theorem lnear_ok (p : Option Addr) (l : List Int) (c : Nat) (wd : Int) (w : World) (hn : (l.length : Int) ≤ 9223372036854775807) (h0 : 0 < l.length) (hl : Ints [] w .u64 p l) (h64 : W64 l) (hwd : 0 ≤ wd ∧ wd ≤ 18446744073709551615) :
    Ret Try.prog 31 [.slice p l.length c, .int .u64 wd] w (fun v w' => Ext [] w w' ∧ v = .tuple #[.int .i64 (nr l wd (-1) l.length).1, .int .i64 (nr l wd (-1) l.length).2]) := by
  refine enter Try.func31 rfl Try.ntmps31 rfl ?_
  repeat (first | refine T_seq ?_ | refine T_region ?_ | refine T_ret ?_ | refine T_skip ?_ | refine T_label ?_ | refine T_block ?_ | refine T_exit ?_ | refine N_then ?_ | refine N_thenR ?_ | refine N_thenE ?_ | refine N_inN ?_ | refine N_inR ?_ | refine N_inE ?_ | refine N_inO rfl ?_ | refine R_nil ?_ | refine R_skip rfl rfl rfl ?_ | refine R_skipS rfl rfl rfl ?_ | refine R_do rfl (Const_pure rfl) rfl rfl ?_ | refine R_do rfl (Const_len rfl) rfl rfl ?_ | refine R_do rfl (Const_add rfl rfl (by first | exact wrap_i64 (by omega) | exact wrap_u64 (by omega) | exact wrap_u32 (by omega) | exact wrap_u8 (by omega))) rfl rfl ?_ | refine R_do rfl (Const_sub rfl rfl (by first | exact wrap_i64 (by omega) | exact wrap_u64 (by omega) | exact wrap_u32 (by omega) | exact wrap_u8 (by omega))) rfl rfl ?_)
  refine T_loop (fun k G w' => ∃ (i b : Nat), i ≤ l.length ∧ k = l.length - i ∧ b = bst l wd i ∧ b < l.length ∧ Ext [] w w' ∧ G = [(0, .slice p l.length c), (1, .int .u64 wd), (6, .int .i64 b), (9, .slice p l.length c), (10, .int .i64 l.length), (11, .int .i64 i)]) l.length _ subG ⟨0, 0, by omega, rfl, rfl, h0, Ext.refl _ _, rfl⟩ ?_
  rintro k G w1 ⟨i, b, hi, rfl, hb, hbl, E1, rfl⟩
  have hl1 : Ints [] w1 .u64 p l := hl.mono E1
  by_cases hlt : i < l.length
  · repeat' (first | refine T_seq ?_ | refine T_region ?_ | refine T_ret ?_ | refine T_skip ?_ | refine T_label ?_ | refine T_block ?_ | refine T_exit ?_ | refine N_then ?_ | refine N_thenR ?_ | refine N_thenE ?_ | refine N_inN ?_ | refine N_inR ?_ | refine N_inE ?_ | refine N_inO rfl ?_ | refine R_nil ?_ | refine R_skip rfl rfl rfl ?_ | refine R_skipS rfl rfl rfl ?_ | refine R_do rfl (Const_pure rfl) rfl rfl ?_ | refine R_do rfl (Const_len rfl) rfl rfl ?_ | refine R_do rfl (Const_add rfl rfl (by first | exact wrap_i64 (by omega) | exact wrap_u64 (by omega) | exact wrap_u32 (by omega) | exact wrap_u8 (by omega))) rfl rfl ?_ | refine R_do rfl (Const_sub rfl rfl (by first | exact wrap_i64 (by omega) | exact wrap_u64 (by omega) | exact wrap_u32 (by omega) | exact wrap_u8 (by omega))) rfl rfl ?_ | refine T_yes rfl (by omega) ?_ | refine T_no rfl (by omega) ?_ | refine R_grdY rfl rfl (by omega) ?_ | refine R_grdN rfl rfl (by omega) ?_ | refine T_dec rfl (fun h => ?_) (fun h => ?_) | refine T_cond_true rfl ?_ | refine T_cond_false rfl ?_ | refine R_grd rfl rfl (fun h => ?_) (fun h => ?_))
    refine R_do rfl (Const_indexS rfl rfl ⟨by omega, by omega⟩ (hl1.ok (by omega))) rfl rfl ?_
    refine R_do rfl (Const_load rfl (seqC (hl1.cell (i := i) (by omega)))) rfl rfl ?_
    repeat (first | refine R_skip rfl rfl rfl ?_ | refine R_skipS rfl rfl rfl ?_ | refine R_do rfl (Const_pure rfl) rfl rfl ?_ | refine R_do rfl (Const_len rfl) rfl rfl ?_ | refine R_do rfl (Const_add rfl rfl (by first | exact wrap_i64 (by omega) | exact wrap_u64 (by omega) | exact wrap_u32 (by omega) | exact wrap_u8 (by omega))) rfl rfl ?_ | refine R_do rfl (Const_sub rfl rfl (by first | exact wrap_i64 (by omega) | exact wrap_u64 (by omega) | exact wrap_u32 (by omega) | exact wrap_u8 (by omega))) rfl rfl ?_)
    refine R_nil ?_
    refine N_then ?_
    (repeat refine T_seq ?_); refine T_drawn (fun _ => Ext [] w1) [0, 1, 3, 4, 5, 6, 7, 2, 8, 9] [1, 1, 2, 2, 2, 1, 1, 0, 0, 0] mixed (fun _ _ h => h) (by kernel_rfl) (Ext.drew _ _) ?_
    repeat (first | refine R_skip rfl rfl rfl ?_ | refine R_skipS rfl rfl rfl ?_ | refine R_do rfl (Const_pure rfl) rfl rfl ?_ | refine R_do rfl (Const_len rfl) rfl rfl ?_ | refine R_do rfl (Const_add rfl rfl (by first | exact wrap_i64 (by omega) | exact wrap_u64 (by omega) | exact wrap_u32 (by omega) | exact wrap_u8 (by omega))) rfl rfl ?_ | refine R_do rfl (Const_sub rfl rfl (by first | exact wrap_i64 (by omega) | exact wrap_u64 (by omega) | exact wrap_u32 (by omega) | exact wrap_u8 (by omega))) rfl rfl ?_)
    refine R_do rfl (Const_indexS rfl rfl ⟨by omega, by omega⟩ (hl1.ok (by omega))) rfl rfl ?_
    refine R_do rfl (Const_load rfl (extC (hl1.cell (i := b) (by omega)) (by simp))) rfl rfl ?_
    repeat (first | refine R_skip rfl rfl rfl ?_ | refine R_skipS rfl rfl rfl ?_ | refine R_do rfl (Const_pure rfl) rfl rfl ?_ | refine R_do rfl (Const_len rfl) rfl rfl ?_ | refine R_do rfl (Const_add rfl rfl (by first | exact wrap_i64 (by omega) | exact wrap_u64 (by omega) | exact wrap_u32 (by omega) | exact wrap_u8 (by omega))) rfl rfl ?_ | refine R_do rfl (Const_sub rfl rfl (by first | exact wrap_i64 (by omega) | exact wrap_u64 (by omega) | exact wrap_u32 (by omega) | exact wrap_u8 (by omega))) rfl rfl ?_)
    (refine R_ef rfl (Eff_call rfl (ldist_ok (l.getD i 0) wd w1.drew (h64 i) hwd)) rfl rfl ?_; rintro _ w' ⟨rfl, rfl⟩)
    refine ⟨Ext.drew _ _, ?_⟩
    (refine R_ef rfl (Eff_call rfl (ldist_ok (l.getD b 0) wd w1.drew (h64 b) hwd)) rfl rfl ?_; rintro _ w' ⟨rfl, rfl⟩)
    refine ⟨Ext.drew _ _, ?_⟩
    repeat' (first | refine T_seq ?_ | refine T_region ?_ | refine T_ret ?_ | refine T_skip ?_ | refine T_label ?_ | refine T_block ?_ | refine T_exit ?_ | refine N_then ?_ | refine N_thenR ?_ | refine N_thenE ?_ | refine N_inN ?_ | refine N_inR ?_ | refine N_inE ?_ | refine N_inO rfl ?_ | refine R_nil ?_ | refine R_skip rfl rfl rfl ?_ | refine R_skipS rfl rfl rfl ?_ | refine R_do rfl (Const_pure rfl) rfl rfl ?_ | refine R_do rfl (Const_len rfl) rfl rfl ?_ | refine R_do rfl (Const_add rfl rfl (by first | exact wrap_i64 (by omega) | exact wrap_u64 (by omega) | exact wrap_u32 (by omega) | exact wrap_u8 (by omega))) rfl rfl ?_ | refine R_do rfl (Const_sub rfl rfl (by first | exact wrap_i64 (by omega) | exact wrap_u64 (by omega) | exact wrap_u32 (by omega) | exact wrap_u8 (by omega))) rfl rfl ?_ | refine T_dec rfl (fun h => ?_) (fun h => ?_) | refine T_cond_true rfl ?_ | refine T_cond_false rfl ?_ | refine R_grd rfl rfl (fun h => ?_) (fun h => ?_))
    · exact N_again (l.length - (i + 1)) _ (by omega) subG ⟨i + 1, i, by omega, rfl, by subst hb; exact (if_pos ‹_›).symm, hlt, E1.trans (Ext.drew _ _), rfl⟩
    · exact N_again (l.length - (i + 1)) _ (by omega) subG ⟨i + 1, b, by omega, rfl, by subst hb; exact (if_neg ‹_›).symm, hbl, E1.trans (Ext.drew _ _), rfl⟩
  · obtain rfl : i = l.length := by omega
    repeat' (first | refine T_seq ?_ | refine T_region ?_ | refine T_ret ?_ | refine T_skip ?_ | refine T_label ?_ | refine T_block ?_ | refine T_exit ?_ | refine N_then ?_ | refine N_thenR ?_ | refine N_thenE ?_ | refine N_inN ?_ | refine N_inR ?_ | refine N_inE ?_ | refine N_inO rfl ?_ | refine R_nil ?_ | refine R_skip rfl rfl rfl ?_ | refine R_skipS rfl rfl rfl ?_ | refine R_do rfl (Const_pure rfl) rfl rfl ?_ | refine R_do rfl (Const_len rfl) rfl rfl ?_ | refine R_do rfl (Const_add rfl rfl (by first | exact wrap_i64 (by omega) | exact wrap_u64 (by omega) | exact wrap_u32 (by omega) | exact wrap_u8 (by omega))) rfl rfl ?_ | refine R_do rfl (Const_sub rfl rfl (by first | exact wrap_i64 (by omega) | exact wrap_u64 (by omega) | exact wrap_u32 (by omega) | exact wrap_u8 (by omega))) rfl rfl ?_ | refine T_yes rfl (by omega) ?_ | refine T_no rfl (by omega) ?_ | refine R_grdY rfl rfl (by omega) ?_ | refine R_grdN rfl rfl (by omega) ?_ | refine T_dec rfl (fun h => ?_) (fun h => ?_) | refine T_cond_true rfl ?_ | refine T_cond_false rfl ?_ | refine R_grd rfl rfl (fun h => ?_) (fun h => ?_))
    refine R_do rfl (Const_indexS rfl rfl ⟨by omega, by omega⟩ (hl1.ok (by omega))) rfl rfl ?_
    refine R_do rfl (Const_load rfl (seqC (hl1.cell (i := b) (by omega)))) rfl rfl ?_
    repeat' (first | refine T_seq ?_ | refine T_region ?_ | refine T_ret ?_ | refine T_skip ?_ | refine T_label ?_ | refine T_block ?_ | refine T_exit ?_ | refine N_then ?_ | refine N_thenR ?_ | refine N_thenE ?_ | refine N_inN ?_ | refine N_inR ?_ | refine N_inE ?_ | refine N_inO rfl ?_ | refine R_nil ?_ | refine R_skip rfl rfl rfl ?_ | refine R_skipS rfl rfl rfl ?_ | refine R_do rfl (Const_pure rfl) rfl rfl ?_ | refine R_do rfl (Const_len rfl) rfl rfl ?_ | refine R_do rfl (Const_add rfl rfl (by first | exact wrap_i64 (by omega) | exact wrap_u64 (by omega) | exact wrap_u32 (by omega) | exact wrap_u8 (by omega))) rfl rfl ?_ | refine R_do rfl (Const_sub rfl rfl (by first | exact wrap_i64 (by omega) | exact wrap_u64 (by omega) | exact wrap_u32 (by omega) | exact wrap_u8 (by omega))) rfl rfl ?_ | refine T_yes rfl (by omega) ?_ | refine T_no rfl (by omega) ?_ | refine R_grdY rfl rfl (by omega) ?_ | refine R_grdN rfl rfl (by omega) ?_ | refine T_dec rfl (fun h => ?_) (fun h => ?_) | refine T_cond_true rfl ?_ | refine T_cond_false rfl ?_ | refine R_grd rfl rfl (fun h => ?_) (fun h => ?_))
    (refine R_ef rfl (Eff_call rfl (ldist_ok (l.getD b 0) wd w1 (h64 b) hwd)) rfl rfl ?_; rintro _ w' ⟨rfl, rfl⟩)
    refine ⟨trivial, ?_⟩
    repeat' (first | refine T_seq ?_ | refine T_region ?_ | refine T_ret ?_ | refine T_skip ?_ | refine T_label ?_ | refine T_block ?_ | refine T_exit ?_ | refine N_then ?_ | refine N_thenR ?_ | refine N_thenE ?_ | refine N_inN ?_ | refine N_inR ?_ | refine N_inE ?_ | refine N_inO rfl ?_ | refine R_nil ?_ | refine R_skip rfl rfl rfl ?_ | refine R_skipS rfl rfl rfl ?_ | refine R_do rfl (Const_pure rfl) rfl rfl ?_ | refine R_do rfl (Const_len rfl) rfl rfl ?_ | refine R_do rfl (Const_add rfl rfl (by first | exact wrap_i64 (by omega) | exact wrap_u64 (by omega) | exact wrap_u32 (by omega) | exact wrap_u8 (by omega))) rfl rfl ?_ | refine R_do rfl (Const_sub rfl rfl (by first | exact wrap_i64 (by omega) | exact wrap_u64 (by omega) | exact wrap_u32 (by omega) | exact wrap_u8 (by omega))) rfl rfl ?_ | refine T_yes rfl (by omega) ?_ | refine T_no rfl (by omega) ?_ | refine R_grdY rfl rfl (by omega) ?_ | refine R_grdN rfl rfl (by omega) ?_ | refine T_dec rfl (fun h => ?_) (fun h => ?_) | refine T_cond_true rfl ?_ | refine T_cond_false rfl ?_ | refine R_grd rfl rfl (fun h => ?_) (fun h => ?_))
    obtain ⟨m, hm⟩ : ∃ m, l.length = m + 1 := ⟨l.length - 1, by omega⟩
    have := bst_nr l wd m
    rw [← hm, ← hb] at this
    refine N_rets (ts := [4, 5]) (.inl rfl) rfl rfl rfl ⟨E1, ?_⟩
    rw [this]

/-- the law's second -/
def sec (l : List Int) (but wd : Int) : Nat → Int
  | 0 => -1
  | k + 1 => if (k : Int) ≠ but ∧ (sec l but wd k < 0 ∨ dist (l.getD k 0) wd < sec l but wd k) then dist (l.getD k 0) wd else sec l but wd k
theorem sec_nr (l : List Int) (but wd : Int) : ∀ k, ((nr l wd but k).1 < 0 ∧ sec l but wd k < 0) ∨ (0 ≤ (nr l wd but k).1 ∧ 0 ≤ sec l but wd k ∧ (nr l wd but k).2 = sec l but wd k)
  | 0 => .inl ⟨by simp [nr], by simp [sec]⟩
  | k + 1 => by
    have ih := sec_nr l but wd k
    have hd := dist_bd (l.getD k 0) wd
    rw [nr, sec]
    rcases ih with ⟨h1, h2⟩ | ⟨h1, h2, h3⟩
    · by_cases hk : (k : Int) ≠ but
      · rw [if_pos ⟨hk, .inl h1⟩, if_pos ⟨hk, .inl h2⟩]
        exact .inr ⟨by simp, hd.1, rfl⟩
      · rw [if_neg (fun h => hk h.1), if_neg (fun h => hk h.1)]
        exact .inl ⟨h1, h2⟩
    · rw [h3]
      by_cases hk : (k : Int) ≠ but ∧ dist (l.getD k 0) wd < sec l but wd k
      · rw [if_pos ⟨hk.1, .inr hk.2⟩, if_pos ⟨hk.1, .inr hk.2⟩]
        exact .inr ⟨by simp, hd.1, rfl⟩
      · rw [if_neg (fun h => hk ⟨h.1, h.2.resolve_left (by omega)⟩), if_neg (fun h => hk ⟨h.1, h.2.resolve_left (by omega)⟩)]
        exact .inr ⟨h1, h2, h3⟩
theorem sec_bd (l : List Int) (but wd : Int) (k : Nat) : -1 ≤ sec l but wd k ∧ sec l but wd k ≤ 64 := by
  induction k with
  | zero => simp [sec]
  | succ k ih =>
    have := dist_bd (l.getD k 0) wd
    unfold sec
    split <;> omega

theorem second_ok (p : Option Addr) (l : List Int) (c : Nat) (but wd : Int) (w : World) (hn : (l.length : Int) ≤ 9223372036854775807) (hl : Ints [] w .u64 p l) (h64 : W64 l) (hwd : 0 ≤ wd ∧ wd ≤ 18446744073709551615) :
    Ret Try.prog 41 [.slice p l.length c, .int .i64 but, .int .u64 wd] w (fun v w' => w = w' ∧ v = .int .i64 (sec l but wd l.length)) := by
  refine enter Try.func41 rfl Try.ntmps41 rfl ?_
  repeat (first | refine T_seq ?_ | refine T_region ?_ | refine T_ret ?_ | refine T_skip ?_ | refine T_label ?_ | refine T_block ?_ | refine T_exit ?_ | refine N_then ?_ | refine N_thenR ?_ | refine N_thenE ?_ | refine N_inN ?_ | refine N_inR ?_ | refine N_inE ?_ | refine N_inO rfl ?_ | refine R_nil ?_ | refine R_skip rfl rfl rfl ?_ | refine R_skipS rfl rfl rfl ?_ | refine R_do rfl (Const_pure rfl) rfl rfl ?_ | refine R_do rfl (Const_len rfl) rfl rfl ?_ | refine R_do rfl (Const_add rfl rfl (by first | exact wrap_i64 (by omega) | exact wrap_u64 (by omega) | exact wrap_u32 (by omega) | exact wrap_u8 (by omega))) rfl rfl ?_ | refine R_do rfl (Const_sub rfl rfl (by first | exact wrap_i64 (by omega) | exact wrap_u64 (by omega) | exact wrap_u32 (by omega) | exact wrap_u8 (by omega))) rfl rfl ?_)
  refine T_loop (fun k G w' => ∃ (i : Nat) (s : Int), i ≤ l.length ∧ k = l.length - i ∧ s = sec l but wd i ∧ w = w' ∧ G = [(1, .int .i64 but), (2, .int .u64 wd), (7, .int .i64 s), (10, .slice p l.length c), (11, .int .i64 l.length), (12, .int .i64 i)]) l.length _ subG ⟨0, -1, by omega, rfl, rfl, rfl, rfl⟩ ?_
  rintro k G w1 ⟨i, s, hi, rfl, hs, rfl, rfl⟩
  by_cases hlt : i < l.length
  · repeat' (first | refine T_seq ?_ | refine T_region ?_ | refine T_ret ?_ | refine T_skip ?_ | refine T_label ?_ | refine T_block ?_ | refine T_exit ?_ | refine N_then ?_ | refine N_thenR ?_ | refine N_thenE ?_ | refine N_inN ?_ | refine N_inR ?_ | refine N_inE ?_ | refine N_inO rfl ?_ | refine R_nil ?_ | refine R_skip rfl rfl rfl ?_ | refine R_skipS rfl rfl rfl ?_ | refine R_do rfl (Const_pure rfl) rfl rfl ?_ | refine R_do rfl (Const_len rfl) rfl rfl ?_ | refine R_do rfl (Const_add rfl rfl (by first | exact wrap_i64 (by omega) | exact wrap_u64 (by omega) | exact wrap_u32 (by omega) | exact wrap_u8 (by omega))) rfl rfl ?_ | refine R_do rfl (Const_sub rfl rfl (by first | exact wrap_i64 (by omega) | exact wrap_u64 (by omega) | exact wrap_u32 (by omega) | exact wrap_u8 (by omega))) rfl rfl ?_ | refine T_yes rfl (by omega) ?_ | refine T_no rfl (by omega) ?_ | refine R_grdY rfl rfl (by omega) ?_ | refine R_grdN rfl rfl (by omega) ?_ | refine T_dec rfl (fun h => ?_) (fun h => ?_) | refine T_cond_true rfl ?_ | refine T_cond_false rfl ?_ | refine R_grd rfl rfl (fun h => ?_) (fun h => ?_))
    refine R_do rfl (Const_indexS rfl rfl ⟨by omega, by omega⟩ (hl.ok (by omega))) rfl rfl ?_
    refine R_do rfl (Const_load rfl (seqC (hl.cell (i := i) (by omega)))) rfl rfl ?_
    have step : sec l but wd (i + 1) = if (i : Int) ≠ but ∧ (s < 0 ∨ dist (l.getD i 0) wd < s) then dist (l.getD i 0) wd else s := by rw [sec, ← hs]
    by_cases hib : (i : Int) ≠ but
    · by_cases hs0 : s < 0
      · repeat' (first | refine T_seq ?_ | refine T_region ?_ | refine T_ret ?_ | refine T_skip ?_ | refine T_label ?_ | refine T_block ?_ | refine T_exit ?_ | refine N_then ?_ | refine N_thenR ?_ | refine N_thenE ?_ | refine N_inN ?_ | refine N_inR ?_ | refine N_inE ?_ | refine N_inO rfl ?_ | refine R_nil ?_ | refine R_skip rfl rfl rfl ?_ | refine R_skipS rfl rfl rfl ?_ | refine R_do rfl (Const_pure rfl) rfl rfl ?_ | refine R_do rfl (Const_len rfl) rfl rfl ?_ | refine R_do rfl (Const_add rfl rfl (by first | exact wrap_i64 (by omega) | exact wrap_u64 (by omega) | exact wrap_u32 (by omega) | exact wrap_u8 (by omega))) rfl rfl ?_ | refine R_do rfl (Const_sub rfl rfl (by first | exact wrap_i64 (by omega) | exact wrap_u64 (by omega) | exact wrap_u32 (by omega) | exact wrap_u8 (by omega))) rfl rfl ?_ | refine T_yes rfl (by omega) ?_ | refine T_no rfl (by omega) ?_ | refine R_grdY rfl rfl (by omega) ?_ | refine R_grdN rfl rfl (by omega) ?_ | refine T_dec rfl (fun h => ?_) (fun h => ?_) | refine T_cond_true rfl ?_ | refine T_cond_false rfl ?_ | refine R_grd rfl rfl (fun h => ?_) (fun h => ?_))
        (refine R_ef rfl (Eff_call rfl (ldist_ok (l.getD i 0) wd w (h64 i) hwd)) rfl rfl ?_; rintro _ w' ⟨rfl, rfl⟩)
        refine ⟨trivial, ?_⟩
        repeat' (first | refine T_seq ?_ | refine T_region ?_ | refine T_ret ?_ | refine T_skip ?_ | refine T_label ?_ | refine T_block ?_ | refine T_exit ?_ | refine N_then ?_ | refine N_thenR ?_ | refine N_thenE ?_ | refine N_inN ?_ | refine N_inR ?_ | refine N_inE ?_ | refine N_inO rfl ?_ | refine R_nil ?_ | refine R_skip rfl rfl rfl ?_ | refine R_skipS rfl rfl rfl ?_ | refine R_do rfl (Const_pure rfl) rfl rfl ?_ | refine R_do rfl (Const_len rfl) rfl rfl ?_ | refine R_do rfl (Const_add rfl rfl (by first | exact wrap_i64 (by omega) | exact wrap_u64 (by omega) | exact wrap_u32 (by omega) | exact wrap_u8 (by omega))) rfl rfl ?_ | refine R_do rfl (Const_sub rfl rfl (by first | exact wrap_i64 (by omega) | exact wrap_u64 (by omega) | exact wrap_u32 (by omega) | exact wrap_u8 (by omega))) rfl rfl ?_ | refine T_yes rfl (by omega) ?_ | refine T_no rfl (by omega) ?_ | refine R_grdY rfl rfl (by omega) ?_ | refine R_grdN rfl rfl (by omega) ?_ | refine T_dec rfl (fun h => ?_) (fun h => ?_) | refine T_cond_true rfl ?_ | refine T_cond_false rfl ?_ | refine R_grd rfl rfl (fun h => ?_) (fun h => ?_))
        exact N_again (l.length - (i + 1)) _ (by omega) subG ⟨i + 1, dist (l.getD i 0) wd, by omega, rfl, by rw [step, if_pos ⟨hib, .inl hs0⟩], rfl, rfl⟩
      · repeat' (first | refine T_seq ?_ | refine T_region ?_ | refine T_ret ?_ | refine T_skip ?_ | refine T_label ?_ | refine T_block ?_ | refine T_exit ?_ | refine N_then ?_ | refine N_thenR ?_ | refine N_thenE ?_ | refine N_inN ?_ | refine N_inR ?_ | refine N_inE ?_ | refine N_inO rfl ?_ | refine R_nil ?_ | refine R_skip rfl rfl rfl ?_ | refine R_skipS rfl rfl rfl ?_ | refine R_do rfl (Const_pure rfl) rfl rfl ?_ | refine R_do rfl (Const_len rfl) rfl rfl ?_ | refine R_do rfl (Const_add rfl rfl (by first | exact wrap_i64 (by omega) | exact wrap_u64 (by omega) | exact wrap_u32 (by omega) | exact wrap_u8 (by omega))) rfl rfl ?_ | refine R_do rfl (Const_sub rfl rfl (by first | exact wrap_i64 (by omega) | exact wrap_u64 (by omega) | exact wrap_u32 (by omega) | exact wrap_u8 (by omega))) rfl rfl ?_ | refine T_yes rfl (by omega) ?_ | refine T_no rfl (by omega) ?_ | refine R_grdY rfl rfl (by omega) ?_ | refine R_grdN rfl rfl (by omega) ?_ | refine T_dec rfl (fun h => ?_) (fun h => ?_) | refine T_cond_true rfl ?_ | refine T_cond_false rfl ?_ | refine R_grd rfl rfl (fun h => ?_) (fun h => ?_))
        (refine R_ef rfl (Eff_call rfl (ldist_ok (l.getD i 0) wd w (h64 i) hwd)) rfl rfl ?_; rintro _ w' ⟨rfl, rfl⟩)
        refine ⟨trivial, ?_⟩
        by_cases hds : dist (l.getD i 0) wd < s
        · repeat' (first | refine T_seq ?_ | refine T_region ?_ | refine T_ret ?_ | refine T_skip ?_ | refine T_label ?_ | refine T_block ?_ | refine T_exit ?_ | refine N_then ?_ | refine N_thenR ?_ | refine N_thenE ?_ | refine N_inN ?_ | refine N_inR ?_ | refine N_inE ?_ | refine N_inO rfl ?_ | refine R_nil ?_ | refine R_skip rfl rfl rfl ?_ | refine R_skipS rfl rfl rfl ?_ | refine R_do rfl (Const_pure rfl) rfl rfl ?_ | refine R_do rfl (Const_len rfl) rfl rfl ?_ | refine R_do rfl (Const_add rfl rfl (by first | exact wrap_i64 (by omega) | exact wrap_u64 (by omega) | exact wrap_u32 (by omega) | exact wrap_u8 (by omega))) rfl rfl ?_ | refine R_do rfl (Const_sub rfl rfl (by first | exact wrap_i64 (by omega) | exact wrap_u64 (by omega) | exact wrap_u32 (by omega) | exact wrap_u8 (by omega))) rfl rfl ?_ | refine T_yes rfl (by omega) ?_ | refine T_no rfl (by omega) ?_ | refine R_grdY rfl rfl (by omega) ?_ | refine R_grdN rfl rfl (by omega) ?_ | refine T_dec rfl (fun h => ?_) (fun h => ?_) | refine T_cond_true rfl ?_ | refine T_cond_false rfl ?_ | refine R_grd rfl rfl (fun h => ?_) (fun h => ?_))
          (refine R_ef rfl (Eff_call rfl (ldist_ok (l.getD i 0) wd w (h64 i) hwd)) rfl rfl ?_; rintro _ w' ⟨rfl, rfl⟩)
          refine ⟨trivial, ?_⟩
          repeat' (first | refine T_seq ?_ | refine T_region ?_ | refine T_ret ?_ | refine T_skip ?_ | refine T_label ?_ | refine T_block ?_ | refine T_exit ?_ | refine N_then ?_ | refine N_thenR ?_ | refine N_thenE ?_ | refine N_inN ?_ | refine N_inR ?_ | refine N_inE ?_ | refine N_inO rfl ?_ | refine R_nil ?_ | refine R_skip rfl rfl rfl ?_ | refine R_skipS rfl rfl rfl ?_ | refine R_do rfl (Const_pure rfl) rfl rfl ?_ | refine R_do rfl (Const_len rfl) rfl rfl ?_ | refine R_do rfl (Const_add rfl rfl (by first | exact wrap_i64 (by omega) | exact wrap_u64 (by omega) | exact wrap_u32 (by omega) | exact wrap_u8 (by omega))) rfl rfl ?_ | refine R_do rfl (Const_sub rfl rfl (by first | exact wrap_i64 (by omega) | exact wrap_u64 (by omega) | exact wrap_u32 (by omega) | exact wrap_u8 (by omega))) rfl rfl ?_ | refine T_yes rfl (by omega) ?_ | refine T_no rfl (by omega) ?_ | refine R_grdY rfl rfl (by omega) ?_ | refine R_grdN rfl rfl (by omega) ?_ | refine T_dec rfl (fun h => ?_) (fun h => ?_) | refine T_cond_true rfl ?_ | refine T_cond_false rfl ?_ | refine R_grd rfl rfl (fun h => ?_) (fun h => ?_))
          exact N_again (l.length - (i + 1)) _ (by omega) subG ⟨i + 1, dist (l.getD i 0) wd, by omega, rfl, by rw [step, if_pos ⟨hib, .inr hds⟩], rfl, rfl⟩
        · repeat' (first | refine T_seq ?_ | refine T_region ?_ | refine T_ret ?_ | refine T_skip ?_ | refine T_label ?_ | refine T_block ?_ | refine T_exit ?_ | refine N_then ?_ | refine N_thenR ?_ | refine N_thenE ?_ | refine N_inN ?_ | refine N_inR ?_ | refine N_inE ?_ | refine N_inO rfl ?_ | refine R_nil ?_ | refine R_skip rfl rfl rfl ?_ | refine R_skipS rfl rfl rfl ?_ | refine R_do rfl (Const_pure rfl) rfl rfl ?_ | refine R_do rfl (Const_len rfl) rfl rfl ?_ | refine R_do rfl (Const_add rfl rfl (by first | exact wrap_i64 (by omega) | exact wrap_u64 (by omega) | exact wrap_u32 (by omega) | exact wrap_u8 (by omega))) rfl rfl ?_ | refine R_do rfl (Const_sub rfl rfl (by first | exact wrap_i64 (by omega) | exact wrap_u64 (by omega) | exact wrap_u32 (by omega) | exact wrap_u8 (by omega))) rfl rfl ?_ | refine T_yes rfl (by omega) ?_ | refine T_no rfl (by omega) ?_ | refine R_grdY rfl rfl (by omega) ?_ | refine R_grdN rfl rfl (by omega) ?_ | refine T_dec rfl (fun h => ?_) (fun h => ?_) | refine T_cond_true rfl ?_ | refine T_cond_false rfl ?_ | refine R_grd rfl rfl (fun h => ?_) (fun h => ?_))
          exact N_again (l.length - (i + 1)) _ (by omega) subG ⟨i + 1, s, by omega, rfl, by rw [step, if_neg (by omega)], rfl, rfl⟩
    · repeat' (first | refine T_seq ?_ | refine T_region ?_ | refine T_ret ?_ | refine T_skip ?_ | refine T_label ?_ | refine T_block ?_ | refine T_exit ?_ | refine N_then ?_ | refine N_thenR ?_ | refine N_thenE ?_ | refine N_inN ?_ | refine N_inR ?_ | refine N_inE ?_ | refine N_inO rfl ?_ | refine R_nil ?_ | refine R_skip rfl rfl rfl ?_ | refine R_skipS rfl rfl rfl ?_ | refine R_do rfl (Const_pure rfl) rfl rfl ?_ | refine R_do rfl (Const_len rfl) rfl rfl ?_ | refine R_do rfl (Const_add rfl rfl (by first | exact wrap_i64 (by omega) | exact wrap_u64 (by omega) | exact wrap_u32 (by omega) | exact wrap_u8 (by omega))) rfl rfl ?_ | refine R_do rfl (Const_sub rfl rfl (by first | exact wrap_i64 (by omega) | exact wrap_u64 (by omega) | exact wrap_u32 (by omega) | exact wrap_u8 (by omega))) rfl rfl ?_ | refine T_yes rfl (by omega) ?_ | refine T_no rfl (by omega) ?_ | refine R_grdY rfl rfl (by omega) ?_ | refine R_grdN rfl rfl (by omega) ?_ | refine T_dec rfl (fun h => ?_) (fun h => ?_) | refine T_cond_true rfl ?_ | refine T_cond_false rfl ?_ | refine R_grd rfl rfl (fun h => ?_) (fun h => ?_))
      exact N_again (l.length - (i + 1)) _ (by omega) subG ⟨i + 1, s, by omega, rfl, by rw [step, if_neg (fun h => hib h.1)], rfl, rfl⟩
  · obtain rfl : i = l.length := by omega
    repeat' (first | refine T_seq ?_ | refine T_region ?_ | refine T_ret ?_ | refine T_skip ?_ | refine T_label ?_ | refine T_block ?_ | refine T_exit ?_ | refine N_then ?_ | refine N_thenR ?_ | refine N_thenE ?_ | refine N_inN ?_ | refine N_inR ?_ | refine N_inE ?_ | refine N_inO rfl ?_ | refine R_nil ?_ | refine R_skip rfl rfl rfl ?_ | refine R_skipS rfl rfl rfl ?_ | refine R_do rfl (Const_pure rfl) rfl rfl ?_ | refine R_do rfl (Const_len rfl) rfl rfl ?_ | refine R_do rfl (Const_add rfl rfl (by first | exact wrap_i64 (by omega) | exact wrap_u64 (by omega) | exact wrap_u32 (by omega) | exact wrap_u8 (by omega))) rfl rfl ?_ | refine R_do rfl (Const_sub rfl rfl (by first | exact wrap_i64 (by omega) | exact wrap_u64 (by omega) | exact wrap_u32 (by omega) | exact wrap_u8 (by omega))) rfl rfl ?_ | refine T_yes rfl (by omega) ?_ | refine T_no rfl (by omega) ?_ | refine R_grdY rfl rfl (by omega) ?_ | refine R_grdN rfl rfl (by omega) ?_ | refine T_dec rfl (fun h => ?_) (fun h => ?_) | refine T_cond_true rfl ?_ | refine T_cond_false rfl ?_ | refine R_grd rfl rfl (fun h => ?_) (fun h => ?_))
    exact N_ret1 (.inl rfl) rfl rfl ⟨rfl, by rw [hs]⟩
end Go.Proofs.Ytefkpnhhmjdcnaa

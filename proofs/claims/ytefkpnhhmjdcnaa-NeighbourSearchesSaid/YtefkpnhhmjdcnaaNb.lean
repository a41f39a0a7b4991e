/- neighbour: contracts -/
import Derived.Test.YtefkpnhhmjdcnaaNa
namespace Go.Proofs.Ytefkpnhhmjdcnaa
open Go Go.Fx

theorem limited_ok (a : Option Addr) (n c : Nat) (w : World) :
    Ret Try.prog 45 [.slice a n c] w (fun v w' => w = w' ∧ v = .int .i64 (if 64 < (n : Int) then 3 else 0)) := by
  refine enter Try.func45 rfl Try.ntmps45 rfl ?_
  repeat' (first | refine T_seq ?_ | refine T_region ?_ | refine T_ret ?_ | refine T_skip ?_ | refine T_label ?_ | refine T_block ?_ | refine T_exit ?_ | refine N_then ?_ | refine N_thenR ?_ | refine N_thenE ?_ | refine N_inN ?_ | refine N_inR ?_ | refine N_inE ?_ | refine N_inO rfl ?_ | refine R_nil ?_ | refine R_skip rfl rfl rfl ?_ | refine R_skipS rfl rfl rfl ?_ | refine R_do rfl (Const_pure rfl) rfl rfl ?_ | refine R_do rfl (Const_len rfl) rfl rfl ?_ | refine R_do rfl (Const_add rfl rfl (by first | exact wrap_i64 (by omega) | exact wrap_u64 (by omega) | exact wrap_u32 (by omega) | exact wrap_u8 (by omega))) rfl rfl ?_ | refine R_do rfl (Const_sub rfl rfl (by first | exact wrap_i64 (by omega) | exact wrap_u64 (by omega) | exact wrap_u32 (by omega) | exact wrap_u8 (by omega))) rfl rfl ?_ | refine T_dec rfl (fun h => ?_) (fun h => ?_) | refine T_cond_true rfl ?_ | refine T_cond_false rfl ?_ | refine R_grd rfl rfl (fun h => ?_) (fun h => ?_))
  · refine N_ret1 (.inl rfl) rfl rfl ⟨rfl, ?_⟩
    rw [if_pos (by assumption)]
  · refine N_ret1 (.inl rfl) rfl rfl ⟨rfl, ?_⟩
    rw [if_neg (by assumption)]

def W64 (l : List Int) : Prop := ∀ i, 0 ≤ l.getD i 0 ∧ l.getD i 0 ≤ 18446744073709551615
def nr (l : List Int) (wd but : Int) : Nat → Int × Int
  | 0 => (-1, 0)
  | k + 1 => if (k : Int) ≠ but ∧ ((nr l wd but k).1 < 0 ∨ dist (l.getD k 0) wd < (nr l wd but k).2) then (k, dist (l.getD k 0) wd) else nr l wd but k

theorem nearest_ok (a : Option Addr) (l : List Int) (c : Nat) (wd : Int) (but : Int) (w : World) (hn : (l.length : Int) ≤ 9223372036854775807) (hl : Ints [] w .u64 a l) (h64 : W64 l) (hwd : 0 ≤ wd ∧ wd ≤ 18446744073709551615) :
    Ret Try.prog 38 [.slice a l.length c, .int .u64 wd, .int .i64 but] w (fun v w' => w = w' ∧ v = .tuple #[.int .i64 (nr l wd but l.length).1, .int .i64 (nr l wd but l.length).2]) := by
  refine enter Try.func38 rfl Try.ntmps38 rfl ?_
  repeat' (first | refine T_seq ?_ | refine T_region ?_ | refine T_ret ?_ | refine T_skip ?_ | refine T_label ?_ | refine T_block ?_ | refine T_exit ?_ | refine N_then ?_ | refine N_thenR ?_ | refine N_thenE ?_ | refine N_inN ?_ | refine N_inR ?_ | refine N_inE ?_ | refine N_inO rfl ?_ | refine R_nil ?_ | refine R_skip rfl rfl rfl ?_ | refine R_skipS rfl rfl rfl ?_ | refine R_do rfl (Const_pure rfl) rfl rfl ?_ | refine R_do rfl (Const_len rfl) rfl rfl ?_ | refine R_do rfl (Const_add rfl rfl (by first | exact wrap_i64 (by omega) | exact wrap_u64 (by omega) | exact wrap_u32 (by omega) | exact wrap_u8 (by omega))) rfl rfl ?_ | refine R_do rfl (Const_sub rfl rfl (by first | exact wrap_i64 (by omega) | exact wrap_u64 (by omega) | exact wrap_u32 (by omega) | exact wrap_u8 (by omega))) rfl rfl ?_ | refine T_dec rfl (fun h => ?_) (fun h => ?_) | refine T_cond_true rfl ?_ | refine T_cond_false rfl ?_ | refine R_grd rfl rfl (fun h => ?_) (fun h => ?_))
  refine T_loop (fun k G w' => ∃ (i : Nat) (s : Int × Int), i ≤ l.length ∧ k = l.length - i ∧ s = nr l wd but i ∧ w = w' ∧ G = [(1, .int .u64 wd), (2, .int .i64 but), (6, .int .i64 s.1), (7, .int .i64 s.2), (11, .slice a l.length c), (12, .int .i64 l.length), (13, .int .i64 i)]) l.length _ subG ⟨0, (-1, 0), by omega, rfl, rfl, rfl, rfl⟩ ?_
  rintro k G w' ⟨i, s, hi, rfl, hs, rfl, rfl⟩
  repeat' (first | refine T_seq ?_ | refine T_region ?_ | refine T_ret ?_ | refine T_skip ?_ | refine T_label ?_ | refine T_block ?_ | refine T_exit ?_ | refine N_then ?_ | refine N_thenR ?_ | refine N_thenE ?_ | refine N_inN ?_ | refine N_inR ?_ | refine N_inE ?_ | refine N_inO rfl ?_ | refine R_nil ?_ | refine R_skip rfl rfl rfl ?_ | refine R_skipS rfl rfl rfl ?_ | refine R_do rfl (Const_pure rfl) rfl rfl ?_ | refine R_do rfl (Const_len rfl) rfl rfl ?_ | refine R_do rfl (Const_add rfl rfl (by first | exact wrap_i64 (by omega) | exact wrap_u64 (by omega) | exact wrap_u32 (by omega) | exact wrap_u8 (by omega))) rfl rfl ?_ | refine R_do rfl (Const_sub rfl rfl (by first | exact wrap_i64 (by omega) | exact wrap_u64 (by omega) | exact wrap_u32 (by omega) | exact wrap_u8 (by omega))) rfl rfl ?_ | refine T_dec rfl (fun h => ?_) (fun h => ?_) | refine T_cond_true rfl ?_ | refine T_cond_false rfl ?_ | refine R_grd rfl rfl (fun h => ?_) (fun h => ?_))
  · have hi' : i < l.length := by omega
    refine R_do rfl (Const_indexS rfl rfl ⟨by omega, by omega⟩ (hl.ok (by omega))) rfl rfl ?_
    refine R_do rfl (Const_load rfl (seqC (hl.cell (i := i) (by omega)))) rfl rfl ?_
    repeat' (first | refine T_seq ?_ | refine T_region ?_ | refine T_ret ?_ | refine T_skip ?_ | refine T_label ?_ | refine T_block ?_ | refine T_exit ?_ | refine N_then ?_ | refine N_thenR ?_ | refine N_thenE ?_ | refine N_inN ?_ | refine N_inR ?_ | refine N_inE ?_ | refine N_inO rfl ?_ | refine R_nil ?_ | refine R_skip rfl rfl rfl ?_ | refine R_skipS rfl rfl rfl ?_ | refine R_do rfl (Const_pure rfl) rfl rfl ?_ | refine R_do rfl (Const_len rfl) rfl rfl ?_ | refine R_do rfl (Const_add rfl rfl (by first | exact wrap_i64 (by omega) | exact wrap_u64 (by omega) | exact wrap_u32 (by omega) | exact wrap_u8 (by omega))) rfl rfl ?_ | refine R_do rfl (Const_sub rfl rfl (by first | exact wrap_i64 (by omega) | exact wrap_u64 (by omega) | exact wrap_u32 (by omega) | exact wrap_u8 (by omega))) rfl rfl ?_ | refine T_dec rfl (fun h => ?_) (fun h => ?_) | refine T_cond_true rfl ?_ | refine T_cond_false rfl ?_ | refine R_grd rfl rfl (fun h => ?_) (fun h => ?_))
    refine R_ef rfl (Eff_call rfl (dist_ok _ _ _ (h64 i) hwd)) rfl rfl ?_
    rintro v w' ⟨rfl, rfl⟩
    refine ⟨trivial, ?_⟩
    repeat' (first | refine T_seq ?_ | refine T_region ?_ | refine T_ret ?_ | refine T_skip ?_ | refine T_label ?_ | refine T_block ?_ | refine T_exit ?_ | refine N_then ?_ | refine N_thenR ?_ | refine N_thenE ?_ | refine N_inN ?_ | refine N_inR ?_ | refine N_inE ?_ | refine N_inO rfl ?_ | refine R_nil ?_ | refine R_skip rfl rfl rfl ?_ | refine R_skipS rfl rfl rfl ?_ | refine R_do rfl (Const_pure rfl) rfl rfl ?_ | refine R_do rfl (Const_len rfl) rfl rfl ?_ | refine R_do rfl (Const_add rfl rfl (by first | exact wrap_i64 (by omega) | exact wrap_u64 (by omega) | exact wrap_u32 (by omega) | exact wrap_u8 (by omega))) rfl rfl ?_ | refine R_do rfl (Const_sub rfl rfl (by first | exact wrap_i64 (by omega) | exact wrap_u64 (by omega) | exact wrap_u32 (by omega) | exact wrap_u8 (by omega))) rfl rfl ?_ | refine T_dec rfl (fun h => ?_) (fun h => ?_) | refine T_cond_true rfl ?_ | refine T_cond_false rfl ?_ | refine R_grd rfl rfl (fun h => ?_) (fun h => ?_))
    · refine N_again (l.length - (i + 1)) _ (by omega) subG ⟨i + 1, (↑i, dist (l.getD i 0) wd), by omega, rfl, by subst hs; exact (if_pos ⟨‹_›, .inl ‹_›⟩).symm, rfl, rfl⟩
    · refine N_again (l.length - (i + 1)) _ (by omega) subG ⟨i + 1, (↑i, dist (l.getD i 0) wd), by omega, rfl, by subst hs; exact (if_pos ⟨‹_›, .inr ‹_›⟩).symm, rfl, rfl⟩
    · refine N_again (l.length - (i + 1)) _ (by omega) subG ⟨i + 1, s, by omega, rfl, by subst hs; exact (if_neg (by omega)).symm, rfl, rfl⟩
    · refine N_again (l.length - (i + 1)) _ (by omega) subG ⟨i + 1, s, by omega, rfl, by subst hs; exact (if_neg (by omega)).symm, rfl, rfl⟩
  · obtain rfl : i = l.length := by omega
    repeat' (first | refine T_seq ?_ | refine T_region ?_ | refine T_ret ?_ | refine T_skip ?_ | refine T_label ?_ | refine T_block ?_ | refine T_exit ?_ | refine N_then ?_ | refine N_thenR ?_ | refine N_thenE ?_ | refine N_inN ?_ | refine N_inR ?_ | refine N_inE ?_ | refine N_inO rfl ?_ | refine R_nil ?_ | refine R_skip rfl rfl rfl ?_ | refine R_skipS rfl rfl rfl ?_ | refine R_do rfl (Const_pure rfl) rfl rfl ?_ | refine R_do rfl (Const_len rfl) rfl rfl ?_ | refine R_do rfl (Const_add rfl rfl (by first | exact wrap_i64 (by omega) | exact wrap_u64 (by omega) | exact wrap_u32 (by omega) | exact wrap_u8 (by omega))) rfl rfl ?_ | refine R_do rfl (Const_sub rfl rfl (by first | exact wrap_i64 (by omega) | exact wrap_u64 (by omega) | exact wrap_u32 (by omega) | exact wrap_u8 (by omega))) rfl rfl ?_ | refine T_dec rfl (fun h => ?_) (fun h => ?_) | refine T_cond_true rfl ?_ | refine T_cond_false rfl ?_ | refine R_grd rfl rfl (fun h => ?_) (fun h => ?_))
    subst hs
    exact N_rets (ts := [6, 7]) (.inl rfl) rfl rfl rfl ⟨rfl, rfl⟩

theorem nearest_lt (l : List Int) (wd but : Int) (k : Nat) : -1 ≤ (nr l wd but k).1 ∧ (nr l wd but k).1 < k := by
  induction k with
  | zero => simp [nr]
  | succ k ih => unfold nr; split <;> simp <;> omega

/-- Nearest -/
theorem Nearest_ok (a : Option Addr) (l : List Int) (c : Nat) (wd : Int) (w : World) (hn : (l.length : Int) ≤ 9223372036854775807) (hl : Ints [] w .u64 a l) (h64 : W64 l) (hwd : 0 ≤ wd ∧ wd ≤ 18446744073709551615) :
    Ret Try.prog 28 [.slice a l.length c, .int .u64 wd] w (fun v w' => w = w' ∧
      v = if 64 < l.length then .tuple #[.int .i64 0, .int .i64 0, .int .i64 3] else if l.length = 0 then .tuple #[.int .i64 0, .int .i64 0, .int .i64 6]
        else .tuple #[.int .i64 (nr l wd (-1) l.length).1, .int .i64 (nr l wd (-1) l.length).2, .int .i64 0]) := by
  refine enter Try.func28 rfl Try.ntmps28 rfl ?_
  repeat' (first | refine T_seq ?_ | refine T_region ?_ | refine T_ret ?_ | refine T_skip ?_ | refine T_label ?_ | refine T_block ?_ | refine T_exit ?_ | refine N_then ?_ | refine N_thenR ?_ | refine N_thenE ?_ | refine N_inN ?_ | refine N_inR ?_ | refine N_inE ?_ | refine N_inO rfl ?_ | refine R_nil ?_ | refine R_skip rfl rfl rfl ?_ | refine R_skipS rfl rfl rfl ?_ | refine R_do rfl (Const_pure rfl) rfl rfl ?_ | refine R_do rfl (Const_len rfl) rfl rfl ?_ | refine R_do rfl (Const_add rfl rfl (by first | exact wrap_i64 (by omega) | exact wrap_u64 (by omega) | exact wrap_u32 (by omega) | exact wrap_u8 (by omega))) rfl rfl ?_ | refine R_do rfl (Const_sub rfl rfl (by first | exact wrap_i64 (by omega) | exact wrap_u64 (by omega) | exact wrap_u32 (by omega) | exact wrap_u8 (by omega))) rfl rfl ?_ | refine T_dec rfl (fun h => ?_) (fun h => ?_) | refine T_cond_true rfl ?_ | refine T_cond_false rfl ?_ | refine R_grd rfl rfl (fun h => ?_) (fun h => ?_))
  (refine R_ef rfl (Eff_call rfl (limited_ok a l.length c w)) rfl rfl ?_; rintro _ w' ⟨rfl, rfl⟩)
  refine ⟨trivial, ?_⟩
  by_cases h1 : 64 < (l.length : Int)
  · rw [if_pos h1]
    repeat' (first | refine T_seq ?_ | refine T_region ?_ | refine T_ret ?_ | refine T_skip ?_ | refine T_label ?_ | refine T_block ?_ | refine T_exit ?_ | refine N_then ?_ | refine N_thenR ?_ | refine N_thenE ?_ | refine N_inN ?_ | refine N_inR ?_ | refine N_inE ?_ | refine N_inO rfl ?_ | refine R_nil ?_ | refine R_skip rfl rfl rfl ?_ | refine R_skipS rfl rfl rfl ?_ | refine R_do rfl (Const_pure rfl) rfl rfl ?_ | refine R_do rfl (Const_len rfl) rfl rfl ?_ | refine R_do rfl (Const_add rfl rfl (by first | exact wrap_i64 (by omega) | exact wrap_u64 (by omega) | exact wrap_u32 (by omega) | exact wrap_u8 (by omega))) rfl rfl ?_ | refine R_do rfl (Const_sub rfl rfl (by first | exact wrap_i64 (by omega) | exact wrap_u64 (by omega) | exact wrap_u32 (by omega) | exact wrap_u8 (by omega))) rfl rfl ?_ | refine T_yes rfl (by omega) ?_ | refine T_no rfl (by omega) ?_ | refine R_grdY rfl rfl (by omega) ?_ | refine R_grdN rfl rfl (by omega) ?_ | refine T_dec rfl (fun h => ?_) (fun h => ?_) | refine T_cond_true rfl ?_ | refine T_cond_false rfl ?_ | refine R_grd rfl rfl (fun h => ?_) (fun h => ?_))
    refine N_rets (ts := [4, 5, 6]) (.inl rfl) rfl rfl rfl ⟨rfl, ?_⟩
    rw [if_pos (by omega)]
  · rw [if_neg h1]
    repeat' (first | refine T_seq ?_ | refine T_region ?_ | refine T_ret ?_ | refine T_skip ?_ | refine T_label ?_ | refine T_block ?_ | refine T_exit ?_ | refine N_then ?_ | refine N_thenR ?_ | refine N_thenE ?_ | refine N_inN ?_ | refine N_inR ?_ | refine N_inE ?_ | refine N_inO rfl ?_ | refine R_nil ?_ | refine R_skip rfl rfl rfl ?_ | refine R_skipS rfl rfl rfl ?_ | refine R_do rfl (Const_pure rfl) rfl rfl ?_ | refine R_do rfl (Const_len rfl) rfl rfl ?_ | refine R_do rfl (Const_add rfl rfl (by first | exact wrap_i64 (by omega) | exact wrap_u64 (by omega) | exact wrap_u32 (by omega) | exact wrap_u8 (by omega))) rfl rfl ?_ | refine R_do rfl (Const_sub rfl rfl (by first | exact wrap_i64 (by omega) | exact wrap_u64 (by omega) | exact wrap_u32 (by omega) | exact wrap_u8 (by omega))) rfl rfl ?_ | refine T_yes rfl (by omega) ?_ | refine T_no rfl (by omega) ?_ | refine R_grdY rfl rfl (by omega) ?_ | refine R_grdN rfl rfl (by omega) ?_ | refine T_dec rfl (fun h => ?_) (fun h => ?_) | refine T_cond_true rfl ?_ | refine T_cond_false rfl ?_ | refine R_grd rfl rfl (fun h => ?_) (fun h => ?_))
    · refine N_rets (ts := [4, 5, 6]) (.inl rfl) rfl rfl rfl ⟨rfl, ?_⟩
      rw [if_neg (by omega), if_pos (by omega)]
    · (refine R_ef rfl (Eff_call rfl (nearest_ok a l c wd (-1) w hn hl h64 hwd)) rfl rfl ?_; rintro _ w' ⟨rfl, rfl⟩)
      refine ⟨trivial, ?_⟩
      repeat' (first | refine T_seq ?_ | refine T_region ?_ | refine T_ret ?_ | refine T_skip ?_ | refine T_label ?_ | refine T_block ?_ | refine T_exit ?_ | refine N_then ?_ | refine N_thenR ?_ | refine N_thenE ?_ | refine N_inN ?_ | refine N_inR ?_ | refine N_inE ?_ | refine N_inO rfl ?_ | refine R_nil ?_ | refine R_skip rfl rfl rfl ?_ | refine R_skipS rfl rfl rfl ?_ | refine R_do rfl (Const_pure rfl) rfl rfl ?_ | refine R_do rfl (Const_len rfl) rfl rfl ?_ | refine R_do rfl (Const_add rfl rfl (by first | exact wrap_i64 (by omega) | exact wrap_u64 (by omega) | exact wrap_u32 (by omega) | exact wrap_u8 (by omega))) rfl rfl ?_ | refine R_do rfl (Const_sub rfl rfl (by first | exact wrap_i64 (by omega) | exact wrap_u64 (by omega) | exact wrap_u32 (by omega) | exact wrap_u8 (by omega))) rfl rfl ?_ | refine T_dec rfl (fun h => ?_) (fun h => ?_) | refine T_cond_true rfl ?_ | refine T_cond_false rfl ?_ | refine R_grd rfl rfl (fun h => ?_) (fun h => ?_))
      refine N_rets (ts := [4, 5, 6]) (.inl rfl) rfl rfl rfl ⟨rfl, ?_⟩
      rw [if_neg (by omega), if_neg (by omega)]

theorem mul_bd {a b A B : Int} (ha : 0 ≤ a) (hA : a ≤ A) (hb : 0 ≤ b) (hB : b ≤ B) : 0 ≤ a * b ∧ a * b ≤ A * B :=
  ⟨Int.mul_nonneg ha hb, Int.mul_le_mul hA hB hb (by omega)⟩
theorem nr_bd (l : List Int) (wd but : Int) (k : Nat) : 0 ≤ (nr l wd but k).2 ∧ (nr l wd but k).2 ≤ 64 := by
  induction k with
  | zero => simp [nr]
  | succ k ih => unfold nr; split
                 · exact dist_bd _ _
                 · exact ih

/-- the ratio test on one side -/
def Clr (l : List Int) (wd i d num den : Int) : Prop := (nr l wd i l.length).1 < 0 ∨ d * den ≤ num * (nr l wd i l.length).2
instance (l : List Int) (wd i d num den : Int) : Decidable (Clr l wd i d num den) := by unfold Clr; exact inferInstance

theorem clear_ok (a : Option Addr) (l : List Int) (c : Nat) (wd i d num den : Int) (bn bd : Nat) (w : World) (hn : (l.length : Int) ≤ 9223372036854775807) (hl : Ints [] w .u64 a l) (h64 : W64 l) (hwd : 0 ≤ wd ∧ wd ≤ 18446744073709551615)
    (hd : 0 ≤ d ∧ d ≤ 64) (hnum : 1 ≤ num ∧ num ≤ 1000) (hden : 1 ≤ den ∧ den ≤ 1000) (cd : w.cell? ⟨bd, 0, none⟩ = some (.int .i64 den)) (cn : w.cell? ⟨bn, 0, none⟩ = some (.int .i64 num)) :
    Ret Try.prog 37 [.slice a l.length c, .int .u64 wd, .int .i64 i, .int .i64 d, .pointer (some ⟨bd, 0, none⟩), .pointer (some ⟨bn, 0, none⟩)] w (fun v w' => w = w' ∧ v = .bool (B (Clr l wd i d num den))) := by
  refine enter Try.func37 rfl Try.ntmps37 rfl ?_
  repeat' (first | refine T_seq ?_ | refine T_region ?_ | refine T_ret ?_ | refine T_skip ?_ | refine T_label ?_ | refine T_block ?_ | refine T_exit ?_ | refine N_then ?_ | refine N_thenR ?_ | refine N_thenE ?_ | refine N_inN ?_ | refine N_inR ?_ | refine N_inE ?_ | refine N_inO rfl ?_ | refine R_nil ?_ | refine R_skip rfl rfl rfl ?_ | refine R_skipS rfl rfl rfl ?_ | refine R_do rfl (Const_pure rfl) rfl rfl ?_ | refine R_do rfl (Const_len rfl) rfl rfl ?_ | refine R_do rfl (Const_add rfl rfl (by first | exact wrap_i64 (by omega) | exact wrap_u64 (by omega) | exact wrap_u32 (by omega) | exact wrap_u8 (by omega))) rfl rfl ?_ | refine R_do rfl (Const_sub rfl rfl (by first | exact wrap_i64 (by omega) | exact wrap_u64 (by omega) | exact wrap_u32 (by omega) | exact wrap_u8 (by omega))) rfl rfl ?_ | refine T_dec rfl (fun h => ?_) (fun h => ?_) | refine T_cond_true rfl ?_ | refine T_cond_false rfl ?_ | refine R_grd rfl rfl (fun h => ?_) (fun h => ?_))
  (refine R_ef rfl (Eff_call rfl (nearest_ok a l c wd i w hn hl h64 hwd)) rfl rfl ?_; rintro _ w' ⟨rfl, rfl⟩)
  refine ⟨trivial, ?_⟩
  have hs := nr_bd l wd i l.length
  repeat' (first | refine T_seq ?_ | refine T_region ?_ | refine T_ret ?_ | refine T_skip ?_ | refine T_label ?_ | refine T_block ?_ | refine T_exit ?_ | refine N_then ?_ | refine N_thenR ?_ | refine N_thenE ?_ | refine N_inN ?_ | refine N_inR ?_ | refine N_inE ?_ | refine N_inO rfl ?_ | refine R_nil ?_ | refine R_skip rfl rfl rfl ?_ | refine R_skipS rfl rfl rfl ?_ | refine R_do rfl (Const_pure rfl) rfl rfl ?_ | refine R_do rfl (Const_len rfl) rfl rfl ?_ | refine R_do rfl (Const_add rfl rfl (by first | exact wrap_i64 (by omega) | exact wrap_u64 (by omega) | exact wrap_u32 (by omega) | exact wrap_u8 (by omega))) rfl rfl ?_ | refine R_do rfl (Const_sub rfl rfl (by first | exact wrap_i64 (by omega) | exact wrap_u64 (by omega) | exact wrap_u32 (by omega) | exact wrap_u8 (by omega))) rfl rfl ?_ | refine T_dec rfl (fun h => ?_) (fun h => ?_) | refine T_cond_true rfl ?_ | refine T_cond_false rfl ?_ | refine R_grd rfl rfl (fun h => ?_) (fun h => ?_))
  · refine N_ret1 (.inl rfl) rfl rfl ⟨rfl, ?_⟩
    rw [B_true (show Clr l wd i d num den from .inl (by assumption))]
  · have m1 := mul_bd hd.1 hd.2 (show 0 ≤ den by omega) hden.2
    have m2 := mul_bd (show 0 ≤ num by omega) hnum.2 hs.1 hs.2
    refine R_do rfl (Const_load rfl (seqC cd)) rfl rfl ?_
    refine R_do rfl (Const_mul rfl rfl (wrap_i64 ⟨by omega, by omega⟩)) rfl rfl ?_
    refine R_do rfl (Const_load rfl (seqC cn)) rfl rfl ?_
    repeat' (first | refine T_seq ?_ | refine T_region ?_ | refine T_ret ?_ | refine T_skip ?_ | refine T_label ?_ | refine T_block ?_ | refine T_exit ?_ | refine N_then ?_ | refine N_thenR ?_ | refine N_thenE ?_ | refine N_inN ?_ | refine N_inR ?_ | refine N_inE ?_ | refine N_inO rfl ?_ | refine R_nil ?_ | refine R_skip rfl rfl rfl ?_ | refine R_skipS rfl rfl rfl ?_ | refine R_do rfl (Const_pure rfl) rfl rfl ?_ | refine R_do rfl (Const_len rfl) rfl rfl ?_ | refine R_do rfl (Const_add rfl rfl (by first | exact wrap_i64 (by omega) | exact wrap_u64 (by omega) | exact wrap_u32 (by omega) | exact wrap_u8 (by omega))) rfl rfl ?_ | refine R_do rfl (Const_sub rfl rfl (by first | exact wrap_i64 (by omega) | exact wrap_u64 (by omega) | exact wrap_u32 (by omega) | exact wrap_u8 (by omega))) rfl rfl ?_ | refine T_dec rfl (fun h => ?_) (fun h => ?_) | refine T_cond_true rfl ?_ | refine T_cond_false rfl ?_ | refine R_grd rfl rfl (fun h => ?_) (fun h => ?_))
    refine R_do rfl (Const_mul rfl rfl (wrap_i64 ⟨by omega, by omega⟩)) rfl rfl ?_
    repeat' (first | refine T_seq ?_ | refine T_region ?_ | refine T_ret ?_ | refine T_skip ?_ | refine T_label ?_ | refine T_block ?_ | refine T_exit ?_ | refine N_then ?_ | refine N_thenR ?_ | refine N_thenE ?_ | refine N_inN ?_ | refine N_inR ?_ | refine N_inE ?_ | refine N_inO rfl ?_ | refine R_nil ?_ | refine R_skip rfl rfl rfl ?_ | refine R_skipS rfl rfl rfl ?_ | refine R_do rfl (Const_pure rfl) rfl rfl ?_ | refine R_do rfl (Const_len rfl) rfl rfl ?_ | refine R_do rfl (Const_add rfl rfl (by first | exact wrap_i64 (by omega) | exact wrap_u64 (by omega) | exact wrap_u32 (by omega) | exact wrap_u8 (by omega))) rfl rfl ?_ | refine R_do rfl (Const_sub rfl rfl (by first | exact wrap_i64 (by omega) | exact wrap_u64 (by omega) | exact wrap_u32 (by omega) | exact wrap_u8 (by omega))) rfl rfl ?_ | refine T_dec rfl (fun h => ?_) (fun h => ?_) | refine T_cond_true rfl ?_ | refine T_cond_false rfl ?_ | refine R_grd rfl rfl (fun h => ?_) (fun h => ?_))
    refine N_ret1 (.inl rfl) rfl rfl ⟨rfl, ?_⟩
    rw [B_congr (show Clr l wd i d num den ↔ d * den ≤ num * (nr l wd i l.length).2 from ⟨fun h => h.resolve_left (by assumption), .inr⟩)]

/-- a match -/
abbrev M3 := Int × Int × Int
def enc (m : M3) : List Value := [.int .i64 m.1, .int .i64 m.2.1, .int .i64 m.2.2]
def encs (ms : List M3) : List Value := ms.flatMap enc
theorem encs_len (ms : List M3) : (encs ms).length = ms.length * 3 := by
  induction ms with
  | nil => rfl
  | cons m r ih => simp [encs, enc] at ih ⊢; omega
theorem encs_one (ms : List M3) : ∀ u ∈ encs ms, u.oneCell' = true := by
  intro u hu
  simp only [encs, enc, List.mem_flatMap, List.mem_cons, List.not_mem_nil, or_false] at hu
  obtain ⟨m, _, rfl | rfl | rfl⟩ := hu <;> rfl

def mStep (a b : List Int) (num den : Int) (i : Nat) : List M3 :=
  let w := a.getD i 0
  let jd := nr b w (-1) b.length
  if jd.1 < 0 then [] else
    let v := b.getD jd.1.toNat 0
    if (nr a v (-1) a.length).1 = i ∧ Clr b w jd.1 jd.2 num den ∧ Clr a v i jd.2 num den then [((i : Int), jd.1, jd.2)] else []
def mK (a b : List Int) (num den : Int) : Nat → List M3
  | 0 => []
  | i + 1 => mK a b num den i ++ mStep a b num den i
theorem mK_len (a b : List Int) (num den : Int) : ∀ k, (mK a b num den k).length ≤ k
  | 0 => Nat.le_refl _
  | k + 1 => by
    have := mK_len a b num den k
    have h : (mStep a b num den k).length ≤ 1 := by
      unfold mStep
      dsimp only
      split
      · simp
      · split <;> simp
    simp only [mK, List.length_append]
    omega
theorem Int.getD_ (l : List Int) (i : Nat) : l.getD i 0 = l.getD i 0 := rfl
end Go.Proofs.Ytefkpnhhmjdcnaa

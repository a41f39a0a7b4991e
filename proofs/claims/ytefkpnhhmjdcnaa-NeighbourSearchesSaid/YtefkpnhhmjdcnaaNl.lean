/- neighbour: the examples of the chapter -/
import Derived.Test.YtefkpnhhmjdcnaaNk
namespace Go.Proofs.Ytefkpnhhmjdcnaa
open Go Go.Fx

theorem nr_1 : nr [0, 3, 7] 5 (-1) 3 = (2, 1) := by decide +kernel
theorem nr_2 : nr [0, 3, 7] 1 (-1) 3 = (0, 1) := by decide +kernel
theorem mK_1 : mK [0, 15] [1, 7] 1 1 2 = [(0, 0, 1), (1, 1, 1)] := by decide +kernel
theorem W64_of {l : List Int} (h : ∀ x ∈ l, 0 ≤ x ∧ x ≤ 18446744073709551615) : W64' l := by
  intro i
  by_cases hi : i < l.length
  · have : l.getD i 0 = l[i] := by simp [List.getD, hi]
    rw [this]; exact h _ (List.getElem_mem hi)
  · have : l.getD i 0 = 0 := by simp [List.getD, show l.length ≤ i by omega]
    rw [this]; omega

theorem known_ok (w : World) : Ret Try.prog 11 [] w (fun v w' => Ext [] w w' ∧ v = .bool true) := by
  refine enter Try.func11 rfl Try.ntmps11 rfl ?_
  repeat (first | refine T_seq ?_ | refine T_region ?_ | refine T_ret ?_ | refine T_skip ?_ | refine T_label ?_ | refine T_block ?_ | refine T_exit ?_ | refine N_then ?_ | refine N_thenR ?_ | refine N_thenE ?_ | refine N_inN ?_ | refine N_inR ?_ | refine N_inE ?_ | refine N_inO rfl ?_ | refine R_nil ?_ | refine R_skip rfl rfl rfl ?_ | refine R_skipS rfl rfl rfl ?_ | refine R_do rfl (Const_pure rfl) rfl rfl ?_ | refine R_do rfl (Const_len rfl) rfl rfl ?_ | refine R_do rfl (Const_add rfl rfl (by first | exact wrap_i64 (by omega) | exact wrap_u64 (by omega) | exact wrap_u32 (by omega) | exact wrap_u8 (by omega))) rfl rfl ?_ | refine R_do rfl (Const_sub rfl rfl (by first | exact wrap_i64 (by omega) | exact wrap_u64 (by omega) | exact wrap_u32 (by omega) | exact wrap_u8 (by omega))) rfl rfl ?_)
  refine R_ef rfl (Eff_vals (vals := [.int .u64 0, .int .u64 3, .int .u64 7]) rfl rfl (fun v hv => by simp at hv; rcases hv with rfl | rfl | rfl <;> rfl) (by omega)) rfl rfl ?_
  rintro _ w1 ⟨b1, hb1, rfl, B1, E1, L1⟩
  refine ⟨trivial, ?_⟩
  have hl1 : Ints [] w1 .u64 (some ⟨b1, 0, none⟩) [0, 3, 7] := B1.sl (by simp) 0 (fun j v h => by simpa [Value.cells] using h)
  have h64 : W64' [0, 3, 7] := W64_of (by intro x hx; simp at hx; omega)
  repeat (first | refine T_seq ?_ | refine T_region ?_ | refine T_ret ?_ | refine T_skip ?_ | refine T_label ?_ | refine T_block ?_ | refine T_exit ?_ | refine N_then ?_ | refine N_thenR ?_ | refine N_thenE ?_ | refine N_inN ?_ | refine N_inR ?_ | refine N_inE ?_ | refine N_inO rfl ?_ | refine R_nil ?_ | refine R_skip rfl rfl rfl ?_ | refine R_skipS rfl rfl rfl ?_ | refine R_do rfl (Const_pure rfl) rfl rfl ?_ | refine R_do rfl (Const_len rfl) rfl rfl ?_ | refine R_do rfl (Const_add rfl rfl (by first | exact wrap_i64 (by omega) | exact wrap_u64 (by omega) | exact wrap_u32 (by omega) | exact wrap_u8 (by omega))) rfl rfl ?_ | refine R_do rfl (Const_sub rfl rfl (by first | exact wrap_i64 (by omega) | exact wrap_u64 (by omega) | exact wrap_u32 (by omega) | exact wrap_u8 (by omega))) rfl rfl ?_)
  (refine R_ef rfl (Eff_call rfl (Nearest_ok (some ⟨b1, 0, none⟩) [0, 3, 7] 3 5 w1 (by simp) hl1 h64 (by omega))) rfl rfl ?_; rintro _ w' ⟨rfl, e1⟩)
  refine ⟨trivial, ?_⟩
  rw [if_neg (by simp), if_neg (by simp), show ([0, 3, 7] : List Int).length = 3 from rfl, nr_1] at e1
  subst e1
  repeat (first | refine T_seq ?_ | refine T_region ?_ | refine T_ret ?_ | refine T_skip ?_ | refine T_label ?_ | refine T_block ?_ | refine T_exit ?_ | refine N_then ?_ | refine N_thenR ?_ | refine N_thenE ?_ | refine N_inN ?_ | refine N_inR ?_ | refine N_inE ?_ | refine N_inO rfl ?_ | refine R_nil ?_ | refine R_skip rfl rfl rfl ?_ | refine R_skipS rfl rfl rfl ?_ | refine R_do rfl (Const_pure rfl) rfl rfl ?_ | refine R_do rfl (Const_len rfl) rfl rfl ?_ | refine R_do rfl (Const_add rfl rfl (by first | exact wrap_i64 (by omega) | exact wrap_u64 (by omega) | exact wrap_u32 (by omega) | exact wrap_u8 (by omega))) rfl rfl ?_ | refine R_do rfl (Const_sub rfl rfl (by first | exact wrap_i64 (by omega) | exact wrap_u64 (by omega) | exact wrap_u32 (by omega) | exact wrap_u8 (by omega))) rfl rfl ?_)
  (refine R_ef rfl (Eff_call rfl (Nearest_ok (some ⟨b1, 0, none⟩) [0, 3, 7] 3 1 w1 (by simp) hl1 h64 (by omega))) rfl rfl ?_; rintro _ w' ⟨rfl, e1⟩)
  refine ⟨trivial, ?_⟩
  rw [if_neg (by simp), if_neg (by simp), show ([0, 3, 7] : List Int).length = 3 from rfl, nr_2] at e1
  subst e1
  repeat (first | refine T_seq ?_ | refine T_region ?_ | refine T_ret ?_ | refine T_skip ?_ | refine T_label ?_ | refine T_block ?_ | refine T_exit ?_ | refine N_then ?_ | refine N_thenR ?_ | refine N_thenE ?_ | refine N_inN ?_ | refine N_inR ?_ | refine N_inE ?_ | refine N_inO rfl ?_ | refine R_nil ?_ | refine R_skip rfl rfl rfl ?_ | refine R_skipS rfl rfl rfl ?_ | refine R_do rfl (Const_pure rfl) rfl rfl ?_ | refine R_do rfl (Const_len rfl) rfl rfl ?_ | refine R_do rfl (Const_add rfl rfl (by first | exact wrap_i64 (by omega) | exact wrap_u64 (by omega) | exact wrap_u32 (by omega) | exact wrap_u8 (by omega))) rfl rfl ?_ | refine R_do rfl (Const_sub rfl rfl (by first | exact wrap_i64 (by omega) | exact wrap_u64 (by omega) | exact wrap_u32 (by omega) | exact wrap_u8 (by omega))) rfl rfl ?_)
  refine R_ef rfl (Eff_vals (vals := [.int .u64 0, .int .u64 15]) rfl rfl (fun v hv => by simp at hv; rcases hv with rfl | rfl <;> rfl) (by omega)) rfl rfl ?_
  rintro _ w2 ⟨b2, hb2, rfl, B2, E2, L2⟩
  refine ⟨trivial, ?_⟩
  refine R_ef rfl (Eff_vals (vals := [.int .u64 1, .int .u64 7]) rfl rfl (fun v hv => by simp at hv; rcases hv with rfl | rfl <;> rfl) (by omega)) rfl rfl ?_
  rintro _ w3 ⟨b3, hb3, rfl, B3, E3, L3⟩
  refine ⟨trivial, ?_⟩
  have hl2 : Ints [] w3 .u64 (some ⟨b2, 0, none⟩) [0, 15] := (B2.ext E3 (by simp)).sl (by simp) 0 (fun j v h => by simpa [Value.cells] using h)
  have hl3 : Ints [] w3 .u64 (some ⟨b3, 0, none⟩) [1, 7] := B3.sl (by simp) 0 (fun j v h => by simpa [Value.cells] using h)
  (refine R_ef rfl (Eff_call rfl (Matches_ok (some ⟨b2, 0, none⟩) (some ⟨b3, 0, none⟩) [0, 15] [1, 7] 2 2 1 1 w3 (by simp) (by simp) hl2 hl3 (W64_of (by intro x hx; simp at hx; omega)) (W64_of (by intro x hx; simp at hx; omega)))) rfl rfl ?_; rintro _ w4 ⟨E4, e4⟩)
  refine ⟨trivial, ?_⟩
  rw [if_neg (by simp), if_neg (by omega), show ([0, 15] : List Int).length = 2 from rfl, mK_1] at e4
  obtain ⟨p4, c4, rfl, hN4, _⟩ := e4
  repeat (first | refine T_seq ?_ | refine T_region ?_ | refine T_ret ?_ | refine T_skip ?_ | refine T_label ?_ | refine T_block ?_ | refine T_exit ?_ | refine N_then ?_ | refine N_thenR ?_ | refine N_thenE ?_ | refine N_inN ?_ | refine N_inR ?_ | refine N_inE ?_ | refine N_inO rfl ?_ | refine R_nil ?_ | refine R_skip rfl rfl rfl ?_ | refine R_skipS rfl rfl rfl ?_ | refine R_do rfl (Const_pure rfl) rfl rfl ?_ | refine R_do rfl (Const_len rfl) rfl rfl ?_ | refine R_do rfl (Const_add rfl rfl (by first | exact wrap_i64 (by omega) | exact wrap_u64 (by omega) | exact wrap_u32 (by omega) | exact wrap_u8 (by omega))) rfl rfl ?_ | refine R_do rfl (Const_sub rfl rfl (by first | exact wrap_i64 (by omega) | exact wrap_u64 (by omega) | exact wrap_u32 (by omega) | exact wrap_u8 (by omega))) rfl rfl ?_)
  have E14 : Ext [] w1 w4 := (E2.trans E3).trans E4
  (refine R_ef rfl (Eff_call rfl (Build_ok (some ⟨b1, 0, none⟩) [0, 3, 7] 3 w4 (by simp) (hl1.mono E14) h64 (by simp))) rfl rfl ?_; rintro _ w5 ⟨E5, e5⟩)
  refine ⟨trivial, ?_⟩
  rw [if_neg (by simp)] at e5
  obtain ⟨p5, c5, s, rfl, hT, _, _⟩ := e5
  have hs : s.length = 3 := by rw [hT.len, upto_len]; rfl
  repeat' (first | refine T_seq ?_ | refine T_region ?_ | refine T_ret ?_ | refine T_skip ?_ | refine T_label ?_ | refine T_block ?_ | refine T_exit ?_ | refine N_then ?_ | refine N_thenR ?_ | refine N_thenE ?_ | refine N_inN ?_ | refine N_inR ?_ | refine N_inE ?_ | refine N_inO rfl ?_ | refine R_nil ?_ | refine R_skip rfl rfl rfl ?_ | refine R_skipS rfl rfl rfl ?_ | refine R_do rfl (Const_pure rfl) rfl rfl ?_ | refine R_do rfl (Const_len rfl) rfl rfl ?_ | refine R_do rfl (Const_add rfl rfl (by first | exact wrap_i64 (by omega) | exact wrap_u64 (by omega) | exact wrap_u32 (by omega) | exact wrap_u8 (by omega))) rfl rfl ?_ | refine R_do rfl (Const_sub rfl rfl (by first | exact wrap_i64 (by omega) | exact wrap_u64 (by omega) | exact wrap_u32 (by omega) | exact wrap_u8 (by omega))) rfl rfl ?_ | refine T_yes rfl (by omega) ?_ | refine T_no rfl (by omega) ?_ | refine R_grdY rfl rfl (by omega) ?_ | refine R_grdN rfl rfl (by omega) ?_ | refine T_dec rfl (fun h => ?_) (fun h => ?_) | refine T_cond_true rfl ?_ | refine T_cond_false rfl ?_ | refine R_grd rfl rfl (fun h => ?_) (fun h => ?_))
  refine R_do rfl (Const_struct (pvs := [(0, .int .i64 0), (1, .int .i64 0), (2, .int .i64 1)]) (cells := enc (0, 0, 1)) rfl rfl) rfl rfl ?_
  refine R_do rfl (Const_struct (pvs := [(0, .int .i64 1), (1, .int .i64 1), (2, .int .i64 1)]) (cells := enc (1, 1, 1)) rfl rfl) rfl rfl ?_
  refine R_ef rfl (Eff_vals (vals := [.agg (enc (0, 0, 1)).toArray, .agg (enc (1, 1, 1)).toArray]) rfl rfl (fun v hv => by simp at hv; rcases hv with rfl | rfl <;> rfl) (by omega)) rfl rfl ?_
  rintro _ w6 ⟨b6, hb6, rfl, B6, E6, L6⟩
  refine ⟨trivial, ?_⟩
  have hs4 : Sl [] w6 p4 (encs [(0, 0, 1), (1, 1, 1)]) := ((hN4 [] (by simp)).mono E5).mono E6
  have hs6 : Sl [] w6 (some ⟨b6, 0, none⟩) (encs [(0, 0, 1), (1, 1, 1)]) := B6.sl (by simp) 0 (fun j v h => by simpa [encs, Value.cells] using h)
  (refine R_ef rfl (Eff_call rfl (EqualM_ok p4 (some ⟨b6, 0, none⟩) [(0, 0, 1), (1, 1, 1)] [(0, 0, 1), (1, 1, 1)] c4 2 w6 (by simp) hs4 hs6)) rfl rfl ?_; rintro _ w7 ⟨E7, rfl⟩)
  refine ⟨trivial, ?_⟩
  rw [B_true rfl]
  repeat' (first | refine T_seq ?_ | refine T_region ?_ | refine T_ret ?_ | refine T_skip ?_ | refine T_label ?_ | refine T_block ?_ | refine T_exit ?_ | refine N_then ?_ | refine N_thenR ?_ | refine N_thenE ?_ | refine N_inN ?_ | refine N_inR ?_ | refine N_inE ?_ | refine N_inO rfl ?_ | refine R_nil ?_ | refine R_skip rfl rfl rfl ?_ | refine R_skipS rfl rfl rfl ?_ | refine R_do rfl (Const_pure rfl) rfl rfl ?_ | refine R_do rfl (Const_len rfl) rfl rfl ?_ | refine R_do rfl (Const_add rfl rfl (by first | exact wrap_i64 (by omega) | exact wrap_u64 (by omega) | exact wrap_u32 (by omega) | exact wrap_u8 (by omega))) rfl rfl ?_ | refine R_do rfl (Const_sub rfl rfl (by first | exact wrap_i64 (by omega) | exact wrap_u64 (by omega) | exact wrap_u32 (by omega) | exact wrap_u8 (by omega))) rfl rfl ?_ | refine T_yes rfl (by omega) ?_ | refine T_no rfl (by omega) ?_ | refine R_grdY rfl rfl (by omega) ?_ | refine R_grdN rfl rfl (by omega) ?_ | refine T_dec rfl (fun h => ?_) (fun h => ?_) | refine T_cond_true rfl ?_ | refine T_cond_false rfl ?_ | refine R_grd rfl rfl (fun h => ?_) (fun h => ?_))
  (refine R_ef rfl (Eff_call rfl (dist_ok 6 1 w7 (by omega) (by omega))) rfl rfl ?_; rintro _ w8 ⟨rfl, rfl⟩)
  refine ⟨trivial, ?_⟩
  rw [show dist 6 1 = 3 by decide +kernel]
  repeat' (first | refine T_seq ?_ | refine T_region ?_ | refine T_ret ?_ | refine T_skip ?_ | refine T_label ?_ | refine T_block ?_ | refine T_exit ?_ | refine N_then ?_ | refine N_thenR ?_ | refine N_thenE ?_ | refine N_inN ?_ | refine N_inR ?_ | refine N_inE ?_ | refine N_inO rfl ?_ | refine R_nil ?_ | refine R_skip rfl rfl rfl ?_ | refine R_skipS rfl rfl rfl ?_ | refine R_do rfl (Const_pure rfl) rfl rfl ?_ | refine R_do rfl (Const_len rfl) rfl rfl ?_ | refine R_do rfl (Const_add rfl rfl (by first | exact wrap_i64 (by omega) | exact wrap_u64 (by omega) | exact wrap_u32 (by omega) | exact wrap_u8 (by omega))) rfl rfl ?_ | refine R_do rfl (Const_sub rfl rfl (by first | exact wrap_i64 (by omega) | exact wrap_u64 (by omega) | exact wrap_u32 (by omega) | exact wrap_u8 (by omega))) rfl rfl ?_ | refine T_yes rfl (by omega) ?_ | refine T_no rfl (by omega) ?_ | refine R_grdY rfl rfl (by omega) ?_ | refine R_grdN rfl rfl (by omega) ?_ | refine T_dec rfl (fun h => ?_) (fun h => ?_) | refine T_cond_true rfl ?_ | refine T_cond_false rfl ?_ | refine R_grd rfl rfl (fun h => ?_) (fun h => ?_))
  exact N_ret1 (.inl rfl) rfl rfl ⟨((((E1.trans E14).trans E5).trans E6).trans E7), by rw [B_true rfl]⟩
end Go.Proofs.Ytefkpnhhmjdcnaa

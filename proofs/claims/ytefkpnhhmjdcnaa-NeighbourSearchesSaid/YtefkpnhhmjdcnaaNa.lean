/- neighbour: bits and the distance -/
import Derived.Test.YtefkpnhhmjdcnaaFs
import Derived.Test.YtefkpnhhmjdcnaaTys
import Derived.Test.YtefkpnhhmjdcnaaPop
namespace Go.Proofs.Ytefkpnhhmjdcnaa
open Go Go.Fx Go.Pop

theorem rep85 : rep 85 8 = 6148914691236517205 := by decide
theorem rep51 : rep 51 8 = 3689348814741910323 := by decide
theorem rep15 : rep 15 8 = 1085102592571150095 := by decide
theorem s1_le (x : Nat) (hx : x < 2 ^ 64) : s1 8 x < 2 ^ 64 := by
  unfold s1
  have h1 : (x / 2) &&& rep 85 8 ≤ rep 85 8 := Nat.and_le_right
  have h2 : x &&& rep 85 8 ≤ rep 85 8 := Nat.and_le_right
  rw [rep85] at *
  omega
theorem s2_le (x : Nat) : s2 8 x ≤ 7378697629483820646 := by
  unfold s2
  have h1 : (x / 4) &&& rep 51 8 ≤ rep 51 8 := Nat.and_le_right
  have h2 : x &&& rep 51 8 ≤ rep 51 8 := Nat.and_le_right
  rw [rep51] at *
  omega

theorem ones_ok (x : Nat) (hx : x < 2 ^ 64) (w : World) : Ret Try.prog 36 [.int .u64 (x : Int)] w (fun v w' => w = w' ∧ v = .int .i64 (pc 64 x : Nat)) := by
  have hs := swar x hx
  have e1 := s1_le x hx
  have e2 := s2_le (s1 8 x)
  have hpc := pc_le 64 x
  refine enter Try.func36 rfl Try.ntmps36 rfl ?_
  repeat (first | refine T_seq ?_ | refine T_region ?_ | refine T_ret ?_ | refine T_skip ?_ | refine T_label ?_ | refine T_block ?_ | refine T_exit ?_ | refine N_then ?_ | refine N_thenR ?_ | refine N_thenE ?_ | refine N_inN ?_ | refine N_inR ?_ | refine N_inE ?_ | refine N_inO rfl ?_ | refine R_nil ?_ | refine R_skip rfl rfl rfl ?_ | refine R_skipS rfl rfl rfl ?_ | refine R_do rfl (Const_pure rfl) rfl rfl ?_ | refine R_do rfl (Const_len rfl) rfl rfl ?_ | refine R_do rfl (Const_add rfl rfl (by first | exact wrap_i64 (by omega) | exact wrap_u64 (by omega) | exact wrap_u32 (by omega) | exact wrap_u8 (by omega))) rfl rfl ?_ | refine R_do rfl (Const_sub rfl rfl (by first | exact wrap_i64 (by omega) | exact wrap_u64 (by omega) | exact wrap_u32 (by omega) | exact wrap_u8 (by omega))) rfl rfl ?_)
  refine R_do rfl (Const_shr (a := x) (s := 1) rfl rfl (by decide)) rfl rfl ?_
  refine R_do rfl (Const_and64 (a := x / 2 ^ 1) (b := 6148914691236517205) rfl rfl (by omega) (by omega)) rfl rfl ?_
  repeat (first | refine T_seq ?_ | refine T_region ?_ | refine T_ret ?_ | refine T_skip ?_ | refine T_label ?_ | refine T_block ?_ | refine T_exit ?_ | refine N_then ?_ | refine N_thenR ?_ | refine N_thenE ?_ | refine N_inN ?_ | refine N_inR ?_ | refine N_inE ?_ | refine N_inO rfl ?_ | refine R_nil ?_ | refine R_skip rfl rfl rfl ?_ | refine R_skipS rfl rfl rfl ?_ | refine R_do rfl (Const_pure rfl) rfl rfl ?_ | refine R_do rfl (Const_len rfl) rfl rfl ?_ | refine R_do rfl (Const_add rfl rfl (by first | exact wrap_i64 (by omega) | exact wrap_u64 (by omega) | exact wrap_u32 (by omega) | exact wrap_u8 (by omega))) rfl rfl ?_ | refine R_do rfl (Const_sub rfl rfl (by first | exact wrap_i64 (by omega) | exact wrap_u64 (by omega) | exact wrap_u32 (by omega) | exact wrap_u8 (by omega))) rfl rfl ?_)
  refine R_do rfl (Const_and64 (a := x) (b := 6148914691236517205) rfl rfl (by omega) (by omega)) rfl rfl ?_
  have q1 : ((x / 2 ^ 1 &&& 6148914691236517205 : Nat) : Int) + ((x &&& 6148914691236517205 : Nat) : Int) = ((s1 8 x : Nat) : Int) := by unfold s1; rw [rep85]; rfl
  refine R_do rfl (Const_add (c := ((s1 8 x : Nat) : Int)) rfl rfl (by rw [q1]; exact wrap_u64 ⟨by omega, by omega⟩)) rfl rfl ?_
  rw [show by3 8 x = s3 8 (s2 8 (s1 8 x)) from rfl] at hs
  clear q1
  generalize s1 8 x = y at *
  repeat (first | refine T_seq ?_ | refine T_region ?_ | refine T_ret ?_ | refine T_skip ?_ | refine T_label ?_ | refine T_block ?_ | refine T_exit ?_ | refine N_then ?_ | refine N_thenR ?_ | refine N_thenE ?_ | refine N_inN ?_ | refine N_inR ?_ | refine N_inE ?_ | refine N_inO rfl ?_ | refine R_nil ?_ | refine R_skip rfl rfl rfl ?_ | refine R_skipS rfl rfl rfl ?_ | refine R_do rfl (Const_pure rfl) rfl rfl ?_ | refine R_do rfl (Const_len rfl) rfl rfl ?_ | refine R_do rfl (Const_add rfl rfl (by first | exact wrap_i64 (by omega) | exact wrap_u64 (by omega) | exact wrap_u32 (by omega) | exact wrap_u8 (by omega))) rfl rfl ?_ | refine R_do rfl (Const_sub rfl rfl (by first | exact wrap_i64 (by omega) | exact wrap_u64 (by omega) | exact wrap_u32 (by omega) | exact wrap_u8 (by omega))) rfl rfl ?_)
  refine R_do rfl (Const_shr (a := y) (s := 2) rfl rfl (by decide)) rfl rfl ?_
  refine R_do rfl (Const_and64 (a := y / 2 ^ 2) (b := 3689348814741910323) rfl rfl (by omega) (by omega)) rfl rfl ?_
  repeat (first | refine T_seq ?_ | refine T_region ?_ | refine T_ret ?_ | refine T_skip ?_ | refine T_label ?_ | refine T_block ?_ | refine T_exit ?_ | refine N_then ?_ | refine N_thenR ?_ | refine N_thenE ?_ | refine N_inN ?_ | refine N_inR ?_ | refine N_inE ?_ | refine N_inO rfl ?_ | refine R_nil ?_ | refine R_skip rfl rfl rfl ?_ | refine R_skipS rfl rfl rfl ?_ | refine R_do rfl (Const_pure rfl) rfl rfl ?_ | refine R_do rfl (Const_len rfl) rfl rfl ?_ | refine R_do rfl (Const_add rfl rfl (by first | exact wrap_i64 (by omega) | exact wrap_u64 (by omega) | exact wrap_u32 (by omega) | exact wrap_u8 (by omega))) rfl rfl ?_ | refine R_do rfl (Const_sub rfl rfl (by first | exact wrap_i64 (by omega) | exact wrap_u64 (by omega) | exact wrap_u32 (by omega) | exact wrap_u8 (by omega))) rfl rfl ?_)
  refine R_do rfl (Const_and64 (a := y) (b := 3689348814741910323) rfl rfl (by omega) (by omega)) rfl rfl ?_
  have q1 : ((y / 2 ^ 2 &&& 3689348814741910323 : Nat) : Int) + ((y &&& 3689348814741910323 : Nat) : Int) = ((s2 8 y : Nat) : Int) := by unfold s2; rw [rep51]; rfl
  refine R_do rfl (Const_add (c := ((s2 8 y : Nat) : Int)) rfl rfl (by rw [q1]; exact wrap_u64 ⟨by omega, by omega⟩)) rfl rfl ?_
  clear q1 e1
  generalize s2 8 y = z at *
  repeat (first | refine T_seq ?_ | refine T_region ?_ | refine T_ret ?_ | refine T_skip ?_ | refine T_label ?_ | refine T_block ?_ | refine T_exit ?_ | refine N_then ?_ | refine N_thenR ?_ | refine N_thenE ?_ | refine N_inN ?_ | refine N_inR ?_ | refine N_inE ?_ | refine N_inO rfl ?_ | refine R_nil ?_ | refine R_skip rfl rfl rfl ?_ | refine R_skipS rfl rfl rfl ?_ | refine R_do rfl (Const_pure rfl) rfl rfl ?_ | refine R_do rfl (Const_len rfl) rfl rfl ?_ | refine R_do rfl (Const_add rfl rfl (by first | exact wrap_i64 (by omega) | exact wrap_u64 (by omega) | exact wrap_u32 (by omega) | exact wrap_u8 (by omega))) rfl rfl ?_ | refine R_do rfl (Const_sub rfl rfl (by first | exact wrap_i64 (by omega) | exact wrap_u64 (by omega) | exact wrap_u32 (by omega) | exact wrap_u8 (by omega))) rfl rfl ?_)
  refine R_do rfl (Const_shr (a := z) (s := 4) rfl rfl (by decide)) rfl rfl ?_
  repeat (first | refine T_seq ?_ | refine T_region ?_ | refine T_ret ?_ | refine T_skip ?_ | refine T_label ?_ | refine T_block ?_ | refine T_exit ?_ | refine N_then ?_ | refine N_thenR ?_ | refine N_thenE ?_ | refine N_inN ?_ | refine N_inR ?_ | refine N_inE ?_ | refine N_inO rfl ?_ | refine R_nil ?_ | refine R_skip rfl rfl rfl ?_ | refine R_skipS rfl rfl rfl ?_ | refine R_do rfl (Const_pure rfl) rfl rfl ?_ | refine R_do rfl (Const_len rfl) rfl rfl ?_ | refine R_do rfl (Const_add rfl rfl (by first | exact wrap_i64 (by omega) | exact wrap_u64 (by omega) | exact wrap_u32 (by omega) | exact wrap_u8 (by omega))) rfl rfl ?_ | refine R_do rfl (Const_sub rfl rfl (by first | exact wrap_i64 (by omega) | exact wrap_u64 (by omega) | exact wrap_u32 (by omega) | exact wrap_u8 (by omega))) rfl rfl ?_)
  have q2 : ((z / 2 ^ 4 : Nat) : Int) + (z : Int) = ((z / 16 + z : Nat) : Int) := by simp
  refine R_do rfl (Const_and64 (a := z / 16 + z) (b := 1085102592571150095) (by rw [← q2]; rfl) rfl (by omega) (by omega)) rfl rfl ?_
  have q3 : (z / 16 + z) &&& 1085102592571150095 = s3 8 z := by unfold s3; rw [rep15]
  rw [q3]
  generalize s3 8 z = u at *
  clear q2 q3
  repeat (first | refine T_seq ?_ | refine T_region ?_ | refine T_ret ?_ | refine T_skip ?_ | refine T_label ?_ | refine T_block ?_ | refine T_exit ?_ | refine N_then ?_ | refine N_thenR ?_ | refine N_thenE ?_ | refine N_inN ?_ | refine N_inR ?_ | refine N_inE ?_ | refine N_inO rfl ?_ | refine R_nil ?_ | refine R_skip rfl rfl rfl ?_ | refine R_skipS rfl rfl rfl ?_ | refine R_do rfl (Const_pure rfl) rfl rfl ?_ | refine R_do rfl (Const_len rfl) rfl rfl ?_ | refine R_do rfl (Const_add rfl rfl (by first | exact wrap_i64 (by omega) | exact wrap_u64 (by omega) | exact wrap_u32 (by omega) | exact wrap_u8 (by omega))) rfl rfl ?_ | refine R_do rfl (Const_sub rfl rfl (by first | exact wrap_i64 (by omega) | exact wrap_u64 (by omega) | exact wrap_u32 (by omega) | exact wrap_u8 (by omega))) rfl rfl ?_)
  refine R_do rfl (Const_shr (a := u) (s := 8) rfl rfl (by decide)) rfl rfl ?_
  have q4 : (u : Int) + ((u / 2 ^ 8 : Nat) : Int) = ((u + u / 256 : Nat) : Int) := by simp
  refine R_do rfl (Const_add (c := ((u + u / 256 : Nat) : Int)) rfl rfl (by rw [q4]; exact wrap_u64 ⟨by omega, by omega⟩)) rfl rfl ?_
  obtain ⟨hs1, hs2⟩ := hs
  have hv : u + u / 256 ≤ 600000000000000000 := by omega
  clear q4
  generalize u + u / 256 = v at *
  repeat (first | refine T_seq ?_ | refine T_region ?_ | refine T_ret ?_ | refine T_skip ?_ | refine T_label ?_ | refine T_block ?_ | refine T_exit ?_ | refine N_then ?_ | refine N_thenR ?_ | refine N_thenE ?_ | refine N_inN ?_ | refine N_inR ?_ | refine N_inE ?_ | refine N_inO rfl ?_ | refine R_nil ?_ | refine R_skip rfl rfl rfl ?_ | refine R_skipS rfl rfl rfl ?_ | refine R_do rfl (Const_pure rfl) rfl rfl ?_ | refine R_do rfl (Const_len rfl) rfl rfl ?_ | refine R_do rfl (Const_add rfl rfl (by first | exact wrap_i64 (by omega) | exact wrap_u64 (by omega) | exact wrap_u32 (by omega) | exact wrap_u8 (by omega))) rfl rfl ?_ | refine R_do rfl (Const_sub rfl rfl (by first | exact wrap_i64 (by omega) | exact wrap_u64 (by omega) | exact wrap_u32 (by omega) | exact wrap_u8 (by omega))) rfl rfl ?_)
  refine R_do rfl (Const_shr (a := v) (s := 16) rfl rfl (by decide)) rfl rfl ?_
  have q4 : (v : Int) + ((v / 2 ^ 16 : Nat) : Int) = ((v + v / 65536 : Nat) : Int) := by simp
  refine R_do rfl (Const_add (c := ((v + v / 65536 : Nat) : Int)) rfl rfl (by rw [q4]; exact wrap_u64 ⟨by omega, by omega⟩)) rfl rfl ?_
  have hv2 : v + v / 65536 ≤ 700000000000000000 := by omega
  clear q4
  generalize v + v / 65536 = v5 at *
  repeat (first | refine T_seq ?_ | refine T_region ?_ | refine T_ret ?_ | refine T_skip ?_ | refine T_label ?_ | refine T_block ?_ | refine T_exit ?_ | refine N_then ?_ | refine N_thenR ?_ | refine N_thenE ?_ | refine N_inN ?_ | refine N_inR ?_ | refine N_inE ?_ | refine N_inO rfl ?_ | refine R_nil ?_ | refine R_skip rfl rfl rfl ?_ | refine R_skipS rfl rfl rfl ?_ | refine R_do rfl (Const_pure rfl) rfl rfl ?_ | refine R_do rfl (Const_len rfl) rfl rfl ?_ | refine R_do rfl (Const_add rfl rfl (by first | exact wrap_i64 (by omega) | exact wrap_u64 (by omega) | exact wrap_u32 (by omega) | exact wrap_u8 (by omega))) rfl rfl ?_ | refine R_do rfl (Const_sub rfl rfl (by first | exact wrap_i64 (by omega) | exact wrap_u64 (by omega) | exact wrap_u32 (by omega) | exact wrap_u8 (by omega))) rfl rfl ?_)
  refine R_do rfl (Const_shr (a := v5) (s := 32) rfl rfl (by decide)) rfl rfl ?_
  have q4 : (v5 : Int) + ((v5 / 2 ^ 32 : Nat) : Int) = ((v5 + v5 / 4294967296 : Nat) : Int) := by simp
  refine R_do rfl (Const_add (c := ((v5 + v5 / 4294967296 : Nat) : Int)) rfl rfl (by rw [q4]; exact wrap_u64 ⟨by omega, by omega⟩)) rfl rfl ?_
  have hv3 : v5 + v5 / 4294967296 ≤ 800000000000000000 := by omega
  clear q4
  generalize v5 + v5 / 4294967296 = v6 at *
  repeat (first | refine T_seq ?_ | refine T_region ?_ | refine T_ret ?_ | refine T_skip ?_ | refine T_label ?_ | refine T_block ?_ | refine T_exit ?_ | refine N_then ?_ | refine N_thenR ?_ | refine N_thenE ?_ | refine N_inN ?_ | refine N_inR ?_ | refine N_inE ?_ | refine N_inO rfl ?_ | refine R_nil ?_ | refine R_skip rfl rfl rfl ?_ | refine R_skipS rfl rfl rfl ?_ | refine R_do rfl (Const_pure rfl) rfl rfl ?_ | refine R_do rfl (Const_len rfl) rfl rfl ?_ | refine R_do rfl (Const_add rfl rfl (by first | exact wrap_i64 (by omega) | exact wrap_u64 (by omega) | exact wrap_u32 (by omega) | exact wrap_u8 (by omega))) rfl rfl ?_ | refine R_do rfl (Const_sub rfl rfl (by first | exact wrap_i64 (by omega) | exact wrap_u64 (by omega) | exact wrap_u32 (by omega) | exact wrap_u8 (by omega))) rfl rfl ?_)
  refine R_do rfl (Const_conv (c := (v6 : Int)) rfl (wrap_i64 ⟨by omega, by omega⟩)) rfl rfl ?_
  refine R_do rfl (Const_andI (a := v6) (b := 127) rfl rfl (by omega) (by omega)) rfl rfl ?_
  repeat (first | refine T_seq ?_ | refine T_region ?_ | refine T_ret ?_ | refine T_skip ?_ | refine T_label ?_ | refine T_block ?_ | refine T_exit ?_ | refine N_then ?_ | refine N_thenR ?_ | refine N_thenE ?_ | refine N_inN ?_ | refine N_inR ?_ | refine N_inE ?_ | refine N_inO rfl ?_ | refine R_nil ?_ | refine R_skip rfl rfl rfl ?_ | refine R_skipS rfl rfl rfl ?_ | refine R_do rfl (Const_pure rfl) rfl rfl ?_ | refine R_do rfl (Const_len rfl) rfl rfl ?_ | refine R_do rfl (Const_add rfl rfl (by first | exact wrap_i64 (by omega) | exact wrap_u64 (by omega) | exact wrap_u32 (by omega) | exact wrap_u8 (by omega))) rfl rfl ?_ | refine R_do rfl (Const_sub rfl rfl (by first | exact wrap_i64 (by omega) | exact wrap_u64 (by omega) | exact wrap_u32 (by omega) | exact wrap_u8 (by omega))) rfl rfl ?_)
  refine N_ret1 (.inl rfl) rfl rfl ⟨rfl, ?_⟩
  have q5 : v6 &&& 127 = v6 % 128 := Nat.and_two_pow_sub_one_eq_mod v6 7
  rw [q5, hs1]

/-- the distance of two words -/
def dist (a b : Int) : Int := (pc 64 (a.toNat ^^^ b.toNat) : Nat)
theorem dist_bd (a b : Int) : 0 ≤ dist a b ∧ dist a b ≤ 64 := by
  have := pc_le 64 (a.toNat ^^^ b.toNat)
  unfold dist
  omega
theorem dist_ok (a b : Int) (w : World) (ha : 0 ≤ a ∧ a ≤ 18446744073709551615) (hb : 0 ≤ b ∧ b ≤ 18446744073709551615) :
    Ret Try.prog 12 [.int .u64 a, .int .u64 b] w (fun v w' => w = w' ∧ v = .int .i64 (dist a b)) := by
  obtain ⟨x, rfl⟩ := Int.eq_ofNat_of_zero_le ha.1
  obtain ⟨y, rfl⟩ := Int.eq_ofNat_of_zero_le hb.1
  refine enter Try.func12 rfl Try.ntmps12 rfl ?_
  repeat (first | refine T_seq ?_ | refine T_region ?_ | refine T_ret ?_ | refine T_skip ?_ | refine T_label ?_ | refine T_block ?_ | refine T_exit ?_ | refine N_then ?_ | refine N_thenR ?_ | refine N_thenE ?_ | refine N_inN ?_ | refine N_inR ?_ | refine N_inE ?_ | refine N_inO rfl ?_ | refine R_nil ?_ | refine R_skip rfl rfl rfl ?_ | refine R_skipS rfl rfl rfl ?_ | refine R_do rfl (Const_pure rfl) rfl rfl ?_ | refine R_do rfl (Const_len rfl) rfl rfl ?_ | refine R_do rfl (Const_add rfl rfl (by first | exact wrap_i64 (by omega) | exact wrap_u64 (by omega) | exact wrap_u32 (by omega) | exact wrap_u8 (by omega))) rfl rfl ?_ | refine R_do rfl (Const_sub rfl rfl (by first | exact wrap_i64 (by omega) | exact wrap_u64 (by omega) | exact wrap_u32 (by omega) | exact wrap_u8 (by omega))) rfl rfl ?_)
  refine R_do rfl (Const_xor64 (a := x) (b := y) rfl rfl (by omega) (by omega)) rfl rfl ?_
  (refine R_ef rfl (Eff_call rfl (ones_ok (x ^^^ y) (Nat.xor_lt_two_pow (by omega) (by omega)) w)) rfl rfl ?_; rintro _ w' ⟨rfl, rfl⟩)
  refine ⟨trivial, ?_⟩
  repeat (first | refine T_seq ?_ | refine T_region ?_ | refine T_ret ?_ | refine T_skip ?_ | refine T_label ?_ | refine T_block ?_ | refine T_exit ?_ | refine N_then ?_ | refine N_thenR ?_ | refine N_thenE ?_ | refine N_inN ?_ | refine N_inR ?_ | refine N_inE ?_ | refine N_inO rfl ?_ | refine R_nil ?_ | refine R_skip rfl rfl rfl ?_ | refine R_skipS rfl rfl rfl ?_ | refine R_do rfl (Const_pure rfl) rfl rfl ?_ | refine R_do rfl (Const_len rfl) rfl rfl ?_ | refine R_do rfl (Const_add rfl rfl (by first | exact wrap_i64 (by omega) | exact wrap_u64 (by omega) | exact wrap_u32 (by omega) | exact wrap_u8 (by omega))) rfl rfl ?_ | refine R_do rfl (Const_sub rfl rfl (by first | exact wrap_i64 (by omega) | exact wrap_u64 (by omega) | exact wrap_u32 (by omega) | exact wrap_u8 (by omega))) rfl rfl ?_)
  exact N_ret1 (.inl rfl) rfl rfl ⟨rfl, rfl⟩
end Go.Proofs.Ytefkpnhhmjdcnaa

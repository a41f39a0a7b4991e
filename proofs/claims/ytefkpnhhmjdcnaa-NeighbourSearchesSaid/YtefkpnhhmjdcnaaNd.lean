/- neighbour: Equal of matches -/
import Derived.Test.YtefkpnhhmjdcnaaNc
namespace Go.Proofs.Ytefkpnhhmjdcnaa
open Go Go.Fx

def m3l (m : M3) : List Int := [m.1, m.2.1, m.2.2]
theorem m3l_inj {a b : M3} (h : m3l a = m3l b) : a = b := by
  obtain ⟨a1, a2, a3⟩ := a
  obtain ⟨b1, b2, b3⟩ := b
  simp only [m3l, List.cons.injEq, and_true] at h
  simp [h]
theorem encs_at (ms : List M3) (i : Nat) (hi : i < ms.length) : ∀ j v, (i64s (m3l ms[i]))[j]? = some v → (encs ms)[i * 3 + j]? = some v := by
  induction ms generalizing i with
  | nil => simp at hi
  | cons m r ih =>
    intro j v hj
    cases i with
    | zero =>
      simp only [encs, List.flatMap_cons, Nat.zero_mul, Nat.zero_add]
      have hl : j < (enc m).length := by
        have := (List.getElem?_eq_some_iff.1 hj).1
        simpa [i64s, m3l, enc] using this
      rw [List.getElem?_append_left hl]
      simpa [i64s, m3l, enc] using hj
    | succ i =>
      have := ih i (by simpa using hi) j v (by simpa using hj)
      simp only [encs, List.flatMap_cons]
      rw [List.getElem?_append_right (by simp [enc]; omega)]
      have e : (i + 1) * 3 + j - (enc m).length = i * 3 + j := by simp [enc]; omega
      rw [e]
      exact this

theorem EqualM_ok (pa pb : Option Addr) (a b : List M3) (ca cb : Nat) (w : World) (hna : (a.length : Int) ≤ 9223372036854775807) (ha : Sl [] w pa (encs a)) (hb : Sl [] w pb (encs b)) :
    Ret Try.prog 16 [.slice pa a.length ca, .slice pb b.length cb] w (fun v w' => Ext [] w w' ∧ v = .bool (B (a = b))) := by
  refine enter Try.func16 rfl Try.ntmps16 rfl ?_
  repeat' (first | refine T_seq ?_ | refine T_region ?_ | refine T_ret ?_ | refine T_skip ?_ | refine T_label ?_ | refine T_block ?_ | refine T_exit ?_ | refine N_then ?_ | refine N_thenR ?_ | refine N_thenE ?_ | refine N_inN ?_ | refine N_inR ?_ | refine N_inE ?_ | refine N_inO rfl ?_ | refine R_nil ?_ | refine R_skip rfl rfl rfl ?_ | refine R_skipS rfl rfl rfl ?_ | refine R_do rfl (Const_pure rfl) rfl rfl ?_ | refine R_do rfl (Const_len rfl) rfl rfl ?_ | refine R_do rfl (Const_add rfl rfl (by first | exact wrap_i64 (by omega) | exact wrap_u64 (by omega) | exact wrap_u32 (by omega) | exact wrap_u8 (by omega))) rfl rfl ?_ | refine R_do rfl (Const_sub rfl rfl (by first | exact wrap_i64 (by omega) | exact wrap_u64 (by omega) | exact wrap_u32 (by omega) | exact wrap_u8 (by omega))) rfl rfl ?_ | refine T_yes rfl (by omega) ?_ | refine T_no rfl (by omega) ?_ | refine R_grdY rfl rfl (by omega) ?_ | refine R_grdN rfl rfl (by omega) ?_ | refine T_dec rfl (fun h => ?_) (fun h => ?_) | refine T_cond_true rfl ?_ | refine T_cond_false rfl ?_ | refine R_grd rfl rfl (fun h => ?_) (fun h => ?_))
  · refine N_ret1 (.inl rfl) rfl rfl ⟨Ext.refl _ _, ?_⟩
    rw [B_false (fun h => by subst h; omega)]
  refine T_loop (fun k G w' => ∃ i : Nat, i ≤ a.length ∧ k = a.length - i ∧ Ext [] w w' ∧ (∀ j, j < i → a[j]? = b[j]?) ∧ G = [(0, .slice pa a.length ca), (1, .slice pb b.length cb), (12, .int .i64 a.length), (13, .int .i64 i)])
    a.length _ subG ⟨0, by omega, rfl, Ext.refl _ _, fun j hj => by omega, rfl⟩ ?_
  rintro k G w' ⟨i, hi, rfl, E, hsame, rfl⟩
  have ha' := ha.mono E
  have hb' := hb.mono E
  have hla := encs_len a
  have hlb := encs_len b
  repeat' (first | refine T_seq ?_ | refine T_region ?_ | refine T_ret ?_ | refine T_skip ?_ | refine T_label ?_ | refine T_block ?_ | refine T_exit ?_ | refine N_then ?_ | refine N_thenR ?_ | refine N_thenE ?_ | refine N_inN ?_ | refine N_inR ?_ | refine N_inE ?_ | refine N_inO rfl ?_ | refine R_nil ?_ | refine R_skip rfl rfl rfl ?_ | refine R_skipS rfl rfl rfl ?_ | refine R_do rfl (Const_pure rfl) rfl rfl ?_ | refine R_do rfl (Const_len rfl) rfl rfl ?_ | refine R_do rfl (Const_add rfl rfl (by first | exact wrap_i64 (by omega) | exact wrap_u64 (by omega) | exact wrap_u32 (by omega) | exact wrap_u8 (by omega))) rfl rfl ?_ | refine R_do rfl (Const_sub rfl rfl (by first | exact wrap_i64 (by omega) | exact wrap_u64 (by omega) | exact wrap_u32 (by omega) | exact wrap_u8 (by omega))) rfl rfl ?_ | refine T_yes rfl (by omega) ?_ | refine T_no rfl (by omega) ?_ | refine R_grdY rfl rfl (by omega) ?_ | refine R_grdN rfl rfl (by omega) ?_ | refine T_dec rfl (fun h => ?_) (fun h => ?_) | refine T_cond_true rfl ?_ | refine T_cond_false rfl ?_ | refine R_grd rfl rfl (fun h => ?_) (fun h => ?_))
  · have hia : i < a.length := by omega
    have hib : i < b.length := by omega
    (repeat refine T_seq ?_); refine T_drawn (fun _ => Ext [] w') [0, 1, 2, 3, 4, 5, 6, 7, 8] [0, 0, 0, 0, 0, 0, 0, 0, 0] mixed (fun _ _ h => h) (by kernel_rfl) (Ext.drew _ _) ?_
    repeat' (first | refine T_seq ?_ | refine T_region ?_ | refine T_ret ?_ | refine T_skip ?_ | refine T_label ?_ | refine T_block ?_ | refine T_exit ?_ | refine N_then ?_ | refine N_thenR ?_ | refine N_thenE ?_ | refine N_inN ?_ | refine N_inR ?_ | refine N_inE ?_ | refine N_inO rfl ?_ | refine R_nil ?_ | refine R_skip rfl rfl rfl ?_ | refine R_skipS rfl rfl rfl ?_ | refine R_do rfl (Const_pure rfl) rfl rfl ?_ | refine R_do rfl (Const_len rfl) rfl rfl ?_ | refine R_do rfl (Const_add rfl rfl (by first | exact wrap_i64 (by omega) | exact wrap_u64 (by omega) | exact wrap_u32 (by omega) | exact wrap_u8 (by omega))) rfl rfl ?_ | refine R_do rfl (Const_sub rfl rfl (by first | exact wrap_i64 (by omega) | exact wrap_u64 (by omega) | exact wrap_u32 (by omega) | exact wrap_u8 (by omega))) rfl rfl ?_ | refine T_dec rfl (fun h => ?_) (fun h => ?_) | refine T_cond_true rfl ?_ | refine T_cond_false rfl ?_ | refine R_grd rfl rfl (fun h => ?_) (fun h => ?_))
    refine R_do rfl (Const_indexS rfl rfl ⟨by omega, by omega⟩ (ha'.ok (by omega))) rfl rfl ?_
    refine R_do rfl (Const_loadN (vs := i64s (m3l a[i])) rfl rfl (fun w1 e => (ha'.rowAt (i * 3) _ (encs_at a i hia)).ext e (by simp))) rfl rfl ?_
    repeat' (first | refine T_seq ?_ | refine T_region ?_ | refine T_ret ?_ | refine T_skip ?_ | refine T_label ?_ | refine T_block ?_ | refine T_exit ?_ | refine N_then ?_ | refine N_thenR ?_ | refine N_thenE ?_ | refine N_inN ?_ | refine N_inR ?_ | refine N_inE ?_ | refine N_inO rfl ?_ | refine R_nil ?_ | refine R_skip rfl rfl rfl ?_ | refine R_skipS rfl rfl rfl ?_ | refine R_do rfl (Const_pure rfl) rfl rfl ?_ | refine R_do rfl (Const_len rfl) rfl rfl ?_ | refine R_do rfl (Const_add rfl rfl (by first | exact wrap_i64 (by omega) | exact wrap_u64 (by omega) | exact wrap_u32 (by omega) | exact wrap_u8 (by omega))) rfl rfl ?_ | refine R_do rfl (Const_sub rfl rfl (by first | exact wrap_i64 (by omega) | exact wrap_u64 (by omega) | exact wrap_u32 (by omega) | exact wrap_u8 (by omega))) rfl rfl ?_ | refine T_dec rfl (fun h => ?_) (fun h => ?_) | refine T_cond_true rfl ?_ | refine T_cond_false rfl ?_ | refine R_grd rfl rfl (fun h => ?_) (fun h => ?_))
    refine R_do rfl (Const_indexS rfl rfl ⟨by omega, by omega⟩ (hb'.ok (by omega))) rfl rfl ?_
    refine R_do rfl (Const_loadN (vs := i64s (m3l b[i])) rfl rfl (fun w1 e => (hb'.rowAt (i * 3) _ (encs_at b i hib)).ext e (by simp))) rfl rfl ?_
    refine R_do rfl (Const_neI rfl rfl rfl rfl) rfl rfl ?_
    repeat' (first | refine T_seq ?_ | refine T_region ?_ | refine T_ret ?_ | refine T_skip ?_ | refine T_label ?_ | refine T_block ?_ | refine T_exit ?_ | refine N_then ?_ | refine N_thenR ?_ | refine N_thenE ?_ | refine N_inN ?_ | refine N_inR ?_ | refine N_inE ?_ | refine N_inO rfl ?_ | refine R_nil ?_ | refine R_skip rfl rfl rfl ?_ | refine R_skipS rfl rfl rfl ?_ | refine R_do rfl (Const_pure rfl) rfl rfl ?_ | refine R_do rfl (Const_len rfl) rfl rfl ?_ | refine R_do rfl (Const_add rfl rfl (by first | exact wrap_i64 (by omega) | exact wrap_u64 (by omega) | exact wrap_u32 (by omega) | exact wrap_u8 (by omega))) rfl rfl ?_ | refine R_do rfl (Const_sub rfl rfl (by first | exact wrap_i64 (by omega) | exact wrap_u64 (by omega) | exact wrap_u32 (by omega) | exact wrap_u8 (by omega))) rfl rfl ?_ | refine T_dec rfl (fun h => ?_) (fun h => ?_) | refine T_cond_true rfl ?_ | refine T_cond_false rfl ?_ | refine R_grd rfl rfl (fun h => ?_) (fun h => ?_))
    · refine N_ret1 (.inl rfl) rfl rfl ⟨E.trans (Ext.drew _ _), ?_⟩
      rw [B_false (fun h => by subst h; contradiction)]
    · refine N_again (a.length - (i + 1)) _ (by omega) subG ⟨i + 1, by omega, rfl, E.trans (Ext.drew _ _), fun j hj => ?_, rfl⟩
      by_cases hji : j = i
      · subst hji
        have he : a[j] = b[j] := m3l_inj (Decidable.of_not_not (by assumption))
        simp [hia, hib, he]
      · exact hsame j (by omega)
  · repeat' (first | refine T_seq ?_ | refine T_region ?_ | refine T_ret ?_ | refine T_skip ?_ | refine T_label ?_ | refine T_block ?_ | refine T_exit ?_ | refine N_then ?_ | refine N_thenR ?_ | refine N_thenE ?_ | refine N_inN ?_ | refine N_inR ?_ | refine N_inE ?_ | refine N_inO rfl ?_ | refine R_nil ?_ | refine R_skip rfl rfl rfl ?_ | refine R_skipS rfl rfl rfl ?_ | refine R_do rfl (Const_pure rfl) rfl rfl ?_ | refine R_do rfl (Const_len rfl) rfl rfl ?_ | refine R_do rfl (Const_add rfl rfl (by first | exact wrap_i64 (by omega) | exact wrap_u64 (by omega) | exact wrap_u32 (by omega) | exact wrap_u8 (by omega))) rfl rfl ?_ | refine R_do rfl (Const_sub rfl rfl (by first | exact wrap_i64 (by omega) | exact wrap_u64 (by omega) | exact wrap_u32 (by omega) | exact wrap_u8 (by omega))) rfl rfl ?_ | refine T_dec rfl (fun h => ?_) (fun h => ?_) | refine T_cond_true rfl ?_ | refine T_cond_false rfl ?_ | refine R_grd rfl rfl (fun h => ?_) (fun h => ?_))
    refine N_ret1 (.inl rfl) rfl rfl ⟨E, ?_⟩
    rw [B_true]
    apply List.ext_getElem?
    intro j
    by_cases hj : j < i
    · exact hsame j hj
    · rw [List.getElem?_eq_none (by omega), List.getElem?_eq_none (by omega)]
end Go.Proofs.Ytefkpnhhmjdcnaa

/- neighbour: the law's own matches, long -/
import Derived.Test.YtefkpnhhmjdcnaaRa
namespace Go.Proofs.Ytefkpnhhmjdcnaa
open Go Go.Fx

theorem mK_nil (a : List Int) (num den : Int) : ∀ k, mK a [] num den k = []
  | 0 => rfl
  | k + 1 => by
    rw [mK, mK_nil a num den k]
    simp [mStep, nr]
theorem sec_clr (l : List Int) (wd i d num den : Int) : (sec l i wd l.length < 0 ∨ d * den ≤ num * sec l i wd l.length) ↔ Clr l wd i d num den := by
  unfold Clr
  rcases sec_nr l i wd l.length with ⟨h1, h2⟩ | ⟨h1, h2, h3⟩
  · exact ⟨fun _ => .inl h1, fun _ => .inl h2⟩
  · rw [h3]
    refine ⟨fun h => .inr (h.resolve_left (by omega)), fun h => .inr (h.resolve_left (by omega))⟩

def lmPost (a b : List Int) (num den : Int) (w : World) (v : Value) (w' : World) : Prop :=
  Ext [] w w' ∧ ∃ p c, v = .slice p (mK a b num den a.length).length c ∧ New w w' p (encs (mK a b num den a.length))

theorem lmatches_ok (pa pb : Option Addr) (a b : List Int) (ca cb : Nat) (num den : Int) (w : World) (hna : a.length ≤ 1000) (hnb : b.length ≤ 1000) (ha : Ints [] w .u64 pa a) (hb : Ints [] w .u64 pb b) (ha64 : W64 a) (hb64 : W64 b)
    (hnum : 1 ≤ num ∧ num ≤ 1000) (hden : 1 ≤ den ∧ den ≤ 1000) :
    Ret Try.prog 17 [.slice pa a.length ca, .slice pb b.length cb, .int .i64 num, .int .i64 den] w (lmPost a b num den w) := by
  have done : ∀ (w' : World) (v : Value), w'.ownsRow w.heap.size 36 3 v (mK a b num den a.length).length (encs (mK a b num den a.length)) → Ext [] w w' → lmPost a b num den w v w' := by
    intro w' v hown E
    obtain ⟨p, c, rfl, hsl, _, _⟩ := own_sl hown
    exact ⟨E, p, c, rfl, fun X hX => hsl X (fun k hk hx => by have := (hown.lt k hk).1; have := hX k hx; omega)⟩
  refine enter Try.func17 rfl Try.ntmps17 rfl ?_
  repeat (first | refine T_seq ?_ | refine T_region ?_ | refine T_ret ?_ | refine T_skip ?_ | refine T_label ?_ | refine T_block ?_ | refine T_exit ?_ | refine N_then ?_ | refine N_thenR ?_ | refine N_thenE ?_ | refine N_inN ?_ | refine N_inR ?_ | refine N_inE ?_ | refine N_inO rfl ?_ | refine R_nil ?_ | refine R_skip rfl rfl rfl ?_ | refine R_skipS rfl rfl rfl ?_ | refine R_do rfl (Const_pure rfl) rfl rfl ?_ | refine R_do rfl (Const_len rfl) rfl rfl ?_ | refine R_do rfl (Const_add rfl rfl (by first | exact wrap_i64 (by omega) | exact wrap_u64 (by omega) | exact wrap_u32 (by omega) | exact wrap_u8 (by omega))) rfl rfl ?_ | refine R_do rfl (Const_sub rfl rfl (by first | exact wrap_i64 (by omega) | exact wrap_u64 (by omega) | exact wrap_u32 (by omega) | exact wrap_u8 (by omega))) rfl rfl ?_)
  refine T_loop (fun k G w' => ∃ (i : Nat) (v : Value), i ≤ a.length ∧ k = a.length - i ∧ w'.ownsRow w.heap.size 36 3 v (mK a b num den i).length (encs (mK a b num den i)) ∧ Ext [] w w' ∧
      G = [(0, .slice pa a.length ca), (1, .slice pb b.length cb), (2, .int .i64 num), (3, .int .i64 den), (9, v), (18, .slice pa a.length ca), (19, .int .i64 a.length), (20, .int .i64 i)])
    a.length _ subG ⟨0, .slice none 0 0, by omega, rfl, own_nil _ _ _ _, Ext.refl _ _, rfl⟩ ?_
  rintro k G w' ⟨i, v, hi, rfl, hown, E', rfl⟩
  have haw : Ints [] w' .u64 pa a := ha.mono E'
  have hbw : Ints [] w' .u64 pb b := hb.mono E'
  by_cases hlt : i < a.length
  · repeat' (first | refine T_seq ?_ | refine T_region ?_ | refine T_ret ?_ | refine T_skip ?_ | refine T_label ?_ | refine T_block ?_ | refine T_exit ?_ | refine N_then ?_ | refine N_thenR ?_ | refine N_thenE ?_ | refine N_inN ?_ | refine N_inR ?_ | refine N_inE ?_ | refine N_inO rfl ?_ | refine R_nil ?_ | refine R_skip rfl rfl rfl ?_ | refine R_skipS rfl rfl rfl ?_ | refine R_do rfl (Const_pure rfl) rfl rfl ?_ | refine R_do rfl (Const_len rfl) rfl rfl ?_ | refine R_do rfl (Const_add rfl rfl (by first | exact wrap_i64 (by omega) | exact wrap_u64 (by omega) | exact wrap_u32 (by omega) | exact wrap_u8 (by omega))) rfl rfl ?_ | refine R_do rfl (Const_sub rfl rfl (by first | exact wrap_i64 (by omega) | exact wrap_u64 (by omega) | exact wrap_u32 (by omega) | exact wrap_u8 (by omega))) rfl rfl ?_ | refine T_yes rfl (by omega) ?_ | refine T_no rfl (by omega) ?_ | refine R_grdY rfl rfl (by omega) ?_ | refine R_grdN rfl rfl (by omega) ?_ | refine T_dec rfl (fun h => ?_) (fun h => ?_) | refine T_cond_true rfl ?_ | refine T_cond_false rfl ?_ | refine R_grd rfl rfl (fun h => ?_) (fun h => ?_))
    refine R_do rfl (Const_indexS rfl rfl ⟨by omega, by omega⟩ (haw.ok (by omega))) rfl rfl ?_
    refine R_do rfl (Const_load rfl (seqC (haw.cell (i := i) (by omega)))) rfl rfl ?_
    by_cases hb0 : b.length = 0
    · repeat' (first | refine T_seq ?_ | refine T_region ?_ | refine T_ret ?_ | refine T_skip ?_ | refine T_label ?_ | refine T_block ?_ | refine T_exit ?_ | refine N_then ?_ | refine N_thenR ?_ | refine N_thenE ?_ | refine N_inN ?_ | refine N_inR ?_ | refine N_inE ?_ | refine N_inO rfl ?_ | refine R_nil ?_ | refine R_skip rfl rfl rfl ?_ | refine R_skipS rfl rfl rfl ?_ | refine R_do rfl (Const_pure rfl) rfl rfl ?_ | refine R_do rfl (Const_len rfl) rfl rfl ?_ | refine R_do rfl (Const_add rfl rfl (by first | exact wrap_i64 (by omega) | exact wrap_u64 (by omega) | exact wrap_u32 (by omega) | exact wrap_u8 (by omega))) rfl rfl ?_ | refine R_do rfl (Const_sub rfl rfl (by first | exact wrap_i64 (by omega) | exact wrap_u64 (by omega) | exact wrap_u32 (by omega) | exact wrap_u8 (by omega))) rfl rfl ?_ | refine T_yes rfl (by omega) ?_ | refine T_no rfl (by omega) ?_ | refine R_grdY rfl rfl (by omega) ?_ | refine R_grdN rfl rfl (by omega) ?_ | refine T_dec rfl (fun h => ?_) (fun h => ?_) | refine T_cond_true rfl ?_ | refine T_cond_false rfl ?_ | refine R_grd rfl rfl (fun h => ?_) (fun h => ?_))
      refine N_ret1 (.inl rfl) rfl rfl (done _ _ ?_ E')
      have : b = [] := List.eq_nil_of_length_eq_zero hb0
      subst this
      rw [mK_nil] at hown ⊢
      exact hown
    repeat' (first | refine T_seq ?_ | refine T_region ?_ | refine T_ret ?_ | refine T_skip ?_ | refine T_label ?_ | refine T_block ?_ | refine T_exit ?_ | refine N_then ?_ | refine N_thenR ?_ | refine N_thenE ?_ | refine N_inN ?_ | refine N_inR ?_ | refine N_inE ?_ | refine N_inO rfl ?_ | refine R_nil ?_ | refine R_skip rfl rfl rfl ?_ | refine R_skipS rfl rfl rfl ?_ | refine R_do rfl (Const_pure rfl) rfl rfl ?_ | refine R_do rfl (Const_len rfl) rfl rfl ?_ | refine R_do rfl (Const_add rfl rfl (by first | exact wrap_i64 (by omega) | exact wrap_u64 (by omega) | exact wrap_u32 (by omega) | exact wrap_u8 (by omega))) rfl rfl ?_ | refine R_do rfl (Const_sub rfl rfl (by first | exact wrap_i64 (by omega) | exact wrap_u64 (by omega) | exact wrap_u32 (by omega) | exact wrap_u8 (by omega))) rfl rfl ?_ | refine T_yes rfl (by omega) ?_ | refine T_no rfl (by omega) ?_ | refine R_grdY rfl rfl (by omega) ?_ | refine R_grdN rfl rfl (by omega) ?_ | refine T_dec rfl (fun h => ?_) (fun h => ?_) | refine T_cond_true rfl ?_ | refine T_cond_false rfl ?_ | refine R_grd rfl rfl (fun h => ?_) (fun h => ?_))
    (refine R_ef rfl (Eff_call rfl (lnear_ok pb b cb (a.getD i 0) w' (by omega) (by omega) hbw hb64 (ha64 i))) rfl rfl ?_; rintro _ w3 ⟨E3, rfl⟩)
    refine ⟨trivial, ?_⟩
    have hj := nearest_lt b (a.getD i 0) (-1) b.length
    have hd := nr_bd b (a.getD i 0) (-1) b.length
    have hj0 : 0 ≤ (nr b (a.getD i 0) (-1) b.length).1 := by
      obtain ⟨m, hm⟩ : ∃ m, b.length = m + 1 := ⟨b.length - 1, by omega⟩
      have := bst_nr b (a.getD i 0) m
      rw [← hm] at this
      rw [this]
      omega
    have hbw3 : Ints [] w3 .u64 pb b := hbw.mono E3
    have haw3 : Ints [] w3 .u64 pa a := haw.mono E3
    repeat' (first | refine T_seq ?_ | refine T_region ?_ | refine T_ret ?_ | refine T_skip ?_ | refine T_label ?_ | refine T_block ?_ | refine T_exit ?_ | refine N_then ?_ | refine N_thenR ?_ | refine N_thenE ?_ | refine N_inN ?_ | refine N_inR ?_ | refine N_inE ?_ | refine N_inO rfl ?_ | refine R_nil ?_ | refine R_skip rfl rfl rfl ?_ | refine R_skipS rfl rfl rfl ?_ | refine R_do rfl (Const_pure rfl) rfl rfl ?_ | refine R_do rfl (Const_len rfl) rfl rfl ?_ | refine R_do rfl (Const_add rfl rfl (by first | exact wrap_i64 (by omega) | exact wrap_u64 (by omega) | exact wrap_u32 (by omega) | exact wrap_u8 (by omega))) rfl rfl ?_ | refine R_do rfl (Const_sub rfl rfl (by first | exact wrap_i64 (by omega) | exact wrap_u64 (by omega) | exact wrap_u32 (by omega) | exact wrap_u8 (by omega))) rfl rfl ?_ | refine T_yes rfl (by omega) ?_ | refine T_no rfl (by omega) ?_ | refine R_grdY rfl rfl (by omega) ?_ | refine R_grdN rfl rfl (by omega) ?_ | refine T_dec rfl (fun h => ?_) (fun h => ?_) | refine T_cond_true rfl ?_ | refine T_cond_false rfl ?_ | refine R_grd rfl rfl (fun h => ?_) (fun h => ?_))
    refine R_do rfl (Const_indexS rfl rfl ⟨by omega, by omega⟩ (hbw3.ok (by omega))) rfl rfl ?_
    refine R_do rfl (Const_load rfl (seqC (hbw3.cell (i := (nr b (a.getD i 0) (-1) b.length).1.toNat) (by omega)))) rfl rfl ?_
    (refine R_ef rfl (Eff_call rfl (lnear_ok pa a ca (b.getD (nr b (a.getD i 0) (-1) b.length).1.toNat 0) w3 (by omega) (by omega) haw3 ha64 (hb64 _))) rfl rfl ?_; rintro _ w4 ⟨E4, rfl⟩)
    refine ⟨trivial, ?_⟩
    have haw4 : Ints [] w4 .u64 pa a := haw3.mono E4
    have hbw4 : Ints [] w4 .u64 pb b := hbw3.mono E4
    have E04 := (E'.trans E3).trans E4
    have hown4 := own_ext hown ((E3.trans E4)) (by simp)
    have hm0 : mK a b num den (i + 1) = mK a b num den i ++ (if (nr a (b.getD (nr b (a.getD i 0) (-1) b.length).1.toNat 0) (-1) a.length).1 = i ∧ Clr b (a.getD i 0) (nr b (a.getD i 0) (-1) b.length).1 (nr b (a.getD i 0) (-1) b.length).2 num den ∧ Clr a (b.getD (nr b (a.getD i 0) (-1) b.length).1.toNat 0) i (nr b (a.getD i 0) (-1) b.length).2 num den then [((i : Int), (nr b (a.getD i 0) (-1) b.length).1, (nr b (a.getD i 0) (-1) b.length).2)] else []) := by
      rw [mK, mStep]
      dsimp only
      rw [if_neg (by omega)]
    have hyes : (nr a (b.getD (nr b (a.getD i 0) (-1) b.length).1.toNat 0) (-1) a.length).1 = i → (sec b (nr b (a.getD i 0) (-1) b.length).1 (a.getD i 0) b.length < 0 ∨ (nr b (a.getD i 0) (-1) b.length).2 * den ≤ num * sec b (nr b (a.getD i 0) (-1) b.length).1 (a.getD i 0) b.length) →
        (sec a i (b.getD (nr b (a.getD i 0) (-1) b.length).1.toNat 0) a.length < 0 ∨ (nr b (a.getD i 0) (-1) b.length).2 * den ≤ num * sec a i (b.getD (nr b (a.getD i 0) (-1) b.length).1.toNat 0) a.length) →
        mK a b num den (i + 1) = mK a b num den i ++ [((i : Int), (nr b (a.getD i 0) (-1) b.length).1, (nr b (a.getD i 0) (-1) b.length).2)] := fun h1 h2 h3 => by
      rw [hm0, if_pos ⟨h1, (sec_clr _ _ _ _ _ _).1 h2, (sec_clr _ _ _ _ _ _).1 h3⟩]
    have hno : ¬ ((nr a (b.getD (nr b (a.getD i 0) (-1) b.length).1.toNat 0) (-1) a.length).1 = i ∧ (sec b (nr b (a.getD i 0) (-1) b.length).1 (a.getD i 0) b.length < 0 ∨ (nr b (a.getD i 0) (-1) b.length).2 * den ≤ num * sec b (nr b (a.getD i 0) (-1) b.length).1 (a.getD i 0) b.length) ∧
        (sec a i (b.getD (nr b (a.getD i 0) (-1) b.length).1.toNat 0) a.length < 0 ∨ (nr b (a.getD i 0) (-1) b.length).2 * den ≤ num * sec a i (b.getD (nr b (a.getD i 0) (-1) b.length).1.toNat 0) a.length)) →
        mK a b num den (i + 1) = mK a b num den i := fun h => by
      rw [hm0, if_neg (fun hh => h ⟨hh.1, (sec_clr _ _ _ _ _ _).2 hh.2.1, (sec_clr _ _ _ _ _ _).2 hh.2.2⟩), List.append_nil]
    clear hm0
    generalize hJ : (nr b (a.getD i 0) (-1) b.length).1 = J at *
    generalize hD : (nr b (a.getD i 0) (-1) b.length).2 = D at *
    generalize hK : (nr a (b.getD J.toNat 0) (-1) a.length).1 = K at *
    by_cases hKi : K = i
    · repeat' (first | refine T_seq ?_ | refine T_region ?_ | refine T_ret ?_ | refine T_skip ?_ | refine T_label ?_ | refine T_block ?_ | refine T_exit ?_ | refine N_then ?_ | refine N_thenR ?_ | refine N_thenE ?_ | refine N_inN ?_ | refine N_inR ?_ | refine N_inE ?_ | refine N_inO rfl ?_ | refine R_nil ?_ | refine R_skip rfl rfl rfl ?_ | refine R_skipS rfl rfl rfl ?_ | refine R_do rfl (Const_pure rfl) rfl rfl ?_ | refine R_do rfl (Const_len rfl) rfl rfl ?_ | refine R_do rfl (Const_add rfl rfl (by first | exact wrap_i64 (by omega) | exact wrap_u64 (by omega) | exact wrap_u32 (by omega) | exact wrap_u8 (by omega))) rfl rfl ?_ | refine R_do rfl (Const_sub rfl rfl (by first | exact wrap_i64 (by omega) | exact wrap_u64 (by omega) | exact wrap_u32 (by omega) | exact wrap_u8 (by omega))) rfl rfl ?_ | refine T_yes rfl (by omega) ?_ | refine T_no rfl (by omega) ?_ | refine R_grdY rfl rfl (by omega) ?_ | refine R_grdN rfl rfl (by omega) ?_ | refine T_dec rfl (fun h => ?_) (fun h => ?_) | refine T_cond_true rfl ?_ | refine T_cond_false rfl ?_ | refine R_grd rfl rfl (fun h => ?_) (fun h => ?_))
      (repeat refine T_seq ?_); refine T_drawn (fun _ => Ext [] w4) [0, 1, 2, 4, 5, 6, 7, 8, 9, 3, 10, 11, 12] [1, 1, 1, 1, 1, 2, 2, 2, 1, 0, 0, 0, 0] mixed (fun _ _ h => h) (by kernel_rfl) (Ext.drew _ _) ?_
      repeat' (first | refine T_seq ?_ | refine T_region ?_ | refine T_ret ?_ | refine T_skip ?_ | refine T_label ?_ | refine T_block ?_ | refine T_exit ?_ | refine N_then ?_ | refine N_thenR ?_ | refine N_thenE ?_ | refine N_inN ?_ | refine N_inR ?_ | refine N_inE ?_ | refine N_inO rfl ?_ | refine R_nil ?_ | refine R_skip rfl rfl rfl ?_ | refine R_skipS rfl rfl rfl ?_ | refine R_do rfl (Const_pure rfl) rfl rfl ?_ | refine R_do rfl (Const_len rfl) rfl rfl ?_ | refine R_do rfl (Const_add rfl rfl (by first | exact wrap_i64 (by omega) | exact wrap_u64 (by omega) | exact wrap_u32 (by omega) | exact wrap_u8 (by omega))) rfl rfl ?_ | refine R_do rfl (Const_sub rfl rfl (by first | exact wrap_i64 (by omega) | exact wrap_u64 (by omega) | exact wrap_u32 (by omega) | exact wrap_u8 (by omega))) rfl rfl ?_ | refine T_yes rfl (by omega) ?_ | refine T_no rfl (by omega) ?_ | refine R_grdY rfl rfl (by omega) ?_ | refine R_grdN rfl rfl (by omega) ?_ | refine T_dec rfl (fun h => ?_) (fun h => ?_) | refine T_cond_true rfl ?_ | refine T_cond_false rfl ?_ | refine R_grd rfl rfl (fun h => ?_) (fun h => ?_))
      refine R_do rfl (Const_indexS rfl rfl ⟨by omega, by omega⟩ (hbw4.ok (by omega))) rfl rfl ?_
      refine R_do rfl (Const_load rfl (extC (hbw4.cell (i := J.toNat) (by omega)) (by simp))) rfl rfl ?_
      have s1 := sec_bd b J (a.getD i 0) b.length
      have s2 := sec_bd a i (b.getD J.toNat 0) a.length
      (refine R_ef rfl (Eff_call rfl (second_ok pb b cb J (a.getD i 0) w4.drew (by omega) (hbw4.mono (Ext.drew _ _)) hb64 (ha64 i))) rfl rfl ?_; rintro _ w' ⟨rfl, rfl⟩)
      refine ⟨Ext.drew _ _, ?_⟩
      (refine R_ef rfl (Eff_call rfl (second_ok pa a ca i (b.getD J.toNat 0) w4.drew (by omega) (haw4.mono (Ext.drew _ _)) ha64 (hb64 _))) rfl rfl ?_; rintro _ w' ⟨rfl, rfl⟩)
      refine ⟨Ext.drew _ _, ?_⟩
      have E0d := E04.trans (Ext.drew [] w4)
      have hownd := own_ext hown4 (Ext.drew [] w4) (by simp)
      generalize hS1 : sec b J (a.getD i 0) b.length = S1 at *
      generalize hS2 : sec a i (b.getD J.toNat 0) a.length = S2 at *
      have m0 := mul_bd hd.1 hd.2 (show 0 ≤ den by omega) hden.2
      have m1 : -1000 ≤ num * S1 ∧ num * S1 ≤ 64000 := by
        by_cases h : S1 = -1
        · rw [h]; omega
        · have := mul_bd (show 0 ≤ num by omega) hnum.2 (show 0 ≤ S1 by omega) s1.2; omega
      have m2 : -1000 ≤ num * S2 ∧ num * S2 ≤ 64000 := by
        by_cases h : S2 = -1
        · rw [h]; omega
        · have := mul_bd (show 0 ≤ num by omega) hnum.2 (show 0 ≤ S2 by omega) s2.2; omega
      repeat (first | refine R_skip rfl rfl rfl ?_ | refine R_skipS rfl rfl rfl ?_ | refine R_do rfl (Const_pure rfl) rfl rfl ?_ | refine R_do rfl (Const_len rfl) rfl rfl ?_ | refine R_do rfl (Const_add rfl rfl (by first | exact wrap_i64 (by omega) | exact wrap_u64 (by omega) | exact wrap_u32 (by omega) | exact wrap_u8 (by omega))) rfl rfl ?_ | refine R_do rfl (Const_sub rfl rfl (by first | exact wrap_i64 (by omega) | exact wrap_u64 (by omega) | exact wrap_u32 (by omega) | exact wrap_u8 (by omega))) rfl rfl ?_)
      refine R_nil ?_
      refine N_then ?_
      (repeat refine T_seq ?_)
      refine T_cutT (fun G w' => ∃ bv : Bool, w4.drew = w' ∧ bv = B ((S1 < 0 ∨ D * den ≤ num * S1) ∧ (S2 < 0 ∨ D * den ≤ num * S2)) ∧
        G = [(0, .slice pa a.length ca), (1, .slice pb b.length cb), (2, .int .i64 num), (3, .int .i64 den), (9, v), (10, .int .i64 i), (12, .int .i64 J), (13, .int .i64 D), (18, .slice pa a.length ca), (19, .int .i64 a.length), (20, .int .i64 i), (80, .bool bv)]) ?_ ?_
      · repeat' (first | refine T_seq ?_ | refine T_region ?_ | refine T_ret ?_ | refine T_skip ?_ | refine T_label ?_ | refine T_block ?_ | refine T_exit ?_ | refine N_then ?_ | refine N_thenR ?_ | refine N_thenE ?_ | refine N_inN ?_ | refine N_inR ?_ | refine N_inE ?_ | refine N_inO rfl ?_ | refine R_nil ?_ | refine R_skip rfl rfl rfl ?_ | refine R_skipS rfl rfl rfl ?_ | refine R_do rfl (Const_pure rfl) rfl rfl ?_ | refine R_do rfl (Const_len rfl) rfl rfl ?_ | refine R_do rfl (Const_add rfl rfl (by first | exact wrap_i64 (by omega) | exact wrap_u64 (by omega) | exact wrap_u32 (by omega) | exact wrap_u8 (by omega))) rfl rfl ?_ | refine R_do rfl (Const_sub rfl rfl (by first | exact wrap_i64 (by omega) | exact wrap_u64 (by omega) | exact wrap_u32 (by omega) | exact wrap_u8 (by omega))) rfl rfl ?_ | refine R_do rfl (Const_mul rfl rfl (wrap_i64 (by omega))) rfl rfl ?_ | refine T_yes rfl (by omega) ?_ | refine T_no rfl (by omega) ?_ | refine R_grdY rfl rfl (by omega) ?_ | refine R_grdN rfl rfl (by omega) ?_ | refine T_dec rfl (fun h => ?_) (fun h => ?_) | refine T_cond_true rfl ?_ | refine T_cond_false rfl ?_ | refine R_grd rfl rfl (fun h => ?_) (fun h => ?_))
        all_goals refine N_cut _ subG ⟨_, rfl, ?_, rfl⟩
        all_goals first | exact (B_true (by omega)).symm | exact (B_false (by omega)).symm | exact B_congr (by omega)
      · rintro G w' ⟨bv, rfl, hbv, rfl⟩
        by_cases hc : (S1 < 0 ∨ D * den ≤ num * S1) ∧ (S2 < 0 ∨ D * den ≤ num * S2)
        · rw [B_true hc] at hbv
          subst hbv
          repeat' (first | refine T_seq ?_ | refine T_region ?_ | refine T_ret ?_ | refine T_skip ?_ | refine T_label ?_ | refine T_block ?_ | refine T_exit ?_ | refine N_then ?_ | refine N_thenR ?_ | refine N_thenE ?_ | refine N_inN ?_ | refine N_inR ?_ | refine N_inE ?_ | refine N_inO rfl ?_ | refine R_nil ?_ | refine R_skip rfl rfl rfl ?_ | refine R_skipS rfl rfl rfl ?_ | refine R_do rfl (Const_pure rfl) rfl rfl ?_ | refine R_do rfl (Const_len rfl) rfl rfl ?_ | refine R_do rfl (Const_add rfl rfl (by first | exact wrap_i64 (by omega) | exact wrap_u64 (by omega) | exact wrap_u32 (by omega) | exact wrap_u8 (by omega))) rfl rfl ?_ | refine R_do rfl (Const_sub rfl rfl (by first | exact wrap_i64 (by omega) | exact wrap_u64 (by omega) | exact wrap_u32 (by omega) | exact wrap_u8 (by omega))) rfl rfl ?_ | refine R_do rfl (Const_mul rfl rfl (wrap_i64 (by omega))) rfl rfl ?_ | refine T_yes rfl (by omega) ?_ | refine T_no rfl (by omega) ?_ | refine R_grdY rfl rfl (by omega) ?_ | refine R_grdN rfl rfl (by omega) ?_ | refine T_dec rfl (fun h => ?_) (fun h => ?_) | refine T_cond_true rfl ?_ | refine T_cond_false rfl ?_ | refine R_grd rfl rfl (fun h => ?_) (fun h => ?_))
          refine R_do rfl (Const_struct (pvs := [(0, .int .i64 i), (1, .int .i64 J), (2, .int .i64 D)]) (cells := enc (i, J, D)) rfl rfl) rfl rfl ?_
          refine R_ef rfl (Eff_vals (vals := [.agg (enc (i, J, D)).toArray]) rfl rfl (fun v hv => by simp at hv; subst hv; rfl) (by omega)) rfl rfl ?_
          rintro _ w5 ⟨b5, hb5, rfl, B5, E5, L5⟩
          refine ⟨trivial, ?_⟩
          have hown5 := own_ext hownd E5 (by simp)
          have hml := mK_len a b num den i
          refine R_ef rfl (Eff_append (X := []) (news := encs [(i, J, D)]) rfl rfl hown5 (by omega) (.inl (Ok.mk _ _)) (B5.sl (by simp) 0 (fun j u h => by simpa [encs, Value.cells] using h)) rfl (encs_one _) (by omega) (by omega) (Nat.le_trans E0d.size E5.size)) rfl rfl ?_
          rintro v6 w6 ⟨hown6, hg6, hs6, _⟩
          refine ⟨trivial, ?_⟩
          have E6 : Ext [] w w6 := (E0d.trans E5).grownNew hg6 (fun k hk => (hown.lt k hk).1)
          repeat' (first | refine T_seq ?_ | refine T_region ?_ | refine T_ret ?_ | refine T_skip ?_ | refine T_label ?_ | refine T_block ?_ | refine T_exit ?_ | refine N_then ?_ | refine N_thenR ?_ | refine N_thenE ?_ | refine N_inN ?_ | refine N_inR ?_ | refine N_inE ?_ | refine N_inO rfl ?_ | refine R_nil ?_ | refine R_skip rfl rfl rfl ?_ | refine R_skipS rfl rfl rfl ?_ | refine R_do rfl (Const_pure rfl) rfl rfl ?_ | refine R_do rfl (Const_len rfl) rfl rfl ?_ | refine R_do rfl (Const_add rfl rfl (by first | exact wrap_i64 (by omega) | exact wrap_u64 (by omega) | exact wrap_u32 (by omega) | exact wrap_u8 (by omega))) rfl rfl ?_ | refine R_do rfl (Const_sub rfl rfl (by first | exact wrap_i64 (by omega) | exact wrap_u64 (by omega) | exact wrap_u32 (by omega) | exact wrap_u8 (by omega))) rfl rfl ?_ | refine R_do rfl (Const_mul rfl rfl (wrap_i64 (by omega))) rfl rfl ?_ | refine T_yes rfl (by omega) ?_ | refine T_no rfl (by omega) ?_ | refine R_grdY rfl rfl (by omega) ?_ | refine R_grdN rfl rfl (by omega) ?_ | refine T_dec rfl (fun h => ?_) (fun h => ?_) | refine T_cond_true rfl ?_ | refine T_cond_false rfl ?_ | refine R_grd rfl rfl (fun h => ?_) (fun h => ?_))
          refine N_again (a.length - (i + 1)) _ (by omega) subG ⟨i + 1, v6, by omega, rfl, ?_, E6, rfl⟩
          rw [hyes hKi hc.1 hc.2, List.length_append, encs, List.flatMap_append]
          exact hown6
        · rw [B_false hc] at hbv
          subst hbv
          repeat' (first | refine T_seq ?_ | refine T_region ?_ | refine T_ret ?_ | refine T_skip ?_ | refine T_label ?_ | refine T_block ?_ | refine T_exit ?_ | refine N_then ?_ | refine N_thenR ?_ | refine N_thenE ?_ | refine N_inN ?_ | refine N_inR ?_ | refine N_inE ?_ | refine N_inO rfl ?_ | refine R_nil ?_ | refine R_skip rfl rfl rfl ?_ | refine R_skipS rfl rfl rfl ?_ | refine R_do rfl (Const_pure rfl) rfl rfl ?_ | refine R_do rfl (Const_len rfl) rfl rfl ?_ | refine R_do rfl (Const_add rfl rfl (by first | exact wrap_i64 (by omega) | exact wrap_u64 (by omega) | exact wrap_u32 (by omega) | exact wrap_u8 (by omega))) rfl rfl ?_ | refine R_do rfl (Const_sub rfl rfl (by first | exact wrap_i64 (by omega) | exact wrap_u64 (by omega) | exact wrap_u32 (by omega) | exact wrap_u8 (by omega))) rfl rfl ?_ | refine R_do rfl (Const_mul rfl rfl (wrap_i64 (by omega))) rfl rfl ?_ | refine T_yes rfl (by omega) ?_ | refine T_no rfl (by omega) ?_ | refine R_grdY rfl rfl (by omega) ?_ | refine R_grdN rfl rfl (by omega) ?_ | refine T_dec rfl (fun h => ?_) (fun h => ?_) | refine T_cond_true rfl ?_ | refine T_cond_false rfl ?_ | refine R_grd rfl rfl (fun h => ?_) (fun h => ?_))
          exact N_again (a.length - (i + 1)) _ (by omega) subG ⟨i + 1, v, by omega, rfl, by rw [hno (fun h => hc h.2)]; exact hownd, E0d, rfl⟩
    · repeat' (first | refine T_seq ?_ | refine T_region ?_ | refine T_ret ?_ | refine T_skip ?_ | refine T_label ?_ | refine T_block ?_ | refine T_exit ?_ | refine N_then ?_ | refine N_thenR ?_ | refine N_thenE ?_ | refine N_inN ?_ | refine N_inR ?_ | refine N_inE ?_ | refine N_inO rfl ?_ | refine R_nil ?_ | refine R_skip rfl rfl rfl ?_ | refine R_skipS rfl rfl rfl ?_ | refine R_do rfl (Const_pure rfl) rfl rfl ?_ | refine R_do rfl (Const_len rfl) rfl rfl ?_ | refine R_do rfl (Const_add rfl rfl (by first | exact wrap_i64 (by omega) | exact wrap_u64 (by omega) | exact wrap_u32 (by omega) | exact wrap_u8 (by omega))) rfl rfl ?_ | refine R_do rfl (Const_sub rfl rfl (by first | exact wrap_i64 (by omega) | exact wrap_u64 (by omega) | exact wrap_u32 (by omega) | exact wrap_u8 (by omega))) rfl rfl ?_ | refine T_yes rfl (by omega) ?_ | refine T_no rfl (by omega) ?_ | refine R_grdY rfl rfl (by omega) ?_ | refine R_grdN rfl rfl (by omega) ?_ | refine T_dec rfl (fun h => ?_) (fun h => ?_) | refine T_cond_true rfl ?_ | refine T_cond_false rfl ?_ | refine R_grd rfl rfl (fun h => ?_) (fun h => ?_))
      exact N_again (a.length - (i + 1)) _ (by omega) subG ⟨i + 1, v, by omega, rfl, by rw [hno (fun h => hKi h.1)]; exact hown4, E04, rfl⟩
  · obtain rfl : i = a.length := by omega
    repeat' (first | refine T_seq ?_ | refine T_region ?_ | refine T_ret ?_ | refine T_skip ?_ | refine T_label ?_ | refine T_block ?_ | refine T_exit ?_ | refine N_then ?_ | refine N_thenR ?_ | refine N_thenE ?_ | refine N_inN ?_ | refine N_inR ?_ | refine N_inE ?_ | refine N_inO rfl ?_ | refine R_nil ?_ | refine R_skip rfl rfl rfl ?_ | refine R_skipS rfl rfl rfl ?_ | refine R_do rfl (Const_pure rfl) rfl rfl ?_ | refine R_do rfl (Const_len rfl) rfl rfl ?_ | refine R_do rfl (Const_add rfl rfl (by first | exact wrap_i64 (by omega) | exact wrap_u64 (by omega) | exact wrap_u32 (by omega) | exact wrap_u8 (by omega))) rfl rfl ?_ | refine R_do rfl (Const_sub rfl rfl (by first | exact wrap_i64 (by omega) | exact wrap_u64 (by omega) | exact wrap_u32 (by omega) | exact wrap_u8 (by omega))) rfl rfl ?_ | refine T_yes rfl (by omega) ?_ | refine T_no rfl (by omega) ?_ | refine R_grdY rfl rfl (by omega) ?_ | refine R_grdN rfl rfl (by omega) ?_ | refine T_dec rfl (fun h => ?_) (fun h => ?_) | refine T_cond_true rfl ?_ | refine T_cond_false rfl ?_ | refine R_grd rfl rfl (fun h => ?_) (fun h => ?_))
    exact N_ret1 (.inl rfl) rfl rfl (done _ _ hown E')
end Go.Proofs.Ytefkpnhhmjdcnaa

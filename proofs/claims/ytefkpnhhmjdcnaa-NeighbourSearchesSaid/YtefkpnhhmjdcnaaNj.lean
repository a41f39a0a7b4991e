/- neighbour: the recursive closure of Build, walked -/
import Derived.Test.YtefkpnhhmjdcnaaNi
namespace Go.Proofs.Ytefkpnhhmjdcnaa
open Go Go.Fx

theorem cutA_ok' {a : Option Addr} (h : Ok a) (c l sz : Nat) : Ok (cutA a c l sz) := by
  unfold cutA
  split
  · exact h
  · exact h.add _

theorem sort_row (p8 : Option Addr) (c8 base : Nat) (w3 : World) (rest : List Int) (k : Int → Int) (cs : List Value) (hown : w3.ownsRow base 3 1 (.slice p8 rest.length c8) rest.length (i64s rest)) (hm : rest.length ≤ 19)
    (hk : ∀ x ∈ rest, 0 ≤ k x ∧ k x ≤ 64) (hc : ∀ g, (Value.slice p8 rest.length c8).ownBlock = some g → CmpOk 50 cs g rest k w3) :
    Ret Try.prog 49 [.slice p8 rest.length c8, .func (.func 50) #[] cs.toArray] w3
      (fun _ w4 => ∃ ys, ys.Perm rest ∧ Srt k ys rest.length ∧ w4.ownsRow base 3 1 (.slice p8 rest.length c8) rest.length (i64s ys) ∧ Ext ((Value.slice p8 rest.length c8).ownBlock.toList) w3 w4) := by
  rcases hown.2 with ⟨heq, h0⟩ | ⟨g, cap, cur, heq, hb, hg, hnc, hcm, hcs, htake⟩
  · injection heq with e1 e2 e3
    have hnil : rest = [] := List.eq_nil_of_length_eq_zero h0
    subst hnil
    subst e1
    refine (sort0_ok none c8 cs w3).mono ?_
    rintro v w' rfl
    exact ⟨[], List.Perm.refl _, fun p q _ h => by simp at h, hown, Ext.refl _ _⟩
  · injection heq with e1 e2 e3
    subst e1; subst e3
    have hB : Blk w3 g (i64s rest ++ cur.toList.drop (rest.length * 1)) 3 := by
      have e : i64s rest ++ cur.toList.drop (rest.length * 1) = cur.toList := by rw [← htake]; exact List.take_append_drop _ _
      rw [e]
      simpa [Blk] using hg
    refine (sort_ok g rest.length c8 rest _ 3 k cs w3 hB rfl hm hk (hc g rfl)).mono ?_
    rintro v w' ⟨E, ys, hp, hs, hB'⟩
    refine ⟨ys, hp, hs, ⟨by rw [i64s_len, hp.length_eq]; omega, .inr ⟨g, c8, _, rfl, hb, hB', hnc, hcm, ?_, ?_⟩⟩, E⟩
    · simp only [List.size_toArray, List.length_append, i64s_len, List.length_drop, Array.length_toList, hp.length_eq, hcs]
      omega
    · simp only [List.toList_toArray]
      rw [List.take_append_of_le_length (by rw [i64s_len, hp.length_eq]; omega), List.take_of_length_le (by rw [i64s_len, hp.length_eq]; omega)]

/-- a row that is not empty: its block, and how it is owned again when cells of it turn -/
theorem own_cells {w : World} {base : Nat} {e : TypeId} {sz : Nat} {v : Value} {m : Nat} {xs : List Value} (h : w.ownsRow base e sz v m xs) (hm : 0 < m) :
    ∃ g c tail, v = .slice (some ⟨g, 0, none⟩) m c ∧ base ≤ g ∧ Blk w g (xs ++ tail) e ∧ (∀ w' xs', Blk w' g (xs' ++ tail) e → xs'.length = xs.length → w'.ownsRow base e sz v m xs') := by
  rcases h.2 with ⟨_, h0⟩ | ⟨g, cap, cur, rfl, hb, hg, hmc, hcm, hcs, htake⟩
  · omega
  · have he : xs ++ cur.toList.drop (m * sz) = cur.toList := by rw [← htake]; exact List.take_append_drop _ _
    refine ⟨g, cap, cur.toList.drop (m * sz), rfl, hb, ?_, fun w' xs' hB hl => ⟨by rw [hl]; exact h.1, .inr ⟨g, cap, _, rfl, hb, hB, hmc, hcm, ?_, ?_⟩⟩⟩
    · rw [he]; simpa [Blk] using hg
    · have := congrArg List.length he
      simp only [List.length_append, Array.length_toList] at this
      simp only [List.size_toArray, List.length_append]
      omega
    · have h1 : xs'.length = m * sz := by rw [hl]; exact h.1
      simp only [List.toList_toArray]
      rw [← h1, List.take_left']
      rfl

theorem encN_set1 (t s : List N4) (x r n f y : Int) (tail : List Value) : (encN (t ++ (x, r, n, f) :: s) ++ tail).set (t.length * 4 + 1) (.int .i64 y) = encN (t ++ (x, y, n, f) :: s) ++ tail := by
  have hA := encN_len t
  rw [encN_append, List.append_assoc, List.set_append_right _ _ (by omega), hA, Nat.add_sub_cancel_left, encN_append, List.append_assoc]
  rfl
theorem encN_set2 (t s : List N4) (x r n f y : Int) (tail : List Value) : (encN (t ++ (x, r, n, f) :: s) ++ tail).set (t.length * 4 + 2) (.int .i64 y) = encN (t ++ (x, r, y, f) :: s) ++ tail := by
  have hA := encN_len t
  rw [encN_append, List.append_assoc, List.set_append_right _ _ (by omega), hA, Nat.add_sub_cancel_left, encN_append, List.append_assoc]
  rfl
theorem encN_set3 (t s : List N4) (x r n f y : Int) (tail : List Value) : (encN (t ++ (x, r, n, f) :: s) ++ tail).set (t.length * 4 + 3) (.int .i64 y) = encN (t ++ (x, r, n, y) :: s) ++ tail := by
  have hA := encN_len t
  rw [encN_append, List.append_assoc, List.set_append_right _ _ (by omega), hA, Nat.add_sub_cancel_left, encN_append, List.append_assoc]
  rfl

def BuildPost (l : List Int) (pl : Option Addr) (cl bL bT bF base : Nat) (xs : List Int) (w : World) (v : Value) (t : List N4) (u : Value) (w' : World) : Prop :=
  ∃ v' s, u = .int .i64 (if xs = [] then -1 else t.length) ∧ St l pl cl bL bT bF base w' v' (t ++ s) ∧ Tree l t.length xs s ∧ Ext (XT bT v) w w' ∧ (∀ k, v'.ownBlock = some k → v.ownBlock = some k ∨ w.heap.size ≤ k)

set_option maxHeartbeats 800000 in
theorem build_all (l : List Int) (pl : Option Addr) (cl bL bT bF base : Nat) (h64 : W64' l) : ∀ (n : Nat) (xs : List Int) (a : Option Addr) (c : Nat) (w : World) (v : Value) (t : List N4), xs.length ≤ n → xs.length ≤ 20 → t.length + xs.length ≤ 1000 →
    St l pl cl bL bT bF base w v t → Ints (XT bT v) w .i64 a xs → (Ok a ∨ (a = none ∧ xs.length = 0 ∧ c = 0)) → xs.length ≤ c → (∀ x ∈ xs, 0 ≤ x ∧ x < l.length) →
    Ret Try.prog 46 [.slice a xs.length c, .pointer (some ⟨bT, 0, none⟩), .pointer (some ⟨bL, 0, none⟩), .pointer (some ⟨bF, 0, none⟩)] w (BuildPost l pl cl bL bT bF base xs w v t) := by
  intro n
  induction n with
  | zero =>
    intro xs a c w v t hn _ _ hS _ _ _ _
    have hnil : xs = [] := List.eq_nil_of_length_eq_zero (by omega)
    subst hnil
    refine enter Try.func46 rfl Try.ntmps46 rfl ?_
    repeat' (first | refine T_seq ?_ | refine T_region ?_ | refine T_ret ?_ | refine T_skip ?_ | refine T_label ?_ | refine T_block ?_ | refine T_exit ?_ | refine N_then ?_ | refine N_thenR ?_ | refine N_thenE ?_ | refine N_inN ?_ | refine N_inR ?_ | refine N_inE ?_ | refine N_inO rfl ?_ | refine R_nil ?_ | refine R_skip rfl rfl rfl ?_ | refine R_skipS rfl rfl rfl ?_ | refine R_do rfl (Const_pure rfl) rfl rfl ?_ | refine R_do rfl (Const_len rfl) rfl rfl ?_ | refine R_do rfl (Const_add rfl rfl (by first | exact wrap_i64 (by omega) | exact wrap_u64 (by omega) | exact wrap_u32 (by omega) | exact wrap_u8 (by omega))) rfl rfl ?_ | refine R_do rfl (Const_sub rfl rfl (by first | exact wrap_i64 (by omega) | exact wrap_u64 (by omega) | exact wrap_u32 (by omega) | exact wrap_u8 (by omega))) rfl rfl ?_ | refine T_yes rfl (by omega) ?_ | refine T_no rfl (by omega) ?_ | refine R_grdY rfl rfl (by omega) ?_ | refine R_grdN rfl rfl (by omega) ?_ | refine T_dec rfl (fun h => ?_) (fun h => ?_) | refine T_cond_true rfl ?_ | refine T_cond_false rfl ?_ | refine R_grd rfl rfl (fun h => ?_) (fun h => ?_))
    refine N_ret1 (.inl rfl) rfl rfl ⟨v, [], rfl, by simpa using hS, .nil _, Ext.refl _ _, fun k hk => .inl hk⟩
  | succ n ih =>
    intro xs a c w v t hn h20 hsz hS hx hok hc hr
    cases xs with
    | nil =>
      have h00 : ([] : List Int).length = 0 := rfl
      refine enter Try.func46 rfl Try.ntmps46 rfl ?_
      repeat' (first | refine T_seq ?_ | refine T_region ?_ | refine T_ret ?_ | refine T_skip ?_ | refine T_label ?_ | refine T_block ?_ | refine T_exit ?_ | refine N_then ?_ | refine N_thenR ?_ | refine N_thenE ?_ | refine N_inN ?_ | refine N_inR ?_ | refine N_inE ?_ | refine N_inO rfl ?_ | refine R_nil ?_ | refine R_skip rfl rfl rfl ?_ | refine R_skipS rfl rfl rfl ?_ | refine R_do rfl (Const_pure rfl) rfl rfl ?_ | refine R_do rfl (Const_len rfl) rfl rfl ?_ | refine R_do rfl (Const_add rfl rfl (by first | exact wrap_i64 (by omega) | exact wrap_u64 (by omega) | exact wrap_u32 (by omega) | exact wrap_u8 (by omega))) rfl rfl ?_ | refine R_do rfl (Const_sub rfl rfl (by first | exact wrap_i64 (by omega) | exact wrap_u64 (by omega) | exact wrap_u32 (by omega) | exact wrap_u8 (by omega))) rfl rfl ?_ | refine T_yes rfl (by omega) ?_ | refine T_no rfl (by omega) ?_ | refine R_grdY rfl rfl (by omega) ?_ | refine R_grdN rfl rfl (by omega) ?_ | refine T_dec rfl (fun h => ?_) (fun h => ?_) | refine T_cond_true rfl ?_ | refine T_cond_false rfl ?_ | refine R_grd rfl rfl (fun h => ?_) (fun h => ?_))
      refine N_ret1 (.inl rfl) rfl rfl ⟨v, [], rfl, by simpa using hS, .nil _, Ext.refl _ _, fun k hk => .inl hk⟩
    | cons x0 rest =>
      have hlen : (x0 :: rest).length = rest.length + 1 := rfl
      have hokA : Ok a := hok.resolve_right (fun h => by omega)
      obtain ⟨pT, cT, rfl, hslT, hokT, hleT⟩ := own_sl hS.own
      refine enter Try.func46 rfl Try.ntmps46 rfl ?_
      repeat' (first | refine T_seq ?_ | refine T_region ?_ | refine T_ret ?_ | refine T_skip ?_ | refine T_label ?_ | refine T_block ?_ | refine T_exit ?_ | refine N_then ?_ | refine N_thenR ?_ | refine N_thenE ?_ | refine N_inN ?_ | refine N_inR ?_ | refine N_inE ?_ | refine N_inO rfl ?_ | refine R_nil ?_ | refine R_skip rfl rfl rfl ?_ | refine R_skipS rfl rfl rfl ?_ | refine R_do rfl (Const_pure rfl) rfl rfl ?_ | refine R_do rfl (Const_len rfl) rfl rfl ?_ | refine R_do rfl (Const_add rfl rfl (by first | exact wrap_i64 (by omega) | exact wrap_u64 (by omega) | exact wrap_u32 (by omega) | exact wrap_u8 (by omega))) rfl rfl ?_ | refine R_do rfl (Const_sub rfl rfl (by first | exact wrap_i64 (by omega) | exact wrap_u64 (by omega) | exact wrap_u32 (by omega) | exact wrap_u8 (by omega))) rfl rfl ?_ | refine T_yes rfl (by omega) ?_ | refine T_no rfl (by omega) ?_ | refine R_grdY rfl rfl (by omega) ?_ | refine R_grdN rfl rfl (by omega) ?_ | refine T_dec rfl (fun h => ?_) (fun h => ?_) | refine T_cond_true rfl ?_ | refine T_cond_false rfl ?_ | refine R_grd rfl rfl (fun h => ?_) (fun h => ?_))
      refine R_do rfl (Const_load rfl (seqC (hS.hT.cell rfl))) rfl rfl ?_
      repeat (first | refine T_seq ?_ | refine T_region ?_ | refine T_ret ?_ | refine T_skip ?_ | refine T_label ?_ | refine T_block ?_ | refine T_exit ?_ | refine N_then ?_ | refine N_thenR ?_ | refine N_thenE ?_ | refine N_inN ?_ | refine N_inR ?_ | refine N_inE ?_ | refine N_inO rfl ?_ | refine R_nil ?_ | refine R_skip rfl rfl rfl ?_ | refine R_skipS rfl rfl rfl ?_ | refine R_do rfl (Const_pure rfl) rfl rfl ?_ | refine R_do rfl (Const_len rfl) rfl rfl ?_ | refine R_do rfl (Const_add rfl rfl (by first | exact wrap_i64 (by omega) | exact wrap_u64 (by omega) | exact wrap_u32 (by omega) | exact wrap_u8 (by omega))) rfl rfl ?_ | refine R_do rfl (Const_sub rfl rfl (by first | exact wrap_i64 (by omega) | exact wrap_u64 (by omega) | exact wrap_u32 (by omega) | exact wrap_u8 (by omega))) rfl rfl ?_)
      refine T_cutT (fun G w' => ∃ (v8 : Value) (bI : Nat), w.heap.size ≤ bI ∧ Blk w' bI [.int .i64 x0] 3 ∧ w'.ownsRow w.heap.size 3 1 v8 rest.length (i64s rest) ∧ (∀ k, v8.ownBlock = some k → k ≠ bI) ∧ Ext [] w w' ∧
        G = [(1, .pointer (some ⟨bT, 0, none⟩)), (2, .pointer (some ⟨bL, 0, none⟩)), (3, .pointer (some ⟨bF, 0, none⟩)), (6, .int .i64 t.length), (7, .pointer (some ⟨bI, 0, none⟩)), (8, v8)]) ?_ ?_
      · have hx0 : Sl [] w a (((x0 :: rest).map (Value.int .i64))) := Sl.less hx (by simp)
        have hxr : Ints [] w .i64 (cutA a c 1 1) rest := by
          have := hx0.cut c 1 (rest.length + 1) 1 (by simp; omega)
          have e : (((x0 :: rest).map (Value.int .i64)).take (rest.length + 1)).drop (1 * 1) = rest.map (Value.int .i64) := by
            rw [List.take_of_length_le (by simp)]
            rfl
          rw [e] at this
          exact this
        have c0 : w.cell? (pt a ((0 : Int).toNat * 1)) = some (.int .i64 x0) := hx0.cell (j := 0) rfl
        (repeat refine T_seq ?_); refine T_alts (fun _ => Ext [] w) [0, 1, 2, 3, 4] [2, 2, 2, 3, 2] [([5, 6, 7, 8], [0, 0, 0, 0]), ([6, 5, 7, 8], [0, 0, 0, 0])] mixed (fun _ _ h => h) (by kernel_rfl) (Ext.drew _ _) ?_
        repeat (first | refine T_seq ?_ | refine T_region ?_ | refine T_ret ?_ | refine T_skip ?_ | refine T_label ?_ | refine T_block ?_ | refine T_exit ?_ | refine N_then ?_ | refine N_thenR ?_ | refine N_thenE ?_ | refine N_inN ?_ | refine N_inR ?_ | refine N_inE ?_ | refine N_inO rfl ?_ | refine R_nil ?_ | refine R_skip rfl rfl rfl ?_ | refine R_skipS rfl rfl rfl ?_ | refine R_do rfl (Const_pure rfl) rfl rfl ?_ | refine R_do rfl (Const_len rfl) rfl rfl ?_ | refine R_do rfl (Const_add rfl rfl (by first | exact wrap_i64 (by omega) | exact wrap_u64 (by omega) | exact wrap_u32 (by omega) | exact wrap_u8 (by omega))) rfl rfl ?_ | refine R_do rfl (Const_sub rfl rfl (by first | exact wrap_i64 (by omega) | exact wrap_u64 (by omega) | exact wrap_u32 (by omega) | exact wrap_u8 (by omega))) rfl rfl ?_)
        refine R_do rfl (Const_indexS rfl rfl ⟨by omega, by omega⟩ hokA) rfl rfl ?_
        refine R_do rfl (Const_load rfl (extC c0 (by simp))) rfl rfl ?_
        repeat (first | refine T_seq ?_ | refine T_region ?_ | refine T_ret ?_ | refine T_skip ?_ | refine T_label ?_ | refine T_block ?_ | refine T_exit ?_ | refine N_then ?_ | refine N_thenR ?_ | refine N_thenE ?_ | refine N_inN ?_ | refine N_inR ?_ | refine N_inE ?_ | refine N_inO rfl ?_ | refine R_nil ?_ | refine R_skip rfl rfl rfl ?_ | refine R_skipS rfl rfl rfl ?_ | refine R_do rfl (Const_pure rfl) rfl rfl ?_ | refine R_do rfl (Const_len rfl) rfl rfl ?_ | refine R_do rfl (Const_add rfl rfl (by first | exact wrap_i64 (by omega) | exact wrap_u64 (by omega) | exact wrap_u32 (by omega) | exact wrap_u8 (by omega))) rfl rfl ?_ | refine R_do rfl (Const_sub rfl rfl (by first | exact wrap_i64 (by omega) | exact wrap_u64 (by omega) | exact wrap_u32 (by omega) | exact wrap_u8 (by omega))) rfl rfl ?_)
        refine R_do rfl (Const_slice (l := 1) (h := (x0 :: rest).length) rfl (.inr ⟨_, _, rfl, rfl⟩) (.inl ⟨rfl, rfl⟩) (by omega) (by omega)) rfl rfl ?_
        refine R_nil ?_
        refine N_alts2 rfl ?_ ?_
        · (refine R_ef rfl (Eff_call rfl (CloneI_ok (cutA a c 1 1) rest (c - 1) w.drew (hxr.mono (Ext.drew _ _)) (.inl (cutA_ok' hokA _ _ _)) (by omega))) rfl rfl ?_; rintro _ w1 ⟨E1, hown8⟩)
          refine ⟨(Ext.drew _ _).trans E1, ?_⟩
          refine R_ef rfl Eff_alloc rfl rfl ?_
          rintro _ w2 ⟨bI, hbI, rfl, BI, E2, L2⟩
          refine ⟨((Ext.drew _ _).trans E1).trans E2, ?_⟩
          refine R_ef0 rfl (Eff_store1 rfl rfl rfl BI (by simp)) rfl ?_
          rintro _ w3 ⟨rfl, B3, E3⟩
          have E03 : Ext [] w w3 := (((Ext.drew _ _).trans E1).trans E2).step E3 (fun k hk => by
            have := E1.size
            simp at hk; simp at this; omega)
          refine ⟨E03, ?_⟩
          repeat (first | refine T_seq ?_ | refine T_region ?_ | refine T_ret ?_ | refine T_skip ?_ | refine T_label ?_ | refine T_block ?_ | refine T_exit ?_ | refine N_then ?_ | refine N_thenR ?_ | refine N_thenE ?_ | refine N_inN ?_ | refine N_inR ?_ | refine N_inE ?_ | refine N_inO rfl ?_ | refine R_nil ?_ | refine R_skip rfl rfl rfl ?_ | refine R_skipS rfl rfl rfl ?_ | refine R_do rfl (Const_pure rfl) rfl rfl ?_ | refine R_do rfl (Const_len rfl) rfl rfl ?_ | refine R_do rfl (Const_add rfl rfl (by first | exact wrap_i64 (by omega) | exact wrap_u64 (by omega) | exact wrap_u32 (by omega) | exact wrap_u8 (by omega))) rfl rfl ?_ | refine R_do rfl (Const_sub rfl rfl (by first | exact wrap_i64 (by omega) | exact wrap_u64 (by omega) | exact wrap_u32 (by omega) | exact wrap_u8 (by omega))) rfl rfl ?_)
          refine N_cut _ subG ⟨_, bI, ?_, B3, own_ext (own_ext hown8 E2 (by simp)) E3 (fun k hk => ?_), fun k hk => ?_, E03, rfl⟩
          · have := E1.size
            simp at this; omega
          · have := (own_lt hown8 k hk).2
            simp; omega
          · have := (own_lt hown8 k hk).2
            omega
        · refine R_ef rfl Eff_alloc rfl rfl ?_
          rintro _ w2 ⟨bI, hbI, rfl, BI, E2, L2⟩
          refine ⟨(Ext.drew _ _).trans E2, ?_⟩
          (refine R_ef rfl (Eff_call rfl (CloneI_ok (cutA a c 1 1) rest (c - 1) w2 (hxr.mono ((Ext.drew _ _).trans E2)) (.inl (cutA_ok' hokA _ _ _)) (by omega))) rfl rfl ?_; rintro _ w1 ⟨E1, hown8⟩)
          refine ⟨((Ext.drew _ _).trans E2).trans E1, ?_⟩
          refine R_ef0 rfl (Eff_store1 rfl rfl rfl (BI.ext E1 (by simp)) (by simp)) rfl ?_
          rintro _ w3 ⟨rfl, B3, E3⟩
          have E03 : Ext [] w w3 := (((Ext.drew _ _).trans E2).trans E1).step E3 (fun k hk => by
            simp at hk hbI; omega)
          refine ⟨E03, ?_⟩
          repeat (first | refine T_seq ?_ | refine T_region ?_ | refine T_ret ?_ | refine T_skip ?_ | refine T_label ?_ | refine T_block ?_ | refine T_exit ?_ | refine N_then ?_ | refine N_thenR ?_ | refine N_thenE ?_ | refine N_inN ?_ | refine N_inR ?_ | refine N_inE ?_ | refine N_inO rfl ?_ | refine R_nil ?_ | refine R_skip rfl rfl rfl ?_ | refine R_skipS rfl rfl rfl ?_ | refine R_do rfl (Const_pure rfl) rfl rfl ?_ | refine R_do rfl (Const_len rfl) rfl rfl ?_ | refine R_do rfl (Const_add rfl rfl (by first | exact wrap_i64 (by omega) | exact wrap_u64 (by omega) | exact wrap_u32 (by omega) | exact wrap_u8 (by omega))) rfl rfl ?_ | refine R_do rfl (Const_sub rfl rfl (by first | exact wrap_i64 (by omega) | exact wrap_u64 (by omega) | exact wrap_u32 (by omega) | exact wrap_u8 (by omega))) rfl rfl ?_)
          have hs2 : w.heap.size ≤ w2.heap.size := E2.size
          refine N_cut _ subG ⟨_, bI, ?_, B3, ?_, fun k hk => ?_, E03, rfl⟩
          · simp at hbI; omega
          · refine own_ext (own_mono hown8 hs2) E3 (fun k hk => ?_)
            have := (own_lt hown8 k hk).1
            simp; omega
          · have := (own_lt hown8 k hk).1
            omega
      · rintro G w1 ⟨v8, bI, hbI, BI, hown8, hne8, E1, rfl⟩
        have hS1 := hS.carry E1 (by simp)
        clear hx hslT hokT
        repeat (first | refine T_seq ?_ | refine T_region ?_ | refine T_ret ?_ | refine T_skip ?_ | refine T_label ?_ | refine T_block ?_ | refine T_exit ?_ | refine N_then ?_ | refine N_thenR ?_ | refine N_thenE ?_ | refine N_inN ?_ | refine N_inR ?_ | refine N_inE ?_ | refine N_inO rfl ?_ | refine R_nil ?_ | refine R_skip rfl rfl rfl ?_ | refine R_skipS rfl rfl rfl ?_ | refine R_do rfl (Const_pure rfl) rfl rfl ?_ | refine R_do rfl (Const_len rfl) rfl rfl ?_ | refine R_do rfl (Const_add rfl rfl (by first | exact wrap_i64 (by omega) | exact wrap_u64 (by omega) | exact wrap_u32 (by omega) | exact wrap_u8 (by omega))) rfl rfl ?_ | refine R_do rfl (Const_sub rfl rfl (by first | exact wrap_i64 (by omega) | exact wrap_u64 (by omega) | exact wrap_u32 (by omega) | exact wrap_u8 (by omega))) rfl rfl ?_)
        refine R_ef rfl Eff_alloc rfl rfl ?_
        rintro _ w2 ⟨bV, hbV, rfl, BV, E2, L2⟩
        refine ⟨trivial, ?_⟩
        refine R_ef0 rfl (Eff_store1 rfl rfl rfl BV (by simp)) rfl ?_
        rintro _ w3 ⟨rfl, BV3, E3⟩
        refine ⟨trivial, ?_⟩
        have hsz1 : w.heap.size ≤ w1.heap.size := E1.size
        have hsz2 : w1.heap.size ≤ w2.heap.size := E2.size
        have E13 : Ext [] w1 w3 := E2.step E3 (fun k hk => by simp at hk; omega)
        have hS3 := hS1.carry E13 (by simp)
        have BI3 := BI.ext E13 (by simp)
        have hown83 := own_ext hown8 E13 (by simp)
        repeat (first | refine T_seq ?_ | refine T_region ?_ | refine T_ret ?_ | refine T_skip ?_ | refine T_label ?_ | refine T_block ?_ | refine T_exit ?_ | refine N_then ?_ | refine N_thenR ?_ | refine N_thenE ?_ | refine N_inN ?_ | refine N_inR ?_ | refine N_inE ?_ | refine N_inO rfl ?_ | refine R_nil ?_ | refine R_skip rfl rfl rfl ?_ | refine R_skipS rfl rfl rfl ?_ | refine R_do rfl (Const_pure rfl) rfl rfl ?_ | refine R_do rfl (Const_len rfl) rfl rfl ?_ | refine R_do rfl (Const_add rfl rfl (by first | exact wrap_i64 (by omega) | exact wrap_u64 (by omega) | exact wrap_u32 (by omega) | exact wrap_u8 (by omega))) rfl rfl ?_ | refine R_do rfl (Const_sub rfl rfl (by first | exact wrap_i64 (by omega) | exact wrap_u64 (by omega) | exact wrap_u32 (by omega) | exact wrap_u8 (by omega))) rfl rfl ?_)
        -- the sort
        obtain ⟨p8, c8, rfl, hsl8, hok8, hle8⟩ := own_sl hown83
        have hit : 0 ≤ x0 ∧ x0 < l.length := hr x0 (by simp)
        have hrr : ∀ x ∈ rest, 0 ≤ x ∧ x < l.length := fun x hx => hr x (by simp [hx])
        have hkb : ∀ x, 0 ≤ key l x0 x ∧ key l x0 x ≤ 64 := fun x => dist_bd _ _
        have BV3' : Blk w3 bV [.func (.func 48) #[] #[.pointer (some ⟨bL, 0, none⟩), .pointer (some ⟨bI, 0, none⟩)]] 78 := BV3
        clear BV3 BV
        have hbLw : bL < w.heap.size := World.block_lt_of_cell? _ _ hS.cL
        have hcmp : ∀ g, (Value.slice p8 rest.length c8).ownBlock = some g → CmpOk 50 [.pointer (some ⟨bV, 0, none⟩)] g rest (key l x0) w3 := by
          intro g hg w' E x hx y hy
          have hg1 := own_lt hown8 g hg
          have hl' : Ints [] w' .u64 pl l := by
            have h1 : Sl [g] w pl (l.map (Value.int .u64)) := Sl.more hS.hl (fun k hk => .inr (by simp at hk; omega))
            exact ((h1.mono ((E1.trans E13).of_nil)).mono E).less (by simp)
          exact cmp_ok pl l cl x0 x y bL bI bV w' hl' h64 (hrr x hx) (hrr y hy) hit (E.cell hS3.cL (by simp; omega)) (E.cell (BI3.cell rfl) (by have := hne8 g hg; simp; omega)) (E.cell (BV3'.cell rfl) (by simp; omega))
        refine R_ef rfl (Eff_call rfl (sort_row p8 c8 w.heap.size w3 rest (key l x0) [.pointer (some ⟨bV, 0, none⟩)] hown83 (by omega) (fun x _ => hkb x) hcmp)) rfl rfl ?_
        rintro _ w4 ⟨ys, hperm, hsrt, hown84, E4⟩
        refine ⟨trivial, ?_⟩
        have hY : ∀ k ∈ (Value.slice p8 rest.length c8).ownBlock.toList, w.heap.size ≤ k ∧ k < w1.heap.size := fun k hk => own_lt hown8 k (by simpa using hk)
        have E14 : Ext ((Value.slice p8 rest.length c8).ownBlock.toList) w w4 := ((E1.trans E13).of_nil).trans E4
        have hS4 := hS.carry E14 (fun k hk => (hY k hk).1)
        have EX4 : Ext (XT bT (.slice pT t.length cT)) w w4 := ((E1.trans E13).of_nil).step E4 (fun k hk => .inr (hY k hk).1)
        have BI4 : Blk w4 bI [.int .i64 x0] 3 := BI3.ext E4 (fun hk => hne8 bI (by simpa using hk) rfl)
        have BV4 : Blk w4 bV [.func (.func 48) #[] #[.pointer (some ⟨bL, 0, none⟩), .pointer (some ⟨bI, 0, none⟩)]] 78 := BV3'.ext E4 (fun hk => by have := (hY bV hk).2; omega)
        have hw14 : w1.heap.size < w4.heap.size := by have := BV4.lt; omega
        have hbIne : bI < w4.heap.size := BI4.lt
        clear hcmp hS1 hS3 BI BI3 BV3' hown83 hsl8 hown8 E2 E3 E13 L2 hsz2
        repeat (first | refine T_seq ?_ | refine T_region ?_ | refine T_ret ?_ | refine T_skip ?_ | refine T_label ?_ | refine T_block ?_ | refine T_exit ?_ | refine N_then ?_ | refine N_thenR ?_ | refine N_thenE ?_ | refine N_inN ?_ | refine N_inR ?_ | refine N_inE ?_ | refine N_inO rfl ?_ | refine R_nil ?_ | refine R_skip rfl rfl rfl ?_ | refine R_skipS rfl rfl rfl ?_ | refine R_do rfl (Const_pure rfl) rfl rfl ?_ | refine R_do rfl (Const_len rfl) rfl rfl ?_ | refine R_do rfl (Const_add rfl rfl (by first | exact wrap_i64 (by omega) | exact wrap_u64 (by omega) | exact wrap_u32 (by omega) | exact wrap_u8 (by omega))) rfl rfl ?_ | refine R_do rfl (Const_sub rfl rfl (by first | exact wrap_i64 (by omega) | exact wrap_u64 (by omega) | exact wrap_u32 (by omega) | exact wrap_u8 (by omega))) rfl rfl ?_)
        -- the node
        refine R_do rfl (Const_load rfl (seqC (hS4.hT.cell rfl))) rfl rfl ?_
        refine R_do rfl (Const_load rfl (seqC (BI4.cell rfl))) rfl rfl ?_
        refine R_do rfl (Const_struct (pvs := [(0, .int .i64 x0), (2, .int .i64 (-1)), (3, .int .i64 (-1))]) (cells := i64s (nl (x0, 0, -1, -1))) rfl rfl) rfl rfl ?_
        refine R_ef rfl (Eff_vals (vals := [.agg (i64s (nl (x0, 0, -1, -1))).toArray]) rfl rfl (fun v hv => by simp at hv; subst hv; rfl) (by omega)) rfl rfl ?_
        rintro _ w5 ⟨b5, hb5, rfl, B5, E5, L5⟩
        refine ⟨trivial, ?_⟩
        have hS5 := hS4.carry E5 (by simp)
        refine R_ef rfl (Eff_append (X := []) (news := i64s (nl (x0, 0, -1, -1))) rfl rfl hS5.own (by omega) (.inl (Ok.mk _ _)) (B5.sl (by simp) 0 (fun j u h => by simpa [Value.cells] using h)) rfl (i64s_one _) (by omega) (by omega) hS5.hb) rfl rfl ?_
        rintro v6 w6 ⟨hown6, hg6, hs6, hblk6⟩
        refine ⟨trivial, ?_⟩
        obtain ⟨p6, c6, rfl, hsl6, hok6, hle6⟩ := own_sl hown6
        have E56 : Ext ((Value.slice pT t.length cT).ownBlock.toList) w5 w6 := Ext.grown hg6 (fun k hk => by simpa using hk)
        have hT6 : Blk w6 bT [.slice pT t.length cT] 58 := hS5.hT.ext E56 (fun hk => hS5.ne bT (by simpa using hk) rfl)
        refine R_ef0 rfl (Eff_store1 rfl rfl rfl hT6 (by simp)) rfl ?_
        rintro _ w7 ⟨rfl, B7, E7⟩
        refine ⟨trivial, ?_⟩
        have hw57 : w5.heap.size ≤ w7.heap.size := Nat.le_trans E56.size E7.size
        have E57 : Ext (XT bT (.slice pT t.length cT)) w5 w7 := (E56.weaken (fun k hk => mem_XT.2 (.inr (by simpa using hk)))).step E7 (fun k hk => .inl (mem_XT.2 (.inl (by simpa using hk))))
        have hv6 : ∀ k, (Value.slice p6 (t.length + 1) c6).ownBlock = some k → (Value.slice pT t.length cT).ownBlock = some k ∨ w5.heap.size ≤ k := fun k hk => by
          rcases hblk6 with h1 | h1
          · exact .inl (h1 ▸ hk)
          · rw [hk] at h1; injection h1 with h1; exact .inr (by omega)
        have hne6 : ∀ k, (Value.slice p6 (t.length + 1) c6).ownBlock = some k → k ≠ bT := fun k hk e => by
          have := hS5.hT.lt
          rcases hv6 k hk with h1 | h1
          · exact hS5.ne k h1 e
          · omega
        have hS7 : St l pl cl bL bT bF base w7 (.slice p6 (t.length + 1) c6) (t ++ [(x0, 0, -1, -1)]) := hS5.next E57 B7 (by
          have := own_ext hown6 E7 (fun k hk => by have := hne6 k hk; simpa using this)
          rw [encN_append]
          simpa [encN] using this) hv6
        have EX7 : Ext (XT bT (.slice pT t.length cT)) w w7 := (EX4.trans E5.of_nil).trans E57
        have hw05 : w.heap.size ≤ w5.heap.size := by have := E5.size; omega
        have hv6' : ∀ k, (Value.slice p6 (t.length + 1) c6).ownBlock = some k → (Value.slice pT t.length cT).ownBlock = some k ∨ w.heap.size ≤ k := fun k hk => (hv6 k hk).imp id (fun h => by omega)
        repeat' (first | refine T_seq ?_ | refine T_region ?_ | refine T_ret ?_ | refine T_skip ?_ | refine T_label ?_ | refine T_block ?_ | refine T_exit ?_ | refine N_then ?_ | refine N_thenR ?_ | refine N_thenE ?_ | refine N_inN ?_ | refine N_inR ?_ | refine N_inE ?_ | refine N_inO rfl ?_ | refine R_nil ?_ | refine R_skip rfl rfl rfl ?_ | refine R_skipS rfl rfl rfl ?_ | refine R_do rfl (Const_pure rfl) rfl rfl ?_ | refine R_do rfl (Const_len rfl) rfl rfl ?_ | refine R_do rfl (Const_add rfl rfl (by first | exact wrap_i64 (by omega) | exact wrap_u64 (by omega) | exact wrap_u32 (by omega) | exact wrap_u8 (by omega))) rfl rfl ?_ | refine R_do rfl (Const_sub rfl rfl (by first | exact wrap_i64 (by omega) | exact wrap_u64 (by omega) | exact wrap_u32 (by omega) | exact wrap_u8 (by omega))) rfl rfl ?_ | refine T_yes rfl (by omega) ?_ | refine T_no rfl (by omega) ?_ | refine R_grdY rfl rfl (by omega) ?_ | refine R_grdN rfl rfl (by omega) ?_ | refine T_dec rfl (fun h => ?_) (fun h => ?_) | refine T_cond_true rfl ?_ | refine T_cond_false rfl ?_ | refine R_grd rfl rfl (fun h => ?_) (fun h => ?_))
        · -- no more words
          have hnil : rest = [] := List.eq_nil_of_length_eq_zero (by omega)
          subst hnil
          refine N_ret1 (.inl rfl) rfl rfl ⟨_, [(x0, 0, -1, -1)], rfl, hS7, ?_, EX7, hv6'⟩
          exact Tree.node (ys1 := []) (ys2 := []) (s1 := []) (s2 := []) (r := 0) (List.Perm.refl _) (by simp) (by simp) ⟨by omega, by omega⟩ (.nil _) (.nil _)
        have hyl : ys.length = rest.length := hperm.length_eq
        have hok8' : Ok p8 := hok8.resolve_right (fun h => by omega)
        have hbw : bT < w.heap.size := hS.hT.lt
        have hnot : ∀ k, w.heap.size ≤ k → k < w5.heap.size → k ∉ XT bT (.slice pT t.length cT) ∧ k ∉ XT bT (.slice p6 (t.length + 1) c6) := fun k h1 h2 => by
          rw [mem_XT, mem_XT]
          refine ⟨fun h => ?_, fun h => ?_⟩
          · rcases h with h | h
            · omega
            · have := (own_lt hS.own k h).2; omega
          · rcases h with h | h
            · omega
            · rcases hv6 k h with h | h
              · have := (own_lt hS.own k h).2; omega
              · omega
        have E47 : Ext (XT bT (.slice pT t.length cT)) w4 w7 := E5.of_nil.trans E57
        have hw45 : w4.heap.size ≤ w5.heap.size := E5.size
        have BI7 := BI4.ext E47 (hnot bI hbI (by omega)).1
        have BV7 := BV4.ext E47 (hnot bV (by omega) (by have := BV4.lt; omega)).1
        have hys : Ints (XT bT (.slice p6 (t.length + 1) c6)) w7 .i64 p8 ys := by
          obtain ⟨p, c, he, hsl, _, _⟩ := own_sl hown84
          injection he with e1 _ _
          subst e1
          have h1 : Sl (XT bT (.slice pT t.length cT) ++ XT bT (.slice p6 (t.length + 1) c6)) w4 p8 (i64s ys) := hsl _ (fun k hk hx => by
            have h1 := hY k (by simpa using hk)
            have h2 := hnot k h1.1 (by omega)
            rcases List.mem_append.1 hx with hx | hx
            · exact h2.1 hx
            · exact h2.2 hx)
          exact (h1.mono (E47.weaken (fun k hk => List.mem_append_left _ hk))).less (fun k hk => List.mem_append_right _ hk)
        have hl7 := hS7.hl
        have cL7 := hS7.cL
        have cF7 := hS7.cF
        have hyr : ∀ j, j < rest.length → 0 ≤ ys.getD j 0 ∧ ys.getD j 0 < l.length := fun j hj => by
          have : ys.getD j 0 ∈ rest := hperm.mem_iff.1 (by
            have hj' : j < ys.length := by omega
            simp [List.getD, hj'])
          exact hrr _ this
        obtain ⟨mid, hmid⟩ : ∃ mid : Nat, mid = (rest.length - 1) / 2 := ⟨_, rfl⟩
        have hq : ((rest.length : Int) - 1).tdiv 2 = (mid : Int) := by
          rw [Int.tdiv_eq_ediv_of_nonneg (by omega)]
          omega
        clear hY hS4 hS5 E5 B5 hg6 hsl6 hok6 hown6 hT6 B7 E7 E56 hown84 E14 E4 BI4 BV4 L5 hne6
        (repeat refine T_seq ?_); refine T_drawn (fun _ => Ext [] w7) [0, 1, 2, 3, 4, 5, 6, 7, 8, 9] [0, 1, 1, 1, 1, 1, 1, 0, 0, 0] mixed (fun _ _ h => h) (by kernel_rfl) (Ext.drew _ _) ?_
        refine R_do rfl (Const_load rfl (extC (BV7.cell rfl) (by simp))) rfl rfl ?_
        repeat (first | refine T_seq ?_ | refine T_region ?_ | refine T_ret ?_ | refine T_skip ?_ | refine T_label ?_ | refine T_block ?_ | refine T_exit ?_ | refine N_then ?_ | refine N_thenR ?_ | refine N_thenE ?_ | refine N_inN ?_ | refine N_inR ?_ | refine N_inE ?_ | refine N_inO rfl ?_ | refine R_nil ?_ | refine R_skip rfl rfl rfl ?_ | refine R_skipS rfl rfl rfl ?_ | refine R_do rfl (Const_pure rfl) rfl rfl ?_ | refine R_do rfl (Const_len rfl) rfl rfl ?_ | refine R_do rfl (Const_add rfl rfl (by first | exact wrap_i64 (by omega) | exact wrap_u64 (by omega) | exact wrap_u32 (by omega) | exact wrap_u8 (by omega))) rfl rfl ?_ | refine R_do rfl (Const_sub rfl rfl (by first | exact wrap_i64 (by omega) | exact wrap_u64 (by omega) | exact wrap_u32 (by omega) | exact wrap_u8 (by omega))) rfl rfl ?_)
        refine R_do rfl (Const_quo (c := (mid : Int)) rfl rfl (by omega) (by rw [hq]; exact wrap_i64 (by omega))) rfl rfl ?_
        refine R_do rfl (Const_indexS rfl rfl ⟨by omega, by omega⟩ hok8') rfl rfl ?_
        refine R_do rfl (Const_load rfl (extC (Ints.cell hys (i := (mid : Int).toNat) (by omega)) (by simp))) rfl rfl ?_
        refine R_ef rfl (Eff_callV rfl rfl (from_ok pl l cl x0 (ys.getD (mid : Int).toNat 0) bL bI w7.drew (Sl.less (hl7.mono (Ext.drew _ _)) (by simp)) h64 (hyr _ (by omega)) hit cL7 (BI7.cell rfl))) rfl rfl ?_
        rintro _ w8 ⟨E8, rfl⟩
        have E78 : Ext [] w7 w8 := (Ext.drew _ _).trans E8
        refine ⟨E78, ?_⟩
        obtain ⟨r, hrd⟩ : ∃ r, r = key l x0 (ys.getD (mid : Int).toNat 0) := ⟨_, rfl⟩
        have hrb : 0 ≤ r ∧ r ≤ 64 := by rw [hrd]; exact dist_bd _ _
        rw [← hrd]
        repeat (first | refine R_skip rfl rfl rfl ?_ | refine R_skipS rfl rfl rfl ?_ | refine R_do rfl (Const_pure rfl) rfl rfl ?_ | refine R_do rfl (Const_len rfl) rfl rfl ?_ | refine R_do rfl (Const_add rfl rfl (by first | exact wrap_i64 (by omega) | exact wrap_u64 (by omega) | exact wrap_u32 (by omega) | exact wrap_u8 (by omega))) rfl rfl ?_ | refine R_do rfl (Const_sub rfl rfl (by first | exact wrap_i64 (by omega) | exact wrap_u64 (by omega) | exact wrap_u32 (by omega) | exact wrap_u8 (by omega))) rfl rfl ?_)
        refine R_nil ?_
        refine N_then ?_
        refine T_seq ?_
        refine T_region ?_
        repeat (first | refine R_skip rfl rfl rfl ?_ | refine R_skipS rfl rfl rfl ?_ | refine R_do rfl (Const_pure rfl) rfl rfl ?_ | refine R_do rfl (Const_len rfl) rfl rfl ?_ | refine R_do rfl (Const_add rfl rfl (by first | exact wrap_i64 (by omega) | exact wrap_u64 (by omega) | exact wrap_u32 (by omega) | exact wrap_u8 (by omega))) rfl rfl ?_ | refine R_do rfl (Const_sub rfl rfl (by first | exact wrap_i64 (by omega) | exact wrap_u64 (by omega) | exact wrap_u32 (by omega) | exact wrap_u8 (by omega))) rfl rfl ?_)
        refine R_nil ?_
        refine N_then ?_
        refine T_seq ?_
        refine T_cutT (fun G w' => ∃ cut : Nat, cut ≤ rest.length ∧ (∀ p, p < cut → key l x0 (ys.getD p 0) ≤ r) ∧ (∀ p, cut ≤ p → p < rest.length → r < key l x0 (ys.getD p 0)) ∧ Ext [] w7 w' ∧
          G = [(1, .pointer (some ⟨bT, 0, none⟩)), (2, .pointer (some ⟨bL, 0, none⟩)), (3, .pointer (some ⟨bF, 0, none⟩)), (6, .int .i64 t.length), (8, .slice p8 rest.length c8), (10, .int .i64 r), (11, .int .i64 cut)]) ?_ ?_
        · repeat (first | refine T_seq ?_ | refine T_region ?_ | refine T_ret ?_ | refine T_skip ?_ | refine T_label ?_ | refine T_block ?_ | refine T_exit ?_ | refine N_then ?_ | refine N_thenR ?_ | refine N_thenE ?_ | refine N_inN ?_ | refine N_inR ?_ | refine N_inE ?_ | refine N_inO rfl ?_ | refine R_nil ?_ | refine R_skip rfl rfl rfl ?_ | refine R_skipS rfl rfl rfl ?_ | refine R_do rfl (Const_pure rfl) rfl rfl ?_ | refine R_do rfl (Const_len rfl) rfl rfl ?_ | refine R_do rfl (Const_add rfl rfl (by first | exact wrap_i64 (by omega) | exact wrap_u64 (by omega) | exact wrap_u32 (by omega) | exact wrap_u8 (by omega))) rfl rfl ?_ | refine R_do rfl (Const_sub rfl rfl (by first | exact wrap_i64 (by omega) | exact wrap_u64 (by omega) | exact wrap_u32 (by omega) | exact wrap_u8 (by omega))) rfl rfl ?_)
          refine T_loop (fun k G w' => ∃ cut : Nat, cut ≤ rest.length ∧ k = rest.length - cut ∧ (∀ p, p < cut → key l x0 (ys.getD p 0) ≤ r) ∧ Ext [] w7 w' ∧
            G = [(1, .pointer (some ⟨bT, 0, none⟩)), (2, .pointer (some ⟨bL, 0, none⟩)), (3, .pointer (some ⟨bF, 0, none⟩)), (6, .int .i64 t.length), (8, .slice p8 rest.length c8), (9, .pointer (some ⟨bV, 0, none⟩)), (10, .int .i64 r), (11, .int .i64 cut)])
            rest.length _ subG ⟨0, by omega, rfl, fun p hp => by omega, E78, rfl⟩ ?_
          rintro k G w9 ⟨cut, hcut, rfl, hle, E79, rfl⟩
          (repeat refine T_seq ?_); refine T_drawn (fun _ => Ext [] w9) [0, 1, 2, 3, 4, 5, 6, 7, 8, 9, 11, 10, 12, 13] [1, 1, 1, 1, 0, 0, 1, 1, 1, 0, 1, 0, 0, 0] mixed (fun _ _ h => h) (by kernel_rfl) (Ext.drew _ _) ?_
          by_cases hlt : cut < rest.length
          · repeat' (first | refine T_seq ?_ | refine T_region ?_ | refine T_ret ?_ | refine T_skip ?_ | refine T_label ?_ | refine T_block ?_ | refine T_exit ?_ | refine N_then ?_ | refine N_thenR ?_ | refine N_thenE ?_ | refine N_inN ?_ | refine N_inR ?_ | refine N_inE ?_ | refine N_inO rfl ?_ | refine R_nil ?_ | refine R_skip rfl rfl rfl ?_ | refine R_skipS rfl rfl rfl ?_ | refine R_do rfl (Const_pure rfl) rfl rfl ?_ | refine R_do rfl (Const_len rfl) rfl rfl ?_ | refine R_do rfl (Const_add rfl rfl (by first | exact wrap_i64 (by omega) | exact wrap_u64 (by omega) | exact wrap_u32 (by omega) | exact wrap_u8 (by omega))) rfl rfl ?_ | refine R_do rfl (Const_sub rfl rfl (by first | exact wrap_i64 (by omega) | exact wrap_u64 (by omega) | exact wrap_u32 (by omega) | exact wrap_u8 (by omega))) rfl rfl ?_ | refine T_yes rfl (by omega) ?_ | refine T_no rfl (by omega) ?_ | refine R_grdY rfl rfl (by omega) ?_ | refine R_grdN rfl rfl (by omega) ?_ | refine T_dec rfl (fun h => ?_) (fun h => ?_) | refine T_cond_true rfl ?_ | refine T_cond_false rfl ?_ | refine R_grd rfl rfl (fun h => ?_) (fun h => ?_))
            refine R_do rfl (Const_load rfl (extC (E79.cell (BV7.cell rfl) (by simp)) (by simp))) rfl rfl ?_
            repeat' (first | refine T_seq ?_ | refine T_region ?_ | refine T_ret ?_ | refine T_skip ?_ | refine T_label ?_ | refine T_block ?_ | refine T_exit ?_ | refine N_then ?_ | refine N_thenR ?_ | refine N_thenE ?_ | refine N_inN ?_ | refine N_inR ?_ | refine N_inE ?_ | refine N_inO rfl ?_ | refine R_nil ?_ | refine R_skip rfl rfl rfl ?_ | refine R_skipS rfl rfl rfl ?_ | refine R_do rfl (Const_pure rfl) rfl rfl ?_ | refine R_do rfl (Const_len rfl) rfl rfl ?_ | refine R_do rfl (Const_add rfl rfl (by first | exact wrap_i64 (by omega) | exact wrap_u64 (by omega) | exact wrap_u32 (by omega) | exact wrap_u8 (by omega))) rfl rfl ?_ | refine R_do rfl (Const_sub rfl rfl (by first | exact wrap_i64 (by omega) | exact wrap_u64 (by omega) | exact wrap_u32 (by omega) | exact wrap_u8 (by omega))) rfl rfl ?_ | refine T_yes rfl (by omega) ?_ | refine T_no rfl (by omega) ?_ | refine R_grdY rfl rfl (by omega) ?_ | refine R_grdN rfl rfl (by omega) ?_ | refine T_dec rfl (fun h => ?_) (fun h => ?_) | refine T_cond_true rfl ?_ | refine T_cond_false rfl ?_ | refine R_grd rfl rfl (fun h => ?_) (fun h => ?_))
            refine R_do rfl (Const_indexS rfl rfl ⟨by omega, by omega⟩ hok8') rfl rfl ?_
            refine R_do rfl (Const_load rfl (extC (Ints.cell (hys.mono E79.of_nil) (i := (cut : Int).toNat) (by omega)) (by simp))) rfl rfl ?_
            repeat' (first | refine T_seq ?_ | refine T_region ?_ | refine T_ret ?_ | refine T_skip ?_ | refine T_label ?_ | refine T_block ?_ | refine T_exit ?_ | refine N_then ?_ | refine N_thenR ?_ | refine N_thenE ?_ | refine N_inN ?_ | refine N_inR ?_ | refine N_inE ?_ | refine N_inO rfl ?_ | refine R_nil ?_ | refine R_skip rfl rfl rfl ?_ | refine R_skipS rfl rfl rfl ?_ | refine R_do rfl (Const_pure rfl) rfl rfl ?_ | refine R_do rfl (Const_len rfl) rfl rfl ?_ | refine R_do rfl (Const_add rfl rfl (by first | exact wrap_i64 (by omega) | exact wrap_u64 (by omega) | exact wrap_u32 (by omega) | exact wrap_u8 (by omega))) rfl rfl ?_ | refine R_do rfl (Const_sub rfl rfl (by first | exact wrap_i64 (by omega) | exact wrap_u64 (by omega) | exact wrap_u32 (by omega) | exact wrap_u8 (by omega))) rfl rfl ?_ | refine T_yes rfl (by omega) ?_ | refine T_no rfl (by omega) ?_ | refine R_grdY rfl rfl (by omega) ?_ | refine R_grdN rfl rfl (by omega) ?_ | refine T_dec rfl (fun h => ?_) (fun h => ?_) | refine T_cond_true rfl ?_ | refine T_cond_false rfl ?_ | refine R_grd rfl rfl (fun h => ?_) (fun h => ?_))
            have E79d : Ext [] w7 w9.drew := E79.trans (Ext.drew _ _)
            refine R_ef rfl (Eff_callV rfl rfl (from_ok pl l cl x0 (ys.getD (cut : Int).toNat 0) bL bI w9.drew (Sl.less (hl7.mono E79d.of_nil) (by simp)) h64 (hyr _ (by omega)) hit (E79d.cell cL7 (by simp)) (E79d.cell (BI7.cell rfl) (by simp)))) rfl rfl ?_
            rintro _ w10 ⟨E10, rfl⟩
            refine ⟨(Ext.drew _ _).trans E10, ?_⟩
            have E7a : Ext [] w7 w10 := E79d.trans E10
            by_cases hkr : key l x0 (ys.getD (cut : Int).toNat 0) ≤ r
            · repeat' (first | refine T_seq ?_ | refine T_region ?_ | refine T_ret ?_ | refine T_skip ?_ | refine T_label ?_ | refine T_block ?_ | refine T_exit ?_ | refine N_then ?_ | refine N_thenR ?_ | refine N_thenE ?_ | refine N_inN ?_ | refine N_inR ?_ | refine N_inE ?_ | refine N_inO rfl ?_ | refine R_nil ?_ | refine R_skip rfl rfl rfl ?_ | refine R_skipS rfl rfl rfl ?_ | refine R_do rfl (Const_pure rfl) rfl rfl ?_ | refine R_do rfl (Const_len rfl) rfl rfl ?_ | refine R_do rfl (Const_add rfl rfl (by first | exact wrap_i64 (by omega) | exact wrap_u64 (by omega) | exact wrap_u32 (by omega) | exact wrap_u8 (by omega))) rfl rfl ?_ | refine R_do rfl (Const_sub rfl rfl (by first | exact wrap_i64 (by omega) | exact wrap_u64 (by omega) | exact wrap_u32 (by omega) | exact wrap_u8 (by omega))) rfl rfl ?_ | refine T_yes rfl (by omega) ?_ | refine T_no rfl (by omega) ?_ | refine R_grdY rfl rfl (by omega) ?_ | refine R_grdN rfl rfl (by omega) ?_ | refine T_dec rfl (fun h => ?_) (fun h => ?_) | refine T_cond_true rfl ?_ | refine T_cond_false rfl ?_ | refine R_grd rfl rfl (fun h => ?_) (fun h => ?_))
              refine N_again (rest.length - (cut + 1)) _ (by omega) subG ⟨cut + 1, by omega, rfl, fun p hp => ?_, E7a, rfl⟩
              by_cases hpc : p = cut
              · subst hpc; exact hkr
              · exact hle p (by omega)
            · repeat' (first | refine T_seq ?_ | refine T_region ?_ | refine T_ret ?_ | refine T_skip ?_ | refine T_label ?_ | refine T_block ?_ | refine T_exit ?_ | refine N_then ?_ | refine N_thenR ?_ | refine N_thenE ?_ | refine N_inN ?_ | refine N_inR ?_ | refine N_inE ?_ | refine N_inO rfl ?_ | refine R_nil ?_ | refine R_skip rfl rfl rfl ?_ | refine R_skipS rfl rfl rfl ?_ | refine R_do rfl (Const_pure rfl) rfl rfl ?_ | refine R_do rfl (Const_len rfl) rfl rfl ?_ | refine R_do rfl (Const_add rfl rfl (by first | exact wrap_i64 (by omega) | exact wrap_u64 (by omega) | exact wrap_u32 (by omega) | exact wrap_u8 (by omega))) rfl rfl ?_ | refine R_do rfl (Const_sub rfl rfl (by first | exact wrap_i64 (by omega) | exact wrap_u64 (by omega) | exact wrap_u32 (by omega) | exact wrap_u8 (by omega))) rfl rfl ?_ | refine T_yes rfl (by omega) ?_ | refine T_no rfl (by omega) ?_ | refine R_grdY rfl rfl (by omega) ?_ | refine R_grdN rfl rfl (by omega) ?_ | refine T_dec rfl (fun h => ?_) (fun h => ?_) | refine T_cond_true rfl ?_ | refine T_cond_false rfl ?_ | refine R_grd rfl rfl (fun h => ?_) (fun h => ?_))
              refine N_cut _ subG ⟨cut, by omega, hle, fun p h1 h2 => ?_, E7a, rfl⟩
              have h3 : ¬ key l x0 (ys.getD cut 0) ≤ r := hkr
              by_cases hpc : p = cut
              · subst hpc; omega
              · have := hsrt cut p (by omega) h2
                omega
          · repeat' (first | refine T_seq ?_ | refine T_region ?_ | refine T_ret ?_ | refine T_skip ?_ | refine T_label ?_ | refine T_block ?_ | refine T_exit ?_ | refine N_then ?_ | refine N_thenR ?_ | refine N_thenE ?_ | refine N_inN ?_ | refine N_inR ?_ | refine N_inE ?_ | refine N_inO rfl ?_ | refine R_nil ?_ | refine R_skip rfl rfl rfl ?_ | refine R_skipS rfl rfl rfl ?_ | refine R_do rfl (Const_pure rfl) rfl rfl ?_ | refine R_do rfl (Const_len rfl) rfl rfl ?_ | refine R_do rfl (Const_add rfl rfl (by first | exact wrap_i64 (by omega) | exact wrap_u64 (by omega) | exact wrap_u32 (by omega) | exact wrap_u8 (by omega))) rfl rfl ?_ | refine R_do rfl (Const_sub rfl rfl (by first | exact wrap_i64 (by omega) | exact wrap_u64 (by omega) | exact wrap_u32 (by omega) | exact wrap_u8 (by omega))) rfl rfl ?_ | refine T_yes rfl (by omega) ?_ | refine T_no rfl (by omega) ?_ | refine R_grdY rfl rfl (by omega) ?_ | refine R_grdN rfl rfl (by omega) ?_ | refine T_dec rfl (fun h => ?_) (fun h => ?_) | refine T_cond_true rfl ?_ | refine T_cond_false rfl ?_ | refine R_grd rfl rfl (fun h => ?_) (fun h => ?_))
            refine R_skipE rfl rfl rfl (Ext.drew _ _) ?_
            repeat' (first | refine T_seq ?_ | refine T_region ?_ | refine T_ret ?_ | refine T_skip ?_ | refine T_label ?_ | refine T_block ?_ | refine T_exit ?_ | refine N_then ?_ | refine N_thenR ?_ | refine N_thenE ?_ | refine N_inN ?_ | refine N_inR ?_ | refine N_inE ?_ | refine N_inO rfl ?_ | refine R_nil ?_ | refine R_skip rfl rfl rfl ?_ | refine R_skipS rfl rfl rfl ?_ | refine R_do rfl (Const_pure rfl) rfl rfl ?_ | refine R_do rfl (Const_len rfl) rfl rfl ?_ | refine R_do rfl (Const_add rfl rfl (by first | exact wrap_i64 (by omega) | exact wrap_u64 (by omega) | exact wrap_u32 (by omega) | exact wrap_u8 (by omega))) rfl rfl ?_ | refine R_do rfl (Const_sub rfl rfl (by first | exact wrap_i64 (by omega) | exact wrap_u64 (by omega) | exact wrap_u32 (by omega) | exact wrap_u8 (by omega))) rfl rfl ?_ | refine T_yes rfl (by omega) ?_ | refine T_no rfl (by omega) ?_ | refine R_grdY rfl rfl (by omega) ?_ | refine R_grdN rfl rfl (by omega) ?_ | refine T_dec rfl (fun h => ?_) (fun h => ?_) | refine T_cond_true rfl ?_ | refine T_cond_false rfl ?_ | refine R_grd rfl rfl (fun h => ?_) (fun h => ?_))
            exact N_cut _ subG ⟨cut, by omega, hle, fun p h1 h2 => by omega, E79.trans (Ext.drew _ _), rfl⟩
        · rintro G w9 ⟨cut, hcut, hle, hgt, E79, rfl⟩
          clear BI7 BV7 hl7 cL7 cF7 E8 E78 E47 hmid hq hrd
          have hS9 := hS7.carry E79 (by simp)
          have hys9 : Ints (XT bT (.slice p6 (t.length + 1) c6)) w9 .i64 p8 ys := hys.mono E79.of_nil
          have htl : (t ++ [(x0, 0, -1, -1)]).length = t.length + 1 := by simp
          (repeat refine T_seq ?_); refine T_drawn (stg (XT bT (.slice p6 (t.length + 1) c6)) w9) [0, 1, 2, 3, 4, 5] [0, 1, 1, 0, 0, 0] mixed (stg_mono _ _) (by kernel_rfl) (Ext.drew _ _) ?_
          refine R_do rfl (Const_load rfl (extC hS9.cF (by simp))) rfl rfl ?_
          repeat (first | refine R_skip rfl rfl rfl ?_ | refine R_skipS rfl rfl rfl ?_ | refine R_do rfl (Const_pure rfl) rfl rfl ?_ | refine R_do rfl (Const_len rfl) rfl rfl ?_ | refine R_do rfl (Const_add rfl rfl (by first | exact wrap_i64 (by omega) | exact wrap_u64 (by omega) | exact wrap_u32 (by omega) | exact wrap_u8 (by omega))) rfl rfl ?_ | refine R_do rfl (Const_sub rfl rfl (by first | exact wrap_i64 (by omega) | exact wrap_u64 (by omega) | exact wrap_u32 (by omega) | exact wrap_u8 (by omega))) rfl rfl ?_)
          refine R_do rfl (Const_slice (l := 0) (h := cut) rfl (.inl ⟨rfl, rfl⟩) (.inr ⟨_, _, rfl, rfl⟩) (by omega) (by omega)) rfl rfl ?_
          have k1 : (ys.take cut).length = cut - 0 := by simp; omega
          have hx1 : Ints (XT bT (.slice p6 (t.length + 1) c6)) w9.drew .i64 (cutA p8 c8 0 1) (ys.take cut) := by
            have := Sl.cut (hys9.mono (Ext.drew _ _)) c8 0 cut 1 (by simp; omega)
            simpa [Ints, List.map_take] using this
          have hc1 := ih (ys.take cut) (cutA p8 c8 0 1) (c8 - 0) w9.drew (.slice p6 (t.length + 1) c6) (t ++ [(x0, 0, -1, -1)]) (by omega) (by omega) (by omega)
            (hS9.carry (Ext.drew [] _) (by simp)) hx1 (.inl (cutA_ok' hok8' _ _ _)) (by omega) (fun x hx => hrr x (hperm.mem_iff.1 (List.mem_of_mem_take hx)))
          rw [k1] at hc1
          refine R_ef rfl (Eff_callV rfl rfl hc1) rfl rfl ?_
          rintro _ w10 ⟨v10, s1, rfl, hS10, ht1, E10, hv10⟩
          have E910 : Ext (XT bT (.slice p6 (t.length + 1) c6)) w9 w10 := (Ext.drew _ _).trans E10
          refine ⟨E910, ?_⟩
          have hsz10 : w9.heap.size ≤ w10.heap.size := E910.size
          have hX10 : ∀ k ∈ XT bT v10, k ∈ XT bT (.slice p6 (t.length + 1) c6) ∨ w9.heap.size ≤ k := fun k hk => by
            rw [mem_XT] at hk ⊢
            rcases hk with hk | hk
            · exact .inl (.inl hk)
            · exact (hv10 k hk).imp .inr id
          have hys10 : Ints (XT bT v10) w10 .i64 p8 ys := Sl.carry hys9 E910 hX10
          have hl1 := ht1.len
          repeat (first | refine R_skip rfl rfl rfl ?_ | refine R_skipS rfl rfl rfl ?_ | refine R_do rfl (Const_pure rfl) rfl rfl ?_ | refine R_do rfl (Const_len rfl) rfl rfl ?_ | refine R_do rfl (Const_add rfl rfl (by first | exact wrap_i64 (by omega) | exact wrap_u64 (by omega) | exact wrap_u32 (by omega) | exact wrap_u8 (by omega))) rfl rfl ?_ | refine R_do rfl (Const_sub rfl rfl (by first | exact wrap_i64 (by omega) | exact wrap_u64 (by omega) | exact wrap_u32 (by omega) | exact wrap_u8 (by omega))) rfl rfl ?_)
          refine R_nil ?_
          refine N_then ?_
          (repeat refine T_seq ?_); refine T_drawn (stg (XT bT v10) w10) [0, 1, 2, 3, 4, 5] [0, 1, 1, 0, 0, 0] mixed (stg_mono _ _) (by kernel_rfl) (Ext.drew _ _) ?_
          refine R_do rfl (Const_load rfl (extC hS10.cF (by simp))) rfl rfl ?_
          repeat (first | refine R_skip rfl rfl rfl ?_ | refine R_skipS rfl rfl rfl ?_ | refine R_do rfl (Const_pure rfl) rfl rfl ?_ | refine R_do rfl (Const_len rfl) rfl rfl ?_ | refine R_do rfl (Const_add rfl rfl (by first | exact wrap_i64 (by omega) | exact wrap_u64 (by omega) | exact wrap_u32 (by omega) | exact wrap_u8 (by omega))) rfl rfl ?_ | refine R_do rfl (Const_sub rfl rfl (by first | exact wrap_i64 (by omega) | exact wrap_u64 (by omega) | exact wrap_u32 (by omega) | exact wrap_u8 (by omega))) rfl rfl ?_)
          refine R_do rfl (Const_slice (l := cut) (h := rest.length) rfl (.inr ⟨_, _, rfl, rfl⟩) (.inl ⟨rfl, rfl⟩) (by omega) (by omega)) rfl rfl ?_
          have k2 : (ys.drop cut).length = rest.length - cut := by simp; omega
          have hx2 : Ints (XT bT v10) w10.drew .i64 (cutA p8 c8 cut 1) (ys.drop cut) := by
            have := Sl.cut (hys10.mono (Ext.drew _ _)) c8 cut ys.length 1 (by simp; omega)
            rw [List.take_of_length_le (by simp)] at this
            simpa [Ints, List.map_drop] using this
          have hl2 : ((t ++ [(x0, 0, -1, -1)]) ++ s1).length = t.length + 1 + (ys.take cut).length := by rw [List.length_append, htl, hl1]
          have hc2 := ih (ys.drop cut) (cutA p8 c8 cut 1) (c8 - cut) w10.drew v10 ((t ++ [(x0, 0, -1, -1)]) ++ s1) (by omega) (by omega) (by omega)
            (hS10.carry (Ext.drew [] _) (by simp)) hx2 (.inl (cutA_ok' hok8' _ _ _)) (by omega) (fun x hx => hrr x (hperm.mem_iff.1 (List.mem_of_mem_drop hx)))
          rw [k2] at hc2
          refine R_ef rfl (Eff_callV rfl rfl hc2) rfl rfl ?_
          rintro _ w11 ⟨v11, s2, rfl, hS11, ht2, E11, hv11⟩
          have E1011 : Ext (XT bT v10) w10 w11 := (Ext.drew _ _).trans E11
          refine ⟨E1011, ?_⟩
          have hX11 : ∀ k ∈ XT bT v11, k ∈ XT bT v10 ∨ w10.heap.size ≤ k := fun k hk => by
            rw [mem_XT] at hk ⊢
            rcases hk with hk | hk
            · exact .inl (.inl hk)
            · exact (hv11 k hk).imp .inr id
          have hl3 := ht2.len
          repeat (first | refine R_skip rfl rfl rfl ?_ | refine R_skipS rfl rfl rfl ?_ | refine R_do rfl (Const_pure rfl) rfl rfl ?_ | refine R_do rfl (Const_len rfl) rfl rfl ?_ | refine R_do rfl (Const_add rfl rfl (by first | exact wrap_i64 (by omega) | exact wrap_u64 (by omega) | exact wrap_u32 (by omega) | exact wrap_u8 (by omega))) rfl rfl ?_ | refine R_do rfl (Const_sub rfl rfl (by first | exact wrap_i64 (by omega) | exact wrap_u64 (by omega) | exact wrap_u32 (by omega) | exact wrap_u8 (by omega))) rfl rfl ?_)
          refine R_nil ?_
          refine N_then ?_
          have eT : ((t ++ [(x0, 0, -1, -1)]) ++ s1) ++ s2 = t ++ (x0, 0, -1, -1) :: (s1 ++ s2) := by simp
          rw [eT] at hS11
          have hTl : (t ++ (x0, (0 : Int), (-1 : Int), (-1 : Int)) :: (s1 ++ s2)).length = t.length + 1 + s1.length + s2.length := by simp; omega
          obtain ⟨g, cg, tail, rfl, hbg, Bg, hback⟩ := own_cells hS11.own (by omega)
          have hgT : g ≠ bT := hS11.ne g rfl
          have hlenAll : ∀ (a b c d : Int), (encN (t ++ (a, b, c, d) :: (s1 ++ s2))).length = (t.length + 1 + s1.length + s2.length) * 4 := fun a b c d => by
            rw [encN_len]; simp; omega
          have hlenT : ∀ (a b c d : Int), (encN (t ++ (a, b, c, d) :: (s1 ++ s2)) ++ tail).length = (t.length + 1 + s1.length + s2.length) * 4 + tail.length := fun a b c d => by
            rw [List.length_append, hlenAll]
          obtain ⟨va, hva⟩ : ∃ va : Int, va = (if ys.take cut = [] then -1 else ((t ++ [(x0, (0 : Int), (-1 : Int), (-1 : Int))]).length : Int)) := ⟨_, rfl⟩
          obtain ⟨vb, hvb⟩ : ∃ vb : Int, vb = (if ys.drop cut = [] then -1 else (((t ++ [(x0, (0 : Int), (-1 : Int), (-1 : Int))]) ++ s1).length : Int)) := ⟨_, rfl⟩
          rw [← hva, ← hvb]
          (repeat refine T_seq ?_); refine T_drawn (stg [g] w11) [0, 1, 2, 3, 4, 5, 6, 7, 8, 9, 10, 11, 12, 13, 14, 15, 16, 17] [0, 0, 1, 1, 2, 2, 0, 1, 2, 1, 0, 0, 1, 0, 0, 1, 0, 0] mixed (stg_mono _ _) (by kernel_rfl) (Ext.drew _ _) ?_
          have hcT : w11.cell? ⟨bT, 0, none⟩ = some (.slice (some ⟨g, 0, none⟩) (t ++ (x0, (0 : Int), (-1 : Int), (-1 : Int)) :: (s1 ++ s2)).length cg) := hS11.hT.cell rfl
          refine R_do rfl (Const_load rfl (extC hcT (by simp))) rfl rfl ?_
          repeat (first | refine R_skip rfl rfl rfl ?_ | refine R_skipS rfl rfl rfl ?_ | refine R_do rfl (Const_pure rfl) rfl rfl ?_ | refine R_do rfl (Const_len rfl) rfl rfl ?_ | refine R_do rfl (Const_add rfl rfl (by first | exact wrap_i64 (by omega) | exact wrap_u64 (by omega) | exact wrap_u32 (by omega) | exact wrap_u8 (by omega))) rfl rfl ?_ | refine R_do rfl (Const_sub rfl rfl (by first | exact wrap_i64 (by omega) | exact wrap_u64 (by omega) | exact wrap_u32 (by omega) | exact wrap_u8 (by omega))) rfl rfl ?_)
          refine R_do rfl (Const_load rfl (extC hcT (by simpa using hgT.symm))) rfl rfl ?_
          repeat (first | refine R_skip rfl rfl rfl ?_ | refine R_skipS rfl rfl rfl ?_ | refine R_do rfl (Const_pure rfl) rfl rfl ?_ | refine R_do rfl (Const_len rfl) rfl rfl ?_ | refine R_do rfl (Const_add rfl rfl (by first | exact wrap_i64 (by omega) | exact wrap_u64 (by omega) | exact wrap_u32 (by omega) | exact wrap_u8 (by omega))) rfl rfl ?_ | refine R_do rfl (Const_sub rfl rfl (by first | exact wrap_i64 (by omega) | exact wrap_u64 (by omega) | exact wrap_u32 (by omega) | exact wrap_u8 (by omega))) rfl rfl ?_)
          refine R_do rfl (Const_load rfl (extC hcT (by simpa using hgT.symm))) rfl rfl ?_
          repeat (first | refine R_skip rfl rfl rfl ?_ | refine R_skipS rfl rfl rfl ?_ | refine R_do rfl (Const_pure rfl) rfl rfl ?_ | refine R_do rfl (Const_len rfl) rfl rfl ?_ | refine R_do rfl (Const_add rfl rfl (by first | exact wrap_i64 (by omega) | exact wrap_u64 (by omega) | exact wrap_u32 (by omega) | exact wrap_u8 (by omega))) rfl rfl ?_ | refine R_do rfl (Const_sub rfl rfl (by first | exact wrap_i64 (by omega) | exact wrap_u64 (by omega) | exact wrap_u32 (by omega) | exact wrap_u8 (by omega))) rfl rfl ?_)
          have e0 : of (some ⟨g, 0, none⟩) + (t.length : Int).toNat * 4 = t.length * 4 := by simp [of]
          refine R_do rfl (Const_indexS rfl rfl ⟨by omega, by omega⟩ (Ok.mk _ _)) rfl rfl ?_
          refine R_do rfl (Const_fieldA rfl (by omega)) rfl rfl ?_
          refine R_ef0 rfl (Eff_store1 rfl rfl rfl (Bg.ext (Ext.drew [] _) (by simp)) (by rw [e0, hlenT]; omega)) rfl ?_
          rintro _ w12 ⟨rfl, B12, E12⟩
          rw [e0, encN_set1] at B12
          have F12 : Ext [g] w11 w12 := (Ext.drew _ _).trans E12
          refine ⟨F12, ?_⟩
          refine R_do rfl (Const_indexS rfl rfl ⟨by omega, by omega⟩ (Ok.mk _ _)) rfl rfl ?_
          refine R_do rfl (Const_fieldA rfl (by omega)) rfl rfl ?_
          refine R_ef0 rfl (Eff_store1 rfl rfl rfl B12 (by rw [e0, hlenT]; omega)) rfl ?_
          rintro _ w13 ⟨rfl, B13, E13⟩
          rw [e0, encN_set2] at B13
          refine ⟨F12.trans E13, ?_⟩
          refine R_do rfl (Const_indexS rfl rfl ⟨by omega, by omega⟩ (Ok.mk _ _)) rfl rfl ?_
          refine R_do rfl (Const_fieldA rfl (by omega)) rfl rfl ?_
          refine R_ef0 rfl (Eff_store1 rfl rfl rfl B13 (by rw [e0, hlenT]; omega)) rfl ?_
          rintro _ w14 ⟨rfl, B14, E14⟩
          rw [e0, encN_set3] at B14
          have F14 : Ext [g] w11 w14 := (F12.trans E13).trans E14
          refine ⟨F14, ?_⟩
          repeat (first | refine T_seq ?_ | refine T_region ?_ | refine T_ret ?_ | refine T_skip ?_ | refine T_label ?_ | refine T_block ?_ | refine T_exit ?_ | refine N_then ?_ | refine N_thenR ?_ | refine N_thenE ?_ | refine N_inN ?_ | refine N_inR ?_ | refine N_inE ?_ | refine N_inO rfl ?_ | refine R_nil ?_ | refine R_skip rfl rfl rfl ?_ | refine R_skipS rfl rfl rfl ?_ | refine R_do rfl (Const_pure rfl) rfl rfl ?_ | refine R_do rfl (Const_len rfl) rfl rfl ?_ | refine R_do rfl (Const_add rfl rfl (by first | exact wrap_i64 (by omega) | exact wrap_u64 (by omega) | exact wrap_u32 (by omega) | exact wrap_u8 (by omega))) rfl rfl ?_ | refine R_do rfl (Const_sub rfl rfl (by first | exact wrap_i64 (by omega) | exact wrap_u64 (by omega) | exact wrap_u32 (by omega) | exact wrap_u8 (by omega))) rfl rfl ?_)
          have hS14 : St l pl cl bL bT bF base w14 (.slice (some ⟨g, 0, none⟩) (t ++ (x0, (0 : Int), (-1 : Int), (-1 : Int)) :: (s1 ++ s2)).length cg) (t ++ (x0, r, va, vb) :: (s1 ++ s2)) :=
            hS11.next (F14.weaken (fun k hk => by simp at hk; subst hk; exact mem_XT.2 (.inr rfl))) (hS11.hT.ext F14 (by simpa using hgT.symm)) (by
              have := hback w14 _ B14 (by rw [hlenAll, hlenAll])
              simpa using this) (fun k hk => .inl hk)
          have h9s : w.heap.size ≤ w9.heap.size := Nat.le_trans hw05 (Nat.le_trans hw57 E79.size)
          have h10s : w.heap.size ≤ w10.heap.size := Nat.le_trans h9s hsz10
          have hXw : ∀ k ∈ XT bT (.slice p6 (t.length + 1) c6), k ∈ XT bT (.slice pT t.length cT) ∨ w.heap.size ≤ k := fun k hk => by
            rw [mem_XT] at hk ⊢
            rcases hk with hk | hk
            · exact .inl (.inl hk)
            · exact (hv6' k hk).imp .inr id
          have hXw10 : ∀ k ∈ XT bT v10, k ∈ XT bT (.slice pT t.length cT) ∨ w.heap.size ≤ k := fun k hk => by
            rcases hX10 k hk with h | h
            · exact hXw k h
            · exact .inr (by omega)
          have hXw11 : ∀ k ∈ XT bT (.slice (some ⟨g, 0, none⟩) (t ++ (x0, (0 : Int), (-1 : Int), (-1 : Int)) :: (s1 ++ s2)).length cg), k ∈ XT bT (.slice pT t.length cT) ∨ w.heap.size ≤ k := fun k hk => by
            rcases hX11 k hk with h | h
            · exact hXw10 k h
            · exact .inr (by omega)
          have hg0 : (Value.slice pT t.length cT).ownBlock = some g ∨ w.heap.size ≤ g := by
            have := hXw11 g (mem_XT.2 (.inr rfl))
            rcases this with h | h
            · rw [mem_XT] at h
              exact .inl (h.resolve_left hgT)
            · exact .inr h
          have EW : Ext (XT bT (.slice pT t.length cT)) w w14 := (((EX7.step E79 (fun k hk => by simp at hk)).step E910 hXw).step E1011 hXw10).step F14 (fun k hk => by
            simp at hk
            subst hk
            rcases hg0 with h | h
            · exact .inl (mem_XT.2 (.inr h))
            · exact .inr h)
          refine N_ret1 (.inl rfl) rfl rfl ⟨_, (x0, r, va, vb) :: (s1 ++ s2), ?_, hS14, ?_, EW, fun k hk => ?_⟩
          · rw [if_neg (by simp)]
          · rw [hva, hvb, htl, hl2]
            refine Tree.node (ys1 := ys.take cut) (ys2 := ys.drop cut) (by rw [List.take_append_drop]; exact hperm) (fun y hy => ?_) (fun y hy => ?_) hrb (htl ▸ ht1) (hl2 ▸ ht2)
            · obtain ⟨j, hj, rfl⟩ := List.mem_iff_getElem.1 hy
              have h1 : j < cut := by simp at hj; omega
              have := hle j h1
              simpa [List.getD, show j < ys.length by omega] using this
            · obtain ⟨j, hj, rfl⟩ := List.mem_iff_getElem.1 hy
              have h1 : cut + j < rest.length := by simp at hj; omega
              have := hgt (cut + j) (by omega) h1
              simpa [List.getD, show cut + j < ys.length by omega] using this
          · have : k = g := by
              simp [Value.ownBlock] at hk
              exact hk.symm
            subst this
            exact hg0
end Go.Proofs.Ytefkpnhhmjdcnaa

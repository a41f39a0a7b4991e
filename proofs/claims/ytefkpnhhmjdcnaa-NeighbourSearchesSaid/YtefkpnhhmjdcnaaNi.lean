/- neighbour: the recursive closure of Build -/
import Derived.Test.YtefkpnhhmjdcnaaNh
namespace Go.Proofs.Ytefkpnhhmjdcnaa
open Go Go.Fx

/-- a node: item, radius, near, far -/
abbrev N4 := Int × Int × Int × Int
def nl (n : N4) : List Int := [n.1, n.2.1, n.2.2.1, n.2.2.2]
def encN (t : List N4) : List Value := t.flatMap (fun n => i64s (nl n))
theorem encN_len (t : List N4) : (encN t).length = t.length * 4 := by
  induction t with
  | nil => rfl
  | cons n r ih => simp [encN, nl, i64s] at ih ⊢; omega
theorem encN_one (t : List N4) : ∀ u ∈ encN t, u.oneCell' = true := by
  intro u hu
  simp only [encN, List.mem_flatMap] at hu
  obtain ⟨n, _, hu⟩ := hu
  exact i64s_one _ u hu
theorem encN_append (s t : List N4) : encN (s ++ t) = encN s ++ encN t := by simp [encN]

/-- a tree over the words of items, its nodes from n0 on -/
inductive Tree (l : List Int) : Nat → List Int → List N4 → Prop
  | nil (n0 : Nat) : Tree l n0 [] []
  | node {n0 : Nat} {x r : Int} {rest ys1 ys2 : List Int} {s1 s2 : List N4} (hp : (ys1 ++ ys2).Perm rest) (h1 : ∀ y ∈ ys1, key l x y ≤ r) (h2 : ∀ y ∈ ys2, r < key l x y) (hr : 0 ≤ r ∧ r ≤ 64)
      (t1 : Tree l (n0 + 1) ys1 s1) (t2 : Tree l (n0 + 1 + ys1.length) ys2 s2) :
      Tree l n0 (x :: rest) ((x, r, (if ys1 = [] then -1 else ((n0 + 1 : Nat) : Int)), (if ys2 = [] then -1 else ((n0 + 1 + ys1.length : Nat) : Int))) :: (s1 ++ s2))
theorem Tree.len {l : List Int} {n0 : Nat} {xs : List Int} {s : List N4} (h : Tree l n0 xs s) : s.length = xs.length := by
  induction h with
  | nil => rfl
  | node hp _ _ _ _ _ ih1 ih2 =>
    have := hp.length_eq
    simp only [List.length_append] at this
    simp [ih1, ih2, this]

/-- an empty list is sorted as it stands -/
theorem sort0_ok (a : Option Addr) (c : Nat) (cs : List Value) (w : World) :
    Ret Try.prog 49 [.slice a 0 c, .func (.func 50) #[] cs.toArray] w (fun v w' => w = w') := by
  have h1 : Ret Try.prog 57 [.slice a 0 c, .int .i64 0, .int .i64 0, .func (.func 50) #[] cs.toArray] w (fun v w' => w = w') := by
    refine enter Try.func57 rfl Try.ntmps57 rfl ?_
    repeat (first | refine T_seq ?_ | refine T_region ?_ | refine T_ret ?_ | refine T_skip ?_ | refine T_label ?_ | refine T_block ?_ | refine T_exit ?_ | refine N_then ?_ | refine N_thenR ?_ | refine N_thenE ?_ | refine N_inN ?_ | refine N_inR ?_ | refine N_inE ?_ | refine N_inO rfl ?_ | refine R_nil ?_ | refine R_skip rfl rfl rfl ?_ | refine R_skipS rfl rfl rfl ?_ | refine R_do rfl (Const_pure rfl) rfl rfl ?_ | refine R_do rfl (Const_len rfl) rfl rfl ?_ | refine R_do rfl (Const_add rfl rfl (by first | exact wrap_i64 (by omega) | exact wrap_u64 (by omega) | exact wrap_u32 (by omega) | exact wrap_u8 (by omega))) rfl rfl ?_ | refine R_do rfl (Const_sub rfl rfl (by first | exact wrap_i64 (by omega) | exact wrap_u64 (by omega) | exact wrap_u32 (by omega) | exact wrap_u8 (by omega))) rfl rfl ?_)
    refine T_loop (fun r G w' => w = w' ∧ G = [(2, .int .i64 0), (8, .int .i64 1)]) 0 _ subG ⟨rfl, rfl⟩ ?_
    rintro r G w' ⟨rfl, rfl⟩
    repeat' (first | refine T_seq ?_ | refine T_region ?_ | refine T_ret ?_ | refine T_skip ?_ | refine T_label ?_ | refine T_block ?_ | refine T_exit ?_ | refine N_then ?_ | refine N_thenR ?_ | refine N_thenE ?_ | refine N_inN ?_ | refine N_inR ?_ | refine N_inE ?_ | refine N_inO rfl ?_ | refine R_nil ?_ | refine R_skip rfl rfl rfl ?_ | refine R_skipS rfl rfl rfl ?_ | refine R_do rfl (Const_pure rfl) rfl rfl ?_ | refine R_do rfl (Const_len rfl) rfl rfl ?_ | refine R_do rfl (Const_add rfl rfl (by first | exact wrap_i64 (by omega) | exact wrap_u64 (by omega) | exact wrap_u32 (by omega) | exact wrap_u8 (by omega))) rfl rfl ?_ | refine R_do rfl (Const_sub rfl rfl (by first | exact wrap_i64 (by omega) | exact wrap_u64 (by omega) | exact wrap_u32 (by omega) | exact wrap_u8 (by omega))) rfl rfl ?_ | refine T_yes rfl (by omega) ?_ | refine T_no rfl (by omega) ?_ | refine R_grdY rfl rfl (by omega) ?_ | refine R_grdN rfl rfl (by omega) ?_ | refine T_dec rfl (fun h => ?_) (fun h => ?_) | refine T_cond_true rfl ?_ | refine T_cond_false rfl ?_ | refine R_grd rfl rfl (fun h => ?_) (fun h => ?_))
    exact N_ret0 (.inr rfl) rfl rfl
  have h2 : Ret Try.prog 55 [.slice a 0 c, .int .i64 0, .func (.func 50) #[] cs.toArray] w (fun v w' => w = w') := by
    refine enter Try.func55 rfl Try.ntmps55 rfl ?_
    repeat (first | refine T_seq ?_ | refine T_region ?_ | refine T_ret ?_ | refine T_skip ?_ | refine T_label ?_ | refine T_block ?_ | refine T_exit ?_ | refine N_then ?_ | refine N_thenR ?_ | refine N_thenE ?_ | refine N_inN ?_ | refine N_inR ?_ | refine N_inE ?_ | refine N_inO rfl ?_ | refine R_nil ?_ | refine R_skip rfl rfl rfl ?_ | refine R_skipS rfl rfl rfl ?_ | refine R_do rfl (Const_pure rfl) rfl rfl ?_ | refine R_do rfl (Const_len rfl) rfl rfl ?_ | refine R_do rfl (Const_add rfl rfl (by first | exact wrap_i64 (by omega) | exact wrap_u64 (by omega) | exact wrap_u32 (by omega) | exact wrap_u8 (by omega))) rfl rfl ?_ | refine R_do rfl (Const_sub rfl rfl (by first | exact wrap_i64 (by omega) | exact wrap_u64 (by omega) | exact wrap_u32 (by omega) | exact wrap_u8 (by omega))) rfl rfl ?_)
    refine T_loop (fun r G w' => w = w' ∧ G = [(0, .slice a 0 c), (1, .int .i64 0), (2, .func (.func 50) #[] cs.toArray), (6, .int .i64 20), (7, .int .i64 0), (8, .int .i64 20)])
      0 _ subG ⟨rfl, rfl⟩ ?_
    rintro r G w' ⟨rfl, rfl⟩
    repeat' (first | refine T_seq ?_ | refine T_region ?_ | refine T_ret ?_ | refine T_skip ?_ | refine T_label ?_ | refine T_block ?_ | refine T_exit ?_ | refine N_then ?_ | refine N_thenR ?_ | refine N_thenE ?_ | refine N_inN ?_ | refine N_inR ?_ | refine N_inE ?_ | refine N_inO rfl ?_ | refine R_nil ?_ | refine R_skip rfl rfl rfl ?_ | refine R_skipS rfl rfl rfl ?_ | refine R_do rfl (Const_pure rfl) rfl rfl ?_ | refine R_do rfl (Const_len rfl) rfl rfl ?_ | refine R_do rfl (Const_add rfl rfl (by first | exact wrap_i64 (by omega) | exact wrap_u64 (by omega) | exact wrap_u32 (by omega) | exact wrap_u8 (by omega))) rfl rfl ?_ | refine R_do rfl (Const_sub rfl rfl (by first | exact wrap_i64 (by omega) | exact wrap_u64 (by omega) | exact wrap_u32 (by omega) | exact wrap_u8 (by omega))) rfl rfl ?_ | refine T_yes rfl (by omega) ?_ | refine T_no rfl (by omega) ?_ | refine R_grdY rfl rfl (by omega) ?_ | refine R_grdN rfl rfl (by omega) ?_ | refine T_dec rfl (fun h => ?_) (fun h => ?_) | refine T_cond_true rfl ?_ | refine T_cond_false rfl ?_ | refine R_grd rfl rfl (fun h => ?_) (fun h => ?_))
    (refine R_ef rfl (Eff_call rfl (h1)) rfl rfl ?_; rintro _ w1 rfl)
    refine ⟨trivial, ?_⟩
    repeat (first | refine T_seq ?_ | refine T_region ?_ | refine T_ret ?_ | refine T_skip ?_ | refine T_label ?_ | refine T_block ?_ | refine T_exit ?_ | refine N_then ?_ | refine N_thenR ?_ | refine N_thenE ?_ | refine N_inN ?_ | refine N_inR ?_ | refine N_inE ?_ | refine N_inO rfl ?_ | refine R_nil ?_ | refine R_skip rfl rfl rfl ?_ | refine R_skipS rfl rfl rfl ?_ | refine R_do rfl (Const_pure rfl) rfl rfl ?_ | refine R_do rfl (Const_len rfl) rfl rfl ?_ | refine R_do rfl (Const_add rfl rfl (by first | exact wrap_i64 (by omega) | exact wrap_u64 (by omega) | exact wrap_u32 (by omega) | exact wrap_u8 (by omega))) rfl rfl ?_ | refine R_do rfl (Const_sub rfl rfl (by first | exact wrap_i64 (by omega) | exact wrap_u64 (by omega) | exact wrap_u32 (by omega) | exact wrap_u8 (by omega))) rfl rfl ?_)
    refine T_loop (fun r G w' => w = w' ∧ G = [(1, .int .i64 0), (6, .int .i64 20)]) 0 _ subG ⟨rfl, rfl⟩ ?_
    rintro r G w' ⟨rfl, rfl⟩
    repeat' (first | refine T_seq ?_ | refine T_region ?_ | refine T_ret ?_ | refine T_skip ?_ | refine T_label ?_ | refine T_block ?_ | refine T_exit ?_ | refine N_then ?_ | refine N_thenR ?_ | refine N_thenE ?_ | refine N_inN ?_ | refine N_inR ?_ | refine N_inE ?_ | refine N_inO rfl ?_ | refine R_nil ?_ | refine R_skip rfl rfl rfl ?_ | refine R_skipS rfl rfl rfl ?_ | refine R_do rfl (Const_pure rfl) rfl rfl ?_ | refine R_do rfl (Const_len rfl) rfl rfl ?_ | refine R_do rfl (Const_add rfl rfl (by first | exact wrap_i64 (by omega) | exact wrap_u64 (by omega) | exact wrap_u32 (by omega) | exact wrap_u8 (by omega))) rfl rfl ?_ | refine R_do rfl (Const_sub rfl rfl (by first | exact wrap_i64 (by omega) | exact wrap_u64 (by omega) | exact wrap_u32 (by omega) | exact wrap_u8 (by omega))) rfl rfl ?_ | refine T_yes rfl (by omega) ?_ | refine T_no rfl (by omega) ?_ | refine R_grdY rfl rfl (by omega) ?_ | refine R_grdN rfl rfl (by omega) ?_ | refine T_dec rfl (fun h => ?_) (fun h => ?_) | refine T_cond_true rfl ?_ | refine T_cond_false rfl ?_ | refine R_grd rfl rfl (fun h => ?_) (fun h => ?_))
    exact N_ret0 (.inr rfl) rfl rfl
  refine enter Try.func49 rfl Try.ntmps49 rfl ?_
  repeat (first | refine T_seq ?_ | refine T_region ?_ | refine T_ret ?_ | refine T_skip ?_ | refine T_label ?_ | refine T_block ?_ | refine T_exit ?_ | refine N_then ?_ | refine N_thenR ?_ | refine N_thenE ?_ | refine N_inN ?_ | refine N_inR ?_ | refine N_inE ?_ | refine N_inO rfl ?_ | refine R_nil ?_ | refine R_skip rfl rfl rfl ?_ | refine R_skipS rfl rfl rfl ?_ | refine R_do rfl (Const_pure rfl) rfl rfl ?_ | refine R_do rfl (Const_len rfl) rfl rfl ?_ | refine R_do rfl (Const_add rfl rfl (by first | exact wrap_i64 (by omega) | exact wrap_u64 (by omega) | exact wrap_u32 (by omega) | exact wrap_u8 (by omega))) rfl rfl ?_ | refine R_do rfl (Const_sub rfl rfl (by first | exact wrap_i64 (by omega) | exact wrap_u64 (by omega) | exact wrap_u32 (by omega) | exact wrap_u8 (by omega))) rfl rfl ?_)
  (refine R_ef rfl (Eff_call rfl (h2)) rfl rfl ?_; rintro _ w1 rfl)
  refine ⟨trivial, ?_⟩
  repeat (first | refine T_seq ?_ | refine T_region ?_ | refine T_ret ?_ | refine T_skip ?_ | refine T_label ?_ | refine T_block ?_ | refine T_exit ?_ | refine N_then ?_ | refine N_thenR ?_ | refine N_thenE ?_ | refine N_inN ?_ | refine N_inR ?_ | refine N_inE ?_ | refine N_inO rfl ?_ | refine R_nil ?_ | refine R_skip rfl rfl rfl ?_ | refine R_skipS rfl rfl rfl ?_ | refine R_do rfl (Const_pure rfl) rfl rfl ?_ | refine R_do rfl (Const_len rfl) rfl rfl ?_ | refine R_do rfl (Const_add rfl rfl (by first | exact wrap_i64 (by omega) | exact wrap_u64 (by omega) | exact wrap_u32 (by omega) | exact wrap_u8 (by omega))) rfl rfl ?_ | refine R_do rfl (Const_sub rfl rfl (by first | exact wrap_i64 (by omega) | exact wrap_u64 (by omega) | exact wrap_u32 (by omega) | exact wrap_u8 (by omega))) rfl rfl ?_)
  exact N_ret0 (.inr rfl) rfl rfl

/-- what the closure may turn -/
def XT (bT : Nat) (v : Value) : List Nat := bT :: v.ownBlock.toList
theorem mem_XT {bT k : Nat} {v : Value} : k ∈ XT bT v ↔ k = bT ∨ v.ownBlock = some k := by
  unfold XT
  cases v.ownBlock <;> simp [eq_comm]

/-- the closure's world: its captured variables, the tree so far -/
structure St (l : List Int) (pl : Option Addr) (cl bL bT bF base : Nat) (w : World) (v : Value) (t : List N4) : Prop where
  hT : Blk w bT [v] 58
  own : w.ownsRow base 82 4 v t.length (encN t)
  ne : ∀ k, v.ownBlock = some k → k ≠ bT
  cL : w.cell? ⟨bL, 0, none⟩ = some (.slice pl l.length cl)
  nL : bL ∉ XT bT v
  cF : w.cell? ⟨bF, 0, none⟩ = some (.func (.func 46) #[] #[.pointer (some ⟨bT, 0, none⟩), .pointer (some ⟨bL, 0, none⟩), .pointer (some ⟨bF, 0, none⟩)])
  nF : bF ∉ XT bT v
  hl : Ints (XT bT v) w .u64 pl l
  hb : base ≤ w.heap.size

/-- the state is carried over steps that turn none of its memory -/
theorem St.carry {l : List Int} {pl : Option Addr} {cl bL bT bF base : Nat} {w w' : World} {v : Value} {t : List N4} (h : St l pl cl bL bT bF base w v t) {Y : List Nat} (he : Ext Y w w')
    (hY : ∀ k ∈ Y, w.heap.size ≤ k) : St l pl cl bL bT bF base w' v t := by
  have hle : ∀ k, k < w.heap.size → k ∉ Y := fun k hk hy => by have := hY k hy; omega
  refine ⟨h.hT.ext he (hle _ h.hT.lt), own_ext h.own he (fun k hk => hle k (own_lt h.own k hk).2), h.ne, he.cell h.cL (hle _ (World.block_lt_of_cell? _ _ h.cL)), h.nL, he.cell h.cF (hle _ (World.block_lt_of_cell? _ _ h.cF)), h.nF, ?_, Nat.le_trans h.hb he.size⟩
  have h2 : Sl (XT bT v ++ Y) w pl (l.map (Value.int .u64)) := Sl.more h.hl (fun k hk => by
    rcases List.mem_append.1 hk with hk | hk
    · exact .inl hk
    · exact .inr (hY k hk))
  exact (h2.mono (he.weaken (fun k hk => List.mem_append_right _ hk))).less (fun k hk => List.mem_append_left _ hk)

/-- the state behind a step that turns the tree -/
theorem St.next {l : List Int} {pl : Option Addr} {cl bL bT bF base : Nat} {w w' : World} {v v' : Value} {t t' : List N4} (h : St l pl cl bL bT bF base w v t) (he : Ext (XT bT v) w w')
    (hT' : Blk w' bT [v'] 58) (own' : w'.ownsRow base 82 4 v' t'.length (encN t')) (hv : ∀ k, v'.ownBlock = some k → v.ownBlock = some k ∨ w.heap.size ≤ k) : St l pl cl bL bT bF base w' v' t' := by
  have hnot : ∀ b, b < w.heap.size → b ∉ XT bT v → b ∉ XT bT v' := fun b hb hn hm => by
    rw [mem_XT] at hn hm
    rcases hm with hm | hm
    · exact hn (.inl hm)
    · rcases hv b hm with h1 | h1
      · exact hn (.inr h1)
      · omega
  refine ⟨hT', own', fun k hk e => ?_, he.cell h.cL h.nL, hnot _ (World.block_lt_of_cell? _ _ h.cL) h.nL, he.cell h.cF h.nF, hnot _ (World.block_lt_of_cell? _ _ h.cF) h.nF, Sl.carry h.hl he (fun k hk => ?_), Nat.le_trans h.hb he.size⟩
  · have hlt := h.hT.lt
    rcases hv k hk with h1 | h1
    · exact h.ne k h1 e
    · omega
  · rw [mem_XT] at hk
    rcases hk with hk | hk
    · exact .inl (mem_XT.2 (.inl hk))
    · rcases hv k hk with h1 | h1
      · exact .inl (mem_XT.2 (.inr h1))
      · exact .inr h1
end Go.Proofs.Ytefkpnhhmjdcnaa

/- fiducialref01: magnitudes: group, made, plus, minus, scaled, shifted, size -/
import Derived.Test.YtllaoaobnnondaaGreatRZiai
import Derived.Test.YtllaoaobnnondaaGreatRZiaf
import Derived.Test.YtllaoaobnnondaaGreatRZiah
set_option linter.unusedSimpArgs false
set_option linter.unusedVariables false
namespace Go.Proofs.YtllaoaobnnondaaGreatR
open Go Go.Fx
section
variable {P : Program} {n : Nat} {G : Env}
theorem Const_slice0n {C : World → Prop} {ty t e : TypeId} {sz : Nat} {x y : Operand} {k : IntKind} {i : Int} {q : Option Addr} [ht : SliceTy P t e sz] (hx : ev G x = some (.slice q 0 0)) (hy : ev G y = some (.int k i)) (hi : i = 0) :
    Const P n G (.slice t x none (some y) none) ty C (.slice q 0 0) := by
  subst hi
  refine ⟨?_⟩
  intro st ha dst pos after guard w _
  cases q with
  | none => simp [execOp, Instr.sliceAt, Instr.slice, ha.ev hx, run_und ht.und, Fx.run_sizeOf ht.size, Instr.sliceBounds, Instr.sliceBound, asIntOf, ha.ev hy]
  | some ad => simp [execOp, Instr.sliceAt, Instr.slice, ha.ev hx, run_und ht.und, Fx.run_sizeOf ht.size, Instr.sliceBounds, Instr.sliceBound, asIntOf, ha.ev hy, Addr.add]
end
section
variable {X : List Nat} {w0 : World} {M0 : List Ent} {I0 : List Imm}
theorem group_ok {q : Option Addr} {l : List Int} {n c : Nat} {i : Int} (hn : n = l.length) (hi : 0 ≤ i) (hl : slI q (recs eG l) ∈ I0) (hd : Dig l) :
    CD Tryz.prog 232 [.slice q n c, .int .i64 i] X w0 M0 I0 (fun v M I => M0 = M ∧ I0 = I ∧ v = .int .u64 (gt l i)) := by
  subst hn
  have d := hd.gt i
  refine enterD Tryz.func232 rfl Tryz.ntmps232 rfl ?_
  repeat' (first | refine wXj ?_ | (refine TD_isCo ?_; first | refine TD_dec rfl (fun h => ?_) (fun h => ?_) | refine TD_cond rfl (fun h => ?_) (fun h => ?_)) | (refine RD_isGu ?_; first | refine RD_grd rfl rfl (fun h => ?_) (fun h => ?_) | (fail_if_success (refine RD_isW rfl ?_); refine RD_grdB rfl rfl (fun h => ?_) (fun h => ?_))))
  · refine ND_ret1 (by first | exact .inl rfl | exact .inr rfl) rfl rfl _ _ subP incL (⟨rfl, rfl, rfl⟩)
  · refine ND_ret1 (by first | exact .inl rfl | exact .inr rfl) rfl rfl _ _ subP incL (⟨rfl, rfl, by rw [gt_out0 (by omega)]⟩)
/-- the integer with a sign and groups -/
theorem rmade_raw {p : Prop} [Decidable p] {q : Option Addr} {l : List Int} {n c : Nat} (h63 : l.length ≤ 1000000000000) (hc : l.length ≤ c) (hok : Ok q ∨ (l.length = 0 ∧ c = 0)) (hd : Dig l) (hv : val l = n) (hl : slI q (recs eG l) ∈ I0) :
    CD Tryz.prog 184 [.bool (B p), .slice q l.length c] X w0 M0 I0 (fun v M I => M0 = M ∧ ∃ q' c', v = .agg #[.bool (B (p ∧ n ≠ 0)), .slice q' (gr n).length c'] ∧ OkC q' n c' ∧ I = slI q' (recs eG (gr n)) :: I0) := by
  have hg : trimL l = gr n := trim_gr' hd hv
  refine enterD Tryz.func184 rfl Tryz.ntmps184 rfl ?_
  refine TD_seq ?_
  refine TD_region ?_
  (refine RD_alloc rfl rfl ?_; intro b; refine ⟨okJ, ?_⟩)
  repeat (refine wXj ?_)
  refine TD_loop [0, 1, 4] rfl (fun k G M I => ∃ m : Nat, m ≤ l.length ∧ k = m ∧ trimL (l.take m) = trimL l ∧ ∃ x : Int, x = m ∧ G = [(5, .int .i64 x)] ∧ M = .blk b [.bool false, .slice none 0 0] 24 :: M0 ∧ I0 = I) (l.length) _ _ _ subG subP incL (⟨l.length, by omega, rfl, by rw [List.take_length], _, rfl, rfl, rfl, rfl⟩) ?_
  rintro k G M I ⟨m, hm, rfl, ht, x, hx, rfl, rfl, rfl⟩
  have hend : trimL l = l.take k → (n ≠ 0 ↔ 0 < k) ∧ (gr n).length = k := fun e => by
    have hl1 : (gr n).length = k := by rw [← hg, e, List.length_take]; omega
    refine ⟨⟨fun h => ?_, fun h h0 => ?_⟩, hl1⟩
    · rw [← hl1]; exact List.length_pos_iff.2 (fun e => h (gr_nil.1 e))
    · rw [h0, gr_zero] at hl1; simp at hl1; omega
  have hstep : ∀ j : Nat, j < l.length → l.take (j + 1) = l.take j ++ [gt l (j : Int)] := fun j hj => by rw [List.take_succ_eq_append_getElem hj, gt_get hj]
  repeat' (first | refine wXj ?_ | (refine TD_isCo ?_; first | refine TD_dec rfl (fun h => ?_) (fun h => ?_) | refine TD_cond rfl (fun h => ?_) (fun h => ?_)) | (refine RD_isGu ?_; first | refine RD_grd rfl rfl (fun h => ?_) (fun h => ?_) | (fail_if_success (refine RD_isW rfl ?_); refine RD_grdB rfl rfl (fun h => ?_) (fun h => ?_))))
  · have h1 := h
    refine ND_again (k - 1) _ _ _ (by first | omega | (simp only [List.length_append, List.length_cons, List.length_nil]; omega)) subG subP incL (⟨k - 1, by omega, rfl, ?_, _, by omega, rfl, rfl, rfl⟩)
    rw [← ht]
    obtain ⟨j, rfl⟩ : ∃ j, k = j + 1 := ⟨k - 1, by omega⟩
    have e : ((j + 1 : Nat) : Int) - 1 = j := by omega
    rw [hx, e] at h1
    rw [hstep j (by omega), h1, trim_snoc0]
    rfl
  all_goals
    have htk : trimL l = l.take k := by
      rw [← ht]
      refine trim_fix ?_
      rcases Nat.eq_zero_or_pos k with h0 | h0
      · subst h0; simp [Top]
      · obtain ⟨j, rfl⟩ : ∃ j, k = j + 1 := ⟨k - 1, by omega⟩
        have e : ((j + 1 : Nat) : Int) - 1 = j := by omega
        rw [hstep j (by omega), Top.snoc]
        first
          | (rw [← e, ← hx]; assumption)
          | (exfalso; omega)
    obtain ⟨hnz, hlk⟩ := hend htk
    have hgk : gr n = l.take k := by rw [← hg, htk]
  all_goals
    have hsl : slI q (recs eG (gr n)) ∈ slI q (recs eG (gr n)) :: I0 := List.Mem.head _
    refine RD_m (M' := .blk b [.bool false, .slice none 0 0] 24 :: M0) (I' := slI q (recs eG (gr n)) :: I0) (fun w hw => hw.takeI (cs := recs eG (gr n)) (tl := recs eG (l.drop k)) (by rw [hgk, ← recs_append, List.take_append_drop]; exact hl)) ?_
    subst hx
    (refine RD_vals (cs := recs eG []) ([]) rfl rfl (by intro v hv; repeat (first | exact absurd hv (List.not_mem_nil) | (rcases List.mem_cons.1 hv with rfl | hv; · rfl))) (by omega) rfl rfl rfl ?_; intro b1; refine ⟨okJ, ?_⟩)
    repeat (refine wXj ?_)
    have hbool : ∀ y : Bool, (y = true ↔ (p ∧ n ≠ 0)) → Value.bool y = .bool (B (p ∧ n ≠ 0)) := fun y hy => by
      refine congrArg Value.bool ?_
      by_cases hp : p ∧ n ≠ 0
      · rw [B_true hp]; exact hy.2 hp
      · rw [B_false hp]; cases y with
        | false => rfl
        | true => exact absurd (hy.1 rfl) hp
    rcases hok with hok | ⟨hl0, hc0⟩
    · obtain ⟨b9, o9, rfl⟩ := hok.cases
      refine RD_c rfl (fun _ => Const_slice0 k rfl rfl rfl (by omega)) rfl rfl ?_
      refine RD_toRow (b := b1) (mm := 0) 1 repE rfl (by omega) ?_
      refine RD_appR (xs := []) (ys := gr n) 0 rfl rfl rfl (Src.imm (List.Mem.head _) (.inl (Ok.mk _ _))) (by decide) hlk (by simp <;> omega) (by simp <;> omega) rfl rfl ?_
      intro a2 c2
      refine ⟨okJ, ?_⟩
      rw [List.nil_append]
      refine RD_fact (fun w hw => And.intro (hw.rowLe (List.Mem.head _)) ((hw.rowS (List.Mem.head _)).2.imp id And.right)) (fun ho3 => ?_)
      refine RD_freezeR remE ?_
      refine RD_c rfl (fun _ => Const_struct (pvs := [(0, _), (1, _)]) (cells := [_, .slice a2 (gr n).length c2]) rfl rfl) rfl rfl ?_
      repeat (refine wXj ?_)
      refine ND_retC (cs := [_, .slice a2 (gr n).length c2]) (.inl rfl) rfl rfl memL rfl M0 (slI a2 (recs eG (gr n)) :: I0) subP incL ⟨rfl, a2, c2, ?_, ho3, rfl⟩
      first
        | exact congrArg (fun x => Value.agg #[x, .slice a2 (gr n).length c2]) (hbool (B ((0 : Int) < ((k : Nat) : Int))) (by rw [B_eq, decide_eq_true_iff]; exact ⟨fun h => ⟨by assumption, hnz.2 (by omega)⟩, fun h => by have := hnz.1 h.2; omega⟩))
        | exact congrArg (fun x => Value.agg #[x, .slice a2 (gr n).length c2]) (hbool false ⟨fun h => (by cases h), fun h => absurd h.1 (by assumption)⟩)
    · subst hc0
      obtain rfl : k = 0 := by omega
      have hn0 : gr n = [] := by rw [hgk]; rfl
      obtain rfl : l = [] := List.eq_nil_of_length_eq_zero hl0
      refine RD_c rfl (fun _ => Const_slice0n rfl rfl rfl) rfl rfl ?_
      refine RD_toRow (b := b1) (mm := 0) 1 repE rfl (by omega) ?_
      refine RD_appR (xs := []) (ys := gr n) 0 rfl rfl rfl (Src.imm (List.Mem.head _) (.inr ⟨rfl, rfl⟩)) (by decide) hlk (by simp <;> omega) (by simp <;> omega) rfl rfl ?_
      intro a2 c2
      refine ⟨okJ, ?_⟩
      rw [List.nil_append]
      refine RD_fact (fun w hw => And.intro (hw.rowLe (List.Mem.head _)) ((hw.rowS (List.Mem.head _)).2.imp id And.right)) (fun ho3 => ?_)
      refine RD_freezeR remE ?_
      refine RD_c rfl (fun _ => Const_struct (pvs := [(0, _), (1, _)]) (cells := [_, .slice a2 (gr n).length c2]) rfl rfl) rfl rfl ?_
      repeat (refine wXj ?_)
      refine ND_retC (cs := [_, .slice a2 (gr n).length c2]) (.inl rfl) rfl rfl memL rfl M0 (slI a2 (recs eG (gr n)) :: I0) subP incL ⟨rfl, a2, c2, ?_, ho3, rfl⟩
      first
        | exact congrArg (fun x => Value.agg #[x, .slice a2 (gr n).length c2]) (hbool (B ((0 : Int) < ((0 : Nat) : Int))) (by rw [B_eq, decide_eq_true_iff]; exact ⟨fun h => ⟨by assumption, hnz.2 (by omega)⟩, fun h => by have := hnz.1 h.2; omega⟩))
        | exact congrArg (fun x => Value.agg #[x, .slice a2 (gr n).length c2]) (hbool false ⟨fun h => (by cases h), fun h => absurd h.1 (by assumption)⟩)
end
end Go.Proofs.YtllaoaobnnondaaGreatR

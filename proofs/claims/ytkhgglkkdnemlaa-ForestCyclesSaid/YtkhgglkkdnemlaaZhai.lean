/- A premise that no search takes for another; looks alone. The walk, kept once. Functions of Go's slices package, at slices of ints and the like. The walk, kept once. Forest: graphs in memory, Check of both. Plain: numbers of components. -/
import Derived.Test.YtkhgglkkdnemlaaZhaf
import Derived.Test.YtkhgglkkdnemlaaZhah
import Derived.Test.YtkhgglkkdnemlaaZhag
set_option linter.unusedSimpArgs false
set_option linter.unusedVariables false
namespace Go.Fx
structure BoxP (g : Prop) : Prop where
  out : g
section
variable {P : Program} {n : Nat} {Q : Exit → Act → World → Prop} {G : Env} {X : List Nat} {w0 : World} {M : List Ent} {I : List Imm} {ops l : List Oper} {m : Mode} {c : Code} {e : Exit}
end
end Go.Fx
namespace Go.Fx
theorem wXn {p g : Prop} (h : g) (w : BoxP g → p := by (intro hh; (first | refine TD_seq ?_ | refine TD_region ?_ | refine TD_ret ?_ | refine TD_skip ?_ | refine TD_label ?_ | refine TD_block ?_ | refine TD_exit ?_ | refine ND_then ?_ | refine ND_thenR ?_ | refine ND_thenE ?_ | refine ND_inN ?_ | refine ND_inR ?_ | refine ND_inE ?_ | refine ND_inO rfl ?_ | refine RD_nil ?_ | (refine RD_isGu ?_; first | refine RD_skip rfl rfl rfl ?_ | (refine RD_isEf rfl rfl ?_; refine RD_skipE rfl rfl rfl okD ?_) | refine RD_grdY rfl rfl (by omega) ?_ | refine RD_grdN rfl rfl (by omega) ?_) | (refine RD_isUn ?_; refine RD_c rfl (fun _ => Const_notB rfl) rfl rfl ?_) | refine RD_c rfl (fun _ => Const_pure rfl) rfl rfl ?_ | (refine RD_isBi ?_; first | refine RD_c rfl (fun _ => Const_add rfl rfl w_) rfl rfl ?_ | refine RD_c rfl (fun _ => Const_sub rfl rfl w_) rfl rfl ?_ | refine RD_c rfl (fun _ => Const_mul rfl rfl w_) rfl rfl ?_ | refine RD_c rfl (fun _ => Const_quo rfl rfl (by omega) q_) rfl rfl ?_ | refine RD_c rfl (fun _ => Const_rem rfl rfl (by omega) rfl) rfl rfl ?_ | refine RD_c rfl (fun _ => Const_half rfl rfl) rfl rfl ?_) | (refine RD_isUn ?_; first | refine RD_c rfl (fun _ => Const_neg rfl w_) rfl rfl ?_) | (refine RD_isCv ?_; first | refine RD_c rfl (fun _ => Const_conv rfl w_) rfl rfl ?_) | (refine RD_isCa ?_; first | refine RD_c rfl (fun _ => Const_len rfl) rfl rfl ?_ | refine RD_c rfl (fun _ => Const_minM rfl rfl) rfl rfl ?_ | refine RD_c rfl (fun _ => Const_maxM rfl rfl) rfl rfl ?_ | refine RD_c rfl (fun _ => Const_min3 rfl rfl rfl) rfl rfl ?_) | (refine RD_isFa ?_; first | refine RD_fldP rfl (by decide) rfl rfl ?_ | refine RD_fld rfl (by decide) rfl rfl ?_) | (refine RD_isIx ?_; first | refine RD_ixB rfl rfl bdI rfl rfl ?_ | refine RD_ixI vwX rfl rfl bdI memL posC rfl rfl ?_ | refine RD_ixR vwX rfl rfl bdI memL posC rfl rfl ?_ | refine RD_c rfl (fun _ => Const_indexA rfl rfl bdI) rfl rfl ?_) | (refine RD_isLd ?_; first | refine RD_ldI vwX rfl memL atC rfl rfl ?_ | refine RD_ldR vwX rfl memL atC rfl rfl ?_ | refine RD_ldB vwX rfl memL atC rfl rfl ?_ | refine RD_ldIB vwX rfl memL atC rfl rfl ?_ | refine RD_ldNI vwX rfl memL atsC lenC rfl rfl ?_ | refine RD_ldNR vwX rfl memL atsC lenC rfl rfl ?_ | refine RD_ldNB vwX rfl memL atsC lenC rfl rfl ?_ | refine RD_ldNIB vwX rfl memL atsC lenC rfl rfl ?_) | (refine RD_isFd ?_; first | refine RD_c rfl (fun _ => Const_field1 rfl rfl) rfl rfl ?_ | refine RD_c rfl (fun _ => Const_fieldN rfl) rfl rfl ?_) | (refine RD_isSt ?_; first | refine RD_st rfl rfl rfl repE stC rfl rfl ⟨okD, ?_⟩ | refine RD_stN rfl rfl lenC oneC repE stsC rfl rfl ⟨okD, ?_⟩) | (refine TD_isCo ?_; first | refine TD_cond_true rfl ?_ | refine TD_cond_false rfl ?_ | refine TD_yes rfl (by omega) ?_ | refine TD_no rfl (by omega) ?_)); (repeat (first | refine TD_seq ?_ | refine TD_region ?_ | refine TD_ret ?_ | refine TD_skip ?_ | refine TD_label ?_ | refine TD_block ?_ | refine TD_exit ?_ | refine ND_then ?_ | refine ND_thenR ?_ | refine ND_thenE ?_ | refine ND_inN ?_ | refine ND_inR ?_ | refine ND_inE ?_ | refine ND_inO rfl ?_ | refine RD_nil ?_ | (refine RD_isGu ?_; first | refine RD_skip rfl rfl rfl ?_ | (refine RD_isEf rfl rfl ?_; refine RD_skipE rfl rfl rfl okD ?_) | refine RD_grdY rfl rfl (by omega) ?_ | refine RD_grdN rfl rfl (by omega) ?_) | (refine RD_isUn ?_; refine RD_c rfl (fun _ => Const_notB rfl) rfl rfl ?_) | refine RD_c rfl (fun _ => Const_pure rfl) rfl rfl ?_ | (refine RD_isBi ?_; first | refine RD_c rfl (fun _ => Const_add rfl rfl w_) rfl rfl ?_ | refine RD_c rfl (fun _ => Const_sub rfl rfl w_) rfl rfl ?_ | refine RD_c rfl (fun _ => Const_mul rfl rfl w_) rfl rfl ?_ | refine RD_c rfl (fun _ => Const_quo rfl rfl (by omega) q_) rfl rfl ?_ | refine RD_c rfl (fun _ => Const_rem rfl rfl (by omega) rfl) rfl rfl ?_ | refine RD_c rfl (fun _ => Const_half rfl rfl) rfl rfl ?_) | (refine RD_isUn ?_; first | refine RD_c rfl (fun _ => Const_neg rfl w_) rfl rfl ?_) | (refine RD_isCv ?_; first | refine RD_c rfl (fun _ => Const_conv rfl w_) rfl rfl ?_) | (refine RD_isCa ?_; first | refine RD_c rfl (fun _ => Const_len rfl) rfl rfl ?_ | refine RD_c rfl (fun _ => Const_minM rfl rfl) rfl rfl ?_ | refine RD_c rfl (fun _ => Const_maxM rfl rfl) rfl rfl ?_ | refine RD_c rfl (fun _ => Const_min3 rfl rfl rfl) rfl rfl ?_) | (refine RD_isFa ?_; first | refine RD_fldP rfl (by decide) rfl rfl ?_ | refine RD_fld rfl (by decide) rfl rfl ?_) | (refine RD_isIx ?_; first | refine RD_ixB rfl rfl bdI rfl rfl ?_ | refine RD_ixI vwX rfl rfl bdI memL posC rfl rfl ?_ | refine RD_ixR vwX rfl rfl bdI memL posC rfl rfl ?_ | refine RD_c rfl (fun _ => Const_indexA rfl rfl bdI) rfl rfl ?_) | (refine RD_isLd ?_; first | refine RD_ldI vwX rfl memL atC rfl rfl ?_ | refine RD_ldR vwX rfl memL atC rfl rfl ?_ | refine RD_ldB vwX rfl memL atC rfl rfl ?_ | refine RD_ldIB vwX rfl memL atC rfl rfl ?_ | refine RD_ldNI vwX rfl memL atsC lenC rfl rfl ?_ | refine RD_ldNR vwX rfl memL atsC lenC rfl rfl ?_ | refine RD_ldNB vwX rfl memL atsC lenC rfl rfl ?_ | refine RD_ldNIB vwX rfl memL atsC lenC rfl rfl ?_) | (refine RD_isFd ?_; first | refine RD_c rfl (fun _ => Const_field1 rfl rfl) rfl rfl ?_ | refine RD_c rfl (fun _ => Const_fieldN rfl) rfl rfl ?_) | (refine RD_isSt ?_; first | refine RD_st rfl rfl rfl repE stC rfl rfl ⟨okD, ?_⟩ | refine RD_stN rfl rfl lenC oneC repE stsC rfl rfl ⟨okD, ?_⟩) | (refine TD_isCo ?_; first | refine TD_cond_true rfl ?_ | refine TD_cond_false rfl ?_ | refine TD_yes rfl (by omega) ?_ | refine TD_no rfl (by omega) ?_))); exact hh.out)) : p := w ⟨h⟩
end Go.Fx
namespace Go.Proofs.Ytkhgglkkdnemlaa
open Go Go.Fx

theorem list_eq_of_gt {α : Type} [Inhabited α] {a b : List α} (hl : a.length = b.length) (h : ∀ j : Nat, j < a.length → gt a j = gt b j) : a = b := by
  apply List.ext_getElem hl
  intro j h1 h2
  have := h j h1
  rwa [gt_get h1, gt_get h2] at this

section
variable {X : List Nat} {w0 : World} {M0 : List Ent} {I0 : List Imm}

theorem EqI_ok {p q : Option Addr} {a b : List Int} {c c' : Nat} (hn : (a.length : Int) ≤ 9223372036854775807) (ha : slI p (recs (eI .i64) a) ∈ I0) (hb : slI q (recs (eI .i64) b) ∈ I0) :
    CD Try.prog 16 [.slice p a.length c, .slice q b.length c'] X w0 M0 I0 (fun v M I => M0 = M ∧ I0 = I ∧ v = .bool (B (a = b))) := by
  refine enterD Try.func16 rfl Try.ntmps16 rfl ?_
  repeat' (first | refine wXn ?_ | (refine TD_isCo ?_; first | refine TD_dec rfl (fun h => ?_) (fun h => ?_) | refine TD_cond rfl (fun h => ?_) (fun h => ?_)) | (refine RD_isGu ?_; first | refine RD_grd rfl rfl (fun h => ?_) (fun h => ?_) | (fail_if_success (refine RD_isW rfl ?_); refine RD_grdB rfl rfl (fun h => ?_) (fun h => ?_))))
  · refine ND_ret1 (by first | exact .inl rfl | exact .inr rfl) rfl rfl _ _ subP incL (⟨rfl, rfl, congrArg Value.bool (B_false (fun h => by subst h; omega)).symm⟩)
  refine TD_loop [0, 1, 12] rfl (fun k G M I => ∃ i : Nat, i ≤ a.length ∧ k = a.length - i ∧ (∀ j : Nat, j < i → gt a j = gt b j) ∧ G = [(13, .int .i64 i)] ∧ M = M0 ∧ I = I0) (a.length) _ _ _ subG subP incL (⟨0, by omega, rfl, fun j hj => by omega, rfl, rfl, rfl⟩) ?_
  rintro k G M I ⟨i, hi, rfl, hs, rfl, rfl, rfl⟩
  repeat' (first | refine wXn ?_ | (refine TD_isCo ?_; first | refine TD_dec rfl (fun h => ?_) (fun h => ?_) | refine TD_cond rfl (fun h => ?_) (fun h => ?_)) | (refine RD_isGu ?_; first | refine RD_grd rfl rfl (fun h => ?_) (fun h => ?_) | (fail_if_success (refine RD_isW rfl ?_); refine RD_grdB rfl rfl (fun h => ?_) (fun h => ?_))))
  · (repeat refine TD_seq ?_); refine TD_drawn [0, 1, 2, 3, 4, 5, 6, 7, 8] [0, 0, 0, 0, 0, 0, 0, 0, 0] mixed (by kernel_rfl) ?_
    repeat' (first | refine wXn ?_ | (refine TD_isCo ?_; first | refine TD_dec rfl (fun h => ?_) (fun h => ?_) | refine TD_cond rfl (fun h => ?_) (fun h => ?_)) | (refine RD_isGu ?_; first | refine RD_grd rfl rfl (fun h => ?_) (fun h => ?_) | (fail_if_success (refine RD_isW rfl ?_); refine RD_grdB rfl rfl (fun h => ?_) (fun h => ?_))))
    · refine ND_ret1 (by first | exact .inl rfl | exact .inr rfl) rfl rfl _ _ subP incL (⟨rfl, rfl, congrArg Value.bool (B_false (fun h => by subst h; contradiction)).symm⟩)
    · refine ND_again (a.length - (i + 1)) _ _ _ (by first | omega | (simp only [List.length_append, List.length_cons, List.length_nil]; omega)) subG subP incL (⟨i + 1, by omega, rfl, fun j hj => ?_, rfl, rfl, rfl⟩)
      by_cases e : j = i
      · subst e; omega
      · exact hs j (by omega)
  · refine ND_ret1 (by first | exact .inl rfl | exact .inr rfl) rfl rfl _ _ subP incL (⟨rfl, rfl, congrArg Value.bool (B_true (list_eq_of_gt (by omega) (fun j hj => hs j (by omega)))).symm⟩)

theorem idxI_ok {p : Option Addr} {a : List Int} {c : Nat} {g : FuncId} [FnOk Try.prog g] {fs cs : Array Value} (pr : Int → Prop) [DecidablePred pr] (hn : (a.length : Int) ≤ 9223372036854775807) (ha : slI p (recs (eI .i64) a) ∈ I0)
    (hg : ∀ i : Nat, i < a.length → CD Try.prog g (fs.toList ++ [.int .i64 (gt a i)] ++ cs.toList) X w0 M0 I0 (fun v M I => M0 = M ∧ I0 = I ∧ v = .bool (B (pr (gt a i))))) :
    CD Try.prog 61 [.slice p a.length c, .func (.func g) fs cs] X w0 M0 I0 (fun v M I => M0 = M ∧ I0 = I ∧ ∃ r : Int, v = .int .i64 r ∧ ((∃ i : Nat, i < a.length ∧ r = i ∧ pr (gt a i) ∧ ∀ j : Nat, j < i → ¬ pr (gt a j)) ∨ (r = -1 ∧ ∀ j : Nat, j < a.length → ¬ pr (gt a j)))) := by
  refine enterD Try.func61 rfl Try.ntmps61 rfl ?_
  repeat (refine wXn ?_)
  refine TD_loop [0, 1, 7] rfl (fun k G M I => ∃ i : Nat, i ≤ a.length ∧ k = a.length - i ∧ (∀ j : Nat, j < i → ¬ pr (gt a j)) ∧ G = [(8, .int .i64 i)] ∧ M = M0 ∧ I = I0) (a.length) _ _ _ subG subP incL (⟨0, by omega, rfl, fun j hj => by omega, rfl, rfl, rfl⟩) ?_
  rintro k G M I ⟨i, hi, rfl, hs, rfl, rfl, rfl⟩
  repeat' (first | refine wXn ?_ | (refine TD_isCo ?_; first | refine TD_dec rfl (fun h => ?_) (fun h => ?_) | refine TD_cond rfl (fun h => ?_) (fun h => ?_)) | (refine RD_isGu ?_; first | refine RD_grd rfl rfl (fun h => ?_) (fun h => ?_) | (fail_if_success (refine RD_isW rfl ?_); refine RD_grdB rfl rfl (fun h => ?_) (fun h => ?_))))
  · have hlt : i < a.length := by omega
    (refine RD_callV rfl rfl (hg i hlt) rfl rfl rfl ?_; rintro _ _ _ ⟨rfl, rfl, rfl⟩; refine ⟨okD, ?_⟩)
    repeat' (first | refine wXn ?_ | (refine TD_isCo ?_; first | refine TD_dec rfl (fun h => ?_) (fun h => ?_) | refine TD_cond rfl (fun h => ?_) (fun h => ?_)) | (refine RD_isGu ?_; first | refine RD_grd rfl rfl (fun h => ?_) (fun h => ?_) | (fail_if_success (refine RD_isW rfl ?_); refine RD_grdB rfl rfl (fun h => ?_) (fun h => ?_))))
    · refine ND_ret1 (by first | exact .inl rfl | exact .inr rfl) rfl rfl _ _ subP incL (⟨rfl, rfl, _, rfl, .inl ⟨i, hlt, rfl, by assumption, hs⟩⟩)
    · refine ND_again (a.length - (i + 1)) _ _ _ (by first | omega | (simp only [List.length_append, List.length_cons, List.length_nil]; omega)) subG subP incL (⟨i + 1, by omega, rfl, fun j hj => ?_, rfl, rfl, rfl⟩)
      by_cases e : j = i
      · subst e; assumption
      · exact hs j (by omega)
  · refine ND_ret1 (by first | exact .inl rfl | exact .inr rfl) rfl rfl _ _ subP incL (⟨rfl, rfl, _, rfl, .inr ⟨rfl, fun j hj => hs j (by omega)⟩⟩)
theorem hasI_ok {p : Option Addr} {a : List Int} {c : Nat} {g : FuncId} [FnOk Try.prog g] {fs cs : Array Value} (pr : Int → Prop) [DecidablePred pr] (hn : (a.length : Int) ≤ 9223372036854775807) (ha : slI p (recs (eI .i64) a) ∈ I0)
    (hg : ∀ i : Nat, i < a.length → CD Try.prog g (fs.toList ++ [.int .i64 (gt a i)] ++ cs.toList) X w0 M0 I0 (fun v M I => M0 = M ∧ I0 = I ∧ v = .bool (B (pr (gt a i))))) :
    CD Try.prog 32 [.slice p a.length c, .func (.func g) fs cs] X w0 M0 I0 (fun v M I => M0 = M ∧ I0 = I ∧ v = .bool (B (∃ x ∈ a, pr x))) := by
  refine enterD Try.func32 rfl Try.ntmps32 rfl ?_
  repeat (refine wXn ?_)
  (refine RD_call rfl (idxI_ok pr hn ha hg) rfl rfl ?_; rintro _ _ _ ⟨rfl, rfl, r, rfl, h⟩; refine ⟨okD, ?_⟩)
  repeat (refine wXn ?_)
  refine ND_ret1 (by first | exact .inl rfl | exact .inr rfl) rfl rfl _ _ subP incL (⟨rfl, rfl, congrArg Value.bool (B_congr ?_)⟩)
  rcases h with ⟨i, hi, rfl, hp, _⟩ | ⟨rfl, h⟩
  · exact ⟨fun _ => ⟨gt a i, by rw [gt_get hi]; exact List.getElem_mem hi, hp⟩, fun _ => by omega⟩
  · refine ⟨fun h => by omega, ?_⟩
    rintro ⟨x, hx, hp⟩
    obtain ⟨j, hj, rfl⟩ := List.mem_iff_getElem.1 hx
    exact absurd (by rw [gt_get hj]; exact hp) (h j hj)
end
end Go.Proofs.Ytkhgglkkdnemlaa
namespace Go.Fx
theorem wXh {p g : Prop} (h : g) (w : BoxP g → p := by (intro hh; (first | refine TD_seq ?_ | refine TD_region ?_ | refine TD_ret ?_ | refine TD_skip ?_ | refine TD_label ?_ | refine TD_block ?_ | refine TD_exit ?_ | refine ND_then ?_ | refine ND_thenR ?_ | refine ND_thenE ?_ | refine ND_inN ?_ | refine ND_inR ?_ | refine ND_inE ?_ | refine ND_inO rfl ?_ | refine RD_nil ?_ | (refine RD_isGu ?_; first | refine RD_skip rfl rfl rfl ?_ | (refine RD_isEf rfl rfl ?_; refine RD_skipE rfl rfl rfl okF ?_) | refine RD_grdY rfl rfl (by omega) ?_ | refine RD_grdN rfl rfl (by omega) ?_) | (refine RD_isUn ?_; refine RD_c rfl (fun _ => Const_notB rfl) rfl rfl ?_) | refine RD_c rfl (fun _ => Const_pure rfl) rfl rfl ?_ | (refine RD_isBi ?_; first | refine RD_c rfl (fun _ => Const_add rfl rfl wF) rfl rfl ?_ | refine RD_c rfl (fun _ => Const_sub rfl rfl wF) rfl rfl ?_ | refine RD_c rfl (fun _ => Const_mul rfl rfl wF) rfl rfl ?_ | refine RD_c rfl (fun _ => Const_quo rfl rfl (by omega) qF) rfl rfl ?_ | refine RD_c rfl (fun _ => Const_rem rfl rfl (by omega) rfl) rfl rfl ?_ | refine RD_c rfl (fun _ => Const_half rfl rfl) rfl rfl ?_ | refine RD_c rfl (fun _ => Const_eqBB rfl rfl) rfl rfl ?_ | refine RD_c rfl (fun _ => Const_neBB rfl rfl) rfl rfl ?_ | refine RD_c rfl (fun _ => Const_eqB rfl rfl) rfl rfl ?_ | refine RD_c rfl (fun _ => Const_neB rfl rfl) rfl rfl ?_) | (refine RD_isUn ?_; first | refine RD_c rfl (fun _ => Const_neg rfl wF) rfl rfl ?_) | (refine RD_isCv ?_; first | refine RD_c rfl (fun _ => Const_conv rfl wF) rfl rfl ?_) | (refine RD_isCa ?_; first | refine RD_c rfl (fun _ => Const_len rfl) rfl rfl ?_ | refine RD_c rfl (fun _ => Const_minM rfl rfl) rfl rfl ?_ | refine RD_c rfl (fun _ => Const_maxM rfl rfl) rfl rfl ?_ | refine RD_c rfl (fun _ => Const_min3 rfl rfl rfl) rfl rfl ?_) | (refine RD_isFa ?_; first | refine RD_fldP rfl (by decide) rfl rfl ?_ | refine RD_fld rfl (by decide) rfl rfl ?_) | (refine RD_isIx ?_; first | refine RD_ixB rfl rfl bdI rfl rfl ?_ | refine RD_ixI vwF rfl rfl bdI memF posC rfl rfl ?_ | refine RD_ixR vwF rfl rfl bdI memF posC rfl rfl ?_ | refine RD_c rfl (fun _ => Const_indexA rfl rfl bdI) rfl rfl ?_) | (refine RD_isLd ?_; first | (apply RD_ldZB; exact vwF; exact rfl; (focus ((repeat (first | with_reducible exact List.mem_cons_self | with_reducible assumption | with_reducible refine List.mem_cons_of_mem _ ?_)); done)); exact atY; exact rfl; exact rfl) | (apply RD_ldZIB; exact vwF; exact rfl; (focus ((repeat (first | with_reducible exact List.mem_cons_self | with_reducible assumption | with_reducible refine List.mem_cons_of_mem _ ?_)); done)); exact atY; exact rfl; exact rfl) | (apply RD_ldZI; exact vwF; exact rfl; (focus ((repeat (first | with_reducible exact List.mem_cons_self | with_reducible assumption | with_reducible refine List.mem_cons_of_mem _ ?_)); done)); exact atY; exact rfl; exact rfl) | (apply RD_ldZR; exact vwF; exact rfl; (focus ((repeat (first | with_reducible exact List.mem_cons_self | with_reducible assumption | with_reducible refine List.mem_cons_of_mem _ ?_)); done)); exact atY; exact rfl; exact rfl) | (apply RD_ldB; exact vwF; exact rfl; (focus ((repeat (first | with_reducible exact List.mem_cons_self | with_reducible assumption | with_reducible refine List.mem_cons_of_mem _ ?_)); done)); exact atF; exact rfl; exact rfl) | (apply RD_ldIB; exact vwF; exact rfl; (focus ((repeat (first | with_reducible exact List.mem_cons_self | with_reducible assumption | with_reducible refine List.mem_cons_of_mem _ ?_)); done)); exact atF; exact rfl; exact rfl) | (apply RD_ldI; exact vwF; exact rfl; (focus ((repeat (first | with_reducible exact List.mem_cons_self | with_reducible assumption | with_reducible refine List.mem_cons_of_mem _ ?_)); done)); exact atF; exact rfl; exact rfl) | (apply RD_ldR; exact vwF; exact rfl; (focus ((repeat (first | with_reducible exact List.mem_cons_self | with_reducible assumption | with_reducible refine List.mem_cons_of_mem _ ?_)); done)); exact atF; exact rfl; exact rfl)) | (refine RD_isFd ?_; first | refine RD_c rfl (fun _ => Const_field1 rfl rfl) rfl rfl ?_ | refine RD_c rfl (fun _ => Const_fieldN rfl) rfl rfl ?_) | (refine RD_isSt ?_; first | refine RD_st rfl rfl rfl repF stC rfl rfl ⟨okF, ?_⟩ | refine RD_stN rfl rfl lenC oneC repF stsC rfl rfl ⟨okF, ?_⟩) | (refine TD_isCo ?_; first | refine TD_cond_true rfl ?_ | refine TD_cond_false rfl ?_ | refine TD_yes rfl (by omega) ?_ | refine TD_no rfl (by omega) ?_)); (repeat (first | refine TD_seq ?_ | refine TD_region ?_ | refine TD_ret ?_ | refine TD_skip ?_ | refine TD_label ?_ | refine TD_block ?_ | refine TD_exit ?_ | refine ND_then ?_ | refine ND_thenR ?_ | refine ND_thenE ?_ | refine ND_inN ?_ | refine ND_inR ?_ | refine ND_inE ?_ | refine ND_inO rfl ?_ | refine RD_nil ?_ | (refine RD_isGu ?_; first | refine RD_skip rfl rfl rfl ?_ | (refine RD_isEf rfl rfl ?_; refine RD_skipE rfl rfl rfl okF ?_) | refine RD_grdY rfl rfl (by omega) ?_ | refine RD_grdN rfl rfl (by omega) ?_) | (refine RD_isUn ?_; refine RD_c rfl (fun _ => Const_notB rfl) rfl rfl ?_) | refine RD_c rfl (fun _ => Const_pure rfl) rfl rfl ?_ | (refine RD_isBi ?_; first | refine RD_c rfl (fun _ => Const_add rfl rfl wF) rfl rfl ?_ | refine RD_c rfl (fun _ => Const_sub rfl rfl wF) rfl rfl ?_ | refine RD_c rfl (fun _ => Const_mul rfl rfl wF) rfl rfl ?_ | refine RD_c rfl (fun _ => Const_quo rfl rfl (by omega) qF) rfl rfl ?_ | refine RD_c rfl (fun _ => Const_rem rfl rfl (by omega) rfl) rfl rfl ?_ | refine RD_c rfl (fun _ => Const_half rfl rfl) rfl rfl ?_ | refine RD_c rfl (fun _ => Const_eqBB rfl rfl) rfl rfl ?_ | refine RD_c rfl (fun _ => Const_neBB rfl rfl) rfl rfl ?_ | refine RD_c rfl (fun _ => Const_eqB rfl rfl) rfl rfl ?_ | refine RD_c rfl (fun _ => Const_neB rfl rfl) rfl rfl ?_) | (refine RD_isUn ?_; first | refine RD_c rfl (fun _ => Const_neg rfl wF) rfl rfl ?_) | (refine RD_isCv ?_; first | refine RD_c rfl (fun _ => Const_conv rfl wF) rfl rfl ?_) | (refine RD_isCa ?_; first | refine RD_c rfl (fun _ => Const_len rfl) rfl rfl ?_ | refine RD_c rfl (fun _ => Const_minM rfl rfl) rfl rfl ?_ | refine RD_c rfl (fun _ => Const_maxM rfl rfl) rfl rfl ?_ | refine RD_c rfl (fun _ => Const_min3 rfl rfl rfl) rfl rfl ?_) | (refine RD_isFa ?_; first | refine RD_fldP rfl (by decide) rfl rfl ?_ | refine RD_fld rfl (by decide) rfl rfl ?_) | (refine RD_isIx ?_; first | refine RD_ixB rfl rfl bdI rfl rfl ?_ | refine RD_ixI vwF rfl rfl bdI memF posC rfl rfl ?_ | refine RD_ixR vwF rfl rfl bdI memF posC rfl rfl ?_ | refine RD_c rfl (fun _ => Const_indexA rfl rfl bdI) rfl rfl ?_) | (refine RD_isLd ?_; first | (apply RD_ldZB; exact vwF; exact rfl; (focus ((repeat (first | with_reducible exact List.mem_cons_self | with_reducible assumption | with_reducible refine List.mem_cons_of_mem _ ?_)); done)); exact atY; exact rfl; exact rfl) | (apply RD_ldZIB; exact vwF; exact rfl; (focus ((repeat (first | with_reducible exact List.mem_cons_self | with_reducible assumption | with_reducible refine List.mem_cons_of_mem _ ?_)); done)); exact atY; exact rfl; exact rfl) | (apply RD_ldZI; exact vwF; exact rfl; (focus ((repeat (first | with_reducible exact List.mem_cons_self | with_reducible assumption | with_reducible refine List.mem_cons_of_mem _ ?_)); done)); exact atY; exact rfl; exact rfl) | (apply RD_ldZR; exact vwF; exact rfl; (focus ((repeat (first | with_reducible exact List.mem_cons_self | with_reducible assumption | with_reducible refine List.mem_cons_of_mem _ ?_)); done)); exact atY; exact rfl; exact rfl) | (apply RD_ldB; exact vwF; exact rfl; (focus ((repeat (first | with_reducible exact List.mem_cons_self | with_reducible assumption | with_reducible refine List.mem_cons_of_mem _ ?_)); done)); exact atF; exact rfl; exact rfl) | (apply RD_ldIB; exact vwF; exact rfl; (focus ((repeat (first | with_reducible exact List.mem_cons_self | with_reducible assumption | with_reducible refine List.mem_cons_of_mem _ ?_)); done)); exact atF; exact rfl; exact rfl) | (apply RD_ldI; exact vwF; exact rfl; (focus ((repeat (first | with_reducible exact List.mem_cons_self | with_reducible assumption | with_reducible refine List.mem_cons_of_mem _ ?_)); done)); exact atF; exact rfl; exact rfl) | (apply RD_ldR; exact vwF; exact rfl; (focus ((repeat (first | with_reducible exact List.mem_cons_self | with_reducible assumption | with_reducible refine List.mem_cons_of_mem _ ?_)); done)); exact atF; exact rfl; exact rfl)) | (refine RD_isFd ?_; first | refine RD_c rfl (fun _ => Const_field1 rfl rfl) rfl rfl ?_ | refine RD_c rfl (fun _ => Const_fieldN rfl) rfl rfl ?_) | (refine RD_isSt ?_; first | refine RD_st rfl rfl rfl repF stC rfl rfl ⟨okF, ?_⟩ | refine RD_stN rfl rfl lenC oneC repF stsC rfl rfl ⟨okF, ?_⟩) | (refine TD_isCo ?_; first | refine TD_cond_true rfl ?_ | refine TD_cond_false rfl ?_ | refine TD_yes rfl (by omega) ?_ | refine TD_no rfl (by omega) ?_))); exact hh.out)) : p := w ⟨h⟩
end Go.Fx
namespace Go.Proofs.Ytkhgglkkdnemlaa
open Go Go.Fx
theorem RD_boxL {P : Program} {n : Nat} {Q : Exit → Act → World → Prop} {G : Env} {X : List Nat} {w0 : World} {M : List Ent} {I : List Imm} {ops l : List Oper} {m : Fx.Mode} {ty : TypeId} {pos : String} {af : Array Edge} {g : Option (Nat × Bool)} {d : Nat} {t : TypeId} {x : Operand} {q : Option Addr} {len c : Nat} (hx : ev G x = some (.slice q len c)) (hg : gst ops G g = some true) (hd : Nat.ble (d + 1) n = true)
    (k : ∀ b, OkD m X w0 (.blk b [.slice q len c] t :: M) I ∧ RD P n ops Q m.nextE l ((d, .pointer (some ⟨b, 0, none⟩)) :: G) X w0 M (slI (some ⟨b, 0, none⟩) [.slice q len c] :: I)) :
    RD P n ops Q m (⟨some d, .box t x, ty, pos, af, g⟩ :: l) G X w0 M I := RD_box hx hg hd (fun b => ⟨(k b).1, RD_freezeB .here (k b).2⟩)
abbrev eK (l : LK) : List Value := [.int .i64 l.a, .int .i64 l.b, .int .i64 l.w]
instance : Sized eK 3 := ⟨fun _ => rfl⟩
instance : Ones eK := ⟨fun m u hu => by
  simp only [eK, List.mem_cons, List.not_mem_nil, or_false] at hu
  rcases hu with rfl | rfl | rfl <;> rfl⟩
/-- a graph -/
abbrev gv (N : Int) (p : Option Addr) (m c : Nat) : Value := .agg #[.int .i64 N, .slice p m c]
def lok (N : Int) (l : LK) : Prop := (0 ≤ l.a ∧ l.a < N) ∧ (0 ≤ l.b ∧ l.b < N) ∧ (-1073741824 ≤ l.w ∧ l.w ≤ 1073741824)
instance (N : Int) (l : LK) : Decidable (lok N l) := by unfold lok; exact inferInstance
theorem lok_no {N : Int} {l : LK} (h : ¬ lok N l) : l.a < 0 ∨ (0 ≤ l.a ∧ N ≤ l.a) ∨ (0 ≤ l.a ∧ l.a < N ∧ l.b < 0) ∨ (0 ≤ l.a ∧ l.a < N ∧ 0 ≤ l.b ∧ N ≤ l.b) ∨ (0 ≤ l.a ∧ l.a < N ∧ 0 ≤ l.b ∧ l.b < N ∧ l.w < -1073741824) ∨ (0 ≤ l.a ∧ l.a < N ∧ 0 ≤ l.b ∧ l.b < N ∧ -1073741824 ≤ l.w ∧ 1073741824 < l.w) := by
  unfold lok at h
  omega
def gcode (N : Int) (ms : List LK) : Int := if N < 0 then 1 else if 256 < N ∨ 1024 < ms.length then 3 else if ∀ l ∈ ms, lok N l then 0 else 2
theorem gcode_all {N : Int} {ms : List LK} (h1 : ¬ N < 0) (h2 : ¬ (256 < N ∨ 1024 < ms.length)) (h : ∀ j : Nat, j < ms.length → lok N (gt ms j)) : gcode N ms = 0 := by
  unfold gcode
  rw [if_neg h1, if_neg h2, if_pos]
  intro l hl
  obtain ⟨j, hj, rfl⟩ := List.mem_iff_getElem.1 hl
  have := h j hj
  rwa [gt_get hj] at this
theorem gcode_no {N : Int} {ms : List LK} (h1 : ¬ N < 0) (h2 : ¬ (256 < N ∨ 1024 < ms.length)) {i : Nat} (hi : i < ms.length) (h : ¬ lok N (gt ms i)) : gcode N ms = 2 := by
  unfold gcode
  rw [if_neg h1, if_neg h2, if_neg]
  intro hh
  apply h
  rw [gt_get hi]
  exact hh _ (List.getElem_mem hi)
section
variable {X : List Nat} {w0 : World} {M0 : List Ent} {I0 : List Imm}
set_option maxRecDepth 100000 in
set_option maxHeartbeats 1000000 in
theorem gCheck_ok {p : Option Addr} {N : Int} {ms : List LK} {m c : Nat} (hm : ms.length = m) (hn : (m : Int) ≤ 9223372036854775807) (hp : slI p (recs eK ms) ∈ I0) :
    CD Try.prog 25 [gv N p m c] X w0 M0 I0 (fun v M I => M0 = M ∧ I0 = I ∧ v = .int .i64 (gcode N ms)) := by
  refine enterD1 Try.func25 rfl Try.ntmps25 rfl ?_
  refine TD_seq ?_
  refine TD_region ?_
  (refine RD_boxA rfl rfl rfl ?_; intro b; refine ⟨okF, ?_⟩)
  refine RD_freezeB .here ?_
  by_cases h1 : N < 0
  · repeat (refine wXh ?_)
    refine ND_ret1 (by first | exact .inl rfl | exact .inr rfl) rfl rfl _ _ subF incF (⟨rfl, rfl, congrArg _ (if_pos h1).symm⟩)
  by_cases h2 : 256 < N
  · have hc : gcode N ms = 3 := by unfold gcode; rw [if_neg h1, if_pos (.inl h2)]
    repeat (refine wXh ?_)
    refine ND_ret1 (by first | exact .inl rfl | exact .inr rfl) rfl rfl _ _ subF incF (⟨rfl, rfl, congrArg _ hc.symm⟩)
  by_cases h3 : 1024 < m
  · have hc : gcode N ms = 3 := by unfold gcode; rw [if_neg h1, if_pos (.inr (by omega))]
    repeat (refine wXh ?_)
    refine ND_ret1 (by first | exact .inl rfl | exact .inr rfl) rfl rfl _ _ subF incF (⟨rfl, rfl, congrArg _ hc.symm⟩)
  replace h2 : ¬ (256 < N ∨ 1024 < ms.length) := by omega
  repeat (refine wXh ?_)
  refine TD_loop [1, 18, 19] rfl (fun k G M I => ∃ i : Nat, i ≤ m ∧ k = m - i ∧ (∀ j : Nat, j < i → lok N (gt ms j)) ∧ G = [(20, .int .i64 i)] ∧ M0 = M ∧ I = slI (some ⟨b, 0, none⟩) [.int .i64 N, .slice p m c] :: I0) (m) _ _ _ subG subF incF (⟨0, by omega, rfl, fun j hj => by omega, rfl, rfl, rfl⟩) ?_
  rintro kk G M I ⟨i, hi, rfl, hs, rfl, rfl, rfl⟩
  by_cases him : i < m
  · repeat (refine wXh ?_)
    (refine RD_alloc rfl rfl ?_; intro b4; refine ⟨okF, ?_⟩)
    repeat (refine wXh ?_)
    refine RD_freezeB .here ?_
    by_cases hl : lok N (gt ms i)
    · obtain ⟨⟨q1, q2⟩, ⟨q3, q4⟩, q5, q6⟩ := hl
      repeat (refine wXh ?_)
      refine ND_again (m - (i + 1)) _ _ _ (by first | omega | (simp only [List.length_append, List.length_cons, List.length_nil]; omega)) subG subF incF (⟨i + 1, by omega, rfl, fun j hj => ?_, rfl, rfl, rfl⟩)
      by_cases e : j = i
      · subst e; exact ⟨⟨q1, q2⟩, ⟨q3, q4⟩, q5, q6⟩
      · exact hs j (by omega)
    · have hc := gcode_no h1 h2 (by omega) hl
      rcases lok_no hl with h | h | h | h | h | h
      all_goals
        repeat (refine wXh ?_)
        refine ND_ret1 (by first | exact .inl rfl | exact .inr rfl) rfl rfl _ _ subF incF (⟨rfl, rfl, congrArg _ hc.symm⟩)
  · have hc := gcode_all h1 h2 (fun j hj => hs j (by omega))
    repeat (refine wXh ?_)
    refine ND_ret1 (by first | exact .inl rfl | exact .inr rfl) rfl rfl _ _ subF incF (⟨rfl, rfl, congrArg _ hc.symm⟩)
theorem rnode_ok {p : Option Addr} {N x : Int} {m c : Nat} :
    CD Try.prog 47 [gv N p m c, .int .i64 x] X w0 M0 I0 (fun v M I => M0 = M ∧ I0 = I ∧ v = .bool (B (0 ≤ x ∧ x < N))) := by
  refine enterD2 Try.func47 rfl Try.ntmps47 rfl ?_
  refine TD_seq ?_
  refine TD_region ?_
  (refine RD_boxA rfl rfl rfl ?_; intro b; refine ⟨okF, ?_⟩)
  refine RD_freezeB .here ?_
  by_cases h : 0 ≤ x
  · repeat (refine wXh ?_)
    refine ND_ret1 (by first | exact .inl rfl | exact .inr rfl) rfl rfl _ _ subF incF (⟨rfl, rfl, congrArg Value.bool (B_congr (by omega))⟩)
  · repeat (refine wXh ?_)
    refine ND_ret1 (by first | exact .inl rfl | exact .inr rfl) rfl rfl _ _ subF incF (⟨rfl, rfl, congrArg Value.bool (B_false (by omega)).symm⟩)
set_option maxRecDepth 100000 in
set_option maxHeartbeats 1000000 in
theorem rgCheck_ok {p : Option Addr} {N : Int} {ms : List LK} {m c : Nat} (hm : ms.length = m) (hn : (m : Int) ≤ 9223372036854775807) (hp : slI p (recs eK ms) ∈ I0) :
    CD Try.prog 15 [gv N p m c] X w0 M0 I0 (fun v M I => M0 = M ∧ I0 = I ∧ v = .int .i64 (gcode N ms)) := by
  have hN := fun (x : Int) M0 I0 => rnode_ok (X := X) (w0 := w0) (M0 := M0) (I0 := I0) (p := p) (N := N) (x := x) (m := m) (c := c)
  refine enterD1 Try.func15 rfl Try.ntmps15 rfl ?_
  refine TD_seq ?_
  refine TD_region ?_
  (refine RD_boxA rfl rfl rfl ?_; intro b; refine ⟨okF, ?_⟩)
  refine RD_freezeB .here ?_
  by_cases h1 : N < 0
  · repeat (refine wXh ?_)
    refine ND_ret1 (by first | exact .inl rfl | exact .inr rfl) rfl rfl _ _ subF incF (⟨rfl, rfl, congrArg _ (if_pos h1).symm⟩)
  by_cases h2 : 256 < N
  · have hc : gcode N ms = 3 := by unfold gcode; rw [if_neg h1, if_pos (.inl h2)]
    repeat (refine wXh ?_)
    refine ND_ret1 (by first | exact .inl rfl | exact .inr rfl) rfl rfl _ _ subF incF (⟨rfl, rfl, congrArg _ hc.symm⟩)
  by_cases h3 : 1024 < m
  · have hc : gcode N ms = 3 := by unfold gcode; rw [if_neg h1, if_pos (.inr (by omega))]
    repeat (refine wXh ?_)
    refine ND_ret1 (by first | exact .inl rfl | exact .inr rfl) rfl rfl _ _ subF incF (⟨rfl, rfl, congrArg _ hc.symm⟩)
  replace h2 : ¬ (256 < N ∨ 1024 < ms.length) := by omega
  repeat (refine wXh ?_)
  refine TD_loop [1, 18, 19] rfl (fun k G M I => ∃ i : Nat, i ≤ m ∧ k = m - i ∧ (∀ j : Nat, j < i → lok N (gt ms j)) ∧ G = [(20, .int .i64 i)] ∧ M0 = M ∧ I = slI (some ⟨b, 0, none⟩) [.int .i64 N, .slice p m c] :: I0) (m) _ _ _ subG subF incF (⟨0, by omega, rfl, fun j hj => by omega, rfl, rfl, rfl⟩) ?_
  rintro kk G M I ⟨i, hi, rfl, hs, rfl, rfl, rfl⟩
  by_cases him : i < m
  · repeat (refine wXh ?_)
    (refine RD_alloc rfl rfl ?_; intro b4; refine ⟨okF, ?_⟩)
    repeat (refine wXh ?_)
    refine RD_freezeB .here ?_
    by_cases hl : lok N (gt ms i)
    · have hA := hN (gt ms i).a
      have hB := hN (gt ms i).b
      rw [B_true hl.1] at hA
      rw [B_true hl.2.1] at hB
      obtain ⟨q5, q6⟩ := hl.2.2
      repeat (refine wXh ?_)
      (refine RD_callS rfl (hA _ _) rfl rfl ?_; rintro _ _ _ ⟨rfl, rfl, rfl⟩; refine ⟨okF, ?_⟩)
      repeat (refine wXh ?_)
      (refine RD_callS rfl (hB _ _) rfl rfl ?_; rintro _ _ _ ⟨rfl, rfl, rfl⟩; refine ⟨okF, ?_⟩)
      repeat (refine wXh ?_)
      refine ND_again (m - (i + 1)) _ _ _ (by first | omega | (simp only [List.length_append, List.length_cons, List.length_nil]; omega)) subG subF incF (⟨i + 1, by omega, rfl, fun j hj => ?_, rfl, rfl, rfl⟩)
      by_cases e : j = i
      · subst e; exact hl
      · exact hs j (by omega)
    · have hc := gcode_no h1 h2 (by omega) hl
      have hA := hN (gt ms i).a
      have hB := hN (gt ms i).b
      by_cases l1 : 0 ≤ (gt ms i).a ∧ (gt ms i).a < N
      · rw [B_true l1] at hA
        by_cases l2 : 0 ≤ (gt ms i).b ∧ (gt ms i).b < N
        · rw [B_true l2] at hB
          have l3 : (gt ms i).w < -1073741824 ∨ (-1073741824 ≤ (gt ms i).w ∧ 1073741824 < (gt ms i).w) := by
            have : ¬ (-1073741824 ≤ (gt ms i).w ∧ (gt ms i).w ≤ 1073741824) := fun h => hl ⟨l1, l2, h⟩
            omega
          rcases l3 with h | h
          all_goals
            repeat (refine wXh ?_)
            (refine RD_callS rfl (hA _ _) rfl rfl ?_; rintro _ _ _ ⟨rfl, rfl, rfl⟩; refine ⟨okF, ?_⟩)
            repeat (refine wXh ?_)
            (refine RD_callS rfl (hB _ _) rfl rfl ?_; rintro _ _ _ ⟨rfl, rfl, rfl⟩; refine ⟨okF, ?_⟩)
            repeat (refine wXh ?_)
            refine ND_ret1 (by first | exact .inl rfl | exact .inr rfl) rfl rfl _ _ subF incF (⟨rfl, rfl, congrArg _ hc.symm⟩)
        · rw [B_false l2] at hB
          repeat (refine wXh ?_)
          (refine RD_callS rfl (hA _ _) rfl rfl ?_; rintro _ _ _ ⟨rfl, rfl, rfl⟩; refine ⟨okF, ?_⟩)
          repeat (refine wXh ?_)
          (refine RD_callS rfl (hB _ _) rfl rfl ?_; rintro _ _ _ ⟨rfl, rfl, rfl⟩; refine ⟨okF, ?_⟩)
          repeat (refine wXh ?_)
          refine ND_ret1 (by first | exact .inl rfl | exact .inr rfl) rfl rfl _ _ subF incF (⟨rfl, rfl, congrArg _ hc.symm⟩)
      · rw [B_false l1] at hA
        repeat (refine wXh ?_)
        (refine RD_callS rfl (hA _ _) rfl rfl ?_; rintro _ _ _ ⟨rfl, rfl, rfl⟩; refine ⟨okF, ?_⟩)
        repeat (refine wXh ?_)
        refine ND_ret1 (by first | exact .inl rfl | exact .inr rfl) rfl rfl _ _ subF incF (⟨rfl, rfl, congrArg _ hc.symm⟩)
  · have hc := gcode_all h1 h2 (fun j hj => hs j (by omega))
    repeat (refine wXh ?_)
    refine ND_ret1 (by first | exact .inl rfl | exact .inr rfl) rfl rfl _ _ subF incF (⟨rfl, rfl, congrArg _ hc.symm⟩)
end
end Go.Proofs.Ytkhgglkkdnemlaa
namespace Go.Proofs.Ytkhgglkkdnemlaa
open Go Go.Fx
def lb (f : Int → Int) (x : Int) : Int := ((cnt (f x).toNat (fun y => decide (f y = y)) : Nat) : Int)
def labs (n : Nat) (f : Int → Int) : List Int := (rg n).map (lb f)
theorem gt_rg {n : Nat} {x : Int} (h : 0 ≤ x ∧ x < n) : gt (rg n) x = x := by
  obtain ⟨y, rfl⟩ : ∃ y : Nat, x = y := ⟨x.toNat, by omega⟩
  rw [gt_get (by rw [rg_len]; omega)]
  simp [rg]
theorem gt_map {α β : Type} [Inhabited α] [Inhabited β] {g : α → β} {l : List α} {x : Int} (h : 0 ≤ x ∧ x < l.length) : gt (l.map g) x = g (gt l x) := by
  obtain ⟨y, rfl⟩ : ∃ y : Nat, x = y := ⟨x.toNat, by omega⟩
  rw [gt_get (by rw [List.length_map]; omega), gt_get (by omega), List.getElem_map]
theorem gt_in {α : Type} [Inhabited α] {ms : List α} {i : Int} (h : 0 ≤ i ∧ i < ms.length) : gt ms i ∈ ms := by
  obtain ⟨y, rfl⟩ : ∃ y : Nat, i = y := ⟨i.toNat, by omega⟩
  rw [gt_get (by omega)]
  exact List.getElem_mem _
theorem labs_len (n : Nat) (f : Int → Int) : (labs n f).length = n := by rw [labs, List.length_map, rg_len]
theorem gt_labs {n : Nat} {f : Int → Int} {x : Int} (h : 0 ≤ x ∧ x < n) : gt (labs n f) x = lb f x := by
  rw [labs, gt_map (by rw [rg_len]; omega), gt_rg h]
theorem cnt_le_cnt {a b : Nat} (h : a ≤ b) (p : Int → Bool) : cnt a p ≤ cnt b p := by
  induction b with
  | zero => have : a = 0 := by omega
            rw [this]; exact Nat.le_refl _
  | succ b ih =>
    by_cases e : a = b + 1
    · rw [e]; exact Nat.le_refl _
    · rw [cnt_succ]
      have := ih (by omega)
      omega
theorem lb_lt {f : Int → Int} {x y : Int} (hx : 0 ≤ f x) (ix : f (f x) = f x) (h : f x < f y) : lb f x < lb f y := by
  have h1 := cnt_le_cnt (a := (f x).toNat + 1) (b := (f y).toNat) (by omega) (fun y => decide (f y = y))
  rw [cnt_succ, show (((f x).toNat : Nat) : Int) = f x by omega, if_pos (decide_eq_true ix)] at h1
  unfold lb
  omega
theorem lb_inj {f : Int → Int} {x y : Int} (hx : 0 ≤ f x) (hy : 0 ≤ f y) (ix : f (f x) = f x) (iy : f (f y) = f y) : lb f x = lb f y ↔ f x = f y := by
  constructor
  · intro h
    rcases Int.lt_trichotomy (f x) (f y) with h1 | h1 | h1
    · have := lb_lt hx ix h1; omega
    · exact h1
    · have := lb_lt hy iy h1; omega
  · intro h; unfold lb; rw [h]
theorem lb_root {f : Int → Int} {x : Int} (ix : f (f x) = f x) : lb f (f x) = lb f x := by unfold lb; rw [ix]
theorem labs_iff {n : Nat} {E : List (Int × Int)} (hE : Nds n E) {x y : Int} (hx : 0 ≤ x ∧ x < n) (hy : 0 ≤ y ∧ y < n) : gt (labs n (lo E)) x = gt (labs n (lo E)) y ↔ Con E x y := by
  rw [gt_labs hx, gt_labs hy, lb_inj (lo_rng hE hx).1 (lo_rng hE hy).1 (lo_lo E x) (lo_lo E y)]
  exact lo_iff
theorem mg_same {f : Int → Int} {e : Int × Int} (h : f e.1 = f e.2) : mrg f e = f := by
  funext x
  unfold mrg
  rw [h]
  split <;> omega
theorem Rp.same {n : Nat} {u : List Int} {f : Int → Int} (h : Rp n u f) {e : Int × Int} (he : f e.1 = f e.2) : Rp n u (mrg f e) := by rw [mg_same he]; exact h
theorem Gd.nds {ms : List LK} {n : Nat} (hg : Gd ms n) {l : List Int} (hl : ∀ k ∈ l, 0 ≤ k ∧ k < ms.length) : Nds n (es ms l) := fun e he => by
  obtain ⟨k, hk, rfl⟩ := List.mem_map.1 he
  have := hl k hk
  exact ⟨hg.a k this.1 this.2, hg.b k this.1 this.2⟩
theorem lo_at {ms : List LK} {l : List Int} {k : Int} : lo (es ms (l ++ [k])) = mrg (lo (es ms l)) ((gt ms k).a, (gt ms k).b) := by
  rw [es_snoc, lo_snoc]; rfl
end Go.Proofs.Ytkhgglkkdnemlaa

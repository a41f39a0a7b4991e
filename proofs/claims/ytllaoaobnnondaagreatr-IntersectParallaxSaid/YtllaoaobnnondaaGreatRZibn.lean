/- The walk, kept once. Functions of Go's slices package, at slices of ints and the like. -/
import Derived.Test.YtllaoaobnnondaaGreatRZiae
import Derived.Test.YtllaoaobnnondaaGreatRZiah
import Derived.Test.YtllaoaobnnondaaGreatRZiag
set_option linter.unusedSimpArgs false
set_option linter.unusedVariables false
namespace Go.Fx
theorem wXn {p g : Prop} (h : g) (w : BoxP g → p := by (intro hh; (first | refine TD_seq ?_ | refine TD_region ?_ | refine TD_ret ?_ | refine TD_skip ?_ | refine TD_label ?_ | refine TD_block ?_ | refine TD_exit ?_ | refine ND_then ?_ | refine ND_thenR ?_ | refine ND_thenE ?_ | refine ND_inN ?_ | refine ND_inR ?_ | refine ND_inE ?_ | refine ND_inO rfl ?_ | refine RD_nil ?_ | (refine RD_isGu ?_; first | refine RD_skip rfl rfl rfl ?_ | (refine RD_isEf rfl rfl ?_; refine RD_skipE rfl rfl rfl okD ?_) | refine RD_grdY rfl rfl (by omega) ?_ | refine RD_grdN rfl rfl (by omega) ?_) | (refine RD_isUn ?_; refine RD_c rfl (fun _ => Const_notB rfl) rfl rfl ?_) | refine RD_c rfl (fun _ => Const_pure rfl) rfl rfl ?_ | (refine RD_isBi ?_; first | refine RD_c rfl (fun _ => Const_add rfl rfl w_) rfl rfl ?_ | refine RD_c rfl (fun _ => Const_sub rfl rfl w_) rfl rfl ?_ | refine RD_c rfl (fun _ => Const_mul rfl rfl w_) rfl rfl ?_ | refine RD_c rfl (fun _ => Const_quo rfl rfl (by omega) q_) rfl rfl ?_ | refine RD_c rfl (fun _ => Const_rem rfl rfl (by omega) rfl) rfl rfl ?_ | refine RD_c rfl (fun _ => Const_half rfl rfl) rfl rfl ?_) | (refine RD_isUn ?_; first | refine RD_c rfl (fun _ => Const_neg rfl w_) rfl rfl ?_) | (refine RD_isCv ?_; first | refine RD_c rfl (fun _ => Const_conv rfl w_) rfl rfl ?_) | (refine RD_isCa ?_; first | refine RD_c rfl (fun _ => Const_len rfl) rfl rfl ?_ | refine RD_c rfl (fun _ => Const_minM rfl rfl) rfl rfl ?_ | refine RD_c rfl (fun _ => Const_maxM rfl rfl) rfl rfl ?_ | refine RD_c rfl (fun _ => Const_min3 rfl rfl rfl) rfl rfl ?_) | (refine RD_isFa ?_; first | refine RD_fldP rfl (by decide) rfl rfl ?_ | refine RD_fld rfl (by decide) rfl rfl ?_) | (refine RD_isIx ?_; first | refine RD_ixB rfl rfl bdI rfl rfl ?_ | refine RD_ixI vwX rfl rfl bdI memL posC rfl rfl ?_ | refine RD_ixR vwX rfl rfl bdI memL posC rfl rfl ?_ | refine RD_c rfl (fun _ => Const_indexA rfl rfl bdI) rfl rfl ?_) | (refine RD_isLd ?_; first | refine RD_ldI vwX rfl memL atC rfl rfl ?_ | refine RD_ldR vwX rfl memL atC rfl rfl ?_ | refine RD_ldB vwX rfl memL atC rfl rfl ?_ | refine RD_ldIB vwX rfl memL atC rfl rfl ?_ | refine RD_ldNI vwX rfl memL atsC lenC rfl rfl ?_ | refine RD_ldNR vwX rfl memL atsC lenC rfl rfl ?_ | refine RD_ldNB vwX rfl memL atsC lenC rfl rfl ?_ | refine RD_ldNIB vwX rfl memL atsC lenC rfl rfl ?_) | (refine RD_isFd ?_; first | refine RD_c rfl (fun _ => Const_field1 rfl rfl) rfl rfl ?_ | refine RD_c rfl (fun _ => Const_fieldN rfl) rfl rfl ?_) | (refine RD_isSt ?_; first | refine RD_st rfl rfl rfl repE stC rfl rfl ⟨okD, ?_⟩ | refine RD_stN rfl rfl lenC oneC repE stsC rfl rfl ⟨okD, ?_⟩) | (refine TD_isCo ?_; first | refine TD_cond_true rfl ?_ | refine TD_cond_false rfl ?_ | refine TD_yes rfl (by omega) ?_ | refine TD_no rfl (by omega) ?_)); (repeat (first | refine TD_seq ?_ | refine TD_region ?_ | refine TD_ret ?_ | refine TD_skip ?_ | refine TD_label ?_ | refine TD_block ?_ | refine TD_exit ?_ | refine ND_then ?_ | refine ND_thenR ?_ | refine ND_thenE ?_ | refine ND_inN ?_ | refine ND_inR ?_ | refine ND_inE ?_ | refine ND_inO rfl ?_ | refine RD_nil ?_ | (refine RD_isGu ?_; first | refine RD_skip rfl rfl rfl ?_ | (refine RD_isEf rfl rfl ?_; refine RD_skipE rfl rfl rfl okD ?_) | refine RD_grdY rfl rfl (by omega) ?_ | refine RD_grdN rfl rfl (by omega) ?_) | (refine RD_isUn ?_; refine RD_c rfl (fun _ => Const_notB rfl) rfl rfl ?_) | refine RD_c rfl (fun _ => Const_pure rfl) rfl rfl ?_ | (refine RD_isBi ?_; first | refine RD_c rfl (fun _ => Const_add rfl rfl w_) rfl rfl ?_ | refine RD_c rfl (fun _ => Const_sub rfl rfl w_) rfl rfl ?_ | refine RD_c rfl (fun _ => Const_mul rfl rfl w_) rfl rfl ?_ | refine RD_c rfl (fun _ => Const_quo rfl rfl (by omega) q_) rfl rfl ?_ | refine RD_c rfl (fun _ => Const_rem rfl rfl (by omega) rfl) rfl rfl ?_ | refine RD_c rfl (fun _ => Const_half rfl rfl) rfl rfl ?_) | (refine RD_isUn ?_; first | refine RD_c rfl (fun _ => Const_neg rfl w_) rfl rfl ?_) | (refine RD_isCv ?_; first | refine RD_c rfl (fun _ => Const_conv rfl w_) rfl rfl ?_) | (refine RD_isCa ?_; first | refine RD_c rfl (fun _ => Const_len rfl) rfl rfl ?_ | refine RD_c rfl (fun _ => Const_minM rfl rfl) rfl rfl ?_ | refine RD_c rfl (fun _ => Const_maxM rfl rfl) rfl rfl ?_ | refine RD_c rfl (fun _ => Const_min3 rfl rfl rfl) rfl rfl ?_) | (refine RD_isFa ?_; first | refine RD_fldP rfl (by decide) rfl rfl ?_ | refine RD_fld rfl (by decide) rfl rfl ?_) | (refine RD_isIx ?_; first | refine RD_ixB rfl rfl bdI rfl rfl ?_ | refine RD_ixI vwX rfl rfl bdI memL posC rfl rfl ?_ | refine RD_ixR vwX rfl rfl bdI memL posC rfl rfl ?_ | refine RD_c rfl (fun _ => Const_indexA rfl rfl bdI) rfl rfl ?_) | (refine RD_isLd ?_; first | refine RD_ldI vwX rfl memL atC rfl rfl ?_ | refine RD_ldR vwX rfl memL atC rfl rfl ?_ | refine RD_ldB vwX rfl memL atC rfl rfl ?_ | refine RD_ldIB vwX rfl memL atC rfl rfl ?_ | refine RD_ldNI vwX rfl memL atsC lenC rfl rfl ?_ | refine RD_ldNR vwX rfl memL atsC lenC rfl rfl ?_ | refine RD_ldNB vwX rfl memL atsC lenC rfl rfl ?_ | refine RD_ldNIB vwX rfl memL atsC lenC rfl rfl ?_) | (refine RD_isFd ?_; first | refine RD_c rfl (fun _ => Const_field1 rfl rfl) rfl rfl ?_ | refine RD_c rfl (fun _ => Const_fieldN rfl) rfl rfl ?_) | (refine RD_isSt ?_; first | refine RD_st rfl rfl rfl repE stC rfl rfl ⟨okD, ?_⟩ | refine RD_stN rfl rfl lenC oneC repE stsC rfl rfl ⟨okD, ?_⟩) | (refine TD_isCo ?_; first | refine TD_cond_true rfl ?_ | refine TD_cond_false rfl ?_ | refine TD_yes rfl (by omega) ?_ | refine TD_no rfl (by omega) ?_))); exact hh.out)) : p := w ⟨h⟩
end Go.Fx
namespace Go.Proofs.YtllaoaobnnondaaGreatR
open Go Go.Fx

section
variable {X : List Nat} {w0 : World} {M0 : List Ent} {I0 : List Imm}


theorem idxI_ok {p : Option Addr} {a : List Int} {c : Nat} {g : FuncId} [FnOk Tryz.prog g] {fs cs : Array Value} (pr : Int → Prop) [DecidablePred pr] (hn : (a.length : Int) ≤ 9223372036854775807) (ha : slI p (recs (eI .i64) a) ∈ I0)
    (hg : ∀ i : Nat, i < a.length → CD Tryz.prog g (fs.toList ++ [.int .i64 (gt a i)] ++ cs.toList) X w0 M0 I0 (fun v M I => M0 = M ∧ I0 = I ∧ v = .bool (B (pr (gt a i))))) :
    CD Tryz.prog 225 [.slice p a.length c, .func (.func g) fs cs] X w0 M0 I0 (fun v M I => M0 = M ∧ I0 = I ∧ ∃ r : Int, v = .int .i64 r ∧ ((∃ i : Nat, i < a.length ∧ r = i ∧ pr (gt a i) ∧ ∀ j : Nat, j < i → ¬ pr (gt a j)) ∨ (r = -1 ∧ ∀ j : Nat, j < a.length → ¬ pr (gt a j)))) := by
  refine enterD Tryz.func225 rfl Tryz.ntmps225 rfl ?_
  repeat (refine wXn ?_)
  refine TD_loop [0, 1, 7] rfl (fun k G M I => ∃ i : Nat, i ≤ a.length ∧ k = a.length - i ∧ (∀ j : Nat, j < i → ¬ pr (gt a j)) ∧ G = [(8, .int .i64 i)] ∧ M = M0 ∧ I = I0) (a.length) _ _ _ subG subP incL (⟨0, by omega, rfl, fun j hj => by omega, rfl, rfl, rfl⟩) ?_
  rintro k G M I ⟨i, hi, rfl, hs, rfl, rfl, rfl⟩
  repeat' (first | refine wXn ?_ | (refine TD_isCo ?_; first | refine TD_dec rfl (fun h => ?_) (fun h => ?_) | refine TD_cond rfl (fun h => ?_) (fun h => ?_)) | (refine RD_isGu ?_; first | refine RD_grd rfl rfl (fun h => ?_) (fun h => ?_) | (fail_if_success (refine RD_isW rfl ?_); refine RD_grdB rfl rfl (fun h => ?_) (fun h => ?_))))
  · have hlt : i < a.length := by omega
    (refine RD_callV rfl rfl (hg i hlt) rfl rfl rfl ?_; rintro _ _ _ ⟨rfl, rfl, rfl⟩; refine ⟨okD, ?_⟩)
    repeat' (first | refine wXn ?_ | (refine TD_isCo ?_; first | refine TD_dec rfl (fun h => ?_) (fun h => ?_) | refine TD_cond rfl (fun h => ?_) (fun h => ?_)) | (refine RD_isGu ?_; first | refine RD_grd rfl rfl (fun h => ?_) (fun h => ?_) | (fail_if_success (refine RD_isW rfl ?_); refine RD_grdB rfl rfl (fun h => ?_) (fun h => ?_))))
    · refine ND_ret1 (by first | exact .inl rfl | exact .inr rfl) rfl rfl _ _ subP incL (⟨rfl, rfl, _, rfl, .inl ⟨i, hlt, rfl, by assumption, hs⟩⟩)
    · refine ND_again (a.length - (i + 1)) _ _ _ (by first | omega | (simp only [List.length_append, List.length_cons, List.length_nil]; omega)) subG subP incL (⟨i + 1, by omega, rfl, fun j hj => ?_, rfl, rfl, rfl⟩)
      by_cases e : j = i
      · subst e; assumption
      · exact hs j (by omega)
  · refine ND_ret1 (by first | exact .inl rfl | exact .inr rfl) rfl rfl _ _ subP incL (⟨rfl, rfl, _, rfl, .inr ⟨rfl, fun j hj => hs j (by omega)⟩⟩)
theorem hasI_ok {p : Option Addr} {a : List Int} {c : Nat} {g : FuncId} [FnOk Tryz.prog g] {fs cs : Array Value} (pr : Int → Prop) [DecidablePred pr] (hn : (a.length : Int) ≤ 9223372036854775807) (ha : slI p (recs (eI .i64) a) ∈ I0)
    (hg : ∀ i : Nat, i < a.length → CD Tryz.prog g (fs.toList ++ [.int .i64 (gt a i)] ++ cs.toList) X w0 M0 I0 (fun v M I => M0 = M ∧ I0 = I ∧ v = .bool (B (pr (gt a i))))) :
    CD Tryz.prog 176 [.slice p a.length c, .func (.func g) fs cs] X w0 M0 I0 (fun v M I => M0 = M ∧ I0 = I ∧ v = .bool (B (∃ x ∈ a, pr x))) := by
  refine enterD Tryz.func176 rfl Tryz.ntmps176 rfl ?_
  repeat (refine wXn ?_)
  (refine RD_call rfl (idxI_ok pr hn ha hg) rfl rfl ?_; rintro _ _ _ ⟨rfl, rfl, r, rfl, h⟩; refine ⟨okD, ?_⟩)
  repeat (refine wXn ?_)
  refine ND_ret1 (by first | exact .inl rfl | exact .inr rfl) rfl rfl _ _ subP incL (⟨rfl, rfl, congrArg Value.bool (B_congr ?_)⟩)
  rcases h with ⟨i, hi, rfl, hp, _⟩ | ⟨rfl, h⟩
  · exact ⟨fun _ => ⟨gt a i, by rw [gt_get hi]; exact List.getElem_mem hi, hp⟩, fun _ => by omega⟩
  · refine ⟨fun h => by omega, ?_⟩
    rintro ⟨x, hx, hp⟩
    obtain ⟨j, hj, rfl⟩ := List.mem_iff_getElem.1 hx
    exact absurd (by rw [gt_get hj]; exact hp) (h j hj)
end
end Go.Proofs.YtllaoaobnnondaaGreatR

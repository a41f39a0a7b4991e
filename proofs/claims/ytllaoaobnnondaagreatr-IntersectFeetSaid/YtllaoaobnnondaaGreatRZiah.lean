/- A premise that no search takes for another; looks alone. The walk, kept once. integer: magnitudes: at, trim, plus, minus, compare, times, short integer: magnitudes: minus, times, split integer: magnitudes: times integer: times, whose result is owned -/
import Derived.Test.YtllaoaobnnondaaGreatRZiae
import Derived.Test.YtllaoaobnnondaaGreatRZiaf
import Derived.Test.YtllaoaobnnondaaGreatRZiag
set_option linter.unusedSimpArgs false
set_option linter.unusedVariables false
namespace Go.Fx
structure BoxP (g : Prop) : Prop where
  out : g
section
variable {P : Program} {n : Nat} {Q : Exit → Act → World → Prop} {G : Env} {X : List Nat} {w0 : World} {M : List Ent} {I : List Imm} {ops l : List Oper} {m : Mode} {c : Code} {e : Exit}
end
end Go.Fx
namespace Go.Fx
theorem wXj {p g : Prop} (h : g) (w : BoxP g → p := by (intro hh; (first | refine TD_seq ?_ | refine TD_region ?_ | refine TD_ret ?_ | refine TD_skip ?_ | refine TD_label ?_ | refine TD_block ?_ | refine TD_exit ?_ | refine ND_then ?_ | refine ND_thenR ?_ | refine ND_thenE ?_ | refine ND_inN ?_ | refine ND_inR ?_ | refine ND_inE ?_ | refine ND_inO rfl ?_ | refine RD_nil ?_ | (refine RD_isGu ?_; first | refine RD_skip rfl rfl rfl ?_ | (refine RD_isEf rfl rfl ?_; refine RD_skipE rfl rfl rfl okJ ?_) | refine RD_grdY rfl rfl (by omega) ?_ | refine RD_grdN rfl rfl (by omega) ?_) | (refine RD_isUn ?_; refine RD_c rfl (fun _ => Const_notB rfl) rfl rfl ?_) | refine RD_c rfl (fun _ => Const_pure rfl) rfl rfl ?_ | (refine RD_isBi ?_; first | refine RD_c rfl (fun _ => Const_add rfl rfl w_) rfl rfl ?_ | refine RD_c rfl (fun _ => Const_sub rfl rfl w_) rfl rfl ?_ | refine RD_c rfl (fun _ => Const_mul rfl rfl w_) rfl rfl ?_ | refine RD_c rfl (fun _ => Const_quo rfl rfl (by omega) q_) rfl rfl ?_ | refine RD_c rfl (fun _ => Const_rem rfl rfl (by omega) rfl) rfl rfl ?_ | refine RD_c rfl (fun _ => Const_half rfl rfl) rfl rfl ?_ | refine RD_c rfl (fun _ => Const_eqBB rfl rfl) rfl rfl ?_ | refine RD_c rfl (fun _ => Const_neBB rfl rfl) rfl rfl ?_) | (refine RD_isUn ?_; first | refine RD_c rfl (fun _ => Const_neg rfl w_) rfl rfl ?_) | (refine RD_isCv ?_; first | refine RD_c rfl (fun _ => Const_conv rfl w_) rfl rfl ?_) | (refine RD_isCa ?_; first | refine RD_c rfl (fun _ => Const_len rfl) rfl rfl ?_ | refine RD_c rfl (fun _ => Const_minM rfl rfl) rfl rfl ?_ | refine RD_c rfl (fun _ => Const_maxM rfl rfl) rfl rfl ?_ | refine RD_c rfl (fun _ => Const_min3 rfl rfl rfl) rfl rfl ?_) | (refine RD_isFa ?_; first | refine RD_fldP rfl (by decide) rfl rfl ?_ | refine RD_fld rfl (by decide) rfl rfl ?_) | (refine RD_isIx ?_; first | refine RD_ixB rfl rfl bdI rfl rfl ?_ | refine RD_ixI vwJ rfl rfl bdI memL posC rfl rfl ?_ | refine RD_ixR vwJ rfl rfl bdI memL posC rfl rfl ?_ | refine RD_c rfl (fun _ => Const_indexA rfl rfl bdI) rfl rfl ?_) | (refine RD_isLd ?_; first | refine RD_ldI vwJ rfl memL atC rfl rfl ?_ | refine RD_ldR vwJ rfl memL atC rfl rfl ?_ | refine RD_ldB vwJ rfl memL atC rfl rfl ?_ | refine RD_ldIB vwJ rfl memL atC rfl rfl ?_ | refine RD_ldNI vwJ rfl memL atsC lenC rfl rfl ?_ | refine RD_ldNR vwJ rfl memL atsC lenC rfl rfl ?_ | refine RD_ldNB vwJ rfl memL atsC lenC rfl rfl ?_ | refine RD_ldNIB vwJ rfl memL atsC lenC rfl rfl ?_) | (refine RD_isFd ?_; first | refine RD_c rfl (fun _ => Const_field1 rfl rfl) rfl rfl ?_ | refine RD_c rfl (fun _ => Const_fieldN rfl) rfl rfl ?_) | (refine RD_isSt ?_; first | refine RD_st rfl rfl rfl repE stC rfl rfl ⟨okJ, ?_⟩ | refine RD_stN rfl rfl lenC oneC repE stsC rfl rfl ⟨okJ, ?_⟩) | (refine TD_isCo ?_; first | refine TD_cond_true rfl ?_ | refine TD_cond_false rfl ?_ | refine TD_yes rfl (by omega) ?_ | refine TD_no rfl (by omega) ?_)); (repeat (first | refine TD_seq ?_ | refine TD_region ?_ | refine TD_ret ?_ | refine TD_skip ?_ | refine TD_label ?_ | refine TD_block ?_ | refine TD_exit ?_ | refine ND_then ?_ | refine ND_thenR ?_ | refine ND_thenE ?_ | refine ND_inN ?_ | refine ND_inR ?_ | refine ND_inE ?_ | refine ND_inO rfl ?_ | refine RD_nil ?_ | (refine RD_isGu ?_; first | refine RD_skip rfl rfl rfl ?_ | (refine RD_isEf rfl rfl ?_; refine RD_skipE rfl rfl rfl okJ ?_) | refine RD_grdY rfl rfl (by omega) ?_ | refine RD_grdN rfl rfl (by omega) ?_) | (refine RD_isUn ?_; refine RD_c rfl (fun _ => Const_notB rfl) rfl rfl ?_) | refine RD_c rfl (fun _ => Const_pure rfl) rfl rfl ?_ | (refine RD_isBi ?_; first | refine RD_c rfl (fun _ => Const_add rfl rfl w_) rfl rfl ?_ | refine RD_c rfl (fun _ => Const_sub rfl rfl w_) rfl rfl ?_ | refine RD_c rfl (fun _ => Const_mul rfl rfl w_) rfl rfl ?_ | refine RD_c rfl (fun _ => Const_quo rfl rfl (by omega) q_) rfl rfl ?_ | refine RD_c rfl (fun _ => Const_rem rfl rfl (by omega) rfl) rfl rfl ?_ | refine RD_c rfl (fun _ => Const_half rfl rfl) rfl rfl ?_ | refine RD_c rfl (fun _ => Const_eqBB rfl rfl) rfl rfl ?_ | refine RD_c rfl (fun _ => Const_neBB rfl rfl) rfl rfl ?_) | (refine RD_isUn ?_; first | refine RD_c rfl (fun _ => Const_neg rfl w_) rfl rfl ?_) | (refine RD_isCv ?_; first | refine RD_c rfl (fun _ => Const_conv rfl w_) rfl rfl ?_) | (refine RD_isCa ?_; first | refine RD_c rfl (fun _ => Const_len rfl) rfl rfl ?_ | refine RD_c rfl (fun _ => Const_minM rfl rfl) rfl rfl ?_ | refine RD_c rfl (fun _ => Const_maxM rfl rfl) rfl rfl ?_ | refine RD_c rfl (fun _ => Const_min3 rfl rfl rfl) rfl rfl ?_) | (refine RD_isFa ?_; first | refine RD_fldP rfl (by decide) rfl rfl ?_ | refine RD_fld rfl (by decide) rfl rfl ?_) | (refine RD_isIx ?_; first | refine RD_ixB rfl rfl bdI rfl rfl ?_ | refine RD_ixI vwJ rfl rfl bdI memL posC rfl rfl ?_ | refine RD_ixR vwJ rfl rfl bdI memL posC rfl rfl ?_ | refine RD_c rfl (fun _ => Const_indexA rfl rfl bdI) rfl rfl ?_) | (refine RD_isLd ?_; first | refine RD_ldI vwJ rfl memL atC rfl rfl ?_ | refine RD_ldR vwJ rfl memL atC rfl rfl ?_ | refine RD_ldB vwJ rfl memL atC rfl rfl ?_ | refine RD_ldIB vwJ rfl memL atC rfl rfl ?_ | refine RD_ldNI vwJ rfl memL atsC lenC rfl rfl ?_ | refine RD_ldNR vwJ rfl memL atsC lenC rfl rfl ?_ | refine RD_ldNB vwJ rfl memL atsC lenC rfl rfl ?_ | refine RD_ldNIB vwJ rfl memL atsC lenC rfl rfl ?_) | (refine RD_isFd ?_; first | refine RD_c rfl (fun _ => Const_field1 rfl rfl) rfl rfl ?_ | refine RD_c rfl (fun _ => Const_fieldN rfl) rfl rfl ?_) | (refine RD_isSt ?_; first | refine RD_st rfl rfl rfl repE stC rfl rfl ⟨okJ, ?_⟩ | refine RD_stN rfl rfl lenC oneC repE stsC rfl rfl ⟨okJ, ?_⟩) | (refine TD_isCo ?_; first | refine TD_cond_true rfl ?_ | refine TD_cond_false rfl ?_ | refine TD_yes rfl (by omega) ?_ | refine TD_no rfl (by omega) ?_))); exact hh.out)) : p := w ⟨h⟩
end Go.Fx
namespace Go.Proofs.YtllaoaobnnondaaGreatR
open Go Go.Fx
abbrev eG : Int → List Value := eI .u32
theorem gtD (l : List Int) (i : Nat) : gt l (i : Int) = l.getD i 0 := gt_nat l i
theorem gt_out0 {l : List Int} {i : Int} (h : (l.length : Int) ≤ i) : gt l i = 0 := by
  unfold gt
  simp [List.getD, show l.length ≤ i.toNat by omega]
theorem st_nat (l : List Int) (i : Nat) (x : Int) : st l (i : Int) x = l.set i x := rfl
theorem Dig.gt {l : List Int} (h : Dig l) (i : Int) : 0 ≤ gt l i ∧ gt l i < 1000000000 := h.getD i.toNat
section
variable {X : List Nat} {w0 : World} {M0 : List Ent} {I0 : List Imm}
theorem at_ok {q : Option Addr} {l : List Int} {n c : Nat} {i : Int} (hn : n = l.length) (hi : 0 ≤ i) (hl : slI q (recs eG l) ∈ I0) :
    CD Tryz.prog 262 [.slice q n c, .int .i64 i] X w0 M0 I0 (fun v M I => M0 = M ∧ I0 = I ∧ v = .int .u32 (gt l i)) := by
  subst hn
  refine enterD Tryz.func262 rfl Tryz.ntmps262 rfl ?_
  repeat' (first | refine wXj ?_ | (refine TD_isCo ?_; first | refine TD_dec rfl (fun h => ?_) (fun h => ?_) | refine TD_cond rfl (fun h => ?_) (fun h => ?_)) | (refine RD_isGu ?_; first | refine RD_grd rfl rfl (fun h => ?_) (fun h => ?_) | (fail_if_success (refine RD_isW rfl ?_); refine RD_grdB rfl rfl (fun h => ?_) (fun h => ?_))))
  · refine ND_ret1 (by first | exact .inl rfl | exact .inr rfl) rfl rfl _ _ subP incL (⟨rfl, rfl, rfl⟩)
  · refine ND_ret1 (by first | exact .inl rfl | exact .inr rfl) rfl rfl _ _ subP incL (⟨rfl, rfl, by rw [gt_out0 (by omega)]⟩)
theorem trim_ok {q : Option Addr} {l : List Int} {n c : Nat} (hn : n = l.length) (h63 : n ≤ 1000000000000) (hc : l.length ≤ c) (hl : slI q (recs eG l) ∈ I0) :
    CD Tryz.prog 255 [.slice q n c] X w0 M0 I0 (fun v M I => M0 = M ∧ I = slI q (recs eG (trimL l)) :: I0 ∧ v = .slice q (trimL l).length c) := by
  subst hn
  refine enterD Tryz.func255 rfl Tryz.ntmps255 rfl ?_
  refine TD_fact (φ := 0 < l.length → Ok q) (fun w hw h => (hw.sl hl).ok (by rw [recs_len]; omega)) (fun hq => ?_)
  repeat (refine wXj ?_)
  refine TD_loop [] rfl (fun k G M I => ∃ m : Nat, m ≤ l.length ∧ k = m ∧ trimL (l.take m) = trimL l ∧ G = [(0, .slice q m c)] ∧ M0 = M ∧ I0 = I) (l.length) _ _ _ subG subP incL (⟨l.length, by omega, rfl, by rw [List.take_length], rfl, rfl, rfl⟩) ?_
  rintro k G M I ⟨m, hm, rfl, ht, rfl, rfl, rfl⟩
  repeat' (first | refine wXj ?_ | (refine TD_isCo ?_; first | refine TD_dec rfl (fun h => ?_) (fun h => ?_) | refine TD_cond rfl (fun h => ?_) (fun h => ?_)) | (refine RD_isGu ?_; first | refine RD_grd rfl rfl (fun h => ?_) (fun h => ?_) | (fail_if_success (refine RD_isW rfl ?_); refine RD_grdB rfl rfl (fun h => ?_) (fun h => ?_))))
  · obtain ⟨b, o, rfl⟩ := (hq (by omega)).cases
    refine RD_c rfl (fun _ => Const_slice0 (k - 1) rfl rfl (by omega) (by omega)) rfl rfl ?_
    repeat (refine wXj ?_)
    have h1 := h
    refine ND_again (k - 1) _ _ _ (by first | omega | (simp only [List.length_append, List.length_cons, List.length_nil]; omega)) subG subP incL (⟨k - 1, by omega, rfl, ?_, rfl, rfl, rfl⟩)
    rw [← ht]
    obtain ⟨j, rfl⟩ : ∃ j, k = j + 1 := ⟨k - 1, by omega⟩
    have hj : j < l.length := by omega
    have e0 : gt l (j : Int) = 0 := by
      have e : ((j + 1 : Nat) : Int) - 1 = j := by omega
      rw [e] at h1
      exact h1
    rw [gt_get hj] at e0
    rw [List.take_succ_eq_append_getElem hj, e0, trim_snoc0]
    rfl
  · have h1 := h
    have htop : Top (l.take k) := by
      obtain ⟨j, rfl⟩ : ∃ j, k = j + 1 := ⟨k - 1, by omega⟩
      have hj : j < l.length := by omega
      rw [List.take_succ_eq_append_getElem hj, Top.snoc, ← gt_get hj]
      have e : ((j + 1 : Nat) : Int) - 1 = j := by omega
      rw [e] at h1
      exact h1
    have e1 : trimL l = l.take k := by rw [← ht, trim_fix htop]
    refine ND_m (fun w hw => hw.takeI (cs := recs eG (trimL l)) (tl := recs eG (l.drop k)) (by rw [e1, ← recs_append, List.take_append_drop]; exact hl)) ?_
    refine ND_ret1 (by first | exact .inl rfl | exact .inr rfl) rfl rfl _ _ subP incL (⟨rfl, rfl, by rw [e1]; simp; omega⟩)
  · have h0 : k = 0 := by omega
    subst h0
    have e1 : trimL l = [] := by rw [← ht]; rfl
    rw [e1]
    refine ND_nilS q ?_
    refine ND_ret1 (by first | exact .inl rfl | exact .inr rfl) rfl rfl _ _ subP incL (⟨rfl, rfl, rfl⟩)
/-- the post of a magnitude made -/
def GrP (n : Nat) (M0 : List Ent) (I0 : List Imm) (v : Value) (M : List Ent) (I : List Imm) : Prop := M0 = M ∧ ∃ q c, v = .slice q (gr n).length c ∧ ((gr n).length ≤ c ∧ (Ok q ∨ ((gr n).length = 0 ∧ c = 0))) ∧ I = slI q (recs eG (gr n)) :: I0
theorem plus_ok {p q : Option Addr} {m n cp cq : Nat} (hm : (gr m).length ≤ 100000000000) (hn : (gr n).length ≤ 100000000000) (hp : slI p (recs eG (gr m)) ∈ I0) (hq : slI q (recs eG (gr n)) ∈ I0) :
    CD Tryz.prog 258 [.slice p (gr m).length cp, .slice q (gr n).length cq] X w0 M0 I0 (GrP (m + n) M0 I0) := by
  have da := gr_dig m
  have db := gr_dig n
  have va := gr_val m
  have vb := gr_val n
  generalize ha : gr m = a at *
  generalize hb : gr n = b at *
  obtain ⟨N, hN⟩ : ∃ N : Nat, N = max a.length b.length + 1 := ⟨_, rfl⟩
  refine enterD Tryz.func258 rfl Tryz.ntmps258 rfl ?_
  repeat (refine wXj ?_)
  (refine RD_makeX (N) rfl rfl (by omega) (by omega) (by omega) (by omega) (made_int _ _) rfl rfl ?_; intro bo; refine ⟨okJ, ?_⟩)
  repeat (refine wXj ?_)
  refine TD_loop [0, 1, 5, 17] rfl (fun k G M I => ∃ (i : Nat) (o : List Int) (cr : Int), i ≤ N ∧ k = N - i ∧ o.length = N ∧ Dig (o.take i) ∧ (0 ≤ cr ∧ cr ≤ 1) ∧ val (o.take i) + 1000000000 ^ i * cr = val (a.take i) + val (b.take i) ∧ G = [(6, .int .u32 cr), (18, .int .i64 i)] ∧ M = .blk bo (recs eG o) 166 :: M0 ∧ I0 = I) (N) _ _ _ subG subP incL (⟨0, _, 0, by omega, by omega, by simp, by simp [Dig], by omega, by simp [val], rfl, rfl, rfl⟩) ?_
  rintro k G M I ⟨i, o, cr, hi, rfl, ho, hd, hcr, hv, rfl, rfl, rfl⟩
  repeat' (first | refine wXj ?_ | (refine TD_isCo ?_; first | refine TD_dec rfl (fun h => ?_) (fun h => ?_) | refine TD_cond rfl (fun h => ?_) (fun h => ?_)) | (refine RD_isGu ?_; first | refine RD_grd rfl rfl (fun h => ?_) (fun h => ?_) | (fail_if_success (refine RD_isW rfl ?_); refine RD_grdB rfl rfl (fun h => ?_) (fun h => ?_))))
  · (refine RD_call rfl (at_ok (i := i) rfl (by omega) hp) rfl rfl ?_; rintro _ _ _ ⟨rfl, rfl, rfl⟩; refine ⟨okJ, ?_⟩)
    have d1 := da.gt i
    have d2 := db.gt i
    repeat (refine wXj ?_)
    (refine RD_call rfl (at_ok (i := i) rfl (by omega) hq) rfl rfl ?_; rintro _ _ _ ⟨rfl, rfl, rfl⟩; refine ⟨okJ, ?_⟩)
    repeat' (first | refine wXj ?_ | (refine TD_isCo ?_; first | refine TD_dec rfl (fun h => ?_) (fun h => ?_) | refine TD_cond rfl (fun h => ?_) (fun h => ?_)) | (refine RD_isGu ?_; first | refine RD_grd rfl rfl (fun h => ?_) (fun h => ?_) | (fail_if_success (refine RD_isW rfl ?_); refine RD_grdB rfl rfl (fun h => ?_) (fun h => ?_))))
    · refine ND_again (N - (i + 1)) _ _ _ (by first | omega | (simp only [List.length_append, List.length_cons, List.length_nil]; omega)) subG subP incL (⟨i + 1, _, 1, by omega, rfl, by rw [st_len]; exact ho, ?_, by omega, ?_, rfl, rfl, rfl⟩)
      · rw [st_nat, take_set_succ _ _ _ (by omega)]; exact hd.snoc (by omega)
      · exact add_step hv (by omega) (s := gt a i + gt b i + cr) rfl (by omega)
    · refine ND_again (N - (i + 1)) _ _ _ (by first | omega | (simp only [List.length_append, List.length_cons, List.length_nil]; omega)) subG subP incL (⟨i + 1, _, 0, by omega, rfl, by rw [st_len]; exact ho, ?_, by omega, ?_, rfl, rfl, rfl⟩)
      · rw [st_nat, take_set_succ _ _ _ (by omega)]; exact hd.snoc (by omega)
      · exact add_step hv (by omega) (s := gt a i + gt b i + cr) rfl (by omega)
  · have hiN : i = N := by omega
    subst hiN
    rw [List.take_of_length_le (show o.length ≤ i by omega)] at hv hd
    rw [List.take_of_length_le (show a.length ≤ i by omega), List.take_of_length_le (show b.length ≤ i by omega), va, vb] at hv
    have hcr0 : cr = 0 := by
      have h1 := val_lt da
      have h2 := val_lt db
      have h3 := pow_mono9 (show a.length ≤ i - 1 by omega)
      have h4 := pow_mono9 (show b.length ≤ i - 1 by omega)
      have h5 : (1000000000 : Int) ^ i = 1000000000 ^ (i - 1) * 1000000000 := by
        rw [← Int.pow_succ]; congr 1; omega
      have h6 := pow_pos9 (i - 1)
      have h7 := val_nonneg hd
      by_cases c : cr = 0
      · exact c
      · have : cr = 1 := by omega
        subst this
        omega
    subst hcr0
    have hg : trimL o = gr (m + n) := trim_gr' hd (by omega)
    refine RD_freezeB remE ?_
    (refine RD_call rfl (trim_ok (l := o) (c := i) ho.symm (by omega) (by omega) memL) rfl rfl ?_; rintro _ _ _ ⟨rfl, rfl, rfl⟩; refine ⟨okJ, ?_⟩)
    repeat (refine wXj ?_)
    rw [hg]
    refine ND_ret1 (by first | exact .inl rfl | exact .inr rfl) rfl rfl _ _ subP incL (⟨rfl, _, _, rfl, ⟨by rw [← hg]; have := trim_take o; obtain ⟨k, h1, h2, _⟩ := this; rw [h2]; simp; omega, .inl (Ok.mk _ _)⟩, rfl⟩)
end
end Go.Proofs.YtllaoaobnnondaaGreatR
namespace Go.Proofs.YtllaoaobnnondaaGreatR
open Go Go.Fx
section
variable {X : List Nat} {w0 : World} {M0 : List Ent} {I0 : List Imm}
theorem trim_le {o : List Int} : (trimL o).length ≤ o.length := by
  obtain ⟨k, h1, h2, _⟩ := trim_take o
  rw [h2]; simp; omega
theorem minus_ok {p q : Option Addr} {m n cp cq : Nat} (hm : (gr m).length ≤ 100000000000) (hle : n ≤ m) (hp : slI p (recs eG (gr m)) ∈ I0) (hq : slI q (recs eG (gr n)) ∈ I0) :
    CD Tryz.prog 259 [.slice p (gr m).length cp, .slice q (gr n).length cq] X w0 M0 I0 (GrP (m - n) M0 I0) := by
  have da := gr_dig m
  have db := gr_dig n
  have va := gr_val m
  have vb := gr_val n
  have hln := gr_len_mono hle
  generalize ha : gr m = a at *
  generalize hb : gr n = b at *
  refine enterD Tryz.func259 rfl Tryz.ntmps259 rfl ?_
  repeat (refine wXj ?_)
  (refine RD_makeX (a.length) rfl rfl (by omega) (by omega) (by omega) (by omega) (made_int _ _) rfl rfl ?_; intro bo; refine ⟨okJ, ?_⟩)
  repeat (refine wXj ?_)
  refine TD_loop [0, 1, 5, 13] rfl (fun k G M I => ∃ (i : Nat) (o : List Int) (cr : Int), i ≤ a.length ∧ k = a.length - i ∧ o.length = a.length ∧ Dig (o.take i) ∧ (0 ≤ cr ∧ cr ≤ 1) ∧ val (o.take i) - 1000000000 ^ i * cr = val (a.take i) - val (b.take i) ∧ G = [(6, .int .u32 cr), (14, .int .i64 i)] ∧ M = .blk bo (recs eG o) 166 :: M0 ∧ I0 = I) (a.length) _ _ _ subG subP incL (⟨0, _, 0, by omega, by omega, by simp, by simp [Dig], by omega, by simp [val], rfl, rfl, rfl⟩) ?_
  rintro k G M I ⟨i, o, cr, hi, rfl, ho, hd, hcr, hv, rfl, rfl, rfl⟩
  repeat' (first | refine wXj ?_ | (refine TD_isCo ?_; first | refine TD_dec rfl (fun h => ?_) (fun h => ?_) | refine TD_cond rfl (fun h => ?_) (fun h => ?_)) | (refine RD_isGu ?_; first | refine RD_grd rfl rfl (fun h => ?_) (fun h => ?_) | (fail_if_success (refine RD_isW rfl ?_); refine RD_grdB rfl rfl (fun h => ?_) (fun h => ?_))))
  · (refine RD_call rfl (at_ok (i := i) rfl (by omega) hq) rfl rfl ?_; rintro _ _ _ ⟨rfl, rfl, rfl⟩; refine ⟨okJ, ?_⟩)
    have d1 := da.gt i
    have d2 := db.gt i
    repeat' (first | refine wXj ?_ | (refine TD_isCo ?_; first | refine TD_dec rfl (fun h => ?_) (fun h => ?_) | refine TD_cond rfl (fun h => ?_) (fun h => ?_)) | (refine RD_isGu ?_; first | refine RD_grd rfl rfl (fun h => ?_) (fun h => ?_) | (fail_if_success (refine RD_isW rfl ?_); refine RD_grdB rfl rfl (fun h => ?_) (fun h => ?_))))
    · refine ND_again (a.length - (i + 1)) _ _ _ (by first | omega | (simp only [List.length_append, List.length_cons, List.length_nil]; omega)) subG subP incL (⟨i + 1, _, 1, by omega, rfl, by rw [st_len]; exact ho, ?_, by omega, ?_, rfl, rfl, rfl⟩)
      · rw [st_nat, take_set_succ _ _ _ (by omega)]; exact hd.snoc (by omega)
      · exact sub_step hv (by omega) (show gt a i + 1000000000 - (gt b i + cr) - 1000000000 * 1 = gt a i - gt b i - cr by omega)
    · refine ND_again (a.length - (i + 1)) _ _ _ (by first | omega | (simp only [List.length_append, List.length_cons, List.length_nil]; omega)) subG subP incL (⟨i + 1, _, 0, by omega, rfl, by rw [st_len]; exact ho, ?_, by omega, ?_, rfl, rfl, rfl⟩)
      · rw [st_nat, take_set_succ _ _ _ (by omega)]; exact hd.snoc (by omega)
      · exact sub_step hv (by omega) (show gt a i - (gt b i + cr) - 1000000000 * 0 = gt a i - gt b i - cr by omega)
  · have hiN : i = a.length := by omega
    subst hiN
    rw [List.take_of_length_le (show o.length ≤ a.length by omega)] at hv hd
    rw [List.take_length, List.take_of_length_le hln, va, vb] at hv
    have hcr0 : cr = 0 := by
      have h1 := val_lt hd
      have h7 := val_nonneg hd
      rw [ho] at h1
      by_cases c : cr = 0
      · exact c
      · have : cr = 1 := by omega
        subst this
        omega
    subst hcr0
    have hg : trimL o = gr (m - n) := trim_gr' hd (by omega)
    refine RD_freezeB remE ?_
    (refine RD_call rfl (trim_ok (l := o) (c := a.length) ho.symm (by omega) (by omega) memL) rfl rfl ?_; rintro _ _ _ ⟨rfl, rfl, rfl⟩; refine ⟨okJ, ?_⟩)
    repeat (refine wXj ?_)
    have hle2 := trim_le (o := o)
    rw [hg] at hle2 ⊢
    refine ND_ret1 (by first | exact .inl rfl | exact .inr rfl) rfl rfl _ _ subP incL (⟨rfl, _, _, rfl, ⟨by omega, .inl (Ok.mk _ _)⟩, rfl⟩)
theorem split_ok {n : Nat} (hn : n ≤ 18446744073709551615) : CD Tryz.prog 241 [.int .u64 n] X w0 M0 I0 (GrP n M0 I0) := by
  refine enterD Tryz.func241 rfl Tryz.ntmps241 rfl ?_
  repeat (refine wXj ?_)
  refine TD_row0 166 1 ?_
  refine TD_loop [] rfl (fun k G M I => ∃ (m : Nat) (a : Option Addr) (c' : Nat) (xs : List Int), m ≤ n ∧ k = m ∧ (0 < m → xs.length ≤ 2 - (gr m).length + 1) ∧ xs ++ gr m = gr n ∧ xs.length ≤ 3 ∧ G = [(0, .int .u64 m), (3, .slice a xs.length c')] ∧ M = .row a xs.length c' (recs eG xs) 166 1 :: M0 ∧ I0 = I) (n) _ _ _ subG subP incL (⟨n, none, 0, [], by omega, rfl, by simp, by simp, by simp, rfl, rfl, rfl⟩) ?_
  rintro k G M I ⟨m, a, c', xs, hm, rfl, _, hxs, hx3, rfl, rfl, rfl⟩
  have h3 : (gr n).length ≤ 3 := gr_len_le (by omega)
  have h4 : xs.length + (gr k).length ≤ 3 := by rw [← hxs] at h3; simpa using h3
  repeat' (first | refine wXj ?_ | (refine TD_isCo ?_; first | refine TD_dec rfl (fun h => ?_) (fun h => ?_) | refine TD_cond rfl (fun h => ?_) (fun h => ?_)) | (refine RD_isGu ?_; first | refine RD_grd rfl rfl (fun h => ?_) (fun h => ?_) | (fail_if_success (refine RD_isW rfl ?_); refine RD_grdB rfl rfl (fun h => ?_) (fun h => ?_))))
  · have hk : k ≠ 0 := by omega
    have e1 : ((k : Int)).tmod 1000000000 = ((k % 1000000000 : Nat) : Int) := by rw [Int.tmod_eq_emod_of_nonneg (by omega)]; omega
    have e2 : ((k : Int)).tdiv 1000000000 = ((k / 1000000000 : Nat) : Int) := by rw [Int.tdiv_eq_ediv_of_nonneg (by omega)]; omega
    rw [e1]
    have hgk := gr_pos hk
    have h5 : (gr k).length = (gr (k / 1000000000)).length + 1 := by rw [hgk]; simp
    repeat (refine wXj ?_)
    (refine RD_vals (cs := recs eG [((k % 1000000000 : Nat) : Int)]) ([.int .u32 ((k % 1000000000 : Nat) : Int)]) rfl rfl (by intro v hv; repeat (first | exact absurd hv (List.not_mem_nil) | (rcases List.mem_cons.1 hv with rfl | hv; · rfl))) (by omega) rfl rfl rfl ?_; intro b2; refine ⟨okJ, ?_⟩)
    (refine RD_appR (ys := [((k % 1000000000 : Nat) : Int)]) 1 rfl rfl rfl ?_ (by decide) rfl (by omega) (by omega) rfl rfl ?_; (· first | exact Src.blk memL | exact Src.row memL | exact Src.imm memL (by first | assumption | exact .inl (Ok.mk _ _))); intro a2 c2; refine ⟨okJ, ?_⟩)
    repeat (refine wXj ?_)
    rw [e2]
    refine ND_again (k / 1000000000) _ _ _ (by first | omega | (simp only [List.length_append, List.length_cons, List.length_nil]; omega)) subG subP incL (⟨k / 1000000000, a2, c2, _, by omega, rfl, by intro _; simp; omega, by rw [List.append_assoc]; rw [hgk] at hxs; exact hxs, by simp; omega, rfl, rfl, rfl⟩)
  · have h0 : k = 0 := by omega
    subst h0
    rw [gr_zero, List.append_nil] at hxs
    subst hxs
    refine ND_fact (fun w hw => And.intro (hw.rowLe (List.Mem.head _)) ((hw.rowS (List.Mem.head _)).2.imp id And.right)) (fun hc => ?_)
    refine ND_freezeR remE ?_
    refine ND_ret1 (by first | exact .inl rfl | exact .inr rfl) rfl rfl _ _ subP incL (⟨rfl, _, _, rfl, hc, rfl⟩)
end
end Go.Proofs.YtllaoaobnnondaaGreatR
namespace Go.Proofs.YtllaoaobnnondaaGreatR
open Go Go.Fx
theorem st_add (l : List Int) (i j : Nat) (x : Int) : st l ((i : Int) + (j : Int)) x = l.set (i + j) x := by
  unfold st
  congr 1
theorem gt_add (l : List Int) (i j : Nat) : gt l ((i : Int) + (j : Int)) = l.getD (i + j) 0 := gtD l (i + j)
theorem getD_set_ne' {l : List Int} {i j : Nat} (x : Int) (h : i ≠ j) : (l.set i x).getD j 0 = l.getD j 0 := by
  simp [List.getD, List.getElem?_set_ne h]
section
variable {X : List Nat} {w0 : World} {M0 : List Ent} {I0 : List Imm}
theorem times_ok {p q : Option Addr} {m n cp cq : Nat} (hm : (gr m).length ≤ 100000000000) (hn : (gr n).length ≤ 100000000000) (hp : slI p (recs eG (gr m)) ∈ I0) (hq : slI q (recs eG (gr n)) ∈ I0) :
    CD Tryz.prog 247 [.slice p (gr m).length cp, .slice q (gr n).length cq] X w0 M0 I0 (GrP (m * n) M0 I0) := by
  have da := gr_dig m
  have db := gr_dig n
  have va := gr_val m
  have vb := gr_val n
  generalize ha : gr m = a at *
  generalize hb : gr n = b at *
  refine enterD Tryz.func247 rfl Tryz.ntmps247 rfl ?_
  repeat (refine wXj ?_)
  (refine RD_makeX (a.length + b.length) rfl rfl (by omega) (by omega) (by omega) (by omega) (made_int _ _) rfl rfl ?_; intro bo; refine ⟨okJ, ?_⟩)
  repeat (refine wXj ?_)
  refine TD_loop [1, 5, 18, 19] rfl (fun k G M I => ∃ (i : Nat) (o : List Int), i ≤ a.length ∧ k = a.length - i ∧ o.length = a.length + b.length ∧ Dig o ∧ val o = val (a.take i) * val b ∧ (∀ j : Nat, i + b.length ≤ j → o.getD j 0 = 0) ∧ G = [(20, .int .i64 i)] ∧ M = .blk bo (recs eG o) 166 :: M0 ∧ I0 = I) (a.length) _ _ _ subG subP incL (⟨0, _, by omega, by omega, by simp, Dig.zeros _, by rw [val_zeros]; simp [val], fun j _ => by simp [List.getD, List.getElem?_replicate]; split <;> rfl, rfl, rfl, rfl⟩) ?_
  rintro k G M I ⟨i, o, hi, rfl, ho, hd, hv, hz, rfl, rfl, rfl⟩
  repeat' (first | refine wXj ?_ | (refine TD_isCo ?_; first | refine TD_dec rfl (fun h => ?_) (fun h => ?_) | refine TD_cond rfl (fun h => ?_) (fun h => ?_)) | (refine RD_isGu ?_; first | refine RD_grd rfl rfl (fun h => ?_) (fun h => ?_) | (fail_if_success (refine RD_isW rfl ?_); refine RD_grdB rfl rfl (fun h => ?_) (fun h => ?_))))
  · have hia : i < a.length := by omega
    have d1 := da.gt i
    refine TD_loop [1, 5, 6, 7, 18, 19, 20, 25, 26] rfl (fun k G M I => ∃ (j : Nat) (u : List Int) (c : Int), j ≤ b.length ∧ k = b.length - j ∧ u.length = a.length + b.length ∧ Dig u ∧ (0 ≤ c ∧ c < 1000000000) ∧ val u + 1000000000 ^ (i + j) * c = val (a.take i) * val b + 1000000000 ^ i * (gt a i * val (b.take j)) ∧ (∀ j : Nat, i + b.length ≤ j → u.getD j 0 = 0) ∧ G = [(8, .int .u64 c), (27, .int .i64 j)] ∧ M = .blk bo (recs eG u) 166 :: M0 ∧ I0 = I) (b.length) _ _ _ subG subP incL (⟨0, o, 0, by omega, by omega, ho, hd, by omega, by simp [val, hv], hz, rfl, rfl, rfl⟩) ?_
    rintro k G M I ⟨j, u, c, hj, rfl, hu, hdu, hc, hvu, hzu, rfl, rfl, rfl⟩
    have d2 := db.gt j
    have d3 := hdu.gt ((i : Int) + j)
    have d4 := mul_small d1 d2 d3 hc
    have e1 : (gt u ((i : Int) + j) + gt a i * gt b j + c).tmod 1000000000 = (gt u ((i : Int) + j) + gt a i * gt b j + c) % 1000000000 := Int.tmod_eq_emod_of_nonneg d4.2.1.1
    have e2 : (gt u ((i : Int) + j) + gt a i * gt b j + c).tdiv 1000000000 = (gt u ((i : Int) + j) + gt a i * gt b j + c) / 1000000000 := Int.tdiv_eq_ediv_of_nonneg d4.2.1.1
    repeat' (first | refine wXj ?_ | (refine TD_isCo ?_; first | refine TD_dec rfl (fun h => ?_) (fun h => ?_) | refine TD_cond rfl (fun h => ?_) (fun h => ?_)) | (refine RD_isGu ?_; first | refine RD_grd rfl rfl (fun h => ?_) (fun h => ?_) | (fail_if_success (refine RD_isW rfl ?_); refine RD_grdB rfl rfl (fun h => ?_) (fun h => ?_))))
    · have hst := mul_in (o := u) (b := b) (j := j) hvu (by omega)
      rw [e1, e2]
      refine ND_again (b.length - (j + 1)) _ _ _ (by first | omega | (simp only [List.length_append, List.length_cons, List.length_nil]; omega)) subG subP incL (⟨j + 1, _, _, by omega, rfl, by rw [st_len]; exact hu, ?_, d4.2.2, ?_, ?_, rfl, rfl, rfl⟩)
      · rw [st_add]; exact hdu.set _ (by omega)
      · rw [st_add, gt_add, gtD, gtD]
        rw [gtD] at hst
        exact hst
      · intro t ht
        rw [st_add, getD_set_ne' _ (by omega)]
        exact hzu t ht
    · have hjb : j = b.length := by omega
      subst hjb
      have hst := mul_out (o := u) (b := b) hvu (by omega) (hzu _ (Nat.le_refl _))
      repeat (refine wXj ?_)
      refine ND_again (a.length - (i + 1)) _ _ _ (by first | omega | (simp only [List.length_append, List.length_cons, List.length_nil]; omega)) subG subP incL (⟨i + 1, _, by omega, rfl, by rw [st_len]; exact hu, ?_, ?_, ?_, rfl, rfl, rfl⟩)
      · rw [st_add]; exact hdu.set _ hc
      · rw [st_add, hst, val_take_succ, gtD]
        rw [Int.add_mul, Int.mul_assoc]
      · intro t ht
        rw [st_add, getD_set_ne' _ (by omega)]
        exact hzu t (by omega)
  · have hiN : i = a.length := by omega
    subst hiN
    rw [List.take_length, va, vb] at hv
    have hg : trimL o = gr (m * n) := trim_gr' hd (by rw [hv, Int.natCast_mul])
    refine RD_freezeB remE ?_
    (refine RD_call rfl (trim_ok (l := o) (c := a.length + b.length) ho.symm (by omega) (by omega) memL) rfl rfl ?_; rintro _ _ _ ⟨rfl, rfl, rfl⟩; refine ⟨okJ, ?_⟩)
    repeat (refine wXj ?_)
    have hle2 := trim_le (o := o)
    rw [hg] at hle2 ⊢
    refine ND_ret1 (by first | exact .inl rfl | exact .inr rfl) rfl rfl _ _ subP incL (⟨rfl, _, _, rfl, ⟨by omega, .inl (Ok.mk _ _)⟩, rfl⟩)
end
end Go.Proofs.YtllaoaobnnondaaGreatR
namespace Go.Proofs.YtllaoaobnnondaaGreatR
open Go Go.Fx
theorem own_blkT {w : World} {base b : Nat} {e : TypeId} {sz m c : Nat} {cs : List Value} (h : Blk w b cs e) (hb : base ≤ b) (hl : cs.length = c * sz) (hmc : m ≤ c) (hm : c ≤ 9223372036854775807) : w.ownsRow base e sz (.slice (some ⟨b, 0, none⟩) m c) m (cs.take (m * sz)) :=
  ⟨by rw [List.length_take, hl, Nat.min_eq_left (Nat.mul_le_mul_right _ hmc)], .inr ⟨b, c, cs.toArray, rfl, hb, h, hmc, by simpa [maxLen] using hm, by simpa using hl, by simp⟩⟩
theorem _root_.Go.Fx.Mem.toRowT {X : List Nat} {w0 w : World} {M M' : List Ent} {I : List Imm} {b m c : Nat} {cs : List Value} {e : TypeId} (sz : Nat) (h : Mem X w0 M I w) (hr : Rep (.blk b cs e) (.row (some ⟨b, 0, none⟩) m c (cs.take (m * sz)) e sz) M M') (hl : cs.length = c * sz) (hmc : m ≤ c) (hm : c ≤ 9223372036854775807) : Mem X w0 M' I w := by
  have hb : Blk w b cs e := h.ent _ hr.mem
  exact h.upd hr (Ext.refl _ _) (fun b hb => .inl hb) (by simp [Ent.blocks]) (own_blkT hb (Nat.zero_le _) hl hmc hm)
theorem _root_.Go.Fx.Mem.imm0 {X : List Nat} {w0 w : World} {M : List Ent} {I : List Imm} (h : Mem X w0 M I w) : Mem [] w [] [] w := ⟨Ext.refl _ _, fun _ h => absurd h (by simp [muts]), by simp [muts], fun _ h => absurd h (by simp), fun _ h => absurd h (by simp)⟩
theorem recs_takeG (l : List Int) (k : Nat) : (recs eG l).take k = recs eG (l.take k) := by
  rw [recs_ints, recs_ints, List.map_take]
section
variable {X : List Nat} {w0 : World} {M0 : List Ent} {I0 : List Imm}
theorem timesM_ok {p q : Option Addr} {m n cp cq : Nat} (hm : (gr m).length ≤ 100000000000) (hn : (gr n).length ≤ 100000000000) (hp : slI p (recs eG (gr m)) ∈ I0) (hq : slI q (recs eG (gr n)) ∈ I0) :
    CD Tryz.prog 247 [.slice p (gr m).length cp, .slice q (gr n).length cq] X w0 M0 I0 (fun v M I => ∃ b c, v = .slice (some ⟨b, 0, none⟩) (gr (m * n)).length c ∧ (gr (m * n)).length ≤ c ∧ M = .row (some ⟨b, 0, none⟩) (gr (m * n)).length c (recs eG (gr (m * n))) 166 1 :: M0 ∧ I0 = I) := by
  have da := gr_dig m
  have db := gr_dig n
  have va := gr_val m
  have vb := gr_val n
  generalize ha : gr m = a at *
  generalize hb : gr n = b at *
  refine enterD Tryz.func247 rfl Tryz.ntmps247 rfl ?_
  repeat (refine wXj ?_)
  (refine RD_makeX (a.length + b.length) rfl rfl (by omega) (by omega) (by omega) (by omega) (made_int _ _) rfl rfl ?_; intro bo; refine ⟨okJ, ?_⟩)
  repeat (refine wXj ?_)
  refine TD_loop [1, 5, 18, 19] rfl (fun k G M I => ∃ (i : Nat) (o : List Int), i ≤ a.length ∧ k = a.length - i ∧ o.length = a.length + b.length ∧ Dig o ∧ val o = val (a.take i) * val b ∧ (∀ j : Nat, i + b.length ≤ j → o.getD j 0 = 0) ∧ G = [(20, .int .i64 i)] ∧ M = .blk bo (recs eG o) 166 :: M0 ∧ I0 = I) (a.length) _ _ _ subG subP incL (⟨0, _, by omega, by omega, by simp, Dig.zeros _, by rw [val_zeros]; simp [val], fun j _ => by simp [List.getD, List.getElem?_replicate]; split <;> rfl, rfl, rfl, rfl⟩) ?_
  rintro k G M I ⟨i, o, hi, rfl, ho, hd, hv, hz, rfl, rfl, rfl⟩
  repeat' (first | refine wXj ?_ | (refine TD_isCo ?_; first | refine TD_dec rfl (fun h => ?_) (fun h => ?_) | refine TD_cond rfl (fun h => ?_) (fun h => ?_)) | (refine RD_isGu ?_; first | refine RD_grd rfl rfl (fun h => ?_) (fun h => ?_) | (fail_if_success (refine RD_isW rfl ?_); refine RD_grdB rfl rfl (fun h => ?_) (fun h => ?_))))
  · have hia : i < a.length := by omega
    have d1 := da.gt i
    refine TD_loop [1, 5, 6, 7, 18, 19, 20, 25, 26] rfl (fun k G M I => ∃ (j : Nat) (u : List Int) (c : Int), j ≤ b.length ∧ k = b.length - j ∧ u.length = a.length + b.length ∧ Dig u ∧ (0 ≤ c ∧ c < 1000000000) ∧ val u + 1000000000 ^ (i + j) * c = val (a.take i) * val b + 1000000000 ^ i * (gt a i * val (b.take j)) ∧ (∀ j : Nat, i + b.length ≤ j → u.getD j 0 = 0) ∧ G = [(8, .int .u64 c), (27, .int .i64 j)] ∧ M = .blk bo (recs eG u) 166 :: M0 ∧ I0 = I) (b.length) _ _ _ subG subP incL (⟨0, o, 0, by omega, by omega, ho, hd, by omega, by simp [val, hv], hz, rfl, rfl, rfl⟩) ?_
    rintro k G M I ⟨j, u, c, hj, rfl, hu, hdu, hc, hvu, hzu, rfl, rfl, rfl⟩
    have d2 := db.gt j
    have d3 := hdu.gt ((i : Int) + j)
    have d4 := mul_small d1 d2 d3 hc
    have e1 : (gt u ((i : Int) + j) + gt a i * gt b j + c).tmod 1000000000 = (gt u ((i : Int) + j) + gt a i * gt b j + c) % 1000000000 := Int.tmod_eq_emod_of_nonneg d4.2.1.1
    have e2 : (gt u ((i : Int) + j) + gt a i * gt b j + c).tdiv 1000000000 = (gt u ((i : Int) + j) + gt a i * gt b j + c) / 1000000000 := Int.tdiv_eq_ediv_of_nonneg d4.2.1.1
    repeat' (first | refine wXj ?_ | (refine TD_isCo ?_; first | refine TD_dec rfl (fun h => ?_) (fun h => ?_) | refine TD_cond rfl (fun h => ?_) (fun h => ?_)) | (refine RD_isGu ?_; first | refine RD_grd rfl rfl (fun h => ?_) (fun h => ?_) | (fail_if_success (refine RD_isW rfl ?_); refine RD_grdB rfl rfl (fun h => ?_) (fun h => ?_))))
    · have hst := mul_in (o := u) (b := b) (j := j) hvu (by omega)
      rw [e1, e2]
      refine ND_again (b.length - (j + 1)) _ _ _ (by first | omega | (simp only [List.length_append, List.length_cons, List.length_nil]; omega)) subG subP incL (⟨j + 1, _, _, by omega, rfl, by rw [st_len]; exact hu, ?_, d4.2.2, ?_, ?_, rfl, rfl, rfl⟩)
      · rw [st_add]; exact hdu.set _ (by omega)
      · rw [st_add, gt_add, gtD, gtD]
        rw [gtD] at hst
        exact hst
      · intro t ht
        rw [st_add, getD_set_ne' _ (by omega)]
        exact hzu t ht
    · have hjb : j = b.length := by omega
      subst hjb
      have hst := mul_out (o := u) (b := b) hvu (by omega) (hzu _ (Nat.le_refl _))
      repeat (refine wXj ?_)
      refine ND_again (a.length - (i + 1)) _ _ _ (by first | omega | (simp only [List.length_append, List.length_cons, List.length_nil]; omega)) subG subP incL (⟨i + 1, _, by omega, rfl, by rw [st_len]; exact hu, ?_, ?_, ?_, rfl, rfl, rfl⟩)
      · rw [st_add]; exact hdu.set _ hc
      · rw [st_add, hst, val_take_succ, gtD]
        rw [Int.add_mul, Int.mul_assoc]
      · intro t ht
        rw [st_add, getD_set_ne' _ (by omega)]
        exact hzu t (by omega)
  · have hiN : i = a.length := by omega
    subst hiN
    rw [List.take_length, va, vb] at hv
    have hg : trimL o = gr (m * n) := trim_gr' hd (by rw [hv, Int.natCast_mul])
    (refine RD_call rfl (CD.lend [slI (some ⟨bo, 0, none⟩) (recs eG o)] (fun w hw => Mem.lendB (b := bo) (e := 166) memL hw hw.imm0) (fun W => (trim_ok (X := []) (w0 := W) (M0 := []) (I0 := [slI (some ⟨bo, 0, none⟩) (recs eG o)]) (l := o) (c := a.length + b.length) ho.symm (by omega) (by omega) memL).mono (fun _ _ _ h => h.2.2))) rfl rfl ?_; rintro _ _ _ ⟨rfl, rfl, rfl⟩; refine ⟨okJ, ?_⟩)
    repeat (refine wXj ?_)
    have hle2 := trim_le (o := o)
    obtain ⟨kk, hk1, hk2, _⟩ := trim_take o
    have hlk : (gr (m * n)).length = kk := by rw [← hg, hk2, List.length_take]; omega
    rw [hg] at hle2 ⊢
    refine ND_m (I' := I0) (M' := .row (some ⟨bo, 0, none⟩) (gr (m * n)).length (a.length + b.length) (recs eG (gr (m * n))) 166 1 :: M0) (fun w hw => ?_) ?_
    · refine hw.toRowT (b := bo) (e := 166) (cs := recs eG o) (c := a.length + b.length) (m := (gr (m * n)).length) 1 ?_ (by rw [recs_ints, List.length_map]; omega) (by omega) (by omega)
      have e : (recs eG o).take ((gr (m * n)).length * 1) = recs eG (gr (m * n)) := by rw [hlk, Nat.mul_one, ← hg, hk2, recs_takeG]
      rw [e]
      exact repE
    · refine ND_ret1 (by first | exact .inl rfl | exact .inr rfl) rfl rfl _ _ subP incL (⟨_, _, rfl, by omega, rfl, rfl⟩)
end
end Go.Proofs.YtllaoaobnnondaaGreatR

/- integer: Compare integer: Of Fractions in memory: records, facts, what follows from facts. The symbolic heap, continued: rules whose conclusions are ready to read. -/
import Derived.Test.YtdmlebigkakplaaGreatZmas
import Derived.Test.YtdmlebigkakplaaGreatZmao
import Derived.Test.YtdmlebigkakplaaGreatZmai
set_option linter.unusedSimpArgs false
set_option linter.unusedVariables false
namespace Go.Proofs.YtdmlebigkakplaaGreat
open Go Go.Fx
theorem cmp_signs {y z : Int} (h : y.sign ≠ z.sign) : cmpV y.sign z.sign = cmpV y z := by
  unfold cmpV
  rcases Int.lt_trichotomy y 0 with hy | hy | hy <;> rcases Int.lt_trichotomy z 0 with hz | hz | hz <;>
    simp_all [Int.sign_eq_one_of_pos, Int.sign_eq_neg_one_of_neg] <;> omega
theorem cmp_abs {y z : Int} (h : y.sign = z.sign) : cmpV y z = if y < 0 then -cmpV y.natAbs z.natAbs else cmpV y.natAbs z.natAbs := by
  have h1 : y < 0 ↔ z < 0 := by rw [← Int.sign_eq_neg_one_iff_neg, ← Int.sign_eq_neg_one_iff_neg, h]
  unfold cmpV
  by_cases hy : y < 0
  · have hz := h1.1 hy
    rw [if_pos hy]
    split <;> split <;> (try split) <;> (try split) <;> omega
  · have hz : ¬ z < 0 := fun hz => hy (h1.2 hz)
    rw [if_neg hy]
    split <;> split <;> (try split) <;> (try split) <;> omega
section
variable {X : List Nat} {w0 : World} {M0 : List Ent} {I0 : List Imm}
set_option maxRecDepth 100000 in
set_option maxHeartbeats 4000000 in
theorem Compare_ok {u v : Value} {y z : Int} {k m : Nat} (hk : k ≤ 1000000000000) (hm : m ≤ 1000000000000) (hu : isI u y k ∈ I0) (hv : isI v z m ∈ I0) : CD Tryz.prog 228 [u, v] X w0 M0 I0 (fun v M I => M0 = M ∧ I0 = I ∧ v = .int .i64 (cmpV y z)) := by
  have hS1 := fun M0 I0 h => Sign_ok (X := X) (w0 := w0) (M0 := M0) (I0 := I0) (u := u) (z := y) hk h
  have hS2 := fun M0 I0 h => Sign_ok (X := X) (w0 := w0) (M0 := M0) (I0 := I0) (u := v) (z := z) hm h
  refine CD_openI hu (fun q cq e hc hy => ?_)
  subst e
  refine CD_openI (List.Mem.tail _ hv) (fun q' cq' e hc' hz => ?_)
  subst e
  have hl := len_pow hy hk
  have hl' := len_pow hz hm
  unfold iv at *
  refine enterD Tryz.func228 rfl Tryz.ntmps228 rfl ?_
  refine TD_seq ?_
  refine TD_region ?_
  (refine RD_box rfl rfl rfl ?_; intro b; refine ⟨okK, ?_⟩)
  (refine RD_box rfl rfl rfl ?_; intro b2; refine ⟨okK, ?_⟩)
  repeat' (first | refine TD_region ?_ | refine TD_ret ?_ | refine TD_skip ?_ | refine TD_label ?_ | refine TD_block ?_ | refine TD_exit ?_ | refine ND_then ?_ | refine ND_thenR ?_ | refine ND_thenE ?_ | refine ND_inN ?_ | refine ND_inR ?_ | refine ND_inE ?_ | refine ND_inO rfl ?_ | refine RD_nil ?_ | (refine RD_isGu ?_; first | refine RD_skip rfl rfl rfl ?_ | (refine RD_isEf rfl rfl ?_; refine RD_skipE rfl rfl rfl okK ?_) | refine RD_grdY rfl rfl (by omega) ?_ | refine RD_grdN rfl rfl (by omega) ?_ | refine RD_grd rfl rfl (fun h => ?_) (fun h => ?_) | (fail_if_success (refine RD_isW rfl ?_); refine RD_grdB rfl rfl (fun h => ?_) (fun h => ?_))) | (refine RD_isUn ?_; refine RD_c rfl (fun _ => Const_notB rfl) rfl rfl ?_) | refine RD_c rfl (fun _ => Const_pure rfl) rfl rfl ?_ | (refine RD_isBi ?_; first | refine RD_c rfl (fun _ => Const_add rfl rfl w_) rfl rfl ?_ | refine RD_c rfl (fun _ => Const_sub rfl rfl w_) rfl rfl ?_ | refine RD_c rfl (fun _ => Const_mul rfl rfl w_) rfl rfl ?_ | refine RD_c rfl (fun _ => Const_quo rfl rfl (by omega) q_) rfl rfl ?_ | refine RD_c rfl (fun _ => Const_rem rfl rfl (by omega) rfl) rfl rfl ?_ | refine RD_c rfl (fun _ => Const_half rfl rfl) rfl rfl ?_ | refine RD_c rfl (fun _ => Const_eqBB rfl rfl) rfl rfl ?_ | refine RD_c rfl (fun _ => Const_neBB rfl rfl) rfl rfl ?_) | (refine RD_isUn ?_; first | refine RD_c rfl (fun _ => Const_neg rfl w_) rfl rfl ?_) | (refine RD_isCv ?_; first | refine RD_c rfl (fun _ => Const_conv rfl w_) rfl rfl ?_) | (refine RD_isCa ?_; first | refine RD_c rfl (fun _ => Const_len rfl) rfl rfl ?_ | refine RD_c rfl (fun _ => Const_minM rfl rfl) rfl rfl ?_ | refine RD_c rfl (fun _ => Const_maxM rfl rfl) rfl rfl ?_ | refine RD_c rfl (fun _ => Const_min3 rfl rfl rfl) rfl rfl ?_) | (refine RD_isFa ?_; first | refine RD_fldP rfl (by decide) rfl rfl ?_ | refine RD_fld rfl (by decide) rfl rfl ?_) | (refine RD_isIx ?_; first | refine RD_ixB rfl rfl bdI rfl rfl ?_ | refine RD_ixI vwK rfl rfl bdI memL posC rfl rfl ?_ | refine RD_ixR vwK rfl rfl bdI memL posC rfl rfl ?_ | refine RD_c rfl (fun _ => Const_indexA rfl rfl bdI) rfl rfl ?_) | (refine RD_isLd ?_; first | refine RD_ldI vwK rfl memL atC rfl rfl ?_ | refine RD_ldR vwK rfl memL atC rfl rfl ?_ | refine RD_ldB vwK rfl memL atC rfl rfl ?_ | refine RD_ldIB vwK rfl memL atC rfl rfl ?_ | refine RD_ldNI vwK rfl memL atsC lenC rfl rfl ?_ | refine RD_ldNR vwK rfl memL atsC lenC rfl rfl ?_ | refine RD_ldNB vwK rfl memL atsC lenC rfl rfl ?_ | refine RD_ldNIB vwK rfl memL atsC lenC rfl rfl ?_) | (refine RD_isFd ?_; first | refine RD_c rfl (fun _ => Const_field1 rfl rfl) rfl rfl ?_ | refine RD_c rfl (fun _ => Const_fieldN rfl) rfl rfl ?_) | (refine RD_isSt ?_; first | refine RD_st rfl rfl rfl repE stC rfl rfl ⟨okK, ?_⟩ | refine RD_stN rfl rfl lenC oneC repE stsC rfl rfl ⟨okK, ?_⟩) | (refine TD_isCo ?_; first | refine TD_cond_true rfl ?_ | refine TD_cond_false rfl ?_ | refine TD_yes rfl (by omega) ?_ | refine TD_no rfl (by omega) ?_ | refine TD_dec rfl (fun h => ?_) (fun h => ?_) | refine TD_cond rfl (fun h => ?_) (fun h => ?_)))
  (repeat refine TD_seq ?_); refine TD_drawn [0, 2, 1, 3, 4, 5] [1, 1, 0, 0, 0, 0] mixed (by kernel_rfl) ?_
  repeat (refine wXk ?_)
  (refine RD_call rfl (hS1 _ _ memL) rfl rfl ?_; rintro _ _ _ ⟨rfl, rfl, rfl⟩; refine ⟨okK, ?_⟩)
  repeat (refine wXk ?_)
  (refine RD_call rfl (hS2 _ _ memL) rfl rfl ?_; rintro _ _ _ ⟨rfl, rfl, rfl⟩; refine ⟨okK, ?_⟩)
  by_cases hs : y.sign = z.sign
  · have hca := cmp_abs hs
    repeat (refine wXk ?_)
    (repeat refine TD_seq ?_); refine TD_drawn [0, 2, 1, 3, 4, 5] [2, 2, 0, 0, 0, 0] mixed (by kernel_rfl) ?_
    repeat (refine wXk ?_)
    (refine RD_call rfl (groups_ok (c := cq) hy hk memL) rfl rfl ?_; rintro _ _ _ ⟨rfl, rfl, rfl⟩; refine ⟨okK, ?_⟩)
    repeat (refine wXk ?_)
    (refine RD_call rfl (groups_ok (c := cq') hz hm memL) rfl rfl ?_; rintro _ _ _ ⟨rfl, rfl, rfl⟩; refine ⟨okK, ?_⟩)
    repeat (refine wXk ?_)
    (refine RD_call rfl (compare_ok (by omega) (by omega) memL memL) rfl rfl ?_; rintro _ _ _ ⟨rfl, rfl, rfl⟩; refine ⟨okK, ?_⟩)
    have hcb : -1 ≤ cmpV (y.natAbs : Int) z.natAbs ∧ cmpV (y.natAbs : Int) z.natAbs ≤ 1 := by unfold cmpV; split <;> (try split) <;> omega
    by_cases hy0 : y < 0
    · rw [if_pos hy0] at hca
      rw [hca]
      generalize cmpV (y.natAbs : Int) z.natAbs = cv at *
      repeat (refine wXk ?_)
      refine ND_ret1 (by first | exact .inl rfl | exact .inr rfl) rfl rfl _ _ subP incL (⟨rfl, rfl, congrArg (Value.int .i64) (by omega)⟩)
    · rw [if_neg hy0] at hca
      rw [hca]
      generalize cmpV (y.natAbs : Int) z.natAbs = cv at *
      repeat (refine wXk ?_)
      refine ND_ret1 (by first | exact .inl rfl | exact .inr rfl) rfl rfl _ _ subP incL (⟨rfl, rfl, rfl⟩)
  · rw [← cmp_signs hs]
    repeat (refine wXk ?_)
    (refine RD_call rfl (CD.same (fun w _ => cmpI_w _ _ _)) rfl rfl ?_; rintro _ _ _ ⟨rfl, rfl, rfl⟩; refine ⟨okK, ?_⟩)
    repeat (refine wXk ?_)
    refine ND_ret1 (by first | exact .inl rfl | exact .inr rfl) rfl rfl _ _ subP incL (⟨rfl, rfl, rfl⟩)
end
end Go.Proofs.YtdmlebigkakplaaGreat
namespace Go.Proofs.YtdmlebigkakplaaGreat
open Go Go.Fx
theorem wrap_neg {x : Int} (h : -9223372036854775808 ≤ x ∧ x < 0) : IntKind.u64.wrap x = x + 18446744073709551616 := by
  simp [IntKind.wrap, IntKind.bits, IntKind.signed]; omega
section
variable {X : List Nat} {w0 : World} {M0 : List Ent} {I0 : List Imm}
set_option maxRecDepth 100000 in
theorem Of_ok {x : Int} (hx : 0 ≤ x ∧ x ≤ 9223372036854775807) : CD Tryz.prog 207 [.int .i64 x] X w0 M0 I0 (fun v M I => M0 = M ∧ I = isI v x 63 :: I0) := by
  obtain ⟨n, rfl⟩ : ∃ n : Nat, x = (n : Int) := ⟨x.toNat, by omega⟩
  have hn : n ≤ 2 ^ 63 := by omega
  have hsg : ((n : Nat) : Int) = sg False n := by unfold sg; rw [if_neg (fun h => h)]
  refine enterD Tryz.func207 rfl Tryz.ntmps207 rfl ?_
  refine TD_seq ?_
  refine TD_region ?_
  (refine RD_alloc rfl rfl ?_; intro b; refine ⟨okK, ?_⟩)
  repeat (refine wXk ?_)
  (refine RD_call rfl (split_ok (n := n) (by omega)) rfl rfl ?_; rintro _ _ _ ⟨rfl, q', c', rfl, hc', rfl⟩; refine ⟨okK, ?_⟩)
  have hMd := fun M0 I0 => made_ok (X := X) (w0 := w0) (M0 := M0) (I0 := I0) (p := ((n : Nat) : Int) < 0) (q := q') (c := c') (k := 63) (by have := gr_len_pow hn; omega) hc' hn
  have hs2 : sg (((n : Nat) : Int) < 0) n = (n : Int) := by unfold sg; rw [if_neg (by omega)]
  simp only [hs2] at hMd
  (refine RD_call rfl (hMd _ _ memL) rfl rfl ?_; rintro _ _ _ ⟨rfl, rfl⟩; refine ⟨okK, ?_⟩; refine RD_openI (List.Mem.head _) (fun q2 c2 e__ hc2 hz2 => ?_); subst e__)
  unfold iv
  repeat (refine wXk ?_)
  refine ND_retC (cs := [.bool (B (((n : Nat) : Int) < 0)), .slice q2 (gr ((n : Nat) : Int).natAbs).length c2]) (.inl rfl) rfl rfl memL rfl _ _ subP incL ⟨rfl, rfl⟩
end
end Go.Proofs.YtdmlebigkakplaaGreat
namespace Go.Proofs.YtdmlebigkakplaaGreat
open Go Go.Fx
abbrev vI (q : Option Addr) (c : Nat) (z : Int) : Value := .agg #[.bool (B (z < 0)), .slice q (gr z.natAbs).length c]
/-- a fraction that lies in four cells -/
structure RE where
  q : Rat
  p1 : Option Addr
  c1 : Nat
  p2 : Option Addr
  c2 : Nat
instance : Inhabited RE := ⟨⟨0, none, 0, none, 0⟩⟩
abbrev eR (e : RE) : List Value := [.bool (B (e.q.num < 0)), .slice e.p1 (gr e.q.num.natAbs).length e.c1, .bool (B ((e.q.den : Int) < 0)), .slice e.p2 (gr (e.q.den : Int).natAbs).length e.c2]
abbrev rv (e : RE) : Value := .agg #[.bool (B (e.q.num < 0)), .slice e.p1 (gr e.q.num.natAbs).length e.c1, .bool (B ((e.q.den : Int) < 0)), .slice e.p2 (gr (e.q.den : Int).natAbs).length e.c2]
instance : Sized eR 4 := ⟨fun _ => rfl⟩
instance : Ones eR := ⟨fun m u hu => by
  simp only [eR, List.mem_cons, List.not_mem_nil, or_false] at hu
  rcases hu with rfl | rfl | rfl | rfl <;> rfl⟩
/-- e is a fraction, numerator and denominator at most 2^k -/
structure IsR (e : RE) (k : Nat) (X : List Nat) (w : World) : Prop where
  num : IsI (vI e.p1 e.c1 e.q.num) e.q.num k X w
  den : IsI (vI e.p2 e.c2 e.q.den) e.q.den k X w
abbrev isR (e : RE) (k : Nat) : Imm := IsR e k
instance (e : RE) (k : Nat) : Fx.Good (IsR e k) := ⟨fun X Y w w' h he hY => ⟨Fx.Good.go (φ := IsI _ _ _) X Y w w' h.num he hY, Fx.Good.go (φ := IsI _ _ _) X Y w w' h.den he hY⟩⟩
theorem IsR.mono {e : RE} {k m : Nat} {X : List Nat} {w : World} (h : IsR e k X w) (hk : k ≤ m) : IsR e m X w := ⟨h.num.mono hk, h.den.mono hk⟩
theorem IsI.le {u : Value} {z : Int} {k : Nat} {X : List Nat} {w : World} (h : IsI u z k X w) : z.natAbs ≤ 2 ^ k := by
  obtain ⟨q, c, h1, h2, h3, h4⟩ := h.ex
  exact h3
/-- of a list -/
structure AllR (es : List RE) (k : Nat) (X : List Nat) (w : World) : Prop where
  go : ∀ e ∈ es, IsR e k X w
abbrev allR (es : List RE) (k : Nat) : Imm := AllR es k
instance (es : List RE) (k : Nat) : Fx.Good (AllR es k) := ⟨fun X Y w w' h he hY => ⟨fun e hm => Fx.Good.go (φ := IsR _ _) X Y w w' (h.go e hm) he hY⟩⟩
theorem AllR.mono {es : List RE} {k m : Nat} {X : List Nat} {w : World} (h : AllR es k X w) (hk : k ≤ m) : AllR es m X w := ⟨fun e he => (h.go e he).mono hk⟩
/-- what follows from the facts -/
structure Hv (I : List Imm) (φ : Imm) : Prop where
  go : ∀ (X : List Nat) (w : World), (∀ ψ ∈ I, ψ X w) → φ X w
theorem Hv.mem {I : List Imm} {φ : Imm} (h : φ ∈ I) : Hv I φ := ⟨fun _ _ hw => hw φ h⟩
theorem Hv.q {I : List Imm} {e : RE} {k m : Nat} (h : isR e k ∈ I) (hk : k ≤ m) : Hv I (isR e m) := ⟨fun X w hw => IsR.mono (hw _ h) hk⟩
theorem gt_mem {α : Type} [Inhabited α] {ms : List α} {i : Int} (h : 0 ≤ i ∧ i < ms.length) : gt ms i ∈ ms := List.mem_of_getElem? (gt_some h)
theorem Hv.all {I : List Imm} {es : List RE} {k m : Nat} {i : Int} (h : allR es k ∈ I) (hi : 0 ≤ i ∧ i < es.length) (hk : k ≤ m) : Hv I (isR (gt es i) m) := ⟨fun X w hw => ((hw _ h : AllR es k X w).go _ (gt_mem hi)).mono hk⟩
theorem Hv.inc {I I' : List Imm} {φ : Imm} (h : Hv I φ) (hs : ∀ ψ ∈ I, ψ ∈ I') : Hv I' φ := ⟨fun X w hw => h.go X w (fun ψ hm => hw ψ (hs ψ hm))⟩
theorem Hv.cons {I : List Imm} {φ ψ : Imm} (h : Hv I φ) : Hv (ψ :: I) φ := h.inc (fun _ hm => List.mem_cons_of_mem _ hm)
theorem Hv.allMono {I : List Imm} {es : List RE} {k m : Nat} (h : allR es k ∈ I) (hk : k ≤ m) : Hv I (allR es m) := ⟨fun X w hw => AllR.mono (hw _ h) hk⟩
section
variable {P : Program} {n : Nat} {Q : Exit → Act → World → Prop} {G : Env} {X : List Nat} {w0 : World} {M M' : List Ent} {I I' : List Imm}
theorem Mem.hv {w : World} {φ : Imm} [Fx.Good φ] (h : Hv I φ) (hw : Mem X w0 M I w) : Mem X w0 M (φ :: I) w := hw.add (φ := φ) (h.go _ _ (fun ψ hm => (hw.imm ψ hm).2))
theorem CD_hv {f : FuncId} {vs : List Value} {K : Value → List Ent → List Imm → Prop} {φ : Imm} [Fx.Good φ] (h : Hv I φ) (k : CD P f vs X w0 M (φ :: I) K) : CD P f vs X w0 M I K := ⟨fun w hw => k.go w (Mem.hv h hw)⟩
theorem TD_hv {c : Code} {φ : Imm} [Fx.Good φ] (h : Hv I φ) (k : TD P n c Q G X w0 M (φ :: I)) : TD P n c Q G X w0 M I := TD_m (fun _ hw => Mem.hv h hw) k
theorem RD_hv {ops l : List Oper} {m : Fx.Mode} {φ : Imm} [Fx.Good φ] (h : Hv I φ) (k : RD P n ops Q m l G X w0 M (φ :: I)) : RD P n ops Q m l G X w0 M I := RD_m (fun _ hw => Mem.hv h hw) k
theorem ND_hv {ex : Exit} {φ : Imm} [Fx.Good φ] (h : Hv I φ) (k : ND n Q ex G X w0 M (φ :: I)) : ND n Q ex G X w0 M I := ND_m (fun _ hw => Mem.hv h hw) k
theorem openR {w : World} {e : RE} {k : Nat} (h : Hv I (isR e k)) (hw : Mem X w0 M I w) : Mem X w0 M (isI (vI e.p1 e.c1 e.q.num) e.q.num k :: isI (vI e.p2 e.c2 e.q.den) e.q.den k :: I) w := by
  have hr : IsR e k (muts M) w := h.go _ _ (fun ψ hm => (hw.imm ψ hm).2)
  exact (hw.add (φ := isI (vI e.p2 e.c2 e.q.den) e.q.den k) hr.den).add (φ := isI (vI e.p1 e.c1 e.q.num) e.q.num k) hr.num
theorem CD_openR {f : FuncId} {vs : List Value} {K : Value → List Ent → List Imm → Prop} {e : RE} {k : Nat} (h : Hv I (isR e k)) (c : CD P f vs X w0 M (isI (vI e.p1 e.c1 e.q.num) e.q.num k :: isI (vI e.p2 e.c2 e.q.den) e.q.den k :: I) K) : CD P f vs X w0 M I K := ⟨fun w hw => c.go w (openR h hw)⟩
theorem RD_openR {ops l : List Oper} {m : Fx.Mode} {e : RE} {k : Nat} (h : Hv I (isR e k)) (c : RD P n ops Q m l G X w0 M (isI (vI e.p1 e.c1 e.q.num) e.q.num k :: isI (vI e.p2 e.c2 e.q.den) e.q.den k :: I)) : RD P n ops Q m l G X w0 M I := RD_m (fun _ hw => openR h hw) c
theorem closeR {w : World} {q : Rat} {k k1 k2 : Nat} {p1 p2 : Option Addr} {c1 c2 : Nat} (h1 : isI (vI p1 c1 q.num) q.num k1 ∈ I) (h2 : isI (vI p2 c2 q.den) q.den k2 ∈ I) (hk1 : k1 ≤ k) (hk2 : k2 ≤ k) (hw : Mem X w0 M I w) : Mem X w0 M (isR ⟨q, p1, c1, p2, c2⟩ k :: I) w :=
  hw.add (φ := isR ⟨q, p1, c1, p2, c2⟩ k) ⟨IsI.mono (hw.imm _ h1).2 hk1, IsI.mono (hw.imm _ h2).2 hk2⟩
theorem ND_closeR {ex : Exit} {q : Rat} {k k1 k2 : Nat} {p1 p2 : Option Addr} {c1 c2 : Nat} (h1 : isI (vI p1 c1 q.num) q.num k1 ∈ I) (h2 : isI (vI p2 c2 q.den) q.den k2 ∈ I) (hk1 : k1 ≤ k) (hk2 : k2 ≤ k) (h : ND n Q ex G X w0 M (isR ⟨q, p1, c1, p2, c2⟩ k :: I)) : ND n Q ex G X w0 M I := ND_m (fun _ hw => closeR h1 h2 hk1 hk2 hw) h
theorem RD_closeR {ops l : List Oper} {m : Fx.Mode} {q : Rat} {k k1 k2 : Nat} {p1 p2 : Option Addr} {c1 c2 : Nat} (h1 : isI (vI p1 c1 q.num) q.num k1 ∈ I) (h2 : isI (vI p2 c2 q.den) q.den k2 ∈ I) (hk1 : k1 ≤ k) (hk2 : k2 ≤ k) (h : RD P n ops Q m l G X w0 M (isR ⟨q, p1, c1, p2, c2⟩ k :: I)) : RD P n ops Q m l G X w0 M I := RD_m (fun _ hw => closeR h1 h2 hk1 hk2 hw) h
theorem monoI {w : World} {u : Value} {z : Int} {k m : Nat} (h : isI u z k ∈ I) (hk : k ≤ m) (hw : Mem X w0 M I w) : Mem X w0 M (isI u z m :: I) w := hw.add (φ := isI u z m) (IsI.mono (hw.imm _ h).2 hk)
theorem RD_monoI {ops l : List Oper} {m : Fx.Mode} {u : Value} {z : Int} {k k2 : Nat} (h : isI u z k ∈ I) (hk : k ≤ k2) (c : RD P n ops Q m l G X w0 M (isI u z k2 :: I)) : RD P n ops Q m l G X w0 M I := RD_m (fun _ hw => monoI h hk hw) c
theorem CD_monoI {f : FuncId} {vs : List Value} {K : Value → List Ent → List Imm → Prop} {u : Value} {z : Int} {k k2 : Nat} (h : isI u z k ∈ I) (hk : k ≤ k2) (c : CD P f vs X w0 M (isI u z k2 :: I) K) : CD P f vs X w0 M I K := ⟨fun w hw => c.go w (monoI h hk hw)⟩
theorem CD_leI {f : FuncId} {vs : List Value} {K : Value → List Ent → List Imm → Prop} {u : Value} {z : Int} {k : Nat} (h : isI u z k ∈ I) (c : z.natAbs ≤ 2 ^ k → CD P f vs X w0 M I K) : CD P f vs X w0 M I K := ⟨fun w hw => (c (IsI.le (hw.imm _ h).2)).go w hw⟩
/-- a number known to be smaller than its fact says -/
theorem IsI.tight {u : Value} {z : Int} {k m : Nat} {X : List Nat} {w : World} (h : IsI u z k X w) (hk : z.natAbs ≤ 2 ^ m) : IsI u z m X w := by
  obtain ⟨q, c, h1, h2, h3, h4⟩ := h.ex
  exact ⟨q, c, h1, h2, hk, h4⟩
theorem RD_tightI {ops l : List Oper} {m : Fx.Mode} {u : Value} {z : Int} {k k2 : Nat} (h : isI u z k ∈ I) (hk : z.natAbs ≤ 2 ^ k2) (c : RD P n ops Q m l G X w0 M (isI u z k2 :: I)) : RD P n ops Q m l G X w0 M I := RD_m (fun _ hw => hw.add (φ := isI u z k2) (IsI.tight (hw.imm _ h).2 hk)) c
end
theorem hvR {I : List Imm} {e : RE} {m : Nat} (h : Hv I (isR e m) := by first | exact Hv.mem memL | (refine Hv.q ?_ ?_; exact memL; omega) | (refine Hv.all ?_ ?_ ?_; exact memL; exact bdI; omega) | assumption) : Hv I (isR e m) := h
/-- the post of a fraction -/
def RQ (q : Rat) (k : Nat) (M0 : List Ent) (I0 : List Imm) (v : Value) (M : List Ent) (I : List Imm) : Prop := M0 = M ∧ ∃ e : RE, v = rv e ∧ e.q = q ∧ I = isR e k :: I0
/-- with a code -/
def RQc (q : Rat) (k : Nat) (M0 : List Ent) (I0 : List Imm) (v : Value) (M : List Ent) (I : List Imm) : Prop := M0 = M ∧ ∃ e : RE, v = .tuple #[rv e, .int .i64 0] ∧ e.q = q ∧ I = isR e k :: I0
end Go.Proofs.YtdmlebigkakplaaGreat
namespace Go.Fx
section
variable {P : Program} {n : Nat} {Q Q' : Exit → Act → World → Prop} {G : Env} {X : List Nat} {w0 : World} {M M' : List Ent} {I I' : List Imm}
variable {ops l : List Oper} {m : Mode} {op : Op} {ty : TypeId} {pos : String} {af : Array Edge} {g : Option (Nat × Bool)}
theorem Eff.boxA {w : World} {t : TypeId} {x : Operand} {vs : List Value} (hx : ev G x = some (.agg vs.toArray)) : Eff P n G (.box t x) ty w (fun v w' => ∃ b, w.heap.size ≤ b ∧ v = .pointer (some ⟨b, 0, none⟩) ∧ Blk w' b vs t ∧ Ext [] w w') := by
  have h := Eff_box (P := P) (n := n) (ty := ty) (w := w) (t := t) hx
  refine h.mono (fun v w' ⟨b, hb, hp, hB, hE, _⟩ => ⟨b, by omega, hp, ?_, hE⟩)
  simpa [Value.cells] using hB
theorem RD_boxA {d : Nat} {t : TypeId} {x : Operand} {vs : List Value} (hx : ev G x = some (.agg vs.toArray)) (hg : gst ops G g = some true) (hd : Nat.ble (d + 1) n = true)
    (k : ∀ b, OkD m X w0 (.blk b vs t :: M) I ∧ RD P n ops Q m.nextE l ((d, .pointer (some ⟨b, 0, none⟩)) :: G) X w0 (.blk b vs t :: M) I) :
    RD P n ops Q m (⟨some d, .box t x, ty, pos, af, g⟩ :: l) G X w0 M I :=
  RD_e (d := some d) (K := fun v' M' I' => ∃ b, v' = .pointer (some ⟨b, 0, none⟩) ∧ M' = .blk b vs t :: M ∧ I' = I) hg
    (fun w hw => (Eff.boxA hx).mono (fun _ w' ⟨b, hb, hp, hB, hE⟩ => ⟨_, _, ⟨b, hp, rfl, rfl⟩, hw.push hE (by simp [Ent.blocks, hb]) (by simp [Ent.blocks]) hB⟩)) rfl hd
    (fun _ _ _ ⟨b, hp, hM, hI⟩ => by subst hp; subst hM; subst hI; exact k b)
theorem RD_callS {d : Nat} {f : FuncId} {xs : List Operand} {vs : List Value} {at_ : Array TypeId} {K : Value → List Ent → List Imm → Prop} [FnOk P f] (hx : evs G xs = some vs) (hc : CD P f vs X w0 M I K)
    (hg : gst ops G g = some true) (hd : Nat.ble (d + 1) n = true) (k : ∀ v M' I', K v M' I' → OkD m X w0 M' I' ∧ RD P n ops Q m.nextE l ((d, v) :: G) X w0 M' I') :
    RD P n ops Q m (⟨some d, .call { callee := .value (.func f), args := xs.toArray, argTypes := at_ }, ty, pos, af, g⟩ :: l) G X w0 M I :=
  RD_call (d := some d) hx hc hg hd k
theorem RD_callVS {d : Nat} {h : Operand} {f : FuncId} {fs cs : Array Value} {xs : List Operand} {vs : List Value} {at_ : Array TypeId} {K : Value → List Ent → List Imm → Prop} [FnOk P f] (hh : ev G h = some (.func (.func f) fs cs)) (hx : evs G xs = some vs)
    (hc : CD P f (fs.toList ++ vs ++ cs.toList) X w0 M I K)
    (hg : gst ops G g = some true) (hf : freeK (.call { callee := .value h, args := xs.toArray, argTypes := at_ }) = false) (hd : Nat.ble (d + 1) n = true) (k : ∀ v M' I', K v M' I' → OkD m X w0 M' I' ∧ RD P n ops Q m.nextE l ((d, v) :: G) X w0 M' I') :
    RD P n ops Q m (⟨some d, .call { callee := .value h, args := xs.toArray, argTypes := at_ }, ty, pos, af, g⟩ :: l) G X w0 M I :=
  RD_callV (d := some d) hh hx hc hg hf hd k
section
variable {f : FuncId} {fn : Func} {c : Code} {K : Value → List Ent → List Imm → Prop} {v0 v1 v2 v3 v4 v5 v6 : Value}
theorem enterD0 (hf : P.funcs[f]? = some fn) (hb : fn.body = some c) (hn : fn.ntmps = n) (hl : Nat.ble 0 n = true) (h : TD P n c (Body P fn (KB K X w0)) [] X w0 M I) : CD P f [] X w0 M I K := enterD hf hb hn hl h
theorem enterD1 (hf : P.funcs[f]? = some fn) (hb : fn.body = some c) (hn : fn.ntmps = n) (hl : Nat.ble 1 n = true) (h : TD P n c (Body P fn (KB K X w0)) [(0, v0)] X w0 M I) : CD P f [v0] X w0 M I K := enterD hf hb hn hl h
theorem enterD2 (hf : P.funcs[f]? = some fn) (hb : fn.body = some c) (hn : fn.ntmps = n) (hl : Nat.ble 2 n = true) (h : TD P n c (Body P fn (KB K X w0)) [(0, v0), (1, v1)] X w0 M I) : CD P f [v0, v1] X w0 M I K := enterD hf hb hn hl h
theorem enterD3 (hf : P.funcs[f]? = some fn) (hb : fn.body = some c) (hn : fn.ntmps = n) (hl : Nat.ble 3 n = true) (h : TD P n c (Body P fn (KB K X w0)) [(0, v0), (1, v1), (2, v2)] X w0 M I) : CD P f [v0, v1, v2] X w0 M I K := enterD hf hb hn hl h
theorem enterD4 (hf : P.funcs[f]? = some fn) (hb : fn.body = some c) (hn : fn.ntmps = n) (hl : Nat.ble 4 n = true) (h : TD P n c (Body P fn (KB K X w0)) [(0, v0), (1, v1), (2, v2), (3, v3)] X w0 M I) : CD P f [v0, v1, v2, v3] X w0 M I K := enterD hf hb hn hl h
theorem enterD5 (hf : P.funcs[f]? = some fn) (hb : fn.body = some c) (hn : fn.ntmps = n) (hl : Nat.ble 5 n = true) (h : TD P n c (Body P fn (KB K X w0)) [(0, v0), (1, v1), (2, v2), (3, v3), (4, v4)] X w0 M I) : CD P f [v0, v1, v2, v3, v4] X w0 M I K := enterD hf hb hn hl h
theorem enterD6 (hf : P.funcs[f]? = some fn) (hb : fn.body = some c) (hn : fn.ntmps = n) (hl : Nat.ble 6 n = true) (h : TD P n c (Body P fn (KB K X w0)) [(0, v0), (1, v1), (2, v2), (3, v3), (4, v4), (5, v5)] X w0 M I) : CD P f [v0, v1, v2, v3, v4, v5] X w0 M I K := enterD hf hb hn hl h
end
end
end Go.Fx

/- The walk, kept once. resect: places as they came in; valid, canonical. -/
import Derived.Test.YtdmlebigkakplaaGreatZrsbf
import Derived.Test.YtdmlebigkakplaaGreatZrsak
set_option linter.unusedSimpArgs false
set_option linter.unusedVariables false
namespace Go.Fx
theorem wXh {p g : Prop} (h : g) (w : BoxP g → p := by (intro hh; (first | refine TD_seq ?_ | refine TD_region ?_ | refine TD_ret ?_ | refine TD_skip ?_ | refine TD_label ?_ | refine TD_block ?_ | refine TD_exit ?_ | refine ND_then ?_ | refine ND_thenR ?_ | refine ND_thenE ?_ | refine ND_inN ?_ | refine ND_inR ?_ | refine ND_inE ?_ | refine ND_inO rfl ?_ | refine RD_nil ?_ | (refine RD_isGu ?_; first | refine RD_skip rfl rfl rfl ?_ | (refine RD_isEf rfl rfl ?_; refine RD_skipE rfl rfl rfl okF ?_) | refine RD_grdY rfl rfl (by omega) ?_ | refine RD_grdN rfl rfl (by omega) ?_) | (refine RD_isUn ?_; refine RD_c rfl (fun _ => Const_notB rfl) rfl rfl ?_) | refine RD_c rfl (fun _ => Const_pure rfl) rfl rfl ?_ | (refine RD_isBi ?_; first | refine RD_c rfl (fun _ => Const_add rfl rfl wF) rfl rfl ?_ | refine RD_c rfl (fun _ => Const_sub rfl rfl wF) rfl rfl ?_ | refine RD_c rfl (fun _ => Const_mul rfl rfl wF) rfl rfl ?_ | refine RD_c rfl (fun _ => Const_quo rfl rfl (by omega) qF) rfl rfl ?_ | refine RD_c rfl (fun _ => Const_rem rfl rfl (by omega) rfl) rfl rfl ?_ | refine RD_c rfl (fun _ => Const_half rfl rfl) rfl rfl ?_ | refine RD_c rfl (fun _ => Const_eqBB rfl rfl) rfl rfl ?_ | refine RD_c rfl (fun _ => Const_neBB rfl rfl) rfl rfl ?_ | refine RD_c rfl (fun _ => Const_eqB rfl rfl) rfl rfl ?_ | refine RD_c rfl (fun _ => Const_neB rfl rfl) rfl rfl ?_) | (refine RD_isUn ?_; first | refine RD_c rfl (fun _ => Const_neg rfl wF) rfl rfl ?_) | (refine RD_isCv ?_; first | refine RD_c rfl (fun _ => Const_conv rfl wF) rfl rfl ?_) | (refine RD_isCa ?_; first | refine RD_c rfl (fun _ => Const_len rfl) rfl rfl ?_ | refine RD_c rfl (fun _ => Const_minM rfl rfl) rfl rfl ?_ | refine RD_c rfl (fun _ => Const_maxM rfl rfl) rfl rfl ?_ | refine RD_c rfl (fun _ => Const_min3 rfl rfl rfl) rfl rfl ?_) | (refine RD_isFa ?_; first | refine RD_fldP rfl (by decide) rfl rfl ?_ | refine RD_fld rfl (by decide) rfl rfl ?_) | (refine RD_isIx ?_; first | refine RD_ixB rfl rfl bdI rfl rfl ?_ | refine RD_ixI vwF rfl rfl bdI memF posC rfl rfl ?_ | refine RD_ixR vwF rfl rfl bdI memF posC rfl rfl ?_ | refine RD_c rfl (fun _ => Const_indexA rfl rfl bdI) rfl rfl ?_) | (refine RD_isLd ?_; first | (apply RD_ldZB; exact vwF; exact rfl; (focus ((repeat (first | with_reducible exact List.mem_cons_self | with_reducible assumption | with_reducible refine List.mem_cons_of_mem _ ?_)); done)); exact atY; exact rfl; exact rfl) | (apply RD_ldZIB; exact vwF; exact rfl; (focus ((repeat (first | with_reducible exact List.mem_cons_self | with_reducible assumption | with_reducible refine List.mem_cons_of_mem _ ?_)); done)); exact atY; exact rfl; exact rfl) | (apply RD_ldZI; exact vwF; exact rfl; (focus ((repeat (first | with_reducible exact List.mem_cons_self | with_reducible assumption | with_reducible refine List.mem_cons_of_mem _ ?_)); done)); exact atY; exact rfl; exact rfl) | (apply RD_ldZR; exact vwF; exact rfl; (focus ((repeat (first | with_reducible exact List.mem_cons_self | with_reducible assumption | with_reducible refine List.mem_cons_of_mem _ ?_)); done)); exact atY; exact rfl; exact rfl) | (apply RD_ldB; exact vwF; exact rfl; (focus ((repeat (first | with_reducible exact List.mem_cons_self | with_reducible assumption | with_reducible refine List.mem_cons_of_mem _ ?_)); done)); exact atF; exact rfl; exact rfl) | (apply RD_ldIB; exact vwF; exact rfl; (focus ((repeat (first | with_reducible exact List.mem_cons_self | with_reducible assumption | with_reducible refine List.mem_cons_of_mem _ ?_)); done)); exact atF; exact rfl; exact rfl) | (apply RD_ldI; exact vwF; exact rfl; (focus ((repeat (first | with_reducible exact List.mem_cons_self | with_reducible assumption | with_reducible refine List.mem_cons_of_mem _ ?_)); done)); exact atF; exact rfl; exact rfl) | (apply RD_ldR; exact vwF; exact rfl; (focus ((repeat (first | with_reducible exact List.mem_cons_self | with_reducible assumption | with_reducible refine List.mem_cons_of_mem _ ?_)); done)); exact atF; exact rfl; exact rfl)) | (refine RD_isFd ?_; first | refine RD_c rfl (fun _ => Const_field1 rfl rfl) rfl rfl ?_ | refine RD_c rfl (fun _ => Const_fieldN rfl) rfl rfl ?_) | (refine RD_isSt ?_; first | refine RD_st rfl rfl rfl repF stC rfl rfl ⟨okF, ?_⟩ | refine RD_stN rfl rfl lenC oneC repF stsC rfl rfl ⟨okF, ?_⟩) | (refine TD_isCo ?_; first | refine TD_cond_true rfl ?_ | refine TD_cond_false rfl ?_ | refine TD_yes rfl (by omega) ?_ | refine TD_no rfl (by omega) ?_)); (repeat (first | refine TD_seq ?_ | refine TD_region ?_ | refine TD_ret ?_ | refine TD_skip ?_ | refine TD_label ?_ | refine TD_block ?_ | refine TD_exit ?_ | refine ND_then ?_ | refine ND_thenR ?_ | refine ND_thenE ?_ | refine ND_inN ?_ | refine ND_inR ?_ | refine ND_inE ?_ | refine ND_inO rfl ?_ | refine RD_nil ?_ | (refine RD_isGu ?_; first | refine RD_skip rfl rfl rfl ?_ | (refine RD_isEf rfl rfl ?_; refine RD_skipE rfl rfl rfl okF ?_) | refine RD_grdY rfl rfl (by omega) ?_ | refine RD_grdN rfl rfl (by omega) ?_) | (refine RD_isUn ?_; refine RD_c rfl (fun _ => Const_notB rfl) rfl rfl ?_) | refine RD_c rfl (fun _ => Const_pure rfl) rfl rfl ?_ | (refine RD_isBi ?_; first | refine RD_c rfl (fun _ => Const_add rfl rfl wF) rfl rfl ?_ | refine RD_c rfl (fun _ => Const_sub rfl rfl wF) rfl rfl ?_ | refine RD_c rfl (fun _ => Const_mul rfl rfl wF) rfl rfl ?_ | refine RD_c rfl (fun _ => Const_quo rfl rfl (by omega) qF) rfl rfl ?_ | refine RD_c rfl (fun _ => Const_rem rfl rfl (by omega) rfl) rfl rfl ?_ | refine RD_c rfl (fun _ => Const_half rfl rfl) rfl rfl ?_ | refine RD_c rfl (fun _ => Const_eqBB rfl rfl) rfl rfl ?_ | refine RD_c rfl (fun _ => Const_neBB rfl rfl) rfl rfl ?_ | refine RD_c rfl (fun _ => Const_eqB rfl rfl) rfl rfl ?_ | refine RD_c rfl (fun _ => Const_neB rfl rfl) rfl rfl ?_) | (refine RD_isUn ?_; first | refine RD_c rfl (fun _ => Const_neg rfl wF) rfl rfl ?_) | (refine RD_isCv ?_; first | refine RD_c rfl (fun _ => Const_conv rfl wF) rfl rfl ?_) | (refine RD_isCa ?_; first | refine RD_c rfl (fun _ => Const_len rfl) rfl rfl ?_ | refine RD_c rfl (fun _ => Const_minM rfl rfl) rfl rfl ?_ | refine RD_c rfl (fun _ => Const_maxM rfl rfl) rfl rfl ?_ | refine RD_c rfl (fun _ => Const_min3 rfl rfl rfl) rfl rfl ?_) | (refine RD_isFa ?_; first | refine RD_fldP rfl (by decide) rfl rfl ?_ | refine RD_fld rfl (by decide) rfl rfl ?_) | (refine RD_isIx ?_; first | refine RD_ixB rfl rfl bdI rfl rfl ?_ | refine RD_ixI vwF rfl rfl bdI memF posC rfl rfl ?_ | refine RD_ixR vwF rfl rfl bdI memF posC rfl rfl ?_ | refine RD_c rfl (fun _ => Const_indexA rfl rfl bdI) rfl rfl ?_) | (refine RD_isLd ?_; first | (apply RD_ldZB; exact vwF; exact rfl; (focus ((repeat (first | with_reducible exact List.mem_cons_self | with_reducible assumption | with_reducible refine List.mem_cons_of_mem _ ?_)); done)); exact atY; exact rfl; exact rfl) | (apply RD_ldZIB; exact vwF; exact rfl; (focus ((repeat (first | with_reducible exact List.mem_cons_self | with_reducible assumption | with_reducible refine List.mem_cons_of_mem _ ?_)); done)); exact atY; exact rfl; exact rfl) | (apply RD_ldZI; exact vwF; exact rfl; (focus ((repeat (first | with_reducible exact List.mem_cons_self | with_reducible assumption | with_reducible refine List.mem_cons_of_mem _ ?_)); done)); exact atY; exact rfl; exact rfl) | (apply RD_ldZR; exact vwF; exact rfl; (focus ((repeat (first | with_reducible exact List.mem_cons_self | with_reducible assumption | with_reducible refine List.mem_cons_of_mem _ ?_)); done)); exact atY; exact rfl; exact rfl) | (apply RD_ldB; exact vwF; exact rfl; (focus ((repeat (first | with_reducible exact List.mem_cons_self | with_reducible assumption | with_reducible refine List.mem_cons_of_mem _ ?_)); done)); exact atF; exact rfl; exact rfl) | (apply RD_ldIB; exact vwF; exact rfl; (focus ((repeat (first | with_reducible exact List.mem_cons_self | with_reducible assumption | with_reducible refine List.mem_cons_of_mem _ ?_)); done)); exact atF; exact rfl; exact rfl) | (apply RD_ldI; exact vwF; exact rfl; (focus ((repeat (first | with_reducible exact List.mem_cons_self | with_reducible assumption | with_reducible refine List.mem_cons_of_mem _ ?_)); done)); exact atF; exact rfl; exact rfl) | (apply RD_ldR; exact vwF; exact rfl; (focus ((repeat (first | with_reducible exact List.mem_cons_self | with_reducible assumption | with_reducible refine List.mem_cons_of_mem _ ?_)); done)); exact atF; exact rfl; exact rfl)) | (refine RD_isFd ?_; first | refine RD_c rfl (fun _ => Const_field1 rfl rfl) rfl rfl ?_ | refine RD_c rfl (fun _ => Const_fieldN rfl) rfl rfl ?_) | (refine RD_isSt ?_; first | refine RD_st rfl rfl rfl repF stC rfl rfl ⟨okF, ?_⟩ | refine RD_stN rfl rfl lenC oneC repF stsC rfl rfl ⟨okF, ?_⟩) | (refine TD_isCo ?_; first | refine TD_cond_true rfl ?_ | refine TD_cond_false rfl ?_ | refine TD_yes rfl (by omega) ?_ | refine TD_no rfl (by omega) ?_))); exact hh.out)) : p := w ⟨h⟩
end Go.Fx
namespace Go.Proofs.YtdmlebigkakplaaGreat
open Go Go.Fx
/-- a place as it came in -/
structure PW where
  x : RW
  y : RW
instance : Inhabited PW := ⟨⟨default, default⟩⟩
abbrev ePW (p : PW) : List Value := [.bool p.x.n1, .slice p.x.p1 p.x.g1.length p.x.c1, .bool p.x.n2, .slice p.x.p2 p.x.g2.length p.x.c2, .bool p.y.n1, .slice p.y.p1 p.y.g1.length p.y.c1, .bool p.y.n2, .slice p.y.p2 p.y.g2.length p.y.c2]
abbrev pvW (p : PW) : Value := .agg #[.bool p.x.n1, .slice p.x.p1 p.x.g1.length p.x.c1, .bool p.x.n2, .slice p.x.p2 p.x.g2.length p.x.c2, .bool p.y.n1, .slice p.y.p1 p.y.g1.length p.y.c1, .bool p.y.n2, .slice p.y.p2 p.y.g2.length p.y.c2]
instance : Sized ePW 8 := ⟨fun _ => rfl⟩
instance : Ones ePW := ⟨fun m u hu => by
  simp only [ePW, List.mem_cons, List.not_mem_nil, or_false] at hu
  rcases hu with rfl | rfl | rfl | rfl | rfl | rfl | rfl | rfl <;> rfl⟩
def PE.raw (p : PE) : PW := ⟨p.x.raw, p.y.raw⟩
def RW.small (r : RW) : Prop := r.g1.length ≤ 1000000 ∧ r.g2.length ≤ 1000000
def PW.small (p : PW) : Prop := p.x.small ∧ p.y.small
def PW.good (p : PW) : Prop := p.x.good ∧ p.y.good
instance (p : PW) : Decidable p.good := by unfold PW.good; exact inferInstance
theorem PE.raw_good (p : PE) : p.raw.good := ⟨p.x.raw_good, p.y.raw_good⟩
structure IsPW (p : PW) (X : List Nat) (w : World) : Prop where
  x : IsW p.x X w
  y : IsW p.y X w
abbrev isPW (p : PW) : Imm := IsPW p
instance (p : PW) : Fx.Good (IsPW p) := ⟨fun X Y w w' h he hY => ⟨Fx.Good.go (φ := IsW _) X Y w w' h.x he hY, Fx.Good.go (φ := IsW _) X Y w w' h.y he hY⟩⟩
/-- of lists -/
structure AllW (rs : List RW) (X : List Nat) (w : World) : Prop where
  go : ∀ r ∈ rs, IsW r X w
abbrev allW (rs : List RW) : Imm := AllW rs
instance (rs : List RW) : Fx.Good (AllW rs) := ⟨fun X Y w w' h he hY => ⟨fun r hm => Fx.Good.go (φ := IsW _) X Y w w' (h.go r hm) he hY⟩⟩
structure AllPW (ps : List PW) (X : List Nat) (w : World) : Prop where
  go : ∀ p ∈ ps, IsPW p X w
abbrev allPW (ps : List PW) : Imm := AllPW ps
instance (ps : List PW) : Fx.Good (AllPW ps) := ⟨fun X Y w w' h he hY => ⟨fun r hm => Fx.Good.go (φ := IsPW _) X Y w w' (h.go r hm) he hY⟩⟩
theorem Hv.wAt {I : List Imm} {rs : List RW} {i : Int} (h : Hv I (allW rs)) (hi : 0 ≤ i ∧ i < rs.length) : Hv I (isW (gt rs i)) := ⟨fun X w hw => (h.go X w hw).go _ (gt_mem hi)⟩
theorem Hv.pwAt {I : List Imm} {ps : List PW} {i : Int} (h : Hv I (allPW ps)) (hi : 0 ≤ i ∧ i < ps.length) : Hv I (isPW (gt ps i)) := ⟨fun X w hw => (h.go X w hw).go _ (gt_mem hi)⟩
theorem Hv.pwx {I : List Imm} {p : PW} (h : Hv I (isPW p)) : Hv I (isW p.x) := ⟨fun X w hw => (h.go X w hw).x⟩
theorem Hv.pwy {I : List Imm} {p : PW} (h : Hv I (isPW p)) : Hv I (isW p.y) := ⟨fun X w hw => (h.go X w hw).y⟩
theorem Hv.toPW {I : List Imm} {p : PE} {k : Nat} (h : Hv I (isP p k)) (hk : k ≤ 1000000000000) : Hv I (isPW p.raw) := ⟨fun X w hw => ⟨RE.fit hk (h.go X w hw).x, RE.fit hk (h.go X w hw).y⟩⟩
theorem Hv.pw3 {I : List Imm} {a b c : PW} (h1 : Hv I (isPW a)) (h2 : Hv I (isPW b)) (h3 : Hv I (isPW c)) : Hv I (allPW [a, b, c]) := ⟨fun X w hw => ⟨fun p hp => by
  simp only [List.mem_cons, List.not_mem_nil, or_false] at hp
  rcases hp with rfl | rfl | rfl
  · exact h1.go X w hw
  · exact h2.go X w hw
  · exact h3.go X w hw⟩⟩
theorem Hv.w3 {I : List Imm} {a b c : RW} (h1 : Hv I (isW a)) (h2 : Hv I (isW b)) (h3 : Hv I (isW c)) : Hv I (allW [a, b, c]) := ⟨fun X w hw => ⟨fun p hp => by
  simp only [List.mem_cons, List.not_mem_nil, or_false] at hp
  rcases hp with rfl | rfl | rfl
  · exact h1.go X w hw
  · exact h2.go X w hw
  · exact h3.go X w hw⟩⟩
theorem Mem.pureR {X : List Nat} {w0 w : World} {M : List Ent} {I : List Imm} {e : RE} {k : Nat} (h : Hv I (isR e k)) (hk : k ≤ 20000000) (hw : Mem X w0 M I w) : e.raw.small := by
  have hr : IsR e k (muts M) w := h.go _ _ (fun ψ hm => (hw.imm ψ hm).2)
  have a := gr_len_pow (IsI.le hr.num)
  have b := gr_len_pow (IsI.le hr.den)
  constructor
  · show (gr e.q.num.natAbs).length ≤ _; omega
  · show (gr (e.q.den : Int).natAbs).length ≤ _; omega
theorem Mem.pureP {X : List Nat} {w0 w : World} {M : List Ent} {I : List Imm} {p : PE} {k : Nat} (h : Hv I (isP p k)) (hk : k ≤ 20000000) (hw : Mem X w0 M I w) : p.raw.small := ⟨Mem.pureR h.pxH hk hw, Mem.pureR h.pyH hk hw⟩
theorem CD_fact {P : Program} {f : FuncId} {vs : List Value} {X : List Nat} {w0 : World} {M : List Ent} {I : List Imm} {K : Value → List Ent → List Imm → Prop} {φ : Prop} (h : ∀ w, Mem X w0 M I w → φ) (k : φ → CD P f vs X w0 M I K) : CD P f vs X w0 M I K := ⟨fun w hw => (k (h w hw)).go w hw⟩
theorem all_snoc {α : Type} [Inhabited α] {p : α → Prop} {l : List α} (h : ∀ j : Nat, j < l.length → p (gt l (j : Int))) : ∀ a ∈ l, p a := fun a ha => by
  obtain ⟨j, hj, rfl⟩ := List.mem_iff_getElem.1 ha
  have := h j hj
  rwa [gt_get hj] at this
section
variable {X : List Nat} {w0 : World} {M0 : List Ent} {I0 : List Imm}
set_option maxRecDepth 100000 in
theorem valid_ok {q : Option Addr} {c m : Nat} {ps : List PW} (hm : m = ps.length) (hn : ps.length ≤ 1000000) (hs : ∀ p ∈ ps, p.small) (hq : slI q (recs ePW ps) ∈ I0) (ha : Hv I0 (allPW ps)) :
    CD Tryz.prog 101 [.slice q m c] X w0 M0 I0 (fun v M I => M0 = M ∧ I0 = I ∧ v = .bool (B (∀ p ∈ ps, p.good))) := by
  subst hm
  refine enterD1 Tryz.func101 rfl Tryz.ntmps101 rfl ?_
  repeat (refine wXh ?_)
  refine TD_loop [5, 6] rfl (fun k G M I => ∃ i : Nat, i ≤ ps.length ∧ k = ps.length - i ∧ (∀ j : Nat, j < i → (gt ps (j : Int)).good) ∧ G = [(7, .int .i64 i)] ∧ M0 = M ∧ I0 = I) (ps.length) _ _ _ subG subF incF (⟨0, by omega, rfl, fun j hj => by omega, rfl, rfl, rfl⟩) ?_
  rintro k G M I ⟨i, hi, rfl, hg, rfl, rfl, rfl⟩
  by_cases hin : i < ps.length
  · have hsi := hs _ (gt_mem (ms := ps) (i := (i : Int)) (by omega))
    have hai : Hv I0 (isPW (gt ps (i : Int))) := ha.pwAt (by omega)
    have hV1 := fun M0 => Valid_raw (X := X) (w0 := w0) (M0 := M0) (I0 := I0) (r := (gt ps (i : Int)).x) hsi.1 hai.pwx
    have hV2 := fun M0 => Valid_raw (X := X) (w0 := w0) (M0 := M0) (I0 := I0) (r := (gt ps (i : Int)).y) hsi.2 hai.pwy
    repeat (refine wXh ?_)
    (refine RD_alloc rfl rfl ?_; intro b; refine ⟨okF, ?_⟩)
    repeat (refine wXh ?_)
    (refine RD_callS rfl (hV1 _) rfl rfl ?_; rintro _ _ _ ⟨rfl, rfl, rfl⟩; refine ⟨okF, ?_⟩)
    repeat' (first | refine wXh ?_ | (refine TD_isCo ?_; first | refine TD_dec rfl (fun h => ?_) (fun h => ?_) | refine TD_cond rfl (fun h => ?_) (fun h => ?_)) | (refine RD_isGu ?_; first | refine RD_grd rfl rfl (fun h => ?_) (fun h => ?_) | (fail_if_success (refine RD_isW rfl ?_); refine RD_grdB rfl rfl (fun h => ?_) (fun h => ?_))))
    · have hb : ¬ (gt ps (i : Int)).x.good := by assumption
      refine ND_ret1 (by first | exact .inl rfl | exact .inr rfl) rfl rfl _ _ subF incF (⟨rfl, rfl, congrArg Value.bool (B_false (fun e => hb (e _ (gt_mem (by omega))).1)).symm⟩)
    · (refine RD_callS rfl (hV2 _) rfl rfl ?_; rintro _ _ _ ⟨rfl, rfl, rfl⟩; refine ⟨okF, ?_⟩)
      repeat' (first | refine wXh ?_ | (refine TD_isCo ?_; first | refine TD_dec rfl (fun h => ?_) (fun h => ?_) | refine TD_cond rfl (fun h => ?_) (fun h => ?_)) | (refine RD_isGu ?_; first | refine RD_grd rfl rfl (fun h => ?_) (fun h => ?_) | (fail_if_success (refine RD_isW rfl ?_); refine RD_grdB rfl rfl (fun h => ?_) (fun h => ?_))))
      · have hb : ¬ (gt ps (i : Int)).y.good := by assumption
        refine ND_ret1 (by first | exact .inl rfl | exact .inr rfl) rfl rfl _ _ subF incF (⟨rfl, rfl, congrArg Value.bool (B_false (fun e => hb (e _ (gt_mem (by omega))).2)).symm⟩)
      · have h1 : ¬ ¬ (gt ps (i : Int)).x.good := by assumption
        have h2 : ¬ ¬ (gt ps (i : Int)).y.good := by assumption
        refine ND_again (ps.length - (i + 1)) _ _ _ (by first | omega | (simp only [List.length_append, List.length_cons, List.length_nil]; omega)) subG subF incF (⟨i + 1, by omega, rfl, fun j hj => ?_, rfl, rfl, rfl⟩)
        by_cases e : j = i
        · subst e; exact ⟨Decidable.not_not.1 h1, Decidable.not_not.1 h2⟩
        · exact hg j (by omega)
  · repeat (refine wXh ?_)
    refine ND_ret1 (by first | exact .inl rfl | exact .inr rfl) rfl rfl _ _ subF incF (⟨rfl, rfl, congrArg Value.bool (B_true (all_snoc (fun j hj => hg j (by omega)))).symm⟩)
set_option maxRecDepth 100000 in
theorem canonical_ok {q : Option Addr} {c m : Nat} {ps : List RW} (hm : m = ps.length) (hn : ps.length ≤ 1000000) (hs : ∀ p ∈ ps, p.small) (hq : slI q (recs eW ps) ∈ I0) (ha : Hv I0 (allW ps)) :
    CD Tryz.prog 111 [.slice q m c] X w0 M0 I0 (fun v M I => M0 = M ∧ I0 = I ∧ v = .bool (B (∀ p ∈ ps, p.good))) := by
  subst hm
  refine enterD1 Tryz.func111 rfl Tryz.ntmps111 rfl ?_
  repeat (refine wXh ?_)
  refine TD_loop [5, 6] rfl (fun k G M I => ∃ i : Nat, i ≤ ps.length ∧ k = ps.length - i ∧ (∀ j : Nat, j < i → (gt ps (j : Int)).good) ∧ G = [(7, .int .i64 i)] ∧ M0 = M ∧ I0 = I) (ps.length) _ _ _ subG subF incF (⟨0, by omega, rfl, fun j hj => by omega, rfl, rfl, rfl⟩) ?_
  rintro k G M I ⟨i, hi, rfl, hg, rfl, rfl, rfl⟩
  by_cases hin : i < ps.length
  · have hsi := hs _ (gt_mem (ms := ps) (i := (i : Int)) (by omega))
    have hai : Hv I0 (isW (gt ps (i : Int))) := ha.wAt (by omega)
    have hV1 := fun M0 => Valid_raw (X := X) (w0 := w0) (M0 := M0) (I0 := I0) (r := gt ps (i : Int)) hsi hai
    repeat (refine wXh ?_)
    (refine RD_alloc rfl rfl ?_; intro b; refine ⟨okF, ?_⟩)
    repeat (refine wXh ?_)
    (refine RD_callS rfl (hV1 _) rfl rfl ?_; rintro _ _ _ ⟨rfl, rfl, rfl⟩; refine ⟨okF, ?_⟩)
    repeat' (first | refine wXh ?_ | (refine TD_isCo ?_; first | refine TD_dec rfl (fun h => ?_) (fun h => ?_) | refine TD_cond rfl (fun h => ?_) (fun h => ?_)) | (refine RD_isGu ?_; first | refine RD_grd rfl rfl (fun h => ?_) (fun h => ?_) | (fail_if_success (refine RD_isW rfl ?_); refine RD_grdB rfl rfl (fun h => ?_) (fun h => ?_))))
    · have hb : ¬ (gt ps (i : Int)).good := by assumption
      refine ND_ret1 (by first | exact .inl rfl | exact .inr rfl) rfl rfl _ _ subF incF (⟨rfl, rfl, congrArg Value.bool (B_false (fun e => hb (e _ (gt_mem (by omega))))).symm⟩)
    · have h1 : ¬ ¬ (gt ps (i : Int)).good := by assumption
      refine ND_again (ps.length - (i + 1)) _ _ _ (by first | omega | (simp only [List.length_append, List.length_cons, List.length_nil]; omega)) subG subF incF (⟨i + 1, by omega, rfl, fun j hj => ?_, rfl, rfl, rfl⟩)
      by_cases e : j = i
      · subst e; exact Decidable.not_not.1 h1
      · exact hg j (by omega)
  · repeat (refine wXh ?_)
    refine ND_ret1 (by first | exact .inl rfl | exact .inr rfl) rfl rfl _ _ subF incF (⟨rfl, rfl, congrArg Value.bool (B_true (all_snoc (fun j hj => hg j (by omega)))).symm⟩)
end
end Go.Proofs.YtdmlebigkakplaaGreat

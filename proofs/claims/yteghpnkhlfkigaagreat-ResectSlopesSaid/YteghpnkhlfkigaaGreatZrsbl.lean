/- resect: places as they came in; valid, canonical. resect: condition, meet. -/
import Derived.Test.YteghpnkhlfkigaaGreatZrsbj
import Derived.Test.YteghpnkhlfkigaaGreatZrsbk
set_option linter.unusedSimpArgs false
set_option linter.unusedVariables false
namespace Go.Proofs.YteghpnkhlfkigaaGreat
open Go Go.Fx
/-- a place as it came in -/
structure PW where
  x : RW
  y : RW
instance : Inhabited PW := ⟨⟨default, default⟩⟩
abbrev ePW (p : PW) : List Value := [.bool p.x.n1, .slice p.x.p1 p.x.g1.length p.x.c1, .bool p.x.n2, .slice p.x.p2 p.x.g2.length p.x.c2, .bool p.y.n1, .slice p.y.p1 p.y.g1.length p.y.c1, .bool p.y.n2, .slice p.y.p2 p.y.g2.length p.y.c2]
abbrev pvW (p : PW) : Value := .agg #[.bool p.x.n1, .slice p.x.p1 p.x.g1.length p.x.c1, .bool p.x.n2, .slice p.x.p2 p.x.g2.length p.x.c2, .bool p.y.n1, .slice p.y.p1 p.y.g1.length p.y.c1, .bool p.y.n2, .slice p.y.p2 p.y.g2.length p.y.c2]
instance : Sized ePW 8 := ⟨fun _ => rfl⟩
instance : Ones ePW := ⟨fun m u hu => by
  simp only [ePW, List.mem_cons, List.not_mem_nil, or_false] at hu
  rcases hu with rfl | rfl | rfl | rfl | rfl | rfl | rfl | rfl <;> rfl⟩
def PE.raw (p : PE) : PW := ⟨p.x.raw, p.y.raw⟩
def RW.small (r : RW) : Prop := r.g1.length ≤ 1000000 ∧ r.g2.length ≤ 1000000
def PW.small (p : PW) : Prop := p.x.small ∧ p.y.small
def PW.good (p : PW) : Prop := p.x.good ∧ p.y.good
instance (p : PW) : Decidable p.good := by unfold PW.good; exact inferInstance
theorem PE.raw_good (p : PE) : p.raw.good := ⟨p.x.raw_good, p.y.raw_good⟩
structure IsPW (p : PW) (X : List Nat) (w : World) : Prop where
  x : IsW p.x X w
  y : IsW p.y X w
abbrev isPW (p : PW) : Imm := IsPW p
instance (p : PW) : Fx.Good (IsPW p) := ⟨fun X Y w w' h he hY => ⟨Fx.Good.go (φ := IsW _) X Y w w' h.x he hY, Fx.Good.go (φ := IsW _) X Y w w' h.y he hY⟩⟩
/-- of lists -/
structure AllW (rs : List RW) (X : List Nat) (w : World) : Prop where
  go : ∀ r ∈ rs, IsW r X w
abbrev allW (rs : List RW) : Imm := AllW rs
instance (rs : List RW) : Fx.Good (AllW rs) := ⟨fun X Y w w' h he hY => ⟨fun r hm => Fx.Good.go (φ := IsW _) X Y w w' (h.go r hm) he hY⟩⟩
structure AllPW (ps : List PW) (X : List Nat) (w : World) : Prop where
  go : ∀ p ∈ ps, IsPW p X w
abbrev allPW (ps : List PW) : Imm := AllPW ps
instance (ps : List PW) : Fx.Good (AllPW ps) := ⟨fun X Y w w' h he hY => ⟨fun r hm => Fx.Good.go (φ := IsPW _) X Y w w' (h.go r hm) he hY⟩⟩
theorem Hv.wAt {I : List Imm} {rs : List RW} {i : Int} (h : Hv I (allW rs)) (hi : 0 ≤ i ∧ i < rs.length) : Hv I (isW (gt rs i)) := ⟨fun X w hw => (h.go X w hw).go _ (gt_mem hi)⟩
theorem Hv.pwAt {I : List Imm} {ps : List PW} {i : Int} (h : Hv I (allPW ps)) (hi : 0 ≤ i ∧ i < ps.length) : Hv I (isPW (gt ps i)) := ⟨fun X w hw => (h.go X w hw).go _ (gt_mem hi)⟩
theorem Hv.pwx {I : List Imm} {p : PW} (h : Hv I (isPW p)) : Hv I (isW p.x) := ⟨fun X w hw => (h.go X w hw).x⟩
theorem Hv.pwy {I : List Imm} {p : PW} (h : Hv I (isPW p)) : Hv I (isW p.y) := ⟨fun X w hw => (h.go X w hw).y⟩
theorem Hv.toPW {I : List Imm} {p : PE} {k : Nat} (h : Hv I (isP p k)) (hk : k ≤ 1000000000000) : Hv I (isPW p.raw) := ⟨fun X w hw => ⟨RE.fit hk (h.go X w hw).x, RE.fit hk (h.go X w hw).y⟩⟩
theorem Hv.pw3 {I : List Imm} {a b c : PW} (h1 : Hv I (isPW a)) (h2 : Hv I (isPW b)) (h3 : Hv I (isPW c)) : Hv I (allPW [a, b, c]) := ⟨fun X w hw => ⟨fun p hp => by
  simp only [List.mem_cons, List.not_mem_nil, or_false] at hp
  rcases hp with rfl | rfl | rfl
  · exact h1.go X w hw
  · exact h2.go X w hw
  · exact h3.go X w hw⟩⟩
theorem Hv.w3 {I : List Imm} {a b c : RW} (h1 : Hv I (isW a)) (h2 : Hv I (isW b)) (h3 : Hv I (isW c)) : Hv I (allW [a, b, c]) := ⟨fun X w hw => ⟨fun p hp => by
  simp only [List.mem_cons, List.not_mem_nil, or_false] at hp
  rcases hp with rfl | rfl | rfl
  · exact h1.go X w hw
  · exact h2.go X w hw
  · exact h3.go X w hw⟩⟩
theorem Mem.pureR {X : List Nat} {w0 w : World} {M : List Ent} {I : List Imm} {e : RE} {k : Nat} (h : Hv I (isR e k)) (hk : k ≤ 20000000) (hw : Mem X w0 M I w) : e.raw.small := by
  have hr : IsR e k (muts M) w := h.go _ _ (fun ψ hm => (hw.imm ψ hm).2)
  have a := gr_len_pow (IsI.le hr.num)
  have b := gr_len_pow (IsI.le hr.den)
  constructor
  · show (gr e.q.num.natAbs).length ≤ _; omega
  · show (gr (e.q.den : Int).natAbs).length ≤ _; omega
theorem Mem.pureP {X : List Nat} {w0 w : World} {M : List Ent} {I : List Imm} {p : PE} {k : Nat} (h : Hv I (isP p k)) (hk : k ≤ 20000000) (hw : Mem X w0 M I w) : p.raw.small := ⟨Mem.pureR h.pxH hk hw, Mem.pureR h.pyH hk hw⟩
theorem CD_fact {P : Program} {f : FuncId} {vs : List Value} {X : List Nat} {w0 : World} {M : List Ent} {I : List Imm} {K : Value → List Ent → List Imm → Prop} {φ : Prop} (h : ∀ w, Mem X w0 M I w → φ) (k : φ → CD P f vs X w0 M I K) : CD P f vs X w0 M I K := ⟨fun w hw => (k (h w hw)).go w hw⟩
theorem all_snoc {α : Type} [Inhabited α] {p : α → Prop} {l : List α} (h : ∀ j : Nat, j < l.length → p (gt l (j : Int))) : ∀ a ∈ l, p a := fun a ha => by
  obtain ⟨j, hj, rfl⟩ := List.mem_iff_getElem.1 ha
  have := h j hj
  rwa [gt_get hj] at this
section
variable {X : List Nat} {w0 : World} {M0 : List Ent} {I0 : List Imm}
set_option maxRecDepth 100000 in
theorem valid_ok {q : Option Addr} {c m : Nat} {ps : List PW} (hm : m = ps.length) (hn : ps.length ≤ 1000000) (hs : ∀ p ∈ ps, p.small) (hq : slI q (recs ePW ps) ∈ I0) (ha : Hv I0 (allPW ps)) :
    CD Tryz.prog 101 [.slice q m c] X w0 M0 I0 (fun v M I => M0 = M ∧ I0 = I ∧ v = .bool (B (∀ p ∈ ps, p.good))) := by
  subst hm
  refine enterD1 Tryz.func101 rfl Tryz.ntmps101 rfl ?_
  repeat (first | (refine isR' ?_; refine whR ?_) | (refine isT' ?_; refine whT ?_) | (refine isN' ?_; refine whN ?_))
  refine TD_loop [5, 6] rfl (fun k G M I => ∃ i : Nat, i ≤ ps.length ∧ k = ps.length - i ∧ (∀ j : Nat, j < i → (gt ps (j : Int)).good) ∧ G = [(7, .int .i64 i)] ∧ M0 = M ∧ I0 = I) (ps.length) _ _ _ subG subF incF (⟨0, by omega, rfl, fun j hj => by omega, rfl, rfl, rfl⟩) ?_
  rintro k G M I ⟨i, hi, rfl, hg, rfl, rfl, rfl⟩
  by_cases hin : i < ps.length
  · have hsi := hs _ (gt_mem (ms := ps) (i := (i : Int)) (by omega))
    have hai : Hv I0 (isPW (gt ps (i : Int))) := ha.pwAt (by omega)
    have hV1 := fun M0 => Valid_raw (X := X) (w0 := w0) (M0 := M0) (I0 := I0) (r := (gt ps (i : Int)).x) hsi.1 hai.pwx
    have hV2 := fun M0 => Valid_raw (X := X) (w0 := w0) (M0 := M0) (I0 := I0) (r := (gt ps (i : Int)).y) hsi.2 hai.pwy
    repeat (first | (refine isR' ?_; refine whR ?_) | (refine isT' ?_; refine whT ?_) | (refine isN' ?_; refine whN ?_))
    (refine RD_alloc rfl rfl ?_; intro b; refine ⟨okF, ?_⟩)
    repeat (first | (refine isR' ?_; refine whR ?_) | (refine isT' ?_; refine whT ?_) | (refine isN' ?_; refine whN ?_))
    (refine RD_callS rfl (hV1 _) rfl rfl ?_; rintro _ _ _ ⟨rfl, rfl, rfl⟩; refine ⟨okF, ?_⟩)
    repeat' (first | (refine isR' ?_; refine whR ?_) | (refine isT' ?_; refine whT ?_) | (refine isN' ?_; refine whN ?_) | (refine TD_isCo ?_; first | refine TD_dec rfl (fun h => ?_) (fun h => ?_) | refine TD_cond rfl (fun h => ?_) (fun h => ?_)) | (refine RD_isGu ?_; first | refine RD_grd rfl rfl (fun h => ?_) (fun h => ?_) | (fail_if_success (refine RD_isW rfl ?_); refine RD_grdB rfl rfl (fun h => ?_) (fun h => ?_))))
    · have hb : ¬ (gt ps (i : Int)).x.good := by assumption
      refine ND_ret1 (by first | exact .inl rfl | exact .inr rfl) rfl rfl _ _ subF incF (⟨rfl, rfl, congrArg Value.bool (B_false (fun e => hb (e _ (gt_mem (by omega))).1)).symm⟩)
    · (refine RD_callS rfl (hV2 _) rfl rfl ?_; rintro _ _ _ ⟨rfl, rfl, rfl⟩; refine ⟨okF, ?_⟩)
      repeat' (first | (refine isR' ?_; refine whR ?_) | (refine isT' ?_; refine whT ?_) | (refine isN' ?_; refine whN ?_) | (refine TD_isCo ?_; first | refine TD_dec rfl (fun h => ?_) (fun h => ?_) | refine TD_cond rfl (fun h => ?_) (fun h => ?_)) | (refine RD_isGu ?_; first | refine RD_grd rfl rfl (fun h => ?_) (fun h => ?_) | (fail_if_success (refine RD_isW rfl ?_); refine RD_grdB rfl rfl (fun h => ?_) (fun h => ?_))))
      · have hb : ¬ (gt ps (i : Int)).y.good := by assumption
        refine ND_ret1 (by first | exact .inl rfl | exact .inr rfl) rfl rfl _ _ subF incF (⟨rfl, rfl, congrArg Value.bool (B_false (fun e => hb (e _ (gt_mem (by omega))).2)).symm⟩)
      · have h1 : ¬ ¬ (gt ps (i : Int)).x.good := by assumption
        have h2 : ¬ ¬ (gt ps (i : Int)).y.good := by assumption
        refine ND_again (ps.length - (i + 1)) _ _ _ (by first | omega | (simp only [List.length_append, List.length_cons, List.length_nil]; omega)) subG subF incF (⟨i + 1, by omega, rfl, fun j hj => ?_, rfl, rfl, rfl⟩)
        by_cases e : j = i
        · subst e; exact ⟨Decidable.not_not.1 h1, Decidable.not_not.1 h2⟩
        · exact hg j (by omega)
  · repeat (first | (refine isR' ?_; refine whR ?_) | (refine isT' ?_; refine whT ?_) | (refine isN' ?_; refine whN ?_))
    refine ND_ret1 (by first | exact .inl rfl | exact .inr rfl) rfl rfl _ _ subF incF (⟨rfl, rfl, congrArg Value.bool (B_true (all_snoc (fun j hj => hg j (by omega)))).symm⟩)
set_option maxRecDepth 100000 in
theorem canonical_ok {q : Option Addr} {c m : Nat} {ps : List RW} (hm : m = ps.length) (hn : ps.length ≤ 1000000) (hs : ∀ p ∈ ps, p.small) (hq : slI q (recs eW ps) ∈ I0) (ha : Hv I0 (allW ps)) :
    CD Tryz.prog 111 [.slice q m c] X w0 M0 I0 (fun v M I => M0 = M ∧ I0 = I ∧ v = .bool (B (∀ p ∈ ps, p.good))) := by
  subst hm
  refine enterD1 Tryz.func111 rfl Tryz.ntmps111 rfl ?_
  repeat (first | (refine isR' ?_; refine whR ?_) | (refine isT' ?_; refine whT ?_) | (refine isN' ?_; refine whN ?_))
  refine TD_loop [5, 6] rfl (fun k G M I => ∃ i : Nat, i ≤ ps.length ∧ k = ps.length - i ∧ (∀ j : Nat, j < i → (gt ps (j : Int)).good) ∧ G = [(7, .int .i64 i)] ∧ M0 = M ∧ I0 = I) (ps.length) _ _ _ subG subF incF (⟨0, by omega, rfl, fun j hj => by omega, rfl, rfl, rfl⟩) ?_
  rintro k G M I ⟨i, hi, rfl, hg, rfl, rfl, rfl⟩
  by_cases hin : i < ps.length
  · have hsi := hs _ (gt_mem (ms := ps) (i := (i : Int)) (by omega))
    have hai : Hv I0 (isW (gt ps (i : Int))) := ha.wAt (by omega)
    have hV1 := fun M0 => Valid_raw (X := X) (w0 := w0) (M0 := M0) (I0 := I0) (r := gt ps (i : Int)) hsi hai
    repeat (first | (refine isR' ?_; refine whR ?_) | (refine isT' ?_; refine whT ?_) | (refine isN' ?_; refine whN ?_))
    (refine RD_alloc rfl rfl ?_; intro b; refine ⟨okF, ?_⟩)
    repeat (first | (refine isR' ?_; refine whR ?_) | (refine isT' ?_; refine whT ?_) | (refine isN' ?_; refine whN ?_))
    (refine RD_callS rfl (hV1 _) rfl rfl ?_; rintro _ _ _ ⟨rfl, rfl, rfl⟩; refine ⟨okF, ?_⟩)
    repeat' (first | (refine isR' ?_; refine whR ?_) | (refine isT' ?_; refine whT ?_) | (refine isN' ?_; refine whN ?_) | (refine TD_isCo ?_; first | refine TD_dec rfl (fun h => ?_) (fun h => ?_) | refine TD_cond rfl (fun h => ?_) (fun h => ?_)) | (refine RD_isGu ?_; first | refine RD_grd rfl rfl (fun h => ?_) (fun h => ?_) | (fail_if_success (refine RD_isW rfl ?_); refine RD_grdB rfl rfl (fun h => ?_) (fun h => ?_))))
    · have hb : ¬ (gt ps (i : Int)).good := by assumption
      refine ND_ret1 (by first | exact .inl rfl | exact .inr rfl) rfl rfl _ _ subF incF (⟨rfl, rfl, congrArg Value.bool (B_false (fun e => hb (e _ (gt_mem (by omega))))).symm⟩)
    · have h1 : ¬ ¬ (gt ps (i : Int)).good := by assumption
      refine ND_again (ps.length - (i + 1)) _ _ _ (by first | omega | (simp only [List.length_append, List.length_cons, List.length_nil]; omega)) subG subF incF (⟨i + 1, by omega, rfl, fun j hj => ?_, rfl, rfl, rfl⟩)
      by_cases e : j = i
      · subst e; exact Decidable.not_not.1 h1
      · exact hg j (by omega)
  · repeat (first | (refine isR' ?_; refine whR ?_) | (refine isT' ?_; refine whT ?_) | (refine isN' ?_; refine whN ?_))
    refine ND_ret1 (by first | exact .inl rfl | exact .inr rfl) rfl rfl _ _ subF incF (⟨rfl, rfl, congrArg Value.bool (B_true (all_snoc (fun j hj => hg j (by omega)))).symm⟩)
end
end Go.Proofs.YteghpnkhlfkigaaGreat
namespace Go.Proofs.YteghpnkhlfkigaaGreat
open Go Go.Fx
/-- a condition in memory -/
structure CE where
  a : RE
  b : PE
instance : Inhabited CE := ⟨⟨default, default⟩⟩
abbrev eC (c : CE) : List Value := [.bool (B (c.a.q.num < 0)), .slice c.a.p1 (gr c.a.q.num.natAbs).length c.a.c1, .bool (B ((c.a.q.den : Int) < 0)), .slice c.a.p2 (gr (c.a.q.den : Int).natAbs).length c.a.c2, .bool (B (c.b.x.q.num < 0)), .slice c.b.x.p1 (gr c.b.x.q.num.natAbs).length c.b.x.c1, .bool (B ((c.b.x.q.den : Int) < 0)), .slice c.b.x.p2 (gr (c.b.x.q.den : Int).natAbs).length c.b.x.c2, .bool (B (c.b.y.q.num < 0)), .slice c.b.y.p1 (gr c.b.y.q.num.natAbs).length c.b.y.c1, .bool (B ((c.b.y.q.den : Int) < 0)), .slice c.b.y.p2 (gr (c.b.y.q.den : Int).natAbs).length c.b.y.c2]
instance : Sized eC 12 := ⟨fun _ => rfl⟩
abbrev cv (c : CE) : Value := .agg (eC c).toArray
theorem RQ.wk {q : Rat} {k m : Nat} {M0 : List Ent} {I0 : List Imm} {v : Value} {M : List Ent} {I : List Imm} (h : RQ q k M0 I0 v M I) : ∃ e : RE, M0 = M ∧ v = rv e ∧ e.q = q ∧ I = isR e k :: I0 := ⟨h.2.choose, h.1, h.2.choose_spec.1, h.2.choose_spec.2.1, h.2.choose_spec.2.2⟩
section
variable {X : List Nat} {w0 : World} {M0 : List Ent} {I0 : List Imm}
set_option maxRecDepth 100000 in
set_option maxHeartbeats 2000000 in
theorem condition_ok {p : PE} {own org : RE} {k s : Nat} (hk : 4 * s + 2 * k + 3 ≤ 400000000) (hp : Hv I0 (isP p k)) (ho : Hv I0 (isR own s)) (hr : Hv I0 (isR org s)) :
    CD Tryz.prog 113 [pv p, rv own, rv org] X w0 M0 I0 (fun v M I => M0 = M ∧ ∃ c : CE, v = cv c ∧ c.a.q = cnA own.q org.q ∧ c.b.v = cnB p.v own.q org.q ∧ I = isP c.b (4 * s + 2 * k + 3) :: isR c.a (2 * s + 1) :: I0) := by
  have hS := fun M0 I0 => QSub_ok (X := X) (w0 := w0) (M0 := M0) (I0 := I0) (a := own) (b := org) (k := s) (m := s) (by omega)
  have hW := fun M0 I0 => Whole_ok (X := X) (w0 := w0) (M0 := M0) (I0 := I0) (x := 1) (by decide) (k := 0) (by decide)
  have hM := fun M0 I0 => QMul_ok (X := X) (w0 := w0) (M0 := M0) (I0 := I0) (a := own) (b := org) (k := s) (m := s) (by omega)
  have hA := fun e1 e2 M0 I0 => QAdd_ok (X := X) (w0 := w0) (M0 := M0) (I0 := I0) (a := e1) (b := e2) (k := 0) (m := s + s) (by omega)
  have hSd := fun M0 I0 => pSide_ok (X := X) (w0 := w0) (M0 := M0) (I0 := I0) (a := p) (k := k) (by omega)
  have hN := fun e8 M0 I0 => QNeg_ok (X := X) (w0 := w0) (M0 := M0) (I0 := I0) (e := e8) (k := 0 + (s + s) + 1) (by omega)
  have hC1 := fun p1 e9 M0 I0 => pScaled_ok (X := X) (w0 := w0) (M0 := M0) (I0 := I0) (a := p1) (b := e9) (k := k) (m := 0 + (s + s) + 1) (by omega)
  have hC2 := fun e7 M0 I0 => pScaled_ok (X := X) (w0 := w0) (M0 := M0) (I0 := I0) (a := p) (b := e7) (k := k) (m := s + s + 1) (by omega)
  have hMi := fun p2 p3 M0 I0 => pMinus_ok (X := X) (w0 := w0) (M0 := M0) (I0 := I0) (a := p2) (b := p3) (k := 0 + (s + s) + 1 + k) (m := s + s + 1 + k) (by omega)
  refine CD_hv hp (CD_hv ho.cons (CD_hv hr.cons.cons ?_))
  refine enterD3 Tryz.func113 rfl Tryz.ntmps113 rfl ?_
  refine TD_seq ?_
  refine TD_region ?_
  (refine RD_boxA rfl rfl rfl ?_; intro b3; refine ⟨okF, ?_⟩)
  (refine RD_boxA rfl rfl rfl ?_; intro b4; refine ⟨okF, ?_⟩)
  (refine RD_boxA rfl rfl rfl ?_; intro b5; refine ⟨okF, ?_⟩)
  (refine RD_alloc rfl rfl ?_; intro b6; refine ⟨okF, ?_⟩)
  repeat (first | (refine isR' ?_; refine whR ?_) | (refine isT' ?_; refine whT ?_) | (refine isN' ?_; refine whN ?_))
  (refine RD_callS rfl (hS _ _ hvZ hvZ) rfl rfl ?_; rintro _ _ _ ⟨rfl, e7, rfl, he7, rfl⟩; refine ⟨okF, ?_⟩)
  (refine RD_alloc rfl rfl ?_; intro b7; refine ⟨okF, ?_⟩)
  repeat (first | (refine isR' ?_; refine whR ?_) | (refine isT' ?_; refine whT ?_) | (refine isN' ?_; refine whN ?_))
  refine TD_cutT (fun G M I => ∃ (b8 : Nat) (e8 : RE), e8.q = 1 + own.q * org.q ∧ G = [(3, .pointer (some ⟨b3, 0, none⟩)), (6, .pointer (some ⟨b6, 0, none⟩)), (7, .pointer (some ⟨b7, 0, none⟩)), (8, .pointer (some ⟨b8, 0, none⟩))] ∧ M = .blk b8 (eR e8) 26 :: .blk b7 (eR e7) 26 :: .blk b6 [.bool false, .slice none 0 0, .bool false, .slice none 0 0, .bool false, .slice none 0 0, .bool false, .slice none 0 0, .bool false, .slice none 0 0, .bool false, .slice none 0 0] 126 :: .blk b3 (eP p) 28 :: M0 ∧ I = isR e8 (0 + (s + s) + 1) :: isR e7 (s + s + 1) :: isR org s :: isR own s :: isP p k :: I0) ?_ ?_
  · ((repeat refine TD_seq ?_); refine TD_rest (.blk b5 (eR org) 26 :: .blk b4 (eR own) 26 :: M0) (isR org s :: isR own s :: isP p k :: I0) mixed ?_)
    refine ND_restPre (fuel := 5) (listed' := #[false, true, true, false, false, false, false]) [1, 2] [3, 3] subF incF (by kernel_rfl) (by kernel_rfl) rfl rfl ?_
    repeat (first | (refine isR' ?_; refine whR ?_) | (refine isT' ?_; refine whT ?_) | (refine isN' ?_; refine whN ?_))
    refine ND_restFork (fuel := 4) (i := 0) (j := 5) (by kernel_rfl) ?_ ?_
    · (refine RD_callS rfl (hW _ _) rfl rfl ?_; rintro _ _ _ ⟨rfl, e1, rfl, he1, rfl⟩; refine ⟨okF, ?_⟩)
      refine RD_nil ?_
      repeat (first | (refine isR' ?_; refine whR ?_) | (refine isT' ?_; refine whT ?_) | (refine isN' ?_; refine whN ?_))
      refine ND_restFork (fuel := 3) (i := 3) (j := 5) (by kernel_rfl) ?_ ?_
      · (refine RD_callS rfl (hM _ _ hvZ hvZ) rfl rfl ?_; rintro _ _ _ ⟨rfl, e2, rfl, he2, rfl⟩; refine ⟨okF, ?_⟩)
        refine RD_nil ?_
        repeat (first | (refine isR' ?_; refine whR ?_) | (refine isT' ?_; refine whT ?_) | (refine isN' ?_; refine whN ?_))
        refine ND_restFork (fuel := 2) (i := 4) (j := 5) (by kernel_rfl) ?_ ?_
        · (refine RD_callS rfl (hA e1 e2 _ _ hvZ hvZ) rfl rfl ?_; rintro _ _ _ ⟨rfl, e8, rfl, he8, rfl⟩; refine ⟨okF, ?_⟩)
          refine RD_nil ?_
          refine ND_restEnd [5, 6] [0, 0] subF incF (by kernel_rfl) (by kernel_rfl) rfl rfl ?_
          repeat (first | (refine isR' ?_; refine whR ?_) | (refine isT' ?_; refine whT ?_) | (refine isN' ?_; refine whN ?_))
          (refine RD_alloc rfl rfl ?_; intro b8; refine ⟨okF, ?_⟩)
          repeat (first | (refine isR' ?_; refine whR ?_) | (refine isT' ?_; refine whT ?_) | (refine isN' ?_; refine whN ?_))
          refine ND_cut _ _ _ subG subF incF ⟨b8, e8, by rw [he8, he1, he2]; rfl, rfl, rfl, rfl⟩
        · (refine RD_alloc rfl rfl ?_; intro b8; refine ⟨okF, ?_⟩)
          refine RD_nil ?_
          refine ND_restEnd [4, 6] [0, 0] subF incF (by kernel_rfl) (by kernel_rfl) rfl rfl ?_
          repeat (first | (refine isR' ?_; refine whR ?_) | (refine isT' ?_; refine whT ?_) | (refine isN' ?_; refine whN ?_))
          (refine RD_callS rfl (hA e1 e2 _ _ hvZ hvZ) rfl rfl ?_; rintro _ _ _ ⟨rfl, e8, rfl, he8, rfl⟩; refine ⟨okF, ?_⟩)
          repeat (first | (refine isR' ?_; refine whR ?_) | (refine isT' ?_; refine whT ?_) | (refine isN' ?_; refine whN ?_))
          refine ND_cut _ _ _ subG subF incF ⟨b8, e8, by rw [he8, he1, he2]; rfl, rfl, rfl, rfl⟩
      · (refine RD_alloc rfl rfl ?_; intro b8; refine ⟨okF, ?_⟩)
        refine RD_nil ?_
        refine ND_restEnd [3, 4, 6] [0, 0, 0] subF incF (by kernel_rfl) (by kernel_rfl) rfl rfl ?_
        repeat (first | (refine isR' ?_; refine whR ?_) | (refine isT' ?_; refine whT ?_) | (refine isN' ?_; refine whN ?_))
        (refine RD_callS rfl (hM _ _ hvZ hvZ) rfl rfl ?_; rintro _ _ _ ⟨rfl, e2, rfl, he2, rfl⟩; refine ⟨okF, ?_⟩)
        repeat (first | (refine isR' ?_; refine whR ?_) | (refine isT' ?_; refine whT ?_) | (refine isN' ?_; refine whN ?_))
        (refine RD_callS rfl (hA e1 e2 _ _ hvZ hvZ) rfl rfl ?_; rintro _ _ _ ⟨rfl, e8, rfl, he8, rfl⟩; refine ⟨okF, ?_⟩)
        repeat (first | (refine isR' ?_; refine whR ?_) | (refine isT' ?_; refine whT ?_) | (refine isN' ?_; refine whN ?_))
        refine ND_cut _ _ _ subG subF incF ⟨b8, e8, by rw [he8, he1, he2]; rfl, rfl, rfl, rfl⟩
    · (refine RD_alloc rfl rfl ?_; intro b8; refine ⟨okF, ?_⟩)
      refine RD_nil ?_
      refine ND_restEnd [0, 3, 4, 6] [0, 0, 0, 0] subF incF (by kernel_rfl) (by kernel_rfl) rfl rfl ?_
      repeat (first | (refine isR' ?_; refine whR ?_) | (refine isT' ?_; refine whT ?_) | (refine isN' ?_; refine whN ?_))
      (refine RD_callS rfl (hW _ _) rfl rfl ?_; rintro _ _ _ ⟨rfl, e1, rfl, he1, rfl⟩; refine ⟨okF, ?_⟩)
      repeat (first | (refine isR' ?_; refine whR ?_) | (refine isT' ?_; refine whT ?_) | (refine isN' ?_; refine whN ?_))
      (refine RD_callS rfl (hM _ _ hvZ hvZ) rfl rfl ?_; rintro _ _ _ ⟨rfl, e2, rfl, he2, rfl⟩; refine ⟨okF, ?_⟩)
      repeat (first | (refine isR' ?_; refine whR ?_) | (refine isT' ?_; refine whT ?_) | (refine isN' ?_; refine whN ?_))
      (refine RD_callS rfl (hA e1 e2 _ _ hvZ hvZ) rfl rfl ?_; rintro _ _ _ ⟨rfl, e8, rfl, he8, rfl⟩; refine ⟨okF, ?_⟩)
      repeat (first | (refine isR' ?_; refine whR ?_) | (refine isT' ?_; refine whT ?_) | (refine isN' ?_; refine whN ?_))
      refine ND_cut _ _ _ subG subF incF ⟨b8, e8, by rw [he8, he1, he2]; rfl, rfl, rfl, rfl⟩
  · rintro G M I ⟨b8, e8, he8, rfl, rfl, rfl⟩
    refine TD_cut (fun G M I => ∃ (b9 : Nat) (p9 : PE), p9.v = cnB p.v own.q org.q ∧ G = [(6, .pointer (some ⟨b6, 0, none⟩)), (7, .pointer (some ⟨b7, 0, none⟩)), (9, .pointer (some ⟨b9, 0, none⟩))] ∧ M = .blk b9 (eP p9) 28 :: .blk b7 (eR e7) 26 :: .blk b6 [.bool false, .slice none 0 0, .bool false, .slice none 0 0, .bool false, .slice none 0 0, .bool false, .slice none 0 0, .bool false, .slice none 0 0, .bool false, .slice none 0 0] 126 :: M0 ∧ I = isP p9 (0 + (s + s) + 1 + k + (s + s + 1 + k) + 1) :: isR e7 (s + s + 1) :: I0) ?_ ?_
    · ((repeat refine TD_seq ?_); refine TD_rest (.blk b8 (eR e8) 26 :: .blk b7 (eR e7) 26 :: .blk b3 (eP p) 28 :: M0) (isR e8 (0 + (s + s) + 1) :: isR e7 (s + s + 1) :: isR org s :: isR own s :: isP p k :: I0) mixed ?_)
      refine ND_restPre (fuel := 7) (listed' := #[true, false, true, false, false, true, true, false, false, false, false]) [0, 2, 5, 6] [5, 5, 5, 5] subF incF (by kernel_rfl) (by kernel_rfl) rfl rfl ?_
      repeat (first | (refine isR' ?_; refine whR ?_) | (refine isT' ?_; refine whT ?_) | (refine isN' ?_; refine whN ?_))
      refine ND_restFork (fuel := 6) (i := 1) (j := 9) (by kernel_rfl) ?_ ?_
      · (refine RD_callS rfl (hSd _ _ hvZ) rfl rfl ?_; rintro _ _ _ ⟨rfl, p1, rfl, hp1, rfl⟩; refine ⟨okF, ?_⟩)
        refine RD_nil ?_
        repeat (first | (refine isR' ?_; refine whR ?_) | (refine isT' ?_; refine whT ?_) | (refine isN' ?_; refine whN ?_))
        refine ND_restFork (fuel := 5) (i := 3) (j := 9) (by kernel_rfl) ?_ ?_
        · (refine RD_callS rfl (hN e8 _ _ hvZ) rfl rfl ?_; rintro _ _ _ ⟨rfl, e9, rfl, he9, rfl⟩; refine ⟨okF, ?_⟩)
          refine RD_nil ?_
          repeat (first | (refine isR' ?_; refine whR ?_) | (refine isT' ?_; refine whT ?_) | (refine isN' ?_; refine whN ?_))
          refine ND_restFork (fuel := 4) (i := 4) (j := 9) (by kernel_rfl) ?_ ?_
          · (refine RD_callS rfl (hC1 p1 e9 _ _ hvZ hvZ) rfl rfl ?_; rintro _ _ _ ⟨rfl, p2, rfl, hp2, rfl⟩; refine ⟨okF, ?_⟩)
            refine RD_nil ?_
            repeat (first | (refine isR' ?_; refine whR ?_) | (refine isT' ?_; refine whT ?_) | (refine isN' ?_; refine whN ?_))
            refine ND_restFork (fuel := 3) (i := 7) (j := 9) (by kernel_rfl) ?_ ?_
            · (refine RD_callS rfl (hC2 e7 _ _ hvZ hvZ) rfl rfl ?_; rintro _ _ _ ⟨rfl, p3, rfl, hp3, rfl⟩; refine ⟨okF, ?_⟩)
              refine RD_nil ?_
              repeat (first | (refine isR' ?_; refine whR ?_) | (refine isT' ?_; refine whT ?_) | (refine isN' ?_; refine whN ?_))
              refine ND_restFork (fuel := 2) (i := 8) (j := 9) (by kernel_rfl) ?_ ?_
              · (refine RD_callS rfl (hMi p2 p3 _ _ hvZ hvZ) rfl rfl ?_; rintro _ _ _ ⟨rfl, p9, rfl, hp9, rfl⟩; refine ⟨okF, ?_⟩)
                refine RD_nil ?_
                refine ND_restEnd [9, 10] [0, 0] subF incF (by kernel_rfl) (by kernel_rfl) rfl rfl ?_
                repeat (first | (refine isR' ?_; refine whR ?_) | (refine isT' ?_; refine whT ?_) | (refine isN' ?_; refine whN ?_))
                (refine RD_alloc rfl rfl ?_; intro b9; refine ⟨okF, ?_⟩)
                repeat (first | (refine isR' ?_; refine whR ?_) | (refine isT' ?_; refine whT ?_) | (refine isN' ?_; refine whN ?_))
                refine ND_cut _ _ _ subG subF incF ⟨b9, p9, by rw [hp9, hp2, hp3, hp1, he9, he8, he7]; rfl, rfl, rfl, rfl⟩
              · (refine RD_alloc rfl rfl ?_; intro b9; refine ⟨okF, ?_⟩)
                refine RD_nil ?_
                refine ND_restEnd [8, 10] [0, 0] subF incF (by kernel_rfl) (by kernel_rfl) rfl rfl ?_
                repeat (first | (refine isR' ?_; refine whR ?_) | (refine isT' ?_; refine whT ?_) | (refine isN' ?_; refine whN ?_))
                (refine RD_callS rfl (hMi p2 p3 _ _ hvZ hvZ) rfl rfl ?_; rintro _ _ _ ⟨rfl, p9, rfl, hp9, rfl⟩; refine ⟨okF, ?_⟩)
                repeat (first | (refine isR' ?_; refine whR ?_) | (refine isT' ?_; refine whT ?_) | (refine isN' ?_; refine whN ?_))
                refine ND_cut _ _ _ subG subF incF ⟨b9, p9, by rw [hp9, hp2, hp3, hp1, he9, he8, he7]; rfl, rfl, rfl, rfl⟩
            · (refine RD_alloc rfl rfl ?_; intro b9; refine ⟨okF, ?_⟩)
              refine RD_nil ?_
              refine ND_restEnd [7, 8, 10] [0, 0, 0] subF incF (by kernel_rfl) (by kernel_rfl) rfl rfl ?_
              repeat (first | (refine isR' ?_; refine whR ?_) | (refine isT' ?_; refine whT ?_) | (refine isN' ?_; refine whN ?_))
              (refine RD_callS rfl (hC2 e7 _ _ hvZ hvZ) rfl rfl ?_; rintro _ _ _ ⟨rfl, p3, rfl, hp3, rfl⟩; refine ⟨okF, ?_⟩)
              repeat (first | (refine isR' ?_; refine whR ?_) | (refine isT' ?_; refine whT ?_) | (refine isN' ?_; refine whN ?_))
              (refine RD_callS rfl (hMi p2 p3 _ _ hvZ hvZ) rfl rfl ?_; rintro _ _ _ ⟨rfl, p9, rfl, hp9, rfl⟩; refine ⟨okF, ?_⟩)
              repeat (first | (refine isR' ?_; refine whR ?_) | (refine isT' ?_; refine whT ?_) | (refine isN' ?_; refine whN ?_))
              refine ND_cut _ _ _ subG subF incF ⟨b9, p9, by rw [hp9, hp2, hp3, hp1, he9, he8, he7]; rfl, rfl, rfl, rfl⟩
          · (refine RD_alloc rfl rfl ?_; intro b9; refine ⟨okF, ?_⟩)
            refine RD_nil ?_
            refine ND_restEnd [4, 7, 8, 10] [0, 0, 0, 0] subF incF (by kernel_rfl) (by kernel_rfl) rfl rfl ?_
            repeat (first | (refine isR' ?_; refine whR ?_) | (refine isT' ?_; refine whT ?_) | (refine isN' ?_; refine whN ?_))
            (refine RD_callS rfl (hC1 p1 e9 _ _ hvZ hvZ) rfl rfl ?_; rintro _ _ _ ⟨rfl, p2, rfl, hp2, rfl⟩; refine ⟨okF, ?_⟩)
            repeat (first | (refine isR' ?_; refine whR ?_) | (refine isT' ?_; refine whT ?_) | (refine isN' ?_; refine whN ?_))
            (refine RD_callS rfl (hC2 e7 _ _ hvZ hvZ) rfl rfl ?_; rintro _ _ _ ⟨rfl, p3, rfl, hp3, rfl⟩; refine ⟨okF, ?_⟩)
            repeat (first | (refine isR' ?_; refine whR ?_) | (refine isT' ?_; refine whT ?_) | (refine isN' ?_; refine whN ?_))
            (refine RD_callS rfl (hMi p2 p3 _ _ hvZ hvZ) rfl rfl ?_; rintro _ _ _ ⟨rfl, p9, rfl, hp9, rfl⟩; refine ⟨okF, ?_⟩)
            repeat (first | (refine isR' ?_; refine whR ?_) | (refine isT' ?_; refine whT ?_) | (refine isN' ?_; refine whN ?_))
            refine ND_cut _ _ _ subG subF incF ⟨b9, p9, by rw [hp9, hp2, hp3, hp1, he9, he8, he7]; rfl, rfl, rfl, rfl⟩
        · (refine RD_alloc rfl rfl ?_; intro b9; refine ⟨okF, ?_⟩)
          refine RD_nil ?_
          refine ND_restEnd [3, 4, 7, 8, 10] [0, 0, 0, 0, 0] subF incF (by kernel_rfl) (by kernel_rfl) rfl rfl ?_
          repeat (first | (refine isR' ?_; refine whR ?_) | (refine isT' ?_; refine whT ?_) | (refine isN' ?_; refine whN ?_))
          (refine RD_callS rfl (hN e8 _ _ hvZ) rfl rfl ?_; rintro _ _ _ ⟨rfl, e9, rfl, he9, rfl⟩; refine ⟨okF, ?_⟩)
          repeat (first | (refine isR' ?_; refine whR ?_) | (refine isT' ?_; refine whT ?_) | (refine isN' ?_; refine whN ?_))
          (refine RD_callS rfl (hC1 p1 e9 _ _ hvZ hvZ) rfl rfl ?_; rintro _ _ _ ⟨rfl, p2, rfl, hp2, rfl⟩; refine ⟨okF, ?_⟩)
          repeat (first | (refine isR' ?_; refine whR ?_) | (refine isT' ?_; refine whT ?_) | (refine isN' ?_; refine whN ?_))
          (refine RD_callS rfl (hC2 e7 _ _ hvZ hvZ) rfl rfl ?_; rintro _ _ _ ⟨rfl, p3, rfl, hp3, rfl⟩; refine ⟨okF, ?_⟩)
          repeat (first | (refine isR' ?_; refine whR ?_) | (refine isT' ?_; refine whT ?_) | (refine isN' ?_; refine whN ?_))
          (refine RD_callS rfl (hMi p2 p3 _ _ hvZ hvZ) rfl rfl ?_; rintro _ _ _ ⟨rfl, p9, rfl, hp9, rfl⟩; refine ⟨okF, ?_⟩)
          repeat (first | (refine isR' ?_; refine whR ?_) | (refine isT' ?_; refine whT ?_) | (refine isN' ?_; refine whN ?_))
          refine ND_cut _ _ _ subG subF incF ⟨b9, p9, by rw [hp9, hp2, hp3, hp1, he9, he8, he7]; rfl, rfl, rfl, rfl⟩
      · (refine RD_alloc rfl rfl ?_; intro b9; refine ⟨okF, ?_⟩)
        refine RD_nil ?_
        refine ND_restEnd [1, 3, 4, 7, 8, 10] [0, 0, 0, 0, 0, 0] subF incF (by kernel_rfl) (by kernel_rfl) rfl rfl ?_
        repeat (first | (refine isR' ?_; refine whR ?_) | (refine isT' ?_; refine whT ?_) | (refine isN' ?_; refine whN ?_))
        (refine RD_callS rfl (hSd _ _ hvZ) rfl rfl ?_; rintro _ _ _ ⟨rfl, p1, rfl, hp1, rfl⟩; refine ⟨okF, ?_⟩)
        repeat (first | (refine isR' ?_; refine whR ?_) | (refine isT' ?_; refine whT ?_) | (refine isN' ?_; refine whN ?_))
        (refine RD_callS rfl (hN e8 _ _ hvZ) rfl rfl ?_; rintro _ _ _ ⟨rfl, e9, rfl, he9, rfl⟩; refine ⟨okF, ?_⟩)
        repeat (first | (refine isR' ?_; refine whR ?_) | (refine isT' ?_; refine whT ?_) | (refine isN' ?_; refine whN ?_))
        (refine RD_callS rfl (hC1 p1 e9 _ _ hvZ hvZ) rfl rfl ?_; rintro _ _ _ ⟨rfl, p2, rfl, hp2, rfl⟩; refine ⟨okF, ?_⟩)
        repeat (first | (refine isR' ?_; refine whR ?_) | (refine isT' ?_; refine whT ?_) | (refine isN' ?_; refine whN ?_))
        (refine RD_callS rfl (hC2 e7 _ _ hvZ hvZ) rfl rfl ?_; rintro _ _ _ ⟨rfl, p3, rfl, hp3, rfl⟩; refine ⟨okF, ?_⟩)
        repeat (first | (refine isR' ?_; refine whR ?_) | (refine isT' ?_; refine whT ?_) | (refine isN' ?_; refine whN ?_))
        (refine RD_callS rfl (hMi p2 p3 _ _ hvZ hvZ) rfl rfl ?_; rintro _ _ _ ⟨rfl, p9, rfl, hp9, rfl⟩; refine ⟨okF, ?_⟩)
        repeat (first | (refine isR' ?_; refine whR ?_) | (refine isT' ?_; refine whT ?_) | (refine isN' ?_; refine whN ?_))
        refine ND_cut _ _ _ subG subF incF ⟨b9, p9, by rw [hp9, hp2, hp3, hp1, he9, he8, he7]; rfl, rfl, rfl, rfl⟩
    · rintro G M I ⟨b9, p9, hp9, rfl, rfl, rfl⟩
      refine TD_seq ?_
      refine TD_region ?_
      repeat (first | (refine isR' ?_; refine whR ?_) | (refine isT' ?_; refine whT ?_) | (refine isN' ?_; refine whN ?_))
      (refine RD_c rfl (fun _ => Const_structC (vals := [rv e7, pv p9]) (cells := eC ⟨e7, p9⟩) rfl ?hpl rfl ?hz) rfl rfl ?_; (case hpl => repeat (first | exact True.intro | refine ⟨rfl, ?_⟩)); (case hz => rfl))
      repeat (first | (refine isR' ?_; refine whR ?_) | (refine isT' ?_; refine whT ?_) | (refine isN' ?_; refine whN ?_))
      refine ND_hv (φ := isR e7 (2 * s + 1)) hvZ (ND_hv (φ := isP p9 (4 * s + 2 * k + 3)) hvZ ?_)
      refine ND_retC (cs := eC ⟨e7, p9⟩) (.inl rfl) rfl rfl memF rfl M0 (isP p9 (4 * s + 2 * k + 3) :: isR e7 (2 * s + 1) :: I0) subF incF ⟨rfl, ⟨e7, p9⟩, rfl, he7, hp9, rfl⟩
end
end Go.Proofs.YteghpnkhlfkigaaGreat

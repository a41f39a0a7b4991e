/- The document's SameList, SameMatrix, Symmetric, Nonzero, Form, Leading, Definite. The law's minus, spread, parallel, miss (chapter 25). The law's miss, same, zero (chapter 25). The law's valid (chapter 25). Chapter 25, plain: the foot, the parallax. The law's zero (chapter 25). -/
import Derived.Test.YtllaoaobnnondaaGreatRZibj
import Derived.Test.YtllaoaobnnondaaGreatRZibe
import Derived.Test.YtllaoaobnnondaaGreatRZibb
set_option linter.unusedSimpArgs false
set_option linter.unusedVariables false
namespace Go.Proofs.YtllaoaobnnondaaGreatR
open Go Go.Fx
/-- the form of a list -/
def qfr (A : Mt) (v : List Rat) (n : Nat) : Rat := sm n (fun t => v.getD t 0 * sm n (fun j => at2 A t j * v.getD j 0))
section
variable {X : List Nat} {w0 : World} {M0 : List Ent} {I0 : List Imm}
set_option maxRecDepth 100000 in
theorem rSameList_ok {x y : RL} {u m : Nat} (hk : u + m + 1 ≤ 100000000) (lx : x.es.length ≤ 1000) (ly : y.es.length ≤ 1000) (hx : Hv I0 (isL x u)) (hy : Hv I0 (isL y m)) :
    CD Tryz.prog 58 [lv x, lv y] X w0 M0 I0 (fun v M I => M0 = M ∧ I0 = I ∧ v = .bool (B (x.q = y.q))) := by
  refine CD_hvV hx (CD_hvV (φ := isL y m) (hy.cons) ?_)
  refine CD_hv (φ := slI (x).p (recs eR (x).es)) (Hv.lsl memF) ?_
  refine CD_hv (φ := slI (y).p (recs eR (y).es)) (Hv.lsl memF) ?_
  by_cases hlen : x.es.length = y.es.length
  · refine enterD2 Tryz.func58 rfl Tryz.ntmps58 rfl ?_
    repeat (refine wXh ?_)
    refine TD_loop [0, 1] rfl (fun k G M I => ∃ i : Nat, i ≤ x.es.length ∧ k = x.es.length - i ∧ (∀ j : Nat, j < i → (gt x.es (j : Int)).q = (gt y.es (j : Int)).q) ∧ G = [(5, .int .i64 i)] ∧ M0 = M ∧ I = slI y.p (recs eR y.es) :: slI x.p (recs eR x.es) :: isL y m :: isL x u :: I0) (x.es.length) _ _ _ subG subF incF (⟨0, by omega, rfl, fun j hj => by omega, rfl, rfl, rfl⟩) ?_
    rintro kk G M I ⟨i, hi, rfl, hs, rfl, rfl, rfl⟩
    by_cases hi2 : i < x.es.length
    · have hS := fun M0 I0 h1 h2 => rSame_ok (X := X) (w0 := w0) (M0 := M0) (I0 := I0) (a := gt x.es (i : Int)) (b := gt y.es (i : Int)) (k := u) (m := m) (by omega) h1 h2
      by_cases he : (gt x.es (i : Int)).q = (gt y.es (i : Int)).q
      · rw [B_true he] at hS
        repeat (refine wXh ?_)
        (repeat refine TD_seq ?_); refine TD_drawnJ 1 [0, 1, 2, 3, 4, 5, 6, 7, 8, 9] [1, 1, 1, 0, 1, 1, 1, 0, 0, 0] mixed (by kernel_rfl) ?_
        repeat (refine wXh ?_)
        (refine RD_callS rfl (hS _ _ (Hv.lel memF (by omega)) (Hv.lel memF (by omega))) rfl rfl ?_; rintro _ _ _ ⟨rfl, rfl, rfl⟩; refine ⟨okF, ?_⟩)
        repeat (refine wXh ?_)
        refine ND_again (x.es.length - (i + 1)) _ _ _ (by first | omega | (simp only [List.length_append, List.length_cons, List.length_nil]; omega)) subG subF incF (⟨i + 1, by omega, rfl, fun j hj => ?_, rfl, rfl, rfl⟩)
        by_cases e : j = i
        · subst e; exact he
        · exact hs j (by omega)
      · rw [B_false he] at hS
        repeat (refine wXh ?_)
        (repeat refine TD_seq ?_); refine TD_drawnJ 1 [0, 1, 2, 3, 4, 5, 6, 7, 8, 9] [1, 1, 1, 0, 1, 1, 1, 0, 0, 0] mixed (by kernel_rfl) ?_
        repeat (refine wXh ?_)
        (refine RD_callS rfl (hS _ _ (Hv.lel memF (by omega)) (Hv.lel memF (by omega))) rfl rfl ?_; rintro _ _ _ ⟨rfl, rfl, rfl⟩; refine ⟨okF, ?_⟩)
        repeat (refine wXh ?_)
        refine ND_ret1 (by first | exact .inl rfl | exact .inr rfl) rfl rfl _ _ subF incF (⟨rfl, rfl, congrArg Value.bool (B_false (fun e => he (q_at e hi2))).symm⟩)
    · repeat (refine wXh ?_)
      refine ND_ret1 (by first | exact .inl rfl | exact .inr rfl) rfl rfl _ _ subF incF (⟨rfl, rfl, congrArg Value.bool (B_true (q_ext hlen (fun j hj => hs j (by omega)))).symm⟩)
  · refine enterD2 Tryz.func58 rfl Tryz.ntmps58 rfl ?_
    repeat (refine wXh ?_)
    refine ND_ret1 (by first | exact .inl rfl | exact .inr rfl) rfl rfl _ _ subF incF (⟨rfl, rfl, congrArg Value.bool (B_false (fun e => hlen (by have := congrArg List.length e; simpa using this))).symm⟩)
set_option maxRecDepth 100000 in
theorem rNonzero_ok {x : RL} {k : Nat} (hk : k ≤ 100000000) (lx : x.es.length ≤ 1000) (hx : isL x k ∈ I0) :
    CD Tryz.prog 45 [lv x] X w0 M0 I0 (fun v M I => M0 = M ∧ I0 = I ∧ v = .bool (B (¬ zeroL x.q))) := by
  refine CD_hv (φ := slI (x).p (recs eR (x).es)) (Hv.lsl memF) ?_
  refine enterD1 Tryz.func45 rfl Tryz.ntmps45 rfl ?_
  repeat (refine wXh ?_)
  refine TD_loop [0] rfl (fun k G M I => ∃ i : Nat, i ≤ x.es.length ∧ k = x.es.length - i ∧ (∀ j : Nat, j < i → (gt x.es (j : Int)).q = 0) ∧ G = [(3, .int .i64 i)] ∧ M0 = M ∧ I = slI x.p (recs eR x.es) :: I0) (x.es.length) _ _ _ subG subF incF (⟨0, by omega, rfl, fun j hj => by omega, rfl, rfl, rfl⟩) ?_
  rintro kk G M I ⟨i, hi, rfl, hs, rfl, rfl, rfl⟩
  by_cases hi2 : i < x.es.length
  · have hS := fun M0 I0 h1 => rQSign_ok (X := X) (w0 := w0) (M0 := M0) (I0 := I0) (e := gt x.es (i : Int)) (k := k) hk h1
    by_cases he : (gt x.es (i : Int)).q = 0
    · rw [(sign0 _).2 he] at hS
      repeat (refine wXh ?_)
      (refine RD_callS rfl (hS _ _ (Hv.lel memF (by omega))) rfl rfl ?_; rintro _ _ _ ⟨rfl, rfl, rfl⟩; refine ⟨okF, ?_⟩)
      repeat (refine wXh ?_)
      refine ND_again (x.es.length - (i + 1)) _ _ _ (by first | omega | (simp only [List.length_append, List.length_cons, List.length_nil]; omega)) subG subF incF (⟨i + 1, by omega, rfl, fun j hj => ?_, rfl, rfl, rfl⟩)
      by_cases e : j = i
      · subst e; exact he
      · exact hs j (by omega)
    · have hs0 : ¬ (gt x.es (i : Int)).q.num.sign = 0 := fun h => he ((sign0 _).1 h)
      generalize hsg : (gt x.es (i : Int)).q.num.sign = sg at *
      repeat (refine wXh ?_)
      (refine RD_callS rfl (hS _ _ (Hv.lel memF (by omega))) rfl rfl ?_; rintro _ _ _ ⟨rfl, rfl, rfl⟩; refine ⟨okF, ?_⟩)
      repeat (refine wXh ?_)
      refine ND_ret1 (by first | exact .inl rfl | exact .inr rfl) rfl rfl _ _ subF incF (⟨rfl, rfl, congrArg Value.bool (B_true (p := ¬ zeroL x.q) (fun e => he (e _ (List.mem_map.2 ⟨_, gt_mem (ms := x.es) (i := (i : Int)) (by omega), rfl⟩)))).symm⟩)
  · repeat (refine wXh ?_)
    refine ND_ret1 (by first | exact .inl rfl | exact .inr rfl) rfl rfl _ _ subF incF (⟨rfl, rfl, congrArg Value.bool (B_false (p := ¬ zeroL x.q) (fun e => e (fun q hq => ?_))).symm⟩)
    obtain ⟨r, hr, rfl⟩ := List.mem_map.1 hq
    obtain ⟨j, hj, rfl⟩ := List.mem_iff_getElem.1 hr
    have := hs j (by omega)
    rwa [gt_lt hj] at this
end
end Go.Proofs.YtllaoaobnnondaaGreatR
namespace Go.Proofs.YtllaoaobnnondaaGreatR
open Go Go.Fx
theorem V3.along_sub (a b : V3) : a.along (((-1 : Int) : Rat)) b = a.sub b := by
  have e : (((-1 : Int)) : Rat) = -1 := rfl
  unfold V3.along V3.sub
  rw [e]
  congr 1 <;> grind
section
variable {X : List Nat} {w0 : World} {M0 : List Ent} {I0 : List Imm}
set_option maxRecDepth 100000 in
set_option maxHeartbeats 1000000 in
theorem lMinus_ok {a b : TE} {u m : Nat} (hk : u + m + 1 ≤ 100000000) (ha : Hv I0 (isT a u)) (hb : Hv I0 (isT b m)) :
    CD Tryz.prog 23 [tv a, tv b] X w0 M0 I0 (TQ (a.v.sub b.v) (u + m + 1) M0 I0) := by
  refine CD_hv (φ := isT a u) ha (CD_hv (φ := isT b m) hb.cons ?_)
  have hW := fun M0 I0 => rQWhole_ok (X := X) (w0 := w0) (M0 := M0) (I0 := I0) (x := -1) (by decide) (k := 0) (by decide)
  have hP := fun (s : RE) M0 I0 h1 h2 h3 => lPlus_ok (X := X) (w0 := w0) (M0 := M0) (I0 := I0) (a := a) (b := b) (s := s) (u := u) (m := m) (v := 0) (by omega) h1 h2 h3
  rw [Nat.zero_add] at hP
  refine enterD2 Tryz.func23 rfl Tryz.ntmps23 rfl ?_
  refine TD_seq ?_
  refine TD_region ?_
  (refine RD_boxA rfl rfl rfl ?_; intro b2; refine ⟨okF, ?_⟩)
  refine RD_freezeB .here ?_
  (refine RD_boxA rfl rfl rfl ?_; intro b3; refine ⟨okF, ?_⟩)
  refine RD_freezeB .here ?_
  (refine RD_alloc rfl rfl ?_; intro b4; refine ⟨okF, ?_⟩)
  repeat (refine wXh ?_)
  (repeat refine TD_seq ?_); refine TD_drawnW (M0) (slI (some ⟨b3, 0, none⟩) (recs eR [b.x, b.y, b.z]) :: slI (some ⟨b2, 0, none⟩) (recs eR [a.x, a.y, a.z]) :: isT b m :: isT a u :: I0) [0, 2, 1, 3, 4] [1, 1, 0, 0, 0] subF incF mixed (by kernel_rfl) ?_
  repeat (refine wXh ?_)
  (refine RD_callS rfl (hW _ _) rfl rfl ?_; rintro _ _ _ ⟨rfl, s, rfl, hs, rfl⟩; refine ⟨okF, ?_⟩)
  repeat (refine wXh ?_)
  (refine RD_callS rfl (hP s _ _ (Hv.mem (φ := isT a u) memF) (Hv.mem (φ := isT b m) memF) (Hv.mem memF)) rfl rfl ?_; rintro _ _ _ ⟨rfl, p, rfl, hp, rfl⟩; refine ⟨okF, ?_⟩)
  repeat (refine wXh ?_)
  refine ND_retC (cs := recs eR [p.x, p.y, p.z]) (.inl rfl) rfl rfl memF rfl M0 (isT p (u + m + 1) :: I0) subF incF ⟨rfl, p, rfl, by rw [hp, hs]; exact V3.along_sub _ _, rfl⟩
set_option maxRecDepth 100000 in
set_option maxHeartbeats 1000000 in
theorem lSpread_ok {a b : TE} {u : Nat} (hk : u ≤ 1000000) (ha : Hv I0 (isT a u)) (hb : Hv I0 (isT b u)) :
    CD Tryz.prog 29 [tv a, tv b] X w0 M0 I0 (RQ (gramD a.v b.v) (24 * u + 13) M0 I0) := by
  refine CD_hv (φ := isT a u) ha (CD_hv (φ := isT b u) hb.cons ?_)
  have hD := fun (x y : TE) M0 I0 h1 h2 => lDot_ok (X := X) (w0 := w0) (M0 := M0) (I0 := I0) (a := x) (b := y) (k := u) (m := u) (by omega) h1 h2
  obtain ⟨D, hDe⟩ : ∃ D, D = 3 * (u + u + 1) := ⟨_, rfl⟩
  rw [← hDe] at hD
  have hM := fun (x y : RE) M0 I0 h1 h2 => rQMul_ok (X := X) (w0 := w0) (M0 := M0) (I0 := I0) (a := x) (b := y) (k := D) (m := D) (by omega) h1 h2
  have hS := fun (x y : RE) M0 I0 h1 h2 => rQSub_ok (X := X) (w0 := w0) (M0 := M0) (I0 := I0) (a := x) (b := y) (k := D + D) (m := D + D) (by omega) h1 h2
  refine enterD2 Tryz.func29 rfl Tryz.ntmps29 rfl ?_
  refine TD_seq ?_
  refine TD_region ?_
  (refine RD_boxA rfl rfl rfl ?_; intro b2; refine ⟨okF, ?_⟩)
  refine RD_freezeB .here ?_
  (refine RD_boxA rfl rfl rfl ?_; intro b3; refine ⟨okF, ?_⟩)
  refine RD_freezeB .here ?_
  (refine RD_alloc rfl rfl ?_; intro b4; refine ⟨okF, ?_⟩)
  repeat (refine wXh ?_)
  (refine RD_callS rfl (hD a b _ _ (Hv.mem memF) (Hv.mem memF)) rfl rfl ?_; rintro _ _ _ ⟨rfl, e1, rfl, he1, rfl⟩; refine ⟨okF, ?_⟩)
  repeat (refine wXh ?_)
  (refine RD_alloc rfl rfl ?_; intro b5; refine ⟨okF, ?_⟩)
  repeat (refine wXh ?_)
  (repeat refine TD_seq ?_); refine TD_drawnW (.blk b5 (eR e1) 26 :: M0) (isR e1 D :: slI (some ⟨b3, 0, none⟩) (recs eR [b.x, b.y, b.z]) :: slI (some ⟨b2, 0, none⟩) (recs eR [a.x, a.y, a.z]) :: isT b u :: isT a u :: I0) [0, 1, 3, 4, 7, 8, 2, 5, 6, 9, 10, 11] [4, 4, 4, 4, 4, 4, 0, 0, 0, 0, 0, 0] subF incF mixed (by kernel_rfl) ?_
  repeat (refine wXh ?_)
  (refine RD_callS rfl (hD a a _ _ (Hv.mem memF) (Hv.mem memF)) rfl rfl ?_; rintro _ _ _ ⟨rfl, e2, rfl, he2, rfl⟩; refine ⟨okF, ?_⟩)
  repeat (refine wXh ?_)
  (refine RD_callS rfl (hD b b _ _ (Hv.mem memF) (Hv.mem memF)) rfl rfl ?_; rintro _ _ _ ⟨rfl, e3, rfl, he3, rfl⟩; refine ⟨okF, ?_⟩)
  repeat (refine wXh ?_)
  (refine RD_callS rfl (hM e2 e3 _ _ (Hv.mem memF) (Hv.mem memF)) rfl rfl ?_; rintro _ _ _ ⟨rfl, e4, rfl, he4, rfl⟩; refine ⟨okF, ?_⟩)
  repeat (refine wXh ?_)
  (refine RD_callS rfl (hM e1 e1 _ _ (Hv.mem memF) (Hv.mem memF)) rfl rfl ?_; rintro _ _ _ ⟨rfl, e5, rfl, he5, rfl⟩; refine ⟨okF, ?_⟩)
  repeat (refine wXh ?_)
  (refine RD_callS rfl (hS e4 e5 _ _ (Hv.mem memF) (Hv.mem memF)) rfl rfl ?_; rintro _ _ _ ⟨rfl, e6, rfl, he6, rfl⟩; refine ⟨okF, ?_⟩)
  repeat (refine wXh ?_)
  refine ND_hv (φ := isR e6 (24 * u + 13)) (Hv.q (k := D + D + (D + D) + 1) memF (by omega)) ?_
  refine ND_retC (cs := eR e6) (.inl rfl) rfl rfl memF rfl M0 (isR e6 (24 * u + 13) :: I0) subF incF ⟨rfl, e6, rfl, by rw [he6, he4, he5, he2, he3, he1]; rfl, rfl⟩
set_option maxRecDepth 100000 in
theorem lParallel_ok {a b : TE} {u : Nat} (hk : u ≤ 1000000) (ha : Hv I0 (isT a u)) (hb : Hv I0 (isT b u)) :
    CD Tryz.prog 19 [tv a, tv b] X w0 M0 I0 (fun v M I => M0 = M ∧ I0 = I ∧ v = .bool (B (gramD a.v b.v = 0))) := by
  refine CD_hvV (φ := isT a u) ha (CD_hvV (φ := isT b u) hb.cons ?_)
  have hS := fun M0 I0 h1 h2 => lSpread_ok (X := X) (w0 := w0) (M0 := M0) (I0 := I0) (a := a) (b := b) (u := u) hk h1 h2
  refine enterD2 Tryz.func19 rfl Tryz.ntmps19 rfl ?_
  refine TD_seq ?_
  refine TD_region ?_
  (refine RD_boxA rfl rfl rfl ?_; intro b2; refine ⟨okF, ?_⟩)
  refine RD_freezeB .here ?_
  (refine RD_boxA rfl rfl rfl ?_; intro b3; refine ⟨okF, ?_⟩)
  refine RD_freezeB .here ?_
  repeat (refine wXh ?_)
  (refine RD_callS rfl (hS _ _ (Hv.mem memF) (Hv.mem memF)) rfl rfl ?_; rintro _ _ _ ⟨rfl, e, rfl, he, rfl⟩; refine ⟨okF, ?_⟩)
  (refine RD_callS rfl (rQSign_ok (e := e) (k := 24 * u + 13) (by omega) (Hv.mem memF)) rfl rfl ?_; rintro _ _ _ ⟨rfl, rfl, rfl⟩; refine ⟨okF, ?_⟩)
  repeat (refine wXh ?_)
  refine ND_ret1 (by first | exact .inl rfl | exact .inr rfl) rfl rfl _ _ subF incF (⟨rfl, rfl, congrArg Value.bool (B_congr (by rw [sign0, he]))⟩)
end
end Go.Proofs.YtllaoaobnnondaaGreatR
namespace Go.Proofs.YtllaoaobnnondaaGreatR
open Go Go.Fx
theorem V3.dot_comm (a b : V3) : a.dot b = b.dot a := by unfold V3.dot; grind
theorem miss_eq {o a p : V3} (h : a.dot a ≠ 0) : gramD a (p.sub o) / a.dot a = missQ o a p := by
  unfold gramD missQ
  rw [V3.dot_comm a (p.sub o)]
  generalize a.dot a = x at *
  generalize (p.sub o).dot (p.sub o) = y
  generalize (p.sub o).dot a = z
  grind
section
variable {X : List Nat} {w0 : World} {M0 : List Ent} {I0 : List Imm}
set_option maxRecDepth 100000 in
set_option maxHeartbeats 1000000 in
theorem lMiss_ok {r : YE} {p : TE} {k : Nat} (hk : k ≤ 10000) (hr0 : r.a.v.dot r.a.v ≠ 0) (hr : Hv I0 (isY r k)) (hp : Hv I0 (isT p k)) :
    CD Tryz.prog 21 [yv r, tv p] X w0 M0 I0 (RQ (missQ r.o.v r.a.v p.v) (100 * (k + 1)) M0 I0) := by
  refine CD_hv (φ := isY r k) hr (CD_hv (φ := isT p k) hp.cons ?_)
  have hMi := fun M0 I0 h1 h2 => lMinus_ok (X := X) (w0 := w0) (M0 := M0) (I0 := I0) (a := p) (b := r.o) (u := k) (m := k) (by omega) h1 h2
  obtain ⟨P, hP⟩ : ∃ P, P = k + k + 1 := ⟨_, rfl⟩
  rw [← hP] at hMi
  have hSp := fun (d : TE) M0 I0 h1 h2 => lSpread_ok (X := X) (w0 := w0) (M0 := M0) (I0 := I0) (a := r.a) (b := d) (u := P) (by omega) h1 h2
  have hDo := fun M0 I0 h1 h2 => lDot_ok (X := X) (w0 := w0) (M0 := M0) (I0 := I0) (a := r.a) (b := r.a) (k := k) (m := k) (by omega) h1 h2
  have hQ := fun (x y : RE) M0 I0 h0 h1 h2 => lQuot_ok (X := X) (w0 := w0) (M0 := M0) (I0 := I0) (a := x) (b := y) (k := 24 * P + 13) (m := 3 * (k + k + 1)) (by omega) h0 h1 h2
  refine enterD2 Tryz.func21 rfl Tryz.ntmps21 rfl ?_
  refine TD_seq ?_
  refine TD_region ?_
  (refine RD_boxA rfl rfl rfl ?_; intro b2; refine ⟨okF, ?_⟩)
  refine RD_freezeB .here ?_
  (refine RD_boxA rfl rfl rfl ?_; intro b3; refine ⟨okF, ?_⟩)
  refine RD_freezeB .here ?_
  (refine RD_alloc rfl rfl ?_; intro b4; refine ⟨okF, ?_⟩)
  repeat (first | (refine wXh ?_) | (apply RD_ldZIB; exact vwF; exact rfl; exact memF; (first | exact AtsZ.y0 | exact AtsZ.y1 | exact AtsZ.w0 | exact AtsZ.w1); exact rfl; exact rfl))
  repeat (refine wXh ?_)
  (repeat refine TD_seq ?_); refine TD_drawnW (M0) (slI (some ⟨b3, 0, none⟩) (recs eR [p.x, p.y, p.z]) :: slI (some ⟨b2, 0, none⟩) (recs eT [r.o, r.a]) :: isT p k :: isY r k :: I0) [0, 1, 2, 3, 4, 7, 8, 9, 10, 5, 6, 11, 12, 13] [4, 3, 3, 4, 3, 4, 3, 4, 3, 0, 0, 0, 0, 0] subF incF mixed (by kernel_rfl) ?_
  repeat (first | (refine wXh ?_) | (apply RD_ldZIB; exact vwF; exact rfl; exact memF; (first | exact AtsZ.y0 | exact AtsZ.y1 | exact AtsZ.w0 | exact AtsZ.w1); exact rfl; exact rfl))
  repeat (refine wXh ?_)
  (refine RD_callS rfl (hMi _ _ (Hv.mem (φ := isT p k) memF) (Hv.yo (Hv.mem (φ := isY r k) memF))) rfl rfl ?_; rintro _ _ _ ⟨rfl, d, rfl, hd, rfl⟩; refine ⟨okF, ?_⟩)
  repeat (first | (refine wXh ?_) | (apply RD_ldZIB; exact vwF; exact rfl; exact memF; (first | exact AtsZ.y0 | exact AtsZ.y1 | exact AtsZ.w0 | exact AtsZ.w1); exact rfl; exact rfl))
  repeat (refine wXh ?_)
  (refine RD_callS rfl (hSp d _ _ (Hv.upT (Hv.ya (Hv.mem (φ := isY r k) memF)) (by omega)) (Hv.mem memF)) rfl rfl ?_; rintro _ _ _ ⟨rfl, e1, rfl, he1, rfl⟩; refine ⟨okF, ?_⟩)
  repeat (first | (refine wXh ?_) | (apply RD_ldZIB; exact vwF; exact rfl; exact memF; (first | exact AtsZ.y0 | exact AtsZ.y1 | exact AtsZ.w0 | exact AtsZ.w1); exact rfl; exact rfl))
  repeat (refine wXh ?_)
  (refine RD_callS rfl (hDo _ _ (Hv.ya (Hv.mem (φ := isY r k) memF)) (Hv.ya (Hv.mem (φ := isY r k) memF))) rfl rfl ?_; rintro _ _ _ ⟨rfl, e2, rfl, he2, rfl⟩; refine ⟨okF, ?_⟩)
  repeat (first | (refine wXh ?_) | (apply RD_ldZIB; exact vwF; exact rfl; exact memF; (first | exact AtsZ.y0 | exact AtsZ.y1 | exact AtsZ.w0 | exact AtsZ.w1); exact rfl; exact rfl))
  repeat (refine wXh ?_)
  (refine RD_callS rfl (hQ e1 e2 _ _ (by rw [he2]; exact hr0) (Hv.mem memF) (Hv.mem memF)) rfl rfl ?_; rintro _ _ _ ⟨rfl, e3, rfl, he3, rfl⟩; refine ⟨okF, ?_⟩)
  repeat (first | (refine wXh ?_) | (apply RD_ldZIB; exact vwF; exact rfl; exact memF; (first | exact AtsZ.y0 | exact AtsZ.y1 | exact AtsZ.w0 | exact AtsZ.w1); exact rfl; exact rfl))
  repeat (refine wXh ?_)
  refine ND_hv (φ := isR e3 (100 * (k + 1))) (Hv.q (k := 24 * P + 13 + 3 * (k + k + 1)) memF (by omega)) ?_
  refine ND_retC (cs := eR e3) (.inl rfl) rfl rfl memF rfl M0 (isR e3 (100 * (k + 1)) :: I0) subF incF ⟨rfl, e3, rfl, by rw [he3, he1, he2, hd]; exact miss_eq hr0, rfl⟩
theorem same3 {a b : TE} {x y : Nat} : (a.l x).q = (b.l y).q ↔ a.v = b.v := by
  show [a.x.q, a.y.q, a.z.q] = [b.x.q, b.y.q, b.z.q] ↔ (⟨a.x.q, a.y.q, a.z.q⟩ : V3) = ⟨b.x.q, b.y.q, b.z.q⟩
  simp
instance : DecidableEq V3 := fun a b => decidable_of_iff (a.x = b.x ∧ a.y = b.y ∧ a.z = b.z) (by cases a; cases b; simp)
set_option maxRecDepth 100000 in
theorem lSame_ok {a b : TE} {u m : Nat} (hk : u + m + 1 ≤ 100000000) (ha : Hv I0 (isT a u)) (hb : Hv I0 (isT b m)) :
    CD Tryz.prog 37 [tv a, tv b] X w0 M0 I0 (fun v M I => M0 = M ∧ I0 = I ∧ v = .bool (B (a.v = b.v))) := by
  refine CD_hvV (φ := isT a u) ha (CD_hvV (φ := isT b m) hb.cons ?_)
  have hS := fun (x y : Nat) M0 I0 h1 h2 => rSameList_ok (X := X) (w0 := w0) (M0 := M0) (I0 := I0) (x := a.l x) (y := b.l y) (u := u) (m := m) (by omega) (by show 3 ≤ 1000; omega) (by show 3 ≤ 1000; omega) h1 h2
  refine enterD2 Tryz.func37 rfl Tryz.ntmps37 rfl ?_
  refine TD_seq ?_
  refine TD_region ?_
  (refine RD_boxA rfl rfl rfl ?_; intro b2; refine ⟨okF, ?_⟩)
  refine RD_freezeB .here ?_
  (refine RD_boxA rfl rfl rfl ?_; intro b3; refine ⟨okF, ?_⟩)
  refine RD_freezeB .here ?_
  repeat (refine wXh ?_)
  (repeat refine TD_seq ?_); refine TD_drawnW (M0) (slI (some ⟨b3, 0, none⟩) (recs eR [b.x, b.y, b.z]) :: slI (some ⟨b2, 0, none⟩) (recs eR [a.x, a.y, a.z]) :: isT b m :: isT a u :: I0) [0, 1, 2, 3] [0, 0, 0, 0] subF incF mixed (by kernel_rfl) ?_
  repeat (refine wXh ?_)
  (refine RD_c rfl (fun _ => Const_sliceA rfl) rfl rfl ?_)
  repeat (refine wXh ?_)
  (refine RD_c rfl (fun _ => Const_sliceA rfl) rfl rfl ?_)
  repeat (refine wXh ?_)
  (refine RD_callS rfl (hS b2 b3 _ _ (Hv.tl (Hv.mem (φ := isT a u) memF) memF) (Hv.tl (Hv.mem (φ := isT b m) memF) memF)) rfl rfl ?_; rintro _ _ _ ⟨rfl, rfl, rfl⟩; refine ⟨okF, ?_⟩)
  repeat (refine wXh ?_)
  refine ND_ret1 (by first | exact .inl rfl | exact .inr rfl) rfl rfl _ _ subF incF (⟨rfl, rfl, congrArg Value.bool (B_congr same3)⟩)
end
end Go.Proofs.YtllaoaobnnondaaGreatR
namespace Go.Proofs.YtllaoaobnnondaaGreatR
open Go Go.Fx
def TW.wl (p : TW) (b o : Nat) : WL := ⟨some ⟨b, o, none⟩, 3, [p.x, p.y, p.z]⟩
def TE.lo (p : TE) (b o : Nat) : RL := ⟨some ⟨b, o, none⟩, 3, [p.x, p.y, p.z]⟩
theorem Hv.twl {I : List Imm} {p : TW} {b o : Nat} (h : Hv I (isTW p)) (hs : slI (some ⟨b, o, none⟩) (recs eW [p.x, p.y, p.z]) ∈ I) : Hv I (isWL (p.wl b o)) := ⟨fun X w hw => ⟨(hw _ hs : SlI _ _ X w).go, (h.go X w hw).el, ⟨Nat.le_refl 3, .inl (Ok.mk _ _)⟩⟩⟩
theorem Hv.tlo {I : List Imm} {p : TE} {b o k : Nat} (h : Hv I (isT p k)) (hs : slI (some ⟨b, o, none⟩) (recs eR [p.x, p.y, p.z]) ∈ I) : Hv I (isL (p.lo b o) k) := ⟨fun X w hw => ⟨(hw _ hs : SlI _ _ X w).go, fun e he => by
  have h1 := h.go X w hw
  have he : e ∈ [p.x, p.y, p.z] := he
  simp only [List.mem_cons, List.not_mem_nil, or_false] at he
  rcases he with rfl | rfl | rfl
  · exact h1.x
  · exact h1.y
  · exact h1.z, ⟨Nat.le_refl 3, .inl (Ok.mk _ _)⟩⟩⟩
theorem zero3 {p : TE} {b o : Nat} : ¬ zeroL (p.lo b o).q ↔ p.raw.nz := by
  rw [nz_dot, Ne, V3.dot0]
  show ¬ (∀ x ∈ [p.x.q, p.y.q, p.z.q], x = 0) ↔ ¬ (p.x.q = 0 ∧ p.y.q = 0 ∧ p.z.q = 0)
  simp
section
variable {X : List Nat} {w0 : World} {M0 : List Ent} {I0 : List Imm}
set_option maxRecDepth 100000 in
set_option maxHeartbeats 1000000 in
theorem lValid_ok {r : YW} (sr : r.sml) (hr : Hv I0 (isYW r)) :
    CD Tryz.prog 17 [ywv r] X w0 M0 I0 (fun v M I => M0 = M ∧ I0 = I ∧ v = .bool (B r.ok)) := by
  refine xCD_fact (φ := ∀ e ∈ r.a.es, e.Fit) (fun w hw e he => ((hr.go _ w (fun φ hφ => (hw.imm φ hφ).2)).a.el e he).fit) (fun hel => ?_)
  refine CD_hvV (φ := isYW r) hr ?_
  have hV1 := fun (b : Nat) M0 I0 h1 => rValidList_ok (X := X) (w0 := w0) (M0 := M0) (I0 := I0) (r := r.o.wl b 0) ⟨by show 3 ≤ 1000000; omega, sr.1⟩ h1
  have hV2 := fun (b : Nat) M0 I0 h1 => rValidList_ok (X := X) (w0 := w0) (M0 := M0) (I0 := I0) (r := r.a.wl b 12) ⟨by show 3 ≤ 1000000; omega, sr.2⟩ h1
  by_cases h1 : r.o.good
  · have e1 : ∀ b, B (r.o.wl b 0).good = true := fun b => B_true h1
    simp only [e1] at hV1
    by_cases h2 : r.a.good
    · have e2 : ∀ b, B (r.a.wl b 12).good = true := fun b => B_true h2
      simp only [e2] at hV2
      obtain ⟨A, hA⟩ := TW.good_raw hel h2
      have hN := fun (b : Nat) M0 I0 h1 => rNonzero_ok (X := X) (w0 := w0) (M0 := M0) (I0 := I0) (x := A.lo b 12) (k := 30000000) (by decide) (by show 3 ≤ 1000; omega) h1
      have hE : recs eR [A.x, A.y, A.z] = recs eW [r.a.x, r.a.y, r.a.z] := by rw [hA]; rfl
      have hT : ∀ I, isYW r ∈ I → Hv I (isT A 30000000) := fun I h => ⟨fun X w hw => by
        have h3 := (hw _ h : IsYW r X w).a
        rw [hA] at h3
        have hs := sr.2
        rw [hA] at hs
        exact ⟨RE.isR_raw (h3.el _ (by simp [TE.raw])) (by have := (hs A.x.raw (by simp [TE.raw])).1; omega) (by have := (hs A.x.raw (by simp [TE.raw])).2; omega), RE.isR_raw (h3.el _ (by simp [TE.raw])) (by have := (hs A.y.raw (by simp [TE.raw])).1; omega) (by have := (hs A.y.raw (by simp [TE.raw])).2; omega), RE.isR_raw (h3.el _ (by simp [TE.raw])) (by have := (hs A.z.raw (by simp [TE.raw])).1; omega) (by have := (hs A.z.raw (by simp [TE.raw])).2; omega)⟩⟩
      have hok : ∀ b, B (¬ zeroL (A.lo b 12).q) = B r.ok := fun b => B_congr (zero3.trans ⟨fun h => ⟨h1, h2, by rw [hA]; exact h⟩, fun h => by have := h.2.2; rw [hA] at this; exact this⟩)
      simp only [hok] at hN
      refine enterD1 Tryz.func17 rfl Tryz.ntmps17 rfl ?_
      refine TD_seq ?_
      refine TD_region ?_
      (refine RD_boxA rfl rfl rfl ?_; intro b1; refine ⟨okF, ?_⟩)
      refine RD_freezeB .here ?_
      repeat (refine wXh ?_)
      (refine RD_c rfl (fun _ => Const_sliceA rfl) rfl rfl ?_)
      refine RD_hv (φ := slI (some ⟨b1, 0, none⟩) (recs eW [r.o.x, r.o.y, r.o.z])) (Hv.fld0 (a := r.a) memF) ?_
      refine RD_hv (φ := slI (some ⟨b1, 12, none⟩) (recs eW [r.a.x, r.a.y, r.a.z])) (Hv.fld1 (o := r.o) memF) ?_
      refine RD_hv (φ := isWL (r.o.wl b1 0)) (Hv.twl (Hv.ywo (Hv.mem (φ := isYW r) memF)) memF) ?_
      refine RD_hv (φ := isWL (r.a.wl b1 12)) (Hv.twl (Hv.ywa (Hv.mem (φ := isYW r) memF)) memF) ?_
      (refine RD_callS rfl (hV1 b1 _ _ memF) rfl rfl ?_; rintro _ _ _ ⟨rfl, rfl, rfl⟩; refine ⟨okF, ?_⟩)
      repeat (refine wXh ?_)
      (refine RD_c rfl (fun _ => Const_sliceA rfl) rfl rfl ?_)
      (refine RD_callS rfl (hV2 b1 _ _ memF) rfl rfl ?_; rintro _ _ _ ⟨rfl, rfl, rfl⟩; refine ⟨okF, ?_⟩)
      repeat (refine wXh ?_)
      (refine RD_c rfl (fun _ => Const_sliceA rfl) rfl rfl ?_)
      refine RD_hv (φ := isL (A.lo b1 12) 30000000) (Hv.tlo (hT _ memF) (by rw [hE]; exact memF)) ?_
      (refine RD_callS rfl (hN b1 _ _ memF) rfl rfl ?_; rintro _ _ _ ⟨rfl, rfl, rfl⟩; refine ⟨okF, ?_⟩)
      repeat (refine wXh ?_)
      refine ND_ret1 (by first | exact .inl rfl | exact .inr rfl) rfl rfl _ _ subF incF (⟨rfl, rfl, rfl⟩)
    · have e2 : ∀ b, B (r.a.wl b 12).good = false := fun b => B_false h2
      simp only [e2] at hV2
      refine enterD1 Tryz.func17 rfl Tryz.ntmps17 rfl ?_
      refine TD_seq ?_
      refine TD_region ?_
      (refine RD_boxA rfl rfl rfl ?_; intro b1; refine ⟨okF, ?_⟩)
      refine RD_freezeB .here ?_
      repeat (refine wXh ?_)
      (refine RD_c rfl (fun _ => Const_sliceA rfl) rfl rfl ?_)
      refine RD_hv (φ := slI (some ⟨b1, 0, none⟩) (recs eW [r.o.x, r.o.y, r.o.z])) (Hv.fld0 (a := r.a) memF) ?_
      refine RD_hv (φ := slI (some ⟨b1, 12, none⟩) (recs eW [r.a.x, r.a.y, r.a.z])) (Hv.fld1 (o := r.o) memF) ?_
      refine RD_hv (φ := isWL (r.o.wl b1 0)) (Hv.twl (Hv.ywo (Hv.mem (φ := isYW r) memF)) memF) ?_
      refine RD_hv (φ := isWL (r.a.wl b1 12)) (Hv.twl (Hv.ywa (Hv.mem (φ := isYW r) memF)) memF) ?_
      (refine RD_callS rfl (hV1 b1 _ _ memF) rfl rfl ?_; rintro _ _ _ ⟨rfl, rfl, rfl⟩; refine ⟨okF, ?_⟩)
      repeat (refine wXh ?_)
      (refine RD_c rfl (fun _ => Const_sliceA rfl) rfl rfl ?_)
      (refine RD_callS rfl (hV2 b1 _ _ memF) rfl rfl ?_; rintro _ _ _ ⟨rfl, rfl, rfl⟩; refine ⟨okF, ?_⟩)
      repeat (refine wXh ?_)
      refine ND_ret1 (by first | exact .inl rfl | exact .inr rfl) rfl rfl _ _ subF incF (⟨rfl, rfl, congrArg Value.bool (B_false (fun h => h2 h.2.1)).symm⟩)
  · have e1 : ∀ b, B (r.o.wl b 0).good = false := fun b => B_false h1
    simp only [e1] at hV1
    refine enterD1 Tryz.func17 rfl Tryz.ntmps17 rfl ?_
    refine TD_seq ?_
    refine TD_region ?_
    (refine RD_boxA rfl rfl rfl ?_; intro b1; refine ⟨okF, ?_⟩)
    refine RD_freezeB .here ?_
    repeat (refine wXh ?_)
    (refine RD_c rfl (fun _ => Const_sliceA rfl) rfl rfl ?_)
    refine RD_hv (φ := slI (some ⟨b1, 0, none⟩) (recs eW [r.o.x, r.o.y, r.o.z])) (Hv.fld0 (a := r.a) memF) ?_
    refine RD_hv (φ := isWL (r.o.wl b1 0)) (Hv.twl (Hv.ywo (Hv.mem (φ := isYW r) memF)) memF) ?_
    (refine RD_callS rfl (hV1 b1 _ _ memF) rfl rfl ?_; rintro _ _ _ ⟨rfl, rfl, rfl⟩; refine ⟨okF, ?_⟩)
    repeat (refine wXh ?_)
    refine ND_ret1 (by first | exact .inl rfl | exact .inr rfl) rfl rfl _ _ subF incF (⟨rfl, rfl, congrArg Value.bool (B_false (fun h => h1 h.1)).symm⟩)
end
end Go.Proofs.YtllaoaobnnondaaGreatR
namespace Go.Proofs.YtllaoaobnnondaaGreatR
open Go Go.Fx
theorem V3.lin (o a p b c : V3) (s t : Rat) : ((o.along s a).sub (p.along t b)).dot c = s * a.dot c - t * b.dot c - (p.sub o).dot c := by
  unfold V3.along V3.sub V3.dot
  dsimp only
  grind
theorem gap_a {o a p b : V3} (h : gramD a b ≠ 0) : (gapV o a p b).dot a = 0 := by
  unfold gapV
  rw [V3.lin, V3.dot_comm b a]
  unfold footS footT
  have hg : gramD a b = a.dot a * b.dot b - a.dot b * a.dot b := rfl
  generalize gramD a b = g at *
  generalize a.dot a = aa at *
  generalize b.dot b = bb at *
  generalize a.dot b = ab at *
  generalize (p.sub o).dot a = da
  generalize (p.sub o).dot b = db
  have hi : g * (1 / g) = 1 := by grind
  have e1 : (da * bb - ab * db) / g * aa - (da * ab - aa * db) / g * ab - da = da * ((aa * bb - ab * ab) * (1 / g)) - da := by grind
  rw [e1, ← hg, hi]; grind
theorem gap_b {o a p b : V3} (h : gramD a b ≠ 0) : (gapV o a p b).dot b = 0 := by
  unfold gapV
  rw [V3.lin]
  unfold footS footT
  have hg : gramD a b = a.dot a * b.dot b - a.dot b * a.dot b := rfl
  generalize gramD a b = g at *
  generalize a.dot a = aa at *
  generalize b.dot b = bb at *
  generalize a.dot b = ab at *
  generalize (p.sub o).dot a = da
  generalize (p.sub o).dot b = db
  have hi : g * (1 / g) = 1 := by grind
  have e1 : (da * bb - ab * db) / g * ab - (da * ab - aa * db) / g * bb - db = db * ((aa * bb - ab * ab) * (1 / g)) - db := by grind
  rw [e1, ← hg, hi]; grind
theorem gram_lagrange (a b : V3) : gramD a b = (a.y * b.z - a.z * b.y) * (a.y * b.z - a.z * b.y) + (a.z * b.x - a.x * b.z) * (a.z * b.x - a.x * b.z) + (a.x * b.y - a.y * b.x) * (a.x * b.y - a.y * b.x) := by
  unfold gramD V3.dot
  grind
theorem gram_nonneg (a b : V3) : 0 ≤ gramD a b := by
  rw [gram_lagrange]
  have h1 := sqn (a.y * b.z - a.z * b.y)
  have h2 := sqn (a.z * b.x - a.x * b.z)
  have h3 := sqn (a.x * b.y - a.y * b.x)
  grind
theorem gram_le (a b : V3) : gramD a b ≤ a.dot a * b.dot b := by
  have h1 := sqn (a.dot b)
  unfold gramD
  grind
theorem dot_pos {a : V3} (h : a.dot a ≠ 0) : 0 < a.dot a := by
  have h1 := sqn a.x
  have h2 := sqn a.y
  have h3 := sqn a.z
  have : 0 ≤ a.dot a := by unfold V3.dot; grind
  grind
/-- the parallax lies between 0 and 1, and is 0 for parallel directions alone -/
theorem parallax_law {a b : V3} (ha : a.dot a ≠ 0) (hb : b.dot b ≠ 0) : 0 ≤ gramD a b / (a.dot a * b.dot b) ∧ gramD a b / (a.dot a * b.dot b) ≤ 1 ∧ (gramD a b / (a.dot a * b.dot b) = 0 ↔ gramD a b = 0) := by
  have hp : 0 < a.dot a * b.dot b := Rat.mul_pos (dot_pos ha) (dot_pos hb)
  have h1 := gram_nonneg a b
  have h2 := gram_le a b
  generalize gramD a b = g at *
  generalize a.dot a * b.dot b = d at *
  have hd : d * (1 / d) = 1 := by grind
  have hi : 0 ≤ 1 / d := by
    by_cases hh : 0 ≤ 1 / d
    · exact hh
    · have hh := Rat.not_le.1 hh
      have : 0 ≤ d * (-(1 / d)) := Rat.mul_nonneg (by grind) (by grind)
      grind
  have e : g / d = g * (1 / d) := by grind
  rw [e]
  refine ⟨Rat.mul_nonneg h1 hi, ?_, ?_⟩
  · have h3 : 0 ≤ (d - g) * (1 / d) := Rat.mul_nonneg (by grind) hi
    grind
  · constructor
    · intro h
      rcases Rat.mul_eq_zero.1 h with h | h
      · exact h
      · rw [h] at hd; grind
    · intro h; rw [h]; grind
end Go.Proofs.YtllaoaobnnondaaGreatR
namespace Go.Proofs.YtllaoaobnnondaaGreatR
open Go Go.Fx
section
variable {X : List Nat} {w0 : World} {M0 : List Ent} {I0 : List Imm}
theorem rZero25 : CD Tryz.prog 18 [.agg zRv.toArray] X w0 M0 I0 (fun v M I => M0 = M ∧ I0 = I ∧ v = .bool true) := by
  refine enterD1 Tryz.func18 rfl Tryz.ntmps18 rfl ?_
  refine TD_seq ?_
  refine TD_region ?_
  (refine RD_boxA rfl rfl rfl ?_; intro b; refine ⟨okF, ?_⟩)
  repeat (refine wXh ?_)
  refine ND_ret1 (by first | exact .inl rfl | exact .inr rfl) rfl rfl _ _ subF incF (⟨rfl, rfl, congrArg Value.bool (B_true (by omega))⟩)
set_option maxRecDepth 100000 in
theorem lZero_z : CD Tryz.prog 36 [.agg zTc.toArray] X w0 M0 I0 (fun v M I => M0 = M ∧ I0 = I ∧ v = .bool true) := by
  refine enterD1 Tryz.func36 rfl Tryz.ntmps36 rfl ?_
  refine TD_seq ?_
  refine TD_region ?_
  (refine RD_boxA rfl rfl rfl ?_; intro b; refine ⟨okF, ?_⟩)
  repeat (refine wXh ?_)
  (refine RD_callS rfl (rZero25) rfl rfl ?_; rintro _ _ _ ⟨rfl, rfl, rfl⟩; refine ⟨okF, ?_⟩)
  repeat (refine wXh ?_)
  (refine RD_callS rfl (rZero25) rfl rfl ?_; rintro _ _ _ ⟨rfl, rfl, rfl⟩; refine ⟨okF, ?_⟩)
  repeat (refine wXh ?_)
  (refine RD_callS rfl (rZero25) rfl rfl ?_; rintro _ _ _ ⟨rfl, rfl, rfl⟩; refine ⟨okF, ?_⟩)
  repeat (refine wXh ?_)
  refine ND_ret1 (by first | exact .inl rfl | exact .inr rfl) rfl rfl _ _ subF incF (⟨rfl, rfl, rfl⟩)
end
end Go.Proofs.YtllaoaobnnondaaGreatR

/- Vectors of space in memory; products of lists. intersect: dot, minus, plus, over, determinant, gram. -/
import Derived.Test.YtllaoaobnnondaaGreatRZibe
import Derived.Test.YtllaoaobnnondaaGreatRZibb
import Derived.Test.YtllaoaobnnondaaGreatRZiax
set_option linter.unusedSimpArgs false
set_option linter.unusedVariables false
namespace Go.Proofs.YtllaoaobnnondaaGreatR
open Go Go.Fx
structure V3 where
  x : Rat
  y : Rat
  z : Rat
def V3.dot (a b : V3) : Rat := a.x * b.x + a.y * b.y + a.z * b.z
def V3.sub (a b : V3) : V3 := ⟨a.x - b.x, a.y - b.y, a.z - b.z⟩
def V3.along (a : V3) (s : Rat) (b : V3) : V3 := ⟨a.x + s * b.x, a.y + s * b.y, a.z + s * b.z⟩
/-- a vector -/
structure TE where
  x : RE
  y : RE
  z : RE
instance : Inhabited TE := ⟨⟨default, default, default⟩⟩
abbrev eT (p : TE) : List Value := recs eR [p.x, p.y, p.z]
abbrev tv (p : TE) : Value := .agg (recs eR [p.x, p.y, p.z]).toArray
instance : Sized eT 12 := ⟨fun _ => rfl⟩
instance : Ones eT := ⟨fun m u hu => recs_one _ u hu⟩
def TE.v (p : TE) : V3 := ⟨p.x.q, p.y.q, p.z.q⟩
structure IsT (p : TE) (k : Nat) (X : List Nat) (w : World) : Prop where
  x : IsR p.x k X w
  y : IsR p.y k X w
  z : IsR p.z k X w
abbrev isT (p : TE) (k : Nat) : Imm := IsT p k
instance (p : TE) (k : Nat) : Fx.Good (IsT p k) := ⟨fun X Y w w' h he hY => ⟨Fx.Good.go (φ := IsR _ _) X Y w w' h.x he hY, Fx.Good.go (φ := IsR _ _) X Y w w' h.y he hY, Fx.Good.go (φ := IsR _ _) X Y w w' h.z he hY⟩⟩
theorem Hv.tx {I : List Imm} {p : TE} {k : Nat} (h : Hv I (isT p k)) : Hv I (isR p.x k) := ⟨fun X w hw => (h.go X w hw).x⟩
theorem Hv.ty {I : List Imm} {p : TE} {k : Nat} (h : Hv I (isT p k)) : Hv I (isR p.y k) := ⟨fun X w hw => (h.go X w hw).y⟩
theorem Hv.tz {I : List Imm} {p : TE} {k : Nat} (h : Hv I (isT p k)) : Hv I (isR p.z k) := ⟨fun X w hw => (h.go X w hw).z⟩
theorem Hv.mkT {I : List Imm} {a b c : RE} {k : Nat} (ha : Hv I (isR a k)) (hb : Hv I (isR b k)) (hc : Hv I (isR c k)) : Hv I (isT ⟨a, b, c⟩ k) := ⟨fun X w hw => ⟨ha.go X w hw, hb.go X w hw, hc.go X w hw⟩⟩
theorem Hv.upR {I : List Imm} {a : RE} {k m : Nat} (ha : Hv I (isR a k)) (h : k ≤ m) : Hv I (isR a m) := ⟨fun X w hw => (ha.go X w hw).mono h⟩
theorem Hv.upT {I : List Imm} {a : TE} {k m : Nat} (ha : Hv I (isT a k)) (h : k ≤ m) : Hv I (isT a m) := ⟨fun X w hw => ⟨(ha.go X w hw).x.mono h, (ha.go X w hw).y.mono h, (ha.go X w hw).z.mono h⟩⟩
/-- a vector in a box, as a list -/
def TE.l (p : TE) (b : Nat) : RL := ⟨some ⟨b, 0, none⟩, 3, [p.x, p.y, p.z]⟩
theorem Hv.tl {I : List Imm} {p : TE} {b k : Nat} (h : Hv I (isT p k)) (hs : slI (some ⟨b, 0, none⟩) (eT p) ∈ I) : Hv I (isL (p.l b) k) := ⟨fun X w hw => ⟨(hw _ hs : SlI _ _ X w).go, fun e he => by
  have h1 := h.go X w hw
  have he : e ∈ [p.x, p.y, p.z] := he
  simp only [List.mem_cons, List.not_mem_nil, or_false] at he
  rcases he with rfl | rfl | rfl
  · exact h1.x
  · exact h1.y
  · exact h1.z, ⟨Nat.le_refl 3, .inl (Ok.mk _ _)⟩⟩⟩
theorem dot3 {a b : TE} {x y : Nat} : dotQ 3 (a.l x).q (b.l y).q = a.v.dot b.v := by
  show 0 + a.x.q * b.x.q + a.y.q * b.y.q + a.z.q * b.z.q = a.x.q * b.x.q + a.y.q * b.y.q + a.z.q * b.z.q
  grind
/-- the post of a vector -/
def TQ (q : V3) (k : Nat) (M0 : List Ent) (I0 : List Imm) (v : Value) (M : List Ent) (I : List Imm) : Prop := M0 = M ∧ ∃ p : TE, v = tv p ∧ p.v = q ∧ I = isT p k :: I0
section
variable {X : List Nat} {w0 : World} {M0 : List Ent} {I0 : List Imm}
set_option maxRecDepth 100000 in
set_option maxHeartbeats 1000000 in
theorem fDot_ok {a b : RL} {ka kb n : Nat} (hn : n ≤ 200) (hK : n * (ka + kb + 1) ≤ 100000000) (la : a.es.length = n) (lb : b.es.length = n) (ha : Hv I0 (isL a ka)) (hb : Hv I0 (isL b kb)) :
    CD Tryz.prog 180 [lv a, lv b] X w0 M0 I0 (RQc (dotQ n a.q b.q) (n * (ka + kb + 1)) M0 I0) := by
  have hW := fun M0 I0 => Whole_ok (X := X) (w0 := w0) (M0 := M0) (I0 := I0) (x := 0) (by decide) (k := 0) (by decide)
  refine CD_hv (φ := isL a ka) ha (CD_hv (φ := isL b kb) hb.cons ?_)
  refine CD_hv (φ := slI (a).p (recs eR (a).es)) (Hv.lsl memF) ?_
  refine CD_hv (φ := slI (b).p (recs eR (b).es)) (Hv.lsl memF) ?_
  refine enterD2 Tryz.func180 rfl Tryz.ntmps180 rfl ?_
  refine TD_seq ?_
  refine TD_region ?_
  (refine RD_alloc rfl rfl ?_; intro b4; refine ⟨okF, ?_⟩)
  repeat (refine wXh ?_)
  (refine RD_callS rfl (hW _ _) rfl rfl ?_; rintro _ _ _ ⟨rfl, e0, rfl, he0, rfl⟩; refine ⟨okF, ?_⟩)
  repeat (refine wXh ?_)
  (refine RD_alloc rfl rfl ?_; intro b6; refine ⟨okF, ?_⟩)
  repeat (refine wXh ?_)
  clear hW
  refine TD_loop [1, 4, 6, 16, 17] rfl (fun k G M I => ∃ (t : Nat) (s : RE), t ≤ n ∧ k = n - t ∧ s.q = sm t (fun t => a.q.getD t 0 * b.q.getD t 0) ∧ G = [(18, .int .i64 t)] ∧ M = .blk b6 (eR s) 26 :: .blk b4 [.bool false, .slice none 0 0, .bool false, .slice none 0 0] 26 :: M0 ∧ I = isR s (t * (ka + kb + 1)) :: slI b.p (recs eR b.es) :: slI a.p (recs eR a.es) :: isL b kb :: isL a ka :: I0) (n) _ _ _ subG subF incF (⟨0, e0, by omega, rfl, he0, rfl, rfl, by rw [Nat.zero_mul]⟩) ?_
  rintro kk G M I ⟨t, s, ht, rfl, hs, rfl, rfl, rfl⟩
  have hu : t * (ka + kb + 1) ≤ 100000000 := Nat.le_trans (Nat.mul_le_mul_right _ ht) hK
  by_cases htn : t < n
  · have hu2 : (t + 1) * (ka + kb + 1) = t * (ka + kb + 1) + (ka + kb) + 1 := by rw [Nat.succ_mul]; omega
    have hK2 : (t + 1) * (ka + kb + 1) ≤ 100000000 := Nat.le_trans (Nat.mul_le_mul_right _ htn) hK
    have hq : sm (t + 1) (fun t => a.q.getD t 0 * b.q.getD t 0) = s.q + (gt a.es (t : Int)).q * (gt b.es (t : Int)).q := by
      simp only [sm]
      rw [hs, qs_getD (by omega), qs_getD (by omega)]
    generalize t * (ka + kb + 1) = u at *
    repeat (refine wXh ?_)
    (refine RD_alloc rfl rfl ?_; intro b8; refine ⟨okF, ?_⟩)
    repeat (refine wXh ?_)
    (repeat refine TD_seq ?_); refine TD_drawnJ 2 [0, 1, 2, 3, 4, 5, 6, 7, 8] [1, 1, 2, 2, 2, 1, 0, 0, 0] mixed (by kernel_rfl) ?_
    repeat (refine wXh ?_)
    (refine RD_callS rfl (QMul_ok (k := ka) (m := kb) (by omega) (Hv.lel (r := a) (k := ka) memF (by omega)) (Hv.lel (r := b) (k := kb) memF (by omega))) rfl rfl ?_; rintro _ _ _ ⟨rfl, e2, rfl, he2, rfl⟩; refine ⟨okF, ?_⟩)
    (refine RD_callS rfl (QAdd_ok (k := u) (m := ka + kb) (by omega) (Hv.mem memF) (Hv.mem memF)) rfl rfl ?_; rintro _ _ _ ⟨rfl, e3, rfl, he3, rfl⟩; refine ⟨okF, ?_⟩)
    repeat (refine wXh ?_)
    rw [← hu2]
    refine ND_again (n - (t + 1)) _ _ _ (by first | omega | (simp only [List.length_append, List.length_cons, List.length_nil]; omega)) subG subF incF (⟨t + 1, e3, by omega, rfl, by rw [hq, he3, he2], rfl, rfl, rfl⟩)
  · obtain rfl : t = n := by omega
    repeat (refine wXh ?_)
    refine ND_retsC (rs := [.cell 4 26, .tmp 5]) (vs := [rv s, .int .i64 0]) (.inl rfl) rfl (.cellN (cs := eR s) inferInstance rfl memF rfl (.tmp rfl .nil)) rfl M0 (isR s (t * (ka + kb + 1)) :: I0) subF incF ⟨rfl, s, rfl, hs, rfl⟩
set_option maxRecDepth 100000 in
set_option maxHeartbeats 1000000 in
theorem rfDot_ok {a b : RL} {ka kb n : Nat} (hn : n ≤ 200) (hK : n * (ka + kb + 1) ≤ 100000000) (la : a.es.length = n) (lb : b.es.length = n) (ha : Hv I0 (isL a ka)) (hb : Hv I0 (isL b kb)) :
    CD Tryz.prog 107 [lv a, lv b] X w0 M0 I0 (RQc (dotQ n a.q b.q) (n * (ka + kb + 1)) M0 I0) := by
  have hW := fun M0 I0 => rQWhole_ok (X := X) (w0 := w0) (M0 := M0) (I0 := I0) (x := 0) (by decide) (k := 0) (by decide)
  refine CD_hv (φ := isL a ka) ha (CD_hv (φ := isL b kb) hb.cons ?_)
  refine CD_hv (φ := slI (a).p (recs eR (a).es)) (Hv.lsl memF) ?_
  refine CD_hv (φ := slI (b).p (recs eR (b).es)) (Hv.lsl memF) ?_
  refine enterD2 Tryz.func107 rfl Tryz.ntmps107 rfl ?_
  refine TD_seq ?_
  refine TD_region ?_
  (refine RD_alloc rfl rfl ?_; intro b4; refine ⟨okF, ?_⟩)
  repeat (refine wXh ?_)
  (refine RD_callS rfl (hW _ _) rfl rfl ?_; rintro _ _ _ ⟨rfl, e0, rfl, he0, rfl⟩; refine ⟨okF, ?_⟩)
  repeat (refine wXh ?_)
  (refine RD_alloc rfl rfl ?_; intro b6; refine ⟨okF, ?_⟩)
  repeat (refine wXh ?_)
  clear hW
  refine TD_loop [0, 1, 4, 6] rfl (fun k G M I => ∃ (t : Nat) (s : RE), t ≤ n ∧ k = n - t ∧ s.q = sm t (fun t => a.q.getD t 0 * b.q.getD t 0) ∧ G = [(7, .int .i64 t)] ∧ M = .blk b6 (eR s) 26 :: .blk b4 [.bool false, .slice none 0 0, .bool false, .slice none 0 0] 26 :: M0 ∧ I = isR s (t * (ka + kb + 1)) :: slI b.p (recs eR b.es) :: slI a.p (recs eR a.es) :: isL b kb :: isL a ka :: I0) (n) _ _ _ subG subF incF (⟨0, e0, by omega, rfl, he0, rfl, rfl, by rw [Nat.zero_mul]⟩) ?_
  rintro kk G M I ⟨t, s, ht, rfl, hs, rfl, rfl, rfl⟩
  have hu : t * (ka + kb + 1) ≤ 100000000 := Nat.le_trans (Nat.mul_le_mul_right _ ht) hK
  by_cases htn : t < n
  · have hu2 : (t + 1) * (ka + kb + 1) = t * (ka + kb + 1) + (ka + kb) + 1 := by rw [Nat.succ_mul]; omega
    have hK2 : (t + 1) * (ka + kb + 1) ≤ 100000000 := Nat.le_trans (Nat.mul_le_mul_right _ htn) hK
    have hq : sm (t + 1) (fun t => a.q.getD t 0 * b.q.getD t 0) = s.q + (gt a.es (t : Int)).q * (gt b.es (t : Int)).q := by
      simp only [sm]
      rw [hs, qs_getD (by omega), qs_getD (by omega)]
    generalize t * (ka + kb + 1) = u at *
    repeat (refine wXh ?_)
    (repeat refine TD_seq ?_); refine TD_drawnJ 2 [0, 1, 2, 3, 4, 5, 6, 7, 8, 9, 10, 11] [1, 2, 2, 2, 1, 2, 2, 2, 1, 0, 0, 0] mixed (by kernel_rfl) ?_
    repeat (refine wXh ?_)
    (refine RD_callS rfl (rQMul_ok (k := ka) (m := kb) (by omega) (Hv.lel (r := a) (k := ka) memF (by omega)) (Hv.lel (r := b) (k := kb) memF (by omega))) rfl rfl ?_; rintro _ _ _ ⟨rfl, e2, rfl, he2, rfl⟩; refine ⟨okF, ?_⟩)
    (refine RD_callS rfl (rQAdd_ok (k := u) (m := ka + kb) (by omega) (Hv.mem memF) (Hv.mem memF)) rfl rfl ?_; rintro _ _ _ ⟨rfl, e3, rfl, he3, rfl⟩; refine ⟨okF, ?_⟩)
    repeat (refine wXh ?_)
    rw [← hu2]
    refine ND_again (n - (t + 1)) _ _ _ (by first | omega | (simp only [List.length_append, List.length_cons, List.length_nil]; omega)) subG subF incF (⟨t + 1, e3, by omega, rfl, by rw [hq, he3, he2], rfl, rfl, rfl⟩)
  · obtain rfl : t = n := by omega
    repeat (refine wXh ?_)
    refine ND_retsC (rs := [.cell 4 26, .tmp 5]) (vs := [rv s, .int .i64 0]) (.inl rfl) rfl (.cellN (cs := eR s) inferInstance rfl memF rfl (.tmp rfl .nil)) rfl M0 (isR s (t * (ka + kb + 1)) :: I0) subF incF ⟨rfl, s, rfl, hs, rfl⟩
end
end Go.Proofs.YtllaoaobnnondaaGreatR
namespace Go.Proofs.YtllaoaobnnondaaGreatR
open Go Go.Fx
abbrev zRv : List Value := [.bool false, .slice none 0 0, .bool false, .slice none 0 0]
section
variable {X : List Nat} {w0 : World} {M0 : List Ent} {I0 : List Imm}
set_option maxRecDepth 100000 in
set_option maxHeartbeats 1000000 in
theorem iDot_ok {a b : TE} {k m : Nat} (hk : 3 * (k + m + 1) ≤ 100000000) (ha : Hv I0 (isT a k)) (hb : Hv I0 (isT b m)) :
    CD Tryz.prog 95 [tv a, tv b] X w0 M0 I0 (RQ (a.v.dot b.v) (3 * (k + m + 1)) M0 I0) := by
  refine CD_hv (φ := isT a k) ha (CD_hv (φ := isT b m) hb.cons ?_)
  have hD := fun (x y : Nat) M0 I0 h1 h2 => fDot_ok (X := X) (w0 := w0) (M0 := M0) (I0 := I0) (a := a.l x) (b := b.l y) (ka := k) (kb := m) (n := 3) (by omega) hk rfl rfl h1 h2
  refine enterD2 Tryz.func95 rfl Tryz.ntmps95 rfl ?_
  refine TD_seq ?_
  refine TD_region ?_
  (refine RD_boxA rfl rfl rfl ?_; intro b2; refine ⟨okF, ?_⟩)
  refine RD_freezeB .here ?_
  (refine RD_boxA rfl rfl rfl ?_; intro b3; refine ⟨okF, ?_⟩)
  refine RD_freezeB .here ?_
  (refine RD_alloc rfl rfl ?_; intro b4; refine ⟨okF, ?_⟩)
  repeat (refine wXh ?_)
  refine TD_hv (φ := isL (a.l b2) k) (Hv.tl (Hv.mem (φ := isT a k) memF) memF) ?_
  refine TD_hv (φ := isL (b.l b3) m) (Hv.tl (Hv.mem (φ := isT b m) memF) memF) ?_
  refine TD_cutT (fun G M I => ∃ (b5 : Nat) (e : RE), e.q = a.v.dot b.v ∧ G = [(4, .pointer (some ⟨b4, 0, none⟩)), (5, .pointer (some ⟨b5, 0, none⟩))] ∧ M = .blk b5 (eR e) 26 :: .blk b4 zRv 26 :: M0 ∧ I = isR e (3 * (k + m + 1)) :: I0) ?_ ?_
  · ((repeat refine TD_seq ?_); refine TD_rest (M0) (isL (b.l b3) m :: isL (a.l b2) k :: I0) mixed ?_)
    refine ND_restPre (fuel := 7) (listed' := #[true, true, false, false, false, false, false, false, false]) [0, 1] [1, 1] subF incF (by kernel_rfl) (by kernel_rfl) rfl rfl ?_
    repeat (refine wXh ?_)
    (refine RD_c rfl (fun _ => Const_sliceA rfl) rfl rfl ?_)
    repeat (refine wXh ?_)
    (refine RD_c rfl (fun _ => Const_sliceA rfl) rfl rfl ?_)
    repeat (refine wXh ?_)
    refine ND_restFork (fuel := 6) (i := 2) (j := 6) (by kernel_rfl) ?_ ?_
    · (refine RD_callS rfl (hD b2 b3 _ _ (Hv.mem memF) (Hv.mem memF)) rfl rfl ?_; rintro _ _ _ ⟨rfl, e, rfl, he, rfl⟩; refine ⟨okF, ?_⟩)
      refine RD_nil ?_
      refine ND_restEnd [3, 4, 5, 6, 7, 8] [1, 1, 2, 0, 0, 0] subF incF (by kernel_rfl) (by kernel_rfl) rfl rfl ?_
      repeat (refine wXh ?_)
      (refine RD_alloc rfl rfl ?_; intro b5; refine ⟨okF, ?_⟩)
      repeat (refine wXh ?_)
      refine ND_cut _ _ _ subG subF incF ⟨b5, e, by rw [he]; exact dot3, rfl, rfl, rfl⟩
    · (refine RD_alloc rfl rfl ?_; intro b5; refine ⟨okF, ?_⟩)
      refine RD_nil ?_
      refine ND_restEnd [2, 3, 4, 5, 7, 8] [0, 0, 0, 1, 0, 0] subF incF (by kernel_rfl) (by kernel_rfl) rfl rfl ?_
      repeat (refine wXh ?_)
      (refine RD_callS rfl (hD b2 b3 _ _ (Hv.mem memF) (Hv.mem memF)) rfl rfl ?_; rintro _ _ _ ⟨rfl, e, rfl, he, rfl⟩; refine ⟨okF, ?_⟩)
      repeat (refine wXh ?_)
      refine ND_cut _ _ _ subG subF incF ⟨b5, e, by rw [he]; exact dot3, rfl, rfl, rfl⟩
  · rintro G M I ⟨b5, e, he, rfl, rfl, rfl⟩
    repeat (refine wXh ?_)
    refine ND_retC (cs := eR e) (.inl rfl) rfl rfl memF rfl M0 (isR e (3 * (k + m + 1)) :: I0) subF incF ⟨rfl, e, rfl, he, rfl⟩
set_option maxRecDepth 100000 in
set_option maxHeartbeats 1000000 in
theorem iMinus_ok {a b : TE} {k m : Nat} (hk : k + m + 1 ≤ 100000000) (ha : Hv I0 (isT a k)) (hb : Hv I0 (isT b m)) :
    CD Tryz.prog 94 [tv a, tv b] X w0 M0 I0 (TQ (a.v.sub b.v) (k + m + 1) M0 I0) := by
  refine CD_hv (φ := isT a k) ha (CD_hv (φ := isT b m) hb.cons ?_)
  have hS := fun (x y : RE) M0 I0 h1 h2 => QSub_ok (X := X) (w0 := w0) (M0 := M0) (I0 := I0) (a := x) (b := y) (k := k) (m := m) (by omega) h1 h2
  refine enterD2 Tryz.func94 rfl Tryz.ntmps94 rfl ?_
  refine TD_seq ?_
  refine TD_region ?_
  (refine RD_boxA rfl rfl rfl ?_; intro b2; refine ⟨okF, ?_⟩)
  refine RD_freezeB .here ?_
  (refine RD_boxA rfl rfl rfl ?_; intro b3; refine ⟨okF, ?_⟩)
  refine RD_freezeB .here ?_
  (refine RD_alloc rfl rfl ?_; intro b4; refine ⟨okF, ?_⟩)
  repeat (refine wXh ?_)
  (repeat refine TD_seq ?_); refine TD_drawnW (M0) (slI (some ⟨b3, 0, none⟩) (recs eR [b.x, b.y, b.z]) :: slI (some ⟨b2, 0, none⟩) (recs eR [a.x, a.y, a.z]) :: isT b m :: isT a k :: I0) [0, 1, 2, 3, 5, 6, 7, 8, 10, 11, 12, 13, 4, 9, 14, 15, 16] [3, 2, 3, 2, 3, 2, 3, 2, 3, 2, 3, 2, 0, 0, 0, 0, 0] subF incF mixed (by kernel_rfl) ?_
  repeat (refine wXh ?_)
  (refine RD_callS rfl (hS a.x b.x _ _ (Hv.tx (Hv.mem (φ := isT a k) memF)) (Hv.tx (Hv.mem (φ := isT b m) memF))) rfl rfl ?_; rintro _ _ _ ⟨rfl, e1, rfl, he1, rfl⟩; refine ⟨okF, ?_⟩)
  repeat (refine wXh ?_)
  (refine RD_callS rfl (hS a.y b.y _ _ (Hv.ty (Hv.mem (φ := isT a k) memF)) (Hv.ty (Hv.mem (φ := isT b m) memF))) rfl rfl ?_; rintro _ _ _ ⟨rfl, e2, rfl, he2, rfl⟩; refine ⟨okF, ?_⟩)
  repeat (refine wXh ?_)
  (refine RD_callS rfl (hS a.z b.z _ _ (Hv.tz (Hv.mem (φ := isT a k) memF)) (Hv.tz (Hv.mem (φ := isT b m) memF))) rfl rfl ?_; rintro _ _ _ ⟨rfl, e3, rfl, he3, rfl⟩; refine ⟨okF, ?_⟩)
  repeat (refine wXh ?_)
  (refine RD_c rfl (fun _ => Const_arrC (vals := [rv e1, rv e2, rv e3]) (cells := recs eR [e1, e2, e3]) rfl ?hpl rfl ?hz) rfl rfl ?_; (case hpl => exact (by intro v hv; repeat (first | exact absurd hv (List.not_mem_nil) | (rcases List.mem_cons.1 hv with rfl | hv; · rfl)))); (case hz => rfl))
  repeat (refine wXh ?_)
  refine ND_hv (φ := isT ⟨e1, e2, e3⟩ (k + m + 1)) (Hv.mkT (Hv.mem memF) (Hv.mem memF) (Hv.mem memF)) ?_
  refine ND_retC (cs := recs eR [e1, e2, e3]) (.inl rfl) rfl rfl memF rfl M0 (isT ⟨e1, e2, e3⟩ (k + m + 1) :: I0) subF incF ⟨rfl, ⟨e1, e2, e3⟩, rfl, by simp only [TE.v, V3.sub, he1, he2, he3], rfl⟩
set_option maxRecDepth 100000 in
set_option maxHeartbeats 1000000 in
theorem iPlus_ok {a b : TE} {s : RE} {k m u : Nat} (hk : k + (u + m) + 1 ≤ 100000000) (ha : Hv I0 (isT a k)) (hb : Hv I0 (isT b m)) (hs : Hv I0 (isR s u)) :
    CD Tryz.prog 99 [tv a, tv b, rv s] X w0 M0 I0 (TQ (a.v.along s.q b.v) (k + (u + m) + 1) M0 I0) := by
  refine CD_hv (φ := isT a k) ha (CD_hv (φ := isT b m) hb.cons (CD_hv (φ := isR s u) hs.cons.cons ?_))
  have hM := fun (y : RE) M0 I0 h1 h2 => QMul_ok (X := X) (w0 := w0) (M0 := M0) (I0 := I0) (a := s) (b := y) (k := u) (m := m) (by omega) h1 h2
  have hA := fun (x y : RE) M0 I0 h1 h2 => QAdd_ok (X := X) (w0 := w0) (M0 := M0) (I0 := I0) (a := x) (b := y) (k := k) (m := u + m) (by omega) h1 h2
  refine enterD3 Tryz.func99 rfl Tryz.ntmps99 rfl ?_
  refine TD_seq ?_
  refine TD_region ?_
  (refine RD_boxA rfl rfl rfl ?_; intro b2; refine ⟨okF, ?_⟩)
  refine RD_freezeB .here ?_
  (refine RD_boxA rfl rfl rfl ?_; intro b3; refine ⟨okF, ?_⟩)
  refine RD_freezeB .here ?_
  (refine RD_boxA rfl rfl rfl ?_; intro b5; refine ⟨okF, ?_⟩)
  refine RD_freezeB .here ?_
  (refine RD_alloc rfl rfl ?_; intro b4; refine ⟨okF, ?_⟩)
  repeat (refine wXh ?_)
  (repeat refine TD_seq ?_); refine TD_drawnW (M0) (slI (some ⟨b5, 0, none⟩) (eR s) :: slI (some ⟨b3, 0, none⟩) (recs eR [b.x, b.y, b.z]) :: slI (some ⟨b2, 0, none⟩) (recs eR [a.x, a.y, a.z]) :: isR s u :: isT b m :: isT a k :: I0) [0, 1, 2, 3, 4, 7, 8, 9, 10, 11, 14, 15, 16, 17, 18, 5, 6, 12, 13, 19, 20, 21, 22] [6, 5, 5, 6, 5, 6, 5, 5, 6, 5, 6, 5, 5, 6, 5, 0, 0, 0, 0, 0, 0, 0, 0] subF incF mixed (by kernel_rfl) ?_
  repeat (refine wXh ?_)
  (refine RD_callS rfl (hM b.x _ _ (Hv.mem memF) (Hv.tx (Hv.mem (φ := isT b m) memF))) rfl rfl ?_; rintro _ _ _ ⟨rfl, f1, rfl, hf1, rfl⟩; refine ⟨okF, ?_⟩)
  (refine RD_callS rfl (hA a.x f1 _ _ (Hv.tx (Hv.mem (φ := isT a k) memF)) (Hv.mem memF)) rfl rfl ?_; rintro _ _ _ ⟨rfl, e1, rfl, he1, rfl⟩; refine ⟨okF, ?_⟩)
  repeat (refine wXh ?_)
  (refine RD_callS rfl (hM b.y _ _ (Hv.mem memF) (Hv.ty (Hv.mem (φ := isT b m) memF))) rfl rfl ?_; rintro _ _ _ ⟨rfl, f2, rfl, hf2, rfl⟩; refine ⟨okF, ?_⟩)
  (refine RD_callS rfl (hA a.y f2 _ _ (Hv.ty (Hv.mem (φ := isT a k) memF)) (Hv.mem memF)) rfl rfl ?_; rintro _ _ _ ⟨rfl, e2, rfl, he2, rfl⟩; refine ⟨okF, ?_⟩)
  repeat (refine wXh ?_)
  (refine RD_callS rfl (hM b.z _ _ (Hv.mem memF) (Hv.tz (Hv.mem (φ := isT b m) memF))) rfl rfl ?_; rintro _ _ _ ⟨rfl, f3, rfl, hf3, rfl⟩; refine ⟨okF, ?_⟩)
  (refine RD_callS rfl (hA a.z f3 _ _ (Hv.tz (Hv.mem (φ := isT a k) memF)) (Hv.mem memF)) rfl rfl ?_; rintro _ _ _ ⟨rfl, e3, rfl, he3, rfl⟩; refine ⟨okF, ?_⟩)
  repeat (refine wXh ?_)
  (refine RD_c rfl (fun _ => Const_arrC (vals := [rv e1, rv e2, rv e3]) (cells := recs eR [e1, e2, e3]) rfl ?hpl rfl ?hz) rfl rfl ?_; (case hpl => exact (by intro v hv; repeat (first | exact absurd hv (List.not_mem_nil) | (rcases List.mem_cons.1 hv with rfl | hv; · rfl)))); (case hz => rfl))
  repeat (refine wXh ?_)
  refine ND_hv (φ := isT ⟨e1, e2, e3⟩ (k + (u + m) + 1)) (Hv.mkT (Hv.mem memF) (Hv.mem memF) (Hv.mem memF)) ?_
  refine ND_retC (cs := recs eR [e1, e2, e3]) (.inl rfl) rfl rfl memF rfl M0 (isT ⟨e1, e2, e3⟩ (k + (u + m) + 1) :: I0) subF incF ⟨rfl, ⟨e1, e2, e3⟩, rfl, by simp only [TE.v, V3.along, he1, he2, he3, hf1, hf2, hf3], rfl⟩
set_option maxRecDepth 100000 in
theorem iOver_ok {a b : RE} {k m : Nat} (hk : k + m ≤ 100000000) (hb0 : b.q ≠ 0) (ha : Hv I0 (isR a k)) (hb : Hv I0 (isR b m)) :
    CD Tryz.prog 96 [rv a, rv b] X w0 M0 I0 (RQ (a.q / b.q) (k + m) M0 I0) := by
  refine enterD2 Tryz.func96 rfl Tryz.ntmps96 rfl ?_
  refine TD_seq ?_
  refine TD_region ?_
  (refine RD_boxA rfl rfl rfl ?_; intro b2; refine ⟨okF, ?_⟩)
  (refine RD_boxA rfl rfl rfl ?_; intro b3; refine ⟨okF, ?_⟩)
  (refine RD_alloc rfl rfl ?_; intro b4; refine ⟨okF, ?_⟩)
  repeat (refine wXh ?_)
  (refine RD_callS rfl (QDivide_ok (k := k) (m := m) (by omega) hb0 ha hb) rfl rfl ?_; rintro _ _ _ ⟨rfl, e, rfl, he, rfl⟩; refine ⟨okF, ?_⟩)
  repeat (refine wXh ?_)
  (refine RD_alloc rfl rfl ?_; intro b5; refine ⟨okF, ?_⟩)
  repeat (refine wXh ?_)
  refine ND_retC (cs := eR e) (.inl rfl) rfl rfl memF rfl M0 (isR e (k + m) :: I0) subF incF ⟨rfl, e, rfl, he, rfl⟩
set_option maxRecDepth 100000 in
theorem iDet_ok {a b c d : RE} {k : Nat} (hk : k + k + (k + k) + 1 ≤ 100000000) (ha : Hv I0 (isR a k)) (hb : Hv I0 (isR b k)) (hc : Hv I0 (isR c k)) (hd : Hv I0 (isR d k)) :
    CD Tryz.prog 97 [rv a, rv b, rv c, rv d] X w0 M0 I0 (RQ (a.q * d.q - b.q * c.q) (k + k + (k + k) + 1) M0 I0) := by
  refine CD_hv ha (CD_hv hb.cons (CD_hv hc.cons.cons (CD_hv hd.cons.cons.cons ?_)))
  have hM := fun (x y : RE) M0 I0 h1 h2 => QMul_ok (X := X) (w0 := w0) (M0 := M0) (I0 := I0) (a := x) (b := y) (k := k) (m := k) (by omega) h1 h2
  have hS := fun (x y : RE) M0 I0 h1 h2 => QSub_ok (X := X) (w0 := w0) (M0 := M0) (I0 := I0) (a := x) (b := y) (k := k + k) (m := k + k) (by omega) h1 h2
  refine enterD4 Tryz.func97 rfl Tryz.ntmps97 rfl ?_
  refine TD_seq ?_
  refine TD_region ?_
  (refine RD_boxA rfl rfl rfl ?_; intro b4; refine ⟨okF, ?_⟩)
  (refine RD_boxA rfl rfl rfl ?_; intro b5; refine ⟨okF, ?_⟩)
  (refine RD_boxA rfl rfl rfl ?_; intro b6; refine ⟨okF, ?_⟩)
  (refine RD_boxA rfl rfl rfl ?_; intro b7; refine ⟨okF, ?_⟩)
  (refine RD_alloc rfl rfl ?_; intro b8; refine ⟨okF, ?_⟩)
  repeat (refine wXh ?_)
  (repeat refine TD_seq ?_); refine TD_drawnW (.blk b7 (eR d) 26 :: .blk b6 (eR c) 26 :: .blk b5 (eR b) 26 :: .blk b4 (eR a) 26 :: M0) (isR d k :: isR c k :: isR b k :: isR a k :: I0) [0, 1, 3, 4, 2, 5, 6, 7] [2, 2, 2, 2, 0, 0, 0, 0] subF incF mixed (by kernel_rfl) ?_
  repeat (refine wXh ?_)
  (refine RD_callS rfl (hM a d _ _ (Hv.mem memF) (Hv.mem memF)) rfl rfl ?_; rintro _ _ _ ⟨rfl, e1, rfl, he1, rfl⟩; refine ⟨okF, ?_⟩)
  repeat (refine wXh ?_)
  (refine RD_callS rfl (hM b c _ _ (Hv.mem memF) (Hv.mem memF)) rfl rfl ?_; rintro _ _ _ ⟨rfl, e2, rfl, he2, rfl⟩; refine ⟨okF, ?_⟩)
  repeat (refine wXh ?_)
  (refine RD_callS rfl (hS e1 e2 _ _ (Hv.mem memF) (Hv.mem memF)) rfl rfl ?_; rintro _ _ _ ⟨rfl, e3, rfl, he3, rfl⟩; refine ⟨okF, ?_⟩)
  repeat (refine wXh ?_)
  refine ND_retC (cs := eR e3) (.inl rfl) rfl rfl memF rfl M0 (isR e3 (k + k + (k + k) + 1) :: I0) subF incF ⟨rfl, e3, rfl, by rw [he3, he1, he2], rfl⟩
end
end Go.Proofs.YtllaoaobnnondaaGreatR

/- fraction: reduced, Valid, Value, Whole, Sign, Neg fraction: copied, Value, Whole, Sign, Neg fraction: Add, Sub, Mul, Divide, Compare -/
import Derived.Test.YtllaoaobnnondaaGreatRZiao
import Derived.Test.YtllaoaobnnondaaGreatRZiap
import Derived.Test.YtllaoaobnnondaaGreatRZian
set_option linter.unusedSimpArgs false
set_option linter.unusedVariables false
namespace Go.Proofs.YtllaoaobnnondaaGreatR
open Go Go.Fx
section
variable {X : List Nat} {w0 : World} {M0 : List Ent} {I0 : List Imm}
theorem iValid_ok {u : Value} {z : Int} {k : Nat} (hk : k ≤ 1000000000000) (hu : isI u z k ∈ I0) :
    CD Tryz.prog 193 [u] X w0 M0 I0 (fun v M I => M0 = M ∧ I0 = I ∧ v = .bool true) := by
  refine CD.post (K := fun v M I => M0 = M ∧ (∃ q, slI q (recs eG (gr z.natAbs)) :: I0 = I) ∧ v = .bool true) (CD_openI hu (fun q c e hc hz => ?_)) (fun v M I w h hw => ?_)
  case refine_2 =>
    obtain ⟨e1, ⟨q, e2⟩, e3⟩ := h
    subst e1; subst e2
    exact ⟨_, _, ⟨rfl, rfl, e3⟩, hw.inc (Inc.wk Inc.refl)⟩
  subst e
  have hl := len_pow hz hk
  refine (Valid_ok (neg := B (z < 0)) (gs := gr z.natAbs) (by omega) (List.Mem.head _)).mono (fun v M I h => ⟨h.1, ⟨q, h.2.1⟩, ?_⟩)
  rw [h.2.2]
  exact congrArg Value.bool (B_true (can_of z))
set_option maxRecDepth 100000 in
set_option maxHeartbeats 1000000 in
theorem reduced_ok {u v : Value} {n d : Int} {k : Nat} (hk : k ≤ 500000000) (hd0 : d ≠ 0) (hu : isI u n k ∈ I0) (hv : isI v d k ∈ I0) :
    CD Tryz.prog 208 [u, v] X w0 M0 I0 (RQ (Rat.divInt n d) k M0 I0) := by
  have hS := fun M0 I0 => Sign_ok (X := X) (w0 := w0) (M0 := M0) (I0 := I0) (u := v) (z := d) (k := k) (by omega)
  refine CD_openI hu (fun q cq e hc hy => ?_)
  subst e
  refine CD_openI (List.Mem.tail _ hv) (fun q' cq' e hc' hz => ?_)
  subst e
  obtain ⟨r, hr⟩ : ∃ r, r = Rat.divInt n d := ⟨_, rfl⟩
  have key : ∀ n' d' : Int, 0 < d' → Rat.divInt n' d' = Rat.divInt n d → (∀ u v M0 I0, isI u n' k ∈ I0 → isI v (Int.gcd n' d' : Int) (k + k) ∈ I0 → CD Tryz.prog 246 [u, v] X w0 M0 I0 (DvP r.num (n'.fmod (Int.gcd n' d')) k (k + k) M0 I0)) ∧ (∀ u v M0 I0, isI u d' k ∈ I0 → isI v (Int.gcd n' d' : Int) (k + k) ∈ I0 → CD Tryz.prog 246 [u, v] X w0 M0 I0 (DvP r.den (d'.fmod (Int.gcd n' d')) k (k + k) M0 I0)) := by
    intro n' d' hd' he
    obtain ⟨e1, e2, e3⟩ := red_num (n := n') (d := d') (g := (Int.gcd n' d' : Int)) (by omega) (by rw [if_neg (by omega)])
    rw [he, ← hr] at e1 e2
    refine ⟨fun u v M0 I0 h1 h2 => ?_, fun u v M0 I0 h1 h2 => ?_⟩
    · have := Divide_ok (X := X) (w0 := w0) (M0 := M0) (I0 := I0) (k := k) (m := k + k) (by omega) (by omega) e3 h1 h2
      rwa [e1] at this
    · have := Divide_ok (X := X) (w0 := w0) (M0 := M0) (I0 := I0) (k := k) (m := k + k) (by omega) (by omega) e3 h1 h2
      rwa [e2] at this
  rw [← hr]
  have hN := fun u z M0 I0 => Neg_ok (X := X) (w0 := w0) (M0 := M0) (I0 := I0) (u := u) (z := z) (k := k) (by omega)
  have hG := fun u v n' d' M0 I0 => Gcd_ok (X := X) (w0 := w0) (M0 := M0) (I0 := I0) (u := u) (v := v) (y := n') (z := d') (k0 := k) (m := k) (by omega) (by omega)
  by_cases hneg : d < 0
  · have hs : d.sign = -1 := Int.sign_eq_neg_one_of_neg hneg
    obtain ⟨hD1, hD2⟩ := key (-n) (-d) (by omega) divInt_neg_neg
    rw [hs] at hS
    clear key
    obtain ⟨g, hg⟩ : ∃ g : Int, g = (Int.gcd (-n) (-d) : Int) := ⟨_, rfl⟩
    rw [← hg] at hD1 hD2
    have hG := fun u v => hG u v (-n) (-d)
    rw [← hg] at hG
    obtain ⟨n1, hn1⟩ : ∃ g : Int, g = -n := ⟨_, rfl⟩
    obtain ⟨d1, hd1⟩ : ∃ g : Int, g = -d := ⟨_, rfl⟩
    have hN1 := fun u => hN u n
    have hN2 := fun u => hN u d
    rw [← hn1] at hN1 hD1 hG
    rw [← hd1] at hN2 hD2 hG
    unfold iv at *
    refine enterD2 Tryz.func208 rfl Tryz.ntmps208 rfl ?_
    refine TD_seq ?_
    refine TD_region ?_
    (refine RD_boxA rfl rfl rfl ?_; intro b; refine ⟨okF, ?_⟩)
    (refine RD_boxA rfl rfl rfl ?_; intro b2; refine ⟨okF, ?_⟩)
    (refine RD_alloc rfl rfl ?_; intro b4; refine ⟨okF, ?_⟩)
    repeat (refine wXf ?_)
    (refine RD_callS rfl (hS _ _ memF) rfl rfl ?_; rintro _ _ _ ⟨rfl, rfl, rfl⟩; refine ⟨okF, ?_⟩)
    repeat (refine wXf ?_)
    (repeat refine TD_seq ?_); refine TD_drawnJ 2 [0, 2, 1, 3, 4, 5] [1, 2, 0, 0, 0, 0] mixed (by kernel_rfl) ?_
    repeat (refine wXf ?_)
    (refine RD_callS rfl (hN1 _ _ _ memF) rfl rfl ?_; rintro _ _ _ ⟨rfl, rfl⟩; refine ⟨okF, ?_⟩; refine RD_openI (List.Mem.head _) (fun q1 c1 e__ hc1 hz1 => ?_); subst e__)
    repeat (refine wXf ?_)
    (refine RD_callS rfl (hN2 _ _ _ memF) rfl rfl ?_; rintro _ _ _ ⟨rfl, rfl⟩; refine ⟨okF, ?_⟩; refine RD_openI (List.Mem.head _) (fun q2 c2 e__ hc2 hz2 => ?_); subst e__)
    unfold iv
    repeat (refine wXf ?_)
    (refine RD_callS rfl (hG _ _ _ _ memF memF) rfl rfl ?_; rintro _ _ _ ⟨rfl, rfl⟩; refine ⟨okF, ?_⟩; refine RD_openI (List.Mem.head _) (fun q3 c3 e__ hc3 hz3 => ?_); subst e__)
    unfold iv
    repeat (refine wXf ?_)
    (refine RD_alloc rfl rfl ?_; intro b5; refine ⟨okF, ?_⟩)
    repeat (refine wXf ?_)
    (refine RD_callS rfl (hD1 _ _ _ _ memF memF) rfl rfl ?_; rintro _ _ _ ⟨rfl, v1, v2, rfl, rfl⟩; refine ⟨okF, ?_⟩)
    refine RD_openI (u := v1) memF (fun q4 c4 e4 hc4 hz4 => ?_)
    subst e4
    unfold iv
    repeat (refine wXf ?_)
    (refine RD_callS rfl (hD2 _ _ _ _ memF memF) rfl rfl ?_; rintro _ _ _ ⟨rfl, v3, v4, rfl, rfl⟩; refine ⟨okF, ?_⟩)
    refine RD_openI (u := v3) memF (fun q5 c5 e5 hc5 hz5 => ?_)
    subst e5
    unfold iv
    repeat (refine wXf ?_)
    (refine RD_c rfl (fun _ => Const_struct (pvs := ([vI q4 c4 r.num, vI q5 c5 r.den]).zipIdx.map (fun p => (p.2, p.1))) (cells := eR ⟨r, q4, c4, q5, c5⟩) rfl rfl) rfl rfl ?_)
    repeat (refine wXf ?_)
    refine ND_closeR (q := r) (k := k) (p1 := q4) (c1 := c4) (p2 := q5) (c2 := c5) memF memF (Nat.le_refl _) (Nat.le_refl _) ?_
    refine ND_retC (cs := eR ⟨r, q4, c4, q5, c5⟩) (.inl rfl) rfl rfl memF rfl M0 (isR ⟨r, q4, c4, q5, c5⟩ k :: I0) subF incF ⟨rfl, ⟨r, q4, c4, q5, c5⟩, rfl, rfl, rfl⟩
  · have hs : d.sign = 1 := Int.sign_eq_one_of_pos (by omega)
    obtain ⟨hD1, hD2⟩ := key n d (by omega) rfl
    rw [hs] at hS
    clear key hN
    obtain ⟨g, hg⟩ : ∃ g : Int, g = (Int.gcd n d : Int) := ⟨_, rfl⟩
    rw [← hg] at hD1 hD2
    have hG := fun u v => hG u v n d
    rw [← hg] at hG
    unfold iv at *
    refine enterD2 Tryz.func208 rfl Tryz.ntmps208 rfl ?_
    refine TD_seq ?_
    refine TD_region ?_
    (refine RD_boxA rfl rfl rfl ?_; intro b; refine ⟨okF, ?_⟩)
    (refine RD_boxA rfl rfl rfl ?_; intro b2; refine ⟨okF, ?_⟩)
    (refine RD_alloc rfl rfl ?_; intro b4; refine ⟨okF, ?_⟩)
    repeat (refine wXf ?_)
    (refine RD_callS rfl (hS _ _ memF) rfl rfl ?_; rintro _ _ _ ⟨rfl, rfl, rfl⟩; refine ⟨okF, ?_⟩)
    repeat (refine wXf ?_)
    (refine RD_callS rfl (hG _ _ _ _ memF memF) rfl rfl ?_; rintro _ _ _ ⟨rfl, rfl⟩; refine ⟨okF, ?_⟩; refine RD_openI (List.Mem.head _) (fun q3 c3 e__ hc3 hz3 => ?_); subst e__)
    unfold iv
    repeat (refine wXf ?_)
    (refine RD_alloc rfl rfl ?_; intro b5; refine ⟨okF, ?_⟩)
    repeat (refine wXf ?_)
    (refine RD_callS rfl (hD1 _ _ _ _ memF memF) rfl rfl ?_; rintro _ _ _ ⟨rfl, v1, v2, rfl, rfl⟩; refine ⟨okF, ?_⟩)
    refine RD_openI (u := v1) memF (fun q4 c4 e4 hc4 hz4 => ?_)
    subst e4
    unfold iv
    repeat (refine wXf ?_)
    (refine RD_callS rfl (hD2 _ _ _ _ memF memF) rfl rfl ?_; rintro _ _ _ ⟨rfl, v3, v4, rfl, rfl⟩; refine ⟨okF, ?_⟩)
    refine RD_openI (u := v3) memF (fun q5 c5 e5 hc5 hz5 => ?_)
    subst e5
    unfold iv
    repeat (refine wXf ?_)
    (refine RD_c rfl (fun _ => Const_struct (pvs := ([vI q4 c4 r.num, vI q5 c5 r.den]).zipIdx.map (fun p => (p.2, p.1))) (cells := eR ⟨r, q4, c4, q5, c5⟩) rfl rfl) rfl rfl ?_)
    repeat (refine wXf ?_)
    refine ND_closeR (q := r) (k := k) (p1 := q4) (c1 := c4) (p2 := q5) (c2 := c5) memF memF (Nat.le_refl _) (Nat.le_refl _) ?_
    refine ND_retC (cs := eR ⟨r, q4, c4, q5, c5⟩) (.inl rfl) rfl rfl memF rfl M0 (isR ⟨r, q4, c4, q5, c5⟩ k :: I0) subF incF ⟨rfl, ⟨r, q4, c4, q5, c5⟩, rfl, rfl, rfl⟩
set_option maxRecDepth 100000 in
theorem Valid_okR {e : RE} {k : Nat} (hk : k ≤ 500000000) (he : Hv I0 (isR e k)) :
    CD Tryz.prog 116 [rv e] X w0 M0 I0 (fun v M I => M0 = M ∧ I0 = I ∧ v = .bool true) := by
  refine CD.post (K := fun v M I => M0 = M ∧ isI (vI e.p1 e.c1 e.q.num) e.q.num k :: isI (vI e.p2 e.c2 e.q.den) e.q.den k :: I0 = I ∧ v = .bool true) (CD_openR he ?_) (fun v M I w h hw => ?_)
  case refine_2 =>
    obtain ⟨e1, e2, e3⟩ := h
    subst e1; subst e2
    exact ⟨_, _, ⟨rfl, rfl, e3⟩, hw.inc (Inc.wk (Inc.wk Inc.refl))⟩
  have hV1 := fun M0 I0 h => iValid_ok (X := X) (w0 := w0) (M0 := M0) (I0 := I0) (u := vI e.p1 e.c1 e.q.num) (z := e.q.num) (k := k) (by omega) h
  have hV2 := fun M0 I0 h => iValid_ok (X := X) (w0 := w0) (M0 := M0) (I0 := I0) (u := vI e.p2 e.c2 e.q.den) (z := e.q.den) (k := k) (by omega) h
  have hS := fun M0 I0 => Sign_ok (X := X) (w0 := w0) (M0 := M0) (I0 := I0) (u := vI e.p2 e.c2 e.q.den) (z := e.q.den) (k := k) (by omega)
  have hs : ((e.q.den : Int)).sign = 1 := Int.sign_eq_one_of_pos (by have := e.q.den_nz; omega)
  rw [hs] at hS
  have hG := fun M0 I0 => Gcd_ok (X := X) (w0 := w0) (M0 := M0) (I0 := I0) (u := vI e.p1 e.c1 e.q.num) (v := vI e.p2 e.c2 e.q.den) (y := e.q.num) (z := e.q.den) (k0 := k) (m := k) (by omega) (by omega)
  rw [rat_gcd] at hG
  have hC := fun u v M0 I0 => Compare_ok (X := X) (w0 := w0) (M0 := M0) (I0 := I0) (u := u) (v := v) (y := 1) (z := 1) (k := k + k) (m := 63) (by omega) (by omega)
  have hc : cmpV 1 1 = 0 := by decide
  rw [hc] at hC
  refine enterD1 Tryz.func116 rfl Tryz.ntmps116 rfl ?_
  refine TD_seq ?_
  refine TD_region ?_
  (refine RD_boxA rfl rfl rfl ?_; intro b; refine ⟨okF, ?_⟩)
  repeat (refine wXf ?_)
  (refine RD_callS rfl (hV1 _ _ memF) rfl rfl ?_; rintro _ _ _ ⟨rfl, rfl, rfl⟩; refine ⟨okF, ?_⟩)
  repeat (refine wXf ?_)
  (refine RD_callS rfl (hV2 _ _ memF) rfl rfl ?_; rintro _ _ _ ⟨rfl, rfl, rfl⟩; refine ⟨okF, ?_⟩)
  repeat (refine wXf ?_)
  (refine RD_callS rfl (hS _ _ memF) rfl rfl ?_; rintro _ _ _ ⟨rfl, rfl, rfl⟩; refine ⟨okF, ?_⟩)
  repeat (refine wXf ?_)
  (refine RD_callS rfl (hG _ _ memF memF) rfl rfl ?_; rintro _ _ _ ⟨rfl, rfl⟩; refine ⟨okF, ?_⟩)
  repeat (refine wXf ?_)
  (refine RD_callS rfl (OfZ_ok (x := 1) (by decide)) rfl rfl ?_; rintro _ _ _ ⟨rfl, rfl⟩; refine ⟨okF, ?_⟩)
  (refine RD_callS rfl (hC _ _ _ _ memF memF) rfl rfl ?_; rintro _ _ _ ⟨rfl, rfl, rfl⟩; refine ⟨okF, ?_⟩)
  repeat (refine wXf ?_)
  refine ND_ret1 (by first | exact .inl rfl | exact .inr rfl) rfl rfl _ _ subF incF (⟨rfl, rfl, congrArg Value.bool (B_true (by decide))⟩)
end
end Go.Proofs.YtllaoaobnnondaaGreatR
namespace Go.Proofs.YtllaoaobnnondaaGreatR
open Go Go.Fx
section
variable {X : List Nat} {w0 : World} {M0 : List Ent} {I0 : List Imm}
theorem CD_openRQ {f : FuncId} {vs : List Value} {e : RE} {k m : Nat} {q : Rat} {P : Program} (h : Hv I0 (isR e k)) (c : CD P f vs X w0 M0 (isI (vI e.p1 e.c1 e.q.num) e.q.num k :: isI (vI e.p2 e.c2 e.q.den) e.q.den k :: I0) (RQ q m M0 (isI (vI e.p1 e.c1 e.q.num) e.q.num k :: isI (vI e.p2 e.c2 e.q.den) e.q.den k :: I0))) : CD P f vs X w0 M0 I0 (RQ q m M0 I0) :=
  CD.post (CD_openR h c) (fun v M I w ⟨e1, e2, h2, h3, h4⟩ hw => by
    subst e1; subst h4
    exact ⟨_, _, ⟨rfl, e2, h2, h3, rfl⟩, hw.inc (Inc.cons (List.Mem.head _) (Inc.wk (Inc.wk (Inc.wk Inc.refl))))⟩)
set_option maxRecDepth 100000 in
theorem copied_ok {e : RE} {k : Nat} (hk : k ≤ 500000000) (he : Hv I0 (isR e k)) :
    CD Tryz.prog 227 [rv e] X w0 M0 I0 (RQ e.q k M0 I0) := by
  refine CD_openRQ he ?_
  have hN := fun z u M0 I0 => Neg_ok (X := X) (w0 := w0) (M0 := M0) (I0 := I0) (u := u) (z := z) (k := k) (by omega)
  have h1 := hN (-e.q.num)
  have h2 := hN (-(e.q.den : Int))
  rw [Int.neg_neg] at h1 h2
  refine enterD1 Tryz.func227 rfl Tryz.ntmps227 rfl ?_
  refine TD_seq ?_
  refine TD_region ?_
  (refine RD_boxA rfl rfl rfl ?_; intro b; refine ⟨okF, ?_⟩)
  (refine RD_alloc rfl rfl ?_; intro b2; refine ⟨okF, ?_⟩)
  repeat (refine wXf ?_)
  (repeat refine TD_seq ?_); refine TD_drawnJ 3 [0, 1, 4, 5, 2, 3, 6, 7, 8, 9] [4, 3, 4, 3, 0, 0, 0, 0, 0, 0] mixed (by kernel_rfl) ?_
  repeat (refine wXf ?_)
  (refine RD_callS rfl (hN e.q.num _ _ _ memF) rfl rfl ?_; rintro _ _ _ ⟨rfl, rfl⟩; refine ⟨okF, ?_⟩)
  (refine RD_callS rfl (h1 _ _ _ memF) rfl rfl ?_; rintro _ _ _ ⟨rfl, rfl⟩; refine ⟨okF, ?_⟩)
  refine RD_openI (z := e.q.num) (List.Mem.head _) (fun q3 c3 e3 hc3 hz3 => ?_)
  subst e3
  unfold iv
  repeat (refine wXf ?_)
  (refine RD_callS rfl (hN e.q.den _ _ _ memF) rfl rfl ?_; rintro _ _ _ ⟨rfl, rfl⟩; refine ⟨okF, ?_⟩)
  (refine RD_callS rfl (h2 _ _ _ memF) rfl rfl ?_; rintro _ _ _ ⟨rfl, rfl⟩; refine ⟨okF, ?_⟩)
  refine RD_openI (z := (e.q.den : Int)) (List.Mem.head _) (fun q4 c4 e4 hc4 hz4 => ?_)
  subst e4
  unfold iv
  (refine RD_c rfl (fun _ => Const_struct (pvs := ([vI q3 c3 e.q.num, vI q4 c4 e.q.den]).zipIdx.map (fun p => (p.2, p.1))) (cells := eR ⟨e.q, q3, c3, q4, c4⟩) rfl rfl) rfl rfl ?_)
  repeat (refine wXf ?_)
  refine ND_closeR (q := e.q) (k := k) (p1 := q3) (c1 := c3) (p2 := q4) (c2 := c4) memF memF (Nat.le_refl _) (Nat.le_refl _) ?_
  refine ND_retC (cs := eR ⟨e.q, q3, c3, q4, c4⟩) (.inl rfl) rfl rfl memF rfl M0 (isR ⟨e.q, q3, c3, q4, c4⟩ k :: _) subF incF ⟨rfl, ⟨e.q, q3, c3, q4, c4⟩, rfl, rfl, rfl⟩
set_option maxRecDepth 100000 in
theorem Value_ok {e : RE} {k : Nat} (hk : k ≤ 500000000) (he : Hv I0 (isR e k)) :
    CD Tryz.prog 179 [rv e] X w0 M0 I0 (RQ e.q k M0 I0) := by
  refine enterD1 Tryz.func179 rfl Tryz.ntmps179 rfl ?_
  refine TD_seq ?_
  refine TD_region ?_
  (refine RD_boxA rfl rfl rfl ?_; intro b; refine ⟨okF, ?_⟩)
  (refine RD_alloc rfl rfl ?_; intro b2; refine ⟨okF, ?_⟩)
  repeat (refine wXf ?_)
  (refine RD_callS rfl (Valid_okR hk he) rfl rfl ?_; rintro _ _ _ ⟨rfl, rfl, rfl⟩; refine ⟨okF, ?_⟩)
  repeat (refine wXf ?_)
  (refine RD_callS rfl (copied_ok hk he) rfl rfl ?_; rintro _ _ _ ⟨rfl, e2, rfl, he2, rfl⟩; refine ⟨okF, ?_⟩)
  repeat (refine wXf ?_)
  refine ND_retC (cs := eR e2) (.inl rfl) rfl rfl memF rfl M0 (isR e2 k :: I0) subF incF ⟨rfl, e2, rfl, he2, rfl⟩
set_option maxRecDepth 100000 in
theorem Whole_ok {x : Int} (hx : -9223372036854775808 ≤ x ∧ x ≤ 9223372036854775807) {k : Nat} (hk : x.natAbs ≤ 2 ^ k) :
    CD Tryz.prog 124 [.int .i64 x] X w0 M0 I0 (RQ (x : Rat) k M0 I0) := by
  have hn : ((x : Rat)).num = x := Rat.num_intCast x
  have hd : (((x : Rat)).den : Int) = 1 := by rw [Rat.den_intCast]; rfl
  have h1 : (1 : Int).natAbs ≤ 2 ^ k := Nat.one_le_two_pow
  obtain ⟨q, hq⟩ : ∃ q : Rat, q = (x : Rat) := ⟨_, rfl⟩
  rw [← hq] at hn hd ⊢
  refine enterD1 Tryz.func124 rfl Tryz.ntmps124 rfl ?_
  refine TD_seq ?_
  refine TD_region ?_
  (refine RD_alloc rfl rfl ?_; intro b2; refine ⟨okF, ?_⟩)
  repeat (refine wXf ?_)
  (refine RD_callS rfl (OfZ_ok hx) rfl rfl ?_; rintro _ _ _ ⟨rfl, rfl⟩; refine ⟨okF, ?_⟩; refine RD_openI (List.Mem.head _) (fun q3 c3 e__ hc3 hz3 => ?_); subst e__)
  unfold iv
  refine RD_tightI (k2 := k) (z := x) (List.Mem.tail _ (List.Mem.head _)) hk ?_
  (refine RD_callS rfl (OfZ_ok (x := 1) (by decide)) rfl rfl ?_; rintro _ _ _ ⟨rfl, rfl⟩; refine ⟨okF, ?_⟩; refine RD_openI (List.Mem.head _) (fun q4 c4 e__ hc4 hz4 => ?_); subst e__)
  unfold iv
  refine RD_tightI (k2 := k) (z := 1) (List.Mem.tail _ (List.Mem.head _)) h1 ?_
  rw [← hn, ← hd]
  (refine RD_c rfl (fun _ => Const_struct (pvs := ([vI q3 c3 q.num, vI q4 c4 q.den]).zipIdx.map (fun p => (p.2, p.1))) (cells := eR ⟨q, q3, c3, q4, c4⟩) rfl rfl) rfl rfl ?_)
  repeat (refine wXf ?_)
  refine ND_closeR (q := q) (k := k) (p1 := q3) (c1 := c3) (p2 := q4) (c2 := c4) memF memF (Nat.le_refl _) (Nat.le_refl _) ?_
  refine ND_retC (cs := eR ⟨q, q3, c3, q4, c4⟩) (.inl rfl) rfl rfl memF rfl M0 (isR ⟨q, q3, c3, q4, c4⟩ k :: I0) subF incF ⟨rfl, ⟨q, q3, c3, q4, c4⟩, rfl, rfl, rfl⟩
set_option maxRecDepth 100000 in
theorem QSign_ok {e : RE} {k : Nat} (hk : k ≤ 500000000) (he : Hv I0 (isR e k)) :
    CD Tryz.prog 93 [rv e] X w0 M0 I0 (fun v M I => M0 = M ∧ I0 = I ∧ v = .int .i64 e.q.num.sign) := by
  refine enterD1 Tryz.func93 rfl Tryz.ntmps93 rfl ?_
  refine TD_seq ?_
  refine TD_region ?_
  (refine RD_boxA rfl rfl rfl ?_; intro b; refine ⟨okF, ?_⟩)
  repeat (refine wXf ?_)
  (refine RD_callS rfl (Value_ok hk he) rfl rfl ?_; rintro _ _ _ ⟨rfl, e2, rfl, he2, rfl⟩; refine ⟨okF, ?_⟩)
  refine RD_c rfl (fun _ => Const_fieldN rfl) rfl rfl ?_
  refine RD_openR (e := e2) (k := k) (Hv.mem (List.Mem.head _)) ?_
  (refine RD_callS rfl (Sign_ok (z := e2.q.num) (k := k) (by omega) memF) rfl rfl ?_; rintro _ _ _ ⟨rfl, rfl, rfl⟩; refine ⟨okF, ?_⟩)
  rw [he2]
  repeat (refine wXf ?_)
  refine ND_ret1 (by first | exact .inl rfl | exact .inr rfl) rfl rfl _ _ subF incF (⟨rfl, rfl, rfl⟩)
set_option maxRecDepth 100000 in
theorem QNeg_ok {e : RE} {k : Nat} (hk : k ≤ 500000000) (he : Hv I0 (isR e k)) :
    CD Tryz.prog 126 [rv e] X w0 M0 I0 (RQ (-e.q) k M0 I0) := by
  refine enterD1 Tryz.func126 rfl Tryz.ntmps126 rfl ?_
  refine TD_seq ?_
  refine TD_region ?_
  (refine RD_boxA rfl rfl rfl ?_; intro b; refine ⟨okF, ?_⟩)
  (refine RD_alloc rfl rfl ?_; intro b2; refine ⟨okF, ?_⟩)
  repeat (refine wXf ?_)
  (refine RD_callS rfl (Value_ok hk he) rfl rfl ?_; rintro _ _ _ ⟨rfl, e2, rfl, he2, rfl⟩; refine ⟨okF, ?_⟩)
  refine RD_openR (e := e2) (k := k) (Hv.mem (List.Mem.head _)) ?_
  rw [← he2]
  have hN := fun M0 I0 => Neg_ok (X := X) (w0 := w0) (M0 := M0) (I0 := I0) (u := vI e2.p1 e2.c1 e2.q.num) (z := e2.q.num) (k := k) (by omega)
  rw [← Rat.neg_num] at hN
  have hd : ((e2.q.den : Int)) = ((-e2.q).den : Int) := by rw [Rat.neg_den]
  repeat (refine wXf ?_)
  (repeat refine TD_seq ?_); refine TD_drawnJ 1 [0, 1, 3, 4, 2, 5, 6] [1, 0, 1, 1, 0, 0, 0] mixed (by kernel_rfl) ?_
  repeat (refine wXf ?_)
  (refine RD_callS rfl (hN _ _ memF) rfl rfl ?_; rintro _ _ _ ⟨rfl, rfl⟩; refine ⟨okF, ?_⟩; refine RD_openI (List.Mem.head _) (fun q3 c3 e__ hc3 hz3 => ?_); subst e__)
  unfold iv
  rw [hd]
  (refine RD_c rfl (fun _ => Const_struct (pvs := ([vI q3 c3 (-e2.q).num, vI e2.p2 e2.c2 (-e2.q).den]).zipIdx.map (fun p => (p.2, p.1))) (cells := eR ⟨-e2.q, q3, c3, e2.p2, e2.c2⟩) rfl rfl) rfl rfl ?_)
  repeat (refine wXf ?_)
  refine ND_closeR (q := -e2.q) (k := k) (p1 := q3) (c1 := c3) (p2 := e2.p2) (c2 := e2.c2) memF memF (Nat.le_refl _) (Nat.le_refl _) ?_
  refine ND_retC (cs := eR ⟨-e2.q, q3, c3, e2.p2, e2.c2⟩) (.inl rfl) rfl rfl memF rfl M0 (isR ⟨-e2.q, q3, c3, e2.p2, e2.c2⟩ k :: I0) subF incF ⟨rfl, ⟨-e2.q, q3, c3, e2.p2, e2.c2⟩, rfl, rfl, rfl⟩
end
end Go.Proofs.YtllaoaobnnondaaGreatR
namespace Go.Proofs.YtllaoaobnnondaaGreatR
open Go Go.Fx
theorem pow_dbl (k m : Nat) : 2 ^ (k + m) + 2 ^ (m + k) ≤ 2 ^ (k + m + 1) := by
  rw [Nat.add_comm m k, Nat.pow_succ]; omega
theorem den_pos (q : Rat) : (0 : Int) < q.den := by have := q.den_nz; omega
theorem den_mul_ne (p q : Rat) : ((p.den : Int) * q.den) ≠ 0 := by
  have := Int.mul_pos (den_pos p) (den_pos q); omega
theorem den_num_ne {p q : Rat} (h : q ≠ 0) : ((p.den : Int) * q.num) ≠ 0 := fun h0 => by
  rcases Int.mul_eq_zero.1 h0 with h1 | h1
  · exact absurd h1 (by have := den_pos p; omega)
  · exact h (Rat.num_eq_zero.1 h1)
section
variable {X : List Nat} {w0 : World} {M0 : List Ent} {I0 : List Imm}
set_option maxRecDepth 100000 in
set_option maxHeartbeats 1000000 in
theorem QAdd_ok {a b : RE} {k m : Nat} (hk : k + m + 1 ≤ 500000000) (ha : Hv I0 (isR a k)) (hb : Hv I0 (isR b m)) :
    CD Tryz.prog 144 [rv a, rv b] X w0 M0 I0 (RQ (a.q + b.q) (k + m + 1) M0 I0) := by
  refine enterD2 Tryz.func144 rfl Tryz.ntmps144 rfl ?_
  refine TD_seq ?_
  refine TD_region ?_
  (refine RD_boxA rfl rfl rfl ?_; intro b1; refine ⟨okF, ?_⟩)
  (refine RD_boxA rfl rfl rfl ?_; intro b2; refine ⟨okF, ?_⟩)
  (refine RD_alloc rfl rfl ?_; intro b3; refine ⟨okF, ?_⟩)
  repeat (refine wXf ?_)
  (repeat refine TD_seq ?_); refine TD_drawnJ 2 [0, 2, 1, 3, 4, 5] [1, 2, 0, 0, 0, 0] mixed (by kernel_rfl) ?_
  repeat (refine wXf ?_)
  (refine RD_callS rfl (Value_ok (k := k) (by omega) ha) rfl rfl ?_; rintro _ _ _ ⟨rfl, x, rfl, hx, rfl⟩; refine ⟨okF, ?_⟩)
  repeat (refine wXf ?_)
  (refine RD_callS rfl (Value_ok (k := m) (by omega) hb.cons) rfl rfl ?_; rintro _ _ _ ⟨rfl, y, rfl, hy, rfl⟩; refine ⟨okF, ?_⟩)
  refine RD_openR (e := x) (k := k) (Hv.mem (List.Mem.tail _ (List.Mem.head _))) ?_
  refine RD_openR (e := y) (k := m) (Hv.mem (List.Mem.tail _ (List.Mem.tail _ (List.Mem.head _)))) ?_
  rw [← hx, ← hy]
  have hM1 := fun u v M0 I0 => Mul_ok (X := X) (w0 := w0) (M0 := M0) (I0 := I0) (u := u) (v := v) (y := x.q.num) (z := y.q.den) (k := k) (m := m) (by omega)
  have hM2 := fun u v M0 I0 => Mul_ok (X := X) (w0 := w0) (M0 := M0) (I0 := I0) (u := u) (v := v) (y := y.q.num) (z := x.q.den) (k := m) (m := k) (by omega)
  have hM3 := fun u v M0 I0 => Mul_ok (X := X) (w0 := w0) (M0 := M0) (I0 := I0) (u := u) (v := v) (y := x.q.den) (z := y.q.den) (k := k) (m := m) (by omega)
  have hA := fun u v M0 I0 => Add_ok (X := X) (w0 := w0) (M0 := M0) (I0 := I0) (u := u) (v := v) (y := x.q.num * y.q.den) (z := y.q.num * x.q.den) (k := k + m) (m := m + k) (c := k + m + 1) (by omega) (by omega) (by omega) (pow_dbl k m)
  have hR := fun u v M0 I0 => reduced_ok (X := X) (w0 := w0) (M0 := M0) (I0 := I0) (u := u) (v := v) (n := x.q.num * y.q.den + y.q.num * x.q.den) (d := x.q.den * y.q.den) (k := k + m + 1) (by omega) (den_mul_ne _ _)
  rw [← add_divInt] at hR
  repeat (refine wXf ?_)
  (repeat refine TD_seq ?_); refine TD_drawnW (.blk b2 (eR y) 26 :: .blk b1 (eR x) 26 :: M0) (I0) [0, 1, 2, 3, 5, 6, 7, 8, 11, 12, 13, 14, 4, 9, 10, 15, 16, 17] [5, 4, 5, 4, 5, 4, 5, 4, 5, 4, 5, 4, 0, 0, 0, 0, 0, 0] subF incF mixed (by kernel_rfl) ?_
  repeat (refine wXf ?_)
  (refine RD_callS rfl (hM1 _ _ _ _ memF memF) rfl rfl ?_; rintro _ _ _ ⟨rfl, rfl⟩; refine ⟨okF, ?_⟩)
  (refine RD_callS rfl (hM2 _ _ _ _ memF memF) rfl rfl ?_; rintro _ _ _ ⟨rfl, rfl⟩; refine ⟨okF, ?_⟩)
  (refine RD_callS rfl (hA _ _ _ _ memF memF) rfl rfl ?_; rintro _ _ _ ⟨rfl, rfl⟩; refine ⟨okF, ?_⟩)
  (refine RD_callS rfl (hM3 _ _ _ _ memF memF) rfl rfl ?_; rintro _ _ _ ⟨rfl, rfl⟩; refine ⟨okF, ?_⟩)
  refine RD_monoI (k2 := k + m + 1) (List.Mem.head _) (by omega) ?_
  (refine RD_callS rfl (hR _ _ _ _ memF memF) rfl rfl ?_; rintro _ _ _ ⟨rfl, e, rfl, he, rfl⟩; refine ⟨okF, ?_⟩)
  repeat (refine wXf ?_)
  refine ND_retC (cs := eR e) (.inl rfl) rfl rfl memF rfl M0 (isR e (k + m + 1) :: I0) subF incF ⟨rfl, e, rfl, he, rfl⟩
set_option maxRecDepth 100000 in
theorem QSub_ok {a b : RE} {k m : Nat} (hk : k + m + 1 ≤ 500000000) (ha : Hv I0 (isR a k)) (hb : Hv I0 (isR b m)) :
    CD Tryz.prog 168 [rv a, rv b] X w0 M0 I0 (RQ (a.q - b.q) (k + m + 1) M0 I0) := by
  refine enterD2 Tryz.func168 rfl Tryz.ntmps168 rfl ?_
  refine TD_seq ?_
  refine TD_region ?_
  (refine RD_boxA rfl rfl rfl ?_; intro b1; refine ⟨okF, ?_⟩)
  (refine RD_boxA rfl rfl rfl ?_; intro b2; refine ⟨okF, ?_⟩)
  (refine RD_alloc rfl rfl ?_; intro b3; refine ⟨okF, ?_⟩)
  repeat (refine wXf ?_)
  (repeat refine TD_seq ?_); refine TD_drawnJ 1 [0, 1, 2, 3, 4] [1, 1, 0, 0, 0] mixed (by kernel_rfl) ?_
  repeat (refine wXf ?_)
  (refine RD_callS rfl (QNeg_ok (k := m) (by omega) hb) rfl rfl ?_; rintro _ _ _ ⟨rfl, y, rfl, hy, rfl⟩; refine ⟨okF, ?_⟩)
  rw [Rat.sub_eq_add_neg, ← hy]
  (refine RD_callS rfl (QAdd_ok hk ha.cons (Hv.mem (List.Mem.head _))) rfl rfl ?_; rintro _ _ _ ⟨rfl, e, rfl, he, rfl⟩; refine ⟨okF, ?_⟩)
  repeat (refine wXf ?_)
  refine ND_retC (cs := eR e) (.inl rfl) rfl rfl memF rfl M0 (isR e (k + m + 1) :: I0) subF incF ⟨rfl, e, rfl, he, rfl⟩
set_option maxRecDepth 100000 in
set_option maxHeartbeats 1000000 in
theorem QMul_ok {a b : RE} {k m : Nat} (hk : k + m ≤ 500000000) (ha : Hv I0 (isR a k)) (hb : Hv I0 (isR b m)) :
    CD Tryz.prog 145 [rv a, rv b] X w0 M0 I0 (RQ (a.q * b.q) (k + m) M0 I0) := by
  refine enterD2 Tryz.func145 rfl Tryz.ntmps145 rfl ?_
  refine TD_seq ?_
  refine TD_region ?_
  (refine RD_boxA rfl rfl rfl ?_; intro b1; refine ⟨okF, ?_⟩)
  (refine RD_boxA rfl rfl rfl ?_; intro b2; refine ⟨okF, ?_⟩)
  (refine RD_alloc rfl rfl ?_; intro b3; refine ⟨okF, ?_⟩)
  repeat (refine wXf ?_)
  (repeat refine TD_seq ?_); refine TD_drawnJ 2 [0, 2, 1, 3, 4, 5] [1, 2, 0, 0, 0, 0] mixed (by kernel_rfl) ?_
  repeat (refine wXf ?_)
  (refine RD_callS rfl (Value_ok (k := k) (by omega) ha) rfl rfl ?_; rintro _ _ _ ⟨rfl, x, rfl, hx, rfl⟩; refine ⟨okF, ?_⟩)
  repeat (refine wXf ?_)
  (refine RD_callS rfl (Value_ok (k := m) (by omega) hb.cons) rfl rfl ?_; rintro _ _ _ ⟨rfl, y, rfl, hy, rfl⟩; refine ⟨okF, ?_⟩)
  refine RD_openR (e := x) (k := k) (Hv.mem (List.Mem.tail _ (List.Mem.head _))) ?_
  refine RD_openR (e := y) (k := m) (Hv.mem (List.Mem.tail _ (List.Mem.tail _ (List.Mem.head _)))) ?_
  rw [← hx, ← hy]
  have hM1 := fun u v M0 I0 => Mul_ok (X := X) (w0 := w0) (M0 := M0) (I0 := I0) (u := u) (v := v) (y := x.q.num) (z := y.q.num) (k := k) (m := m) (by omega)
  have hM3 := fun u v M0 I0 => Mul_ok (X := X) (w0 := w0) (M0 := M0) (I0 := I0) (u := u) (v := v) (y := x.q.den) (z := y.q.den) (k := k) (m := m) (by omega)
  have hR := fun u v M0 I0 => reduced_ok (X := X) (w0 := w0) (M0 := M0) (I0 := I0) (u := u) (v := v) (n := x.q.num * y.q.num) (d := x.q.den * y.q.den) (k := k + m) (by omega) (den_mul_ne _ _)
  rw [← mul_divInt] at hR
  repeat (refine wXf ?_)
  (repeat refine TD_seq ?_); refine TD_drawnW (.blk b2 (eR y) 26 :: .blk b1 (eR x) 26 :: M0) (I0) [0, 1, 2, 3, 5, 6, 7, 8, 4, 9, 10, 11] [3, 2, 3, 2, 3, 2, 3, 2, 0, 0, 0, 0] subF incF mixed (by kernel_rfl) ?_
  repeat (refine wXf ?_)
  (refine RD_callS rfl (hM1 _ _ _ _ memF memF) rfl rfl ?_; rintro _ _ _ ⟨rfl, rfl⟩; refine ⟨okF, ?_⟩)
  (refine RD_callS rfl (hM3 _ _ _ _ memF memF) rfl rfl ?_; rintro _ _ _ ⟨rfl, rfl⟩; refine ⟨okF, ?_⟩)
  (refine RD_callS rfl (hR _ _ _ _ memF memF) rfl rfl ?_; rintro _ _ _ ⟨rfl, e, rfl, he, rfl⟩; refine ⟨okF, ?_⟩)
  repeat (refine wXf ?_)
  refine ND_retC (cs := eR e) (.inl rfl) rfl rfl memF rfl M0 (isR e (k + m) :: I0) subF incF ⟨rfl, e, rfl, he, rfl⟩
/-- zero, as with an error -/
abbrev zR : Value := .agg #[.bool false, .slice none 0 0, .bool false, .slice none 0 0]
set_option maxRecDepth 100000 in
set_option maxHeartbeats 1000000 in
theorem QDivide_ok {a b : RE} {k m : Nat} (hk : k + m ≤ 500000000) (hb0 : b.q ≠ 0) (ha : Hv I0 (isR a k)) (hb : Hv I0 (isR b m)) :
    CD Tryz.prog 128 [rv a, rv b] X w0 M0 I0 (RQc (a.q / b.q) (k + m) M0 I0) := by
  refine enterD2 Tryz.func128 rfl Tryz.ntmps128 rfl ?_
  refine TD_seq ?_
  refine TD_region ?_
  (refine RD_boxA rfl rfl rfl ?_; intro b1; refine ⟨okF, ?_⟩)
  (refine RD_boxA rfl rfl rfl ?_; intro b2; refine ⟨okF, ?_⟩)
  (refine RD_alloc rfl rfl ?_; intro b3; refine ⟨okF, ?_⟩)
  repeat (refine wXf ?_)
  (repeat refine TD_seq ?_); refine TD_drawnJ 2 [0, 2, 1, 3, 4, 5] [1, 2, 0, 0, 0, 0] mixed (by kernel_rfl) ?_
  repeat (refine wXf ?_)
  (refine RD_callS rfl (Value_ok (k := k) (by omega) ha) rfl rfl ?_; rintro _ _ _ ⟨rfl, x, rfl, hx, rfl⟩; refine ⟨okF, ?_⟩)
  repeat (refine wXf ?_)
  (refine RD_callS rfl (Value_ok (k := m) (by omega) hb.cons) rfl rfl ?_; rintro _ _ _ ⟨rfl, y, rfl, hy, rfl⟩; refine ⟨okF, ?_⟩)
  refine RD_openR (e := x) (k := k) (Hv.mem (List.Mem.tail _ (List.Mem.head _))) ?_
  refine RD_openR (e := y) (k := m) (Hv.mem (List.Mem.tail _ (List.Mem.tail _ (List.Mem.head _)))) ?_
  rw [← hx, ← hy]
  rw [← hy] at hb0
  have hs0 : ¬ y.q.num.sign = 0 := fun h => hb0 (Rat.num_eq_zero.1 (Int.sign_eq_zero_iff_zero.1 h))
  have hS := fun M0 I0 => Sign_ok (X := X) (w0 := w0) (M0 := M0) (I0 := I0) (u := vI y.p1 y.c1 y.q.num) (z := y.q.num) (k := m) (by omega)
  have hM1 := fun u v M0 I0 => Mul_ok (X := X) (w0 := w0) (M0 := M0) (I0 := I0) (u := u) (v := v) (y := x.q.num) (z := y.q.den) (k := k) (m := m) (by omega)
  have hM3 := fun u v M0 I0 => Mul_ok (X := X) (w0 := w0) (M0 := M0) (I0 := I0) (u := u) (v := v) (y := x.q.den) (z := y.q.num) (k := k) (m := m) (by omega)
  have hR := fun u v M0 I0 => reduced_ok (X := X) (w0 := w0) (M0 := M0) (I0 := I0) (u := u) (v := v) (n := x.q.num * y.q.den) (d := x.q.den * y.q.num) (k := k + m) (by omega) (den_num_ne hb0)
  rw [← div_divInt] at hR
  generalize y.q.num.sign = sy at *
  repeat (refine wXf ?_)
  (refine RD_callS rfl (hS _ _ memF) rfl rfl ?_; rintro _ _ _ ⟨rfl, rfl, rfl⟩; refine ⟨okF, ?_⟩)
  repeat (refine wXf ?_)
  (repeat refine TD_seq ?_); refine TD_drawnW (.blk b2 (eR y) 26 :: .blk b1 (eR x) 26 :: M0) (I0) [0, 1, 2, 3, 5, 6, 7, 8, 4, 9, 10, 11, 12] [3, 2, 3, 2, 3, 2, 3, 2, 0, 0, 0, 0, 0] subF incF mixed (by kernel_rfl) ?_
  repeat (refine wXf ?_)
  (refine RD_callS rfl (hM1 _ _ _ _ memF memF) rfl rfl ?_; rintro _ _ _ ⟨rfl, rfl⟩; refine ⟨okF, ?_⟩)
  (refine RD_callS rfl (hM3 _ _ _ _ memF memF) rfl rfl ?_; rintro _ _ _ ⟨rfl, rfl⟩; refine ⟨okF, ?_⟩)
  (refine RD_callS rfl (hR _ _ _ _ memF memF) rfl rfl ?_; rintro _ _ _ ⟨rfl, e, rfl, he, rfl⟩; refine ⟨okF, ?_⟩)
  repeat (refine wXf ?_)
  refine ND_retsC (rs := [.cell 4 26, .tmp 5]) (vs := [rv e, .int .i64 0]) (.inl rfl) rfl (.cellN (cs := eR e) inferInstance rfl memF rfl (.tmp rfl .nil)) rfl M0 (isR e (k + m) :: I0) subF incF ⟨rfl, e, rfl, he, rfl⟩
/-- the order of fractions -/
def cmpR (p q : Rat) : Int := cmpV (p.num * q.den) (q.num * p.den)
theorem cmpR_gt {p q : Rat} : 0 < cmpR p q ↔ q < p := by
  unfold cmpR cmpV; rw [rat_lt]; split <;> (try split) <;> omega
theorem cmpR_eq {p q : Rat} : cmpR p q = 0 ↔ p = q := by
  unfold cmpR cmpV; rw [rat_eq]; split <;> (try split) <;> omega
theorem cmpR_le {p q : Rat} : cmpR p q ≤ 0 ↔ p ≤ q := by rw [← Rat.not_lt, ← cmpR_gt]; omega
end
end Go.Proofs.YtllaoaobnnondaaGreatR

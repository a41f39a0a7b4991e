/- intersect.Least at the example's rays. -/
import Derived.Test.YtllaoaobnnondaaGreatRZibm
import Derived.Test.YtllaoaobnnondaaGreatRZibn
import Derived.Test.YtllaoaobnnondaaGreatRZibb
set_option linter.unusedSimpArgs false
set_option linter.unusedVariables false
namespace Go.Proofs.YtllaoaobnnondaaGreatR
open Go Go.Fx
theorem AtsZ.y1j {o a : TE} {j : Int} (h : 0 ≤ j ∧ j < 3) : AtsZ (recs eT [o, a]) (0 + 12 + j.toNat * 4) (eR (gt [a.x, a.y, a.z] j)) 4 := by
  have : j = 0 ∨ j = 1 ∨ j = 2 := by omega
  rcases this with rfl | rfl | rfl
  · exact AtsZ.r (enc := eR) (ms := [o.x, o.y, o.z, a.x, a.y, a.z]) (i := 3) (by simp)
  · exact AtsZ.r (enc := eR) (ms := [o.x, o.y, o.z, a.x, a.y, a.z]) (i := 4) (by simp)
  · exact AtsZ.r (enc := eR) (ms := [o.x, o.y, o.z, a.x, a.y, a.z]) (i := 5) (by simp)
theorem AtsZ.y0j {o a : TE} {j : Int} (h : 0 ≤ j ∧ j < 3) : AtsZ (recs eT [o, a]) (0 + 0 + j.toNat * 4) (eR (gt [o.x, o.y, o.z] j)) 4 := by
  have : j = 0 ∨ j = 1 ∨ j = 2 := by omega
  rcases this with rfl | rfl | rfl
  · exact AtsZ.r (enc := eR) (ms := [o.x, o.y, o.z, a.x, a.y, a.z]) (i := 0) (by simp)
  · exact AtsZ.r (enc := eR) (ms := [o.x, o.y, o.z, a.x, a.y, a.z]) (i := 1) (by simp)
  · exact AtsZ.r (enc := eR) (ms := [o.x, o.y, o.z, a.x, a.y, a.z]) (i := 2) (by simp)
abbrev zTv : List Value := [.bool false, .slice none 0 0, .bool false, .slice none 0 0, .bool false, .slice none 0 0, .bool false, .slice none 0 0, .bool false, .slice none 0 0, .bool false, .slice none 0 0]
theorem Hv.tat {I : List Imm} {p : TE} {k : Nat} (h : Hv I (isT p k)) {j : Int} (hj : 0 ≤ j ∧ j < 3) : Hv I (isR (gt [p.x, p.y, p.z] j) k) := by
  have : j = 0 ∨ j = 1 ∨ j = 2 := by omega
  rcases this with rfl | rfl | rfl
  · exact h.tx
  · exact h.ty
  · exact h.tz
theorem RD_ldOI {P : Program} {n : Nat} {ops l : List Oper} {Q : Exit → Act → World → Prop} {m : Fx.Mode} {G : Env} {X : List Nat} {w0 : World} {M M1 : List Ent} {I I1 : List Imm} {ty : TypeId} {pos : String} {af : Array Edge} {g : Option (Nat × Bool)}
    {d : Nat} {t : TypeId} {sz : Nat} {x : Operand} {a : Option Addr} {cs : List Value} [AggTy P t sz] (ho : Ok a) (hv : View m X w0 M I M1 I1) (hx : ev G x = some (.pointer a)) (hm : slI a cs ∈ I1) (hl : cs.length = sz) (hg : gst ops G g = some true)
    (hd : Nat.ble (d + 1) n = true) (k : RD P n ops Q m.next l ((d, .agg cs.toArray) :: G) X w0 M I) : RD P n ops Q m (⟨some d, .load t x, ty, pos, af, g⟩ :: l) G X w0 M I := by
  obtain ⟨b, o, rfl⟩ := ho.cases
  exact RD_ldNI (a := some ⟨b, o, none⟩) (o := 0) hv hx hm Ats.all hl hg hd k
theorem okrow {r : RL} {k : Nat} {X : List Nat} {w : World} (h : IsL r k X w) (e : r.es.length = 3) : Ok r.p := h.cap.2.resolve_right (fun z => by omega)
theorem rowT {r : RL} {k : Nat} {X : List Nat} {w : World} {a b c : RE} (h : IsL r k X w) (e : r.es = [a, b, c]) : IsT ⟨a, b, c⟩ k X w := ⟨h.el a (by rw [e]; simp), h.el b (by rw [e]; simp), h.el c (by rw [e]; simp)⟩
theorem rowS {r : RL} {k : Nat} {X : List Nat} {w : World} {a b c : RE} (h : IsL r k X w) (e : r.es = [a, b, c]) : SlI r.p (recs eR [a, b, c]) X w := ⟨by rw [← e]; exact h.sl⟩
theorem Hv.upY {I : List Imm} {y : YE} {k m : Nat} (ha : Hv I (isY y k)) (h : k ≤ m) : Hv I (isY y m) := ⟨fun X w hw => ⟨(Hv.upT (Hv.yo ha) h).go X w hw, (Hv.upT (Hv.ya ha) h).go X w hw⟩⟩
def LSt (l0 l1 l2 rs : List RE) (t : Nat) : Prop := (qs l0 = (lrun t).n0 ∧ qs l1 = (lrun t).n1) ∧ qs l2 = (lrun t).n2 ∧ qs rs = (lrun t).r
theorem LSt.len {l0 l1 l2 rs : List RE} {t : Nat} (h : LSt l0 l1 l2 rs t) (ht : t < 19) : (l0.length = 3 ∧ l1.length = 3) ∧ l2.length = 3 ∧ rs.length = 3 := by
  have h1 := (lrun_small t ht).1
  obtain ⟨⟨e0, e1⟩, e2, e3⟩ := h
  rw [← e0, ← e1, ← e2, ← e3] at h1
  simp only [qs, List.length_map] at h1
  exact ⟨⟨h1.1, h1.2.1⟩, h1.2.2.1, h1.2.2.2⟩
theorem qs_st {l : List RE} {j : Nat} {e : RE} : qs (st l (j : Int) e) = (qs l).set j e.q := by
  simp [qs, st, List.map_set]
theorem qs_at {l : List RE} {j : Nat} (h : j < l.length) : (qs l).getD j 0 = (gt l (j : Int)).q := by
  rw [gt_get h]; simp [qs, List.getD, h]
theorem LSt.next {l0 l1 l2 rs : List RE} {k i j : Nat} {e f : RE} (hi : i < 3) (hj : j < 3) (hk : k < 2) (h : LSt l0 l1 l2 rs (9 * k + 3 * i + j))
    (he : e.q = (gt (if i = 0 then l0 else if i = 1 then l1 else l2) (j : Int)).q + lx (kal k) 1 1 i j) (hf : f.q = (gt rs (i : Int)).q + lx (kal k) 1 1 i j * (kor k).getD j 0) :
    LSt (if i = 0 then st l0 (j : Int) e else l0) (if i = 1 then st l1 (j : Int) e else l1) (if i = 2 then st l2 (j : Int) e else l2) (st rs (i : Int) f) (9 * k + 3 * i + j + 1) := by
  obtain ⟨⟨k0, k1⟩, k2, kr⟩ := h.len (by omega)
  obtain ⟨⟨e0, e1⟩, e2, er⟩ := h
  rw [← qs_at (by omega), er] at hf
  unfold LSt
  rw [lrun_at hi hj]
  have : i = 0 ∨ i = 1 ∨ i = 2 := by omega
  rcases this with rfl | rfl | rfl
  · rw [if_pos rfl, ← qs_at (by omega), e0] at he
    refine ⟨⟨?_, e1⟩, e2, ?_⟩
    · rw [if_pos rfl, qs_st, e0, he]; rfl
    · rw [qs_st, er, hf]; rfl
  · rw [if_neg (by decide), if_pos rfl, ← qs_at (by omega), e1] at he
    refine ⟨⟨e0, ?_⟩, e2, ?_⟩
    · rw [if_pos rfl, qs_st, e1, he]; rfl
    · rw [qs_st, er, hf]; rfl
  · rw [if_neg (by decide), if_neg (by decide), ← qs_at (by omega), e2] at he
    refine ⟨⟨e0, e1⟩, ?_, ?_⟩
    · rw [if_pos rfl, qs_st, e2, he]; rfl
    · rw [qs_st, er, hf]; rfl
theorem LSt.sml {l0 l1 l2 rs : List RE} {t : Nat} (h : LSt l0 l1 l2 rs t) (ht : t < 19) : ((∀ e ∈ l0, lsm e.q) ∧ ∀ e ∈ l1, lsm e.q) ∧ (∀ e ∈ l2, lsm e.q) ∧ ∀ e ∈ rs, lsm e.q := by
  have h1 := (lrun_small t ht).2
  obtain ⟨⟨e0, e1⟩, e2, e3⟩ := h
  rw [← e0, ← e1, ← e2, ← e3] at h1
  exact ⟨⟨fun e he => h1.1 _ (List.mem_map_of_mem he), fun e he => h1.2.1 _ (List.mem_map_of_mem he)⟩, fun e he => h1.2.2.1 _ (List.mem_map_of_mem he), fun e he => h1.2.2.2 _ (List.mem_map_of_mem he)⟩
theorem Hv.stLS {I : List Imm} {l : List RE} {j : Int} {e : RE} {m : Nat} (h1 : allR l 8 ∈ I) (h2 : isR e m ∈ I) (hs : lsm e.q) : Hv I (allR (st l j e) 8) := ⟨fun X w hw => ⟨fun f hf => by
  rcases List.mem_or_eq_of_mem_set hf with h | h
  · exact (hw _ h1 : AllR l 8 X w).go f h
  · rw [h]; exact IsR.tight (hw _ h2) hs.1 hs.2⟩⟩
theorem mem_st {l : List RE} {j : Nat} {e : RE} (h : j < l.length) : e ∈ st l (j : Int) e := by
  unfold st
  rw [show ((j : Int)).toNat = j from rfl]
  exact List.mem_set h e
theorem kal_at {y : TE} {k : Nat} (h : qs [y.x, y.y, y.z] = kal k) {i : Nat} (hi : i < 3) : (gt [y.x, y.y, y.z] (i : Int)).q = (kal k).getD i 0 := by
  rw [← h, qs_at (by exact hi)]
theorem kor_at {y : TE} {k : Nat} (h : qs [y.x, y.y, y.z] = kor k) {i : Nat} (hi : i < 3) : (gt [y.x, y.y, y.z] (i : Int)).q = (kor k).getD i 0 := by
  rw [← h, qs_at (by exact hi)]
/-- the example's rays, as they lie in memory -/
def ExR (r s : YE) : Prop := (qs [r.a.x, r.a.y, r.a.z] = kal 0 ∧ qs [r.o.x, r.o.y, r.o.z] = kor 0) ∧ qs [s.a.x, s.a.y, s.a.z] = kal 1 ∧ qs [s.o.x, s.o.y, s.o.z] = kor 1
theorem ExR.at {r s : YE} (h : ExR r s) {k : Nat} (hk : k < 2) : qs [(gt [r, s] (k : Int)).a.x, (gt [r, s] (k : Int)).a.y, (gt [r, s] (k : Int)).a.z] = kal k ∧ qs [(gt [r, s] (k : Int)).o.x, (gt [r, s] (k : Int)).o.y, (gt [r, s] (k : Int)).o.z] = kor k := by
  have : k = 0 ∨ k = 1 := by omega
  rcases this with rfl | rfl
  · exact h.1
  · exact h.2
theorem kal_dot {y : YE} {k : Nat} (h : qs [y.a.x, y.a.y, y.a.z] = kal k) : y.a.v.dot y.a.v = 1 := by
  have h : [y.a.x.q, y.a.y.q, y.a.z.q] = kal k := h
  unfold kal at h
  show y.a.x.q * y.a.x.q + y.a.y.q * y.a.y.q + y.a.z.q * y.a.z.q = 1
  split at h
  · simp only [List.cons.injEq, and_true] at h
    rw [h.1, h.2.1, h.2.2]; decide +kernel
  · simp only [List.cons.injEq, and_true] at h
    rw [h.1, h.2.1, h.2.2]; decide +kernel
theorem Hv.yat {I : List Imm} {r s : YE} {k m : Nat} (h1 : isY r m ∈ I) (h2 : isY s m ∈ I) (hk : k < 2) : Hv I (isY (gt [r, s] (k : Int)) m) := by
  have : k = 0 ∨ k = 1 := by omega
  rcases this with rfl | rfl
  · exact Hv.mem h1
  · exact Hv.mem h2
section
variable {X : List Nat} {w0 : World} {M0 : List Ent} {I0 : List Imm}
theorem Least1_ok {x : Int} : CD Tryz.prog 177 [.int .i64 x] X w0 M0 I0 (fun v M I => M0 = M ∧ I0 = I ∧ v = .bool (B (x < 1 ∨ 1048576 < x))) := by
  by_cases h : x < 1
  · refine enterD1 Tryz.func177 rfl Tryz.ntmps177 rfl ?_
    repeat (refine wXh ?_)
    refine ND_ret1 (by first | exact .inl rfl | exact .inr rfl) rfl rfl _ _ subF incF (⟨rfl, rfl, congrArg Value.bool (B_true (.inl h)).symm⟩)
  · refine enterD1 Tryz.func177 rfl Tryz.ntmps177 rfl ?_
    repeat (refine wXh ?_)
    refine ND_ret1 (by first | exact .inl rfl | exact .inr rfl) rfl rfl _ _ subF incF (⟨rfl, rfl, congrArg Value.bool (B_congr (by omega))⟩)
theorem Hv.il3 {I : List Imm} {a b c : IL} (h1 : slI a.p (recs (eI .i64) a.xs) ∈ I) (h2 : slI b.p (recs (eI .i64) b.xs) ∈ I) (h3 : slI c.p (recs (eI .i64) c.xs) ∈ I) : Hv I (allIL [a, b, c]) := ⟨fun X w hw => ⟨fun p hp => by
  simp only [List.mem_cons, List.not_mem_nil, or_false] at hp
  rcases hp with rfl | rfl | rfl
  · exact (hw _ h1 : SlI _ _ X w).go
  · exact (hw _ h2 : SlI _ _ X w).go
  · exact (hw _ h3 : SlI _ _ X w).go⟩⟩
theorem Of0_ok {z1 z2 z3 z4 : Nat} (h1 : slI (some ⟨z1, 0, none⟩) (recs (eI .i64) [0, 0, 0]) ∈ I0) (h2 : slI (some ⟨z2, 0, none⟩) (recs (eI .i64) [0, 0, 0]) ∈ I0) (h3 : slI (some ⟨z3, 0, none⟩) (recs (eI .i64) [0, 0, 0]) ∈ I0)
    (h4 : slI (some ⟨z4, 0, none⟩) (recs eIL [(⟨some ⟨z1, 0, none⟩, 3, [0, 0, 0]⟩ : IL), ⟨some ⟨z2, 0, none⟩, 3, [0, 0, 0]⟩, ⟨some ⟨z3, 0, none⟩, 3, [0, 0, 0]⟩]) ∈ I0) :
    CD Tryz.prog 138 [.slice (some ⟨z4, 0, none⟩) 3 3] X w0 M0 I0 (fun v M I => ∃ (bo b0 b1 b2 : Nat) (l0 l1 l2 : List RE), v = .tuple #[.slice (some ⟨bo, 0, none⟩) 3 3, .int .i64 0] ∧ (qs l0 = [0, 0, 0] ∧ qs l1 = [0, 0, 0] ∧ qs l2 = [0, 0, 0]) ∧
      M = .blk b0 (recs eR l0) 26 :: .blk b1 (recs eR l1) 26 :: .blk b2 (recs eR l2) 26 :: M0 ∧ I = slI (some ⟨bo, 0, none⟩) [.slice (some ⟨b0, 0, none⟩) 3 3, .slice (some ⟨b1, 0, none⟩) 3 3, .slice (some ⟨b2, 0, none⟩) 3 3] :: allR l0 0 :: allR l1 0 :: allR l2 0 :: I0) := by
  refine CD.post (CD_hv (φ := allIL [(⟨some ⟨z1, 0, none⟩, 3, [0, 0, 0]⟩ : IL), ⟨some ⟨z2, 0, none⟩, 3, [0, 0, 0]⟩, ⟨some ⟨z3, 0, none⟩, 3, [0, 0, 0]⟩]) (Hv.il3 h1 h2 h3) (OfO_ok (R := 3) (C := 3) (k0 := 0) rfl (fun r hr => by
    simp only [List.mem_cons, List.not_mem_nil, or_false] at hr
    rcases hr with rfl | rfl | rfl <;> rfl) (by omega) (by omega) (fun r hr x hx => by
    have : x = 0 := by
      have hx0 : x ∈ ([0, 0, 0] : List Int) := by
        simp only [List.mem_cons, List.not_mem_nil, or_false] at hr
        rcases hr with rfl | rfl | rfl <;> exact hx
      simp only [List.mem_cons, List.not_mem_nil, or_false, or_self] at hx0
      exact hx0
    subst this
    decide) (List.Mem.tail _ h4) (List.Mem.head _))) (fun v M I w h hw => ?_)
  obtain ⟨bo, rows, rfl, hl, hc, hF, rfl, rfl⟩ := h
  match rows, hl with
  | [⟨b0, l0⟩, ⟨b1, l1⟩, ⟨b2, l2⟩], _ =>
    have e0 : l0.length = 3 := hc ⟨b0, l0⟩ (List.Mem.head _)
    have e1 : l1.length = 3 := hc ⟨b1, l1⟩ (List.Mem.tail _ (List.Mem.head _))
    have e2 : l2.length = 3 := hc ⟨b2, l2⟩ (List.Mem.tail _ (List.Mem.tail _ (List.Mem.head _)))
    have hF : [qs l0, qs l1, qs l2] = [[((0 : Int) : Rat), ((0 : Int) : Rat), ((0 : Int) : Rat)], [((0 : Int) : Rat), ((0 : Int) : Rat), ((0 : Int) : Rat)], [((0 : Int) : Rat), ((0 : Int) : Rat), ((0 : Int) : Rat)]] := hF
    simp only [List.cons.injEq, and_true] at hF
    have hw2 := hw.freezeB (b := bo) .here
    have hh : recs eM [(⟨b0, l0⟩ : MR), ⟨b1, l1⟩, ⟨b2, l2⟩] = [.slice (some ⟨b0, 0, none⟩) 3 3, .slice (some ⟨b1, 0, none⟩) 3 3, .slice (some ⟨b2, 0, none⟩) 3 3] := by
      show [Value.slice (some ⟨b0, 0, none⟩) l0.length l0.length, Value.slice (some ⟨b1, 0, none⟩) l1.length l1.length, Value.slice (some ⟨b2, 0, none⟩) l2.length l2.length] = _
      rw [e0, e1, e2]
    rw [hh] at hw2
    refine ⟨_, _, ⟨bo, b0, b1, b2, l0, l1, l2, rfl, hF, rfl, rfl⟩, ?_⟩
    have a0 : Mem X w0 _ _ w := hw2.add (φ := allR l2 0) ⟨fun e he => ((hw2.imm _ (List.Mem.tail _ (List.Mem.head _))).2 : AllM _ _ _ w).go ⟨b2, l2⟩ (List.Mem.tail _ (List.Mem.tail _ (List.Mem.head _))) e he⟩
    have a1 : Mem X w0 _ _ w := a0.add (φ := allR l1 0) ⟨fun e he => ((hw2.imm _ (List.Mem.tail _ (List.Mem.head _))).2 : AllM _ _ _ w).go ⟨b1, l1⟩ (List.Mem.tail _ (List.Mem.head _)) e he⟩
    have a2 : Mem X w0 _ _ w := a1.add (φ := allR l0 0) ⟨fun e he => ((hw2.imm _ (List.Mem.tail _ (List.Mem.head _))).2 : AllM _ _ _ w).go ⟨b0, l0⟩ (List.Mem.head _) e he⟩
    exact a2.weak SubP.refl (.of fun φ hφ => by
      simp only [List.mem_cons] at hφ ⊢
      rcases hφ with h | h | h | h | h
      · exact .inr (.inr (.inr (.inl h)))
      · exact .inl h
      · exact .inr (.inl h)
      · exact .inr (.inr (.inl h))
      · exact .inr (.inr (.inr (.inr (.inr (.inr h))))))
set_option maxRecDepth 100000 in
set_option maxHeartbeats 4000000 in
theorem Least_ex {r s : YE} {q qw : Option Addr} {c cw : Nat} (hex : ExR r s) (hr : isY r 2 ∈ I0) (hs : isY s 2 ∈ I0) (hq : slI q (recs eY [r, s]) ∈ I0) (hqw : slI qw (recs (eI .i64) [1, 1]) ∈ I0) :
    CD Tryz.prog 89 [.slice q 2 c, .slice qw 2 cw] X w0 M0 I0 (fun v M I => M0 = M ∧ ∃ (p : TE) (e : RE), v = .tuple #[tv p, rv e, .int .i64 0] ∧ p.v = ⟨0, 0, 1⟩ ∧ e.q = 2 ∧ I = isR e 10000 :: isT p 10000 :: I0) := by
  have hC := fun M0 I0 h1 h2 h3 => Check2X_ok (X := X) (w0 := w0) (M0 := M0) (I0 := I0) (q := q) (c := c) (k := 2) (r := r) (s := s) (by decide) (by rw [kal_dot hex.1.1]; decide) (by rw [kal_dot hex.2.1]; decide) h1 h2 h3
  have hH := fun M0 I0 h1 => hasI_ok (X := X) (w0 := w0) (M0 := M0) (I0 := I0) (p := qw) (a := [1, 1]) (c := cw) (g := 177) (fs := #[]) (cs := #[]) (fun x => x < 1 ∨ 1048576 < x) (by decide) h1 (fun i hi => Least1_ok)
  rw [B_false (by rintro ⟨x, hx, h⟩; simp only [List.mem_cons, List.not_mem_nil, or_false] at hx; omega)] at hH
  have hW := fun M0 I0 => Whole_ok (X := X) (w0 := w0) (M0 := M0) (I0 := I0) (x := 0) (by decide) (k := 0) (by decide)
  have hW1 := fun M0 I0 => Whole_ok (X := X) (w0 := w0) (M0 := M0) (I0 := I0) (x := 1) (by decide) (k := 0) (by decide)
  obtain ⟨ms, hms⟩ : ∃ ms, ms = [r, s] := ⟨_, rfl⟩
  have hml : ms.length = 2 := by rw [hms]; rfl
  have hqm : slI q (recs eY ms) ∈ I0 := hms ▸ hq
  obtain ⟨ws, hws⟩ : ∃ ws : List Int, ws = [1, 1] := ⟨_, rfl⟩
  have hwl : ws.length = 2 := by rw [hws]; rfl
  have hqm2 : slI qw (recs (eI .i64) ws) ∈ I0 := hws ▸ hqw
  have hwg : ∀ k : Nat, k < 2 → gt ws (k : Int) = 1 := fun k hk => by
    have : k = 0 ∨ k = 1 := by omega
    rcases this with rfl | rfl <;> (rw [hws]; rfl)
  have hexm := fun (k : Nat) (hk : k < 2) => hex.at hk
  have hym := fun (k : Nat) (hk : k < 2) (I : List Imm) (h1 : isY r 2 ∈ I) (h2 : isY s 2 ∈ I) => Hv.yat (k := k) h1 h2 hk
  rw [← hms] at hexm hym
  refine enterD2 Tryz.func89 rfl Tryz.ntmps89 rfl ?_
  refine TD_seq ?_
  refine TD_region ?_
  (refine RD_alloc rfl rfl ?_; intro b4; refine ⟨okF, ?_⟩)
  (refine RD_alloc rfl rfl ?_; intro b5; refine ⟨okF, ?_⟩)
  repeat (first | (refine wXh ?_) | (apply RD_ldZIB; exact vwF; exact rfl; exact memF; (first | exact AtsZ.y0 | exact AtsZ.y1 | exact AtsZ.w0 | exact AtsZ.w1); exact rfl; exact rfl))
  repeat (refine wXh ?_)
  (refine RD_callS rfl (hC _ _ (Hv.mem memF) (Hv.mem memF) memF) rfl rfl ?_; rintro _ _ _ ⟨rfl, rfl, rfl⟩; refine ⟨okF, ?_⟩)
  repeat (first | (refine wXh ?_) | (apply RD_ldZIB; exact vwF; exact rfl; exact memF; (first | exact AtsZ.y0 | exact AtsZ.y1 | exact AtsZ.w0 | exact AtsZ.w1); exact rfl; exact rfl))
  repeat (refine wXh ?_)
  (refine RD_callS rfl (hH _ _ memF) rfl rfl ?_; rintro _ _ _ ⟨rfl, rfl, rfl⟩; refine ⟨okF, ?_⟩)
  repeat (first | (refine wXh ?_) | (apply RD_ldZIB; exact vwF; exact rfl; exact memF; (first | exact AtsZ.y0 | exact AtsZ.y1 | exact AtsZ.w0 | exact AtsZ.w1); exact rfl; exact rfl))
  repeat (refine wXh ?_)
  (refine RD_vals (cs := recs (eI .i64) [0, 0, 0]) ([.int .i64 0, .int .i64 0, .int .i64 0]) rfl rfl (by intro v hv; repeat (first | exact absurd hv (List.not_mem_nil) | (rcases List.mem_cons.1 hv with rfl | hv; · rfl))) (by omega) rfl rfl rfl ?_; intro z1; refine ⟨okF, ?_⟩)
  refine RD_freezeB .here ?_
  (refine RD_vals (cs := recs (eI .i64) [0, 0, 0]) ([.int .i64 0, .int .i64 0, .int .i64 0]) rfl rfl (by intro v hv; repeat (first | exact absurd hv (List.not_mem_nil) | (rcases List.mem_cons.1 hv with rfl | hv; · rfl))) (by omega) rfl rfl rfl ?_; intro z2; refine ⟨okF, ?_⟩)
  refine RD_freezeB .here ?_
  (refine RD_vals (cs := recs (eI .i64) [0, 0, 0]) ([.int .i64 0, .int .i64 0, .int .i64 0]) rfl rfl (by intro v hv; repeat (first | exact absurd hv (List.not_mem_nil) | (rcases List.mem_cons.1 hv with rfl | hv; · rfl))) (by omega) rfl rfl rfl ?_; intro z3; refine ⟨okF, ?_⟩)
  refine RD_freezeB .here ?_
  (refine RD_vals (cs := recs eIL [(⟨some ⟨z1, 0, none⟩, 3, [0, 0, 0]⟩ : IL), ⟨some ⟨z2, 0, none⟩, 3, [0, 0, 0]⟩, ⟨some ⟨z3, 0, none⟩, 3, [0, 0, 0]⟩]) ([.slice (some ⟨z1, 0, none⟩) 3 3, .slice (some ⟨z2, 0, none⟩) 3 3, .slice (some ⟨z3, 0, none⟩) 3 3]) rfl rfl (by intro v hv; repeat (first | exact absurd hv (List.not_mem_nil) | (rcases List.mem_cons.1 hv with rfl | hv; · rfl))) (by omega) rfl rfl rfl ?_; intro z4; refine ⟨okF, ?_⟩)
  refine RD_freezeB .here ?_
  (refine RD_callS rfl (Of0_ok (z1 := z1) (z2 := z2) (z3 := z3) (z4 := z4) memF memF memF memF) rfl rfl ?_; rintro _ _ _ ⟨bo, b0, b1, b2, l0, l1, l2, rfl, ⟨hl0, hl1, hl2⟩, rfl, rfl⟩; refine ⟨okF, ?_⟩)
  repeat (first | (refine wXh ?_) | (apply RD_ldZIB; exact vwF; exact rfl; exact memF; (first | exact AtsZ.y0 | exact AtsZ.y1 | exact AtsZ.w0 | exact AtsZ.w1); exact rfl; exact rfl))
  repeat (refine wXh ?_)
  (refine RD_callS rfl (hW _ _) rfl rfl ?_; rintro _ _ _ ⟨rfl, r0, rfl, hr0, rfl⟩; refine ⟨okF, ?_⟩)
  repeat (first | (refine wXh ?_) | (apply RD_ldZIB; exact vwF; exact rfl; exact memF; (first | exact AtsZ.y0 | exact AtsZ.y1 | exact AtsZ.w0 | exact AtsZ.w1); exact rfl; exact rfl))
  repeat (refine wXh ?_)
  (refine RD_callS rfl (hW _ _) rfl rfl ?_; rintro _ _ _ ⟨rfl, r1, rfl, hr1, rfl⟩; refine ⟨okF, ?_⟩)
  repeat (first | (refine wXh ?_) | (apply RD_ldZIB; exact vwF; exact rfl; exact memF; (first | exact AtsZ.y0 | exact AtsZ.y1 | exact AtsZ.w0 | exact AtsZ.w1); exact rfl; exact rfl))
  repeat (refine wXh ?_)
  (refine RD_callS rfl (hW _ _) rfl rfl ?_; rintro _ _ _ ⟨rfl, r2, rfl, hr2, rfl⟩; refine ⟨okF, ?_⟩)
  repeat (first | (refine wXh ?_) | (apply RD_ldZIB; exact vwF; exact rfl; exact memF; (first | exact AtsZ.y0 | exact AtsZ.y1 | exact AtsZ.w0 | exact AtsZ.w1); exact rfl; exact rfl))
  repeat (refine wXh ?_)
  (refine RD_c rfl (fun _ => Const_arrC (vals := [rv r0, rv r1, rv r2]) (cells := recs eR [r0, r1, r2]) rfl ?hpl rfl ?hz) rfl rfl ?_; (case hpl => exact (by intro v hv; repeat (first | exact absurd hv (List.not_mem_nil) | (rcases List.mem_cons.1 hv with rfl | hv; · rfl)))); (case hz => rfl))
  repeat (first | (refine wXh ?_) | (apply RD_ldZIB; exact vwF; exact rfl; exact memF; (first | exact AtsZ.y0 | exact AtsZ.y1 | exact AtsZ.w0 | exact AtsZ.w1); exact rfl; exact rfl))
  repeat (refine wXh ?_)
  (refine RD_alloc rfl rfl ?_; intro b10; refine ⟨okF, ?_⟩)
  repeat (first | (refine wXh ?_) | (apply RD_ldZIB; exact vwF; exact rfl; exact memF; (first | exact AtsZ.y0 | exact AtsZ.y1 | exact AtsZ.w0 | exact AtsZ.w1); exact rfl; exact rfl))
  repeat (refine wXh ?_)
  clear hC hH hW hq hqw
  refine TD_hv (φ := allR [r0, r1, r2] 8) ⟨fun X w hw => ⟨fun e he => ?_⟩⟩ ?_
  · simp only [List.mem_cons, List.not_mem_nil, or_false] at he
    rcases he with rfl | rfl | rfl
    · exact (hw _ (by exact memF) : IsR _ 0 X w).mono (by omega)
    · exact (hw _ (by exact memF) : IsR _ 0 X w).mono (by omega)
    · exact (hw _ (by exact memF) : IsR _ 0 X w).mono (by omega)
  refine TD_hv (φ := allR l0 8) (Hv.allMono (k := 0) memF (by omega)) ?_
  refine TD_hv (φ := allR l1 8) (Hv.allMono (k := 0) memF (by omega)) ?_
  refine TD_hv (φ := allR l2 8) (Hv.allMono (k := 0) memF (by omega)) ?_
  have hst0 : LSt l0 l1 l2 [r0, r1, r2] 0 := ⟨⟨hl0, hl1⟩, hl2, by show [r0.q, r1.q, r2.q] = _; rw [hr0, hr1, hr2]; rfl⟩
  refine TD_loop [0, 1, 4, 5, 8, 10, 67, 68] rfl (fun k G M I => ∃ (kk : Nat) (l0 l1 l2 rs : List RE), kk ≤ 2 ∧ k = 2 - kk ∧ LSt l0 l1 l2 rs (9 * kk) ∧ G = [(69, .int .i64 kk)] ∧ M = .blk b10 (recs eR rs) 27 :: .blk b0 (recs eR l0) 26 :: .blk b1 (recs eR l1) 26 :: .blk b2 (recs eR l2) 26 :: .blk b5 zRv 26 :: .blk b4 zTv 27 :: M0 ∧ I = allR rs 8 :: allR l0 8 :: allR l1 8 :: allR l2 8 :: slI (some ⟨bo, 0, none⟩) [.slice (some ⟨b0, 0, none⟩) 3 3, .slice (some ⟨b1, 0, none⟩) 3 3, .slice (some ⟨b2, 0, none⟩) 3 3] :: I0) (2) _ _ _ subG subF incF (⟨0, l0, l1, l2, [r0, r1, r2], by omega, rfl, hst0, rfl, rfl, rfl⟩) ?_
  clear hst0 hl0 hl1 hl2 hr0 hr1 hr2
  rintro kk G M I ⟨ki, l0, l1, l2, rs, hki, rfl, hst, rfl, rfl, rfl⟩
  by_cases hk2 : ki < 2
  · obtain ⟨hal, hor⟩ := hexm ki hk2
    have hyI := hym ki hk2
    have hdot := kal_dot hal
    obtain ⟨y, hy⟩ : ∃ y, gt ms (ki : Int) = y := ⟨_, rfl⟩
    rw [hy] at hal hor hyI hdot
    repeat (first | (refine wXh ?_) | (apply RD_ldZIB; exact vwF; exact rfl; exact memF; (first | exact AtsZ.y0 | exact AtsZ.y1 | exact AtsZ.w0 | exact AtsZ.w1); exact rfl; exact rfl))
    repeat (refine wXh ?_)
    rw [hy]
    (refine RD_alloc rfl rfl ?_; intro b12; refine ⟨okF, ?_⟩)
    repeat (first | (refine wXh ?_) | (apply RD_ldZIB; exact vwF; exact rfl; exact memF; (first | exact AtsZ.y0 | exact AtsZ.y1 | exact AtsZ.w0 | exact AtsZ.w1); exact rfl; exact rfl))
    repeat (refine wXh ?_)
    rw [hwg ki hk2]
    (refine RD_callS rfl (hW1 _ _) rfl rfl ?_; rintro _ _ _ ⟨rfl, e13, rfl, he13, rfl⟩; refine ⟨okF, ?_⟩)
    repeat (first | (refine wXh ?_) | (apply RD_ldZIB; exact vwF; exact rfl; exact memF; (first | exact AtsZ.y0 | exact AtsZ.y1 | exact AtsZ.w0 | exact AtsZ.w1); exact rfl; exact rfl))
    repeat (refine wXh ?_)
    (refine RD_alloc rfl rfl ?_; intro b13; refine ⟨okF, ?_⟩)
    refine RD_freezeB (b := b12) remF ?_
    refine RD_hv (φ := isY y 2) (hyI _ memF memF) ?_
    refine RD_hv (φ := isT y.a 2) (Hv.ya (Hv.mem (φ := isY y 2) memF)) ?_
    repeat (first | (refine wXh ?_) | (apply RD_ldZIB; exact vwF; exact rfl; exact memF; (first | exact AtsZ.y0 | exact AtsZ.y1 | exact AtsZ.w0 | exact AtsZ.w1); exact rfl; exact rfl))
    repeat (refine wXh ?_)
    (refine RD_callS rfl (iDot_ok (a := y.a) (b := y.a) (k := 2) (m := 2) (by decide) (Hv.mem memF) (Hv.mem memF)) rfl rfl ?_; rintro _ _ _ ⟨rfl, e14, rfl, he14, rfl⟩; refine ⟨okF, ?_⟩)
    rw [hdot] at he14
    repeat (first | (refine wXh ?_) | (apply RD_ldZIB; exact vwF; exact rfl; exact memF; (first | exact AtsZ.y0 | exact AtsZ.y1 | exact AtsZ.w0 | exact AtsZ.w1); exact rfl; exact rfl))
    repeat (refine wXh ?_)
    (refine RD_alloc rfl rfl ?_; intro b14; refine ⟨okF, ?_⟩)
    repeat (first | (refine wXh ?_) | (apply RD_ldZIB; exact vwF; exact rfl; exact memF; (first | exact AtsZ.y0 | exact AtsZ.y1 | exact AtsZ.w0 | exact AtsZ.w1); exact rfl; exact rfl))
    repeat (refine wXh ?_)
    have hn19 : 9 * ki + 9 < 19 := by omega
    refine TD_loop [0, 1, 4, 5, 8, 10, 12, 13, 14, 67, 68, 69] rfl (fun k G M I => ∃ (i : Nat) (l0 l1 l2 rs : List RE), i ≤ 3 ∧ k = 3 - i ∧ LSt l0 l1 l2 rs (9 * ki + 3 * i) ∧ G = [(84, .int .i64 i)] ∧ M = .blk b10 (recs eR rs) 27 :: .blk b0 (recs eR l0) 26 :: .blk b1 (recs eR l1) 26 :: .blk b2 (recs eR l2) 26 :: .blk b13 (eR e13) 26 :: .blk b14 (eR e14) 26 :: .blk b5 zRv 26 :: .blk b4 zTv 27 :: M0 ∧ I = allR rs 8 :: allR l0 8 :: allR l1 8 :: allR l2 8 :: isR e13 0 :: isR e14 15 :: isT y.a 2 :: isY y 2 :: slI (some ⟨b12, 0, none⟩) (recs eT [y.o, y.a]) :: slI (some ⟨bo, 0, none⟩) [.slice (some ⟨b0, 0, none⟩) 3 3, .slice (some ⟨b1, 0, none⟩) 3 3, .slice (some ⟨b2, 0, none⟩) 3 3] :: I0) (3) _ _ _ subG subF incF (⟨0, l0, l1, l2, rs, by omega, rfl, hst, rfl, rfl, rfl⟩) ?_
    clear hst l0 l1 l2 rs
    rintro kk G M I ⟨i, l0, l1, l2, rs, hi, rfl, hst, rfl, rfl, rfl⟩
    by_cases hi3 : i < 3
    · have hn19i : 9 * ki + 3 * i + 3 < 19 := by omega
      repeat (first | (refine wXh ?_) | (apply RD_ldZIB; exact vwF; exact rfl; exact memF; (first | exact AtsZ.y0 | exact AtsZ.y1 | exact AtsZ.w0 | exact AtsZ.w1); exact rfl; exact rfl))
      repeat (refine wXh ?_)
      refine TD_loop [0, 1, 4, 5, 8, 10, 12, 13, 14, 15, 67, 68, 69, 84] rfl (fun k G M I => ∃ (j : Nat) (l0 l1 l2 rs : List RE), j ≤ 3 ∧ k = 3 - j ∧ LSt l0 l1 l2 rs (9 * ki + 3 * i + j) ∧ G = [(87, .int .i64 j)] ∧ M = .blk b10 (recs eR rs) 27 :: .blk b0 (recs eR l0) 26 :: .blk b1 (recs eR l1) 26 :: .blk b2 (recs eR l2) 26 :: .blk b13 (eR e13) 26 :: .blk b14 (eR e14) 26 :: .blk b5 zRv 26 :: .blk b4 zTv 27 :: M0 ∧ I = allR rs 8 :: allR l0 8 :: allR l1 8 :: allR l2 8 :: isR e13 0 :: isR e14 15 :: isT y.a 2 :: isY y 2 :: slI (some ⟨b12, 0, none⟩) (recs eT [y.o, y.a]) :: slI (some ⟨bo, 0, none⟩) [.slice (some ⟨b0, 0, none⟩) 3 3, .slice (some ⟨b1, 0, none⟩) 3 3, .slice (some ⟨b2, 0, none⟩) 3 3] :: I0) (3) _ _ _ subG subF incF (⟨0, l0, l1, l2, rs, by omega, rfl, hst, rfl, rfl, rfl⟩) ?_
      clear hst l0 l1 l2 rs
      rintro kk G M I ⟨j, l0, l1, l2, rs, hj, rfl, hst, rfl, rfl, rfl⟩
      obtain ⟨⟨k0, k1⟩, k2, kr⟩ := hst.len (by omega)
      by_cases hj3 : j < 3
      · repeat (refine wXh ?_)
        refine TD_cutT (fun G M I => ∃ (b17 : Nat) (e : RE), e.q = -((gt [y.a.x, y.a.y, y.a.z] (i : Int)).q * (gt [y.a.x, y.a.y, y.a.z] (j : Int)).q / 1) ∧ G = [(0, .slice q 2 c), (1, .slice qw 2 cw), (4, .pointer (some ⟨b4, 0, none⟩)), (5, .pointer (some ⟨b5, 0, none⟩)), (8, .slice (some ⟨bo, 0, none⟩) 3 3), (10, .pointer (some ⟨b10, 0, none⟩)), (12, .pointer (some ⟨b12, 0, none⟩)), (13, .pointer (some ⟨b13, 0, none⟩)), (14, .pointer (some ⟨b14, 0, none⟩)), (15, .int .i64 i), (16, .int .i64 j), (17, .pointer (some ⟨b17, 0, none⟩)), (67, .slice q 2 c), (68, .int .i64 (2 : Nat)), (69, .int .i64 ki), (84, .int .i64 i), (87, .int .i64 j)] ∧ M = .blk b17 (eR e) 26 :: .blk b10 (recs eR rs) 27 :: .blk b0 (recs eR l0) 26 :: .blk b1 (recs eR l1) 26 :: .blk b2 (recs eR l2) 26 :: .blk b13 (eR e13) 26 :: .blk b14 (eR e14) 26 :: .blk b5 zRv 26 :: .blk b4 zTv 27 :: M0 ∧ I = isR e 19 :: allR rs 8 :: allR l0 8 :: allR l1 8 :: allR l2 8 :: isR e13 0 :: isR e14 15 :: isT y.a 2 :: isY y 2 :: slI (some ⟨b12, 0, none⟩) (recs eT [y.o, y.a]) :: slI (some ⟨bo, 0, none⟩) [.slice (some ⟨b0, 0, none⟩) 3 3, .slice (some ⟨b1, 0, none⟩) 3 3, .slice (some ⟨b2, 0, none⟩) 3 3] :: I0) ?_ ?_
        · ((repeat refine TD_seq ?_); refine TD_rest (.blk b10 (recs eR rs) 27 :: .blk b0 (recs eR l0) 26 :: .blk b1 (recs eR l1) 26 :: .blk b2 (recs eR l2) 26 :: .blk b13 (eR e13) 26 :: .blk b14 (eR e14) 26 :: .blk b5 zRv 26 :: .blk b4 zTv 27 :: M0) (allR rs 8 :: allR l0 8 :: allR l1 8 :: allR l2 8 :: isR e13 0 :: isR e14 15 :: isT y.a 2 :: isY y 2 :: slI (some ⟨b12, 0, none⟩) (recs eT [y.o, y.a]) :: slI (some ⟨bo, 0, none⟩) [.slice (some ⟨b0, 0, none⟩) 3 3, .slice (some ⟨b1, 0, none⟩) 3 3, .slice (some ⟨b2, 0, none⟩) 3 3] :: I0) mixed ?_)
          refine ND_restPre (fuel := 5) (listed' := #[true, true, true, true, true, true, true, true, false, true, false, false, false, false]) [0, 1, 2, 3, 4, 5, 6, 7, 9] [4, 4, 4, 3, 4, 4, 4, 3, 3] subF incF (by kernel_rfl) (by kernel_rfl) rfl rfl ?_
          repeat (refine wXh ?_)
          (apply RD_ldZIB; exact vwF; exact rfl; exact memF; exact AtsZ.y1j (o := y.o) (a := y.a) (j := (i : Int)) (by omega); exact rfl; exact rfl)
          repeat (refine wXh ?_)
          (apply RD_ldZIB; exact vwF; exact rfl; exact memF; exact AtsZ.y1j (o := y.o) (a := y.a) (j := (j : Int)) (by omega); exact rfl; exact rfl)
          repeat (refine wXh ?_)
          refine ND_restFork (fuel := 4) (i := 8) (j := 12) (by kernel_rfl) ?_ ?_
          · (refine RD_callS rfl (QMul_ok (a := gt [y.a.x, y.a.y, y.a.z] (i : Int)) (b := gt [y.a.x, y.a.y, y.a.z] (j : Int)) (k := 2) (m := 2) (by decide) (Hv.tat (Hv.mem (φ := isT y.a 2) memF) (by omega)) (Hv.tat (Hv.mem (φ := isT y.a 2) memF) (by omega))) rfl rfl ?_; rintro _ _ _ ⟨rfl, f1, rfl, hf1, rfl⟩; refine ⟨okF, ?_⟩)
            refine RD_nil ?_
            repeat (refine wXh ?_)
            refine ND_restFork (fuel := 3) (i := 10) (j := 12) (by kernel_rfl) ?_ ?_
            · (refine RD_callS rfl (iOver_ok (a := f1) (b := e14) (k := 4) (m := 15) (by decide) (by rw [he14]; decide) (Hv.mem memF) (Hv.mem memF)) rfl rfl ?_; rintro _ _ _ ⟨rfl, f2, rfl, hf2, rfl⟩; refine ⟨okF, ?_⟩)
              refine RD_nil ?_
              repeat (refine wXh ?_)
              refine ND_restFork (fuel := 2) (i := 11) (j := 12) (by kernel_rfl) ?_ ?_
              · (refine RD_callS rfl (QNeg_ok (e := f2) (k := 19) (by decide) (Hv.mem memF)) rfl rfl ?_; rintro _ _ _ ⟨rfl, f3, rfl, hf3, rfl⟩; refine ⟨okF, ?_⟩)
                refine RD_nil ?_
                refine ND_restEnd [12, 13] [0, 0] subF incF (by kernel_rfl) (by kernel_rfl) rfl rfl ?_
                repeat (refine wXh ?_)
                (refine RD_alloc rfl rfl ?_; intro b17; refine ⟨okF, ?_⟩)
                repeat (refine wXh ?_)
                refine ND_cut _ _ _ subG subF incF ⟨b17, f3, by rw [hf3, hf2, hf1, he14], rfl, rfl, rfl⟩
              · (refine RD_alloc rfl rfl ?_; intro b17; refine ⟨okF, ?_⟩)
                refine RD_nil ?_
                refine ND_restEnd [11, 13] [0, 0] subF incF (by kernel_rfl) (by kernel_rfl) rfl rfl ?_
                repeat (refine wXh ?_)
                (refine RD_callS rfl (QNeg_ok (e := f2) (k := 19) (by decide) (Hv.mem memF)) rfl rfl ?_; rintro _ _ _ ⟨rfl, f3, rfl, hf3, rfl⟩; refine ⟨okF, ?_⟩)
                repeat (refine wXh ?_)
                refine ND_cut _ _ _ subG subF incF ⟨b17, f3, by rw [hf3, hf2, hf1, he14], rfl, rfl, rfl⟩
            · (refine RD_alloc rfl rfl ?_; intro b17; refine ⟨okF, ?_⟩)
              refine RD_nil ?_
              refine ND_restEnd [10, 11, 13] [0, 0, 0] subF incF (by kernel_rfl) (by kernel_rfl) rfl rfl ?_
              repeat (refine wXh ?_)
              (refine RD_callS rfl (iOver_ok (a := f1) (b := e14) (k := 4) (m := 15) (by decide) (by rw [he14]; decide) (Hv.mem memF) (Hv.mem memF)) rfl rfl ?_; rintro _ _ _ ⟨rfl, f2, rfl, hf2, rfl⟩; refine ⟨okF, ?_⟩)
              repeat (refine wXh ?_)
              (refine RD_callS rfl (QNeg_ok (e := f2) (k := 19) (by decide) (Hv.mem memF)) rfl rfl ?_; rintro _ _ _ ⟨rfl, f3, rfl, hf3, rfl⟩; refine ⟨okF, ?_⟩)
              repeat (refine wXh ?_)
              refine ND_cut _ _ _ subG subF incF ⟨b17, f3, by rw [hf3, hf2, hf1, he14], rfl, rfl, rfl⟩
          · (refine RD_alloc rfl rfl ?_; intro b17; refine ⟨okF, ?_⟩)
            refine RD_nil ?_
            refine ND_restEnd [8, 10, 11, 13] [0, 0, 0, 0] subF incF (by kernel_rfl) (by kernel_rfl) rfl rfl ?_
            repeat (refine wXh ?_)
            (refine RD_callS rfl (QMul_ok (a := gt [y.a.x, y.a.y, y.a.z] (i : Int)) (b := gt [y.a.x, y.a.y, y.a.z] (j : Int)) (k := 2) (m := 2) (by decide) (Hv.tat (Hv.mem (φ := isT y.a 2) memF) (by omega)) (Hv.tat (Hv.mem (φ := isT y.a 2) memF) (by omega))) rfl rfl ?_; rintro _ _ _ ⟨rfl, f1, rfl, hf1, rfl⟩; refine ⟨okF, ?_⟩)
            repeat (refine wXh ?_)
            (refine RD_callS rfl (iOver_ok (a := f1) (b := e14) (k := 4) (m := 15) (by decide) (by rw [he14]; decide) (Hv.mem memF) (Hv.mem memF)) rfl rfl ?_; rintro _ _ _ ⟨rfl, f2, rfl, hf2, rfl⟩; refine ⟨okF, ?_⟩)
            repeat (refine wXh ?_)
            (refine RD_callS rfl (QNeg_ok (e := f2) (k := 19) (by decide) (Hv.mem memF)) rfl rfl ?_; rintro _ _ _ ⟨rfl, f3, rfl, hf3, rfl⟩; refine ⟨okF, ?_⟩)
            repeat (refine wXh ?_)
            refine ND_cut _ _ _ subG subF incF ⟨b17, f3, by rw [hf3, hf2, hf1, he14], rfl, rfl, rfl⟩
        · rintro G M I ⟨b17, e, he, rfl, rfl, rfl⟩
          repeat (refine wXh ?_)
          refine TD_cutT (fun G M I => ∃ (e2 : RE), e2.q = (if i = j then e.q + 1 else e.q) ∧ G = [(0, .slice q 2 c), (1, .slice qw 2 cw), (4, .pointer (some ⟨b4, 0, none⟩)), (5, .pointer (some ⟨b5, 0, none⟩)), (8, .slice (some ⟨bo, 0, none⟩) 3 3), (10, .pointer (some ⟨b10, 0, none⟩)), (12, .pointer (some ⟨b12, 0, none⟩)), (13, .pointer (some ⟨b13, 0, none⟩)), (14, .pointer (some ⟨b14, 0, none⟩)), (15, .int .i64 i), (16, .int .i64 j), (17, .pointer (some ⟨b17, 0, none⟩)), (67, .slice q 2 c), (68, .int .i64 (2 : Nat)), (69, .int .i64 ki), (84, .int .i64 i), (87, .int .i64 j)] ∧ M = .blk b17 (eR e2) 26 :: .blk b10 (recs eR rs) 27 :: .blk b0 (recs eR l0) 26 :: .blk b1 (recs eR l1) 26 :: .blk b2 (recs eR l2) 26 :: .blk b13 (eR e13) 26 :: .blk b14 (eR e14) 26 :: .blk b5 zRv 26 :: .blk b4 zTv 27 :: M0 ∧ I = isR e2 20 :: allR rs 8 :: allR l0 8 :: allR l1 8 :: allR l2 8 :: isR e13 0 :: isR e14 15 :: isT y.a 2 :: isY y 2 :: slI (some ⟨b12, 0, none⟩) (recs eT [y.o, y.a]) :: slI (some ⟨bo, 0, none⟩) [.slice (some ⟨b0, 0, none⟩) 3 3, .slice (some ⟨b1, 0, none⟩) 3 3, .slice (some ⟨b2, 0, none⟩) 3 3] :: I0) ?_ ?_
          · by_cases hij : i = j
            · repeat (refine wXh ?_)
              (repeat refine TD_seq ?_); refine TD_drawnJ 2 [0, 1, 2, 3] [1, 0, 0, 0] mixed (by kernel_rfl) ?_
              repeat (refine wXh ?_)
              (refine RD_callS rfl (hW1 _ _) rfl rfl ?_; rintro _ _ _ ⟨rfl, f1, rfl, hf1, rfl⟩; refine ⟨okF, ?_⟩)
              (refine RD_callS rfl (QAdd_ok (a := e) (b := f1) (k := 19) (m := 0) (by decide) (Hv.mem memF) (Hv.mem memF)) rfl rfl ?_; rintro _ _ _ ⟨rfl, f2, rfl, hf2, rfl⟩; refine ⟨okF, ?_⟩)
              repeat (refine wXh ?_)
              refine ND_cut _ _ _ subG subF incF ⟨f2, by rw [if_pos hij, hf2, hf1]; rfl, rfl, rfl, rfl⟩
            · repeat (refine wXh ?_)
              refine ND_hv (φ := isR e 20) (Hv.upR (k := 19) (Hv.mem memF) (by decide)) ?_
              refine ND_cut _ _ _ subG subF incF ⟨e, by rw [if_neg hij], rfl, rfl, rfl⟩
          · rintro G M I ⟨e2, he2, rfl, rfl, rfl⟩
            have hx2 : e2.q = lx (kal ki) 1 1 i j := by
              rw [he2, he, kal_at hal hi3, kal_at hal hj3, lx, Rat.one_mul]
            repeat (refine wXh ?_)
            (refine RD_callS rfl (QMul_ok (a := e13) (b := e2) (k := 0) (m := 20) (by decide) (Hv.mem memF) (Hv.mem memF)) rfl rfl ?_; rintro _ _ _ ⟨rfl, e3, rfl, he3, rfl⟩; refine ⟨okF, ?_⟩)
            have hx3 : e3.q = lx (kal ki) 1 1 i j := by rw [he3, he13, hx2]; exact Rat.one_mul _
            repeat (refine wXh ?_)
            have hn := fun (e f : RE) => hst.next (e := e) (f := f) hi3 hj3 hk2
            have : i = 0 ∨ i = 1 ∨ i = 2 := by omega
            rcases this with rfl | rfl | rfl
            · (repeat refine TD_seq ?_); refine TD_drawnJ 1 [0, 1, 2, 3, 4, 5, 6, 7, 8, 9, 10, 11, 12, 13, 14, 15] [1, 1, 1, 1, 1, 1, 1, 1, 1, 1, 1, 0, 0, 0, 0, 0] mixed (by kernel_rfl) ?_
              repeat (refine wXh ?_)
              (refine RD_callS rfl (QAdd_ok (a := gt l0 (j : Int)) (b := e3) (k := 8) (m := 20) (by decide) (Hv.all (es := l0) (k := 8) memF ⟨by omega, by omega⟩ (Nat.le_refl _)) (Hv.mem memF)) rfl rfl ?_; rintro _ _ _ ⟨rfl, e4, rfl, he4, rfl⟩; refine ⟨okF, ?_⟩)
              repeat (refine wXh ?_)
              (repeat refine TD_seq ?_); refine TD_drawnJ 2 [0, 1, 2, 3, 4, 5, 6, 7, 8, 9, 10, 11, 12] [2, 2, 2, 1, 1, 2, 2, 2, 1, 0, 0, 0, 0] mixed (by kernel_rfl) ?_
              repeat (refine wXh ?_)
              (apply RD_ldZB; exact vwF; exact rfl; exact memF; exact AtsZ.r0 (enc := eR) (sz := 4) (ms := rs) (i := ((0 : Nat) : Int)) ⟨by omega, by omega⟩; exact rfl; exact rfl)
              repeat (refine wXh ?_)
              (apply RD_ldZIB; exact vwF; exact rfl; exact memF; exact AtsZ.y0j (o := y.o) (a := y.a) (j := (j : Int)) (by omega); exact rfl; exact rfl)
              repeat (refine wXh ?_)
              (refine RD_callS rfl (QMul_ok (a := e3) (b := gt [y.o.x, y.o.y, y.o.z] (j : Int)) (k := 20) (m := 2) (by decide) (Hv.mem memF) (Hv.tat (p := y.o) (Hv.yo (Hv.mem (φ := isY y 2) memF)) (by omega))) rfl rfl ?_; rintro _ _ _ ⟨rfl, e5, rfl, he5, rfl⟩; refine ⟨okF, ?_⟩)
              (refine RD_callS rfl (QAdd_ok (a := gt rs ((0 : Nat) : Int)) (b := e5) (k := 8) (m := 22) (by decide) (Hv.all (es := rs) (k := 8) memF ⟨by omega, by omega⟩ (Nat.le_refl _)) (Hv.mem memF)) rfl rfl ?_; rintro _ _ _ ⟨rfl, e6, rfl, he6, rfl⟩; refine ⟨okF, ?_⟩)
              have hnx := hn e4 e6 (by rw [he4, hx3]; rfl) (by rw [he6, he5, hx3, kor_at hor hj3])
              have hnx : LSt (st l0 (j : Int) e4) l1 l2 (st rs ((0 : Nat) : Int) e6) (9 * ki + 3 * 0 + j + 1) := hnx
              have hsm := hnx.sml (by omega)
              repeat' (first | refine TD_seq ?_ | refine TD_region ?_ | refine TD_ret ?_ | refine TD_skip ?_ | refine TD_label ?_ | refine TD_block ?_ | refine TD_exit ?_ | refine ND_then ?_ | refine ND_thenR ?_ | refine ND_thenE ?_ | refine ND_inN ?_ | refine ND_inR ?_ | refine ND_inE ?_ | refine ND_inO rfl ?_ | refine RD_nil ?_ | (refine RD_isGu ?_; first | refine RD_skip rfl rfl rfl ?_ | (refine RD_isEf rfl rfl ?_; refine RD_skipE rfl rfl rfl okF ?_) | refine RD_grdY rfl rfl (by omega) ?_ | refine RD_grdN rfl rfl (by omega) ?_ | refine RD_grd rfl rfl (fun h => ?_) (fun h => ?_) | (fail_if_success (refine RD_isW rfl ?_); refine RD_grdB rfl rfl (fun h => ?_) (fun h => ?_))) | (refine RD_isUn ?_; refine RD_c rfl (fun _ => Const_notB rfl) rfl rfl ?_) | refine RD_c rfl (fun _ => Const_pure rfl) rfl rfl ?_ | (refine RD_isBi ?_; first | refine RD_c rfl (fun _ => Const_add rfl rfl wF) rfl rfl ?_ | refine RD_c rfl (fun _ => Const_sub rfl rfl wF) rfl rfl ?_ | refine RD_c rfl (fun _ => Const_mul rfl rfl wF) rfl rfl ?_ | refine RD_c rfl (fun _ => Const_quo rfl rfl (by omega) qF) rfl rfl ?_ | refine RD_c rfl (fun _ => Const_rem rfl rfl (by omega) rfl) rfl rfl ?_ | refine RD_c rfl (fun _ => Const_half rfl rfl) rfl rfl ?_ | refine RD_c rfl (fun _ => Const_eqBB rfl rfl) rfl rfl ?_ | refine RD_c rfl (fun _ => Const_neBB rfl rfl) rfl rfl ?_ | refine RD_c rfl (fun _ => Const_eqB rfl rfl) rfl rfl ?_ | refine RD_c rfl (fun _ => Const_neB rfl rfl) rfl rfl ?_) | (refine RD_isUn ?_; first | refine RD_c rfl (fun _ => Const_neg rfl wF) rfl rfl ?_) | (refine RD_isCv ?_; first | refine RD_c rfl (fun _ => Const_conv rfl wF) rfl rfl ?_) | (refine RD_isCa ?_; first | refine RD_c rfl (fun _ => Const_len rfl) rfl rfl ?_ | refine RD_c rfl (fun _ => Const_minM rfl rfl) rfl rfl ?_ | refine RD_c rfl (fun _ => Const_maxM rfl rfl) rfl rfl ?_ | refine RD_c rfl (fun _ => Const_min3 rfl rfl rfl) rfl rfl ?_) | (refine RD_isFa ?_; first | refine RD_fldP rfl (by decide) rfl rfl ?_ | refine RD_fld rfl (by decide) rfl rfl ?_) | (refine RD_isIx ?_; first | refine RD_ixB rfl rfl bdI rfl rfl ?_ | refine RD_ixI vwF rfl rfl bdI memF posC rfl rfl ?_ | refine RD_ixR vwF rfl rfl bdI memF posC rfl rfl ?_ | refine RD_c rfl (fun _ => Const_indexA rfl rfl bdI) rfl rfl ?_) | (refine RD_isLd ?_; first | (apply RD_ldZB; exact vwF; exact rfl; (focus ((repeat (first | with_reducible exact List.mem_cons_self | with_reducible assumption | with_reducible refine List.mem_cons_of_mem _ ?_)); done)); exact atY; exact rfl; exact rfl) | (apply RD_ldZIB; exact vwF; exact rfl; (focus ((repeat (first | with_reducible exact List.mem_cons_self | with_reducible assumption | with_reducible refine List.mem_cons_of_mem _ ?_)); done)); exact atY; exact rfl; exact rfl) | (apply RD_ldZI; exact vwF; exact rfl; (focus ((repeat (first | with_reducible exact List.mem_cons_self | with_reducible assumption | with_reducible refine List.mem_cons_of_mem _ ?_)); done)); exact atY; exact rfl; exact rfl) | (apply RD_ldZR; exact vwF; exact rfl; (focus ((repeat (first | with_reducible exact List.mem_cons_self | with_reducible assumption | with_reducible refine List.mem_cons_of_mem _ ?_)); done)); exact atY; exact rfl; exact rfl) | (apply RD_ldB; exact vwF; exact rfl; (focus ((repeat (first | with_reducible exact List.mem_cons_self | with_reducible assumption | with_reducible refine List.mem_cons_of_mem _ ?_)); done)); exact atF; exact rfl; exact rfl) | (apply RD_ldIB; exact vwF; exact rfl; (focus ((repeat (first | with_reducible exact List.mem_cons_self | with_reducible assumption | with_reducible refine List.mem_cons_of_mem _ ?_)); done)); exact atF; exact rfl; exact rfl) | (apply RD_ldI; exact vwF; exact rfl; (focus ((repeat (first | with_reducible exact List.mem_cons_self | with_reducible assumption | with_reducible refine List.mem_cons_of_mem _ ?_)); done)); exact atF; exact rfl; exact rfl) | (apply RD_ldR; exact vwF; exact rfl; (focus ((repeat (first | with_reducible exact List.mem_cons_self | with_reducible assumption | with_reducible refine List.mem_cons_of_mem _ ?_)); done)); exact atF; exact rfl; exact rfl)) | (refine RD_isFd ?_; first | refine RD_c rfl (fun _ => Const_field1 rfl rfl) rfl rfl ?_ | refine RD_c rfl (fun _ => Const_fieldN rfl) rfl rfl ?_) | (refine TD_isCo ?_; first | refine TD_cond_true rfl ?_ | refine TD_cond_false rfl ?_ | refine TD_yes rfl (by omega) ?_ | refine TD_no rfl (by omega) ?_ | refine TD_dec rfl (fun h => ?_) (fun h => ?_) | refine TD_cond rfl (fun h => ?_) (fun h => ?_)))
              refine RD_stN (vs := eR e6) rfl rfl rfl (Ones.one e6) repF (StAts.r0 (enc := eR) (sz := 4) (ms := rs) (i := ((0 : Nat) : Int)) e6 ⟨by omega, by omega⟩ rfl) rfl rfl ⟨okF, ?_⟩
              repeat (refine wXh ?_)
              refine ND_hv (φ := allR (st l0 (j : Int) e4) 8) (Hv.stLS (m := 8 + 20 + 1) memF memF (hsm.1.1 e4 (mem_st (by omega)))) ?_
              refine ND_hv (φ := allR (st rs ((0 : Nat) : Int) e6) 8) (Hv.stLS (m := 8 + 22 + 1) memF memF (hsm.2.2 e6 (mem_st (by omega)))) ?_
              refine ND_again (3 - (j + 1)) _ _ _ (by first | omega | (simp only [List.length_append, List.length_cons, List.length_nil]; omega)) subG subF incF (⟨j + 1, _, _, _, _, by omega, rfl, hnx, rfl, rfl, rfl⟩)
            · (repeat refine TD_seq ?_); refine TD_drawnJ 1 [0, 1, 2, 3, 4, 5, 6, 7, 8, 9, 10, 11, 12, 13, 14, 15] [1, 1, 1, 1, 1, 1, 1, 1, 1, 1, 1, 0, 0, 0, 0, 0] mixed (by kernel_rfl) ?_
              repeat (refine wXh ?_)
              (refine RD_callS rfl (QAdd_ok (a := gt l1 (j : Int)) (b := e3) (k := 8) (m := 20) (by decide) (Hv.all (es := l1) (k := 8) memF ⟨by omega, by omega⟩ (Nat.le_refl _)) (Hv.mem memF)) rfl rfl ?_; rintro _ _ _ ⟨rfl, e4, rfl, he4, rfl⟩; refine ⟨okF, ?_⟩)
              repeat (refine wXh ?_)
              (repeat refine TD_seq ?_); refine TD_drawnJ 2 [0, 1, 2, 3, 4, 5, 6, 7, 8, 9, 10, 11, 12] [2, 2, 2, 1, 1, 2, 2, 2, 1, 0, 0, 0, 0] mixed (by kernel_rfl) ?_
              repeat (refine wXh ?_)
              (apply RD_ldZB; exact vwF; exact rfl; exact memF; exact AtsZ.r0 (enc := eR) (sz := 4) (ms := rs) (i := ((1 : Nat) : Int)) ⟨by omega, by omega⟩; exact rfl; exact rfl)
              repeat (refine wXh ?_)
              (apply RD_ldZIB; exact vwF; exact rfl; exact memF; exact AtsZ.y0j (o := y.o) (a := y.a) (j := (j : Int)) (by omega); exact rfl; exact rfl)
              repeat (refine wXh ?_)
              (refine RD_callS rfl (QMul_ok (a := e3) (b := gt [y.o.x, y.o.y, y.o.z] (j : Int)) (k := 20) (m := 2) (by decide) (Hv.mem memF) (Hv.tat (p := y.o) (Hv.yo (Hv.mem (φ := isY y 2) memF)) (by omega))) rfl rfl ?_; rintro _ _ _ ⟨rfl, e5, rfl, he5, rfl⟩; refine ⟨okF, ?_⟩)
              (refine RD_callS rfl (QAdd_ok (a := gt rs ((1 : Nat) : Int)) (b := e5) (k := 8) (m := 22) (by decide) (Hv.all (es := rs) (k := 8) memF ⟨by omega, by omega⟩ (Nat.le_refl _)) (Hv.mem memF)) rfl rfl ?_; rintro _ _ _ ⟨rfl, e6, rfl, he6, rfl⟩; refine ⟨okF, ?_⟩)
              have hnx := hn e4 e6 (by rw [he4, hx3]; rfl) (by rw [he6, he5, hx3, kor_at hor hj3])
              have hnx : LSt l0 (st l1 (j : Int) e4) l2 (st rs ((1 : Nat) : Int) e6) (9 * ki + 3 * 1 + j + 1) := hnx
              have hsm := hnx.sml (by omega)
              repeat' (first | refine TD_seq ?_ | refine TD_region ?_ | refine TD_ret ?_ | refine TD_skip ?_ | refine TD_label ?_ | refine TD_block ?_ | refine TD_exit ?_ | refine ND_then ?_ | refine ND_thenR ?_ | refine ND_thenE ?_ | refine ND_inN ?_ | refine ND_inR ?_ | refine ND_inE ?_ | refine ND_inO rfl ?_ | refine RD_nil ?_ | (refine RD_isGu ?_; first | refine RD_skip rfl rfl rfl ?_ | (refine RD_isEf rfl rfl ?_; refine RD_skipE rfl rfl rfl okF ?_) | refine RD_grdY rfl rfl (by omega) ?_ | refine RD_grdN rfl rfl (by omega) ?_ | refine RD_grd rfl rfl (fun h => ?_) (fun h => ?_) | (fail_if_success (refine RD_isW rfl ?_); refine RD_grdB rfl rfl (fun h => ?_) (fun h => ?_))) | (refine RD_isUn ?_; refine RD_c rfl (fun _ => Const_notB rfl) rfl rfl ?_) | refine RD_c rfl (fun _ => Const_pure rfl) rfl rfl ?_ | (refine RD_isBi ?_; first | refine RD_c rfl (fun _ => Const_add rfl rfl wF) rfl rfl ?_ | refine RD_c rfl (fun _ => Const_sub rfl rfl wF) rfl rfl ?_ | refine RD_c rfl (fun _ => Const_mul rfl rfl wF) rfl rfl ?_ | refine RD_c rfl (fun _ => Const_quo rfl rfl (by omega) qF) rfl rfl ?_ | refine RD_c rfl (fun _ => Const_rem rfl rfl (by omega) rfl) rfl rfl ?_ | refine RD_c rfl (fun _ => Const_half rfl rfl) rfl rfl ?_ | refine RD_c rfl (fun _ => Const_eqBB rfl rfl) rfl rfl ?_ | refine RD_c rfl (fun _ => Const_neBB rfl rfl) rfl rfl ?_ | refine RD_c rfl (fun _ => Const_eqB rfl rfl) rfl rfl ?_ | refine RD_c rfl (fun _ => Const_neB rfl rfl) rfl rfl ?_) | (refine RD_isUn ?_; first | refine RD_c rfl (fun _ => Const_neg rfl wF) rfl rfl ?_) | (refine RD_isCv ?_; first | refine RD_c rfl (fun _ => Const_conv rfl wF) rfl rfl ?_) | (refine RD_isCa ?_; first | refine RD_c rfl (fun _ => Const_len rfl) rfl rfl ?_ | refine RD_c rfl (fun _ => Const_minM rfl rfl) rfl rfl ?_ | refine RD_c rfl (fun _ => Const_maxM rfl rfl) rfl rfl ?_ | refine RD_c rfl (fun _ => Const_min3 rfl rfl rfl) rfl rfl ?_) | (refine RD_isFa ?_; first | refine RD_fldP rfl (by decide) rfl rfl ?_ | refine RD_fld rfl (by decide) rfl rfl ?_) | (refine RD_isIx ?_; first | refine RD_ixB rfl rfl bdI rfl rfl ?_ | refine RD_ixI vwF rfl rfl bdI memF posC rfl rfl ?_ | refine RD_ixR vwF rfl rfl bdI memF posC rfl rfl ?_ | refine RD_c rfl (fun _ => Const_indexA rfl rfl bdI) rfl rfl ?_) | (refine RD_isLd ?_; first | (apply RD_ldZB; exact vwF; exact rfl; (focus ((repeat (first | with_reducible exact List.mem_cons_self | with_reducible assumption | with_reducible refine List.mem_cons_of_mem _ ?_)); done)); exact atY; exact rfl; exact rfl) | (apply RD_ldZIB; exact vwF; exact rfl; (focus ((repeat (first | with_reducible exact List.mem_cons_self | with_reducible assumption | with_reducible refine List.mem_cons_of_mem _ ?_)); done)); exact atY; exact rfl; exact rfl) | (apply RD_ldZI; exact vwF; exact rfl; (focus ((repeat (first | with_reducible exact List.mem_cons_self | with_reducible assumption | with_reducible refine List.mem_cons_of_mem _ ?_)); done)); exact atY; exact rfl; exact rfl) | (apply RD_ldZR; exact vwF; exact rfl; (focus ((repeat (first | with_reducible exact List.mem_cons_self | with_reducible assumption | with_reducible refine List.mem_cons_of_mem _ ?_)); done)); exact atY; exact rfl; exact rfl) | (apply RD_ldB; exact vwF; exact rfl; (focus ((repeat (first | with_reducible exact List.mem_cons_self | with_reducible assumption | with_reducible refine List.mem_cons_of_mem _ ?_)); done)); exact atF; exact rfl; exact rfl) | (apply RD_ldIB; exact vwF; exact rfl; (focus ((repeat (first | with_reducible exact List.mem_cons_self | with_reducible assumption | with_reducible refine List.mem_cons_of_mem _ ?_)); done)); exact atF; exact rfl; exact rfl) | (apply RD_ldI; exact vwF; exact rfl; (focus ((repeat (first | with_reducible exact List.mem_cons_self | with_reducible assumption | with_reducible refine List.mem_cons_of_mem _ ?_)); done)); exact atF; exact rfl; exact rfl) | (apply RD_ldR; exact vwF; exact rfl; (focus ((repeat (first | with_reducible exact List.mem_cons_self | with_reducible assumption | with_reducible refine List.mem_cons_of_mem _ ?_)); done)); exact atF; exact rfl; exact rfl)) | (refine RD_isFd ?_; first | refine RD_c rfl (fun _ => Const_field1 rfl rfl) rfl rfl ?_ | refine RD_c rfl (fun _ => Const_fieldN rfl) rfl rfl ?_) | (refine TD_isCo ?_; first | refine TD_cond_true rfl ?_ | refine TD_cond_false rfl ?_ | refine TD_yes rfl (by omega) ?_ | refine TD_no rfl (by omega) ?_ | refine TD_dec rfl (fun h => ?_) (fun h => ?_) | refine TD_cond rfl (fun h => ?_) (fun h => ?_)))
              refine RD_stN (vs := eR e6) rfl rfl rfl (Ones.one e6) repF (StAts.r0 (enc := eR) (sz := 4) (ms := rs) (i := ((1 : Nat) : Int)) e6 ⟨by omega, by omega⟩ rfl) rfl rfl ⟨okF, ?_⟩
              repeat (refine wXh ?_)
              refine ND_hv (φ := allR (st l1 (j : Int) e4) 8) (Hv.stLS (m := 8 + 20 + 1) memF memF (hsm.1.2 e4 (mem_st (by omega)))) ?_
              refine ND_hv (φ := allR (st rs ((1 : Nat) : Int) e6) 8) (Hv.stLS (m := 8 + 22 + 1) memF memF (hsm.2.2 e6 (mem_st (by omega)))) ?_
              refine ND_again (3 - (j + 1)) _ _ _ (by first | omega | (simp only [List.length_append, List.length_cons, List.length_nil]; omega)) subG subF incF (⟨j + 1, _, _, _, _, by omega, rfl, hnx, rfl, rfl, rfl⟩)
            · (repeat refine TD_seq ?_); refine TD_drawnJ 1 [0, 1, 2, 3, 4, 5, 6, 7, 8, 9, 10, 11, 12, 13, 14, 15] [1, 1, 1, 1, 1, 1, 1, 1, 1, 1, 1, 0, 0, 0, 0, 0] mixed (by kernel_rfl) ?_
              repeat (refine wXh ?_)
              (refine RD_callS rfl (QAdd_ok (a := gt l2 (j : Int)) (b := e3) (k := 8) (m := 20) (by decide) (Hv.all (es := l2) (k := 8) memF ⟨by omega, by omega⟩ (Nat.le_refl _)) (Hv.mem memF)) rfl rfl ?_; rintro _ _ _ ⟨rfl, e4, rfl, he4, rfl⟩; refine ⟨okF, ?_⟩)
              repeat (refine wXh ?_)
              (repeat refine TD_seq ?_); refine TD_drawnJ 2 [0, 1, 2, 3, 4, 5, 6, 7, 8, 9, 10, 11, 12] [2, 2, 2, 1, 1, 2, 2, 2, 1, 0, 0, 0, 0] mixed (by kernel_rfl) ?_
              repeat (refine wXh ?_)
              (apply RD_ldZB; exact vwF; exact rfl; exact memF; exact AtsZ.r0 (enc := eR) (sz := 4) (ms := rs) (i := ((2 : Nat) : Int)) ⟨by omega, by omega⟩; exact rfl; exact rfl)
              repeat (refine wXh ?_)
              (apply RD_ldZIB; exact vwF; exact rfl; exact memF; exact AtsZ.y0j (o := y.o) (a := y.a) (j := (j : Int)) (by omega); exact rfl; exact rfl)
              repeat (refine wXh ?_)
              (refine RD_callS rfl (QMul_ok (a := e3) (b := gt [y.o.x, y.o.y, y.o.z] (j : Int)) (k := 20) (m := 2) (by decide) (Hv.mem memF) (Hv.tat (p := y.o) (Hv.yo (Hv.mem (φ := isY y 2) memF)) (by omega))) rfl rfl ?_; rintro _ _ _ ⟨rfl, e5, rfl, he5, rfl⟩; refine ⟨okF, ?_⟩)
              (refine RD_callS rfl (QAdd_ok (a := gt rs ((2 : Nat) : Int)) (b := e5) (k := 8) (m := 22) (by decide) (Hv.all (es := rs) (k := 8) memF ⟨by omega, by omega⟩ (Nat.le_refl _)) (Hv.mem memF)) rfl rfl ?_; rintro _ _ _ ⟨rfl, e6, rfl, he6, rfl⟩; refine ⟨okF, ?_⟩)
              have hnx := hn e4 e6 (by rw [he4, hx3]; rfl) (by rw [he6, he5, hx3, kor_at hor hj3])
              have hnx : LSt l0 l1 (st l2 (j : Int) e4) (st rs ((2 : Nat) : Int) e6) (9 * ki + 3 * 2 + j + 1) := hnx
              have hsm := hnx.sml (by omega)
              repeat' (first | refine TD_seq ?_ | refine TD_region ?_ | refine TD_ret ?_ | refine TD_skip ?_ | refine TD_label ?_ | refine TD_block ?_ | refine TD_exit ?_ | refine ND_then ?_ | refine ND_thenR ?_ | refine ND_thenE ?_ | refine ND_inN ?_ | refine ND_inR ?_ | refine ND_inE ?_ | refine ND_inO rfl ?_ | refine RD_nil ?_ | (refine RD_isGu ?_; first | refine RD_skip rfl rfl rfl ?_ | (refine RD_isEf rfl rfl ?_; refine RD_skipE rfl rfl rfl okF ?_) | refine RD_grdY rfl rfl (by omega) ?_ | refine RD_grdN rfl rfl (by omega) ?_ | refine RD_grd rfl rfl (fun h => ?_) (fun h => ?_) | (fail_if_success (refine RD_isW rfl ?_); refine RD_grdB rfl rfl (fun h => ?_) (fun h => ?_))) | (refine RD_isUn ?_; refine RD_c rfl (fun _ => Const_notB rfl) rfl rfl ?_) | refine RD_c rfl (fun _ => Const_pure rfl) rfl rfl ?_ | (refine RD_isBi ?_; first | refine RD_c rfl (fun _ => Const_add rfl rfl wF) rfl rfl ?_ | refine RD_c rfl (fun _ => Const_sub rfl rfl wF) rfl rfl ?_ | refine RD_c rfl (fun _ => Const_mul rfl rfl wF) rfl rfl ?_ | refine RD_c rfl (fun _ => Const_quo rfl rfl (by omega) qF) rfl rfl ?_ | refine RD_c rfl (fun _ => Const_rem rfl rfl (by omega) rfl) rfl rfl ?_ | refine RD_c rfl (fun _ => Const_half rfl rfl) rfl rfl ?_ | refine RD_c rfl (fun _ => Const_eqBB rfl rfl) rfl rfl ?_ | refine RD_c rfl (fun _ => Const_neBB rfl rfl) rfl rfl ?_ | refine RD_c rfl (fun _ => Const_eqB rfl rfl) rfl rfl ?_ | refine RD_c rfl (fun _ => Const_neB rfl rfl) rfl rfl ?_) | (refine RD_isUn ?_; first | refine RD_c rfl (fun _ => Const_neg rfl wF) rfl rfl ?_) | (refine RD_isCv ?_; first | refine RD_c rfl (fun _ => Const_conv rfl wF) rfl rfl ?_) | (refine RD_isCa ?_; first | refine RD_c rfl (fun _ => Const_len rfl) rfl rfl ?_ | refine RD_c rfl (fun _ => Const_minM rfl rfl) rfl rfl ?_ | refine RD_c rfl (fun _ => Const_maxM rfl rfl) rfl rfl ?_ | refine RD_c rfl (fun _ => Const_min3 rfl rfl rfl) rfl rfl ?_) | (refine RD_isFa ?_; first | refine RD_fldP rfl (by decide) rfl rfl ?_ | refine RD_fld rfl (by decide) rfl rfl ?_) | (refine RD_isIx ?_; first | refine RD_ixB rfl rfl bdI rfl rfl ?_ | refine RD_ixI vwF rfl rfl bdI memF posC rfl rfl ?_ | refine RD_ixR vwF rfl rfl bdI memF posC rfl rfl ?_ | refine RD_c rfl (fun _ => Const_indexA rfl rfl bdI) rfl rfl ?_) | (refine RD_isLd ?_; first | (apply RD_ldZB; exact vwF; exact rfl; (focus ((repeat (first | with_reducible exact List.mem_cons_self | with_reducible assumption | with_reducible refine List.mem_cons_of_mem _ ?_)); done)); exact atY; exact rfl; exact rfl) | (apply RD_ldZIB; exact vwF; exact rfl; (focus ((repeat (first | with_reducible exact List.mem_cons_self | with_reducible assumption | with_reducible refine List.mem_cons_of_mem _ ?_)); done)); exact atY; exact rfl; exact rfl) | (apply RD_ldZI; exact vwF; exact rfl; (focus ((repeat (first | with_reducible exact List.mem_cons_self | with_reducible assumption | with_reducible refine List.mem_cons_of_mem _ ?_)); done)); exact atY; exact rfl; exact rfl) | (apply RD_ldZR; exact vwF; exact rfl; (focus ((repeat (first | with_reducible exact List.mem_cons_self | with_reducible assumption | with_reducible refine List.mem_cons_of_mem _ ?_)); done)); exact atY; exact rfl; exact rfl) | (apply RD_ldB; exact vwF; exact rfl; (focus ((repeat (first | with_reducible exact List.mem_cons_self | with_reducible assumption | with_reducible refine List.mem_cons_of_mem _ ?_)); done)); exact atF; exact rfl; exact rfl) | (apply RD_ldIB; exact vwF; exact rfl; (focus ((repeat (first | with_reducible exact List.mem_cons_self | with_reducible assumption | with_reducible refine List.mem_cons_of_mem _ ?_)); done)); exact atF; exact rfl; exact rfl) | (apply RD_ldI; exact vwF; exact rfl; (focus ((repeat (first | with_reducible exact List.mem_cons_self | with_reducible assumption | with_reducible refine List.mem_cons_of_mem _ ?_)); done)); exact atF; exact rfl; exact rfl) | (apply RD_ldR; exact vwF; exact rfl; (focus ((repeat (first | with_reducible exact List.mem_cons_self | with_reducible assumption | with_reducible refine List.mem_cons_of_mem _ ?_)); done)); exact atF; exact rfl; exact rfl)) | (refine RD_isFd ?_; first | refine RD_c rfl (fun _ => Const_field1 rfl rfl) rfl rfl ?_ | refine RD_c rfl (fun _ => Const_fieldN rfl) rfl rfl ?_) | (refine TD_isCo ?_; first | refine TD_cond_true rfl ?_ | refine TD_cond_false rfl ?_ | refine TD_yes rfl (by omega) ?_ | refine TD_no rfl (by omega) ?_ | refine TD_dec rfl (fun h => ?_) (fun h => ?_) | refine TD_cond rfl (fun h => ?_) (fun h => ?_)))
              refine RD_stN (vs := eR e6) rfl rfl rfl (Ones.one e6) repF (StAts.r0 (enc := eR) (sz := 4) (ms := rs) (i := ((2 : Nat) : Int)) e6 ⟨by omega, by omega⟩ rfl) rfl rfl ⟨okF, ?_⟩
              repeat (refine wXh ?_)
              refine ND_hv (φ := allR (st l2 (j : Int) e4) 8) (Hv.stLS (m := 8 + 20 + 1) memF memF (hsm.2.1 e4 (mem_st (by omega)))) ?_
              refine ND_hv (φ := allR (st rs ((2 : Nat) : Int) e6) 8) (Hv.stLS (m := 8 + 22 + 1) memF memF (hsm.2.2 e6 (mem_st (by omega)))) ?_
              refine ND_again (3 - (j + 1)) _ _ _ (by first | omega | (simp only [List.length_append, List.length_cons, List.length_nil]; omega)) subG subF incF (⟨j + 1, _, _, _, _, by omega, rfl, hnx, rfl, rfl, rfl⟩)
      · obtain rfl : j = 3 := by omega
        repeat (refine wXh ?_)
        refine ND_again (3 - (i + 1)) _ _ _ (by first | omega | (simp only [List.length_append, List.length_cons, List.length_nil]; omega)) subG subF incF (⟨i + 1, l0, l1, l2, rs, by omega, rfl, hst, rfl, rfl, rfl⟩)
    · obtain rfl : i = 3 := by omega
      repeat (first | (refine wXh ?_) | (apply RD_ldZIB; exact vwF; exact rfl; exact memF; (first | exact AtsZ.y0 | exact AtsZ.y1 | exact AtsZ.w0 | exact AtsZ.w1); exact rfl; exact rfl))
      repeat (refine wXh ?_)
      refine ND_again (2 - (ki + 1)) _ _ _ (by first | omega | (simp only [List.length_append, List.length_cons, List.length_nil]; omega)) subG subF incF (⟨ki + 1, l0, l1, l2, rs, by omega, rfl, hst, rfl, rfl, rfl⟩)
  · obtain rfl : ki = 2 := by omega
    obtain ⟨⟨k0, k1⟩, k2, kr⟩ := hst.len (by omega)
    obtain ⟨⟨e0, e1⟩, e2, er⟩ := hst
    rw [show 9 * 2 = 18 from rfl] at e0 e1 e2 er
    rw [lrun_end.1.1] at e0
    rw [lrun_end.1.2] at e1
    rw [lrun_end.2.1] at e2
    rw [lrun_end.2.2] at er
    have hda : (⟨some ⟨bo, 0, none⟩, 3, [⟨some ⟨b0, 0, none⟩, 3, l0⟩, ⟨some ⟨b1, 0, none⟩, 3, l1⟩, ⟨some ⟨b2, 0, none⟩, 3, l2⟩]⟩ : MX).fit 3 3 := ⟨⟨rfl, fun r hr => by
      simp only [List.mem_cons, List.not_mem_nil, or_false] at hr
      rcases hr with rfl | rfl | rfl <;> assumption⟩, by omega, by omega⟩
    have hI := fun M0 I0 h => XInverse_all (X := X) (w0 := w0) (M0 := M0) (I0 := I0) (a := ⟨some ⟨bo, 0, none⟩, 3, [⟨some ⟨b0, 0, none⟩, 3, l0⟩, ⟨some ⟨b1, 0, none⟩, 3, l1⟩, ⟨some ⟨b2, 0, none⟩, 3, l2⟩]⟩) (n := 3) (k0 := 8) (by decide) (by decide) hda h
    have hq : (⟨some ⟨bo, 0, none⟩, 3, [⟨some ⟨b0, 0, none⟩, 3, l0⟩, ⟨some ⟨b1, 0, none⟩, 3, l1⟩, ⟨some ⟨b2, 0, none⟩, 3, l2⟩]⟩ : MX).q = [[1, 0, 0], [0, 1, 0], [0, 0, 2]] := by
      show [qs l0, qs l1, qs l2] = _
      rw [e0, e1, e2]
    rw [hq] at hI
    simp only [if_neg lend_det, lend_inv] at hI
    refine TD_hv (φ := slI (some ⟨bo, 0, none⟩) [.slice (some ⟨b0, 0, none⟩) l0.length 3, .slice (some ⟨b1, 0, none⟩) l1.length 3, .slice (some ⟨b2, 0, none⟩) l2.length 3]) (by rw [k0, k1, k2]; exact Hv.mem memF) ?_
    repeat (first | (refine wXh ?_) | (apply RD_ldZIB; exact vwF; exact rfl; exact memF; (first | exact AtsZ.y0 | exact AtsZ.y1 | exact AtsZ.w0 | exact AtsZ.w1); exact rfl; exact rfl))
    repeat (refine wXh ?_)
    refine RD_freezeB (b := b0) remF ?_
    refine RD_freezeB (b := b1) remF ?_
    refine RD_freezeB (b := b2) remF ?_
    refine RD_hv (φ := isX ⟨some ⟨bo, 0, none⟩, 3, [⟨some ⟨b0, 0, none⟩, 3, l0⟩, ⟨some ⟨b1, 0, none⟩, 3, l1⟩, ⟨some ⟨b2, 0, none⟩, 3, l2⟩]⟩ 8) ⟨fun X w hw => ⟨(hw (slI (some ⟨bo, 0, none⟩) [.slice (some ⟨b0, 0, none⟩) l0.length 3, .slice (some ⟨b1, 0, none⟩) l1.length 3, .slice (some ⟨b2, 0, none⟩) l2.length 3]) memF : SlI _ _ X w).go, fun r hr => ?_, ⟨Nat.le_refl _, .inl (Ok.mk _ _)⟩⟩⟩ ?_
    · simp only [List.mem_cons, List.not_mem_nil, or_false] at hr
      rcases hr with rfl | rfl | rfl
      · exact ⟨(hw (slI (some ⟨b0, 0, none⟩) (recs eR l0)) memF : SlI _ _ X w).go, fun e he => (hw (allR l0 8) memF : AllR _ _ X w).go e he, ⟨by show l0.length ≤ 3; omega, .inl (Ok.mk _ _)⟩⟩
      · exact ⟨(hw (slI (some ⟨b1, 0, none⟩) (recs eR l1)) memF : SlI _ _ X w).go, fun e he => (hw (allR l1 8) memF : AllR _ _ X w).go e he, ⟨by show l1.length ≤ 3; omega, .inl (Ok.mk _ _)⟩⟩
      · exact ⟨(hw (slI (some ⟨b2, 0, none⟩) (recs eR l2)) memF : SlI _ _ X w).go, fun e he => (hw (allR l2 8) memF : AllR _ _ X w).go e he, ⟨by show l2.length ≤ 3; omega, .inl (Ok.mk _ _)⟩⟩
    (refine RD_callS rfl (hI _ _ memF) rfl rfl ?_; rintro _ _ _ ⟨rfl, m, rfl, hmq, hmd, rfl⟩; refine ⟨okF, ?_⟩)
    obtain ⟨ra, rb, rc, rfl⟩ := len3 kr
    have er : [ra.q, rb.q, rc.q] = [0, 0, 2] := er
    simp only [List.cons.injEq, and_true] at er
    have hml3 := hmd.1
    have hr0 : (gt m.rows 0).es.length = 3 := hmd.row (i := 0) (by decide)
    have hr1 : (gt m.rows 1).es.length = 3 := hmd.row (i := 1) (by decide)
    have hr2 : (gt m.rows 2).es.length = 3 := hmd.row (i := 2) (by decide)
    obtain ⟨x0, hx0⟩ : ∃ x, gt m.rows 0 = x := ⟨_, rfl⟩
    obtain ⟨x1, hx1⟩ : ∃ x, gt m.rows 1 = x := ⟨_, rfl⟩
    obtain ⟨x2, hx2⟩ : ∃ x, gt m.rows 2 = x := ⟨_, rfl⟩
    rw [hx0] at hr0
    rw [hx1] at hr1
    rw [hx2] at hr2
    have hqq : [x0.q, x1.q, x2.q] = [[1, 0, 0], [0, 1, 0], [0, 0, (1 : Rat) / 2]] := by
      rw [← hmq, ← hx0, ← hx1, ← hx2]
      obtain ⟨mp, mc, mr⟩ := m
      match mr, hml3 with
      | [a, b, c], _ => rfl
    obtain ⟨xa, xb, xc, hxe⟩ := len3 hr0
    obtain ⟨ya, yb, yc, hye⟩ := len3 hr1
    obtain ⟨za, zb, zc, hze⟩ := len3 hr2
    have hqq : [[xa.q, xb.q, xc.q], [ya.q, yb.q, yc.q], [za.q, zb.q, zc.q]] = [[1, 0, 0], [0, 1, 0], [0, 0, (1 : Rat) / 2]] := by
      rw [← hqq]
      unfold RL.q
      rw [hxe, hye, hze]; rfl
    simp only [List.cons.injEq, and_true] at hqq
    have hval : ∀ d0 d1 d2 : RE, d0.q = (⟨xa, xb, xc⟩ : TE).v.dot (⟨ra, rb, rc⟩ : TE).v → d1.q = (⟨ya, yb, yc⟩ : TE).v.dot (⟨ra, rb, rc⟩ : TE).v → d2.q = (⟨za, zb, zc⟩ : TE).v.dot (⟨ra, rb, rc⟩ : TE).v → (⟨d0, d1, d2⟩ : TE).v = ⟨0, 0, 1⟩ := fun d0 d1 d2 h0 h1 h2 => by
      show (⟨d0.q, d1.q, d2.q⟩ : V3) = _
      rw [h0, h1, h2]
      simp only [TE.v, V3.dot, hqq, er, V3.mk.injEq]
      exact ⟨by decide +kernel, by decide +kernel, by decide +kernel⟩
    repeat (first | (refine wXh ?_) | (apply RD_ldZIB; exact vwF; exact rfl; exact memF; (first | exact AtsZ.y0 | exact AtsZ.y1 | exact AtsZ.w0 | exact AtsZ.w1); exact rfl; exact rfl))
    repeat (refine wXh ?_)
    refine TD_fact (φ := Ok x0.p ∧ Ok x1.p ∧ Ok x2.p) (fun w hw => ?_) (fun hok => ?_)
    · have hX : IsX m (kb 8 3) _ w := (hw.imm (isX m (kb 8 3)) memF).2
      exact ⟨okrow (hX.row x0 (by rw [← hx0]; exact gt_mem (by omega))) hr0, okrow (hX.row x1 (by rw [← hx1]; exact gt_mem (by omega))) hr1, okrow (hX.row x2 (by rw [← hx2]; exact gt_mem (by omega))) hr2⟩
    refine TD_hv (φ := slI m.p (recs eL m.rows)) (Hv.xsl (m := m) (k := kb 8 3) memF) ?_
    refine TD_hv (φ := isT ⟨xa, xb, xc⟩ (kb 8 3)) ⟨fun X w hw => rowT ((hw (isX m (kb 8 3)) memF : IsX m _ X w).row x0 (by rw [← hx0]; exact gt_mem (by omega))) hxe⟩ ?_
    refine TD_hv (φ := isT ⟨ya, yb, yc⟩ (kb 8 3)) ⟨fun X w hw => rowT ((hw (isX m (kb 8 3)) memF : IsX m _ X w).row x1 (by rw [← hx1]; exact gt_mem (by omega))) hye⟩ ?_
    refine TD_hv (φ := isT ⟨za, zb, zc⟩ (kb 8 3)) ⟨fun X w hw => rowT ((hw (isX m (kb 8 3)) memF : IsX m _ X w).row x2 (by rw [← hx2]; exact gt_mem (by omega))) hze⟩ ?_
    refine TD_hv (φ := slI x0.p (recs eR [xa, xb, xc])) ⟨fun X w hw => rowS ((hw (isX m (kb 8 3)) memF : IsX m _ X w).row x0 (by rw [← hx0]; exact gt_mem (by omega))) hxe⟩ ?_
    refine TD_hv (φ := slI x1.p (recs eR [ya, yb, yc])) ⟨fun X w hw => rowS ((hw (isX m (kb 8 3)) memF : IsX m _ X w).row x1 (by rw [← hx1]; exact gt_mem (by omega))) hye⟩ ?_
    refine TD_hv (φ := slI x2.p (recs eR [za, zb, zc])) ⟨fun X w hw => rowS ((hw (isX m (kb 8 3)) memF : IsX m _ X w).row x2 (by rw [← hx2]; exact gt_mem (by omega))) hze⟩ ?_
    refine TD_hv (φ := isT ⟨ra, rb, rc⟩ 8) ⟨fun X w hw => ⟨(hw (allR [ra, rb, rc] 8) memF : AllR _ _ X w).go ra (by simp), (hw (allR [ra, rb, rc] 8) memF : AllR _ _ X w).go rb (by simp), (hw (allR [ra, rb, rc] 8) memF : AllR _ _ X w).go rc (by simp)⟩⟩ ?_
    refine TD_cutT (fun G M I => ∃ (b20 : Nat) (p : TE), p.v = ⟨0, 0, 1⟩ ∧ G = [(0, .slice q 2 c), (1, .slice qw 2 cw), (4, .pointer (some ⟨b4, 0, none⟩)), (5, .pointer (some ⟨b5, 0, none⟩)), (20, .pointer (some ⟨b20, 0, none⟩))] ∧ M = .blk b20 (eT p) 27 :: .blk b5 zRv 26 :: .blk b4 zTv 27 :: M0 ∧ I = isT p 2000 :: I0) ?_ ?_
    · ((repeat refine TD_seq ?_); refine TD_rest (.blk b10 (recs eR [ra, rb, rc]) 27 :: .blk b5 zRv 26 :: .blk b4 zTv 27 :: M0) (isT ⟨ra, rb, rc⟩ 8 :: slI x2.p (recs eR [za, zb, zc]) :: slI x1.p (recs eR [ya, yb, yc]) :: slI x0.p (recs eR [xa, xb, xc]) :: isT ⟨za, zb, zc⟩ (kb 8 3) :: isT ⟨ya, yb, yc⟩ (kb 8 3) :: isT ⟨xa, xb, xc⟩ (kb 8 3) :: slI m.p (recs eL m.rows) :: I0) mixed ?_)
      refine ND_restPre (fuel := 6) (listed' := #[true, true, true, true, true, true, false, true, true, true, true, true, true, false, true, true, true, true, true, true, false, false, false, false]) [0, 1, 2, 3, 4, 5, 7, 8, 9, 10, 11, 12, 14, 15, 16, 17, 18, 19] [4, 4, 4, 4, 3, 3, 4, 4, 4, 4, 3, 3, 4, 4, 4, 4, 3, 3] subF incF (by kernel_rfl) (by kernel_rfl) rfl rfl ?_
      repeat (refine wXh ?_)
      rw [hx0]
      repeat (refine wXh ?_)
      (refine RD_c rfl (fun _ => Const_arrP rfl (by omega)) rfl rfl ?_)
      repeat (refine wXh ?_)
      (refine RD_ldOI (sz := 12) hok.1 vwF rfl memF rfl rfl rfl ?_)
      repeat (refine wXh ?_)
      rw [hx1]
      repeat (refine wXh ?_)
      (refine RD_c rfl (fun _ => Const_arrP rfl (by omega)) rfl rfl ?_)
      repeat (refine wXh ?_)
      (refine RD_ldOI (sz := 12) hok.2.1 vwF rfl memF rfl rfl rfl ?_)
      repeat (refine wXh ?_)
      rw [hx2]
      repeat (refine wXh ?_)
      (refine RD_c rfl (fun _ => Const_arrP rfl (by omega)) rfl rfl ?_)
      repeat (refine wXh ?_)
      (refine RD_ldOI (sz := 12) hok.2.2 vwF rfl memF rfl rfl rfl ?_)
      repeat (refine wXh ?_)
      refine ND_restFork (fuel := 5) (i := 6) (j := 22) (by kernel_rfl) ?_ ?_
      · (refine RD_callS rfl (iDot_ok (a := ⟨xa, xb, xc⟩) (b := ⟨ra, rb, rc⟩) (k := kb 8 3) (m := 8) (by decide) (Hv.mem memF) (Hv.mem memF)) rfl rfl ?_; rintro _ _ _ ⟨rfl, d0, rfl, hd0, rfl⟩; refine ⟨okF, ?_⟩)
        refine RD_nil ?_
        repeat (refine wXh ?_)
        refine ND_restFork (fuel := 4) (i := 13) (j := 22) (by kernel_rfl) ?_ ?_
        · (refine RD_callS rfl (iDot_ok (a := ⟨ya, yb, yc⟩) (b := ⟨ra, rb, rc⟩) (k := kb 8 3) (m := 8) (by decide) (Hv.mem memF) (Hv.mem memF)) rfl rfl ?_; rintro _ _ _ ⟨rfl, d1, rfl, hd1, rfl⟩; refine ⟨okF, ?_⟩)
          refine RD_nil ?_
          repeat (refine wXh ?_)
          refine ND_restFork (fuel := 3) (i := 20) (j := 22) (by kernel_rfl) ?_ ?_
          · (refine RD_callS rfl (iDot_ok (a := ⟨za, zb, zc⟩) (b := ⟨ra, rb, rc⟩) (k := kb 8 3) (m := 8) (by decide) (Hv.mem memF) (Hv.mem memF)) rfl rfl ?_; rintro _ _ _ ⟨rfl, d2, rfl, hd2, rfl⟩; refine ⟨okF, ?_⟩)
            refine RD_nil ?_
            refine ND_restEnd [21, 22, 23] [1, 0, 0] subF incF (by kernel_rfl) (by kernel_rfl) rfl rfl ?_
            repeat (refine wXh ?_)
            (refine RD_c rfl (fun _ => Const_arrC (vals := [rv d0, rv d1, rv d2]) (cells := recs eR [d0, d1, d2]) rfl ?hpl rfl ?hz) rfl rfl ?_; (case hpl => exact (by intro v hv; repeat (first | exact absurd hv (List.not_mem_nil) | (rcases List.mem_cons.1 hv with rfl | hv; · rfl)))); (case hz => rfl))
            repeat (refine wXh ?_)
            (refine RD_alloc rfl rfl ?_; intro b20; refine ⟨okF, ?_⟩)
            repeat (refine wXh ?_)
            (refine ND_hv (φ := isT ⟨d0, d1, d2⟩ 2000) (Hv.mkT (Hv.upR (k := 3 * (kb 8 3 + 8 + 1)) (Hv.mem memF) (by decide)) (Hv.upR (k := 3 * (kb 8 3 + 8 + 1)) (Hv.mem memF) (by decide)) (Hv.upR (k := 3 * (kb 8 3 + 8 + 1)) (Hv.mem memF) (by decide))) ?_; exact ND_cut _ _ _ subG subF incF ⟨b20, ⟨d0, d1, d2⟩, hval d0 d1 d2 hd0 hd1 hd2, rfl, rfl, rfl⟩)
          · (refine RD_alloc rfl rfl ?_; intro b20; refine ⟨okF, ?_⟩)
            refine RD_nil ?_
            refine ND_restEnd [20, 21, 23] [0, 0, 0] subF incF (by kernel_rfl) (by kernel_rfl) rfl rfl ?_
            repeat (refine wXh ?_)
            (refine RD_callS rfl (iDot_ok (a := ⟨za, zb, zc⟩) (b := ⟨ra, rb, rc⟩) (k := kb 8 3) (m := 8) (by decide) (Hv.mem memF) (Hv.mem memF)) rfl rfl ?_; rintro _ _ _ ⟨rfl, d2, rfl, hd2, rfl⟩; refine ⟨okF, ?_⟩)
            repeat (refine wXh ?_)
            (refine RD_c rfl (fun _ => Const_arrC (vals := [rv d0, rv d1, rv d2]) (cells := recs eR [d0, d1, d2]) rfl ?hpl rfl ?hz) rfl rfl ?_; (case hpl => exact (by intro v hv; repeat (first | exact absurd hv (List.not_mem_nil) | (rcases List.mem_cons.1 hv with rfl | hv; · rfl)))); (case hz => rfl))
            repeat (refine wXh ?_)
            (refine ND_hv (φ := isT ⟨d0, d1, d2⟩ 2000) (Hv.mkT (Hv.upR (k := 3 * (kb 8 3 + 8 + 1)) (Hv.mem memF) (by decide)) (Hv.upR (k := 3 * (kb 8 3 + 8 + 1)) (Hv.mem memF) (by decide)) (Hv.upR (k := 3 * (kb 8 3 + 8 + 1)) (Hv.mem memF) (by decide))) ?_; exact ND_cut _ _ _ subG subF incF ⟨b20, ⟨d0, d1, d2⟩, hval d0 d1 d2 hd0 hd1 hd2, rfl, rfl, rfl⟩)
        · (refine RD_alloc rfl rfl ?_; intro b20; refine ⟨okF, ?_⟩)
          refine RD_nil ?_
          refine ND_restEnd [13, 20, 21, 23] [0, 0, 0, 0] subF incF (by kernel_rfl) (by kernel_rfl) rfl rfl ?_
          repeat (refine wXh ?_)
          (refine RD_callS rfl (iDot_ok (a := ⟨ya, yb, yc⟩) (b := ⟨ra, rb, rc⟩) (k := kb 8 3) (m := 8) (by decide) (Hv.mem memF) (Hv.mem memF)) rfl rfl ?_; rintro _ _ _ ⟨rfl, d1, rfl, hd1, rfl⟩; refine ⟨okF, ?_⟩)
          repeat (refine wXh ?_)
          (refine RD_callS rfl (iDot_ok (a := ⟨za, zb, zc⟩) (b := ⟨ra, rb, rc⟩) (k := kb 8 3) (m := 8) (by decide) (Hv.mem memF) (Hv.mem memF)) rfl rfl ?_; rintro _ _ _ ⟨rfl, d2, rfl, hd2, rfl⟩; refine ⟨okF, ?_⟩)
          repeat (refine wXh ?_)
          (refine RD_c rfl (fun _ => Const_arrC (vals := [rv d0, rv d1, rv d2]) (cells := recs eR [d0, d1, d2]) rfl ?hpl rfl ?hz) rfl rfl ?_; (case hpl => exact (by intro v hv; repeat (first | exact absurd hv (List.not_mem_nil) | (rcases List.mem_cons.1 hv with rfl | hv; · rfl)))); (case hz => rfl))
          repeat (refine wXh ?_)
          (refine ND_hv (φ := isT ⟨d0, d1, d2⟩ 2000) (Hv.mkT (Hv.upR (k := 3 * (kb 8 3 + 8 + 1)) (Hv.mem memF) (by decide)) (Hv.upR (k := 3 * (kb 8 3 + 8 + 1)) (Hv.mem memF) (by decide)) (Hv.upR (k := 3 * (kb 8 3 + 8 + 1)) (Hv.mem memF) (by decide))) ?_; exact ND_cut _ _ _ subG subF incF ⟨b20, ⟨d0, d1, d2⟩, hval d0 d1 d2 hd0 hd1 hd2, rfl, rfl, rfl⟩)
      · (refine RD_alloc rfl rfl ?_; intro b20; refine ⟨okF, ?_⟩)
        refine RD_nil ?_
        refine ND_restEnd [6, 13, 20, 21, 23] [0, 0, 0, 0, 0] subF incF (by kernel_rfl) (by kernel_rfl) rfl rfl ?_
        repeat (refine wXh ?_)
        (refine RD_callS rfl (iDot_ok (a := ⟨xa, xb, xc⟩) (b := ⟨ra, rb, rc⟩) (k := kb 8 3) (m := 8) (by decide) (Hv.mem memF) (Hv.mem memF)) rfl rfl ?_; rintro _ _ _ ⟨rfl, d0, rfl, hd0, rfl⟩; refine ⟨okF, ?_⟩)
        repeat (refine wXh ?_)
        (refine RD_callS rfl (iDot_ok (a := ⟨ya, yb, yc⟩) (b := ⟨ra, rb, rc⟩) (k := kb 8 3) (m := 8) (by decide) (Hv.mem memF) (Hv.mem memF)) rfl rfl ?_; rintro _ _ _ ⟨rfl, d1, rfl, hd1, rfl⟩; refine ⟨okF, ?_⟩)
        repeat (refine wXh ?_)
        (refine RD_callS rfl (iDot_ok (a := ⟨za, zb, zc⟩) (b := ⟨ra, rb, rc⟩) (k := kb 8 3) (m := 8) (by decide) (Hv.mem memF) (Hv.mem memF)) rfl rfl ?_; rintro _ _ _ ⟨rfl, d2, rfl, hd2, rfl⟩; refine ⟨okF, ?_⟩)
        repeat (refine wXh ?_)
        (refine RD_c rfl (fun _ => Const_arrC (vals := [rv d0, rv d1, rv d2]) (cells := recs eR [d0, d1, d2]) rfl ?hpl rfl ?hz) rfl rfl ?_; (case hpl => exact (by intro v hv; repeat (first | exact absurd hv (List.not_mem_nil) | (rcases List.mem_cons.1 hv with rfl | hv; · rfl)))); (case hz => rfl))
        repeat (refine wXh ?_)
        (refine ND_hv (φ := isT ⟨d0, d1, d2⟩ 2000) (Hv.mkT (Hv.upR (k := 3 * (kb 8 3 + 8 + 1)) (Hv.mem memF) (by decide)) (Hv.upR (k := 3 * (kb 8 3 + 8 + 1)) (Hv.mem memF) (by decide)) (Hv.upR (k := 3 * (kb 8 3 + 8 + 1)) (Hv.mem memF) (by decide))) ?_; exact ND_cut _ _ _ subG subF incF ⟨b20, ⟨d0, d1, d2⟩, hval d0 d1 d2 hd0 hd1 hd2, rfl, rfl, rfl⟩)
    · rintro G M I ⟨b20, p, hp, rfl, rfl, rfl⟩
      clear hI hda hq hmq hmd hr0 hr1 hr2 hxe hye hze hqq hok hval er
      repeat (first | (refine wXh ?_) | (apply RD_ldZIB; exact vwF; exact rfl; exact memF; (first | exact AtsZ.y0 | exact AtsZ.y1 | exact AtsZ.w0 | exact AtsZ.w1); exact rfl; exact rfl))
      repeat (refine wXh ?_)
      (refine RD_callS rfl (Whole_ok (x := 0) (by decide) (k := 0) (by decide)) rfl rfl ?_; rintro _ _ _ ⟨rfl, s0, rfl, hs0, rfl⟩; refine ⟨okF, ?_⟩)
      repeat (first | (refine wXh ?_) | (apply RD_ldZIB; exact vwF; exact rfl; exact memF; (first | exact AtsZ.y0 | exact AtsZ.y1 | exact AtsZ.w0 | exact AtsZ.w1); exact rfl; exact rfl))
      repeat (refine wXh ?_)
      (refine RD_alloc rfl rfl ?_; intro b21; refine ⟨okF, ?_⟩)
      repeat (first | (refine wXh ?_) | (apply RD_ldZIB; exact vwF; exact rfl; exact memF; (first | exact AtsZ.y0 | exact AtsZ.y1 | exact AtsZ.w0 | exact AtsZ.w1); exact rfl; exact rfl))
      repeat (refine wXh ?_)
      refine TD_hv (φ := isR s0 8) (Hv.upR (k := 0) (Hv.mem memF) (by decide)) ?_
      have hmiss : ∀ k : Nat, k < 2 → missQ (gt ms (k : Int)).o.v (gt ms (k : Int)).a.v p.v = 1 := fun k hk => by
        obtain ⟨h1, h2⟩ := hexm k hk
        generalize gt ms (k : Int) = y at h1 h2
        have h1 : [y.a.x.q, y.a.y.q, y.a.z.q] = kal k := h1
        have h2 : [y.o.x.q, y.o.y.q, y.o.z.q] = kor k := h2
        rw [hp]
        have : k = 0 ∨ k = 1 := by omega
        rcases this with rfl | rfl
        · have h1 : [y.a.x.q, y.a.y.q, y.a.z.q] = [1, 0, 0] := h1
          have h2 : [y.o.x.q, y.o.y.q, y.o.z.q] = [0, 0, 0] := h2
          simp only [List.cons.injEq, and_true] at h1 h2
          simp only [missQ, V3.sub, V3.dot, TE.v, h1, h2]
          decide +kernel
        · have h1 : [y.a.x.q, y.a.y.q, y.a.z.q] = [0, 1, 0] := h1
          have h2 : [y.o.x.q, y.o.y.q, y.o.z.q] = [0, 0, 2] := h2
          simp only [List.cons.injEq, and_true] at h1 h2
          simp only [missQ, V3.sub, V3.dot, TE.v, h1, h2]
          decide +kernel
      refine TD_loop [1, 4, 5, 20, 21, 173, 174] rfl (fun k G M I => ∃ (j : Nat) (s : RE), j ≤ 2 ∧ k = 2 - j ∧ s.q = ((j : Int) : Rat) ∧ G = [(175, .int .i64 j)] ∧ M = .blk b21 (eR s) 26 :: .blk b20 (eT p) 27 :: .blk b5 zRv 26 :: .blk b4 zTv 27 :: M0 ∧ I = isR s 8 :: isT p 2000 :: I0) (2) _ _ _ subG subF incF (⟨0, s0, by omega, rfl, hs0, rfl, rfl, rfl⟩) ?_
      clear hs0 s0
      rintro kk G M I ⟨j, s, hj, rfl, hs, rfl, rfl, rfl⟩
      by_cases hj2 : j < 2
      · have hyI := hym j hj2
        have hmj := hmiss j hj2
        have hal := (hexm j hj2).1
        obtain ⟨y, hy⟩ : ∃ y, gt ms (j : Int) = y := ⟨_, rfl⟩
        rw [hy] at hyI hmj hal
        have hdot := kal_dot hal
        repeat (first | (refine wXh ?_) | (apply RD_ldZIB; exact vwF; exact rfl; exact memF; (first | exact AtsZ.y0 | exact AtsZ.y1 | exact AtsZ.w0 | exact AtsZ.w1); exact rfl; exact rfl))
        repeat (refine wXh ?_)
        rw [hy]
        (refine RD_alloc rfl rfl ?_; intro b23; refine ⟨okF, ?_⟩)
        repeat (first | (refine wXh ?_) | (apply RD_ldZIB; exact vwF; exact rfl; exact memF; (first | exact AtsZ.y0 | exact AtsZ.y1 | exact AtsZ.w0 | exact AtsZ.w1); exact rfl; exact rfl))
        repeat (refine wXh ?_)
        refine TD_hv (φ := isY y 2000) (Hv.upY (hyI _ memF memF) (by decide)) ?_
        (repeat refine TD_seq ?_); refine TD_drawnJ 4 [0, 1, 2, 3, 4, 6, 7, 5, 8, 9, 10, 11] [3, 4, 4, 4, 3, 3, 3, 0, 0, 0, 0, 0] mixed (by kernel_rfl) ?_
        repeat (first | (refine wXh ?_) | (apply RD_ldZIB; exact vwF; exact rfl; exact memF; (first | exact AtsZ.y0 | exact AtsZ.y1 | exact AtsZ.w0 | exact AtsZ.w1); exact rfl; exact rfl))
        repeat (refine wXh ?_)
        rw [hwg j hj2]
        (refine RD_callS rfl (hW1 _ _) rfl rfl ?_; rintro _ _ _ ⟨rfl, f1, rfl, hf1, rfl⟩; refine ⟨okF, ?_⟩)
        (refine RD_callS rfl (iMiss_ok (r := y) (p := p) (k := 2000) (by decide) (by rw [hdot]; decide) (Hv.mem memF) (Hv.mem memF)) rfl rfl ?_; rintro _ _ _ ⟨rfl, f2, rfl, hf2, rfl⟩; refine ⟨okF, ?_⟩)
        (refine RD_callS rfl (QMul_ok (a := f1) (b := f2) (k := 0) (m := 100 * (2000 + 1)) (by decide) (Hv.mem memF) (Hv.mem memF)) rfl rfl ?_; rintro _ _ _ ⟨rfl, f3, rfl, hf3, rfl⟩; refine ⟨okF, ?_⟩)
        (refine RD_callS rfl (QAdd_ok (a := s) (b := f3) (k := 8) (m := 0 + 100 * (2000 + 1)) (by decide) (Hv.mem memF) (Hv.mem memF)) rfl rfl ?_; rintro _ _ _ ⟨rfl, f4, rfl, hf4, rfl⟩; refine ⟨okF, ?_⟩)
        have hv4 : f4.q = (((j + 1 : Nat) : Int) : Rat) := by
          rw [hf4, hf3, hf1, hf2, hmj, hs]
          have : j = 0 ∨ j = 1 := by omega
          rcases this with rfl | rfl <;> decide +kernel
        have hsm4 : lsm f4.q := by
          rw [hv4]
          have : j = 0 ∨ j = 1 := by omega
          rcases this with rfl | rfl <;> decide +kernel
        repeat (first | (refine wXh ?_) | (apply RD_ldZIB; exact vwF; exact rfl; exact memF; (first | exact AtsZ.y0 | exact AtsZ.y1 | exact AtsZ.w0 | exact AtsZ.w1); exact rfl; exact rfl))
        repeat (refine wXh ?_)
        refine ND_hv (φ := isR f4 8) ⟨fun X w hw => IsR.tight (hw (isR f4 (8 + (0 + 100 * (2000 + 1)) + 1)) memF) hsm4.1 hsm4.2⟩ ?_
        refine ND_again (2 - (j + 1)) _ _ _ (by first | omega | (simp only [List.length_append, List.length_cons, List.length_nil]; omega)) subG subF incF (⟨j + 1, f4, by omega, rfl, hv4, rfl, rfl, rfl⟩)
      · obtain rfl : j = 2 := by omega
        repeat (first | (refine wXh ?_) | (apply RD_ldZIB; exact vwF; exact rfl; exact memF; (first | exact AtsZ.y0 | exact AtsZ.y1 | exact AtsZ.w0 | exact AtsZ.w1); exact rfl; exact rfl))
        repeat (refine wXh ?_)
        (repeat refine TD_seq ?_); refine TD_drawnW (.blk b21 (eR s) 26 :: .blk b20 (eT p) 27 :: M0) (isR s 8 :: isT p 2000 :: I0) [0, 1, 2, 3, 4] [0, 1, 0, 0, 0] subF incF mixed (by kernel_rfl) ?_
        repeat (first | (refine wXh ?_) | (apply RD_ldZIB; exact vwF; exact rfl; exact memF; (first | exact AtsZ.y0 | exact AtsZ.y1 | exact AtsZ.w0 | exact AtsZ.w1); exact rfl; exact rfl))
        repeat (refine wXh ?_)
        refine ND_hv (φ := isT p 10000) (Hv.upT (k := 2000) (Hv.mem memF) (by decide)) ?_
        refine ND_hv (φ := isR s 10000) (Hv.upR (k := 8) (Hv.mem memF) (by decide)) ?_
        refine ND_retsC (rs := [.cell 4 27, .cell 5 26, .tmp 6]) (vs := [tv p, rv s, .int .i64 0]) (.inl rfl) rfl (.cellN (cs := eT p) inferInstance rfl memF rfl (.cellN (cs := eR s) inferInstance rfl memF rfl (.tmp rfl .nil))) rfl M0 (isR s 10000 :: isT p 10000 :: I0) subF incF ⟨rfl, p, s, rfl, hp, hs, rfl⟩
end
end Go.Proofs.YtllaoaobnnondaaGreatR

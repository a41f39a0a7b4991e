/- intersect: rays that are canonical; At, Front. intersect.At, Front, Parallax. intersect.Front, Parallax. -/
import Derived.Test.YtllaoaobnnondaaGreatRZibg
import Derived.Test.YtllaoaobnnondaaGreatRZibb
set_option linter.unusedSimpArgs false
set_option linter.unusedVariables false
namespace Go.Proofs.YtllaoaobnnondaaGreatR
open Go Go.Fx
def TE.raw (p : TE) : TW := ⟨p.x.raw, p.y.raw, p.z.raw⟩
def YE.raw (r : YE) : YW := ⟨r.o.raw, r.a.raw⟩
theorem sqn (x : Rat) : 0 ≤ x * x := by
  rcases (Rat.le_total : 0 ≤ x ∨ x ≤ 0) with h | h
  · exact Rat.mul_nonneg h h
  · have h2 : 0 ≤ -x := by grind
    have := Rat.mul_nonneg h2 h2
    grind
theorem V3.dot0 {a : V3} : a.dot a = 0 ↔ a.x = 0 ∧ a.y = 0 ∧ a.z = 0 := by
  unfold V3.dot
  constructor
  · intro h
    have h1 := sqn a.x
    have h2 := sqn a.y
    have h3 := sqn a.z
    have e1 : a.x * a.x = 0 := by grind
    have e2 : a.y * a.y = 0 := by grind
    have e3 : a.z * a.z = 0 := by grind
    refine ⟨?_, ?_, ?_⟩
    · rcases Rat.mul_eq_zero.1 e1 with e | e <;> exact e
    · rcases Rat.mul_eq_zero.1 e2 with e | e <;> exact e
    · rcases Rat.mul_eq_zero.1 e3 with e | e <;> exact e
  · rintro ⟨h1, h2, h3⟩
    rw [h1, h2, h3]; grind
theorem nz_dot {p : TE} : p.raw.nz ↔ p.v.dot p.v ≠ 0 := by
  rw [Ne, V3.dot0]
  show (∃ e ∈ [p.x.raw, p.y.raw, p.z.raw], e.nz) ↔ _
  constructor
  · rintro ⟨e, he, hn⟩ ⟨h1, h2, h3⟩
    simp only [List.mem_cons, List.not_mem_nil, or_false] at he
    rcases he with rfl | rfl | rfl
    · exact nz_raw.1 hn h1
    · exact nz_raw.1 hn h2
    · exact nz_raw.1 hn h3
  · intro h
    by_cases h1 : p.x.q = 0
    · by_cases h2 : p.y.q = 0
      · exact ⟨p.z.raw, by simp, nz_raw.2 (fun h3 => h ⟨h1, h2, h3⟩)⟩
      · exact ⟨p.y.raw, by simp, nz_raw.2 h2⟩
    · exact ⟨p.x.raw, by simp, nz_raw.2 h1⟩
theorem TE.raw_good (p : TE) : p.raw.good := fun e he => by
  have he : e ∈ [p.x.raw, p.y.raw, p.z.raw] := he
  simp only [List.mem_cons, List.not_mem_nil, or_false] at he
  rcases he with rfl | rfl | rfl <;> exact RE.raw_good _
theorem YE.raw_ok {r : YE} (h : r.a.v.dot r.a.v ≠ 0) : r.raw.ok := ⟨r.o.raw_good, r.a.raw_good, nz_dot.2 h⟩
theorem TW.good_raw {p : TW} (hf : ∀ e ∈ p.es, e.Fit) (h : p.good) : ∃ t : TE, p = t.raw := by
  obtain ⟨a, b, c⟩ := p
  obtain ⟨x, rfl⟩ := RW.good_raw (hf a (by simp)) (h a (by simp))
  obtain ⟨y, rfl⟩ := RW.good_raw (hf b (by simp)) (h b (by simp))
  obtain ⟨z, rfl⟩ := RW.good_raw (hf c (by simp)) (h c (by simp))
  exact ⟨⟨x, y, z⟩, rfl⟩
theorem YW.ok_raw {r : YW} (ho : ∀ e ∈ r.o.es, e.Fit) (ha : ∀ e ∈ r.a.es, e.Fit) (h : r.ok) : ∃ s : YE, r = s.raw ∧ s.a.v.dot s.a.v ≠ 0 := by
  obtain ⟨o, a⟩ := r
  obtain ⟨x, rfl⟩ := TW.good_raw ho h.1
  obtain ⟨y, rfl⟩ := TW.good_raw ha h.2.1
  exact ⟨⟨x, y⟩, rfl, nz_dot.1 h.2.2⟩
theorem Hv.rawT {I : List Imm} {p : TE} {k : Nat} (h : Hv I (isT p k)) (hk : k ≤ 1000000000000) : Hv I (isTW p.raw) := ⟨fun X w hw => ⟨fun e he => by
  have he : e ∈ [p.x.raw, p.y.raw, p.z.raw] := he
  have hh := h.go X w hw
  simp only [List.mem_cons, List.not_mem_nil, or_false] at he
  rcases he with rfl | rfl | rfl
  · exact RE.fit hk hh.x
  · exact RE.fit hk hh.y
  · exact RE.fit hk hh.z⟩⟩
theorem Hv.rawY {I : List Imm} {r : YE} {k : Nat} (h : Hv I (isY r k)) (hk : k ≤ 1000000000000) : Hv I (isYW r.raw) := ⟨fun X w hw => ⟨(h.yo.rawT hk).go X w hw, (h.ya.rawT hk).go X w hw⟩⟩
theorem IsT.sml {p : TE} {k : Nat} {X : List Nat} {w : World} (hk : k ≤ 20000000) (h : IsT p k X w) : p.raw.sml := fun e he => by
  have he : e ∈ [p.x.raw, p.y.raw, p.z.raw] := he
  simp only [List.mem_cons, List.not_mem_nil, or_false] at he
  rcases he with rfl | rfl | rfl
  · exact IsR.sml hk h.x
  · exact IsR.sml hk h.y
  · exact IsR.sml hk h.z
theorem Hv.yw1 {I : List Imm} {r : YW} (h : Hv I (isYW r)) : Hv I (allYW [r]) := ⟨fun X w hw => ⟨fun x hx => by rw [List.mem_singleton.1 hx]; exact h.go X w hw⟩⟩
theorem Hv.yw2 {I : List Imm} {r s : YW} (h : Hv I (isYW r)) (h2 : Hv I (isYW s)) : Hv I (allYW [r, s]) := ⟨fun X w hw => ⟨fun x hx => by
  simp only [List.mem_cons, List.not_mem_nil, or_false] at hx
  rcases hx with rfl | rfl
  · exact h.go X w hw
  · exact h2.go X w hw⟩⟩
section
variable {X : List Nat} {w0 : World} {M0 : List Ent} {I0 : List Imm}
theorem Mem.ysml {w : World} {r : YE} {k : Nat} (h : Hv I0 (isY r k)) (hk : k ≤ 20000000) (hw : Mem X w0 M0 I0 w) : r.raw.sml :=
  have h1 := h.go _ w (fun φ hφ => (hw.imm φ hφ).2)
  ⟨IsT.sml hk h1.o, IsT.sml hk h1.a⟩
theorem Check1X_ok {q : Option Addr} {c k : Nat} {r : YE} (hk : k ≤ 20000000) (h0 : r.a.v.dot r.a.v ≠ 0) (hr : Hv I0 (isY r k)) (hq : slI q (recs eY [r]) ∈ I0) :
    CD Tryz.prog 33 [.slice q 1 c] X w0 M0 I0 (fun v M I => M0 = M ∧ I0 = I ∧ v = .int .i64 0) := by
  refine xCD_fact (fun w hw => Mem.ysml hr hk hw) (fun hs => ?_)
  refine CD_hvV (φ := allYW [r.raw]) (Hv.yw1 (hr.rawY (by omega))) ?_
  have := iCheck_ok (X := X) (w0 := w0) (M0 := M0) (I0 := allYW [r.raw] :: I0) (q := q) (c := c) (n := 1) (ms := [r.raw]) rfl (by decide) (fun x hx => by rw [List.mem_singleton.1 hx]; exact hs) (List.Mem.tail _ hq) (List.Mem.head _)
  rw [chkC_ok (fun x hx => by rw [List.mem_singleton.1 hx]; exact YE.raw_ok h0)] at this
  exact this
theorem Check2X_ok {q : Option Addr} {c k : Nat} {r s : YE} (hk : k ≤ 20000000) (h0 : r.a.v.dot r.a.v ≠ 0) (h1 : s.a.v.dot s.a.v ≠ 0) (hr : Hv I0 (isY r k)) (hs : Hv I0 (isY s k)) (hq : slI q (recs eY [r, s]) ∈ I0) :
    CD Tryz.prog 33 [.slice q 2 c] X w0 M0 I0 (fun v M I => M0 = M ∧ I0 = I ∧ v = .int .i64 0) := by
  refine xCD_fact (fun w hw => Mem.ysml hr hk hw) (fun hsr => xCD_fact (fun w hw => Mem.ysml hs hk hw) (fun hss => ?_))
  refine CD_hvV (φ := allYW [r.raw, s.raw]) (Hv.yw2 (hr.rawY (by omega)) (hs.rawY (by omega))) ?_
  have := iCheck_ok (X := X) (w0 := w0) (M0 := M0) (I0 := allYW [r.raw, s.raw] :: I0) (q := q) (c := c) (n := 2) (ms := [r.raw, s.raw]) rfl (by decide) (fun x hx => by simp only [List.mem_cons, List.not_mem_nil, or_false] at hx; rcases hx with rfl | rfl <;> assumption) (List.Mem.tail _ hq) (List.Mem.head _)
  rw [chkC_ok (fun x hx => by simp only [List.mem_cons, List.not_mem_nil, or_false] at hx; rcases hx with rfl | rfl; exact YE.raw_ok h0; exact YE.raw_ok h1)] at this
  exact this
end
end Go.Proofs.YtllaoaobnnondaaGreatR
namespace Go.Proofs.YtllaoaobnnondaaGreatR
open Go Go.Fx
abbrev zTc : List Value := [.bool false, .slice none 0 0, .bool false, .slice none 0 0, .bool false, .slice none 0 0, .bool false, .slice none 0 0, .bool false, .slice none 0 0, .bool false, .slice none 0 0]
section
variable {X : List Nat} {w0 : World} {M0 : List Ent} {I0 : List Imm}
set_option maxRecDepth 100000 in
set_option maxHeartbeats 1000000 in
theorem At_bad {r : YW} {s : RW} (sr : r.sml) (ss : s.sml) (hb : ¬ (r.ok ∧ s.good)) (hr : Hv I0 (isYW r)) (hs : Hv I0 (isW s)) :
    CD Tryz.prog 34 [ywv r, wv s] X w0 M0 I0 (fun v M I => M0 = M ∧ I0 = I ∧ v = .tuple #[.agg zTc.toArray, .int .i64 1]) := by
  have hC := fun q M0 I0 h1 h2 => iCheck_ok (X := X) (w0 := w0) (M0 := M0) (I0 := I0) (q := q) (c := 1) (n := 1) (ms := [r]) rfl (by decide) (fun x hx => by rw [List.mem_singleton.1 hx]; exact sr) h1 h2
  have hV := fun M0 I0 h => Valid_raw (X := X) (w0 := w0) (M0 := M0) (I0 := I0) (r := s) ss h
  refine CD_hvV (φ := isW s) hs (CD_hvV (φ := allYW [r]) hr.yw1.cons ?_)
  by_cases h1 : r.ok
  · have h2 : ¬ s.good := fun h => hb ⟨h1, h⟩
    rw [chkC_ok (fun x hx => by rw [List.mem_singleton.1 hx]; exact h1)] at hC
    rw [B_false h2] at hV
    refine enterD2 Tryz.func34 rfl Tryz.ntmps34 rfl ?_
    refine TD_seq ?_
    refine TD_region ?_
    (refine RD_boxA rfl rfl rfl ?_; intro b2; refine ⟨okF, ?_⟩)
    refine RD_freezeB .here ?_
    (refine RD_boxA rfl rfl rfl ?_; intro b3; refine ⟨okF, ?_⟩)
    refine RD_freezeB .here ?_
    (refine RD_alloc rfl rfl ?_; intro b4; refine ⟨okF, ?_⟩)
    repeat (first | (refine wXh ?_) | (apply RD_ldZIB; exact vwF; exact rfl; exact memF; (first | exact AtsZ.y0 | exact AtsZ.y1 | exact AtsZ.w0 | exact AtsZ.w1); exact rfl; exact rfl))
    repeat (refine wXh ?_)
    (refine RD_vals (cs := recs eYW [r]) ([ywv r]) rfl rfl (by intro v hv; repeat (first | exact absurd hv (List.not_mem_nil) | (rcases List.mem_cons.1 hv with rfl | hv; · rfl))) (by omega) rfl rfl rfl ?_; intro c1; refine ⟨okF, ?_⟩)
    refine RD_freezeB .here ?_
    (refine RD_callS rfl (hC _ _ _ memF memF) rfl rfl ?_; rintro _ _ _ ⟨rfl, rfl, rfl⟩; refine ⟨okF, ?_⟩)
    repeat (first | (refine wXh ?_) | (apply RD_ldZIB; exact vwF; exact rfl; exact memF; (first | exact AtsZ.y0 | exact AtsZ.y1 | exact AtsZ.w0 | exact AtsZ.w1); exact rfl; exact rfl))
    repeat (refine wXh ?_)
    (refine RD_callS rfl (hV _ _ (Hv.mem memF)) rfl rfl ?_; rintro _ _ _ ⟨rfl, rfl, rfl⟩; refine ⟨okF, ?_⟩)
    repeat (first | (refine wXh ?_) | (apply RD_ldZIB; exact vwF; exact rfl; exact memF; (first | exact AtsZ.y0 | exact AtsZ.y1 | exact AtsZ.w0 | exact AtsZ.w1); exact rfl; exact rfl))
    repeat (refine wXh ?_)
    (refine RD_c rfl (fun _ => Const_arr (pvs := []) (cells := zTc) rfl rfl) rfl rfl ?_)
    repeat (first | (refine wXh ?_) | (apply RD_ldZIB; exact vwF; exact rfl; exact memF; (first | exact AtsZ.y0 | exact AtsZ.y1 | exact AtsZ.w0 | exact AtsZ.w1); exact rfl; exact rfl))
    repeat (refine wXh ?_)
    refine ND_retsC (rs := [.cell 4 27, .tmp 5]) (vs := [.agg zTc.toArray, .int .i64 1]) (.inl rfl) rfl (.cellN (cs := zTc) inferInstance rfl memF rfl (.tmp rfl .nil)) rfl M0 (allYW [r] :: isW s :: I0) subF incF ⟨rfl, rfl, rfl⟩
  · rw [chkC_no (fun h => h1 (h r (by simp)))] at hC
    refine enterD2 Tryz.func34 rfl Tryz.ntmps34 rfl ?_
    refine TD_seq ?_
    refine TD_region ?_
    (refine RD_boxA rfl rfl rfl ?_; intro b2; refine ⟨okF, ?_⟩)
    refine RD_freezeB .here ?_
    (refine RD_boxA rfl rfl rfl ?_; intro b3; refine ⟨okF, ?_⟩)
    refine RD_freezeB .here ?_
    (refine RD_alloc rfl rfl ?_; intro b4; refine ⟨okF, ?_⟩)
    repeat (first | (refine wXh ?_) | (apply RD_ldZIB; exact vwF; exact rfl; exact memF; (first | exact AtsZ.y0 | exact AtsZ.y1 | exact AtsZ.w0 | exact AtsZ.w1); exact rfl; exact rfl))
    repeat (refine wXh ?_)
    (refine RD_vals (cs := recs eYW [r]) ([ywv r]) rfl rfl (by intro v hv; repeat (first | exact absurd hv (List.not_mem_nil) | (rcases List.mem_cons.1 hv with rfl | hv; · rfl))) (by omega) rfl rfl rfl ?_; intro c1; refine ⟨okF, ?_⟩)
    refine RD_freezeB .here ?_
    (refine RD_callS rfl (hC _ _ _ memF memF) rfl rfl ?_; rintro _ _ _ ⟨rfl, rfl, rfl⟩; refine ⟨okF, ?_⟩)
    repeat (first | (refine wXh ?_) | (apply RD_ldZIB; exact vwF; exact rfl; exact memF; (first | exact AtsZ.y0 | exact AtsZ.y1 | exact AtsZ.w0 | exact AtsZ.w1); exact rfl; exact rfl))
    repeat (refine wXh ?_)
    (refine RD_c rfl (fun _ => Const_arr (pvs := []) (cells := zTc) rfl rfl) rfl rfl ?_)
    repeat (first | (refine wXh ?_) | (apply RD_ldZIB; exact vwF; exact rfl; exact memF; (first | exact AtsZ.y0 | exact AtsZ.y1 | exact AtsZ.w0 | exact AtsZ.w1); exact rfl; exact rfl))
    repeat (refine wXh ?_)
    refine ND_retsC (rs := [.cell 4 27, .tmp 5]) (vs := [.agg zTc.toArray, .int .i64 1]) (.inl rfl) rfl (.cellN (cs := zTc) inferInstance rfl memF rfl (.tmp rfl .nil)) rfl M0 (allYW [r] :: isW s :: I0) subF incF ⟨rfl, rfl, rfl⟩
set_option maxRecDepth 100000 in
set_option maxHeartbeats 1000000 in
theorem At_ok {r : YE} {s : RE} {k : Nat} (hk : k ≤ 100000) (h0 : r.a.v.dot r.a.v ≠ 0) (hr : Hv I0 (isY r k)) (hs : Hv I0 (isR s k)) :
    CD Tryz.prog 34 [yv r, rv s] X w0 M0 I0 (fun v M I => M0 = M ∧ ∃ p : TE, v = .tuple #[tv p, .int .i64 0] ∧ p.v = r.o.v.along s.q r.a.v ∧ I = isT p (100 * (k + 1)) :: I0) := by
  have hC := fun q M0 I0 h1 h2 => Check1X_ok (X := X) (w0 := w0) (M0 := M0) (I0 := I0) (q := q) (c := 1) (k := k) (r := r) (by omega) h0 h1 h2
  refine xCD_fact (fun w hw => IsR.sml (k := k) (by omega) (hs.go _ w (fun φ hφ => (hw.imm φ hφ).2))) (fun ss => ?_)
  have hV := fun M0 I0 h => Valid_raw (X := X) (w0 := w0) (M0 := M0) (I0 := I0) (r := s.raw) ss h
  rw [B_true s.raw_good] at hV
  have hP := fun M0 I0 h1 h2 h3 => iPlus_ok (X := X) (w0 := w0) (M0 := M0) (I0 := I0) (a := r.o) (b := r.a) (s := s) (k := k) (m := k) (u := k) (by omega) h1 h2 h3
  refine CD_hv (φ := isR s k) hs (CD_hv (φ := isY r k) hr.cons ?_)
  refine CD_hv (φ := isW s.raw) (Hv.toW (Hv.mem (φ := isR s k) (List.Mem.tail _ (List.Mem.head _))) (by omega)) ?_
  refine enterD2 Tryz.func34 rfl Tryz.ntmps34 rfl ?_
  refine TD_seq ?_
  refine TD_region ?_
  (refine RD_boxA rfl rfl rfl ?_; intro b2; refine ⟨okF, ?_⟩)
  refine RD_freezeB .here ?_
  (refine RD_boxA rfl rfl rfl ?_; intro b3; refine ⟨okF, ?_⟩)
  refine RD_freezeB .here ?_
  (refine RD_alloc rfl rfl ?_; intro b4; refine ⟨okF, ?_⟩)
  repeat (first | (refine wXh ?_) | (apply RD_ldZIB; exact vwF; exact rfl; exact memF; (first | exact AtsZ.y0 | exact AtsZ.y1 | exact AtsZ.w0 | exact AtsZ.w1); exact rfl; exact rfl))
  repeat (refine wXh ?_)
  (refine RD_vals (cs := recs eY [r]) ([yv r]) rfl rfl (by intro v hv; repeat (first | exact absurd hv (List.not_mem_nil) | (rcases List.mem_cons.1 hv with rfl | hv; · rfl))) (by omega) rfl rfl rfl ?_; intro c1; refine ⟨okF, ?_⟩)
  refine RD_freezeB .here ?_
  (refine RD_callS rfl (hC _ _ _ (Hv.mem memF) memF) rfl rfl ?_; rintro _ _ _ ⟨rfl, rfl, rfl⟩; refine ⟨okF, ?_⟩)
  repeat (first | (refine wXh ?_) | (apply RD_ldZIB; exact vwF; exact rfl; exact memF; (first | exact AtsZ.y0 | exact AtsZ.y1 | exact AtsZ.w0 | exact AtsZ.w1); exact rfl; exact rfl))
  repeat (refine wXh ?_)
  (refine RD_callS rfl (hV _ _ (Hv.mem memF)) rfl rfl ?_; rintro _ _ _ ⟨rfl, rfl, rfl⟩; refine ⟨okF, ?_⟩)
  repeat (first | (refine wXh ?_) | (apply RD_ldZIB; exact vwF; exact rfl; exact memF; (first | exact AtsZ.y0 | exact AtsZ.y1 | exact AtsZ.w0 | exact AtsZ.w1); exact rfl; exact rfl))
  repeat (refine wXh ?_)
  (refine RD_callS rfl (hP _ _ (Hv.yo (Hv.mem (φ := isY r k) memF)) (Hv.ya (Hv.mem (φ := isY r k) memF)) (Hv.mem memF)) rfl rfl ?_; rintro _ _ _ ⟨rfl, p, rfl, hp, rfl⟩; refine ⟨okF, ?_⟩)
  repeat (first | (refine wXh ?_) | (apply RD_ldZIB; exact vwF; exact rfl; exact memF; (first | exact AtsZ.y0 | exact AtsZ.y1 | exact AtsZ.w0 | exact AtsZ.w1); exact rfl; exact rfl))
  repeat (refine wXh ?_)
  refine ND_hv (φ := isT p (100 * (k + 1))) (Hv.upT (Hv.mem (φ := isT p (k + (k + k) + 1)) memF) (by omega)) ?_
  refine ND_retsC (rs := [.cell 4 27, .tmp 5]) (vs := [tv p, .int .i64 0]) (.inl rfl) rfl (.cellN (cs := recs eR [p.x, p.y, p.z]) inferInstance rfl memF rfl (.tmp rfl .nil)) rfl M0 (isT p (100 * (k + 1)) :: I0) subF incF ⟨rfl, p, rfl, hp, rfl⟩
end
end Go.Proofs.YtllaoaobnnondaaGreatR
namespace Go.Proofs.YtllaoaobnnondaaGreatR
open Go Go.Fx
theorem sgnP3 {q : Rat} : 0 < q.num.sign ↔ 0 < q := by
  rw [Int.sign_pos_iff, rat_lt]
  simp
section
variable {X : List Nat} {w0 : World} {M0 : List Ent} {I0 : List Imm}
set_option maxRecDepth 100000 in
set_option maxHeartbeats 1000000 in
theorem Front_bad {r : YW} {p : TW} (sr : r.sml) (sp : p.sml) (hb : ¬ (r.ok ∧ p.good)) (hr : Hv I0 (isYW r)) (hp : Hv I0 (isTW p)) :
    CD Tryz.prog 35 [ywv r, twv p] X w0 M0 I0 (fun v M I => M0 = M ∧ I0 = I ∧ v = .tuple #[.bool false, .int .i64 1]) := by
  have hC := fun q M0 I0 h1 h2 => iCheck_ok (X := X) (w0 := w0) (M0 := M0) (I0 := I0) (q := q) (c := 1) (n := 1) (ms := [r]) rfl (by decide) (fun x hx => by rw [List.mem_singleton.1 hx]; exact sr) h1 h2
  have hV := fun M0 I0 h => icanonical_ok (X := X) (w0 := w0) (M0 := M0) (I0 := I0) (p := p) sp h
  refine CD_hvV (φ := isTW p) hp (CD_hvV (φ := allYW [r]) hr.yw1.cons ?_)
  by_cases h1 : r.ok
  · have h2 : ¬ p.good := fun h => hb ⟨h1, h⟩
    rw [chkC_ok (fun x hx => by rw [List.mem_singleton.1 hx]; exact h1)] at hC
    rw [B_false h2] at hV
    refine enterD2 Tryz.func35 rfl Tryz.ntmps35 rfl ?_
    refine TD_seq ?_
    refine TD_region ?_
    (refine RD_boxA rfl rfl rfl ?_; intro b2; refine ⟨okF, ?_⟩)
    refine RD_freezeB .here ?_
    (refine RD_boxA rfl rfl rfl ?_; intro b3; refine ⟨okF, ?_⟩)
    refine RD_freezeB .here ?_
    repeat (first | (refine wXh ?_) | (apply RD_ldZIB; exact vwF; exact rfl; exact memF; (first | exact AtsZ.y0 | exact AtsZ.y1 | exact AtsZ.w0 | exact AtsZ.w1); exact rfl; exact rfl))
    repeat (refine wXh ?_)
    (refine RD_vals (cs := recs eYW [r]) ([ywv r]) rfl rfl (by intro v hv; repeat (first | exact absurd hv (List.not_mem_nil) | (rcases List.mem_cons.1 hv with rfl | hv; · rfl))) (by omega) rfl rfl rfl ?_; intro c1; refine ⟨okF, ?_⟩)
    refine RD_freezeB .here ?_
    (refine RD_callS rfl (hC _ _ _ memF memF) rfl rfl ?_; rintro _ _ _ ⟨rfl, rfl, rfl⟩; refine ⟨okF, ?_⟩)
    repeat (first | (refine wXh ?_) | (apply RD_ldZIB; exact vwF; exact rfl; exact memF; (first | exact AtsZ.y0 | exact AtsZ.y1 | exact AtsZ.w0 | exact AtsZ.w1); exact rfl; exact rfl))
    repeat (refine wXh ?_)
    (refine RD_callS rfl (hV _ _ (Hv.mem memF)) rfl rfl ?_; rintro _ _ _ ⟨rfl, rfl, rfl⟩; refine ⟨okF, ?_⟩)
    repeat (first | (refine wXh ?_) | (apply RD_ldZIB; exact vwF; exact rfl; exact memF; (first | exact AtsZ.y0 | exact AtsZ.y1 | exact AtsZ.w0 | exact AtsZ.w1); exact rfl; exact rfl))
    repeat (refine wXh ?_)
    refine ND_rets [4, 5] (by first | exact .inl rfl | exact .inr rfl) rfl rfl rfl _ _ subF incF (⟨rfl, rfl, rfl⟩)
  · rw [chkC_no (fun h => h1 (h r (by simp)))] at hC
    refine enterD2 Tryz.func35 rfl Tryz.ntmps35 rfl ?_
    refine TD_seq ?_
    refine TD_region ?_
    (refine RD_boxA rfl rfl rfl ?_; intro b2; refine ⟨okF, ?_⟩)
    refine RD_freezeB .here ?_
    (refine RD_boxA rfl rfl rfl ?_; intro b3; refine ⟨okF, ?_⟩)
    refine RD_freezeB .here ?_
    repeat (first | (refine wXh ?_) | (apply RD_ldZIB; exact vwF; exact rfl; exact memF; (first | exact AtsZ.y0 | exact AtsZ.y1 | exact AtsZ.w0 | exact AtsZ.w1); exact rfl; exact rfl))
    repeat (refine wXh ?_)
    (refine RD_vals (cs := recs eYW [r]) ([ywv r]) rfl rfl (by intro v hv; repeat (first | exact absurd hv (List.not_mem_nil) | (rcases List.mem_cons.1 hv with rfl | hv; · rfl))) (by omega) rfl rfl rfl ?_; intro c1; refine ⟨okF, ?_⟩)
    refine RD_freezeB .here ?_
    (refine RD_callS rfl (hC _ _ _ memF memF) rfl rfl ?_; rintro _ _ _ ⟨rfl, rfl, rfl⟩; refine ⟨okF, ?_⟩)
    repeat (first | (refine wXh ?_) | (apply RD_ldZIB; exact vwF; exact rfl; exact memF; (first | exact AtsZ.y0 | exact AtsZ.y1 | exact AtsZ.w0 | exact AtsZ.w1); exact rfl; exact rfl))
    repeat (refine wXh ?_)
    refine ND_rets [4, 5] (by first | exact .inl rfl | exact .inr rfl) rfl rfl rfl _ _ subF incF (⟨rfl, rfl, rfl⟩)
set_option maxRecDepth 100000 in
set_option maxHeartbeats 1000000 in
theorem Front_ok {r : YE} {p : TE} {k : Nat} (hk : k ≤ 100000) (h0 : r.a.v.dot r.a.v ≠ 0) (hr : Hv I0 (isY r k)) (hp : Hv I0 (isT p k)) :
    CD Tryz.prog 35 [yv r, tv p] X w0 M0 I0 (fun v M I => M0 = M ∧ I0 = I ∧ v = .tuple #[.bool (B (0 < (p.v.sub r.o.v).dot r.a.v)), .int .i64 0]) := by
  have hC := fun q M0 I0 h1 h2 => Check1X_ok (X := X) (w0 := w0) (M0 := M0) (I0 := I0) (q := q) (c := 1) (k := k) (r := r) (by omega) h0 h1 h2
  refine xCD_fact (fun w hw => IsT.sml (k := k) (by omega) (hp.go _ w (fun φ hφ => (hw.imm φ hφ).2))) (fun ss => ?_)
  have hV := fun M0 I0 h => icanonical_ok (X := X) (w0 := w0) (M0 := M0) (I0 := I0) (p := p.raw) ss h
  rw [B_true p.raw_good] at hV
  have hMi := fun M0 I0 h1 h2 => iMinus_ok (X := X) (w0 := w0) (M0 := M0) (I0 := I0) (a := p) (b := r.o) (k := k) (m := k) (by omega) h1 h2
  have hDo := fun (d : TE) M0 I0 h1 h2 => iDot_ok (X := X) (w0 := w0) (M0 := M0) (I0 := I0) (a := d) (b := r.a) (k := k + k + 1) (m := k) (by omega) h1 h2
  refine CD_hvV (φ := isT p k) hp (CD_hvV (φ := isY r k) hr.cons ?_)
  refine CD_hvV (φ := isTW p.raw) (Hv.rawT (Hv.mem (φ := isT p k) (List.Mem.tail _ (List.Mem.head _))) (by omega)) ?_
  refine enterD2 Tryz.func35 rfl Tryz.ntmps35 rfl ?_
  refine TD_seq ?_
  refine TD_region ?_
  (refine RD_boxA rfl rfl rfl ?_; intro b2; refine ⟨okF, ?_⟩)
  refine RD_freezeB .here ?_
  (refine RD_boxA rfl rfl rfl ?_; intro b3; refine ⟨okF, ?_⟩)
  refine RD_freezeB .here ?_
  repeat (first | (refine wXh ?_) | (apply RD_ldZIB; exact vwF; exact rfl; exact memF; (first | exact AtsZ.y0 | exact AtsZ.y1 | exact AtsZ.w0 | exact AtsZ.w1); exact rfl; exact rfl))
  repeat (refine wXh ?_)
  (refine RD_vals (cs := recs eY [r]) ([yv r]) rfl rfl (by intro v hv; repeat (first | exact absurd hv (List.not_mem_nil) | (rcases List.mem_cons.1 hv with rfl | hv; · rfl))) (by omega) rfl rfl rfl ?_; intro c1; refine ⟨okF, ?_⟩)
  refine RD_freezeB .here ?_
  (refine RD_callS rfl (hC _ _ _ (Hv.mem memF) memF) rfl rfl ?_; rintro _ _ _ ⟨rfl, rfl, rfl⟩; refine ⟨okF, ?_⟩)
  repeat (first | (refine wXh ?_) | (apply RD_ldZIB; exact vwF; exact rfl; exact memF; (first | exact AtsZ.y0 | exact AtsZ.y1 | exact AtsZ.w0 | exact AtsZ.w1); exact rfl; exact rfl))
  repeat (refine wXh ?_)
  (refine RD_callS rfl (hV _ _ (Hv.mem memF)) rfl rfl ?_; rintro _ _ _ ⟨rfl, rfl, rfl⟩; refine ⟨okF, ?_⟩)
  repeat (first | (refine wXh ?_) | (apply RD_ldZIB; exact vwF; exact rfl; exact memF; (first | exact AtsZ.y0 | exact AtsZ.y1 | exact AtsZ.w0 | exact AtsZ.w1); exact rfl; exact rfl))
  repeat (refine wXh ?_)
  (repeat refine TD_seq ?_); refine TD_drawnW (M0) (slI (some ⟨b3, 0, none⟩) (recs eR [p.x, p.y, p.z]) :: slI (some ⟨b2, 0, none⟩) (recs eT [r.o, r.a]) :: isTW p.raw :: isY r k :: isT p k :: I0) [0, 1, 2, 4, 5, 3, 6, 7, 8, 9, 10] [2, 3, 2, 3, 2, 0, 0, 0, 0, 0, 0] subF incF mixed (by kernel_rfl) ?_
  repeat (first | (refine wXh ?_) | (apply RD_ldZIB; exact vwF; exact rfl; exact memF; (first | exact AtsZ.y0 | exact AtsZ.y1 | exact AtsZ.w0 | exact AtsZ.w1); exact rfl; exact rfl))
  repeat (refine wXh ?_)
  (refine RD_callS rfl (hMi _ _ (Hv.mem (φ := isT p k) memF) (Hv.yo (Hv.mem (φ := isY r k) memF))) rfl rfl ?_; rintro _ _ _ ⟨rfl, d, rfl, hd, rfl⟩; refine ⟨okF, ?_⟩)
  repeat (first | (refine wXh ?_) | (apply RD_ldZIB; exact vwF; exact rfl; exact memF; (first | exact AtsZ.y0 | exact AtsZ.y1 | exact AtsZ.w0 | exact AtsZ.w1); exact rfl; exact rfl))
  repeat (refine wXh ?_)
  (refine RD_callS rfl (hDo d _ _ (Hv.mem memF) (Hv.ya (Hv.mem (φ := isY r k) memF))) rfl rfl ?_; rintro _ _ _ ⟨rfl, e, rfl, he, rfl⟩; refine ⟨okF, ?_⟩)
  (refine RD_callS rfl (QSign_ok (e := e) (k := 3 * (k + k + 1 + k + 1)) (by omega) (Hv.mem memF)) rfl rfl ?_; rintro _ _ _ ⟨rfl, rfl, rfl⟩; refine ⟨okF, ?_⟩)
  repeat (first | (refine wXh ?_) | (apply RD_ldZIB; exact vwF; exact rfl; exact memF; (first | exact AtsZ.y0 | exact AtsZ.y1 | exact AtsZ.w0 | exact AtsZ.w1); exact rfl; exact rfl))
  repeat (refine wXh ?_)
  have hB : B (0 < e.q.num.sign) = B (0 < (p.v.sub r.o.v).dot r.a.v) := B_congr (by rw [sgnP3, he, hd])
  rw [hB]
  refine ND_rets [4, 5] (by first | exact .inl rfl | exact .inr rfl) rfl rfl rfl _ _ subF incF (⟨rfl, rfl, rfl⟩)
set_option maxRecDepth 100000 in
set_option maxHeartbeats 1000000 in
theorem Parallax_bad {r s : YW} (sr : r.sml) (ss : s.sml) (hb : ¬ (r.ok ∧ s.ok)) (hr : Hv I0 (isYW r)) (hs : Hv I0 (isYW s)) :
    CD Tryz.prog 27 [ywv r, ywv s] X w0 M0 I0 (fun v M I => M0 = M ∧ I0 = I ∧ v = .tuple #[.agg zRv.toArray, .int .i64 1]) := by
  have hC := fun q M0 I0 h1 h2 => iCheck_ok (X := X) (w0 := w0) (M0 := M0) (I0 := I0) (q := q) (c := 2) (n := 2) (ms := [r, s]) rfl (by decide) (fun x hx => by simp only [List.mem_cons, List.not_mem_nil, or_false] at hx; rcases hx with rfl | rfl <;> assumption) h1 h2
  rw [chkC_no (fun h => hb ⟨h r (by simp), h s (by simp)⟩)] at hC
  refine CD_hvV (φ := allYW [r, s]) (Hv.yw2 hr hs) ?_
  refine enterD2 Tryz.func27 rfl Tryz.ntmps27 rfl ?_
  refine TD_seq ?_
  refine TD_region ?_
  (refine RD_boxA rfl rfl rfl ?_; intro b2; refine ⟨okF, ?_⟩)
  refine RD_freezeB .here ?_
  (refine RD_boxA rfl rfl rfl ?_; intro b3; refine ⟨okF, ?_⟩)
  refine RD_freezeB .here ?_
  (refine RD_alloc rfl rfl ?_; intro b4; refine ⟨okF, ?_⟩)
  repeat (first | (refine wXh ?_) | (apply RD_ldZIB; exact vwF; exact rfl; exact memF; (first | exact AtsZ.y0 | exact AtsZ.y1 | exact AtsZ.w0 | exact AtsZ.w1); exact rfl; exact rfl))
  repeat (refine wXh ?_)
  (refine RD_vals (cs := recs eYW [r, s]) ([ywv r, ywv s]) rfl rfl (by intro v hv; repeat (first | exact absurd hv (List.not_mem_nil) | (rcases List.mem_cons.1 hv with rfl | hv; · rfl))) (by omega) rfl rfl rfl ?_; intro c1; refine ⟨okF, ?_⟩)
  refine RD_freezeB .here ?_
  (refine RD_callS rfl (hC _ _ _ memF memF) rfl rfl ?_; rintro _ _ _ ⟨rfl, rfl, rfl⟩; refine ⟨okF, ?_⟩)
  repeat (first | (refine wXh ?_) | (apply RD_ldZIB; exact vwF; exact rfl; exact memF; (first | exact AtsZ.y0 | exact AtsZ.y1 | exact AtsZ.w0 | exact AtsZ.w1); exact rfl; exact rfl))
  repeat (refine wXh ?_)
  (refine RD_c rfl (fun _ => Const_struct (pvs := ([]).zipIdx.map (fun p => (p.2, p.1))) (cells := zRv) rfl rfl) rfl rfl ?_)
  repeat (first | (refine wXh ?_) | (apply RD_ldZIB; exact vwF; exact rfl; exact memF; (first | exact AtsZ.y0 | exact AtsZ.y1 | exact AtsZ.w0 | exact AtsZ.w1); exact rfl; exact rfl))
  repeat (refine wXh ?_)
  refine ND_retsC (rs := [.cell 4 26, .tmp 5]) (vs := [.agg zRv.toArray, .int .i64 1]) (.inl rfl) rfl (.cellN (cs := zRv) inferInstance rfl memF rfl (.tmp rfl .nil)) rfl M0 (allYW [r, s] :: I0) subF incF ⟨rfl, rfl, rfl⟩
set_option maxRecDepth 100000 in
set_option maxHeartbeats 1000000 in
theorem Parallax_ok {r s : YE} {k : Nat} (hk : k ≤ 100000) (hr0 : r.a.v.dot r.a.v ≠ 0) (hs0 : s.a.v.dot s.a.v ≠ 0) (hr : Hv I0 (isY r k)) (hs : Hv I0 (isY s k)) :
    CD Tryz.prog 27 [yv r, yv s] X w0 M0 I0 (RQc (gramD r.a.v s.a.v / (r.a.v.dot r.a.v * s.a.v.dot s.a.v)) (100 * (k + 1)) M0 I0) := by
  have hC := fun q M0 I0 h1 h2 h3 => Check2X_ok (X := X) (w0 := w0) (M0 := M0) (I0 := I0) (q := q) (c := 2) (k := k) (r := r) (s := s) (by omega) hr0 hs0 h1 h2 h3
  have hP := fun M0 I0 h1 h2 => iParallax_ok (X := X) (w0 := w0) (M0 := M0) (I0 := I0) (r := r) (s := s) (k := k) hk hr0 hs0 h1 h2
  refine CD_hv (φ := isY r k) hr (CD_hv (φ := isY s k) hs.cons ?_)
  refine enterD2 Tryz.func27 rfl Tryz.ntmps27 rfl ?_
  refine TD_seq ?_
  refine TD_region ?_
  (refine RD_boxA rfl rfl rfl ?_; intro b2; refine ⟨okF, ?_⟩)
  refine RD_freezeB .here ?_
  (refine RD_boxA rfl rfl rfl ?_; intro b3; refine ⟨okF, ?_⟩)
  refine RD_freezeB .here ?_
  (refine RD_alloc rfl rfl ?_; intro b4; refine ⟨okF, ?_⟩)
  repeat (first | (refine wXh ?_) | (apply RD_ldZIB; exact vwF; exact rfl; exact memF; (first | exact AtsZ.y0 | exact AtsZ.y1 | exact AtsZ.w0 | exact AtsZ.w1); exact rfl; exact rfl))
  repeat (refine wXh ?_)
  (refine RD_vals (cs := recs eY [r, s]) ([yv r, yv s]) rfl rfl (by intro v hv; repeat (first | exact absurd hv (List.not_mem_nil) | (rcases List.mem_cons.1 hv with rfl | hv; · rfl))) (by omega) rfl rfl rfl ?_; intro c1; refine ⟨okF, ?_⟩)
  refine RD_freezeB .here ?_
  (refine RD_callS rfl (hC _ _ _ (Hv.mem memF) (Hv.mem memF) memF) rfl rfl ?_; rintro _ _ _ ⟨rfl, rfl, rfl⟩; refine ⟨okF, ?_⟩)
  repeat (first | (refine wXh ?_) | (apply RD_ldZIB; exact vwF; exact rfl; exact memF; (first | exact AtsZ.y0 | exact AtsZ.y1 | exact AtsZ.w0 | exact AtsZ.w1); exact rfl; exact rfl))
  repeat (refine wXh ?_)
  (refine RD_callS rfl (hP _ _ (Hv.mem memF) (Hv.mem memF)) rfl rfl ?_; rintro _ _ _ ⟨rfl, e, rfl, he, rfl⟩; refine ⟨okF, ?_⟩)
  repeat (first | (refine wXh ?_) | (apply RD_ldZIB; exact vwF; exact rfl; exact memF; (first | exact AtsZ.y0 | exact AtsZ.y1 | exact AtsZ.w0 | exact AtsZ.w1); exact rfl; exact rfl))
  repeat (refine wXh ?_)
  refine ND_retsC (rs := [.cell 4 26, .tmp 5]) (vs := [rv e, .int .i64 0]) (.inl rfl) rfl (.cellN (cs := eR e) inferInstance rfl memF rfl (.tmp rfl .nil)) rfl M0 (isR e (100 * (k + 1)) :: I0) subF incF ⟨rfl, e, rfl, he, rfl⟩
end
end Go.Proofs.YtllaoaobnnondaaGreatR

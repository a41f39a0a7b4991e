/- The law's shape and against; matrix.CheckWitness. -/
import Derived.Test.YtdmlebigkakplaaGreatZdap
import Derived.Test.YtdmlebigkakplaaGreatZdae
import Derived.Test.YtdmlebigkakplaaGreatZdaa
set_option linter.unusedSimpArgs false
set_option linter.unusedVariables false
namespace Go.Proofs.YtdmlebigkakplaaGreat
open Go Go.Fx
theorem sign_le (q : Rat) : q.num.sign ≤ 0 ↔ q ≤ 0 := by
  have := sign_pos q
  constructor
  · intro h; exact Rat.not_lt.1 (fun h2 => by have := (sign_pos q).2 h2; omega)
  · intro h; exact Int.not_lt.1 (fun h2 => Rat.not_lt.2 h ((sign_pos q).1 h2))
abbrev witD (A : Mt) (v : List Rat) (n : Nat) : Prop := ¬ zeroL v ∧ qfr A v n ≤ 0
section
variable {X : List Nat} {w0 : World} {M0 : List Ent} {I0 : List Imm}
set_option maxRecDepth 100000 in
theorem shape_bad {a : WM} (sa : a.sml) (hc : sqC a ≠ 0) (ha : isWM a ∈ I0) : CD Tryz.prog 76 [mvW a] X w0 M0 I0 (fun v M I => M0 = M ∧ I0 = I ∧ v = .int .i64 (sqC a)) := by
  have hC1 := fun q M0 I0 h1 h2 => code05_ok (X := X) (w0 := w0) (M0 := M0) (I0 := I0) (q := q) (c := 1) (ms := [a]) (by simp) (fun m hm => by simp at hm; subst hm; assumption) h1 h2
  rw [code_1] at hC1
  refine CD_hv (φ := slI a.p (recs eWL a.rows)) (Hv.wmsl ha) ?_
  refine CD_hv (φ := allWM [a]) (Hv.wm1 (List.Mem.tail _ ha)) ?_
  by_cases hok : a.ok
  · have hne : a.rows.length ≠ (gt a.rows 0).es.length := fun e => hc (by unfold sqC; rw [if_pos hok, if_pos e])
    have e4 : sqC a = 4 := by unfold sqC; rw [if_pos hok, if_neg hne]
    rw [WM.code_ok hok] at hC1
    rw [e4]
    obtain ⟨a1, a2, a3, a4⟩ := hok.1
    refine enterD1 Tryz.func76 rfl Tryz.ntmps76 rfl ?_
    repeat (refine wXh ?_)
    (refine RD_vals (cs := recs eWM [a]) ([mvW a]) rfl rfl (by intro v hv; repeat (first | exact absurd hv (List.not_mem_nil) | (rcases List.mem_cons.1 hv with rfl | hv; · rfl))) (by omega) rfl rfl rfl ?_; intro c1; refine ⟨okF, ?_⟩)
    refine RD_freezeB .here ?_
    (refine RD_callS rfl (hC1 _ _ _ memF memF) rfl rfl ?_; rintro _ _ _ ⟨rfl, rfl, rfl⟩; refine ⟨okF, ?_⟩)
    repeat (refine wXh ?_)
    refine ND_ret1 (by first | exact .inl rfl | exact .inr rfl) rfl rfl _ _ subF incF (⟨rfl, rfl, rfl⟩)
  · have e1 : sqC a = 1 := by unfold sqC; rw [if_neg hok]
    rw [WM.code_no hok] at hC1
    rw [e1]
    refine enterD1 Tryz.func76 rfl Tryz.ntmps76 rfl ?_
    repeat (refine wXh ?_)
    (refine RD_vals (cs := recs eWM [a]) ([mvW a]) rfl rfl (by intro v hv; repeat (first | exact absurd hv (List.not_mem_nil) | (rcases List.mem_cons.1 hv with rfl | hv; · rfl))) (by omega) rfl rfl rfl ?_; intro c1; refine ⟨okF, ?_⟩)
    refine RD_freezeB .here ?_
    (refine RD_callS rfl (hC1 _ _ _ memF memF) rfl rfl ?_; rintro _ _ _ ⟨rfl, rfl, rfl⟩; refine ⟨okF, ?_⟩)
    repeat (refine wXh ?_)
    refine ND_ret1 (by first | exact .inl rfl | exact .inr rfl) rfl rfl _ _ subF incF (⟨rfl, rfl, rfl⟩)
set_option maxRecDepth 100000 in
theorem shape_ok {a : MX} {n k : Nat} (hk : k ≤ 20000000) (da : a.fit n n) (ha : isX a k ∈ I0) : CD Tryz.prog 76 [mv a] X w0 M0 I0 (fun v M I => M0 = M ∧ I0 = I ∧ v = .int .i64 (symC a.q n)) := by
  obtain ⟨n1, n2⟩ := da.2.1
  have lR := da.1.1
  have lC := da.r0
  refine xCD_fact (fun w hw => Mem.xsml ha da hk hw) (fun sa => ?_)
  have hC1 := fun q M0 I0 h1 h2 => code05_ok (X := X) (w0 := w0) (M0 := M0) (I0 := I0) (q := q) (c := 1) (ms := [a.raw]) (by simp) (fun m hm => by simp at hm; subst hm; assumption) h1 h2
  rw [code_1, WM.code_ok da.ok] at hC1
  have ev : recs eWM [a.raw] = recs eMX [a] := by show [mvW a.raw] = [mv a]; rw [mv_raw]
  rw [ev] at hC1
  have hS := fun M0 I0 h => rSymmetric_ok (X := X) (w0 := w0) (M0 := M0) (I0 := I0) (a := a) (n := n) (k := k) hk da h
  refine CD_hvV (φ := isWM a.raw) (Hv.xraw ha hk) ?_
  refine CD_hvV (φ := allWM [a.raw]) (Hv.wm1 (List.Mem.head _)) ?_
  refine CD_hv (φ := slI (a).p (recs eL (a).rows)) (Hv.xsl memF) ?_
  unfold symC
  by_cases hs : symM a.q n
  · rw [B_true hs] at hS
    rw [if_pos hs]
    refine enterD1 Tryz.func76 rfl Tryz.ntmps76 rfl ?_
    repeat (refine wXh ?_)
    (refine RD_vals (cs := recs eMX [a]) ([mv a]) rfl rfl (by intro v hv; repeat (first | exact absurd hv (List.not_mem_nil) | (rcases List.mem_cons.1 hv with rfl | hv; · rfl))) (by omega) rfl rfl rfl ?_; intro c1; refine ⟨okF, ?_⟩)
    refine RD_freezeB .here ?_
    (refine RD_callS rfl (hC1 _ _ _ memF memF) rfl rfl ?_; rintro _ _ _ ⟨rfl, rfl, rfl⟩; refine ⟨okF, ?_⟩)
    repeat (refine wXh ?_)
    (refine RD_callS rfl (hS _ _ memF) rfl rfl ?_; rintro _ _ _ ⟨rfl, rfl, rfl⟩; refine ⟨okF, ?_⟩)
    repeat (refine wXh ?_)
    refine ND_ret1 (by first | exact .inl rfl | exact .inr rfl) rfl rfl _ _ subF incF (⟨rfl, rfl, rfl⟩)
  · rw [B_false hs] at hS
    rw [if_neg hs]
    refine enterD1 Tryz.func76 rfl Tryz.ntmps76 rfl ?_
    repeat (refine wXh ?_)
    (refine RD_vals (cs := recs eMX [a]) ([mv a]) rfl rfl (by intro v hv; repeat (first | exact absurd hv (List.not_mem_nil) | (rcases List.mem_cons.1 hv with rfl | hv; · rfl))) (by omega) rfl rfl rfl ?_; intro c1; refine ⟨okF, ?_⟩)
    refine RD_freezeB .here ?_
    (refine RD_callS rfl (hC1 _ _ _ memF memF) rfl rfl ?_; rintro _ _ _ ⟨rfl, rfl, rfl⟩; refine ⟨okF, ?_⟩)
    repeat (refine wXh ?_)
    (refine RD_callS rfl (hS _ _ memF) rfl rfl ?_; rintro _ _ _ ⟨rfl, rfl, rfl⟩; refine ⟨okF, ?_⟩)
    repeat (refine wXh ?_)
    refine ND_ret1 (by first | exact .inl rfl | exact .inr rfl) rfl rfl _ _ subF incF (⟨rfl, rfl, rfl⟩)
set_option maxRecDepth 100000 in
theorem against_bad {a : MX} {x : WL} {n : Nat} (sx : x.sml) (da : a.fit n n) (hb : ¬ (x.good ∧ x.es.length = n)) (hx : isWL x ∈ I0) : CD Tryz.prog 79 [mv a, lvW x] X w0 M0 I0 (fun v M I => M0 = M ∧ I0 = I ∧ v = .bool false) := by
  have hV := fun M0 I0 h1 => rValidList_ok (X := X) (w0 := w0) (M0 := M0) (I0 := I0) (r := x) sx h1
  have lR := da.1.1
  by_cases hg : x.good
  · have hl : ¬ x.es.length = n := fun e => hb ⟨hg, e⟩
    rw [B_true hg] at hV
    refine enterD2 Tryz.func79 rfl Tryz.ntmps79 rfl ?_
    repeat (refine wXh ?_)
    (refine RD_callS rfl (hV _ _ memF) rfl rfl ?_; rintro _ _ _ ⟨rfl, rfl, rfl⟩; refine ⟨okF, ?_⟩)
    repeat (refine wXh ?_)
    refine ND_ret1 (by first | exact .inl rfl | exact .inr rfl) rfl rfl _ _ subF incF (⟨rfl, rfl, rfl⟩)
  · rw [B_false hg] at hV
    refine enterD2 Tryz.func79 rfl Tryz.ntmps79 rfl ?_
    repeat (refine wXh ?_)
    (refine RD_callS rfl (hV _ _ memF) rfl rfl ?_; rintro _ _ _ ⟨rfl, rfl, rfl⟩; refine ⟨okF, ?_⟩)
    repeat (refine wXh ?_)
    refine ND_ret1 (by first | exact .inl rfl | exact .inr rfl) rfl rfl _ _ subF incF (⟨rfl, rfl, rfl⟩)
set_option maxRecDepth 100000 in
theorem against_ok {a : MX} {x : RL} {n k0 m : Nat} (hk : k0 + m ≤ 700000) (hm : m ≤ 600000) (hK : n * (m + n * (k0 + m + 1) + 1) ≤ 100000000) (da : a.fit n n) (hl : x.es.length = n) (ha : isX a k0 ∈ I0) (hx : isL x m ∈ I0) : CD Tryz.prog 79 [mv a, lv x] X w0 M0 I0 (fun v M I => M0 = M ∧ I0 = I ∧ v = .bool (B (witD a.q x.q n))) := by
  obtain ⟨n1, n2⟩ := da.2.1
  have lR := da.1.1
  refine xCD_fact (fun w hw => Mem.lsml hx (by omega) (by omega) hw) (fun sx => ?_)
  refine CD_hvV (φ := isWL x.raw) (Hv.lraw hx (by omega)) ?_
  have hV := fun M0 I0 h1 => rValidList_ok (X := X) (w0 := w0) (M0 := M0) (I0 := I0) (r := x.raw) sx h1
  rw [B_true x.raw_good, lv_raw] at hV
  have hN := fun M0 I0 h1 => rNonzero_ok (X := X) (w0 := w0) (M0 := M0) (I0 := I0) (x := x) (k := m) (by omega) (by omega) h1
  have hF := fun M0 I0 h1 h2 => rForm_ok (X := X) (w0 := w0) (M0 := M0) (I0 := I0) (a := a) (x := x) (n := n) (k0 := k0) (m := m) hk hm hK da hl h1 h2
  generalize n * (m + n * (k0 + m + 1) + 1) = K at *
  by_cases hz : zeroL x.q
  · rw [B_false (p := ¬ zeroL x.q) (fun h => h hz)] at hN
    refine enterD2 Tryz.func79 rfl Tryz.ntmps79 rfl ?_
    repeat (refine wXh ?_)
    (refine RD_callS rfl (hV _ _ memF) rfl rfl ?_; rintro _ _ _ ⟨rfl, rfl, rfl⟩; refine ⟨okF, ?_⟩)
    repeat (refine wXh ?_)
    (refine RD_callS rfl (hN _ _ memF) rfl rfl ?_; rintro _ _ _ ⟨rfl, rfl, rfl⟩; refine ⟨okF, ?_⟩)
    repeat (refine wXh ?_)
    refine ND_ret1 (by first | exact .inl rfl | exact .inr rfl) rfl rfl _ _ subF incF (⟨rfl, rfl, congrArg Value.bool (B_false (p := witD a.q x.q n) (fun h => h.1 hz)).symm⟩)
  · rw [B_true (p := ¬ zeroL x.q) hz] at hN
    refine enterD2 Tryz.func79 rfl Tryz.ntmps79 rfl ?_
    repeat (refine wXh ?_)
    (refine RD_callS rfl (hV _ _ memF) rfl rfl ?_; rintro _ _ _ ⟨rfl, rfl, rfl⟩; refine ⟨okF, ?_⟩)
    repeat (refine wXh ?_)
    (refine RD_callS rfl (hN _ _ memF) rfl rfl ?_; rintro _ _ _ ⟨rfl, rfl, rfl⟩; refine ⟨okF, ?_⟩)
    repeat (refine wXh ?_)
    (refine RD_callS rfl (hF _ _ memF memF) rfl rfl ?_; rintro _ _ _ ⟨rfl, e, rfl, he, rfl⟩; refine ⟨okF, ?_⟩)
    (refine RD_callS rfl (rQSign_ok (e := e) (k := K) (by omega) (Hv.mem memF)) rfl rfl ?_; rintro _ _ _ ⟨rfl, rfl, rfl⟩; refine ⟨okF, ?_⟩)
    repeat (refine wXh ?_)
    refine ND_ret1 (by first | exact .inl rfl | exact .inr rfl) rfl rfl _ _ subF incF (⟨rfl, rfl, congrArg Value.bool (B_congr ((sign_le _).trans (by rw [he]; exact ⟨fun h => ⟨hz, h⟩, fun h => h.2⟩)))⟩)
set_option maxRecDepth 100000 in
theorem CW_bad1 {a : WM} {x : WL} (sa : a.sml) (hc : sqC a ≠ 0) (ha : isWM a ∈ I0) : CD Tryz.prog 77 [mvW a, lvW x] X w0 M0 I0 (fun v M I => M0 = M ∧ I0 = I ∧ v = .bool false) := by
  have hS := fun M0 I0 h1 => symmetric_bad (X := X) (w0 := w0) (M0 := M0) (I0 := I0) (a := a) sa hc h1
  generalize sqC a = cc at *
  refine enterD2 Tryz.func77 rfl Tryz.ntmps77 rfl ?_
  repeat (refine wXh ?_)
  (refine RD_callS rfl (hS _ _ memF) rfl rfl ?_; rintro _ _ _ ⟨rfl, rfl, rfl⟩; refine ⟨okF, ?_⟩)
  repeat (refine wXh ?_)
  refine ND_ret1 (by first | exact .inl rfl | exact .inr rfl) rfl rfl _ _ subF incF (⟨rfl, rfl, rfl⟩)
set_option maxRecDepth 100000 in
theorem CW_bad2 {a : MX} {x : WL} {n k : Nat} (hk : k ≤ 20000000) (sx : x.sml) (da : a.fit n n) (hb : ¬ (symM a.q n ∧ x.es.length = n ∧ x.good)) (ha : isX a k ∈ I0) (hx : isWL x ∈ I0) : CD Tryz.prog 77 [mv a, lvW x] X w0 M0 I0 (fun v M I => M0 = M ∧ I0 = I ∧ v = .bool false) := by
  obtain ⟨n1, n2⟩ := da.2.1
  have lR := da.1.1
  have hS := fun M0 I0 h1 => symmetric_ok (X := X) (w0 := w0) (M0 := M0) (I0 := I0) (a := a) (n := n) (k := k) hk da h1
  have hV := fun M0 I0 h1 => mcanonical_ok (X := X) (w0 := w0) (M0 := M0) (I0 := I0) (r := x) sx h1
  have hsx := sx.1
  unfold symC at hS
  by_cases hs : symM a.q n
  · rw [if_pos hs] at hS
    by_cases hl : x.es.length = n
    · have hg : ¬ x.good := fun e => hb ⟨hs, hl, e⟩
      rw [B_false hg] at hV
      refine enterD2 Tryz.func77 rfl Tryz.ntmps77 rfl ?_
      repeat (refine wXh ?_)
      (refine RD_callS rfl (hS _ _ memF) rfl rfl ?_; rintro _ _ _ ⟨rfl, rfl, rfl⟩; refine ⟨okF, ?_⟩)
      repeat (refine wXh ?_)
      (refine RD_callS rfl (hV _ _ memF) rfl rfl ?_; rintro _ _ _ ⟨rfl, rfl, rfl⟩; refine ⟨okF, ?_⟩)
      repeat (refine wXh ?_)
      refine ND_ret1 (by first | exact .inl rfl | exact .inr rfl) rfl rfl _ _ subF incF (⟨rfl, rfl, rfl⟩)
    · refine enterD2 Tryz.func77 rfl Tryz.ntmps77 rfl ?_
      repeat (refine wXh ?_)
      (refine RD_callS rfl (hS _ _ memF) rfl rfl ?_; rintro _ _ _ ⟨rfl, rfl, rfl⟩; refine ⟨okF, ?_⟩)
      repeat (refine wXh ?_)
      refine ND_ret1 (by first | exact .inl rfl | exact .inr rfl) rfl rfl _ _ subF incF (⟨rfl, rfl, rfl⟩)
  · rw [if_neg hs] at hS
    refine enterD2 Tryz.func77 rfl Tryz.ntmps77 rfl ?_
    repeat (refine wXh ?_)
    (refine RD_callS rfl (hS _ _ memF) rfl rfl ?_; rintro _ _ _ ⟨rfl, rfl, rfl⟩; refine ⟨okF, ?_⟩)
    repeat (refine wXh ?_)
    refine ND_ret1 (by first | exact .inl rfl | exact .inr rfl) rfl rfl _ _ subF incF (⟨rfl, rfl, rfl⟩)
set_option maxRecDepth 100000 in
theorem CW_ok {a : MX} {x : RL} {n k m : Nat} (hk : k ≤ 1000000) (hm : m ≤ 500000) (hK : n * (m + n * (k + m + 1) + 1) ≤ 100000000) (da : a.fit n n) (hs : symM a.q n) (hl : x.es.length = n) (ha : isX a k ∈ I0) (hx : isL x m ∈ I0) : CD Tryz.prog 77 [mv a, lv x] X w0 M0 I0 (fun v M I => M0 = M ∧ I0 = I ∧ v = .bool (B (witD a.q x.q n))) := by
  obtain ⟨n1, n2⟩ := da.2.1
  have lR := da.1.1
  have hS := fun M0 I0 h1 => symmetric_ok (X := X) (w0 := w0) (M0 := M0) (I0 := I0) (a := a) (n := n) (k := k) (by omega) da h1
  unfold symC at hS
  rw [if_pos hs] at hS
  have hV := fun M0 I0 h1 => canonicalX_ok (X := X) (w0 := w0) (M0 := M0) (I0 := I0) (a := x) (k := m) (by omega) (by omega) h1
  have hZ := fun M0 I0 h1 => mzero_ok (X := X) (w0 := w0) (M0 := M0) (I0 := I0) (a := x) (k := m) (by omega) (by omega) h1
  have hA := fun M0 I0 h1 h2 => applied_ok (X := X) (w0 := w0) (M0 := M0) (I0 := I0) (a := a) (x := x) (R := n) (C := n) (k := k) (m := m) hk hm (by omega) n2 da.1 hl h1 h2
  obtain ⟨kw, hkw⟩ : ∃ kw, kw = n * (k + m + 1) := ⟨_, rfl⟩
  rw [← hkw] at hA hK
  by_cases hz : zeroL x.q
  · rw [B_true hz] at hZ
    refine enterD2 Tryz.func77 rfl Tryz.ntmps77 rfl ?_
    repeat (refine wXh ?_)
    (refine RD_callS rfl (hS _ _ memF) rfl rfl ?_; rintro _ _ _ ⟨rfl, rfl, rfl⟩; refine ⟨okF, ?_⟩)
    repeat (refine wXh ?_)
    (refine RD_callS rfl (hV _ _ memF) rfl rfl ?_; rintro _ _ _ ⟨rfl, rfl, rfl⟩; refine ⟨okF, ?_⟩)
    repeat (refine wXh ?_)
    (refine RD_callS rfl (hZ _ _ memF) rfl rfl ?_; rintro _ _ _ ⟨rfl, rfl, rfl⟩; refine ⟨okF, ?_⟩)
    repeat (refine wXh ?_)
    refine ND_ret1 (by first | exact .inl rfl | exact .inr rfl) rfl rfl _ _ subF incF (⟨rfl, rfl, congrArg Value.bool (B_false (p := witD a.q x.q n) (fun h => h.1 hz)).symm⟩)
  · rw [B_false hz] at hZ
    refine enterD2 Tryz.func77 rfl Tryz.ntmps77 rfl ?_
    repeat (refine wXh ?_)
    (refine RD_callS rfl (hS _ _ memF) rfl rfl ?_; rintro _ _ _ ⟨rfl, rfl, rfl⟩; refine ⟨okF, ?_⟩)
    repeat (refine wXh ?_)
    (refine RD_callS rfl (hV _ _ memF) rfl rfl ?_; rintro _ _ _ ⟨rfl, rfl, rfl⟩; refine ⟨okF, ?_⟩)
    repeat (refine wXh ?_)
    (refine RD_callS rfl (hZ _ _ memF) rfl rfl ?_; rintro _ _ _ ⟨rfl, rfl, rfl⟩; refine ⟨okF, ?_⟩)
    repeat (refine wXh ?_)
    (refine RD_callS rfl (hA _ _ memF memF) rfl rfl ?_; rintro _ _ _ ⟨rfl, y, rfl, hy, rfl⟩; refine ⟨okF, ?_⟩)
    have ly : y.es.length = n := by have := congrArg List.length hy; simpa using this
    have hdq : dotQ n x.q y.q = qfr a.q x.q n := by
      unfold dotQ qfr
      exact sm_congr (fun t ht => by rw [hy]; simp [List.getD, ht])
    have hD := fun M0 I0 h1 h2 => dot_ok (X := X) (w0 := w0) (M0 := M0) (I0 := I0) (a := x) (b := y) (ka := m) (kb := kw) (n := n) (by omega) hK hl ly h1 h2
    rw [hdq] at hD
    generalize n * (m + kw + 1) = K at *
    (refine RD_callS rfl (hD _ _ memF memF) rfl rfl ?_; rintro _ _ _ ⟨rfl, e, rfl, he, rfl⟩; refine ⟨okF, ?_⟩)
    (refine RD_callS rfl (QSign_ok (e := e) (k := K) (by omega) (Hv.mem memF)) rfl rfl ?_; rintro _ _ _ ⟨rfl, rfl, rfl⟩; refine ⟨okF, ?_⟩)
    repeat (refine wXh ?_)
    refine ND_ret1 (by first | exact .inl rfl | exact .inr rfl) rfl rfl _ _ subF incF (⟨rfl, rfl, congrArg Value.bool (B_congr ((sign_le _).trans (by rw [he]; exact ⟨fun h => ⟨hz, h⟩, fun h => h.2⟩)))⟩)
end
end Go.Proofs.YtdmlebigkakplaaGreat

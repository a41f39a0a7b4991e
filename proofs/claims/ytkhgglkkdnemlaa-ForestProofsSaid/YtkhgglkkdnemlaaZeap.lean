/- Forest: the law ForestProofs, walked (printed by tools/gen_hc.py). -/
import Derived.Test.YtkhgglkkdnemlaaZean
import Derived.Test.YtkhgglkkdnemlaaZeao
import Derived.Test.YtkhgglkkdnemlaaZeai
set_option linter.unusedSimpArgs false
set_option linter.unusedVariables false
namespace Go.Proofs.Ytkhgglkkdnemlaa
open Go Go.Fx
theorem inR_ex {m : Nat} {l : List Int} : (∃ x ∈ l, x < 0 ∨ (m : Int) ≤ x) ↔ ¬ inR m l := by
  constructor
  · rintro ⟨x, hx, h⟩ h2
    have := h2 x hx
    omega
  · intro h
    refine Classical.byContradiction (fun h2 => h (fun k hk => ?_))
    refine Classical.byContradiction (fun h3 => h2 ⟨k, hk, by omega⟩)
theorem bd_ex {n : Nat} {l : List Int} (hl : l.length = n) : (∃ x ∈ l, x < -274877906944 ∨ 274877906944 < x) ↔ ¬ bdP n l := by
  constructor
  · rintro ⟨x, hx, h⟩ h2
    obtain ⟨j, hj, rfl⟩ := List.mem_iff_getElem.1 hx
    have := h2 j (by omega)
    rw [gt_get hj] at this
    omega
  · intro h
    refine Classical.byContradiction (fun h2 => h (fun j hj => ?_))
    refine Classical.byContradiction (fun h3 => h2 ⟨gt l j, by rw [gt_get (by omega)]; exact List.getElem_mem _, by omega⟩)
section
variable {X : List Nat} {w0 : World} {M0 : List Ent} {I0 : List Imm}
set_option maxRecDepth 100000 in
set_option maxHeartbeats 8000000 in
theorem LProofs_ok {p q1 q2 : Option Addr} {N : Int} {ms : List LK} {l1 l2 : List Int} {c c1 c2 : Nat} (hm2 : (ms.length : Int) ≤ 9223372036854775807) (hl1 : (l1.length : Int) ≤ 9223372036854775807) (hl2 : (l2.length : Int) ≤ 9223372036854775807) (hp : slI p (recs eK ms) ∈ I0) (hq1 : slI q1 (recs (eI .i64) l1) ∈ I0) (hq2 : slI q2 (recs (eI .i64) l2) ∈ I0) :
    CD Try.prog 8 [gv N p ms.length c, .slice q1 l1.length c1, .slice q2 l2.length c2] X w0 M0 I0 (fun v _ _ => v = .bool true) := by
  have hR := fun M0 I0 h => rgCheck_ok (X := X) (w0 := w0) (M0 := M0) (I0 := I0) (p := p) (N := N) (ms := ms) (c := c) rfl hm2 h
  obtain ⟨m, hm⟩ : ∃ m, ms.length = m := ⟨_, rfl⟩
  obtain ⟨t1, ht1⟩ : ∃ t, l1.length = t := ⟨_, rfl⟩
  obtain ⟨t2, ht2⟩ : ∃ t, l2.length = t := ⟨_, rfl⟩
  have hH1 := fun M0 I0 b h h2 => hasI_ok (X := X) (w0 := w0) (M0 := M0) (I0 := I0) (a := l1) (c := c1) (p := q1) (fs := #[]) (cs := #[.pointer (some ⟨b, 0, none⟩)]) (fun x => x < 0 ∨ (m : Int) ≤ x) hl1 h (fun i _ => prf1_ok (b := b) (m := m) (N := N) (p := p) (c := c) h2)
  have hH2 := fun M0 I0 h => hasI_ok (X := X) (w0 := w0) (M0 := M0) (I0 := I0) (a := l2) (c := c2) (p := q2) (fs := #[]) (cs := #[]) (fun x => x < -274877906944 ∨ 274877906944 < x) hl2 h (fun i _ => prf2_ok)
  generalize hb1 : B (∃ x ∈ l1, x < 0 ∨ (m : Int) ≤ x) = f1 at hH1
  generalize hb2 : B (∃ x ∈ l2, x < -274877906944 ∨ 274877906944 < x) = f2 at hH2
  rw [hm] at hR hm2
  rw [ht1] at hl1 hH1
  rw [ht2] at hl2 hH2
  rw [hm, ht1, ht2]
  refine enterD3 Try.func8 rfl Try.ntmps8 rfl ?_
  refine TD_seq ?_
  refine TD_region ?_
  (refine RD_boxA rfl rfl rfl ?_; intro b3; refine ⟨okF, ?_⟩)
  refine RD_freezeB .here ?_
  repeat (refine wXh ?_)
  (refine RD_callS rfl (known11_ok) rfl rfl ?_; rintro _ _ _ ⟨rfl, rfl, rfl⟩; refine ⟨okF, ?_⟩)
  repeat (refine wXh ?_)
  (refine RD_callS rfl (few_ok) rfl rfl ?_; rintro _ _ _ ⟨rfl, rfl, rfl⟩; refine ⟨okF, ?_⟩)
  by_cases hf : N ≤ 10 ∧ m ≤ 24
  rotate_left
  · rw [B_false hf]
    repeat (refine wXh ?_)
    refine ND_ret1 (by first | exact .inl rfl | exact .inr rfl) rfl rfl _ _ subF incF (rfl)
  rw [B_true hf]
  by_cases h40 : t1 ≤ 40
  rotate_left
  · repeat (refine wXh ?_)
    refine ND_ret1 (by first | exact .inl rfl | exact .inr rfl) rfl rfl _ _ subF incF (rfl)
  by_cases h20 : t2 ≤ 20
  rotate_left
  · repeat (refine wXh ?_)
    refine ND_ret1 (by first | exact .inl rfl | exact .inr rfl) rfl rfl _ _ subF incF (rfl)
  by_cases hc : gcode N ms = 0
  rotate_left
  · have hB1 := fun s M0 I0 h => CheckCycle_bad (X := X) (w0 := w0) (M0 := M0) (I0 := I0) (p := p) (N := N) (ms := ms) (c := c) (s := s) hm hm2 hc h
    have hB2 := fun s M0 I0 h => CheckPot_bad (X := X) (w0 := w0) (M0 := M0) (I0 := I0) (p := p) (N := N) (ms := ms) (c := c) (s := s) hm hm2 hc h
    generalize gcode N ms = e at *
    repeat (refine wXh ?_)
    (repeat refine TD_seq ?_); refine TD_drawnW (M0) (slI (some ⟨b3, 0, none⟩) [.int .i64 N, .slice p m c] :: I0) [0, 1, 3, 4, 2, 5, 6, 7] [1, 1, 1, 1, 0, 0, 0, 0] subF incF mixed (by kernel_rfl) ?_
    repeat (refine wXh ?_)
    (refine RD_callS rfl (hB1 _ _ _ memF) rfl rfl ?_; rintro _ _ _ ⟨rfl, rfl, rfl⟩; refine ⟨okF, ?_⟩)
    (refine RD_callS rfl (hB2 _ _ _ memF) rfl rfl ?_; rintro _ _ _ ⟨rfl, rfl, rfl⟩; refine ⟨okF, ?_⟩)
    repeat (refine wXh ?_)
    (refine RD_callS rfl (hR _ _ memF) rfl rfl ?_; rintro _ _ _ ⟨rfl, rfl, rfl⟩; refine ⟨okF, ?_⟩)
    repeat (refine wXh ?_)
    refine ND_ret1 (by first | exact .inl rfl | exact .inr rfl) rfl rfl _ _ subF incF (congrArg Value.bool (B_true rfl))
  rw [hc] at hR
  obtain ⟨n, rfl, hn, hl, hg⟩ := gd_gcode hc
  rw [hm] at hl
  clear hc
  obtain ⟨e1, he1⟩ := CC.ex ms l1
  have hCC := fun M0 I0 h1 h2 => CheckCycle_ok (X := X) (w0 := w0) (M0 := M0) (I0 := I0) (p := p) (q := q1) (n := n) (c := c) (ct := c1) (by omega) hm (by omega) hg ht1 (by omega) he1 h1 h2
  repeat (refine wXh ?_)
  (repeat refine TD_seq ?_); refine TD_drawnW (M0) (slI (some ⟨b3, 0, none⟩) [.int .i64 n, .slice p m c] :: I0) [0, 1, 3, 4, 2, 5, 6, 7] [1, 1, 1, 1, 0, 0, 0, 0] subF incF mixed (by kernel_rfl) ?_
  repeat (refine wXh ?_)
  (refine RD_callS rfl (hCC _ _ memF memF) rfl rfl ?_; rintro _ _ _ ⟨rfl, rfl, rfl⟩; refine ⟨okF, ?_⟩)
  (refine RD_callS rfl (CheckPot_ok (by omega) hm (by omega) hg ht2 hl2 memF memF) rfl rfl ?_; rintro _ _ _ ⟨rfl, rfl, e2, rfl, _, hpc⟩; refine ⟨okF, ?_⟩)
  repeat (refine wXh ?_)
  (refine RD_callS rfl (hR _ _ memF) rfl rfl ?_; rintro _ _ _ ⟨rfl, rfl, rfl⟩; refine ⟨okF, ?_⟩)
  clear hCC hR
  have hno : ¬ (wsum ms l1 < 0 ∧ inR ms.length l1 ∧ chn ms l1 ∧ okP n ms l2) := fun h => by
    have := cyc_pos h.2.2.2.2.2 h.2.1 h.2.2.1
    omega
  have hws0 : t1 = 0 → wsum ms l1 = 0 := fun h => by rw [List.eq_nil_of_length_eq_zero (ht1.trans h)]; rfl
  rcases he1 with ⟨hr, rfl⟩ | ⟨hr, hch, rfl⟩ | ⟨hr, hch, hw, rfl⟩ | ⟨hr, hch, hw, rfl⟩
  · rw [hm] at hr
    obtain rfl : f1 = true := by rw [← hb1]; exact B_true (inR_ex.2 hr)
    repeat (refine wXh ?_)
    (refine RD_callS rfl (hH1 _ _ b3 memF memF) rfl rfl ?_; rintro _ _ _ ⟨rfl, rfl, rfl⟩; refine ⟨okF, ?_⟩)
    repeat (refine wXh ?_)
    rcases hpc with ⟨g1, rfl⟩ | ⟨g1, g2, rfl⟩ | ⟨g1, g2, g3, rfl⟩ | ⟨g1, rfl⟩
    · have htn : t2 ≠ n := fun h => g1 (ht2.trans h)
      repeat (refine wXh ?_)
      refine ND_ret1 (by first | exact .inl rfl | exact .inr rfl) rfl rfl _ _ subF incF (by first | exact congrArg Value.bool (B_true (by decide)) | exact rfl)
    · have htn : t2 = n := ht2.symm.trans g1
      obtain rfl : f2 = true := by rw [← hb2]; exact B_true ((bd_ex g1).2 g2)
      repeat (refine wXh ?_)
      (refine RD_callS rfl (hH2 _ _ memF) rfl rfl ?_; rintro _ _ _ ⟨rfl, rfl, rfl⟩; refine ⟨okF, ?_⟩)
      repeat (refine wXh ?_)
      refine ND_ret1 (by first | exact .inl rfl | exact .inr rfl) rfl rfl _ _ subF incF (by first | exact congrArg Value.bool (B_true (by decide)) | exact rfl)
    · have htn : t2 = n := ht2.symm.trans g1
      obtain rfl : f2 = false := by rw [← hb2]; exact B_false (fun h => (bd_ex g1).1 h g2)
      have hPr := fun M0 I0 h1 h2 => Proved_ok (X := X) (w0 := w0) (M0 := M0) (I0 := I0) (p := p) (q := q2) (n := n) (c := c) (ct := c2) hm (by omega) hg g1 g2 h1 h2
      rw [← htn] at hPr
      repeat (refine wXh ?_)
      (refine RD_callS rfl (hH2 _ _ memF) rfl rfl ?_; rintro _ _ _ ⟨rfl, rfl, rfl⟩; refine ⟨okF, ?_⟩)
      repeat (refine wXh ?_)
      rw [← htn]
      (refine RD_callS rfl (hPr _ _ memF memF) rfl rfl ?_; rintro _ _ _ ⟨rfl, rfl, f, rfl, hf2⟩; refine ⟨okF, ?_⟩)
      cases f
      · repeat (refine wXh ?_)
        refine ND_ret1 (by first | exact .inl rfl | exact .inr rfl) rfl rfl _ _ subF incF (by first | exact congrArg Value.bool (B_true (by decide)) | exact rfl)
      · exact absurd (hf2.1 rfl) g3
    · have htn : t2 = n := ht2.symm.trans g1.1
      obtain rfl : f2 = false := by rw [← hb2]; exact B_false (fun h => (bd_ex g1.1).1 h g1.2.1)
      have hPr := fun M0 I0 h1 h2 => Proved_ok (X := X) (w0 := w0) (M0 := M0) (I0 := I0) (p := p) (q := q2) (n := n) (c := c) (ct := c2) hm (by omega) hg g1.1 g1.2.1 h1 h2
      rw [← htn] at hPr
      repeat (refine wXh ?_)
      (refine RD_callS rfl (hH2 _ _ memF) rfl rfl ?_; rintro _ _ _ ⟨rfl, rfl, rfl⟩; refine ⟨okF, ?_⟩)
      repeat (refine wXh ?_)
      rw [← htn]
      (refine RD_callS rfl (hPr _ _ memF memF) rfl rfl ?_; rintro _ _ _ ⟨rfl, rfl, f, rfl, hf2⟩; refine ⟨okF, ?_⟩)
      cases f
      · exact absurd (hf2.2 g1.2.2) (by decide)
      · repeat (refine wXh ?_)
        refine ND_ret1 (by first | exact .inl rfl | exact .inr rfl) rfl rfl _ _ subF incF (by first | exact congrArg Value.bool (B_true (by decide)) | exact rfl)
  · skip
    rw [hm] at hr
    obtain rfl : f1 = false := by rw [← hb1]; exact B_false (fun h => inR_ex.1 h hr)
    repeat (refine wXh ?_)
    (refine RD_callS rfl (hH1 _ _ b3 memF memF) rfl rfl ?_; rintro _ _ _ ⟨rfl, rfl, rfl⟩; refine ⟨okF, ?_⟩)
    repeat (refine wXh ?_)
    (refine RD_callS rfl (Closed_ok hm (by omega) ht1 (by omega) hr memF memF) rfl rfl ?_; rintro _ _ _ ⟨rfl, rfl, f, rfl, hf1⟩; refine ⟨okF, ?_⟩)
    cases f
    rotate_left
    · exact absurd (hf1.1 rfl).1 hch
    repeat (refine wXh ?_)
    rcases hpc with ⟨g1, rfl⟩ | ⟨g1, g2, rfl⟩ | ⟨g1, g2, g3, rfl⟩ | ⟨g1, rfl⟩
    · have htn : t2 ≠ n := fun h => g1 (ht2.trans h)
      repeat (refine wXh ?_)
      refine ND_ret1 (by first | exact .inl rfl | exact .inr rfl) rfl rfl _ _ subF incF (by first | exact congrArg Value.bool (B_true (by decide)) | exact rfl)
    · have htn : t2 = n := ht2.symm.trans g1
      obtain rfl : f2 = true := by rw [← hb2]; exact B_true ((bd_ex g1).2 g2)
      repeat (refine wXh ?_)
      (refine RD_callS rfl (hH2 _ _ memF) rfl rfl ?_; rintro _ _ _ ⟨rfl, rfl, rfl⟩; refine ⟨okF, ?_⟩)
      repeat (refine wXh ?_)
      refine ND_ret1 (by first | exact .inl rfl | exact .inr rfl) rfl rfl _ _ subF incF (by first | exact congrArg Value.bool (B_true (by decide)) | exact rfl)
    · have htn : t2 = n := ht2.symm.trans g1
      obtain rfl : f2 = false := by rw [← hb2]; exact B_false (fun h => (bd_ex g1).1 h g2)
      have hPr := fun M0 I0 h1 h2 => Proved_ok (X := X) (w0 := w0) (M0 := M0) (I0 := I0) (p := p) (q := q2) (n := n) (c := c) (ct := c2) hm (by omega) hg g1 g2 h1 h2
      rw [← htn] at hPr
      repeat (refine wXh ?_)
      (refine RD_callS rfl (hH2 _ _ memF) rfl rfl ?_; rintro _ _ _ ⟨rfl, rfl, rfl⟩; refine ⟨okF, ?_⟩)
      repeat (refine wXh ?_)
      rw [← htn]
      (refine RD_callS rfl (hPr _ _ memF memF) rfl rfl ?_; rintro _ _ _ ⟨rfl, rfl, f, rfl, hf2⟩; refine ⟨okF, ?_⟩)
      cases f
      · repeat (refine wXh ?_)
        refine ND_ret1 (by first | exact .inl rfl | exact .inr rfl) rfl rfl _ _ subF incF (by first | exact congrArg Value.bool (B_true (by decide)) | exact rfl)
      · exact absurd (hf2.1 rfl) g3
    · have htn : t2 = n := ht2.symm.trans g1.1
      obtain rfl : f2 = false := by rw [← hb2]; exact B_false (fun h => (bd_ex g1.1).1 h g1.2.1)
      have hPr := fun M0 I0 h1 h2 => Proved_ok (X := X) (w0 := w0) (M0 := M0) (I0 := I0) (p := p) (q := q2) (n := n) (c := c) (ct := c2) hm (by omega) hg g1.1 g1.2.1 h1 h2
      rw [← htn] at hPr
      repeat (refine wXh ?_)
      (refine RD_callS rfl (hH2 _ _ memF) rfl rfl ?_; rintro _ _ _ ⟨rfl, rfl, rfl⟩; refine ⟨okF, ?_⟩)
      repeat (refine wXh ?_)
      rw [← htn]
      (refine RD_callS rfl (hPr _ _ memF memF) rfl rfl ?_; rintro _ _ _ ⟨rfl, rfl, f, rfl, hf2⟩; refine ⟨okF, ?_⟩)
      cases f
      · exact absurd (hf2.2 g1.2.2) (by decide)
      · repeat (refine wXh ?_)
        refine ND_ret1 (by first | exact .inl rfl | exact .inr rfl) rfl rfl _ _ subF incF (by first | exact congrArg Value.bool (B_true (by decide)) | exact rfl)
  · skip
    rw [hm] at hr
    obtain rfl : f1 = false := by rw [← hb1]; exact B_false (fun h => inR_ex.1 h hr)
    have hW := fun M0 I0 h1 h2 => rWeight_ok (X := X) (w0 := w0) (M0 := M0) (I0 := I0) (p := p) (q := q1) (n := n) (c := c) (ct := c1) hm (by omega) hg ht1 (by omega) hr h1 h2
    generalize hws : wsum ms l1 = ww at *
    repeat (refine wXh ?_)
    (refine RD_callS rfl (hH1 _ _ b3 memF memF) rfl rfl ?_; rintro _ _ _ ⟨rfl, rfl, rfl⟩; refine ⟨okF, ?_⟩)
    repeat (refine wXh ?_)
    (refine RD_callS rfl (Closed_ok hm (by omega) ht1 (by omega) hr memF memF) rfl rfl ?_; rintro _ _ _ ⟨rfl, rfl, f, rfl, hf1⟩; refine ⟨okF, ?_⟩)
    cases f
    · skip
      repeat (refine wXh ?_)
      rcases hpc with ⟨g1, rfl⟩ | ⟨g1, g2, rfl⟩ | ⟨g1, g2, g3, rfl⟩ | ⟨g1, rfl⟩
      · have htn : t2 ≠ n := fun h => g1 (ht2.trans h)
        repeat (refine wXh ?_)
        refine ND_ret1 (by first | exact .inl rfl | exact .inr rfl) rfl rfl _ _ subF incF (by first | exact congrArg Value.bool (B_true (by decide)) | exact rfl)
      · have htn : t2 = n := ht2.symm.trans g1
        obtain rfl : f2 = true := by rw [← hb2]; exact B_true ((bd_ex g1).2 g2)
        repeat (refine wXh ?_)
        (refine RD_callS rfl (hH2 _ _ memF) rfl rfl ?_; rintro _ _ _ ⟨rfl, rfl, rfl⟩; refine ⟨okF, ?_⟩)
        repeat (refine wXh ?_)
        refine ND_ret1 (by first | exact .inl rfl | exact .inr rfl) rfl rfl _ _ subF incF (by first | exact congrArg Value.bool (B_true (by decide)) | exact rfl)
      · have htn : t2 = n := ht2.symm.trans g1
        obtain rfl : f2 = false := by rw [← hb2]; exact B_false (fun h => (bd_ex g1).1 h g2)
        have hPr := fun M0 I0 h1 h2 => Proved_ok (X := X) (w0 := w0) (M0 := M0) (I0 := I0) (p := p) (q := q2) (n := n) (c := c) (ct := c2) hm (by omega) hg g1 g2 h1 h2
        rw [← htn] at hPr
        repeat (refine wXh ?_)
        (refine RD_callS rfl (hH2 _ _ memF) rfl rfl ?_; rintro _ _ _ ⟨rfl, rfl, rfl⟩; refine ⟨okF, ?_⟩)
        repeat (refine wXh ?_)
        rw [← htn]
        (refine RD_callS rfl (hPr _ _ memF memF) rfl rfl ?_; rintro _ _ _ ⟨rfl, rfl, f, rfl, hf2⟩; refine ⟨okF, ?_⟩)
        cases f
        · repeat (refine wXh ?_)
          refine ND_ret1 (by first | exact .inl rfl | exact .inr rfl) rfl rfl _ _ subF incF (by first | exact congrArg Value.bool (B_true (by decide)) | exact rfl)
        · exact absurd (hf2.1 rfl) g3
      · have htn : t2 = n := ht2.symm.trans g1.1
        obtain rfl : f2 = false := by rw [← hb2]; exact B_false (fun h => (bd_ex g1.1).1 h g1.2.1)
        have hPr := fun M0 I0 h1 h2 => Proved_ok (X := X) (w0 := w0) (M0 := M0) (I0 := I0) (p := p) (q := q2) (n := n) (c := c) (ct := c2) hm (by omega) hg g1.1 g1.2.1 h1 h2
        rw [← htn] at hPr
        repeat (refine wXh ?_)
        (refine RD_callS rfl (hH2 _ _ memF) rfl rfl ?_; rintro _ _ _ ⟨rfl, rfl, rfl⟩; refine ⟨okF, ?_⟩)
        repeat (refine wXh ?_)
        rw [← htn]
        (refine RD_callS rfl (hPr _ _ memF memF) rfl rfl ?_; rintro _ _ _ ⟨rfl, rfl, f, rfl, hf2⟩; refine ⟨okF, ?_⟩)
        cases f
        · exact absurd (hf2.2 g1.2.2) (by decide)
        · repeat (refine wXh ?_)
          refine ND_ret1 (by first | exact .inl rfl | exact .inr rfl) rfl rfl _ _ subF incF (by first | exact congrArg Value.bool (B_true (by decide)) | exact rfl)
    · skip
      repeat (refine wXh ?_)
      (refine RD_callS rfl (hW _ _ memF memF) rfl rfl ?_; rintro _ _ _ ⟨rfl, rfl, rfl⟩; refine ⟨okF, ?_⟩)
      repeat (refine wXh ?_)
      rcases hpc with ⟨g1, rfl⟩ | ⟨g1, g2, rfl⟩ | ⟨g1, g2, g3, rfl⟩ | ⟨g1, rfl⟩
      · have htn : t2 ≠ n := fun h => g1 (ht2.trans h)
        repeat (refine wXh ?_)
        refine ND_ret1 (by first | exact .inl rfl | exact .inr rfl) rfl rfl _ _ subF incF (by first | exact congrArg Value.bool (B_true (by decide)) | exact rfl)
      · have htn : t2 = n := ht2.symm.trans g1
        obtain rfl : f2 = true := by rw [← hb2]; exact B_true ((bd_ex g1).2 g2)
        repeat (refine wXh ?_)
        (refine RD_callS rfl (hH2 _ _ memF) rfl rfl ?_; rintro _ _ _ ⟨rfl, rfl, rfl⟩; refine ⟨okF, ?_⟩)
        repeat (refine wXh ?_)
        refine ND_ret1 (by first | exact .inl rfl | exact .inr rfl) rfl rfl _ _ subF incF (by first | exact congrArg Value.bool (B_true (by decide)) | exact rfl)
      · have htn : t2 = n := ht2.symm.trans g1
        obtain rfl : f2 = false := by rw [← hb2]; exact B_false (fun h => (bd_ex g1).1 h g2)
        have hPr := fun M0 I0 h1 h2 => Proved_ok (X := X) (w0 := w0) (M0 := M0) (I0 := I0) (p := p) (q := q2) (n := n) (c := c) (ct := c2) hm (by omega) hg g1 g2 h1 h2
        rw [← htn] at hPr
        repeat (refine wXh ?_)
        (refine RD_callS rfl (hH2 _ _ memF) rfl rfl ?_; rintro _ _ _ ⟨rfl, rfl, rfl⟩; refine ⟨okF, ?_⟩)
        repeat (refine wXh ?_)
        rw [← htn]
        (refine RD_callS rfl (hPr _ _ memF memF) rfl rfl ?_; rintro _ _ _ ⟨rfl, rfl, f, rfl, hf2⟩; refine ⟨okF, ?_⟩)
        cases f
        · repeat (refine wXh ?_)
          refine ND_ret1 (by first | exact .inl rfl | exact .inr rfl) rfl rfl _ _ subF incF (by first | exact congrArg Value.bool (B_true (by decide)) | exact rfl)
        · exact absurd (hf2.1 rfl) g3
      · have htn : t2 = n := ht2.symm.trans g1.1
        obtain rfl : f2 = false := by rw [← hb2]; exact B_false (fun h => (bd_ex g1.1).1 h g1.2.1)
        have hPr := fun M0 I0 h1 h2 => Proved_ok (X := X) (w0 := w0) (M0 := M0) (I0 := I0) (p := p) (q := q2) (n := n) (c := c) (ct := c2) hm (by omega) hg g1.1 g1.2.1 h1 h2
        rw [← htn] at hPr
        repeat (refine wXh ?_)
        (refine RD_callS rfl (hH2 _ _ memF) rfl rfl ?_; rintro _ _ _ ⟨rfl, rfl, rfl⟩; refine ⟨okF, ?_⟩)
        repeat (refine wXh ?_)
        rw [← htn]
        (refine RD_callS rfl (hPr _ _ memF memF) rfl rfl ?_; rintro _ _ _ ⟨rfl, rfl, f, rfl, hf2⟩; refine ⟨okF, ?_⟩)
        cases f
        · exact absurd (hf2.2 g1.2.2) (by decide)
        · repeat (refine wXh ?_)
          refine ND_ret1 (by first | exact .inl rfl | exact .inr rfl) rfl rfl _ _ subF incF (by first | exact congrArg Value.bool (B_true (by decide)) | exact rfl)
  · skip
    rw [hm] at hr
    obtain rfl : f1 = false := by rw [← hb1]; exact B_false (fun h => inR_ex.1 h hr)
    have hW := fun M0 I0 h1 h2 => rWeight_ok (X := X) (w0 := w0) (M0 := M0) (I0 := I0) (p := p) (q := q1) (n := n) (c := c) (ct := c1) hm (by omega) hg ht1 (by omega) hr h1 h2
    generalize hws : wsum ms l1 = ww at *
    repeat (refine wXh ?_)
    (refine RD_callS rfl (hH1 _ _ b3 memF memF) rfl rfl ?_; rintro _ _ _ ⟨rfl, rfl, rfl⟩; refine ⟨okF, ?_⟩)
    repeat (refine wXh ?_)
    (refine RD_callS rfl (Closed_ok hm (by omega) ht1 (by omega) hr memF memF) rfl rfl ?_; rintro _ _ _ ⟨rfl, rfl, f, rfl, hf1⟩; refine ⟨okF, ?_⟩)
    have ht0 : 0 < t1 := Nat.pos_of_ne_zero (fun h => by have := hws0 h; omega)
    obtain rfl := hf1.2 ⟨hch, ht0⟩
    repeat (refine wXh ?_)
    (refine RD_callS rfl (hW _ _ memF memF) rfl rfl ?_; rintro _ _ _ ⟨rfl, rfl, rfl⟩; refine ⟨okF, ?_⟩)
    repeat (refine wXh ?_)
    rcases hpc with ⟨g1, rfl⟩ | ⟨g1, g2, rfl⟩ | ⟨g1, g2, g3, rfl⟩ | ⟨g1, rfl⟩
    · have htn : t2 ≠ n := fun h => g1 (ht2.trans h)
      repeat (refine wXh ?_)
      refine ND_ret1 (by first | exact .inl rfl | exact .inr rfl) rfl rfl _ _ subF incF (by first | exact congrArg Value.bool (B_true (by decide)) | exact rfl)
    · have htn : t2 = n := ht2.symm.trans g1
      obtain rfl : f2 = true := by rw [← hb2]; exact B_true ((bd_ex g1).2 g2)
      repeat (refine wXh ?_)
      (refine RD_callS rfl (hH2 _ _ memF) rfl rfl ?_; rintro _ _ _ ⟨rfl, rfl, rfl⟩; refine ⟨okF, ?_⟩)
      repeat (refine wXh ?_)
      refine ND_ret1 (by first | exact .inl rfl | exact .inr rfl) rfl rfl _ _ subF incF (by first | exact congrArg Value.bool (B_true (by decide)) | exact rfl)
    · have htn : t2 = n := ht2.symm.trans g1
      obtain rfl : f2 = false := by rw [← hb2]; exact B_false (fun h => (bd_ex g1).1 h g2)
      have hPr := fun M0 I0 h1 h2 => Proved_ok (X := X) (w0 := w0) (M0 := M0) (I0 := I0) (p := p) (q := q2) (n := n) (c := c) (ct := c2) hm (by omega) hg g1 g2 h1 h2
      rw [← htn] at hPr
      repeat (refine wXh ?_)
      (refine RD_callS rfl (hH2 _ _ memF) rfl rfl ?_; rintro _ _ _ ⟨rfl, rfl, rfl⟩; refine ⟨okF, ?_⟩)
      repeat (refine wXh ?_)
      rw [← htn]
      (refine RD_callS rfl (hPr _ _ memF memF) rfl rfl ?_; rintro _ _ _ ⟨rfl, rfl, f, rfl, hf2⟩; refine ⟨okF, ?_⟩)
      cases f
      · repeat (refine wXh ?_)
        refine ND_ret1 (by first | exact .inl rfl | exact .inr rfl) rfl rfl _ _ subF incF (by first | exact congrArg Value.bool (B_true (by decide)) | exact rfl)
      · exact absurd (hf2.1 rfl) g3
    · exact absurd ⟨hw, by rw [hm]; exact hr, hch, g1⟩ hno
end
end Go.Proofs.Ytkhgglkkdnemlaa

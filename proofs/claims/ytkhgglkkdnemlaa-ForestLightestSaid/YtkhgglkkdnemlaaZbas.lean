/- Forest: the law ForestLightest, walked. -/
import Derived.Test.YtkhgglkkdnemlaaZbar
import Derived.Test.YtkhgglkkdnemlaaZbai
set_option linter.unusedSimpArgs false
set_option linter.unusedVariables false
namespace Go.Proofs.Ytkhgglkkdnemlaa
open Go Go.Fx
section
variable {X : List Nat} {w0 : World} {M0 : List Ent} {I0 : List Imm}
set_option maxRecDepth 100000 in
set_option maxHeartbeats 4000000 in
theorem LLightest_ok {p q1 q2 : Option Addr} {N : Int} {ms : List LK} {l1 l2 : List Int} {c c1 c2 : Nat} (hm2 : (ms.length : Int) ≤ 9223372036854775807) (hl1 : (l1.length : Int) ≤ 9223372036854775807) (hl2 : (l2.length : Int) ≤ 9223372036854775807) (hc1 : l1.length ≤ c1) (hc2 : l2.length ≤ c2) (hp : slI p (recs eK ms) ∈ I0) (hq1 : slI q1 (recs (eI .i64) l1) ∈ I0) (hq2 : slI q2 (recs (eI .i64) l2) ∈ I0) :
    CD Try.prog 7 [gv N p ms.length c, .slice q1 l1.length c1, .slice q2 l2.length c2] X w0 M0 I0 (fun v _ _ => v = .bool true) := by
  have hR := fun M0 I0 h => rgCheck_ok (X := X) (w0 := w0) (M0 := M0) (I0 := I0) (p := p) (N := N) (ms := ms) (c := c) rfl hm2 h
  obtain ⟨m, hm⟩ : ∃ m, ms.length = m := ⟨_, rfl⟩
  obtain ⟨t1, ht1⟩ : ∃ t, l1.length = t := ⟨_, rfl⟩
  obtain ⟨t2, ht2⟩ : ∃ t, l2.length = t := ⟨_, rfl⟩
  rw [hm] at hR hm2
  rw [ht1] at hl1 hc1
  rw [ht2] at hl2 hc2
  rw [hm, ht1, ht2]
  refine enterD3 Try.func7 rfl Try.ntmps7 rfl ?_
  refine TD_seq ?_
  refine TD_region ?_
  (refine RD_boxA rfl rfl rfl ?_; intro b3; refine ⟨okF, ?_⟩)
  refine RD_freezeB .here ?_
  repeat (refine wXh ?_)
  (refine RD_callS rfl (known11_ok) rfl rfl ?_; rintro _ _ _ ⟨rfl, rfl, rfl⟩; refine ⟨okF, ?_⟩)
  repeat (refine wXh ?_)
  (refine RD_callS rfl (few_ok) rfl rfl ?_; rintro _ _ _ ⟨rfl, rfl, rfl⟩; refine ⟨okF, ?_⟩)
  by_cases hf : N ≤ 10 ∧ m ≤ 24
  rotate_left
  · rw [B_false hf]
    repeat (refine wXh ?_)
    refine ND_ret1 (by first | exact .inl rfl | exact .inr rfl) rfl rfl _ _ subF incF (rfl)
  rw [B_true hf]
  by_cases h30 : t1 ≤ 30
  rotate_left
  · repeat (refine wXh ?_)
    refine ND_ret1 (by first | exact .inl rfl | exact .inr rfl) rfl rfl _ _ subF incF (rfl)
  by_cases h31 : t2 ≤ 30
  rotate_left
  · repeat (refine wXh ?_)
    refine ND_ret1 (by first | exact .inl rfl | exact .inr rfl) rfl rfl _ _ subF incF (rfl)
  by_cases hc : gcode N ms = 0
  rotate_left
  · have hB := fun M0 I0 h => CheckTree_bad (X := X) (w0 := w0) (M0 := M0) (I0 := I0) (p := p) (q := q1) (N := N) (ms := ms) (c := c) (t := t1) (ct := c1) hm hm2 hc h
    generalize gcode N ms = e at *
    repeat (refine wXh ?_)
    (refine RD_callS rfl (hB _ _ memF) rfl rfl ?_; rintro _ _ _ ⟨rfl, rfl, rfl⟩; refine ⟨okF, ?_⟩)
    repeat (refine wXh ?_)
    (refine RD_callS rfl (hR _ _ memF) rfl rfl ?_; rintro _ _ _ ⟨rfl, rfl, rfl⟩; refine ⟨okF, ?_⟩)
    repeat (refine wXh ?_)
    refine ND_ret1 (by first | exact .inl rfl | exact .inr rfl) rfl rfl _ _ subF incF (congrArg Value.bool (B_true rfl))
  obtain ⟨n, rfl, hn, hl, hg⟩ := gd_gcode hc
  rw [hm] at hl
  rw [hc] at hR
  have hT := fun M0 I0 h1 h2 => CheckTree_ok (X := X) (w0 := w0) (M0 := M0) (I0 := I0) (p := p) (q := q1) (n := n) (c := c) (ct := c1) (by omega) hm (by omega) hg ht1 (by omega) h1 h2
  have hF := fun M0 I0 h1 h2 => rForest_ok (X := X) (w0 := w0) (M0 := M0) (I0 := I0) (p := p) (q := q1) (n := n) (c := c) (ct := c1) (by omega) hm (by omega) hg ht1 (by omega) hc1 h1 h2
  have hF2 := fun M0 I0 h1 h2 => rForest_ok (X := X) (w0 := w0) (M0 := M0) (I0 := I0) (p := p) (q := q2) (n := n) (c := c) (ct := c2) (by omega) hm (by omega) hg ht2 (by omega) hc2 h1 h2
  by_cases hfc : fcode ms l1 = 0
  rotate_left
  · rw [show ccode ms l1 = fcode ms l1 from if_pos hfc] at hT
    generalize fcode ms l1 = e at *
    repeat (refine wXh ?_)
    (refine RD_callS rfl (hT _ _ memF memF) rfl rfl ?_; rintro _ _ _ ⟨rfl, rfl, rfl⟩; refine ⟨okF, ?_⟩)
    repeat (refine wXh ?_)
    (refine RD_callS rfl (hR _ _ memF) rfl rfl ?_; rintro _ _ _ ⟨rfl, rfl, rfl⟩; refine ⟨okF, ?_⟩)
    repeat (refine wXh ?_)
    (refine RD_callS rfl (hF _ _ memF memF) rfl rfl ?_; rintro _ _ _ ⟨rfl, rfl, rfl⟩; refine ⟨okF, ?_⟩)
    repeat (refine wXh ?_)
    refine ND_ret1 (by first | exact .inl rfl | exact .inr rfl) rfl rfl _ _ subF incF (congrArg Value.bool (B_true rfl))
  have hok := fcode_ok hfc
  rw [hm] at hok
  rw [hfc] at hF
  have hS := fun M0 I0 h1 h2 => rSpanning_ok (X := X) (w0 := w0) (M0 := M0) (I0 := I0) (p := p) (q := q1) (n := n) (c := c) (ct := c1) (by omega) hm (by omega) hg ht1 (by omega) hok.1 h1 h2
  by_cases hs : spn ms l1
  rotate_left
  · rw [B_false hs] at hS
    rw [show ccode ms l1 = 6 by unfold ccode; rw [if_neg (fun h => h hfc), if_pos hs]] at hT
    repeat (refine wXh ?_)
    (refine RD_callS rfl (hT _ _ memF memF) rfl rfl ?_; rintro _ _ _ ⟨rfl, rfl, rfl⟩; refine ⟨okF, ?_⟩)
    repeat (refine wXh ?_)
    (refine RD_callS rfl (hR _ _ memF) rfl rfl ?_; rintro _ _ _ ⟨rfl, rfl, rfl⟩; refine ⟨okF, ?_⟩)
    repeat (refine wXh ?_)
    (refine RD_callS rfl (hF _ _ memF memF) rfl rfl ?_; rintro _ _ _ ⟨rfl, rfl, rfl⟩; refine ⟨okF, ?_⟩)
    repeat (refine wXh ?_)
    (refine RD_callS rfl (hS _ _ memF memF) rfl rfl ?_; rintro _ _ _ ⟨rfl, rfl, rfl⟩; refine ⟨okF, ?_⟩)
    repeat (refine wXh ?_)
    refine ND_ret1 (by first | exact .inl rfl | exact .inr rfl) rfl rfl _ _ subF incF (congrArg Value.bool (B_true rfl))
  rw [B_true hs] at hS
  have hW := fun M0 I0 h1 h2 => rWeight_ok (X := X) (w0 := w0) (M0 := M0) (I0 := I0) (p := p) (q := q1) (n := n) (c := c) (ct := c1) hm (by omega) hg ht1 (by omega) hok.1 h1 h2
  have hkr := kt_inR ms
  rw [hm] at hkr
  have hkl : (kt ms).length ≤ 100000 := by
    have := (kt_perm ms).length_eq
    have := kr_len hg
    omega
  have hWk := fun q c3 M0 I0 h1 h2 => rWeight_ok (X := X) (w0 := w0) (M0 := M0) (I0 := I0) (p := p) (q := q) (n := n) (c := c) (ls := kt ms) (t := (kt ms).length) (ct := c3) hm (by omega) hg rfl hkl hkr h1 h2
  have hcc : ccode ms l1 = if wsum ms l1 ≠ wsum ms (kt ms) then 12 else 0 := by unfold ccode; rw [if_neg (fun h => h hfc), if_neg (fun h => h hs)]
  have hle := fun h1 h2 h3 => kt_least hg (R := l2) h1 h2 h3
  by_cases hw : wsum ms l1 = wsum ms (kt ms)
  rotate_left
  · rw [hcc, if_pos hw] at hT
    clear hle hcc
    generalize wsum ms l1 = a at *
    generalize wsum ms (kt ms) = d at *
    repeat (refine wXh ?_)
    (refine RD_callS rfl (hT _ _ memF memF) rfl rfl ?_; rintro _ _ _ ⟨rfl, rfl, rfl⟩; refine ⟨okF, ?_⟩)
    repeat (refine wXh ?_)
    (refine RD_callS rfl (hR _ _ memF) rfl rfl ?_; rintro _ _ _ ⟨rfl, rfl, rfl⟩; refine ⟨okF, ?_⟩)
    repeat (refine wXh ?_)
    (refine RD_callS rfl (hF _ _ memF memF) rfl rfl ?_; rintro _ _ _ ⟨rfl, rfl, rfl⟩; refine ⟨okF, ?_⟩)
    repeat (refine wXh ?_)
    (refine RD_callS rfl (hS _ _ memF memF) rfl rfl ?_; rintro _ _ _ ⟨rfl, rfl, rfl⟩; refine ⟨okF, ?_⟩)
    repeat (refine wXh ?_)
    (repeat refine TD_seq ?_); refine TD_drawnW (M0) (slI (some ⟨b3, 0, none⟩) [.int .i64 n, .slice p m c] :: I0) [0, 1, 3, 4, 2, 5, 6, 7] [2, 2, 2, 2, 0, 0, 0, 0] subF incF mixed (by kernel_rfl) ?_
    repeat (refine wXh ?_)
    (refine RD_callS rfl (hW _ _ memF memF) rfl rfl ?_; rintro _ _ _ ⟨rfl, rfl, rfl⟩; refine ⟨okF, ?_⟩)
    (refine RD_callS rfl (rTree_ok (by omega) hm (by omega) hg memF) rfl rfl ?_; rintro _ _ _ ⟨rfl, q3, c3, rfl, rfl⟩; refine ⟨okF, ?_⟩)
    (refine RD_callS rfl (hWk _ _ _ _ memF memF) rfl rfl ?_; rintro _ _ _ ⟨rfl, rfl, rfl⟩; refine ⟨okF, ?_⟩)
    repeat (refine wXh ?_)
    refine ND_ret1 (by first | exact .inl rfl | exact .inr rfl) rfl rfl _ _ subF incF (congrArg Value.bool (B_true rfl))
  rw [hcc, if_neg (fun h => h hw)] at hT
  rw [← hw] at hWk hle
  by_cases hf2 : fcode ms l2 = 0
  rotate_left
  · clear hle hcc hw
    generalize wsum ms l1 = a at *
    generalize fcode ms l2 = e at *
    repeat (refine wXh ?_)
    (refine RD_callS rfl (hT _ _ memF memF) rfl rfl ?_; rintro _ _ _ ⟨rfl, rfl, rfl⟩; refine ⟨okF, ?_⟩)
    repeat (refine wXh ?_)
    (refine RD_callS rfl (hR _ _ memF) rfl rfl ?_; rintro _ _ _ ⟨rfl, rfl, rfl⟩; refine ⟨okF, ?_⟩)
    repeat (refine wXh ?_)
    (refine RD_callS rfl (hF _ _ memF memF) rfl rfl ?_; rintro _ _ _ ⟨rfl, rfl, rfl⟩; refine ⟨okF, ?_⟩)
    repeat (refine wXh ?_)
    (refine RD_callS rfl (hS _ _ memF memF) rfl rfl ?_; rintro _ _ _ ⟨rfl, rfl, rfl⟩; refine ⟨okF, ?_⟩)
    repeat (refine wXh ?_)
    (repeat refine TD_seq ?_); refine TD_drawnW (M0) (slI (some ⟨b3, 0, none⟩) [.int .i64 n, .slice p m c] :: I0) [0, 1, 3, 4, 2, 5, 6, 7] [2, 2, 2, 2, 0, 0, 0, 0] subF incF mixed (by kernel_rfl) ?_
    repeat (refine wXh ?_)
    (refine RD_callS rfl (hW _ _ memF memF) rfl rfl ?_; rintro _ _ _ ⟨rfl, rfl, rfl⟩; refine ⟨okF, ?_⟩)
    (refine RD_callS rfl (rTree_ok (by omega) hm (by omega) hg memF) rfl rfl ?_; rintro _ _ _ ⟨rfl, q3, c3, rfl, rfl⟩; refine ⟨okF, ?_⟩)
    (refine RD_callS rfl (hWk _ _ _ _ memF memF) rfl rfl ?_; rintro _ _ _ ⟨rfl, rfl, rfl⟩; refine ⟨okF, ?_⟩)
    repeat (refine wXh ?_)
    (refine RD_callS rfl (hF2 _ _ memF memF) rfl rfl ?_; rintro _ _ _ ⟨rfl, rfl, rfl⟩; refine ⟨okF, ?_⟩)
    repeat (refine wXh ?_)
    refine ND_ret1 (by first | exact .inl rfl | exact .inr rfl) rfl rfl _ _ subF incF (rfl)
  rw [hf2] at hF2
  have hok2 := fcode_ok hf2
  rw [hm] at hok2
  have hS2 := fun M0 I0 h1 h2 => rSpanning_ok (X := X) (w0 := w0) (M0 := M0) (I0 := I0) (p := p) (q := q2) (n := n) (c := c) (ct := c2) (by omega) hm (by omega) hg ht2 (by omega) hok2.1 h1 h2
  have hW2 := fun M0 I0 h1 h2 => rWeight_ok (X := X) (w0 := w0) (M0 := M0) (I0 := I0) (p := p) (q := q2) (n := n) (c := c) (ct := c2) hm (by omega) hg ht2 (by omega) hok2.1 h1 h2
  by_cases hs2 : spn ms l2
  rotate_left
  · rw [B_false hs2] at hS2
    clear hle hcc hw hW2
    generalize wsum ms l1 = a at *
    repeat (refine wXh ?_)
    (refine RD_callS rfl (hT _ _ memF memF) rfl rfl ?_; rintro _ _ _ ⟨rfl, rfl, rfl⟩; refine ⟨okF, ?_⟩)
    repeat (refine wXh ?_)
    (refine RD_callS rfl (hR _ _ memF) rfl rfl ?_; rintro _ _ _ ⟨rfl, rfl, rfl⟩; refine ⟨okF, ?_⟩)
    repeat (refine wXh ?_)
    (refine RD_callS rfl (hF _ _ memF memF) rfl rfl ?_; rintro _ _ _ ⟨rfl, rfl, rfl⟩; refine ⟨okF, ?_⟩)
    repeat (refine wXh ?_)
    (refine RD_callS rfl (hS _ _ memF memF) rfl rfl ?_; rintro _ _ _ ⟨rfl, rfl, rfl⟩; refine ⟨okF, ?_⟩)
    repeat (refine wXh ?_)
    (repeat refine TD_seq ?_); refine TD_drawnW (M0) (slI (some ⟨b3, 0, none⟩) [.int .i64 n, .slice p m c] :: I0) [0, 1, 3, 4, 2, 5, 6, 7] [2, 2, 2, 2, 0, 0, 0, 0] subF incF mixed (by kernel_rfl) ?_
    repeat (refine wXh ?_)
    (refine RD_callS rfl (hW _ _ memF memF) rfl rfl ?_; rintro _ _ _ ⟨rfl, rfl, rfl⟩; refine ⟨okF, ?_⟩)
    (refine RD_callS rfl (rTree_ok (by omega) hm (by omega) hg memF) rfl rfl ?_; rintro _ _ _ ⟨rfl, q3, c3, rfl, rfl⟩; refine ⟨okF, ?_⟩)
    (refine RD_callS rfl (hWk _ _ _ _ memF memF) rfl rfl ?_; rintro _ _ _ ⟨rfl, rfl, rfl⟩; refine ⟨okF, ?_⟩)
    repeat (refine wXh ?_)
    (refine RD_callS rfl (hF2 _ _ memF memF) rfl rfl ?_; rintro _ _ _ ⟨rfl, rfl, rfl⟩; refine ⟨okF, ?_⟩)
    repeat (refine wXh ?_)
    (refine RD_callS rfl (hS2 _ _ memF memF) rfl rfl ?_; rintro _ _ _ ⟨rfl, rfl, rfl⟩; refine ⟨okF, ?_⟩)
    repeat (refine wXh ?_)
    refine ND_ret1 (by first | exact .inl rfl | exact .inr rfl) rfl rfl _ _ subF incF (rfl)
  rw [B_true hs2] at hS2
  have hfin := hle (by rw [hm]; exact hok2.1) hok2.2.2 hs2
  clear hle hcc hw
  generalize wsum ms l1 = a at *
  generalize wsum ms l2 = d at *
  repeat (refine wXh ?_)
  (refine RD_callS rfl (hT _ _ memF memF) rfl rfl ?_; rintro _ _ _ ⟨rfl, rfl, rfl⟩; refine ⟨okF, ?_⟩)
  repeat (refine wXh ?_)
  (refine RD_callS rfl (hR _ _ memF) rfl rfl ?_; rintro _ _ _ ⟨rfl, rfl, rfl⟩; refine ⟨okF, ?_⟩)
  repeat (refine wXh ?_)
  (refine RD_callS rfl (hF _ _ memF memF) rfl rfl ?_; rintro _ _ _ ⟨rfl, rfl, rfl⟩; refine ⟨okF, ?_⟩)
  repeat (refine wXh ?_)
  (refine RD_callS rfl (hS _ _ memF memF) rfl rfl ?_; rintro _ _ _ ⟨rfl, rfl, rfl⟩; refine ⟨okF, ?_⟩)
  repeat (refine wXh ?_)
  (repeat refine TD_seq ?_); refine TD_drawnW (M0) (slI (some ⟨b3, 0, none⟩) [.int .i64 n, .slice p m c] :: I0) [0, 1, 3, 4, 2, 5, 6, 7] [2, 2, 2, 2, 0, 0, 0, 0] subF incF mixed (by kernel_rfl) ?_
  repeat (refine wXh ?_)
  (refine RD_callS rfl (hW _ _ memF memF) rfl rfl ?_; rintro _ _ _ ⟨rfl, rfl, rfl⟩; refine ⟨okF, ?_⟩)
  (refine RD_callS rfl (rTree_ok (by omega) hm (by omega) hg memF) rfl rfl ?_; rintro _ _ _ ⟨rfl, q3, c3, rfl, rfl⟩; refine ⟨okF, ?_⟩)
  (refine RD_callS rfl (hWk _ _ _ _ memF memF) rfl rfl ?_; rintro _ _ _ ⟨rfl, rfl, rfl⟩; refine ⟨okF, ?_⟩)
  repeat (refine wXh ?_)
  (refine RD_callS rfl (hF2 _ _ memF memF) rfl rfl ?_; rintro _ _ _ ⟨rfl, rfl, rfl⟩; refine ⟨okF, ?_⟩)
  repeat (refine wXh ?_)
  (refine RD_callS rfl (hS2 _ _ memF memF) rfl rfl ?_; rintro _ _ _ ⟨rfl, rfl, rfl⟩; refine ⟨okF, ?_⟩)
  repeat (refine wXh ?_)
  (repeat refine TD_seq ?_); refine TD_drawnW (M0) (slI (some ⟨b3, 0, none⟩) [.int .i64 n, .slice p m c] :: I0) [0, 1, 3, 4, 2, 5, 6, 7] [1, 1, 1, 1, 0, 0, 0, 0] subF incF mixed (by kernel_rfl) ?_
  repeat (refine wXh ?_)
  (refine RD_callS rfl (hW _ _ memF memF) rfl rfl ?_; rintro _ _ _ ⟨rfl, rfl, rfl⟩; refine ⟨okF, ?_⟩)
  repeat (refine wXh ?_)
  (refine RD_callS rfl (hW2 _ _ memF memF) rfl rfl ?_; rintro _ _ _ ⟨rfl, rfl, rfl⟩; refine ⟨okF, ?_⟩)
  repeat (refine wXh ?_)
  refine ND_ret1 (by first | exact .inl rfl | exact .inr rfl) rfl rfl _ _ subF incF (congrArg Value.bool (B_true hfin))
end
end Go.Proofs.Ytkhgglkkdnemlaa

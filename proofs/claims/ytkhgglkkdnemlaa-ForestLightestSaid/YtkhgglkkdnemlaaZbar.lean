/- Forest: CheckTree; the laws ForestTrees, ForestLightest, walked. -/
import Derived.Test.YtkhgglkkdnemlaaZbap
import Derived.Test.YtkhgglkkdnemlaaZbaq
import Derived.Test.YtkhgglkkdnemlaaZbai
set_option linter.unusedSimpArgs false
set_option linter.unusedVariables false
namespace Go.Proofs.Ytkhgglkkdnemlaa
open Go Go.Fx
def ccode (ms : List LK) (ls : List Int) : Int := if fcode ms ls ≠ 0 then fcode ms ls else if ¬ spn ms ls then 6 else if wsum ms ls ≠ wsum ms (kt ms) then 12 else 0
section
variable {X : List Nat} {w0 : World} {M0 : List Ent} {I0 : List Imm}
theorem CheckTree_bad {p q : Option Addr} {N : Int} {ms : List LK} {m c t ct : Nat} (hm : ms.length = m) (hm2 : (m : Int) ≤ 9223372036854775807) (hc : gcode N ms ≠ 0) (hp : slI p (recs eK ms) ∈ I0) :
    CD Try.prog 27 [gv N p m c, .slice q t ct] X w0 M0 I0 (fun v M I => M0 = M ∧ I0 = I ∧ v = .int .i64 (gcode N ms)) := by
  have hC := fun M0 I0 h => gCheck_ok (X := X) (w0 := w0) (M0 := M0) (I0 := I0) (p := p) (N := N) (ms := ms) (c := c) hm hm2 h
  generalize gcode N ms = e at *
  refine enterD2 Try.func27 rfl Try.ntmps27 rfl ?_
  refine TD_seq ?_
  refine TD_region ?_
  (refine RD_boxA rfl rfl rfl ?_; intro b2; refine ⟨okF, ?_⟩)
  refine RD_freezeB .here ?_
  repeat (refine wXh ?_)
  (refine RD_callS rfl (hC _ _ memF) rfl rfl ?_; rintro _ _ _ ⟨rfl, rfl, rfl⟩; refine ⟨okF, ?_⟩)
  repeat (refine wXh ?_)
  refine ND_ret1 (by first | exact .inl rfl | exact .inr rfl) rfl rfl _ _ subF incF (⟨rfl, rfl, rfl⟩)
set_option maxRecDepth 100000 in
set_option maxHeartbeats 1000000 in
theorem CheckTree_ok {p q : Option Addr} {n : Nat} {ms : List LK} {ls : List Int} {m c t ct : Nat} (hn : n ≤ 12) (hm : ms.length = m) (hm2 : m < 40) (hg : Gd ms n) (ht : ls.length = t) (ht2 : t ≤ 100000) (hp : slI p (recs eK ms) ∈ I0) (hq : slI q (recs (eI .i64) ls) ∈ I0) :
    CD Try.prog 27 [gv n p m c, .slice q t ct] X w0 M0 I0 (fun v M I => M0 = M ∧ I0 = I ∧ v = .int .i64 (ccode ms ls)) := by
  have hC := fun M0 I0 h => gCheck_ok (X := X) (w0 := w0) (M0 := M0) (I0 := I0) (p := p) (N := n) (ms := ms) (c := c) hm (by omega) h
  rw [gcode_gd (by omega) (by omega) hg] at hC
  by_cases hf : fcode ms ls = 0
  rotate_left
  · have hF := fun M0 I0 h1 h2 => cForest_bad (X := X) (w0 := w0) (M0 := M0) (I0 := I0) (p := p) (q := q) (n := n) (c := c) (ct := ct) (by omega) hm (by omega) hg ht ht2 hf h1 h2
    have hcc : ccode ms ls = fcode ms ls := if_pos hf
    rw [hcc]
    generalize fcode ms ls = e at *
    refine enterD2 Try.func27 rfl Try.ntmps27 rfl ?_
    refine TD_seq ?_
    refine TD_region ?_
    (refine RD_boxA rfl rfl rfl ?_; intro b2; refine ⟨okF, ?_⟩)
    refine RD_freezeB .here ?_
    repeat (refine wXh ?_)
    (refine RD_callS rfl (hC _ _ memF) rfl rfl ?_; rintro _ _ _ ⟨rfl, rfl, rfl⟩; refine ⟨okF, ?_⟩)
    repeat (refine wXh ?_)
    (refine RD_callS rfl (hF _ _ memF memF) rfl rfl ?_; rintro _ _ _ ⟨rfl, rfl, rfl⟩; refine ⟨okF, ?_⟩)
    repeat (refine wXh ?_)
    refine ND_ret1 (by first | exact .inl rfl | exact .inr rfl) rfl rfl _ _ subF incF (⟨rfl, rfl, rfl⟩)
  have hri := (fcode_ok hf).1
  rw [hm] at hri
  have hF := fun M0 I0 h1 h2 => cForest_ok (X := X) (w0 := w0) (M0 := M0) (I0 := I0) (p := p) (q := q) (n := n) (c := c) (ct := ct) (by omega) hm (by omega) hg ht ht2 hf h1 h2
  by_cases hs : spn ms ls
  rotate_left
  · have hcc : ccode ms ls = 6 := by unfold ccode; rw [if_neg (fun h => h hf), if_pos hs]
    rw [hcc]
    refine enterD2 Try.func27 rfl Try.ntmps27 rfl ?_
    refine TD_seq ?_
    refine TD_region ?_
    (refine RD_boxA rfl rfl rfl ?_; intro b2; refine ⟨okF, ?_⟩)
    refine RD_freezeB .here ?_
    repeat (refine wXh ?_)
    (refine RD_callS rfl (hC _ _ memF) rfl rfl ?_; rintro _ _ _ ⟨rfl, rfl, rfl⟩; refine ⟨okF, ?_⟩)
    repeat (refine wXh ?_)
    (refine RD_callS rfl (hF _ _ memF memF) rfl rfl ?_; rintro _ _ _ ⟨rfl, b, u, rfl, hu, rfl⟩; refine ⟨okF, ?_⟩)
    repeat (refine wXh ?_)
    (refine RD_callS rfl (spans_ok (by omega) hm (by omega) hg hu memF) rfl rfl ?_; rintro _ _ _ ⟨rfl, rfl, u2, hu2, rfl⟩; refine ⟨okF, ?_⟩)
    rw [B_false (p := ∀ l ∈ ms, lo (es ms ls) l.a = lo (es ms ls) l.b) hs]
    repeat (refine wXh ?_)
    refine ND_ret1 (by first | exact .inl rfl | exact .inr rfl) rfl rfl _ _ subF incF (⟨rfl, rfl, rfl⟩)
  have hW := fun M0 I0 h1 h2 => gweight_ok (X := X) (w0 := w0) (M0 := M0) (I0 := I0) (p := p) (q := q) (n := n) (c := c) (ct := ct) hm (by omega) hg ht ht2 hri h1 h2
  have hkr := kt_inR ms
  rw [hm] at hkr
  have hkl : (kt ms).length ≤ 100000 := by
    have := (kt_perm ms).length_eq
    have := kr_len hg
    omega
  have hW2 := fun q c2 M0 I0 h1 h2 => gweight_ok (X := X) (w0 := w0) (M0 := M0) (I0 := I0) (p := p) (q := q) (n := n) (c := c) (ls := kt ms) (t := (kt ms).length) (ct := c2) hm (by omega) hg rfl hkl hkr h1 h2
  have hcc : ccode ms ls = if wsum ms ls ≠ wsum ms (kt ms) then 12 else 0 := by unfold ccode; rw [if_neg (fun h => h hf), if_neg (fun h => h hs)]
  rw [hcc]
  by_cases hw : wsum ms ls = wsum ms (kt ms)
  · rw [if_neg (fun h => h hw)]
    rw [← hw] at hW2
    generalize wsum ms ls = a at *
    refine enterD2 Try.func27 rfl Try.ntmps27 rfl ?_
    refine TD_seq ?_
    refine TD_region ?_
    (refine RD_boxA rfl rfl rfl ?_; intro b2; refine ⟨okF, ?_⟩)
    refine RD_freezeB .here ?_
    repeat (refine wXh ?_)
    (refine RD_callS rfl (hC _ _ memF) rfl rfl ?_; rintro _ _ _ ⟨rfl, rfl, rfl⟩; refine ⟨okF, ?_⟩)
    repeat (refine wXh ?_)
    (refine RD_callS rfl (hF _ _ memF memF) rfl rfl ?_; rintro _ _ _ ⟨rfl, b, u, rfl, hu, rfl⟩; refine ⟨okF, ?_⟩)
    repeat (refine wXh ?_)
    (refine RD_callS rfl (spans_ok (by omega) hm (by omega) hg hu memF) rfl rfl ?_; rintro _ _ _ ⟨rfl, rfl, u2, hu2, rfl⟩; refine ⟨okF, ?_⟩)
    rw [B_true (p := ∀ l ∈ ms, lo (es ms ls) l.a = lo (es ms ls) l.b) hs]
    repeat (refine wXh ?_)
    (repeat refine TD_seq ?_); refine TD_drawnW (M0) (slI (some ⟨b2, 0, none⟩) [.int .i64 n, .slice p m c] :: I0) [0, 1, 3, 4, 2, 5, 6, 7] [2, 2, 2, 2, 0, 0, 0, 0] subF incF mixed (by kernel_rfl) ?_
    repeat (refine wXh ?_)
    (refine RD_callS rfl (hW _ _ memF memF) rfl rfl ?_; rintro _ _ _ ⟨rfl, rfl, rfl⟩; refine ⟨okF, ?_⟩)
    (refine RD_callS rfl (lightest_ok hn hm hm2 hg memF) rfl rfl ?_; rintro _ _ _ ⟨rfl, q3, c3, rfl, hc3, rfl⟩; refine ⟨okF, ?_⟩)
    (refine RD_callS rfl (hW2 _ _ _ _ memF memF) rfl rfl ?_; rintro _ _ _ ⟨rfl, rfl, rfl⟩; refine ⟨okF, ?_⟩)
    repeat (refine wXh ?_)
    refine ND_ret1 (by first | exact .inl rfl | exact .inr rfl) rfl rfl _ _ subF incF (⟨rfl, rfl, rfl⟩)
  · rw [if_pos hw]
    generalize wsum ms ls = a at *
    generalize wsum ms (kt ms) = d at *
    refine enterD2 Try.func27 rfl Try.ntmps27 rfl ?_
    refine TD_seq ?_
    refine TD_region ?_
    (refine RD_boxA rfl rfl rfl ?_; intro b2; refine ⟨okF, ?_⟩)
    refine RD_freezeB .here ?_
    repeat (refine wXh ?_)
    (refine RD_callS rfl (hC _ _ memF) rfl rfl ?_; rintro _ _ _ ⟨rfl, rfl, rfl⟩; refine ⟨okF, ?_⟩)
    repeat (refine wXh ?_)
    (refine RD_callS rfl (hF _ _ memF memF) rfl rfl ?_; rintro _ _ _ ⟨rfl, b, u, rfl, hu, rfl⟩; refine ⟨okF, ?_⟩)
    repeat (refine wXh ?_)
    (refine RD_callS rfl (spans_ok (by omega) hm (by omega) hg hu memF) rfl rfl ?_; rintro _ _ _ ⟨rfl, rfl, u2, hu2, rfl⟩; refine ⟨okF, ?_⟩)
    rw [B_true (p := ∀ l ∈ ms, lo (es ms ls) l.a = lo (es ms ls) l.b) hs]
    repeat (refine wXh ?_)
    (repeat refine TD_seq ?_); refine TD_drawnW (M0) (slI (some ⟨b2, 0, none⟩) [.int .i64 n, .slice p m c] :: I0) [0, 1, 3, 4, 2, 5, 6, 7] [2, 2, 2, 2, 0, 0, 0, 0] subF incF mixed (by kernel_rfl) ?_
    repeat (refine wXh ?_)
    (refine RD_callS rfl (hW _ _ memF memF) rfl rfl ?_; rintro _ _ _ ⟨rfl, rfl, rfl⟩; refine ⟨okF, ?_⟩)
    (refine RD_callS rfl (lightest_ok hn hm hm2 hg memF) rfl rfl ?_; rintro _ _ _ ⟨rfl, q3, c3, rfl, hc3, rfl⟩; refine ⟨okF, ?_⟩)
    (refine RD_callS rfl (hW2 _ _ _ _ memF memF) rfl rfl ?_; rintro _ _ _ ⟨rfl, rfl, rfl⟩; refine ⟨okF, ?_⟩)
    repeat (refine wXh ?_)
    refine ND_ret1 (by first | exact .inl rfl | exact .inr rfl) rfl rfl _ _ subF incF (⟨rfl, rfl, rfl⟩)
set_option maxRecDepth 100000 in
set_option maxHeartbeats 1000000 in
theorem LTrees_ok {p : Option Addr} {N : Int} {ms : List LK} {c : Nat} (hm2 : (ms.length : Int) ≤ 9223372036854775807) (hp : slI p (recs eK ms) ∈ I0) :
    CD Try.prog 3 [gv N p ms.length c] X w0 M0 I0 (fun v _ _ => v = .bool true) := by
  have hR := fun M0 I0 h => rgCheck_ok (X := X) (w0 := w0) (M0 := M0) (I0 := I0) (p := p) (N := N) (ms := ms) (c := c) rfl hm2 h
  refine enterD1 Try.func3 rfl Try.ntmps3 rfl ?_
  refine TD_seq ?_
  refine TD_region ?_
  (refine RD_boxA rfl rfl rfl ?_; intro b1; refine ⟨okF, ?_⟩)
  refine RD_freezeB .here ?_
  repeat (refine wXh ?_)
  (refine RD_callS rfl (known11_ok) rfl rfl ?_; rintro _ _ _ ⟨rfl, rfl, rfl⟩; refine ⟨okF, ?_⟩)
  repeat (refine wXh ?_)
  (refine RD_callS rfl (few_ok) rfl rfl ?_; rintro _ _ _ ⟨rfl, rfl, rfl⟩; refine ⟨okF, ?_⟩)
  by_cases hf : N ≤ 10 ∧ ms.length ≤ 24
  rotate_left
  · rw [B_false hf]
    repeat (refine wXh ?_)
    refine ND_ret1 (by first | exact .inl rfl | exact .inr rfl) rfl rfl _ _ subF incF (rfl)
  rw [B_true hf]
  by_cases hc : gcode N ms = 0
  · obtain ⟨n, rfl, hn, hl, hg⟩ := gd_gcode hc
    rw [hc] at hR
    repeat (refine wXh ?_)
    (refine RD_callS rfl (gTree_ok (by omega) rfl (by omega) hg memF) rfl rfl ?_; rintro _ _ _ ⟨rfl, q, c', rfl, hc', rfl⟩; refine ⟨okF, ?_⟩)
    repeat (refine wXh ?_)
    (refine RD_callS rfl (hR _ _ memF) rfl rfl ?_; rintro _ _ _ ⟨rfl, rfl, rfl⟩; refine ⟨okF, ?_⟩)
    repeat (refine wXh ?_)
    (refine RD_callS rfl (rTree_ok (by omega) rfl (by omega) hg memF) rfl rfl ?_; rintro _ _ _ ⟨rfl, q2, c2, rfl, rfl⟩; refine ⟨okF, ?_⟩)
    have hkl : (kt ms).length ≤ 100000 := by
      have := (kt_perm ms).length_eq
      have := kr_len hg
      omega
    have hE := fun M0 I0 h1 h2 => EqI_ok (X := X) (w0 := w0) (M0 := M0) (I0 := I0) (p := q) (q := q2) (a := kt ms) (b := kt ms) (c := c') (c' := c2) (by omega) h1 h2
    rw [B_true rfl] at hE
    (refine RD_callS rfl (hE _ _ memF memF) rfl rfl ?_; rintro _ _ _ ⟨rfl, rfl, rfl⟩; refine ⟨okF, ?_⟩)
    repeat (refine wXh ?_)
    refine ND_ret1 (by first | exact .inl rfl | exact .inr rfl) rfl rfl _ _ subF incF (rfl)
  · have hB := fun M0 I0 h => gTree_bad (X := X) (w0 := w0) (M0 := M0) (I0 := I0) (p := p) (N := N) (ms := ms) (c := c) rfl hm2 hc h
    generalize gcode N ms = e at *
    repeat (refine wXh ?_)
    (refine RD_callS rfl (hB _ _ memF) rfl rfl ?_; rintro _ _ _ ⟨rfl, rfl, rfl⟩; refine ⟨okF, ?_⟩)
    repeat (refine wXh ?_)
    (refine RD_callS rfl (hR _ _ memF) rfl rfl ?_; rintro _ _ _ ⟨rfl, rfl, rfl⟩; refine ⟨okF, ?_⟩)
    repeat (refine wXh ?_)
    refine ND_ret1 (by first | exact .inl rfl | exact .inr rfl) rfl rfl _ _ subF incF (congrArg Value.bool (B_true rfl))
end
end Go.Proofs.Ytkhgglkkdnemlaa

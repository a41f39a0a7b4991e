/- Plain: one step of a trail; a link taken out of a list. Forest: the document's Steps, walked. A queue of ints: append of one element to a slice that does not begin at its block's first cell. Forest: Reverse of the program's steps. -/
import Derived.Test.YtkhgglkkdnemlaaZhap
import Derived.Test.YtkhgglkkdnemlaaZhai
set_option linter.unusedSimpArgs false
set_option linter.unusedVariables false
namespace Go.Proofs.Ytkhgglkkdnemlaa
open Go Go.Fx
theorem cut_eq {l : List Int} {i : Nat} (hi : i < l.length) : l = l.take i ++ gt l i :: l.drop (i + 1) := by
  rw [gt_get hi, List.getElem_cons_drop, List.take_append_drop]
theorem cut_nod {l : List Int} {i : Nat} (hi : i < l.length) (hn : l.Nodup) : (l.take i ++ l.drop (i + 1)).Nodup ∧ ¬ gt l i ∈ l.take i ++ l.drop (i + 1) := by
  have h := hn
  rw [cut_eq hi, List.nodup_append] at h
  obtain ⟨h1, h2, h3⟩ := h
  rw [List.nodup_cons] at h2
  refine ⟨List.nodup_append.2 ⟨h1, h2.2, fun a ha b hb => h3 a ha b (by simp [hb])⟩, fun h4 => ?_⟩
  rcases List.mem_append.1 h4 with h5 | h5
  · exact h3 _ h5 _ (by simp) rfl
  · exact h2.1 h5
theorem cut_mem {l : List Int} {i : Nat} (hi : i < l.length) (hn : l.Nodup) (x : Int) : x ∈ l.take i ++ l.drop (i + 1) ↔ x ∈ l ∧ x ≠ gt l i := by
  have h := cut_nod hi hn
  constructor
  · intro hx
    refine ⟨?_, fun e => h.2 (e ▸ hx)⟩
    rw [cut_eq hi]
    rcases List.mem_append.1 hx with h5 | h5
    · exact List.mem_append.2 (.inl h5)
    · exact List.mem_append.2 (.inr (List.mem_cons_of_mem _ h5))
  · rintro ⟨hx, hne⟩
    rw [cut_eq hi] at hx
    rcases List.mem_append.1 hx with h5 | h5
    · exact List.mem_append.2 (.inl h5)
    · rcases List.mem_cons.1 h5 with h6 | h6
      · exact absurd h6 hne
      · exact List.mem_append.2 (.inr h6)
theorem Trail.step {ms : List LK} {T T' l : List Int} {s v : Int} (hs : s ≠ 0) (hk : sk s ∈ T) (hT : ∀ x ∈ T', x ∈ T ∧ x ≠ sk s) (h : Trail ms T' l (sb ms s) v) : Trail ms T (s :: l) (sa ms s) v :=
  ⟨.cons hs h.trl, fun x hx => by
    rcases List.mem_cons.1 hx with rfl | h1
    · exact hk
    · exact (hT _ (h.mem x h1)).1, by
    rw [List.map_cons, List.nodup_cons]
    refine ⟨fun h1 => ?_, h.nod⟩
    obtain ⟨x, h2, h3⟩ := List.mem_map.1 h1
    exact (hT _ (h.mem x h2)).2 h3⟩
theorem Trail.tail {ms : List LK} {T T' l : List Int} {s u v : Int} (h : Trail ms T (s :: l) u v) (hT : ∀ x, x ∈ T → x ≠ sk s → x ∈ T') : s ≠ 0 ∧ u = sa ms s ∧ sk s ∈ T ∧ Trail ms T' l (sb ms s) v := by
  obtain ⟨h1, h2, h3⟩ := h.trl.inv
  have hn := h.nod
  rw [List.map_cons, List.nodup_cons] at hn
  exact ⟨h1, h2, h.mem s (by simp), h3, fun x hx => hT _ (h.mem x (by simp [hx])) (fun e => hn.1 (e ▸ List.mem_map_of_mem hx)), hn.2⟩
theorem fwd {ms : List LK} {z : Int} (h : 0 ≤ z) : z + 1 ≠ 0 ∧ sk (z + 1) = z ∧ sa ms (z + 1) = (gt ms z).a ∧ sb ms (z + 1) = (gt ms z).b := by
  have h1 : sk (z + 1) = z := by unfold sk; rw [if_neg (by omega)]; omega
  refine ⟨by omega, h1, ?_, ?_⟩
  · unfold sa; rw [if_pos (by omega), h1]
  · unfold sb; rw [if_pos (by omega), h1]
theorem bwd {ms : List LK} {z : Int} (h : 0 ≤ z) : -z - 1 ≠ 0 ∧ sk (-z - 1) = z ∧ sa ms (-z - 1) = (gt ms z).b ∧ sb ms (-z - 1) = (gt ms z).a := by
  have h1 : sk (-z - 1) = z := by unfold sk; rw [if_pos (by omega)]; omega
  refine ⟨by omega, h1, ?_, ?_⟩
  · unfold sa; rw [if_neg (by omega), h1]
  · unfold sb; rw [if_neg (by omega), h1]
theorem sk_of {s z : Int} (h : sk s = z) (hs : s ≠ 0) : s = z + 1 ∨ s = -z - 1 := by
  unfold sk at h
  split at h <;> omega
theorem Trail.same_end {ms : List LK} {T : List Int} {u : Int} : Trail ms T [] u u := ⟨.nil u, fun _ h => absurd h (by simp), List.nodup_nil⟩
/-- what Steps answers -/
structure Stp (ms : List LK) (T : List Int) (u v : Int) (l : List Int) (f : Bool) : Prop where
  yes : f = true → Trail ms T l u v
  no : f = false → l = [] ∧ ∀ l', ¬ Trail ms T l' u v
theorem Stp.of {ms : List LK} {T l : List Int} {u v : Int} (h : Trail ms T l u v) : Stp ms T u v l true := ⟨fun _ => h, fun h => absurd h (by decide)⟩
theorem Stp.none {ms : List LK} {T : List Int} {u v : Int} (hne : u ≠ v) (h : ∀ j : Nat, j < T.length → ∀ s l', sk s = gt T j → ¬ Trail ms T (s :: l') u v) : Stp ms T u v [] false := ⟨fun h => absurd h (by decide), fun _ => ⟨rfl, fun l' hl => by
  cases l' with
  | nil => exact hne hl.trl.nil_inv
  | cons s l' =>
    obtain ⟨j, hj, e⟩ := List.mem_iff_getElem.1 (hl.mem s (by simp))
    exact h j hj s l' (by rw [gt_get hj, e]) hl⟩⟩
end Go.Proofs.Ytkhgglkkdnemlaa
namespace Go.Proofs.Ytkhgglkkdnemlaa
open Go Go.Fx
section
variable {X : List Nat} {w0 : World}
set_option maxRecDepth 100000 in
set_option maxHeartbeats 4000000 in
theorem Steps_ok {p : Option Addr} {n m c : Nat} {ms : List LK} (hm : ms.length = m) (hm2 : m ≤ 1024) (t : Nat) : ∀ (T : List Int) (q : Option Addr) (ct : Nat) (u v : Int) (M0 : List Ent) (I0 : List Imm), T.length = t → t ≤ 1000 → inR m T → T.Nodup → (Ok q ∨ (t = 0 ∧ ct = 0)) → t ≤ ct → slI p (recs eK ms) ∈ I0 → slI q (recs (eI .i64) T) ∈ I0 →
    CD Try.prog 40 [gv n p m c, .slice q t ct, .int .i64 u, .int .i64 v] X w0 M0 I0 (fun r M I => M0 = M ∧ ∃ (q2 : Option Addr) (c2 : Nat) (l : List Int) (f : Bool), r = .tuple #[.slice q2 l.length c2, .bool f] ∧ (Ok q2 ∨ (q2 = none ∧ l.length = 0 ∧ c2 = 0)) ∧ l.length ≤ t ∧ Stp ms T u v l f ∧ I = slI q2 (recs (eI .i64) l) :: I0) := by
  induction t using Nat.strongRecOn with
  | _ t ih =>
  intro T q ct u v M0 I0 hT ht hr hnd hok hct hp hq
  refine enterD4 Try.func40 rfl Try.ntmps40 rfl ?_
  refine TD_seq ?_
  refine TD_region ?_
  (refine RD_boxA rfl rfl rfl ?_; intro b4; refine ⟨okF, ?_⟩)
  refine RD_freezeB .here ?_
  by_cases huv : u = v
  · subst huv
    repeat (refine wXh ?_)
    (refine RD_vals (cs := recs (eI .i64) []) ([]) rfl rfl (by intro v hv; repeat (first | exact absurd hv (List.not_mem_nil) | (rcases List.mem_cons.1 hv with rfl | hv; · rfl))) (by omega) rfl rfl rfl ?_; intro b8; refine ⟨okF, ?_⟩; refine RD_toRow (mm := 0) 1 .here rfl (by omega) ?_)
    repeat (refine wXh ?_)
    refine ND_freezeR remF ?_
    refine ND_rets [8, 9] (by first | exact .inl rfl | exact .inr rfl) rfl rfl rfl _ _ subF incF (⟨rfl, some ⟨b8, 0, none⟩, 0, [], true, rfl, .inl (Ok.mk _ _), by simp, Stp.of Trail.same_end, rfl⟩)
  repeat (refine wXh ?_)
  refine TD_loop [1, 2, 3, 4, 22, 23] rfl (fun k G M I => ∃ i : Nat, i ≤ t ∧ k = t - i ∧ (∀ j : Nat, j < i → ∀ s l', sk s = gt T j → ¬ Trail ms T (s :: l') u v) ∧ G = [(24, .int .i64 i)] ∧ M0 = M ∧ I = slI (some ⟨b4, 0, none⟩) [.int .i64 n, .slice p m c] :: I0) (t) _ _ _ subG subF incF (⟨0, by omega, rfl, fun j hj => by omega, rfl, rfl, rfl⟩) ?_
  rintro kk G M I ⟨i, hi, rfl, hs, rfl, rfl, rfl⟩
  by_cases hit : i < t
  rotate_left
  · repeat (refine wXh ?_)
    refine ND_nilS none ?_
    refine ND_rets [8, 9] (by first | exact .inl rfl | exact .inr rfl) rfl rfl rfl _ _ subF incF (⟨rfl, none, 0, [], false, rfl, .inr ⟨rfl, rfl, rfl⟩, by simp, Stp.none huv (fun j hj => hs j (by omega)), rfl⟩)
  have hoa : Ok q := hok.resolve_right (fun h => by omega)
  have h1 := inR_gt hr (j := i) (by omega)
  have hcm := cut_mem (l := T) (i := i) (by omega) hnd
  have hcn := (cut_nod (l := T) (i := i) (by omega) hnd).1
  have hzT : gt T (i : Int) ∈ T := by rw [gt_get (by omega)]; exact List.getElem_mem _
  have hl1 : (T.take i).length = i := by rw [List.length_take]; omega
  have hl2 : (T.drop (i + 1)).length = t - (i + 1) := by rw [List.length_drop, hT]
  have hl' : (T.take i ++ T.drop (i + 1)).length = t - 1 := by simp; omega
  have ho1 : Ok (cutA q ct 0 1) ∨ (i = 0 ∧ ct - 0 = 0) := .inl (okCut hoa)
  have ho2 : Ok (cutA q ct (i + 1) 1) ∨ (t - (i + 1) = 0 ∧ ct - (i + 1) = 0) := .inl (okCut hoa)
  repeat (refine wXh ?_)
  obtain ⟨z, hz⟩ : ∃ z, gt T (i : Int) = z := ⟨_, rfl⟩
  rw [hz] at h1 hcm hzT ⊢
  (repeat refine TD_seq ?_); refine TD_drawnW (M0) (slI (some ⟨b4, 0, none⟩) [.int .i64 n, .slice p m c] :: I0) [1, 2, 3, 5, 6, 7, 8, 0, 4, 9, 10] [3, 3, 2, 3, 3, 3, 2, 0, 0, 0, 0] subF incF mixed (by kernel_rfl) ?_
  repeat (refine wXh ?_)
  (refine RD_c rfl (fun _ => Const_cut (e := 3) (sz := 1) 0 i i rfl (.inl ⟨rfl, rfl⟩) (.inr ⟨_, _, _, rfl, rfl, rfl⟩) (by omega) (by omega) (by omega)) rfl rfl ?_)
  repeat (refine wXh ?_)
  (refine RD_c rfl (fun _ => Const_cut (e := 3) (sz := 1) (i + 1) t (t - (i + 1)) rfl (.inr ⟨_, _, _, rfl, rfl, by omega⟩) (.inl ⟨rfl, rfl⟩) (by omega) (by omega) (by omega)) rfl rfl ?_)
  refine RD_cutI (enc := eI .i64) (ms := T) ct 0 i memF (by omega) ?_
  refine RD_cutI (enc := eI .i64) (ms := T) ct (i + 1) T.length memF (by omega) ?_
  rw [List.drop_zero, List.take_length]
  (refine RD_vals (cs := recs (eI .i64) []) ([]) rfl rfl (by intro v hv; repeat (first | exact absurd hv (List.not_mem_nil) | (rcases List.mem_cons.1 hv with rfl | hv; · rfl))) (by omega) rfl rfl rfl ?_; intro b5; refine ⟨okF, ?_⟩; refine RD_toRow (mm := 0) 1 .here rfl (by omega) ?_)
  (refine RD_appR (xs := []) (ys := T.take i) 0 rfl rfl rfl (Src.imm memF ho1) (by decide) hl1 (by simp; omega) (by simp; omega) rfl rfl ?_; intro a5 c5; refine ⟨okF, ?_⟩)
  (refine RD_appR (xs := [] ++ T.take i) (ys := T.drop (i + 1)) 0 rfl rfl rfl (Src.imm memF ho2) (by decide) hl2 (by simp; omega) (by simp; omega) rfl rfl ?_; intro a6 c6; refine ⟨okF, ?_⟩)
  rw [List.nil_append]
  generalize T.take i ++ T.drop (i + 1) = R at *
  refine RD_fact (fun w hw => (hw.rowS (List.Mem.head _)).2) (fun hokR => ?_)
  refine RD_fact (fun w hw => Mem.rowLe hw) (fun hle => ?_)
  refine RD_freezeR (mm := R.length) .here ?_
  have hokR2 : Ok a6 ∨ (R.length = 0 ∧ c6 = 0) := hokR.imp id (fun h => h.2)
  have hrR : inR m R := fun x hx => hr x ((hcm x).1 hx).1
  have hA := fwd (ms := ms) h1.1
  have hB := bwd (ms := ms) h1.1
  rw [show -z - 1 = 0 - z - 1 by omega] at hB
  have hag : ((gt ms z).a = u → ∀ l', ¬ Trail ms R l' (gt ms z).b v) → ((gt ms z).b = u → ∀ l', ¬ Trail ms R l' (gt ms z).a v) → ∀ j : Nat, j < i + 1 → ∀ s l', sk s = gt T j → ¬ Trail ms T (s :: l') u v := fun nA nB j hj s l' hsk htr => by
    by_cases e : j = i
    · subst e
      rw [hz] at hsk
      obtain ⟨g1, g2, g3, g4⟩ := htr.tail (T' := R) (fun x hx hne => (hcm x).2 ⟨hx, fun e => hne (e.trans hsk.symm)⟩)
      rcases sk_of hsk g1 with e1 | e1
      · subst e1
        rw [hA.2.2.1] at g2
        rw [hA.2.2.2] at g4
        exact nA g2.symm l' g4
      · have e2 : s = 0 - z - 1 := by omega
        subst e2
        rw [hB.2.2.1] at g2
        rw [hB.2.2.2] at g4
        exact nB g2.symm l' g4
    · exact hs j (by omega) s l' hsk htr
  have hyA : (gt ms z).a = u → ∀ l', Trail ms R l' (gt ms z).b v → Trail ms T ([z + 1] ++ l') u v := fun e l' h => by
    rw [← e, ← hA.2.2.1]
    exact Trail.step hA.1 (by rw [hA.2.1]; exact hzT) (fun x hx => by rw [hA.2.1]; exact (hcm x).1 hx) (by rw [hA.2.2.2]; exact h)
  have hyB : (gt ms z).b = u → ∀ l', Trail ms R l' (gt ms z).a v → Trail ms T ([0 - z - 1] ++ l') u v := fun e l' h => by
    rw [← e, ← hB.2.2.1]
    exact Trail.step hB.1 (by rw [hB.2.1]; exact hzT) (fun x hx => by rw [hB.2.1]; exact (hcm x).1 hx) (by rw [hB.2.2.2]; exact h)
  have hih := fun x I0 h1 h2 M0 => ih R.length (by omega) R a6 c6 x v M0 I0 rfl (by omega) hrR hcn hokR2 hle h1 h2
  clear hA hB hs hcm hcn ih
  repeat (refine wXh ?_)
  (refine RD_alloc rfl rfl ?_; intro b13; refine ⟨okF, ?_⟩)
  by_cases ha : (gt ms z).a = u
  · repeat (refine wXh ?_)
    (refine RD_callS rfl (hih _ _ memF memF _) rfl rfl ?_; rintro _ _ _ ⟨rfl, q2, c2, l1, f1, rfl, ok1, len1, st1, rfl⟩; refine ⟨okF, ?_⟩)
    cases f1
    · have nA := (st1.no rfl).2
      by_cases hb : (gt ms z).b = u
      · repeat (refine wXh ?_)
        (refine RD_callS rfl (hih _ _ memF memF _) rfl rfl ?_; rintro _ _ _ ⟨rfl, q3, c3, l2, f2, rfl, ok2, len2, st2, rfl⟩; refine ⟨okF, ?_⟩)
        cases f2
        · have nB := (st2.no rfl).2
          repeat (refine wXh ?_)
          refine ND_again (t - (i + 1)) _ _ _ (by first | omega | (simp only [List.length_append, List.length_cons, List.length_nil]; omega)) subG subF incF (⟨i + 1, by omega, rfl, hag (fun _ => nA) (fun _ => nB), rfl, rfl, rfl⟩)
        · have tB := hyB hb _ (st2.yes rfl)
          repeat (refine wXh ?_)
          (refine RD_vals (cs := recs (eI .i64) [0 - z - 1]) ([.int .i64 (0 - z - 1)]) rfl rfl (by intro v hv; repeat (first | exact absurd hv (List.not_mem_nil) | (rcases List.mem_cons.1 hv with rfl | hv; · rfl))) (by omega) rfl rfl rfl ?_; intro b7; refine ⟨okF, ?_⟩)
          refine RD_toRow (mm := 1) 1 repF rfl (by omega) ?_
          repeat (refine wXh ?_)
          refine RD_appR (xs := [0 - z - 1]) (ys := l2) 0 rfl rfl rfl (Src.imm memF (ok2.imp id (fun h => h.2))) (by decide) rfl (by simp; omega) (by simp; omega) rfl rfl ?_
          intro a9 c9
          refine ⟨okF, ?_⟩
          repeat (refine wXh ?_)
          refine ND_fact (fun w hw => (hw.rowS (List.Mem.head _)).2) (fun hok9 => ?_)
          refine ND_freezeR remF ?_
          refine ND_rets [8, 9] (by first | exact .inl rfl | exact .inr rfl) rfl rfl rfl _ _ subF incF (⟨rfl, a9, c9, [0 - z - 1] ++ l2, true, rfl, hok9, by simp; omega, Stp.of tB, rfl⟩)
      · repeat (refine wXh ?_)
        refine ND_again (t - (i + 1)) _ _ _ (by first | omega | (simp only [List.length_append, List.length_cons, List.length_nil]; omega)) subG subF incF (⟨i + 1, by omega, rfl, hag (fun _ => nA) (fun h => absurd h hb), rfl, rfl, rfl⟩)
    · have tA := hyA ha _ (st1.yes rfl)
      repeat (refine wXh ?_)
      (refine RD_vals (cs := recs (eI .i64) [z + 1]) ([.int .i64 (z + 1)]) rfl rfl (by intro v hv; repeat (first | exact absurd hv (List.not_mem_nil) | (rcases List.mem_cons.1 hv with rfl | hv; · rfl))) (by omega) rfl rfl rfl ?_; intro b7; refine ⟨okF, ?_⟩)
      refine RD_toRow (mm := 1) 1 repF rfl (by omega) ?_
      repeat (refine wXh ?_)
      refine RD_appR (xs := [z + 1]) (ys := l1) 0 rfl rfl rfl (Src.imm memF (ok1.imp id (fun h => h.2))) (by decide) rfl (by simp; omega) (by simp; omega) rfl rfl ?_
      intro a9 c9
      refine ⟨okF, ?_⟩
      repeat (refine wXh ?_)
      refine ND_fact (fun w hw => (hw.rowS (List.Mem.head _)).2) (fun hok9 => ?_)
      refine ND_freezeR remF ?_
      refine ND_rets [8, 9] (by first | exact .inl rfl | exact .inr rfl) rfl rfl rfl _ _ subF incF (⟨rfl, a9, c9, [z + 1] ++ l1, true, rfl, hok9, by simp; omega, Stp.of tA, rfl⟩)
  · by_cases hb : (gt ms z).b = u
    · repeat (refine wXh ?_)
      (refine RD_callS rfl (hih _ _ memF memF _) rfl rfl ?_; rintro _ _ _ ⟨rfl, q3, c3, l2, f2, rfl, ok2, len2, st2, rfl⟩; refine ⟨okF, ?_⟩)
      cases f2
      · have nB := (st2.no rfl).2
        repeat (refine wXh ?_)
        refine ND_again (t - (i + 1)) _ _ _ (by first | omega | (simp only [List.length_append, List.length_cons, List.length_nil]; omega)) subG subF incF (⟨i + 1, by omega, rfl, hag (fun h => absurd h ha) (fun _ => nB), rfl, rfl, rfl⟩)
      · have tB := hyB hb _ (st2.yes rfl)
        repeat (refine wXh ?_)
        (refine RD_vals (cs := recs (eI .i64) [0 - z - 1]) ([.int .i64 (0 - z - 1)]) rfl rfl (by intro v hv; repeat (first | exact absurd hv (List.not_mem_nil) | (rcases List.mem_cons.1 hv with rfl | hv; · rfl))) (by omega) rfl rfl rfl ?_; intro b7; refine ⟨okF, ?_⟩)
        refine RD_toRow (mm := 1) 1 repF rfl (by omega) ?_
        repeat (refine wXh ?_)
        refine RD_appR (xs := [0 - z - 1]) (ys := l2) 0 rfl rfl rfl (Src.imm memF (ok2.imp id (fun h => h.2))) (by decide) rfl (by simp; omega) (by simp; omega) rfl rfl ?_
        intro a9 c9
        refine ⟨okF, ?_⟩
        repeat (refine wXh ?_)
        refine ND_fact (fun w hw => (hw.rowS (List.Mem.head _)).2) (fun hok9 => ?_)
        refine ND_freezeR remF ?_
        refine ND_rets [8, 9] (by first | exact .inl rfl | exact .inr rfl) rfl rfl rfl _ _ subF incF (⟨rfl, a9, c9, [0 - z - 1] ++ l2, true, rfl, hok9, by simp; omega, Stp.of tB, rfl⟩)
    · repeat (refine wXh ?_)
      refine ND_again (t - (i + 1)) _ _ _ (by first | omega | (simp only [List.length_append, List.length_cons, List.length_nil]; omega)) subG subF incF (⟨i + 1, by omega, rfl, hag (fun h => absurd h ha) (fun h => absurd h hb), rfl, rfl, rfl⟩)
end
end Go.Proofs.Ytkhgglkkdnemlaa
namespace Go.Proofs.Ytkhgglkkdnemlaa
open Go Go.Fx
theorem run_append_roomO {P : Program} {w : World} (t ty e : TypeId) (i : TypeInfo) (ht : P.underlying t = some (.slice e)) (hi : P.info? e = some i)
    (g off sLen sCap : Nat) (cur : Array Value) (hg : w.heap[g]? = some (.cells cur e (0, 0)))
    (a : Addr) (m c : Nat) (news : List Value) (hl : news.length = m * i.size) (hnews : ∀ j u, news[j]? = some u → w.cell? (a.add j) = some u) (h1 : ∀ u ∈ news, u.oneCell' = true)
    (hroom : sLen + m ≤ sCap) (hfit : off + sLen * i.size + news.length ≤ cur.size) :
    (Builtin.append_ #[t, t] ty #[.slice (some ⟨g, off, none⟩) sLen sCap, .slice (some a) m c]).run P w =
      .ok (.slice (some ⟨g, off, none⟩) (sLen + m) sCap) (w.setRow g (cur.toList.take (off + sLen * i.size) ++ news ++ cur.toList.drop (off + sLen * i.size + news.length)).toArray) := by
  have hf := run_firstCells_some (P := P) w i.size m a m c news hl hnews
  have hst := run_storeCells_at P g (off + sLen * i.size) e news 0 cur w hg (by simpa using hfit) h1
  simp only [Nat.add_zero] at hst
  simp [Builtin.append_, run_underlying ht, sizeOf, typeInfo, hi, Builtin.lenOf, hroom, hf, Addr.add_lit, hst]
section
variable {P : Program} {n : Nat} {G : Env} {ty : TypeId} {w : World}
theorem Eff_appQ {s x : Operand} {t e : TypeId} {sz' by_ : Nat} {z : List Value} {b off len c b' : Nat} {cs : List Value} {u : Value} [ht : SliceTy P t e sz'] [hz : ElemTy P e 1 by_ z]
    (hs : ev G s = some (.slice (some ⟨b, off, none⟩) len c)) (hx : ev G x = some (.slice (some ⟨b', 0, none⟩) 1 1)) (hB : Blk w b cs e) (hB' : Blk w b' [u] e) (h1 : u.oneCell' = true) (hle : off + c ≤ cs.length) (hlc : len ≤ c) (hb : (len + 1) * by_ ≤ 140737488355328) (h63 : len + 1 ≤ 9223372036854775807) :
    Eff P n G (.call { callee := .builtin .append, args := #[s, x], argTypes := #[t, t] }) ty w
      (fun v' w' => ∃ (b2 off2 c2 : Nat) (cs2 : List Value), v' = .slice (some ⟨b2, off2, none⟩) (len + 1) c2 ∧ off2 + c2 ≤ cs2.length ∧ len + 1 ≤ c2 ∧ (cs2.drop off2).take (len + 1) = (cs.drop off).take len ++ [u] ∧ Blk w' b2 cs2 e ∧ Ext [b] w w' ∧ (b2 = b ∨ w.heap.size ≤ b2)) := by
  refine ⟨?_⟩
  intro a ha dst pos after guard
  obtain ⟨i, vz, hi, hs2, hby, hzv, hcl⟩ := info_of hz
  have hnews : ∀ j v, [u][j]? = some v → w.cell? ((⟨b', 0, none⟩ : Addr).add j) = some v := fun j v hj => by
    rw [Addr.add_lit]
    simpa using hB'.cell (o := j) hj
  have ho1 : ∀ v ∈ [u], v.oneCell' = true := by simpa using h1
  by_cases hroom : len + 1 ≤ c
  · have hr := run_append_roomO (P := P) (w := w) t ty e i ht.und hi b off len c cs.toArray hB ⟨b', 0, none⟩ 1 1 [u] (by rw [hs2]; rfl) hnews ho1 hroom (by rw [hs2]; simp; omega)
    rw [hs2] at hr
    refine wp_val (v := .slice (some ⟨b, off, none⟩) (len + 1) c) (w' := w.setRow b (cs.take (off + len * 1) ++ [u] ++ cs.drop (off + len * 1 + 1)).toArray) ?_ ⟨_, ⟨b, off, c, cs.take (off + len * 1) ++ [u] ++ cs.drop (off + len * 1 + 1), rfl, ?_, hroom, ?_, ?_, Ext.setRow (by simp) _, .inl rfl⟩, rfl⟩
    · simp at hr
      simp [execOp, resolve, invoke, builtin, ha.ev hs, ha.ev hx, hr]
    · simp; omega
    · rw [Nat.mul_one]
      apply List.ext_getElem?
      intro j
      rw [List.getElem?_take, List.getElem?_drop]
      by_cases hj : j < len + 1
      · rw [if_pos hj]
        by_cases hj2 : j < len
        · rw [List.append_assoc, List.getElem?_append_left (by rw [List.length_take]; omega), List.getElem?_append_left (by rw [List.length_take, List.length_drop]; omega), List.getElem?_take, List.getElem?_take, List.getElem?_drop, if_pos (by omega), if_pos hj2]
        · have e1 : j = len := by omega
          subst e1
          have hL : (cs.take (off + j) ++ [u] ++ cs.drop (off + j + 1))[off + j]? = some u := by
            rw [List.append_assoc, List.getElem?_append_right (by rw [List.length_take]; omega)]
            simp [List.length_take, show min (off + j) cs.length = off + j by omega]
          have hR : ((cs.drop off).take j ++ [u])[j]? = some u := by
            rw [List.getElem?_append_right (by rw [List.length_take, List.length_drop]; omega)]
            simp [List.length_take, List.length_drop, show min j (cs.length - off) = j by omega]
          rw [hL, hR]
      · rw [if_neg hj, List.getElem?_eq_none (by simp [List.length_take, List.length_drop]; omega)]
    · exact setRow_heap w b _ _ _ _ hB
  · have e0 : c = len := by omega
    subst e0
    have hlo : ((cs.drop off).take c).length = c := by rw [List.length_take, List.length_drop]; omega
    have holds : ∀ j v, ((cs.drop off).take c)[j]? = some v → w.cell? ((⟨b, off, none⟩ : Addr).add j) = some v := fun j v hj => by
      rw [Addr.add_lit]
      refine hB.cell ?_
      rw [List.getElem?_take] at hj
      split at hj
      · rwa [List.getElem?_drop] at hj
      · simp at hj
    have hr := run_append_grow (P := P) w t ty e i vz ht.und hi hzv ⟨b, off, none⟩ c c ((cs.drop off).take c) (by rw [hs2, hlo, Nat.mul_one]) holds ⟨b', 0, none⟩ 1 1 [u] (by rw [hs2]; rfl) hnews (by omega) (by omega) (growslice_fits (by omega) (by rw [hby]; exact hb))
    have hge := grownCap_ge w (c + 1) c e
    have hzz : vz.cells.size = 1 := by simp [hcl, hz.len]
    refine wp_val (v := .slice (some ⟨w.heap.size, 0, none⟩) (c + 1) (grownCap w (c + 1) c e)) (w' := w.drew.alloc (.cells (((cs.drop off).take c).toArray ++ [u].toArray ++ Builtin.zeroCells vz.cells (grownCap w (c + 1) c e - (c + 1))) e)) ?_ ⟨_, ⟨w.heap.size, 0, grownCap w (c + 1) c e, (((cs.drop off).take c).toArray ++ [u].toArray ++ Builtin.zeroCells vz.cells (grownCap w (c + 1) c e - (c + 1))).toList, rfl, ?_, hge, ?_, ?_, ⟨rfl, rfl, rfl, by simp, fun k hk _ => heap_alloc_old w.drew _ hk⟩, .inr (Nat.le_refl _)⟩, rfl⟩
    · simp [execOp, resolve, invoke, builtin, ha.ev hs, ha.ev hx, hr]
    · rw [Array.length_toList, Array.size_append, Array.size_append, size_zeroCells, hzz]
      simp only [List.size_toArray, hlo, List.length_cons, List.length_nil]
      omega
    · rw [List.drop_zero, Array.toList_append, Array.toList_append]
      exact List.take_left' (by simp [hlo])
    · unfold Blk
      rw [Array.toArray_toList]
      exact heap_alloc_new w.drew _
end
section
variable {P : Program} {n : Nat} {Q : Exit → Act → World → Prop} {G : Env} {X : List Nat} {w0 : World} {M : List Ent} {I : List Imm}
theorem RD_appQ {ops l : List Oper} {m : Fx.Mode} {ty : TypeId} {pos : String} {af : Array Edge} {g : Option (Nat × Bool)} {d : Nat} {s x : Operand} {t e : TypeId} {sz' by_ : Nat} {z : List Value} {b off len c b' : Nat} {cs : List Value} {u : Value} [SliceTy P t e sz'] [ElemTy P e 1 by_ z]
    (kk : Nat) (hs : ev G s = some (.slice (some ⟨b, off, none⟩) len c)) (hx : ev G x = some (.slice (some ⟨b', 0, none⟩) 1 1)) (hm : M[kk]? = some (.blk b cs e)) (hm' : .blk b' [u] e ∈ M) (h1 : u.oneCell' = true) (hle : off + c ≤ cs.length) (hlc : len ≤ c) (hb : (len + 1) * by_ ≤ 140737488355328) (h63 : len + 1 ≤ 9223372036854775807) (hg : gst ops G g = some true) (hd : Nat.ble (d + 1) n = true)
    (k : ∀ (b2 off2 c2 : Nat) (cs2 : List Value), off2 + c2 ≤ cs2.length → len + 1 ≤ c2 → (cs2.drop off2).take (len + 1) = (cs.drop off).take len ++ [u] → OkD m X w0 (M.set kk (.blk b2 cs2 e)) I ∧ RD P n ops Q m.nextE l ((d, .slice (some ⟨b2, off2, none⟩) (len + 1) c2) :: G) X w0 (M.set kk (.blk b2 cs2 e)) I) :
    RD P n ops Q m (⟨some d, .call { callee := .builtin .append, args := #[s, x], argTypes := #[t, t] }, ty, pos, af, g⟩ :: l) G X w0 M I :=
  RD_e (d := some d) (K := fun v' M2 I2 => ∃ (b2 off2 c2 : Nat) (cs2 : List Value), v' = .slice (some ⟨b2, off2, none⟩) (len + 1) c2 ∧ off2 + c2 ≤ cs2.length ∧ len + 1 ≤ c2 ∧ (cs2.drop off2).take (len + 1) = (cs.drop off).take len ++ [u] ∧ M2 = M.set kk (.blk b2 cs2 e) ∧ I2 = I) hg
    (fun w hw => by
      refine (Eff_appQ hs hx (hw.blk (List.mem_of_getElem? hm)) (hw.blk hm') h1 hle hlc hb h63).mono ?_
      rintro v' w' ⟨b2, off2, c2, cs2, rfl, g1, g2, g3, hB, hE, hbb⟩
      have hrep : Rep (.blk b cs e) (.blk b2 cs2 e) M (M.set kk (.blk b2 cs2 e)) := Rep.at hm
      refine ⟨M.set kk (.blk b2 cs2 e), I, ⟨b2, off2, c2, cs2, rfl, g1, g2, g3, rfl, rfl⟩, hw.upd hrep hE ?_ (by simp [Ent.blocks]) hB⟩
      intro y hy
      simp [Ent.blocks] at hy
      subst hy
      rcases hbb with h | h
      · exact .inl (by simp [Ent.blocks, h])
      · exact .inr h) rfl hd
    (fun _ _ _ ⟨b2, off2, c2, cs2, hp, g1, g2, g3, hM, hI⟩ => by subst hp; subst hM; subst hI; exact k b2 off2 c2 cs2 g1 g2 g3)
end
end Go.Proofs.Ytkhgglkkdnemlaa
namespace Go.Proofs.Ytkhgglkkdnemlaa
open Go Go.Fx
def eS (c : Int × Bool) : List Value := [.int .i64 c.1, .bool c.2]
instance : Sized eS 2 := ⟨fun _ => rfl⟩
instance : Ones eS := ⟨fun m u hu => by simp [eS] at hu; rcases hu with rfl | rfl <;> rfl⟩
theorem gtA_rev {α : Type} [Inhabited α] (xs : List α) (j : Int) (h : 0 ≤ j ∧ j < xs.length) : gt xs.reverse j = gt xs (xs.length - 1 - j) := by
  obtain ⟨k, rfl⟩ : ∃ k : Nat, j = k := ⟨j.toNat, by omega⟩
  rw [show ((xs.length : Int) - 1 - (k : Int)) = ((xs.length - 1 - k : Nat) : Int) by omega]
  rw [gt_get (by rw [List.length_reverse]; omega), gt_get (by omega), List.getElem_reverse]
theorem revA_of {α : Type} [Inhabited α] {xs ys : List α} (hl : ys.length = xs.length) (h : ∀ j : Int, 0 ≤ j → j < xs.length → gt ys j = gt xs (xs.length - 1 - j)) : ys = xs.reverse := by
  refine list_eq_of_gt (by simpa using hl) (fun j hj => ?_)
  rw [h j (by omega) (by omega), gtA_rev xs j (by omega)]
section
variable {X : List Nat} {w0 : World} {M0 : List Ent} {I0 : List Imm}
theorem ReverseS_ok {b n c : Nat} {xs : List (Int × Bool)} {tl : List Value} (hn : n = xs.length) (hn2 : n ≤ 1000) :
    CD Try.prog 73 [.slice (some ⟨b, 0, none⟩) n c] X w0 (.blk b (recs eS xs ++ tl) 77 :: M0) I0 (fun v M I => M = .blk b (recs eS xs.reverse ++ tl) 77 :: M0 ∧ I0 = I ∧ v = .tuple #[]) := by
  subst hn
  refine enterD Try.func73 rfl Try.ntmps73 rfl ?_
  repeat (refine wXn ?_)
  refine TD_loop [0] rfl (fun k G M I => ∃ (i : Int) (j : Int) (ys : List (Int × Bool)), 0 ≤ i ∧ i + j = xs.length - 1 ∧ -1 ≤ j ∧ k = (j - i + 2).toNat ∧ ys.length = xs.length ∧ (∀ q : Int, 0 ≤ q → q < xs.length → gt ys q = if q < i ∨ j < q then gt xs (xs.length - 1 - q) else gt xs q) ∧ G = [(2, .int .i64 i), (3, .int .i64 j)] ∧ M = .blk b (recs eS ys ++ tl) 77 :: M0 ∧ I = I0) (((xs.length : Int) + 1).toNat) _ _ _ subG subP incL (⟨0, xs.length - 1, xs, by omega, by omega, by omega, by omega, rfl, fun q h1 h2 => by rw [if_neg (by omega)], rfl, rfl, rfl⟩) ?_
  rintro k G M I ⟨i, j, ys, hi, hij, hj, rfl, hl, hy, rfl, rfl, rfl⟩
  by_cases hlt : i < j
  · repeat (refine wXn ?_)
    (repeat refine TD_seq ?_); refine TD_drawn1 [0, 1, 2, 3, 4, 5, 6, 7, 8, 9, 10, 11, 12, 13, 14, 15] [0, 0, 1, 1, 0, 0, 0, 0, 1, 1, 1, 0, 0, 0, 0, 0] mixed (by kernel_rfl) ?_
    repeat (refine wXn ?_)
    refine ND_again ((j - 1 - (i + 1) + 2).toNat) _ _ _ (by first | omega | (simp only [List.length_append, List.length_cons, List.length_nil]; omega)) subG subP incL (⟨i + 1, j - 1, _, by omega, by omega, by omega, rfl, by rw [st_len, st_len]; exact hl, ?_, rfl, rfl, rfl⟩)
    intro q h1 h2
    have vi : gt ys i = gt xs i := by rw [hy i (by omega) (by omega)]; exact if_neg (by omega)
    have vj : gt ys j = gt xs j := by rw [hy j (by omega) (by omega)]; exact if_neg (by omega)
    rw [gt_st _ (by rw [st_len]; omega) h1, gt_st _ (by omega) h1, vi, vj, hy q h1 h2]
    by_cases e1 : q = j
    · rw [if_pos e1, if_pos (show q < i + 1 ∨ j - 1 < q by omega)]
      congr 1; omega
    · rw [if_neg e1]
      by_cases e2 : q = i
      · rw [if_pos e2, if_pos (show q < i + 1 ∨ j - 1 < q by omega)]
        congr 1; omega
      · rw [if_neg e2]
        by_cases e3 : q < i ∨ j < q
        · rw [if_pos e3, if_pos (show q < i + 1 ∨ j - 1 < q by omega)]
        · rw [if_neg e3, if_neg (show ¬ (q < i + 1 ∨ j - 1 < q) by omega)]
  · repeat (refine wXn ?_)
    have : ys = xs.reverse := by
      refine revA_of hl (fun q h1 h2 => ?_)
      rw [hy q h1 h2]
      by_cases e3 : q < i ∨ j < q
      · rw [if_pos e3]
      · rw [if_neg e3]; congr 1; omega
    subst this
    refine ND_ret0 (by first | exact .inl rfl | exact .inr rfl) rfl _ _ subP incL (⟨rfl, rfl, rfl⟩)
theorem ReverseS0_ok {c : Nat} : CD Try.prog 73 [.slice none 0 c] X w0 M0 I0 (fun v M I => M0 = M ∧ I0 = I ∧ v = .tuple #[]) := by
  refine enterD Try.func73 rfl Try.ntmps73 rfl ?_
  repeat (refine wXn ?_)
  refine TD_loop [0] rfl (fun k G M I => G = [(2, .int .i64 0), (3, .int .i64 (-1))] ∧ M = M0 ∧ I = I0) (0) _ _ _ subG subP incL (⟨rfl, rfl, rfl⟩) ?_
  rintro k G M I ⟨rfl, rfl, rfl⟩
  repeat (refine wXn ?_)
  refine ND_ret0 (by first | exact .inl rfl | exact .inr rfl) rfl _ _ subP incL (⟨rfl, rfl, rfl⟩)
theorem ReverseSR_ok {q : Option Addr} {c : Nat} {xs : List (Int × Bool)} (hn : xs.length ≤ 1000) :
    CD Try.prog 73 [.slice q xs.length c] X w0 (.row q xs.length c (recs eS xs) 77 2 :: M0) I0 (fun v M I => M0 = M ∧ I = slI q (recs eS xs.reverse) :: I0 ∧ v = .tuple #[]) := by
  refine CD_rowBlk ?_ ?_
  · rintro rfl h0 _ rfl
    have hnil : xs = [] := List.eq_nil_of_length_eq_zero h0
    subst hnil
    exact (ReverseS0_ok).post (fun v M1 I1 w h hw => ⟨M0, _, ⟨rfl, rfl, h.2.2⟩, by
      obtain ⟨rfl, rfl, _⟩ := h
      exact hw.nilS none⟩)
  · rintro b tl rfl hc
    exact (ReverseS_ok rfl hn).post (fun v M1 I1 w h hw => ⟨M0, _, ⟨rfl, rfl, h.2.2⟩, by
      obtain ⟨rfl, rfl, _⟩ := h
      have h1 := hw.freezeB .here
      exact (h1.takeI (List.Mem.head _)).inc (.cons (List.Mem.head _) (.of (fun φ hφ => List.Mem.tail _ (List.Mem.tail _ hφ))))⟩)
end
end Go.Proofs.Ytkhgglkkdnemlaa

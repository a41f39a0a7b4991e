/- Forest: the program's Path, walked. Forest: the law ForestPaths, walked. -/
import Derived.Test.YtkhgglkkdnemlaaZgaq
import Derived.Test.YtkhgglkkdnemlaaZgai
set_option linter.unusedSimpArgs false
set_option linter.unusedVariables false
namespace Go.Proofs.Ytkhgglkkdnemlaa
open Go Go.Fx
theorem sk_stp {l : List (Int × Bool)} (h : ∀ e ∈ l, 0 ≤ e.1) : (l.map stp).map sk = l.map Prod.fst := by
  rw [List.map_map]
  exact List.map_congr_left (fun e he => (stp_ok (h e he)).2)
section
variable {X : List Nat} {w0 : World} {M0 : List Ent} {I0 : List Imm}
theorem route_yes {p q : Option Addr} {n m c t ct : Nat} {ms : List LK} {T l0 : List Int} {u v : Int} (hn : n ≤ 256) (hm : ms.length = m) (hm2 : m ≤ 1024) (hg : Gd ms n) (hT : T.length = t) (ht : t ≤ 1000) (hr : inR m T) (hf : Fst [] (es ms T)) (h0 : Trail ms T l0 u v) (hu : 0 ≤ u ∧ u < n) (hv : 0 ≤ v ∧ v < n) (hp : slI p (recs eK ms) ∈ I0) (hq : slI q (recs (eI .i64) T) ∈ I0) :
    CD Try.prog 64 [gv n p m c, .slice q t ct, .int .i64 u, .int .i64 v] X w0 M0 I0 (fun r M I => M0 = M ∧ ∃ (q2 : Option Addr) (c2 : Nat) (l : List (Int × Bool)), r = .tuple #[.slice q2 l.length c2, .bool true] ∧ l.map stp = l0 ∧ (∀ x ∈ l, 0 ≤ x.1) ∧ I = slI q2 (recs eS l) :: I0) :=
  CD.mono (route_ok hn hm hm2 hg hT ht hr hu hv hp hq) (fun r M I h => by
    obtain ⟨h1, q2, c2, l, f, rfl, h2, h3, h4⟩ := h
    obtain ⟨rfl, h5⟩ := h2.both hf (Stp.of h0)
    exact ⟨h1, q2, c2, l, rfl, h5, h3, h4⟩)
theorem route_no {p q : Option Addr} {n m c t ct : Nat} {ms : List LK} {T : List Int} {u v : Int} (hn : n ≤ 256) (hm : ms.length = m) (hm2 : m ≤ 1024) (hg : Gd ms n) (hT : T.length = t) (ht : t ≤ 1000) (hr : inR m T) (h0 : ∀ l, ¬ Trail ms T l u v) (hu : 0 ≤ u ∧ u < n) (hv : 0 ≤ v ∧ v < n) (hp : slI p (recs eK ms) ∈ I0) (hq : slI q (recs (eI .i64) T) ∈ I0) :
    CD Try.prog 64 [gv n p m c, .slice q t ct, .int .i64 u, .int .i64 v] X w0 M0 I0 (fun r M I => M0 = M ∧ ∃ (q2 : Option Addr) (c2 : Nat), r = .tuple #[.slice q2 0 c2, .bool false] ∧ I = slI q2 (recs eS []) :: I0) :=
  CD.mono (route_ok hn hm hm2 hg hT ht hr hu hv hp hq) (fun r M I h => by
    obtain ⟨h1, q2, c2, l, f, rfl, h2, h3, h4⟩ := h
    cases f with
    | true => exact absurd (h2.yes rfl) (h0 _)
    | false =>
      have : l = [] := List.map_eq_nil_iff.1 (h2.no rfl).1
      subst this
      exact ⟨h1, q2, c2, rfl, h4⟩)
theorem Steps_yes {p q : Option Addr} {n m c t ct : Nat} {ms : List LK} {T l0 : List Int} {u v : Int} (hm : ms.length = m) (hm2 : m ≤ 1024) (hT : T.length = t) (ht : t ≤ 1000) (hr : inR m T) (hf : Fst [] (es ms T)) (hnd : T.Nodup) (hok : Ok q ∨ (t = 0 ∧ ct = 0)) (hct : t ≤ ct) (h0 : Trail ms T l0 u v) (hp : slI p (recs eK ms) ∈ I0) (hq : slI q (recs (eI .i64) T) ∈ I0) :
    CD Try.prog 40 [gv n p m c, .slice q t ct, .int .i64 u, .int .i64 v] X w0 M0 I0 (fun r M I => M0 = M ∧ ∃ (q2 : Option Addr) (c2 : Nat), r = .tuple #[.slice q2 l0.length c2, .bool true] ∧ (Ok q2 ∨ (l0.length = 0 ∧ c2 = 0)) ∧ I = slI q2 (recs (eI .i64) l0) :: I0) :=
  CD.mono (Steps_ok hm hm2 t T q ct u v M0 I0 hT ht hr hnd hok hct hp hq) (fun r M I h => by
    obtain ⟨h1, q2, c2, l, f, rfl, h2, _, h3, h4⟩ := h
    obtain ⟨rfl, rfl⟩ := h3.both hf (Stp.of h0)
    exact ⟨h1, q2, c2, rfl, h2.imp id (fun h => ⟨h.2.1, h.2.2⟩), h4⟩)
theorem Steps_no {p q : Option Addr} {n m c t ct : Nat} {ms : List LK} {T : List Int} {u v : Int} (hm : ms.length = m) (hm2 : m ≤ 1024) (hT : T.length = t) (ht : t ≤ 1000) (hr : inR m T) (hnd : T.Nodup) (hok : Ok q ∨ (t = 0 ∧ ct = 0)) (hct : t ≤ ct) (h0 : ∀ l, ¬ Trail ms T l u v) (hp : slI p (recs eK ms) ∈ I0) (hq : slI q (recs (eI .i64) T) ∈ I0) :
    CD Try.prog 40 [gv n p m c, .slice q t ct, .int .i64 u, .int .i64 v] X w0 M0 I0 (fun r M I => M0 = M ∧ ∃ (q2 : Option Addr) (c2 : Nat), r = .tuple #[.slice q2 0 c2, .bool false] ∧ I = slI q2 (recs (eI .i64) []) :: I0) :=
  CD.mono (Steps_ok hm hm2 t T q ct u v M0 I0 hT ht hr hnd hok hct hp hq) (fun r M I h => by
    obtain ⟨h1, q2, c2, l, f, rfl, h2, _, h3, h4⟩ := h
    cases f with
    | true => exact absurd (h3.yes rfl) (h0 _)
    | false =>
      obtain rfl := (h3.no rfl).1
      exact ⟨h1, q2, c2, rfl, h4⟩)
theorem Path_bad {p q : Option Addr} {N u v : Int} {ms : List LK} {m c t ct : Nat} (hm : ms.length = m) (hm2 : (m : Int) ≤ 9223372036854775807) (hc : gcode N ms ≠ 0) (hp : slI p (recs eK ms) ∈ I0) :
    CD Try.prog 39 [gv N p m c, .slice q t ct, .int .i64 u, .int .i64 v] X w0 M0 I0 (fun v M I => M0 = M ∧ I0 = I ∧ v = .tuple #[.slice none 0 0, .int .i64 (gcode N ms)]) := by
  have hC := fun M0 I0 h => gCheck_ok (X := X) (w0 := w0) (M0 := M0) (I0 := I0) (p := p) (N := N) (ms := ms) (c := c) hm hm2 h
  generalize gcode N ms = e at *
  refine enterD4 Try.func39 rfl Try.ntmps39 rfl ?_
  refine TD_seq ?_
  refine TD_region ?_
  (refine RD_boxA rfl rfl rfl ?_; intro b4; refine ⟨okF, ?_⟩)
  refine RD_freezeB .here ?_
  repeat (refine wXh ?_)
  (refine RD_callS rfl (hC _ _ memF) rfl rfl ?_; rintro _ _ _ ⟨rfl, rfl, rfl⟩; refine ⟨okF, ?_⟩)
  repeat (refine wXh ?_)
  refine ND_rets [8, 9] (by first | exact .inl rfl | exact .inr rfl) rfl rfl rfl _ _ subF incF (⟨rfl, rfl, rfl⟩)
theorem Path_f {p q : Option Addr} {n : Nat} {ms : List LK} {ls : List Int} {u v : Int} {m c t ct : Nat} (hn : n ≤ 256) (hm : ms.length = m) (hm2 : m ≤ 1024) (hg : Gd ms n) (ht : ls.length = t) (ht2 : t ≤ 100000) (hf : fcode ms ls ≠ 0) (hp : slI p (recs eK ms) ∈ I0) (hq : slI q (recs (eI .i64) ls) ∈ I0) :
    CD Try.prog 39 [gv n p m c, .slice q t ct, .int .i64 u, .int .i64 v] X w0 M0 I0 (fun v M I => M0 = M ∧ I0 = I ∧ v = .tuple #[.slice none 0 0, .int .i64 (fcode ms ls)]) := by
  have hC := fun M0 I0 h => gCheck_ok (X := X) (w0 := w0) (M0 := M0) (I0 := I0) (p := p) (N := n) (ms := ms) (c := c) hm (by omega) h
  rw [gcode_gd (by omega) (by omega) hg] at hC
  have hF := fun M0 I0 h1 h2 => cForest_bad (X := X) (w0 := w0) (M0 := M0) (I0 := I0) (p := p) (q := q) (n := n) (c := c) (ct := ct) (by omega) hm (by omega) hg ht ht2 hf h1 h2
  generalize fcode ms ls = e at *
  refine enterD4 Try.func39 rfl Try.ntmps39 rfl ?_
  refine TD_seq ?_
  refine TD_region ?_
  (refine RD_boxA rfl rfl rfl ?_; intro b4; refine ⟨okF, ?_⟩)
  refine RD_freezeB .here ?_
  repeat (refine wXh ?_)
  (refine RD_callS rfl (hC _ _ memF) rfl rfl ?_; rintro _ _ _ ⟨rfl, rfl, rfl⟩; refine ⟨okF, ?_⟩)
  repeat (refine wXh ?_)
  (refine RD_callS rfl (hF _ _ memF memF) rfl rfl ?_; rintro _ _ _ ⟨rfl, rfl, rfl⟩; refine ⟨okF, ?_⟩)
  repeat (refine wXh ?_)
  refine ND_rets [8, 9] (by first | exact .inl rfl | exact .inr rfl) rfl rfl rfl _ _ subF incF (⟨rfl, rfl, rfl⟩)
set_option maxRecDepth 100000 in
set_option maxHeartbeats 1000000 in
theorem Path_r {p q : Option Addr} {n : Nat} {ms : List LK} {ls : List Int} {u v : Int} {m c t ct : Nat} (hn : n ≤ 256) (hm : ms.length = m) (hm2 : m ≤ 1024) (hg : Gd ms n) (ht : ls.length = t) (ht2 : t ≤ 100000) (hf : fcode ms ls = 0) (hr : u < 0 ∨ n ≤ u ∨ v < 0 ∨ n ≤ v) (hp : slI p (recs eK ms) ∈ I0) (hq : slI q (recs (eI .i64) ls) ∈ I0) :
    CD Try.prog 39 [gv n p m c, .slice q t ct, .int .i64 u, .int .i64 v] X w0 M0 I0 (fun v M I => M0 = M ∧ I0 = I ∧ v = .tuple #[.slice none 0 0, .int .i64 2]) := by
  have hC := fun M0 I0 h => gCheck_ok (X := X) (w0 := w0) (M0 := M0) (I0 := I0) (p := p) (N := n) (ms := ms) (c := c) hm (by omega) h
  rw [gcode_gd (by omega) (by omega) hg] at hC
  have hF := fun M0 I0 h1 h2 => cForest_ok (X := X) (w0 := w0) (M0 := M0) (I0 := I0) (p := p) (q := q) (n := n) (c := c) (ct := ct) (by omega) hm (by omega) hg ht ht2 hf h1 h2
  refine enterD4 Try.func39 rfl Try.ntmps39 rfl ?_
  refine TD_seq ?_
  refine TD_region ?_
  (refine RD_boxA rfl rfl rfl ?_; intro b4; refine ⟨okF, ?_⟩)
  refine RD_freezeB .here ?_
  repeat (refine wXh ?_)
  (refine RD_callS rfl (hC _ _ memF) rfl rfl ?_; rintro _ _ _ ⟨rfl, rfl, rfl⟩; refine ⟨okF, ?_⟩)
  repeat (refine wXh ?_)
  (refine RD_callS rfl (hF _ _ memF memF) rfl rfl ?_; rintro _ _ _ ⟨rfl, b, u2, rfl, hu2, rfl⟩; refine ⟨okF, ?_⟩)
  repeat (refine wXh ?_)
  by_cases h1 : u < 0
  · repeat (refine wXh ?_)
    refine ND_rets [8, 9] (by first | exact .inl rfl | exact .inr rfl) rfl rfl rfl _ _ subF incF (⟨rfl, rfl, rfl⟩)
  by_cases h2 : n ≤ u
  · repeat (refine wXh ?_)
    refine ND_rets [8, 9] (by first | exact .inl rfl | exact .inr rfl) rfl rfl rfl _ _ subF incF (⟨rfl, rfl, rfl⟩)
  by_cases h3 : v < 0
  · repeat (refine wXh ?_)
    refine ND_rets [8, 9] (by first | exact .inl rfl | exact .inr rfl) rfl rfl rfl _ _ subF incF (⟨rfl, rfl, rfl⟩)
  have h4 : n ≤ v := by omega
  repeat (refine wXh ?_)
  refine ND_rets [8, 9] (by first | exact .inl rfl | exact .inr rfl) rfl rfl rfl _ _ subF incF (⟨rfl, rfl, rfl⟩)
set_option maxRecDepth 100000 in
set_option maxHeartbeats 1000000 in
theorem Path_no {p q : Option Addr} {n : Nat} {ms : List LK} {ls : List Int} {u v : Int} {m c t ct : Nat} (hn : n ≤ 256) (hm : ms.length = m) (hm2 : m ≤ 1024) (hg : Gd ms n) (ht : ls.length = t) (ht2 : t ≤ 1000) (hf : fcode ms ls = 0) (hu : 0 ≤ u ∧ u < n) (hv : 0 ≤ v ∧ v < n) (h0 : ∀ l, ¬ Trail ms ls l u v) (hp : slI p (recs eK ms) ∈ I0) (hq : slI q (recs (eI .i64) ls) ∈ I0) :
    CD Try.prog 39 [gv n p m c, .slice q t ct, .int .i64 u, .int .i64 v] X w0 M0 I0 (fun v M I => M0 = M ∧ I0 = I ∧ v = .tuple #[.slice none 0 0, .int .i64 6]) := by
  have hC := fun M0 I0 h => gCheck_ok (X := X) (w0 := w0) (M0 := M0) (I0 := I0) (p := p) (N := n) (ms := ms) (c := c) hm (by omega) h
  rw [gcode_gd (by omega) (by omega) hg] at hC
  have hri := (fcode_ok hf).1
  rw [hm] at hri
  have hF := fun M0 I0 h1 h2 => cForest_ok (X := X) (w0 := w0) (M0 := M0) (I0 := I0) (p := p) (q := q) (n := n) (c := c) (ct := ct) (by omega) hm (by omega) hg ht (by omega) hf h1 h2
  have hR := fun M0 I0 h1 h2 => route_no (X := X) (w0 := w0) (M0 := M0) (I0 := I0) (p := p) (q := q) (n := n) (c := c) (ct := ct) (by omega) hm (by omega) hg ht ht2 hri h0 hu hv h1 h2
  refine enterD4 Try.func39 rfl Try.ntmps39 rfl ?_
  refine TD_seq ?_
  refine TD_region ?_
  (refine RD_boxA rfl rfl rfl ?_; intro b4; refine ⟨okF, ?_⟩)
  refine RD_freezeB .here ?_
  repeat (refine wXh ?_)
  (refine RD_callS rfl (hC _ _ memF) rfl rfl ?_; rintro _ _ _ ⟨rfl, rfl, rfl⟩; refine ⟨okF, ?_⟩)
  repeat (refine wXh ?_)
  (refine RD_callS rfl (hF _ _ memF memF) rfl rfl ?_; rintro _ _ _ ⟨rfl, b, u2, rfl, hu2, rfl⟩; refine ⟨okF, ?_⟩)
  repeat (refine wXh ?_)
  (refine RD_callS rfl (hR _ _ memF memF) rfl rfl ?_; rintro _ _ _ ⟨rfl, q2, c2, rfl, rfl⟩; refine ⟨okF, ?_⟩)
  repeat (refine wXh ?_)
  refine ND_rets [8, 9] (by first | exact .inl rfl | exact .inr rfl) rfl rfl rfl _ _ subF incF (⟨rfl, rfl, rfl⟩)
set_option maxRecDepth 100000 in
set_option maxHeartbeats 1000000 in
theorem Path_yes {p q : Option Addr} {n : Nat} {ms : List LK} {ls l0 : List Int} {u v : Int} {m c t ct : Nat} (hn : n ≤ 256) (hm : ms.length = m) (hm2 : m ≤ 1024) (hg : Gd ms n) (ht : ls.length = t) (ht2 : t ≤ 1000) (hf : fcode ms ls = 0) (hu : 0 ≤ u ∧ u < n) (hv : 0 ≤ v ∧ v < n) (h0 : Trail ms ls l0 u v) (hl0 : l0.length ≤ 1000) (hp : slI p (recs eK ms) ∈ I0) (hq : slI q (recs (eI .i64) ls) ∈ I0) :
    CD Try.prog 39 [gv n p m c, .slice q t ct, .int .i64 u, .int .i64 v] X w0 M0 I0 (fun v M I => M0 = M ∧ ∃ (q2 : Option Addr) (c2 : Nat), v = .tuple #[.slice q2 l0.length c2, .int .i64 0] ∧ I = slI q2 (recs (eI .i64) (l0.map sk)) :: I0) := by
  have hC := fun M0 I0 h => gCheck_ok (X := X) (w0 := w0) (M0 := M0) (I0 := I0) (p := p) (N := n) (ms := ms) (c := c) hm (by omega) h
  rw [gcode_gd (by omega) (by omega) hg] at hC
  have hfo := fcode_ok hf
  rw [hm] at hfo
  have hF := fun M0 I0 h1 h2 => cForest_ok (X := X) (w0 := w0) (M0 := M0) (I0 := I0) (p := p) (q := q) (n := n) (c := c) (ct := ct) (by omega) hm (by omega) hg ht (by omega) hf h1 h2
  have hR := fun M0 I0 h1 h2 => route_yes (X := X) (w0 := w0) (M0 := M0) (I0 := I0) (p := p) (q := q) (n := n) (c := c) (ct := ct) (by omega) hm (by omega) hg ht ht2 hfo.1 hfo.2.2 h0 hu hv h1 h2
  refine enterD4 Try.func39 rfl Try.ntmps39 rfl ?_
  refine TD_seq ?_
  refine TD_region ?_
  (refine RD_boxA rfl rfl rfl ?_; intro b4; refine ⟨okF, ?_⟩)
  refine RD_freezeB .here ?_
  repeat (refine wXh ?_)
  (refine RD_callS rfl (hC _ _ memF) rfl rfl ?_; rintro _ _ _ ⟨rfl, rfl, rfl⟩; refine ⟨okF, ?_⟩)
  repeat (refine wXh ?_)
  (refine RD_callS rfl (hF _ _ memF memF) rfl rfl ?_; rintro _ _ _ ⟨rfl, b, u2, rfl, hu2, rfl⟩; refine ⟨okF, ?_⟩)
  repeat (refine wXh ?_)
  (refine RD_callS rfl (hR _ _ memF memF) rfl rfl ?_; rintro _ _ _ ⟨rfl, q2, c2, l, rfl, hl, hl1, rfl⟩; refine ⟨okF, ?_⟩)
  have hlen : l.length = l0.length := by rw [← hl, List.length_map]
  have hout : l.map Prod.fst = l0.map sk := by rw [← hl, sk_stp hl1]
  repeat (refine wXh ?_)
  refine TD_row0 3 1 ?_
  refine TD_loop [60, 61] rfl (fun k G M I => ∃ (i : Nat) (q3 : Option Addr) (c3 : Nat) (xs : List Int), i ≤ l.length ∧ k = l.length - i ∧ xs = (l.take i).map Prod.fst ∧ G = [(15, .slice q3 xs.length c3), (62, .int .i64 i)] ∧ M = .row q3 xs.length c3 (recs (eI .i64) xs) 3 1 :: M0 ∧ I = slI q2 (recs eS l) :: I0) (l.length) _ _ _ subG subF incF (⟨0, none, 0, [], by omega, rfl, rfl, rfl, rfl, rfl⟩) ?_
  rintro kk G M I ⟨i, q3, c3, xs, hi, rfl, hxs, rfl, rfl, rfl⟩
  have hxl : xs.length = i := by rw [hxs, List.length_map, List.length_take]; omega
  by_cases hil : i < l.length
  · have h6 : xs ++ [(gt l (i : Int)).1] = (l.take (i + 1)).map Prod.fst := by rw [take_snoc hil, List.map_append, hxs]; rfl
    repeat (refine wXh ?_)
    (refine RD_alloc rfl rfl ?_; intro b17; refine ⟨okF, ?_⟩)
    repeat (refine wXh ?_)
    (refine RD_vals (cs := recs (eI .i64) [(gt l (i : Int)).1]) ([.int .i64 (gt l (i : Int)).1]) rfl rfl (by intro v hv; repeat (first | exact absurd hv (List.not_mem_nil) | (rcases List.mem_cons.1 hv with rfl | hv; · rfl))) (by omega) rfl rfl rfl ?_; intro b18; refine ⟨okF, ?_⟩)
    (refine RD_appR (ys := [(gt l (i : Int)).1]) 2 rfl rfl rfl ?_ (by decide) rfl (by omega) (by omega) rfl rfl ?_; (· first | exact Src.blk memF | exact Src.row memF | exact Src.imm memF (by first | assumption | exact .inl (Ok.mk _ _))); intro a2 c4; refine ⟨okF, ?_⟩)
    repeat (refine wXh ?_)
    refine ND_again (l.length - (i + 1)) _ _ _ (by first | omega | (simp only [List.length_append, List.length_cons, List.length_nil]; omega)) subG subF incF (⟨i + 1, a2, c4, xs ++ [(gt l (i : Int)).1], by omega, rfl, h6, rfl, rfl, rfl⟩)
  · obtain rfl : i = l.length := by omega
    rw [List.take_length, hout] at hxs
    subst hxs
    repeat (refine wXh ?_)
    refine ND_freezeR .here ?_
    refine ND_rets [8, 9] (by first | exact .inl rfl | exact .inr rfl) rfl rfl rfl _ _ subF incF (⟨rfl, q3, c3, by rw [List.length_map], rfl⟩)
end
end Go.Proofs.Ytkhgglkkdnemlaa
namespace Go.Proofs.Ytkhgglkkdnemlaa
open Go Go.Fx
theorem nodup_len : ∀ (a b : List Int), a.Nodup → (∀ x ∈ a, x ∈ b) → a.length ≤ b.length
  | [], _, _, _ => Nat.zero_le _
  | x :: a, b, h, hs => by
    rw [List.nodup_cons] at h
    have h1 := List.length_erase_of_mem (hs x (by simp))
    have h2 := nodup_len a (b.erase x) h.2 (fun y hy => by
      refine (List.mem_erase_of_ne (fun e => ?_)).2 (hs y (by simp [hy]))
      subst e; exact h.1 hy)
    have h3 : 0 < b.length := List.length_pos_of_mem (hs x (by simp))
    rw [List.length_cons]
    omega
theorem Trail.len {ms : List LK} {T l : List Int} {u v : Int} (h : Trail ms T l u v) : l.length ≤ T.length := by
  have := nodup_len (l.map sk) T h.nod (fun x hx => by
    obtain ⟨s, hs, rfl⟩ := List.mem_map.1 hx
    exact h.mem s hs)
  rwa [List.length_map] at this
theorem asc_nodup {l : List Int} (h : asc l) : l.Nodup := List.Pairwise.imp (fun {a b} h (e : a = b) => by omega) h
theorem gt_map_sk {l : List Int} {i : Nat} (h : i < l.length) : gt (l.map sk) (i : Int) = sk (gt l (i : Int)) := by
  rw [gt_get (by rw [List.length_map]; exact h), gt_get h, List.getElem_map]
section
variable {X : List Nat} {w0 : World} {M0 : List Ent} {I0 : List Imm}
set_option maxRecDepth 100000 in
set_option maxHeartbeats 4000000 in
theorem LPaths_ok {p q : Option Addr} {N u v : Int} {ms : List LK} {ls : List Int} {c ct : Nat} (hm2 : (ms.length : Int) ≤ 9223372036854775807) (hl : (ls.length : Int) ≤ 9223372036854775807) (hct : ls.length ≤ ct) (hok : Ok q ∨ (ls.length = 0 ∧ ct = 0)) (hp : slI p (recs eK ms) ∈ I0) (hq : slI q (recs (eI .i64) ls) ∈ I0) :
    CD Try.prog 10 [gv N p ms.length c, .slice q ls.length ct, .agg #[.int .i64 u, .int .i64 v]] X w0 M0 I0 (fun v _ _ => v = .bool true) := by
  have hR := fun M0 I0 h => rgCheck_ok (X := X) (w0 := w0) (M0 := M0) (I0 := I0) (p := p) (N := N) (ms := ms) (c := c) rfl hm2 h
  obtain ⟨m, hm⟩ : ∃ m, ms.length = m := ⟨_, rfl⟩
  obtain ⟨t, ht⟩ : ∃ t, ls.length = t := ⟨_, rfl⟩
  rw [hm] at hR hm2
  rw [ht] at hl hct hok
  rw [hm, ht]
  refine enterD3 Try.func10 rfl Try.ntmps10 rfl ?_
  refine TD_seq ?_
  refine TD_region ?_
  (refine RD_boxA rfl rfl rfl ?_; intro b3; refine ⟨okF, ?_⟩)
  refine RD_freezeB .here ?_
  (refine RD_boxA rfl rfl rfl ?_; intro b5; refine ⟨okF, ?_⟩)
  refine RD_freezeB .here ?_
  repeat (refine wXh ?_)
  (refine RD_callS rfl (known11_ok) rfl rfl ?_; rintro _ _ _ ⟨rfl, rfl, rfl⟩; refine ⟨okF, ?_⟩)
  repeat (refine wXh ?_)
  (refine RD_callS rfl (few_ok) rfl rfl ?_; rintro _ _ _ ⟨rfl, rfl, rfl⟩; refine ⟨okF, ?_⟩)
  by_cases hf : N ≤ 10 ∧ m ≤ 24
  rotate_left
  · rw [B_false hf]
    repeat (refine wXh ?_)
    refine ND_ret1 (by first | exact .inl rfl | exact .inr rfl) rfl rfl _ _ subF incF (rfl)
  rw [B_true hf]
  by_cases hN8 : N ≤ 8
  rotate_left
  · repeat (refine wXh ?_)
    refine ND_ret1 (by first | exact .inl rfl | exact .inr rfl) rfl rfl _ _ subF incF (rfl)
  by_cases h30 : t ≤ 30
  rotate_left
  · repeat (refine wXh ?_)
    refine ND_ret1 (by first | exact .inl rfl | exact .inr rfl) rfl rfl _ _ subF incF (rfl)
  by_cases hc : gcode N ms = 0
  rotate_left
  · have hB := fun M0 I0 h => Path_bad (X := X) (w0 := w0) (M0 := M0) (I0 := I0) (p := p) (q := q) (N := N) (u := u) (v := v) (ms := ms) (c := c) (t := t) (ct := ct) hm hm2 hc h
    generalize gcode N ms = e at *
    repeat (refine wXh ?_)
    (refine RD_callS rfl (hB _ _ memF) rfl rfl ?_; rintro _ _ _ ⟨rfl, rfl, rfl⟩; refine ⟨okF, ?_⟩)
    repeat (refine wXh ?_)
    (refine RD_callS rfl (hR _ _ memF) rfl rfl ?_; rintro _ _ _ ⟨rfl, rfl, rfl⟩; refine ⟨okF, ?_⟩)
    repeat (refine wXh ?_)
    refine ND_ret1 (by first | exact .inl rfl | exact .inr rfl) rfl rfl _ _ subF incF (congrArg Value.bool (B_true rfl))
  obtain ⟨n, rfl, hn, hl2, hg⟩ := gd_gcode hc
  rw [hm] at hl2
  rw [hc] at hR
  have hF := fun M0 I0 h1 h2 => rForest_ok (X := X) (w0 := w0) (M0 := M0) (I0 := I0) (p := p) (q := q) (n := n) (c := c) (ct := ct) (by omega) hm (by omega) hg ht (by omega) hct h1 h2
  by_cases hfc : fcode ms ls = 0
  rotate_left
  · have hT := fun M0 I0 h1 h2 => Path_f (X := X) (w0 := w0) (M0 := M0) (I0 := I0) (p := p) (q := q) (n := n) (u := u) (v := v) (c := c) (ct := ct) (by omega) hm (by omega) hg ht (by omega) hfc h1 h2
    generalize fcode ms ls = e at *
    repeat (refine wXh ?_)
    (refine RD_callS rfl (hT _ _ memF memF) rfl rfl ?_; rintro _ _ _ ⟨rfl, rfl, rfl⟩; refine ⟨okF, ?_⟩)
    repeat (refine wXh ?_)
    (refine RD_callS rfl (hR _ _ memF) rfl rfl ?_; rintro _ _ _ ⟨rfl, rfl, rfl⟩; refine ⟨okF, ?_⟩)
    repeat (refine wXh ?_)
    (refine RD_callS rfl (hF _ _ memF memF) rfl rfl ?_; rintro _ _ _ ⟨rfl, rfl, rfl⟩; refine ⟨okF, ?_⟩)
    repeat (refine wXh ?_)
    refine ND_ret1 (by first | exact .inl rfl | exact .inr rfl) rfl rfl _ _ subF incF (congrArg Value.bool (B_true rfl))
  have hfo := fcode_ok hfc
  rw [hm] at hfo
  rw [hfc] at hF
  by_cases hrg : u < 0 ∨ n ≤ u ∨ v < 0 ∨ n ≤ v
  · have hT := fun M0 I0 h1 h2 => Path_r (X := X) (w0 := w0) (M0 := M0) (I0 := I0) (p := p) (q := q) (n := n) (u := u) (v := v) (c := c) (ct := ct) (by omega) hm (by omega) hg ht (by omega) hfc hrg h1 h2
    repeat (refine wXh ?_)
    (refine RD_callS rfl (hT _ _ memF memF) rfl rfl ?_; rintro _ _ _ ⟨rfl, rfl, rfl⟩; refine ⟨okF, ?_⟩)
    repeat (refine wXh ?_)
    (refine RD_callS rfl (hR _ _ memF) rfl rfl ?_; rintro _ _ _ ⟨rfl, rfl, rfl⟩; refine ⟨okF, ?_⟩)
    repeat (refine wXh ?_)
    (refine RD_callS rfl (hF _ _ memF memF) rfl rfl ?_; rintro _ _ _ ⟨rfl, rfl, rfl⟩; refine ⟨okF, ?_⟩)
    repeat (refine wXh ?_)
    by_cases h1 : u < 0
    · repeat (refine wXh ?_)
      refine ND_ret1 (by first | exact .inl rfl | exact .inr rfl) rfl rfl _ _ subF incF (congrArg Value.bool (B_true rfl))
    by_cases h2 : n ≤ u
    · repeat (refine wXh ?_)
      refine ND_ret1 (by first | exact .inl rfl | exact .inr rfl) rfl rfl _ _ subF incF (congrArg Value.bool (B_true rfl))
    by_cases h3 : v < 0
    · repeat (refine wXh ?_)
      refine ND_ret1 (by first | exact .inl rfl | exact .inr rfl) rfl rfl _ _ subF incF (congrArg Value.bool (B_true rfl))
    have h4 : n ≤ v := by omega
    repeat (refine wXh ?_)
    refine ND_ret1 (by first | exact .inl rfl | exact .inr rfl) rfl rfl _ _ subF incF (congrArg Value.bool (B_true rfl))
  have hu : 0 ≤ u ∧ u < n := by omega
  have hv : 0 ≤ v ∧ v < n := by omega
  by_cases he : ∃ l, Trail ms ls l u v
  rotate_left
  · have h0 : ∀ l, ¬ Trail ms ls l u v := fun l h => he ⟨l, h⟩
    have hT := fun M0 I0 h1 h2 => Path_no (X := X) (w0 := w0) (M0 := M0) (I0 := I0) (p := p) (q := q) (n := n) (u := u) (v := v) (c := c) (ct := ct) (by omega) hm (by omega) hg ht (by omega) hfc hu hv h0 h1 h2
    have hS := fun M0 I0 h1 h2 => Steps_no (X := X) (w0 := w0) (M0 := M0) (I0 := I0) (p := p) (q := q) (n := n) (u := u) (v := v) (c := c) (ct := ct) hm (by omega) ht (by omega) hfo.1 (asc_nodup hfo.2.1) hok hct h0 h1 h2
    clear h0 he
    repeat (refine wXh ?_)
    (refine RD_callS rfl (hT _ _ memF memF) rfl rfl ?_; rintro _ _ _ ⟨rfl, rfl, rfl⟩; refine ⟨okF, ?_⟩)
    repeat (refine wXh ?_)
    (refine RD_callS rfl (hR _ _ memF) rfl rfl ?_; rintro _ _ _ ⟨rfl, rfl, rfl⟩; refine ⟨okF, ?_⟩)
    repeat (refine wXh ?_)
    (refine RD_callS rfl (hF _ _ memF memF) rfl rfl ?_; rintro _ _ _ ⟨rfl, rfl, rfl⟩; refine ⟨okF, ?_⟩)
    repeat (refine wXh ?_)
    (refine RD_callS rfl (hS _ _ memF memF) rfl rfl ?_; rintro _ _ _ ⟨rfl, q2, c2, rfl, rfl⟩; refine ⟨okF, ?_⟩)
    repeat (refine wXh ?_)
    refine ND_ret1 (by first | exact .inl rfl | exact .inr rfl) rfl rfl _ _ subF incF (congrArg Value.bool (B_true rfl))
  obtain ⟨l0, h0⟩ := he
  have hl0 := h0.len
  rw [ht] at hl0
  have hT := fun M0 I0 h1 h2 => Path_yes (X := X) (w0 := w0) (M0 := M0) (I0 := I0) (p := p) (q := q) (n := n) (u := u) (v := v) (c := c) (ct := ct) (by omega) hm (by omega) hg ht (by omega) hfc hu hv h0 (by omega) h1 h2
  have hS := fun M0 I0 h1 h2 => Steps_yes (X := X) (w0 := w0) (M0 := M0) (I0 := I0) (p := p) (q := q) (n := n) (u := u) (v := v) (c := c) (ct := ct) hm (by omega) ht (by omega) hfo.1 hfo.2.2 (asc_nodup hfo.2.1) hok hct h0 h1 h2
  have hlm : (l0.map sk).length = l0.length := List.length_map _
  repeat (refine wXh ?_)
  (refine RD_callS rfl (hT _ _ memF memF) rfl rfl ?_; rintro _ _ _ ⟨rfl, q1, c1, rfl, rfl⟩; refine ⟨okF, ?_⟩)
  repeat (refine wXh ?_)
  (refine RD_callS rfl (hR _ _ memF) rfl rfl ?_; rintro _ _ _ ⟨rfl, rfl, rfl⟩; refine ⟨okF, ?_⟩)
  repeat (refine wXh ?_)
  (refine RD_callS rfl (hF _ _ memF memF) rfl rfl ?_; rintro _ _ _ ⟨rfl, rfl, rfl⟩; refine ⟨okF, ?_⟩)
  repeat (refine wXh ?_)
  (refine RD_callS rfl (hS _ _ memF memF) rfl rfl ?_; rintro _ _ _ ⟨rfl, q2, c2, rfl, hok2, rfl⟩; refine ⟨okF, ?_⟩)
  repeat (refine wXh ?_)
  refine TD_loop [7, 110, 111] rfl (fun k G M I => ∃ i : Nat, i ≤ l0.length ∧ k = l0.length - i ∧ G = [(112, .int .i64 i)] ∧ M = M0 ∧ I = slI q2 (recs (eI .i64) l0) :: slI q1 (recs (eI .i64) (l0.map sk)) :: I0) (l0.length) _ _ _ subG subF incF (⟨0, by omega, rfl, rfl, rfl, rfl⟩) ?_
  rintro kk G M I ⟨i, hi, rfl, rfl, rfl, rfl⟩
  by_cases hil : i < l0.length
  · have h1 := gt_map_sk hil
    have h2 := hfo.1 _ (h0.mem (gt l0 (i : Int)) (gt_in ⟨by omega, by omega⟩))
    have h3 : gt (l0.map sk) (i : Int) = max (gt l0 (i : Int)) (-gt l0 (i : Int)) - 1 := by
      rw [h1]; unfold sk; split <;> omega
    have h4 : -1000 ≤ gt l0 (i : Int) ∧ gt l0 (i : Int) ≤ 1000 := by
      unfold sk at h2
      split at h2 <;> omega
    repeat (refine wXh ?_)
    refine ND_again (l0.length - (i + 1)) _ _ _ (by first | omega | (simp only [List.length_append, List.length_cons, List.length_nil]; omega)) subG subF incF (⟨i + 1, by omega, rfl, rfl, rfl, rfl⟩)
  · repeat (refine wXh ?_)
    refine ND_ret1 (by first | exact .inl rfl | exact .inr rfl) rfl rfl _ _ subF incF (rfl)
end
end Go.Proofs.Ytkhgglkkdnemlaa

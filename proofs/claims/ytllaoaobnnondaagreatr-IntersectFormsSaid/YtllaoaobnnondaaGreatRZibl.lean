/- The law's short (chapter 25). Arguments of chapter 25, opened: vectors and rays. Chapter 25: brief rays and vectors. -/
import Derived.Test.YtllaoaobnnondaaGreatRZibk
import Derived.Test.YtllaoaobnnondaaGreatRZibb
import Derived.Test.YtllaoaobnnondaaGreatRZibe
import Derived.OpenShut
set_option linter.unusedSimpArgs false
set_option linter.unusedVariables false
namespace Go.Proofs.YtllaoaobnnondaaGreatR
open Go Go.Fx
def TW.brief (p : TW) : Prop := ∀ e ∈ p.es, e.brief
instance (p : TW) : Decidable p.brief := inferInstanceAs (Decidable (∀ e ∈ p.es, e.brief))
structure AllTW (ms : List TW) (X : List Nat) (w : World) : Prop where
  go : ∀ r ∈ ms, IsTW r X w
abbrev allTW (ms : List TW) : Imm := AllTW ms
instance (ms : List TW) : Fx.Good (AllTW ms) := ⟨fun X Y w w' h he hY => ⟨fun r hm => Fx.Good.go (φ := IsTW _) X Y w w' (h.go r hm) he hY⟩⟩
theorem idxV {p : TW} {i : Nat} (hi : i < 3) : ((recs eW [p.x, p.y, p.z]).drop ((i : Int).toNat * 4)).take 4 = eW (gt p.es (i : Int)) := by
  have : i = 0 ∨ i = 1 ∨ i = 2 := by omega
  rcases this with rfl | rfl | rfl <;> rfl
/-- the vectors of rays -/
def flatY (ms : List YW) : List TW := ms.flatMap (fun r => [r.o, r.a])
theorem flatY_take {ms : List YW} {i : Nat} (h : i < ms.length) : flatY (ms.take (i + 1)) = flatY (ms.take i) ++ [(gt ms (i : Int)).o, (gt ms (i : Int)).a] := by
  rw [List.take_succ_eq_append_getElem h, flatY, List.flatMap_append, gt_lt h]
  rfl
theorem flatY_len (ms : List YW) : (flatY ms).length = 2 * ms.length := by
  induction ms with
  | nil => rfl
  | cons x r ih =>
    show (x.o :: x.a :: flatY r).length = _
    simp only [List.length_cons, ih]; omega
section
variable {X : List Nat} {w0 : World} {M0 : List Ent} {I0 : List Imm}
set_option maxRecDepth 100000 in
set_option maxHeartbeats 2000000 in
theorem lShort_ok {q pq : Option Addr} {c pc n m : Nat} {ms : List YW} {ps : List TW} {M1 : List Ent} (hl : ms.length = n) (hn : n ≤ 6) (hp : ps.length = m) (hm : m ≤ 1000) (hq : slI q (recs eYW ms) ∈ I0) (hw : allYW ms ∈ I0) (hps : allTW ps ∈ I0)
    (hM : M0 = .row pq m pc (recs eTW ps) 27 12 :: M1) :
    CD Tryz.prog 14 [.slice q n c, .slice pq m pc] X w0 M0 I0 (fun v M I => M1 = M ∧ I0 = I ∧ v = .bool (B (∀ p ∈ ps ++ flatY ms, p.brief))) := by
  subst hM
  subst hp
  refine enterD2 Tryz.func14 rfl Tryz.ntmps14 rfl ?_
  repeat (refine wXh ?_)
  refine TD_hv (φ := allTW (ps ++ flatY (ms.take 0))) (by rw [show ps ++ flatY (ms.take 0) = ps from by simp [flatY]]; exact Hv.mem hps) ?_
  refine TD_loop [14, 15] rfl (fun k G M I => ∃ (i : Nat) (qs : List TW) (q2 : Option Addr) (c2 : Nat), i ≤ n ∧ k = n - i ∧ qs = ps ++ flatY (ms.take i) ∧ G = [(1, .slice q2 qs.length c2), (16, .int .i64 i)] ∧ M = .row q2 qs.length c2 (recs eTW qs) 27 12 :: M1 ∧ I = allTW qs :: I0) (n) _ _ _ subG subF incF (⟨0, ps, pq, pc, by omega, rfl, by simp [flatY], rfl, rfl, by simp [flatY]⟩) ?_
  rintro kk G M I ⟨i, qs, q2, c2, hi, rfl, hqs, rfl, rfl, rfl⟩
  have hql : qs.length = ps.length + 2 * i := by rw [hqs, List.length_append, flatY_len, List.length_take]; omega
  by_cases hin : i < n
  · repeat (refine wXh ?_)
    (refine RD_alloc rfl rfl ?_; intro b6; refine ⟨okF, ?_⟩)
    repeat (refine wXh ?_)
    refine RD_freezeB .here ?_
    repeat (first | (refine wXh ?_) | (apply RD_ldZIB; exact vwF; exact rfl; exact memF; (first | exact AtsZ.y0 | exact AtsZ.y1 | exact AtsZ.w0 | exact AtsZ.w1); exact rfl; exact rfl))
    repeat (refine wXh ?_)
    (refine RD_vals (cs := recs eTW [(gt ms (i : Int)).o, (gt ms (i : Int)).a]) ([twv (gt ms (i : Int)).o, twv (gt ms (i : Int)).a]) rfl rfl (by intro v hv; repeat (first | exact absurd hv (List.not_mem_nil) | (rcases List.mem_cons.1 hv with rfl | hv; · rfl))) (by omega) rfl rfl rfl ?_; intro b; refine ⟨okF, ?_⟩)
    (refine RD_appR (ys := [(gt ms (i : Int)).o, (gt ms (i : Int)).a]) 1 rfl rfl rfl ?_ (by decide) rfl (by omega) (by omega) rfl rfl ?_; (· first | exact Src.blk memF | exact Src.row memF | exact Src.imm memF (by first | assumption | exact .inl (Ok.mk _ _))); intro q3 c3; refine ⟨okF, ?_⟩)
    repeat (refine wXh ?_)
    refine ND_hv (φ := allTW (qs ++ [(gt ms (i : Int)).o, (gt ms (i : Int)).a])) ⟨fun X w hww => ⟨fun r hr => ?_⟩⟩ ?_
    · rcases List.mem_append.1 hr with h | h
      · exact (hww _ (by exact memF) : AllTW qs X w).go r h
      · have h2 := (hww _ (by exact memF) : AllYW ms X w).go _ (gt_mem (ms := ms) (i := (i : Int)) (by omega))
        simp only [List.mem_cons, List.not_mem_nil, or_false] at h
        rcases h with rfl | rfl
        · exact h2.o
        · exact h2.a
    refine ND_again (n - (i + 1)) _ _ _ (by first | omega | (simp only [List.length_append, List.length_cons, List.length_nil]; omega)) subG subF incF (⟨i + 1, qs ++ [(gt ms (i : Int)).o, (gt ms (i : Int)).a], q3, c3, by omega, rfl, by rw [flatY_take (by omega), hqs, List.append_assoc], rfl, rfl, rfl⟩)
  · obtain rfl : i = n := by omega
    have hall : qs = ps ++ flatY ms := by rw [hqs, List.take_of_length_le (by omega)]
    rw [← hall]
    clear hqs
    repeat (refine wXh ?_)
    refine TD_loop [28, 29] rfl (fun k G M I => ∃ (j : Nat), j ≤ qs.length ∧ k = qs.length - j ∧ (∀ x : Nat, x < j → (gt qs (x : Int)).brief) ∧ G = [(30, .int .i64 j)] ∧ M = .row q2 qs.length c2 (recs eTW qs) 27 12 :: M1 ∧ I = allTW qs :: I0) (qs.length) _ _ _ subG subF incF (⟨0, by omega, rfl, fun x hx => by omega, rfl, rfl, rfl⟩) ?_
    rintro kk G M I ⟨j, hj, rfl, hb, rfl, rfl, rfl⟩
    by_cases hjn : j < qs.length
    · obtain ⟨p, hpe⟩ : ∃ p, gt qs (j : Int) = p := ⟨_, rfl⟩
      have hpI : ∀ I, allTW qs ∈ I → Hv I (isTW p) := fun I h => ⟨fun X w hww => by rw [← hpe]; exact (hww _ h : AllTW qs X w).go _ (gt_mem (by omega))⟩
      repeat (refine wXh ?_)
      rw [hpe]
      (refine RD_alloc rfl rfl ?_; intro b8; refine ⟨okF, ?_⟩)
      repeat (refine wXh ?_)
      refine TD_loop [28, 29, 30, 34] rfl (fun k G M I => ∃ (t : Nat), t ≤ 3 ∧ k = 3 - t ∧ (∀ x : Nat, x < t → (gt p.es (x : Int)).brief) ∧ G = [(35, .int .i64 t)] ∧ M = .row q2 qs.length c2 (recs eTW qs) 27 12 :: M1 ∧ I = allTW qs :: I0) (3) _ _ _ subG subF incF (⟨0, by omega, rfl, fun x hx => by omega, rfl, rfl, rfl⟩) ?_
      rintro kk G M I ⟨t, ht, rfl, hbt, rfl, rfl, rfl⟩
      by_cases htn : t < 3
      · have hBr := fun M0 I0 h => Brief_ok (X := X) (w0 := w0) (M0 := M0) (I0 := I0) (r := gt p.es (t : Int)) h
        have hmem : gt p.es (t : Int) ∈ p.es := gt_mem ⟨by omega, by show (t : Int) < ((3 : Nat) : Int); omega⟩
        by_cases hbr : (gt p.es (t : Int)).brief
        · rw [B_true hbr] at hBr
          repeat (refine wXh ?_)
          (refine RD_c rfl (fun _ => Const_indexV (vs := eW (gt p.es (t : Int))) (cs := recs eW [p.x, p.y, p.z]) (i := (t : Int)) rfl rfl ⟨by omega, by show (t : Int) < ((3 : Nat) : Int); omega⟩ (idxV htn)) rfl rfl ?_)
          (refine RD_alloc rfl rfl ?_; intro b10; refine ⟨okF, ?_⟩)
          repeat (refine wXh ?_)
          (refine RD_callS rfl (hBr _ _ (Hv.twel (hpI _ memF) hmem)) rfl rfl ?_; rintro _ _ _ ⟨rfl, rfl, rfl⟩; refine ⟨okF, ?_⟩)
          repeat (refine wXh ?_)
          refine ND_again (3 - (t + 1)) _ _ _ (by first | omega | (simp only [List.length_append, List.length_cons, List.length_nil]; omega)) subG subF incF (⟨t + 1, by omega, rfl, fun x hx => ?_, rfl, rfl, rfl⟩)
          by_cases e : x = t
          · subst e; exact hbr
          · exact hbt x (by omega)
        · rw [B_false hbr] at hBr
          repeat (refine wXh ?_)
          (refine RD_c rfl (fun _ => Const_indexV (vs := eW (gt p.es (t : Int))) (cs := recs eW [p.x, p.y, p.z]) (i := (t : Int)) rfl rfl ⟨by omega, by show (t : Int) < ((3 : Nat) : Int); omega⟩ (idxV htn)) rfl rfl ?_)
          (refine RD_alloc rfl rfl ?_; intro b10; refine ⟨okF, ?_⟩)
          repeat (refine wXh ?_)
          (refine RD_callS rfl (hBr _ _ (Hv.twel (hpI _ memF) hmem)) rfl rfl ?_; rintro _ _ _ ⟨rfl, rfl, rfl⟩; refine ⟨okF, ?_⟩)
          repeat (refine wXh ?_)
          refine ND_ret1 (by first | exact .inl rfl | exact .inr rfl) rfl rfl _ _ subF incF (⟨rfl, rfl, congrArg Value.bool (B_false (fun h => hbr (h p (by rw [← hpe]; exact gt_mem (by omega)) _ hmem))).symm⟩)
      · obtain rfl : t = 3 := by omega
        repeat (refine wXh ?_)
        refine ND_again (qs.length - (j + 1)) _ _ _ (by first | omega | (simp only [List.length_append, List.length_cons, List.length_nil]; omega)) subG subF incF (⟨j + 1, by omega, rfl, fun x hx => ?_, rfl, rfl, rfl⟩)
        by_cases e : x = j
        · subst e
          rw [hpe]
          intro r hr
          obtain ⟨y, hy, rfl⟩ := List.mem_iff_getElem.1 hr
          have := hbt y hy
          rwa [gt_lt hy] at this
        · exact hb x (by omega)
    · obtain rfl : j = qs.length := by omega
      repeat (refine wXh ?_)
      refine ND_ret1 (by first | exact .inl rfl | exact .inr rfl) rfl rfl _ _ subF incF (⟨rfl, rfl, congrArg Value.bool (B_true (fun p hp => ?_)).symm⟩)
      obtain ⟨y, hy, rfl⟩ := List.mem_iff_getElem.1 hp
      have := hb y hy
      rwa [gt_lt hy] at this
end
end Go.Proofs.YtllaoaobnnondaaGreatR
namespace Go.Proofs.YtllaoaobnnondaaGreatR
open Go Go.Fx
open Go.ChangeShapes Go.WideShapes Go.RowKit Go.ChangeAt
section
variable {H : Type} {enc : TypeId × Value → H} {W : World}
set_option maxRecDepth 100000 in
theorem dec_vecH {n : Nat} {cs : List Value} {y : DataW H × List MemPlace} (h : DataW.trod enc Tryz.prog W 0 (fun _ => true) true n 27 cs = some y) : ∃ p : TW, cs = eTW p ∧ IsTW p [] W := by
  have hc4 : Tryz.prog.cellsOf 26 = 4 := by kernel_rfl
  have hc12 : Tryz.prog.cellsOf 27 = 12 := by kernel_rfl
  obtain ⟨xs, m, _, hy, hl, hxl, hx⟩ := DataW.trod_array Tryz.underlying27 h
  rw [hc12] at hl
  have each : ∀ i : Nat, i < 3 → ∃ q : RW, (cs.drop (i * 4)).take 4 = eW q ∧ IsW q [] W := fun i hi => by
    have h1 := hx i hi
    rw [hc4, List.getElem?_eq_getElem (by omega)] at h1
    exact dec_ratH h1
  obtain ⟨p0, e0, i0⟩ := each 0 (by omega)
  obtain ⟨p1, e1, i1⟩ := each 1 (by omega)
  obtain ⟨p2, e2, i2⟩ := each 2 (by omega)
  refine ⟨⟨p0, p1, p2⟩, ?_, ⟨fun e he => ?_⟩⟩
  · have e : cs = eW p0 ++ (eW p1 ++ eW p2) := by
      rw [← e0, ← e1, ← e2]
      simp only [Nat.zero_mul, List.drop_zero, Nat.one_mul]
      rw [List.take_of_length_le (l := cs.drop (2 * 4)) (by simp at hl ⊢; omega)]
      have a1 : (cs.drop 4).take 4 ++ cs.drop (2 * 4) = cs.drop 4 := by
        have := List.take_append_drop 4 (cs.drop 4)
        rwa [List.drop_drop] at this
      rw [a1, List.take_append_drop]
    rw [e]; rfl
  · have he : e ∈ [p0, p1, p2] := he
    simp only [List.mem_cons, List.not_mem_nil, or_false] at he
    rcases he with rfl | rfl | rfl <;> assumption
set_option maxRecDepth 100000 in
theorem dec_rayH {n : Nat} {cs : List Value} {y : DataW H × List MemPlace} (h : DataW.trod enc Tryz.prog W 0 (fun _ => true) true n 29 cs = some y) : ∃ r : YW, cs = eYW r ∧ IsYW r [] W := by
  obtain ⟨hl, n', z0, z1, h0, h1⟩ := dec_two2 (t0 := 27) (t1 := 27) (m := 12) (k := 12) Tryz.underlying29 (by rfl) (by kernel_rfl) (by kernel_rfl) (by kernel_rfl) h
  obtain ⟨o, eo, io⟩ := dec_vecH h0
  obtain ⟨a, ea, ia⟩ := dec_vecH h1
  exact ⟨⟨o, a⟩, by rw [← List.take_append_drop 12 cs, eo, ea]; rfl, io, ia⟩
set_option maxRecDepth 100000 in
theorem open_vec {base : Nat} {v : Value} {d : DataW H} {p : List MemPlace} (hv : Value.okWide Tryz.prog W .any base 27 v) (h : DataW.Trod enc Tryz.prog W 0 (fun _ => true) true 27 v d p) : ∃ r : TW, v = twv r ∧ IsTW r [] W := by
  simp only [Value.okWide, Tryz.underlying27] at hv
  obtain ⟨cs, rfl, hsz, hrow⟩ := hv
  obtain ⟨fuel, hf⟩ := h
  obtain ⟨r, e, i⟩ := dec_vecH (cs := cs.toList) hf
  exact ⟨r, by rw [show cs = cs.toList.toArray by simp, e], i⟩
set_option maxRecDepth 100000 in
theorem open_ray {base : Nat} {v : Value} {d : DataW H} {p : List MemPlace} (hv : Value.okWide Tryz.prog W .any base 29 v) (h : DataW.Trod enc Tryz.prog W 0 (fun _ => true) true 29 v d p) : ∃ r : YW, v = ywv r ∧ IsYW r [] W := by
  simp only [Value.okWide, Tryz.underlying29] at hv
  obtain ⟨cs, rfl, hsz, hrow⟩ := hv
  obtain ⟨fuel, hf⟩ := h
  obtain ⟨r, e, i⟩ := dec_rayH (cs := cs.toList) hf
  exact ⟨r, by rw [show cs = cs.toList.toArray by simp, e], i⟩
end
end Go.Proofs.YtllaoaobnnondaaGreatR
namespace Go.Proofs.YtllaoaobnnondaaGreatR
open Go Go.Fx
theorem TW.brief.sml {p : TW} (h : p.brief) : p.sml := fun e he => ⟨by have := (h e he).1; omega, by have := (h e he).2.1; omega⟩
theorem YW.sml_of {r : YW} (ho : r.o.brief) (ha : r.a.brief) : r.sml := ⟨ho.sml, ha.sml⟩
theorem Hv.shT {I : List Imm} {p : TW} {t : TE} (e : p = t.raw) (hb : p.brief) (h : Hv I (isTW p)) : Hv I (isT t 30) := ⟨fun X w hw => by
  subst e
  have h1 := h.go X w hw
  exact ⟨brief_pow (hb _ (by simp [TE.raw])) (h1.el _ (by simp [TE.raw])), brief_pow (hb _ (by simp [TE.raw])) (h1.el _ (by simp [TE.raw])), brief_pow (hb _ (by simp [TE.raw])) (h1.el _ (by simp [TE.raw]))⟩⟩
theorem Hv.shY {I : List Imm} {r : YW} {s : YE} (e : r = s.raw) (ho : r.o.brief) (ha : r.a.brief) (h : Hv I (isYW r)) : Hv I (isY s 30) := ⟨fun X w hw =>
  ⟨(Hv.shT (t := s.o) (by rw [e]; rfl) ho h.ywo).go X w hw, (Hv.shT (t := s.a) (by rw [e]; rfl) ha h.ywa).go X w hw⟩⟩
theorem brief2 {r s : YW} : (∀ p ∈ ([] : List TW) ++ flatY [r, s], p.brief) ↔ (r.o.brief ∧ r.a.brief) ∧ (s.o.brief ∧ s.a.brief) := by
  show (∀ p ∈ [r.o, r.a, s.o, s.a], p.brief) ↔ _
  constructor
  · intro h
    exact ⟨⟨h _ (by simp), h _ (by simp)⟩, h _ (by simp), h _ (by simp)⟩
  · rintro ⟨⟨h1, h2⟩, h3, h4⟩ p hp
    simp only [List.mem_cons, List.not_mem_nil, or_false] at hp
    rcases hp with rfl | rfl | rfl | rfl <;> assumption
theorem ok_of {r s : YW} (hr : ∀ e ∈ r.o.es, e.Fit) (hr2 : ∀ e ∈ r.a.es, e.Fit) (hs : ∀ e ∈ s.o.es, e.Fit) (hs2 : ∀ e ∈ s.a.es, e.Fit) (h : r.ok ∧ s.ok) : ∃ a b : YE, r = a.raw ∧ s = b.raw ∧ a.a.v.dot a.a.v ≠ 0 ∧ b.a.v.dot b.a.v ≠ 0 := by
  obtain ⟨a, ha, h1⟩ := YW.ok_raw hr hr2 h.1
  obtain ⟨b, hb, h2⟩ := YW.ok_raw hs hs2 h.2
  exact ⟨a, b, ha, hb, h1, h2⟩
theorem Hv.fitY {I : List Imm} {r : YW} {X : List Nat} {w0 w : World} {M : List Ent} (h : Hv I (isYW r)) (hw : Mem X w0 M I w) : (∀ e ∈ r.o.es, e.Fit) ∧ (∀ e ∈ r.a.es, e.Fit) :=
  have h1 := h.go _ w (fun φ hφ => (hw.imm φ hφ).2)
  ⟨fun e he => (h1.o.el e he).fit, fun e he => (h1.a.el e he).fit⟩
end Go.Proofs.YtllaoaobnnondaaGreatR

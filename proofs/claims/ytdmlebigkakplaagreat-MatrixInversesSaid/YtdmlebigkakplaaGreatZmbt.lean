/- matrix: Mul, Apply, of matrices and of what is none. Elimination of lists of rows is elimination of numbers. The determinant by elimination, one column at a time. -/
import Derived.Test.YtdmlebigkakplaaGreatZmbo
import Derived.Test.YtdmlebigkakplaaGreatZmbi
import Derived.Test.YtdmlebigkakplaaGreatZmbm
import Derived.Test.YtdmlebigkakplaaGreatZmbf
set_option linter.unusedSimpArgs false
set_option linter.unusedVariables false
namespace Go.Proofs.YtdmlebigkakplaaGreat
open Go Go.Fx
def mulC (a b : WM) : Int := if a.ok ∧ b.ok then (if (gt a.rows 0).es.length = b.rows.length then 0 else 4) else 1
def listC (a : WM) (x : WL) (n : Nat) : Int := if a.ok then (if x.good then (if x.es.length = n then 0 else 4) else 1) else 1
section
variable {X : List Nat} {w0 : World} {M0 : List Ent} {I0 : List Imm}
set_option maxRecDepth 100000 in
theorem Mul1_ok {a c : MX} {p q k m i j n : Nat} (hn : n ≤ 200) (hK : n * (k + m + 1) ≤ 100000000) (hi : i < a.rows.length) (hl : (gt a.rows (i : Int)).es.length = n) (hj : j < c.rows.length) (hl2 : (gt c.rows (j : Int)).es.length = n)
    (ha : isX a k ∈ I0) (hc : isX c m ∈ I0) (fa : bxX p a ∈ I0) (fc : bxX q c ∈ I0) :
    CD Tryz.prog 148 [.int .i64 (i : Int), .int .i64 (j : Int), pb p, pb q] X w0 M0 I0 (RQ (sm n (fun t => at2 a.q i t * at2 c.q j t)) (n * (k + m + 1)) M0 I0) := by
  have e : sm n (fun t => at2 a.q i t * at2 c.q j t) = dotQ n (gt a.rows (i : Int)).q (gt c.rows (j : Int)).q := by
    rw [← rowAt_q hi, ← rowAt_q hj]; rfl
  rw [e]
  refine CD_hv (φ := slI (a).p (recs eL (a).rows)) (Hv.xsl memF) ?_
  refine CD_hv (φ := slI (c).p (recs eL (c).rows)) (Hv.xsl memF) ?_
  refine CD_hv (φ := isL (gt (a).rows (i : Int)) k) (Hv.xrow memF (by omega)) ?_
  refine CD_hv (φ := isL (gt (c).rows (j : Int)) m) (Hv.xrow memF (by omega)) ?_
  refine enterD4 Tryz.func148 rfl Tryz.ntmps148 rfl ?_
  refine TD_seq ?_
  refine TD_region ?_
  (refine RD_alloc rfl rfl ?_; intro br; refine ⟨okF, ?_⟩)
  repeat (refine wXh ?_)
  (repeat refine TD_seq ?_); refine TD_drawnJ 1 [0, 1, 2, 3, 4, 5, 6, 7, 8, 9] [1, 1, 1, 0, 1, 1, 1, 0, 0, 0] mixed (by kernel_rfl) ?_
  repeat (refine wXh ?_)
  (refine RD_callS rfl (dot_ok (ka := k) (kb := m) (n := n) hn hK hl hl2 memF memF) rfl rfl ?_; rintro _ _ _ ⟨rfl, e, rfl, he, rfl⟩; refine ⟨okF, ?_⟩)
  repeat (refine wXh ?_)
  refine ND_retC (cs := eR e) (.inl rfl) rfl rfl memF rfl M0 (isR e (n * (k + m + 1)) :: I0) subF incF ⟨rfl, e, rfl, he, rfl⟩
set_option maxRecDepth 100000 in
theorem XMul_bad {a b : WM} (sa : a.sml) (sb : b.sml) (hc : mulC a b ≠ 0) (ha : isWM a ∈ I0) (hb : isWM b ∈ I0) : CD Tryz.prog 54 [mvW a, mvW b] X w0 M0 I0 (fun v M I => M0 = M ∧ I0 = I ∧ v = .tuple #[.slice none 0 0, .int .i64 (mulC a b)]) := by
  have hC := fun q M0 I0 h1 h2 => check_ok (X := X) (w0 := w0) (M0 := M0) (I0 := I0) (q := q) (c := 2) (ms := [a, b]) (by simp) (fun m hm => by simp at hm; rcases hm with rfl | rfl <;> assumption) h1 h2
  rw [code_2] at hC
  have hsb := sb.1
  have hsa := fun r h => (sa.2 r h).1
  refine CD_hv (φ := allWM [a, b]) (Hv.wm2 ha hb) ?_
  unfold mulC at hc ⊢
  by_cases hok : a.ok ∧ b.ok
  · rw [if_pos hok] at hC hc ⊢
    have hne : ¬ (gt a.rows 0).es.length = b.rows.length := fun e => hc (if_pos e)
    rw [if_neg hne]
    obtain ⟨a1, a2, a3, a4⟩ := hok.1.1
    refine CD_hv (φ := slI a.p (recs eWL a.rows)) (Hv.wmsl (List.Mem.tail _ ha)) ?_
    refine enterD2 Tryz.func54 rfl Tryz.ntmps54 rfl ?_
    refine TD_seq ?_
    refine TD_region ?_
    (refine RD_boxL rfl rfl rfl ?_; intro p1; refine ⟨okF, ?_⟩)
    repeat (refine wXh ?_)
    (refine RD_vals (cs := recs eWM [a, b]) ([mvW a, mvW b]) rfl rfl (by intro v hv; repeat (first | exact absurd hv (List.not_mem_nil) | (rcases List.mem_cons.1 hv with rfl | hv; · rfl))) (by omega) rfl rfl rfl ?_; intro bs; refine ⟨okF, ?_⟩)
    refine RD_freezeB .here ?_
    (refine RD_callS rfl (hC _ _ _ memF memF) rfl rfl ?_; rintro _ _ _ ⟨rfl, rfl, rfl⟩; refine ⟨okF, ?_⟩)
    repeat (refine wXh ?_)
    refine ND_rets [4, 5] (by first | exact .inl rfl | exact .inr rfl) rfl rfl rfl _ _ subF incF (⟨rfl, rfl, rfl⟩)
  · rw [if_neg hok] at hC hc ⊢
    refine enterD2 Tryz.func54 rfl Tryz.ntmps54 rfl ?_
    refine TD_seq ?_
    refine TD_region ?_
    (refine RD_boxL rfl rfl rfl ?_; intro p1; refine ⟨okF, ?_⟩)
    repeat (refine wXh ?_)
    (refine RD_vals (cs := recs eWM [a, b]) ([mvW a, mvW b]) rfl rfl (by intro v hv; repeat (first | exact absurd hv (List.not_mem_nil) | (rcases List.mem_cons.1 hv with rfl | hv; · rfl))) (by omega) rfl rfl rfl ?_; intro bs; refine ⟨okF, ?_⟩)
    refine RD_freezeB .here ?_
    (refine RD_callS rfl (hC _ _ _ memF memF) rfl rfl ?_; rintro _ _ _ ⟨rfl, rfl, rfl⟩; refine ⟨okF, ?_⟩)
    repeat (refine wXh ?_)
    refine ND_rets [4, 5] (by first | exact .inl rfl | exact .inr rfl) rfl rfl rfl _ _ subF incF (⟨rfl, rfl, rfl⟩)
set_option maxRecDepth 100000 in
theorem XMul_ok {a b : MX} {R C D k m : Nat} (hk : k ≤ 1000000) (hm : m ≤ 500000) (da : a.fit R C) (db : b.fit C D) (ha : isX a k ∈ I0) (hb : isX b m ∈ I0) : CD Tryz.prog 54 [mv a, mv b] X w0 M0 I0 (XQc (mkM R D (fun i j => sm C (fun t => at2 a.q i t * at2 b.q t j))) R D (C * (k + m + 1)) M0 I0) := by
  have hC := fun q M0 I0 h1 h2 h3 => check2X_ok (X := X) (w0 := w0) (M0 := M0) (I0 := I0) (a := a) (b := b) (k := k) (m := m) (q := q) (c := 2) (by omega) (by omega) da db h1 h2 h3
  have lR := da.1.1
  have lC := da.r0
  have lR2 := db.1.1
  have lD := db.r0
  obtain ⟨r1, r2⟩ := da.2.1
  obtain ⟨c1, c2⟩ := da.2.2
  obtain ⟨d1, d2⟩ := db.2.2
  have hKK : C * (k + m + 1) ≤ 100000000 := Nat.le_trans (Nat.mul_le_mul c2 (show k + m + 1 ≤ 1500001 by omega)) (by decide)
  refine CD_hv (φ := slI (a).p (recs eL (a).rows)) (Hv.xsl memF) ?_
  refine CD_hv (φ := slI (b).p (recs eL (b).rows)) (Hv.xsl memF) ?_
  refine enterD2 Tryz.func54 rfl Tryz.ntmps54 rfl ?_
  refine TD_seq ?_
  refine TD_region ?_
  (refine RD_boxL rfl rfl rfl ?_; intro p1; refine ⟨okF, ?_⟩)
  repeat (refine wXh ?_)
  (refine RD_vals (cs := recs eMX [a, b]) ([mv a, mv b]) rfl rfl (by intro v hv; repeat (first | exact absurd hv (List.not_mem_nil) | (rcases List.mem_cons.1 hv with rfl | hv; · rfl))) (by omega) rfl rfl rfl ?_; intro bs; refine ⟨okF, ?_⟩)
  refine RD_freezeB .here ?_
  (refine RD_callS rfl (hC _ _ _ memF memF memF) rfl rfl ?_; rintro _ _ _ ⟨rfl, rfl, rfl⟩; refine ⟨okF, ?_⟩)
  repeat (refine wXh ?_)
  (refine RD_callS rfl (turned_ok db memF) rfl rfl ?_; rintro _ _ _ ⟨rfl, y, rfl, hy, hyd, rfl⟩; refine ⟨okF, ?_⟩)
  repeat (refine wXh ?_)
  (refine RD_alloc rfl rfl ?_; intro b7; refine ⟨okF, ?_⟩)
  repeat (refine wXh ?_)
  refine TD_m (fun _ hw => hw.freezeB .here) ?_
  (repeat refine TD_seq ?_); refine TD_drawn [0, 1, 2, 3, 4, 5, 6, 7, 8, 9] [1, 0, 1, 1, 1, 0, 0, 0, 0, 0] mixed (by kernel_rfl) ?_
  repeat (refine wXh ?_)
  have hg := fun M I (hI : ∀ φ ∈ slI (some ⟨b7, 0, none⟩) [.slice y.p y.rows.length y.c] :: isX y m :: slI (some ⟨bs, 0, none⟩) (recs eMX [a, b]) :: slI (some ⟨p1, 0, none⟩) [.slice a.p a.rows.length a.c] :: slI b.p (recs eL b.rows) :: slI a.p (recs eL a.rows) :: I0, φ ∈ I) (i j : Nat) (hi : i < a.rows.length) (hj : j < (gt b.rows 0).es.length) => Mul1_ok (X := X) (w0 := w0) (M0 := M) (I0 := I) (a := a) (c := y) (p := p1) (q := b7) (k := k) (m := m) (i := i) (j := j) (n := C) (by omega) hKK (by omega) (da.1.row (by omega)) (by rw [hyd.1]; omega) (hyd.row (by omega)) (hI _ memF) (hI _ memF) (hI _ memF) (hI _ memF)
  (refine RD_callS rfl (xmade_ok (R := a.rows.length) (C := (gt b.rows 0).es.length) (g := 148) (fs := #[]) (cs := #[pb p1, pb b7]) (k0 := C * (k + m + 1)) (by omega) (by omega) (fun i j => sm C (fun t => at2 a.q i t * at2 y.q j t)) hg) rfl rfl ?_; rintro _ _ _ ⟨rfl, x, rfl, hx, hd, rfl⟩; refine ⟨okF, ?_⟩)
  rw [lR, lD] at hx hd
  have hx2 : x.q = mkM R D (fun i j => sm C (fun t => at2 a.q i t * at2 b.q t j)) := by
    rw [hx]
    exact mkM_congr (fun i j hi hj => sm_congr (fun t ht => by rw [hy, mkM_at hj ht]))
  repeat (refine wXh ?_)
  refine ND_rets [4, 5] (by first | exact .inl rfl | exact .inr rfl) rfl rfl rfl _ _ subF incF (⟨rfl, x, rfl, hx2, hd, rfl⟩)
set_option maxRecDepth 100000 in
set_option maxHeartbeats 1000000 in
theorem applied_ok {a : MX} {x : RL} {R C k m : Nat} (hk : k ≤ 1000000) (hm : m ≤ 500000) (hR : R ≤ 100) (hCC : C ≤ 64) (da : a.dim R C) (hl : x.es.length = C) (ha : isX a k ∈ I0) (hx : isL x m ∈ I0) :
    CD Tryz.prog 175 [mv a, lv x] X w0 M0 I0 (LQ ((List.range R).map (fun i => sm C (fun t => at2 a.q i t * x.q.getD t 0))) (C * (k + m + 1)) M0 I0) := by
  have lR := da.1
  have hKK : C * (k + m + 1) ≤ 100000000 := Nat.le_trans (Nat.mul_le_mul hCC (show k + m + 1 ≤ 1500001 by omega)) (by decide)
  generalize hKe : C * (k + m + 1) = K at *
  refine CD_hv (φ := slI (a).p (recs eL (a).rows)) (Hv.xsl memF) ?_
  refine enterD2 Tryz.func175 rfl Tryz.ntmps175 rfl ?_
  repeat (refine wXh ?_)
  refine TD_row0 26 4 ?_
  refine TD_hv (φ := allR [] K) Hv.nilR ?_
  refine TD_loop [1, 8, 9] rfl (fun k G M I => ∃ (i : Nat) (es : List RE) (q : Option Addr) (c : Nat), i ≤ R ∧ k = R - i ∧ es.length = i ∧ qs es = (List.range i).map (fun i => sm C (fun t => at2 a.q i t * x.q.getD t 0)) ∧ G = [(5, .slice q es.length c), (10, .int .i64 i)] ∧ M = .row q es.length c (recs eR es) 26 4 :: M0 ∧ I = allR es K :: slI a.p (recs eL a.rows) :: I0) (R) _ _ _ subG subF incF (⟨0, [], none, 0, by omega, rfl, rfl, rfl, rfl, rfl, rfl⟩) ?_
  rintro kk G M I ⟨i, es, q, c, hi, rfl, hel, heq, rfl, rfl, rfl⟩
  by_cases hiR : i < R
  · refine TD_hv (φ := isL (gt (a).rows (i : Int)) k) (Hv.xrow memF (by omega)) ?_
    repeat (refine wXh ?_)
    (refine RD_callS rfl (dot_ok (ka := k) (kb := m) (n := C) (by omega) (by omega) (da.row hiR) hl memF memF) rfl rfl ?_; rintro _ _ _ ⟨rfl, e, rfl, he, rfl⟩; refine ⟨okF, ?_⟩)
    (refine RD_vals (cs := recs eR [e]) ([rv e]) rfl rfl (by intro v hv; repeat (first | exact absurd hv (List.not_mem_nil) | (rcases List.mem_cons.1 hv with rfl | hv; · rfl))) (by omega) rfl rfl rfl ?_; intro b; refine ⟨okF, ?_⟩)
    (refine RD_appR (ys := [e]) 1 rfl rfl rfl ?_ (by decide) rfl (by omega) (by omega) rfl rfl ?_; (· first | exact Src.blk memF | exact Src.row memF | exact Src.imm memF (by first | assumption | exact .inl (Ok.mk _ _))); intro q2 c2; refine ⟨okF, ?_⟩)
    rw [hKe]
    repeat (refine wXh ?_)
    refine ND_hv (φ := allR (es ++ [e]) K) (Hv.snoc memF memF) ?_
    refine ND_again (R - (i + 1)) _ _ _ (by first | omega | (simp only [List.length_append, List.length_cons, List.length_nil]; omega)) subG subF incF (⟨i + 1, es ++ [e], q2, c2, by omega, rfl, by simp; omega, ?_, rfl, rfl, rfl⟩)
    rw [List.range_succ, List.map_append, ← heq]
    have e1 : sm C (fun t => at2 a.q i t * x.q.getD t 0) = dotQ C (gt a.rows (i : Int)).q x.q := by rw [← rowAt_q (by omega)]; rfl
    show (es ++ [e]).map RE.q = qs es ++ [sm C (fun t => at2 a.q i t * x.q.getD t 0)]
    rw [List.map_append, e1, ← he]
    rfl
  · obtain rfl : i = R := by omega
    repeat (refine wXh ?_)
    refine ND_toL memF ?_
    refine ND_ret1 (by first | exact .inl rfl | exact .inr rfl) rfl rfl _ _ subF incF (⟨rfl, ⟨q, c, es⟩, rfl, heq, rfl⟩)
set_option maxRecDepth 100000 in
theorem Apply1_ok {m : WM} {p : Nat} (hR : 1 ≤ m.rows.length) (hm : isWM m ∈ I0) (hb : slI (some ⟨p, 0, none⟩) [.slice m.p m.rows.length m.c] ∈ I0) :
    CD Tryz.prog 174 [pb p] X w0 M0 I0 (fun v M I => M0 = M ∧ I0 = I ∧ v = .int .i64 ((gt m.rows 0).es.length : Int)) := by
  refine CD_hv (φ := slI m.p (recs eWL m.rows)) (Hv.wmsl hm) ?_
  refine enterD1 Tryz.func174 rfl Tryz.ntmps174 rfl ?_
  repeat (refine wXh ?_)
  refine ND_ret1 (by first | exact .inl rfl | exact .inr rfl) rfl rfl _ _ subF incF (⟨rfl, rfl, rfl⟩)
set_option maxRecDepth 100000 in
theorem list_ok {a : WM} {x : WL} {n : Nat} {g : FuncId} [FnOk Tryz.prog g] {fs cs : Array Value} (sa : a.sml) (sx : x.sml) (ha : isWM a ∈ I0) (hx : isWL x ∈ I0)
    (hg : a.ok → CD Tryz.prog g (fs.toList ++ [] ++ cs.toList) X w0 M0 I0 (fun v M I => M0 = M ∧ I0 = I ∧ v = .int .i64 (n : Int))) :
    CD Tryz.prog 173 [mvW a, lvW x, .func (.func g) fs cs] X w0 M0 I0 (fun v M I => M0 = M ∧ I0 = I ∧ v = .int .i64 (listC a x n)) := by
  have hC := fun M0 I0 h1 => Check_ok (X := X) (w0 := w0) (M0 := M0) (I0 := I0) (m := a) sa h1
  have hV := fun M0 I0 h1 => mcanonical_ok (X := X) (w0 := w0) (M0 := M0) (I0 := I0) (r := x) sx h1
  unfold listC
  by_cases hok : a.ok
  · rw [WM.code_ok hok] at hC
    rw [if_pos hok]
    by_cases hgx : x.good
    · rw [B_true hgx] at hV
      rw [if_pos hgx]
      have hg' := hg hok
      by_cases hn : x.es.length = n
      · rw [if_pos hn]
        refine enterD3 Tryz.func173 rfl Tryz.ntmps173 rfl ?_
        repeat (refine wXh ?_)
        (refine RD_callS rfl (hC _ _ memF) rfl rfl ?_; rintro _ _ _ ⟨rfl, rfl, rfl⟩; refine ⟨okF, ?_⟩)
        repeat (refine wXh ?_)
        (refine RD_callS rfl (hV _ _ memF) rfl rfl ?_; rintro _ _ _ ⟨rfl, rfl, rfl⟩; refine ⟨okF, ?_⟩)
        repeat (refine wXh ?_)
        (refine RD_callVS rfl rfl (hg') rfl rfl rfl ?_; rintro _ _ _ ⟨rfl, rfl, rfl⟩; refine ⟨okF, ?_⟩)
        repeat (refine wXh ?_)
        refine ND_ret1 (by first | exact .inl rfl | exact .inr rfl) rfl rfl _ _ subF incF (⟨rfl, rfl, rfl⟩)
      · rw [if_neg hn]
        refine enterD3 Tryz.func173 rfl Tryz.ntmps173 rfl ?_
        repeat (refine wXh ?_)
        (refine RD_callS rfl (hC _ _ memF) rfl rfl ?_; rintro _ _ _ ⟨rfl, rfl, rfl⟩; refine ⟨okF, ?_⟩)
        repeat (refine wXh ?_)
        (refine RD_callS rfl (hV _ _ memF) rfl rfl ?_; rintro _ _ _ ⟨rfl, rfl, rfl⟩; refine ⟨okF, ?_⟩)
        repeat (refine wXh ?_)
        (refine RD_callVS rfl rfl (hg') rfl rfl rfl ?_; rintro _ _ _ ⟨rfl, rfl, rfl⟩; refine ⟨okF, ?_⟩)
        repeat (refine wXh ?_)
        refine ND_ret1 (by first | exact .inl rfl | exact .inr rfl) rfl rfl _ _ subF incF (⟨rfl, rfl, rfl⟩)
    · rw [B_false hgx] at hV
      rw [if_neg hgx]
      refine enterD3 Tryz.func173 rfl Tryz.ntmps173 rfl ?_
      repeat (refine wXh ?_)
      (refine RD_callS rfl (hC _ _ memF) rfl rfl ?_; rintro _ _ _ ⟨rfl, rfl, rfl⟩; refine ⟨okF, ?_⟩)
      repeat (refine wXh ?_)
      (refine RD_callS rfl (hV _ _ memF) rfl rfl ?_; rintro _ _ _ ⟨rfl, rfl, rfl⟩; refine ⟨okF, ?_⟩)
      repeat (refine wXh ?_)
      refine ND_ret1 (by first | exact .inl rfl | exact .inr rfl) rfl rfl _ _ subF incF (⟨rfl, rfl, rfl⟩)
  · rw [WM.code_no hok] at hC
    rw [if_neg hok]
    refine enterD3 Tryz.func173 rfl Tryz.ntmps173 rfl ?_
    repeat (refine wXh ?_)
    (refine RD_callS rfl (hC _ _ memF) rfl rfl ?_; rintro _ _ _ ⟨rfl, rfl, rfl⟩; refine ⟨okF, ?_⟩)
    repeat (refine wXh ?_)
    refine ND_ret1 (by first | exact .inl rfl | exact .inr rfl) rfl rfl _ _ subF incF (⟨rfl, rfl, rfl⟩)
set_option maxRecDepth 100000 in
theorem XApply_bad {a : WM} {x : WL} (sa : a.sml) (sx : x.sml) (hc : listC a x (gt a.rows 0).es.length ≠ 0) (ha : isWM a ∈ I0) (hx : isWL x ∈ I0) : CD Tryz.prog 71 [mvW a, lvW x] X w0 M0 I0 (fun v M I => M0 = M ∧ I0 = I ∧ v = .tuple #[.slice none 0 0, .int .i64 (listC a x (gt a.rows 0).es.length)]) := by
  have hC := fun p M0 I0 h1 h2 h3 => list_ok (X := X) (w0 := w0) (M0 := M0) (I0 := I0) (a := a) (x := x) (n := (gt a.rows 0).es.length) (g := 174) (fs := #[]) (cs := #[pb p]) sa sx h1 h2 (fun hok => Apply1_ok hok.1.1 h1 h3)
  generalize listC a x (gt a.rows 0).es.length = cc at *
  refine enterD2 Tryz.func71 rfl Tryz.ntmps71 rfl ?_
  refine TD_seq ?_
  refine TD_region ?_
  (refine RD_boxL rfl rfl rfl ?_; intro p1; refine ⟨okF, ?_⟩)
  repeat (refine wXh ?_)
  (refine RD_callS rfl (hC p1 _ _ memF memF memF) rfl rfl ?_; rintro _ _ _ ⟨rfl, rfl, rfl⟩; refine ⟨okF, ?_⟩)
  repeat (refine wXh ?_)
  refine ND_rets [4, 5] (by first | exact .inl rfl | exact .inr rfl) rfl rfl rfl _ _ subF incF (⟨rfl, rfl, rfl⟩)
set_option maxRecDepth 100000 in
theorem XApply_ok {a : MX} {x : RL} {R C k m : Nat} (hk : k ≤ 1000000) (hm : m ≤ 500000) (da : a.fit R C) (hl : x.es.length = C) (ha : isX a k ∈ I0) (hx : isL x m ∈ I0) : CD Tryz.prog 71 [mv a, lv x] X w0 M0 I0 (LQc ((List.range R).map (fun i => sm C (fun t => at2 a.q i t * x.q.getD t 0))) (C * (k + m + 1)) M0 I0) := by
  obtain ⟨r1, r2⟩ := da.2.1
  obtain ⟨c1, c2⟩ := da.2.2
  refine xCD_fact (fun w hw => Mem.xsml ha da (by omega) hw) (fun sa => xCD_fact (fun w hw => Mem.lsml hx (by omega) (by omega) hw) (fun sx => ?_))
  have hC := fun p M0 I0 h1 h2 h3 => list_ok (X := X) (w0 := w0) (M0 := M0) (I0 := I0) (a := a.raw) (x := x.raw) (n := C) (g := 174) (fs := #[]) (cs := #[pb p]) sa sx h1 h2 (fun hok => by have := Apply1_ok (X := X) (w0 := w0) (M0 := M0) (I0 := I0) (p := p) hok.1.1 h1 h3; rw [MX.raw_c0 da] at this; exact this)
  have e0 : listC a.raw x.raw C = 0 := by
    unfold listC
    rw [if_pos da.ok, if_pos x.raw_good, if_pos (by show (x.es.map RE.raw).length = C; rw [List.length_map]; exact hl)]
  rw [e0, mv_raw, lv_raw] at hC
  have hA := fun M0 I0 h1 h2 => applied_ok (X := X) (w0 := w0) (M0 := M0) (I0 := I0) (a := a) (x := x) (R := R) (C := C) (k := k) (m := m) hk hm (by omega) (by omega) da.1 hl h1 h2
  refine CD_hv (φ := isWM a.raw) (Hv.xraw ha (by omega)) ?_
  refine CD_hv (φ := isWL x.raw) (Hv.lraw (List.Mem.tail _ hx) (by omega)) ?_
  refine enterD2 Tryz.func71 rfl Tryz.ntmps71 rfl ?_
  refine TD_seq ?_
  refine TD_region ?_
  (refine RD_boxL rfl rfl rfl ?_; intro p1; refine ⟨okF, ?_⟩)
  repeat (refine wXh ?_)
  refine RD_hv (φ := slI (some ⟨p1, 0, none⟩) [.slice a.raw.p a.raw.rows.length a.raw.c]) (by rw [MX.raw_rows]; exact Hv.mem memF) ?_
  (refine RD_callS rfl (hC p1 _ _ memF memF memF) rfl rfl ?_; rintro _ _ _ ⟨rfl, rfl, rfl⟩; refine ⟨okF, ?_⟩)
  refine RD_w (M' := M0) (I' := slI (some ⟨p1, 0, none⟩) [.slice a.p a.rows.length a.c] :: isWL x.raw :: isWM a.raw :: I0) SubP.refl incF ?_
  repeat (refine wXh ?_)
  (refine RD_callS rfl (hA _ _ memF memF) rfl rfl ?_; rintro _ _ _ ⟨rfl, y, rfl, hy, rfl⟩; refine ⟨okF, ?_⟩)
  repeat (refine wXh ?_)
  refine ND_rets [4, 5] (by first | exact .inl rfl | exact .inr rfl) rfl rfl rfl _ _ subF incF (⟨rfl, y, rfl, hy, rfl⟩)
end
end Go.Proofs.YtdmlebigkakplaaGreat
namespace Go.Proofs.YtdmlebigkakplaaGreat
open Go Go.Fx
def dimL (A : Mt) (R C : Nat) : Prop := A.length = R ∧ ∀ i, i < R → (rowAt A i).length = C
theorem rowAt_set {A : Mt} {i a : Nat} {l : List Rat} (hi : i < A.length) : rowAt (A.set i l) a = if a = i then l else rowAt A a := by
  unfold rowAt
  simp only [List.getD, List.getElem?_set]
  by_cases e : a = i
  · subst e; simp [hi]
  · have e' : ¬ i = a := fun h => e h.symm
    simp [e, e']
theorem rowAt_map {A : Mt} {a : Nat} {f : Nat → List Rat → List Rat} (h : a < A.length) : rowAt (A.mapIdx f) a = f a (rowAt A a) := by
  simp [rowAt, List.getD, h]
theorem rowAt_swp {A : Mt} {R C r k a : Nat} (h : dimL A R C) (hr : r < R) (hk : k < R) : rowAt (swp A r k) a = rowAt A (tr r k a) := by
  unfold swp
  rw [rowAt_set (by rw [List.length_set, h.1]; exact hk), rowAt_set (by rw [h.1]; exact hr)]
  simp only [tr]
  by_cases e1 : a = k
  · subst e1
    rw [if_pos rfl]
    by_cases e2 : a = r
    · rw [if_pos e2, e2]
    · rw [if_neg e2, if_pos rfl]
  · rw [if_neg e1, if_neg e1]
    by_cases e2 : a = r
    · rw [if_pos e2, if_pos e2]
    · rw [if_neg e2, if_neg e2]
theorem dim_swp {A : Mt} {R C r k : Nat} (h : dimL A R C) (hr : r < R) (hk : k < R) : dimL (swp A r k) R C :=
  ⟨by unfold swp; rw [List.length_set, List.length_set]; exact h.1, fun i hi => by rw [rowAt_swp h hr hk]; exact h.2 _ (tr_lt hr hk hi)⟩
theorem getD_mapIdx {l : List Rat} {f : Nat → Rat → Rat} {c : Nat} (h : c < l.length) : (l.mapIdx f).getD c 0 = f c (l.getD c 0) := by
  simp [List.getD, h]
theorem rowAt_elim {B : Mt} {r j a : Nat} {pr : List Rat} (h : a < B.length) : rowAt (elimAll B r j pr) a = if a = r then rowAt B a else if (rowAt B a).getD j 0 = 0 then rowAt B a else subFrom j ((rowAt B a).getD j 0) pr (rowAt B a) := by
  unfold elimAll
  rw [rowAt_map h]
theorem dim_step {A : Mt} {R C r j x : Nat} (h : dimL A R C) (hr : r < R) (hx : x < R) : dimL (stepE A r j x) R C := by
  have hs := dim_swp (r := r) (k := x) h hr hx
  unfold stepE
  refine ⟨by unfold elimAll; rw [List.length_mapIdx, List.length_set]; exact hs.1, fun i hi => ?_⟩
  have hb : rowAt ((swp A r x).set r (scaleFrom j (1 / at2 (swp A r x) r j) (rowAt (swp A r x) r))) i = if i = r then scaleFrom j (1 / at2 (swp A r x) r j) (rowAt (swp A r x) r) else rowAt (swp A r x) i := rowAt_set (by rw [hs.1]; exact hr)
  rw [rowAt_elim (by rw [List.length_set, hs.1]; exact hi), hb]
  by_cases e : i = r
  · rw [if_pos e, if_pos e]; simp only [scaleFrom, List.length_mapIdx]; exact hs.2 r hr
  · rw [if_neg e, if_neg e]
    split
    · exact hs.2 i hi
    · simp only [subFrom, List.length_mapIdx]; exact hs.2 i hi
theorem at2_step {A : Mt} {R C r j x : Nat} (h : dimL A R C) (hr : r < R) (hx : x < R) (hj : j < C) (hz : ∀ b, b < j → at2 A x b = 0) : ∀ a b, a < R → b < C →
    at2 (stepE A r j x) a b = elm r x (1 / at2 A x j) (fun a => at2 A (tr r x a) j) (at2 A) a b := by
  intro a b ha hb
  have hs := dim_swp (r := r) (k := x) h hr hx
  have hat : ∀ i c, at2 (swp A r x) i c = at2 A (tr r x i) c := fun i c => by unfold at2; rw [rowAt_swp h hr hx]
  have htr : tr r x r = x := by simp [tr]
  have hrow : (rowAt (swp A r x) r) = rowAt A x := by rw [rowAt_swp h hr hx, htr]
  have hκ : at2 (swp A r x) r j = at2 A x j := by rw [hat, htr]
  obtain ⟨κ, hk⟩ : ∃ κ, κ = 1 / at2 A x j := ⟨_, rfl⟩
  rw [← hk]
  have hpr : ∀ c, c < C → (scaleFrom j κ (rowAt A x)).getD c 0 = κ * at2 A x c := fun c hc => by
    unfold scaleFrom
    rw [getD_mapIdx (by rw [h.2 x hx]; exact hc)]
    by_cases e : c < j
    · rw [if_pos e]
      have := hz c e
      rw [this]
      unfold at2 at this
      rw [this]; grind
    · rw [if_neg e]; rfl
  have e1 : at2 (stepE A r j x) a b = (rowAt (stepE A r j x) a).getD b 0 := rfl
  rw [e1]
  unfold stepE
  rw [hκ, hrow, ← hk]
  have hbb : rowAt ((swp A r x).set r (scaleFrom j κ (rowAt A x))) a = if a = r then scaleFrom j κ (rowAt A x) else rowAt (swp A r x) a := rowAt_set (by rw [hs.1]; exact hr)
  rw [rowAt_elim (by rw [List.length_set, hs.1]; exact ha), hbb]
  simp only [elm, htr]
  by_cases e : a = r
  · rw [if_pos e, if_pos e, if_pos e]; exact hpr b hb
  · rw [if_neg e, if_neg e, if_neg e, rowAt_swp h hr hx]
    have hc : (rowAt A (tr r x a)).getD j 0 = at2 A (tr r x a) j := rfl
    rw [hc]
    by_cases e0 : at2 A (tr r x a) j = 0
    · rw [if_pos e0, e0]
      show at2 A (tr r x a) b = _
      grind
    · rw [if_neg e0]
      unfold subFrom
      rw [getD_mapIdx (by rw [h.2 _ (tr_lt hr hx ha)]; exact hb)]
      show (if b < j then at2 A (tr r x a) b else at2 A (tr r x a) b - _) = _
      by_cases ej : b < j
      · rw [if_pos ej, hz b ej]; grind
      · rw [if_neg ej, hpr b hb]
theorem findP_zero {A : Mt} {j : Nat} : ∀ (f k : Nat), k + f = A.length → ∀ i, k ≤ i → i < findP A j f k → at2 A i j = 0
  | 0, k, _, i, h1, h2 => by simp [findP] at h2; omega
  | f + 1, k, h, i, h1, h2 => by
    unfold findP at h2
    by_cases hc : k < A.length ∧ at2 A k j = 0
    · rw [if_pos hc] at h2
      by_cases e : i = k
      · subst e; exact hc.2
      · exact findP_zero f (k + 1) (by omega) i (by omega) h2
    · rw [if_neg hc] at h2; omega
theorem redN_red {A : Mt} {R C : Nat} (h : dimL A R C) : ∀ n, n ≤ C → dimL (redN A n).1 R C ∧ ∃ s, Red R C n (at2 A) (at2 (redN A n).1) (redN A n).2 s
  | 0, _ => ⟨h, 1, Red.start⟩
  | n + 1, hn => by
    obtain ⟨hd, s, hr⟩ := redN_red h n (by omega)
    rw [redN_succ]
    generalize redN A n = st at hd hr
    obtain ⟨B, pv⟩ := st
    simp only at hd hr
    have hlen := hr.len
    obtain ⟨f1, f2, f3⟩ := findP_lt (A := B) (j := n) (B.length - pv.length) pv.length (by rw [hd.1]; omega)
    have f4 := findP_zero (A := B) (j := n) (B.length - pv.length) pv.length (by rw [hd.1]; omega)
    unfold redS
    simp only
    generalize findP B n (B.length - pv.length) pv.length = x at f1 f2 f3 f4
    by_cases hx : x < B.length
    · rw [if_pos hx]
      rw [hd.1] at hx
      refine ⟨dim_step hd (by omega) hx, _, hr.step (x := x) (by omega) f1 hx (f3 (by rw [hd.1]; exact hx)) (at2_step hd (by omega) hx (by omega) (fun b hb => hr.zero x b f1 hx hb))⟩
    · rw [if_neg hx]
      exact ⟨hd, s, hr.none (fun i h1 h2 => f4 i h1 (by rw [hd.1] at hx; omega))⟩
end Go.Proofs.YtdmlebigkakplaaGreat
namespace Go.Proofs.YtdmlebigkakplaaGreat
open Go Go.Fx
/-- one column: rows exchanged, the pivot's row subtracted from those below -/
def dstep (A : Mt) (j x : Nat) : Mt := (swp A j x).mapIdx (fun i row => if i ≤ j then row else if row.getD j 0 = 0 then row else subFrom j (row.getD j 0 / at2 (swp A j x) j j) (rowAt (swp A j x) j) row)
def blkF (A : Mt) (j : Nat) : Nat → Nat → Rat := fun i k => at2 A (i + j) (k + j)
theorem rowAt_dstep {A : Mt} {R C j x a : Nat} (h : dimL A R C) (hj : j < R) (hx : x < R) (ha : a < R) : rowAt (dstep A j x) a = if a ≤ j then rowAt A (tr j x a) else if at2 A (tr j x a) j = 0 then rowAt A (tr j x a) else subFrom j (at2 A (tr j x a) j / at2 A x j) (rowAt A x) (rowAt A (tr j x a)) := by
  have hs := dim_swp (r := j) (k := x) h hj hx
  have hr : ∀ i, rowAt (swp A j x) i = rowAt A (tr j x i) := fun i => rowAt_swp h hj hx
  have htr : tr j x j = x := by simp [tr]
  have hat : at2 (swp A j x) j j = at2 A x j := by unfold at2; rw [hr, htr]
  have e1 : rowAt (dstep A j x) a = if a ≤ j then rowAt (swp A j x) a else if (rowAt (swp A j x) a).getD j 0 = 0 then rowAt (swp A j x) a else subFrom j ((rowAt (swp A j x) a).getD j 0 / at2 (swp A j x) j j) (rowAt (swp A j x) j) (rowAt (swp A j x) a) := by
    have hl : a < (swp A j x).length := by rw [hs.1]; exact ha
    unfold dstep
    rw [rowAt_map hl]
  rw [e1, hat, hr, hr, htr]
  rfl
theorem dim_dstep {A : Mt} {R C j x : Nat} (h : dimL A R C) (hj : j < R) (hx : x < R) : dimL (dstep A j x) R C := by
  refine ⟨by unfold dstep; rw [List.length_mapIdx]; exact (dim_swp h hj hx).1, fun i hi => ?_⟩
  rw [rowAt_dstep h hj hx hi]
  have := h.2 _ (tr_lt hj hx hi)
  split
  · exact this
  · split
    · exact this
    · simp only [subFrom, List.length_mapIdx]; exact this
theorem at2_dstep {A : Mt} {R C j x a b : Nat} (h : dimL A R C) (hj : j < R) (hx : x < R) (ha : a < R) (hb : b < C) (haj : j < a) (hbj : j ≤ b) : at2 (dstep A j x) a b = at2 A (tr j x a) b - at2 A (tr j x a) j / at2 A x j * at2 A x b := by
  have e : at2 (dstep A j x) a b = (rowAt (dstep A j x) a).getD b 0 := rfl
  rw [e, rowAt_dstep h hj hx ha, if_neg (by omega)]
  by_cases e0 : at2 A (tr j x a) j = 0
  · rw [if_pos e0, e0]
    show at2 A (tr j x a) b = _
    grind
  · rw [if_neg e0]
    unfold subFrom
    rw [getD_mapIdx (by rw [h.2 _ (tr_lt hj hx ha)]; exact hb), if_neg (by omega)]
    rfl
theorem dstep_dt {A : Mt} {n j x : Nat} (h : dimL A n n) (hj : j < n) (hjx : j ≤ x) (hx : x < n) (h0 : at2 A x j ≠ 0) :
    dt (n - j) (blkF A j) = esg j x * at2 A x j * dt (n - (j + 1)) (blkF (dstep A j x) (j + 1)) := by
  obtain ⟨m, hm⟩ : ∃ m, n - j = m + 1 := ⟨n - j - 1, by omega⟩
  have hm2 : n - (j + 1) = m := by omega
  rw [hm, hm2]
  -- exchanged
  have h1 : dt (m + 1) (fun a b => blkF A j (tr 0 (x - j) a) b) = esg j x * dt (m + 1) (blkF A j) := by
    unfold esg
    by_cases e : j = x
    · subst e
      rw [if_pos rfl, Nat.sub_self, show (fun a b => blkF A j (tr 0 0 a) b) = blkF A j by funext a b; simp only [tr]; split <;> simp_all]; grind
    · rw [if_neg e, dt_swap (by omega) (by omega) (by omega)]; grind
  obtain ⟨g, hg⟩ : ∃ g : Nat → Nat → Rat, g = fun a b => blkF A j (tr 0 (x - j) a) b := ⟨_, rfl⟩
  rw [← hg] at h1
  have htr : ∀ a, tr 0 (x - j) a + j = tr j x (a + j) := fun a => by
    by_cases e1 : a = 0
    · have : tr 0 (x - j) a = x - j := by simp [tr, e1]
      have h2 : tr j x (a + j) = x := by simp [tr, e1]
      omega
    · by_cases e2 : a = x - j
      · have : tr 0 (x - j) a = 0 := by simp [tr, e1, e2]
        have h2 : tr j x (a + j) = j := by simp [tr, e1, show a + j = x by omega]
        omega
      · have : tr 0 (x - j) a = a := by simp [tr, e1, e2]
        have h2 : tr j x (a + j) = a + j := by simp [tr, e1, show ¬ a + j = x by omega]
        omega
  have hgv : ∀ a b, g a b = at2 A (tr j x (a + j)) (b + j) := fun a b => by rw [hg]; show at2 A (tr 0 (x - j) a + j) (b + j) = _; rw [htr]
  have htj : tr j x (0 + j) = x := by simp [tr]
  have hg0 : ∀ b, g 0 b = at2 A x (b + j) := fun b => by rw [hgv, htj]
  have h2 := dt_elim (n := m + 1) (r := 0) (f := g) (c := fun a => g a 0 / g 0 0) (by omega)
  have hg00 : g 0 0 ≠ 0 := by rw [hg0, Nat.zero_add]; exact h0
  have h3 : dt (m + 1) (fun a b => if a = 0 then g 0 b else g a b - g a 0 / g 0 0 * g 0 b) = g 0 0 * dt m (blkF (dstep A j x) (j + 1)) := by
    rw [dt_first (fun i hi _ => by
      rw [if_neg (by omega)]
      have : g i 0 / g 0 0 * g 0 0 = g i 0 := by grind
      grind)]
    rw [if_pos rfl]
    congr 1
    apply dt_congr
    intro a b ha hb
    rw [if_neg (by omega)]
    show _ = at2 (dstep A j x) (a + (j + 1)) (b + (j + 1))
    rw [at2_dstep h hj hx (by omega) (by omega) (by omega) (by omega), hg0, hg0, hgv, hgv, Nat.zero_add]
    rw [show a + 1 + j = a + (j + 1) by omega, show b + 1 + j = b + (j + 1) by omega]
  have hs : esg j x * esg j x = 1 := by unfold esg; split <;> grind
  have h4 : dt (m + 1) (blkF A j) = esg j x * dt (m + 1) g := by rw [h1]; grind
  rw [h4, ← h2, h3, hg0, Nat.zero_add]; grind
theorem blk_none {A : Mt} {n j : Nat} (hj : j < n) (h : ∀ i, j ≤ i → i < n → at2 A i j = 0) : dt (n - j) (blkF A j) = 0 := by
  obtain ⟨m, hm⟩ : ∃ m, n - j = m + 1 := ⟨n - j - 1, by omega⟩
  rw [hm]
  exact dt_col0 (fun i hi => by show at2 A (i + j) (0 + j) = 0; rw [Nat.zero_add]; exact h _ (by omega) (by omega))
theorem blk_all {A : Mt} {n : Nat} : dt (n - 0) (blkF A 0) = dt n (at2 A) := rfl
end Go.Proofs.YtdmlebigkakplaaGreat

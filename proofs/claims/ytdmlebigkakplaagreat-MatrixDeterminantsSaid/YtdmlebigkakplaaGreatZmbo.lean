/- matrix: Add, Sub, Scale, Mul, Transpose, Apply, Identity, of matrices and of what is none. -/
import Derived.Test.YtdmlebigkakplaaGreatZmbn
import Derived.Test.YtdmlebigkakplaaGreatZmbi
set_option linter.unusedSimpArgs false
set_option linter.unusedVariables false
namespace Go.Proofs.YtdmlebigkakplaaGreat
open Go Go.Fx
theorem dlt_int {i j : Nat} : dlt i j = if (i : Int) = (j : Int) then (1 : Rat) else 0 := by
  unfold dlt
  by_cases e : i = j
  · rw [if_pos e, if_pos (by omega)]
  · rw [if_neg e, if_neg (by omega)]
theorem SubP_dropA {M M' : List Ent} (h : SubP M M') : ∀ {xs : List Ent}, SubP (xs ++ M) M'
  | [] => h
  | _ :: _ => .drop (SubP_dropA h)
def MX.fit (m : MX) (R C : Nat) : Prop := m.dim R C ∧ (1 ≤ R ∧ R ≤ 64) ∧ (1 ≤ C ∧ C ≤ 64)
theorem MX.fit.r0 {m : MX} {R C : Nat} (h : m.fit R C) : (gt m.rows 0).es.length = C := by
  have := h.1.row (i := 0) (by have := h.2.1; omega)
  exact this
theorem MX.fit.ok {m : MX} {R C : Nat} (h : m.fit R C) : m.raw.ok := dim_ok h.1 h.2.1 h.2.2
theorem MX.raw_rows (m : MX) : m.raw.rows.length = m.rows.length := by show (m.rows.map RL.raw).length = _; rw [List.length_map]
theorem MX.raw_c0 {m : MX} {R C : Nat} (h : m.fit R C) : (gt m.raw.rows 0).es.length = C := by
  have e : m.raw.rows = m.rows.map RL.raw := rfl
  rw [e, gt_map (by have := h.1.1; have := h.2.1; omega)]
  show ((gt m.rows 0).es.map RE.raw).length = C
  rw [List.length_map]; exact h.r0
section
variable {P : Program} {f : FuncId} {vs : List Value} {X : List Nat} {w0 : World} {M : List Ent} {I : List Imm}
theorem xCD_fact {K : Value → List Ent → List Imm → Prop} {φ : Prop} (h : ∀ w, Mem X w0 M I w → φ) (k : φ → CD P f vs X w0 M I K) : CD P f vs X w0 M I K := ⟨fun w hw => (k (h w hw)).go w hw⟩
theorem CD_hvV {K : Value → Prop} {φ : Imm} [Fx.Good φ] (h : Hv I φ) (c : CD P f vs X w0 M (φ :: I) (fun v M' I' => M = M' ∧ φ :: I = I' ∧ K v)) : CD P f vs X w0 M I (fun v M' I' => M = M' ∧ I = I' ∧ K v) :=
  ⟨fun w hw => (c.go w (Mem.hv h hw)).mono (fun _ _ ⟨M', I', ⟨e1, e2, hk⟩, h2⟩ => by subst e1; subst e2; exact ⟨M, I, ⟨rfl, rfl, hk⟩, h2.inc (.of fun φ hφ => List.Mem.tail _ hφ)⟩)⟩
theorem Mem.xsml {w : World} {m : MX} {R C k : Nat} (hm : isX m k ∈ I) (hd : m.fit R C) (hk : k ≤ 20000000) (hw : Mem X w0 M I w) : m.raw.sml := by
  have h : IsX m k (muts M) w := (hw.imm _ hm).2
  refine ⟨by rw [m.raw_rows, hd.1.1]; have := hd.2.1; omega, fun r hr => ?_⟩
  obtain ⟨s, hs, rfl⟩ := List.mem_map.1 hr
  refine ⟨by show (s.es.map RE.raw).length ≤ _; rw [List.length_map, hd.1.2 s hs]; have := hd.2.2; omega, fun e he => ?_⟩
  obtain ⟨x, hx, rfl⟩ := List.mem_map.1 he
  exact IsR.sml hk ((h.row s hs).el x hx)
theorem Mem.lsml {w : World} {r : RL} {k : Nat} (hm : isL r k ∈ I) (hl : r.es.length ≤ 1000000) (hk : k ≤ 20000000) (hw : Mem X w0 M I w) : r.raw.sml := by
  have h : IsL r k (muts M) w := (hw.imm _ hm).2
  refine ⟨by show (r.es.map RE.raw).length ≤ _; rw [List.length_map]; exact hl, fun e he => ?_⟩
  obtain ⟨x, hx, rfl⟩ := List.mem_map.1 he
  exact IsR.sml hk (h.el x hx)
end
section
variable {X : List Nat} {w0 : World} {M0 : List Ent} {I0 : List Imm}
theorem CheckX_ok {a : MX} {R C k : Nat} (hk : k ≤ 20000000) (da : a.fit R C) (ha : isX a k ∈ I0) : CD Tryz.prog 61 [mv a] X w0 M0 I0 (fun v M I => M0 = M ∧ I0 = I ∧ v = .int .i64 0) := by
  refine xCD_fact (fun w hw => Mem.xsml ha da hk hw) (fun sa => ?_)
  refine CD_hvV (φ := isWM a.raw) (Hv.xraw ha hk) ?_
  have := Check_ok (X := X) (w0 := w0) (M0 := M0) (I0 := isWM a.raw :: I0) (m := a.raw) sa (List.Mem.head _)
  rw [WM.code_ok da.ok, mv_raw] at this
  exact this
theorem bothX_ok {a b : MX} {R C R' C' k m : Nat} (hk : k ≤ 20000000) (hm : m ≤ 20000000) (da : a.fit R C) (db : b.fit R' C') (ha : isX a k ∈ I0) (hb : isX b m ∈ I0) : CD Tryz.prog 161 [mv a, mv b] X w0 M0 I0 (fun v M I => M0 = M ∧ I0 = I ∧ v = .int .i64 (if R = R' ∧ C = C' then 0 else 4)) := by
  refine xCD_fact (fun w hw => Mem.xsml ha da hk hw) (fun sa => xCD_fact (fun w hw => Mem.xsml hb db hm hw) (fun sb => ?_))
  refine CD_hvV (φ := isWM a.raw) (Hv.xraw ha hk) (CD_hvV (φ := isWM b.raw) (Hv.xraw (List.Mem.tail _ hb) hm) ?_)
  have := both_ok (X := X) (w0 := w0) (M0 := M0) (I0 := isWM b.raw :: isWM a.raw :: I0) (a := a.raw) (b := b.raw) sa sb (List.Mem.tail _ (List.Mem.head _)) (List.Mem.head _)
  rw [bothC, if_pos ⟨da.ok, db.ok⟩, a.raw_rows, b.raw_rows, MX.raw_c0 da, MX.raw_c0 db, da.1.1, db.1.1, mv_raw, mv_raw] at this
  exact this
theorem check2X_ok {a b : MX} {R C R' C' k m : Nat} {q : Option Addr} {c : Nat} (hk : k ≤ 20000000) (hm : m ≤ 20000000) (da : a.fit R C) (db : b.fit R' C') (ha : isX a k ∈ I0) (hb : isX b m ∈ I0) (hq : slI q (recs eMX [a, b]) ∈ I0) : CD Tryz.prog 145 [.slice q 2 c] X w0 M0 I0 (fun v M I => M0 = M ∧ I0 = I ∧ v = .int .i64 0) := by
  refine xCD_fact (fun w hw => Mem.xsml ha da hk hw) (fun sa => xCD_fact (fun w hw => Mem.xsml hb db hm hw) (fun sb => ?_))
  refine CD_hvV (φ := isWM a.raw) (Hv.xraw ha hk) (CD_hvV (φ := isWM b.raw) (Hv.xraw (List.Mem.tail _ hb) hm) ?_)
  refine CD_hvV (φ := allWM [a.raw, b.raw]) (Hv.wm2 (List.Mem.tail _ (List.Mem.head _)) (List.Mem.head _)) ?_
  have e : recs eWM [a.raw, b.raw] = recs eMX [a, b] := by
    show [mvW a.raw, mvW b.raw] = [mv a, mv b]
    rw [mv_raw, mv_raw]
  have := check_ok (X := X) (w0 := w0) (M0 := M0) (I0 := allWM [a.raw, b.raw] :: isWM b.raw :: isWM a.raw :: I0) (q := q) (c := c) (ms := [a.raw, b.raw]) (by simp) (fun m hm => by simp at hm; rcases hm with rfl | rfl <;> assumption) (by rw [e]; exact List.Mem.tail _ (List.Mem.tail _ (List.Mem.tail _ hq))) (List.Mem.head _)
  rw [codeL_ok (fun m hm => by simp at hm; rcases hm with rfl | rfl; exact da.ok; exact db.ok)] at this
  exact this
theorem canonicalX_ok {a : RL} {k : Nat} (hk : k ≤ 20000000) (hl : a.es.length ≤ 1000000) (ha : isL a k ∈ I0) : CD Tryz.prog 160 [lv a] X w0 M0 I0 (fun v M I => M0 = M ∧ I0 = I ∧ v = .bool true) := by
  refine xCD_fact (fun w hw => Mem.lsml ha hl hk hw) (fun sa => ?_)
  refine CD_hvV (φ := isWL a.raw) (Hv.lraw ha hk) ?_
  have := mcanonical_ok (X := X) (w0 := w0) (M0 := M0) (I0 := isWL a.raw :: I0) (r := a.raw) sa (List.Mem.head _)
  rw [B_true a.raw_good, lv_raw] at this
  exact this
set_option maxRecDepth 100000 in
theorem XIdentity_ok {n : Nat} (hn : 1 ≤ n ∧ n ≤ 64) : CD Tryz.prog 58 [.int .i64 (n : Int)] X w0 M0 I0 (XQc (mkM n n dlt) n n 0 M0 I0) := by
  refine enterD1 Tryz.func58 rfl Tryz.ntmps58 rfl ?_
  repeat (refine wXh ?_)
  (refine RD_callS rfl (xmade_ok (R := n) (C := n) (g := 153) (fs := #[]) (cs := #[]) (k0 := 0) (by omega) (by omega) dlt (fun M I _ i j hi hj => by have := unit_ok (X := X) (w0 := w0) (M0 := M) (I0 := I) (i := (i : Int)) (j := (j : Int)); rw [← dlt_int] at this; exact this)) rfl rfl ?_; rintro _ _ _ ⟨rfl, x, rfl, hx, hd, rfl⟩; refine ⟨okF, ?_⟩)
  repeat (refine wXh ?_)
  refine ND_rets [2, 3] (by first | exact .inl rfl | exact .inr rfl) rfl rfl rfl _ _ subF incF (⟨rfl, x, rfl, hx, hd, rfl⟩)
set_option maxRecDepth 100000 in
theorem XAdd_bad {a b : WM} (sa : a.sml) (sb : b.sml) (hc : bothC a b ≠ 0) (ha : isWM a ∈ I0) (hb : isWM b ∈ I0) : CD Tryz.prog 63 [mvW a, mvW b] X w0 M0 I0 (fun v M I => M0 = M ∧ I0 = I ∧ v = .tuple #[.slice none 0 0, .int .i64 (bothC a b)]) := by
  have hC := fun M0 I0 h1 h2 => both_ok (X := X) (w0 := w0) (M0 := M0) (I0 := I0) (a := a) (b := b) sa sb h1 h2
  generalize bothC a b = cc at *
  refine enterD2 Tryz.func63 rfl Tryz.ntmps63 rfl ?_
  refine TD_seq ?_
  refine TD_region ?_
  (refine RD_boxL rfl rfl rfl ?_; intro b1; refine ⟨okF, ?_⟩)
  (refine RD_boxL rfl rfl rfl ?_; intro b2; refine ⟨okF, ?_⟩)
  repeat (refine wXh ?_)
  (refine RD_callS rfl (hC _ _ memF memF) rfl rfl ?_; rintro _ _ _ ⟨rfl, rfl, rfl⟩; refine ⟨okF, ?_⟩)
  repeat (refine wXh ?_)
  refine ND_rets [4, 5] (by first | exact .inl rfl | exact .inr rfl) rfl rfl rfl _ _ subF incF (⟨rfl, rfl, rfl⟩)
set_option maxRecDepth 100000 in
theorem XSub_bad {a b : WM} (sa : a.sml) (sb : b.sml) (hc : bothC a b ≠ 0) (ha : isWM a ∈ I0) (hb : isWM b ∈ I0) : CD Tryz.prog 64 [mvW a, mvW b] X w0 M0 I0 (fun v M I => M0 = M ∧ I0 = I ∧ v = .tuple #[.slice none 0 0, .int .i64 (bothC a b)]) := by
  have hC := fun M0 I0 h1 h2 => both_ok (X := X) (w0 := w0) (M0 := M0) (I0 := I0) (a := a) (b := b) sa sb h1 h2
  generalize bothC a b = cc at *
  refine enterD2 Tryz.func64 rfl Tryz.ntmps64 rfl ?_
  refine TD_seq ?_
  refine TD_region ?_
  (refine RD_boxL rfl rfl rfl ?_; intro b1; refine ⟨okF, ?_⟩)
  (refine RD_boxL rfl rfl rfl ?_; intro b2; refine ⟨okF, ?_⟩)
  repeat (refine wXh ?_)
  (refine RD_callS rfl (hC _ _ memF memF) rfl rfl ?_; rintro _ _ _ ⟨rfl, rfl, rfl⟩; refine ⟨okF, ?_⟩)
  repeat (refine wXh ?_)
  refine ND_rets [4, 5] (by first | exact .inl rfl | exact .inr rfl) rfl rfl rfl _ _ subF incF (⟨rfl, rfl, rfl⟩)
set_option maxRecDepth 100000 in
theorem XAdd_ok {a b : MX} {R C k m : Nat} (hk : k ≤ 10000000) (hm : m ≤ 10000000) (da : a.fit R C) (db : b.fit R C) (ha : isX a k ∈ I0) (hb : isX b m ∈ I0) : CD Tryz.prog 63 [mv a, mv b] X w0 M0 I0 (XQc (mkM R C (fun i j => at2 a.q i j + at2 b.q i j)) R C (k + m + 1) M0 I0) := by
  have hC := fun M0 I0 h1 h2 => bothX_ok (X := X) (w0 := w0) (M0 := M0) (I0 := I0) (a := a) (b := b) (k := k) (m := m) (by omega) (by omega) da db h1 h2
  rw [if_pos ⟨rfl, rfl⟩] at hC
  have lR := da.1.1
  have lR2 := db.1.1
  have lC := da.r0
  obtain ⟨r1, r2⟩ := da.2.1
  obtain ⟨c1, c2⟩ := da.2.2
  refine CD_hv (φ := slI (a).p (recs eL (a).rows)) (Hv.xsl memF) ?_
  refine enterD2 Tryz.func63 rfl Tryz.ntmps63 rfl ?_
  refine TD_seq ?_
  refine TD_region ?_
  (refine RD_boxL rfl rfl rfl ?_; intro p1; refine ⟨okF, ?_⟩)
  (refine RD_boxL rfl rfl rfl ?_; intro p2; refine ⟨okF, ?_⟩)
  repeat (refine wXh ?_)
  (refine RD_callS rfl (hC _ _ memF memF) rfl rfl ?_; rintro _ _ _ ⟨rfl, rfl, rfl⟩; refine ⟨okF, ?_⟩)
  repeat (refine wXh ?_)
  (repeat refine TD_seq ?_); refine TD_drawn [0, 1, 2, 3, 4, 5, 6, 7, 8, 9] [1, 0, 1, 1, 1, 0, 0, 0, 0, 0] mixed (by kernel_rfl) ?_
  repeat (refine wXh ?_)
  have hg := fun M I (hI : ∀ φ ∈ slI (some ⟨p2, 0, none⟩) [.slice b.p b.rows.length b.c] :: slI (some ⟨p1, 0, none⟩) [.slice a.p a.rows.length a.c] :: slI a.p (recs eL a.rows) :: I0, φ ∈ I) (i j : Nat) (hi : i < a.rows.length) (hj : j < (gt a.rows 0).es.length) => Add1_ok (X := X) (w0 := w0) (M0 := M) (I0 := I) (a := a) (b := b) (p := p1) (q := p2) (k := k) (m := m) (i := i) (j := j) (by omega) (by omega) (by rw [da.1.row (by omega)]; omega) (by omega) (by rw [db.1.row (by omega)]; omega) (hI _ memF) (hI _ memF) (hI _ memF) (hI _ memF)
  (refine RD_callS rfl (xmade_ok (R := a.rows.length) (C := (gt a.rows 0).es.length) (g := 162) (fs := #[]) (cs := #[pb p1, pb p2]) (k0 := k + m + 1) (by omega) (by omega) (fun i j => at2 a.q i j + at2 b.q i j) hg) rfl rfl ?_; rintro _ _ _ ⟨rfl, x, rfl, hx, hd, rfl⟩; refine ⟨okF, ?_⟩)
  rw [lR, lC] at hx hd
  repeat (refine wXh ?_)
  refine ND_rets [4, 5] (by first | exact .inl rfl | exact .inr rfl) rfl rfl rfl _ _ subF incF (⟨rfl, x, rfl, hx, hd, rfl⟩)
set_option maxRecDepth 100000 in
theorem XSub_ok {a b : MX} {R C k m : Nat} (hk : k ≤ 10000000) (hm : m ≤ 10000000) (da : a.fit R C) (db : b.fit R C) (ha : isX a k ∈ I0) (hb : isX b m ∈ I0) : CD Tryz.prog 64 [mv a, mv b] X w0 M0 I0 (XQc (mkM R C (fun i j => at2 a.q i j - at2 b.q i j)) R C (k + m + 1) M0 I0) := by
  have hC := fun M0 I0 h1 h2 => bothX_ok (X := X) (w0 := w0) (M0 := M0) (I0 := I0) (a := a) (b := b) (k := k) (m := m) (by omega) (by omega) da db h1 h2
  rw [if_pos ⟨rfl, rfl⟩] at hC
  have lR := da.1.1
  have lR2 := db.1.1
  have lC := da.r0
  obtain ⟨r1, r2⟩ := da.2.1
  obtain ⟨c1, c2⟩ := da.2.2
  refine CD_hv (φ := slI (a).p (recs eL (a).rows)) (Hv.xsl memF) ?_
  refine enterD2 Tryz.func64 rfl Tryz.ntmps64 rfl ?_
  refine TD_seq ?_
  refine TD_region ?_
  (refine RD_boxL rfl rfl rfl ?_; intro p1; refine ⟨okF, ?_⟩)
  (refine RD_boxL rfl rfl rfl ?_; intro p2; refine ⟨okF, ?_⟩)
  repeat (refine wXh ?_)
  (refine RD_callS rfl (hC _ _ memF memF) rfl rfl ?_; rintro _ _ _ ⟨rfl, rfl, rfl⟩; refine ⟨okF, ?_⟩)
  repeat (refine wXh ?_)
  (repeat refine TD_seq ?_); refine TD_drawn [0, 1, 2, 3, 4, 5, 6, 7, 8, 9] [1, 0, 1, 1, 1, 0, 0, 0, 0, 0] mixed (by kernel_rfl) ?_
  repeat (refine wXh ?_)
  have hg := fun M I (hI : ∀ φ ∈ slI (some ⟨p2, 0, none⟩) [.slice b.p b.rows.length b.c] :: slI (some ⟨p1, 0, none⟩) [.slice a.p a.rows.length a.c] :: slI a.p (recs eL a.rows) :: I0, φ ∈ I) (i j : Nat) (hi : i < a.rows.length) (hj : j < (gt a.rows 0).es.length) => Sub1_ok (X := X) (w0 := w0) (M0 := M) (I0 := I) (a := a) (b := b) (p := p1) (q := p2) (k := k) (m := m) (i := i) (j := j) (by omega) (by omega) (by rw [da.1.row (by omega)]; omega) (by omega) (by rw [db.1.row (by omega)]; omega) (hI _ memF) (hI _ memF) (hI _ memF) (hI _ memF)
  (refine RD_callS rfl (xmade_ok (R := a.rows.length) (C := (gt a.rows 0).es.length) (g := 164) (fs := #[]) (cs := #[pb p1, pb p2]) (k0 := k + m + 1) (by omega) (by omega) (fun i j => at2 a.q i j - at2 b.q i j) hg) rfl rfl ?_; rintro _ _ _ ⟨rfl, x, rfl, hx, hd, rfl⟩; refine ⟨okF, ?_⟩)
  rw [lR, lC] at hx hd
  repeat (refine wXh ?_)
  refine ND_rets [4, 5] (by first | exact .inl rfl | exact .inr rfl) rfl rfl rfl _ _ subF incF (⟨rfl, x, rfl, hx, hd, rfl⟩)
theorem mulR_comm {m k : Nat} : m + k = k + m := Nat.add_comm _ _
set_option maxRecDepth 100000 in
theorem XScale_bad {a : WM} {κ : RW} (sa : a.sml) (sk0 : κ.sml) (hc : ¬ (a.ok ∧ κ.good)) (ha : isWM a ∈ I0) (hb : isW κ ∈ I0) : CD Tryz.prog 67 [mvW a, wv κ] X w0 M0 I0 (fun v M I => M0 = M ∧ I0 = I ∧ v = .tuple #[.slice none 0 0, .int .i64 1]) := by
  have hC := fun M0 I0 h1 => Check_ok (X := X) (w0 := w0) (M0 := M0) (I0 := I0) (m := a) sa h1
  by_cases hok : a.ok
  · rw [WM.code_ok hok] at hC
    have hV := fun M0 I0 h1 => Valid_raw (X := X) (w0 := w0) (M0 := M0) (I0 := I0) (r := κ) sk0 h1
    rw [B_false (fun e => hc ⟨hok, e⟩)] at hV
    refine enterD2 Tryz.func67 rfl Tryz.ntmps67 rfl ?_
    refine TD_seq ?_
    refine TD_region ?_
    (refine RD_boxL rfl rfl rfl ?_; intro b1; refine ⟨okF, ?_⟩)
    (refine RD_boxA rfl rfl rfl ?_; intro b2; refine ⟨okF, ?_⟩)
    repeat (refine wXh ?_)
    (refine RD_callS rfl (hC _ _ memF) rfl rfl ?_; rintro _ _ _ ⟨rfl, rfl, rfl⟩; refine ⟨okF, ?_⟩)
    repeat (refine wXh ?_)
    (refine RD_callS rfl (hV _ _ (Hv.mem memF)) rfl rfl ?_; rintro _ _ _ ⟨rfl, rfl, rfl⟩; refine ⟨okF, ?_⟩)
    repeat (refine wXh ?_)
    refine ND_rets [4, 5] (by first | exact .inl rfl | exact .inr rfl) rfl rfl rfl _ _ subF incF (⟨rfl, rfl, rfl⟩)
  · rw [WM.code_no hok] at hC
    refine enterD2 Tryz.func67 rfl Tryz.ntmps67 rfl ?_
    refine TD_seq ?_
    refine TD_region ?_
    (refine RD_boxL rfl rfl rfl ?_; intro b1; refine ⟨okF, ?_⟩)
    (refine RD_boxA rfl rfl rfl ?_; intro b2; refine ⟨okF, ?_⟩)
    repeat (refine wXh ?_)
    (refine RD_callS rfl (hC _ _ memF) rfl rfl ?_; rintro _ _ _ ⟨rfl, rfl, rfl⟩; refine ⟨okF, ?_⟩)
    repeat (refine wXh ?_)
    refine ND_rets [4, 5] (by first | exact .inl rfl | exact .inr rfl) rfl rfl rfl _ _ subF incF (⟨rfl, rfl, rfl⟩)
set_option maxRecDepth 100000 in
theorem XScale_ok {a : MX} {κ : RE} {R C k m : Nat} (hk : k ≤ 10000000) (hm : m ≤ 10000000) (da : a.fit R C) (ha : isX a k ∈ I0) (hb : isR κ m ∈ I0) : CD Tryz.prog 67 [mv a, rv κ] X w0 M0 I0 (XQc (mkM R C (fun i j => κ.q * at2 a.q i j)) R C (m + k) M0 I0) := by
  have hC := fun M0 I0 h1 => CheckX_ok (X := X) (w0 := w0) (M0 := M0) (I0 := I0) (a := a) (k := k) (by omega) da h1
  have hV := fun M0 I0 h1 => Valid_okR (X := X) (w0 := w0) (M0 := M0) (I0 := I0) (e := κ) (k := m) (by omega) h1
  have lR := da.1.1
  have lC := da.r0
  obtain ⟨r1, r2⟩ := da.2.1
  obtain ⟨c1, c2⟩ := da.2.2
  refine CD_hv (φ := slI (a).p (recs eL (a).rows)) (Hv.xsl memF) ?_
  refine enterD2 Tryz.func67 rfl Tryz.ntmps67 rfl ?_
  refine TD_seq ?_
  refine TD_region ?_
  (refine RD_boxL rfl rfl rfl ?_; intro p1; refine ⟨okF, ?_⟩)
  (refine RD_boxA rfl rfl rfl ?_; intro p2; refine ⟨okF, ?_⟩)
  refine RD_freezeB .here ?_
  repeat (refine wXh ?_)
  (refine RD_callS rfl (hC _ _ memF) rfl rfl ?_; rintro _ _ _ ⟨rfl, rfl, rfl⟩; refine ⟨okF, ?_⟩)
  repeat (refine wXh ?_)
  (refine RD_callS rfl (hV _ _ (Hv.mem memF)) rfl rfl ?_; rintro _ _ _ ⟨rfl, rfl, rfl⟩; refine ⟨okF, ?_⟩)
  repeat (refine wXh ?_)
  (repeat refine TD_seq ?_); refine TD_drawn [0, 1, 2, 3, 4, 5, 6, 7, 8, 9] [1, 0, 1, 1, 1, 0, 0, 0, 0, 0] mixed (by kernel_rfl) ?_
  repeat (refine wXh ?_)
  have hg := fun M I (hI : ∀ φ ∈ slI (some ⟨p2, 0, none⟩) (eR κ) :: slI (some ⟨p1, 0, none⟩) [.slice a.p a.rows.length a.c] :: slI a.p (recs eL a.rows) :: I0, φ ∈ I) (i j : Nat) (hi : i < a.rows.length) (hj : j < (gt a.rows 0).es.length) => Scale1_ok (X := X) (w0 := w0) (M0 := M) (I0 := I) (a := a) (κ := κ) (p := p1) (q := p2) (k := k) (m := m) (i := i) (j := j) (by omega) (by omega) (by rw [da.1.row (by omega)]; omega) (hI _ memF) (hI _ memF) (hI _ memF) (hI _ memF)
  (refine RD_callS rfl (xmade_ok (R := a.rows.length) (C := (gt a.rows 0).es.length) (g := 169) (fs := #[]) (cs := #[pb p2, pb p1]) (k0 := m + k) (by omega) (by omega) (fun i j => κ.q * at2 a.q i j) hg) rfl rfl ?_; rintro _ _ _ ⟨rfl, x, rfl, hx, hd, rfl⟩; refine ⟨okF, ?_⟩)
  rw [lR, lC] at hx hd
  repeat (refine wXh ?_)
  refine ND_rets [4, 5] (by first | exact .inl rfl | exact .inr rfl) rfl rfl rfl _ _ subF incF (⟨rfl, x, rfl, hx, hd, rfl⟩)
set_option maxRecDepth 100000 in
theorem turned_ok {a : MX} {R C k : Nat} (da : a.fit R C) (ha : isX a k ∈ I0) : CD Tryz.prog 146 [mv a] X w0 M0 I0 (XQ (mkM C R (fun i j => at2 a.q j i)) C R k M0 I0) := by
  have lR := da.1.1
  have lC := da.r0
  obtain ⟨r1, r2⟩ := da.2.1
  obtain ⟨c1, c2⟩ := da.2.2
  refine CD_hv (φ := slI (a).p (recs eL (a).rows)) (Hv.xsl memF) ?_
  refine enterD1 Tryz.func146 rfl Tryz.ntmps146 rfl ?_
  refine TD_seq ?_
  refine TD_region ?_
  (refine RD_boxL rfl rfl rfl ?_; intro p1; refine ⟨okF, ?_⟩)
  repeat (refine wXh ?_)
  (repeat refine TD_seq ?_); refine TD_drawn [0, 1, 2, 3, 4, 5, 6, 7, 8] [1, 1, 1, 0, 1, 0, 0, 0, 0] mixed (by kernel_rfl) ?_
  repeat (refine wXh ?_)
  have hg := fun M I (hI : ∀ φ ∈ slI (some ⟨p1, 0, none⟩) [.slice a.p a.rows.length a.c] :: slI a.p (recs eL a.rows) :: I0, φ ∈ I) (i j : Nat) (hi : i < (gt a.rows 0).es.length) (hj : j < a.rows.length) => turned1_ok (X := X) (w0 := w0) (M0 := M) (I0 := I) (a := a) (p := p1) (k := k) (i := i) (j := j) (by omega) (by rw [da.1.row (by omega)]; omega) (hI _ memF) (hI _ memF)
  (refine RD_callS rfl (xmade_ok (R := (gt a.rows 0).es.length) (C := a.rows.length) (g := 219) (fs := #[]) (cs := #[pb p1]) (k0 := k) (by omega) (by omega) (fun i j => at2 a.q j i) hg) rfl rfl ?_; rintro _ _ _ ⟨rfl, x, rfl, hx, hd, rfl⟩; refine ⟨okF, ?_⟩)
  rw [lR, lC] at hx hd
  repeat (refine wXh ?_)
  refine ND_ret1 (by first | exact .inl rfl | exact .inr rfl) rfl rfl _ _ subF incF (⟨rfl, x, rfl, hx, hd, rfl⟩)
set_option maxRecDepth 100000 in
theorem xcopied_ok {a : MX} {R C k : Nat} (da : a.fit R C) (ha : isX a k ∈ I0) : CD Tryz.prog 138 [mv a] X w0 M0 I0 (MkP R C (at2 a.q) k M0 I0) := by
  have lR := da.1.1
  have lC := da.r0
  obtain ⟨r1, r2⟩ := da.2.1
  obtain ⟨c1, c2⟩ := da.2.2
  refine CD_hv (φ := slI (a).p (recs eL (a).rows)) (Hv.xsl memF) ?_
  refine enterD1 Tryz.func138 rfl Tryz.ntmps138 rfl ?_
  refine TD_seq ?_
  refine TD_region ?_
  (refine RD_boxL rfl rfl rfl ?_; intro p1; refine ⟨okF, ?_⟩)
  repeat (refine wXh ?_)
  (repeat refine TD_seq ?_); refine TD_drawn [0, 1, 2, 3, 4, 5, 6, 7, 8] [1, 0, 1, 1, 1, 0, 0, 0, 0] mixed (by kernel_rfl) ?_
  repeat (refine wXh ?_)
  have hg := fun M I (hI : ∀ φ ∈ slI (some ⟨p1, 0, none⟩) [.slice a.p a.rows.length a.c] :: slI a.p (recs eL a.rows) :: I0, φ ∈ I) (i j : Nat) (hi : i < a.rows.length) (hj : j < (gt a.rows 0).es.length) => copied1_ok (X := X) (w0 := w0) (M0 := M) (I0 := I) (a := a) (p := p1) (k := k) (i := i) (j := j) (by omega) (by rw [da.1.row (by omega)]; omega) (hI _ memF) (hI _ memF)
  (refine RD_callS rfl (mmade_ok (R := a.rows.length) (C := (gt a.rows 0).es.length) (g := 217) (fs := #[]) (cs := #[pb p1]) (k0 := k) (by omega) (by omega) (at2 a.q) hg) rfl rfl ?_; rintro _ _ _ ⟨bo, rows, rfl, h1, h2, h3, rfl, rfl⟩; refine ⟨OkD.any (SubP.drop (SubP_dropA SubP.refl)) incF, ?_⟩)
  rw [lR] at h1
  rw [lC] at h2
  rw [lR, lC] at h3
  have e1 : (a.rows.length : Int) = R := by omega
  repeat (refine wXh ?_)
  refine ND_ret1 (by first | exact .inl rfl | exact .inr rfl) rfl rfl _ _ subF incF (⟨bo, rows, by rw [lR], h1, h2, h3, rfl, rfl⟩)
set_option maxRecDepth 100000 in
theorem beside_ok {a b : MX} {R C D k : Nat} (da : a.fit R C) (db : b.fit R D) (ha : isX a k ∈ I0) (hb : isX b k ∈ I0) : CD Tryz.prog 152 [mv a, mv b] X w0 M0 I0 (MkP R (C + D) (fun i j => if j < C then at2 a.q i j else at2 b.q i (j - C)) k M0 I0) := by
  have lR := da.1.1
  have lR2 := db.1.1
  have lC := da.r0
  have lD := db.r0
  obtain ⟨r1, r2⟩ := da.2.1
  obtain ⟨c1, c2⟩ := da.2.2
  obtain ⟨d1, d2⟩ := db.2.2
  refine CD_hv (φ := slI (a).p (recs eL (a).rows)) (Hv.xsl memF) ?_
  refine CD_hv (φ := slI (b).p (recs eL (b).rows)) (Hv.xsl memF) ?_
  refine enterD2 Tryz.func152 rfl Tryz.ntmps152 rfl ?_
  refine TD_seq ?_
  refine TD_region ?_
  (refine RD_boxL rfl rfl rfl ?_; intro p1; refine ⟨okF, ?_⟩)
  (refine RD_boxL rfl rfl rfl ?_; intro p2; refine ⟨okF, ?_⟩)
  repeat (refine wXh ?_)
  (repeat refine TD_seq ?_); refine TD_drawn [0, 1, 2, 3, 4, 5, 6, 7, 8, 9, 10, 11, 12, 13] [1, 0, 1, 1, 1, 1, 1, 1, 1, 1, 0, 0, 0, 0] mixed (by kernel_rfl) ?_
  repeat (refine wXh ?_)
  rw [show ((gt a.rows 0).es.length : Int) + ((gt b.rows 0).es.length : Int) = (((gt a.rows 0).es.length + (gt b.rows 0).es.length : Nat) : Int) by omega]
  have hg := fun M I (hI : ∀ φ ∈ slI (some ⟨p2, 0, none⟩) [.slice b.p b.rows.length b.c] :: slI (some ⟨p1, 0, none⟩) [.slice a.p a.rows.length a.c] :: slI b.p (recs eL b.rows) :: slI a.p (recs eL a.rows) :: I0, φ ∈ I) (i j : Nat) (hi : i < a.rows.length) (hj : j < (gt a.rows 0).es.length + (gt b.rows 0).es.length) => beside1_ok (X := X) (w0 := w0) (M0 := M) (I0 := I) (a := a) (b := b) (p := p1) (q := p2) (k := k) (m := k) (i := i) (j := j) (C := C) lC (by omega) (by omega) (da.1.row (by omega)) (by omega) (by rw [db.1.row (by omega)]; omega) (by rw [db.1.row (by omega)]; omega) (Nat.le_refl _) (by omega) (hI _ memF) (hI _ memF) (hI _ memF) (hI _ memF)
  (refine RD_callS rfl (mmade_ok (R := a.rows.length) (C := (gt a.rows 0).es.length + (gt b.rows 0).es.length) (g := 222) (fs := #[]) (cs := #[pb p1, pb p2]) (k0 := k) (by omega) (by omega) (fun i j => if j < C then at2 a.q i j else at2 b.q i (j - C)) hg) rfl rfl ?_; rintro _ _ _ ⟨bo, rows, rfl, h1, h2, h3, rfl, rfl⟩; refine ⟨OkD.any (SubP.drop (SubP_dropA SubP.refl)) incF, ?_⟩)
  rw [lR] at h1
  rw [lC, lD] at h2
  rw [lR, lC, lD] at h3
  repeat (refine wXh ?_)
  refine ND_ret1 (by first | exact .inl rfl | exact .inr rfl) rfl rfl _ _ subF incF (⟨bo, rows, by rw [lR], h1, h2, h3, rfl, rfl⟩)
set_option maxRecDepth 100000 in
theorem XTranspose_bad {a : WM} (sa : a.sml) (hc : ¬ a.ok) (ha : isWM a ∈ I0) : CD Tryz.prog 70 [mvW a] X w0 M0 I0 (fun v M I => M0 = M ∧ I0 = I ∧ v = .tuple #[.slice none 0 0, .int .i64 1]) := by
  have hC := fun M0 I0 h1 => Check_ok (X := X) (w0 := w0) (M0 := M0) (I0 := I0) (m := a) sa h1
  rw [WM.code_no hc] at hC
  refine enterD1 Tryz.func70 rfl Tryz.ntmps70 rfl ?_
  repeat (refine wXh ?_)
  (refine RD_callS rfl (hC _ _ memF) rfl rfl ?_; rintro _ _ _ ⟨rfl, rfl, rfl⟩; refine ⟨okF, ?_⟩)
  repeat (refine wXh ?_)
  refine ND_rets [2, 3] (by first | exact .inl rfl | exact .inr rfl) rfl rfl rfl _ _ subF incF (⟨rfl, rfl, rfl⟩)
set_option maxRecDepth 100000 in
theorem XTranspose_ok {a : MX} {R C k : Nat} (hk : k ≤ 20000000) (da : a.fit R C) (ha : isX a k ∈ I0) : CD Tryz.prog 70 [mv a] X w0 M0 I0 (XQc (mkM C R (fun i j => at2 a.q j i)) C R k M0 I0) := by
  have hC := fun M0 I0 h1 => CheckX_ok (X := X) (w0 := w0) (M0 := M0) (I0 := I0) (a := a) (k := k) (by omega) da h1
  refine enterD1 Tryz.func70 rfl Tryz.ntmps70 rfl ?_
  repeat (refine wXh ?_)
  (refine RD_callS rfl (hC _ _ memF) rfl rfl ?_; rintro _ _ _ ⟨rfl, rfl, rfl⟩; refine ⟨okF, ?_⟩)
  repeat (refine wXh ?_)
  (refine RD_callS rfl (turned_ok da memF) rfl rfl ?_; rintro _ _ _ ⟨rfl, x, rfl, hx, hd, rfl⟩; refine ⟨okF, ?_⟩)
  repeat (refine wXh ?_)
  refine ND_rets [2, 3] (by first | exact .inl rfl | exact .inr rfl) rfl rfl rfl _ _ subF incF (⟨rfl, x, rfl, hx, hd, rfl⟩)
end
end Go.Proofs.YtdmlebigkakplaaGreat

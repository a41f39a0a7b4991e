/- matrix.Inverse. Equality of lists and matrices; matrices of integers; the chapter's example. Matrices of integers; the chapter's example. -/
import Derived.Test.YtdmlebigkakplaaGreatZmbu
import Derived.Test.YtdmlebigkakplaaGreatZmbi
import Derived.Test.YtdmlebigkakplaaGreatZmbs
set_option linter.unusedSimpArgs false
set_option linter.unusedVariables false
namespace Go.Proofs.YtdmlebigkakplaaGreat
open Go Go.Fx
def besI (n : Nat) (A : Mt) : Mt := mkM n (n + n) (fun i j => if j < n then at2 A i j else dlt i (j - n))
def invM (n : Nat) (A : Mt) : Mt := mkM n n (fun i j => at2 (redN (besI n A) n).1 i (n + j))
theorem dim_mkM {R C : Nat} {F : Nat → Nat → Rat} : dimL (mkM R C F) R C := ⟨by simp [mkM], fun i hi => by simp [mkM, rowAt, List.getD, hi]⟩
theorem besI_l {n : Nat} {A : Mt} {i j : Nat} (hi : i < n) (hj : j < n) : at2 (besI n A) i j = at2 A i j := by
  unfold besI
  rw [mkM_at hi (by omega), if_pos hj]
theorem besI_r {n : Nat} {A : Mt} {i j : Nat} (hi : i < n) (hj : j < n) : at2 (besI n A) i (n + j) = dlt i j := by
  unfold besI
  rw [mkM_at hi (by omega), if_neg (by omega), Nat.add_sub_cancel_left]
theorem inv_iff {n : Nat} {A : Mt} : (redN (besI n A) n).2.length = n ↔ dt n (at2 A) ≠ 0 := by
  obtain ⟨_, s, hr⟩ := redN_red (A := besI n A) (R := n) (C := n + n) dim_mkM n (by omega)
  rw [hr.iff (by omega), dt_congr (f := at2 (besI n A)) (g := at2 A) (fun i j hi hj => besI_l hi hj)]
theorem inv_mul {n : Nat} {A : Mt} (h : dt n (at2 A) ≠ 0) : (∀ i j, i < n → j < n → mulF n (at2 A) (at2 (invM n A)) i j = dlt i j) ∧ (∀ i j, i < n → j < n → mulF n (at2 (invM n A)) (at2 A) i j = dlt i j) := by
  obtain ⟨_, s, hr⟩ := redN_red (A := besI n A) (R := n) (C := n + n) dim_mkM n (by omega)
  obtain ⟨h1, h2⟩ := hr.inv (a := at2 A) (inv_iff.2 h) (fun i j hi hj => besI_l hi hj) (fun i j hi hj => besI_r hi hj)
  have e : ∀ i j, i < n → j < n → at2 (invM n A) i j = at2 (redN (besI n A) n).1 i (n + j) := fun i j hi hj => by unfold invM; rw [mkM_at hi hj]
  constructor
  · intro i j hi hj
    rw [← h1 i j hi hj]
    exact mulF_congr (fun _ _ => rfl) (fun k hk => e k j hk hj)
  · intro i j hi hj
    rw [← h2 i j hi hj]
    exact mulF_congr (fun k hk => e i k hi hk) (fun _ _ => rfl)
section
variable {X : List Nat} {w0 : World} {M0 : List Ent} {I0 : List Imm}
set_option maxRecDepth 100000 in
theorem XInverse_bad {a : WM} (sa : a.sml) (hc : sqC a ≠ 0) (ha : isWM a ∈ I0) : CD Tryz.prog 56 [mvW a] X w0 M0 I0 (fun v M I => M0 = M ∧ I0 = I ∧ v = .tuple #[.slice none 0 0, .int .i64 (sqC a)]) := by
  have hC := fun M0 I0 h1 => square_ok (X := X) (w0 := w0) (M0 := M0) (I0 := I0) (a := a) sa h1
  generalize sqC a = cc at *
  refine enterD1 Tryz.func56 rfl Tryz.ntmps56 rfl ?_
  repeat (refine wXh ?_)
  (refine RD_callS rfl (hC _ _ memF) rfl rfl ?_; rintro _ _ _ ⟨rfl, rfl, rfl⟩; refine ⟨okF, ?_⟩)
  repeat (refine wXh ?_)
  refine ND_rets [2, 3] (by first | exact .inl rfl | exact .inr rfl) rfl rfl rfl _ _ subF incF (⟨rfl, rfl, rfl⟩)
set_option maxRecDepth 100000 in
set_option maxHeartbeats 2000000 in
theorem XInverse_all {a : MX} {n k0 : Nat} (hb : kb k0 n ≤ 20000000) (hk0 : k0 ≤ 20000000) (da : a.fit n n) (ha : isX a k0 ∈ I0) : CD Tryz.prog 56 [mv a] X w0 M0 I0 (fun v M I => if dt n (at2 a.q) = 0 then (M0 = M ∧ I0 = I ∧ v = .tuple #[.slice none 0 0, .int .i64 14]) else XQc (invM n a.q) n n (kb k0 n) M0 I0 v M I) := by
  obtain ⟨n1, n2⟩ := da.2.1
  refine xCD_fact (fun w hw => Mem.xsml ha da (by omega) hw) (fun sa => ?_)
  have hC := fun M0 I0 h1 => square_ok (X := X) (w0 := w0) (M0 := M0) (I0 := I0) (a := a.raw) sa h1
  have e0 : sqC a.raw = 0 := by
    unfold sqC
    rw [if_pos da.ok, a.raw_rows, MX.raw_c0 da, da.1.1, if_pos rfl]
  rw [e0, mv_raw] at hC
  have lR := da.1.1
  refine CD_hv (φ := isWM a.raw) (Hv.xraw ha (by omega)) ?_
  refine enterD1 Tryz.func56 rfl Tryz.ntmps56 rfl ?_
  repeat (refine wXh ?_)
  (refine RD_callS rfl (hC _ _ memF) rfl rfl ?_; rintro _ _ _ ⟨rfl, rfl, rfl⟩; refine ⟨okF, ?_⟩)
  repeat (refine wXh ?_)
  (refine RD_alloc rfl rfl ?_; intro b5; refine ⟨okF, ?_⟩)
  repeat (refine wXh ?_)
  rw [lR]
  refine RD_freezeB .here ?_
  repeat (refine wXh ?_)
  (refine RD_callS rfl (xmade_ok (R := n) (C := n) (g := 153) (fs := #[]) (cs := #[]) (k0 := 0) (by omega) (by omega) dlt (fun M I _ i j hi hj => by have := unit_ok (X := X) (w0 := w0) (M0 := M) (I0 := I) (i := (i : Int)) (j := (j : Int)); rw [← dlt_int] at this; exact this)) rfl rfl ?_; rintro _ _ _ ⟨rfl, u, rfl, hu, hud, rfl⟩; refine ⟨okF, ?_⟩)
  repeat (refine wXh ?_)
  refine RD_hv (φ := isX u k0) (Hv.xm (k := 0) memF (Nat.zero_le _)) ?_
  (refine RD_callS rfl (beside_ok da ⟨hud, ⟨n1, n2⟩, n1, n2⟩ memF memF) rfl rfl ?_; rintro _ _ _ ⟨bo, rows0, rfl, hl0, hc0, hq0, rfl, rfl⟩; refine ⟨okF, ?_⟩)
  repeat (refine wXh ?_)
  (refine RD_alloc rfl rfl ?_; intro b6; refine ⟨okF, ?_⟩)
  repeat (refine wXh ?_)
  refine TD_m (fun _ hw => hw.freezeB .here) ?_
  have hB : mq rows0 = besI n a.q := by
    unfold besI
    refine Eq.trans hq0 ?_
    refine mkM_congr (R := n) (C := n + n) (fun i j hi hj => ?_)
    by_cases e : j < n
    · rw [if_pos e, if_pos e]
    · rw [if_neg e, if_neg e, hu, mkM_at hi (by omega)]
  (repeat refine TD_seq ?_); refine TD_drawnK 1 (M0) (slI (some ⟨b6, 0, none⟩) [.slice (some ⟨bo, 0, none⟩) n n] :: slI (some ⟨b5, 0, none⟩) [.int .i64 (n : Int)] :: I0) [0, 1, 4, 2, 3, 5] [0, 0, 1, 0, 0, 0] (SubP.drop (SubP_dropA SubP.refl)) incF mixed (by kernel_rfl) ?_
  repeat (refine wXh ?_)
  have hRd := fun I0 h => reduce_ok (X := X) (w0 := w0) (M0 := .blk bo (recs eM rows0) 61 :: (rows0.map entM ++ M0)) (I0 := I0) (bo := bo) (R := n) (C := n + n) (n := n) (k0 := k0) (rows := rows0) (M1 := M0) hl0 (by omega) (by omega) hc0 (by omega) (by omega) h rfl
  (refine RD_callS rfl (hRd _ memF) rfl rfl ?_; rintro _ _ _ ⟨rows, pv, q, c, rfl, hl, hc, hred, hpv, rfl, rfl⟩; refine ⟨OkD.kY (SubP.drop (SubP.drop (SubP_dropA SubP.refl))) incF, ?_⟩)
  rw [hB] at hred
  have hiff : pv.length = n ↔ dt n (at2 a.q) ≠ 0 := by
    have := inv_iff (n := n) (A := a.q)
    rw [hred] at this
    exact this
  by_cases hd0 : dt n (at2 a.q) = 0
  · simp only [if_pos hd0]
    have hlt : pv.length < n := by
      rcases Nat.lt_or_ge pv.length n with h | h
      · exact h
      · exact absurd hd0 (hiff.1 (by omega))
    repeat (refine wXh ?_)
    refine ND_rets [2, 3] (.inl rfl) rfl rfl rfl M0 I0 (SubP.drop (SubP.drop (SubP_dropA SubP.refl))) incF ⟨rfl, rfl, rfl⟩
  · simp only [if_neg hd0]
    have hlt : pv.length = n := hiff.2 hd0
    repeat (refine wXh ?_)
    refine RD_w (M' := .blk bo (recs eM rows) 61 :: (rows.map entM ++ M0)) (I' := allM rows (kb k0 n) :: slI (some ⟨b6, 0, none⟩) [.slice (some ⟨bo, 0, none⟩) n n] :: slI (some ⟨b5, 0, none⟩) [.int .i64 (n : Int)] :: I0) (SubP.drop SubP.refl) incF ?_
    refine RD_m (fun _ hw => freezeX hw (List.Mem.head _)) ?_
    refine RD_hv (φ := bxX b6 (MR.x bo rows)) (by show Hv _ (slI _ [.slice (some ⟨bo, 0, none⟩) (rows.map MR.l).length rows.length]); rw [List.length_map, hl]; exact Hv.mem memF) ?_
    have xl : (MR.x bo rows).rows.length = n := by show (rows.map MR.l).length = n; rw [List.length_map, hl]
    have xc : ∀ i : Nat, i < n → (gt (MR.x bo rows).rows (i : Int)).es.length = n + n := fun i hi => by
      have : gt (MR.x bo rows).rows (i : Int) = (gt rows (i : Int)).l := gt_map (by omega)
      rw [this]; exact hc _ (gt_mem (by omega))
    have hg := fun M I (hI : ∀ φ ∈ bxX b6 (MR.x bo rows) :: isX (MR.x bo rows) (kb k0 n) :: allM rows (kb k0 n) :: slI (some ⟨b6, 0, none⟩) [.slice (some ⟨bo, 0, none⟩) n n] :: slI (some ⟨b5, 0, none⟩) [.int .i64 (n : Int)] :: I0, φ ∈ I) (i j : Nat) (hi : i < n) (hj : j < n) => Inverse1_ok (X := X) (w0 := w0) (M0 := M) (I0 := I) (a := MR.x bo rows) (p := b6) (q := b5) (k := kb k0 n) (i := i) (j := j) (n := n) (by omega) (by rw [xc i hi]; omega) (by omega) (by omega) (hI _ memF) (hI _ memF) (hI _ memF)
    (refine RD_callS rfl (xmade_ok (R := n) (C := n) (g := 155) (fs := #[]) (cs := #[pb b6, pb b5]) (k0 := kb k0 n) (by omega) (by omega) (fun i j => at2 (MR.x bo rows).q i (n + j)) hg) rfl rfl ?_; rintro _ _ _ ⟨rfl, x, rfl, hx, hd, rfl⟩; refine ⟨okF, ?_⟩)
    rw [q_x] at hx
    repeat (refine wXh ?_)
    refine ND_rets [2, 3] (by first | exact .inl rfl | exact .inr rfl) rfl rfl rfl _ _ subF incF (⟨rfl, x, rfl, by unfold invM; rw [hred]; exact hx, hd, rfl⟩)
end
end Go.Proofs.YtdmlebigkakplaaGreat
namespace Go.Proofs.YtdmlebigkakplaaGreat
open Go Go.Fx
/-- a list of integers -/
structure IL where
  p : Option Addr
  c : Nat
  xs : List Int
instance : Inhabited IL := ⟨⟨none, 0, []⟩⟩
abbrev eIL (r : IL) : List Value := [.slice r.p r.xs.length r.c]
abbrev ivL (r : IL) : Value := .slice r.p r.xs.length r.c
instance : Sized eIL 1 := ⟨fun _ => rfl⟩
instance : Ones eIL := ⟨fun m u hu => by simp only [eIL, List.mem_cons, List.not_mem_nil, or_false] at hu; subst hu; rfl⟩
/- ---------- IndexFunc, ContainsFunc of [][]int ---------- -/
section
variable {X : List Nat} {w0 : World} {M0 : List Ent} {I0 : List Imm}
theorem idxIL_ok {q : Option Addr} {a : List IL} {c : Nat} {g : FuncId} [FnOk Tryz.prog g] {fs cs : Array Value} (pr : IL → Prop) [DecidablePred pr] (hn : (a.length : Int) ≤ 9223372036854775807) (ha : slI q (recs eIL a) ∈ I0)
    (hg : ∀ i : Nat, i < a.length → CD Tryz.prog g (fs.toList ++ [ivL (gt a i)] ++ cs.toList) X w0 M0 I0 (fun v M I => M0 = M ∧ I0 = I ∧ v = .bool (B (pr (gt a i))))) :
    CD Tryz.prog 249 [.slice q a.length c, .func (.func g) fs cs] X w0 M0 I0 (fun v M I => M0 = M ∧ I0 = I ∧ ∃ r : Int, v = .int .i64 r ∧ ((∃ i : Nat, i < a.length ∧ r = i ∧ pr (gt a i) ∧ ∀ j : Nat, j < i → ¬ pr (gt a j)) ∨ (r = -1 ∧ ∀ j : Nat, j < a.length → ¬ pr (gt a j)))) := by
  refine enterD2 Tryz.func249 rfl Tryz.ntmps249 rfl ?_
  repeat (refine wXh ?_)
  refine TD_loop [0, 1, 7] rfl (fun k G M I => ∃ i : Nat, i ≤ a.length ∧ k = a.length - i ∧ (∀ j : Nat, j < i → ¬ pr (gt a j)) ∧ G = [(8, .int .i64 i)] ∧ M = M0 ∧ I = I0) (a.length) _ _ _ subG subF incF (⟨0, by omega, rfl, fun j hj => by omega, rfl, rfl, rfl⟩) ?_
  rintro k G M I ⟨i, hi, rfl, hs, rfl, rfl, rfl⟩
  repeat' (first | refine wXh ?_ | (refine TD_isCo ?_; first | refine TD_dec rfl (fun h => ?_) (fun h => ?_) | refine TD_cond rfl (fun h => ?_) (fun h => ?_)) | (refine RD_isGu ?_; first | refine RD_grd rfl rfl (fun h => ?_) (fun h => ?_) | (fail_if_success (refine RD_isW rfl ?_); refine RD_grdB rfl rfl (fun h => ?_) (fun h => ?_))))
  · have hlt : i < a.length := by omega
    (refine RD_callVS rfl rfl (hg i hlt) rfl rfl rfl ?_; rintro _ _ _ ⟨rfl, rfl, rfl⟩; refine ⟨okF, ?_⟩)
    repeat' (first | refine wXh ?_ | (refine TD_isCo ?_; first | refine TD_dec rfl (fun h => ?_) (fun h => ?_) | refine TD_cond rfl (fun h => ?_) (fun h => ?_)) | (refine RD_isGu ?_; first | refine RD_grd rfl rfl (fun h => ?_) (fun h => ?_) | (fail_if_success (refine RD_isW rfl ?_); refine RD_grdB rfl rfl (fun h => ?_) (fun h => ?_))))
    · refine ND_ret1 (by first | exact .inl rfl | exact .inr rfl) rfl rfl _ _ subF incF (⟨rfl, rfl, _, rfl, .inl ⟨i, hlt, rfl, by assumption, hs⟩⟩)
    · refine ND_again (a.length - (i + 1)) _ _ _ (by first | omega | (simp only [List.length_append, List.length_cons, List.length_nil]; omega)) subG subF incF (⟨i + 1, by omega, rfl, fun j hj => ?_, rfl, rfl, rfl⟩)
      by_cases e : j = i
      · subst e; assumption
      · exact hs j (by omega)
  · refine ND_ret1 (by first | exact .inl rfl | exact .inr rfl) rfl rfl _ _ subF incF (⟨rfl, rfl, _, rfl, .inr ⟨rfl, fun j hj => hs j (by omega)⟩⟩)
theorem hasIL_ok {q : Option Addr} {a : List IL} {c : Nat} {g : FuncId} [FnOk Tryz.prog g] {fs cs : Array Value} (pr : IL → Prop) [DecidablePred pr] (hn : (a.length : Int) ≤ 9223372036854775807) (ha : slI q (recs eIL a) ∈ I0)
    (hg : ∀ i : Nat, i < a.length → CD Tryz.prog g (fs.toList ++ [ivL (gt a i)] ++ cs.toList) X w0 M0 I0 (fun v M I => M0 = M ∧ I0 = I ∧ v = .bool (B (pr (gt a i))))) :
    CD Tryz.prog 214 [.slice q a.length c, .func (.func g) fs cs] X w0 M0 I0 (fun v M I => M0 = M ∧ I0 = I ∧ v = .bool (B (∃ x ∈ a, pr x))) := by
  refine enterD2 Tryz.func214 rfl Tryz.ntmps214 rfl ?_
  repeat (refine wXh ?_)
  (refine RD_callS rfl (idxIL_ok pr hn ha hg) rfl rfl ?_; rintro _ _ _ ⟨rfl, rfl, r, rfl, h⟩; refine ⟨okF, ?_⟩)
  repeat (refine wXh ?_)
  refine ND_ret1 (by first | exact .inl rfl | exact .inr rfl) rfl rfl _ _ subF incF (⟨rfl, rfl, congrArg Value.bool (B_congr ?_)⟩)
  rcases h with ⟨i, hi, rfl, hp, _⟩ | ⟨rfl, h⟩
  · exact ⟨fun _ => ⟨gt a i, by rw [gt_get hi]; exact List.getElem_mem hi, hp⟩, fun _ => by omega⟩
  · refine ⟨fun h => by omega, ?_⟩
    rintro ⟨x, hx, hp⟩
    obtain ⟨j, hj, rfl⟩ := List.mem_iff_getElem.1 hx
    exact absurd (by rw [gt_get hj]; exact hp) (h j hj)
end

theorem q_ext {x y : RL} (hl : x.es.length = y.es.length) (h : ∀ j : Nat, j < x.es.length → (gt x.es (j : Int)).q = (gt y.es (j : Int)).q) : x.q = y.q := by
  apply list_ext0
  · simp [hl]
  · intro t ht
    have ht' : t < x.es.length := by simpa using ht
    rw [qs_getD ht', qs_getD (by omega)]
    exact h t ht'
theorem q_at {x y : RL} (h : x.q = y.q) {j : Nat} (hj : j < x.es.length) : (gt x.es (j : Int)).q = (gt y.es (j : Int)).q := by
  have hl : x.es.length = y.es.length := by have := congrArg List.length h; simpa using this
  rw [← qs_getD hj, ← qs_getD (by omega)]
  exact congrArg (fun l => List.getD l j 0) h
section
variable {X : List Nat} {w0 : World} {M0 : List Ent} {I0 : List Imm}
set_option maxRecDepth 100000 in
theorem msameList_ok {x y : RL} {k m : Nat} (hk : k + m + 1 ≤ 100000000) (lx : x.es.length ≤ 1000) (ly : y.es.length ≤ 1000) (hx : isL x k ∈ I0) (hy : isL y m ∈ I0) :
    CD Tryz.prog 176 [lv x, lv y, .func (.func 21) #[] #[]] X w0 M0 I0 (fun v M I => M0 = M ∧ I0 = I ∧ v = .bool (B (x.q = y.q))) := by
  refine CD_hv (φ := slI (x).p (recs eR (x).es)) (Hv.lsl memF) ?_
  refine CD_hv (φ := slI (y).p (recs eR (y).es)) (Hv.lsl memF) ?_
  by_cases hlen : x.es.length = y.es.length
  · refine enterD3 Tryz.func176 rfl Tryz.ntmps176 rfl ?_
    repeat (refine wXh ?_)
    refine TD_loop [1, 2, 15, 16] rfl (fun k G M I => ∃ i : Nat, i ≤ x.es.length ∧ k = x.es.length - i ∧ (∀ j : Nat, j < i → (gt x.es (j : Int)).q = (gt y.es (j : Int)).q) ∧ G = [(17, .int .i64 i)] ∧ M0 = M ∧ I = slI y.p (recs eR y.es) :: slI x.p (recs eR x.es) :: I0) (x.es.length) _ _ _ subG subF incF (⟨0, by omega, rfl, fun j hj => by omega, rfl, rfl, rfl⟩) ?_
    rintro kk G M I ⟨i, hi, rfl, hs, rfl, rfl, rfl⟩
    by_cases hi2 : i < x.es.length
    · have hS := fun M0 I0 h1 h2 => rSame_ok (X := X) (w0 := w0) (M0 := M0) (I0 := I0) (a := gt x.es (i : Int)) (b := gt y.es (i : Int)) (k := k) (m := m) (by omega) h1 h2
      by_cases he : (gt x.es (i : Int)).q = (gt y.es (i : Int)).q
      · rw [B_true he] at hS
        repeat (refine wXh ?_)
        (refine RD_alloc rfl rfl ?_; intro b8; refine ⟨okF, ?_⟩)
        repeat (refine wXh ?_)
        (refine RD_alloc rfl rfl ?_; intro b9; refine ⟨okF, ?_⟩)
        repeat (refine wXh ?_)
        (refine RD_callVS rfl rfl (hS _ _ (Hv.lel memF (by omega)) (Hv.lel memF (by omega))) rfl rfl rfl ?_; rintro _ _ _ ⟨rfl, rfl, rfl⟩; refine ⟨okF, ?_⟩)
        repeat (refine wXh ?_)
        refine ND_again (x.es.length - (i + 1)) _ _ _ (by first | omega | (simp only [List.length_append, List.length_cons, List.length_nil]; omega)) subG subF incF (⟨i + 1, by omega, rfl, fun j hj => ?_, rfl, rfl, rfl⟩)
        by_cases e : j = i
        · subst e; exact he
        · exact hs j (by omega)
      · rw [B_false he] at hS
        repeat (refine wXh ?_)
        (refine RD_alloc rfl rfl ?_; intro b8; refine ⟨okF, ?_⟩)
        repeat (refine wXh ?_)
        (refine RD_alloc rfl rfl ?_; intro b9; refine ⟨okF, ?_⟩)
        repeat (refine wXh ?_)
        (refine RD_callVS rfl rfl (hS _ _ (Hv.lel memF (by omega)) (Hv.lel memF (by omega))) rfl rfl rfl ?_; rintro _ _ _ ⟨rfl, rfl, rfl⟩; refine ⟨okF, ?_⟩)
        repeat (refine wXh ?_)
        refine ND_ret1 (by first | exact .inl rfl | exact .inr rfl) rfl rfl _ _ subF incF (⟨rfl, rfl, congrArg Value.bool (B_false (fun e => he (q_at e hi2))).symm⟩)
    · repeat (refine wXh ?_)
      refine ND_ret1 (by first | exact .inl rfl | exact .inr rfl) rfl rfl _ _ subF incF (⟨rfl, rfl, congrArg Value.bool (B_true (q_ext hlen (fun j hj => hs j (by omega)))).symm⟩)
  · refine enterD3 Tryz.func176 rfl Tryz.ntmps176 rfl ?_
    repeat (refine wXh ?_)
    refine ND_ret1 (by first | exact .inl rfl | exact .inr rfl) rfl rfl _ _ subF incF (⟨rfl, rfl, congrArg Value.bool (B_false (fun e => hlen (by have := congrArg List.length e; simpa using this))).symm⟩)
theorem sameList05_ok {x y : RL} {k m : Nat} (hk : k + m + 1 ≤ 100000000) (lx : x.es.length ≤ 1000) (ly : y.es.length ≤ 1000) (hx : isL x k ∈ I0) (hy : isL y m ∈ I0) :
    CD Tryz.prog 73 [lv x, lv y] X w0 M0 I0 (fun v M I => M0 = M ∧ I0 = I ∧ v = .bool (B (x.q = y.q))) := by
  refine enterD2 Tryz.func73 rfl Tryz.ntmps73 rfl ?_
  repeat (refine wXh ?_)
  (refine RD_callS rfl (msameList_ok (k := k) (m := m) hk lx ly memF memF) rfl rfl ?_; rintro _ _ _ ⟨rfl, rfl, rfl⟩; refine ⟨okF, ?_⟩)
  repeat (refine wXh ?_)
  refine ND_ret1 (by first | exact .inl rfl | exact .inr rfl) rfl rfl _ _ subF incF (⟨rfl, rfl, rfl⟩)
theorem same1_ok {x y : RL} {k m : Nat} (hk : k + m + 1 ≤ 100000000) (lx : x.es.length ≤ 1000) (ly : y.es.length ≤ 1000) (hx : Hv I0 (isL x k)) (hy : Hv I0 (isL y m)) :
    CD Tryz.prog 157 [lv x, lv y] X w0 M0 I0 (fun v M I => M0 = M ∧ I0 = I ∧ v = .bool (B (x.q = y.q))) := by
  refine CD_hvV hx (CD_hvV (φ := isL y m) (hy.cons) ?_)
  have := fun M0 I0 h1 h2 => sameList05_ok (X := X) (w0 := w0) (M0 := M0) (I0 := I0) (x := x) (y := y) (k := k) (m := m) hk lx ly h1 h2
  refine enterD2 Tryz.func157 rfl Tryz.ntmps157 rfl ?_
  repeat (refine wXh ?_)
  (refine RD_callS rfl (this _ _ memF memF) rfl rfl ?_; rintro _ _ _ ⟨rfl, rfl, rfl⟩; refine ⟨okF, ?_⟩)
  repeat (refine wXh ?_)
  refine ND_ret1 (by first | exact .inl rfl | exact .inr rfl) rfl rfl _ _ subF incF (⟨rfl, rfl, rfl⟩)
theorem mq_ext {a b : MX} (hl : a.rows.length = b.rows.length) (h : ∀ j : Nat, j < a.rows.length → (gt a.rows (j : Int)).q = (gt b.rows (j : Int)).q) : a.q = b.q := by
  apply List.ext_getElem
  · simp [hl]
  · intro j h1 h2
    have hj : j < a.rows.length := by simpa using h1
    have := h j hj
    rw [gt_lt hj, gt_lt (by omega)] at this
    simpa using this
theorem mq_row {a b : MX} (h : a.q = b.q) {j : Nat} (hj : j < a.rows.length) : (gt a.rows (j : Int)).q = (gt b.rows (j : Int)).q := by
  have hl : a.rows.length = b.rows.length := by have := congrArg List.length h; simpa using this
  rw [← rowAt_q hj, ← rowAt_q (by omega), h]
set_option maxRecDepth 100000 in
theorem same05_ok {a b : MX} {R C R' C' k m : Nat} (hk : k + m + 1 ≤ 100000000) (da : a.dim R C) (db : b.dim R' C') (hR : R ≤ 1000 ∧ C ≤ 1000 ∧ R' ≤ 1000 ∧ C' ≤ 1000) (ha : isX a k ∈ I0) (hb : isX b m ∈ I0) :
    CD Tryz.prog 59 [mv a, mv b] X w0 M0 I0 (fun v M I => M0 = M ∧ I0 = I ∧ v = .bool (B (a.q = b.q))) := by
  have la := da.1
  have lb := db.1
  have hE : CD Tryz.prog 156 [mv a, mv b, .func (.func 157) #[] #[]] X w0 M0 I0 (fun v M I => M0 = M ∧ I0 = I ∧ v = .bool (B (a.q = b.q))) := by
    refine CD_hv (φ := slI (a).p (recs eL (a).rows)) (Hv.xsl memF) ?_
    refine CD_hv (φ := slI (b).p (recs eL (b).rows)) (Hv.xsl memF) ?_
    by_cases hlen : a.rows.length = b.rows.length
    · refine enterD3 Tryz.func156 rfl Tryz.ntmps156 rfl ?_
      repeat (refine wXh ?_)
      refine TD_loop [1, 2, 15, 16] rfl (fun k G M I => ∃ i : Nat, i ≤ a.rows.length ∧ k = a.rows.length - i ∧ (∀ j : Nat, j < i → (gt a.rows (j : Int)).q = (gt b.rows (j : Int)).q) ∧ G = [(17, .int .i64 i)] ∧ M0 = M ∧ I = slI b.p (recs eL b.rows) :: slI a.p (recs eL a.rows) :: I0) (a.rows.length) _ _ _ subG subF incF (⟨0, by omega, rfl, fun j hj => by omega, rfl, rfl, rfl⟩) ?_
      rintro kk G M I ⟨i, hi, rfl, hs, rfl, rfl, rfl⟩
      by_cases hi2 : i < a.rows.length
      · have c1 := da.row (i := i) (by omega)
        have c2 := db.row (i := i) (by omega)
        have hS := fun M0 I0 h1 h2 => same1_ok (X := X) (w0 := w0) (M0 := M0) (I0 := I0) (x := gt a.rows (i : Int)) (y := gt b.rows (i : Int)) (k := k) (m := m) hk (by omega) (by omega) h1 h2
        by_cases he : (gt a.rows (i : Int)).q = (gt b.rows (i : Int)).q
        · rw [B_true he] at hS
          repeat (refine wXh ?_)
          (refine RD_callVS rfl rfl (hS _ _ (Hv.xrow memF (by omega)) (Hv.xrow memF (by omega))) rfl rfl rfl ?_; rintro _ _ _ ⟨rfl, rfl, rfl⟩; refine ⟨okF, ?_⟩)
          repeat (refine wXh ?_)
          refine ND_again (a.rows.length - (i + 1)) _ _ _ (by first | omega | (simp only [List.length_append, List.length_cons, List.length_nil]; omega)) subG subF incF (⟨i + 1, by omega, rfl, fun j hj => ?_, rfl, rfl, rfl⟩)
          by_cases e : j = i
          · subst e; exact he
          · exact hs j (by omega)
        · rw [B_false he] at hS
          repeat (refine wXh ?_)
          (refine RD_callVS rfl rfl (hS _ _ (Hv.xrow memF (by omega)) (Hv.xrow memF (by omega))) rfl rfl rfl ?_; rintro _ _ _ ⟨rfl, rfl, rfl⟩; refine ⟨okF, ?_⟩)
          repeat (refine wXh ?_)
          refine ND_ret1 (by first | exact .inl rfl | exact .inr rfl) rfl rfl _ _ subF incF (⟨rfl, rfl, congrArg Value.bool (B_false (fun e => he (mq_row e hi2))).symm⟩)
      · repeat (refine wXh ?_)
        refine ND_ret1 (by first | exact .inl rfl | exact .inr rfl) rfl rfl _ _ subF incF (⟨rfl, rfl, congrArg Value.bool (B_true (mq_ext hlen (fun j hj => hs j (by omega)))).symm⟩)
    · refine enterD3 Tryz.func156 rfl Tryz.ntmps156 rfl ?_
      repeat (refine wXh ?_)
      refine ND_ret1 (by first | exact .inl rfl | exact .inr rfl) rfl rfl _ _ subF incF (⟨rfl, rfl, congrArg Value.bool (B_false (fun e => hlen (by have := congrArg List.length e; simpa using this))).symm⟩)
  refine enterD2 Tryz.func59 rfl Tryz.ntmps59 rfl ?_
  repeat (refine wXh ?_)
  (refine RD_callS rfl (hE) rfl rfl ?_; rintro _ _ _ ⟨rfl, rfl, rfl⟩; refine ⟨okF, ?_⟩)
  repeat (refine wXh ?_)
  refine ND_ret1 (by first | exact .inl rfl | exact .inr rfl) rfl rfl _ _ subF incF (⟨rfl, rfl, rfl⟩)
end
end Go.Proofs.YtdmlebigkakplaaGreat
namespace Go.Proofs.YtdmlebigkakplaaGreat
open Go Go.Fx
structure AllIL (rows : List IL) (X : List Nat) (w : World) : Prop where
  go : ∀ r ∈ rows, Sl X w r.p (recs (eI .i64) r.xs)
abbrev allIL (rows : List IL) : Imm := AllIL rows
instance (rows : List IL) : Fx.Good (AllIL rows) := ⟨fun X Y w w' h he hY => ⟨fun r hm => Sl.carry (h.go r hm) he hY⟩⟩
theorem Hv.ilrow {I : List Imm} {rows : List IL} {i : Int} (h : allIL rows ∈ I) (hi : 0 ≤ i ∧ i < rows.length) : Hv I (slI (gt rows i).p (recs (eI .i64) (gt rows i).xs)) := ⟨fun X w hw => ⟨(hw _ h : AllIL rows X w).go _ (gt_mem hi)⟩⟩
abbrev bxI (b : Nat) (q : Option Addr) (n c : Nat) : Imm := slI (some ⟨b, 0, none⟩) [.slice q n c]
section
variable {X : List Nat} {w0 : World} {M0 : List Ent} {I0 : List Imm}
set_option maxRecDepth 100000 in
theorem Of1_ok {rows : List IL} {q : Option Addr} {c b : Nat} {r : IL} (hR : 1 ≤ rows.length) (hq : slI q (recs eIL rows) ∈ I0) (hb : bxI b q rows.length c ∈ I0) :
    CD Tryz.prog 215 [ivL r, pb b] X w0 M0 I0 (fun v M I => M0 = M ∧ I0 = I ∧ v = .bool (B (¬ (r.xs.length = (gt rows 0).xs.length)))) := by
  by_cases he : r.xs.length = (gt rows 0).xs.length
  · rw [B_false (fun h => h he)]
    refine enterD2 Tryz.func215 rfl Tryz.ntmps215 rfl ?_
    repeat (refine wXh ?_)
    refine ND_ret1 (by first | exact .inl rfl | exact .inr rfl) rfl rfl _ _ subF incF (⟨rfl, rfl, congrArg Value.bool (B_false (fun h => h (by omega)))⟩)
  · rw [B_true (p := ¬ (r.xs.length = (gt rows 0).xs.length)) he]
    refine enterD2 Tryz.func215 rfl Tryz.ntmps215 rfl ?_
    repeat (refine wXh ?_)
    refine ND_ret1 (by first | exact .inl rfl | exact .inr rfl) rfl rfl _ _ subF incF (⟨rfl, rfl, congrArg Value.bool (B_true (p := (r.xs.length : Int) ≠ ((gt rows 0).xs.length : Int)) (fun h => he (by omega)))⟩)
set_option maxRecDepth 100000 in
theorem Of2_ok {rows : List IL} {q : Option Addr} {c b i j k0 : Nat} (hi : i < rows.length) (hj : j < (gt rows (i : Int)).xs.length) (hx : (gt (gt rows (i : Int)).xs (j : Int)).natAbs ≤ 2 ^ k0 ∧ -9223372036854775808 ≤ gt (gt rows (i : Int)).xs (j : Int) ∧ gt (gt rows (i : Int)).xs (j : Int) ≤ 9223372036854775807) (hq : slI q (recs eIL rows) ∈ I0) (hw : allIL rows ∈ I0) (hb : bxI b q rows.length c ∈ I0) :
    CD Tryz.prog 216 [.int .i64 (i : Int), .int .i64 (j : Int), pb b] X w0 M0 I0 (RQ ((gt (gt rows (i : Int)).xs (j : Int) : Int) : Rat) k0 M0 I0) := by
  refine CD_hv (φ := slI (gt rows (i : Int)).p (recs (eI .i64) (gt rows (i : Int)).xs)) (Hv.ilrow hw (by omega)) ?_
  refine enterD3 Tryz.func216 rfl Tryz.ntmps216 rfl ?_
  refine TD_seq ?_
  refine TD_region ?_
  (refine RD_alloc rfl rfl ?_; intro br; refine ⟨okF, ?_⟩)
  repeat (refine wXh ?_)
  (refine RD_callS rfl (Whole_ok (x := gt (gt rows (i : Int)).xs (j : Int)) hx.2 (k := k0) hx.1) rfl rfl ?_; rintro _ _ _ ⟨rfl, e, rfl, he, rfl⟩; refine ⟨okF, ?_⟩)
  repeat (refine wXh ?_)
  refine ND_retC (cs := eR e) (.inl rfl) rfl rfl memF rfl M0 (isR e k0 :: I0) subF incF ⟨rfl, e, rfl, he, rfl⟩
set_option maxRecDepth 100000 in
theorem XOf_ok {rows : List IL} {R C k0 : Nat} {q : Option Addr} {c : Nat} (hl : rows.length = R) (hc : ∀ r ∈ rows, r.xs.length = C) (hR : 1 ≤ R ∧ R ≤ 64) (hC : 1 ≤ C ∧ C ≤ 64)
    (hx : ∀ r ∈ rows, ∀ x ∈ r.xs, x.natAbs ≤ 2 ^ k0 ∧ -9223372036854775808 ≤ x ∧ x ≤ 9223372036854775807) (hq : slI q (recs eIL rows) ∈ I0) (hw : allIL rows ∈ I0) :
    CD Tryz.prog 136 [.slice q rows.length c] X w0 M0 I0 (XQc (mkM R C (fun i j => ((gt (gt rows (i : Int)).xs (j : Int) : Int) : Rat))) R C k0 M0 I0) := by
  have hcg : ∀ i : Nat, i < R → (gt rows (i : Int)).xs.length = C := fun i hi => hc _ (gt_mem (by omega))
  have hc0 : (gt rows 0).xs.length = C := hcg 0 (by omega)
  have hno : ¬ ∃ x ∈ rows, ¬ (x.xs.length = (gt rows 0).xs.length) := fun ⟨x, hx, hn⟩ => hn (by rw [hc x hx, hc0])
  refine enterD1 Tryz.func136 rfl Tryz.ntmps136 rfl ?_
  refine TD_seq ?_
  refine TD_region ?_
  (refine RD_boxL rfl rfl rfl ?_; intro p1; refine ⟨okF, ?_⟩)
  repeat (refine wXh ?_)
  (refine RD_callS rfl (hasIL_ok (g := 215) (fs := #[]) (cs := #[pb p1]) (fun (r : IL) => ¬ (r.xs.length = (gt rows 0).xs.length)) (by omega) memF (fun i hi => Of1_ok (q := q) (c := c) (b := p1) (by omega) memF memF)) rfl rfl ?_; rintro _ _ _ ⟨rfl, rfl, rfl⟩; refine ⟨okF, ?_⟩)
  rw [B_false hno]
  repeat (refine wXh ?_)
  (repeat refine TD_seq ?_); refine TD_drawn [0, 1, 2, 3, 4, 5, 6, 7, 8, 9] [1, 0, 1, 1, 1, 0, 0, 0, 0, 0] mixed (by kernel_rfl) ?_
  repeat (refine wXh ?_)
  have hg := fun M I (hI : ∀ φ ∈ slI (some ⟨p1, 0, none⟩) [.slice q rows.length c] :: I0, φ ∈ I) (i j : Nat) (hi : i < rows.length) (hj : j < (gt rows 0).xs.length) => Of2_ok (X := X) (w0 := w0) (M0 := M) (I0 := I) (rows := rows) (q := q) (c := c) (b := p1) (i := i) (j := j) (k0 := k0) hi (by rw [hcg i (by omega)]; omega) (hx _ (gt_mem (by omega)) _ (gt_mem (by rw [hcg i (by omega)]; omega))) (hI _ memF) (hI _ memF) (hI _ memF)
  (refine RD_callS rfl (xmade_ok (R := rows.length) (C := (gt rows 0).xs.length) (g := 216) (fs := #[]) (cs := #[pb p1]) (k0 := k0) (by omega) (by omega) (fun i j => ((gt (gt rows (i : Int)).xs (j : Int) : Int) : Rat)) hg) rfl rfl ?_; rintro _ _ _ ⟨rfl, x, rfl, hx2, hd, rfl⟩; refine ⟨okF, ?_⟩)
  rw [hl, hc0] at hx2 hd
  repeat (refine wXh ?_)
  refine ND_rets [2, 3] (by first | exact .inl rfl | exact .inr rfl) rfl rfl rfl _ _ subF incF (⟨rfl, x, rfl, hx2, hd, rfl⟩)
end
end Go.Proofs.YtdmlebigkakplaaGreat

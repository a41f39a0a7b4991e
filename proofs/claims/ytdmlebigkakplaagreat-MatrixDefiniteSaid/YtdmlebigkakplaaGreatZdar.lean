/- matrix.Definite. The row's step of a law: a call that turns nothing that was there. Arguments, opened: integers, slices of integers. The lift of a law's walk to its row. -/
import Derived.Test.YtdmlebigkakplaaGreatZdak
import Derived.Test.YtdmlebigkakplaaGreatZdaq
import Derived.Test.YtdmlebigkakplaaGreatZdae
import Derived.Test.YtdmlebigkakplaaGreatZmac
import Derived.ChangeSame
import Derived.Carry
import Derived.WalkKit
import Derived.ProofKit
import Derived.OpenShut
import Derived.Test.YtdmlebigkakplaaGreatZdaa
set_option linter.unusedSimpArgs false
set_option linter.unusedVariables false
namespace Go.Proofs.YtdmlebigkakplaaGreat
open Go Go.Fx
/-- heights of the list against -/
def wH : Nat → Nat
  | 0 => 0
  | d + 1 => (d + 1) * (7766 + wH d)
theorem wH_mono {d e : Nat} (h : d ≤ e) : wH d ≤ wH e := by
  induction e with
  | zero => obtain rfl : d = 0 := by omega
            exact Nat.le_refl _
  | succ e ih =>
    by_cases he : d = e + 1
    · subst he; exact Nat.le_refl _
    · refine Nat.le_trans (ih (by omega)) ?_
      show wH e ≤ (e + 1) * (7766 + wH e)
      exact Nat.le_trans (by omega) (Nat.le_mul_of_pos_left _ (by omega))
theorem wH4 {d : Nat} (h : d ≤ 4) : wH d ≤ 497024 := Nat.le_trans (wH_mono h) (by decide)
theorem kb4 {d : Nat} (h : d ≤ 4) : kb 30 d ≤ 7765 := Nat.le_trans (kb_mono 30 h) (by decide)
theorem kbF {d : Nat} (h : d ≤ 5) : kb 30 d ≤ 20000000 := Nat.le_trans (kb_mono 30 h) (by decide)
theorem sm_tail {g : Nat → Rat} {p n : Nat} (h : p ≤ n) (hz : ∀ a, p ≤ a → a < n → g a = 0) : sm n g = sm p g := by
  obtain ⟨d, rfl⟩ : ∃ d, n = p + d := ⟨n - p, by omega⟩
  have h0 : sm d (fun k => g (p + k)) = 0 := sm_zero (fun a ha => hz _ (by omega) (by omega))
  rw [sm_split, h0]; grind
/-- what the list against says, plain -/
structure Wit (f : Nat → Nat → Rat) (v : Nat → Rat) (n kd : Nat) : Prop where
  lt : kd < n
  pos : ∀ t, t < kd → 0 < rsF f t t t
  neg : ¬ 0 < rsF f kd kd kd
  one : v kd = 1
  zer : ∀ t, kd < t → t < n → v t = 0
  sum : ∀ t, t < kd → v t = - sm (kd - t) (fun a => rsF f t (a + t + 1) t / rsF f t t t * v (a + t + 1))
theorem bk00 {f : Nat → Nat → Rat} {t : Nat} : bk f t 0 0 = rsF f t t t := by unfold bk; rw [Nat.zero_add]
theorem Wit.yk {f : Nat → Nat → Rat} {v : Nat → Rat} {n kd : Nat} (h : Wit f v n kd) {t : Nat} (ht : t < kd) : yk f v n t = 0 := by
  have hl := h.lt
  unfold Go.Proofs.YtdmlebigkakplaaGreat.yk
  rw [sm_tail (p := kd - t) (by omega) (fun a h1 h2 => by rw [h.zer _ (by omega) (by omega)]; grind), h.sum t ht]
  have : sm (kd - t) (fun a => bk f t (a + 1) 0 / bk f t 0 0 * v (a + (t + 1))) = sm (kd - t) (fun a => rsF f t (a + t + 1) t / rsF f t t t * v (a + t + 1)) := sm_congr (fun a ha => by
    rw [bk00]
    unfold bk
    rw [Nat.zero_add, show a + 1 + t = a + t + 1 by omega, show a + (t + 1) = a + t + 1 by omega])
  rw [this]; grind
theorem Wit.not_pos {f : Nat → Nat → Rat} {v : Nat → Rat} {n kd : Nat} (h : Wit f v n kd) : ¬ posD f n := fun hp => by
  have := (lead_iff (f := f) (n := n)).1 hp kd h.lt
  rw [bk00] at this
  exact h.neg this
theorem Wit.form {A : Mt} {l : List Rat} {n kd : Nat} (hs : symM A n) (h : Wit (at2 A) (fun t => l.getD t 0) n kd) : qfr A l n ≤ 0 := by
  have hsy : ∀ i j, i < n → j < n → at2 A i j = at2 A j i := fun i j hi hj => by
    rcases Nat.lt_trichotomy i j with e | e | e
    · exact (hs j hj i e).symm
    · rw [e]
    · exact hs i hi j e
  have e := qf_wit (f := at2 A) (v := fun t => l.getD t 0) hsy h.lt (fun t ht => by rw [bk00]; exact h.pos t ht) (fun t ht => h.yk ht) h.one (fun i h1 h2 => h.zer i h1 h2)
  rw [qf_form, bk00] at e
  unfold qfr
  rw [e]
  exact Rat.not_lt.1 h.neg
theorem Wit.nz {l : List Rat} {f : Nat → Nat → Rat} {n kd : Nat} (h : Wit f (fun t => l.getD t 0) n kd) : ¬ zeroL l := fun hz => by
  have h1 : l.getD kd 0 = 1 := h.one
  by_cases hk : kd < l.length
  · rw [List.getD, List.getElem?_eq_getElem hk, Option.getD_some, hz _ (List.getElem_mem hk)] at h1
    exact absurd h1 (by decide)
  · rw [List.getD, List.getElem?_eq_none (by omega), Option.getD_none] at h1
    exact absurd h1 (by decide)
/-- positive pivots: nothing is against -/
theorem pos_noWit {A : Mt} {l : List Rat} {n : Nat} (hs : symM A n) (hl : l.length = n) (hp : ∀ t, t < n → 0 < rsF (at2 A) t t t) : ¬ witD A l n := fun hw => by
  have hsy : ∀ i j, i < n → j < n → at2 A i j = at2 A j i := fun i j hi hj => by
    rcases Nat.lt_trichotomy i j with e | e | e
    · exact (hs j hj i e).symm
    · rw [e]
    · exact hs i hi j e
  obtain ⟨h1, h2⟩ := qf_pos (f := at2 A) (v := fun t => l.getD t 0) hsy (fun t ht => by rw [bk00]; exact hp t ht) (d := n) (k := 0) (by omega)
  have e : qf (at2 A) (fun t => l.getD t 0) n 0 = qfr A l n := qf_form
  rw [e] at h1 h2
  have h3 := h2 (by have := hw.2; grind)
  refine hw.1 (fun x hx => ?_)
  obtain ⟨j, hj, rfl⟩ := List.mem_iff_getElem.1 hx
  have := h3 j (by omega) (by omega)
  rw [List.getD, List.getElem?_eq_getElem hj, Option.getD_some] at this
  exact this
section
variable {X : List Nat} {w0 : World} {M0 : List Ent} {I0 : List Imm}
set_option maxRecDepth 100000 in
theorem Definite_bad {a : WM} (sa : a.sml) (hc : sqC a ≠ 0) (ha : isWM a ∈ I0) : CD Tryz.prog 75 [mvW a] X w0 M0 I0 (fun v M I => M0 = M ∧ I0 = I ∧ v = .tuple #[.bool false, .slice none 0 0, .int .i64 (sqC a)]) := by
  have hS := fun M0 I0 h1 => symmetric_bad (X := X) (w0 := w0) (M0 := M0) (I0 := I0) (a := a) sa hc h1
  generalize sqC a = cc at *
  refine enterD1 Tryz.func75 rfl Tryz.ntmps75 rfl ?_
  repeat (refine wXh ?_)
  (refine RD_callS rfl (hS _ _ memF) rfl rfl ?_; rintro _ _ _ ⟨rfl, rfl, rfl⟩; refine ⟨okF, ?_⟩)
  repeat (refine wXh ?_)
  refine ND_rets [2, 3, 4] (by first | exact .inl rfl | exact .inr rfl) rfl rfl rfl _ _ subF incF (⟨rfl, rfl, rfl⟩)
set_option maxRecDepth 100000 in
theorem Definite_asym {a : MX} {n k : Nat} (hk : k ≤ 20000000) (da : a.fit n n) (hs : ¬ symM a.q n) (ha : isX a k ∈ I0) : CD Tryz.prog 75 [mv a] X w0 M0 I0 (fun v M I => M0 = M ∧ I0 = I ∧ v = .tuple #[.bool false, .slice none 0 0, .int .i64 11]) := by
  have hS := fun M0 I0 h1 => symmetric_ok (X := X) (w0 := w0) (M0 := M0) (I0 := I0) (a := a) (n := n) (k := k) hk da h1
  unfold symC at hS
  rw [if_neg hs] at hS
  refine enterD1 Tryz.func75 rfl Tryz.ntmps75 rfl ?_
  repeat (refine wXh ?_)
  (refine RD_callS rfl (hS _ _ memF) rfl rfl ?_; rintro _ _ _ ⟨rfl, rfl, rfl⟩; refine ⟨okF, ?_⟩)
  repeat (refine wXh ?_)
  refine ND_rets [2, 3, 4] (by first | exact .inl rfl | exact .inr rfl) rfl rfl rfl _ _ subF incF (⟨rfl, rfl, rfl⟩)
def DefP (A : Mt) (n : Nat) (M0 : List Ent) (I0 : List Imm) (v : Value) (M : List Ent) (I : List Imm) : Prop :=
  M0 = M ∧ ((v = .tuple #[.bool true, .slice none 0 0, .int .i64 0] ∧ I0 = I ∧ ∀ t, t < n → 0 < rsF (at2 A) t t t) ∨
    ∃ (x : RL) (kd : Nat), v = .tuple #[.bool false, lv x, .int .i64 0] ∧ x.es.length = n ∧ Wit (at2 A) (fun t => x.q.getD t 0) n kd ∧ I = isL x 500000 :: I0)
set_option maxRecDepth 100000 in
set_option maxHeartbeats 4000000 in
theorem Definite_ok {a : MX} {n : Nat} (hn5 : n ≤ 5) (da : a.fit n n) (hs : symM a.q n) (ha : isX a 30 ∈ I0) : CD Tryz.prog 75 [mv a] X w0 M0 I0 (DefP a.q n M0 I0) := by
  obtain ⟨n1, n2⟩ := da.2.1
  have lR := da.1.1
  have hS := fun M0 I0 h1 => symmetric_ok (X := X) (w0 := w0) (M0 := M0) (I0 := I0) (a := a) (n := n) (k := 30) (by omega) da h1
  unfold symC at hS
  rw [if_pos hs] at hS
  have hE := fun M0 I0 h1 => eliminateX_ok (X := X) (w0 := w0) (M0 := M0) (I0 := I0) (a := a) (n := n) (k0 := 30) (kbF hn5) (by decide) da h1
  refine enterD1 Tryz.func75 rfl Tryz.ntmps75 rfl ?_
  repeat (refine wXh ?_)
  (refine RD_callS rfl (hS _ _ memF) rfl rfl ?_; rintro _ _ _ ⟨rfl, rfl, rfl⟩; refine ⟨okF, ?_⟩)
  repeat (refine wXh ?_)
  (refine RD_callS rfl (hE _ _ memF) rfl rfl ?_; rintro _ _ _ ⟨rfl, L, kd, q, c, s, rfl, dL, hkd, hp, hng, hlv, rfl⟩; refine ⟨okF, ?_⟩)
  clear hS hE
  by_cases hkn : kd = n
  · subst hkn
    repeat (refine wXh ?_)
    refine ND_rets [2, 3, 4] (by first | exact .inl rfl | exact .inr rfl) rfl rfl rfl _ _ subF incF (⟨rfl, .inl ⟨rfl, rfl, hp⟩⟩)
  · have hkd4 : kd ≤ 4 := by omega
    have hlt : kd < n := by omega
    have lL := dL.1
    refine RD_hv (φ := isX L 7765) (Hv.xm memF (kb4 hkd4)) ?_
    repeat (refine wXh ?_)
    (refine RD_makeX (n) rfl rfl (by omega) (by omega) (by omega) (by omega) (made_recs (enc := e4) (by decide) z4 n) rfl rfl ?_; intro bv; refine ⟨okF, ?_⟩)
    refine RD_hv (φ := allR [] 0) Hv.nilR ?_
    repeat (refine wXh ?_)
    refine TD_loop [6, 9, 10, 36] rfl (fun k G M I => ∃ (i : Nat) (es : List RE), i ≤ n ∧ k = n - i ∧ es.length = i ∧ qs es = (List.range i).map (fun t => if t = kd then (1 : Rat) else 0) ∧ G = [(37, .int .i64 i)] ∧ M = .blk bv (recs e4 (es.map t4 ++ List.replicate (n - i) z4)) 26 :: M0 ∧ I = allR es 0 :: isX L 7765 :: I0) (n) _ _ _ subG subF incF (⟨0, [], by omega, rfl, rfl, rfl, rfl, rfl, rfl⟩) ?_
    rintro kk G M I ⟨i, es, hi, rfl, hel, heq, rfl, rfl, rfl⟩
    by_cases hin : i < n
    · have hz2 := rep_split (n := n - i) (z := z4) (by omega)
      rw [hz2]
      have hl2 : ((es.map t4 ++ z4 :: List.replicate (n - i - 1) z4).length : Int) = n := by simp; omega
      repeat (refine wXh ?_)
      (refine RD_callS rfl (unit_ok) rfl rfl ?_; rintro _ _ _ ⟨rfl, e, rfl, he, rfl⟩; refine ⟨okF, ?_⟩)
      repeat' (first | refine TD_seq ?_ | refine TD_region ?_ | refine TD_ret ?_ | refine TD_skip ?_ | refine TD_label ?_ | refine TD_block ?_ | refine TD_exit ?_ | refine ND_then ?_ | refine ND_thenR ?_ | refine ND_thenE ?_ | refine ND_inN ?_ | refine ND_inR ?_ | refine ND_inE ?_ | refine ND_inO rfl ?_ | refine RD_nil ?_ | (refine RD_isGu ?_; first | refine RD_skip rfl rfl rfl ?_ | (refine RD_isEf rfl rfl ?_; refine RD_skipE rfl rfl rfl okF ?_) | refine RD_grdY rfl rfl (by omega) ?_ | refine RD_grdN rfl rfl (by omega) ?_ | refine RD_grd rfl rfl (fun h => ?_) (fun h => ?_) | (fail_if_success (refine RD_isW rfl ?_); refine RD_grdB rfl rfl (fun h => ?_) (fun h => ?_))) | (refine RD_isUn ?_; refine RD_c rfl (fun _ => Const_notB rfl) rfl rfl ?_) | refine RD_c rfl (fun _ => Const_pure rfl) rfl rfl ?_ | (refine RD_isBi ?_; first | refine RD_c rfl (fun _ => Const_add rfl rfl wF) rfl rfl ?_ | refine RD_c rfl (fun _ => Const_sub rfl rfl wF) rfl rfl ?_ | refine RD_c rfl (fun _ => Const_mul rfl rfl wF) rfl rfl ?_ | refine RD_c rfl (fun _ => Const_quo rfl rfl (by omega) qF) rfl rfl ?_ | refine RD_c rfl (fun _ => Const_rem rfl rfl (by omega) rfl) rfl rfl ?_ | refine RD_c rfl (fun _ => Const_half rfl rfl) rfl rfl ?_ | refine RD_c rfl (fun _ => Const_eqBB rfl rfl) rfl rfl ?_ | refine RD_c rfl (fun _ => Const_neBB rfl rfl) rfl rfl ?_ | refine RD_c rfl (fun _ => Const_eqB rfl rfl) rfl rfl ?_ | refine RD_c rfl (fun _ => Const_neB rfl rfl) rfl rfl ?_) | (refine RD_isUn ?_; first | refine RD_c rfl (fun _ => Const_neg rfl wF) rfl rfl ?_) | (refine RD_isCv ?_; first | refine RD_c rfl (fun _ => Const_conv rfl wF) rfl rfl ?_) | (refine RD_isCa ?_; first | refine RD_c rfl (fun _ => Const_len rfl) rfl rfl ?_ | refine RD_c rfl (fun _ => Const_minM rfl rfl) rfl rfl ?_ | refine RD_c rfl (fun _ => Const_maxM rfl rfl) rfl rfl ?_ | refine RD_c rfl (fun _ => Const_min3 rfl rfl rfl) rfl rfl ?_) | (refine RD_isFa ?_; first | refine RD_fldP rfl (by decide) rfl rfl ?_ | refine RD_fld rfl (by decide) rfl rfl ?_) | (refine RD_isIx ?_; first | refine RD_ixB rfl rfl bdI rfl rfl ?_ | refine RD_ixI vwF rfl rfl bdI memF posC rfl rfl ?_ | refine RD_ixR vwF rfl rfl bdI memF posC rfl rfl ?_ | refine RD_c rfl (fun _ => Const_indexA rfl rfl bdI) rfl rfl ?_) | (refine RD_isLd ?_; first | (apply RD_ldZB; exact vwF; exact rfl; (focus ((repeat (first | with_reducible exact List.mem_cons_self | with_reducible assumption | with_reducible refine List.mem_cons_of_mem _ ?_)); done)); exact atY; exact rfl; exact rfl) | (apply RD_ldZIB; exact vwF; exact rfl; (focus ((repeat (first | with_reducible exact List.mem_cons_self | with_reducible assumption | with_reducible refine List.mem_cons_of_mem _ ?_)); done)); exact atY; exact rfl; exact rfl) | (apply RD_ldZI; exact vwF; exact rfl; (focus ((repeat (first | with_reducible exact List.mem_cons_self | with_reducible assumption | with_reducible refine List.mem_cons_of_mem _ ?_)); done)); exact atY; exact rfl; exact rfl) | (apply RD_ldZR; exact vwF; exact rfl; (focus ((repeat (first | with_reducible exact List.mem_cons_self | with_reducible assumption | with_reducible refine List.mem_cons_of_mem _ ?_)); done)); exact atY; exact rfl; exact rfl) | (apply RD_ldB; exact vwF; exact rfl; (focus ((repeat (first | with_reducible exact List.mem_cons_self | with_reducible assumption | with_reducible refine List.mem_cons_of_mem _ ?_)); done)); exact atF; exact rfl; exact rfl) | (apply RD_ldIB; exact vwF; exact rfl; (focus ((repeat (first | with_reducible exact List.mem_cons_self | with_reducible assumption | with_reducible refine List.mem_cons_of_mem _ ?_)); done)); exact atF; exact rfl; exact rfl) | (apply RD_ldI; exact vwF; exact rfl; (focus ((repeat (first | with_reducible exact List.mem_cons_self | with_reducible assumption | with_reducible refine List.mem_cons_of_mem _ ?_)); done)); exact atF; exact rfl; exact rfl) | (apply RD_ldR; exact vwF; exact rfl; (focus ((repeat (first | with_reducible exact List.mem_cons_self | with_reducible assumption | with_reducible refine List.mem_cons_of_mem _ ?_)); done)); exact atF; exact rfl; exact rfl)) | (refine RD_isFd ?_; first | refine RD_c rfl (fun _ => Const_field1 rfl rfl) rfl rfl ?_ | refine RD_c rfl (fun _ => Const_fieldN rfl) rfl rfl ?_) | (refine TD_isCo ?_; first | refine TD_cond_true rfl ?_ | refine TD_cond_false rfl ?_ | refine TD_yes rfl (by omega) ?_ | refine TD_no rfl (by omega) ?_ | refine TD_dec rfl (fun h => ?_) (fun h => ?_) | refine TD_cond rfl (fun h => ?_) (fun h => ?_)))
      refine RD_stN (vs := eR e) rfl rfl rfl (Ones.one e) repF (StAts.r (t4 e) (by omega) rfl) rfl rfl ⟨okF, ?_⟩
      rw [st_mid (by simp; omega)]
      repeat (refine wXh ?_)
      refine ND_hv (φ := allR (es ++ [e]) 0) (Hv.snoc memF memF) ?_
      have e9 : es.map t4 ++ t4 e :: List.replicate (n - i - 1) z4 = (es ++ [e]).map t4 ++ List.replicate (n - (i + 1)) z4 := by simp [Nat.sub_sub]
      rw [e9]
      refine ND_again (n - (i + 1)) _ _ _ (by first | omega | (simp only [List.length_append, List.length_cons, List.length_nil]; omega)) subG subF incF (⟨i + 1, es ++ [e], by omega, rfl, by simp; omega, ?_, rfl, rfl, rfl⟩)
      show (es ++ [e]).map RE.q = _
      rw [List.map_append, List.range_succ, List.map_append, ← heq]
      show qs es ++ [e.q] = qs es ++ [if i = kd then (1 : Rat) else 0]
      rw [he]
      by_cases hik : i = kd
      · rw [if_pos hik, if_pos (by omega)]
      · rw [if_neg hik, if_neg (by omega)]
    · obtain rfl : i = n := by omega
      rw [Nat.sub_self, List.replicate_zero, List.append_nil, recs_t4]
      have hev : ∀ t : Nat, t < i → (gt es (t : Int)).q = if t = kd then (1 : Rat) else 0 := fun t ht => by
        rw [← qs_getD (by omega), heq]; simp [List.getD, ht]
      clear heq
      repeat (refine wXh ?_)
      refine TD_hv (φ := allR es (wH 0)) (Hv.allMono (k := 0) memF (Nat.zero_le _)) ?_
      refine TD_loop [6, 9, 10] rfl (fun k G M I => ∃ (d : Nat) (z : Int) (es : List RE), d ≤ kd ∧ k = kd - d ∧ z = (kd : Int) - 1 - d ∧ es.length = i ∧ (gt es (kd : Int)).q = 1 ∧ (∀ t : Nat, kd < t → t < i → (gt es (t : Int)).q = 0) ∧ (∀ t : Nat, kd - d ≤ t → t < kd → (gt es (t : Int)).q = - sm (kd - t) (fun a => at2 L.q (a + t + 1) t * (gt es ((a + t + 1 : Nat) : Int)).q)) ∧ G = [(12, .int .i64 z)] ∧ M = .blk bv (recs eR es) 26 :: M0 ∧ I = allR es (wH d) :: isX L 7765 :: I0) (kd) _ _ _ subG subF incF (⟨0, (kd : Int) - 1, es, by omega, rfl, by omega, hel, by rw [hev kd hlt, if_pos rfl], fun t h1 h2 => by rw [hev t h2, if_neg (by omega)], fun t h1 h2 => by omega, rfl, rfl, rfl⟩) ?_
      clear hev hel
      rintro kk G M I ⟨d, z, es, hd, rfl, hz, hel, hone, hzer, hsum, rfl, rfl, rfl⟩
      by_cases hdk : d < kd
      · obtain ⟨x, hx⟩ : ∃ x : Nat, x = kd - 1 - d := ⟨_, rfl⟩
        obtain rfl : z = (x : Int) := by omega
        have hW := fun M0 I0 => Whole_ok (X := X) (w0 := w0) (M0 := M0) (I0 := I0) (x := 0) (by decide) (k := 0) (by decide)
        have hwd := wH4 (d := d) (by omega)
        have hwd1 : wH (d + 1) = (d + 1) * (7766 + wH d) := rfl
        have hwd2 := wH4 (d := d + 1) (by omega)
        have hwd3 := wH_mono (d := d) (e := d + 1) (by omega)
        obtain ⟨wd, hwde⟩ : ∃ wd, wH d = wd := ⟨_, rfl⟩
        rw [hwde] at hwd hwd1 hwd3 ⊢
        repeat (refine wXh ?_)
        (refine RD_callS rfl (hW _ _) rfl rfl ?_; rintro _ _ _ ⟨rfl, e0, rfl, he0, rfl⟩; refine ⟨okF, ?_⟩)
        repeat (refine wXh ?_)
        (refine RD_alloc rfl rfl ?_; intro b13; refine ⟨okF, ?_⟩)
        repeat (refine wXh ?_)
        refine TD_loop [6, 9, 10, 12, 13] rfl (fun k G M I => ∃ (j t : Nat) (s : RE), j = x + 1 + t ∧ j ≤ kd + 1 ∧ k = kd + 1 - j ∧ s.q = sm t (fun a => at2 L.q (a + x + 1) x * (gt es ((a + x + 1 : Nat) : Int)).q) ∧ G = [(14, .int .i64 j)] ∧ M = .blk b13 (eR s) 26 :: .blk bv (recs eR es) 26 :: M0 ∧ I = isR s (t * (7766 + wd)) :: allR es wd :: isX L 7765 :: I0) (kd + 1 - (x + 1)) _ _ _ subG subF incF (⟨x + 1, 0, e0, rfl, by omega, rfl, he0, rfl, rfl, by rw [Nat.zero_mul]⟩) ?_
        clear hW
        rintro kk G M I ⟨j, t, s, hj, hjk, rfl, hsq, rfl, rfl, rfl⟩
        by_cases hjn : j ≤ kd
        · have htd : t < d + 1 := by omega
          have hm1 : (t + 1) * (7766 + wd) ≤ 497024 := Nat.le_trans (Nat.mul_le_mul_right _ htd) (by omega)
          have hm2 : (t + 1) * (7766 + wd) = t * (7766 + wd) + (7765 + wd) + 1 := by rw [Nat.succ_mul]; omega
          have hrj := dL.row (show j < i by omega)
          have hat := at2_q (m := L) (i := j) (j := x) (by omega) (by omega)
          generalize t * (7766 + wd) = u at *
          refine TD_hv (φ := slI (L).p (recs eL (L).rows)) (Hv.xsl memF) ?_
          refine TD_hv (φ := slI (gt (L).rows (j : Int)).p (recs eR (gt (L).rows (j : Int)).es)) (Hv.xrsl memF (by omega)) ?_
          repeat (refine wXh ?_)
          (repeat refine TD_seq ?_); refine TD_drawnJ 2 [0, 1, 2, 3, 4, 5, 6, 7, 8, 9, 10, 11, 12, 13, 14] [1, 2, 2, 2, 2, 2, 2, 1, 2, 2, 2, 1, 0, 0, 0] mixed (by kernel_rfl) ?_
          repeat (refine wXh ?_)
          (refine RD_callS rfl (QMul_ok (k := 7765) (m := wd) (by omega) (Hv.xel memF (by omega) (by omega)) (Hv.all (k := wd) memF (by omega) (Nat.le_refl _))) rfl rfl ?_; rintro _ _ _ ⟨rfl, e2, rfl, he2, rfl⟩; refine ⟨okF, ?_⟩)
          (refine RD_callS rfl (QAdd_ok (k := u) (m := 7765 + wd) (by omega) (Hv.mem memF) (Hv.mem memF)) rfl rfl ?_; rintro _ _ _ ⟨rfl, e3, rfl, he3, rfl⟩; refine ⟨okF, ?_⟩)
          repeat (refine wXh ?_)
          rw [← hm2]
          refine ND_again (kd + 1 - (j + 1)) _ _ _ (by first | omega | (simp only [List.length_append, List.length_cons, List.length_nil]; omega)) subG subF incF (⟨j + 1, t + 1, e3, by omega, by omega, rfl, ?_, rfl, rfl, rfl⟩)
          simp only [sm]
          rw [he3, he2, hsq, ← hat, show t + x + 1 = j by omega]
        · obtain rfl : j = kd + 1 := by omega
          obtain rfl : t = d + 1 := by omega
          rw [← hwd1]
          repeat (refine wXh ?_)
          (refine RD_callS rfl (QNeg_ok (k := wH (d + 1)) (by omega) (Hv.mem memF)) rfl rfl ?_; rintro _ _ _ ⟨rfl, e2, rfl, he2, rfl⟩; refine ⟨okF, ?_⟩)
          repeat' (first | refine TD_seq ?_ | refine TD_region ?_ | refine TD_ret ?_ | refine TD_skip ?_ | refine TD_label ?_ | refine TD_block ?_ | refine TD_exit ?_ | refine ND_then ?_ | refine ND_thenR ?_ | refine ND_thenE ?_ | refine ND_inN ?_ | refine ND_inR ?_ | refine ND_inE ?_ | refine ND_inO rfl ?_ | refine RD_nil ?_ | (refine RD_isGu ?_; first | refine RD_skip rfl rfl rfl ?_ | (refine RD_isEf rfl rfl ?_; refine RD_skipE rfl rfl rfl okF ?_) | refine RD_grdY rfl rfl (by omega) ?_ | refine RD_grdN rfl rfl (by omega) ?_ | refine RD_grd rfl rfl (fun h => ?_) (fun h => ?_) | (fail_if_success (refine RD_isW rfl ?_); refine RD_grdB rfl rfl (fun h => ?_) (fun h => ?_))) | (refine RD_isUn ?_; refine RD_c rfl (fun _ => Const_notB rfl) rfl rfl ?_) | refine RD_c rfl (fun _ => Const_pure rfl) rfl rfl ?_ | (refine RD_isBi ?_; first | refine RD_c rfl (fun _ => Const_add rfl rfl wF) rfl rfl ?_ | refine RD_c rfl (fun _ => Const_sub rfl rfl wF) rfl rfl ?_ | refine RD_c rfl (fun _ => Const_mul rfl rfl wF) rfl rfl ?_ | refine RD_c rfl (fun _ => Const_quo rfl rfl (by omega) qF) rfl rfl ?_ | refine RD_c rfl (fun _ => Const_rem rfl rfl (by omega) rfl) rfl rfl ?_ | refine RD_c rfl (fun _ => Const_half rfl rfl) rfl rfl ?_ | refine RD_c rfl (fun _ => Const_eqBB rfl rfl) rfl rfl ?_ | refine RD_c rfl (fun _ => Const_neBB rfl rfl) rfl rfl ?_ | refine RD_c rfl (fun _ => Const_eqB rfl rfl) rfl rfl ?_ | refine RD_c rfl (fun _ => Const_neB rfl rfl) rfl rfl ?_) | (refine RD_isUn ?_; first | refine RD_c rfl (fun _ => Const_neg rfl wF) rfl rfl ?_) | (refine RD_isCv ?_; first | refine RD_c rfl (fun _ => Const_conv rfl wF) rfl rfl ?_) | (refine RD_isCa ?_; first | refine RD_c rfl (fun _ => Const_len rfl) rfl rfl ?_ | refine RD_c rfl (fun _ => Const_minM rfl rfl) rfl rfl ?_ | refine RD_c rfl (fun _ => Const_maxM rfl rfl) rfl rfl ?_ | refine RD_c rfl (fun _ => Const_min3 rfl rfl rfl) rfl rfl ?_) | (refine RD_isFa ?_; first | refine RD_fldP rfl (by decide) rfl rfl ?_ | refine RD_fld rfl (by decide) rfl rfl ?_) | (refine RD_isIx ?_; first | refine RD_ixB rfl rfl bdI rfl rfl ?_ | refine RD_ixI vwF rfl rfl bdI memF posC rfl rfl ?_ | refine RD_ixR vwF rfl rfl bdI memF posC rfl rfl ?_ | refine RD_c rfl (fun _ => Const_indexA rfl rfl bdI) rfl rfl ?_) | (refine RD_isLd ?_; first | (apply RD_ldZB; exact vwF; exact rfl; (focus ((repeat (first | with_reducible exact List.mem_cons_self | with_reducible assumption | with_reducible refine List.mem_cons_of_mem _ ?_)); done)); exact atY; exact rfl; exact rfl) | (apply RD_ldZIB; exact vwF; exact rfl; (focus ((repeat (first | with_reducible exact List.mem_cons_self | with_reducible assumption | with_reducible refine List.mem_cons_of_mem _ ?_)); done)); exact atY; exact rfl; exact rfl) | (apply RD_ldZI; exact vwF; exact rfl; (focus ((repeat (first | with_reducible exact List.mem_cons_self | with_reducible assumption | with_reducible refine List.mem_cons_of_mem _ ?_)); done)); exact atY; exact rfl; exact rfl) | (apply RD_ldZR; exact vwF; exact rfl; (focus ((repeat (first | with_reducible exact List.mem_cons_self | with_reducible assumption | with_reducible refine List.mem_cons_of_mem _ ?_)); done)); exact atY; exact rfl; exact rfl) | (apply RD_ldB; exact vwF; exact rfl; (focus ((repeat (first | with_reducible exact List.mem_cons_self | with_reducible assumption | with_reducible refine List.mem_cons_of_mem _ ?_)); done)); exact atF; exact rfl; exact rfl) | (apply RD_ldIB; exact vwF; exact rfl; (focus ((repeat (first | with_reducible exact List.mem_cons_self | with_reducible assumption | with_reducible refine List.mem_cons_of_mem _ ?_)); done)); exact atF; exact rfl; exact rfl) | (apply RD_ldI; exact vwF; exact rfl; (focus ((repeat (first | with_reducible exact List.mem_cons_self | with_reducible assumption | with_reducible refine List.mem_cons_of_mem _ ?_)); done)); exact atF; exact rfl; exact rfl) | (apply RD_ldR; exact vwF; exact rfl; (focus ((repeat (first | with_reducible exact List.mem_cons_self | with_reducible assumption | with_reducible refine List.mem_cons_of_mem _ ?_)); done)); exact atF; exact rfl; exact rfl)) | (refine RD_isFd ?_; first | refine RD_c rfl (fun _ => Const_field1 rfl rfl) rfl rfl ?_ | refine RD_c rfl (fun _ => Const_fieldN rfl) rfl rfl ?_) | (refine TD_isCo ?_; first | refine TD_cond_true rfl ?_ | refine TD_cond_false rfl ?_ | refine TD_yes rfl (by omega) ?_ | refine TD_no rfl (by omega) ?_ | refine TD_dec rfl (fun h => ?_) (fun h => ?_) | refine TD_cond rfl (fun h => ?_) (fun h => ?_)))
          refine RD_stN (vs := eR e2) rfl rfl rfl (Ones.one e2) repF (StAts.r e2 (by omega) rfl) rfl rfl ⟨okF, ?_⟩
          refine RD_hv (φ := allR es (wH (d + 1))) (Hv.allMono (k := wd) memF hwd3) ?_
          refine RD_hv (φ := allR (st es (x : Int) e2) (wH (d + 1))) (Hv.stR memF memF) ?_
          repeat (refine wXh ?_)
          have hkeep : ∀ y : Nat, y ≠ x → gt (st es (x : Int) e2) (y : Int) = gt es (y : Int) := fun y hy => by rw [gt_stN (by omega), if_neg (by omega)]
          refine ND_again (kd - (d + 1)) _ _ _ (by first | omega | (simp only [List.length_append, List.length_cons, List.length_nil]; omega)) subG subF incF (⟨d + 1, (x : Int) - 1, st es (x : Int) e2, by omega, rfl, by omega, by rw [st_len]; exact hel, ?_, fun y h1 h2 => ?_, fun y h1 h2 => ?_, rfl, rfl, rfl⟩)
          · rw [hkeep kd (by omega)]; exact hone
          · rw [hkeep y (by omega)]; exact hzer y h1 h2
          · have hsm : sm (kd - y) (fun a => at2 L.q (a + y + 1) y * (gt (st es (x : Int) e2) ((a + y + 1 : Nat) : Int)).q) = sm (kd - y) (fun a => at2 L.q (a + y + 1) y * (gt es ((a + y + 1 : Nat) : Int)).q) := sm_congr (fun a ha => by rw [hkeep _ (by omega)])
            rw [hsm]
            by_cases hyx : y = x
            · subst hyx
              rw [gt_stN (by omega), if_pos rfl, he2, hsq, show d + 1 = kd - y by omega]
            · rw [hkeep y hyx]; exact hsum y (by omega) h2
      · obtain rfl : d = kd := by omega
        have hwd := wH4 hkd4
        subst hel
        refine TD_hv (φ := allR es 500000) (Hv.allMono (k := wH d) memF (by omega)) ?_
        refine TD_toRow (mm := es.length) 4 .here (by rw [recs_len]) (by omega) ?_
        refine TD_toL memF ?_
        repeat (refine wXh ?_)
        refine ND_rets [2, 3, 4] (by first | exact .inl rfl | exact .inr rfl) rfl rfl rfl _ _ subF incF (⟨rfl, .inr ⟨⟨some ⟨bv, 0, none⟩, es.length, es⟩, d, rfl, rfl, ⟨hlt, hp, hng hlt, ?_, fun t h1 h2 => ?_, fun t h1 => ?_⟩, rfl⟩⟩)
        · show (qs es).getD d 0 = 1
          rw [qs_getD hlt]; exact hone
        · show (qs es).getD t 0 = 0
          rw [qs_getD h2]; exact hzer t h1 h2
        · show (qs es).getD t 0 = - sm (d - t) (fun u => rsF (at2 a.q) t (u + t + 1) t / rsF (at2 a.q) t t t * (qs es).getD (u + t + 1) 0)
          rw [qs_getD (by omega), hsum t (by omega) h1]
          congr 1
          exact sm_congr (fun y hy => by rw [qs_getD (by omega), hlv t h1 _ (by omega) (by omega)])
end
end Go.Proofs.YtdmlebigkakplaaGreat
namespace Go.Fx
open Go.ChangeShapes Go.WideShapes Go.RowKit

theorem post_below {H : Type} {enc : TypeId × Value → H} {P : Program} {f : Func} {s : ChangeSpec} {apart fresh handsOn again : Bool} {W W' : World} {args : Array Value} {v : Value} {ds gs : List (DataW H)} {before pa pv : List MemPlace}
    (hW : DataW.Whole enc P f.params.toList s.vars apart W args.toList ds gs before)
    (hres : ∀ (b : Nat) (sp : Nat → Bool) (hd : Bool), DataW.TrodAll enc P W' b sp hd f.resultTypes.toList (v.resultList f.resultTypes.size) (s.fn H (ds ++ gs)).results [])
    (hargs : ∀ sp : Nat → Bool, (∀ p ∈ before, sp p.block = true) → DataW.TrodAll enc P W' 0 sp true f.params.toList args.toList (s.fn H (ds ++ gs)).args pa)
    (hvars : ∀ sp : Nat → Bool, (∀ p ∈ before, sp p.block = true) → DataW.TrodVars enc P W' sp s.vars (s.fn H (ds ++ gs)).vars pv)
    (hps : before = pa ++ pv) (hE : Ext [] W W')
    (hok : ∀ (j : Nat) (t : TypeId) (r : Value), f.resultTypes[j]? = some t → (v.resultList f.resultTypes.size)[j]? = some r → Value.okWide P W' .any 0 t r) :
    s.post enc P f apart fresh handsOn again W args v W' := by
  have hold : ∀ p ∈ before, (fun b => decide (b < W.heap.size)) p.block = true := fun p hp => by simpa using hW.lt p hp
  have hlt : ∀ p ∈ before, p.block < W.heap.size := fun p hp => hW.lt p hp
  refine ⟨ds, gs, before, [], pa, pv, hW, hres _ _ _, hargs _ hold, hvars _ hold, World.keptBut_mono (fun p hp => ⟨hp, ?_⟩) (hE.below.frame (· ∈ before)), fun _ => ?_⟩
  · rw [hps, List.mem_append] at hp
    exact Or.inr hp
  · obtain ⟨_, _, _, _, _, hz, hn⟩ := hW
    refine ⟨hok, _, _, ([] ++ pa) ++ pv, ⟨[] ++ pa, pv, trodAll_append (hargs _ (fun _ _ => rfl)) (hres _ _ _), hvars _ (fun _ _ => rfl), rfl, ?_, ?_⟩, ?_⟩
    · intro b off hp
      have hp' : MemPlace.cell b off ∈ before := by rw [hps]; simpa using hp
      rw [hE.below.frozen (p := ⟨b, off, none⟩) (hlt _ hp')]
      exact hz b off hp'
    · intro ha
      have := hn ha
      rw [hps] at this
      simpa using this
    · intro p hp _
      rw [hps]
      simpa using hp
end Go.Fx
namespace Go.Fx
open Go.ChangeShapes Go.WideShapes Go.RowKit Go.ChangeAt

section
variable {H : Type} {enc : TypeId × Value → H} {P : Program} {W : World}

theorem slice_ok {base : Nat} {t e : TypeId} {a : Option Addr} {len c : Nat} (ht : P.underlying t = some (.slice e)) (h : Value.okWide P W .any base t (.slice a len c)) :
    (len : Int) ≤ 9223372036854775807 ∧ len ≤ c ∧ (Ok a ∨ (a = none ∧ len = 0 ∧ c = 0)) := by
  simp only [Value.okWide, ht, Cell.okWide] at h
  cases a with
  | none =>
    cases len <;> cases c <;> simp_all [Cell.ok]
  | some a =>
    simp only [Cell.ok, ht] at h
    obtain ⟨h1, h2, h3⟩ := h
    have hm : IntKind.i64.max = 9223372036854775807 := by decide
    rw [hm] at h2
    refine ⟨by omega, h1, .inl ?_⟩
    cases a with
    | mk b o s =>
      have : s = none := h3.2.1
      subst this
      exact Ok.mk b o

theorem open_sliceI {base : Nat} {t e : TypeId} {k : IntKind} {v : Value} {d : DataW H} {p : List MemPlace} (ht : P.underlying t = some (.slice e)) (he : P.underlying e = some (.int k)) (hc : P.cellsOf e = 1)
    (hv : Value.okWide P W .any base t v) (h : DataW.Trod enc P W 0 (fun _ => true) true t v d p) :
    ∃ a l c, v = .slice a l.length c ∧ Ints [] W k a l ∧ (∀ x ∈ l, (Lit.int k x).wf = true) ∧ (l.length : Int) ≤ 9223372036854775807 ∧ l.length ≤ c ∧ (Ok a ∨ (a = none ∧ l.length = 0 ∧ c = 0)) := by
  obtain ⟨a, len, c, rfl⟩ := okWide_slice ht hv
  obtain ⟨h1, h2, h3⟩ := slice_ok ht hv
  obtain ⟨fuel, hf⟩ := h
  rcases open_ints ht he hc hf with ⟨hcs, _⟩ | ⟨a', len', cap', zs, hcs, _, hl, hm, hz, _, hcell, hwz⟩
  · simp [Value.cells] at hcs
    obtain ⟨rfl, rfl, rfl⟩ := hcs
    exact ⟨none, [], 0, rfl, Sl.nil _ _ _, by simp, by simp, by simp, .inr ⟨rfl, rfl, rfl⟩⟩
  · simp [Value.cells] at hcs
    obtain ⟨rfl, rfl, rfl⟩ := hcs
    simp only [if_true] at hz
    have hlen : (zs.take len).length = len := by simp; omega
    have hok : Ok (some a') := h3.resolve_right (by simp)
    refine ⟨some a', zs.take len, c, by rw [hlen], ?_, fun x hx => hwz x (List.mem_of_mem_take hx), by omega, by omega, .inl hok⟩
    intro j v hj
    rw [List.getElem?_map] at hj
    obtain ⟨x, hx, rfl⟩ := Option.map_eq_some_iff.1 hj
    have hjl : j < len := by
      have := (List.getElem?_eq_some_iff.1 hx).1
      omega
    refine ⟨hok, by simp, ?_⟩
    have hg : zs.getD j 0 = x := by
      rw [List.getElem?_take] at hx
      simp [hjl] at hx
      simp [List.getD, hx]
    have := hcell j (by omega)
    rw [hg] at this
    obtain ⟨b, o, e⟩ := hok.cases
    injection e with e
    subst e
    rw [add_lit] at this
    simpa [pt, bl, of] using this

theorem open_intW {base : Nat} {t : TypeId} {k : IntKind} {v : Value} {d : DataW H} {p : List MemPlace} (ht : P.underlying t = some (.int k)) (hv : Value.okWide P W .any base t v) :
    ∃ x, v = .int k x ∧ (Lit.int k x).wf = true := by
  simp only [Value.okWide, ht, Cell.okWide] at hv
  cases v <;> simp_all [Cell.ok, Lit.wf, IntKind.has]

theorem two_of {xs : List Int} (h : xs.length = 2) : ∃ a b, xs = [a, b] := by
  match xs, h with
  | [a, b], _ => exact ⟨a, b, rfl⟩
theorem u64_of {a : Int} (h : (Lit.int .u64 a).wf = true) : 0 ≤ a ∧ a ≤ 18446744073709551615 := by
  simp only [Lit.wf, Bool.and_eq_true, decide_eq_true_eq] at h
  have h3 := h.2
  rw [show IntKind.u64.max = 18446744073709551615 by decide] at h3
  exact ⟨h.1, h3⟩
theorem i64_of {a : Int} (h : (Lit.int .i64 a).wf = true) : -9223372036854775808 ≤ a ∧ a ≤ 9223372036854775807 := by
  simp only [Lit.wf, Bool.and_eq_true, decide_eq_true_eq] at h
  have h2 := h.1
  have h3 := h.2
  rw [show IntKind.i64.max = 9223372036854775807 by decide] at h3
  rw [show IntKind.i64.min = -9223372036854775808 by decide] at h2
  exact ⟨h2, h3⟩
theorem u8_of {a : Int} (h : (Lit.int .u8 a).wf = true) : 0 ≤ a ∧ a ≤ 255 := by
  simp only [Lit.wf, Bool.and_eq_true, decide_eq_true_eq] at h
  have h3 := h.2
  rw [show IntKind.u8.max = 255 by decide] at h3
  exact ⟨h.1, h3⟩

/-- an array or a struct of integers of one kind -/
theorem open_aggI {base : Nat} {t : TypeId} {k : IntKind} {v : Value} {ts : List TypeId} {n : Nat} (ht : (∃ fs, P.underlying t = some (.struct fs)) ∨ ∃ m e, P.underlying t = some (.array m e)) (hts : P.cellTypes P.depth t = some ts)
    (hk : ∀ u ∈ ts, P.underlying u = some (.int k)) (hc : P.cellsOf t = n) (hv : Value.okWide P W .any base t v) :
    ∃ xs : List Int, v = .agg (xs.map (Value.int k)).toArray ∧ xs.length = n ∧ ∀ x ∈ xs, (Lit.int k x).wf = true := by
  have hv' : ∃ cs, v = .agg cs ∧ cs.size = P.cellsOf t ∧ Row.okWide P W .any base t cs := by
    rcases ht with ⟨fs, ht⟩ | ⟨m, e, ht⟩ <;> simpa [Value.okWide, ht] using hv
  obtain ⟨cs, rfl, hsz, ts', hts', _, hall⟩ := hv'
  rw [hts] at hts'
  injection hts' with e
  subst e
  have each : ∀ (i : Nat) (v : Value), cs[i]? = some v → ∃ x : Int, v = Value.int k x ∧ (Lit.int k x).wf = true := fun i v hi => by
    obtain ⟨u, hu, hcell⟩ := hall i v hi
    have hku := hk u (List.mem_of_getElem? hu)
    cases v <;> simp_all [Cell.okWide, Cell.ok, Lit.wf, IntKind.has]
  refine ⟨cs.toList.map (fun v => match v with | .int _ x => x | _ => 0), ?_, by simp [hsz, hc], ?_⟩
  · congr 1
    apply Array.ext'
    rw [List.map_map]
    simp only [List.toList_toArray]
    apply List.ext_getElem
    · simp
    · intro i h1 h2
      obtain ⟨x, hx, _⟩ := each i cs[i] (by simp at h1; simp [h1])
      simp [hx]
  · intro x hx
    obtain ⟨v, hv, rfl⟩ := List.mem_map.1 hx
    obtain ⟨i, hi, rfl⟩ := List.mem_iff_getElem.1 hv
    obtain ⟨y, hy, hw⟩ := each i cs[i] (by simp at hi; simp [hi])
    have : cs.toList[i] = .int k y := by simpa using hy
    rw [this]
    exact hw

theorem trodAll_stay (hl : laidOutB P = true) {W' : World} (hB : Below W.heap.size W W') : ∀ (ts : List TypeId) (vs : List Value) (ds : List (DataW H)) (p : List MemPlace), (∀ t ∈ ts, P.readableRec t = true ∧ t < P.types.size) →
    (∀ x ∈ p, x.block < W.heap.size) → DataW.TrodAll enc P W 0 (fun _ => true) true ts vs ds p → DataW.TrodAll enc P W' 0 (fun b => decide (b < W.heap.size)) true ts vs ds p
  | [], _, _, _, _, _, h => by
    obtain ⟨rfl, rfl, rfl⟩ := trodAll_nil h
    exact trodAll_mk0
  | t :: ts, _, _, _, hr, hp, h => by
    obtain ⟨v, vs', d, ds', p', q', rfl, rfl, rfl, h1, h2⟩ := trodAll_cons h
    have hr0 := hr t (by simp)
    exact trodAll_cons_mk (Below.trod hl hr0.1 hr0.2 h1 hB (fun x hx => hp x (List.mem_append.2 (.inl hx)))) (trodAll_stay hl hB ts vs' ds' q' (fun u hu => hr u (by simp [hu])) (fun x hx => hp x (List.mem_append.2 (.inr hx))) h2)
end
end Go.Fx

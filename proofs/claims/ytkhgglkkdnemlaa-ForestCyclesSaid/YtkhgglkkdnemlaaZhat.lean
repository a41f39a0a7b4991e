/- Forest: the law ForestCycles, walked. -/
import Derived.Test.YtkhgglkkdnemlaaZhas
import Derived.Test.YtkhgglkkdnemlaaZhai
set_option linter.unusedSimpArgs false
set_option linter.unusedVariables false
namespace Go.Proofs.Ytkhgglkkdnemlaa
open Go Go.Fx
theorem bal_st {bl : List Int} {n : Nat} {A B x : Int} (hl : bl.length = n) (hA : 0 ≤ A ∧ A < n) (hB : 0 ≤ B ∧ B < n) (hx : 0 ≤ x) :
    gt (Fx.st (Fx.st bl A (gt bl A - 1)) B (gt (Fx.st bl A (gt bl A - 1)) B + 1)) x = gt bl x + ((if B = x then 1 else 0) - (if A = x then 1 else 0)) := by
  have sw : ∀ y z : Int, (if y = z then (1 : Int) else 0) = if z = y then 1 else 0 := fun y z => by
    by_cases h : z = y
    · rw [if_pos h, if_pos h.symm]
    · rw [if_neg h, if_neg (fun e => h e.symm)]
  rw [sw B x, sw A x, gt_st _ (by rw [st_len]; omega) hx, gt_st _ (by omega) hB.1, gt_st _ (by omega) hx]
  by_cases e1 : x = B
  · subst e1
    rw [if_pos rfl, if_pos rfl]
    by_cases e2 : x = A
    · subst e2; rw [if_pos rfl, if_pos rfl]; omega
    · rw [if_neg e2, if_neg e2]; omega
  · rw [if_neg e1, if_neg e1]
    by_cases e2 : x = A
    · subst e2; rw [if_pos rfl, if_pos rfl]; omega
    · rw [if_neg e2, if_neg e2]; omega
theorem bal_tr {ms : List LK} {T : List Int} {tr : Int → List Int} (h : Trs ms T tr) (hr : ∀ k ∈ T, 0 ≤ k) {z : Int} (h0 : 0 ≤ z) (h1 : z < ms.length) (x : Int) : bal ms ((z + 1) :: tr z) x = 0 :=
  bal_cycle hr h0 (h.go z h0 h1).con (Stp.of (h.go z h0 h1)) x
theorem sk_tr {ms : List LK} {T : List Int} {tr : Int → List Int} (h : Trs ms T tr) (hr : inR ms.length T) {z : Int} (h0 : 0 ≤ z) (h1 : z < ms.length) {s : Int} (hs : s ∈ (z + 1) :: tr z) : 0 ≤ sk s ∧ sk s < ms.length := by
  rcases List.mem_cons.1 hs with rfl | hs
  · rw [(fwd (ms := ms) h0).2.1]; exact ⟨h0, h1⟩
  · exact hr _ ((h.go z h0 h1).mem s hs)
section
variable {X : List Nat} {w0 : World} {M0 : List Ent} {I0 : List Imm}
set_option maxRecDepth 100000 in
set_option maxHeartbeats 4000000 in
theorem LCycles_ok {p q : Option Addr} {N : Int} {ms : List LK} {ls : List Int} {c ct : Nat} (hm2 : (ms.length : Int) ≤ 9223372036854775807) (hl : (ls.length : Int) ≤ 9223372036854775807) (hct : ls.length ≤ ct) (hok : Ok q ∨ (ls.length = 0 ∧ ct = 0)) (hp : slI p (recs eK ms) ∈ I0) (hq : slI q (recs (eI .i64) ls) ∈ I0) :
    CD Try.prog 11 [gv N p ms.length c, .slice q ls.length ct] X w0 M0 I0 (fun v _ _ => v = .bool true) := by
  have hR := fun M0 I0 h => rgCheck_ok (X := X) (w0 := w0) (M0 := M0) (I0 := I0) (p := p) (N := N) (ms := ms) (c := c) rfl hm2 h
  obtain ⟨m, hm⟩ : ∃ m, ms.length = m := ⟨_, rfl⟩
  obtain ⟨t, ht⟩ : ∃ t, ls.length = t := ⟨_, rfl⟩
  rw [hm] at hR hm2
  rw [ht] at hl hct hok
  rw [hm, ht]
  refine enterD2 Try.func11 rfl Try.ntmps11 rfl ?_
  refine TD_seq ?_
  refine TD_region ?_
  (refine RD_boxA rfl rfl rfl ?_; intro b2; refine ⟨okF, ?_⟩)
  refine RD_freezeB .here ?_
  repeat (refine wXh ?_)
  (refine RD_callS rfl (known11_ok) rfl rfl ?_; rintro _ _ _ ⟨rfl, rfl, rfl⟩; refine ⟨okF, ?_⟩)
  repeat (refine wXh ?_)
  (refine RD_callS rfl (few_ok) rfl rfl ?_; rintro _ _ _ ⟨rfl, rfl, rfl⟩; refine ⟨okF, ?_⟩)
  by_cases hf : N ≤ 10 ∧ m ≤ 24
  rotate_left
  · rw [B_false hf]
    repeat (refine wXh ?_)
    refine ND_ret1 (by first | exact .inl rfl | exact .inr rfl) rfl rfl _ _ subF incF (rfl)
  rw [B_true hf]
  by_cases hN8 : N ≤ 8
  rotate_left
  · repeat (refine wXh ?_)
    refine ND_ret1 (by first | exact .inl rfl | exact .inr rfl) rfl rfl _ _ subF incF (rfl)
  by_cases h30 : t ≤ 30
  rotate_left
  · repeat (refine wXh ?_)
    refine ND_ret1 (by first | exact .inl rfl | exact .inr rfl) rfl rfl _ _ subF incF (rfl)
  by_cases hc : gcode N ms = 0
  rotate_left
  · have hB := fun M0 I0 h => Cycles_bad (X := X) (w0 := w0) (M0 := M0) (I0 := I0) (p := p) (q := q) (N := N) (ms := ms) (c := c) (t := t) (ct := ct) hm hm2 hc h
    generalize gcode N ms = e at *
    repeat (refine wXh ?_)
    (refine RD_callS rfl (hB _ _ memF) rfl rfl ?_; rintro _ _ _ ⟨rfl, rfl, rfl⟩; refine ⟨okF, ?_⟩)
    repeat (refine wXh ?_)
    (refine RD_callS rfl (hR _ _ memF) rfl rfl ?_; rintro _ _ _ ⟨rfl, rfl, rfl⟩; refine ⟨okF, ?_⟩)
    repeat (refine wXh ?_)
    refine ND_ret1 (by first | exact .inl rfl | exact .inr rfl) rfl rfl _ _ subF incF (congrArg Value.bool (B_true rfl))
  obtain ⟨n, rfl, hn, hl2, hg⟩ := gd_gcode hc
  rw [hm] at hl2
  rw [hc] at hR
  have hF := fun M0 I0 h1 h2 => rForest_ok (X := X) (w0 := w0) (M0 := M0) (I0 := I0) (p := p) (q := q) (n := n) (c := c) (ct := ct) (by omega) hm (by omega) hg ht (by omega) hct h1 h2
  by_cases hfc : fcode ms ls = 0
  rotate_left
  · have hT := fun M0 I0 h1 h2 => Cycles_f (X := X) (w0 := w0) (M0 := M0) (I0 := I0) (p := p) (q := q) (n := n) (c := c) (ct := ct) (by omega) hm (by omega) hg ht (by omega) hfc h1 h2
    generalize fcode ms ls = e at *
    repeat (refine wXh ?_)
    (refine RD_callS rfl (hT _ _ memF memF) rfl rfl ?_; rintro _ _ _ ⟨rfl, rfl, rfl⟩; refine ⟨okF, ?_⟩)
    repeat (refine wXh ?_)
    (refine RD_callS rfl (hR _ _ memF) rfl rfl ?_; rintro _ _ _ ⟨rfl, rfl, rfl⟩; refine ⟨okF, ?_⟩)
    repeat (refine wXh ?_)
    (refine RD_callS rfl (hF _ _ memF memF) rfl rfl ?_; rintro _ _ _ ⟨rfl, rfl, rfl⟩; refine ⟨okF, ?_⟩)
    repeat (refine wXh ?_)
    refine ND_ret1 (by first | exact .inl rfl | exact .inr rfl) rfl rfl _ _ subF incF (congrArg Value.bool (B_true rfl))
  have hfo := fcode_ok hfc
  have hfr := hfo.1
  rw [hm] at hfo
  rw [hfc] at hF
  have hS := fun M0 I0 h1 h2 => rSpanning_ok (X := X) (w0 := w0) (M0 := M0) (I0 := I0) (p := p) (q := q) (n := n) (c := c) (ct := ct) (by omega) hm (by omega) hg ht (by omega) hfo.1 h1 h2
  by_cases hs : spn ms ls
  rotate_left
  · rw [B_false hs] at hS
    have hT := fun M0 I0 h1 h2 => Cycles_s (X := X) (w0 := w0) (M0 := M0) (I0 := I0) (p := p) (q := q) (n := n) (c := c) (ct := ct) (by omega) hm (by omega) hg ht (by omega) hfc hs h1 h2
    repeat (refine wXh ?_)
    (refine RD_callS rfl (hT _ _ memF memF) rfl rfl ?_; rintro _ _ _ ⟨rfl, rfl, rfl⟩; refine ⟨okF, ?_⟩)
    repeat (refine wXh ?_)
    (refine RD_callS rfl (hR _ _ memF) rfl rfl ?_; rintro _ _ _ ⟨rfl, rfl, rfl⟩; refine ⟨okF, ?_⟩)
    repeat (refine wXh ?_)
    (refine RD_callS rfl (hF _ _ memF memF) rfl rfl ?_; rintro _ _ _ ⟨rfl, rfl, rfl⟩; refine ⟨okF, ?_⟩)
    repeat (refine wXh ?_)
    (refine RD_callS rfl (hS _ _ memF memF) rfl rfl ?_; rintro _ _ _ ⟨rfl, rfl, rfl⟩; refine ⟨okF, ?_⟩)
    repeat (refine wXh ?_)
    refine ND_ret1 (by first | exact .inl rfl | exact .inr rfl) rfl rfl _ _ subF incF (congrArg Value.bool (B_true rfl))
  rw [B_true hs] at hS
  obtain ⟨tr, htr⟩ := trs_of hfr hs
  have hT := fun M0 I0 h1 h2 => Cycles_ok (X := X) (w0 := w0) (M0 := M0) (I0 := I0) (p := p) (q := q) (n := n) (c := c) (ct := ct) (by omega) hm (by omega) hg ht (by omega) hfc hs htr h1 h2
  repeat (refine wXh ?_)
  (refine RD_callS rfl (hT _ _ memF memF) rfl rfl ?_; rintro _ _ _ ⟨rfl, q1, c1, rows, rfl, hrw, rfl⟩; refine ⟨okF, ?_⟩)
  repeat (refine wXh ?_)
  (refine RD_callS rfl (hR _ _ memF) rfl rfl ?_; rintro _ _ _ ⟨rfl, rfl, rfl⟩; refine ⟨okF, ?_⟩)
  repeat (refine wXh ?_)
  (refine RD_callS rfl (hF _ _ memF memF) rfl rfl ?_; rintro _ _ _ ⟨rfl, rfl, rfl⟩; refine ⟨okF, ?_⟩)
  repeat (refine wXh ?_)
  (refine RD_callS rfl (hS _ _ memF memF) rfl rfl ?_; rintro _ _ _ ⟨rfl, rfl, rfl⟩; refine ⟨okF, ?_⟩)
  repeat (refine wXh ?_)
  (refine RD_vals (cs := recs eC []) ([]) rfl rfl (by intro v hv; repeat (first | exact absurd hv (List.not_mem_nil) | (rcases List.mem_cons.1 hv with rfl | hv; · rfl))) (by omega) rfl rfl rfl ?_; intro b8; refine ⟨okF, ?_⟩; refine RD_toRow (mm := 0) 1 .here rfl (by omega) ?_)
  refine RD_hv (Hv.cnil) ?_
  have hrl : rows.length ≤ m := by
    have := congrArg List.length hrw
    rw [List.length_map] at this
    rw [this]; exact cyl_len _ _ _
  clear hT hR hF hS
  repeat (refine wXh ?_)
  refine TD_loop [1, 2, 5, 6, 67, 68] rfl (fun k G M I => ∃ (i : Nat) (q3 : Option Addr) (c3 : Nat) (rows2 : List CY), i ≤ m ∧ k = m - i ∧ rows2.map CY.es = cyl tr ls i ∧ G = [(8, .slice q3 rows2.length c3), (69, .int .i64 i)] ∧ M = .row q3 rows2.length c3 (recs eC rows2) 27 1 :: M0 ∧ I = allC rows2 :: slI q1 (recs eC rows) :: allC rows :: slI (some ⟨b2, 0, none⟩) [.int .i64 n, .slice p m c] :: I0) (m) _ _ _ subG subF incF (⟨0, some ⟨b8, 0, none⟩, 0, [], by omega, rfl, rfl, rfl, rfl, rfl⟩) ?_
  rintro kk G M I ⟨i, q3, c3, rows2, hi, rfl, hrw2, rfl, rfl, rfl⟩
  have hrl2 : rows2.length ≤ i := by
    have := congrArg List.length hrw2
    rw [List.length_map] at this
    rw [this]; exact cyl_len _ _ _
  by_cases him : i < m
  · have hti := htr.go (i : Int) (by omega) (by omega)
    have hlen := hti.len
    have hSt := fun M0 I0 h1 h2 => Steps_yes (X := X) (w0 := w0) (M0 := M0) (I0 := I0) (p := p) (q := q) (n := n) (c := c) (ct := ct) hm (by omega) ht (by omega) hfo.1 hfo.2.2 (asc_nodup hfo.2.1) hok hct hti h1 h2
    repeat (refine wXh ?_)
    (refine RD_alloc rfl rfl ?_; intro b10; refine ⟨okF, ?_⟩)
    repeat (refine wXh ?_)
    (refine RD_callS rfl (Contains_ok ht (by omega) memF) rfl rfl ?_; rintro _ _ _ ⟨rfl, rfl, rfl⟩; refine ⟨okF, ?_⟩)
    by_cases hmem : (i : Int) ∈ ls
    · rw [B_true hmem]
      repeat (refine wXh ?_)
      refine ND_again (m - (i + 1)) _ _ _ (by first | omega | (simp only [List.length_append, List.length_cons, List.length_nil]; omega)) subG subF incF (⟨i + 1, q3, c3, rows2, by omega, rfl, by rw [cyl, if_pos hmem]; exact hrw2, rfl, rfl, rfl⟩)
    rw [B_false hmem]
    repeat (refine wXh ?_)
    (refine RD_callS rfl (hSt _ _ memF memF) rfl rfl ?_; rintro _ _ _ ⟨rfl, q2, c2, rfl, hok2, rfl⟩; refine ⟨okF, ?_⟩)
    repeat (refine wXh ?_)
    (refine RD_vals (cs := recs (eI .i64) [(i : Int) + 1]) ([.int .i64 ((i : Int) + 1)]) rfl rfl (by intro v hv; repeat (first | exact absurd hv (List.not_mem_nil) | (rcases List.mem_cons.1 hv with rfl | hv; · rfl))) (by omega) rfl rfl rfl ?_; intro b9; refine ⟨okF, ?_⟩)
    refine RD_toRow (mm := 1) 1 repF rfl (by omega) ?_
    repeat (refine wXh ?_)
    refine RD_appR (xs := [(i : Int) + 1]) (ys := tr i) 0 rfl rfl rfl (Src.imm memF hok2) (by decide) rfl (by simp; omega) (by simp; omega) rfl rfl ?_
    intro a9 c9
    refine ⟨okF, ?_⟩
    repeat (refine wXh ?_)
    refine RD_freezeR remF ?_
    (refine RD_vals (cs := recs eC [⟨a9, c9, [(i : Int) + 1] ++ tr i⟩]) ([.slice a9 ([(i : Int) + 1] ++ tr i).length c9]) rfl rfl (by intro v hv; repeat (first | exact absurd hv (List.not_mem_nil) | (rcases List.mem_cons.1 hv with rfl | hv; · rfl))) (by omega) rfl rfl rfl ?_; intro b20; refine ⟨okF, ?_⟩)
    (refine RD_appR (ys := [⟨a9, c9, [(i : Int) + 1] ++ tr i⟩]) 2 rfl rfl rfl ?_ (by decide) rfl (by omega) (by omega) rfl rfl ?_; (· first | exact Src.blk memF | exact Src.row memF | exact Src.imm memF (by first | assumption | exact .inl (Ok.mk _ _))); intro a5 c5; refine ⟨okF, ?_⟩)
    refine RD_hv (Hv.csnoc (rows := rows2) (r := ⟨a9, c9, [(i : Int) + 1] ++ tr i⟩) memF memF) ?_
    repeat (refine wXh ?_)
    refine ND_again (m - (i + 1)) _ _ _ (by first | omega | (simp only [List.length_append, List.length_cons, List.length_nil]; omega)) subG subF incF (⟨i + 1, a5, c5, rows2 ++ [⟨a9, c9, [(i : Int) + 1] ++ tr i⟩], by omega, rfl, by rw [cyl, if_neg hmem, List.map_append, hrw2]; rfl, rfl, rfl, rfl⟩)
  obtain rfl : i = m := by omega
  have hmap : rows2.map CY.es = rows.map CY.es := hrw2.trans hrw.symm
  have hl12 : rows2.length = rows.length := by
    have := congrArg List.length hmap
    rwa [List.length_map, List.length_map] at this
  have hes : ∀ i : Nat, i < rows.length → (gt rows (i : Int)).es = (gt rows2 (i : Int)).es := fun j hj => by
    have h1 : (rows2.map CY.es)[j]? = (rows.map CY.es)[j]? := by rw [hmap]
    rw [List.getElem?_map, List.getElem?_map, List.getElem?_eq_getElem hj, List.getElem?_eq_getElem (by omega)] at h1
    rw [gt_get hj, gt_get (by omega)]
    exact (Option.some.inj h1).symm
  have hex : ∀ i : Nat, i < rows.length → (gt rows (i : Int)).es.length ≤ 1000 := fun j hj => by
    obtain ⟨z, h1, h2, h3⟩ := cyl_mem (row_es hrw hj)
    have := (htr.go z h1 (by omega)).len
    rw [h3, List.length_cons]; omega
  rw [hl12]
  repeat (refine wXh ?_)
  refine RD_freezeR .here ?_
  (refine RD_callS rfl (EqF_ok (A := rows) (B := rows2) rfl hl12 (by omega) hes hex memF memF memF memF) rfl rfl ?_; rintro _ _ _ ⟨rfl, rfl, rfl⟩; refine ⟨okF, ?_⟩)
  clear hes hmap hrw2 hrl2
  repeat (refine wXh ?_)
  refine TD_loop [2, 105, 106] rfl (fun k G M I => ∃ l : Nat, l ≤ rows.length ∧ k = rows.length - l ∧ G = [(107, .int .i64 l)] ∧ M0 = M ∧ I = slI q1 (recs eC rows) :: allC rows :: slI (some ⟨b2, 0, none⟩) [.int .i64 n, .slice p i c] :: I0) (rows.length) _ _ _ subG subF incF (⟨0, by omega, rfl, rfl, rfl, rfl⟩) ?_
  rintro kk G M I ⟨j, hj, rfl, rfl, rfl, rfl⟩
  by_cases hjr : j < rows.length
  rotate_left
  · repeat (refine wXh ?_)
    refine ND_ret1 (by first | exact .inl rfl | exact .inr rfl) rfl rfl _ _ subF incF (rfl)
  obtain ⟨z, hz0, hz1, hz⟩ := cyl_mem (row_es hrw hjr)
  have hx := hex j hjr
  refine TD_hv (Hv.cat (rows := rows) (i := (j : Int)) memF (by omega)) ?_
  obtain ⟨r, hr⟩ : ∃ r, gt rows (j : Int) = r := ⟨_, rfl⟩
  rw [hr] at hz hx
  have hsk : ∀ s ∈ r.es, 0 ≤ sk s ∧ sk s < i := fun s h => by
    have := sk_tr htr hfr hz0 (by omega) (hz ▸ h)
    rwa [hm] at this
  have hb0 : ∀ x, bal ms r.es x = 0 := fun x => by rw [hz]; exact bal_tr htr (fun k hk => (hfr k hk).1) hz0 (by omega) x
  repeat (refine wXh ?_)
  rw [hr]
  repeat (refine wXh ?_)
  (refine RD_makeX (n) rfl rfl (by omega) (by omega) (by omega) (by omega) (made_int _ _) rfl rfl ?_; intro b15; refine ⟨okF, ?_⟩)
  have hrep : (List.replicate n (0 : Int)).length = n := List.length_replicate
  repeat (refine wXh ?_)
  refine TD_loop [2, 15, 105, 106, 107, 114, 115] rfl (fun k G M I => ∃ (l : Nat) (bl : List Int), l ≤ r.es.length ∧ k = r.es.length - l ∧ bl.length = n ∧ (∀ x : Int, 0 ≤ x → x < n → gt bl x = bal ms (r.es.take l) x) ∧ G = [(116, .int .i64 l)] ∧ M = .blk b15 (recs (eI .i64) bl) 3 :: M0 ∧ I = slI r.p (recs (eI .i64) r.es) :: slI q1 (recs eC rows) :: allC rows :: slI (some ⟨b2, 0, none⟩) [.int .i64 n, .slice p i c] :: I0) (r.es.length) _ _ _ subG subF incF (⟨0, List.replicate n 0, by omega, rfl, hrep, fun x h1 h2 => ?_, rfl, rfl, rfl⟩) ?_
  · obtain ⟨y, rfl⟩ : ∃ y : Nat, x = y := ⟨x.toNat, by omega⟩
    rw [gt_get (by omega), List.getElem_replicate]; rfl
  rintro kk G M I ⟨l, bl, hl3, rfl, hbl, hbal, rfl, rfl, rfl⟩
  by_cases hlr : l < r.es.length
  · obtain ⟨s, hs2⟩ : ∃ s, gt r.es (l : Int) = s := ⟨_, rfl⟩
    have hsm : s ∈ r.es := hs2 ▸ gt_in ⟨by omega, by omega⟩
    have h1 := hsk s hsm
    have hmx : max s (0 - s) - 1 = sk s := by unfold sk; split <;> omega
    have hsb : -1000 ≤ s ∧ s ≤ 1000 := by
      unfold sk at h1
      split at h1 <;> omega
    have hA := hg.a (sk s) h1.1 (by omega)
    have hB := hg.b (sk s) h1.1 (by omega)
    have htk : r.es.take (l + 1) = r.es.take l ++ [s] := by rw [take_snoc hlr, hs2]
    repeat (refine wXh ?_)
    rw [hs2]
    repeat (refine wXh ?_)
    rw [hmx]
    (refine RD_alloc rfl rfl ?_; intro b18; refine ⟨okF, ?_⟩)
    rw [show eK (gt ms (sk s)) = [Value.int .i64 (gt ms (sk s)).a, Value.int .i64 (gt ms (sk s)).b, Value.int .i64 (gt ms (sk s)).w] from rfl]
    have hbd : ∀ x : Int, 0 ≤ x → x < n → (gt bl x).natAbs ≤ 1000 := fun x h3 h4 => by
      have h5 := bal_bound ms (r.es.take l) x
      rw [List.length_take] at h5
      rw [hbal x h3 h4]
      omega
    have hs0 : s ≠ 0 := fun h => by
      rw [h] at h1
      exact absurd h1.1 (by decide)
    by_cases hneg : s < 0
    · skip
      have hsa : sa ms s = (gt ms (sk s)).b := by unfold sa; rw [if_neg (by omega)]
      have hsb : sb ms s = (gt ms (sk s)).a := by unfold sb; rw [if_neg (by omega)]
      have hbA := hbd _ hB.1 hB.2
      have hbB : (gt (Fx.st bl (gt ms (sk s)).b (gt bl (gt ms (sk s)).b - 1)) (gt ms (sk s)).a).natAbs ≤ 1001 := by
        have := hbd _ hA.1 hA.2
        rw [gt_st _ (by omega) hA.1]
        split <;> omega
      repeat (refine wXh ?_)
      refine ND_again (r.es.length - (l + 1)) _ _ _ (by first | omega | (simp only [List.length_append, List.length_cons, List.length_nil]; omega)) subG subF incF (⟨l + 1, _, by omega, rfl, by rw [st_len, st_len]; exact hbl, fun x h3 h4 => by rw [bal_st hbl hB hA h3, hbal x h3 h4, htk, bal_snoc, hsa, hsb], rfl, rfl, rfl⟩)
    · skip
      have hsa : sa ms s = (gt ms (sk s)).a := by unfold sa; rw [if_pos (by omega)]
      have hsb : sb ms s = (gt ms (sk s)).b := by unfold sb; rw [if_pos (by omega)]
      have hbA := hbd _ hA.1 hA.2
      have hbB : (gt (Fx.st bl (gt ms (sk s)).a (gt bl (gt ms (sk s)).a - 1)) (gt ms (sk s)).b).natAbs ≤ 1001 := by
        have := hbd _ hB.1 hB.2
        rw [gt_st _ (by omega) hB.1]
        split <;> omega
      repeat (refine wXh ?_)
      refine ND_again (r.es.length - (l + 1)) _ _ _ (by first | omega | (simp only [List.length_append, List.length_cons, List.length_nil]; omega)) subG subF incF (⟨l + 1, _, by omega, rfl, by rw [st_len, st_len]; exact hbl, fun x h3 h4 => by rw [bal_st hbl hA hB h3, hbal x h3 h4, htk, bal_snoc, hsa, hsb], rfl, rfl, rfl⟩)
  · obtain rfl : l = r.es.length := by omega
    rw [List.take_length] at hbal
    have hz2 : ¬ ∃ x ∈ bl, x ≠ 0 := by
      rintro ⟨x, hx1, hx2⟩
      obtain ⟨y, hy, rfl⟩ := List.mem_iff_getElem.1 hx1
      rw [← gt_get hy, hbal y (by omega) (by omega), hb0] at hx2
      exact hx2 rfl
    have hH := fun M0 I0 h => hasI_ok (X := X) (w0 := w0) (M0 := M0) (I0 := I0) (a := bl) (c := n) (p := some ⟨b15, 0, none⟩) (fs := #[]) (cs := #[]) (g := 44) (fun x => x ≠ 0) (by omega) h (fun i _ => bal2_ok)
    rw [hbl, B_false hz2] at hH
    repeat (refine wXh ?_)
    refine RD_freezeB .here ?_
    (refine RD_callS rfl (hH _ _ memF) rfl rfl ?_; rintro _ _ _ ⟨rfl, rfl, rfl⟩; refine ⟨okF, ?_⟩)
    repeat (refine wXh ?_)
    refine ND_again (rows.length - (j + 1)) _ _ _ (by first | omega | (simp only [List.length_append, List.length_cons, List.length_nil]; omega)) subG subF incF (⟨j + 1, by omega, rfl, rfl, rfl, rfl⟩)
end
end Go.Proofs.Ytkhgglkkdnemlaa

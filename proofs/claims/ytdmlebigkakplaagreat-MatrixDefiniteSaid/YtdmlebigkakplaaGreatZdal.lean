/- The document's minor and determinant. -/
import Derived.Test.YtdmlebigkakplaaGreatZdag
import Derived.Test.YtdmlebigkakplaaGreatZdaa
import Derived.Test.YtdmlebigkakplaaGreatZdae
set_option linter.unusedSimpArgs false
set_option linter.unusedVariables false
namespace Go.Proofs.YtdmlebigkakplaaGreat
open Go Go.Fx
/-- heights of determinants -/
def hD (k : Nat) : Nat → Nat
  | 0 => k
  | n + 1 => (n + 2) * (k + hD k n + 1)
section
variable {X : List Nat} {w0 : World} {M0 : List Ent} {I0 : List Imm}
theorem rWhole05_ok {x : Int} (hx : x.natAbs ≤ 1) : CD Tryz.prog 142 [.int .i64 x] X w0 M0 I0 (RQ (x : Rat) 0 M0 I0) := by
  have hW := fun M0 I0 => rQWhole_ok (X := X) (w0 := w0) (M0 := M0) (I0 := I0) (x := x) (by omega) (k := 0) hx
  refine enterD1 Tryz.func142 rfl Tryz.ntmps142 rfl ?_
  refine TD_seq ?_
  refine TD_region ?_
  (refine RD_alloc rfl rfl ?_; intro b; refine ⟨okF, ?_⟩)
  repeat (refine wXh ?_)
  (refine RD_callS rfl (hW _ _) rfl rfl ?_; rintro _ _ _ ⟨rfl, e, rfl, he, rfl⟩; refine ⟨okF, ?_⟩)
  repeat (refine wXh ?_)
  refine ND_retC (cs := eR e) (.inl rfl) rfl rfl memF rfl M0 (isR e 0 :: I0) subF incF ⟨rfl, e, rfl, he, rfl⟩
set_option maxRecDepth 100000 in
set_option maxHeartbeats 1000000 in
theorem minor_ok {m : MX} {n j k0 : Nat} (hn : n ≤ 100) (hd : m.dim (n + 1) (n + 1)) (hj : j ≤ n) (hw : isX m k0 ∈ I0) :
    CD Tryz.prog 143 [mv m, .int .i64 0, .int .i64 (j : Int)] X w0 M0 I0 (XQ (mkM n n (fun i c => at2 m.q (i + 1) (sk j c))) n n k0 M0 I0) := by
  have hl := hd.1
  refine CD_hv (φ := slI (m).p (recs eL (m).rows)) (Hv.xsl memF) ?_
  refine enterD3 Tryz.func143 rfl Tryz.ntmps143 rfl ?_
  repeat (refine wXh ?_)
  (refine RD_vals (cs := recs eL []) ([]) rfl rfl (by intro v hv; repeat (first | exact absurd hv (List.not_mem_nil) | (rcases List.mem_cons.1 hv with rfl | hv; · rfl))) (by omega) rfl rfl rfl ?_; intro bo; refine ⟨okF, ?_⟩; refine RD_toRow (mm := 0) 1 .here rfl (by omega) ?_)
  repeat (refine wXh ?_)
  refine TD_hv (φ := allL [] k0) Hv.nilL ?_
  refine TD_loop [0, 1, 2] rfl (fun k G M I => ∃ (i : Nat) (rs : List RL) (q : Option Addr) (c : Nat), i ≤ n + 1 ∧ k = n + 1 - i ∧ rs.length = i - 1 ∧ (∀ r ∈ rs, r.es.length = n) ∧ rs.map RL.q = (List.range (i - 1)).map (fun t => (List.range n).map (fun c => at2 m.q (t + 1) (sk j c))) ∧ G = [(7, .slice q rs.length c), (8, .int .i64 i)] ∧ M = .row q rs.length c (recs eL rs) 61 1 :: M0 ∧ I = allL rs k0 :: slI m.p (recs eL m.rows) :: I0) (n + 1) _ _ _ subG subF incF (⟨0, [], _, _, by omega, rfl, rfl, by simp, rfl, rfl, rfl, rfl⟩) ?_
  rintro kk G M I ⟨i, rs, q, c, hi, rfl, hrl, hrc, hrq, rfl, rfl, rfl⟩
  by_cases hin : i < n + 1
  · by_cases hi0 : i = 0
    · subst hi0
      repeat (refine wXh ?_)
      refine ND_again (n + 1 - (0 + 1)) _ _ _ (by first | omega | (simp only [List.length_append, List.length_cons, List.length_nil]; omega)) subG subF incF (⟨0 + 1, rs, q, c, by omega, rfl, hrl, hrc, hrq, rfl, rfl, rfl⟩)
    · have hrow := hd.row hin
      refine TD_hv (φ := slI (gt (m).rows (i : Int)).p (recs eR (gt (m).rows (i : Int)).es)) (Hv.xrsl memF (by omega)) ?_
      repeat (refine wXh ?_)
      (refine RD_vals (cs := recs eR []) ([]) rfl rfl (by intro v hv; repeat (first | exact absurd hv (List.not_mem_nil) | (rcases List.mem_cons.1 hv with rfl | hv; · rfl))) (by omega) rfl rfl rfl ?_; intro bl; refine ⟨okF, ?_⟩; refine RD_toRow (mm := 0) 4 .here rfl (by omega) ?_)
      repeat (refine wXh ?_)
      refine TD_hv (φ := allR [] k0) Hv.nilR ?_
      refine TD_loop [0, 1, 2, 7, 8] rfl (fun k G M I => ∃ (u : Nat) (es : List RE) (ql : Option Addr) (cl : Nat), u ≤ n + 1 ∧ k = n + 1 - u ∧ es.length = (if u ≤ j then u else u - 1) ∧ qs es = (List.range (if u ≤ j then u else u - 1)).map (fun c => at2 m.q i (sk j c)) ∧ G = [(9, .slice ql es.length cl), (10, .int .i64 u)] ∧ M = .row ql es.length cl (recs eR es) 26 4 :: .row q rs.length c (recs eL rs) 61 1 :: M0 ∧ I = allR es k0 :: slI (gt m.rows (i : Int)).p (recs eR (gt m.rows (i : Int)).es) :: allL rs k0 :: slI m.p (recs eL m.rows) :: I0) (n + 1) _ _ _ subG subF incF (⟨0, [], _, _, by omega, rfl, by simp, by simp, rfl, rfl, rfl⟩) ?_
      rintro kk G M I ⟨u, es, ql, cl, hu, rfl, hel, heq, rfl, rfl, rfl⟩
      have hel2 : es.length ≤ n + 1 := by rw [hel]; split <;> omega
      by_cases hun : u < n + 1
      · by_cases huj : u = j
        · repeat (refine wXh ?_)
          refine ND_again (n + 1 - (u + 1)) _ _ _ (by first | omega | (simp only [List.length_append, List.length_cons, List.length_nil]; omega)) subG subF incF (⟨u + 1, es, ql, cl, by omega, rfl, ?_, ?_, rfl, rfl, rfl⟩)
          · rw [hel, if_pos (by omega), if_neg (by omega)]; omega
          · rw [heq, if_pos (by omega), if_neg (by omega), Nat.add_sub_cancel]
        · repeat (refine wXh ?_)
          refine RD_hv (φ := isR (gt (gt m.rows (i : Int)).es (u : Int)) k0) (Hv.xel memF (by omega) (by omega)) ?_
          (refine RD_vals (cs := recs eR [gt (gt m.rows (i : Int)).es (u : Int)]) ([rv (gt (gt m.rows (i : Int)).es (u : Int))]) rfl rfl (by intro v hv; repeat (first | exact absurd hv (List.not_mem_nil) | (rcases List.mem_cons.1 hv with rfl | hv; · rfl))) (by omega) rfl rfl rfl ?_; intro b; refine ⟨okF, ?_⟩)
          (refine RD_appR (ys := [gt (gt m.rows (i : Int)).es (u : Int)]) 1 rfl rfl rfl ?_ (by decide) rfl (by omega) (by omega) rfl rfl ?_; (· first | exact Src.blk memF | exact Src.row memF | exact Src.imm memF (by first | assumption | exact .inl (Ok.mk _ _))); intro q2 c2; refine ⟨okF, ?_⟩)
          repeat (refine wXh ?_)
          refine ND_hv (φ := allR (es ++ [gt (gt m.rows (i : Int)).es (u : Int)]) k0) (Hv.snoc memF memF) ?_
          refine ND_again (n + 1 - (u + 1)) _ _ _ (by first | omega | (simp only [List.length_append, List.length_cons, List.length_nil]; omega)) subG subF incF (⟨u + 1, es ++ [gt (gt m.rows (i : Int)).es (u : Int)], q2, c2, by omega, rfl, ?_, ?_, rfl, rfl, rfl⟩)
          · rw [List.length_append, hel, List.length_singleton]
            by_cases h1 : u ≤ j
            · rw [if_pos h1, if_pos (by omega)]
            · rw [if_neg h1, if_neg (by omega)]; omega
          · have hat := at2_q (m := m) (i := i) (j := u) (by omega) (by omega)
            show (es ++ [_]).map RE.q = _
            rw [List.map_append]
            show qs es ++ [(gt (gt m.rows (i : Int)).es (u : Int)).q] = _
            rw [heq, ← hat]
            by_cases h1 : u ≤ j
            · rw [if_pos h1, if_pos (by omega), List.range_succ, List.map_append]
              simp [sk, show u < j by omega]
            · rw [if_neg h1, if_neg (by omega), show u + 1 - 1 = (u - 1) + 1 by omega, List.range_succ, List.map_append]
              simp [sk, show ¬ u - 1 < j by omega, show u - 1 + 1 = u by omega]
      · obtain rfl : u = n + 1 := by omega
        rw [if_neg (by omega)] at hel heq
        repeat (refine wXh ?_)
        refine RD_toL memF ?_
        (refine RD_vals (cs := recs eL [(⟨ql, cl, es⟩ : RL)]) ([lv (⟨ql, cl, es⟩ : RL)]) rfl rfl (by intro v hv; repeat (first | exact absurd hv (List.not_mem_nil) | (rcases List.mem_cons.1 hv with rfl | hv; · rfl))) (by omega) rfl rfl rfl ?_; intro b; refine ⟨okF, ?_⟩)
        (refine RD_appR (ys := [(⟨ql, cl, es⟩ : RL)]) 1 rfl rfl rfl ?_ (by decide) rfl (by omega) (by omega) rfl rfl ?_; (· first | exact Src.blk memF | exact Src.row memF | exact Src.imm memF (by first | assumption | exact .inl (Ok.mk _ _))); intro q2 c2; refine ⟨okF, ?_⟩)
        repeat (refine wXh ?_)
        refine ND_hv (φ := allL (rs ++ [(⟨ql, cl, es⟩ : RL)]) k0) (Hv.snocL memF memF) ?_
        refine ND_again (n + 1 - (i + 1)) _ _ _ (by first | omega | (simp only [List.length_append, List.length_cons, List.length_nil]; omega)) subG subF incF (⟨i + 1, rs ++ [(⟨ql, cl, es⟩ : RL)], q2, c2, by omega, rfl, ?_, ?_, ?_, rfl, rfl, rfl⟩)
        · rw [List.length_append, hrl, List.length_singleton]; omega
        · intro r hr
          rcases List.mem_append.1 hr with h | h
          · exact hrc r h
          · rw [List.mem_singleton.1 h]; exact hel
        · rw [q_snoc, hrq, show i + 1 - 1 = (i - 1) + 1 by omega, List.range_succ, List.map_append]
          show _ ++ [qs es] = _
          rw [heq]
          simp [show i - 1 + 1 = i by omega]
  · obtain rfl : i = n + 1 := by omega
    repeat (refine wXh ?_)
    refine ND_toX memF ?_
    refine ND_ret1 (by first | exact .inl rfl | exact .inr rfl) rfl rfl _ _ subF incF (⟨rfl, ⟨q, c, rs⟩, rfl, hrq, ⟨hrl, hrc⟩, rfl⟩)
set_option maxRecDepth 100000 in
set_option maxHeartbeats 2000000 in
theorem rDet_ok : ∀ (n : Nat) {M0 : List Ent} {I0 : List Imm} {m : MX} {k0 : Nat}, 1 ≤ n → n ≤ 100 → hD k0 n ≤ 50000000 → m.dim n n → isX m k0 ∈ I0 → CD Tryz.prog 53 [mv m] X w0 M0 I0 (RQ (dt n (at2 m.q)) (hD k0 n) M0 I0)
  | 0, _, _, _, _, h, _, _, _, _ => by omega
  | 1, M0, I0, m, k0, _, _, hK, hd, hw => by
    have hl := hd.1
    have hrow : (gt m.rows 0).es.length = 1 := hd.row (i := 0) (by omega)
    have hKK : 2 * (k0 + k0 + 1) ≤ 50000000 := hK
    refine CD_hv (φ := slI (m).p (recs eL (m).rows)) (Hv.xsl memF) ?_
    refine CD_hv (φ := slI (gt (m).rows 0).p (recs eR (gt (m).rows 0).es)) (Hv.xrsl memF (by omega)) ?_
    refine enterD1 Tryz.func53 rfl Tryz.ntmps53 rfl ?_
    refine TD_seq ?_
    refine TD_region ?_
    (refine RD_alloc rfl rfl ?_; intro b2; refine ⟨okF, ?_⟩)
    repeat (refine wXh ?_)
    refine ND_hv (φ := isR (gt (gt m.rows 0).es 0) k0) (Hv.xel memF (by omega) (by omega)) ?_
    refine ND_hv (φ := isR (gt (gt m.rows 0).es 0) (hD k0 1)) (Hv.q (k := k0) (List.Mem.head _) (by show k0 ≤ 2 * (k0 + k0 + 1); omega)) ?_
    refine ND_retC (cs := eR (gt (gt m.rows 0).es 0)) (.inl rfl) rfl rfl memF rfl M0 (isR (gt (gt m.rows 0).es 0) (hD k0 1) :: I0) subF incF ⟨rfl, _, rfl, ?_, rfl⟩
    have hat : at2 m.q 0 0 = (gt (gt m.rows 0).es 0).q := at2_q (m := m) (i := 0) (j := 0) (by omega) (by show 0 < (gt m.rows 0).es.length; omega)
    show (gt (gt m.rows 0).es 0).q = 0 + sgd 0 * at2 m.q 0 0 * 1
    rw [hat]
    simp only [sgd]
    grind
  | n + 2, M0, I0, m, k0, _, hn, hK, hd, hw => by
    have hl := hd.1
    have hrow : (gt m.rows 0).es.length = n + 2 := hd.row (i := 0) (by omega)
    obtain ⟨hh, hhe⟩ : ∃ hh, hh = hD k0 (n + 1) := ⟨_, rfl⟩
    have hKe : hD k0 (n + 2) = (n + 3) * (k0 + hh + 1) := by rw [hhe]; rfl
    rw [hKe] at hK ⊢
    obtain ⟨c, hc⟩ : ∃ c, c = k0 + hh + 1 := ⟨_, rfl⟩
    rw [← hc] at hK ⊢
    have hc1 : c ≤ 50000000 := Nat.le_trans (Nat.le_mul_of_pos_left c (by omega)) hK
    have ih := fun (m' : MX) M0 I0 h1 h2 => rDet_ok (n + 1) (M0 := M0) (I0 := I0) (m := m') (k0 := k0) (by omega) (by omega) (by omega) h1 h2
    rw [← hhe] at ih
    have hW := fun M0 I0 => rWhole05_ok (X := X) (w0 := w0) (M0 := M0) (I0 := I0) (x := 0) (by decide)
    have hMi := fun (t : Nat) M0 I0 ht h2 => minor_ok (X := X) (w0 := w0) (M0 := M0) (I0 := I0) (m := m) (n := n + 1) (j := t) (k0 := k0) (by omega) hd ht h2
    refine CD_hv (φ := slI (m).p (recs eL (m).rows)) (Hv.xsl memF) ?_
    refine CD_hv (φ := slI (gt (m).rows 0).p (recs eR (gt (m).rows 0).es)) (Hv.xrsl memF (by omega)) ?_
    refine enterD1 Tryz.func53 rfl Tryz.ntmps53 rfl ?_
    refine TD_seq ?_
    refine TD_region ?_
    (refine RD_alloc rfl rfl ?_; intro b2; refine ⟨okF, ?_⟩)
    repeat (refine wXh ?_)
    (refine RD_callS rfl (hW _ _) rfl rfl ?_; rintro _ _ _ ⟨rfl, s0, rfl, hs0, rfl⟩; refine ⟨okF, ?_⟩)
    repeat (refine wXh ?_)
    (refine RD_alloc rfl rfl ?_; intro b3; refine ⟨okF, ?_⟩)
    repeat (refine wXh ?_)
    refine TD_loop [0, 2, 3] rfl (fun k G M I => ∃ (t : Nat) (s : RE), t ≤ n + 2 ∧ k = n + 2 - t ∧ s.q = sm t (fun j => sgd j * at2 m.q 0 j * dt (n + 1) (fun i c => at2 m.q (i + 1) (sk j c))) ∧ G = [(4, .int .i64 t)] ∧ M = .blk b3 (eR s) 26 :: .blk b2 [.bool false, .slice none 0 0, .bool false, .slice none 0 0] 26 :: M0 ∧ I = isR s (t * c) :: slI (gt m.rows 0).p (recs eR (gt m.rows 0).es) :: slI m.p (recs eL m.rows) :: I0) (n + 2) _ _ _ subG subF incF (⟨0, s0, by omega, rfl, hs0, rfl, rfl, by rw [Nat.zero_mul]⟩) ?_
    rintro kk G M I ⟨t, s, ht, rfl, hs, rfl, rfl, rfl⟩
    by_cases htn : t < n + 2
    · have hu2 : (t + 1) * c = t * c + c := Nat.succ_mul t c
      have hu3 : (t + 1) * c ≤ 50000000 := Nat.le_trans (Nat.mul_le_mul_right c (show t + 1 ≤ n + 3 by omega)) hK
      have hat : at2 m.q 0 t = (gt (gt m.rows 0).es (t : Int)).q := at2_q (m := m) (i := 0) (j := t) (by omega) (by show t < (gt m.rows 0).es.length; omega)
      have hEl : ∀ I, isX m k0 ∈ I → Hv I (isR (gt (gt m.rows 0).es (t : Int)) k0) := fun I h => Hv.xel h (by omega) (by omega)
      have hS := fun M0 I0 h => rQSign_ok (X := X) (w0 := w0) (M0 := M0) (I0 := I0) (e := gt (gt m.rows 0).es (t : Int)) (k := k0) (by omega) h
      generalize t * c = u at *
      by_cases hx0 : (gt (gt m.rows 0).es (t : Int)).q = 0
      · rw [(sign0 _).2 hx0] at hS
        repeat (refine wXh ?_)
        (refine RD_callS rfl (hS _ _ (hEl _ memF)) rfl rfl ?_; rintro _ _ _ ⟨rfl, rfl, rfl⟩; refine ⟨okF, ?_⟩)
        repeat (refine wXh ?_)
        refine ND_hv (φ := isR s ((t + 1) * c)) (Hv.q (k := u) memF (by omega)) ?_
        refine ND_again (n + 2 - (t + 1)) _ _ _ (by first | omega | (simp only [List.length_append, List.length_cons, List.length_nil]; omega)) subG subF incF (⟨t + 1, s, by omega, rfl, ?_, rfl, rfl, rfl⟩)
        simp only [sm]
        have hx1 : at2 m.q 0 t = 0 := by rw [hat]; exact hx0
        rw [hs, hx1]; grind
      · have hs0 : ¬ (gt (gt m.rows 0).es (t : Int)).q.num.sign = 0 := fun h => hx0 ((sign0 _).1 h)
        generalize (gt (gt m.rows 0).es (t : Int)).q.num.sign = sg1 at *
        repeat (refine wXh ?_)
        (refine RD_callS rfl (hS _ _ (hEl _ memF)) rfl rfl ?_; rintro _ _ _ ⟨rfl, rfl, rfl⟩; refine ⟨okF, ?_⟩)
        repeat (refine wXh ?_)
        refine TD_cutT (fun G M I => ∃ (b5 : Nat) (e : RE), e.q = at2 m.q 0 t * dt (n + 1) (fun i c => at2 m.q (i + 1) (sk t c)) ∧ G = [(0, mv m), (2, .pointer (some ⟨b2, 0, none⟩)), (3, .pointer (some ⟨b3, 0, none⟩)), (4, .int .i64 (t : Int)), (5, .pointer (some ⟨b5, 0, none⟩))] ∧ M = .blk b5 (eR e) 26 :: .blk b3 (eR s) 26 :: .blk b2 [.bool false, .slice none 0 0, .bool false, .slice none 0 0] 26 :: M0 ∧ I = isR e (k0 + hh) :: isR s u :: slI (gt m.rows 0).p (recs eR (gt m.rows 0).es) :: slI m.p (recs eL m.rows) :: I0) ?_ ?_
        · have hfin : ∀ (y : MX) (e3 : RE), y.q = mkM (n + 1) (n + 1) (fun i c => at2 m.q (i + 1) (sk t c)) → e3.q = (gt (gt m.rows 0).es (t : Int)).q * dt (n + 1) (at2 y.q) → e3.q = at2 m.q 0 t * dt (n + 1) (fun i c => at2 m.q (i + 1) (sk t c)) := fun y e3 h1 h2 => by
            rw [h2, hat]
            congr 1
            exact dt_congr (fun i j hi hj => by rw [h1, mkM_at hi hj])
          ((repeat refine TD_seq ?_); refine TD_rest (.blk b3 (eR s) 26 :: .blk b2 [.bool false, .slice none 0 0, .bool false, .slice none 0 0] 26 :: M0) (isR s u :: slI (gt m.rows 0).p (recs eR (gt m.rows 0).es) :: slI m.p (recs eL m.rows) :: I0) mixed ?_)
          refine ND_restPre (fuel := 5) (listed' := #[true, true, true, true, true, true, true, true, false, false, false, false, false]) [0, 1, 2, 3, 4, 5, 6, 7] [4, 4, 4, 4, 4, 3, 3, 3] subF incF (by kernel_rfl) (by kernel_rfl) rfl rfl ?_
          repeat (refine wXh ?_)
          refine ND_restFork (fuel := 4) (i := 8) (j := 11) (by kernel_rfl) ?_ ?_
          · (refine RD_callS rfl (hMi t _ _ (by omega) memF) rfl rfl ?_; rintro _ _ _ ⟨rfl, y, rfl, hy, hyd, rfl⟩; refine ⟨okF, ?_⟩)
            refine RD_nil ?_
            repeat (refine wXh ?_)
            refine ND_restFork (fuel := 3) (i := 9) (j := 11) (by kernel_rfl) ?_ ?_
            · (refine RD_callS rfl (ih y _ _ hyd memF) rfl rfl ?_; rintro _ _ _ ⟨rfl, e2, rfl, he2, rfl⟩; refine ⟨okF, ?_⟩)
              refine RD_nil ?_
              repeat (refine wXh ?_)
              refine ND_restFork (fuel := 2) (i := 10) (j := 11) (by kernel_rfl) ?_ ?_
              · (refine RD_callS rfl (rQMul_ok (k := k0) (m := hh) (by omega) (hEl _ memF) (Hv.mem memF)) rfl rfl ?_; rintro _ _ _ ⟨rfl, e3, rfl, he3, rfl⟩; refine ⟨okF, ?_⟩)
                refine RD_nil ?_
                refine ND_restEnd [11, 12] [0, 0] subF incF (by kernel_rfl) (by kernel_rfl) rfl rfl ?_
                repeat (refine wXh ?_)
                (refine RD_alloc rfl rfl ?_; intro b5; refine ⟨okF, ?_⟩)
                repeat (refine wXh ?_)
                refine ND_cut _ _ _ subG subF incF ⟨b5, e3, hfin y e3 hy (by rw [he3, he2]), rfl, rfl, rfl⟩
              · (refine RD_alloc rfl rfl ?_; intro b5; refine ⟨okF, ?_⟩)
                refine RD_nil ?_
                refine ND_restEnd [10, 12] [0, 0] subF incF (by kernel_rfl) (by kernel_rfl) rfl rfl ?_
                repeat (refine wXh ?_)
                (refine RD_callS rfl (rQMul_ok (k := k0) (m := hh) (by omega) (hEl _ memF) (Hv.mem memF)) rfl rfl ?_; rintro _ _ _ ⟨rfl, e3, rfl, he3, rfl⟩; refine ⟨okF, ?_⟩)
                repeat (refine wXh ?_)
                refine ND_cut _ _ _ subG subF incF ⟨b5, e3, hfin y e3 hy (by rw [he3, he2]), rfl, rfl, rfl⟩
            · (refine RD_alloc rfl rfl ?_; intro b5; refine ⟨okF, ?_⟩)
              refine RD_nil ?_
              refine ND_restEnd [9, 10, 12] [0, 0, 0] subF incF (by kernel_rfl) (by kernel_rfl) rfl rfl ?_
              repeat (refine wXh ?_)
              (refine RD_callS rfl (ih y _ _ hyd memF) rfl rfl ?_; rintro _ _ _ ⟨rfl, e2, rfl, he2, rfl⟩; refine ⟨okF, ?_⟩)
              repeat (refine wXh ?_)
              (refine RD_callS rfl (rQMul_ok (k := k0) (m := hh) (by omega) (hEl _ memF) (Hv.mem memF)) rfl rfl ?_; rintro _ _ _ ⟨rfl, e3, rfl, he3, rfl⟩; refine ⟨okF, ?_⟩)
              repeat (refine wXh ?_)
              refine ND_cut _ _ _ subG subF incF ⟨b5, e3, hfin y e3 hy (by rw [he3, he2]), rfl, rfl, rfl⟩
          · (refine RD_alloc rfl rfl ?_; intro b5; refine ⟨okF, ?_⟩)
            refine RD_nil ?_
            refine ND_restEnd [8, 9, 10, 12] [0, 0, 0, 0] subF incF (by kernel_rfl) (by kernel_rfl) rfl rfl ?_
            repeat (refine wXh ?_)
            (refine RD_callS rfl (hMi t _ _ (by omega) memF) rfl rfl ?_; rintro _ _ _ ⟨rfl, y, rfl, hy, hyd, rfl⟩; refine ⟨okF, ?_⟩)
            repeat (refine wXh ?_)
            (refine RD_callS rfl (ih y _ _ hyd memF) rfl rfl ?_; rintro _ _ _ ⟨rfl, e2, rfl, he2, rfl⟩; refine ⟨okF, ?_⟩)
            repeat (refine wXh ?_)
            (refine RD_callS rfl (rQMul_ok (k := k0) (m := hh) (by omega) (hEl _ memF) (Hv.mem memF)) rfl rfl ?_; rintro _ _ _ ⟨rfl, e3, rfl, he3, rfl⟩; refine ⟨okF, ?_⟩)
            repeat (refine wXh ?_)
            refine ND_cut _ _ _ subG subF incF ⟨b5, e3, hfin y e3 hy (by rw [he3, he2]), rfl, rfl, rfl⟩
        · rintro G M I ⟨b5, e, he, rfl, rfl, rfl⟩
          have htm : (t : Int).tmod 2 = (t : Int) % 2 := Int.tmod_eq_emod_of_nonneg (by omega)
          by_cases hodd : t % 2 = 1
          · repeat (refine wXh ?_)
            (refine RD_callS rfl (rQNeg_ok (k := k0 + hh) (by omega) (Hv.mem memF)) rfl rfl ?_; rintro _ _ _ ⟨rfl, e4, rfl, he4, rfl⟩; refine ⟨okF, ?_⟩)
            repeat (refine wXh ?_)
            (refine RD_callS rfl (rQAdd_ok (k := u) (m := k0 + hh) (by omega) (Hv.mem memF) (Hv.mem memF)) rfl rfl ?_; rintro _ _ _ ⟨rfl, e5, rfl, he5, rfl⟩; refine ⟨okF, ?_⟩)
            repeat (refine wXh ?_)
            refine ND_hv (φ := isR e5 ((t + 1) * c)) (Hv.q (k := u + (k0 + hh) + 1) memF (by omega)) ?_
            refine ND_again (n + 2 - (t + 1)) _ _ _ (by first | omega | (simp only [List.length_append, List.length_cons, List.length_nil]; omega)) subG subF incF (⟨t + 1, e5, by omega, rfl, ?_, rfl, rfl, rfl⟩)
            simp only [sm]
            rw [he5, he4, he, hs]
            simp only [sgd, if_neg (show ¬ t % 2 = 0 by omega)]
            grind
          · repeat (refine wXh ?_)
            (refine RD_callS rfl (rQAdd_ok (k := u) (m := k0 + hh) (by omega) (Hv.mem memF) (Hv.mem memF)) rfl rfl ?_; rintro _ _ _ ⟨rfl, e5, rfl, he5, rfl⟩; refine ⟨okF, ?_⟩)
            repeat (refine wXh ?_)
            refine ND_hv (φ := isR e5 ((t + 1) * c)) (Hv.q (k := u + (k0 + hh) + 1) memF (by omega)) ?_
            refine ND_again (n + 2 - (t + 1)) _ _ _ (by first | omega | (simp only [List.length_append, List.length_cons, List.length_nil]; omega)) subG subF incF (⟨t + 1, e5, by omega, rfl, ?_, rfl, rfl, rfl⟩)
            simp only [sm]
            rw [he5, he, hs]
            simp only [sgd, if_pos (show t % 2 = 0 by omega)]
            grind
    · obtain rfl : t = n + 2 := by omega
      repeat (refine wXh ?_)
      refine ND_hv (φ := isR s ((n + 3) * c)) (Hv.q (k := (n + 2) * c) memF (Nat.mul_le_mul_right c (by omega))) ?_
      refine ND_retC (cs := eR s) (.inl rfl) rfl rfl memF rfl M0 (isR s ((n + 3) * c) :: I0) subF incF ⟨rfl, s, rfl, hs, rfl⟩
end
end Go.Proofs.YtdmlebigkakplaaGreat

/- Forest: the stable sort of numbers. -/
import Derived.Test.YtkhgglkkdnemlaaZhai
import Derived.Test.YtkhgglkkdnemlaaZhae
set_option linter.unusedSimpArgs false
set_option linter.unusedVariables false
namespace Go.Proofs.Ytkhgglkkdnemlaa
open Go Go.Fx
/- ---------- the stable sort of []int ---------- -/
section
variable {X : List Nat} {w0 : World} {M0 : List Ent} {I0 : List Imm}
/-- what is asked of the comparing function -/
def CmpI (g : FuncId) (fs cs' : Array Value) (key : Int → Int) (Pr : Int → Prop) (X : List Nat) (w0 : World) (b : Nat) (e : TypeId) (M0 : List Ent) (I0 : List Imm) : Prop :=
  ∀ (cs : List Value) (x y : Int), Pr x → Pr y → CD Try.prog g (fs.toList ++ [(Value.int .i64) x, (Value.int .i64) y] ++ cs'.toList) X w0 (.blk b cs e :: M0) I0 (fun v M I => .blk b cs e :: M0 = M ∧ I0 = I ∧ ∃ r : Int, v = .int .i64 r ∧ (r < 0 ↔ key x < key y))

theorem insI_ok {g : FuncId} [FnOk Try.prog g] {fs cs' : Array Value} {key : Int → Int} {Pr : Int → Prop} {b n c : Nat} {tl : List Value} (hcmp : CmpI g fs cs' key Pr X w0 b 3 M0 I0) {P B S : List Int} {a z : Int} (hn : n = (P ++ B ++ S).length) (hPr : ∀ x ∈ B, Pr x)
    (ha : a = P.length) (hz : z = P.length + B.length) (hbd : (n : Int) ≤ 1000000) :
    CD Try.prog 81 [.slice (some ⟨b, 0, none⟩) n c, .int .i64 a, .int .i64 z, .func (.func g) fs cs'] X w0 (.blk b (recs (eI .i64) (P ++ B ++ S) ++ tl) 3 :: M0) I0
      (fun _ M I => .blk b (recs (eI .i64) (P ++ srt key B ++ S) ++ tl) 3 :: M0 = M ∧ I0 = I) := by
  have hlen : (P ++ B ++ S).length = P.length + B.length + S.length := by simp [Nat.add_assoc]
  refine enterD Try.func81 rfl Try.ntmps81 rfl ?_
  repeat (refine wXn ?_)
  refine TD_loop [0, 1, 2, 3] rfl (fun k G M I => ∃ (q : Nat) (i : Int) (D : List Int), i = a + 1 + q ∧ k = B.length - q ∧ (i ≤ z ∨ q = 0) ∧ D = P ++ (srt key (B.take (q + 1)) ++ (B.drop (q + 1) ++ S)) ∧ G = [(8, .int .i64 i)] ∧ M = .blk b (recs (eI .i64) D ++ tl) 3 :: M0 ∧ I0 = I) (B.length) _ _ _ subG subP incL (⟨0, a + 1, _, by omega, by omega, .inr rfl, ?_, rfl, rfl, rfl⟩) ?_
  · cases B with
    | nil => simp [srt_nil]
    | cons x r => simp [srt, nil_mg]
  rintro k G M I ⟨q, i, D, hi, rfl, hq, hD, rfl, rfl, rfl⟩
  have hDl : D.length = n := by
    rw [hD, hn]; simp [srt_len]; omega
  repeat' (first | refine wXn ?_ | (refine TD_isCo ?_; first | refine TD_dec rfl (fun h => ?_) (fun h => ?_) | refine TD_cond rfl (fun h => ?_) (fun h => ?_)) | (refine RD_isGu ?_; first | refine RD_grd rfl rfl (fun h => ?_) (fun h => ?_) | (fail_if_success (refine RD_isW rfl ?_); refine RD_grdB rfl rfl (fun h => ?_) (fun h => ?_))))
  · have hqB : q + 1 < B.length := by omega
    have hx : B.drop (q + 1) = B[q + 1] :: B.drop (q + 2) := List.drop_eq_getElem_cons hqB
    have hxB : B[q + 1] ∈ B := List.getElem_mem hqB
    have htk : B.take (q + 2) = B.take (q + 1) ++ [B[q + 1]] := List.take_succ_eq_append_getElem hqB
    generalize B[q + 1] = x at hx hxB htk
    have hsl := srt_len key (B.take (q + 1))
    have htl : (B.take (q + 1)).length = q + 1 := by simp; omega
    refine TD_loop [0, 1, 2, 3, 8] rfl (fun k G M I => ∃ (P1 P2 D : List Int) (j : Int), srt key (B.take (q + 1)) = P1 ++ P2 ∧ j = P.length + P1.length ∧ k = P1.length ∧ (∀ y ∈ P2, key x < key y) ∧ D = (P ++ P1) ++ x :: (P2 ++ (B.drop (q + 2) ++ S)) ∧ G = [(9, .int .i64 j)] ∧ M = .blk b (recs (eI .i64) D ++ tl) 3 :: M0 ∧ I0 = I) (q + 1) _ _ _ subG subP incL (⟨srt key (B.take (q + 1)), [], D, i, by simp, by omega, by omega, by simp, by rw [hD, hx]; simp, rfl, rfl, rfl⟩) ?_
    rintro k G M I ⟨P1, P2, D, j, hs, hj, rfl, hP2, hD', rfl, rfl, rfl⟩
    have hDl' : D.length = n := by
      have := congrArg List.length hs
      rw [hD', hn]; simp at this ⊢; omega
    have hasc := srt_asc key (B.take (q + 1))
    rw [hs] at hasc
    have done1 : (∀ y ∈ P1, key y ≤ key x) → D = P ++ (srt key (B.take (q + 1 + 1)) ++ (B.drop (q + 1 + 1) ++ S)) := fun h1 => by
      rw [show q + 1 + 1 = q + 2 from rfl, htk, srt_snoc, hs, mg_one key h1 hP2, hD']
      simp
    have hl2 := congrArg List.length hs
    simp only [List.length_append] at hl2
    by_cases hja : a < j
    · have hne : P1 ≠ [] := by intro e; subst e; simp at hj; omega
      obtain ⟨Q1, y, rfl⟩ : ∃ Q1 y, P1 = Q1 ++ [y] := ⟨P1.dropLast, P1.getLast hne, (List.dropLast_concat_getLast hne).symm⟩
      have hyB : y ∈ B := by
        have : y ∈ srt key (B.take (q + 1)) := by rw [hs]; simp
        exact List.mem_of_mem_take ((srt_mem key y _ _ rfl).1 this)
      simp only [List.length_append, List.length_cons, List.length_nil] at hj hl2
      have hDe : D = (P ++ Q1) ++ y :: x :: (P2 ++ (B.drop (q + 2) ++ S)) := by rw [hD']; simp
      have gj : gt D j = x := by rw [hD']; exact gt_at (by simp; omega)
      have gj1 : gt D (j - 1) = y := by rw [hDe]; exact gt_at (by simp; omega)
      (repeat refine TD_seq ?_); refine TD_drawn [0, 1, 2, 3, 4, 5, 6, 7, 8, 9, 10, 11, 12, 13, 14, 15, 16] [1, 1, 1, 0, 0, 1, 1, 1, 0, 1, 1, 1, 1, 0, 0, 0, 0] mixed (by kernel_rfl) ?_
      repeat (refine wXn ?_)
      rw [gj, gj1]
      (refine RD_callV rfl rfl (hcmp _ x y (hPr x hxB) (hPr y hyB)) rfl rfl rfl ?_; rintro _ _ _ ⟨rfl, rfl, r, rfl, hr⟩; refine ⟨okD, ?_⟩)
      by_cases hxy : key x < key y
      · have hr0 : r < 0 := hr.2 hxy
        repeat (refine wXn ?_)
        (repeat refine TD_seq ?_); refine TD_drawn1 [0, 1, 2, 3, 4, 5, 6, 7, 8, 9, 10, 11, 12, 13, 14, 15, 16, 17] [0, 0, 1, 1, 1, 0, 0, 0, 0, 0, 1, 1, 1, 0, 0, 0, 0, 0] mixed (by kernel_rfl) ?_
        repeat (refine wXn ?_)
        rw [gj, gj1]
        refine ND_again (Q1.length) _ _ _ (by simp) subG subP incL ⟨Q1, y :: P2, _, j - 1, by rw [hs]; simp, by omega, rfl, fun u hu => ?_, ?_, rfl, rfl, rfl⟩
        · rcases List.mem_cons.1 hu with rfl | hu
          · exact hxy
          · exact hP2 u hu
        · rw [hDe, swap2' (by simp; omega) (by simp; omega)]
          simp
      · have hr0 : ¬ r < 0 := fun h => hxy (hr.1 h)
        repeat (refine wXn ?_)
        refine ND_again (B.length - (q + 1)) _ _ _ (by first | omega | (simp only [List.length_append, List.length_cons, List.length_nil]; omega)) subG subP incL (⟨q + 1, i + 1, D, by omega, rfl, .inl (by omega), done1 (fun u hu => ?_), rfl, rfl, rfl⟩)
        rcases List.mem_append.1 hu with hu | hu
        · have := Asc.cross key (Asc.left key hasc) u hu y (by simp)
          omega
        · simp at hu; subst hu; omega
    · have : P1 = [] := List.eq_nil_of_length_eq_zero (by omega)
      subst this
      (repeat refine TD_seq ?_); refine TD_drawn [0, 1, 2, 3, 4, 5, 6, 7, 8, 9, 10, 11, 12, 13, 14, 15, 16] [1, 1, 1, 0, 0, 1, 1, 1, 0, 1, 1, 1, 1, 0, 0, 0, 0] mixed (by kernel_rfl) ?_
      repeat (refine wXn ?_)
      refine ND_again (B.length - (q + 1)) _ _ _ (by first | omega | (simp only [List.length_append, List.length_cons, List.length_nil]; omega)) subG subP incL (⟨q + 1, i + 1, D, by omega, rfl, .inl (by omega), done1 (by simp), rfl, rfl, rfl⟩)
  · have h1 : B.take (q + 1) = B := List.take_of_length_le (by omega)
    have h2 : B.drop (q + 1) = [] := List.drop_eq_nil_of_le (by omega)
    rw [h1, h2] at hD
    simp only [List.nil_append, ← List.append_assoc] at hD
    subst hD
    refine ND_ret0 (by first | exact .inl rfl | exact .inr rfl) rfl _ _ subP incL (⟨rfl, rfl⟩)

theorem swpI_ok {fv : Value} {b n c : Nat} {tl : List Value} {P U V W S : List Int} {a z k : Int} (hn : n = (P ++ U ++ V ++ W ++ S).length) (ha : a = P.length) (hz : z = P.length + U.length + V.length) (hk : k = U.length) (hUW : U.length = W.length) (hbd : (n : Int) ≤ 1000000) :
    CD Try.prog 99 [.slice (some ⟨b, 0, none⟩) n c, .int .i64 a, .int .i64 z, .int .i64 k, fv] X w0 (.blk b (recs (eI .i64) (P ++ U ++ V ++ W ++ S) ++ tl) 3 :: M0) I0
      (fun _ M I => .blk b (recs (eI .i64) (P ++ W ++ V ++ U ++ S) ++ tl) 3 :: M0 = M ∧ I0 = I) := by
  have hlen : (P ++ U ++ V ++ W ++ S).length = P.length + U.length + V.length + W.length + S.length := by simp only [List.length_append]
  generalize hD0 : P ++ U ++ V ++ W ++ S = D0 at *
  refine enterD Try.func99 rfl Try.ntmps99 rfl ?_
  repeat (refine wXn ?_)
  refine TD_loop [0, 1, 2, 3] rfl (fun k G M I => ∃ (i : Nat) (D : List Int), i ≤ U.length ∧ k = U.length - i ∧ D.length = n ∧ (∀ t : Int, 0 ≤ t → gt D t = if a ≤ t ∧ t < a + i then gt D0 (t - a + z) else if z ≤ t ∧ t < z + i then gt D0 (t - z + a) else gt D0 t) ∧ G = [(10, .int .i64 i)] ∧ M = .blk b (recs (eI .i64) D ++ tl) 3 :: M0 ∧ I0 = I) (U.length) _ _ _ subG subP incL (⟨0, D0, by omega, rfl, by omega, fun t ht => by rw [if_neg (by omega), if_neg (by omega)], rfl, rfl, rfl⟩) ?_
  rintro k' G M I ⟨i, D, hi, rfl, hDl, hD, rfl, rfl, rfl⟩
  repeat' (first | refine wXn ?_ | (refine TD_isCo ?_; first | refine TD_dec rfl (fun h => ?_) (fun h => ?_) | refine TD_cond rfl (fun h => ?_) (fun h => ?_)) | (refine RD_isGu ?_; first | refine RD_grd rfl rfl (fun h => ?_) (fun h => ?_) | (fail_if_success (refine RD_isW rfl ?_); refine RD_grdB rfl rfl (fun h => ?_) (fun h => ?_))))
  · (repeat refine TD_seq ?_); refine TD_drawn1 [0, 1, 2, 3, 4, 5, 6, 7, 8, 9, 10, 11, 12, 13, 14, 15, 16, 17, 18, 19, 20, 21, 22, 23] [0, 0, 0, 0, 1, 1, 1, 1, 0, 0, 0, 0, 0, 0, 1, 1, 1, 1, 1, 0, 0, 0, 0, 0] mixed (by kernel_rfl) ?_
    repeat (refine wXn ?_)
    refine ND_again (U.length - (i + 1)) _ _ _ (by first | omega | (simp only [List.length_append, List.length_cons, List.length_nil]; omega)) subG subP incL (⟨i + 1, _, by omega, rfl, by rw [st_len, st_len]; exact hDl, fun t ht => ?_, rfl, rfl, rfl⟩)
    rw [gt_st _ (by rw [st_len]; omega) ht, gt_st _ (by omega) ht]
    have e1 := hD (z + i) (by omega)
    rw [if_neg (by omega), if_neg (by omega)] at e1
    have e2 := hD (a + i) (by omega)
    rw [if_neg (by omega), if_neg (by omega)] at e2
    by_cases c1 : t = z + i
    · subst c1
      rw [if_pos rfl, e2, if_neg (by omega), if_pos (by omega)]
      congr 1; omega
    · rw [if_neg c1]
      by_cases c2 : t = a + i
      · subst c2
        rw [if_pos rfl, e1, if_pos (by omega)]
        congr 1; omega
      · rw [if_neg c2, hD t ht]
        by_cases c3 : a ≤ t ∧ t < a + i
        · rw [if_pos c3, if_pos (by omega)]
        · rw [if_neg c3, if_neg (show ¬ (a ≤ t ∧ t < a + (i + 1 : Nat)) by omega)]
          by_cases c4 : z ≤ t ∧ t < z + i
          · rw [if_pos c4, if_pos (by omega)]
          · rw [if_neg c4, if_neg (by omega)]
  · obtain rfl : i = U.length := by omega
    have e : D = P ++ W ++ V ++ U ++ S := by
      refine swapBlocks (V := V) (S := S) hUW (by rw [hD0]; omega) (fun t ht => ?_)
      rw [hD0, hD t (by omega)]
      by_cases c1 : P.length ≤ t ∧ t < P.length + U.length
      · rw [if_pos (by omega), if_pos c1]; congr 1; omega
      · rw [if_neg (by omega), if_neg c1]
        by_cases c2 : P.length + U.length + V.length ≤ t ∧ t < P.length + U.length + V.length + W.length
        · rw [if_pos (by omega), if_pos c2]; congr 1; omega
        · rw [if_neg (by omega), if_neg c2]
    rw [e]
    refine ND_ret0 (by first | exact .inl rfl | exact .inr rfl) rfl _ _ subP incL (⟨rfl, rfl⟩)

theorem rotI_ok {fv : Value} {b n c : Nat} {tl : List Value} {P A B S : List Int} {a m z : Int} (hn : n = (P ++ A ++ B ++ S).length) (ha : a = P.length) (hm : m = P.length + A.length) (hz : z = P.length + A.length + B.length) (hA : 0 < A.length) (hB : 0 < B.length) (hbd : (n : Int) ≤ 1000000) :
    CD Try.prog 93 [.slice (some ⟨b, 0, none⟩) n c, .int .i64 a, .int .i64 m, .int .i64 z, fv] X w0 (.blk b (recs (eI .i64) (P ++ A ++ B ++ S) ++ tl) 3 :: M0) I0
      (fun _ M I => .blk b (recs (eI .i64) (P ++ B ++ A ++ S) ++ tl) 3 :: M0 = M ∧ I0 = I) := by
  have hn2 : n = P.length + A.length + B.length + S.length := by rw [hn]; simp only [List.length_append]
  clear hn
  refine enterD Try.func93 rfl Try.ntmps93 rfl ?_
  repeat (refine wXn ?_)
  refine TD_loop [0, 2, 4] rfl (fun k G M I => ∃ (P' A' B' S' D : List Int) (i j : Int), P ++ B ++ A ++ S = P' ++ B' ++ A' ++ S' ∧ D = P' ++ A' ++ B' ++ S' ∧ (P'.length : Int) = m - i ∧ (A'.length : Int) = i ∧ (B'.length : Int) = j ∧ 0 < i ∧ 0 < j ∧ k = A'.length + B'.length ∧ G = [(10, .int .i64 i), (11, .int .i64 j)] ∧ M = .blk b (recs (eI .i64) D ++ tl) 3 :: M0 ∧ I0 = I) (A.length + B.length) _ _ _ subG subP incL (⟨P, A, B, S, _, m - a, z - m, rfl, rfl, by omega, by omega, by omega, by omega, by omega, rfl, rfl, rfl, rfl⟩) ?_
  rintro k G M I ⟨P', A', B', S', D, i, j, hT, hD, hP', hA', hB', hi, hj, rfl, rfl, rfl, rfl⟩
  have hl := congrArg List.length hT
  simp only [List.length_append] at hl
  repeat' (first | refine wXn ?_ | (refine TD_isCo ?_; first | refine TD_dec rfl (fun h => ?_) (fun h => ?_) | refine TD_cond rfl (fun h => ?_) (fun h => ?_)) | (refine RD_isGu ?_; first | refine RD_grd rfl rfl (fun h => ?_) (fun h => ?_) | (fail_if_success (refine RD_isW rfl ?_); refine RD_grdB rfl rfl (fun h => ?_) (fun h => ?_))))
  · obtain ⟨A1, A2, rfl, hA1⟩ : ∃ A1 A2, A' = A1 ++ A2 ∧ (A1.length : Int) = j := ⟨A'.take j.toNat, A'.drop j.toNat, by simp, by simp; omega⟩
    simp only [List.length_append] at hA' hl
    have hDe : D = P' ++ A1 ++ A2 ++ B' ++ S' := by rw [hD]; simp
    rw [hDe]
    (refine RD_call rfl (swpI_ok (P := P') (U := A1) (V := A2) (W := B') (S := S') (by simp only [List.length_append]; omega) (by omega) (by omega) (by omega) (by omega) hbd) rfl rfl ?_; rintro _ _ _ ⟨rfl, rfl⟩; refine ⟨okD, ?_⟩)
    repeat (refine wXn ?_)
    refine ND_again (A2.length + A1.length) _ _ _ (by first | omega | (simp only [List.length_append, List.length_cons, List.length_nil]; omega)) subG subP incL (⟨P' ++ B', A2, A1, S', _, _, _, by rw [hT]; simp, by simp, by simp only [List.length_append]; omega, by omega, hA1, by omega, by omega, rfl, rfl, rfl, rfl⟩)
  · obtain ⟨B1, B2, rfl, hB1⟩ : ∃ B1 B2, B' = B1 ++ B2 ∧ (B1.length : Int) = j - i := ⟨B'.take (j - i).toNat, B'.drop (j - i).toNat, by simp, by simp; omega⟩
    simp only [List.length_append] at hB' hl
    have hDe : D = P' ++ A' ++ B1 ++ B2 ++ S' := by rw [hD]; simp
    rw [hDe]
    (refine RD_call rfl (swpI_ok (P := P') (U := A') (V := B1) (W := B2) (S := S') (by simp only [List.length_append]; omega) (by omega) (by omega) (by omega) (by omega) hbd) rfl rfl ?_; rintro _ _ _ ⟨rfl, rfl⟩; refine ⟨okD, ?_⟩)
    repeat (refine wXn ?_)
    refine ND_again (B2.length + B1.length) _ _ _ (by simp only [List.length_append]; omega) subG subP incL ⟨P', B2, B1, A' ++ S', _, _, _, by rw [hT]; simp, by simp, by omega, by omega, by omega, by omega, by omega, rfl, rfl, rfl, rfl⟩
  · have hDe : D = P' ++ A' ++ [] ++ B' ++ S' := by rw [hD]; simp
    rw [hDe]
    (refine RD_call rfl (swpI_ok (P := P') (U := A') (V := []) (W := B') (S := S') (by simp only [List.length_append, List.length_nil]; omega) (by omega) (by simp; omega) (by omega) (by omega) hbd) rfl rfl ?_; rintro _ _ _ ⟨rfl, rfl⟩; refine ⟨okD, ?_⟩)
    repeat (refine wXn ?_)
    rw [hT]
    refine ND_ret0 (.inr rfl) rfl _ _ subP incL ⟨by simp, rfl⟩
end

end Go.Proofs.Ytkhgglkkdnemlaa

/- Forest: the stable sort of numbers, whole. Forest: sorting at most 12 numbers. Forest: insertion sort of numbers, Sort. Plain: the links in order. Forest: the program's spanning forest of least weight. -/
import Derived.Test.YtkhgglkkdnemlaaZham
import Derived.Test.YtkhgglkkdnemlaaZhai
import Derived.Test.YtkhgglkkdnemlaaZhag
import Derived.Test.YtkhgglkkdnemlaaZhaj
import Derived.Test.YtkhgglkkdnemlaaZhak
set_option linter.unusedSimpArgs false
set_option linter.unusedVariables false
namespace Go.Proofs.Ytkhgglkkdnemlaa
open Go Go.Fx
/- ---------- the stable sort of []int: whole, below 40 elements ---------- -/
section
variable {X : List Nat} {w0 : World} {M0 : List Ent} {I0 : List Imm}
set_option maxHeartbeats 4000000 in
theorem staI_ok {g : FuncId} [FnOk Try.prog g] {fs cs' : Array Value} {key : Int → Int} {Pr : Int → Prop} {b c : Nat} {tl : List Value} {D : List Int} (hcmp : CmpI g fs cs' key Pr X w0 b 3 M0 I0) (hPr : ∀ x ∈ D, Pr x) (hbd : D.length < 40) :
    CD Try.prog 66 [.slice (some ⟨b, 0, none⟩) D.length c, .func (.func g) fs cs'] X w0 (.blk b (recs (eI .i64) D ++ tl) 3 :: M0) I0
      (fun v M I => v = .tuple #[] ∧ .blk b (recs (eI .i64) (srt key D) ++ tl) 3 :: M0 = M ∧ I0 = I) := by
  have hst : CD Try.prog 76 [.slice (some ⟨b, 0, none⟩) D.length c, .int .i64 D.length, .func (.func g) fs cs'] X w0 (.blk b (recs (eI .i64) D ++ tl) 3 :: M0) I0
      (fun _ M I => .blk b (recs (eI .i64) (srt key D) ++ tl) 3 :: M0 = M ∧ I0 = I) := by
    by_cases h20 : D.length < 20
    · have h1 := insI_ok (P := []) (B := D) (S := []) (a := 0) (z := D.length) (n := D.length) (c := c) (tl := tl) hcmp (by simp) hPr (by simp) (by simp) (by omega)
      simp only [List.append_nil, List.nil_append] at h1
      refine enterD Try.func76 rfl Try.ntmps76 rfl ?_
      repeat (refine wXn ?_)
      refine TD_loop [0, 1, 2, 6] rfl (fun k G M I => k = 0 ∧ G = [(7, .int .i64 0), (8, .int .i64 20)] ∧ M = .blk b (recs (eI .i64) D ++ tl) 3 :: M0 ∧ I0 = I) (0) _ _ _ subG subP incL (⟨rfl, rfl, rfl, rfl⟩) ?_
      rintro k G M I ⟨rfl, rfl, rfl, rfl⟩
      repeat (refine wXn ?_)
      (refine RD_call rfl (h1) rfl rfl ?_; rintro _ _ _ ⟨rfl, rfl⟩; refine ⟨okD, ?_⟩)
      repeat (refine wXn ?_)
      refine TD_loop [0, 1, 2] rfl (fun k G M I => k = 0 ∧ G = [(6, .int .i64 20)] ∧ M = .blk b (recs (eI .i64) (srt key D) ++ tl) 3 :: M0 ∧ I0 = I) (0) _ _ _ subG subP incL (⟨rfl, rfl, rfl, rfl⟩) ?_
      rintro k G M I ⟨rfl, rfl, rfl, rfl⟩
      repeat (refine wXn ?_)
      refine ND_ret0 (by first | exact .inl rfl | exact .inr rfl) rfl _ _ subP incL (⟨rfl, rfl⟩)
    · obtain ⟨E, F, rfl, hE⟩ : ∃ E F, D = E ++ F ∧ E.length = 20 := ⟨D.take 20, D.drop 20, by simp, by simp; omega⟩
      have hl : (E ++ F).length = E.length + F.length := List.length_append
      have hsE := srt_len key E
      have hsF := srt_len key F
      have h1 := insI_ok (P := []) (B := E) (S := F) (a := 0) (z := 20) (n := (E ++ F).length) (c := c) (tl := tl) hcmp (by simp) (fun x hx => hPr x (by simp [hx])) (by simp) (by simp; omega) (by omega)
      have h2 := insI_ok (P := srt key E) (B := F) (S := []) (a := 20) (z := (E ++ F).length) (n := (E ++ F).length) (c := c) (tl := tl) hcmp (by simp; omega) (fun x hx => hPr x (by simp [hx])) (by omega) (by omega) (by omega)
      simp only [List.append_nil, List.nil_append] at h1 h2
      have hsrt : srt key (E ++ F) = mg key (srt key E) (srt key F) := srt_append key E _ F rfl
      refine enterD Try.func76 rfl Try.ntmps76 rfl ?_
      repeat (refine wXn ?_)
      refine TD_loop [0, 1, 2, 6] rfl (fun k G M I => (k = 1 ∧ G = [(7, .int .i64 0), (8, .int .i64 20)] ∧ M = .blk b (recs (eI .i64) (E ++ F) ++ tl) 3 :: M0 ∧ I0 = I) ∨ (k = 0 ∧ G = [(7, .int .i64 20), (8, .int .i64 40)] ∧ M = .blk b (recs (eI .i64) (srt key E ++ F) ++ tl) 3 :: M0 ∧ I0 = I)) (1) _ _ _ subG subP incL (.inl ⟨rfl, rfl, rfl, rfl⟩) ?_
      rintro k G M I (⟨rfl, rfl, rfl, rfl⟩ | ⟨rfl, rfl, rfl, rfl⟩)
      · repeat (refine wXn ?_)
        (refine RD_call rfl (h1) rfl rfl ?_; rintro _ _ _ ⟨rfl, rfl⟩; refine ⟨okD, ?_⟩)
        repeat (refine wXn ?_)
        refine ND_again 0 _ _ _ (by omega) subG subP incL (.inr ⟨rfl, rfl, rfl, rfl⟩)
      · repeat (refine wXn ?_)
        (refine RD_call rfl (h2) rfl rfl ?_; rintro _ _ _ ⟨rfl, rfl⟩; refine ⟨okD, ?_⟩)
        repeat (refine wXn ?_)
        refine TD_loop [0, 1, 2] rfl (fun k G M I => (k = 1 ∧ G = [(6, .int .i64 20)] ∧ M = .blk b (recs (eI .i64) (srt key E ++ srt key F) ++ tl) 3 :: M0 ∧ I0 = I) ∨ (k = 0 ∧ G = [(6, .int .i64 40)] ∧ M = .blk b (recs (eI .i64) (srt key (E ++ F)) ++ tl) 3 :: M0 ∧ I0 = I)) (1) _ _ _ subG subP incL (.inl ⟨rfl, rfl, rfl, rfl⟩) ?_
        rintro k G M I (⟨rfl, rfl, rfl, rfl⟩ | ⟨rfl, rfl, rfl, rfl⟩)
        · by_cases h0 : F.length = 0
          · obtain rfl : F = [] := List.eq_nil_of_length_eq_zero h0
            simp only [List.length_nil] at *
            repeat (refine wXn ?_)
            rw [show srt key E ++ srt key [] = srt key E by simp [srt_nil], show srt key (E ++ []) = srt key E by rw [List.append_nil]]
            refine ND_ret0 (by first | exact .inl rfl | exact .inr rfl) rfl _ _ subP incL (⟨rfl, rfl⟩)
          · have h3 := symI_ok (N := 40) (P := []) (A := srt key E) (B := srt key F) (S := []) (a := 0) (m := 20) (z := (E ++ F).length) (n := (E ++ F).length) (c := c) (tl := tl) hcmp (by omega) (by omega) (by simp; omega) (fun x hx => hPr x (by simp [(srt_mem key x _ _ rfl).1 hx])) (fun x hx => hPr x (by simp [(srt_mem key x _ _ rfl).1 hx])) (srt_asc key E) (srt_asc key F) (by simp) (by simp; omega) (by simp; omega) (by omega) (by omega)
            simp only [List.append_nil, List.nil_append] at h3
            rw [← hsrt] at h3
            repeat (refine wXn ?_)
            refine TD_loop [0, 1, 2, 6] rfl (fun k G M I => k = 0 ∧ G = [(7, .int .i64 0), (8, .int .i64 40)] ∧ M = .blk b (recs (eI .i64) (srt key E ++ srt key F) ++ tl) 3 :: M0 ∧ I0 = I) (0) _ _ _ subG subP incL (⟨rfl, rfl, rfl, rfl⟩) ?_
            rintro k G M I ⟨rfl, rfl, rfl, rfl⟩
            repeat (refine wXn ?_)
            (refine RD_call rfl (h3) rfl rfl ?_; rintro _ _ _ ⟨rfl, rfl⟩; refine ⟨okD, ?_⟩)
            repeat (refine wXn ?_)
            refine ND_again 0 _ _ _ (by omega) subG subP incL (.inr ⟨rfl, rfl, rfl, rfl⟩)
        · repeat (refine wXn ?_)
          refine ND_ret0 (by first | exact .inl rfl | exact .inr rfl) rfl _ _ subP incL (⟨rfl, rfl⟩)
  refine enterD Try.func66 rfl Try.ntmps66 rfl ?_
  repeat (refine wXn ?_)
  (refine RD_call rfl (hst) rfl rfl ?_; rintro _ _ _ ⟨rfl, rfl⟩; refine ⟨okD, ?_⟩)
  repeat (refine wXn ?_)
  refine ND_ret0 (by first | exact .inl rfl | exact .inr rfl) rfl _ _ subP incL (⟨rfl, rfl, rfl⟩)
end

end Go.Proofs.Ytkhgglkkdnemlaa
namespace Go.Proofs.Ytkhgglkkdnemlaa
open Go Go.Fx
theorem Const_indexStr {P : Program} {n : Nat} {G : Env} {ty : TypeId} {C : World → Prop} {t : TypeId} {x ix : Operand} {s : ByteArray} {k : IntKind} {i : Int} {b : UInt8} [ht : StrTy P t] (hx : ev G x = some (.string s)) (hi : ev G ix = some (.int k i)) (h0 : 0 ≤ i) (hb : s[i.toNat]? = some b) :
    Const P n G (.index t x ix) ty C (.int .u8 b.toNat) := by
  refine ⟨?_⟩
  intro st ha dst pos after guard w _
  simp [execOp, Instr.index, ha.ev hx, ha.ev hi, asIntOf, run_und ht.und, h0, hb]
theorem RD_ixStr {P : Program} {n : Nat} {ops l : List Oper} {Q : Exit → Act → World → Prop} {m : Fx.Mode} {G : Env} {X : List Nat} {w0 : World} {M : List Ent} {I : List Imm} {ty : TypeId} {pos : String} {af : Array Edge} {g : Option (Nat × Bool)} {d : Nat} {t : TypeId} {x ix : Operand} {s : ByteArray} {kk : IntKind} {i : Int} [StrTy P t]
    (hx : ev G x = some (.string s)) (hi : ev G ix = some (.int kk i)) (h0 : 0 ≤ i) (h1 : i.toNat < s.size) (hg : gst ops G g = some true) (hd : Nat.ble (d + 1) n = true)
    (k : ∀ b : Int, 0 ≤ b ∧ b < 256 → RD P n ops Q m.next l ((d, .int .u8 b) :: G) X w0 M I) : RD P n ops Q m (⟨some d, .index t x ix, ty, pos, af, g⟩ :: l) G X w0 M I :=
  RD_c hg (fun _ => Const_indexStr hx hi h0 (getElem?_pos s i.toNat h1)) rfl hd (k _ ⟨Int.natCast_nonneg _, by have := UInt8.toNat_lt (s[i.toNat]'h1); omega⟩)
section
variable {X : List Nat} {w0 : World} {M0 : List Ent} {I0 : List Imm}
theorem isNaN_ok {x : Int} : CD Try.prog 80 [.int .i64 x] X w0 M0 I0 (fun v M I => M0 = M ∧ I0 = I ∧ v = .bool false) := by
  refine enterD1 Try.func80 rfl Try.ntmps80 rfl ?_
  repeat (refine wXh ?_)
  refine ND_ret1 (by first | exact .inl rfl | exact .inr rfl) rfl rfl _ _ subF incF (⟨rfl, rfl, congrArg Value.bool (B_false (fun h => h rfl))⟩)
theorem less_ok {x y : Int} : CD Try.prog 74 [.int .i64 x, .int .i64 y] X w0 M0 I0 (fun v M I => M0 = M ∧ I0 = I ∧ v = .bool (B (x < y))) := by
  refine enterD2 Try.func74 rfl Try.ntmps74 rfl ?_
  repeat (refine wXh ?_)
  (refine RD_callS rfl (isNaN_ok) rfl rfl ?_; rintro _ _ _ ⟨rfl, rfl, rfl⟩; refine ⟨okF, ?_⟩)
  repeat (refine wXh ?_)
  refine ND_ret1 (by first | exact .inl rfl | exact .inr rfl) rfl rfl _ _ subF incF (⟨rfl, rfl, rfl⟩)
set_option maxRecDepth 100000 in
theorem blen64_ok {x : Int} (h0 : 0 ≤ x) (h1 : x < 256) : CD Try.prog 92 [.int .u64 x] X w0 M0 I0 (fun v M I => M0 = M ∧ I0 = I ∧ ∃ r : Int, v = .int .i64 r) := by
  refine enterD1 Try.func92 rfl Try.ntmps92 rfl ?_
  repeat (refine wXh ?_)
  refine RD_ixStr rfl rfl h0 (Nat.lt_of_lt_of_eq (show x.toNat < 256 by omega) rfl) rfl rfl (fun b hb => ?_)
  repeat (refine wXh ?_)
  refine ND_ret1 (by first | exact .inl rfl | exact .inr rfl) rfl rfl _ _ subF incF (⟨rfl, rfl, _, rfl⟩)
theorem blen_ok {x : Int} (h0 : 0 ≤ x) (h1 : x < 256) : CD Try.prog 78 [.int .u64 x] X w0 M0 I0 (fun v M I => M0 = M ∧ I0 = I ∧ ∃ r : Int, v = .int .i64 r) := by
  refine enterD1 Try.func78 rfl Try.ntmps78 rfl ?_
  repeat (refine wXh ?_)
  (refine RD_callS rfl (blen64_ok h0 h1) rfl rfl ?_; rintro _ _ _ ⟨rfl, rfl, r, rfl⟩; refine ⟨okF, ?_⟩)
  repeat (refine wXh ?_)
  refine ND_ret1 (by first | exact .inl rfl | exact .inr rfl) rfl rfl _ _ subF incF (⟨rfl, rfl, r, rfl⟩)
end
end Go.Proofs.Ytkhgglkkdnemlaa
namespace Go.Proofs.Ytkhgglkkdnemlaa
open Go Go.Fx
section
variable {X : List Nat} {w0 : World} {M0 : List Ent} {I0 : List Imm}
set_option maxHeartbeats 4000000 in
theorem insO_ok {b n c : Nat} {tl : List Value} {P B S : List Int} {a z : Int} (hn : n = (P ++ B ++ S).length)
    (ha : a = P.length) (hz : z = P.length + B.length) (hbd : (n : Int) ≤ 1000000) :
    CD Try.prog 83 [.slice (some ⟨b, 0, none⟩) n c, .int .i64 a, .int .i64 z] X w0 (.blk b (recs (eI .i64) (P ++ B ++ S) ++ tl) 3 :: M0) I0
      (fun _ M I => .blk b (recs (eI .i64) (P ++ srt id B ++ S) ++ tl) 3 :: M0 = M ∧ I0 = I) := by
  have hlen : (P ++ B ++ S).length = P.length + B.length + S.length := by simp [Nat.add_assoc]
  refine enterD Try.func83 rfl Try.ntmps83 rfl ?_
  repeat (refine wXn ?_)
  refine TD_loop [0, 1, 2] rfl (fun k G M I => ∃ (q : Nat) (i : Int) (D : List Int), i = a + 1 + q ∧ k = B.length - q ∧ (i ≤ z ∨ q = 0) ∧ D = P ++ (srt id (B.take (q + 1)) ++ (B.drop (q + 1) ++ S)) ∧ G = [(6, .int .i64 i)] ∧ M = .blk b (recs (eI .i64) D ++ tl) 3 :: M0 ∧ I0 = I) (B.length) _ _ _ subG subP incL (⟨0, a + 1, _, by omega, by omega, .inr rfl, ?_, rfl, rfl, rfl⟩) ?_
  · cases B with
    | nil => simp [srt_nil]
    | cons x r => simp [srt, nil_mg]
  rintro k G M I ⟨q, i, D, hi, rfl, hq, hD, rfl, rfl, rfl⟩
  have hDl : D.length = n := by
    rw [hD, hn]; simp [srt_len]; omega
  repeat' (first | refine wXn ?_ | (refine TD_isCo ?_; first | refine TD_dec rfl (fun h => ?_) (fun h => ?_) | refine TD_cond rfl (fun h => ?_) (fun h => ?_)) | (refine RD_isGu ?_; first | refine RD_grd rfl rfl (fun h => ?_) (fun h => ?_) | (fail_if_success (refine RD_isW rfl ?_); refine RD_grdB rfl rfl (fun h => ?_) (fun h => ?_))))
  · have hqB : q + 1 < B.length := by omega
    have hx : B.drop (q + 1) = B[q + 1] :: B.drop (q + 2) := List.drop_eq_getElem_cons hqB
    have hxB : B[q + 1] ∈ B := List.getElem_mem hqB
    have htk : B.take (q + 2) = B.take (q + 1) ++ [B[q + 1]] := List.take_succ_eq_append_getElem hqB
    generalize B[q + 1] = x at hx hxB htk
    have hsl := srt_len id (B.take (q + 1))
    have htl : (B.take (q + 1)).length = q + 1 := by simp; omega
    refine TD_loop [0, 1, 2, 6] rfl (fun k G M I => ∃ (P1 P2 D : List Int) (j : Int), srt id (B.take (q + 1)) = P1 ++ P2 ∧ j = P.length + P1.length ∧ k = P1.length ∧ (∀ y ∈ P2, x < y) ∧ D = (P ++ P1) ++ x :: (P2 ++ (B.drop (q + 2) ++ S)) ∧ G = [(7, .int .i64 j)] ∧ M = .blk b (recs (eI .i64) D ++ tl) 3 :: M0 ∧ I0 = I) (q + 1) _ _ _ subG subP incL (⟨srt id (B.take (q + 1)), [], D, i, by simp, by omega, by omega, by simp, by rw [hD, hx]; simp, rfl, rfl, rfl⟩) ?_
    rintro k G M I ⟨P1, P2, D, j, hs, hj, rfl, hP2, hD', rfl, rfl, rfl⟩
    have hDl' : D.length = n := by
      have := congrArg List.length hs
      rw [hD', hn]; simp at this ⊢; omega
    have hasc := srt_asc id (B.take (q + 1))
    rw [hs] at hasc
    have done1 : (∀ y ∈ P1, y ≤ x) → D = P ++ (srt id (B.take (q + 1 + 1)) ++ (B.drop (q + 1 + 1) ++ S)) := fun h1 => by
      rw [show q + 1 + 1 = q + 2 from rfl, htk, srt_snoc, hs, mg_one id h1 hP2, hD']
      simp
    have hl2 := congrArg List.length hs
    simp only [List.length_append] at hl2
    by_cases hja : a < j
    · have hne : P1 ≠ [] := by intro e; subst e; simp at hj; omega
      obtain ⟨Q1, y, rfl⟩ : ∃ Q1 y, P1 = Q1 ++ [y] := ⟨P1.dropLast, P1.getLast hne, (List.dropLast_concat_getLast hne).symm⟩
      have hyB : y ∈ B := by
        have : y ∈ srt id (B.take (q + 1)) := by rw [hs]; simp
        exact List.mem_of_mem_take ((srt_mem id y _ _ rfl).1 this)
      simp only [List.length_append, List.length_cons, List.length_nil] at hj hl2
      have hDe : D = (P ++ Q1) ++ y :: x :: (P2 ++ (B.drop (q + 2) ++ S)) := by rw [hD']; simp
      have gj : gt D j = x := by rw [hD']; exact gt_at (by simp; omega)
      have gj1 : gt D (j - 1) = y := by rw [hDe]; exact gt_at (by simp; omega)
      (repeat refine TD_seq ?_); refine TD_drawn [0, 1, 2, 3, 4, 5, 6, 7, 8, 9, 10, 11, 12, 13, 14] [1, 1, 1, 0, 1, 1, 1, 0, 1, 1, 1, 1, 0, 0, 0] mixed (by kernel_rfl) ?_
      repeat (refine wXn ?_)
      rw [gj, gj1]
      (refine RD_call rfl (less_ok (x := x) (y := y)) rfl rfl ?_; rintro _ _ _ ⟨rfl, rfl, rfl⟩; refine ⟨okD, ?_⟩)
      by_cases hxy : x < y
      · rw [B_true hxy]
        repeat (refine wXn ?_)
        (repeat refine TD_seq ?_); refine TD_drawn1 [0, 1, 2, 3, 4, 5, 6, 7, 8, 9, 10, 11, 12, 13, 14, 15, 16, 17] [0, 0, 1, 1, 1, 0, 0, 0, 0, 0, 1, 1, 1, 0, 0, 0, 0, 0] mixed (by kernel_rfl) ?_
        repeat (refine wXn ?_)
        rw [gj, gj1]
        refine ND_again (Q1.length) _ _ _ (by simp) subG subP incL ⟨Q1, y :: P2, _, j - 1, by rw [hs]; simp, by omega, rfl, fun u hu => ?_, ?_, rfl, rfl, rfl⟩
        · rcases List.mem_cons.1 hu with rfl | hu
          · exact hxy
          · exact hP2 u hu
        · rw [hDe, swap2' (by simp; omega) (by simp; omega)]
          simp
      · rw [B_false hxy]
        repeat (refine wXn ?_)
        refine ND_again (B.length - (q + 1)) _ _ _ (by first | omega | (simp only [List.length_append, List.length_cons, List.length_nil]; omega)) subG subP incL (⟨q + 1, i + 1, D, by omega, rfl, .inl (by omega), done1 (fun u hu => ?_), rfl, rfl, rfl⟩)
        rcases List.mem_append.1 hu with hu | hu
        · have : u ≤ y := Asc.cross id (Asc.left id hasc) u hu y (by simp)
          omega
        · simp at hu; subst hu; omega
    · have : P1 = [] := List.eq_nil_of_length_eq_zero (by omega)
      subst this
      (repeat refine TD_seq ?_); refine TD_drawn [0, 1, 2, 3, 4, 5, 6, 7, 8, 9, 10, 11, 12, 13, 14] [1, 1, 1, 0, 1, 1, 1, 0, 1, 1, 1, 1, 0, 0, 0] mixed (by kernel_rfl) ?_
      repeat (refine wXn ?_)
      refine ND_again (B.length - (q + 1)) _ _ _ (by first | omega | (simp only [List.length_append, List.length_cons, List.length_nil]; omega)) subG subP incL (⟨q + 1, i + 1, D, by omega, rfl, .inl (by omega), done1 (by simp), rfl, rfl, rfl⟩)
  · have h1 : B.take (q + 1) = B := List.take_of_length_le (by omega)
    have h2 : B.drop (q + 1) = [] := List.drop_eq_nil_of_le (by omega)
    rw [h1, h2] at hD
    simp only [List.nil_append, ← List.append_assoc] at hD
    subst hD
    refine ND_ret0 (by first | exact .inl rfl | exact .inr rfl) rfl _ _ subP incL (⟨rfl, rfl⟩)
theorem insO_nil : CD Try.prog 83 [.slice none 0 0, .int .i64 0, .int .i64 0] X w0 M0 I0 (fun _ M I => M0 = M ∧ I0 = I) := by
  refine enterD Try.func83 rfl Try.ntmps83 rfl ?_
  repeat (refine wXn ?_)
  refine TD_loop [0, 1, 2] rfl (fun k G M I => k = 0 ∧ G = [(6, .int .i64 1)] ∧ M0 = M ∧ I0 = I) (0) _ _ _ subG subP incL (⟨rfl, rfl, rfl, rfl⟩) ?_
  rintro k G M I ⟨rfl, rfl, rfl, rfl⟩
  repeat (refine wXn ?_)
  refine ND_ret0 (by first | exact .inl rfl | exact .inr rfl) rfl _ _ subP incL (⟨rfl, rfl⟩)
theorem Sort_ok {b n c : Nat} {tl : List Value} {D : List Int} (hn : n = D.length) (hb : n ≤ 12) :
    CD Try.prog 70 [.slice (some ⟨b, 0, none⟩) n c] X w0 (.blk b (recs (eI .i64) D ++ tl) 3 :: M0) I0 (fun _ M I => .blk b (recs (eI .i64) (srt id D) ++ tl) 3 :: M0 = M ∧ I0 = I) := by
  have h1 := insO_ok (X := X) (w0 := w0) (M0 := M0) (I0 := I0) (b := b) (c := c) (tl := tl) (P := []) (B := D) (S := []) (a := 0) (z := D.length) (n := n) (by simp [hn]) (by simp) (by simp) (by omega)
  simp only [List.append_nil, List.nil_append] at h1
  rw [← hn] at h1
  have hp : ∀ r : Int, CD Try.prog 77 [.slice (some ⟨b, 0, none⟩) n c, .int .i64 0, .int .i64 n, .int .i64 r] X w0 (.blk b (recs (eI .i64) D ++ tl) 3 :: M0) I0 (fun _ M I => .blk b (recs (eI .i64) (srt id D) ++ tl) 3 :: M0 = M ∧ I0 = I) := fun r => by
    refine enterD Try.func77 rfl Try.ntmps77 rfl ?_
    repeat (refine wXn ?_)
    refine TD_loop [0] rfl (fun k G M I => k = 0 ∧ G = [(1, .int .i64 0), (2, .int .i64 n), (3, .int .i64 r), (8, .bool true), (9, .bool true)] ∧ M = .blk b (recs (eI .i64) D ++ tl) 3 :: M0 ∧ I0 = I) (0) _ _ _ subG subP incL (⟨rfl, rfl, rfl, rfl⟩) ?_
    rintro k G M I ⟨rfl, rfl, rfl, rfl⟩
    repeat (refine wXn ?_)
    (refine RD_call rfl (h1) rfl rfl ?_; rintro _ _ _ ⟨rfl, rfl⟩; refine ⟨okD, ?_⟩)
    repeat (refine wXn ?_)
    refine ND_ret0 (by first | exact .inl rfl | exact .inr rfl) rfl _ _ subP incL (⟨rfl, rfl⟩)
  refine enterD Try.func70 rfl Try.ntmps70 rfl ?_
  repeat (refine wXn ?_)
  (refine RD_call rfl (blen_ok (x := (n : Int)) (by omega) (by omega)) rfl rfl ?_; rintro _ _ _ ⟨rfl, rfl, r, rfl⟩; refine ⟨okD, ?_⟩)
  repeat (refine wXn ?_)
  (refine RD_call rfl (hp r) rfl rfl ?_; rintro _ _ _ ⟨rfl, rfl⟩; refine ⟨okD, ?_⟩)
  repeat (refine wXn ?_)
  refine ND_ret0 (by first | exact .inl rfl | exact .inr rfl) rfl _ _ subP incL (⟨rfl, rfl⟩)
theorem Sort_nil : CD Try.prog 70 [.slice none 0 0] X w0 M0 I0 (fun _ M I => M0 = M ∧ I0 = I) := by
  have hp : ∀ r : Int, CD Try.prog 77 [.slice none 0 0, .int .i64 0, .int .i64 0, .int .i64 r] X w0 M0 I0 (fun _ M I => M0 = M ∧ I0 = I) := fun r => by
    refine enterD Try.func77 rfl Try.ntmps77 rfl ?_
    repeat (refine wXn ?_)
    refine TD_loop [0] rfl (fun k G M I => k = 0 ∧ G = [(1, .int .i64 0), (2, .int .i64 0), (3, .int .i64 r), (8, .bool true), (9, .bool true)] ∧ M0 = M ∧ I0 = I) (0) _ _ _ subG subP incL (⟨rfl, rfl, rfl, rfl⟩) ?_
    rintro k G M I ⟨rfl, rfl, rfl, rfl⟩
    repeat (refine wXn ?_)
    (refine RD_call rfl (insO_nil) rfl rfl ?_; rintro _ _ _ ⟨rfl, rfl⟩; refine ⟨okD, ?_⟩)
    repeat (refine wXn ?_)
    refine ND_ret0 (by first | exact .inl rfl | exact .inr rfl) rfl _ _ subP incL (⟨rfl, rfl⟩)
  refine enterD Try.func70 rfl Try.ntmps70 rfl ?_
  repeat (refine wXn ?_)
  (refine RD_call rfl (blen_ok (x := 0) (by omega) (by omega)) rfl rfl ?_; rintro _ _ _ ⟨rfl, rfl, r, rfl⟩; refine ⟨okD, ?_⟩)
  repeat (refine wXn ?_)
  (refine RD_call rfl (hp r) rfl rfl ?_; rintro _ _ _ ⟨rfl, rfl⟩; refine ⟨okD, ?_⟩)
  repeat (refine wXn ?_)
  refine ND_ret0 (by first | exact .inl rfl | exact .inr rfl) rfl _ _ subP incL (⟨rfl, rfl⟩)
end
end Go.Proofs.Ytkhgglkkdnemlaa
namespace Go.Proofs.Ytkhgglkkdnemlaa
open Go Go.Fx
theorem split_le {l : List Int} (key : Int → Int) (h : l.Pairwise (fun a b => key a ≤ key b)) (c : Int) : ∃ P1 P2, l = P1 ++ P2 ∧ (∀ y ∈ P1, key y ≤ c) ∧ ∀ y ∈ P2, c < key y := by
  induction l with
  | nil => exact ⟨[], [], rfl, fun y hy => by simp at hy, fun y hy => by simp at hy⟩
  | cons a l ih =>
    obtain ⟨h1, h2⟩ := List.pairwise_cons.1 h
    by_cases ha : key a ≤ c
    · obtain ⟨P1, P2, e, h3, h4⟩ := ih h2
      exact ⟨a :: P1, P2, by rw [e]; rfl, fun y hy => by
        rcases List.mem_cons.1 hy with e2 | e2
        · rw [e2]; exact ha
        · exact h3 y e2, h4⟩
    · exact ⟨[], a :: l, rfl, fun y hy => by simp at hy, fun y hy => by
        rcases List.mem_cons.1 hy with e2 | e2
        · rw [e2]; omega
        · have := h1 y e2; omega⟩
theorem srt_kl (ms : List LK) (n : Nat) : (srt (wt ms) (rg n)).Pairwise (kl ms) := by
  induction n with
  | zero => exact List.Pairwise.nil
  | succ n ih =>
    rw [rg_succ, srt_snoc]
    have ha : (srt (wt ms) (rg n)).Pairwise (fun a b => wt ms a ≤ wt ms b) := ih.imp (fun {a b} h => by unfold kl at h; omega)
    obtain ⟨P1, P2, e, h1, h2⟩ := split_le (wt ms) ha (wt ms (n : Int))
    have hm : ∀ y ∈ srt (wt ms) (rg n), 0 ≤ y ∧ y < n := fun y hy => mem_rg.1 ((srt_mem (wt ms) y _ _ rfl).1 hy)
    rw [e] at ih hm ⊢
    rw [mg_one (wt ms) h1 h2]
    rw [List.pairwise_append] at ih ⊢
    refine ⟨ih.1, List.pairwise_cons.2 ⟨fun y hy => .inl (h2 y hy), ih.2.1⟩, fun a ha b hb => ?_⟩
    rcases List.mem_cons.1 hb with e2 | e2
    · subst e2
      have h3 := h1 a ha
      have h4 := hm a (List.mem_append.2 (.inl ha))
      unfold kl
      omega
    · exact ih.2.2 a ha b e2
theorem srt_mem_rg (ms : List LK) (n : Nat) (k : Int) : k ∈ srt (wt ms) (rg n) ↔ k ∈ rg n := srt_mem (wt ms) k _ _ rfl
/-- the order of the links -/
def ord (ms : List LK) : List Int := srt (wt ms) (rg ms.length)
theorem ord_pw (ms : List LK) : (ord ms).Pairwise (kl ms) := srt_kl ms _
theorem ord_mem (ms : List LK) (k : Int) : k ∈ ord ms ↔ k ∈ rg ms.length := srt_mem_rg ms _ k
theorem ord_nodup (ms : List LK) : (ord ms).Nodup := (ord_pw ms).imp (fun {a b} h (e : a = b) => kl_ir ms b (by rw [e] at h; exact h))
theorem ord_len (ms : List LK) : (ord ms).length = ms.length := by rw [ord, srt_len, rg_len]
/-- the spanning forest of least weight, ascending -/
def kt (ms : List LK) : List Int := (rg ms.length).filter (fun k => decide (k ∈ kr ms (ord ms)))
theorem kt_mem {ms : List LK} {k : Int} : k ∈ kt ms ↔ k ∈ kr ms (ord ms) := by
  unfold kt
  rw [List.mem_filter]
  exact ⟨fun h => of_decide_eq_true h.2, fun h => ⟨(ord_mem ms k).1 (kr_mem h), decide_eq_true h⟩⟩
theorem kt_asc (ms : List LK) : asc (kt ms) := (rg_pw _).filter _
theorem kt_srt (ms : List LK) : srt id (kr ms (ord ms)) = kt ms := by
  refine sorted_eq (r := fun a b : Int => a < b) (fun a h => by omega) (fun a b h h2 => by omega) ?_ (kt_asc ms) (fun x => by rw [srt_mem id x _ _ rfl, kt_mem])
  have h1 := srt_asc id (kr ms (ord ms))
  have hp : (srt id (kr ms (ord ms))).Perm (kr ms (ord ms)) := by
    have hc : ∀ (l : List Int) (x : Int), (l.Nodup → (srt id l).Nodup) := fun l x => by
      induction l using snocInd with
      | h0 => intro h; exact h
      | h1 l a ih =>
        intro h
        rw [List.nodup_append] at h
        rw [srt_snoc]
        have ha : (srt id l).Pairwise (fun a b => id a ≤ id b) := srt_asc id l
        obtain ⟨P1, P2, e, h2, h3⟩ := split_le id ha (id a)
        have ih := ih h.1
        have hm : ∀ y ∈ srt id l, y ≠ a := fun y hy => h.2.2 y ((srt_mem id y _ _ rfl).1 hy) a (by simp)
        rw [e] at ih hm ⊢
        rw [mg_one id h2 h3]
        rw [List.nodup_append] at ih ⊢
        refine ⟨ih.1, List.nodup_cons.2 ⟨fun ha2 => hm a (List.mem_append.2 (.inr ha2)) rfl, ih.2.1⟩, fun x hx y hy => ?_⟩
        rcases List.mem_cons.1 hy with e2 | e2
        · rw [e2]; exact hm x (List.mem_append.2 (.inl hx))
        · exact ih.2.2 x hx y e2
    exact (List.perm_ext_iff_of_nodup (hc _ 0 (kr_nodup (ord_nodup ms))) (kr_nodup (ord_nodup ms))).2 (fun x => srt_mem id x _ _ rfl)
  have hn : (srt id (kr ms (ord ms))).Nodup := hp.nodup_iff.2 (kr_nodup (ord_nodup ms))
  exact (List.pairwise_and_iff.2 ⟨h1, hn⟩).imp (fun {a b} h => by have := h.1; have := h.2; simp only [id] at *; omega)
theorem kr_len {ms : List LK} {n : Nat} (hg : Gd ms n) : (kr ms (ord ms)).length ≤ n := by
  have h1 := forest_size (hg.nds (l := kr ms (ord ms)) (fun k hk => mem_rg.1 ((ord_mem ms k).1 (kr_mem hk)))) (kr_fst ms (ord ms))
  rw [es_len] at h1
  omega
end Go.Proofs.Ytkhgglkkdnemlaa
namespace Go.Proofs.Ytkhgglkkdnemlaa
open Go Go.Fx
theorem take_ord_kr {ms : List LK} {i : Nat} (h : i < (ord ms).length) : kr ms ((ord ms).take (i + 1)) = kst ms (kr ms ((ord ms).take i)) (gt (ord ms) (i : Int)) := by
  rw [take_snoc h, kr_snoc]
section
variable {X : List Nat} {w0 : World} {M0 : List Ent} {I0 : List Imm}
theorem light1_ok {p : Option Addr} {b1 n m c : Nat} {ms : List LK} {x y : Int} (hm : ms.length = m) (hm2 : m ≤ 1024) (hg : Gd ms n) (hx : 0 ≤ x ∧ x < m) (hy : 0 ≤ y ∧ y < m) (hp : slI p (recs eK ms) ∈ I0) (h1 : slI (some ⟨b1, 0, none⟩) [.int .i64 n, .slice p m c] ∈ I0) :
    CD Try.prog 67 [.int .i64 x, .int .i64 y, .pointer (some ⟨b1, 0, none⟩)] X w0 M0 I0 (fun v M I => M0 = M ∧ I0 = I ∧ v = .int .i64 (wt ms x - wt ms y)) := by
  have w1 := hg.w x hx.1 (by omega)
  have w2 := hg.w y hy.1 (by omega)
  unfold wt at w1 w2 ⊢
  refine enterD3 Try.func67 rfl Try.ntmps67 rfl ?_
  repeat (refine wXh ?_)
  (repeat refine TD_seq ?_); refine TD_drawnJ 0 [0, 1, 2, 3, 4, 5, 6, 7, 8, 9, 10, 11, 12, 13] [0, 0, 0, 0, 0, 0, 0, 0, 0, 0, 0, 0, 0, 0] mixed (by kernel_rfl) ?_
  repeat (refine wXh ?_)
  refine ND_ret1 (by first | exact .inl rfl | exact .inr rfl) rfl rfl _ _ subF incF (⟨rfl, rfl, rfl⟩)
set_option maxRecDepth 100000 in
set_option maxHeartbeats 2000000 in
theorem lightest_ok {p : Option Addr} {n : Nat} {ms : List LK} {m c : Nat} (hn : n ≤ 12) (hm : ms.length = m) (hm2 : m < 40) (hg : Gd ms n) (hp : slI p (recs eK ms) ∈ I0) :
    CD Try.prog 46 [gv n p m c] X w0 M0 I0 (fun v M I => M0 = M ∧ ∃ q c', v = .slice q (kt ms).length c' ∧ (kt ms).length ≤ c' ∧ I = slI q (recs (eI .i64) (kt ms)) :: I0) := by
  have hkl := kr_len hg
  refine enterD1 Try.func46 rfl Try.ntmps46 rfl ?_
  refine TD_seq ?_
  refine TD_region ?_
  (refine RD_boxA rfl rfl rfl ?_; intro b1; refine ⟨okF, ?_⟩)
  refine RD_freezeB .here ?_
  repeat (refine wXh ?_)
  (refine RD_makeX (m) rfl rfl (by omega) (by omega) (by omega) (by omega) (made_int _ _) rfl rfl ?_; intro b3; refine ⟨okF, ?_⟩)
  repeat (refine wXh ?_)
  refine TD_loop [1, 3, 14] rfl (fun k G M I => ∃ (i : Nat) (u : List Int), i ≤ m ∧ k = m - i ∧ u.length = m ∧ (∀ j : Nat, j < i → gt u j = j) ∧ G = [(15, .int .i64 i)] ∧ M = .blk b3 (recs (eI .i64) u) 3 :: M0 ∧ I = slI (some ⟨b1, 0, none⟩) [.int .i64 n, .slice p m c] :: I0) (m) _ _ _ subG subF incF (⟨0, _, by omega, rfl, List.length_replicate, fun j hj => by omega, rfl, rfl, rfl⟩) ?_
  rintro kk G M I ⟨i, u, hi, rfl, hl, hu, rfl, rfl, rfl⟩
  by_cases hin : i < m
  · repeat (refine wXh ?_)
    refine ND_again (m - (i + 1)) _ _ _ (by first | omega | (simp only [List.length_append, List.length_cons, List.length_nil]; omega)) subG subF incF (⟨i + 1, _, by omega, rfl, by rw [st_len, hl], fun j hj => ?_, rfl, rfl, rfl⟩)
    rw [gt_st _ (by omega) (by omega)]
    split
    · omega
    · exact hu j (by omega)
  obtain rfl : i = m := by omega
  have hrg : u = rg i := list_eq_of_gt (by rw [rg_len, hl]) (fun j hj => by rw [hu j (by omega), gt_rg (by omega)])
  subst hrg
  clear hu hl hi
  have hS := fun M0 I0 (h1 : slI p (recs eK ms) ∈ I0) (h2 : slI (some ⟨b1, 0, none⟩) [.int .i64 n, .slice p i c] ∈ I0) => staI_ok (X := X) (w0 := w0) (M0 := M0) (I0 := I0) (g := 67) (fs := #[]) (cs' := #[.pointer (some ⟨b1, 0, none⟩)]) (key := wt ms) (Pr := fun k => 0 ≤ k ∧ k < i) (b := b3) (c := i) (tl := []) (D := rg i) (fun cs x y hx hy => CD.mono (light1_ok (c := c) hm (by omega) hg hx hy h1 h2) (fun v M I h => ⟨h.1, h.2.1, _, h.2.2, by omega⟩)) (fun x hx => mem_rg.1 hx) (by rw [rg_len]; omega)
  simp only [List.append_nil, rg_len] at hS
  have hoe : srt (wt ms) (rg i) = ord ms := by rw [ord, hm]
  rw [hoe] at hS
  have hol := ord_len ms
  rw [hm] at hol
  have hom : ∀ j : Nat, j < i → 0 ≤ gt (ord ms) j ∧ gt (ord ms) j < i := fun j hj => by
    have := mem_rg.1 ((ord_mem ms _).1 (gt_in (ms := ord ms) (i := (j : Int)) ⟨by omega, by omega⟩))
    rwa [hm] at this
  repeat (refine wXh ?_)
  (refine RD_callS rfl (hS _ _ memF memF) rfl rfl ?_; rintro _ _ _ ⟨rfl, rfl, rfl⟩; refine ⟨okF, ?_⟩)
  repeat (refine wXh ?_)
  (refine RD_callS rfl (newU_ok (n := n) (by omega)) rfl rfl ?_; rintro _ _ _ ⟨rfl, b5, rfl, rfl⟩; refine ⟨okF, ?_⟩)
  refine RD_freezeB (b := b3) remF ?_
  generalize hO : ord ms = O at *
  repeat (refine wXh ?_)
  refine TD_row0 3 1 ?_
  refine TD_loop [1, 5, 29, 30] rfl (fun k G M I => ∃ (j : Nat) (u : List Int) (a : Option Addr) (c' : Nat) (xs : List Int), j ≤ i ∧ k = i - j ∧ xs = kr ms (O.take j) ∧ Rp n u (lo (es ms xs)) ∧ G = [(6, .slice a xs.length c'), (31, .int .i64 j)] ∧ M = .blk b5 (recs (eI .i64) u) 3 :: .row a xs.length c' (recs (eI .i64) xs) 3 1 :: M0 ∧ I = slI (some ⟨b3, 0, none⟩) (recs (eI .i64) O) :: slI (some ⟨b1, 0, none⟩) [.int .i64 n, .slice p i c] :: I0) (i) _ _ _ subG subF incF (⟨0, rg n, none, 0, [], by omega, rfl, rfl, Rp.new n, rfl, rfl, rfl⟩) ?_
  rintro kk G M I ⟨j, u, a, c', xs, hj, rfl, hxs, hu, rfl, rfl, rfl⟩
  have hxl : xs.length ≤ 40 := by
    have h1 : xs.Nodup := by
      rw [hxs]
      refine kr_nodup ?_
      rw [← hO]
      exact (List.take_sublist _ _).nodup (ord_nodup ms)
    have h2 : (es ms xs).length + cmps n (es ms xs) = n := forest_size (hg.nds (fun k hk => by
      rw [hxs] at hk
      have := mem_rg.1 ((ord_mem ms k).1 (by rw [hO]; exact List.mem_of_mem_take (kr_mem hk)))
      exact this)) (by rw [hxs]; exact kr_fst ms _)
    rw [es_len] at h2
    omega
  by_cases hji : j < i
  · have hk := take_ord_kr (ms := ms) (i := j) (by rw [hO]; omega)
    rw [hO, ← hxs] at hk
    obtain ⟨x, hx⟩ : ∃ x, gt O (j : Int) = x := ⟨_, rfl⟩
    have hxr := hom j hji
    rw [hx] at hk hxr
    unfold kst pr at hk
    dsimp only at hk
    have hA := hg.a x hxr.1 (by omega)
    have hB := hg.b x hxr.1 (by omega)
    have hjn := fun M0 I0 => ujoin_ok (X := X) (w0 := w0) (M0 := M0) (I0 := I0) (b := b5) (c := n) (by omega) hu hA hB
    have hat := lo_at (ms := ms) (l := xs) (k := x)
    obtain ⟨y, hy⟩ : ∃ y, (gt ms x).a = y := ⟨_, rfl⟩
    obtain ⟨z, hz⟩ : ∃ z, (gt ms x).b = z := ⟨_, rfl⟩
    rw [hy, hz] at hjn hk hat
    by_cases he : lo (es ms xs) y = lo (es ms xs) z
    · rw [if_pos he] at hk
      rw [B_false (fun h => h he)] at hjn
      repeat (refine wXh ?_)
      rw [hx]
      (repeat refine TD_seq ?_); refine TD_drawnW (.row a xs.length c' (recs (eI .i64) xs) 3 1 :: M0) (slI (some ⟨b3, 0, none⟩) (recs (eI .i64) O) :: slI (some ⟨b1, 0, none⟩) [.int .i64 n, .slice p i c] :: I0) [0, 1, 2, 3, 4, 5, 6, 7, 8, 9, 10, 11, 12, 13] [0, 1, 1, 1, 1, 1, 0, 1, 1, 1, 1, 1, 0, 0] subF incF mixed (by kernel_rfl) ?_
      repeat (refine wXh ?_)
      rw [hy]
      repeat (refine wXh ?_)
      rw [hz]
      (refine RD_callS rfl (hjn _ _) rfl rfl ?_; rintro _ _ _ ⟨rfl, rfl, u2, hu2, rfl⟩; refine ⟨okF, ?_⟩)
      rw [mg_same he] at hu2
      repeat (refine wXh ?_)
      refine ND_again (i - (j + 1)) _ _ _ (by first | omega | (simp only [List.length_append, List.length_cons, List.length_nil]; omega)) subG subF incF (⟨j + 1, u2, a, c', xs, by omega, rfl, hk.symm, hu2, rfl, rfl, rfl⟩)
    · rw [if_neg he] at hk
      rw [B_true he] at hjn
      repeat (refine wXh ?_)
      rw [hx]
      (repeat refine TD_seq ?_); refine TD_drawnW (.row a xs.length c' (recs (eI .i64) xs) 3 1 :: M0) (slI (some ⟨b3, 0, none⟩) (recs (eI .i64) O) :: slI (some ⟨b1, 0, none⟩) [.int .i64 n, .slice p i c] :: I0) [0, 1, 2, 3, 4, 5, 6, 7, 8, 9, 10, 11, 12, 13] [0, 1, 1, 1, 1, 1, 0, 1, 1, 1, 1, 1, 0, 0] subF incF mixed (by kernel_rfl) ?_
      repeat (refine wXh ?_)
      rw [hy]
      repeat (refine wXh ?_)
      rw [hz]
      (refine RD_callS rfl (hjn _ _) rfl rfl ?_; rintro _ _ _ ⟨rfl, rfl, u2, hu2, rfl⟩; refine ⟨okF, ?_⟩)
      rw [← hat] at hu2
      repeat (refine wXh ?_)
      (refine RD_vals (cs := recs (eI .i64) [x]) ([.int .i64 x]) rfl rfl (by intro v hv; repeat (first | exact absurd hv (List.not_mem_nil) | (rcases List.mem_cons.1 hv with rfl | hv; · rfl))) (by omega) rfl rfl rfl ?_; intro b7; refine ⟨okF, ?_⟩)
      (refine RD_appR (ys := [x]) 2 rfl rfl rfl ?_ (by decide) rfl (by omega) (by omega) rfl rfl ?_; (· first | exact Src.blk memF | exact Src.row memF | exact Src.imm memF (by first | assumption | exact .inl (Ok.mk _ _))); intro a2 c2; refine ⟨okF, ?_⟩)
      repeat (refine wXh ?_)
      refine ND_again (i - (j + 1)) _ _ _ (by first | omega | (simp only [List.length_append, List.length_cons, List.length_nil]; omega)) subG subF incF (⟨j + 1, u2, a2, c2, xs ++ [x], by omega, rfl, hk.symm, hu2, rfl, rfl, rfl⟩)
  obtain rfl : j = i := by omega
  rw [List.take_of_length_le (by omega)] at hxs
  have hn12 : xs.length ≤ 12 := by rw [hxs]; omega
  rw [← hO] at hxs
  have hks := kt_srt ms
  rw [← hxs] at hks
  have hkt : (kt ms).length = xs.length := by rw [← hks, srt_len]
  repeat (refine wXh ?_)
  refine RD_w (M' := .row a xs.length c' (recs (eI .i64) xs) 3 1 :: M0) (I' := I0) subF incF ?_
  refine RD_fact (fun w hw => Mem.rowLe hw) (fun hcc => ?_)
  refine RD_rowBlk (fun e1 e2 e3 => ?_) (fun b tl e1 e2 => ?_)
  · subst e1
    refine RD_fact (fun w hw => Mem.rowC hw) (fun hc0 => ?_)
    have hxn : xs = [] := List.eq_nil_of_length_eq_zero e2
    subst hxn
    subst hc0
    (refine RD_callS rfl (Sort_nil) rfl rfl ?_; rintro _ _ _ ⟨rfl, rfl⟩; refine ⟨okF, ?_⟩)
    repeat (refine wXh ?_)
    refine ND_freezeR remF ?_
    refine ND_ret1 (by first | exact .inl rfl | exact .inr rfl) rfl rfl _ _ subF incF (⟨rfl, none, 0, by rw [hkt], by rw [hkt]; exact Nat.le_refl _, by rw [← hks]; rfl⟩)
  · subst e1
    (refine RD_callS rfl (Sort_ok (D := xs) rfl hn12) rfl rfl ?_; rintro _ _ _ ⟨rfl, rfl⟩; refine ⟨okF, ?_⟩)
    rw [hks]
    repeat (refine wXh ?_)
    refine ND_freezeB (b := b) remF ?_
    refine ND_takeI (cs := recs (eI .i64) (kt ms)) (tl := tl) memF ?_
    refine ND_ret1 (by first | exact .inl rfl | exact .inr rfl) rfl rfl _ _ subF incF (⟨rfl, some ⟨b, 0, none⟩, c', by rw [hkt], by omega, rfl⟩)
end
end Go.Proofs.Ytkhgglkkdnemlaa

/- corner: the reference's Find, walked. Arguments, opened: slices of records, structs with slices. corner: the law CornerFinds, walked. -/
import Derived.Test.YtegaegipekonmaaZcat
import Derived.Test.YtegaegipekonmaaZcab
import Derived.Test.YtegaegipekonmaaZcaf
import Derived.Test.YtegaegipekonmaaZcar
set_option linter.unusedSimpArgs false
set_option linter.unusedVariables false
namespace Go.Proofs.Ytegaegipekonmaa
open Go Go.Fx
def FdR (px : List Int) (W H Mx th most : Int) (I0 : List Imm) (v : Value) (I : List Imm) : Prop :=
  (ask W H Mx px ≠ 0 ∧ I0 = I ∧ v = .tuple #[.slice none 0 0, .int .i64 (ask W H Mx px)]) ∨
  (ask W H Mx px = 0 ∧ (th < 0 ∨ most < 0 ∨ 4096 < most) ∧ I0 = I ∧ v = .tuple #[.slice none 0 0, .int .i64 2]) ∨
  (ask W H Mx px = 0 ∧ ¬ (th < 0 ∨ most < 0 ∨ 4096 < most) ∧ ∃ (a : Option Addr) (c : Nat) (L : List C3), L = (srt kD (allL px W H th H.toNat)).take most.toNat ∧ v = .tuple #[.slice a L.length c, .int .i64 0] ∧ I = slI a (recs eC L) :: I0)
theorem okCut {a : Option Addr} {c l sz : Nat} (h : Ok a) : Ok (cutA a c l sz) := by
  unfold cutA
  split
  · exact h
  · exact h.add _
theorem rowL_len (px : List Int) (W H th y : Int) : ∀ n : Nat, (rowL px W H th y n).length ≤ n := fun n => by
  induction n with
  | zero => simp [rowL]
  | succ n ih => rw [rowL_succ]; simp only [List.length_append]; split <;> simp <;> omega
section
variable {X : List Nat} {w0 : World} {M0 : List Ent} {I0 : List Imm}
set_option maxRecDepth 100000 in
set_option maxHeartbeats 4000000 in
theorem rFind_ok {p : Option Addr} {W H Mx th most : Int} {px : List Int} {c m : Nat} (hm0 : px.length = m) (hn : m ≤ 200) (hp : slI p (recs (eI .i64) px) ∈ I0) :
    CD Try.prog 7 [.agg #[.int .i64 W, .int .i64 H, .int .i64 Mx, .slice p m c], .int .i64 th, .int .i64 most] X w0 M0 I0 (fun v M I => M0 = M ∧ FdR px W H Mx th most I0 v I) := by
  have hS := fun M0 I0 h => fScores_ok (X := X) (w0 := w0) (M0 := M0) (I0 := I0) (p := p) (W := W) (H := H) (Mx := Mx) (px := px) (c := c) (by omega) h
  rw [hm0] at hS
  refine enterD3 Try.func7 rfl Try.ntmps7 rfl ?_
  refine TD_seq ?_
  refine TD_region ?_
  (refine RD_boxA rfl rfl rfl ?_; intro b3; refine ⟨okF, ?_⟩)
  refine RD_freezeB .here ?_
  repeat (refine wXh ?_)
  (refine RD_callS rfl (hS _ _ memF) rfl rfl ?_; rintro _ _ _ ⟨rfl, h1⟩; refine ⟨okF, ?_⟩)
  obtain ⟨h0, rfl, rfl⟩ | ⟨h0, a1, c1, xs, rfl, rfl, hsc⟩ := h1
  · repeat (refine wXh ?_)
    refine ND_rets [6, 7] (by first | exact .inl rfl | exact .inr rfl) rfl rfl rfl _ _ subF incF (⟨rfl, .inl ⟨h0, rfl, rfl⟩⟩)
  by_cases q1 : th < 0
  · repeat (refine wXh ?_)
    refine ND_rets [6, 7] (by first | exact .inl rfl | exact .inr rfl) rfl rfl rfl _ _ subF incF (⟨rfl, .inr (.inl ⟨h0, .inl q1, rfl, rfl⟩)⟩)
  by_cases q2 : most < 0
  · repeat (refine wXh ?_)
    refine ND_rets [6, 7] (by first | exact .inl rfl | exact .inr rfl) rfl rfl rfl _ _ subF incF (⟨rfl, .inr (.inl ⟨h0, .inr (.inl q2), rfl, rfl⟩)⟩)
  by_cases q3 : 4096 < most
  · repeat (refine wXh ?_)
    refine ND_rets [6, 7] (by first | exact .inl rfl | exact .inr rfl) rfl rfl rfl _ _ subF incF (⟨rfl, .inr (.inl ⟨h0, .inr (.inr q3), rfl, rfl⟩)⟩)
  have hR : ¬ (th < 0 ∨ most < 0 ∨ 4096 < most) := by omega
  obtain ⟨hr, hM⟩ := ask_zero h0
  obtain ⟨⟨r1, r2, r3, r4, r5, r6, r7⟩, r8⟩ := hr
  have hP := Px_of hM (by omega) r8
  have hmu := mul64 (a := W) (b := H) (by omega) (by omega)
  have hWi : 1 ≤ W ∧ W ≤ 64 := by omega
  have hHi : 1 ≤ H ∧ H ≤ 64 := by omega
  have rg : ∀ u v, Rg (scF px W H u v) := fun u v => by have := scF_bd hP W H u v; unfold Rg; omega
  have few := fun y => allL_few px W H th (by omega) r1 r3 (by omega) y
  clear hP hS r8
  obtain ⟨n1, hn1⟩ : ∃ n, xs.length = n := ⟨_, rfl⟩
  rw [hn1]
  repeat (refine wXh ?_)
  (refine RD_vals (cs := recs eC []) ([]) rfl rfl (by intro v hv; repeat (first | exact absurd hv (List.not_mem_nil) | (rcases List.mem_cons.1 hv with rfl | hv; · rfl))) (by omega) rfl rfl rfl ?_; intro b10; refine ⟨okF, ?_⟩; refine RD_toRow (mm := 0) 3 .here rfl (by omega) ?_)
  refine RD_freezeR .here ?_
  repeat (refine wXh ?_)
  refine TD_loop [1, 2, 3, 8] rfl (fun k G M I => ∃ (y : Nat) (a : Option Addr) (c' : Nat) (L : List C3), y ≤ H ∧ k = (H - y).toNat ∧ L = srt kD (allL px W H th y) ∧ Ok a ∧ L.length ≤ c' ∧ G = [(10, .slice a L.length c'), (11, .int .i64 y)] ∧ M0 = M ∧ I = slI a (recs eC L) :: slI a1 (recs (eI .i64) xs) :: slI (some ⟨b3, 0, none⟩) [.int .i64 W, .int .i64 H, .int .i64 Mx, .slice p m c] :: I0) (H.toNat) _ _ _ subG subF incF (⟨0, some ⟨b10, 0, none⟩, 0, [], by omega, by simp, rfl, Ok.mk _ _, Nat.le_refl _, rfl, rfl, rfl⟩) ?_
  rintro kk G M I ⟨y, a, c', L, hy, rfl, hL, hoa, hlc, rfl, rfl, rfl⟩
  have hLl : L.length = (allL px W H th y).length := by rw [hL, srt_len]
  have hf := few y
  by_cases hyH : (y : Int) < H
  rotate_left
  · obtain rfl : y = H.toNat := by omega
    obtain ⟨mo, rfl⟩ : ∃ mo : Nat, most = mo := ⟨most.toNat, by omega⟩
    by_cases hlm : mo < L.length
    · repeat (refine wXh ?_)
      refine RD_c rfl (fun _ => Const_cut (e := 33) (sz := 3) 0 mo mo rfl (.inl ⟨rfl, rfl⟩) (.inr ⟨_, _, _, rfl, rfl, rfl⟩) (by omega) (by omega) (by omega)) rfl rfl ?_
      refine RD_cutI (enc := eC) (ms := L) c' 0 mo memF hlc ?_
      rw [List.drop_zero]
      repeat (refine wXh ?_)
      refine ND_rets [6, 7] (by first | exact .inl rfl | exact .inr rfl) rfl rfl rfl _ _ subF incF (⟨rfl, .inr (.inr ⟨h0, hR, cutA a c' 0 3, c' - 0, L.take mo, by rw [hL]; rfl, by rw [List.length_take, Nat.min_eq_left (by omega)], rfl⟩)⟩)
    · repeat (refine wXh ?_)
      refine ND_rets [6, 7] (by first | exact .inl rfl | exact .inr rfl) rfl rfl rfl _ _ subF incF (⟨rfl, .inr (.inr ⟨h0, hR, a, c', L, by rw [← hL]; exact (List.take_of_length_le (by omega)).symm, rfl, rfl⟩)⟩)
  repeat (refine wXh ?_)
  refine TD_loop [1, 2, 3, 8, 11] rfl (fun k G M I => ∃ (x : Nat) (a : Option Addr) (c' : Nat) (L : List C3), x ≤ W ∧ k = (W - x).toNat ∧ L = srt kD (allL px W H th y ++ rowL px W H th y x) ∧ Ok a ∧ L.length ≤ c' ∧ G = [(10, .slice a L.length c'), (12, .int .i64 x)] ∧ M0 = M ∧ I = slI a (recs eC L) :: slI a1 (recs (eI .i64) xs) :: slI (some ⟨b3, 0, none⟩) [.int .i64 W, .int .i64 H, .int .i64 Mx, .slice p m c] :: I0) (W.toNat) _ _ _ subG subF incF (⟨0, a, c', L, by omega, by simp, by rw [hL]; simp [rowL], hoa, hlc, rfl, rfl, rfl⟩) ?_
  clear hL hLl hoa hlc
  rintro kk G M I ⟨x, a, c', L, hx, rfl, hL, hoa, hlc, rfl, rfl, rfl⟩
  have hrl := rowL_len px W H th y x
  have hLl : L.length < 104 := by rw [hL, srt_len, List.length_append]; omega
  by_cases hxW : (x : Int) < W
  rotate_left
  · obtain rfl : x = W.toNat := by omega
    repeat (refine wXh ?_)
    refine ND_again ((H - (y + 1)).toNat) _ _ _ (by first | omega | (simp only [List.length_append, List.length_cons, List.length_nil]; omega)) subG subF incF (⟨y + 1, a, c', L, by omega, by omega, hL, hoa, hlc, rfl, rfl, rfl⟩)
  repeat (refine wXh ?_)
  (refine RD_callS rfl (rpeak_ok (x := x) (y := y) (th := th) hn1 hsc hWi hHi (by omega) (by omega) memF) rfl rfl ?_; rintro _ _ _ ⟨rfl, rfl, rfl⟩; refine ⟨okF, ?_⟩)
  by_cases hpk : Pk px W H th x y
  rotate_left
  · rw [B_false hpk]
    repeat (refine wXh ?_)
    refine ND_again ((W - (x + 1)).toNat) _ _ _ (by first | omega | (simp only [List.length_append, List.length_cons, List.length_nil]; omega)) subG subF incF (⟨x + 1, a, c', L, by omega, by omega, by rw [rowL_succ, if_neg hpk, List.append_nil]; exact hL, hoa, hlc, rfl, rfl, rfl⟩)
  rw [B_true hpk]
  repeat (refine wXh ?_)
  (refine RD_callS rfl (rat_ok (x := x) (y := y) hn1 hsc hWi hHi memF) rfl rfl ?_; rintro _ _ _ ⟨rfl, rfl, rfl⟩; refine ⟨okF, ?_⟩)
  have pb1 := par_bd (scF px W H ((x : Int) - 1) y) (scF px W H x y) (scF px W H ((x : Int) + 1) y)
  have pb2 := par_bd (scF px W H x ((y : Int) - 1)) (scF px W H x y) (scF px W H x ((y : Int) + 1))
  repeat (refine wXh ?_)
  refine TD_cutT (fun G M I => ∃ b14 : Nat, G = [(1, .int .i64 th), (2, .int .i64 most), (3, .pointer (some ⟨b3, 0, none⟩)), (8, .slice a1 n1 c1), (10, .slice a L.length c'), (11, .int .i64 y), (12, .int .i64 x), (13, .int .i64 (scF px W H x y)), (14, .pointer (some ⟨b14, 0, none⟩))] ∧ M = .blk b14 (eC (CK px W H x y)) 33 :: M0 ∧ I = slI a (recs eC L) :: slI a1 (recs (eI .i64) xs) :: slI (some ⟨b3, 0, none⟩) [.int .i64 W, .int .i64 H, .int .i64 Mx, .slice p m c] :: I0) ?_ ?_
  · ((repeat refine TD_seq ?_); refine TD_rest (M0) (slI a (recs eC L) :: slI a1 (recs (eI .i64) xs) :: slI (some ⟨b3, 0, none⟩) [.int .i64 W, .int .i64 H, .int .i64 Mx, .slice p m c] :: I0) mixed ?_)
    refine ND_restPre (fuel := 11) (listed' := #[true, true, true, true, true, true, true, true, false, true, true, true, true, true, true, false, false, false, true, true, true, true, true, true, true, true, false, true, true, true, true, true, true, false, false, false, true, false, false, false]) [0, 1, 2, 3, 4, 5, 6, 7, 9, 10, 11, 12, 13, 14, 18, 19, 20, 21, 22, 23, 24, 25, 27, 28, 29, 30, 31, 32, 36] [7, 7, 7, 6, 6, 7, 6, 6, 6, 6, 6, 7, 6, 6, 7, 7, 7, 6, 6, 6, 7, 6, 6, 6, 6, 6, 7, 6, 7] subF incF (by kernel_rfl) (by kernel_rfl) rfl rfl ?_
    repeat (refine wXh ?_)
    refine ND_restFork (fuel := 10) (i := 8) (j := 38) (by kernel_rfl) ?_ ?_
    · (refine RD_callS rfl (rat_ok (x := (x : Int) - 1) (y := y) hn1 hsc hWi hHi memF) rfl rfl ?_; rintro _ _ _ ⟨rfl, rfl, rfl⟩; refine ⟨okF, ?_⟩)
      refine RD_nil ?_
      repeat (refine wXh ?_)
      refine ND_restFork (fuel := 9) (i := 15) (j := 38) (by kernel_rfl) ?_ ?_
      · (refine RD_callS rfl (rat_ok (x := (x : Int) + 1) (y := y) hn1 hsc hWi hHi memF) rfl rfl ?_; rintro _ _ _ ⟨rfl, rfl, rfl⟩; refine ⟨okF, ?_⟩)
        refine RD_nil ?_
        repeat (refine wXh ?_)
        refine ND_restFork (fuel := 8) (i := 16) (j := 38) (by kernel_rfl) ?_ ?_
        · (refine RD_callS rfl (Parabola_ok (rg ((x : Int) - 1) y) (rg x y) (rg ((x : Int) + 1) y)) rfl rfl ?_; rintro _ _ _ ⟨rfl, rfl, rfl⟩; refine ⟨okF, ?_⟩)
          refine RD_nil ?_
          refine ND_restPre (fuel := 7) (listed' := #[true, true, true, true, true, true, true, true, true, true, true, true, true, true, true, true, true, true, true, true, true, true, true, true, true, true, false, true, true, true, true, true, true, false, false, false, true, false, false, false]) [17] [4] subF incF (by kernel_rfl) (by kernel_rfl) rfl rfl ?_
          repeat (refine wXh ?_)
          refine ND_restFork (fuel := 6) (i := 26) (j := 38) (by kernel_rfl) ?_ ?_
          · (refine RD_callS rfl (rat_ok (x := x) (y := (y : Int) - 1) hn1 hsc hWi hHi memF) rfl rfl ?_; rintro _ _ _ ⟨rfl, rfl, rfl⟩; refine ⟨okF, ?_⟩)
            refine RD_nil ?_
            repeat (refine wXh ?_)
            refine ND_restFork (fuel := 5) (i := 33) (j := 38) (by kernel_rfl) ?_ ?_
            · (refine RD_callS rfl (rat_ok (x := x) (y := (y : Int) + 1) hn1 hsc hWi hHi memF) rfl rfl ?_; rintro _ _ _ ⟨rfl, rfl, rfl⟩; refine ⟨okF, ?_⟩)
              refine RD_nil ?_
              repeat (refine wXh ?_)
              refine ND_restFork (fuel := 4) (i := 34) (j := 38) (by kernel_rfl) ?_ ?_
              · (refine RD_callS rfl (Parabola_ok (rg x ((y : Int) - 1)) (rg x y) (rg x ((y : Int) + 1))) rfl rfl ?_; rintro _ _ _ ⟨rfl, rfl, rfl⟩; refine ⟨okF, ?_⟩)
                refine RD_nil ?_
                refine ND_restEnd [35, 37, 38, 39] [1, 1, 0, 0] subF incF (by kernel_rfl) (by kernel_rfl) rfl rfl ?_
                repeat (refine wXh ?_)
                (refine RD_c rfl (fun _ => Const_structC (vals := [.int .i64 (64 * (x : Int) + 32 + par (scF px W H ((x : Int) - 1) y) (scF px W H x y) (scF px W H ((x : Int) + 1) y)), .int .i64 (64 * (y : Int) + 32 + par (scF px W H x ((y : Int) - 1)) (scF px W H x y) (scF px W H x ((y : Int) + 1))), .int .i64 (scF px W H x y)]) (cells := eC (CK px W H x y)) rfl ?hpl rfl ?hz) rfl rfl ?_; (case hpl => repeat (first | exact True.intro | refine ⟨rfl, ?_⟩)); (case hz => rfl))
                repeat (refine wXh ?_)
                (refine RD_alloc rfl rfl ?_; intro b14; refine ⟨okF, ?_⟩)
                repeat (refine wXh ?_)
                refine ND_cut _ _ _ subG subF incF ⟨b14, rfl, rfl, rfl⟩
              · (refine RD_alloc rfl rfl ?_; intro b14; refine ⟨okF, ?_⟩)
                refine RD_nil ?_
                refine ND_restEnd [34, 35, 37, 39] [0, 0, 0, 0] subF incF (by kernel_rfl) (by kernel_rfl) rfl rfl ?_
                repeat (refine wXh ?_)
                (refine RD_callS rfl (Parabola_ok (rg x ((y : Int) - 1)) (rg x y) (rg x ((y : Int) + 1))) rfl rfl ?_; rintro _ _ _ ⟨rfl, rfl, rfl⟩; refine ⟨okF, ?_⟩)
                repeat (refine wXh ?_)
                (refine RD_c rfl (fun _ => Const_structC (vals := [.int .i64 (64 * (x : Int) + 32 + par (scF px W H ((x : Int) - 1) y) (scF px W H x y) (scF px W H ((x : Int) + 1) y)), .int .i64 (64 * (y : Int) + 32 + par (scF px W H x ((y : Int) - 1)) (scF px W H x y) (scF px W H x ((y : Int) + 1))), .int .i64 (scF px W H x y)]) (cells := eC (CK px W H x y)) rfl ?hpl rfl ?hz) rfl rfl ?_; (case hpl => repeat (first | exact True.intro | refine ⟨rfl, ?_⟩)); (case hz => rfl))
                repeat (refine wXh ?_)
                refine ND_cut _ _ _ subG subF incF ⟨b14, rfl, rfl, rfl⟩
            · (refine RD_alloc rfl rfl ?_; intro b14; refine ⟨okF, ?_⟩)
              refine RD_nil ?_
              refine ND_restEnd [33, 34, 35, 37, 39] [0, 0, 0, 0, 0] subF incF (by kernel_rfl) (by kernel_rfl) rfl rfl ?_
              repeat (refine wXh ?_)
              (refine RD_callS rfl (rat_ok (x := x) (y := (y : Int) + 1) hn1 hsc hWi hHi memF) rfl rfl ?_; rintro _ _ _ ⟨rfl, rfl, rfl⟩; refine ⟨okF, ?_⟩)
              repeat (refine wXh ?_)
              (refine RD_callS rfl (Parabola_ok (rg x ((y : Int) - 1)) (rg x y) (rg x ((y : Int) + 1))) rfl rfl ?_; rintro _ _ _ ⟨rfl, rfl, rfl⟩; refine ⟨okF, ?_⟩)
              repeat (refine wXh ?_)
              (refine RD_c rfl (fun _ => Const_structC (vals := [.int .i64 (64 * (x : Int) + 32 + par (scF px W H ((x : Int) - 1) y) (scF px W H x y) (scF px W H ((x : Int) + 1) y)), .int .i64 (64 * (y : Int) + 32 + par (scF px W H x ((y : Int) - 1)) (scF px W H x y) (scF px W H x ((y : Int) + 1))), .int .i64 (scF px W H x y)]) (cells := eC (CK px W H x y)) rfl ?hpl rfl ?hz) rfl rfl ?_; (case hpl => repeat (first | exact True.intro | refine ⟨rfl, ?_⟩)); (case hz => rfl))
              repeat (refine wXh ?_)
              refine ND_cut _ _ _ subG subF incF ⟨b14, rfl, rfl, rfl⟩
          · (refine RD_alloc rfl rfl ?_; intro b14; refine ⟨okF, ?_⟩)
            refine RD_nil ?_
            refine ND_restEnd [26, 33, 34, 35, 37, 39] [0, 0, 0, 0, 0, 0] subF incF (by kernel_rfl) (by kernel_rfl) rfl rfl ?_
            repeat (refine wXh ?_)
            (refine RD_callS rfl (rat_ok (x := x) (y := (y : Int) - 1) hn1 hsc hWi hHi memF) rfl rfl ?_; rintro _ _ _ ⟨rfl, rfl, rfl⟩; refine ⟨okF, ?_⟩)
            repeat (refine wXh ?_)
            (refine RD_callS rfl (rat_ok (x := x) (y := (y : Int) + 1) hn1 hsc hWi hHi memF) rfl rfl ?_; rintro _ _ _ ⟨rfl, rfl, rfl⟩; refine ⟨okF, ?_⟩)
            repeat (refine wXh ?_)
            (refine RD_callS rfl (Parabola_ok (rg x ((y : Int) - 1)) (rg x y) (rg x ((y : Int) + 1))) rfl rfl ?_; rintro _ _ _ ⟨rfl, rfl, rfl⟩; refine ⟨okF, ?_⟩)
            repeat (refine wXh ?_)
            (refine RD_c rfl (fun _ => Const_structC (vals := [.int .i64 (64 * (x : Int) + 32 + par (scF px W H ((x : Int) - 1) y) (scF px W H x y) (scF px W H ((x : Int) + 1) y)), .int .i64 (64 * (y : Int) + 32 + par (scF px W H x ((y : Int) - 1)) (scF px W H x y) (scF px W H x ((y : Int) + 1))), .int .i64 (scF px W H x y)]) (cells := eC (CK px W H x y)) rfl ?hpl rfl ?hz) rfl rfl ?_; (case hpl => repeat (first | exact True.intro | refine ⟨rfl, ?_⟩)); (case hz => rfl))
            repeat (refine wXh ?_)
            refine ND_cut _ _ _ subG subF incF ⟨b14, rfl, rfl, rfl⟩
        · (refine RD_alloc rfl rfl ?_; intro b14; refine ⟨okF, ?_⟩)
          refine RD_nil ?_
          refine ND_restEnd [16, 17, 26, 33, 34, 35, 37, 39] [0, 3, 0, 0, 0, 0, 0, 0] subF incF (by kernel_rfl) (by kernel_rfl) rfl rfl ?_
          repeat (refine wXh ?_)
          (refine RD_callS rfl (Parabola_ok (rg ((x : Int) - 1) y) (rg x y) (rg ((x : Int) + 1) y)) rfl rfl ?_; rintro _ _ _ ⟨rfl, rfl, rfl⟩; refine ⟨okF, ?_⟩)
          repeat (refine wXh ?_)
          (refine RD_callS rfl (rat_ok (x := x) (y := (y : Int) - 1) hn1 hsc hWi hHi memF) rfl rfl ?_; rintro _ _ _ ⟨rfl, rfl, rfl⟩; refine ⟨okF, ?_⟩)
          repeat (refine wXh ?_)
          (refine RD_callS rfl (rat_ok (x := x) (y := (y : Int) + 1) hn1 hsc hWi hHi memF) rfl rfl ?_; rintro _ _ _ ⟨rfl, rfl, rfl⟩; refine ⟨okF, ?_⟩)
          repeat (refine wXh ?_)
          (refine RD_callS rfl (Parabola_ok (rg x ((y : Int) - 1)) (rg x y) (rg x ((y : Int) + 1))) rfl rfl ?_; rintro _ _ _ ⟨rfl, rfl, rfl⟩; refine ⟨okF, ?_⟩)
          repeat (refine wXh ?_)
          (refine RD_c rfl (fun _ => Const_structC (vals := [.int .i64 (64 * (x : Int) + 32 + par (scF px W H ((x : Int) - 1) y) (scF px W H x y) (scF px W H ((x : Int) + 1) y)), .int .i64 (64 * (y : Int) + 32 + par (scF px W H x ((y : Int) - 1)) (scF px W H x y) (scF px W H x ((y : Int) + 1))), .int .i64 (scF px W H x y)]) (cells := eC (CK px W H x y)) rfl ?hpl rfl ?hz) rfl rfl ?_; (case hpl => repeat (first | exact True.intro | refine ⟨rfl, ?_⟩)); (case hz => rfl))
          repeat (refine wXh ?_)
          refine ND_cut _ _ _ subG subF incF ⟨b14, rfl, rfl, rfl⟩
      · (refine RD_alloc rfl rfl ?_; intro b14; refine ⟨okF, ?_⟩)
        refine RD_nil ?_
        refine ND_restEnd [15, 16, 17, 26, 33, 34, 35, 37, 39] [0, 0, 3, 0, 0, 0, 0, 0, 0] subF incF (by kernel_rfl) (by kernel_rfl) rfl rfl ?_
        repeat (refine wXh ?_)
        (refine RD_callS rfl (rat_ok (x := (x : Int) + 1) (y := y) hn1 hsc hWi hHi memF) rfl rfl ?_; rintro _ _ _ ⟨rfl, rfl, rfl⟩; refine ⟨okF, ?_⟩)
        repeat (refine wXh ?_)
        (refine RD_callS rfl (Parabola_ok (rg ((x : Int) - 1) y) (rg x y) (rg ((x : Int) + 1) y)) rfl rfl ?_; rintro _ _ _ ⟨rfl, rfl, rfl⟩; refine ⟨okF, ?_⟩)
        repeat (refine wXh ?_)
        (refine RD_callS rfl (rat_ok (x := x) (y := (y : Int) - 1) hn1 hsc hWi hHi memF) rfl rfl ?_; rintro _ _ _ ⟨rfl, rfl, rfl⟩; refine ⟨okF, ?_⟩)
        repeat (refine wXh ?_)
        (refine RD_callS rfl (rat_ok (x := x) (y := (y : Int) + 1) hn1 hsc hWi hHi memF) rfl rfl ?_; rintro _ _ _ ⟨rfl, rfl, rfl⟩; refine ⟨okF, ?_⟩)
        repeat (refine wXh ?_)
        (refine RD_callS rfl (Parabola_ok (rg x ((y : Int) - 1)) (rg x y) (rg x ((y : Int) + 1))) rfl rfl ?_; rintro _ _ _ ⟨rfl, rfl, rfl⟩; refine ⟨okF, ?_⟩)
        repeat (refine wXh ?_)
        (refine RD_c rfl (fun _ => Const_structC (vals := [.int .i64 (64 * (x : Int) + 32 + par (scF px W H ((x : Int) - 1) y) (scF px W H x y) (scF px W H ((x : Int) + 1) y)), .int .i64 (64 * (y : Int) + 32 + par (scF px W H x ((y : Int) - 1)) (scF px W H x y) (scF px W H x ((y : Int) + 1))), .int .i64 (scF px W H x y)]) (cells := eC (CK px W H x y)) rfl ?hpl rfl ?hz) rfl rfl ?_; (case hpl => repeat (first | exact True.intro | refine ⟨rfl, ?_⟩)); (case hz => rfl))
        repeat (refine wXh ?_)
        refine ND_cut _ _ _ subG subF incF ⟨b14, rfl, rfl, rfl⟩
    · (refine RD_alloc rfl rfl ?_; intro b14; refine ⟨okF, ?_⟩)
      refine RD_nil ?_
      refine ND_restEnd [8, 15, 16, 17, 26, 33, 34, 35, 37, 39] [0, 0, 0, 3, 0, 0, 0, 0, 0, 0] subF incF (by kernel_rfl) (by kernel_rfl) rfl rfl ?_
      repeat (refine wXh ?_)
      (refine RD_callS rfl (rat_ok (x := (x : Int) - 1) (y := y) hn1 hsc hWi hHi memF) rfl rfl ?_; rintro _ _ _ ⟨rfl, rfl, rfl⟩; refine ⟨okF, ?_⟩)
      repeat (refine wXh ?_)
      (refine RD_callS rfl (rat_ok (x := (x : Int) + 1) (y := y) hn1 hsc hWi hHi memF) rfl rfl ?_; rintro _ _ _ ⟨rfl, rfl, rfl⟩; refine ⟨okF, ?_⟩)
      repeat (refine wXh ?_)
      (refine RD_callS rfl (Parabola_ok (rg ((x : Int) - 1) y) (rg x y) (rg ((x : Int) + 1) y)) rfl rfl ?_; rintro _ _ _ ⟨rfl, rfl, rfl⟩; refine ⟨okF, ?_⟩)
      repeat (refine wXh ?_)
      (refine RD_callS rfl (rat_ok (x := x) (y := (y : Int) - 1) hn1 hsc hWi hHi memF) rfl rfl ?_; rintro _ _ _ ⟨rfl, rfl, rfl⟩; refine ⟨okF, ?_⟩)
      repeat (refine wXh ?_)
      (refine RD_callS rfl (rat_ok (x := x) (y := (y : Int) + 1) hn1 hsc hWi hHi memF) rfl rfl ?_; rintro _ _ _ ⟨rfl, rfl, rfl⟩; refine ⟨okF, ?_⟩)
      repeat (refine wXh ?_)
      (refine RD_callS rfl (Parabola_ok (rg x ((y : Int) - 1)) (rg x y) (rg x ((y : Int) + 1))) rfl rfl ?_; rintro _ _ _ ⟨rfl, rfl, rfl⟩; refine ⟨okF, ?_⟩)
      repeat (refine wXh ?_)
      (refine RD_c rfl (fun _ => Const_structC (vals := [.int .i64 (64 * (x : Int) + 32 + par (scF px W H ((x : Int) - 1) y) (scF px W H x y) (scF px W H ((x : Int) + 1) y)), .int .i64 (64 * (y : Int) + 32 + par (scF px W H x ((y : Int) - 1)) (scF px W H x y) (scF px W H x ((y : Int) + 1))), .int .i64 (scF px W H x y)]) (cells := eC (CK px W H x y)) rfl ?hpl rfl ?hz) rfl rfl ?_; (case hpl => repeat (first | exact True.intro | refine ⟨rfl, ?_⟩)); (case hz => rfl))
      repeat (refine wXh ?_)
      refine ND_cut _ _ _ subG subF incF ⟨b14, rfl, rfl, rfl⟩
  rintro G M I ⟨b14, rfl, rfl, rfl⟩
  have hn3 : (CK px W H x y).2.2 = scF px W H x y := rfl
  obtain ⟨n, hnn⟩ : ∃ n, scF px W H x y = n := ⟨_, rfl⟩
  rw [hnn] at hn3 ⊢
  clear pb1 pb2 rg few hf
  obtain ⟨C, hC⟩ : ∃ C, CK px W H x y = C := ⟨_, rfl⟩
  rw [hC] at hn3 ⊢
  have hasc : Asc kD L := hL ▸ srt_asc kD _
  repeat (refine wXh ?_)
  refine TD_loop [1, 2, 3, 8, 10, 11, 12, 13, 14] rfl (fun k G M I => ∃ (t : Nat) (u : Int), u = t ∧ t ≤ L.length ∧ t = k ∧ (∀ j : Nat, t ≤ j → j < L.length → (gt L (j : Int)).2.2 < n) ∧ G = [(15, .int .i64 u)] ∧ M = .blk b14 (eC C) 33 :: M0 ∧ I = slI a (recs eC L) :: slI a1 (recs (eI .i64) xs) :: slI (some ⟨b3, 0, none⟩) [.int .i64 W, .int .i64 H, .int .i64 Mx, .slice p m c] :: I0) (L.length) _ _ _ subG subF incF (⟨L.length, L.length, rfl, Nat.le_refl _, rfl, fun j h1 h2 => by omega, rfl, rfl, rfl⟩) ?_
  rintro kk G M I ⟨t, u, hu, ht, rfl, hbe, rfl, rfl, rfl⟩
  have hnew : mg kD L [C] = srt kD (allL px W H th y ++ rowL px W H th y (x + 1)) := by rw [rowL_succ, if_pos hpk, ← List.append_assoc, srt_snoc, ← hL, hC]
  have hne : ¬ (mg kD L [C]).length = 0 := by rw [mg_len]; simp
  have hl1 : (L.take t).length = t := by rw [List.length_take]; omega
  have hbe2 : ∀ j : Nat, t ≤ j → j < L.length → (gt L (j : Int)).2.2 < C.2.2 := fun j h1 h2 => by rw [hn3]; exact hbe j h1 h2
  by_cases ht0 : t = 0
  · have hst : t = 0 ∨ ¬ (gt L ((t : Int) - 1)).2.2 < C.2.2 := .inl ht0
    repeat (refine wXh ?_)
    (refine RD_vals (cs := recs eC []) ([]) rfl rfl (by intro v hv; repeat (first | exact absurd hv (List.not_mem_nil) | (rcases List.mem_cons.1 hv with rfl | hv; · rfl))) (by omega) rfl rfl rfl ?_; intro b16; refine ⟨okF, ?_⟩; refine RD_toRow (mm := 0) 3 .here rfl (by omega) ?_)
    repeat (refine wXh ?_)
    refine RD_c rfl (fun _ => Const_cut (e := 33) (sz := 3) 0 t t rfl (.inl ⟨rfl, rfl⟩) (.inr ⟨_, _, _, rfl, rfl, hu⟩) (by omega) (by omega) (by omega)) rfl rfl ?_
    refine RD_cutI (enc := eC) (ms := L) c' 0 t memF hlc ?_
    rw [List.drop_zero]
    (refine RD_appR (xs := []) (ys := L.take t) 0 rfl rfl rfl (Src.imm memF (.inl (okCut hoa))) (by decide) hl1 (by simp; omega) (by simp; omega) rfl rfl ?_; intro a5 c5; refine ⟨okF, ?_⟩)
    refine RD_w (M' := .row a5 ([] ++ L.take t).length c5 (recs eC ([] ++ L.take t)) 33 3 :: .blk b14 (eC C) 33 :: M0) subF Inc.refl ?_
    repeat (refine wXh ?_)
    (refine RD_vals (cs := recs eC [C]) ([.agg (eC C).toArray]) rfl rfl (by intro v hv; repeat (first | exact absurd hv (List.not_mem_nil) | (rcases List.mem_cons.1 hv with rfl | hv; · rfl))) (by omega) rfl rfl rfl ?_; intro b17; refine ⟨okF, ?_⟩)
    (refine RD_appR (xs := [] ++ L.take t) (ys := [C]) 1 rfl rfl rfl (Src.blk memF) (by decide) rfl (by simp; omega) (by simp; omega) rfl rfl ?_; intro a6 c6; refine ⟨okF, ?_⟩)
    refine RD_w (M' := .row a6 ([] ++ L.take t ++ [C]).length c6 (recs eC ([] ++ L.take t ++ [C])) 33 3 :: M0) subF Inc.refl ?_
    repeat (refine wXh ?_)
    refine RD_c rfl (fun _ => Const_cut (e := 33) (sz := 3) t L.length (L.length - t) rfl (.inr ⟨_, _, _, rfl, rfl, hu⟩) (.inl ⟨rfl, rfl⟩) (by omega) (by omega) (by omega)) rfl rfl ?_
    refine RD_cutI (enc := eC) (ms := L) c' t L.length memF hlc ?_
    rw [List.take_length]
    (refine RD_appR (xs := [] ++ L.take t ++ [C]) (ys := L.drop t) 0 rfl rfl rfl (Src.imm memF (.inl (okCut hoa))) (by decide) (by simp) (by simp; omega) (by simp; omega) rfl rfl ?_; intro a7 c7; refine ⟨okF, ?_⟩)
    rw [List.nil_append, ins_srt hasc ht hst hbe2]
    refine RD_fact (fun w hw => (hw.rowS (List.Mem.head _)).2) (fun hok7 => ?_)
    refine RD_fact (fun w hw => hw.rowLe (List.Mem.head _)) (fun hle7 => ?_)
    refine RD_freezeR .here ?_
    repeat (refine wXh ?_)
    refine ND_again ((W - (x + 1)).toNat) _ _ _ (by first | omega | (simp only [List.length_append, List.length_cons, List.length_nil]; omega)) subG subF incF (⟨x + 1, a7, c7, mg kD L [C], by omega, by omega, hnew, hok7.elim id (fun h => absurd h.2.1 hne), hle7, rfl, rfl, rfl⟩)
  by_cases hlt : (gt L (u - 1)).2.2 < n
  · repeat (refine wXh ?_)
    refine ND_again (t - 1) _ _ _ (by first | omega | (simp only [List.length_append, List.length_cons, List.length_nil]; omega)) subG subF incF (⟨t - 1, u - 1, by omega, by omega, rfl, fun j h1 h2 => ?_, rfl, rfl, rfl⟩)
    by_cases e : t ≤ j
    · exact hbe j e h2
    · rw [show (j : Int) = u - 1 by omega]; exact hlt
  have hst : t = 0 ∨ ¬ (gt L ((t : Int) - 1)).2.2 < C.2.2 := .inr (by rw [hn3, ← hu]; exact hlt)
  repeat (refine wXh ?_)
  (refine RD_vals (cs := recs eC []) ([]) rfl rfl (by intro v hv; repeat (first | exact absurd hv (List.not_mem_nil) | (rcases List.mem_cons.1 hv with rfl | hv; · rfl))) (by omega) rfl rfl rfl ?_; intro b16; refine ⟨okF, ?_⟩; refine RD_toRow (mm := 0) 3 .here rfl (by omega) ?_)
  repeat (refine wXh ?_)
  refine RD_c rfl (fun _ => Const_cut (e := 33) (sz := 3) 0 t t rfl (.inl ⟨rfl, rfl⟩) (.inr ⟨_, _, _, rfl, rfl, hu⟩) (by omega) (by omega) (by omega)) rfl rfl ?_
  refine RD_cutI (enc := eC) (ms := L) c' 0 t memF hlc ?_
  rw [List.drop_zero]
  (refine RD_appR (xs := []) (ys := L.take t) 0 rfl rfl rfl (Src.imm memF (.inl (okCut hoa))) (by decide) hl1 (by simp; omega) (by simp; omega) rfl rfl ?_; intro a5 c5; refine ⟨okF, ?_⟩)
  refine RD_w (M' := .row a5 ([] ++ L.take t).length c5 (recs eC ([] ++ L.take t)) 33 3 :: .blk b14 (eC C) 33 :: M0) subF Inc.refl ?_
  repeat (refine wXh ?_)
  (refine RD_vals (cs := recs eC [C]) ([.agg (eC C).toArray]) rfl rfl (by intro v hv; repeat (first | exact absurd hv (List.not_mem_nil) | (rcases List.mem_cons.1 hv with rfl | hv; · rfl))) (by omega) rfl rfl rfl ?_; intro b17; refine ⟨okF, ?_⟩)
  (refine RD_appR (xs := [] ++ L.take t) (ys := [C]) 1 rfl rfl rfl (Src.blk memF) (by decide) rfl (by simp; omega) (by simp; omega) rfl rfl ?_; intro a6 c6; refine ⟨okF, ?_⟩)
  refine RD_w (M' := .row a6 ([] ++ L.take t ++ [C]).length c6 (recs eC ([] ++ L.take t ++ [C])) 33 3 :: M0) subF Inc.refl ?_
  repeat (refine wXh ?_)
  refine RD_c rfl (fun _ => Const_cut (e := 33) (sz := 3) t L.length (L.length - t) rfl (.inr ⟨_, _, _, rfl, rfl, hu⟩) (.inl ⟨rfl, rfl⟩) (by omega) (by omega) (by omega)) rfl rfl ?_
  refine RD_cutI (enc := eC) (ms := L) c' t L.length memF hlc ?_
  rw [List.take_length]
  (refine RD_appR (xs := [] ++ L.take t ++ [C]) (ys := L.drop t) 0 rfl rfl rfl (Src.imm memF (.inl (okCut hoa))) (by decide) (by simp) (by simp; omega) (by simp; omega) rfl rfl ?_; intro a7 c7; refine ⟨okF, ?_⟩)
  rw [List.nil_append, ins_srt hasc ht hst hbe2]
  refine RD_fact (fun w hw => (hw.rowS (List.Mem.head _)).2) (fun hok7 => ?_)
  refine RD_fact (fun w hw => hw.rowLe (List.Mem.head _)) (fun hle7 => ?_)
  refine RD_freezeR .here ?_
  repeat (refine wXh ?_)
  refine ND_again ((W - (x + 1)).toNat) _ _ _ (by first | omega | (simp only [List.length_append, List.length_cons, List.length_nil]; omega)) subG subF incF (⟨x + 1, a7, c7, mg kD L [C], by omega, by omega, hnew, hok7.elim id (fun h => absurd h.2.1 hne), hle7, rfl, rfl, rfl⟩)
end
end Go.Proofs.Ytegaegipekonmaa
namespace Go.Fx
open Go.ChangeShapes Go.WideShapes Go.RowKit Go.ChangeAt

section
variable {H : Type} {enc : TypeId × Value → H} {P : Program} {W : World}

/-- a struct, cell by cell -/
theorem open_struct {base : Nat} {t : TypeId} {v : Value} {d : DataW H} {p : List MemPlace} {fs : Array Field} (ht : P.underlying t = some (.struct fs)) (hv : Value.okWide P W .any base t v) (h : DataW.Trod enc P W 0 (fun _ => true) true t v d p) :
    ∃ cs : List Value, v = .agg cs.toArray ∧ cs.length = P.cellsOf t ∧ Row.okWide P W .any base t cs.toArray ∧ ∀ (i : Nat) (f : Field), fs[i]? = some f → ∃ n y, DataW.trod enc P W 0 (fun _ => true) true n f.type ((cs.drop f.offset).take (P.cellsOf f.type)) = some y := by
  simp only [Value.okWide, ht] at hv
  obtain ⟨cs, rfl, hsz, hrow⟩ := hv
  obtain ⟨fuel, hf⟩ := h
  obtain ⟨xs, n, rfl, _, hl, hxl, hx⟩ := DataW.trod_struct ht hf
  refine ⟨cs.toList, by simp, by simpa using hsz, by simpa using hrow, fun i f hfi => ?_⟩
  have hi : i < fs.size := (Array.getElem?_eq_some_iff.1 hfi).1
  have := hx i f hfi
  rw [List.getElem?_eq_getElem (by omega)] at this
  exact ⟨n, _, this⟩
theorem dec_int {t : TypeId} {k : IntKind} {n : Nat} {cs : List Value} {y : DataW H × List MemPlace} (ht : P.underlying t = some (.int k)) (h : DataW.trod enc P W 0 (fun _ => true) true n t cs = some y) : ∃ x : Int, cs = [.int k x] ∧ (Lit.int k x).wf = true := by
  obtain ⟨m, h1, _, h2⟩ := DataW.trod_int ht h
  exact ⟨m, h1, h2⟩
theorem Mem.startS {W : World} {I : List Imm} {a : Option Addr} {cs : List Value} (h : Mem [] W [] I W) (hs : Sl [] W a cs) : Mem [] W [] (slI a cs :: I) W := h.add (φ := slI a cs) ⟨hs⟩
end
end Go.Fx
namespace Go.Proofs.Ytegaegipekonmaa
open Go Go.Fx
section
variable {X : List Nat} {w0 : World} {M0 : List Ent} {I0 : List Imm}
theorem few_ok {W H Mx : Int} {p : Option Addr} {n c : Nat} : CD Try.prog 5 [.agg #[.int .i64 W, .int .i64 H, .int .i64 Mx, .slice p n c]] X w0 M0 I0 (fun v M I => M0 = M ∧ I0 = I ∧ v = .bool (B (n ≤ 200))) := by
  refine enterD1 Try.func5 rfl Try.ntmps5 rfl ?_
  refine TD_seq ?_
  refine TD_region ?_
  (refine RD_boxA rfl rfl rfl ?_; intro b; refine ⟨okF, ?_⟩)
  repeat (refine wXh ?_)
  refine ND_ret1 (by first | exact .inl rfl | exact .inr rfl) rfl rfl _ _ subF incF (⟨rfl, rfl, congrArg Value.bool (B_congr (by omega))⟩)
theorem RD_nilS {P : Program} {n : Nat} {ops l : List Oper} {Q : Exit → Act → World → Prop} {m : Fx.Mode} {G : Env} {M : List Ent} {I : List Imm} (h : RD P n ops Q m l G X w0 M (slI none [] :: I)) : RD P n ops Q m l G X w0 M I := RD_m (fun _ hw => hw.nilS none) h

set_option maxRecDepth 100000 in
set_option maxHeartbeats 1000000 in
theorem LFinds_ok {p : Option Addr} {W H Mx th most : Int} {px : List Int} {c : Nat} (hn : (px.length : Int) ≤ 9223372036854775807) (hp : slI p (recs (eI .i64) px) ∈ I0) :
    CD Try.prog 3 [.agg #[.int .i64 W, .int .i64 H, .int .i64 Mx, .slice p px.length c], .int .i64 th, .int .i64 most] X w0 M0 I0 (fun v _ _ => v = .bool true) := by
  obtain ⟨m, hm⟩ : ∃ m, px.length = m := ⟨_, rfl⟩
  rw [hm] at hn
  rw [hm]
  refine enterD3 Try.func3 rfl Try.ntmps3 rfl ?_
  refine TD_seq ?_
  refine TD_region ?_
  (refine RD_boxA rfl rfl rfl ?_; intro b; refine ⟨okF, ?_⟩)
  refine RD_freezeB .here ?_
  repeat (refine wXh ?_)
  (refine RD_callS rfl (known_ok) rfl rfl ?_; rintro _ _ _ ⟨rfl, rfl, rfl⟩; refine ⟨okF, ?_⟩)
  repeat (refine wXh ?_)
  (refine RD_callS rfl (few_ok) rfl rfl ?_; rintro _ _ _ ⟨rfl, rfl, rfl⟩; refine ⟨okF, ?_⟩)
  by_cases hf : m ≤ 200
  rotate_left
  · rw [B_false hf]
    repeat (refine wXh ?_)
    refine ND_ret1 (by first | exact .inl rfl | exact .inr rfl) rfl rfl _ _ subF incF (rfl)
  rw [B_true hf]
  have hF := fun M0 I0 h => Find_ok (X := X) (w0 := w0) (M0 := M0) (I0 := I0) (p := p) (W := W) (H := H) (Mx := Mx) (th := th) (most := most) (px := px) (c := c) (by omega) h
  have hE := fun q1 q2 c1 c2 L M0 I0 (hL : (L : List C3).length ≤ 100000) h1 h2 => eqC_ok (X := X) (w0 := w0) (M0 := M0) (I0 := I0) (p := q1) (q := q2) (a := L) (b := L) (c := c1) (c' := c2) (by omega) h1 h2
  rw [hm] at hF
  repeat (refine wXh ?_)
  (refine RD_callS rfl (hF _ _ memF) rfl rfl ?_; rintro _ _ _ ⟨rfl, h1⟩; refine ⟨okF, ?_⟩)
  obtain ⟨h0, rfl, rfl⟩ | ⟨h0, hR, rfl, rfl⟩ | ⟨h0, hR, a1, c1, L, hL, rfl, rfl⟩ := h1
  · repeat (refine wXh ?_)
    (refine RD_callS rfl (rFind_ok hm hf memF) rfl rfl ?_; rintro _ _ _ ⟨rfl, h2⟩; refine ⟨okF, ?_⟩)
    obtain ⟨_, rfl, rfl⟩ | ⟨h0', _⟩ | ⟨h0', _⟩ := h2
    rotate_left
    · exact absurd h0' h0
    · exact absurd h0' h0
    generalize ask W H Mx px = e at *
    repeat (refine wXh ?_)
    refine RD_nilS ?_
    (refine RD_callS rfl (hE none none 0 0 [] _ _ (Nat.zero_le _) memF memF) rfl rfl ?_; rintro _ _ _ ⟨rfl, rfl, rfl⟩; refine ⟨okF, ?_⟩)
    repeat (refine wXh ?_)
    refine ND_ret1 (by first | exact .inl rfl | exact .inr rfl) rfl rfl _ _ subF incF (congrArg Value.bool (B_true rfl))
  · repeat (refine wXh ?_)
    (refine RD_callS rfl (rFind_ok hm hf memF) rfl rfl ?_; rintro _ _ _ ⟨rfl, h2⟩; refine ⟨okF, ?_⟩)
    obtain ⟨h0', _⟩ | ⟨_, _, rfl, rfl⟩ | ⟨_, hR', _⟩ := h2
    · exact absurd h0 h0'
    rotate_left
    · exact absurd hR hR'
    repeat (refine wXh ?_)
    refine RD_nilS ?_
    (refine RD_callS rfl (hE none none 0 0 [] _ _ (Nat.zero_le _) memF memF) rfl rfl ?_; rintro _ _ _ ⟨rfl, rfl, rfl⟩; refine ⟨okF, ?_⟩)
    repeat (refine wXh ?_)
    refine ND_ret1 (by first | exact .inl rfl | exact .inr rfl) rfl rfl _ _ subF incF (congrArg Value.bool (B_true rfl))
  · repeat (refine wXh ?_)
    (refine RD_callS rfl (rFind_ok hm hf memF) rfl rfl ?_; rintro _ _ _ ⟨rfl, h2⟩; refine ⟨okF, ?_⟩)
    obtain ⟨h0', _⟩ | ⟨_, hR', _⟩ | ⟨_, _, a2, c2, L2, hL2, rfl, rfl⟩ := h2
    · exact absurd h0 h0'
    · exact absurd hR' hR
    obtain rfl : L = L2 := by rw [hL, hL2]; rfl
    have hl : L.length ≤ 100000 := by
      rw [hL, List.length_take]
      omega
    repeat (refine wXh ?_)
    (refine RD_callS rfl (hE a1 a2 c1 c2 L _ _ hl memF memF) rfl rfl ?_; rintro _ _ _ ⟨rfl, rfl, rfl⟩; refine ⟨okF, ?_⟩)
    repeat (refine wXh ?_)
    refine ND_ret1 (by first | exact .inl rfl | exact .inr rfl) rfl rfl _ _ subF incF (congrArg Value.bool (B_true rfl))
end

theorem open_ras {H : Type} {enc : TypeId × Value → H} {W : World} {base : Nat} {v : Value} {d : DataW H} {p : List MemPlace} (hv : Value.okWide Try.prog W .any base 24 v) (h : DataW.Trod enc Try.prog W 0 (fun _ => true) true 24 v d p) :
    ∃ (Wd Ht Mx : Int) (a : Option Addr) (px : List Int) (c : Nat), v = .agg #[.int .i64 Wd, .int .i64 Ht, .int .i64 Mx, .slice a px.length c] ∧ Sl [] W a (recs (eI .i64) px) ∧ (px.length : Int) ≤ 9223372036854775807 := by
  obtain ⟨cs, rfl, hl, hrow, hf⟩ := open_struct Try.underlying24 hv h
  have hl4 : cs.length = 4 := by rw [hl]; kernel_rfl
  match cs, hl4 with
  | [c0, c1, c2, c3], _ =>
    obtain ⟨n0, y0, h0⟩ := hf 0 _ rfl
    obtain ⟨n1, y1, h1⟩ := hf 1 _ rfl
    obtain ⟨n2, y2, h2⟩ := hf 2 _ rfl
    obtain ⟨n3, y3, h3⟩ := hf 3 _ rfl
    have e1 : Try.prog.cellsOf 3 = 1 := by kernel_rfl
    have e2 : Try.prog.cellsOf 22 = 1 := by kernel_rfl
    replace h0 : DataW.trod enc Try.prog W 0 (fun _ => true) true n0 3 (([c0, c1, c2, c3].drop 0).take (Try.prog.cellsOf 3)) = some y0 := h0
    replace h1 : DataW.trod enc Try.prog W 0 (fun _ => true) true n1 3 (([c0, c1, c2, c3].drop 1).take (Try.prog.cellsOf 3)) = some y1 := h1
    replace h2 : DataW.trod enc Try.prog W 0 (fun _ => true) true n2 3 (([c0, c1, c2, c3].drop 2).take (Try.prog.cellsOf 3)) = some y2 := h2
    replace h3 : DataW.trod enc Try.prog W 0 (fun _ => true) true n3 22 (([c0, c1, c2, c3].drop 3).take (Try.prog.cellsOf 22)) = some y3 := h3
    rw [e1] at h0 h1 h2
    rw [e2] at h3
    obtain ⟨x0, q0, _⟩ := dec_int Try.underlying3 h0
    obtain ⟨x1, q1, _⟩ := dec_int Try.underlying3 h1
    obtain ⟨x2, q2, _⟩ := dec_int Try.underlying3 h2
    simp at q0 q1 q2
    subst q0; subst q1; subst q2
    have hcell : Value.okWide Try.prog W .any base 22 c3 := by
      obtain ⟨ts, hts, _, hall⟩ := hrow
      have e : ts = [3, 3, 3, 22] := by
        have : Try.prog.cellTypes Try.prog.depth 24 = some [3, 3, 3, 22] := by kernel_rfl
        rw [this] at hts
        exact (Option.some.inj hts).symm
      subst e
      obtain ⟨u, hu, hc⟩ := hall 3 c3 rfl
      have : u = 22 := by simpa using hu.symm
      subst this
      simpa [Value.okWide, Try.underlying22] using hc
    have h3' : DataW.Trod enc Try.prog W 0 (fun _ => true) true 22 c3 y3.1 y3.2 := by
      obtain ⟨a, len, c, rfl⟩ := Go.WideShapes.okWide_slice Try.underlying22 hcell
      exact ⟨n3, by simpa [Value.cells] using h3⟩
    obtain ⟨a, l, c, rfl, hli, _, hln, _⟩ := open_sliceI Try.underlying22 Try.underlying3 (by kernel_rfl) hcell h3'
    refine ⟨x0, x1, x2, a, l, c, rfl, ?_, hln⟩
    rw [recs_ints]
    exact hli
end Go.Proofs.Ytegaegipekonmaa

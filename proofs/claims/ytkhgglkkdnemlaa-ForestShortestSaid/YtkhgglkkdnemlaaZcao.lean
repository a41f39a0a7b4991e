/- Forest: the document's Reached, Shortest. Forest: the document's Shortest; faulty inputs of Shortest; equal lists of truth values. Forest: the law ForestShortest, walked. -/
import Derived.Test.YtkhgglkkdnemlaaZcan
import Derived.Test.YtkhgglkkdnemlaaZcai
import Derived.Test.YtkhgglkkdnemlaaZcam
set_option linter.unusedSimpArgs false
set_option linter.unusedVariables false
namespace Go.Proofs.Ytkhgglkkdnemlaa
open Go Go.Fx
theorem TD_freezeB {P : Program} {n : Nat} {Q : Exit → Act → World → Prop} {G : Env} {X : List Nat} {w0 : World} {M M' : List Ent} {I : List Imm} {c : Code} {b : Nat} {cs : List Value} {e : TypeId} (hr : Rem (.blk b cs e) M M') (h : TD P n c Q G X w0 M' (slI (some ⟨b, 0, none⟩) cs :: I)) : TD P n c Q G X w0 M I := TD_m (fun _ hw => hw.freezeB hr) h
theorem TD_takeI {P : Program} {n : Nat} {Q : Exit → Act → World → Prop} {G : Env} {X : List Nat} {w0 : World} {M : List Ent} {I : List Imm} {c : Code} {a : Option Addr} {cs tl : List Value} (hm : slI a (cs ++ tl) ∈ I) (h : TD P n c Q G X w0 M (slI a cs :: I)) : TD P n c Q G X w0 M I := TD_m (fun _ hw => hw.takeI hm) h
theorem TD_w2 {P : Program} {n : Nat} {Q : Exit → Act → World → Prop} {G : Env} {X : List Nat} {w0 : World} {M M' : List Ent} {I I' : List Imm} {c : Code} (hM : SubP M M') (hI : Inc I I') (h : TD P n c Q G X w0 M' I') : TD P n c Q G X w0 M I := TD_m (fun _ hw => hw.weak hM hI) h
section
variable {X : List Nat} {w0 : World} {M0 : List Ent} {I0 : List Imm}
theorem rsame_ok {p q : Option Addr} {a b : List Int} {n c c' : Nat} (ha : a.length = n) (hb : b.length = n) (hn : n ≤ 100000) (h1 : slI p (recs (eI .i64) a) ∈ I0) (h2 : slI q (recs (eI .i64) b) ∈ I0) :
    CD Try.prog 54 [.slice p n c, .slice q n c'] X w0 M0 I0 (fun v M I => M0 = M ∧ I0 = I ∧ v = .bool (B (a = b))) := by
  refine enterD2 Try.func54 rfl Try.ntmps54 rfl ?_
  repeat (refine wXh ?_)
  refine TD_loop [0, 1, 12] rfl (fun k G M I => ∃ i : Nat, i ≤ n ∧ k = n - i ∧ (∀ j : Nat, j < i → gt a j = gt b j) ∧ G = [(13, .int .i64 i)] ∧ M0 = M ∧ I0 = I) (n) _ _ _ subG subF incF (⟨0, by omega, rfl, fun j hj => by omega, rfl, rfl, rfl⟩) ?_
  rintro kk G M I ⟨i, hi, rfl, hs, rfl, rfl, rfl⟩
  by_cases hin : i < n
  · by_cases he : gt a i = gt b i
    · repeat (refine wXh ?_)
      (repeat refine TD_seq ?_); refine TD_drawnJ 0 [0, 1, 2, 3, 4, 5, 6, 7, 8] [0, 0, 0, 0, 0, 0, 0, 0, 0] mixed (by kernel_rfl) ?_
      repeat (refine wXh ?_)
      refine ND_again (n - (i + 1)) _ _ _ (by first | omega | (simp only [List.length_append, List.length_cons, List.length_nil]; omega)) subG subF incF (⟨i + 1, by omega, rfl, fun j hj => ?_, rfl, rfl, rfl⟩)
      by_cases e : j = i
      · subst e; exact he
      · exact hs j (by omega)
    · repeat (refine wXh ?_)
      (repeat refine TD_seq ?_); refine TD_drawnJ 0 [0, 1, 2, 3, 4, 5, 6, 7, 8] [0, 0, 0, 0, 0, 0, 0, 0, 0] mixed (by kernel_rfl) ?_
      repeat (refine wXh ?_)
      refine ND_ret1 (by first | exact .inl rfl | exact .inr rfl) rfl rfl _ _ subF incF (⟨rfl, rfl, congrArg Value.bool (B_false (fun h => he (by rw [h]))).symm⟩)
  · repeat (refine wXh ?_)
    refine ND_ret1 (by first | exact .inl rfl | exact .inr rfl) rfl rfl _ _ subF incF (⟨rfl, rfl, congrArg Value.bool (B_true (list_eq_of_gt (by omega) (fun j hj => hs j (by omega)))).symm⟩)
set_option maxRecDepth 100000 in
set_option maxHeartbeats 4000000 in
theorem Reached_ok {p : Option Addr} {n m c T : Nat} {ms : List LK} {s : Int} (hn : n ≤ 256) (hm : ms.length = m) (hm2 : m ≤ 1024) (hT : T ≤ 300) (hg : Gd ms n) (hs : 0 ≤ s ∧ s < n) (hp : slI p (recs eK ms) ∈ I0) :
    CD Try.prog 53 [gv n p m c, .int .i64 s, .int .i64 T] X w0 M0 I0 (fun v M I => M0 = M ∧ ∃ (d : List Int × List Bool) (q1 q2 : Option Addr) (c1 c2 : Nat), v = .tuple #[.slice q1 n c1, .slice q2 n c2] ∧ Jo ms n (OD (List.replicate n 0) (st (List.replicate n false) s true)) T d ∧ I = slI q1 (recs (eI .i64) d.1) :: slI q2 (recs eB d.2) :: I0) := by
  have hro := Ro.one (ms := ms) hs
  obtain ⟨hjo, hsnd, hsrc⟩ := Jo.init (d := (List.replicate n 0, st (List.replicate n false) s true)) hro
  dsimp only at hjo hsnd hsrc
  refine enterD3 Try.func53 rfl Try.ntmps53 rfl ?_
  refine TD_seq ?_
  refine TD_region ?_
  (refine RD_boxA rfl rfl rfl ?_; intro b3; refine ⟨okF, ?_⟩)
  refine RD_freezeB .here ?_
  repeat (refine wXh ?_)
  refine TD_cutT (fun G M I => ∃ b8 b9 : Nat, G = [(1, .int .i64 s), (2, .int .i64 T), (3, .pointer (some ⟨b3, 0, none⟩)), (8, .slice (some ⟨b8, 0, none⟩) n n), (9, .slice (some ⟨b9, 0, none⟩) n n)] ∧ M = .blk b8 (recs (eI .i64) (List.replicate n 0)) 3 :: .blk b9 (recs eB (List.replicate n false)) 4 :: M0 ∧ I = slI (some ⟨b3, 0, none⟩) [.int .i64 n, .slice p m c] :: I0) ?_ ?_
  · ((repeat refine TD_seq ?_); refine TD_rest (M0) (slI (some ⟨b3, 0, none⟩) [.int .i64 n, .slice p m c] :: I0) mixed ?_)
    refine ND_restPre (fuel := 4) (listed' := #[true, true, false, true, true, false, false, false]) [0, 1, 3, 4] [2, 1, 2, 1] subF incF (by kernel_rfl) (by kernel_rfl) rfl rfl ?_
    repeat (refine wXh ?_)
    refine ND_restFork (fuel := 3) (i := 2) (j := 5) (by kernel_rfl) ?_ ?_
    · (refine RD_makeX (n) rfl rfl (by omega) (by omega) (by omega) (by omega) (made_int _ _) rfl rfl ?_; intro b8; refine ⟨okF, ?_⟩)
      refine RD_nil ?_
      refine ND_restEnd [6, 5, 7] [1, 0, 0] subF incF (by kernel_rfl) (by kernel_rfl) rfl rfl ?_
      repeat (refine wXh ?_)
      (refine RD_makeX (n) rfl rfl (by omega) (by omega) (by omega) (by omega) (made_bool _) rfl rfl ?_; intro b9; refine ⟨okF, ?_⟩)
      repeat (refine wXh ?_)
      refine ND_cut _ _ _ subG subF incF ⟨b8, b9, rfl, rfl, rfl⟩
    · (refine RD_makeX (n) rfl rfl (by omega) (by omega) (by omega) (by omega) (made_bool _) rfl rfl ?_; intro b9; refine ⟨okF, ?_⟩)
      refine RD_nil ?_
      refine ND_restEnd [2, 6, 7] [0, 0, 0] subF incF (by kernel_rfl) (by kernel_rfl) rfl rfl ?_
      repeat (refine wXh ?_)
      (refine RD_makeX (n) rfl rfl (by omega) (by omega) (by omega) (by omega) (made_int _ _) rfl rfl ?_; intro b8; refine ⟨okF, ?_⟩)
      repeat (refine wXh ?_)
      refine ND_cut _ _ _ subG subF incF ⟨b8, b9, rfl, rfl, rfl⟩
  rintro G M I ⟨b8, b9, rfl, rfl, rfl⟩
  have hl1 : (List.replicate n false).length = n := List.length_replicate
  repeat (refine wXh ?_)
  refine TD_freezeB (b := b8) .here ?_
  refine TD_freezeB (b := b9) .here ?_
  refine TD_loop [3, 23] rfl (fun k G M I => ∃ (t : Nat) (d : List Int × List Bool) (a8 a9 : Nat) (c8 c9 : Nat), t ≤ T ∧ k = T - t ∧ Jo ms n (OD (List.replicate n 0) (st (List.replicate n false) s true)) t d ∧ G = [(8, .slice (some ⟨a8, 0, none⟩) n c8), (9, .slice (some ⟨a9, 0, none⟩) n c9), (24, .int .i64 t)] ∧ M0 = M ∧ I = slI (some ⟨a9, 0, none⟩) (recs eB d.2) :: slI (some ⟨a8, 0, none⟩) (recs (eI .i64) d.1) :: slI (some ⟨b3, 0, none⟩) [.int .i64 n, .slice p m c] :: I0) (T) _ _ _ subG subF incF (⟨0, (List.replicate n 0, st (List.replicate n false) s true), b8, b9, n, n, by omega, rfl, hjo, rfl, rfl, rfl⟩) ?_
  clear hjo hro
  rintro kk G M I ⟨t, ⟨d, kn⟩, a8, a9, c8, c9, ht, rfl, hj, rfl, rfl, rfl⟩
  have hld := hj.ld
  have hlk := hj.lk
  have hst := hj.start
  dsimp only at hld hlk
  by_cases htT : t < T
  · repeat (refine wXh ?_)
    (refine RD_vals (cs := recs (eI .i64) []) ([]) rfl rfl (by intro v hv; repeat (first | exact absurd hv (List.not_mem_nil) | (rcases List.mem_cons.1 hv with rfl | hv; · rfl))) (by omega) rfl rfl rfl ?_; intro b10; refine ⟨okF, ?_⟩; refine RD_toRow (mm := 0) 1 .here rfl (by omega) ?_)
    repeat (refine wXh ?_)
    (refine RD_appR (xs := []) (ys := d) 0 rfl rfl rfl (Src.imm memF (.inl (Ok.mk _ _))) (by decide) hld (by simp; omega) (by simp; omega) rfl rfl ?_; intro a3 c3; refine ⟨okF, ?_⟩)
    rw [List.nil_append]
    repeat (refine wXh ?_)
    (refine RD_vals (cs := recs eB []) ([]) rfl rfl (by intro v hv; repeat (first | exact absurd hv (List.not_mem_nil) | (rcases List.mem_cons.1 hv with rfl | hv; · rfl))) (by omega) rfl rfl rfl ?_; intro b11; refine ⟨okF, ?_⟩; refine RD_toRow (mm := 0) 1 .here rfl (by omega) ?_)
    repeat (refine wXh ?_)
    (refine RD_appR (xs := []) (ys := kn) 0 rfl rfl rfl (Src.imm memF (.inl (Ok.mk _ _))) (by decide) hlk (by simp; omega) (by simp; omega) rfl rfl ?_; intro a4 c4; refine ⟨okF, ?_⟩)
    rw [List.nil_append]
    repeat (refine wXh ?_)
    rw [hld, hlk]
    refine TD_rowBlk (fun _ h _ => absurd h (by omega)) (fun bk tk ek _ => ?_)
    subst ek
    refine TD_w2 (M' := .row a3 n c3 (recs (eI .i64) d) 3 1 :: .blk bk (recs eB kn ++ tk) 4 :: M0) subF Inc.refl ?_
    refine TD_rowBlk (fun _ h _ => absurd h (by omega)) (fun bd td ed _ => ?_)
    subst ed
    refine TD_loop [3, 8, 9, 10, 11, 23, 24, 33, 34] rfl (fun k G M I => ∃ (i : Nat) (e : List Int × List Bool), i ≤ m ∧ k = m - i ∧ Jx ms n (d, kn) e i ∧ G = [(35, .int .i64 i)] ∧ M = .blk bd (recs (eI .i64) e.1 ++ td) 3 :: .blk bk (recs eB e.2 ++ tk) 4 :: M0 ∧ I = slI (some ⟨a9, 0, none⟩) (recs eB kn) :: slI (some ⟨a8, 0, none⟩) (recs (eI .i64) d) :: slI (some ⟨b3, 0, none⟩) [.int .i64 n, .slice p m c] :: I0) (m) _ _ _ subG subF incF (⟨0, (d, kn), by omega, rfl, hst, rfl, rfl, rfl⟩) ?_
    clear hst
    rintro kk G M I ⟨i, ⟨d2, k2⟩, hi, rfl, hx, rfl, rfl, rfl⟩
    have hl2 := hx.ld
    have hl3 := hx.lk
    dsimp only at hl2 hl3
    by_cases him : i < m
    · have hA := hg.a (i : Int) (by omega) (by omega)
      have hB := hg.b (i : Int) (by omega) (by omega)
      have hW := hg.w (i : Int) (by omega) (by omega)
      have hbd := hj.bound hg hsnd hA.1 hA.2
      have hT2 : t * 1073741824 ≤ 300 * 1073741824 := Nat.mul_le_mul_right _ (by omega)
      have s1 := hx.skip1
      have s2 := hx.skip2 hA.1 hB.1
      have s3 := hx.put hA.1 hB
      unfold wt at hW s2 s3
      dsimp only at hbd s1 s2 s3
      by_cases hka : gt kn (gt ms (i : Int)).a = true
      · by_cases hkz : gt k2 (gt ms (i : Int)).b = true
        · by_cases hlt : gt d (gt ms (i : Int)).a + (gt ms (i : Int)).w < gt d2 (gt ms (i : Int)).b
          · have hx2 := s3 hka (fun _ => hlt)
            repeat (refine wXh ?_)
            (refine RD_alloc rfl rfl ?_; intro b13; refine ⟨okF, ?_⟩)
            repeat (refine wXh ?_)
            (repeat refine TD_seq ?_); refine TD_drawnJ 0 [0, 1, 2, 3, 4, 5, 6, 7, 8, 9, 10, 11, 12, 13, 14, 15, 16, 17, 18, 19, 20, 21, 22, 23, 24, 25, 26, 27, 28] [0, 0, 0, 0, 0, 0, 0, 0, 0, 0, 0, 0, 0, 0, 0, 0, 0, 0, 0, 0, 0, 0, 0, 0, 0, 0, 0, 0, 0] mixed (by kernel_rfl) ?_
            repeat (refine wXh ?_)
            rw [hka]
            repeat (refine wXh ?_)
            rw [hkz]
            repeat (refine wXh ?_)
            (repeat refine TD_seq ?_); refine TD_drawnW (.blk b13 (eK (gt ms (i : Int))) 39 :: M0) (slI (some ⟨a9, 0, none⟩) (recs eB kn) :: slI (some ⟨a8, 0, none⟩) (recs (eI .i64) d) :: slI (some ⟨b3, 0, none⟩) [.int .i64 n, .slice p m c] :: I0) [0, 1, 2, 3, 4, 5, 6, 7, 8, 9, 10, 11, 12, 13, 14, 15, 16, 17] [0, 0, 0, 1, 1, 1, 0, 0, 0, 0, 0, 0, 0, 0, 0, 0, 0, 0] subF incF mixed (by kernel_rfl) ?_
            repeat (refine wXh ?_)
            refine ND_again (m - (i + 1)) _ _ _ (by first | omega | (simp only [List.length_append, List.length_cons, List.length_nil]; omega)) subG subF incF (⟨i + 1, _, by omega, rfl, hx2, rfl, rfl, rfl⟩)
          · have hx2 := s2 hka hkz hlt
            repeat (refine wXh ?_)
            (refine RD_alloc rfl rfl ?_; intro b13; refine ⟨okF, ?_⟩)
            repeat (refine wXh ?_)
            (repeat refine TD_seq ?_); refine TD_drawnJ 0 [0, 1, 2, 3, 4, 5, 6, 7, 8, 9, 10, 11, 12, 13, 14, 15, 16, 17, 18, 19, 20, 21, 22, 23, 24, 25, 26, 27, 28] [0, 0, 0, 0, 0, 0, 0, 0, 0, 0, 0, 0, 0, 0, 0, 0, 0, 0, 0, 0, 0, 0, 0, 0, 0, 0, 0, 0, 0] mixed (by kernel_rfl) ?_
            repeat (refine wXh ?_)
            rw [hka]
            repeat (refine wXh ?_)
            rw [hkz]
            repeat (refine wXh ?_)
            refine ND_again (m - (i + 1)) _ _ _ (by first | omega | (simp only [List.length_append, List.length_cons, List.length_nil]; omega)) subG subF incF (⟨i + 1, (d2, k2), by omega, rfl, hx2, rfl, rfl, rfl⟩)
        · have hx2 := s3 hka (fun h => absurd h hkz)
          have hkz2 : gt k2 (gt ms (i : Int)).b = false := by simpa using hkz
          repeat (refine wXh ?_)
          (refine RD_alloc rfl rfl ?_; intro b13; refine ⟨okF, ?_⟩)
          repeat (refine wXh ?_)
          (repeat refine TD_seq ?_); refine TD_drawnJ 0 [0, 1, 2, 3, 4, 5, 6, 7, 8, 9, 10, 11, 12, 13, 14, 15, 16, 17, 18, 19, 20, 21, 22, 23, 24, 25, 26, 27, 28] [0, 0, 0, 0, 0, 0, 0, 0, 0, 0, 0, 0, 0, 0, 0, 0, 0, 0, 0, 0, 0, 0, 0, 0, 0, 0, 0, 0, 0] mixed (by kernel_rfl) ?_
          repeat (refine wXh ?_)
          rw [hka]
          repeat (refine wXh ?_)
          rw [hkz2]
          repeat (refine wXh ?_)
          (repeat refine TD_seq ?_); refine TD_drawnW (.blk b13 (eK (gt ms (i : Int))) 39 :: M0) (slI (some ⟨a9, 0, none⟩) (recs eB kn) :: slI (some ⟨a8, 0, none⟩) (recs (eI .i64) d) :: slI (some ⟨b3, 0, none⟩) [.int .i64 n, .slice p m c] :: I0) [0, 1, 2, 3, 4, 5, 6, 7, 8, 9, 10, 11, 12, 13, 14, 15, 16, 17] [0, 0, 0, 1, 1, 1, 0, 0, 0, 0, 0, 0, 0, 0, 0, 0, 0, 0] subF incF mixed (by kernel_rfl) ?_
          repeat (refine wXh ?_)
          refine ND_again (m - (i + 1)) _ _ _ (by first | omega | (simp only [List.length_append, List.length_cons, List.length_nil]; omega)) subG subF incF (⟨i + 1, _, by omega, rfl, hx2, rfl, rfl, rfl⟩)
      · have hka2 : gt kn (gt ms (i : Int)).a = false := by simpa using hka
        have hx2 := s1 hka2
        repeat (refine wXh ?_)
        (refine RD_alloc rfl rfl ?_; intro b13; refine ⟨okF, ?_⟩)
        repeat (refine wXh ?_)
        (repeat refine TD_seq ?_); refine TD_drawnJ 0 [0, 1, 2, 3, 4, 5, 6, 7, 8, 9, 10, 11, 12, 13, 14, 15, 16, 17, 18, 19, 20, 21, 22, 23, 24, 25, 26, 27, 28] [0, 0, 0, 0, 0, 0, 0, 0, 0, 0, 0, 0, 0, 0, 0, 0, 0, 0, 0, 0, 0, 0, 0, 0, 0, 0, 0, 0, 0] mixed (by kernel_rfl) ?_
        repeat (refine wXh ?_)
        rw [hka2]
        repeat (refine wXh ?_)
        refine ND_again (m - (i + 1)) _ _ _ (by first | omega | (simp only [List.length_append, List.length_cons, List.length_nil]; omega)) subG subF incF (⟨i + 1, (d2, k2), by omega, rfl, hx2, rfl, rfl, rfl⟩)
    · obtain rfl : i = m := by omega
      have hj2 := hj.next (k := (d2, k2)) (by rw [hm]; exact hx)
      refine TD_freezeB (b := bd) .here ?_
      refine TD_freezeB (b := bk) .here ?_
      refine TD_takeI (a := some ⟨bd, 0, none⟩) (cs := recs (eI .i64) d2) (tl := td) memF ?_
      refine TD_takeI (a := some ⟨bk, 0, none⟩) (cs := recs eB k2) (tl := tk) memF ?_
      refine TD_w2 (M' := M0) (I' := slI (some ⟨bk, 0, none⟩) (recs eB k2) :: slI (some ⟨bd, 0, none⟩) (recs (eI .i64) d2) :: slI (some ⟨b3, 0, none⟩) [.int .i64 n, .slice p i c] :: I0) subF incF ?_
      repeat (refine wXh ?_)
      refine ND_again (T - (t + 1)) _ _ _ (by first | omega | (simp only [List.length_append, List.length_cons, List.length_nil]; omega)) subG subF incF (⟨t + 1, (d2, k2), bd, bk, c3, c4, by omega, rfl, hj2, rfl, rfl, rfl⟩)
  · obtain rfl : t = T := by omega
    repeat (refine wXh ?_)
    refine ND_rets [6, 7] (by first | exact .inl rfl | exact .inr rfl) rfl rfl rfl _ _ subF incF (⟨rfl, (d, kn), _, _, _, _, rfl, hj, rfl⟩)
end
end Go.Proofs.Ytkhgglkkdnemlaa
namespace Go.Proofs.Ytkhgglkkdnemlaa
open Go Go.Fx
section
variable {X : List Nat} {w0 : World} {M0 : List Ent} {I0 : List Imm}
theorem EqB_ok {p q : Option Addr} {a b : List Bool} {c c' : Nat} (hn : (a.length : Int) ≤ 9223372036854775807) (ha : slI p (recs eB a) ∈ I0) (hb : slI q (recs eB b) ∈ I0) :
    CD Try.prog 20 [.slice p a.length c, .slice q b.length c'] X w0 M0 I0 (fun v M I => M0 = M ∧ I0 = I ∧ v = .bool (B (a = b))) := by
  refine enterD2 Try.func20 rfl Try.ntmps20 rfl ?_
  by_cases hl : a.length = b.length
  rotate_left
  · repeat (refine wXh ?_)
    refine ND_ret1 (by first | exact .inl rfl | exact .inr rfl) rfl rfl _ _ subF incF (⟨rfl, rfl, congrArg Value.bool (B_false (fun h => by subst h; omega)).symm⟩)
  repeat (refine wXh ?_)
  refine TD_loop [0, 1, 12] rfl (fun k G M I => ∃ i : Nat, i ≤ a.length ∧ k = a.length - i ∧ (∀ j : Nat, j < i → gt a j = gt b j) ∧ G = [(13, .int .i64 i)] ∧ M0 = M ∧ I0 = I) (a.length) _ _ _ subG subF incF (⟨0, by omega, rfl, fun j hj => by omega, rfl, rfl, rfl⟩) ?_
  rintro k G M I ⟨i, hi, rfl, hs, rfl, rfl, rfl⟩
  by_cases hin : i < a.length
  · by_cases he : gt a i = gt b i
    · have hb : (!(gt a (i : Int) == gt b (i : Int))) = false := by simp [he]
      repeat (refine wXh ?_)
      (repeat refine TD_seq ?_); refine TD_drawnJ 0 [0, 1, 2, 3, 4, 5, 6, 7, 8] [0, 0, 0, 0, 0, 0, 0, 0, 0] mixed (by kernel_rfl) ?_
      repeat (refine wXh ?_)
      rw [hb]
      repeat (refine wXh ?_)
      refine ND_again (a.length - (i + 1)) _ _ _ (by first | omega | (simp only [List.length_append, List.length_cons, List.length_nil]; omega)) subG subF incF (⟨i + 1, by omega, rfl, fun j hj => ?_, rfl, rfl, rfl⟩)
      by_cases e : j = i
      · subst e; exact he
      · exact hs j (by omega)
    · have hb : (!(gt a (i : Int) == gt b (i : Int))) = true := by simpa using he
      repeat (refine wXh ?_)
      (repeat refine TD_seq ?_); refine TD_drawnJ 0 [0, 1, 2, 3, 4, 5, 6, 7, 8] [0, 0, 0, 0, 0, 0, 0, 0, 0] mixed (by kernel_rfl) ?_
      repeat (refine wXh ?_)
      rw [hb]
      repeat (refine wXh ?_)
      refine ND_ret1 (by first | exact .inl rfl | exact .inr rfl) rfl rfl _ _ subF incF (⟨rfl, rfl, congrArg Value.bool (B_false (fun h => he (by rw [h]))).symm⟩)
  · repeat (refine wXh ?_)
    refine ND_ret1 (by first | exact .inl rfl | exact .inr rfl) rfl rfl _ _ subF incF (⟨rfl, rfl, congrArg Value.bool (B_true (list_eq_of_gt (by omega) (fun j hj => hs j (by omega)))).symm⟩)
theorem Shortest_bad {p : Option Addr} {N : Int} {ms : List LK} {m c : Nat} {s : Int} (hm : ms.length = m) (hm2 : (m : Int) ≤ 9223372036854775807) (hc : gcode N ms ≠ 0) (hp : slI p (recs eK ms) ∈ I0) :
    CD Try.prog 18 [gv N p m c, .int .i64 s] X w0 M0 I0 (fun v M I => M0 = M ∧ I0 = I ∧ v = .tuple #[.slice none 0 0, .slice none 0 0, .int .i64 (gcode N ms)]) := by
  have hC := fun M0 I0 h => gCheck_ok (X := X) (w0 := w0) (M0 := M0) (I0 := I0) (p := p) (N := N) (ms := ms) (c := c) hm hm2 h
  generalize gcode N ms = e at *
  refine enterD2 Try.func18 rfl Try.ntmps18 rfl ?_
  refine TD_seq ?_
  refine TD_region ?_
  (refine RD_boxA rfl rfl rfl ?_; intro b2; refine ⟨okF, ?_⟩)
  refine RD_freezeB .here ?_
  repeat (refine wXh ?_)
  (refine RD_callS rfl (hC _ _ memF) rfl rfl ?_; rintro _ _ _ ⟨rfl, rfl, rfl⟩; refine ⟨okF, ?_⟩)
  repeat (refine wXh ?_)
  refine ND_rets [4, 5, 6] (by first | exact .inl rfl | exact .inr rfl) rfl rfl rfl _ _ subF incF (⟨rfl, rfl, rfl⟩)
theorem Shortest_out {p : Option Addr} {N : Int} {ms : List LK} {m c : Nat} {s : Int} (hm : ms.length = m) (hm2 : (m : Int) ≤ 9223372036854775807) (hc : gcode N ms = 0) (hs : ¬ (0 ≤ s ∧ s < N)) (hp : slI p (recs eK ms) ∈ I0) :
    CD Try.prog 18 [gv N p m c, .int .i64 s] X w0 M0 I0 (fun v M I => M0 = M ∧ I0 = I ∧ v = .tuple #[.slice none 0 0, .slice none 0 0, .int .i64 2]) := by
  have hC := fun M0 I0 h => gCheck_ok (X := X) (w0 := w0) (M0 := M0) (I0 := I0) (p := p) (N := N) (ms := ms) (c := c) hm hm2 h
  rw [hc] at hC
  refine enterD2 Try.func18 rfl Try.ntmps18 rfl ?_
  refine TD_seq ?_
  refine TD_region ?_
  (refine RD_boxA rfl rfl rfl ?_; intro b2; refine ⟨okF, ?_⟩)
  refine RD_freezeB .here ?_
  repeat (refine wXh ?_)
  (refine RD_callS rfl (hC _ _ memF) rfl rfl ?_; rintro _ _ _ ⟨rfl, rfl, rfl⟩; refine ⟨okF, ?_⟩)
  by_cases h0 : s < 0
  · repeat (refine wXh ?_)
    refine ND_rets [4, 5, 6] (by first | exact .inl rfl | exact .inr rfl) rfl rfl rfl _ _ subF incF (⟨rfl, rfl, rfl⟩)
  · have h1 : N ≤ s := by omega
    repeat (refine wXh ?_)
    refine ND_rets [4, 5, 6] (by first | exact .inl rfl | exact .inr rfl) rfl rfl rfl _ _ subF incF (⟨rfl, rfl, rfl⟩)
theorem rShortest_ok {p : Option Addr} {n : Nat} {ms : List LK} {m c : Nat} {s : Int} {d : List Int} {kn : List Bool} (hn : n ≤ 256) (hm : ms.length = m) (hm2 : m ≤ 1024) (hg : Gd ms n) (hs : 0 ≤ s ∧ s < n) (hF : Fix ms (fun v => v = s) (OD d kn)) (ld : d.length = n) (lk : kn.length = n) (hz : ∀ v : Int, 0 ≤ v → v < n → gt kn v = false → gt d v = 0) (hp : slI p (recs eK ms) ∈ I0) :
    CD Try.prog 19 [gv n p m c, .int .i64 s] X w0 M0 I0 (fun v M I => M0 = M ∧ ∃ (q1 q2 : Option Addr) (c1 c2 : Nat), v = .tuple #[.slice q1 n c1, .slice q2 n c2, .int .i64 0] ∧ I = slI q1 (recs (eI .i64) d) :: slI q2 (recs eB kn) :: I0) := by
  obtain ⟨_, hsnd, hsrc⟩ := Jo.init (d := (List.replicate n 0, st (List.replicate n false) s true)) (Ro.one (ms := ms) hs)
  obtain ⟨T, hT⟩ : ∃ T : Nat, T = n + 1 := ⟨_, rfl⟩
  refine enterD2 Try.func19 rfl Try.ntmps19 rfl ?_
  refine TD_seq ?_
  refine TD_region ?_
  (refine RD_boxA rfl rfl rfl ?_; intro b2; refine ⟨okF, ?_⟩)
  refine RD_freezeB .here ?_
  repeat (refine wXh ?_)
  (refine RD_callS rfl (Reached_ok hn hm hm2 (by omega) hg hs memF) rfl rfl ?_; rintro _ _ _ ⟨rfl, ⟨d1, k1⟩, q1, q2, c1, c2, rfl, hj1, rfl⟩; refine ⟨okF, ?_⟩)
  repeat (refine wXh ?_)
  rw [show (n : Int) + 1 = (T : Int) by omega]
  (refine RD_callS rfl (Reached_ok hn hm hm2 (by omega) hg hs memF) rfl rfl ?_; rintro _ _ _ ⟨rfl, ⟨d2, k2⟩, q3, q4, c3, c4, rfl, hj2, rfl⟩; refine ⟨okF, ?_⟩)
  subst hT
  obtain ⟨e1, e2⟩ := OD_lists (d' := (d, kn)) hj1.ld hj1.lk ld lk hj1.zero hz (fun v h0 hv => hj1.fix hg hF hsnd hsrc v h0 hv)
  have he := (hj1.same hg (fun v hv => by subst hv; exact hs) hsnd hsrc hj2).2 ⟨_, hF⟩
  dsimp only at e1 e2 he
  subst e1
  subst e2
  subst he
  have hS := fun M0 I0 h1 h2 => rsame_ok (X := X) (w0 := w0) (M0 := M0) (I0 := I0) (p := q1) (q := q3) (a := d1) (b := d1) (n := n) (c := c1) (c' := c3) ld ld (by omega) h1 h2
  rw [B_true rfl] at hS
  repeat (refine wXh ?_)
  (refine RD_callS rfl (hS _ _ memF memF) rfl rfl ?_; rintro _ _ _ ⟨rfl, rfl, rfl⟩; refine ⟨okF, ?_⟩)
  repeat (refine wXh ?_)
  refine ND_rets [4, 5, 6] (by first | exact .inl rfl | exact .inr rfl) rfl rfl rfl _ _ subF incF (⟨rfl, q1, q2, c1, c2, rfl, rfl⟩)
theorem rShortest_no {p : Option Addr} {n : Nat} {ms : List LK} {m c : Nat} {s : Int} (hn : n ≤ 256) (hm : ms.length = m) (hm2 : m ≤ 1024) (hg : Gd ms n) (hs : 0 ≤ s ∧ s < n) (hF : ¬ hasFix ms (fun v => v = s)) (hp : slI p (recs eK ms) ∈ I0) :
    CD Try.prog 19 [gv n p m c, .int .i64 s] X w0 M0 I0 (fun v M I => M0 = M ∧ I0 = I ∧ v = .tuple #[.slice none 0 0, .slice none 0 0, .int .i64 11]) := by
  obtain ⟨_, hsnd, hsrc⟩ := Jo.init (d := (List.replicate n 0, st (List.replicate n false) s true)) (Ro.one (ms := ms) hs)
  obtain ⟨T, hT⟩ : ∃ T : Nat, T = n + 1 := ⟨_, rfl⟩
  refine enterD2 Try.func19 rfl Try.ntmps19 rfl ?_
  refine TD_seq ?_
  refine TD_region ?_
  (refine RD_boxA rfl rfl rfl ?_; intro b2; refine ⟨okF, ?_⟩)
  refine RD_freezeB .here ?_
  repeat (refine wXh ?_)
  (refine RD_callS rfl (Reached_ok hn hm hm2 (by omega) hg hs memF) rfl rfl ?_; rintro _ _ _ ⟨rfl, ⟨d1, k1⟩, q1, q2, c1, c2, rfl, hj1, rfl⟩; refine ⟨okF, ?_⟩)
  repeat (refine wXh ?_)
  rw [show (n : Int) + 1 = (T : Int) by omega]
  (refine RD_callS rfl (Reached_ok hn hm hm2 (by omega) hg hs memF) rfl rfl ?_; rintro _ _ _ ⟨rfl, ⟨d2, k2⟩, q3, q4, c3, c4, rfl, hj2, rfl⟩; refine ⟨okF, ?_⟩)
  subst hT
  have he := mt (hj1.same hg (fun v hv => by subst hv; exact hs) hsnd hsrc hj2).1 hF
  have l1 := hj1.ld
  have l2 := hj2.ld
  dsimp only at he l1 l2
  have hS := fun M0 I0 h1 h2 => rsame_ok (X := X) (w0 := w0) (M0 := M0) (I0 := I0) (p := q1) (q := q3) (a := d1) (b := d2) (n := n) (c := c1) (c' := c3) l1 l2 (by omega) h1 h2
  rw [B_false he] at hS
  repeat (refine wXh ?_)
  (refine RD_callS rfl (hS _ _ memF memF) rfl rfl ?_; rintro _ _ _ ⟨rfl, rfl, rfl⟩; refine ⟨okF, ?_⟩)
  repeat (refine wXh ?_)
  refine ND_rets [4, 5, 6] (by first | exact .inl rfl | exact .inr rfl) rfl rfl rfl _ _ subF incF (⟨rfl, rfl, rfl⟩)
end
end Go.Proofs.Ytkhgglkkdnemlaa
namespace Go.Proofs.Ytkhgglkkdnemlaa
open Go Go.Fx
theorem Wk.mul {a b : Nat} (h : a ≤ b) : a * 1073741824 ≤ b * 1073741824 := Nat.mul_le_mul_right _ h
theorem OD_le {d : List Int} {k : List Bool} {v y : Int} (h : ∃ z, OD d k v = some z ∧ z ≤ y) : gt k v = true ∧ gt d v ≤ y := by
  obtain ⟨z, h1, h2⟩ := h
  obtain ⟨h3, h4⟩ := OD_some.1 h1
  exact ⟨h3.2, by omega⟩
section
variable {X : List Nat} {w0 : World} {M0 : List Ent} {I0 : List Imm}
set_option maxRecDepth 100000 in
set_option maxHeartbeats 4000000 in
theorem LShortest_ok {p q1 : Option Addr} {N s : Int} {ms : List LK} {l1 : List Int} {c c1 : Nat} (hm2 : (ms.length : Int) ≤ 9223372036854775807) (hl1 : (l1.length : Int) ≤ 9223372036854775807) (hp : slI p (recs eK ms) ∈ I0) (hq1 : slI q1 (recs (eI .i64) l1) ∈ I0) :
    CD Try.prog 4 [gv N p ms.length c, .int .i64 s, .slice q1 l1.length c1] X w0 M0 I0 (fun v _ _ => v = .bool true) := by
  have hR := fun M0 I0 h => rgCheck_ok (X := X) (w0 := w0) (M0 := M0) (I0 := I0) (p := p) (N := N) (ms := ms) (c := c) rfl hm2 h
  obtain ⟨m, hm⟩ : ∃ m, ms.length = m := ⟨_, rfl⟩
  obtain ⟨t1, ht1⟩ : ∃ t, l1.length = t := ⟨_, rfl⟩
  rw [hm] at hR hm2
  rw [ht1] at hl1
  rw [hm, ht1]
  refine enterD3 Try.func4 rfl Try.ntmps4 rfl ?_
  refine TD_seq ?_
  refine TD_region ?_
  (refine RD_boxA rfl rfl rfl ?_; intro b3; refine ⟨okF, ?_⟩)
  refine RD_freezeB .here ?_
  repeat (refine wXh ?_)
  (refine RD_callS rfl (known11_ok) rfl rfl ?_; rintro _ _ _ ⟨rfl, rfl, rfl⟩; refine ⟨okF, ?_⟩)
  repeat (refine wXh ?_)
  (refine RD_callS rfl (few_ok) rfl rfl ?_; rintro _ _ _ ⟨rfl, rfl, rfl⟩; refine ⟨okF, ?_⟩)
  by_cases hf : N ≤ 10 ∧ m ≤ 24
  rotate_left
  · rw [B_false hf]
    repeat (refine wXh ?_)
    refine ND_ret1 (by first | exact .inl rfl | exact .inr rfl) rfl rfl _ _ subF incF (rfl)
  rw [B_true hf]
  by_cases h40 : t1 ≤ 40
  rotate_left
  · repeat (refine wXh ?_)
    refine ND_ret1 (by first | exact .inl rfl | exact .inr rfl) rfl rfl _ _ subF incF (rfl)
  by_cases hc : gcode N ms = 0
  rotate_left
  · have hB := fun M0 I0 h => Shortest_bad (X := X) (w0 := w0) (M0 := M0) (I0 := I0) (p := p) (N := N) (s := s) (ms := ms) (c := c) hm hm2 hc h
    generalize gcode N ms = e at *
    repeat (refine wXh ?_)
    (refine RD_callS rfl (hB _ _ memF) rfl rfl ?_; rintro _ _ _ ⟨rfl, rfl, rfl⟩; refine ⟨okF, ?_⟩)
    repeat (refine wXh ?_)
    (refine RD_callS rfl (hR _ _ memF) rfl rfl ?_; rintro _ _ _ ⟨rfl, rfl, rfl⟩; refine ⟨okF, ?_⟩)
    repeat (refine wXh ?_)
    refine ND_ret1 (by first | exact .inl rfl | exact .inr rfl) rfl rfl _ _ subF incF (congrArg Value.bool (B_true rfl))
  by_cases hs : 0 ≤ s ∧ s < N
  rotate_left
  · rw [hc] at hR
    by_cases h0 : s < 0
    · repeat (refine wXh ?_)
      (refine RD_callS rfl (Shortest_out hm hm2 hc hs memF) rfl rfl ?_; rintro _ _ _ ⟨rfl, rfl, rfl⟩; refine ⟨okF, ?_⟩)
      repeat (refine wXh ?_)
      (refine RD_callS rfl (hR _ _ memF) rfl rfl ?_; rintro _ _ _ ⟨rfl, rfl, rfl⟩; refine ⟨okF, ?_⟩)
      repeat (refine wXh ?_)
      refine ND_ret1 (by first | exact .inl rfl | exact .inr rfl) rfl rfl _ _ subF incF (congrArg Value.bool (B_true rfl))
    · have h1 : N ≤ s := by omega
      repeat (refine wXh ?_)
      (refine RD_callS rfl (Shortest_out hm hm2 hc hs memF) rfl rfl ?_; rintro _ _ _ ⟨rfl, rfl, rfl⟩; refine ⟨okF, ?_⟩)
      repeat (refine wXh ?_)
      (refine RD_callS rfl (hR _ _ memF) rfl rfl ?_; rintro _ _ _ ⟨rfl, rfl, rfl⟩; refine ⟨okF, ?_⟩)
      repeat (refine wXh ?_)
      refine ND_ret1 (by first | exact .inl rfl | exact .inr rfl) rfl rfl _ _ subF incF (congrArg Value.bool (B_true rfl))
  obtain ⟨n, rfl, hn, hl, hg⟩ := gd_gcode hc
  rw [hm] at hl
  rw [hc] at hR
  by_cases hx : hasFix ms (fun v => v = s)
  rotate_left
  · refine RD_m (fun _ hw => hw.nilS none) ?_
    have hE := fun M0 I0 h1 h2 => EqI_ok (X := X) (w0 := w0) (M0 := M0) (I0 := I0) (p := none) (q := none) (a := []) (b := []) (c := 0) (c' := 0) (by decide) h1 h2
    have hE2 := fun M0 I0 h1 h2 => EqB_ok (X := X) (w0 := w0) (M0 := M0) (I0 := I0) (p := none) (q := none) (a := []) (b := []) (c := 0) (c' := 0) (by decide) h1 h2
    rw [B_true rfl] at hE hE2
    repeat (refine wXh ?_)
    (refine RD_callS rfl (Shortest_no (by omega) hm (by omega) hg hs hx memF) rfl rfl ?_; rintro _ _ _ ⟨rfl, rfl, rfl⟩; refine ⟨okF, ?_⟩)
    repeat (refine wXh ?_)
    (refine RD_callS rfl (hR _ _ memF) rfl rfl ?_; rintro _ _ _ ⟨rfl, rfl, rfl⟩; refine ⟨okF, ?_⟩)
    repeat (refine wXh ?_)
    (refine RD_callS rfl (rShortest_no (by omega) hm (by omega) hg hs hx memF) rfl rfl ?_; rintro _ _ _ ⟨rfl, rfl, rfl⟩; refine ⟨okF, ?_⟩)
    repeat (refine wXh ?_)
    (refine RD_callS rfl (hE _ _ memF memF) rfl rfl ?_; rintro _ _ _ ⟨rfl, rfl, rfl⟩; refine ⟨okF, ?_⟩)
    repeat (refine wXh ?_)
    (refine RD_callS rfl (hE2 _ _ memF memF) rfl rfl ?_; rintro _ _ _ ⟨rfl, rfl, rfl⟩; refine ⟨okF, ?_⟩)
    repeat (refine wXh ?_)
    refine ND_ret1 (by first | exact .inl rfl | exact .inr rfl) rfl rfl _ _ subF incF (rfl)
  repeat (refine wXh ?_)
  (refine RD_callS rfl (Shortest_ok (by omega) hm (by omega) hg hs hx memF) rfl rfl ?_; rintro _ _ _ ⟨rfl, d, kn, q2, q3, c2, c3, rfl, hF, ld, lk, hz, rfl⟩; refine ⟨okF, ?_⟩)
  repeat (refine wXh ?_)
  (refine RD_callS rfl (hR _ _ memF) rfl rfl ?_; rintro _ _ _ ⟨rfl, rfl, rfl⟩; refine ⟨okF, ?_⟩)
  repeat (refine wXh ?_)
  (refine RD_callS rfl (rShortest_ok (by omega) hm (by omega) hg hs hF ld lk hz memF) rfl rfl ?_; rintro _ _ _ ⟨rfl, q4, q5, c4, c5, rfl, rfl⟩; refine ⟨okF, ?_⟩)
  repeat (refine wXh ?_)
  have hE := fun M0 I0 h1 h2 => EqI_ok (X := X) (w0 := w0) (M0 := M0) (I0 := I0) (p := q2) (q := q4) (a := d) (b := d) (c := c2) (c' := c4) (by omega) h1 h2
  have hE2 := fun M0 I0 h1 h2 => EqB_ok (X := X) (w0 := w0) (M0 := M0) (I0 := I0) (p := q3) (q := q5) (a := kn) (b := kn) (c := c3) (c' := c5) (by omega) h1 h2
  rw [B_true rfl] at hE hE2
  rw [ld] at hE
  rw [lk] at hE2
  (refine RD_callS rfl (hE _ _ memF memF) rfl rfl ?_; rintro _ _ _ ⟨rfl, rfl, rfl⟩; refine ⟨okF, ?_⟩)
  repeat (refine wXh ?_)
  (refine RD_callS rfl (hE2 _ _ memF memF) rfl rfl ?_; rintro _ _ _ ⟨rfl, rfl, rfl⟩; refine ⟨okF, ?_⟩)
  repeat (refine wXh ?_)
  refine TD_loop [3, 7, 8, 88, 89] rfl (fun k G M I => ∃ (i : Nat) (v x : Int), i ≤ t1 ∧ k = t1 - i ∧ Wk ms (fun v => v = s) i v x ∧ 0 ≤ v ∧ v < n ∧ x.natAbs ≤ i * 1073741824 ∧ G = [(13, .int .i64 v), (14, .int .i64 x), (90, .int .i64 i)] ∧ M0 = M ∧ I = slI q4 (recs (eI .i64) d) :: slI q5 (recs eB kn) :: slI q2 (recs (eI .i64) d) :: slI q3 (recs eB kn) :: slI (some ⟨b3, 0, none⟩) [.int .i64 n, .slice p m c] :: I0) (t1) _ _ _ subG subF incF (⟨0, s, 0, by omega, rfl, Wk.src rfl, hs.1, hs.2, by decide, rfl, rfl, rfl⟩) ?_
  rintro kk G M I ⟨i, v, x, hi, rfl, hw, hv0, hvn, hxb, rfl, rfl, rfl⟩
  have hb2 := Wk.mul (a := i) (b := 40) (by omega)
  by_cases hin : i < t1
  · obtain ⟨z, hz2⟩ : ∃ z, gt l1 (i : Int) = z := ⟨_, rfl⟩
    by_cases hz0 : z < 0
    · repeat (refine wXh ?_)
      rw [hz2]
      repeat (refine wXh ?_)
      refine ND_ret1 (by first | exact .inl rfl | exact .inr rfl) rfl rfl _ _ subF incF (rfl)
    by_cases hzm : (m : Int) ≤ z
    · repeat (refine wXh ?_)
      rw [hz2]
      repeat (refine wXh ?_)
      refine ND_ret1 (by first | exact .inl rfl | exact .inr rfl) rfl rfl _ _ subF incF (rfl)
    have hB := hg.b z (by omega) (by omega)
    have hW := hg.w z (by omega) (by omega)
    by_cases ha : (gt ms z).a = v
    rotate_left
    · repeat (refine wXh ?_)
      rw [hz2]
      repeat (refine wXh ?_)
      refine ND_ret1 (by first | exact .inl rfl | exact .inr rfl) rfl rfl _ _ subF incF (rfl)
    have hst := hw.step (i := z) (by omega) (by omega) ha
    have hb3 := Wk.mul (a := i + 1) (b := 40) (by omega)
    unfold wt at hW hst
    repeat (refine wXh ?_)
    rw [hz2]
    repeat (refine wXh ?_)
    refine ND_again (t1 - (i + 1)) _ _ _ (by first | omega | (simp only [List.length_append, List.length_cons, List.length_nil]; omega)) subG subF incF (⟨i + 1, _, _, by omega, rfl, hst, hB.1, hB.2, by omega, rfl, rfl, rfl⟩)
  · have hle := OD_le (hF.le hw)
    repeat (refine wXh ?_)
    rw [hle.1]
    repeat (refine wXh ?_)
    refine ND_ret1 (by first | exact .inl rfl | exact .inr rfl) rfl rfl _ _ subF incF (congrArg Value.bool (B_true hle.2))
end
end Go.Proofs.Ytkhgglkkdnemlaa

/- Forest: the document's Reached, Shortest. Forest: the document's Shortest; faulty inputs of Shortest; equal lists of truth values. Forest: the law ForestShortest, walked. Forest: the document's Potentials, CheckPotentials. Forest: the law ForestPotentials, walked. Forest: CheckCycle, Closed, Proved, closures of ForestProofs. Forest: the law ForestProofs, walked (printed by tools/gen_hc.py). Forest: Reverse and Contains at ints. -/
import Derived.Test.YtkhgglkkdnemlaaZfao
import Derived.Test.YtkhgglkkdnemlaaZfaj
import Derived.Test.YtkhgglkkdnemlaaZfan
import Derived.Test.YtkhgglkkdnemlaaZfak
set_option linter.unusedSimpArgs false
set_option linter.unusedVariables false
namespace Go.Proofs.Ytkhgglkkdnemlaa
open Go Go.Fx
theorem TD_freezeB {P : Program} {n : Nat} {Q : Exit → Act → World → Prop} {G : Env} {X : List Nat} {w0 : World} {M M' : List Ent} {I : List Imm} {c : Code} {b : Nat} {cs : List Value} {e : TypeId} (hr : Rem (.blk b cs e) M M') (h : TD P n c Q G X w0 M' (slI (some ⟨b, 0, none⟩) cs :: I)) : TD P n c Q G X w0 M I := TD_m (fun _ hw => hw.freezeB hr) h
theorem TD_takeI {P : Program} {n : Nat} {Q : Exit → Act → World → Prop} {G : Env} {X : List Nat} {w0 : World} {M : List Ent} {I : List Imm} {c : Code} {a : Option Addr} {cs tl : List Value} (hm : slI a (cs ++ tl) ∈ I) (h : TD P n c Q G X w0 M (slI a cs :: I)) : TD P n c Q G X w0 M I := TD_m (fun _ hw => hw.takeI hm) h
theorem TD_w2 {P : Program} {n : Nat} {Q : Exit → Act → World → Prop} {G : Env} {X : List Nat} {w0 : World} {M M' : List Ent} {I I' : List Imm} {c : Code} (hM : SubP M M') (hI : Inc I I') (h : TD P n c Q G X w0 M' I') : TD P n c Q G X w0 M I := TD_m (fun _ hw => hw.weak hM hI) h
section
variable {X : List Nat} {w0 : World} {M0 : List Ent} {I0 : List Imm}
theorem rsame_ok {p q : Option Addr} {a b : List Int} {n c c' : Nat} (ha : a.length = n) (hb : b.length = n) (hn : n ≤ 100000) (h1 : slI p (recs (eI .i64) a) ∈ I0) (h2 : slI q (recs (eI .i64) b) ∈ I0) :
    CD Try.prog 54 [.slice p n c, .slice q n c'] X w0 M0 I0 (fun v M I => M0 = M ∧ I0 = I ∧ v = .bool (B (a = b))) := by
  refine enterD2 Try.func54 rfl Try.ntmps54 rfl ?_
  repeat (refine wXh ?_)
  refine TD_loop [0, 1, 12] rfl (fun k G M I => ∃ i : Nat, i ≤ n ∧ k = n - i ∧ (∀ j : Nat, j < i → gt a j = gt b j) ∧ G = [(13, .int .i64 i)] ∧ M0 = M ∧ I0 = I) (n) _ _ _ subG subF incF (⟨0, by omega, rfl, fun j hj => by omega, rfl, rfl, rfl⟩) ?_
  rintro kk G M I ⟨i, hi, rfl, hs, rfl, rfl, rfl⟩
  by_cases hin : i < n
  · by_cases he : gt a i = gt b i
    · repeat (refine wXh ?_)
      (repeat refine TD_seq ?_); refine TD_drawnJ 0 [0, 1, 2, 3, 4, 5, 6, 7, 8] [0, 0, 0, 0, 0, 0, 0, 0, 0] mixed (by kernel_rfl) ?_
      repeat (refine wXh ?_)
      refine ND_again (n - (i + 1)) _ _ _ (by first | omega | (simp only [List.length_append, List.length_cons, List.length_nil]; omega)) subG subF incF (⟨i + 1, by omega, rfl, fun j hj => ?_, rfl, rfl, rfl⟩)
      by_cases e : j = i
      · subst e; exact he
      · exact hs j (by omega)
    · repeat (refine wXh ?_)
      (repeat refine TD_seq ?_); refine TD_drawnJ 0 [0, 1, 2, 3, 4, 5, 6, 7, 8] [0, 0, 0, 0, 0, 0, 0, 0, 0] mixed (by kernel_rfl) ?_
      repeat (refine wXh ?_)
      refine ND_ret1 (by first | exact .inl rfl | exact .inr rfl) rfl rfl _ _ subF incF (⟨rfl, rfl, congrArg Value.bool (B_false (fun h => he (by rw [h]))).symm⟩)
  · repeat (refine wXh ?_)
    refine ND_ret1 (by first | exact .inl rfl | exact .inr rfl) rfl rfl _ _ subF incF (⟨rfl, rfl, congrArg Value.bool (B_true (list_eq_of_gt (by omega) (fun j hj => hs j (by omega)))).symm⟩)
end
end Go.Proofs.Ytkhgglkkdnemlaa
namespace Go.Proofs.Ytkhgglkkdnemlaa
open Go Go.Fx
section
variable {X : List Nat} {w0 : World} {M0 : List Ent} {I0 : List Imm}
end
end Go.Proofs.Ytkhgglkkdnemlaa
namespace Go.Proofs.Ytkhgglkkdnemlaa
open Go Go.Fx
section
variable {X : List Nat} {w0 : World} {M0 : List Ent} {I0 : List Imm}
end
end Go.Proofs.Ytkhgglkkdnemlaa
namespace Go.Proofs.Ytkhgglkkdnemlaa
open Go Go.Fx
theorem st_all {n : Nat} {v : Int} (hv : 0 ≤ v ∧ v < n) : st (List.replicate n true) v true = List.replicate n true :=
  list_eq_of_gt (by rw [st_len]) (fun j hj => by
    rw [st_len, List.length_replicate] at hj
    rw [gt_st _ (by rw [List.length_replicate]; exact hv) (by omega), gt_rep ⟨by omega, by omega⟩]
    split <;> rfl)
/-- what CheckPotentials looks at -/
def okP (n : Nat) (ms : List LK) (l : List Int) : Prop := l.length = n ∧ (∀ j : Nat, j < n → -274877906944 ≤ gt l j ∧ gt l j ≤ 274877906944) ∧ Pot ms (gt l)
theorem Mem.rowBlk0 {X : List Nat} {w0 w : World} {M : List Ent} {I : List Imm} {a : Option Addr} {mm c : Nat} {cs : List Value} {e : TypeId} {sz : Nat} (h : Mem X w0 (.row a mm c cs e sz :: M) I w) : (a = none ∧ mm = 0 ∧ c = 0 ∧ cs = []) ∨ ∃ b tl, a = some ⟨b, 0, none⟩ ∧ Mem X w0 (.blk b (cs ++ tl) e :: M) I w := by
  have ho : w.ownsRow 0 e sz (.slice a mm c) mm cs := h.ent _ List.mem_cons_self
  rcases h.rowBlk with ⟨e1, e2, e3⟩ | ⟨b, tl, e1, _, hm⟩
  · rcases ho.2 with ⟨h1, h2⟩ | ⟨g, cap, cur, hv, _⟩
    · injection h1 with e4 e5 e6
      exact .inl ⟨e1, e2, e6, e3⟩
    · injection hv with e4 e5 e6
      rw [e1] at e4; simp at e4
  · exact .inr ⟨b, tl, e1, hm⟩
theorem TD_rowBlk0 {P : Program} {n : Nat} {Q : Exit → Act → World → Prop} {G : Env} {X : List Nat} {w0 : World} {M : List Ent} {I : List Imm} {c' : Code} {a : Option Addr} {mm c : Nat} {cs : List Value} {e : TypeId} {sz : Nat} (h0 : a = none → mm = 0 → c = 0 → cs = [] → TD P n c' Q G X w0 (.row a mm c cs e sz :: M) I) (h1 : ∀ b tl, a = some ⟨b, 0, none⟩ → TD P n c' Q G X w0 (.blk b (cs ++ tl) e :: M) I) : TD P n c' Q G X w0 (.row a mm c cs e sz :: M) I :=
  ⟨fun w hw => by
    rcases Mem.rowBlk0 hw with ⟨e1, e2, e3, e4⟩ | ⟨b, tl, e1, hm⟩
    · exact (h0 e1 e2 e3 e4).go w hw
    · exact (h1 b tl e1).go w hm⟩
def bdP (n : Nat) (l : List Int) : Prop := ∀ j : Nat, j < n → -274877906944 ≤ gt l j ∧ gt l j ≤ 274877906944
def PC (n : Nat) (ms : List LK) (l : List Int) (e : Int) : Prop := (l.length ≠ n ∧ e = 4) ∨ (l.length = n ∧ ¬ bdP n l ∧ e = 2) ∨ (l.length = n ∧ bdP n l ∧ ¬ Pot ms (gt l) ∧ e = 12) ∨ (okP n ms l ∧ e = 0)
section
variable {X : List Nat} {w0 : World} {M0 : List Ent} {I0 : List Imm}
set_option maxRecDepth 100000 in
set_option maxHeartbeats 2000000 in
theorem lowered_ok {p q0 : Option Addr} {n m c c0 t : Nat} {ms : List LK} {D0 : Int → Option Int} {S : Int → Prop} {d : List Int} (hn : n ≤ 256) (hm : ms.length = m) (hm2 : m ≤ 1024) (ht : t ≤ 300) (hg : Gd ms n) (hsnd : Snd ms S 0 D0) (hj : Jo ms n D0 t (d, List.replicate n true)) (hp : slI p (recs eK ms) ∈ I0) (hq : slI q0 (recs (eI .i64) d) ∈ I0) (hok : Ok q0 ∨ (n = 0 ∧ c0 = 0)) :
    CD Try.prog 55 [gv n p m c, .slice q0 n c0] X w0 M0 I0 (fun v M I => M0 = M ∧ ∃ (e : List Int) (q : Option Addr) (c1 : Nat), v = .slice q n c1 ∧ (Ok q ∨ (n = 0 ∧ c1 = 0)) ∧ Jo ms n D0 (t + 1) (e, List.replicate n true) ∧ I = slI q (recs (eI .i64) e) :: I0) := by
  have hld := hj.ld
  have hst := hj.start
  dsimp only at hld
  refine enterD2 Try.func55 rfl Try.ntmps55 rfl ?_
  refine TD_seq ?_
  refine TD_region ?_
  (refine RD_boxA rfl rfl rfl ?_; intro b2; refine ⟨okF, ?_⟩)
  refine RD_freezeB .here ?_
  repeat (refine wXh ?_)
  (refine RD_vals (cs := recs (eI .i64) []) ([]) rfl rfl (by intro v hv; repeat (first | exact absurd hv (List.not_mem_nil) | (rcases List.mem_cons.1 hv with rfl | hv; · rfl))) (by omega) rfl rfl rfl ?_; intro b10; refine ⟨okF, ?_⟩; refine RD_toRow (mm := 0) 1 .here rfl (by omega) ?_)
  repeat (refine wXh ?_)
  (refine RD_appR (xs := []) (ys := d) 0 rfl rfl rfl (Src.imm memF hok) (by decide) hld (by simp; omega) (by simp; omega) rfl rfl ?_; intro a3 c3; refine ⟨okF, ?_⟩)
  rw [List.nil_append]
  repeat (refine wXh ?_)
  rw [hld]
  refine TD_rowBlk0 (fun e1 e2 e3 e4 => ?_) (fun bd td ed => ?_)
  · subst e1
    subst e2
    subst e3
    have hd : d = [] := List.eq_nil_of_length_eq_zero hld
    subst hd
    have hm0 : m = 0 := by
      refine Nat.eq_zero_of_not_pos (fun h => ?_)
      have := hg.a 0 (by omega) (by omega)
      omega
    subst hm0
    have hj2 := hj.next (k := ([], List.replicate 0 true)) (by rw [hm]; exact hst)
    refine TD_m (fun _ hw => hw.nilS none) ?_
    refine TD_w2 (M' := M0) (I' := slI none [] :: I0) subF incF ?_
    refine TD_loop [1, 5, 12, 13] rfl (fun k G M I => G = [(14, .int .i64 0)] ∧ M0 = M ∧ I = slI none [] :: I0) (0) _ _ _ subG subF incF (⟨rfl, rfl, rfl⟩) ?_
    rintro kk G M I ⟨rfl, rfl, rfl⟩
    repeat (refine wXh ?_)
    refine ND_ret1 (by first | exact .inl rfl | exact .inr rfl) rfl rfl _ _ subF incF (⟨rfl, [], none, 0, rfl, .inr ⟨rfl, rfl⟩, hj2, rfl⟩)
  subst ed
  refine TD_loop [1, 5, 12, 13] rfl (fun k G M I => ∃ (i : Nat) (e : List Int), i ≤ m ∧ k = m - i ∧ Jx ms n (d, List.replicate n true) (e, List.replicate n true) i ∧ G = [(14, .int .i64 i)] ∧ M = .blk bd (recs (eI .i64) e ++ td) 3 :: M0 ∧ I = slI (some ⟨b2, 0, none⟩) [.int .i64 n, .slice p m c] :: I0) (m) _ _ _ subG subF incF (⟨0, d, by omega, rfl, hst, rfl, rfl, rfl⟩) ?_
  rintro kk G M I ⟨i, e, hi, rfl, hx, rfl, rfl, rfl⟩
  have hl2 := hx.ld
  dsimp only at hl2
  by_cases him : i < m
  · have hA := hg.a (i : Int) (by omega) (by omega)
    have hB := hg.b (i : Int) (by omega) (by omega)
    have hW := hg.w (i : Int) (by omega) (by omega)
    have hbd := hj.bound hg hsnd hA.1 hA.2
    have hT2 : t * 1073741824 ≤ 300 * 1073741824 := Nat.mul_le_mul_right _ (by omega)
    have s2 := hx.skip2 hA.1 hB.1 (gt_rep hA) (gt_rep hB)
    have s3 := hx.put hA.1 hB (gt_rep hA)
    rw [st_all hB] at s3
    unfold wt at hW s2 s3
    dsimp only at hbd s2 s3
    by_cases hlt : gt d (gt ms (i : Int)).a + (gt ms (i : Int)).w < gt e (gt ms (i : Int)).b
    · have hx2 := s3 (fun _ => hlt)
      repeat (refine wXh ?_)
      (refine RD_alloc rfl rfl ?_; intro b13; refine ⟨okF, ?_⟩)
      repeat (refine wXh ?_)
      (repeat refine TD_seq ?_); refine TD_drawnJ 0 [0, 1, 2, 3, 4, 5, 6, 7, 8, 9, 10, 11, 12, 13] [0, 0, 0, 0, 0, 0, 0, 0, 0, 0, 0, 0, 0, 0] mixed (by kernel_rfl) ?_
      repeat (refine wXh ?_)
      (repeat refine TD_seq ?_); refine TD_drawnW (.blk b13 (eK (gt ms (i : Int))) 39 :: M0) (slI (some ⟨b2, 0, none⟩) [.int .i64 n, .slice p m c] :: I0) [0, 1, 2, 3, 4, 5, 6, 7, 8, 9, 10, 11, 12] [0, 0, 0, 0, 0, 0, 0, 0, 0, 0, 0, 0, 0] subF incF mixed (by kernel_rfl) ?_
      repeat (refine wXh ?_)
      refine ND_again (m - (i + 1)) _ _ _ (by first | omega | (simp only [List.length_append, List.length_cons, List.length_nil]; omega)) subG subF incF (⟨i + 1, _, by omega, rfl, hx2, rfl, rfl, rfl⟩)
    · have hx2 := s2 hlt
      repeat (refine wXh ?_)
      (refine RD_alloc rfl rfl ?_; intro b13; refine ⟨okF, ?_⟩)
      repeat (refine wXh ?_)
      (repeat refine TD_seq ?_); refine TD_drawnJ 0 [0, 1, 2, 3, 4, 5, 6, 7, 8, 9, 10, 11, 12, 13] [0, 0, 0, 0, 0, 0, 0, 0, 0, 0, 0, 0, 0, 0] mixed (by kernel_rfl) ?_
      repeat (refine wXh ?_)
      refine ND_again (m - (i + 1)) _ _ _ (by first | omega | (simp only [List.length_append, List.length_cons, List.length_nil]; omega)) subG subF incF (⟨i + 1, e, by omega, rfl, hx2, rfl, rfl, rfl⟩)
  · obtain rfl : i = m := by omega
    have hj2 := hj.next (k := (e, List.replicate n true)) (by rw [hm]; exact hx)
    refine TD_freezeB (b := bd) .here ?_
    refine TD_takeI (a := some ⟨bd, 0, none⟩) (cs := recs (eI .i64) e) (tl := td) memF ?_
    refine TD_w2 (M' := M0) (I' := slI (some ⟨bd, 0, none⟩) (recs (eI .i64) e) :: I0) subF incF ?_
    repeat (refine wXh ?_)
    refine ND_ret1 (by first | exact .inl rfl | exact .inr rfl) rfl rfl _ _ subF incF (⟨rfl, e, some ⟨bd, 0, none⟩, c3, rfl, .inl (Ok.mk _ _), hj2, rfl⟩)
set_option maxRecDepth 100000 in
set_option maxHeartbeats 2000000 in
theorem rPot_all {p : Option Addr} {n m c : Nat} {ms : List LK} {Q : Value → List Ent → List Imm → Prop} (hn : n ≤ 256) (hm : ms.length = m) (hm2 : m ≤ 1024) (hg : Gd ms n) (hp : slI p (recs eK ms) ∈ I0)
    (h1 : ∀ (q : Option Addr) (c1 : Nat) (d : List Int), hasFix ms (fun v => 0 ≤ v ∧ v < (n : Int)) → (∀ F, Fix ms (fun v => 0 ≤ v ∧ v < (n : Int)) F → ∀ v : Int, 0 ≤ v → v < n → OD d (List.replicate n true) v = F v) → d.length = n → (∀ v : Int, 0 ≤ v → v < n → (gt d v).natAbs ≤ n * 1073741824) → Q (.tuple #[.slice q n c1, .int .i64 0]) M0 (slI q (recs (eI .i64) d) :: I0))
    (h2 : ¬ hasFix ms (fun v => 0 ≤ v ∧ v < (n : Int)) → Q (.tuple #[.slice none 0 0, .int .i64 11]) M0 I0) :
    CD Try.prog 22 [gv n p m c] X w0 M0 I0 Q := by
  obtain ⟨hj0, hsnd, hsrc⟩ := Jo.init (d := (List.replicate n 0, List.replicate n true)) (Ro.all (ms := ms) List.length_replicate (fun j hj => gt_rep ⟨by omega, by omega⟩))
  dsimp only at hj0 hsnd hsrc
  generalize hD : OD (List.replicate n 0) (List.replicate n true) = D0 at hj0 hsnd hsrc
  refine enterD1 Try.func22 rfl Try.ntmps22 rfl ?_
  refine TD_seq ?_
  refine TD_region ?_
  (refine RD_boxA rfl rfl rfl ?_; intro b1; refine ⟨okF, ?_⟩)
  refine RD_freezeB .here ?_
  repeat (refine wXh ?_)
  (refine RD_makeX (n) rfl rfl (by omega) (by omega) (by omega) (by omega) (made_int _ _) rfl rfl ?_; intro b4; refine ⟨okF, ?_⟩)
  repeat (refine wXh ?_)
  refine TD_freezeB (b := b4) .here ?_
  refine TD_loop [1, 9] rfl (fun k G M I => ∃ (t : Nat) (d : List Int) (q : Option Addr) (c1 : Nat), t ≤ n ∧ k = n - t ∧ (Ok q ∨ (n = 0 ∧ c1 = 0)) ∧ Jo ms n D0 t (d, List.replicate n true) ∧ G = [(4, .slice q n c1), (10, .int .i64 t)] ∧ M0 = M ∧ I = slI q (recs (eI .i64) d) :: slI (some ⟨b1, 0, none⟩) [.int .i64 n, .slice p m c] :: I0) (n) _ _ _ subG subF incF (⟨0, List.replicate n 0, some ⟨b4, 0, none⟩, n, by omega, rfl, .inl (Ok.mk _ _), hj0, rfl, rfl, rfl⟩) ?_
  rintro kk G M I ⟨t, d, q, c1, ht, rfl, hok, hj, rfl, rfl, rfl⟩
  by_cases htn : t < n
  · repeat (refine wXh ?_)
    (refine RD_callS rfl (lowered_ok hn hm hm2 (by omega) hg hsnd hj memF memF hok) rfl rfl ?_; rintro _ _ _ ⟨rfl, e, q2, c2, rfl, hok2, hj2, rfl⟩; refine ⟨okF, ?_⟩)
    repeat (refine wXh ?_)
    refine ND_again (n - (t + 1)) _ _ _ (by first | omega | (simp only [List.length_append, List.length_cons, List.length_nil]; omega)) subG subF incF (⟨t + 1, e, q2, c2, by omega, rfl, hok2, hj2, rfl, rfl, rfl⟩)
  · obtain rfl : t = n := by omega
    have hld := hj.ld
    dsimp only at hld
    repeat (refine wXh ?_)
    (refine RD_callS rfl (lowered_ok hn hm hm2 (by omega) hg hsnd hj memF memF hok) rfl rfl ?_; rintro _ _ _ ⟨rfl, e, q2, c2, rfl, hok2, hj2, rfl⟩; refine ⟨okF, ?_⟩)
    have hle := hj2.ld
    dsimp only at hle
    have hsame := hj.same hg (fun v hv => hv) hsnd hsrc hj2
    dsimp only at hsame
    have hS := fun M0 I0 h1 h2 => rsame_ok (X := X) (w0 := w0) (M0 := M0) (I0 := I0) (p := q) (q := q2) (a := d) (b := e) (n := t) (c := c1) (c' := c2) hld hle (by omega) h1 h2
    by_cases hde : d = e
    · rw [B_true hde] at hS
      repeat (refine wXh ?_)
      (refine RD_callS rfl (hS _ _ memF memF) rfl rfl ?_; rintro _ _ _ ⟨rfl, rfl, rfl⟩; refine ⟨okF, ?_⟩)
      repeat (refine wXh ?_)
      refine ND_rets [2, 3] (by first | exact .inl rfl | exact .inr rfl) rfl rfl rfl _ _ subF incF (h1 q c1 d (hsame.1 hde) (fun F hF => hj.fix hg hF hsnd hsrc) hld (fun v h0 hv => hj.bound hg hsnd h0 hv))
    · rw [B_false hde] at hS
      repeat (refine wXh ?_)
      (refine RD_callS rfl (hS _ _ memF memF) rfl rfl ?_; rintro _ _ _ ⟨rfl, rfl, rfl⟩; refine ⟨okF, ?_⟩)
      repeat (refine wXh ?_)
      refine ND_rets [2, 3] (by first | exact .inl rfl | exact .inr rfl) rfl rfl rfl _ _ subF incF (h2 (fun h => hde (hsame.2 h)))
end
theorem OD_rep {d : List Int} {n : Nat} {v : Int} (hv : 0 ≤ v ∧ v < n) : OD d (List.replicate n true) v = some (gt d v) := OD_some.2 ⟨⟨hv.1, gt_rep hv⟩, rfl⟩
theorem pot_same {ms : List LK} {n : Nat} {S : Int → Prop} {d d' : List Int} {kn : List Bool} (h1 : Fix ms S (OD d kn)) (h2 : ∀ F, Fix ms S F → ∀ v : Int, 0 ≤ v → v < n → OD d' (List.replicate n true) v = F v) (ld : d.length = n) (ld' : d'.length = n) : d' = d :=
  list_eq_of_gt (by omega) (fun j hj => by
    have h3 := h2 _ h1 j (by omega) (by omega)
    rw [OD_rep ⟨by omega, by omega⟩] at h3
    exact (OD_some.1 h3.symm).2.symm)
section
variable {X : List Nat} {w0 : World} {M0 : List Ent} {I0 : List Imm}
theorem rPot_ok {p : Option Addr} {n m c : Nat} {ms : List LK} {d : List Int} {kn : List Bool} (hn : n ≤ 256) (hm : ms.length = m) (hm2 : m ≤ 1024) (hg : Gd ms n) (hF : Fix ms (fun v => 0 ≤ v ∧ v < (n : Int)) (OD d kn)) (ld : d.length = n) (hp : slI p (recs eK ms) ∈ I0) :
    CD Try.prog 22 [gv n p m c] X w0 M0 I0 (fun v M I => M0 = M ∧ ∃ (q : Option Addr) (c1 : Nat), v = .tuple #[.slice q n c1, .int .i64 0] ∧ okP n ms d ∧ (∀ v : Int, 0 ≤ v → v < n → OD d kn v = some (gt d v)) ∧ I = slI q (recs (eI .i64) d) :: I0) :=
  rPot_all hn hm hm2 hg hp (fun q c1 d' _ h2 hl hb => by
    obtain rfl := pot_same hF h2 ld hl
    have key : ∀ v : Int, 0 ≤ v → v < n → OD d' kn v = some (gt d' v) := fun v h0 hv => by rw [← h2 _ hF v h0 hv, OD_rep ⟨h0, hv⟩]
    refine ⟨rfl, q, c1, rfl, ⟨hl, fun j hj => ?_, fun i h0 hi => ?_⟩, key, rfl⟩
    · have := hb j (by omega) (by omega)
      have h5 : n * 1073741824 ≤ 256 * 1073741824 := Nat.mul_le_mul_right _ hn
      omega
    · have hA := hg.a i h0 hi
      have hB := hg.b i h0 hi
      obtain ⟨y, h3, h4⟩ := hF.closed i h0 hi _ (key _ hA.1 hA.2)
      rw [key _ hB.1 hB.2] at h3
      simp only [Option.some.injEq] at h3
      omega) (fun h => absurd ⟨_, hF⟩ h)
theorem rPot_no {p : Option Addr} {n m c : Nat} {ms : List LK} (hn : n ≤ 256) (hm : ms.length = m) (hm2 : m ≤ 1024) (hg : Gd ms n) (hF : ¬ hasFix ms (fun v => 0 ≤ v ∧ v < (n : Int))) (hp : slI p (recs eK ms) ∈ I0) :
    CD Try.prog 22 [gv n p m c] X w0 M0 I0 (fun v M I => M0 = M ∧ I0 = I ∧ v = .tuple #[.slice none 0 0, .int .i64 11]) :=
  rPot_all hn hm hm2 hg hp (fun q c1 d' h _ _ _ => absurd h hF) (fun _ => ⟨rfl, rfl, rfl⟩)
end
end Go.Proofs.Ytkhgglkkdnemlaa
namespace Go.Proofs.Ytkhgglkkdnemlaa
open Go Go.Fx
theorem B_get {p : Prop} [Decidable p] (h : B p = true) : p := by
  by_cases hp : p
  · exact hp
  · rw [B_false hp] at h; simp at h
section
variable {X : List Nat} {w0 : World} {M0 : List Ent} {I0 : List Imm}
end
end Go.Proofs.Ytkhgglkkdnemlaa
namespace Go.Proofs.Ytkhgglkkdnemlaa
open Go Go.Fx
/-- the walk is closed -/
def chn (ms : List LK) (l : List Int) : Prop := ∀ i : Nat, i < l.length → (gt ms (gt l i)).b = (gt ms (gt l (((i : Int) + 1).tmod l.length))).a
theorem tmod_next {i t : Nat} (h : i < t) : ((i : Int) + 1).tmod t = if i + 1 = t then 0 else (i : Int) + 1 := by
  split
  · rename_i e
    rw [show (i : Int) + 1 = (t : Int) by omega, Int.tmod_self]
  · exact Int.tmod_eq_of_lt (by omega) (by omega)
theorem tmod_in {i t : Nat} (h : i < t) : 0 ≤ ((i : Int) + 1).tmod t ∧ ((i : Int) + 1).tmod t < t := by
  rw [tmod_next h]; split <;> omega
theorem cyc_pos {ms : List LK} {l : List Int} {p : Int → Int} (hp : Pot ms p) (hr : inR ms.length l) (hc : chn ms l) : 0 ≤ wsum ms l := by
  have hin : ∀ k : Nat, k < l.length → 0 ≤ gt l k ∧ gt l k < ms.length := fun k hk => by rw [gt_get hk]; exact hr _ (List.getElem_mem hk)
  have key : ∀ k : Nat, k < l.length → p (gt ms (gt l k)).b - p (gt ms (gt l (0 : Nat))).a ≤ wsum ms (l.take (k + 1)) := fun k => by
    induction k with
    | zero => intro hk; have := hin 0 hk; have := hp _ this.1 this.2; rw [take_snoc hk, wsum_snoc, List.take_zero]; simp only [wsum, List.map_nil, sumI]; omega
    | succ k ih =>
      intro hk
      have h1 := ih (by omega)
      have h2 := hin (k + 1) hk
      have h3 := hp _ h2.1 h2.2
      have h4 := hc k (by omega)
      rw [tmod_next (by omega), if_neg (by omega)] at h4
      rw [h4] at h1
      rw [take_snoc hk, wsum_snoc]
      have e : ((k : Int) + 1) = ((k + 1 : Nat) : Int) := by omega
      rw [e] at h1
      omega
  rcases Nat.eq_zero_or_pos l.length with h0 | h0
  · rw [List.eq_nil_of_length_eq_zero h0]; simp [wsum, sumI]
  · have h1 := key (l.length - 1) (by omega)
    have h4 := hc (l.length - 1) (by omega)
    rw [tmod_next (by omega), if_pos (by omega)] at h4
    rw [show l.length - 1 + 1 = l.length by omega, List.take_length] at h1
    rw [h4] at h1
    have e : gt l ((0 : Nat) : Int) = gt l 0 := rfl
    rw [e] at h1
    omega
/-- CheckCycle's code -/
def CC (ms : List LK) (l : List Int) (e : Int) : Prop := (¬ inR ms.length l ∧ e = 2) ∨ (inR ms.length l ∧ ¬ chn ms l ∧ e = 12) ∨ (inR ms.length l ∧ chn ms l ∧ 0 ≤ wsum ms l ∧ e = 12) ∨ (inR ms.length l ∧ chn ms l ∧ wsum ms l < 0 ∧ e = 0)
theorem inR_gt {m : Nat} {l : List Int} (h : inR m l) {j : Nat} (hj : j < l.length) : 0 ≤ gt l j ∧ gt l j < m := by
  rw [gt_get hj]; exact h _ (List.getElem_mem hj)
section
variable {X : List Nat} {w0 : World} {M0 : List Ent} {I0 : List Imm}
set_option maxRecDepth 100000 in
set_option maxHeartbeats 2000000 in
theorem Closed_ok {p q : Option Addr} {n m c t ct : Nat} {ms : List LK} {l : List Int} (hm : ms.length = m) (hm2 : m ≤ 1024) (hl : l.length = t) (hl2 : t ≤ 100000) (hr : inR m l) (hp : slI p (recs eK ms) ∈ I0) (hq : slI q (recs (eI .i64) l) ∈ I0) :
    CD Try.prog 34 [gv n p m c, .slice q t ct] X w0 M0 I0 (fun v M I => M0 = M ∧ I0 = I ∧ ∃ f : Bool, v = .bool f ∧ (f = true ↔ chn ms l ∧ 0 < t)) := by
  refine enterD2 Try.func34 rfl Try.ntmps34 rfl ?_
  refine TD_seq ?_
  refine TD_region ?_
  (refine RD_boxA rfl rfl rfl ?_; intro b2; refine ⟨okF, ?_⟩)
  refine RD_freezeB .here ?_
  repeat (refine wXh ?_)
  refine TD_loop [1, 2, 7, 8] rfl (fun k G M I => ∃ i : Nat, i ≤ t ∧ k = t - i ∧ (∀ j : Nat, j < i → (gt ms (gt l j)).b = (gt ms (gt l (((j : Int) + 1).tmod t))).a) ∧ G = [(9, .int .i64 i)] ∧ M0 = M ∧ I = slI (some ⟨b2, 0, none⟩) [.int .i64 n, .slice p m c] :: I0) (t) _ _ _ subG subF incF (⟨0, by omega, rfl, fun j hj => by omega, rfl, rfl, rfl⟩) ?_
  rintro kk G M I ⟨i, hi, rfl, hs, rfl, rfl, rfl⟩
  by_cases hit : i < t
  · have h1 := inR_gt hr (j := i) (by omega)
    have h2 := tmod_in hit
    have h3 := inR_gt hr (j := (((i : Int) + 1).tmod t).toNat) (by omega)
    rw [Int.toNat_of_nonneg h2.1] at h3
    by_cases he : (gt ms (gt l (i : Int))).b = (gt ms (gt l (((i : Int) + 1).tmod t))).a
    · repeat (refine wXh ?_)
      (repeat refine TD_seq ?_); refine TD_drawnJ 0 [0, 1, 2, 3, 4, 5, 6, 7, 8, 9, 10, 11, 12, 13, 14, 15, 16, 17, 18, 19] [0, 0, 0, 0, 0, 0, 0, 0, 0, 0, 0, 0, 0, 0, 0, 0, 0, 0, 0, 0] mixed (by kernel_rfl) ?_
      repeat (refine wXh ?_)
      refine ND_again (t - (i + 1)) _ _ _ (by first | omega | (simp only [List.length_append, List.length_cons, List.length_nil]; omega)) subG subF incF (⟨i + 1, by omega, rfl, fun j hj => ?_, rfl, rfl, rfl⟩)
      by_cases e : j = i
      · subst e; exact he
      · exact hs j (by omega)
    · repeat (refine wXh ?_)
      (repeat refine TD_seq ?_); refine TD_drawnJ 0 [0, 1, 2, 3, 4, 5, 6, 7, 8, 9, 10, 11, 12, 13, 14, 15, 16, 17, 18, 19] [0, 0, 0, 0, 0, 0, 0, 0, 0, 0, 0, 0, 0, 0, 0, 0, 0, 0, 0, 0] mixed (by kernel_rfl) ?_
      repeat (refine wXh ?_)
      refine ND_ret1 (by first | exact .inl rfl | exact .inr rfl) rfl rfl _ _ subF incF (⟨rfl, rfl, false, rfl, ⟨fun h => absurd h (by decide), fun h => absurd (by have := h.1 i (by omega); rw [hl] at this; exact this) he⟩⟩)
  · have hch : chn ms l := fun j hj => by rw [hl]; exact hs j (by omega)
    repeat (refine wXh ?_)
    refine ND_ret1 (by first | exact .inl rfl | exact .inr rfl) rfl rfl _ _ subF incF (⟨rfl, rfl, _, rfl, ⟨fun h => ⟨hch, by have := B_get h; omega⟩, fun h => B_true (by have := h.2; omega)⟩⟩)
set_option maxRecDepth 100000 in
set_option maxHeartbeats 2000000 in
theorem CheckCycle_ok {p q : Option Addr} {n m c t ct : Nat} {ms : List LK} {l : List Int} {e : Int} (hn : n ≤ 256) (hm : ms.length = m) (hm2 : m ≤ 1024) (hg : Gd ms n) (hl : l.length = t) (hl2 : t ≤ 1024) (he : CC ms l e) (hp : slI p (recs eK ms) ∈ I0) (hq : slI q (recs (eI .i64) l) ∈ I0) :
    CD Try.prog 31 [gv n p m c, .slice q t ct] X w0 M0 I0 (fun v M I => M0 = M ∧ I0 = I ∧ v = .int .i64 e) := by
  have hC := fun M0 I0 h => gCheck_ok (X := X) (w0 := w0) (M0 := M0) (I0 := I0) (p := p) (N := n) (ms := ms) (c := c) hm (by omega) h
  rw [gcode_gd (by omega) (by omega) hg] at hC
  refine enterD2 Try.func31 rfl Try.ntmps31 rfl ?_
  refine TD_seq ?_
  refine TD_region ?_
  (refine RD_boxA rfl rfl rfl ?_; intro b2; refine ⟨okF, ?_⟩)
  refine RD_freezeB .here ?_
  repeat (refine wXh ?_)
  (refine RD_callS rfl (hC _ _ memF) rfl rfl ?_; rintro _ _ _ ⟨rfl, rfl, rfl⟩; refine ⟨okF, ?_⟩)
  repeat (refine wXh ?_)
  refine TD_loop [1, 2, 18, 19] rfl (fun k G M I => ∃ i : Nat, i ≤ t ∧ k = t - i ∧ (∀ j : Nat, j < i → 0 ≤ gt l j ∧ gt l j < m) ∧ G = [(20, .int .i64 i)] ∧ M0 = M ∧ I = slI (some ⟨b2, 0, none⟩) [.int .i64 n, .slice p m c] :: I0) (t) _ _ _ subG subF incF (⟨0, by omega, rfl, fun j hj => by omega, rfl, rfl, rfl⟩) ?_
  rintro kk G M I ⟨i, hi, rfl, hb, rfl, rfl, rfl⟩
  by_cases hit : i < t
  · have hout : ¬ (0 ≤ gt l (i : Int) ∧ gt l (i : Int) < m) → e = 2 := fun h => by
      have h5 : ¬ inR ms.length l := fun h2 => h (by have := inR_gt h2 (j := i) (by omega); rwa [hm] at this)
      rcases he with h1 | h1 | h1 | h1
      · exact h1.2
      · exact absurd h1.1 h5
      · exact absurd h1.1 h5
      · exact absurd h1.1 h5
    by_cases h1 : gt l (i : Int) < 0
    · obtain rfl := hout (fun h => by omega)
      repeat (refine wXh ?_)
      refine ND_ret1 (by first | exact .inl rfl | exact .inr rfl) rfl rfl _ _ subF incF (⟨rfl, rfl, rfl⟩)
    by_cases h2 : (m : Int) ≤ gt l (i : Int)
    · obtain rfl := hout (fun h => by omega)
      repeat (refine wXh ?_)
      refine ND_ret1 (by first | exact .inl rfl | exact .inr rfl) rfl rfl _ _ subF incF (⟨rfl, rfl, rfl⟩)
    repeat (refine wXh ?_)
    refine ND_again (t - (i + 1)) _ _ _ (by first | omega | (simp only [List.length_append, List.length_cons, List.length_nil]; omega)) subG subF incF (⟨i + 1, by omega, rfl, fun j hj => ?_, rfl, rfl, rfl⟩)
    by_cases e : j = i
    · subst e; omega
    · exact hb j (by omega)
  obtain rfl : i = t := by omega
  have hr : inR m l := inR_of (fun j hj => hb j (by omega))
  have hr2 := hr
  rw [← hm] at hr2
  have hW := fun M0 I0 h1 h2 => gweight_ok (X := X) (w0 := w0) (M0 := M0) (I0 := I0) (p := p) (q := q) (n := n) (c := c) (ct := ct) hm hm2 hg hl (by omega) hr h1 h2
  generalize hws : wsum ms l = ww at hW
  repeat (refine wXh ?_)
  refine TD_loop [1, 2, 34, 35] rfl (fun k G M I => ∃ k2 : Nat, k2 ≤ i ∧ k = i - k2 ∧ (∀ j : Nat, j < k2 → (gt ms (gt l j)).b = (gt ms (gt l (((j : Int) + 1).tmod i))).a) ∧ G = [(36, .int .i64 k2)] ∧ M0 = M ∧ I = slI (some ⟨b2, 0, none⟩) [.int .i64 n, .slice p m c] :: I0) (i) _ _ _ subG subF incF (⟨0, by omega, rfl, fun j hj => by omega, rfl, rfl, rfl⟩) ?_
  rintro kk G M I ⟨k2, hk, rfl, hs, rfl, rfl, rfl⟩
  by_cases hkm : k2 < i
  · have h1 := inR_gt hr (j := k2) (by omega)
    have h2 := tmod_in hkm
    have h3 := inR_gt hr (j := (((k2 : Int) + 1).tmod i).toNat) (by omega)
    rw [Int.toNat_of_nonneg h2.1] at h3
    by_cases hch : (gt ms (gt l (k2 : Int))).b = (gt ms (gt l (((k2 : Int) + 1).tmod i))).a
    · clear hW hws
      repeat (refine wXh ?_)
      (repeat refine TD_seq ?_); refine TD_drawnJ 0 [0, 1, 2, 3, 4, 5, 6, 7, 8, 9, 10, 11, 12, 13, 14, 15, 16, 17, 18, 19] [0, 0, 0, 0, 0, 0, 0, 0, 0, 0, 0, 0, 0, 0, 0, 0, 0, 0, 0, 0] mixed (by kernel_rfl) ?_
      repeat (refine wXh ?_)
      refine ND_again (i - (k2 + 1)) _ _ _ (by first | omega | (simp only [List.length_append, List.length_cons, List.length_nil]; omega)) subG subF incF (⟨k2 + 1, by omega, rfl, fun j hj => ?_, rfl, rfl, rfl⟩)
      by_cases e : j = k2
      · subst e; exact hch
      · exact hs j (by omega)
    · have hnc : ¬ chn ms l := fun h => hch (by have := h k2 (by omega); rw [hl] at this; exact this)
      have he2 : e = 12 := by
        rcases he with h1 | h1 | h1 | h1
        · exact absurd hr2 h1.1
        · exact h1.2.2
        · exact absurd h1.2.1 hnc
        · exact absurd h1.2.1 hnc
      subst he2
      clear hW hws
      repeat (refine wXh ?_)
      (repeat refine TD_seq ?_); refine TD_drawnJ 0 [0, 1, 2, 3, 4, 5, 6, 7, 8, 9, 10, 11, 12, 13, 14, 15, 16, 17, 18, 19] [0, 0, 0, 0, 0, 0, 0, 0, 0, 0, 0, 0, 0, 0, 0, 0, 0, 0, 0, 0] mixed (by kernel_rfl) ?_
      repeat (refine wXh ?_)
      refine ND_ret1 (by first | exact .inl rfl | exact .inr rfl) rfl rfl _ _ subF incF (⟨rfl, rfl, rfl⟩)
  · have hch : chn ms l := fun j hj => by rw [hl]; exact hs j (by omega)
    have he2 : (0 ≤ ww ∧ e = 12) ∨ (ww < 0 ∧ e = 0) := by
      rw [← hws]
      rcases he with h1 | h1 | h1 | h1
      · exact absurd hr2 h1.1
      · exact absurd hch h1.2.1
      · exact .inl h1.2.2
      · exact .inr h1.2.2
    clear hws
    rcases he2 with ⟨h1, rfl⟩ | ⟨h1, rfl⟩
    · repeat (refine wXh ?_)
      (refine RD_callS rfl (hW _ _ memF memF) rfl rfl ?_; rintro _ _ _ ⟨rfl, rfl, rfl⟩; refine ⟨okF, ?_⟩)
      repeat (refine wXh ?_)
      refine ND_ret1 (by first | exact .inl rfl | exact .inr rfl) rfl rfl _ _ subF incF (⟨rfl, rfl, rfl⟩)
    · repeat (refine wXh ?_)
      (refine RD_callS rfl (hW _ _ memF memF) rfl rfl ?_; rintro _ _ _ ⟨rfl, rfl, rfl⟩; refine ⟨okF, ?_⟩)
      repeat (refine wXh ?_)
      refine ND_ret1 (by first | exact .inl rfl | exact .inr rfl) rfl rfl _ _ subF incF (⟨rfl, rfl, rfl⟩)
end
end Go.Proofs.Ytkhgglkkdnemlaa
namespace Go.Proofs.Ytkhgglkkdnemlaa
open Go Go.Fx
section
variable {X : List Nat} {w0 : World} {M0 : List Ent} {I0 : List Imm}
end
end Go.Proofs.Ytkhgglkkdnemlaa
namespace Go.Proofs.Ytkhgglkkdnemlaa
open Go Go.Fx
theorem gt_rev (xs : List Int) (j : Int) (h : 0 ≤ j ∧ j < xs.length) : gt xs.reverse j = gt xs (xs.length - 1 - j) := by
  obtain ⟨k, rfl⟩ : ∃ k : Nat, j = k := ⟨j.toNat, by omega⟩
  rw [show ((xs.length : Int) - 1 - (k : Int)) = ((xs.length - 1 - k : Nat) : Int) by omega]
  rw [gt_get (by rw [List.length_reverse]; omega), gt_get (by omega), List.getElem_reverse]
theorem rev_of {xs ys : List Int} (hl : ys.length = xs.length) (h : ∀ j : Int, 0 ≤ j → j < xs.length → gt ys j = gt xs (xs.length - 1 - j)) : ys = xs.reverse := by
  refine list_eq_of_gt (by simpa using hl) (fun j hj => ?_)
  rw [h j (by omega) (by omega), gt_rev xs j (by omega)]

section
variable {X : List Nat} {w0 : World} {M0 : List Ent} {I0 : List Imm}
theorem Reverse_ok {b n c : Nat} {xs : List Int} {tl : List Value} (hn : n = xs.length) (hn2 : n ≤ 1000) :
    CD Try.prog 62 [.slice (some ⟨b, 0, none⟩) n c] X w0 (.blk b (recs (eI .i64) xs ++ tl) 3 :: M0) I0 (fun v M I => M = .blk b (recs (eI .i64) xs.reverse ++ tl) 3 :: M0 ∧ I0 = I ∧ v = .tuple #[]) := by
  subst hn
  refine enterD1 Try.func62 rfl Try.ntmps62 rfl ?_
  repeat (refine wXh ?_)
  refine TD_loop [0] rfl (fun k G M I => ∃ (i : Int) (j : Int) (ys : List Int), 0 ≤ i ∧ i + j = xs.length - 1 ∧ -1 ≤ j ∧ k = (j - i + 2).toNat ∧ ys.length = xs.length ∧ (∀ q : Int, 0 ≤ q → q < xs.length → gt ys q = if q < i ∨ j < q then gt xs (xs.length - 1 - q) else gt xs q) ∧ G = [(2, .int .i64 i), (3, .int .i64 j)] ∧ M = .blk b (recs (eI .i64) ys ++ tl) 3 :: M0 ∧ I = I0) (((xs.length : Int) + 1).toNat) _ _ _ subG subF incF (⟨0, xs.length - 1, xs, by omega, by omega, by omega, by omega, rfl, fun q h1 h2 => by rw [if_neg (by omega)], rfl, rfl, rfl⟩) ?_
  rintro k G M I ⟨i, j, ys, hi, hij, hj, rfl, hl, hy, rfl, rfl, rfl⟩
  by_cases hlt : i < j
  · repeat (refine wXh ?_)
    (repeat refine TD_seq ?_); refine TD_drawn1 [0, 1, 2, 3, 4, 5, 6, 7, 8, 9, 10, 11, 12, 13, 14, 15] [0, 0, 1, 1, 0, 0, 0, 0, 1, 1, 1, 0, 0, 0, 0, 0] mixed (by kernel_rfl) ?_
    repeat (refine wXh ?_)
    refine ND_again ((j - 1 - (i + 1) + 2).toNat) _ _ _ (by first | omega | (simp only [List.length_append, List.length_cons, List.length_nil]; omega)) subG subF incF (⟨i + 1, j - 1, _, by omega, by omega, by omega, rfl, by rw [st_len, st_len]; exact hl, ?_, rfl, rfl, rfl⟩)
    intro q h1 h2
    have vi : gt ys i = gt xs i := by rw [hy i (by omega) (by omega)]; exact if_neg (by omega)
    have vj : gt ys j = gt xs j := by rw [hy j (by omega) (by omega)]; exact if_neg (by omega)
    rw [gt_st _ (by rw [st_len]; omega) h1, gt_st _ (by omega) h1, vi, vj, hy q h1 h2]
    by_cases e1 : q = j
    · rw [if_pos e1, if_pos (show q < i + 1 ∨ j - 1 < q by omega)]
      congr 1; omega
    · rw [if_neg e1]
      by_cases e2 : q = i
      · rw [if_pos e2, if_pos (show q < i + 1 ∨ j - 1 < q by omega)]
        congr 1; omega
      · rw [if_neg e2]
        by_cases e3 : q < i ∨ j < q
        · rw [if_pos e3, if_pos (show q < i + 1 ∨ j - 1 < q by omega)]
        · rw [if_neg e3, if_neg (show ¬ (q < i + 1 ∨ j - 1 < q) by omega)]
  · repeat (refine wXh ?_)
    have : ys = xs.reverse := by
      refine rev_of hl (fun q h1 h2 => ?_)
      rw [hy q h1 h2]
      by_cases e3 : q < i ∨ j < q
      · rw [if_pos e3]
      · rw [if_neg e3]; congr 1; omega
    subst this
    refine ND_ret0 (by first | exact .inl rfl | exact .inr rfl) rfl _ _ subF incF (⟨rfl, rfl, rfl⟩)
theorem Reverse0_ok {c : Nat} : CD Try.prog 62 [.slice none 0 c] X w0 M0 I0 (fun v M I => M0 = M ∧ I0 = I ∧ v = .tuple #[]) := by
  refine enterD1 Try.func62 rfl Try.ntmps62 rfl ?_
  repeat (refine wXh ?_)
  refine TD_loop [0] rfl (fun k G M I => G = [(2, .int .i64 0), (3, .int .i64 (-1))] ∧ M = M0 ∧ I = I0) (0) _ _ _ subG subF incF (⟨rfl, rfl, rfl⟩) ?_
  rintro k G M I ⟨rfl, rfl, rfl⟩
  repeat (refine wXh ?_)
  refine ND_ret0 (by first | exact .inl rfl | exact .inr rfl) rfl _ _ subF incF (⟨rfl, rfl, rfl⟩)
theorem ReverseR_ok {q : Option Addr} {c : Nat} {xs : List Int} (hn : xs.length ≤ 1000) :
    CD Try.prog 62 [.slice q xs.length c] X w0 (.row q xs.length c (recs (eI .i64) xs) 3 1 :: M0) I0 (fun v M I => M0 = M ∧ I = slI q (recs (eI .i64) xs.reverse) :: I0 ∧ v = .tuple #[]) := by
  refine CD_rowBlk ?_ ?_
  · rintro rfl h0 _ rfl
    have hnil : xs = [] := List.eq_nil_of_length_eq_zero h0
    subst hnil
    exact (Reverse0_ok).post (fun v M1 I1 w h hw => ⟨M0, _, ⟨rfl, rfl, h.2.2⟩, by
      obtain ⟨rfl, rfl, _⟩ := h
      exact hw.nilS none⟩)
  · rintro b tl rfl hc
    exact (Reverse_ok rfl hn).post (fun v M1 I1 w h hw => ⟨M0, _, ⟨rfl, rfl, h.2.2⟩, by
      obtain ⟨rfl, rfl, _⟩ := h
      have h1 := hw.freezeB .here
      exact (h1.takeI (List.Mem.head _)).inc (.cons (List.Mem.head _) (.of (fun φ hφ => List.Mem.tail _ (List.Mem.tail _ hφ))))⟩)
end
end Go.Proofs.Ytkhgglkkdnemlaa

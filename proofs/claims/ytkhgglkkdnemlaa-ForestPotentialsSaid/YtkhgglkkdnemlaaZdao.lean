/- Forest: the document's Reached, Shortest. Forest: the document's Shortest; faulty inputs of Shortest; equal lists of truth values. Forest: the law ForestShortest, walked. Forest: the document's Potentials, CheckPotentials. -/
import Derived.Test.YtkhgglkkdnemlaaZdan
import Derived.Test.YtkhgglkkdnemlaaZdai
import Derived.Test.YtkhgglkkdnemlaaZdam
set_option linter.unusedSimpArgs false
set_option linter.unusedVariables false
namespace Go.Proofs.Ytkhgglkkdnemlaa
open Go Go.Fx
theorem TD_freezeB {P : Program} {n : Nat} {Q : Exit → Act → World → Prop} {G : Env} {X : List Nat} {w0 : World} {M M' : List Ent} {I : List Imm} {c : Code} {b : Nat} {cs : List Value} {e : TypeId} (hr : Rem (.blk b cs e) M M') (h : TD P n c Q G X w0 M' (slI (some ⟨b, 0, none⟩) cs :: I)) : TD P n c Q G X w0 M I := TD_m (fun _ hw => hw.freezeB hr) h
theorem TD_takeI {P : Program} {n : Nat} {Q : Exit → Act → World → Prop} {G : Env} {X : List Nat} {w0 : World} {M : List Ent} {I : List Imm} {c : Code} {a : Option Addr} {cs tl : List Value} (hm : slI a (cs ++ tl) ∈ I) (h : TD P n c Q G X w0 M (slI a cs :: I)) : TD P n c Q G X w0 M I := TD_m (fun _ hw => hw.takeI hm) h
theorem TD_w2 {P : Program} {n : Nat} {Q : Exit → Act → World → Prop} {G : Env} {X : List Nat} {w0 : World} {M M' : List Ent} {I I' : List Imm} {c : Code} (hM : SubP M M') (hI : Inc I I') (h : TD P n c Q G X w0 M' I') : TD P n c Q G X w0 M I := TD_m (fun _ hw => hw.weak hM hI) h
section
variable {X : List Nat} {w0 : World} {M0 : List Ent} {I0 : List Imm}
theorem rsame_ok {p q : Option Addr} {a b : List Int} {n c c' : Nat} (ha : a.length = n) (hb : b.length = n) (hn : n ≤ 100000) (h1 : slI p (recs (eI .i64) a) ∈ I0) (h2 : slI q (recs (eI .i64) b) ∈ I0) :
    CD Try.prog 54 [.slice p n c, .slice q n c'] X w0 M0 I0 (fun v M I => M0 = M ∧ I0 = I ∧ v = .bool (B (a = b))) := by
  refine enterD2 Try.func54 rfl Try.ntmps54 rfl ?_
  repeat (refine wXh ?_)
  refine TD_loop [0, 1, 12] rfl (fun k G M I => ∃ i : Nat, i ≤ n ∧ k = n - i ∧ (∀ j : Nat, j < i → gt a j = gt b j) ∧ G = [(13, .int .i64 i)] ∧ M0 = M ∧ I0 = I) (n) _ _ _ subG subF incF (⟨0, by omega, rfl, fun j hj => by omega, rfl, rfl, rfl⟩) ?_
  rintro kk G M I ⟨i, hi, rfl, hs, rfl, rfl, rfl⟩
  by_cases hin : i < n
  · by_cases he : gt a i = gt b i
    · repeat (refine wXh ?_)
      (repeat refine TD_seq ?_); refine TD_drawnJ 0 [0, 1, 2, 3, 4, 5, 6, 7, 8] [0, 0, 0, 0, 0, 0, 0, 0, 0] mixed (by kernel_rfl) ?_
      repeat (refine wXh ?_)
      refine ND_again (n - (i + 1)) _ _ _ (by first | omega | (simp only [List.length_append, List.length_cons, List.length_nil]; omega)) subG subF incF (⟨i + 1, by omega, rfl, fun j hj => ?_, rfl, rfl, rfl⟩)
      by_cases e : j = i
      · subst e; exact he
      · exact hs j (by omega)
    · repeat (refine wXh ?_)
      (repeat refine TD_seq ?_); refine TD_drawnJ 0 [0, 1, 2, 3, 4, 5, 6, 7, 8] [0, 0, 0, 0, 0, 0, 0, 0, 0] mixed (by kernel_rfl) ?_
      repeat (refine wXh ?_)
      refine ND_ret1 (by first | exact .inl rfl | exact .inr rfl) rfl rfl _ _ subF incF (⟨rfl, rfl, congrArg Value.bool (B_false (fun h => he (by rw [h]))).symm⟩)
  · repeat (refine wXh ?_)
    refine ND_ret1 (by first | exact .inl rfl | exact .inr rfl) rfl rfl _ _ subF incF (⟨rfl, rfl, congrArg Value.bool (B_true (list_eq_of_gt (by omega) (fun j hj => hs j (by omega)))).symm⟩)
end
end Go.Proofs.Ytkhgglkkdnemlaa
namespace Go.Proofs.Ytkhgglkkdnemlaa
open Go Go.Fx
section
variable {X : List Nat} {w0 : World} {M0 : List Ent} {I0 : List Imm}
end
end Go.Proofs.Ytkhgglkkdnemlaa
namespace Go.Proofs.Ytkhgglkkdnemlaa
open Go Go.Fx
theorem Wk.mul {a b : Nat} (h : a ≤ b) : a * 1073741824 ≤ b * 1073741824 := Nat.mul_le_mul_right _ h
section
variable {X : List Nat} {w0 : World} {M0 : List Ent} {I0 : List Imm}
end
end Go.Proofs.Ytkhgglkkdnemlaa
namespace Go.Proofs.Ytkhgglkkdnemlaa
open Go Go.Fx
theorem st_all {n : Nat} {v : Int} (hv : 0 ≤ v ∧ v < n) : st (List.replicate n true) v true = List.replicate n true :=
  list_eq_of_gt (by rw [st_len]) (fun j hj => by
    rw [st_len, List.length_replicate] at hj
    rw [gt_st _ (by rw [List.length_replicate]; exact hv) (by omega), gt_rep ⟨by omega, by omega⟩]
    split <;> rfl)
/-- what CheckPotentials looks at -/
def okP (n : Nat) (ms : List LK) (l : List Int) : Prop := l.length = n ∧ (∀ j : Nat, j < n → -274877906944 ≤ gt l j ∧ gt l j ≤ 274877906944) ∧ Pot ms (gt l)
theorem Mem.rowBlk0 {X : List Nat} {w0 w : World} {M : List Ent} {I : List Imm} {a : Option Addr} {mm c : Nat} {cs : List Value} {e : TypeId} {sz : Nat} (h : Mem X w0 (.row a mm c cs e sz :: M) I w) : (a = none ∧ mm = 0 ∧ c = 0 ∧ cs = []) ∨ ∃ b tl, a = some ⟨b, 0, none⟩ ∧ Mem X w0 (.blk b (cs ++ tl) e :: M) I w := by
  have ho : w.ownsRow 0 e sz (.slice a mm c) mm cs := h.ent _ List.mem_cons_self
  rcases h.rowBlk with ⟨e1, e2, e3⟩ | ⟨b, tl, e1, _, hm⟩
  · rcases ho.2 with ⟨h1, h2⟩ | ⟨g, cap, cur, hv, _⟩
    · injection h1 with e4 e5 e6
      exact .inl ⟨e1, e2, e6, e3⟩
    · injection hv with e4 e5 e6
      rw [e1] at e4; simp at e4
  · exact .inr ⟨b, tl, e1, hm⟩
theorem TD_rowBlk0 {P : Program} {n : Nat} {Q : Exit → Act → World → Prop} {G : Env} {X : List Nat} {w0 : World} {M : List Ent} {I : List Imm} {c' : Code} {a : Option Addr} {mm c : Nat} {cs : List Value} {e : TypeId} {sz : Nat} (h0 : a = none → mm = 0 → c = 0 → cs = [] → TD P n c' Q G X w0 (.row a mm c cs e sz :: M) I) (h1 : ∀ b tl, a = some ⟨b, 0, none⟩ → TD P n c' Q G X w0 (.blk b (cs ++ tl) e :: M) I) : TD P n c' Q G X w0 (.row a mm c cs e sz :: M) I :=
  ⟨fun w hw => by
    rcases Mem.rowBlk0 hw with ⟨e1, e2, e3, e4⟩ | ⟨b, tl, e1, hm⟩
    · exact (h0 e1 e2 e3 e4).go w hw
    · exact (h1 b tl e1).go w hm⟩
def bdP (n : Nat) (l : List Int) : Prop := ∀ j : Nat, j < n → -274877906944 ≤ gt l j ∧ gt l j ≤ 274877906944
def PC (n : Nat) (ms : List LK) (l : List Int) (e : Int) : Prop := (l.length ≠ n ∧ e = 4) ∨ (l.length = n ∧ ¬ bdP n l ∧ e = 2) ∨ (l.length = n ∧ bdP n l ∧ ¬ Pot ms (gt l) ∧ e = 12) ∨ (okP n ms l ∧ e = 0)
theorem PC.iff {n : Nat} {ms : List LK} {l : List Int} {e : Int} (h : PC n ms l e) : e = 0 ↔ okP n ms l := by
  rcases h with ⟨h1, h2⟩ | ⟨h1, h3, h2⟩ | ⟨h1, h4, h3, h2⟩ | ⟨h1, h2⟩
  · subst h2; exact ⟨fun h => by omega, fun h => absurd h.1 h1⟩
  · subst h2; exact ⟨fun h => by omega, fun h => absurd h.2.1 h3⟩
  · subst h2; exact ⟨fun h => by omega, fun h => absurd h.2.2 h3⟩
  · subst h2; exact ⟨fun _ => h1, fun _ => rfl⟩
section
variable {X : List Nat} {w0 : World} {M0 : List Ent} {I0 : List Imm}
set_option maxRecDepth 100000 in
set_option maxHeartbeats 2000000 in
theorem lowered_ok {p q0 : Option Addr} {n m c c0 t : Nat} {ms : List LK} {D0 : Int → Option Int} {S : Int → Prop} {d : List Int} (hn : n ≤ 256) (hm : ms.length = m) (hm2 : m ≤ 1024) (ht : t ≤ 300) (hg : Gd ms n) (hsnd : Snd ms S 0 D0) (hj : Jo ms n D0 t (d, List.replicate n true)) (hp : slI p (recs eK ms) ∈ I0) (hq : slI q0 (recs (eI .i64) d) ∈ I0) (hok : Ok q0 ∨ (n = 0 ∧ c0 = 0)) :
    CD Try.prog 55 [gv n p m c, .slice q0 n c0] X w0 M0 I0 (fun v M I => M0 = M ∧ ∃ (e : List Int) (q : Option Addr) (c1 : Nat), v = .slice q n c1 ∧ (Ok q ∨ (n = 0 ∧ c1 = 0)) ∧ Jo ms n D0 (t + 1) (e, List.replicate n true) ∧ I = slI q (recs (eI .i64) e) :: I0) := by
  have hld := hj.ld
  have hst := hj.start
  dsimp only at hld
  refine enterD2 Try.func55 rfl Try.ntmps55 rfl ?_
  refine TD_seq ?_
  refine TD_region ?_
  (refine RD_boxA rfl rfl rfl ?_; intro b2; refine ⟨okF, ?_⟩)
  refine RD_freezeB .here ?_
  repeat (refine wXh ?_)
  (refine RD_vals (cs := recs (eI .i64) []) ([]) rfl rfl (by intro v hv; repeat (first | exact absurd hv (List.not_mem_nil) | (rcases List.mem_cons.1 hv with rfl | hv; · rfl))) (by omega) rfl rfl rfl ?_; intro b10; refine ⟨okF, ?_⟩; refine RD_toRow (mm := 0) 1 .here rfl (by omega) ?_)
  repeat (refine wXh ?_)
  (refine RD_appR (xs := []) (ys := d) 0 rfl rfl rfl (Src.imm memF hok) (by decide) hld (by simp; omega) (by simp; omega) rfl rfl ?_; intro a3 c3; refine ⟨okF, ?_⟩)
  rw [List.nil_append]
  repeat (refine wXh ?_)
  rw [hld]
  refine TD_rowBlk0 (fun e1 e2 e3 e4 => ?_) (fun bd td ed => ?_)
  · subst e1
    subst e2
    subst e3
    have hd : d = [] := List.eq_nil_of_length_eq_zero hld
    subst hd
    have hm0 : m = 0 := by
      refine Nat.eq_zero_of_not_pos (fun h => ?_)
      have := hg.a 0 (by omega) (by omega)
      omega
    subst hm0
    have hj2 := hj.next (k := ([], List.replicate 0 true)) (by rw [hm]; exact hst)
    refine TD_m (fun _ hw => hw.nilS none) ?_
    refine TD_w2 (M' := M0) (I' := slI none [] :: I0) subF incF ?_
    refine TD_loop [1, 5, 12, 13] rfl (fun k G M I => G = [(14, .int .i64 0)] ∧ M0 = M ∧ I = slI none [] :: I0) (0) _ _ _ subG subF incF (⟨rfl, rfl, rfl⟩) ?_
    rintro kk G M I ⟨rfl, rfl, rfl⟩
    repeat (refine wXh ?_)
    refine ND_ret1 (by first | exact .inl rfl | exact .inr rfl) rfl rfl _ _ subF incF (⟨rfl, [], none, 0, rfl, .inr ⟨rfl, rfl⟩, hj2, rfl⟩)
  subst ed
  refine TD_loop [1, 5, 12, 13] rfl (fun k G M I => ∃ (i : Nat) (e : List Int), i ≤ m ∧ k = m - i ∧ Jx ms n (d, List.replicate n true) (e, List.replicate n true) i ∧ G = [(14, .int .i64 i)] ∧ M = .blk bd (recs (eI .i64) e ++ td) 3 :: M0 ∧ I = slI (some ⟨b2, 0, none⟩) [.int .i64 n, .slice p m c] :: I0) (m) _ _ _ subG subF incF (⟨0, d, by omega, rfl, hst, rfl, rfl, rfl⟩) ?_
  rintro kk G M I ⟨i, e, hi, rfl, hx, rfl, rfl, rfl⟩
  have hl2 := hx.ld
  dsimp only at hl2
  by_cases him : i < m
  · have hA := hg.a (i : Int) (by omega) (by omega)
    have hB := hg.b (i : Int) (by omega) (by omega)
    have hW := hg.w (i : Int) (by omega) (by omega)
    have hbd := hj.bound hg hsnd hA.1 hA.2
    have hT2 : t * 1073741824 ≤ 300 * 1073741824 := Nat.mul_le_mul_right _ (by omega)
    have s2 := hx.skip2 hA.1 hB.1 (gt_rep hA) (gt_rep hB)
    have s3 := hx.put hA.1 hB (gt_rep hA)
    rw [st_all hB] at s3
    unfold wt at hW s2 s3
    dsimp only at hbd s2 s3
    by_cases hlt : gt d (gt ms (i : Int)).a + (gt ms (i : Int)).w < gt e (gt ms (i : Int)).b
    · have hx2 := s3 (fun _ => hlt)
      repeat (refine wXh ?_)
      (refine RD_alloc rfl rfl ?_; intro b13; refine ⟨okF, ?_⟩)
      repeat (refine wXh ?_)
      (repeat refine TD_seq ?_); refine TD_drawnJ 0 [0, 1, 2, 3, 4, 5, 6, 7, 8, 9, 10, 11, 12, 13] [0, 0, 0, 0, 0, 0, 0, 0, 0, 0, 0, 0, 0, 0] mixed (by kernel_rfl) ?_
      repeat (refine wXh ?_)
      (repeat refine TD_seq ?_); refine TD_drawnW (.blk b13 (eK (gt ms (i : Int))) 39 :: M0) (slI (some ⟨b2, 0, none⟩) [.int .i64 n, .slice p m c] :: I0) [0, 1, 2, 3, 4, 5, 6, 7, 8, 9, 10, 11, 12] [0, 0, 0, 0, 0, 0, 0, 0, 0, 0, 0, 0, 0] subF incF mixed (by kernel_rfl) ?_
      repeat (refine wXh ?_)
      refine ND_again (m - (i + 1)) _ _ _ (by first | omega | (simp only [List.length_append, List.length_cons, List.length_nil]; omega)) subG subF incF (⟨i + 1, _, by omega, rfl, hx2, rfl, rfl, rfl⟩)
    · have hx2 := s2 hlt
      repeat (refine wXh ?_)
      (refine RD_alloc rfl rfl ?_; intro b13; refine ⟨okF, ?_⟩)
      repeat (refine wXh ?_)
      (repeat refine TD_seq ?_); refine TD_drawnJ 0 [0, 1, 2, 3, 4, 5, 6, 7, 8, 9, 10, 11, 12, 13] [0, 0, 0, 0, 0, 0, 0, 0, 0, 0, 0, 0, 0, 0] mixed (by kernel_rfl) ?_
      repeat (refine wXh ?_)
      refine ND_again (m - (i + 1)) _ _ _ (by first | omega | (simp only [List.length_append, List.length_cons, List.length_nil]; omega)) subG subF incF (⟨i + 1, e, by omega, rfl, hx2, rfl, rfl, rfl⟩)
  · obtain rfl : i = m := by omega
    have hj2 := hj.next (k := (e, List.replicate n true)) (by rw [hm]; exact hx)
    refine TD_freezeB (b := bd) .here ?_
    refine TD_takeI (a := some ⟨bd, 0, none⟩) (cs := recs (eI .i64) e) (tl := td) memF ?_
    refine TD_w2 (M' := M0) (I' := slI (some ⟨bd, 0, none⟩) (recs (eI .i64) e) :: I0) subF incF ?_
    repeat (refine wXh ?_)
    refine ND_ret1 (by first | exact .inl rfl | exact .inr rfl) rfl rfl _ _ subF incF (⟨rfl, e, some ⟨bd, 0, none⟩, c3, rfl, .inl (Ok.mk _ _), hj2, rfl⟩)
set_option maxRecDepth 100000 in
set_option maxHeartbeats 2000000 in
theorem rPot_all {p : Option Addr} {n m c : Nat} {ms : List LK} {Q : Value → List Ent → List Imm → Prop} (hn : n ≤ 256) (hm : ms.length = m) (hm2 : m ≤ 1024) (hg : Gd ms n) (hp : slI p (recs eK ms) ∈ I0)
    (h1 : ∀ (q : Option Addr) (c1 : Nat) (d : List Int), hasFix ms (fun v => 0 ≤ v ∧ v < (n : Int)) → (∀ F, Fix ms (fun v => 0 ≤ v ∧ v < (n : Int)) F → ∀ v : Int, 0 ≤ v → v < n → OD d (List.replicate n true) v = F v) → d.length = n → (∀ v : Int, 0 ≤ v → v < n → (gt d v).natAbs ≤ n * 1073741824) → Q (.tuple #[.slice q n c1, .int .i64 0]) M0 (slI q (recs (eI .i64) d) :: I0))
    (h2 : ¬ hasFix ms (fun v => 0 ≤ v ∧ v < (n : Int)) → Q (.tuple #[.slice none 0 0, .int .i64 11]) M0 I0) :
    CD Try.prog 22 [gv n p m c] X w0 M0 I0 Q := by
  obtain ⟨hj0, hsnd, hsrc⟩ := Jo.init (d := (List.replicate n 0, List.replicate n true)) (Ro.all (ms := ms) List.length_replicate (fun j hj => gt_rep ⟨by omega, by omega⟩))
  dsimp only at hj0 hsnd hsrc
  generalize hD : OD (List.replicate n 0) (List.replicate n true) = D0 at hj0 hsnd hsrc
  refine enterD1 Try.func22 rfl Try.ntmps22 rfl ?_
  refine TD_seq ?_
  refine TD_region ?_
  (refine RD_boxA rfl rfl rfl ?_; intro b1; refine ⟨okF, ?_⟩)
  refine RD_freezeB .here ?_
  repeat (refine wXh ?_)
  (refine RD_makeX (n) rfl rfl (by omega) (by omega) (by omega) (by omega) (made_int _ _) rfl rfl ?_; intro b4; refine ⟨okF, ?_⟩)
  repeat (refine wXh ?_)
  refine TD_freezeB (b := b4) .here ?_
  refine TD_loop [1, 9] rfl (fun k G M I => ∃ (t : Nat) (d : List Int) (q : Option Addr) (c1 : Nat), t ≤ n ∧ k = n - t ∧ (Ok q ∨ (n = 0 ∧ c1 = 0)) ∧ Jo ms n D0 t (d, List.replicate n true) ∧ G = [(4, .slice q n c1), (10, .int .i64 t)] ∧ M0 = M ∧ I = slI q (recs (eI .i64) d) :: slI (some ⟨b1, 0, none⟩) [.int .i64 n, .slice p m c] :: I0) (n) _ _ _ subG subF incF (⟨0, List.replicate n 0, some ⟨b4, 0, none⟩, n, by omega, rfl, .inl (Ok.mk _ _), hj0, rfl, rfl, rfl⟩) ?_
  rintro kk G M I ⟨t, d, q, c1, ht, rfl, hok, hj, rfl, rfl, rfl⟩
  by_cases htn : t < n
  · repeat (refine wXh ?_)
    (refine RD_callS rfl (lowered_ok hn hm hm2 (by omega) hg hsnd hj memF memF hok) rfl rfl ?_; rintro _ _ _ ⟨rfl, e, q2, c2, rfl, hok2, hj2, rfl⟩; refine ⟨okF, ?_⟩)
    repeat (refine wXh ?_)
    refine ND_again (n - (t + 1)) _ _ _ (by first | omega | (simp only [List.length_append, List.length_cons, List.length_nil]; omega)) subG subF incF (⟨t + 1, e, q2, c2, by omega, rfl, hok2, hj2, rfl, rfl, rfl⟩)
  · obtain rfl : t = n := by omega
    have hld := hj.ld
    dsimp only at hld
    repeat (refine wXh ?_)
    (refine RD_callS rfl (lowered_ok hn hm hm2 (by omega) hg hsnd hj memF memF hok) rfl rfl ?_; rintro _ _ _ ⟨rfl, e, q2, c2, rfl, hok2, hj2, rfl⟩; refine ⟨okF, ?_⟩)
    have hle := hj2.ld
    dsimp only at hle
    have hsame := hj.same hg (fun v hv => hv) hsnd hsrc hj2
    dsimp only at hsame
    have hS := fun M0 I0 h1 h2 => rsame_ok (X := X) (w0 := w0) (M0 := M0) (I0 := I0) (p := q) (q := q2) (a := d) (b := e) (n := t) (c := c1) (c' := c2) hld hle (by omega) h1 h2
    by_cases hde : d = e
    · rw [B_true hde] at hS
      repeat (refine wXh ?_)
      (refine RD_callS rfl (hS _ _ memF memF) rfl rfl ?_; rintro _ _ _ ⟨rfl, rfl, rfl⟩; refine ⟨okF, ?_⟩)
      repeat (refine wXh ?_)
      refine ND_rets [2, 3] (by first | exact .inl rfl | exact .inr rfl) rfl rfl rfl _ _ subF incF (h1 q c1 d (hsame.1 hde) (fun F hF => hj.fix hg hF hsnd hsrc) hld (fun v h0 hv => hj.bound hg hsnd h0 hv))
    · rw [B_false hde] at hS
      repeat (refine wXh ?_)
      (refine RD_callS rfl (hS _ _ memF memF) rfl rfl ?_; rintro _ _ _ ⟨rfl, rfl, rfl⟩; refine ⟨okF, ?_⟩)
      repeat (refine wXh ?_)
      refine ND_rets [2, 3] (by first | exact .inl rfl | exact .inr rfl) rfl rfl rfl _ _ subF incF (h2 (fun h => hde (hsame.2 h)))
set_option maxRecDepth 100000 in
set_option maxHeartbeats 2000000 in
theorem CheckPot_ok {p q : Option Addr} {n m c t ct : Nat} {ms : List LK} {l : List Int} (hn : n ≤ 256) (hm : ms.length = m) (hm2 : m ≤ 1024) (hg : Gd ms n) (hl : l.length = t) (hl2 : (t : Int) ≤ 9223372036854775807) (hp : slI p (recs eK ms) ∈ I0) (hq : slI q (recs (eI .i64) l) ∈ I0) :
    CD Try.prog 23 [gv n p m c, .slice q t ct] X w0 M0 I0 (fun v M I => M0 = M ∧ I0 = I ∧ ∃ e : Int, v = .int .i64 e ∧ (e = 0 ↔ okP n ms l) ∧ PC n ms l e) := by
  have hC := fun M0 I0 h => gCheck_ok (X := X) (w0 := w0) (M0 := M0) (I0 := I0) (p := p) (N := n) (ms := ms) (c := c) hm (by omega) h
  rw [gcode_gd (by omega) (by omega) hg] at hC
  refine enterD2 Try.func23 rfl Try.ntmps23 rfl ?_
  refine TD_seq ?_
  refine TD_region ?_
  (refine RD_boxA rfl rfl rfl ?_; intro b2; refine ⟨okF, ?_⟩)
  refine RD_freezeB .here ?_
  repeat (refine wXh ?_)
  (refine RD_callS rfl (hC _ _ memF) rfl rfl ?_; rintro _ _ _ ⟨rfl, rfl, rfl⟩; refine ⟨okF, ?_⟩)
  by_cases htn : t = n
  rotate_left
  · repeat (refine wXh ?_)
    have hpc : PC n ms l 4 := .inl ⟨fun h => htn (hl.symm.trans h), rfl⟩
    refine ND_ret1 (by first | exact .inl rfl | exact .inr rfl) rfl rfl _ _ subF incF (⟨rfl, rfl, 4, rfl, hpc.iff, hpc⟩)
  subst htn
  repeat (refine wXh ?_)
  refine TD_loop [1, 2, 20, 21] rfl (fun k G M I => ∃ i : Nat, i ≤ t ∧ k = t - i ∧ (∀ j : Nat, j < i → -274877906944 ≤ gt l j ∧ gt l j ≤ 274877906944) ∧ G = [(22, .int .i64 i)] ∧ M0 = M ∧ I = slI (some ⟨b2, 0, none⟩) [.int .i64 t, .slice p m c] :: I0) (t) _ _ _ subG subF incF (⟨0, by omega, rfl, fun j hj => by omega, rfl, rfl, rfl⟩) ?_
  rintro kk G M I ⟨i, hi, rfl, hb, rfl, rfl, rfl⟩
  by_cases hit : i < t
  · by_cases h1 : gt l (i : Int) < -274877906944
    · repeat (refine wXh ?_)
      have hpc : PC t ms l 2 := .inr (.inl ⟨hl, fun h => by have := h i hit; omega, rfl⟩)
      refine ND_ret1 (by first | exact .inl rfl | exact .inr rfl) rfl rfl _ _ subF incF (⟨rfl, rfl, 2, rfl, hpc.iff, hpc⟩)
    by_cases h2 : 274877906944 < gt l (i : Int)
    · repeat (refine wXh ?_)
      have hpc : PC t ms l 2 := .inr (.inl ⟨hl, fun h => by have := h i hit; omega, rfl⟩)
      refine ND_ret1 (by first | exact .inl rfl | exact .inr rfl) rfl rfl _ _ subF incF (⟨rfl, rfl, 2, rfl, hpc.iff, hpc⟩)
    repeat (refine wXh ?_)
    refine ND_again (t - (i + 1)) _ _ _ (by first | omega | (simp only [List.length_append, List.length_cons, List.length_nil]; omega)) subG subF incF (⟨i + 1, by omega, rfl, fun j hj => ?_, rfl, rfl, rfl⟩)
    by_cases e : j = i
    · subst e; omega
    · exact hb j (by omega)
  obtain rfl : i = t := by omega
  repeat (refine wXh ?_)
  refine TD_loop [1, 34, 35] rfl (fun k G M I => ∃ k2 : Nat, k2 ≤ m ∧ k = m - k2 ∧ (∀ j : Nat, j < k2 → gt l (gt ms j).b ≤ gt l (gt ms j).a + (gt ms j).w) ∧ G = [(36, .int .i64 k2)] ∧ M0 = M ∧ I = slI (some ⟨b2, 0, none⟩) [.int .i64 i, .slice p m c] :: I0) (m) _ _ _ subG subF incF (⟨0, by omega, rfl, fun j hj => by omega, rfl, rfl, rfl⟩) ?_
  rintro kk G M I ⟨k2, hk, rfl, hs, rfl, rfl, rfl⟩
  by_cases hkm : k2 < m
  · have hA := hg.a (k2 : Int) (by omega) (by omega)
    have hB := hg.b (k2 : Int) (by omega) (by omega)
    have hW := hg.w (k2 : Int) (by omega) (by omega)
    unfold wt at hW
    have hbA := hb (gt ms (k2 : Int)).a.toNat (by omega)
    rw [Int.toNat_of_nonneg hA.1] at hbA
    by_cases hle : gt l (gt ms (k2 : Int)).b ≤ gt l (gt ms (k2 : Int)).a + (gt ms (k2 : Int)).w
    · repeat (refine wXh ?_)
      (refine RD_alloc rfl rfl ?_; intro b9; refine ⟨okF, ?_⟩)
      repeat (refine wXh ?_)
      (repeat refine TD_seq ?_); refine TD_drawnJ 0 [0, 1, 2, 3, 4, 5, 6, 7, 8, 9, 10, 11, 12, 13] [0, 0, 0, 0, 0, 0, 0, 0, 0, 0, 0, 0, 0, 0] mixed (by kernel_rfl) ?_
      repeat (refine wXh ?_)
      refine ND_again (m - (k2 + 1)) _ _ _ (by first | omega | (simp only [List.length_append, List.length_cons, List.length_nil]; omega)) subG subF incF (⟨k2 + 1, by omega, rfl, fun j hj => ?_, rfl, rfl, rfl⟩)
      by_cases e : j = k2
      · subst e; exact hle
      · exact hs j (by omega)
    · repeat (refine wXh ?_)
      (refine RD_alloc rfl rfl ?_; intro b9; refine ⟨okF, ?_⟩)
      repeat (refine wXh ?_)
      (repeat refine TD_seq ?_); refine TD_drawnJ 0 [0, 1, 2, 3, 4, 5, 6, 7, 8, 9, 10, 11, 12, 13] [0, 0, 0, 0, 0, 0, 0, 0, 0, 0, 0, 0, 0, 0] mixed (by kernel_rfl) ?_
      repeat (refine wXh ?_)
      have hpc : PC i ms l 12 := .inr (.inr (.inl ⟨hl, hb, fun h => hle (h (k2 : Int) (by omega) (by omega)), rfl⟩))
      refine ND_ret1 (by first | exact .inl rfl | exact .inr rfl) rfl rfl _ _ subF incF (⟨rfl, rfl, 12, rfl, hpc.iff, hpc⟩)
  · repeat (refine wXh ?_)
    have hpc : PC i ms l 0 := .inr (.inr (.inr ⟨⟨hl, hb, fun j h0 hj => by { have := hs j.toNat (by omega); rw [Int.toNat_of_nonneg h0] at this; exact this }⟩, rfl⟩))
    refine ND_ret1 (by first | exact .inl rfl | exact .inr rfl) rfl rfl _ _ subF incF (⟨rfl, rfl, 0, rfl, hpc.iff, hpc⟩)
end
theorem OD_rep {d : List Int} {n : Nat} {v : Int} (hv : 0 ≤ v ∧ v < n) : OD d (List.replicate n true) v = some (gt d v) := OD_some.2 ⟨⟨hv.1, gt_rep hv⟩, rfl⟩
theorem pot_same {ms : List LK} {n : Nat} {S : Int → Prop} {d d' : List Int} {kn : List Bool} (h1 : Fix ms S (OD d kn)) (h2 : ∀ F, Fix ms S F → ∀ v : Int, 0 ≤ v → v < n → OD d' (List.replicate n true) v = F v) (ld : d.length = n) (ld' : d'.length = n) : d' = d :=
  list_eq_of_gt (by omega) (fun j hj => by
    have h3 := h2 _ h1 j (by omega) (by omega)
    rw [OD_rep ⟨by omega, by omega⟩] at h3
    exact (OD_some.1 h3.symm).2.symm)
section
variable {X : List Nat} {w0 : World} {M0 : List Ent} {I0 : List Imm}
theorem rPot_ok {p : Option Addr} {n m c : Nat} {ms : List LK} {d : List Int} {kn : List Bool} (hn : n ≤ 256) (hm : ms.length = m) (hm2 : m ≤ 1024) (hg : Gd ms n) (hF : Fix ms (fun v => 0 ≤ v ∧ v < (n : Int)) (OD d kn)) (ld : d.length = n) (hp : slI p (recs eK ms) ∈ I0) :
    CD Try.prog 22 [gv n p m c] X w0 M0 I0 (fun v M I => M0 = M ∧ ∃ (q : Option Addr) (c1 : Nat), v = .tuple #[.slice q n c1, .int .i64 0] ∧ okP n ms d ∧ (∀ v : Int, 0 ≤ v → v < n → OD d kn v = some (gt d v)) ∧ I = slI q (recs (eI .i64) d) :: I0) :=
  rPot_all hn hm hm2 hg hp (fun q c1 d' _ h2 hl hb => by
    obtain rfl := pot_same hF h2 ld hl
    have key : ∀ v : Int, 0 ≤ v → v < n → OD d' kn v = some (gt d' v) := fun v h0 hv => by rw [← h2 _ hF v h0 hv, OD_rep ⟨h0, hv⟩]
    refine ⟨rfl, q, c1, rfl, ⟨hl, fun j hj => ?_, fun i h0 hi => ?_⟩, key, rfl⟩
    · have := hb j (by omega) (by omega)
      have h5 : n * 1073741824 ≤ 256 * 1073741824 := Nat.mul_le_mul_right _ hn
      omega
    · have hA := hg.a i h0 hi
      have hB := hg.b i h0 hi
      obtain ⟨y, h3, h4⟩ := hF.closed i h0 hi _ (key _ hA.1 hA.2)
      rw [key _ hB.1 hB.2] at h3
      simp only [Option.some.injEq] at h3
      omega) (fun h => absurd ⟨_, hF⟩ h)
theorem rPot_no {p : Option Addr} {n m c : Nat} {ms : List LK} (hn : n ≤ 256) (hm : ms.length = m) (hm2 : m ≤ 1024) (hg : Gd ms n) (hF : ¬ hasFix ms (fun v => 0 ≤ v ∧ v < (n : Int))) (hp : slI p (recs eK ms) ∈ I0) :
    CD Try.prog 22 [gv n p m c] X w0 M0 I0 (fun v M I => M0 = M ∧ I0 = I ∧ v = .tuple #[.slice none 0 0, .int .i64 11]) :=
  rPot_all hn hm hm2 hg hp (fun q c1 d' h _ _ _ => absurd h hF) (fun _ => ⟨rfl, rfl, rfl⟩)
end
end Go.Proofs.Ytkhgglkkdnemlaa

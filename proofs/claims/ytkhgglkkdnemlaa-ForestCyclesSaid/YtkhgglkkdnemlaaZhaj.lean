/- Forest: the program's partitions. Plain: the rounds of the document's numbering. Forest: components, of the program and of the document. Plain: the codes of forests. Forest: forests of both, spanning, weights. -/
import Derived.Test.YtkhgglkkdnemlaaZhai
set_option linter.unusedSimpArgs false
set_option linter.unusedVariables false
namespace Go.Proofs.Ytkhgglkkdnemlaa
open Go Go.Fx
section
variable {X : List Nat} {w0 : World} {M0 : List Ent} {I0 : List Imm}
set_option maxRecDepth 100000 in
set_option maxHeartbeats 1000000 in
theorem newU_ok {n : Nat} (hn : n ≤ 256) :
    CD Try.prog 68 [.int .i64 n] X w0 M0 I0 (fun v M I => I0 = I ∧ ∃ b, v = .slice (some ⟨b, 0, none⟩) n n ∧ M = .blk b (recs (eI .i64) (rg n)) 3 :: M0) := by
  refine enterD1 Try.func68 rfl Try.ntmps68 rfl ?_
  repeat (refine wXh ?_)
  (refine RD_makeX (n) rfl rfl (by omega) (by omega) (by omega) (by omega) (made_int _ _) rfl rfl ?_; intro b; refine ⟨okF, ?_⟩)
  repeat (refine wXh ?_)
  refine TD_loop [3, 8] rfl (fun k G M I => ∃ (i : Nat) (u : List Int), i ≤ n ∧ k = n - i ∧ u.length = n ∧ (∀ j : Nat, j < i → gt u j = j) ∧ G = [(9, .int .i64 i)] ∧ M = .blk b (recs (eI .i64) u) 3 :: M0 ∧ I0 = I) (n) _ _ _ subG subF incF (⟨0, _, by omega, rfl, List.length_replicate, fun j hj => by omega, rfl, rfl, rfl⟩) ?_
  rintro kk G M I ⟨i, u, hi, rfl, hl, hu, rfl, rfl, rfl⟩
  by_cases hin : i < n
  · repeat (refine wXh ?_)
    refine ND_again (n - (i + 1)) _ _ _ (by first | omega | (simp only [List.length_append, List.length_cons, List.length_nil]; omega)) subG subF incF (⟨i + 1, _, by omega, rfl, by rw [st_len, hl], fun j hj => ?_, rfl, rfl, rfl⟩)
    rw [gt_st _ (by omega) (by omega)]
    split
    · omega
    · exact hu j (by omega)
  · obtain rfl : i = n := by omega
    have hrg : u = rg i := list_eq_of_gt (by rw [rg_len, hl]) (fun j hj => by rw [hu j (by omega), gt_rg (by omega)])
    subst hrg
    repeat (refine wXh ?_)
    refine ND_ret1 (by first | exact .inl rfl | exact .inr rfl) rfl rfl _ _ subF incF (⟨rfl, b, rfl, rfl⟩)
set_option maxRecDepth 100000 in
set_option maxHeartbeats 1000000 in
theorem ufind_ok {b n c : Nat} {u : List Int} {f : Int → Int} {x : Int} (hn : n ≤ 256) (hu : Rp n u f) (hx : 0 ≤ x ∧ x < n) :
    CD Try.prog 57 [.slice (some ⟨b, 0, none⟩) n c, .int .i64 x] X w0 (.blk b (recs (eI .i64) u) 3 :: M0) I0 (fun v M I => I0 = I ∧ v = .int .i64 (f x) ∧ ∃ u', Rp n u' f ∧ M = .blk b (recs (eI .i64) u') 3 :: M0) := by
  refine enterD2 Try.func57 rfl Try.ntmps57 rfl ?_
  repeat (refine wXh ?_)
  refine TD_loop [0] rfl (fun k G M I => ∃ (i : Int) (u : List Int), 0 ≤ i ∧ i < n ∧ k = i.toNat ∧ f i = f x ∧ Rp n u f ∧ G = [(1, .int .i64 i)] ∧ M = .blk b (recs (eI .i64) u) 3 :: M0 ∧ I0 = I) (x.toNat) _ _ _ subG subF incF (⟨x, u, hx.1, hx.2, rfl, rfl, hu, rfl, rfl, rfl⟩) ?_
  clear hu
  rintro kk G M I ⟨i, u, h0, hi, rfl, hfi, hu, rfl, rfl, rfl⟩
  have hl := hu.len
  have d1 := hu.dn i h0 hi
  have d2 := hu.dn (gt u i) d1.1 (by omega)
  by_cases he : gt u i = i
  · have hfx := hu.fx i h0 hi he
    repeat (refine wXh ?_)
    refine ND_ret1 (by first | exact .inl rfl | exact .inr rfl) rfl rfl _ _ subF incF (⟨rfl, by rw [← hfi, hfx], u, hu, rfl⟩)
  · have hh := hu.halve h0 hi
    have hl2 := hh.len
    have hg : gt (st u i (gt u (gt u i))) i = gt u (gt u i) := by rw [gt_st _ (by omega) h0, if_pos rfl]
    have hfu := hu.up i h0 hi
    have hfu2 := hu.up (gt u i) d1.1 (by omega)
    repeat (refine wXh ?_)
    rw [hg]
    refine ND_again ((gt u (gt u i)).toNat) _ _ _ (by first | omega | (simp only [List.length_append, List.length_cons, List.length_nil]; omega)) subG subF incF (⟨gt u (gt u i), _, d2.1, by omega, rfl, by rw [hfu2, hfu, hfi], hh, rfl, rfl, rfl⟩)
set_option maxRecDepth 100000 in
set_option maxHeartbeats 1000000 in
theorem ujoin_ok {b n c : Nat} {u : List Int} {f : Int → Int} {x y : Int} (hn : n ≤ 256) (hu : Rp n u f) (hx : 0 ≤ x ∧ x < n) (hy : 0 ≤ y ∧ y < n) :
    CD Try.prog 69 [.slice (some ⟨b, 0, none⟩) n c, .int .i64 x, .int .i64 y] X w0 (.blk b (recs (eI .i64) u) 3 :: M0) I0 (fun v M I => I0 = I ∧ v = .bool (B (f x ≠ f y)) ∧ ∃ u', Rp n u' (mrg f (x, y)) ∧ M = .blk b (recs (eI .i64) u') 3 :: M0) := by
  refine enterD3 Try.func69 rfl Try.ntmps69 rfl ?_
  repeat (refine wXh ?_)
  (refine RD_callS rfl (ufind_ok hn hu hx) rfl rfl ?_; rintro _ _ _ ⟨rfl, rfl, u1, hu1, rfl⟩; refine ⟨okF, ?_⟩)
  repeat (refine wXh ?_)
  (refine RD_callS rfl (ufind_ok hn hu1 hy) rfl rfl ?_; rintro _ _ _ ⟨rfl, rfl, u2, hu2, rfl⟩; refine ⟨okF, ?_⟩)
  have r1 := hu2.root hx.1 hx.2
  have r2 := hu2.root hy.1 hy.2
  have hl := hu2.len
  by_cases he : f x = f y
  · have hs := hu2.same (e := (x, y)) he
    repeat (refine wXh ?_)
    refine ND_ret1 (by first | exact .inl rfl | exact .inr rfl) rfl rfl _ _ subF incF (⟨rfl, congrArg Value.bool (B_false (fun h => h he)).symm, u2, hs, rfl⟩)
  · have hj := hu2.join (e := (x, y)) hx hy
    have hlj := hj.len
    repeat (refine wXh ?_)
    refine ND_ret1 (by first | exact .inl rfl | exact .inr rfl) rfl rfl _ _ subF incF (⟨rfl, congrArg Value.bool (B_true he).symm, _, hj, rfl⟩)
end
end Go.Proofs.Ytkhgglkkdnemlaa
namespace Go.Proofs.Ytkhgglkkdnemlaa
open Go Go.Fx
/-- within a round: lists of numbers, the first j links done -/
structure Lr (n : Nat) (E : List (Int × Int)) (l l' : List Int) (ms : List LK) (ls : List Int) (j : Nat) : Prop where
  len : l'.length = n
  lw : Lw n E (gt l')
  dec : ∀ x : Int, 0 ≤ x → x < n → gt l' x ≤ gt l x
  lk : ∀ i : Nat, i < j → gt l' (gt ms (gt ls i)).a ≤ gt l (gt ms (gt ls i)).b ∧ gt l' (gt ms (gt ls i)).b ≤ gt l (gt ms (gt ls i)).a
theorem Lr.step {n : Nat} {E : List (Int × Int)} {l l' l2 : List Int} {ms : List LK} {ls : List Int} {j : Nat} {a b : Int} (h : Lr n E l l' ms ls j) (hn : ∀ i : Nat, i ≤ j → (0 ≤ (gt ms (gt ls i)).a ∧ (gt ms (gt ls i)).a < n) ∧ (0 ≤ (gt ms (gt ls i)).b ∧ (gt ms (gt ls i)).b < n))
    (ea : (gt ms (gt ls j)).a = a) (eb : (gt ms (gt ls j)).b = b) (hE : (a, b) ∈ E) (hl : l2.length = n) (hs : ∀ x : Int, 0 ≤ x → x < n → gt l2 x = if x = a ∨ x = b then min (gt l' a) (gt l' b) else gt l' x) : Lr n E l l2 ms ls (j + 1) := by
  have hnj := hn j (Nat.le_refl _)
  rw [ea, eb] at hnj
  obtain ⟨ha, hb⟩ := hnj
  have hlab := lo_link hE
  dsimp only at hlab
  have la := h.lw.ge a ha.1 ha.2
  have lb := h.lw.ge b hb.1 hb.2
  have ua := h.lw.le a ha.1 ha.2
  have ub := h.lw.le b hb.1 hb.2
  have dec2 : ∀ x : Int, 0 ≤ x → x < n → gt l2 x ≤ gt l' x := fun x h0 hx => by
    rw [hs x h0 hx]
    split
    · rename_i e
      rcases e with e | e <;> subst e <;> omega
    · exact Int.le_refl _
  refine ⟨hl, ⟨fun x h0 hx => Int.le_trans (dec2 x h0 hx) (h.lw.le x h0 hx), fun x h0 hx => ?_⟩, fun x h0 hx => Int.le_trans (dec2 x h0 hx) (h.dec x h0 hx), fun i hi => ?_⟩
  · rw [hs x h0 hx]
    split
    · rename_i e
      rcases e with e | e <;> subst e <;> omega
    · exact h.lw.ge x h0 hx
  · obtain ⟨q1, q2⟩ := hn i (by omega)
    by_cases e : i = j
    · subst e
      rw [ea, eb, hs a ha.1 ha.2, hs b hb.1 hb.2, if_pos (.inl rfl), if_pos (.inr rfl)]
      have := h.dec a ha.1 ha.2
      have := h.dec b hb.1 hb.2
      omega
    · have := h.lk i (by omega)
      have := dec2 _ q1.1 q1.2
      have := dec2 _ q2.1 q2.2
      omega
theorem Lr.start {n : Nat} {E : List (Int × Int)} {l : List Int} {ms : List LK} {ls : List Int} (hl : l.length = n) (h : Lw n E (gt l)) : Lr n E l l ms ls 0 := ⟨hl, h, fun _ _ _ => Int.le_refl _, fun i hi => by omega⟩
theorem Lr.done {n : Nat} {l l' : List Int} {ms : List LK} {ls : List Int} (hE : Nds n (es ms ls)) (hl : Lw n (es ms ls) (gt l)) (h : Lr n (es ms ls) l l' ms ls ls.length) {t : Nat} (ht : t < n) (hc : t ≤ cnt n (atL (es ms ls) (gt l))) : t + 1 ≤ cnt n (atL (es ms ls) (gt l')) := by
  have := Lw.round hE hl h.lw h.dec (fun e he => by
    obtain ⟨k, hk, rfl⟩ := List.mem_map.1 he
    obtain ⟨i, hi, rfl⟩ := List.mem_iff_getElem.1 hk
    have := h.lk i hi
    rw [gt_get hi] at this
    exact this) (Nat.le_of_lt ht) hc
  omega
theorem lw_rg {n : Nat} {E : List (Int × Int)} (hE : Nds n E) : Lw n E (gt (rg n)) := ⟨fun x h0 hx => by rw [gt_rg ⟨h0, hx⟩]; exact Int.le_refl _, fun x h0 hx => by rw [gt_rg ⟨h0, hx⟩]; exact lo_le E x⟩
end Go.Proofs.Ytkhgglkkdnemlaa
namespace Go.Proofs.Ytkhgglkkdnemlaa
open Go Go.Fx
theorem Mem.rowLe {X : List Nat} {w0 w : World} {M : List Ent} {I : List Imm} {a : Option Addr} {mm c : Nat} {cs : List Value} {e : TypeId} {sz : Nat} (h : Mem X w0 (.row a mm c cs e sz :: M) I w) : mm ≤ c := by
  rcases h.rowBlk with ⟨_, h1, _⟩ | ⟨_, _, _, h1, _⟩
  · omega
  · exact h1
section
variable {X : List Nat} {w0 : World} {M0 : List Ent} {I0 : List Imm}
set_option maxRecDepth 100000 in
set_option maxHeartbeats 1000000 in
theorem every_ok {p : Option Addr} {N : Int} {m c : Nat} (hm2 : m ≤ 1024) :
    CD Try.prog 48 [gv N p m c] X w0 M0 I0 (fun v M I => M0 = M ∧ ∃ q c', v = .slice q m c' ∧ m ≤ c' ∧ I = slI q (recs (eI .i64) (rg m)) :: I0) := by
  refine enterD1 Try.func48 rfl Try.ntmps48 rfl ?_
  refine TD_seq ?_
  refine TD_region ?_
  (refine RD_boxA rfl rfl rfl ?_; intro b1; refine ⟨okF, ?_⟩)
  refine RD_freezeB .here ?_
  repeat (refine wXh ?_)
  (refine RD_vals (cs := recs (eI .i64) []) ([]) rfl rfl (by intro v hv; repeat (first | exact absurd hv (List.not_mem_nil) | (rcases List.mem_cons.1 hv with rfl | hv; · rfl))) (by omega) rfl rfl rfl ?_; intro b3; refine ⟨okF, ?_⟩; refine RD_toRow (mm := 0) 1 .here rfl (by omega) ?_)
  repeat (refine wXh ?_)
  refine TD_loop [8] rfl (fun k G M I => ∃ (i : Nat) (q : Option Addr) (c' : Nat) (xs : List Int), i ≤ m ∧ k = m - i ∧ xs = rg i ∧ G = [(3, .slice q xs.length c'), (9, .int .i64 i)] ∧ M = .row q xs.length c' (recs (eI .i64) xs) 3 1 :: M0 ∧ I0 = I) (m) _ _ _ subG subF incF (⟨0, some ⟨b3, 0, none⟩, 0, [], by omega, rfl, rfl, rfl, rfl, rfl⟩) ?_
  rintro kk G M I ⟨i, q, c', xs, hi, rfl, hxs, rfl, rfl, rfl⟩
  have hxl : xs.length = i := by rw [hxs, rg_len]
  by_cases him : i < m
  · repeat (refine wXh ?_)
    (refine RD_vals (cs := recs (eI .i64) [(i : Int)]) ([.int .i64 (i : Int)]) rfl rfl (by intro v hv; repeat (first | exact absurd hv (List.not_mem_nil) | (rcases List.mem_cons.1 hv with rfl | hv; · rfl))) (by omega) rfl rfl rfl ?_; intro b4; refine ⟨okF, ?_⟩)
    (refine RD_appR (ys := [(i : Int)]) 1 rfl rfl rfl ?_ (by decide) rfl (by omega) (by omega) rfl rfl ?_; (· first | exact Src.blk memF | exact Src.row memF | exact Src.imm memF (by first | assumption | exact .inl (Ok.mk _ _))); intro a2 c2; refine ⟨okF, ?_⟩)
    repeat (refine wXh ?_)
    refine ND_again (m - (i + 1)) _ _ _ (by first | omega | (simp only [List.length_append, List.length_cons, List.length_nil]; omega)) subG subF incF (⟨i + 1, a2, c2, xs ++ [(i : Int)], by omega, rfl, by rw [rg_succ, hxs], rfl, rfl, rfl⟩)
  · obtain rfl : i = m := by omega
    repeat (refine wXh ?_)
    refine ND_fact (fun w hw => Mem.rowLe hw) (fun hcc => ?_)
    refine ND_freezeR remF ?_
    rw [hxs, rg_len]
    refine ND_ret1 (by first | exact .inl rfl | exact .inr rfl) rfl rfl _ _ subF incF (⟨rfl, q, c', rfl, by omega, rfl⟩)
set_option maxRecDepth 100000 in
set_option maxHeartbeats 2000000 in
theorem Labels0_ok {p q : Option Addr} {f : Int → Int} {m c t ct : Nat} (ht2 : t ≤ 100000) :
    CD Try.prog 50 [gv (0 : Nat) p m c, .slice q t ct] X w0 M0 I0 (fun v M I => M0 = M ∧ ∃ q' c', v = .slice q' 0 c' ∧ I = slI q' (recs (eI .i64) (labs 0 f)) :: I0) := by
  refine enterD2 Try.func50 rfl Try.ntmps50 rfl ?_
  refine TD_seq ?_
  refine TD_region ?_
  (refine RD_boxA rfl rfl rfl ?_; intro b2; refine ⟨okF, ?_⟩)
  refine RD_freezeB .here ?_
  repeat (refine wXh ?_)
  (refine RD_vals (cs := recs (eI .i64) []) ([]) rfl rfl (by intro v hv; repeat (first | exact absurd hv (List.not_mem_nil) | (rcases List.mem_cons.1 hv with rfl | hv; · rfl))) (by omega) rfl rfl rfl ?_; intro b5; refine ⟨okF, ?_⟩; refine RD_toRow (mm := 0) 1 .here rfl (by omega) ?_)
  repeat (refine wXh ?_)
  refine TD_loop [1, 2] rfl (fun k G M I => k = 0 ∧ G = [(5, .slice (some ⟨b5, 0, none⟩) 0 0), (6, .int .i64 (0 : Nat))] ∧ M0 = M ∧ I = slI (some ⟨b2, 0, none⟩) [.int .i64 (0 : Nat), .slice p m c] :: I0) (0) _ _ _ subG subF incF (⟨rfl, rfl, rfl, rfl⟩) ?_
  rintro kk G M I ⟨rfl, rfl, rfl, rfl⟩
  repeat (refine wXh ?_)
  refine TD_loop [1, 2, 5, 26] rfl (fun k G M I => k = 0 ∧ G = [(27, .int .i64 (0 : Nat))] ∧ M0 = M ∧ I = slI (some ⟨b2, 0, none⟩) [.int .i64 (0 : Nat), .slice p m c] :: I0) (0) _ _ _ subG subF incF (⟨rfl, rfl, rfl, rfl⟩) ?_
  rintro kk G M I ⟨rfl, rfl, rfl, rfl⟩
  repeat (refine wXh ?_)
  (refine RD_vals (cs := recs (eI .i64) []) ([]) rfl rfl (by intro v hv; repeat (first | exact absurd hv (List.not_mem_nil) | (rcases List.mem_cons.1 hv with rfl | hv; · rfl))) (by omega) rfl rfl rfl ?_; intro b6; refine ⟨okF, ?_⟩; refine RD_toRow (mm := 0) 1 .here rfl (by omega) ?_)
  repeat (refine wXh ?_)
  refine TD_loop [2, 5] rfl (fun k G M I => k = 0 ∧ G = [(11, .slice (some ⟨b6, 0, none⟩) 0 0), (12, .int .i64 (0 : Nat)), (13, .int .i64 (0 : Nat))] ∧ M = .row (some ⟨b6, 0, none⟩) 0 0 (recs (eI .i64) []) 3 1 :: M0 ∧ I = slI (some ⟨b2, 0, none⟩) [.int .i64 (0 : Nat), .slice p m c] :: I0) (0) _ _ _ subG subF incF (⟨rfl, rfl, rfl, rfl⟩) ?_
  rintro kk G M I ⟨rfl, rfl, rfl, rfl⟩
  repeat (refine wXh ?_)
  refine ND_freezeR remF ?_
  refine ND_ret1 (by first | exact .inl rfl | exact .inr rfl) rfl rfl _ _ subF incF (⟨rfl, some ⟨b6, 0, none⟩, 0, rfl, rfl⟩)
set_option maxRecDepth 100000 in
set_option maxHeartbeats 4000000 in
theorem Labels_ok {p q : Option Addr} {n : Nat} {ms : List LK} {ls : List Int} {m c t ct : Nat} (hn : n ≤ 256) (hm : ms.length = m) (hm2 : m ≤ 1024) (hg : Gd ms n) (ht : ls.length = t) (ht2 : t ≤ 100000) (hls : ∀ k ∈ ls, 0 ≤ k ∧ k < m) (hp : slI p (recs eK ms) ∈ I0) (hq : slI q (recs (eI .i64) ls) ∈ I0) :
    CD Try.prog 50 [gv n p m c, .slice q t ct] X w0 M0 I0 (fun v M I => M0 = M ∧ ∃ q' c', v = .slice q' n c' ∧ I = slI q' (recs (eI .i64) (labs n (lo (es ms ls)))) :: I0) := by
  by_cases hn0 : n = 0
  · subst hn0
    exact Labels0_ok ht2
  have hE : Nds n (es ms ls) := hg.nds (by rw [hm]; exact hls)
  have hli : ∀ i : Nat, i < t → 0 ≤ gt ls i ∧ gt ls i < m := fun i hi => by rw [gt_get (by omega)]; exact hls _ (List.getElem_mem _)
  have hends : ∀ i : Nat, i < t → (0 ≤ (gt ms (gt ls i)).a ∧ (gt ms (gt ls i)).a < n) ∧ (0 ≤ (gt ms (gt ls i)).b ∧ (gt ms (gt ls i)).b < n) := fun i hi => ⟨hg.a _ (hli i hi).1 (by have := (hli i hi).2; omega), hg.b _ (hli i hi).1 (by have := (hli i hi).2; omega)⟩
  have hin : ∀ i : Nat, i < t → ((gt ms (gt ls i)).a, (gt ms (gt ls i)).b) ∈ es ms ls := fun i hi => List.mem_map_of_mem (f := pr ms) (gt_in (ms := ls) (i := (i : Int)) (by omega))
  refine enterD2 Try.func50 rfl Try.ntmps50 rfl ?_
  refine TD_seq ?_
  refine TD_region ?_
  (refine RD_boxA rfl rfl rfl ?_; intro b2; refine ⟨okF, ?_⟩)
  refine RD_freezeB .here ?_
  repeat (refine wXh ?_)
  (refine RD_vals (cs := recs (eI .i64) []) ([]) rfl rfl (by intro v hv; repeat (first | exact absurd hv (List.not_mem_nil) | (rcases List.mem_cons.1 hv with rfl | hv; · rfl))) (by omega) rfl rfl rfl ?_; intro b5; refine ⟨okF, ?_⟩; refine RD_toRow (mm := 0) 1 .here rfl (by omega) ?_)
  repeat (refine wXh ?_)
  refine TD_loop [1, 2] rfl (fun k G M I => ∃ (i : Nat) (q : Option Addr) (c' : Nat) (xs : List Int), i ≤ n ∧ k = n - i ∧ xs = rg i ∧ G = [(5, .slice q xs.length c'), (6, .int .i64 i)] ∧ M = .row q xs.length c' (recs (eI .i64) xs) 3 1 :: M0 ∧ I = slI (some ⟨b2, 0, none⟩) [.int .i64 n, .slice p m c] :: I0) (n) _ _ _ subG subF incF (⟨0, some ⟨b5, 0, none⟩, 0, [], by omega, rfl, rfl, rfl, rfl, rfl⟩) ?_
  rintro kk G M I ⟨i, a, c', xs, hi, rfl, hxs, rfl, rfl, rfl⟩
  have hxl : xs.length = i := by rw [hxs, rg_len]
  by_cases him : i < n
  · repeat (refine wXh ?_)
    (refine RD_vals (cs := recs (eI .i64) [(i : Int)]) ([.int .i64 (i : Int)]) rfl rfl (by intro v hv; repeat (first | exact absurd hv (List.not_mem_nil) | (rcases List.mem_cons.1 hv with rfl | hv; · rfl))) (by omega) rfl rfl rfl ?_; intro b4; refine ⟨okF, ?_⟩)
    (refine RD_appR (ys := [(i : Int)]) 1 rfl rfl rfl ?_ (by decide) rfl (by omega) (by omega) rfl rfl ?_; (· first | exact Src.blk memF | exact Src.row memF | exact Src.imm memF (by first | assumption | exact .inl (Ok.mk _ _))); intro a2 c2; refine ⟨okF, ?_⟩)
    repeat (refine wXh ?_)
    refine ND_again (n - (i + 1)) _ _ _ (by first | omega | (simp only [List.length_append, List.length_cons, List.length_nil]; omega)) subG subF incF (⟨i + 1, a2, c2, xs ++ [(i : Int)], by omega, rfl, by rw [rg_succ, hxs], rfl, rfl, rfl⟩)
  obtain rfl : i = n := by omega
  clear him hi
  rw [hxl, hxs]
  clear hxl hxs xs
  repeat (refine wXh ?_)
  refine TD_rowBlk (fun _ h _ => absurd h hn0) (fun b tl e hcc => ?_)
  subst e
  refine TD_loop [1, 2, 5, 26] rfl (fun k G M I => ∃ (r : Nat) (l : List Int), r ≤ i ∧ k = i - r ∧ l.length = i ∧ Lw i (es ms ls) (gt l) ∧ r ≤ cnt i (atL (es ms ls) (gt l)) ∧ G = [(27, .int .i64 r)] ∧ M = .blk b (recs (eI .i64) l ++ tl) 3 :: M0 ∧ I = slI (some ⟨b2, 0, none⟩) [.int .i64 i, .slice p m c] :: I0) (i) _ _ _ subG subF incF (⟨0, rg i, by omega, rfl, rg_len i, lw_rg hE, Nat.zero_le _, rfl, rfl, rfl⟩) ?_
  rintro kk G M I ⟨r, l, hr, rfl, hl, hlw, hcnt, rfl, rfl, rfl⟩
  by_cases hri : r < i
  · repeat (refine wXh ?_)
    refine TD_loop [1, 2, 5, 26, 27, 29, 30] rfl (fun k G M I => ∃ (j : Nat) (l' : List Int), j ≤ t ∧ k = t - j ∧ Lr i (es ms ls) l l' ms ls j ∧ G = [(31, .int .i64 j)] ∧ M = .blk b (recs (eI .i64) l' ++ tl) 3 :: M0 ∧ I = slI (some ⟨b2, 0, none⟩) [.int .i64 i, .slice p m c] :: I0) (t) _ _ _ subG subF incF (⟨0, l, by omega, rfl, Lr.start hl hlw, rfl, rfl, rfl⟩) ?_
    rintro kk G M I ⟨j, l', hj, rfl, hlr, rfl, rfl, rfl⟩
    have hl' := hlr.len
    by_cases hjt : j < t
    · have hjj := hli j hjt
      have hinj := hin j hjt
      obtain ⟨ra, rb⟩ := hends j hjt
      obtain ⟨x, hx⟩ : ∃ x, gt ls (j : Int) = x := ⟨_, rfl⟩
      obtain ⟨A, hA⟩ : ∃ A, (gt ms x).a = A := ⟨_, rfl⟩
      obtain ⟨D, hD⟩ : ∃ D, (gt ms x).b = D := ⟨_, rfl⟩
      have hstep := fun (l2 : List Int) h1 h2 => hlr.step (l2 := l2) (a := A) (b := D) (fun i hi => hends i (by omega)) (by rw [hx, hA]) (by rw [hx, hD]) (by rw [hx, hA, hD] at hinj; exact hinj) h1 h2
      rw [hx, hA] at ra
      rw [hx, hD] at rb
      rw [hx] at hjj
      repeat (refine wXh ?_)
      rw [hx]
      (repeat refine TD_seq ?_); refine TD_drawnJ 0 [0, 1, 2, 3, 4, 5, 6, 7, 8, 9, 10, 11, 12, 13] [0, 0, 0, 0, 0, 0, 0, 0, 0, 0, 0, 0, 0, 0] mixed (by kernel_rfl) ?_
      repeat (refine wXh ?_)
      rw [hA, hD]
      (repeat refine TD_seq ?_); refine TD_drawnJ 0 [0, 1, 2, 3, 4, 5, 6, 7, 8] [0, 0, 0, 0, 0, 0, 0, 0, 0] mixed (by kernel_rfl) ?_
      have hne : ∀ y : Int, gt l' A ≠ gt l' D → A ≠ D := fun y h e => h (by rw [e])
      rcases Int.lt_trichotomy (gt l' A) (gt l' D) with h1 | h1 | h1
      · have hAD := hne 0 (by omega)
        have g1 : gt (st l' D (gt l' A)) D = gt l' A := by rw [gt_st _ (by omega) rb.1, if_pos rfl]
        have g2 : gt (st l' D (gt l' A)) A = gt l' A := by rw [gt_st _ (by omega) ra.1, if_neg hAD]
        have hl2 : (st l' D (gt l' A)).length = i := by rw [st_len, hl']
        have hs2 := hstep (st l' D (gt l' A)) hl2 (fun y y0 yn => by
          rw [gt_st _ (by omega) y0]
          by_cases e1 : y = D
          · rw [if_pos e1, if_pos (.inr e1)]; omega
          · rw [if_neg e1]
            by_cases e2 : y = A
            · rw [if_pos (.inl e2), e2]; omega
            · rw [if_neg (by omega)])
        repeat (refine wXh ?_)
        (repeat refine TD_seq ?_); refine TD_drawnJ 0 [0, 1, 2, 3, 4, 5, 6, 7, 8] [0, 0, 0, 0, 0, 0, 0, 0, 0] mixed (by kernel_rfl) ?_
        repeat (refine wXh ?_)
        refine ND_again (t - (j + 1)) _ _ _ (by first | omega | (simp only [List.length_append, List.length_cons, List.length_nil]; omega)) subG subF incF (⟨j + 1, _, by omega, rfl, hs2, rfl, rfl, rfl⟩)
      · have hs2 := hstep l' hl' (fun y y0 yn => by
          by_cases e1 : y = A
          · rw [if_pos (.inl e1), e1]; omega
          · by_cases e2 : y = D
            · rw [if_pos (.inr e2), e2]; omega
            · rw [if_neg (by omega)])
        repeat (refine wXh ?_)
        (repeat refine TD_seq ?_); refine TD_drawnJ 0 [0, 1, 2, 3, 4, 5, 6, 7, 8] [0, 0, 0, 0, 0, 0, 0, 0, 0] mixed (by kernel_rfl) ?_
        repeat (refine wXh ?_)
        refine ND_again (t - (j + 1)) _ _ _ (by first | omega | (simp only [List.length_append, List.length_cons, List.length_nil]; omega)) subG subF incF (⟨j + 1, _, by omega, rfl, hs2, rfl, rfl, rfl⟩)
      · have hAD := hne 0 (by omega)
        have hl2 : (st l' A (gt l' D)).length = i := by rw [st_len, hl']
        have hs2 := hstep (st l' A (gt l' D)) hl2 (fun y y0 yn => by
          rw [gt_st _ (by omega) y0]
          by_cases e1 : y = A
          · rw [if_pos e1, if_pos (.inl e1)]; omega
          · rw [if_neg e1]
            by_cases e2 : y = D
            · rw [if_pos (.inr e2), e2]; omega
            · rw [if_neg (by omega)])
        repeat (refine wXh ?_)
        (repeat refine TD_seq ?_); refine TD_drawnJ 0 [0, 1, 2, 3, 4, 5, 6, 7, 8] [0, 0, 0, 0, 0, 0, 0, 0, 0] mixed (by kernel_rfl) ?_
        repeat (refine wXh ?_)
        refine ND_again (t - (j + 1)) _ _ _ (by first | omega | (simp only [List.length_append, List.length_cons, List.length_nil]; omega)) subG subF incF (⟨j + 1, _, by omega, rfl, hs2, rfl, rfl, rfl⟩)
    · have hlr2 := hlr
      rw [show j = ls.length by omega] at hlr2
      have hd := Lr.done hE hlw hlr2 hri hcnt
      repeat (refine wXh ?_)
      refine ND_again (i - (r + 1)) _ _ _ (by first | omega | (simp only [List.length_append, List.length_cons, List.length_nil]; omega)) subG subF incF (⟨r + 1, l', by omega, rfl, hl', hlr.lw, hd, rfl, rfl, rfl⟩)
  obtain rfl : r = i := by omega
  have hfull := Lw.full hcnt
  clear hcnt hlw hri hr hin hends hli
  repeat (refine wXh ?_)
  (refine RD_vals (cs := recs (eI .i64) []) ([]) rfl rfl (by intro v hv; repeat (first | exact absurd hv (List.not_mem_nil) | (rcases List.mem_cons.1 hv with rfl | hv; · rfl))) (by omega) rfl rfl rfl ?_; intro b6; refine ⟨okF, ?_⟩; refine RD_toRow (mm := 0) 1 .here rfl (by omega) ?_)
  repeat (refine wXh ?_)
  refine TD_loop [2, 5] rfl (fun k G M I => ∃ (y : Nat) (q2 : Option Addr) (c2 : Nat) (xs : List Int) (z : Int), y ≤ r ∧ k = r - y ∧ xs = (rg y).map (lb (lo (es ms ls))) ∧ z = (cnt y (fun x => decide (lo (es ms ls) x = x)) : Nat) ∧ G = [(11, .slice q2 xs.length c2), (12, .int .i64 z), (13, .int .i64 y)] ∧ M = .row q2 xs.length c2 (recs (eI .i64) xs) 3 1 :: .blk b (recs (eI .i64) l ++ tl) 3 :: M0 ∧ I = slI (some ⟨b2, 0, none⟩) [.int .i64 r, .slice p m c] :: I0) (r) _ _ _ subG subF incF (⟨0, some ⟨b6, 0, none⟩, 0, [], 0, by omega, rfl, rfl, rfl, rfl, rfl, rfl⟩) ?_
  rintro kk G M I ⟨y, q2, c2, xs, z, hy, rfl, hxs, hz, rfl, rfl, rfl⟩
  have hxl : xs.length = y := by rw [hxs, List.length_map, rg_len]
  by_cases hyr : y < r
  · have hcy := cnt_le y (fun x => decide (lo (es ms ls) x = x))
    have hc1 := cnt_succ y (fun x => decide (lo (es ms ls) x = x))
    have hly := hfull y (by omega) (by omega)
    by_cases hroot : lo (es ms ls) y = y
    · rw [if_pos (decide_eq_true hroot)] at hc1
      rw [hroot] at hly
      repeat (refine wXh ?_)
      (refine RD_vals (cs := recs (eI .i64) [z]) ([.int .i64 z]) rfl rfl (by intro v hv; repeat (first | exact absurd hv (List.not_mem_nil) | (rcases List.mem_cons.1 hv with rfl | hv; · rfl))) (by omega) rfl rfl rfl ?_; intro b7; refine ⟨okF, ?_⟩)
      (refine RD_appR (ys := [z]) 1 rfl rfl rfl ?_ (by decide) rfl (by omega) (by omega) rfl rfl ?_; (· first | exact Src.blk memF | exact Src.row memF | exact Src.imm memF (by first | assumption | exact .inl (Ok.mk _ _))); intro a3 c3; refine ⟨okF, ?_⟩)
      repeat (refine wXh ?_)
      refine ND_again (r - (y + 1)) _ _ _ (by first | omega | (simp only [List.length_append, List.length_cons, List.length_nil]; omega)) subG subF incF (⟨y + 1, a3, c3, xs ++ [z], z + 1, by omega, rfl, by rw [rg_succ, hxs, List.map_append, hz, List.map_singleton, lb, hroot]; rfl, by omega, rfl, rfl, rfl⟩)
    · rw [if_neg (by simpa using hroot)] at hc1
      have hle := lo_le (es ms ls) y
      have hrg := lo_rng hE (x := (y : Int)) (by omega)
      have hgx : gt xs (gt l y) = lb (lo (es ms ls)) y := by
        rw [hly, hxs, gt_map (by rw [rg_len]; omega), gt_rg (by omega), lb_root (lo_lo _ _)]
      repeat (refine wXh ?_)
      rw [hgx]
      (refine RD_vals (cs := recs (eI .i64) [lb (lo (es ms ls)) y]) ([.int .i64 (lb (lo (es ms ls)) y)]) rfl rfl (by intro v hv; repeat (first | exact absurd hv (List.not_mem_nil) | (rcases List.mem_cons.1 hv with rfl | hv; · rfl))) (by omega) rfl rfl rfl ?_; intro b7; refine ⟨okF, ?_⟩)
      (refine RD_appR (ys := [lb (lo (es ms ls)) y]) 1 rfl rfl rfl ?_ (by decide) rfl (by omega) (by omega) rfl rfl ?_; (· first | exact Src.blk memF | exact Src.row memF | exact Src.imm memF (by first | assumption | exact .inl (Ok.mk _ _))); intro a3 c3; refine ⟨okF, ?_⟩)
      repeat (refine wXh ?_)
      refine ND_again (r - (y + 1)) _ _ _ (by first | omega | (simp only [List.length_append, List.length_cons, List.length_nil]; omega)) subG subF incF (⟨y + 1, a3, c3, xs ++ [lb (lo (es ms ls)) y], z, by omega, rfl, by rw [rg_succ, hxs, List.map_append, List.map_singleton], by omega, rfl, rfl, rfl⟩)
  · obtain rfl : y = r := by omega
    repeat (refine wXh ?_)
    refine ND_freezeR remF ?_
    rw [hxl, hxs]
    refine ND_ret1 (by first | exact .inl rfl | exact .inr rfl) rfl rfl _ _ subF incF (⟨rfl, q2, c2, rfl, rfl⟩)
theorem rClasses_ok {p : Option Addr} {n : Nat} {ms : List LK} {m c : Nat} (hn : n ≤ 256) (hm : ms.length = m) (hm2 : m ≤ 1024) (hg : Gd ms n) (hp : slI p (recs eK ms) ∈ I0) :
    CD Try.prog 26 [gv n p m c] X w0 M0 I0 (fun v M I => M0 = M ∧ ∃ q' c', v = .slice q' n c' ∧ I = slI q' (recs (eI .i64) (labs n (lo (es ms (rg m))))) :: I0) := by
  refine enterD1 Try.func26 rfl Try.ntmps26 rfl ?_
  refine TD_seq ?_
  refine TD_region ?_
  (refine RD_boxA rfl rfl rfl ?_; intro b1; refine ⟨okF, ?_⟩)
  refine RD_freezeB .here ?_
  repeat (refine wXh ?_)
  (repeat refine TD_seq ?_); refine TD_drawnW (M0) (slI (some ⟨b1, 0, none⟩) [.int .i64 n, .slice p m c] :: I0) [0, 1, 2, 3, 4] [1, 1, 0, 0, 0] subF incF mixed (by kernel_rfl) ?_
  repeat (refine wXh ?_)
  (refine RD_callS rfl (every_ok hm2) rfl rfl ?_; rintro _ _ _ ⟨rfl, q, c', rfl, hc', rfl⟩; refine ⟨okF, ?_⟩)
  repeat (refine wXh ?_)
  (refine RD_callS rfl (Labels_ok (ls := rg m) hn hm hm2 hg (rg_len m) (by omega) (fun k hk => mem_rg.1 hk) memF memF) rfl rfl ?_; rintro _ _ _ ⟨rfl, q', c2, rfl, rfl⟩; refine ⟨okF, ?_⟩)
  repeat (refine wXh ?_)
  refine ND_ret1 (by first | exact .inl rfl | exact .inr rfl) rfl rfl _ _ subF incF (⟨rfl, q', c2, rfl, rfl⟩)
end
end Go.Proofs.Ytkhgglkkdnemlaa
namespace Go.Proofs.Ytkhgglkkdnemlaa
open Go Go.Fx
instance decCon (E : List (Int × Int)) (x y : Int) : Decidable (Con E x y) := decidable_of_iff (lo E x = lo E y) lo_iff
instance decFst : (E F : List (Int × Int)) → Decidable (Fst E F)
  | _, [] => .isTrue trivial
  | E, e :: F => have := decFst (E ++ [e]) F; inferInstanceAs (Decidable (_ ∧ _))
def inR (m : Nat) (tree : List Int) : Prop := ∀ k ∈ tree, 0 ≤ k ∧ k < m
instance (m : Nat) (tree : List Int) : Decidable (inR m tree) := inferInstanceAs (Decidable (∀ k ∈ tree, _))
def asc (tree : List Int) : Prop := tree.Pairwise (· < ·)
instance (tree : List Int) : Decidable (asc tree) := inferInstanceAs (Decidable (List.Pairwise _ _))
def fcode (ms : List LK) (tree : List Int) : Int := if ¬ inR ms.length tree then 2 else if ¬ asc tree then 5 else if ¬ Fst [] (es ms tree) then 11 else 0
theorem take_snoc {α : Type} [Inhabited α] {l : List α} {j : Nat} (h : j < l.length) : l.take (j + 1) = l.take j ++ [gt l (j : Int)] := by
  rw [List.take_succ_eq_append_getElem h, gt_get h]
theorem Fst.left {E F G : List (Int × Int)} (h : Fst E (F ++ G)) : Fst E F := by
  induction F generalizing E with
  | nil => trivial
  | cons d F ih => exact ⟨h.1, ih h.2⟩
theorem es_app (ms : List LK) (a b : List Int) : es ms (a ++ b) = es ms a ++ es ms b := by simp [es]
theorem asc_of {l : List Int} (h : ∀ i : Nat, 0 < i → i < l.length → gt l ((i : Int) - 1) < gt l i) : asc l := by
  induction l with
  | nil => exact List.Pairwise.nil
  | cons a r ih =>
    cases r with
    | nil => exact List.pairwise_singleton _ _
    | cons b r =>
      have h1 := ih (fun i h0 hi => by
        have := h (i + 1) (by omega) (by rw [List.length_cons]; omega)
        rw [show ((i + 1 : Nat) : Int) - 1 = ((i : Nat) : Int) by omega, gt_get (by rw [List.length_cons]; omega), gt_get (by rw [List.length_cons]; omega)] at this
        rw [gt_get hi, show (i : Int) - 1 = ((i - 1 : Nat) : Int) by omega, gt_get (by omega)]
        obtain ⟨j, rfl⟩ : ∃ j, i = j + 1 := ⟨i - 1, by omega⟩
        simpa using this)
      have h2 := h 1 (by omega) (by simp)
      have h2 : a < b := h2
      refine List.Pairwise.cons (fun x hx => ?_) h1
      rcases List.mem_cons.1 hx with e | e
      · omega
      · have := (List.pairwise_cons.1 h1).1 x e
        omega
theorem asc_at {l : List Int} (h : asc l) {i : Nat} (h0 : 0 < i) (hi : i < l.length) : gt l ((i : Int) - 1) < gt l i := by
  rw [gt_get hi, show (i : Int) - 1 = ((i - 1 : Nat) : Int) by omega, gt_get (by omega)]
  exact List.pairwise_iff_getElem.1 h _ _ (by omega) hi (by omega)
theorem fcode_2 {ms : List LK} {tree : List Int} {i : Nat} (hi : i < tree.length) (h : ¬ (0 ≤ gt tree i ∧ gt tree i < ms.length)) : fcode ms tree = 2 := if_pos (fun hr => h (hr _ (gt_in ⟨by omega, by omega⟩)))
theorem inR_of {m : Nat} {tree : List Int} (h : ∀ j : Nat, j < tree.length → 0 ≤ gt tree j ∧ gt tree j < m) : inR m tree := fun k hk => by
  obtain ⟨j, hj, rfl⟩ := List.mem_iff_getElem.1 hk
  have := h j hj
  rwa [gt_get hj] at this
theorem fcode_5 {ms : List LK} {tree : List Int} (hr : inR ms.length tree) {i : Nat} (h0 : 0 < i) (hi : i < tree.length) (h : gt tree i ≤ gt tree ((i : Int) - 1)) : fcode ms tree = 5 := by
  unfold fcode
  rw [if_neg (fun hn => hn hr), if_pos]
  intro ha
  have := asc_at ha h0 hi
  omega
theorem fcode_11 {ms : List LK} {tree : List Int} (hr : inR ms.length tree) (ha : asc tree) {i : Nat} (hi : i < tree.length) (h : Con (es ms (tree.take i)) (gt ms (gt tree i)).a (gt ms (gt tree i)).b) : fcode ms tree = 11 := by
  unfold fcode
  rw [if_neg (fun hn => hn hr), if_neg (fun hn => hn ha), if_pos]
  intro hf
  rw [← List.take_append_drop (i + 1) tree, es_app] at hf
  have h1 := hf.left
  rw [take_snoc hi, es_snoc] at h1
  exact (Fst.snoc.1 h1).2 h
theorem fcode_0 {ms : List LK} {tree : List Int} (hr : inR ms.length tree) (ha : asc tree) (hf : Fst [] (es ms tree)) : fcode ms tree = 0 := by
  unfold fcode
  rw [if_neg (fun hn => hn hr), if_neg (fun hn => hn ha), if_neg (fun hn => hn hf)]
theorem fcode_ok {ms : List LK} {tree : List Int} (h : fcode ms tree = 0) : inR ms.length tree ∧ asc tree ∧ Fst [] (es ms tree) := by
  unfold fcode at h
  split at h
  · omega
  · split at h
    · omega
    · split at h
      · omega
      · rename_i h1 h2 h3
        exact ⟨Decidable.of_not_not h1, Decidable.of_not_not h2, Decidable.of_not_not h3⟩
theorem fst_next {ms : List LK} {tree : List Int} {i : Nat} (hi : i < tree.length) (hf : Fst [] (es ms (tree.take i))) (h : ¬ Con (es ms (tree.take i)) (gt ms (gt tree i)).a (gt ms (gt tree i)).b) : Fst [] (es ms (tree.take (i + 1))) := by
  rw [take_snoc hi, es_snoc]
  exact Fst.snoc.2 ⟨hf, h⟩
/-- spanning -/
def spn (ms : List LK) (tree : List Int) : Prop := ∀ l ∈ ms, lo (es ms tree) l.a = lo (es ms tree) l.b
instance (ms : List LK) (tree : List Int) : Decidable (spn ms tree) := inferInstanceAs (Decidable (∀ l ∈ ms, _))
theorem spn_iff {ms : List LK} {tree : List Int} (hr : inR ms.length tree) : spn ms tree ↔ ∀ x y, Con (es ms tree) x y ↔ Con (es ms (rg ms.length)) x y := by
  constructor
  · intro h x y
    refine ⟨fun hc => hc.sub (es_mem (fun k hk => mem_rg.2 (hr k hk))), fun hc => hc.mono (fun e he => ?_)⟩
    obtain ⟨k, hk, rfl⟩ := List.mem_map.1 he
    exact lo_iff.1 (h _ (gt_in (mem_rg.1 hk)))
  · intro h l hl
    obtain ⟨j, hj, rfl⟩ := List.mem_iff_getElem.1 hl
    refine lo_iff.2 ((h _ _).2 (.link ?_))
    have : pr ms (j : Int) ∈ es ms (rg ms.length) := List.mem_map_of_mem (mem_rg.2 ⟨by omega, by omega⟩)
    unfold pr at this
    rwa [gt_get hj] at this
theorem spn_labs {ms : List LK} {tree : List Int} {n : Nat} (hg : Gd ms n) (hr : inR ms.length tree) : spn ms tree ↔ labs n (lo (es ms tree)) = labs n (lo (es ms (rg ms.length))) := by
  have hE := hg.nds hr
  have hE2 := hg.nds (l := rg ms.length) (fun k hk => mem_rg.1 hk)
  constructor
  · intro h
    rw [show lo (es ms tree) = lo (es ms (rg ms.length)) from funext (lo_congr ((spn_iff hr).1 h))]
  · intro h l hl
    obtain ⟨j, hj, rfl⟩ := List.mem_iff_getElem.1 hl
    have ha := hg.a (j : Int) (by omega) (by omega)
    have hb := hg.b (j : Int) (by omega) (by omega)
    have hp : pr ms (j : Int) ∈ es ms (rg ms.length) := List.mem_map_of_mem (mem_rg.2 ⟨by omega, by omega⟩)
    have h1 := (labs_iff hE2 ha hb).2 (.link hp)
    rw [← h] at h1
    have := (labs_iff hE ha hb).1 h1
    rw [gt_get hj] at this
    exact lo_iff.2 this
/-- sums of weights -/
def wsum (ms : List LK) (l : List Int) : Int := sumI (l.map (wt ms))
theorem sumI_snoc (l : List Int) (x : Int) : sumI (l ++ [x]) = sumI l + x := by
  induction l with
  | nil => simp [sumI]
  | cons y l ih => rw [List.cons_append, sumI, sumI, ih]; omega
end Go.Proofs.Ytkhgglkkdnemlaa
namespace Go.Proofs.Ytkhgglkkdnemlaa
open Go Go.Fx
section
variable {X : List Nat} {w0 : World} {M0 : List Ent} {I0 : List Imm}
set_option maxRecDepth 100000 in
set_option maxHeartbeats 1000000 in
theorem rSpanning_ok {p q : Option Addr} {n : Nat} {ms : List LK} {ls : List Int} {m c t ct : Nat} (hn : n ≤ 256) (hm : ms.length = m) (hm2 : m ≤ 1024) (hg : Gd ms n) (ht : ls.length = t) (ht2 : t ≤ 100000) (hls : inR m ls) (hp : slI p (recs eK ms) ∈ I0) (hq : slI q (recs (eI .i64) ls) ∈ I0) :
    CD Try.prog 29 [gv n p m c, .slice q t ct] X w0 M0 I0 (fun v M I => M0 = M ∧ I0 = I ∧ v = .bool (B (spn ms ls))) := by
  have hspn := spn_labs (tree := ls) hg (by rw [hm]; exact hls)
  rw [hm] at hspn
  refine enterD2 Try.func29 rfl Try.ntmps29 rfl ?_
  refine TD_seq ?_
  refine TD_region ?_
  (refine RD_boxA rfl rfl rfl ?_; intro b2; refine ⟨okF, ?_⟩)
  refine RD_freezeB .here ?_
  repeat (refine wXh ?_)
  (repeat refine TD_seq ?_); refine TD_drawnW (M0) (slI (some ⟨b2, 0, none⟩) [.int .i64 n, .slice p m c] :: I0) [0, 1, 3, 2, 4, 5, 6] [1, 1, 1, 0, 0, 0, 0] subF incF mixed (by kernel_rfl) ?_
  repeat (refine wXh ?_)
  (refine RD_callS rfl (Labels_ok (ls := ls) hn hm hm2 hg ht ht2 hls memF memF) rfl rfl ?_; rintro _ _ _ ⟨rfl, q1, c1, rfl, rfl⟩; refine ⟨okF, ?_⟩)
  repeat (refine wXh ?_)
  (refine RD_callS rfl (rClasses_ok hn hm hm2 hg memF) rfl rfl ?_; rintro _ _ _ ⟨rfl, q2, c2, rfl, rfl⟩; refine ⟨okF, ?_⟩)
  have l1 := labs_len n (lo (es ms ls))
  have l2 := labs_len n (lo (es ms (rg m)))
  generalize hA : labs n (lo (es ms ls)) = A at *
  generalize hD : labs n (lo (es ms (rg m))) = D at *
  repeat (refine wXh ?_)
  refine TD_loop [5, 6, 14] rfl (fun k G M I => ∃ i : Nat, i ≤ n ∧ k = n - i ∧ (∀ j : Nat, j < i → gt A j = gt D j) ∧ G = [(15, .int .i64 i)] ∧ M0 = M ∧ I = slI q2 (recs (eI .i64) D) :: slI q1 (recs (eI .i64) A) :: I0) (n) _ _ _ subG subF incF (⟨0, by omega, rfl, fun j hj => by omega, rfl, rfl, rfl⟩) ?_
  rintro kk G M I ⟨i, hi, rfl, hs, rfl, rfl, rfl⟩
  by_cases hin : i < n
  · by_cases he : gt A i = gt D i
    · repeat (refine wXh ?_)
      (repeat refine TD_seq ?_); refine TD_drawnJ 0 [0, 1, 2, 3, 4, 5, 6, 7, 8] [0, 0, 0, 0, 0, 0, 0, 0, 0] mixed (by kernel_rfl) ?_
      repeat (refine wXh ?_)
      refine ND_again (n - (i + 1)) _ _ _ (by first | omega | (simp only [List.length_append, List.length_cons, List.length_nil]; omega)) subG subF incF (⟨i + 1, by omega, rfl, fun j hj => ?_, rfl, rfl, rfl⟩)
      by_cases e : j = i
      · subst e; exact he
      · exact hs j (by omega)
    · repeat (refine wXh ?_)
      (repeat refine TD_seq ?_); refine TD_drawnJ 0 [0, 1, 2, 3, 4, 5, 6, 7, 8] [0, 0, 0, 0, 0, 0, 0, 0, 0] mixed (by kernel_rfl) ?_
      repeat (refine wXh ?_)
      refine ND_ret1 (by first | exact .inl rfl | exact .inr rfl) rfl rfl _ _ subF incF (⟨rfl, rfl, congrArg Value.bool (B_false (fun h => he (by rw [hspn.1 h]))).symm⟩)
  · repeat (refine wXh ?_)
    refine ND_ret1 (by first | exact .inl rfl | exact .inr rfl) rfl rfl _ _ subF incF (⟨rfl, rfl, congrArg Value.bool (B_true (hspn.2 (list_eq_of_gt (by omega) (fun j hj => hs j (by omega))))).symm⟩)
end
end Go.Proofs.Ytkhgglkkdnemlaa

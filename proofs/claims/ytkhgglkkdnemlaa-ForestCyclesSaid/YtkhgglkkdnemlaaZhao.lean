/- Plain: numbers that are lowered in place. Forest: the program's relaxed. Forest: the program's Shortest, Potentials, Tree. Plain: the chapter's examples. -/
import Derived.Test.YtkhgglkkdnemlaaZhan
import Derived.Test.YtkhgglkkdnemlaaZhai
set_option linter.unusedSimpArgs false
set_option linter.unusedVariables false
namespace Go.Proofs.Ytkhgglkkdnemlaa
open Go Go.Fx
/-- the numbers of the nodes that are known -/
def OD (d : List Int) (k : List Bool) (v : Int) : Option Int := if 0 ≤ v ∧ gt k v = true then some (gt d v) else none
theorem OD_some {d : List Int} {k : List Bool} {v x : Int} : OD d k v = some x ↔ (0 ≤ v ∧ gt k v = true) ∧ gt d v = x := by
  unfold OD
  split
  · rename_i h; simp [h]
  · rename_i h
    exact ⟨fun e => by simp at e, fun e => absurd e.1 h⟩
def hasFix (ms : List LK) (S : Int → Prop) : Prop := ∃ F, Fix ms S F
/-- within a round -/
structure Rx (ms : List LK) (n : Nat) (S : Int → Prop) (T : Nat) (d0 : List Int) (k0 : List Bool) (i : Nat) (d : List Int) (k : List Bool) (ch : Bool) : Prop where
  ld : d.length = n
  lk : k.length = n
  snd : Snd ms S (T + i) (OD d k)
  dec : ∀ v x, OD d0 k0 v = some x → ∃ y, OD d k v = some y ∧ y ≤ x
  prog : ∀ j : Int, 0 ≤ j → j < i → ∀ x, OD d0 k0 (gt ms j).a = some x → ∃ y, OD d k (gt ms j).b = some y ∧ y ≤ x + wt ms j
  zero : ∀ v : Int, 0 ≤ v → v < n → gt k v = false → gt d v = 0
  keep : ch = false → d = d0 ∧ k = k0
  lw : ch = true → ∃ v : Int, 0 ≤ v ∧ v < n ∧ ∃ y, OD d k v = some y ∧ ∀ x, OD d0 k0 v = some x → y < x
theorem Rx.skip {ms : List LK} {n T i : Nat} {S : Int → Prop} {d0 d : List Int} {k0 k : List Bool} {ch : Bool} (h : Rx ms n S T d0 k0 i d k ch) (hs : ∀ x, OD d k (gt ms (i : Int)).a = some x → ∃ y, OD d k (gt ms (i : Int)).b = some y ∧ y ≤ x + wt ms i) : Rx ms n S T d0 k0 (i + 1) d k ch :=
  ⟨h.ld, h.lk, fun v x e => by
    obtain ⟨j, h1, h2⟩ := h.snd v x e
    exact ⟨j, by omega, h2⟩, h.dec, fun j j0 hj x e => by
    by_cases e2 : j = (i : Int)
    · subst e2
      obtain ⟨y, h1, h2⟩ := h.dec _ x e
      obtain ⟨z, h3, h4⟩ := hs y h1
      exact ⟨z, h3, by omega⟩
    · exact h.prog j j0 (by omega) x e, h.zero, h.keep, h.lw⟩
theorem Rx.put {ms : List LK} {n T i : Nat} {S : Int → Prop} {d0 d : List Int} {k0 k : List Bool} {ch : Bool} (hg : Gd ms n) (hi : i < ms.length) (h : Rx ms n S T d0 k0 i d k ch) {A Z : Int} (hA : (gt ms (i : Int)).a = A) (hZ : (gt ms (i : Int)).b = Z) (hka : gt k A = true) (hl : gt k Z = true → gt d A + wt ms i < gt d Z) :
    Rx ms n S T d0 k0 (i + 1) (st d Z (gt d A + wt ms i)) (st k Z true) true := by
  have hzr := hg.b (i : Int) (by omega) (by omega)
  rw [hZ] at hzr
  have har := hg.a (i : Int) (by omega) (by omega)
  rw [hA] at har
  have hd : ∀ v : Int, 0 ≤ v → gt (st d Z (gt d A + wt ms i)) v = if v = Z then gt d A + wt ms i else gt d v := fun v h0 => gt_st _ (by rw [h.ld]; exact hzr) h0
  have hk : ∀ v : Int, 0 ≤ v → gt (st k Z true) v = if v = Z then true else gt k v := fun v h0 => gt_st _ (by rw [h.lk]; exact hzr) h0
  have hOD : ∀ v : Int, OD (st d Z (gt d A + wt ms i)) (st k Z true) v = if v = Z then some (gt d A + wt ms i) else OD d k v := fun v => by
    by_cases h0 : 0 ≤ v
    · unfold OD
      rw [hd v h0, hk v h0]
      by_cases e : v = Z
      · rw [if_pos e, if_pos e, if_pos e, if_pos ⟨h0, rfl⟩]
      · rw [if_neg e, if_neg e, if_neg e]
    · rw [if_neg (fun e => h0 (by rw [e]; exact hzr.1))]
      unfold OD
      rw [if_neg (fun e => h0 e.1), if_neg (fun e => h0 e.1)]
  have hle : ∀ x, OD d k Z = some x → gt d A + wt ms i < x := fun x e => by
    obtain ⟨h1, h2⟩ := OD_some.1 e
    have := hl h1.2
    omega
  have dec1 : ∀ v x, OD d k v = some x → ∃ y, OD (st d Z (gt d A + wt ms i)) (st k Z true) v = some y ∧ y ≤ x := fun v x e => by
    rw [hOD v]
    by_cases e2 : v = Z
    · rw [if_pos e2]
      subst e2
      have := hle x e
      exact ⟨_, rfl, by omega⟩
    · rw [if_neg e2]
      exact ⟨x, e, Int.le_refl _⟩
  have hOA : OD d k A = some (gt d A) := OD_some.2 ⟨⟨har.1, hka⟩, rfl⟩
  refine ⟨by rw [st_len, h.ld], by rw [st_len, h.lk], fun v x e => ?_, fun v x e => ?_, fun j j0 hj x e => ?_, fun v h0 hv e => ?_, fun e => by simp at e, fun _ => ⟨Z, hzr.1, hzr.2, gt d A + wt ms i, by rw [hOD Z, if_pos rfl], fun x e => ?_⟩⟩
  · rw [hOD v] at e
    by_cases e2 : v = Z
    · rw [if_pos e2] at e
      simp only [Option.some.injEq] at e
      subst e2
      subst e
      obtain ⟨j, h1, h2⟩ := h.snd _ _ hOA
      have h3 := Wk.step h2 (Int.natCast_nonneg i) (by omega) hA
      rw [hZ] at h3
      exact ⟨_, by omega, h3⟩
    · rw [if_neg e2] at e
      obtain ⟨j, h1, h2⟩ := h.snd v x e
      exact ⟨j, by omega, h2⟩
  · obtain ⟨y, h1, h2⟩ := h.dec v x e
    obtain ⟨z, h3, h4⟩ := dec1 v y h1
    exact ⟨z, h3, by omega⟩
  · by_cases e2 : j = (i : Int)
    · subst e2
      rw [hA] at e
      obtain ⟨y, h1, h2⟩ := h.dec _ x e
      obtain ⟨h3, h4⟩ := OD_some.1 h1
      rw [hZ, hOD Z, if_pos rfl]
      exact ⟨_, rfl, by omega⟩
    · obtain ⟨y, h1, h2⟩ := h.prog j j0 (by omega) x e
      obtain ⟨z, h3, h4⟩ := dec1 _ y h1
      exact ⟨z, h3, by omega⟩
  · rw [hk v h0] at e
    rw [hd v h0]
    by_cases e2 : v = Z
    · rw [if_pos e2] at e; simp at e
    · rw [if_neg e2] at e ⊢
      exact h.zero v h0 hv e
  · obtain ⟨y, h1, h2⟩ := h.dec _ x e
    have := hle y h1
    omega
/-- after so many rounds -/
structure Ro (ms : List LK) (n : Nat) (S : Int → Prop) (t : Nat) (d : List Int) (k : List Bool) : Prop where
  ld : d.length = n
  lk : k.length = n
  snd : Snd ms S (t * ms.length) (OD d k)
  src : Src S (OD d k)
  zero : ∀ v : Int, 0 ≤ v → v < n → gt k v = false → gt d v = 0
  good : ∀ F, Fix ms S F → min t n ≤ cnt n (gdF F (OD d k))
theorem Ro.start {ms : List LK} {n t : Nat} {S : Int → Prop} {d : List Int} {k : List Bool} (h : Ro ms n S t d k) : Rx ms n S (t * ms.length) d k 0 d k false :=
  ⟨h.ld, h.lk, h.snd, fun v x e => ⟨x, e, Int.le_refl _⟩, fun j j0 hj => by omega, h.zero, fun _ => ⟨rfl, rfl⟩, fun e => by simp at e⟩
theorem Rx.rnd {ms : List LK} {n T : Nat} {S : Int → Prop} {d0 d : List Int} {k0 k : List Bool} {ch : Bool} (h : Rx ms n S T d0 k0 ms.length d k ch) : Rnd ms (OD d0 k0) (OD d k) := ⟨h.dec, fun i h0 hi x e => h.prog i h0 hi x e⟩
theorem Ro.next {ms : List LK} {n t : Nat} {S : Int → Prop} {d0 d : List Int} {k0 k : List Bool} {ch : Bool} (hg : Gd ms n) (h : Ro ms n S t d0 k0) (hx : Rx ms n S (t * ms.length) d0 k0 ms.length d k ch) : Ro ms n S (t + 1) d k :=
  ⟨hx.ld, hx.lk, by rw [Nat.succ_mul]; exact hx.snd, hx.rnd.src h.src, hx.zero, fun F hF => by
    have := fix_grow hg hF h.snd hx.snd h.src hx.rnd (t := min t n) (by omega) (h.good F hF)
    omega⟩
theorem Ro.fix {ms : List LK} {n t : Nat} {S : Int → Prop} {d0 d : List Int} {k0 k : List Bool} (hg : Gd ms n) (h : Ro ms n S t d0 k0) (hx : Rx ms n S (t * ms.length) d0 k0 ms.length d k false) : Fix ms S (OD d k) := by
  obtain ⟨rfl, rfl⟩ := hx.keep rfl
  exact fix_of hg h.snd h.src hx.rnd (fun v _ _ => rfl)
theorem Ro.none {ms : List LK} {n t : Nat} {S : Int → Prop} {d0 d : List Int} {k0 k : List Bool} (h : Ro ms n S t d0 k0) (ht : n ≤ t) (hx : Rx ms n S (t * ms.length) d0 k0 ms.length d k true) : ¬ hasFix ms S := by
  rintro ⟨F, hF⟩
  have hc := h.good F hF
  obtain ⟨v, h0, hv, y, h1, h2⟩ := hx.lw rfl
  have h3 := fix_full (F := F) (D := OD d0 k0) (n := n) (by omega) v h0 hv
  obtain ⟨j, _, h4⟩ := hx.snd v y h1
  obtain ⟨z, h5, h6⟩ := hF.le h4
  rw [h5] at h3
  have := h2 z h3
  omega
theorem Rx.bound {ms : List LK} {n T i : Nat} {S : Int → Prop} {d0 d : List Int} {k0 k : List Bool} {ch : Bool} (hg : Gd ms n) (h : Rx ms n S T d0 k0 i d k ch) {v : Int} (h0 : 0 ≤ v) (hv : v < n) : (gt d v).natAbs ≤ (T + i) * 1073741824 := by
  cases e : gt k v
  · rw [h.zero v h0 hv e]; simp
  · obtain ⟨j, h1, h2⟩ := h.snd v (gt d v) (OD_some.2 ⟨⟨h0, e⟩, rfl⟩)
    have := h2.bound hg
    exact Nat.le_trans this (Nat.mul_le_mul_right _ h1)
theorem Ro.init {ms : List LK} {n : Nat} {S : Int → Prop} {d : List Int} {k : List Bool} (h1 : d.length = n) (h2 : k.length = n) (hS : ∀ s, S s → 0 ≤ s ∧ s < n) (h3 : ∀ v : Int, 0 ≤ v → v < n → gt d v = 0) (h4 : ∀ v : Int, 0 ≤ v → v < n → (gt k v = true ↔ S v)) : Ro ms n S 0 d k :=
  ⟨h1, h2, fun v x e => by
    obtain ⟨⟨h0, hk⟩, hd⟩ := OD_some.1 e
    have hv : v < n := by
      apply Classical.byContradiction
      intro hn
      have : gt k v = false := by
        unfold gt
        rw [List.getD_eq_getElem?_getD, List.getElem?_eq_none (by omega)]; rfl
      rw [this] at hk; simp at hk
    rw [h3 v h0 hv] at hd
    subst hd
    exact ⟨0, by omega, .src ((h4 v h0 hv).1 hk)⟩, fun s hs => by
    obtain ⟨h0, hv⟩ := hS s hs
    exact ⟨gt d s, OD_some.2 ⟨⟨h0, (h4 s h0 hv).2 hs⟩, rfl⟩, by rw [h3 s h0 hv]; exact Int.le_refl _⟩, fun v h0 hv _ => h3 v h0 hv, fun F _ => by omega⟩
end Go.Proofs.Ytkhgglkkdnemlaa
namespace Go.Proofs.Ytkhgglkkdnemlaa
open Go Go.Fx
section
variable {X : List Nat} {w0 : World} {M0 : List Ent} {I0 : List Imm}
set_option maxRecDepth 100000 in
set_option maxHeartbeats 2000000 in
theorem relaxed_ok {p : Option Addr} {n m c b1 b2 c1 c2 : Nat} {ms : List LK} {S : Int → Prop} {d : List Int} {kn : List Bool} (hn : n ≤ 256) (hm : ms.length = m) (hm2 : m ≤ 1024) (hg : Gd ms n) (hr : Ro ms n S 0 d kn) (hp : slI p (recs eK ms) ∈ I0) :
    CD Try.prog 52 [gv n p m c, .slice (some ⟨b1, 0, none⟩) n c1, .slice (some ⟨b2, 0, none⟩) n c2] X w0 (.blk b1 (recs (eI .i64) d) 3 :: .blk b2 (recs eB kn) 4 :: M0) I0
      (fun v M I => I0 = I ∧ ∃ (r : Bool) (d' : List Int) (kn' : List Bool), v = .bool r ∧ (r = true → Fix ms S (OD d' kn')) ∧ (r = false → ¬ hasFix ms S) ∧ d'.length = n ∧ kn'.length = n ∧ (∀ v : Int, 0 ≤ v → v < n → gt kn' v = false → gt d' v = 0) ∧
        M = .blk b1 (recs (eI .i64) d') 3 :: .blk b2 (recs eB kn') 4 :: M0) := by
  refine enterD3 Try.func52 rfl Try.ntmps52 rfl ?_
  refine TD_seq ?_
  refine TD_region ?_
  (refine RD_boxA rfl rfl rfl ?_; intro b3; refine ⟨okF, ?_⟩)
  refine RD_freezeB .here ?_
  repeat (refine wXh ?_)
  refine TD_loop [1, 2, 3, 13] rfl (fun k G M I => ∃ (t : Nat) (d : List Int) (kn : List Bool), t ≤ n + 1 ∧ k = n + 1 - t ∧ Ro ms n S t d kn ∧ (t = n + 1 → ¬ hasFix ms S) ∧ G = [(14, .int .i64 t)] ∧ M = .blk b1 (recs (eI .i64) d) 3 :: .blk b2 (recs eB kn) 4 :: M0 ∧ I = slI (some ⟨b3, 0, none⟩) [.int .i64 n, .slice p m c] :: I0) (n + 1) _ _ _ subG subF incF (⟨0, d, kn, by omega, rfl, hr, fun h => by omega, rfl, rfl, rfl⟩) ?_
  clear hr d kn
  rintro kk G M I ⟨t, d0, k0, ht, rfl, hr, hno, rfl, rfl, rfl⟩
  by_cases htn : t < n + 1
  · have hst := hr.start
    repeat (refine wXh ?_)
    refine TD_loop [1, 2, 3, 13, 14, 17, 18] rfl (fun k G M I => ∃ (i : Nat) (d : List Int) (kn : List Bool) (ch : Bool), i ≤ m ∧ k = m - i ∧ Rx ms n S (t * ms.length) d0 k0 i d kn ch ∧ G = [(7, .bool ch), (19, .int .i64 i)] ∧ M = .blk b1 (recs (eI .i64) d) 3 :: .blk b2 (recs eB kn) 4 :: M0 ∧ I = slI (some ⟨b3, 0, none⟩) [.int .i64 n, .slice p m c] :: I0) (m) _ _ _ subG subF incF (⟨0, d0, k0, false, by omega, rfl, hst, rfl, rfl, rfl⟩) ?_
    clear hst
    rintro kk G M I ⟨i, d, kn, ch, hi, rfl, hx, rfl, rfl, rfl⟩
    have hld := hx.ld
    have hlk := hx.lk
    by_cases him : i < m
    · have hA := hg.a (i : Int) (by omega) (by omega)
      have hB := hg.b (i : Int) (by omega) (by omega)
      have hW := hg.w (i : Int) (by omega) (by omega)
      have hbd := hx.bound hg hA.1 hA.2
      have hT : (t * ms.length + i) * 1073741824 ≤ (257 * 1024) * 1073741824 := Nat.mul_le_mul_right _ (by
        have : t * ms.length ≤ 256 * ms.length := Nat.mul_le_mul_right _ (by omega)
        omega)
      have hsk := hx.skip
      have hput := fun h1 h2 => hx.put hg (by omega) (A := (gt ms (i : Int)).a) (Z := (gt ms (i : Int)).b) rfl rfl h1 h2
      unfold wt at hW hsk hput
      by_cases hka : gt kn (gt ms (i : Int)).a = true
      · by_cases hkz : gt kn (gt ms (i : Int)).b = true
        · by_cases hlt : gt d (gt ms (i : Int)).a + (gt ms (i : Int)).w < gt d (gt ms (i : Int)).b
          · have hx2 := hput hka (fun _ => hlt)
            repeat (refine wXh ?_)
            (refine RD_alloc rfl rfl ?_; intro b9; refine ⟨okF, ?_⟩)
            repeat (refine wXh ?_)
            rw [hka]
            repeat (refine wXh ?_)
            (repeat refine TD_seq ?_); refine TD_drawnJ 0 [0, 1, 2, 3, 4, 5, 6, 7, 8] [0, 0, 0, 0, 0, 0, 0, 0, 0] mixed (by kernel_rfl) ?_
            repeat (refine wXh ?_)
            rw [hkz]
            repeat (refine wXh ?_)
            (repeat refine TD_seq ?_); refine TD_drawnW (.blk b9 (eK (gt ms (i : Int))) 39 :: M0) (slI (some ⟨b3, 0, none⟩) [.int .i64 n, .slice p m c] :: I0) [0, 1, 2, 3, 4, 5, 6, 7, 8, 9, 10, 11] [0, 0, 0, 1, 1, 1, 0, 0, 0, 0, 0, 0] subF incF mixed (by kernel_rfl) ?_
            repeat (refine wXh ?_)
            refine ND_again (m - (i + 1)) _ _ _ (by first | omega | (simp only [List.length_append, List.length_cons, List.length_nil]; omega)) subG subF incF (⟨i + 1, _, _, true, by omega, rfl, hx2, rfl, rfl, rfl⟩)
          · have hx2 := hsk (fun x e => by
              obtain ⟨h1, h2⟩ := OD_some.1 e
              exact ⟨gt d (gt ms (i : Int)).b, OD_some.2 ⟨⟨hB.1, hkz⟩, rfl⟩, by omega⟩)
            repeat (refine wXh ?_)
            (refine RD_alloc rfl rfl ?_; intro b9; refine ⟨okF, ?_⟩)
            repeat (refine wXh ?_)
            rw [hka]
            repeat (refine wXh ?_)
            (repeat refine TD_seq ?_); refine TD_drawnJ 0 [0, 1, 2, 3, 4, 5, 6, 7, 8] [0, 0, 0, 0, 0, 0, 0, 0, 0] mixed (by kernel_rfl) ?_
            repeat (refine wXh ?_)
            rw [hkz]
            repeat (refine wXh ?_)
            refine ND_again (m - (i + 1)) _ _ _ (by first | omega | (simp only [List.length_append, List.length_cons, List.length_nil]; omega)) subG subF incF (⟨i + 1, d, kn, ch, by omega, rfl, hx2, rfl, rfl, rfl⟩)
        · have hx2 := hput hka (fun h => absurd h hkz)
          have hkz2 : gt kn (gt ms (i : Int)).b = false := by simpa using hkz
          repeat (refine wXh ?_)
          (refine RD_alloc rfl rfl ?_; intro b9; refine ⟨okF, ?_⟩)
          repeat (refine wXh ?_)
          rw [hka]
          repeat (refine wXh ?_)
          (repeat refine TD_seq ?_); refine TD_drawnJ 0 [0, 1, 2, 3, 4, 5, 6, 7, 8] [0, 0, 0, 0, 0, 0, 0, 0, 0] mixed (by kernel_rfl) ?_
          repeat (refine wXh ?_)
          rw [hkz2]
          repeat (refine wXh ?_)
          (repeat refine TD_seq ?_); refine TD_drawnW (.blk b9 (eK (gt ms (i : Int))) 39 :: M0) (slI (some ⟨b3, 0, none⟩) [.int .i64 n, .slice p m c] :: I0) [0, 1, 2, 3, 4, 5, 6, 7, 8, 9, 10, 11] [0, 0, 0, 1, 1, 1, 0, 0, 0, 0, 0, 0] subF incF mixed (by kernel_rfl) ?_
          repeat (refine wXh ?_)
          refine ND_again (m - (i + 1)) _ _ _ (by first | omega | (simp only [List.length_append, List.length_cons, List.length_nil]; omega)) subG subF incF (⟨i + 1, _, _, true, by omega, rfl, hx2, rfl, rfl, rfl⟩)
      · have hx2 := hsk (fun x e => absurd (OD_some.1 e).1.2 hka)
        have hka2 : gt kn (gt ms (i : Int)).a = false := by simpa using hka
        repeat (refine wXh ?_)
        (refine RD_alloc rfl rfl ?_; intro b9; refine ⟨okF, ?_⟩)
        repeat (refine wXh ?_)
        rw [hka2]
        repeat (refine wXh ?_)
        refine ND_again (m - (i + 1)) _ _ _ (by first | omega | (simp only [List.length_append, List.length_cons, List.length_nil]; omega)) subG subF incF (⟨i + 1, d, kn, ch, by omega, rfl, hx2, rfl, rfl, rfl⟩)
    · obtain rfl : i = m := by omega
      have hx3 : Rx ms n S (t * ms.length) d0 k0 ms.length d kn ch := by
        have h := hx
        rw [← hm] at h
        exact h
      cases ch
      · have hf := hr.fix hg hx3
        repeat (refine wXh ?_)
        refine ND_ret1 (by first | exact .inl rfl | exact .inr rfl) rfl rfl _ _ subF incF (⟨rfl, true, d, kn, rfl, fun _ => hf, fun h => by simp at h, hld, hlk, hx.zero, rfl⟩)
      · have hnx := hr.next hg hx3
        have hnn : t + 1 = n + 1 → ¬ hasFix ms S := fun h => hr.none (by omega) hx3
        repeat (refine wXh ?_)
        refine ND_again (n + 1 - (t + 1)) _ _ _ (by first | omega | (simp only [List.length_append, List.length_cons, List.length_nil]; omega)) subG subF incF (⟨t + 1, d, kn, by omega, rfl, hnx, hnn, rfl, rfl, rfl⟩)
  · have hq := hno (by omega)
    repeat (refine wXh ?_)
    refine ND_ret1 (by first | exact .inl rfl | exact .inr rfl) rfl rfl _ _ subF incF (⟨rfl, false, d0, k0, rfl, fun h => by simp at h, fun _ => hq, hr.ld, hr.lk, hr.zero, rfl⟩)
end
end Go.Proofs.Ytkhgglkkdnemlaa
namespace Go.Proofs.Ytkhgglkkdnemlaa
open Go Go.Fx
theorem gt_rep {α : Type} [Inhabited α] {n : Nat} {x : α} {v : Int} (h : 0 ≤ v ∧ v < n) : gt (List.replicate n x) v = x := by
  obtain ⟨y, rfl⟩ : ∃ y : Nat, v = y := ⟨v.toNat, by omega⟩
  rw [gt_get (by rw [List.length_replicate]; omega)]
  simp
theorem Ro.one {ms : List LK} {n : Nat} {s : Int} (hs : 0 ≤ s ∧ s < n) : Ro ms n (fun v => v = s) 0 (List.replicate n 0) (st (List.replicate n false) s true) := by
  refine Ro.init List.length_replicate (by rw [st_len, List.length_replicate]) (fun v hv => by subst hv; exact hs) (fun v h0 hv => gt_rep ⟨h0, hv⟩) (fun v h0 hv => ?_)
  rw [gt_st _ (by rw [List.length_replicate]; exact hs) h0]
  by_cases e : v = s
  · simp [e]
  · rw [if_neg e, gt_rep ⟨h0, hv⟩]
    exact ⟨fun h => by simp at h, fun h => absurd h e⟩
theorem Ro.all {ms : List LK} {n : Nat} {k : List Bool} (hl : k.length = n) (hk : ∀ j : Nat, j < n → gt k j = true) : Ro ms n (fun v => 0 ≤ v ∧ v < (n : Int)) 0 (List.replicate n 0) k :=
  Ro.init List.length_replicate hl (fun v hv => hv) (fun v h0 hv => gt_rep ⟨h0, hv⟩) (fun v h0 hv => ⟨fun _ => ⟨h0, hv⟩, fun _ => by
    have := hk v.toNat (by omega)
    rwa [show ((v.toNat : Nat) : Int) = v by omega] at this⟩)
theorem gcode_gd {ms : List LK} {n : Nat} (hn : n ≤ 256) (hm2 : ms.length ≤ 1024) (hg : Gd ms n) : gcode n ms = 0 := gcode_all (by omega) (by omega) (fun j hj => by
  have h1 := hg.a j (by omega) (by omega)
  have h2 := hg.b j (by omega) (by omega)
  have h3 := hg.w j (by omega) (by omega)
  unfold wt at h3
  unfold lok
  omega)
theorem gd_gcode {ms : List LK} {N : Int} (h : gcode N ms = 0) : ∃ n : Nat, N = n ∧ n ≤ 256 ∧ ms.length ≤ 1024 ∧ Gd ms n := by
  unfold gcode at h
  split at h
  · omega
  · split at h
    · omega
    · split at h
      · rename_i h1 h2 h3
        refine ⟨N.toNat, by omega, by omega, by omega, fun k h0 hk => ?_, fun k h0 hk => ?_, fun k h0 hk => ?_⟩
        · have := (h3 _ (gt_in ⟨h0, hk⟩)).1; omega
        · have := (h3 _ (gt_in ⟨h0, hk⟩)).2.1; omega
        · have := (h3 _ (gt_in ⟨h0, hk⟩)).2.2; unfold wt; omega
      · omega
section
variable {X : List Nat} {w0 : World} {M0 : List Ent} {I0 : List Imm}
theorem gTree_ok {p : Option Addr} {n : Nat} {ms : List LK} {m c : Nat} (hn : n ≤ 12) (hm : ms.length = m) (hm2 : m < 40) (hg : Gd ms n) (hp : slI p (recs eK ms) ∈ I0) :
    CD Try.prog 14 [gv n p m c] X w0 M0 I0 (fun v M I => M0 = M ∧ ∃ q c', v = .tuple #[.slice q (kt ms).length c', .int .i64 0] ∧ (kt ms).length ≤ c' ∧ I = slI q (recs (eI .i64) (kt ms)) :: I0) := by
  have hC := fun M0 I0 h => gCheck_ok (X := X) (w0 := w0) (M0 := M0) (I0 := I0) (p := p) (N := n) (ms := ms) (c := c) hm (by omega) h
  rw [gcode_gd (by omega) (by omega) hg] at hC
  refine enterD1 Try.func14 rfl Try.ntmps14 rfl ?_
  refine TD_seq ?_
  refine TD_region ?_
  (refine RD_boxA rfl rfl rfl ?_; intro b1; refine ⟨okF, ?_⟩)
  refine RD_freezeB .here ?_
  repeat (refine wXh ?_)
  (refine RD_callS rfl (hC _ _ memF) rfl rfl ?_; rintro _ _ _ ⟨rfl, rfl, rfl⟩; refine ⟨okF, ?_⟩)
  repeat (refine wXh ?_)
  (refine RD_callS rfl (lightest_ok hn hm hm2 hg memF) rfl rfl ?_; rintro _ _ _ ⟨rfl, q, c', rfl, hc, rfl⟩; refine ⟨okF, ?_⟩)
  repeat (refine wXh ?_)
  refine ND_rets [2, 3] (by first | exact .inl rfl | exact .inr rfl) rfl rfl rfl _ _ subF incF (⟨rfl, q, c', rfl, hc, rfl⟩)
set_option maxRecDepth 100000 in
set_option maxHeartbeats 1000000 in
theorem Shortest_ok {p : Option Addr} {n : Nat} {ms : List LK} {m c : Nat} {s : Int} (hn : n ≤ 256) (hm : ms.length = m) (hm2 : m ≤ 1024) (hg : Gd ms n) (hs : 0 ≤ s ∧ s < n) (hf : hasFix ms (fun v => v = s)) (hp : slI p (recs eK ms) ∈ I0) :
    CD Try.prog 18 [gv n p m c, .int .i64 s] X w0 M0 I0 (fun v M I => M0 = M ∧ ∃ (d : List Int) (kn : List Bool) (q1 q2 : Option Addr) (c1 c2 : Nat), v = .tuple #[.slice q1 n c1, .slice q2 n c2, .int .i64 0] ∧ Fix ms (fun v => v = s) (OD d kn) ∧ d.length = n ∧ kn.length = n ∧ (∀ v : Int, 0 ≤ v → v < n → gt kn v = false → gt d v = 0) ∧ I = slI q1 (recs (eI .i64) d) :: slI q2 (recs eB kn) :: I0) := by
  have hC := fun M0 I0 h => gCheck_ok (X := X) (w0 := w0) (M0 := M0) (I0 := I0) (p := p) (N := n) (ms := ms) (c := c) hm (by omega) h
  rw [gcode_gd (by omega) (by omega) hg] at hC
  refine enterD2 Try.func18 rfl Try.ntmps18 rfl ?_
  refine TD_seq ?_
  refine TD_region ?_
  (refine RD_boxA rfl rfl rfl ?_; intro b2; refine ⟨okF, ?_⟩)
  refine RD_freezeB .here ?_
  repeat (refine wXh ?_)
  (refine RD_callS rfl (hC _ _ memF) rfl rfl ?_; rintro _ _ _ ⟨rfl, rfl, rfl⟩; refine ⟨okF, ?_⟩)
  repeat (refine wXh ?_)
  refine TD_cutT (fun G M I => ∃ b8 b9 : Nat, G = [(1, .int .i64 s), (2, .pointer (some ⟨b2, 0, none⟩)), (8, .slice (some ⟨b8, 0, none⟩) n n), (9, .slice (some ⟨b9, 0, none⟩) n n)] ∧ M = .blk b8 (recs (eI .i64) (List.replicate n 0)) 3 :: .blk b9 (recs eB (List.replicate n false)) 4 :: M0 ∧ I = slI (some ⟨b2, 0, none⟩) [.int .i64 n, .slice p m c] :: I0) ?_ ?_
  · ((repeat refine TD_seq ?_); refine TD_rest (M0) (slI (some ⟨b2, 0, none⟩) [.int .i64 n, .slice p m c] :: I0) mixed ?_)
    refine ND_restPre (fuel := 4) (listed' := #[true, true, false, true, true, false, false, false]) [0, 1, 3, 4] [2, 1, 2, 1] subF incF (by kernel_rfl) (by kernel_rfl) rfl rfl ?_
    repeat (refine wXh ?_)
    refine ND_restFork (fuel := 3) (i := 2) (j := 5) (by kernel_rfl) ?_ ?_
    · (refine RD_makeX (n) rfl rfl (by omega) (by omega) (by omega) (by omega) (made_int _ _) rfl rfl ?_; intro b8; refine ⟨okF, ?_⟩)
      refine RD_nil ?_
      refine ND_restEnd [6, 5, 7] [1, 0, 0] subF incF (by kernel_rfl) (by kernel_rfl) rfl rfl ?_
      repeat (refine wXh ?_)
      (refine RD_makeX (n) rfl rfl (by omega) (by omega) (by omega) (by omega) (made_bool _) rfl rfl ?_; intro b9; refine ⟨okF, ?_⟩)
      repeat (refine wXh ?_)
      refine ND_cut _ _ _ subG subF incF ⟨b8, b9, rfl, rfl, rfl⟩
    · (refine RD_makeX (n) rfl rfl (by omega) (by omega) (by omega) (by omega) (made_bool _) rfl rfl ?_; intro b9; refine ⟨okF, ?_⟩)
      refine RD_nil ?_
      refine ND_restEnd [2, 6, 7] [0, 0, 0] subF incF (by kernel_rfl) (by kernel_rfl) rfl rfl ?_
      repeat (refine wXh ?_)
      (refine RD_makeX (n) rfl rfl (by omega) (by omega) (by omega) (by omega) (made_int _ _) rfl rfl ?_; intro b8; refine ⟨okF, ?_⟩)
      repeat (refine wXh ?_)
      refine ND_cut _ _ _ subG subF incF ⟨b8, b9, rfl, rfl, rfl⟩
  rintro G M I ⟨b8, b9, rfl, rfl, rfl⟩
  have hl1 : (List.replicate n false).length = n := List.length_replicate
  repeat (refine wXh ?_)
  (refine RD_callS rfl (relaxed_ok hn hm hm2 hg (Ro.one hs) memF) rfl rfl ?_; rintro _ _ _ ⟨rfl, r, d, kn, rfl, h1, h2, ld, lk, hz, rfl⟩; refine ⟨okF, ?_⟩)
  cases r
  · exact absurd hf (h2 rfl)
  · repeat (refine wXh ?_)
    refine ND_freezeB (b := b9) remF ?_
    refine ND_freezeB (b := b8) remF ?_
    refine ND_rets [4, 5, 6] (by first | exact .inl rfl | exact .inr rfl) rfl rfl rfl _ _ subF incF (⟨rfl, d, kn, some ⟨b8, 0, none⟩, some ⟨b9, 0, none⟩, n, n, rfl, h1 rfl, ld, lk, hz, rfl⟩)
set_option maxRecDepth 100000 in
set_option maxHeartbeats 1000000 in
theorem Potentials_no {p : Option Addr} {n : Nat} {ms : List LK} {m c : Nat} (hn : n ≤ 256) (hm : ms.length = m) (hm2 : m ≤ 1024) (hg : Gd ms n) (hf : ¬ hasFix ms (fun v => 0 ≤ v ∧ v < (n : Int))) (hp : slI p (recs eK ms) ∈ I0) :
    CD Try.prog 21 [gv n p m c] X w0 M0 I0 (fun v M I => M0 = M ∧ I0 = I ∧ v = .tuple #[.slice none 0 0, .int .i64 11]) := by
  have hC := fun M0 I0 h => gCheck_ok (X := X) (w0 := w0) (M0 := M0) (I0 := I0) (p := p) (N := n) (ms := ms) (c := c) hm (by omega) h
  rw [gcode_gd (by omega) (by omega) hg] at hC
  refine enterD1 Try.func21 rfl Try.ntmps21 rfl ?_
  refine TD_seq ?_
  refine TD_region ?_
  (refine RD_boxA rfl rfl rfl ?_; intro b1; refine ⟨okF, ?_⟩)
  refine RD_freezeB .here ?_
  repeat (refine wXh ?_)
  (refine RD_callS rfl (hC _ _ memF) rfl rfl ?_; rintro _ _ _ ⟨rfl, rfl, rfl⟩; refine ⟨okF, ?_⟩)
  repeat (refine wXh ?_)
  refine TD_cutT (fun G M I => ∃ b5 b6 : Nat, G = [(1, .pointer (some ⟨b1, 0, none⟩)), (5, .slice (some ⟨b5, 0, none⟩) n n), (6, .slice (some ⟨b6, 0, none⟩) n n)] ∧ M = .blk b5 (recs (eI .i64) (List.replicate n 0)) 3 :: .blk b6 (recs eB (List.replicate n false)) 4 :: M0 ∧ I = slI (some ⟨b1, 0, none⟩) [.int .i64 n, .slice p m c] :: I0) ?_ ?_
  · ((repeat refine TD_seq ?_); refine TD_rest (M0) (slI (some ⟨b1, 0, none⟩) [.int .i64 n, .slice p m c] :: I0) mixed ?_)
    refine ND_restPre (fuel := 4) (listed' := #[true, true, false, true, true, false, false, false]) [0, 1, 3, 4] [2, 1, 2, 1] subF incF (by kernel_rfl) (by kernel_rfl) rfl rfl ?_
    repeat (refine wXh ?_)
    refine ND_restFork (fuel := 3) (i := 2) (j := 5) (by kernel_rfl) ?_ ?_
    · (refine RD_makeX (n) rfl rfl (by omega) (by omega) (by omega) (by omega) (made_int _ _) rfl rfl ?_; intro b5; refine ⟨okF, ?_⟩)
      refine RD_nil ?_
      refine ND_restEnd [6, 5, 7] [1, 0, 0] subF incF (by kernel_rfl) (by kernel_rfl) rfl rfl ?_
      repeat (refine wXh ?_)
      (refine RD_makeX (n) rfl rfl (by omega) (by omega) (by omega) (by omega) (made_bool _) rfl rfl ?_; intro b6; refine ⟨okF, ?_⟩)
      repeat (refine wXh ?_)
      refine ND_cut _ _ _ subG subF incF ⟨b5, b6, rfl, rfl, rfl⟩
    · (refine RD_makeX (n) rfl rfl (by omega) (by omega) (by omega) (by omega) (made_bool _) rfl rfl ?_; intro b6; refine ⟨okF, ?_⟩)
      refine RD_nil ?_
      refine ND_restEnd [2, 6, 7] [0, 0, 0] subF incF (by kernel_rfl) (by kernel_rfl) rfl rfl ?_
      repeat (refine wXh ?_)
      (refine RD_makeX (n) rfl rfl (by omega) (by omega) (by omega) (by omega) (made_int _ _) rfl rfl ?_; intro b5; refine ⟨okF, ?_⟩)
      repeat (refine wXh ?_)
      refine ND_cut _ _ _ subG subF incF ⟨b5, b6, rfl, rfl, rfl⟩
  rintro G M I ⟨b5, b6, rfl, rfl, rfl⟩
  have hl1 : (List.replicate n false).length = n := List.length_replicate
  repeat (refine wXh ?_)
  refine TD_loop [1, 5, 6, 20] rfl (fun k G M I => ∃ (i : Nat) (kn : List Bool), i ≤ n ∧ k = n - i ∧ kn.length = n ∧ (∀ j : Nat, j < i → gt kn j = true) ∧ G = [(21, .int .i64 i)] ∧ M = .blk b5 (recs (eI .i64) (List.replicate n 0)) 3 :: .blk b6 (recs eB kn) 4 :: M0 ∧ I = slI (some ⟨b1, 0, none⟩) [.int .i64 n, .slice p m c] :: I0) (n) _ _ _ subG subF incF (⟨0, _, by omega, rfl, hl1, fun j hj => by omega, rfl, rfl, rfl⟩) ?_
  rintro kk G M I ⟨i, kn, hi, rfl, hlk, hkn, rfl, rfl, rfl⟩
  by_cases hin : i < n
  · repeat (refine wXh ?_)
    refine ND_again (n - (i + 1)) _ _ _ (by first | omega | (simp only [List.length_append, List.length_cons, List.length_nil]; omega)) subG subF incF (⟨i + 1, _, by omega, rfl, by rw [st_len, hlk], fun j hj => ?_, rfl, rfl, rfl⟩)
    rw [gt_st _ (by omega) (by omega)]
    split
    · rfl
    · exact hkn j (by omega)
  obtain rfl : i = n := by omega
  repeat (refine wXh ?_)
  (refine RD_callS rfl (relaxed_ok hn hm hm2 hg (Ro.all hlk hkn) memF) rfl rfl ?_; rintro _ _ _ ⟨rfl, r, d, kn2, rfl, h1, h2, ld, lk2, hz, rfl⟩; refine ⟨okF, ?_⟩)
  cases r
  · repeat (refine wXh ?_)
    refine ND_rets [2, 3] (by first | exact .inl rfl | exact .inr rfl) rfl rfl rfl _ _ subF incF (⟨rfl, rfl, rfl⟩)
  · exact absurd ⟨_, h1 rfl⟩ hf
end
end Go.Proofs.Ytkhgglkkdnemlaa
namespace Go.Proofs.Ytkhgglkkdnemlaa
open Go Go.Fx
def exL : List LK := [⟨0, 1, 2⟩, ⟨1, 2, 1⟩, ⟨2, 0, 2⟩, ⟨2, 3, 5⟩]
def exM : List LK := [⟨0, 1, 2⟩, ⟨1, 2, 1⟩, ⟨2, 0, -4⟩, ⟨2, 3, 5⟩]
theorem four {k : Int} (h0 : 0 ≤ k) (h : k < (4 : Nat)) : k = 0 ∨ k = 1 ∨ k = 2 ∨ k = 3 := by omega
theorem exL_gd : Gd exL 4 := by
  refine ⟨fun k h0 hk => ?_, fun k h0 hk => ?_, fun k h0 hk => ?_⟩
  all_goals rcases four h0 hk with rfl | rfl | rfl | rfl <;> decide
theorem exM_gd : Gd exM 4 := by
  refine ⟨fun k h0 hk => ?_, fun k h0 hk => ?_, fun k h0 hk => ?_⟩
  all_goals rcases four h0 hk with rfl | rfl | rfl | rfl <;> decide
instance (ms : List LK) (a b : Int) : Decidable (kl ms a b) := by unfold kl; exact inferInstance
theorem exL_ord : ord exL = [1, 0, 2, 3] := by
  refine sorted_eq (r := kl exL) (kl_ir exL) (kl_as exL) (ord_pw exL) (by decide) (fun x => ?_)
  rw [ord_mem, mem_rg]
  simp only [List.mem_cons, List.not_mem_nil, or_false]
  show (0 ≤ x ∧ x < ((4 : Nat) : Int)) ↔ _
  omega
theorem exL_kt : kt exL = [0, 1, 3] := by
  have h : kr exL [1, 0, 2, 3] = [1, 0, 3] := by decide
  unfold kt
  rw [exL_ord, h]
  decide
def exD : List Int := [0, 2, 3, 8]
theorem exD_at (v : Int) : OD exD [true, true, true, true] v = if v = 0 then some 0 else if v = 1 then some 2 else if v = 2 then some 3 else if v = 3 then some 8 else none := by
  by_cases h0 : 0 ≤ v
  · by_cases h4 : v < (4 : Nat)
    · rcases four h0 h4 with rfl | rfl | rfl | rfl <;> decide
    · rw [if_neg (by omega), if_neg (by omega), if_neg (by omega), if_neg (by omega)]
      unfold OD
      rw [if_neg]
      rintro ⟨_, h⟩
      unfold gt at h
      rw [List.getD_eq_getElem?_getD, List.getElem?_eq_none (by simp; omega)] at h
      simp at h
  · rw [if_neg (by omega), if_neg (by omega), if_neg (by omega), if_neg (by omega)]
    unfold OD
    rw [if_neg (fun h => h0 h.1)]
theorem exL_fix : Fix exL (fun v => v = 0) (OD exD [true, true, true, true]) := by
  have w0 : Wk exL (fun v => v = 0) 0 0 0 := .src rfl
  have w1 : Wk exL (fun v => v = 0) 1 1 2 := .step (i := 0) w0 (by decide) (by decide) rfl
  have w2 : Wk exL (fun v => v = 0) 2 2 3 := .step (i := 1) w1 (by decide) (by decide) rfl
  have w3 : Wk exL (fun v => v = 0) 3 3 8 := .step (i := 3) w2 (by decide) (by decide) rfl
  refine ⟨fun v x e => ?_, fun s hs => ?_, fun i h0 hi x e => ?_⟩
  · rw [exD_at] at e
    split at e
    · rename_i h; subst h; simp only [Option.some.injEq] at e; subst e; exact ⟨_, w0⟩
    · split at e
      · rename_i h; subst h; simp only [Option.some.injEq] at e; subst e; exact ⟨_, w1⟩
      · split at e
        · rename_i h; subst h; simp only [Option.some.injEq] at e; subst e; exact ⟨_, w2⟩
        · split at e
          · rename_i h; subst h; simp only [Option.some.injEq] at e; subst e; exact ⟨_, w3⟩
          · simp at e
  · subst hs
    exact ⟨0, by rw [exD_at]; rfl, Int.le_refl _⟩
  · rcases four h0 hi with rfl | rfl | rfl | rfl
    · have e : OD exD [true, true, true, true] 0 = some x := e
      rw [exD_at] at e
      simp only [if_true, Option.some.injEq] at e
      subst e
      exact ⟨2, by show OD exD _ 1 = _; rw [exD_at]; rfl, by decide⟩
    · have e : OD exD [true, true, true, true] 1 = some x := e
      rw [exD_at, if_neg (by decide), if_pos rfl] at e
      simp only [Option.some.injEq] at e
      subst e
      exact ⟨3, by show OD exD _ 2 = _; rw [exD_at]; rfl, by decide⟩
    · have e : OD exD [true, true, true, true] 2 = some x := e
      rw [exD_at, if_neg (by decide), if_neg (by decide), if_pos rfl] at e
      simp only [Option.some.injEq] at e
      subst e
      exact ⟨0, by show OD exD _ 0 = _; rw [exD_at]; rfl, by decide⟩
    · have e : OD exD [true, true, true, true] 2 = some x := e
      rw [exD_at, if_neg (by decide), if_neg (by decide), if_pos rfl] at e
      simp only [Option.some.injEq] at e
      subst e
      exact ⟨8, by show OD exD _ 3 = _; rw [exD_at]; rfl, by decide⟩
theorem exL_short {d : List Int} {kn : List Bool} (hl : d.length = 4) (h : Fix exL (fun v => v = 0) (OD d kn)) : d = [0, 2, 3, 8] := by
  have hu := h.uniq exL_fix
  match d, hl with
  | [a, b, c, e], _ =>
    have h0 := hu 0
    have h1 := hu 1
    have h2 := hu 2
    have h3 := hu 3
    rw [exD_at] at h0 h1 h2 h3
    have q0 : a = 0 := (OD_some.1 h0).2
    have q1 : b = 2 := (OD_some.1 h1).2
    have q2 : c = 3 := (OD_some.1 h2).2
    have q3 : e = 8 := (OD_some.1 h3).2
    subst q0; subst q1; subst q2; subst q3; rfl
theorem exM_no : ¬ hasFix exM (fun v => 0 ≤ v ∧ v < ((4 : Nat) : Int)) := by
  rintro ⟨F, hF⟩
  obtain ⟨x, h0, _⟩ := hF.src 0 (by decide)
  obtain ⟨y, h1, l1⟩ := hF.closed 0 (by decide) (by decide) x h0
  obtain ⟨z, h2, l2⟩ := hF.closed 1 (by decide) (by decide) y h1
  obtain ⟨u, h3, l3⟩ := hF.closed 2 (by decide) (by decide) z h2
  have h3 : F 0 = some u := h3
  rw [h0] at h3
  simp only [Option.some.injEq] at h3
  have l1 : y ≤ x + 2 := l1
  have l2 : z ≤ y + 1 := l2
  have l3 : u ≤ z + -4 := l3
  omega
end Go.Proofs.Ytkhgglkkdnemlaa

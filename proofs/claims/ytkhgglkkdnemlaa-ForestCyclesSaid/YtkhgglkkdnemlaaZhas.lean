/- Plain: the answers of two searches for a trail agree; a connection has a trail; a closed trail enters each node as often as it leaves it. Forest: the program's Path, walked. Forest: the law ForestPaths, walked. Forest: BinarySearch of an ascending list; lists of lists that are only read; EqualFunc of lists of lists. Forest: the program's Cycles, walked. -/
import Derived.Test.YtkhgglkkdnemlaaZhar
import Derived.Test.YtkhgglkkdnemlaaZhaj
import Derived.Test.YtkhgglkkdnemlaaZhai
set_option linter.unusedSimpArgs false
set_option linter.unusedVariables false
namespace Go.Proofs.Ytkhgglkkdnemlaa
open Go Go.Fx
theorem Stp.both {ms : List LK} {T l l' : List Int} {u v : Int} {f f' : Bool} (hf : Fst [] (es ms T)) (h : Stp ms T u v l f) (h' : Stp ms T u v l' f') : f = f' ∧ l = l' := by
  cases f with
  | true =>
    cases f' with
    | true => exact ⟨rfl, Trail.uniq hf (h.yes rfl) (h'.yes rfl)⟩
    | false => exact absurd (h.yes rfl) ((h'.no rfl).2 l)
  | false =>
    cases f' with
    | true => exact absurd (h'.yes rfl) ((h.no rfl).2 l')
    | false => exact ⟨rfl, by rw [(h.no rfl).1, (h'.no rfl).1]⟩
theorem nod_split {α : Type} [DecidableEq α] (l : List Int) (f : Int → α) (h : ¬ (l.map f).Nodup) : ∃ x s y t z, l = x ++ s :: (y ++ t :: z) ∧ f s = f t := by
  induction l with
  | nil => exact absurd List.nodup_nil h
  | cons s l ih =>
    by_cases hs : f s ∈ l.map f
    · obtain ⟨t, ht, e⟩ := List.mem_map.1 hs
      obtain ⟨y, z, rfl⟩ := List.append_of_mem ht
      exact ⟨[], s, y, t, z, rfl, e.symm⟩
    · obtain ⟨x, s2, y, t, z, rfl, e⟩ := ih (fun hn => h (by rw [List.map_cons, List.nodup_cons]; exact ⟨hs, hn⟩))
      exact ⟨s :: x, s2, y, t, z, rfl, e⟩
theorem Trl.short {ms : List LK} {T : List Int} (n : Nat) : ∀ (l : List Int) (u v : Int), l.length ≤ n → Trl ms l u v → (∀ s ∈ l, sk s ∈ T) → ∃ l', Trail ms T l' u v := by
  induction n with
  | zero => 
    intro l u v hl h hT
    have : l = [] := List.eq_nil_of_length_eq_zero (by omega)
    subst this
    exact ⟨[], h, fun _ h => absurd h (by simp), List.nodup_nil⟩
  | succ n ih =>
    intro l u v hl h hT
    by_cases hn : (l.map sk).Nodup
    · exact ⟨l, h, hT, hn⟩
    · obtain ⟨x, s, y, t, z, rfl, e⟩ := nod_split l sk hn
      obtain ⟨w, h1, h2⟩ := Trl.app.1 h
      obtain ⟨hs0, rfl, h3⟩ := h2.inv
      obtain ⟨w2, h4, h5⟩ := Trl.app.1 h3
      obtain ⟨ht0, rfl, h6⟩ := h5.inv
      rcases sk_two e hs0 ht0 with e1 | e1
      · subst e1
        refine ih (x ++ s :: z) u v (by simp at hl ⊢; omega) (Trl.app.2 ⟨_, h1, .cons hs0 h6⟩) (fun s' hs' => hT s' ?_)
        simp at hs' ⊢
        rcases hs' with h | h | h
        · exact .inl h
        · exact .inr (.inl h)
        · exact .inr (.inr (.inr (.inr h)))
      · have e2 : sb ms t = sa ms s := by rw [e1, sa_neg ht0]
        rw [e2] at h6
        refine ih (x ++ z) u v (by simp at hl ⊢; omega) (Trl.app.2 ⟨_, h1, h6⟩) (fun s' hs' => hT s' ?_)
        simp at hs' ⊢
        rcases hs' with h | h
        · exact .inl h
        · exact .inr (.inr (.inr (.inr h)))
theorem Con.trl {ms : List LK} {T : List Int} (hr : ∀ k ∈ T, 0 ≤ k) {u v : Int} (h : Con (es ms T) u v) : ∃ l, Trl ms l u v ∧ ∀ s ∈ l, sk s ∈ T := by
  have rev : ∀ l u v, Trl ms l u v → (∀ s ∈ l, sk s ∈ T) → ∃ l', Trl ms l' v u ∧ ∀ s ∈ l', sk s ∈ T := by
    intro l
    induction l with
    | nil => intro u v h _; have := h.nil_inv; subst this; exact ⟨[], .nil _, fun _ h => absurd h (by simp)⟩
    | cons s l ih =>
      intro u v h hT
      obtain ⟨h0, rfl, h1⟩ := h.inv
      obtain ⟨l', h2, h3⟩ := ih _ _ h1 (fun x hx => hT x (by simp [hx]))
      refine ⟨l' ++ [-s], Trl.app.2 ⟨_, h2, ?_⟩, fun x hx => ?_⟩
      · have := Trl.cons (ms := ms) (s := -s) (l := []) (by omega) (.nil _)
        rwa [sa_neg h0, sb_neg h0] at this
      · rcases List.mem_append.1 hx with h | h
        · exact h3 x h
        · rw [List.mem_singleton.1 h]
          have := hT s (by simp)
          have e : sk (-s) = sk s := by unfold sk; split <;> split <;> omega
          rwa [e]
  induction h with
  | refl x => exact ⟨[], .nil _, fun _ h => absurd h (by simp)⟩
  | @link a b hab =>
    obtain ⟨k, hk, e⟩ := List.mem_map.1 hab
    have e1 : (gt ms k).a = a := congrArg Prod.fst e
    have e2 : (gt ms k).b = b := congrArg Prod.snd e
    obtain ⟨f0, f1, f2, f3⟩ := fwd (ms := ms) (hr k hk)
    have := Trl.cons (ms := ms) (s := k + 1) (l := []) f0 (.nil _)
    rw [f2, f3, e1, e2] at this
    exact ⟨[k + 1], this, fun x hx => by rw [List.mem_singleton.1 hx, f1]; exact hk⟩
  | symm _ ih => obtain ⟨l, h1, h2⟩ := ih; exact rev l _ _ h1 h2
  | trans _ _ ih1 ih2 =>
    obtain ⟨l1, h1, h2⟩ := ih1
    obtain ⟨l2, h3, h4⟩ := ih2
    exact ⟨l1 ++ l2, Trl.app.2 ⟨_, h1, h3⟩, fun s hs => (List.mem_append.1 hs).elim (h2 s) (h4 s)⟩
theorem Stp.found {ms : List LK} {T l : List Int} {u v : Int} {f : Bool} (hr : ∀ k ∈ T, 0 ≤ k) (hc : Con (es ms T) u v) (h : Stp ms T u v l f) : Trail ms T l u v := by
  cases f with
  | true => exact h.yes rfl
  | false =>
    obtain ⟨l0, h1, h2⟩ := Con.trl hr hc
    obtain ⟨l1, h3⟩ := Trl.short l0.length l0 u v (Nat.le_refl _) h1 h2
    exact absurd h3 ((h.no rfl).2 l1)
/-- how often a list of steps enters a node, less how often it leaves it -/
def bal (ms : List LK) (l : List Int) (x : Int) : Int := sumI (l.map (fun s => (if sb ms s = x then 1 else 0) - (if sa ms s = x then 1 else 0)))
theorem bal_trl {ms : List LK} (l : List Int) : ∀ u v, Trl ms l u v → ∀ x, bal ms l x = (if v = x then 1 else 0) - (if u = x then 1 else 0) := by
  induction l with
  | nil => intro u v h x; have := h.nil_inv; subst this; unfold bal; simp [sumI]
  | cons s l ih =>
    intro u v h x
    obtain ⟨h0, rfl, h1⟩ := h.inv
    have := ih _ _ h1 x
    unfold bal at this ⊢
    rw [List.map_cons, show ∀ (a : Int) l, sumI (a :: l) = a + sumI l from fun a l => by simp [sumI], this]
    omega
theorem bal_snoc (ms : List LK) (l : List Int) (s x : Int) : bal ms (l ++ [s]) x = bal ms l x + ((if sb ms s = x then 1 else 0) - (if sa ms s = x then 1 else 0)) := by
  unfold bal
  rw [List.map_append, List.map_singleton, sumI_snoc]
theorem bal_bound (ms : List LK) (l : List Int) (x : Int) : (bal ms l x).natAbs ≤ l.length := by
  induction l with
  | nil => simp [bal, sumI]
  | cons s l ih =>
    unfold bal at ih ⊢
    rw [List.map_cons, show ∀ (a : Int) l, sumI (a :: l) = a + sumI l from fun a l => by simp [sumI], List.length_cons]
    split <;> split <;> omega
/-- the cycle that a link closes -/
theorem bal_cycle {ms : List LK} {T l : List Int} {z : Int} {f : Bool} (hr : ∀ k ∈ T, 0 ≤ k) (hz : 0 ≤ z) (hc : Con (es ms T) (gt ms z).b (gt ms z).a) (h : Stp ms T (gt ms z).b (gt ms z).a l f) (x : Int) : bal ms ((z + 1) :: l) x = 0 := by
  obtain ⟨f0, f1, f2, f3⟩ := fwd (ms := ms) hz
  have := Trl.cons (ms := ms) (s := z + 1) (l := l) f0 (by rw [f3]; exact (h.found hr hc).trl)
  rw [bal_trl _ _ _ this x, f2]
  omega
end Go.Proofs.Ytkhgglkkdnemlaa
namespace Go.Proofs.Ytkhgglkkdnemlaa
open Go Go.Fx
section
variable {X : List Nat} {w0 : World} {M0 : List Ent} {I0 : List Imm}
theorem route_yes {p q : Option Addr} {n m c t ct : Nat} {ms : List LK} {T l0 : List Int} {u v : Int} (hn : n ≤ 256) (hm : ms.length = m) (hm2 : m ≤ 1024) (hg : Gd ms n) (hT : T.length = t) (ht : t ≤ 1000) (hr : inR m T) (hf : Fst [] (es ms T)) (h0 : Trail ms T l0 u v) (hu : 0 ≤ u ∧ u < n) (hv : 0 ≤ v ∧ v < n) (hp : slI p (recs eK ms) ∈ I0) (hq : slI q (recs (eI .i64) T) ∈ I0) :
    CD Try.prog 64 [gv n p m c, .slice q t ct, .int .i64 u, .int .i64 v] X w0 M0 I0 (fun r M I => M0 = M ∧ ∃ (q2 : Option Addr) (c2 : Nat) (l : List (Int × Bool)), r = .tuple #[.slice q2 l.length c2, .bool true] ∧ l.map stp = l0 ∧ (∀ x ∈ l, 0 ≤ x.1) ∧ I = slI q2 (recs eS l) :: I0) :=
  CD.mono (route_ok hn hm hm2 hg hT ht hr hu hv hp hq) (fun r M I h => by
    obtain ⟨h1, q2, c2, l, f, rfl, h2, h3, h4⟩ := h
    obtain ⟨rfl, h5⟩ := h2.both hf (Stp.of h0)
    exact ⟨h1, q2, c2, l, rfl, h5, h3, h4⟩)
theorem Steps_yes {p q : Option Addr} {n m c t ct : Nat} {ms : List LK} {T l0 : List Int} {u v : Int} (hm : ms.length = m) (hm2 : m ≤ 1024) (hT : T.length = t) (ht : t ≤ 1000) (hr : inR m T) (hf : Fst [] (es ms T)) (hnd : T.Nodup) (hok : Ok q ∨ (t = 0 ∧ ct = 0)) (hct : t ≤ ct) (h0 : Trail ms T l0 u v) (hp : slI p (recs eK ms) ∈ I0) (hq : slI q (recs (eI .i64) T) ∈ I0) :
    CD Try.prog 40 [gv n p m c, .slice q t ct, .int .i64 u, .int .i64 v] X w0 M0 I0 (fun r M I => M0 = M ∧ ∃ (q2 : Option Addr) (c2 : Nat), r = .tuple #[.slice q2 l0.length c2, .bool true] ∧ (Ok q2 ∨ (l0.length = 0 ∧ c2 = 0)) ∧ I = slI q2 (recs (eI .i64) l0) :: I0) :=
  CD.mono (Steps_ok hm hm2 t T q ct u v M0 I0 hT ht hr hnd hok hct hp hq) (fun r M I h => by
    obtain ⟨h1, q2, c2, l, f, rfl, h2, _, h3, h4⟩ := h
    obtain ⟨rfl, rfl⟩ := h3.both hf (Stp.of h0)
    exact ⟨h1, q2, c2, rfl, h2.imp id (fun h => ⟨h.2.1, h.2.2⟩), h4⟩)
end
end Go.Proofs.Ytkhgglkkdnemlaa
namespace Go.Proofs.Ytkhgglkkdnemlaa
open Go Go.Fx
theorem nodup_len : ∀ (a b : List Int), a.Nodup → (∀ x ∈ a, x ∈ b) → a.length ≤ b.length
  | [], _, _, _ => Nat.zero_le _
  | x :: a, b, h, hs => by
    rw [List.nodup_cons] at h
    have h1 := List.length_erase_of_mem (hs x (by simp))
    have h2 := nodup_len a (b.erase x) h.2 (fun y hy => by
      refine (List.mem_erase_of_ne (fun e => ?_)).2 (hs y (by simp [hy]))
      subst e; exact h.1 hy)
    have h3 : 0 < b.length := List.length_pos_of_mem (hs x (by simp))
    rw [List.length_cons]
    omega
theorem Trail.len {ms : List LK} {T l : List Int} {u v : Int} (h : Trail ms T l u v) : l.length ≤ T.length := by
  have := nodup_len (l.map sk) T h.nod (fun x hx => by
    obtain ⟨s, hs, rfl⟩ := List.mem_map.1 hx
    exact h.mem s hs)
  rwa [List.length_map] at this
theorem asc_nodup {l : List Int} (h : asc l) : l.Nodup := List.Pairwise.imp (fun {a b} h (e : a = b) => by omega) h
section
variable {X : List Nat} {w0 : World} {M0 : List Ent} {I0 : List Imm}
end
end Go.Proofs.Ytkhgglkkdnemlaa
namespace Go.Proofs.Ytkhgglkkdnemlaa
open Go Go.Fx
theorem asc_lt {l : List Int} (h : asc l) {i j : Int} (hi : 0 ≤ i) (hij : i < j) (hj : j < l.length) : gt l i < gt l j := by
  obtain ⟨a, rfl⟩ : ∃ a : Nat, i = a := ⟨i.toNat, by omega⟩
  obtain ⟨b, rfl⟩ : ∃ b : Nat, j = b := ⟨j.toNat, by omega⟩
  rw [gt_get (by omega), gt_get (by omega)]
  exact List.pairwise_iff_getElem.1 h a b (by omega) (by omega) (by omega)
/-- a list of ints with where it lies -/
structure CY where
  p : Option Addr
  c : Nat
  es : List Int
instance : Inhabited CY := ⟨⟨none, 0, []⟩⟩
abbrev eC (r : CY) : List Value := [.slice r.p r.es.length r.c]
instance : Sized eC 1 := ⟨fun _ => rfl⟩
instance : Ones eC := ⟨fun m u hu => by simp only [eC, List.mem_cons, List.not_mem_nil, or_false] at hu; subst hu; rfl⟩
structure AllC (rows : List CY) (X : List Nat) (w : World) : Prop where
  go : ∀ r ∈ rows, Sl X w r.p (recs (eI .i64) r.es)
abbrev allC (rows : List CY) : Imm := AllC rows
instance (rows : List CY) : Fx.Good (AllC rows) := ⟨fun X Y w w' h he hY => ⟨fun r hr => Sl.carry (h.go r hr) he hY⟩⟩
/-- what follows from the facts -/
structure Hv (I : List Imm) (φ : Imm) : Prop where
  go : ∀ (X : List Nat) (w : World), (∀ ψ ∈ I, ψ X w) → φ X w
theorem Hv.cnil {I : List Imm} : Hv I (allC []) := ⟨fun _ _ _ => ⟨fun r hr => absurd hr List.not_mem_nil⟩⟩
theorem Hv.cat {I : List Imm} {rows : List CY} {i : Int} (h : allC rows ∈ I) (hi : 0 ≤ i ∧ i < rows.length) : Hv I (slI (gt rows i).p (recs (eI .i64) (gt rows i).es)) := ⟨fun X w hw => ⟨(hw _ h : AllC rows X w).go _ (gt_in hi)⟩⟩
theorem Hv.csnoc {I : List Imm} {rows : List CY} {r : CY} (h : allC rows ∈ I) (hr : slI r.p (recs (eI .i64) r.es) ∈ I) : Hv I (allC (rows ++ [r])) := ⟨fun X w hw => ⟨fun x hx => by
  rcases List.mem_append.1 hx with h1 | h1
  · exact (hw _ h : AllC rows X w).go x h1
  · rw [List.mem_singleton.1 h1]; exact (hw _ hr : SlI _ _ X w).go⟩⟩
section
variable {P : Program} {n : Nat} {Q : Exit → Act → World → Prop} {G : Env} {X : List Nat} {w0 : World} {M M' : List Ent} {I I' : List Imm}
theorem Mem.hv {w : World} {φ : Imm} [Fx.Good φ] (h : Hv I φ) (hw : Mem X w0 M I w) : Mem X w0 M (φ :: I) w := hw.add (φ := φ) (h.go _ _ (fun ψ hm => (hw.imm ψ hm).2))
theorem TD_hv {c : Code} {φ : Imm} [Fx.Good φ] (h : Hv I φ) (k : TD P n c Q G X w0 M (φ :: I)) : TD P n c Q G X w0 M I := TD_m (fun _ hw => Mem.hv h hw) k
theorem RD_hv {ops l : List Oper} {m : Fx.Mode} {φ : Imm} [Fx.Good φ] (h : Hv I φ) (k : RD P n ops Q m l G X w0 M (φ :: I)) : RD P n ops Q m l G X w0 M I := RD_m (fun _ hw => Mem.hv h hw) k
end
section
variable {X : List Nat} {w0 : World} {M0 : List Ent} {I0 : List Imm}
theorem cNaN_ok {x : Int} : CD Try.prog 80 [.int .i64 x] X w0 M0 I0 (fun v M I => M0 = M ∧ I0 = I ∧ v = .bool false) := by
  refine enterD1 Try.func80 rfl Try.ntmps80 rfl ?_
  repeat (refine wXh ?_)
  refine ND_ret1 (by first | exact .inl rfl | exact .inr rfl) rfl rfl _ _ subF incF (⟨rfl, rfl, congrArg Value.bool (B_false (by omega))⟩)
theorem sNaN_ok {x : Int} : CD Try.prog 75 [.int .i64 x] X w0 M0 I0 (fun v M I => M0 = M ∧ I0 = I ∧ v = .bool false) := by
  refine enterD1 Try.func75 rfl Try.ntmps75 rfl ?_
  repeat (refine wXh ?_)
  refine ND_ret1 (by first | exact .inl rfl | exact .inr rfl) rfl rfl _ _ subF incF (⟨rfl, rfl, congrArg Value.bool (B_false (by omega))⟩)
theorem Less_ok {x y : Int} : CD Try.prog 74 [.int .i64 x, .int .i64 y] X w0 M0 I0 (fun v M I => M0 = M ∧ I0 = I ∧ v = .bool (B (x < y))) := by
  refine enterD2 Try.func74 rfl Try.ntmps74 rfl ?_
  repeat (refine wXh ?_)
  (refine RD_callS rfl (cNaN_ok) rfl rfl ?_; rintro _ _ _ ⟨rfl, rfl, rfl⟩; refine ⟨okF, ?_⟩)
  repeat (refine wXh ?_)
  refine ND_ret1 (by first | exact .inl rfl | exact .inr rfl) rfl rfl _ _ subF incF (⟨rfl, rfl, rfl⟩)
set_option maxRecDepth 100000 in
set_option maxHeartbeats 1000000 in
theorem BinarySearch_ok {p : Option Addr} {T : List Int} {t c : Nat} {x : Int} (hT : T.length = t) (ht : t ≤ 1000) (ha : asc T) (hp : slI p (recs (eI .i64) T) ∈ I0) :
    CD Try.prog 65 [.slice p t c, .int .i64 x] X w0 M0 I0 (fun v M I => M0 = M ∧ I0 = I ∧ ∃ (r : Int) (f : Bool), v = .tuple #[.int .i64 r, .bool f] ∧ (f = true ↔ x ∈ T)) := by
  refine enterD2 Try.func65 rfl Try.ntmps65 rfl ?_
  repeat (refine wXh ?_)
  refine TD_loop [0, 1, 6] rfl (fun k G M I => ∃ (i j : Int), 0 ≤ i ∧ i ≤ j ∧ j ≤ t ∧ k = (j - i).toNat ∧ (∀ q : Int, 0 ≤ q → q < i → gt T q < x) ∧ (∀ q : Int, j ≤ q → q < t → x ≤ gt T q) ∧ G = [(7, .int .i64 i), (8, .int .i64 j)] ∧ M0 = M ∧ I0 = I) (t) _ _ _ subG subF incF (⟨0, t, by omega, by omega, by omega, by omega, fun q h1 h2 => by omega, fun q h1 h2 => by omega, rfl, rfl, rfl⟩) ?_
  rintro kk G M I ⟨i, j, hi, hij, hj, rfl, h1, h2, rfl, rfl, rfl⟩
  by_cases hlt : i < j
  · repeat (refine wXh ?_)
    (refine RD_callS rfl (Less_ok) rfl rfl ?_; rintro _ _ _ ⟨rfl, rfl, rfl⟩; refine ⟨okF, ?_⟩)
    by_cases hx : gt T ((i + j) / 2) < x
    · rw [B_true hx]
      repeat (refine wXh ?_)
      refine ND_again ((j - ((i + j) / 2 + 1)).toNat) _ _ _ (by first | omega | (simp only [List.length_append, List.length_cons, List.length_nil]; omega)) subG subF incF (⟨(i + j) / 2 + 1, j, by omega, by omega, by omega, rfl, fun q h3 h4 => ?_, h2, rfl, rfl, rfl⟩)
      by_cases e : q = (i + j) / 2
      · rw [e]; exact hx
      · have := asc_lt ha h3 (show q < (i + j) / 2 by omega) (by omega)
        omega
    · rw [B_false hx]
      repeat (refine wXh ?_)
      refine ND_again (((i + j) / 2 - i).toNat) _ _ _ (by first | omega | (simp only [List.length_append, List.length_cons, List.length_nil]; omega)) subG subF incF (⟨i, (i + j) / 2, by omega, by omega, by omega, rfl, h1, fun q h3 h4 => ?_, rfl, rfl, rfl⟩)
      by_cases e : q = (i + j) / 2
      · rw [e]; omega
      · have := asc_lt ha (show 0 ≤ (i + j) / 2 by omega) (show (i + j) / 2 < q by omega) (by omega)
        omega
  · obtain rfl : i = j := by omega
    by_cases hit : i < t
    · by_cases hx : gt T i = x
      · repeat (refine wXh ?_)
        refine ND_rets [4, 5] (by first | exact .inl rfl | exact .inr rfl) rfl rfl rfl _ _ subF incF (⟨rfl, rfl, _, _, rfl, ⟨fun _ => hx ▸ gt_in ⟨hi, by omega⟩, fun _ => rfl⟩⟩)
      · repeat (refine wXh ?_)
        (refine RD_callS rfl (sNaN_ok) rfl rfl ?_; rintro _ _ _ ⟨rfl, rfl, rfl⟩; refine ⟨okF, ?_⟩)
        repeat (refine wXh ?_)
        refine ND_rets [4, 5] (by first | exact .inl rfl | exact .inr rfl) rfl rfl rfl _ _ subF incF (⟨rfl, rfl, _, _, rfl, ⟨fun h => absurd h (by decide), fun h => ?_⟩⟩)
        obtain ⟨q, hq, rfl⟩ := List.mem_iff_getElem.1 h
        rw [← gt_get hq] at hx h1 h2
        by_cases e1 : (q : Int) < i
        · have := h1 q (by omega) e1
          omega
        · by_cases e2 : (q : Int) = i
          · rw [e2] at hx; exact absurd rfl hx
          · have h3 := asc_lt ha hi (show i < q by omega) (by omega)
            have h4 := h2 i (by omega) (by omega)
            omega
    · repeat (refine wXh ?_)
      refine ND_rets [4, 5] (by first | exact .inl rfl | exact .inr rfl) rfl rfl rfl _ _ subF incF (⟨rfl, rfl, _, _, rfl, ⟨fun h => absurd h (by decide), fun h => ?_⟩⟩)
      obtain ⟨q, hq, rfl⟩ := List.mem_iff_getElem.1 h
      rw [← gt_get hq] at h1
      have := h1 q (by omega) (by omega)
      omega
theorem cyc1_ok {p q : Option Addr} {a b : List Int} {c d : Nat} (ha : a.length ≤ 100000) (hb : b.length = a.length) (hab : a = b) (h1 : slI p (recs (eI .i64) a) ∈ I0) (h2 : slI q (recs (eI .i64) b) ∈ I0) :
    CD Try.prog 43 [.slice p a.length c, .slice q b.length d] X w0 M0 I0 (fun v M I => M0 = M ∧ I0 = I ∧ v = .bool true) := by
  have hE := fun M0 I0 h1 h2 => EqI_ok (X := X) (w0 := w0) (M0 := M0) (I0 := I0) (p := p) (q := q) (a := a) (b := b) (c := c) (c' := d) (by omega) h1 h2
  rw [B_true hab] at hE
  refine enterD2 Try.func43 rfl Try.ntmps43 rfl ?_
  repeat (refine wXh ?_)
  (refine RD_callS rfl (hE _ _ memF memF) rfl rfl ?_; rintro _ _ _ ⟨rfl, rfl, rfl⟩; refine ⟨okF, ?_⟩)
  repeat (refine wXh ?_)
  refine ND_ret1 (by first | exact .inl rfl | exact .inr rfl) rfl rfl _ _ subF incF (⟨rfl, rfl, rfl⟩)
theorem EqF_ok {pa pb : Option Addr} {A B : List CY} {t ca cb : Nat} (hA : A.length = t) (hB : B.length = t) (ht : t ≤ 1000) (he : ∀ i : Nat, i < t → (gt A i).es = (gt B i).es) (hl : ∀ i : Nat, i < t → (gt A i).es.length ≤ 1000) (h1 : slI pa (recs eC A) ∈ I0) (h2 : slI pb (recs eC B) ∈ I0) (h3 : allC A ∈ I0) (h4 : allC B ∈ I0) :
    CD Try.prog 42 [.slice pa t ca, .slice pb t cb, .func (.func 43) #[] #[]] X w0 M0 I0 (fun v M I => M0 = M ∧ I0 = I ∧ v = .bool true) := by
  refine enterD3 Try.func42 rfl Try.ntmps42 rfl ?_
  repeat (refine wXh ?_)
  refine TD_loop [1, 2, 15, 16] rfl (fun k G M I => ∃ i : Nat, i ≤ t ∧ k = t - i ∧ G = [(17, .int .i64 i)] ∧ M0 = M ∧ I0 = I) (t) _ _ _ subG subF incF (⟨0, by omega, rfl, rfl, rfl, rfl⟩) ?_
  rintro kk G M I ⟨i, hi, rfl, rfl, rfl, rfl⟩
  by_cases hit : i < t
  · have h5 := he i hit
    have h6 := hl i hit
    have h7 : (gt B (i : Int)).es.length = (gt A (i : Int)).es.length := by rw [h5]
    refine TD_hv (Hv.cat (i := (i : Int)) h3 (by omega)) ?_
    refine TD_hv (Hv.cat (i := (i : Int)) (List.mem_cons_of_mem _ h4) (by omega)) ?_
    repeat (refine wXh ?_)
    (refine RD_callVS rfl rfl (cyc1_ok (by omega) h7 h5 memF memF) rfl rfl rfl ?_; rintro _ _ _ ⟨rfl, rfl, rfl⟩; refine ⟨okF, ?_⟩)
    repeat (refine wXh ?_)
    refine ND_again (t - (i + 1)) _ _ _ (by first | omega | (simp only [List.length_append, List.length_cons, List.length_nil]; omega)) subG subF incF (⟨i + 1, by omega, rfl, rfl, rfl, rfl⟩)
  · repeat (refine wXh ?_)
    refine ND_ret1 (by first | exact .inl rfl | exact .inr rfl) rfl rfl _ _ subF incF (⟨rfl, rfl, rfl⟩)
theorem bal2_ok {x : Int} : CD Try.prog 44 [.int .i64 x] X w0 M0 I0 (fun v M I => M0 = M ∧ I0 = I ∧ v = .bool (B (x ≠ 0))) := by
  refine enterD1 Try.func44 rfl Try.ntmps44 rfl ?_
  repeat (refine wXh ?_)
  refine ND_ret1 (by first | exact .inl rfl | exact .inr rfl) rfl rfl _ _ subF incF (⟨rfl, rfl, rfl⟩)
end
end Go.Proofs.Ytkhgglkkdnemlaa
namespace Go.Proofs.Ytkhgglkkdnemlaa
open Go Go.Fx
/-- the cycles that links outside a tree close -/
def cyl (tr : Int → List Int) (T : List Int) : Nat → List (List Int)
  | 0 => []
  | j + 1 => if (j : Int) ∈ T then cyl tr T j else cyl tr T j ++ [((j : Int) + 1) :: tr j]
theorem cyl_len (tr : Int → List Int) (T : List Int) (m : Nat) : (cyl tr T m).length ≤ m := by
  induction m with
  | zero => exact Nat.le_refl _
  | succ m ih =>
    unfold cyl
    split
    · omega
    · rw [List.length_append, List.length_singleton]; omega
theorem cyl_mem {tr : Int → List Int} {T : List Int} {m : Nat} {c : List Int} (h : c ∈ cyl tr T m) : ∃ z : Int, 0 ≤ z ∧ z < m ∧ c = (z + 1) :: tr z := by
  induction m with
  | zero => exact absurd h List.not_mem_nil
  | succ m ih =>
    unfold cyl at h
    split at h
    · obtain ⟨z, h1, h2, h3⟩ := ih h; exact ⟨z, h1, by omega, h3⟩
    · rcases List.mem_append.1 h with h | h
      · obtain ⟨z, h1, h2, h3⟩ := ih h; exact ⟨z, h1, by omega, h3⟩
      · exact ⟨m, by omega, by omega, List.mem_singleton.1 h⟩
theorem row_es {rows : List CY} {L : List (List Int)} (h : rows.map CY.es = L) {i : Nat} (hi : i < rows.length) : (gt rows (i : Int)).es ∈ L := by
  rw [← h, gt_get hi]
  exact List.mem_map.2 ⟨_, List.getElem_mem hi, rfl⟩
/-- the trails that the cycles need -/
structure Trs (ms : List LK) (T : List Int) (tr : Int → List Int) : Prop where
  go : ∀ z : Int, 0 ≤ z → z < ms.length → Trail ms T (tr z) (gt ms z).b (gt ms z).a
theorem spn_con {ms : List LK} {T : List Int} (hr : inR ms.length T) (hs : spn ms T) {z : Int} (h0 : 0 ≤ z) (h1 : z < ms.length) : Con (es ms T) (gt ms z).b (gt ms z).a := by
  refine ((spn_iff hr).1 hs _ _).2 (Con.symm (.link ?_))
  refine List.mem_map.2 ⟨z, ?_, rfl⟩
  unfold rg
  exact List.mem_map.2 ⟨z.toNat, List.mem_range.2 (by omega), by omega⟩
theorem trs_of {ms : List LK} {T : List Int} (hr : inR ms.length T) (hs : spn ms T) : ∃ tr, Trs ms T tr := by
  have h : ∀ z : Int, ∃ l, 0 ≤ z → z < ms.length → Trail ms T l (gt ms z).b (gt ms z).a := fun z => by
    by_cases hz : 0 ≤ z ∧ z < ms.length
    · obtain ⟨l0, h1, h2⟩ := Con.trl (fun k hk => (hr k hk).1) (spn_con hr hs hz.1 hz.2)
      obtain ⟨l1, h3⟩ := Trl.short l0.length l0 _ _ (Nat.le_refl _) h1 h2
      exact ⟨l1, fun _ _ => h3⟩
    · exact ⟨[], fun h1 h2 => absurd ⟨h1, h2⟩ hz⟩
  exact ⟨fun z => Classical.choose (h z), ⟨fun z => Classical.choose_spec (h z)⟩⟩
section
variable {X : List Nat} {w0 : World} {M0 : List Ent} {I0 : List Imm}
theorem Cycles_bad {p q : Option Addr} {N : Int} {ms : List LK} {m c t ct : Nat} (hm : ms.length = m) (hm2 : (m : Int) ≤ 9223372036854775807) (hc : gcode N ms ≠ 0) (hp : slI p (recs eK ms) ∈ I0) :
    CD Try.prog 41 [gv N p m c, .slice q t ct] X w0 M0 I0 (fun v M I => M0 = M ∧ I0 = I ∧ v = .tuple #[.slice none 0 0, .int .i64 (gcode N ms)]) := by
  have hC := fun M0 I0 h => gCheck_ok (X := X) (w0 := w0) (M0 := M0) (I0 := I0) (p := p) (N := N) (ms := ms) (c := c) hm hm2 h
  generalize gcode N ms = e at *
  refine enterD2 Try.func41 rfl Try.ntmps41 rfl ?_
  refine TD_seq ?_
  refine TD_region ?_
  (refine RD_boxA rfl rfl rfl ?_; intro b2; refine ⟨okF, ?_⟩)
  refine RD_freezeB .here ?_
  repeat (refine wXh ?_)
  (refine RD_callS rfl (hC _ _ memF) rfl rfl ?_; rintro _ _ _ ⟨rfl, rfl, rfl⟩; refine ⟨okF, ?_⟩)
  repeat (refine wXh ?_)
  refine ND_rets [4, 5] (by first | exact .inl rfl | exact .inr rfl) rfl rfl rfl _ _ subF incF (⟨rfl, rfl, rfl⟩)
theorem Cycles_f {p q : Option Addr} {n : Nat} {ms : List LK} {ls : List Int} {m c t ct : Nat} (hn : n ≤ 256) (hm : ms.length = m) (hm2 : m ≤ 1024) (hg : Gd ms n) (ht : ls.length = t) (ht2 : t ≤ 100000) (hf : fcode ms ls ≠ 0) (hp : slI p (recs eK ms) ∈ I0) (hq : slI q (recs (eI .i64) ls) ∈ I0) :
    CD Try.prog 41 [gv n p m c, .slice q t ct] X w0 M0 I0 (fun v M I => M0 = M ∧ I0 = I ∧ v = .tuple #[.slice none 0 0, .int .i64 (fcode ms ls)]) := by
  have hC := fun M0 I0 h => gCheck_ok (X := X) (w0 := w0) (M0 := M0) (I0 := I0) (p := p) (N := n) (ms := ms) (c := c) hm (by omega) h
  rw [gcode_gd (by omega) (by omega) hg] at hC
  have hF := fun M0 I0 h1 h2 => cForest_bad (X := X) (w0 := w0) (M0 := M0) (I0 := I0) (p := p) (q := q) (n := n) (c := c) (ct := ct) (by omega) hm (by omega) hg ht ht2 hf h1 h2
  generalize fcode ms ls = e at *
  refine enterD2 Try.func41 rfl Try.ntmps41 rfl ?_
  refine TD_seq ?_
  refine TD_region ?_
  (refine RD_boxA rfl rfl rfl ?_; intro b2; refine ⟨okF, ?_⟩)
  refine RD_freezeB .here ?_
  repeat (refine wXh ?_)
  (refine RD_callS rfl (hC _ _ memF) rfl rfl ?_; rintro _ _ _ ⟨rfl, rfl, rfl⟩; refine ⟨okF, ?_⟩)
  repeat (refine wXh ?_)
  (refine RD_callS rfl (hF _ _ memF memF) rfl rfl ?_; rintro _ _ _ ⟨rfl, rfl, rfl⟩; refine ⟨okF, ?_⟩)
  repeat (refine wXh ?_)
  refine ND_rets [4, 5] (by first | exact .inl rfl | exact .inr rfl) rfl rfl rfl _ _ subF incF (⟨rfl, rfl, rfl⟩)
set_option maxRecDepth 100000 in
set_option maxHeartbeats 1000000 in
theorem Cycles_s {p q : Option Addr} {n : Nat} {ms : List LK} {ls : List Int} {m c t ct : Nat} (hn : n ≤ 256) (hm : ms.length = m) (hm2 : m ≤ 1024) (hg : Gd ms n) (ht : ls.length = t) (ht2 : t ≤ 100000) (hf : fcode ms ls = 0) (hs : ¬ spn ms ls) (hp : slI p (recs eK ms) ∈ I0) (hq : slI q (recs (eI .i64) ls) ∈ I0) :
    CD Try.prog 41 [gv n p m c, .slice q t ct] X w0 M0 I0 (fun v M I => M0 = M ∧ I0 = I ∧ v = .tuple #[.slice none 0 0, .int .i64 6]) := by
  have hC := fun M0 I0 h => gCheck_ok (X := X) (w0 := w0) (M0 := M0) (I0 := I0) (p := p) (N := n) (ms := ms) (c := c) hm (by omega) h
  rw [gcode_gd (by omega) (by omega) hg] at hC
  have hF := fun M0 I0 h1 h2 => cForest_ok (X := X) (w0 := w0) (M0 := M0) (I0 := I0) (p := p) (q := q) (n := n) (c := c) (ct := ct) (by omega) hm (by omega) hg ht ht2 hf h1 h2
  refine enterD2 Try.func41 rfl Try.ntmps41 rfl ?_
  refine TD_seq ?_
  refine TD_region ?_
  (refine RD_boxA rfl rfl rfl ?_; intro b2; refine ⟨okF, ?_⟩)
  refine RD_freezeB .here ?_
  repeat (refine wXh ?_)
  (refine RD_callS rfl (hC _ _ memF) rfl rfl ?_; rintro _ _ _ ⟨rfl, rfl, rfl⟩; refine ⟨okF, ?_⟩)
  repeat (refine wXh ?_)
  (refine RD_callS rfl (hF _ _ memF memF) rfl rfl ?_; rintro _ _ _ ⟨rfl, b, u2, rfl, hu2, rfl⟩; refine ⟨okF, ?_⟩)
  repeat (refine wXh ?_)
  (refine RD_callS rfl (spans_ok (by omega) hm (by omega) hg hu2 memF) rfl rfl ?_; rintro _ _ _ ⟨rfl, rfl, u3, hu3, rfl⟩; refine ⟨okF, ?_⟩)
  rw [B_false (p := ∀ l ∈ ms, lo (es ms ls) l.a = lo (es ms ls) l.b) hs]
  repeat (refine wXh ?_)
  refine ND_rets [4, 5] (by first | exact .inl rfl | exact .inr rfl) rfl rfl rfl _ _ subF incF (⟨rfl, rfl, rfl⟩)
set_option maxRecDepth 100000 in
set_option maxHeartbeats 4000000 in
theorem Cycles_ok {p q : Option Addr} {n : Nat} {ms : List LK} {ls : List Int} {tr : Int → List Int} {m c t ct : Nat} (hn : n ≤ 256) (hm : ms.length = m) (hm2 : m ≤ 1024) (hg : Gd ms n) (ht : ls.length = t) (ht2 : t ≤ 1000) (hf : fcode ms ls = 0) (hs : spn ms ls) (htr : Trs ms ls tr) (hp : slI p (recs eK ms) ∈ I0) (hq : slI q (recs (eI .i64) ls) ∈ I0) :
    CD Try.prog 41 [gv n p m c, .slice q t ct] X w0 M0 I0 (fun v M I => M0 = M ∧ ∃ (q2 : Option Addr) (c2 : Nat) (rows : List CY), v = .tuple #[.slice q2 rows.length c2, .int .i64 0] ∧ rows.map CY.es = cyl tr ls m ∧ I = slI q2 (recs eC rows) :: allC rows :: I0) := by
  have hC := fun M0 I0 h => gCheck_ok (X := X) (w0 := w0) (M0 := M0) (I0 := I0) (p := p) (N := n) (ms := ms) (c := c) hm (by omega) h
  rw [gcode_gd (by omega) (by omega) hg] at hC
  have hfo := fcode_ok hf
  rw [hm] at hfo
  have hF := fun M0 I0 h1 h2 => cForest_ok (X := X) (w0 := w0) (M0 := M0) (I0 := I0) (p := p) (q := q) (n := n) (c := c) (ct := ct) (by omega) hm (by omega) hg ht (by omega) hf h1 h2
  refine enterD2 Try.func41 rfl Try.ntmps41 rfl ?_
  refine TD_seq ?_
  refine TD_region ?_
  (refine RD_boxA rfl rfl rfl ?_; intro b2; refine ⟨okF, ?_⟩)
  refine RD_freezeB .here ?_
  repeat (refine wXh ?_)
  (refine RD_callS rfl (hC _ _ memF) rfl rfl ?_; rintro _ _ _ ⟨rfl, rfl, rfl⟩; refine ⟨okF, ?_⟩)
  repeat (refine wXh ?_)
  (refine RD_callS rfl (hF _ _ memF memF) rfl rfl ?_; rintro _ _ _ ⟨rfl, b, u2, rfl, hu2, rfl⟩; refine ⟨okF, ?_⟩)
  repeat (refine wXh ?_)
  (refine RD_callS rfl (spans_ok (by omega) hm (by omega) hg hu2 memF) rfl rfl ?_; rintro _ _ _ ⟨rfl, rfl, u3, hu3, rfl⟩; refine ⟨okF, ?_⟩)
  rw [B_true (p := ∀ l ∈ ms, lo (es ms ls) l.a = lo (es ms ls) l.b) hs]
  repeat (refine wXh ?_)
  refine TD_row0 27 1 ?_
  refine TD_hv (Hv.cnil) ?_
  refine TD_loop [1, 2, 39, 40] rfl (fun k G M I => ∃ (i : Nat) (q3 : Option Addr) (c3 : Nat) (rows : List CY), i ≤ m ∧ k = m - i ∧ rows.map CY.es = cyl tr ls i ∧ G = [(9, .slice q3 rows.length c3), (41, .int .i64 i)] ∧ M = .row q3 rows.length c3 (recs eC rows) 27 1 :: M0 ∧ I = allC rows :: slI (some ⟨b2, 0, none⟩) [.int .i64 n, .slice p m c] :: I0) (m) _ _ _ subG subF incF (⟨0, none, 0, [], by omega, rfl, rfl, rfl, rfl, rfl⟩) ?_
  rintro kk G M I ⟨i, q3, c3, rows, hi, rfl, hrw, rfl, rfl, rfl⟩
  have hrl : rows.length ≤ i := by
    have := congrArg List.length hrw
    rw [List.length_map] at this
    rw [this]; exact cyl_len _ _ _
  by_cases him : i < m
  · have hA := hg.a (i : Int) (by omega) (by omega)
    have hB := hg.b (i : Int) (by omega) (by omega)
    have hti := htr.go (i : Int) (by omega) (by omega)
    have hR := fun M0 I0 h1 h2 => route_yes (X := X) (w0 := w0) (M0 := M0) (I0 := I0) (p := p) (q := q) (n := n) (c := c) (ct := ct) (by omega) hm (by omega) hg ht ht2 hfo.1 hfo.2.2 hti hB hA h1 h2
    have hlen := hti.len
    repeat (refine wXh ?_)
    (refine RD_alloc rfl rfl ?_; intro b11; refine ⟨okF, ?_⟩)
    repeat (refine wXh ?_)
    (refine RD_callS rfl (BinarySearch_ok ht (by omega) hfo.2.1 memF) rfl rfl ?_; rintro _ _ _ ⟨rfl, rfl, r, f, rfl, hbs⟩; refine ⟨okF, ?_⟩)
    cases f with
    | true =>
      have hmem := hbs.1 rfl
      repeat (refine wXh ?_)
      refine ND_again (m - (i + 1)) _ _ _ (by first | omega | (simp only [List.length_append, List.length_cons, List.length_nil]; omega)) subG subF incF (⟨i + 1, q3, c3, rows, by omega, rfl, by rw [cyl, if_pos hmem]; exact hrw, rfl, rfl, rfl⟩)
    | false =>
      have hmem : ¬ (i : Int) ∈ ls := fun h => absurd (hbs.2 h) (by decide)
      repeat (refine wXh ?_)
      (refine RD_vals (cs := recs (eI .i64) [(i : Int) + 1]) ([.int .i64 ((i : Int) + 1)]) rfl rfl (by intro v hv; repeat (first | exact absurd hv (List.not_mem_nil) | (rcases List.mem_cons.1 hv with rfl | hv; · rfl))) (by omega) rfl rfl rfl ?_; intro b14; refine ⟨okF, ?_⟩)
      refine RD_toRow (mm := 1) 1 repF rfl (by omega) ?_
      repeat (refine wXh ?_)
      (refine RD_callS rfl (hR _ _ memF memF) rfl rfl ?_; rintro _ _ _ ⟨rfl, q2, c2, l, rfl, hl, hl1, rfl⟩; refine ⟨okF, ?_⟩)
      have hll : l.length = (tr i).length := by rw [← hl, List.length_map]
      repeat (refine wXh ?_)
      refine TD_loop [1, 2, 9, 39, 40, 41, 66, 67] rfl (fun k G M I => ∃ (j : Nat) (q4 : Option Addr) (c4 : Nat) (xs : List Int), j ≤ l.length ∧ k = l.length - j ∧ xs = ((i : Int) + 1) :: (l.take j).map stp ∧ G = [(14, .slice q4 xs.length c4), (68, .int .i64 j)] ∧ M = .row q4 xs.length c4 (recs (eI .i64) xs) 3 1 :: .row q3 rows.length c3 (recs eC rows) 27 1 :: M0 ∧ I = slI q2 (recs eS l) :: allC rows :: slI (some ⟨b2, 0, none⟩) [.int .i64 n, .slice p m c] :: I0) (l.length) _ _ _ subG subF incF (⟨0, some ⟨b14, 0, none⟩, 1, [(i : Int) + 1], by omega, rfl, rfl, rfl, rfl, rfl⟩) ?_
      rintro kk G M I ⟨j, q4, c4, xs, hj, rfl, hxs, rfl, rfl, rfl⟩
      have hxl : xs.length = j + 1 := by rw [hxs, List.length_cons, List.length_map, List.length_take]; omega
      by_cases hjl : j < l.length
      · have hin : gt l (j : Int) ∈ l := gt_in ⟨by omega, by omega⟩
        obtain ⟨e, he⟩ : ∃ e, gt l (j : Int) = e := ⟨_, rfl⟩
        have h6 : xs ++ [stp e] = ((i : Int) + 1) :: (l.take (j + 1)).map stp := by rw [take_snoc hjl, List.map_append, hxs, he]; rfl
        rw [he] at hin
        have h0 := hl1 e hin
        have h7 := hfo.1 _ (hti.mem (stp e) (by rw [← hl]; exact List.mem_map.2 ⟨e, hin, rfl⟩))
        rw [(stp_ok h0).2] at h7
        have hse : (e.2 = true → 0 - (e.1 + 1) = stp e) ∧ (e.2 = false → e.1 + 1 = stp e) := by
          unfold stp
          refine ⟨fun h => ?_, fun h => ?_⟩
          · rw [if_pos h]; omega
          · rw [if_neg (by rw [h]; decide)]
        by_cases hb : e.2 = true
        · repeat (refine wXh ?_)
          rw [he]
          repeat (refine wXh ?_)
          (refine RD_alloc rfl rfl ?_; intro b18; refine ⟨okF, ?_⟩)
          rw [show eS e = [Value.int .i64 e.1, Value.bool e.2] from rfl]
          repeat (refine wXh ?_)
          rw [hb]
          repeat (refine wXh ?_)
          rw [hse.1 hb]
          (refine RD_vals (cs := recs (eI .i64) [stp e]) ([.int .i64 (stp e)]) rfl rfl (by intro v hv; repeat (first | exact absurd hv (List.not_mem_nil) | (rcases List.mem_cons.1 hv with rfl | hv; · rfl))) (by omega) rfl rfl rfl ?_; intro b19; refine ⟨okF, ?_⟩)
          (refine RD_appR (ys := [stp e]) 2 rfl rfl rfl ?_ (by decide) rfl (by omega) (by omega) rfl rfl ?_; (· first | exact Src.blk memF | exact Src.row memF | exact Src.imm memF (by first | assumption | exact .inl (Ok.mk _ _))); intro a5 c5; refine ⟨okF, ?_⟩)
          repeat (refine wXh ?_)
          refine ND_again (l.length - (j + 1)) _ _ _ (by first | omega | (simp only [List.length_append, List.length_cons, List.length_nil]; omega)) subG subF incF (⟨j + 1, a5, c5, xs ++ [stp e], by omega, rfl, h6, rfl, rfl, rfl⟩)
        · have hb2 : e.2 = false := by simpa using hb
          repeat (refine wXh ?_)
          rw [he]
          repeat (refine wXh ?_)
          (refine RD_alloc rfl rfl ?_; intro b18; refine ⟨okF, ?_⟩)
          rw [show eS e = [Value.int .i64 e.1, Value.bool e.2] from rfl]
          repeat (refine wXh ?_)
          rw [hb2]
          repeat (refine wXh ?_)
          rw [hse.2 hb2]
          (refine RD_vals (cs := recs (eI .i64) [stp e]) ([.int .i64 (stp e)]) rfl rfl (by intro v hv; repeat (first | exact absurd hv (List.not_mem_nil) | (rcases List.mem_cons.1 hv with rfl | hv; · rfl))) (by omega) rfl rfl rfl ?_; intro b19; refine ⟨okF, ?_⟩)
          (refine RD_appR (ys := [stp e]) 2 rfl rfl rfl ?_ (by decide) rfl (by omega) (by omega) rfl rfl ?_; (· first | exact Src.blk memF | exact Src.row memF | exact Src.imm memF (by first | assumption | exact .inl (Ok.mk _ _))); intro a5 c5; refine ⟨okF, ?_⟩)
          repeat (refine wXh ?_)
          refine ND_again (l.length - (j + 1)) _ _ _ (by first | omega | (simp only [List.length_append, List.length_cons, List.length_nil]; omega)) subG subF incF (⟨j + 1, a5, c5, xs ++ [stp e], by omega, rfl, h6, rfl, rfl, rfl⟩)
      · obtain rfl : j = l.length := by omega
        rw [List.take_length, hl] at hxs
        repeat (refine wXh ?_)
        refine RD_freezeR .here ?_
        (refine RD_vals (cs := recs eC [⟨q4, c4, xs⟩]) ([.slice q4 xs.length c4]) rfl rfl (by intro v hv; repeat (first | exact absurd hv (List.not_mem_nil) | (rcases List.mem_cons.1 hv with rfl | hv; · rfl))) (by omega) rfl rfl rfl ?_; intro b20; refine ⟨okF, ?_⟩)
        (refine RD_appR (ys := [⟨q4, c4, xs⟩]) 1 rfl rfl rfl ?_ (by decide) rfl (by omega) (by omega) rfl rfl ?_; (· first | exact Src.blk memF | exact Src.row memF | exact Src.imm memF (by first | assumption | exact .inl (Ok.mk _ _))); intro a5 c5; refine ⟨okF, ?_⟩)
        refine RD_hv (Hv.csnoc (rows := rows) (r := ⟨q4, c4, xs⟩) memF memF) ?_
        repeat (refine wXh ?_)
        refine ND_again (m - (i + 1)) _ _ _ (by first | omega | (simp only [List.length_append, List.length_cons, List.length_nil]; omega)) subG subF incF (⟨i + 1, a5, c5, rows ++ [⟨q4, c4, xs⟩], by omega, rfl, by rw [cyl, if_neg hmem, List.map_append, hrw, hxs]; rfl, rfl, rfl, rfl⟩)
  · obtain rfl : i = m := by omega
    repeat (refine wXh ?_)
    refine ND_freezeR .here ?_
    refine ND_rets [4, 5] (by first | exact .inl rfl | exact .inr rfl) rfl rfl rfl _ _ subF incF (⟨rfl, q3, c3, rows, rfl, hrw, rfl⟩)
end
end Go.Proofs.Ytkhgglkkdnemlaa

/- Plain: a breadth-first search with the step that reached each node. Forest: the program's route, walked. -/
import Derived.Test.YtkhgglkkdnemlaaZhaf
import Derived.Test.YtkhgglkkdnemlaaZhaq
import Derived.Test.YtkhgglkkdnemlaaZhai
set_option linter.unusedSimpArgs false
set_option linter.unusedVariables false
namespace Go.Proofs.Ytkhgglkkdnemlaa
open Go Go.Fx
def stp (c : Int × Bool) : Int := if c.2 then -c.1 - 1 else c.1 + 1
def Sn (n : Nat) (sn : List Bool) (x : Int) : Prop := (0 ≤ x ∧ x < n) ∧ gt sn x = true
/-- the state of the search; pt: the way to each node seen -/
structure BI (ms : List LK) (T : List Int) (n : Nat) (u : Int) (sn : List Bool) (sp : List (Int × Bool)) (pt : Int → List Int) : Prop where
  ln : sn.length = n
  lp : sp.length = n
  su : Sn n sn u
  p0 : pt u = []
  tr : ∀ x, Sn n sn x → Trail ms T (pt x) u x ∧ ∀ s ∈ pt x, Sn n sn (sa ms s) ∧ Sn n sn (sb ms s)
  pa : ∀ x, Sn n sn x → x ≠ u → 0 ≤ (gt sp x).1 ∧ (gt sp x).1 ∈ T ∧ sb ms (stp (gt sp x)) = x ∧ Sn n sn (sa ms (stp (gt sp x))) ∧ pt x = pt (sa ms (stp (gt sp x))) ++ [stp (gt sp x)]
  le : ∀ x, Sn n sn x → (pt x).length + 1 ≤ cnt n (fun v => gt sn v)
theorem Trail.snoc {ms : List LK} {T l : List Int} {u s : Int} (h : Trail ms T l u (sa ms s)) (hs : s ≠ 0) (hk : sk s ∈ T) (hn : ∀ x ∈ l, sk x ≠ sk s) : Trail ms T (l ++ [s]) u (sb ms s) :=
  ⟨Trl.app.2 ⟨_, h.trl, .cons hs (.nil _)⟩, fun x hx => by
    rcases List.mem_append.1 hx with h1 | h1
    · exact h.mem x h1
    · rw [List.mem_singleton.1 h1]; exact hk, by
    rw [List.map_append, List.nodup_append]
    refine ⟨h.nod, by simp, fun a ha b hb => ?_⟩
    obtain ⟨x, hx, rfl⟩ := List.mem_map.1 ha
    have hb2 : b = sk s := by simpa using hb
    rw [hb2]
    exact hn x hx⟩
theorem sb_neg {ms : List LK} {s : Int} (h : s ≠ 0) : sb ms (-s) = sa ms s := by
  have h1 := sa_neg (ms := ms) (s := -s) (by omega)
  rw [Int.neg_neg] at h1
  exact h1.symm
theorem stp_ok {c : Int × Bool} (h : 0 ≤ c.1) : stp c ≠ 0 ∧ sk (stp c) = c.1 := by
  unfold stp
  split
  · exact ⟨(bwd (ms := []) h).1, (bwd (ms := []) h).2.1⟩
  · exact ⟨(fwd (ms := []) h).1, (fwd (ms := []) h).2.1⟩
theorem Sn.st {n : Nat} {sn : List Bool} {z x : Int} (hl : sn.length = n) (hz : 0 ≤ z ∧ z < n) : Sn n (st sn z true) x ↔ x = z ∨ Sn n sn x := by
  unfold Sn
  constructor
  · rintro ⟨h1, h2⟩
    rw [gt_st _ (by omega) h1.1] at h2
    by_cases e : x = z
    · exact .inl e
    · rw [if_neg e] at h2; exact .inr ⟨h1, h2⟩
  · rintro (rfl | ⟨h1, h2⟩)
    · exact ⟨hz, by rw [gt_st _ (by omega) hz.1, if_pos rfl]⟩
    · refine ⟨h1, ?_⟩
      rw [gt_st _ (by omega) h1.1]
      split
      · rfl
      · exact h2
def pset (pt : Int → List Int) (z : Int) (l : List Int) (v : Int) : List Int := if v = z then l else pt v
theorem BI.start {ms : List LK} {T : List Int} {n : Nat} {u : Int} {sp : List (Int × Bool)} (hu : 0 ≤ u ∧ u < n) (lp : sp.length = n) : BI ms T n u (st (List.replicate n false) u true) sp (fun _ => []) := by
  have hl : (List.replicate n false).length = n := List.length_replicate
  have hS : ∀ x, Sn n (st (List.replicate n false) u true) x → x = u := fun x hx => by
    rcases (Sn.st hl hu).1 hx with h | h
    · exact h
    · have h1 := h.2
      obtain ⟨y, rfl⟩ : ∃ y : Nat, x = y := ⟨x.toNat, by have := h.1; omega⟩
      rw [gt_get (by have := h.1; omega)] at h1
      simp at h1
  have hSu : Sn n (st (List.replicate n false) u true) u := (Sn.st hl hu).2 (.inl rfl)
  refine ⟨by rw [st_len, hl], lp, hSu, rfl, fun x hx => ?_, fun x hx hne => absurd (hS x hx) hne, fun x hx => ?_⟩
  · rw [hS x hx]; exact ⟨Trail.same_end, fun s hs => absurd hs (by simp)⟩
  · have := cnt_lt (n := n) (p := fun _ => false) (q := fun v => gt (Fx.st (List.replicate n false) u true) v) (fun x _ _ h => absurd h (by simp)) hu.1 hu.2 rfl hSu.2
    simp only [List.length_nil]
    omega
theorem BI.add {ms : List LK} {T : List Int} {n : Nat} {u y z : Int} {c : Int × Bool} {sn : List Bool} {sp : List (Int × Bool)} {pt : Int → List Int} (h : BI ms T n u sn sp pt) (hc : 0 ≤ c.1) (hcT : c.1 ∈ T) (hy : Sn n sn y) (hya : sa ms (stp c) = y) (hzb : sb ms (stp c) = z) (hz : 0 ≤ z ∧ z < n) (hnz : ¬ Sn n sn z) :
    BI ms T n u (st sn z true) (st sp z c) (pset pt z (pt y ++ [stp c])) := by
  have hS := fun x => Sn.st (x := x) h.ln hz
  obtain ⟨s0, s1⟩ := stp_ok hc
  have hne : ∀ x, Sn n sn x → x ≠ z := fun x hx e => hnz (e ▸ hx)
  have hcnt : cnt n (fun v => gt sn v) < cnt n (fun v => gt (Fx.st sn z true) v) := cnt_lt (fun x h0 hx hp => ((hS x).2 (.inr ⟨⟨h0, hx⟩, hp⟩)).2) hz.1 hz.2 (by
    cases e : gt sn z
    · rfl
    · exact absurd ⟨hz, e⟩ hnz) ((hS z).2 (.inl rfl)).2
  have hpy : pset pt z (pt y ++ [stp c]) y = pt y := if_neg (hne y hy)
  refine ⟨by rw [st_len, h.ln], by rw [st_len, h.lp], (hS u).2 (.inr h.su), ?_, fun x hx => ?_, fun x hx hxu => ?_, fun x hx => ?_⟩
  · rw [pset, if_neg (hne u h.su)]; exact h.p0
  · rcases (hS x).1 hx with rfl | hx2
    · rw [pset, if_pos rfl]
      have ht := h.tr y hy
      refine ⟨?_, fun s hs => ?_⟩
      · rw [← hzb]
        refine Trail.snoc (by rw [hya]; exact ht.1) s0 (by rw [s1]; exact hcT) (fun s' hs' e => ?_)
        have hss := ht.2 s' hs'
        have hs0' : s' ≠ 0 := fun e0 => by
          obtain ⟨l1, l2, e3⟩ := List.append_of_mem hs'
          have h5 := ht.1.trl
          rw [e3] at h5
          obtain ⟨w, _, h6⟩ := Trl.app.1 h5
          exact h6.inv.1 e0
        rcases sk_two e hs0' s0 with e1 | e1
        · rw [e1, hzb] at hss; exact hnz hss.2
        · rw [e1, sa_neg s0, hzb] at hss; exact hnz hss.1
      · rcases List.mem_append.1 hs with h1 | h1
        · exact ⟨(hS _).2 (.inr (ht.2 s h1).1), (hS _).2 (.inr (ht.2 s h1).2)⟩
        · rw [List.mem_singleton.1 h1, hya, hzb]
          exact ⟨(hS _).2 (.inr hy), (hS _).2 (.inl rfl)⟩
    · rw [pset, if_neg (hne x hx2)]
      exact ⟨(h.tr x hx2).1, fun s hs => ⟨(hS _).2 (.inr ((h.tr x hx2).2 s hs).1), (hS _).2 (.inr ((h.tr x hx2).2 s hs).2)⟩⟩
  · rcases (hS x).1 hx with rfl | hx2
    · rw [gt_st _ (by rw [h.lp]; exact hz) hz.1, if_pos rfl]
      refine ⟨hc, hcT, hzb, ?_, ?_⟩
      · rw [hya]; exact (hS _).2 (.inr hy)
      · rw [hya, hpy, pset, if_pos rfl]
    · rw [gt_st _ (by rw [h.lp]; exact hz) hx2.1.1, if_neg (hne x hx2)]
      obtain ⟨g1, g2, g3, g4, g5⟩ := h.pa x hx2 hxu
      refine ⟨g1, g2, g3, (hS _).2 (.inr g4), ?_⟩
      rw [pset, pset, if_neg (hne x hx2), if_neg (hne _ g4)]
      exact g5
  · rcases (hS x).1 hx with rfl | hx2
    · have := h.le y hy
      rw [pset, if_pos rfl, List.length_append, List.length_singleton]
      omega
    · have := h.le x hx2
      rw [pset, if_neg (hne x hx2)]
      omega
/-- a node whose links have all been followed -/
def Dn (ms : List LK) (n : Nat) (sn : List Bool) (T : List Int) (x : Int) : Prop := ∀ k ∈ T, ((gt ms k).a = x → Sn n sn (gt ms k).b) ∧ ((gt ms k).b = x → Sn n sn (gt ms k).a)
theorem BI.closed {ms : List LK} {T : List Int} {n : Nat} {u : Int} {sn : List Bool} {sp : List (Int × Bool)} {pt : Int → List Int} (h : BI ms T n u sn sp pt) (hd : ∀ x, Sn n sn x → Dn ms n sn T x) {v : Int} (hv : ¬ Sn n sn v) (l : List Int) : ¬ Trail ms T l u v := fun ht => by
  have key : ∀ x y, Con (es ms T) x y → (Sn n sn x ↔ Sn n sn y) := fun x y hc => by
    induction hc with
    | refl x => exact Iff.rfl
    | @link a b hab =>
      obtain ⟨k, hk, e⟩ := List.mem_map.1 hab
      have e1 : (gt ms k).a = a := congrArg Prod.fst e
      have e2 : (gt ms k).b = b := congrArg Prod.snd e
      constructor
      · intro hx; have := (hd a hx k hk).1 e1; rwa [e2] at this
      · intro hx; have := (hd b hx k hk).2 e2; rwa [e1] at this
    | symm _ ih => exact ih.symm
    | trans _ _ ih1 ih2 => exact ih1.trans ih2
  exact hv ((key u v ht.con).1 h.su)
theorem BI.grow {ms : List LK} {T : List Int} {n : Nat} {u y z : Int} {sn : List Bool} {sp : List (Int × Bool)} {pt : Int → List Int} {Q : List Int} {K0 len i : Nat} (h : BI ms T n u sn sp pt) (hz : 0 ≤ z ∧ z < n) (hnz : ¬ Sn n sn z) (hQ : Q.length = len) (hys : Sn n sn y) (hQs : ∀ x ∈ Q, Sn n sn x)
    (hdn : ∀ x, Sn n sn x → x ∈ Q ∨ x = y ∨ Dn ms n sn T x) (hpd : ∀ j : Nat, j < i → ((gt ms (gt T j)).a = y → Sn n sn (gt ms (gt T j)).b) ∧ ((gt ms (gt T j)).b = y → Sn n sn (gt ms (gt T j)).a)) (hle : len + (n - cnt n (fun v => gt sn v)) + 1 ≤ K0)
    (hl : ((gt ms (gt T i)).a = y → Sn n (Fx.st sn z true) (gt ms (gt T i)).b) ∧ ((gt ms (gt T i)).b = y → Sn n (Fx.st sn z true) (gt ms (gt T i)).a)) :
    (Q ++ [z]).length = len + 1 ∧ Sn n (Fx.st sn z true) y ∧ (∀ x ∈ Q ++ [z], Sn n (Fx.st sn z true) x) ∧ (∀ x, Sn n (Fx.st sn z true) x → x ∈ Q ++ [z] ∨ x = y ∨ Dn ms n (Fx.st sn z true) T x) ∧
    (∀ j : Nat, j < i + 1 → ((gt ms (gt T j)).a = y → Sn n (Fx.st sn z true) (gt ms (gt T j)).b) ∧ ((gt ms (gt T j)).b = y → Sn n (Fx.st sn z true) (gt ms (gt T j)).a)) ∧ len + 1 + (n - cnt n (fun v => gt (Fx.st sn z true) v)) + 1 ≤ K0 := by
  have hS := fun x => Sn.st (x := x) h.ln hz
  have hm : ∀ x, Sn n sn x → Sn n (Fx.st sn z true) x := fun x hx => (hS x).2 (.inr hx)
  have hcnt : cnt n (fun v => gt sn v) < cnt n (fun v => gt (Fx.st sn z true) v) := cnt_lt (fun x h0 hx hp => (hm x ⟨⟨h0, hx⟩, hp⟩).2) hz.1 hz.2 (by
    cases e : gt sn z
    · rfl
    · exact absurd ⟨hz, e⟩ hnz) ((hS z).2 (.inl rfl)).2
  have hcn := cnt_le n (fun v => gt (Fx.st sn z true) v)
  refine ⟨by rw [List.length_append, hQ]; rfl, hm y hys, fun x hx => ?_, fun x hx => ?_, fun j hj => ?_, by omega⟩
  · rcases List.mem_append.1 hx with h1 | h1
    · exact hm x (hQs x h1)
    · rw [List.mem_singleton.1 h1]; exact (hS z).2 (.inl rfl)
  · rcases (hS x).1 hx with rfl | h1
    · exact .inl (by simp)
    · rcases hdn x h1 with h2 | h2 | h2
      · exact .inl (by simp [h2])
      · exact .inr (.inl h2)
      · exact .inr (.inr (fun k hk => ⟨fun e => hm _ ((h2 k hk).1 e), fun e => hm _ ((h2 k hk).2 e)⟩))
  · by_cases e : j = i
    · subst e; exact hl
    · have := hpd j (by omega)
      exact ⟨fun e => hm _ (this.1 e), fun e => hm _ (this.2 e)⟩
end Go.Proofs.Ytkhgglkkdnemlaa
namespace Go.Proofs.Ytkhgglkkdnemlaa
open Go Go.Fx
theorem made_recsF {α : Type} {enc : α → List Value} {sz : Nat} [h : Sized enc sz] (hsz : 0 < sz) (zz : α) (mm : Nat) : (madeCells (enc zz).toArray (mm * sz)).toList = recs enc (List.replicate mm zz) := by
  have hl : (enc zz).length = sz := h.len zz
  apply List.ext_getElem
  · rw [Array.length_toList, size_madeCells, recs_len, List.length_replicate]
  · intro i h1 h2
    rw [Array.length_toList, size_madeCells] at h1
    have hq : i / sz < mm := by rw [Nat.div_lt_iff_lt_mul hsz]; exact h1
    have hr : i % sz < sz := Nat.mod_lt _ hsz
    have hv : (enc zz)[i % sz]? = some ((enc zz)[i % sz]'(by omega)) := List.getElem?_eq_getElem (by omega)
    have := recs_nat (enc := enc) (List.replicate mm zz) (i / sz) (i % sz) zz _ (by rw [List.getElem?_replicate, if_pos hq]) hv
    rw [Nat.div_add_mod'] at this
    have h3 := (List.getElem?_eq_some_iff.1 this).2
    rw [h3]
    simp [madeCells, hl, hr]
theorem RD_ixQ {P : Program} {n : Nat} {Q : Exit → Act → World → Prop} {G : Env} {X : List Nat} {w0 : World} {M : List Ent} {I : List Imm} {ops l : List Oper} {m : Fx.Mode} {ty : TypeId} {pos : String} {af : Array Edge} {g : Option (Nat × Bool)} {d : Nat} {t e : TypeId} {sz : Nat} {x ix : Operand} {b o len c : Nat} {k' : IntKind} {i : Int} [SliceTy P t e sz] (hx : ev G x = some (.slice (some ⟨b, o, none⟩) len c)) (hi : ev G ix = some (.int k' i)) (h : 0 ≤ i ∧ i < len) (hg : gst ops G g = some true)
    (hd : Nat.ble (d + 1) n = true) (k : RD P n ops Q m.next l ((d, .pointer (some ⟨b, o + i.toNat * sz, none⟩)) :: G) X w0 M I) : RD P n ops Q m (⟨some d, .indexAddr t x ix, ty, pos, af, g⟩ :: l) G X w0 M I :=
  RD_c hg (fun _ => by
    have := Const_indexS (n := n) (ty := ty) (P := P) (G := G) (t := t) (e := e) (sz := sz) hx hi h (Ok.mk b o) (C := fun _ => True)
    refine ⟨fun a ha dst pos after guard w _ => ?_⟩
    have h2 := this.go a ha dst pos after guard w True.intro
    simpa [pt, bl, of] using h2) rfl hd k
section
variable {X : List Nat} {w0 : World} {M0 : List Ent} {I0 : List Imm}
set_option maxRecDepth 100000 in
set_option maxHeartbeats 4000000 in
theorem route_ok {p q : Option Addr} {n m c t ct : Nat} {ms : List LK} {T : List Int} {u v : Int} (hn : n ≤ 256) (hm : ms.length = m) (hm2 : m ≤ 1024) (hg : Gd ms n) (hT : T.length = t) (ht : t ≤ 1000) (hr : inR m T) (hu : 0 ≤ u ∧ u < n) (hv : 0 ≤ v ∧ v < n) (hp : slI p (recs eK ms) ∈ I0) (hq : slI q (recs (eI .i64) T) ∈ I0) :
    CD Try.prog 64 [gv n p m c, .slice q t ct, .int .i64 u, .int .i64 v] X w0 M0 I0 (fun r M I => M0 = M ∧ ∃ (q2 : Option Addr) (c2 : Nat) (l : List (Int × Bool)) (f : Bool), r = .tuple #[.slice q2 l.length c2, .bool f] ∧ Stp ms T u v (l.map stp) f ∧ (∀ x ∈ l, 0 ≤ x.1) ∧ I = slI q2 (recs eS l) :: I0) := by
  refine enterD4 Try.func64 rfl Try.ntmps64 rfl ?_
  refine TD_seq ?_
  refine TD_region ?_
  (refine RD_boxA rfl rfl rfl ?_; intro b4; refine ⟨okF, ?_⟩)
  refine RD_freezeB .here ?_
  repeat (refine wXh ?_)
  refine TD_scope ?_
  by_cases huv : u = v
  · subst huv
    repeat (refine wXh ?_)
    refine ND_noR ?_
    refine ND_nilS none ?_
    refine ND_rets [8, 9] (by first | exact .inl rfl | exact .inr rfl) rfl rfl rfl _ _ subF incF (⟨rfl, none, 0, [], true, rfl, Stp.of Trail.same_end, by simp, rfl⟩)
  repeat (refine wXh ?_)
  (refine RD_makeX (n) rfl rfl (by omega) (by omega) (by omega) (by omega) (made_recsF (enc := eS) (by decide) ((0 : Int), false) _) rfl rfl ?_; intro b10; refine ⟨okF, ?_⟩)
  repeat (refine wXh ?_)
  (refine RD_makeX (n) rfl rfl (by omega) (by omega) (by omega) (by omega) (made_bool _) rfl rfl ?_; intro b11; refine ⟨okF, ?_⟩)
  have hl1 : (List.replicate n false).length = n := List.length_replicate
  repeat (refine wXh ?_)
  (refine RD_vals (cs := recs (eI .i64) [u]) ([.int .i64 u]) rfl rfl (by intro v hv; repeat (first | exact absurd hv (List.not_mem_nil) | (rcases List.mem_cons.1 hv with rfl | hv; · rfl))) (by omega) rfl rfl rfl ?_; intro b12; refine ⟨okF, ?_⟩)
  refine RD_c rfl (fun _ => Const_pure rfl) rfl rfl ?_
  refine RD_nil ?_
  refine ND_then ?_
  refine TD_seq ?_
  refine TD_label ?_
  refine ND_then ?_
  refine TD_seq ?_
  have hb0 := BI.start (ms := ms) (T := T) hu (sp := List.replicate n ((0 : Int), false)) List.length_replicate
  refine TD_cutT (fun G M I => ∃ (sn : List Bool) (sp : List (Int × Bool)) (pt : Int → List Int), BI ms T n u sn sp pt ∧ (Sn n sn v ∨ ∀ l, ¬ Trail ms T l u v) ∧ G = [(2, .int .i64 u), (3, .int .i64 v), (4, .pointer (some ⟨b4, 0, none⟩)), (10, .slice (some ⟨b10, 0, none⟩) n n), (11, .slice (some ⟨b11, 0, none⟩) n n)] ∧ M = .blk b11 (recs eB sn) 4 :: .blk b10 (recs eS sp) 77 :: M0 ∧ I = slI (some ⟨b4, 0, none⟩) [.int .i64 n, .slice p m c] :: I0) ?_ ?_
  · refine TD_block ?_
    refine TD_loop [1, 2, 3, 4, 10, 11] rfl (fun k G M I => ∃ (sn : List Bool) (sp : List (Int × Bool)) (pt : Int → List Int) (bq off len c2 : Nat) (qc : List Value) (Q : List Int), BI ms T n u sn sp pt ∧ Q.length = len ∧ (∀ x ∈ Q, Sn n sn x) ∧ (∀ x, Sn n sn x → x ∈ Q ∨ Dn ms n sn T x) ∧ k = len + (n - cnt n (fun v => gt sn v)) ∧ len + (n - cnt n (fun v => gt sn v)) ≤ n ∧ off + c2 ≤ qc.length ∧ len ≤ c2 ∧ (qc.drop off).take len = recs (eI .i64) Q ∧ G = [(12, .slice (some ⟨bq, off, none⟩) len c2)] ∧ M = .blk bq qc 3 :: .blk b11 (recs eB sn) 4 :: .blk b10 (recs eS sp) 77 :: M0 ∧ I = slI (some ⟨b4, 0, none⟩) [.int .i64 n, .slice p m c] :: I0) (1 + (n - cnt n (fun v => gt (st (List.replicate n false) u true) v))) _ _ _ subG subF incF (⟨_, _, _, b12, 0, 1, 1, _, [u], hb0, rfl, fun x hx => by rw [List.mem_singleton.1 hx]; exact hb0.su, fun x hx => .inl (by rcases (Sn.st hl1 hu).1 hx with h | h; · { exact List.mem_singleton.2 h }; · { exact absurd h.2 (by rw [gt_rep h.1]; decide) }), rfl, by { have := hb0.le u hb0.su; have := cnt_le n (fun v => gt (st (List.replicate n false) u true) v); omega }, by simp [recs, eI], by decide, rfl, rfl, rfl, rfl⟩) ?_
    rintro kk G M I ⟨sn, sp, pt, bq, off, len, c2, qc, Q, hbi, hQ, hQs, hdn, rfl, hkn, hoc, hlc, hqc, rfl, rfl, rfl⟩
    have hln := hbi.ln
    have hlp := hbi.lp
    by_cases hl0 : len = 0
    · have hQn : Q = [] := List.eq_nil_of_length_eq_zero (by omega)
      subst hQn
      have hres : Sn n sn v ∨ ∀ l, ¬ Trail ms T l u v := by
        by_cases h : Sn n sn v
        · exact .inl h
        · exact .inr (fun l => hbi.closed (fun x hx => (hdn x hx).resolve_left (by simp)) h l)
      repeat (refine wXh ?_)
      refine ND_cut _ _ _ subG subF incF ⟨sn, sp, pt, hbi, hres, rfl, rfl, rfl⟩
    obtain ⟨y, Q', rfl⟩ : ∃ y Q', Q = y :: Q' := by
      cases Q with
      | nil => exact absurd hQ.symm (by simpa using hl0)
      | cons y Q' => exact ⟨y, Q', rfl⟩
    have hq0 : qc[off + (0 : Int).toNat * 1]? = some (.int .i64 y) := by
      have := congrArg (fun l : List Value => l[0]?) hqc
      simp only [List.getElem?_take, List.getElem?_drop] at this
      rw [if_pos (by omega)] at this
      simpa [recs, eI] using this
    obtain ⟨off', hcut, hoc', hqc'⟩ : ∃ off' : Nat, cutA (some ⟨bq, off, none⟩) c2 1 1 = some ⟨bq, off', none⟩ ∧ off' + (c2 - 1) ≤ qc.length ∧ (qc.drop off').take (len - 1) = recs (eI .i64) Q' := by
      unfold cutA
      by_cases hc1 : c2 = 1
      · refine ⟨off, by rw [if_pos hc1], by omega, ?_⟩
        have : Q' = [] := List.eq_nil_of_length_eq_zero (by simp at hQ; omega)
        subst this
        rw [show len - 1 = 0 by omega, List.take_zero]
        rfl
      · refine ⟨off + 1, by rw [if_neg hc1]; simp [add_lit], by omega, ?_⟩
        rw [← List.drop_drop]
        have h2 : ((qc.drop off).take len).drop 1 = (recs (eI .i64) (y :: Q')).drop 1 := by rw [hqc]
        rw [List.drop_take] at h2
        exact h2
    repeat (refine wXh ?_)
    refine RD_ixQ rfl rfl (by omega) rfl rfl ?_
    refine RD_ldB (by first | exact View.seq | exact View.any | exact View.one rfl) rfl memF (At.mk hq0) rfl rfl ?_
    repeat (refine wXh ?_)
    refine RD_c rfl (fun _ => Const_cut (e := 3) (sz := 1) 1 len (len - 1) rfl (.inr ⟨_, _, _, rfl, rfl, rfl⟩) (.inl ⟨rfl, rfl⟩) (by omega) (by omega) rfl) rfl rfl ?_
    rw [hcut]
    obtain ⟨K0, hK0⟩ : ∃ K, len + (n - cnt n (fun v => gt sn v)) = K := ⟨_, rfl⟩
    have hle0 : len - 1 + (n - cnt n (fun v => gt sn v)) + 1 ≤ K0 := by omega
    have hlQ : Q'.length = len - 1 := by simp at hQ; omega
    have hys : Sn n sn y := hQs y (by simp)
    have hQs' : ∀ x ∈ Q', Sn n sn x := fun x hx => hQs x (by simp [hx])
    have hdn' : ∀ x, Sn n sn x → x ∈ Q' ∨ x = y ∨ Dn ms n sn T x := fun x hx => by
      rcases hdn x hx with h | h
      · rcases List.mem_cons.1 h with h | h
        · exact .inr (.inl h)
        · exact .inl h
      · exact .inr (.inr h)
    rw [hK0] at hkn ⊢
    repeat (refine wXh ?_)
    refine TD_loop [1, 2, 3, 4, 10, 11, 13, 44, 45] rfl (fun k G M I => ∃ (i : Nat) (sn : List Bool) (sp : List (Int × Bool)) (pt : Int → List Int) (bq off len c2 : Nat) (qc : List Value) (Q : List Int), i ≤ t ∧ k = t - i ∧ BI ms T n u sn sp pt ∧ Q.length = len ∧ Sn n sn y ∧ (∀ x ∈ Q, Sn n sn x) ∧ (∀ x, Sn n sn x → x ∈ Q ∨ x = y ∨ Dn ms n sn T x) ∧ (∀ j : Nat, j < i → ((gt ms (gt T j)).a = y → Sn n sn (gt ms (gt T j)).b) ∧ ((gt ms (gt T j)).b = y → Sn n sn (gt ms (gt T j)).a)) ∧ len + (n - cnt n (fun v => gt sn v)) + 1 ≤ K0 ∧ off + c2 ≤ qc.length ∧ len ≤ c2 ∧ (qc.drop off).take len = recs (eI .i64) Q ∧ G = [(12, .slice (some ⟨bq, off, none⟩) len c2), (46, .int .i64 i)] ∧ M = .blk bq qc 3 :: .blk b11 (recs eB sn) 4 :: .blk b10 (recs eS sp) 77 :: M0 ∧ I = slI (some ⟨b4, 0, none⟩) [.int .i64 n, .slice p m c] :: I0) (t) _ _ _ subG subF incF (⟨0, sn, sp, pt, bq, off', len - 1, c2 - 1, qc, Q', by omega, rfl, hbi, hlQ, hys, hQs', hdn', fun j hj => by omega, hle0, hoc', by omega, hqc', rfl, rfl, rfl⟩) ?_
    clear hbi hlQ hys hQs' hdn' hle0 hoc' hqc' hoc hlc hqc hQ hQs hdn hcut hq0 hl0 hln hlp hK0 hb0
    rintro kk G M I ⟨i, sn, sp, pt, bq, off, len, c2, qc, Q, hi, rfl, hbi, hQ, hys, hQs, hdn, hpd, hle, hoc, hlc, hqc, rfl, rfl, rfl⟩
    have hln := hbi.ln
    have hlp := hbi.lp
    have hes : (eS (gt T (i : Int), false)).length = 2 := rfl
    by_cases hit : i < t
    rotate_left
    · obtain rfl : i = t := by omega
      have hdn2 : ∀ x, Sn n sn x → x ∈ Q ∨ Dn ms n sn T x := fun x hx => by
        rcases hdn x hx with h | h | h
        · exact .inl h
        · subst h
          exact .inr (fun k hk => by
            obtain ⟨j, hj, rfl⟩ := List.mem_iff_getElem.1 hk
            have := hpd j (by omega)
            rwa [gt_get hj] at this)
        · exact .inr h
      repeat (refine wXh ?_)
      refine ND_again (len + (n - cnt n (fun v => gt sn v))) _ _ _ (by first | omega | (simp only [List.length_append, List.length_cons, List.length_nil]; omega)) subG subF incF (⟨sn, sp, pt, bq, off, len, c2, qc, Q, hbi, hQ, hQs, hdn2, rfl, by omega, hoc, hlc, hqc, rfl, rfl, rfl⟩)
    have hz1 := inR_gt hr (j := i) (by omega)
    have hzT : gt T (i : Int) ∈ T := by rw [gt_get (by omega)]; exact List.getElem_mem _
    obtain ⟨z, hz⟩ : ∃ z, gt T (i : Int) = z := ⟨_, rfl⟩
    have hpz := fun h1 j (hj : j < i + 1) => (by
      by_cases e : j = i
      · subst e; rw [hz]; exact h1
      · exact hpd j (by omega) : ((gt ms (gt T (j : Int))).a = y → Sn n sn (gt ms (gt T (j : Int))).b) ∧ ((gt ms (gt T (j : Int))).b = y → Sn n sn (gt ms (gt T (j : Int))).a))
    rw [hz] at hz1 hzT hes
    have hA := hg.a z hz1.1 (by omega)
    have hB := hg.b z hz1.1 (by omega)
    repeat (refine wXh ?_)
    rw [hz]
    repeat (refine wXh ?_)
    (refine RD_alloc rfl rfl ?_; intro b16; refine ⟨okF, ?_⟩)
    repeat (refine wXh ?_)
    (refine RD_c rfl (fun _ => Const_struct (pvs := ([.int .i64 z]).zipIdx.map (fun p => (p.2, p.1))) (cells := eS (z, false)) rfl rfl) rfl rfl ?_)
    repeat (refine wXh ?_)
    (refine RD_alloc rfl rfl ?_; intro b18; refine ⟨okF, ?_⟩)
    by_cases hay : (gt ms z).a = y
    · have hfw := fwd (ms := ms) hz1.1
      have hstp : stp (z, false) = z + 1 := rfl
      have hEr := hB
      by_cases hse : gt sn (gt ms z).b = true
      · have hSE : Sn n sn (gt ms z).b := ⟨hEr, hse⟩
        repeat (refine wXh ?_)
        rw [hse]
        repeat (refine wXh ?_)
        refine ND_again (t - (i + 1)) _ _ _ (by first | omega | (simp only [List.length_append, List.length_cons, List.length_nil]; omega)) subG subF incF (⟨i + 1, sn, sp, pt, bq, off, len, c2, qc, Q, by omega, rfl, hbi, hQ, hys, hQs, hdn, hpz ⟨fun _ => hSE, fun e => by rw [hay]; exact hys⟩, hle, hoc, hlc, hqc, rfl, rfl, rfl⟩)
      have hse2 : gt sn (gt ms z).b = false := by simpa using hse
      have hnz : ¬ Sn n sn (gt ms z).b := fun h => hse h.2
      have hSz := (Sn.st (x := (gt ms z).b) hbi.ln hEr).2 (.inl rfl)
      have hbi2 := hbi.add (c := (z, false)) (y := y) (z := (gt ms z).b) hz1.1 hzT hys (by rw [hstp, hfw.2.2.1]; exact hay) (by rw [hstp, hfw.2.2.2]) hEr hnz
      have hgr := hbi.grow (z := (gt ms z).b) hEr hnz hQ hys hQs hdn hpd hle (by rw [hz]; exact ⟨fun _ => hSz, fun e => (Sn.st hbi.ln hEr).2 (.inr (by rw [hay]; exact hys))⟩)
      repeat (refine wXh ?_)
      rw [hse2]
      repeat (refine wXh ?_)
      (repeat refine TD_seq ?_); refine TD_drawnW (.blk b18 (eS (z, false)) 77 :: M0) (slI (some ⟨b4, 0, none⟩) [.int .i64 n, .slice p m c] :: I0) [0, 1, 2, 3, 4, 5, 6, 7, 8] [0, 0, 1, 1, 1, 0, 0, 0, 0] subF incF mixed (by kernel_rfl) ?_
      by_cases hEv : (gt ms z).b = v
      · repeat (refine wXh ?_)
        refine ND_cut _ _ _ subG subF incF ⟨_, _, _, hbi2, .inl (by rw [← hEv]; exact hSz), rfl, rfl, rfl⟩
      repeat (refine wXh ?_)
      (refine RD_vals (cs := [.int .i64 (gt ms z).b]) ([.int .i64 (gt ms z).b]) rfl rfl (by intro v hv; repeat (first | exact absurd hv (List.not_mem_nil) | (rcases List.mem_cons.1 hv with rfl | hv; · rfl))) (by omega) rfl rfl rfl ?_; intro b20; refine ⟨okF, ?_⟩)
      (refine RD_appQ 3 rfl rfl rfl memF rfl hoc hlc (by omega) (by omega) rfl rfl ?_; intro bq2 off2 c3 qc2 hoc2 hlc2 hqc2; refine ⟨okF, ?_⟩)
      rw [hqc] at hqc2
      repeat (refine wXh ?_)
      refine ND_again (t - (i + 1)) _ _ _ (by first | omega | (simp only [List.length_append, List.length_cons, List.length_nil]; omega)) subG subF incF (⟨i + 1, _, _, _, bq2, off2, len + 1, c3, qc2, Q ++ [(gt ms z).b], by omega, rfl, hbi2, hgr.1, hgr.2.1, hgr.2.2.1, hgr.2.2.2.1, hgr.2.2.2.2.1, hgr.2.2.2.2.2, hoc2, hlc2, by rw [hqc2, recs_append]; rfl, rfl, rfl, rfl⟩)
    by_cases hby : (gt ms z).b = y
    · rw [show eS (z, false) = [Value.int .i64 z, Value.bool false] from rfl]
      have hfw := bwd (ms := ms) hz1.1
      have hstp : stp (z, true) = -z - 1 := rfl
      have hEr := hA
      by_cases hse : gt sn (gt ms z).a = true
      · have hSE : Sn n sn (gt ms z).a := ⟨hEr, hse⟩
        repeat (refine wXh ?_)
        rw [hse]
        repeat (refine wXh ?_)
        refine ND_again (t - (i + 1)) _ _ _ (by first | omega | (simp only [List.length_append, List.length_cons, List.length_nil]; omega)) subG subF incF (⟨i + 1, sn, sp, pt, bq, off, len, c2, qc, Q, by omega, rfl, hbi, hQ, hys, hQs, hdn, hpz ⟨fun e => absurd e hay, fun _ => hSE⟩, hle, hoc, hlc, hqc, rfl, rfl, rfl⟩)
      have hse2 : gt sn (gt ms z).a = false := by simpa using hse
      have hnz : ¬ Sn n sn (gt ms z).a := fun h => hse h.2
      have hSz := (Sn.st (x := (gt ms z).a) hbi.ln hEr).2 (.inl rfl)
      have hbi2 := hbi.add (c := (z, true)) (y := y) (z := (gt ms z).a) hz1.1 hzT hys (by rw [hstp, hfw.2.2.1]; exact hby) (by rw [hstp, hfw.2.2.2]) hEr hnz
      have hgr := hbi.grow (z := (gt ms z).a) hEr hnz hQ hys hQs hdn hpd hle (by rw [hz]; exact ⟨fun e => absurd e hay, fun _ => hSz⟩)
      repeat (refine wXh ?_)
      rw [hse2]
      rw [show ([Value.int .i64 z, Value.bool true] : List Value) = eS (z, true) from rfl]
      repeat (refine wXh ?_)
      (repeat refine TD_seq ?_); refine TD_drawnW (.blk b18 (eS (z, true)) 77 :: M0) (slI (some ⟨b4, 0, none⟩) [.int .i64 n, .slice p m c] :: I0) [0, 1, 2, 3, 4, 5, 6, 7, 8] [0, 0, 1, 1, 1, 0, 0, 0, 0] subF incF mixed (by kernel_rfl) ?_
      by_cases hEv : (gt ms z).a = v
      · repeat (refine wXh ?_)
        refine ND_cut _ _ _ subG subF incF ⟨_, _, _, hbi2, .inl (by rw [← hEv]; exact hSz), rfl, rfl, rfl⟩
      repeat (refine wXh ?_)
      (refine RD_vals (cs := [.int .i64 (gt ms z).a]) ([.int .i64 (gt ms z).a]) rfl rfl (by intro v hv; repeat (first | exact absurd hv (List.not_mem_nil) | (rcases List.mem_cons.1 hv with rfl | hv; · rfl))) (by omega) rfl rfl rfl ?_; intro b20; refine ⟨okF, ?_⟩)
      (refine RD_appQ 3 rfl rfl rfl memF rfl hoc hlc (by omega) (by omega) rfl rfl ?_; intro bq2 off2 c3 qc2 hoc2 hlc2 hqc2; refine ⟨okF, ?_⟩)
      rw [hqc] at hqc2
      repeat (refine wXh ?_)
      refine ND_again (t - (i + 1)) _ _ _ (by first | omega | (simp only [List.length_append, List.length_cons, List.length_nil]; omega)) subG subF incF (⟨i + 1, _, _, _, bq2, off2, len + 1, c3, qc2, Q ++ [(gt ms z).a], by omega, rfl, hbi2, hgr.1, hgr.2.1, hgr.2.2.1, hgr.2.2.2.1, hgr.2.2.2.2.1, hgr.2.2.2.2.2, hoc2, hlc2, by rw [hqc2, recs_append]; rfl, rfl, rfl, rfl⟩)
    repeat (refine wXh ?_)
    refine ND_again (t - (i + 1)) _ _ _ (by first | omega | (simp only [List.length_append, List.length_cons, List.length_nil]; omega)) subG subF incF (⟨i + 1, sn, sp, pt, bq, off, len, c2, qc, Q, by omega, rfl, hbi, hQ, hys, hQs, hdn, hpz ⟨fun h => absurd h hay, fun h => absurd h hby⟩, hle, hoc, hlc, hqc, rfl, rfl, rfl⟩)
  clear hb0
  rintro G M I ⟨sn, sp, pt, hbi, hres, rfl, rfl, rfl⟩
  have hln := hbi.ln
  have hlp := hbi.lp
  by_cases hsv : gt sn v = true
  rotate_left
  · have hsv2 : gt sn v = false := by simpa using hsv
    have hno := hres.resolve_left (fun h => hsv h.2)
    repeat (refine wXh ?_)
    rw [hsv2]
    repeat (refine wXh ?_)
    refine ND_noR ?_
    refine ND_nilS none ?_
    refine ND_rets [8, 9] (by first | exact .inl rfl | exact .inr rfl) rfl rfl rfl _ _ subF incF (⟨rfl, none, 0, [], false, rfl, ⟨fun h => absurd h (by decide), fun _ => ⟨rfl, hno⟩⟩, by simp, rfl⟩)
  have hSv : Sn n sn v := ⟨hv, hsv⟩
  repeat (refine wXh ?_)
  rw [hsv]
  repeat (refine wXh ?_)
  refine TD_row0 77 2 ?_
  have hpn : (pt v).length ≤ n := by
    have h1 := hbi.le v hSv
    have h2 := cnt_le n (fun v => gt sn v)
    omega
  refine TD_loop [2, 4, 10] rfl (fun k G M I => ∃ (x : Int) (q2 : Option Addr) (c2 : Nat) (l : List (Int × Bool)), Sn n sn x ∧ pt v = pt x ++ l.reverse.map stp ∧ (∀ e ∈ l, 0 ≤ e.1) ∧ l.length + (pt x).length ≤ n ∧ k = (pt x).length ∧ G = [(19, .slice q2 l.length c2), (20, .int .i64 x)] ∧ M = .row q2 l.length c2 (recs eS l) 77 2 :: .blk b11 (recs eB sn) 4 :: .blk b10 (recs eS sp) 77 :: M0 ∧ I = slI (some ⟨b4, 0, none⟩) [.int .i64 n, .slice p m c] :: I0) ((pt v).length) _ _ _ subG subF incF (⟨v, none, 0, [], hSv, (List.append_nil _).symm, fun _ h => absurd h List.not_mem_nil, by rw [List.length_nil]; omega, rfl, rfl, rfl, rfl⟩) ?_
  rintro kk G M I ⟨x, q2, c2, l, hx, hpv, hl0, hln2, rfl, rfl, rfl, rfl⟩
  by_cases hxu : x = u
  · subst hxu
    rw [hbi.p0, List.nil_append] at hpv
    have hst : Stp ms T x v (l.reverse.map stp) true := Stp.of (by rw [← hpv]; exact (hbi.tr v hSv).1)
    repeat (refine wXh ?_)
    (refine RD_callS rfl (ReverseSR_ok (by omega)) rfl rfl ?_; rintro _ _ _ ⟨rfl, rfl, rfl⟩; refine ⟨okF, ?_⟩)
    repeat (refine wXh ?_)
    refine ND_noR ?_
    refine ND_rets [8, 9] (by first | exact .inl rfl | exact .inr rfl) rfl rfl rfl _ _ subF incF (⟨rfl, q2, c2, l.reverse, true, by rw [List.length_reverse], hst, fun x hx => hl0 x (List.mem_reverse.1 hx), rfl⟩)
  obtain ⟨s0, s1, s2, s3, s4⟩ := hbi.pa x hx hxu
  have s5 := hr _ s1
  obtain ⟨e, he⟩ : ∃ e, gt sp x = e := ⟨_, rfl⟩
  rw [he] at s0 s1 s2 s3 s4 s5
  have hA := hg.a e.1 s0 (by omega)
  have hB := hg.b e.1 s0 (by omega)
  have hxn := hx.1
  have hpl : (pt x).length = (pt (sa ms (stp e))).length + 1 := by rw [s4, List.length_append]; rfl
  have hpv2 : pt v = pt (sa ms (stp e)) ++ (l ++ [e]).reverse.map stp := by rw [hpv, s4]; simp
  have hl2 : ∀ e' ∈ l ++ [e], 0 ≤ e'.1 := fun e' h' => by
    rcases List.mem_append.1 h' with h1 | h1
    · exact hl0 e' h1
    · rw [List.mem_singleton.1 h1]; exact s0
  by_cases hb : e.2 = true
  · have hsa : sa ms (stp e) = (gt ms e.1).b := by unfold stp; rw [if_pos hb]; exact (bwd (ms := ms) s0).2.2.1
    rw [hsa] at s3 hpl hpv2
    repeat (refine wXh ?_)
    rw [he]
    repeat (refine wXh ?_)
    (refine RD_alloc rfl rfl ?_; intro b21; refine ⟨okF, ?_⟩)
    repeat (refine wXh ?_)
    (refine RD_vals (cs := recs eS [e]) ([.agg (eS e).toArray]) rfl rfl (by intro v hv; repeat (first | exact absurd hv (List.not_mem_nil) | (rcases List.mem_cons.1 hv with rfl | hv; · rfl))) (by omega) rfl rfl rfl ?_; intro b22; refine ⟨okF, ?_⟩)
    (refine RD_appR (ys := [e]) 2 rfl rfl rfl ?_ (by decide) rfl (by omega) (by omega) rfl rfl ?_; (· first | exact Src.blk memF | exact Src.row memF | exact Src.imm memF (by first | assumption | exact .inl (Ok.mk _ _))); intro a2 c3; refine ⟨okF, ?_⟩)
    rw [show eS e = [Value.int .i64 e.1, Value.bool e.2] from rfl]
    refine RD_w (M' := .blk b21 [.int .i64 e.1, .bool e.2] 77 :: .row a2 (l ++ [e]).length c3 (recs eS (l ++ [e])) 77 2 :: .blk b11 (recs eB sn) 4 :: .blk b10 (recs eS sp) 77 :: M0) subF Inc.refl ?_
    repeat (refine wXh ?_)
    rw [hb]
    repeat (refine wXh ?_)
    refine ND_again ((pt (gt ms e.1).b).length) _ _ _ (by first | omega | (simp only [List.length_append, List.length_cons, List.length_nil]; omega)) subG subF incF (⟨(gt ms e.1).b, a2, c3, l ++ [e], s3, hpv2, hl2, by rw [List.length_append, List.length_singleton]; omega, rfl, rfl, rfl, rfl⟩)
  have hb2 : e.2 = false := by simpa using hb
  have hsa : sa ms (stp e) = (gt ms e.1).a := by unfold stp; rw [if_neg hb]; exact (fwd (ms := ms) s0).2.2.1
  rw [hsa] at s3 hpl hpv2
  repeat (refine wXh ?_)
  rw [he]
  repeat (refine wXh ?_)
  (refine RD_alloc rfl rfl ?_; intro b21; refine ⟨okF, ?_⟩)
  repeat (refine wXh ?_)
  (refine RD_vals (cs := recs eS [e]) ([.agg (eS e).toArray]) rfl rfl (by intro v hv; repeat (first | exact absurd hv (List.not_mem_nil) | (rcases List.mem_cons.1 hv with rfl | hv; · rfl))) (by omega) rfl rfl rfl ?_; intro b22; refine ⟨okF, ?_⟩)
  (refine RD_appR (ys := [e]) 2 rfl rfl rfl ?_ (by decide) rfl (by omega) (by omega) rfl rfl ?_; (· first | exact Src.blk memF | exact Src.row memF | exact Src.imm memF (by first | assumption | exact .inl (Ok.mk _ _))); intro a2 c3; refine ⟨okF, ?_⟩)
  rw [show eS e = [Value.int .i64 e.1, Value.bool e.2] from rfl]
  refine RD_w (M' := .blk b21 [.int .i64 e.1, .bool e.2] 77 :: .row a2 (l ++ [e]).length c3 (recs eS (l ++ [e])) 77 2 :: .blk b11 (recs eB sn) 4 :: .blk b10 (recs eS sp) 77 :: M0) subF Inc.refl ?_
  repeat (refine wXh ?_)
  rw [hb2]
  repeat (refine wXh ?_)
  refine ND_again ((pt (gt ms e.1).a).length) _ _ _ (by first | omega | (simp only [List.length_append, List.length_cons, List.length_nil]; omega)) subG subF incF (⟨(gt ms e.1).a, a2, c3, l ++ [e], s3, hpv2, hl2, by rw [List.length_append, List.length_singleton]; omega, rfl, rfl, rfl, rfl⟩)
end
end Go.Proofs.Ytkhgglkkdnemlaa

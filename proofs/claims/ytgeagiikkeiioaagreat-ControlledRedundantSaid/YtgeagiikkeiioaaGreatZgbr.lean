/- Chapter 34's law: Without; the law ControlledRedundant. -/
import Derived.Test.YtgeagiikkeiioaaGreatZgbq
import Derived.Test.YtgeagiikkeiioaaGreatZgaw
set_option linter.unusedSimpArgs false
set_option linter.unusedVariables false
set_option maxRecDepth 100000
set_option maxHeartbeats 4000000
namespace Go.Proofs.YtgeagiikkeiioaaGreat
open Go Go.Fx
def bF (es : List RE) (i n : Nat) : List RE := (dD n [(i : Int)]).map (fun t : Nat => gt es (t : Int))
def woE (m : LE) (m' : LE) (i R : Nat) : Prop := m'.a.rows = bB m.a [(i : Int)] R ∧ m'.l.es = bF m.l.es i R ∧ m'.p.es = bF m.p.es i R
theorem aNY {i : Nat} : ∀ {n : Nat}, i < n → (dD n [(i : Int)]).length + 1 = n
 | 0, h => by omega
 | n + 1, h => by
  rw [qB]
  by_cases e : i = n
  ·subst e
   rw [if_pos (List.mem_singleton.2 rfl)]
   have : dD i [(i : Int)] = List.range i := by
    unfold dD
    rw [List.filter_eq_self]
    intro x hx
    have := List.mem_range.1 hx
    simp; omega
   rw [this, List.length_range]
  ·rw [if_neg (fun hm => e (by have := List.mem_singleton.1 hm; omega)), List.length_append, List.length_singleton]
   have := aNY (i := i) (n := n) (by omega)
   omega
theorem woE.fit {m m' : LE} {i R C : Nat} (h : woE m m' i R) (f : m.fit R C) (hi : i < R) (h2 : 2 ≤ R) : m'.fit (R - 1) C := by
 obtain ⟨h1, h3, h4⟩ := h
 have hc := aNY (i := i) (n := R) hi
 have hR := f.d.2.1
 refine ⟨⟨⟨by rw [h1]; unfold bB; rw [List.length_map]; omega, fun r hr => ?_⟩, by omega, f.d.2.2⟩, f.c, by rw [h3]; unfold bF; rw [List.length_map]; omega, by rw [h4]; unfold bF; rw [List.length_map]; omega, fun e he => ?_⟩
 ·rw [h1] at hr
  obtain ⟨t, ht, rfl⟩ := List.mem_map.1 hr
  exact f.d.1.row (iY.1 ht).1
 ·rw [h4] at he
  obtain ⟨t, ht, rfl⟩ := List.mem_map.1 he
  have := (iY.1 ht).1
  exact f.pos _ (cZ (by have := f.p; omega))
theorem woE.q {m m' : LE} {i R C : Nat} (h : woE m m' i R) (f : m.fit R C) : m'.a.q = iK m.a.q (dD R [(i : Int)]) := by
 show m'.a.rows.map RL.q = _
 rw [h.1]; exact aOT f.d.1
/- drawn regions: what stays until K operations have changed the world, and what stays all the time -/
theorem nI {P : Program} {ops : Array Oper} {Q : Exit → Act → World → Prop} {Cs Cs' : Nat → World → Prop} : ∀ (l : List Oper) (k : Nat) (ms : List Nat) (a : Act) (w : World),
  (∀ s w', l.any (fun o => eO o.op) = true → k ≤ s → Cs s w' → Cs' s w') → (∀ s w', k < s → s ≤ k + l.countP (fun o => !eO o.op) → Cs' s w' → Cs s w') →
  wpM P ops Q (.any Cs' k ms) l a w → wpM P ops Q (.any Cs k ms) l a w
 | [], _, _, _, _, _, _, h => h
 | o :: r, k, ms, a, w, hC, hK, h => by
  cases hf : eO o.op with
  | true =>
   have hC' : ∀ s w', k ≤ s → Cs s w' → Cs' s w' := fun s w' h1 => hC s w' (by simp [hf]) h1
   have hKr : ∀ s w', k < s → s ≤ k + r.countP (fun o => !eO o.op) → Cs' s w' → Cs s w' := fun s w' h1 h2 => hK s w' h1 (by rw [List.countP_cons]; omega)
   refine ⟨fun hw => (h.1 hw).imp (fun ⟨h1, v, h2, h3⟩ => ⟨h1, v, fun w' hc => h2 w' (hC' _ w' (Nat.le_add_right _ _) hc), nI r k ms.tail _ w (fun s w' _ h2 => hC' s w' h2) hKr h3⟩) (fun ⟨h1, _⟩ => absurd h1 (by simp [hf])), fun hw => ?_⟩
   have := h.2 hw
   simp only [Mode.held, Mode.skip, hf, cond_true] at this ⊢
   exact ⟨trivial, nI r k ms.tail _ w (fun s w' _ h2 => hC' s w' h2) hKr this.2⟩
  | false =>
   have hCr : ∀ s w', r.any (fun o => eO o.op) = true → k + 1 ≤ s → Cs s w' → Cs' s w' := fun s w' h0 h1 => hC s w' (by rw [List.any_cons, h0, Bool.or_true]) (by omega)
   have hct : (o :: r).countP (fun o => !eO o.op) = r.countP (fun o => !eO o.op) + 1 := by rw [List.countP_cons]; simp [hf]
   have hKr : ∀ s w', k + 1 < s → s ≤ k + 1 + r.countP (fun o => !eO o.op) → Cs' s w' → Cs s w' := fun s w' h1 h2 => hK s w' (by omega) (by omega)
   have hK1 : ∀ w', Cs' (k + 1) w' → Cs (k + 1) w' := fun w' => hK (k + 1) w' (by omega) (by omega)
   refine ⟨fun hw => (h.1 hw).imp (fun ⟨h1, _⟩ => absurd h1 (by simp [hf])) (fun ⟨h1, h2⟩ => ⟨h1, Oper.wp_mono (fun a w' ⟨x, y⟩ => ⟨hK1 w' x, nI r (k + 1) ms.tail _ _ hCr hKr y⟩) h2⟩), fun hw => ?_⟩
   have := h.2 hw
   simp only [Mode.held, Mode.skip, hf, cond_false] at this ⊢
   exact ⟨hK1 w this.1, nI r (k + 1) ms.tail _ w hCr hKr this.2⟩
theorem aFX {l : List Oper} (h : l.all (fun o => eO o.op) = true) : l.countP (fun o => !eO o.op) = 0 := by
 rw [List.countP_eq_zero]
 intro o ho
 have := List.all_eq_true.1 h o ho
 simp [this]
theorem aKU {l : List Oper} (h : l.all (fun o => !eO o.op) = true) : l.any (fun o => eO o.op) = false := by
 rw [List.any_eq_false]
 intro o ho
 have := List.all_eq_true.1 h o ho
 intro hh
 simp [hh] at this
def CsT (K : Nat) (X : List Nat) (w0 : World) (M1 M2 : List Ent) (I1 : List bA) : Nat → World → Prop := fun s w => Mem X w0 M2 I1 w ∧ (s ≤ K → Mem X w0 M1 I1 w)
section
variable {P : Program} {n : Nat} {Q : Exit → Act → World → Prop} {G : Env} {X : List Nat} {w0 : World} {M M1 M2 : List Ent} {I I1 : List bA} {l : List Oper} {K : Nat}
theorem CsT.up : ∀ s w, CsT K X w0 M1 M2 I1 s w → CsT K X w0 M1 M2 I1 (s + 1) w := fun _ _ h => ⟨h.1, fun hs => h.2 (by omega)⟩
theorem aPR {id : Nat} (K : Nat) (M1 M2 : List Ent) (I1 : List bA) (hx : P.follows .mixedOrders = true) (h : ND n (Go.Fx.Rest P l Q (CsT K X w0 M1 M2 I1) l.length 0 (Array.replicate l.length false)) .normal G X w0 M I) : TD P n (.region id l.toArray true) Q G X w0 M I :=
 ⟨fun w hw => aNF (CsT K X w0 M1 M2 I1) hx (h.go w.drew hw.drew)⟩
theorem aEW {fuel fuel' k k1 : Nat} {listed listed' : Array Bool} (p ms : List Nat) (hc : k + xE l.toArray p = k1) (hp : (pick l p).all (fun o => eO o.op) = true) (hM : SubP M M1) (hM2 : SubP M M2) (hI : Inc I I1) (hs : Region.noSelect l.toArray = true) (hok : lU l.toArray p ms listed = some listed') (hf : fuel' = fuel + p.length) (hsz : listed.size = l.toArray.size) (hk : Nat.ble k K = true)
  (h : RD P n l (Go.Fx.Rest P l Q (CsT K X w0 M1 M2 I1) fuel k1 listed') (.any (CsJ K X w0 M1 I1) k ms) (pick l p) G X w0 M I) : ND n (Go.Fx.Rest P l Q (CsT K X w0 M1 M2 I1) fuel' k listed) .normal G X w0 M I := by
 subst hc
 exact ⟨fun w hw => uU p ms CsT.up hs hok hf hsz ⟨hw.weak hM2 hI, fun _ => hw.weak hM hI⟩ ⟨fun a ha => nI _ _ _ _ _ (fun s w' _ _ hc hs => hc.2 hs) (fun s w' h1 h2 _ => by rw [aFX hp] at h2; omega) ((h.go w hw).go a ha)⟩⟩
theorem kT {fuel fuel' k k1 : Nat} {listed listed' : Array Bool} (p ms : List Nat) (hc : k + xE l.toArray p = k1) (hp : (pick l p).all (fun o => eO o.op) = true) (hM : SubP M M1) (hM2 : SubP M M2) (hI : Inc I I1) (hs : Region.noSelect l.toArray = true) (hok : lU l.toArray p ms listed = some listed') (hf : fuel' = fuel + p.length) (hsz : listed.size = l.toArray.size) (hk : Nat.ble k K = true)
  (h : RD P n l (Go.Fx.Rest P l Q (CsT K X w0 M1 M2 I1) fuel k1 listed') (.any (uM X w0 M2 I1) k ms) (pick l p) G X w0 M I) : ND n (Go.Fx.Rest P l Q (CsT K X w0 M1 M2 I1) fuel' k listed) .normal G X w0 M I := by
 subst hc
 exact ⟨fun w hw => uU p ms CsT.up hs hok hf hsz ⟨hw.weak hM2 hI, fun _ => hw.weak hM hI⟩ ⟨fun a ha => nI _ _ _ _ _ (fun s w' _ _ hc => hc.1) (fun s w' h1 h2 _ => by rw [aFX hp] at h2; omega) ((h.go w hw).go a ha)⟩⟩
theorem CsT.of (h12 : SubP M1 M2) {s : Nat} {w : World} (h : Mem X w0 M1 I1 w) : CsT K X w0 M1 M2 I1 s w := ⟨h.weak h12 Inc.refl, fun _ => h⟩
theorem iG {fuel fuel' k k1 : Nat} {listed listed' : Array Bool} (p ms : List Nat) (hc : k + xE l.toArray p = k1) (hp : (pick l p).all (fun o => !eO o.op) = true) (hM : SubP M M1) (h12 : SubP M1 M2) (hI : Inc I I1) (hs : Region.noSelect l.toArray = true) (hok : lU l.toArray p ms listed = some listed') (hf : fuel' = fuel + p.length) (hsz : listed.size = l.toArray.size) (hk : Nat.ble (k + (pick l p).length) K = true)
  (h : RD P n l (Go.Fx.Rest P l Q (CsT K X w0 M1 M2 I1) fuel k1 listed') (.any (uM X w0 M1 I1) k ms) (pick l p) G X w0 M I) : ND n (Go.Fx.Rest P l Q (CsT K X w0 M1 M2 I1) fuel' k listed) .normal G X w0 M I := by
 subst hc
 exact ⟨fun w hw => uU p ms CsT.up hs hok hf hsz (CsT.of h12 (hw.weak hM hI)) ⟨fun a ha => nI _ _ _ _ _ (fun s w' h0 => by rw [aKU hp] at h0; cases h0) (fun s w' h1 h2 hm => CsT.of h12 hm) ((h.go w hw).go a ha)⟩⟩
theorem kH {fuel k : Nat} {listed : Array Bool} (p ms : List Nat) (hk : Nat.ble K k = true) (hM : SubP M M1) (hM2 : SubP M M2) (hI : Inc I I1) (hs : Region.noSelect l.toArray = true) (hok : iQ l.toArray p ms listed = true) (hf : fuel = p.length) (hsz : listed.size = l.toArray.size)
  (h : RD P n l Q (.any (uM X w0 M2 I1) k ms) (pick l p) G X w0 M I) : ND n (Go.Fx.Rest P l Q (CsT K X w0 M1 M2 I1) fuel k listed) .normal G X w0 M I :=
 ⟨fun w hw => aDP p ms CsT.up hs hok hf hsz ⟨hw.weak hM2 hI, fun _ => hw.weak hM hI⟩ ⟨fun a ha => nI _ _ _ _ _ (fun s w' _ _ hc => hc.1) (fun s w' h1 h2 hm => ⟨hm, fun hs => by have := Nat.le_of_ble_eq_true hk; omega⟩) ((h.go w hw).go a ha)⟩⟩
theorem aGE {k i k1 : Nat} {R' : Exit → Act → World → Prop} (he : (pick l [i]).all (fun o => !eO o.op) = true) (h12 : SubP M1 M2) {w : World} (h : R P n l R' (.any (uM X w0 M1 I1) k []) (pick l [i]) G w) : R P n l R' (.any (CsT K X w0 M1 M2 I1) k []) (pick l [i]) G w :=
 ⟨fun a ha => nI _ _ _ _ _ (fun s w' h0 => by rw [aKU he] at h0; cases h0) (fun s w' h1 h2 hm => CsT.of h12 hm) (h.go a ha)⟩
theorem lY {fuel k k1 i j : Nat} {listed : Array Bool} (hk : k + 1 = k1) (hK : Nat.ble k1 K = true) (h12 : SubP M1 M2) (he : ((pick l [i]).all (fun o => !eO o.op) && (pick l [j]).all (fun o => !eO o.op)) = true) (hr : (Region.ready .any l.toArray listed == [i, j] && sQ l.toArray i && sQ l.toArray j) = true)
  (h1 : RD P n l (Go.Fx.Rest P l Q (CsT K X w0 M1 M2 I1) fuel k1 (listed.setIfInBounds i true)) (.any (uM X w0 M1 I1) k []) (pick l [i]) G X w0 M I)
  (h2 : RD P n l (Go.Fx.Rest P l Q (CsT K X w0 M1 M2 I1) fuel k1 (listed.setIfInBounds j true)) (.any (uM X w0 M1 I1) k []) (pick l [j]) G X w0 M I) : ND n (Go.Fx.Rest P l Q (CsT K X w0 M1 M2 I1) (fuel + 1) k listed) .normal G X w0 M I := by
 subst hk
 simp only [Bool.and_eq_true] at he
 exact ⟨fun w hw => aBC hr (aGE (k1 := k) he.1 h12 (h1.go w hw)) (aGE (k1 := k) he.2 h12 (h2.go w hw))⟩
theorem aCV {fuel k k1 i j m : Nat} {listed : Array Bool} (hk : k + 1 = k1) (hK : Nat.ble k1 K = true) (h12 : SubP M1 M2) (he : ((pick l [i]).all (fun o => !eO o.op) && (pick l [j]).all (fun o => !eO o.op) && (pick l [m]).all (fun o => !eO o.op)) = true) (hr : (Region.ready .any l.toArray listed == [i, j, m] && sQ l.toArray i && sQ l.toArray j && sQ l.toArray m) = true)
  (h1 : RD P n l (Go.Fx.Rest P l Q (CsT K X w0 M1 M2 I1) fuel k1 (listed.setIfInBounds i true)) (.any (uM X w0 M1 I1) k []) (pick l [i]) G X w0 M I)
  (h2 : RD P n l (Go.Fx.Rest P l Q (CsT K X w0 M1 M2 I1) fuel k1 (listed.setIfInBounds j true)) (.any (uM X w0 M1 I1) k []) (pick l [j]) G X w0 M I)
  (h3 : RD P n l (Go.Fx.Rest P l Q (CsT K X w0 M1 M2 I1) fuel k1 (listed.setIfInBounds m true)) (.any (uM X w0 M1 I1) k []) (pick l [m]) G X w0 M I) : ND n (Go.Fx.Rest P l Q (CsT K X w0 M1 M2 I1) (fuel + 1) k listed) .normal G X w0 M I := by
 subst hk
 simp only [Bool.and_eq_true] at he
 exact ⟨fun w hw => zF hr (aGE (k1 := k) he.1.1 h12 (h1.go w hw)) (aGE (k1 := k) he.1.2 h12 (h2.go w hw)) (aGE (k1 := k) he.2 h12 (h3.go w hw))⟩
end
section
variable {P : Program} {n : Nat} {Q Q' : Exit → Act → World → Prop} {G : Env} {X : List Nat} {w0 : World} {M : List Ent} {I : List bA}
/- a cut from within a block -/
theorem aPM {id : Nat} {Q1 Q2 : Exit → Act → World → Prop} (h : ∀ e a w, Q1 e a w → Q2 e a w) : ∀ e a w, InB id Q1 e a w → InB id Q2 e a w
 | .normal, a, w, q => by unfold InB at q ⊢; exact h .normal a w q
 | .exit i, a, w, q => by
  unfold InB at q ⊢
  simp only [Exit.inBlock] at q ⊢
  by_cases e : i = id
  ·simp only [e, if_true] at q ⊢; exact h .normal a w q
  ·simp only [e, if_false] at q ⊢; exact h (.exit i) a w q
 | .ret, a, w, q => by unfold InB at q ⊢; exact h .ret a w q
 | .goto i, a, w, q => by unfold InB at q ⊢; exact h (.goto i) a w q
 | .panic c, a, w, q => by unfold InB at q ⊢; exact h (.panic c) a w q
 | .outgrown, a, w, q => by unfold InB at q ⊢; exact h .outgrown a w q
theorem aSU {x y : Code} {id : Nat} (J : Env → List Ent → List bA → Prop) (h : TD P n x (InB id (Then (CutD n J X w0) Q)) G X w0 M I) (k : ∀ G' M' I', J G' M' I' → TD P n y Q' G' X w0 M' I') : TD P n x (InB id (Then (y.wp P Q') Q)) G X w0 M I :=
 ⟨fun w hw => ⟨fun a ha => Code.wp_mono (aPM (fun e a w q => by
  unfold Then at q ⊢
  cases e <;> first | exact q | (obtain ⟨G', ⟨M', I', hJ, hm⟩, hh⟩ := q; exact ((k G' M' I' hJ).go w hm).go a hh))) ((h.go w hw).go a ha)⟩⟩
end
section
variable {X : List Nat} {w0 : World} {M0 : List Ent} {I0 : List bA}
theorem aRC {m : LE} {R C i : Nat} (f : m.fit R C) (hi : i < R) (h : mW m 30 ∈ I0) : CD Tryz.prog 45 [vLE m, .int .i64 (i : Int)] X w0 M0 I0 (fun v M I => M0 = M ∧ ∃ m' : LE, v = vLE m' ∧ woE m m' i R ∧ I = mW m' 30 :: I0) := by
 have lR := f.d.1.1
 subst lR
 have hll := f.l
 have hpl := f.p
 obtain ⟨r1, r2⟩ := f.d.2.1
 refine bQ (φ := gD m.a 30) (Hv.lea h) ?_
 refine bQ (φ := jP m.l 30) (Hv.lel' (List.Mem.tail _ h)) ?_
 refine bQ (φ := jP m.p 30) (Hv.lep (List.Mem.tail _ (List.Mem.tail _ h))) ?_
 refine bQ (φ := aT (m.a).p (recs eL (m.a).rows)) (Hv.xsl aB) ?_
 refine bQ (φ := aT (m.p).p (recs eR (m.p).es)) (Hv.lsl aB) ?_
 refine bQ (φ := aT (m.l).p (recs eR (m.l).es)) (Hv.lsl aB) ?_
 refine bD Tryz.func45 rfl Tryz.ntmps45 rfl ?_
 refine aJ ?_
 refine aI ?_
 (refine aP rfl rfl rfl ?_; intro b1; refine ⟨okF, ?_⟩)
 refine aF .here ?_
 (refine aN rfl rfl ?_; intro b4; refine ⟨okF, ?_⟩)
 repeat (refine aK ?_)
 (refine aN rfl rfl ?_; intro bo; refine ⟨okF, ?_⟩)
 repeat (refine aK ?_)
 refine mI 42 4 ?_
 refine mI 42 4 ?_
 refine mI 34 1 ?_
 refine bL (φ := cK [] 30) Hv.nilR ?_
 refine bL (φ := mK [] 30) Hv.nilL ?_
 refine aS [1, 2, 4, 5, 9] rfl (fun k G M I => ∃ (t : Nat) (qa : Option Addr) (ca : Nat) (ql : Option Addr) (cl : Nat) (qp : Option Addr) (cp : Nat), t ≤ m.a.rows.length ∧ k = m.a.rows.length - t ∧ G = [(10, .int .i64 t)] ∧ M = .row qa (bB m.a [(i : Int)] t).length ca (recs eL (bB m.a [(i : Int)] t)) 34 1 :: .row ql (bF m.l.es i t).length cl (recs eR (bF m.l.es i t)) 42 4 :: .row qp (bF m.p.es i t).length cp (recs eR (bF m.p.es i t)) 42 4 :: .blk bo [.slice qa (bB m.a [(i : Int)] t).length ca, .slice ql (bF m.l.es i t).length cl, .slice qp (bF m.p.es i t).length cp] 68 :: .blk b4 [.slice none 0 0, .slice none 0 0, .slice none 0 0] 68 :: M0 ∧ I = mK (bB m.a [(i : Int)] t) 30 :: cK (bF m.l.es i t) 30 :: cK (bF m.p.es i t) 30 :: aT (some ⟨b1, 0, none⟩) [mv m.a, lv m.l, lv m.p] :: aT m.l.p (recs eR m.l.es) :: aT m.p.p (recs eR m.p.es) :: aT m.a.p (recs eL m.a.rows) :: jP m.p 30 :: jP m.l 30 :: gD m.a 30 :: I0) (m.a.rows.length) _ _ _ aO aC aD (⟨0, none, 0, none, 0, none, 0, by omega, by omega, rfl, rfl, rfl⟩) ?_
 rintro kk G M I ⟨t, qa, ca, ql, cl, qp, cp, ht, rfl, rfl, rfl, rfl⟩
 have hrl := yN (n := t) (set := [(i : Int)])
 have hla : (bB m.a [(i : Int)] t).length ≤ t := by unfold bB; simpa using hrl
 have hlb : (bF m.l.es i t).length ≤ t := by unfold bF; simpa using hrl
 have hlp : (bF m.p.es i t).length ≤ t := by unfold bF; simpa using hrl
 by_cases htR : t < m.a.rows.length
 ·by_cases e : t = i
  ·have e2 : dD (t + 1) [(i : Int)] = dD t [(i : Int)] := by rw [qB, if_pos (List.mem_singleton.2 (by omega))]
   have e3 : bB m.a [(i : Int)] (t + 1) = bB m.a [(i : Int)] t := by unfold bB; rw [e2]
   have e4 : bF m.l.es i (t + 1) = bF m.l.es i t := by unfold bF; rw [e2]
   have e5 : bF m.p.es i (t + 1) = bF m.p.es i t := by unfold bF; rw [e2]
   repeat (refine aK ?_)
   rw [← e3, ← e4, ← e5]
   refine aM (m.a.rows.length - (t + 1)) _ _ _ (by first | omega | (simp only [List.length_append, List.length_cons, List.length_nil]; omega)) aO aC aD (⟨t + 1, qa, ca, ql, cl, qp, cp, by omega, rfl, rfl, rfl, rfl⟩)
  ·have e2 : dD (t + 1) [(i : Int)] = dD t [(i : Int)] ++ [t] := by rw [qB, if_neg (fun hm => e (by have := List.mem_singleton.1 hm; omega))]
   have e3 : bB m.a [(i : Int)] (t + 1) = bB m.a [(i : Int)] t ++ [gt m.a.rows (t : Int)] := by unfold bB; rw [e2]; simp
   have e4 : bF m.l.es i (t + 1) = bF m.l.es i t ++ [gt m.l.es (t : Int)] := by unfold bF; rw [e2]; simp
   have e5 : bF m.p.es i (t + 1) = bF m.p.es i t ++ [gt m.p.es (t : Int)] := by unfold bF; rw [e2]; simp
   refine bL (φ := jP (gt m.a.rows (t : Int)) 30) (Hv.xrow (m := m.a) aB (by omega)) ?_
   refine bL (φ := eQ (gt m.l.es (t : Int)) 30) (Hv.lel (r := m.l) aB (by omega)) ?_
   refine bL (φ := eQ (gt m.p.es (t : Int)) 30) (Hv.lel (r := m.p) aB (by omega)) ?_
   refine bL (φ := aT (gt m.a.rows (t : Int)).p (recs eR (gt m.a.rows (t : Int)).es)) (Hv.lsl aB) ?_
   repeat (refine aK ?_)
   refine aSU (fun G M I => ∃ (qa2 : Option Addr) (ca2 : Nat) (ql2 : Option Addr) (cl2 : Nat) (qp2 : Option Addr) (cp2 : Nat), G = [(1, .int .i64 (i : Int)), (2, .pointer (some ⟨b1, 0, none⟩)), (4, .pointer (some ⟨b4, 0, none⟩)), (5, .pointer (some ⟨bo, 0, none⟩)), (9, .int .i64 m.a.rows.length), (10, .int .i64 t)] ∧ M = .row qa2 (bB m.a [(i : Int)] t ++ [gt m.a.rows (t : Int)]).length ca2 (recs eL (bB m.a [(i : Int)] t ++ [gt m.a.rows (t : Int)])) 34 1 :: .row ql2 (bF m.l.es i t ++ [gt m.l.es (t : Int)]).length cl2 (recs eR (bF m.l.es i t ++ [gt m.l.es (t : Int)])) 42 4 :: .row qp2 (bF m.p.es i t ++ [gt m.p.es (t : Int)]).length cp2 (recs eR (bF m.p.es i t ++ [gt m.p.es (t : Int)])) 42 4 :: .blk bo [.slice qa2 (bB m.a [(i : Int)] t ++ [gt m.a.rows (t : Int)]).length ca2, .slice ql2 (bF m.l.es i t ++ [gt m.l.es (t : Int)]).length cl2, .slice qp2 (bF m.p.es i t ++ [gt m.p.es (t : Int)]).length cp2] 68 :: .blk b4 [.slice none 0 0, .slice none 0 0, .slice none 0 0] 68 :: M0 ∧ I = aT (gt m.a.rows (t : Int)).p (recs eR (gt m.a.rows (t : Int)).es) :: eQ (gt m.p.es (t : Int)) 30 :: eQ (gt m.l.es (t : Int)) 30 :: jP (gt m.a.rows (t : Int)) 30 :: mK (bB m.a [(i : Int)] t) 30 :: cK (bF m.l.es i t) 30 :: cK (bF m.p.es i t) 30 :: aT (some ⟨b1, 0, none⟩) [mv m.a, lv m.l, lv m.p] :: aT m.l.p (recs eR m.l.es) :: aT m.p.p (recs eR m.p.es) :: aT m.a.p (recs eL m.a.rows) :: jP m.p 30 :: jP m.l 30 :: gD m.a 30 :: I0) ?_ ?_
   ·((repeat refine aJ ?_); refine aPR 6 (.blk bo [.slice qa (bB m.a [(i : Int)] t).length ca, .slice ql (bF m.l.es i t).length cl, .slice qp (bF m.p.es i t).length cp] 68 :: .blk b4 [.slice none 0 0, .slice none 0 0, .slice none 0 0] 68 :: M0) (.blk b4 [.slice none 0 0, .slice none 0 0, .slice none 0 0] 68 :: M0) (aT (gt m.a.rows (t : Int)).p (recs eR (gt m.a.rows (t : Int)).es) :: eQ (gt m.p.es (t : Int)) 30 :: eQ (gt m.l.es (t : Int)) 30 :: jP (gt m.a.rows (t : Int)) 30 :: mK (bB m.a [(i : Int)] t) 30 :: cK (bF m.l.es i t) 30 :: cK (bF m.p.es i t) 30 :: aT (some ⟨b1, 0, none⟩) [mv m.a, lv m.l, lv m.p] :: aT m.l.p (recs eR m.l.es) :: aT m.p.p (recs eR m.p.es) :: aT m.a.p (recs eL m.a.rows) :: jP m.p 30 :: jP m.l 30 :: gD m.a 30 :: I0) mixed ?_)
    refine aEW (fuel := 31) (listed' := #[true, true, false, false, false, false, false, false, false, false, false, false, false, false, false, false, false, false, false, false, false, false, false, false, false, false, false, false, false, false, false, false, false]) (k1 := 0) [0, 1] [6, 5] (by kernel_rfl) rfl aC aC aD (by kernel_rfl) (by kernel_rfl) rfl rfl (by kernel_rfl) ?_
    repeat (refine aK ?_)
    refine kT (fuel := 26) (listed' := #[true, true, true, true, true, true, true, false, false, false, false, false, false, false, false, false, false, false, false, false, false, false, false, false, false, false, false, false, false, false, false, false, false]) (k1 := 0) [2, 3, 4, 5, 6] [6, 6, 6, 6, 5] (by kernel_rfl) rfl aC aC aD (by kernel_rfl) (by kernel_rfl) rfl rfl (by kernel_rfl) ?_
    repeat (refine aK ?_)
    refine aEW (fuel := 24) (listed' := #[true, true, true, true, true, true, true, false, false, true, true, false, false, false, false, false, false, false, false, false, false, false, false, false, false, false, false, false, false, false, false, false, false]) (k1 := 0) [9, 10] [6, 5] (by kernel_rfl) rfl aC aC aD (by kernel_rfl) (by kernel_rfl) rfl rfl (by kernel_rfl) ?_
    repeat (refine aK ?_)
    refine kT (fuel := 19) (listed' := #[true, true, true, true, true, true, true, false, false, true, true, true, true, true, true, true, false, false, false, false, false, false, false, false, false, false, false, false, false, false, false, false, false]) (k1 := 0) [11, 12, 13, 14, 15] [7, 7, 7, 7, 6] (by kernel_rfl) rfl aC aC aD (by kernel_rfl) (by kernel_rfl) rfl rfl (by kernel_rfl) ?_
    repeat (refine aK ?_)
    refine aEW (fuel := 17) (listed' := #[true, true, true, true, true, true, true, false, false, true, true, true, true, true, true, true, false, false, true, true, false, false, false, false, false, false, false, false, false, false, false, false, false]) (k1 := 0) [18, 19] [6, 5] (by kernel_rfl) rfl aC aC aD (by kernel_rfl) (by kernel_rfl) rfl rfl (by kernel_rfl) ?_
    repeat (refine aK ?_)
    refine kT (fuel := 12) (listed' := #[true, true, true, true, true, true, true, false, false, true, true, true, true, true, true, true, false, false, true, true, true, true, true, true, true, false, false, false, false, false, false, false, false]) (k1 := 0) [20, 21, 22, 23, 24] [8, 8, 8, 8, 7] (by kernel_rfl) rfl aC aC aD (by kernel_rfl) (by kernel_rfl) rfl rfl (by kernel_rfl) ?_
    repeat (refine aK ?_)
    refine aCV (fuel := 11) (i := 7) (j := 16) (m := 25) (k1 := 1) rfl rfl aC (by kernel_rfl) (by kernel_rfl) ?_ ?_ ?_
    ·((refine aL (cs := recs eL [gt m.a.rows (t : Int)]) ([lv (gt m.a.rows (t : Int))]) rfl rfl (by intro v hv; repeat (first | exact absurd hv (List.not_mem_nil) | (rcases List.mem_cons.1 hv with rfl | hv; · rfl))) (by omega) rfl rfl rfl ?_; intro b7; refine ⟨okF, ?_⟩); refine aF .here ?_)
     refine bC ?_
     refine aCV (fuel := 10) (i := 8) (j := 16) (m := 25) (k1 := 2) rfl rfl aC (by kernel_rfl) (by kernel_rfl) ?_ ?_ ?_
     ·(refine aX (ys := [gt m.a.rows (t : Int)]) 0 rfl rfl rfl ?_ (by decide) rfl (by omega) (by omega) rfl rfl ?_; (· exact Src.imm aB (.inl (Ok.mk _ _))); intro qa2 ca2; refine ⟨OkD.any (by first | exact SubP.drop (SubP.drop (SubP.drop SubP.refl)) | exact SubP.drop (SubP.drop (SubP.drop (SubP.drop (SubP.drop SubP.refl)))) | fail) aD, ?_⟩; refine gH (M' := .row qa2 (bB m.a [(i : Int)] t ++ [gt m.a.rows (t : Int)]).length ca2 (recs eL (bB m.a [(i : Int)] t ++ [gt m.a.rows (t : Int)])) 34 1 :: .row ql (bF m.l.es i t).length cl (recs eR (bF m.l.es i t)) 42 4 :: .row qp (bF m.p.es i t).length cp (recs eR (bF m.p.es i t)) 42 4 :: .blk bo [.slice qa (bB m.a [(i : Int)] t).length ca, .slice ql (bF m.l.es i t).length cl, .slice qp (bF m.p.es i t).length cp] 68 :: .blk b4 [.slice none 0 0, .slice none 0 0, .slice none 0 0] 68 :: M0) (fun _ hw => hw) ?_)
      refine bC ?_
      refine kT (fuel := 9) (listed' := #[true, true, true, true, true, true, true, true, true, true, true, true, true, true, true, true, false, false, true, true, true, true, true, true, true, false, false, true, false, false, false, false, false]) (k1 := 2) [27] [4] (by kernel_rfl) rfl aC aC aD (by kernel_rfl) (by kernel_rfl) rfl rfl (by kernel_rfl) ?_
      repeat (refine aK ?_)
      refine lY (fuel := 8) (i := 16) (j := 25) (k1 := 3) rfl rfl aC (by kernel_rfl) (by kernel_rfl) ?_ ?_
      ·((refine aL (cs := recs eR [gt m.l.es (t : Int)]) ([rv (gt m.l.es (t : Int))]) rfl rfl (by intro v hv; repeat (first | exact absurd hv (List.not_mem_nil) | (rcases List.mem_cons.1 hv with rfl | hv; · rfl))) (by omega) rfl rfl rfl ?_; intro b16; refine ⟨okF, ?_⟩); refine aF .here ?_)
       refine bC ?_
       refine lY (fuel := 7) (i := 17) (j := 25) (k1 := 4) rfl rfl aC (by kernel_rfl) (by kernel_rfl) ?_ ?_
       ·(refine aX (ys := [gt m.l.es (t : Int)]) 1 rfl rfl rfl ?_ (by decide) rfl (by omega) (by omega) rfl rfl ?_; (· exact Src.imm aB (.inl (Ok.mk _ _))); intro ql2 cl2; refine ⟨OkD.any (by first | exact SubP.drop (SubP.drop (SubP.drop SubP.refl)) | exact SubP.drop (SubP.drop (SubP.drop (SubP.drop (SubP.drop SubP.refl)))) | fail) aD, ?_⟩; refine gH (M' := .row qa2 (bB m.a [(i : Int)] t ++ [gt m.a.rows (t : Int)]).length ca2 (recs eL (bB m.a [(i : Int)] t ++ [gt m.a.rows (t : Int)])) 34 1 :: .row ql2 (bF m.l.es i t ++ [gt m.l.es (t : Int)]).length cl2 (recs eR (bF m.l.es i t ++ [gt m.l.es (t : Int)])) 42 4 :: .row qp (bF m.p.es i t).length cp (recs eR (bF m.p.es i t)) 42 4 :: .blk bo [.slice qa (bB m.a [(i : Int)] t).length ca, .slice ql (bF m.l.es i t).length cl, .slice qp (bF m.p.es i t).length cp] 68 :: .blk b4 [.slice none 0 0, .slice none 0 0, .slice none 0 0] 68 :: M0) (fun _ hw => hw) ?_)
        refine bC ?_
        refine iG (fuel := 5) (listed' := #[true, true, true, true, true, true, true, true, true, true, true, true, true, true, true, true, true, true, true, true, true, true, true, true, true, true, true, true, false, false, false, false, false]) (k1 := 6) [25, 26] [0, 0] (by kernel_rfl) rfl aC aC aD (by kernel_rfl) (by kernel_rfl) rfl rfl (by kernel_rfl) ?_
        repeat (refine aK ?_)
        ((refine aL (cs := recs eR [gt m.p.es (t : Int)]) ([rv (gt m.p.es (t : Int))]) rfl rfl (by intro v hv; repeat (first | exact absurd hv (List.not_mem_nil) | (rcases List.mem_cons.1 hv with rfl | hv; · rfl))) (by omega) rfl rfl rfl ?_; intro b25; refine ⟨okF, ?_⟩); refine aF .here ?_)
        repeat (refine aK ?_)
        (refine aX (ys := [gt m.p.es (t : Int)]) 2 rfl rfl rfl ?_ (by decide) rfl (by omega) (by omega) rfl rfl ?_; (· exact Src.imm aB (.inl (Ok.mk _ _))); intro qp2 cp2; refine ⟨OkD.any (by first | exact SubP.drop (SubP.drop (SubP.drop SubP.refl)) | exact SubP.drop (SubP.drop (SubP.drop (SubP.drop (SubP.drop SubP.refl)))) | fail) aD, ?_⟩; refine gH (M' := .row qa2 (bB m.a [(i : Int)] t ++ [gt m.a.rows (t : Int)]).length ca2 (recs eL (bB m.a [(i : Int)] t ++ [gt m.a.rows (t : Int)])) 34 1 :: .row ql2 (bF m.l.es i t ++ [gt m.l.es (t : Int)]).length cl2 (recs eR (bF m.l.es i t ++ [gt m.l.es (t : Int)])) 42 4 :: .row qp2 (bF m.p.es i t ++ [gt m.p.es (t : Int)]).length cp2 (recs eR (bF m.p.es i t ++ [gt m.p.es (t : Int)])) 42 4 :: .blk bo [.slice qa (bB m.a [(i : Int)] t).length ca, .slice ql (bF m.l.es i t).length cl, .slice qp (bF m.p.es i t).length cp] 68 :: .blk b4 [.slice none 0 0, .slice none 0 0, .slice none 0 0] 68 :: M0) (fun _ hw => hw) ?_)
        repeat (refine aK ?_)
        refine kH [28, 29, 30, 31, 32] [0, 0, 0, 0, 0] rfl aC aC aD (by kernel_rfl) (by kernel_rfl) rfl rfl ?_
        repeat (refine aK ?_)
        refine dP _ _ _ aO aC aD ⟨qa2, ca2, ql2, cl2, qp2, cp2, rfl, rfl, rfl⟩
       ·((refine aL (cs := recs eR [gt m.p.es (t : Int)]) ([rv (gt m.p.es (t : Int))]) rfl rfl (by intro v hv; repeat (first | exact absurd hv (List.not_mem_nil) | (rcases List.mem_cons.1 hv with rfl | hv; · rfl))) (by omega) rfl rfl rfl ?_; intro b25; refine ⟨okF, ?_⟩); refine aF .here ?_)
        refine bC ?_
        refine iG (fuel := 5) (listed' := #[true, true, true, true, true, true, true, true, true, true, true, true, true, true, true, true, true, true, true, true, true, true, true, true, true, true, true, true, false, false, false, false, false]) (k1 := 6) [17, 26] [0, 0] (by kernel_rfl) rfl aC aC aD (by kernel_rfl) (by kernel_rfl) rfl rfl (by kernel_rfl) ?_
        repeat (refine aK ?_)
        (refine aX (ys := [gt m.l.es (t : Int)]) 1 rfl rfl rfl ?_ (by decide) rfl (by omega) (by omega) rfl rfl ?_; (· exact Src.imm aB (.inl (Ok.mk _ _))); intro ql2 cl2; refine ⟨OkD.any (by first | exact SubP.drop (SubP.drop (SubP.drop SubP.refl)) | exact SubP.drop (SubP.drop (SubP.drop (SubP.drop (SubP.drop SubP.refl)))) | fail) aD, ?_⟩; refine gH (M' := .row qa2 (bB m.a [(i : Int)] t ++ [gt m.a.rows (t : Int)]).length ca2 (recs eL (bB m.a [(i : Int)] t ++ [gt m.a.rows (t : Int)])) 34 1 :: .row ql2 (bF m.l.es i t ++ [gt m.l.es (t : Int)]).length cl2 (recs eR (bF m.l.es i t ++ [gt m.l.es (t : Int)])) 42 4 :: .row qp (bF m.p.es i t).length cp (recs eR (bF m.p.es i t)) 42 4 :: .blk bo [.slice qa (bB m.a [(i : Int)] t).length ca, .slice ql (bF m.l.es i t).length cl, .slice qp (bF m.p.es i t).length cp] 68 :: .blk b4 [.slice none 0 0, .slice none 0 0, .slice none 0 0] 68 :: M0) (fun _ hw => hw) ?_)
        repeat (refine aK ?_)
        (refine aX (ys := [gt m.p.es (t : Int)]) 2 rfl rfl rfl ?_ (by decide) rfl (by omega) (by omega) rfl rfl ?_; (· exact Src.imm aB (.inl (Ok.mk _ _))); intro qp2 cp2; refine ⟨OkD.any (by first | exact SubP.drop (SubP.drop (SubP.drop SubP.refl)) | exact SubP.drop (SubP.drop (SubP.drop (SubP.drop (SubP.drop SubP.refl)))) | fail) aD, ?_⟩; refine gH (M' := .row qa2 (bB m.a [(i : Int)] t ++ [gt m.a.rows (t : Int)]).length ca2 (recs eL (bB m.a [(i : Int)] t ++ [gt m.a.rows (t : Int)])) 34 1 :: .row ql2 (bF m.l.es i t ++ [gt m.l.es (t : Int)]).length cl2 (recs eR (bF m.l.es i t ++ [gt m.l.es (t : Int)])) 42 4 :: .row qp2 (bF m.p.es i t ++ [gt m.p.es (t : Int)]).length cp2 (recs eR (bF m.p.es i t ++ [gt m.p.es (t : Int)])) 42 4 :: .blk bo [.slice qa (bB m.a [(i : Int)] t).length ca, .slice ql (bF m.l.es i t).length cl, .slice qp (bF m.p.es i t).length cp] 68 :: .blk b4 [.slice none 0 0, .slice none 0 0, .slice none 0 0] 68 :: M0) (fun _ hw => hw) ?_)
        repeat (refine aK ?_)
        refine kH [28, 29, 30, 31, 32] [0, 0, 0, 0, 0] rfl aC aC aD (by kernel_rfl) (by kernel_rfl) rfl rfl ?_
        repeat (refine aK ?_)
        refine dP _ _ _ aO aC aD ⟨qa2, ca2, ql2, cl2, qp2, cp2, rfl, rfl, rfl⟩
      ·((refine aL (cs := recs eR [gt m.p.es (t : Int)]) ([rv (gt m.p.es (t : Int))]) rfl rfl (by intro v hv; repeat (first | exact absurd hv (List.not_mem_nil) | (rcases List.mem_cons.1 hv with rfl | hv; · rfl))) (by omega) rfl rfl rfl ?_; intro b25; refine ⟨okF, ?_⟩); refine aF .here ?_)
       refine bC ?_
       refine iG (fuel := 5) (listed' := #[true, true, true, true, true, true, true, true, true, true, true, true, true, true, true, true, true, true, true, true, true, true, true, true, true, true, true, true, false, false, false, false, false]) (k1 := 6) [16, 17, 26] [0, 0, 0] (by kernel_rfl) rfl aC aC aD (by kernel_rfl) (by kernel_rfl) rfl rfl (by kernel_rfl) ?_
       repeat (refine aK ?_)
       ((refine aL (cs := recs eR [gt m.l.es (t : Int)]) ([rv (gt m.l.es (t : Int))]) rfl rfl (by intro v hv; repeat (first | exact absurd hv (List.not_mem_nil) | (rcases List.mem_cons.1 hv with rfl | hv; · rfl))) (by omega) rfl rfl rfl ?_; intro b16; refine ⟨okF, ?_⟩); refine aF .here ?_)
       repeat (refine aK ?_)
       (refine aX (ys := [gt m.l.es (t : Int)]) 1 rfl rfl rfl ?_ (by decide) rfl (by omega) (by omega) rfl rfl ?_; (· exact Src.imm aB (.inl (Ok.mk _ _))); intro ql2 cl2; refine ⟨OkD.any (by first | exact SubP.drop (SubP.drop (SubP.drop SubP.refl)) | exact SubP.drop (SubP.drop (SubP.drop (SubP.drop (SubP.drop SubP.refl)))) | fail) aD, ?_⟩; refine gH (M' := .row qa2 (bB m.a [(i : Int)] t ++ [gt m.a.rows (t : Int)]).length ca2 (recs eL (bB m.a [(i : Int)] t ++ [gt m.a.rows (t : Int)])) 34 1 :: .row ql2 (bF m.l.es i t ++ [gt m.l.es (t : Int)]).length cl2 (recs eR (bF m.l.es i t ++ [gt m.l.es (t : Int)])) 42 4 :: .row qp (bF m.p.es i t).length cp (recs eR (bF m.p.es i t)) 42 4 :: .blk bo [.slice qa (bB m.a [(i : Int)] t).length ca, .slice ql (bF m.l.es i t).length cl, .slice qp (bF m.p.es i t).length cp] 68 :: .blk b4 [.slice none 0 0, .slice none 0 0, .slice none 0 0] 68 :: M0) (fun _ hw => hw) ?_)
       repeat (refine aK ?_)
       (refine aX (ys := [gt m.p.es (t : Int)]) 2 rfl rfl rfl ?_ (by decide) rfl (by omega) (by omega) rfl rfl ?_; (· exact Src.imm aB (.inl (Ok.mk _ _))); intro qp2 cp2; refine ⟨OkD.any (by first | exact SubP.drop (SubP.drop (SubP.drop SubP.refl)) | exact SubP.drop (SubP.drop (SubP.drop (SubP.drop (SubP.drop SubP.refl)))) | fail) aD, ?_⟩; refine gH (M' := .row qa2 (bB m.a [(i : Int)] t ++ [gt m.a.rows (t : Int)]).length ca2 (recs eL (bB m.a [(i : Int)] t ++ [gt m.a.rows (t : Int)])) 34 1 :: .row ql2 (bF m.l.es i t ++ [gt m.l.es (t : Int)]).length cl2 (recs eR (bF m.l.es i t ++ [gt m.l.es (t : Int)])) 42 4 :: .row qp2 (bF m.p.es i t ++ [gt m.p.es (t : Int)]).length cp2 (recs eR (bF m.p.es i t ++ [gt m.p.es (t : Int)])) 42 4 :: .blk bo [.slice qa (bB m.a [(i : Int)] t).length ca, .slice ql (bF m.l.es i t).length cl, .slice qp (bF m.p.es i t).length cp] 68 :: .blk b4 [.slice none 0 0, .slice none 0 0, .slice none 0 0] 68 :: M0) (fun _ hw => hw) ?_)
       repeat (refine aK ?_)
       refine kH [28, 29, 30, 31, 32] [0, 0, 0, 0, 0] rfl aC aC aD (by kernel_rfl) (by kernel_rfl) rfl rfl ?_
       repeat (refine aK ?_)
       refine dP _ _ _ aO aC aD ⟨qa2, ca2, ql2, cl2, qp2, cp2, rfl, rfl, rfl⟩
     ·((refine aL (cs := recs eR [gt m.l.es (t : Int)]) ([rv (gt m.l.es (t : Int))]) rfl rfl (by intro v hv; repeat (first | exact absurd hv (List.not_mem_nil) | (rcases List.mem_cons.1 hv with rfl | hv; · rfl))) (by omega) rfl rfl rfl ?_; intro b16; refine ⟨okF, ?_⟩); refine aF .here ?_)
      refine bC ?_
      refine lY (fuel := 9) (i := 8) (j := 25) (k1 := 3) rfl rfl aC (by kernel_rfl) (by kernel_rfl) ?_ ?_
      ·(refine aX (ys := [gt m.a.rows (t : Int)]) 0 rfl rfl rfl ?_ (by decide) rfl (by omega) (by omega) rfl rfl ?_; (· exact Src.imm aB (.inl (Ok.mk _ _))); intro qa2 ca2; refine ⟨OkD.any (by first | exact SubP.drop (SubP.drop (SubP.drop SubP.refl)) | exact SubP.drop (SubP.drop (SubP.drop (SubP.drop (SubP.drop SubP.refl)))) | fail) aD, ?_⟩; refine gH (M' := .row qa2 (bB m.a [(i : Int)] t ++ [gt m.a.rows (t : Int)]).length ca2 (recs eL (bB m.a [(i : Int)] t ++ [gt m.a.rows (t : Int)])) 34 1 :: .row ql (bF m.l.es i t).length cl (recs eR (bF m.l.es i t)) 42 4 :: .row qp (bF m.p.es i t).length cp (recs eR (bF m.p.es i t)) 42 4 :: .blk bo [.slice qa (bB m.a [(i : Int)] t).length ca, .slice ql (bF m.l.es i t).length cl, .slice qp (bF m.p.es i t).length cp] 68 :: .blk b4 [.slice none 0 0, .slice none 0 0, .slice none 0 0] 68 :: M0) (fun _ hw => hw) ?_)
       refine bC ?_
       refine kT (fuel := 8) (listed' := #[true, true, true, true, true, true, true, true, true, true, true, true, true, true, true, true, true, false, true, true, true, true, true, true, true, false, false, true, false, false, false, false, false]) (k1 := 3) [27] [3] (by kernel_rfl) rfl aC aC aD (by kernel_rfl) (by kernel_rfl) rfl rfl (by kernel_rfl) ?_
       repeat (refine aK ?_)
       refine lY (fuel := 7) (i := 17) (j := 25) (k1 := 4) rfl rfl aC (by kernel_rfl) (by kernel_rfl) ?_ ?_
       ·(refine aX (ys := [gt m.l.es (t : Int)]) 1 rfl rfl rfl ?_ (by decide) rfl (by omega) (by omega) rfl rfl ?_; (· exact Src.imm aB (.inl (Ok.mk _ _))); intro ql2 cl2; refine ⟨OkD.any (by first | exact SubP.drop (SubP.drop (SubP.drop SubP.refl)) | exact SubP.drop (SubP.drop (SubP.drop (SubP.drop (SubP.drop SubP.refl)))) | fail) aD, ?_⟩; refine gH (M' := .row qa2 (bB m.a [(i : Int)] t ++ [gt m.a.rows (t : Int)]).length ca2 (recs eL (bB m.a [(i : Int)] t ++ [gt m.a.rows (t : Int)])) 34 1 :: .row ql2 (bF m.l.es i t ++ [gt m.l.es (t : Int)]).length cl2 (recs eR (bF m.l.es i t ++ [gt m.l.es (t : Int)])) 42 4 :: .row qp (bF m.p.es i t).length cp (recs eR (bF m.p.es i t)) 42 4 :: .blk bo [.slice qa (bB m.a [(i : Int)] t).length ca, .slice ql (bF m.l.es i t).length cl, .slice qp (bF m.p.es i t).length cp] 68 :: .blk b4 [.slice none 0 0, .slice none 0 0, .slice none 0 0] 68 :: M0) (fun _ hw => hw) ?_)
        refine bC ?_
        refine iG (fuel := 5) (listed' := #[true, true, true, true, true, true, true, true, true, true, true, true, true, true, true, true, true, true, true, true, true, true, true, true, true, true, true, true, false, false, false, false, false]) (k1 := 6) [25, 26] [0, 0] (by kernel_rfl) rfl aC aC aD (by kernel_rfl) (by kernel_rfl) rfl rfl (by kernel_rfl) ?_
        repeat (refine aK ?_)
        ((refine aL (cs := recs eR [gt m.p.es (t : Int)]) ([rv (gt m.p.es (t : Int))]) rfl rfl (by intro v hv; repeat (first | exact absurd hv (List.not_mem_nil) | (rcases List.mem_cons.1 hv with rfl | hv; · rfl))) (by omega) rfl rfl rfl ?_; intro b25; refine ⟨okF, ?_⟩); refine aF .here ?_)
        repeat (refine aK ?_)
        (refine aX (ys := [gt m.p.es (t : Int)]) 2 rfl rfl rfl ?_ (by decide) rfl (by omega) (by omega) rfl rfl ?_; (· exact Src.imm aB (.inl (Ok.mk _ _))); intro qp2 cp2; refine ⟨OkD.any (by first | exact SubP.drop (SubP.drop (SubP.drop SubP.refl)) | exact SubP.drop (SubP.drop (SubP.drop (SubP.drop (SubP.drop SubP.refl)))) | fail) aD, ?_⟩; refine gH (M' := .row qa2 (bB m.a [(i : Int)] t ++ [gt m.a.rows (t : Int)]).length ca2 (recs eL (bB m.a [(i : Int)] t ++ [gt m.a.rows (t : Int)])) 34 1 :: .row ql2 (bF m.l.es i t ++ [gt m.l.es (t : Int)]).length cl2 (recs eR (bF m.l.es i t ++ [gt m.l.es (t : Int)])) 42 4 :: .row qp2 (bF m.p.es i t ++ [gt m.p.es (t : Int)]).length cp2 (recs eR (bF m.p.es i t ++ [gt m.p.es (t : Int)])) 42 4 :: .blk bo [.slice qa (bB m.a [(i : Int)] t).length ca, .slice ql (bF m.l.es i t).length cl, .slice qp (bF m.p.es i t).length cp] 68 :: .blk b4 [.slice none 0 0, .slice none 0 0, .slice none 0 0] 68 :: M0) (fun _ hw => hw) ?_)
        repeat (refine aK ?_)
        refine kH [28, 29, 30, 31, 32] [0, 0, 0, 0, 0] rfl aC aC aD (by kernel_rfl) (by kernel_rfl) rfl rfl ?_
        repeat (refine aK ?_)
        refine dP _ _ _ aO aC aD ⟨qa2, ca2, ql2, cl2, qp2, cp2, rfl, rfl, rfl⟩
       ·((refine aL (cs := recs eR [gt m.p.es (t : Int)]) ([rv (gt m.p.es (t : Int))]) rfl rfl (by intro v hv; repeat (first | exact absurd hv (List.not_mem_nil) | (rcases List.mem_cons.1 hv with rfl | hv; · rfl))) (by omega) rfl rfl rfl ?_; intro b25; refine ⟨okF, ?_⟩); refine aF .here ?_)
        refine bC ?_
        refine iG (fuel := 5) (listed' := #[true, true, true, true, true, true, true, true, true, true, true, true, true, true, true, true, true, true, true, true, true, true, true, true, true, true, true, true, false, false, false, false, false]) (k1 := 6) [17, 26] [0, 0] (by kernel_rfl) rfl aC aC aD (by kernel_rfl) (by kernel_rfl) rfl rfl (by kernel_rfl) ?_
        repeat (refine aK ?_)
        (refine aX (ys := [gt m.l.es (t : Int)]) 1 rfl rfl rfl ?_ (by decide) rfl (by omega) (by omega) rfl rfl ?_; (· exact Src.imm aB (.inl (Ok.mk _ _))); intro ql2 cl2; refine ⟨OkD.any (by first | exact SubP.drop (SubP.drop (SubP.drop SubP.refl)) | exact SubP.drop (SubP.drop (SubP.drop (SubP.drop (SubP.drop SubP.refl)))) | fail) aD, ?_⟩; refine gH (M' := .row qa2 (bB m.a [(i : Int)] t ++ [gt m.a.rows (t : Int)]).length ca2 (recs eL (bB m.a [(i : Int)] t ++ [gt m.a.rows (t : Int)])) 34 1 :: .row ql2 (bF m.l.es i t ++ [gt m.l.es (t : Int)]).length cl2 (recs eR (bF m.l.es i t ++ [gt m.l.es (t : Int)])) 42 4 :: .row qp (bF m.p.es i t).length cp (recs eR (bF m.p.es i t)) 42 4 :: .blk bo [.slice qa (bB m.a [(i : Int)] t).length ca, .slice ql (bF m.l.es i t).length cl, .slice qp (bF m.p.es i t).length cp] 68 :: .blk b4 [.slice none 0 0, .slice none 0 0, .slice none 0 0] 68 :: M0) (fun _ hw => hw) ?_)
        repeat (refine aK ?_)
        (refine aX (ys := [gt m.p.es (t : Int)]) 2 rfl rfl rfl ?_ (by decide) rfl (by omega) (by omega) rfl rfl ?_; (· exact Src.imm aB (.inl (Ok.mk _ _))); intro qp2 cp2; refine ⟨OkD.any (by first | exact SubP.drop (SubP.drop (SubP.drop SubP.refl)) | exact SubP.drop (SubP.drop (SubP.drop (SubP.drop (SubP.drop SubP.refl)))) | fail) aD, ?_⟩; refine gH (M' := .row qa2 (bB m.a [(i : Int)] t ++ [gt m.a.rows (t : Int)]).length ca2 (recs eL (bB m.a [(i : Int)] t ++ [gt m.a.rows (t : Int)])) 34 1 :: .row ql2 (bF m.l.es i t ++ [gt m.l.es (t : Int)]).length cl2 (recs eR (bF m.l.es i t ++ [gt m.l.es (t : Int)])) 42 4 :: .row qp2 (bF m.p.es i t ++ [gt m.p.es (t : Int)]).length cp2 (recs eR (bF m.p.es i t ++ [gt m.p.es (t : Int)])) 42 4 :: .blk bo [.slice qa (bB m.a [(i : Int)] t).length ca, .slice ql (bF m.l.es i t).length cl, .slice qp (bF m.p.es i t).length cp] 68 :: .blk b4 [.slice none 0 0, .slice none 0 0, .slice none 0 0] 68 :: M0) (fun _ hw => hw) ?_)
        repeat (refine aK ?_)
        refine kH [28, 29, 30, 31, 32] [0, 0, 0, 0, 0] rfl aC aC aD (by kernel_rfl) (by kernel_rfl) rfl rfl ?_
        repeat (refine aK ?_)
        refine dP _ _ _ aO aC aD ⟨qa2, ca2, ql2, cl2, qp2, cp2, rfl, rfl, rfl⟩
      ·((refine aL (cs := recs eR [gt m.p.es (t : Int)]) ([rv (gt m.p.es (t : Int))]) rfl rfl (by intro v hv; repeat (first | exact absurd hv (List.not_mem_nil) | (rcases List.mem_cons.1 hv with rfl | hv; · rfl))) (by omega) rfl rfl rfl ?_; intro b25; refine ⟨okF, ?_⟩); refine aF .here ?_)
       refine bC ?_
       refine iG (fuel := 8) (listed' := #[true, true, true, true, true, true, true, true, true, true, true, true, true, true, true, true, true, false, true, true, true, true, true, true, true, true, false, false, false, false, false, false, false]) (k1 := 4) [8] [0] (by kernel_rfl) rfl aC aC aD (by kernel_rfl) (by kernel_rfl) rfl rfl (by kernel_rfl) ?_
       repeat (refine aK ?_)
       (refine aX (ys := [gt m.a.rows (t : Int)]) 0 rfl rfl rfl ?_ (by decide) rfl (by omega) (by omega) rfl rfl ?_; (· exact Src.imm aB (.inl (Ok.mk _ _))); intro qa2 ca2; refine ⟨OkD.any (by first | exact SubP.drop (SubP.drop (SubP.drop SubP.refl)) | exact SubP.drop (SubP.drop (SubP.drop (SubP.drop (SubP.drop SubP.refl)))) | fail) aD, ?_⟩; refine gH (M' := .row qa2 (bB m.a [(i : Int)] t ++ [gt m.a.rows (t : Int)]).length ca2 (recs eL (bB m.a [(i : Int)] t ++ [gt m.a.rows (t : Int)])) 34 1 :: .row ql (bF m.l.es i t).length cl (recs eR (bF m.l.es i t)) 42 4 :: .row qp (bF m.p.es i t).length cp (recs eR (bF m.p.es i t)) 42 4 :: .blk bo [.slice qa (bB m.a [(i : Int)] t).length ca, .slice ql (bF m.l.es i t).length cl, .slice qp (bF m.p.es i t).length cp] 68 :: .blk b4 [.slice none 0 0, .slice none 0 0, .slice none 0 0] 68 :: M0) (fun _ hw => hw) ?_)
       repeat (refine aK ?_)
       refine kT (fuel := 7) (listed' := #[true, true, true, true, true, true, true, true, true, true, true, true, true, true, true, true, true, false, true, true, true, true, true, true, true, true, false, true, false, false, false, false, false]) (k1 := 4) [27] [2] (by kernel_rfl) rfl aC aC aD (by kernel_rfl) (by kernel_rfl) rfl rfl (by kernel_rfl) ?_
       repeat (refine aK ?_)
       refine iG (fuel := 5) (listed' := #[true, true, true, true, true, true, true, true, true, true, true, true, true, true, true, true, true, true, true, true, true, true, true, true, true, true, true, true, false, false, false, false, false]) (k1 := 6) [17, 26] [0, 0] (by kernel_rfl) rfl aC aC aD (by kernel_rfl) (by kernel_rfl) rfl rfl (by kernel_rfl) ?_
       repeat (refine aK ?_)
       (refine aX (ys := [gt m.l.es (t : Int)]) 1 rfl rfl rfl ?_ (by decide) rfl (by omega) (by omega) rfl rfl ?_; (· exact Src.imm aB (.inl (Ok.mk _ _))); intro ql2 cl2; refine ⟨OkD.any (by first | exact SubP.drop (SubP.drop (SubP.drop SubP.refl)) | exact SubP.drop (SubP.drop (SubP.drop (SubP.drop (SubP.drop SubP.refl)))) | fail) aD, ?_⟩; refine gH (M' := .row qa2 (bB m.a [(i : Int)] t ++ [gt m.a.rows (t : Int)]).length ca2 (recs eL (bB m.a [(i : Int)] t ++ [gt m.a.rows (t : Int)])) 34 1 :: .row ql2 (bF m.l.es i t ++ [gt m.l.es (t : Int)]).length cl2 (recs eR (bF m.l.es i t ++ [gt m.l.es (t : Int)])) 42 4 :: .row qp (bF m.p.es i t).length cp (recs eR (bF m.p.es i t)) 42 4 :: .blk bo [.slice qa (bB m.a [(i : Int)] t).length ca, .slice ql (bF m.l.es i t).length cl, .slice qp (bF m.p.es i t).length cp] 68 :: .blk b4 [.slice none 0 0, .slice none 0 0, .slice none 0 0] 68 :: M0) (fun _ hw => hw) ?_)
       repeat (refine aK ?_)
       (refine aX (ys := [gt m.p.es (t : Int)]) 2 rfl rfl rfl ?_ (by decide) rfl (by omega) (by omega) rfl rfl ?_; (· exact Src.imm aB (.inl (Ok.mk _ _))); intro qp2 cp2; refine ⟨OkD.any (by first | exact SubP.drop (SubP.drop (SubP.drop SubP.refl)) | exact SubP.drop (SubP.drop (SubP.drop (SubP.drop (SubP.drop SubP.refl)))) | fail) aD, ?_⟩; refine gH (M' := .row qa2 (bB m.a [(i : Int)] t ++ [gt m.a.rows (t : Int)]).length ca2 (recs eL (bB m.a [(i : Int)] t ++ [gt m.a.rows (t : Int)])) 34 1 :: .row ql2 (bF m.l.es i t ++ [gt m.l.es (t : Int)]).length cl2 (recs eR (bF m.l.es i t ++ [gt m.l.es (t : Int)])) 42 4 :: .row qp2 (bF m.p.es i t ++ [gt m.p.es (t : Int)]).length cp2 (recs eR (bF m.p.es i t ++ [gt m.p.es (t : Int)])) 42 4 :: .blk bo [.slice qa (bB m.a [(i : Int)] t).length ca, .slice ql (bF m.l.es i t).length cl, .slice qp (bF m.p.es i t).length cp] 68 :: .blk b4 [.slice none 0 0, .slice none 0 0, .slice none 0 0] 68 :: M0) (fun _ hw => hw) ?_)
       repeat (refine aK ?_)
       refine kH [28, 29, 30, 31, 32] [0, 0, 0, 0, 0] rfl aC aC aD (by kernel_rfl) (by kernel_rfl) rfl rfl ?_
       repeat (refine aK ?_)
       refine dP _ _ _ aO aC aD ⟨qa2, ca2, ql2, cl2, qp2, cp2, rfl, rfl, rfl⟩
     ·((refine aL (cs := recs eR [gt m.p.es (t : Int)]) ([rv (gt m.p.es (t : Int))]) rfl rfl (by intro v hv; repeat (first | exact absurd hv (List.not_mem_nil) | (rcases List.mem_cons.1 hv with rfl | hv; · rfl))) (by omega) rfl rfl rfl ?_; intro b25; refine ⟨okF, ?_⟩); refine aF .here ?_)
      refine bC ?_
      refine lY (fuel := 9) (i := 8) (j := 16) (k1 := 3) rfl rfl aC (by kernel_rfl) (by kernel_rfl) ?_ ?_
      ·(refine aX (ys := [gt m.a.rows (t : Int)]) 0 rfl rfl rfl ?_ (by decide) rfl (by omega) (by omega) rfl rfl ?_; (· exact Src.imm aB (.inl (Ok.mk _ _))); intro qa2 ca2; refine ⟨OkD.any (by first | exact SubP.drop (SubP.drop (SubP.drop SubP.refl)) | exact SubP.drop (SubP.drop (SubP.drop (SubP.drop (SubP.drop SubP.refl)))) | fail) aD, ?_⟩; refine gH (M' := .row qa2 (bB m.a [(i : Int)] t ++ [gt m.a.rows (t : Int)]).length ca2 (recs eL (bB m.a [(i : Int)] t ++ [gt m.a.rows (t : Int)])) 34 1 :: .row ql (bF m.l.es i t).length cl (recs eR (bF m.l.es i t)) 42 4 :: .row qp (bF m.p.es i t).length cp (recs eR (bF m.p.es i t)) 42 4 :: .blk bo [.slice qa (bB m.a [(i : Int)] t).length ca, .slice ql (bF m.l.es i t).length cl, .slice qp (bF m.p.es i t).length cp] 68 :: .blk b4 [.slice none 0 0, .slice none 0 0, .slice none 0 0] 68 :: M0) (fun _ hw => hw) ?_)
       refine bC ?_
       refine kT (fuel := 8) (listed' := #[true, true, true, true, true, true, true, true, true, true, true, true, true, true, true, true, false, false, true, true, true, true, true, true, true, true, false, true, false, false, false, false, false]) (k1 := 3) [27] [3] (by kernel_rfl) rfl aC aC aD (by kernel_rfl) (by kernel_rfl) rfl rfl (by kernel_rfl) ?_
       repeat (refine aK ?_)
       refine iG (fuel := 5) (listed' := #[true, true, true, true, true, true, true, true, true, true, true, true, true, true, true, true, true, true, true, true, true, true, true, true, true, true, true, true, false, false, false, false, false]) (k1 := 6) [16, 17, 26] [0, 0, 0] (by kernel_rfl) rfl aC aC aD (by kernel_rfl) (by kernel_rfl) rfl rfl (by kernel_rfl) ?_
       repeat (refine aK ?_)
       ((refine aL (cs := recs eR [gt m.l.es (t : Int)]) ([rv (gt m.l.es (t : Int))]) rfl rfl (by intro v hv; repeat (first | exact absurd hv (List.not_mem_nil) | (rcases List.mem_cons.1 hv with rfl | hv; · rfl))) (by omega) rfl rfl rfl ?_; intro b16; refine ⟨okF, ?_⟩); refine aF .here ?_)
       repeat (refine aK ?_)
       (refine aX (ys := [gt m.l.es (t : Int)]) 1 rfl rfl rfl ?_ (by decide) rfl (by omega) (by omega) rfl rfl ?_; (· exact Src.imm aB (.inl (Ok.mk _ _))); intro ql2 cl2; refine ⟨OkD.any (by first | exact SubP.drop (SubP.drop (SubP.drop SubP.refl)) | exact SubP.drop (SubP.drop (SubP.drop (SubP.drop (SubP.drop SubP.refl)))) | fail) aD, ?_⟩; refine gH (M' := .row qa2 (bB m.a [(i : Int)] t ++ [gt m.a.rows (t : Int)]).length ca2 (recs eL (bB m.a [(i : Int)] t ++ [gt m.a.rows (t : Int)])) 34 1 :: .row ql2 (bF m.l.es i t ++ [gt m.l.es (t : Int)]).length cl2 (recs eR (bF m.l.es i t ++ [gt m.l.es (t : Int)])) 42 4 :: .row qp (bF m.p.es i t).length cp (recs eR (bF m.p.es i t)) 42 4 :: .blk bo [.slice qa (bB m.a [(i : Int)] t).length ca, .slice ql (bF m.l.es i t).length cl, .slice qp (bF m.p.es i t).length cp] 68 :: .blk b4 [.slice none 0 0, .slice none 0 0, .slice none 0 0] 68 :: M0) (fun _ hw => hw) ?_)
       repeat (refine aK ?_)
       (refine aX (ys := [gt m.p.es (t : Int)]) 2 rfl rfl rfl ?_ (by decide) rfl (by omega) (by omega) rfl rfl ?_; (· exact Src.imm aB (.inl (Ok.mk _ _))); intro qp2 cp2; refine ⟨OkD.any (by first | exact SubP.drop (SubP.drop (SubP.drop SubP.refl)) | exact SubP.drop (SubP.drop (SubP.drop (SubP.drop (SubP.drop SubP.refl)))) | fail) aD, ?_⟩; refine gH (M' := .row qa2 (bB m.a [(i : Int)] t ++ [gt m.a.rows (t : Int)]).length ca2 (recs eL (bB m.a [(i : Int)] t ++ [gt m.a.rows (t : Int)])) 34 1 :: .row ql2 (bF m.l.es i t ++ [gt m.l.es (t : Int)]).length cl2 (recs eR (bF m.l.es i t ++ [gt m.l.es (t : Int)])) 42 4 :: .row qp2 (bF m.p.es i t ++ [gt m.p.es (t : Int)]).length cp2 (recs eR (bF m.p.es i t ++ [gt m.p.es (t : Int)])) 42 4 :: .blk bo [.slice qa (bB m.a [(i : Int)] t).length ca, .slice ql (bF m.l.es i t).length cl, .slice qp (bF m.p.es i t).length cp] 68 :: .blk b4 [.slice none 0 0, .slice none 0 0, .slice none 0 0] 68 :: M0) (fun _ hw => hw) ?_)
       repeat (refine aK ?_)
       refine kH [28, 29, 30, 31, 32] [0, 0, 0, 0, 0] rfl aC aC aD (by kernel_rfl) (by kernel_rfl) rfl rfl ?_
       repeat (refine aK ?_)
       refine dP _ _ _ aO aC aD ⟨qa2, ca2, ql2, cl2, qp2, cp2, rfl, rfl, rfl⟩
      ·((refine aL (cs := recs eR [gt m.l.es (t : Int)]) ([rv (gt m.l.es (t : Int))]) rfl rfl (by intro v hv; repeat (first | exact absurd hv (List.not_mem_nil) | (rcases List.mem_cons.1 hv with rfl | hv; · rfl))) (by omega) rfl rfl rfl ?_; intro b16; refine ⟨okF, ?_⟩); refine aF .here ?_)
       refine bC ?_
       refine iG (fuel := 8) (listed' := #[true, true, true, true, true, true, true, true, true, true, true, true, true, true, true, true, true, false, true, true, true, true, true, true, true, true, false, false, false, false, false, false, false]) (k1 := 4) [8] [0] (by kernel_rfl) rfl aC aC aD (by kernel_rfl) (by kernel_rfl) rfl rfl (by kernel_rfl) ?_
       repeat (refine aK ?_)
       (refine aX (ys := [gt m.a.rows (t : Int)]) 0 rfl rfl rfl ?_ (by decide) rfl (by omega) (by omega) rfl rfl ?_; (· exact Src.imm aB (.inl (Ok.mk _ _))); intro qa2 ca2; refine ⟨OkD.any (by first | exact SubP.drop (SubP.drop (SubP.drop SubP.refl)) | exact SubP.drop (SubP.drop (SubP.drop (SubP.drop (SubP.drop SubP.refl)))) | fail) aD, ?_⟩; refine gH (M' := .row qa2 (bB m.a [(i : Int)] t ++ [gt m.a.rows (t : Int)]).length ca2 (recs eL (bB m.a [(i : Int)] t ++ [gt m.a.rows (t : Int)])) 34 1 :: .row ql (bF m.l.es i t).length cl (recs eR (bF m.l.es i t)) 42 4 :: .row qp (bF m.p.es i t).length cp (recs eR (bF m.p.es i t)) 42 4 :: .blk bo [.slice qa (bB m.a [(i : Int)] t).length ca, .slice ql (bF m.l.es i t).length cl, .slice qp (bF m.p.es i t).length cp] 68 :: .blk b4 [.slice none 0 0, .slice none 0 0, .slice none 0 0] 68 :: M0) (fun _ hw => hw) ?_)
       repeat (refine aK ?_)
       refine kT (fuel := 7) (listed' := #[true, true, true, true, true, true, true, true, true, true, true, true, true, true, true, true, true, false, true, true, true, true, true, true, true, true, false, true, false, false, false, false, false]) (k1 := 4) [27] [2] (by kernel_rfl) rfl aC aC aD (by kernel_rfl) (by kernel_rfl) rfl rfl (by kernel_rfl) ?_
       repeat (refine aK ?_)
       refine iG (fuel := 5) (listed' := #[true, true, true, true, true, true, true, true, true, true, true, true, true, true, true, true, true, true, true, true, true, true, true, true, true, true, true, true, false, false, false, false, false]) (k1 := 6) [17, 26] [0, 0] (by kernel_rfl) rfl aC aC aD (by kernel_rfl) (by kernel_rfl) rfl rfl (by kernel_rfl) ?_
       repeat (refine aK ?_)
       (refine aX (ys := [gt m.l.es (t : Int)]) 1 rfl rfl rfl ?_ (by decide) rfl (by omega) (by omega) rfl rfl ?_; (· exact Src.imm aB (.inl (Ok.mk _ _))); intro ql2 cl2; refine ⟨OkD.any (by first | exact SubP.drop (SubP.drop (SubP.drop SubP.refl)) | exact SubP.drop (SubP.drop (SubP.drop (SubP.drop (SubP.drop SubP.refl)))) | fail) aD, ?_⟩; refine gH (M' := .row qa2 (bB m.a [(i : Int)] t ++ [gt m.a.rows (t : Int)]).length ca2 (recs eL (bB m.a [(i : Int)] t ++ [gt m.a.rows (t : Int)])) 34 1 :: .row ql2 (bF m.l.es i t ++ [gt m.l.es (t : Int)]).length cl2 (recs eR (bF m.l.es i t ++ [gt m.l.es (t : Int)])) 42 4 :: .row qp (bF m.p.es i t).length cp (recs eR (bF m.p.es i t)) 42 4 :: .blk bo [.slice qa (bB m.a [(i : Int)] t).length ca, .slice ql (bF m.l.es i t).length cl, .slice qp (bF m.p.es i t).length cp] 68 :: .blk b4 [.slice none 0 0, .slice none 0 0, .slice none 0 0] 68 :: M0) (fun _ hw => hw) ?_)
       repeat (refine aK ?_)
       (refine aX (ys := [gt m.p.es (t : Int)]) 2 rfl rfl rfl ?_ (by decide) rfl (by omega) (by omega) rfl rfl ?_; (· exact Src.imm aB (.inl (Ok.mk _ _))); intro qp2 cp2; refine ⟨OkD.any (by first | exact SubP.drop (SubP.drop (SubP.drop SubP.refl)) | exact SubP.drop (SubP.drop (SubP.drop (SubP.drop (SubP.drop SubP.refl)))) | fail) aD, ?_⟩; refine gH (M' := .row qa2 (bB m.a [(i : Int)] t ++ [gt m.a.rows (t : Int)]).length ca2 (recs eL (bB m.a [(i : Int)] t ++ [gt m.a.rows (t : Int)])) 34 1 :: .row ql2 (bF m.l.es i t ++ [gt m.l.es (t : Int)]).length cl2 (recs eR (bF m.l.es i t ++ [gt m.l.es (t : Int)])) 42 4 :: .row qp2 (bF m.p.es i t ++ [gt m.p.es (t : Int)]).length cp2 (recs eR (bF m.p.es i t ++ [gt m.p.es (t : Int)])) 42 4 :: .blk bo [.slice qa (bB m.a [(i : Int)] t).length ca, .slice ql (bF m.l.es i t).length cl, .slice qp (bF m.p.es i t).length cp] 68 :: .blk b4 [.slice none 0 0, .slice none 0 0, .slice none 0 0] 68 :: M0) (fun _ hw => hw) ?_)
       repeat (refine aK ?_)
       refine kH [28, 29, 30, 31, 32] [0, 0, 0, 0, 0] rfl aC aC aD (by kernel_rfl) (by kernel_rfl) rfl rfl ?_
       repeat (refine aK ?_)
       refine dP _ _ _ aO aC aD ⟨qa2, ca2, ql2, cl2, qp2, cp2, rfl, rfl, rfl⟩
    ·((refine aL (cs := recs eR [gt m.l.es (t : Int)]) ([rv (gt m.l.es (t : Int))]) rfl rfl (by intro v hv; repeat (first | exact absurd hv (List.not_mem_nil) | (rcases List.mem_cons.1 hv with rfl | hv; · rfl))) (by omega) rfl rfl rfl ?_; intro b16; refine ⟨okF, ?_⟩); refine aF .here ?_)
     refine bC ?_
     refine lY (fuel := 10) (i := 7) (j := 25) (k1 := 2) rfl rfl aC (by kernel_rfl) (by kernel_rfl) ?_ ?_
     ·((refine aL (cs := recs eL [gt m.a.rows (t : Int)]) ([lv (gt m.a.rows (t : Int))]) rfl rfl (by intro v hv; repeat (first | exact absurd hv (List.not_mem_nil) | (rcases List.mem_cons.1 hv with rfl | hv; · rfl))) (by omega) rfl rfl rfl ?_; intro b7; refine ⟨okF, ?_⟩); refine aF .here ?_)
      refine bC ?_
      refine lY (fuel := 9) (i := 8) (j := 25) (k1 := 3) rfl rfl aC (by kernel_rfl) (by kernel_rfl) ?_ ?_
      ·(refine aX (ys := [gt m.a.rows (t : Int)]) 0 rfl rfl rfl ?_ (by decide) rfl (by omega) (by omega) rfl rfl ?_; (· exact Src.imm aB (.inl (Ok.mk _ _))); intro qa2 ca2; refine ⟨OkD.any (by first | exact SubP.drop (SubP.drop (SubP.drop SubP.refl)) | exact SubP.drop (SubP.drop (SubP.drop (SubP.drop (SubP.drop SubP.refl)))) | fail) aD, ?_⟩; refine gH (M' := .row qa2 (bB m.a [(i : Int)] t ++ [gt m.a.rows (t : Int)]).length ca2 (recs eL (bB m.a [(i : Int)] t ++ [gt m.a.rows (t : Int)])) 34 1 :: .row ql (bF m.l.es i t).length cl (recs eR (bF m.l.es i t)) 42 4 :: .row qp (bF m.p.es i t).length cp (recs eR (bF m.p.es i t)) 42 4 :: .blk bo [.slice qa (bB m.a [(i : Int)] t).length ca, .slice ql (bF m.l.es i t).length cl, .slice qp (bF m.p.es i t).length cp] 68 :: .blk b4 [.slice none 0 0, .slice none 0 0, .slice none 0 0] 68 :: M0) (fun _ hw => hw) ?_)
       refine bC ?_
       refine kT (fuel := 8) (listed' := #[true, true, true, true, true, true, true, true, true, true, true, true, true, true, true, true, true, false, true, true, true, true, true, true, true, false, false, true, false, false, false, false, false]) (k1 := 3) [27] [3] (by kernel_rfl) rfl aC aC aD (by kernel_rfl) (by kernel_rfl) rfl rfl (by kernel_rfl) ?_
       repeat (refine aK ?_)
       refine lY (fuel := 7) (i := 17) (j := 25) (k1 := 4) rfl rfl aC (by kernel_rfl) (by kernel_rfl) ?_ ?_
       ·(refine aX (ys := [gt m.l.es (t : Int)]) 1 rfl rfl rfl ?_ (by decide) rfl (by omega) (by omega) rfl rfl ?_; (· exact Src.imm aB (.inl (Ok.mk _ _))); intro ql2 cl2; refine ⟨OkD.any (by first | exact SubP.drop (SubP.drop (SubP.drop SubP.refl)) | exact SubP.drop (SubP.drop (SubP.drop (SubP.drop (SubP.drop SubP.refl)))) | fail) aD, ?_⟩; refine gH (M' := .row qa2 (bB m.a [(i : Int)] t ++ [gt m.a.rows (t : Int)]).length ca2 (recs eL (bB m.a [(i : Int)] t ++ [gt m.a.rows (t : Int)])) 34 1 :: .row ql2 (bF m.l.es i t ++ [gt m.l.es (t : Int)]).length cl2 (recs eR (bF m.l.es i t ++ [gt m.l.es (t : Int)])) 42 4 :: .row qp (bF m.p.es i t).length cp (recs eR (bF m.p.es i t)) 42 4 :: .blk bo [.slice qa (bB m.a [(i : Int)] t).length ca, .slice ql (bF m.l.es i t).length cl, .slice qp (bF m.p.es i t).length cp] 68 :: .blk b4 [.slice none 0 0, .slice none 0 0, .slice none 0 0] 68 :: M0) (fun _ hw => hw) ?_)
        refine bC ?_
        refine iG (fuel := 5) (listed' := #[true, true, true, true, true, true, true, true, true, true, true, true, true, true, true, true, true, true, true, true, true, true, true, true, true, true, true, true, false, false, false, false, false]) (k1 := 6) [25, 26] [0, 0] (by kernel_rfl) rfl aC aC aD (by kernel_rfl) (by kernel_rfl) rfl rfl (by kernel_rfl) ?_
        repeat (refine aK ?_)
        ((refine aL (cs := recs eR [gt m.p.es (t : Int)]) ([rv (gt m.p.es (t : Int))]) rfl rfl (by intro v hv; repeat (first | exact absurd hv (List.not_mem_nil) | (rcases List.mem_cons.1 hv with rfl | hv; · rfl))) (by omega) rfl rfl rfl ?_; intro b25; refine ⟨okF, ?_⟩); refine aF .here ?_)
        repeat (refine aK ?_)
        (refine aX (ys := [gt m.p.es (t : Int)]) 2 rfl rfl rfl ?_ (by decide) rfl (by omega) (by omega) rfl rfl ?_; (· exact Src.imm aB (.inl (Ok.mk _ _))); intro qp2 cp2; refine ⟨OkD.any (by first | exact SubP.drop (SubP.drop (SubP.drop SubP.refl)) | exact SubP.drop (SubP.drop (SubP.drop (SubP.drop (SubP.drop SubP.refl)))) | fail) aD, ?_⟩; refine gH (M' := .row qa2 (bB m.a [(i : Int)] t ++ [gt m.a.rows (t : Int)]).length ca2 (recs eL (bB m.a [(i : Int)] t ++ [gt m.a.rows (t : Int)])) 34 1 :: .row ql2 (bF m.l.es i t ++ [gt m.l.es (t : Int)]).length cl2 (recs eR (bF m.l.es i t ++ [gt m.l.es (t : Int)])) 42 4 :: .row qp2 (bF m.p.es i t ++ [gt m.p.es (t : Int)]).length cp2 (recs eR (bF m.p.es i t ++ [gt m.p.es (t : Int)])) 42 4 :: .blk bo [.slice qa (bB m.a [(i : Int)] t).length ca, .slice ql (bF m.l.es i t).length cl, .slice qp (bF m.p.es i t).length cp] 68 :: .blk b4 [.slice none 0 0, .slice none 0 0, .slice none 0 0] 68 :: M0) (fun _ hw => hw) ?_)
        repeat (refine aK ?_)
        refine kH [28, 29, 30, 31, 32] [0, 0, 0, 0, 0] rfl aC aC aD (by kernel_rfl) (by kernel_rfl) rfl rfl ?_
        repeat (refine aK ?_)
        refine dP _ _ _ aO aC aD ⟨qa2, ca2, ql2, cl2, qp2, cp2, rfl, rfl, rfl⟩
       ·((refine aL (cs := recs eR [gt m.p.es (t : Int)]) ([rv (gt m.p.es (t : Int))]) rfl rfl (by intro v hv; repeat (first | exact absurd hv (List.not_mem_nil) | (rcases List.mem_cons.1 hv with rfl | hv; · rfl))) (by omega) rfl rfl rfl ?_; intro b25; refine ⟨okF, ?_⟩); refine aF .here ?_)
        refine bC ?_
        refine iG (fuel := 5) (listed' := #[true, true, true, true, true, true, true, true, true, true, true, true, true, true, true, true, true, true, true, true, true, true, true, true, true, true, true, true, false, false, false, false, false]) (k1 := 6) [17, 26] [0, 0] (by kernel_rfl) rfl aC aC aD (by kernel_rfl) (by kernel_rfl) rfl rfl (by kernel_rfl) ?_
        repeat (refine aK ?_)
        (refine aX (ys := [gt m.l.es (t : Int)]) 1 rfl rfl rfl ?_ (by decide) rfl (by omega) (by omega) rfl rfl ?_; (· exact Src.imm aB (.inl (Ok.mk _ _))); intro ql2 cl2; refine ⟨OkD.any (by first | exact SubP.drop (SubP.drop (SubP.drop SubP.refl)) | exact SubP.drop (SubP.drop (SubP.drop (SubP.drop (SubP.drop SubP.refl)))) | fail) aD, ?_⟩; refine gH (M' := .row qa2 (bB m.a [(i : Int)] t ++ [gt m.a.rows (t : Int)]).length ca2 (recs eL (bB m.a [(i : Int)] t ++ [gt m.a.rows (t : Int)])) 34 1 :: .row ql2 (bF m.l.es i t ++ [gt m.l.es (t : Int)]).length cl2 (recs eR (bF m.l.es i t ++ [gt m.l.es (t : Int)])) 42 4 :: .row qp (bF m.p.es i t).length cp (recs eR (bF m.p.es i t)) 42 4 :: .blk bo [.slice qa (bB m.a [(i : Int)] t).length ca, .slice ql (bF m.l.es i t).length cl, .slice qp (bF m.p.es i t).length cp] 68 :: .blk b4 [.slice none 0 0, .slice none 0 0, .slice none 0 0] 68 :: M0) (fun _ hw => hw) ?_)
        repeat (refine aK ?_)
        (refine aX (ys := [gt m.p.es (t : Int)]) 2 rfl rfl rfl ?_ (by decide) rfl (by omega) (by omega) rfl rfl ?_; (· exact Src.imm aB (.inl (Ok.mk _ _))); intro qp2 cp2; refine ⟨OkD.any (by first | exact SubP.drop (SubP.drop (SubP.drop SubP.refl)) | exact SubP.drop (SubP.drop (SubP.drop (SubP.drop (SubP.drop SubP.refl)))) | fail) aD, ?_⟩; refine gH (M' := .row qa2 (bB m.a [(i : Int)] t ++ [gt m.a.rows (t : Int)]).length ca2 (recs eL (bB m.a [(i : Int)] t ++ [gt m.a.rows (t : Int)])) 34 1 :: .row ql2 (bF m.l.es i t ++ [gt m.l.es (t : Int)]).length cl2 (recs eR (bF m.l.es i t ++ [gt m.l.es (t : Int)])) 42 4 :: .row qp2 (bF m.p.es i t ++ [gt m.p.es (t : Int)]).length cp2 (recs eR (bF m.p.es i t ++ [gt m.p.es (t : Int)])) 42 4 :: .blk bo [.slice qa (bB m.a [(i : Int)] t).length ca, .slice ql (bF m.l.es i t).length cl, .slice qp (bF m.p.es i t).length cp] 68 :: .blk b4 [.slice none 0 0, .slice none 0 0, .slice none 0 0] 68 :: M0) (fun _ hw => hw) ?_)
        repeat (refine aK ?_)
        refine kH [28, 29, 30, 31, 32] [0, 0, 0, 0, 0] rfl aC aC aD (by kernel_rfl) (by kernel_rfl) rfl rfl ?_
        repeat (refine aK ?_)
        refine dP _ _ _ aO aC aD ⟨qa2, ca2, ql2, cl2, qp2, cp2, rfl, rfl, rfl⟩
      ·((refine aL (cs := recs eR [gt m.p.es (t : Int)]) ([rv (gt m.p.es (t : Int))]) rfl rfl (by intro v hv; repeat (first | exact absurd hv (List.not_mem_nil) | (rcases List.mem_cons.1 hv with rfl | hv; · rfl))) (by omega) rfl rfl rfl ?_; intro b25; refine ⟨okF, ?_⟩); refine aF .here ?_)
       refine bC ?_
       refine iG (fuel := 8) (listed' := #[true, true, true, true, true, true, true, true, true, true, true, true, true, true, true, true, true, false, true, true, true, true, true, true, true, true, false, false, false, false, false, false, false]) (k1 := 4) [8] [0] (by kernel_rfl) rfl aC aC aD (by kernel_rfl) (by kernel_rfl) rfl rfl (by kernel_rfl) ?_
       repeat (refine aK ?_)
       (refine aX (ys := [gt m.a.rows (t : Int)]) 0 rfl rfl rfl ?_ (by decide) rfl (by omega) (by omega) rfl rfl ?_; (· exact Src.imm aB (.inl (Ok.mk _ _))); intro qa2 ca2; refine ⟨OkD.any (by first | exact SubP.drop (SubP.drop (SubP.drop SubP.refl)) | exact SubP.drop (SubP.drop (SubP.drop (SubP.drop (SubP.drop SubP.refl)))) | fail) aD, ?_⟩; refine gH (M' := .row qa2 (bB m.a [(i : Int)] t ++ [gt m.a.rows (t : Int)]).length ca2 (recs eL (bB m.a [(i : Int)] t ++ [gt m.a.rows (t : Int)])) 34 1 :: .row ql (bF m.l.es i t).length cl (recs eR (bF m.l.es i t)) 42 4 :: .row qp (bF m.p.es i t).length cp (recs eR (bF m.p.es i t)) 42 4 :: .blk bo [.slice qa (bB m.a [(i : Int)] t).length ca, .slice ql (bF m.l.es i t).length cl, .slice qp (bF m.p.es i t).length cp] 68 :: .blk b4 [.slice none 0 0, .slice none 0 0, .slice none 0 0] 68 :: M0) (fun _ hw => hw) ?_)
       repeat (refine aK ?_)
       refine kT (fuel := 7) (listed' := #[true, true, true, true, true, true, true, true, true, true, true, true, true, true, true, true, true, false, true, true, true, true, true, true, true, true, false, true, false, false, false, false, false]) (k1 := 4) [27] [2] (by kernel_rfl) rfl aC aC aD (by kernel_rfl) (by kernel_rfl) rfl rfl (by kernel_rfl) ?_
       repeat (refine aK ?_)
       refine iG (fuel := 5) (listed' := #[true, true, true, true, true, true, true, true, true, true, true, true, true, true, true, true, true, true, true, true, true, true, true, true, true, true, true, true, false, false, false, false, false]) (k1 := 6) [17, 26] [0, 0] (by kernel_rfl) rfl aC aC aD (by kernel_rfl) (by kernel_rfl) rfl rfl (by kernel_rfl) ?_
       repeat (refine aK ?_)
       (refine aX (ys := [gt m.l.es (t : Int)]) 1 rfl rfl rfl ?_ (by decide) rfl (by omega) (by omega) rfl rfl ?_; (· exact Src.imm aB (.inl (Ok.mk _ _))); intro ql2 cl2; refine ⟨OkD.any (by first | exact SubP.drop (SubP.drop (SubP.drop SubP.refl)) | exact SubP.drop (SubP.drop (SubP.drop (SubP.drop (SubP.drop SubP.refl)))) | fail) aD, ?_⟩; refine gH (M' := .row qa2 (bB m.a [(i : Int)] t ++ [gt m.a.rows (t : Int)]).length ca2 (recs eL (bB m.a [(i : Int)] t ++ [gt m.a.rows (t : Int)])) 34 1 :: .row ql2 (bF m.l.es i t ++ [gt m.l.es (t : Int)]).length cl2 (recs eR (bF m.l.es i t ++ [gt m.l.es (t : Int)])) 42 4 :: .row qp (bF m.p.es i t).length cp (recs eR (bF m.p.es i t)) 42 4 :: .blk bo [.slice qa (bB m.a [(i : Int)] t).length ca, .slice ql (bF m.l.es i t).length cl, .slice qp (bF m.p.es i t).length cp] 68 :: .blk b4 [.slice none 0 0, .slice none 0 0, .slice none 0 0] 68 :: M0) (fun _ hw => hw) ?_)
       repeat (refine aK ?_)
       (refine aX (ys := [gt m.p.es (t : Int)]) 2 rfl rfl rfl ?_ (by decide) rfl (by omega) (by omega) rfl rfl ?_; (· exact Src.imm aB (.inl (Ok.mk _ _))); intro qp2 cp2; refine ⟨OkD.any (by first | exact SubP.drop (SubP.drop (SubP.drop SubP.refl)) | exact SubP.drop (SubP.drop (SubP.drop (SubP.drop (SubP.drop SubP.refl)))) | fail) aD, ?_⟩; refine gH (M' := .row qa2 (bB m.a [(i : Int)] t ++ [gt m.a.rows (t : Int)]).length ca2 (recs eL (bB m.a [(i : Int)] t ++ [gt m.a.rows (t : Int)])) 34 1 :: .row ql2 (bF m.l.es i t ++ [gt m.l.es (t : Int)]).length cl2 (recs eR (bF m.l.es i t ++ [gt m.l.es (t : Int)])) 42 4 :: .row qp2 (bF m.p.es i t ++ [gt m.p.es (t : Int)]).length cp2 (recs eR (bF m.p.es i t ++ [gt m.p.es (t : Int)])) 42 4 :: .blk bo [.slice qa (bB m.a [(i : Int)] t).length ca, .slice ql (bF m.l.es i t).length cl, .slice qp (bF m.p.es i t).length cp] 68 :: .blk b4 [.slice none 0 0, .slice none 0 0, .slice none 0 0] 68 :: M0) (fun _ hw => hw) ?_)
       repeat (refine aK ?_)
       refine kH [28, 29, 30, 31, 32] [0, 0, 0, 0, 0] rfl aC aC aD (by kernel_rfl) (by kernel_rfl) rfl rfl ?_
       repeat (refine aK ?_)
       refine dP _ _ _ aO aC aD ⟨qa2, ca2, ql2, cl2, qp2, cp2, rfl, rfl, rfl⟩
     ·((refine aL (cs := recs eR [gt m.p.es (t : Int)]) ([rv (gt m.p.es (t : Int))]) rfl rfl (by intro v hv; repeat (first | exact absurd hv (List.not_mem_nil) | (rcases List.mem_cons.1 hv with rfl | hv; · rfl))) (by omega) rfl rfl rfl ?_; intro b25; refine ⟨okF, ?_⟩); refine aF .here ?_)
      refine bC ?_
      refine iG (fuel := 8) (listed' := #[true, true, true, true, true, true, true, true, true, true, true, true, true, true, true, true, true, false, true, true, true, true, true, true, true, true, false, false, false, false, false, false, false]) (k1 := 4) [7, 8] [0, 0] (by kernel_rfl) rfl aC aC aD (by kernel_rfl) (by kernel_rfl) rfl rfl (by kernel_rfl) ?_
      repeat (refine aK ?_)
      ((refine aL (cs := recs eL [gt m.a.rows (t : Int)]) ([lv (gt m.a.rows (t : Int))]) rfl rfl (by intro v hv; repeat (first | exact absurd hv (List.not_mem_nil) | (rcases List.mem_cons.1 hv with rfl | hv; · rfl))) (by omega) rfl rfl rfl ?_; intro b7; refine ⟨okF, ?_⟩); refine aF .here ?_)
      repeat (refine aK ?_)
      (refine aX (ys := [gt m.a.rows (t : Int)]) 0 rfl rfl rfl ?_ (by decide) rfl (by omega) (by omega) rfl rfl ?_; (· exact Src.imm aB (.inl (Ok.mk _ _))); intro qa2 ca2; refine ⟨OkD.any (by first | exact SubP.drop (SubP.drop (SubP.drop SubP.refl)) | exact SubP.drop (SubP.drop (SubP.drop (SubP.drop (SubP.drop SubP.refl)))) | fail) aD, ?_⟩; refine gH (M' := .row qa2 (bB m.a [(i : Int)] t ++ [gt m.a.rows (t : Int)]).length ca2 (recs eL (bB m.a [(i : Int)] t ++ [gt m.a.rows (t : Int)])) 34 1 :: .row ql (bF m.l.es i t).length cl (recs eR (bF m.l.es i t)) 42 4 :: .row qp (bF m.p.es i t).length cp (recs eR (bF m.p.es i t)) 42 4 :: .blk bo [.slice qa (bB m.a [(i : Int)] t).length ca, .slice ql (bF m.l.es i t).length cl, .slice qp (bF m.p.es i t).length cp] 68 :: .blk b4 [.slice none 0 0, .slice none 0 0, .slice none 0 0] 68 :: M0) (fun _ hw => hw) ?_)
      repeat (refine aK ?_)
      refine kT (fuel := 7) (listed' := #[true, true, true, true, true, true, true, true, true, true, true, true, true, true, true, true, true, false, true, true, true, true, true, true, true, true, false, true, false, false, false, false, false]) (k1 := 4) [27] [2] (by kernel_rfl) rfl aC aC aD (by kernel_rfl) (by kernel_rfl) rfl rfl (by kernel_rfl) ?_
      repeat (refine aK ?_)
      refine iG (fuel := 5) (listed' := #[true, true, true, true, true, true, true, true, true, true, true, true, true, true, true, true, true, true, true, true, true, true, true, true, true, true, true, true, false, false, false, false, false]) (k1 := 6) [17, 26] [0, 0] (by kernel_rfl) rfl aC aC aD (by kernel_rfl) (by kernel_rfl) rfl rfl (by kernel_rfl) ?_
      repeat (refine aK ?_)
      (refine aX (ys := [gt m.l.es (t : Int)]) 1 rfl rfl rfl ?_ (by decide) rfl (by omega) (by omega) rfl rfl ?_; (· exact Src.imm aB (.inl (Ok.mk _ _))); intro ql2 cl2; refine ⟨OkD.any (by first | exact SubP.drop (SubP.drop (SubP.drop SubP.refl)) | exact SubP.drop (SubP.drop (SubP.drop (SubP.drop (SubP.drop SubP.refl)))) | fail) aD, ?_⟩; refine gH (M' := .row qa2 (bB m.a [(i : Int)] t ++ [gt m.a.rows (t : Int)]).length ca2 (recs eL (bB m.a [(i : Int)] t ++ [gt m.a.rows (t : Int)])) 34 1 :: .row ql2 (bF m.l.es i t ++ [gt m.l.es (t : Int)]).length cl2 (recs eR (bF m.l.es i t ++ [gt m.l.es (t : Int)])) 42 4 :: .row qp (bF m.p.es i t).length cp (recs eR (bF m.p.es i t)) 42 4 :: .blk bo [.slice qa (bB m.a [(i : Int)] t).length ca, .slice ql (bF m.l.es i t).length cl, .slice qp (bF m.p.es i t).length cp] 68 :: .blk b4 [.slice none 0 0, .slice none 0 0, .slice none 0 0] 68 :: M0) (fun _ hw => hw) ?_)
      repeat (refine aK ?_)
      (refine aX (ys := [gt m.p.es (t : Int)]) 2 rfl rfl rfl ?_ (by decide) rfl (by omega) (by omega) rfl rfl ?_; (· exact Src.imm aB (.inl (Ok.mk _ _))); intro qp2 cp2; refine ⟨OkD.any (by first | exact SubP.drop (SubP.drop (SubP.drop SubP.refl)) | exact SubP.drop (SubP.drop (SubP.drop (SubP.drop (SubP.drop SubP.refl)))) | fail) aD, ?_⟩; refine gH (M' := .row qa2 (bB m.a [(i : Int)] t ++ [gt m.a.rows (t : Int)]).length ca2 (recs eL (bB m.a [(i : Int)] t ++ [gt m.a.rows (t : Int)])) 34 1 :: .row ql2 (bF m.l.es i t ++ [gt m.l.es (t : Int)]).length cl2 (recs eR (bF m.l.es i t ++ [gt m.l.es (t : Int)])) 42 4 :: .row qp2 (bF m.p.es i t ++ [gt m.p.es (t : Int)]).length cp2 (recs eR (bF m.p.es i t ++ [gt m.p.es (t : Int)])) 42 4 :: .blk bo [.slice qa (bB m.a [(i : Int)] t).length ca, .slice ql (bF m.l.es i t).length cl, .slice qp (bF m.p.es i t).length cp] 68 :: .blk b4 [.slice none 0 0, .slice none 0 0, .slice none 0 0] 68 :: M0) (fun _ hw => hw) ?_)
      repeat (refine aK ?_)
      refine kH [28, 29, 30, 31, 32] [0, 0, 0, 0, 0] rfl aC aC aD (by kernel_rfl) (by kernel_rfl) rfl rfl ?_
      repeat (refine aK ?_)
      refine dP _ _ _ aO aC aD ⟨qa2, ca2, ql2, cl2, qp2, cp2, rfl, rfl, rfl⟩
    ·((refine aL (cs := recs eR [gt m.p.es (t : Int)]) ([rv (gt m.p.es (t : Int))]) rfl rfl (by intro v hv; repeat (first | exact absurd hv (List.not_mem_nil) | (rcases List.mem_cons.1 hv with rfl | hv; · rfl))) (by omega) rfl rfl rfl ?_; intro b25; refine ⟨okF, ?_⟩); refine aF .here ?_)
     refine bC ?_
     refine lY (fuel := 10) (i := 7) (j := 16) (k1 := 2) rfl rfl aC (by kernel_rfl) (by kernel_rfl) ?_ ?_
     ·((refine aL (cs := recs eL [gt m.a.rows (t : Int)]) ([lv (gt m.a.rows (t : Int))]) rfl rfl (by intro v hv; repeat (first | exact absurd hv (List.not_mem_nil) | (rcases List.mem_cons.1 hv with rfl | hv; · rfl))) (by omega) rfl rfl rfl ?_; intro b7; refine ⟨okF, ?_⟩); refine aF .here ?_)
      refine bC ?_
      refine lY (fuel := 9) (i := 8) (j := 16) (k1 := 3) rfl rfl aC (by kernel_rfl) (by kernel_rfl) ?_ ?_
      ·(refine aX (ys := [gt m.a.rows (t : Int)]) 0 rfl rfl rfl ?_ (by decide) rfl (by omega) (by omega) rfl rfl ?_; (· exact Src.imm aB (.inl (Ok.mk _ _))); intro qa2 ca2; refine ⟨OkD.any (by first | exact SubP.drop (SubP.drop (SubP.drop SubP.refl)) | exact SubP.drop (SubP.drop (SubP.drop (SubP.drop (SubP.drop SubP.refl)))) | fail) aD, ?_⟩; refine gH (M' := .row qa2 (bB m.a [(i : Int)] t ++ [gt m.a.rows (t : Int)]).length ca2 (recs eL (bB m.a [(i : Int)] t ++ [gt m.a.rows (t : Int)])) 34 1 :: .row ql (bF m.l.es i t).length cl (recs eR (bF m.l.es i t)) 42 4 :: .row qp (bF m.p.es i t).length cp (recs eR (bF m.p.es i t)) 42 4 :: .blk bo [.slice qa (bB m.a [(i : Int)] t).length ca, .slice ql (bF m.l.es i t).length cl, .slice qp (bF m.p.es i t).length cp] 68 :: .blk b4 [.slice none 0 0, .slice none 0 0, .slice none 0 0] 68 :: M0) (fun _ hw => hw) ?_)
       refine bC ?_
       refine kT (fuel := 8) (listed' := #[true, true, true, true, true, true, true, true, true, true, true, true, true, true, true, true, false, false, true, true, true, true, true, true, true, true, false, true, false, false, false, false, false]) (k1 := 3) [27] [3] (by kernel_rfl) rfl aC aC aD (by kernel_rfl) (by kernel_rfl) rfl rfl (by kernel_rfl) ?_
       repeat (refine aK ?_)
       refine iG (fuel := 5) (listed' := #[true, true, true, true, true, true, true, true, true, true, true, true, true, true, true, true, true, true, true, true, true, true, true, true, true, true, true, true, false, false, false, false, false]) (k1 := 6) [16, 17, 26] [0, 0, 0] (by kernel_rfl) rfl aC aC aD (by kernel_rfl) (by kernel_rfl) rfl rfl (by kernel_rfl) ?_
       repeat (refine aK ?_)
       ((refine aL (cs := recs eR [gt m.l.es (t : Int)]) ([rv (gt m.l.es (t : Int))]) rfl rfl (by intro v hv; repeat (first | exact absurd hv (List.not_mem_nil) | (rcases List.mem_cons.1 hv with rfl | hv; · rfl))) (by omega) rfl rfl rfl ?_; intro b16; refine ⟨okF, ?_⟩); refine aF .here ?_)
       repeat (refine aK ?_)
       (refine aX (ys := [gt m.l.es (t : Int)]) 1 rfl rfl rfl ?_ (by decide) rfl (by omega) (by omega) rfl rfl ?_; (· exact Src.imm aB (.inl (Ok.mk _ _))); intro ql2 cl2; refine ⟨OkD.any (by first | exact SubP.drop (SubP.drop (SubP.drop SubP.refl)) | exact SubP.drop (SubP.drop (SubP.drop (SubP.drop (SubP.drop SubP.refl)))) | fail) aD, ?_⟩; refine gH (M' := .row qa2 (bB m.a [(i : Int)] t ++ [gt m.a.rows (t : Int)]).length ca2 (recs eL (bB m.a [(i : Int)] t ++ [gt m.a.rows (t : Int)])) 34 1 :: .row ql2 (bF m.l.es i t ++ [gt m.l.es (t : Int)]).length cl2 (recs eR (bF m.l.es i t ++ [gt m.l.es (t : Int)])) 42 4 :: .row qp (bF m.p.es i t).length cp (recs eR (bF m.p.es i t)) 42 4 :: .blk bo [.slice qa (bB m.a [(i : Int)] t).length ca, .slice ql (bF m.l.es i t).length cl, .slice qp (bF m.p.es i t).length cp] 68 :: .blk b4 [.slice none 0 0, .slice none 0 0, .slice none 0 0] 68 :: M0) (fun _ hw => hw) ?_)
       repeat (refine aK ?_)
       (refine aX (ys := [gt m.p.es (t : Int)]) 2 rfl rfl rfl ?_ (by decide) rfl (by omega) (by omega) rfl rfl ?_; (· exact Src.imm aB (.inl (Ok.mk _ _))); intro qp2 cp2; refine ⟨OkD.any (by first | exact SubP.drop (SubP.drop (SubP.drop SubP.refl)) | exact SubP.drop (SubP.drop (SubP.drop (SubP.drop (SubP.drop SubP.refl)))) | fail) aD, ?_⟩; refine gH (M' := .row qa2 (bB m.a [(i : Int)] t ++ [gt m.a.rows (t : Int)]).length ca2 (recs eL (bB m.a [(i : Int)] t ++ [gt m.a.rows (t : Int)])) 34 1 :: .row ql2 (bF m.l.es i t ++ [gt m.l.es (t : Int)]).length cl2 (recs eR (bF m.l.es i t ++ [gt m.l.es (t : Int)])) 42 4 :: .row qp2 (bF m.p.es i t ++ [gt m.p.es (t : Int)]).length cp2 (recs eR (bF m.p.es i t ++ [gt m.p.es (t : Int)])) 42 4 :: .blk bo [.slice qa (bB m.a [(i : Int)] t).length ca, .slice ql (bF m.l.es i t).length cl, .slice qp (bF m.p.es i t).length cp] 68 :: .blk b4 [.slice none 0 0, .slice none 0 0, .slice none 0 0] 68 :: M0) (fun _ hw => hw) ?_)
       repeat (refine aK ?_)
       refine kH [28, 29, 30, 31, 32] [0, 0, 0, 0, 0] rfl aC aC aD (by kernel_rfl) (by kernel_rfl) rfl rfl ?_
       repeat (refine aK ?_)
       refine dP _ _ _ aO aC aD ⟨qa2, ca2, ql2, cl2, qp2, cp2, rfl, rfl, rfl⟩
      ·((refine aL (cs := recs eR [gt m.l.es (t : Int)]) ([rv (gt m.l.es (t : Int))]) rfl rfl (by intro v hv; repeat (first | exact absurd hv (List.not_mem_nil) | (rcases List.mem_cons.1 hv with rfl | hv; · rfl))) (by omega) rfl rfl rfl ?_; intro b16; refine ⟨okF, ?_⟩); refine aF .here ?_)
       refine bC ?_
       refine iG (fuel := 8) (listed' := #[true, true, true, true, true, true, true, true, true, true, true, true, true, true, true, true, true, false, true, true, true, true, true, true, true, true, false, false, false, false, false, false, false]) (k1 := 4) [8] [0] (by kernel_rfl) rfl aC aC aD (by kernel_rfl) (by kernel_rfl) rfl rfl (by kernel_rfl) ?_
       repeat (refine aK ?_)
       (refine aX (ys := [gt m.a.rows (t : Int)]) 0 rfl rfl rfl ?_ (by decide) rfl (by omega) (by omega) rfl rfl ?_; (· exact Src.imm aB (.inl (Ok.mk _ _))); intro qa2 ca2; refine ⟨OkD.any (by first | exact SubP.drop (SubP.drop (SubP.drop SubP.refl)) | exact SubP.drop (SubP.drop (SubP.drop (SubP.drop (SubP.drop SubP.refl)))) | fail) aD, ?_⟩; refine gH (M' := .row qa2 (bB m.a [(i : Int)] t ++ [gt m.a.rows (t : Int)]).length ca2 (recs eL (bB m.a [(i : Int)] t ++ [gt m.a.rows (t : Int)])) 34 1 :: .row ql (bF m.l.es i t).length cl (recs eR (bF m.l.es i t)) 42 4 :: .row qp (bF m.p.es i t).length cp (recs eR (bF m.p.es i t)) 42 4 :: .blk bo [.slice qa (bB m.a [(i : Int)] t).length ca, .slice ql (bF m.l.es i t).length cl, .slice qp (bF m.p.es i t).length cp] 68 :: .blk b4 [.slice none 0 0, .slice none 0 0, .slice none 0 0] 68 :: M0) (fun _ hw => hw) ?_)
       repeat (refine aK ?_)
       refine kT (fuel := 7) (listed' := #[true, true, true, true, true, true, true, true, true, true, true, true, true, true, true, true, true, false, true, true, true, true, true, true, true, true, false, true, false, false, false, false, false]) (k1 := 4) [27] [2] (by kernel_rfl) rfl aC aC aD (by kernel_rfl) (by kernel_rfl) rfl rfl (by kernel_rfl) ?_
       repeat (refine aK ?_)
       refine iG (fuel := 5) (listed' := #[true, true, true, true, true, true, true, true, true, true, true, true, true, true, true, true, true, true, true, true, true, true, true, true, true, true, true, true, false, false, false, false, false]) (k1 := 6) [17, 26] [0, 0] (by kernel_rfl) rfl aC aC aD (by kernel_rfl) (by kernel_rfl) rfl rfl (by kernel_rfl) ?_
       repeat (refine aK ?_)
       (refine aX (ys := [gt m.l.es (t : Int)]) 1 rfl rfl rfl ?_ (by decide) rfl (by omega) (by omega) rfl rfl ?_; (· exact Src.imm aB (.inl (Ok.mk _ _))); intro ql2 cl2; refine ⟨OkD.any (by first | exact SubP.drop (SubP.drop (SubP.drop SubP.refl)) | exact SubP.drop (SubP.drop (SubP.drop (SubP.drop (SubP.drop SubP.refl)))) | fail) aD, ?_⟩; refine gH (M' := .row qa2 (bB m.a [(i : Int)] t ++ [gt m.a.rows (t : Int)]).length ca2 (recs eL (bB m.a [(i : Int)] t ++ [gt m.a.rows (t : Int)])) 34 1 :: .row ql2 (bF m.l.es i t ++ [gt m.l.es (t : Int)]).length cl2 (recs eR (bF m.l.es i t ++ [gt m.l.es (t : Int)])) 42 4 :: .row qp (bF m.p.es i t).length cp (recs eR (bF m.p.es i t)) 42 4 :: .blk bo [.slice qa (bB m.a [(i : Int)] t).length ca, .slice ql (bF m.l.es i t).length cl, .slice qp (bF m.p.es i t).length cp] 68 :: .blk b4 [.slice none 0 0, .slice none 0 0, .slice none 0 0] 68 :: M0) (fun _ hw => hw) ?_)
       repeat (refine aK ?_)
       (refine aX (ys := [gt m.p.es (t : Int)]) 2 rfl rfl rfl ?_ (by decide) rfl (by omega) (by omega) rfl rfl ?_; (· exact Src.imm aB (.inl (Ok.mk _ _))); intro qp2 cp2; refine ⟨OkD.any (by first | exact SubP.drop (SubP.drop (SubP.drop SubP.refl)) | exact SubP.drop (SubP.drop (SubP.drop (SubP.drop (SubP.drop SubP.refl)))) | fail) aD, ?_⟩; refine gH (M' := .row qa2 (bB m.a [(i : Int)] t ++ [gt m.a.rows (t : Int)]).length ca2 (recs eL (bB m.a [(i : Int)] t ++ [gt m.a.rows (t : Int)])) 34 1 :: .row ql2 (bF m.l.es i t ++ [gt m.l.es (t : Int)]).length cl2 (recs eR (bF m.l.es i t ++ [gt m.l.es (t : Int)])) 42 4 :: .row qp2 (bF m.p.es i t ++ [gt m.p.es (t : Int)]).length cp2 (recs eR (bF m.p.es i t ++ [gt m.p.es (t : Int)])) 42 4 :: .blk bo [.slice qa (bB m.a [(i : Int)] t).length ca, .slice ql (bF m.l.es i t).length cl, .slice qp (bF m.p.es i t).length cp] 68 :: .blk b4 [.slice none 0 0, .slice none 0 0, .slice none 0 0] 68 :: M0) (fun _ hw => hw) ?_)
       repeat (refine aK ?_)
       refine kH [28, 29, 30, 31, 32] [0, 0, 0, 0, 0] rfl aC aC aD (by kernel_rfl) (by kernel_rfl) rfl rfl ?_
       repeat (refine aK ?_)
       refine dP _ _ _ aO aC aD ⟨qa2, ca2, ql2, cl2, qp2, cp2, rfl, rfl, rfl⟩
     ·((refine aL (cs := recs eR [gt m.l.es (t : Int)]) ([rv (gt m.l.es (t : Int))]) rfl rfl (by intro v hv; repeat (first | exact absurd hv (List.not_mem_nil) | (rcases List.mem_cons.1 hv with rfl | hv; · rfl))) (by omega) rfl rfl rfl ?_; intro b16; refine ⟨okF, ?_⟩); refine aF .here ?_)
      refine bC ?_
      refine iG (fuel := 8) (listed' := #[true, true, true, true, true, true, true, true, true, true, true, true, true, true, true, true, true, false, true, true, true, true, true, true, true, true, false, false, false, false, false, false, false]) (k1 := 4) [7, 8] [0, 0] (by kernel_rfl) rfl aC aC aD (by kernel_rfl) (by kernel_rfl) rfl rfl (by kernel_rfl) ?_
      repeat (refine aK ?_)
      ((refine aL (cs := recs eL [gt m.a.rows (t : Int)]) ([lv (gt m.a.rows (t : Int))]) rfl rfl (by intro v hv; repeat (first | exact absurd hv (List.not_mem_nil) | (rcases List.mem_cons.1 hv with rfl | hv; · rfl))) (by omega) rfl rfl rfl ?_; intro b7; refine ⟨okF, ?_⟩); refine aF .here ?_)
      repeat (refine aK ?_)
      (refine aX (ys := [gt m.a.rows (t : Int)]) 0 rfl rfl rfl ?_ (by decide) rfl (by omega) (by omega) rfl rfl ?_; (· exact Src.imm aB (.inl (Ok.mk _ _))); intro qa2 ca2; refine ⟨OkD.any (by first | exact SubP.drop (SubP.drop (SubP.drop SubP.refl)) | exact SubP.drop (SubP.drop (SubP.drop (SubP.drop (SubP.drop SubP.refl)))) | fail) aD, ?_⟩; refine gH (M' := .row qa2 (bB m.a [(i : Int)] t ++ [gt m.a.rows (t : Int)]).length ca2 (recs eL (bB m.a [(i : Int)] t ++ [gt m.a.rows (t : Int)])) 34 1 :: .row ql (bF m.l.es i t).length cl (recs eR (bF m.l.es i t)) 42 4 :: .row qp (bF m.p.es i t).length cp (recs eR (bF m.p.es i t)) 42 4 :: .blk bo [.slice qa (bB m.a [(i : Int)] t).length ca, .slice ql (bF m.l.es i t).length cl, .slice qp (bF m.p.es i t).length cp] 68 :: .blk b4 [.slice none 0 0, .slice none 0 0, .slice none 0 0] 68 :: M0) (fun _ hw => hw) ?_)
      repeat (refine aK ?_)
      refine kT (fuel := 7) (listed' := #[true, true, true, true, true, true, true, true, true, true, true, true, true, true, true, true, true, false, true, true, true, true, true, true, true, true, false, true, false, false, false, false, false]) (k1 := 4) [27] [2] (by kernel_rfl) rfl aC aC aD (by kernel_rfl) (by kernel_rfl) rfl rfl (by kernel_rfl) ?_
      repeat (refine aK ?_)
      refine iG (fuel := 5) (listed' := #[true, true, true, true, true, true, true, true, true, true, true, true, true, true, true, true, true, true, true, true, true, true, true, true, true, true, true, true, false, false, false, false, false]) (k1 := 6) [17, 26] [0, 0] (by kernel_rfl) rfl aC aC aD (by kernel_rfl) (by kernel_rfl) rfl rfl (by kernel_rfl) ?_
      repeat (refine aK ?_)
      (refine aX (ys := [gt m.l.es (t : Int)]) 1 rfl rfl rfl ?_ (by decide) rfl (by omega) (by omega) rfl rfl ?_; (· exact Src.imm aB (.inl (Ok.mk _ _))); intro ql2 cl2; refine ⟨OkD.any (by first | exact SubP.drop (SubP.drop (SubP.drop SubP.refl)) | exact SubP.drop (SubP.drop (SubP.drop (SubP.drop (SubP.drop SubP.refl)))) | fail) aD, ?_⟩; refine gH (M' := .row qa2 (bB m.a [(i : Int)] t ++ [gt m.a.rows (t : Int)]).length ca2 (recs eL (bB m.a [(i : Int)] t ++ [gt m.a.rows (t : Int)])) 34 1 :: .row ql2 (bF m.l.es i t ++ [gt m.l.es (t : Int)]).length cl2 (recs eR (bF m.l.es i t ++ [gt m.l.es (t : Int)])) 42 4 :: .row qp (bF m.p.es i t).length cp (recs eR (bF m.p.es i t)) 42 4 :: .blk bo [.slice qa (bB m.a [(i : Int)] t).length ca, .slice ql (bF m.l.es i t).length cl, .slice qp (bF m.p.es i t).length cp] 68 :: .blk b4 [.slice none 0 0, .slice none 0 0, .slice none 0 0] 68 :: M0) (fun _ hw => hw) ?_)
      repeat (refine aK ?_)
      (refine aX (ys := [gt m.p.es (t : Int)]) 2 rfl rfl rfl ?_ (by decide) rfl (by omega) (by omega) rfl rfl ?_; (· exact Src.imm aB (.inl (Ok.mk _ _))); intro qp2 cp2; refine ⟨OkD.any (by first | exact SubP.drop (SubP.drop (SubP.drop SubP.refl)) | exact SubP.drop (SubP.drop (SubP.drop (SubP.drop (SubP.drop SubP.refl)))) | fail) aD, ?_⟩; refine gH (M' := .row qa2 (bB m.a [(i : Int)] t ++ [gt m.a.rows (t : Int)]).length ca2 (recs eL (bB m.a [(i : Int)] t ++ [gt m.a.rows (t : Int)])) 34 1 :: .row ql2 (bF m.l.es i t ++ [gt m.l.es (t : Int)]).length cl2 (recs eR (bF m.l.es i t ++ [gt m.l.es (t : Int)])) 42 4 :: .row qp2 (bF m.p.es i t ++ [gt m.p.es (t : Int)]).length cp2 (recs eR (bF m.p.es i t ++ [gt m.p.es (t : Int)])) 42 4 :: .blk bo [.slice qa (bB m.a [(i : Int)] t).length ca, .slice ql (bF m.l.es i t).length cl, .slice qp (bF m.p.es i t).length cp] 68 :: .blk b4 [.slice none 0 0, .slice none 0 0, .slice none 0 0] 68 :: M0) (fun _ hw => hw) ?_)
      repeat (refine aK ?_)
      refine kH [28, 29, 30, 31, 32] [0, 0, 0, 0, 0] rfl aC aC aD (by kernel_rfl) (by kernel_rfl) rfl rfl ?_
      repeat (refine aK ?_)
      refine dP _ _ _ aO aC aD ⟨qa2, ca2, ql2, cl2, qp2, cp2, rfl, rfl, rfl⟩
   ·rintro G M I ⟨qa2, ca2, ql2, cl2, qp2, cp2, rfl, rfl, rfl⟩
    refine bL (φ := mK (bB m.a [(i : Int)] t ++ [gt m.a.rows (t : Int)]) 30) (Hv.snocL aB aB) ?_
    refine bL (φ := cK (bF m.l.es i t ++ [gt m.l.es (t : Int)]) 30) (Hv.snoc aB aB) ?_
    refine bL (φ := cK (bF m.p.es i t ++ [gt m.p.es (t : Int)]) 30) (Hv.snoc aB aB) ?_
    rw [← e3, ← e4, ← e5]
    repeat (refine aK ?_)
    refine aM (m.a.rows.length - (t + 1)) _ _ _ (by first | omega | (simp only [List.length_append, List.length_cons, List.length_nil]; omega)) aO aC aD (⟨t + 1, qa2, ca2, ql2, cl2, qp2, cp2, by omega, rfl, rfl, rfl, rfl⟩)
 ·obtain rfl : t = m.a.rows.length := by omega
  repeat (refine aK ?_)
  refine vY (k := 30) aB ?_
  refine yP (k := 30) aB ?_
  refine yP (k := 30) aB ?_
  refine fM (φ := mW ⟨⟨qa, ca, bB m.a [(i : Int)] m.a.rows.length⟩, ⟨ql, cl, bF m.l.es i m.a.rows.length⟩, ⟨qp, cp, bF m.p.es i m.a.rows.length⟩⟩ 30) (Hv.le3 aB aB aB) ?_
  refine bG (cs := [.slice qa (bB m.a [(i : Int)] m.a.rows.length).length ca, .slice ql (bF m.l.es i m.a.rows.length).length cl, .slice qp (bF m.p.es i m.a.rows.length).length cp]) (.inl rfl) rfl rfl aB rfl M0 (mW ⟨⟨qa, ca, bB m.a [(i : Int)] m.a.rows.length⟩, ⟨ql, cl, bF m.l.es i m.a.rows.length⟩, ⟨qp, cp, bF m.p.es i m.a.rows.length⟩⟩ 30 :: I0) aC aD ⟨rfl, ⟨⟨qa, ca, bB m.a [(i : Int)] m.a.rows.length⟩, ⟨ql, cl, bF m.l.es i m.a.rows.length⟩, ⟨qp, cp, bF m.p.es i m.a.rows.length⟩⟩, rfl, ⟨rfl, rfl, rfl⟩, rfl⟩
theorem aSR {m : LW} (hR : m.rch) (hm : sP m ∈ I0) (hn : ¬ (m.few 7 5 ∧ m.code = 0 ∧ 2 ≤ m.a.rows.length)) :
  CD Tryz.prog 7 [vLW m] X w0 M0 I0 (fun v M I => M0 = M ∧ I0 = I ∧ v = .bool true) := by
 have hKn := fun M0 I0 => aBA (X := X) (w0 := w0) (M0 := M0) (I0 := I0)
 have hF := fun M0 I0 h => aGA (X := X) (w0 := w0) (M0 := M0) (I0 := I0) hR h
 refine bE Tryz.func7 rfl Tryz.ntmps7 rfl ?_
 refine aJ ?_
 refine aI ?_
 (refine aP rfl rfl rfl ?_; intro b1; refine ⟨okF, ?_⟩)
 refine aF .here ?_
 repeat (refine aK ?_)
 (refine aA rfl (hKn _ _) rfl rfl ?_; rintro _ _ _ ⟨rfl, rfl, rfl⟩; refine ⟨okF, ?_⟩)
 by_cases fw : m.few 7 5
 ·rw [bR fw] at hF
  have hC := fun M0 I0 h => wZ (X := X) (w0 := w0) (M0 := M0) (I0 := I0) (fw.sml (by omega)) h
  by_cases hc : m.code = 0
  ·have h2 : ¬ 2 ≤ m.a.rows.length := fun h => hn ⟨fw, hc, h⟩
   rw [hc] at hC
   repeat (refine aK ?_)
   (refine aA rfl (hF _ _ aB) rfl rfl ?_; rintro _ _ _ ⟨rfl, rfl, rfl⟩; refine ⟨okF, ?_⟩)
   repeat (refine aK ?_)
   (refine aA rfl (hC _ _ aB) rfl rfl ?_; rintro _ _ _ ⟨rfl, rfl, rfl⟩; refine ⟨okF, ?_⟩)
   repeat (refine aK ?_)
   refine aH (by first | exact .inl rfl | exact .inr rfl) rfl rfl _ _ aC aD (⟨rfl, rfl, rfl⟩)
  ·generalize m.code = co at *
   repeat (refine aK ?_)
   (refine aA rfl (hF _ _ aB) rfl rfl ?_; rintro _ _ _ ⟨rfl, rfl, rfl⟩; refine ⟨okF, ?_⟩)
   repeat (refine aK ?_)
   (refine aA rfl (hC _ _ aB) rfl rfl ?_; rintro _ _ _ ⟨rfl, rfl, rfl⟩; refine ⟨okF, ?_⟩)
   repeat (refine aK ?_)
   refine aH (by first | exact .inl rfl | exact .inr rfl) rfl rfl _ _ aC aD (⟨rfl, rfl, rfl⟩)
 ·rw [aY fw] at hF
  repeat (refine aK ?_)
  (refine aA rfl (hF _ _ aB) rfl rfl ?_; rintro _ _ _ ⟨rfl, rfl, rfl⟩; refine ⟨okF, ?_⟩)
  repeat (refine aK ?_)
  refine aH (by first | exact .inl rfl | exact .inr rfl) rfl rfl _ _ aC aD (⟨rfl, rfl, rfl⟩)
theorem aQJ {m : LE} {R C : Nat} (hR : m.raw.rch) (f : m.fit R C) (hd : R ≤ 7 ∧ C ≤ 5) (h2 : 2 ≤ R) (hm : sP m.raw ∈ I0) (h : mW m 30 ∈ I0) (fw : m.raw.few 7 5) :
  CD Tryz.prog 7 [vLE m] X w0 M0 I0 (fun v M I => M0 = M ∧ I0 = I ∧ v = .bool true) := by
 have lR := f.d.1.1
 subst lR
 obtain ⟨c1, c2⟩ := f.d.2.2
 have hkb : kb 30 C ≤ 40000 := Nat.le_trans (nH 30 hd.2) (by decide)
 have hKn := fun M0 I0 => aBA (X := X) (w0 := w0) (M0 := M0) (I0 := I0)
 have hF := fun M0 I0 h => aLC (X := X) (w0 := w0) (M0 := M0) (I0 := I0) hR fw h
 have hCk := fun M0 I0 h => aCL (X := X) (w0 := w0) (M0 := M0) (I0 := I0) fw f h
 have hCt := fun M0 I0 h => qP (X := X) (w0 := w0) (M0 := M0) (I0 := I0) (m := m) (k := 30) (by omega) f h
 have hSo := fun M0 I0 h => aHH (X := X) (w0 := w0) (M0 := M0) (I0 := I0) (m := m) f hd h
 have hRk := fun M0 I0 h => aFL (X := X) (w0 := w0) (M0 := M0) (I0 := I0) (a := m.a) (R := m.a.rows.length) (C := C) (k0 := 30) (by omega) (by omega) (by omega) f.d.1 h
 have hcl : (aCA m.a.rows.length C m.a.q).length = m.a.rows.length := by simp [aCA]
 have hA := oH f.d.1
 refine bQ (φ := gD m.a 30) (Hv.lea h) ?_
 refine bE Tryz.func7 rfl Tryz.ntmps7 rfl ?_
 refine aJ ?_
 refine aI ?_
 (refine aP rfl rfl rfl ?_; intro b1; refine ⟨okF, ?_⟩)
 refine aF .here ?_
 repeat (refine aK ?_)
 (refine aA rfl (hKn _ _) rfl rfl ?_; rintro _ _ _ ⟨rfl, rfl, rfl⟩; refine ⟨okF, ?_⟩)
 repeat (refine aK ?_)
 (refine aA rfl (hF _ _ aB) rfl rfl ?_; rintro _ _ _ ⟨rfl, rfl, rfl⟩; refine ⟨okF, ?_⟩)
 repeat (refine aK ?_)
 (refine aA rfl (hCk _ _ aB) rfl rfl ?_; rintro _ _ _ ⟨rfl, rfl, rfl⟩; refine ⟨okF, ?_⟩)
 repeat (refine aK ?_)
 (refine aA rfl (hCt _ _ aB) rfl rfl ?_; rintro _ _ _ ⟨rfl, q, c, rfl, rfl⟩; refine ⟨okF, ?_⟩)
 repeat (refine aK ?_)
 (refine aA rfl (hSo _ _ aB) rfl rfl ?_; rintro _ _ _ ⟨rfl, rfl, x, rfl⟩; refine ⟨okF, ?_⟩)
 obtain ⟨reg, hreg⟩ : ∃ reg : Bool, reg = B (rk m.a.q C = C) := ⟨_, rfl⟩
 rw [← hreg]
 repeat (refine aK ?_)
 refine aS [1, 3, 6, 48] rfl (fun k G M I => ∃ i : Nat, i ≤ m.a.rows.length ∧ k = m.a.rows.length - i ∧ G = [(49, .int .i64 i)] ∧ M0 = M ∧ I = aT q (recs eB (aCA m.a.rows.length C m.a.q)) :: aT (some ⟨b1, 0, none⟩) [mv m.a, lv m.l, lv m.p] :: gD m.a 30 :: I0) (m.a.rows.length) _ _ _ aO aC aD (⟨0, by omega, rfl, rfl, rfl, rfl⟩) ?_
 rintro kk G M I ⟨i, hi, rfl, rfl, rfl, rfl⟩
 by_cases hin : i < m.a.rows.length
 ·have hWo := fun M0 I0 h => aRC (X := X) (w0 := w0) (M0 := M0) (I0 := I0) (m := m) f hin h
  have hgi := aRG (C := C) (A := m.a.q) hin
  have hcr := aUJ hA hin
  repeat (refine aK ?_)
  (refine aA rfl (hWo _ _ aB) rfl rfl ?_; rintro _ _ _ ⟨rfl, m', rfl, hwe, rfl⟩; refine ⟨okF, ?_⟩)
  have f' := hwe.fit f hin h2
  have hq' := hwe.q f
  have hR1 : m'.a.rows.length = m.a.rows.length - 1 := f'.d.1.1
  have hSo' := fun M0 I0 h => aHH (X := X) (w0 := w0) (M0 := M0) (I0 := I0) (m := m') f' (by omega) h
  have hRk' := fun M0 I0 h => aFL (X := X) (w0 := w0) (M0 := M0) (I0 := I0) (a := m'.a) (R := m.a.rows.length - 1) (C := C) (k0 := 30) (by omega) (by omega) (by omega) f'.d.1 h
  rw [hq'] at hSo' hRk'
  refine iA (φ := gD m'.a 30) (Hv.lea aB) ?_
  (refine aN rfl rfl ?_; intro b8; refine ⟨okF, ?_⟩)
  repeat (refine aK ?_)
  refine aJU .here ?_
  generalize hrw : rk (iK m.a.q (dD m.a.rows.length [(i : Int)])) C = rw_ at *
  generalize hra : rk m.a.q C = ra at *
  by_cases hc : ctl m.a.rows.length C m.a.q i
  ·have hee := hcr.1 hc
   have hBe : B ((rw_ : Int) = (ra : Int)) = true := bR (by omega)
   rw [bR hc] at hgi
   cases reg with
   | true =>
    have hreg' : ra = C := by
     refine Classical.byContradiction (fun hn => ?_)
     rw [aY hn] at hreg; cases hreg
    have hst : rw_ = C := by omega
    rw [bR hst] at hSo'
    repeat (refine aK ?_)
    (refine aA rfl (hSo' _ _ aB) rfl rfl ?_; rintro _ _ _ ⟨rfl, rfl, y, rfl⟩; refine ⟨okF, ?_⟩)
    repeat (refine aK ?_)
    rw [hgi]
    repeat (refine aK ?_)
    (repeat refine aJ ?_); refine dJ [0, 1, 2, 3, 4, 5, 7, 8, 6, 9, 10, 11] [2, 2, 2, 2, 2, 1, 2, 1, 0, 0, 0, 0] mixed (by kernel_rfl) ?_
    repeat (refine aK ?_)
    rw [hgi]
    repeat (refine aK ?_)
    (refine aA rfl (hRk' _ _ aB) rfl rfl ?_; rintro _ _ _ ⟨rfl, rfl, rfl⟩; refine ⟨okF, ?_⟩)
    repeat (refine aK ?_)
    (refine aA rfl (hRk _ _ aB) rfl rfl ?_; rintro _ _ _ ⟨rfl, rfl, rfl⟩; refine ⟨okF, ?_⟩)
    repeat (refine aK ?_)
    rw [hBe]
    repeat (refine aK ?_)
    refine aM (m.a.rows.length - (i + 1)) _ _ _ (by first | omega | (simp only [List.length_append, List.length_cons, List.length_nil]; omega)) aO aC aD (⟨i + 1, by omega, rfl, rfl, rfl, rfl⟩)
   | false =>
    repeat (refine aK ?_)
    (repeat refine aJ ?_); refine dJ [0, 1, 2, 3, 4, 5, 7, 8, 6, 9, 10, 11] [2, 2, 2, 2, 2, 1, 2, 1, 0, 0, 0, 0] mixed (by kernel_rfl) ?_
    repeat (refine aK ?_)
    rw [hgi]
    repeat (refine aK ?_)
    (refine aA rfl (hRk' _ _ aB) rfl rfl ?_; rintro _ _ _ ⟨rfl, rfl, rfl⟩; refine ⟨okF, ?_⟩)
    repeat (refine aK ?_)
    (refine aA rfl (hRk _ _ aB) rfl rfl ?_; rintro _ _ _ ⟨rfl, rfl, rfl⟩; refine ⟨okF, ?_⟩)
    repeat (refine aK ?_)
    rw [hBe]
    repeat (refine aK ?_)
    refine aM (m.a.rows.length - (i + 1)) _ _ _ (by first | omega | (simp only [List.length_append, List.length_cons, List.length_nil]; omega)) aO aC aD (⟨i + 1, by omega, rfl, rfl, rfl, rfl⟩)
  ·have hee : ¬ rw_ = ra := fun h => hc (hcr.2 h)
   have hBe : B ((rw_ : Int) = (ra : Int)) = false := aY (by omega)
   rw [aY hc] at hgi
   cases reg with
   | true =>
    have hreg' : ra = C := by
     refine Classical.byContradiction (fun hn => ?_)
     rw [aY hn] at hreg; cases hreg
    have hst : ¬ rw_ = C := by omega
    rw [aY hst] at hSo'
    repeat (refine aK ?_)
    (refine aA rfl (hSo' _ _ aB) rfl rfl ?_; rintro _ _ _ ⟨rfl, rfl, y, rfl⟩; refine ⟨okF, ?_⟩)
    repeat (refine aK ?_)
    rw [hgi]
    repeat (refine aK ?_)
    (repeat refine aJ ?_); refine dJ [0, 1, 2, 3, 4, 5, 7, 8, 6, 9, 10, 11] [2, 2, 2, 2, 2, 1, 2, 1, 0, 0, 0, 0] mixed (by kernel_rfl) ?_
    repeat (refine aK ?_)
    rw [hgi]
    repeat (refine aK ?_)
    (refine aA rfl (hRk' _ _ aB) rfl rfl ?_; rintro _ _ _ ⟨rfl, rfl, rfl⟩; refine ⟨okF, ?_⟩)
    repeat (refine aK ?_)
    (refine aA rfl (hRk _ _ aB) rfl rfl ?_; rintro _ _ _ ⟨rfl, rfl, rfl⟩; refine ⟨okF, ?_⟩)
    repeat (refine aK ?_)
    rw [hBe]
    repeat (refine aK ?_)
    refine aM (m.a.rows.length - (i + 1)) _ _ _ (by first | omega | (simp only [List.length_append, List.length_cons, List.length_nil]; omega)) aO aC aD (⟨i + 1, by omega, rfl, rfl, rfl, rfl⟩)
   | false =>
    repeat (refine aK ?_)
    (repeat refine aJ ?_); refine dJ [0, 1, 2, 3, 4, 5, 7, 8, 6, 9, 10, 11] [2, 2, 2, 2, 2, 1, 2, 1, 0, 0, 0, 0] mixed (by kernel_rfl) ?_
    repeat (refine aK ?_)
    rw [hgi]
    repeat (refine aK ?_)
    (refine aA rfl (hRk' _ _ aB) rfl rfl ?_; rintro _ _ _ ⟨rfl, rfl, rfl⟩; refine ⟨okF, ?_⟩)
    repeat (refine aK ?_)
    (refine aA rfl (hRk _ _ aB) rfl rfl ?_; rintro _ _ _ ⟨rfl, rfl, rfl⟩; refine ⟨okF, ?_⟩)
    repeat (refine aK ?_)
    rw [hBe]
    repeat (refine aK ?_)
    refine aM (m.a.rows.length - (i + 1)) _ _ _ (by first | omega | (simp only [List.length_append, List.length_cons, List.length_nil]; omega)) aO aC aD (⟨i + 1, by omega, rfl, rfl, rfl, rfl⟩)
 ·repeat (refine aK ?_)
  refine aH (by first | exact .inl rfl | exact .inr rfl) rfl rfl _ _ aC aD (⟨rfl, rfl, rfl⟩)
theorem aSS {m : LW} (hR : m.rch) (hm : sP m ∈ I0) :
  CD Tryz.prog 7 [vLW m] X w0 M0 I0 (fun v M I => M0 = M ∧ I0 = I ∧ v = .bool true) := by
 by_cases hn : m.few 7 5 ∧ m.code = 0 ∧ 2 ≤ m.a.rows.length
 ·obtain ⟨fw, hc, h2⟩ := hn
  refine kM (φ := (∀ r ∈ m.a.rows, ∀ e ∈ r.es, e.Fit) ∧ (∀ e ∈ m.l.es, e.Fit) ∧ ∀ e ∈ m.p.es, e.Fit) (fun w hw => Mem.fitLW hm hw) (fun hf => ?_)
  obtain ⟨n, R, C, rfl, f, hRR, _⟩ := LW.num hf hc
  rw [zX]
  exact aAP (φ := mW n 30) (Hv.few fw hm) (aQJ hR f (few_C f fw) (by omega) (List.Mem.tail _ hm) (List.Mem.head _) fw)
 ·exact aSR hR hm hn
end
end Go.Proofs.YtgeagiikkeiioaaGreat

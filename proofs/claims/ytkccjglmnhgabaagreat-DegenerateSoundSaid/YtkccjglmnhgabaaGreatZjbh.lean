/- The document's Null. Drawn regions: what stays is chosen anew in the middle. Drawn regions that read a block's fields ahead of their stores: trees of orders in two stages; a cut within a block's code. The determinant by elimination, one column at a time. matrix.Determinant. -/
import Derived.Test.YtkccjglmnhgabaaGreatZjbf
import Derived.Test.YtkccjglmnhgabaaGreatZjal
import Derived.Test.YtkccjglmnhgabaaGreatZjbb
import Derived.Test.YtkccjglmnhgabaaGreatZjba
import Derived.Test.YtkccjglmnhgabaaGreatZjam
set_option linter.unusedSimpArgs false
set_option linter.unusedVariables false
set_option maxRecDepth 100000
set_option maxHeartbeats 4000000
namespace Go.Proofs.YtkccjglmnhgabaaGreat
open Go Go.Fx
def NlR (A : Mt) (C k : Nat) (M0 : List Ent) (I0 : List aZ) (v : Value) (M : List Ent) (I : List aZ) : Prop :=
 M0 = M ∧ ∃ m : MX, v = mv m ∧ m.q = pG A C ∧ (∀ r ∈ m.rows, r.es.length = C) ∧ I = fJ m k :: I0
section
variable {X : List Nat} {w0 : World} {M : List Ent} {I : List aZ}
theorem Mem.blkT {w : World} {b k c : Nat} {es : List RE} {tl : List Value} {ty : TypeId} (hc : es.length ≤ c) (h : Mem X w0 (.blk b (recs eR es ++ tl) ty :: M) I w) (ha : dB es k ∈ I) : Mem X w0 M (nD ⟨some ⟨b, 0, none⟩, c, es⟩ k :: I) w := by
 have h1 := h.freezeB .here
 refine (h1.add (φ := nD ⟨some ⟨b, 0, none⟩, c, es⟩ k) ⟨aKR (h1.sl (List.Mem.head _)), (((h1.imm _ (List.Mem.tail _ ha)).2 : AllR es k _ w)).go, ⟨hc, .inl (Ok.mk _ _)⟩⟩).inc (.of fun φ hφ => ?_)
 rcases List.mem_cons.1 hφ with rfl | hφ
 ·exact List.Mem.head _
 ·exact List.Mem.tail _ (List.Mem.tail _ hφ)
variable {P : Program} {n : Nat} {Q : Exit → Act → World → Prop} {G : Env}
theorem aUI {cd : Code} {b k c : Nat} {es : List RE} {tl : List Value} {ty : TypeId} (hc : es.length ≤ c) (ha : dB es k ∈ I) (h : TD P n cd Q G X w0 M (nD ⟨some ⟨b, 0, none⟩, c, es⟩ k :: I)) : TD P n cd Q G X w0 (.blk b (recs eR es ++ tl) ty :: M) I := aDJ (fun _ hw => Mem.blkT hc hw ha) h
end
section
variable {X : List Nat} {w0 : World} {M0 : List Ent} {I0 : List aZ}
end
end Go.Proofs.YtkccjglmnhgabaaGreat
namespace Go.Fx
section
variable {P : Program} {ops : Array Oper} {Q : Exit → Act → World → Prop} {Cs Cs' : Nat → World → Prop}
end
section
variable {P : Program} {n : Nat} {Q : Exit → Act → World → Prop} {G : Env} {X : List Nat} {w0 : World} {M M1 M2 : List Ent} {I I1 I2 : List aZ} {l : List Oper}
end
section
variable {P : Program} {n : Nat} {ops l : List Oper} {Q : Exit → Act → World → Prop} {m : Mode} {G : Env} {ty : TypeId} {pos : String} {af : Array Edge} {g : Option (Nat × Bool)} {X : List Nat} {w0 : World} {M M' : List Ent} {I : List aZ}
/- a store into a row that may still grow -/
end
section
variable {P : Program} {n : Nat} {ops l : List Oper} {Q Q' Q1 Q2 : Exit → Act → World → Prop} {m : Mode} {G : Env} {X : List Nat} {w0 : World} {M M' : List Ent} {I : List aZ}
/- a cut from within a region that a test follows -/
end
end Go.Fx
namespace Go.Proofs.YtkccjglmnhgabaaGreat
open Go Go.Fx
theorem nM {P : Program} {ops : Array Oper} {Q : Exit → Act → World → Prop} {Cs Cs' : Nat → World → Prop} : ∀ (l : List Oper) (k : Nat) (ms : List Nat) (a : Act) (w : World),
  (∀ s w', l.any (fun o => eX o.op) = true → k ≤ s → Cs s w' → Cs' s w') → (∀ s w', k < s → s ≤ k + l.countP (fun o => !eX o.op) → Cs' s w' → Cs s w') →
  wpM P ops Q (.any Cs' k ms) l a w → wpM P ops Q (.any Cs k ms) l a w
 | [], _, _, _, _, _, _, h => h
 | o :: r, k, ms, a, w, hC, hK, h => by
  cases hf : eX o.op with
  | true =>
   have hC' : ∀ s w', k ≤ s → Cs s w' → Cs' s w' := fun s w' h1 => hC s w' (by simp [hf]) h1
   have hKr : ∀ s w', k < s → s ≤ k + r.countP (fun o => !eX o.op) → Cs' s w' → Cs s w' := fun s w' h1 h2 => hK s w' h1 (by rw [List.countP_cons]; omega)
   refine ⟨fun hw => (h.1 hw).imp (fun ⟨h1, v, h2, h3⟩ => ⟨h1, v, fun w' hc => h2 w' (hC' _ w' (Nat.le_add_right _ _) hc), nM r k ms.tail _ w (fun s w' _ h2 => hC' s w' h2) hKr h3⟩) (fun ⟨h1, _⟩ => absurd h1 (by simp [hf])), fun hw => ?_⟩
   have := h.2 hw
   simp only [Mode.held, Mode.skip, hf, cond_true] at this ⊢
   exact ⟨trivial, nM r k ms.tail _ w (fun s w' _ h2 => hC' s w' h2) hKr this.2⟩
  | false =>
   have hCr : ∀ s w', r.any (fun o => eX o.op) = true → k + 1 ≤ s → Cs s w' → Cs' s w' := fun s w' h0 h1 => hC s w' (by rw [List.any_cons, h0, Bool.or_true]) (by omega)
   have hct : (o :: r).countP (fun o => !eX o.op) = r.countP (fun o => !eX o.op) + 1 := by rw [List.countP_cons]; simp [hf]
   have hKr : ∀ s w', k + 1 < s → s ≤ k + 1 + r.countP (fun o => !eX o.op) → Cs' s w' → Cs s w' := fun s w' h1 h2 => hK s w' (by omega) (by omega)
   have hK1 : ∀ w', Cs' (k + 1) w' → Cs (k + 1) w' := fun w' => hK (k + 1) w' (by omega) (by omega)
   refine ⟨fun hw => (h.1 hw).imp (fun ⟨h1, _⟩ => absurd h1 (by simp [hf])) (fun ⟨h1, h2⟩ => ⟨h1, Oper.wp_mono (fun a w' ⟨x, y⟩ => ⟨hK1 w' x, nM r (k + 1) ms.tail _ _ hCr hKr y⟩) h2⟩), fun hw => ?_⟩
   have := h.2 hw
   simp only [Mode.held, Mode.skip, hf, cond_false] at this ⊢
   exact ⟨hK1 w this.1, nM r (k + 1) ms.tail _ w hCr hKr this.2⟩
theorem aJB {l : List Oper} (h : l.all (fun o => eX o.op) = true) : l.countP (fun o => !eX o.op) = 0 := by
 rw [List.countP_eq_zero]
 intro o ho
 have := List.all_eq_true.1 h o ho
 simp [this]
theorem aMW {l : List Oper} (h : l.all (fun o => !eX o.op) = true) : l.any (fun o => eX o.op) = false := by
 rw [List.any_eq_false]
 intro o ho
 have := List.all_eq_true.1 h o ho
 intro hh
 simp [hh] at this
def CsT (K : Nat) (X : List Nat) (w0 : World) (M1 M2 : List Ent) (I1 : List aZ) : Nat → World → Prop := fun s w => Mem X w0 M2 I1 w ∧ (s ≤ K → Mem X w0 M1 I1 w)
section
variable {P : Program} {n : Nat} {Q : Exit → Act → World → Prop} {G : Env} {X : List Nat} {w0 : World} {M M1 M2 : List Ent} {I I1 : List aZ} {l : List Oper} {K : Nat}
theorem CsT.up : ∀ s w, CsT K X w0 M1 M2 I1 s w → CsT K X w0 M1 M2 I1 (s + 1) w := fun _ _ h => ⟨h.1, fun hs => h.2 (by omega)⟩
theorem aQN {id : Nat} (K : Nat) (M1 M2 : List Ent) (I1 : List aZ) (hx : P.follows .mixedOrders = true) (h : ND n (Go.Fx.Rest P l Q (CsT K X w0 M1 M2 I1) l.length 0 (Array.replicate l.length false)) .normal G X w0 M I) : TD P n (.region id l.toArray true) Q G X w0 M I :=
 ⟨fun w hw => aRZ (CsT K X w0 M1 M2 I1) hx (h.go w.drew hw.drew)⟩
theorem aLH {fuel fuel' k k1 : Nat} {listed listed' : Array Bool} (p ms : List Nat) (hc : k + xC l.toArray p = k1) (hp : (pick l p).all (fun o => eX o.op) = true) (hM : SubP M M1) (hM2 : SubP M M2) (hI : Inc I I1) (hs : Region.noSelect l.toArray = true) (hok : mM l.toArray p ms listed = some listed') (hf : fuel' = fuel + p.length) (hsz : listed.size = l.toArray.size) (hk : Nat.ble k K = true)
  (h : RD P n l (Go.Fx.Rest P l Q (CsT K X w0 M1 M2 I1) fuel k1 listed') (.any (CsJ K X w0 M1 I1) k ms) (pick l p) G X w0 M I) : ND n (Go.Fx.Rest P l Q (CsT K X w0 M1 M2 I1) fuel' k listed) .normal G X w0 M I := by
 subst hc
 exact ⟨fun w hw => vF p ms CsT.up hs hok hf hsz ⟨hw.weak hM2 hI, fun _ => hw.weak hM hI⟩ ⟨fun a ha => nM _ _ _ _ _ (fun s w' _ _ hc hs => hc.2 hs) (fun s w' h1 h2 _ => by rw [aJB hp] at h2; omega) ((h.go w hw).go a ha)⟩⟩
theorem aGK {fuel fuel' k k1 : Nat} {listed listed' : Array Bool} (p ms : List Nat) (hc : k + xC l.toArray p = k1) (hp : (pick l p).all (fun o => eX o.op) = true) (hM : SubP M M1) (hM2 : SubP M M2) (hI : Inc I I1) (hs : Region.noSelect l.toArray = true) (hok : mM l.toArray p ms listed = some listed') (hf : fuel' = fuel + p.length) (hsz : listed.size = l.toArray.size) (hk : Nat.ble k K = true)
  (h : RD P n l (Go.Fx.Rest P l Q (CsT K X w0 M1 M2 I1) fuel k1 listed') (.any (Cst X w0 M2 I1) k ms) (pick l p) G X w0 M I) : ND n (Go.Fx.Rest P l Q (CsT K X w0 M1 M2 I1) fuel' k listed) .normal G X w0 M I := by
 subst hc
 exact ⟨fun w hw => vF p ms CsT.up hs hok hf hsz ⟨hw.weak hM2 hI, fun _ => hw.weak hM hI⟩ ⟨fun a ha => nM _ _ _ _ _ (fun s w' _ _ hc => hc.1) (fun s w' h1 h2 _ => by rw [aJB hp] at h2; omega) ((h.go w hw).go a ha)⟩⟩
theorem CsT.of (h12 : SubP M1 M2) {s : Nat} {w : World} (h : Mem X w0 M1 I1 w) : CsT K X w0 M1 M2 I1 s w := ⟨h.weak h12 Inc.refl, fun _ => h⟩
theorem aGJ {fuel fuel' k k1 : Nat} {listed listed' : Array Bool} (p ms : List Nat) (hc : k + xC l.toArray p = k1) (hp : (pick l p).all (fun o => !eX o.op) = true) (hM : SubP M M1) (h12 : SubP M1 M2) (hI : Inc I I1) (hs : Region.noSelect l.toArray = true) (hok : mM l.toArray p ms listed = some listed') (hf : fuel' = fuel + p.length) (hsz : listed.size = l.toArray.size) (hk : Nat.ble (k + (pick l p).length) K = true)
  (h : RD P n l (Go.Fx.Rest P l Q (CsT K X w0 M1 M2 I1) fuel k1 listed') (.any (Cst X w0 M1 I1) k ms) (pick l p) G X w0 M I) : ND n (Go.Fx.Rest P l Q (CsT K X w0 M1 M2 I1) fuel' k listed) .normal G X w0 M I := by
 subst hc
 exact ⟨fun w hw => vF p ms CsT.up hs hok hf hsz (CsT.of h12 (hw.weak hM hI)) ⟨fun a ha => nM _ _ _ _ _ (fun s w' h0 => by rw [aMW hp] at h0; cases h0) (fun s w' h1 h2 hm => CsT.of h12 hm) ((h.go w hw).go a ha)⟩⟩
theorem aFP {fuel k : Nat} {listed : Array Bool} (p ms : List Nat) (hk : Nat.ble K k = true) (hM : SubP M M1) (hM2 : SubP M M2) (hI : Inc I I1) (hs : Region.noSelect l.toArray = true) (hok : iG l.toArray p ms listed = true) (hf : fuel = p.length) (hsz : listed.size = l.toArray.size)
  (h : RD P n l Q (.any (Cst X w0 M2 I1) k ms) (pick l p) G X w0 M I) : ND n (Go.Fx.Rest P l Q (CsT K X w0 M1 M2 I1) fuel k listed) .normal G X w0 M I :=
 ⟨fun w hw => aEA p ms CsT.up hs hok hf hsz ⟨hw.weak hM2 hI, fun _ => hw.weak hM hI⟩ ⟨fun a ha => nM _ _ _ _ _ (fun s w' _ _ hc => hc.1) (fun s w' h1 h2 hm => ⟨hm, fun hs => by have := Nat.le_of_ble_eq_true hk; omega⟩) ((h.go w hw).go a ha)⟩⟩
theorem aWO {k i k1 : Nat} {R' : Exit → Act → World → Prop} (he : (pick l [i]).all (fun o => !eX o.op) = true) (h12 : SubP M1 M2) {w : World} (h : R P n l R' (.any (Cst X w0 M1 I1) k []) (pick l [i]) G w) : R P n l R' (.any (CsT K X w0 M1 M2 I1) k []) (pick l [i]) G w :=
 ⟨fun a ha => nM _ _ _ _ _ (fun s w' h0 => by rw [aMW he] at h0; cases h0) (fun s w' h1 h2 hm => CsT.of h12 hm) (h.go a ha)⟩
theorem aHS {fuel k k1 i j : Nat} {listed : Array Bool} (hk : k + 1 = k1) (hK : Nat.ble k1 K = true) (h12 : SubP M1 M2) (he : ((pick l [i]).all (fun o => !eX o.op) && (pick l [j]).all (fun o => !eX o.op)) = true) (hr : (Region.ready .any l.toArray listed == [i, j] && aHJ l.toArray i && aHJ l.toArray j) = true)
  (h1 : RD P n l (Go.Fx.Rest P l Q (CsT K X w0 M1 M2 I1) fuel k1 (listed.setIfInBounds i true)) (.any (Cst X w0 M1 I1) k []) (pick l [i]) G X w0 M I)
  (h2 : RD P n l (Go.Fx.Rest P l Q (CsT K X w0 M1 M2 I1) fuel k1 (listed.setIfInBounds j true)) (.any (Cst X w0 M1 I1) k []) (pick l [j]) G X w0 M I) : ND n (Go.Fx.Rest P l Q (CsT K X w0 M1 M2 I1) (fuel + 1) k listed) .normal G X w0 M I := by
 subst hk
 simp only [Bool.and_eq_true] at he
 exact ⟨fun w hw => aBU hr (aWO (k1 := k) he.1 h12 (h1.go w hw)) (aWO (k1 := k) he.2 h12 (h2.go w hw))⟩
end
section
variable {P : Program} {n : Nat} {Q Q' : Exit → Act → World → Prop} {G : Env} {X : List Nat} {w0 : World} {M : List Ent} {I : List aZ}
/- a cut from within a block -/
end
end Go.Proofs.YtkccjglmnhgabaaGreat
namespace Go.Proofs.YtkccjglmnhgabaaGreat
open Go Go.Fx
def uC (A : Mt) (j x : Nat) : Mt := (swp A j x).mapIdx (fun i row => if i ≤ j then row else if row.getD j 0 = 0 then row else kK j (row.getD j 0 / at2 (swp A j x) j j) (rowAt (swp A j x) j) row)
def aAJ (A : Mt) (j : Nat) : Nat → Nat → Rat := fun i k => at2 A (i + j) (k + j)
theorem aJE {A : Mt} {R C j x a : Nat} (h : iD A R C) (hj : j < R) (hx : x < R) (ha : a < R) : rowAt (uC A j x) a = if a ≤ j then rowAt A (tr j x a) else if at2 A (tr j x a) j = 0 then rowAt A (tr j x a) else kK j (at2 A (tr j x a) j / at2 A x j) (rowAt A x) (rowAt A (tr j x a)) := by
 have hs := aFR (r := j) (k := x) h hj hx
 have hr : ∀ i, rowAt (swp A j x) i = rowAt A (tr j x i) := fun i => pQ h hj hx
 have htr : tr j x j = x := by simp [tr]
 have hat : at2 (swp A j x) j j = at2 A x j := by unfold at2; rw [hr, htr]
 have e1 : rowAt (uC A j x) a = if a ≤ j then rowAt (swp A j x) a else if (rowAt (swp A j x) a).getD j 0 = 0 then rowAt (swp A j x) a else kK j ((rowAt (swp A j x) a).getD j 0 / at2 (swp A j x) j j) (rowAt (swp A j x) j) (rowAt (swp A j x) a) := by
  have hl : a < (swp A j x).length := by rw [hs.1]; exact ha
  unfold uC
  rw [aDZ hl]
 rw [e1, hat, hr, hr, htr]
 rfl
theorem aPP {A : Mt} {R C j x a b : Nat} (h : iD A R C) (hj : j < R) (hx : x < R) (ha : a < R) (hb : b < C) (haj : j < a) (hbj : j ≤ b) : at2 (uC A j x) a b = at2 A (tr j x a) b - at2 A (tr j x a) j / at2 A x j * at2 A x b := by
 have e : at2 (uC A j x) a b = (rowAt (uC A j x) a).getD b 0 := rfl
 rw [e, aJE h hj hx ha, if_neg (by omega)]
 by_cases e0 : at2 A (tr j x a) j = 0
 ·rw [if_pos e0, e0]
  show at2 A (tr j x a) b = _
  grind
 ·rw [if_neg e0]
  unfold kK
  rw [qV (by rw [h.2 _ (xX hj hx ha)]; exact hb), if_neg (by omega)]
  rfl
theorem aTU {A : Mt} {n j x : Nat} (h : iD A n n) (hj : j < n) (hjx : j ≤ x) (hx : x < n) (h0 : at2 A x j ≠ 0) :
  dt (n - j) (aAJ A j) = esg j x * at2 A x j * dt (n - (j + 1)) (aAJ (uC A j x) (j + 1)) := by
 obtain ⟨m, hm⟩ : ∃ m, n - j = m + 1 := ⟨n - j - 1, by omega⟩
 have hm2 : n - (j + 1) = m := by omega
 rw [hm, hm2]
 -- exchanged
 have h1 : dt (m + 1) (fun a b => aAJ A j (tr 0 (x - j) a) b) = esg j x * dt (m + 1) (aAJ A j) := by
  unfold esg
  by_cases e : j = x
  ·subst e
   rw [if_pos rfl, Nat.sub_self, show (fun a b => aAJ A j (tr 0 0 a) b) = aAJ A j by funext a b; simp only [tr]; split <;> simp_all]; grind
  ·rw [if_neg e, aMC (by omega) (by omega) (by omega)]; grind
 obtain ⟨g, hg⟩ : ∃ g : Nat → Nat → Rat, g = fun a b => aAJ A j (tr 0 (x - j) a) b := ⟨_, rfl⟩
 rw [← hg] at h1
 have htr : ∀ a, tr 0 (x - j) a + j = tr j x (a + j) := fun a => by
  by_cases e1 : a = 0
  ·have : tr 0 (x - j) a = x - j := by simp [tr, e1]
   have h2 : tr j x (a + j) = x := by simp [tr, e1]
   omega
  ·by_cases e2 : a = x - j
   ·have : tr 0 (x - j) a = 0 := by simp [tr, e1, e2]
    have h2 : tr j x (a + j) = j := by simp [tr, e1, show a + j = x by omega]
    omega
   ·have : tr 0 (x - j) a = a := by simp [tr, e1, e2]
    have h2 : tr j x (a + j) = a + j := by simp [tr, e1, show ¬ a + j = x by omega]
    omega
 have hgv : ∀ a b, g a b = at2 A (tr j x (a + j)) (b + j) := fun a b => by rw [hg]; show at2 A (tr 0 (x - j) a + j) (b + j) = _; rw [htr]
 have htj : tr j x (0 + j) = x := by simp [tr]
 have hg0 : ∀ b, g 0 b = at2 A x (b + j) := fun b => by rw [hgv, htj]
 have h2 := aNF (n := m + 1) (r := 0) (f := g) (c := fun a => g a 0 / g 0 0) (by omega)
 have hg00 : g 0 0 ≠ 0 := by rw [hg0, Nat.zero_add]; exact h0
 have h3 : dt (m + 1) (fun a b => if a = 0 then g 0 b else g a b - g a 0 / g 0 0 * g 0 b) = g 0 0 * dt m (aAJ (uC A j x) (j + 1)) := by
  rw [aHZ (fun i hi _ => by
   rw [if_neg (by omega)]
   have : g i 0 / g 0 0 * g 0 0 = g i 0 := by grind
   grind)]
  rw [if_pos rfl]
  congr 1
  apply kX
  intro a b ha hb
  rw [if_neg (by omega)]
  show _ = at2 (uC A j x) (a + (j + 1)) (b + (j + 1))
  rw [aPP h hj hx (by omega) (by omega) (by omega) (by omega), hg0, hg0, hgv, hgv, Nat.zero_add]
  rw [show a + 1 + j = a + (j + 1) by omega, show b + 1 + j = b + (j + 1) by omega]
 have hs : esg j x * esg j x = 1 := by unfold esg; split <;> grind
 have h4 : dt (m + 1) (aAJ A j) = esg j x * dt (m + 1) g := by rw [h1]; grind
 rw [h4, ← h2, h3, hg0, Nat.zero_add]; grind
theorem aQO {A : Mt} {n j : Nat} (hj : j < n) (h : ∀ i, j ≤ i → i < n → at2 A i j = 0) : dt (n - j) (aAJ A j) = 0 := by
 obtain ⟨m, hm⟩ : ∃ m, n - j = m + 1 := ⟨n - j - 1, by omega⟩
 rw [hm]
 exact aFB (fun i hi => by show at2 A (i + j) (0 + j) = 0; rw [Nat.zero_add]; exact h _ (by omega) (by omega))
theorem aVY {A : Mt} {n : Nat} : dt (n - 0) (aAJ A 0) = dt n (at2 A) := rfl
end Go.Proofs.YtkccjglmnhgabaaGreat
namespace Go.Proofs.YtkccjglmnhgabaaGreat
open Go Go.Fx
theorem aRM {A : Mt} {r : Nat} (h : r < A.length) : swp A r r = A := by
 have e : rowAt A r = A[r] := by simp [rowAt, List.getD, h]
 unfold swp
 rw [e, List.set_set, List.set_getElem_self]
theorem aRG {rows : List MR} {R C : Nat} (hl : rows.length = R) (hc : ∀ r ∈ rows, r.es.length = C) : iD (mq rows) R C :=
 ⟨by simp [hl], fun i hi => by rw [mO (by omega)]; simp [hc _ (dP (ms := rows) (i := (i : Int)) (by omega))]⟩
theorem aSH {rows4 rows2 : List MR} {n j : Nat} (h4 : rows4.length = n) (h2 : rows2.length = n)
  (hk : ∀ t : Nat, t < n → t ≤ j → gt rows4 (t : Int) = gt rows2 (t : Int))
  (hd : ∀ t : Nat, t < n → j < t → qs (gt rows4 (t : Int)).es = if at2 (mq rows2) t j = 0 then qs (gt rows2 (t : Int)).es else kK j (at2 (mq rows2) t j / at2 (mq rows2) j j) (rowAt (mq rows2) j) (qs (gt rows2 (t : Int)).es)) :
  mq rows4 = (mq rows2).mapIdx (fun i row => if i ≤ j then row else if row.getD j 0 = 0 then row else kK j (row.getD j 0 / at2 (mq rows2) j j) (rowAt (mq rows2) j) row) := by
 apply List.ext_getElem
 ·simp [h4, h2]
 ·intro t h1 h3
  have ht : t < n := by simpa [h4] using h1
  have e4 : (mq rows4)[t] = qs (gt rows4 (t : Int)).es := by rw [dM (by omega)]; simp
  have e3 : (mq rows2)[t]'(by simp; omega) = qs (gt rows2 (t : Int)).es := by rw [dM (by omega)]; simp
  have ea : at2 (mq rows2) t j = (qs (gt rows2 (t : Int)).es).getD j 0 := by unfold at2; rw [mO (by omega)]
  rw [e4, List.getElem_mapIdx, e3]
  by_cases htj : t ≤ j
  ·rw [if_pos htj, hk t ht htj]
  ·rw [if_neg htj, hd t ht (by omega), ea]
/- regions that draw: some reads see all up to a first effect, others what stays up to a second one -/
section
variable {P : Program} {n : Nat} {Q : Exit → Act → World → Prop} {G : Env} {X : List Nat} {w0 : World} {M M' M1 Ms : List Ent} {I I' I1 Is : List aZ}
def CsL (J1 J2 : Nat) (X : List Nat) (w0 : World) (M : List Ent) (I : List aZ) (Ms : List Ent) (Is : List aZ) : Nat → World → Prop := fun s w => (s ≤ J1 → Mem X w0 M I w) ∧ (s ≤ J2 → Mem X w0 Ms Is w)
theorem aPW {id : Nat} {l : List Oper} (J1 J2 : Nat) (Ms : List Ent) (Is : List aZ) (p ms : List Nat) (hM : SubP M Ms) (hI : Inc I Is) (hx : P.follows .mixedOrders = true)
  (hp : (Region.noSelect l.toArray && iG l.toArray p ms (Array.replicate l.length false) && p.length == l.length) = true)
  (h : RD P n l Q (.any (CsL J1 J2 X w0 M I Ms Is) 0 ms) (pick l p) G X w0 M I) : TD P n (.region id l.toArray true) Q G X w0 M I :=
 pY (CsL J1 J2 X w0 M I Ms Is) p ms hx (fun s w h => ⟨fun hs => h.1 (by omega), fun hs => h.2 (by omega)⟩) hp (fun _ h => ⟨fun _ => h, fun _ => h.weak hM hI⟩) h
theorem aMP {J1 J2 k : Nat} {ms : List Nat} (h : k + ms.headD 0 ≤ J1) : View (.any (CsL J1 J2 X w0 M1 I1 Ms Is) k ms) X w0 M I M1 I1 := ⟨fun w w' _ hc => by
 have hc' : CsL J1 J2 X w0 M1 I1 Ms Is (k + ms.headD 0) w' := hc
 exact hc'.1 h⟩
theorem aAL {J1 J2 k : Nat} {ms : List Nat} (h : k + ms.headD 0 ≤ J2) : View (.any (CsL J1 J2 X w0 M1 I1 Ms Is) k ms) X w0 M I Ms Is := ⟨fun w w' _ hc => by
 have hc' : CsL J1 J2 X w0 M1 I1 Ms Is (k + ms.headD 0) w' := hc
 exact hc'.2 h⟩
theorem aYG {J1 J2 k : Nat} {ms : List Nat} (h1 : SubP M M1) (i1 : Inc I I1) (h2 : SubP M Ms) (i2 : Inc I Is) : OkD (.any (CsL J1 J2 X w0 M1 I1 Ms Is) k ms) X w0 M I := ⟨fun w hw => by
 show CsL J1 J2 X w0 M1 I1 Ms Is (k + 1) w
 exact ⟨fun _ => hw.weak h1 i1, fun _ => hw.weak h2 i2⟩⟩
theorem aYI {J1 J2 k : Nat} {ms : List Nat} (h1 : J1 ≤ k) (h2 : SubP M Ms) (i2 : Inc I Is) : OkD (.any (CsL J1 J2 X w0 M1 I1 Ms Is) k ms) X w0 M I := ⟨fun w hw => by
 show CsL J1 J2 X w0 M1 I1 Ms Is (k + 1) w
 exact ⟨fun hs => by omega, fun _ => hw.weak h2 i2⟩⟩
end
section
variable {X : List Nat} {w0 : World} {M0 : List Ent} {I0 : List aZ}
abbrev zRm : List Value := [.bool false, .slice none 0 0, .bool false, .slice none 0 0]
theorem aAI {a : MX} {n k0 : Nat} (hb : kb k0 n ≤ 20000000000) (hk0 : k0 ≤ 20000000000) (da : a.fit n n) (ha : fJ a k0 ∈ I0) : CD Tryz.prog 122 [mv a] X w0 M0 I0 (RQc (dt n (at2 a.q)) (kb k0 n) M0 I0) := by
 obtain ⟨n1, n2⟩ := da.2.1
 refine jM (fun w hw => Mem.xsml ha da (by omega) hw) (fun sa => ?_)
 have hC := fun M0 I0 h1 => aPU (X := X) (w0 := w0) (M0 := M0) (I0 := I0) (a := a.raw) sa h1
 have e0 : sqC a.raw = 0 := by
  unfold sqC
  rw [if_pos da.ok, a.raw_rows, MX.raw_c0 da, da.1.1, if_pos rfl]
 rw [e0, jT] at hC
 have hW := fun (x : Int) (hx : x.natAbs ≤ 1) M0 I0 => qC (X := X) (w0 := w0) (M0 := M0) (I0 := I0) (x := x) (by omega) (k := 0) hx
 refine cK (φ := iE a.raw) (Hv.xraw ha (by omega)) ?_
 refine aU Tryz.func122 rfl Tryz.ntmps122 rfl ?_
 refine aI ?_
 refine aH ?_
 (refine aL rfl rfl ?_; intro b2; refine ⟨okF, ?_⟩)
 repeat (refine aK ?_)
 (refine aA rfl (hC _ _ aB) rfl rfl ?_; rintro _ _ _ ⟨rfl, rfl, rfl⟩; refine ⟨okF, ?_⟩)
 repeat (refine aK ?_)
 (refine aA rfl (aCD da aB) rfl rfl ?_; rintro _ _ _ ⟨bo, rows0, rfl, hl0, hc0, hq0, rfl, rfl⟩; refine ⟨okF, ?_⟩)
 repeat (refine aK ?_)
 (refine aA rfl (hW 1 (by decide) _ _) rfl rfl ?_; rintro _ _ _ ⟨rfl, d0, rfl, hd0, rfl⟩; refine ⟨okF, ?_⟩)
 repeat (refine aK ?_)
 (refine aL rfl rfl ?_; intro b6; refine ⟨okF, ?_⟩)
 repeat (refine aK ?_)
 obtain ⟨M1, hM1⟩ : ∃ M1 : List Ent, M1 = .blk b2 zRm 37 :: M0 := ⟨_, rfl⟩
 rw [← hM1]
 have hmq0 : mq rows0 = a.q := by rw [da.1.mk]; exact hq0
 refine dK (φ := dX d0 (kb k0 0)) (Hv.q (k := 0) (List.Mem.head _) (Nat.zero_le _)) ?_
 refine aM [2, 5, 6, 20] rfl (fun k G M I => ∃ (j : Nat) (rows1 : List MR) (d : RE), j ≤ n ∧ k = n - j ∧ rows1.length = n ∧ (∀ r ∈ rows1, r.es.length = n) ∧ dt n (at2 a.q) = d.q * dt (n - j) (aAJ (mq rows1) j) ∧ G = [(21, .int .i64 j)] ∧ M = .blk b6 (eR d) 37 :: .blk bo (recs eM rows1) 39 :: (rows1.map fK ++ M1) ∧ I = dX d (kb k0 j) :: allM rows1 (kb k0 j) :: I0) (n) _ _ _ aP aG aD (⟨0, rows0, d0, by omega, rfl, hl0, hc0, by rw [hd0, hmq0, aVY]; grind, rfl, rfl, rfl⟩) ?_
 clear hC
 rintro kk G M I ⟨j, rows1, d, hj, rfl, hl1, hC1, hD, rfl, rfl, rfl⟩
 have hCg : ∀ t : Nat, t < n → (gt rows1 (t : Int)).es.length = n := fun t ht => hC1 _ (dP (by omega))
 have hdim := aRG hl1 hC1
 have hbj := gU k0 (m := j) (n := n) hj
 by_cases hjn : j < n
 ·have hb4 : 4 * kb k0 j + 1 ≤ 20000000000 := Nat.le_trans (gU k0 (m := j + 1) (n := n) hjn) hb
  have hkj1 : kb k0 (j + 1) = 4 * kb k0 j + 1 := rfl
  generalize hkj : kb k0 j = kj at *
  repeat (refine aK ?_)
  refine aM [2, 5, 6, 7, 20, 21] rfl (fun k G M I => ∃ x : Nat, j ≤ x ∧ x ≤ n ∧ k = n - x ∧ (∀ i : Nat, j ≤ i → i < x → at2 (mq rows1) i j = 0) ∧ G = [(8, .int .i64 x)] ∧ M = .blk b6 (eR d) 37 :: .blk bo (recs eM rows1) 39 :: (rows1.map fK ++ M1) ∧ I = dX d kj :: allM rows1 kj :: I0) (n - j) _ _ _ aP aG aD (⟨j, by omega, by omega, rfl, fun i h1 h2 => by omega, rfl, rfl, rfl⟩) ?_
  rintro k G M I ⟨x, hjx, hxn, rfl, hz, rfl, rfl, rfl⟩
  by_cases hxn2 : x < n
  ·have hlx := hCg x hxn2
   have hat := wE (rows := rows1) (i := x) (j := j) (by omega) (by omega)
   have hS := mJ (X := X) (w0 := w0) (M0 := .blk (gt rows1 (x : Int)).b (recs eR (gt rows1 (x : Int)).es) 37 :: .blk b6 (eR d) 37 :: .blk bo (recs eM rows1) 39 :: ((rows1.eraseIdx x).map fK ++ M1)) (I0 := dX d kj :: allM rows1 kj :: I0) (e := gt (gt rows1 (x : Int)).es (j : Int)) (k := kj) (by omega) (Hv.elM (List.Mem.tail _ (List.Mem.head _)) (by omega) (by omega) (Nat.le_refl _))
   by_cases hx2 : at2 (mq rows1) x j = 0
   ·rw [hat] at hx2
    rw [(kP _).2 hx2] at hS
    refine mV (aAG (rows := rows1) (i := x) (by omega)) ?_
    repeat (refine aK ?_)
    (refine aA rfl (hS) rfl rfl ?_; rintro _ _ _ ⟨rfl, rfl, rfl⟩; refine ⟨okF, ?_⟩)
    repeat (refine aK ?_)
    refine tV (aAG (rows := rows1) (i := x) (by omega)).symm ?_
    refine aJ (n - (x + 1)) _ _ _ (by first | omega | (simp only [List.length_append, List.length_cons, List.length_nil]; omega)) aP aG aD (⟨x + 1, by omega, by omega, rfl, fun i h1 h2 => ?_, rfl, rfl, rfl⟩)
    by_cases e : i = x
    ·rw [e, hat]; exact hx2
    ·exact hz i h1 (by omega)
   ·have hxne := hx2
    rw [hat] at hx2
    have hs0 : ¬ (gt (gt rows1 (x : Int)).es (j : Int)).q.num.sign = 0 := fun h => hx2 ((kP _).1 h)
    generalize (gt (gt rows1 (x : Int)).es (j : Int)).q.num.sign = sg1 at *
    refine mV (aAG (rows := rows1) (i := x) (by omega)) ?_
    repeat (refine aK ?_)
    (refine aA rfl (hS) rfl rfl ?_; rintro _ _ _ ⟨rfl, rfl, rfl⟩; refine ⟨okF, ?_⟩)
    clear hS
    repeat (refine aK ?_)
    refine mV (aAG (rows := rows1) (i := x) (by omega)).symm ?_
    refine uX (fun G M I => ∃ (rows2 : List MR) (d2 : RE), rows2.length = n ∧ (∀ r ∈ rows2, r.es.length = n) ∧ mq rows2 = swp (mq rows1) j x ∧ d2.q = esg j x * d.q ∧ G = [(2, .pointer (some ⟨b2, 0, none⟩)), (5, .slice (some ⟨bo, 0, none⟩) n n), (6, .pointer (some ⟨b6, 0, none⟩)), (7, .int .i64 (j : Int)), (20, .int .i64 (n : Int)), (21, .int .i64 (j : Int))] ∧ M = .blk b6 (eR d2) 37 :: .blk bo (recs eM rows2) 39 :: (rows2.map fK ++ M1) ∧ I = dX d2 kj :: allM rows2 kj :: I0) ?_ ?_
    ·by_cases hxj : x = j
     ·subst hxj
      repeat (refine aK ?_)
      refine kQ _ _ _ aP aG aD ⟨rows1, d, hl1, hC1, ?_, ?_, rfl, rfl, rfl⟩
      ·exact (aRM (by simp [hl1]; omega)).symm
      ·unfold esg; rw [if_pos rfl]; grind
     ·repeat (refine aK ?_)
      (repeat refine aI ?_); refine bR 0 [0, 1, 2, 3, 4, 5, 6, 7, 8, 9, 10, 11, 12, 13, 14, 15] [0, 0, 1, 1, 0, 0, 0, 0, 1, 1, 1, 0, 0, 0, 0, 0] mixed (by kernel_rfl) ?_
      repeat (refine yXh ?_)
      refine kG rfl rfl rfl jV (StAt.r1 (gt rows1 (j : Int)) (by omega) rfl) rfl rfl ⟨okF, ?_⟩
      repeat (refine yXh ?_)
      refine kG rfl rfl rfl jV (StAt.r1 (gt rows1 (x : Int)) (by rw [dZ]; omega) rfl) rfl rfl ⟨okF, ?_⟩
      obtain ⟨rows2, hrows2⟩ : ∃ rows2, rows2 = st (st rows1 (x : Int) (gt rows1 (j : Int))) (j : Int) (gt rows1 (x : Int)) := ⟨_, rfl⟩
      have hsp := swap_perm (rows := rows1) (r := x) (k := j) (by omega) (by omega)
      rw [← hrows2] at hsp ⊢
      refine xP (M' := .blk b6 (eR d) 37 :: .blk bo (recs eM rows2) 39 :: (rows2.map fK ++ M1)) (List.Perm.cons _ (List.Perm.cons _ ((hsp.symm.map fK).append_right M1))) ?_
      refine iQ (φ := allM rows2 kj) (Hv.permM (List.Mem.tail _ (List.Mem.head _)) hsp) ?_
      repeat (refine aK ?_)
      (refine aA rfl (aGB (k := kj) (by omega) (Hv.mem aB)) rfl rfl ?_; rintro _ _ _ ⟨rfl, d2, rfl, hd2, rfl⟩; refine ⟨okF, ?_⟩)
      repeat (refine aK ?_)
      refine kQ _ _ _ aP aG aD ⟨rows2, d2, by rw [hsp.length_eq]; exact hl1, fun r hr => hC1 r (hsp.mem_iff.1 hr), ?_, ?_, rfl, rfl, rfl⟩
      ·rw [hrows2]
       unfold st swp
       simp only [Int.toNat_natCast]
       rw [aBF, aBF, mO (by omega), mO (by omega), List.set_comm _ _ hxj]
      ·unfold esg; rw [if_neg (fun e => hxj e.symm), hd2]; grind
    ·clear hs0 hz
     rintro G M I ⟨rows2, d2, hl2, hC2, hmq2, hd2, rfl, rfl, rfl⟩
     have hC2g : ∀ t : Nat, t < n → (gt rows2 (t : Int)).es.length = n := fun t ht => hC2 _ (dP (by omega))
     have hdim2 := aRG hl2 hC2
     have hlr := hC2g j hjn
     have hatj := wE (rows := rows2) (i := j) (j := j) (by omega) (by omega)
     have hpe : at2 (mq rows2) j j = at2 (mq rows1) x j := by
      rw [hmq2]
      unfold at2
      rw [pQ hdim hjn hxn2]
      simp [tr]
     have hpiv : (gt (gt rows2 (j : Int)).es (j : Int)).q ≠ 0 := by rw [← hatj, hpe]; exact hxne
     have hEl : ∀ I, allM rows2 kj ∈ I → Hv I (dX (gt (gt rows2 (j : Int)).es (j : Int)) kj) := fun I h => Hv.elM h (by omega) (by omega) (Nat.le_refl _)
     refine mV (aAG (rows := rows2) (i := j) (by omega)) ?_
     (repeat refine aI ?_); refine bR 1 [0, 1, 2, 3, 4, 5, 6, 7, 8, 9] [0, 1, 1, 1, 1, 1, 1, 0, 0, 0] mixed (by kernel_rfl) ?_
     repeat (refine aK ?_)
     (refine aA rfl (xU (k := kj) (m := kj) (by omega) (Hv.mem aB) (hEl _ aB)) rfl rfl ?_; rintro _ _ _ ⟨rfl, d3, rfl, hd3, rfl⟩; refine ⟨okF, ?_⟩)
     repeat (refine aK ?_)
     refine mV (aAG (rows := rows2) (i := j) (by omega)).symm ?_
     refine dK (φ := allM rows2 (4 * kj + 1)) (Hv.monoM (k := kj) aB (by omega)) ?_
     refine aM [2, 5, 6, 7, 20, 21] rfl (fun k G M I => ∃ (i : Nat) (rows4 : List MR), j + 1 ≤ i ∧ i ≤ n ∧ k = n - i ∧ rows4.length = n ∧ (∀ t : Nat, t < n → (gt rows4 (t : Int)).es.length = n) ∧ (∀ t : Nat, t < n → (t ≤ j ∨ i ≤ t) → gt rows4 (t : Int) = gt rows2 (t : Int)) ∧ (∀ t : Nat, j < t → t < i → qs (gt rows4 (t : Int)).es = if at2 (mq rows2) t j = 0 then qs (gt rows2 (t : Int)).es else kK j (at2 (mq rows2) t j / at2 (mq rows2) j j) (rowAt (mq rows2) j) (qs (gt rows2 (t : Int)).es)) ∧ G = [(9, .int .i64 i)] ∧ M = .blk b6 (eR d3) 37 :: .blk bo (recs eM rows4) 39 :: (rows4.map fK ++ M1) ∧ I = allM rows4 (4 * kj + 1) :: dX d3 (kj + kj) :: allM rows2 kj :: I0) (n - (j + 1)) _ _ _ aP aG aD (⟨j + 1, rows2, by omega, by omega, rfl, hl2, hC2g, fun _ _ _ => rfl, fun t h1 h2 => by omega, rfl, rfl, rfl⟩) ?_
     rintro k G M I ⟨i, rows4, hji, hin, rfl, hl4, hC4, hrest, hdone, rfl, rfl, rfl⟩
     have hg4j := hrest j hjn (.inl (Nat.le_refl _))
     by_cases hi : i < n
     ·have hgi := hrest i hi (.inr (Nat.le_refl _))
      have hij : i ≠ j := by omega
      have hlx := hC4 i hi
      have hlj := hC4 j hjn
      have hat : at2 (mq rows2) i j = (gt (gt rows4 (i : Int)).es (j : Int)).q := by rw [hgi]; exact wE (by omega) (by rw [hC2g i hi]; omega)
      have hEi : ∀ I, allM rows2 kj ∈ I → Hv I (dX (gt (gt rows4 (i : Int)).es (j : Int)) kj) := fun I h => by rw [hgi]; exact Hv.elM h (by omega) (by rw [hC2g i hi]; omega) (Nat.le_refl _)
      have hEj : ∀ I, allM rows2 kj ∈ I → Hv I (dX (gt (gt rows4 (j : Int)).es (j : Int)) kj) := fun I h => by rw [hg4j]; exact hEl I h
      have hpj : (gt (gt rows4 (j : Int)).es (j : Int)).q ≠ 0 := by rw [hg4j]; exact hpiv
      have hRi : ∀ I, allM rows2 kj ∈ I → Hv I (dB (gt rows4 (i : Int)).es kj) := fun I h => by rw [hgi]; exact Hv.rowMm h (by omega) (Nat.le_refl _)
      have hRj : ∀ I, allM rows2 kj ∈ I → Hv I (dB (gt rows4 (j : Int)).es kj) := fun I h => by rw [hg4j]; exact Hv.rowMm h (by omega) (Nat.le_refl _)
      have hfoc := foc2 (rows := rows4) (i := i) (j := j) (by omega) (by omega) hij (A := .blk b6 (eR d3) 37) (B := .blk bo (recs eM rows4) 39) (M1 := M1)
      have hS := fun M0 I0 h => mJ (X := X) (w0 := w0) (M0 := M0) (I0 := I0) (e := gt (gt rows4 (i : Int)).es (j : Int)) (k := kj) (by omega) h
      refine mV hfoc ?_
      by_cases hx0 : (gt (gt rows4 (i : Int)).es (j : Int)).q = 0
      ·rw [(kP _).2 hx0] at hS
       repeat (refine aK ?_)
       (refine aA rfl (hS _ _ (hEi _ aB)) rfl rfl ?_; rintro _ _ _ ⟨rfl, rfl, rfl⟩; refine ⟨okF, ?_⟩)
       repeat (refine aK ?_)
       refine tV hfoc.symm ?_
       refine aJ (n - (i + 1)) _ _ _ (by first | omega | (simp only [List.length_append, List.length_cons, List.length_nil]; omega)) aP aG aD (⟨i + 1, rows4, by omega, by omega, rfl, hl4, hC4, fun t ht h => hrest t ht (by omega), fun t h1 h2 => ?_, rfl, rfl, rfl⟩)
       by_cases hti : t = i
       ·subst hti
        rw [hat, if_pos hx0, hgi]
       ·exact hdone t h1 (by omega)
      ·have hs0 : ¬ (gt (gt rows4 (i : Int)).es (j : Int)).q.num.sign = 0 := fun h => hx0 ((kP _).1 h)
       generalize (gt (gt rows4 (i : Int)).es (j : Int)).q.num.sign = sg2 at *
       repeat (refine aK ?_)
       (refine aA rfl (hS _ _ (hEi _ aB)) rfl rfl ?_; rintro _ _ _ ⟨rfl, rfl, rfl⟩; refine ⟨okF, ?_⟩)
       repeat (refine aK ?_)
       (repeat refine aI ?_); refine aPW 1 2 (.blk b6 (eR d3) 37 :: .blk bo (recs eM rows4) 39 :: ((kH rows4 i j).map fK ++ M1)) (allM rows4 (4 * kj + 1) :: dX d3 (kj + kj) :: allM rows2 kj :: I0) [0, 1, 2, 3, 4, 5, 6, 7, 8, 9, 10, 11, 12, 13, 14, 15, 16, 17, 18, 19, 20, 21, 23, 22, 24] [2, 2, 2, 1, 2, 2, 2, 1, 2, 2, 2, 2, 2, 2, 1, 2, 2, 2, 2, 2, 2, 1, 1, 0, 0] aG aD mixed (by kernel_rfl) ?_
       repeat (refine aK ?_)
       (apply iC; exact aAL (by decide); exact rfl; exact aB; exact oZ; exact rfl; exact rfl)
       repeat (refine aK ?_)
       (apply iC; exact aAL (by decide); exact rfl; exact aB; exact oZ; exact rfl; exact rfl)
       repeat (refine aK ?_)
       (apply iC; exact aAL (by decide); exact rfl; exact aB; exact oZ; exact rfl; exact rfl)
       repeat (refine aK ?_)
       (apply bQ; exact aMP (by decide); exact rfl; exact aB; exact atY; exact rfl; exact rfl)
       repeat (refine aK ?_)
       (apply iC; exact aAL (by decide); exact rfl; exact aB; exact oZ; exact rfl; exact rfl)
       repeat (refine aK ?_)
       (apply bQ; exact aMP (by decide); exact rfl; exact aB; exact atY; exact rfl; exact rfl)
       repeat (refine aK ?_)
       (refine aA rfl (zV (k := kj) (m := kj) (by omega) hpj (hEi _ aB) (hEj _ aB)) rfl rfl ?_; rintro _ _ _ ⟨rfl, κ, rfl, hκ, rfl⟩; refine ⟨aYG aG aD aG aD, ?_⟩)
       repeat (refine aK ?_)
       rw [hlx, hlj]
       refine iQ (φ := dB (gt rows4 (i : Int)).es kj) (hRi _ aB) ?_
       refine iQ (φ := dB (gt rows4 (j : Int)).es kj) (hRj _ aB) ?_
       (refine aA rfl (zZ (kz := kj) (m := kj + kj) (h := kj) (fr := j) (n := n) (κ := κ) (M1 := .blk b6 (eR d3) 37 :: .blk bo (recs eM rows4) 39 :: ((kH rows4 i j).map fK ++ M1)) (by omega) (by omega) hlx hlj (by omega) aB aB aB rfl) rfl rfl ?_; rintro _ _ _ ⟨rfl, e5, hl5, hd5, rfl, rfl⟩; refine ⟨aYI (by decide) aG aD, ?_⟩)
       rw [show kj + (kj + kj + kj) + 1 = 4 * kj + 1 by omega]
       obtain ⟨rows5, hrows5⟩ : ∃ rows5, rows5 = rows4.set i ⟨(gt rows4 (i : Int)).b, e5⟩ := ⟨_, rfl⟩
       have hl5' : rows5.length = n := by rw [hrows5, List.length_set]; exact hl4
       have hh5 : recs eM rows4 = recs eM rows5 := by rw [hrows5]; exact (uB (by omega) (by rw [hlx, hl5])).symm
       have hr5 : kH rows4 i j = kH rows5 i j := by rw [hrows5, pW _ _ _ _ hij]
       have hg5i : gt rows5 (i : Int) = ⟨(gt rows4 (i : Int)).b, e5⟩ := by rw [hrows5, dM (by simpa using (show i < rows4.length by omega))]; simp
       have hg5o : ∀ t : Nat, t < n → t ≠ i → gt rows5 (t : Int) = gt rows4 (t : Int) := fun t ht hti => by
        rw [hrows5, dM (by simpa using (show t < rows4.length by omega)), List.getElem_set_ne (Ne.symm hti)]; exact (dM (by omega)).symm
       have hf5 := foc2 (rows := rows5) (i := i) (j := j) (by omega) (by omega) hij (A := .blk b6 (eR d3) 37) (B := .blk bo (recs eM rows5) 39) (M1 := M1)
       rw [hg5i, hg5o j (by omega) (Ne.symm hij)] at hf5
       rw [hh5, hr5]
       refine xP hf5.symm ?_
       refine iQ (φ := allM rows5 (4 * kj + 1)) (by rw [hrows5]; exact Hv.setM (k := 4 * kj + 1) (m := 4 * kj + 1) aB aB (by omega) (by omega)) ?_
       repeat (refine aK ?_)
       refine aJ (n - (i + 1)) _ _ _ (by first | omega | (simp only [List.length_append, List.length_cons, List.length_nil]; omega)) aP aG aD (⟨i + 1, rows5, by omega, by omega, rfl, hl5', fun t ht => ?_, fun t ht h => ?_, fun t h1 h2 => ?_, rfl, rfl, rfl⟩)
       ·by_cases hti : t = i
        ·subst hti; rw [hg5i]; exact hl5
        ·rw [hg5o t ht hti]; exact hC4 t ht
       ·rw [hg5o t ht (by omega)]; exact hrest t ht (by omega)
       ·by_cases hti : t = i
        ·subst hti
         rw [hg5i, hat, if_neg hx0, ← hgi]
         have e1 : rowAt (mq rows2) j = qs (gt rows4 (j : Int)).es := by rw [mO (by omega), hg4j]
         have e2 : at2 (mq rows2) j j = (gt (gt rows4 (j : Int)).es (j : Int)).q := by rw [hg4j]; exact hatj
         rw [e1, e2, ← hκ]
         exact aST hl5 hlx hlj hd5
        ·rw [hg5o t (by omega) hti]; exact hdone t h1 (by omega)
     ·obtain rfl : i = n := by omega
      have hmq4 : mq rows4 = uC (mq rows1) j x := by
       unfold uC
       rw [← hmq2]
       exact aSH hl4 hl2 (fun t ht h => hrest t ht (.inl h)) (fun t ht h => hdone t h ht)
      repeat (refine aK ?_)
      refine gP (φ := dX d3 (kb k0 (j + 1))) (Hv.q (k := kj + kj) aB (by omega)) ?_
      refine gP (φ := allM rows4 (kb k0 (j + 1))) (Hv.monoM (k := 4 * kj + 1) aB (by omega)) ?_
      refine aJ (i - (j + 1)) _ _ _ (by first | omega | (simp only [List.length_append, List.length_cons, List.length_nil]; omega)) aP aG aD (⟨j + 1, rows4, d3, by omega, rfl, hl4, fun r hr => ?_, ?_, rfl, rfl, rfl⟩)
      ·obtain ⟨t, ht, rfl⟩ := List.mem_iff_getElem.1 hr
       have := hC4 t (by omega)
       rwa [dM ht] at this
      ·rw [hD, hd3, ← hatj, hpe, hd2, aTU hdim hjn hjx hxn2 hxne, hmq4]; grind
  ·obtain rfl : x = n := by omega
   repeat (refine aK ?_)
   (refine aA rfl (hW 0 (by decide) _ _) rfl rfl ?_; rintro _ _ _ ⟨rfl, e1, rfl, he1, rfl⟩; refine ⟨okF, ?_⟩)
   rw [hM1]
   refine RD_w (M' := .blk b2 zRm 37 :: M0) (I' := dX e1 0 :: I0) (SubP.drop (SubP.drop (tJ SubP.refl))) aD ?_
   repeat (refine aK ?_)
   refine gP (φ := dX e1 (kb k0 x)) (Hv.q (k := 0) aB (Nat.zero_le _)) ?_
   refine kU (rs := [.cell 2 37, .tmp 3]) (vs := [rv e1, .int .i64 0]) (.inl rfl) rfl (.cellN (cs := eR e1) inferInstance rfl aB rfl (.tmp rfl .nil)) rfl M0 (dX e1 (kb k0 x) :: I0) aG aD ⟨rfl, e1, rfl, ?_, rfl⟩
   rw [hD, he1, aQO hjn (fun i h1 h2 => hz i h1 h2)]; grind
 ·obtain rfl : j = n := by omega
  rw [hM1]
  refine qW (M' := .blk b6 (eR d) 37 :: .blk b2 zRm 37 :: M0) (I' := dX d (kb k0 j) :: I0) (SubP.cons .here (SubP.drop (tJ SubP.refl))) aD ?_
  repeat (refine aK ?_)
  refine kU (rs := [.cell 2 37, .tmp 3]) (vs := [rv d, .int .i64 0]) (.inl rfl) rfl (.cellN (cs := eR d) inferInstance rfl aB rfl (.tmp rfl .nil)) rfl M0 (dX d (kb k0 j) :: I0) aG aD ⟨rfl, d, rfl, ?_, rfl⟩
  rw [hD, Nat.sub_self]
  show d.q = d.q * 1
  grind
end
end Go.Proofs.YtkccjglmnhgabaaGreat

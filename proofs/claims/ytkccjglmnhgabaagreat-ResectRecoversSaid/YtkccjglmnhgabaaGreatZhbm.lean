/- Drawn regions that read a block's fields ahead of their stores: trees of orders in two stages; a cut within a block's code. -/
import Derived.Test.YtkccjglmnhgabaaGreatZhbf
set_option linter.unusedSimpArgs false
set_option linter.unusedVariables false
set_option maxRecDepth 100000
set_option maxHeartbeats 4000000
namespace Go.Proofs.YtkccjglmnhgabaaGreat
open Go Go.Fx
theorem mH {P : Program} {ops : Array Oper} {Q : Exit → Act → World → Prop} {Cs Cs' : Nat → World → Prop} : ∀ (l : List Oper) (k : Nat) (ms : List Nat) (a : Act) (w : World),
  (∀ s w', l.any (fun o => fA o.op) = true → k ≤ s → Cs s w' → Cs' s w') → (∀ s w', k < s → s ≤ k + l.countP (fun o => !fA o.op) → Cs' s w' → Cs s w') →
  wpM P ops Q (.any Cs' k ms) l a w → wpM P ops Q (.any Cs k ms) l a w
 | [], _, _, _, _, _, _, h => h
 | o :: r, k, ms, a, w, hC, hK, h => by
  cases hf : fA o.op with
  | true =>
   have hC' : ∀ s w', k ≤ s → Cs s w' → Cs' s w' := fun s w' h1 => hC s w' (by simp [hf]) h1
   have hKr : ∀ s w', k < s → s ≤ k + r.countP (fun o => !fA o.op) → Cs' s w' → Cs s w' := fun s w' h1 h2 => hK s w' h1 (by rw [List.countP_cons]; omega)
   refine ⟨fun hw => (h.1 hw).imp (fun ⟨h1, v, h2, h3⟩ => ⟨h1, v, fun w' hc => h2 w' (hC' _ w' (Nat.le_add_right _ _) hc), mH r k ms.tail _ w (fun s w' _ h2 => hC' s w' h2) hKr h3⟩) (fun ⟨h1, _⟩ => absurd h1 (by simp [hf])), fun hw => ?_⟩
   have := h.2 hw
   simp only [Mode.held, Mode.skip, hf, cond_true] at this ⊢
   exact ⟨trivial, mH r k ms.tail _ w (fun s w' _ h2 => hC' s w' h2) hKr this.2⟩
  | false =>
   have hCr : ∀ s w', r.any (fun o => fA o.op) = true → k + 1 ≤ s → Cs s w' → Cs' s w' := fun s w' h0 h1 => hC s w' (by rw [List.any_cons, h0, Bool.or_true]) (by omega)
   have hct : (o :: r).countP (fun o => !fA o.op) = r.countP (fun o => !fA o.op) + 1 := by rw [List.countP_cons]; simp [hf]
   have hKr : ∀ s w', k + 1 < s → s ≤ k + 1 + r.countP (fun o => !fA o.op) → Cs' s w' → Cs s w' := fun s w' h1 h2 => hK s w' (by omega) (by omega)
   have hK1 : ∀ w', Cs' (k + 1) w' → Cs (k + 1) w' := fun w' => hK (k + 1) w' (by omega) (by omega)
   refine ⟨fun hw => (h.1 hw).imp (fun ⟨h1, _⟩ => absurd h1 (by simp [hf])) (fun ⟨h1, h2⟩ => ⟨h1, Oper.wp_mono (fun a w' ⟨x, y⟩ => ⟨hK1 w' x, mH r (k + 1) ms.tail _ _ hCr hKr y⟩) h2⟩), fun hw => ?_⟩
   have := h.2 hw
   simp only [Mode.held, Mode.skip, hf, cond_false] at this ⊢
   exact ⟨hK1 w this.1, mH r (k + 1) ms.tail _ w hCr hKr this.2⟩
theorem aCZ {l : List Oper} (h : l.all (fun o => fA o.op) = true) : l.countP (fun o => !fA o.op) = 0 := by
 rw [List.countP_eq_zero]
 intro o ho
 have := List.all_eq_true.1 h o ho
 simp [this]
theorem aFT {l : List Oper} (h : l.all (fun o => !fA o.op) = true) : l.any (fun o => fA o.op) = false := by
 rw [List.any_eq_false]
 intro o ho
 have := List.all_eq_true.1 h o ho
 intro hh
 simp [hh] at this
def CsT (K : Nat) (X : List Nat) (w0 : World) (M1 M2 : List Ent) (I1 : List aZ) : Nat → World → Prop := fun s w => Mem X w0 M2 I1 w ∧ (s ≤ K → Mem X w0 M1 I1 w)
section
variable {P : Program} {n : Nat} {Q : Exit → Act → World → Prop} {G : Env} {X : List Nat} {w0 : World} {M M1 M2 : List Ent} {I I1 : List aZ} {l : List Oper} {K : Nat}
theorem CsT.up : ∀ s w, CsT K X w0 M1 M2 I1 s w → CsT K X w0 M1 M2 I1 (s + 1) w := fun _ _ h => ⟨h.1, fun hs => h.2 (by omega)⟩
theorem aKP {id : Nat} (K : Nat) (M1 M2 : List Ent) (I1 : List aZ) (hx : P.follows .mixedOrders = true) (h : ND n (Go.Fx.Rest P l Q (CsT K X w0 M1 M2 I1) l.length 0 (Array.replicate l.length false)) .normal G X w0 M I) : TD P n (.region id l.toArray true) Q G X w0 M I :=
 ⟨fun w hw => aKZ (CsT K X w0 M1 M2 I1) hx (h.go w.drew hw.drew)⟩
theorem aGD {fuel fuel' k k1 : Nat} {listed listed' : Array Bool} (p ms : List Nat) (hc : k + vY l.toArray p = k1) (hp : (pick l p).all (fun o => fA o.op) = true) (hM : SubP M M1) (hM2 : SubP M M2) (hI : Inc I I1) (hs : Region.noSelect l.toArray = true) (hok : lJ l.toArray p ms listed = some listed') (hf : fuel' = fuel + p.length) (hsz : listed.size = l.toArray.size) (hk : Nat.ble k K = true)
  (h : RD P n l (Go.Fx.Rest P l Q (CsT K X w0 M1 M2 I1) fuel k1 listed') (.any (CsJ K X w0 M1 I1) k ms) (pick l p) G X w0 M I) : ND n (Go.Fx.Rest P l Q (CsT K X w0 M1 M2 I1) fuel' k listed) .normal G X w0 M I := by
 subst hc
 exact ⟨fun w hw => sQ p ms CsT.up hs hok hf hsz ⟨hw.weak hM2 hI, fun _ => hw.weak hM hI⟩ ⟨fun a ha => mH _ _ _ _ _ (fun s w' _ _ hc hs => hc.2 hs) (fun s w' h1 h2 _ => by rw [aCZ hp] at h2; omega) ((h.go w hw).go a ha)⟩⟩
theorem uU {fuel fuel' k k1 : Nat} {listed listed' : Array Bool} (p ms : List Nat) (hc : k + vY l.toArray p = k1) (hp : (pick l p).all (fun o => fA o.op) = true) (hM : SubP M M1) (hM2 : SubP M M2) (hI : Inc I I1) (hs : Region.noSelect l.toArray = true) (hok : lJ l.toArray p ms listed = some listed') (hf : fuel' = fuel + p.length) (hsz : listed.size = l.toArray.size) (hk : Nat.ble k K = true)
  (h : RD P n l (Go.Fx.Rest P l Q (CsT K X w0 M1 M2 I1) fuel k1 listed') (.any (uI X w0 M2 I1) k ms) (pick l p) G X w0 M I) : ND n (Go.Fx.Rest P l Q (CsT K X w0 M1 M2 I1) fuel' k listed) .normal G X w0 M I := by
 subst hc
 exact ⟨fun w hw => sQ p ms CsT.up hs hok hf hsz ⟨hw.weak hM2 hI, fun _ => hw.weak hM hI⟩ ⟨fun a ha => mH _ _ _ _ _ (fun s w' _ _ hc => hc.1) (fun s w' h1 h2 _ => by rw [aCZ hp] at h2; omega) ((h.go w hw).go a ha)⟩⟩
theorem CsT.of (h12 : SubP M1 M2) {s : Nat} {w : World} (h : Mem X w0 M1 I1 w) : CsT K X w0 M1 M2 I1 s w := ⟨h.weak h12 Inc.refl, fun _ => h⟩
theorem uY {fuel fuel' k k1 : Nat} {listed listed' : Array Bool} (p ms : List Nat) (hc : k + vY l.toArray p = k1) (hp : (pick l p).all (fun o => !fA o.op) = true) (hM : SubP M M1) (h12 : SubP M1 M2) (hI : Inc I I1) (hs : Region.noSelect l.toArray = true) (hok : lJ l.toArray p ms listed = some listed') (hf : fuel' = fuel + p.length) (hsz : listed.size = l.toArray.size) (hk : Nat.ble (k + (pick l p).length) K = true)
  (h : RD P n l (Go.Fx.Rest P l Q (CsT K X w0 M1 M2 I1) fuel k1 listed') (.any (uI X w0 M1 I1) k ms) (pick l p) G X w0 M I) : ND n (Go.Fx.Rest P l Q (CsT K X w0 M1 M2 I1) fuel' k listed) .normal G X w0 M I := by
 subst hc
 exact ⟨fun w hw => sQ p ms CsT.up hs hok hf hsz (CsT.of h12 (hw.weak hM hI)) ⟨fun a ha => mH _ _ _ _ _ (fun s w' h0 => by rw [aFT hp] at h0; cases h0) (fun s w' h1 h2 hm => CsT.of h12 hm) ((h.go w hw).go a ha)⟩⟩
theorem aBQ {fuel k : Nat} {listed : Array Bool} (p ms : List Nat) (hk : Nat.ble K k = true) (hM : SubP M M1) (hM2 : SubP M M2) (hI : Inc I I1) (hs : Region.noSelect l.toArray = true) (hok : iI l.toArray p ms listed = true) (hf : fuel = p.length) (hsz : listed.size = l.toArray.size)
  (h : RD P n l Q (.any (uI X w0 M2 I1) k ms) (pick l p) G X w0 M I) : ND n (Go.Fx.Rest P l Q (CsT K X w0 M1 M2 I1) fuel k listed) .normal G X w0 M I :=
 ⟨fun w hw => aAM p ms CsT.up hs hok hf hsz ⟨hw.weak hM2 hI, fun _ => hw.weak hM hI⟩ ⟨fun a ha => mH _ _ _ _ _ (fun s w' _ _ hc => hc.1) (fun s w' h1 h2 hm => ⟨hm, fun hs => by have := Nat.le_of_ble_eq_true hk; omega⟩) ((h.go w hw).go a ha)⟩⟩
theorem aON {k i k1 : Nat} {R' : Exit → Act → World → Prop} (he : (pick l [i]).all (fun o => !fA o.op) = true) (h12 : SubP M1 M2) {w : World} (h : R P n l R' (.any (uI X w0 M1 I1) k []) (pick l [i]) G w) : R P n l R' (.any (CsT K X w0 M1 M2 I1) k []) (pick l [i]) G w :=
 ⟨fun a ha => mH _ _ _ _ _ (fun s w' h0 => by rw [aFT he] at h0; cases h0) (fun s w' h1 h2 hm => CsT.of h12 hm) (h.go a ha)⟩
theorem aDA {fuel k k1 i j : Nat} {listed : Array Bool} (hk : k + 1 = k1) (hK : Nat.ble k1 K = true) (h12 : SubP M1 M2) (he : ((pick l [i]).all (fun o => !fA o.op) && (pick l [j]).all (fun o => !fA o.op)) = true) (hr : (Region.ready .any l.toArray listed == [i, j] && tY l.toArray i && tY l.toArray j) = true)
  (h1 : RD P n l (Go.Fx.Rest P l Q (CsT K X w0 M1 M2 I1) fuel k1 (listed.setIfInBounds i true)) (.any (uI X w0 M1 I1) k []) (pick l [i]) G X w0 M I)
  (h2 : RD P n l (Go.Fx.Rest P l Q (CsT K X w0 M1 M2 I1) fuel k1 (listed.setIfInBounds j true)) (.any (uI X w0 M1 I1) k []) (pick l [j]) G X w0 M I) : ND n (Go.Fx.Rest P l Q (CsT K X w0 M1 M2 I1) (fuel + 1) k listed) .normal G X w0 M I := by
 subst hk
 simp only [Bool.and_eq_true] at he
 exact ⟨fun w hw => yB hr (aON (k1 := k) he.1 h12 (h1.go w hw)) (aON (k1 := k) he.2 h12 (h2.go w hw))⟩
end
section
variable {P : Program} {n : Nat} {Q Q' : Exit → Act → World → Prop} {G : Env} {X : List Nat} {w0 : World} {M : List Ent} {I : List aZ}
/- a cut from within a block -/
theorem aJL {id : Nat} {Q1 Q2 : Exit → Act → World → Prop} (h : ∀ e a w, Q1 e a w → Q2 e a w) : ∀ e a w, InB id Q1 e a w → InB id Q2 e a w
 | .normal, a, w, q => by unfold InB at q ⊢; exact h .normal a w q
 | .exit i, a, w, q => by
  unfold InB at q ⊢
  simp only [Exit.inBlock] at q ⊢
  by_cases e : i = id
  ·simp only [e, if_true] at q ⊢; exact h .normal a w q
  ·simp only [e, if_false] at q ⊢; exact h (.exit i) a w q
 | .ret, a, w, q => by unfold InB at q ⊢; exact h .ret a w q
 | .goto i, a, w, q => by unfold InB at q ⊢; exact h (.goto i) a w q
 | .panic c, a, w, q => by unfold InB at q ⊢; exact h (.panic c) a w q
 | .outgrown, a, w, q => by unfold InB at q ⊢; exact h .outgrown a w q
theorem aNG {x y : Code} {id : Nat} (J : Env → List Ent → List aZ → Prop) (h : TD P n x (InB id (Then (aKA n J X w0) Q)) G X w0 M I) (k : ∀ G' M' I', J G' M' I' → TD P n y Q' G' X w0 M' I') : TD P n x (InB id (Then (y.wp P Q') Q)) G X w0 M I :=
 ⟨fun w hw => ⟨fun a ha => Code.wp_mono (aJL (fun e a w q => by
  unfold Then at q ⊢
  cases e <;> first | exact q | (obtain ⟨G', ⟨M', I', hJ, hm⟩, hh⟩ := q; exact ((k G' M' I' hJ).go w hm).go a hh))) ((h.go w hw).go a ha)⟩⟩
end
end Go.Proofs.YtkccjglmnhgabaaGreat

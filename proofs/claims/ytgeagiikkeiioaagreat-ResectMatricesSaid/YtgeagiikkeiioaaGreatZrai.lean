/- integer: the numbers: made, Valid, groups, Sign, Neg, Mul -/
import Derived.Test.YtgeagiikkeiioaaGreatZrah
import Derived.Test.YtgeagiikkeiioaaGreatZrag
set_option linter.unusedSimpArgs false
set_option linter.unusedVariables false
set_option maxRecDepth 100000
set_option maxHeartbeats 4000000
namespace Go.Proofs.YtgeagiikkeiioaaGreat
open Go Go.Fx
def iv (q : Option Addr) (c : Nat) (z : Int) : Value := .agg #[.bool (B (z < 0)), .slice q (gr z.natAbs).length c]
abbrev pR (q : Option Addr) (n c : Nat) : Prop := (gr n).length ≤ c ∧ (Ok q ∨ ((gr n).length = 0 ∧ c = 0))
structure IsI (u : Value) (z : Int) (k : Nat) (X : List Nat) (w : World) : Prop where
 ex : ∃ q c, u = iv q c z ∧ pR q z.natAbs c ∧ z.natAbs ≤ 2 ^ k ∧ Sl X w q (aF eG (gr z.natAbs))
abbrev jF (u : Value) (z : Int) (k : Nat) : bM := IsI u z k
instance (u : Value) (z : Int) (k : Nat) : Fx.Good (IsI u z k) := ⟨fun X Y w w' h he hY => by
 obtain ⟨q, c, h1, h2, h3, h4⟩ := h.ex
 exact ⟨q, c, h1, h2, h3, Sl.carry h4 he hY⟩⟩
def sg (p : Prop) [Decidable p] (n : Nat) : Int := if p then -(n : Int) else n
theorem aNH (p : Prop) [Decidable p] (n : Nat) : (sg p n).natAbs = n := by unfold sg; split <;> omega
theorem pW (z : Int) : sg (z < 0) z.natAbs = z := by unfold sg; split <;> omega
theorem aMV (z : Int) : sg (¬ z < 0) z.natAbs = -z := by unfold sg; split <;> omega
theorem sg_lt {p : Prop} [Decidable p] {n : Nat} (h : n ≠ 0) : sg p n < 0 ↔ p := by unfold sg; split <;> simp_all <;> omega
section
variable {P : Program} {n : Nat} {Q : Exit → Act → World → Prop} {G : Env} {X : List Nat} {w0 : World} {M M' : List Ent} {I I' : List bM}
theorem eY {f : FuncId} {vs : List Value} {K : Value → List Ent → List bM → Prop} {u : Value} {z : Int} {k : Nat} (hu : jF u z k ∈ I)
  (h : ∀ q c, u = iv q c z → pR q z.natAbs c → z.natAbs ≤ 2 ^ k → CD P f vs X w0 M (bR q (aF eG (gr z.natAbs)) :: I) K) : CD P f vs X w0 M I K :=
 ⟨fun w hw => by
  obtain ⟨q, c, h1, h2, h3, h4⟩ := ((hw.imm _ hu).2).ex
  exact (h q c h1 h2 h3).go w (hw.add (φ := bR q _) ⟨h4⟩)⟩
theorem aCE {w : World} {q : Option Addr} {c : Nat} {z : Int} {k : Nat} (hw : Mem X w0 M I w) (hm : bR q (aF eG (gr z.natAbs)) ∈ I) (hc : pR q z.natAbs c) (hk : z.natAbs ≤ 2 ^ k) : Mem X w0 M (jF (iv q c z) z k :: I) w :=
 hw.add (φ := jF _ z k) ⟨q, c, rfl, hc, hk, hw.sl hm⟩
theorem aAZ {ex : Exit} {q : Option Addr} {c : Nat} {z : Int} {k : Nat} (hm : bR q (aF eG (gr z.natAbs)) ∈ I) (hc : pR q z.natAbs c) (hk : z.natAbs ≤ 2 ^ k) (h : ND n Q ex G X w0 M (jF (iv q c z) z k :: I)) : ND n Q ex G X w0 M I := zW (fun _ hw => aCE hw hm hc hk) h
theorem uK {ops l : List Oper} {m : Fx.Mode} {q : Option Addr} {c : Nat} {z : Int} {k : Nat} (hm : bR q (aF eG (gr z.natAbs)) ∈ I) (hc : pR q z.natAbs c) (hk : z.natAbs ≤ 2 ^ k) (h : RD P n ops Q m l G X w0 M (jF (iv q c z) z k :: I)) : RD P n ops Q m l G X w0 M I := vJ (fun _ hw => aCE hw hm hc hk) h
theorem bJ {ops l : List Oper} {m : Fx.Mode} {u : Value} {z : Int} {k : Nat} (hu : jF u z k ∈ I)
  (h : ∀ q c, u = iv q c z → pR q z.natAbs c → z.natAbs ≤ 2 ^ k → RD P n ops Q m l G X w0 M (bR q (aF eG (gr z.natAbs)) :: I)) : RD P n ops Q m l G X w0 M I :=
 ⟨fun w hw => by
  obtain ⟨q, c, h1, h2, h3, h4⟩ := ((hw.imm _ hu).2).ex
  exact (h q c h1 h2 h3).go w (hw.add (φ := bR q _) ⟨h4⟩)⟩
theorem IsI.mono {u : Value} {z : Int} {k m : Nat} {X : List Nat} {w : World} (h : IsI u z k X w) (hk : k ≤ m) : IsI u z m X w := by
 obtain ⟨q, c, h1, h2, h3, h4⟩ := h.ex
 exact ⟨q, c, h1, h2, Nat.le_trans h3 (Nat.pow_le_pow_right (by decide) hk), h4⟩
end
theorem iY {n k : Nat} (h : n ≤ 2 ^ k) (hk : k ≤ 1000000000000) : (gr n).length ≤ 40000000000 := by
 have := fO h
 omega
/- ---------- IndexFunc, ContainsFunc of []uint32 ---------- -/
section
variable {X : List Nat} {w0 : World} {M0 : List Ent} {I0 : List bM}
theorem aON {q : Option Addr} {a : List Int} {c : Nat} {g : FuncId} [FnOk Tryz.prog g] {fs cs : Array Value} (pr : Int → Prop) [DecidablePred pr] (hn : (a.length : Int) ≤ 9223372036854775807) (ha : bR q (aF eG a) ∈ I0)
  (hg : ∀ i : Nat, i < a.length → CD Tryz.prog g (fs.toList ++ [Value.int .u32 (gt a i)] ++ cs.toList) X w0 M0 I0 (fun v M I => M0 = M ∧ I0 = I ∧ v = .bool (B (pr (gt a i))))) :
  CD Tryz.prog 225 [.slice q a.length c, .func (.func g) fs cs] X w0 M0 I0 (fun v M I => M0 = M ∧ I0 = I ∧ ∃ r : Int, v = .int .i64 r ∧ ((∃ i : Nat, i < a.length ∧ r = i ∧ pr (gt a i) ∧ ∀ j : Nat, j < i → ¬ pr (gt a j)) ∨ (r = -1 ∧ ∀ j : Nat, j < a.length → ¬ pr (gt a j)))) := by
 refine gX Tryz.func225 rfl Tryz.ntmps225 rfl ?_
 repeat (refine lK ?_)
 refine bI [0, 1, 7] rfl (fun k G M I => ∃ i : Nat, i ≤ a.length ∧ k = a.length - i ∧ (∀ j : Nat, j < i → ¬ pr (gt a j)) ∧ G = [(8, .int .i64 i)] ∧ M = M0 ∧ I = I0) (a.length) _ _ _ aW fF fE (⟨0, by omega, rfl, fun j hj => by omega, rfl, rfl, rfl⟩) ?_
 rintro k G M I ⟨i, hi, rfl, hs, rfl, rfl, rfl⟩
 repeat' (first | refine lK ?_ | (refine aL ?_; first | refine aU rfl (fun h => ?_) (fun h => ?_) | refine aO rfl (fun h => ?_) (fun h => ?_)) | (refine aJ ?_; first | refine aS rfl rfl (fun h => ?_) (fun h => ?_) | (fail_if_success (refine aT rfl ?_); refine aQ rfl rfl (fun h => ?_) (fun h => ?_))))
 ·have hlt : i < a.length := by omega
  (refine aDT rfl rfl (hg i hlt) rfl rfl rfl ?_; rintro _ _ _ ⟨rfl, rfl, rfl⟩; refine ⟨nN, ?_⟩)
  repeat' (first | refine lK ?_ | (refine aL ?_; first | refine aU rfl (fun h => ?_) (fun h => ?_) | refine aO rfl (fun h => ?_) (fun h => ?_)) | (refine aJ ?_; first | refine aS rfl rfl (fun h => ?_) (fun h => ?_) | (fail_if_success (refine aT rfl ?_); refine aQ rfl rfl (fun h => ?_) (fun h => ?_))))
  ·refine aV (by first | exact .inl rfl | exact .inr rfl) rfl rfl _ _ fF fE (⟨rfl, rfl, _, rfl, .inl ⟨i, hlt, rfl, by assumption, hs⟩⟩)
  ·refine aX (a.length - (i + 1)) _ _ _ (by first | omega | (simp only [List.length_append, List.length_cons, List.length_nil]; omega)) aW fF fE (⟨i + 1, by omega, rfl, fun j hj => ?_, rfl, rfl, rfl⟩)
   by_cases e : j = i
   ·subst e; assumption
   ·exact hs j (by omega)
 ·refine aV (by first | exact .inl rfl | exact .inr rfl) rfl rfl _ _ fF fE (⟨rfl, rfl, _, rfl, .inr ⟨rfl, fun j hj => hs j (by omega)⟩⟩)
theorem aOU {q : Option Addr} {a : List Int} {c : Nat} {g : FuncId} [FnOk Tryz.prog g] {fs cs : Array Value} (pr : Int → Prop) [DecidablePred pr] (hn : (a.length : Int) ≤ 9223372036854775807) (ha : bR q (aF eG a) ∈ I0)
  (hg : ∀ i : Nat, i < a.length → CD Tryz.prog g (fs.toList ++ [Value.int .u32 (gt a i)] ++ cs.toList) X w0 M0 I0 (fun v M I => M0 = M ∧ I0 = I ∧ v = .bool (B (pr (gt a i))))) :
  CD Tryz.prog 203 [.slice q a.length c, .func (.func g) fs cs] X w0 M0 I0 (fun v M I => M0 = M ∧ I0 = I ∧ v = .bool (B (∃ x ∈ a, pr x))) := by
 refine gX Tryz.func203 rfl Tryz.ntmps203 rfl ?_
 repeat (refine lK ?_)
 (refine bD rfl (aON pr hn ha hg) rfl rfl ?_; rintro _ _ _ ⟨rfl, rfl, r, rfl, h⟩; refine ⟨nN, ?_⟩)
 repeat (refine lK ?_)
 refine aV (by first | exact .inl rfl | exact .inr rfl) rfl rfl _ _ fF fE (⟨rfl, rfl, congrArg Value.bool (gW ?_)⟩)
 rcases h with ⟨i, hi, rfl, hp, _⟩ | ⟨rfl, h⟩
 ·exact ⟨fun _ => ⟨gt a i, by rw [kP hi]; exact List.getElem_mem hi, hp⟩, fun _ => by omega⟩
 ·refine ⟨fun h => by omega, ?_⟩
  rintro ⟨x, hx, hp⟩
  obtain ⟨j, hj, rfl⟩ := List.mem_iff_getElem.1 hx
  exact absurd (by rw [kP hj]; exact hp) (h j hj)
end
/- ---------- Clone of []uint32 ---------- -/
section
variable {X : List Nat} {w0 : World} {M0 : List Ent} {I0 : List bM}
theorem xK {q : Option Addr} {a : List Int} {c : Nat} (hn : (a.length : Int) * 4 ≤ 140737488355328) (hok : Ok q ∨ (a.length = 0 ∧ c = 0)) (ha : bR q (aF eG a) ∈ I0) :
  CD Tryz.prog 175 [.slice q a.length c] X w0 M0 I0 (fun v M I => I0 = I ∧ ∃ q' c', v = .slice q' a.length c' ∧ M = .row q' a.length c' (aF eG a) 155 1 :: M0) := by
 refine gX Tryz.func175 rfl Tryz.ntmps175 rfl ?_
 repeat (refine lK ?_)
 refine aD rfl (fun _ => aFB rfl) rfl rfl ?_
 cases q with
 | some ad =>
  repeat (refine lK ?_)
  (refine dS (cs := aF eG []) ([]) rfl rfl (by intro v hv; repeat (first | exact absurd hv (List.not_mem_nil) | (rcases List.mem_cons.1 hv with rfl | hv; · rfl))) (by omega) rfl rfl rfl ?_; intro b1; refine ⟨nN, ?_⟩)
  repeat (refine lK ?_)
  refine kK (mm := 0) 1 nO rfl (by omega) ?_
  refine iL (xs := []) (ys := a) 0 rfl rfl rfl (Src.imm bC hok) (by decide) rfl (by simp; omega) (by simp; omega) rfl rfl ?_
  intro a2 c2
  refine ⟨nN, ?_⟩
  repeat (refine lK ?_)
  refine aV (by first | exact .inl rfl | exact .inr rfl) rfl rfl _ _ fF fE (⟨rfl, a2, c2, by simp, by simp⟩)
 | none =>
  obtain ⟨h0, rfl⟩ : a.length = 0 ∧ c = 0 := hok.resolve_left (fun h => by obtain ⟨b, o, e⟩ := h.cases; cases e)
  have hnil : a = [] := List.eq_nil_of_length_eq_zero h0
  subst hnil
  repeat (refine lK ?_)
  refine aPE 155 1 ?_
  refine aV (by first | exact .inl rfl | exact .inr rfl) rfl rfl _ _ fF fE (⟨rfl, none, 0, rfl, rfl⟩)
end
section
variable {X : List Nat} {w0 : World} {M0 : List Ent} {I0 : List bM}
theorem mE {p : Prop} [Decidable p] {q : Option Addr} {n c k : Nat} (hl : (gr n).length ≤ 100000000000) (hc : pR q n c) (hk : n ≤ 2 ^ k) (hq : bR q (aF eG (gr n)) ∈ I0) :
  CD Tryz.prog 172 [.bool (B p), .slice q (gr n).length c] X w0 M0 I0 (fun v M I => M0 = M ∧ I = jF v (sg p n) k :: I0) := by
 refine gX Tryz.func172 rfl Tryz.ntmps172 rfl ?_
 refine aP ?_
 refine aK ?_
 (refine aC rfl rfl ?_; intro b; refine ⟨nN, ?_⟩)
 repeat (refine lK ?_)
 (refine bD rfl (qA (l := gr n) rfl (by omega) hc.1 hq) rfl rfl ?_; rintro _ _ _ ⟨rfl, rfl, rfl⟩; refine ⟨nN, ?_⟩)
 rw [aAK (aAF n)]
 by_cases h0 : (gr n).length = 0
 ·have hn : n = 0 := nY.1 (List.eq_nil_of_length_eq_zero h0)
  subst hn
  repeat (refine lK ?_)
  (refine aD rfl (fun _ => dY (pvs := ([]).zipIdx.map (fun p => (p.2, p.1))) (cells := [.bool false, .slice none 0 0]) rfl rfl) rfl rfl ?_)
  repeat (refine lK ?_)
  have hz : sg p 0 = 0 := by unfold sg; split <;> rfl
  rw [hz]
  have hg0 : gr (0 : Int).natAbs = [] := jB
  refine aDA none ?_
  refine aAZ (q := none) (c := 0) (z := 0) (k := k) (by rw [hg0]; exact bC) ⟨by rw [hg0]; simp, .inr ⟨by rw [hg0]; rfl, rfl⟩⟩ (by simp) ?_
  have hiv : iv none 0 0 = .agg #[.bool false, .slice none 0 0] := by unfold iv; rw [hg0, bE (by omega)]; rfl
  rw [hiv]
  refine cB (cs := [.bool false, .slice none 0 0]) (.inl rfl) rfl rfl bC rfl _ _ fF fE ⟨rfl, rfl⟩
 ·have hn : n ≠ 0 := fun e => h0 (by rw [e, jB]; rfl)
  repeat (refine lK ?_)
  (refine aD rfl (fun _ => dY (pvs := ([.bool (B p), .slice q (gr n).length c]).zipIdx.map (fun p => (p.2, p.1))) (cells := [.bool (B p), .slice q (gr n).length c]) rfl rfl) rfl rfl ?_)
  repeat (refine lK ?_)
  have ha := aNH p n
  refine aAZ (q := q) (c := c) (z := sg p n) (k := k) (by rw [ha]; exact bC) (by rw [ha]; exact hc) (by rw [ha]; exact hk) ?_
  have hiv : iv q c (sg p n) = .agg #[.bool (B p), .slice q (gr n).length c] := by unfold iv; rw [ha, gW (sg_lt hn)]
  rw [hiv]
  refine cB (cs := [.bool (B p), .slice q (gr n).length c]) (.inl rfl) rfl rfl bC rfl _ _ fF fE ⟨rfl, rfl⟩
theorem aOM {x : Int} : CD Tryz.prog 204 [.int .u32 x] X w0 M0 I0 (fun v M I => M0 = M ∧ I0 = I ∧ v = .bool (B (1000000000 ≤ x))) := by
 refine gX Tryz.func204 rfl Tryz.ntmps204 rfl ?_
 repeat (refine lK ?_)
 refine aV (by first | exact .inl rfl | exact .inr rfl) rfl rfl _ _ fF fE (⟨rfl, rfl, rfl⟩)
def qH (neg : Bool) (gs : List Int) : Prop := (gs = [] ∧ neg = false) ∨ (gs ≠ [] ∧ Top gs ∧ ¬ ∃ x ∈ gs, 1000000000 ≤ x)
instance (neg : Bool) (gs : List Int) : Decidable (qH neg gs) := by unfold qH; exact inferInstance
theorem yO {gs : List Int} (h : 0 < gs.length) : gs.getLastD 1 = gt gs ((gs.length : Int) - 1) := by
 rcases List.eq_nil_or_concat gs with rfl | ⟨r, x, e⟩
 ·simp at h
 ·rw [List.concat_eq_append] at e
  subst e
  have e1 : (((r ++ [x]).length : Int) - 1) = ((r.length : Nat) : Int) := by simp
  rw [e1, uP]
  simp
theorem sU {neg : Bool} {q : Option Addr} {gs : List Int} {c : Nat} (hn : (gs.length : Int) ≤ 9223372036854775807) (hq : bR q (aF eG gs) ∈ I0) :
  CD Tryz.prog 170 [.agg #[.bool neg, .slice q gs.length c]] X w0 M0 I0 (fun v M I => M0 = M ∧ I0 = I ∧ v = .bool (B (qH neg gs))) := by
 refine gX Tryz.func170 rfl Tryz.ntmps170 rfl ?_
 refine aP ?_
 refine aK ?_
 (refine nC rfl rfl rfl ?_; intro b; refine ⟨nN, ?_⟩)
 by_cases h0 : gs.length = 0
 ·have hg : gs = [] := List.eq_nil_of_length_eq_zero h0
  subst hg
  repeat (refine lK ?_)
  refine aV (by first | exact .inl rfl | exact .inr rfl) rfl rfl _ _ fF fE (⟨rfl, rfl, by rw [show (!neg) = B (qH neg []) by rw [qU]; cases neg <;> simp [qH]]⟩)
 ·have hgs : gs ≠ [] := fun e => h0 (by rw [e]; rfl)
  have hlast := yO (gs := gs) (by omega)
  repeat' (first | refine lK ?_ | (refine aL ?_; first | refine aU rfl (fun h => ?_) (fun h => ?_) | refine aO rfl (fun h => ?_) (fun h => ?_)) | (refine aJ ?_; first | refine aS rfl rfl (fun h => ?_) (fun h => ?_) | (fail_if_success (refine aT rfl ?_); refine aQ rfl rfl (fun h => ?_) (fun h => ?_))))
  ·(refine bD rfl (aOU (fun x => 1000000000 ≤ x) hn hq (fun i hi => aOM)) rfl rfl ?_; rintro _ _ _ ⟨rfl, rfl, rfl⟩; refine ⟨nN, ?_⟩)
   repeat (refine lK ?_)
   refine aV (by first | exact .inl rfl | exact .inr rfl) rfl rfl _ _ fF fE (⟨rfl, rfl, congrArg Value.bool (gW ?_)⟩)
   unfold qH Top
   rw [hlast]
   exact ⟨fun h => .inr ⟨hgs, by assumption, h⟩, fun h => h.elim (fun h => absurd h.1 hgs) (fun h => h.2.2)⟩
  ·refine aV (by first | exact .inl rfl | exact .inr rfl) rfl rfl _ _ fF fE (⟨rfl, rfl, congrArg Value.bool (bE ?_).symm⟩)
   unfold qH Top
   rw [hlast]
   rintro (h | h)
   ·exact hgs h.1
   ·exact absurd h.2.1 (by assumption)
theorem xN (z : Int) : qH (B (z < 0)) (gr z.natAbs) := by
 by_cases h : z.natAbs = 0
 ·refine .inl ⟨by rw [h, jB], bE (by omega)⟩
 ·refine .inr ⟨fun e => h (nY.1 e), aAF _, ?_⟩
  rintro ⟨x, hx, h1⟩
  have := eD z.natAbs x hx
  omega
theorem kG {q : Option Addr} {c k : Nat} {z : Int} (hz : z.natAbs ≤ 2 ^ k) (hk : k ≤ 1000000000000) (hq : bR q (aF eG (gr z.natAbs)) ∈ I0) :
  CD Tryz.prog 176 [iv q c z] X w0 M0 I0 (fun v M I => M0 = M ∧ I0 = I ∧ v = .slice q (gr z.natAbs).length c) := by
 have hl := iY hz hk
 unfold iv
 refine gX Tryz.func176 rfl Tryz.ntmps176 rfl ?_
 refine aP ?_
 refine aK ?_
 (refine nC rfl rfl rfl ?_; intro b; refine ⟨nN, ?_⟩)
 repeat (refine lK ?_)
 (refine bD rfl (sU (neg := B (z < 0)) (gs := gr z.natAbs) (by omega) hq) rfl rfl ?_; rintro _ _ _ ⟨rfl, rfl, rfl⟩; refine ⟨nN, ?_⟩)
 rw [dB (xN z)]
 repeat (refine lK ?_)
 refine aV (by first | exact .inl rfl | exact .inr rfl) rfl rfl _ _ fF fE (⟨rfl, rfl, rfl⟩)
theorem qC {u : Value} {z : Int} {k : Nat} (hk : k ≤ 1000000000000) (hu : jF u z k ∈ I0) : CD Tryz.prog 136 [u] X w0 M0 I0 (fun v M I => M0 = M ∧ I0 = I ∧ v = .int .i64 z.sign) := by
 refine eY hu (fun q c e hc hz => ?_)
 subst e
 unfold iv
 refine gX Tryz.func136 rfl Tryz.ntmps136 rfl ?_
 refine aP ?_
 refine aK ?_
 (refine nC rfl rfl rfl ?_; intro b; refine ⟨nN, ?_⟩)
 repeat (refine lK ?_)
 (refine bD rfl (kG (c := c) hz hk bC) rfl rfl ?_; rintro _ _ _ ⟨rfl, rfl, rfl⟩; refine ⟨nN, ?_⟩)
 have hnil : (gr z.natAbs).length = 0 ↔ z = 0 := by
  rw [List.length_eq_zero_iff, nY]; omega
 by_cases h0 : z = 0
 ·have := hnil.2 h0
  repeat (refine lK ?_)
  refine aV (by first | exact .inl rfl | exact .inr rfl) rfl rfl _ _ fF fE (⟨rfl, rfl, by rw [h0]; rfl⟩)
 ·have : ¬ (gr z.natAbs).length = 0 := fun h => h0 (hnil.1 h)
  repeat' (first | refine lK ?_ | (refine aL ?_; first | refine aU rfl (fun h => ?_) (fun h => ?_) | refine aO rfl (fun h => ?_) (fun h => ?_)) | (refine aJ ?_; first | refine aS rfl rfl (fun h => ?_) (fun h => ?_) | (fail_if_success (refine aT rfl ?_); refine aQ rfl rfl (fun h => ?_) (fun h => ?_))))
  ·refine aV (by first | exact .inl rfl | exact .inr rfl) rfl rfl _ _ fF fE (⟨rfl, rfl, by rw [Int.sign_eq_neg_one_of_neg (by assumption)]⟩)
  ·refine aV (by first | exact .inl rfl | exact .inr rfl) rfl rfl _ _ fF fE (⟨rfl, rfl, by rw [Int.sign_eq_one_of_pos (by omega)]⟩)
theorem aHC {u : Value} {z : Int} {k : Nat} (hk : k ≤ 1000000000000) (hu : jF u z k ∈ I0) : CD Tryz.prog 133 [u] X w0 M0 I0 (fun v M I => M0 = M ∧ I = jF v (-z) k :: I0) := by
 refine eY hu (fun q c e hc hz => ?_)
 subst e
 have hl := iY hz hk
 unfold iv
 refine gX Tryz.func133 rfl Tryz.ntmps133 rfl ?_
 refine aP ?_
 refine aK ?_
 (refine nC rfl rfl rfl ?_; intro b; refine ⟨nN, ?_⟩)
 (refine aC rfl rfl ?_; intro b2; refine ⟨nN, ?_⟩)
 repeat' (first | refine aK ?_ | refine iW ?_ | refine gN ?_ | refine fH ?_ | refine fC ?_ | refine gQ ?_ | refine gH ?_ | refine fG ?_ | refine fI ?_ | refine iT ?_ | refine iP ?_ | refine iV ?_ | refine iR rfl ?_ | refine aN ?_ | (refine aJ ?_; first | refine gF rfl rfl rfl ?_ | (refine fQ rfl rfl ?_; refine fB rfl rfl rfl nN ?_) | refine gI rfl rfl (by omega) ?_ | refine gG rfl rfl (by omega) ?_ | refine aS rfl rfl (fun h => ?_) (fun h => ?_) | (fail_if_success (refine aT rfl ?_); refine aQ rfl rfl (fun h => ?_) (fun h => ?_))) | (refine bP ?_; refine aD rfl (fun _ => dF rfl) rfl rfl ?_) | refine aD rfl (fun _ => bF rfl) rfl rfl ?_ | (refine fT ?_; first | refine aD rfl (fun _ => bT rfl rfl w_) rfl rfl ?_ | refine aD rfl (fun _ => bS rfl rfl w_) rfl rfl ?_ | refine aD rfl (fun _ => dW rfl rfl w_) rfl rfl ?_ | refine aD rfl (fun _ => dV rfl rfl (by omega) q_) rfl rfl ?_ | refine aD rfl (fun _ => dX rfl rfl (by omega) rfl) rfl rfl ?_ | refine aD rfl (fun _ => dJ rfl rfl) rfl rfl ?_ | refine aD rfl (fun _ => dG rfl rfl) rfl rfl ?_ | refine aD rfl (fun _ => dE rfl rfl) rfl rfl ?_) | (refine bP ?_; first | refine aD rfl (fun _ => dP rfl w_) rfl rfl ?_) | (refine gK ?_; first | refine aD rfl (fun _ => cZ rfl w_) rfl rfl ?_) | (refine fZ ?_; first | refine aD rfl (fun _ => bV rfl) rfl rfl ?_ | refine aD rfl (fun _ => dI rfl rfl) rfl rfl ?_ | refine aD rfl (fun _ => dH rfl rfl) rfl rfl ?_ | refine aD rfl (fun _ => dC rfl rfl rfl) rfl rfl ?_) | (refine fV ?_; first | refine fU rfl (by decide) rfl rfl ?_ | refine iB rfl (by decide) rfl rfl ?_) | (refine gJ ?_; first | refine iA rfl rfl fJ rfl rfl ?_ | refine iE rT rfl rfl fJ bC iI rfl rfl ?_ | refine iC rT rfl rfl fJ bC iI rfl rfl ?_ | refine aD rfl (fun _ => bO rfl rfl fJ) rfl rfl ?_) | (refine bQ ?_; first | refine iG rT rfl bC pU rfl rfl ?_ | refine iF rT rfl bC pU rfl rfl ?_ | refine iD rT rfl bC pU rfl rfl ?_ | refine fP rT rfl bC pU rfl rfl ?_ | refine mU rT rfl bC kL iU rfl rfl ?_ | refine mQ rT rfl bC kL iU rfl rfl ?_ | refine mP rT rfl bC kL iU rfl rfl ?_ | refine kZ rT rfl bC kL iU rfl rfl ?_) | (refine gD ?_; first | refine aD rfl (fun _ => bN rfl rfl) rfl rfl ?_ | refine aD rfl (fun _ => bH rfl) rfl rfl ?_) | (refine jO ?_; first | refine lJ rfl rfl rfl nO stC rfl rfl ⟨nN, ?_⟩ | refine iZ rfl rfl iU rU nO rV rfl rfl ⟨nN, ?_⟩) | (refine aL ?_; first | refine bX rfl ?_ | refine bL rfl ?_ | refine iQ rfl (by omega) ?_ | refine jY rfl (by omega) ?_ | refine aU rfl (fun h => ?_) (fun h => ?_) | refine aO rfl (fun h => ?_) (fun h => ?_)))
 (repeat refine aP ?_); refine dM 3 [0, 1, 2, 3, 4, 5, 6, 7] [3, 3, 2, 2, 0, 0, 0, 0] bW (by kernel_rfl) ?_
 repeat (refine lK ?_)
 (refine bD rfl (kG (c := c) hz hk bC) rfl rfl ?_; rintro _ _ _ ⟨rfl, rfl, rfl⟩; refine ⟨nN, ?_⟩)
 repeat (refine lK ?_)
 (refine bD rfl (xK (a := gr z.natAbs) (by omega) hc.2 bC) rfl rfl ?_; rintro _ _ _ ⟨rfl, q', c', rfl, rfl⟩; refine ⟨nN, ?_⟩)
 refine nA (fun w hw => And.intro (hw.rowLe (List.Mem.head _)) ((hw.rowS (List.Mem.head _)).2.imp id And.right)) (fun hc' => ?_)
 refine jG vO ?_
 repeat (refine lK ?_)
 rw [← aMV z]
 (refine bD rfl (mE (p := ¬ z < 0) (k := k) (by omega) hc' hz bC) rfl rfl ?_; rintro _ _ _ ⟨rfl, rfl⟩; refine ⟨nN, ?_⟩; refine bJ (List.Mem.head _) (fun q2 c2 e__ hc2 hz2 => ?_); subst e__)
 unfold iv
 repeat (refine lK ?_)
 refine cB (cs := [.bool (B (sg (¬ z < 0) z.natAbs < 0)), .slice q2 (gr (sg (¬ z < 0) z.natAbs).natAbs).length c2]) (.inl rfl) rfl rfl bC rfl _ _ fF fE ⟨rfl, rfl⟩
theorem vH {u v : Value} {y z : Int} {k m : Nat} (hk : k + m ≤ 1000000000000) (hu : jF u y k ∈ I0) (hv : jF v z m ∈ I0) : CD Tryz.prog 138 [u, v] X w0 M0 I0 (fun v M I => M0 = M ∧ I = jF v (y * z) (k + m) :: I0) := by
 refine eY hu (fun q c e hc hy => ?_)
 subst e
 refine eY (List.Mem.tail _ hv) (fun q' c' e hc' hz => ?_)
 subst e
 have hl := iY hy (by omega)
 have hl' := iY hz (by omega)
 unfold iv
 refine gX Tryz.func138 rfl Tryz.ntmps138 rfl ?_
 refine aP ?_
 refine aK ?_
 (refine nC rfl rfl rfl ?_; intro b; refine ⟨nN, ?_⟩)
 (refine nC rfl rfl rfl ?_; intro b2; refine ⟨nN, ?_⟩)
 (refine aC rfl rfl ?_; intro b3; refine ⟨nN, ?_⟩)
 repeat' (first | refine aK ?_ | refine iW ?_ | refine gN ?_ | refine fH ?_ | refine fC ?_ | refine gQ ?_ | refine gH ?_ | refine fG ?_ | refine fI ?_ | refine iT ?_ | refine iP ?_ | refine iV ?_ | refine iR rfl ?_ | refine aN ?_ | (refine aJ ?_; first | refine gF rfl rfl rfl ?_ | (refine fQ rfl rfl ?_; refine fB rfl rfl rfl nN ?_) | refine gI rfl rfl (by omega) ?_ | refine gG rfl rfl (by omega) ?_ | refine aS rfl rfl (fun h => ?_) (fun h => ?_) | (fail_if_success (refine aT rfl ?_); refine aQ rfl rfl (fun h => ?_) (fun h => ?_))) | (refine bP ?_; refine aD rfl (fun _ => dF rfl) rfl rfl ?_) | refine aD rfl (fun _ => bF rfl) rfl rfl ?_ | (refine fT ?_; first | refine aD rfl (fun _ => bT rfl rfl w_) rfl rfl ?_ | refine aD rfl (fun _ => bS rfl rfl w_) rfl rfl ?_ | refine aD rfl (fun _ => dW rfl rfl w_) rfl rfl ?_ | refine aD rfl (fun _ => dV rfl rfl (by omega) q_) rfl rfl ?_ | refine aD rfl (fun _ => dX rfl rfl (by omega) rfl) rfl rfl ?_ | refine aD rfl (fun _ => dJ rfl rfl) rfl rfl ?_ | refine aD rfl (fun _ => dG rfl rfl) rfl rfl ?_ | refine aD rfl (fun _ => dE rfl rfl) rfl rfl ?_) | (refine bP ?_; first | refine aD rfl (fun _ => dP rfl w_) rfl rfl ?_) | (refine gK ?_; first | refine aD rfl (fun _ => cZ rfl w_) rfl rfl ?_) | (refine fZ ?_; first | refine aD rfl (fun _ => bV rfl) rfl rfl ?_ | refine aD rfl (fun _ => dI rfl rfl) rfl rfl ?_ | refine aD rfl (fun _ => dH rfl rfl) rfl rfl ?_ | refine aD rfl (fun _ => dC rfl rfl rfl) rfl rfl ?_) | (refine fV ?_; first | refine fU rfl (by decide) rfl rfl ?_ | refine iB rfl (by decide) rfl rfl ?_) | (refine gJ ?_; first | refine iA rfl rfl fJ rfl rfl ?_ | refine iE rT rfl rfl fJ bC iI rfl rfl ?_ | refine iC rT rfl rfl fJ bC iI rfl rfl ?_ | refine aD rfl (fun _ => bO rfl rfl fJ) rfl rfl ?_) | (refine bQ ?_; first | refine iG rT rfl bC pU rfl rfl ?_ | refine iF rT rfl bC pU rfl rfl ?_ | refine iD rT rfl bC pU rfl rfl ?_ | refine fP rT rfl bC pU rfl rfl ?_ | refine mU rT rfl bC kL iU rfl rfl ?_ | refine mQ rT rfl bC kL iU rfl rfl ?_ | refine mP rT rfl bC kL iU rfl rfl ?_ | refine kZ rT rfl bC kL iU rfl rfl ?_) | (refine gD ?_; first | refine aD rfl (fun _ => bN rfl rfl) rfl rfl ?_ | refine aD rfl (fun _ => bH rfl) rfl rfl ?_) | (refine jO ?_; first | refine lJ rfl rfl rfl nO stC rfl rfl ⟨nN, ?_⟩ | refine iZ rfl rfl iU rU nO rV rfl rfl ⟨nN, ?_⟩) | (refine aL ?_; first | refine bX rfl ?_ | refine bL rfl ?_ | refine iQ rfl (by omega) ?_ | refine jY rfl (by omega) ?_ | refine aU rfl (fun h => ?_) (fun h => ?_) | refine aO rfl (fun h => ?_) (fun h => ?_)))
 (repeat refine aP ?_); refine dM 4 [0, 1, 2, 3, 4, 5, 7, 6, 8, 9, 10, 11] [4, 4, 4, 4, 3, 3, 3, 0, 0, 0, 0, 0] bW (by kernel_rfl) ?_
 repeat (refine lK ?_)
 (refine bD rfl (kG (c := c) hy (by omega) bC) rfl rfl ?_; rintro _ _ _ ⟨rfl, rfl, rfl⟩; refine ⟨nN, ?_⟩)
 repeat (refine lK ?_)
 (refine bD rfl (kG (c := c') hz (by omega) bC) rfl rfl ?_; rintro _ _ _ ⟨rfl, rfl, rfl⟩; refine ⟨nN, ?_⟩)
 repeat (refine lK ?_)
 (refine bD rfl (aMA (by omega) (by omega) bC bC) rfl rfl ?_; rintro _ _ _ ⟨rfl, q3, c3, rfl, hc3, rfl⟩; refine ⟨nN, ?_⟩)
 have hyz : y.natAbs * z.natAbs ≤ 2 ^ (k + m) := xV hy hz
 have hl3 := iY hyz (by omega)
 have hsg : sg (¬ (y < 0 ↔ z < 0)) (y.natAbs * z.natAbs) = y * z := by
  unfold sg
  rw [Int.natCast_mul]
  by_cases h1 : y < 0 <;> by_cases h2 : z < 0 <;> simp only [h1, h2, not_true_eq_false, not_false_eq_true, iff_true, iff_false, if_true, if_false]
  ·rw [show (y.natAbs : Int) = -y by omega, show (z.natAbs : Int) = -z by omega, Int.neg_mul_neg]
  ·rw [show (y.natAbs : Int) = -y by omega, show (z.natAbs : Int) = z by omega, Int.neg_mul, Int.neg_neg]
  ·rw [show (y.natAbs : Int) = y by omega, show (z.natAbs : Int) = -z by omega, Int.mul_neg, Int.neg_neg]
  ·rw [show (y.natAbs : Int) = y by omega, show (z.natAbs : Int) = z by omega]
 rw [← hsg]
 (refine bD rfl (mE (p := ¬ (y < 0 ↔ z < 0)) (k := k + m) (by omega) hc3 hyz bC) rfl rfl ?_; rintro _ _ _ ⟨rfl, rfl⟩; refine ⟨nN, ?_⟩; refine bJ (List.Mem.head _) (fun q2 c2 e__ hc2 hz2 => ?_); subst e__)
 unfold iv
 repeat (refine lK ?_)
 refine cB (cs := [.bool (B (sg (¬ (y < 0 ↔ z < 0)) (y.natAbs * z.natAbs) < 0)), .slice q2 (gr (sg (¬ (y < 0 ↔ z < 0)) (y.natAbs * z.natAbs)).natAbs).length c2]) (.inl rfl) rfl rfl bC rfl _ _ fF fE ⟨rfl, rfl⟩
end
end Go.Proofs.YtgeagiikkeiioaaGreat

/- integer: the numbers: made, Valid, groups, Sign, Neg, Mul -/
import Derived.Test.YtgeagiikkeiioaaGreatZgah
import Derived.Test.YtgeagiikkeiioaaGreatZgag
set_option linter.unusedSimpArgs false
set_option linter.unusedVariables false
set_option maxRecDepth 100000
set_option maxHeartbeats 4000000
namespace Go.Proofs.YtgeagiikkeiioaaGreat
open Go Go.Fx
def iv (q : Option Addr) (c : Nat) (z : Int) : Value := .agg #[.bool (B (z < 0)), .slice q (gr z.natAbs).length c]
abbrev qG (q : Option Addr) (n c : Nat) : Prop := (gr n).length ≤ c ∧ (Ok q ∨ ((gr n).length = 0 ∧ c = 0))
structure IsI (u : Value) (z : Int) (k : Nat) (X : List Nat) (w : World) : Prop where
 ex : ∃ q c, u = iv q c z ∧ qG q z.natAbs c ∧ z.natAbs ≤ 2 ^ k ∧ Sl X w q (recs eG (gr z.natAbs))
abbrev iF (u : Value) (z : Int) (k : Nat) : bA := IsI u z k
instance (u : Value) (z : Int) (k : Nat) : Fx.Good (IsI u z k) := ⟨fun X Y w w' h he hY => by
 obtain ⟨q, c, h1, h2, h3, h4⟩ := h.ex
 exact ⟨q, c, h1, h2, h3, Sl.carry h4 he hY⟩⟩
def sg (p : Prop) [Decidable p] (n : Nat) : Int := if p then -(n : Int) else n
theorem aQT (p : Prop) [Decidable p] (n : Nat) : (sg p n).natAbs = n := by unfold sg; split <;> omega
theorem qI (z : Int) : sg (z < 0) z.natAbs = z := by unfold sg; split <;> omega
theorem aQU (z : Int) : sg (¬ z < 0) z.natAbs = -z := by unfold sg; split <;> omega
theorem sg_lt {p : Prop} [Decidable p] {n : Nat} (h : n ≠ 0) : sg p n < 0 ↔ p := by unfold sg; split <;> simp_all <;> omega
section
variable {P : Program} {n : Nat} {Q : Exit → Act → World → Prop} {G : Env} {X : List Nat} {w0 : World} {M M' : List Ent} {I I' : List bA}
theorem dC {f : FuncId} {vs : List Value} {K : Value → List Ent → List bA → Prop} {u : Value} {z : Int} {k : Nat} (hu : iF u z k ∈ I)
  (h : ∀ q c, u = iv q c z → qG q z.natAbs c → z.natAbs ≤ 2 ^ k → CD P f vs X w0 M (aT q (recs eG (gr z.natAbs)) :: I) K) : CD P f vs X w0 M I K :=
 ⟨fun w hw => by
  obtain ⟨q, c, h1, h2, h3, h4⟩ := ((hw.imm _ hu).2).ex
  exact (h q c h1 h2 h3).go w (hw.add (φ := aT q _) ⟨h4⟩)⟩
theorem aEY {w : World} {q : Option Addr} {c : Nat} {z : Int} {k : Nat} (hw : Mem X w0 M I w) (hm : aT q (recs eG (gr z.natAbs)) ∈ I) (hc : qG q z.natAbs c) (hk : z.natAbs ≤ 2 ^ k) : Mem X w0 M (iF (iv q c z) z k :: I) w :=
 hw.add (φ := iF _ z k) ⟨q, c, rfl, hc, hk, hw.sl hm⟩
theorem aDN {ex : Exit} {q : Option Addr} {c : Nat} {z : Int} {k : Nat} (hm : aT q (recs eG (gr z.natAbs)) ∈ I) (hc : qG q z.natAbs c) (hk : z.natAbs ≤ 2 ^ k) (h : ND n Q ex G X w0 M (iF (iv q c z) z k :: I)) : ND n Q ex G X w0 M I := yL (fun _ hw => aEY hw hm hc hk) h
theorem vB {ops l : List Oper} {m : Fx.Mode} {q : Option Addr} {c : Nat} {z : Int} {k : Nat} (hm : aT q (recs eG (gr z.natAbs)) ∈ I) (hc : qG q z.natAbs c) (hk : z.natAbs ≤ 2 ^ k) (h : RD P n ops Q m l G X w0 M (iF (iv q c z) z k :: I)) : RD P n ops Q m l G X w0 M I := gH (fun _ hw => aEY hw hm hc hk) h
theorem aZ {ops l : List Oper} {m : Fx.Mode} {u : Value} {z : Int} {k : Nat} (hu : iF u z k ∈ I)
  (h : ∀ q c, u = iv q c z → qG q z.natAbs c → z.natAbs ≤ 2 ^ k → RD P n ops Q m l G X w0 M (aT q (recs eG (gr z.natAbs)) :: I)) : RD P n ops Q m l G X w0 M I :=
 ⟨fun w hw => by
  obtain ⟨q, c, h1, h2, h3, h4⟩ := ((hw.imm _ hu).2).ex
  exact (h q c h1 h2 h3).go w (hw.add (φ := aT q _) ⟨h4⟩)⟩
theorem IsI.mono {u : Value} {z : Int} {k m : Nat} {X : List Nat} {w : World} (h : IsI u z k X w) (hk : k ≤ m) : IsI u z m X w := by
 obtain ⟨q, c, h1, h2, h3, h4⟩ := h.ex
 exact ⟨q, c, h1, h2, Nat.le_trans h3 (Nat.pow_le_pow_right (by decide) hk), h4⟩
end
theorem fV {n k : Nat} (h : n ≤ 2 ^ k) (hk : k ≤ 1000000000000) : (gr n).length ≤ 40000000000 := by
 have := eY h
 omega
/- ---------- IndexFunc, ContainsFunc of []uint32 ---------- -/
section
variable {X : List Nat} {w0 : World} {M0 : List Ent} {I0 : List bA}
theorem aTG {q : Option Addr} {a : List Int} {c : Nat} {g : FuncId} [FnOk Tryz.prog g] {fs cs : Array Value} (pr : Int → Prop) [DecidablePred pr] (hn : (a.length : Int) ≤ 9223372036854775807) (ha : aT q (recs eG a) ∈ I0)
  (hg : ∀ i : Nat, i < a.length → CD Tryz.prog g (fs.toList ++ [Value.int .u32 (gt a i)] ++ cs.toList) X w0 M0 I0 (fun v M I => M0 = M ∧ I0 = I ∧ v = .bool (B (pr (gt a i))))) :
  CD Tryz.prog 225 [.slice q a.length c, .func (.func g) fs cs] X w0 M0 I0 (fun v M I => M0 = M ∧ I0 = I ∧ ∃ r : Int, v = .int .i64 r ∧ ((∃ i : Nat, i < a.length ∧ r = i ∧ pr (gt a i) ∧ ∀ j : Nat, j < i → ¬ pr (gt a j)) ∨ (r = -1 ∧ ∀ j : Nat, j < a.length → ¬ pr (gt a j)))) := by
 refine fB Tryz.func225 rfl Tryz.ntmps225 rfl ?_
 repeat (refine kV ?_)
 refine aS [0, 1, 7] rfl (fun k G M I => ∃ i : Nat, i ≤ a.length ∧ k = a.length - i ∧ (∀ j : Nat, j < i → ¬ pr (gt a j)) ∧ G = [(8, .int .i64 i)] ∧ M = M0 ∧ I = I0) (a.length) _ _ _ aO dG dF (⟨0, by omega, rfl, fun j hj => by omega, rfl, rfl, rfl⟩) ?_
 rintro k G M I ⟨i, hi, rfl, hs, rfl, rfl, rfl⟩
 repeat' (first | refine kV ?_ | refine aQ rfl (fun h => ?_) (fun h => ?_) | refine aR rfl rfl (fun h => ?_) (fun h => ?_) | fail)
 ·have hlt : i < a.length := by omega
  (refine aHL rfl rfl (hg i hlt) rfl rfl rfl ?_; rintro _ _ _ ⟨rfl, rfl, rfl⟩; refine ⟨nL, ?_⟩)
  repeat' (first | refine kV ?_ | refine aQ rfl (fun h => ?_) (fun h => ?_) | refine aR rfl rfl (fun h => ?_) (fun h => ?_) | fail)
  ·refine aH (by first | exact .inl rfl | exact .inr rfl) rfl rfl _ _ dG dF (⟨rfl, rfl, _, rfl, .inl ⟨i, hlt, rfl, by assumption, hs⟩⟩)
  ·refine aM (a.length - (i + 1)) _ _ _ (by first | omega | (simp only [List.length_append, List.length_cons, List.length_nil]; omega)) aO dG dF (⟨i + 1, by omega, rfl, fun j hj => ?_, rfl, rfl, rfl⟩)
   by_cases e : j = i
   ·subst e; assumption
   ·exact hs j (by omega)
 ·refine aH (by first | exact .inl rfl | exact .inr rfl) rfl rfl _ _ dG dF (⟨rfl, rfl, _, rfl, .inr ⟨rfl, fun j hj => hs j (by omega)⟩⟩)
theorem aTE {q : Option Addr} {a : List Int} {c : Nat} {g : FuncId} [FnOk Tryz.prog g] {fs cs : Array Value} (pr : Int → Prop) [DecidablePred pr] (hn : (a.length : Int) ≤ 9223372036854775807) (ha : aT q (recs eG a) ∈ I0)
  (hg : ∀ i : Nat, i < a.length → CD Tryz.prog g (fs.toList ++ [Value.int .u32 (gt a i)] ++ cs.toList) X w0 M0 I0 (fun v M I => M0 = M ∧ I0 = I ∧ v = .bool (B (pr (gt a i))))) :
  CD Tryz.prog 203 [.slice q a.length c, .func (.func g) fs cs] X w0 M0 I0 (fun v M I => M0 = M ∧ I0 = I ∧ v = .bool (B (∃ x ∈ a, pr x))) := by
 refine fB Tryz.func203 rfl Tryz.ntmps203 rfl ?_
 repeat (refine kV ?_)
 (refine aW rfl (aTG pr hn ha hg) rfl rfl ?_; rintro _ _ _ ⟨rfl, rfl, r, rfl, h⟩; refine ⟨nL, ?_⟩)
 repeat (refine kV ?_)
 refine aH (by first | exact .inl rfl | exact .inr rfl) rfl rfl _ _ dG dF (⟨rfl, rfl, congrArg Value.bool (jU ?_)⟩)
 rcases h with ⟨i, hi, rfl, hp, _⟩ | ⟨rfl, h⟩
 ·exact ⟨fun _ => ⟨gt a i, by rw [jC hi]; exact List.getElem_mem hi, hp⟩, fun _ => by omega⟩
 ·refine ⟨fun h => by omega, ?_⟩
  rintro ⟨x, hx, hp⟩
  obtain ⟨j, hj, rfl⟩ := List.mem_iff_getElem.1 hx
  exact absurd (by rw [jC hj]; exact hp) (h j hj)
end
/- ---------- Clone of []uint32 ---------- -/
section
variable {X : List Nat} {w0 : World} {M0 : List Ent} {I0 : List bA}
theorem yR {q : Option Addr} {a : List Int} {c : Nat} (hn : (a.length : Int) * 4 ≤ 140737488355328) (hok : Ok q ∨ (a.length = 0 ∧ c = 0)) (ha : aT q (recs eG a) ∈ I0) :
  CD Tryz.prog 175 [.slice q a.length c] X w0 M0 I0 (fun v M I => I0 = I ∧ ∃ q' c', v = .slice q' a.length c' ∧ M = .row q' a.length c' (recs eG a) 155 1 :: M0) := by
 refine fB Tryz.func175 rfl Tryz.ntmps175 rfl ?_
 repeat (refine kV ?_)
 refine aG rfl (fun _ => aHM rfl) rfl rfl ?_
 cases q with
 | some ad =>
  repeat (refine kV ?_)
  (refine aL (cs := recs eG []) ([]) rfl rfl (by intro v hv; repeat (first | exact absurd hv (List.not_mem_nil) | (rcases List.mem_cons.1 hv with rfl | hv; · rfl))) (by omega) rfl rfl rfl ?_; intro b1; refine ⟨nL, ?_⟩)
  repeat (refine kV ?_)
  refine iJ (mm := 0) 1 nQ rfl (by omega) ?_
  refine aX (xs := []) (ys := a) 0 rfl rfl rfl (Src.imm aU hok) (by decide) rfl (by simp; omega) (by simp; omega) rfl rfl ?_
  intro a2 c2
  refine ⟨nL, ?_⟩
  repeat (refine kV ?_)
  refine aH (by first | exact .inl rfl | exact .inr rfl) rfl rfl _ _ dG dF (⟨rfl, a2, c2, by simp, by simp⟩)
 | none =>
  obtain ⟨h0, rfl⟩ : a.length = 0 ∧ c = 0 := hok.resolve_left (fun h => by obtain ⟨b, o, e⟩ := h.cases; cases e)
  have hnil : a = [] := List.eq_nil_of_length_eq_zero h0
  subst hnil
  repeat (refine kV ?_)
  refine aRA 155 1 ?_
  refine aH (by first | exact .inl rfl | exact .inr rfl) rfl rfl _ _ dG dF (⟨rfl, none, 0, rfl, rfl⟩)
end
section
variable {X : List Nat} {w0 : World} {M0 : List Ent} {I0 : List bA}
theorem lL {p : Prop} [Decidable p] {q : Option Addr} {n c k : Nat} (hl : (gr n).length ≤ 100000000000) (hc : qG q n c) (hk : n ≤ 2 ^ k) (hq : aT q (recs eG (gr n)) ∈ I0) :
  CD Tryz.prog 172 [.bool (B p), .slice q (gr n).length c] X w0 M0 I0 (fun v M I => M0 = M ∧ I = iF v (sg p n) k :: I0) := by
 refine fB Tryz.func172 rfl Tryz.ntmps172 rfl ?_
 refine aJ ?_
 refine aI ?_
 (refine aN rfl rfl ?_; intro b; refine ⟨nL, ?_⟩)
 repeat (refine kV ?_)
 (refine aW rfl (qL (l := gr n) rfl (by omega) hc.1 hq) rfl rfl ?_; rintro _ _ _ ⟨rfl, rfl, rfl⟩; refine ⟨nL, ?_⟩)
 rw [aBD (aBZ n)]
 by_cases h0 : (gr n).length = 0
 ·have hn : n = 0 := nP.1 (List.eq_nil_of_length_eq_zero h0)
  subst hn
  repeat (refine kV ?_)
  (refine aG rfl (fun _ => eD (pvs := ([]).zipIdx.map (fun p => (p.2, p.1))) (cells := [.bool false, .slice none 0 0]) rfl rfl) rfl rfl ?_)
  repeat (refine kV ?_)
  have hz : sg p 0 = 0 := by unfold sg; split <;> rfl
  rw [hz]
  have hg0 : gr (0 : Int).natAbs = [] := gG
  refine aEQ none ?_
  refine aDN (q := none) (c := 0) (z := 0) (k := k) (by rw [hg0]; exact aU) ⟨by rw [hg0]; simp, .inr ⟨by rw [hg0]; rfl, rfl⟩⟩ (by simp) ?_
  have hiv : iv none 0 0 = .agg #[.bool false, .slice none 0 0] := by unfold iv; rw [hg0, aY (by omega)]; rfl
  rw [hiv]
  refine bG (cs := [.bool false, .slice none 0 0]) (.inl rfl) rfl rfl aU rfl _ _ dG dF ⟨rfl, rfl⟩
 ·have hn : n ≠ 0 := fun e => h0 (by rw [e, gG]; rfl)
  repeat (refine kV ?_)
  (refine aG rfl (fun _ => eD (pvs := ([.bool (B p), .slice q (gr n).length c]).zipIdx.map (fun p => (p.2, p.1))) (cells := [.bool (B p), .slice q (gr n).length c]) rfl rfl) rfl rfl ?_)
  repeat (refine kV ?_)
  have ha := aQT p n
  refine aDN (q := q) (c := c) (z := sg p n) (k := k) (by rw [ha]; exact aU) (by rw [ha]; exact hc) (by rw [ha]; exact hk) ?_
  have hiv : iv q c (sg p n) = .agg #[.bool (B p), .slice q (gr n).length c] := by unfold iv; rw [ha, jU (sg_lt hn)]
  rw [hiv]
  refine bG (cs := [.bool (B p), .slice q (gr n).length c]) (.inl rfl) rfl rfl aU rfl _ _ dG dF ⟨rfl, rfl⟩
theorem aTC {x : Int} : CD Tryz.prog 204 [.int .u32 x] X w0 M0 I0 (fun v M I => M0 = M ∧ I0 = I ∧ v = .bool (B (1000000000 ≤ x))) := by
 refine fB Tryz.func204 rfl Tryz.ntmps204 rfl ?_
 repeat (refine kV ?_)
 refine aH (by first | exact .inl rfl | exact .inr rfl) rfl rfl _ _ dG dF (⟨rfl, rfl, rfl⟩)
def qQ (neg : Bool) (gs : List Int) : Prop := (gs = [] ∧ neg = false) ∨ (gs ≠ [] ∧ Top gs ∧ ¬ ∃ x ∈ gs, 1000000000 ≤ x)
instance (neg : Bool) (gs : List Int) : Decidable (qQ neg gs) := by unfold qQ; exact inferInstance
theorem zY {gs : List Int} (h : 0 < gs.length) : gs.getLastD 1 = gt gs ((gs.length : Int) - 1) := by
 rcases List.eq_nil_or_concat gs with rfl | ⟨r, x, e⟩
 ·simp at h
 ·rw [List.concat_eq_append] at e
  subst e
  have e1 : (((r ++ [x]).length : Int) - 1) = ((r.length : Nat) : Int) := by simp
  rw [e1, vF]
  simp
theorem uD {neg : Bool} {q : Option Addr} {gs : List Int} {c : Nat} (hn : (gs.length : Int) ≤ 9223372036854775807) (hq : aT q (recs eG gs) ∈ I0) :
  CD Tryz.prog 170 [.agg #[.bool neg, .slice q gs.length c]] X w0 M0 I0 (fun v M I => M0 = M ∧ I0 = I ∧ v = .bool (B (qQ neg gs))) := by
 refine fB Tryz.func170 rfl Tryz.ntmps170 rfl ?_
 refine aJ ?_
 refine aI ?_
 (refine mX rfl rfl rfl ?_; intro b; refine ⟨nL, ?_⟩)
 by_cases h0 : gs.length = 0
 ·have hg : gs = [] := List.eq_nil_of_length_eq_zero h0
  subst hg
  repeat (refine kV ?_)
  refine aH (by first | exact .inl rfl | exact .inr rfl) rfl rfl _ _ dG dF (⟨rfl, rfl, by rw [show (!neg) = B (qQ neg []) by rw [rP]; cases neg <;> simp [qQ]]⟩)
 ·have hgs : gs ≠ [] := fun e => h0 (by rw [e]; rfl)
  have hlast := zY (gs := gs) (by omega)
  repeat' (first | refine kV ?_ | refine aQ rfl (fun h => ?_) (fun h => ?_) | refine aR rfl rfl (fun h => ?_) (fun h => ?_) | fail)
  ·(refine aW rfl (aTE (fun x => 1000000000 ≤ x) hn hq (fun i hi => aTC)) rfl rfl ?_; rintro _ _ _ ⟨rfl, rfl, rfl⟩; refine ⟨nL, ?_⟩)
   repeat (refine kV ?_)
   refine aH (by first | exact .inl rfl | exact .inr rfl) rfl rfl _ _ dG dF (⟨rfl, rfl, congrArg Value.bool (jU ?_)⟩)
   unfold qQ Top
   rw [hlast]
   exact ⟨fun h => .inr ⟨hgs, by assumption, h⟩, fun h => h.elim (fun h => absurd h.1 hgs) (fun h => h.2.2)⟩
  ·refine aH (by first | exact .inl rfl | exact .inr rfl) rfl rfl _ _ dG dF (⟨rfl, rfl, congrArg Value.bool (aY ?_).symm⟩)
   unfold qQ Top
   rw [hlast]
   rintro (h | h)
   ·exact hgs h.1
   ·exact absurd h.2.1 (by assumption)
theorem xY (z : Int) : qQ (B (z < 0)) (gr z.natAbs) := by
 by_cases h : z.natAbs = 0
 ·refine .inl ⟨by rw [h, gG], aY (by omega)⟩
 ·refine .inr ⟨fun e => h (nP.1 e), aBZ _, ?_⟩
  rintro ⟨x, hx, h1⟩
  have := bT z.natAbs x hx
  omega
theorem jK {q : Option Addr} {c k : Nat} {z : Int} (hz : z.natAbs ≤ 2 ^ k) (hk : k ≤ 1000000000000) (hq : aT q (recs eG (gr z.natAbs)) ∈ I0) :
  CD Tryz.prog 176 [iv q c z] X w0 M0 I0 (fun v M I => M0 = M ∧ I0 = I ∧ v = .slice q (gr z.natAbs).length c) := by
 have hl := fV hz hk
 unfold iv
 refine fB Tryz.func176 rfl Tryz.ntmps176 rfl ?_
 refine aJ ?_
 refine aI ?_
 (refine mX rfl rfl rfl ?_; intro b; refine ⟨nL, ?_⟩)
 repeat (refine kV ?_)
 (refine aW rfl (uD (neg := B (z < 0)) (gs := gr z.natAbs) (by omega) hq) rfl rfl ?_; rintro _ _ _ ⟨rfl, rfl, rfl⟩; refine ⟨nL, ?_⟩)
 rw [bR (xY z)]
 repeat (refine kV ?_)
 refine aH (by first | exact .inl rfl | exact .inr rfl) rfl rfl _ _ dG dF (⟨rfl, rfl, rfl⟩)
theorem sG {u : Value} {z : Int} {k : Nat} (hk : k ≤ 1000000000000) (hu : iF u z k ∈ I0) : CD Tryz.prog 136 [u] X w0 M0 I0 (fun v M I => M0 = M ∧ I0 = I ∧ v = .int .i64 z.sign) := by
 refine dC hu (fun q c e hc hz => ?_)
 subst e
 unfold iv
 refine fB Tryz.func136 rfl Tryz.ntmps136 rfl ?_
 refine aJ ?_
 refine aI ?_
 (refine mX rfl rfl rfl ?_; intro b; refine ⟨nL, ?_⟩)
 repeat (refine kV ?_)
 (refine aW rfl (jK (c := c) hz hk aU) rfl rfl ?_; rintro _ _ _ ⟨rfl, rfl, rfl⟩; refine ⟨nL, ?_⟩)
 have hnil : (gr z.natAbs).length = 0 ↔ z = 0 := by
  rw [List.length_eq_zero_iff, nP]; omega
 by_cases h0 : z = 0
 ·have := hnil.2 h0
  repeat (refine kV ?_)
  refine aH (by first | exact .inl rfl | exact .inr rfl) rfl rfl _ _ dG dF (⟨rfl, rfl, by rw [h0]; rfl⟩)
 ·have : ¬ (gr z.natAbs).length = 0 := fun h => h0 (hnil.1 h)
  repeat' (first | refine kV ?_ | refine aQ rfl (fun h => ?_) (fun h => ?_) | refine aR rfl rfl (fun h => ?_) (fun h => ?_) | fail)
  ·refine aH (by first | exact .inl rfl | exact .inr rfl) rfl rfl _ _ dG dF (⟨rfl, rfl, by rw [Int.sign_eq_neg_one_of_neg (by assumption)]⟩)
  ·refine aH (by first | exact .inl rfl | exact .inr rfl) rfl rfl _ _ dG dF (⟨rfl, rfl, by rw [Int.sign_eq_one_of_pos (by omega)]⟩)
theorem aJF {u : Value} {z : Int} {k : Nat} (hk : k ≤ 1000000000000) (hu : iF u z k ∈ I0) : CD Tryz.prog 133 [u] X w0 M0 I0 (fun v M I => M0 = M ∧ I = iF v (-z) k :: I0) := by
 refine dC hu (fun q c e hc hz => ?_)
 subst e
 have hl := fV hz hk
 unfold iv
 refine fB Tryz.func133 rfl Tryz.ntmps133 rfl ?_
 refine aJ ?_
 refine aI ?_
 (refine mX rfl rfl rfl ?_; intro b; refine ⟨nL, ?_⟩)
 (refine aN rfl rfl ?_; intro b2; refine ⟨nL, ?_⟩)
 repeat' (first | refine aI ?_ | refine kE ?_ | refine iN ?_ | refine fQ ?_ | refine fI ?_ | refine iO ?_ | refine iI ?_ | refine fU ?_ | refine fO ?_ | refine jX ?_ | refine jV ?_ | refine kF ?_ | refine jZ rfl ?_ | refine bC ?_ | (refine gM ?_; first | refine gP rfl rfl rfl ?_ | (refine gK rfl rfl ?_; refine fD rfl rfl rfl nL ?_) | refine gL rfl rfl (by omega) ?_ | refine gU rfl rfl (by omega) ?_ | refine qR rfl rfl (fun h => ?_) (fun h => ?_) | (fail_if_success (refine uC rfl ?_); refine pE rfl rfl (fun h => ?_) (fun h => ?_))) | (refine cB ?_; refine aG rfl (fun _ => dM rfl) rfl rfl ?_) | refine aG rfl (fun _ => bH rfl) rfl rfl ?_ | (refine gZ ?_; first | refine aG rfl (fun _ => bO rfl rfl w_) rfl rfl ?_ | refine aG rfl (fun _ => bP rfl rfl w_) rfl rfl ?_ | refine aG rfl (fun _ => eU rfl rfl w_) rfl rfl ?_ | refine aG rfl (fun _ => eT rfl rfl (by omega) q_) rfl rfl ?_ | refine aG rfl (fun _ => eX rfl rfl (by omega) rfl) rfl rfl ?_ | refine aG rfl (fun _ => dV rfl rfl) rfl rfl ?_ | refine aG rfl (fun _ => dW rfl rfl) rfl rfl ?_ | refine aG rfl (fun _ => dX rfl rfl) rfl rfl ?_) | (refine cB ?_; first | refine aG rfl (fun _ => eF rfl w_) rfl rfl ?_) | (refine gW ?_; first | refine aG rfl (fun _ => dE rfl w_) rfl rfl ?_) | (refine gX ?_; first | refine aG rfl (fun _ => bN rfl) rfl rfl ?_ | refine aG rfl (fun _ => dK rfl rfl) rfl rfl ?_ | refine aG rfl (fun _ => dS rfl rfl) rfl rfl ?_ | refine aG rfl (fun _ => dL rfl rfl rfl) rfl rfl ?_) | (refine gT ?_; first | refine gV rfl (by decide) rfl rfl ?_ | refine jF rfl (by decide) rfl rfl ?_) | (refine gQ ?_; first | refine jJ rfl rfl fE rfl rfl ?_ | refine jI sD rfl rfl fE aU jL rfl rfl ?_ | refine jE sD rfl rfl fE aU jL rfl rfl ?_ | refine aG rfl (fun _ => bZ rfl rfl fE) rfl rfl ?_) | (refine bI ?_; first | refine jG sD rfl aU qH rfl rfl ?_ | refine jB sD rfl aU qH rfl rfl ?_ | refine jH sD rfl aU qH rfl rfl ?_ | refine gY sD rfl aU qH rfl rfl ?_ | refine mJ sD rfl aU jO fP rfl rfl ?_ | refine mH sD rfl aU jO fP rfl rfl ?_ | refine mG sD rfl aU jO fP rfl rfl ?_ | refine kL sD rfl aU jO fP rfl rfl ?_) | (refine gN ?_; first | refine aG rfl (fun _ => bY rfl rfl) rfl rfl ?_ | refine aG rfl (fun _ => bM rfl) rfl rfl ?_) | (refine jA ?_; first | refine lI rfl rfl rfl nQ stC rfl rfl ⟨nL, ?_⟩ | refine fH rfl rfl fP tF nQ sZ rfl rfl ⟨nL, ?_⟩) | (refine iM ?_; first | refine dB rfl ?_ | refine bV rfl ?_ | refine kD rfl (by omega) ?_ | refine mU rfl (by omega) ?_ | refine tZ rfl (fun h => ?_) (fun h => ?_) | refine pI rfl (fun h => ?_) (fun h => ?_)))
 (repeat refine aJ ?_); refine bK 3 [0, 1, 2, 3, 4, 5, 6, 7] [3, 3, 2, 2, 0, 0, 0, 0] mixed (by kernel_rfl) ?_
 repeat (refine kV ?_)
 (refine aW rfl (jK (c := c) hz hk aU) rfl rfl ?_; rintro _ _ _ ⟨rfl, rfl, rfl⟩; refine ⟨nL, ?_⟩)
 repeat (refine kV ?_)
 (refine aW rfl (yR (a := gr z.natAbs) (by omega) hc.2 aU) rfl rfl ?_; rintro _ _ _ ⟨rfl, q', c', rfl, rfl⟩; refine ⟨nL, ?_⟩)
 refine pF (fun w hw => And.intro (hw.rowLe (List.Mem.head _)) ((hw.rowS (List.Mem.head _)).2.imp id And.right)) (fun hc' => ?_)
 refine iE vM ?_
 repeat (refine kV ?_)
 rw [← aQU z]
 (refine aW rfl (lL (p := ¬ z < 0) (k := k) (by omega) hc' hz aU) rfl rfl ?_; rintro _ _ _ ⟨rfl, rfl⟩; refine ⟨nL, ?_⟩; refine aZ (List.Mem.head _) (fun q2 c2 e__ hc2 hz2 => ?_); subst e__)
 unfold iv
 repeat (refine kV ?_)
 refine bG (cs := [.bool (B (sg (¬ z < 0) z.natAbs < 0)), .slice q2 (gr (sg (¬ z < 0) z.natAbs).natAbs).length c2]) (.inl rfl) rfl rfl aU rfl _ _ dG dF ⟨rfl, rfl⟩
theorem sK {u v : Value} {y z : Int} {k m : Nat} (hk : k + m ≤ 1000000000000) (hu : iF u y k ∈ I0) (hv : iF v z m ∈ I0) : CD Tryz.prog 138 [u, v] X w0 M0 I0 (fun v M I => M0 = M ∧ I = iF v (y * z) (k + m) :: I0) := by
 refine dC hu (fun q c e hc hy => ?_)
 subst e
 refine dC (List.Mem.tail _ hv) (fun q' c' e hc' hz => ?_)
 subst e
 have hl := fV hy (by omega)
 have hl' := fV hz (by omega)
 unfold iv
 refine fB Tryz.func138 rfl Tryz.ntmps138 rfl ?_
 refine aJ ?_
 refine aI ?_
 (refine mX rfl rfl rfl ?_; intro b; refine ⟨nL, ?_⟩)
 (refine mX rfl rfl rfl ?_; intro b2; refine ⟨nL, ?_⟩)
 (refine aN rfl rfl ?_; intro b3; refine ⟨nL, ?_⟩)
 repeat' (first | refine aI ?_ | refine kE ?_ | refine iN ?_ | refine fQ ?_ | refine fI ?_ | refine iO ?_ | refine iI ?_ | refine fU ?_ | refine fO ?_ | refine jX ?_ | refine jV ?_ | refine kF ?_ | refine jZ rfl ?_ | refine bC ?_ | (refine gM ?_; first | refine gP rfl rfl rfl ?_ | (refine gK rfl rfl ?_; refine fD rfl rfl rfl nL ?_) | refine gL rfl rfl (by omega) ?_ | refine gU rfl rfl (by omega) ?_ | refine qR rfl rfl (fun h => ?_) (fun h => ?_) | (fail_if_success (refine uC rfl ?_); refine pE rfl rfl (fun h => ?_) (fun h => ?_))) | (refine cB ?_; refine aG rfl (fun _ => dM rfl) rfl rfl ?_) | refine aG rfl (fun _ => bH rfl) rfl rfl ?_ | (refine gZ ?_; first | refine aG rfl (fun _ => bO rfl rfl w_) rfl rfl ?_ | refine aG rfl (fun _ => bP rfl rfl w_) rfl rfl ?_ | refine aG rfl (fun _ => eU rfl rfl w_) rfl rfl ?_ | refine aG rfl (fun _ => eT rfl rfl (by omega) q_) rfl rfl ?_ | refine aG rfl (fun _ => eX rfl rfl (by omega) rfl) rfl rfl ?_ | refine aG rfl (fun _ => dV rfl rfl) rfl rfl ?_ | refine aG rfl (fun _ => dW rfl rfl) rfl rfl ?_ | refine aG rfl (fun _ => dX rfl rfl) rfl rfl ?_) | (refine cB ?_; first | refine aG rfl (fun _ => eF rfl w_) rfl rfl ?_) | (refine gW ?_; first | refine aG rfl (fun _ => dE rfl w_) rfl rfl ?_) | (refine gX ?_; first | refine aG rfl (fun _ => bN rfl) rfl rfl ?_ | refine aG rfl (fun _ => dK rfl rfl) rfl rfl ?_ | refine aG rfl (fun _ => dS rfl rfl) rfl rfl ?_ | refine aG rfl (fun _ => dL rfl rfl rfl) rfl rfl ?_) | (refine gT ?_; first | refine gV rfl (by decide) rfl rfl ?_ | refine jF rfl (by decide) rfl rfl ?_) | (refine gQ ?_; first | refine jJ rfl rfl fE rfl rfl ?_ | refine jI sD rfl rfl fE aU jL rfl rfl ?_ | refine jE sD rfl rfl fE aU jL rfl rfl ?_ | refine aG rfl (fun _ => bZ rfl rfl fE) rfl rfl ?_) | (refine bI ?_; first | refine jG sD rfl aU qH rfl rfl ?_ | refine jB sD rfl aU qH rfl rfl ?_ | refine jH sD rfl aU qH rfl rfl ?_ | refine gY sD rfl aU qH rfl rfl ?_ | refine mJ sD rfl aU jO fP rfl rfl ?_ | refine mH sD rfl aU jO fP rfl rfl ?_ | refine mG sD rfl aU jO fP rfl rfl ?_ | refine kL sD rfl aU jO fP rfl rfl ?_) | (refine gN ?_; first | refine aG rfl (fun _ => bY rfl rfl) rfl rfl ?_ | refine aG rfl (fun _ => bM rfl) rfl rfl ?_) | (refine jA ?_; first | refine lI rfl rfl rfl nQ stC rfl rfl ⟨nL, ?_⟩ | refine fH rfl rfl fP tF nQ sZ rfl rfl ⟨nL, ?_⟩) | (refine iM ?_; first | refine dB rfl ?_ | refine bV rfl ?_ | refine kD rfl (by omega) ?_ | refine mU rfl (by omega) ?_ | refine tZ rfl (fun h => ?_) (fun h => ?_) | refine pI rfl (fun h => ?_) (fun h => ?_)))
 (repeat refine aJ ?_); refine bK 4 [0, 1, 2, 3, 4, 5, 7, 6, 8, 9, 10, 11] [4, 4, 4, 4, 3, 3, 3, 0, 0, 0, 0, 0] mixed (by kernel_rfl) ?_
 repeat (refine kV ?_)
 (refine aW rfl (jK (c := c) hy (by omega) aU) rfl rfl ?_; rintro _ _ _ ⟨rfl, rfl, rfl⟩; refine ⟨nL, ?_⟩)
 repeat (refine kV ?_)
 (refine aW rfl (jK (c := c') hz (by omega) aU) rfl rfl ?_; rintro _ _ _ ⟨rfl, rfl, rfl⟩; refine ⟨nL, ?_⟩)
 repeat (refine kV ?_)
 (refine aW rfl (aPW (by omega) (by omega) aU aU) rfl rfl ?_; rintro _ _ _ ⟨rfl, q3, c3, rfl, hc3, rfl⟩; refine ⟨nL, ?_⟩)
 have hyz : y.natAbs * z.natAbs ≤ 2 ^ (k + m) := yX hy hz
 have hl3 := fV hyz (by omega)
 have hsg : sg (¬ (y < 0 ↔ z < 0)) (y.natAbs * z.natAbs) = y * z := by
  unfold sg
  rw [Int.natCast_mul]
  by_cases h1 : y < 0 <;> by_cases h2 : z < 0 <;> simp only [h1, h2, not_true_eq_false, not_false_eq_true, iff_true, iff_false, if_true, if_false]
  ·rw [show (y.natAbs : Int) = -y by omega, show (z.natAbs : Int) = -z by omega, Int.neg_mul_neg]
  ·rw [show (y.natAbs : Int) = -y by omega, show (z.natAbs : Int) = z by omega, Int.neg_mul, Int.neg_neg]
  ·rw [show (y.natAbs : Int) = y by omega, show (z.natAbs : Int) = -z by omega, Int.mul_neg, Int.neg_neg]
  ·rw [show (y.natAbs : Int) = y by omega, show (z.natAbs : Int) = z by omega]
 rw [← hsg]
 (refine aW rfl (lL (p := ¬ (y < 0 ↔ z < 0)) (k := k + m) (by omega) hc3 hyz aU) rfl rfl ?_; rintro _ _ _ ⟨rfl, rfl⟩; refine ⟨nL, ?_⟩; refine aZ (List.Mem.head _) (fun q2 c2 e__ hc2 hz2 => ?_); subst e__)
 unfold iv
 repeat (refine kV ?_)
 refine bG (cs := [.bool (B (sg (¬ (y < 0 ↔ z < 0)) (y.natAbs * z.natAbs) < 0)), .slice q2 (gr (sg (¬ (y < 0 ↔ z < 0)) (y.natAbs * z.natAbs)).natAbs).length c2]) (.inl rfl) rfl rfl aU rfl _ _ dG dF ⟨rfl, rfl⟩
end
end Go.Proofs.YtgeagiikkeiioaaGreat

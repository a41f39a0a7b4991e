/- integer: the numbers: made, Valid, groups, Sign, Neg, Mul -/
import Derived.Test.YtjbhdfpjnjedhaaGreatZnah
import Derived.Test.YtjbhdfpjnjedhaaGreatZnag
set_option linter.unusedSimpArgs false
set_option linter.unusedVariables false
set_option maxRecDepth 100000
set_option maxHeartbeats 4000000
namespace Go.Proofs.YtjbhdfpjnjedhaaGreat
open Go Go.Fx
def iv (q : Option Addr) (c : Nat) (z : Int) : Value := .agg #[.bool (B (z < 0)), .slice q (gr z.natAbs).length c]
abbrev pO (q : Option Addr) (n c : Nat) : Prop := (gr n).length ≤ c ∧ (Ok q ∨ ((gr n).length = 0 ∧ c = 0))
structure IsI (u : Value) (z : Int) (k : Nat) (X : List Nat) (w : World) : Prop where
 ex : ∃ q c, u = iv q c z ∧ pO q z.natAbs c ∧ z.natAbs ≤ 2 ^ k ∧ Sl X w q (recs eG (gr z.natAbs))
abbrev iF (u : Value) (z : Int) (k : Nat) : bA := IsI u z k
instance (u : Value) (z : Int) (k : Nat) : Fx.Good (IsI u z k) := ⟨fun X Y w w' h he hY => by
 obtain ⟨q, c, h1, h2, h3, h4⟩ := h.ex
 exact ⟨q, c, h1, h2, h3, Sl.carry h4 he hY⟩⟩
def sg (p : Prop) [Decidable p] (n : Nat) : Int := if p then -(n : Int) else n
theorem aQN (p : Prop) [Decidable p] (n : Nat) : (sg p n).natAbs = n := by unfold sg; split <;> omega
theorem pR (z : Int) : sg (z < 0) z.natAbs = z := by unfold sg; split <;> omega
theorem aNQ (z : Int) : sg (¬ z < 0) z.natAbs = -z := by unfold sg; split <;> omega
theorem sg_lt {p : Prop} [Decidable p] {n : Nat} (h : n ≠ 0) : sg p n < 0 ↔ p := by unfold sg; split <;> simp_all <;> omega
section
variable {P : Program} {n : Nat} {Q : Exit → Act → World → Prop} {G : Env} {X : List Nat} {w0 : World} {M M' : List Ent} {I I' : List bA}
theorem cZ {f : FuncId} {vs : List Value} {K : Value → List Ent → List bA → Prop} {u : Value} {z : Int} {k : Nat} (hu : iF u z k ∈ I)
  (h : ∀ q c, u = iv q c z → pO q z.natAbs c → z.natAbs ≤ 2 ^ k → CD P f vs X w0 M (aP q (recs eG (gr z.natAbs)) :: I) K) : CD P f vs X w0 M I K :=
 ⟨fun w hw => by
  obtain ⟨q, c, h1, h2, h3, h4⟩ := ((hw.imm _ hu).2).ex
  exact (h q c h1 h2 h3).go w (hw.add (φ := aP q _) ⟨h4⟩)⟩
theorem aDT {w : World} {q : Option Addr} {c : Nat} {z : Int} {k : Nat} (hw : Mem X w0 M I w) (hm : aP q (recs eG (gr z.natAbs)) ∈ I) (hc : pO q z.natAbs c) (hk : z.natAbs ≤ 2 ^ k) : Mem X w0 M (iF (iv q c z) z k :: I) w :=
 hw.add (φ := iF _ z k) ⟨q, c, rfl, hc, hk, hw.sl hm⟩
theorem aCR {ex : Exit} {q : Option Addr} {c : Nat} {z : Int} {k : Nat} (hm : aP q (recs eG (gr z.natAbs)) ∈ I) (hc : pO q z.natAbs c) (hk : z.natAbs ≤ 2 ^ k) (h : ND n Q ex G X w0 M (iF (iv q c z) z k :: I)) : ND n Q ex G X w0 M I := yM (fun _ hw => aDT hw hm hc hk) h
theorem uJ {ops l : List Oper} {m : Fx.Mode} {q : Option Addr} {c : Nat} {z : Int} {k : Nat} (hm : aP q (recs eG (gr z.natAbs)) ∈ I) (hc : pO q z.natAbs c) (hk : z.natAbs ≤ 2 ^ k) (h : RD P n ops Q m l G X w0 M (iF (iv q c z) z k :: I)) : RD P n ops Q m l G X w0 M I := tH (fun _ hw => aDT hw hm hc hk) h
theorem aW {ops l : List Oper} {m : Fx.Mode} {u : Value} {z : Int} {k : Nat} (hu : iF u z k ∈ I)
  (h : ∀ q c, u = iv q c z → pO q z.natAbs c → z.natAbs ≤ 2 ^ k → RD P n ops Q m l G X w0 M (aP q (recs eG (gr z.natAbs)) :: I)) : RD P n ops Q m l G X w0 M I :=
 ⟨fun w hw => by
  obtain ⟨q, c, h1, h2, h3, h4⟩ := ((hw.imm _ hu).2).ex
  exact (h q c h1 h2 h3).go w (hw.add (φ := aP q _) ⟨h4⟩)⟩
theorem IsI.mono {u : Value} {z : Int} {k m : Nat} {X : List Nat} {w : World} (h : IsI u z k X w) (hk : k ≤ m) : IsI u z m X w := by
 obtain ⟨q, c, h1, h2, h3, h4⟩ := h.ex
 exact ⟨q, c, h1, h2, Nat.le_trans h3 (Nat.pow_le_pow_right (by decide) hk), h4⟩
end
theorem gI {n k : Nat} (h : n ≤ 2 ^ k) (hk : k ≤ 1000000000000) : (gr n).length ≤ 40000000000 := by
 have := eP h
 omega
/- ---------- IndexFunc, ContainsFunc of []uint32 ---------- -/
section
variable {X : List Nat} {w0 : World} {M0 : List Ent} {I0 : List bA}
theorem aSF {q : Option Addr} {a : List Int} {c : Nat} {g : FuncId} [FnOk Tryz.prog g] {fs cs : Array Value} (pr : Int → Prop) [DecidablePred pr] (hn : (a.length : Int) ≤ 9223372036854775807) (ha : aP q (recs eG a) ∈ I0)
  (hg : ∀ i : Nat, i < a.length → CD Tryz.prog g (fs.toList ++ [Value.int .u32 (gt a i)] ++ cs.toList) X w0 M0 I0 (fun v M I => M0 = M ∧ I0 = I ∧ v = .bool (B (pr (gt a i))))) :
  CD Tryz.prog 252 [.slice q a.length c, .func (.func g) fs cs] X w0 M0 I0 (fun v M I => M0 = M ∧ I0 = I ∧ ∃ r : Int, v = .int .i64 r ∧ ((∃ i : Nat, i < a.length ∧ r = i ∧ pr (gt a i) ∧ ∀ j : Nat, j < i → ¬ pr (gt a j)) ∨ (r = -1 ∧ ∀ j : Nat, j < a.length → ¬ pr (gt a j)))) := by
 refine dZ Tryz.func252 rfl Tryz.ntmps252 rfl ?_
 repeat (refine kV ?_)
 refine aS [0, 1, 7] rfl (fun k G M I => ∃ i : Nat, i ≤ a.length ∧ k = a.length - i ∧ (∀ j : Nat, j < i → ¬ pr (gt a j)) ∧ G = [(8, .int .i64 i)] ∧ M = M0 ∧ I = I0) (a.length) _ _ _ aM bZ bX (⟨0, by omega, rfl, fun j hj => by omega, rfl, rfl, rfl⟩) ?_
 rintro k G M I ⟨i, hi, rfl, hs, rfl, rfl, rfl⟩
 repeat' (first | refine kV ?_ | refine aO rfl (fun h => ?_) (fun h => ?_) | refine aN rfl rfl (fun h => ?_) (fun h => ?_) | fail)
 ·have hlt : i < a.length := by omega
  (refine aFS rfl rfl (hg i hlt) rfl rfl rfl ?_; rintro _ _ _ ⟨rfl, rfl, rfl⟩; refine ⟨nK, ?_⟩)
  repeat' (first | refine kV ?_ | refine aO rfl (fun h => ?_) (fun h => ?_) | refine aN rfl rfl (fun h => ?_) (fun h => ?_) | fail)
  ·refine aI (by first | exact .inl rfl | exact .inr rfl) rfl rfl _ _ bZ bX (⟨rfl, rfl, _, rfl, .inl ⟨i, hlt, rfl, by assumption, hs⟩⟩)
  ·refine aL (a.length - (i + 1)) _ _ _ (by first | omega | (simp only [List.length_append, List.length_cons, List.length_nil]; omega)) aM bZ bX (⟨i + 1, by omega, rfl, fun j hj => ?_, rfl, rfl, rfl⟩)
   by_cases e : j = i
   ·subst e; assumption
   ·exact hs j (by omega)
 ·refine aI (by first | exact .inl rfl | exact .inr rfl) rfl rfl _ _ bZ bX (⟨rfl, rfl, _, rfl, .inr ⟨rfl, fun j hj => hs j (by omega)⟩⟩)
theorem aTI {q : Option Addr} {a : List Int} {c : Nat} {g : FuncId} [FnOk Tryz.prog g] {fs cs : Array Value} (pr : Int → Prop) [DecidablePred pr] (hn : (a.length : Int) ≤ 9223372036854775807) (ha : aP q (recs eG a) ∈ I0)
  (hg : ∀ i : Nat, i < a.length → CD Tryz.prog g (fs.toList ++ [Value.int .u32 (gt a i)] ++ cs.toList) X w0 M0 I0 (fun v M I => M0 = M ∧ I0 = I ∧ v = .bool (B (pr (gt a i))))) :
  CD Tryz.prog 232 [.slice q a.length c, .func (.func g) fs cs] X w0 M0 I0 (fun v M I => M0 = M ∧ I0 = I ∧ v = .bool (B (∃ x ∈ a, pr x))) := by
 refine dZ Tryz.func232 rfl Tryz.ntmps232 rfl ?_
 repeat (refine kV ?_)
 (refine aT rfl (aSF pr hn ha hg) rfl rfl ?_; rintro _ _ _ ⟨rfl, rfl, r, rfl, h⟩; refine ⟨nK, ?_⟩)
 repeat (refine kV ?_)
 refine aI (by first | exact .inl rfl | exact .inr rfl) rfl rfl _ _ bZ bX (⟨rfl, rfl, congrArg Value.bool (iY ?_)⟩)
 rcases h with ⟨i, hi, rfl, hp, _⟩ | ⟨rfl, h⟩
 ·exact ⟨fun _ => ⟨gt a i, by rw [gV hi]; exact List.getElem_mem hi, hp⟩, fun _ => by omega⟩
 ·refine ⟨fun h => by omega, ?_⟩
  rintro ⟨x, hx, hp⟩
  obtain ⟨j, hj, rfl⟩ := List.mem_iff_getElem.1 hx
  exact absurd (by rw [gV hj]; exact hp) (h j hj)
end
/- ---------- Clone of []uint32 ---------- -/
section
variable {X : List Nat} {w0 : World} {M0 : List Ent} {I0 : List bA}
theorem xO {q : Option Addr} {a : List Int} {c : Nat} (hn : (a.length : Int) * 4 ≤ 140737488355328) (hok : Ok q ∨ (a.length = 0 ∧ c = 0)) (ha : aP q (recs eG a) ∈ I0) :
  CD Tryz.prog 228 [.slice q a.length c] X w0 M0 I0 (fun v M I => I0 = I ∧ ∃ q' c', v = .slice q' a.length c' ∧ M = .row q' a.length c' (recs eG a) 104 1 :: M0) := by
 refine dZ Tryz.func228 rfl Tryz.ntmps228 rfl ?_
 repeat (refine kV ?_)
 refine aF rfl (fun _ => jA rfl) rfl rfl ?_
 cases q with
 | some ad =>
  repeat (refine kV ?_)
  (refine bB (cs := recs eG []) ([]) rfl rfl (by intro v hv; repeat (first | exact absurd hv (List.not_mem_nil) | (rcases List.mem_cons.1 hv with rfl | hv; · rfl))) (by omega) rfl rfl rfl ?_; intro b1; refine ⟨nK, ?_⟩)
  repeat (refine kV ?_)
  refine jF (mm := 0) 1 mO rfl (by omega) ?_
  refine dK (xs := []) (ys := a) 0 rfl rfl rfl (Src.imm aR hok) (by decide) rfl (by simp; omega) (by simp; omega) rfl rfl ?_
  intro a2 c2
  refine ⟨nK, ?_⟩
  repeat (refine kV ?_)
  refine aI (by first | exact .inl rfl | exact .inr rfl) rfl rfl _ _ bZ bX (⟨rfl, a2, c2, by simp, by simp⟩)
 | none =>
  obtain ⟨h0, rfl⟩ : a.length = 0 ∧ c = 0 := hok.resolve_left (fun h => by obtain ⟨b, o, e⟩ := h.cases; cases e)
  have hnil : a = [] := List.eq_nil_of_length_eq_zero h0
  subst hnil
  repeat (refine kV ?_)
  refine aTE 104 1 ?_
  refine aI (by first | exact .inl rfl | exact .inr rfl) rfl rfl _ _ bZ bX (⟨rfl, none, 0, rfl, rfl⟩)
end
section
variable {X : List Nat} {w0 : World} {M0 : List Ent} {I0 : List bA}
theorem lU {p : Prop} [Decidable p] {q : Option Addr} {n c k : Nat} (hl : (gr n).length ≤ 100000000000) (hc : pO q n c) (hk : n ≤ 2 ^ k) (hq : aP q (recs eG (gr n)) ∈ I0) :
  CD Tryz.prog 200 [.bool (B p), .slice q (gr n).length c] X w0 M0 I0 (fun v M I => M0 = M ∧ I = iF v (sg p n) k :: I0) := by
 refine dZ Tryz.func200 rfl Tryz.ntmps200 rfl ?_
 refine aH ?_
 refine aJ ?_
 (refine aG rfl rfl ?_; intro b; refine ⟨nK, ?_⟩)
 repeat (refine kV ?_)
 (refine aT rfl (pV (l := gr n) rfl (by omega) hc.1 hq) rfl rfl ?_; rintro _ _ _ ⟨rfl, rfl, rfl⟩; refine ⟨nK, ?_⟩)
 rw [zY (aAP n)]
 by_cases h0 : (gr n).length = 0
 ·have hn : n = 0 := nS.1 (List.eq_nil_of_length_eq_zero h0)
  subst hn
  repeat (refine kV ?_)
  (refine aF rfl (fun _ => aV (pvs := ([]).zipIdx.map (fun p => (p.2, p.1))) (cells := [.bool false, .slice none 0 0]) rfl rfl) rfl rfl ?_)
  repeat (refine kV ?_)
  have hz : sg p 0 = 0 := by unfold sg; split <;> rfl
  rw [hz]
  have hg0 : gr (0 : Int).natAbs = [] := gQ
  refine aDS none ?_
  refine aCR (q := none) (c := 0) (z := 0) (k := k) (by rw [hg0]; exact aR) ⟨by rw [hg0]; simp, .inr ⟨by rw [hg0]; rfl, rfl⟩⟩ (by simp) ?_
  have hiv : iv none 0 0 = .agg #[.bool false, .slice none 0 0] := by unfold iv; rw [hg0, aZ (by omega)]; rfl
  rw [hiv]
  refine bD (cs := [.bool false, .slice none 0 0]) (.inl rfl) rfl rfl aR rfl _ _ bZ bX ⟨rfl, rfl⟩
 ·have hn : n ≠ 0 := fun e => h0 (by rw [e, gQ]; rfl)
  repeat (refine kV ?_)
  (refine aF rfl (fun _ => aV (pvs := ([.bool (B p), .slice q (gr n).length c]).zipIdx.map (fun p => (p.2, p.1))) (cells := [.bool (B p), .slice q (gr n).length c]) rfl rfl) rfl rfl ?_)
  repeat (refine kV ?_)
  have ha := aQN p n
  refine aCR (q := q) (c := c) (z := sg p n) (k := k) (by rw [ha]; exact aR) (by rw [ha]; exact hc) (by rw [ha]; exact hk) ?_
  have hiv : iv q c (sg p n) = .agg #[.bool (B p), .slice q (gr n).length c] := by unfold iv; rw [ha, iY (sg_lt hn)]
  rw [hiv]
  refine bD (cs := [.bool (B p), .slice q (gr n).length c]) (.inl rfl) rfl rfl aR rfl _ _ bZ bX ⟨rfl, rfl⟩
theorem aRD {x : Int} : CD Tryz.prog 233 [.int .u32 x] X w0 M0 I0 (fun v M I => M0 = M ∧ I0 = I ∧ v = .bool (B (1000000000 ≤ x))) := by
 refine dZ Tryz.func233 rfl Tryz.ntmps233 rfl ?_
 repeat (refine kV ?_)
 refine aI (by first | exact .inl rfl | exact .inr rfl) rfl rfl _ _ bZ bX (⟨rfl, rfl, rfl⟩)
def qD (neg : Bool) (gs : List Int) : Prop := (gs = [] ∧ neg = false) ∨ (gs ≠ [] ∧ Top gs ∧ ¬ ∃ x ∈ gs, 1000000000 ≤ x)
instance (neg : Bool) (gs : List Int) : Decidable (qD neg gs) := by unfold qD; exact inferInstance
theorem zD {gs : List Int} (h : 0 < gs.length) : gs.getLastD 1 = gt gs ((gs.length : Int) - 1) := by
 rcases List.eq_nil_or_concat gs with rfl | ⟨r, x, e⟩
 ·simp at h
 ·rw [List.concat_eq_append] at e
  subst e
  have e1 : (((r ++ [x]).length : Int) - 1) = ((r.length : Nat) : Int) := by simp
  rw [e1, uR]
  simp
theorem sZ {neg : Bool} {q : Option Addr} {gs : List Int} {c : Nat} (hn : (gs.length : Int) ≤ 9223372036854775807) (hq : aP q (recs eG gs) ∈ I0) :
  CD Tryz.prog 192 [.agg #[.bool neg, .slice q gs.length c]] X w0 M0 I0 (fun v M I => M0 = M ∧ I0 = I ∧ v = .bool (B (qD neg gs))) := by
 refine dZ Tryz.func192 rfl Tryz.ntmps192 rfl ?_
 refine aH ?_
 refine aJ ?_
 (refine kL rfl rfl rfl ?_; intro b; refine ⟨nK, ?_⟩)
 by_cases h0 : gs.length = 0
 ·have hg : gs = [] := List.eq_nil_of_length_eq_zero h0
  subst hg
  repeat (refine kV ?_)
  refine aI (by first | exact .inl rfl | exact .inr rfl) rfl rfl _ _ bZ bX (⟨rfl, rfl, by rw [show (!neg) = B (qD neg []) by rw [qC]; cases neg <;> simp [qD]]⟩)
 ·have hgs : gs ≠ [] := fun e => h0 (by rw [e]; rfl)
  have hlast := zD (gs := gs) (by omega)
  repeat' (first | refine kV ?_ | refine aO rfl (fun h => ?_) (fun h => ?_) | refine aN rfl rfl (fun h => ?_) (fun h => ?_) | fail)
  ·(refine aT rfl (aTI (fun x => 1000000000 ≤ x) hn hq (fun i hi => aRD)) rfl rfl ?_; rintro _ _ _ ⟨rfl, rfl, rfl⟩; refine ⟨nK, ?_⟩)
   repeat (refine kV ?_)
   refine aI (by first | exact .inl rfl | exact .inr rfl) rfl rfl _ _ bZ bX (⟨rfl, rfl, congrArg Value.bool (iY ?_)⟩)
   unfold qD Top
   rw [hlast]
   exact ⟨fun h => .inr ⟨hgs, by assumption, h⟩, fun h => h.elim (fun h => absurd h.1 hgs) (fun h => h.2.2)⟩
  ·refine aI (by first | exact .inl rfl | exact .inr rfl) rfl rfl _ _ bZ bX (⟨rfl, rfl, congrArg Value.bool (aZ ?_).symm⟩)
   unfold qD Top
   rw [hlast]
   rintro (h | h)
   ·exact hgs h.1
   ·exact absurd h.2.1 (by assumption)
theorem xU (z : Int) : qD (B (z < 0)) (gr z.natAbs) := by
 by_cases h : z.natAbs = 0
 ·refine .inl ⟨by rw [h, gQ], aZ (by omega)⟩
 ·refine .inr ⟨fun e => h (nS.1 e), aAP _, ?_⟩
  rintro ⟨x, hx, h1⟩
  have := bT z.natAbs x hx
  omega
theorem jR {q : Option Addr} {c k : Nat} {z : Int} (hz : z.natAbs ≤ 2 ^ k) (hk : k ≤ 1000000000000) (hq : aP q (recs eG (gr z.natAbs)) ∈ I0) :
  CD Tryz.prog 193 [iv q c z] X w0 M0 I0 (fun v M I => M0 = M ∧ I0 = I ∧ v = .slice q (gr z.natAbs).length c) := by
 have hl := gI hz hk
 unfold iv
 refine dZ Tryz.func193 rfl Tryz.ntmps193 rfl ?_
 refine aH ?_
 refine aJ ?_
 (refine kL rfl rfl rfl ?_; intro b; refine ⟨nK, ?_⟩)
 repeat (refine kV ?_)
 (refine aT rfl (sZ (neg := B (z < 0)) (gs := gr z.natAbs) (by omega) hq) rfl rfl ?_; rintro _ _ _ ⟨rfl, rfl, rfl⟩; refine ⟨nK, ?_⟩)
 rw [bH (xU z)]
 repeat (refine kV ?_)
 refine aI (by first | exact .inl rfl | exact .inr rfl) rfl rfl _ _ bZ bX (⟨rfl, rfl, rfl⟩)
theorem sH {u : Value} {z : Int} {k : Nat} (hk : k ≤ 1000000000000) (hu : iF u z k ∈ I0) : CD Tryz.prog 144 [u] X w0 M0 I0 (fun v M I => M0 = M ∧ I0 = I ∧ v = .int .i64 z.sign) := by
 refine cZ hu (fun q c e hc hz => ?_)
 subst e
 unfold iv
 refine dZ Tryz.func144 rfl Tryz.ntmps144 rfl ?_
 refine aH ?_
 refine aJ ?_
 (refine kL rfl rfl rfl ?_; intro b; refine ⟨nK, ?_⟩)
 repeat (refine kV ?_)
 (refine aT rfl (jR (c := c) hz hk aR) rfl rfl ?_; rintro _ _ _ ⟨rfl, rfl, rfl⟩; refine ⟨nK, ?_⟩)
 have hnil : (gr z.natAbs).length = 0 ↔ z = 0 := by
  rw [List.length_eq_zero_iff, nS]; omega
 by_cases h0 : z = 0
 ·have := hnil.2 h0
  repeat (refine kV ?_)
  refine aI (by first | exact .inl rfl | exact .inr rfl) rfl rfl _ _ bZ bX (⟨rfl, rfl, by rw [h0]; rfl⟩)
 ·have : ¬ (gr z.natAbs).length = 0 := fun h => h0 (hnil.1 h)
  repeat' (first | refine kV ?_ | refine aO rfl (fun h => ?_) (fun h => ?_) | refine aN rfl rfl (fun h => ?_) (fun h => ?_) | fail)
  ·refine aI (by first | exact .inl rfl | exact .inr rfl) rfl rfl _ _ bZ bX (⟨rfl, rfl, by rw [Int.sign_eq_neg_one_of_neg (by assumption)]⟩)
  ·refine aI (by first | exact .inl rfl | exact .inr rfl) rfl rfl _ _ bZ bX (⟨rfl, rfl, by rw [Int.sign_eq_one_of_pos (by omega)]⟩)
theorem aHE {u : Value} {z : Int} {k : Nat} (hk : k ≤ 1000000000000) (hu : iF u z k ∈ I0) : CD Tryz.prog 194 [u] X w0 M0 I0 (fun v M I => M0 = M ∧ I = iF v (-z) k :: I0) := by
 refine cZ hu (fun q c e hc hz => ?_)
 subst e
 have hl := gI hz hk
 unfold iv
 refine dZ Tryz.func194 rfl Tryz.ntmps194 rfl ?_
 refine aH ?_
 refine aJ ?_
 (refine kL rfl rfl rfl ?_; intro b; refine ⟨nK, ?_⟩)
 (refine aG rfl rfl ?_; intro b2; refine ⟨nK, ?_⟩)
 repeat' (first | refine aJ ?_ | refine jM ?_ | refine gZ ?_ | refine fG ?_ | refine fD ?_ | refine iA ?_ | refine gT ?_ | refine fF ?_ | refine fE ?_ | refine jK ?_ | refine jP ?_ | refine jO ?_ | refine jI rfl ?_ | refine bP ?_ | (refine gD ?_; first | refine gP rfl rfl rfl ?_ | (refine gF rfl rfl ?_; refine eX rfl rfl rfl nK ?_) | refine fQ rfl rfl (by omega) ?_ | refine gN rfl rfl (by omega) ?_ | refine qB rfl rfl (fun h => ?_) (fun h => ?_) | (fail_if_success (refine sN rfl ?_); refine oO rfl rfl (fun h => ?_) (fun h => ?_))) | (refine bR ?_; refine aF rfl (fun _ => dF rfl) rfl rfl ?_) | refine aF rfl (fun _ => bC rfl) rfl rfl ?_ | (refine gL ?_; first | refine aF rfl (fun _ => bJ rfl rfl w_) rfl rfl ?_ | refine aF rfl (fun _ => bI rfl rfl w_) rfl rfl ?_ | refine aF rfl (fun _ => dW rfl rfl w_) rfl rfl ?_ | refine aF rfl (fun _ => dY rfl rfl (by omega) q_) rfl rfl ?_ | refine aF rfl (fun _ => dX rfl rfl (by omega) rfl) rfl rfl ?_ | refine aF rfl (fun _ => dG rfl rfl) rfl rfl ?_ | refine aF rfl (fun _ => dM rfl rfl) rfl rfl ?_ | refine aF rfl (fun _ => dL rfl rfl) rfl rfl ?_) | (refine bR ?_; first | refine aF rfl (fun _ => dS rfl w_) rfl rfl ?_) | (refine gK ?_; first | refine aF rfl (fun _ => cB rfl w_) rfl rfl ?_) | (refine fV ?_; first | refine aF rfl (fun _ => bK rfl) rfl rfl ?_ | refine aF rfl (fun _ => dE rfl rfl) rfl rfl ?_ | refine aF rfl (fun _ => dC rfl rfl) rfl rfl ?_ | refine aF rfl (fun _ => dH rfl rfl rfl) rfl rfl ?_) | (refine gG ?_; first | refine fZ rfl (by decide) rfl rfl ?_ | refine iR rfl (by decide) rfl rfl ?_) | (refine gH ?_; first | refine aF rfl (fun _ => bY rfl) rfl rfl ?_) | (refine gM ?_; first | refine iU rfl rfl iG rfl rfl ?_ | refine iW rV rfl rfl iG aR jC rfl rfl ?_ | refine iV rV rfl rfl iG aR jC rfl rfl ?_ | refine aF rfl (fun _ => bM rfl rfl iG) rfl rfl ?_) | (refine fT ?_; first | refine iT rV rfl aR oD rfl rfl ?_ | refine iX rV rfl aR oD rfl rfl ?_ | refine fP rV rfl aR oD rfl rfl ?_ | refine gJ rV rfl aR oD rfl rfl ?_ | refine kT rV rfl aR iK fB rfl rfl ?_ | refine kS rV rfl aR iK fB rfl rfl ?_ | refine kU rV rfl aR iK fB rfl rfl ?_ | refine jS rV rfl aR iK fB rfl rfl ?_) | (refine fU ?_; first | refine aF rfl (fun _ => bN rfl rfl) rfl rfl ?_ | refine aF rfl (fun _ => bF rfl) rfl rfl ?_) | (refine iN ?_; first | refine kH rfl rfl rfl mO stC rfl rfl ⟨nK, ?_⟩ | refine gY rfl rfl fB rD mO rC rfl rfl ⟨nK, ?_⟩) | (refine iB ?_; first | refine bW rfl ?_ | refine bL rfl ?_ | refine jN rfl (by omega) ?_ | refine lY rfl (by omega) ?_ | refine tK rfl (fun h => ?_) (fun h => ?_) | refine oK rfl (fun h => ?_) (fun h => ?_)))
 (repeat refine aH ?_); refine bG 3 [0, 1, 2, 3, 4, 5, 6, 7] [3, 3, 2, 2, 0, 0, 0, 0] mixed (by kernel_rfl) ?_
 repeat (refine kV ?_)
 (refine aT rfl (jR (c := c) hz hk aR) rfl rfl ?_; rintro _ _ _ ⟨rfl, rfl, rfl⟩; refine ⟨nK, ?_⟩)
 repeat (refine kV ?_)
 (refine aT rfl (xO (a := gr z.natAbs) (by omega) hc.2 aR) rfl rfl ?_; rintro _ _ _ ⟨rfl, q', c', rfl, rfl⟩; refine ⟨nK, ?_⟩)
 refine mI (fun w hw => And.intro (hw.rowLe (List.Mem.head _)) ((hw.rowS (List.Mem.head _)).2.imp id And.right)) (fun hc' => ?_)
 refine eU vM ?_
 repeat (refine kV ?_)
 rw [← aNQ z]
 (refine aT rfl (lU (p := ¬ z < 0) (k := k) (by omega) hc' hz aR) rfl rfl ?_; rintro _ _ _ ⟨rfl, rfl⟩; refine ⟨nK, ?_⟩; refine aW (List.Mem.head _) (fun q2 c2 e__ hc2 hz2 => ?_); subst e__)
 unfold iv
 repeat (refine kV ?_)
 refine bD (cs := [.bool (B (sg (¬ z < 0) z.natAbs < 0)), .slice q2 (gr (sg (¬ z < 0) z.natAbs).natAbs).length c2]) (.inl rfl) rfl rfl aR rfl _ _ bZ bX ⟨rfl, rfl⟩
theorem sG {u v : Value} {y z : Int} {k m : Nat} (hk : k + m ≤ 1000000000000) (hu : iF u y k ∈ I0) (hv : iF v z m ∈ I0) : CD Tryz.prog 148 [u, v] X w0 M0 I0 (fun v M I => M0 = M ∧ I = iF v (y * z) (k + m) :: I0) := by
 refine cZ hu (fun q c e hc hy => ?_)
 subst e
 refine cZ (List.Mem.tail _ hv) (fun q' c' e hc' hz => ?_)
 subst e
 have hl := gI hy (by omega)
 have hl' := gI hz (by omega)
 unfold iv
 refine dZ Tryz.func148 rfl Tryz.ntmps148 rfl ?_
 refine aH ?_
 refine aJ ?_
 (refine kL rfl rfl rfl ?_; intro b; refine ⟨nK, ?_⟩)
 (refine kL rfl rfl rfl ?_; intro b2; refine ⟨nK, ?_⟩)
 (refine aG rfl rfl ?_; intro b3; refine ⟨nK, ?_⟩)
 repeat' (first | refine aJ ?_ | refine jM ?_ | refine gZ ?_ | refine fG ?_ | refine fD ?_ | refine iA ?_ | refine gT ?_ | refine fF ?_ | refine fE ?_ | refine jK ?_ | refine jP ?_ | refine jO ?_ | refine jI rfl ?_ | refine bP ?_ | (refine gD ?_; first | refine gP rfl rfl rfl ?_ | (refine gF rfl rfl ?_; refine eX rfl rfl rfl nK ?_) | refine fQ rfl rfl (by omega) ?_ | refine gN rfl rfl (by omega) ?_ | refine qB rfl rfl (fun h => ?_) (fun h => ?_) | (fail_if_success (refine sN rfl ?_); refine oO rfl rfl (fun h => ?_) (fun h => ?_))) | (refine bR ?_; refine aF rfl (fun _ => dF rfl) rfl rfl ?_) | refine aF rfl (fun _ => bC rfl) rfl rfl ?_ | (refine gL ?_; first | refine aF rfl (fun _ => bJ rfl rfl w_) rfl rfl ?_ | refine aF rfl (fun _ => bI rfl rfl w_) rfl rfl ?_ | refine aF rfl (fun _ => dW rfl rfl w_) rfl rfl ?_ | refine aF rfl (fun _ => dY rfl rfl (by omega) q_) rfl rfl ?_ | refine aF rfl (fun _ => dX rfl rfl (by omega) rfl) rfl rfl ?_ | refine aF rfl (fun _ => dG rfl rfl) rfl rfl ?_ | refine aF rfl (fun _ => dM rfl rfl) rfl rfl ?_ | refine aF rfl (fun _ => dL rfl rfl) rfl rfl ?_) | (refine bR ?_; first | refine aF rfl (fun _ => dS rfl w_) rfl rfl ?_) | (refine gK ?_; first | refine aF rfl (fun _ => cB rfl w_) rfl rfl ?_) | (refine fV ?_; first | refine aF rfl (fun _ => bK rfl) rfl rfl ?_ | refine aF rfl (fun _ => dE rfl rfl) rfl rfl ?_ | refine aF rfl (fun _ => dC rfl rfl) rfl rfl ?_ | refine aF rfl (fun _ => dH rfl rfl rfl) rfl rfl ?_) | (refine gG ?_; first | refine fZ rfl (by decide) rfl rfl ?_ | refine iR rfl (by decide) rfl rfl ?_) | (refine gH ?_; first | refine aF rfl (fun _ => bY rfl) rfl rfl ?_) | (refine gM ?_; first | refine iU rfl rfl iG rfl rfl ?_ | refine iW rV rfl rfl iG aR jC rfl rfl ?_ | refine iV rV rfl rfl iG aR jC rfl rfl ?_ | refine aF rfl (fun _ => bM rfl rfl iG) rfl rfl ?_) | (refine fT ?_; first | refine iT rV rfl aR oD rfl rfl ?_ | refine iX rV rfl aR oD rfl rfl ?_ | refine fP rV rfl aR oD rfl rfl ?_ | refine gJ rV rfl aR oD rfl rfl ?_ | refine kT rV rfl aR iK fB rfl rfl ?_ | refine kS rV rfl aR iK fB rfl rfl ?_ | refine kU rV rfl aR iK fB rfl rfl ?_ | refine jS rV rfl aR iK fB rfl rfl ?_) | (refine fU ?_; first | refine aF rfl (fun _ => bN rfl rfl) rfl rfl ?_ | refine aF rfl (fun _ => bF rfl) rfl rfl ?_) | (refine iN ?_; first | refine kH rfl rfl rfl mO stC rfl rfl ⟨nK, ?_⟩ | refine gY rfl rfl fB rD mO rC rfl rfl ⟨nK, ?_⟩) | (refine iB ?_; first | refine bW rfl ?_ | refine bL rfl ?_ | refine jN rfl (by omega) ?_ | refine lY rfl (by omega) ?_ | refine tK rfl (fun h => ?_) (fun h => ?_) | refine oK rfl (fun h => ?_) (fun h => ?_)))
 (repeat refine aH ?_); refine bG 4 [0, 1, 2, 3, 4, 5, 7, 6, 8, 9, 10, 11] [4, 4, 4, 4, 3, 3, 3, 0, 0, 0, 0, 0] mixed (by kernel_rfl) ?_
 repeat (refine kV ?_)
 (refine aT rfl (jR (c := c) hy (by omega) aR) rfl rfl ?_; rintro _ _ _ ⟨rfl, rfl, rfl⟩; refine ⟨nK, ?_⟩)
 repeat (refine kV ?_)
 (refine aT rfl (jR (c := c') hz (by omega) aR) rfl rfl ?_; rintro _ _ _ ⟨rfl, rfl, rfl⟩; refine ⟨nK, ?_⟩)
 repeat (refine kV ?_)
 (refine aT rfl (aOB (by omega) (by omega) aR aR) rfl rfl ?_; rintro _ _ _ ⟨rfl, q3, c3, rfl, hc3, rfl⟩; refine ⟨nK, ?_⟩)
 have hyz : y.natAbs * z.natAbs ≤ 2 ^ (k + m) := yC hy hz
 have hl3 := gI hyz (by omega)
 have hsg : sg (¬ (y < 0 ↔ z < 0)) (y.natAbs * z.natAbs) = y * z := by
  unfold sg
  rw [Int.natCast_mul]
  by_cases h1 : y < 0 <;> by_cases h2 : z < 0 <;> simp only [h1, h2, not_true_eq_false, not_false_eq_true, iff_true, iff_false, if_true, if_false]
  ·rw [show (y.natAbs : Int) = -y by omega, show (z.natAbs : Int) = -z by omega, Int.neg_mul_neg]
  ·rw [show (y.natAbs : Int) = -y by omega, show (z.natAbs : Int) = z by omega, Int.neg_mul, Int.neg_neg]
  ·rw [show (y.natAbs : Int) = y by omega, show (z.natAbs : Int) = -z by omega, Int.mul_neg, Int.neg_neg]
  ·rw [show (y.natAbs : Int) = y by omega, show (z.natAbs : Int) = z by omega]
 rw [← hsg]
 (refine aT rfl (lU (p := ¬ (y < 0 ↔ z < 0)) (k := k + m) (by omega) hc3 hyz aR) rfl rfl ?_; rintro _ _ _ ⟨rfl, rfl⟩; refine ⟨nK, ?_⟩; refine aW (List.Mem.head _) (fun q2 c2 e__ hc2 hz2 => ?_); subst e__)
 unfold iv
 repeat (refine kV ?_)
 refine bD (cs := [.bool (B (sg (¬ (y < 0 ↔ z < 0)) (y.natAbs * z.natAbs) < 0)), .slice q2 (gr (sg (¬ (y < 0 ↔ z < 0)) (y.natAbs * z.natAbs)).natAbs).length c2]) (.inl rfl) rfl rfl aR rfl _ _ bZ bX ⟨rfl, rfl⟩
end
end Go.Proofs.YtjbhdfpjnjedhaaGreat

/- integer: the numbers: made, Valid, groups, Sign, Neg, Mul -/
import Derived.Test.YtmmmfphealhapaaGreatZrah
import Derived.Test.YtmmmfphealhapaaGreatZrag
set_option linter.unusedSimpArgs false
set_option linter.unusedVariables false
set_option maxRecDepth 100000
set_option maxHeartbeats 4000000
namespace Go.Proofs.YtmmmfphealhapaaGreat
open Go Go.Fx
def iv (q : Option Addr) (c : Nat) (z : Int) : Value := .agg #[.bool (B (z < 0)), .slice q (gr z.natAbs).length c]
abbrev oO (q : Option Addr) (n c : Nat) : Prop := (gr n).length ≤ c ∧ (Ok q ∨ ((gr n).length = 0 ∧ c = 0))
structure IsI (u : Value) (z : Int) (k : Nat) (X : List Nat) (w : World) : Prop where
 ex : ∃ q c, u = iv q c z ∧ oO q z.natAbs c ∧ z.natAbs ≤ 2 ^ k ∧ Sl X w q (recs eG (gr z.natAbs))
abbrev iC (u : Value) (z : Int) (k : Nat) : bA := IsI u z k
instance (u : Value) (z : Int) (k : Nat) : Fx.Good (IsI u z k) := ⟨fun X Y w w' h he hY => by
 obtain ⟨q, c, h1, h2, h3, h4⟩ := h.ex
 exact ⟨q, c, h1, h2, h3, Sl.carry h4 he hY⟩⟩
def sg (p : Prop) [Decidable p] (n : Nat) : Int := if p then -(n : Int) else n
theorem aLA (p : Prop) [Decidable p] (n : Nat) : (sg p n).natAbs = n := by unfold sg; split <;> omega
theorem nS (z : Int) : sg (z < 0) z.natAbs = z := by unfold sg; split <;> omega
theorem aES (z : Int) : sg (¬ z < 0) z.natAbs = -z := by unfold sg; split <;> omega
theorem sg_lt {p : Prop} [Decidable p] {n : Nat} (h : n ≠ 0) : sg p n < 0 ↔ p := by unfold sg; split <;> simp_all <;> omega
section
variable {P : Program} {n : Nat} {Q : Exit → Act → World → Prop} {G : Env} {X : List Nat} {w0 : World} {M M' : List Ent} {I I' : List bA}
theorem cB {f : FuncId} {vs : List Value} {K : Value → List Ent → List bA → Prop} {u : Value} {z : Int} {k : Nat} (hu : iC u z k ∈ I)
  (h : ∀ q c, u = iv q c z → oO q z.natAbs c → z.natAbs ≤ 2 ^ k → CD P f vs X w0 M (aX q (recs eG (gr z.natAbs)) :: I) K) : CD P f vs X w0 M I K :=
 ⟨fun w hw => by
  obtain ⟨q, c, h1, h2, h3, h4⟩ := ((hw.imm _ hu).2).ex
  exact (h q c h1 h2 h3).go w (hw.add (φ := aX q _) ⟨h4⟩)⟩
theorem aEW {w : World} {q : Option Addr} {c : Nat} {z : Int} {k : Nat} (hw : Mem X w0 M I w) (hm : aX q (recs eG (gr z.natAbs)) ∈ I) (hc : oO q z.natAbs c) (hk : z.natAbs ≤ 2 ^ k) : Mem X w0 M (iC (iv q c z) z k :: I) w :=
 hw.add (φ := iC _ z k) ⟨q, c, rfl, hc, hk, hw.sl hm⟩
theorem aBB {ex : Exit} {q : Option Addr} {c : Nat} {z : Int} {k : Nat} (hm : aX q (recs eG (gr z.natAbs)) ∈ I) (hc : oO q z.natAbs c) (hk : z.natAbs ≤ 2 ^ k) (h : ND n Q ex G X w0 M (iC (iv q c z) z k :: I)) : ND n Q ex G X w0 M I := xS (fun _ hw => aEW hw hm hc hk) h
theorem sM {ops l : List Oper} {m : Fx.Mode} {q : Option Addr} {c : Nat} {z : Int} {k : Nat} (hm : aX q (recs eG (gr z.natAbs)) ∈ I) (hc : oO q z.natAbs c) (hk : z.natAbs ≤ 2 ^ k) (h : RD P n ops Q m l G X w0 M (iC (iv q c z) z k :: I)) : RD P n ops Q m l G X w0 M I := xZ (fun _ hw => aEW hw hm hc hk) h
theorem aU {ops l : List Oper} {m : Fx.Mode} {u : Value} {z : Int} {k : Nat} (hu : iC u z k ∈ I)
  (h : ∀ q c, u = iv q c z → oO q z.natAbs c → z.natAbs ≤ 2 ^ k → RD P n ops Q m l G X w0 M (aX q (recs eG (gr z.natAbs)) :: I)) : RD P n ops Q m l G X w0 M I :=
 ⟨fun w hw => by
  obtain ⟨q, c, h1, h2, h3, h4⟩ := ((hw.imm _ hu).2).ex
  exact (h q c h1 h2 h3).go w (hw.add (φ := aX q _) ⟨h4⟩)⟩
theorem IsI.mono {u : Value} {z : Int} {k m : Nat} {X : List Nat} {w : World} (h : IsI u z k X w) (hk : k ≤ m) : IsI u z m X w := by
 obtain ⟨q, c, h1, h2, h3, h4⟩ := h.ex
 exact ⟨q, c, h1, h2, Nat.le_trans h3 (Nat.pow_le_pow_right (by decide) hk), h4⟩
end
theorem fK {n k : Nat} (h : n ≤ 2 ^ k) (hk : k ≤ 1000000000000) : (gr n).length ≤ 40000000000 := by
 have := fE h
 omega
/- ---------- IndexFunc, ContainsFunc of []uint32 ---------- -/
section
variable {X : List Nat} {w0 : World} {M0 : List Ent} {I0 : List bA}
theorem aOZ {q : Option Addr} {a : List Int} {c : Nat} {g : FuncId} [FnOk Tryz.prog g] {fs cs : Array Value} (pr : Int → Prop) [DecidablePred pr] (hn : (a.length : Int) ≤ 9223372036854775807) (ha : aX q (recs eG a) ∈ I0)
  (hg : ∀ i : Nat, i < a.length → CD Tryz.prog g (fs.toList ++ [Value.int .u32 (gt a i)] ++ cs.toList) X w0 M0 I0 (fun v M I => M0 = M ∧ I0 = I ∧ v = .bool (B (pr (gt a i))))) :
  CD Tryz.prog 250 [.slice q a.length c, .func (.func g) fs cs] X w0 M0 I0 (fun v M I => M0 = M ∧ I0 = I ∧ ∃ r : Int, v = .int .i64 r ∧ ((∃ i : Nat, i < a.length ∧ r = i ∧ pr (gt a i) ∧ ∀ j : Nat, j < i → ¬ pr (gt a j)) ∨ (r = -1 ∧ ∀ j : Nat, j < a.length → ¬ pr (gt a j)))) := by
 refine eY Tryz.func250 rfl Tryz.ntmps250 rfl ?_
 repeat (refine kS ?_)
 refine bG [0, 1, 7] rfl (fun k G M I => ∃ i : Nat, i ≤ a.length ∧ k = a.length - i ∧ (∀ j : Nat, j < i → ¬ pr (gt a j)) ∧ G = [(8, .int .i64 i)] ∧ M = M0 ∧ I = I0) (a.length) _ _ _ aS cZ cK (⟨0, by omega, rfl, fun j hj => by omega, rfl, rfl, rfl⟩) ?_
 rintro k G M I ⟨i, hi, rfl, hs, rfl, rfl, rfl⟩
 repeat' (first | refine kS ?_ | refine aV rfl (fun h => ?_) (fun h => ?_) | refine aW rfl rfl (fun h => ?_) (fun h => ?_) | fail)
 ·have hlt : i < a.length := by omega
  (refine aDV rfl rfl (hg i hlt) rfl rfl rfl ?_; rintro _ _ _ ⟨rfl, rfl, rfl⟩; refine ⟨mQ, ?_⟩)
  repeat' (first | refine kS ?_ | refine aV rfl (fun h => ?_) (fun h => ?_) | refine aW rfl rfl (fun h => ?_) (fun h => ?_) | fail)
  ·refine aN (by first | exact .inl rfl | exact .inr rfl) rfl rfl _ _ cZ cK (⟨rfl, rfl, _, rfl, .inl ⟨i, hlt, rfl, by assumption, hs⟩⟩)
  ·refine aQ (a.length - (i + 1)) _ _ _ (by first | omega | (simp only [List.length_append, List.length_cons, List.length_nil]; omega)) aS cZ cK (⟨i + 1, by omega, rfl, fun j hj => ?_, rfl, rfl, rfl⟩)
   by_cases e : j = i
   ·subst e; assumption
   ·exact hs j (by omega)
 ·refine aN (by first | exact .inl rfl | exact .inr rfl) rfl rfl _ _ cZ cK (⟨rfl, rfl, _, rfl, .inr ⟨rfl, fun j hj => hs j (by omega)⟩⟩)
theorem aOS {q : Option Addr} {a : List Int} {c : Nat} {g : FuncId} [FnOk Tryz.prog g] {fs cs : Array Value} (pr : Int → Prop) [DecidablePred pr] (hn : (a.length : Int) ≤ 9223372036854775807) (ha : aX q (recs eG a) ∈ I0)
  (hg : ∀ i : Nat, i < a.length → CD Tryz.prog g (fs.toList ++ [Value.int .u32 (gt a i)] ++ cs.toList) X w0 M0 I0 (fun v M I => M0 = M ∧ I0 = I ∧ v = .bool (B (pr (gt a i))))) :
  CD Tryz.prog 195 [.slice q a.length c, .func (.func g) fs cs] X w0 M0 I0 (fun v M I => M0 = M ∧ I0 = I ∧ v = .bool (B (∃ x ∈ a, pr x))) := by
 refine eY Tryz.func195 rfl Tryz.ntmps195 rfl ?_
 repeat (refine kS ?_)
 (refine aT rfl (aOZ pr hn ha hg) rfl rfl ?_; rintro _ _ _ ⟨rfl, rfl, r, rfl, h⟩; refine ⟨mQ, ?_⟩)
 repeat (refine kS ?_)
 refine aN (by first | exact .inl rfl | exact .inr rfl) rfl rfl _ _ cZ cK (⟨rfl, rfl, congrArg Value.bool (lH ?_)⟩)
 rcases h with ⟨i, hi, rfl, hp, _⟩ | ⟨rfl, h⟩
 ·exact ⟨fun _ => ⟨gt a i, by rw [mZ hi]; exact List.getElem_mem hi, hp⟩, fun _ => by omega⟩
 ·refine ⟨fun h => by omega, ?_⟩
  rintro ⟨x, hx, hp⟩
  obtain ⟨j, hj, rfl⟩ := List.mem_iff_getElem.1 hx
  exact absurd (by rw [mZ hj]; exact hp) (h j hj)
end
/- ---------- Clone of []uint32 ---------- -/
section
variable {X : List Nat} {w0 : World} {M0 : List Ent} {I0 : List bA}
theorem wG {q : Option Addr} {a : List Int} {c : Nat} (hn : (a.length : Int) * 4 ≤ 140737488355328) (hok : Ok q ∨ (a.length = 0 ∧ c = 0)) (ha : aX q (recs eG a) ∈ I0) :
  CD Tryz.prog 128 [.slice q a.length c] X w0 M0 I0 (fun v M I => I0 = I ∧ ∃ q' c', v = .slice q' a.length c' ∧ M = .row q' a.length c' (recs eG a) 121 1 :: M0) := by
 refine eY Tryz.func128 rfl Tryz.ntmps128 rfl ?_
 repeat (refine kS ?_)
 refine aD rfl (fun _ => iV rfl) rfl rfl ?_
 cases q with
 | some ad =>
  repeat (refine kS ?_)
  (refine dM (cs := recs eG []) ([]) rfl rfl (by intro v hv; repeat (first | exact absurd hv (List.not_mem_nil) | (rcases List.mem_cons.1 hv with rfl | hv; · rfl))) (by omega) rfl rfl rfl ?_; intro b1; refine ⟨mQ, ?_⟩)
  repeat (refine kS ?_)
  refine qC (mm := 0) 1 lW rfl (by omega) ?_
  refine iK (xs := []) (ys := a) 0 rfl rfl rfl (Src.imm aP hok) (by decide) rfl (by simp; omega) (by simp; omega) rfl rfl ?_
  intro a2 c2
  refine ⟨mQ, ?_⟩
  repeat (refine kS ?_)
  refine aN (by first | exact .inl rfl | exact .inr rfl) rfl rfl _ _ cZ cK (⟨rfl, a2, c2, by simp, by simp⟩)
 | none =>
  obtain ⟨h0, rfl⟩ : a.length = 0 ∧ c = 0 := hok.resolve_left (fun h => by obtain ⟨b, o, e⟩ := h.cases; cases e)
  have hnil : a = [] := List.eq_nil_of_length_eq_zero h0
  subst hnil
  repeat (refine kS ?_)
  refine aOM 121 1 ?_
  refine aN (by first | exact .inl rfl | exact .inr rfl) rfl rfl _ _ cZ cK (⟨rfl, none, 0, rfl, rfl⟩)
end
section
variable {X : List Nat} {w0 : World} {M0 : List Ent} {I0 : List bA}
theorem lF {p : Prop} [Decidable p] {q : Option Addr} {n c k : Nat} (hl : (gr n).length ≤ 100000000000) (hc : oO q n c) (hk : n ≤ 2 ^ k) (hq : aX q (recs eG (gr n)) ∈ I0) :
  CD Tryz.prog 123 [.bool (B p), .slice q (gr n).length c] X w0 M0 I0 (fun v M I => M0 = M ∧ I = iC v (sg p n) k :: I0) := by
 refine eY Tryz.func123 rfl Tryz.ntmps123 rfl ?_
 refine aH ?_
 refine aI ?_
 (refine aC rfl rfl ?_; intro b; refine ⟨mQ, ?_⟩)
 repeat (refine kS ?_)
 (refine aT rfl (pE (l := gr n) rfl (by omega) hc.1 hq) rfl rfl ?_; rintro _ _ _ ⟨rfl, rfl, rfl⟩; refine ⟨mQ, ?_⟩)
 rw [yQ (yO n)]
 by_cases h0 : (gr n).length = 0
 ·have hn : n = 0 := mI.1 (List.eq_nil_of_length_eq_zero h0)
  subst hn
  repeat (refine kS ?_)
  (refine aD rfl (fun _ => aZ (pvs := ([]).zipIdx.map (fun p => (p.2, p.1))) (cells := [.bool false, .slice none 0 0]) rfl rfl) rfl rfl ?_)
  repeat (refine kS ?_)
  have hz : sg p 0 = 0 := by unfold sg; split <;> rfl
  rw [hz]
  have hg0 : gr (0 : Int).natAbs = [] := fH
  refine aBT none ?_
  refine aBB (q := none) (c := 0) (z := 0) (k := k) (by rw [hg0]; exact aP) ⟨by rw [hg0]; simp, .inr ⟨by rw [hg0]; rfl, rfl⟩⟩ (by simp) ?_
  have hiv : iv none 0 0 = .agg #[.bool false, .slice none 0 0] := by unfold iv; rw [hg0, dF (by omega)]; rfl
  rw [hiv]
  refine bC (cs := [.bool false, .slice none 0 0]) (.inl rfl) rfl rfl aP rfl _ _ cZ cK ⟨rfl, rfl⟩
 ·have hn : n ≠ 0 := fun e => h0 (by rw [e, fH]; rfl)
  repeat (refine kS ?_)
  (refine aD rfl (fun _ => aZ (pvs := ([.bool (B p), .slice q (gr n).length c]).zipIdx.map (fun p => (p.2, p.1))) (cells := [.bool (B p), .slice q (gr n).length c]) rfl rfl) rfl rfl ?_)
  repeat (refine kS ?_)
  have ha := aLA p n
  refine aBB (q := q) (c := c) (z := sg p n) (k := k) (by rw [ha]; exact aP) (by rw [ha]; exact hc) (by rw [ha]; exact hk) ?_
  have hiv : iv q c (sg p n) = .agg #[.bool (B p), .slice q (gr n).length c] := by unfold iv; rw [ha, lH (sg_lt hn)]
  rw [hiv]
  refine bC (cs := [.bool (B p), .slice q (gr n).length c]) (.inl rfl) rfl rfl aP rfl _ _ cZ cK ⟨rfl, rfl⟩
theorem aNV {x : Int} : CD Tryz.prog 196 [.int .u32 x] X w0 M0 I0 (fun v M I => M0 = M ∧ I0 = I ∧ v = .bool (B (1000000000 ≤ x))) := by
 refine eY Tryz.func196 rfl Tryz.ntmps196 rfl ?_
 repeat (refine kS ?_)
 refine aN (by first | exact .inl rfl | exact .inr rfl) rfl rfl _ _ cZ cK (⟨rfl, rfl, rfl⟩)
def tJ (neg : Bool) (gs : List Int) : Prop := (gs = [] ∧ neg = false) ∨ (gs ≠ [] ∧ Top gs ∧ ¬ ∃ x ∈ gs, 1000000000 ≤ x)
instance (neg : Bool) (gs : List Int) : Decidable (tJ neg gs) := by unfold tJ; exact inferInstance
theorem xN {gs : List Int} (h : 0 < gs.length) : gs.getLastD 1 = gt gs ((gs.length : Int) - 1) := by
 rcases List.eq_nil_or_concat gs with rfl | ⟨r, x, e⟩
 ·simp at h
 ·rw [List.concat_eq_append] at e
  subst e
  have e1 : (((r ++ [x]).length : Int) - 1) = ((r.length : Nat) : Int) := by simp
  rw [e1, tH]
  simp
theorem aDH {neg : Bool} {q : Option Addr} {gs : List Int} {c : Nat} (hn : (gs.length : Int) ≤ 9223372036854775807) (hq : aX q (recs eG gs) ∈ I0) :
  CD Tryz.prog 120 [.agg #[.bool neg, .slice q gs.length c]] X w0 M0 I0 (fun v M I => M0 = M ∧ I0 = I ∧ v = .bool (B (tJ neg gs))) := by
 refine eY Tryz.func120 rfl Tryz.ntmps120 rfl ?_
 refine aH ?_
 refine aI ?_
 (refine kG rfl rfl rfl ?_; intro b; refine ⟨mQ, ?_⟩)
 by_cases h0 : gs.length = 0
 ·have hg : gs = [] := List.eq_nil_of_length_eq_zero h0
  subst hg
  repeat (refine kS ?_)
  refine aN (by first | exact .inl rfl | exact .inr rfl) rfl rfl _ _ cZ cK (⟨rfl, rfl, by rw [show (!neg) = B (tJ neg []) by rw [qW]; cases neg <;> simp [tJ]]⟩)
 ·have hgs : gs ≠ [] := fun e => h0 (by rw [e]; rfl)
  have hlast := xN (gs := gs) (by omega)
  repeat' (first | refine kS ?_ | refine aV rfl (fun h => ?_) (fun h => ?_) | refine aW rfl rfl (fun h => ?_) (fun h => ?_) | fail)
  ·(refine aT rfl (aOS (fun x => 1000000000 ≤ x) hn hq (fun i hi => aNV)) rfl rfl ?_; rintro _ _ _ ⟨rfl, rfl, rfl⟩; refine ⟨mQ, ?_⟩)
   repeat (refine kS ?_)
   refine aN (by first | exact .inl rfl | exact .inr rfl) rfl rfl _ _ cZ cK (⟨rfl, rfl, congrArg Value.bool (lH ?_)⟩)
   unfold tJ Top
   rw [hlast]
   exact ⟨fun h => .inr ⟨hgs, by assumption, h⟩, fun h => h.elim (fun h => absurd h.1 hgs) (fun h => h.2.2)⟩
  ·refine aN (by first | exact .inl rfl | exact .inr rfl) rfl rfl _ _ cZ cK (⟨rfl, rfl, congrArg Value.bool (dF ?_).symm⟩)
   unfold tJ Top
   rw [hlast]
   rintro (h | h)
   ·exact hgs h.1
   ·exact absurd h.2.1 (by assumption)
theorem aCA (z : Int) : tJ (B (z < 0)) (gr z.natAbs) := by
 by_cases h : z.natAbs = 0
 ·refine .inl ⟨by rw [h, fH], dF (by omega)⟩
 ·refine .inr ⟨fun e => h (mI.1 e), yO _, ?_⟩
  rintro ⟨x, hx, h1⟩
  have := bW z.natAbs x hx
  omega
theorem iJ {q : Option Addr} {c k : Nat} {z : Int} (hz : z.natAbs ≤ 2 ^ k) (hk : k ≤ 1000000000000) (hq : aX q (recs eG (gr z.natAbs)) ∈ I0) :
  CD Tryz.prog 126 [iv q c z] X w0 M0 I0 (fun v M I => M0 = M ∧ I0 = I ∧ v = .slice q (gr z.natAbs).length c) := by
 have hl := fK hz hk
 unfold iv
 refine eY Tryz.func126 rfl Tryz.ntmps126 rfl ?_
 refine aH ?_
 refine aI ?_
 (refine kG rfl rfl rfl ?_; intro b; refine ⟨mQ, ?_⟩)
 repeat (refine kS ?_)
 (refine aT rfl (aDH (neg := B (z < 0)) (gs := gr z.natAbs) (by omega) hq) rfl rfl ?_; rintro _ _ _ ⟨rfl, rfl, rfl⟩; refine ⟨mQ, ?_⟩)
 rw [fA (aCA z)]
 repeat (refine kS ?_)
 refine aN (by first | exact .inl rfl | exact .inr rfl) rfl rfl _ _ cZ cK (⟨rfl, rfl, rfl⟩)
theorem lL {u : Value} {z : Int} {k : Nat} (hk : k ≤ 1000000000000) (hu : iC u z k ∈ I0) : CD Tryz.prog 61 [u] X w0 M0 I0 (fun v M I => M0 = M ∧ I0 = I ∧ v = .int .i64 z.sign) := by
 refine cB hu (fun q c e hc hz => ?_)
 subst e
 unfold iv
 refine eY Tryz.func61 rfl Tryz.ntmps61 rfl ?_
 refine aH ?_
 refine aI ?_
 (refine kG rfl rfl rfl ?_; intro b; refine ⟨mQ, ?_⟩)
 repeat (refine kS ?_)
 (refine aT rfl (iJ (c := c) hz hk aP) rfl rfl ?_; rintro _ _ _ ⟨rfl, rfl, rfl⟩; refine ⟨mQ, ?_⟩)
 have hnil : (gr z.natAbs).length = 0 ↔ z = 0 := by
  rw [List.length_eq_zero_iff, mI]; omega
 by_cases h0 : z = 0
 ·have := hnil.2 h0
  repeat (refine kS ?_)
  refine aN (by first | exact .inl rfl | exact .inr rfl) rfl rfl _ _ cZ cK (⟨rfl, rfl, by rw [h0]; rfl⟩)
 ·have : ¬ (gr z.natAbs).length = 0 := fun h => h0 (hnil.1 h)
  repeat' (first | refine kS ?_ | refine aV rfl (fun h => ?_) (fun h => ?_) | refine aW rfl rfl (fun h => ?_) (fun h => ?_) | fail)
  ·refine aN (by first | exact .inl rfl | exact .inr rfl) rfl rfl _ _ cZ cK (⟨rfl, rfl, by rw [Int.sign_eq_neg_one_of_neg (by assumption)]⟩)
  ·refine aN (by first | exact .inl rfl | exact .inr rfl) rfl rfl _ _ cZ cK (⟨rfl, rfl, by rw [Int.sign_eq_one_of_pos (by omega)]⟩)
theorem aBZ {u : Value} {z : Int} {k : Nat} (hk : k ≤ 1000000000000) (hu : iC u z k ∈ I0) : CD Tryz.prog 192 [u] X w0 M0 I0 (fun v M I => M0 = M ∧ I = iC v (-z) k :: I0) := by
 refine cB hu (fun q c e hc hz => ?_)
 subst e
 have hl := fK hz hk
 unfold iv
 refine eY Tryz.func192 rfl Tryz.ntmps192 rfl ?_
 refine aH ?_
 refine aI ?_
 (refine kG rfl rfl rfl ?_; intro b; refine ⟨mQ, ?_⟩)
 (refine aC rfl rfl ?_; intro b2; refine ⟨mQ, ?_⟩)
 repeat' (first | refine aI ?_ | refine jU ?_ | refine iN ?_ | refine fU ?_ | refine fJ ?_ | refine iI ?_ | refine iB ?_ | refine fT ?_ | refine fP ?_ | refine jY ?_ | refine jR ?_ | refine jS ?_ | refine jX rfl ?_ | refine aL ?_ | (refine gX ?_; first | refine gQ rfl rfl rfl ?_ | (refine gJ rfl rfl ?_; refine fF rfl rfl rfl mQ ?_) | refine gT rfl rfl (by omega) ?_ | refine gI rfl rfl (by omega) ?_ | refine pG rfl rfl (fun h => ?_) (fun h => ?_) | (fail_if_success (refine sD rfl ?_); refine nN rfl rfl (fun h => ?_) (fun h => ?_))) | (refine bT ?_; refine aD rfl (fun _ => dL rfl) rfl rfl ?_) | refine aD rfl (fun _ => bH rfl) rfl rfl ?_ | (refine gK ?_; first | refine aD rfl (fun _ => bK rfl rfl w_) rfl rfl ?_ | refine aD rfl (fun _ => bM rfl rfl w_) rfl rfl ?_ | refine aD rfl (fun _ => eQ rfl rfl w_) rfl rfl ?_ | refine aD rfl (fun _ => eO rfl rfl (by omega) q_) rfl rfl ?_ | refine aD rfl (fun _ => eP rfl rfl (by omega) rfl) rfl rfl ?_ | refine aD rfl (fun _ => dK rfl rfl) rfl rfl ?_ | refine aD rfl (fun _ => dX rfl rfl) rfl rfl ?_ | refine aD rfl (fun _ => dY rfl rfl) rfl rfl ?_) | (refine bT ?_; first | refine aD rfl (fun _ => dZ rfl w_) rfl rfl ?_) | (refine gM ?_; first | refine aD rfl (fun _ => dD rfl w_) rfl rfl ?_) | (refine gH ?_; first | refine aD rfl (fun _ => bL rfl) rfl rfl ?_ | refine aD rfl (fun _ => dH rfl rfl) rfl rfl ?_ | refine aD rfl (fun _ => dJ rfl rfl) rfl rfl ?_ | refine aD rfl (fun _ => dI rfl rfl rfl) rfl rfl ?_) | (refine gL ?_; first | refine gP rfl (by decide) rfl rfl ?_ | refine jH rfl (by decide) rfl rfl ?_) | (refine gN ?_; first | refine aD rfl (fun _ => cO rfl) rfl rfl ?_) | (refine gW ?_; first | refine jB rfl rfl iQ rfl rfl ?_ | refine jE qV rfl rfl iQ aP jL rfl rfl ?_ | refine jF qV rfl rfl iQ aP jL rfl rfl ?_ | refine aD rfl (fun _ => bS rfl rfl iQ) rfl rfl ?_) | (refine gV ?_; first | refine jI qV rfl aP nJ rfl rfl ?_ | refine jG qV rfl aP nJ rfl rfl ?_ | refine jC qV rfl aP nJ rfl rfl ?_ | refine fI qV rfl aP nJ rfl rfl ?_ | refine kQ qV rfl aP iG fC rfl rfl ?_ | refine kR qV rfl aP iG fC rfl rfl ?_ | refine kP qV rfl aP iG fC rfl rfl ?_ | refine jM qV rfl aP iG fC rfl rfl ?_) | (refine gU ?_; first | refine aD rfl (fun _ => bR rfl rfl) rfl rfl ?_ | refine aD rfl (fun _ => bJ rfl) rfl rfl ?_) | (refine iH ?_; first | refine lT rfl rfl rfl lW stC rfl rfl ⟨mQ, ?_⟩ | refine gF rfl rfl fC qE lW qO rfl rfl ⟨mQ, ?_⟩) | (refine iM ?_; first | refine bZ rfl ?_ | refine bQ rfl ?_ | refine jQ rfl (by omega) ?_ | refine lZ rfl (by omega) ?_ | refine rW rfl (fun h => ?_) (fun h => ?_) | refine nU rfl (fun h => ?_) (fun h => ?_)))
 (repeat refine aH ?_); refine dG 3 [0, 1, 2, 3, 4, 5, 6, 7] [3, 3, 2, 2, 0, 0, 0, 0] mixed (by kernel_rfl) ?_
 repeat (refine kS ?_)
 (refine aT rfl (iJ (c := c) hz hk aP) rfl rfl ?_; rintro _ _ _ ⟨rfl, rfl, rfl⟩; refine ⟨mQ, ?_⟩)
 repeat (refine kS ?_)
 (refine aT rfl (wG (a := gr z.natAbs) (by omega) hc.2 aP) rfl rfl ?_; rintro _ _ _ ⟨rfl, q', c', rfl, rfl⟩; refine ⟨mQ, ?_⟩)
 refine lU (fun w hw => And.intro (hw.rowLe (List.Mem.head _)) ((hw.rowS (List.Mem.head _)).2.imp id And.right)) (fun hc' => ?_)
 refine fO uK ?_
 repeat (refine kS ?_)
 rw [← aES z]
 (refine aT rfl (lF (p := ¬ z < 0) (k := k) (by omega) hc' hz aP) rfl rfl ?_; rintro _ _ _ ⟨rfl, rfl⟩; refine ⟨mQ, ?_⟩; refine aU (List.Mem.head _) (fun q2 c2 e__ hc2 hz2 => ?_); subst e__)
 unfold iv
 repeat (refine kS ?_)
 refine bC (cs := [.bool (B (sg (¬ z < 0) z.natAbs < 0)), .slice q2 (gr (sg (¬ z < 0) z.natAbs).natAbs).length c2]) (.inl rfl) rfl rfl aP rfl _ _ cZ cK ⟨rfl, rfl⟩
theorem pJ {u v : Value} {y z : Int} {k m : Nat} (hk : k + m ≤ 1000000000000) (hu : iC u y k ∈ I0) (hv : iC v z m ∈ I0) : CD Tryz.prog 59 [u, v] X w0 M0 I0 (fun v M I => M0 = M ∧ I = iC v (y * z) (k + m) :: I0) := by
 refine cB hu (fun q c e hc hy => ?_)
 subst e
 refine cB (List.Mem.tail _ hv) (fun q' c' e hc' hz => ?_)
 subst e
 have hl := fK hy (by omega)
 have hl' := fK hz (by omega)
 unfold iv
 refine eY Tryz.func59 rfl Tryz.ntmps59 rfl ?_
 refine aH ?_
 refine aI ?_
 (refine kG rfl rfl rfl ?_; intro b; refine ⟨mQ, ?_⟩)
 (refine kG rfl rfl rfl ?_; intro b2; refine ⟨mQ, ?_⟩)
 (refine aC rfl rfl ?_; intro b3; refine ⟨mQ, ?_⟩)
 repeat' (first | refine aI ?_ | refine jU ?_ | refine iN ?_ | refine fU ?_ | refine fJ ?_ | refine iI ?_ | refine iB ?_ | refine fT ?_ | refine fP ?_ | refine jY ?_ | refine jR ?_ | refine jS ?_ | refine jX rfl ?_ | refine aL ?_ | (refine gX ?_; first | refine gQ rfl rfl rfl ?_ | (refine gJ rfl rfl ?_; refine fF rfl rfl rfl mQ ?_) | refine gT rfl rfl (by omega) ?_ | refine gI rfl rfl (by omega) ?_ | refine pG rfl rfl (fun h => ?_) (fun h => ?_) | (fail_if_success (refine sD rfl ?_); refine nN rfl rfl (fun h => ?_) (fun h => ?_))) | (refine bT ?_; refine aD rfl (fun _ => dL rfl) rfl rfl ?_) | refine aD rfl (fun _ => bH rfl) rfl rfl ?_ | (refine gK ?_; first | refine aD rfl (fun _ => bK rfl rfl w_) rfl rfl ?_ | refine aD rfl (fun _ => bM rfl rfl w_) rfl rfl ?_ | refine aD rfl (fun _ => eQ rfl rfl w_) rfl rfl ?_ | refine aD rfl (fun _ => eO rfl rfl (by omega) q_) rfl rfl ?_ | refine aD rfl (fun _ => eP rfl rfl (by omega) rfl) rfl rfl ?_ | refine aD rfl (fun _ => dK rfl rfl) rfl rfl ?_ | refine aD rfl (fun _ => dX rfl rfl) rfl rfl ?_ | refine aD rfl (fun _ => dY rfl rfl) rfl rfl ?_) | (refine bT ?_; first | refine aD rfl (fun _ => dZ rfl w_) rfl rfl ?_) | (refine gM ?_; first | refine aD rfl (fun _ => dD rfl w_) rfl rfl ?_) | (refine gH ?_; first | refine aD rfl (fun _ => bL rfl) rfl rfl ?_ | refine aD rfl (fun _ => dH rfl rfl) rfl rfl ?_ | refine aD rfl (fun _ => dJ rfl rfl) rfl rfl ?_ | refine aD rfl (fun _ => dI rfl rfl rfl) rfl rfl ?_) | (refine gL ?_; first | refine gP rfl (by decide) rfl rfl ?_ | refine jH rfl (by decide) rfl rfl ?_) | (refine gN ?_; first | refine aD rfl (fun _ => cO rfl) rfl rfl ?_) | (refine gW ?_; first | refine jB rfl rfl iQ rfl rfl ?_ | refine jE qV rfl rfl iQ aP jL rfl rfl ?_ | refine jF qV rfl rfl iQ aP jL rfl rfl ?_ | refine aD rfl (fun _ => bS rfl rfl iQ) rfl rfl ?_) | (refine gV ?_; first | refine jI qV rfl aP nJ rfl rfl ?_ | refine jG qV rfl aP nJ rfl rfl ?_ | refine jC qV rfl aP nJ rfl rfl ?_ | refine fI qV rfl aP nJ rfl rfl ?_ | refine kQ qV rfl aP iG fC rfl rfl ?_ | refine kR qV rfl aP iG fC rfl rfl ?_ | refine kP qV rfl aP iG fC rfl rfl ?_ | refine jM qV rfl aP iG fC rfl rfl ?_) | (refine gU ?_; first | refine aD rfl (fun _ => bR rfl rfl) rfl rfl ?_ | refine aD rfl (fun _ => bJ rfl) rfl rfl ?_) | (refine iH ?_; first | refine lT rfl rfl rfl lW stC rfl rfl ⟨mQ, ?_⟩ | refine gF rfl rfl fC qE lW qO rfl rfl ⟨mQ, ?_⟩) | (refine iM ?_; first | refine bZ rfl ?_ | refine bQ rfl ?_ | refine jQ rfl (by omega) ?_ | refine lZ rfl (by omega) ?_ | refine rW rfl (fun h => ?_) (fun h => ?_) | refine nU rfl (fun h => ?_) (fun h => ?_)))
 (repeat refine aH ?_); refine dG 4 [0, 1, 2, 3, 4, 5, 7, 6, 8, 9, 10, 11] [4, 4, 4, 4, 3, 3, 3, 0, 0, 0, 0, 0] mixed (by kernel_rfl) ?_
 repeat (refine kS ?_)
 (refine aT rfl (iJ (c := c) hy (by omega) aP) rfl rfl ?_; rintro _ _ _ ⟨rfl, rfl, rfl⟩; refine ⟨mQ, ?_⟩)
 repeat (refine kS ?_)
 (refine aT rfl (iJ (c := c') hz (by omega) aP) rfl rfl ?_; rintro _ _ _ ⟨rfl, rfl, rfl⟩; refine ⟨mQ, ?_⟩)
 repeat (refine kS ?_)
 (refine aT rfl (aMR (by omega) (by omega) aP aP) rfl rfl ?_; rintro _ _ _ ⟨rfl, q3, c3, rfl, hc3, rfl⟩; refine ⟨mQ, ?_⟩)
 have hyz : y.natAbs * z.natAbs ≤ 2 ^ (k + m) := xB hy hz
 have hl3 := fK hyz (by omega)
 have hsg : sg (¬ (y < 0 ↔ z < 0)) (y.natAbs * z.natAbs) = y * z := by
  unfold sg
  rw [Int.natCast_mul]
  by_cases h1 : y < 0 <;> by_cases h2 : z < 0 <;> simp only [h1, h2, not_true_eq_false, not_false_eq_true, iff_true, iff_false, if_true, if_false]
  ·rw [show (y.natAbs : Int) = -y by omega, show (z.natAbs : Int) = -z by omega, Int.neg_mul_neg]
  ·rw [show (y.natAbs : Int) = -y by omega, show (z.natAbs : Int) = z by omega, Int.neg_mul, Int.neg_neg]
  ·rw [show (y.natAbs : Int) = y by omega, show (z.natAbs : Int) = -z by omega, Int.mul_neg, Int.neg_neg]
  ·rw [show (y.natAbs : Int) = y by omega, show (z.natAbs : Int) = z by omega]
 rw [← hsg]
 (refine aT rfl (lF (p := ¬ (y < 0 ↔ z < 0)) (k := k + m) (by omega) hc3 hyz aP) rfl rfl ?_; rintro _ _ _ ⟨rfl, rfl⟩; refine ⟨mQ, ?_⟩; refine aU (List.Mem.head _) (fun q2 c2 e__ hc2 hz2 => ?_); subst e__)
 unfold iv
 repeat (refine kS ?_)
 refine bC (cs := [.bool (B (sg (¬ (y < 0 ↔ z < 0)) (y.natAbs * z.natAbs) < 0)), .slice q2 (gr (sg (¬ (y < 0 ↔ z < 0)) (y.natAbs * z.natAbs)).natAbs).length c2]) (.inl rfl) rfl rfl aP rfl _ _ cZ cK ⟨rfl, rfl⟩
end
end Go.Proofs.YtmmmfphealhapaaGreat

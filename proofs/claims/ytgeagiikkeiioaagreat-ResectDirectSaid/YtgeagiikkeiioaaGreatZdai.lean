/- integer: the numbers: made, Valid, groups, Sign, Neg, Mul -/
import Derived.Test.YtgeagiikkeiioaaGreatZdah
import Derived.Test.YtgeagiikkeiioaaGreatZdag
set_option linter.unusedSimpArgs false
set_option linter.unusedVariables false
set_option maxRecDepth 100000
set_option maxHeartbeats 4000000
namespace Go.Proofs.YtgeagiikkeiioaaGreat
open Go Go.Fx
def iv (q : Option Addr) (c : Nat) (z : Int) : Value := .agg #[.bool (B (z < 0)), .slice q (gr z.natAbs).length c]
abbrev oU (q : Option Addr) (n c : Nat) : Prop := (gr n).length ≤ c ∧ (Ok q ∨ ((gr n).length = 0 ∧ c = 0))
structure IsI (u : Value) (z : Int) (k : Nat) (X : List Nat) (w : World) : Prop where
 ex : ∃ q c, u = iv q c z ∧ oU q z.natAbs c ∧ z.natAbs ≤ 2 ^ k ∧ Sl X w q (recs eG (gr z.natAbs))
abbrev iI (u : Value) (z : Int) (k : Nat) : bD := IsI u z k
instance (u : Value) (z : Int) (k : Nat) : Fx.Good (IsI u z k) := ⟨fun X Y w w' h he hY => by
 obtain ⟨q, c, h1, h2, h3, h4⟩ := h.ex
 exact ⟨q, c, h1, h2, h3, Sl.carry h4 he hY⟩⟩
def sg (p : Prop) [Decidable p] (n : Nat) : Int := if p then -(n : Int) else n
theorem aNK (p : Prop) [Decidable p] (n : Nat) : (sg p n).natAbs = n := by unfold sg; split <;> omega
theorem pF (z : Int) : sg (z < 0) z.natAbs = z := by unfold sg; split <;> omega
theorem aNG (z : Int) : sg (¬ z < 0) z.natAbs = -z := by unfold sg; split <;> omega
theorem sg_lt {p : Prop} [Decidable p] {n : Nat} (h : n ≠ 0) : sg p n < 0 ↔ p := by unfold sg; split <;> simp_all <;> omega
section
variable {P : Program} {n : Nat} {Q : Exit → Act → World → Prop} {G : Env} {X : List Nat} {w0 : World} {M M' : List Ent} {I I' : List bD}
theorem dG {f : FuncId} {vs : List Value} {K : Value → List Ent → List bD → Prop} {u : Value} {z : Int} {k : Nat} (hu : iI u z k ∈ I)
  (h : ∀ q c, u = iv q c z → oU q z.natAbs c → z.natAbs ≤ 2 ^ k → CD P f vs X w0 M (bH q (recs eG (gr z.natAbs)) :: I) K) : CD P f vs X w0 M I K :=
 ⟨fun w hw => by
  obtain ⟨q, c, h1, h2, h3, h4⟩ := ((hw.imm _ hu).2).ex
  exact (h q c h1 h2 h3).go w (hw.add (φ := bH q _) ⟨h4⟩)⟩
theorem aCE {w : World} {q : Option Addr} {c : Nat} {z : Int} {k : Nat} (hw : Mem X w0 M I w) (hm : bH q (recs eG (gr z.natAbs)) ∈ I) (hc : oU q z.natAbs c) (hk : z.natAbs ≤ 2 ^ k) : Mem X w0 M (iI (iv q c z) z k :: I) w :=
 hw.add (φ := iI _ z k) ⟨q, c, rfl, hc, hk, hw.sl hm⟩
theorem aBV {ex : Exit} {q : Option Addr} {c : Nat} {z : Int} {k : Nat} (hm : bH q (recs eG (gr z.natAbs)) ∈ I) (hc : oU q z.natAbs c) (hk : z.natAbs ≤ 2 ^ k) (h : ND n Q ex G X w0 M (iI (iv q c z) z k :: I)) : ND n Q ex G X w0 M I := zM (fun _ hw => aCE hw hm hc hk) h
theorem uA {ops l : List Oper} {m : Fx.Mode} {q : Option Addr} {c : Nat} {z : Int} {k : Nat} (hm : bH q (recs eG (gr z.natAbs)) ∈ I) (hc : oU q z.natAbs c) (hk : z.natAbs ≤ 2 ^ k) (h : RD P n ops Q m l G X w0 M (iI (iv q c z) z k :: I)) : RD P n ops Q m l G X w0 M I := vB (fun _ hw => aCE hw hm hc hk) h
theorem bF {ops l : List Oper} {m : Fx.Mode} {u : Value} {z : Int} {k : Nat} (hu : iI u z k ∈ I)
  (h : ∀ q c, u = iv q c z → oU q z.natAbs c → z.natAbs ≤ 2 ^ k → RD P n ops Q m l G X w0 M (bH q (recs eG (gr z.natAbs)) :: I)) : RD P n ops Q m l G X w0 M I :=
 ⟨fun w hw => by
  obtain ⟨q, c, h1, h2, h3, h4⟩ := ((hw.imm _ hu).2).ex
  exact (h q c h1 h2 h3).go w (hw.add (φ := bH q _) ⟨h4⟩)⟩
theorem IsI.mono {u : Value} {z : Int} {k m : Nat} {X : List Nat} {w : World} (h : IsI u z k X w) (hk : k ≤ m) : IsI u z m X w := by
 obtain ⟨q, c, h1, h2, h3, h4⟩ := h.ex
 exact ⟨q, c, h1, h2, Nat.le_trans h3 (Nat.pow_le_pow_right (by decide) hk), h4⟩
end
theorem gH {n k : Nat} (h : n ≤ 2 ^ k) (hk : k ≤ 1000000000000) : (gr n).length ≤ 40000000000 := by
 have := eU h
 omega
/- ---------- IndexFunc, ContainsFunc of []uint32 ---------- -/
section
variable {X : List Nat} {w0 : World} {M0 : List Ent} {I0 : List bD}
theorem aOH {q : Option Addr} {a : List Int} {c : Nat} {g : FuncId} [FnOk Tryz.prog g] {fs cs : Array Value} (pr : Int → Prop) [DecidablePred pr] (hn : (a.length : Int) ≤ 9223372036854775807) (ha : bH q (recs eG a) ∈ I0)
  (hg : ∀ i : Nat, i < a.length → CD Tryz.prog g (fs.toList ++ [Value.int .u32 (gt a i)] ++ cs.toList) X w0 M0 I0 (fun v M I => M0 = M ∧ I0 = I ∧ v = .bool (B (pr (gt a i))))) :
  CD Tryz.prog 225 [.slice q a.length c, .func (.func g) fs cs] X w0 M0 I0 (fun v M I => M0 = M ∧ I0 = I ∧ ∃ r : Int, v = .int .i64 r ∧ ((∃ i : Nat, i < a.length ∧ r = i ∧ pr (gt a i) ∧ ∀ j : Nat, j < i → ¬ pr (gt a j)) ∨ (r = -1 ∧ ∀ j : Nat, j < a.length → ¬ pr (gt a j)))) := by
 refine fG Tryz.func225 rfl Tryz.ntmps225 rfl ?_
 repeat (refine kR ?_)
 refine aV [0, 1, 7] rfl (fun k G M I => ∃ i : Nat, i ≤ a.length ∧ k = a.length - i ∧ (∀ j : Nat, j < i → ¬ pr (gt a j)) ∧ G = [(8, .int .i64 i)] ∧ M = M0 ∧ I = I0) (a.length) _ _ _ aO dS dP (⟨0, by omega, rfl, fun j hj => by omega, rfl, rfl, rfl⟩) ?_
 rintro k G M I ⟨i, hi, rfl, hs, rfl, rfl, rfl⟩
 repeat' (first | refine kR ?_ | refine aU rfl (fun h => ?_) (fun h => ?_) | refine aT rfl rfl (fun h => ?_) (fun h => ?_) | fail)
 ·have hlt : i < a.length := by omega
  (refine aEG rfl rfl (hg i hlt) rfl rfl rfl ?_; rintro _ _ _ ⟨rfl, rfl, rfl⟩; refine ⟨mX, ?_⟩)
  repeat' (first | refine kR ?_ | refine aU rfl (fun h => ?_) (fun h => ?_) | refine aT rfl rfl (fun h => ?_) (fun h => ?_) | fail)
  ·refine aN (by first | exact .inl rfl | exact .inr rfl) rfl rfl _ _ dS dP (⟨rfl, rfl, _, rfl, .inl ⟨i, hlt, rfl, by assumption, hs⟩⟩)
  ·refine aP (a.length - (i + 1)) _ _ _ (by first | omega | (simp only [List.length_append, List.length_cons, List.length_nil]; omega)) aO dS dP (⟨i + 1, by omega, rfl, fun j hj => ?_, rfl, rfl, rfl⟩)
   by_cases e : j = i
   ·subst e; assumption
   ·exact hs j (by omega)
 ·refine aN (by first | exact .inl rfl | exact .inr rfl) rfl rfl _ _ dS dP (⟨rfl, rfl, _, rfl, .inr ⟨rfl, fun j hj => hs j (by omega)⟩⟩)
theorem aNO {q : Option Addr} {a : List Int} {c : Nat} {g : FuncId} [FnOk Tryz.prog g] {fs cs : Array Value} (pr : Int → Prop) [DecidablePred pr] (hn : (a.length : Int) ≤ 9223372036854775807) (ha : bH q (recs eG a) ∈ I0)
  (hg : ∀ i : Nat, i < a.length → CD Tryz.prog g (fs.toList ++ [Value.int .u32 (gt a i)] ++ cs.toList) X w0 M0 I0 (fun v M I => M0 = M ∧ I0 = I ∧ v = .bool (B (pr (gt a i))))) :
  CD Tryz.prog 203 [.slice q a.length c, .func (.func g) fs cs] X w0 M0 I0 (fun v M I => M0 = M ∧ I0 = I ∧ v = .bool (B (∃ x ∈ a, pr x))) := by
 refine fG Tryz.func203 rfl Tryz.ntmps203 rfl ?_
 repeat (refine kR ?_)
 (refine aZ rfl (aOH pr hn ha hg) rfl rfl ?_; rintro _ _ _ ⟨rfl, rfl, r, rfl, h⟩; refine ⟨mX, ?_⟩)
 repeat (refine kR ?_)
 refine aN (by first | exact .inl rfl | exact .inr rfl) rfl rfl _ _ dS dP (⟨rfl, rfl, congrArg Value.bool (fM ?_)⟩)
 rcases h with ⟨i, hi, rfl, hp, _⟩ | ⟨rfl, h⟩
 ·exact ⟨fun _ => ⟨gt a i, by rw [kE hi]; exact List.getElem_mem hi, hp⟩, fun _ => by omega⟩
 ·refine ⟨fun h => by omega, ?_⟩
  rintro ⟨x, hx, hp⟩
  obtain ⟨j, hj, rfl⟩ := List.mem_iff_getElem.1 hx
  exact absurd (by rw [kE hj]; exact hp) (h j hj)
end
/- ---------- Clone of []uint32 ---------- -/
section
variable {X : List Nat} {w0 : World} {M0 : List Ent} {I0 : List bD}
theorem wX {q : Option Addr} {a : List Int} {c : Nat} (hn : (a.length : Int) * 4 ≤ 140737488355328) (hok : Ok q ∨ (a.length = 0 ∧ c = 0)) (ha : bH q (recs eG a) ∈ I0) :
  CD Tryz.prog 175 [.slice q a.length c] X w0 M0 I0 (fun v M I => I0 = I ∧ ∃ q' c', v = .slice q' a.length c' ∧ M = .row q' a.length c' (recs eG a) 155 1 :: M0) := by
 refine fG Tryz.func175 rfl Tryz.ntmps175 rfl ?_
 repeat (refine kR ?_)
 refine aH rfl (fun _ => aEA rfl) rfl rfl ?_
 cases q with
 | some ad =>
  repeat (refine kR ?_)
  (refine bL (cs := recs eG []) ([]) rfl rfl (by intro v hv; repeat (first | exact absurd hv (List.not_mem_nil) | (rcases List.mem_cons.1 hv with rfl | hv; · rfl))) (by omega) rfl rfl rfl ?_; intro b1; refine ⟨mX, ?_⟩)
  repeat (refine kR ?_)
  refine jP (mm := 0) 1 nE rfl (by omega) ?_
  refine eY (xs := []) (ys := a) 0 rfl rfl rfl (Src.imm aX hok) (by decide) rfl (by simp; omega) (by simp; omega) rfl rfl ?_
  intro a2 c2
  refine ⟨mX, ?_⟩
  repeat (refine kR ?_)
  refine aN (by first | exact .inl rfl | exact .inr rfl) rfl rfl _ _ dS dP (⟨rfl, a2, c2, by simp, by simp⟩)
 | none =>
  obtain ⟨h0, rfl⟩ : a.length = 0 ∧ c = 0 := hok.resolve_left (fun h => by obtain ⟨b, o, e⟩ := h.cases; cases e)
  have hnil : a = [] := List.eq_nil_of_length_eq_zero h0
  subst hnil
  repeat (refine kR ?_)
  refine aOL 155 1 ?_
  refine aN (by first | exact .inl rfl | exact .inr rfl) rfl rfl _ _ dS dP (⟨rfl, none, 0, rfl, rfl⟩)
end
section
variable {X : List Nat} {w0 : World} {M0 : List Ent} {I0 : List bD}
theorem lI {p : Prop} [Decidable p] {q : Option Addr} {n c k : Nat} (hl : (gr n).length ≤ 100000000000) (hc : oU q n c) (hk : n ≤ 2 ^ k) (hq : bH q (recs eG (gr n)) ∈ I0) :
  CD Tryz.prog 172 [.bool (B p), .slice q (gr n).length c] X w0 M0 I0 (fun v M I => M0 = M ∧ I = iI v (sg p n) k :: I0) := by
 refine fG Tryz.func172 rfl Tryz.ntmps172 rfl ?_
 refine aK ?_
 refine aL ?_
 (refine aB rfl rfl ?_; intro b; refine ⟨mX, ?_⟩)
 repeat (refine kR ?_)
 (refine aZ rfl (oZ (l := gr n) rfl (by omega) hc.1 hq) rfl rfl ?_; rintro _ _ _ ⟨rfl, rfl, rfl⟩; refine ⟨mX, ?_⟩)
 rw [aAE (aAC n)]
 by_cases h0 : (gr n).length = 0
 ·have hn : n = 0 := mY.1 (List.eq_nil_of_length_eq_zero h0)
  subst hn
  repeat (refine kR ?_)
  (refine aH rfl (fun _ => dV (pvs := ([]).zipIdx.map (fun p => (p.2, p.1))) (cells := [.bool false, .slice none 0 0]) rfl rfl) rfl rfl ?_)
  repeat (refine kR ?_)
  have hz : sg p 0 = 0 := by unfold sg; split <;> rfl
  rw [hz]
  have hg0 : gr (0 : Int).natAbs = [] := gJ
  refine aCH none ?_
  refine aBV (q := none) (c := 0) (z := 0) (k := k) (by rw [hg0]; exact aX) ⟨by rw [hg0]; simp, .inr ⟨by rw [hg0]; rfl, rfl⟩⟩ (by simp) ?_
  have hiv : iv none 0 0 = .agg #[.bool false, .slice none 0 0] := by unfold iv; rw [hg0, aY (by omega)]; rfl
  rw [hiv]
  refine bK (cs := [.bool false, .slice none 0 0]) (.inl rfl) rfl rfl aX rfl _ _ dS dP ⟨rfl, rfl⟩
 ·have hn : n ≠ 0 := fun e => h0 (by rw [e, gJ]; rfl)
  repeat (refine kR ?_)
  (refine aH rfl (fun _ => dV (pvs := ([.bool (B p), .slice q (gr n).length c]).zipIdx.map (fun p => (p.2, p.1))) (cells := [.bool (B p), .slice q (gr n).length c]) rfl rfl) rfl rfl ?_)
  repeat (refine kR ?_)
  have ha := aNK p n
  refine aBV (q := q) (c := c) (z := sg p n) (k := k) (by rw [ha]; exact aX) (by rw [ha]; exact hc) (by rw [ha]; exact hk) ?_
  have hiv : iv q c (sg p n) = .agg #[.bool (B p), .slice q (gr n).length c] := by unfold iv; rw [ha, fM (sg_lt hn)]
  rw [hiv]
  refine bK (cs := [.bool (B p), .slice q (gr n).length c]) (.inl rfl) rfl rfl aX rfl _ _ dS dP ⟨rfl, rfl⟩
theorem aPI {x : Int} : CD Tryz.prog 204 [.int .u32 x] X w0 M0 I0 (fun v M I => M0 = M ∧ I0 = I ∧ v = .bool (B (1000000000 ≤ x))) := by
 refine fG Tryz.func204 rfl Tryz.ntmps204 rfl ?_
 repeat (refine kR ?_)
 refine aN (by first | exact .inl rfl | exact .inr rfl) rfl rfl _ _ dS dP (⟨rfl, rfl, rfl⟩)
def pQ (neg : Bool) (gs : List Int) : Prop := (gs = [] ∧ neg = false) ∨ (gs ≠ [] ∧ Top gs ∧ ¬ ∃ x ∈ gs, 1000000000 ≤ x)
instance (neg : Bool) (gs : List Int) : Decidable (pQ neg gs) := by unfold pQ; exact inferInstance
theorem yL {gs : List Int} (h : 0 < gs.length) : gs.getLastD 1 = gt gs ((gs.length : Int) - 1) := by
 rcases List.eq_nil_or_concat gs with rfl | ⟨r, x, e⟩
 ·simp at h
 ·rw [List.concat_eq_append] at e
  subst e
  have e1 : (((r ++ [x]).length : Int) - 1) = ((r.length : Nat) : Int) := by simp
  rw [e1, uO]
  simp
theorem sV {neg : Bool} {q : Option Addr} {gs : List Int} {c : Nat} (hn : (gs.length : Int) ≤ 9223372036854775807) (hq : bH q (recs eG gs) ∈ I0) :
  CD Tryz.prog 170 [.agg #[.bool neg, .slice q gs.length c]] X w0 M0 I0 (fun v M I => M0 = M ∧ I0 = I ∧ v = .bool (B (pQ neg gs))) := by
 refine fG Tryz.func170 rfl Tryz.ntmps170 rfl ?_
 refine aK ?_
 refine aL ?_
 (refine mK rfl rfl rfl ?_; intro b; refine ⟨mX, ?_⟩)
 by_cases h0 : gs.length = 0
 ·have hg : gs = [] := List.eq_nil_of_length_eq_zero h0
  subst hg
  repeat (refine kR ?_)
  refine aN (by first | exact .inl rfl | exact .inr rfl) rfl rfl _ _ dS dP (⟨rfl, rfl, by rw [show (!neg) = B (pQ neg []) by rw [qZ]; cases neg <;> simp [pQ]]⟩)
 ·have hgs : gs ≠ [] := fun e => h0 (by rw [e]; rfl)
  have hlast := yL (gs := gs) (by omega)
  repeat' (first | refine kR ?_ | refine aU rfl (fun h => ?_) (fun h => ?_) | refine aT rfl rfl (fun h => ?_) (fun h => ?_) | fail)
  ·(refine aZ rfl (aNO (fun x => 1000000000 ≤ x) hn hq (fun i hi => aPI)) rfl rfl ?_; rintro _ _ _ ⟨rfl, rfl, rfl⟩; refine ⟨mX, ?_⟩)
   repeat (refine kR ?_)
   refine aN (by first | exact .inl rfl | exact .inr rfl) rfl rfl _ _ dS dP (⟨rfl, rfl, congrArg Value.bool (fM ?_)⟩)
   unfold pQ Top
   rw [hlast]
   exact ⟨fun h => .inr ⟨hgs, by assumption, h⟩, fun h => h.elim (fun h => absurd h.1 hgs) (fun h => h.2.2)⟩
  ·refine aN (by first | exact .inl rfl | exact .inr rfl) rfl rfl _ _ dS dP (⟨rfl, rfl, congrArg Value.bool (aY ?_).symm⟩)
   unfold pQ Top
   rw [hlast]
   rintro (h | h)
   ·exact hgs h.1
   ·exact absurd h.2.1 (by assumption)
theorem wZ (z : Int) : pQ (B (z < 0)) (gr z.natAbs) := by
 by_cases h : z.natAbs = 0
 ·refine .inl ⟨by rw [h, gJ], aY (by omega)⟩
 ·refine .inr ⟨fun e => h (mY.1 e), aAC _, ?_⟩
  rintro ⟨x, hx, h1⟩
  have := cB z.natAbs x hx
  omega
theorem jJ {q : Option Addr} {c k : Nat} {z : Int} (hz : z.natAbs ≤ 2 ^ k) (hk : k ≤ 1000000000000) (hq : bH q (recs eG (gr z.natAbs)) ∈ I0) :
  CD Tryz.prog 176 [iv q c z] X w0 M0 I0 (fun v M I => M0 = M ∧ I0 = I ∧ v = .slice q (gr z.natAbs).length c) := by
 have hl := gH hz hk
 unfold iv
 refine fG Tryz.func176 rfl Tryz.ntmps176 rfl ?_
 refine aK ?_
 refine aL ?_
 (refine mK rfl rfl rfl ?_; intro b; refine ⟨mX, ?_⟩)
 repeat (refine kR ?_)
 (refine aZ rfl (sV (neg := B (z < 0)) (gs := gr z.natAbs) (by omega) hq) rfl rfl ?_; rintro _ _ _ ⟨rfl, rfl, rfl⟩; refine ⟨mX, ?_⟩)
 rw [bS (wZ z)]
 repeat (refine kR ?_)
 refine aN (by first | exact .inl rfl | exact .inr rfl) rfl rfl _ _ dS dP (⟨rfl, rfl, rfl⟩)
theorem rT {u : Value} {z : Int} {k : Nat} (hk : k ≤ 1000000000000) (hu : iI u z k ∈ I0) : CD Tryz.prog 136 [u] X w0 M0 I0 (fun v M I => M0 = M ∧ I0 = I ∧ v = .int .i64 z.sign) := by
 refine dG hu (fun q c e hc hz => ?_)
 subst e
 unfold iv
 refine fG Tryz.func136 rfl Tryz.ntmps136 rfl ?_
 refine aK ?_
 refine aL ?_
 (refine mK rfl rfl rfl ?_; intro b; refine ⟨mX, ?_⟩)
 repeat (refine kR ?_)
 (refine aZ rfl (jJ (c := c) hz hk aX) rfl rfl ?_; rintro _ _ _ ⟨rfl, rfl, rfl⟩; refine ⟨mX, ?_⟩)
 have hnil : (gr z.natAbs).length = 0 ↔ z = 0 := by
  rw [List.length_eq_zero_iff, mY]; omega
 by_cases h0 : z = 0
 ·have := hnil.2 h0
  repeat (refine kR ?_)
  refine aN (by first | exact .inl rfl | exact .inr rfl) rfl rfl _ _ dS dP (⟨rfl, rfl, by rw [h0]; rfl⟩)
 ·have : ¬ (gr z.natAbs).length = 0 := fun h => h0 (hnil.1 h)
  repeat' (first | refine kR ?_ | refine aU rfl (fun h => ?_) (fun h => ?_) | refine aT rfl rfl (fun h => ?_) (fun h => ?_) | fail)
  ·refine aN (by first | exact .inl rfl | exact .inr rfl) rfl rfl _ _ dS dP (⟨rfl, rfl, by rw [Int.sign_eq_neg_one_of_neg (by assumption)]⟩)
  ·refine aN (by first | exact .inl rfl | exact .inr rfl) rfl rfl _ _ dS dP (⟨rfl, rfl, by rw [Int.sign_eq_one_of_pos (by omega)]⟩)
theorem aFW {u : Value} {z : Int} {k : Nat} (hk : k ≤ 1000000000000) (hu : iI u z k ∈ I0) : CD Tryz.prog 133 [u] X w0 M0 I0 (fun v M I => M0 = M ∧ I = iI v (-z) k :: I0) := by
 refine dG hu (fun q c e hc hz => ?_)
 subst e
 have hl := gH hz hk
 unfold iv
 refine fG Tryz.func133 rfl Tryz.ntmps133 rfl ?_
 refine aK ?_
 refine aL ?_
 (refine mK rfl rfl rfl ?_; intro b; refine ⟨mX, ?_⟩)
 (refine aB rfl rfl ?_; intro b2; refine ⟨mX, ?_⟩)
 repeat' (first | refine aL ?_ | refine jT ?_ | refine iM ?_ | refine gF ?_ | refine fT ?_ | refine iN ?_ | refine gN ?_ | refine gD ?_ | refine fZ ?_ | refine jU ?_ | refine jV ?_ | refine jW ?_ | refine jX rfl ?_ | refine aJ ?_ | (refine gV ?_; first | refine gX rfl rfl rfl ?_ | (refine gU rfl rfl ?_; refine fK rfl rfl rfl mX ?_) | refine gZ rfl rfl (by omega) ?_ | refine iC rfl rfl (by omega) ?_ | refine pM rfl rfl (fun h => ?_) (fun h => ?_) | (fail_if_success (refine sG rfl ?_); refine oC rfl rfl (fun h => ?_) (fun h => ?_))) | (refine dD ?_; refine aH rfl (fun _ => eD rfl) rfl rfl ?_) | refine aH rfl (fun _ => bM rfl) rfl rfl ?_ | (refine gW ?_; first | refine aH rfl (fun _ => bX rfl rfl w_) rfl rfl ?_ | refine aH rfl (fun _ => bW rfl rfl w_) rfl rfl ?_ | refine aH rfl (fun _ => fD rfl rfl w_) rfl rfl ?_ | refine aH rfl (fun _ => fE rfl rfl (by omega) q_) rfl rfl ?_ | refine aH rfl (fun _ => fC rfl rfl (by omega) rfl) rfl rfl ?_ | refine aH rfl (fun _ => eQ rfl rfl) rfl rfl ?_ | refine aH rfl (fun _ => eT rfl rfl) rfl rfl ?_ | refine aH rfl (fun _ => dX rfl rfl) rfl rfl ?_) | (refine dD ?_; first | refine aH rfl (fun _ => fB rfl w_) rfl rfl ?_) | (refine gM ?_; first | refine aH rfl (fun _ => dM rfl w_) rfl rfl ?_) | (refine gP ?_; first | refine aH rfl (fun _ => bY rfl) rfl rfl ?_ | refine aH rfl (fun _ => dY rfl rfl) rfl rfl ?_ | refine aH rfl (fun _ => dZ rfl rfl) rfl rfl ?_ | refine aH rfl (fun _ => eF rfl rfl rfl) rfl rfl ?_) | (refine iB ?_; first | refine gT rfl (by decide) rfl rfl ?_ | refine jE rfl (by decide) rfl rfl ?_) | (refine gY ?_; first | refine jB rfl rfl fO rfl rfl ?_ | refine jG rC rfl rfl fO aX jK rfl rfl ?_ | refine jF rC rfl rfl fO aX jK rfl rfl ?_ | refine aH rfl (fun _ => cZ rfl rfl fO) rfl rfl ?_) | (refine bO ?_; first | refine jC rC rfl aX oV rfl rfl ?_ | refine jI rC rfl aX oV rfl rfl ?_ | refine jD rC rfl aX oV rfl rfl ?_ | refine gQ rC rfl aX oV rfl rfl ?_ | refine lX rC rfl aX jN gG rfl rfl ?_ | refine lV rC rfl aX jN gG rfl rfl ?_ | refine lW rC rfl aX jN gG rfl rfl ?_ | refine kH rC rfl aX jN gG rfl rfl ?_) | (refine iA ?_; first | refine aH rfl (fun _ => dB rfl rfl) rfl rfl ?_ | refine aH rfl (fun _ => bV rfl) rfl rfl ?_) | (refine jA ?_; first | refine kV rfl rfl rfl nE stC rfl rfl ⟨mX, ?_⟩ | refine gI rfl rfl gG rY nE rX rfl rfl ⟨mX, ?_⟩) | (refine iL ?_; first | refine dH rfl ?_ | refine cO rfl ?_ | refine jZ rfl (by omega) ?_ | refine lY rfl (by omega) ?_ | refine sM rfl (fun h => ?_) (fun h => ?_) | refine oD rfl (fun h => ?_) (fun h => ?_)))
 (repeat refine aK ?_); refine bQ 3 [0, 1, 2, 3, 4, 5, 6, 7] [3, 3, 2, 2, 0, 0, 0, 0] mixed (by kernel_rfl) ?_
 repeat (refine kR ?_)
 (refine aZ rfl (jJ (c := c) hz hk aX) rfl rfl ?_; rintro _ _ _ ⟨rfl, rfl, rfl⟩; refine ⟨mX, ?_⟩)
 repeat (refine kR ?_)
 (refine aZ rfl (wX (a := gr z.natAbs) (by omega) hc.2 aX) rfl rfl ?_; rintro _ _ _ ⟨rfl, q', c', rfl, rfl⟩; refine ⟨mX, ?_⟩)
 refine mM (fun w hw => And.intro (hw.rowLe (List.Mem.head _)) ((hw.rowS (List.Mem.head _)).2.imp id And.right)) (fun hc' => ?_)
 refine iF uW ?_
 repeat (refine kR ?_)
 rw [← aNG z]
 (refine aZ rfl (lI (p := ¬ z < 0) (k := k) (by omega) hc' hz aX) rfl rfl ?_; rintro _ _ _ ⟨rfl, rfl⟩; refine ⟨mX, ?_⟩; refine bF (List.Mem.head _) (fun q2 c2 e__ hc2 hz2 => ?_); subst e__)
 unfold iv
 repeat (refine kR ?_)
 refine bK (cs := [.bool (B (sg (¬ z < 0) z.natAbs < 0)), .slice q2 (gr (sg (¬ z < 0) z.natAbs).natAbs).length c2]) (.inl rfl) rfl rfl aX rfl _ _ dS dP ⟨rfl, rfl⟩
theorem rJ {u v : Value} {y z : Int} {k m : Nat} (hk : k + m ≤ 1000000000000) (hu : iI u y k ∈ I0) (hv : iI v z m ∈ I0) : CD Tryz.prog 138 [u, v] X w0 M0 I0 (fun v M I => M0 = M ∧ I = iI v (y * z) (k + m) :: I0) := by
 refine dG hu (fun q c e hc hy => ?_)
 subst e
 refine dG (List.Mem.tail _ hv) (fun q' c' e hc' hz => ?_)
 subst e
 have hl := gH hy (by omega)
 have hl' := gH hz (by omega)
 unfold iv
 refine fG Tryz.func138 rfl Tryz.ntmps138 rfl ?_
 refine aK ?_
 refine aL ?_
 (refine mK rfl rfl rfl ?_; intro b; refine ⟨mX, ?_⟩)
 (refine mK rfl rfl rfl ?_; intro b2; refine ⟨mX, ?_⟩)
 (refine aB rfl rfl ?_; intro b3; refine ⟨mX, ?_⟩)
 repeat' (first | refine aL ?_ | refine jT ?_ | refine iM ?_ | refine gF ?_ | refine fT ?_ | refine iN ?_ | refine gN ?_ | refine gD ?_ | refine fZ ?_ | refine jU ?_ | refine jV ?_ | refine jW ?_ | refine jX rfl ?_ | refine aJ ?_ | (refine gV ?_; first | refine gX rfl rfl rfl ?_ | (refine gU rfl rfl ?_; refine fK rfl rfl rfl mX ?_) | refine gZ rfl rfl (by omega) ?_ | refine iC rfl rfl (by omega) ?_ | refine pM rfl rfl (fun h => ?_) (fun h => ?_) | (fail_if_success (refine sG rfl ?_); refine oC rfl rfl (fun h => ?_) (fun h => ?_))) | (refine dD ?_; refine aH rfl (fun _ => eD rfl) rfl rfl ?_) | refine aH rfl (fun _ => bM rfl) rfl rfl ?_ | (refine gW ?_; first | refine aH rfl (fun _ => bX rfl rfl w_) rfl rfl ?_ | refine aH rfl (fun _ => bW rfl rfl w_) rfl rfl ?_ | refine aH rfl (fun _ => fD rfl rfl w_) rfl rfl ?_ | refine aH rfl (fun _ => fE rfl rfl (by omega) q_) rfl rfl ?_ | refine aH rfl (fun _ => fC rfl rfl (by omega) rfl) rfl rfl ?_ | refine aH rfl (fun _ => eQ rfl rfl) rfl rfl ?_ | refine aH rfl (fun _ => eT rfl rfl) rfl rfl ?_ | refine aH rfl (fun _ => dX rfl rfl) rfl rfl ?_) | (refine dD ?_; first | refine aH rfl (fun _ => fB rfl w_) rfl rfl ?_) | (refine gM ?_; first | refine aH rfl (fun _ => dM rfl w_) rfl rfl ?_) | (refine gP ?_; first | refine aH rfl (fun _ => bY rfl) rfl rfl ?_ | refine aH rfl (fun _ => dY rfl rfl) rfl rfl ?_ | refine aH rfl (fun _ => dZ rfl rfl) rfl rfl ?_ | refine aH rfl (fun _ => eF rfl rfl rfl) rfl rfl ?_) | (refine iB ?_; first | refine gT rfl (by decide) rfl rfl ?_ | refine jE rfl (by decide) rfl rfl ?_) | (refine gY ?_; first | refine jB rfl rfl fO rfl rfl ?_ | refine jG rC rfl rfl fO aX jK rfl rfl ?_ | refine jF rC rfl rfl fO aX jK rfl rfl ?_ | refine aH rfl (fun _ => cZ rfl rfl fO) rfl rfl ?_) | (refine bO ?_; first | refine jC rC rfl aX oV rfl rfl ?_ | refine jI rC rfl aX oV rfl rfl ?_ | refine jD rC rfl aX oV rfl rfl ?_ | refine gQ rC rfl aX oV rfl rfl ?_ | refine lX rC rfl aX jN gG rfl rfl ?_ | refine lV rC rfl aX jN gG rfl rfl ?_ | refine lW rC rfl aX jN gG rfl rfl ?_ | refine kH rC rfl aX jN gG rfl rfl ?_) | (refine iA ?_; first | refine aH rfl (fun _ => dB rfl rfl) rfl rfl ?_ | refine aH rfl (fun _ => bV rfl) rfl rfl ?_) | (refine jA ?_; first | refine kV rfl rfl rfl nE stC rfl rfl ⟨mX, ?_⟩ | refine gI rfl rfl gG rY nE rX rfl rfl ⟨mX, ?_⟩) | (refine iL ?_; first | refine dH rfl ?_ | refine cO rfl ?_ | refine jZ rfl (by omega) ?_ | refine lY rfl (by omega) ?_ | refine sM rfl (fun h => ?_) (fun h => ?_) | refine oD rfl (fun h => ?_) (fun h => ?_)))
 (repeat refine aK ?_); refine bQ 4 [0, 1, 2, 3, 4, 5, 7, 6, 8, 9, 10, 11] [4, 4, 4, 4, 3, 3, 3, 0, 0, 0, 0, 0] mixed (by kernel_rfl) ?_
 repeat (refine kR ?_)
 (refine aZ rfl (jJ (c := c) hy (by omega) aX) rfl rfl ?_; rintro _ _ _ ⟨rfl, rfl, rfl⟩; refine ⟨mX, ?_⟩)
 repeat (refine kR ?_)
 (refine aZ rfl (jJ (c := c') hz (by omega) aX) rfl rfl ?_; rintro _ _ _ ⟨rfl, rfl, rfl⟩; refine ⟨mX, ?_⟩)
 repeat (refine kR ?_)
 (refine aZ rfl (aML (by omega) (by omega) aX aX) rfl rfl ?_; rintro _ _ _ ⟨rfl, q3, c3, rfl, hc3, rfl⟩; refine ⟨mX, ?_⟩)
 have hyz : y.natAbs * z.natAbs ≤ 2 ^ (k + m) := xU hy hz
 have hl3 := gH hyz (by omega)
 have hsg : sg (¬ (y < 0 ↔ z < 0)) (y.natAbs * z.natAbs) = y * z := by
  unfold sg
  rw [Int.natCast_mul]
  by_cases h1 : y < 0 <;> by_cases h2 : z < 0 <;> simp only [h1, h2, not_true_eq_false, not_false_eq_true, iff_true, iff_false, if_true, if_false]
  ·rw [show (y.natAbs : Int) = -y by omega, show (z.natAbs : Int) = -z by omega, Int.neg_mul_neg]
  ·rw [show (y.natAbs : Int) = -y by omega, show (z.natAbs : Int) = z by omega, Int.neg_mul, Int.neg_neg]
  ·rw [show (y.natAbs : Int) = y by omega, show (z.natAbs : Int) = -z by omega, Int.mul_neg, Int.neg_neg]
  ·rw [show (y.natAbs : Int) = y by omega, show (z.natAbs : Int) = z by omega]
 rw [← hsg]
 (refine aZ rfl (lI (p := ¬ (y < 0 ↔ z < 0)) (k := k + m) (by omega) hc3 hyz aX) rfl rfl ?_; rintro _ _ _ ⟨rfl, rfl⟩; refine ⟨mX, ?_⟩; refine bF (List.Mem.head _) (fun q2 c2 e__ hc2 hz2 => ?_); subst e__)
 unfold iv
 repeat (refine kR ?_)
 refine bK (cs := [.bool (B (sg (¬ (y < 0 ↔ z < 0)) (y.natAbs * z.natAbs) < 0)), .slice q2 (gr (sg (¬ (y < 0 ↔ z < 0)) (y.natAbs * z.natAbs)).natAbs).length c2]) (.inl rfl) rfl rfl aX rfl _ _ dS dP ⟨rfl, rfl⟩
end
end Go.Proofs.YtgeagiikkeiioaaGreat

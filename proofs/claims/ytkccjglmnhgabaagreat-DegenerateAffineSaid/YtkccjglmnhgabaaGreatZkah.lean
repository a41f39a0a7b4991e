/- integer: the numbers: made, Valid, groups, Sign, Neg, Mul -/
import Derived.Test.YtkccjglmnhgabaaGreatZkag
set_option linter.unusedSimpArgs false
set_option linter.unusedVariables false
set_option maxRecDepth 100000
set_option maxHeartbeats 4000000
namespace Go.Proofs.YtkccjglmnhgabaaGreat
open Go Go.Fx
def iv (q : Option Addr) (c : Nat) (z : Int) : Value := .agg #[.bool (B (z < 0)), .slice q (gr z.natAbs).length c]
abbrev qD (q : Option Addr) (n c : Nat) : Prop := (gr n).length ≤ c ∧ (Ok q ∨ ((gr n).length = 0 ∧ c = 0))
structure IsI (u : Value) (z : Int) (k : Nat) (X : List Nat) (w : World) : Prop where
 ex : ∃ q c, u = iv q c z ∧ qD q z.natAbs c ∧ z.natAbs ≤ 2 ^ k ∧ Sl X w q (recs eG (gr z.natAbs))
abbrev iJ (u : Value) (z : Int) (k : Nat) : aZ := IsI u z k
instance (u : Value) (z : Int) (k : Nat) : Fx.Good (IsI u z k) := ⟨fun X Y w w' h he hY => by
 obtain ⟨q, c, h1, h2, h3, h4⟩ := h.ex
 exact ⟨q, c, h1, h2, h3, Sl.carry h4 he hY⟩⟩
def sg (p : Prop) [Decidable p] (n : Nat) : Int := if p then -(n : Int) else n
theorem aPJ (p : Prop) [Decidable p] (n : Nat) : (sg p n).natAbs = n := by unfold sg; split <;> omega
theorem qG (z : Int) : sg (z < 0) z.natAbs = z := by unfold sg; split <;> omega
theorem aQU (z : Int) : sg (¬ z < 0) z.natAbs = -z := by unfold sg; split <;> omega
theorem sg_lt {p : Prop} [Decidable p] {n : Nat} (h : n ≠ 0) : sg p n < 0 ↔ p := by unfold sg; split <;> simp_all <;> omega
section
variable {P : Program} {n : Nat} {Q : Exit → Act → World → Prop} {G : Env} {X : List Nat} {w0 : World} {M M' : List Ent} {I I' : List aZ}
theorem dC {f : FuncId} {vs : List Value} {K : Value → List Ent → List aZ → Prop} {u : Value} {z : Int} {k : Nat} (hu : iJ u z k ∈ I)
  (h : ∀ q c, u = iv q c z → qD q z.natAbs c → z.natAbs ≤ 2 ^ k → CD P f vs X w0 M (aV q (recs eG (gr z.natAbs)) :: I) K) : CD P f vs X w0 M I K :=
 ⟨fun w hw => by
  obtain ⟨q, c, h1, h2, h3, h4⟩ := ((hw.imm _ hu).2).ex
  exact (h q c h1 h2 h3).go w (hw.add (φ := aV q _) ⟨h4⟩)⟩
theorem aEZ {w : World} {q : Option Addr} {c : Nat} {z : Int} {k : Nat} (hw : Mem X w0 M I w) (hm : aV q (recs eG (gr z.natAbs)) ∈ I) (hc : qD q z.natAbs c) (hk : z.natAbs ≤ 2 ^ k) : Mem X w0 M (iJ (iv q c z) z k :: I) w :=
 hw.add (φ := iJ _ z k) ⟨q, c, rfl, hc, hk, hw.sl hm⟩
theorem aDQ {ex : Exit} {q : Option Addr} {c : Nat} {z : Int} {k : Nat} (hm : aV q (recs eG (gr z.natAbs)) ∈ I) (hc : qD q z.natAbs c) (hk : z.natAbs ≤ 2 ^ k) (h : ND n Q ex G X w0 M (iJ (iv q c z) z k :: I)) : ND n Q ex G X w0 M I := yZ (fun _ hw => aEZ hw hm hc hk) h
theorem uN {ops l : List Oper} {m : Fx.Mode} {q : Option Addr} {c : Nat} {z : Int} {k : Nat} (hm : aV q (recs eG (gr z.natAbs)) ∈ I) (hc : qD q z.natAbs c) (hk : z.natAbs ≤ 2 ^ k) (h : RD P n ops Q m l G X w0 M (iJ (iv q c z) z k :: I)) : RD P n ops Q m l G X w0 M I := rU (fun _ hw => aEZ hw hm hc hk) h
theorem aX {ops l : List Oper} {m : Fx.Mode} {u : Value} {z : Int} {k : Nat} (hu : iJ u z k ∈ I)
  (h : ∀ q c, u = iv q c z → qD q z.natAbs c → z.natAbs ≤ 2 ^ k → RD P n ops Q m l G X w0 M (aV q (recs eG (gr z.natAbs)) :: I)) : RD P n ops Q m l G X w0 M I :=
 ⟨fun w hw => by
  obtain ⟨q, c, h1, h2, h3, h4⟩ := ((hw.imm _ hu).2).ex
  exact (h q c h1 h2 h3).go w (hw.add (φ := aV q _) ⟨h4⟩)⟩
theorem IsI.mono {u : Value} {z : Int} {k m : Nat} {X : List Nat} {w : World} (h : IsI u z k X w) (hk : k ≤ m) : IsI u z m X w := by
 obtain ⟨q, c, h1, h2, h3, h4⟩ := h.ex
 exact ⟨q, c, h1, h2, Nat.le_trans h3 (Nat.pow_le_pow_right (by decide) hk), h4⟩
end
theorem gU {n k : Nat} (h : n ≤ 2 ^ k) (hk : k ≤ 1000000000000) : (gr n).length ≤ 40000000000 := by
 have := eU h
 omega
/- ---------- IndexFunc, ContainsFunc of []uint32 ---------- -/
section
variable {X : List Nat} {w0 : World} {M0 : List Ent} {I0 : List aZ}
theorem aTQ {q : Option Addr} {a : List Int} {c : Nat} {g : FuncId} [FnOk Tryz.prog g] {fs cs : Array Value} (pr : Int → Prop) [DecidablePred pr] (hn : (a.length : Int) ≤ 9223372036854775807) (ha : aV q (recs eG a) ∈ I0)
  (hg : ∀ i : Nat, i < a.length → CD Tryz.prog g (fs.toList ++ [Value.int .u32 (gt a i)] ++ cs.toList) X w0 M0 I0 (fun v M I => M0 = M ∧ I0 = I ∧ v = .bool (B (pr (gt a i))))) :
  CD Tryz.prog 206 [.slice q a.length c, .func (.func g) fs cs] X w0 M0 I0 (fun v M I => M0 = M ∧ I0 = I ∧ ∃ r : Int, v = .int .i64 r ∧ ((∃ i : Nat, i < a.length ∧ r = i ∧ pr (gt a i) ∧ ∀ j : Nat, j < i → ¬ pr (gt a j)) ∨ (r = -1 ∧ ∀ j : Nat, j < a.length → ¬ pr (gt a j)))) := by
 refine dX Tryz.func206 rfl Tryz.ntmps206 rfl ?_
 repeat (refine kX ?_)
 refine aR [0, 1, 7] rfl (fun k G M I => ∃ i : Nat, i ≤ a.length ∧ k = a.length - i ∧ (∀ j : Nat, j < i → ¬ pr (gt a j)) ∧ G = [(8, .int .i64 i)] ∧ M = M0 ∧ I = I0) (a.length) _ _ _ aS bR bQ (⟨0, by omega, rfl, fun j hj => by omega, rfl, rfl, rfl⟩) ?_
 rintro k G M I ⟨i, hi, rfl, hs, rfl, rfl, rfl⟩
 repeat' (first | refine kX ?_ | refine aN rfl (fun h => ?_) (fun h => ?_) | refine aM rfl rfl (fun h => ?_) (fun h => ?_) | fail)
 ·have hlt : i < a.length := by omega
  (refine aAO rfl rfl (hg i hlt) rfl rfl rfl ?_; rintro _ _ _ ⟨rfl, rfl, rfl⟩; refine ⟨nN, ?_⟩)
  repeat' (first | refine kX ?_ | refine aN rfl (fun h => ?_) (fun h => ?_) | refine aM rfl rfl (fun h => ?_) (fun h => ?_) | fail)
  ·refine aG (by first | exact .inl rfl | exact .inr rfl) rfl rfl _ _ bR bQ (⟨rfl, rfl, _, rfl, .inl ⟨i, hlt, rfl, by assumption, hs⟩⟩)
  ·refine aJ (a.length - (i + 1)) _ _ _ (by first | omega | (simp only [List.length_append, List.length_cons, List.length_nil]; omega)) aS bR bQ (⟨i + 1, by omega, rfl, fun j hj => ?_, rfl, rfl, rfl⟩)
   by_cases e : j = i
   ·subst e; assumption
   ·exact hs j (by omega)
 ·refine aG (by first | exact .inl rfl | exact .inr rfl) rfl rfl _ _ bR bQ (⟨rfl, rfl, _, rfl, .inr ⟨rfl, fun j hj => hs j (by omega)⟩⟩)
theorem aUA {q : Option Addr} {a : List Int} {c : Nat} {g : FuncId} [FnOk Tryz.prog g] {fs cs : Array Value} (pr : Int → Prop) [DecidablePred pr] (hn : (a.length : Int) ≤ 9223372036854775807) (ha : aV q (recs eG a) ∈ I0)
  (hg : ∀ i : Nat, i < a.length → CD Tryz.prog g (fs.toList ++ [Value.int .u32 (gt a i)] ++ cs.toList) X w0 M0 I0 (fun v M I => M0 = M ∧ I0 = I ∧ v = .bool (B (pr (gt a i))))) :
  CD Tryz.prog 174 [.slice q a.length c, .func (.func g) fs cs] X w0 M0 I0 (fun v M I => M0 = M ∧ I0 = I ∧ v = .bool (B (∃ x ∈ a, pr x))) := by
 refine dX Tryz.func174 rfl Tryz.ntmps174 rfl ?_
 repeat (refine kX ?_)
 (refine aQ rfl (aTQ pr hn ha hg) rfl rfl ?_; rintro _ _ _ ⟨rfl, rfl, r, rfl, h⟩; refine ⟨nN, ?_⟩)
 repeat (refine kX ?_)
 refine aG (by first | exact .inl rfl | exact .inr rfl) rfl rfl _ _ bR bQ (⟨rfl, rfl, congrArg Value.bool (iA ?_)⟩)
 rcases h with ⟨i, hi, rfl, hp, _⟩ | ⟨rfl, h⟩
 ·exact ⟨fun _ => ⟨gt a i, by rw [kI hi]; exact List.getElem_mem hi, hp⟩, fun _ => by omega⟩
 ·refine ⟨fun h => by omega, ?_⟩
  rintro ⟨x, hx, hp⟩
  obtain ⟨j, hj, rfl⟩ := List.mem_iff_getElem.1 hx
  exact absurd (by rw [kI hj]; exact hp) (h j hj)
end
/- ---------- Clone of []uint32 ---------- -/
section
variable {X : List Nat} {w0 : World} {M0 : List Ent} {I0 : List aZ}
theorem yK {q : Option Addr} {a : List Int} {c : Nat} (hn : (a.length : Int) * 4 ≤ 140737488355328) (hok : Ok q ∨ (a.length = 0 ∧ c = 0)) (ha : aV q (recs eG a) ∈ I0) :
  CD Tryz.prog 153 [.slice q a.length c] X w0 M0 I0 (fun v M I => I0 = I ∧ ∃ q' c', v = .slice q' a.length c' ∧ M = .row q' a.length c' (recs eG a) 179 1 :: M0) := by
 refine dX Tryz.func153 rfl Tryz.ntmps153 rfl ?_
 repeat (refine kX ?_)
 refine aC rfl (fun _ => zD rfl) rfl rfl ?_
 cases q with
 | some ad =>
  repeat (refine kX ?_)
  (refine aW (cs := recs eG []) ([]) rfl rfl (by intro v hv; repeat (first | exact absurd hv (List.not_mem_nil) | (rcases List.mem_cons.1 hv with rfl | hv; · rfl))) (by omega) rfl rfl rfl ?_; intro b1; refine ⟨nN, ?_⟩)
  repeat (refine kX ?_)
  refine jN (mm := 0) 1 mU rfl (by omega) ?_
  refine eP (xs := []) (ys := a) 0 rfl rfl rfl (Src.imm aO hok) (by decide) rfl (by simp; omega) (by simp; omega) rfl rfl ?_
  intro a2 c2
  refine ⟨nN, ?_⟩
  repeat (refine kX ?_)
  refine aG (by first | exact .inl rfl | exact .inr rfl) rfl rfl _ _ bR bQ (⟨rfl, a2, c2, by simp, by simp⟩)
 | none =>
  obtain ⟨h0, rfl⟩ : a.length = 0 ∧ c = 0 := hok.resolve_left (fun h => by obtain ⟨b, o, e⟩ := h.cases; cases e)
  have hnil : a = [] := List.eq_nil_of_length_eq_zero h0
  subst hnil
  repeat (refine kX ?_)
  refine aJX 179 1 ?_
  refine aG (by first | exact .inl rfl | exact .inr rfl) rfl rfl _ _ bR bQ (⟨rfl, none, 0, rfl, rfl⟩)
end
section
variable {X : List Nat} {w0 : World} {M0 : List Ent} {I0 : List aZ}
theorem lN {p : Prop} [Decidable p] {q : Option Addr} {n c k : Nat} (hl : (gr n).length ≤ 100000000000) (hc : qD q n c) (hk : n ≤ 2 ^ k) (hq : aV q (recs eG (gr n)) ∈ I0) :
  CD Tryz.prog 147 [.bool (B p), .slice q (gr n).length c] X w0 M0 I0 (fun v M I => M0 = M ∧ I = iJ v (sg p n) k :: I0) := by
 refine dX Tryz.func147 rfl Tryz.ntmps147 rfl ?_
 refine aI ?_
 refine aH ?_
 (refine aK rfl rfl ?_; intro b; refine ⟨nN, ?_⟩)
 repeat (refine kX ?_)
 (refine aQ rfl (qJ (l := gr n) rfl (by omega) hc.1 hq) rfl rfl ?_; rintro _ _ _ ⟨rfl, rfl, rfl⟩; refine ⟨nN, ?_⟩)
 rw [aBZ (aCB n)]
 by_cases h0 : (gr n).length = 0
 ·have hn : n = 0 := nV.1 (List.eq_nil_of_length_eq_zero h0)
  subst hn
  repeat (refine kX ?_)
  (refine aC rfl (fun _ => bT (pvs := ([]).zipIdx.map (fun p => (p.2, p.1))) (cells := [.bool false, .slice none 0 0]) rfl rfl) rfl rfl ?_)
  repeat (refine kX ?_)
  have hz : sg p 0 = 0 := by unfold sg; split <;> rfl
  rw [hz]
  have hg0 : gr (0 : Int).natAbs = [] := gY
  refine aFJ none ?_
  refine aDQ (q := none) (c := 0) (z := 0) (k := k) (by rw [hg0]; exact aO) ⟨by rw [hg0]; simp, .inr ⟨by rw [hg0]; rfl, rfl⟩⟩ (by simp) ?_
  have hiv : iv none 0 0 = .agg #[.bool false, .slice none 0 0] := by unfold iv; rw [hg0, cZ (by omega)]; rfl
  rw [hiv]
  refine bP (cs := [.bool false, .slice none 0 0]) (.inl rfl) rfl rfl aO rfl _ _ bR bQ ⟨rfl, rfl⟩
 ·have hn : n ≠ 0 := fun e => h0 (by rw [e, gY]; rfl)
  repeat (refine kX ?_)
  (refine aC rfl (fun _ => bT (pvs := ([.bool (B p), .slice q (gr n).length c]).zipIdx.map (fun p => (p.2, p.1))) (cells := [.bool (B p), .slice q (gr n).length c]) rfl rfl) rfl rfl ?_)
  repeat (refine kX ?_)
  have ha := aPJ p n
  refine aDQ (q := q) (c := c) (z := sg p n) (k := k) (by rw [ha]; exact aO) (by rw [ha]; exact hc) (by rw [ha]; exact hk) ?_
  have hiv : iv q c (sg p n) = .agg #[.bool (B p), .slice q (gr n).length c] := by unfold iv; rw [ha, iA (sg_lt hn)]
  rw [hiv]
  refine bP (cs := [.bool (B p), .slice q (gr n).length c]) (.inl rfl) rfl rfl aO rfl _ _ bR bQ ⟨rfl, rfl⟩
theorem aUP {x : Int} : CD Tryz.prog 175 [.int .u32 x] X w0 M0 I0 (fun v M I => M0 = M ∧ I0 = I ∧ v = .bool (B (1000000000 ≤ x))) := by
 refine dX Tryz.func175 rfl Tryz.ntmps175 rfl ?_
 repeat (refine kX ?_)
 refine aG (by first | exact .inl rfl | exact .inr rfl) rfl rfl _ _ bR bQ (⟨rfl, rfl, rfl⟩)
def sI (neg : Bool) (gs : List Int) : Prop := (gs = [] ∧ neg = false) ∨ (gs ≠ [] ∧ Top gs ∧ ¬ ∃ x ∈ gs, 1000000000 ≤ x)
instance (neg : Bool) (gs : List Int) : Decidable (sI neg gs) := by unfold sI; exact inferInstance
theorem aAE {gs : List Int} (h : 0 < gs.length) : gs.getLastD 1 = gt gs ((gs.length : Int) - 1) := by
 rcases List.eq_nil_or_concat gs with rfl | ⟨r, x, e⟩
 ·simp at h
 ·rw [List.concat_eq_append] at e
  subst e
  have e1 : (((r ++ [x]).length : Int) - 1) = ((r.length : Nat) : Int) := by simp
  rw [e1, uZ]
  simp
theorem tF {neg : Bool} {q : Option Addr} {gs : List Int} {c : Nat} (hn : (gs.length : Int) ≤ 9223372036854775807) (hq : aV q (recs eG gs) ∈ I0) :
  CD Tryz.prog 137 [.agg #[.bool neg, .slice q gs.length c]] X w0 M0 I0 (fun v M I => M0 = M ∧ I0 = I ∧ v = .bool (B (sI neg gs))) := by
 refine dX Tryz.func137 rfl Tryz.ntmps137 rfl ?_
 refine aI ?_
 refine aH ?_
 (refine mZ rfl rfl rfl ?_; intro b; refine ⟨nN, ?_⟩)
 by_cases h0 : gs.length = 0
 ·have hg : gs = [] := List.eq_nil_of_length_eq_zero h0
  subst hg
  repeat (refine kX ?_)
  refine aG (by first | exact .inl rfl | exact .inr rfl) rfl rfl _ _ bR bQ (⟨rfl, rfl, by rw [show (!neg) = B (sI neg []) by rw [pX]; cases neg <;> simp [sI]]⟩)
 ·have hgs : gs ≠ [] := fun e => h0 (by rw [e]; rfl)
  have hlast := aAE (gs := gs) (by omega)
  repeat' (first | refine kX ?_ | refine aN rfl (fun h => ?_) (fun h => ?_) | refine aM rfl rfl (fun h => ?_) (fun h => ?_) | fail)
  ·(refine aQ rfl (aUA (fun x => 1000000000 ≤ x) hn hq (fun i hi => aUP)) rfl rfl ?_; rintro _ _ _ ⟨rfl, rfl, rfl⟩; refine ⟨nN, ?_⟩)
   repeat (refine kX ?_)
   refine aG (by first | exact .inl rfl | exact .inr rfl) rfl rfl _ _ bR bQ (⟨rfl, rfl, congrArg Value.bool (iA ?_)⟩)
   unfold sI Top
   rw [hlast]
   exact ⟨fun h => .inr ⟨hgs, by assumption, h⟩, fun h => h.elim (fun h => absurd h.1 hgs) (fun h => h.2.2)⟩
  ·refine aG (by first | exact .inl rfl | exact .inr rfl) rfl rfl _ _ bR bQ (⟨rfl, rfl, congrArg Value.bool (cZ ?_).symm⟩)
   unfold sI Top
   rw [hlast]
   rintro (h | h)
   ·exact hgs h.1
   ·exact absurd h.2.1 (by assumption)
theorem xY (z : Int) : sI (B (z < 0)) (gr z.natAbs) := by
 by_cases h : z.natAbs = 0
 ·refine .inl ⟨by rw [h, gY], cZ (by omega)⟩
 ·refine .inr ⟨fun e => h (nV.1 e), aCB _, ?_⟩
  rintro ⟨x, hx, h1⟩
  have := bY z.natAbs x hx
  omega
theorem jM {q : Option Addr} {c k : Nat} {z : Int} (hz : z.natAbs ≤ 2 ^ k) (hk : k ≤ 1000000000000) (hq : aV q (recs eG (gr z.natAbs)) ∈ I0) :
  CD Tryz.prog 150 [iv q c z] X w0 M0 I0 (fun v M I => M0 = M ∧ I0 = I ∧ v = .slice q (gr z.natAbs).length c) := by
 have hl := gU hz hk
 unfold iv
 refine dX Tryz.func150 rfl Tryz.ntmps150 rfl ?_
 refine aI ?_
 refine aH ?_
 (refine mZ rfl rfl rfl ?_; intro b; refine ⟨nN, ?_⟩)
 repeat (refine kX ?_)
 (refine aQ rfl (tF (neg := B (z < 0)) (gs := gr z.natAbs) (by omega) hq) rfl rfl ?_; rintro _ _ _ ⟨rfl, rfl, rfl⟩; refine ⟨nN, ?_⟩)
 rw [dG (xY z)]
 repeat (refine kX ?_)
 refine aG (by first | exact .inl rfl | exact .inr rfl) rfl rfl _ _ bR bQ (⟨rfl, rfl, rfl⟩)
theorem sF {u : Value} {z : Int} {k : Nat} (hk : k ≤ 1000000000000) (hu : iJ u z k ∈ I0) : CD Tryz.prog 103 [u] X w0 M0 I0 (fun v M I => M0 = M ∧ I0 = I ∧ v = .int .i64 z.sign) := by
 refine dC hu (fun q c e hc hz => ?_)
 subst e
 unfold iv
 refine dX Tryz.func103 rfl Tryz.ntmps103 rfl ?_
 refine aI ?_
 refine aH ?_
 (refine mZ rfl rfl rfl ?_; intro b; refine ⟨nN, ?_⟩)
 repeat (refine kX ?_)
 (refine aQ rfl (jM (c := c) hz hk aO) rfl rfl ?_; rintro _ _ _ ⟨rfl, rfl, rfl⟩; refine ⟨nN, ?_⟩)
 have hnil : (gr z.natAbs).length = 0 ↔ z = 0 := by
  rw [List.length_eq_zero_iff, nV]; omega
 by_cases h0 : z = 0
 ·have := hnil.2 h0
  repeat (refine kX ?_)
  refine aG (by first | exact .inl rfl | exact .inr rfl) rfl rfl _ _ bR bQ (⟨rfl, rfl, by rw [h0]; rfl⟩)
 ·have : ¬ (gr z.natAbs).length = 0 := fun h => h0 (hnil.1 h)
  repeat' (first | refine kX ?_ | refine aN rfl (fun h => ?_) (fun h => ?_) | refine aM rfl rfl (fun h => ?_) (fun h => ?_) | fail)
  ·refine aG (by first | exact .inl rfl | exact .inr rfl) rfl rfl _ _ bR bQ (⟨rfl, rfl, by rw [Int.sign_eq_neg_one_of_neg (by assumption)]⟩)
  ·refine aG (by first | exact .inl rfl | exact .inr rfl) rfl rfl _ _ bR bQ (⟨rfl, rfl, by rw [Int.sign_eq_one_of_pos (by omega)]⟩)
theorem aIF {u : Value} {z : Int} {k : Nat} (hk : k ≤ 1000000000000) (hu : iJ u z k ∈ I0) : CD Tryz.prog 107 [u] X w0 M0 I0 (fun v M I => M0 = M ∧ I = iJ v (-z) k :: I0) := by
 refine dC hu (fun q c e hc hz => ?_)
 subst e
 have hl := gU hz hk
 unfold iv
 refine dX Tryz.func107 rfl Tryz.ntmps107 rfl ?_
 refine aI ?_
 refine aH ?_
 (refine mZ rfl rfl rfl ?_; intro b; refine ⟨nN, ?_⟩)
 (refine aK rfl rfl ?_; intro b2; refine ⟨nN, ?_⟩)
 repeat' (first | refine aH ?_ | refine jD ?_ | refine gW ?_ | refine fH ?_ | refine fB ?_ | refine gX ?_ | refine gT ?_ | refine fI ?_ | refine fF ?_ | refine jE ?_ | refine jH ?_ | refine jF ?_ | refine jK rfl ?_ | refine iF ?_ | (refine gH ?_; first | refine gJ rfl rfl rfl ?_ | (refine fZ rfl rfl ?_; refine fA rfl rfl rfl nN ?_) | refine fV rfl rfl (by omega) ?_ | refine gL rfl rfl (by omega) ?_ | refine pV rfl rfl (fun h => ?_) (fun h => ?_) | (fail_if_success (refine rZ rfl ?_); refine oF rfl rfl (fun h => ?_) (fun h => ?_))) | (refine bN ?_; refine aC rfl (fun _ => dI rfl) rfl rfl ?_) | refine aC rfl (fun _ => bB rfl) rfl rfl ?_ | (refine gK ?_; first | refine aC rfl (fun _ => bG rfl rfl w_) rfl rfl ?_ | refine aC rfl (fun _ => bF rfl rfl w_) rfl rfl ?_ | refine aC rfl (fun _ => eF rfl rfl w_) rfl rfl ?_ | refine aC rfl (fun _ => dZ rfl rfl (by omega) q_) rfl rfl ?_ | refine aC rfl (fun _ => eD rfl rfl (by omega) rfl) rfl rfl ?_ | refine aC rfl (fun _ => dJ rfl rfl) rfl rfl ?_ | refine aC rfl (fun _ => dS rfl rfl) rfl rfl ?_ | refine aC rfl (fun _ => dM rfl rfl) rfl rfl ?_) | (refine bN ?_; first | refine aC rfl (fun _ => dV rfl w_) rfl rfl ?_) | (refine fU ?_; first | refine aC rfl (fun _ => cO rfl w_) rfl rfl ?_) | (refine fT ?_; first | refine aC rfl (fun _ => bH rfl) rfl rfl ?_ | refine aC rfl (fun _ => dK rfl rfl) rfl rfl ?_ | refine aC rfl (fun _ => dL rfl rfl) rfl rfl ?_ | refine aC rfl (fun _ => dH rfl rfl rfl) rfl rfl ?_) | (refine gN ?_; first | refine gD rfl (by decide) rfl rfl ?_ | refine iU rfl (by decide) rfl rfl ?_) | (refine gI ?_; first | refine aC rfl (fun _ => bX rfl) rfl rfl ?_) | (refine gF ?_; first | refine iR rfl rfl fC rfl rfl ?_ | refine iV rW rfl rfl fC aO iX rfl rfl ?_ | refine iQ rW rfl rfl fC aO iX rfl rfl ?_ | refine aC rfl (fun _ => bL rfl rfl fC) rfl rfl ?_) | (refine bC ?_; first | refine iP rW rfl aO oJ rfl rfl ?_ | refine iT rW rfl aO oJ rfl rfl ?_ | refine gZ rW rfl aO oJ rfl rfl ?_ | refine gM rW rfl aO oJ rfl rfl ?_ | refine kV rW rfl aO iM fD rfl rfl ?_ | refine kW rW rfl aO iM fD rfl rfl ?_ | refine kU rW rfl aO iM fD rfl rfl ?_ | refine jQ rW rfl aO iM fD rfl rfl ?_) | (refine gG ?_; first | refine aC rfl (fun _ => bK rfl rfl) rfl rfl ?_ | refine aC rfl (fun _ => bD rfl) rfl rfl ?_) | (refine iK ?_; first | refine jX rfl rfl rfl mU stC rfl rfl ⟨nN, ?_⟩ | refine fK rfl rfl fD qR mU qP rfl rfl ⟨nN, ?_⟩) | (refine iC ?_; first | refine bS rfl ?_ | refine bI rfl ?_ | refine jC rfl (by omega) ?_ | refine lH rfl (by omega) ?_ | refine sS rfl (fun h => ?_) (fun h => ?_) | refine oH rfl (fun h => ?_) (fun h => ?_)))
 (repeat refine aI ?_); refine bW 3 [0, 1, 2, 3, 4, 5, 6, 7] [3, 3, 2, 2, 0, 0, 0, 0] mixed (by kernel_rfl) ?_
 repeat (refine kX ?_)
 (refine aQ rfl (jM (c := c) hz hk aO) rfl rfl ?_; rintro _ _ _ ⟨rfl, rfl, rfl⟩; refine ⟨nN, ?_⟩)
 repeat (refine kX ?_)
 (refine aQ rfl (yK (a := gr z.natAbs) (by omega) hc.2 aO) rfl rfl ?_; rintro _ _ _ ⟨rfl, q', c', rfl, rfl⟩; refine ⟨nN, ?_⟩)
 refine nG (fun w hw => And.intro (hw.rowLe (List.Mem.head _)) ((hw.rowS (List.Mem.head _)).2.imp id And.right)) (fun hc' => ?_)
 refine iD wC ?_
 repeat (refine kX ?_)
 rw [← aQU z]
 (refine aQ rfl (lN (p := ¬ z < 0) (k := k) (by omega) hc' hz aO) rfl rfl ?_; rintro _ _ _ ⟨rfl, rfl⟩; refine ⟨nN, ?_⟩; refine aX (List.Mem.head _) (fun q2 c2 e__ hc2 hz2 => ?_); subst e__)
 unfold iv
 repeat (refine kX ?_)
 refine bP (cs := [.bool (B (sg (¬ z < 0) z.natAbs < 0)), .slice q2 (gr (sg (¬ z < 0) z.natAbs).natAbs).length c2]) (.inl rfl) rfl rfl aO rfl _ _ bR bQ ⟨rfl, rfl⟩
theorem sK {u v : Value} {y z : Int} {k m : Nat} (hk : k + m ≤ 1000000000000) (hu : iJ u y k ∈ I0) (hv : iJ v z m ∈ I0) : CD Tryz.prog 105 [u, v] X w0 M0 I0 (fun v M I => M0 = M ∧ I = iJ v (y * z) (k + m) :: I0) := by
 refine dC hu (fun q c e hc hy => ?_)
 subst e
 refine dC (List.Mem.tail _ hv) (fun q' c' e hc' hz => ?_)
 subst e
 have hl := gU hy (by omega)
 have hl' := gU hz (by omega)
 unfold iv
 refine dX Tryz.func105 rfl Tryz.ntmps105 rfl ?_
 refine aI ?_
 refine aH ?_
 (refine mZ rfl rfl rfl ?_; intro b; refine ⟨nN, ?_⟩)
 (refine mZ rfl rfl rfl ?_; intro b2; refine ⟨nN, ?_⟩)
 (refine aK rfl rfl ?_; intro b3; refine ⟨nN, ?_⟩)
 repeat' (first | refine aH ?_ | refine jD ?_ | refine gW ?_ | refine fH ?_ | refine fB ?_ | refine gX ?_ | refine gT ?_ | refine fI ?_ | refine fF ?_ | refine jE ?_ | refine jH ?_ | refine jF ?_ | refine jK rfl ?_ | refine iF ?_ | (refine gH ?_; first | refine gJ rfl rfl rfl ?_ | (refine fZ rfl rfl ?_; refine fA rfl rfl rfl nN ?_) | refine fV rfl rfl (by omega) ?_ | refine gL rfl rfl (by omega) ?_ | refine pV rfl rfl (fun h => ?_) (fun h => ?_) | (fail_if_success (refine rZ rfl ?_); refine oF rfl rfl (fun h => ?_) (fun h => ?_))) | (refine bN ?_; refine aC rfl (fun _ => dI rfl) rfl rfl ?_) | refine aC rfl (fun _ => bB rfl) rfl rfl ?_ | (refine gK ?_; first | refine aC rfl (fun _ => bG rfl rfl w_) rfl rfl ?_ | refine aC rfl (fun _ => bF rfl rfl w_) rfl rfl ?_ | refine aC rfl (fun _ => eF rfl rfl w_) rfl rfl ?_ | refine aC rfl (fun _ => dZ rfl rfl (by omega) q_) rfl rfl ?_ | refine aC rfl (fun _ => eD rfl rfl (by omega) rfl) rfl rfl ?_ | refine aC rfl (fun _ => dJ rfl rfl) rfl rfl ?_ | refine aC rfl (fun _ => dS rfl rfl) rfl rfl ?_ | refine aC rfl (fun _ => dM rfl rfl) rfl rfl ?_) | (refine bN ?_; first | refine aC rfl (fun _ => dV rfl w_) rfl rfl ?_) | (refine fU ?_; first | refine aC rfl (fun _ => cO rfl w_) rfl rfl ?_) | (refine fT ?_; first | refine aC rfl (fun _ => bH rfl) rfl rfl ?_ | refine aC rfl (fun _ => dK rfl rfl) rfl rfl ?_ | refine aC rfl (fun _ => dL rfl rfl) rfl rfl ?_ | refine aC rfl (fun _ => dH rfl rfl rfl) rfl rfl ?_) | (refine gN ?_; first | refine gD rfl (by decide) rfl rfl ?_ | refine iU rfl (by decide) rfl rfl ?_) | (refine gI ?_; first | refine aC rfl (fun _ => bX rfl) rfl rfl ?_) | (refine gF ?_; first | refine iR rfl rfl fC rfl rfl ?_ | refine iV rW rfl rfl fC aO iX rfl rfl ?_ | refine iQ rW rfl rfl fC aO iX rfl rfl ?_ | refine aC rfl (fun _ => bL rfl rfl fC) rfl rfl ?_) | (refine bC ?_; first | refine iP rW rfl aO oJ rfl rfl ?_ | refine iT rW rfl aO oJ rfl rfl ?_ | refine gZ rW rfl aO oJ rfl rfl ?_ | refine gM rW rfl aO oJ rfl rfl ?_ | refine kV rW rfl aO iM fD rfl rfl ?_ | refine kW rW rfl aO iM fD rfl rfl ?_ | refine kU rW rfl aO iM fD rfl rfl ?_ | refine jQ rW rfl aO iM fD rfl rfl ?_) | (refine gG ?_; first | refine aC rfl (fun _ => bK rfl rfl) rfl rfl ?_ | refine aC rfl (fun _ => bD rfl) rfl rfl ?_) | (refine iK ?_; first | refine jX rfl rfl rfl mU stC rfl rfl ⟨nN, ?_⟩ | refine fK rfl rfl fD qR mU qP rfl rfl ⟨nN, ?_⟩) | (refine iC ?_; first | refine bS rfl ?_ | refine bI rfl ?_ | refine jC rfl (by omega) ?_ | refine lH rfl (by omega) ?_ | refine sS rfl (fun h => ?_) (fun h => ?_) | refine oH rfl (fun h => ?_) (fun h => ?_)))
 (repeat refine aI ?_); refine bW 4 [0, 1, 2, 3, 4, 5, 7, 6, 8, 9, 10, 11] [4, 4, 4, 4, 3, 3, 3, 0, 0, 0, 0, 0] mixed (by kernel_rfl) ?_
 repeat (refine kX ?_)
 (refine aQ rfl (jM (c := c) hy (by omega) aO) rfl rfl ?_; rintro _ _ _ ⟨rfl, rfl, rfl⟩; refine ⟨nN, ?_⟩)
 repeat (refine kX ?_)
 (refine aQ rfl (jM (c := c') hz (by omega) aO) rfl rfl ?_; rintro _ _ _ ⟨rfl, rfl, rfl⟩; refine ⟨nN, ?_⟩)
 repeat (refine kX ?_)
 (refine aQ rfl (aOV (by omega) (by omega) aO aO) rfl rfl ?_; rintro _ _ _ ⟨rfl, q3, c3, rfl, hc3, rfl⟩; refine ⟨nN, ?_⟩)
 have hyz : y.natAbs * z.natAbs ≤ 2 ^ (k + m) := zG hy hz
 have hl3 := gU hyz (by omega)
 have hsg : sg (¬ (y < 0 ↔ z < 0)) (y.natAbs * z.natAbs) = y * z := by
  unfold sg
  rw [Int.natCast_mul]
  by_cases h1 : y < 0 <;> by_cases h2 : z < 0 <;> simp only [h1, h2, not_true_eq_false, not_false_eq_true, iff_true, iff_false, if_true, if_false]
  ·rw [show (y.natAbs : Int) = -y by omega, show (z.natAbs : Int) = -z by omega, Int.neg_mul_neg]
  ·rw [show (y.natAbs : Int) = -y by omega, show (z.natAbs : Int) = z by omega, Int.neg_mul, Int.neg_neg]
  ·rw [show (y.natAbs : Int) = y by omega, show (z.natAbs : Int) = -z by omega, Int.mul_neg, Int.neg_neg]
  ·rw [show (y.natAbs : Int) = y by omega, show (z.natAbs : Int) = z by omega]
 rw [← hsg]
 (refine aQ rfl (lN (p := ¬ (y < 0 ↔ z < 0)) (k := k + m) (by omega) hc3 hyz aO) rfl rfl ?_; rintro _ _ _ ⟨rfl, rfl⟩; refine ⟨nN, ?_⟩; refine aX (List.Mem.head _) (fun q2 c2 e__ hc2 hz2 => ?_); subst e__)
 unfold iv
 repeat (refine kX ?_)
 refine bP (cs := [.bool (B (sg (¬ (y < 0 ↔ z < 0)) (y.natAbs * z.natAbs) < 0)), .slice q2 (gr (sg (¬ (y < 0 ↔ z < 0)) (y.natAbs * z.natAbs)).natAbs).length c2]) (.inl rfl) rfl rfl aO rfl _ _ bR bQ ⟨rfl, rfl⟩
end
end Go.Proofs.YtkccjglmnhgabaaGreat

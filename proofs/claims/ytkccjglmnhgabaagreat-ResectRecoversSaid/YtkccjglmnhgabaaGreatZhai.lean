/- integer: the numbers: made, Valid, groups, Sign, Neg, Mul -/
import Derived.Test.YtkccjglmnhgabaaGreatZhah
import Derived.Test.YtkccjglmnhgabaaGreatZhag
set_option linter.unusedSimpArgs false
set_option linter.unusedVariables false
set_option maxRecDepth 100000
set_option maxHeartbeats 4000000
namespace Go.Proofs.YtkccjglmnhgabaaGreat
open Go Go.Fx
def iv (q : Option Addr) (c : Nat) (z : Int) : Value := .agg #[.bool (B (z < 0)), .slice q (gr z.natAbs).length c]
abbrev oJ (q : Option Addr) (n c : Nat) : Prop := (gr n).length ≤ c ∧ (Ok q ∨ ((gr n).length = 0 ∧ c = 0))
structure IsI (u : Value) (z : Int) (k : Nat) (X : List Nat) (w : World) : Prop where
 ex : ∃ q c, u = iv q c z ∧ oJ q z.natAbs c ∧ z.natAbs ≤ 2 ^ k ∧ Sl X w q (recs eG (gr z.natAbs))
abbrev iE (u : Value) (z : Int) (k : Nat) : aZ := IsI u z k
instance (u : Value) (z : Int) (k : Nat) : Fx.Good (IsI u z k) := ⟨fun X Y w w' h he hY => by
 obtain ⟨q, c, h1, h2, h3, h4⟩ := h.ex
 exact ⟨q, c, h1, h2, h3, Sl.carry h4 he hY⟩⟩
def sg (p : Prop) [Decidable p] (n : Nat) : Int := if p then -(n : Int) else n
theorem aLA (p : Prop) [Decidable p] (n : Nat) : (sg p n).natAbs = n := by unfold sg; split <;> omega
theorem oU (z : Int) : sg (z < 0) z.natAbs = z := by unfold sg; split <;> omega
theorem aLE (z : Int) : sg (¬ z < 0) z.natAbs = -z := by unfold sg; split <;> omega
theorem sg_lt {p : Prop} [Decidable p] {n : Nat} (h : n ≠ 0) : sg p n < 0 ↔ p := by unfold sg; split <;> simp_all <;> omega
section
variable {P : Program} {n : Nat} {Q : Exit → Act → World → Prop} {G : Env} {X : List Nat} {w0 : World} {M M' : List Ent} {I I' : List aZ}
theorem dC {f : FuncId} {vs : List Value} {K : Value → List Ent → List aZ → Prop} {u : Value} {z : Int} {k : Nat} (hu : iE u z k ∈ I)
  (h : ∀ q c, u = iv q c z → oJ q z.natAbs c → z.natAbs ≤ 2 ^ k → CD P f vs X w0 M (bI q (recs eG (gr z.natAbs)) :: I) K) : CD P f vs X w0 M I K :=
 ⟨fun w hw => by
  obtain ⟨q, c, h1, h2, h3, h4⟩ := ((hw.imm _ hu).2).ex
  exact (h q c h1 h2 h3).go w (hw.add (φ := bI q _) ⟨h4⟩)⟩
theorem aBK {w : World} {q : Option Addr} {c : Nat} {z : Int} {k : Nat} (hw : Mem X w0 M I w) (hm : bI q (recs eG (gr z.natAbs)) ∈ I) (hc : oJ q z.natAbs c) (hk : z.natAbs ≤ 2 ^ k) : Mem X w0 M (iE (iv q c z) z k :: I) w :=
 hw.add (φ := iE _ z k) ⟨q, c, rfl, hc, hk, hw.sl hm⟩
theorem aAB {ex : Exit} {q : Option Addr} {c : Nat} {z : Int} {k : Nat} (hm : bI q (recs eG (gr z.natAbs)) ∈ I) (hc : oJ q z.natAbs c) (hk : z.natAbs ≤ 2 ^ k) (h : ND n Q ex G X w0 M (iE (iv q c z) z k :: I)) : ND n Q ex G X w0 M I := yX (fun _ hw => aBK hw hm hc hk) h
theorem tL {ops l : List Oper} {m : Fx.Mode} {q : Option Addr} {c : Nat} {z : Int} {k : Nat} (hm : bI q (recs eG (gr z.natAbs)) ∈ I) (hc : oJ q z.natAbs c) (hk : z.natAbs ≤ 2 ^ k) (h : RD P n ops Q m l G X w0 M (iE (iv q c z) z k :: I)) : RD P n ops Q m l G X w0 M I := pM (fun _ hw => aBK hw hm hc hk) h
theorem bD {ops l : List Oper} {m : Fx.Mode} {u : Value} {z : Int} {k : Nat} (hu : iE u z k ∈ I)
  (h : ∀ q c, u = iv q c z → oJ q z.natAbs c → z.natAbs ≤ 2 ^ k → RD P n ops Q m l G X w0 M (bI q (recs eG (gr z.natAbs)) :: I)) : RD P n ops Q m l G X w0 M I :=
 ⟨fun w hw => by
  obtain ⟨q, c, h1, h2, h3, h4⟩ := ((hw.imm _ hu).2).ex
  exact (h q c h1 h2 h3).go w (hw.add (φ := bI q _) ⟨h4⟩)⟩
theorem IsI.mono {u : Value} {z : Int} {k m : Nat} {X : List Nat} {w : World} (h : IsI u z k X w) (hk : k ≤ m) : IsI u z m X w := by
 obtain ⟨q, c, h1, h2, h3, h4⟩ := h.ex
 exact ⟨q, c, h1, h2, Nat.le_trans h3 (Nat.pow_le_pow_right (by decide) hk), h4⟩
end
theorem fZ {n k : Nat} (h : n ≤ 2 ^ k) (hk : k ≤ 1000000000000) : (gr n).length ≤ 40000000000 := by
 have := dZ h
 omega
/- ---------- IndexFunc, ContainsFunc of []uint32 ---------- -/
section
variable {X : List Nat} {w0 : World} {M0 : List Ent} {I0 : List aZ}
theorem aMP {q : Option Addr} {a : List Int} {c : Nat} {g : FuncId} [FnOk Tryz.prog g] {fs cs : Array Value} (pr : Int → Prop) [DecidablePred pr] (hn : (a.length : Int) ≤ 9223372036854775807) (ha : bI q (recs eG a) ∈ I0)
  (hg : ∀ i : Nat, i < a.length → CD Tryz.prog g (fs.toList ++ [Value.int .u32 (gt a i)] ++ cs.toList) X w0 M0 I0 (fun v M I => M0 = M ∧ I0 = I ∧ v = .bool (B (pr (gt a i))))) :
  CD Tryz.prog 206 [.slice q a.length c, .func (.func g) fs cs] X w0 M0 I0 (fun v M I => M0 = M ∧ I0 = I ∧ ∃ r : Int, v = .int .i64 r ∧ ((∃ i : Nat, i < a.length ∧ r = i ∧ pr (gt a i) ∧ ∀ j : Nat, j < i → ¬ pr (gt a j)) ∨ (r = -1 ∧ ∀ j : Nat, j < a.length → ¬ pr (gt a j)))) := by
 refine fC Tryz.func206 rfl Tryz.ntmps206 rfl ?_
 repeat (refine kK ?_)
 refine bG [0, 1, 7] rfl (fun k G M I => ∃ i : Nat, i ≤ a.length ∧ k = a.length - i ∧ (∀ j : Nat, j < i → ¬ pr (gt a j)) ∧ G = [(8, .int .i64 i)] ∧ M = M0 ∧ I = I0) (a.length) _ _ _ aO dK dI (⟨0, by omega, rfl, fun j hj => by omega, rfl, rfl, rfl⟩) ?_
 rintro k G M I ⟨i, hi, rfl, hs, rfl, rfl, rfl⟩
 repeat' (first | refine kK ?_ | refine aU rfl (fun h => ?_) (fun h => ?_) | refine aT rfl rfl (fun h => ?_) (fun h => ?_) | fail)
 ·have hlt : i < a.length := by omega
  (refine aEC rfl rfl (hg i hlt) rfl rfl rfl ?_; rintro _ _ _ ⟨rfl, rfl, rfl⟩; refine ⟨mY, ?_⟩)
  repeat' (first | refine kK ?_ | refine aU rfl (fun h => ?_) (fun h => ?_) | refine aT rfl rfl (fun h => ?_) (fun h => ?_) | fail)
  ·refine aQ (by first | exact .inl rfl | exact .inr rfl) rfl rfl _ _ dK dI (⟨rfl, rfl, _, rfl, .inl ⟨i, hlt, rfl, by assumption, hs⟩⟩)
  ·refine aS (a.length - (i + 1)) _ _ _ (by first | omega | (simp only [List.length_append, List.length_cons, List.length_nil]; omega)) aO dK dI (⟨i + 1, by omega, rfl, fun j hj => ?_, rfl, rfl, rfl⟩)
   by_cases e : j = i
   ·subst e; assumption
   ·exact hs j (by omega)
 ·refine aQ (by first | exact .inl rfl | exact .inr rfl) rfl rfl _ _ dK dI (⟨rfl, rfl, _, rfl, .inr ⟨rfl, fun j hj => hs j (by omega)⟩⟩)
theorem aNO {q : Option Addr} {a : List Int} {c : Nat} {g : FuncId} [FnOk Tryz.prog g] {fs cs : Array Value} (pr : Int → Prop) [DecidablePred pr] (hn : (a.length : Int) ≤ 9223372036854775807) (ha : bI q (recs eG a) ∈ I0)
  (hg : ∀ i : Nat, i < a.length → CD Tryz.prog g (fs.toList ++ [Value.int .u32 (gt a i)] ++ cs.toList) X w0 M0 I0 (fun v M I => M0 = M ∧ I0 = I ∧ v = .bool (B (pr (gt a i))))) :
  CD Tryz.prog 174 [.slice q a.length c, .func (.func g) fs cs] X w0 M0 I0 (fun v M I => M0 = M ∧ I0 = I ∧ v = .bool (B (∃ x ∈ a, pr x))) := by
 refine fC Tryz.func174 rfl Tryz.ntmps174 rfl ?_
 repeat (refine kK ?_)
 (refine aY rfl (aMP pr hn ha hg) rfl rfl ?_; rintro _ _ _ ⟨rfl, rfl, r, rfl, h⟩; refine ⟨mY, ?_⟩)
 repeat (refine kK ?_)
 refine aQ (by first | exact .inl rfl | exact .inr rfl) rfl rfl _ _ dK dI (⟨rfl, rfl, congrArg Value.bool (gD ?_)⟩)
 rcases h with ⟨i, hi, rfl, hp, _⟩ | ⟨rfl, h⟩
 ·exact ⟨fun _ => ⟨gt a i, by rw [lI hi]; exact List.getElem_mem hi, hp⟩, fun _ => by omega⟩
 ·refine ⟨fun h => by omega, ?_⟩
  rintro ⟨x, hx, hp⟩
  obtain ⟨j, hj, rfl⟩ := List.mem_iff_getElem.1 hx
  exact absurd (by rw [lI hj]; exact hp) (h j hj)
end
/- ---------- Clone of []uint32 ---------- -/
section
variable {X : List Nat} {w0 : World} {M0 : List Ent} {I0 : List aZ}
theorem wE {q : Option Addr} {a : List Int} {c : Nat} (hn : (a.length : Int) * 4 ≤ 140737488355328) (hok : Ok q ∨ (a.length = 0 ∧ c = 0)) (ha : bI q (recs eG a) ∈ I0) :
  CD Tryz.prog 153 [.slice q a.length c] X w0 M0 I0 (fun v M I => I0 = I ∧ ∃ q' c', v = .slice q' a.length c' ∧ M = .row q' a.length c' (recs eG a) 179 1 :: M0) := by
 refine fC Tryz.func153 rfl Tryz.ntmps153 rfl ?_
 repeat (refine kK ?_)
 refine aH rfl (fun _ => aDM rfl) rfl rfl ?_
 cases q with
 | some ad =>
  repeat (refine kK ?_)
  (refine bO (cs := recs eG []) ([]) rfl rfl (by intro v hv; repeat (first | exact absurd hv (List.not_mem_nil) | (rcases List.mem_cons.1 hv with rfl | hv; · rfl))) (by omega) rfl rfl rfl ?_; intro b1; refine ⟨mY, ?_⟩)
  repeat (refine kK ?_)
  refine rQ (mm := 0) 1 nD rfl (by omega) ?_
  refine eQ (xs := []) (ys := a) 0 rfl rfl rfl (Src.imm aW hok) (by decide) rfl (by simp; omega) (by simp; omega) rfl rfl ?_
  intro a2 c2
  refine ⟨mY, ?_⟩
  repeat (refine kK ?_)
  refine aQ (by first | exact .inl rfl | exact .inr rfl) rfl rfl _ _ dK dI (⟨rfl, a2, c2, by simp, by simp⟩)
 | none =>
  obtain ⟨h0, rfl⟩ : a.length = 0 ∧ c = 0 := hok.resolve_left (fun h => by obtain ⟨b, o, e⟩ := h.cases; cases e)
  have hnil : a = [] := List.eq_nil_of_length_eq_zero h0
  subst hnil
  repeat (refine kK ?_)
  refine aNT 179 1 ?_
  refine aQ (by first | exact .inl rfl | exact .inr rfl) rfl rfl _ _ dK dI (⟨rfl, none, 0, rfl, rfl⟩)
end
section
variable {X : List Nat} {w0 : World} {M0 : List Ent} {I0 : List aZ}
theorem lG {p : Prop} [Decidable p] {q : Option Addr} {n c k : Nat} (hl : (gr n).length ≤ 100000000000) (hc : oJ q n c) (hk : n ≤ 2 ^ k) (hq : bI q (recs eG (gr n)) ∈ I0) :
  CD Tryz.prog 147 [.bool (B p), .slice q (gr n).length c] X w0 M0 I0 (fun v M I => M0 = M ∧ I = iE v (sg p n) k :: I0) := by
 refine fC Tryz.func147 rfl Tryz.ntmps147 rfl ?_
 refine aL ?_
 refine aM ?_
 (refine aB rfl rfl ?_; intro b; refine ⟨mY, ?_⟩)
 repeat (refine kK ?_)
 (refine aY rfl (oQ (l := gr n) rfl (by omega) hc.1 hq) rfl rfl ?_; rintro _ _ _ ⟨rfl, rfl, rfl⟩; refine ⟨mY, ?_⟩)
 rw [yQ (xV n)]
 by_cases h0 : (gr n).length = 0
 ·have hn : n = 0 := mZ.1 (List.eq_nil_of_length_eq_zero h0)
  subst hn
  repeat (refine kK ?_)
  (refine aH rfl (fun _ => dD (pvs := ([]).zipIdx.map (fun p => (p.2, p.1))) (cells := [.bool false, .slice none 0 0]) rfl rfl) rfl rfl ?_)
  repeat (refine kK ?_)
  have hz : sg p 0 = 0 := by unfold sg; split <;> rfl
  rw [hz]
  have hg0 : gr (0 : Int).natAbs = [] := gF
  refine aCD none ?_
  refine aAB (q := none) (c := 0) (z := 0) (k := k) (by rw [hg0]; exact aW) ⟨by rw [hg0]; simp, .inr ⟨by rw [hg0]; rfl, rfl⟩⟩ (by simp) ?_
  have hiv : iv none 0 0 = .agg #[.bool false, .slice none 0 0] := by unfold iv; rw [hg0, bN (by omega)]; rfl
  rw [hiv]
  refine bK (cs := [.bool false, .slice none 0 0]) (.inl rfl) rfl rfl aW rfl _ _ dK dI ⟨rfl, rfl⟩
 ·have hn : n ≠ 0 := fun e => h0 (by rw [e, gF]; rfl)
  repeat (refine kK ?_)
  (refine aH rfl (fun _ => dD (pvs := ([.bool (B p), .slice q (gr n).length c]).zipIdx.map (fun p => (p.2, p.1))) (cells := [.bool (B p), .slice q (gr n).length c]) rfl rfl) rfl rfl ?_)
  repeat (refine kK ?_)
  have ha := aLA p n
  refine aAB (q := q) (c := c) (z := sg p n) (k := k) (by rw [ha]; exact aW) (by rw [ha]; exact hc) (by rw [ha]; exact hk) ?_
  have hiv : iv q c (sg p n) = .agg #[.bool (B p), .slice q (gr n).length c] := by unfold iv; rw [ha, gD (sg_lt hn)]
  rw [hiv]
  refine bK (cs := [.bool (B p), .slice q (gr n).length c]) (.inl rfl) rfl rfl aW rfl _ _ dK dI ⟨rfl, rfl⟩
theorem aMH {x : Int} : CD Tryz.prog 175 [.int .u32 x] X w0 M0 I0 (fun v M I => M0 = M ∧ I0 = I ∧ v = .bool (B (1000000000 ≤ x))) := by
 refine fC Tryz.func175 rfl Tryz.ntmps175 rfl ?_
 repeat (refine kK ?_)
 refine aQ (by first | exact .inl rfl | exact .inr rfl) rfl rfl _ _ dK dI (⟨rfl, rfl, rfl⟩)
def qU (neg : Bool) (gs : List Int) : Prop := (gs = [] ∧ neg = false) ∨ (gs ≠ [] ∧ Top gs ∧ ¬ ∃ x ∈ gs, 1000000000 ≤ x)
instance (neg : Bool) (gs : List Int) : Decidable (qU neg gs) := by unfold qU; exact inferInstance
theorem xP {gs : List Int} (h : 0 < gs.length) : gs.getLastD 1 = gt gs ((gs.length : Int) - 1) := by
 rcases List.eq_nil_or_concat gs with rfl | ⟨r, x, e⟩
 ·simp at h
 ·rw [List.concat_eq_append] at e
  subst e
  have e1 : (((r ++ [x]).length : Int) - 1) = ((r.length : Nat) : Int) := by simp
  rw [e1, tZ]
  simp
theorem rR {neg : Bool} {q : Option Addr} {gs : List Int} {c : Nat} (hn : (gs.length : Int) ≤ 9223372036854775807) (hq : bI q (recs eG gs) ∈ I0) :
  CD Tryz.prog 137 [.agg #[.bool neg, .slice q gs.length c]] X w0 M0 I0 (fun v M I => M0 = M ∧ I0 = I ∧ v = .bool (B (qU neg gs))) := by
 refine fC Tryz.func137 rfl Tryz.ntmps137 rfl ?_
 refine aL ?_
 refine aM ?_
 (refine mK rfl rfl rfl ?_; intro b; refine ⟨mY, ?_⟩)
 by_cases h0 : gs.length = 0
 ·have hg : gs = [] := List.eq_nil_of_length_eq_zero h0
  subst hg
  repeat (refine kK ?_)
  refine aQ (by first | exact .inl rfl | exact .inr rfl) rfl rfl _ _ dK dI (⟨rfl, rfl, by rw [show (!neg) = B (qU neg []) by rw [qN]; cases neg <;> simp [qU]]⟩)
 ·have hgs : gs ≠ [] := fun e => h0 (by rw [e]; rfl)
  have hlast := xP (gs := gs) (by omega)
  repeat' (first | refine kK ?_ | refine aU rfl (fun h => ?_) (fun h => ?_) | refine aT rfl rfl (fun h => ?_) (fun h => ?_) | fail)
  ·(refine aY rfl (aNO (fun x => 1000000000 ≤ x) hn hq (fun i hi => aMH)) rfl rfl ?_; rintro _ _ _ ⟨rfl, rfl, rfl⟩; refine ⟨mY, ?_⟩)
   repeat (refine kK ?_)
   refine aQ (by first | exact .inl rfl | exact .inr rfl) rfl rfl _ _ dK dI (⟨rfl, rfl, congrArg Value.bool (gD ?_)⟩)
   unfold qU Top
   rw [hlast]
   exact ⟨fun h => .inr ⟨hgs, by assumption, h⟩, fun h => h.elim (fun h => absurd h.1 hgs) (fun h => h.2.2)⟩
  ·refine aQ (by first | exact .inl rfl | exact .inr rfl) rfl rfl _ _ dK dI (⟨rfl, rfl, congrArg Value.bool (bN ?_).symm⟩)
   unfold qU Top
   rw [hlast]
   rintro (h | h)
   ·exact hgs h.1
   ·exact absurd h.2.1 (by assumption)
theorem wT (z : Int) : qU (B (z < 0)) (gr z.natAbs) := by
 by_cases h : z.natAbs = 0
 ·refine .inl ⟨by rw [h, gF], bN (by omega)⟩
 ·refine .inr ⟨fun e => h (mZ.1 e), xV _, ?_⟩
  rintro ⟨x, hx, h1⟩
  have := bV z.natAbs x hx
  omega
theorem jH {q : Option Addr} {c k : Nat} {z : Int} (hz : z.natAbs ≤ 2 ^ k) (hk : k ≤ 1000000000000) (hq : bI q (recs eG (gr z.natAbs)) ∈ I0) :
  CD Tryz.prog 150 [iv q c z] X w0 M0 I0 (fun v M I => M0 = M ∧ I0 = I ∧ v = .slice q (gr z.natAbs).length c) := by
 have hl := fZ hz hk
 unfold iv
 refine fC Tryz.func150 rfl Tryz.ntmps150 rfl ?_
 refine aL ?_
 refine aM ?_
 (refine mK rfl rfl rfl ?_; intro b; refine ⟨mY, ?_⟩)
 repeat (refine kK ?_)
 (refine aY rfl (rR (neg := B (z < 0)) (gs := gr z.natAbs) (by omega) hq) rfl rfl ?_; rintro _ _ _ ⟨rfl, rfl, rfl⟩; refine ⟨mY, ?_⟩)
 rw [dG (wT z)]
 repeat (refine kK ?_)
 refine aQ (by first | exact .inl rfl | exact .inr rfl) rfl rfl _ _ dK dI (⟨rfl, rfl, rfl⟩)
theorem oM {u : Value} {z : Int} {k : Nat} (hk : k ≤ 1000000000000) (hu : iE u z k ∈ I0) : CD Tryz.prog 103 [u] X w0 M0 I0 (fun v M I => M0 = M ∧ I0 = I ∧ v = .int .i64 z.sign) := by
 refine dC hu (fun q c e hc hz => ?_)
 subst e
 unfold iv
 refine fC Tryz.func103 rfl Tryz.ntmps103 rfl ?_
 refine aL ?_
 refine aM ?_
 (refine mK rfl rfl rfl ?_; intro b; refine ⟨mY, ?_⟩)
 repeat (refine kK ?_)
 (refine aY rfl (jH (c := c) hz hk aW) rfl rfl ?_; rintro _ _ _ ⟨rfl, rfl, rfl⟩; refine ⟨mY, ?_⟩)
 have hnil : (gr z.natAbs).length = 0 ↔ z = 0 := by
  rw [List.length_eq_zero_iff, mZ]; omega
 by_cases h0 : z = 0
 ·have := hnil.2 h0
  repeat (refine kK ?_)
  refine aQ (by first | exact .inl rfl | exact .inr rfl) rfl rfl _ _ dK dI (⟨rfl, rfl, by rw [h0]; rfl⟩)
 ·have : ¬ (gr z.natAbs).length = 0 := fun h => h0 (hnil.1 h)
  repeat' (first | refine kK ?_ | refine aU rfl (fun h => ?_) (fun h => ?_) | refine aT rfl rfl (fun h => ?_) (fun h => ?_) | fail)
  ·refine aQ (by first | exact .inl rfl | exact .inr rfl) rfl rfl _ _ dK dI (⟨rfl, rfl, by rw [Int.sign_eq_neg_one_of_neg (by assumption)]⟩)
  ·refine aQ (by first | exact .inl rfl | exact .inr rfl) rfl rfl _ _ dK dI (⟨rfl, rfl, by rw [Int.sign_eq_one_of_pos (by omega)]⟩)
theorem aEM {u : Value} {z : Int} {k : Nat} (hk : k ≤ 1000000000000) (hu : iE u z k ∈ I0) : CD Tryz.prog 107 [u] X w0 M0 I0 (fun v M I => M0 = M ∧ I = iE v (-z) k :: I0) := by
 refine dC hu (fun q c e hc hz => ?_)
 subst e
 have hl := fZ hz hk
 unfold iv
 refine fC Tryz.func107 rfl Tryz.ntmps107 rfl ?_
 refine aL ?_
 refine aM ?_
 (refine mK rfl rfl rfl ?_; intro b; refine ⟨mY, ?_⟩)
 (refine aB rfl rfl ?_; intro b2; refine ⟨mY, ?_⟩)
 repeat' (first | refine aM ?_ | refine jY ?_ | refine iK ?_ | refine fT ?_ | refine fJ ?_ | refine iJ ?_ | refine iD ?_ | refine fQ ?_ | refine fP ?_ | refine jR ?_ | refine jX ?_ | refine jV ?_ | refine jQ rfl ?_ | refine aI ?_ | (refine gQ ?_; first | refine gW rfl rfl rfl ?_ | (refine gN rfl rfl ?_; refine fG rfl rfl rfl mY ?_) | refine gT rfl rfl (by omega) ?_ | refine gU rfl rfl (by omega) ?_ | refine oW rfl rfl (fun h => ?_) (fun h => ?_) | (fail_if_success (refine sI rfl ?_); refine nW rfl rfl (fun h => ?_) (fun h => ?_))) | (refine cK ?_; refine aH rfl (fun _ => dL rfl) rfl rfl ?_) | refine aH rfl (fun _ => bL rfl) rfl rfl ?_ | (refine gK ?_; first | refine aH rfl (fun _ => bR rfl rfl w_) rfl rfl ?_ | refine aH rfl (fun _ => bQ rfl rfl w_) rfl rfl ?_ | refine aH rfl (fun _ => eU rfl rfl w_) rfl rfl ?_ | refine aH rfl (fun _ => eY rfl rfl (by omega) q_) rfl rfl ?_ | refine aH rfl (fun _ => eX rfl rfl (by omega) rfl) rfl rfl ?_ | refine aH rfl (fun _ => dV rfl rfl) rfl rfl ?_ | refine aH rfl (fun _ => dM rfl rfl) rfl rfl ?_ | refine aH rfl (fun _ => dY rfl rfl) rfl rfl ?_) | (refine cK ?_; first | refine aH rfl (fun _ => eF rfl w_) rfl rfl ?_) | (refine gY ?_; first | refine aH rfl (fun _ => dH rfl w_) rfl rfl ?_) | (refine gP ?_; first | refine aH rfl (fun _ => bS rfl) rfl rfl ?_ | refine aH rfl (fun _ => dS rfl rfl) rfl rfl ?_ | refine aH rfl (fun _ => dP rfl rfl) rfl rfl ?_ | refine aH rfl (fun _ => dW rfl rfl rfl) rfl rfl ?_) | (refine gV ?_; first | refine gM rfl (by decide) rfl rfl ?_ | refine jD rfl (by decide) rfl rfl ?_) | (refine gZ ?_; first | refine aH rfl (fun _ => dF rfl) rfl rfl ?_) | (refine gI ?_; first | refine jC rfl rfl iO rfl rfl ?_ | refine iZ qO rfl rfl iO aW jM rfl rfl ?_ | refine jG qO rfl rfl iO aW jM rfl rfl ?_ | refine aH rfl (fun _ => cB rfl rfl iO) rfl rfl ?_) | (refine gX ?_; first | refine jB qO rfl aW oK rfl rfl ?_ | refine jF qO rfl aW oK rfl rfl ?_ | refine jE qO rfl aW oK rfl rfl ?_ | refine gJ qO rfl aW oK rfl rfl ?_ | refine lQ qO rfl aW jK fU rfl rfl ?_ | refine lN qO rfl aW jK fU rfl rfl ?_ | refine lS qO rfl aW jK fU rfl rfl ?_ | refine kD qO rfl aW jK fU rfl rfl ?_) | (refine gL ?_; first | refine aH rfl (fun _ => bZ rfl rfl) rfl rfl ?_ | refine aH rfl (fun _ => bP rfl) rfl rfl ?_) | (refine iX ?_; first | refine lK rfl rfl rfl nD stC rfl rfl ⟨mY, ?_⟩ | refine iT rfl rfl fU rH nD rM rfl rfl ⟨mY, ?_⟩) | (refine iH ?_; first | refine dE rfl ?_ | refine bY rfl ?_ | refine jS rfl (by omega) ?_ | refine lW rfl (by omega) ?_ | refine sK rfl (fun h => ?_) (fun h => ?_) | refine nY rfl (fun h => ?_) (fun h => ?_)))
 (repeat refine aL ?_); refine bT 3 [0, 1, 2, 3, 4, 5, 6, 7] [3, 3, 2, 2, 0, 0, 0, 0] mixed (by kernel_rfl) ?_
 repeat (refine kK ?_)
 (refine aY rfl (jH (c := c) hz hk aW) rfl rfl ?_; rintro _ _ _ ⟨rfl, rfl, rfl⟩; refine ⟨mY, ?_⟩)
 repeat (refine kK ?_)
 (refine aY rfl (wE (a := gr z.natAbs) (by omega) hc.2 aW) rfl rfl ?_; rintro _ _ _ ⟨rfl, q', c', rfl, rfl⟩; refine ⟨mY, ?_⟩)
 refine mQ (fun w hw => And.intro (hw.rowLe (List.Mem.head _)) ((hw.rowS (List.Mem.head _)).2.imp id And.right)) (fun hc' => ?_)
 refine iC uJ ?_
 repeat (refine kK ?_)
 rw [← aLE z]
 (refine aY rfl (lG (p := ¬ z < 0) (k := k) (by omega) hc' hz aW) rfl rfl ?_; rintro _ _ _ ⟨rfl, rfl⟩; refine ⟨mY, ?_⟩; refine bD (List.Mem.head _) (fun q2 c2 e__ hc2 hz2 => ?_); subst e__)
 unfold iv
 repeat (refine kK ?_)
 refine bK (cs := [.bool (B (sg (¬ z < 0) z.natAbs < 0)), .slice q2 (gr (sg (¬ z < 0) z.natAbs).natAbs).length c2]) (.inl rfl) rfl rfl aW rfl _ _ dK dI ⟨rfl, rfl⟩
theorem qQ {u v : Value} {y z : Int} {k m : Nat} (hk : k + m ≤ 1000000000000) (hu : iE u y k ∈ I0) (hv : iE v z m ∈ I0) : CD Tryz.prog 105 [u, v] X w0 M0 I0 (fun v M I => M0 = M ∧ I = iE v (y * z) (k + m) :: I0) := by
 refine dC hu (fun q c e hc hy => ?_)
 subst e
 refine dC (List.Mem.tail _ hv) (fun q' c' e hc' hz => ?_)
 subst e
 have hl := fZ hy (by omega)
 have hl' := fZ hz (by omega)
 unfold iv
 refine fC Tryz.func105 rfl Tryz.ntmps105 rfl ?_
 refine aL ?_
 refine aM ?_
 (refine mK rfl rfl rfl ?_; intro b; refine ⟨mY, ?_⟩)
 (refine mK rfl rfl rfl ?_; intro b2; refine ⟨mY, ?_⟩)
 (refine aB rfl rfl ?_; intro b3; refine ⟨mY, ?_⟩)
 repeat' (first | refine aM ?_ | refine jY ?_ | refine iK ?_ | refine fT ?_ | refine fJ ?_ | refine iJ ?_ | refine iD ?_ | refine fQ ?_ | refine fP ?_ | refine jR ?_ | refine jX ?_ | refine jV ?_ | refine jQ rfl ?_ | refine aI ?_ | (refine gQ ?_; first | refine gW rfl rfl rfl ?_ | (refine gN rfl rfl ?_; refine fG rfl rfl rfl mY ?_) | refine gT rfl rfl (by omega) ?_ | refine gU rfl rfl (by omega) ?_ | refine oW rfl rfl (fun h => ?_) (fun h => ?_) | (fail_if_success (refine sI rfl ?_); refine nW rfl rfl (fun h => ?_) (fun h => ?_))) | (refine cK ?_; refine aH rfl (fun _ => dL rfl) rfl rfl ?_) | refine aH rfl (fun _ => bL rfl) rfl rfl ?_ | (refine gK ?_; first | refine aH rfl (fun _ => bR rfl rfl w_) rfl rfl ?_ | refine aH rfl (fun _ => bQ rfl rfl w_) rfl rfl ?_ | refine aH rfl (fun _ => eU rfl rfl w_) rfl rfl ?_ | refine aH rfl (fun _ => eY rfl rfl (by omega) q_) rfl rfl ?_ | refine aH rfl (fun _ => eX rfl rfl (by omega) rfl) rfl rfl ?_ | refine aH rfl (fun _ => dV rfl rfl) rfl rfl ?_ | refine aH rfl (fun _ => dM rfl rfl) rfl rfl ?_ | refine aH rfl (fun _ => dY rfl rfl) rfl rfl ?_) | (refine cK ?_; first | refine aH rfl (fun _ => eF rfl w_) rfl rfl ?_) | (refine gY ?_; first | refine aH rfl (fun _ => dH rfl w_) rfl rfl ?_) | (refine gP ?_; first | refine aH rfl (fun _ => bS rfl) rfl rfl ?_ | refine aH rfl (fun _ => dS rfl rfl) rfl rfl ?_ | refine aH rfl (fun _ => dP rfl rfl) rfl rfl ?_ | refine aH rfl (fun _ => dW rfl rfl rfl) rfl rfl ?_) | (refine gV ?_; first | refine gM rfl (by decide) rfl rfl ?_ | refine jD rfl (by decide) rfl rfl ?_) | (refine gZ ?_; first | refine aH rfl (fun _ => dF rfl) rfl rfl ?_) | (refine gI ?_; first | refine jC rfl rfl iO rfl rfl ?_ | refine iZ qO rfl rfl iO aW jM rfl rfl ?_ | refine jG qO rfl rfl iO aW jM rfl rfl ?_ | refine aH rfl (fun _ => cB rfl rfl iO) rfl rfl ?_) | (refine gX ?_; first | refine jB qO rfl aW oK rfl rfl ?_ | refine jF qO rfl aW oK rfl rfl ?_ | refine jE qO rfl aW oK rfl rfl ?_ | refine gJ qO rfl aW oK rfl rfl ?_ | refine lQ qO rfl aW jK fU rfl rfl ?_ | refine lN qO rfl aW jK fU rfl rfl ?_ | refine lS qO rfl aW jK fU rfl rfl ?_ | refine kD qO rfl aW jK fU rfl rfl ?_) | (refine gL ?_; first | refine aH rfl (fun _ => bZ rfl rfl) rfl rfl ?_ | refine aH rfl (fun _ => bP rfl) rfl rfl ?_) | (refine iX ?_; first | refine lK rfl rfl rfl nD stC rfl rfl ⟨mY, ?_⟩ | refine iT rfl rfl fU rH nD rM rfl rfl ⟨mY, ?_⟩) | (refine iH ?_; first | refine dE rfl ?_ | refine bY rfl ?_ | refine jS rfl (by omega) ?_ | refine lW rfl (by omega) ?_ | refine sK rfl (fun h => ?_) (fun h => ?_) | refine nY rfl (fun h => ?_) (fun h => ?_)))
 (repeat refine aL ?_); refine bT 4 [0, 1, 2, 3, 4, 5, 7, 6, 8, 9, 10, 11] [4, 4, 4, 4, 3, 3, 3, 0, 0, 0, 0, 0] mixed (by kernel_rfl) ?_
 repeat (refine kK ?_)
 (refine aY rfl (jH (c := c) hy (by omega) aW) rfl rfl ?_; rintro _ _ _ ⟨rfl, rfl, rfl⟩; refine ⟨mY, ?_⟩)
 repeat (refine kK ?_)
 (refine aY rfl (jH (c := c') hz (by omega) aW) rfl rfl ?_; rintro _ _ _ ⟨rfl, rfl, rfl⟩; refine ⟨mY, ?_⟩)
 repeat (refine kK ?_)
 (refine aY rfl (aLG (by omega) (by omega) aW aW) rfl rfl ?_; rintro _ _ _ ⟨rfl, q3, c3, rfl, hc3, rfl⟩; refine ⟨mY, ?_⟩)
 have hyz : y.natAbs * z.natAbs ≤ 2 ^ (k + m) := xG hy hz
 have hl3 := fZ hyz (by omega)
 have hsg : sg (¬ (y < 0 ↔ z < 0)) (y.natAbs * z.natAbs) = y * z := by
  unfold sg
  rw [Int.natCast_mul]
  by_cases h1 : y < 0 <;> by_cases h2 : z < 0 <;> simp only [h1, h2, not_true_eq_false, not_false_eq_true, iff_true, iff_false, if_true, if_false]
  ·rw [show (y.natAbs : Int) = -y by omega, show (z.natAbs : Int) = -z by omega, Int.neg_mul_neg]
  ·rw [show (y.natAbs : Int) = -y by omega, show (z.natAbs : Int) = z by omega, Int.neg_mul, Int.neg_neg]
  ·rw [show (y.natAbs : Int) = y by omega, show (z.natAbs : Int) = -z by omega, Int.mul_neg, Int.neg_neg]
  ·rw [show (y.natAbs : Int) = y by omega, show (z.natAbs : Int) = z by omega]
 rw [← hsg]
 (refine aY rfl (lG (p := ¬ (y < 0 ↔ z < 0)) (k := k + m) (by omega) hc3 hyz aW) rfl rfl ?_; rintro _ _ _ ⟨rfl, rfl⟩; refine ⟨mY, ?_⟩; refine bD (List.Mem.head _) (fun q2 c2 e__ hc2 hz2 => ?_); subst e__)
 unfold iv
 repeat (refine kK ?_)
 refine bK (cs := [.bool (B (sg (¬ (y < 0 ↔ z < 0)) (y.natAbs * z.natAbs) < 0)), .slice q2 (gr (sg (¬ (y < 0 ↔ z < 0)) (y.natAbs * z.natAbs)).natAbs).length c2]) (.inl rfl) rfl rfl aW rfl _ _ dK dI ⟨rfl, rfl⟩
end
end Go.Proofs.YtkccjglmnhgabaaGreat

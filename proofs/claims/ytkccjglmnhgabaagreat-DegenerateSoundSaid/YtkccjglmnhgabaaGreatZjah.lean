/- integer: the numbers: made, Valid, groups, Sign, Neg, Mul -/
import Derived.Test.YtkccjglmnhgabaaGreatZjag
set_option linter.unusedSimpArgs false
set_option linter.unusedVariables false
set_option maxRecDepth 100000
set_option maxHeartbeats 4000000
namespace Go.Proofs.YtkccjglmnhgabaaGreat
open Go Go.Fx
def iv (q : Option Addr) (c : Nat) (z : Int) : Value := .agg #[.bool (B (z < 0)), .slice q (gr z.natAbs).length c]
abbrev qK (q : Option Addr) (n c : Nat) : Prop := (gr n).length ≤ c ∧ (Ok q ∨ ((gr n).length = 0 ∧ c = 0))
structure IsI (u : Value) (z : Int) (k : Nat) (X : List Nat) (w : World) : Prop where
 ex : ∃ q c, u = iv q c z ∧ qK q z.natAbs c ∧ z.natAbs ≤ 2 ^ k ∧ Sl X w q (recs eG (gr z.natAbs))
abbrev iJ (u : Value) (z : Int) (k : Nat) : aZ := IsI u z k
instance (u : Value) (z : Int) (k : Nat) : Fx.Good (IsI u z k) := ⟨fun X Y w w' h he hY => by
 obtain ⟨q, c, h1, h2, h3, h4⟩ := h.ex
 exact ⟨q, c, h1, h2, h3, Sl.carry h4 he hY⟩⟩
def sg (p : Prop) [Decidable p] (n : Nat) : Int := if p then -(n : Int) else n
theorem aQD (p : Prop) [Decidable p] (n : Nat) : (sg p n).natAbs = n := by unfold sg; split <;> omega
theorem qL (z : Int) : sg (z < 0) z.natAbs = z := by unfold sg; split <;> omega
theorem aSP (z : Int) : sg (¬ z < 0) z.natAbs = -z := by unfold sg; split <;> omega
theorem sg_lt {p : Prop} [Decidable p] {n : Nat} (h : n ≠ 0) : sg p n < 0 ↔ p := by unfold sg; split <;> simp_all <;> omega
section
variable {P : Program} {n : Nat} {Q : Exit → Act → World → Prop} {G : Env} {X : List Nat} {w0 : World} {M M' : List Ent} {I I' : List aZ}
theorem dE {f : FuncId} {vs : List Value} {K : Value → List Ent → List aZ → Prop} {u : Value} {z : Int} {k : Nat} (hu : iJ u z k ∈ I)
  (h : ∀ q c, u = iv q c z → qK q z.natAbs c → z.natAbs ≤ 2 ^ k → CD P f vs X w0 M (aQ q (recs eG (gr z.natAbs)) :: I) K) : CD P f vs X w0 M I K :=
 ⟨fun w hw => by
  obtain ⟨q, c, h1, h2, h3, h4⟩ := ((hw.imm _ hu).2).ex
  exact (h q c h1 h2 h3).go w (hw.add (φ := aQ q _) ⟨h4⟩)⟩
theorem aEV {w : World} {q : Option Addr} {c : Nat} {z : Int} {k : Nat} (hw : Mem X w0 M I w) (hm : aQ q (recs eG (gr z.natAbs)) ∈ I) (hc : qK q z.natAbs c) (hk : z.natAbs ≤ 2 ^ k) : Mem X w0 M (iJ (iv q c z) z k :: I) w :=
 hw.add (φ := iJ _ z k) ⟨q, c, rfl, hc, hk, hw.sl hm⟩
theorem aDT {ex : Exit} {q : Option Addr} {c : Nat} {z : Int} {k : Nat} (hm : aQ q (recs eG (gr z.natAbs)) ∈ I) (hc : qK q z.natAbs c) (hk : z.natAbs ≤ 2 ^ k) (h : ND n Q ex G X w0 M (iJ (iv q c z) z k :: I)) : ND n Q ex G X w0 M I := yU (fun _ hw => aEV hw hm hc hk) h
theorem uW {ops l : List Oper} {m : Fx.Mode} {q : Option Addr} {c : Nat} {z : Int} {k : Nat} (hm : aQ q (recs eG (gr z.natAbs)) ∈ I) (hc : qK q z.natAbs c) (hk : z.natAbs ≤ 2 ^ k) (h : RD P n ops Q m l G X w0 M (iJ (iv q c z) z k :: I)) : RD P n ops Q m l G X w0 M I := rJ (fun _ hw => aEV hw hm hc hk) h
theorem aY {ops l : List Oper} {m : Fx.Mode} {u : Value} {z : Int} {k : Nat} (hu : iJ u z k ∈ I)
  (h : ∀ q c, u = iv q c z → qK q z.natAbs c → z.natAbs ≤ 2 ^ k → RD P n ops Q m l G X w0 M (aQ q (recs eG (gr z.natAbs)) :: I)) : RD P n ops Q m l G X w0 M I :=
 ⟨fun w hw => by
  obtain ⟨q, c, h1, h2, h3, h4⟩ := ((hw.imm _ hu).2).ex
  exact (h q c h1 h2 h3).go w (hw.add (φ := aQ q _) ⟨h4⟩)⟩
theorem IsI.mono {u : Value} {z : Int} {k m : Nat} {X : List Nat} {w : World} (h : IsI u z k X w) (hk : k ≤ m) : IsI u z m X w := by
 obtain ⟨q, c, h1, h2, h3, h4⟩ := h.ex
 exact ⟨q, c, h1, h2, Nat.le_trans h3 (Nat.pow_le_pow_right (by decide) hk), h4⟩
end
theorem gQ {n k : Nat} (h : n ≤ 2 ^ k) (hk : k ≤ 1000000000000) : (gr n).length ≤ 40000000000 := by
 have := eQ h
 omega
/- ---------- IndexFunc, ContainsFunc of []uint32 ---------- -/
section
variable {X : List Nat} {w0 : World} {M0 : List Ent} {I0 : List aZ}
theorem aWD {q : Option Addr} {a : List Int} {c : Nat} {g : FuncId} [FnOk Tryz.prog g] {fs cs : Array Value} (pr : Int → Prop) [DecidablePred pr] (hn : (a.length : Int) ≤ 9223372036854775807) (ha : aQ q (recs eG a) ∈ I0)
  (hg : ∀ i : Nat, i < a.length → CD Tryz.prog g (fs.toList ++ [Value.int .u32 (gt a i)] ++ cs.toList) X w0 M0 I0 (fun v M I => M0 = M ∧ I0 = I ∧ v = .bool (B (pr (gt a i))))) :
  CD Tryz.prog 206 [.slice q a.length c, .func (.func g) fs cs] X w0 M0 I0 (fun v M I => M0 = M ∧ I0 = I ∧ ∃ r : Int, v = .int .i64 r ∧ ((∃ i : Nat, i < a.length ∧ r = i ∧ pr (gt a i) ∧ ∀ j : Nat, j < i → ¬ pr (gt a j)) ∨ (r = -1 ∧ ∀ j : Nat, j < a.length → ¬ pr (gt a j)))) := by
 refine dY Tryz.func206 rfl Tryz.ntmps206 rfl ?_
 repeat (refine lK ?_)
 refine aM [0, 1, 7] rfl (fun k G M I => ∃ i : Nat, i ≤ a.length ∧ k = a.length - i ∧ (∀ j : Nat, j < i → ¬ pr (gt a j)) ∧ G = [(8, .int .i64 i)] ∧ M = M0 ∧ I = I0) (a.length) _ _ _ aP bT bS (⟨0, by omega, rfl, fun j hj => by omega, rfl, rfl, rfl⟩) ?_
 rintro k G M I ⟨i, hi, rfl, hs, rfl, rfl, rfl⟩
 repeat' (first | refine lK ?_ | refine aN rfl (fun h => ?_) (fun h => ?_) | refine aO rfl rfl (fun h => ?_) (fun h => ?_) | fail)
 ·have hlt : i < a.length := by omega
  (refine aBN rfl rfl (hg i hlt) rfl rfl rfl ?_; rintro _ _ _ ⟨rfl, rfl, rfl⟩; refine ⟨nT, ?_⟩)
  repeat' (first | refine lK ?_ | refine aN rfl (fun h => ?_) (fun h => ?_) | refine aO rfl rfl (fun h => ?_) (fun h => ?_) | fail)
  ·refine aF (by first | exact .inl rfl | exact .inr rfl) rfl rfl _ _ bT bS (⟨rfl, rfl, _, rfl, .inl ⟨i, hlt, rfl, by assumption, hs⟩⟩)
  ·refine aJ (a.length - (i + 1)) _ _ _ (by first | omega | (simp only [List.length_append, List.length_cons, List.length_nil]; omega)) aP bT bS (⟨i + 1, by omega, rfl, fun j hj => ?_, rfl, rfl, rfl⟩)
   by_cases e : j = i
   ·subst e; assumption
   ·exact hs j (by omega)
 ·refine aF (by first | exact .inl rfl | exact .inr rfl) rfl rfl _ _ bT bS (⟨rfl, rfl, _, rfl, .inr ⟨rfl, fun j hj => hs j (by omega)⟩⟩)
theorem aUJ {q : Option Addr} {a : List Int} {c : Nat} {g : FuncId} [FnOk Tryz.prog g] {fs cs : Array Value} (pr : Int → Prop) [DecidablePred pr] (hn : (a.length : Int) ≤ 9223372036854775807) (ha : aQ q (recs eG a) ∈ I0)
  (hg : ∀ i : Nat, i < a.length → CD Tryz.prog g (fs.toList ++ [Value.int .u32 (gt a i)] ++ cs.toList) X w0 M0 I0 (fun v M I => M0 = M ∧ I0 = I ∧ v = .bool (B (pr (gt a i))))) :
  CD Tryz.prog 174 [.slice q a.length c, .func (.func g) fs cs] X w0 M0 I0 (fun v M I => M0 = M ∧ I0 = I ∧ v = .bool (B (∃ x ∈ a, pr x))) := by
 refine dY Tryz.func174 rfl Tryz.ntmps174 rfl ?_
 repeat (refine lK ?_)
 (refine aT rfl (aWD pr hn ha hg) rfl rfl ?_; rintro _ _ _ ⟨rfl, rfl, r, rfl, h⟩; refine ⟨nT, ?_⟩)
 repeat (refine lK ?_)
 refine aF (by first | exact .inl rfl | exact .inr rfl) rfl rfl _ _ bT bS (⟨rfl, rfl, congrArg Value.bool (fE ?_)⟩)
 rcases h with ⟨i, hi, rfl, hp, _⟩ | ⟨rfl, h⟩
 ·exact ⟨fun _ => ⟨gt a i, by rw [jD hi]; exact List.getElem_mem hi, hp⟩, fun _ => by omega⟩
 ·refine ⟨fun h => by omega, ?_⟩
  rintro ⟨x, hx, hp⟩
  obtain ⟨j, hj, rfl⟩ := List.mem_iff_getElem.1 hx
  exact absurd (by rw [jD hj]; exact hp) (h j hj)
end
/- ---------- Clone of []uint32 ---------- -/
section
variable {X : List Nat} {w0 : World} {M0 : List Ent} {I0 : List aZ}
theorem zS {q : Option Addr} {a : List Int} {c : Nat} (hn : (a.length : Int) * 4 ≤ 140737488355328) (hok : Ok q ∨ (a.length = 0 ∧ c = 0)) (ha : aQ q (recs eG a) ∈ I0) :
  CD Tryz.prog 153 [.slice q a.length c] X w0 M0 I0 (fun v M I => I0 = I ∧ ∃ q' c', v = .slice q' a.length c' ∧ M = .row q' a.length c' (recs eG a) 179 1 :: M0) := by
 refine dY Tryz.func153 rfl Tryz.ntmps153 rfl ?_
 repeat (refine lK ?_)
 refine aC rfl (fun _ => aAF rfl) rfl rfl ?_
 cases q with
 | some ad =>
  repeat (refine lK ?_)
  (refine aW (cs := recs eG []) ([]) rfl rfl (by intro v hv; repeat (first | exact absurd hv (List.not_mem_nil) | (rcases List.mem_cons.1 hv with rfl | hv; · rfl))) (by omega) rfl rfl rfl ?_; intro b1; refine ⟨nT, ?_⟩)
  repeat (refine lK ?_)
  refine fO (mm := 0) 1 mY rfl (by omega) ?_
  refine dD (xs := []) (ys := a) 0 rfl rfl rfl (Src.imm aS hok) (by decide) rfl (by simp; omega) (by simp; omega) rfl rfl ?_
  intro a2 c2
  refine ⟨nT, ?_⟩
  repeat (refine lK ?_)
  refine aF (by first | exact .inl rfl | exact .inr rfl) rfl rfl _ _ bT bS (⟨rfl, a2, c2, by simp, by simp⟩)
 | none =>
  obtain ⟨h0, rfl⟩ : a.length = 0 ∧ c = 0 := hok.resolve_left (fun h => by obtain ⟨b, o, e⟩ := h.cases; cases e)
  have hnil : a = [] := List.eq_nil_of_length_eq_zero h0
  subst hnil
  repeat (refine lK ?_)
  refine aNE 179 1 ?_
  refine aF (by first | exact .inl rfl | exact .inr rfl) rfl rfl _ _ bT bS (⟨rfl, none, 0, rfl, rfl⟩)
end
section
variable {X : List Nat} {w0 : World} {M0 : List Ent} {I0 : List aZ}
theorem mF {p : Prop} [Decidable p] {q : Option Addr} {n c k : Nat} (hl : (gr n).length ≤ 100000000000) (hc : qK q n c) (hk : n ≤ 2 ^ k) (hq : aQ q (recs eG (gr n)) ∈ I0) :
  CD Tryz.prog 147 [.bool (B p), .slice q (gr n).length c] X w0 M0 I0 (fun v M I => M0 = M ∧ I = iJ v (sg p n) k :: I0) := by
 refine dY Tryz.func147 rfl Tryz.ntmps147 rfl ?_
 refine aI ?_
 refine aH ?_
 (refine aL rfl rfl ?_; intro b; refine ⟨nT, ?_⟩)
 repeat (refine lK ?_)
 (refine aT rfl (qP (l := gr n) rfl (by omega) hc.1 hq) rfl rfl ?_; rintro _ _ _ ⟨rfl, rfl, rfl⟩; refine ⟨nT, ?_⟩)
 rw [aBX (aCG n)]
 by_cases h0 : (gr n).length = 0
 ·have hn : n = 0 := nX.1 (List.eq_nil_of_length_eq_zero h0)
  subst hn
  repeat (refine lK ?_)
  (refine aC rfl (fun _ => cZ (pvs := ([]).zipIdx.map (fun p => (p.2, p.1))) (cells := [.bool false, .slice none 0 0]) rfl rfl) rfl rfl ?_)
  repeat (refine lK ?_)
  have hz : sg p 0 = 0 := by unfold sg; split <;> rfl
  rw [hz]
  have hg0 : gr (0 : Int).natAbs = [] := gW
  refine aFG none ?_
  refine aDT (q := none) (c := 0) (z := 0) (k := k) (by rw [hg0]; exact aS) ⟨by rw [hg0]; simp, .inr ⟨by rw [hg0]; rfl, rfl⟩⟩ (by simp) ?_
  have hiv : iv none 0 0 = .agg #[.bool false, .slice none 0 0] := by unfold iv; rw [hg0, aX (by omega)]; rfl
  rw [hiv]
  refine bK (cs := [.bool false, .slice none 0 0]) (.inl rfl) rfl rfl aS rfl _ _ bT bS ⟨rfl, rfl⟩
 ·have hn : n ≠ 0 := fun e => h0 (by rw [e, gW]; rfl)
  repeat (refine lK ?_)
  (refine aC rfl (fun _ => cZ (pvs := ([.bool (B p), .slice q (gr n).length c]).zipIdx.map (fun p => (p.2, p.1))) (cells := [.bool (B p), .slice q (gr n).length c]) rfl rfl) rfl rfl ?_)
  repeat (refine lK ?_)
  have ha := aQD p n
  refine aDT (q := q) (c := c) (z := sg p n) (k := k) (by rw [ha]; exact aS) (by rw [ha]; exact hc) (by rw [ha]; exact hk) ?_
  have hiv : iv q c (sg p n) = .agg #[.bool (B p), .slice q (gr n).length c] := by unfold iv; rw [ha, fE (sg_lt hn)]
  rw [hiv]
  refine bK (cs := [.bool (B p), .slice q (gr n).length c]) (.inl rfl) rfl rfl aS rfl _ _ bT bS ⟨rfl, rfl⟩
theorem aUZ {x : Int} : CD Tryz.prog 175 [.int .u32 x] X w0 M0 I0 (fun v M I => M0 = M ∧ I0 = I ∧ v = .bool (B (1000000000 ≤ x))) := by
 refine dY Tryz.func175 rfl Tryz.ntmps175 rfl ?_
 repeat (refine lK ?_)
 refine aF (by first | exact .inl rfl | exact .inr rfl) rfl rfl _ _ bT bS (⟨rfl, rfl, rfl⟩)
def rA (neg : Bool) (gs : List Int) : Prop := (gs = [] ∧ neg = false) ∨ (gs ≠ [] ∧ Top gs ∧ ¬ ∃ x ∈ gs, 1000000000 ≤ x)
instance (neg : Bool) (gs : List Int) : Decidable (rA neg gs) := by unfold rA; exact inferInstance
theorem aAM {gs : List Int} (h : 0 < gs.length) : gs.getLastD 1 = gt gs ((gs.length : Int) - 1) := by
 rcases List.eq_nil_or_concat gs with rfl | ⟨r, x, e⟩
 ·simp at h
 ·rw [List.concat_eq_append] at e
  subst e
  have e1 : (((r ++ [x]).length : Int) - 1) = ((r.length : Nat) : Int) := by simp
  rw [e1, vQ]
  simp
theorem uS {neg : Bool} {q : Option Addr} {gs : List Int} {c : Nat} (hn : (gs.length : Int) ≤ 9223372036854775807) (hq : aQ q (recs eG gs) ∈ I0) :
  CD Tryz.prog 137 [.agg #[.bool neg, .slice q gs.length c]] X w0 M0 I0 (fun v M I => M0 = M ∧ I0 = I ∧ v = .bool (B (rA neg gs))) := by
 refine dY Tryz.func137 rfl Tryz.ntmps137 rfl ?_
 refine aI ?_
 refine aH ?_
 (refine nO rfl rfl rfl ?_; intro b; refine ⟨nT, ?_⟩)
 by_cases h0 : gs.length = 0
 ·have hg : gs = [] := List.eq_nil_of_length_eq_zero h0
  subst hg
  repeat (refine lK ?_)
  refine aF (by first | exact .inl rfl | exact .inr rfl) rfl rfl _ _ bT bS (⟨rfl, rfl, by rw [show (!neg) = B (rA neg []) by rw [qH]; cases neg <;> simp [rA]]⟩)
 ·have hgs : gs ≠ [] := fun e => h0 (by rw [e]; rfl)
  have hlast := aAM (gs := gs) (by omega)
  repeat' (first | refine lK ?_ | refine aN rfl (fun h => ?_) (fun h => ?_) | refine aO rfl rfl (fun h => ?_) (fun h => ?_) | fail)
  ·(refine aT rfl (aUJ (fun x => 1000000000 ≤ x) hn hq (fun i hi => aUZ)) rfl rfl ?_; rintro _ _ _ ⟨rfl, rfl, rfl⟩; refine ⟨nT, ?_⟩)
   repeat (refine lK ?_)
   refine aF (by first | exact .inl rfl | exact .inr rfl) rfl rfl _ _ bT bS (⟨rfl, rfl, congrArg Value.bool (fE ?_)⟩)
   unfold rA Top
   rw [hlast]
   exact ⟨fun h => .inr ⟨hgs, by assumption, h⟩, fun h => h.elim (fun h => absurd h.1 hgs) (fun h => h.2.2)⟩
  ·refine aF (by first | exact .inl rfl | exact .inr rfl) rfl rfl _ _ bT bS (⟨rfl, rfl, congrArg Value.bool (aX ?_).symm⟩)
   unfold rA Top
   rw [hlast]
   rintro (h | h)
   ·exact hgs h.1
   ·exact absurd h.2.1 (by assumption)
theorem yR (z : Int) : rA (B (z < 0)) (gr z.natAbs) := by
 by_cases h : z.natAbs = 0
 ·refine .inl ⟨by rw [h, gW], aX (by omega)⟩
 ·refine .inr ⟨fun e => h (nX.1 e), aCG _, ?_⟩
  rintro ⟨x, hx, h1⟩
  have := bY z.natAbs x hx
  omega
theorem jW {q : Option Addr} {c k : Nat} {z : Int} (hz : z.natAbs ≤ 2 ^ k) (hk : k ≤ 1000000000000) (hq : aQ q (recs eG (gr z.natAbs)) ∈ I0) :
  CD Tryz.prog 150 [iv q c z] X w0 M0 I0 (fun v M I => M0 = M ∧ I0 = I ∧ v = .slice q (gr z.natAbs).length c) := by
 have hl := gQ hz hk
 unfold iv
 refine dY Tryz.func150 rfl Tryz.ntmps150 rfl ?_
 refine aI ?_
 refine aH ?_
 (refine nO rfl rfl rfl ?_; intro b; refine ⟨nT, ?_⟩)
 repeat (refine lK ?_)
 (refine aT rfl (uS (neg := B (z < 0)) (gs := gr z.natAbs) (by omega) hq) rfl rfl ?_; rintro _ _ _ ⟨rfl, rfl, rfl⟩; refine ⟨nT, ?_⟩)
 rw [bB (yR z)]
 repeat (refine lK ?_)
 refine aF (by first | exact .inl rfl | exact .inr rfl) rfl rfl _ _ bT bS (⟨rfl, rfl, rfl⟩)
theorem tY {u : Value} {z : Int} {k : Nat} (hk : k ≤ 1000000000000) (hu : iJ u z k ∈ I0) : CD Tryz.prog 103 [u] X w0 M0 I0 (fun v M I => M0 = M ∧ I0 = I ∧ v = .int .i64 z.sign) := by
 refine dE hu (fun q c e hc hz => ?_)
 subst e
 unfold iv
 refine dY Tryz.func103 rfl Tryz.ntmps103 rfl ?_
 refine aI ?_
 refine aH ?_
 (refine nO rfl rfl rfl ?_; intro b; refine ⟨nT, ?_⟩)
 repeat (refine lK ?_)
 (refine aT rfl (jW (c := c) hz hk aS) rfl rfl ?_; rintro _ _ _ ⟨rfl, rfl, rfl⟩; refine ⟨nT, ?_⟩)
 have hnil : (gr z.natAbs).length = 0 ↔ z = 0 := by
  rw [List.length_eq_zero_iff, nX]; omega
 by_cases h0 : z = 0
 ·have := hnil.2 h0
  repeat (refine lK ?_)
  refine aF (by first | exact .inl rfl | exact .inr rfl) rfl rfl _ _ bT bS (⟨rfl, rfl, by rw [h0]; rfl⟩)
 ·have : ¬ (gr z.natAbs).length = 0 := fun h => h0 (hnil.1 h)
  repeat' (first | refine lK ?_ | refine aN rfl (fun h => ?_) (fun h => ?_) | refine aO rfl rfl (fun h => ?_) (fun h => ?_) | fail)
  ·refine aF (by first | exact .inl rfl | exact .inr rfl) rfl rfl _ _ bT bS (⟨rfl, rfl, by rw [Int.sign_eq_neg_one_of_neg (by assumption)]⟩)
  ·refine aF (by first | exact .inl rfl | exact .inr rfl) rfl rfl _ _ bT bS (⟨rfl, rfl, by rw [Int.sign_eq_one_of_pos (by omega)]⟩)
theorem aKD {u : Value} {z : Int} {k : Nat} (hk : k ≤ 1000000000000) (hu : iJ u z k ∈ I0) : CD Tryz.prog 107 [u] X w0 M0 I0 (fun v M I => M0 = M ∧ I = iJ v (-z) k :: I0) := by
 refine dE hu (fun q c e hc hz => ?_)
 subst e
 have hl := gQ hz hk
 unfold iv
 refine dY Tryz.func107 rfl Tryz.ntmps107 rfl ?_
 refine aI ?_
 refine aH ?_
 (refine nO rfl rfl rfl ?_; intro b; refine ⟨nT, ?_⟩)
 (refine aL rfl rfl ?_; intro b2; refine ⟨nT, ?_⟩)
 repeat' (first | refine aH ?_ | refine jP ?_ | refine gZ ?_ | refine fH ?_ | refine fB ?_ | refine iB ?_ | refine gT ?_ | refine fF ?_ | refine fG ?_ | refine jO ?_ | refine jN ?_ | refine jG ?_ | refine jL rfl ?_ | refine fI ?_ | (refine fT ?_; first | refine gJ rfl rfl rfl ?_ | (refine fQ rfl rfl ?_; refine fA rfl rfl rfl nT ?_) | refine gM rfl rfl (by omega) ?_ | refine fZ rfl rfl (by omega) ?_ | refine qI rfl rfl (fun h => ?_) (fun h => ?_) | (fail_if_success (refine sW rfl ?_); refine oG rfl rfl (fun h => ?_) (fun h => ?_))) | (refine bP ?_; refine aC rfl (fun _ => dJ rfl) rfl rfl ?_) | refine aC rfl (fun _ => bC rfl) rfl rfl ?_ | (refine fV ?_; first | refine aC rfl (fun _ => bI rfl rfl w_) rfl rfl ?_ | refine aC rfl (fun _ => bJ rfl rfl w_) rfl rfl ?_ | refine aC rfl (fun _ => eF rfl rfl w_) rfl rfl ?_ | refine aC rfl (fun _ => eD rfl rfl (by omega) q_) rfl rfl ?_ | refine aC rfl (fun _ => eO rfl rfl (by omega) rfl) rfl rfl ?_ | refine aC rfl (fun _ => dG rfl rfl) rfl rfl ?_ | refine aC rfl (fun _ => dS rfl rfl) rfl rfl ?_ | refine aC rfl (fun _ => dL rfl rfl) rfl rfl ?_) | (refine bP ?_; first | refine aC rfl (fun _ => dV rfl w_) rfl rfl ?_) | (refine gI ?_; first | refine aC rfl (fun _ => cO rfl w_) rfl rfl ?_) | (refine gK ?_; first | refine aC rfl (fun _ => bH rfl) rfl rfl ?_ | refine aC rfl (fun _ => dI rfl rfl) rfl rfl ?_ | refine aC rfl (fun _ => dH rfl rfl) rfl rfl ?_ | refine aC rfl (fun _ => dF rfl rfl rfl) rfl rfl ?_) | (refine gL ?_; first | refine gD rfl (by decide) rfl rfl ?_ | refine iV rfl (by decide) rfl rfl ?_) | (refine fU ?_; first | refine aC rfl (fun _ => bX rfl) rfl rfl ?_) | (refine gH ?_; first | refine iW rfl rfl fC rfl rfl ?_ | refine iR sO rfl rfl fC aS jB rfl rfl ?_ | refine iU sO rfl rfl fC aS jB rfl rfl ?_ | refine aC rfl (fun _ => bM rfl rfl fC) rfl rfl ?_) | (refine bD ?_; first | refine iX sO rfl aS oW rfl rfl ?_ | refine iZ sO rfl aS oW rfl rfl ?_ | refine iC sO rfl aS oW rfl rfl ?_ | refine gF sO rfl aS oW rfl rfl ?_ | refine lG sO rfl aS iP fD rfl rfl ?_ | refine lH sO rfl aS iP fD rfl rfl ?_ | refine lI sO rfl aS iP fD rfl rfl ?_ | refine jZ sO rfl aS iP fD rfl rfl ?_) | (refine gG ?_; first | refine aC rfl (fun _ => bN rfl rfl) rfl rfl ?_ | refine aC rfl (fun _ => bG rfl) rfl rfl ?_) | (refine iL ?_; first | refine kG rfl rfl rfl mY stC rfl rfl ⟨nT, ?_⟩ | refine eY rfl rfl fD qY mY qZ rfl rfl ⟨nT, ?_⟩) | (refine gV ?_; first | refine bW rfl ?_ | refine bL rfl ?_ | refine jQ rfl (by omega) ?_ | refine lL rfl (by omega) ?_ | refine tQ rfl (fun h => ?_) (fun h => ?_) | refine oH rfl (fun h => ?_) (fun h => ?_)))
 (repeat refine aI ?_); refine bR 3 [0, 1, 2, 3, 4, 5, 6, 7] [3, 3, 2, 2, 0, 0, 0, 0] mixed (by kernel_rfl) ?_
 repeat (refine lK ?_)
 (refine aT rfl (jW (c := c) hz hk aS) rfl rfl ?_; rintro _ _ _ ⟨rfl, rfl, rfl⟩; refine ⟨nT, ?_⟩)
 repeat (refine lK ?_)
 (refine aT rfl (zS (a := gr z.natAbs) (by omega) hc.2 aS) rfl rfl ?_; rintro _ _ _ ⟨rfl, q', c', rfl, rfl⟩; refine ⟨nT, ?_⟩)
 refine mQ (fun w hw => And.intro (hw.rowLe (List.Mem.head _)) ((hw.rowS (List.Mem.head _)).2.imp id And.right)) (fun hc' => ?_)
 refine gY vX ?_
 repeat (refine lK ?_)
 rw [← aSP z]
 (refine aT rfl (mF (p := ¬ z < 0) (k := k) (by omega) hc' hz aS) rfl rfl ?_; rintro _ _ _ ⟨rfl, rfl⟩; refine ⟨nT, ?_⟩; refine aY (List.Mem.head _) (fun q2 c2 e__ hc2 hz2 => ?_); subst e__)
 unfold iv
 repeat (refine lK ?_)
 refine bK (cs := [.bool (B (sg (¬ z < 0) z.natAbs < 0)), .slice q2 (gr (sg (¬ z < 0) z.natAbs).natAbs).length c2]) (.inl rfl) rfl rfl aS rfl _ _ bT bS ⟨rfl, rfl⟩
theorem sU {u v : Value} {y z : Int} {k m : Nat} (hk : k + m ≤ 1000000000000) (hu : iJ u y k ∈ I0) (hv : iJ v z m ∈ I0) : CD Tryz.prog 105 [u, v] X w0 M0 I0 (fun v M I => M0 = M ∧ I = iJ v (y * z) (k + m) :: I0) := by
 refine dE hu (fun q c e hc hy => ?_)
 subst e
 refine dE (List.Mem.tail _ hv) (fun q' c' e hc' hz => ?_)
 subst e
 have hl := gQ hy (by omega)
 have hl' := gQ hz (by omega)
 unfold iv
 refine dY Tryz.func105 rfl Tryz.ntmps105 rfl ?_
 refine aI ?_
 refine aH ?_
 (refine nO rfl rfl rfl ?_; intro b; refine ⟨nT, ?_⟩)
 (refine nO rfl rfl rfl ?_; intro b2; refine ⟨nT, ?_⟩)
 (refine aL rfl rfl ?_; intro b3; refine ⟨nT, ?_⟩)
 repeat' (first | refine aH ?_ | refine jP ?_ | refine gZ ?_ | refine fH ?_ | refine fB ?_ | refine iB ?_ | refine gT ?_ | refine fF ?_ | refine fG ?_ | refine jO ?_ | refine jN ?_ | refine jG ?_ | refine jL rfl ?_ | refine fI ?_ | (refine fT ?_; first | refine gJ rfl rfl rfl ?_ | (refine fQ rfl rfl ?_; refine fA rfl rfl rfl nT ?_) | refine gM rfl rfl (by omega) ?_ | refine fZ rfl rfl (by omega) ?_ | refine qI rfl rfl (fun h => ?_) (fun h => ?_) | (fail_if_success (refine sW rfl ?_); refine oG rfl rfl (fun h => ?_) (fun h => ?_))) | (refine bP ?_; refine aC rfl (fun _ => dJ rfl) rfl rfl ?_) | refine aC rfl (fun _ => bC rfl) rfl rfl ?_ | (refine fV ?_; first | refine aC rfl (fun _ => bI rfl rfl w_) rfl rfl ?_ | refine aC rfl (fun _ => bJ rfl rfl w_) rfl rfl ?_ | refine aC rfl (fun _ => eF rfl rfl w_) rfl rfl ?_ | refine aC rfl (fun _ => eD rfl rfl (by omega) q_) rfl rfl ?_ | refine aC rfl (fun _ => eO rfl rfl (by omega) rfl) rfl rfl ?_ | refine aC rfl (fun _ => dG rfl rfl) rfl rfl ?_ | refine aC rfl (fun _ => dS rfl rfl) rfl rfl ?_ | refine aC rfl (fun _ => dL rfl rfl) rfl rfl ?_) | (refine bP ?_; first | refine aC rfl (fun _ => dV rfl w_) rfl rfl ?_) | (refine gI ?_; first | refine aC rfl (fun _ => cO rfl w_) rfl rfl ?_) | (refine gK ?_; first | refine aC rfl (fun _ => bH rfl) rfl rfl ?_ | refine aC rfl (fun _ => dI rfl rfl) rfl rfl ?_ | refine aC rfl (fun _ => dH rfl rfl) rfl rfl ?_ | refine aC rfl (fun _ => dF rfl rfl rfl) rfl rfl ?_) | (refine gL ?_; first | refine gD rfl (by decide) rfl rfl ?_ | refine iV rfl (by decide) rfl rfl ?_) | (refine fU ?_; first | refine aC rfl (fun _ => bX rfl) rfl rfl ?_) | (refine gH ?_; first | refine iW rfl rfl fC rfl rfl ?_ | refine iR sO rfl rfl fC aS jB rfl rfl ?_ | refine iU sO rfl rfl fC aS jB rfl rfl ?_ | refine aC rfl (fun _ => bM rfl rfl fC) rfl rfl ?_) | (refine bD ?_; first | refine iX sO rfl aS oW rfl rfl ?_ | refine iZ sO rfl aS oW rfl rfl ?_ | refine iC sO rfl aS oW rfl rfl ?_ | refine gF sO rfl aS oW rfl rfl ?_ | refine lG sO rfl aS iP fD rfl rfl ?_ | refine lH sO rfl aS iP fD rfl rfl ?_ | refine lI sO rfl aS iP fD rfl rfl ?_ | refine jZ sO rfl aS iP fD rfl rfl ?_) | (refine gG ?_; first | refine aC rfl (fun _ => bN rfl rfl) rfl rfl ?_ | refine aC rfl (fun _ => bG rfl) rfl rfl ?_) | (refine iL ?_; first | refine kG rfl rfl rfl mY stC rfl rfl ⟨nT, ?_⟩ | refine eY rfl rfl fD qY mY qZ rfl rfl ⟨nT, ?_⟩) | (refine gV ?_; first | refine bW rfl ?_ | refine bL rfl ?_ | refine jQ rfl (by omega) ?_ | refine lL rfl (by omega) ?_ | refine tQ rfl (fun h => ?_) (fun h => ?_) | refine oH rfl (fun h => ?_) (fun h => ?_)))
 (repeat refine aI ?_); refine bR 4 [0, 1, 2, 3, 4, 5, 7, 6, 8, 9, 10, 11] [4, 4, 4, 4, 3, 3, 3, 0, 0, 0, 0, 0] mixed (by kernel_rfl) ?_
 repeat (refine lK ?_)
 (refine aT rfl (jW (c := c) hy (by omega) aS) rfl rfl ?_; rintro _ _ _ ⟨rfl, rfl, rfl⟩; refine ⟨nT, ?_⟩)
 repeat (refine lK ?_)
 (refine aT rfl (jW (c := c') hz (by omega) aS) rfl rfl ?_; rintro _ _ _ ⟨rfl, rfl, rfl⟩; refine ⟨nT, ?_⟩)
 repeat (refine lK ?_)
 (refine aT rfl (aSZ (by omega) (by omega) aS aS) rfl rfl ?_; rintro _ _ _ ⟨rfl, q3, c3, rfl, hc3, rfl⟩; refine ⟨nT, ?_⟩)
 have hyz : y.natAbs * z.natAbs ≤ 2 ^ (k + m) := aAD hy hz
 have hl3 := gQ hyz (by omega)
 have hsg : sg (¬ (y < 0 ↔ z < 0)) (y.natAbs * z.natAbs) = y * z := by
  unfold sg
  rw [Int.natCast_mul]
  by_cases h1 : y < 0 <;> by_cases h2 : z < 0 <;> simp only [h1, h2, not_true_eq_false, not_false_eq_true, iff_true, iff_false, if_true, if_false]
  ·rw [show (y.natAbs : Int) = -y by omega, show (z.natAbs : Int) = -z by omega, Int.neg_mul_neg]
  ·rw [show (y.natAbs : Int) = -y by omega, show (z.natAbs : Int) = z by omega, Int.neg_mul, Int.neg_neg]
  ·rw [show (y.natAbs : Int) = y by omega, show (z.natAbs : Int) = -z by omega, Int.mul_neg, Int.neg_neg]
  ·rw [show (y.natAbs : Int) = y by omega, show (z.natAbs : Int) = z by omega]
 rw [← hsg]
 (refine aT rfl (mF (p := ¬ (y < 0 ↔ z < 0)) (k := k + m) (by omega) hc3 hyz aS) rfl rfl ?_; rintro _ _ _ ⟨rfl, rfl⟩; refine ⟨nT, ?_⟩; refine aY (List.Mem.head _) (fun q2 c2 e__ hc2 hz2 => ?_); subst e__)
 unfold iv
 repeat (refine lK ?_)
 refine bK (cs := [.bool (B (sg (¬ (y < 0 ↔ z < 0)) (y.natAbs * z.natAbs) < 0)), .slice q2 (gr (sg (¬ (y < 0 ↔ z < 0)) (y.natAbs * z.natAbs)).natAbs).length c2]) (.inl rfl) rfl rfl aS rfl _ _ bT bS ⟨rfl, rfl⟩
end
end Go.Proofs.YtkccjglmnhgabaaGreat

/- integer: the numbers: made, Valid, groups, Sign, Neg, Mul -/
import Derived.Test.YtjbhdfpjnjedhaaGreatZpah
import Derived.Test.YtjbhdfpjnjedhaaGreatZpag
set_option linter.unusedSimpArgs false
set_option linter.unusedVariables false
set_option maxRecDepth 100000
set_option maxHeartbeats 4000000
namespace Go.Proofs.YtjbhdfpjnjedhaaGreat
open Go Go.Fx
def iv (q : Option Addr) (c : Nat) (z : Int) : Value := .agg #[.bool (B (z < 0)), .slice q (gr z.natAbs).length c]
abbrev pW (q : Option Addr) (n c : Nat) : Prop := (gr n).length ≤ c ∧ (Ok q ∨ ((gr n).length = 0 ∧ c = 0))
structure IsI (u : Value) (z : Int) (k : Nat) (X : List Nat) (w : World) : Prop where
 ex : ∃ q c, u = iv q c z ∧ pW q z.natAbs c ∧ z.natAbs ≤ 2 ^ k ∧ Sl X w q (recs eG (gr z.natAbs))
abbrev iI (u : Value) (z : Int) (k : Nat) : aY := IsI u z k
instance (u : Value) (z : Int) (k : Nat) : Fx.Good (IsI u z k) := ⟨fun X Y w w' h he hY => by
 obtain ⟨q, c, h1, h2, h3, h4⟩ := h.ex
 exact ⟨q, c, h1, h2, h3, Sl.carry h4 he hY⟩⟩
def sg (p : Prop) [Decidable p] (n : Nat) : Int := if p then -(n : Int) else n
theorem aQG (p : Prop) [Decidable p] (n : Nat) : (sg p n).natAbs = n := by unfold sg; split <;> omega
theorem qH (z : Int) : sg (z < 0) z.natAbs = z := by unfold sg; split <;> omega
theorem aQT (z : Int) : sg (¬ z < 0) z.natAbs = -z := by unfold sg; split <;> omega
theorem sg_lt {p : Prop} [Decidable p] {n : Nat} (h : n ≠ 0) : sg p n < 0 ↔ p := by unfold sg; split <;> simp_all <;> omega
section
variable {P : Program} {n : Nat} {Q : Exit → Act → World → Prop} {G : Env} {X : List Nat} {w0 : World} {M M' : List Ent} {I I' : List aY}
theorem dE {f : FuncId} {vs : List Value} {K : Value → List Ent → List aY → Prop} {u : Value} {z : Int} {k : Nat} (hu : iI u z k ∈ I)
  (h : ∀ q c, u = iv q c z → pW q z.natAbs c → z.natAbs ≤ 2 ^ k → CD P f vs X w0 M (aO q (recs eG (gr z.natAbs)) :: I) K) : CD P f vs X w0 M I K :=
 ⟨fun w hw => by
  obtain ⟨q, c, h1, h2, h3, h4⟩ := ((hw.imm _ hu).2).ex
  exact (h q c h1 h2 h3).go w (hw.add (φ := aO q _) ⟨h4⟩)⟩
theorem aEG {w : World} {q : Option Addr} {c : Nat} {z : Int} {k : Nat} (hw : Mem X w0 M I w) (hm : aO q (recs eG (gr z.natAbs)) ∈ I) (hc : pW q z.natAbs c) (hk : z.natAbs ≤ 2 ^ k) : Mem X w0 M (iI (iv q c z) z k :: I) w :=
 hw.add (φ := iI _ z k) ⟨q, c, rfl, hc, hk, hw.sl hm⟩
theorem aDU {ex : Exit} {q : Option Addr} {c : Nat} {z : Int} {k : Nat} (hm : aO q (recs eG (gr z.natAbs)) ∈ I) (hc : pW q z.natAbs c) (hk : z.natAbs ≤ 2 ^ k) (h : ND n Q ex G X w0 M (iI (iv q c z) z k :: I)) : ND n Q ex G X w0 M I := yY (fun _ hw => aEG hw hm hc hk) h
theorem uR {ops l : List Oper} {m : Fx.Mode} {q : Option Addr} {c : Nat} {z : Int} {k : Nat} (hm : aO q (recs eG (gr z.natAbs)) ∈ I) (hc : pW q z.natAbs c) (hk : z.natAbs ≤ 2 ^ k) (h : RD P n ops Q m l G X w0 M (iI (iv q c z) z k :: I)) : RD P n ops Q m l G X w0 M I := sW (fun _ hw => aEG hw hm hc hk) h
theorem aW {ops l : List Oper} {m : Fx.Mode} {u : Value} {z : Int} {k : Nat} (hu : iI u z k ∈ I)
  (h : ∀ q c, u = iv q c z → pW q z.natAbs c → z.natAbs ≤ 2 ^ k → RD P n ops Q m l G X w0 M (aO q (recs eG (gr z.natAbs)) :: I)) : RD P n ops Q m l G X w0 M I :=
 ⟨fun w hw => by
  obtain ⟨q, c, h1, h2, h3, h4⟩ := ((hw.imm _ hu).2).ex
  exact (h q c h1 h2 h3).go w (hw.add (φ := aO q _) ⟨h4⟩)⟩
theorem IsI.mono {u : Value} {z : Int} {k m : Nat} {X : List Nat} {w : World} (h : IsI u z k X w) (hk : k ≤ m) : IsI u z m X w := by
 obtain ⟨q, c, h1, h2, h3, h4⟩ := h.ex
 exact ⟨q, c, h1, h2, Nat.le_trans h3 (Nat.pow_le_pow_right (by decide) hk), h4⟩
end
theorem gF {n k : Nat} (h : n ≤ 2 ^ k) (hk : k ≤ 1000000000000) : (gr n).length ≤ 40000000000 := by
 have := eY h
 omega
/- ---------- IndexFunc, ContainsFunc of []uint32 ---------- -/
section
variable {X : List Nat} {w0 : World} {M0 : List Ent} {I0 : List aY}
theorem aUA {q : Option Addr} {a : List Int} {c : Nat} {g : FuncId} [FnOk Tryz.prog g] {fs cs : Array Value} (pr : Int → Prop) [DecidablePred pr] (hn : (a.length : Int) ≤ 9223372036854775807) (ha : aO q (recs eG a) ∈ I0)
  (hg : ∀ i : Nat, i < a.length → CD Tryz.prog g (fs.toList ++ [Value.int .u32 (gt a i)] ++ cs.toList) X w0 M0 I0 (fun v M I => M0 = M ∧ I0 = I ∧ v = .bool (B (pr (gt a i))))) :
  CD Tryz.prog 252 [.slice q a.length c, .func (.func g) fs cs] X w0 M0 I0 (fun v M I => M0 = M ∧ I0 = I ∧ ∃ r : Int, v = .int .i64 r ∧ ((∃ i : Nat, i < a.length ∧ r = i ∧ pr (gt a i) ∧ ∀ j : Nat, j < i → ¬ pr (gt a j)) ∨ (r = -1 ∧ ∀ j : Nat, j < a.length → ¬ pr (gt a j)))) := by
 refine dY Tryz.func252 rfl Tryz.ntmps252 rfl ?_
 repeat (refine lG ?_)
 refine aT [0, 1, 7] rfl (fun k G M I => ∃ i : Nat, i ≤ a.length ∧ k = a.length - i ∧ (∀ j : Nat, j < i → ¬ pr (gt a j)) ∧ G = [(8, .int .i64 i)] ∧ M = M0 ∧ I = I0) (a.length) _ _ _ aP bV bT (⟨0, by omega, rfl, fun j hj => by omega, rfl, rfl, rfl⟩) ?_
 rintro k G M I ⟨i, hi, rfl, hs, rfl, rfl, rfl⟩
 repeat' (first | refine lG ?_ | refine aM rfl (fun h => ?_) (fun h => ?_) | refine aN rfl rfl (fun h => ?_) (fun h => ?_) | fail)
 ·have hlt : i < a.length := by omega
  (refine aAI rfl rfl (hg i hlt) rfl rfl rfl ?_; rintro _ _ _ ⟨rfl, rfl, rfl⟩; refine ⟨nO, ?_⟩)
  repeat' (first | refine lG ?_ | refine aM rfl (fun h => ?_) (fun h => ?_) | refine aN rfl rfl (fun h => ?_) (fun h => ?_) | fail)
  ·refine aH (by first | exact .inl rfl | exact .inr rfl) rfl rfl _ _ bV bT (⟨rfl, rfl, _, rfl, .inl ⟨i, hlt, rfl, by assumption, hs⟩⟩)
  ·refine aL (a.length - (i + 1)) _ _ _ (by first | omega | (simp only [List.length_append, List.length_cons, List.length_nil]; omega)) aP bV bT (⟨i + 1, by omega, rfl, fun j hj => ?_, rfl, rfl, rfl⟩)
   by_cases e : j = i
   ·subst e; assumption
   ·exact hs j (by omega)
 ·refine aH (by first | exact .inl rfl | exact .inr rfl) rfl rfl _ _ bV bT (⟨rfl, rfl, _, rfl, .inr ⟨rfl, fun j hj => hs j (by omega)⟩⟩)
theorem aSK {q : Option Addr} {a : List Int} {c : Nat} {g : FuncId} [FnOk Tryz.prog g] {fs cs : Array Value} (pr : Int → Prop) [DecidablePred pr] (hn : (a.length : Int) ≤ 9223372036854775807) (ha : aO q (recs eG a) ∈ I0)
  (hg : ∀ i : Nat, i < a.length → CD Tryz.prog g (fs.toList ++ [Value.int .u32 (gt a i)] ++ cs.toList) X w0 M0 I0 (fun v M I => M0 = M ∧ I0 = I ∧ v = .bool (B (pr (gt a i))))) :
  CD Tryz.prog 232 [.slice q a.length c, .func (.func g) fs cs] X w0 M0 I0 (fun v M I => M0 = M ∧ I0 = I ∧ v = .bool (B (∃ x ∈ a, pr x))) := by
 refine dY Tryz.func232 rfl Tryz.ntmps232 rfl ?_
 repeat (refine lG ?_)
 (refine aU rfl (aUA pr hn ha hg) rfl rfl ?_; rintro _ _ _ ⟨rfl, rfl, r, rfl, h⟩; refine ⟨nO, ?_⟩)
 repeat (refine lG ?_)
 refine aH (by first | exact .inl rfl | exact .inr rfl) rfl rfl _ _ bV bT (⟨rfl, rfl, congrArg Value.bool (gY ?_)⟩)
 rcases h with ⟨i, hi, rfl, hp, _⟩ | ⟨rfl, h⟩
 ·exact ⟨fun _ => ⟨gt a i, by rw [fT hi]; exact List.getElem_mem hi, hp⟩, fun _ => by omega⟩
 ·refine ⟨fun h => by omega, ?_⟩
  rintro ⟨x, hx, hp⟩
  obtain ⟨j, hj, rfl⟩ := List.mem_iff_getElem.1 hx
  exact absurd (by rw [fT hj]; exact hp) (h j hj)
end
/- ---------- Clone of []uint32 ---------- -/
section
variable {X : List Nat} {w0 : World} {M0 : List Ent} {I0 : List aY}
theorem xL {q : Option Addr} {a : List Int} {c : Nat} (hn : (a.length : Int) * 4 ≤ 140737488355328) (hok : Ok q ∨ (a.length = 0 ∧ c = 0)) (ha : aO q (recs eG a) ∈ I0) :
  CD Tryz.prog 228 [.slice q a.length c] X w0 M0 I0 (fun v M I => I0 = I ∧ ∃ q' c', v = .slice q' a.length c' ∧ M = .row q' a.length c' (recs eG a) 104 1 :: M0) := by
 refine dY Tryz.func228 rfl Tryz.ntmps228 rfl ?_
 repeat (refine lG ?_)
 refine aF rfl (fun _ => jB rfl) rfl rfl ?_
 cases q with
 | some ad =>
  repeat (refine lG ?_)
  (refine aQ (cs := recs eG []) ([]) rfl rfl (by intro v hv; repeat (first | exact absurd hv (List.not_mem_nil) | (rcases List.mem_cons.1 hv with rfl | hv; · rfl))) (by omega) rfl rfl rfl ?_; intro b1; refine ⟨nO, ?_⟩)
  repeat (refine lG ?_)
  refine jI (mm := 0) 1 mV rfl (by omega) ?_
  refine dI (xs := []) (ys := a) 0 rfl rfl rfl (Src.imm aS hok) (by decide) rfl (by simp; omega) (by simp; omega) rfl rfl ?_
  intro a2 c2
  refine ⟨nO, ?_⟩
  repeat (refine lG ?_)
  refine aH (by first | exact .inl rfl | exact .inr rfl) rfl rfl _ _ bV bT (⟨rfl, a2, c2, by simp, by simp⟩)
 | none =>
  obtain ⟨h0, rfl⟩ : a.length = 0 ∧ c = 0 := hok.resolve_left (fun h => by obtain ⟨b, o, e⟩ := h.cases; cases e)
  have hnil : a = [] := List.eq_nil_of_length_eq_zero h0
  subst hnil
  repeat (refine lG ?_)
  refine aUM 104 1 ?_
  refine aH (by first | exact .inl rfl | exact .inr rfl) rfl rfl _ _ bV bT (⟨rfl, none, 0, rfl, rfl⟩)
end
section
variable {X : List Nat} {w0 : World} {M0 : List Ent} {I0 : List aY}
theorem lU {p : Prop} [Decidable p] {q : Option Addr} {n c k : Nat} (hl : (gr n).length ≤ 100000000000) (hc : pW q n c) (hk : n ≤ 2 ^ k) (hq : aO q (recs eG (gr n)) ∈ I0) :
  CD Tryz.prog 200 [.bool (B p), .slice q (gr n).length c] X w0 M0 I0 (fun v M I => M0 = M ∧ I = iI v (sg p n) k :: I0) := by
 refine dY Tryz.func200 rfl Tryz.ntmps200 rfl ?_
 refine aG ?_
 refine aJ ?_
 (refine aI rfl rfl ?_; intro b; refine ⟨nO, ?_⟩)
 repeat (refine lG ?_)
 (refine aU rfl (qE (l := gr n) rfl (by omega) hc.1 hq) rfl rfl ?_; rintro _ _ _ ⟨rfl, rfl, rfl⟩; refine ⟨nO, ?_⟩)
 rw [aBT (aAW n)]
 by_cases h0 : (gr n).length = 0
 ·have hn : n = 0 := nU.1 (List.eq_nil_of_length_eq_zero h0)
  subst hn
  repeat (refine lG ?_)
  (refine aF rfl (fun _ => bA (pvs := ([]).zipIdx.map (fun p => (p.2, p.1))) (cells := [.bool false, .slice none 0 0]) rfl rfl) rfl rfl ?_)
  repeat (refine lG ?_)
  have hz : sg p 0 = 0 := by unfold sg; split <;> rfl
  rw [hz]
  have hg0 : gr (0 : Int).natAbs = [] := gX
  refine aES none ?_
  refine aDU (q := none) (c := 0) (z := 0) (k := k) (by rw [hg0]; exact aS) ⟨by rw [hg0]; simp, .inr ⟨by rw [hg0]; rfl, rfl⟩⟩ (by simp) ?_
  have hiv : iv none 0 0 = .agg #[.bool false, .slice none 0 0] := by unfold iv; rw [hg0, bB (by omega)]; rfl
  rw [hiv]
  refine bD (cs := [.bool false, .slice none 0 0]) (.inl rfl) rfl rfl aS rfl _ _ bV bT ⟨rfl, rfl⟩
 ·have hn : n ≠ 0 := fun e => h0 (by rw [e, gX]; rfl)
  repeat (refine lG ?_)
  (refine aF rfl (fun _ => bA (pvs := ([.bool (B p), .slice q (gr n).length c]).zipIdx.map (fun p => (p.2, p.1))) (cells := [.bool (B p), .slice q (gr n).length c]) rfl rfl) rfl rfl ?_)
  repeat (refine lG ?_)
  have ha := aQG p n
  refine aDU (q := q) (c := c) (z := sg p n) (k := k) (by rw [ha]; exact aS) (by rw [ha]; exact hc) (by rw [ha]; exact hk) ?_
  have hiv : iv q c (sg p n) = .agg #[.bool (B p), .slice q (gr n).length c] := by unfold iv; rw [ha, gY (sg_lt hn)]
  rw [hiv]
  refine bD (cs := [.bool (B p), .slice q (gr n).length c]) (.inl rfl) rfl rfl aS rfl _ _ bV bT ⟨rfl, rfl⟩
theorem aSW {x : Int} : CD Tryz.prog 233 [.int .u32 x] X w0 M0 I0 (fun v M I => M0 = M ∧ I0 = I ∧ v = .bool (B (1000000000 ≤ x))) := by
 refine dY Tryz.func233 rfl Tryz.ntmps233 rfl ?_
 repeat (refine lG ?_)
 refine aH (by first | exact .inl rfl | exact .inr rfl) rfl rfl _ _ bV bT (⟨rfl, rfl, rfl⟩)
def qK (neg : Bool) (gs : List Int) : Prop := (gs = [] ∧ neg = false) ∨ (gs ≠ [] ∧ Top gs ∧ ¬ ∃ x ∈ gs, 1000000000 ≤ x)
instance (neg : Bool) (gs : List Int) : Decidable (qK neg gs) := by unfold qK; exact inferInstance
theorem zT {gs : List Int} (h : 0 < gs.length) : gs.getLastD 1 = gt gs ((gs.length : Int) - 1) := by
 rcases List.eq_nil_or_concat gs with rfl | ⟨r, x, e⟩
 ·simp at h
 ·rw [List.concat_eq_append] at e
  subst e
  have e1 : (((r ++ [x]).length : Int) - 1) = ((r.length : Nat) : Int) := by simp
  rw [e1, uZ]
  simp
theorem tZ {neg : Bool} {q : Option Addr} {gs : List Int} {c : Nat} (hn : (gs.length : Int) ≤ 9223372036854775807) (hq : aO q (recs eG gs) ∈ I0) :
  CD Tryz.prog 192 [.agg #[.bool neg, .slice q gs.length c]] X w0 M0 I0 (fun v M I => M0 = M ∧ I0 = I ∧ v = .bool (B (qK neg gs))) := by
 refine dY Tryz.func192 rfl Tryz.ntmps192 rfl ?_
 refine aG ?_
 refine aJ ?_
 (refine kP rfl rfl rfl ?_; intro b; refine ⟨nO, ?_⟩)
 by_cases h0 : gs.length = 0
 ·have hg : gs = [] := List.eq_nil_of_length_eq_zero h0
  subst hg
  repeat (refine lG ?_)
  refine aH (by first | exact .inl rfl | exact .inr rfl) rfl rfl _ _ bV bT (⟨rfl, rfl, by rw [show (!neg) = B (qK neg []) by rw [qJ]; cases neg <;> simp [qK]]⟩)
 ·have hgs : gs ≠ [] := fun e => h0 (by rw [e]; rfl)
  have hlast := zT (gs := gs) (by omega)
  repeat' (first | refine lG ?_ | refine aM rfl (fun h => ?_) (fun h => ?_) | refine aN rfl rfl (fun h => ?_) (fun h => ?_) | fail)
  ·(refine aU rfl (aSK (fun x => 1000000000 ≤ x) hn hq (fun i hi => aSW)) rfl rfl ?_; rintro _ _ _ ⟨rfl, rfl, rfl⟩; refine ⟨nO, ?_⟩)
   repeat (refine lG ?_)
   refine aH (by first | exact .inl rfl | exact .inr rfl) rfl rfl _ _ bV bT (⟨rfl, rfl, congrArg Value.bool (gY ?_)⟩)
   unfold qK Top
   rw [hlast]
   exact ⟨fun h => .inr ⟨hgs, by assumption, h⟩, fun h => h.elim (fun h => absurd h.1 hgs) (fun h => h.2.2)⟩
  ·refine aH (by first | exact .inl rfl | exact .inr rfl) rfl rfl _ _ bV bT (⟨rfl, rfl, congrArg Value.bool (bB ?_).symm⟩)
   unfold qK Top
   rw [hlast]
   rintro (h | h)
   ·exact hgs h.1
   ·exact absurd h.2.1 (by assumption)
theorem xH (z : Int) : qK (B (z < 0)) (gr z.natAbs) := by
 by_cases h : z.natAbs = 0
 ·refine .inl ⟨by rw [h, gX], bB (by omega)⟩
 ·refine .inr ⟨fun e => h (nU.1 e), aAW _, ?_⟩
  rintro ⟨x, hx, h1⟩
  have := bY z.natAbs x hx
  omega
theorem jT {q : Option Addr} {c k : Nat} {z : Int} (hz : z.natAbs ≤ 2 ^ k) (hk : k ≤ 1000000000000) (hq : aO q (recs eG (gr z.natAbs)) ∈ I0) :
  CD Tryz.prog 193 [iv q c z] X w0 M0 I0 (fun v M I => M0 = M ∧ I0 = I ∧ v = .slice q (gr z.natAbs).length c) := by
 have hl := gF hz hk
 unfold iv
 refine dY Tryz.func193 rfl Tryz.ntmps193 rfl ?_
 refine aG ?_
 refine aJ ?_
 (refine kP rfl rfl rfl ?_; intro b; refine ⟨nO, ?_⟩)
 repeat (refine lG ?_)
 (refine aU rfl (tZ (neg := B (z < 0)) (gs := gr z.natAbs) (by omega) hq) rfl rfl ?_; rintro _ _ _ ⟨rfl, rfl, rfl⟩; refine ⟨nO, ?_⟩)
 rw [bJ (xH z)]
 repeat (refine lG ?_)
 refine aH (by first | exact .inl rfl | exact .inr rfl) rfl rfl _ _ bV bT (⟨rfl, rfl, rfl⟩)
theorem sP {u : Value} {z : Int} {k : Nat} (hk : k ≤ 1000000000000) (hu : iI u z k ∈ I0) : CD Tryz.prog 144 [u] X w0 M0 I0 (fun v M I => M0 = M ∧ I0 = I ∧ v = .int .i64 z.sign) := by
 refine dE hu (fun q c e hc hz => ?_)
 subst e
 unfold iv
 refine dY Tryz.func144 rfl Tryz.ntmps144 rfl ?_
 refine aG ?_
 refine aJ ?_
 (refine kP rfl rfl rfl ?_; intro b; refine ⟨nO, ?_⟩)
 repeat (refine lG ?_)
 (refine aU rfl (jT (c := c) hz hk aS) rfl rfl ?_; rintro _ _ _ ⟨rfl, rfl, rfl⟩; refine ⟨nO, ?_⟩)
 have hnil : (gr z.natAbs).length = 0 ↔ z = 0 := by
  rw [List.length_eq_zero_iff, nU]; omega
 by_cases h0 : z = 0
 ·have := hnil.2 h0
  repeat (refine lG ?_)
  refine aH (by first | exact .inl rfl | exact .inr rfl) rfl rfl _ _ bV bT (⟨rfl, rfl, by rw [h0]; rfl⟩)
 ·have : ¬ (gr z.natAbs).length = 0 := fun h => h0 (hnil.1 h)
  repeat' (first | refine lG ?_ | refine aM rfl (fun h => ?_) (fun h => ?_) | refine aN rfl rfl (fun h => ?_) (fun h => ?_) | fail)
  ·refine aH (by first | exact .inl rfl | exact .inr rfl) rfl rfl _ _ bV bT (⟨rfl, rfl, by rw [Int.sign_eq_neg_one_of_neg (by assumption)]⟩)
  ·refine aH (by first | exact .inl rfl | exact .inr rfl) rfl rfl _ _ bV bT (⟨rfl, rfl, by rw [Int.sign_eq_one_of_pos (by omega)]⟩)
theorem aHQ {u : Value} {z : Int} {k : Nat} (hk : k ≤ 1000000000000) (hu : iI u z k ∈ I0) : CD Tryz.prog 194 [u] X w0 M0 I0 (fun v M I => M0 = M ∧ I = iI v (-z) k :: I0) := by
 refine dE hu (fun q c e hc hz => ?_)
 subst e
 have hl := gF hz hk
 unfold iv
 refine dY Tryz.func194 rfl Tryz.ntmps194 rfl ?_
 refine aG ?_
 refine aJ ?_
 (refine kP rfl rfl rfl ?_; intro b; refine ⟨nO, ?_⟩)
 (refine aI rfl rfl ?_; intro b2; refine ⟨nO, ?_⟩)
 repeat' (first | refine aJ ?_ | refine jL ?_ | refine iD ?_ | refine fK ?_ | refine fG ?_ | refine iE ?_ | refine gW ?_ | refine fJ ?_ | refine fH ?_ | refine jP ?_ | refine jM ?_ | refine jQ ?_ | refine jN rfl ?_ | refine bH ?_ | (refine gI ?_; first | refine gU rfl rfl rfl ?_ | (refine gM rfl rfl ?_; refine fC rfl rfl rfl nO ?_) | refine gD rfl rfl (by omega) ?_ | refine gP rfl rfl (by omega) ?_ | refine qI rfl rfl (fun h => ?_) (fun h => ?_) | (fail_if_success (refine sU rfl ?_); refine oQ rfl rfl (fun h => ?_) (fun h => ?_))) | (refine bR ?_; refine aF rfl (fun _ => dH rfl) rfl rfl ?_) | refine aF rfl (fun _ => bF rfl) rfl rfl ?_ | (refine gL ?_; first | refine aF rfl (fun _ => bM rfl rfl w_) rfl rfl ?_ | refine aF rfl (fun _ => bK rfl rfl w_) rfl rfl ?_ | refine aF rfl (fun _ => eO rfl rfl w_) rfl rfl ?_ | refine aF rfl (fun _ => eF rfl rfl (by omega) q_) rfl rfl ?_ | refine aF rfl (fun _ => dZ rfl rfl (by omega) rfl) rfl rfl ?_ | refine aF rfl (fun _ => dK rfl rfl) rfl rfl ?_ | refine aF rfl (fun _ => dV rfl rfl) rfl rfl ?_ | refine aF rfl (fun _ => dW rfl rfl) rfl rfl ?_) | (refine bR ?_; first | refine aF rfl (fun _ => dX rfl w_) rfl rfl ?_) | (refine gJ ?_; first | refine aF rfl (fun _ => dC rfl w_) rfl rfl ?_) | (refine gG ?_; first | refine aF rfl (fun _ => bL rfl) rfl rfl ?_ | refine aF rfl (fun _ => dJ rfl rfl) rfl rfl ?_ | refine aF rfl (fun _ => dL rfl rfl) rfl rfl ?_ | refine aF rfl (fun _ => dM rfl rfl rfl) rfl rfl ?_) | (refine gN ?_; first | refine fZ rfl (by decide) rfl rfl ?_ | refine iY rfl (by decide) rfl rfl ?_) | (refine gK ?_; first | refine aF rfl (fun _ => dB rfl) rfl rfl ?_) | (refine gH ?_; first | refine jA rfl rfl iK rfl rfl ?_ | refine iX sG rfl rfl iK aS jD rfl rfl ?_ | refine iV sG rfl rfl iK aS jD rfl rfl ?_ | refine aF rfl (fun _ => bP rfl rfl iK) rfl rfl ?_) | (refine gT ?_; first | refine iW sG rfl aS oK rfl rfl ?_ | refine iU sG rfl aS oK rfl rfl ?_ | refine fU sG rfl aS oK rfl rfl ?_ | refine gQ sG rfl aS oK rfl rfl ?_ | refine kZ sG rfl aS iN fE rfl rfl ?_ | refine kV sG rfl aS iN fE rfl rfl ?_ | refine kT sG rfl aS iN fE rfl rfl ?_ | refine jX sG rfl aS iN fE rfl rfl ?_) | (refine fV ?_; first | refine aF rfl (fun _ => bQ rfl rfl) rfl rfl ?_ | refine aF rfl (fun _ => bI rfl) rfl rfl ?_) | (refine iO ?_; first | refine kI rfl rfl rfl mV stC rfl rfl ⟨nO, ?_⟩ | refine iC rfl rfl fE rE mV qP rfl rfl ⟨nO, ?_⟩) | (refine iF ?_; first | refine cK rfl ?_ | refine bN rfl ?_ | refine jR rfl (by omega) ?_ | refine mD rfl (by omega) ?_ | refine tO rfl (fun h => ?_) (fun h => ?_) | refine oP rfl (fun h => ?_) (fun h => ?_)))
 (repeat refine aG ?_); refine bG 3 [0, 1, 2, 3, 4, 5, 6, 7] [3, 3, 2, 2, 0, 0, 0, 0] mixed (by kernel_rfl) ?_
 repeat (refine lG ?_)
 (refine aU rfl (jT (c := c) hz hk aS) rfl rfl ?_; rintro _ _ _ ⟨rfl, rfl, rfl⟩; refine ⟨nO, ?_⟩)
 repeat (refine lG ?_)
 (refine aU rfl (xL (a := gr z.natAbs) (by omega) hc.2 aS) rfl rfl ?_; rintro _ _ _ ⟨rfl, q', c', rfl, rfl⟩; refine ⟨nO, ?_⟩)
 refine mR (fun w hw => And.intro (hw.rowLe (List.Mem.head _)) ((hw.rowS (List.Mem.head _)).2.imp id And.right)) (fun hc' => ?_)
 refine eU vM ?_
 repeat (refine lG ?_)
 rw [← aQT z]
 (refine aU rfl (lU (p := ¬ z < 0) (k := k) (by omega) hc' hz aS) rfl rfl ?_; rintro _ _ _ ⟨rfl, rfl⟩; refine ⟨nO, ?_⟩; refine aW (List.Mem.head _) (fun q2 c2 e__ hc2 hz2 => ?_); subst e__)
 unfold iv
 repeat (refine lG ?_)
 refine bD (cs := [.bool (B (sg (¬ z < 0) z.natAbs < 0)), .slice q2 (gr (sg (¬ z < 0) z.natAbs).natAbs).length c2]) (.inl rfl) rfl rfl aS rfl _ _ bV bT ⟨rfl, rfl⟩
theorem sJ {u v : Value} {y z : Int} {k m : Nat} (hk : k + m ≤ 1000000000000) (hu : iI u y k ∈ I0) (hv : iI v z m ∈ I0) : CD Tryz.prog 148 [u, v] X w0 M0 I0 (fun v M I => M0 = M ∧ I = iI v (y * z) (k + m) :: I0) := by
 refine dE hu (fun q c e hc hy => ?_)
 subst e
 refine dE (List.Mem.tail _ hv) (fun q' c' e hc' hz => ?_)
 subst e
 have hl := gF hy (by omega)
 have hl' := gF hz (by omega)
 unfold iv
 refine dY Tryz.func148 rfl Tryz.ntmps148 rfl ?_
 refine aG ?_
 refine aJ ?_
 (refine kP rfl rfl rfl ?_; intro b; refine ⟨nO, ?_⟩)
 (refine kP rfl rfl rfl ?_; intro b2; refine ⟨nO, ?_⟩)
 (refine aI rfl rfl ?_; intro b3; refine ⟨nO, ?_⟩)
 repeat' (first | refine aJ ?_ | refine jL ?_ | refine iD ?_ | refine fK ?_ | refine fG ?_ | refine iE ?_ | refine gW ?_ | refine fJ ?_ | refine fH ?_ | refine jP ?_ | refine jM ?_ | refine jQ ?_ | refine jN rfl ?_ | refine bH ?_ | (refine gI ?_; first | refine gU rfl rfl rfl ?_ | (refine gM rfl rfl ?_; refine fC rfl rfl rfl nO ?_) | refine gD rfl rfl (by omega) ?_ | refine gP rfl rfl (by omega) ?_ | refine qI rfl rfl (fun h => ?_) (fun h => ?_) | (fail_if_success (refine sU rfl ?_); refine oQ rfl rfl (fun h => ?_) (fun h => ?_))) | (refine bR ?_; refine aF rfl (fun _ => dH rfl) rfl rfl ?_) | refine aF rfl (fun _ => bF rfl) rfl rfl ?_ | (refine gL ?_; first | refine aF rfl (fun _ => bM rfl rfl w_) rfl rfl ?_ | refine aF rfl (fun _ => bK rfl rfl w_) rfl rfl ?_ | refine aF rfl (fun _ => eO rfl rfl w_) rfl rfl ?_ | refine aF rfl (fun _ => eF rfl rfl (by omega) q_) rfl rfl ?_ | refine aF rfl (fun _ => dZ rfl rfl (by omega) rfl) rfl rfl ?_ | refine aF rfl (fun _ => dK rfl rfl) rfl rfl ?_ | refine aF rfl (fun _ => dV rfl rfl) rfl rfl ?_ | refine aF rfl (fun _ => dW rfl rfl) rfl rfl ?_) | (refine bR ?_; first | refine aF rfl (fun _ => dX rfl w_) rfl rfl ?_) | (refine gJ ?_; first | refine aF rfl (fun _ => dC rfl w_) rfl rfl ?_) | (refine gG ?_; first | refine aF rfl (fun _ => bL rfl) rfl rfl ?_ | refine aF rfl (fun _ => dJ rfl rfl) rfl rfl ?_ | refine aF rfl (fun _ => dL rfl rfl) rfl rfl ?_ | refine aF rfl (fun _ => dM rfl rfl rfl) rfl rfl ?_) | (refine gN ?_; first | refine fZ rfl (by decide) rfl rfl ?_ | refine iY rfl (by decide) rfl rfl ?_) | (refine gK ?_; first | refine aF rfl (fun _ => dB rfl) rfl rfl ?_) | (refine gH ?_; first | refine jA rfl rfl iK rfl rfl ?_ | refine iX sG rfl rfl iK aS jD rfl rfl ?_ | refine iV sG rfl rfl iK aS jD rfl rfl ?_ | refine aF rfl (fun _ => bP rfl rfl iK) rfl rfl ?_) | (refine gT ?_; first | refine iW sG rfl aS oK rfl rfl ?_ | refine iU sG rfl aS oK rfl rfl ?_ | refine fU sG rfl aS oK rfl rfl ?_ | refine gQ sG rfl aS oK rfl rfl ?_ | refine kZ sG rfl aS iN fE rfl rfl ?_ | refine kV sG rfl aS iN fE rfl rfl ?_ | refine kT sG rfl aS iN fE rfl rfl ?_ | refine jX sG rfl aS iN fE rfl rfl ?_) | (refine fV ?_; first | refine aF rfl (fun _ => bQ rfl rfl) rfl rfl ?_ | refine aF rfl (fun _ => bI rfl) rfl rfl ?_) | (refine iO ?_; first | refine kI rfl rfl rfl mV stC rfl rfl ⟨nO, ?_⟩ | refine iC rfl rfl fE rE mV qP rfl rfl ⟨nO, ?_⟩) | (refine iF ?_; first | refine cK rfl ?_ | refine bN rfl ?_ | refine jR rfl (by omega) ?_ | refine mD rfl (by omega) ?_ | refine tO rfl (fun h => ?_) (fun h => ?_) | refine oP rfl (fun h => ?_) (fun h => ?_)))
 (repeat refine aG ?_); refine bG 4 [0, 1, 2, 3, 4, 5, 7, 6, 8, 9, 10, 11] [4, 4, 4, 4, 3, 3, 3, 0, 0, 0, 0, 0] mixed (by kernel_rfl) ?_
 repeat (refine lG ?_)
 (refine aU rfl (jT (c := c) hy (by omega) aS) rfl rfl ?_; rintro _ _ _ ⟨rfl, rfl, rfl⟩; refine ⟨nO, ?_⟩)
 repeat (refine lG ?_)
 (refine aU rfl (jT (c := c') hz (by omega) aS) rfl rfl ?_; rintro _ _ _ ⟨rfl, rfl, rfl⟩; refine ⟨nO, ?_⟩)
 repeat (refine lG ?_)
 (refine aU rfl (aOV (by omega) (by omega) aS aS) rfl rfl ?_; rintro _ _ _ ⟨rfl, q3, c3, rfl, hc3, rfl⟩; refine ⟨nO, ?_⟩)
 have hyz : y.natAbs * z.natAbs ≤ 2 ^ (k + m) := yI hy hz
 have hl3 := gF hyz (by omega)
 have hsg : sg (¬ (y < 0 ↔ z < 0)) (y.natAbs * z.natAbs) = y * z := by
  unfold sg
  rw [Int.natCast_mul]
  by_cases h1 : y < 0 <;> by_cases h2 : z < 0 <;> simp only [h1, h2, not_true_eq_false, not_false_eq_true, iff_true, iff_false, if_true, if_false]
  ·rw [show (y.natAbs : Int) = -y by omega, show (z.natAbs : Int) = -z by omega, Int.neg_mul_neg]
  ·rw [show (y.natAbs : Int) = -y by omega, show (z.natAbs : Int) = z by omega, Int.neg_mul, Int.neg_neg]
  ·rw [show (y.natAbs : Int) = y by omega, show (z.natAbs : Int) = -z by omega, Int.mul_neg, Int.neg_neg]
  ·rw [show (y.natAbs : Int) = y by omega, show (z.natAbs : Int) = z by omega]
 rw [← hsg]
 (refine aU rfl (lU (p := ¬ (y < 0 ↔ z < 0)) (k := k + m) (by omega) hc3 hyz aS) rfl rfl ?_; rintro _ _ _ ⟨rfl, rfl⟩; refine ⟨nO, ?_⟩; refine aW (List.Mem.head _) (fun q2 c2 e__ hc2 hz2 => ?_); subst e__)
 unfold iv
 repeat (refine lG ?_)
 refine bD (cs := [.bool (B (sg (¬ (y < 0 ↔ z < 0)) (y.natAbs * z.natAbs) < 0)), .slice q2 (gr (sg (¬ (y < 0 ↔ z < 0)) (y.natAbs * z.natAbs)).natAbs).length c2]) (.inl rfl) rfl rfl aS rfl _ _ bV bT ⟨rfl, rfl⟩
end
end Go.Proofs.YtjbhdfpjnjedhaaGreat

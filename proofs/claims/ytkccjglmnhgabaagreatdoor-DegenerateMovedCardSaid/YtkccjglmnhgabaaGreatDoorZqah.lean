/- integer: the numbers: made, Valid, groups, Sign, Neg, Mul -/
import Derived.Test.YtkccjglmnhgabaaGreatDoorZqag
set_option linter.unusedSimpArgs false
set_option linter.unusedVariables false
set_option maxRecDepth 100000
set_option maxHeartbeats 4000000
namespace Go.Proofs.YtkccjglmnhgabaaGreatDoor
open Go Go.Fx
def iv (q : Option Addr) (c : Nat) (z : Int) : Value := .agg #[.bool (B (z < 0)), .slice q (gr z.natAbs).length c]
abbrev pX (q : Option Addr) (n c : Nat) : Prop := (gr n).length ≤ c ∧ (Ok q ∨ ((gr n).length = 0 ∧ c = 0))
structure IsI (u : Value) (z : Int) (k : Nat) (X : List Nat) (w : World) : Prop where
 ex : ∃ q c, u = iv q c z ∧ pX q z.natAbs c ∧ z.natAbs ≤ 2 ^ k ∧ Sl X w q (recs eG (gr z.natAbs))
abbrev iK (u : Value) (z : Int) (k : Nat) : bB := IsI u z k
instance (u : Value) (z : Int) (k : Nat) : Fx.Good (IsI u z k) := ⟨fun X Y w w' h he hY => by
 obtain ⟨q, c, h1, h2, h3, h4⟩ := h.ex
 exact ⟨q, c, h1, h2, h3, Sl.carry h4 he hY⟩⟩
def sg (p : Prop) [Decidable p] (n : Nat) : Int := if p then -(n : Int) else n
theorem aPQ (p : Prop) [Decidable p] (n : Nat) : (sg p n).natAbs = n := by unfold sg; split <;> omega
theorem qG (z : Int) : sg (z < 0) z.natAbs = z := by unfold sg; split <;> omega
theorem aQD (z : Int) : sg (¬ z < 0) z.natAbs = -z := by unfold sg; split <;> omega
theorem sg_lt {p : Prop} [Decidable p] {n : Nat} (h : n ≠ 0) : sg p n < 0 ↔ p := by unfold sg; split <;> simp_all <;> omega
section
variable {P : Program} {n : Nat} {Q : Exit → Act → World → Prop} {G : Env} {X : List Nat} {w0 : World} {M M' : List Ent} {I I' : List bB}
theorem dI {f : FuncId} {vs : List Value} {K : Value → List Ent → List bB → Prop} {u : Value} {z : Int} {k : Nat} (hu : iK u z k ∈ I)
  (h : ∀ q c, u = iv q c z → pX q z.natAbs c → z.natAbs ≤ 2 ^ k → CD P f vs X w0 M (aW q (recs eG (gr z.natAbs)) :: I) K) : CD P f vs X w0 M I K :=
 ⟨fun w hw => by
  obtain ⟨q, c, h1, h2, h3, h4⟩ := ((hw.imm _ hu).2).ex
  exact (h q c h1 h2 h3).go w (hw.add (φ := aW q _) ⟨h4⟩)⟩
theorem aDL {w : World} {q : Option Addr} {c : Nat} {z : Int} {k : Nat} (hw : Mem X w0 M I w) (hm : aW q (recs eG (gr z.natAbs)) ∈ I) (hc : pX q z.natAbs c) (hk : z.natAbs ≤ 2 ^ k) : Mem X w0 M (iK (iv q c z) z k :: I) w :=
 hw.add (φ := iK _ z k) ⟨q, c, rfl, hc, hk, hw.sl hm⟩
theorem aCL {ex : Exit} {q : Option Addr} {c : Nat} {z : Int} {k : Nat} (hm : aW q (recs eG (gr z.natAbs)) ∈ I) (hc : pX q z.natAbs c) (hk : z.natAbs ≤ 2 ^ k) (h : ND n Q ex G X w0 M (iK (iv q c z) z k :: I)) : ND n Q ex G X w0 M I := yI (fun _ hw => aDL hw hm hc hk) h
theorem uN {ops l : List Oper} {m : Fx.Mode} {q : Option Addr} {c : Nat} {z : Int} {k : Nat} (hm : aW q (recs eG (gr z.natAbs)) ∈ I) (hc : pX q z.natAbs c) (hk : z.natAbs ≤ 2 ^ k) (h : RD P n ops Q m l G X w0 M (iK (iv q c z) z k :: I)) : RD P n ops Q m l G X w0 M I := rM (fun _ hw => aDL hw hm hc hk) h
theorem aZ {ops l : List Oper} {m : Fx.Mode} {u : Value} {z : Int} {k : Nat} (hu : iK u z k ∈ I)
  (h : ∀ q c, u = iv q c z → pX q z.natAbs c → z.natAbs ≤ 2 ^ k → RD P n ops Q m l G X w0 M (aW q (recs eG (gr z.natAbs)) :: I)) : RD P n ops Q m l G X w0 M I :=
 ⟨fun w hw => by
  obtain ⟨q, c, h1, h2, h3, h4⟩ := ((hw.imm _ hu).2).ex
  exact (h q c h1 h2 h3).go w (hw.add (φ := aW q _) ⟨h4⟩)⟩
theorem IsI.mono {u : Value} {z : Int} {k m : Nat} {X : List Nat} {w : World} (h : IsI u z k X w) (hk : k ≤ m) : IsI u z m X w := by
 obtain ⟨q, c, h1, h2, h3, h4⟩ := h.ex
 exact ⟨q, c, h1, h2, Nat.le_trans h3 (Nat.pow_le_pow_right (by decide) hk), h4⟩
end
theorem gV {n k : Nat} (h : n ≤ 2 ^ k) (hk : k ≤ 1000000000000) : (gr n).length ≤ 40000000000 := by
 have := eU h
 omega
/- ---------- IndexFunc, ContainsFunc of []uint32 ---------- -/
section
variable {X : List Nat} {w0 : World} {M0 : List Ent} {I0 : List bB}
theorem aTF {q : Option Addr} {a : List Int} {c : Nat} {g : FuncId} [FnOk Tryz.prog g] {fs cs : Array Value} (pr : Int → Prop) [DecidablePred pr] (hn : (a.length : Int) ≤ 9223372036854775807) (ha : aW q (recs eG a) ∈ I0)
  (hg : ∀ i : Nat, i < a.length → CD Tryz.prog g (fs.toList ++ [Value.int .u32 (gt a i)] ++ cs.toList) X w0 M0 I0 (fun v M I => M0 = M ∧ I0 = I ∧ v = .bool (B (pr (gt a i))))) :
  CD Tryz.prog 143 [.slice q a.length c, .func (.func g) fs cs] X w0 M0 I0 (fun v M I => M0 = M ∧ I0 = I ∧ ∃ r : Int, v = .int .i64 r ∧ ((∃ i : Nat, i < a.length ∧ r = i ∧ pr (gt a i) ∧ ∀ j : Nat, j < i → ¬ pr (gt a j)) ∨ (r = -1 ∧ ∀ j : Nat, j < a.length → ¬ pr (gt a j)))) := by
 refine eD Tryz.func143 rfl Tryz.ntmps143 rfl ?_
 repeat (refine lD ?_)
 refine aT [0, 1, 7] rfl (fun k G M I => ∃ i : Nat, i ≤ a.length ∧ k = a.length - i ∧ (∀ j : Nat, j < i → ¬ pr (gt a j)) ∧ G = [(8, .int .i64 i)] ∧ M = M0 ∧ I = I0) (a.length) _ _ _ aQ bX bT (⟨0, by omega, rfl, fun j hj => by omega, rfl, rfl, rfl⟩) ?_
 rintro k G M I ⟨i, hi, rfl, hs, rfl, rfl, rfl⟩
 repeat' (first | refine lD ?_ | refine aS rfl (fun h => ?_) (fun h => ?_) | refine aR rfl rfl (fun h => ?_) (fun h => ?_) | fail)
 ·have hlt : i < a.length := by omega
  (refine aAO rfl rfl (hg i hlt) rfl rfl rfl ?_; rintro _ _ _ ⟨rfl, rfl, rfl⟩; refine ⟨nJ, ?_⟩)
  repeat' (first | refine lD ?_ | refine aS rfl (fun h => ?_) (fun h => ?_) | refine aR rfl rfl (fun h => ?_) (fun h => ?_) | fail)
  ·refine aH (by first | exact .inl rfl | exact .inr rfl) rfl rfl _ _ bX bT (⟨rfl, rfl, _, rfl, .inl ⟨i, hlt, rfl, by assumption, hs⟩⟩)
  ·refine aG (a.length - (i + 1)) _ _ _ (by first | omega | (simp only [List.length_append, List.length_cons, List.length_nil]; omega)) aQ bX bT (⟨i + 1, by omega, rfl, fun j hj => ?_, rfl, rfl, rfl⟩)
   by_cases e : j = i
   ·subst e; assumption
   ·exact hs j (by omega)
 ·refine aH (by first | exact .inl rfl | exact .inr rfl) rfl rfl _ _ bX bT (⟨rfl, rfl, _, rfl, .inr ⟨rfl, fun j hj => hs j (by omega)⟩⟩)
theorem aST {q : Option Addr} {a : List Int} {c : Nat} {g : FuncId} [FnOk Tryz.prog g] {fs cs : Array Value} (pr : Int → Prop) [DecidablePred pr] (hn : (a.length : Int) ≤ 9223372036854775807) (ha : aW q (recs eG a) ∈ I0)
  (hg : ∀ i : Nat, i < a.length → CD Tryz.prog g (fs.toList ++ [Value.int .u32 (gt a i)] ++ cs.toList) X w0 M0 I0 (fun v M I => M0 = M ∧ I0 = I ∧ v = .bool (B (pr (gt a i))))) :
  CD Tryz.prog 110 [.slice q a.length c, .func (.func g) fs cs] X w0 M0 I0 (fun v M I => M0 = M ∧ I0 = I ∧ v = .bool (B (∃ x ∈ a, pr x))) := by
 refine eD Tryz.func110 rfl Tryz.ntmps110 rfl ?_
 repeat (refine lD ?_)
 (refine aV rfl (aTF pr hn ha hg) rfl rfl ?_; rintro _ _ _ ⟨rfl, rfl, r, rfl, h⟩; refine ⟨nJ, ?_⟩)
 repeat (refine lD ?_)
 refine aH (by first | exact .inl rfl | exact .inr rfl) rfl rfl _ _ bX bT (⟨rfl, rfl, congrArg Value.bool (gZ ?_)⟩)
 rcases h with ⟨i, hi, rfl, hp, _⟩ | ⟨rfl, h⟩
 ·exact ⟨fun _ => ⟨gt a i, by rw [kL hi]; exact List.getElem_mem hi, hp⟩, fun _ => by omega⟩
 ·refine ⟨fun h => by omega, ?_⟩
  rintro ⟨x, hx, hp⟩
  obtain ⟨j, hj, rfl⟩ := List.mem_iff_getElem.1 hx
  exact absurd (by rw [kL hj]; exact hp) (h j hj)
end
/- ---------- Clone of []uint32 ---------- -/
section
variable {X : List Nat} {w0 : World} {M0 : List Ent} {I0 : List bB}
theorem xK {q : Option Addr} {a : List Int} {c : Nat} (hn : (a.length : Int) * 4 ≤ 140737488355328) (hok : Ok q ∨ (a.length = 0 ∧ c = 0)) (ha : aW q (recs eG a) ∈ I0) :
  CD Tryz.prog 119 [.slice q a.length c] X w0 M0 I0 (fun v M I => I0 = I ∧ ∃ q' c', v = .slice q' a.length c' ∧ M = .row q' a.length c' (recs eG a) 116 1 :: M0) := by
 refine eD Tryz.func119 rfl Tryz.ntmps119 rfl ?_
 repeat (refine lD ?_)
 refine aC rfl (fun _ => yU rfl) rfl rfl ?_
 cases q with
 | some ad =>
  repeat (refine lD ?_)
  (refine aP (cs := recs eG []) ([]) rfl rfl (by intro v hv; repeat (first | exact absurd hv (List.not_mem_nil) | (rcases List.mem_cons.1 hv with rfl | hv; · rfl))) (by omega) rfl rfl rfl ?_; intro b1; refine ⟨nJ, ?_⟩)
  repeat (refine lD ?_)
  refine jS (mm := 0) 1 mO rfl (by omega) ?_
  refine dC (xs := []) (ys := a) 0 rfl rfl rfl (Src.imm aU hok) (by decide) rfl (by simp; omega) (by simp; omega) rfl rfl ?_
  intro a2 c2
  refine ⟨nJ, ?_⟩
  repeat (refine lD ?_)
  refine aH (by first | exact .inl rfl | exact .inr rfl) rfl rfl _ _ bX bT (⟨rfl, a2, c2, by simp, by simp⟩)
 | none =>
  obtain ⟨h0, rfl⟩ : a.length = 0 ∧ c = 0 := hok.resolve_left (fun h => by obtain ⟨b, o, e⟩ := h.cases; cases e)
  have hnil : a = [] := List.eq_nil_of_length_eq_zero h0
  subst hnil
  repeat (refine lD ?_)
  refine aJV 116 1 ?_
  refine aH (by first | exact .inl rfl | exact .inr rfl) rfl rfl _ _ bX bT (⟨rfl, none, 0, rfl, rfl⟩)
end
section
variable {X : List Nat} {w0 : World} {M0 : List Ent} {I0 : List bB}
theorem lW {p : Prop} [Decidable p] {q : Option Addr} {n c k : Nat} (hl : (gr n).length ≤ 100000000000) (hc : pX q n c) (hk : n ≤ 2 ^ k) (hq : aW q (recs eG (gr n)) ∈ I0) :
  CD Tryz.prog 116 [.bool (B p), .slice q (gr n).length c] X w0 M0 I0 (fun v M I => M0 = M ∧ I = iK v (sg p n) k :: I0) := by
 refine eD Tryz.func116 rfl Tryz.ntmps116 rfl ?_
 refine aJ ?_
 refine aL ?_
 (refine aM rfl rfl ?_; intro b; refine ⟨nJ, ?_⟩)
 repeat (refine lD ?_)
 (refine aV rfl (qC (l := gr n) rfl (by omega) hc.1 hq) rfl rfl ?_; rintro _ _ _ ⟨rfl, rfl, rfl⟩; refine ⟨nJ, ?_⟩)
 rw [aAU (aBC n)]
 by_cases h0 : (gr n).length = 0
 ·have hn : n = 0 := nM.1 (List.eq_nil_of_length_eq_zero h0)
  subst hn
  repeat (refine lD ?_)
  (refine aC rfl (fun _ => dE (pvs := ([]).zipIdx.map (fun p => (p.2, p.1))) (cells := [.bool false, .slice none 0 0]) rfl rfl) rfl rfl ?_)
  repeat (refine lD ?_)
  have hz : sg p 0 = 0 := by unfold sg; split <;> rfl
  rw [hz]
  have hg0 : gr (0 : Int).natAbs = [] := iC
  refine aEK none ?_
  refine aCL (q := none) (c := 0) (z := 0) (k := k) (by rw [hg0]; exact aU) ⟨by rw [hg0]; simp, .inr ⟨by rw [hg0]; rfl, rfl⟩⟩ (by simp) ?_
  have hiv : iv none 0 0 = .agg #[.bool false, .slice none 0 0] := by unfold iv; rw [hg0, dF (by omega)]; rfl
  rw [hiv]
  refine bL (cs := [.bool false, .slice none 0 0]) (.inl rfl) rfl rfl aU rfl _ _ bX bT ⟨rfl, rfl⟩
 ·have hn : n ≠ 0 := fun e => h0 (by rw [e, iC]; rfl)
  repeat (refine lD ?_)
  (refine aC rfl (fun _ => dE (pvs := ([.bool (B p), .slice q (gr n).length c]).zipIdx.map (fun p => (p.2, p.1))) (cells := [.bool (B p), .slice q (gr n).length c]) rfl rfl) rfl rfl ?_)
  repeat (refine lD ?_)
  have ha := aPQ p n
  refine aCL (q := q) (c := c) (z := sg p n) (k := k) (by rw [ha]; exact aU) (by rw [ha]; exact hc) (by rw [ha]; exact hk) ?_
  have hiv : iv q c (sg p n) = .agg #[.bool (B p), .slice q (gr n).length c] := by unfold iv; rw [ha, gZ (sg_lt hn)]
  rw [hiv]
  refine bL (cs := [.bool (B p), .slice q (gr n).length c]) (.inl rfl) rfl rfl aU rfl _ _ bX bT ⟨rfl, rfl⟩
theorem aSC {x : Int} : CD Tryz.prog 111 [.int .u32 x] X w0 M0 I0 (fun v M I => M0 = M ∧ I0 = I ∧ v = .bool (B (1000000000 ≤ x))) := by
 refine eD Tryz.func111 rfl Tryz.ntmps111 rfl ?_
 repeat (refine lD ?_)
 refine aH (by first | exact .inl rfl | exact .inr rfl) rfl rfl _ _ bX bT (⟨rfl, rfl, rfl⟩)
def sJ (neg : Bool) (gs : List Int) : Prop := (gs = [] ∧ neg = false) ∨ (gs ≠ [] ∧ Top gs ∧ ¬ ∃ x ∈ gs, 1000000000 ≤ x)
instance (neg : Bool) (gs : List Int) : Decidable (sJ neg gs) := by unfold sJ; exact inferInstance
theorem zF {gs : List Int} (h : 0 < gs.length) : gs.getLastD 1 = gt gs ((gs.length : Int) - 1) := by
 rcases List.eq_nil_or_concat gs with rfl | ⟨r, x, e⟩
 ·simp at h
 ·rw [List.concat_eq_append] at e
  subst e
  have e1 : (((r ++ [x]).length : Int) - 1) = ((r.length : Nat) : Int) := by simp
  rw [e1, uU]
  simp
theorem tZ {neg : Bool} {q : Option Addr} {gs : List Int} {c : Nat} (hn : (gs.length : Int) ≤ 9223372036854775807) (hq : aW q (recs eG gs) ∈ I0) :
  CD Tryz.prog 77 [.agg #[.bool neg, .slice q gs.length c]] X w0 M0 I0 (fun v M I => M0 = M ∧ I0 = I ∧ v = .bool (B (sJ neg gs))) := by
 refine eD Tryz.func77 rfl Tryz.ntmps77 rfl ?_
 refine aJ ?_
 refine aL ?_
 (refine mW rfl rfl rfl ?_; intro b; refine ⟨nJ, ?_⟩)
 by_cases h0 : gs.length = 0
 ·have hg : gs = [] := List.eq_nil_of_length_eq_zero h0
  subst hg
  repeat (refine lD ?_)
  refine aH (by first | exact .inl rfl | exact .inr rfl) rfl rfl _ _ bX bT (⟨rfl, rfl, by rw [show (!neg) = B (sJ neg []) by rw [pK]; cases neg <;> simp [sJ]]⟩)
 ·have hgs : gs ≠ [] := fun e => h0 (by rw [e]; rfl)
  have hlast := zF (gs := gs) (by omega)
  repeat' (first | refine lD ?_ | refine aS rfl (fun h => ?_) (fun h => ?_) | refine aR rfl rfl (fun h => ?_) (fun h => ?_) | fail)
  ·(refine aV rfl (aST (fun x => 1000000000 ≤ x) hn hq (fun i hi => aSC)) rfl rfl ?_; rintro _ _ _ ⟨rfl, rfl, rfl⟩; refine ⟨nJ, ?_⟩)
   repeat (refine lD ?_)
   refine aH (by first | exact .inl rfl | exact .inr rfl) rfl rfl _ _ bX bT (⟨rfl, rfl, congrArg Value.bool (gZ ?_)⟩)
   unfold sJ Top
   rw [hlast]
   exact ⟨fun h => .inr ⟨hgs, by assumption, h⟩, fun h => h.elim (fun h => absurd h.1 hgs) (fun h => h.2.2)⟩
  ·refine aH (by first | exact .inl rfl | exact .inr rfl) rfl rfl _ _ bX bT (⟨rfl, rfl, congrArg Value.bool (dF ?_).symm⟩)
   unfold sJ Top
   rw [hlast]
   rintro (h | h)
   ·exact hgs h.1
   ·exact absurd h.2.1 (by assumption)
theorem xJ (z : Int) : sJ (B (z < 0)) (gr z.natAbs) := by
 by_cases h : z.natAbs = 0
 ·refine .inl ⟨by rw [h, iC], dF (by omega)⟩
 ·refine .inr ⟨fun e => h (nM.1 e), aBC _, ?_⟩
  rintro ⟨x, hx, h1⟩
  have := cO z.natAbs x hx
  omega
theorem jO {q : Option Addr} {c k : Nat} {z : Int} (hz : z.natAbs ≤ 2 ^ k) (hk : k ≤ 1000000000000) (hq : aW q (recs eG (gr z.natAbs)) ∈ I0) :
  CD Tryz.prog 112 [iv q c z] X w0 M0 I0 (fun v M I => M0 = M ∧ I0 = I ∧ v = .slice q (gr z.natAbs).length c) := by
 have hl := gV hz hk
 unfold iv
 refine eD Tryz.func112 rfl Tryz.ntmps112 rfl ?_
 refine aJ ?_
 refine aL ?_
 (refine mW rfl rfl rfl ?_; intro b; refine ⟨nJ, ?_⟩)
 repeat (refine lD ?_)
 (refine aV rfl (tZ (neg := B (z < 0)) (gs := gr z.natAbs) (by omega) hq) rfl rfl ?_; rintro _ _ _ ⟨rfl, rfl, rfl⟩; refine ⟨nJ, ?_⟩)
 rw [dZ (xJ z)]
 repeat (refine lD ?_)
 refine aH (by first | exact .inl rfl | exact .inr rfl) rfl rfl _ _ bX bT (⟨rfl, rfl, rfl⟩)
theorem rY {u : Value} {z : Int} {k : Nat} (hk : k ≤ 1000000000000) (hu : iK u z k ∈ I0) : CD Tryz.prog 78 [u] X w0 M0 I0 (fun v M I => M0 = M ∧ I0 = I ∧ v = .int .i64 z.sign) := by
 refine dI hu (fun q c e hc hz => ?_)
 subst e
 unfold iv
 refine eD Tryz.func78 rfl Tryz.ntmps78 rfl ?_
 refine aJ ?_
 refine aL ?_
 (refine mW rfl rfl rfl ?_; intro b; refine ⟨nJ, ?_⟩)
 repeat (refine lD ?_)
 (refine aV rfl (jO (c := c) hz hk aU) rfl rfl ?_; rintro _ _ _ ⟨rfl, rfl, rfl⟩; refine ⟨nJ, ?_⟩)
 have hnil : (gr z.natAbs).length = 0 ↔ z = 0 := by
  rw [List.length_eq_zero_iff, nM]; omega
 by_cases h0 : z = 0
 ·have := hnil.2 h0
  repeat (refine lD ?_)
  refine aH (by first | exact .inl rfl | exact .inr rfl) rfl rfl _ _ bX bT (⟨rfl, rfl, by rw [h0]; rfl⟩)
 ·have : ¬ (gr z.natAbs).length = 0 := fun h => h0 (hnil.1 h)
  repeat' (first | refine lD ?_ | refine aS rfl (fun h => ?_) (fun h => ?_) | refine aR rfl rfl (fun h => ?_) (fun h => ?_) | fail)
  ·refine aH (by first | exact .inl rfl | exact .inr rfl) rfl rfl _ _ bX bT (⟨rfl, rfl, by rw [Int.sign_eq_neg_one_of_neg (by assumption)]⟩)
  ·refine aH (by first | exact .inl rfl | exact .inr rfl) rfl rfl _ _ bX bT (⟨rfl, rfl, by rw [Int.sign_eq_one_of_pos (by omega)]⟩)
theorem aIU {u : Value} {z : Int} {k : Nat} (hk : k ≤ 1000000000000) (hu : iK u z k ∈ I0) : CD Tryz.prog 109 [u] X w0 M0 I0 (fun v M I => M0 = M ∧ I = iK v (-z) k :: I0) := by
 refine dI hu (fun q c e hc hz => ?_)
 subst e
 have hl := gV hz hk
 unfold iv
 refine eD Tryz.func109 rfl Tryz.ntmps109 rfl ?_
 refine aJ ?_
 refine aL ?_
 (refine mW rfl rfl rfl ?_; intro b; refine ⟨nJ, ?_⟩)
 (refine aM rfl rfl ?_; intro b2; refine ⟨nJ, ?_⟩)
 repeat' (first | refine aL ?_ | refine jD ?_ | refine iA ?_ | refine fH ?_ | refine fC ?_ | refine gY ?_ | refine gU ?_ | refine fF ?_ | refine fG ?_ | refine jE ?_ | refine jL ?_ | refine jF ?_ | refine jJ rfl ?_ | refine bA ?_ | (refine fU ?_; first | refine gJ rfl rfl rfl ?_ | (refine aN rfl rfl ?_; refine aI rfl rfl rfl nJ ?_) | refine gF rfl rfl (by omega) ?_ | refine gL rfl rfl (by omega) ?_ | refine pM rfl rfl (fun h => ?_) (fun h => ?_) | (fail_if_success (refine sK rfl ?_); refine nY rfl rfl (fun h => ?_) (fun h => ?_))) | (refine bS ?_; refine aC rfl (fun _ => dK rfl) rfl rfl ?_) | refine aC rfl (fun _ => bE rfl) rfl rfl ?_ | (refine fZ ?_; first | refine aC rfl (fun _ => bD rfl rfl w_) rfl rfl ?_ | refine aC rfl (fun _ => bJ rfl rfl w_) rfl rfl ?_ | refine aC rfl (fun _ => bW rfl rfl w_) rfl rfl ?_ | refine aC rfl (fun _ => eP rfl rfl (by omega) q_) rfl rfl ?_ | refine aC rfl (fun _ => eO rfl rfl (by omega) rfl) rfl rfl ?_ | refine aC rfl (fun _ => dP rfl rfl) rfl rfl ?_ | refine aC rfl (fun _ => dX rfl rfl) rfl rfl ?_ | refine aC rfl (fun _ => dW rfl rfl) rfl rfl ?_) | (refine bS ?_; first | refine aC rfl (fun _ => dY rfl w_) rfl rfl ?_) | (refine gH ?_; first | refine aC rfl (fun _ => dD rfl w_) rfl rfl ?_) | (refine gI ?_; first | refine aC rfl (fun _ => bK rfl) rfl rfl ?_ | refine aC rfl (fun _ => dM rfl rfl) rfl rfl ?_ | refine aC rfl (fun _ => dL rfl rfl) rfl rfl ?_ | refine aC rfl (fun _ => dJ rfl rfl rfl) rfl rfl ?_) | (refine gK ?_; first | refine gM rfl (by decide) rfl rfl ?_ | refine iT rfl (by decide) rfl rfl ?_) | (refine gG ?_; first | refine aC rfl (fun _ => cB rfl) rfl rfl ?_) | (refine fV ?_; first | refine iV rfl rfl fD rfl rfl ?_ | refine iR rQ rfl rfl fD aU iY rfl rfl ?_ | refine iU rQ rfl rfl fD aU iY rfl rfl ?_ | refine aC rfl (fun _ => bP rfl rfl fD) rfl rfl ?_) | (refine bF ?_; first | refine iP rQ rfl aU oG rfl rfl ?_ | refine iQ rQ rfl aU oG rfl rfl ?_ | refine gX rQ rfl aU oG rfl rfl ?_ | refine fT rQ rfl aU oG rfl rfl ?_ | refine kX rQ rfl aU iN fE rfl rfl ?_ | refine kW rQ rfl aU iN fE rfl rfl ?_ | refine kZ rQ rfl aU iN fE rfl rfl ?_ | refine jU rQ rfl aU iN fE rfl rfl ?_) | (refine gN ?_; first | refine aC rfl (fun _ => bN rfl rfl) rfl rfl ?_ | refine aC rfl (fun _ => bH rfl) rfl rfl ?_) | (refine iJ ?_; first | refine jY rfl rfl rfl mO stC rfl rfl ⟨nJ, ?_⟩ | refine fK rfl rfl fE qI mO qJ rfl rfl ⟨nJ, ?_⟩) | (refine iB ?_; first | refine bY rfl ?_ | refine bM rfl ?_ | refine jK rfl (by omega) ?_ | refine lK rfl (by omega) ?_ | refine sH rfl (fun h => ?_) (fun h => ?_) | refine nZ rfl (fun h => ?_) (fun h => ?_)))
 (repeat refine aJ ?_); refine bZ 3 [0, 1, 2, 3, 4, 5, 6, 7] [3, 3, 2, 2, 0, 0, 0, 0] mixed (by kernel_rfl) ?_
 repeat (refine lD ?_)
 (refine aV rfl (jO (c := c) hz hk aU) rfl rfl ?_; rintro _ _ _ ⟨rfl, rfl, rfl⟩; refine ⟨nJ, ?_⟩)
 repeat (refine lD ?_)
 (refine aV rfl (xK (a := gr z.natAbs) (by omega) hc.2 aU) rfl rfl ?_; rintro _ _ _ ⟨rfl, q', c', rfl, rfl⟩; refine ⟨nJ, ?_⟩)
 refine nH (fun w hw => And.intro (hw.rowLe (List.Mem.head _)) ((hw.rowS (List.Mem.head _)).2.imp id And.right)) (fun hc' => ?_)
 refine gW vH ?_
 repeat (refine lD ?_)
 rw [← aQD z]
 (refine aV rfl (lW (p := ¬ z < 0) (k := k) (by omega) hc' hz aU) rfl rfl ?_; rintro _ _ _ ⟨rfl, rfl⟩; refine ⟨nJ, ?_⟩; refine aZ (List.Mem.head _) (fun q2 c2 e__ hc2 hz2 => ?_); subst e__)
 unfold iv
 repeat (refine lD ?_)
 refine bL (cs := [.bool (B (sg (¬ z < 0) z.natAbs < 0)), .slice q2 (gr (sg (¬ z < 0) z.natAbs).natAbs).length c2]) (.inl rfl) rfl rfl aU rfl _ _ bX bT ⟨rfl, rfl⟩
theorem sO {u v : Value} {y z : Int} {k m : Nat} (hk : k + m ≤ 1000000000000) (hu : iK u y k ∈ I0) (hv : iK v z m ∈ I0) : CD Tryz.prog 83 [u, v] X w0 M0 I0 (fun v M I => M0 = M ∧ I = iK v (y * z) (k + m) :: I0) := by
 refine dI hu (fun q c e hc hy => ?_)
 subst e
 refine dI (List.Mem.tail _ hv) (fun q' c' e hc' hz => ?_)
 subst e
 have hl := gV hy (by omega)
 have hl' := gV hz (by omega)
 unfold iv
 refine eD Tryz.func83 rfl Tryz.ntmps83 rfl ?_
 refine aJ ?_
 refine aL ?_
 (refine mW rfl rfl rfl ?_; intro b; refine ⟨nJ, ?_⟩)
 (refine mW rfl rfl rfl ?_; intro b2; refine ⟨nJ, ?_⟩)
 (refine aM rfl rfl ?_; intro b3; refine ⟨nJ, ?_⟩)
 repeat' (first | refine aL ?_ | refine jD ?_ | refine iA ?_ | refine fH ?_ | refine fC ?_ | refine gY ?_ | refine gU ?_ | refine fF ?_ | refine fG ?_ | refine jE ?_ | refine jL ?_ | refine jF ?_ | refine jJ rfl ?_ | refine bA ?_ | (refine fU ?_; first | refine gJ rfl rfl rfl ?_ | (refine aN rfl rfl ?_; refine aI rfl rfl rfl nJ ?_) | refine gF rfl rfl (by omega) ?_ | refine gL rfl rfl (by omega) ?_ | refine pM rfl rfl (fun h => ?_) (fun h => ?_) | (fail_if_success (refine sK rfl ?_); refine nY rfl rfl (fun h => ?_) (fun h => ?_))) | (refine bS ?_; refine aC rfl (fun _ => dK rfl) rfl rfl ?_) | refine aC rfl (fun _ => bE rfl) rfl rfl ?_ | (refine fZ ?_; first | refine aC rfl (fun _ => bD rfl rfl w_) rfl rfl ?_ | refine aC rfl (fun _ => bJ rfl rfl w_) rfl rfl ?_ | refine aC rfl (fun _ => bW rfl rfl w_) rfl rfl ?_ | refine aC rfl (fun _ => eP rfl rfl (by omega) q_) rfl rfl ?_ | refine aC rfl (fun _ => eO rfl rfl (by omega) rfl) rfl rfl ?_ | refine aC rfl (fun _ => dP rfl rfl) rfl rfl ?_ | refine aC rfl (fun _ => dX rfl rfl) rfl rfl ?_ | refine aC rfl (fun _ => dW rfl rfl) rfl rfl ?_) | (refine bS ?_; first | refine aC rfl (fun _ => dY rfl w_) rfl rfl ?_) | (refine gH ?_; first | refine aC rfl (fun _ => dD rfl w_) rfl rfl ?_) | (refine gI ?_; first | refine aC rfl (fun _ => bK rfl) rfl rfl ?_ | refine aC rfl (fun _ => dM rfl rfl) rfl rfl ?_ | refine aC rfl (fun _ => dL rfl rfl) rfl rfl ?_ | refine aC rfl (fun _ => dJ rfl rfl rfl) rfl rfl ?_) | (refine gK ?_; first | refine gM rfl (by decide) rfl rfl ?_ | refine iT rfl (by decide) rfl rfl ?_) | (refine gG ?_; first | refine aC rfl (fun _ => cB rfl) rfl rfl ?_) | (refine fV ?_; first | refine iV rfl rfl fD rfl rfl ?_ | refine iR rQ rfl rfl fD aU iY rfl rfl ?_ | refine iU rQ rfl rfl fD aU iY rfl rfl ?_ | refine aC rfl (fun _ => bP rfl rfl fD) rfl rfl ?_) | (refine bF ?_; first | refine iP rQ rfl aU oG rfl rfl ?_ | refine iQ rQ rfl aU oG rfl rfl ?_ | refine gX rQ rfl aU oG rfl rfl ?_ | refine fT rQ rfl aU oG rfl rfl ?_ | refine kX rQ rfl aU iN fE rfl rfl ?_ | refine kW rQ rfl aU iN fE rfl rfl ?_ | refine kZ rQ rfl aU iN fE rfl rfl ?_ | refine jU rQ rfl aU iN fE rfl rfl ?_) | (refine gN ?_; first | refine aC rfl (fun _ => bN rfl rfl) rfl rfl ?_ | refine aC rfl (fun _ => bH rfl) rfl rfl ?_) | (refine iJ ?_; first | refine jY rfl rfl rfl mO stC rfl rfl ⟨nJ, ?_⟩ | refine fK rfl rfl fE qI mO qJ rfl rfl ⟨nJ, ?_⟩) | (refine iB ?_; first | refine bY rfl ?_ | refine bM rfl ?_ | refine jK rfl (by omega) ?_ | refine lK rfl (by omega) ?_ | refine sH rfl (fun h => ?_) (fun h => ?_) | refine nZ rfl (fun h => ?_) (fun h => ?_)))
 (repeat refine aJ ?_); refine bZ 4 [0, 1, 2, 3, 4, 5, 7, 6, 8, 9, 10, 11] [4, 4, 4, 4, 3, 3, 3, 0, 0, 0, 0, 0] mixed (by kernel_rfl) ?_
 repeat (refine lD ?_)
 (refine aV rfl (jO (c := c) hy (by omega) aU) rfl rfl ?_; rintro _ _ _ ⟨rfl, rfl, rfl⟩; refine ⟨nJ, ?_⟩)
 repeat (refine lD ?_)
 (refine aV rfl (jO (c := c') hz (by omega) aU) rfl rfl ?_; rintro _ _ _ ⟨rfl, rfl, rfl⟩; refine ⟨nJ, ?_⟩)
 repeat (refine lD ?_)
 (refine aV rfl (aQT (by omega) (by omega) aU aU) rfl rfl ?_; rintro _ _ _ ⟨rfl, q3, c3, rfl, hc3, rfl⟩; refine ⟨nJ, ?_⟩)
 have hyz : y.natAbs * z.natAbs ≤ 2 ^ (k + m) := yR hy hz
 have hl3 := gV hyz (by omega)
 have hsg : sg (¬ (y < 0 ↔ z < 0)) (y.natAbs * z.natAbs) = y * z := by
  unfold sg
  rw [Int.natCast_mul]
  by_cases h1 : y < 0 <;> by_cases h2 : z < 0 <;> simp only [h1, h2, not_true_eq_false, not_false_eq_true, iff_true, iff_false, if_true, if_false]
  ·rw [show (y.natAbs : Int) = -y by omega, show (z.natAbs : Int) = -z by omega, Int.neg_mul_neg]
  ·rw [show (y.natAbs : Int) = -y by omega, show (z.natAbs : Int) = z by omega, Int.neg_mul, Int.neg_neg]
  ·rw [show (y.natAbs : Int) = y by omega, show (z.natAbs : Int) = -z by omega, Int.mul_neg, Int.neg_neg]
  ·rw [show (y.natAbs : Int) = y by omega, show (z.natAbs : Int) = z by omega]
 rw [← hsg]
 (refine aV rfl (lW (p := ¬ (y < 0 ↔ z < 0)) (k := k + m) (by omega) hc3 hyz aU) rfl rfl ?_; rintro _ _ _ ⟨rfl, rfl⟩; refine ⟨nJ, ?_⟩; refine aZ (List.Mem.head _) (fun q2 c2 e__ hc2 hz2 => ?_); subst e__)
 unfold iv
 repeat (refine lD ?_)
 refine bL (cs := [.bool (B (sg (¬ (y < 0 ↔ z < 0)) (y.natAbs * z.natAbs) < 0)), .slice q2 (gr (sg (¬ (y < 0 ↔ z < 0)) (y.natAbs * z.natAbs)).natAbs).length c2]) (.inl rfl) rfl rfl aU rfl _ _ bX bT ⟨rfl, rfl⟩
end
end Go.Proofs.YtkccjglmnhgabaaGreatDoor

/- integer: the numbers: made, Valid, groups, Sign, Neg, Mul -/
import Derived.Test.YtjbhdfpjnjedhaaGreatZmag
set_option linter.unusedSimpArgs false
set_option linter.unusedVariables false
set_option maxRecDepth 100000
set_option maxHeartbeats 4000000
namespace Go.Proofs.YtjbhdfpjnjedhaaGreat
open Go Go.Fx
def iv (q : Option Addr) (c : Nat) (z : Int) : Value := .agg #[.bool (B (z < 0)), .slice q (gr z.natAbs).length c]
abbrev oV (q : Option Addr) (n c : Nat) : Prop := (gr n).length ≤ c ∧ (Ok q ∨ ((gr n).length = 0 ∧ c = 0))
structure IsI (u : Value) (z : Int) (k : Nat) (X : List Nat) (w : World) : Prop where
 ex : ∃ q c, u = iv q c z ∧ oV q z.natAbs c ∧ z.natAbs ≤ 2 ^ k ∧ Sl X w q (recs eG (gr z.natAbs))
abbrev iA (u : Value) (z : Int) (k : Nat) : aX := IsI u z k
instance (u : Value) (z : Int) (k : Nat) : Fx.Good (IsI u z k) := ⟨fun X Y w w' h he hY => by
 obtain ⟨q, c, h1, h2, h3, h4⟩ := h.ex
 exact ⟨q, c, h1, h2, h3, Sl.carry h4 he hY⟩⟩
def sg (p : Prop) [Decidable p] (n : Nat) : Int := if p then -(n : Int) else n
theorem aNT (p : Prop) [Decidable p] (n : Nat) : (sg p n).natAbs = n := by unfold sg; split <;> omega
theorem pI (z : Int) : sg (z < 0) z.natAbs = z := by unfold sg; split <;> omega
theorem aON (z : Int) : sg (¬ z < 0) z.natAbs = -z := by unfold sg; split <;> omega
theorem sg_lt {p : Prop} [Decidable p] {n : Nat} (h : n ≠ 0) : sg p n < 0 ↔ p := by unfold sg; split <;> simp_all <;> omega
section
variable {P : Program} {n : Nat} {Q : Exit → Act → World → Prop} {G : Env} {X : List Nat} {w0 : World} {M M' : List Ent} {I I' : List aX}
theorem dE {f : FuncId} {vs : List Value} {K : Value → List Ent → List aX → Prop} {u : Value} {z : Int} {k : Nat} (hu : iA u z k ∈ I)
  (h : ∀ q c, u = iv q c z → oV q z.natAbs c → z.natAbs ≤ 2 ^ k → CD P f vs X w0 M (aQ q (recs eG (gr z.natAbs)) :: I) K) : CD P f vs X w0 M I K :=
 ⟨fun w hw => by
  obtain ⟨q, c, h1, h2, h3, h4⟩ := ((hw.imm _ hu).2).ex
  exact (h q c h1 h2 h3).go w (hw.add (φ := aQ q _) ⟨h4⟩)⟩
theorem aCH {w : World} {q : Option Addr} {c : Nat} {z : Int} {k : Nat} (hw : Mem X w0 M I w) (hm : aQ q (recs eG (gr z.natAbs)) ∈ I) (hc : oV q z.natAbs c) (hk : z.natAbs ≤ 2 ^ k) : Mem X w0 M (iA (iv q c z) z k :: I) w :=
 hw.add (φ := iA _ z k) ⟨q, c, rfl, hc, hk, hw.sl hm⟩
theorem aBM {ex : Exit} {q : Option Addr} {c : Nat} {z : Int} {k : Nat} (hm : aQ q (recs eG (gr z.natAbs)) ∈ I) (hc : oV q z.natAbs c) (hk : z.natAbs ≤ 2 ^ k) (h : ND n Q ex G X w0 M (iA (iv q c z) z k :: I)) : ND n Q ex G X w0 M I := xN (fun _ hw => aCH hw hm hc hk) h
theorem sN {ops l : List Oper} {m : Fx.Mode} {q : Option Addr} {c : Nat} {z : Int} {k : Nat} (hm : aQ q (recs eG (gr z.natAbs)) ∈ I) (hc : oV q z.natAbs c) (hk : z.natAbs ≤ 2 ^ k) (h : RD P n ops Q m l G X w0 M (iA (iv q c z) z k :: I)) : RD P n ops Q m l G X w0 M I := uC (fun _ hw => aCH hw hm hc hk) h
theorem aV {ops l : List Oper} {m : Fx.Mode} {u : Value} {z : Int} {k : Nat} (hu : iA u z k ∈ I)
  (h : ∀ q c, u = iv q c z → oV q z.natAbs c → z.natAbs ≤ 2 ^ k → RD P n ops Q m l G X w0 M (aQ q (recs eG (gr z.natAbs)) :: I)) : RD P n ops Q m l G X w0 M I :=
 ⟨fun w hw => by
  obtain ⟨q, c, h1, h2, h3, h4⟩ := ((hw.imm _ hu).2).ex
  exact (h q c h1 h2 h3).go w (hw.add (φ := aQ q _) ⟨h4⟩)⟩
theorem IsI.mono {u : Value} {z : Int} {k m : Nat} {X : List Nat} {w : World} (h : IsI u z k X w) (hk : k ≤ m) : IsI u z m X w := by
 obtain ⟨q, c, h1, h2, h3, h4⟩ := h.ex
 exact ⟨q, c, h1, h2, Nat.le_trans h3 (Nat.pow_le_pow_right (by decide) hk), h4⟩
end
theorem fM {n k : Nat} (h : n ≤ 2 ^ k) (hk : k ≤ 1000000000000) : (gr n).length ≤ 40000000000 := by
 have := dY h
 omega
/- ---------- IndexFunc, ContainsFunc of []uint32 ---------- -/
section
variable {X : List Nat} {w0 : World} {M0 : List Ent} {I0 : List aX}
theorem aRP {q : Option Addr} {a : List Int} {c : Nat} {g : FuncId} [FnOk Tryz.prog g] {fs cs : Array Value} (pr : Int → Prop) [DecidablePred pr] (hn : (a.length : Int) ≤ 9223372036854775807) (ha : aQ q (recs eG a) ∈ I0)
  (hg : ∀ i : Nat, i < a.length → CD Tryz.prog g (fs.toList ++ [Value.int .u32 (gt a i)] ++ cs.toList) X w0 M0 I0 (fun v M I => M0 = M ∧ I0 = I ∧ v = .bool (B (pr (gt a i))))) :
  CD Tryz.prog 252 [.slice q a.length c, .func (.func g) fs cs] X w0 M0 I0 (fun v M I => M0 = M ∧ I0 = I ∧ ∃ r : Int, v = .int .i64 r ∧ ((∃ i : Nat, i < a.length ∧ r = i ∧ pr (gt a i) ∧ ∀ j : Nat, j < i → ¬ pr (gt a j)) ∨ (r = -1 ∧ ∀ j : Nat, j < a.length → ¬ pr (gt a j)))) := by
 refine dS Tryz.func252 rfl Tryz.ntmps252 rfl ?_
 repeat (refine kL ?_)
 refine aW [0, 1, 7] rfl (fun k G M I => ∃ i : Nat, i ≤ a.length ∧ k = a.length - i ∧ (∀ j : Nat, j < i → ¬ pr (gt a j)) ∧ G = [(8, .int .i64 i)] ∧ M = M0 ∧ I = I0) (a.length) _ _ _ aS bW bT (⟨0, by omega, rfl, fun j hj => by omega, rfl, rfl, rfl⟩) ?_
 rintro k G M I ⟨i, hi, rfl, hs, rfl, rfl, rfl⟩
 repeat' (first | refine kL ?_ | refine aM rfl (fun h => ?_) (fun h => ?_) | refine aN rfl rfl (fun h => ?_) (fun h => ?_) | fail)
 ·have hlt : i < a.length := by omega
  (refine aFC rfl rfl (hg i hlt) rfl rfl rfl ?_; rintro _ _ _ ⟨rfl, rfl, rfl⟩; refine ⟨mX, ?_⟩)
  repeat' (first | refine kL ?_ | refine aM rfl (fun h => ?_) (fun h => ?_) | refine aN rfl rfl (fun h => ?_) (fun h => ?_) | fail)
  ·refine aJ (by first | exact .inl rfl | exact .inr rfl) rfl rfl _ _ bW bT (⟨rfl, rfl, _, rfl, .inl ⟨i, hlt, rfl, by assumption, hs⟩⟩)
  ·refine aK (a.length - (i + 1)) _ _ _ (by first | omega | (simp only [List.length_append, List.length_cons, List.length_nil]; omega)) aS bW bT (⟨i + 1, by omega, rfl, fun j hj => ?_, rfl, rfl, rfl⟩)
   by_cases e : j = i
   ·subst e; assumption
   ·exact hs j (by omega)
 ·refine aJ (by first | exact .inl rfl | exact .inr rfl) rfl rfl _ _ bW bT (⟨rfl, rfl, _, rfl, .inr ⟨rfl, fun j hj => hs j (by omega)⟩⟩)
theorem aQB {q : Option Addr} {a : List Int} {c : Nat} {g : FuncId} [FnOk Tryz.prog g] {fs cs : Array Value} (pr : Int → Prop) [DecidablePred pr] (hn : (a.length : Int) ≤ 9223372036854775807) (ha : aQ q (recs eG a) ∈ I0)
  (hg : ∀ i : Nat, i < a.length → CD Tryz.prog g (fs.toList ++ [Value.int .u32 (gt a i)] ++ cs.toList) X w0 M0 I0 (fun v M I => M0 = M ∧ I0 = I ∧ v = .bool (B (pr (gt a i))))) :
  CD Tryz.prog 232 [.slice q a.length c, .func (.func g) fs cs] X w0 M0 I0 (fun v M I => M0 = M ∧ I0 = I ∧ v = .bool (B (∃ x ∈ a, pr x))) := by
 refine dS Tryz.func232 rfl Tryz.ntmps232 rfl ?_
 repeat (refine kL ?_)
 (refine aP rfl (aRP pr hn ha hg) rfl rfl ?_; rintro _ _ _ ⟨rfl, rfl, r, rfl, h⟩; refine ⟨mX, ?_⟩)
 repeat (refine kL ?_)
 refine aJ (by first | exact .inl rfl | exact .inr rfl) rfl rfl _ _ bW bT (⟨rfl, rfl, congrArg Value.bool (jA ?_)⟩)
 rcases h with ⟨i, hi, rfl, hp, _⟩ | ⟨rfl, h⟩
 ·exact ⟨fun _ => ⟨gt a i, by rw [gQ hi]; exact List.getElem_mem hi, hp⟩, fun _ => by omega⟩
 ·refine ⟨fun h => by omega, ?_⟩
  rintro ⟨x, hx, hp⟩
  obtain ⟨j, hj, rfl⟩ := List.mem_iff_getElem.1 hx
  exact absurd (by rw [gQ hj]; exact hp) (h j hj)
end
/- ---------- Clone of []uint32 ---------- -/
section
variable {X : List Nat} {w0 : World} {M0 : List Ent} {I0 : List aX}
theorem wL {q : Option Addr} {a : List Int} {c : Nat} (hn : (a.length : Int) * 4 ≤ 140737488355328) (hok : Ok q ∨ (a.length = 0 ∧ c = 0)) (ha : aQ q (recs eG a) ∈ I0) :
  CD Tryz.prog 228 [.slice q a.length c] X w0 M0 I0 (fun v M I => I0 = I ∧ ∃ q' c', v = .slice q' a.length c' ∧ M = .row q' a.length c' (recs eG a) 104 1 :: M0) := by
 refine dS Tryz.func228 rfl Tryz.ntmps228 rfl ?_
 repeat (refine kL ?_)
 refine aC rfl (fun _ => iR rfl) rfl rfl ?_
 cases q with
 | some ad =>
  repeat (refine kL ?_)
  (refine bL (cs := recs eG []) ([]) rfl rfl (by intro v hv; repeat (first | exact absurd hv (List.not_mem_nil) | (rcases List.mem_cons.1 hv with rfl | hv; · rfl))) (by omega) rfl rfl rfl ?_; intro b1; refine ⟨mX, ?_⟩)
  repeat (refine kL ?_)
  refine nV (mm := 0) 1 mD rfl (by omega) ?_
  refine eF (xs := []) (ys := a) 0 rfl rfl rfl (Src.imm aO hok) (by decide) rfl (by simp; omega) (by simp; omega) rfl rfl ?_
  intro a2 c2
  refine ⟨mX, ?_⟩
  repeat (refine kL ?_)
  refine aJ (by first | exact .inl rfl | exact .inr rfl) rfl rfl _ _ bW bT (⟨rfl, a2, c2, by simp, by simp⟩)
 | none =>
  obtain ⟨h0, rfl⟩ : a.length = 0 ∧ c = 0 := hok.resolve_left (fun h => by obtain ⟨b, o, e⟩ := h.cases; cases e)
  have hnil : a = [] := List.eq_nil_of_length_eq_zero h0
  subst hnil
  repeat (refine kL ?_)
  refine aQC 104 1 ?_
  refine aJ (by first | exact .inl rfl | exact .inr rfl) rfl rfl _ _ bW bT (⟨rfl, none, 0, rfl, rfl⟩)
end
section
variable {X : List Nat} {w0 : World} {M0 : List Ent} {I0 : List aX}
theorem lF {p : Prop} [Decidable p] {q : Option Addr} {n c k : Nat} (hl : (gr n).length ≤ 100000000000) (hc : oV q n c) (hk : n ≤ 2 ^ k) (hq : aQ q (recs eG (gr n)) ∈ I0) :
  CD Tryz.prog 200 [.bool (B p), .slice q (gr n).length c] X w0 M0 I0 (fun v M I => M0 = M ∧ I = iA v (sg p n) k :: I0) := by
 refine dS Tryz.func200 rfl Tryz.ntmps200 rfl ?_
 refine aG ?_
 refine aH ?_
 (refine aI rfl rfl ?_; intro b; refine ⟨mX, ?_⟩)
 repeat (refine kL ?_)
 (refine aP rfl (pE (l := gr n) rfl (by omega) hc.1 hq) rfl rfl ?_; rintro _ _ _ ⟨rfl, rfl, rfl⟩; refine ⟨mX, ?_⟩)
 rw [zO (aAB n)]
 by_cases h0 : (gr n).length = 0
 ·have hn : n = 0 := nJ.1 (List.eq_nil_of_length_eq_zero h0)
  subst hn
  repeat (refine kL ?_)
  (refine aC rfl (fun _ => aU (pvs := ([]).zipIdx.map (fun p => (p.2, p.1))) (cells := [.bool false, .slice none 0 0]) rfl rfl) rfl rfl ?_)
  repeat (refine kL ?_)
  have hz : sg p 0 = 0 := by unfold sg; split <;> rfl
  rw [hz]
  have hg0 : gr (0 : Int).natAbs = [] := gN
  refine aDO none ?_
  refine aBM (q := none) (c := 0) (z := 0) (k := k) (by rw [hg0]; exact aO) ⟨by rw [hg0]; simp, .inr ⟨by rw [hg0]; rfl, rfl⟩⟩ (by simp) ?_
  have hiv : iv none 0 0 = .agg #[.bool false, .slice none 0 0] := by unfold iv; rw [hg0, bE (by omega)]; rfl
  rw [hiv]
  refine bC (cs := [.bool false, .slice none 0 0]) (.inl rfl) rfl rfl aO rfl _ _ bW bT ⟨rfl, rfl⟩
 ·have hn : n ≠ 0 := fun e => h0 (by rw [e, gN]; rfl)
  repeat (refine kL ?_)
  (refine aC rfl (fun _ => aU (pvs := ([.bool (B p), .slice q (gr n).length c]).zipIdx.map (fun p => (p.2, p.1))) (cells := [.bool (B p), .slice q (gr n).length c]) rfl rfl) rfl rfl ?_)
  repeat (refine kL ?_)
  have ha := aNT p n
  refine aBM (q := q) (c := c) (z := sg p n) (k := k) (by rw [ha]; exact aO) (by rw [ha]; exact hc) (by rw [ha]; exact hk) ?_
  have hiv : iv q c (sg p n) = .agg #[.bool (B p), .slice q (gr n).length c] := by unfold iv; rw [ha, jA (sg_lt hn)]
  rw [hiv]
  refine bC (cs := [.bool (B p), .slice q (gr n).length c]) (.inl rfl) rfl rfl aO rfl _ _ bW bT ⟨rfl, rfl⟩
theorem aRU {x : Int} : CD Tryz.prog 233 [.int .u32 x] X w0 M0 I0 (fun v M I => M0 = M ∧ I0 = I ∧ v = .bool (B (1000000000 ≤ x))) := by
 refine dS Tryz.func233 rfl Tryz.ntmps233 rfl ?_
 repeat (refine kL ?_)
 refine aJ (by first | exact .inl rfl | exact .inr rfl) rfl rfl _ _ bW bT (⟨rfl, rfl, rfl⟩)
def pK (neg : Bool) (gs : List Int) : Prop := (gs = [] ∧ neg = false) ∨ (gs ≠ [] ∧ Top gs ∧ ¬ ∃ x ∈ gs, 1000000000 ≤ x)
instance (neg : Bool) (gs : List Int) : Decidable (pK neg gs) := by unfold pK; exact inferInstance
theorem xW {gs : List Int} (h : 0 < gs.length) : gs.getLastD 1 = gt gs ((gs.length : Int) - 1) := by
 rcases List.eq_nil_or_concat gs with rfl | ⟨r, x, e⟩
 ·simp at h
 ·rw [List.concat_eq_append] at e
  subst e
  have e1 : (((r ++ [x]).length : Int) - 1) = ((r.length : Nat) : Int) := by simp
  rw [e1, tY]
  simp
theorem sI {neg : Bool} {q : Option Addr} {gs : List Int} {c : Nat} (hn : (gs.length : Int) ≤ 9223372036854775807) (hq : aQ q (recs eG gs) ∈ I0) :
  CD Tryz.prog 192 [.agg #[.bool neg, .slice q gs.length c]] X w0 M0 I0 (fun v M I => M0 = M ∧ I0 = I ∧ v = .bool (B (pK neg gs))) := by
 refine dS Tryz.func192 rfl Tryz.ntmps192 rfl ?_
 refine aG ?_
 refine aH ?_
 (refine jW rfl rfl rfl ?_; intro b; refine ⟨mX, ?_⟩)
 by_cases h0 : gs.length = 0
 ·have hg : gs = [] := List.eq_nil_of_length_eq_zero h0
  subst hg
  repeat (refine kL ?_)
  refine aJ (by first | exact .inl rfl | exact .inr rfl) rfl rfl _ _ bW bT (⟨rfl, rfl, by rw [show (!neg) = B (pK neg []) by rw [pO]; cases neg <;> simp [pK]]⟩)
 ·have hgs : gs ≠ [] := fun e => h0 (by rw [e]; rfl)
  have hlast := xW (gs := gs) (by omega)
  repeat' (first | refine kL ?_ | refine aM rfl (fun h => ?_) (fun h => ?_) | refine aN rfl rfl (fun h => ?_) (fun h => ?_) | fail)
  ·(refine aP rfl (aQB (fun x => 1000000000 ≤ x) hn hq (fun i hi => aRU)) rfl rfl ?_; rintro _ _ _ ⟨rfl, rfl, rfl⟩; refine ⟨mX, ?_⟩)
   repeat (refine kL ?_)
   refine aJ (by first | exact .inl rfl | exact .inr rfl) rfl rfl _ _ bW bT (⟨rfl, rfl, congrArg Value.bool (jA ?_)⟩)
   unfold pK Top
   rw [hlast]
   exact ⟨fun h => .inr ⟨hgs, by assumption, h⟩, fun h => h.elim (fun h => absurd h.1 hgs) (fun h => h.2.2)⟩
  ·refine aJ (by first | exact .inl rfl | exact .inr rfl) rfl rfl _ _ bW bT (⟨rfl, rfl, congrArg Value.bool (bE ?_).symm⟩)
   unfold pK Top
   rw [hlast]
   rintro (h | h)
   ·exact hgs h.1
   ·exact absurd h.2.1 (by assumption)
theorem wK (z : Int) : pK (B (z < 0)) (gr z.natAbs) := by
 by_cases h : z.natAbs = 0
 ·refine .inl ⟨by rw [h, gN], bE (by omega)⟩
 ·refine .inr ⟨fun e => h (nJ.1 e), aAB _, ?_⟩
  rintro ⟨x, hx, h1⟩
  have := bQ z.natAbs x hx
  omega
theorem jJ {q : Option Addr} {c k : Nat} {z : Int} (hz : z.natAbs ≤ 2 ^ k) (hk : k ≤ 1000000000000) (hq : aQ q (recs eG (gr z.natAbs)) ∈ I0) :
  CD Tryz.prog 193 [iv q c z] X w0 M0 I0 (fun v M I => M0 = M ∧ I0 = I ∧ v = .slice q (gr z.natAbs).length c) := by
 have hl := fM hz hk
 unfold iv
 refine dS Tryz.func193 rfl Tryz.ntmps193 rfl ?_
 refine aG ?_
 refine aH ?_
 (refine jW rfl rfl rfl ?_; intro b; refine ⟨mX, ?_⟩)
 repeat (refine kL ?_)
 (refine aP rfl (sI (neg := B (z < 0)) (gs := gr z.natAbs) (by omega) hq) rfl rfl ?_; rintro _ _ _ ⟨rfl, rfl, rfl⟩; refine ⟨mX, ?_⟩)
 rw [cB (wK z)]
 repeat (refine kL ?_)
 refine aJ (by first | exact .inl rfl | exact .inr rfl) rfl rfl _ _ bW bT (⟨rfl, rfl, rfl⟩)
theorem rJ {u : Value} {z : Int} {k : Nat} (hk : k ≤ 1000000000000) (hu : iA u z k ∈ I0) : CD Tryz.prog 144 [u] X w0 M0 I0 (fun v M I => M0 = M ∧ I0 = I ∧ v = .int .i64 z.sign) := by
 refine dE hu (fun q c e hc hz => ?_)
 subst e
 unfold iv
 refine dS Tryz.func144 rfl Tryz.ntmps144 rfl ?_
 refine aG ?_
 refine aH ?_
 (refine jW rfl rfl rfl ?_; intro b; refine ⟨mX, ?_⟩)
 repeat (refine kL ?_)
 (refine aP rfl (jJ (c := c) hz hk aO) rfl rfl ?_; rintro _ _ _ ⟨rfl, rfl, rfl⟩; refine ⟨mX, ?_⟩)
 have hnil : (gr z.natAbs).length = 0 ↔ z = 0 := by
  rw [List.length_eq_zero_iff, nJ]; omega
 by_cases h0 : z = 0
 ·have := hnil.2 h0
  repeat (refine kL ?_)
  refine aJ (by first | exact .inl rfl | exact .inr rfl) rfl rfl _ _ bW bT (⟨rfl, rfl, by rw [h0]; rfl⟩)
 ·have : ¬ (gr z.natAbs).length = 0 := fun h => h0 (hnil.1 h)
  repeat' (first | refine kL ?_ | refine aM rfl (fun h => ?_) (fun h => ?_) | refine aN rfl rfl (fun h => ?_) (fun h => ?_) | fail)
  ·refine aJ (by first | exact .inl rfl | exact .inr rfl) rfl rfl _ _ bW bT (⟨rfl, rfl, by rw [Int.sign_eq_neg_one_of_neg (by assumption)]⟩)
  ·refine aJ (by first | exact .inl rfl | exact .inr rfl) rfl rfl _ _ bW bT (⟨rfl, rfl, by rw [Int.sign_eq_one_of_pos (by omega)]⟩)
theorem aHN {u : Value} {z : Int} {k : Nat} (hk : k ≤ 1000000000000) (hu : iA u z k ∈ I0) : CD Tryz.prog 194 [u] X w0 M0 I0 (fun v M I => M0 = M ∧ I = iA v (-z) k :: I0) := by
 refine dE hu (fun q c e hc hz => ?_)
 subst e
 have hl := fM hz hk
 unfold iv
 refine dS Tryz.func194 rfl Tryz.ntmps194 rfl ?_
 refine aG ?_
 refine aH ?_
 (refine jW rfl rfl rfl ?_; intro b; refine ⟨mX, ?_⟩)
 (refine aI rfl rfl ?_; intro b2; refine ⟨mX, ?_⟩)
 repeat' (first | refine aH ?_ | refine jD ?_ | refine gU ?_ | refine fD ?_ | refine fA ?_ | refine gV ?_ | refine gM ?_ | refine fE ?_ | refine fC ?_ | refine jF ?_ | refine jG ?_ | refine jB ?_ | refine jE rfl ?_ | refine bX ?_ | (refine gG ?_; first | refine fV rfl rfl rfl ?_ | (refine fT rfl rfl ?_; refine eQ rfl rfl rfl mX ?_) | refine fQ rfl rfl (by omega) ?_ | refine gL rfl rfl (by omega) ?_ | refine pM rfl rfl (fun h => ?_) (fun h => ?_) | (fail_if_success (refine rW rfl ?_); refine oG rfl rfl (fun h => ?_) (fun h => ?_))) | (refine bN ?_; refine aC rfl (fun _ => dD rfl) rfl rfl ?_) | refine aC rfl (fun _ => aY rfl) rfl rfl ?_ | (refine fZ ?_; first | refine aC rfl (fun _ => bH rfl rfl w_) rfl rfl ?_ | refine aC rfl (fun _ => bF rfl rfl w_) rfl rfl ?_ | refine aC rfl (fun _ => dL rfl rfl w_) rfl rfl ?_ | refine aC rfl (fun _ => dK rfl rfl (by omega) q_) rfl rfl ?_ | refine aC rfl (fun _ => dJ rfl rfl (by omega) rfl) rfl rfl ?_ | refine aC rfl (fun _ => dC rfl rfl) rfl rfl ?_ | refine aC rfl (fun _ => dF rfl rfl) rfl rfl ?_ | refine aC rfl (fun _ => dG rfl rfl) rfl rfl ?_) | (refine bN ?_; first | refine aC rfl (fun _ => dH rfl w_) rfl rfl ?_) | (refine gH ?_; first | refine aC rfl (fun _ => bY rfl w_) rfl rfl ?_) | (refine gK ?_; first | refine aC rfl (fun _ => bG rfl) rfl rfl ?_ | refine aC rfl (fun _ => cO rfl rfl) rfl rfl ?_ | refine aC rfl (fun _ => cK rfl rfl) rfl rfl ?_ | refine aC rfl (fun _ => dB rfl rfl rfl) rfl rfl ?_) | (refine fU ?_; first | refine gD rfl (by decide) rfl rfl ?_ | refine iK rfl (by decide) rfl rfl ?_) | (refine gF ?_; first | refine aC rfl (fun _ => bV rfl) rfl rfl ?_) | (refine gI ?_; first | refine iL rfl rfl iB rfl rfl ?_ | refine iQ rD rfl rfl iB aO iW rfl rfl ?_ | refine iN rD rfl rfl iB aO iW rfl rfl ?_ | refine aC rfl (fun _ => bM rfl rfl iB) rfl rfl ?_) | (refine gJ ?_; first | refine iO rD rfl aO nW rfl rfl ?_ | refine iM rD rfl aO nW rfl rfl ?_ | refine fK rD rfl aO nW rfl rfl ?_ | refine fO rD rfl aO nW rfl rfl ?_ | refine kG rD rfl aO iF eX rfl rfl ?_ | refine kI rD rfl aO iF eX rfl rfl ?_ | refine kH rD rfl aO iF eX rfl rfl ?_ | refine jL rD rfl aO iF eX rfl rfl ?_) | (refine fP ?_; first | refine aC rfl (fun _ => bK rfl rfl) rfl rfl ?_ | refine aC rfl (fun _ => bD rfl) rfl rfl ?_) | (refine iG ?_; first | refine jV rfl rfl rfl mD stC rfl rfl ⟨mX, ?_⟩ | refine gX rfl rfl eX qV mD qX rfl rfl ⟨mX, ?_⟩) | (refine gT ?_; first | refine bS rfl ?_ | refine bI rfl ?_ | refine jH rfl (by omega) ?_ | refine lL rfl (by omega) ?_ | refine sK rfl (fun h => ?_) (fun h => ?_) | refine oD rfl (fun h => ?_) (fun h => ?_)))
 (repeat refine aG ?_); refine bJ 3 [0, 1, 2, 3, 4, 5, 6, 7] [3, 3, 2, 2, 0, 0, 0, 0] mixed (by kernel_rfl) ?_
 repeat (refine kL ?_)
 (refine aP rfl (jJ (c := c) hz hk aO) rfl rfl ?_; rintro _ _ _ ⟨rfl, rfl, rfl⟩; refine ⟨mX, ?_⟩)
 repeat (refine kL ?_)
 (refine aP rfl (wL (a := gr z.natAbs) (by omega) hc.2 aO) rfl rfl ?_; rintro _ _ _ ⟨rfl, q', c', rfl, rfl⟩; refine ⟨mX, ?_⟩)
 refine lZ (fun w hw => And.intro (hw.rowLe (List.Mem.head _)) ((hw.rowS (List.Mem.head _)).2.imp id And.right)) (fun hc' => ?_)
 refine eP uV ?_
 repeat (refine kL ?_)
 rw [← aON z]
 (refine aP rfl (lF (p := ¬ z < 0) (k := k) (by omega) hc' hz aO) rfl rfl ?_; rintro _ _ _ ⟨rfl, rfl⟩; refine ⟨mX, ?_⟩; refine aV (List.Mem.head _) (fun q2 c2 e__ hc2 hz2 => ?_); subst e__)
 unfold iv
 repeat (refine kL ?_)
 refine bC (cs := [.bool (B (sg (¬ z < 0) z.natAbs < 0)), .slice q2 (gr (sg (¬ z < 0) z.natAbs).natAbs).length c2]) (.inl rfl) rfl rfl aO rfl _ _ bW bT ⟨rfl, rfl⟩
theorem rO {u v : Value} {y z : Int} {k m : Nat} (hk : k + m ≤ 1000000000000) (hu : iA u y k ∈ I0) (hv : iA v z m ∈ I0) : CD Tryz.prog 148 [u, v] X w0 M0 I0 (fun v M I => M0 = M ∧ I = iA v (y * z) (k + m) :: I0) := by
 refine dE hu (fun q c e hc hy => ?_)
 subst e
 refine dE (List.Mem.tail _ hv) (fun q' c' e hc' hz => ?_)
 subst e
 have hl := fM hy (by omega)
 have hl' := fM hz (by omega)
 unfold iv
 refine dS Tryz.func148 rfl Tryz.ntmps148 rfl ?_
 refine aG ?_
 refine aH ?_
 (refine jW rfl rfl rfl ?_; intro b; refine ⟨mX, ?_⟩)
 (refine jW rfl rfl rfl ?_; intro b2; refine ⟨mX, ?_⟩)
 (refine aI rfl rfl ?_; intro b3; refine ⟨mX, ?_⟩)
 repeat' (first | refine aH ?_ | refine jD ?_ | refine gU ?_ | refine fD ?_ | refine fA ?_ | refine gV ?_ | refine gM ?_ | refine fE ?_ | refine fC ?_ | refine jF ?_ | refine jG ?_ | refine jB ?_ | refine jE rfl ?_ | refine bX ?_ | (refine gG ?_; first | refine fV rfl rfl rfl ?_ | (refine fT rfl rfl ?_; refine eQ rfl rfl rfl mX ?_) | refine fQ rfl rfl (by omega) ?_ | refine gL rfl rfl (by omega) ?_ | refine pM rfl rfl (fun h => ?_) (fun h => ?_) | (fail_if_success (refine rW rfl ?_); refine oG rfl rfl (fun h => ?_) (fun h => ?_))) | (refine bN ?_; refine aC rfl (fun _ => dD rfl) rfl rfl ?_) | refine aC rfl (fun _ => aY rfl) rfl rfl ?_ | (refine fZ ?_; first | refine aC rfl (fun _ => bH rfl rfl w_) rfl rfl ?_ | refine aC rfl (fun _ => bF rfl rfl w_) rfl rfl ?_ | refine aC rfl (fun _ => dL rfl rfl w_) rfl rfl ?_ | refine aC rfl (fun _ => dK rfl rfl (by omega) q_) rfl rfl ?_ | refine aC rfl (fun _ => dJ rfl rfl (by omega) rfl) rfl rfl ?_ | refine aC rfl (fun _ => dC rfl rfl) rfl rfl ?_ | refine aC rfl (fun _ => dF rfl rfl) rfl rfl ?_ | refine aC rfl (fun _ => dG rfl rfl) rfl rfl ?_) | (refine bN ?_; first | refine aC rfl (fun _ => dH rfl w_) rfl rfl ?_) | (refine gH ?_; first | refine aC rfl (fun _ => bY rfl w_) rfl rfl ?_) | (refine gK ?_; first | refine aC rfl (fun _ => bG rfl) rfl rfl ?_ | refine aC rfl (fun _ => cO rfl rfl) rfl rfl ?_ | refine aC rfl (fun _ => cK rfl rfl) rfl rfl ?_ | refine aC rfl (fun _ => dB rfl rfl rfl) rfl rfl ?_) | (refine fU ?_; first | refine gD rfl (by decide) rfl rfl ?_ | refine iK rfl (by decide) rfl rfl ?_) | (refine gF ?_; first | refine aC rfl (fun _ => bV rfl) rfl rfl ?_) | (refine gI ?_; first | refine iL rfl rfl iB rfl rfl ?_ | refine iQ rD rfl rfl iB aO iW rfl rfl ?_ | refine iN rD rfl rfl iB aO iW rfl rfl ?_ | refine aC rfl (fun _ => bM rfl rfl iB) rfl rfl ?_) | (refine gJ ?_; first | refine iO rD rfl aO nW rfl rfl ?_ | refine iM rD rfl aO nW rfl rfl ?_ | refine fK rD rfl aO nW rfl rfl ?_ | refine fO rD rfl aO nW rfl rfl ?_ | refine kG rD rfl aO iF eX rfl rfl ?_ | refine kI rD rfl aO iF eX rfl rfl ?_ | refine kH rD rfl aO iF eX rfl rfl ?_ | refine jL rD rfl aO iF eX rfl rfl ?_) | (refine fP ?_; first | refine aC rfl (fun _ => bK rfl rfl) rfl rfl ?_ | refine aC rfl (fun _ => bD rfl) rfl rfl ?_) | (refine iG ?_; first | refine jV rfl rfl rfl mD stC rfl rfl ⟨mX, ?_⟩ | refine gX rfl rfl eX qV mD qX rfl rfl ⟨mX, ?_⟩) | (refine gT ?_; first | refine bS rfl ?_ | refine bI rfl ?_ | refine jH rfl (by omega) ?_ | refine lL rfl (by omega) ?_ | refine sK rfl (fun h => ?_) (fun h => ?_) | refine oD rfl (fun h => ?_) (fun h => ?_)))
 (repeat refine aG ?_); refine bJ 4 [0, 1, 2, 3, 4, 5, 7, 6, 8, 9, 10, 11] [4, 4, 4, 4, 3, 3, 3, 0, 0, 0, 0, 0] mixed (by kernel_rfl) ?_
 repeat (refine kL ?_)
 (refine aP rfl (jJ (c := c) hy (by omega) aO) rfl rfl ?_; rintro _ _ _ ⟨rfl, rfl, rfl⟩; refine ⟨mX, ?_⟩)
 repeat (refine kL ?_)
 (refine aP rfl (jJ (c := c') hz (by omega) aO) rfl rfl ?_; rintro _ _ _ ⟨rfl, rfl, rfl⟩; refine ⟨mX, ?_⟩)
 repeat (refine kL ?_)
 (refine aP rfl (aOX (by omega) (by omega) aO aO) rfl rfl ?_; rintro _ _ _ ⟨rfl, q3, c3, rfl, hc3, rfl⟩; refine ⟨mX, ?_⟩)
 have hyz : y.natAbs * z.natAbs ≤ 2 ^ (k + m) := wU hy hz
 have hl3 := fM hyz (by omega)
 have hsg : sg (¬ (y < 0 ↔ z < 0)) (y.natAbs * z.natAbs) = y * z := by
  unfold sg
  rw [Int.natCast_mul]
  by_cases h1 : y < 0 <;> by_cases h2 : z < 0 <;> simp only [h1, h2, not_true_eq_false, not_false_eq_true, iff_true, iff_false, if_true, if_false]
  ·rw [show (y.natAbs : Int) = -y by omega, show (z.natAbs : Int) = -z by omega, Int.neg_mul_neg]
  ·rw [show (y.natAbs : Int) = -y by omega, show (z.natAbs : Int) = z by omega, Int.neg_mul, Int.neg_neg]
  ·rw [show (y.natAbs : Int) = y by omega, show (z.natAbs : Int) = -z by omega, Int.mul_neg, Int.neg_neg]
  ·rw [show (y.natAbs : Int) = y by omega, show (z.natAbs : Int) = z by omega]
 rw [← hsg]
 (refine aP rfl (lF (p := ¬ (y < 0 ↔ z < 0)) (k := k + m) (by omega) hc3 hyz aO) rfl rfl ?_; rintro _ _ _ ⟨rfl, rfl⟩; refine ⟨mX, ?_⟩; refine aV (List.Mem.head _) (fun q2 c2 e__ hc2 hz2 => ?_); subst e__)
 unfold iv
 repeat (refine kL ?_)
 refine bC (cs := [.bool (B (sg (¬ (y < 0 ↔ z < 0)) (y.natAbs * z.natAbs) < 0)), .slice q2 (gr (sg (¬ (y < 0 ↔ z < 0)) (y.natAbs * z.natAbs)).natAbs).length c2]) (.inl rfl) rfl rfl aO rfl _ _ bW bT ⟨rfl, rfl⟩
end
end Go.Proofs.YtjbhdfpjnjedhaaGreat

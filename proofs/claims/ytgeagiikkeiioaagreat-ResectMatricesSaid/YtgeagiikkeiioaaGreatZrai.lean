/- integer: the numbers: made, Valid, groups, Sign, Neg, Mul -/
import Derived.Test.YtgeagiikkeiioaaGreatZrah
import Derived.Test.YtgeagiikkeiioaaGreatZrag
set_option linter.unusedSimpArgs false
set_option linter.unusedVariables false
set_option maxRecDepth 100000
set_option maxHeartbeats 4000000
namespace Go.Proofs.YtgeagiikkeiioaaGreat
open Go Go.Fx
def iv (q : Option Addr) (c : Nat) (z : Int) : Value := .agg #[.bool (B (z < 0)), .slice q (gr z.natAbs).length c]
abbrev oV (q : Option Addr) (n c : Nat) : Prop := (gr n).length ≤ c ∧ (Ok q ∨ ((gr n).length = 0 ∧ c = 0))
structure IsI (u : Value) (z : Int) (k : Nat) (X : List Nat) (w : World) : Prop where
 ex : ∃ q c, u = iv q c z ∧ oV q z.natAbs c ∧ z.natAbs ≤ 2 ^ k ∧ Sl X w q (recs eG (gr z.natAbs))
abbrev jA (u : Value) (z : Int) (k : Nat) : bL := IsI u z k
instance (u : Value) (z : Int) (k : Nat) : Fx.Good (IsI u z k) := ⟨fun X Y w w' h he hY => by
 obtain ⟨q, c, h1, h2, h3, h4⟩ := h.ex
 exact ⟨q, c, h1, h2, h3, Sl.carry h4 he hY⟩⟩
def sg (p : Prop) [Decidable p] (n : Nat) : Int := if p then -(n : Int) else n
theorem aLT (p : Prop) [Decidable p] (n : Nat) : (sg p n).natAbs = n := by unfold sg; split <;> omega
theorem pK (z : Int) : sg (z < 0) z.natAbs = z := by unfold sg; split <;> omega
theorem aLG (z : Int) : sg (¬ z < 0) z.natAbs = -z := by unfold sg; split <;> omega
theorem sg_lt {p : Prop} [Decidable p] {n : Nat} (h : n ≠ 0) : sg p n < 0 ↔ p := by unfold sg; split <;> simp_all <;> omega
section
variable {P : Program} {n : Nat} {Q : Exit → Act → World → Prop} {G : Env} {X : List Nat} {w0 : World} {M M' : List Ent} {I I' : List bL}
theorem eU {f : FuncId} {vs : List Value} {K : Value → List Ent → List bL → Prop} {u : Value} {z : Int} {k : Nat} (hu : jA u z k ∈ I)
  (h : ∀ q c, u = iv q c z → oV q z.natAbs c → z.natAbs ≤ 2 ^ k → CD P f vs X w0 M (bP q (recs eG (gr z.natAbs)) :: I) K) : CD P f vs X w0 M I K :=
 ⟨fun w hw => by
  obtain ⟨q, c, h1, h2, h3, h4⟩ := ((hw.imm _ hu).2).ex
  exact (h q c h1 h2 h3).go w (hw.add (φ := bP q _) ⟨h4⟩)⟩
theorem aCJ {w : World} {q : Option Addr} {c : Nat} {z : Int} {k : Nat} (hw : Mem X w0 M I w) (hm : bP q (recs eG (gr z.natAbs)) ∈ I) (hc : oV q z.natAbs c) (hk : z.natAbs ≤ 2 ^ k) : Mem X w0 M (jA (iv q c z) z k :: I) w :=
 hw.add (φ := jA _ z k) ⟨q, c, rfl, hc, hk, hw.sl hm⟩
theorem aBB {ex : Exit} {q : Option Addr} {c : Nat} {z : Int} {k : Nat} (hm : bP q (recs eG (gr z.natAbs)) ∈ I) (hc : oV q z.natAbs c) (hk : z.natAbs ≤ 2 ^ k) (h : ND n Q ex G X w0 M (jA (iv q c z) z k :: I)) : ND n Q ex G X w0 M I := zB (fun _ hw => aCJ hw hm hc hk) h
theorem tO {ops l : List Oper} {m : Fx.Mode} {q : Option Addr} {c : Nat} {z : Int} {k : Nat} (hm : bP q (recs eG (gr z.natAbs)) ∈ I) (hc : oV q z.natAbs c) (hk : z.natAbs ≤ 2 ^ k) (h : RD P n ops Q m l G X w0 M (jA (iv q c z) z k :: I)) : RD P n ops Q m l G X w0 M I := uQ (fun _ hw => aCJ hw hm hc hk) h
theorem bI {ops l : List Oper} {m : Fx.Mode} {u : Value} {z : Int} {k : Nat} (hu : jA u z k ∈ I)
  (h : ∀ q c, u = iv q c z → oV q z.natAbs c → z.natAbs ≤ 2 ^ k → RD P n ops Q m l G X w0 M (bP q (recs eG (gr z.natAbs)) :: I)) : RD P n ops Q m l G X w0 M I :=
 ⟨fun w hw => by
  obtain ⟨q, c, h1, h2, h3, h4⟩ := ((hw.imm _ hu).2).ex
  exact (h q c h1 h2 h3).go w (hw.add (φ := bP q _) ⟨h4⟩)⟩
theorem IsI.mono {u : Value} {z : Int} {k m : Nat} {X : List Nat} {w : World} (h : IsI u z k X w) (hk : k ≤ m) : IsI u z m X w := by
 obtain ⟨q, c, h1, h2, h3, h4⟩ := h.ex
 exact ⟨q, c, h1, h2, Nat.le_trans h3 (Nat.pow_le_pow_right (by decide) hk), h4⟩
end
theorem iR {n k : Nat} (h : n ≤ 2 ^ k) (hk : k ≤ 1000000000000) : (gr n).length ≤ 40000000000 := by
 have := fJ h
 omega
/- ---------- IndexFunc, ContainsFunc of []uint32 ---------- -/
section
variable {X : List Nat} {w0 : World} {M0 : List Ent} {I0 : List bL}
theorem aOD {q : Option Addr} {a : List Int} {c : Nat} {g : FuncId} [FnOk Tryz.prog g] {fs cs : Array Value} (pr : Int → Prop) [DecidablePred pr] (hn : (a.length : Int) ≤ 9223372036854775807) (ha : bP q (recs eG a) ∈ I0)
  (hg : ∀ i : Nat, i < a.length → CD Tryz.prog g (fs.toList ++ [Value.int .u32 (gt a i)] ++ cs.toList) X w0 M0 I0 (fun v M I => M0 = M ∧ I0 = I ∧ v = .bool (B (pr (gt a i))))) :
  CD Tryz.prog 225 [.slice q a.length c, .func (.func g) fs cs] X w0 M0 I0 (fun v M I => M0 = M ∧ I0 = I ∧ ∃ r : Int, v = .int .i64 r ∧ ((∃ i : Nat, i < a.length ∧ r = i ∧ pr (gt a i) ∧ ∀ j : Nat, j < i → ¬ pr (gt a j)) ∨ (r = -1 ∧ ∀ j : Nat, j < a.length → ¬ pr (gt a j)))) := by
 refine gQ Tryz.func225 rfl Tryz.ntmps225 rfl ?_
 repeat (refine kU ?_)
 refine bH [0, 1, 7] rfl (fun k G M I => ∃ i : Nat, i ≤ a.length ∧ k = a.length - i ∧ (∀ j : Nat, j < i → ¬ pr (gt a j)) ∧ G = [(8, .int .i64 i)] ∧ M = M0 ∧ I = I0) (a.length) _ _ _ aV fC fB (⟨0, by omega, rfl, fun j hj => by omega, rfl, rfl, rfl⟩) ?_
 rintro k G M I ⟨i, hi, rfl, hs, rfl, rfl, rfl⟩
 repeat' (first | refine kU ?_ | (refine aL ?_; first | refine aS rfl (fun h => ?_) (fun h => ?_) | refine aP rfl (fun h => ?_) (fun h => ?_)) | (refine aJ ?_; first | refine aR rfl rfl (fun h => ?_) (fun h => ?_) | (fail_if_success (refine aT rfl ?_); refine aO rfl rfl (fun h => ?_) (fun h => ?_))))
 ·have hlt : i < a.length := by omega
  (refine aEY rfl rfl (hg i hlt) rfl rfl rfl ?_; rintro _ _ _ ⟨rfl, rfl, rfl⟩; refine ⟨nA, ?_⟩)
  repeat' (first | refine kU ?_ | (refine aL ?_; first | refine aS rfl (fun h => ?_) (fun h => ?_) | refine aP rfl (fun h => ?_) (fun h => ?_)) | (refine aJ ?_; first | refine aR rfl rfl (fun h => ?_) (fun h => ?_) | (fail_if_success (refine aT rfl ?_); refine aO rfl rfl (fun h => ?_) (fun h => ?_))))
  ·refine aU (by first | exact .inl rfl | exact .inr rfl) rfl rfl _ _ fC fB (⟨rfl, rfl, _, rfl, .inl ⟨i, hlt, rfl, by assumption, hs⟩⟩)
  ·refine aW (a.length - (i + 1)) _ _ _ (by first | omega | (simp only [List.length_append, List.length_cons, List.length_nil]; omega)) aV fC fB (⟨i + 1, by omega, rfl, fun j hj => ?_, rfl, rfl, rfl⟩)
   by_cases e : j = i
   ·subst e; assumption
   ·exact hs j (by omega)
 ·refine aU (by first | exact .inl rfl | exact .inr rfl) rfl rfl _ _ fC fB (⟨rfl, rfl, _, rfl, .inr ⟨rfl, fun j hj => hs j (by omega)⟩⟩)
theorem aNJ {q : Option Addr} {a : List Int} {c : Nat} {g : FuncId} [FnOk Tryz.prog g] {fs cs : Array Value} (pr : Int → Prop) [DecidablePred pr] (hn : (a.length : Int) ≤ 9223372036854775807) (ha : bP q (recs eG a) ∈ I0)
  (hg : ∀ i : Nat, i < a.length → CD Tryz.prog g (fs.toList ++ [Value.int .u32 (gt a i)] ++ cs.toList) X w0 M0 I0 (fun v M I => M0 = M ∧ I0 = I ∧ v = .bool (B (pr (gt a i))))) :
  CD Tryz.prog 203 [.slice q a.length c, .func (.func g) fs cs] X w0 M0 I0 (fun v M I => M0 = M ∧ I0 = I ∧ v = .bool (B (∃ x ∈ a, pr x))) := by
 refine gQ Tryz.func203 rfl Tryz.ntmps203 rfl ?_
 repeat (refine kU ?_)
 (refine bD rfl (aOD pr hn ha hg) rfl rfl ?_; rintro _ _ _ ⟨rfl, rfl, r, rfl, h⟩; refine ⟨nA, ?_⟩)
 repeat (refine kU ?_)
 refine aU (by first | exact .inl rfl | exact .inr rfl) rfl rfl _ _ fC fB (⟨rfl, rfl, congrArg Value.bool (gP ?_)⟩)
 rcases h with ⟨i, hi, rfl, hp, _⟩ | ⟨rfl, h⟩
 ·exact ⟨fun _ => ⟨gt a i, by rw [kG hi]; exact List.getElem_mem hi, hp⟩, fun _ => by omega⟩
 ·refine ⟨fun h => by omega, ?_⟩
  rintro ⟨x, hx, hp⟩
  obtain ⟨j, hj, rfl⟩ := List.mem_iff_getElem.1 hx
  exact absurd (by rw [kG hj]; exact hp) (h j hj)
end
/- ---------- Clone of []uint32 ---------- -/
section
variable {X : List Nat} {w0 : World} {M0 : List Ent} {I0 : List bL}
theorem wN {q : Option Addr} {a : List Int} {c : Nat} (hn : (a.length : Int) * 4 ≤ 140737488355328) (hok : Ok q ∨ (a.length = 0 ∧ c = 0)) (ha : bP q (recs eG a) ∈ I0) :
  CD Tryz.prog 175 [.slice q a.length c] X w0 M0 I0 (fun v M I => I0 = I ∧ ∃ q' c', v = .slice q' a.length c' ∧ M = .row q' a.length c' (recs eG a) 155 1 :: M0) := by
 refine gQ Tryz.func175 rfl Tryz.ntmps175 rfl ?_
 repeat (refine kU ?_)
 refine aD rfl (fun _ => aEX rfl) rfl rfl ?_
 cases q with
 | some ad =>
  repeat (refine kU ?_)
  (refine dM (cs := recs eG []) ([]) rfl rfl (by intro v hv; repeat (first | exact absurd hv (List.not_mem_nil) | (rcases List.mem_cons.1 hv with rfl | hv; · rfl))) (by omega) rfl rfl rfl ?_; intro b1; refine ⟨nA, ?_⟩)
  repeat (refine kU ?_)
  refine jY (mm := 0) 1 nE rfl (by omega) ?_
  refine iF (xs := []) (ys := a) 0 rfl rfl rfl (Src.imm bB hok) (by decide) rfl (by simp; omega) (by simp; omega) rfl rfl ?_
  intro a2 c2
  refine ⟨nA, ?_⟩
  repeat (refine kU ?_)
  refine aU (by first | exact .inl rfl | exact .inr rfl) rfl rfl _ _ fC fB (⟨rfl, a2, c2, by simp, by simp⟩)
 | none =>
  obtain ⟨h0, rfl⟩ : a.length = 0 ∧ c = 0 := hok.resolve_left (fun h => by obtain ⟨b, o, e⟩ := h.cases; cases e)
  have hnil : a = [] := List.eq_nil_of_length_eq_zero h0
  subst hnil
  repeat (refine kU ?_)
  refine aNL 155 1 ?_
  refine aU (by first | exact .inl rfl | exact .inr rfl) rfl rfl _ _ fC fB (⟨rfl, none, 0, rfl, rfl⟩)
end
section
variable {X : List Nat} {w0 : World} {M0 : List Ent} {I0 : List bL}
theorem lK {p : Prop} [Decidable p] {q : Option Addr} {n c k : Nat} (hl : (gr n).length ≤ 100000000000) (hc : oV q n c) (hk : n ≤ 2 ^ k) (hq : bP q (recs eG (gr n)) ∈ I0) :
  CD Tryz.prog 172 [.bool (B p), .slice q (gr n).length c] X w0 M0 I0 (fun v M I => M0 = M ∧ I = jA v (sg p n) k :: I0) := by
 refine gQ Tryz.func172 rfl Tryz.ntmps172 rfl ?_
 refine aN ?_
 refine aI ?_
 (refine aC rfl rfl ?_; intro b; refine ⟨nA, ?_⟩)
 repeat (refine kU ?_)
 (refine bD rfl (pF (l := gr n) rfl (by omega) hc.1 hq) rfl rfl ?_; rintro _ _ _ ⟨rfl, rfl, rfl⟩; refine ⟨nA, ?_⟩)
 rw [yH (zM n)]
 by_cases h0 : (gr n).length = 0
 ·have hn : n = 0 := nI.1 (List.eq_nil_of_length_eq_zero h0)
  subst hn
  repeat (refine kU ?_)
  (refine aD rfl (fun _ => dW (pvs := ([]).zipIdx.map (fun p => (p.2, p.1))) (cells := [.bool false, .slice none 0 0]) rfl rfl) rfl rfl ?_)
  repeat (refine kU ?_)
  have hz : sg p 0 = 0 := by unfold sg; split <;> rfl
  rw [hz]
  have hg0 : gr (0 : Int).natAbs = [] := iW
  refine aCT none ?_
  refine aBB (q := none) (c := 0) (z := 0) (k := k) (by rw [hg0]; exact bB) ⟨by rw [hg0]; simp, .inr ⟨by rw [hg0]; rfl, rfl⟩⟩ (by simp) ?_
  have hiv : iv none 0 0 = .agg #[.bool false, .slice none 0 0] := by unfold iv; rw [hg0, bC (by omega)]; rfl
  rw [hiv]
  refine bY (cs := [.bool false, .slice none 0 0]) (.inl rfl) rfl rfl bB rfl _ _ fC fB ⟨rfl, rfl⟩
 ·have hn : n ≠ 0 := fun e => h0 (by rw [e, iW]; rfl)
  repeat (refine kU ?_)
  (refine aD rfl (fun _ => dW (pvs := ([.bool (B p), .slice q (gr n).length c]).zipIdx.map (fun p => (p.2, p.1))) (cells := [.bool (B p), .slice q (gr n).length c]) rfl rfl) rfl rfl ?_)
  repeat (refine kU ?_)
  have ha := aLT p n
  refine aBB (q := q) (c := c) (z := sg p n) (k := k) (by rw [ha]; exact bB) (by rw [ha]; exact hc) (by rw [ha]; exact hk) ?_
  have hiv : iv q c (sg p n) = .agg #[.bool (B p), .slice q (gr n).length c] := by unfold iv; rw [ha, gP (sg_lt hn)]
  rw [hiv]
  refine bY (cs := [.bool (B p), .slice q (gr n).length c]) (.inl rfl) rfl rfl bB rfl _ _ fC fB ⟨rfl, rfl⟩
theorem aNR {x : Int} : CD Tryz.prog 204 [.int .u32 x] X w0 M0 I0 (fun v M I => M0 = M ∧ I0 = I ∧ v = .bool (B (1000000000 ≤ x))) := by
 refine gQ Tryz.func204 rfl Tryz.ntmps204 rfl ?_
 repeat (refine kU ?_)
 refine aU (by first | exact .inl rfl | exact .inr rfl) rfl rfl _ _ fC fB (⟨rfl, rfl, rfl⟩)
def pR (neg : Bool) (gs : List Int) : Prop := (gs = [] ∧ neg = false) ∨ (gs ≠ [] ∧ Top gs ∧ ¬ ∃ x ∈ gs, 1000000000 ≤ x)
instance (neg : Bool) (gs : List Int) : Decidable (pR neg gs) := by unfold pR; exact inferInstance
theorem xZ {gs : List Int} (h : 0 < gs.length) : gs.getLastD 1 = gt gs ((gs.length : Int) - 1) := by
 rcases List.eq_nil_or_concat gs with rfl | ⟨r, x, e⟩
 ·simp at h
 ·rw [List.concat_eq_append] at e
  subst e
  have e1 : (((r ++ [x]).length : Int) - 1) = ((r.length : Nat) : Int) := by simp
  rw [e1, uC]
  simp
theorem sQ {neg : Bool} {q : Option Addr} {gs : List Int} {c : Nat} (hn : (gs.length : Int) ≤ 9223372036854775807) (hq : bP q (recs eG gs) ∈ I0) :
  CD Tryz.prog 170 [.agg #[.bool neg, .slice q gs.length c]] X w0 M0 I0 (fun v M I => M0 = M ∧ I0 = I ∧ v = .bool (B (pR neg gs))) := by
 refine gQ Tryz.func170 rfl Tryz.ntmps170 rfl ?_
 refine aN ?_
 refine aI ?_
 (refine mV rfl rfl rfl ?_; intro b; refine ⟨nA, ?_⟩)
 by_cases h0 : gs.length = 0
 ·have hg : gs = [] := List.eq_nil_of_length_eq_zero h0
  subst hg
  repeat (refine kU ?_)
  refine aU (by first | exact .inl rfl | exact .inr rfl) rfl rfl _ _ fC fB (⟨rfl, rfl, by rw [show (!neg) = B (pR neg []) by rw [qH]; cases neg <;> simp [pR]]⟩)
 ·have hgs : gs ≠ [] := fun e => h0 (by rw [e]; rfl)
  have hlast := xZ (gs := gs) (by omega)
  repeat' (first | refine kU ?_ | (refine aL ?_; first | refine aS rfl (fun h => ?_) (fun h => ?_) | refine aP rfl (fun h => ?_) (fun h => ?_)) | (refine aJ ?_; first | refine aR rfl rfl (fun h => ?_) (fun h => ?_) | (fail_if_success (refine aT rfl ?_); refine aO rfl rfl (fun h => ?_) (fun h => ?_))))
  ·(refine bD rfl (aNJ (fun x => 1000000000 ≤ x) hn hq (fun i hi => aNR)) rfl rfl ?_; rintro _ _ _ ⟨rfl, rfl, rfl⟩; refine ⟨nA, ?_⟩)
   repeat (refine kU ?_)
   refine aU (by first | exact .inl rfl | exact .inr rfl) rfl rfl _ _ fC fB (⟨rfl, rfl, congrArg Value.bool (gP ?_)⟩)
   unfold pR Top
   rw [hlast]
   exact ⟨fun h => .inr ⟨hgs, by assumption, h⟩, fun h => h.elim (fun h => absurd h.1 hgs) (fun h => h.2.2)⟩
  ·refine aU (by first | exact .inl rfl | exact .inr rfl) rfl rfl _ _ fC fB (⟨rfl, rfl, congrArg Value.bool (bC ?_).symm⟩)
   unfold pR Top
   rw [hlast]
   rintro (h | h)
   ·exact hgs h.1
   ·exact absurd h.2.1 (by assumption)
theorem xE (z : Int) : pR (B (z < 0)) (gr z.natAbs) := by
 by_cases h : z.natAbs = 0
 ·refine .inl ⟨by rw [h, iW], bC (by omega)⟩
 ·refine .inr ⟨fun e => h (nI.1 e), zM _, ?_⟩
  rintro ⟨x, hx, h1⟩
  have := dX z.natAbs x hx
  omega
theorem jW {q : Option Addr} {c k : Nat} {z : Int} (hz : z.natAbs ≤ 2 ^ k) (hk : k ≤ 1000000000000) (hq : bP q (recs eG (gr z.natAbs)) ∈ I0) :
  CD Tryz.prog 176 [iv q c z] X w0 M0 I0 (fun v M I => M0 = M ∧ I0 = I ∧ v = .slice q (gr z.natAbs).length c) := by
 have hl := iR hz hk
 unfold iv
 refine gQ Tryz.func176 rfl Tryz.ntmps176 rfl ?_
 refine aN ?_
 refine aI ?_
 (refine mV rfl rfl rfl ?_; intro b; refine ⟨nA, ?_⟩)
 repeat (refine kU ?_)
 (refine bD rfl (sQ (neg := B (z < 0)) (gs := gr z.natAbs) (by omega) hq) rfl rfl ?_; rintro _ _ _ ⟨rfl, rfl, rfl⟩; refine ⟨nA, ?_⟩)
 rw [cO (xE z)]
 repeat (refine kU ?_)
 refine aU (by first | exact .inl rfl | exact .inr rfl) rfl rfl _ _ fC fB (⟨rfl, rfl, rfl⟩)
theorem pI {u : Value} {z : Int} {k : Nat} (hk : k ≤ 1000000000000) (hu : jA u z k ∈ I0) : CD Tryz.prog 136 [u] X w0 M0 I0 (fun v M I => M0 = M ∧ I0 = I ∧ v = .int .i64 z.sign) := by
 refine eU hu (fun q c e hc hz => ?_)
 subst e
 unfold iv
 refine gQ Tryz.func136 rfl Tryz.ntmps136 rfl ?_
 refine aN ?_
 refine aI ?_
 (refine mV rfl rfl rfl ?_; intro b; refine ⟨nA, ?_⟩)
 repeat (refine kU ?_)
 (refine bD rfl (jW (c := c) hz hk bB) rfl rfl ?_; rintro _ _ _ ⟨rfl, rfl, rfl⟩; refine ⟨nA, ?_⟩)
 have hnil : (gr z.natAbs).length = 0 ↔ z = 0 := by
  rw [List.length_eq_zero_iff, nI]; omega
 by_cases h0 : z = 0
 ·have := hnil.2 h0
  repeat (refine kU ?_)
  refine aU (by first | exact .inl rfl | exact .inr rfl) rfl rfl _ _ fC fB (⟨rfl, rfl, by rw [h0]; rfl⟩)
 ·have : ¬ (gr z.natAbs).length = 0 := fun h => h0 (hnil.1 h)
  repeat' (first | refine kU ?_ | (refine aL ?_; first | refine aS rfl (fun h => ?_) (fun h => ?_) | refine aP rfl (fun h => ?_) (fun h => ?_)) | (refine aJ ?_; first | refine aR rfl rfl (fun h => ?_) (fun h => ?_) | (fail_if_success (refine aT rfl ?_); refine aO rfl rfl (fun h => ?_) (fun h => ?_))))
  ·refine aU (by first | exact .inl rfl | exact .inr rfl) rfl rfl _ _ fC fB (⟨rfl, rfl, by rw [Int.sign_eq_neg_one_of_neg (by assumption)]⟩)
  ·refine aU (by first | exact .inl rfl | exact .inr rfl) rfl rfl _ _ fC fB (⟨rfl, rfl, by rw [Int.sign_eq_one_of_pos (by omega)]⟩)
theorem aFI {u : Value} {z : Int} {k : Nat} (hk : k ≤ 1000000000000) (hu : jA u z k ∈ I0) : CD Tryz.prog 133 [u] X w0 M0 I0 (fun v M I => M0 = M ∧ I = jA v (-z) k :: I0) := by
 refine eU hu (fun q c e hc hz => ?_)
 subst e
 have hl := iR hz hk
 unfold iv
 refine gQ Tryz.func133 rfl Tryz.ntmps133 rfl ?_
 refine aN ?_
 refine aI ?_
 (refine mV rfl rfl rfl ?_; intro b; refine ⟨nA, ?_⟩)
 (refine aC rfl rfl ?_; intro b2; refine ⟨nA, ?_⟩)
 repeat' (first | refine aI ?_ | refine iN ?_ | refine gJ ?_ | refine fF ?_ | refine fA ?_ | refine gL ?_ | refine fO ?_ | refine fE ?_ | refine fD ?_ | refine iM ?_ | refine iJ ?_ | refine iL ?_ | refine iO rfl ?_ | refine aM ?_ | (refine aJ ?_; first | refine fQ rfl rfl rfl ?_ | (refine fP rfl rfl ?_; refine eY rfl rfl rfl nA ?_) | refine gG rfl rfl (by omega) ?_ | refine gD rfl rfl (by omega) ?_ | refine aR rfl rfl (fun h => ?_) (fun h => ?_) | (fail_if_success (refine aT rfl ?_); refine aO rfl rfl (fun h => ?_) (fun h => ?_))) | (refine bO ?_; refine aD rfl (fun _ => dC rfl) rfl rfl ?_) | refine aD rfl (fun _ => bE rfl) rfl rfl ?_ | (refine gH ?_; first | refine aD rfl (fun _ => bT rfl rfl w_) rfl rfl ?_ | refine aD rfl (fun _ => bR rfl rfl w_) rfl rfl ?_ | refine aD rfl (fun _ => dV rfl rfl w_) rfl rfl ?_ | refine aD rfl (fun _ => dS rfl rfl (by omega) q_) rfl rfl ?_ | refine aD rfl (fun _ => dP rfl rfl (by omega) rfl) rfl rfl ?_ | refine aD rfl (fun _ => dB rfl rfl) rfl rfl ?_ | refine aD rfl (fun _ => dG rfl rfl) rfl rfl ?_ | refine aD rfl (fun _ => dD rfl rfl) rfl rfl ?_) | (refine bO ?_; first | refine aD rfl (fun _ => dL rfl w_) rfl rfl ?_) | (refine fU ?_; first | refine aD rfl (fun _ => cB rfl w_) rfl rfl ?_) | (refine fK ?_; first | refine aD rfl (fun _ => bS rfl) rfl rfl ?_ | refine aD rfl (fun _ => dH rfl rfl) rfl rfl ?_ | refine aD rfl (fun _ => cZ rfl rfl) rfl rfl ?_ | refine aD rfl (fun _ => dF rfl rfl rfl) rfl rfl ?_) | (refine fT ?_; first | refine gF rfl (by decide) rfl rfl ?_ | refine gY rfl (by decide) rfl rfl ?_) | (refine fZ ?_; first | refine gZ rfl rfl fG rfl rfl ?_ | refine iB rC rfl rfl fG bB iD rfl rfl ?_ | refine gW rC rfl rfl fG bB iD rfl rfl ?_ | refine aD rfl (fun _ => bN rfl rfl fG) rfl rfl ?_) | (refine bQ ?_; first | refine gV rC rfl bB oW rfl rfl ?_ | refine iC rC rfl bB oW rfl rfl ?_ | refine iA rC rfl bB oW rfl rfl ?_ | refine fM rC rfl bB oW rfl rfl ?_ | refine lZ rC rfl bB kE iP rfl rfl ?_ | refine mE rC rfl bB kE iP rfl rfl ?_ | refine lY rC rfl bB kE iP rfl rfl ?_ | refine kP rC rfl bB kE iP rfl rfl ?_) | (refine fV ?_; first | refine aD rfl (fun _ => bM rfl rfl) rfl rfl ?_ | refine aD rfl (fun _ => bG rfl) rfl rfl ?_) | (refine jI ?_; first | refine kT rfl rfl rfl nE stC rfl rfl ⟨nA, ?_⟩ | refine iU rfl rfl iP rT nE rH rfl rfl ⟨nA, ?_⟩) | (refine aL ?_; first | refine bV rfl ?_ | refine bK rfl ?_ | refine iK rfl (by omega) ?_ | refine jN rfl (by omega) ?_ | refine aS rfl (fun h => ?_) (fun h => ?_) | refine aP rfl (fun h => ?_) (fun h => ?_)))
 (repeat refine aN ?_); refine dK 3 [0, 1, 2, 3, 4, 5, 6, 7] [3, 3, 2, 2, 0, 0, 0, 0] mixed (by kernel_rfl) ?_
 repeat (refine kU ?_)
 (refine bD rfl (jW (c := c) hz hk bB) rfl rfl ?_; rintro _ _ _ ⟨rfl, rfl, rfl⟩; refine ⟨nA, ?_⟩)
 repeat (refine kU ?_)
 (refine bD rfl (wN (a := gr z.natAbs) (by omega) hc.2 bB) rfl rfl ?_; rintro _ _ _ ⟨rfl, q', c', rfl, rfl⟩; refine ⟨nA, ?_⟩)
 refine mK (fun w hw => And.intro (hw.rowLe (List.Mem.head _)) ((hw.rowS (List.Mem.head _)).2.imp id And.right)) (fun hc' => ?_)
 refine jB uI ?_
 repeat (refine kU ?_)
 rw [← aLG z]
 (refine bD rfl (lK (p := ¬ z < 0) (k := k) (by omega) hc' hz bB) rfl rfl ?_; rintro _ _ _ ⟨rfl, rfl⟩; refine ⟨nA, ?_⟩; refine bI (List.Mem.head _) (fun q2 c2 e__ hc2 hz2 => ?_); subst e__)
 unfold iv
 repeat (refine kU ?_)
 refine bY (cs := [.bool (B (sg (¬ z < 0) z.natAbs < 0)), .slice q2 (gr (sg (¬ z < 0) z.natAbs).natAbs).length c2]) (.inl rfl) rfl rfl bB rfl _ _ fC fB ⟨rfl, rfl⟩
theorem uP {u v : Value} {y z : Int} {k m : Nat} (hk : k + m ≤ 1000000000000) (hu : jA u y k ∈ I0) (hv : jA v z m ∈ I0) : CD Tryz.prog 138 [u, v] X w0 M0 I0 (fun v M I => M0 = M ∧ I = jA v (y * z) (k + m) :: I0) := by
 refine eU hu (fun q c e hc hy => ?_)
 subst e
 refine eU (List.Mem.tail _ hv) (fun q' c' e hc' hz => ?_)
 subst e
 have hl := iR hy (by omega)
 have hl' := iR hz (by omega)
 unfold iv
 refine gQ Tryz.func138 rfl Tryz.ntmps138 rfl ?_
 refine aN ?_
 refine aI ?_
 (refine mV rfl rfl rfl ?_; intro b; refine ⟨nA, ?_⟩)
 (refine mV rfl rfl rfl ?_; intro b2; refine ⟨nA, ?_⟩)
 (refine aC rfl rfl ?_; intro b3; refine ⟨nA, ?_⟩)
 repeat' (first | refine aI ?_ | refine iN ?_ | refine gJ ?_ | refine fF ?_ | refine fA ?_ | refine gL ?_ | refine fO ?_ | refine fE ?_ | refine fD ?_ | refine iM ?_ | refine iJ ?_ | refine iL ?_ | refine iO rfl ?_ | refine aM ?_ | (refine aJ ?_; first | refine fQ rfl rfl rfl ?_ | (refine fP rfl rfl ?_; refine eY rfl rfl rfl nA ?_) | refine gG rfl rfl (by omega) ?_ | refine gD rfl rfl (by omega) ?_ | refine aR rfl rfl (fun h => ?_) (fun h => ?_) | (fail_if_success (refine aT rfl ?_); refine aO rfl rfl (fun h => ?_) (fun h => ?_))) | (refine bO ?_; refine aD rfl (fun _ => dC rfl) rfl rfl ?_) | refine aD rfl (fun _ => bE rfl) rfl rfl ?_ | (refine gH ?_; first | refine aD rfl (fun _ => bT rfl rfl w_) rfl rfl ?_ | refine aD rfl (fun _ => bR rfl rfl w_) rfl rfl ?_ | refine aD rfl (fun _ => dV rfl rfl w_) rfl rfl ?_ | refine aD rfl (fun _ => dS rfl rfl (by omega) q_) rfl rfl ?_ | refine aD rfl (fun _ => dP rfl rfl (by omega) rfl) rfl rfl ?_ | refine aD rfl (fun _ => dB rfl rfl) rfl rfl ?_ | refine aD rfl (fun _ => dG rfl rfl) rfl rfl ?_ | refine aD rfl (fun _ => dD rfl rfl) rfl rfl ?_) | (refine bO ?_; first | refine aD rfl (fun _ => dL rfl w_) rfl rfl ?_) | (refine fU ?_; first | refine aD rfl (fun _ => cB rfl w_) rfl rfl ?_) | (refine fK ?_; first | refine aD rfl (fun _ => bS rfl) rfl rfl ?_ | refine aD rfl (fun _ => dH rfl rfl) rfl rfl ?_ | refine aD rfl (fun _ => cZ rfl rfl) rfl rfl ?_ | refine aD rfl (fun _ => dF rfl rfl rfl) rfl rfl ?_) | (refine fT ?_; first | refine gF rfl (by decide) rfl rfl ?_ | refine gY rfl (by decide) rfl rfl ?_) | (refine fZ ?_; first | refine gZ rfl rfl fG rfl rfl ?_ | refine iB rC rfl rfl fG bB iD rfl rfl ?_ | refine gW rC rfl rfl fG bB iD rfl rfl ?_ | refine aD rfl (fun _ => bN rfl rfl fG) rfl rfl ?_) | (refine bQ ?_; first | refine gV rC rfl bB oW rfl rfl ?_ | refine iC rC rfl bB oW rfl rfl ?_ | refine iA rC rfl bB oW rfl rfl ?_ | refine fM rC rfl bB oW rfl rfl ?_ | refine lZ rC rfl bB kE iP rfl rfl ?_ | refine mE rC rfl bB kE iP rfl rfl ?_ | refine lY rC rfl bB kE iP rfl rfl ?_ | refine kP rC rfl bB kE iP rfl rfl ?_) | (refine fV ?_; first | refine aD rfl (fun _ => bM rfl rfl) rfl rfl ?_ | refine aD rfl (fun _ => bG rfl) rfl rfl ?_) | (refine jI ?_; first | refine kT rfl rfl rfl nE stC rfl rfl ⟨nA, ?_⟩ | refine iU rfl rfl iP rT nE rH rfl rfl ⟨nA, ?_⟩) | (refine aL ?_; first | refine bV rfl ?_ | refine bK rfl ?_ | refine iK rfl (by omega) ?_ | refine jN rfl (by omega) ?_ | refine aS rfl (fun h => ?_) (fun h => ?_) | refine aP rfl (fun h => ?_) (fun h => ?_)))
 (repeat refine aN ?_); refine dK 4 [0, 1, 2, 3, 4, 5, 7, 6, 8, 9, 10, 11] [4, 4, 4, 4, 3, 3, 3, 0, 0, 0, 0, 0] mixed (by kernel_rfl) ?_
 repeat (refine kU ?_)
 (refine bD rfl (jW (c := c) hy (by omega) bB) rfl rfl ?_; rintro _ _ _ ⟨rfl, rfl, rfl⟩; refine ⟨nA, ?_⟩)
 repeat (refine kU ?_)
 (refine bD rfl (jW (c := c') hz (by omega) bB) rfl rfl ?_; rintro _ _ _ ⟨rfl, rfl, rfl⟩; refine ⟨nA, ?_⟩)
 repeat (refine kU ?_)
 (refine bD rfl (aLY (by omega) (by omega) bB bB) rfl rfl ?_; rintro _ _ _ ⟨rfl, q3, c3, rfl, hc3, rfl⟩; refine ⟨nA, ?_⟩)
 have hyz : y.natAbs * z.natAbs ≤ 2 ^ (k + m) := xI hy hz
 have hl3 := iR hyz (by omega)
 have hsg : sg (¬ (y < 0 ↔ z < 0)) (y.natAbs * z.natAbs) = y * z := by
  unfold sg
  rw [Int.natCast_mul]
  by_cases h1 : y < 0 <;> by_cases h2 : z < 0 <;> simp only [h1, h2, not_true_eq_false, not_false_eq_true, iff_true, iff_false, if_true, if_false]
  ·rw [show (y.natAbs : Int) = -y by omega, show (z.natAbs : Int) = -z by omega, Int.neg_mul_neg]
  ·rw [show (y.natAbs : Int) = -y by omega, show (z.natAbs : Int) = z by omega, Int.neg_mul, Int.neg_neg]
  ·rw [show (y.natAbs : Int) = y by omega, show (z.natAbs : Int) = -z by omega, Int.mul_neg, Int.neg_neg]
  ·rw [show (y.natAbs : Int) = y by omega, show (z.natAbs : Int) = z by omega]
 rw [← hsg]
 (refine bD rfl (lK (p := ¬ (y < 0 ↔ z < 0)) (k := k + m) (by omega) hc3 hyz bB) rfl rfl ?_; rintro _ _ _ ⟨rfl, rfl⟩; refine ⟨nA, ?_⟩; refine bI (List.Mem.head _) (fun q2 c2 e__ hc2 hz2 => ?_); subst e__)
 unfold iv
 repeat (refine kU ?_)
 refine bY (cs := [.bool (B (sg (¬ (y < 0 ↔ z < 0)) (y.natAbs * z.natAbs) < 0)), .slice q2 (gr (sg (¬ (y < 0 ↔ z < 0)) (y.natAbs * z.natAbs)).natAbs).length c2]) (.inl rfl) rfl rfl bB rfl _ _ fC fB ⟨rfl, rfl⟩
end
end Go.Proofs.YtgeagiikkeiioaaGreat

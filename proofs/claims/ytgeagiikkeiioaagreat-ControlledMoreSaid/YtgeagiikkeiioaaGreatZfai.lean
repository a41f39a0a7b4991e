/- integer: the numbers: made, Valid, groups, Sign, Neg, Mul -/
import Derived.Test.YtgeagiikkeiioaaGreatZfah
import Derived.Test.YtgeagiikkeiioaaGreatZfag
set_option linter.unusedSimpArgs false
set_option linter.unusedVariables false
set_option maxRecDepth 100000
set_option maxHeartbeats 4000000
namespace Go.Proofs.YtgeagiikkeiioaaGreat
open Go Go.Fx
def iv (q : Option Addr) (c : Nat) (z : Int) : Value := .agg #[.bool (B (z < 0)), .slice q (gr z.natAbs).length c]
abbrev pK (q : Option Addr) (n c : Nat) : Prop := (gr n).length ≤ c ∧ (Ok q ∨ ((gr n).length = 0 ∧ c = 0))
structure IsI (u : Value) (z : Int) (k : Nat) (X : List Nat) (w : World) : Prop where
 ex : ∃ q c, u = iv q c z ∧ pK q z.natAbs c ∧ z.natAbs ≤ 2 ^ k ∧ Sl X w q (recs eG (gr z.natAbs))
abbrev iK (u : Value) (z : Int) (k : Nat) : bA := IsI u z k
instance (u : Value) (z : Int) (k : Nat) : Fx.Good (IsI u z k) := ⟨fun X Y w w' h he hY => by
 obtain ⟨q, c, h1, h2, h3, h4⟩ := h.ex
 exact ⟨q, c, h1, h2, h3, Sl.carry h4 he hY⟩⟩
def sg (p : Prop) [Decidable p] (n : Nat) : Int := if p then -(n : Int) else n
theorem aMI (p : Prop) [Decidable p] (n : Nat) : (sg p n).natAbs = n := by unfold sg; split <;> omega
theorem oU (z : Int) : sg (z < 0) z.natAbs = z := by unfold sg; split <;> omega
theorem aNE (z : Int) : sg (¬ z < 0) z.natAbs = -z := by unfold sg; split <;> omega
theorem sg_lt {p : Prop} [Decidable p] {n : Nat} (h : n ≠ 0) : sg p n < 0 ↔ p := by unfold sg; split <;> simp_all <;> omega
section
variable {P : Program} {n : Nat} {Q : Exit → Act → World → Prop} {G : Env} {X : List Nat} {w0 : World} {M M' : List Ent} {I I' : List bA}
theorem dX {f : FuncId} {vs : List Value} {K : Value → List Ent → List bA → Prop} {u : Value} {z : Int} {k : Nat} (hu : iK u z k ∈ I)
  (h : ∀ q c, u = iv q c z → pK q z.natAbs c → z.natAbs ≤ 2 ^ k → CD P f vs X w0 M (aX q (recs eG (gr z.natAbs)) :: I) K) : CD P f vs X w0 M I K :=
 ⟨fun w hw => by
  obtain ⟨q, c, h1, h2, h3, h4⟩ := ((hw.imm _ hu).2).ex
  exact (h q c h1 h2 h3).go w (hw.add (φ := aX q _) ⟨h4⟩)⟩
theorem aGG {w : World} {q : Option Addr} {c : Nat} {z : Int} {k : Nat} (hw : Mem X w0 M I w) (hm : aX q (recs eG (gr z.natAbs)) ∈ I) (hc : pK q z.natAbs c) (hk : z.natAbs ≤ 2 ^ k) : Mem X w0 M (iK (iv q c z) z k :: I) w :=
 hw.add (φ := iK _ z k) ⟨q, c, rfl, hc, hk, hw.sl hm⟩
theorem aBS {ex : Exit} {q : Option Addr} {c : Nat} {z : Int} {k : Nat} (hm : aX q (recs eG (gr z.natAbs)) ∈ I) (hc : pK q z.natAbs c) (hk : z.natAbs ≤ 2 ^ k) (h : ND n Q ex G X w0 M (iK (iv q c z) z k :: I)) : ND n Q ex G X w0 M I := wT (fun _ hw => aGG hw hm hc hk) h
theorem bL {ops l : List Oper} {m : Fx.Mode} {u : Value} {z : Int} {k : Nat} (hu : iK u z k ∈ I)
  (h : ∀ q c, u = iv q c z → pK q z.natAbs c → z.natAbs ≤ 2 ^ k → RD P n ops Q m l G X w0 M (aX q (recs eG (gr z.natAbs)) :: I)) : RD P n ops Q m l G X w0 M I :=
 ⟨fun w hw => by
  obtain ⟨q, c, h1, h2, h3, h4⟩ := ((hw.imm _ hu).2).ex
  exact (h q c h1 h2 h3).go w (hw.add (φ := aX q _) ⟨h4⟩)⟩
theorem IsI.mono {u : Value} {z : Int} {k m : Nat} {X : List Nat} {w : World} (h : IsI u z k X w) (hk : k ≤ m) : IsI u z m X w := by
 obtain ⟨q, c, h1, h2, h3, h4⟩ := h.ex
 exact ⟨q, c, h1, h2, Nat.le_trans h3 (Nat.pow_le_pow_right (by decide) hk), h4⟩
end
theorem gV {n k : Nat} (h : n ≤ 2 ^ k) (hk : k ≤ 1000000000000) : (gr n).length ≤ 40000000000 := by
 have := eX h
 omega
/- ---------- IndexFunc, ContainsFunc of []uint32 ---------- -/
section
variable {X : List Nat} {w0 : World} {M0 : List Ent} {I0 : List bA}
theorem aNX {q : Option Addr} {a : List Int} {c : Nat} {g : FuncId} [FnOk Tryz.prog g] {fs cs : Array Value} (pr : Int → Prop) [DecidablePred pr] (hn : (a.length : Int) ≤ 9223372036854775807) (ha : aX q (recs eG a) ∈ I0)
  (hg : ∀ i : Nat, i < a.length → CD Tryz.prog g (fs.toList ++ [Value.int .u32 (gt a i)] ++ cs.toList) X w0 M0 I0 (fun v M I => M0 = M ∧ I0 = I ∧ v = .bool (B (pr (gt a i))))) :
  CD Tryz.prog 225 [.slice q a.length c, .func (.func g) fs cs] X w0 M0 I0 (fun v M I => M0 = M ∧ I0 = I ∧ ∃ r : Int, v = .int .i64 r ∧ ((∃ i : Nat, i < a.length ∧ r = i ∧ pr (gt a i) ∧ ∀ j : Nat, j < i → ¬ pr (gt a j)) ∨ (r = -1 ∧ ∀ j : Nat, j < a.length → ¬ pr (gt a j)))) := by
 refine eO Tryz.func225 rfl Tryz.ntmps225 rfl ?_
 repeat (refine kD ?_)
 refine aW [0, 1, 7] rfl (fun k G M I => ∃ i : Nat, i ≤ a.length ∧ k = a.length - i ∧ (∀ j : Nat, j < i → ¬ pr (gt a j)) ∧ G = [(8, .int .i64 i)] ∧ M = M0 ∧ I = I0) (a.length) _ _ _ aP dE dD (⟨0, by omega, rfl, fun j hj => by omega, rfl, rfl, rfl⟩) ?_
 rintro k G M I ⟨i, hi, rfl, hs, rfl, rfl, rfl⟩
 repeat' (first | refine kD ?_ | refine aR rfl (fun h => ?_) (fun h => ?_) | refine aQ rfl rfl (fun h => ?_) (fun h => ?_) | fail)
 ·have hlt : i < a.length := by omega
  (refine aEP rfl rfl (hg i hlt) rfl rfl rfl ?_; rintro _ _ _ ⟨rfl, rfl, rfl⟩; refine ⟨mI, ?_⟩)
  repeat' (first | refine kD ?_ | refine aR rfl (fun h => ?_) (fun h => ?_) | refine aQ rfl rfl (fun h => ?_) (fun h => ?_) | fail)
  ·refine aH (by first | exact .inl rfl | exact .inr rfl) rfl rfl _ _ dE dD (⟨rfl, rfl, _, rfl, .inl ⟨i, hlt, rfl, by assumption, hs⟩⟩)
  ·refine aN (a.length - (i + 1)) _ _ _ (by first | omega | (simp only [List.length_append, List.length_cons, List.length_nil]; omega)) aP dE dD (⟨i + 1, by omega, rfl, fun j hj => ?_, rfl, rfl, rfl⟩)
   by_cases e : j = i
   ·subst e; assumption
   ·exact hs j (by omega)
 ·refine aH (by first | exact .inl rfl | exact .inr rfl) rfl rfl _ _ dE dD (⟨rfl, rfl, _, rfl, .inr ⟨rfl, fun j hj => hs j (by omega)⟩⟩)
theorem aOA {q : Option Addr} {a : List Int} {c : Nat} {g : FuncId} [FnOk Tryz.prog g] {fs cs : Array Value} (pr : Int → Prop) [DecidablePred pr] (hn : (a.length : Int) ≤ 9223372036854775807) (ha : aX q (recs eG a) ∈ I0)
  (hg : ∀ i : Nat, i < a.length → CD Tryz.prog g (fs.toList ++ [Value.int .u32 (gt a i)] ++ cs.toList) X w0 M0 I0 (fun v M I => M0 = M ∧ I0 = I ∧ v = .bool (B (pr (gt a i))))) :
  CD Tryz.prog 203 [.slice q a.length c, .func (.func g) fs cs] X w0 M0 I0 (fun v M I => M0 = M ∧ I0 = I ∧ v = .bool (B (∃ x ∈ a, pr x))) := by
 refine eO Tryz.func203 rfl Tryz.ntmps203 rfl ?_
 repeat (refine kD ?_)
 (refine aU rfl (aNX pr hn ha hg) rfl rfl ?_; rintro _ _ _ ⟨rfl, rfl, r, rfl, h⟩; refine ⟨mI, ?_⟩)
 repeat (refine kD ?_)
 refine aH (by first | exact .inl rfl | exact .inr rfl) rfl rfl _ _ dE dD (⟨rfl, rfl, congrArg Value.bool (jH ?_)⟩)
 rcases h with ⟨i, hi, rfl, hp, _⟩ | ⟨rfl, h⟩
 ·exact ⟨fun _ => ⟨gt a i, by rw [iU hi]; exact List.getElem_mem hi, hp⟩, fun _ => by omega⟩
 ·refine ⟨fun h => by omega, ?_⟩
  rintro ⟨x, hx, hp⟩
  obtain ⟨j, hj, rfl⟩ := List.mem_iff_getElem.1 hx
  exact absurd (by rw [iU hj]; exact hp) (h j hj)
end
/- ---------- Clone of []uint32 ---------- -/
section
variable {X : List Nat} {w0 : World} {M0 : List Ent} {I0 : List bA}
theorem wJ {q : Option Addr} {a : List Int} {c : Nat} (hn : (a.length : Int) * 4 ≤ 140737488355328) (hok : Ok q ∨ (a.length = 0 ∧ c = 0)) (ha : aX q (recs eG a) ∈ I0) :
  CD Tryz.prog 175 [.slice q a.length c] X w0 M0 I0 (fun v M I => I0 = I ∧ ∃ q' c', v = .slice q' a.length c' ∧ M = .row q' a.length c' (recs eG a) 155 1 :: M0) := by
 refine eO Tryz.func175 rfl Tryz.ntmps175 rfl ?_
 repeat (refine kD ?_)
 refine aF rfl (fun _ => sU rfl) rfl rfl ?_
 cases q with
 | some ad =>
  repeat (refine kD ?_)
  (refine aK (cs := recs eG []) ([]) rfl rfl (by intro v hv; repeat (first | exact absurd hv (List.not_mem_nil) | (rcases List.mem_cons.1 hv with rfl | hv; · rfl))) (by omega) rfl rfl rfl ?_; intro b1; refine ⟨mI, ?_⟩)
  repeat (refine kD ?_)
  refine oI (mm := 0) 1 mP rfl (by omega) ?_
  refine aM (xs := []) (ys := a) 0 rfl rfl rfl (Src.imm aS hok) (by decide) rfl (by simp; omega) (by simp; omega) rfl rfl ?_
  intro a2 c2
  refine ⟨mI, ?_⟩
  repeat (refine kD ?_)
  refine aH (by first | exact .inl rfl | exact .inr rfl) rfl rfl _ _ dE dD (⟨rfl, a2, c2, by simp, by simp⟩)
 | none =>
  obtain ⟨h0, rfl⟩ : a.length = 0 ∧ c = 0 := hok.resolve_left (fun h => by obtain ⟨b, o, e⟩ := h.cases; cases e)
  have hnil : a = [] := List.eq_nil_of_length_eq_zero h0
  subst hnil
  repeat (refine kD ?_)
  refine aDE 155 1 ?_
  refine aH (by first | exact .inl rfl | exact .inr rfl) rfl rfl _ _ dE dD (⟨rfl, none, 0, rfl, rfl⟩)
end
section
variable {X : List Nat} {w0 : World} {M0 : List Ent} {I0 : List bA}
theorem kM {p : Prop} [Decidable p] {q : Option Addr} {n c k : Nat} (hl : (gr n).length ≤ 100000000000) (hc : pK q n c) (hk : n ≤ 2 ^ k) (hq : aX q (recs eG (gr n)) ∈ I0) :
  CD Tryz.prog 172 [.bool (B p), .slice q (gr n).length c] X w0 M0 I0 (fun v M I => M0 = M ∧ I = iK v (sg p n) k :: I0) := by
 refine eO Tryz.func172 rfl Tryz.ntmps172 rfl ?_
 refine aL ?_
 refine aI ?_
 (refine aO rfl rfl ?_; intro b; refine ⟨mI, ?_⟩)
 repeat (refine kD ?_)
 (refine aU rfl (pF (l := gr n) rfl (by omega) hc.1 hq) rfl rfl ?_; rintro _ _ _ ⟨rfl, rfl, rfl⟩; refine ⟨mI, ?_⟩)
 rw [zB (zY n)]
 by_cases h0 : (gr n).length = 0
 ·have hn : n = 0 := oO.1 (List.eq_nil_of_length_eq_zero h0)
  subst hn
  repeat (refine kD ?_)
  (refine aF rfl (fun _ => eT (pvs := ([]).zipIdx.map (fun p => (p.2, p.1))) (cells := [.bool false, .slice none 0 0]) rfl rfl) rfl rfl ?_)
  repeat (refine kD ?_)
  have hz : sg p 0 = 0 := by unfold sg; split <;> rfl
  rw [hz]
  have hg0 : gr (0 : Int).natAbs = [] := fO
  refine aCG none ?_
  refine aBS (q := none) (c := 0) (z := 0) (k := k) (by rw [hg0]; exact aS) ⟨by rw [hg0]; simp, .inr ⟨by rw [hg0]; rfl, rfl⟩⟩ (by simp) ?_
  have hiv : iv none 0 0 = .agg #[.bool false, .slice none 0 0] := by unfold iv; rw [hg0, aY (by omega)]; rfl
  rw [hiv]
  refine bN (cs := [.bool false, .slice none 0 0]) (.inl rfl) rfl rfl aS rfl _ _ dE dD ⟨rfl, rfl⟩
 ·have hn : n ≠ 0 := fun e => h0 (by rw [e, fO]; rfl)
  repeat (refine kD ?_)
  (refine aF rfl (fun _ => eT (pvs := ([.bool (B p), .slice q (gr n).length c]).zipIdx.map (fun p => (p.2, p.1))) (cells := [.bool (B p), .slice q (gr n).length c]) rfl rfl) rfl rfl ?_)
  repeat (refine kD ?_)
  have ha := aMI p n
  refine aBS (q := q) (c := c) (z := sg p n) (k := k) (by rw [ha]; exact aS) (by rw [ha]; exact hc) (by rw [ha]; exact hk) ?_
  have hiv : iv q c (sg p n) = .agg #[.bool (B p), .slice q (gr n).length c] := by unfold iv; rw [ha, jH (sg_lt hn)]
  rw [hiv]
  refine bN (cs := [.bool (B p), .slice q (gr n).length c]) (.inl rfl) rfl rfl aS rfl _ _ dE dD ⟨rfl, rfl⟩
theorem aNY {x : Int} : CD Tryz.prog 204 [.int .u32 x] X w0 M0 I0 (fun v M I => M0 = M ∧ I0 = I ∧ v = .bool (B (1000000000 ≤ x))) := by
 refine eO Tryz.func204 rfl Tryz.ntmps204 rfl ?_
 repeat (refine kD ?_)
 refine aH (by first | exact .inl rfl | exact .inr rfl) rfl rfl _ _ dE dD (⟨rfl, rfl, rfl⟩)
def pM (neg : Bool) (gs : List Int) : Prop := (gs = [] ∧ neg = false) ∨ (gs ≠ [] ∧ Top gs ∧ ¬ ∃ x ∈ gs, 1000000000 ≤ x)
instance (neg : Bool) (gs : List Int) : Decidable (pM neg gs) := by unfold pM; exact inferInstance
theorem yB {gs : List Int} (h : 0 < gs.length) : gs.getLastD 1 = gt gs ((gs.length : Int) - 1) := by
 rcases List.eq_nil_or_concat gs with rfl | ⟨r, x, e⟩
 ·simp at h
 ·rw [List.concat_eq_append] at e
  subst e
  have e1 : (((r ++ [x]).length : Int) - 1) = ((r.length : Nat) : Int) := by simp
  rw [e1, uX]
  simp
theorem rY {neg : Bool} {q : Option Addr} {gs : List Int} {c : Nat} (hn : (gs.length : Int) ≤ 9223372036854775807) (hq : aX q (recs eG gs) ∈ I0) :
  CD Tryz.prog 170 [.agg #[.bool neg, .slice q gs.length c]] X w0 M0 I0 (fun v M I => M0 = M ∧ I0 = I ∧ v = .bool (B (pM neg gs))) := by
 refine eO Tryz.func170 rfl Tryz.ntmps170 rfl ?_
 refine aL ?_
 refine aI ?_
 (refine mE rfl rfl rfl ?_; intro b; refine ⟨mI, ?_⟩)
 by_cases h0 : gs.length = 0
 ·have hg : gs = [] := List.eq_nil_of_length_eq_zero h0
  subst hg
  repeat (refine kD ?_)
  refine aH (by first | exact .inl rfl | exact .inr rfl) rfl rfl _ _ dE dD (⟨rfl, rfl, by rw [show (!neg) = B (pM neg []) by rw [qK]; cases neg <;> simp [pM]]⟩)
 ·have hgs : gs ≠ [] := fun e => h0 (by rw [e]; rfl)
  have hlast := yB (gs := gs) (by omega)
  repeat' (first | refine kD ?_ | refine aR rfl (fun h => ?_) (fun h => ?_) | refine aQ rfl rfl (fun h => ?_) (fun h => ?_) | fail)
  ·(refine aU rfl (aOA (fun x => 1000000000 ≤ x) hn hq (fun i hi => aNY)) rfl rfl ?_; rintro _ _ _ ⟨rfl, rfl, rfl⟩; refine ⟨mI, ?_⟩)
   repeat (refine kD ?_)
   refine aH (by first | exact .inl rfl | exact .inr rfl) rfl rfl _ _ dE dD (⟨rfl, rfl, congrArg Value.bool (jH ?_)⟩)
   unfold pM Top
   rw [hlast]
   exact ⟨fun h => .inr ⟨hgs, by assumption, h⟩, fun h => h.elim (fun h => absurd h.1 hgs) (fun h => h.2.2)⟩
  ·refine aH (by first | exact .inl rfl | exact .inr rfl) rfl rfl _ _ dE dD (⟨rfl, rfl, congrArg Value.bool (aY ?_).symm⟩)
   unfold pM Top
   rw [hlast]
   rintro (h | h)
   ·exact hgs h.1
   ·exact absurd h.2.1 (by assumption)
theorem xD (z : Int) : pM (B (z < 0)) (gr z.natAbs) := by
 by_cases h : z.natAbs = 0
 ·refine .inl ⟨by rw [h, fO], aY (by omega)⟩
 ·refine .inr ⟨fun e => h (oO.1 e), zY _, ?_⟩
  rintro ⟨x, hx, h1⟩
  have := bW z.natAbs x hx
  omega
theorem iZ {q : Option Addr} {c k : Nat} {z : Int} (hz : z.natAbs ≤ 2 ^ k) (hk : k ≤ 1000000000000) (hq : aX q (recs eG (gr z.natAbs)) ∈ I0) :
  CD Tryz.prog 176 [iv q c z] X w0 M0 I0 (fun v M I => M0 = M ∧ I0 = I ∧ v = .slice q (gr z.natAbs).length c) := by
 have hl := gV hz hk
 unfold iv
 refine eO Tryz.func176 rfl Tryz.ntmps176 rfl ?_
 refine aL ?_
 refine aI ?_
 (refine mE rfl rfl rfl ?_; intro b; refine ⟨mI, ?_⟩)
 repeat (refine kD ?_)
 (refine aU rfl (rY (neg := B (z < 0)) (gs := gr z.natAbs) (by omega) hq) rfl rfl ?_; rintro _ _ _ ⟨rfl, rfl, rfl⟩; refine ⟨mI, ?_⟩)
 rw [bO (xD z)]
 repeat (refine kD ?_)
 refine aH (by first | exact .inl rfl | exact .inr rfl) rfl rfl _ _ dE dD (⟨rfl, rfl, rfl⟩)
theorem rF {u : Value} {z : Int} {k : Nat} (hk : k ≤ 1000000000000) (hu : iK u z k ∈ I0) : CD Tryz.prog 136 [u] X w0 M0 I0 (fun v M I => M0 = M ∧ I0 = I ∧ v = .int .i64 z.sign) := by
 refine dX hu (fun q c e hc hz => ?_)
 subst e
 unfold iv
 refine eO Tryz.func136 rfl Tryz.ntmps136 rfl ?_
 refine aL ?_
 refine aI ?_
 (refine mE rfl rfl rfl ?_; intro b; refine ⟨mI, ?_⟩)
 repeat (refine kD ?_)
 (refine aU rfl (iZ (c := c) hz hk aS) rfl rfl ?_; rintro _ _ _ ⟨rfl, rfl, rfl⟩; refine ⟨mI, ?_⟩)
 have hnil : (gr z.natAbs).length = 0 ↔ z = 0 := by
  rw [List.length_eq_zero_iff, oO]; omega
 by_cases h0 : z = 0
 ·have := hnil.2 h0
  repeat (refine kD ?_)
  refine aH (by first | exact .inl rfl | exact .inr rfl) rfl rfl _ _ dE dD (⟨rfl, rfl, by rw [h0]; rfl⟩)
 ·have : ¬ (gr z.natAbs).length = 0 := fun h => h0 (hnil.1 h)
  repeat' (first | refine kD ?_ | refine aR rfl (fun h => ?_) (fun h => ?_) | refine aQ rfl rfl (fun h => ?_) (fun h => ?_) | fail)
  ·refine aH (by first | exact .inl rfl | exact .inr rfl) rfl rfl _ _ dE dD (⟨rfl, rfl, by rw [Int.sign_eq_neg_one_of_neg (by assumption)]⟩)
  ·refine aH (by first | exact .inl rfl | exact .inr rfl) rfl rfl _ _ dE dD (⟨rfl, rfl, by rw [Int.sign_eq_one_of_pos (by omega)]⟩)
theorem aFM {u : Value} {z : Int} {k : Nat} (hk : k ≤ 1000000000000) (hu : iK u z k ∈ I0) : CD Tryz.prog 133 [u] X w0 M0 I0 (fun v M I => M0 = M ∧ I = iK v (-z) k :: I0) := by
 refine dX hu (fun q c e hc hz => ?_)
 subst e
 have hl := gV hz hk
 unfold iv
 refine eO Tryz.func133 rfl Tryz.ntmps133 rfl ?_
 refine aL ?_
 refine aI ?_
 (refine mE rfl rfl rfl ?_; intro b; refine ⟨mI, ?_⟩)
 (refine aO rfl rfl ?_; intro b2; refine ⟨mI, ?_⟩)
 repeat' (first | refine aI ?_ | refine jP ?_ | refine gX ?_ | refine fH ?_ | refine fB ?_ | refine iA ?_ | refine gU ?_ | refine fG ?_ | refine fJ ?_ | refine jR ?_ | refine jQ ?_ | refine jO ?_ | refine jM rfl ?_ | refine aT ?_ | (refine gM ?_; first | refine fU rfl rfl rfl ?_ | (refine gH rfl rfl ?_; refine eU rfl rfl rfl mI ?_) | refine gJ rfl rfl (by omega) ?_ | refine gD rfl rfl (by omega) ?_ | refine pJ rfl rfl (fun h => ?_) (fun h => ?_) | (fail_if_success (refine sS rfl ?_); refine nW rfl rfl (fun h => ?_) (fun h => ?_))) | (refine bV ?_; refine aF rfl (fun _ => dF rfl) rfl rfl ?_) | refine aF rfl (fun _ => bE rfl) rfl rfl ?_ | (refine gK ?_; first | refine aF rfl (fun _ => bJ rfl rfl w_) rfl rfl ?_ | refine aF rfl (fun _ => bK rfl rfl w_) rfl rfl ?_ | refine aF rfl (fun _ => dZ rfl rfl w_) rfl rfl ?_ | refine aF rfl (fun _ => eD rfl rfl (by omega) q_) rfl rfl ?_ | refine aF rfl (fun _ => dY rfl rfl (by omega) rfl) rfl rfl ?_ | refine aF rfl (fun _ => dG rfl rfl) rfl rfl ?_ | refine aF rfl (fun _ => dH rfl rfl) rfl rfl ?_ | refine aF rfl (fun _ => dK rfl rfl) rfl rfl ?_) | (refine bV ?_; first | refine aF rfl (fun _ => dS rfl w_) rfl rfl ?_) | (refine gN ?_; first | refine aF rfl (fun _ => cZ rfl w_) rfl rfl ?_) | (refine gF ?_; first | refine aF rfl (fun _ => bI rfl) rfl rfl ?_ | refine aF rfl (fun _ => dL rfl rfl) rfl rfl ?_ | refine aF rfl (fun _ => dJ rfl rfl) rfl rfl ?_ | refine aF rfl (fun _ => dI rfl rfl rfl) rfl rfl ?_) | (refine fT ?_; first | refine gG rfl (by decide) rfl rfl ?_ | refine iT rfl (by decide) rfl rfl ?_) | (refine fV ?_; first | refine iQ rfl rfl iE rfl rfl ?_ | refine iW qW rfl rfl iE aS jE rfl rfl ?_ | refine iX qW rfl rfl iE aS jE rfl rfl ?_ | refine aF rfl (fun _ => bR rfl rfl iE) rfl rfl ?_) | (refine fZ ?_; first | refine iP qW rfl aS oP rfl rfl ?_ | refine iY qW rfl aS oP rfl rfl ?_ | refine iR qW rfl aS oP rfl rfl ?_ | refine gL qW rfl aS oP rfl rfl ?_ | refine lL qW rfl aS jB fI rfl rfl ?_ | refine lJ qW rfl aS jB fI rfl rfl ?_ | refine lH qW rfl aS jB fI rfl rfl ?_ | refine jY qW rfl aS jB fI rfl rfl ?_) | (refine gI ?_; first | refine aF rfl (fun _ => bS rfl rfl) rfl rfl ?_ | refine aF rfl (fun _ => bG rfl) rfl rfl ?_) | (refine iO ?_; first | refine kU rfl rfl rfl mP stC rfl rfl ⟨mI, ?_⟩ | refine iB rfl rfl fI rP mP rQ rfl rfl ⟨mI, ?_⟩) | (refine gY ?_; first | refine bZ rfl ?_ | refine bQ rfl ?_ | refine jL rfl (by omega) ?_ | refine lM rfl (by omega) ?_ | refine sP rfl (fun h => ?_) (fun h => ?_) | refine nU rfl (fun h => ?_) (fun h => ?_)))
 (repeat refine aL ?_); refine dM 3 [0, 1, 2, 3, 4, 5, 6, 7] [3, 3, 2, 2, 0, 0, 0, 0] mixed (by kernel_rfl) ?_
 repeat (refine kD ?_)
 (refine aU rfl (iZ (c := c) hz hk aS) rfl rfl ?_; rintro _ _ _ ⟨rfl, rfl, rfl⟩; refine ⟨mI, ?_⟩)
 repeat (refine kD ?_)
 (refine aU rfl (wJ (a := gr z.natAbs) (by omega) hc.2 aS) rfl rfl ?_; rintro _ _ _ ⟨rfl, q', c', rfl, rfl⟩; refine ⟨mI, ?_⟩)
 refine nX (fun w hw => And.intro (hw.rowLe (List.Mem.head _)) ((hw.rowS (List.Mem.head _)).2.imp id And.right)) (fun hc' => ?_)
 refine gP uS ?_
 repeat (refine kD ?_)
 rw [← aNE z]
 (refine aU rfl (kM (p := ¬ z < 0) (k := k) (by omega) hc' hz aS) rfl rfl ?_; rintro _ _ _ ⟨rfl, rfl⟩; refine ⟨mI, ?_⟩; refine bL (List.Mem.head _) (fun q2 c2 e__ hc2 hz2 => ?_); subst e__)
 unfold iv
 repeat (refine kD ?_)
 refine bN (cs := [.bool (B (sg (¬ z < 0) z.natAbs < 0)), .slice q2 (gr (sg (¬ z < 0) z.natAbs).natAbs).length c2]) (.inl rfl) rfl rfl aS rfl _ _ dE dD ⟨rfl, rfl⟩
theorem rD {u v : Value} {y z : Int} {k m : Nat} (hk : k + m ≤ 1000000000000) (hu : iK u y k ∈ I0) (hv : iK v z m ∈ I0) : CD Tryz.prog 138 [u, v] X w0 M0 I0 (fun v M I => M0 = M ∧ I = iK v (y * z) (k + m) :: I0) := by
 refine dX hu (fun q c e hc hy => ?_)
 subst e
 refine dX (List.Mem.tail _ hv) (fun q' c' e hc' hz => ?_)
 subst e
 have hl := gV hy (by omega)
 have hl' := gV hz (by omega)
 unfold iv
 refine eO Tryz.func138 rfl Tryz.ntmps138 rfl ?_
 refine aL ?_
 refine aI ?_
 (refine mE rfl rfl rfl ?_; intro b; refine ⟨mI, ?_⟩)
 (refine mE rfl rfl rfl ?_; intro b2; refine ⟨mI, ?_⟩)
 (refine aO rfl rfl ?_; intro b3; refine ⟨mI, ?_⟩)
 repeat' (first | refine aI ?_ | refine jP ?_ | refine gX ?_ | refine fH ?_ | refine fB ?_ | refine iA ?_ | refine gU ?_ | refine fG ?_ | refine fJ ?_ | refine jR ?_ | refine jQ ?_ | refine jO ?_ | refine jM rfl ?_ | refine aT ?_ | (refine gM ?_; first | refine fU rfl rfl rfl ?_ | (refine gH rfl rfl ?_; refine eU rfl rfl rfl mI ?_) | refine gJ rfl rfl (by omega) ?_ | refine gD rfl rfl (by omega) ?_ | refine pJ rfl rfl (fun h => ?_) (fun h => ?_) | (fail_if_success (refine sS rfl ?_); refine nW rfl rfl (fun h => ?_) (fun h => ?_))) | (refine bV ?_; refine aF rfl (fun _ => dF rfl) rfl rfl ?_) | refine aF rfl (fun _ => bE rfl) rfl rfl ?_ | (refine gK ?_; first | refine aF rfl (fun _ => bJ rfl rfl w_) rfl rfl ?_ | refine aF rfl (fun _ => bK rfl rfl w_) rfl rfl ?_ | refine aF rfl (fun _ => dZ rfl rfl w_) rfl rfl ?_ | refine aF rfl (fun _ => eD rfl rfl (by omega) q_) rfl rfl ?_ | refine aF rfl (fun _ => dY rfl rfl (by omega) rfl) rfl rfl ?_ | refine aF rfl (fun _ => dG rfl rfl) rfl rfl ?_ | refine aF rfl (fun _ => dH rfl rfl) rfl rfl ?_ | refine aF rfl (fun _ => dK rfl rfl) rfl rfl ?_) | (refine bV ?_; first | refine aF rfl (fun _ => dS rfl w_) rfl rfl ?_) | (refine gN ?_; first | refine aF rfl (fun _ => cZ rfl w_) rfl rfl ?_) | (refine gF ?_; first | refine aF rfl (fun _ => bI rfl) rfl rfl ?_ | refine aF rfl (fun _ => dL rfl rfl) rfl rfl ?_ | refine aF rfl (fun _ => dJ rfl rfl) rfl rfl ?_ | refine aF rfl (fun _ => dI rfl rfl rfl) rfl rfl ?_) | (refine fT ?_; first | refine gG rfl (by decide) rfl rfl ?_ | refine iT rfl (by decide) rfl rfl ?_) | (refine fV ?_; first | refine iQ rfl rfl iE rfl rfl ?_ | refine iW qW rfl rfl iE aS jE rfl rfl ?_ | refine iX qW rfl rfl iE aS jE rfl rfl ?_ | refine aF rfl (fun _ => bR rfl rfl iE) rfl rfl ?_) | (refine fZ ?_; first | refine iP qW rfl aS oP rfl rfl ?_ | refine iY qW rfl aS oP rfl rfl ?_ | refine iR qW rfl aS oP rfl rfl ?_ | refine gL qW rfl aS oP rfl rfl ?_ | refine lL qW rfl aS jB fI rfl rfl ?_ | refine lJ qW rfl aS jB fI rfl rfl ?_ | refine lH qW rfl aS jB fI rfl rfl ?_ | refine jY qW rfl aS jB fI rfl rfl ?_) | (refine gI ?_; first | refine aF rfl (fun _ => bS rfl rfl) rfl rfl ?_ | refine aF rfl (fun _ => bG rfl) rfl rfl ?_) | (refine iO ?_; first | refine kU rfl rfl rfl mP stC rfl rfl ⟨mI, ?_⟩ | refine iB rfl rfl fI rP mP rQ rfl rfl ⟨mI, ?_⟩) | (refine gY ?_; first | refine bZ rfl ?_ | refine bQ rfl ?_ | refine jL rfl (by omega) ?_ | refine lM rfl (by omega) ?_ | refine sP rfl (fun h => ?_) (fun h => ?_) | refine nU rfl (fun h => ?_) (fun h => ?_)))
 (repeat refine aL ?_); refine dM 4 [0, 1, 2, 3, 4, 5, 7, 6, 8, 9, 10, 11] [4, 4, 4, 4, 3, 3, 3, 0, 0, 0, 0, 0] mixed (by kernel_rfl) ?_
 repeat (refine kD ?_)
 (refine aU rfl (iZ (c := c) hy (by omega) aS) rfl rfl ?_; rintro _ _ _ ⟨rfl, rfl, rfl⟩; refine ⟨mI, ?_⟩)
 repeat (refine kD ?_)
 (refine aU rfl (iZ (c := c') hz (by omega) aS) rfl rfl ?_; rintro _ _ _ ⟨rfl, rfl, rfl⟩; refine ⟨mI, ?_⟩)
 repeat (refine kD ?_)
 (refine aU rfl (aNP (by omega) (by omega) aS aS) rfl rfl ?_; rintro _ _ _ ⟨rfl, q3, c3, rfl, hc3, rfl⟩; refine ⟨mI, ?_⟩)
 have hyz : y.natAbs * z.natAbs ≤ 2 ^ (k + m) := aEL hy hz
 have hl3 := gV hyz (by omega)
 have hsg : sg (¬ (y < 0 ↔ z < 0)) (y.natAbs * z.natAbs) = y * z := by
  unfold sg
  rw [Int.natCast_mul]
  by_cases h1 : y < 0 <;> by_cases h2 : z < 0 <;> simp only [h1, h2, not_true_eq_false, not_false_eq_true, iff_true, iff_false, if_true, if_false]
  ·rw [show (y.natAbs : Int) = -y by omega, show (z.natAbs : Int) = -z by omega, Int.neg_mul_neg]
  ·rw [show (y.natAbs : Int) = -y by omega, show (z.natAbs : Int) = z by omega, Int.neg_mul, Int.neg_neg]
  ·rw [show (y.natAbs : Int) = y by omega, show (z.natAbs : Int) = -z by omega, Int.mul_neg, Int.neg_neg]
  ·rw [show (y.natAbs : Int) = y by omega, show (z.natAbs : Int) = z by omega]
 rw [← hsg]
 (refine aU rfl (kM (p := ¬ (y < 0 ↔ z < 0)) (k := k + m) (by omega) hc3 hyz aS) rfl rfl ?_; rintro _ _ _ ⟨rfl, rfl⟩; refine ⟨mI, ?_⟩; refine bL (List.Mem.head _) (fun q2 c2 e__ hc2 hz2 => ?_); subst e__)
 unfold iv
 repeat (refine kD ?_)
 refine bN (cs := [.bool (B (sg (¬ (y < 0 ↔ z < 0)) (y.natAbs * z.natAbs) < 0)), .slice q2 (gr (sg (¬ (y < 0 ↔ z < 0)) (y.natAbs * z.natAbs)).natAbs).length c2]) (.inl rfl) rfl rfl aS rfl _ _ dE dD ⟨rfl, rfl⟩
end
end Go.Proofs.YtgeagiikkeiioaaGreat

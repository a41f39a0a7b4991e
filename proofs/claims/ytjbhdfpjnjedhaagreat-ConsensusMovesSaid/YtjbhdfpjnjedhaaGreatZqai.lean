/- integer: the numbers: made, Valid, groups, Sign, Neg, Mul -/
import Derived.Test.YtjbhdfpjnjedhaaGreatZqah
import Derived.Test.YtjbhdfpjnjedhaaGreatZqag
set_option linter.unusedSimpArgs false
set_option linter.unusedVariables false
set_option maxRecDepth 100000
set_option maxHeartbeats 4000000
namespace Go.Proofs.YtjbhdfpjnjedhaaGreat
open Go Go.Fx
def iv (q : Option Addr) (c : Nat) (z : Int) : Value := .agg #[.bool (B (z < 0)), .slice q (gr z.natAbs).length c]
abbrev xW (q : Option Addr) (n c : Nat) : Prop := (gr n).length ≤ c ∧ (Ok q ∨ ((gr n).length = 0 ∧ c = 0))
structure IsI (u : Value) (z : Int) (k : Nat) (X : List Nat) (w : World) : Prop where
 ex : ∃ q c, u = iv q c z ∧ xW q z.natAbs c ∧ z.natAbs ≤ 2 ^ k ∧ Sl X w q (recs eG (gr z.natAbs))
abbrev kR (u : Value) (z : Int) (k : Nat) : aT := IsI u z k
instance (u : Value) (z : Int) (k : Nat) : Fx.Good (IsI u z k) := ⟨fun X Y w w' h he hY => by
 obtain ⟨q, c, h1, h2, h3, h4⟩ := h.ex
 exact ⟨q, c, h1, h2, h3, Sl.carry h4 he hY⟩⟩
def sg (p : Prop) [Decidable p] (n : Nat) : Int := if p then -(n : Int) else n
theorem aWP (p : Prop) [Decidable p] (n : Nat) : (sg p n).natAbs = n := by unfold sg; split <;> omega
theorem aLT (z : Int) : sg (z < 0) z.natAbs = z := by unfold sg; split <;> omega
theorem aSH (z : Int) : sg (¬ z < 0) z.natAbs = -z := by unfold sg; split <;> omega
theorem sg_lt {p : Prop} [Decidable p] {n : Nat} (h : n ≠ 0) : sg p n < 0 ↔ p := by unfold sg; split <;> simp_all <;> omega
section
variable {P : Program} {n : Nat} {Q : Exit → Act → World → Prop} {G : Env} {X : List Nat} {w0 : World} {M M' : List Ent} {I I' : List aT}
theorem iQ {f : FuncId} {vs : List Value} {K : Value → List Ent → List aT → Prop} {u : Value} {z : Int} {k : Nat} (hu : kR u z k ∈ I)
  (h : ∀ q c, u = iv q c z → xW q z.natAbs c → z.natAbs ≤ 2 ^ k → CD P f vs X w0 M (aR q (recs eG (gr z.natAbs)) :: I) K) : CD P f vs X w0 M I K :=
 ⟨fun w hw => by
  obtain ⟨q, c, h1, h2, h3, h4⟩ := ((hw.imm _ hu).2).ex
  exact (h q c h1 h2 h3).go w (hw.add (φ := aR q _) ⟨h4⟩)⟩
theorem aOX {w : World} {q : Option Addr} {c : Nat} {z : Int} {k : Nat} (hw : Mem X w0 M I w) (hm : aR q (recs eG (gr z.natAbs)) ∈ I) (hc : xW q z.natAbs c) (hk : z.natAbs ≤ 2 ^ k) : Mem X w0 M (kR (iv q c z) z k :: I) w :=
 hw.add (φ := kR _ z k) ⟨q, c, rfl, hc, hk, hw.sl hm⟩
theorem aDU {ex : Exit} {q : Option Addr} {c : Nat} {z : Int} {k : Nat} (hm : aR q (recs eG (gr z.natAbs)) ∈ I) (hc : xW q z.natAbs c) (hk : z.natAbs ≤ 2 ^ k) (h : ND n Q ex G X w0 M (kR (iv q c z) z k :: I)) : ND n Q ex G X w0 M I := xP (fun _ hw => aOX hw hm hc hk) h
theorem dR {ops l : List Oper} {m : Fx.Mode} {u : Value} {z : Int} {k : Nat} (hu : kR u z k ∈ I)
  (h : ∀ q c, u = iv q c z → xW q z.natAbs c → z.natAbs ≤ 2 ^ k → RD P n ops Q m l G X w0 M (aR q (recs eG (gr z.natAbs)) :: I)) : RD P n ops Q m l G X w0 M I :=
 ⟨fun w hw => by
  obtain ⟨q, c, h1, h2, h3, h4⟩ := ((hw.imm _ hu).2).ex
  exact (h q c h1 h2 h3).go w (hw.add (φ := aR q _) ⟨h4⟩)⟩
theorem IsI.mono {u : Value} {z : Int} {k m : Nat} {X : List Nat} {w : World} (h : IsI u z k X w) (hk : k ≤ m) : IsI u z m X w := by
 obtain ⟨q, c, h1, h2, h3, h4⟩ := h.ex
 exact ⟨q, c, h1, h2, Nat.le_trans h3 (Nat.pow_le_pow_right (by decide) hk), h4⟩
end
theorem jU {n k : Nat} (h : n ≤ 2 ^ k) (hk : k ≤ 1000000000000) : (gr n).length ≤ 40000000000 := by
 have := gX h
 omega
/- ---------- IndexFunc, ContainsFunc of []uint32 ---------- -/
section
variable {X : List Nat} {w0 : World} {M0 : List Ent} {I0 : List aT}
theorem aUS {q : Option Addr} {a : List Int} {c : Nat} {g : FuncId} [FnOk Tryz.prog g] {fs cs : Array Value} (pr : Int → Prop) [DecidablePred pr] (hn : (a.length : Int) ≤ 9223372036854775807) (ha : aR q (recs eG a) ∈ I0)
  (hg : ∀ i : Nat, i < a.length → CD Tryz.prog g (fs.toList ++ [Value.int .u32 (gt a i)] ++ cs.toList) X w0 M0 I0 (fun v M I => M0 = M ∧ I0 = I ∧ v = .bool (B (pr (gt a i))))) :
  CD Tryz.prog 252 [.slice q a.length c, .func (.func g) fs cs] X w0 M0 I0 (fun v M I => M0 = M ∧ I0 = I ∧ ∃ r : Int, v = .int .i64 r ∧ ((∃ i : Nat, i < a.length ∧ r = i ∧ pr (gt a i) ∧ ∀ j : Nat, j < i → ¬ pr (gt a j)) ∨ (r = -1 ∧ ∀ j : Nat, j < a.length → ¬ pr (gt a j)))) := by
 refine dW Tryz.func252 rfl Tryz.ntmps252 rfl ?_
 repeat (refine mO ?_)
 refine aZ [0, 1, 7] rfl (fun k G M I => ∃ i : Nat, i ≤ a.length ∧ k = a.length - i ∧ (∀ j : Nat, j < i → ¬ pr (gt a j)) ∧ G = [(8, .int .i64 i)] ∧ M = M0 ∧ I = I0) (a.length) _ _ _ aL cO cK (⟨0, by omega, rfl, fun j hj => by omega, rfl, rfl, rfl⟩) ?_
 rintro k G M I ⟨i, hi, rfl, hs, rfl, rfl, rfl⟩
 repeat' (first | refine mO ?_ | refine bR rfl (fun h => ?_) (fun h => ?_) | refine bQ rfl rfl (fun h => ?_) (fun h => ?_) | fail)
 ·have hlt : i < a.length := by omega
  (refine aGI rfl rfl (hg i hlt) rfl rfl rfl ?_; rintro _ _ _ ⟨rfl, rfl, rfl⟩; refine ⟨pE, ?_⟩)
  repeat' (first | refine mO ?_ | refine bR rfl (fun h => ?_) (fun h => ?_) | refine bQ rfl rfl (fun h => ?_) (fun h => ?_) | fail)
  ·refine aM (by first | exact .inl rfl | exact .inr rfl) rfl rfl _ _ cO cK (⟨rfl, rfl, _, rfl, .inl ⟨i, hlt, rfl, by assumption, hs⟩⟩)
  ·refine aK (a.length - (i + 1)) _ _ _ (by first | omega | (simp only [List.length_append, List.length_cons, List.length_nil]; omega)) aL cO cK (⟨i + 1, by omega, rfl, fun j hj => ?_, rfl, rfl, rfl⟩)
   by_cases e : j = i
   ·subst e; assumption
   ·exact hs j (by omega)
 ·refine aM (by first | exact .inl rfl | exact .inr rfl) rfl rfl _ _ cO cK (⟨rfl, rfl, _, rfl, .inr ⟨rfl, fun j hj => hs j (by omega)⟩⟩)
theorem aTV {q : Option Addr} {a : List Int} {c : Nat} {g : FuncId} [FnOk Tryz.prog g] {fs cs : Array Value} (pr : Int → Prop) [DecidablePred pr] (hn : (a.length : Int) ≤ 9223372036854775807) (ha : aR q (recs eG a) ∈ I0)
  (hg : ∀ i : Nat, i < a.length → CD Tryz.prog g (fs.toList ++ [Value.int .u32 (gt a i)] ++ cs.toList) X w0 M0 I0 (fun v M I => M0 = M ∧ I0 = I ∧ v = .bool (B (pr (gt a i))))) :
  CD Tryz.prog 232 [.slice q a.length c, .func (.func g) fs cs] X w0 M0 I0 (fun v M I => M0 = M ∧ I0 = I ∧ v = .bool (B (∃ x ∈ a, pr x))) := by
 refine dW Tryz.func232 rfl Tryz.ntmps232 rfl ?_
 repeat (refine mO ?_)
 (refine aS rfl (aUS pr hn ha hg) rfl rfl ?_; rintro _ _ _ ⟨rfl, rfl, r, rfl, h⟩; refine ⟨pE, ?_⟩)
 repeat (refine mO ?_)
 refine aM (by first | exact .inl rfl | exact .inr rfl) rfl rfl _ _ cO cK (⟨rfl, rfl, congrArg Value.bool (lF ?_)⟩)
 rcases h with ⟨i, hi, rfl, hp, _⟩ | ⟨rfl, h⟩
 ·exact ⟨fun _ => ⟨gt a i, by rw [jD hi]; exact List.getElem_mem hi, hp⟩, fun _ => by omega⟩
 ·refine ⟨fun h => by omega, ?_⟩
  rintro ⟨x, hx, hp⟩
  obtain ⟨j, hj, rfl⟩ := List.mem_iff_getElem.1 hx
  exact absurd (by rw [jD hj]; exact hp) (h j hj)
end
/- ---------- Clone of []uint32 ---------- -/
section
variable {X : List Nat} {w0 : World} {M0 : List Ent} {I0 : List aT}
theorem xY {q : Option Addr} {a : List Int} {c : Nat} (hn : (a.length : Int) * 4 ≤ 140737488355328) (hok : Ok q ∨ (a.length = 0 ∧ c = 0)) (ha : aR q (recs eG a) ∈ I0) :
  CD Tryz.prog 228 [.slice q a.length c] X w0 M0 I0 (fun v M I => I0 = I ∧ ∃ q' c', v = .slice q' a.length c' ∧ M = .row q' a.length c' (recs eG a) 104 1 :: M0) := by
 refine dW Tryz.func228 rfl Tryz.ntmps228 rfl ?_
 repeat (refine mO ?_)
 refine aC rfl (fun _ => jI rfl) rfl rfl ?_
 cases q with
 | some ad =>
  repeat (refine mO ?_)
  (refine dB (cs := recs eG []) ([]) rfl rfl (by intro v hv; repeat (first | exact absurd hv (List.not_mem_nil) | (rcases List.mem_cons.1 hv with rfl | hv; · rfl))) (by omega) rfl rfl rfl ?_; intro b1; refine ⟨pE, ?_⟩)
  repeat (refine mO ?_)
  refine wJ (mm := 0) 1 nJ rfl (by omega) ?_
  refine gD (xs := []) (ys := a) 0 rfl rfl rfl (Src.imm aP hok) (by decide) rfl (by simp; omega) (by simp; omega) rfl rfl ?_
  intro a2 c2
  refine ⟨pE, ?_⟩
  repeat (refine mO ?_)
  refine aM (by first | exact .inl rfl | exact .inr rfl) rfl rfl _ _ cO cK (⟨rfl, a2, c2, by simp, by simp⟩)
 | none =>
  obtain ⟨h0, rfl⟩ : a.length = 0 ∧ c = 0 := hok.resolve_left (fun h => by obtain ⟨b, o, e⟩ := h.cases; cases e)
  have hnil : a = [] := List.eq_nil_of_length_eq_zero h0
  subst hnil
  repeat (refine mO ?_)
  refine aVG 104 1 ?_
  refine aM (by first | exact .inl rfl | exact .inr rfl) rfl rfl _ _ cO cK (⟨rfl, none, 0, rfl, rfl⟩)
end
section
variable {X : List Nat} {w0 : World} {M0 : List Ent} {I0 : List aT}
theorem mI {p : Prop} [Decidable p] {q : Option Addr} {n c k : Nat} (hl : (gr n).length ≤ 100000000000) (hc : xW q n c) (hk : n ≤ 2 ^ k) (hq : aR q (recs eG (gr n)) ∈ I0) :
  CD Tryz.prog 200 [.bool (B p), .slice q (gr n).length c] X w0 M0 I0 (fun v M I => M0 = M ∧ I = kR v (sg p n) k :: I0) := by
 refine dW Tryz.func200 rfl Tryz.ntmps200 rfl ?_
 refine aH ?_
 refine aI ?_
 (refine aF rfl rfl ?_; intro b; refine ⟨pE, ?_⟩)
 repeat (refine mO ?_)
 (refine aS rfl (qW (l := gr n) rfl (by omega) hc.1 hq) rfl rfl ?_; rintro _ _ _ ⟨rfl, rfl, rfl⟩; refine ⟨pE, ?_⟩)
 rw [aGG (aBA n)]
 by_cases h0 : (gr n).length = 0
 ·have hn : n = 0 := uF.1 (List.eq_nil_of_length_eq_zero h0)
  subst hn
  repeat (refine mO ?_)
  (refine aC rfl (fun _ => aU (pvs := ([]).zipIdx.map (fun p => (p.2, p.1))) (cells := [.bool false, .slice none 0 0]) rfl rfl) rfl rfl ?_)
  repeat (refine mO ?_)
  have hz : sg p 0 = 0 := by unfold sg; split <;> rfl
  rw [hz]
  have hg0 : gr (0 : Int).natAbs = [] := kL
  refine aEX none ?_
  refine aDU (q := none) (c := 0) (z := 0) (k := k) (by rw [hg0]; exact aP) ⟨by rw [hg0]; simp, .inr ⟨by rw [hg0]; rfl, rfl⟩⟩ (by simp) ?_
  have hiv : iv none 0 0 = .agg #[.bool false, .slice none 0 0] := by unfold iv; rw [hg0, dP (by omega)]; rfl
  rw [hiv]
  refine bJ (cs := [.bool false, .slice none 0 0]) (.inl rfl) rfl rfl aP rfl _ _ cO cK ⟨rfl, rfl⟩
 ·have hn : n ≠ 0 := fun e => h0 (by rw [e, kL]; rfl)
  repeat (refine mO ?_)
  (refine aC rfl (fun _ => aU (pvs := ([.bool (B p), .slice q (gr n).length c]).zipIdx.map (fun p => (p.2, p.1))) (cells := [.bool (B p), .slice q (gr n).length c]) rfl rfl) rfl rfl ?_)
  repeat (refine mO ?_)
  have ha := aWP p n
  refine aDU (q := q) (c := c) (z := sg p n) (k := k) (by rw [ha]; exact aP) (by rw [ha]; exact hc) (by rw [ha]; exact hk) ?_
  have hiv : iv q c (sg p n) = .agg #[.bool (B p), .slice q (gr n).length c] := by unfold iv; rw [ha, lF (sg_lt hn)]
  rw [hiv]
  refine bJ (cs := [.bool (B p), .slice q (gr n).length c]) (.inl rfl) rfl rfl aP rfl _ _ cO cK ⟨rfl, rfl⟩
theorem aVO {x : Int} : CD Tryz.prog 233 [.int .u32 x] X w0 M0 I0 (fun v M I => M0 = M ∧ I0 = I ∧ v = .bool (B (1000000000 ≤ x))) := by
 refine dW Tryz.func233 rfl Tryz.ntmps233 rfl ?_
 repeat (refine mO ?_)
 refine aM (by first | exact .inl rfl | exact .inr rfl) rfl rfl _ _ cO cK (⟨rfl, rfl, rfl⟩)
def xV (neg : Bool) (gs : List Int) : Prop := (gs = [] ∧ neg = false) ∨ (gs ≠ [] ∧ Top gs ∧ ¬ ∃ x ∈ gs, 1000000000 ≤ x)
instance (neg : Bool) (gs : List Int) : Decidable (xV neg gs) := by unfold xV; exact inferInstance
theorem aEP {gs : List Int} (h : 0 < gs.length) : gs.getLastD 1 = gt gs ((gs.length : Int) - 1) := by
 rcases List.eq_nil_or_concat gs with rfl | ⟨r, x, e⟩
 ·simp at h
 ·rw [List.concat_eq_append] at e
  subst e
  have e1 : (((r ++ [x]).length : Int) - 1) = ((r.length : Nat) : Int) := by simp
  rw [e1, gtD]
  simp
theorem tY {neg : Bool} {q : Option Addr} {gs : List Int} {c : Nat} (hn : (gs.length : Int) ≤ 9223372036854775807) (hq : aR q (recs eG gs) ∈ I0) :
  CD Tryz.prog 192 [.agg #[.bool neg, .slice q gs.length c]] X w0 M0 I0 (fun v M I => M0 = M ∧ I0 = I ∧ v = .bool (B (xV neg gs))) := by
 refine dW Tryz.func192 rfl Tryz.ntmps192 rfl ?_
 refine aH ?_
 refine aI ?_
 (refine jX rfl rfl rfl ?_; intro b; refine ⟨pE, ?_⟩)
 by_cases h0 : gs.length = 0
 ·have hg : gs = [] := List.eq_nil_of_length_eq_zero h0
  subst hg
  repeat (refine mO ?_)
  refine aM (by first | exact .inl rfl | exact .inr rfl) rfl rfl _ _ cO cK (⟨rfl, rfl, by rw [show (!neg) = B (xV neg []) by rw [tV]; cases neg <;> simp [xV]]⟩)
 ·have hgs : gs ≠ [] := fun e => h0 (by rw [e]; rfl)
  have hlast := aEP (gs := gs) (by omega)
  repeat' (first | refine mO ?_ | refine bR rfl (fun h => ?_) (fun h => ?_) | refine bQ rfl rfl (fun h => ?_) (fun h => ?_) | fail)
  ·(refine aS rfl (aTV (fun x => 1000000000 ≤ x) hn hq (fun i hi => aVO)) rfl rfl ?_; rintro _ _ _ ⟨rfl, rfl, rfl⟩; refine ⟨pE, ?_⟩)
   repeat (refine mO ?_)
   refine aM (by first | exact .inl rfl | exact .inr rfl) rfl rfl _ _ cO cK (⟨rfl, rfl, congrArg Value.bool (lF ?_)⟩)
   unfold xV Top
   rw [hlast]
   exact ⟨fun h => .inr ⟨hgs, by assumption, h⟩, fun h => h.elim (fun h => absurd h.1 hgs) (fun h => h.2.2)⟩
  ·refine aM (by first | exact .inl rfl | exact .inr rfl) rfl rfl _ _ cO cK (⟨rfl, rfl, congrArg Value.bool (dP ?_).symm⟩)
   unfold xV Top
   rw [hlast]
   rintro (h | h)
   ·exact hgs h.1
   ·exact absurd h.2.1 (by assumption)
theorem aFB (z : Int) : xV (B (z < 0)) (gr z.natAbs) := by
 by_cases h : z.natAbs = 0
 ·refine .inl ⟨by rw [h, kL], dP (by omega)⟩
 ·refine .inr ⟨fun e => h (uF.1 e), aBA _, ?_⟩
  rintro ⟨x, hx, h1⟩
  have := gW z.natAbs x hx
  omega
theorem iV {q : Option Addr} {c k : Nat} {z : Int} (hz : z.natAbs ≤ 2 ^ k) (hk : k ≤ 1000000000000) (hq : aR q (recs eG (gr z.natAbs)) ∈ I0) :
  CD Tryz.prog 193 [iv q c z] X w0 M0 I0 (fun v M I => M0 = M ∧ I0 = I ∧ v = .slice q (gr z.natAbs).length c) := by
 have hl := jU hz hk
 unfold iv
 refine dW Tryz.func193 rfl Tryz.ntmps193 rfl ?_
 refine aH ?_
 refine aI ?_
 (refine jX rfl rfl rfl ?_; intro b; refine ⟨pE, ?_⟩)
 repeat (refine mO ?_)
 (refine aS rfl (tY (neg := B (z < 0)) (gs := gr z.natAbs) (by omega) hq) rfl rfl ?_; rintro _ _ _ ⟨rfl, rfl, rfl⟩; refine ⟨pE, ?_⟩)
 rw [bV (aFB z)]
 repeat (refine mO ?_)
 refine aM (by first | exact .inl rfl | exact .inr rfl) rfl rfl _ _ cO cK (⟨rfl, rfl, rfl⟩)
theorem oO {u : Value} {z : Int} {k : Nat} (hk : k ≤ 1000000000000) (hu : kR u z k ∈ I0) : CD Tryz.prog 144 [u] X w0 M0 I0 (fun v M I => M0 = M ∧ I0 = I ∧ v = .int .i64 z.sign) := by
 refine iQ hu (fun q c e hc hz => ?_)
 subst e
 unfold iv
 refine dW Tryz.func144 rfl Tryz.ntmps144 rfl ?_
 refine aH ?_
 refine aI ?_
 (refine jX rfl rfl rfl ?_; intro b; refine ⟨pE, ?_⟩)
 repeat (refine mO ?_)
 (refine aS rfl (iV (c := c) hz hk aP) rfl rfl ?_; rintro _ _ _ ⟨rfl, rfl, rfl⟩; refine ⟨pE, ?_⟩)
 have hnil : (gr z.natAbs).length = 0 ↔ z = 0 := by
  rw [List.length_eq_zero_iff, uF]; omega
 by_cases h0 : z = 0
 ·have := hnil.2 h0
  repeat (refine mO ?_)
  refine aM (by first | exact .inl rfl | exact .inr rfl) rfl rfl _ _ cO cK (⟨rfl, rfl, by rw [h0]; rfl⟩)
 ·have : ¬ (gr z.natAbs).length = 0 := fun h => h0 (hnil.1 h)
  repeat' (first | refine mO ?_ | refine bR rfl (fun h => ?_) (fun h => ?_) | refine bQ rfl rfl (fun h => ?_) (fun h => ?_) | fail)
  ·refine aM (by first | exact .inl rfl | exact .inr rfl) rfl rfl _ _ cO cK (⟨rfl, rfl, by rw [Int.sign_eq_neg_one_of_neg (by assumption)]⟩)
  ·refine aM (by first | exact .inl rfl | exact .inr rfl) rfl rfl _ _ cO cK (⟨rfl, rfl, by rw [Int.sign_eq_one_of_pos (by omega)]⟩)
theorem aFP {u : Value} {z : Int} {k : Nat} (hk : k ≤ 1000000000000) (hu : kR u z k ∈ I0) : CD Tryz.prog 194 [u] X w0 M0 I0 (fun v M I => M0 = M ∧ I = kR v (-z) k :: I0) := by
 refine iQ hu (fun q c e hc hz => ?_)
 subst e
 have hl := jU hz hk
 unfold iv
 refine dW Tryz.func194 rfl Tryz.ntmps194 rfl ?_
 refine aH ?_
 refine aI ?_
 (refine jX rfl rfl rfl ?_; intro b; refine ⟨pE, ?_⟩)
 (refine aF rfl rfl ?_; intro b2; refine ⟨pE, ?_⟩)
 repeat' (first | refine aI ?_ | refine jA ?_ | refine gV ?_ | refine fC ?_ | refine eQ ?_ | refine gT ?_ | refine gK ?_ | refine eY ?_ | refine fA ?_ | refine jF ?_ | refine jB ?_ | refine iZ ?_ | refine jC rfl ?_ | refine aN ?_ | (refine gI ?_; first | refine fM rfl rfl rfl ?_ | (refine fZ rfl rfl ?_; refine eF rfl rfl rfl pE ?_) | refine fK rfl rfl (by omega) ?_ | refine fU rfl rfl (by omega) ?_ | refine pI rfl rfl (fun h => ?_) (fun h => ?_) | (fail_if_success (refine rH rfl ?_); refine nR rfl rfl (fun h => ?_) (fun h => ?_))) | (refine bI ?_; refine aC rfl (fun _ => bY rfl) rfl rfl ?_) | refine aC rfl (fun _ => aY rfl) rfl rfl ?_ | (refine gB ?_; first | refine aC rfl (fun _ => bC rfl rfl w_) rfl rfl ?_ | refine aC rfl (fun _ => bE rfl rfl w_) rfl rfl ?_ | refine aC rfl (fun _ => dH rfl rfl w_) rfl rfl ?_ | refine aC rfl (fun _ => dI rfl rfl (by omega) q_) rfl rfl ?_ | refine aC rfl (fun _ => dJ rfl rfl (by omega) rfl) rfl rfl ?_ | refine aC rfl (fun _ => bW rfl rfl) rfl rfl ?_ | refine aC rfl (fun _ => dC rfl rfl) rfl rfl ?_ | refine aC rfl (fun _ => dA rfl rfl) rfl rfl ?_) | (refine bI ?_; first | refine aC rfl (fun _ => dE rfl w_) rfl rfl ?_) | (refine fV ?_; first | refine aC rfl (fun _ => bT rfl w_) rfl rfl ?_) | (refine fQ ?_; first | refine aC rfl (fun _ => bD rfl) rfl rfl ?_ | refine aC rfl (fun _ => bZ rfl rfl) rfl rfl ?_ | refine aC rfl (fun _ => bX rfl rfl) rfl rfl ?_ | refine aC rfl (fun _ => cB rfl rfl rfl) rfl rfl ?_) | (refine gF ?_; first | refine fJ rfl (by decide) rfl rfl ?_ | refine iO rfl (by decide) rfl rfl ?_) | (refine fO ?_; first | refine aC rfl (fun _ => bP rfl) rfl rfl ?_) | (refine gG ?_; first | refine iM rfl rfl iA rfl rfl ?_ | refine iP sS rfl rfl iA aP iU rfl rfl ?_ | refine iL sS rfl rfl iA aP iU rfl rfl ?_ | refine aC rfl (fun _ => bG rfl rfl iA) rfl rfl ?_) | (refine fT ?_; first | refine iR sS rfl aP oP rfl rfl ?_ | refine iK sS rfl aP oP rfl rfl ?_ | refine fH sS rfl aP oP rfl rfl ?_ | refine gH sS rfl aP oP rfl rfl ?_ | refine kW sS rfl aP iT fB rfl rfl ?_ | refine lG sS rfl aP iT fB rfl rfl ?_ | refine lI sS rfl aP iT fB rfl rfl ?_ | refine jT sS rfl aP iT fB rfl rfl ?_) | (refine fP ?_; first | refine aC rfl (fun _ => bH rfl rfl) rfl rfl ?_ | refine aC rfl (fun _ => bA rfl) rfl rfl ?_) | (refine iC ?_; first | refine jR rfl rfl rfl nJ stC rfl rfl ⟨pE, ?_⟩ | refine fD rfl rfl fB qV nJ qQ rfl rfl ⟨pE, ?_⟩) | (refine gU ?_; first | refine bM rfl ?_ | refine bB rfl ?_ | refine jE rfl (by omega) ?_ | refine lH rfl (by omega) ?_ | refine rF rfl (fun h => ?_) (fun h => ?_) | refine nQ rfl (fun h => ?_) (fun h => ?_)))
 (repeat refine aH ?_); refine cZ 3 [0, 1, 2, 3, 4, 5, 6, 7] [3, 3, 2, 2, 0, 0, 0, 0] mixed (by kernel_rfl) ?_
 repeat (refine mO ?_)
 (refine aS rfl (iV (c := c) hz hk aP) rfl rfl ?_; rintro _ _ _ ⟨rfl, rfl, rfl⟩; refine ⟨pE, ?_⟩)
 repeat (refine mO ?_)
 (refine aS rfl (xY (a := gr z.natAbs) (by omega) hc.2 aP) rfl rfl ?_; rintro _ _ _ ⟨rfl, q', c', rfl, rfl⟩; refine ⟨pE, ?_⟩)
 refine vB (fun w hw => And.intro (hw.rowLe (List.Mem.head _)) ((hw.rowS (List.Mem.head _)).2.imp id And.right)) (fun hc' => ?_)
 refine jY xN ?_
 repeat (refine mO ?_)
 rw [← aSH z]
 (refine aS rfl (mI (p := ¬ z < 0) (k := k) (by omega) hc' hz aP) rfl rfl ?_; rintro _ _ _ ⟨rfl, rfl⟩; refine ⟨pE, ?_⟩; refine dR (List.Mem.head _) (fun q2 c2 e__ hc2 hz2 => ?_); subst e__)
 unfold iv
 repeat (refine mO ?_)
 refine bJ (cs := [.bool (B (sg (¬ z < 0) z.natAbs < 0)), .slice q2 (gr (sg (¬ z < 0) z.natAbs).natAbs).length c2]) (.inl rfl) rfl rfl aP rfl _ _ cO cK ⟨rfl, rfl⟩
theorem rG {u v : Value} {y z : Int} {k m : Nat} (hk : k + m ≤ 1000000000000) (hu : kR u y k ∈ I0) (hv : kR v z m ∈ I0) : CD Tryz.prog 148 [u, v] X w0 M0 I0 (fun v M I => M0 = M ∧ I = kR v (y * z) (k + m) :: I0) := by
 refine iQ hu (fun q c e hc hy => ?_)
 subst e
 refine iQ (List.Mem.tail _ hv) (fun q' c' e hc' hz => ?_)
 subst e
 have hl := jU hy (by omega)
 have hl' := jU hz (by omega)
 unfold iv
 refine dW Tryz.func148 rfl Tryz.ntmps148 rfl ?_
 refine aH ?_
 refine aI ?_
 (refine jX rfl rfl rfl ?_; intro b; refine ⟨pE, ?_⟩)
 (refine jX rfl rfl rfl ?_; intro b2; refine ⟨pE, ?_⟩)
 (refine aF rfl rfl ?_; intro b3; refine ⟨pE, ?_⟩)
 repeat' (first | refine aI ?_ | refine jA ?_ | refine gV ?_ | refine fC ?_ | refine eQ ?_ | refine gT ?_ | refine gK ?_ | refine eY ?_ | refine fA ?_ | refine jF ?_ | refine jB ?_ | refine iZ ?_ | refine jC rfl ?_ | refine aN ?_ | (refine gI ?_; first | refine fM rfl rfl rfl ?_ | (refine fZ rfl rfl ?_; refine eF rfl rfl rfl pE ?_) | refine fK rfl rfl (by omega) ?_ | refine fU rfl rfl (by omega) ?_ | refine pI rfl rfl (fun h => ?_) (fun h => ?_) | (fail_if_success (refine rH rfl ?_); refine nR rfl rfl (fun h => ?_) (fun h => ?_))) | (refine bI ?_; refine aC rfl (fun _ => bY rfl) rfl rfl ?_) | refine aC rfl (fun _ => aY rfl) rfl rfl ?_ | (refine gB ?_; first | refine aC rfl (fun _ => bC rfl rfl w_) rfl rfl ?_ | refine aC rfl (fun _ => bE rfl rfl w_) rfl rfl ?_ | refine aC rfl (fun _ => dH rfl rfl w_) rfl rfl ?_ | refine aC rfl (fun _ => dI rfl rfl (by omega) q_) rfl rfl ?_ | refine aC rfl (fun _ => dJ rfl rfl (by omega) rfl) rfl rfl ?_ | refine aC rfl (fun _ => bW rfl rfl) rfl rfl ?_ | refine aC rfl (fun _ => dC rfl rfl) rfl rfl ?_ | refine aC rfl (fun _ => dA rfl rfl) rfl rfl ?_) | (refine bI ?_; first | refine aC rfl (fun _ => dE rfl w_) rfl rfl ?_) | (refine fV ?_; first | refine aC rfl (fun _ => bT rfl w_) rfl rfl ?_) | (refine fQ ?_; first | refine aC rfl (fun _ => bD rfl) rfl rfl ?_ | refine aC rfl (fun _ => bZ rfl rfl) rfl rfl ?_ | refine aC rfl (fun _ => bX rfl rfl) rfl rfl ?_ | refine aC rfl (fun _ => cB rfl rfl rfl) rfl rfl ?_) | (refine gF ?_; first | refine fJ rfl (by decide) rfl rfl ?_ | refine iO rfl (by decide) rfl rfl ?_) | (refine fO ?_; first | refine aC rfl (fun _ => bP rfl) rfl rfl ?_) | (refine gG ?_; first | refine iM rfl rfl iA rfl rfl ?_ | refine iP sS rfl rfl iA aP iU rfl rfl ?_ | refine iL sS rfl rfl iA aP iU rfl rfl ?_ | refine aC rfl (fun _ => bG rfl rfl iA) rfl rfl ?_) | (refine fT ?_; first | refine iR sS rfl aP oP rfl rfl ?_ | refine iK sS rfl aP oP rfl rfl ?_ | refine fH sS rfl aP oP rfl rfl ?_ | refine gH sS rfl aP oP rfl rfl ?_ | refine kW sS rfl aP iT fB rfl rfl ?_ | refine lG sS rfl aP iT fB rfl rfl ?_ | refine lI sS rfl aP iT fB rfl rfl ?_ | refine jT sS rfl aP iT fB rfl rfl ?_) | (refine fP ?_; first | refine aC rfl (fun _ => bH rfl rfl) rfl rfl ?_ | refine aC rfl (fun _ => bA rfl) rfl rfl ?_) | (refine iC ?_; first | refine jR rfl rfl rfl nJ stC rfl rfl ⟨pE, ?_⟩ | refine fD rfl rfl fB qV nJ qQ rfl rfl ⟨pE, ?_⟩) | (refine gU ?_; first | refine bM rfl ?_ | refine bB rfl ?_ | refine jE rfl (by omega) ?_ | refine lH rfl (by omega) ?_ | refine rF rfl (fun h => ?_) (fun h => ?_) | refine nQ rfl (fun h => ?_) (fun h => ?_)))
 (repeat refine aH ?_); refine cZ 4 [0, 1, 2, 3, 4, 5, 7, 6, 8, 9, 10, 11] [4, 4, 4, 4, 3, 3, 3, 0, 0, 0, 0, 0] mixed (by kernel_rfl) ?_
 repeat (refine mO ?_)
 (refine aS rfl (iV (c := c) hy (by omega) aP) rfl rfl ?_; rintro _ _ _ ⟨rfl, rfl, rfl⟩; refine ⟨pE, ?_⟩)
 repeat (refine mO ?_)
 (refine aS rfl (iV (c := c') hz (by omega) aP) rfl rfl ?_; rintro _ _ _ ⟨rfl, rfl, rfl⟩; refine ⟨pE, ?_⟩)
 repeat (refine mO ?_)
 (refine aS rfl (aRJ (by omega) (by omega) aP aP) rfl rfl ?_; rintro _ _ _ ⟨rfl, q3, c3, rfl, hc3, rfl⟩; refine ⟨pE, ?_⟩)
 have hyz : y.natAbs * z.natAbs ≤ 2 ^ (k + m) := aGV hy hz
 have hl3 := jU hyz (by omega)
 have hsg : sg (¬ (y < 0 ↔ z < 0)) (y.natAbs * z.natAbs) = y * z := by
  unfold sg
  rw [Int.natCast_mul]
  by_cases h1 : y < 0 <;> by_cases h2 : z < 0 <;> simp only [h1, h2, not_true_eq_false, not_false_eq_true, iff_true, iff_false, if_true, if_false]
  ·rw [show (y.natAbs : Int) = -y by omega, show (z.natAbs : Int) = -z by omega, Int.neg_mul_neg]
  ·rw [show (y.natAbs : Int) = -y by omega, show (z.natAbs : Int) = z by omega, Int.neg_mul, Int.neg_neg]
  ·rw [show (y.natAbs : Int) = y by omega, show (z.natAbs : Int) = -z by omega, Int.mul_neg, Int.neg_neg]
  ·rw [show (y.natAbs : Int) = y by omega, show (z.natAbs : Int) = z by omega]
 rw [← hsg]
 (refine aS rfl (mI (p := ¬ (y < 0 ↔ z < 0)) (k := k + m) (by omega) hc3 hyz aP) rfl rfl ?_; rintro _ _ _ ⟨rfl, rfl⟩; refine ⟨pE, ?_⟩; refine dR (List.Mem.head _) (fun q2 c2 e__ hc2 hz2 => ?_); subst e__)
 unfold iv
 repeat (refine mO ?_)
 refine bJ (cs := [.bool (B (sg (¬ (y < 0 ↔ z < 0)) (y.natAbs * z.natAbs) < 0)), .slice q2 (gr (sg (¬ (y < 0 ↔ z < 0)) (y.natAbs * z.natAbs)).natAbs).length c2]) (.inl rfl) rfl rfl aP rfl _ _ cO cK ⟨rfl, rfl⟩
end
end Go.Proofs.YtjbhdfpjnjedhaaGreat

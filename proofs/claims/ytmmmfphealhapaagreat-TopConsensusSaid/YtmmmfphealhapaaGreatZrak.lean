/- Regions that draw their order, within a round of a range over a function. integer: compare, word, short The walk, kept once. -/
import Derived.OrdersIn
import Derived.RangeFuncCalls
import Derived.RangeFuncWrites
import Derived.RangeFuncBound
import Derived.Below
import Derived.Test.YtmmmfphealhapaaGreatZrag
import Derived.Test.YtmmmfphealhapaaGreatZraj
set_option linter.unusedSimpArgs false
set_option linter.unusedVariables false
set_option maxRecDepth 100000
set_option maxHeartbeats 4000000
namespace Go.Fx
open Go
section
variable {P : Program} {l0 n : Nat} {Q : Exit → Act → World → Prop} {ops : Array Oper}
theorem opIn {o : Oper} {a : Act} {w : World} {K : Act → World → Prop} (hd : ∀ c, o.op ≠ .defer c) (h : o.wp P a w K Q) : o.wpIn (Fence.wide.inRound l0) n P a w K Q := by
 unfold Oper.wpIn
 refine ⟨fun _ _ => trivial, ?_⟩
 rw [Fence.inRound_round, Oper.semAt_eq _ _ _ hd]
 unfold Oper.wp at h
 generalize (execOp a.eval o).run P w = r at h ⊢
 cases r with
 | ok x w' =>
  cases x with
  | enter f args => exact ⟨fun h => by simp [Fence.wide, Fence.inRound] at h, CallsIn.inRound l0 (callsIn_wide.2 h)⟩
  | row row args => exact ⟨fun h => by simp [Fence.wide, Fence.inRound] at h, fun c cs _ => let ⟨v, w', r, s⟩ := h c cs; ⟨v, w', r, stepsIn_wide.2 s⟩⟩
  | _ => first | exact h | exact h.elim
 | halt x w' => cases x <;> first | exact h | exact h.elim
def sU (o : Oper) : Bool := match o.op with | .defer _ => false | _ => true
theorem aFI {o : Oper} (h : sU o = true) : ∀ c, o.op ≠ .defer c := fun c e => by simp [sU, e] at h
theorem aHI {md : Region.Mode} (hd : ∀ (i : Nat) o, ops[i]? = some o → sU o = true) (hq : ¬ LetsOut Q) : ∀ (fuel : Nat) (listed : Array Bool) (a : Act) (w : World), wpAny P md ops Q fuel listed a w → wpAnyIn (Fence.wide.inRound l0) n P md ops Q fuel listed a w
 | 0, _, _, _, h => h
 | fuel + 1, listed, a, w, h => by
  refine ⟨h.1, fun i hi => ?_⟩
  have h1 := h.2 i hi
  unfold wpOp at h1
  unfold wpOpIn
  cases ho : ops[i]? with
  | none => rw [ho] at h1; exact aHI hd hq fuel _ _ _ h1
  | some o =>
   simp only [ho] at h1 ⊢
   split
   ·rename_i hw
    rw [if_pos hw] at h1
    rcases h1 with h1 | h1
    ·exact Oper.wpIn_mono (fun a w => aHI hd hq fuel _ a w) (opIn (aFI (hd i o ho)) h1)
    ·exact absurd h1.2 hq
   ·rename_i hw
    rw [if_neg hw] at h1
    exact ⟨fun _ _ => trivial, aHI hd hq fuel _ _ _ h1⟩
theorem aCG {id : Nat} {l : List Oper} {p ms : List Nat} {a : Act} {w : World} {Cs : Nat → World → Prop} (hx : P.follows .mixedOrders = true) (hm : ∀ s w, Cs s w → Cs (s + 1) w)
  (hp : (Region.noSelect l.toArray && iZ l.toArray p ms (Array.replicate l.length false) && p.length == l.length) = true) (hd : l.all sU = true) (hq : ¬ LetsOut Q) (hC : Cs 0 w.drew)
  (h : wpM P l.toArray Q (.any Cs 0 ms) (pick l p) a w.drew) : (Code.region id l.toArray true).wpIn (Fence.wide.inRound l0) n P Q a w := by
 simp only [Bool.and_eq_true, beq_iff_eq] at hp
 obtain ⟨⟨h1, h2⟩, h3⟩ := hp
 refine wpIn_region_any hx ?_
 have := jJ hm h1 p ms 0 _ a w.drew hC (by simp) h2 h
 rw [h3] at this
 refine aHI (fun i o ho => List.all_eq_true.1 hd o (List.mem_of_getElem? (by simpa using ho))) hq _ _ _ _ ?_
 simpa using oG _ _ _ _ _ this
end
section
variable {P : Program} {l0 k n : Nat} {Q Q' : Exit → Act → World → Prop} {G : Env} {X : List Nat} {w0 : World} {M M' M1 : List Ent} {I I' I1 : List bA} {a : Act} {w : World}
theorem aJC {id : Nat} {l : List Oper} (ha : Has n G a) (hw : Mem X w0 M I w) (hq : ¬ LetsOut Q) (Cs : Nat → World → Prop) (p ms : List Nat) (hx : P.follows .mixedOrders = true) (hm : ∀ s w, Cs s w → Cs (s + 1) w)
  (hp : (Region.noSelect l.toArray && iZ l.toArray p ms (Array.replicate l.length false) && p.length == l.length) = true) (hd : l.all sU = true) (hC : ∀ w, Mem X w0 M I w → Cs 0 w)
  (h : RD P n l Q (.any Cs 0 ms) (pick l p) G X w0 M I) : (Code.region id l.toArray true).wpIn (Fence.wide.inRound l0) k P Q a w :=
 aCG hx hm hp hd hq (hC _ hw.drew) ((h.go w.drew hw.drew).go a ha)
theorem aFO {id : Nat} {l : List Oper} (ha : Has n G a) (hw : Mem X w0 M I w) (hq : ¬ LetsOut Q) (J : Nat) (Ms : List Ent) (Is : List bA) (p ms : List Nat) (hM : SubP M Ms) (hI : Inc I Is) (hx : P.follows .mixedOrders = true)
  (hp : (Region.noSelect l.toArray && iZ l.toArray p ms (Array.replicate l.length false) && p.length == l.length) = true) (hd : l.all sU = true)
  (h : RD P n l Q (.any (CsJ J X w0 Ms Is) 0 ms) (pick l p) G X w0 M I) : (Code.region id l.toArray true).wpIn (Fence.wide.inRound l0) k P Q a w :=
 aJC ha hw hq (CsJ J X w0 Ms Is) p ms hx (fun s w h hs => h (by omega)) hp hd (fun _ h _ => h.weak hM hI) h
end
/- what is read with no oW sees all, other reads see what stays -/
def CsK (J : Nat) (X : List Nat) (w0 : World) (M Ms : List Ent) (I Is : List bA) : Nat → World → Prop := fun s w => (s = 0 → Mem X w0 M I w) ∧ (s ≤ J → Mem X w0 Ms Is w)
section
variable {X : List Nat} {w0 : World} {M M' M1 Ms : List Ent} {I I' I1 Is : List bA}
theorem View.k0 {J k : Nat} {ms : List Nat} (h : k + ms.headD 0 = 0) : View (.any (CsK J X w0 M1 Ms I1 Is) k ms) X w0 M I M1 I1 := ⟨fun w w' _ hc => by
 have hc' : CsK J X w0 M1 Ms I1 Is (k + ms.headD 0) w' := hc
 exact hc'.1 h⟩
theorem View.kJ {J k : Nat} {ms : List Nat} (h : k + ms.headD 0 ≤ J) : View (.any (CsK J X w0 M1 Ms I1 Is) k ms) X w0 M I Ms Is := ⟨fun w w' _ hc => by
 have hc' : CsK J X w0 M1 Ms I1 Is (k + ms.headD 0) w' := hc
 exact hc'.2 h⟩
theorem OkD.kN {J k : Nat} {ms : List Nat} (h : J ≤ k) : OkD (.any (CsK J X w0 M1 Ms I1 Is) k ms) X w0 M I := ⟨fun w _ => by
 show CsK J X w0 M1 Ms I1 Is (k + 1) w
 exact ⟨fun h => by omega, fun h => by omega⟩⟩
theorem OkD.kY {J k : Nat} {ms : List Nat} (hM : SubP M Ms) (hI : Inc I Is) : OkD (.any (CsK J X w0 M1 Ms I1 Is) k ms) X w0 M I := ⟨fun w hw => by
 show CsK J X w0 M1 Ms I1 Is (k + 1) w
 exact ⟨fun h => by omega, fun _ => hw.weak hM hI⟩⟩
theorem kV {m : Mode} (h : View m X w0 M I M1 I1 := by first | exact View.seq | exact View.any | exact View.one rfl | exact View.upto (by decide) | exact View.k0 rfl | exact View.kJ (by decide)) : View m X w0 M I M1 I1 := h
theorem jD {m : Mode} (h : OkD m X w0 M I := by first | exact OkD.seq | exact OkD.one | exact OkD.any cZ cK | exact OkD.uptoN (by decide) | exact OkD.uptoY cZ cK | exact OkD.kN (by decide) | exact OkD.kY cZ cK) : OkD m X w0 M I := h
theorem aPH {J : Nat} {w : World} (hM : SubP M Ms) (hI : Inc I Is) (h : Mem X w0 M I w) : CsK J X w0 M Ms I Is 0 w := ⟨fun _ => h, fun _ => h.weak hM hI⟩
theorem aPE {J : Nat} (s : Nat) (w : World) (h : CsK J X w0 M Ms I Is s w) : CsK J X w0 M Ms I Is (s + 1) w := ⟨fun h => by omega, fun hs => h.2 (by omega)⟩
theorem aIT {P : Program} {n : Nat} {Q : Exit → Act → World → Prop} {G : Env} {id : Nat} {l : List Oper} (J : Nat) (Ms : List Ent) (Is : List bA) (p ms : List Nat) (hM : SubP M Ms) (hI : Inc I Is) (hx : P.follows .mixedOrders = true)
  (hp : (Region.noSelect l.toArray && iZ l.toArray p ms (Array.replicate l.length false) && p.length == l.length) = true)
  (h : RD P n l Q (.any (CsK J X w0 M Ms I Is) 0 ms) (pick l p) G X w0 M I) : TD P n (.region id l.toArray true) Q G X w0 M I :=
 wI (CsK J X w0 M Ms I Is) p ms hx aPE hp (fun _ h => aPH hM hI h) h
end
/- the same behind deferred calls -/
def xI (Ds : List Deferred) (a : Act) : Act := { a with defers := a.defers ++ Ds }
section
variable {P : Program} {Ds : List Deferred} {Q : Exit → Act → World → Prop} {ops : Array Oper}
theorem pU (a : Act) (d : Option Tmp) (v : Value) : (xI Ds a).put d v = xI Ds (a.put d v) := by cases d <;> rfl
theorem zZ (a : Act) : (xI Ds a).eval = a.eval := by funext x; cases x <;> rfl
theorem aBD (h : LetsOut (fun e a w => Q e (xI Ds a) w)) : LetsOut Q := let ⟨a, w, h⟩ := h; ⟨_, w, h⟩
theorem aNR {o : Oper} {a : Act} {w : World} {K : Act → World → Prop} (h : o.wp P a w (fun a w => K (xI Ds a) w) (fun e a w => Q e (xI Ds a) w)) : o.wp P (xI Ds a) w K Q := by
 unfold Oper.wp at h ⊢
 rw [zZ]
 generalize (execOp a.eval o).run P w = r at h ⊢
 cases r with
 | ok x w' =>
  cases x with
  | value v => simp only [Oper.upon] at h ⊢; rw [pU]; exact h
  | skip => simp only [Oper.upon] at h ⊢; rw [pU]; exact h
  | defer d => simp only [Oper.upon] at h ⊢; exact (pU (Ds := Ds) { a with defers := d :: a.defers } o.dst undef) ▸ h
  | enter f args =>
   simp only [Oper.upon] at h ⊢
   refine Calls.mono h (fun e w2 he => ?_)
   cases e with
   | returned v => simp only at he ⊢; rw [pU]; exact he
   | panicked c => exact he
   | outgrown => exact aBD he
  | row row args =>
   simp only [Oper.upon] at h ⊢
   refine Rows.mono h (fun v w2 he => ?_)
   rw [pU]; exact he
  | _ => exact h.elim
 | halt x w' => cases x <;> first | exact h | exact h.elim
theorem vW {md : Region.Mode} : ∀ (fuel : Nat) (listed : Array Bool) (a : Act) (w : World), wpAny P md ops (fun e a w => Q e (xI Ds a) w) fuel listed a w → wpAny P md ops Q fuel listed (xI Ds a) w
 | 0, _, _, _, h => h
 | fuel + 1, listed, a, w, h => by
  refine ⟨h.1, fun i hi => ?_⟩
  have h1 := h.2 i hi
  unfold wpOp at h1 ⊢
  cases ho : ops[i]? with
  | none => simp only [ho] at h1; exact vW fuel _ _ _ h1
  | some o =>
   simp only [ho] at h1 ⊢
   by_cases hw : Region.wanted o (yielded ops a.tmps) = true
   ·rw [if_pos hw] at h1
    rw [if_pos (show Region.wanted o (yielded ops (xI Ds a).tmps) = true from hw)]
    rcases h1 with h1 | h1
    ·exact .inl (Oper.wp_mono (fun a w => id) (aNR (Oper.wp_mono (fun a w => vW fuel _ a w) h1)))
    ·refine .inr ⟨?_, aBD h1.2⟩
     have := h1.1
     unfold Oper.asks at this ⊢
     rw [zZ]
     exact this
   ·rw [if_neg hw] at h1
    rw [if_neg (show ¬ Region.wanted o (yielded ops (xI Ds a).tmps) = true from hw), pU]
    exact vW fuel _ _ _ h1
end
section
variable {P : Program} {k n : Nat} {Q Q' : Exit → Act → World → Prop} {G : Env} {X : List Nat} {w0 : World} {M M' M1 : List Ent} {I I' I1 : List bA} {a : Act} {w : World}
theorem aFQ {id : Nat} {l : List Oper} {tmps : Array Value} {Ds : List Deferred} (ha : Has n G ⟨tmps, []⟩) (hw : Mem X w0 M I w) (J : Nat) (Ms : List Ent) (Is : List bA) (p ms : List Nat) (hM : SubP M Ms) (hI : Inc I Is) (hx : P.follows .mixedOrders = true)
  (hp : (Region.noSelect l.toArray && iZ l.toArray p ms (Array.replicate l.length false) && p.length == l.length) = true)
  (h : RD P n l (fun e a w => Q e (xI Ds a) w) (.any (CsK J X w0 M Ms I Is) 0 ms) (pick l p) G X w0 M I) : (Code.region id l.toArray true).wpIn Fence.wide k P Q ⟨tmps, Ds⟩ w := by
 simp only [Bool.and_eq_true, beq_iff_eq] at hp
 obtain ⟨⟨h1, h2⟩, h3⟩ := hp
 refine wpIn_wide.2 (wp_region_any hx ?_)
 refine vW (Ds := Ds) _ _ ⟨tmps, []⟩ _ ?_
 have hC : CsK J X w0 M Ms I Is 0 w.drew := aPH hM hI hw.drew
 have := jJ aPE h1 p ms 0 _ _ w.drew hC (by simp) h2 ((h.go w.drew hw.drew).go _ ha)
 rw [h3] at this
 simpa using oG _ _ _ _ _ this
end
theorem Has.cons {n : Nat} {G : Env} {a : Act} {t : Nat} {v : Value} (h : Has n G a) (ht : a.tmps[t]? = some v) : Has n ((t, v) :: G) a :=
 ⟨h.size, h.defers, fun s u hs => by
  unfold lk at hs
  cases e : Nat.beq t s with
  | true => rw [e] at hs; have := Nat.eq_of_beq_eq_true e; subst this; exact ht.trans hs
  | false => rw [e] at hs; exact h.get s u hs⟩
theorem Has.nil {n : Nat} {a : Act} (h : a.tmps.size = n) (hd : a.defers = []) : Has n [] a := ⟨h, hd, fun _ _ h => by cases h⟩
theorem rG {X : List Nat} {n : Nat} {A B : World} (h : Ext X A B) (hx : ∀ k ∈ X, n ≤ k) (hn : n ≤ A.heap.size) : RowKit.Below n A B :=
 ⟨h.os, h.tape, h.output, h.size, fun k hk => h.block k (by omega) (fun hm => by have := hx k hm; omega)⟩
theorem aCF {X : List Nat} {n : Nat} {A B : World} (h : Ext X A B) (hx : ∀ k ∈ X, k < n) : KeepsFrom n A B :=
 ⟨h.size, fun k o hk ho _ => (h.block k (Array.getElem?_eq_some_iff.1 ho).1 (fun hm => by have := hx k hm; omega)).trans ho⟩
end Go.Fx
namespace Go.Proofs.YtmmmfphealhapaaGreat
open Go Go.Fx Go.RowKit Go.Shelf
attribute [local go_sem] Oper.semAt_some
theorem aDI : ∀ {zs ys : List Int} (k : Nat), Dig zs → Dig ys → zP zs ys k = fQ (val (zs.take k)) (val (ys.take k))
 | _, _, 0, _, _ => by simp [zP, fQ, val]
 | zs, ys, k + 1, hz, hy => by
  have h1 := iD hz k
  have h2 := iD hy k
  have h3 := bO (hz.take k)
  have h4 := bO (hy.take k)
  have hp := jK k
  rw [zP, bP, bP, aDI k hz hy]
  have ez : zs[k]?.getD 0 = zs.getD k 0 := by simp
  have ey : ys[k]?.getD 0 = ys.getD k 0 := by simp
  rw [ez, ey]
  generalize val (zs.take k) = A at *
  generalize val (ys.take k) = C at *
  generalize zs.getD k 0 = x at *
  generalize ys.getD k 0 = y at *
  generalize (1000000000 : Int) ^ k = B at *
  have key : ∀ x y A C : Int, x < y → 0 ≤ A → A < B → 0 ≤ C → A + B * x < C + B * y := fun x y A C h _ _ _ => by
   have : B * (x + 1) ≤ B * y := Int.mul_le_mul_of_nonneg_left (by omega) (by omega)
   rw [Int.mul_add] at this
   omega
  split
  ·rename_i e
   subst e
   unfold fQ
   simp only [Int.add_lt_add_iff_right]
  ·rename_i e
   rcases Int.lt_or_gt_of_ne e with h | h
   ·have := key x y A C h h3 h1 h4
    unfold fQ
    rw [if_pos h, if_pos this]
   ·have := key y x C A h h4 h2 h3
    unfold fQ
    rw [if_neg (by omega), if_pos h, if_neg (by omega), if_pos this]
theorem aBP {s g : Int} (hs : 0 ≤ s ∧ s < 1000000000) (hg : 0 ≤ g ∧ g < 1000000000) : wdS s g = s * 1000000000 + g := by
 unfold wdS
 rw [wrap_u64 (n := s * 1000000000) (by omega), wrap_u64 (n := g) (by omega), wrap_u64 (by omega)]
section
variable {X : List Nat} {w0 : World} {M0 : List Ent} {I0 : List bA}
theorem uR {p q : Option Addr} {m n cp cq : Nat} (hm : (gr m).length ≤ 100000000000) (hn : (gr n).length ≤ 100000000000) (hp : aX p (recs eG (gr m)) ∈ I0) (hq : aX q (recs eG (gr n)) ∈ I0) :
  CD Tryz.prog 198 [.slice p (gr m).length cp, .slice q (gr n).length cq] X w0 M0 I0 (fun v M I => M0 = M ∧ I0 = I ∧ v = .int .i64 (fQ m n)) := by
 by_cases hl : (gr n).length = (gr m).length
 ·rw [hl]
  refine CD.ext (fun w hw => Calls.mono (callsIn_wide.1 (aEX p q cp cq (gr m) (gr n) w (by omega) hl ((hw.sl hp).less (by simp)) ((hw.sl hq).less (by simp)))) ?_)
  rintro e w' ⟨rfl, hB⟩
  refine ⟨_, rfl, Ext.of_below hB, ?_⟩
  have e := aDI (gr m).length (bW m) (bW n)
  rw [List.take_length, ← hl, List.take_length, dC, dC] at e
  rw [hl] at e
  rw [e]
 ·have hc : fQ ((gr m).length : Int) ((gr n).length : Int) = fQ m n := by
   have h1 : ∀ a b : Nat, (gr a).length < (gr b).length → (a : Int) < b := fun a b h => by
    have := aBS (rT a) (rT b) h
    rwa [dC, dC] at this
   rcases Nat.lt_or_gt_of_ne hl with h | h
   ·have := h1 n m h
    unfold fQ
    rw [if_neg (by omega), if_pos (by omega), if_neg (by omega), if_pos (by omega)]
   ·have := h1 m n h
    unfold fQ
    rw [if_pos (by omega), if_pos (by omega)]
  refine eY Tryz.func198 rfl Tryz.ntmps198 rfl ?_
  refine aH ?_
  refine aI ?_
  (refine kG rfl rfl rfl ?_; intro b; refine ⟨mQ, ?_⟩)
  (refine aC rfl rfl ?_; intro s; refine ⟨mQ, ?_⟩)
  repeat (refine kS ?_)
  (refine aT rfl (CD.same (fun w _ => aJX _ _ _)) rfl rfl ?_; rintro _ _ _ ⟨rfl, rfl, rfl⟩; refine ⟨mQ, ?_⟩)
  rw [hc]
  repeat (refine kS ?_)
  exact aNB (.inl rfl) rfl rfl aP _ _ cZ cK ⟨rfl, rfl, rfl⟩
theorem xK {q : Option Addr} {n c : Nat} (hn : (gr n).length ≤ 100000000000) (hq : aX q (recs eG (gr n)) ∈ I0) :
  CD Tryz.prog 199 [.slice q (gr n).length c] X w0 M0 I0 (fun v M I => M0 = M ∧ I0 = I ∧ v = .tuple #[.int .u64 (if (gr n).length ≤ 2 then (n : Int) else 0), .bool (B ((gr n).length ≤ 2))]) := by
 by_cases hl : (gr n).length ≤ 2
 ·refine CD.ext (fun w hw => Calls.mono (callsIn_wide.1 (aNZ q c (gr n) w hl ((hw.sl hq).less (by simp)) (aGT ((hw.sl hq).less (by simp))))) ?_)
  rintro e w' ⟨rfl, hB⟩
  refine ⟨_, rfl, Ext.of_below hB, ?_⟩
  rw [if_pos hl, fA hl]
  have hd := bW n
  have hv := dC n
  congr 4
  revert hl hd hv
  generalize gr n = zs
  intro hl hd hv
  rw [← hv]
  match zs, hl, hd with
  | [], _, _ => simp [sP, wdF, val]
  | [x], _, hd =>
   have := hd x (by simp)
   have e : wdF [x] (sP [x] [x].length) = wdS 0 x := rfl
   rw [e, aBP (by omega) this]
   simp [val]
  | [x, y], _, hd =>
   have h1 := hd x (by simp)
   have h2 := hd y (by simp)
   have e : wdF [x, y] (sP [x, y] [x, y].length) = wdS (wdS 0 y) x := rfl
   rw [e, aBP (by omega) h2, aBP (by omega) h1]
   simp only [val]
   omega
 ·refine eY Tryz.func199 rfl Tryz.ntmps199 rfl ?_
  repeat (refine kS ?_)
  refine iL [2, 3] (by first | exact .inl rfl | exact .inr rfl) rfl rfl rfl _ _ cZ cK (⟨rfl, rfl, by rw [if_neg hl, dF hl]⟩)
end
end Go.Proofs.YtmmmfphealhapaaGreat
namespace Go.Fx
theorem iX {p g : Prop} (h : g) (w : BoxP g → p := by (intro hh; (first | refine aH ?_ | refine aI ?_ | refine jU ?_ | refine iN ?_ | refine fU ?_ | refine fJ ?_ | refine iI ?_ | refine iB ?_ | refine fT ?_ | refine fP ?_ | refine jY ?_ | refine jR ?_ | refine jS ?_ | refine jX rfl ?_ | refine aL ?_ | (refine gX ?_; first | refine gQ rfl rfl rfl ?_ | (refine gJ rfl rfl ?_; refine fF rfl rfl rfl jD ?_) | refine gT rfl rfl (by omega) ?_ | refine gI rfl rfl (by omega) ?_) | (refine bT ?_; refine aD rfl (fun _ => dL rfl) rfl rfl ?_) | refine aD rfl (fun _ => bH rfl) rfl rfl ?_ | (refine gK ?_; first | refine aD rfl (fun _ => bK rfl rfl w_) rfl rfl ?_ | refine aD rfl (fun _ => bM rfl rfl w_) rfl rfl ?_ | refine aD rfl (fun _ => eQ rfl rfl w_) rfl rfl ?_ | refine aD rfl (fun _ => eO rfl rfl (by omega) q_) rfl rfl ?_ | refine aD rfl (fun _ => eP rfl rfl (by omega) rfl) rfl rfl ?_ | refine aD rfl (fun _ => dK rfl rfl) rfl rfl ?_ | refine aD rfl (fun _ => dX rfl rfl) rfl rfl ?_ | refine aD rfl (fun _ => dY rfl rfl) rfl rfl ?_) | (refine bT ?_; first | refine aD rfl (fun _ => dZ rfl w_) rfl rfl ?_) | (refine gM ?_; first | refine aD rfl (fun _ => dD rfl w_) rfl rfl ?_) | (refine gH ?_; first | refine aD rfl (fun _ => bL rfl) rfl rfl ?_ | refine aD rfl (fun _ => dH rfl rfl) rfl rfl ?_ | refine aD rfl (fun _ => dJ rfl rfl) rfl rfl ?_ | refine aD rfl (fun _ => dI rfl rfl rfl) rfl rfl ?_) | (refine gL ?_; first | refine gP rfl (by decide) rfl rfl ?_ | refine jH rfl (by decide) rfl rfl ?_) | (refine gN ?_; first | refine aD rfl (fun _ => cO rfl) rfl rfl ?_) | (refine gW ?_; first | refine jB rfl rfl iQ rfl rfl ?_ | refine jE kV rfl rfl iQ aP jL rfl rfl ?_ | refine jF kV rfl rfl iQ aP jL rfl rfl ?_ | refine aD rfl (fun _ => bS rfl rfl iQ) rfl rfl ?_) | (refine gV ?_; first | refine jI kV rfl aP nJ rfl rfl ?_ | refine jG kV rfl aP nJ rfl rfl ?_ | refine jC kV rfl aP nJ rfl rfl ?_ | refine fI kV rfl aP nJ rfl rfl ?_ | refine kQ kV rfl aP iG fC rfl rfl ?_ | refine kR kV rfl aP iG fC rfl rfl ?_ | refine kP kV rfl aP iG fC rfl rfl ?_ | refine jM kV rfl aP iG fC rfl rfl ?_) | (refine gU ?_; first | refine aD rfl (fun _ => bR rfl rfl) rfl rfl ?_ | refine aD rfl (fun _ => bJ rfl) rfl rfl ?_) | (refine iH ?_; first | refine lT rfl rfl rfl lW stC rfl rfl ⟨jD, ?_⟩ | refine gF rfl rfl fC qE lW qO rfl rfl ⟨jD, ?_⟩) | (refine iM ?_; first | refine bZ rfl ?_ | refine bQ rfl ?_ | refine jQ rfl (by omega) ?_ | refine lZ rfl (by omega) ?_)); (repeat (first | refine aH ?_ | refine aI ?_ | refine jU ?_ | refine iN ?_ | refine fU ?_ | refine fJ ?_ | refine iI ?_ | refine iB ?_ | refine fT ?_ | refine fP ?_ | refine jY ?_ | refine jR ?_ | refine jS ?_ | refine jX rfl ?_ | refine aL ?_ | (refine gX ?_; first | refine gQ rfl rfl rfl ?_ | (refine gJ rfl rfl ?_; refine fF rfl rfl rfl jD ?_) | refine gT rfl rfl (by omega) ?_ | refine gI rfl rfl (by omega) ?_) | (refine bT ?_; refine aD rfl (fun _ => dL rfl) rfl rfl ?_) | refine aD rfl (fun _ => bH rfl) rfl rfl ?_ | (refine gK ?_; first | refine aD rfl (fun _ => bK rfl rfl w_) rfl rfl ?_ | refine aD rfl (fun _ => bM rfl rfl w_) rfl rfl ?_ | refine aD rfl (fun _ => eQ rfl rfl w_) rfl rfl ?_ | refine aD rfl (fun _ => eO rfl rfl (by omega) q_) rfl rfl ?_ | refine aD rfl (fun _ => eP rfl rfl (by omega) rfl) rfl rfl ?_ | refine aD rfl (fun _ => dK rfl rfl) rfl rfl ?_ | refine aD rfl (fun _ => dX rfl rfl) rfl rfl ?_ | refine aD rfl (fun _ => dY rfl rfl) rfl rfl ?_) | (refine bT ?_; first | refine aD rfl (fun _ => dZ rfl w_) rfl rfl ?_) | (refine gM ?_; first | refine aD rfl (fun _ => dD rfl w_) rfl rfl ?_) | (refine gH ?_; first | refine aD rfl (fun _ => bL rfl) rfl rfl ?_ | refine aD rfl (fun _ => dH rfl rfl) rfl rfl ?_ | refine aD rfl (fun _ => dJ rfl rfl) rfl rfl ?_ | refine aD rfl (fun _ => dI rfl rfl rfl) rfl rfl ?_) | (refine gL ?_; first | refine gP rfl (by decide) rfl rfl ?_ | refine jH rfl (by decide) rfl rfl ?_) | (refine gN ?_; first | refine aD rfl (fun _ => cO rfl) rfl rfl ?_) | (refine gW ?_; first | refine jB rfl rfl iQ rfl rfl ?_ | refine jE kV rfl rfl iQ aP jL rfl rfl ?_ | refine jF kV rfl rfl iQ aP jL rfl rfl ?_ | refine aD rfl (fun _ => bS rfl rfl iQ) rfl rfl ?_) | (refine gV ?_; first | refine jI kV rfl aP nJ rfl rfl ?_ | refine jG kV rfl aP nJ rfl rfl ?_ | refine jC kV rfl aP nJ rfl rfl ?_ | refine fI kV rfl aP nJ rfl rfl ?_ | refine kQ kV rfl aP iG fC rfl rfl ?_ | refine kR kV rfl aP iG fC rfl rfl ?_ | refine kP kV rfl aP iG fC rfl rfl ?_ | refine jM kV rfl aP iG fC rfl rfl ?_) | (refine gU ?_; first | refine aD rfl (fun _ => bR rfl rfl) rfl rfl ?_ | refine aD rfl (fun _ => bJ rfl) rfl rfl ?_) | (refine iH ?_; first | refine lT rfl rfl rfl lW stC rfl rfl ⟨jD, ?_⟩ | refine gF rfl rfl fC qE lW qO rfl rfl ⟨jD, ?_⟩) | (refine iM ?_; first | refine bZ rfl ?_ | refine bQ rfl ?_ | refine jQ rfl (by omega) ?_ | refine lZ rfl (by omega) ?_))); exact hh.out)) : p := w ⟨h⟩
end Go.Fx

/- A premise that no search takes for another; looks alone. The walk, kept once. integer: magnitudes: at, trim, plus, minus, compare, times, short integer: magnitudes: minus, times, split integer: magnitudes: times The symbolic heap, continued: results that lie in cells. -/
import Derived.Test.YtjbhdfpjnjedhaaGreatZmae
import Derived.Test.YtjbhdfpjnjedhaaGreatZmaf
set_option linter.unusedSimpArgs false
set_option linter.unusedVariables false
set_option maxRecDepth 100000
set_option maxHeartbeats 4000000
namespace Go.Fx
structure BoxP (g : Prop) : Prop where
 out : g
section
variable {P : Program} {n : Nat} {Q : Exit → Act → World → Prop} {G : Env} {X : List Nat} {w0 : World} {M : List Ent} {I : List aX} {ops l : List Oper} {m : Mode} {c : Code} {e : Exit}
structure Br (b : Bool) (p q : Prop) : Prop where
 y : b = true → p
 n : b = false → q
theorem Br.dec {p : Prop} [Decidable p] : Br (B p) p (¬ p) := ⟨fun h => Decidable.byContradiction (fun hn => by rw [bE hn] at h; cases h), fun h hp => by rw [cB hp] at h; cases h⟩
theorem Br.raw {b : Bool} : Br b (b = true) (b = false) := ⟨id, id⟩
theorem Br.lit : Br true True False := ⟨fun _ => True.intro, fun h => by cases h⟩
theorem Br.lit2 : Br false False True := ⟨fun h => (by cases h), fun _ => True.intro⟩
theorem aM {c : Operand} {x y : Code} {b : Bool} {p q : Prop} (hc : ev G c = some (.bool b)) (h1 : p → TD P n x Q G X w0 M I) (h2 : q → TD P n y Q G X w0 M I) (hb : Br b p q := by first | exact Br.dec | exact Br.raw | fail) : TD P n (.cond c x y) Q G X w0 M I :=
 oD hc (fun e => h1 (hb.y e)) (fun e => h2 (hb.n e))
theorem aN {op : Op} {ty : TypeId} {pos : String} {af : Array Edge} {d : Option Nat} {b : Bool} {p q : Prop} {g : Nat × Bool} {t : Nat} (hj : nY ops g.1 = some t) (hv : lk G t = some (.bool b))
  (h1 : p → RD P n ops Q m (⟨d, op, ty, pos, af, some g⟩ :: l) ((t, .bool true) :: G) X w0 M I) (h2 : q → RD P n ops Q m (⟨d, op, ty, pos, af, some g⟩ :: l) ((t, .bool false) :: G) X w0 M I) (hb : Br b p q := by first | exact Br.dec | ((fail_if_success exact Br.lit); (fail_if_success exact Br.lit2); exact Br.raw) | fail) :
  RD P n ops Q m (⟨d, op, ty, pos, af, some g⟩ :: l) G X w0 M I := oG hj hv (fun e => h1 (hb.y e)) (fun e => h2 (hb.n e))
end
end Go.Fx
namespace Go.Fx
theorem kL {p g : Prop} (h : g) (w : BoxP g → p := by (intro hh; (first | refine aG ?_ | refine aH ?_ | refine jD ?_ | refine gU ?_ | refine fD ?_ | refine fA ?_ | refine gV ?_ | refine gM ?_ | refine fE ?_ | refine fC ?_ | refine jF ?_ | refine jG ?_ | refine jB ?_ | refine jE rfl ?_ | refine bX ?_ | (refine gG ?_; first | refine fV rfl rfl rfl ?_ | (refine fT rfl rfl ?_; refine eQ rfl rfl rfl mX ?_) | refine fQ rfl rfl (by omega) ?_ | refine gL rfl rfl (by omega) ?_) | (refine bN ?_; refine aC rfl (fun _ => dD rfl) rfl rfl ?_) | refine aC rfl (fun _ => aY rfl) rfl rfl ?_ | (refine fZ ?_; first | refine aC rfl (fun _ => bH rfl rfl w_) rfl rfl ?_ | refine aC rfl (fun _ => bF rfl rfl w_) rfl rfl ?_ | refine aC rfl (fun _ => dL rfl rfl w_) rfl rfl ?_ | refine aC rfl (fun _ => dK rfl rfl (by omega) q_) rfl rfl ?_ | refine aC rfl (fun _ => dJ rfl rfl (by omega) rfl) rfl rfl ?_ | refine aC rfl (fun _ => dC rfl rfl) rfl rfl ?_ | refine aC rfl (fun _ => dF rfl rfl) rfl rfl ?_ | refine aC rfl (fun _ => dG rfl rfl) rfl rfl ?_) | (refine bN ?_; first | refine aC rfl (fun _ => dH rfl w_) rfl rfl ?_) | (refine gH ?_; first | refine aC rfl (fun _ => bY rfl w_) rfl rfl ?_) | (refine gK ?_; first | refine aC rfl (fun _ => bG rfl) rfl rfl ?_ | refine aC rfl (fun _ => cO rfl rfl) rfl rfl ?_ | refine aC rfl (fun _ => cK rfl rfl) rfl rfl ?_ | refine aC rfl (fun _ => dB rfl rfl rfl) rfl rfl ?_) | (refine fU ?_; first | refine gD rfl (by decide) rfl rfl ?_ | refine iK rfl (by decide) rfl rfl ?_) | (refine gF ?_; first | refine aC rfl (fun _ => bV rfl) rfl rfl ?_) | (refine gI ?_; first | refine iL rfl rfl iB rfl rfl ?_ | refine iQ rD rfl rfl iB aO iW rfl rfl ?_ | refine iN rD rfl rfl iB aO iW rfl rfl ?_ | refine aC rfl (fun _ => bM rfl rfl iB) rfl rfl ?_) | (refine gJ ?_; first | refine iO rD rfl aO nW rfl rfl ?_ | refine iM rD rfl aO nW rfl rfl ?_ | refine fK rD rfl aO nW rfl rfl ?_ | refine fO rD rfl aO nW rfl rfl ?_ | refine kG rD rfl aO iF eX rfl rfl ?_ | refine kI rD rfl aO iF eX rfl rfl ?_ | refine kH rD rfl aO iF eX rfl rfl ?_ | refine jL rD rfl aO iF eX rfl rfl ?_) | (refine fP ?_; first | refine aC rfl (fun _ => bK rfl rfl) rfl rfl ?_ | refine aC rfl (fun _ => bD rfl) rfl rfl ?_) | (refine iG ?_; first | refine jV rfl rfl rfl mD stC rfl rfl ⟨mX, ?_⟩ | refine gX rfl rfl eX qV mD qX rfl rfl ⟨mX, ?_⟩) | (refine gT ?_; first | refine bS rfl ?_ | refine bI rfl ?_ | refine jH rfl (by omega) ?_ | refine lL rfl (by omega) ?_)); (repeat (first | refine aG ?_ | refine aH ?_ | refine jD ?_ | refine gU ?_ | refine fD ?_ | refine fA ?_ | refine gV ?_ | refine gM ?_ | refine fE ?_ | refine fC ?_ | refine jF ?_ | refine jG ?_ | refine jB ?_ | refine jE rfl ?_ | refine bX ?_ | (refine gG ?_; first | refine fV rfl rfl rfl ?_ | (refine fT rfl rfl ?_; refine eQ rfl rfl rfl mX ?_) | refine fQ rfl rfl (by omega) ?_ | refine gL rfl rfl (by omega) ?_) | (refine bN ?_; refine aC rfl (fun _ => dD rfl) rfl rfl ?_) | refine aC rfl (fun _ => aY rfl) rfl rfl ?_ | (refine fZ ?_; first | refine aC rfl (fun _ => bH rfl rfl w_) rfl rfl ?_ | refine aC rfl (fun _ => bF rfl rfl w_) rfl rfl ?_ | refine aC rfl (fun _ => dL rfl rfl w_) rfl rfl ?_ | refine aC rfl (fun _ => dK rfl rfl (by omega) q_) rfl rfl ?_ | refine aC rfl (fun _ => dJ rfl rfl (by omega) rfl) rfl rfl ?_ | refine aC rfl (fun _ => dC rfl rfl) rfl rfl ?_ | refine aC rfl (fun _ => dF rfl rfl) rfl rfl ?_ | refine aC rfl (fun _ => dG rfl rfl) rfl rfl ?_) | (refine bN ?_; first | refine aC rfl (fun _ => dH rfl w_) rfl rfl ?_) | (refine gH ?_; first | refine aC rfl (fun _ => bY rfl w_) rfl rfl ?_) | (refine gK ?_; first | refine aC rfl (fun _ => bG rfl) rfl rfl ?_ | refine aC rfl (fun _ => cO rfl rfl) rfl rfl ?_ | refine aC rfl (fun _ => cK rfl rfl) rfl rfl ?_ | refine aC rfl (fun _ => dB rfl rfl rfl) rfl rfl ?_) | (refine fU ?_; first | refine gD rfl (by decide) rfl rfl ?_ | refine iK rfl (by decide) rfl rfl ?_) | (refine gF ?_; first | refine aC rfl (fun _ => bV rfl) rfl rfl ?_) | (refine gI ?_; first | refine iL rfl rfl iB rfl rfl ?_ | refine iQ rD rfl rfl iB aO iW rfl rfl ?_ | refine iN rD rfl rfl iB aO iW rfl rfl ?_ | refine aC rfl (fun _ => bM rfl rfl iB) rfl rfl ?_) | (refine gJ ?_; first | refine iO rD rfl aO nW rfl rfl ?_ | refine iM rD rfl aO nW rfl rfl ?_ | refine fK rD rfl aO nW rfl rfl ?_ | refine fO rD rfl aO nW rfl rfl ?_ | refine kG rD rfl aO iF eX rfl rfl ?_ | refine kI rD rfl aO iF eX rfl rfl ?_ | refine kH rD rfl aO iF eX rfl rfl ?_ | refine jL rD rfl aO iF eX rfl rfl ?_) | (refine fP ?_; first | refine aC rfl (fun _ => bK rfl rfl) rfl rfl ?_ | refine aC rfl (fun _ => bD rfl) rfl rfl ?_) | (refine iG ?_; first | refine jV rfl rfl rfl mD stC rfl rfl ⟨mX, ?_⟩ | refine gX rfl rfl eX qV mD qX rfl rfl ⟨mX, ?_⟩) | (refine gT ?_; first | refine bS rfl ?_ | refine bI rfl ?_ | refine jH rfl (by omega) ?_ | refine lL rfl (by omega) ?_))); exact hh.out)) : p := w ⟨h⟩
end Go.Fx
namespace Go.Proofs.YtjbhdfpjnjedhaaGreat
open Go Go.Fx
abbrev eG : Int → List Value := eI .u32
theorem tY (l : List Int) (i : Nat) : gt l (i : Int) = l.getD i 0 := aCX l i
theorem aJK {l : List Int} {i : Int} (h : (l.length : Int) ≤ i) : gt l i = 0 := by
 unfold gt
 simp [List.getD, show l.length ≤ i.toNat by omega]
theorem oU (l : List Int) (i : Nat) (x : Int) : st l (i : Int) x = l.set i x := rfl
theorem Dig.gt {l : List Int} (h : Dig l) (i : Int) : 0 ≤ gt l i ∧ gt l i < 1000000000 := h.getD i.toNat
section
variable {X : List Nat} {w0 : World} {M0 : List Ent} {I0 : List aX}
theorem aHU {q : Option Addr} {l : List Int} {n c : Nat} {i : Int} (hn : n = l.length) (hi : 0 ≤ i) (hl : aQ q (recs eG l) ∈ I0) :
  CD Tryz.prog 251 [.slice q n c, .int .i64 i] X w0 M0 I0 (fun v M I => M0 = M ∧ I0 = I ∧ v = .int .u32 (gt l i)) := by
 subst hn
 refine dS Tryz.func251 rfl Tryz.ntmps251 rfl ?_
 repeat' (first | refine kL ?_ | refine aM rfl (fun h => ?_) (fun h => ?_) | refine aN rfl rfl (fun h => ?_) (fun h => ?_) | fail)
 ·refine aJ (by first | exact .inl rfl | exact .inr rfl) rfl rfl _ _ bW bT (⟨rfl, rfl, rfl⟩)
 ·refine aJ (by first | exact .inl rfl | exact .inr rfl) rfl rfl _ _ bW bT (⟨rfl, rfl, by rw [aJK (by omega)]⟩)
theorem pE {q : Option Addr} {l : List Int} {n c : Nat} (hn : n = l.length) (h63 : n ≤ 1000000000000) (hc : l.length ≤ c) (hl : aQ q (recs eG l) ∈ I0) :
  CD Tryz.prog 238 [.slice q n c] X w0 M0 I0 (fun v M I => M0 = M ∧ I = aQ q (recs eG (fJ l)) :: I0 ∧ v = .slice q (fJ l).length c) := by
 subst hn
 refine dS Tryz.func238 rfl Tryz.ntmps238 rfl ?_
 refine yC (φ := 0 < l.length → Ok q) (fun w hw h => (hw.sl hl).ok (by rw [iC]; omega)) (fun hq => ?_)
 repeat (refine kL ?_)
 refine aW [] rfl (fun k G M I => ∃ m : Nat, m ≤ l.length ∧ k = m ∧ fJ (l.take m) = fJ l ∧ G = [(0, .slice q m c)] ∧ M0 = M ∧ I0 = I) (l.length) _ _ _ aS bW bT (⟨l.length, by omega, rfl, by rw [List.take_length], rfl, rfl, rfl⟩) ?_
 rintro k G M I ⟨m, hm, rfl, ht, rfl, rfl, rfl⟩
 repeat' (first | refine kL ?_ | refine aM rfl (fun h => ?_) (fun h => ?_) | refine aN rfl rfl (fun h => ?_) (fun h => ?_) | fail)
 ·obtain ⟨b, o, rfl⟩ := (hq (by omega)).cases
  refine aC rfl (fun _ => oI (k - 1) rfl rfl (by omega) (by omega)) rfl rfl ?_
  repeat (refine kL ?_)
  have h1 := h
  refine aK (k - 1) _ _ _ (by first | omega | (simp only [List.length_append, List.length_cons, List.length_nil]; omega)) aS bW bT (⟨k - 1, by omega, rfl, ?_, rfl, rfl, rfl⟩)
  rw [← ht]
  obtain ⟨j, rfl⟩ : ∃ j, k = j + 1 := ⟨k - 1, by omega⟩
  have hj : j < l.length := by omega
  have e0 : gt l (j : Int) = 0 := by
   have e : ((j + 1 : Nat) : Int) - 1 = j := by omega
   rw [e] at h1
   exact h1
  rw [gQ hj] at e0
  rw [List.take_succ_eq_append_getElem hj, e0, uL]
  rfl
 ·have h1 := h
  have htop : Top (l.take k) := by
   obtain ⟨j, rfl⟩ : ∃ j, k = j + 1 := ⟨k - 1, by omega⟩
   have hj : j < l.length := by omega
   rw [List.take_succ_eq_append_getElem hj, Top.snoc, ← gQ hj]
   have e : ((j + 1 : Nat) : Int) - 1 = j := by omega
   rw [e] at h1
   exact h1
  have e1 : fJ l = l.take k := by rw [← ht, zO htop]
  refine xN (fun w hw => hw.takeI (cs := recs eG (fJ l)) (tl := recs eG (l.drop k)) (by rw [e1, ← mG, List.take_append_drop]; exact hl)) ?_
  refine aJ (by first | exact .inl rfl | exact .inr rfl) rfl rfl _ _ bW bT (⟨rfl, rfl, by rw [e1]; simp; omega⟩)
 ·have h0 : k = 0 := by omega
  subst h0
  have e1 : fJ l = [] := by rw [← ht]; rfl
  rw [e1]
  refine aDO q ?_
  refine aJ (by first | exact .inl rfl | exact .inr rfl) rfl rfl _ _ bW bT (⟨rfl, rfl, rfl⟩)
def GrP (n : Nat) (M0 : List Ent) (I0 : List aX) (v : Value) (M : List Ent) (I : List aX) : Prop := M0 = M ∧ ∃ q c, v = .slice q (gr n).length c ∧ ((gr n).length ≤ c ∧ (Ok q ∨ ((gr n).length = 0 ∧ c = 0))) ∧ I = aQ q (recs eG (gr n)) :: I0
theorem aIR {p q : Option Addr} {m n cp cq : Nat} (hm : (gr m).length ≤ 100000000000) (hn : (gr n).length ≤ 100000000000) (hp : aQ p (recs eG (gr m)) ∈ I0) (hq : aQ q (recs eG (gr n)) ∈ I0) :
  CD Tryz.prog 229 [.slice p (gr m).length cp, .slice q (gr n).length cq] X w0 M0 I0 (GrP (m + n) M0 I0) := by
 have da := bQ m
 have db := bQ n
 have va := bZ m
 have vb := bZ n
 generalize ha : gr m = a at *
 generalize hb : gr n = b at *
 obtain ⟨N, hN⟩ : ∃ N : Nat, N = max a.length b.length + 1 := ⟨_, rfl⟩
 refine dS Tryz.func229 rfl Tryz.ntmps229 rfl ?_
 repeat (refine kL ?_)
 (refine jS (N) rfl rfl (by omega) (by omega) (by omega) (by omega) (mI _ _) rfl rfl ?_; intro bo; refine ⟨mX, ?_⟩)
 repeat (refine kL ?_)
 refine aW [0, 1, 5, 17] rfl (fun k G M I => ∃ (i : Nat) (o : List Int) (cr : Int), i ≤ N ∧ k = N - i ∧ o.length = N ∧ Dig (o.take i) ∧ (0 ≤ cr ∧ cr ≤ 1) ∧ val (o.take i) + 1000000000 ^ i * cr = val (a.take i) + val (b.take i) ∧ G = [(6, .int .u32 cr), (18, .int .i64 i)] ∧ M = .blk bo (recs eG o) 104 :: M0 ∧ I0 = I) (N) _ _ _ aS bW bT (⟨0, _, 0, by omega, by omega, by simp, by simp [Dig], by omega, by simp [val], rfl, rfl, rfl⟩) ?_
 rintro k G M I ⟨i, o, cr, hi, rfl, ho, hd, hcr, hv, rfl, rfl, rfl⟩
 repeat' (first | refine kL ?_ | refine aM rfl (fun h => ?_) (fun h => ?_) | refine aN rfl rfl (fun h => ?_) (fun h => ?_) | fail)
 ·(refine aP rfl (aHU (i := i) rfl (by omega) hp) rfl rfl ?_; rintro _ _ _ ⟨rfl, rfl, rfl⟩; refine ⟨mX, ?_⟩)
  have d1 := da.gt i
  have d2 := db.gt i
  repeat (refine kL ?_)
  (refine aP rfl (aHU (i := i) rfl (by omega) hq) rfl rfl ?_; rintro _ _ _ ⟨rfl, rfl, rfl⟩; refine ⟨mX, ?_⟩)
  repeat' (first | refine kL ?_ | refine aM rfl (fun h => ?_) (fun h => ?_) | refine aN rfl rfl (fun h => ?_) (fun h => ?_) | fail)
  ·refine aK (N - (i + 1)) _ _ _ (by first | omega | (simp only [List.length_append, List.length_cons, List.length_nil]; omega)) aS bW bT (⟨i + 1, _, 1, by omega, rfl, by rw [dZ]; exact ho, ?_, by omega, ?_, rfl, rfl, rfl⟩)
   ·rw [oU, iT _ _ _ (by omega)]; exact hd.snoc (by omega)
   ·exact aDW hv (by omega) (s := gt a i + gt b i + cr) rfl (by omega)
  ·refine aK (N - (i + 1)) _ _ _ (by first | omega | (simp only [List.length_append, List.length_cons, List.length_nil]; omega)) aS bW bT (⟨i + 1, _, 0, by omega, rfl, by rw [dZ]; exact ho, ?_, by omega, ?_, rfl, rfl, rfl⟩)
   ·rw [oU, iT _ _ _ (by omega)]; exact hd.snoc (by omega)
   ·exact aDW hv (by omega) (s := gt a i + gt b i + cr) rfl (by omega)
 ·have hiN : i = N := by omega
  subst hiN
  rw [List.take_of_length_le (show o.length ≤ i by omega)] at hv hd
  rw [List.take_of_length_le (show a.length ≤ i by omega), List.take_of_length_le (show b.length ≤ i by omega), va, vb] at hv
  have hcr0 : cr = 0 := by
   have h1 := jO da
   have h2 := jO db
   have h3 := mE (show a.length ≤ i - 1 by omega)
   have h4 := mE (show b.length ≤ i - 1 by omega)
   have h5 : (1000000000 : Int) ^ i = 1000000000 ^ (i - 1) * 1000000000 := by
    rw [← Int.pow_succ]; congr 1; omega
   have h6 := iY (i - 1)
   have h7 := bP hd
   by_cases c : cr = 0
   ·exact c
   ·have : cr = 1 := by omega
    subst this
    omega
  subst hcr0
  have hg : fJ o = gr (m + n) := mQ hd (by omega)
  refine aZ uV ?_
  (refine aP rfl (pE (l := o) (c := i) ho.symm (by omega) (by omega) aO) rfl rfl ?_; rintro _ _ _ ⟨rfl, rfl, rfl⟩; refine ⟨mX, ?_⟩)
  repeat (refine kL ?_)
  rw [hg]
  refine aJ (by first | exact .inl rfl | exact .inr rfl) rfl rfl _ _ bW bT (⟨rfl, _, _, rfl, ⟨by rw [← hg]; have := sP o; obtain ⟨k, h1, h2, _⟩ := this; rw [h2]; simp; omega, .inl (Ok.mk _ _)⟩, rfl⟩)
end
end Go.Proofs.YtjbhdfpjnjedhaaGreat
namespace Go.Proofs.YtjbhdfpjnjedhaaGreat
open Go Go.Fx
section
variable {X : List Nat} {w0 : World} {M0 : List Ent} {I0 : List aX}
theorem wB {o : List Int} : (fJ o).length ≤ o.length := by
 obtain ⟨k, h1, h2, _⟩ := sP o
 rw [h2]; simp; omega
theorem zT {p q : Option Addr} {m n cp cq : Nat} (hm : (gr m).length ≤ 100000000000) (hle : n ≤ m) (hp : aQ p (recs eG (gr m)) ∈ I0) (hq : aQ q (recs eG (gr n)) ∈ I0) :
  CD Tryz.prog 230 [.slice p (gr m).length cp, .slice q (gr n).length cq] X w0 M0 I0 (GrP (m - n) M0 I0) := by
 have da := bQ m
 have db := bQ n
 have va := bZ m
 have vb := bZ n
 have hln := gP hle
 generalize ha : gr m = a at *
 generalize hb : gr n = b at *
 refine dS Tryz.func230 rfl Tryz.ntmps230 rfl ?_
 repeat (refine kL ?_)
 (refine jS (a.length) rfl rfl (by omega) (by omega) (by omega) (by omega) (mI _ _) rfl rfl ?_; intro bo; refine ⟨mX, ?_⟩)
 repeat (refine kL ?_)
 refine aW [0, 1, 5, 13] rfl (fun k G M I => ∃ (i : Nat) (o : List Int) (cr : Int), i ≤ a.length ∧ k = a.length - i ∧ o.length = a.length ∧ Dig (o.take i) ∧ (0 ≤ cr ∧ cr ≤ 1) ∧ val (o.take i) - 1000000000 ^ i * cr = val (a.take i) - val (b.take i) ∧ G = [(6, .int .u32 cr), (14, .int .i64 i)] ∧ M = .blk bo (recs eG o) 104 :: M0 ∧ I0 = I) (a.length) _ _ _ aS bW bT (⟨0, _, 0, by omega, by omega, by simp, by simp [Dig], by omega, by simp [val], rfl, rfl, rfl⟩) ?_
 rintro k G M I ⟨i, o, cr, hi, rfl, ho, hd, hcr, hv, rfl, rfl, rfl⟩
 repeat' (first | refine kL ?_ | refine aM rfl (fun h => ?_) (fun h => ?_) | refine aN rfl rfl (fun h => ?_) (fun h => ?_) | fail)
 ·(refine aP rfl (aHU (i := i) rfl (by omega) hq) rfl rfl ?_; rintro _ _ _ ⟨rfl, rfl, rfl⟩; refine ⟨mX, ?_⟩)
  have d1 := da.gt i
  have d2 := db.gt i
  repeat' (first | refine kL ?_ | refine aM rfl (fun h => ?_) (fun h => ?_) | refine aN rfl rfl (fun h => ?_) (fun h => ?_) | fail)
  ·refine aK (a.length - (i + 1)) _ _ _ (by first | omega | (simp only [List.length_append, List.length_cons, List.length_nil]; omega)) aS bW bT (⟨i + 1, _, 1, by omega, rfl, by rw [dZ]; exact ho, ?_, by omega, ?_, rfl, rfl, rfl⟩)
   ·rw [oU, iT _ _ _ (by omega)]; exact hd.snoc (by omega)
   ·exact aEQ hv (by omega) (show gt a i + 1000000000 - (gt b i + cr) - 1000000000 * 1 = gt a i - gt b i - cr by omega)
  ·refine aK (a.length - (i + 1)) _ _ _ (by first | omega | (simp only [List.length_append, List.length_cons, List.length_nil]; omega)) aS bW bT (⟨i + 1, _, 0, by omega, rfl, by rw [dZ]; exact ho, ?_, by omega, ?_, rfl, rfl, rfl⟩)
   ·rw [oU, iT _ _ _ (by omega)]; exact hd.snoc (by omega)
   ·exact aEQ hv (by omega) (show gt a i - (gt b i + cr) - 1000000000 * 0 = gt a i - gt b i - cr by omega)
 ·have hiN : i = a.length := by omega
  subst hiN
  rw [List.take_of_length_le (show o.length ≤ a.length by omega)] at hv hd
  rw [List.take_length, List.take_of_length_le hln, va, vb] at hv
  have hcr0 : cr = 0 := by
   have h1 := jO hd
   have h7 := bP hd
   rw [ho] at h1
   by_cases c : cr = 0
   ·exact c
   ·have : cr = 1 := by omega
    subst this
    omega
  subst hcr0
  have hg : fJ o = gr (m - n) := mQ hd (by omega)
  refine aZ uV ?_
  (refine aP rfl (pE (l := o) (c := a.length) ho.symm (by omega) (by omega) aO) rfl rfl ?_; rintro _ _ _ ⟨rfl, rfl, rfl⟩; refine ⟨mX, ?_⟩)
  repeat (refine kL ?_)
  have hle2 := wB (o := o)
  rw [hg] at hle2 ⊢
  refine aJ (by first | exact .inl rfl | exact .inr rfl) rfl rfl _ _ bW bT (⟨rfl, _, _, rfl, ⟨by omega, .inl (Ok.mk _ _)⟩, rfl⟩)
theorem pY {n : Nat} (hn : n ≤ 18446744073709551615) : CD Tryz.prog 225 [.int .u64 n] X w0 M0 I0 (GrP n M0 I0) := by
 refine dS Tryz.func225 rfl Tryz.ntmps225 rfl ?_
 repeat (refine kL ?_)
 refine nQ 104 1 ?_
 refine aW [] rfl (fun k G M I => ∃ (m : Nat) (a : Option Addr) (c' : Nat) (xs : List Int), m ≤ n ∧ k = m ∧ (0 < m → xs.length ≤ 2 - (gr m).length + 1) ∧ xs ++ gr m = gr n ∧ xs.length ≤ 3 ∧ G = [(0, .int .u64 m), (3, .slice a xs.length c')] ∧ M = .row a xs.length c' (recs eG xs) 104 1 :: M0 ∧ I0 = I) (n) _ _ _ aS bW bT (⟨n, none, 0, [], by omega, rfl, by simp, by simp, by simp, rfl, rfl, rfl⟩) ?_
 rintro k G M I ⟨m, a, c', xs, hm, rfl, _, hxs, hx3, rfl, rfl, rfl⟩
 have h3 : (gr n).length ≤ 3 := oK (by omega)
 have h4 : xs.length + (gr k).length ≤ 3 := by rw [← hxs] at h3; simpa using h3
 repeat' (first | refine kL ?_ | refine aM rfl (fun h => ?_) (fun h => ?_) | refine aN rfl rfl (fun h => ?_) (fun h => ?_) | fail)
 ·have hk : k ≠ 0 := by omega
  have e1 : ((k : Int)).tmod 1000000000 = ((k % 1000000000 : Nat) : Int) := by rw [Int.tmod_eq_emod_of_nonneg (by omega)]; omega
  have e2 : ((k : Int)).tdiv 1000000000 = ((k / 1000000000 : Nat) : Int) := by rw [Int.tdiv_eq_ediv_of_nonneg (by omega)]; omega
  rw [e1]
  have hgk := rX hk
  have h5 : (gr k).length = (gr (k / 1000000000)).length + 1 := by rw [hgk]; simp
  repeat (refine kL ?_)
  (refine bL (cs := recs eG [((k % 1000000000 : Nat) : Int)]) ([.int .u32 ((k % 1000000000 : Nat) : Int)]) rfl rfl (by intro v hv; repeat (first | exact absurd hv (List.not_mem_nil) | (rcases List.mem_cons.1 hv with rfl | hv; · rfl))) (by omega) rfl rfl rfl ?_; intro b2; refine ⟨mX, ?_⟩)
  (refine eF (ys := [((k % 1000000000 : Nat) : Int)]) 1 rfl rfl rfl ?_ (by decide) rfl (by omega) (by omega) rfl rfl ?_; (· first | exact Src.blk aO | exact Src.row aO | exact Src.imm aO (by first | assumption | exact .inl (Ok.mk _ _))); intro a2 c2; refine ⟨mX, ?_⟩)
  repeat (refine kL ?_)
  rw [e2]
  refine aK (k / 1000000000) _ _ _ (by first | omega | (simp only [List.length_append, List.length_cons, List.length_nil]; omega)) aS bW bT (⟨k / 1000000000, a2, c2, _, by omega, rfl, by intro _; simp; omega, by rw [List.append_assoc]; rw [hgk] at hxs; exact hxs, by simp; omega, rfl, rfl, rfl⟩)
 ·have h0 : k = 0 := by omega
  subst h0
  rw [gN, List.append_nil] at hxs
  subst hxs
  refine aRN (fun w hw => And.intro (hw.rowLe (List.Mem.head _)) ((hw.rowS (List.Mem.head _)).2.imp id And.right)) (fun hc => ?_)
  refine zU uV ?_
  refine aJ (by first | exact .inl rfl | exact .inr rfl) rfl rfl _ _ bW bT (⟨rfl, _, _, rfl, hc, rfl⟩)
end
end Go.Proofs.YtjbhdfpjnjedhaaGreat
namespace Go.Proofs.YtjbhdfpjnjedhaaGreat
open Go Go.Fx
theorem gY (l : List Int) (i j : Nat) (x : Int) : st l ((i : Int) + (j : Int)) x = l.set (i + j) x := by
 unfold st
 congr 1
theorem wR (l : List Int) (i j : Nat) : gt l ((i : Int) + (j : Int)) = l.getD (i + j) 0 := tY l (i + j)
theorem lJ {l : List Int} {i j : Nat} (x : Int) (h : i ≠ j) : (l.set i x).getD j 0 = l.getD j 0 := by
 simp [List.getD, List.getElem?_set_ne h]
section
variable {X : List Nat} {w0 : World} {M0 : List Ent} {I0 : List aX}
theorem aOX {p q : Option Addr} {m n cp cq : Nat} (hm : (gr m).length ≤ 100000000000) (hn : (gr n).length ≤ 100000000000) (hp : aQ p (recs eG (gr m)) ∈ I0) (hq : aQ q (recs eG (gr n)) ∈ I0) :
  CD Tryz.prog 201 [.slice p (gr m).length cp, .slice q (gr n).length cq] X w0 M0 I0 (GrP (m * n) M0 I0) := by
 have da := bQ m
 have db := bQ n
 have va := bZ m
 have vb := bZ n
 generalize ha : gr m = a at *
 generalize hb : gr n = b at *
 refine dS Tryz.func201 rfl Tryz.ntmps201 rfl ?_
 repeat (refine kL ?_)
 (refine jS (a.length + b.length) rfl rfl (by omega) (by omega) (by omega) (by omega) (mI _ _) rfl rfl ?_; intro bo; refine ⟨mX, ?_⟩)
 repeat (refine kL ?_)
 refine aW [1, 5, 18, 19] rfl (fun k G M I => ∃ (i : Nat) (o : List Int), i ≤ a.length ∧ k = a.length - i ∧ o.length = a.length + b.length ∧ Dig o ∧ val o = val (a.take i) * val b ∧ (∀ j : Nat, i + b.length ≤ j → o.getD j 0 = 0) ∧ G = [(20, .int .i64 i)] ∧ M = .blk bo (recs eG o) 104 :: M0 ∧ I0 = I) (a.length) _ _ _ aS bW bT (⟨0, _, by omega, by omega, by simp, Dig.zeros _, by rw [wO]; simp [val], fun j _ => by simp [List.getD, List.getElem?_replicate]; split <;> rfl, rfl, rfl, rfl⟩) ?_
 rintro k G M I ⟨i, o, hi, rfl, ho, hd, hv, hz, rfl, rfl, rfl⟩
 repeat' (first | refine kL ?_ | refine aM rfl (fun h => ?_) (fun h => ?_) | refine aN rfl rfl (fun h => ?_) (fun h => ?_) | fail)
 ·have hia : i < a.length := by omega
  have d1 := da.gt i
  refine aW [1, 5, 6, 7, 18, 19, 20, 25, 26] rfl (fun k G M I => ∃ (j : Nat) (u : List Int) (c : Int), j ≤ b.length ∧ k = b.length - j ∧ u.length = a.length + b.length ∧ Dig u ∧ (0 ≤ c ∧ c < 1000000000) ∧ val u + 1000000000 ^ (i + j) * c = val (a.take i) * val b + 1000000000 ^ i * (gt a i * val (b.take j)) ∧ (∀ j : Nat, i + b.length ≤ j → u.getD j 0 = 0) ∧ G = [(8, .int .u64 c), (27, .int .i64 j)] ∧ M = .blk bo (recs eG u) 104 :: M0 ∧ I0 = I) (b.length) _ _ _ aS bW bT (⟨0, o, 0, by omega, by omega, ho, hd, by omega, by simp [val, hv], hz, rfl, rfl, rfl⟩) ?_
  rintro k G M I ⟨j, u, c, hj, rfl, hu, hdu, hc, hvu, hzu, rfl, rfl, rfl⟩
  have d2 := db.gt j
  have d3 := hdu.gt ((i : Int) + j)
  have d4 := pR d1 d2 d3 hc
  have e1 : (gt u ((i : Int) + j) + gt a i * gt b j + c).tmod 1000000000 = (gt u ((i : Int) + j) + gt a i * gt b j + c) % 1000000000 := Int.tmod_eq_emod_of_nonneg d4.2.1.1
  have e2 : (gt u ((i : Int) + j) + gt a i * gt b j + c).tdiv 1000000000 = (gt u ((i : Int) + j) + gt a i * gt b j + c) / 1000000000 := Int.tdiv_eq_ediv_of_nonneg d4.2.1.1
  repeat' (first | refine kL ?_ | refine aM rfl (fun h => ?_) (fun h => ?_) | refine aN rfl rfl (fun h => ?_) (fun h => ?_) | fail)
  ·have hst := aGC (o := u) (b := b) (j := j) hvu (by omega)
   rw [e1, e2]
   refine aK (b.length - (j + 1)) _ _ _ (by first | omega | (simp only [List.length_append, List.length_cons, List.length_nil]; omega)) aS bW bT (⟨j + 1, _, _, by omega, rfl, by rw [dZ]; exact hu, ?_, d4.2.2, ?_, ?_, rfl, rfl, rfl⟩)
   ·rw [gY]; exact hdu.set _ (by omega)
   ·rw [gY, wR, tY, tY]
    rw [tY] at hst
    exact hst
   ·intro t ht
    rw [gY, lJ _ (by omega)]
    exact hzu t ht
  ·have hjb : j = b.length := by omega
   subst hjb
   have hst := aCP (o := u) (b := b) hvu (by omega) (hzu _ (Nat.le_refl _))
   repeat (refine kL ?_)
   refine aK (a.length - (i + 1)) _ _ _ (by first | omega | (simp only [List.length_append, List.length_cons, List.length_nil]; omega)) aS bW bT (⟨i + 1, _, by omega, rfl, by rw [dZ]; exact hu, ?_, ?_, ?_, rfl, rfl, rfl⟩)
   ·rw [gY]; exact hdu.set _ hc
   ·rw [gY, hst, bR, tY]
    rw [Int.add_mul, Int.mul_assoc]
   ·intro t ht
    rw [gY, lJ _ (by omega)]
    exact hzu t (by omega)
 ·have hiN : i = a.length := by omega
  subst hiN
  rw [List.take_length, va, vb] at hv
  have hg : fJ o = gr (m * n) := mQ hd (by rw [hv, Int.natCast_mul])
  refine aZ uV ?_
  (refine aP rfl (pE (l := o) (c := a.length + b.length) ho.symm (by omega) (by omega) aO) rfl rfl ?_; rintro _ _ _ ⟨rfl, rfl, rfl⟩; refine ⟨mX, ?_⟩)
  repeat (refine kL ?_)
  have hle2 := wB (o := o)
  rw [hg] at hle2 ⊢
  refine aJ (by first | exact .inl rfl | exact .inr rfl) rfl rfl _ _ bW bT (⟨rfl, _, _, rfl, ⟨by omega, .inl (Ok.mk _ _)⟩, rfl⟩)
end
end Go.Proofs.YtjbhdfpjnjedhaaGreat
namespace Go.Fx
def aBT (P : Program) (tmps : Array Value) (w : World) : List ResultVar → List Value → Prop
 | [], [] => True
 | .tmp t :: r, v :: vs => tmps.getD t undef = v ∧ aBT P tmps w r vs
 | .cell a t :: r, v :: vs => (do loadVar t (← asAddr (tmps.getD a undef)) : Sem Value).run P w = .ok v w ∧ aBT P tmps w r vs
 | _, _ => False
theorem vT (P : Program) (tmps : Array Value) (w : World) : ∀ (rs : List ResultVar) (vs : List Value), aBT P tmps w rs vs → (rs.toArray.mapM fun
  | ResultVar.tmp t => (pure (tmps.getD t undef) : Sem Value)
  | ResultVar.cell a t => do loadVar t (← asAddr (tmps.getD a undef))).run P w = Result.ok vs.toArray w := by
 intro rs vs h
 rw [List.mapM_toArray]
 simp only [Sem.run_map]
 have : ∀ (l : List ResultVar) (vs : List Value), aBT P tmps w l vs → (List.mapM (m := Sem) (fun
  | ResultVar.tmp t => (pure (tmps.getD t undef) : Sem Value)
  | ResultVar.cell a t => do loadVar t (← asAddr (tmps.getD a undef))) l).run P w = Result.ok vs w := by
  intro l
  induction l with
  | nil => intro vs h; cases vs with
   | nil => rfl
   | cons v vs => exact h.elim
  | cons r l ih =>
   intro vs h
   cases vs with
   | nil => cases r <;> exact h.elim
   | cons v vs =>
    cases r with
    | tmp t =>
     obtain ⟨h1, h2⟩ := h
     simp only [List.mapM_cons, Sem.run_bind, Sem.run_pure, Result.andThen_ok, ih vs h2, h1]
    | cell a t =>
     obtain ⟨h1, h2⟩ := h
     simp only [List.mapM_cons, Sem.run_bind] at h1 ⊢
     rw [h1]
     simp only [Result.andThen_ok, Sem.run_bind, ih vs h2, Sem.run_pure]
 rw [this rs vs h]
 rfl
theorem aBD {P : Program} {a : Tmp} {t : TypeId} {tmps : Array Value} {w : World} {b : Nat} {v : Value} {e : TypeId} [ht : ScalarTy P t] (hb : tmps.getD a undef = .pointer (some ⟨b, 0, none⟩)) (hB : Blk w b [v] e) :
  (do loadVar t (← asAddr (tmps.getD a undef)) : Sem Value).run P w = .ok v w := by
 have hc := hB.cell (o := 0) rfl
 have hb' : tmps[a]?.getD undef = .pointer (some ⟨b, 0, none⟩) := by simpa using hb
 simp [hb', asAddr, loadVar, mV, hc]
theorem aLI {P : Program} {a : Tmp} {t : TypeId} {sz : Nat} {tmps : Array Value} {w : World} {b : Nat} {cs : List Value} {e : TypeId} [ht : AggTy P t sz] (hb : tmps.getD a undef = .pointer (some ⟨b, 0, none⟩)) (hB : Blk w b cs e) (hl : cs.length = sz) :
  (do loadVar t (← asAddr (tmps.getD a undef)) : Sem Value).run P w = .ok (.agg cs.toArray) w := by
 have := run_loadCellsFrom (P := P) cs (hB.row0) sz 0 #[] (by omega) rfl
 have hb' : tmps[a]?.getD undef = .pointer (some ⟨b, 0, none⟩) := by simpa using hb
 simp [hb', asAddr, loadVar, nP, run_sizeOf ht.size, loadCells, this]
section
variable {P : Program} {n : Nat} {G : Env} {X : List Nat} {w0 : World} {M M' : List Ent} {I I' : List aX}
inductive RsD (P : Program) (G : Env) (M : List Ent) : List ResultVar → List Value → Prop
 | nil : RsD P G M [] []
 | tmp {t : Nat} {v : Value} {r : List ResultVar} {vs : List Value} (h : lk G t = some v) (k : RsD P G M r vs) : RsD P G M (.tmp t :: r) (v :: vs)
 | cell {a : Nat} {t : TypeId} {b : Nat} {v : Value} {e : TypeId} {r : List ResultVar} {vs : List Value} (ht : ScalarTy P t) (h : lk G a = some (.pointer (some ⟨b, 0, none⟩))) (hm : .blk b [v] e ∈ M) (k : RsD P G M r vs) : RsD P G M (.cell a t :: r) (v :: vs)
 | cellN {a : Nat} {t : TypeId} {sz b : Nat} {cs : List Value} {e : TypeId} {r : List ResultVar} {vs : List Value} (ht : AggTy P t sz) (h : lk G a = some (.pointer (some ⟨b, 0, none⟩))) (hm : .blk b cs e ∈ M) (hl : cs.length = sz) (k : RsD P G M r vs) : RsD P G M (.cell a t :: r) (.agg cs.toArray :: vs)
theorem RsD.ok {a : Act} {w : World} (ha : Has n G a) (hw : Mem X w0 M I w) {rs : List ResultVar} {vs : List Value} (h : RsD P G M rs vs) : aBT P a.tmps w rs vs := by
 induction h with
 | nil => trivial
 | tmp h _ ih => exact ⟨by simp [ha.get _ _ h], ih⟩
 | cell ht h hm _ ih => exact ⟨aBD (by simp [ha.get _ _ h]) (hw.blk hm), ih⟩
 | cellN ht h hm hl _ ih => exact ⟨aLI (by simp [ha.get _ _ h]) (hw.blk hm) hl, ih⟩
theorem fG {fn : Func} {K : Value → List Ent → List aX → Prop} {rs : List ResultVar} {vs : List Value} {ex : Exit} (he : ex = .ret ∨ ex = .normal) (hr : fn.results = rs.toArray) (hv : RsD P G M rs vs) (hl : Nat.beq vs.length 1 = false) (M' : List Ent) (I' : List aX) (hM : SubP M M') (hI : Inc I I') (h : K (.tuple vs.toArray) M' I') :
  ND n (Body P fn (KB K X w0)) ex G X w0 M I := ⟨fun w hw => ⟨fun a ha => by
 unfold Body
 have e1 := vT P a.tmps w rs vs (hv.ok ha hw)
 have e2 : (results fn a.tmps).run P w = .ok (.tuple vs.toArray) w := by
  have hne : ¬ vs.length = 1 := by intro e; simp [e] at hl
  unfold results
  rw [hr, Sem.run_bind]
  refine (congrArg (fun r => Result.andThen r fun a w' => Sem.run P (pure (if h : a.size = 1 then a[0] else Value.tuple a)) w') e1).trans ?_
  simp [hne]
 rcases he with rfl | rfl <;> exact ⟨ha.defers, _, e2, _, rfl, M', I', h, hw.weak hM hI⟩⟩⟩
theorem aPY {fn : Func} {K : Value → List Ent → List aX → Prop} {ex : Exit} {a : Tmp} {t : TypeId} {b : Nat} {v : Value} {e : TypeId} [ScalarTy P t] (he : ex = .ret ∨ ex = .normal) (hr : fn.results = #[.cell a t]) (hv : lk G a = some (.pointer (some ⟨b, 0, none⟩))) (hm : .blk b [v] e ∈ M) (M' : List Ent) (I' : List aX) (hM : SubP M M') (hI : Inc I I') (h : K v M' I') :
  ND n (Body P fn (KB K X w0)) ex G X w0 M I := ⟨fun w hw => ⟨fun act ha => by
 unfold Body
 have e1 : act.tmps.getD a undef = .pointer (some ⟨b, 0, none⟩) := by simp [ha.get a _ hv]
 have e2 := aAQ (P := P) (t := t) hr e1 (hw.blk hm)
 rcases he with rfl | rfl <;> exact ⟨ha.defers, _, e2, _, rfl, M', I', h, hw.weak hM hI⟩⟩⟩
end
end Go.Fx

/- consensus.Best. Best of the program at every kind; Best of moved pairs. Stable sorting, plain: merging by a key, the sorted list, how lists of parts change under swaps. Forest: the stable sort of numbers. Forest: the stable sort of numbers, merging. Forest: the stable sort of numbers, whole. Forest: sorting at most 12 numbers. Forest: insertion sort of numbers, Sort. -/
import Derived.Test.YtjbhdfpjnjedhaaGreatZqbk
import Derived.Test.YtjbhdfpjnjedhaaGreatZqau
import Derived.Test.YtjbhdfpjnjedhaaGreatZqbj
import Derived.Test.YtjbhdfpjnjedhaaGreatZqbf
import Derived.Test.YtjbhdfpjnjedhaaGreatZqad
import Derived.Test.YtjbhdfpjnjedhaaGreatZqat
set_option linter.unusedSimpArgs false
set_option linter.unusedVariables false
set_option maxRecDepth 100000
set_option maxHeartbeats 4000000
namespace Go.Proofs.YtjbhdfpjnjedhaaGreat
open Go Go.Fx
def aSR (o : Option (List Int × List Int × Mt)) (kd : Int) (M0 : List Ent) (I0 : List aT) (v : Value) (M : List Ent) (I : List aT) : Prop := M0 = M ∧ match o with
 | none => I0 = I ∧ v = .tuple #[.agg zF4.toArray, .int .i64 6]
 | some g => ∃ f : BF, v = .tuple #[.agg (eBF f).toArray, .int .i64 0] ∧ f.kd = kd ∧ f.smp = g.1 ∧ f.inl = g.2.1 ∧ f.m.q = g.2.2 ∧ f.m.dim 3 3 ∧ I = IsBF f :: I0
section
variable {X : List Nat} {w0 : World} {M0 M1 M2 : List Ent} {I0 : List aT}
theorem aHE {x tol : Int} {q : Option Addr} {l : List Q4} {n c : Nat} (hl : l.length = n) (hn : (n : Int) ≤ 9223372036854775807) (hc : yL x l tol ≠ 0) (hq : aR q (recs kP l) ∈ I0) :
  CD Tryz.prog 14 [.int .i64 x, .slice q n c, .int .i64 tol] X w0 M0 I0 (fun v M I => M0 = M ∧ I0 = I ∧ v = .tuple #[.agg zF4.toArray, .int .i64 (yL x l tol)]) := by
 have hK := fun M0 I0 h => aDC (X := X) (w0 := w0) (M0 := M0) (I0 := I0) (x := x) (q := q) (l := l) (n := n) (c := c) hl hn h
 have hT := fun M0 I0 => aPY (X := X) (w0 := w0) (M0 := M0) (I0 := I0) (t := tol)
 refine bK (φ := aR q (recs kP l)) (Hv.mem hq) ?_
 obtain ⟨C, hC⟩ : ∃ C, yL x l tol = C := ⟨_, rfl⟩
 rw [hC] at hc ⊢
 unfold yL at hC
 refine kZ Tryz.func14 rfl Tryz.ntmps14 rfl ?_
 refine aH ?_
 refine aI ?_
 (refine jX rfl rfl rfl ?_; intro b3; refine ⟨okF, ?_⟩)
 refine aO .here ?_
 (refine oJ rfl rfl rfl ?_; intro b4; refine ⟨okF, ?_⟩)
 (refine jX rfl rfl rfl ?_; intro b5; refine ⟨okF, ?_⟩)
 refine aO .here ?_
 (refine aF rfl rfl ?_; intro b6; refine ⟨okF, ?_⟩)
 by_cases h0 : sD x l = 0
 ·rw [h0, if_pos rfl] at hK
  rw [if_pos h0] at hC
  have ht : ¬ tolP tol := fun h => hc (by rw [← hC, if_pos h])
  rw [if_neg ht] at hC hT
  subst hC
  repeat (refine aJ ?_)
  (refine aA rfl (hK _ _ aB) rfl rfl ?_; rintro _ _ _ ⟨rfl, rfl, rfl⟩; refine ⟨okF, ?_⟩)
  repeat (refine aJ ?_)
  (refine aA rfl (hT _ _) rfl rfl ?_; rintro _ _ _ ⟨rfl, rfl, rfl⟩; refine ⟨okF, ?_⟩)
  repeat (refine aJ ?_)
  (refine aC rfl (fun _ => aU (pvs := ([]).zipIdx.map (fun p => (p.2, p.1))) (cells := zF4) rfl rfl) rfl rfl ?_)
  repeat (refine aJ ?_)
  refine kD (M' := .blk b6 zF4 36 :: M0) (I' := I0) aG aD ?_
  refine dZ (rs := [.cell 6 36, .tmp 7]) (vs := [.agg zF4.toArray, .int .i64 2]) (.inl rfl) rfl (.cellN (cs := zF4) inferInstance rfl aB rfl (.tmp rfl .nil)) rfl M0 I0 aG aD ⟨rfl, rfl, rfl⟩
 ·rw [if_neg h0] at hC hK
  rw [hC] at hK h0
  repeat (refine aJ ?_)
  (refine aA rfl (hK _ _ aB) rfl rfl ?_; rintro _ _ _ ⟨rfl, rfl, rfl⟩; refine ⟨okF, ?_⟩)
  repeat (refine aJ ?_)
  (refine aC rfl (fun _ => aU (pvs := ([]).zipIdx.map (fun p => (p.2, p.1))) (cells := zF4) rfl rfl) rfl rfl ?_)
  repeat (refine aJ ?_)
  refine kD (M' := .blk b6 zF4 36 :: M0) (I' := I0) aG aD ?_
  refine dZ (rs := [.cell 6 36, .tmp 7]) (vs := [.agg zF4.toArray, .int .i64 C]) (.inl rfl) rfl (.cellN (cs := zF4) inferInstance rfl aB rfl (.tmp rfl .nil)) rfl M0 I0 aG aD ⟨rfl, rfl, rfl⟩
theorem aMA {kd : Nat} {tol : Int} {q : Option Addr} {l : List Q4} {n c : Nat} {mdl : List Int → Option Mt} (hk : kd ≤ 3) (hl : l.length = n) (hn : n ≤ 12) (hc : oD l = 0) (ht : tolP tol) (hq : aR q (recs kP l) ∈ I0)
  (hM : ∀ (smp : List Int) (qs : Option Addr) (cs : Nat), SmpP n (kd + 1) 0 smp → ∀ M0 I0, aR q (recs kP l) ∈ I0 → CD Tryz.prog 51 [.int .i64 (kd : Int), .slice q n c, .slice qs (kd + 1) cs] X w0 (.row qs (kd + 1) cs (recs eZ smp) 3 1 :: M0) I0 (aQA (mdl smp) kX (.row qs (kd + 1) cs (recs eZ smp) 3 1 :: M0) I0)) :
  CD Tryz.prog 14 [.int .i64 (kd : Int), .slice q n c, .int .i64 tol] X w0 M0 I0 (aSR (mK mdl (fun A => kF A l tol) (zK n (kd + 1) 0)) (kd : Int) M0 I0) := by
 have hkc : sD (kd : Int) l = 0 := by unfold sD; rw [if_pos hc, if_pos ⟨by omega, by omega⟩]
 have hK := fun M0 I0 h => aDC (X := X) (w0 := w0) (M0 := M0) (I0 := I0) (x := (kd : Int)) (q := q) (l := l) (n := n) (c := c) hl (by omega) h
 have hT := fun M0 I0 => aPY (X := X) (w0 := w0) (M0 := M0) (I0 := I0) (t := tol)
 rw [hkc, if_pos rfl] at hK
 rw [if_pos ht] at hT
 have hs := (zW hc).2
 refine bK (φ := aR q (recs kP l)) (Hv.mem hq) ?_
 refine kZ Tryz.func14 rfl Tryz.ntmps14 rfl ?_
 refine aH ?_
 refine aI ?_
 (refine jX rfl rfl rfl ?_; intro b3; refine ⟨okF, ?_⟩)
 refine aO .here ?_
 (refine oJ rfl rfl rfl ?_; intro b4; refine ⟨okF, ?_⟩)
 (refine jX rfl rfl rfl ?_; intro b5; refine ⟨okF, ?_⟩)
 refine aO .here ?_
 (refine aF rfl rfl ?_; intro b6; refine ⟨okF, ?_⟩)
 repeat (refine aJ ?_)
 (refine aA rfl (hK _ _ aB) rfl rfl ?_; rintro _ _ _ ⟨rfl, rfl, rfl⟩; refine ⟨okF, ?_⟩)
 repeat (refine aJ ?_)
 (refine aA rfl (hT _ _) rfl rfl ?_; rintro _ _ _ ⟨rfl, rfl, rfl⟩; refine ⟨okF, ?_⟩)
 have e1 : (kd : Int) + 1 = ((kd + 1 : Nat) : Int) := rfl
 by_cases h2 : (kd : Int) = 2
 ·repeat (refine aJ ?_)
  (refine aF rfl rfl ?_; intro b10; refine ⟨okF, ?_⟩)
  repeat (refine aJ ?_)
  rw [e1]
  refine iX (φ := IsBF zBF) Hv.zBF ?_
  refine vE (M' := enB b10 zBF :: .blk b6 zF4 36 :: M0) (I' := IsBF zBF :: aR (some ⟨b5, 0, none⟩) [.int .i64 tol] :: aR (some ⟨b4, 0, none⟩) [.slice q n c] :: aR (some ⟨b3, 0, none⟩) [.int .i64 (kd : Int)] :: aR q (recs kP l) :: I0) SubP.refl aD ?_
  (refine aA rfl (vM (enB b10) IsBF (BR mdl (fun A => kF A l tol) (kd : Int)) (M1 := .blk b6 zF4 36 :: M0) (s0 := zBF) (by omega) (by omega) rfl (fun I1 hI vis s smp qs cs M2 hR hsm => aAI hl (by omega) ⟨by omega, by omega⟩ hs ht (hI _ aB) (hI _ aB) (hI _ aB) (hI _ aB) (hM smp qs cs hsm) hR hsm)) rfl rfl ?_; rintro _ _ _ ⟨f, hR, rfl, rfl⟩; refine ⟨okF, ?_⟩)
  unfold BR at hR
  cases hb : mK mdl (fun A => kF A l tol) (zK n (kd + 1) 0) with
  | none =>
   rw [hb] at hR
   have hp : f.m.p = none := by rw [hR]
   repeat (refine aJ ?_)
   refine aC rfl (fun _ => jI rfl) rfl rfl ?_
   rw [hp]
   repeat (refine aJ ?_)
   (refine aC rfl (fun _ => aU (pvs := ([]).zipIdx.map (fun p => (p.2, p.1))) (cells := zF4) rfl rfl) rfl rfl ?_)
   repeat (refine aJ ?_)
   refine kD (M' := .blk b6 zF4 36 :: M0) (I' := I0) aG aD ?_
   refine dZ (rs := [.cell 6 36, .tmp 7]) (vs := [.agg zF4.toArray, .int .i64 6]) (.inl rfl) rfl (.cellN (cs := zF4) inferInstance rfl aB rfl (.tmp rfl .nil)) rfl M0 I0 aG aD ⟨rfl, rfl, rfl⟩
  | some g =>
   rw [hb] at hR
   have hp : f.m.p.isNone = false := by
    cases hh : f.m.p with
    | none => exact absurd hh hR.2.2.2.2.2
    | some a => rfl
   repeat (refine aJ ?_)
   refine aC rfl (fun _ => jI rfl) rfl rfl ?_
   rw [hp]
   repeat (refine aJ ?_)
   refine kD (M' := .blk b6 (eBF f) 36 :: M0) (I' := IsBF f :: I0) aG aD ?_
   refine dZ (rs := [.cell 6 36, .tmp 7]) (vs := [.agg (eBF f).toArray, .int .i64 0]) (.inl rfl) rfl (.cellN (cs := eBF f) inferInstance rfl aB rfl (.tmp rfl .nil)) rfl M0 (IsBF f :: I0) aG aD ⟨rfl, f, rfl, hR.1, hR.2.1, hR.2.2.1, hR.2.2.2.1, hR.2.2.2.2.1, rfl⟩
 by_cases h3 : (kd : Int) = 3
 ·repeat (refine aJ ?_)
  (refine aF rfl rfl ?_; intro b10; refine ⟨okF, ?_⟩)
  repeat (refine aJ ?_)
  rw [e1]
  refine iX (φ := IsBF zBF) Hv.zBF ?_
  refine vE (M' := enB b10 zBF :: .blk b6 zF4 36 :: M0) (I' := IsBF zBF :: aR (some ⟨b5, 0, none⟩) [.int .i64 tol] :: aR (some ⟨b4, 0, none⟩) [.slice q n c] :: aR (some ⟨b3, 0, none⟩) [.int .i64 (kd : Int)] :: aR q (recs kP l) :: I0) SubP.refl aD ?_
  (refine aA rfl (vM (enB b10) IsBF (BR mdl (fun A => kF A l tol) (kd : Int)) (M1 := .blk b6 zF4 36 :: M0) (s0 := zBF) (by omega) (by omega) rfl (fun I1 hI vis s smp qs cs M2 hR hsm => aAI hl (by omega) ⟨by omega, by omega⟩ hs ht (hI _ aB) (hI _ aB) (hI _ aB) (hI _ aB) (hM smp qs cs hsm) hR hsm)) rfl rfl ?_; rintro _ _ _ ⟨f, hR, rfl, rfl⟩; refine ⟨okF, ?_⟩)
  unfold BR at hR
  cases hb : mK mdl (fun A => kF A l tol) (zK n (kd + 1) 0) with
  | none =>
   rw [hb] at hR
   have hp : f.m.p = none := by rw [hR]
   repeat (refine aJ ?_)
   refine aC rfl (fun _ => jI rfl) rfl rfl ?_
   rw [hp]
   repeat (refine aJ ?_)
   (refine aC rfl (fun _ => aU (pvs := ([]).zipIdx.map (fun p => (p.2, p.1))) (cells := zF4) rfl rfl) rfl rfl ?_)
   repeat (refine aJ ?_)
   refine kD (M' := .blk b6 zF4 36 :: M0) (I' := I0) aG aD ?_
   refine dZ (rs := [.cell 6 36, .tmp 7]) (vs := [.agg zF4.toArray, .int .i64 6]) (.inl rfl) rfl (.cellN (cs := zF4) inferInstance rfl aB rfl (.tmp rfl .nil)) rfl M0 I0 aG aD ⟨rfl, rfl, rfl⟩
  | some g =>
   rw [hb] at hR
   have hp : f.m.p.isNone = false := by
    cases hh : f.m.p with
    | none => exact absurd hh hR.2.2.2.2.2
    | some a => rfl
   repeat (refine aJ ?_)
   refine aC rfl (fun _ => jI rfl) rfl rfl ?_
   rw [hp]
   repeat (refine aJ ?_)
   refine kD (M' := .blk b6 (eBF f) 36 :: M0) (I' := IsBF f :: I0) aG aD ?_
   refine dZ (rs := [.cell 6 36, .tmp 7]) (vs := [.agg (eBF f).toArray, .int .i64 0]) (.inl rfl) rfl (.cellN (cs := eBF f) inferInstance rfl aB rfl (.tmp rfl .nil)) rfl M0 (IsBF f :: I0) aG aD ⟨rfl, f, rfl, hR.1, hR.2.1, hR.2.2.1, hR.2.2.2.1, hR.2.2.2.2.1, rfl⟩
 repeat (refine aJ ?_)
 (refine aF rfl rfl ?_; intro b10; refine ⟨okF, ?_⟩)
 repeat (refine aJ ?_)
 rw [e1]
 refine iX (φ := IsBF zBF) Hv.zBF ?_
 refine vE (M' := enB b10 zBF :: .blk b6 zF4 36 :: M0) (I' := IsBF zBF :: aR (some ⟨b5, 0, none⟩) [.int .i64 tol] :: aR (some ⟨b4, 0, none⟩) [.slice q n c] :: aR (some ⟨b3, 0, none⟩) [.int .i64 (kd : Int)] :: aR q (recs kP l) :: I0) SubP.refl aD ?_
 (refine aA rfl (vM (enB b10) IsBF (BR mdl (fun A => kF A l tol) (kd : Int)) (M1 := .blk b6 zF4 36 :: M0) (s0 := zBF) (by omega) (by omega) rfl (fun I1 hI vis s smp qs cs M2 hR hsm => aAI hl (by omega) ⟨by omega, by omega⟩ hs ht (hI _ aB) (hI _ aB) (hI _ aB) (hI _ aB) (hM smp qs cs hsm) hR hsm)) rfl rfl ?_; rintro _ _ _ ⟨f, hR, rfl, rfl⟩; refine ⟨okF, ?_⟩)
 unfold BR at hR
 cases hb : mK mdl (fun A => kF A l tol) (zK n (kd + 1) 0) with
 | none =>
  rw [hb] at hR
  have hp : f.m.p = none := by rw [hR]
  repeat (refine aJ ?_)
  refine aC rfl (fun _ => jI rfl) rfl rfl ?_
  rw [hp]
  repeat (refine aJ ?_)
  (refine aC rfl (fun _ => aU (pvs := ([]).zipIdx.map (fun p => (p.2, p.1))) (cells := zF4) rfl rfl) rfl rfl ?_)
  repeat (refine aJ ?_)
  refine kD (M' := .blk b6 zF4 36 :: M0) (I' := I0) aG aD ?_
  refine dZ (rs := [.cell 6 36, .tmp 7]) (vs := [.agg zF4.toArray, .int .i64 6]) (.inl rfl) rfl (.cellN (cs := zF4) inferInstance rfl aB rfl (.tmp rfl .nil)) rfl M0 I0 aG aD ⟨rfl, rfl, rfl⟩
 | some g =>
  rw [hb] at hR
  have hp : f.m.p.isNone = false := by
   cases hh : f.m.p with
   | none => exact absurd hh hR.2.2.2.2.2
   | some a => rfl
  repeat (refine aJ ?_)
  refine aC rfl (fun _ => jI rfl) rfl rfl ?_
  rw [hp]
  repeat (refine aJ ?_)
  refine kD (M' := .blk b6 (eBF f) 36 :: M0) (I' := IsBF f :: I0) aG aD ?_
  refine dZ (rs := [.cell 6 36, .tmp 7]) (vs := [.agg (eBF f).toArray, .int .i64 0]) (.inl rfl) rfl (.cellN (cs := eBF f) inferInstance rfl aB rfl (.tmp rfl .nil)) rfl M0 (IsBF f :: I0) aG aD ⟨rfl, f, rfl, hR.1, hR.2.1, hR.2.2.1, hR.2.2.2.1, hR.2.2.2.2.1, rfl⟩
end
end Go.Proofs.YtjbhdfpjnjedhaaGreat
namespace Go.Proofs.YtjbhdfpjnjedhaaGreat
open Go Go.Fx
def mdlQ (kd : Nat) (l : List Q4) (smp : List Int) : Option Mt := if kd = 3 then oW (nE l smp) else mE kd (nE l smp)
theorem aKV {f : Q4 → Q4} {l : List Q4} {i : Int} (h : 0 ≤ i ∧ i < l.length) : gt (l.map f) i = f (gt l i) := by
 obtain ⟨n, rfl⟩ : ∃ n : Nat, i = (n : Int) := ⟨i.toNat, by omega⟩
 rw [gN (by simp; omega), gN (by omega)]
 simp
theorem aSS {f : Q4 → Q4} {l : List Q4} {smp : List Int} (h : ∀ x ∈ smp, 0 ≤ x ∧ x < l.length) : nE (l.map f) smp = (nE l smp).map f := by
 unfold nE
 rw [List.map_map]
 exact List.map_congr_left (fun x hx => aKV (h x hx))
theorem aED {mp mp' : Option Mt} {f : Q4 → Q4} (h : Alike mp mp' f) {m m' : Mt} (e : mp = some m) (e' : mp' = some m') (tol : Int) (s : Q4) : okQ m tol s ↔ okQ m' tol (f s) := by
 have h1 := h.last m m' e e' s
 unfold okQ
 constructor
 ·rintro ⟨h0, h2⟩
  exact ⟨fun e0 => h0 (h1.2 e0), by rw [← h.mis m m' e e' s h0]; exact h2⟩
 ·rintro ⟨h0, h2⟩
  have h3 : oU m 2 s ≠ 0 := fun e0 => h0 (h1.1 e0)
  exact ⟨h3, by rw [h.mis m m' e e' s h3]; exact h2⟩
theorem aAR {mp mp' : Option Mt} {f : Q4 → Q4} (h : Alike mp mp' f) {m m' : Mt} (e : mp = some m) (e' : mp' = some m') (tol : Int) {l : List Q4} : ∀ n, n ≤ l.length → aFT m l tol n = aFT m' (l.map f) tol n
 | 0, _ => rfl
 | n + 1, hn => by
  have ih := aAR h e e' tol (l := l) n (by omega)
  show (if okQ m tol (gt l (n : Int)) then _ else _) = (if okQ m' tol (gt (l.map f) (n : Int)) then _ else _)
  rw [aKV ⟨by omega, by omega⟩, ih]
  by_cases h0 : okQ m tol (gt l (n : Int))
  ·rw [if_pos h0, if_pos ((aED h e e' tol _).1 h0)]
  ·rw [if_neg h0, if_neg (fun h1 => h0 ((aED h e e' tol _).2 h1))]
def aOQ (o o' : Option (List Int × List Int × Mt)) : Prop := (o = none ∧ o' = none) ∨ ∃ g g', o = some g ∧ o' = some g' ∧ g.1 = g'.1 ∧ g.2.1 = g'.2.1
theorem aDG {mdl mdl' : List Int → Option Mt} {inl inl' : Mt → List Int} : ∀ (ls : List (List Int)) (o o' : Option (List Int × List Int × Mt)), aOQ o o' → (∀ smp ∈ ls, (mdl smp = none ↔ mdl' smp = none) ∧ ∀ m m', mdl smp = some m → mdl' smp = some m' → inl m = inl' m') → aOQ (ls.foldl (zB mdl inl) o) (ls.foldl (zB mdl' inl') o')
 | [], o, o', h, _ => h
 | l :: r, o, o', h, hm => by
  refine aDG r _ _ ?_ (fun s hs => hm s (List.mem_cons_of_mem _ hs))
  obtain ⟨h1, h2⟩ := hm l List.mem_cons_self
  unfold zB
  rcases e : mdl l with _ | m
  ·rw [h1.1 e]; exact h
  ·rcases e' : mdl' l with _ | m'
   ·rw [h1.2 e'] at e; cases e
   ·have hi := h2 m m' e e'
    rcases h with ⟨rfl, rfl⟩ | ⟨g, g', rfl, rfl, ha, hb⟩
    ·exact .inr ⟨_, _, rfl, rfl, rfl, by first | exact hi | rfl⟩
    ·simp only
     rw [← hb, ← hi]
     by_cases hl : g.2.1.length < (inl m).length
     ·rw [if_pos hl, if_pos hl]; exact .inr ⟨_, _, rfl, rfl, rfl, by first | exact hi | rfl⟩
     ·rw [if_neg hl, if_neg hl]; exact .inr ⟨g, g', rfl, rfl, ha, hb⟩
theorem aJN {kd n : Nat} {l : List Q4} {f : Q4 → Q4} {tol : Int} (hl : l.length = n) (hA : ∀ ps : List Q4, ps.length = kd + 1 → Alike (if kd = 3 then oW ps else mE kd ps) (if kd = 3 then oW (ps.map f) else mE kd (ps.map f)) f) :
  aOQ (mK (mdlQ kd l) (fun A => kF A l tol) (zK n (kd + 1) 0)) (mK (mdlQ kd (l.map f)) (fun A => kF A (l.map f) tol) (zK n (kd + 1) 0)) := by
 unfold mK
 refine aDG _ _ _ (.inl ⟨rfl, rfl⟩) (fun smp hs => ?_)
 have hsm := aEU hs
 have hin : ∀ x ∈ smp, 0 ≤ x ∧ x < l.length := fun x hx => by have := hsm.2 x hx; omega
 have hal := hA (nE l smp) (by rw [xM]; exact hsm.1)
 rw [← aSS hin] at hal
 refine ⟨hal.none, fun m m' e e' => ?_⟩
 unfold kF
 rw [List.length_map]
 exact aAR hal e e' tol _ (Nat.le_refl _)
theorem aYJ {kd : Nat} (h : kd ≤ 2) : kU kd = 2 * (kd + 1) := by
 obtain rfl | rfl | rfl : kd = 0 ∨ kd = 1 ∨ kd = 2 := by omega
 all_goals rfl
theorem aAD {kd : Nat} {f : Q4 → Q4} (hk : kd ≤ 3) (M : MovL kd f) (H : HomM f) (ps : List Q4) (h : ps.length = kd + 1) : Alike (if kd = 3 then oW ps else mE kd ps) (if kd = 3 then oW (ps.map f) else mE kd (ps.map f)) f := by
 by_cases h3 : kd = 3
 ·rw [if_pos h3, if_pos h3]
  exact aVH H (by omega)
 ·rw [if_neg h3, if_neg h3]
  exact aWB M (by rw [h, aYJ (by omega)])
def pR (a b : Int) (ex tu : Bool) (s : Q4) : Q4 := (if tu then jZ else id) ((if ex then jH else id) (iB a b s))
theorem aGF {mp : Option Mt} : Alike mp mp id := ⟨Iff.rfl, fun m m' e e' s => by rw [e] at e'; cases e'; exact Iff.rfl, fun m m' e e' s _ => by rw [e] at e'; cases e'; rfl⟩
theorem aNV {kd : Nat} {a b : Int} {ex tu : Bool} (hk : kd ≤ 3) (ps : List Q4) (h : ps.length = kd + 1) : Alike (if kd = 3 then oW ps else mE kd ps) (if kd = 3 then oW (ps.map (pR a b ex tu)) else mE kd (ps.map (pR a b ex tu))) (pR a b ex tu) := by
 have a1 := aAD hk (aRU kd a b) (aOP a b) ps h
 have a2 : Alike (if kd = 3 then oW (ps.map (iB a b)) else mE kd (ps.map (iB a b))) (if kd = 3 then oW ((ps.map (iB a b)).map (if ex then jH else id)) else mE kd ((ps.map (iB a b)).map (if ex then jH else id))) (if ex then jH else id) := by
  cases ex
  ·show Alike _ (if kd = 3 then oW ((ps.map (iB a b)).map id) else mE kd ((ps.map (iB a b)).map id)) id
   rw [List.map_id]
   exact aGF
  ·exact aAD hk (aVA kd) aTS _ (by rw [List.length_map]; exact h)
 have a3 : Alike (if kd = 3 then oW ((ps.map (iB a b)).map (if ex then jH else id)) else mE kd ((ps.map (iB a b)).map (if ex then jH else id))) (if kd = 3 then oW (((ps.map (iB a b)).map (if ex then jH else id)).map (if tu then jZ else id)) else mE kd (((ps.map (iB a b)).map (if ex then jH else id)).map (if tu then jZ else id))) (if tu then jZ else id) := by
  cases tu
  ·show Alike _ (if kd = 3 then oW (List.map id _) else mE kd (List.map id _)) id
   rw [List.map_id]
   exact aGF
  ·exact aAD hk (aSZ kd) aTK _ (by rw [List.length_map, List.length_map]; exact h)
 have e : ps.map (pR a b ex tu) = ((ps.map (iB a b)).map (if ex then jH else id)).map (if tu then jZ else id) := by
  rw [List.map_map, List.map_map]
  rfl
 rw [e]
 exact (a1.comp a2).comp a3
theorem aNC {a b : Int} {ex tu : Bool} (ha : -10000 ≤ a ∧ a ≤ 10000) (hb : -10000 ≤ b ∧ b ≤ 10000) {s : Q4} (hx : -10000 ≤ s.x ∧ s.x ≤ 10000) (hy : -10000 ≤ s.y ∧ s.y ≤ 10000) (hu : -10000 ≤ s.u ∧ s.u ≤ 10000) (hv : -10000 ≤ s.v ∧ s.v ≤ 10000) : ¬ (pR a b ex tu s).far := by
 unfold Q4.far farC pR
 cases ex <;> cases tu <;> simp [iB, jH, jZ] <;> omega
section
variable {X : List Nat} {w0 : World} {M0 : List Ent} {I0 : List aT}
theorem aIA {kd : Nat} {tol : Int} {q : Option Addr} {l : List Q4} {n c : Nat} (hk : kd ≤ 3) (hl : l.length = n) (hn : n ≤ 12) (hc : oD l = 0) (ht : tolP tol) (hq : aR q (recs kP l) ∈ I0) :
  CD Tryz.prog 14 [.int .i64 (kd : Int), .slice q n c, .int .i64 tol] X w0 M0 I0 (aSR (mK (mdlQ kd l) (fun A => kF A l tol) (zK n (kd + 1) 0)) (kd : Int) M0 I0) := by
 obtain ⟨_, hs⟩ := zW hc
 refine aMA hk hl hn hc ht hq (fun smp qs_ cs hsm M0 I0 h => ?_)
 have hin : ∀ x ∈ smp, 0 ≤ x ∧ x < (n : Int) := fun x hx => by have := hsm.2 x hx; omega
 unfold mdlQ
 by_cases h3 : kd = 3
 ·subst h3
  rw [if_pos rfl]
  exact aGH hl (by omega) hs hsm.1 hin h
 ·rw [if_neg h3]
  exact aBW (by omega) hl (by omega) hs hsm.1 (by omega) hin h
end
end Go.Proofs.YtjbhdfpjnjedhaaGreat
namespace Go.Fx
section
variable {α : Type} (key : α → Int)
def mg : List α → List α → List α
 | [], ys => ys
 | x :: xs, [] => x :: xs
 | x :: xs, y :: ys => if key x ≤ key y then x :: mg xs (y :: ys) else y :: mg (x :: xs) ys
termination_by xs ys => xs.length + ys.length
theorem aAW (xs : List α) : mg key xs [] = xs := by cases xs <;> simp [mg]
theorem yC (xs : List α) : mg key [] xs = xs := by simp [mg]
theorem tF (x : α) (xs : List α) (y : α) (ys : List α) : mg key (x :: xs) (y :: ys) = if key x ≤ key y then x :: mg key xs (y :: ys) else y :: mg key (x :: xs) ys := by
 rw [mg]
theorem aIW : ∀ (xs ys : List α), (mg key xs ys).length = xs.length + ys.length
 | [], ys => by simp [mg]
 | x :: xs, [] => by simp [mg]
 | x :: xs, y :: ys => by
  rw [tF]
  split
  ·simp [aIW xs (y :: ys)]; omega
  ·simp [aIW (x :: xs) ys]; omega
termination_by xs ys => xs.length + ys.length
theorem aBY : ∀ (xs ys : List α) (z : α), z ∈ mg key xs ys ↔ z ∈ xs ∨ z ∈ ys
 | [], ys, z => by simp [mg]
 | x :: xs, [], z => by simp [mg]
 | x :: xs, y :: ys, z => by
  rw [tF]
  split
  ·simp only [List.mem_cons, aBY xs (y :: ys) z]
   constructor
   ·rintro (h | h | h | h) <;> simp [h]
   ·rintro ((h | h) | h | h) <;> simp [h]
  ·simp only [List.mem_cons, aBY (x :: xs) ys z]
   constructor
   ·rintro (h | (h | h) | h) <;> simp [h]
   ·rintro ((h | h) | h | h) <;> simp [h]
termination_by xs ys => xs.length + ys.length
theorem rU : ∀ (X1 Y1 X2 Y2 : List α), (∀ x ∈ X1, ∀ y ∈ Y2, key x ≤ key y) → (∀ y ∈ Y1, ∀ x ∈ X2, key y < key x) → mg key (X1 ++ X2) (Y1 ++ Y2) = mg key X1 Y1 ++ mg key X2 Y2
 | [], [], X2, Y2, _, _ => by simp [yC]
 | [], y :: Y1, [], Y2, _, _ => by simp [yC]
 | [], y :: Y1, x :: X2, Y2, h1, h2 => by
  have h := h2 y (by simp) x (by simp)
  have ih := rU [] Y1 (x :: X2) Y2 (by simp) (fun y' hy => h2 y' (by simp [hy]))
  simp only [List.nil_append, yC] at ih ⊢
  rw [List.cons_append, tF, if_neg (by omega), ih]
  rfl
 | x :: X1, [], X2, [], _, _ => by simp [aAW]
 | x :: X1, [], X2, y :: Y2, h1, h2 => by
  have h := h1 x (by simp) y (by simp)
  have ih := rU X1 [] X2 (y :: Y2) (fun x' hx => h1 x' (by simp [hx])) (by simp)
  simp only [List.nil_append, aAW] at ih ⊢
  rw [List.cons_append, tF, if_pos h, ih]
  rfl
 | x :: X1, y :: Y1, X2, Y2, h1, h2 => by
  rw [List.cons_append, List.cons_append, tF, tF]
  split
  ·have ih := rU X1 (y :: Y1) X2 Y2 (fun x' hx => h1 x' (by simp [hx])) h2
   rw [← List.cons_append, ih]
   rfl
  ·have ih := rU (x :: X1) Y1 X2 Y2 h1 (fun y' hy => h2 y' (by simp [hy]))
   rw [← List.cons_append, ih]
   rfl
termination_by X1 Y1 => X1.length + Y1.length
def Asc (l : List α) : Prop := l.Pairwise (fun a b => key a ≤ key b)
theorem Asc.mg : ∀ {X Y : List α}, Asc key X → Asc key Y → Asc key (mg key X Y)
 | [], Y, _, hY => by simpa [yC] using hY
 | x :: X, [], hX, _ => by simpa [aAW] using hX
 | x :: X, y :: Y, hX, hY => by
  have hX' := List.pairwise_cons.1 hX
  have hY' := List.pairwise_cons.1 hY
  rw [tF]
  split
  ·refine List.pairwise_cons.2 ⟨fun z hz => ?_, Asc.mg hX'.2 hY⟩
   rcases (aBY key _ _ _).1 hz with hz | hz
   ·exact hX'.1 z hz
   ·rcases List.mem_cons.1 hz with rfl | hz
    ·assumption
    ·have := hY'.1 z hz; omega
  ·refine List.pairwise_cons.2 ⟨fun z hz => ?_, Asc.mg hX hY'.2⟩
   rcases (aBY key _ _ _).1 hz with hz | hz
   ·rcases List.mem_cons.1 hz with rfl | hz
    ·omega
    ·have := hX'.1 z hz; omega
   ·exact hY'.1 z hz
termination_by X Y => X.length + Y.length
def yO (l : List α) : List α := l.foldl (fun acc x => mg key acc [x]) []
theorem aMF : yO key ([] : List α) = [] := rfl
theorem aBN (l : List α) (x : α) : yO key (l ++ [x]) = mg key (yO key l) [x] := by simp [yO, List.foldl_append]
theorem xU : ∀ (n : Nat) (l : List α), l.length = n → Asc key (yO key l) ∧ (yO key l).length = l.length
 | 0, l, h => by
  have : l = [] := List.eq_nil_of_length_eq_zero h
  subst this
  exact ⟨List.Pairwise.nil, rfl⟩
 | n + 1, l, h => by
  have hne : l ≠ [] := by intro e; subst e; simp at h
  obtain ⟨B', x, rfl⟩ : ∃ B' x, l = B' ++ [x] := ⟨l.dropLast, l.getLast hne, (List.dropLast_concat_getLast hne).symm⟩
  have ih := xU n B' (by simpa using h)
  rw [aBN]
  exact ⟨Asc.mg key ih.1 (List.pairwise_singleton _ _), by rw [aIW, ih.2]; simp⟩
theorem aER (l : List α) : Asc key (yO key l) := (xU key _ l rfl).1
theorem wM (l : List α) : (yO key l).length = l.length := (xU key _ l rfl).2
theorem zT (z : α) : ∀ (n : Nat) (l : List α), l.length = n → (z ∈ yO key l ↔ z ∈ l)
 | 0, l, h => by
  have : l = [] := List.eq_nil_of_length_eq_zero h
  subst this
  simp [aMF]
 | n + 1, l, h => by
  have hne : l ≠ [] := by intro e; subst e; simp at h
  obtain ⟨B', x, rfl⟩ : ∃ B' x, l = B' ++ [x] := ⟨l.dropLast, l.getLast hne, (List.dropLast_concat_getLast hne).symm⟩
  rw [aBN, aBY, zT z n B' (by simpa using h)]
  simp
theorem aXG {P1 P2 : List α} {x : α} (h1 : ∀ y ∈ P1, key y ≤ key x) (h2 : ∀ y ∈ P2, key x < key y) : mg key (P1 ++ P2) [x] = P1 ++ x :: P2 := by
 have := rU key P1 [] P2 [x] (fun a ha b hb => by simp at hb; subst hb; exact h1 a ha) (by simp)
 simp only [List.nil_append, aAW] at this
 rw [this]
 congr 1
 have := rU key [] [x] P2 [] (by simp) (fun y hy a ha => by simp at hy; subst hy; exact h2 a ha)
 simpa [yC, aAW] using this
theorem Asc.left {A B : List α} (h : Asc key (A ++ B)) : Asc key A := (List.pairwise_append.1 h).1
theorem Asc.right {A B : List α} (h : Asc key (A ++ B)) : Asc key B := (List.pairwise_append.1 h).2.1
theorem Asc.cross {A B : List α} (h : Asc key (A ++ B)) : ∀ a ∈ A, ∀ b ∈ B, key a ≤ key b := (List.pairwise_append.1 h).2.2
theorem Asc.at [Inhabited α] {l : List α} (h : Asc key l) {i j : Nat} (hij : i ≤ j) (hj : j < l.length) : key (gt l (i : Int)) ≤ key (gt l (j : Int)) := by
 rw [jD hj, jD (show i < l.length by omega)]
 by_cases e : i = j
 ·subst e; exact Int.le_refl _
 ·exact List.pairwise_iff_getElem.1 h i j _ _ (by omega)
/- parts -/
theorem aOU [Inhabited α] (A B : List α) (k : Nat) : gt (A ++ B) (k : Int) = if k < A.length then gt A (k : Int) else gt B ((k - A.length : Nat) : Int) := by
 rw [aFU, aFU, aFU]
 simp only [List.getD]
 split
 ·rename_i h; rw [List.getElem?_append_left h]
 ·rename_i h; rw [List.getElem?_append_right (by omega)]
theorem aWL [Inhabited α] {A B : List α} {x : α} {i : Int} (h : i = A.length) : gt (A ++ x :: B) i = x := by
 subst h
 rw [aOU, if_neg (by omega)]
 simp [gt]
theorem aWG {A B : List α} {x y : α} {i : Int} (h : i = A.length) : st (A ++ x :: B) i y = A ++ y :: B := by
 subst h
 simp [st]
theorem aXE {A B : List α} {x y : α} {i j : Int} (hi : i = A.length) (hj : j = A.length + 1) : st (st (A ++ x :: y :: B) j x) i y = A ++ y :: x :: B := by
 have : A ++ x :: y :: B = (A ++ [x]) ++ y :: B := by simp
 rw [this, aWG (by simp; omega)]
 have : (A ++ [x]) ++ x :: B = A ++ x :: x :: B := by simp
 rw [this, aWG hi]
end
end Go.Fx
namespace Go.Proofs.YtjbhdfpjnjedhaaGreat
open Go Go.Fx
/- ---------- the stable sort of []int ---------- -/
section
variable {X : List Nat} {w0 : World} {M0 : List Ent} {I0 : List aT}
def CmpI (g : FuncId) (fs cs' : Array Value) (key : Int → Int) (Pr : Int → Prop) (X : List Nat) (w0 : World) (b : Nat) (e : TypeId) (M0 : List Ent) (I0 : List aT) : Prop :=
 ∀ (cs : List Value) (x y : Int), Pr x → Pr y → CD Tryz.prog g (fs.toList ++ [(Value.int .i64) x, (Value.int .i64) y] ++ cs'.toList) X w0 (.blk b cs e :: M0) I0 (fun v M I => .blk b cs e :: M0 = M ∧ I0 = I ∧ ∃ r : Int, v = .int .i64 r ∧ (r < 0 ↔ key x < key y))
end
end Go.Proofs.YtjbhdfpjnjedhaaGreat
namespace Go.Proofs.YtjbhdfpjnjedhaaGreat
open Go Go.Fx
/- ---------- the stable sort of []int: merging in place ---------- -/
section
variable {X : List Nat} {w0 : World} {M0 : List Ent} {I0 : List aT}
end
end Go.Proofs.YtjbhdfpjnjedhaaGreat
namespace Go.Proofs.YtjbhdfpjnjedhaaGreat
open Go Go.Fx
/- ---------- the stable sort of []int: whole, below 40 elements ---------- -/
section
variable {X : List Nat} {w0 : World} {M0 : List Ent} {I0 : List aT}
end
end Go.Proofs.YtjbhdfpjnjedhaaGreat
namespace Go.Proofs.YtjbhdfpjnjedhaaGreat
open Go Go.Fx
theorem aCF {P : Program} {n : Nat} {G : Env} {ty : TypeId} {C : World → Prop} {t : TypeId} {x ix : Operand} {s : ByteArray} {k : IntKind} {i : Int} {b : UInt8} [ht : StrTy P t] (hx : ev G x = some (.string s)) (hi : ev G ix = some (.int k i)) (h0 : 0 ≤ i) (hb : s[i.toNat]? = some b) :
  Const P n G (.index t x ix) ty C (.int .u8 b.toNat) := by
 refine ⟨?_⟩
 intro st ha dst pos after guard w _
 simp [execOp, Instr.index, ha.ev hx, ha.ev hi, asIntOf, fE ht.und, h0, hb]
theorem aPC {P : Program} {n : Nat} {ops l : List Oper} {Q : Exit → Act → World → Prop} {m : Fx.Mode} {G : Env} {X : List Nat} {w0 : World} {M : List Ent} {I : List aT} {ty : TypeId} {pos : String} {af : Array Edge} {g : Option (Nat × Bool)} {d : Nat} {t : TypeId} {x ix : Operand} {s : ByteArray} {kk : IntKind} {i : Int} [StrTy P t]
  (hx : ev G x = some (.string s)) (hi : ev G ix = some (.int kk i)) (h0 : 0 ≤ i) (h1 : i.toNat < s.size) (hg : oZ ops G g = some true) (hd : Nat.ble (d + 1) n = true)
  (k : ∀ b : Int, 0 ≤ b ∧ b < 256 → RD P n ops Q m.next l ((d, .int .u8 b) :: G) X w0 M I) : RD P n ops Q m (⟨some d, .index t x ix, ty, pos, af, g⟩ :: l) G X w0 M I :=
 aC hg (fun _ => aCF hx hi h0 (getElem?_pos s i.toNat h1)) rfl hd (k _ ⟨Int.natCast_nonneg _, by have := UInt8.toNat_lt (s[i.toNat]'h1); omega⟩)
section
variable {X : List Nat} {w0 : World} {M0 : List Ent} {I0 : List aT}
theorem aRA {x : Int} : CD Tryz.prog 235 [.int .i64 x] X w0 M0 I0 (fun v M I => M0 = M ∧ I0 = I ∧ v = .bool false) := by
 refine bN Tryz.func235 rfl Tryz.ntmps235 rfl ?_
 repeat (refine aJ ?_)
 refine aM (by first | exact .inl rfl | exact .inr rfl) rfl rfl _ _ aG aD (⟨rfl, rfl, congrArg Value.bool (dP (fun h => h rfl))⟩)
theorem aTI {x y : Int} : CD Tryz.prog 210 [.int .i64 x, .int .i64 y] X w0 M0 I0 (fun v M I => M0 = M ∧ I0 = I ∧ v = .bool (B (x < y))) := by
 refine bL Tryz.func210 rfl Tryz.ntmps210 rfl ?_
 repeat (refine aJ ?_)
 (refine aA rfl (aRA) rfl rfl ?_; rintro _ _ _ ⟨rfl, rfl, rfl⟩; refine ⟨okF, ?_⟩)
 repeat (refine aJ ?_)
 refine aM (by first | exact .inl rfl | exact .inr rfl) rfl rfl _ _ aG aD (⟨rfl, rfl, rfl⟩)
theorem aNU {x : Int} (h0 : 0 ≤ x) (h1 : x < 256) : CD Tryz.prog 214 [.int .u64 x] X w0 M0 I0 (fun v M I => M0 = M ∧ I0 = I ∧ ∃ r : Int, v = .int .i64 r) := by
 refine bN Tryz.func214 rfl Tryz.ntmps214 rfl ?_
 repeat (refine aJ ?_)
 refine aPC rfl rfl h0 (Nat.lt_of_lt_of_eq (show x.toNat < 256 by omega) rfl) rfl rfl (fun b hb => ?_)
 repeat (refine aJ ?_)
 refine aM (by first | exact .inl rfl | exact .inr rfl) rfl rfl _ _ aG aD (⟨rfl, rfl, _, rfl⟩)
theorem aWD {x : Int} (h0 : 0 ≤ x) (h1 : x < 256) : CD Tryz.prog 155 [.int .u64 x] X w0 M0 I0 (fun v M I => M0 = M ∧ I0 = I ∧ ∃ r : Int, v = .int .i64 r) := by
 refine bN Tryz.func155 rfl Tryz.ntmps155 rfl ?_
 repeat (refine aJ ?_)
 (refine aA rfl (aNU h0 h1) rfl rfl ?_; rintro _ _ _ ⟨rfl, rfl, r, rfl⟩; refine ⟨okF, ?_⟩)
 repeat (refine aJ ?_)
 refine aM (by first | exact .inl rfl | exact .inr rfl) rfl rfl _ _ aG aD (⟨rfl, rfl, r, rfl⟩)
end
end Go.Proofs.YtjbhdfpjnjedhaaGreat
namespace Go.Proofs.YtjbhdfpjnjedhaaGreat
open Go Go.Fx
section
variable {X : List Nat} {w0 : World} {M0 : List Ent} {I0 : List aT}
theorem aTZ {b n c : Nat} {tl : List Value} {P B S : List Int} {a z : Int} (hn : n = (P ++ B ++ S).length)
  (ha : a = P.length) (hz : z = P.length + B.length) (hbd : (n : Int) ≤ 1000000) :
  CD Tryz.prog 204 [.slice (some ⟨b, 0, none⟩) n c, .int .i64 a, .int .i64 z] X w0 (.blk b (recs (eI .i64) (P ++ B ++ S) ++ tl) 3 :: M0) I0
   (fun _ M I => .blk b (recs (eI .i64) (P ++ yO id B ++ S) ++ tl) 3 :: M0 = M ∧ I0 = I) := by
 have hlen : (P ++ B ++ S).length = P.length + B.length + S.length := by simp [Nat.add_assoc]
 refine dW Tryz.func204 rfl Tryz.ntmps204 rfl ?_
 repeat (refine wXn ?_)
 refine aZ [0, 1, 2] rfl (fun k G M I => ∃ (q : Nat) (i : Int) (D : List Int), i = a + 1 + q ∧ k = B.length - q ∧ (i ≤ z ∨ q = 0) ∧ D = P ++ (yO id (B.take (q + 1)) ++ (B.drop (q + 1) ++ S)) ∧ G = [(6, .int .i64 i)] ∧ M = .blk b (recs (eI .i64) D ++ tl) 3 :: M0 ∧ I0 = I) (B.length) _ _ _ aL cO cK (⟨0, a + 1, _, by omega, by omega, .inr rfl, ?_, rfl, rfl, rfl⟩) ?_
 ·cases B with
  | nil => simp [aMF]
  | cons x r => simp [yO, yC]
 rintro k G M I ⟨q, i, D, hi, rfl, hq, hD, rfl, rfl, rfl⟩
 have hDl : D.length = n := by
  rw [hD, hn]; simp [wM]; omega
 repeat' (first | refine wXn ?_ | refine bR rfl (fun h => ?_) (fun h => ?_) | refine bQ rfl rfl (fun h => ?_) (fun h => ?_) | fail)
 ·have hqB : q + 1 < B.length := by omega
  have hx : B.drop (q + 1) = B[q + 1] :: B.drop (q + 2) := List.drop_eq_getElem_cons hqB
  have hxB : B[q + 1] ∈ B := List.getElem_mem hqB
  have htk : B.take (q + 2) = B.take (q + 1) ++ [B[q + 1]] := List.take_succ_eq_append_getElem hqB
  generalize B[q + 1] = x at hx hxB htk
  have hsl := wM id (B.take (q + 1))
  have htl : (B.take (q + 1)).length = q + 1 := by simp; omega
  refine aZ [0, 1, 2, 6] rfl (fun k G M I => ∃ (P1 P2 D : List Int) (j : Int), yO id (B.take (q + 1)) = P1 ++ P2 ∧ j = P.length + P1.length ∧ k = P1.length ∧ (∀ y ∈ P2, x < y) ∧ D = (P ++ P1) ++ x :: (P2 ++ (B.drop (q + 2) ++ S)) ∧ G = [(7, .int .i64 j)] ∧ M = .blk b (recs (eI .i64) D ++ tl) 3 :: M0 ∧ I0 = I) (q + 1) _ _ _ aL cO cK (⟨yO id (B.take (q + 1)), [], D, i, by simp, by omega, by omega, by simp, by rw [hD, hx]; simp, rfl, rfl, rfl⟩) ?_
  rintro k G M I ⟨P1, P2, D, j, hs, hj, rfl, hP2, hD', rfl, rfl, rfl⟩
  have hDl' : D.length = n := by
   have := congrArg List.length hs
   rw [hD', hn]; simp at this ⊢; omega
  have hasc := aER id (B.take (q + 1))
  rw [hs] at hasc
  have done1 : (∀ y ∈ P1, y ≤ x) → D = P ++ (yO id (B.take (q + 1 + 1)) ++ (B.drop (q + 1 + 1) ++ S)) := fun h1 => by
   rw [show q + 1 + 1 = q + 2 from rfl, htk, aBN, hs, aXG id h1 hP2, hD']
   simp
  have hl2 := congrArg List.length hs
  simp only [List.length_append] at hl2
  by_cases hja : a < j
  ·have hne : P1 ≠ [] := by intro e; subst e; simp at hj; omega
   obtain ⟨Q1, y, rfl⟩ : ∃ Q1 y, P1 = Q1 ++ [y] := ⟨P1.dropLast, P1.getLast hne, (List.dropLast_concat_getLast hne).symm⟩
   have hyB : y ∈ B := by
    have : y ∈ yO id (B.take (q + 1)) := by rw [hs]; simp
    exact List.mem_of_mem_take ((zT id y _ _ rfl).1 this)
   simp only [List.length_append, List.length_cons, List.length_nil] at hj hl2
   have hDe : D = (P ++ Q1) ++ y :: x :: (P2 ++ (B.drop (q + 2) ++ S)) := by rw [hD']; simp
   have gj : gt D j = x := by rw [hD']; exact aWL (by simp; omega)
   have gj1 : gt D (j - 1) = y := by rw [hDe]; exact aWL (by simp; omega)
   (repeat refine aH ?_); refine gY [0, 1, 2, 3, 4, 5, 6, 7, 8, 9, 10, 11, 12, 13, 14] [1, 1, 1, 0, 1, 1, 1, 0, 1, 1, 1, 1, 0, 0, 0] mixed (by kernel_rfl) ?_
   repeat (refine wXn ?_)
   rw [gj, gj1]
   (refine aS rfl (aTI (x := x) (y := y)) rfl rfl ?_; rintro _ _ _ ⟨rfl, rfl, rfl⟩; refine ⟨okD, ?_⟩)
   by_cases hxy : x < y
   ·rw [bV hxy]
    repeat (refine wXn ?_)
    (repeat refine aH ?_); refine aNY [0, 1, 2, 3, 4, 5, 6, 7, 8, 9, 10, 11, 12, 13, 14, 15, 16, 17] [0, 0, 1, 1, 1, 0, 0, 0, 0, 0, 1, 1, 1, 0, 0, 0, 0, 0] mixed (by kernel_rfl) ?_
    repeat (refine wXn ?_)
    rw [gj, gj1]
    refine aK (Q1.length) _ _ _ (by simp) aL cO cK ⟨Q1, y :: P2, _, j - 1, by rw [hs]; simp, by omega, rfl, fun u hu => ?_, ?_, rfl, rfl, rfl⟩
    ·rcases List.mem_cons.1 hu with rfl | hu
     ·exact hxy
     ·exact hP2 u hu
    ·rw [hDe, aXE (by simp; omega) (by simp; omega)]
     simp
   ·rw [dP hxy]
    repeat (refine wXn ?_)
    refine aK (B.length - (q + 1)) _ _ _ (by first | omega | (simp only [List.length_append, List.length_cons, List.length_nil]; omega)) aL cO cK (⟨q + 1, i + 1, D, by omega, rfl, .inl (by omega), done1 (fun u hu => ?_), rfl, rfl, rfl⟩)
    rcases List.mem_append.1 hu with hu | hu
    ·have : u ≤ y := Asc.cross id (Asc.left id hasc) u hu y (by simp)
     omega
    ·simp at hu; subst hu; omega
  ·have : P1 = [] := List.eq_nil_of_length_eq_zero (by omega)
   subst this
   (repeat refine aH ?_); refine gY [0, 1, 2, 3, 4, 5, 6, 7, 8, 9, 10, 11, 12, 13, 14] [1, 1, 1, 0, 1, 1, 1, 0, 1, 1, 1, 1, 0, 0, 0] mixed (by kernel_rfl) ?_
   repeat (refine wXn ?_)
   refine aK (B.length - (q + 1)) _ _ _ (by first | omega | (simp only [List.length_append, List.length_cons, List.length_nil]; omega)) aL cO cK (⟨q + 1, i + 1, D, by omega, rfl, .inl (by omega), done1 (by simp), rfl, rfl, rfl⟩)
 ·have h1 : B.take (q + 1) = B := List.take_of_length_le (by omega)
  have h2 : B.drop (q + 1) = [] := List.drop_eq_nil_of_le (by omega)
  rw [h1, h2] at hD
  simp only [List.nil_append, ← List.append_assoc] at hD
  subst hD
  refine nA (by first | exact .inl rfl | exact .inr rfl) rfl _ _ cO cK (⟨rfl, rfl⟩)
theorem aUH {b n c : Nat} {tl : List Value} {D : List Int} (hn : n = D.length) (hb : n ≤ 12) :
  CD Tryz.prog 107 [.slice (some ⟨b, 0, none⟩) n c] X w0 (.blk b (recs (eI .i64) D ++ tl) 3 :: M0) I0 (fun _ M I => .blk b (recs (eI .i64) (yO id D) ++ tl) 3 :: M0 = M ∧ I0 = I) := by
 have h1 := aTZ (X := X) (w0 := w0) (M0 := M0) (I0 := I0) (b := b) (c := c) (tl := tl) (P := []) (B := D) (S := []) (a := 0) (z := D.length) (n := n) (by simp [hn]) (by simp) (by simp) (by omega)
 simp only [List.append_nil, List.nil_append] at h1
 rw [← hn] at h1
 have hp : ∀ r : Int, CD Tryz.prog 154 [.slice (some ⟨b, 0, none⟩) n c, .int .i64 0, .int .i64 n, .int .i64 r] X w0 (.blk b (recs (eI .i64) D ++ tl) 3 :: M0) I0 (fun _ M I => .blk b (recs (eI .i64) (yO id D) ++ tl) 3 :: M0 = M ∧ I0 = I) := fun r => by
  refine dW Tryz.func154 rfl Tryz.ntmps154 rfl ?_
  repeat (refine wXn ?_)
  refine aZ [0] rfl (fun k G M I => k = 0 ∧ G = [(1, .int .i64 0), (2, .int .i64 n), (3, .int .i64 r), (8, .bool true), (9, .bool true)] ∧ M = .blk b (recs (eI .i64) D ++ tl) 3 :: M0 ∧ I0 = I) (0) _ _ _ aL cO cK (⟨rfl, rfl, rfl, rfl⟩) ?_
  rintro k G M I ⟨rfl, rfl, rfl, rfl⟩
  repeat (refine wXn ?_)
  (refine aS rfl (h1) rfl rfl ?_; rintro _ _ _ ⟨rfl, rfl⟩; refine ⟨okD, ?_⟩)
  repeat (refine wXn ?_)
  refine nA (by first | exact .inl rfl | exact .inr rfl) rfl _ _ cO cK (⟨rfl, rfl⟩)
 refine dW Tryz.func107 rfl Tryz.ntmps107 rfl ?_
 repeat (refine wXn ?_)
 (refine aS rfl (aWD (x := (n : Int)) (by omega) (by omega)) rfl rfl ?_; rintro _ _ _ ⟨rfl, rfl, r, rfl⟩; refine ⟨okD, ?_⟩)
 repeat (refine wXn ?_)
 (refine aS rfl (hp r) rfl rfl ?_; rintro _ _ _ ⟨rfl, rfl⟩; refine ⟨okD, ?_⟩)
 repeat (refine wXn ?_)
 refine nA (by first | exact .inl rfl | exact .inr rfl) rfl _ _ cO cK (⟨rfl, rfl⟩)
end
end Go.Proofs.YtjbhdfpjnjedhaaGreat

/- The law DegenerateAffine, walked. -/
import Derived.Test.YtkccjglmnhgabaaGreatZkbn
import Derived.Test.YtkccjglmnhgabaaGreatZkbk
import Derived.Test.YtkccjglmnhgabaaGreatZkam
set_option linter.unusedSimpArgs false
set_option linter.unusedVariables false
set_option maxRecDepth 100000
set_option maxHeartbeats 4000000
namespace Go.Proofs.YtkccjglmnhgabaaGreat
open Go Go.Fx
open Go.ChangeShapes Go.WideShapes Go.RowKit Go.ChangeAt
section
variable {H : Type} {enc : TypeId × Value → H} {W : World}
theorem aPA {base : Nat} {v : Value} (hv : Value.okWide Tryz.prog W .any base 84 v) : ∃ a b g d e f : Int, v = .agg #[.int .i8 a, .int .i8 b, .int .i8 g, .int .i8 d, .int .i8 e, .int .i8 f] ∧ ((-128 ≤ a ∧ a ≤ 127) ∧ (-128 ≤ b ∧ b ≤ 127) ∧ (-128 ≤ g ∧ g ≤ 127)) ∧ (-128 ≤ d ∧ d ≤ 127) ∧ (-128 ≤ e ∧ e ≤ 127) ∧ (-128 ≤ f ∧ f ≤ 127) := by
 obtain ⟨xs, rfl, hx, hw⟩ := aLV (k := .i8) (ts := [22, 22, 22, 22, 22, 22]) (n := 6) (.inr ⟨_, _, Tryz.underlying84⟩) (by kernel_rfl) (by intro u hu; simp at hu; subst hu; exact Tryz.underlying22) (by kernel_rfl) hv
 obtain ⟨a, b, g, d, e, f, rfl⟩ : ∃ a b g d e f, xs = [a, b, g, d, e, f] := by
  match xs, hx with
  | [a, b, g, d, e, f], _ => exact ⟨a, b, g, d, e, f, rfl⟩
 have h8 : ∀ {z : Int}, (Lit.int .i8 z).wf = true → -128 ≤ z ∧ z ≤ 127 := fun {z} h => by
  simp only [Lit.wf, Bool.and_eq_true, decide_eq_true_eq] at h
  have h2 := h.1
  have h3 := h.2
  rw [show IntKind.i8.max = 127 by decide] at h3
  rw [show IntKind.i8.min = -128 by decide] at h2
  exact ⟨h2, h3⟩
 exact ⟨a, b, g, d, e, f, rfl, ⟨h8 (hw a (by simp)), h8 (hw b (by simp)), h8 (hw g (by simp))⟩, h8 (hw d (by simp)), h8 (hw e (by simp)), h8 (hw f (by simp))⟩
end
instance S4.ons : Ones vF := ⟨fun s v hv => by simp only [List.mem_cons, List.not_mem_nil, or_false] at hv; rcases hv with rfl | rfl | rfl | rfl <;> rfl⟩
def vY (a b g d e f : Int) (s : P2) : S4 := ⟨s.x, s.y, a * s.x + b * s.y + g, d * s.x + e * s.y + f⟩
def nrT (s : P2) : Prop := (-1000 ≤ s.x ∧ s.x ≤ 1000) ∧ -1000 ≤ s.y ∧ s.y ≤ 1000
theorem zM {a b : Int} (ha : -128 ≤ a ∧ a ≤ 127) (hb : -1000 ≤ b ∧ b ≤ 1000) : -128000 ≤ a * b ∧ a * b ≤ 128000 := by
 have h1 : (a * b).natAbs ≤ 128 * 1000 := by rw [Int.natAbs_mul]; exact Nat.mul_le_mul (by omega) (by omega)
 omega
theorem xA {a b g x y : Int} : ((a * x + b * y + g : Int) : Rat) = (a : Rat) * x + b * y + g := by
 rw [Rat.intCast_add, Rat.intCast_add, Rat.intCast_mul, Rat.intCast_mul]
theorem aOX {a b g d e f : Int} {s : P2} : fE (vS (vY a b g d e f s)) = epiL (s.x : Rat) s.y ((a : Rat) * s.x + b * s.y + g) ((d : Rat) * s.x + e * s.y + f) := by
 rw [← xA, ← xA]
 show [_, _, _, _, _, _, _, _, _] = [_, _, _, _, _, _, _, _, _]
 rw [← Rat.intCast_mul, ← Rat.intCast_mul, ← Rat.intCast_mul, ← Rat.intCast_mul]
 rfl
theorem zX {a b : Int} : ((-a * b : Int) : Rat) = -((a : Rat) * b) := by
 rw [Rat.intCast_mul, Rat.intCast_neg, Rat.neg_mul]
theorem aOY {s : S4} : fE (uX s) = plaL (s.x : Rat) s.y s.u := by
 show [((s.x : Int) : Rat), s.y, (1 : Int), (0 : Int), (0 : Int), (0 : Int), ((-s.u * s.x : Int) : Rat), ((-s.u * s.y : Int) : Rat), ((-s.u : Int) : Rat)] = _
 rw [zX, zX, Rat.intCast_neg]
 rfl
theorem aRM {s : S4} : fE (vC s) = plbL (s.x : Rat) s.y s.v := by
 show [((0 : Int) : Rat), (0 : Int), (0 : Int), s.x, s.y, (1 : Int), ((-s.v * s.x : Int) : Rat), ((-s.v * s.y : Int) : Rat), ((-s.v : Int) : Rat)] = _
 rw [zX, zX, Rat.intCast_neg]
 rfl
theorem aTP {a b g d e f : Int} {l : List P2} {n : Nat} (hl : l.length = n) : rk (qE (l.map (vY a b g d e f))) 9 ≤ 6 ∧ rk (nD (l.map (vY a b g d e f))) 9 ≤ 8 := by
 have hl2 : (l.map (vY a b g d e f)).length = n := by rw [List.length_map, hl]
 have hg : ∀ i : Nat, i < n → gt (l.map (vY a b g d e f)) (i : Int) = vY a b g d e f (gt l (i : Int)) := fun i hi => by
  rw [cK (by omega), cK (by omega), List.getElem_map]
 constructor
 ·refine aWE (aAI hl2) (a := a) (b := b) (c := g) (d := d) (e := e) (f := f) (fun i => ((gt l (i : Int)).x : Rat)) (fun i => ((gt l (i : Int)).y : Rat)) (fun i hi => ?_)
  rw [aEN (by omega), hg i hi]
  exact aOX
 ·refine aXO (zV hl2) (a := a) (b := b) (c := g) (d := d) (e := e) (f := f) (fun i hi => ?_)
  obtain ⟨t, ht⟩ : ∃ t, i = 2 * t ∨ i = 2 * t + 1 := ⟨i / 2, by omega⟩
  have ht2 : t < n := by omega
  refine ⟨((gt l (t : Int)).x : Rat), ((gt l (t : Int)).y : Rat), ?_⟩
  rcases ht with rfl | rfl
  ·refine .inl ?_
   rw [(sP (by omega)).1, hg t ht2, aOY]
   exact congrArg (plaL _ _) xA
  ·refine .inr ?_
   rw [(sP (by omega)).2, hg t ht2, aRM]
   exact congrArg (plbL _ _) xA
section
variable {X : List Nat} {w0 : World} {M0 M1 : List Ent} {I0 : List aZ}
theorem LAff {q : Option Addr} {l : List P2} {n c : Nat} {a b g d e f : Int} (hl : l.length = n) (hn : (n : Int) ≤ 9223372036854775807) (ha : (-128 ≤ a ∧ a ≤ 127) ∧ (-128 ≤ b ∧ b ≤ 127) ∧ (-128 ≤ g ∧ g ≤ 127)) (hd : (-128 ≤ d ∧ d ≤ 127) ∧ (-128 ≤ e ∧ e ≤ 127) ∧ (-128 ≤ f ∧ f ≤ 127)) (hq : aV q (recs eP2 l) ∈ I0) :
  CD Tryz.prog 10 [.slice q n c, .agg #[.int .i8 a, .int .i8 b, .int .i8 g, .int .i8 d, .int .i8 e, .int .i8 f]] X w0 M0 I0 (fun v M I => M0 = M ∧ I0 = I ∧ v = .bool true) := by
 have hKn := fun M0 I0 => vW (X := X) (w0 := w0) (M0 := M0) (I0 := I0)
 obtain ⟨ha, hb, hg⟩ := ha
 obtain ⟨hd, he, hf⟩ := hd
 refine eQ (φ := aV q (recs eP2 l)) (Hv.mem hq) ?_
 refine bJ Tryz.func10 rfl Tryz.ntmps10 rfl ?_
 refine aI ?_
 refine aH ?_
 (refine aT rfl rfl rfl ?_; intro b3; refine ⟨okF, ?_⟩)
 refine aY (cs := [.int .i8 a, .int .i8 b, .int .i8 g, .int .i8 d, .int .i8 e, .int .i8 f]) .here ?_
 repeat (refine aL ?_)
 (refine aA rfl (hKn _ _) rfl rfl ?_; rintro _ _ _ ⟨rfl, rfl, rfl⟩; refine ⟨okF, ?_⟩)
 by_cases h10 : 10 < n
 ·repeat (refine aL ?_)
  refine aG (by first | exact .inl rfl | exact .inr rfl) rfl rfl _ _ aF aD (⟨rfl, rfl, rfl⟩)
 by_cases h0 : n = 0
 ·repeat (refine aL ?_)
  refine aG (by first | exact .inl rfl | exact .inr rfl) rfl rfl _ _ aF aD (⟨rfl, rfl, rfl⟩)
 repeat (refine aL ?_)
 (refine aW (cs := recs vF []) ([]) rfl rfl (by intro v hv; repeat (first | exact absurd hv (List.not_mem_nil) | (rcases List.mem_cons.1 hv with rfl | hv; · rfl))) (by omega) rfl rfl rfl ?_; intro b5; refine ⟨okF, ?_⟩; refine jN (mm := 0) 4 .here rfl (by omega) ?_)
 repeat (refine aL ?_)
 refine aR [3, 23, 24] rfl (fun k G M I => ∃ (i : Nat) (rows : List S4) (qe : Option Addr) (ce : Nat), i ≤ n ∧ k = n - i ∧ rows = (l.take i).map (vY a b g d e f) ∧ (∀ s ∈ l.take i, nrT s) ∧ G = [(5, .slice qe rows.length ce), (25, .int .i64 i)] ∧ M = .row qe rows.length ce (recs vF rows) 78 4 :: M0 ∧ I = aV (some ⟨b3, 0, none⟩) [.int .i8 a, .int .i8 b, .int .i8 g, .int .i8 d, .int .i8 e, .int .i8 f] :: aV q (recs eP2 l) :: I0) (n) _ _ _ aS aF aD (⟨0, [], some ⟨b5, 0, none⟩, _, by omega, rfl, rfl, fun s hs => by simp at hs, rfl, rfl, rfl⟩) ?_
 rintro kk G M I ⟨i, rows, qe, ce, hi, rfl, hrq, hnr, rfl, rfl, rfl⟩
 have hrl : rows.length = i := by rw [hrq, List.length_map, List.length_take]; omega
 by_cases hin : i < n
 ·have ht : l.take (i + 1) = l.take i ++ [gt l (i : Int)] := by rw [cK (by omega)]; exact (List.take_append_getElem (by omega)).symm
  obtain ⟨s, hss⟩ : ∃ s, gt l (i : Int) = s := ⟨_, rfl⟩
  rw [hss] at ht
  repeat (refine aL ?_)
  rw [hss]
  (refine aK rfl rfl ?_; intro b7; refine ⟨okF, ?_⟩)
  by_cases c1 : s.x < -1000
  ·repeat (refine aL ?_)
   refine sW (M' := M0) (I' := I0) aF aD ?_
   refine aG (by first | exact .inl rfl | exact .inr rfl) rfl rfl _ _ aF aD (⟨rfl, rfl, rfl⟩)
  by_cases c2 : 1000 < s.x
  ·repeat (refine aL ?_)
   refine sW (M' := M0) (I' := I0) aF aD ?_
   refine aG (by first | exact .inl rfl | exact .inr rfl) rfl rfl _ _ aF aD (⟨rfl, rfl, rfl⟩)
  by_cases c3 : s.y < -1000
  ·repeat (refine aL ?_)
   refine sW (M' := M0) (I' := I0) aF aD ?_
   refine aG (by first | exact .inl rfl | exact .inr rfl) rfl rfl _ _ aF aD (⟨rfl, rfl, rfl⟩)
  by_cases c4 : 1000 < s.y
  ·repeat (refine aL ?_)
   refine sW (M' := M0) (I' := I0) aF aD ?_
   refine aG (by first | exact .inl rfl | exact .inr rfl) rfl rfl _ _ aF aD (⟨rfl, rfl, rfl⟩)
  have m1 := zM ha (b := s.x) (by omega)
  have m2 := zM hb (b := s.y) (by omega)
  have m3 := zM hd (b := s.x) (by omega)
  have m4 := zM he (b := s.y) (by omega)
  repeat (refine aL ?_)
  (refine aC rfl (fun _ => bT (pvs := ([.int .i64 (a * s.x + b * s.y + g), .int .i64 (d * s.x + e * s.y + f)]).zipIdx.map (fun p => (p.2, p.1))) (cells := [.int .i64 (a * s.x + b * s.y + g), .int .i64 (d * s.x + e * s.y + f)]) rfl rfl) rfl rfl ?_)
  (refine aK rfl rfl ?_; intro b8; refine ⟨okF, ?_⟩)
  repeat (refine aL ?_)
  (refine aC rfl (fun _ => nZ (vals := [.agg (eP2 s).toArray, .agg #[.int .i64 (a * s.x + b * s.y + g), .int .i64 (d * s.x + e * s.y + f)]]) (cells := vF (vY a b g d e f s)) rfl ?hpl rfl ?hz) rfl rfl ?_; (case hpl => repeat (first | exact True.intro | refine ⟨rfl, ?_⟩)); (case hz => rfl))
  (refine aW (cs := recs vF [vY a b g d e f s]) ([vS4 (vY a b g d e f s)]) rfl rfl (by intro v hv; repeat (first | exact absurd hv (List.not_mem_nil) | (rcases List.mem_cons.1 hv with rfl | hv; · rfl))) (by omega) rfl rfl rfl ?_; intro bl; refine ⟨okF, ?_⟩)
  (refine eP (ys := [vY a b g d e f s]) 3 rfl rfl rfl ?_ (by decide) rfl (by omega) (by omega) rfl rfl ?_; (· first | exact Src.blk aB | exact Src.row aB | exact Src.imm aB (by first | assumption | exact .inl (Ok.mk _ _))); intro q3 c3'; refine ⟨okF, ?_⟩)
  have hq2 : rows ++ [vY a b g d e f s] = (l.take (i + 1)).map (vY a b g d e f) := by rw [ht, List.map_append, hrq]; rfl
  have hn2 : ∀ z ∈ l.take (i + 1), nrT z := fun z hz => by
   rw [ht] at hz
   rcases List.mem_append.1 hz with hz | hz
   ·exact hnr z hz
   ·rw [List.mem_singleton.1 hz]; exact ⟨by omega, by omega⟩
  repeat (refine aL ?_)
  refine aJ (n - (i + 1)) _ _ _ (by first | omega | (simp only [List.length_append, List.length_cons, List.length_nil]; omega)) aS aF aD (⟨i + 1, rows ++ [vY a b g d e f s], q3, c3', by omega, rfl, hq2, hn2, rfl, rfl, rfl⟩)
 ·obtain rfl : i = n := by omega
  rw [List.take_of_length_le (by omega)] at hrq hnr
  obtain ⟨k6, k8⟩ := aTP (a := a) (b := b) (g := g) (d := d) (e := e) (f := f) hl
  rw [← hrq] at k6 k8
  have hno : ¬ farP rows := by
   rintro ⟨z, hz, x, hx, hx2⟩
   rw [hrq] at hz
   obtain ⟨s, hs, rfl⟩ := List.mem_map.1 hz
   obtain ⟨n1, n2⟩ := hnr s hs
   have m1 := zM ha n1
   have m2 := zM hb n2
   have m3 := zM hd n1
   have m4 := zM he n2
   simp only [S4.l, vY, List.mem_cons, List.not_mem_nil, or_false] at hx
   rcases hx with rfl | rfl | rfl | rfl <;> omega
  have hvc : nA rows = 0 := by unfold nA; rw [if_neg (by omega), if_neg (by omega), if_neg hno]
  have hV := fun M0 I0 h => aHS (X := X) (w0 := w0) (M0 := M0) (I0 := I0) (q := qe) (l := rows) (n := i) (c := ce) hrl h
  have aE : (jB (qE rows) qT i).1.length = rk (qE rows) 9 := sN (aAI hrl)
  have aP : (jB (nD rows) qT (2 * i)).1.length = rk (nD rows) 9 := sN (zV hrl)
  rw [hvc, if_pos rfl, if_pos rfl, aE, aP] at hV
  generalize rk (qE rows) 9 = r1 at *
  generalize rk (nD rows) 9 = r2 at *
  repeat (refine aL ?_)
  refine iD (mm := rows.length) .here ?_
  rw [hrl]
  (refine aA rfl (hV _ _ aB) rfl rfl ?_; rintro _ _ _ ⟨rfl, rfl, rfl⟩; refine ⟨okF, ?_⟩)
  repeat (refine aL ?_)
  refine aG (by first | exact .inl rfl | exact .inr rfl) rfl rfl _ _ aF aD (⟨rfl, rfl, congrArg Value.bool (dG (by omega))⟩)
end
end Go.Proofs.YtkccjglmnhgabaaGreat

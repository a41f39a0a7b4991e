/- Chapter 31's law: a matrix without a row. The law DegenerateShapes, walked. Lists of points, of pairs and of pixels, opened. -/
import Derived.Test.YtkccjglmnhgabaaGreatZkbk
import Derived.Test.YtkccjglmnhgabaaGreatZkam
import Derived.Test.YtkccjglmnhgabaaGreatZkbl
import Derived.Test.YtkccjglmnhgabaaGreatZkbi
set_option linter.unusedSimpArgs false
set_option linter.unusedVariables false
set_option maxRecDepth 100000
set_option maxHeartbeats 4000000
namespace Go.Proofs.YtkccjglmnhgabaaGreat
open Go Go.Fx
section
variable {X : List Nat} {w0 : World} {M0 M1 : List Ent} {I0 : List aZ}
end
end Go.Proofs.YtkccjglmnhgabaaGreat
namespace Go.Proofs.YtkccjglmnhgabaaGreat
open Go Go.Fx
def aCF (s0 s : S3) : List Int := [s.x - s0.x, s.y - s0.y, s.z - s0.z]
def aIC (l : List S3) : Mt := (l.drop 1).map (fun s => fE (aCF (gt l 0) s))
theorem aEX {l : List S3} (h : ¬ farS l) {s : S3} (hs : s ∈ l) : ¬ farI [s.x, s.y, s.z] := fun e => h ⟨s, hs, e⟩
theorem aXF {l : List S3} (h : ¬ farS l) {s0 s : S3} (h0 : s0 ∈ l) (hs : s ∈ l) : ∀ x ∈ aCF s0 s, (-9223372036854775808 ≤ x ∧ x ≤ 9223372036854775807) ∧ x.natAbs ≤ 2 ^ 22 := by
 obtain ⟨a1, a2, a3⟩ := wZ (aEX h h0)
 obtain ⟨b1, b2, b3⟩ := wZ (aEX h hs)
 intro x hx
 have e22 : 2 ^ 22 = 4194304 := rfl
 simp only [aCF, List.mem_cons, List.not_mem_nil, or_false] at hx
 rcases hx with rfl | rfl | rfl <;> omega
def p3 (s : S3) (j : Nat) : Rat := (([s.x, s.y, s.z].getD j 0 : Int) : Rat)
theorem aUX {l : List S3} {n : Nat} (hl : l.length = n) : l.map vB = oO n (fun i => p3 (gt l (i : Int))) := by
 apply List.ext_getElem
 ·simp [oO, vL, hl]
 ·intro i h1 h2
  have hi : i < l.length := by simpa using h1
  simp only [oO, vL, List.getElem_map, List.getElem_range]
  rw [cK hi]
  rfl
theorem diff3 {l : List S3} {n : Nat} (hl : l.length = n) (hn : 1 ≤ n) : aIC l = qU n (fun i => p3 (gt l (i : Int))) := by
 apply List.ext_getElem
 ·simp [aIC, qU, vL, hl]
 ·intro i h1 h2
  have hi : i + 1 < l.length := by have : i < (l.drop 1).length := by simpa [aIC] using h1
                                   rw [List.length_drop] at this; omega
  simp only [aIC, qU, vL, List.getElem_map, List.getElem_range, List.getElem_drop]
  have e1 : gt l ((i + 1 : Nat) : Int) = l[i + 1] := cK hi
  have e2 : gt l ((0 : Nat) : Int) = gt l 0 := rfl
  have e3 : l[1 + i]'(by omega) = l[i + 1] := by congr 1; omega
  rw [e1, e2, e3]
  have e : ∀ a b : Int, ((a - b : Int) : Rat) = (a : Rat) - (b : Rat) := fun a b => Rat.intCast_sub a b
  dsimp only [fE, aCF, List.map]
  rw [e, e, e]
  rfl
theorem aXQ {l : List S3} {n : Nat} (hl : l.length = n) (hn : 1 ≤ n) : rk (l.map vB) 4 = rk (aIC l) 3 + 1 := by
 rw [aUX hl, diff3 hl hn]
 exact aRG hn
section
variable {X : List Nat} {w0 : World} {M0 M1 : List Ent} {I0 : List aZ}
theorem aNL {q : Option Addr} {l : List S3} {n c : Nat} (hl : l.length = n) (hn : 1 ≤ n ∧ n ≤ 10) (hc : n ≤ c) (hno : ¬ farS l) (hq : aV q (recs yG l) ∈ I0) :
  CD Tryz.prog 32 [.slice q n c] X w0 M0 I0 (fun v M I => M0 = M ∧ I0 = I ∧ v = .int .i64 (((rk (l.map vB) 4 : Nat) : Int) - 1)) := by
 rw [aXQ hl hn.1]
 have h0 := eO (ms := l) (i := 0) (by omega)
 obtain ⟨lt, hlt⟩ : ∃ z, l.drop 1 = z := ⟨_, rfl⟩
 have hlt2 : lt.length = n - 1 := by rw [← hlt, List.length_drop, hl]
 have hsub : ∀ s ∈ lt, s ∈ l := fun s hs => List.mem_of_mem_drop (by rw [hlt]; exact hs)
 obtain ⟨s0, hs0⟩ : ∃ z, gt l 0 = z := ⟨_, rfl⟩
 rw [hs0] at h0
 have hDq : aIC l = lt.map (fun s => fE (aCF s0 s)) := by unfold aIC; rw [hlt, hs0]
 rw [hDq]
 refine eQ (φ := aV q (recs yG l)) (Hv.mem hq) ?_
 refine bA Tryz.func32 rfl Tryz.ntmps32 rfl ?_
 repeat (refine aL ?_)
 (refine aW (cs := recs eL []) ([]) rfl rfl (by intro v hv; repeat (first | exact absurd hv (List.not_mem_nil) | (rcases List.mem_cons.1 hv with rfl | hv; · rfl))) (by omega) rfl rfl rfl ?_; intro b5; refine ⟨okF, ?_⟩; refine jN (mm := 0) 1 .here rfl (by omega) ?_)
 refine jO (φ := nY [] 22) Hv.nilL ?_
 repeat (refine aL ?_)
 (refine aC rfl (fun _ => yD (e := 111) (sz := 3) 1 n (n - 1) rfl (.inr ⟨_, _, _, rfl, rfl, rfl⟩) (.inl ⟨rfl, rfl⟩) (by omega) (by omega) (by omega)) rfl rfl ?_)
 refine aKQ (enc := yG) (ms := l) c 1 l.length aB (by omega) ?_
 rw [List.take_length, hlt]
 repeat (refine aL ?_)
 refine uB (M' := .row (some ⟨b5, 0, none⟩) 0 0 (recs eL []) 39 1 :: M0) (I' := nY [] 22 :: aV (xW q c 1 3) (recs yG lt) :: aV q (recs yG l) :: I0) aF aD ?_
 refine aR [0, 8, 9] rfl (fun k G M I => ∃ (i : Nat) (rows : List RL) (qe : Option Addr) (ce : Nat), i ≤ n - 1 ∧ k = n - 1 - i ∧ rows.length = i ∧ rows.map RL.q = (lt.take i).map (fun s => fE (aCF s0 s)) ∧ G = [(3, .slice qe rows.length ce), (10, .int .i64 i)] ∧ M = .row qe rows.length ce (recs eL rows) 39 1 :: M0 ∧ I = nY rows 22 :: aV (xW q c 1 3) (recs yG lt) :: aV q (recs yG l) :: I0) (n - 1) _ _ _ aS aF aD (⟨0, [], some ⟨b5, 0, none⟩, _, by omega, rfl, rfl, rfl, rfl, rfl, rfl⟩) ?_
 rintro kk G M I ⟨i, rows, qe, ce, hi, rfl, hrl, hrq, rfl, rfl, rfl⟩
 by_cases hin : i < n - 1
 ·have hmem := eO (ms := lt) (i := (i : Int)) (by omega)
  have ht : lt.take (i + 1) = lt.take i ++ [gt lt (i : Int)] := by rw [cK (by omega)]; exact (List.take_append_getElem (by omega)).symm
  obtain ⟨s, hss⟩ : ∃ s, gt lt (i : Int) = s := ⟨_, rfl⟩
  rw [hss] at hmem ht
  have hsm := aXF hno h0 (hsub s hmem)
  have hW := fun b9 M0 I0 h => uM (X := X) (w0 := w0) (M0 := M0) (I0 := I0) (q := some ⟨b9, 0, none⟩) (l := aCF s0 s) (n := 3) (c := 3) (u := 22) rfl (by omega) hsm h
  obtain ⟨a1, a2, a3⟩ := wZ (aEX hno h0)
  obtain ⟨d1, d2, d3⟩ := wZ (aEX hno (hsub s hmem))
  repeat (refine aL ?_)
  rw [hss]
  (refine aK rfl rfl ?_; intro b8; refine ⟨okF, ?_⟩)
  repeat (refine aL ?_)
  (repeat refine aI ?_); refine fM (.blk b8 (yG s) 111 :: M0) (nY rows 22 :: aV (xW q c 1 3) (recs yG lt) :: aV q (recs yG l) :: I0) [0, 1, 2, 3, 4, 5, 6, 7, 8, 9, 10, 11, 12, 13, 14, 15, 16, 17, 18, 19, 20, 21, 22, 23, 24, 25, 26] [3, 4, 4, 4, 4, 4, 4, 3, 4, 4, 4, 4, 4, 4, 3, 4, 4, 4, 4, 4, 4, 3, 0, 0, 0, 0, 0] aF aD mixed (by kernel_rfl) ?_
  repeat (refine aL ?_)
  rw [hs0]
  repeat (refine aL ?_)
  rw [hs0]
  repeat (refine aL ?_)
  rw [hs0]
  repeat (refine aL ?_)
  obtain ⟨dx, hdx⟩ : ∃ z, s.x - s0.x = z := ⟨_, rfl⟩
  obtain ⟨dy, hdy⟩ : ∃ z, s.y - s0.y = z := ⟨_, rfl⟩
  obtain ⟨dz, hdz⟩ : ∃ z, s.z - s0.z = z := ⟨_, rfl⟩
  have hdf : aCF s0 s = [dx, dy, dz] := by rw [← hdx, ← hdy, ← hdz]; rfl
  rw [hdx, hdy, hdz]
  rw [hdf] at hW
  (refine aW (cs := recs eZ [dx, dy, dz]) ([.int .i64 dx, .int .i64 dy, .int .i64 dz]) rfl rfl (by intro v hv; repeat (first | exact absurd hv (List.not_mem_nil) | (rcases List.mem_cons.1 hv with rfl | hv; · rfl))) (by omega) rfl rfl rfl ?_; intro b9; refine ⟨okF, ?_⟩)
  refine aY .here ?_
  (refine aA rfl (hW _ _ _ aB) rfl rfl ?_; rintro _ _ _ ⟨rfl, x, rfl, hxq, rfl⟩; refine ⟨okF, ?_⟩)
  (refine aW (cs := recs eL [x]) ([lv x]) rfl rfl (by intro v hv; repeat (first | exact absurd hv (List.not_mem_nil) | (rcases List.mem_cons.1 hv with rfl | hv; · rfl))) (by omega) rfl rfl rfl ?_; intro bl; refine ⟨okF, ?_⟩)
  (refine eP (ys := [x]) 2 rfl rfl rfl ?_ (by decide) rfl (by omega) (by omega) rfl rfl ?_; (· first | exact Src.blk aB | exact Src.row aB | exact Src.imm aB (by first | assumption | exact .inl (Ok.mk _ _))); intro q3 c3; refine ⟨okF, ?_⟩)
  repeat (refine aL ?_)
  have hq2 : (rows ++ [x]).map RL.q = (lt.take (i + 1)).map (fun s => fE (aCF s0 s)) := by
   rw [ht, List.map_append, List.map_append, hrq]
   show _ ++ [x.q] = _ ++ [fE (aCF s0 s)]
   rw [hxq, hdf]
  refine kD (φ := nY (rows ++ [x]) 22) (Hv.snocL aB aB) ?_
  refine aJ (n - 1 - (i + 1)) _ _ _ (by first | omega | (simp only [List.length_append, List.length_cons, List.length_nil]; omega)) aS aF aD (⟨i + 1, rows ++ [x], q3, c3, by omega, rfl, by simp [hrl], hq2, rfl, rfl, rfl⟩)
 ·obtain rfl : i = n - 1 := by omega
  rw [List.take_of_length_le (by omega)] at hrq
  rw [← hrq]
  have dr : (⟨qe, ce, rows⟩ : MX).dim (n - 1) 3 := ⟨hrl, fun r hr => by
   have : r.q ∈ rows.map RL.q := List.mem_map_of_mem hr
   rw [hrq] at this
   obtain ⟨s, _, hs⟩ := List.mem_map.1 this
   have := congrArg List.length hs
   simpa [RL.q, qs, fE, aCF] using this.symm⟩
  have hG := fun M0 I0 h => aBA (X := X) (w0 := w0) (M0 := M0) (I0 := I0) (a := ⟨qe, ce, rows⟩) (R := n - 1) (C := 3) (k0 := 22) (by decide) (by omega) (by omega) dr h
  repeat (refine aL ?_)
  refine aWH (k := 22) aB ?_
  (refine aA rfl (hG _ _ aB) rfl rfl ?_; rintro _ _ _ ⟨rfl, rfl, rfl⟩; refine ⟨okF, ?_⟩)
  repeat (refine aL ?_)
  refine aG (by first | exact .inl rfl | exact .inr rfl) rfl rfl _ _ aF aD (⟨rfl, rfl, by show Value.int .i64 _ = Value.int .i64 _; congr 1; simp⟩)
theorem LShp {q : Option Addr} {l : List S3} {n c : Nat} (hl : l.length = n) (hn : (n : Int) ≤ 9223372036854775807) (hc : n ≤ c) (hq : aV q (recs yG l) ∈ I0) :
  CD Tryz.prog 8 [.slice q n c] X w0 M0 I0 (fun v M I => M0 = M ∧ I0 = I ∧ v = .bool true) := by
 have hKn := fun M0 I0 => vW (X := X) (w0 := w0) (M0 := M0) (I0 := I0)
 have hS := fun M0 I0 h => aOE (X := X) (w0 := w0) (M0 := M0) (I0 := I0) (q := q) (l := l) (n := n) (c := c) hl hn h
 have hP := fun M0 I0 h => aGE (X := X) (w0 := w0) (M0 := M0) (I0 := I0) (q := q) (l := l) (n := n) (c := c) hl h
 refine bA Tryz.func8 rfl Tryz.ntmps8 rfl ?_
 repeat (refine aL ?_)
 (refine aA rfl (hKn _ _) rfl rfl ?_; rintro _ _ _ ⟨rfl, rfl, rfl⟩; refine ⟨okF, ?_⟩)
 by_cases h300 : 300 < n
 ·repeat (refine aL ?_)
  refine aG (by first | exact .inl rfl | exact .inr rfl) rfl rfl _ _ aF aD (⟨rfl, rfl, rfl⟩)
 by_cases h0 : jZ l = 0
 case neg =>
  obtain ⟨cd, hcd⟩ : ∃ z, jZ l = z := ⟨_, rfl⟩
  have hcr : cd = 6 ∨ cd = 3 ∨ cd = 2 := by
   rw [← hcd]
   unfold jZ at h0 ⊢
   split
   ·exact .inl rfl
   ·split
    ·exact .inr (.inl rfl)
    ·split
     ·exact .inr (.inr rfl)
     ·rename_i a b c
      rw [if_neg a, if_neg b, if_neg c] at h0
      exact absurd rfl h0
  rw [hcd] at h0
  rw [hcd, if_neg h0] at hP
  rw [hcd] at hS
  clear hcd
  rcases hcr with rfl | rfl | rfl
  ·repeat (refine aL ?_)
   (refine aA rfl (hS _ _ aB) rfl rfl ?_; rintro _ _ _ ⟨rfl, rfl, rfl⟩; refine ⟨okF, ?_⟩)
   repeat (refine aL ?_)
   (refine aA rfl (hP _ _ aB) rfl rfl ?_; rintro _ _ _ ⟨rfl, rfl, rfl⟩; refine ⟨okF, ?_⟩)
   repeat (refine aL ?_)
   refine aG (by first | exact .inl rfl | exact .inr rfl) rfl rfl _ _ aF aD (⟨rfl, rfl, congrArg Value.bool (dG rfl)⟩)
  ·repeat (refine aL ?_)
   (refine aA rfl (hS _ _ aB) rfl rfl ?_; rintro _ _ _ ⟨rfl, rfl, rfl⟩; refine ⟨okF, ?_⟩)
   repeat (refine aL ?_)
   (refine aA rfl (hP _ _ aB) rfl rfl ?_; rintro _ _ _ ⟨rfl, rfl, rfl⟩; refine ⟨okF, ?_⟩)
   repeat (refine aL ?_)
   refine aG (by first | exact .inl rfl | exact .inr rfl) rfl rfl _ _ aF aD (⟨rfl, rfl, congrArg Value.bool (dG rfl)⟩)
  ·repeat (refine aL ?_)
   (refine aA rfl (hS _ _ aB) rfl rfl ?_; rintro _ _ _ ⟨rfl, rfl, rfl⟩; refine ⟨okF, ?_⟩)
   repeat (refine aL ?_)
   (refine aA rfl (hP _ _ aB) rfl rfl ?_; rintro _ _ _ ⟨rfl, rfl, rfl⟩; refine ⟨okF, ?_⟩)
   repeat (refine aL ?_)
   refine aG (by first | exact .inl rfl | exact .inr rfl) rfl rfl _ _ aF aD (⟨rfl, rfl, congrArg Value.bool (dG rfl)⟩)
 have hno : ¬ farS l := by
  unfold jZ at h0
  split at h0
  ·omega
  ·split at h0
   ·omega
   ·split at h0
    ·omega
    ·assumption
 have hn1 : 1 ≤ n := by
  unfold jZ at h0
  split at h0
  ·omega
  ·omega
 rw [h0, if_pos rfl] at hP
 rw [h0] at hS
 by_cases h10 : 10 < n
 ·repeat (refine aL ?_)
  (refine aA rfl (hS _ _ aB) rfl rfl ?_; rintro _ _ _ ⟨rfl, rfl, rfl⟩; refine ⟨okF, ?_⟩)
  repeat (refine aL ?_)
  refine aG (by first | exact .inl rfl | exact .inr rfl) rfl rfl _ _ aF aD (⟨rfl, rfl, rfl⟩)
 have hG := fun M0 I0 h => aNL (X := X) (w0 := w0) (M0 := M0) (I0 := I0) (q := q) (l := l) (n := n) (c := c) hl (by omega) hc hno h
 have hdL : iO (l.map vB) n 4 := by rw [aUX hl]; exact aEV
 have hall : (jB (l.map vB) qT n).1.length = rk (l.map vB) 4 := sN hdL
 have hk4 := sH hdL
 rw [hall] at hP
 obtain ⟨rr, hrr⟩ : ∃ z, rk (l.map vB) 4 = z := ⟨_, rfl⟩
 rw [hrr] at hP hG hk4
 repeat (refine aL ?_)
 (refine aA rfl (hS _ _ aB) rfl rfl ?_; rintro _ _ _ ⟨rfl, rfl, rfl⟩; refine ⟨okF, ?_⟩)
 repeat (refine aL ?_)
 (refine aA rfl (hP _ _ aB) rfl rfl ?_; rintro _ _ _ ⟨rfl, rfl, rfl⟩; refine ⟨okF, ?_⟩)
 repeat (refine aL ?_)
 (refine aA rfl (hG _ _ aB) rfl rfl ?_; rintro _ _ _ ⟨rfl, rfl, rfl⟩; refine ⟨okF, ?_⟩)
 repeat (refine aL ?_)
 refine aG (by first | exact .inl rfl | exact .inr rfl) rfl rfl _ _ aF aD (⟨rfl, rfl, congrArg Value.bool (dG rfl)⟩)
end
end Go.Proofs.YtkccjglmnhgabaaGreat
namespace Go.Proofs.YtkccjglmnhgabaaGreat
open Go Go.Fx
open Go.ChangeShapes Go.WideShapes Go.RowKit Go.ChangeAt
section
variable {H : Type} {enc : TypeId × Value → H} {W : World}
theorem aXP {n : Nat} {cs : List Value} {y : DataW H × List MemPlace} (hl : cs.length = Tryz.prog.cellsOf 111) (h : DataW.trod enc Tryz.prog W 0 (fun _ => true) true n 111 cs = some y) : ∃ s : S3, cs = yG s ∧ True := by
 obtain ⟨xs, rfl, hx, _⟩ := aHE (k := .i64) (m := 3) Tryz.underlying111 (by kernel_rfl) (by intro f hf; simp at hf; rcases hf with rfl | rfl | rfl <;> exact Tryz.underlying3) (by rw [hl]; kernel_rfl) h
 obtain ⟨a, b, c, rfl⟩ := aOQ hx
 exact ⟨⟨a, b, c⟩, rfl, trivial⟩
theorem aSA {base : Nat} {v : Value} {d : DataW H} {p : List MemPlace} (hv : Value.okWide Tryz.prog W .any base 68 v) (h : DataW.Trod enc Tryz.prog W 0 (fun _ => true) true 68 v d p) : ∃ (a : Option Addr) (ps : List S3) (c : Nat), v = .slice a ps.length c ∧ Sl [] W a (recs yG ps) ∧ (ps.length : Int) ≤ 9223372036854775807 ∧ ps.length ≤ c := by
 obtain ⟨a, ms, c, e, s, m, l, k, _⟩ := tL (en := yG) (Pm := fun _ => True) Tryz.underlying68 (fun r n y hl hy => aXP hl hy) hv h
 exact ⟨a, ms, c, e, s, l, k⟩
end
end Go.Proofs.YtkccjglmnhgabaaGreat

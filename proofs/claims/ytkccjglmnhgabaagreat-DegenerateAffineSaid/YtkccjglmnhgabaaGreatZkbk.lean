/- far, whole, points, Shape. Points, plain: the flat's dimension by differences, linear maps change no rank, pairs that one affine map explains. Chapter 31's law: whole, rank, spots, shape. What chapter 31's law asks of proofs: few, light; proves walked. Chapter 31's law: proves, walked. -/
import Derived.Test.YtkccjglmnhgabaaGreatZkbh
import Derived.Test.YtkccjglmnhgabaaGreatZkak
import Derived.Test.YtkccjglmnhgabaaGreatZkam
import Derived.Test.YtkccjglmnhgabaaGreatZkbe
import Derived.Test.YtkccjglmnhgabaaGreatZkbd
import Derived.Test.YtkccjglmnhgabaaGreatZkbj
set_option linter.unusedSimpArgs false
set_option linter.unusedVariables false
set_option maxRecDepth 100000
set_option maxHeartbeats 4000000
namespace Go.Proofs.YtkccjglmnhgabaaGreat
open Go Go.Fx
structure S3 where
 x : Int
 y : Int
 z : Int
instance S3.inh : Inhabited S3 := ⟨⟨0, 0, 0⟩⟩
abbrev yG (s : S3) : List Value := [.int .i64 s.x, .int .i64 s.y, .int .i64 s.z]
abbrev vS3 (s : S3) : Value := .agg (yG s).toArray
instance S3.szd : Sized yG 3 := ⟨fun _ => rfl⟩
def farI (l : List Int) : Prop := ∃ x ∈ l, x < -1048576 ∨ 1048576 < x
instance farI.dec (l : List Int) : Decidable (farI l) := inferInstanceAs (Decidable (∃ x ∈ l, x < -1048576 ∨ 1048576 < x))
def fE (l : List Int) : List Rat := l.map (fun x : Int => (x : Rat))
section
variable {X : List Nat} {w0 : World} {M0 M1 : List Ent} {I0 : List aZ}
theorem aUR {x : Int} : CD Tryz.prog 142 [.int .i64 x] X w0 M0 I0 (fun v M I => M0 = M ∧ I0 = I ∧ v = .bool (B (x < -1048576 ∨ 1048576 < x))) := by
 refine bA Tryz.func142 rfl Tryz.ntmps142 rfl ?_
 by_cases h1 : x < -1048576
 ·repeat (refine aL ?_)
  refine aG (by first | exact .inl rfl | exact .inr rfl) rfl rfl _ _ aF aD (⟨rfl, rfl, congrArg Value.bool (dG (.inl h1)).symm⟩)
 ·by_cases h2 : 1048576 < x
  ·repeat (refine aL ?_)
   refine aG (by first | exact .inl rfl | exact .inr rfl) rfl rfl _ _ aF aD (⟨rfl, rfl, congrArg Value.bool ((dG h2).trans (dG (.inr h2)).symm)⟩)
  ·repeat (refine aL ?_)
   refine aG (by first | exact .inl rfl | exact .inr rfl) rfl rfl _ _ aF aD (⟨rfl, rfl, congrArg Value.bool ((cZ h2).trans (cZ (by omega)).symm)⟩)
theorem aPW {q : Option Addr} {l : List Int} {n c : Nat} (hl : l.length = n) (hn : n ≤ 1000) (hq : aV q (recs eZ l) ∈ I0) : CD Tryz.prog 85 [.slice q n c] X w0 M0 I0 (fun v M I => M0 = M ∧ I0 = I ∧ v = .bool (B (farI l))) := by
 subst hl
 have hF := fun M0 I0 h => aTW (X := X) (w0 := w0) (M0 := M0) (I0 := I0) (p := q) (a := l) (c := c) (g := 142) (fs := #[]) (cs := #[]) (fun x => x < -1048576 ∨ 1048576 < x) (by omega) h (fun i _ => aUR)
 refine bA Tryz.func85 rfl Tryz.ntmps85 rfl ?_
 repeat (refine aL ?_)
 (refine aA rfl (hF _ _ aB) rfl rfl ?_; rintro _ _ _ ⟨rfl, rfl, rfl⟩; refine ⟨okF, ?_⟩)
 repeat (refine aL ?_)
 refine aG (by first | exact .inl rfl | exact .inr rfl) rfl rfl _ _ aF aD (⟨rfl, rfl, rfl⟩)
theorem aGB {q : Option Addr} {l : List Int} {n c u : Nat} (hl : l.length = n) (hn : n ≤ 100) (hb : ∀ x ∈ l, (-9223372036854775808 ≤ x ∧ x ≤ 9223372036854775807) ∧ x.natAbs ≤ 2 ^ u) (hq : aV q (recs eZ l) ∈ I0) :
  CD Tryz.prog 84 [.slice q n c] X w0 M0 I0 (LQ (fE l) u M0 I0) := by
 refine eQ (φ := aV q (recs eZ l)) (Hv.mem hq) ?_
 refine bA Tryz.func84 rfl Tryz.ntmps84 rfl ?_
 repeat (refine aL ?_)
 refine iN 37 4 ?_
 refine fP (φ := dW [] u) Hv.nilR ?_
 refine aR [6, 7] rfl (fun k G M I => ∃ (i : Nat) (es : List RE) (qe : Option Addr) (ce : Nat), i ≤ n ∧ k = n - i ∧ es.length = i ∧ qs es = fE (l.take i) ∧ G = [(3, .slice qe es.length ce), (8, .int .i64 i)] ∧ M = .row qe es.length ce (recs eR es) 37 4 :: M0 ∧ I = dW es u :: aV q (recs eZ l) :: I0) (n) _ _ _ aS aF aD (⟨0, [], none, 0, by omega, rfl, rfl, rfl, rfl, rfl, rfl⟩) ?_
 rintro kk G M I ⟨i, es, qe, ce, hi, rfl, hel, heq, rfl, rfl, rfl⟩
 by_cases hin : i < n
 ·have hx := hb _ (eO (ms := l) (i := (i : Int)) (by omega))
  obtain ⟨x, hxx⟩ : ∃ x, gt l (i : Int) = x := ⟨_, rfl⟩
  rw [hxx] at hx
  have hW := fun M0 I0 => pR (X := X) (w0 := w0) (M0 := M0) (I0 := I0) (x := x) hx.1 (k := u) hx.2
  have ht : l.take (i + 1) = l.take i ++ [x] := by rw [← hxx, cK (by omega)]; exact (List.take_append_getElem (by omega)).symm
  repeat (refine aL ?_)
  rw [hxx]
  (refine aA rfl (hW _ _) rfl rfl ?_; rintro _ _ _ ⟨rfl, e, rfl, he, rfl⟩; refine ⟨okF, ?_⟩)
  (refine aW (cs := recs eR [e]) ([rv e]) rfl rfl (by intro v hv; repeat (first | exact absurd hv (List.not_mem_nil) | (rcases List.mem_cons.1 hv with rfl | hv; · rfl))) (by omega) rfl rfl rfl ?_; intro b; refine ⟨okF, ?_⟩)
  (refine eP (ys := [e]) 1 rfl rfl rfl ?_ (by decide) rfl (by omega) (by omega) rfl rfl ?_; (· first | exact Src.blk aB | exact Src.row aB | exact Src.imm aB (by first | assumption | exact .inl (Ok.mk _ _))); intro q2 c3; refine ⟨okF, ?_⟩)
  repeat (refine aL ?_)
  refine kD (φ := dW (es ++ [e]) u) (Hv.snoc aB aB) ?_
  refine aJ (n - (i + 1)) _ _ _ (by first | omega | (simp only [List.length_append, List.length_cons, List.length_nil]; omega)) aS aF aD (⟨i + 1, es ++ [e], q2, c3, by omega, rfl, by simp [hel], ?_, rfl, rfl, rfl⟩)
  rw [ht]
  unfold fE at heq ⊢
  rw [List.map_append, ← heq]
  show (es ++ [e]).map RE.q = qs es ++ [(x : Rat)]
  rw [List.map_append, ← he]
  rfl
 ·obtain rfl : i = n := by omega
  rw [← hl, List.take_length] at heq
  repeat (refine aL ?_)
  refine aOM (k := u) aB ?_
  refine aG (by first | exact .inl rfl | exact .inr rfl) rfl rfl _ _ aF aD (⟨rfl, ⟨qe, ce, es⟩, rfl, heq, rfl⟩)
def farS (l : List S3) : Prop := ∃ s ∈ l, farI [s.x, s.y, s.z]
instance farS.dec (l : List S3) : Decidable (farS l) := inferInstanceAs (Decidable (∃ s ∈ l, farI [s.x, s.y, s.z]))
def jZ (l : List S3) : Int := if l.length = 0 then 6 else if 256 < l.length then 3 else if farS l then 2 else 0
theorem aNB {q : Option Addr} {l : List S3} {n c u d : Nat} {g : FuncId} [FnOk Tryz.prog g] {rowF : S3 → List Rat} (hl : l.length = n) (hd : 1 ≤ d ∧ d ≤ 20) (hu : 4 * kb u d + 2 ≤ 400000000000) (hq : aV q (recs yG l) ∈ I0) (hrl : ∀ s, (rowF s).length = d)
  (hg : ∀ s ∈ l, ¬ farI [s.x, s.y, s.z] → ∀ M0 I0, CD Tryz.prog g [vS3 s] X w0 M0 I0 (LQ (rowF s) u M0 I0)) :
  CD Tryz.prog 82 [.slice q n c, .func (.func g) #[] #[]] X w0 M0 I0 (fun v M I => M0 = M ∧ I0 = I ∧ v = .tuple #[.int .i64 (if jZ l = 0 then (((jB (l.map rowF) qT n).1.length : Nat) : Int) else 0), .int .i64 (jZ l)]) := by
 have hdL : iO (l.map rowF) n d := ⟨by simp [hl], fun i hi => by
  have : rowAt (l.map rowF) i = rowF (gt l (i : Int)) := by rw [cK (by omega)]; simp [rowAt, List.getD, show i < l.length by omega]
  rw [this]; exact hrl _⟩
 refine eQ (φ := aV q (recs yG l)) (Hv.mem hq) ?_
 refine bJ Tryz.func82 rfl Tryz.ntmps82 rfl ?_
 by_cases h0 : n = 0
 ·have e : jZ l = 6 := by unfold jZ; rw [if_pos (by omega)]
  rw [e]
  repeat (refine aL ?_)
  refine fQ [4, 5] (by first | exact .inl rfl | exact .inr rfl) rfl rfl rfl _ _ aF aD (⟨rfl, rfl, rfl⟩)
 by_cases h1 : 256 < n
 ·have e : jZ l = 3 := by unfold jZ; rw [if_neg (by omega), if_pos (by omega)]
  rw [e]
  repeat (refine aL ?_)
  refine fQ [4, 5] (by first | exact .inl rfl | exact .inr rfl) rfl rfl rfl _ _ aF aD (⟨rfl, rfl, rfl⟩)
 have e : jZ l = if farS l then 2 else 0 := by unfold jZ; rw [if_neg (by omega), if_neg (by omega)]
 repeat (refine aL ?_)
 (refine aC rfl (fun _ => bT (pvs := ([]).zipIdx.map (fun p => (p.2, p.1))) (cells := [.slice none 0 0, .slice none 0 0]) rfl rfl) rfl rfl ?_)
 (refine aT rfl rfl rfl ?_; intro ps; refine ⟨okF, ?_⟩)
 repeat (refine aL ?_)
 refine iN 3 1 ?_
 refine iN 39 1 ?_
 refine fP (φ := allK [] u) Hv.nilK ?_
 refine aR [1, 6, 17, 18] rfl (fun k G M I => ∃ (i : Nat) (a b : Option Addr) (c0 c2 : Nat) (rows : List RL) (pz : List Int), i ≤ n ∧ k = n - i ∧ (∀ j : Nat, j < i → ¬ farI [(gt l (j : Int)).x, (gt l (j : Int)).y, (gt l (j : Int)).z]) ∧ rows.map RL.q = mtS (jB (l.map rowF) qT i).1 ∧ pz = zs (pvS (jB (l.map rowF) qT i).1) ∧ G = [(19, .int .i64 i)] ∧ M = .row a rows.length c0 (recs eL rows) 39 1 :: .row b pz.length c2 (recs eZ pz) 3 1 :: .blk ps [.slice a rows.length c0, .slice b pz.length c2] 115 :: M0 ∧ I = allK rows u :: aV q (recs yG l) :: I0) (n) _ _ _ aS aF aD (⟨0, none, none, 0, 0, [], [], by omega, rfl, fun j hj => by omega, rfl, rfl, rfl, rfl, rfl⟩) ?_
 rintro kk G M I ⟨i, a, b, c0, c2, rows, pz, hi, rfl, hnf, hr, hz, rfl, rfl, rfl⟩
 have hI := mK (q := qT) hdL (k := i) (by omega)
 have hle := sJ hI
 have hku := gV u hle
 by_cases hin : i < n
 ·have hs := yX (A := l.map rowF) (i := i)
  have hra : rowAt (l.map rowF) i = rowF (gt l (i : Int)) := by rw [cK (by omega)]; simp [rowAt, List.getD, show i < l.length by omega]
  rw [hra] at hs
  have hmem := eO (ms := l) (i := (i : Int)) (by omega)
  have hnf2 : ∀ j : Nat, j < i + 1 → j ≠ i → ¬ farI [(gt l (j : Int)).x, (gt l (j : Int)).y, (gt l (j : Int)).z] := fun j h1 h2 => hnf j (by omega)
  obtain ⟨s, hss⟩ : ∃ s, gt l (i : Int) = s := ⟨_, rfl⟩
  obtain ⟨sp, hsp⟩ : ∃ sp, (jB (l.map rowF) qT i).1 = sp := ⟨_, rfl⟩
  rw [hsp] at hr hz hI hle hku hs
  rw [hss] at hs hmem
  have hlq := hrl s
  have hFr := fun b9 M0 I0 h => aPW (X := X) (w0 := w0) (M0 := M0) (I0 := I0) (q := some ⟨b9, 0, none⟩) (l := [s.x, s.y, s.z]) (n := 3) (c := 3) rfl (by omega) h
  repeat (refine aL ?_)
  rw [hss]
  (refine aK rfl rfl ?_; intro b8; refine ⟨okF, ?_⟩)
  repeat (refine aL ?_)
  (refine aW (cs := recs eZ [s.x, s.y, s.z]) ([.int .i64 s.x, .int .i64 s.y, .int .i64 s.z]) rfl rfl (by intro v hv; repeat (first | exact absurd hv (List.not_mem_nil) | (rcases List.mem_cons.1 hv with rfl | hv; · rfl))) (by omega) rfl rfl rfl ?_; intro b9; refine ⟨okF, ?_⟩)
  refine aY .here ?_
  by_cases hf : farI [s.x, s.y, s.z]
  ·rw [dG hf] at hFr
   have e2 : jZ l = 2 := by rw [e, if_pos ⟨s, hmem, hf⟩]
   rw [e2]
   (refine aA rfl (hFr _ _ _ aB) rfl rfl ?_; rintro _ _ _ ⟨rfl, rfl, rfl⟩; refine ⟨okF, ?_⟩)
   repeat (refine aL ?_)
   refine sW (M' := M0) (I' := I0) aF aD ?_
   refine fQ [4, 5] (by first | exact .inl rfl | exact .inr rfl) rfl rfl rfl _ _ aF aD (⟨rfl, rfl, rfl⟩)
  ·rw [cZ hf] at hFr
   have hgs := hg s hmem hf
   have hA := fun M1 I0 (x : RL) (hx1 : x.q = rowF s) hx ha => vO (X := X) (w0 := w0) (M1 := M1) (I0 := I0) (p := ps) (a := a) (b := b) (c := c0) (c2 := c2) (n := d) (u := u) (x := x) (sp := sp) ⟨hd.1, by omega⟩ (by omega) (by omega) (by rw [← hlq, ← hx1]; simp [RL.q, qs]) hI hr hz hx ha
   (refine aA rfl (hFr _ _ _ aB) rfl rfl ?_; rintro _ _ _ ⟨rfl, rfl, rfl⟩; refine ⟨okF, ?_⟩)
   repeat (refine aL ?_)
   (refine qW rfl rfl (hgs _ _) rfl rfl rfl ?_; rintro _ _ _ ⟨rfl, x, rfl, hxq, rfl⟩; refine ⟨okF, ?_⟩)
   refine aJC (M' := .row a rows.length c0 (recs eL rows) 39 1 :: .row b pz.length c2 (recs eZ pz) 3 1 :: .blk ps [.slice a rows.length c0, .slice b pz.length c2] 115 :: M0) (I' := nX x u :: allK rows u :: aV q (recs yG l) :: I0) aF aD ?_
   (refine aA rfl (hA _ _ x hxq aB aB) rfl rfl ?_; rintro _ _ _ ⟨a1, b1, d1, d2, rows1, pz1, rfl, rfl, rfl, hr1, hz1⟩; refine ⟨okF, ?_⟩)
   rw [hxq] at hr1 hz1
   repeat (refine aL ?_)
   refine aJ (n - (i + 1)) _ _ _ (by first | omega | (simp only [List.length_append, List.length_cons, List.length_nil]; omega)) aS aF aD (⟨i + 1, a1, b1, d1, d2, rows1, pz1, by omega, rfl, fun j hj => ?_, by rw [hs]; exact hr1, by rw [hs]; exact hz1, rfl, rfl, rfl⟩)
   by_cases ej : j = i
   ·subst ej; rw [hss]; exact hf
   ·exact hnf2 j hj ej
 ·obtain rfl : i = n := by omega
  have hno : ¬ farS l := by
   rintro ⟨s, hs, hf⟩
   obtain ⟨j, hj, rfl⟩ := List.mem_iff_getElem.1 hs
   have := hnf j (by omega)
   rw [cK hj] at this
   exact this hf
  have e2 : jZ l = 0 := by rw [e, if_neg hno]
  rw [e2, if_pos rfl]
  have lz : pz.length = (jB (l.map rowF) qT i).1.length := by rw [hz, mQ, mM]
  rw [← lz]
  repeat (refine aL ?_)
  refine sW (M' := M0) (I' := I0) aF aD ?_
  refine fQ [4, 5] (by first | exact .inl rfl | exact .inr rfl) rfl rfl rfl _ _ aF aD (⟨rfl, rfl, rfl⟩)
def vB (s : S3) : List Rat := fE [s.x, s.y, s.z, 1]
theorem wZ {s : S3} (h : ¬ farI [s.x, s.y, s.z]) : (-1048576 ≤ s.x ∧ s.x ≤ 1048576) ∧ (-1048576 ≤ s.y ∧ s.y ≤ 1048576) ∧ (-1048576 ≤ s.z ∧ s.z ≤ 1048576) := by
 refine ⟨?_, ?_, ?_⟩
 ·have : ¬ (s.x < -1048576 ∨ 1048576 < s.x) := fun e => h ⟨s.x, by simp, e⟩
  omega
 ·have : ¬ (s.y < -1048576 ∨ 1048576 < s.y) := fun e => h ⟨s.y, by simp, e⟩
  omega
 ·have : ¬ (s.z < -1048576 ∨ 1048576 < s.z) := fun e => h ⟨s.z, by simp, e⟩
  omega
theorem aMB {s : S3} (h : ¬ farI [s.x, s.y, s.z]) : CD Tryz.prog 83 [vS3 s] X w0 M0 I0 (LQ (vB s) 20 M0 I0) := by
 obtain ⟨h1, h2, h3⟩ := wZ h
 have hW := fun b9 M0 I0 h => aGB (X := X) (w0 := w0) (M0 := M0) (I0 := I0) (q := some ⟨b9, 0, none⟩) (l := [s.x, s.y, s.z, 1]) (n := 4) (c := 4) (u := 20) rfl (by omega) (by
  intro x hx
  simp only [List.mem_cons, List.not_mem_nil, or_false] at hx
  have e20 : 2 ^ 20 = 1048576 := rfl
  rcases hx with rfl | rfl | rfl | rfl <;> omega) h
 refine bA Tryz.func83 rfl Tryz.ntmps83 rfl ?_
 refine aI ?_
 refine aH ?_
 (refine aT rfl rfl rfl ?_; intro b1; refine ⟨okF, ?_⟩)
 repeat (refine aL ?_)
 (refine aW (cs := recs eZ [s.x, s.y, s.z, 1]) ([.int .i64 s.x, .int .i64 s.y, .int .i64 s.z, .int .i64 1]) rfl rfl (by intro v hv; repeat (first | exact absurd hv (List.not_mem_nil) | (rcases List.mem_cons.1 hv with rfl | hv; · rfl))) (by omega) rfl rfl rfl ?_; intro b9; refine ⟨okF, ?_⟩)
 refine aY .here ?_
 (refine aA rfl (hW _ _ _ aB) rfl rfl ?_; rintro _ _ _ ⟨rfl, x, rfl, hxq, rfl⟩; refine ⟨okF, ?_⟩)
 repeat (refine aL ?_)
 refine sW (M' := M0) (I' := nX x 20 :: I0) aF aD ?_
 refine aG (by first | exact .inl rfl | exact .inr rfl) rfl rfl _ _ aF aD (⟨rfl, x, rfl, hxq, rfl⟩)
theorem aGE {q : Option Addr} {l : List S3} {n c : Nat} (hl : l.length = n) (hq : aV q (recs yG l) ∈ I0) :
  CD Tryz.prog 31 [.slice q n c] X w0 M0 I0 (fun v M I => M0 = M ∧ I0 = I ∧ v = .tuple #[.int .i64 (if jZ l = 0 then (((jB (l.map vB) qT n).1.length : Nat) : Int) - 1 else 0), .int .i64 (jZ l)]) := by
 have hP := fun M0 I0 h => aNB (X := X) (w0 := w0) (M0 := M0) (I0 := I0) (q := q) (l := l) (n := n) (c := c) (u := 20) (d := 4) (g := 83) (rowF := vB) hl (by omega) (by decide) h (fun s => rfl) (fun s _ hf M0 I0 => aMB hf)
 have hle : (jB (l.map vB) qT n).1.length ≤ 4 := by
  have hdL : iO (l.map vB) n 4 := ⟨by simp [hl], fun i hi => by
   have : rowAt (l.map vB) i = vB (gt l (i : Int)) := by rw [cK (by omega)]; simp [rowAt, List.getD, show i < l.length by omega]
   rw [this]; rfl⟩
  exact sJ (mK (q := qT) hdL (k := n) (Nat.le_refl _))
 obtain ⟨N, hN⟩ : ∃ N, (jB (l.map vB) qT n).1.length = N := ⟨_, rfl⟩
 rw [hN] at hP hle ⊢
 refine bA Tryz.func31 rfl Tryz.ntmps31 rfl ?_
 by_cases h0 : jZ l = 0
 ·rw [h0, if_pos rfl] at hP
  rw [h0, if_pos rfl]
  repeat (refine aL ?_)
  (refine aA rfl (hP _ _ aB) rfl rfl ?_; rintro _ _ _ ⟨rfl, rfl, rfl⟩; refine ⟨okF, ?_⟩)
  repeat (refine aL ?_)
  refine fQ [2, 3] (by first | exact .inl rfl | exact .inr rfl) rfl rfl rfl _ _ aF aD (⟨rfl, rfl, rfl⟩)
 ·rw [if_neg h0] at hP
  rw [if_neg h0]
  obtain ⟨C, hC⟩ : ∃ C, jZ l = C := ⟨_, rfl⟩
  rw [hC] at hP h0 ⊢
  repeat (refine aL ?_)
  (refine aA rfl (hP _ _ aB) rfl rfl ?_; rintro _ _ _ ⟨rfl, rfl, rfl⟩; refine ⟨okF, ?_⟩)
  repeat (refine aL ?_)
  refine fQ [2, 3] (by first | exact .inl rfl | exact .inr rfl) rfl rfl rfl _ _ aF aD (⟨rfl, rfl, rfl⟩)
end
end Go.Proofs.YtkccjglmnhgabaaGreat
namespace Go.Proofs.YtkccjglmnhgabaaGreat
open Go Go.Fx
def oO (R : Nat) (p : Nat → Nat → Rat) : Mt := vL R 4 (fun i j => if j < 3 then p i j else 1)
def qU (R : Nat) (p : Nat → Nat → Rat) : Mt := vL (R - 1) 3 (fun i j => p (i + 1) j - p 0 j)
theorem sm3 {f : Nat → Rat} : sm 3 f = f 0 + f 1 + f 2 := by simp only [sm]; grind
theorem sm4 {f : Nat → Rat} : sm 4 f = f 0 + f 1 + f 2 + f 3 := by simp only [sm]; grind
theorem aAC {R : Nat} {p : Nat → Nat → Rat} {i j : Nat} (hi : i < R) (hj : j < 4) : at2 (oO R p) i j = if j < 3 then p i j else 1 := yI hi hj
theorem aFK {R : Nat} {p : Nat → Nat → Rat} {i j : Nat} (hi : i + 1 < R) (hj : j < 3) : at2 (qU R p) i j = p (i + 1) j - p 0 j := yI (by omega) hj
theorem aBE {R : Nat} {p : Nat → Nat → Rat} {i : Nat} (hi : i < R) {z : Nat → Rat} : sm 4 (fun j => at2 (oO R p) i j * z j) = p i 0 * z 0 + p i 1 * z 1 + p i 2 * z 2 + z 3 := by
 rw [sm4, aAC hi (by omega), aAC hi (by omega), aAC hi (by omega), aAC hi (by omega)]
 simp only [if_pos (show 0 < 3 by omega), if_pos (show 1 < 3 by omega), if_pos (show 2 < 3 by omega), if_neg (show ¬ 3 < 3 by omega)]
 grind
theorem aHG {R : Nat} {p : Nat → Nat → Rat} {i : Nat} (hi : i + 1 < R) {z : Nat → Rat} : sm 3 (fun j => at2 (qU R p) i j * z j) = (p (i + 1) 0 - p 0 0) * z 0 + (p (i + 1) 1 - p 0 1) * z 1 + (p (i + 1) 2 - p 0 2) * z 2 := by
 rw [sm3, aFK hi (by omega), aFK hi (by omega), aFK hi (by omega)]
theorem aRG {R : Nat} {p : Nat → Nat → Rat} (hR : 1 ≤ R) : rk (oO R p) 4 = rk (qU R p) 3 + 1 := by
 have dF : iO (oO R p) R 4 := aEV
 have dD : iO (qU R p) (R - 1) 3 := aEV
 have l1 := wE dD
 have l2 := wE dF
 have c1 := sH dD
 have c2 := sH dF
 have h1 := aEQ (k := 3 - rk (qU R p) 3) dF (fun i j => if j < 3 then at2 (kR (qU R p) 3) i j else - (p 0 0 * at2 (kR (qU R p) 3) i 0 + p 0 1 * at2 (kR (qU R p) 3) i 1 + p 0 2 * at2 (kR (qU R p) 3) i 2)) (fun i hi t ht => by
  rw [aBE ht]
  simp only [if_pos (show 0 < 3 by omega), if_pos (show 1 < 3 by omega), if_pos (show 2 < 3 by omega), if_neg (show ¬ 3 < 3 by omega)]
  cases t with
  | zero => grind
  | succ t =>
   have := nulK dD (v := rowAt (kR (qU R p) 3) i) (uU (by omega)) (i := t) (by omega)
   rw [aHG (by omega)] at this
   unfold at2
   grind) (fun d hd => nulI dD d (fun j hj => by
   have := hd j (by omega)
   simp only [if_pos hj] at this
   exact this))
 have h2 := aEQ (k := 4 - rk (oO R p) 4) dD (fun i j => at2 (kR (oO R p) 4) i j) (fun i hi t ht => by
  rw [aHG (by omega)]
  have k1 := nulK dF (v := rowAt (kR (oO R p) 4) i) (uU (by omega)) (i := t + 1) (by omega)
  have k0 := nulK dF (v := rowAt (kR (oO R p) 4) i) (uU (by omega)) (i := 0) (by omega)
  rw [aBE (by omega)] at k1 k0
  unfold at2
  grind) (fun d hd => nulI dF d (fun j hj => by
   by_cases e : j < 3
   ·exact hd j e
   ·obtain rfl : j = 3 := by omega
    have hz : ∀ u, u < 4 - rk (oO R p) 4 → d u * at2 (kR (oO R p) 4) u 3 = (- p 0 0) * (d u * at2 (kR (oO R p) 4) u 0) + 1 * ((- p 0 1) * (d u * at2 (kR (oO R p) 4) u 1) + (- p 0 2) * (d u * at2 (kR (oO R p) 4) u 2)) := fun u hu => by
     have k0 := nulK dF (v := rowAt (kR (oO R p) 4) u) (uU (by omega)) (i := 0) (by omega)
     rw [aBE (by omega)] at k0
     unfold at2
     grind
    rw [bE hz, uD, uD, hd 0 (by omega), hd 1 (by omega), hd 2 (by omega)]
    grind))
 omega
/- moved points -/
def W4 (p : Nat → Rat) (j : Nat) : Rat := if j < 3 then p j else 1
def T4 (m : Nat → Nat → Rat) (b : Nat → Rat) (k j : Nat) : Rat := if j < 3 then (if k < 3 then m j k else b j) else if k < 3 then 0 else 1
def PQ : List (Nat × Nat) := [(0, 0), (1, 1), (2, 2), (0, 1), (0, 2), (1, 2), (0, 3), (1, 3), (2, 3), (3, 3)]
def q10 (p : Nat → Rat) (j : Nat) : Rat := W4 p (PQ.getD j (0, 0)).1 * W4 p (PQ.getD j (0, 0)).2
def G10 (T : Nat → Nat → Rat) (i j : Nat) : Rat :=
 if i < 3 ∨ i = 9 then T (PQ.getD i (0, 0)).1 (PQ.getD j (0, 0)).1 * T (PQ.getD i (0, 0)).1 (PQ.getD j (0, 0)).2
 else T (PQ.getD i (0, 0)).1 (PQ.getD j (0, 0)).1 * T (PQ.getD i (0, 0)).2 (PQ.getD j (0, 0)).2 + T (PQ.getD i (0, 0)).2 (PQ.getD j (0, 0)).1 * T (PQ.getD i (0, 0)).1 (PQ.getD j (0, 0)).2
def quadM (R : Nat) (p : Nat → Nat → Rat) : Mt := vL R 10 (fun i j => q10 (p i) j)
/- pairs -/
def epiL (x y u v : Rat) : List Rat := [u * x, u * y, u, v * x, v * y, v, x, y, 1]
def plaL (x y u : Rat) : List Rat := [x, y, 1, 0, 0, 0, - (u * x), - (u * y), - u]
def plbL (x y v : Rat) : List Rat := [0, 0, 0, x, y, 1, - (v * x), - (v * y), - v]
theorem lt9 {j : Nat} (h : j < 9) : j = 0 ∨ j = 1 ∨ j = 2 ∨ j = 3 ∨ j = 4 ∨ j = 5 ∨ j = 6 ∨ j = 7 ∨ j = 8 := by omega
theorem sm6 {f : Nat → Rat} : sm 6 f = f 0 + f 1 + f 2 + f 3 + f 4 + f 5 := by simp only [sm]; grind
theorem sm9 {f : Nat → Rat} : sm 9 f = f 0 + f 1 + f 2 + f 3 + f 4 + f 5 + f 6 + f 7 + f 8 := by simp only [sm]; grind
theorem aWE {A : Mt} {R : Nat} (hA : iO A R 9) {a b c d e f : Rat} (x y : Nat → Rat) (h : ∀ i, i < R → rowAt A i = epiL (x i) (y i) (a * x i + b * y i + c) (d * x i + e * y i + f)) : rk A 9 ≤ 6 := by
 have hB : iO (vL R 6 (fun i k => [x i * x i, x i * y i, y i * y i, x i, y i, 1].getD k 0)) R 6 := aEV
 refine Nat.le_trans (aVU hB hA (G := fun k j => ([[a, 0, 0, d, 0, 0, 0, 0, 0], [b, a, 0, e, d, 0, 0, 0, 0], [0, b, 0, 0, e, 0, 0, 0, 0], [c, 0, a, f, 0, d, 1, 0, 0], [0, c, b, 0, f, e, 0, 1, 0], [0, 0, c, 0, 0, f, 0, 0, 1]].getD k []).getD j 0) (fun i j hi hj => ?_)) (sH hB)
 rw [bE (g := fun k => [x i * x i, x i * y i, y i * y i, x i, y i, 1].getD k 0 * ([[a, 0, 0, d, 0, 0, 0, 0, 0], [b, a, 0, e, d, 0, 0, 0, 0], [0, b, 0, 0, e, 0, 0, 0, 0], [c, 0, a, f, 0, d, 1, 0, 0], [0, c, b, 0, f, e, 0, 1, 0], [0, 0, c, 0, 0, f, 0, 0, 1]].getD k []).getD j 0) (fun k hk => by rw [yI hi hk]), sm6]
 unfold at2
 rw [h i hi]
 unfold epiL
 rcases lt9 hj with rfl | rfl | rfl | rfl | rfl | rfl | rfl | rfl | rfl <;> simp [List.getD] <;> grind
theorem aXO {A : Mt} {R : Nat} (hA : iO A R 9) {a b c d e f : Rat} (h : ∀ i, i < R → ∃ x y, rowAt A i = plaL x y (a * x + b * y + c) ∨ rowAt A i = plbL x y (d * x + e * y + f)) : rk A 9 ≤ 8 := by
 have := aEQ (k := 1) hA (fun _ j => [a, b, c, d, e, f, 0, 0, 1].getD j 0) (fun _ _ i hi => by
  obtain ⟨x, y, h | h⟩ := h i hi
  all_goals
   unfold at2
   rw [h, sm9]
   simp [plaL, plbL, List.getD]
   grind) (fun d hd i hi => by
  obtain rfl : i = 0 := by omega
  have := hd 8 (by omega)
  simp only [sm, List.getD] at this
  simp at this
  grind)
 omega
end Go.Proofs.YtkccjglmnhgabaaGreat
namespace Go.Proofs.YtkccjglmnhgabaaGreat
open Go Go.Fx
section
variable {X : List Nat} {w0 : World} {M0 M1 : List Ent} {I0 : List aZ}
theorem uM {q : Option Addr} {l : List Int} {n c u : Nat} (hl : l.length = n) (hn : n ≤ 100) (hb : ∀ x ∈ l, (-9223372036854775808 ≤ x ∧ x ≤ 9223372036854775807) ∧ x.natAbs ≤ 2 ^ u) (hq : aV q (recs eZ l) ∈ I0) :
  CD Tryz.prog 57 [.slice q n c] X w0 M0 I0 (LQ (fE l) u M0 I0) := by
 refine eQ (φ := aV q (recs eZ l)) (Hv.mem hq) ?_
 refine bA Tryz.func57 rfl Tryz.ntmps57 rfl ?_
 repeat (refine aL ?_)
 (refine aW (cs := recs eR []) ([]) rfl rfl (by intro v hv; repeat (first | exact absurd hv (List.not_mem_nil) | (rcases List.mem_cons.1 hv with rfl | hv; · rfl))) (by omega) rfl rfl rfl ?_; intro b0; refine ⟨okF, ?_⟩; refine jN (mm := 0) 4 .here rfl (by omega) ?_)
 repeat (refine aL ?_)
 refine fP (φ := dW [] u) Hv.nilR ?_
 refine aR [7, 8] rfl (fun k G M I => ∃ (i : Nat) (es : List RE) (qe : Option Addr) (ce : Nat), i ≤ n ∧ k = n - i ∧ es.length = i ∧ qs es = fE (l.take i) ∧ G = [(3, .slice qe es.length ce), (9, .int .i64 i)] ∧ M = .row qe es.length ce (recs eR es) 37 4 :: M0 ∧ I = dW es u :: aV q (recs eZ l) :: I0) (n) _ _ _ aS aF aD (⟨0, [], _, _, by omega, rfl, rfl, rfl, rfl, rfl, rfl⟩) ?_
 rintro kk G M I ⟨i, es, qe, ce, hi, rfl, hel, heq, rfl, rfl, rfl⟩
 by_cases hin : i < n
 ·have hx := hb _ (eO (ms := l) (i := (i : Int)) (by omega))
  obtain ⟨x, hxx⟩ : ∃ x, gt l (i : Int) = x := ⟨_, rfl⟩
  rw [hxx] at hx
  have hW := fun M0 I0 => aBC (X := X) (w0 := w0) (M0 := M0) (I0 := I0) (x := x) hx.1 (k := u) hx.2
  have ht : l.take (i + 1) = l.take i ++ [x] := by rw [← hxx, cK (by omega)]; exact (List.take_append_getElem (by omega)).symm
  repeat (refine aL ?_)
  rw [hxx]
  (refine aA rfl (hW _ _) rfl rfl ?_; rintro _ _ _ ⟨rfl, e, rfl, he, rfl⟩; refine ⟨okF, ?_⟩)
  (refine aW (cs := recs eR [e]) ([rv e]) rfl rfl (by intro v hv; repeat (first | exact absurd hv (List.not_mem_nil) | (rcases List.mem_cons.1 hv with rfl | hv; · rfl))) (by omega) rfl rfl rfl ?_; intro b; refine ⟨okF, ?_⟩)
  (refine eP (ys := [e]) 1 rfl rfl rfl ?_ (by decide) rfl (by omega) (by omega) rfl rfl ?_; (· first | exact Src.blk aB | exact Src.row aB | exact Src.imm aB (by first | assumption | exact .inl (Ok.mk _ _))); intro q2 c3; refine ⟨okF, ?_⟩)
  repeat (refine aL ?_)
  refine kD (φ := dW (es ++ [e]) u) (Hv.snoc aB aB) ?_
  refine aJ (n - (i + 1)) _ _ _ (by first | omega | (simp only [List.length_append, List.length_cons, List.length_nil]; omega)) aS aF aD (⟨i + 1, es ++ [e], q2, c3, by omega, rfl, by simp [hel], ?_, rfl, rfl, rfl⟩)
  rw [ht]
  unfold fE at heq ⊢
  rw [List.map_append, ← heq]
  show (es ++ [e]).map RE.q = qs es ++ [(x : Rat)]
  rw [List.map_append, ← he]
  rfl
 ·obtain rfl : i = n := by omega
  rw [← hl, List.take_length] at heq
  repeat (refine aL ?_)
  refine aOM (k := u) aB ?_
  refine aG (by first | exact .inl rfl | exact .inr rfl) rfl rfl _ _ aF aD (⟨rfl, ⟨qe, ce, es⟩, rfl, heq, rfl⟩)
theorem aBA {a : MX} {R C k0 : Nat} (hb : kb k0 C ≤ 20000000000) (hR : R ≤ 100) (hC : 1 ≤ C ∧ C ≤ 100) (da : a.dim R C) (ha : kM a k0 ∈ I0) : CD Tryz.prog 27 [mv a] X w0 M0 I0 (fun v M I => M0 = M ∧ I0 = I ∧ v = .int .i64 ((rk a.q C : Nat) : Int)) := by
 have lR := da.1
 have hr := aIY (oZ da)
 refine bA Tryz.func27 rfl Tryz.ntmps27 rfl ?_
 by_cases h0 : R = 0
 ·have e : rk a.q C = 0 := by omega
  rw [e]
  repeat (refine aL ?_)
  refine aG (by first | exact .inl rfl | exact .inr rfl) rfl rfl _ _ aF aD (⟨rfl, rfl, rfl⟩)
 ·have hk := fun M0 I0 h => aRJ (X := X) (w0 := w0) (M0 := M0) (I0 := I0) (a := a) (R := R) (C := C) (k0 := k0) (by omega) (by omega) hC da h
  repeat (refine aL ?_)
  (refine aA rfl (hk _ _ aB) rfl rfl ?_; rintro _ _ _ ⟨rfl, rfl, rfl⟩; refine ⟨okF, ?_⟩)
  repeat (refine aL ?_)
  refine aG (by first | exact .inl rfl | exact .inr rfl) rfl rfl _ _ aF aD (⟨rfl, rfl, rfl⟩)
theorem aOE {q : Option Addr} {l : List S3} {n c : Nat} (hl : l.length = n) (hn : (n : Int) ≤ 9223372036854775807) (hq : aV q (recs yG l) ∈ I0) :
  CD Tryz.prog 30 [.slice q n c] X w0 M0 I0 (fun v M I => M0 = M ∧ I0 = I ∧ v = .int .i64 (jZ l)) := by
 refine eQ (φ := aV q (recs yG l)) (Hv.mem hq) ?_
 refine bA Tryz.func30 rfl Tryz.ntmps30 rfl ?_
 by_cases h0 : n = 0
 ·have e : jZ l = 6 := by unfold jZ; rw [if_pos (by omega)]
  rw [e]
  repeat (refine aL ?_)
  refine aG (by first | exact .inl rfl | exact .inr rfl) rfl rfl _ _ aF aD (⟨rfl, rfl, rfl⟩)
 by_cases h1 : 256 < n
 ·have e : jZ l = 3 := by unfold jZ; rw [if_neg (by omega), if_pos (by omega)]
  rw [e]
  repeat (refine aL ?_)
  refine aG (by first | exact .inl rfl | exact .inr rfl) rfl rfl _ _ aF aD (⟨rfl, rfl, rfl⟩)
 have e : jZ l = if farS l then 2 else 0 := by unfold jZ; rw [if_neg (by omega), if_neg (by omega)]
 repeat (refine aL ?_)
 refine aR [13, 14] rfl (fun k G M I => ∃ (i : Nat), i ≤ n ∧ k = n - i ∧ (∀ j : Nat, j < i → ¬ farI [(gt l (j : Int)).x, (gt l (j : Int)).y, (gt l (j : Int)).z]) ∧ G = [(15, .int .i64 i)] ∧ M0 = M ∧ I = aV q (recs yG l) :: I0) (n) _ _ _ aS aF aD (⟨0, by omega, rfl, fun j hj => by omega, rfl, rfl, rfl⟩) ?_
 rintro kk G M I ⟨i, hi, rfl, hnf, rfl, rfl, rfl⟩
 by_cases hin : i < n
 ·have hmem := eO (ms := l) (i := (i : Int)) (by omega)
  have hnf2 : ∀ j : Nat, j < i + 1 → j ≠ i → ¬ farI [(gt l (j : Int)).x, (gt l (j : Int)).y, (gt l (j : Int)).z] := fun j h1 h2 => hnf j (by omega)
  obtain ⟨s, hss⟩ : ∃ s, gt l (i : Int) = s := ⟨_, rfl⟩
  rw [hss] at hmem
  repeat (refine aL ?_)
  rw [hss]
  (refine aK rfl rfl ?_; intro b8; refine ⟨okF, ?_⟩)
  repeat (refine aL ?_)
  (refine aW (cs := recs eZ [s.x, s.y, s.z]) ([.int .i64 s.x, .int .i64 s.y, .int .i64 s.z]) rfl rfl (by intro v hv; repeat (first | exact absurd hv (List.not_mem_nil) | (rcases List.mem_cons.1 hv with rfl | hv; · rfl))) (by omega) rfl rfl rfl ?_; intro b9; refine ⟨okF, ?_⟩)
  refine aY .here ?_
  repeat (refine aL ?_)
  obtain ⟨xs, hxs⟩ : ∃ xs, xs = [s.x, s.y, s.z] := ⟨_, rfl⟩
  have hxl : xs.length = 3 := by rw [hxs]; rfl
  rw [← hxs]
  refine uB (M' := M0) (I' := aV (some ⟨b9, 0, none⟩) (recs eZ xs) :: aV q (recs yG l) :: I0) aF aD ?_
  refine aR [13, 14, 15, 25, 26] rfl (fun k G M I => ∃ (j : Nat), j ≤ 3 ∧ k = 3 - j ∧ (∀ t : Nat, t < j → ¬ (gt xs (t : Int) < -1048576 ∨ 1048576 < gt xs (t : Int))) ∧ G = [(27, .int .i64 j)] ∧ M0 = M ∧ I = aV (some ⟨b9, 0, none⟩) (recs eZ xs) :: aV q (recs yG l) :: I0) (3) _ _ _ aS aF aD (⟨0, by omega, rfl, fun j hj => by omega, rfl, rfl, rfl⟩) ?_
  rintro kk G M I ⟨j, hj, rfl, hok, rfl, rfl, rfl⟩
  by_cases hj3 : j < 3
  ·have hm2 := eO (ms := xs) (i := (j : Int)) (by omega)
   have hok2 : ∀ t : Nat, t < j + 1 → t ≠ j → ¬ (gt xs (t : Int) < -1048576 ∨ 1048576 < gt xs (t : Int)) := fun t h1 h2 => hok t (by omega)
   obtain ⟨x, hx⟩ : ∃ x, gt xs (j : Int) = x := ⟨_, rfl⟩
   rw [hx] at hm2
   repeat (refine aL ?_)
   rw [hx]
   by_cases hf : x < -1048576 ∨ 1048576 < x
   ·have e2 : jZ l = 2 := by rw [e, if_pos ⟨s, hmem, x, by rw [← hxs]; exact hm2, hf⟩]
    rw [e2]
    by_cases hf1 : x < -1048576
    ·repeat (refine aL ?_)
     refine sW (M' := M0) (I' := I0) aF aD ?_
     refine aG (by first | exact .inl rfl | exact .inr rfl) rfl rfl _ _ aF aD (⟨rfl, rfl, rfl⟩)
    ·repeat (refine aL ?_)
     refine sW (M' := M0) (I' := I0) aF aD ?_
     refine aG (by first | exact .inl rfl | exact .inr rfl) rfl rfl _ _ aF aD (⟨rfl, rfl, rfl⟩)
   ·repeat (refine aL ?_)
    refine aJ (3 - (j + 1)) _ _ _ (by first | omega | (simp only [List.length_append, List.length_cons, List.length_nil]; omega)) aS aF aD (⟨j + 1, by omega, rfl, fun t ht => ?_, rfl, rfl, rfl⟩)
    by_cases et : t = j
    ·subst et; rw [hx]; exact hf
    ·exact hok2 t ht et
  ·obtain rfl : j = 3 := by omega
   repeat (refine aL ?_)
   refine aJ (n - (i + 1)) _ _ _ (by first | omega | (simp only [List.length_append, List.length_cons, List.length_nil]; omega)) aS aF aD (⟨i + 1, by omega, rfl, fun j hj => ?_, rfl, rfl, rfl⟩)
   by_cases ej : j = i
   ·subst ej; rw [hss, ← hxs]
    rintro ⟨x, hx, hf⟩
    obtain ⟨t, ht, rfl⟩ := List.mem_iff_getElem.1 hx
    have := hok t (by omega)
    rw [cK ht] at this
    exact this hf
   ·exact hnf2 j hj ej
 ·obtain rfl : i = n := by omega
  have hno : ¬ farS l := by
   rintro ⟨s, hs, hf⟩
   obtain ⟨j, hj, rfl⟩ := List.mem_iff_getElem.1 hs
   have := hnf j (by omega)
   rw [cK hj] at this
   exact this hf
  rw [e, if_neg hno]
  repeat (refine aL ?_)
  refine sW (M' := M0) (I' := I0) aF aD ?_
  refine aG (by first | exact .inl rfl | exact .inr rfl) rfl rfl _ _ aF aD (⟨rfl, rfl, rfl⟩)
end
end Go.Proofs.YtkccjglmnhgabaaGreat
namespace Go.Proofs.YtkccjglmnhgabaaGreat
open Go Go.Fx
def lightP (p : KW) : Prop := p.ri.length ≤ 10 ∧ p.ci.length ≤ 10 ∧ p.kn.rows.length ≤ 10 ∧ p.d.dig ≤ 30 ∧ ∀ v ∈ p.kn.rows, v.shN 10 8
instance lightP.dec (p : KW) : Decidable (lightP p) := by unfold lightP; exact inferInstance
section
variable {X : List Nat} {w0 : World} {M0 M1 : List Ent} {I0 : List aZ}
end
end Go.Proofs.YtkccjglmnhgabaaGreat
namespace Go.Proofs.YtkccjglmnhgabaaGreat
open Go Go.Fx
section
variable {X : List Nat} {w0 : World} {M0 M1 : List Ent} {I0 : List aZ}
end
end Go.Proofs.YtkccjglmnhgabaaGreat

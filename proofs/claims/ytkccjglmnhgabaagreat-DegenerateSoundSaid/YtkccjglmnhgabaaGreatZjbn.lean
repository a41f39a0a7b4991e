/- far, whole, points, Shape. Points, plain: the flat's dimension by differences, linear maps change no rank, pairs that one affine map explains. Chapter 31's law: whole, rank, spots, shape. What chapter 31's law asks of proofs: few, light; proves walked. -/
import Derived.Test.YtkccjglmnhgabaaGreatZjbj
import Derived.Test.YtkccjglmnhgabaaGreatZjak
import Derived.Test.YtkccjglmnhgabaaGreatZjam
import Derived.Test.YtkccjglmnhgabaaGreatZjbg
import Derived.Test.YtkccjglmnhgabaaGreatZjbf
import Derived.Test.YtkccjglmnhgabaaGreatZjbm
set_option linter.unusedSimpArgs false
set_option linter.unusedVariables false
set_option maxRecDepth 100000
set_option maxHeartbeats 4000000
namespace Go.Proofs.YtkccjglmnhgabaaGreat
open Go Go.Fx
structure S3 where
 x : Int
 y : Int
 z : Int
instance S3.inh : Inhabited S3 := ⟨⟨0, 0, 0⟩⟩
abbrev eS3 (s : S3) : List Value := [.int .i64 s.x, .int .i64 s.y, .int .i64 s.z]
abbrev vS3 (s : S3) : Value := .agg (eS3 s).toArray
instance S3.szd : Sized eS3 3 := ⟨fun _ => rfl⟩
def farI (l : List Int) : Prop := ∃ x ∈ l, x < -1048576 ∨ 1048576 < x
instance farI.dec (l : List Int) : Decidable (farI l) := inferInstanceAs (Decidable (∃ x ∈ l, x < -1048576 ∨ 1048576 < x))
def rP (l : List Int) : List Rat := l.map (fun x : Int => (x : Rat))
section
variable {X : List Nat} {w0 : World} {M0 M1 : List Ent} {I0 : List aZ}
theorem aUA {x : Int} : CD Tryz.prog 142 [.int .i64 x] X w0 M0 I0 (fun v M I => M0 = M ∧ I0 = I ∧ v = .bool (B (x < -1048576 ∨ 1048576 < x))) := by
 refine aU Tryz.func142 rfl Tryz.ntmps142 rfl ?_
 by_cases h1 : x < -1048576
 ·repeat (refine aK ?_)
  refine aF (by first | exact .inl rfl | exact .inr rfl) rfl rfl _ _ aG aD (⟨rfl, rfl, congrArg Value.bool (bB (.inl h1)).symm⟩)
 ·by_cases h2 : 1048576 < x
  ·repeat (refine aK ?_)
   refine aF (by first | exact .inl rfl | exact .inr rfl) rfl rfl _ _ aG aD (⟨rfl, rfl, congrArg Value.bool ((bB h2).trans (bB (.inr h2)).symm)⟩)
  ·repeat (refine aK ?_)
   refine aF (by first | exact .inl rfl | exact .inr rfl) rfl rfl _ _ aG aD (⟨rfl, rfl, congrArg Value.bool ((aX h2).trans (aX (by omega)).symm)⟩)
theorem aXX {q : Option Addr} {l : List Int} {n c : Nat} (hl : l.length = n) (hn : n ≤ 1000) (hq : aQ q (recs eZ l) ∈ I0) : CD Tryz.prog 85 [.slice q n c] X w0 M0 I0 (fun v M I => M0 = M ∧ I0 = I ∧ v = .bool (B (farI l))) := by
 subst hl
 have hF := fun M0 I0 h => aWB (X := X) (w0 := w0) (M0 := M0) (I0 := I0) (p := q) (a := l) (c := c) (g := 142) (fs := #[]) (cs := #[]) (fun x => x < -1048576 ∨ 1048576 < x) (by omega) h (fun i _ => aUA)
 refine aU Tryz.func85 rfl Tryz.ntmps85 rfl ?_
 repeat (refine aK ?_)
 (refine aA rfl (hF _ _ aB) rfl rfl ?_; rintro _ _ _ ⟨rfl, rfl, rfl⟩; refine ⟨okF, ?_⟩)
 repeat (refine aK ?_)
 refine aF (by first | exact .inl rfl | exact .inr rfl) rfl rfl _ _ aG aD (⟨rfl, rfl, rfl⟩)
theorem aPZ {q : Option Addr} {l : List Int} {n c u : Nat} (hl : l.length = n) (hn : n ≤ 100) (hb : ∀ x ∈ l, (-9223372036854775808 ≤ x ∧ x ≤ 9223372036854775807) ∧ x.natAbs ≤ 2 ^ u) (hq : aQ q (recs eZ l) ∈ I0) :
  CD Tryz.prog 84 [.slice q n c] X w0 M0 I0 (LQ (rP l) u M0 I0) := by
 refine cK (φ := aQ q (recs eZ l)) (Hv.mem hq) ?_
 refine aU Tryz.func84 rfl Tryz.ntmps84 rfl ?_
 repeat (refine aK ?_)
 refine kI 37 4 ?_
 refine dK (φ := dB [] u) Hv.nilR ?_
 refine aM [6, 7] rfl (fun k G M I => ∃ (i : Nat) (es : List RE) (qe : Option Addr) (ce : Nat), i ≤ n ∧ k = n - i ∧ es.length = i ∧ qs es = rP (l.take i) ∧ G = [(3, .slice qe es.length ce), (8, .int .i64 i)] ∧ M = .row qe es.length ce (recs eR es) 37 4 :: M0 ∧ I = dB es u :: aQ q (recs eZ l) :: I0) (n) _ _ _ aP aG aD (⟨0, [], none, 0, by omega, rfl, rfl, rfl, rfl, rfl, rfl⟩) ?_
 rintro kk G M I ⟨i, es, qe, ce, hi, rfl, hel, heq, rfl, rfl, rfl⟩
 by_cases hin : i < n
 ·have hx := hb _ (dP (ms := l) (i := (i : Int)) (by omega))
  obtain ⟨x, hxx⟩ : ∃ x, gt l (i : Int) = x := ⟨_, rfl⟩
  rw [hxx] at hx
  have hW := fun M0 I0 => qC (X := X) (w0 := w0) (M0 := M0) (I0 := I0) (x := x) hx.1 (k := u) hx.2
  have ht : l.take (i + 1) = l.take i ++ [x] := by rw [← hxx, dM (by omega)]; exact (List.take_append_getElem (by omega)).symm
  repeat (refine aK ?_)
  rw [hxx]
  (refine aA rfl (hW _ _) rfl rfl ?_; rintro _ _ _ ⟨rfl, e, rfl, he, rfl⟩; refine ⟨okF, ?_⟩)
  (refine aW (cs := recs eR [e]) ([rv e]) rfl rfl (by intro v hv; repeat (first | exact absurd hv (List.not_mem_nil) | (rcases List.mem_cons.1 hv with rfl | hv; · rfl))) (by omega) rfl rfl rfl ?_; intro b; refine ⟨okF, ?_⟩)
  (refine dD (ys := [e]) 1 rfl rfl rfl ?_ (by decide) rfl (by omega) (by omega) rfl rfl ?_; (· first | exact Src.blk aB | exact Src.row aB | exact Src.imm aB (by first | assumption | exact .inl (Ok.mk _ _))); intro q2 c3; refine ⟨okF, ?_⟩)
  repeat (refine aK ?_)
  refine gP (φ := dB (es ++ [e]) u) (Hv.snoc aB aB) ?_
  refine aJ (n - (i + 1)) _ _ _ (by first | omega | (simp only [List.length_append, List.length_cons, List.length_nil]; omega)) aP aG aD (⟨i + 1, es ++ [e], q2, c3, by omega, rfl, by simp [hel], ?_, rfl, rfl, rfl⟩)
  rw [ht]
  unfold rP at heq ⊢
  rw [List.map_append, ← heq]
  show (es ++ [e]).map RE.q = qs es ++ [(x : Rat)]
  rw [List.map_append, ← he]
  rfl
 ·obtain rfl : i = n := by omega
  rw [← hl, List.take_length] at heq
  repeat (refine aK ?_)
  refine aKP (k := u) aB ?_
  refine aF (by first | exact .inl rfl | exact .inr rfl) rfl rfl _ _ aG aD (⟨rfl, ⟨qe, ce, es⟩, rfl, heq, rfl⟩)
def farS (l : List S3) : Prop := ∃ s ∈ l, farI [s.x, s.y, s.z]
instance farS.dec (l : List S3) : Decidable (farS l) := inferInstanceAs (Decidable (∃ s ∈ l, farI [s.x, s.y, s.z]))
def qG (l : List S3) : Int := if l.length = 0 then 6 else if 256 < l.length then 3 else if farS l then 2 else 0
theorem aPO {q : Option Addr} {l : List S3} {n c u d : Nat} {g : FuncId} [FnOk Tryz.prog g] {rowF : S3 → List Rat} (hl : l.length = n) (hd : 1 ≤ d ∧ d ≤ 20) (hu : 4 * kb u d + 2 ≤ 400000000000) (hq : aQ q (recs eS3 l) ∈ I0) (hrl : ∀ s, (rowF s).length = d)
  (hg : ∀ s ∈ l, ¬ farI [s.x, s.y, s.z] → ∀ M0 I0, CD Tryz.prog g [vS3 s] X w0 M0 I0 (LQ (rowF s) u M0 I0)) :
  CD Tryz.prog 82 [.slice q n c, .func (.func g) #[] #[]] X w0 M0 I0 (fun v M I => M0 = M ∧ I0 = I ∧ v = .tuple #[.int .i64 (if qG l = 0 then (((jR (l.map rowF) qT n).1.length : Nat) : Int) else 0), .int .i64 (qG l)]) := by
 have hdL : iD (l.map rowF) n d := ⟨by simp [hl], fun i hi => by
  have : rowAt (l.map rowF) i = rowF (gt l (i : Int)) := by rw [dM (by omega)]; simp [rowAt, List.getD, show i < l.length by omega]
  rw [this]; exact hrl _⟩
 refine cK (φ := aQ q (recs eS3 l)) (Hv.mem hq) ?_
 refine bF Tryz.func82 rfl Tryz.ntmps82 rfl ?_
 by_cases h0 : n = 0
 ·have e : qG l = 6 := by unfold qG; rw [if_pos (by omega)]
  rw [e]
  repeat (refine aK ?_)
  refine iA [4, 5] (by first | exact .inl rfl | exact .inr rfl) rfl rfl rfl _ _ aG aD (⟨rfl, rfl, rfl⟩)
 by_cases h1 : 256 < n
 ·have e : qG l = 3 := by unfold qG; rw [if_neg (by omega), if_pos (by omega)]
  rw [e]
  repeat (refine aK ?_)
  refine iA [4, 5] (by first | exact .inl rfl | exact .inr rfl) rfl rfl rfl _ _ aG aD (⟨rfl, rfl, rfl⟩)
 have e : qG l = if farS l then 2 else 0 := by unfold qG; rw [if_neg (by omega), if_neg (by omega)]
 repeat (refine aK ?_)
 (refine aC rfl (fun _ => cZ (pvs := ([]).zipIdx.map (fun p => (p.2, p.1))) (cells := [.slice none 0 0, .slice none 0 0]) rfl rfl) rfl rfl ?_)
 (refine aR rfl rfl rfl ?_; intro ps; refine ⟨okF, ?_⟩)
 repeat (refine aK ?_)
 refine kI 3 1 ?_
 refine kI 39 1 ?_
 refine dK (φ := allK [] u) Hv.nilK ?_
 refine aM [1, 6, 17, 18] rfl (fun k G M I => ∃ (i : Nat) (a b : Option Addr) (c0 c2 : Nat) (rows : List RL) (pz : List Int), i ≤ n ∧ k = n - i ∧ (∀ j : Nat, j < i → ¬ farI [(gt l (j : Int)).x, (gt l (j : Int)).y, (gt l (j : Int)).z]) ∧ rows.map RL.q = mtS (jR (l.map rowF) qT i).1 ∧ pz = zs (yM (jR (l.map rowF) qT i).1) ∧ G = [(19, .int .i64 i)] ∧ M = .row a rows.length c0 (recs eL rows) 39 1 :: .row b pz.length c2 (recs eZ pz) 3 1 :: .blk ps [.slice a rows.length c0, .slice b pz.length c2] 115 :: M0 ∧ I = allK rows u :: aQ q (recs eS3 l) :: I0) (n) _ _ _ aP aG aD (⟨0, none, none, 0, 0, [], [], by omega, rfl, fun j hj => by omega, rfl, rfl, rfl, rfl, rfl⟩) ?_
 rintro kk G M I ⟨i, a, b, c0, c2, rows, pz, hi, rfl, hnf, hr, hz, rfl, rfl, rfl⟩
 have hI := nR (q := qT) hdL (k := i) (by omega)
 have hle := wC hI
 have hku := gU u hle
 by_cases hin : i < n
 ·have hs := aJQ (A := l.map rowF) (i := i)
  have hra : rowAt (l.map rowF) i = rowF (gt l (i : Int)) := by rw [dM (by omega)]; simp [rowAt, List.getD, show i < l.length by omega]
  rw [hra] at hs
  have hmem := dP (ms := l) (i := (i : Int)) (by omega)
  have hnf2 : ∀ j : Nat, j < i + 1 → j ≠ i → ¬ farI [(gt l (j : Int)).x, (gt l (j : Int)).y, (gt l (j : Int)).z] := fun j h1 h2 => hnf j (by omega)
  obtain ⟨s, hss⟩ : ∃ s, gt l (i : Int) = s := ⟨_, rfl⟩
  obtain ⟨sp, hsp⟩ : ∃ sp, (jR (l.map rowF) qT i).1 = sp := ⟨_, rfl⟩
  rw [hsp] at hr hz hI hle hku hs
  rw [hss] at hs hmem
  have hlq := hrl s
  have hFr := fun b9 M0 I0 h => aXX (X := X) (w0 := w0) (M0 := M0) (I0 := I0) (q := some ⟨b9, 0, none⟩) (l := [s.x, s.y, s.z]) (n := 3) (c := 3) rfl (by omega) h
  repeat (refine aK ?_)
  rw [hss]
  (refine aL rfl rfl ?_; intro b8; refine ⟨okF, ?_⟩)
  repeat (refine aK ?_)
  (refine aW (cs := recs eZ [s.x, s.y, s.z]) ([.int .i64 s.x, .int .i64 s.y, .int .i64 s.z]) rfl rfl (by intro v hv; repeat (first | exact absurd hv (List.not_mem_nil) | (rcases List.mem_cons.1 hv with rfl | hv; · rfl))) (by omega) rfl rfl rfl ?_; intro b9; refine ⟨okF, ?_⟩)
  refine bA .here ?_
  by_cases hf : farI [s.x, s.y, s.z]
  ·rw [bB hf] at hFr
   have e2 : qG l = 2 := by rw [e, if_pos ⟨s, hmem, hf⟩]
   rw [e2]
   (refine aA rfl (hFr _ _ _ aB) rfl rfl ?_; rintro _ _ _ ⟨rfl, rfl, rfl⟩; refine ⟨okF, ?_⟩)
   repeat (refine aK ?_)
   refine aAZ (M' := M0) (I' := I0) aG aD ?_
   refine iA [4, 5] (by first | exact .inl rfl | exact .inr rfl) rfl rfl rfl _ _ aG aD (⟨rfl, rfl, rfl⟩)
  ·rw [aX hf] at hFr
   have hgs := hg s hmem hf
   have hA := fun M1 I0 (x : RL) (hx1 : x.q = rowF s) hx ha => aGL (X := X) (w0 := w0) (M1 := M1) (I0 := I0) (p := ps) (a := a) (b := b) (c := c0) (c2 := c2) (n := d) (u := u) (x := x) (sp := sp) ⟨hd.1, by omega⟩ (by omega) (by omega) (by rw [← hlq, ← hx1]; simp [RL.q, qs]) hI hr hz hx ha
   (refine aA rfl (hFr _ _ _ aB) rfl rfl ?_; rintro _ _ _ ⟨rfl, rfl, rfl⟩; refine ⟨okF, ?_⟩)
   repeat (refine aK ?_)
   (refine rW rfl rfl (hgs _ _) rfl rfl rfl ?_; rintro _ _ _ ⟨rfl, x, rfl, hxq, rfl⟩; refine ⟨okF, ?_⟩)
   refine RD_w (M' := .row a rows.length c0 (recs eL rows) 39 1 :: .row b pz.length c2 (recs eZ pz) 3 1 :: .blk ps [.slice a rows.length c0, .slice b pz.length c2] 115 :: M0) (I' := nD x u :: allK rows u :: aQ q (recs eS3 l) :: I0) aG aD ?_
   (refine aA rfl (hA _ _ x hxq aB aB) rfl rfl ?_; rintro _ _ _ ⟨a1, b1, d1, d2, rows1, pz1, rfl, rfl, rfl, hr1, hz1⟩; refine ⟨okF, ?_⟩)
   rw [hxq] at hr1 hz1
   repeat (refine aK ?_)
   refine aJ (n - (i + 1)) _ _ _ (by first | omega | (simp only [List.length_append, List.length_cons, List.length_nil]; omega)) aP aG aD (⟨i + 1, a1, b1, d1, d2, rows1, pz1, by omega, rfl, fun j hj => ?_, by rw [hs]; exact hr1, by rw [hs]; exact hz1, rfl, rfl, rfl⟩)
   by_cases ej : j = i
   ·subst ej; rw [hss]; exact hf
   ·exact hnf2 j hj ej
 ·obtain rfl : i = n := by omega
  have hno : ¬ farS l := by
   rintro ⟨s, hs, hf⟩
   obtain ⟨j, hj, rfl⟩ := List.mem_iff_getElem.1 hs
   have := hnf j (by omega)
   rw [dM hj] at this
   exact this hf
  have e2 : qG l = 0 := by rw [e, if_neg hno]
  rw [e2, if_pos rfl]
  have lz : pz.length = (jR (l.map rowF) qT i).1.length := by rw [hz, kS, jY]
  rw [← lz]
  repeat (refine aK ?_)
  refine aAZ (M' := M0) (I' := I0) aG aD ?_
  refine iA [4, 5] (by first | exact .inl rfl | exact .inr rfl) rfl rfl rfl _ _ aG aD (⟨rfl, rfl, rfl⟩)
def aGI (s : S3) : List Rat := rP [s.x, s.y, s.z, 1]
theorem aVL {s : S3} (h : ¬ farI [s.x, s.y, s.z]) : (-1048576 ≤ s.x ∧ s.x ≤ 1048576) ∧ (-1048576 ≤ s.y ∧ s.y ≤ 1048576) ∧ (-1048576 ≤ s.z ∧ s.z ≤ 1048576) := by
 refine ⟨?_, ?_, ?_⟩
 ·have : ¬ (s.x < -1048576 ∨ 1048576 < s.x) := fun e => h ⟨s.x, by simp, e⟩
  omega
 ·have : ¬ (s.y < -1048576 ∨ 1048576 < s.y) := fun e => h ⟨s.y, by simp, e⟩
  omega
 ·have : ¬ (s.z < -1048576 ∨ 1048576 < s.z) := fun e => h ⟨s.z, by simp, e⟩
  omega
theorem aPS {s : S3} (h : ¬ farI [s.x, s.y, s.z]) : CD Tryz.prog 83 [vS3 s] X w0 M0 I0 (LQ (aGI s) 20 M0 I0) := by
 obtain ⟨h1, h2, h3⟩ := aVL h
 have hW := fun b9 M0 I0 h => aPZ (X := X) (w0 := w0) (M0 := M0) (I0 := I0) (q := some ⟨b9, 0, none⟩) (l := [s.x, s.y, s.z, 1]) (n := 4) (c := 4) (u := 20) rfl (by omega) (by
  intro x hx
  simp only [List.mem_cons, List.not_mem_nil, or_false] at hx
  have e20 : 2 ^ 20 = 1048576 := rfl
  rcases hx with rfl | rfl | rfl | rfl <;> omega) h
 refine aU Tryz.func83 rfl Tryz.ntmps83 rfl ?_
 refine aI ?_
 refine aH ?_
 (refine aR rfl rfl rfl ?_; intro b1; refine ⟨okF, ?_⟩)
 repeat (refine aK ?_)
 (refine aW (cs := recs eZ [s.x, s.y, s.z, 1]) ([.int .i64 s.x, .int .i64 s.y, .int .i64 s.z, .int .i64 1]) rfl rfl (by intro v hv; repeat (first | exact absurd hv (List.not_mem_nil) | (rcases List.mem_cons.1 hv with rfl | hv; · rfl))) (by omega) rfl rfl rfl ?_; intro b9; refine ⟨okF, ?_⟩)
 refine bA .here ?_
 (refine aA rfl (hW _ _ _ aB) rfl rfl ?_; rintro _ _ _ ⟨rfl, x, rfl, hxq, rfl⟩; refine ⟨okF, ?_⟩)
 repeat (refine aK ?_)
 refine aAZ (M' := M0) (I' := nD x 20 :: I0) aG aD ?_
 refine aF (by first | exact .inl rfl | exact .inr rfl) rfl rfl _ _ aG aD (⟨rfl, x, rfl, hxq, rfl⟩)
theorem aQX {q : Option Addr} {l : List S3} {n c : Nat} (hl : l.length = n) (hq : aQ q (recs eS3 l) ∈ I0) :
  CD Tryz.prog 31 [.slice q n c] X w0 M0 I0 (fun v M I => M0 = M ∧ I0 = I ∧ v = .tuple #[.int .i64 (if qG l = 0 then (((jR (l.map aGI) qT n).1.length : Nat) : Int) - 1 else 0), .int .i64 (qG l)]) := by
 have hP := fun M0 I0 h => aPO (X := X) (w0 := w0) (M0 := M0) (I0 := I0) (q := q) (l := l) (n := n) (c := c) (u := 20) (d := 4) (g := 83) (rowF := aGI) hl (by omega) (by decide) h (fun s => rfl) (fun s _ hf M0 I0 => aPS hf)
 have hle : (jR (l.map aGI) qT n).1.length ≤ 4 := by
  have hdL : iD (l.map aGI) n 4 := ⟨by simp [hl], fun i hi => by
   have : rowAt (l.map aGI) i = aGI (gt l (i : Int)) := by rw [dM (by omega)]; simp [rowAt, List.getD, show i < l.length by omega]
   rw [this]; rfl⟩
  exact wC (nR (q := qT) hdL (k := n) (Nat.le_refl _))
 obtain ⟨N, hN⟩ : ∃ N, (jR (l.map aGI) qT n).1.length = N := ⟨_, rfl⟩
 rw [hN] at hP hle ⊢
 refine aU Tryz.func31 rfl Tryz.ntmps31 rfl ?_
 by_cases h0 : qG l = 0
 ·rw [h0, if_pos rfl] at hP
  rw [h0, if_pos rfl]
  repeat (refine aK ?_)
  (refine aA rfl (hP _ _ aB) rfl rfl ?_; rintro _ _ _ ⟨rfl, rfl, rfl⟩; refine ⟨okF, ?_⟩)
  repeat (refine aK ?_)
  refine iA [2, 3] (by first | exact .inl rfl | exact .inr rfl) rfl rfl rfl _ _ aG aD (⟨rfl, rfl, rfl⟩)
 ·rw [if_neg h0] at hP
  rw [if_neg h0]
  obtain ⟨C, hC⟩ : ∃ C, qG l = C := ⟨_, rfl⟩
  rw [hC] at hP h0 ⊢
  repeat (refine aK ?_)
  (refine aA rfl (hP _ _ aB) rfl rfl ?_; rintro _ _ _ ⟨rfl, rfl, rfl⟩; refine ⟨okF, ?_⟩)
  repeat (refine aK ?_)
  refine iA [2, 3] (by first | exact .inl rfl | exact .inr rfl) rfl rfl rfl _ _ aG aD (⟨rfl, rfl, rfl⟩)
end
end Go.Proofs.YtkccjglmnhgabaaGreat
namespace Go.Proofs.YtkccjglmnhgabaaGreat
open Go Go.Fx
def flatM (R : Nat) (p : Nat → Nat → Rat) : Mt := wP R 4 (fun i j => if j < 3 then p i j else 1)
def diffM (R : Nat) (p : Nat → Nat → Rat) : Mt := wP (R - 1) 3 (fun i j => p (i + 1) j - p 0 j)
/- moved points -/
def W4 (p : Nat → Rat) (j : Nat) : Rat := if j < 3 then p j else 1
def T4 (m : Nat → Nat → Rat) (b : Nat → Rat) (k j : Nat) : Rat := if j < 3 then (if k < 3 then m j k else b j) else if k < 3 then 0 else 1
def PQ : List (Nat × Nat) := [(0, 0), (1, 1), (2, 2), (0, 1), (0, 2), (1, 2), (0, 3), (1, 3), (2, 3), (3, 3)]
def q10 (p : Nat → Rat) (j : Nat) : Rat := W4 p (PQ.getD j (0, 0)).1 * W4 p (PQ.getD j (0, 0)).2
def G10 (T : Nat → Nat → Rat) (i j : Nat) : Rat :=
 if i < 3 ∨ i = 9 then T (PQ.getD i (0, 0)).1 (PQ.getD j (0, 0)).1 * T (PQ.getD i (0, 0)).1 (PQ.getD j (0, 0)).2
 else T (PQ.getD i (0, 0)).1 (PQ.getD j (0, 0)).1 * T (PQ.getD i (0, 0)).2 (PQ.getD j (0, 0)).2 + T (PQ.getD i (0, 0)).2 (PQ.getD j (0, 0)).1 * T (PQ.getD i (0, 0)).1 (PQ.getD j (0, 0)).2
def quadM (R : Nat) (p : Nat → Nat → Rat) : Mt := wP R 10 (fun i j => q10 (p i) j)
/- pairs -/
def epiL (x y u v : Rat) : List Rat := [u * x, u * y, u, v * x, v * y, v, x, y, 1]
def plaL (x y u : Rat) : List Rat := [x, y, 1, 0, 0, 0, - (u * x), - (u * y), - u]
def plbL (x y v : Rat) : List Rat := [0, 0, 0, x, y, 1, - (v * x), - (v * y), - v]
end Go.Proofs.YtkccjglmnhgabaaGreat
namespace Go.Proofs.YtkccjglmnhgabaaGreat
open Go Go.Fx
section
variable {X : List Nat} {w0 : World} {M0 M1 : List Ent} {I0 : List aZ}
theorem aOT {q : Option Addr} {l : List Int} {n c u : Nat} (hl : l.length = n) (hn : n ≤ 100) (hb : ∀ x ∈ l, (-9223372036854775808 ≤ x ∧ x ≤ 9223372036854775807) ∧ x.natAbs ≤ 2 ^ u) (hq : aQ q (recs eZ l) ∈ I0) :
  CD Tryz.prog 57 [.slice q n c] X w0 M0 I0 (LQ (rP l) u M0 I0) := by
 refine cK (φ := aQ q (recs eZ l)) (Hv.mem hq) ?_
 refine aU Tryz.func57 rfl Tryz.ntmps57 rfl ?_
 repeat (refine aK ?_)
 (refine aW (cs := recs eR []) ([]) rfl rfl (by intro v hv; repeat (first | exact absurd hv (List.not_mem_nil) | (rcases List.mem_cons.1 hv with rfl | hv; · rfl))) (by omega) rfl rfl rfl ?_; intro b0; refine ⟨okF, ?_⟩; refine fO (mm := 0) 4 .here rfl (by omega) ?_)
 repeat (refine aK ?_)
 refine dK (φ := dB [] u) Hv.nilR ?_
 refine aM [7, 8] rfl (fun k G M I => ∃ (i : Nat) (es : List RE) (qe : Option Addr) (ce : Nat), i ≤ n ∧ k = n - i ∧ es.length = i ∧ qs es = rP (l.take i) ∧ G = [(3, .slice qe es.length ce), (9, .int .i64 i)] ∧ M = .row qe es.length ce (recs eR es) 37 4 :: M0 ∧ I = dB es u :: aQ q (recs eZ l) :: I0) (n) _ _ _ aP aG aD (⟨0, [], _, _, by omega, rfl, rfl, rfl, rfl, rfl, rfl⟩) ?_
 rintro kk G M I ⟨i, es, qe, ce, hi, rfl, hel, heq, rfl, rfl, rfl⟩
 by_cases hin : i < n
 ·have hx := hb _ (dP (ms := l) (i := (i : Int)) (by omega))
  obtain ⟨x, hxx⟩ : ∃ x, gt l (i : Int) = x := ⟨_, rfl⟩
  rw [hxx] at hx
  have hW := fun M0 I0 => sS (X := X) (w0 := w0) (M0 := M0) (I0 := I0) (x := x) hx.1 (k := u) hx.2
  have ht : l.take (i + 1) = l.take i ++ [x] := by rw [← hxx, dM (by omega)]; exact (List.take_append_getElem (by omega)).symm
  repeat (refine aK ?_)
  rw [hxx]
  (refine aA rfl (hW _ _) rfl rfl ?_; rintro _ _ _ ⟨rfl, e, rfl, he, rfl⟩; refine ⟨okF, ?_⟩)
  (refine aW (cs := recs eR [e]) ([rv e]) rfl rfl (by intro v hv; repeat (first | exact absurd hv (List.not_mem_nil) | (rcases List.mem_cons.1 hv with rfl | hv; · rfl))) (by omega) rfl rfl rfl ?_; intro b; refine ⟨okF, ?_⟩)
  (refine dD (ys := [e]) 1 rfl rfl rfl ?_ (by decide) rfl (by omega) (by omega) rfl rfl ?_; (· first | exact Src.blk aB | exact Src.row aB | exact Src.imm aB (by first | assumption | exact .inl (Ok.mk _ _))); intro q2 c3; refine ⟨okF, ?_⟩)
  repeat (refine aK ?_)
  refine gP (φ := dB (es ++ [e]) u) (Hv.snoc aB aB) ?_
  refine aJ (n - (i + 1)) _ _ _ (by first | omega | (simp only [List.length_append, List.length_cons, List.length_nil]; omega)) aP aG aD (⟨i + 1, es ++ [e], q2, c3, by omega, rfl, by simp [hel], ?_, rfl, rfl, rfl⟩)
  rw [ht]
  unfold rP at heq ⊢
  rw [List.map_append, ← heq]
  show (es ++ [e]).map RE.q = qs es ++ [(x : Rat)]
  rw [List.map_append, ← he]
  rfl
 ·obtain rfl : i = n := by omega
  rw [← hl, List.take_length] at heq
  repeat (refine aK ?_)
  refine aKP (k := u) aB ?_
  refine aF (by first | exact .inl rfl | exact .inr rfl) rfl rfl _ _ aG aD (⟨rfl, ⟨qe, ce, es⟩, rfl, heq, rfl⟩)
theorem aIM {a : MX} {R C k0 : Nat} (hb : kb k0 C ≤ 20000000000) (hR : R ≤ 100) (hC : 1 ≤ C ∧ C ≤ 100) (da : a.dim R C) (ha : fJ a k0 ∈ I0) : CD Tryz.prog 27 [mv a] X w0 M0 I0 (fun v M I => M0 = M ∧ I0 = I ∧ v = .int .i64 ((rk a.q C : Nat) : Int)) := by
 have lR := da.1
 have hr := wN (kL da)
 refine aU Tryz.func27 rfl Tryz.ntmps27 rfl ?_
 by_cases h0 : R = 0
 ·have e : rk a.q C = 0 := by omega
  rw [e]
  repeat (refine aK ?_)
  refine aF (by first | exact .inl rfl | exact .inr rfl) rfl rfl _ _ aG aD (⟨rfl, rfl, rfl⟩)
 ·have hk := fun M0 I0 h => xZ (X := X) (w0 := w0) (M0 := M0) (I0 := I0) (a := a) (R := R) (C := C) (k0 := k0) (by omega) (by omega) hC da h
  repeat (refine aK ?_)
  (refine aA rfl (hk _ _ aB) rfl rfl ?_; rintro _ _ _ ⟨rfl, rfl, rfl⟩; refine ⟨okF, ?_⟩)
  repeat (refine aK ?_)
  refine aF (by first | exact .inl rfl | exact .inr rfl) rfl rfl _ _ aG aD (⟨rfl, rfl, rfl⟩)
end
end Go.Proofs.YtkccjglmnhgabaaGreat
namespace Go.Proofs.YtkccjglmnhgabaaGreat
open Go Go.Fx
def lightP (p : KW) : Prop := p.ri.length ≤ 10 ∧ p.ci.length ≤ 10 ∧ p.kn.rows.length ≤ 10 ∧ p.d.dig ≤ 30 ∧ ∀ v ∈ p.kn.rows, v.shN 10 8
instance lightP.dec (p : KW) : Decidable (lightP p) := by unfold lightP; exact inferInstance
theorem aLY {α : Type} [Inhabited α] {p : α → Prop} {l : List α} {n : Nat} (h : ∀ j : Nat, j < n → p (gt l (j : Int))) (hn : l.length ≤ n) : ∀ a ∈ l, p a := fun a ha => by
 obtain ⟨j, hj, rfl⟩ := List.mem_iff_getElem.1 ha
 have := h j (by omega)
 rwa [jD hj] at this
theorem aBO {p : Nat → Prop} {i : Nat} (h : ∀ j, j < i → p j) (hi : p i) : ∀ j, j < i + 1 → p j := fun j hj => by
 by_cases e : j = i
 ·subst e; exact hi
 ·exact h j (by omega)
section
variable {X : List Nat} {w0 : World} {M0 M1 : List Ent} {I0 : List aZ}
theorem kV {m : WM} (hR : m.rch) (hm : iE m ∈ I0) : CD Tryz.prog 18 [yI m] X w0 M0 I0 (fun v M I => M0 = M ∧ I0 = I ∧ v = .bool (B (m.shN 7 6))) := by
 have hl := hR.1
 refine cK (φ := iE m) (Hv.mem hm) ?_
 refine cK (φ := aQ m.p (recs uO m.rows)) (Hv.wmsl (List.Mem.head _)) ?_
 refine aU Tryz.func18 rfl Tryz.ntmps18 rfl ?_
 by_cases e1 : m.rows.length ≤ 7
 case neg =>
  repeat (refine aK ?_)
  refine aF (by first | exact .inl rfl | exact .inr rfl) rfl rfl _ _ aG aD (⟨rfl, rfl, congrArg Value.bool (aX (fun h => e1 h.1)).symm⟩)
 repeat (refine aK ?_)
 refine aM [8, 9] rfl (fun k G M I => ∃ i : Nat, i ≤ m.rows.length ∧ k = m.rows.length - i ∧ (∀ j : Nat, j < i → (gt m.rows (j : Int)).shN 7 6) ∧ G = [(10, .int .i64 i)] ∧ M0 = M ∧ I = aQ m.p (recs uO m.rows) :: iE m :: I0) (m.rows.length) _ _ _ aP aG aD (⟨0, by omega, rfl, fun j hj => by omega, rfl, rfl, rfl⟩) ?_
 rintro kk G M I ⟨i, hi, rfl, hg, rfl, rfl, rfl⟩
 by_cases hin : i < m.rows.length
 ·have hS := fun M0 I0 h => aHP (X := X) (w0 := w0) (M0 := M0) (I0 := I0) (r := gt m.rows (i : Int)) (n := 7) (g := 6) ⟨by omega, by omega⟩ (wW hR.2 hin) h
  refine dK (φ := vP (gt m.rows (i : Int))) (Hv.wmrow aB (by omega)) ?_
  by_cases e : (gt m.rows (i : Int)).shN 7 6
  ·rw [bB e] at hS
   repeat (refine aK ?_)
   (refine aA rfl (hS _ _ aB) rfl rfl ?_; rintro _ _ _ ⟨rfl, rfl, rfl⟩; refine ⟨okF, ?_⟩)
   repeat (refine aK ?_)
   refine aJ (m.rows.length - (i + 1)) _ _ _ (by first | omega | (simp only [List.length_append, List.length_cons, List.length_nil]; omega)) aP aG aD (⟨i + 1, by omega, rfl, aBO hg e, rfl, rfl, rfl⟩)
  ·rw [aX e] at hS
   repeat (refine aK ?_)
   (refine aA rfl (hS _ _ aB) rfl rfl ?_; rintro _ _ _ ⟨rfl, rfl, rfl⟩; refine ⟨okF, ?_⟩)
   repeat (refine aK ?_)
   refine aF (by first | exact .inl rfl | exact .inr rfl) rfl rfl _ _ aG aD (⟨rfl, rfl, congrArg Value.bool (aX (fun h => e (wW h.2 hin))).symm⟩)
 ·repeat (refine aK ?_)
  refine aF (by first | exact .inl rfl | exact .inr rfl) rfl rfl _ _ aG aD (⟨rfl, rfl, congrArg Value.bool (bB ⟨e1, aLY hg (by omega)⟩).symm⟩)
theorem rY {p : KW} (hR : p.kn.rch) (hd : p.d.reach) (hp : isKW p ∈ I0) : CD Tryz.prog 25 [vKW p] X w0 M0 I0 (fun v M I => M0 = M ∧ I0 = I ∧ v = .bool (B (lightP p))) := by
 have hl := hR.1
 refine jM (φ := (p.ri.length : Int) ≤ 9223372036854775807 ∧ (p.ci.length : Int) ≤ 9223372036854775807) (fun w hw => ⟨((hw.imm _ hp).2 : IsKW p _ w).lr, ((hw.imm _ hp).2 : IsKW p _ w).lc⟩) (fun hll => ?_)
 have hD := fun M0 I0 => aCJ (X := X) (w0 := w0) (M0 := M0) (I0 := I0) (r := p.d) hd
 have hdl : (p.d.dig : Int) = p.d.g1.length + p.d.g2.length := by unfold RW.dig; omega
 rw [← hdl] at hD
 refine cK (φ := iE p.kn) (Hv.kwn hp) ?_
 refine cK (φ := aQ p.kn.p (recs uO p.kn.rows)) (Hv.wmsl (List.Mem.head _)) ?_
 refine aU Tryz.func25 rfl Tryz.ntmps25 rfl ?_
 refine aI ?_
 refine aH ?_
 (refine aR rfl rfl rfl ?_; intro b1; refine ⟨okF, ?_⟩)
 refine bA .here ?_
 by_cases e1 : p.ri.length ≤ 10
 case neg =>
  repeat (refine aK ?_)
  refine aF (by first | exact .inl rfl | exact .inr rfl) rfl rfl _ _ aG aD (⟨rfl, rfl, congrArg Value.bool (aX (fun h => e1 h.1)).symm⟩)
 by_cases e2 : p.ci.length ≤ 10
 case neg =>
  repeat (refine aK ?_)
  refine aF (by first | exact .inl rfl | exact .inr rfl) rfl rfl _ _ aG aD (⟨rfl, rfl, congrArg Value.bool (aX (fun h => e2 h.2.1)).symm⟩)
 by_cases e3 : p.kn.rows.length ≤ 10
 case neg =>
  repeat (refine aK ?_)
  refine aF (by first | exact .inl rfl | exact .inr rfl) rfl rfl _ _ aG aD (⟨rfl, rfl, congrArg Value.bool (aX (fun h => e3 h.2.2.1)).symm⟩)
 by_cases e4 : p.d.dig ≤ 30
 case neg =>
  repeat (refine aK ?_)
  (refine aA rfl (hD _ _) rfl rfl ?_; rintro _ _ _ ⟨rfl, rfl, rfl⟩; refine ⟨okF, ?_⟩)
  repeat (refine aK ?_)
  refine aF (by first | exact .inl rfl | exact .inr rfl) rfl rfl _ _ aG aD (⟨rfl, rfl, congrArg Value.bool (aX (fun h => e4 h.2.2.2.1)).symm⟩)
 repeat (refine aK ?_)
 (refine aA rfl (hD _ _) rfl rfl ?_; rintro _ _ _ ⟨rfl, rfl, rfl⟩; refine ⟨okF, ?_⟩)
 repeat (refine aK ?_)
 refine qW (M' := M0) (I' := aQ p.kn.p (recs uO p.kn.rows) :: iE p.kn :: I0) SubP.refl aD ?_
 refine aM [28, 29] rfl (fun k G M I => ∃ i : Nat, i ≤ p.kn.rows.length ∧ k = p.kn.rows.length - i ∧ (∀ j : Nat, j < i → (gt p.kn.rows (j : Int)).shN 10 8) ∧ G = [(30, .int .i64 i)] ∧ M0 = M ∧ I = aQ p.kn.p (recs uO p.kn.rows) :: iE p.kn :: I0) (p.kn.rows.length) _ _ _ aP aG aD (⟨0, by omega, rfl, fun j hj => by omega, rfl, rfl, rfl⟩) ?_
 rintro kk G M I ⟨i, hi, rfl, hg, rfl, rfl, rfl⟩
 by_cases hin : i < p.kn.rows.length
 ·have hS := fun M0 I0 h => aHP (X := X) (w0 := w0) (M0 := M0) (I0 := I0) (r := gt p.kn.rows (i : Int)) (n := 10) (g := 8) ⟨by omega, by omega⟩ (wW hR.2 hin) h
  refine dK (φ := vP (gt p.kn.rows (i : Int))) (Hv.wmrow aB (by omega)) ?_
  by_cases e : (gt p.kn.rows (i : Int)).shN 10 8
  ·rw [bB e] at hS
   repeat (refine aK ?_)
   (refine aA rfl (hS _ _ aB) rfl rfl ?_; rintro _ _ _ ⟨rfl, rfl, rfl⟩; refine ⟨okF, ?_⟩)
   repeat (refine aK ?_)
   refine aJ (p.kn.rows.length - (i + 1)) _ _ _ (by first | omega | (simp only [List.length_append, List.length_cons, List.length_nil]; omega)) aP aG aD (⟨i + 1, by omega, rfl, aBO hg e, rfl, rfl, rfl⟩)
  ·rw [aX e] at hS
   repeat (refine aK ?_)
   (refine aA rfl (hS _ _ aB) rfl rfl ?_; rintro _ _ _ ⟨rfl, rfl, rfl⟩; refine ⟨okF, ?_⟩)
   repeat (refine aK ?_)
   refine aF (by first | exact .inl rfl | exact .inr rfl) rfl rfl _ _ aG aD (⟨rfl, rfl, congrArg Value.bool (aX (fun h => e (wW h.2.2.2.2 hin))).symm⟩)
 ·repeat (refine aK ?_)
  refine aF (by first | exact .inl rfl | exact .inr rfl) rfl rfl _ _ aG aD (⟨rfl, rfl, congrArg Value.bool (bB ⟨e1, e2, e3, e4, aLY hg (by omega)⟩).symm⟩)
end
end Go.Proofs.YtkccjglmnhgabaaGreat

/- far, whole, points, Shape. Points, plain: the flat's dimension by differences, linear maps change no rank, pairs that one affine map explains. Chapter 31's law: whole, rank, spots, shape. What chapter 31's law asks of proofs: few, light; proves walked. Chapter 31's law: proves, walked. -/
import Derived.Test.YtkccjglmnhgabaaGreatDoorZqbi
import Derived.Test.YtkccjglmnhgabaaGreatDoorZqak
import Derived.Test.YtkccjglmnhgabaaGreatDoorZqam
import Derived.Test.YtkccjglmnhgabaaGreatDoorZqbf
import Derived.Test.YtkccjglmnhgabaaGreatDoorZqbe
import Derived.Test.YtkccjglmnhgabaaGreatDoorZqbk
set_option linter.unusedSimpArgs false
set_option linter.unusedVariables false
set_option maxRecDepth 100000
set_option maxHeartbeats 4000000
namespace Go.Proofs.YtkccjglmnhgabaaGreatDoor
open Go Go.Fx
structure S3 where
 x : Int
 y : Int
 z : Int
instance S3.inh : Inhabited S3 := ⟨⟨0, 0, 0⟩⟩
abbrev oM (s : S3) : List Value := [.int .i64 s.x, .int .i64 s.y, .int .i64 s.z]
abbrev vS3 (s : S3) : Value := .agg (oM s).toArray
instance S3.szd : Sized oM 3 := ⟨fun _ => rfl⟩
def farI (l : List Int) : Prop := ∃ x ∈ l, x < -1048576 ∨ 1048576 < x
instance farI.dec (l : List Int) : Decidable (farI l) := inferInstanceAs (Decidable (∃ x ∈ l, x < -1048576 ∨ 1048576 < x))
def kP (l : List Int) : List Rat := l.map (fun x : Int => (x : Rat))
section
variable {X : List Nat} {w0 : World} {M0 M1 : List Ent} {I0 : List bB}
theorem aTQ {x : Int} : CD Tryz.prog 86 [.int .i64 x] X w0 M0 I0 (fun v M I => M0 = M ∧ I0 = I ∧ v = .bool (B (x < -1048576 ∨ 1048576 < x))) := by
 refine bC Tryz.func86 rfl Tryz.ntmps86 rfl ?_
 by_cases h1 : x < -1048576
 ·repeat (refine aK ?_)
  refine aH (by first | exact .inl rfl | exact .inr rfl) rfl rfl _ _ aF aD (⟨rfl, rfl, congrArg Value.bool (dZ (.inl h1)).symm⟩)
 ·by_cases h2 : 1048576 < x
  ·repeat (refine aK ?_)
   refine aH (by first | exact .inl rfl | exact .inr rfl) rfl rfl _ _ aF aD (⟨rfl, rfl, congrArg Value.bool ((dZ h2).trans (dZ (.inr h2)).symm)⟩)
  ·repeat (refine aK ?_)
   refine aH (by first | exact .inl rfl | exact .inr rfl) rfl rfl _ _ aF aD (⟨rfl, rfl, congrArg Value.bool ((dF h2).trans (dF (by omega)).symm)⟩)
theorem aUV {q : Option Addr} {l : List Int} {n c : Nat} (hl : l.length = n) (hn : n ≤ 1000) (hq : aW q (recs eZ l) ∈ I0) : CD Tryz.prog 50 [.slice q n c] X w0 M0 I0 (fun v M I => M0 = M ∧ I0 = I ∧ v = .bool (B (farI l))) := by
 subst hl
 have hF := fun M0 I0 h => aSL (X := X) (w0 := w0) (M0 := M0) (I0 := I0) (p := q) (a := l) (c := c) (g := 86) (fs := #[]) (cs := #[]) (fun x => x < -1048576 ∨ 1048576 < x) (by omega) h (fun i _ => aTQ)
 refine bC Tryz.func50 rfl Tryz.ntmps50 rfl ?_
 repeat (refine aK ?_)
 (refine aA rfl (hF _ _ aB) rfl rfl ?_; rintro _ _ _ ⟨rfl, rfl, rfl⟩; refine ⟨okF, ?_⟩)
 repeat (refine aK ?_)
 refine aH (by first | exact .inl rfl | exact .inr rfl) rfl rfl _ _ aF aD (⟨rfl, rfl, rfl⟩)
theorem aGO {q : Option Addr} {l : List Int} {n c u : Nat} (hl : l.length = n) (hn : n ≤ 100) (hb : ∀ x ∈ l, (-9223372036854775808 ≤ x ∧ x ≤ 9223372036854775807) ∧ x.natAbs ≤ 2 ^ u) (hq : aW q (recs eZ l) ∈ I0) :
  CD Tryz.prog 21 [.slice q n c] X w0 M0 I0 (LQ (kP l) u M0 I0) := by
 refine eQ (φ := aW q (recs eZ l)) (Hv.mem hq) ?_
 refine bC Tryz.func21 rfl Tryz.ntmps21 rfl ?_
 repeat (refine aK ?_)
 refine jR 46 4 ?_
 refine fI (φ := dV [] u) Hv.nilR ?_
 refine aT [6, 7] rfl (fun k G M I => ∃ (i : Nat) (es : List RE) (qe : Option Addr) (ce : Nat), i ≤ n ∧ k = n - i ∧ es.length = i ∧ qs es = kP (l.take i) ∧ G = [(3, .slice qe es.length ce), (8, .int .i64 i)] ∧ M = .row qe es.length ce (recs eR es) 46 4 :: M0 ∧ I = dV es u :: aW q (recs eZ l) :: I0) (n) _ _ _ aQ aF aD (⟨0, [], none, 0, by omega, rfl, rfl, rfl, rfl, rfl, rfl⟩) ?_
 rintro kk G M I ⟨i, es, qe, ce, hi, rfl, hel, heq, rfl, rfl, rfl⟩
 by_cases hin : i < n
 ·have hx := hb _ (eX (ms := l) (i := (i : Int)) (by omega))
  obtain ⟨x, hxx⟩ : ∃ x, gt l (i : Int) = x := ⟨_, rfl⟩
  rw [hxx] at hx
  have hW := fun M0 I0 => pW (X := X) (w0 := w0) (M0 := M0) (I0 := I0) (x := x) hx.1 (k := u) hx.2
  have ht : l.take (i + 1) = l.take i ++ [x] := by rw [← hxx, dH (by omega)]; exact (List.take_append_getElem (by omega)).symm
  repeat (refine aK ?_)
  rw [hxx]
  (refine aA rfl (hW _ _) rfl rfl ?_; rintro _ _ _ ⟨rfl, e, rfl, he, rfl⟩; refine ⟨okF, ?_⟩)
  (refine aP (cs := recs eR [e]) ([rv e]) rfl rfl (by intro v hv; repeat (first | exact absurd hv (List.not_mem_nil) | (rcases List.mem_cons.1 hv with rfl | hv; · rfl))) (by omega) rfl rfl rfl ?_; intro b; refine ⟨okF, ?_⟩)
  (refine dC (ys := [e]) 1 rfl rfl rfl ?_ (by decide) rfl (by omega) (by omega) rfl rfl ?_; (· first | exact Src.blk aB | exact Src.row aB | exact Src.imm aB (by first | assumption | exact .inl (Ok.mk _ _))); intro q2 c3; refine ⟨okF, ?_⟩)
  repeat (refine aK ?_)
  refine iW (φ := dV (es ++ [e]) u) (Hv.snoc aB aB) ?_
  refine aG (n - (i + 1)) _ _ _ (by first | omega | (simp only [List.length_append, List.length_cons, List.length_nil]; omega)) aQ aF aD (⟨i + 1, es ++ [e], q2, c3, by omega, rfl, by simp [hel], ?_, rfl, rfl, rfl⟩)
  rw [ht]
  unfold kP at heq ⊢
  rw [List.map_append, ← heq]
  show (es ++ [e]).map RE.q = qs es ++ [(x : Rat)]
  rw [List.map_append, ← he]
  rfl
 ·obtain rfl : i = n := by omega
  rw [← hl, List.take_length] at heq
  repeat (refine aK ?_)
  refine aOX (k := u) aB ?_
  refine aH (by first | exact .inl rfl | exact .inr rfl) rfl rfl _ _ aF aD (⟨rfl, ⟨qe, ce, es⟩, rfl, heq, rfl⟩)
def farS (l : List S3) : Prop := ∃ s ∈ l, farI [s.x, s.y, s.z]
instance farS.dec (l : List S3) : Decidable (farS l) := inferInstanceAs (Decidable (∃ s ∈ l, farI [s.x, s.y, s.z]))
def iZ (l : List S3) : Int := if l.length = 0 then 6 else if 256 < l.length then 3 else if farS l then 2 else 0
theorem aDC {q : Option Addr} {l : List S3} {n c u d : Nat} {g : FuncId} [FnOk Tryz.prog g] {rowF : S3 → List Rat} (hl : l.length = n) (hd : 1 ≤ d ∧ d ≤ 20) (hu : 4 * kb u d + 2 ≤ 400000000000) (hq : aW q (recs oM l) ∈ I0) (hrl : ∀ s, (rowF s).length = d)
  (hg : ∀ s ∈ l, ¬ farI [s.x, s.y, s.z] → ∀ M0 I0, CD Tryz.prog g [vS3 s] X w0 M0 I0 (LQ (rowF s) u M0 I0)) :
  CD Tryz.prog 19 [.slice q n c, .func (.func g) #[] #[]] X w0 M0 I0 (fun v M I => M0 = M ∧ I0 = I ∧ v = .tuple #[.int .i64 (if iZ l = 0 then (((jX (l.map rowF) qT n).1.length : Nat) : Int) else 0), .int .i64 (iZ l)]) := by
 have hdL : kK (l.map rowF) n d := ⟨by simp [hl], fun i hi => by
  have : rowAt (l.map rowF) i = rowF (gt l (i : Int)) := by rw [dH (by omega)]; simp [rowAt, List.getD, show i < l.length by omega]
  rw [this]; exact hrl _⟩
 refine eQ (φ := aW q (recs oM l)) (Hv.mem hq) ?_
 refine bR Tryz.func19 rfl Tryz.ntmps19 rfl ?_
 by_cases h0 : n = 0
 ·have e : iZ l = 6 := by unfold iZ; rw [if_pos (by omega)]
  rw [e]
  repeat (refine aK ?_)
  refine iD [4, 5] (by first | exact .inl rfl | exact .inr rfl) rfl rfl rfl _ _ aF aD (⟨rfl, rfl, rfl⟩)
 by_cases h1 : 256 < n
 ·have e : iZ l = 3 := by unfold iZ; rw [if_neg (by omega), if_pos (by omega)]
  rw [e]
  repeat (refine aK ?_)
  refine iD [4, 5] (by first | exact .inl rfl | exact .inr rfl) rfl rfl rfl _ _ aF aD (⟨rfl, rfl, rfl⟩)
 have e : iZ l = if farS l then 2 else 0 := by unfold iZ; rw [if_neg (by omega), if_neg (by omega)]
 repeat (refine aK ?_)
 (refine aC rfl (fun _ => dE (pvs := ([]).zipIdx.map (fun p => (p.2, p.1))) (cells := [.slice none 0 0, .slice none 0 0]) rfl rfl) rfl rfl ?_)
 (refine aX rfl rfl rfl ?_; intro ps; refine ⟨okF, ?_⟩)
 repeat (refine aK ?_)
 refine jR 3 1 ?_
 refine jR 48 1 ?_
 refine fI (φ := allK [] u) Hv.nilK ?_
 refine aT [1, 6, 17, 18] rfl (fun k G M I => ∃ (i : Nat) (a b : Option Addr) (c0 c2 : Nat) (rows : List RL) (pz : List Int), i ≤ n ∧ k = n - i ∧ (∀ j : Nat, j < i → ¬ farI [(gt l (j : Int)).x, (gt l (j : Int)).y, (gt l (j : Int)).z]) ∧ rows.map RL.q = mtS (jX (l.map rowF) qT i).1 ∧ pz = zs (pvS (jX (l.map rowF) qT i).1) ∧ G = [(19, .int .i64 i)] ∧ M = .row a rows.length c0 (recs eL rows) 48 1 :: .row b pz.length c2 (recs eZ pz) 3 1 :: .blk ps [.slice a rows.length c0, .slice b pz.length c2] 74 :: M0 ∧ I = allK rows u :: aW q (recs oM l) :: I0) (n) _ _ _ aQ aF aD (⟨0, none, none, 0, 0, [], [], by omega, rfl, fun j hj => by omega, rfl, rfl, rfl, rfl, rfl⟩) ?_
 rintro kk G M I ⟨i, a, b, c0, c2, rows, pz, hi, rfl, hnf, hr, hz, rfl, rfl, rfl⟩
 have hI := oC (q := qT) hdL (k := i) (by omega)
 have hle := vM hI
 have hku := iO u hle
 by_cases hin : i < n
 ·have hs := aHS (A := l.map rowF) (i := i)
  have hra : rowAt (l.map rowF) i = rowF (gt l (i : Int)) := by rw [dH (by omega)]; simp [rowAt, List.getD, show i < l.length by omega]
  rw [hra] at hs
  have hmem := eX (ms := l) (i := (i : Int)) (by omega)
  have hnf2 : ∀ j : Nat, j < i + 1 → j ≠ i → ¬ farI [(gt l (j : Int)).x, (gt l (j : Int)).y, (gt l (j : Int)).z] := fun j h1 h2 => hnf j (by omega)
  obtain ⟨s, hss⟩ : ∃ s, gt l (i : Int) = s := ⟨_, rfl⟩
  obtain ⟨sp, hsp⟩ : ∃ sp, (jX (l.map rowF) qT i).1 = sp := ⟨_, rfl⟩
  rw [hsp] at hr hz hI hle hku hs
  rw [hss] at hs hmem
  have hlq := hrl s
  have hFr := fun b9 M0 I0 h => aUV (X := X) (w0 := w0) (M0 := M0) (I0 := I0) (q := some ⟨b9, 0, none⟩) (l := [s.x, s.y, s.z]) (n := 3) (c := 3) rfl (by omega) h
  repeat (refine aK ?_)
  rw [hss]
  (refine aM rfl rfl ?_; intro b8; refine ⟨okF, ?_⟩)
  repeat (refine aK ?_)
  (refine aP (cs := recs eZ [s.x, s.y, s.z]) ([.int .i64 s.x, .int .i64 s.y, .int .i64 s.z]) rfl rfl (by intro v hv; repeat (first | exact absurd hv (List.not_mem_nil) | (rcases List.mem_cons.1 hv with rfl | hv; · rfl))) (by omega) rfl rfl rfl ?_; intro b9; refine ⟨okF, ?_⟩)
  refine aO .here ?_
  by_cases hf : farI [s.x, s.y, s.z]
  ·rw [dZ hf] at hFr
   have e2 : iZ l = 2 := by rw [e, if_pos ⟨s, hmem, hf⟩]
   rw [e2]
   (refine aA rfl (hFr _ _ _ aB) rfl rfl ?_; rintro _ _ _ ⟨rfl, rfl, rfl⟩; refine ⟨okF, ?_⟩)
   repeat (refine aK ?_)
   refine rV (M' := M0) (I' := I0) aF aD ?_
   refine iD [4, 5] (by first | exact .inl rfl | exact .inr rfl) rfl rfl rfl _ _ aF aD (⟨rfl, rfl, rfl⟩)
  ·rw [dF hf] at hFr
   have hgs := hg s hmem hf
   have hA := fun M1 I0 (x : RL) (hx1 : x.q = rowF s) hx ha => aDM (X := X) (w0 := w0) (M1 := M1) (I0 := I0) (p := ps) (a := a) (b := b) (c := c0) (c2 := c2) (n := d) (u := u) (x := x) (sp := sp) ⟨hd.1, by omega⟩ (by omega) (by omega) (by rw [← hlq, ← hx1]; simp [RL.q, qs]) hI hr hz hx ha
   (refine aA rfl (hFr _ _ _ aB) rfl rfl ?_; rintro _ _ _ ⟨rfl, rfl, rfl⟩; refine ⟨okF, ?_⟩)
   repeat (refine aK ?_)
   (refine rH rfl rfl (hgs _ _) rfl rfl rfl ?_; rintro _ _ _ ⟨rfl, x, rfl, hxq, rfl⟩; refine ⟨okF, ?_⟩)
   refine RD_w (M' := .row a rows.length c0 (recs eL rows) 48 1 :: .row b pz.length c2 (recs eZ pz) 3 1 :: .blk ps [.slice a rows.length c0, .slice b pz.length c2] 74 :: M0) (I' := nV x u :: allK rows u :: aW q (recs oM l) :: I0) aF aD ?_
   (refine aA rfl (hA _ _ x hxq aB aB) rfl rfl ?_; rintro _ _ _ ⟨a1, b1, d1, d2, rows1, pz1, rfl, rfl, rfl, hr1, hz1⟩; refine ⟨okF, ?_⟩)
   rw [hxq] at hr1 hz1
   repeat (refine aK ?_)
   refine aG (n - (i + 1)) _ _ _ (by first | omega | (simp only [List.length_append, List.length_cons, List.length_nil]; omega)) aQ aF aD (⟨i + 1, a1, b1, d1, d2, rows1, pz1, by omega, rfl, fun j hj => ?_, by rw [hs]; exact hr1, by rw [hs]; exact hz1, rfl, rfl, rfl⟩)
   by_cases ej : j = i
   ·subst ej; rw [hss]; exact hf
   ·exact hnf2 j hj ej
 ·obtain rfl : i = n := by omega
  have hno : ¬ farS l := by
   rintro ⟨s, hs, hf⟩
   obtain ⟨j, hj, rfl⟩ := List.mem_iff_getElem.1 hs
   have := hnf j (by omega)
   rw [dH hj] at this
   exact this hf
  have e2 : iZ l = 0 := by rw [e, if_neg hno]
  rw [e2, if_pos rfl]
  have lz : pz.length = (jX (l.map rowF) qT i).1.length := by rw [hz, nP, oD]
  rw [← lz]
  repeat (refine aK ?_)
  refine rV (M' := M0) (I' := I0) aF aD ?_
  refine iD [4, 5] (by first | exact .inl rfl | exact .inr rfl) rfl rfl rfl _ _ aF aD (⟨rfl, rfl, rfl⟩)
def sV (s : S3) : List Rat := kP [s.x, s.y, s.z, 1]
theorem zJ {s : S3} (h : ¬ farI [s.x, s.y, s.z]) : (-1048576 ≤ s.x ∧ s.x ≤ 1048576) ∧ (-1048576 ≤ s.y ∧ s.y ≤ 1048576) ∧ (-1048576 ≤ s.z ∧ s.z ≤ 1048576) := by
 refine ⟨?_, ?_, ?_⟩
 ·have : ¬ (s.x < -1048576 ∨ 1048576 < s.x) := fun e => h ⟨s.x, by simp, e⟩
  omega
 ·have : ¬ (s.y < -1048576 ∨ 1048576 < s.y) := fun e => h ⟨s.y, by simp, e⟩
  omega
 ·have : ¬ (s.z < -1048576 ∨ 1048576 < s.z) := fun e => h ⟨s.z, by simp, e⟩
  omega
theorem aLK {s : S3} (h : ¬ farI [s.x, s.y, s.z]) : CD Tryz.prog 30 [vS3 s] X w0 M0 I0 (LQ (sV s) 20 M0 I0) := by
 obtain ⟨h1, h2, h3⟩ := zJ h
 have hW := fun b9 M0 I0 h => aGO (X := X) (w0 := w0) (M0 := M0) (I0 := I0) (q := some ⟨b9, 0, none⟩) (l := [s.x, s.y, s.z, 1]) (n := 4) (c := 4) (u := 20) rfl (by omega) (by
  intro x hx
  simp only [List.mem_cons, List.not_mem_nil, or_false] at hx
  have e20 : 2 ^ 20 = 1048576 := rfl
  rcases hx with rfl | rfl | rfl | rfl <;> omega) h
 refine bC Tryz.func30 rfl Tryz.ntmps30 rfl ?_
 refine aJ ?_
 refine aL ?_
 (refine aX rfl rfl rfl ?_; intro b1; refine ⟨okF, ?_⟩)
 repeat (refine aK ?_)
 (refine aP (cs := recs eZ [s.x, s.y, s.z, 1]) ([.int .i64 s.x, .int .i64 s.y, .int .i64 s.z, .int .i64 1]) rfl rfl (by intro v hv; repeat (first | exact absurd hv (List.not_mem_nil) | (rcases List.mem_cons.1 hv with rfl | hv; · rfl))) (by omega) rfl rfl rfl ?_; intro b9; refine ⟨okF, ?_⟩)
 refine aO .here ?_
 (refine aA rfl (hW _ _ _ aB) rfl rfl ?_; rintro _ _ _ ⟨rfl, x, rfl, hxq, rfl⟩; refine ⟨okF, ?_⟩)
 repeat (refine aK ?_)
 refine rV (M' := M0) (I' := nV x 20 :: I0) aF aD ?_
 refine aH (by first | exact .inl rfl | exact .inr rfl) rfl rfl _ _ aF aD (⟨rfl, x, rfl, hxq, rfl⟩)
theorem aBI {q : Option Addr} {l : List S3} {n c : Nat} (hl : l.length = n) (hq : aW q (recs oM l) ∈ I0) :
  CD Tryz.prog 13 [.slice q n c] X w0 M0 I0 (fun v M I => M0 = M ∧ I0 = I ∧ v = .tuple #[.int .i64 (if iZ l = 0 then (((jX (l.map sV) qT n).1.length : Nat) : Int) - 1 else 0), .int .i64 (iZ l)]) := by
 have hP := fun M0 I0 h => aDC (X := X) (w0 := w0) (M0 := M0) (I0 := I0) (q := q) (l := l) (n := n) (c := c) (u := 20) (d := 4) (g := 30) (rowF := sV) hl (by omega) (by decide) h (fun s => rfl) (fun s _ hf M0 I0 => aLK hf)
 have hle : (jX (l.map sV) qT n).1.length ≤ 4 := by
  have hdL : kK (l.map sV) n 4 := ⟨by simp [hl], fun i hi => by
   have : rowAt (l.map sV) i = sV (gt l (i : Int)) := by rw [dH (by omega)]; simp [rowAt, List.getD, show i < l.length by omega]
   rw [this]; rfl⟩
  exact vM (oC (q := qT) hdL (k := n) (Nat.le_refl _))
 obtain ⟨N, hN⟩ : ∃ N, (jX (l.map sV) qT n).1.length = N := ⟨_, rfl⟩
 rw [hN] at hP hle ⊢
 refine bC Tryz.func13 rfl Tryz.ntmps13 rfl ?_
 by_cases h0 : iZ l = 0
 ·rw [h0, if_pos rfl] at hP
  rw [h0, if_pos rfl]
  repeat (refine aK ?_)
  (refine aA rfl (hP _ _ aB) rfl rfl ?_; rintro _ _ _ ⟨rfl, rfl, rfl⟩; refine ⟨okF, ?_⟩)
  repeat (refine aK ?_)
  refine iD [2, 3] (by first | exact .inl rfl | exact .inr rfl) rfl rfl rfl _ _ aF aD (⟨rfl, rfl, rfl⟩)
 ·rw [if_neg h0] at hP
  rw [if_neg h0]
  obtain ⟨C, hC⟩ : ∃ C, iZ l = C := ⟨_, rfl⟩
  rw [hC] at hP h0 ⊢
  repeat (refine aK ?_)
  (refine aA rfl (hP _ _ aB) rfl rfl ?_; rintro _ _ _ ⟨rfl, rfl, rfl⟩; refine ⟨okF, ?_⟩)
  repeat (refine aK ?_)
  refine iD [2, 3] (by first | exact .inl rfl | exact .inr rfl) rfl rfl rfl _ _ aF aD (⟨rfl, rfl, rfl⟩)
end
end Go.Proofs.YtkccjglmnhgabaaGreatDoor
namespace Go.Proofs.YtkccjglmnhgabaaGreatDoor
open Go Go.Fx
def yT (R : Nat) (p : Nat → Nat → Rat) : Mt := uY R 4 (fun i j => if j < 3 then p i j else 1)
def diffM (R : Nat) (p : Nat → Nat → Rat) : Mt := uY (R - 1) 3 (fun i j => p (i + 1) j - p 0 j)
theorem sm4 {f : Nat → Rat} : sm 4 f = f 0 + f 1 + f 2 + f 3 := by simp only [sm]; grind
theorem aKQ {R : Nat} {p : Nat → Nat → Rat} {i j : Nat} (hi : i < R) (hj : j < 4) : at2 (yT R p) i j = if j < 3 then p i j else 1 := vB hi hj
/- moved points -/
def W4 (p : Nat → Rat) (j : Nat) : Rat := if j < 3 then p j else 1
def T4 (m : Nat → Nat → Rat) (b : Nat → Rat) (k j : Nat) : Rat := if j < 3 then (if k < 3 then m j k else b j) else if k < 3 then 0 else 1
theorem aHX {m : Nat → Nat → Rat} {b p q : Nat → Rat} (h : ∀ a, a < 3 → q a = m a 0 * p 0 + m a 1 * p 1 + m a 2 * p 2 + b a) {j : Nat} (hj : j < 4) : W4 q j = sm 4 (fun k => W4 p k * T4 m b k j) := by
 rw [sm4]
 unfold W4 T4
 simp only [if_pos (show 0 < 3 by omega), if_pos (show 1 < 3 by omega), if_pos (show 2 < 3 by omega), if_neg (show ¬ 3 < 3 by omega)]
 by_cases e : j < 3
 ·simp only [if_pos e]; rw [h j e]; grind
 ·simp only [if_neg e]; grind
def PQ : List (Nat × Nat) := [(0, 0), (1, 1), (2, 2), (0, 1), (0, 2), (1, 2), (0, 3), (1, 3), (2, 3), (3, 3)]
def q10 (p : Nat → Rat) (j : Nat) : Rat := W4 p (PQ.getD j (0, 0)).1 * W4 p (PQ.getD j (0, 0)).2
def G10 (T : Nat → Nat → Rat) (i j : Nat) : Rat :=
 if i < 3 ∨ i = 9 then T (PQ.getD i (0, 0)).1 (PQ.getD j (0, 0)).1 * T (PQ.getD i (0, 0)).1 (PQ.getD j (0, 0)).2
 else T (PQ.getD i (0, 0)).1 (PQ.getD j (0, 0)).1 * T (PQ.getD i (0, 0)).2 (PQ.getD j (0, 0)).2 + T (PQ.getD i (0, 0)).2 (PQ.getD j (0, 0)).1 * T (PQ.getD i (0, 0)).1 (PQ.getD j (0, 0)).2
theorem PQ_lt {j : Nat} (hj : j < 10) : (PQ.getD j (0, 0)).1 < 4 ∧ (PQ.getD j (0, 0)).2 < 4 := by
 have : ∀ j : Fin 10, (PQ.getD j.1 (0, 0)).1 < 4 ∧ (PQ.getD j.1 (0, 0)).2 < 4 := by decide
 exact this ⟨j, hj⟩
theorem sm10 {f : Nat → Rat} : sm 10 f = f 0 + f 1 + f 2 + f 3 + f 4 + f 5 + f 6 + f 7 + f 8 + f 9 := by simp only [sm]; grind
theorem aRH {m : Nat → Nat → Rat} {b p q : Nat → Rat} (h : ∀ a, a < 3 → q a = m a 0 * p 0 + m a 1 * p 1 + m a 2 * p 2 + b a) {j : Nat} (hj : j < 10) : q10 q j = sm 10 (fun i => q10 p i * G10 (T4 m b) i j) := by
 obtain ⟨h1, h2⟩ := PQ_lt hj
 unfold q10
 rw [aHX h h1, aHX h h2, sm4, sm4, sm10]
 unfold G10
 generalize (PQ.getD j (0, 0)).1 = a
 generalize (PQ.getD j (0, 0)).2 = c
 generalize T4 m b = T
 generalize W4 p = w
 have e0 : PQ.getD 0 (0, 0) = (0, 0) := rfl
 have e1 : PQ.getD 1 (0, 0) = (1, 1) := rfl
 have e2 : PQ.getD 2 (0, 0) = (2, 2) := rfl
 have e3 : PQ.getD 3 (0, 0) = (0, 1) := rfl
 have e4 : PQ.getD 4 (0, 0) = (0, 2) := rfl
 have e5 : PQ.getD 5 (0, 0) = (1, 2) := rfl
 have e6 : PQ.getD 6 (0, 0) = (0, 3) := rfl
 have e7 : PQ.getD 7 (0, 0) = (1, 3) := rfl
 have e8 : PQ.getD 8 (0, 0) = (2, 3) := rfl
 have e9 : PQ.getD 9 (0, 0) = (3, 3) := rfl
 simp only [e0, e1, e2, e3, e4, e5, e6, e7, e8, e9, if_pos (show 0 < 3 ∨ 0 = 9 by omega), if_pos (show 1 < 3 ∨ 1 = 9 by omega), if_pos (show 2 < 3 ∨ 2 = 9 by omega), if_neg (show ¬ (3 < 3 ∨ 3 = 9) by omega), if_neg (show ¬ (4 < 3 ∨ 4 = 9) by omega), if_neg (show ¬ (5 < 3 ∨ 5 = 9) by omega), if_neg (show ¬ (6 < 3 ∨ 6 = 9) by omega), if_neg (show ¬ (7 < 3 ∨ 7 = 9) by omega), if_neg (show ¬ (8 < 3 ∨ 8 = 9) by omega)]
 generalize w 0 = w0, w 1 = w1, w 2 = w2, w 3 = w3, T 0 a = a0, T 1 a = a1, T 2 a = a2, T 3 a = a3, T 0 c = c0, T 1 c = c1, T 2 c = c2, T 3 c = c3
 grind
def yV (R : Nat) (p : Nat → Nat → Rat) : Mt := uY R 10 (fun i j => q10 (p i) j)
theorem aJP {R : Nat} {m : Nat → Nat → Rat} {b : Nat → Rat} {p q : Nat → Nat → Rat} (h : ∀ i, i < R → ∀ a, a < 3 → q i a = m a 0 * p i 0 + m a 1 * p i 1 + m a 2 * p i 2 + b a) : rk (yT R q) 4 ≤ rk (yT R p) 4 :=
 aPJ (R := R) aAK aAK (G := T4 m b) (fun i j hi hj => by
  rw [bI (g := fun k => W4 (p i) k * T4 m b k j) (fun k hk => by rw [aKQ hi hk]; rfl), ← aHX (h i hi) hj, aKQ hi hj]; rfl)
theorem aJX {R : Nat} {m : Nat → Nat → Rat} {b : Nat → Rat} {p q : Nat → Nat → Rat} (h : ∀ i, i < R → ∀ a, a < 3 → q i a = m a 0 * p i 0 + m a 1 * p i 1 + m a 2 * p i 2 + b a) : rk (yV R q) 10 ≤ rk (yV R p) 10 :=
 aPJ (R := R) aAK aAK (G := G10 (T4 m b)) (fun i j hi hj => by
  unfold yV
  rw [vB hi hj, aRH (h i hi) hj]
  exact bI (fun k hk => by rw [vB hi hk]))
theorem aNY {m : Nat → Nat → Rat} {b : Nat → Rat} (hd : dt 3 m ≠ 0) : ∃ (n : Nat → Nat → Rat) (c : Nat → Rat), ∀ p q : Nat → Rat, (∀ a, a < 3 → q a = m a 0 * p 0 + m a 1 * p 1 + m a 2 * p 2 + b a) → ∀ a, a < 3 → p a = n a 0 * q 0 + n a 1 * q 1 + n a 2 * q 2 + c a := by
 have e : dt 3 m = m 0 0 * (m 1 1 * m 2 2 - m 1 2 * m 2 1) - m 0 1 * (m 1 0 * m 2 2 - m 1 2 * m 2 0) + m 0 2 * (m 1 0 * m 2 1 - m 1 1 * m 2 0) := by
  simp only [dt, sm, sk, sgd]
  simp
  grind
 rw [e] at hd
 obtain ⟨D, hD⟩ : ∃ D, D = m 0 0 * (m 1 1 * m 2 2 - m 1 2 * m 2 1) - m 0 1 * (m 1 0 * m 2 2 - m 1 2 * m 2 0) + m 0 2 * (m 1 0 * m 2 1 - m 1 1 * m 2 0) := ⟨_, rfl⟩
 rw [← hD] at hd
 obtain ⟨κ, hκ⟩ : ∃ κ : Rat, κ * D = 1 := ⟨1 / D, by grind⟩
 obtain ⟨n, hn⟩ : ∃ n : Nat → Nat → Rat, n = fun a c =>
  κ * (if a = 0 then (if c = 0 then m 1 1 * m 2 2 - m 1 2 * m 2 1 else if c = 1 then m 0 2 * m 2 1 - m 0 1 * m 2 2 else m 0 1 * m 1 2 - m 0 2 * m 1 1)
  else if a = 1 then (if c = 0 then m 1 2 * m 2 0 - m 1 0 * m 2 2 else if c = 1 then m 0 0 * m 2 2 - m 0 2 * m 2 0 else m 0 2 * m 1 0 - m 0 0 * m 1 2)
  else (if c = 0 then m 1 0 * m 2 1 - m 1 1 * m 2 0 else if c = 1 then m 0 1 * m 2 0 - m 0 0 * m 2 1 else m 0 0 * m 1 1 - m 0 1 * m 1 0)) := ⟨_, rfl⟩
 refine ⟨n, fun a => - (n a 0 * b 0 + n a 1 * b 1 + n a 2 * b 2), fun p q h a ha => ?_⟩
 rw [h 0 (by omega), h 1 (by omega), h 2 (by omega)]
 have e3 : a = 0 ∨ a = 1 ∨ a = 2 := by omega
 clear h e hd
 rcases e3 with rfl | rfl | rfl
 all_goals
  subst hn
  simp only [if_true, Nat.reduceEqDiff, if_false]
  generalize p 0 = p0, p 1 = p1, p 2 = p2, b 0 = b0, b 1 = b1, b 2 = b2
  generalize m 0 0 = m00, m 0 1 = m01, m 0 2 = m02, m 1 0 = m10, m 1 1 = m11, m 1 2 = m12, m 2 0 = m20, m 2 1 = m21, m 2 2 = m22 at *
  subst hD
  grind
theorem aNP {R : Nat} {m : Nat → Nat → Rat} {b : Nat → Rat} {p q : Nat → Nat → Rat} (hd : dt 3 m ≠ 0) (h : ∀ i, i < R → ∀ a, a < 3 → q i a = m a 0 * p i 0 + m a 1 * p i 1 + m a 2 * p i 2 + b a) : rk (yT R q) 4 = rk (yT R p) 4 ∧ rk (yV R q) 10 = rk (yV R p) 10 := by
 obtain ⟨n, c, hb⟩ := aNY (b := b) hd
 have h' : ∀ i, i < R → ∀ a, a < 3 → p i a = n a 0 * q i 0 + n a 1 * q i 1 + n a 2 * q i 2 + c a := fun i hi a ha => hb (p i) (q i) (h i hi) a ha
 exact ⟨Nat.le_antisymm (aJP h) (aJP h'), Nat.le_antisymm (aJX h) (aJX h')⟩
/- pairs -/
def epiL (x y u v : Rat) : List Rat := [u * x, u * y, u, v * x, v * y, v, x, y, 1]
def plaL (x y u : Rat) : List Rat := [x, y, 1, 0, 0, 0, - (u * x), - (u * y), - u]
def plbL (x y v : Rat) : List Rat := [0, 0, 0, x, y, 1, - (v * x), - (v * y), - v]
end Go.Proofs.YtkccjglmnhgabaaGreatDoor
namespace Go.Proofs.YtkccjglmnhgabaaGreatDoor
open Go Go.Fx
section
variable {X : List Nat} {w0 : World} {M0 M1 : List Ent} {I0 : List bB}
theorem yA {q : Option Addr} {l : List Int} {n c u : Nat} (hl : l.length = n) (hn : n ≤ 100) (hb : ∀ x ∈ l, (-9223372036854775808 ≤ x ∧ x ≤ 9223372036854775807) ∧ x.natAbs ≤ 2 ^ u) (hq : aW q (recs eZ l) ∈ I0) :
  CD Tryz.prog 12 [.slice q n c] X w0 M0 I0 (LQ (kP l) u M0 I0) := by
 refine eQ (φ := aW q (recs eZ l)) (Hv.mem hq) ?_
 refine bC Tryz.func12 rfl Tryz.ntmps12 rfl ?_
 repeat (refine aK ?_)
 (refine aP (cs := recs eR []) ([]) rfl rfl (by intro v hv; repeat (first | exact absurd hv (List.not_mem_nil) | (rcases List.mem_cons.1 hv with rfl | hv; · rfl))) (by omega) rfl rfl rfl ?_; intro b0; refine ⟨okF, ?_⟩; refine jS (mm := 0) 4 .here rfl (by omega) ?_)
 repeat (refine aK ?_)
 refine fI (φ := dV [] u) Hv.nilR ?_
 refine aT [7, 8] rfl (fun k G M I => ∃ (i : Nat) (es : List RE) (qe : Option Addr) (ce : Nat), i ≤ n ∧ k = n - i ∧ es.length = i ∧ qs es = kP (l.take i) ∧ G = [(3, .slice qe es.length ce), (9, .int .i64 i)] ∧ M = .row qe es.length ce (recs eR es) 46 4 :: M0 ∧ I = dV es u :: aW q (recs eZ l) :: I0) (n) _ _ _ aQ aF aD (⟨0, [], _, _, by omega, rfl, rfl, rfl, rfl, rfl, rfl⟩) ?_
 rintro kk G M I ⟨i, es, qe, ce, hi, rfl, hel, heq, rfl, rfl, rfl⟩
 by_cases hin : i < n
 ·have hx := hb _ (eX (ms := l) (i := (i : Int)) (by omega))
  obtain ⟨x, hxx⟩ : ∃ x, gt l (i : Int) = x := ⟨_, rfl⟩
  rw [hxx] at hx
  have hW := fun M0 I0 => vQ (X := X) (w0 := w0) (M0 := M0) (I0 := I0) (x := x) hx.1 (k := u) hx.2
  have ht : l.take (i + 1) = l.take i ++ [x] := by rw [← hxx, dH (by omega)]; exact (List.take_append_getElem (by omega)).symm
  repeat (refine aK ?_)
  rw [hxx]
  (refine aA rfl (hW _ _) rfl rfl ?_; rintro _ _ _ ⟨rfl, e, rfl, he, rfl⟩; refine ⟨okF, ?_⟩)
  (refine aP (cs := recs eR [e]) ([rv e]) rfl rfl (by intro v hv; repeat (first | exact absurd hv (List.not_mem_nil) | (rcases List.mem_cons.1 hv with rfl | hv; · rfl))) (by omega) rfl rfl rfl ?_; intro b; refine ⟨okF, ?_⟩)
  (refine dC (ys := [e]) 1 rfl rfl rfl ?_ (by decide) rfl (by omega) (by omega) rfl rfl ?_; (· first | exact Src.blk aB | exact Src.row aB | exact Src.imm aB (by first | assumption | exact .inl (Ok.mk _ _))); intro q2 c3; refine ⟨okF, ?_⟩)
  repeat (refine aK ?_)
  refine iW (φ := dV (es ++ [e]) u) (Hv.snoc aB aB) ?_
  refine aG (n - (i + 1)) _ _ _ (by first | omega | (simp only [List.length_append, List.length_cons, List.length_nil]; omega)) aQ aF aD (⟨i + 1, es ++ [e], q2, c3, by omega, rfl, by simp [hel], ?_, rfl, rfl, rfl⟩)
  rw [ht]
  unfold kP at heq ⊢
  rw [List.map_append, ← heq]
  show (es ++ [e]).map RE.q = qs es ++ [(x : Rat)]
  rw [List.map_append, ← he]
  rfl
 ·obtain rfl : i = n := by omega
  rw [← hl, List.take_length] at heq
  repeat (refine aK ?_)
  refine aOX (k := u) aB ?_
  refine aH (by first | exact .inl rfl | exact .inr rfl) rfl rfl _ _ aF aD (⟨rfl, ⟨qe, ce, es⟩, rfl, heq, rfl⟩)
theorem aPG {a : MX} {R C k0 : Nat} (hb : kb k0 C ≤ 20000000000) (hR : R ≤ 100) (hC : 1 ≤ C ∧ C ≤ 100) (da : a.dim R C) (ha : jC a k0 ∈ I0) : CD Tryz.prog 8 [mv a] X w0 M0 I0 (fun v M I => M0 = M ∧ I0 = I ∧ v = .int .i64 ((rk a.q C : Nat) : Int)) := by
 have lR := da.1
 have hr := aIS (oV da)
 refine bC Tryz.func8 rfl Tryz.ntmps8 rfl ?_
 by_cases h0 : R = 0
 ·have e : rk a.q C = 0 := by omega
  rw [e]
  repeat (refine aK ?_)
  refine aH (by first | exact .inl rfl | exact .inr rfl) rfl rfl _ _ aF aD (⟨rfl, rfl, rfl⟩)
 ·have hk := fun M0 I0 h => aOS (X := X) (w0 := w0) (M0 := M0) (I0 := I0) (a := a) (R := R) (C := C) (k0 := k0) (by omega) (by omega) hC da h
  repeat (refine aK ?_)
  (refine aA rfl (hk _ _ aB) rfl rfl ?_; rintro _ _ _ ⟨rfl, rfl, rfl⟩; refine ⟨okF, ?_⟩)
  repeat (refine aK ?_)
  refine aH (by first | exact .inl rfl | exact .inr rfl) rfl rfl _ _ aF aD (⟨rfl, rfl, rfl⟩)
theorem aFL {q : Option Addr} {l : List S3} {n c : Nat} (hl : l.length = n) (hn : (n : Int) ≤ 9223372036854775807) (hq : aW q (recs oM l) ∈ I0) :
  CD Tryz.prog 6 [.slice q n c] X w0 M0 I0 (fun v M I => M0 = M ∧ I0 = I ∧ v = .int .i64 (iZ l)) := by
 refine eQ (φ := aW q (recs oM l)) (Hv.mem hq) ?_
 refine bC Tryz.func6 rfl Tryz.ntmps6 rfl ?_
 by_cases h0 : n = 0
 ·have e : iZ l = 6 := by unfold iZ; rw [if_pos (by omega)]
  rw [e]
  repeat (refine aK ?_)
  refine aH (by first | exact .inl rfl | exact .inr rfl) rfl rfl _ _ aF aD (⟨rfl, rfl, rfl⟩)
 by_cases h1 : 256 < n
 ·have e : iZ l = 3 := by unfold iZ; rw [if_neg (by omega), if_pos (by omega)]
  rw [e]
  repeat (refine aK ?_)
  refine aH (by first | exact .inl rfl | exact .inr rfl) rfl rfl _ _ aF aD (⟨rfl, rfl, rfl⟩)
 have e : iZ l = if farS l then 2 else 0 := by unfold iZ; rw [if_neg (by omega), if_neg (by omega)]
 repeat (refine aK ?_)
 refine aT [13, 14] rfl (fun k G M I => ∃ (i : Nat), i ≤ n ∧ k = n - i ∧ (∀ j : Nat, j < i → ¬ farI [(gt l (j : Int)).x, (gt l (j : Int)).y, (gt l (j : Int)).z]) ∧ G = [(15, .int .i64 i)] ∧ M0 = M ∧ I = aW q (recs oM l) :: I0) (n) _ _ _ aQ aF aD (⟨0, by omega, rfl, fun j hj => by omega, rfl, rfl, rfl⟩) ?_
 rintro kk G M I ⟨i, hi, rfl, hnf, rfl, rfl, rfl⟩
 by_cases hin : i < n
 ·have hmem := eX (ms := l) (i := (i : Int)) (by omega)
  have hnf2 : ∀ j : Nat, j < i + 1 → j ≠ i → ¬ farI [(gt l (j : Int)).x, (gt l (j : Int)).y, (gt l (j : Int)).z] := fun j h1 h2 => hnf j (by omega)
  obtain ⟨s, hss⟩ : ∃ s, gt l (i : Int) = s := ⟨_, rfl⟩
  rw [hss] at hmem
  repeat (refine aK ?_)
  rw [hss]
  (refine aM rfl rfl ?_; intro b8; refine ⟨okF, ?_⟩)
  repeat (refine aK ?_)
  (refine aP (cs := recs eZ [s.x, s.y, s.z]) ([.int .i64 s.x, .int .i64 s.y, .int .i64 s.z]) rfl rfl (by intro v hv; repeat (first | exact absurd hv (List.not_mem_nil) | (rcases List.mem_cons.1 hv with rfl | hv; · rfl))) (by omega) rfl rfl rfl ?_; intro b9; refine ⟨okF, ?_⟩)
  refine aO .here ?_
  repeat (refine aK ?_)
  obtain ⟨xs, hxs⟩ : ∃ xs, xs = [s.x, s.y, s.z] := ⟨_, rfl⟩
  have hxl : xs.length = 3 := by rw [hxs]; rfl
  rw [← hxs]
  refine uV (M' := M0) (I' := aW (some ⟨b9, 0, none⟩) (recs eZ xs) :: aW q (recs oM l) :: I0) aF aD ?_
  refine aT [13, 14, 15, 25, 26] rfl (fun k G M I => ∃ (j : Nat), j ≤ 3 ∧ k = 3 - j ∧ (∀ t : Nat, t < j → ¬ (gt xs (t : Int) < -1048576 ∨ 1048576 < gt xs (t : Int))) ∧ G = [(27, .int .i64 j)] ∧ M0 = M ∧ I = aW (some ⟨b9, 0, none⟩) (recs eZ xs) :: aW q (recs oM l) :: I0) (3) _ _ _ aQ aF aD (⟨0, by omega, rfl, fun j hj => by omega, rfl, rfl, rfl⟩) ?_
  rintro kk G M I ⟨j, hj, rfl, hok, rfl, rfl, rfl⟩
  by_cases hj3 : j < 3
  ·have hm2 := eX (ms := xs) (i := (j : Int)) (by omega)
   have hok2 : ∀ t : Nat, t < j + 1 → t ≠ j → ¬ (gt xs (t : Int) < -1048576 ∨ 1048576 < gt xs (t : Int)) := fun t h1 h2 => hok t (by omega)
   obtain ⟨x, hx⟩ : ∃ x, gt xs (j : Int) = x := ⟨_, rfl⟩
   rw [hx] at hm2
   repeat (refine aK ?_)
   rw [hx]
   by_cases hf : x < -1048576 ∨ 1048576 < x
   ·have e2 : iZ l = 2 := by rw [e, if_pos ⟨s, hmem, x, by rw [← hxs]; exact hm2, hf⟩]
    rw [e2]
    by_cases hf1 : x < -1048576
    ·repeat (refine aK ?_)
     refine rV (M' := M0) (I' := I0) aF aD ?_
     refine aH (by first | exact .inl rfl | exact .inr rfl) rfl rfl _ _ aF aD (⟨rfl, rfl, rfl⟩)
    ·repeat (refine aK ?_)
     refine rV (M' := M0) (I' := I0) aF aD ?_
     refine aH (by first | exact .inl rfl | exact .inr rfl) rfl rfl _ _ aF aD (⟨rfl, rfl, rfl⟩)
   ·repeat (refine aK ?_)
    refine aG (3 - (j + 1)) _ _ _ (by first | omega | (simp only [List.length_append, List.length_cons, List.length_nil]; omega)) aQ aF aD (⟨j + 1, by omega, rfl, fun t ht => ?_, rfl, rfl, rfl⟩)
    by_cases et : t = j
    ·subst et; rw [hx]; exact hf
    ·exact hok2 t ht et
  ·obtain rfl : j = 3 := by omega
   repeat (refine aK ?_)
   refine aG (n - (i + 1)) _ _ _ (by first | omega | (simp only [List.length_append, List.length_cons, List.length_nil]; omega)) aQ aF aD (⟨i + 1, by omega, rfl, fun j hj => ?_, rfl, rfl, rfl⟩)
   by_cases ej : j = i
   ·subst ej; rw [hss, ← hxs]
    rintro ⟨x, hx, hf⟩
    obtain ⟨t, ht, rfl⟩ := List.mem_iff_getElem.1 hx
    have := hok t (by omega)
    rw [dH ht] at this
    exact this hf
   ·exact hnf2 j hj ej
 ·obtain rfl : i = n := by omega
  have hno : ¬ farS l := by
   rintro ⟨s, hs, hf⟩
   obtain ⟨j, hj, rfl⟩ := List.mem_iff_getElem.1 hs
   have := hnf j (by omega)
   rw [dH hj] at this
   exact this hf
  rw [e, if_neg hno]
  repeat (refine aK ?_)
  refine rV (M' := M0) (I' := I0) aF aD ?_
  refine aH (by first | exact .inl rfl | exact .inr rfl) rfl rfl _ _ aF aD (⟨rfl, rfl, rfl⟩)
end
end Go.Proofs.YtkccjglmnhgabaaGreatDoor
namespace Go.Proofs.YtkccjglmnhgabaaGreatDoor
open Go Go.Fx
def lightP (p : KW) : Prop := p.ri.length ≤ 10 ∧ p.ci.length ≤ 10 ∧ p.kn.rows.length ≤ 10 ∧ p.d.dig ≤ 30 ∧ ∀ v ∈ p.kn.rows, v.shN 10 8
instance lightP.dec (p : KW) : Decidable (lightP p) := by unfold lightP; exact inferInstance
section
variable {X : List Nat} {w0 : World} {M0 M1 : List Ent} {I0 : List bB}
end
end Go.Proofs.YtkccjglmnhgabaaGreatDoor
namespace Go.Proofs.YtkccjglmnhgabaaGreatDoor
open Go Go.Fx
section
variable {X : List Nat} {w0 : World} {M0 M1 : List Ent} {I0 : List bB}
end
end Go.Proofs.YtkccjglmnhgabaaGreatDoor

/- Views of the program; the design matrices of chapter 31's law. The matrices of the law DegenerateViews. The law DegenerateViews, walked. -/
import Derived.Test.YtkccjglmnhgabaaGreatZkbk
import Derived.Test.YtkccjglmnhgabaaGreatZkam
import Derived.Test.YtkccjglmnhgabaaGreatZkbl
set_option linter.unusedSimpArgs false
set_option linter.unusedVariables false
set_option maxRecDepth 100000
set_option maxHeartbeats 4000000
namespace Go.Proofs.YtkccjglmnhgabaaGreat
open Go Go.Fx
structure S4 where
 x : Int
 y : Int
 u : Int
 v : Int
instance S4.inh : Inhabited S4 := ⟨⟨0, 0, 0, 0⟩⟩
abbrev vF (s : S4) : List Value := [.int .i64 s.x, .int .i64 s.y, .int .i64 s.u, .int .i64 s.v]
abbrev vS4 (s : S4) : Value := .agg (vF s).toArray
instance S4.szd : Sized vF 4 := ⟨fun _ => rfl⟩
def S4.l (s : S4) : List Int := [s.x, s.y, s.u, s.v]
def vS (s : S4) : List Int := [s.u * s.x, s.u * s.y, s.u, s.v * s.x, s.v * s.y, s.v, s.x, s.y, 1]
def uX (s : S4) : List Int := [s.x, s.y, 1, 0, 0, 0, -s.u * s.x, -s.u * s.y, -s.u]
def vC (s : S4) : List Int := [0, 0, 0, s.x, s.y, 1, -s.v * s.x, -s.v * s.y, -s.v]
def qE (l : List S4) : Mt := l.map (fun s => fE (vS s))
def nD (l : List S4) : Mt := l.flatMap (fun s => [fE (uX s), fE (vC s)])
def farP (l : List S4) : Prop := ∃ s ∈ l, farI s.l
instance farP.dec (l : List S4) : Decidable (farP l) := inferInstanceAs (Decidable (∃ s ∈ l, farI s.l))
def nA (l : List S4) : Int := if l.length = 0 then 6 else if 64 < l.length then 3 else if farP l then 2 else 0
theorem oK {a b : Int} (ha : -1048576 ≤ a ∧ a ≤ 1048576) (hb : -1048576 ≤ b ∧ b ≤ 1048576) : -1099511627776 ≤ a * b ∧ a * b ≤ 1099511627776 := by
 have h1 : (a * b).natAbs ≤ 1048576 * 1048576 := by rw [Int.natAbs_mul]; exact Nat.mul_le_mul (by omega) (by omega)
 omega
theorem aAP {s : S4} (h : ¬ farI s.l) : ((-1048576 ≤ s.x ∧ s.x ≤ 1048576) ∧ (-1048576 ≤ s.y ∧ s.y ≤ 1048576)) ∧ (-1048576 ≤ s.u ∧ s.u ≤ 1048576) ∧ (-1048576 ≤ s.v ∧ s.v ≤ 1048576) := by
 have h' : ∀ x ∈ s.l, -1048576 ≤ x ∧ x ≤ 1048576 := fun x hx => by
  have : ¬ (x < -1048576 ∨ 1048576 < x) := fun e => h ⟨x, hx, e⟩
  omega
 exact ⟨⟨h' _ (by simp [S4.l]), h' _ (by simp [S4.l])⟩, h' _ (by simp [S4.l]), h' _ (by simp [S4.l])⟩
def smI (l : List Int) : Prop := ∀ x ∈ l, (-9223372036854775808 ≤ x ∧ x ≤ 9223372036854775807) ∧ x.natAbs ≤ 2 ^ 41
theorem e41 : 2 ^ 41 = 2199023255552 := rfl
theorem aJF {l : List Int} (h : ∀ x ∈ l, -1099511627776 ≤ x ∧ x ≤ 1099511627776) : smI l := fun x hx => by
 have := h x hx
 rw [e41]; omega
structure NrP (s : S4) : Prop where
 ux : -1099511627776 ≤ s.u * s.x ∧ s.u * s.x ≤ 1099511627776
 uy : -1099511627776 ≤ s.u * s.y ∧ s.u * s.y ≤ 1099511627776
 vx : -1099511627776 ≤ s.v * s.x ∧ s.v * s.x ≤ 1099511627776
 vy : -1099511627776 ≤ s.v * s.y ∧ s.v * s.y ≤ 1099511627776
 mux : -1099511627776 ≤ -s.u * s.x ∧ -s.u * s.x ≤ 1099511627776
 muy : -1099511627776 ≤ -s.u * s.y ∧ -s.u * s.y ≤ 1099511627776
 mvx : -1099511627776 ≤ -s.v * s.x ∧ -s.v * s.x ≤ 1099511627776
 mvy : -1099511627776 ≤ -s.v * s.y ∧ -s.v * s.y ≤ 1099511627776
theorem nrP {s : S4} (h : ¬ farI s.l) : NrP s := by
 obtain ⟨⟨h1, h2⟩, h3, h4⟩ := aAP h
 exact ⟨oK h3 h1, oK h3 h2, oK h4 h1, oK h4 h2, oK (by omega) h1, oK (by omega) h2, oK (by omega) h1, oK (by omega) h2⟩
theorem aQB {s : S4} (h : ¬ farI s.l) : smI (vS s) := aJF (fun x hx => by
 obtain ⟨⟨h1, h2⟩, h3, h4⟩ := aAP h
 have hn := nrP h
 simp only [vS, List.mem_cons, List.not_mem_nil, or_false] at hx
 rcases hx with rfl | rfl | rfl | rfl | rfl | rfl | rfl | rfl | rfl
 ·exact hn.ux
 ·exact hn.uy
 ·omega
 ·exact hn.vx
 ·exact hn.vy
 all_goals omega)
theorem aRL {s : S4} (h : ¬ farI s.l) : smI (uX s) := aJF (fun x hx => by
 obtain ⟨⟨h1, h2⟩, h3, h4⟩ := aAP h
 have hn := nrP h
 simp only [uX, List.mem_cons, List.not_mem_nil, or_false] at hx
 rcases hx with rfl | rfl | rfl | rfl | rfl | rfl | rfl | rfl | rfl
 ·omega
 ·omega
 ·omega
 ·omega
 ·omega
 ·omega
 ·exact hn.mux
 ·exact hn.muy
 ·omega)
theorem aQD {s : S4} (h : ¬ farI s.l) : smI (vC s) := aJF (fun x hx => by
 obtain ⟨⟨h1, h2⟩, h3, h4⟩ := aAP h
 have hn := nrP h
 simp only [vC, List.mem_cons, List.not_mem_nil, or_false] at hx
 rcases hx with rfl | rfl | rfl | rfl | rfl | rfl | rfl | rfl | rfl
 ·omega
 ·omega
 ·omega
 ·omega
 ·omega
 ·omega
 ·exact hn.mvx
 ·exact hn.mvy
 ·omega)
theorem aEN {l : List S4} {i : Nat} (h : i < l.length) : rowAt (qE l) i = fE (vS (gt l (i : Int))) := by rw [cK h]; simp [qE, rowAt, List.getD, h]
theorem aSM {l : List S4} : (nD l).length = 2 * l.length := by
 unfold nD
 induction l with
 | nil => rfl
 | cons s r ih => rw [List.flatMap_cons, List.length_append, ih]; simp; omega
theorem sP : ∀ {l : List S4} {i : Nat}, i < l.length → rowAt (nD l) (2 * i) = fE (uX (gt l (i : Int))) ∧ rowAt (nD l) (2 * i + 1) = fE (vC (gt l (i : Int)))
 | s :: r, 0, _ => ⟨rfl, rfl⟩
 | s :: r, i + 1, h => by
  have ih := sP (l := r) (i := i) (by simpa using h)
  have e1 : gt (s :: r) ((i + 1 : Nat) : Int) = gt r (i : Int) := by rw [cK h, cK (by simpa using h)]; rfl
  rw [e1, ← ih.1, ← ih.2]
  have e2 : nD (s :: r) = fE (uX s) :: fE (vC s) :: nD r := rfl
  have e3 : 2 * (i + 1) = 2 * i + 1 + 1 := by omega
  rw [e2, e3]
  exact ⟨rfl, rfl⟩
theorem aAI {l : List S4} {n : Nat} (hl : l.length = n) : iO (qE l) n 9 := ⟨by simp [qE, hl], fun i hi => by rw [aEN (by omega)]; rfl⟩
theorem zV {l : List S4} {n : Nat} (hl : l.length = n) : iO (nD l) (2 * n) 9 := ⟨by rw [aSM, hl], fun i hi => by
 obtain ⟨t, h | h⟩ : ∃ t, i = 2 * t ∨ i = 2 * t + 1 := ⟨i / 2, by omega⟩
 ·rw [h, (sP (by omega)).1]; rfl
 ·rw [h, (sP (by omega)).2]; rfl⟩
section
variable {X : List Nat} {w0 : World} {M0 M1 : List Ent} {I0 : List aZ}
theorem aHS {q : Option Addr} {l : List S4} {n c : Nat} (hl : l.length = n) (hq : aV q (recs vF l) ∈ I0) :
  CD Tryz.prog 33 [.slice q n c] X w0 M0 I0 (fun v M I => M0 = M ∧ I0 = I ∧ v = .tuple #[.int .i64 (if nA l = 0 then (((jB (qE l) qT n).1.length : Nat) : Int) else 0), .int .i64 (if nA l = 0 then (((jB (nD l) qT (2 * n)).1.length : Nat) : Int) else 0), .int .i64 (nA l)]) := by
 have dE := aAI hl
 have dP := zV hl
 have hkb : kb 41 9 ≤ 20000000 := by decide
 refine eQ (φ := aV q (recs vF l)) (Hv.mem hq) ?_
 refine bA Tryz.func33 rfl Tryz.ntmps33 rfl ?_
 by_cases h0 : n = 0
 ·have e : nA l = 6 := by unfold nA; rw [if_pos (by omega)]
  rw [e]
  repeat (refine aL ?_)
  refine fQ [2, 3, 4] (by first | exact .inl rfl | exact .inr rfl) rfl rfl rfl _ _ aF aD (⟨rfl, rfl, rfl⟩)
 by_cases h1 : 64 < n
 ·have e : nA l = 3 := by unfold nA; rw [if_neg (by omega), if_pos (by omega)]
  rw [e]
  repeat (refine aL ?_)
  refine fQ [2, 3, 4] (by first | exact .inl rfl | exact .inr rfl) rfl rfl rfl _ _ aF aD (⟨rfl, rfl, rfl⟩)
 have e : nA l = if farP l then 2 else 0 := by unfold nA; rw [if_neg (by omega), if_neg (by omega)]
 repeat (refine aL ?_)
 (refine aC rfl (fun _ => bT (pvs := ([]).zipIdx.map (fun p => (p.2, p.1))) (cells := [.slice none 0 0, .slice none 0 0]) rfl rfl) rfl rfl ?_)
 (refine aT rfl rfl rfl ?_; intro p1; refine ⟨okF, ?_⟩)
 (refine aC rfl (fun _ => bT (pvs := ([]).zipIdx.map (fun p => (p.2, p.1))) (cells := [.slice none 0 0, .slice none 0 0]) rfl rfl) rfl rfl ?_)
 (refine aT rfl rfl rfl ?_; intro p2; refine ⟨okF, ?_⟩)
 repeat (refine aL ?_)
 refine iN 3 1 ?_
 refine iN 39 1 ?_
 refine iN 3 1 ?_
 refine iN 39 1 ?_
 refine fP (φ := allK [] 41) Hv.nilK ?_
 refine uB (M' := .row none 0 0 (recs eL []) 39 1 :: .row none 0 0 (recs eZ []) 3 1 :: .blk p1 [.slice none 0 0, .slice none 0 0] 115 :: .row none 0 0 (recs eL []) 39 1 :: .row none 0 0 (recs eZ []) 3 1 :: .blk p2 [.slice none 0 0, .slice none 0 0] 115 :: M0) (I' := allK [] 41 :: allK [] 41 :: aV q (recs vF l) :: I0) aF aD ?_
 refine aR [5, 6, 23, 24] rfl (fun k G M I => ∃ (i : Nat) (a1 b1 a2 b2 : Option Addr) (c1 d1 c2 d2 : Nat) (rows1 rows2 : List RL) (pz1 pz2 : List Int), i ≤ n ∧ k = n - i ∧ (∀ j : Nat, j < i → ¬ farI (gt l (j : Int)).l) ∧ rows1.map RL.q = mtS (jB (qE l) qT i).1 ∧ pz1 = zs (pvS (jB (qE l) qT i).1) ∧ rows2.map RL.q = mtS (jB (nD l) qT (2 * i)).1 ∧ pz2 = zs (pvS (jB (nD l) qT (2 * i)).1) ∧ G = [(25, .int .i64 i)] ∧ M = .row a1 rows1.length c1 (recs eL rows1) 39 1 :: .row b1 pz1.length d1 (recs eZ pz1) 3 1 :: .blk p1 [.slice a1 rows1.length c1, .slice b1 pz1.length d1] 115 :: .row a2 rows2.length c2 (recs eL rows2) 39 1 :: .row b2 pz2.length d2 (recs eZ pz2) 3 1 :: .blk p2 [.slice a2 rows2.length c2, .slice b2 pz2.length d2] 115 :: M0 ∧ I = allK rows1 41 :: allK rows2 41 :: aV q (recs vF l) :: I0) (n) _ _ _ aS aF aD (⟨0, none, none, none, none, 0, 0, 0, 0, [], [], [], [], by omega, rfl, fun j hj => by omega, rfl, rfl, rfl, rfl, rfl, rfl, rfl⟩) ?_
 rintro kk G M I ⟨i, a1, b1, a2, b2, c1, d1, c2, d2, rows1, rows2, pz1, pz2, hi, rfl, hnf, hr1, hz1, hr2, hz2, rfl, rfl, rfl⟩
 have hI1 := mK (q := qT) dE (k := i) (by omega)
 have hI2 := mK (q := qT) dP (k := 2 * i) (by omega)
 have hle1 := sJ hI1
 have hle2 := sJ hI2
 have hku1 := gV 41 hle1
 have hku2 := gV 41 hle2
 by_cases hin : i < n
 ·have hs1 := yX (A := qE l) (i := i)
  have hs2 := yX (A := nD l) (i := 2 * i)
  have hs3 := yX (A := nD l) (i := 2 * i + 1)
  have hI3 := mK (q := qT) dP (k := 2 * i + 1) (by omega)
  have hle3 := sJ hI3
  have hku3 := gV 41 hle3
  rw [aEN (by omega)] at hs1
  rw [(sP (by omega)).1] at hs2
  rw [(sP (by omega)).2] at hs3
  have hmem := eO (ms := l) (i := (i : Int)) (by omega)
  have hnf2 : ∀ j : Nat, j < i + 1 → j ≠ i → ¬ farI (gt l (j : Int)).l := fun j h1 h2 => hnf j (by omega)
  have e2i : 2 * (i + 1) = 2 * i + 1 + 1 := by omega
  obtain ⟨s, hss⟩ : ∃ s, gt l (i : Int) = s := ⟨_, rfl⟩
  obtain ⟨sp1, hsp1⟩ : ∃ sp, (jB (qE l) qT i).1 = sp := ⟨_, rfl⟩
  obtain ⟨sp2, hsp2⟩ : ∃ sp, (jB (nD l) qT (2 * i)).1 = sp := ⟨_, rfl⟩
  obtain ⟨sp3, hsp3⟩ : ∃ sp, (jB (nD l) qT (2 * i + 1)).1 = sp := ⟨_, rfl⟩
  rw [hsp1] at hr1 hz1 hI1 hle1 hku1 hs1
  rw [hsp2] at hr2 hz2 hI2 hle2 hku2 hs2
  rw [hsp3] at hI3 hle3 hku3 hs3
  rw [hss] at hs1 hs2 hs3 hmem
  have hFr := fun b9 M0 I0 h => aPW (X := X) (w0 := w0) (M0 := M0) (I0 := I0) (q := some ⟨b9, 0, none⟩) (l := [s.x, s.y, s.u, s.v]) (n := 4) (c := 4) rfl (by omega) h
  repeat (refine aL ?_)
  rw [hss]
  (refine aK rfl rfl ?_; intro b8; refine ⟨okF, ?_⟩)
  repeat (refine aL ?_)
  (repeat refine aI ?_); refine fG [0, 1, 2, 3, 4, 5, 6, 7, 8, 9, 10, 11, 12, 13, 14, 15] [0, 0, 0, 0, 0, 0, 0, 0, 0, 0, 0, 0, 0, 0, 0, 0] mixed (by kernel_rfl) ?_
  repeat (refine aL ?_)
  (refine aW (cs := recs eZ [s.x, s.y, s.u, s.v]) ([.int .i64 s.x, .int .i64 s.y, .int .i64 s.u, .int .i64 s.v]) rfl rfl (by intro v hv; repeat (first | exact absurd hv (List.not_mem_nil) | (rcases List.mem_cons.1 hv with rfl | hv; · rfl))) (by omega) rfl rfl rfl ?_; intro b9; refine ⟨okF, ?_⟩)
  refine aY .here ?_
  by_cases hf : farI [s.x, s.y, s.u, s.v]
  ·rw [dG hf] at hFr
   have e2 : nA l = 2 := by rw [e, if_pos ⟨s, hmem, hf⟩]
   rw [e2]
   (refine aA rfl (hFr _ _ _ aB) rfl rfl ?_; rintro _ _ _ ⟨rfl, rfl, rfl⟩; refine ⟨okF, ?_⟩)
   repeat (refine aL ?_)
   refine sW (M' := M0) (I' := I0) aF aD ?_
   refine fQ [2, 3, 4] (by first | exact .inl rfl | exact .inr rfl) rfl rfl rfl _ _ aF aD (⟨rfl, rfl, rfl⟩)
  ·rw [cZ hf] at hFr
   have hn := nrP (s := s) hf
   obtain ⟨nux, nuy, nvx, nvy, mux, muy, mvx, mvy⟩ := hn
   obtain ⟨⟨x1, x2⟩, x3, x4⟩ := aAP (s := s) hf
   have hW := fun (li : List Int) (h9 : li.length = 9) (hsm : smI li) b M0 I0 h => aGB (X := X) (w0 := w0) (M0 := M0) (I0 := I0) (q := some ⟨b, 0, none⟩) (l := li) (n := 9) (c := 9) (u := 41) h9 (by omega) hsm h
   have hA1 := fun M1 I0 (x : RL) (hx1 : x.q = fE (vS s)) hx ha => vO (X := X) (w0 := w0) (M1 := M1) (I0 := I0) (p := p1) (a := a1) (b := b1) (c := c1) (c2 := d1) (n := 9) (u := 41) (x := x) (sp := sp1) (by omega) (by omega) (by omega) (by have := congrArg List.length hx1; simpa [RL.q, qs, fE, vS] using this) hI1 hr1 hz1 hx ha
   have hA2 := fun M1 I0 (x : RL) (hx1 : x.q = fE (uX s)) hx ha => vO (X := X) (w0 := w0) (M1 := M1) (I0 := I0) (p := p2) (a := a2) (b := b2) (c := c2) (c2 := d2) (n := 9) (u := 41) (x := x) (sp := sp2) (by omega) (by omega) (by omega) (by have := congrArg List.length hx1; simpa [RL.q, qs, fE, uX] using this) hI2 hr2 hz2 hx ha
   have hA3 := fun a b c d rows pz M1 I0 (x : RL) (hx1 : x.q = fE (vC s)) hr hz hx ha => vO (X := X) (w0 := w0) (M1 := M1) (I0 := I0) (p := p2) (a := a) (b := b) (c := c) (c2 := d) (rows := rows) (pz := pz) (n := 9) (u := 41) (x := x) (sp := sp3) (by omega) (by omega) (by omega) (by have := congrArg List.length hx1; simpa [RL.q, qs, fE, vC] using this) hI3 hr hz hx ha
   (refine aA rfl (hFr _ _ _ aB) rfl rfl ?_; rintro _ _ _ ⟨rfl, rfl, rfl⟩; refine ⟨okF, ?_⟩)
   repeat (refine aL ?_)
   (refine aW (cs := recs eZ (vS s)) ((vS s).map (Value.int .i64)) rfl rfl (by intro v hv; repeat (first | exact absurd hv (List.not_mem_nil) | (rcases List.mem_cons.1 hv with rfl | hv; · rfl))) (by omega) rfl rfl rfl ?_; intro b10; refine ⟨okF, ?_⟩)
   refine aY .here ?_
   (refine aA rfl (hW _ rfl (aQB hf) _ _ _ aB) rfl rfl ?_; rintro _ _ _ ⟨rfl, y1, rfl, hy1, rfl⟩; refine ⟨okF, ?_⟩)
   refine aJC (M' := .row a1 rows1.length c1 (recs eL rows1) 39 1 :: .row b1 pz1.length d1 (recs eZ pz1) 3 1 :: .blk p1 [.slice a1 rows1.length c1, .slice b1 pz1.length d1] 115 :: .row a2 rows2.length c2 (recs eL rows2) 39 1 :: .row b2 pz2.length d2 (recs eZ pz2) 3 1 :: .blk p2 [.slice a2 rows2.length c2, .slice b2 pz2.length d2] 115 :: .blk b8 (vF s) 78 :: M0) (I' := nX y1 41 :: allK rows1 41 :: allK rows2 41 :: aV q (recs vF l) :: I0) aF aD ?_
   (refine aA rfl (hA1 _ _ y1 hy1 aB aB) rfl rfl ?_; rintro _ _ _ ⟨f1, g1, j1, k1, r1, z1, rfl, rfl, rfl, hr1', hz1'⟩; refine ⟨okF, ?_⟩)
   have hs1' : (jB (qE l) qT (i + 1)).1 = (zQ sp1 (fE (vS s))).2 := by rw [hs1]
   have hs2' : sp3 = (zQ sp2 (fE (uX s))).2 := by rw [← hsp3, hs2]
   have hs3' : (jB (nD l) qT (2 * (i + 1))).1 = (zQ sp3 (fE (vC s))).2 := by rw [e2i, hs3]
   rw [hy1, ← hs1'] at hr1' hz1'
   repeat (refine aL ?_)
   rw [Int.zero_sub]
   repeat (refine aL ?_)
   rw [Int.zero_sub]
   repeat (refine aL ?_)
   rw [Int.zero_sub]
   (refine aW (cs := recs eZ (uX s)) ((uX s).map (Value.int .i64)) rfl rfl (by intro v hv; repeat (first | exact absurd hv (List.not_mem_nil) | (rcases List.mem_cons.1 hv with rfl | hv; · rfl))) (by omega) rfl rfl rfl ?_; intro b11; refine ⟨okF, ?_⟩)
   refine aY .here ?_
   (refine aA rfl (hW _ rfl (aRL hf) _ _ _ aB) rfl rfl ?_; rintro _ _ _ ⟨rfl, y2, rfl, hy2, rfl⟩; refine ⟨okF, ?_⟩)
   refine aJC (M' := .row a2 rows2.length c2 (recs eL rows2) 39 1 :: .row b2 pz2.length d2 (recs eZ pz2) 3 1 :: .blk p2 [.slice a2 rows2.length c2, .slice b2 pz2.length d2] 115 :: .row f1 r1.length j1 (recs eL r1) 39 1 :: .row g1 z1.length k1 (recs eZ z1) 3 1 :: .blk p1 [.slice f1 r1.length j1, .slice g1 z1.length k1] 115 :: .blk b8 (vF s) 78 :: M0) (I' := nX y2 41 :: allK rows2 41 :: allK r1 41 :: aV q (recs vF l) :: I0) aF aD ?_
   (refine aA rfl (hA2 _ _ y2 hy2 aB aB) rfl rfl ?_; rintro _ _ _ ⟨f2, g2, j2, k2, r2, z2, rfl, rfl, rfl, hr2', hz2'⟩; refine ⟨okF, ?_⟩)
   rw [hy2, ← hs2'] at hr2' hz2'
   have hA3' := hA3 f2 g2 j2 k2 r2 z2
   clear hA1 hA2 hA3
   repeat (refine aL ?_)
   rw [Int.zero_sub]
   repeat (refine aL ?_)
   rw [Int.zero_sub]
   repeat (refine aL ?_)
   rw [Int.zero_sub]
   (refine aW (cs := recs eZ (vC s)) ((vC s).map (Value.int .i64)) rfl rfl (by intro v hv; repeat (first | exact absurd hv (List.not_mem_nil) | (rcases List.mem_cons.1 hv with rfl | hv; · rfl))) (by omega) rfl rfl rfl ?_; intro b12; refine ⟨okF, ?_⟩)
   refine aY .here ?_
   (refine aA rfl (hW _ rfl (aQD hf) _ _ _ aB) rfl rfl ?_; rintro _ _ _ ⟨rfl, y3, rfl, hy3, rfl⟩; refine ⟨okF, ?_⟩)
   refine aJC (M' := .row f2 r2.length j2 (recs eL r2) 39 1 :: .row g2 z2.length k2 (recs eZ z2) 3 1 :: .blk p2 [.slice f2 r2.length j2, .slice g2 z2.length k2] 115 :: .row f1 r1.length j1 (recs eL r1) 39 1 :: .row g1 z1.length k1 (recs eZ z1) 3 1 :: .blk p1 [.slice f1 r1.length j1, .slice g1 z1.length k1] 115 :: .blk b8 (vF s) 78 :: M0) (I' := nX y3 41 :: allK r2 41 :: allK r1 41 :: aV q (recs vF l) :: I0) aF aD ?_
   (refine aA rfl (hA3' _ _ y3 hy3 hr2' hz2' aB aB) rfl rfl ?_; rintro _ _ _ ⟨f3, g3, j3, k3, r3, z3, rfl, rfl, rfl, hr3', hz3'⟩; refine ⟨okF, ?_⟩)
   rw [hy3, ← hs3'] at hr3' hz3'
   repeat (refine aL ?_)
   refine aJ (n - (i + 1)) _ _ _ (by first | omega | (simp only [List.length_append, List.length_cons, List.length_nil]; omega)) aS aF aD (⟨i + 1, f1, g1, f3, g3, j1, k1, j3, k3, r1, r3, z1, z3, by omega, rfl, fun j hj => ?_, hr1', hz1', hr3', hz3', rfl, rfl, rfl⟩)
   by_cases ej : j = i
   ·subst ej; rw [hss]; exact hf
   ·exact hnf2 j hj ej
 ·obtain rfl : i = n := by omega
  have hno : ¬ farP l := by
   rintro ⟨s, hs, hf⟩
   obtain ⟨j, hj, rfl⟩ := List.mem_iff_getElem.1 hs
   have := hnf j (by omega)
   rw [cK hj] at this
   exact this hf
  have e2 : nA l = 0 := by rw [e, if_neg hno]
  have lz1 : pz1.length = (jB (qE l) qT i).1.length := by rw [hz1, mQ, mM]
  have lz2 : pz2.length = (jB (nD l) qT (2 * i)).1.length := by rw [hz2, mQ, mM]
  rw [e2, if_pos rfl, if_pos rfl, ← lz1, ← lz2]
  repeat (refine aL ?_)
  (repeat refine aI ?_); refine fG [0, 1, 2, 3, 4, 5, 6, 7, 8, 9, 10, 11, 12] [0, 0, 0, 0, 0, 0, 0, 0, 0, 0, 0, 0, 0] mixed (by kernel_rfl) ?_
  repeat (refine aL ?_)
  refine sW (M' := M0) (I' := I0) aF aD ?_
  refine fQ [2, 3, 4] (by first | exact .inl rfl | exact .inr rfl) rfl rfl rfl _ _ aF aD (⟨rfl, rfl, rfl⟩)
end
end Go.Proofs.YtkccjglmnhgabaaGreat
namespace Go.Proofs.YtkccjglmnhgabaaGreat
open Go Go.Fx
def mE (c x : Int) : Int := if c = 0 ∧ (x < -1048576 ∨ 1048576 < x) then 2 else c
def wS (c : Int) (s : S4) : Int := s.l.foldl mE c
def uG (l : List S4) : Int := if l.length = 0 then 6 else if 64 < l.length then 3 else 0
theorem aCC {c : Int} (h : c ≠ 0) : ∀ l : List Int, l.foldl mE c = c
 | [] => rfl
 | x :: l => by
  have : mE c x = c := by unfold mE; rw [if_neg (fun e => h e.1)]
  rw [List.foldl_cons, this]; exact aCC h l
theorem aRE : ∀ l : List Int, l.foldl mE 0 = if farI l then 2 else 0
 | [] => by rw [if_neg (by rintro ⟨x, hx, _⟩; simp at hx)]; rfl
 | x :: l => by
  rw [List.foldl_cons]
  by_cases h : x < -1048576 ∨ 1048576 < x
  ·have : mE 0 x = 2 := by unfold mE; rw [if_pos ⟨rfl, h⟩]
   rw [this, aCC (by decide), if_pos ⟨x, List.mem_cons_self, h⟩]
  ·have : mE 0 x = 0 := by unfold mE; rw [if_neg (fun e => h e.2)]
   rw [this, aRE l]
   by_cases h2 : farI l
   ·obtain ⟨y, hy, h3⟩ := h2
    rw [if_pos ⟨y, hy, h3⟩, if_pos ⟨y, List.mem_cons_of_mem _ hy, h3⟩]
   ·rw [if_neg h2, if_neg]
    rintro ⟨y, hy, h3⟩
    rcases List.mem_cons.1 hy with rfl | hy
    ·exact h h3
    ·exact h2 ⟨y, hy, h3⟩
theorem uH {c : Int} (h : c ≠ 0) : ∀ l : List S4, l.foldl wS c = c
 | [] => rfl
 | s :: l => by
  rw [List.foldl_cons, show wS c s = c from aCC h s.l]; exact uH h l
theorem aLE : ∀ l : List S4, l.foldl wS 0 = if farP l then 2 else 0
 | [] => by rw [if_neg (by rintro ⟨x, hx, _⟩; simp at hx)]; rfl
 | s :: l => by
  rw [List.foldl_cons, show wS 0 s = if farI s.l then 2 else 0 from aRE s.l]
  by_cases h : farI s.l
  ·rw [if_pos h, uH (by decide), if_pos ⟨s, List.mem_cons_self, h⟩]
  ·rw [if_neg h, aLE l]
   by_cases h2 : farP l
   ·obtain ⟨y, hy, h3⟩ := h2
    rw [if_pos ⟨y, hy, h3⟩, if_pos ⟨y, List.mem_cons_of_mem _ hy, h3⟩]
   ·rw [if_neg h2, if_neg]
    rintro ⟨y, hy, h3⟩
    rcases List.mem_cons.1 hy with rfl | hy
    ·exact h h3
    ·exact h2 ⟨y, hy, h3⟩
theorem aNI (l : List S4) : l.foldl wS (uG l) = nA l := by
 unfold uG nA
 split
 ·exact uH (by decide) l
 ·split
  ·exact uH (by decide) l
  ·exact aLE l
theorem aND {l : List S4} {s : S4} : nD (l ++ [s]) = nD l ++ [fE (uX s), fE (vC s)] := by
 unfold nD
 rw [List.flatMap_append]
 rfl
section
variable {X : List Nat} {w0 : World} {M0 M1 : List Ent} {I0 : List aZ}
theorem aVW {q : Option Addr} {l : List S4} {n c : Nat} (hl : l.length = n) (hn : n ≤ 80) (hno : ¬ farP l) (hq : aV q (recs vF l) ∈ I0) :
  CD Tryz.prog 34 [.slice q n c] X w0 M0 I0 (fun v M I => M0 = M ∧ ∃ x : MX, v = mv x ∧ x.q = qE l ∧ x.dim n 9 ∧ I = kM x 41 :: I0) := by
 refine eQ (φ := aV q (recs vF l)) (Hv.mem hq) ?_
 refine bA Tryz.func34 rfl Tryz.ntmps34 rfl ?_
 repeat (refine aL ?_)
 (refine aW (cs := recs eL []) ([]) rfl rfl (by intro v hv; repeat (first | exact absurd hv (List.not_mem_nil) | (rcases List.mem_cons.1 hv with rfl | hv; · rfl))) (by omega) rfl rfl rfl ?_; intro b5; refine ⟨okF, ?_⟩; refine jN (mm := 0) 1 .here rfl (by omega) ?_)
 refine jO (φ := nY [] 41) Hv.nilL ?_
 repeat (refine aL ?_)
 refine aR [11, 12] rfl (fun k G M I => ∃ (i : Nat) (rows : List RL) (qe : Option Addr) (ce : Nat), i ≤ n ∧ k = n - i ∧ rows.length = i ∧ rows.map RL.q = qE (l.take i) ∧ G = [(3, .slice qe rows.length ce), (13, .int .i64 i)] ∧ M = .row qe rows.length ce (recs eL rows) 39 1 :: M0 ∧ I = nY rows 41 :: aV q (recs vF l) :: I0) (n) _ _ _ aS aF aD (⟨0, [], some ⟨b5, 0, none⟩, _, by omega, rfl, rfl, rfl, rfl, rfl, rfl⟩) ?_
 rintro kk G M I ⟨i, rows, qe, ce, hi, rfl, hrl, hrq, rfl, rfl, rfl⟩
 by_cases hin : i < n
 ·have hmem := eO (ms := l) (i := (i : Int)) (by omega)
  have ht : l.take (i + 1) = l.take i ++ [gt l (i : Int)] := by rw [cK (by omega)]; exact (List.take_append_getElem (by omega)).symm
  obtain ⟨s, hss⟩ : ∃ s, gt l (i : Int) = s := ⟨_, rfl⟩
  rw [hss] at hmem ht
  have hf : ¬ farI s.l := fun e => hno ⟨s, hmem, e⟩
  obtain ⟨nux, nuy, nvx, nvy, mux, muy, mvx, mvy⟩ := nrP (s := s) hf
  obtain ⟨⟨x1, x2⟩, x3, x4⟩ := aAP (s := s) hf
  have hW := fun b M0 I0 h => uM (X := X) (w0 := w0) (M0 := M0) (I0 := I0) (q := some ⟨b, 0, none⟩) (l := vS s) (n := 9) (c := 9) (u := 41) rfl (by omega) (aQB hf) h
  repeat (refine aL ?_)
  rw [hss]
  (refine aK rfl rfl ?_; intro b8; refine ⟨okF, ?_⟩)
  repeat (refine aL ?_)
  (repeat refine aI ?_); refine fG [0, 1, 2, 3, 4, 5, 6, 7, 8, 9, 10, 11, 12, 13, 14, 15] [0, 0, 0, 0, 0, 0, 0, 0, 0, 0, 0, 0, 0, 0, 0, 0] mixed (by kernel_rfl) ?_
  repeat (refine aL ?_)
  (refine aW (cs := recs eZ (vS s)) ((vS s).map (Value.int .i64)) rfl rfl (by intro v hv; repeat (first | exact absurd hv (List.not_mem_nil) | (rcases List.mem_cons.1 hv with rfl | hv; · rfl))) (by omega) rfl rfl rfl ?_; intro b10; refine ⟨okF, ?_⟩)
  refine aY .here ?_
  (refine aA rfl (hW _ _ _ aB) rfl rfl ?_; rintro _ _ _ ⟨rfl, y1, rfl, hy1, rfl⟩; refine ⟨okF, ?_⟩)
  (refine aW (cs := recs eL [y1]) ([lv y1]) rfl rfl (by intro v hv; repeat (first | exact absurd hv (List.not_mem_nil) | (rcases List.mem_cons.1 hv with rfl | hv; · rfl))) (by omega) rfl rfl rfl ?_; intro bl; refine ⟨okF, ?_⟩)
  (refine eP (ys := [y1]) 2 rfl rfl rfl ?_ (by decide) rfl (by omega) (by omega) rfl rfl ?_; (· first | exact Src.blk aB | exact Src.row aB | exact Src.imm aB (by first | assumption | exact .inl (Ok.mk _ _))); intro q3 c3; refine ⟨okF, ?_⟩)
  have hq2 : (rows ++ [y1]).map RL.q = qE (l.take (i + 1)) := by
   rw [ht]
   unfold qE at hrq ⊢
   rw [List.map_append, List.map_append, hrq]
   show _ ++ [y1.q] = _ ++ [fE (vS s)]
   rw [hy1]
  have hle : (rows ++ [y1]).length = i + 1 := by rw [List.length_append, hrl]; rfl
  repeat (refine aL ?_)
  refine kD (φ := nY (rows ++ [y1]) 41) (Hv.snocL aB aB) ?_
  refine aJ (n - (i + 1)) _ _ _ (by first | omega | (simp only [List.length_append, List.length_cons, List.length_nil]; omega)) aS aF aD (⟨i + 1, rows ++ [y1], q3, c3, by omega, rfl, hle, hq2, rfl, rfl, rfl⟩)
 ·obtain rfl : i = n := by omega
  rw [List.take_of_length_le (by omega)] at hrq
  have dr : (⟨qe, ce, rows⟩ : MX).dim i 9 := ⟨hrl, fun r hr => by
   have : r.q ∈ rows.map RL.q := List.mem_map_of_mem hr
   rw [hrq] at this
   obtain ⟨s, _, hs⟩ := List.mem_map.1 this
   have := congrArg List.length hs
   simpa [RL.q, qs, fE, vS] using this.symm⟩
  repeat (refine aL ?_)
  refine aFM (k := 41) aB ?_
  refine aG (by first | exact .inl rfl | exact .inr rfl) rfl rfl _ _ aF aD (⟨rfl, ⟨qe, ce, rows⟩, rfl, hrq, dr, rfl⟩)
theorem aWT {q : Option Addr} {l : List S4} {n c : Nat} (hl : l.length = n) (hn : n ≤ 80) (hno : ¬ farP l) (hq : aV q (recs vF l) ∈ I0) :
  CD Tryz.prog 35 [.slice q n c] X w0 M0 I0 (fun v M I => M0 = M ∧ ∃ x : MX, v = mv x ∧ x.q = nD l ∧ x.dim (2 * n) 9 ∧ I = kM x 41 :: I0) := by
 refine eQ (φ := aV q (recs vF l)) (Hv.mem hq) ?_
 refine bA Tryz.func35 rfl Tryz.ntmps35 rfl ?_
 repeat (refine aL ?_)
 (refine aW (cs := recs eL []) ([]) rfl rfl (by intro v hv; repeat (first | exact absurd hv (List.not_mem_nil) | (rcases List.mem_cons.1 hv with rfl | hv; · rfl))) (by omega) rfl rfl rfl ?_; intro b5; refine ⟨okF, ?_⟩; refine jN (mm := 0) 1 .here rfl (by omega) ?_)
 refine jO (φ := nY [] 41) Hv.nilL ?_
 repeat (refine aL ?_)
 refine aR [11, 12] rfl (fun k G M I => ∃ (i : Nat) (rows : List RL) (qe : Option Addr) (ce : Nat), i ≤ n ∧ k = n - i ∧ rows.length = 2 * i ∧ rows.map RL.q = nD (l.take i) ∧ G = [(3, .slice qe rows.length ce), (13, .int .i64 i)] ∧ M = .row qe rows.length ce (recs eL rows) 39 1 :: M0 ∧ I = nY rows 41 :: aV q (recs vF l) :: I0) (n) _ _ _ aS aF aD (⟨0, [], some ⟨b5, 0, none⟩, _, by omega, rfl, rfl, rfl, rfl, rfl, rfl⟩) ?_
 rintro kk G M I ⟨i, rows, qe, ce, hi, rfl, hrl, hrq, rfl, rfl, rfl⟩
 by_cases hin : i < n
 ·have hmem := eO (ms := l) (i := (i : Int)) (by omega)
  have ht : l.take (i + 1) = l.take i ++ [gt l (i : Int)] := by rw [cK (by omega)]; exact (List.take_append_getElem (by omega)).symm
  obtain ⟨s, hss⟩ : ∃ s, gt l (i : Int) = s := ⟨_, rfl⟩
  rw [hss] at hmem ht
  have hf : ¬ farI s.l := fun e => hno ⟨s, hmem, e⟩
  obtain ⟨nux, nuy, nvx, nvy, mux, muy, mvx, mvy⟩ := nrP (s := s) hf
  obtain ⟨⟨x1, x2⟩, x3, x4⟩ := aAP (s := s) hf
  have hW := fun li (h9 : li.length = 9) (hsm : smI li) b M0 I0 h => uM (X := X) (w0 := w0) (M0 := M0) (I0 := I0) (q := some ⟨b, 0, none⟩) (l := li) (n := 9) (c := 9) (u := 41) h9 (by omega) hsm h
  repeat (refine aL ?_)
  rw [hss]
  (refine aK rfl rfl ?_; intro b8; refine ⟨okF, ?_⟩)
  repeat (refine aL ?_)
  (repeat refine aI ?_); refine fG [0, 1, 2, 3, 4, 5, 6, 7, 8, 9, 10, 11, 12, 13, 14, 15] [0, 0, 0, 0, 0, 0, 0, 0, 0, 0, 0, 0, 0, 0, 0, 0] mixed (by kernel_rfl) ?_
  repeat (refine aL ?_)
  rw [Int.zero_sub]
  repeat (refine aL ?_)
  rw [Int.zero_sub]
  repeat (refine aL ?_)
  rw [Int.zero_sub]
  (refine aW (cs := recs eZ (uX s)) ((uX s).map (Value.int .i64)) rfl rfl (by intro v hv; repeat (first | exact absurd hv (List.not_mem_nil) | (rcases List.mem_cons.1 hv with rfl | hv; · rfl))) (by omega) rfl rfl rfl ?_; intro b10; refine ⟨okF, ?_⟩)
  refine aY .here ?_
  (refine aA rfl (hW _ rfl (aRL hf) _ _ _ aB) rfl rfl ?_; rintro _ _ _ ⟨rfl, y1, rfl, hy1, rfl⟩; refine ⟨okF, ?_⟩)
  repeat (refine aL ?_)
  rw [Int.zero_sub]
  repeat (refine aL ?_)
  rw [Int.zero_sub]
  repeat (refine aL ?_)
  rw [Int.zero_sub]
  (refine aW (cs := recs eZ (vC s)) ((vC s).map (Value.int .i64)) rfl rfl (by intro v hv; repeat (first | exact absurd hv (List.not_mem_nil) | (rcases List.mem_cons.1 hv with rfl | hv; · rfl))) (by omega) rfl rfl rfl ?_; intro b11; refine ⟨okF, ?_⟩)
  refine aY .here ?_
  (refine aA rfl (hW _ rfl (aQD hf) _ _ _ aB) rfl rfl ?_; rintro _ _ _ ⟨rfl, y2, rfl, hy2, rfl⟩; refine ⟨okF, ?_⟩)
  (refine aW (cs := recs eL [y1, y2]) ([lv y1, lv y2]) rfl rfl (by intro v hv; repeat (first | exact absurd hv (List.not_mem_nil) | (rcases List.mem_cons.1 hv with rfl | hv; · rfl))) (by omega) rfl rfl rfl ?_; intro bl; refine ⟨okF, ?_⟩)
  (refine eP (ys := [y1, y2]) 2 rfl rfl rfl ?_ (by decide) rfl (by omega) (by omega) rfl rfl ?_; (· first | exact Src.blk aB | exact Src.row aB | exact Src.imm aB (by first | assumption | exact .inl (Ok.mk _ _))); intro q3 c3; refine ⟨okF, ?_⟩)
  have hq2 : (rows ++ [y1, y2]).map RL.q = nD (l.take (i + 1)) := by
   rw [ht, aND, List.map_append, hrq]
   show _ ++ [y1.q, y2.q] = _ ++ [fE (uX s), fE (vC s)]
   rw [hy1, hy2]
  have hle : (rows ++ [y1, y2]).length = 2 * (i + 1) := by rw [List.length_append, hrl]; rfl
  have h2s : rows ++ [y1, y2] = (rows ++ [y1]) ++ [y2] := by simp
  repeat (refine aL ?_)
  refine kD (φ := nY (rows ++ [y1]) 41) (Hv.snocL aB aB) ?_
  refine kD (φ := nY (rows ++ [y1, y2]) 41) (by rw [h2s]; exact Hv.snocL aB aB) ?_
  refine aJ (n - (i + 1)) _ _ _ (by first | omega | (simp only [List.length_append, List.length_cons, List.length_nil]; omega)) aS aF aD (⟨i + 1, rows ++ [y1, y2], q3, c3, by omega, rfl, hle, hq2, rfl, rfl, rfl⟩)
 ·obtain rfl : i = n := by omega
  rw [List.take_of_length_le (by omega)] at hrq
  have dr : (⟨qe, ce, rows⟩ : MX).dim (2 * i) 9 := ⟨hrl, fun r hr => by
   have : r.q ∈ rows.map RL.q := List.mem_map_of_mem hr
   rw [hrq] at this
   obtain ⟨s, _, hs⟩ := List.mem_flatMap.1 this
   simp only [List.mem_cons, List.not_mem_nil, or_false] at hs
   rcases hs with hs | hs
   ·have := congrArg List.length hs
    simpa [RL.q, qs, fE, uX] using this
   ·have := congrArg List.length hs
    simpa [RL.q, qs, fE, vC] using this⟩
  repeat (refine aL ?_)
  refine aFM (k := 41) aB ?_
  refine aG (by first | exact .inl rfl | exact .inr rfl) rfl rfl _ _ aF aD (⟨rfl, ⟨qe, ce, rows⟩, rfl, hrq, dr, rfl⟩)
end
end Go.Proofs.YtkccjglmnhgabaaGreat
namespace Go.Proofs.YtkccjglmnhgabaaGreat
open Go Go.Fx
section
variable {X : List Nat} {w0 : World} {M0 M1 : List Ent} {I0 : List aZ}
theorem LVws {q : Option Addr} {l : List S4} {n c : Nat} (hl : l.length = n) (hn : (n : Int) ≤ 9223372036854775807) (hq : aV q (recs vF l) ∈ I0) :
  CD Tryz.prog 9 [.slice q n c] X w0 M0 I0 (fun v M I => M0 = M ∧ I0 = I ∧ v = .bool true) := by
 have hKn := fun M0 I0 => vW (X := X) (w0 := w0) (M0 := M0) (I0 := I0)
 have hV := fun M0 I0 h => aHS (X := X) (w0 := w0) (M0 := M0) (I0 := I0) (q := q) (l := l) (n := n) (c := c) hl h
 refine eQ (φ := aV q (recs vF l)) (Hv.mem hq) ?_
 refine bA Tryz.func9 rfl Tryz.ntmps9 rfl ?_
 repeat (refine aL ?_)
 (refine aA rfl (hKn _ _) rfl rfl ?_; rintro _ _ _ ⟨rfl, rfl, rfl⟩; refine ⟨okF, ?_⟩)
 by_cases h80 : 80 < n
 ·repeat (refine aL ?_)
  refine aG (by first | exact .inl rfl | exact .inr rfl) rfl rfl _ _ aF aD (⟨rfl, rfl, rfl⟩)
 repeat (refine aL ?_)
 refine wT (fun G M I => G = [(0, .slice q n c), (3, .int .i64 (uG l))] ∧ M0 = M ∧ I = aV q (recs vF l) :: I0) ?_ ?_
 ·by_cases h0 : n = 0
  ·have e : uG l = 6 := by unfold uG; rw [if_pos (by omega)]
   rw [e]
   repeat (refine aL ?_)
   refine lJ _ _ _ aS aF aD ⟨rfl, rfl, rfl⟩
  ·by_cases h64 : 64 < n
   ·have e : uG l = 3 := by unfold uG; rw [if_neg (by omega), if_pos (by omega)]
    rw [e]
    repeat (refine aL ?_)
    refine lJ _ _ _ aS aF aD ⟨rfl, rfl, rfl⟩
   ·have e : uG l = 0 := by unfold uG; rw [if_neg (by omega), if_neg (by omega)]
    rw [e]
    repeat (refine aL ?_)
    refine lJ _ _ _ aS aF aD ⟨rfl, rfl, rfl⟩
 rintro G M I ⟨rfl, rfl, rfl⟩
 repeat (refine aL ?_)
 refine aR [0, 22, 23] rfl (fun k G M I => ∃ (i : Nat) (ci : Int), i ≤ n ∧ k = n - i ∧ ci = (l.take i).foldl wS (uG l) ∧ G = [(3, .int .i64 ci), (24, .int .i64 i)] ∧ M0 = M ∧ I = aV q (recs vF l) :: I0) (n) _ _ _ aS aF aD (⟨0, _, by omega, rfl, rfl, rfl, rfl, rfl⟩) ?_
 rintro kk G M I ⟨i, ci, hi, rfl, hci, rfl, rfl, rfl⟩
 by_cases hin : i < n
 ·have ht : l.take (i + 1) = l.take i ++ [gt l (i : Int)] := by rw [cK (by omega)]; exact (List.take_append_getElem (by omega)).symm
  obtain ⟨s, hss⟩ : ∃ s, gt l (i : Int) = s := ⟨_, rfl⟩
  rw [hss] at ht
  have hc2 : (l.take (i + 1)).foldl wS (uG l) = wS ci s := by rw [ht, List.foldl_append, ← hci]; rfl
  repeat (refine aL ?_)
  rw [hss]
  (refine aK rfl rfl ?_; intro b8; refine ⟨okF, ?_⟩)
  repeat (refine aL ?_)
  (refine aW (cs := recs eZ [s.x, s.y, s.u, s.v]) ([.int .i64 s.x, .int .i64 s.y, .int .i64 s.u, .int .i64 s.v]) rfl rfl (by intro v hv; repeat (first | exact absurd hv (List.not_mem_nil) | (rcases List.mem_cons.1 hv with rfl | hv; · rfl))) (by omega) rfl rfl rfl ?_; intro b9; refine ⟨okF, ?_⟩)
  refine aY .here ?_
  repeat (refine aL ?_)
  obtain ⟨xs, hxs⟩ : ∃ xs, xs = [s.x, s.y, s.u, s.v] := ⟨_, rfl⟩
  have hxl : xs.length = 4 := by rw [hxs]; rfl
  have hsx : wS ci s = xs.foldl mE ci := by rw [hxs]; rfl
  rw [hsx] at hc2
  rw [← hxs]
  refine uB (M' := M0) (I' := aV (some ⟨b9, 0, none⟩) (recs eZ xs) :: aV q (recs vF l) :: I0) aF aD ?_
  refine aR [0, 22, 23, 24, 40, 41] rfl (fun k G M I => ∃ (j : Nat) (cj : Int), j ≤ 4 ∧ k = 4 - j ∧ cj = (xs.take j).foldl mE ci ∧ G = [(3, .int .i64 cj), (42, .int .i64 j)] ∧ M0 = M ∧ I = aV (some ⟨b9, 0, none⟩) (recs eZ xs) :: aV q (recs vF l) :: I0) (4) _ _ _ aS aF aD (⟨0, _, by omega, rfl, rfl, rfl, rfl, rfl⟩) ?_
  rintro kk G M I ⟨j, cj, hj, rfl, hcj, rfl, rfl, rfl⟩
  by_cases hj3 : j < 4
  ·have ht2 : xs.take (j + 1) = xs.take j ++ [gt xs (j : Int)] := by rw [cK (by omega)]; exact (List.take_append_getElem (by omega)).symm
   obtain ⟨x, hx⟩ : ∃ x, gt xs (j : Int) = x := ⟨_, rfl⟩
   rw [hx] at ht2
   have hc3 : (xs.take (j + 1)).foldl mE ci = mE cj x := by rw [ht2, List.foldl_append, ← hcj]; rfl
   repeat (refine aL ?_)
   rw [hx]
   by_cases h0 : cj = 0
   ·subst h0
    by_cases hf1 : x < -1048576
    ·have e : mE 0 x = 2 := by unfold mE; rw [if_pos ⟨rfl, .inl hf1⟩]
     rw [e] at hc3
     repeat (refine aL ?_)
     refine aJ (4 - (j + 1)) _ _ _ (by first | omega | (simp only [List.length_append, List.length_cons, List.length_nil]; omega)) aS aF aD (⟨j + 1, 2, by omega, rfl, hc3.symm, rfl, rfl, rfl⟩)
    ·by_cases hf2 : 1048576 < x
     ·have e : mE 0 x = 2 := by unfold mE; rw [if_pos ⟨rfl, .inr hf2⟩]
      rw [e] at hc3
      repeat (refine aL ?_)
      refine aJ (4 - (j + 1)) _ _ _ (by first | omega | (simp only [List.length_append, List.length_cons, List.length_nil]; omega)) aS aF aD (⟨j + 1, 2, by omega, rfl, hc3.symm, rfl, rfl, rfl⟩)
     ·have e : mE 0 x = 0 := by unfold mE; rw [if_neg (by omega)]
      rw [e] at hc3
      repeat (refine aL ?_)
      refine aJ (4 - (j + 1)) _ _ _ (by first | omega | (simp only [List.length_append, List.length_cons, List.length_nil]; omega)) aS aF aD (⟨j + 1, 0, by omega, rfl, hc3.symm, rfl, rfl, rfl⟩)
   ·have e : mE cj x = cj := by unfold mE; rw [if_neg (fun e => h0 e.1)]
    rw [e] at hc3
    repeat (refine aL ?_)
    refine aJ (4 - (j + 1)) _ _ _ (by first | omega | (simp only [List.length_append, List.length_cons, List.length_nil]; omega)) aS aF aD (⟨j + 1, cj, by omega, rfl, hc3.symm, rfl, rfl, rfl⟩)
  ·obtain rfl : j = 4 := by omega
   rw [List.take_of_length_le (by omega), ← hc2] at hcj
   repeat (refine aL ?_)
   refine aJ (n - (i + 1)) _ _ _ (by first | omega | (simp only [List.length_append, List.length_cons, List.length_nil]; omega)) aS aF aD (⟨i + 1, cj, by omega, rfl, hcj, rfl, rfl, rfl⟩)
 ·obtain rfl : i = n := by omega
  rw [List.take_of_length_le (by omega), aNI] at hci
  subst hci
  by_cases hc : nA l = 0
  case neg =>
   rw [if_neg hc, if_neg hc] at hV
   generalize nA l = cd at *
   repeat (refine aL ?_)
   (refine aA rfl (hV _ _ aB) rfl rfl ?_; rintro _ _ _ ⟨rfl, rfl, rfl⟩; refine ⟨okF, ?_⟩)
   repeat (refine aL ?_)
   refine aG (by first | exact .inl rfl | exact .inr rfl) rfl rfl _ _ aF aD (⟨rfl, rfl, congrArg Value.bool (dG rfl)⟩)
  have hno : ¬ farP l := by
   unfold nA at hc
   split at hc
   ·omega
   ·split at hc
    ·omega
    ·split at hc
     ·omega
     ·assumption
  have hn1 : 1 ≤ i := by
   unfold nA at hc
   split at hc
   ·omega
   ·omega
  rw [hc, if_pos rfl, if_pos rfl] at hV
  rw [hc]
  by_cases h10 : 10 < i
  ·repeat (refine aL ?_)
   refine aG (by first | exact .inl rfl | exact .inr rfl) rfl rfl _ _ aF aD (⟨rfl, rfl, rfl⟩)
  have hE := fun M0 I0 h => aVW (X := X) (w0 := w0) (M0 := M0) (I0 := I0) (q := q) (l := l) (n := i) (c := c) hl (by omega) hno h
  have hP := fun M0 I0 h => aWT (X := X) (w0 := w0) (M0 := M0) (I0 := I0) (q := q) (l := l) (n := i) (c := c) hl (by omega) hno h
  have aE : (jB (qE l) qT i).1.length = rk (qE l) 9 := sN (aAI hl)
  have aP : (jB (nD l) qT (2 * i)).1.length = rk (nD l) 9 := sN (zV hl)
  rw [aE, aP] at hV
  have hkb : kb 41 9 ≤ 20000000000 := by decide
  repeat (refine aL ?_)
  (refine aA rfl (hV _ _ aB) rfl rfl ?_; rintro _ _ _ ⟨rfl, rfl, rfl⟩; refine ⟨okF, ?_⟩)
  repeat (refine aL ?_)
  (refine aA rfl (hE _ _ aB) rfl rfl ?_; rintro _ _ _ ⟨rfl, x1, rfl, hx1, dx1, rfl⟩; refine ⟨okF, ?_⟩)
  have hG1 := fun M0 I0 h => aBA (X := X) (w0 := w0) (M0 := M0) (I0 := I0) (a := x1) (R := i) (C := 9) (k0 := 41) hkb (by omega) (by omega) dx1 h
  rw [hx1] at hG1
  (refine aA rfl (hG1 _ _ aB) rfl rfl ?_; rintro _ _ _ ⟨rfl, rfl, rfl⟩; refine ⟨okF, ?_⟩)
  generalize rk (qE l) 9 = r1 at *
  repeat (refine aL ?_)
  (refine aA rfl (hP _ _ aB) rfl rfl ?_; rintro _ _ _ ⟨rfl, x2, rfl, hx2, dx2, rfl⟩; refine ⟨okF, ?_⟩)
  have hG2 := fun M0 I0 h => aBA (X := X) (w0 := w0) (M0 := M0) (I0 := I0) (a := x2) (R := 2 * i) (C := 9) (k0 := 41) hkb (by omega) (by omega) dx2 h
  rw [hx2] at hG2
  (refine aA rfl (hG2 _ _ aB) rfl rfl ?_; rintro _ _ _ ⟨rfl, rfl, rfl⟩; refine ⟨okF, ?_⟩)
  generalize rk (nD l) 9 = r2 at *
  repeat (refine aL ?_)
  refine aG (by first | exact .inl rfl | exact .inr rfl) rfl rfl _ _ aF aD (⟨rfl, rfl, congrArg Value.bool (dG rfl)⟩)
end
end Go.Proofs.YtkccjglmnhgabaaGreat

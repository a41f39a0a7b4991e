/- Chapter 29, plain: the equations of pairs, and by how much a map of a kind's form misses them. matrix: column, Solve, Refute. The document's Echelon, Rank. Controlled observations, plain: Fredholm's alternative, rows left out, the rank of the transposed matrix, weights, certificates. Chapter 29, plain: the law's way to solve the equations gives the same maps. consensus: design (its closure add), regular, formed. -/
import Derived.Test.YtjbhdfpjnjedhaaGreatZpbh
import Derived.Test.YtjbhdfpjnjedhaaGreatZpbc
import Derived.Test.YtjbhdfpjnjedhaaGreatZpbg
import Derived.Test.YtjbhdfpjnjedhaaGreatZpan
import Derived.Test.YtjbhdfpjnjedhaaGreatZpbe
set_option linter.unusedSimpArgs false
set_option linter.unusedVariables false
set_option maxRecDepth 100000
set_option maxHeartbeats 4000000
namespace Go.Proofs.YtjbhdfpjnjedhaaGreat
open Go Go.Fx
theorem gtQ {α : Type} [Inhabited α] {l : List α} {i : Nat} (h : i < l.length) : gt l (i : Int) = l[i] := by simp [gt, List.getD, h]
theorem aJN {k : Nat} {l : List Q4} : (dsA k l).length = 2 * l.length := by
 unfold dsA
 induction l with
 | nil => rfl
 | cons s r ih => rw [List.flatMap_cons, List.length_append, ih]; simp; omega
theorem zB {k : Nat} : ∀ {l : List Q4} {i : Nat}, i < l.length → rowAt (dsA k l) (2 * i) = cz (dr1 k (gt l (i : Int))) ∧ rowAt (dsA k l) (2 * i + 1) = cz (dr2 k (gt l (i : Int)))
 | s :: r, 0, _ => ⟨rfl, rfl⟩
 | s :: r, i + 1, h => by
  have ih := zB (k := k) (l := r) (i := i) (by simpa using h)
  have e1 : gt (s :: r) ((i + 1 : Nat) : Int) = gt r (i : Int) := by rw [gtQ h, gtQ (by simpa using h)]; rfl
  rw [e1, ← ih.1, ← ih.2]
  have e2 : dsA k (s :: r) = cz (dr1 k s) :: cz (dr2 k s) :: dsA k r := rfl
  have e3 : 2 * (i + 1) = 2 * i + 1 + 1 := by omega
  rw [e2, e3]
  exact ⟨rfl, rfl⟩
theorem aKF {k : Nat} : ∀ {l : List Q4} {i : Nat}, i < l.length → (dsB k l).getD (2 * i) 0 = ((db1 k (gt l (i : Int)) : Int) : Rat) ∧ (dsB k l).getD (2 * i + 1) 0 = ((db2 k (gt l (i : Int)) : Int) : Rat)
 | s :: r, 0, _ => ⟨rfl, rfl⟩
 | s :: r, i + 1, h => by
  have ih := aKF (k := k) (l := r) (i := i) (by simpa using h)
  have e1 : gt (s :: r) ((i + 1 : Nat) : Int) = gt r (i : Int) := by rw [gtQ h, gtQ (by simpa using h)]; rfl
  rw [e1, ← ih.1, ← ih.2]
  have e2 : dsB k (s :: r) = ((db1 k s : Int) : Rat) :: ((db2 k s : Int) : Rat) :: dsB k r := rfl
  have e3 : 2 * (i + 1) = 2 * i + 1 + 1 := by omega
  rw [e2, e3]
  exact ⟨rfl, rfl⟩
theorem aPX {k : Nat} {s : Q4} : (dr1 k s).length = zA k ∧ (dr2 k s).length = zA k := by
 unfold dr1 dr2 zA
 split
 ·exact ⟨rfl, rfl⟩
 ·split <;> exact ⟨rfl, rfl⟩
theorem aQO {l : List Int} : (cz l).length = l.length := by simp [cz]
theorem aSX {k : Nat} {l : List Q4} : wE (dsA k l) (2 * l.length) (zA k) := ⟨aJN, fun i hi => by
 obtain ⟨t, h | h⟩ : ∃ t, i = 2 * t ∨ i = 2 * t + 1 := ⟨i / 2, by omega⟩
 ·rw [h, (zB (by omega)).1, aQO, aPX.1]
 ·rw [h, (zB (by omega)).2, aQO, aPX.2]⟩
theorem aKE {k : Nat} {l : List Q4} : (dsB k l).length = 2 * l.length := by
 unfold dsB
 induction l with
 | nil => rfl
 | cons s r ih => rw [List.flatMap_cons, List.length_append, ih]; simp; omega
theorem aXD {n : Nat} {f : Nat → Rat} : sm (2 * n) f = sm n (fun t => f (2 * t) + f (2 * t + 1)) := by
 induction n with
 | zero => rfl
 | succ n ih =>
  show sm (2 * n + 1 + 1) f = sm n (fun t => f (2 * t) + f (2 * t + 1)) + (f (2 * n) + f (2 * n + 1))
  rw [← ih]
  show (sm (2 * n) f + f (2 * n)) + f (2 * n + 1) = _
  rw [Rat.add_assoc]
theorem aFW {k : Nat} {x : List Rat} {s : Q4} : nN (nP k x) 2 s = 1 := by
 unfold nP
 split
 ·show (0 : Rat) * (s.x : Rat) + 0 * (s.y : Rat) + 1 = 1
  grind
 ·split
  ·show (0 : Rat) * (s.x : Rat) + 0 * (s.y : Rat) + 1 = 1
   grind
  ·show (0 : Rat) * (s.x : Rat) + 0 * (s.y : Rat) + 1 = 1
   grind
theorem aDK : ((0 : Int) : Rat) = 0 := rfl
theorem aMH : ((1 : Int) : Rat) = 1 := rfl
theorem aKU {k : Nat} {x : List Rat} {s : Q4} :
  aOF (nP k x) s = sm (zA k) (fun j => (cz (dr1 k s)).getD j 0 * x.getD j 0) - ((db1 k s : Int) : Rat) ∧ aRA (nP k x) s = sm (zA k) (fun j => (cz (dr2 k s)).getD j 0 * x.getD j 0) - ((db2 k s : Int) : Rat) := by
 unfold aOF aRA
 rw [aFW]
 unfold nP dr1 dr2 db1 db2 zA
 by_cases h0 : k = 0
 ·simp only [h0, if_true]
  rw [Rat.intCast_sub, Rat.intCast_sub]
  constructor
  ·show (1 * (s.x : Rat) + 0 * (s.y : Rat) + x.getD 0 0) / 1 - (s.u : Rat) = (0 + ((1 : Int) : Rat) * x.getD 0 0 + ((0 : Int) : Rat) * x.getD 1 0) - ((s.u : Rat) - (s.x : Rat))
   rw [aDK, aMH]; grind
  ·show (0 * (s.x : Rat) + 1 * (s.y : Rat) + x.getD 1 0) / 1 - (s.v : Rat) = (0 + ((0 : Int) : Rat) * x.getD 0 0 + ((1 : Int) : Rat) * x.getD 1 0) - ((s.v : Rat) - (s.y : Rat))
   rw [aDK, aMH]; grind
 ·by_cases h1 : k = 1
  ·simp only [h1, if_true, show ¬ (1 : Nat) = 0 by omega, if_false]
   constructor
   ·show (x.getD 0 0 * (s.x : Rat) + -x.getD 1 0 * (s.y : Rat) + x.getD 2 0) / 1 - (s.u : Rat) = (0 + (s.x : Rat) * x.getD 0 0 + ((-s.y : Int) : Rat) * x.getD 1 0 + ((1 : Int) : Rat) * x.getD 2 0 + ((0 : Int) : Rat) * x.getD 3 0) - (s.u : Rat)
    rw [aDK, aMH, Rat.intCast_neg]; grind
   ·show (x.getD 1 0 * (s.x : Rat) + x.getD 0 0 * (s.y : Rat) + x.getD 3 0) / 1 - (s.v : Rat) = (0 + (s.y : Rat) * x.getD 0 0 + (s.x : Rat) * x.getD 1 0 + ((0 : Int) : Rat) * x.getD 2 0 + ((1 : Int) : Rat) * x.getD 3 0) - (s.v : Rat)
    rw [aDK, aMH]; grind
  ·simp only [h0, h1, if_false]
   constructor
   ·show (x.getD 0 0 * (s.x : Rat) + x.getD 1 0 * (s.y : Rat) + x.getD 2 0) / 1 - (s.u : Rat) = (0 + (s.x : Rat) * x.getD 0 0 + (s.y : Rat) * x.getD 1 0 + ((1 : Int) : Rat) * x.getD 2 0 + ((0 : Int) : Rat) * x.getD 3 0 + ((0 : Int) : Rat) * x.getD 4 0 + ((0 : Int) : Rat) * x.getD 5 0) - (s.u : Rat)
    rw [aDK, aMH]; grind
   ·show (x.getD 3 0 * (s.x : Rat) + x.getD 4 0 * (s.y : Rat) + x.getD 5 0) / 1 - (s.v : Rat) = (0 + ((0 : Int) : Rat) * x.getD 0 0 + ((0 : Int) : Rat) * x.getD 1 0 + ((0 : Int) : Rat) * x.getD 2 0 + (s.x : Rat) * x.getD 3 0 + (s.y : Rat) * x.getD 4 0 + ((1 : Int) : Rat) * x.getD 5 0) - (s.v : Rat)
    rw [aDK, aMH]; grind
def aNI (m : Mt) (l : List Q4) : Rat := sm l.length (fun t => aAQ m (gt l (t : Int)))
theorem aRI {k : Nat} {l : List Q4} {x : List Rat} : aNI (nP k x) l = sqS (2 * l.length) (zA k) (dsA k l) (dsB k l) (fun j => x.getD j 0) := by
 unfold aNI sqS
 rw [aXD]
 refine dG (fun t ht => ?_)
 have hA := zB (k := k) ht
 have hB := aKF (k := k) ht
 unfold aAQ
 rw [(aKU (k := k) (x := x) (s := gt l (t : Int))).1, (aKU (k := k) (x := x) (s := gt l (t : Int))).2]
 show _ = (sm (zA k) (fun j => (rowAt (dsA k l) (2 * t)).getD j 0 * x.getD j 0) - (dsB k l).getD (2 * t) 0) * (sm (zA k) (fun j => (rowAt (dsA k l) (2 * t)).getD j 0 * x.getD j 0) - (dsB k l).getD (2 * t) 0) + (sm (zA k) (fun j => (rowAt (dsA k l) (2 * t + 1)).getD j 0 * x.getD j 0) - (dsB k l).getD (2 * t + 1) 0) * (sm (zA k) (fun j => (rowAt (dsA k l) (2 * t + 1)).getD j 0 * x.getD j 0) - (dsB k l).getD (2 * t + 1) 0)
 rw [hA.1, hA.2, hB.1, hB.2]
theorem xI {k : Nat} {l : List Q4} (h : aJA k l ≠ 0) (y : List Rat) : aNI (nP k (wU k l)) l ≤ aNI (nP k y) l := by
 rw [aRI, aRI]
 exact aQK (aVQ h) _
end Go.Proofs.YtjbhdfpjnjedhaaGreat
namespace Go.Proofs.YtjbhdfpjnjedhaaGreat
open Go Go.Fx
def bes1 (R C : Nat) (A : Mt) (b : List Rat) : Mt := xW R (C + 1) (fun i j => if j < C then at2 A i j else b.getD i 0)
def besU (R C : Nat) (A : Mt) (b : List Rat) : Mt := xW R (C + 1 + R) (fun i j => if j < C then at2 A i j else if j = C then b.getD i 0 else pR i (j - (C + 1)))
def solB (R C : Nat) (f : Nat → Nat → Rat) (pv : List Nat) : Prop := ∀ i ∈ List.range R, pv.length ≤ i → f i C = 0
instance (R C : Nat) (f : Nat → Nat → Rat) (pv : List Nat) : Decidable (solB R C f pv) := by unfold solB; exact inferInstance
def solP (R C : Nat) (A : Mt) (b : List Rat) : Prop := solB R C (at2 (qA (bes1 R C A b) C).1) (qA (bes1 R C A b) C).2
instance (R C : Nat) (A : Mt) (b : List Rat) : Decidable (solP R C A b) := by unfold solP; exact inferInstance
def solL (R C : Nat) (A : Mt) (b : List Rat) : List Rat := (List.range C).map (solF (at2 (qA (bes1 R C A b) C).1) (qA (bes1 R C A b) C).2 C)
/- the wider matrix tells the same -/
section
variable {X : List Nat} {w0 : World} {M0 : List Ent} {I0 : List aY}
end
end Go.Proofs.YtjbhdfpjnjedhaaGreat
namespace Go.Proofs.YtjbhdfpjnjedhaaGreat
open Go Go.Fx
def rEchO (A : Mt) (R C k : Nat) (M0 : List Ent) (I0 : List aY) (v : Value) (M : List Ent) (I : List aY) : Prop :=
 ∃ (bo co : Nat) (tlo : List Value) (rows : List MS) (E : Mt) (pv : List Nat) (q : Option Addr) (c : Nat), v = .tuple #[.slice (some ⟨bo, 0, none⟩) R co, .slice q pv.length c] ∧ R ≤ co ∧ Shp rows R C ∧ qA A C = (E, pv) ∧ Pw rows R C (at2 E) ∧
  M = .row q pv.length c (recs eZ (zs pv)) 3 1 :: .blk bo (recs eS rows ++ tlo) 53 :: (rows.map nC ++ M0) ∧ I = qW rows k :: I0
def rEchP (A : Mt) (R C k : Nat) (M0 : List Ent) (I0 : List aY) (v : Value) (M : List Ent) (I : List aY) : Prop :=
 M0 = M ∧ ∃ (m : MX) (pv : List Nat) (q : Option Addr) (c : Nat), v = .tuple #[mv m, .slice q pv.length c] ∧ qA A C = (m.q, pv) ∧ m.dim R C ∧ I = pvI q pv :: jF m k :: I0
section
variable {X : List Nat} {w0 : World} {M0 : List Ent} {I0 : List aY}
end
end Go.Proofs.YtjbhdfpjnjedhaaGreat
namespace Go.Proofs.YtjbhdfpjnjedhaaGreat
open Go Go.Fx
def unL (n i : Nat) : List Rat := (List.range n).map (pR i)
def rw1 (A : Mt) (C i : Nat) (z : Nat → Rat) : Rat := sm C (fun j => at2 A i j * z j)
def ctl (R C : Nat) (A : Mt) (i : Nat) : Prop := ¬ solP R C A (unL R i)
instance (R C : Nat) (A : Mt) (i : Nat) : Decidable (ctl R C A i) := by unfold ctl; exact inferInstance
/- rows left out -/
def rowsM (A : Mt) (ix : List Nat) : Mt := ix.map (rowAt A)
def restI (R : Nat) (set : List Int) : List Nat := (List.range R).filter (fun i => decide ((i : Int) ∉ set))
def und (R C : Nat) (A : Mt) (set : List Int) : Prop := rk (rowsM A (restI R set)) C < rk A C
instance (R C : Nat) (A : Mt) (set : List Int) : Decidable (und R C A set) := by unfold und; exact inferInstance
/- the transposed matrix -/
def trM (R C : Nat) (A : Mt) : Mt := xW C R (fun i j => at2 A j i)
/- certificates -/
/- weights: the normal matrix has the kernel of the design matrix -/
def nrmM (R C : Nat) (A : Mt) (p : Nat → Rat) : Mt := xW C C (fun i j => sm R (fun k => p k * at2 A k i * at2 A k j))
/- the document's inverse: the pivots of the matrix with the unit matrix beside -/
end Go.Proofs.YtjbhdfpjnjedhaaGreat
namespace Go.Proofs.YtjbhdfpjnjedhaaGreat
open Go Go.Fx
end Go.Proofs.YtjbhdfpjnjedhaaGreat
namespace Go.Proofs.YtjbhdfpjnjedhaaGreat
open Go Go.Fx
section
variable {X : List Nat} {w0 : World} {M0 M1 : List Ent} {I0 : List aY}
theorem aTQ (l : List Int) (x : Int) : cz (l ++ [x]) = cz l ++ [(x : Rat)] := by simp [cz]
theorem uN {r : Int} {q : Option Addr} {xs : List Int} {n c pa pb : Nat} {qa qb : Option Addr} {ca cb u : Nat} {rows : List RL} {bs : List RE} (hl : xs.length = n) (hn : n ≤ 100) (hlr : rows.length ≤ 1000 ∧ bs.length ≤ 1000)
  (hb : ∀ x ∈ xs, (-9223372036854775808 ≤ x ∧ x ≤ 9223372036854775807) ∧ x.natAbs ≤ 2 ^ u) (hr : (-9223372036854775808 ≤ r ∧ r ≤ 9223372036854775807) ∧ r.natAbs ≤ 2 ^ u) (hq : aO q (recs eZ xs) ∈ I0) (ha : jW rows u ∈ I0) (hbb : cO bs u ∈ I0) :
  CD Tryz.prog 173 [.int .i64 r, .slice q n c, .pointer (some ⟨pa, 0, none⟩), .pointer (some ⟨pb, 0, none⟩)] X w0
   (.row qa rows.length ca (recs eL rows) 53 1 :: .row qb bs.length cb (recs eR bs) 50 4 :: .blk pb [.slice qb bs.length cb] 53 :: .blk pa [.slice qa rows.length ca] 34 :: M1) I0
   (fun _ M I => ∃ (qa' qb' : Option Addr) (ca' cb' : Nat) (x : RL) (e : RE), x.q = cz xs ∧ e.q = (r : Rat) ∧
    M = .row qa' (rows ++ [x]).length ca' (recs eL (rows ++ [x])) 53 1 :: .row qb' (bs ++ [e]).length cb' (recs eR (bs ++ [e])) 50 4 :: .blk pb [.slice qb' (bs ++ [e]).length cb'] 53 :: .blk pa [.slice qa' (rows ++ [x]).length ca'] 34 :: M1 ∧ I = jW (rows ++ [x]) u :: cO (bs ++ [e]) u :: I0) := by
 refine cZ (φ := aO q (recs eZ xs)) (Hv.mem hq) (cZ (φ := jW rows u) (Hv.mem (List.mem_cons_of_mem _ ha)) (cZ (φ := cO bs u) (Hv.mem (List.mem_cons_of_mem _ (List.mem_cons_of_mem _ hbb))) ?_))
 have hWr := fun M0 I0 => jS (X := X) (w0 := w0) (M0 := M0) (I0 := I0) (x := r) hr.1 (k := u) hr.2
 refine wT Tryz.func173 rfl Tryz.ntmps173 rfl ?_
 repeat (refine aK ?_)
 refine mM 50 4 ?_
 refine iB (φ := cO [] u) Hv.nilR ?_
 refine aT [0, 2, 3, 9, 10] rfl (fun k G M I => ∃ (i : Nat) (es : List RE) (qe : Option Addr) (ce : Nat), i ≤ n ∧ k = n - i ∧ es.length = i ∧ qs es = cz (xs.take i) ∧ G = [(6, .slice qe es.length ce), (11, .int .i64 i)] ∧ M = .row qe es.length ce (recs eR es) 50 4 :: .row qa rows.length ca (recs eL rows) 53 1 :: .row qb bs.length cb (recs eR bs) 50 4 :: .blk pb [.slice qb bs.length cb] 53 :: .blk pa [.slice qa rows.length ca] 34 :: M1 ∧ I = cO es u :: cO bs u :: jW rows u :: aO q (recs eZ xs) :: I0) (n) _ _ _ aP aD aC (⟨0, [], none, 0, by omega, rfl, rfl, rfl, rfl, rfl, rfl⟩) ?_
 rintro kk G M I ⟨i, es, qe, ce, hi, rfl, hel, heq, rfl, rfl, rfl⟩
 by_cases hin : i < n
 ·have hx := hb _ (dF (ms := xs) (i := (i : Int)) (by omega))
  obtain ⟨x, hxx⟩ : ∃ x, gt xs (i : Int) = x := ⟨_, rfl⟩
  rw [hxx] at hx
  have hW := fun M0 I0 => jS (X := X) (w0 := w0) (M0 := M0) (I0 := I0) (x := x) hx.1 (k := u) hx.2
  have ht : xs.take (i + 1) = xs.take i ++ [x] := by rw [← hxx, fT (by omega)]; exact (List.take_append_getElem (by omega)).symm
  repeat (refine aK ?_)
  rw [hxx]
  (refine aA rfl (hW _ _) rfl rfl ?_; rintro _ _ _ ⟨rfl, e, rfl, he, rfl⟩; refine ⟨okF, ?_⟩)
  (refine aQ (cs := recs eR [e]) ([rv e]) rfl rfl (by intro v hv; repeat (first | exact absurd hv (List.not_mem_nil) | (rcases List.mem_cons.1 hv with rfl | hv; · rfl))) (by omega) rfl rfl rfl ?_; intro b; refine ⟨okF, ?_⟩)
  (refine dI (ys := [e]) 1 rfl rfl rfl ?_ (by decide) rfl (by omega) (by omega) rfl rfl ?_; (· first | exact Src.blk aB | exact Src.row aB | exact Src.imm aB (by first | assumption | exact .inl (Ok.mk _ _))); intro q2 c3; refine ⟨okF, ?_⟩)
  repeat (refine aK ?_)
  refine gV (φ := cO (es ++ [e]) u) (Hv.snoc aB aB) ?_
  refine aL (n - (i + 1)) _ _ _ (by first | omega | (simp only [List.length_append, List.length_cons, List.length_nil]; omega)) aP aD aC (⟨i + 1, es ++ [e], q2, c3, by omega, rfl, by simp [hel], ?_, rfl, rfl, rfl⟩)
  rw [ht, aTQ, ← heq]
  show (es ++ [e]).map RE.q = qs es ++ [(x : Rat)]
  rw [List.map_append, ← he]
  rfl
 ·obtain rfl : i = n := by omega
  rw [← hl, List.take_length] at heq
  repeat (refine aK ?_)
  refine aVE (k := u) aB ?_
  (repeat refine aG ?_); refine uU 5 (.blk pb [.slice qb bs.length cb] 53 :: .blk pa [.slice qa rows.length ca] 34 :: M1) (iZ ⟨qe, ce, es⟩ u :: cO bs u :: jW rows u :: aO q (recs eZ xs) :: I0) [0, 1, 4, 5, 2, 3, 6, 7, 8, 9, 10] [4, 4, 5, 5, 0, 0, 0, 0, 0, 0, 0] aD aC mixed (by kernel_rfl) ?_
  repeat (refine aK ?_)
  (refine aQ (cs := recs eL [⟨qe, ce, es⟩]) ([lv ⟨qe, ce, es⟩]) rfl rfl (by intro v hv; repeat (first | exact absurd hv (List.not_mem_nil) | (rcases List.mem_cons.1 hv with rfl | hv; · rfl))) (by omega) rfl rfl rfl ?_; intro b7; refine ⟨okF, ?_⟩)
  (refine dI (ys := [⟨qe, ce, es⟩]) 1 rfl rfl rfl ?_ (by decide) rfl (by omega) (by omega) rfl rfl ?_; (· first | exact Src.blk aB | exact Src.row aB | exact Src.imm aB (by first | assumption | exact .inl (Ok.mk _ _))); intro qa2 ca2; refine ⟨okF, ?_⟩)
  (refine aA rfl (hWr _ _) rfl rfl ?_; rintro _ _ _ ⟨rfl, e, rfl, he, rfl⟩; refine ⟨okF, ?_⟩)
  (refine aQ (cs := recs eR [e]) ([rv e]) rfl rfl (by intro v hv; repeat (first | exact absurd hv (List.not_mem_nil) | (rcases List.mem_cons.1 hv with rfl | hv; · rfl))) (by omega) rfl rfl rfl ?_; intro b8; refine ⟨okF, ?_⟩)
  (refine dI (ys := [e]) 3 rfl rfl rfl ?_ (by decide) rfl (by omega) (by omega) rfl rfl ?_; (· first | exact Src.blk aB | exact Src.row aB | exact Src.imm aB (by first | assumption | exact .inl (Ok.mk _ _))); intro qb2 cb2; refine ⟨okF, ?_⟩)
  repeat (refine aK ?_)
  refine gV (φ := cO (bs ++ [e]) u) (Hv.snoc aB aB) ?_
  refine gV (φ := jW (rows ++ [(⟨qe, ce, es⟩ : RL)]) u) (Hv.snocL aB aB) ?_
  refine mK (by first | exact .inl rfl | exact .inr rfl) rfl _ _ aD aC (⟨qa2, qb2, ca2, cb2, ⟨qe, ce, es⟩, e, heq, he, rfl, rfl⟩)
theorem aBC {k : Nat} {l : List Q4} {s : Q4} : dsA k (l ++ [s]) = dsA k l ++ [cz (dr1 k s), cz (dr2 k s)] := by simp [dsA]
theorem aCG {k : Nat} {l : List Q4} {s : Q4} : dsB k (l ++ [s]) = dsB k l ++ [(db1 k s : Rat), (db2 k s : Rat)] := by simp [dsB]
theorem e16 : 2 ^ 16 = 65536 := rfl
theorem aML {kd : Nat} {q : Option Addr} {l : List Q4} {n c : Nat} (hk : kd ≤ 2) (hl : l.length = n) (hn : n ≤ 64) (hs : ∀ s ∈ l, s.near) (hq : aO q (recs kU l) ∈ I0) :
  CD Tryz.prog 131 [.int .i64 (kd : Int), .slice q n c] X w0 M0 I0 (fun v M I => M0 = M ∧ ∃ (A : MX) (b : RL), v = .tuple #[mv A, lv b] ∧ A.q = dsA kd l ∧ b.q = dsB kd l ∧ I = iZ b 16 :: jF A 16 :: I0) := by
 refine cZ (φ := aO q (recs kU l)) (Hv.mem hq) ?_
 refine aX Tryz.func131 rfl Tryz.ntmps131 rfl ?_
 refine aG ?_
 refine aJ ?_
 (refine aI rfl rfl ?_; intro pa; refine ⟨okF, ?_⟩)
 (refine aI rfl rfl ?_; intro pb; refine ⟨okF, ?_⟩)
 repeat (refine aK ?_)
 refine mM 50 4 ?_
 refine mM 53 1 ?_
 refine iB (φ := cO [] 16) Hv.nilR ?_
 refine iB (φ := jW [] 16) Hv.nilL ?_
 refine aT [0, 4, 5, 6, 14, 15] rfl (fun k G M I => ∃ (i : Nat) (rows : List RL) (bs : List RE) (qa qb : Option Addr) (ca cb : Nat), i ≤ n ∧ k = n - i ∧ rows.map RL.q = dsA kd (l.take i) ∧ qs bs = dsB kd (l.take i) ∧ G = [(16, .int .i64 i)] ∧ M = .row qa rows.length ca (recs eL rows) 53 1 :: .row qb bs.length cb (recs eR bs) 50 4 :: .blk pb [.slice qb bs.length cb] 53 :: .blk pa [.slice qa rows.length ca] 34 :: M0 ∧ I = jW rows 16 :: cO bs 16 :: aO q (recs kU l) :: I0) (n) _ _ _ aP aD aC (⟨0, [], [], none, none, 0, 0, by omega, rfl, rfl, rfl, rfl, rfl, rfl⟩) ?_
 rintro kk G M I ⟨i, rows, bs, qa, qb, ca, cb, hi, rfl, hrq, hbq, rfl, rfl, rfl⟩
 have hlr : rows.length = 2 * i := by have := congrArg List.length hrq; rw [List.length_map, aJN, List.length_take] at this; omega
 have hlb : bs.length = 2 * i := by have := congrArg List.length hbq; rw [show (qs bs).length = bs.length from List.length_map .., aKE, List.length_take] at this; omega
 by_cases hin : i < n
 ·have hmem := dF (ms := l) (i := (i : Int)) (by omega)
  have ht : l.take (i + 1) = l.take i ++ [gt l (i : Int)] := by rw [gtQ (by omega)]; exact (List.take_append_getElem (by omega)).symm
  obtain ⟨s, hss⟩ : ∃ s, gt l (i : Int) = s := ⟨_, rfl⟩
  rw [hss] at hmem ht
  obtain ⟨n1, n2, n3, n4⟩ := hs s hmem
  repeat (refine aK ?_)
  rw [hss]
  (refine aI rfl rfl ?_; intro b8; refine ⟨okF, ?_⟩)
  repeat (refine aK ?_)
  (repeat refine aG ?_); refine dS [0, 1, 2, 3, 4, 5, 6, 7, 8, 9, 10, 11, 12, 13, 14, 15] [0, 0, 0, 0, 0, 0, 0, 0, 0, 0, 0, 0, 0, 0, 0, 0] mixed (by kernel_rfl) ?_
  repeat (refine aK ?_)
  rcases (show kd = 0 ∨ kd = 1 ∨ kd = 2 by omega) with h0 | h0 | h0
  ·obtain rfl : kd = 0 := by omega
   have hr1 : (-9223372036854775808 ≤ s.u - s.x ∧ s.u - s.x ≤ 9223372036854775807) ∧ (s.u - s.x).natAbs ≤ 2 ^ 16 := by rw [e16]; omega
   have hr2 : (-9223372036854775808 ≤ s.v - s.y ∧ s.v - s.y ≤ 9223372036854775807) ∧ (s.v - s.y).natAbs ≤ 2 ^ 16 := by rw [e16]; omega
   have hx1 : ∀ z ∈ [1, 0], (-9223372036854775808 ≤ z ∧ z ≤ 9223372036854775807) ∧ z.natAbs ≤ 2 ^ 16 := by rw [e16]; intro z hz; simp only [List.mem_cons, List.not_mem_nil, or_false] at hz; omega
   have hx2 : ∀ z ∈ [0, 1], (-9223372036854775808 ≤ z ∧ z ≤ 9223372036854775807) ∧ z.natAbs ≤ 2 ^ 16 := by rw [e16]; intro z hz; simp only [List.mem_cons, List.not_mem_nil, or_false] at hz; omega
   repeat (refine aK ?_)
   (refine aQ (cs := recs eZ [1, 0]) ([.int .i64 (1), .int .i64 (0)]) rfl rfl (by intro v hv; repeat (first | exact absurd hv (List.not_mem_nil) | (rcases List.mem_cons.1 hv with rfl | hv; · rfl))) (by omega) rfl rfl rfl ?_; intro b9; refine ⟨okF, ?_⟩)
   refine bC .here ?_
   refine uY (M' := .row qa rows.length ca (recs eL rows) 53 1 :: .row qb bs.length cb (recs eR bs) 50 4 :: .blk pb [.slice qb bs.length cb] 53 :: .blk pa [.slice qa rows.length ca] 34 :: M0) (I' := aO (some ⟨b9, 0, none⟩) (recs eZ [1, 0]) :: jW rows 16 :: cO bs 16 :: aO q (recs kU l) :: I0) aD aC ?_
   (refine fD rfl rfl (uN (u := 16) (q := some ⟨b9, 0, none⟩) (xs := [1, 0]) (n := 2) (c := 2) (rows := rows) (bs := bs) (r := s.u - s.x) rfl (by omega) ⟨by omega, by omega⟩ hx1 hr1 aB aB aB) rfl rfl rfl ?_; rintro _ _ _ ⟨qa1, qb1, ca1, cb1, x1, y1, hxq1, hyq1, rfl, rfl⟩; refine ⟨okF, ?_⟩)
   repeat (refine aK ?_)
   (refine aQ (cs := recs eZ [0, 1]) ([.int .i64 (0), .int .i64 (1)]) rfl rfl (by intro v hv; repeat (first | exact absurd hv (List.not_mem_nil) | (rcases List.mem_cons.1 hv with rfl | hv; · rfl))) (by omega) rfl rfl rfl ?_; intro b10; refine ⟨okF, ?_⟩)
   refine bC .here ?_
   refine uY (M' := .row qa1 (rows ++ [x1]).length ca1 (recs eL (rows ++ [x1])) 53 1 :: .row qb1 (bs ++ [y1]).length cb1 (recs eR (bs ++ [y1])) 50 4 :: .blk pb [.slice qb1 (bs ++ [y1]).length cb1] 53 :: .blk pa [.slice qa1 (rows ++ [x1]).length ca1] 34 :: M0) (I' := aO (some ⟨b10, 0, none⟩) (recs eZ [0, 1]) :: jW (rows ++ [x1]) 16 :: cO (bs ++ [y1]) 16 :: aO q (recs kU l) :: I0) aD aC ?_
   (refine fD rfl rfl (uN (u := 16) (q := some ⟨b10, 0, none⟩) (xs := [0, 1]) (n := 2) (c := 2) (rows := rows ++ [x1]) (bs := bs ++ [y1]) (r := s.v - s.y) rfl (by omega) ⟨by simp; omega, by simp; omega⟩ hx2 hr2 aB aB aB) rfl rfl rfl ?_; rintro _ _ _ ⟨qa2, qb2, ca2, cb2, x2, y2, hxq2, hyq2, rfl, rfl⟩; refine ⟨okF, ?_⟩)
   repeat (refine aK ?_)
   refine aL (n - (i + 1)) _ _ _ (by first | omega | (simp only [List.length_append, List.length_cons, List.length_nil]; omega)) aP aD aC (⟨i + 1, rows ++ [x1] ++ [x2], bs ++ [y1] ++ [y2], qa2, qb2, ca2, cb2, by omega, rfl, by rw [ht, aBC, ← hrq, List.map_append, List.map_append, List.append_assoc]; show _ ++ [x1.q, x2.q] = _; rw [hxq1, hxq2]; rfl, by rw [ht, aCG, ← hbq]; show (bs ++ [y1] ++ [y2]).map RE.q = _; rw [List.map_append, List.map_append, List.append_assoc]; show _ ++ [y1.q, y2.q] = _; rw [hyq1, hyq2]; rfl, rfl, rfl, rfl⟩)
  ·obtain rfl : kd = 1 := by omega
   have hr1 : (-9223372036854775808 ≤ s.u ∧ s.u ≤ 9223372036854775807) ∧ (s.u).natAbs ≤ 2 ^ 16 := by rw [e16]; omega
   have hr2 : (-9223372036854775808 ≤ s.v ∧ s.v ≤ 9223372036854775807) ∧ (s.v).natAbs ≤ 2 ^ 16 := by rw [e16]; omega
   have hx1 : ∀ z ∈ [s.x, -s.y, 1, 0], (-9223372036854775808 ≤ z ∧ z ≤ 9223372036854775807) ∧ z.natAbs ≤ 2 ^ 16 := by rw [e16]; intro z hz; simp only [List.mem_cons, List.not_mem_nil, or_false] at hz; omega
   have hx2 : ∀ z ∈ [s.y, s.x, 0, 1], (-9223372036854775808 ≤ z ∧ z ≤ 9223372036854775807) ∧ z.natAbs ≤ 2 ^ 16 := by rw [e16]; intro z hz; simp only [List.mem_cons, List.not_mem_nil, or_false] at hz; omega
   repeat (refine aK ?_)
   rw [Int.zero_sub]
   (refine aQ (cs := recs eZ [s.x, -s.y, 1, 0]) ([.int .i64 (s.x), .int .i64 (-s.y), .int .i64 (1), .int .i64 (0)]) rfl rfl (by intro v hv; repeat (first | exact absurd hv (List.not_mem_nil) | (rcases List.mem_cons.1 hv with rfl | hv; · rfl))) (by omega) rfl rfl rfl ?_; intro b9; refine ⟨okF, ?_⟩)
   refine bC .here ?_
   refine uY (M' := .row qa rows.length ca (recs eL rows) 53 1 :: .row qb bs.length cb (recs eR bs) 50 4 :: .blk pb [.slice qb bs.length cb] 53 :: .blk pa [.slice qa rows.length ca] 34 :: M0) (I' := aO (some ⟨b9, 0, none⟩) (recs eZ [s.x, -s.y, 1, 0]) :: jW rows 16 :: cO bs 16 :: aO q (recs kU l) :: I0) aD aC ?_
   (refine fD rfl rfl (uN (u := 16) (q := some ⟨b9, 0, none⟩) (xs := [s.x, -s.y, 1, 0]) (n := 4) (c := 4) (rows := rows) (bs := bs) (r := s.u) rfl (by omega) ⟨by omega, by omega⟩ hx1 hr1 aB aB aB) rfl rfl rfl ?_; rintro _ _ _ ⟨qa1, qb1, ca1, cb1, x1, y1, hxq1, hyq1, rfl, rfl⟩; refine ⟨okF, ?_⟩)
   repeat (refine aK ?_)
   (refine aQ (cs := recs eZ [s.y, s.x, 0, 1]) ([.int .i64 (s.y), .int .i64 (s.x), .int .i64 (0), .int .i64 (1)]) rfl rfl (by intro v hv; repeat (first | exact absurd hv (List.not_mem_nil) | (rcases List.mem_cons.1 hv with rfl | hv; · rfl))) (by omega) rfl rfl rfl ?_; intro b10; refine ⟨okF, ?_⟩)
   refine bC .here ?_
   refine uY (M' := .row qa1 (rows ++ [x1]).length ca1 (recs eL (rows ++ [x1])) 53 1 :: .row qb1 (bs ++ [y1]).length cb1 (recs eR (bs ++ [y1])) 50 4 :: .blk pb [.slice qb1 (bs ++ [y1]).length cb1] 53 :: .blk pa [.slice qa1 (rows ++ [x1]).length ca1] 34 :: M0) (I' := aO (some ⟨b10, 0, none⟩) (recs eZ [s.y, s.x, 0, 1]) :: jW (rows ++ [x1]) 16 :: cO (bs ++ [y1]) 16 :: aO q (recs kU l) :: I0) aD aC ?_
   (refine fD rfl rfl (uN (u := 16) (q := some ⟨b10, 0, none⟩) (xs := [s.y, s.x, 0, 1]) (n := 4) (c := 4) (rows := rows ++ [x1]) (bs := bs ++ [y1]) (r := s.v) rfl (by omega) ⟨by simp; omega, by simp; omega⟩ hx2 hr2 aB aB aB) rfl rfl rfl ?_; rintro _ _ _ ⟨qa2, qb2, ca2, cb2, x2, y2, hxq2, hyq2, rfl, rfl⟩; refine ⟨okF, ?_⟩)
   repeat (refine aK ?_)
   refine aL (n - (i + 1)) _ _ _ (by first | omega | (simp only [List.length_append, List.length_cons, List.length_nil]; omega)) aP aD aC (⟨i + 1, rows ++ [x1] ++ [x2], bs ++ [y1] ++ [y2], qa2, qb2, ca2, cb2, by omega, rfl, by rw [ht, aBC, ← hrq, List.map_append, List.map_append, List.append_assoc]; show _ ++ [x1.q, x2.q] = _; rw [hxq1, hxq2]; rfl, by rw [ht, aCG, ← hbq]; show (bs ++ [y1] ++ [y2]).map RE.q = _; rw [List.map_append, List.map_append, List.append_assoc]; show _ ++ [y1.q, y2.q] = _; rw [hyq1, hyq2]; rfl, rfl, rfl, rfl⟩)
  ·obtain rfl : kd = 2 := by omega
   have hr1 : (-9223372036854775808 ≤ s.u ∧ s.u ≤ 9223372036854775807) ∧ (s.u).natAbs ≤ 2 ^ 16 := by rw [e16]; omega
   have hr2 : (-9223372036854775808 ≤ s.v ∧ s.v ≤ 9223372036854775807) ∧ (s.v).natAbs ≤ 2 ^ 16 := by rw [e16]; omega
   have hx1 : ∀ z ∈ [s.x, s.y, 1, 0, 0, 0], (-9223372036854775808 ≤ z ∧ z ≤ 9223372036854775807) ∧ z.natAbs ≤ 2 ^ 16 := by rw [e16]; intro z hz; simp only [List.mem_cons, List.not_mem_nil, or_false] at hz; omega
   have hx2 : ∀ z ∈ [0, 0, 0, s.x, s.y, 1], (-9223372036854775808 ≤ z ∧ z ≤ 9223372036854775807) ∧ z.natAbs ≤ 2 ^ 16 := by rw [e16]; intro z hz; simp only [List.mem_cons, List.not_mem_nil, or_false] at hz; omega
   repeat (refine aK ?_)
   (refine aQ (cs := recs eZ [s.x, s.y, 1, 0, 0, 0]) ([.int .i64 (s.x), .int .i64 (s.y), .int .i64 (1), .int .i64 (0), .int .i64 (0), .int .i64 (0)]) rfl rfl (by intro v hv; repeat (first | exact absurd hv (List.not_mem_nil) | (rcases List.mem_cons.1 hv with rfl | hv; · rfl))) (by omega) rfl rfl rfl ?_; intro b9; refine ⟨okF, ?_⟩)
   refine bC .here ?_
   refine uY (M' := .row qa rows.length ca (recs eL rows) 53 1 :: .row qb bs.length cb (recs eR bs) 50 4 :: .blk pb [.slice qb bs.length cb] 53 :: .blk pa [.slice qa rows.length ca] 34 :: M0) (I' := aO (some ⟨b9, 0, none⟩) (recs eZ [s.x, s.y, 1, 0, 0, 0]) :: jW rows 16 :: cO bs 16 :: aO q (recs kU l) :: I0) aD aC ?_
   (refine fD rfl rfl (uN (u := 16) (q := some ⟨b9, 0, none⟩) (xs := [s.x, s.y, 1, 0, 0, 0]) (n := 6) (c := 6) (rows := rows) (bs := bs) (r := s.u) rfl (by omega) ⟨by omega, by omega⟩ hx1 hr1 aB aB aB) rfl rfl rfl ?_; rintro _ _ _ ⟨qa1, qb1, ca1, cb1, x1, y1, hxq1, hyq1, rfl, rfl⟩; refine ⟨okF, ?_⟩)
   repeat (refine aK ?_)
   (refine aQ (cs := recs eZ [0, 0, 0, s.x, s.y, 1]) ([.int .i64 (0), .int .i64 (0), .int .i64 (0), .int .i64 (s.x), .int .i64 (s.y), .int .i64 (1)]) rfl rfl (by intro v hv; repeat (first | exact absurd hv (List.not_mem_nil) | (rcases List.mem_cons.1 hv with rfl | hv; · rfl))) (by omega) rfl rfl rfl ?_; intro b10; refine ⟨okF, ?_⟩)
   refine bC .here ?_
   refine uY (M' := .row qa1 (rows ++ [x1]).length ca1 (recs eL (rows ++ [x1])) 53 1 :: .row qb1 (bs ++ [y1]).length cb1 (recs eR (bs ++ [y1])) 50 4 :: .blk pb [.slice qb1 (bs ++ [y1]).length cb1] 53 :: .blk pa [.slice qa1 (rows ++ [x1]).length ca1] 34 :: M0) (I' := aO (some ⟨b10, 0, none⟩) (recs eZ [0, 0, 0, s.x, s.y, 1]) :: jW (rows ++ [x1]) 16 :: cO (bs ++ [y1]) 16 :: aO q (recs kU l) :: I0) aD aC ?_
   (refine fD rfl rfl (uN (u := 16) (q := some ⟨b10, 0, none⟩) (xs := [0, 0, 0, s.x, s.y, 1]) (n := 6) (c := 6) (rows := rows ++ [x1]) (bs := bs ++ [y1]) (r := s.v) rfl (by omega) ⟨by simp; omega, by simp; omega⟩ hx2 hr2 aB aB aB) rfl rfl rfl ?_; rintro _ _ _ ⟨qa2, qb2, ca2, cb2, x2, y2, hxq2, hyq2, rfl, rfl⟩; refine ⟨okF, ?_⟩)
   repeat (refine aK ?_)
   refine aL (n - (i + 1)) _ _ _ (by first | omega | (simp only [List.length_append, List.length_cons, List.length_nil]; omega)) aP aD aC (⟨i + 1, rows ++ [x1] ++ [x2], bs ++ [y1] ++ [y2], qa2, qb2, ca2, cb2, by omega, rfl, by rw [ht, aBC, ← hrq, List.map_append, List.map_append, List.append_assoc]; show _ ++ [x1.q, x2.q] = _; rw [hxq1, hxq2]; rfl, by rw [ht, aCG, ← hbq]; show (bs ++ [y1] ++ [y2]).map RE.q = _; rw [List.map_append, List.map_append, List.append_assoc]; show _ ++ [y1.q, y2.q] = _; rw [hyq1, hyq2]; rfl, rfl, rfl, rfl⟩)
 ·obtain rfl : i = n := by omega
  rw [← hl, List.take_length] at hrq hbq
  repeat (refine aK ?_)
  (repeat refine aG ?_); refine uU 1 (.blk pb [.slice qb bs.length cb] 53 :: M0) (I0) [0, 1, 2, 3] [0, 1, 0, 0] aD aC mixed (by kernel_rfl) ?_
  repeat (refine aK ?_)
  refine aJC (k := 16) aB ?_
  refine aIP (k := 16) aB ?_
  refine fO (rs := [.cell 4 34, .cell 5 53]) (vs := [mv ⟨qa, ca, rows⟩, lv ⟨qb, cb, bs⟩]) (.inl rfl) rfl (.cell inferInstance rfl aB (.cell inferInstance rfl aB .nil)) rfl M0 (iZ ⟨qb, cb, bs⟩ 16 :: jF ⟨qa, ca, rows⟩ 16 :: I0) aD aC ⟨rfl, ⟨qa, ca, rows⟩, ⟨qb, cb, bs⟩, rfl, hrq, hbq, rfl⟩
end
end Go.Proofs.YtjbhdfpjnjedhaaGreat

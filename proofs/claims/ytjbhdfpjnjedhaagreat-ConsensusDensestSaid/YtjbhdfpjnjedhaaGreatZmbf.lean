/- Vectors of space in memory; products of lists. consensus: whole, over, rows, formed. Chapter 29, plain: least squares. Chapter 29, plain: the equations of pairs, and by how much a map of a kind's form misses them. matrix: column, Solve, Refute. The document's Echelon, Rank. Controlled observations, plain: Fredholm's alternative, rows left out, the rank of the transposed matrix, weights, certificates. Chapter 29, plain: the law's way to solve the equations gives the same maps. consensus: design (its closure add), regular, formed. -/
import Derived.Test.YtjbhdfpjnjedhaaGreatZmbe
import Derived.Test.YtjbhdfpjnjedhaaGreatZmaz
import Derived.Test.YtjbhdfpjnjedhaaGreatZmar
import Derived.Test.YtjbhdfpjnjedhaaGreatZmam
import Derived.Test.YtjbhdfpjnjedhaaGreatZmbd
import Derived.Test.YtjbhdfpjnjedhaaGreatZmbb
set_option linter.unusedSimpArgs false
set_option linter.unusedVariables false
set_option maxRecDepth 100000
set_option maxHeartbeats 4000000
namespace Go.Proofs.YtjbhdfpjnjedhaaGreat
open Go Go.Fx
structure V3 where
 x : Rat
 y : Rat
 z : Rat
def V3.dot (a b : V3) : Rat := a.x * b.x + a.y * b.y + a.z * b.z
def V3.sub (a b : V3) : V3 := ⟨a.x - b.x, a.y - b.y, a.z - b.z⟩
def V3.along (a : V3) (s : Rat) (b : V3) : V3 := ⟨a.x + s * b.x, a.y + s * b.y, a.z + s * b.z⟩
structure TE where
 x : RE
 y : RE
 z : RE
instance : Inhabited TE := ⟨⟨default, default, default⟩⟩
abbrev eT (p : TE) : List Value := recs eR [p.x, p.y, p.z]
abbrev tv (p : TE) : Value := .agg (recs eR [p.x, p.y, p.z]).toArray
instance : Sized eT 12 := ⟨fun _ => rfl⟩
instance : Ones eT := ⟨fun m u hu => yO _ u hu⟩
def TE.v (p : TE) : V3 := ⟨p.x.q, p.y.q, p.z.q⟩
structure IsT (p : TE) (k : Nat) (X : List Nat) (w : World) : Prop where
 x : IsR p.x k X w
 y : IsR p.y k X w
 z : IsR p.z k X w
abbrev isT (p : TE) (k : Nat) : aX := IsT p k
instance (p : TE) (k : Nat) : Fx.Good (IsT p k) := ⟨fun X Y w w' h he hY => ⟨Fx.Good.go (φ := IsR _ _) X Y w w' h.x he hY, Fx.Good.go (φ := IsR _ _) X Y w w' h.y he hY, Fx.Good.go (φ := IsR _ _) X Y w w' h.z he hY⟩⟩
theorem Hv.mkT {I : List aX} {a b c : RE} {k : Nat} (ha : Hv I (dM a k)) (hb : Hv I (dM b k)) (hc : Hv I (dM c k)) : Hv I (isT ⟨a, b, c⟩ k) := ⟨fun X w hw => ⟨ha.go X w hw, hb.go X w hw, hc.go X w hw⟩⟩
def TE.l (p : TE) (b : Nat) : RL := ⟨some ⟨b, 0, none⟩, 3, [p.x, p.y, p.z]⟩
theorem Hv.tl {I : List aX} {p : TE} {b k : Nat} (h : Hv I (isT p k)) (hs : aQ (some ⟨b, 0, none⟩) (eT p) ∈ I) : Hv I (nE (p.l b) k) := ⟨fun X w hw => ⟨(hw _ hs : SlI _ _ X w).go, fun e he => by
 have h1 := h.go X w hw
 have he : e ∈ [p.x, p.y, p.z] := he
 simp only [List.mem_cons, List.not_mem_nil, or_false] at he
 rcases he with rfl | rfl | rfl
 ·exact h1.x
 ·exact h1.y
 ·exact h1.z, ⟨Nat.le_refl 3, .inl (Ok.mk _ _)⟩⟩⟩
def TQ (q : V3) (k : Nat) (M0 : List Ent) (I0 : List aX) (v : Value) (M : List Ent) (I : List aX) : Prop := M0 = M ∧ ∃ p : TE, v = tv p ∧ p.v = q ∧ I = isT p k :: I0
section
variable {X : List Nat} {w0 : World} {M0 : List Ent} {I0 : List aX}
end
end Go.Proofs.YtjbhdfpjnjedhaaGreat
namespace Go.Proofs.YtjbhdfpjnjedhaaGreat
open Go Go.Fx
theorem Hv.r3 {I : List aX} {a b c : RE} {k : Nat} (ha : Hv I (dM a k)) (hb : Hv I (dM b k)) (hc : Hv I (dM c k)) : Hv I (dP [a, b, c] k) := ⟨fun X w hw => ⟨fun x hx => by
 simp only [List.mem_cons, List.not_mem_nil, or_false] at hx
 rcases hx with rfl | rfl | rfl
 ·exact ha.go X w hw
 ·exact hb.go X w hw
 ·exact hc.go X w hw⟩⟩
theorem Hv.l3q {I : List aX} {a b c : RL} {k : Nat} (ha : Hv I (nE a k)) (hb : Hv I (nE b k)) (hc : Hv I (nE c k)) : Hv I (lM [a, b, c] k) := ⟨fun X w hw => ⟨fun x hx => by
 simp only [List.mem_cons, List.not_mem_nil, or_false] at hx
 rcases hx with rfl | rfl | rfl
 ·exact ha.go X w hw
 ·exact hb.go X w hw
 ·exact hc.go X w hw⟩⟩
section
variable {X : List Nat} {w0 : World} {M0 M1 : List Ent} {I0 : List aX}
theorem jI {x : Int} (hx : -9223372036854775808 ≤ x ∧ x ≤ 9223372036854775807) {k : Nat} (hk : x.natAbs ≤ 2 ^ k) : CD Tryz.prog 91 [.int .i64 x] X w0 M0 I0 (RQ (x : Rat) k M0 I0) := by
 refine bA Tryz.func91 rfl Tryz.ntmps91 rfl ?_
 refine aG ?_
 refine aH ?_
 (refine aI rfl rfl ?_; intro b2; refine ⟨okF, ?_⟩)
 repeat (refine aL ?_)
 (refine aA rfl (qW hx hk) rfl rfl ?_; rintro _ _ _ ⟨rfl, e, rfl, he, rfl⟩; refine ⟨okF, ?_⟩)
 repeat (refine aL ?_)
 refine bC (cs := eR e) (.inl rfl) rfl rfl aB rfl M0 (dM e k :: I0) aF aD ⟨rfl, e, rfl, he, rfl⟩
theorem aPQ {a b : RE} {k m : Nat} (hk : k + m ≤ 500000000000) (hb0 : b.q ≠ 0) (ha : Hv I0 (dM a k)) (hb : Hv I0 (dM b m)) :
  CD Tryz.prog 120 [rv a, rv b] X w0 M0 I0 (RQ (a.q / b.q) (k + m) M0 I0) := by
 refine bB Tryz.func120 rfl Tryz.ntmps120 rfl ?_
 refine aG ?_
 refine aH ?_
 (refine aR rfl rfl rfl ?_; intro b2; refine ⟨okF, ?_⟩)
 (refine aR rfl rfl rfl ?_; intro b3; refine ⟨okF, ?_⟩)
 (refine aI rfl rfl ?_; intro b4; refine ⟨okF, ?_⟩)
 repeat (refine aL ?_)
 (refine aA rfl (yZ (k := k) (m := m) hk hb0 ha hb) rfl rfl ?_; rintro _ _ _ ⟨rfl, e, rfl, he, rfl⟩; refine ⟨okF, ?_⟩)
 repeat (refine aL ?_)
 (refine aI rfl rfl ?_; intro b5; refine ⟨okF, ?_⟩)
 repeat (refine aL ?_)
 refine bC (cs := eR e) (.inl rfl) rfl rfl aB rfl M0 (dM e (k + m) :: I0) aF aD ⟨rfl, e, rfl, he, rfl⟩
theorem zS {a b : TE} {k : Nat} (ha : Hv I0 (isT a k)) (hb : Hv I0 (isT b k)) :
  CD Tryz.prog 182 [tv a, tv b] X w0 M0 I0 (XQ [[a.x.q, a.y.q, a.z.q], [b.x.q, b.y.q, b.z.q], [0, 0, 1]] 3 3 k M0 I0) := by
 have hW0 := fun M0 I0 => jI (X := X) (w0 := w0) (M0 := M0) (I0 := I0) (x := 0) (by decide) (k := 0) (by decide)
 have hW1 := fun M0 I0 => jI (X := X) (w0 := w0) (M0 := M0) (I0 := I0) (x := 1) (by decide) (k := 0) (by decide)
 refine dW (φ := isT a k) ha (dW (φ := isT b k) hb.cons ?_)
 refine bB Tryz.func182 rfl Tryz.ntmps182 rfl ?_
 refine aG ?_
 refine aH ?_
 (refine aR rfl rfl rfl ?_; intro b2; refine ⟨okF, ?_⟩)
 refine aZ .here ?_
 (refine aR rfl rfl rfl ?_; intro b3; refine ⟨okF, ?_⟩)
 refine aZ .here ?_
 repeat (refine aL ?_)
 refine mO (φ := nE (a.l b2) k) (Hv.tl (Hv.mem (φ := isT a k) aB) aB) ?_
 refine mO (φ := nE (b.l b3) k) (Hv.tl (Hv.mem (φ := isT b k) aB) aB) ?_
 (repeat refine aG ?_); refine dI (M0) (nE (b.l b3) k :: nE (a.l b2) k :: I0) [0, 1, 2, 3, 4, 5, 6, 7] [4, 4, 0, 0, 0, 0, 0, 0] aF aD mixed (by kernel_rfl) ?_
 (refine aC rfl (fun _ => nZ rfl) rfl rfl ?_)
 (refine aC rfl (fun _ => nZ rfl) rfl rfl ?_)
 (refine aA rfl (hW0 _ _) rfl rfl ?_; rintro _ _ _ ⟨rfl, e0, rfl, he0, rfl⟩; refine ⟨okF, ?_⟩)
 (refine aA rfl (hW0 _ _) rfl rfl ?_; rintro _ _ _ ⟨rfl, e1, rfl, he1, rfl⟩; refine ⟨okF, ?_⟩)
 (refine aA rfl (hW1 _ _) rfl rfl ?_; rintro _ _ _ ⟨rfl, e2, rfl, he2, rfl⟩; refine ⟨okF, ?_⟩)
 (refine bL (cs := recs eR [e0, e1, e2]) ([rv e0, rv e1, rv e2]) rfl rfl (by intro v hv; repeat (first | exact absurd hv (List.not_mem_nil) | (rcases List.mem_cons.1 hv with rfl | hv; · rfl))) (by omega) rfl rfl rfl ?_; intro b5; refine ⟨okF, ?_⟩)
 refine jP (φ := dP [e0, e1, e2] k) (Hv.r3 (Hv.q (k := 0) aB (Nat.zero_le _)) (Hv.q (k := 0) aB (Nat.zero_le _)) (Hv.q (k := 0) aB (Nat.zero_le _))) ?_
 refine nV (mm := 3) 4 .here rfl (by omega) ?_
 refine aTK (es := [e0, e1, e2]) (k := k) aB ?_
 (refine bL (cs := recs eL [a.l b2, b.l b3, ⟨some ⟨b5, 0, none⟩, 3, [e0, e1, e2]⟩]) ([lv (a.l b2), lv (b.l b3), lv ⟨some ⟨b5, 0, none⟩, 3, [e0, e1, e2]⟩]) rfl rfl (by intro v hv; repeat (first | exact absurd hv (List.not_mem_nil) | (rcases List.mem_cons.1 hv with rfl | hv; · rfl))) (by omega) rfl rfl rfl ?_; intro b6; refine ⟨okF, ?_⟩)
 refine jP (φ := lM [a.l b2, b.l b3, ⟨some ⟨b5, 0, none⟩, 3, [e0, e1, e2]⟩] k) (Hv.l3q (Hv.mem aB) (Hv.mem aB) (Hv.mem aB)) ?_
 refine nV (mm := 3) 1 .here rfl (by omega) ?_
 refine aSQ (rows := [a.l b2, b.l b3, ⟨some ⟨b5, 0, none⟩, 3, [e0, e1, e2]⟩]) (k := k) aB ?_
 repeat (refine aL ?_)
 refine iV (M' := M0) (I' := lN ⟨some ⟨b6, 0, none⟩, 3, [a.l b2, b.l b3, ⟨some ⟨b5, 0, none⟩, 3, [e0, e1, e2]⟩]⟩ k :: I0) aF aD ?_
 refine aJ (by first | exact .inl rfl | exact .inr rfl) rfl rfl _ _ aF aD (⟨rfl, ⟨some ⟨b6, 0, none⟩, 3, [a.l b2, b.l b3, ⟨some ⟨b5, 0, none⟩, 3, [e0, e1, e2]⟩]⟩, rfl, by show [_, _, [e0.q, e1.q, e2.q]] = _; rw [he0, he1, he2]; rfl, ⟨rfl, fun r hr => by
  simp only [List.mem_cons, List.not_mem_nil, or_false] at hr
  rcases hr with rfl | rfl | rfl <;> rfl⟩, rfl⟩)
end
end Go.Proofs.YtjbhdfpjnjedhaaGreat
namespace Go.Proofs.YtjbhdfpjnjedhaaGreat
open Go Go.Fx
def sqS (R C : Nat) (A : Mt) (b : List Rat) (x : Nat → Rat) : Rat := sm R (fun t => (sm C (fun j => at2 A t j * x j) - b.getD t 0) * (sm C (fun j => at2 A t j * x j) - b.getD t 0))
end Go.Proofs.YtjbhdfpjnjedhaaGreat
namespace Go.Proofs.YtjbhdfpjnjedhaaGreat
open Go Go.Fx
theorem gtQ {α : Type} [Inhabited α] {l : List α} {i : Nat} (h : i < l.length) : gt l (i : Int) = l[i] := by simp [gt, List.getD, h]
theorem aJA {k : Nat} {l : List Q4} : (dsA k l).length = 2 * l.length := by
 unfold dsA
 induction l with
 | nil => rfl
 | cons s r ih => rw [List.flatMap_cons, List.length_append, ih]; simp; omega
theorem aCQ {k : Nat} : ∀ {l : List Q4} {i : Nat}, i < l.length → rowAt (dsA k l) (2 * i) = cz (dr1 k (gt l (i : Int))) ∧ rowAt (dsA k l) (2 * i + 1) = cz (dr2 k (gt l (i : Int)))
 | s :: r, 0, _ => ⟨rfl, rfl⟩
 | s :: r, i + 1, h => by
  have ih := aCQ (k := k) (l := r) (i := i) (by simpa using h)
  have e1 : gt (s :: r) ((i + 1 : Nat) : Int) = gt r (i : Int) := by rw [gtQ h, gtQ (by simpa using h)]; rfl
  rw [e1, ← ih.1, ← ih.2]
  have e2 : dsA k (s :: r) = cz (dr1 k s) :: cz (dr2 k s) :: dsA k r := rfl
  have e3 : 2 * (i + 1) = 2 * i + 1 + 1 := by omega
  rw [e2, e3]
  exact ⟨rfl, rfl⟩
theorem aPL {k : Nat} {s : Q4} : (dr1 k s).length = nco k ∧ (dr2 k s).length = nco k := by
 unfold dr1 dr2 nco
 split
 ·exact ⟨rfl, rfl⟩
 ·split <;> exact ⟨rfl, rfl⟩
theorem aMY {l : List Int} : (cz l).length = l.length := by simp [cz]
theorem aQV {k : Nat} {l : List Q4} : vZ (dsA k l) (2 * l.length) (nco k) := ⟨aJA, fun i hi => by
 obtain ⟨t, h | h⟩ : ∃ t, i = 2 * t ∨ i = 2 * t + 1 := ⟨i / 2, by omega⟩
 ·rw [h, (aCQ (by omega)).1, aMY, aPL.1]
 ·rw [h, (aCQ (by omega)).2, aMY, aPL.2]⟩
theorem aIW {k : Nat} {l : List Q4} : (dsB k l).length = 2 * l.length := by
 unfold dsB
 induction l with
 | nil => rfl
 | cons s r ih => rw [List.flatMap_cons, List.length_append, ih]; simp; omega
def totQ (m : Mt) (l : List Q4) : Rat := sm l.length (fun t => aKA m (gt l (t : Int)))
end Go.Proofs.YtjbhdfpjnjedhaaGreat
namespace Go.Proofs.YtjbhdfpjnjedhaaGreat
open Go Go.Fx
def bes1 (R C : Nat) (A : Mt) (b : List Rat) : Mt := mkM R (C + 1) (fun i j => if j < C then at2 A i j else b.getD i 0)
def besU (R C : Nat) (A : Mt) (b : List Rat) : Mt := mkM R (C + 1 + R) (fun i j => if j < C then at2 A i j else if j = C then b.getD i 0 else xQ i (j - (C + 1)))
def solB (R C : Nat) (f : Nat → Nat → Rat) (pv : List Nat) : Prop := ∀ i ∈ List.range R, pv.length ≤ i → f i C = 0
instance (R C : Nat) (f : Nat → Nat → Rat) (pv : List Nat) : Decidable (solB R C f pv) := by unfold solB; exact inferInstance
def solP (R C : Nat) (A : Mt) (b : List Rat) : Prop := solB R C (at2 (pJ (bes1 R C A b) C).1) (pJ (bes1 R C A b) C).2
instance (R C : Nat) (A : Mt) (b : List Rat) : Decidable (solP R C A b) := by unfold solP; exact inferInstance
def solL (R C : Nat) (A : Mt) (b : List Rat) : List Rat := (List.range C).map (solF (at2 (pJ (bes1 R C A b) C).1) (pJ (bes1 R C A b) C).2 C)
/- the wider matrix tells the same -/
section
variable {X : List Nat} {w0 : World} {M0 : List Ent} {I0 : List aX}
end
end Go.Proofs.YtjbhdfpjnjedhaaGreat
namespace Go.Proofs.YtjbhdfpjnjedhaaGreat
open Go Go.Fx
def rEchO (A : Mt) (R C k : Nat) (M0 : List Ent) (I0 : List aX) (v : Value) (M : List Ent) (I : List aX) : Prop :=
 ∃ (bo co : Nat) (tlo : List Value) (rows : List MS) (E : Mt) (pv : List Nat) (q : Option Addr) (c : Nat), v = .tuple #[.slice (some ⟨bo, 0, none⟩) R co, .slice q pv.length c] ∧ R ≤ co ∧ Shp rows R C ∧ pJ A C = (E, pv) ∧ Pw rows R C (at2 E) ∧
  M = .row q pv.length c (recs eZ (zs pv)) 3 1 :: .blk bo (recs eS rows ++ tlo) 53 :: (rows.map entS ++ M0) ∧ I = allS rows k :: I0
def rEchP (A : Mt) (R C k : Nat) (M0 : List Ent) (I0 : List aX) (v : Value) (M : List Ent) (I : List aX) : Prop :=
 M0 = M ∧ ∃ (m : MX) (pv : List Nat) (q : Option Addr) (c : Nat), v = .tuple #[mv m, .slice q pv.length c] ∧ pJ A C = (m.q, pv) ∧ m.dim R C ∧ I = pvI q pv :: lN m k :: I0
section
variable {X : List Nat} {w0 : World} {M0 : List Ent} {I0 : List aX}
end
end Go.Proofs.YtjbhdfpjnjedhaaGreat
namespace Go.Proofs.YtjbhdfpjnjedhaaGreat
open Go Go.Fx
def unL (n i : Nat) : List Rat := (List.range n).map (xQ i)
def rw1 (A : Mt) (C i : Nat) (z : Nat → Rat) : Rat := sm C (fun j => at2 A i j * z j)
def ctl (R C : Nat) (A : Mt) (i : Nat) : Prop := ¬ solP R C A (unL R i)
instance (R C : Nat) (A : Mt) (i : Nat) : Decidable (ctl R C A i) := by unfold ctl; exact inferInstance
/- rows left out -/
def rowsM (A : Mt) (ix : List Nat) : Mt := ix.map (rowAt A)
def restI (R : Nat) (set : List Int) : List Nat := (List.range R).filter (fun i => decide ((i : Int) ∉ set))
def und (R C : Nat) (A : Mt) (set : List Int) : Prop := rk (rowsM A (restI R set)) C < rk A C
instance (R C : Nat) (A : Mt) (set : List Int) : Decidable (und R C A set) := by unfold und; exact inferInstance
/- the transposed matrix -/
def trM (R C : Nat) (A : Mt) : Mt := mkM C R (fun i j => at2 A j i)
/- certificates -/
/- weights: the normal matrix has the kernel of the design matrix -/
def nrmM (R C : Nat) (A : Mt) (p : Nat → Rat) : Mt := mkM C C (fun i j => sm R (fun k => p k * at2 A k i * at2 A k j))
/- the document's inverse: the pivots of the matrix with the unit matrix beside -/
end Go.Proofs.YtjbhdfpjnjedhaaGreat
namespace Go.Proofs.YtjbhdfpjnjedhaaGreat
open Go Go.Fx
end Go.Proofs.YtjbhdfpjnjedhaaGreat
namespace Go.Proofs.YtjbhdfpjnjedhaaGreat
open Go Go.Fx
section
variable {X : List Nat} {w0 : World} {M0 M1 : List Ent} {I0 : List aX}
theorem aRM (l : List Int) (x : Int) : cz (l ++ [x]) = cz l ++ [(x : Rat)] := by simp [cz]
theorem tC {r : Int} {q : Option Addr} {xs : List Int} {n c pa pb : Nat} {qa qb : Option Addr} {ca cb u : Nat} {rows : List RL} {bs : List RE} (hl : xs.length = n) (hn : n ≤ 100) (hlr : rows.length ≤ 1000 ∧ bs.length ≤ 1000)
  (hb : ∀ x ∈ xs, (-9223372036854775808 ≤ x ∧ x ≤ 9223372036854775807) ∧ x.natAbs ≤ 2 ^ u) (hr : (-9223372036854775808 ≤ r ∧ r ≤ 9223372036854775807) ∧ r.natAbs ≤ 2 ^ u) (hq : aQ q (recs eZ xs) ∈ I0) (ha : lM rows u ∈ I0) (hbb : dP bs u ∈ I0) :
  CD Tryz.prog 173 [.int .i64 r, .slice q n c, .pointer (some ⟨pa, 0, none⟩), .pointer (some ⟨pb, 0, none⟩)] X w0
   (.row qa rows.length ca (recs eL rows) 53 1 :: .row qb bs.length cb (recs eR bs) 50 4 :: .blk pb [.slice qb bs.length cb] 53 :: .blk pa [.slice qa rows.length ca] 34 :: M1) I0
   (fun _ M I => ∃ (qa' qb' : Option Addr) (ca' cb' : Nat) (x : RL) (e : RE), x.q = cz xs ∧ e.q = (r : Rat) ∧
    M = .row qa' (rows ++ [x]).length ca' (recs eL (rows ++ [x])) 53 1 :: .row qb' (bs ++ [e]).length cb' (recs eR (bs ++ [e])) 50 4 :: .blk pb [.slice qb' (bs ++ [e]).length cb'] 53 :: .blk pa [.slice qa' (rows ++ [x]).length ca'] 34 :: M1 ∧ I = lM (rows ++ [x]) u :: dP (bs ++ [e]) u :: I0) := by
 refine dW (φ := aQ q (recs eZ xs)) (Hv.mem hq) (dW (φ := lM rows u) (Hv.mem (List.mem_cons_of_mem _ ha)) (dW (φ := dP bs u) (Hv.mem (List.mem_cons_of_mem _ (List.mem_cons_of_mem _ hbb))) ?_))
 have hWr := fun M0 I0 => jI (X := X) (w0 := w0) (M0 := M0) (I0 := I0) (x := r) hr.1 (k := u) hr.2
 refine tQ Tryz.func173 rfl Tryz.ntmps173 rfl ?_
 repeat (refine aL ?_)
 refine nQ 50 4 ?_
 refine mO (φ := dP [] u) Hv.nilR ?_
 refine aW [0, 2, 3, 9, 10] rfl (fun k G M I => ∃ (i : Nat) (es : List RE) (qe : Option Addr) (ce : Nat), i ≤ n ∧ k = n - i ∧ es.length = i ∧ qs es = cz (xs.take i) ∧ G = [(6, .slice qe es.length ce), (11, .int .i64 i)] ∧ M = .row qe es.length ce (recs eR es) 50 4 :: .row qa rows.length ca (recs eL rows) 53 1 :: .row qb bs.length cb (recs eR bs) 50 4 :: .blk pb [.slice qb bs.length cb] 53 :: .blk pa [.slice qa rows.length ca] 34 :: M1 ∧ I = dP es u :: dP bs u :: lM rows u :: aQ q (recs eZ xs) :: I0) (n) _ _ _ aS aF aD (⟨0, [], none, 0, by omega, rfl, rfl, rfl, rfl, rfl, rfl⟩) ?_
 rintro kk G M I ⟨i, es, qe, ce, hi, rfl, hel, heq, rfl, rfl, rfl⟩
 by_cases hin : i < n
 ·have hx := hb _ (dX (ms := xs) (i := (i : Int)) (by omega))
  obtain ⟨x, hxx⟩ : ∃ x, gt xs (i : Int) = x := ⟨_, rfl⟩
  rw [hxx] at hx
  have hW := fun M0 I0 => jI (X := X) (w0 := w0) (M0 := M0) (I0 := I0) (x := x) hx.1 (k := u) hx.2
  have ht : xs.take (i + 1) = xs.take i ++ [x] := by rw [← hxx, gQ (by omega)]; exact (List.take_append_getElem (by omega)).symm
  repeat (refine aL ?_)
  rw [hxx]
  (refine aA rfl (hW _ _) rfl rfl ?_; rintro _ _ _ ⟨rfl, e, rfl, he, rfl⟩; refine ⟨okF, ?_⟩)
  (refine bL (cs := recs eR [e]) ([rv e]) rfl rfl (by intro v hv; repeat (first | exact absurd hv (List.not_mem_nil) | (rcases List.mem_cons.1 hv with rfl | hv; · rfl))) (by omega) rfl rfl rfl ?_; intro b; refine ⟨okF, ?_⟩)
  (refine eF (ys := [e]) 1 rfl rfl rfl ?_ (by decide) rfl (by omega) (by omega) rfl rfl ?_; (· first | exact Src.blk aB | exact Src.row aB | exact Src.imm aB (by first | assumption | exact .inl (Ok.mk _ _))); intro q2 c3; refine ⟨okF, ?_⟩)
  repeat (refine aL ?_)
  refine jR (φ := dP (es ++ [e]) u) (Hv.snoc aB aB) ?_
  refine aK (n - (i + 1)) _ _ _ (by first | omega | (simp only [List.length_append, List.length_cons, List.length_nil]; omega)) aS aF aD (⟨i + 1, es ++ [e], q2, c3, by omega, rfl, by simp [hel], ?_, rfl, rfl, rfl⟩)
  rw [ht, aRM, ← heq]
  show (es ++ [e]).map RE.q = qs es ++ [(x : Rat)]
  rw [List.map_append, ← he]
  rfl
 ·obtain rfl : i = n := by omega
  rw [← hl, List.take_length] at heq
  repeat (refine aL ?_)
  refine aTF (k := u) aB ?_
  (repeat refine aG ?_); refine sU 5 (.blk pb [.slice qb bs.length cb] 53 :: .blk pa [.slice qa rows.length ca] 34 :: M1) (nE ⟨qe, ce, es⟩ u :: dP bs u :: lM rows u :: aQ q (recs eZ xs) :: I0) [0, 1, 4, 5, 2, 3, 6, 7, 8, 9, 10] [4, 4, 5, 5, 0, 0, 0, 0, 0, 0, 0] aF aD mixed (by kernel_rfl) ?_
  repeat (refine aL ?_)
  (refine bL (cs := recs eL [⟨qe, ce, es⟩]) ([lv ⟨qe, ce, es⟩]) rfl rfl (by intro v hv; repeat (first | exact absurd hv (List.not_mem_nil) | (rcases List.mem_cons.1 hv with rfl | hv; · rfl))) (by omega) rfl rfl rfl ?_; intro b7; refine ⟨okF, ?_⟩)
  (refine eF (ys := [⟨qe, ce, es⟩]) 1 rfl rfl rfl ?_ (by decide) rfl (by omega) (by omega) rfl rfl ?_; (· first | exact Src.blk aB | exact Src.row aB | exact Src.imm aB (by first | assumption | exact .inl (Ok.mk _ _))); intro qa2 ca2; refine ⟨okF, ?_⟩)
  (refine aA rfl (hWr _ _) rfl rfl ?_; rintro _ _ _ ⟨rfl, e, rfl, he, rfl⟩; refine ⟨okF, ?_⟩)
  (refine bL (cs := recs eR [e]) ([rv e]) rfl rfl (by intro v hv; repeat (first | exact absurd hv (List.not_mem_nil) | (rcases List.mem_cons.1 hv with rfl | hv; · rfl))) (by omega) rfl rfl rfl ?_; intro b8; refine ⟨okF, ?_⟩)
  (refine eF (ys := [e]) 3 rfl rfl rfl ?_ (by decide) rfl (by omega) (by omega) rfl rfl ?_; (· first | exact Src.blk aB | exact Src.row aB | exact Src.imm aB (by first | assumption | exact .inl (Ok.mk _ _))); intro qb2 cb2; refine ⟨okF, ?_⟩)
  repeat (refine aL ?_)
  refine jR (φ := dP (bs ++ [e]) u) (Hv.snoc aB aB) ?_
  refine jR (φ := lM (rows ++ [(⟨qe, ce, es⟩ : RL)]) u) (Hv.snocL aB aB) ?_
  refine lW (by first | exact .inl rfl | exact .inr rfl) rfl _ _ aF aD (⟨qa2, qb2, ca2, cb2, ⟨qe, ce, es⟩, e, heq, he, rfl, rfl⟩)
theorem aAH {k : Nat} {l : List Q4} {s : Q4} : dsA k (l ++ [s]) = dsA k l ++ [cz (dr1 k s), cz (dr2 k s)] := by simp [dsA]
theorem yM {k : Nat} {l : List Q4} {s : Q4} : dsB k (l ++ [s]) = dsB k l ++ [(db1 k s : Rat), (db2 k s : Rat)] := by simp [dsB]
theorem e16 : 2 ^ 16 = 65536 := rfl
theorem aJS {kd : Nat} {q : Option Addr} {l : List Q4} {n c : Nat} (hk : kd ≤ 2) (hl : l.length = n) (hn : n ≤ 64) (hs : ∀ s ∈ l, s.near) (hq : aQ q (recs jZ l) ∈ I0) :
  CD Tryz.prog 131 [.int .i64 (kd : Int), .slice q n c] X w0 M0 I0 (fun v M I => M0 = M ∧ ∃ (A : MX) (b : RL), v = .tuple #[mv A, lv b] ∧ A.q = dsA kd l ∧ b.q = dsB kd l ∧ I = nE b 16 :: lN A 16 :: I0) := by
 refine dW (φ := aQ q (recs jZ l)) (Hv.mem hq) ?_
 refine bB Tryz.func131 rfl Tryz.ntmps131 rfl ?_
 refine aG ?_
 refine aH ?_
 (refine aI rfl rfl ?_; intro pa; refine ⟨okF, ?_⟩)
 (refine aI rfl rfl ?_; intro pb; refine ⟨okF, ?_⟩)
 repeat (refine aL ?_)
 refine nQ 50 4 ?_
 refine nQ 53 1 ?_
 refine mO (φ := dP [] 16) Hv.nilR ?_
 refine mO (φ := lM [] 16) Hv.nilL ?_
 refine aW [0, 4, 5, 6, 14, 15] rfl (fun k G M I => ∃ (i : Nat) (rows : List RL) (bs : List RE) (qa qb : Option Addr) (ca cb : Nat), i ≤ n ∧ k = n - i ∧ rows.map RL.q = dsA kd (l.take i) ∧ qs bs = dsB kd (l.take i) ∧ G = [(16, .int .i64 i)] ∧ M = .row qa rows.length ca (recs eL rows) 53 1 :: .row qb bs.length cb (recs eR bs) 50 4 :: .blk pb [.slice qb bs.length cb] 53 :: .blk pa [.slice qa rows.length ca] 34 :: M0 ∧ I = lM rows 16 :: dP bs 16 :: aQ q (recs jZ l) :: I0) (n) _ _ _ aS aF aD (⟨0, [], [], none, none, 0, 0, by omega, rfl, rfl, rfl, rfl, rfl, rfl⟩) ?_
 rintro kk G M I ⟨i, rows, bs, qa, qb, ca, cb, hi, rfl, hrq, hbq, rfl, rfl, rfl⟩
 have hlr : rows.length = 2 * i := by have := congrArg List.length hrq; rw [List.length_map, aJA, List.length_take] at this; omega
 have hlb : bs.length = 2 * i := by have := congrArg List.length hbq; rw [show (qs bs).length = bs.length from List.length_map .., aIW, List.length_take] at this; omega
 by_cases hin : i < n
 ·have hmem := dX (ms := l) (i := (i : Int)) (by omega)
  have ht : l.take (i + 1) = l.take i ++ [gt l (i : Int)] := by rw [gtQ (by omega)]; exact (List.take_append_getElem (by omega)).symm
  obtain ⟨s, hss⟩ : ∃ s, gt l (i : Int) = s := ⟨_, rfl⟩
  rw [hss] at hmem ht
  obtain ⟨n1, n2, n3, n4⟩ := hs s hmem
  repeat (refine aL ?_)
  rw [hss]
  (refine aI rfl rfl ?_; intro b8; refine ⟨okF, ?_⟩)
  repeat (refine aL ?_)
  (repeat refine aG ?_); refine eO [0, 1, 2, 3, 4, 5, 6, 7, 8, 9, 10, 11, 12, 13, 14, 15] [0, 0, 0, 0, 0, 0, 0, 0, 0, 0, 0, 0, 0, 0, 0, 0] mixed (by kernel_rfl) ?_
  repeat (refine aL ?_)
  rcases (show kd = 0 ∨ kd = 1 ∨ kd = 2 by omega) with h0 | h0 | h0
  ·obtain rfl : kd = 0 := by omega
   have hr1 : (-9223372036854775808 ≤ s.u - s.x ∧ s.u - s.x ≤ 9223372036854775807) ∧ (s.u - s.x).natAbs ≤ 2 ^ 16 := by rw [e16]; omega
   have hr2 : (-9223372036854775808 ≤ s.v - s.y ∧ s.v - s.y ≤ 9223372036854775807) ∧ (s.v - s.y).natAbs ≤ 2 ^ 16 := by rw [e16]; omega
   have hx1 : ∀ z ∈ [1, 0], (-9223372036854775808 ≤ z ∧ z ≤ 9223372036854775807) ∧ z.natAbs ≤ 2 ^ 16 := by rw [e16]; intro z hz; simp only [List.mem_cons, List.not_mem_nil, or_false] at hz; omega
   have hx2 : ∀ z ∈ [0, 1], (-9223372036854775808 ≤ z ∧ z ≤ 9223372036854775807) ∧ z.natAbs ≤ 2 ^ 16 := by rw [e16]; intro z hz; simp only [List.mem_cons, List.not_mem_nil, or_false] at hz; omega
   repeat (refine aL ?_)
   (refine bL (cs := recs eZ [1, 0]) ([.int .i64 (1), .int .i64 (0)]) rfl rfl (by intro v hv; repeat (first | exact absurd hv (List.not_mem_nil) | (rcases List.mem_cons.1 hv with rfl | hv; · rfl))) (by omega) rfl rfl rfl ?_; intro b9; refine ⟨okF, ?_⟩)
   refine aZ .here ?_
   refine uD (M' := .row qa rows.length ca (recs eL rows) 53 1 :: .row qb bs.length cb (recs eR bs) 50 4 :: .blk pb [.slice qb bs.length cb] 53 :: .blk pa [.slice qa rows.length ca] 34 :: M0) (I' := aQ (some ⟨b9, 0, none⟩) (recs eZ [1, 0]) :: lM rows 16 :: dP bs 16 :: aQ q (recs jZ l) :: I0) aF aD ?_
   (refine eU rfl rfl (tC (u := 16) (q := some ⟨b9, 0, none⟩) (xs := [1, 0]) (n := 2) (c := 2) (rows := rows) (bs := bs) (r := s.u - s.x) rfl (by omega) ⟨by omega, by omega⟩ hx1 hr1 aB aB aB) rfl rfl rfl ?_; rintro _ _ _ ⟨qa1, qb1, ca1, cb1, x1, y1, hxq1, hyq1, rfl, rfl⟩; refine ⟨okF, ?_⟩)
   repeat (refine aL ?_)
   (refine bL (cs := recs eZ [0, 1]) ([.int .i64 (0), .int .i64 (1)]) rfl rfl (by intro v hv; repeat (first | exact absurd hv (List.not_mem_nil) | (rcases List.mem_cons.1 hv with rfl | hv; · rfl))) (by omega) rfl rfl rfl ?_; intro b10; refine ⟨okF, ?_⟩)
   refine aZ .here ?_
   refine uD (M' := .row qa1 (rows ++ [x1]).length ca1 (recs eL (rows ++ [x1])) 53 1 :: .row qb1 (bs ++ [y1]).length cb1 (recs eR (bs ++ [y1])) 50 4 :: .blk pb [.slice qb1 (bs ++ [y1]).length cb1] 53 :: .blk pa [.slice qa1 (rows ++ [x1]).length ca1] 34 :: M0) (I' := aQ (some ⟨b10, 0, none⟩) (recs eZ [0, 1]) :: lM (rows ++ [x1]) 16 :: dP (bs ++ [y1]) 16 :: aQ q (recs jZ l) :: I0) aF aD ?_
   (refine eU rfl rfl (tC (u := 16) (q := some ⟨b10, 0, none⟩) (xs := [0, 1]) (n := 2) (c := 2) (rows := rows ++ [x1]) (bs := bs ++ [y1]) (r := s.v - s.y) rfl (by omega) ⟨by simp; omega, by simp; omega⟩ hx2 hr2 aB aB aB) rfl rfl rfl ?_; rintro _ _ _ ⟨qa2, qb2, ca2, cb2, x2, y2, hxq2, hyq2, rfl, rfl⟩; refine ⟨okF, ?_⟩)
   repeat (refine aL ?_)
   refine aK (n - (i + 1)) _ _ _ (by first | omega | (simp only [List.length_append, List.length_cons, List.length_nil]; omega)) aS aF aD (⟨i + 1, rows ++ [x1] ++ [x2], bs ++ [y1] ++ [y2], qa2, qb2, ca2, cb2, by omega, rfl, by rw [ht, aAH, ← hrq, List.map_append, List.map_append, List.append_assoc]; show _ ++ [x1.q, x2.q] = _; rw [hxq1, hxq2]; rfl, by rw [ht, yM, ← hbq]; show (bs ++ [y1] ++ [y2]).map RE.q = _; rw [List.map_append, List.map_append, List.append_assoc]; show _ ++ [y1.q, y2.q] = _; rw [hyq1, hyq2]; rfl, rfl, rfl, rfl⟩)
  ·obtain rfl : kd = 1 := by omega
   have hr1 : (-9223372036854775808 ≤ s.u ∧ s.u ≤ 9223372036854775807) ∧ (s.u).natAbs ≤ 2 ^ 16 := by rw [e16]; omega
   have hr2 : (-9223372036854775808 ≤ s.v ∧ s.v ≤ 9223372036854775807) ∧ (s.v).natAbs ≤ 2 ^ 16 := by rw [e16]; omega
   have hx1 : ∀ z ∈ [s.x, -s.y, 1, 0], (-9223372036854775808 ≤ z ∧ z ≤ 9223372036854775807) ∧ z.natAbs ≤ 2 ^ 16 := by rw [e16]; intro z hz; simp only [List.mem_cons, List.not_mem_nil, or_false] at hz; omega
   have hx2 : ∀ z ∈ [s.y, s.x, 0, 1], (-9223372036854775808 ≤ z ∧ z ≤ 9223372036854775807) ∧ z.natAbs ≤ 2 ^ 16 := by rw [e16]; intro z hz; simp only [List.mem_cons, List.not_mem_nil, or_false] at hz; omega
   repeat (refine aL ?_)
   rw [Int.zero_sub]
   (refine bL (cs := recs eZ [s.x, -s.y, 1, 0]) ([.int .i64 (s.x), .int .i64 (-s.y), .int .i64 (1), .int .i64 (0)]) rfl rfl (by intro v hv; repeat (first | exact absurd hv (List.not_mem_nil) | (rcases List.mem_cons.1 hv with rfl | hv; · rfl))) (by omega) rfl rfl rfl ?_; intro b9; refine ⟨okF, ?_⟩)
   refine aZ .here ?_
   refine uD (M' := .row qa rows.length ca (recs eL rows) 53 1 :: .row qb bs.length cb (recs eR bs) 50 4 :: .blk pb [.slice qb bs.length cb] 53 :: .blk pa [.slice qa rows.length ca] 34 :: M0) (I' := aQ (some ⟨b9, 0, none⟩) (recs eZ [s.x, -s.y, 1, 0]) :: lM rows 16 :: dP bs 16 :: aQ q (recs jZ l) :: I0) aF aD ?_
   (refine eU rfl rfl (tC (u := 16) (q := some ⟨b9, 0, none⟩) (xs := [s.x, -s.y, 1, 0]) (n := 4) (c := 4) (rows := rows) (bs := bs) (r := s.u) rfl (by omega) ⟨by omega, by omega⟩ hx1 hr1 aB aB aB) rfl rfl rfl ?_; rintro _ _ _ ⟨qa1, qb1, ca1, cb1, x1, y1, hxq1, hyq1, rfl, rfl⟩; refine ⟨okF, ?_⟩)
   repeat (refine aL ?_)
   (refine bL (cs := recs eZ [s.y, s.x, 0, 1]) ([.int .i64 (s.y), .int .i64 (s.x), .int .i64 (0), .int .i64 (1)]) rfl rfl (by intro v hv; repeat (first | exact absurd hv (List.not_mem_nil) | (rcases List.mem_cons.1 hv with rfl | hv; · rfl))) (by omega) rfl rfl rfl ?_; intro b10; refine ⟨okF, ?_⟩)
   refine aZ .here ?_
   refine uD (M' := .row qa1 (rows ++ [x1]).length ca1 (recs eL (rows ++ [x1])) 53 1 :: .row qb1 (bs ++ [y1]).length cb1 (recs eR (bs ++ [y1])) 50 4 :: .blk pb [.slice qb1 (bs ++ [y1]).length cb1] 53 :: .blk pa [.slice qa1 (rows ++ [x1]).length ca1] 34 :: M0) (I' := aQ (some ⟨b10, 0, none⟩) (recs eZ [s.y, s.x, 0, 1]) :: lM (rows ++ [x1]) 16 :: dP (bs ++ [y1]) 16 :: aQ q (recs jZ l) :: I0) aF aD ?_
   (refine eU rfl rfl (tC (u := 16) (q := some ⟨b10, 0, none⟩) (xs := [s.y, s.x, 0, 1]) (n := 4) (c := 4) (rows := rows ++ [x1]) (bs := bs ++ [y1]) (r := s.v) rfl (by omega) ⟨by simp; omega, by simp; omega⟩ hx2 hr2 aB aB aB) rfl rfl rfl ?_; rintro _ _ _ ⟨qa2, qb2, ca2, cb2, x2, y2, hxq2, hyq2, rfl, rfl⟩; refine ⟨okF, ?_⟩)
   repeat (refine aL ?_)
   refine aK (n - (i + 1)) _ _ _ (by first | omega | (simp only [List.length_append, List.length_cons, List.length_nil]; omega)) aS aF aD (⟨i + 1, rows ++ [x1] ++ [x2], bs ++ [y1] ++ [y2], qa2, qb2, ca2, cb2, by omega, rfl, by rw [ht, aAH, ← hrq, List.map_append, List.map_append, List.append_assoc]; show _ ++ [x1.q, x2.q] = _; rw [hxq1, hxq2]; rfl, by rw [ht, yM, ← hbq]; show (bs ++ [y1] ++ [y2]).map RE.q = _; rw [List.map_append, List.map_append, List.append_assoc]; show _ ++ [y1.q, y2.q] = _; rw [hyq1, hyq2]; rfl, rfl, rfl, rfl⟩)
  ·obtain rfl : kd = 2 := by omega
   have hr1 : (-9223372036854775808 ≤ s.u ∧ s.u ≤ 9223372036854775807) ∧ (s.u).natAbs ≤ 2 ^ 16 := by rw [e16]; omega
   have hr2 : (-9223372036854775808 ≤ s.v ∧ s.v ≤ 9223372036854775807) ∧ (s.v).natAbs ≤ 2 ^ 16 := by rw [e16]; omega
   have hx1 : ∀ z ∈ [s.x, s.y, 1, 0, 0, 0], (-9223372036854775808 ≤ z ∧ z ≤ 9223372036854775807) ∧ z.natAbs ≤ 2 ^ 16 := by rw [e16]; intro z hz; simp only [List.mem_cons, List.not_mem_nil, or_false] at hz; omega
   have hx2 : ∀ z ∈ [0, 0, 0, s.x, s.y, 1], (-9223372036854775808 ≤ z ∧ z ≤ 9223372036854775807) ∧ z.natAbs ≤ 2 ^ 16 := by rw [e16]; intro z hz; simp only [List.mem_cons, List.not_mem_nil, or_false] at hz; omega
   repeat (refine aL ?_)
   (refine bL (cs := recs eZ [s.x, s.y, 1, 0, 0, 0]) ([.int .i64 (s.x), .int .i64 (s.y), .int .i64 (1), .int .i64 (0), .int .i64 (0), .int .i64 (0)]) rfl rfl (by intro v hv; repeat (first | exact absurd hv (List.not_mem_nil) | (rcases List.mem_cons.1 hv with rfl | hv; · rfl))) (by omega) rfl rfl rfl ?_; intro b9; refine ⟨okF, ?_⟩)
   refine aZ .here ?_
   refine uD (M' := .row qa rows.length ca (recs eL rows) 53 1 :: .row qb bs.length cb (recs eR bs) 50 4 :: .blk pb [.slice qb bs.length cb] 53 :: .blk pa [.slice qa rows.length ca] 34 :: M0) (I' := aQ (some ⟨b9, 0, none⟩) (recs eZ [s.x, s.y, 1, 0, 0, 0]) :: lM rows 16 :: dP bs 16 :: aQ q (recs jZ l) :: I0) aF aD ?_
   (refine eU rfl rfl (tC (u := 16) (q := some ⟨b9, 0, none⟩) (xs := [s.x, s.y, 1, 0, 0, 0]) (n := 6) (c := 6) (rows := rows) (bs := bs) (r := s.u) rfl (by omega) ⟨by omega, by omega⟩ hx1 hr1 aB aB aB) rfl rfl rfl ?_; rintro _ _ _ ⟨qa1, qb1, ca1, cb1, x1, y1, hxq1, hyq1, rfl, rfl⟩; refine ⟨okF, ?_⟩)
   repeat (refine aL ?_)
   (refine bL (cs := recs eZ [0, 0, 0, s.x, s.y, 1]) ([.int .i64 (0), .int .i64 (0), .int .i64 (0), .int .i64 (s.x), .int .i64 (s.y), .int .i64 (1)]) rfl rfl (by intro v hv; repeat (first | exact absurd hv (List.not_mem_nil) | (rcases List.mem_cons.1 hv with rfl | hv; · rfl))) (by omega) rfl rfl rfl ?_; intro b10; refine ⟨okF, ?_⟩)
   refine aZ .here ?_
   refine uD (M' := .row qa1 (rows ++ [x1]).length ca1 (recs eL (rows ++ [x1])) 53 1 :: .row qb1 (bs ++ [y1]).length cb1 (recs eR (bs ++ [y1])) 50 4 :: .blk pb [.slice qb1 (bs ++ [y1]).length cb1] 53 :: .blk pa [.slice qa1 (rows ++ [x1]).length ca1] 34 :: M0) (I' := aQ (some ⟨b10, 0, none⟩) (recs eZ [0, 0, 0, s.x, s.y, 1]) :: lM (rows ++ [x1]) 16 :: dP (bs ++ [y1]) 16 :: aQ q (recs jZ l) :: I0) aF aD ?_
   (refine eU rfl rfl (tC (u := 16) (q := some ⟨b10, 0, none⟩) (xs := [0, 0, 0, s.x, s.y, 1]) (n := 6) (c := 6) (rows := rows ++ [x1]) (bs := bs ++ [y1]) (r := s.v) rfl (by omega) ⟨by simp; omega, by simp; omega⟩ hx2 hr2 aB aB aB) rfl rfl rfl ?_; rintro _ _ _ ⟨qa2, qb2, ca2, cb2, x2, y2, hxq2, hyq2, rfl, rfl⟩; refine ⟨okF, ?_⟩)
   repeat (refine aL ?_)
   refine aK (n - (i + 1)) _ _ _ (by first | omega | (simp only [List.length_append, List.length_cons, List.length_nil]; omega)) aS aF aD (⟨i + 1, rows ++ [x1] ++ [x2], bs ++ [y1] ++ [y2], qa2, qb2, ca2, cb2, by omega, rfl, by rw [ht, aAH, ← hrq, List.map_append, List.map_append, List.append_assoc]; show _ ++ [x1.q, x2.q] = _; rw [hxq1, hxq2]; rfl, by rw [ht, yM, ← hbq]; show (bs ++ [y1] ++ [y2]).map RE.q = _; rw [List.map_append, List.map_append, List.append_assoc]; show _ ++ [y1.q, y2.q] = _; rw [hyq1, hyq2]; rfl, rfl, rfl, rfl⟩)
 ·obtain rfl : i = n := by omega
  rw [← hl, List.take_length] at hrq hbq
  repeat (refine aL ?_)
  (repeat refine aG ?_); refine sU 1 (.blk pb [.slice qb bs.length cb] 53 :: M0) (I0) [0, 1, 2, 3] [0, 1, 0, 0] aF aD mixed (by kernel_rfl) ?_
  repeat (refine aL ?_)
  refine aSJ (k := 16) aB ?_
  refine aNF (k := 16) aB ?_
  refine fG (rs := [.cell 4 34, .cell 5 53]) (vs := [mv ⟨qa, ca, rows⟩, lv ⟨qb, cb, bs⟩]) (.inl rfl) rfl (.cell inferInstance rfl aB (.cell inferInstance rfl aB .nil)) rfl M0 (nE ⟨qb, cb, bs⟩ 16 :: lN ⟨qa, ca, rows⟩ 16 :: I0) aF aD ⟨rfl, ⟨qa, ca, rows⟩, ⟨qb, cb, bs⟩, rfl, hrq, hbq, rfl⟩
end
end Go.Proofs.YtjbhdfpjnjedhaaGreat

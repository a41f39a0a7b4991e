/- Short numbers: the document's Short; what short numbers are. What the laws of matrices share. Vectors of space in memory; products of lists. Proofs of ranks as they come in; checkIndices. -/
import Derived.Test.YtkccjglmnhgabaaGreatDoorZqbi
import Derived.Test.YtkccjglmnhgabaaGreatDoorZqam
set_option linter.unusedSimpArgs false
set_option linter.unusedVariables false
set_option maxRecDepth 100000
set_option maxHeartbeats 4000000
namespace Go.Proofs.YtkccjglmnhgabaaGreatDoor
open Go Go.Fx
def RW.dig (r : RW) : Nat := r.g1.length + r.g2.length
def WL.shN (r : WL) (n g : Nat) : Prop := r.es.length ≤ n ∧ ∀ e ∈ r.es, e.dig ≤ g ∧ (g ≤ 6 → e.brief)
instance WL.decN (r : WL) (n g : Nat) : Decidable (r.shN n g) := by unfold WL.shN; exact inferInstance
def WM.shN (m : WM) (n g : Nat) : Prop := m.rows.length ≤ n ∧ ∀ r ∈ m.rows, r.shN n g
instance WM.decN (m : WM) (n g : Nat) : Decidable (m.shN n g) := by unfold WM.shN; exact inferInstance
instance WM.decG (m : WM) : Decidable (∀ r ∈ m.rows, r.good) := inferInstance
section
variable {X : List Nat} {w0 : World} {M0 : List Ent} {I0 : List bB}
end
end Go.Proofs.YtkccjglmnhgabaaGreatDoor
namespace Go.Proofs.YtkccjglmnhgabaaGreatDoor
open Go Go.Fx
end Go.Proofs.YtkccjglmnhgabaaGreatDoor
namespace Go.Proofs.YtkccjglmnhgabaaGreatDoor
open Go Go.Fx
structure V3 where
 x : Rat
 y : Rat
 z : Rat
def V3.dot (a b : V3) : Rat := a.x * b.x + a.y * b.y + a.z * b.z
def V3.sub (a b : V3) : V3 := ⟨a.x - b.x, a.y - b.y, a.z - b.z⟩
def V3.along (a : V3) (s : Rat) (b : V3) : V3 := ⟨a.x + s * b.x, a.y + s * b.y, a.z + s * b.z⟩
structure TE where
 x : RE
 y : RE
 z : RE
instance : Inhabited TE := ⟨⟨default, default, default⟩⟩
abbrev eT (p : TE) : List Value := recs eR [p.x, p.y, p.z]
abbrev tv (p : TE) : Value := .agg (recs eR [p.x, p.y, p.z]).toArray
instance : Sized eT 12 := ⟨fun _ => rfl⟩
instance : Ones eT := ⟨fun m u hu => xD _ u hu⟩
def TE.v (p : TE) : V3 := ⟨p.x.q, p.y.q, p.z.q⟩
structure IsT (p : TE) (k : Nat) (X : List Nat) (w : World) : Prop where
 x : IsR p.x k X w
 y : IsR p.y k X w
 z : IsR p.z k X w
abbrev isT (p : TE) (k : Nat) : bB := IsT p k
instance (p : TE) (k : Nat) : Fx.Good (IsT p k) := ⟨fun X Y w w' h he hY => ⟨Fx.Good.go (φ := IsR _ _) X Y w w' h.x he hY, Fx.Good.go (φ := IsR _ _) X Y w w' h.y he hY, Fx.Good.go (φ := IsR _ _) X Y w w' h.z he hY⟩⟩
def TE.l (p : TE) (b : Nat) : RL := ⟨some ⟨b, 0, none⟩, 3, [p.x, p.y, p.z]⟩
def TQ (q : V3) (k : Nat) (M0 : List Ent) (I0 : List bB) (v : Value) (M : List Ent) (I : List bB) : Prop := M0 = M ∧ ∃ p : TE, v = tv p ∧ p.v = q ∧ I = isT p k :: I0
section
variable {X : List Nat} {w0 : World} {M0 : List Ent} {I0 : List bB}
theorem aTM {a b : RL} {ka kb n : Nat} (hn : n ≤ 200) (hK : n * (ka + kb + 1) ≤ 100000000000) (la : a.es.length = n) (lb : b.es.length = n) (ha : Hv I0 (nV a ka)) (hb : Hv I0 (nV b kb)) :
  CD Tryz.prog 49 [lv a, lv b] X w0 M0 I0 (RQc (aIP n a.q b.q) (n * (ka + kb + 1)) M0 I0) := by
 have hW := fun M0 I0 => pW (X := X) (w0 := w0) (M0 := M0) (I0 := I0) (x := 0) (by decide) (k := 0) (by decide)
 refine eQ (φ := nV a ka) ha (eQ (φ := nV b kb) hb.cons ?_)
 refine eQ (φ := aW (a).p (recs eR (a).es)) (Hv.lsl aB) ?_
 refine eQ (φ := aW (b).p (recs eR (b).es)) (Hv.lsl aB) ?_
 refine bR Tryz.func49 rfl Tryz.ntmps49 rfl ?_
 refine aJ ?_
 refine aL ?_
 (refine aM rfl rfl ?_; intro b4; refine ⟨okF, ?_⟩)
 repeat (refine aK ?_)
 (refine aA rfl (hW _ _) rfl rfl ?_; rintro _ _ _ ⟨rfl, e0, rfl, he0, rfl⟩; refine ⟨okF, ?_⟩)
 repeat (refine aK ?_)
 (refine aM rfl rfl ?_; intro b6; refine ⟨okF, ?_⟩)
 repeat (refine aK ?_)
 clear hW
 refine aT [1, 4, 6, 16, 17] rfl (fun k G M I => ∃ (t : Nat) (s : RE), t ≤ n ∧ k = n - t ∧ s.q = sm t (fun t => a.q.getD t 0 * b.q.getD t 0) ∧ G = [(18, .int .i64 t)] ∧ M = .blk b6 (eR s) 46 :: .blk b4 [.bool false, .slice none 0 0, .bool false, .slice none 0 0] 46 :: M0 ∧ I = fB s (t * (ka + kb + 1)) :: aW b.p (recs eR b.es) :: aW a.p (recs eR a.es) :: nV b kb :: nV a ka :: I0) (n) _ _ _ aQ aF aD (⟨0, e0, by omega, rfl, he0, rfl, rfl, by rw [Nat.zero_mul]⟩) ?_
 rintro kk G M I ⟨t, s, ht, rfl, hs, rfl, rfl, rfl⟩
 have hu : t * (ka + kb + 1) ≤ 100000000000 := Nat.le_trans (Nat.mul_le_mul_right _ ht) hK
 by_cases htn : t < n
 ·have hu2 : (t + 1) * (ka + kb + 1) = t * (ka + kb + 1) + (ka + kb) + 1 := by rw [Nat.succ_mul]; omega
  have hK2 : (t + 1) * (ka + kb + 1) ≤ 100000000000 := Nat.le_trans (Nat.mul_le_mul_right _ htn) hK
  have hq : sm (t + 1) (fun t => a.q.getD t 0 * b.q.getD t 0) = s.q + (gt a.es (t : Int)).q * (gt b.es (t : Int)).q := by
   simp only [sm]
   rw [hs, kF (by omega), kF (by omega)]
  generalize t * (ka + kb + 1) = u at *
  repeat (refine aK ?_)
  (refine aM rfl rfl ?_; intro b8; refine ⟨okF, ?_⟩)
  repeat (refine aK ?_)
  (repeat refine aJ ?_); refine bZ 2 [0, 1, 2, 3, 4, 5, 6, 7, 8] [1, 1, 2, 2, 2, 1, 0, 0, 0] mixed (by kernel_rfl) ?_
  repeat (refine aK ?_)
  (refine aA rfl (wQ (k := ka) (m := kb) (by omega) (Hv.lel (r := a) (k := ka) aB (by omega)) (Hv.lel (r := b) (k := kb) aB (by omega))) rfl rfl ?_; rintro _ _ _ ⟨rfl, e2, rfl, he2, rfl⟩; refine ⟨okF, ?_⟩)
  (refine aA rfl (aJQ (k := u) (m := ka + kb) (by omega) (Hv.mem aB) (Hv.mem aB)) rfl rfl ?_; rintro _ _ _ ⟨rfl, e3, rfl, he3, rfl⟩; refine ⟨okF, ?_⟩)
  repeat (refine aK ?_)
  rw [← hu2]
  refine aG (n - (t + 1)) _ _ _ (by first | omega | (simp only [List.length_append, List.length_cons, List.length_nil]; omega)) aQ aF aD (⟨t + 1, e3, by omega, rfl, by rw [hq, he3, he2], rfl, rfl, rfl⟩)
 ·obtain rfl : t = n := by omega
  repeat (refine aK ?_)
  refine lH (rs := [.cell 4 46, .tmp 5]) (vs := [rv s, .int .i64 0]) (.inl rfl) rfl (.cellN (cs := eR s) inferInstance rfl aB rfl (.tmp rfl .nil)) rfl M0 (fB s (t * (ka + kb + 1)) :: I0) aF aD ⟨rfl, s, rfl, hs, rfl⟩
end
end Go.Proofs.YtkccjglmnhgabaaGreatDoor
namespace Go.Proofs.YtkccjglmnhgabaaGreatDoor
open Go Go.Fx
structure KW where
 ri : List Int
 ci : List Int
 pr : Option Addr
 cr : Nat
 pc : Option Addr
 cc : Nat
 d : RW
 kn : WM
abbrev eKW (e : KW) : List Value := [.slice e.pr e.ri.length e.cr, .slice e.pc e.ci.length e.cc] ++ (eW e.d ++ [mvW e.kn])
abbrev vKW (e : KW) : Value := .agg (eKW e).toArray
structure IsKW (e : KW) (X : List Nat) (w : World) : Prop where
 r : SlI e.pr (recs eZ e.ri) X w
 c : SlI e.pc (recs eZ e.ci) X w
 d : IsW e.d X w
 n : IsWM e.kn X w
 lr : (e.ri.length : Int) ≤ 9223372036854775807
 lc : (e.ci.length : Int) ≤ 9223372036854775807
abbrev isKW (e : KW) : bB := IsKW e
instance isKW.gd (e : KW) : Fx.Good (IsKW e) := ⟨fun X Y w w' h he hY => ⟨Fx.Good.go (φ := SlI _ _) X Y w w' h.r he hY, Fx.Good.go (φ := SlI _ _) X Y w w' h.c he hY, Fx.Good.go (φ := IsW _) X Y w w' h.d he hY, Fx.Good.go (φ := IsWM _) X Y w w' h.n he hY, h.lr, h.lc⟩⟩
theorem Hv.kwr {I : List bB} {e : KW} (h : isKW e ∈ I) : Hv I (aW e.pr (recs eZ e.ri)) := ⟨fun X w hw => (hw _ h : IsKW e X w).r⟩
theorem Hv.kwc {I : List bB} {e : KW} (h : isKW e ∈ I) : Hv I (aW e.pc (recs eZ e.ci)) := ⟨fun X w hw => (hw _ h : IsKW e X w).c⟩
theorem Hv.kwd {I : List bB} {e : KW} (h : isKW e ∈ I) : Hv I (isW e.d) := ⟨fun X w hw => (hw _ h : IsKW e X w).d⟩
theorem Hv.kwn {I : List bB} {e : KW} (h : isKW e ∈ I) : Hv I (uT e.kn) := ⟨fun X w hw => (hw _ h : IsKW e X w).n⟩
def KE.raw (e : KE) : KW := ⟨e.ri, e.ci, e.pr, e.cr, e.pc, e.cc, e.d.raw, e.kn.raw⟩
theorem aKP (e : KE) : vKW e.raw = vKE e := by
 show Value.agg (([Value.slice e.pr e.ri.length e.cr, Value.slice e.pc e.ci.length e.cc] : List Value) ++ (eW e.d.raw ++ [mvW e.kn.raw])).toArray = _
 rw [vE]
 rfl
theorem Hv.kraw {I : List bB} {e : KE} {k : Nat} (hk : k ≤ 20000000000) (hl : e.ri.length ≤ 1000 ∧ e.ci.length ≤ 1000) (h : isKE e k ∈ I) : Hv I (isKW e.raw) := ⟨fun X w hw => by
 have := (hw _ h : IsKE e k X w)
 exact ⟨this.r, this.c, RE.fit (by omega) this.d, IsX.raw (by omega) this.n, by show (e.ri.length : Int) ≤ _; omega, by show (e.ci.length : Int) ≤ _; omega⟩⟩
theorem Hv.ked {I : List bB} {e : KE} {k : Nat} (h : isKE e k ∈ I) : Hv I (fB e.d k) := ⟨fun X w hw => (hw _ h : IsKE e k X w).d⟩
theorem Hv.ken {I : List bB} {e : KE} {k : Nat} (h : isKE e k ∈ I) : Hv I (jC e.kn k) := ⟨fun X w hw => (hw _ h : IsKE e k X w).n⟩
def inRng (l : List Int) (n : Nat) : Prop := ∀ i ∈ List.range l.length, 0 ≤ gt l (i : Int) ∧ gt l (i : Int) < n
instance inRng.dec (l : List Int) (n : Nat) : Decidable (inRng l n) := inferInstanceAs (Decidable (∀ i ∈ List.range l.length, 0 ≤ gt l (i : Int) ∧ gt l (i : Int) < n))
def rsng (l : List Int) : Prop := ∀ i ∈ List.range l.length, i = 0 ∨ gt l ((i : Int) - 1) < gt l (i : Int)
instance rsng.dec (l : List Int) : Decidable (rsng l) := inferInstanceAs (Decidable (∀ i ∈ List.range l.length, i = 0 ∨ gt l ((i : Int) - 1) < gt l (i : Int)))
def prSome (l : List Int) (n i : Nat) : Prop := ∀ j ∈ List.range i, 0 ≤ gt l (j : Int) ∧ gt l (j : Int) < n
instance prSome.dec (l : List Int) (n i : Nat) : Decidable (prSome l n i) := inferInstanceAs (Decidable (∀ j ∈ List.range i, 0 ≤ gt l (j : Int) ∧ gt l (j : Int) < n))
def prRise (l : List Int) (i : Nat) : Prop := ∀ j ∈ List.range i, j = 0 ∨ gt l ((j : Int) - 1) < gt l (j : Int)
instance prRise.dec (l : List Int) (i : Nat) : Decidable (prRise l i) := inferInstanceAs (Decidable (∀ j ∈ List.range i, j = 0 ∨ gt l ((j : Int) - 1) < gt l (j : Int)))
theorem aFB {p : Nat → Prop} {i : Nat} : (∀ j ∈ List.range (i + 1), p j) ↔ (∀ j ∈ List.range i, p j) ∧ p i := by
 constructor
 ·intro h; exact ⟨fun j hj => h j (List.mem_range.2 (by have := List.mem_range.1 hj; omega)), h i (by simp)⟩
 ·rintro ⟨h1, h2⟩ j hj
  have := List.mem_range.1 hj
  by_cases e : j = i
  ·subst e; exact h2
  ·exact h1 j (List.mem_range.2 (by omega))
theorem aGR {l : List Int} {n i : Nat} : prSome l n (i + 1) ↔ prSome l n i ∧ (0 ≤ gt l (i : Int) ∧ gt l (i : Int) < n) := aFB
theorem aGF {l : List Int} {i : Nat} : prRise l (i + 1) ↔ prRise l i ∧ (i = 0 ∨ gt l ((i : Int) - 1) < gt l (i : Int)) := aFB
section
variable {X : List Nat} {w0 : World} {M0 M1 : List Ent} {I0 : List bB}
theorem aJE {q : Option Addr} {l : List Int} {n c N : Nat} (hl : l.length = n) (hn : (n : Int) ≤ 1000000) (hq : aW q (recs eZ l) ∈ I0) :
  CD Tryz.prog 40 [.slice q n c, .int .i64 (N : Int)] X w0 M0 I0 (fun v M I => M0 = M ∧ I0 = I ∧ v = .tuple #[.bool (B (inRng l N)), .bool (B (rsng l))]) := by
 refine eQ (φ := aW q (recs eZ l)) (Hv.mem hq) ?_
 refine bR Tryz.func40 rfl Tryz.ntmps40 rfl ?_
 repeat (refine aK ?_)
 refine aT [0, 1, 8, 9] rfl (fun k G M I => ∃ (i : Nat) (bi br : Bool), i ≤ n ∧ k = n - i ∧ bi = B (prSome l N i) ∧ br = B (prRise l i) ∧ G = [(4, .bool bi), (5, .bool br), (10, .int .i64 i)] ∧ M0 = M ∧ I = aW q (recs eZ l) :: I0) (n) _ _ _ aQ aF aD (⟨0, true, true, by omega, rfl, (dZ (fun j hj => by simp at hj)).symm, (dZ (fun j hj => by simp at hj)).symm, rfl, rfl, rfl⟩) ?_
 rintro kk G M I ⟨i, bi, br, hi, rfl, h1, h2, rfl, rfl, rfl⟩
 by_cases hin : i < n
 ·have e1 : B (prSome l N (i + 1)) = (bi && B (0 ≤ gt l (i : Int) ∧ gt l (i : Int) < N)) := by rw [h1, gZ aGR]; simp [pK]
  have e2 : B (prRise l (i + 1)) = (br && B (i = 0 ∨ gt l ((i : Int) - 1) < gt l (i : Int))) := by rw [h2, gZ aGF]; simp [pK]
  obtain ⟨x, hx⟩ : ∃ x, gt l (i : Int) = x := ⟨_, rfl⟩
  rw [hx] at e1 e2
  have k1 : bi = false ∨ (bi = true ∧ ¬ 0 ≤ x) ∨ (bi = true ∧ 0 ≤ x) := by
   cases bi
   ·exact .inl rfl
   ·by_cases h : 0 ≤ x
    ·exact .inr (.inr ⟨rfl, h⟩)
    ·exact .inr (.inl ⟨rfl, h⟩)
  have k2 : br = false ∨ (br = true ∧ i = 0) ∨ (br = true ∧ ¬ i = 0) := by
   cases br
   ·exact .inl rfl
   ·by_cases h : i = 0
    ·exact .inr (.inl ⟨rfl, h⟩)
    ·exact .inr (.inr ⟨rfl, h⟩)
  clear h1 h2
  rcases k1 with rfl | ⟨rfl, hx0⟩ | ⟨rfl, hx0⟩ <;> rcases k2 with rfl | ⟨rfl, hi0⟩ | ⟨rfl, hi0⟩
  all_goals
   repeat (refine aK ?_)
   rw [hx]
   repeat (refine aK ?_)
   refine aG (n - (i + 1)) _ _ _ (by first | omega | (simp only [List.length_append, List.length_cons, List.length_nil]; omega)) aQ aF aD (⟨i + 1, _, _, by omega, rfl, ?_, ?_, rfl, rfl, rfl⟩)
   ·rw [e1]
    first
    | rfl
    | exact (dF (fun h => hx0 h.1)).symm
    | exact gZ ⟨fun h => ⟨hx0, h⟩, fun h => h.2⟩
   ·rw [e2]
    first
    | rfl
    | exact (dZ (.inl hi0)).symm
    | exact gZ ⟨fun h => .inr h, fun h => h.resolve_left hi0⟩
 ·obtain rfl : i = n := by omega
  have e1 : B (inRng l N) = bi := by rw [h1]; exact gZ (by unfold inRng prSome; rw [hl])
  have e2 : B (rsng l) = br := by rw [h2]; exact gZ (by unfold rsng prRise; rw [hl])
  rw [e1, e2]
  repeat (refine aK ?_)
  refine rV (M' := M0) (I' := I0) SubP.refl aD ?_
  refine iD [4, 5] (by first | exact .inl rfl | exact .inr rfl) rfl rfl rfl _ _ aF aD (⟨rfl, rfl, rfl⟩)
end
end Go.Proofs.YtkccjglmnhgabaaGreatDoor

/- rank, minor, determinant of the program. Rank of the program, and its proof. The document's product, transposed matrix, product with a list. matrix.Inverse. Equality of lists and matrices; matrices of integers; the chapter's example. Matrices of integers; the chapter's example. The chapter's example. Symmetric elimination, plain: pivots and leading determinants; the quadratic form as a sum of squares; witnesses. The document's SameList, SameMatrix, Symmetric, Nonzero, Form, Leading, Definite. Arguments, opened: slices of records, structs with slices. Arguments opened: matrices, lists, fractions, wherever they lie. Arguments opened: integers, fractions in groups of digits, as they come in. Arguments opened, with what their sizes are at most: lists, matrices, fractions, wherever they lie. -/
import Derived.Test.YtkccjglmnhgabaaGreatDoorZqbh
import Derived.Test.YtkccjglmnhgabaaGreatDoorZqbg
import Derived.Test.YtkccjglmnhgabaaGreatDoorZqam
import Derived.Test.YtkccjglmnhgabaaGreatDoorZqbc
import Derived.Test.YtkccjglmnhgabaaGreatDoorZqbd
import Derived.Test.YtkccjglmnhgabaaGreatDoorZqba
import Derived.Test.YtkccjglmnhgabaaGreatDoorZqab
import Derived.Test.YtkccjglmnhgabaaGreatDoorZqae
import Derived.Test.YtkccjglmnhgabaaGreatDoorZqaz
import Derived.SizedLaws
set_option linter.unusedSimpArgs false
set_option linter.unusedVariables false
set_option maxRecDepth 100000
set_option maxHeartbeats 4000000
namespace Go.Proofs.YtkccjglmnhgabaaGreatDoor
open Go Go.Fx
theorem vM {C : Nat} {sp : Sp} (h : SpI C sp) : sp.length ≤ C := by rw [← aIF h]; exact aES (uF h)
theorem aAZ {m : MX} {i : Nat} (h : i < m.rows.length) : rowAt m.q i = (gt m.rows (i : Int)).q := by rw [aKI h]
def qT : Nat → Bool := fun _ => true
theorem aHS {A : Mt} {i : Nat} : jX A qT (i + 1) = ((adS (jX A qT i).1 (rowAt A i)).2, if (adS (jX A qT i).1 (rowAt A i)).1 then (jX A qT i).2 ++ [i] else (jX A qT i).2) := wV rfl
section
variable {X : List Nat} {w0 : World} {M0 M1 : List Ent} {I0 : List bB}
theorem aJW {m : MX} {R n u : Nat} (dm : m.dim R n) (hn : 1 ≤ n ∧ n ≤ 100) (hR : R ≤ 1000) (hu : 4 * kb u n + 2 ≤ 400000000000) (hm : jC m u ∈ I0) :
  CD Tryz.prog 39 [mv m] X w0 M0 I0 (fun v M I => M0 = M ∧ I0 = I ∧ v = .int .i64 (((jX m.q qT R).1.length : Nat) : Int)) := by
 have lR := dm.1
 refine eQ (φ := jC m u) (Hv.mem hm) ?_
 refine eQ (φ := aW (m).p (recs eL (m).rows)) (Hv.xsl aB) ?_
 refine bC Tryz.func39 rfl Tryz.ntmps39 rfl ?_
 repeat (refine aK ?_)
 (refine aC rfl (fun _ => dE (pvs := ([]).zipIdx.map (fun p => (p.2, p.1))) (cells := [.slice none 0 0, .slice none 0 0]) rfl rfl) rfl rfl ?_)
 (refine aX rfl rfl rfl ?_; intro ps; refine ⟨okF, ?_⟩)
 repeat (refine aK ?_)
 rw [lR]
 refine jR 3 1 ?_
 refine jR 48 1 ?_
 refine fI (φ := allK [] u) Hv.nilK ?_
 refine aT [3, 8, 9] rfl (fun k G M I => ∃ (i : Nat) (a b : Option Addr) (c c2 : Nat) (rows : List RL) (pz : List Int), i ≤ R ∧ k = R - i ∧ rows.map RL.q = mtS (jX m.q qT i).1 ∧ pz = zs (pvS (jX m.q qT i).1) ∧ G = [(10, .int .i64 i)] ∧ M = .row a rows.length c (recs eL rows) 48 1 :: .row b pz.length c2 (recs eZ pz) 3 1 :: .blk ps [.slice a rows.length c, .slice b pz.length c2] 74 :: M0 ∧ I = allK rows u :: aW m.p (recs eL m.rows) :: jC m u :: I0) (R) _ _ _ aQ aF aD (⟨0, none, none, 0, 0, [], [], by omega, rfl, rfl, rfl, rfl, rfl, rfl⟩) ?_
 rintro kk G M I ⟨i, a, b, c, c2, rows, pz, hi, rfl, hr, hz, rfl, rfl, rfl⟩
 have hI := oC (q := qT) (oV dm) (k := i) (by omega)
 have hle := vM hI
 have hku := iO u hle
 by_cases hin : i < R
 ·have hrow := dm.row (i := i) hin
  have hq := aAZ (m := m) (i := i) (by omega)
  have hs := aHS (A := m.q) (i := i)
  rw [hq] at hs
  obtain ⟨sp, hsp⟩ : ∃ sp, (jX m.q qT i).1 = sp := ⟨_, rfl⟩
  rw [hsp] at hr hz hI hle hku hs
  refine fI (φ := nV (gt m.rows (i : Int)) u) (Hv.xrow aB (by omega)) ?_
  repeat (refine aK ?_)
  (refine aA rfl (aDM (n := n) (u := u) (x := gt m.rows (i : Int)) (sp := sp) hn (by omega) (by omega) hrow hI hr hz aB aB) rfl rfl ?_; rintro _ _ _ ⟨a1, b1, c1, d1, rows1, pz1, rfl, rfl, rfl, hr1, hz1⟩; refine ⟨okF, ?_⟩)
  repeat (refine aK ?_)
  refine aG (R - (i + 1)) _ _ _ (by first | omega | (simp only [List.length_append, List.length_cons, List.length_nil]; omega)) aQ aF aD (⟨i + 1, a1, b1, c1, d1, rows1, pz1, by omega, rfl, by rw [hs]; exact hr1, by rw [hs]; exact hz1, rfl, rfl, rfl⟩)
 ·obtain rfl : i = R := by omega
  have lz : pz.length = (jX m.q qT i).1.length := by rw [hz, nP, oD]
  rw [← lz]
  repeat (refine aK ?_)
  refine aH (by first | exact .inl rfl | exact .inr rfl) rfl rfl _ _ aF aD (⟨rfl, rfl, rfl⟩)
theorem aON {A : Mt} {ix jx : List Nat} {i : Nat} : mnr A (ix ++ [i]) jx = mnr A ix jx ++ [jx.map (fun j => at2 A i j)] := by simp [mnr]
theorem aBA {l : List Nat} {i : Nat} (h : i < l.length) : l.take (i + 1) = l.take i ++ [l.getD i 0] := by
 rw [List.take_add_one]; congr 1
 simp [List.getD, h]
theorem aCF {m : MX} {R n u r : Nat} {ix jx : List Nat} {qr qc : Option Addr} {cr cc : Nat} (dm : m.dim R n) (hi : ∀ i ∈ ix, i < R) (hj : ∀ j ∈ jx, j < n) (li : ix.length = r) (lj : jx.length = r) (hr : r ≤ 64) (hn : n ≤ 100 ∧ R ≤ 100) (hm : jC m u ∈ I0) (h1 : aW qr (recs eZ (zs ix)) ∈ I0) (h2 : aW qc (recs eZ (zs jx)) ∈ I0) :
  CD Tryz.prog 37 [mv m, .slice qr r cr, .slice qc r cc] X w0 M0 I0 (fun v M I => M0 = M ∧ ∃ y : MX, v = mv y ∧ y.q = mnr m.q ix jx ∧ y.dim r r ∧ I = jC y u :: I0) := by
 have lR := dm.1
 have zi : (zs ix).length = r := by rw [nP, li]
 have zj : (zs jx).length = r := by rw [nP, lj]
 have hix : ∀ a : Nat, a < r → gt (zs ix) (a : Int) = ((ix.getD a 0 : Nat) : Int) ∧ ix.getD a 0 < R := fun a ha => ⟨aKU (by omega), hi _ (kH.2 ⟨a, by omega, rfl⟩)⟩
 have hjx : ∀ a : Nat, a < r → gt (zs jx) (a : Int) = ((jx.getD a 0 : Nat) : Int) ∧ jx.getD a 0 < n := fun a ha => ⟨aKU (by omega), hj _ (kH.2 ⟨a, by omega, rfl⟩)⟩
 refine eQ (φ := aW qr (recs eZ (zs ix))) (Hv.mem h1) ?_
 refine eQ (φ := aW qc (recs eZ (zs jx))) (Hv.mem (List.Mem.tail _ h2)) ?_
 refine eQ (φ := jC m u) (Hv.mem (List.Mem.tail _ (List.Mem.tail _ hm))) ?_
 refine eQ (φ := aW (m).p (recs eL (m).rows)) (Hv.xsl aB) ?_
 refine uR Tryz.func37 rfl Tryz.ntmps37 rfl ?_
 repeat (refine aK ?_)
 refine jR 48 1 ?_
 refine fI (φ := qK [] u) Hv.nilL ?_
 refine aT [0, 2, 13, 14] rfl (fun k G M I => ∃ (i : Nat) (rs : List RL) (q : Option Addr) (c : Nat), i ≤ r ∧ k = r - i ∧ rs.length = i ∧ (∀ y ∈ rs, y.es.length = r) ∧ rs.map RL.q = mnr m.q (ix.take i) jx ∧ G = [(7, .slice q rs.length c), (15, .int .i64 i)] ∧ M = .row q rs.length c (recs eL rs) 48 1 :: M0 ∧ I = qK rs u :: aW m.p (recs eL m.rows) :: jC m u :: aW qc (recs eZ (zs jx)) :: aW qr (recs eZ (zs ix)) :: I0) (r) _ _ _ aQ aF aD (⟨0, [], none, 0, by omega, rfl, rfl, by simp, rfl, rfl, rfl, rfl⟩) ?_
 rintro kk G M I ⟨i, rs, q, c, hir, rfl, hrl, hrc, hrq, rfl, rfl, rfl⟩
 by_cases hin : i < r
 ·obtain ⟨g1, g2⟩ := hix i hin
  obtain ⟨s, hs⟩ : ∃ s, ix.getD i 0 = s := ⟨_, rfl⟩
  have ht := aBA (l := ix) (i := i) (by omega)
  rw [hs] at g1 g2 ht
  have hrow := dm.row (i := s) g2
  refine fI (φ := aW (gt m.rows (s : Int)).p (recs eR (gt m.rows (s : Int)).es)) (Hv.xrsl aB (by omega)) ?_
  refine fI (φ := nV (gt m.rows (s : Int)) u) (Hv.xrow aB (by omega)) ?_
  repeat (refine aK ?_)
  rw [g1]
  repeat (refine aK ?_)
  refine jR 46 4 ?_
  refine fI (φ := dV [] u) Hv.nilR ?_
  refine aT [0, 2, 7, 9, 13, 14, 15, 19, 20] rfl (fun k G M I => ∃ (j : Nat) (es : List RE) (ql : Option Addr) (cl : Nat), j ≤ r ∧ k = r - j ∧ es.length = j ∧ qs es = (jx.take j).map (fun j => at2 m.q s j) ∧ G = [(10, .slice ql es.length cl), (21, .int .i64 j)] ∧ M = .row ql es.length cl (recs eR es) 46 4 :: .row q rs.length c (recs eL rs) 48 1 :: M0 ∧ I = dV es u :: nV (gt m.rows (s : Int)) u :: aW (gt m.rows (s : Int)).p (recs eR (gt m.rows (s : Int)).es) :: qK rs u :: aW m.p (recs eL m.rows) :: jC m u :: aW qc (recs eZ (zs jx)) :: aW qr (recs eZ (zs ix)) :: I0) (r) _ _ _ aQ aF aD (⟨0, [], none, 0, by omega, rfl, rfl, rfl, rfl, rfl, rfl⟩) ?_
  rintro kk G M I ⟨j, es, ql, cl, hjr, rfl, hel, heq, rfl, rfl, rfl⟩
  by_cases hjn : j < r
  ·obtain ⟨f1, f2⟩ := hjx j hjn
   obtain ⟨t, htt⟩ : ∃ t, jx.getD j 0 = t := ⟨_, rfl⟩
   have ht2 := aBA (l := jx) (i := j) (by omega)
   rw [htt] at f1 f2 ht2
   obtain ⟨e, he⟩ : ∃ e, gt (gt m.rows (s : Int)).es (t : Int) = e := ⟨_, rfl⟩
   have hat := wT (m := m) (i := s) (j := t) (by omega) (by omega)
   rw [he] at hat
   refine fI (φ := fB e u) (by rw [← he]; exact Hv.lel aB (by omega)) ?_
   repeat (refine aK ?_)
   rw [f1]
   repeat (refine aK ?_)
   rw [he]
   (refine aP (cs := recs eR [e]) ([rv e]) rfl rfl (by intro v hv; repeat (first | exact absurd hv (List.not_mem_nil) | (rcases List.mem_cons.1 hv with rfl | hv; · rfl))) (by omega) rfl rfl rfl ?_; intro b; refine ⟨okF, ?_⟩)
   (refine dC (ys := [e]) 1 rfl rfl rfl ?_ (by decide) rfl (by omega) (by omega) rfl rfl ?_; (· first | exact Src.blk aB | exact Src.row aB | exact Src.imm aB (by first | assumption | exact .inl (Ok.mk _ _))); intro q2 c3; refine ⟨okF, ?_⟩)
   repeat (refine aK ?_)
   refine iW (φ := dV (es ++ [e]) u) (Hv.snoc aB aB) ?_
   refine aG (r - (j + 1)) _ _ _ (by first | omega | (simp only [List.length_append, List.length_cons, List.length_nil]; omega)) aQ aF aD (⟨j + 1, es ++ [e], q2, c3, by omega, rfl, by simp [hel], ?_, rfl, rfl, rfl⟩)
   rw [ht2, List.map_append, ← heq, List.map_singleton, hat]
   simp [qs]
  ·obtain rfl : j = r := by omega
   rw [← lj, List.take_length] at heq
   refine aWE (k := u) aB ?_
   obtain ⟨y, hy⟩ : ∃ y : RL, y = ⟨ql, cl, es⟩ := ⟨_, rfl⟩
   have hvv : Value.slice ql es.length cl = lv y := by rw [hy]
   have hyq : y.q = jx.map (fun j => at2 m.q s j) := by rw [hy]; exact heq
   have hyl : y.es.length = j := by rw [hy]; exact hel
   rw [hvv, ← hy]
   repeat (refine aK ?_)
   (refine aP (cs := recs eL [y]) ([lv y]) rfl rfl (by intro v hv; repeat (first | exact absurd hv (List.not_mem_nil) | (rcases List.mem_cons.1 hv with rfl | hv; · rfl))) (by omega) rfl rfl rfl ?_; intro b2; refine ⟨okF, ?_⟩)
   (refine dC (ys := [y]) 1 rfl rfl rfl ?_ (by decide) rfl (by omega) (by omega) rfl rfl ?_; (· first | exact Src.blk aB | exact Src.row aB | exact Src.imm aB (by first | assumption | exact .inl (Ok.mk _ _))); intro q2 c3; refine ⟨okF, ?_⟩)
   repeat (refine aK ?_)
   refine iW (φ := qK (rs ++ [y]) u) (Hv.snocL aB aB) ?_
   refine aG (j - (i + 1)) _ _ _ (by first | omega | (simp only [List.length_append, List.length_cons, List.length_nil]; omega)) aQ aF aD (⟨i + 1, rs ++ [y], q2, c3, by omega, rfl, by simp [hrl], fun z hz => ?_, ?_, rfl, rfl, rfl⟩)
   ·rcases List.mem_append.1 hz with h | h
    ·exact hrc z h
    ·rw [List.mem_singleton.1 h]; exact hyl
   ·rw [aEI, hrq, ht, aON, hyq]
 ·obtain rfl : i = r := by omega
  rw [← li, List.take_length] at hrq
  repeat (refine aK ?_)
  refine aER (k := u) aB ?_
  refine aH (by first | exact .inl rfl | exact .inr rfl) rfl rfl _ _ aF aD (⟨rfl, ⟨q, c, rs⟩, rfl, hrq, ⟨hrl, hrc⟩, rfl⟩)
theorem aNJ {y : MX} {r u : Nat} (hb : kb u r ≤ 20000000000) (dy : y.dim r r) (hr : r ≤ 64) (hy : jC y u ∈ I0) :
  CD Tryz.prog 36 [mv y] X w0 M0 I0 (RQ (dt r (at2 y.q)) (kb u r) M0 I0) := by
 have lr := dy.1
 have hW := fun M0 I0 => pW (X := X) (w0 := w0) (M0 := M0) (I0 := I0) (x := 1) (by decide) (k := u) (show 1 ≤ 2 ^ u from Nat.one_le_two_pow)
 have hu0 : u ≤ kb u r := iO u (Nat.zero_le r)
 have hD : 1 ≤ r → ∀ M0 I0, jC y u ∈ I0 → CD Tryz.prog 71 [mv y] X w0 M0 I0 (RQc (dt r (at2 y.q)) (kb u r) M0 I0) := fun h1 M0 I0 h => zB (X := X) (w0 := w0) (M0 := M0) (I0 := I0) (a := y) (n := r) (k0 := u) hb (by omega) ⟨dy, ⟨h1, hr⟩, h1, hr⟩ h
 refine eQ (φ := jC y u) (Hv.mem hy) ?_
 refine bC Tryz.func36 rfl Tryz.ntmps36 rfl ?_
 refine aJ ?_
 refine aL ?_
 (refine aM rfl rfl ?_; intro b2; refine ⟨okF, ?_⟩)
 by_cases h0 : r = 0
 ·subst h0
  repeat (refine aK ?_)
  (refine aA rfl (hW _ _) rfl rfl ?_; rintro _ _ _ ⟨rfl, e, rfl, he, rfl⟩; refine ⟨okF, ?_⟩)
  repeat (refine aK ?_)
  refine bL (cs := eR e) (.inl rfl) rfl rfl aB rfl M0 (fB e u :: I0) aF aD ⟨rfl, e, rfl, he, rfl⟩
 ·repeat (refine aK ?_)
  (refine aA rfl (hD (by omega) _ _ aB) rfl rfl ?_; rintro _ _ _ ⟨rfl, e, rfl, he, rfl⟩; refine ⟨okF, ?_⟩)
  repeat (refine aK ?_)
  (refine aM rfl rfl ?_; intro b3; refine ⟨okF, ?_⟩)
  repeat (refine aK ?_)
  refine bL (cs := eR e) (.inl rfl) rfl rfl aB rfl M0 (fB e (kb u r) :: I0) aF aD ⟨rfl, e, rfl, he, rfl⟩
end
end Go.Proofs.YtkccjglmnhgabaaGreatDoor
namespace Go.Proofs.YtkccjglmnhgabaaGreatDoor
open Go Go.Fx
structure KE where
 ri : List Int
 ci : List Int
 pr : Option Addr
 cr : Nat
 pc : Option Addr
 cc : Nat
 d : RE
 kn : MX
abbrev eKE (e : KE) : List Value := [.slice e.pr e.ri.length e.cr, .slice e.pc e.ci.length e.cc] ++ (eR e.d ++ [mv e.kn])
abbrev vKE (e : KE) : Value := .agg (eKE e).toArray
structure IsKE (e : KE) (k : Nat) (X : List Nat) (w : World) : Prop where
 r : SlI e.pr (recs eZ e.ri) X w
 c : SlI e.pc (recs eZ e.ci) X w
 d : IsR e.d k X w
 n : IsX e.kn k X w
abbrev isKE (e : KE) (k : Nat) : bB := IsKE e k
instance isKE.gd (e : KE) (k : Nat) : Fx.Good (IsKE e k) := ⟨fun X Y w w' h he hY => ⟨Fx.Good.go (φ := SlI _ _) X Y w w' h.r he hY, Fx.Good.go (φ := SlI _ _) X Y w w' h.c he hY, Fx.Good.go (φ := IsR _ _) X Y w w' h.d he hY, Fx.Good.go (φ := IsX _ _) X Y w w' h.n he hY⟩⟩
instance eKE.ones : Ones eKE := ⟨fun m u hu => by
 simp only [List.mem_append, List.mem_cons, List.not_mem_nil, or_false] at hu
 rcases hu with (rfl | rfl) | (rfl | rfl | rfl | rfl) | rfl <;> rfl⟩
abbrev zKE : List Value := [.slice none 0 0, .slice none 0 0, .bool false, .slice none 0 0, .bool false, .slice none 0 0, .slice none 0 0]
def zC (pv : List Nat) : List Nat := (xR id (zs pv)).map Int.toNat
theorem aRW {pv : List Nat} : zs (zC pv) = xR id (zs pv) := by
 unfold zC
 have h : ∀ z ∈ xR id (zs pv), ((z.toNat : Nat) : Int) = z := fun z hz => by
  have := (aFN (key := id) (zs pv)).mem_iff.1 hz
  obtain ⟨x, _, rfl⟩ := List.mem_map.1 this
  rfl
 have : ∀ l : List Int, (∀ z ∈ l, ((z.toNat : Nat) : Int) = z) → zs (l.map Int.toNat) = l := by
  intro l
  induction l with
  | nil => intro _; rfl
  | cons x r ih => intro hl; show ((x.toNat : Nat) : Int) :: zs (r.map Int.toNat) = x :: r; rw [hl x (by simp), ih (fun z hz => hl z (by simp [hz]))]
 exact this _ h
theorem aGL : ∀ {pv : List Nat}, (zs pv).map Int.toNat = pv
 | [] => rfl
 | x :: r => by show ((x : Int).toNat) :: (zs r).map Int.toNat = x :: r; rw [aGL]; simp
theorem srtN_perm {pv : List Nat} : (zC pv).Perm pv := by
 have h := (aFN (key := id) (zs pv)).map Int.toNat
 rw [aGL] at h; exact h
theorem aFD {pv : List Nat} : (zC pv).length = pv.length := srtN_perm.length_eq
section
variable {X : List Nat} {w0 : World} {M0 M1 : List Ent} {I0 : List bB}
theorem aOA {m : MX} {R n u : Nat} (dm : m.fit R n) (hn12 : n ≤ 12) (hb : kb u n ≤ 20000000000) (hm : jC m u ∈ I0) :
  CD Tryz.prog 15 [mv m] X w0 M0 I0 (fun v M I => M0 = M ∧ ∃ e : KE, v = .tuple #[.int .i64 (((jX m.q qT R).1.length : Nat) : Int), vKE e, .int .i64 0] ∧ e.ri = zs (jX m.q qT R).2 ∧ e.ci = zs (zC (pvS (jX m.q qT R).1)) ∧ e.d.q = dt (jX m.q qT R).1.length (at2 (mnr m.q (jX m.q qT R).2 (zC (pvS (jX m.q qT R).1)))) ∧ e.kn.q = aCE m.q n ∧ (∀ r ∈ e.kn.rows, r.es.length = n) ∧ I = isKE e (kb u n) :: I0) := by
 have lR := dm.1.1
 obtain ⟨r1, r2⟩ := dm.2.1
 obtain ⟨c1, c2⟩ := dm.2.2
 have hu0 : u ≤ kb u n := iO u (Nat.zero_le n)
 refine oL (fun w hw => Mem.xsml hm dm (by omega) hw) (fun sa => ?_)
 have hC := fun M0 I0 h => uC (X := X) (w0 := w0) (M0 := M0) (I0 := I0) (m := m.raw) sa h
 have e0 : m.raw.code = 0 := by unfold WM.code; rw [if_pos dm.ok]
 rw [e0, vE] at hC
 have hdL := oV dm.1
 have hIR := oC (q := qT) hdL (k := R) (Nat.le_refl _)
 obtain ⟨hs1, hs2, hs3, hs4⟩ := aEO (q := qT) hdL (k := R) (Nat.le_refl _)
 have hleR := vM hIR
 have hNl := fun M0 I0 h => aTA (X := X) (w0 := w0) (M0 := M0) (I0 := I0) (a := m) (R := R) (C := n) (k0 := u) hb dm h
 refine eQ (φ := jC m u) (Hv.mem hm) ?_
 refine eQ (φ := uT m.raw) (Hv.xraw (List.Mem.head _) (by omega)) ?_
 refine eQ (φ := aW (m).p (recs eL (m).rows)) (Hv.xsl aB) ?_
 refine bC Tryz.func15 rfl Tryz.ntmps15 rfl ?_
 refine aJ ?_
 refine aL ?_
 repeat (refine aK ?_)
 (refine aM rfl rfl ?_; intro b3; refine ⟨okF, ?_⟩)
 repeat (refine aK ?_)
 (refine aA rfl (hC _ _ aB) rfl rfl ?_; rintro _ _ _ ⟨rfl, rfl, rfl⟩; refine ⟨okF, ?_⟩)
 repeat (refine aK ?_)
 (refine aC rfl (fun _ => dE (pvs := ([]).zipIdx.map (fun p => (p.2, p.1))) (cells := [.slice none 0 0, .slice none 0 0]) rfl rfl) rfl rfl ?_)
 (refine aX rfl rfl rfl ?_; intro ps; refine ⟨okF, ?_⟩)
 repeat (refine aK ?_)
 (refine aM rfl rfl ?_; intro b7; refine ⟨okF, ?_⟩)
 repeat (refine aK ?_)
 rw [lR]
 refine jR 3 1 ?_
 refine jR 3 1 ?_
 refine jR 48 1 ?_
 refine fI (φ := allK [] u) Hv.nilK ?_
 refine uV (M' := .row none 0 0 (recs eL []) 48 1 :: .row none 0 0 (recs eZ []) 3 1 :: .blk ps [.slice none 0 0, .slice none 0 0] 74 :: .row none 0 0 (recs eZ []) 3 1 :: .blk b7 [.slice none 0 0, .slice none 0 0, .bool false, .slice none 0 0, .bool false, .slice none 0 0, .slice none 0 0] 54 :: .blk b3 zKE 54 :: M0) (I' := allK [] u :: aW m.p (recs eL m.rows) :: jC m u :: I0) aF aD ?_
 refine aT [0, 3, 6, 7, 20, 21] rfl (fun k G M I => ∃ (i : Nat) (a b qx : Option Addr) (c c2 cx : Nat) (rows : List RL) (pz xs : List Int), i ≤ R ∧ k = R - i ∧ rows.map RL.q = mtS (jX m.q qT i).1 ∧ pz = zs (pvS (jX m.q qT i).1) ∧ xs = zs (jX m.q qT i).2 ∧ G = [(22, .int .i64 i)] ∧ M = .row a rows.length c (recs eL rows) 48 1 :: .row b pz.length c2 (recs eZ pz) 3 1 :: .blk ps [.slice a rows.length c, .slice b pz.length c2] 74 :: .row qx xs.length cx (recs eZ xs) 3 1 :: .blk b7 [.slice qx xs.length cx, .slice none 0 0, .bool false, .slice none 0 0, .bool false, .slice none 0 0, .slice none 0 0] 54 :: .blk b3 zKE 54 :: M0 ∧ I = allK rows u :: aW m.p (recs eL m.rows) :: jC m u :: I0) (R) _ _ _ aQ aF aD (⟨0, none, none, none, 0, 0, 0, [], [], [], by omega, rfl, rfl, rfl, rfl, rfl, rfl, rfl⟩) ?_
 rintro kk G M I ⟨i, a, b, qx, c, c2, cx, rows, pz, xs, hi, rfl, hr, hz, hxs, rfl, rfl, rfl⟩
 by_cases hin : i < R
 ·have hI := oC (q := qT) hdL (k := i) (by omega)
  have hle := vM hI
  have hku := iO u hle
  have hrow := dm.1.row (i := i) hin
  have hq := aAZ (m := m) (i := i) (by omega)
  have hs := aHS (A := m.q) (i := i)
  have hsl := (aEO (q := qT) hdL (k := i) (by omega)).1
  have hxl : xs.length ≤ 100 := by rw [hxs, nP]; omega
  rw [hq] at hs
  obtain ⟨sp, hsp⟩ : ∃ sp, (jX m.q qT i).1 = sp := ⟨_, rfl⟩
  obtain ⟨ix, hix⟩ : ∃ ix, (jX m.q qT i).2 = ix := ⟨_, rfl⟩
  rw [hsp] at hr hz hI hle hku hs hsl
  rw [hix] at hs hxs hsl
  have hA := fun M1 I0 hx ha => aDM (X := X) (w0 := w0) (M1 := M1) (I0 := I0) (p := ps) (a := a) (b := b) (c := c) (c2 := c2) (n := n) (u := u) (x := gt m.rows (i : Int)) (sp := sp) ⟨c1, by omega⟩ (by omega) (by omega) hrow hI hr hz hx ha
  obtain ⟨bb, hbb⟩ : ∃ bb, (adS sp (gt m.rows (i : Int)).q).1 = bb := ⟨_, rfl⟩
  rw [hbb] at hA hs
  refine fI (φ := nV (gt m.rows (i : Int)) u) (Hv.xrow aB (by omega)) ?_
  repeat (refine aK ?_)
  cases bb with
  | true =>
   simp only [if_true] at hs
   (refine aA rfl (hA _ _ aB aB) rfl rfl ?_; rintro _ _ _ ⟨a1, b1, d1, d2, rows1, pz1, rfl, rfl, rfl, hr1, hz1⟩; refine ⟨okF, ?_⟩)
   repeat (refine aK ?_)
   (refine aP (cs := recs eZ [(i : Int)]) ([.int .i64 (i : Int)]) rfl rfl (by intro v hv; repeat (first | exact absurd hv (List.not_mem_nil) | (rcases List.mem_cons.1 hv with rfl | hv; · rfl))) (by omega) rfl rfl rfl ?_; intro bv; refine ⟨okF, ?_⟩)
   (refine dC (ys := [(i : Int)]) 4 rfl rfl rfl ?_ (by decide) rfl (by omega) (by omega) rfl rfl ?_; (· first | exact Src.blk aB | exact Src.row aB | exact Src.imm aB (by first | assumption | exact .inl (Ok.mk _ _))); intro q2 cx2; refine ⟨okF, ?_⟩)
   repeat (refine aK ?_)
   refine aG (R - (i + 1)) _ _ _ (by first | omega | (simp only [List.length_append, List.length_cons, List.length_nil]; omega)) aQ aF aD (⟨i + 1, a1, b1, q2, d1, d2, cx2, rows1, pz1, xs ++ [(i : Int)], by omega, rfl, by rw [hs]; exact hr1, by rw [hs]; exact hz1, by rw [hs, hxs]; simp, rfl, rfl, rfl⟩)
  | false =>
   simp only [Bool.false_eq_true, if_false] at hs
   (refine aA rfl (hA _ _ aB aB) rfl rfl ?_; rintro _ _ _ ⟨a1, b1, d1, d2, rows1, pz1, rfl, rfl, rfl, hr1, hz1⟩; refine ⟨okF, ?_⟩)
   repeat (refine aK ?_)
   refine aG (R - (i + 1)) _ _ _ (by first | omega | (simp only [List.length_append, List.length_cons, List.length_nil]; omega)) aQ aF aD (⟨i + 1, a1, b1, qx, d1, d2, cx, rows1, pz1, xs, by omega, rfl, by rw [hs]; exact hr1, by rw [hs]; exact hz1, by rw [hs]; exact hxs, rfl, rfl, rfl⟩)
 ·obtain rfl : i = R := by omega
  obtain ⟨sp, hsp⟩ : ∃ sp, (jX m.q qT i).1 = sp := ⟨_, rfl⟩
  obtain ⟨ix, hix⟩ : ∃ ix, (jX m.q qT i).2 = ix := ⟨_, rfl⟩
  rw [hsp] at hr hz hIR hleR hs1 hs4 ⊢
  rw [hix] at hs1 hs2 hs3 hs4 hxs ⊢
  have lz : pz.length = sp.length := by rw [hz, nP, oD]
  have lx : xs.length = sp.length := by rw [hxs, nP, hs1]
  refine aCA (fun _ hw => hw.freezeR (a := b) (m := pz.length) (c := c2) (cs := recs eZ pz) (e := 3) (sz := 1) (.there .here)) ?_
  refine aCA (fun _ hw => hw.freezeR (a := qx) (m := xs.length) (c := cx) (cs := recs eZ xs) (e := 3) (sz := 1) (.there (.there .here))) ?_
  have hSo := fun bV M0 I0 h1 h2 => aLD (X := X) (w0 := w0) (M0 := M0) (I0 := I0) (q := b) (zs := pz) (c := c2) (b := bV) (n := pz.length) rfl (by omega) h1 h2
  have hjx : xR id pz = zs (zC (pvS sp)) := by rw [hz, aRW]
  rw [hjx, lz] at hSo
  have hMi := fun qs' cs' M0 I0 hm h1 h2 => aCF (X := X) (w0 := w0) (M0 := M0) (I0 := I0) (m := m) (R := i) (n := n) (u := u) (r := sp.length) (ix := ix) (jx := zC (pvS sp)) (qr := qx) (qc := qs') (cr := cx) (cc := cs') dm.1 (fun t ht => (hs2 t ht).1) (fun t ht => aVB hIR t (srtN_perm.mem_iff.1 ht)) hs1 (by rw [aFD, oD]) (by omega) ⟨by omega, by omega⟩ hm h1 h2
  rw [hxs] at lx ⊢
  rw [lx, lz]
  repeat (refine aK ?_)
  (refine aA rfl (aMS) rfl rfl ?_; rintro _ _ _ ⟨rfl, bV, rfl, rfl⟩; refine ⟨okF, ?_⟩)
  (refine aA rfl (hSo bV _ _ aB aB) rfl rfl ?_; rintro _ _ _ ⟨rfl, q3, c3, rfl, rfl⟩; refine ⟨okF, ?_⟩)
  repeat (refine aK ?_)
  (refine aA rfl (hMi _ _ _ _ aB aB aB) rfl rfl ?_; rintro _ _ _ ⟨rfl, y, rfl, hy, hyd, rfl⟩; refine ⟨okF, ?_⟩)
  (refine aA rfl (aNJ (y := y) (r := sp.length) (u := u) (Nat.le_trans (iO u hleR) hb) hyd (by omega) aB) rfl rfl ?_; rintro _ _ _ ⟨rfl, e, rfl, he, rfl⟩; refine ⟨okF, ?_⟩)
  rw [hy] at he
  repeat (refine aK ?_)
  refine fK (vs := eR e) (cs' := [.slice qx sp.length cx, .slice q3 sp.length c3] ++ (eR e ++ [.slice none 0 0])) rfl rfl rfl (Ones.one e) jZ (.mk rfl (Nat.le_of_ble_eq_true rfl)) rfl rfl ⟨okF, ?_⟩
  repeat (refine aK ?_)
  (refine aA rfl (hNl _ _ aB) rfl rfl ?_; rintro _ _ _ ⟨rfl, kn, rfl, hkn, hknd, rfl⟩; refine ⟨okF, ?_⟩)
  repeat (refine aK ?_)
  have hju : (zC (pvS sp)).length = sp.length := by rw [aFD, oD]
  obtain ⟨e9, he9⟩ : ∃ e9 : KE, e9 = ⟨zs ix, zs (zC (pvS sp)), qx, cx, q3, c3, e, kn⟩ := ⟨_, rfl⟩
  have hcs : ([.slice qx sp.length cx, .slice q3 sp.length c3] ++ (eR e ++ [mv kn]) : List Value) = eKE e9 := by
   rw [he9]
   show _ = ([.slice qx (zs ix).length cx, .slice q3 (zs (zC (pvS sp))).length c3] ++ (eR e ++ [mv kn]) : List Value)
   rw [lx, nP, hju]
  refine fI (φ := isKE e9 (kb u n)) ⟨fun X w hw => by
   rw [he9]
   exact ⟨(hw _ (by exact aB) : SlI qx (recs eZ (zs ix)) X w), (hw _ (by exact aB) : SlI q3 (recs eZ (zs (zC (pvS sp)))) X w), ((hw _ (by exact aB) : IsR e (kb u sp.length) X w)).mono (iO u hleR), (hw _ (by exact aB) : IsX kn (kb u n) X w)⟩⟩ ?_
  refine uV (M' := .blk b7 ([.slice qx sp.length cx, .slice q3 sp.length c3] ++ (eR e ++ [mv kn])) 54 :: .blk b3 zKE 54 :: M0) (I' := isKE e9 (kb u n) :: I0) aF aD ?_
  rw [hcs]
  have hlen : (eKE e9).length = 7 := rfl
  have hrl : e9.ri.length = sp.length := by rw [he9]; exact lx
  (repeat refine aJ ?_); refine dS (.blk b7 (eKE e9) 54 :: M0) (isKE e9 (kb u n) :: I0) [0, 1, 2, 3, 4, 5, 6] [0, 0, 0, 0, 0, 0, 0] aF aD mixed (by kernel_rfl) ?_
  repeat (refine yXh ?_)
  refine fK (vs := eKE e9) (cs := zKE) rfl rfl rfl (Ones.one e9) jZ (.all rfl) rfl rfl ⟨okF, ?_⟩
  repeat (refine aK ?_)
  refine lH (rs := [.tmp 2, .cell 3 54, .tmp 4]) (vs := [.int .i64 (e9.ri.length : Int), .agg (eKE e9).toArray, .int .i64 0]) (.inl rfl) rfl (.tmp rfl (.cellN (cs := eKE e9) inferInstance rfl aB rfl (.tmp rfl .nil))) rfl M0 (isKE e9 (kb u n) :: I0) aF aD ⟨rfl, e9, by rw [hrl], by rw [he9], by rw [he9], by rw [he9]; exact he, by rw [he9]; exact hkn, by rw [he9]; exact hknd, rfl⟩
end
end Go.Proofs.YtkccjglmnhgabaaGreatDoor
namespace Go.Proofs.YtkccjglmnhgabaaGreatDoor
open Go Go.Fx
section
variable {X : List Nat} {w0 : World} {M0 : List Ent} {I0 : List bB}
end
end Go.Proofs.YtkccjglmnhgabaaGreatDoor
namespace Go.Proofs.YtkccjglmnhgabaaGreatDoor
open Go Go.Fx
def besI (n : Nat) (A : Mt) : Mt := uY n (n + n) (fun i j => if j < n then at2 A i j else dlt i (j - n))
def invM (n : Nat) (A : Mt) : Mt := uY n n (fun i j => at2 (mE (besI n A) n).1 i (n + j))
section
variable {X : List Nat} {w0 : World} {M0 : List Ent} {I0 : List bB}
end
end Go.Proofs.YtkccjglmnhgabaaGreatDoor
namespace Go.Proofs.YtkccjglmnhgabaaGreatDoor
open Go Go.Fx
structure IL where
 p : Option Addr
 c : Nat
 xs : List Int
instance : Inhabited IL := ⟨⟨none, 0, []⟩⟩
abbrev eIL (r : IL) : List Value := [.slice r.p r.xs.length r.c]
abbrev ivL (r : IL) : Value := .slice r.p r.xs.length r.c
instance : Sized eIL 1 := ⟨fun _ => rfl⟩
instance : Ones eIL := ⟨fun m u hu => by simp only [eIL, List.mem_cons, List.not_mem_nil, or_false] at hu; subst hu; rfl⟩
/- ---------- IndexFunc, ContainsFunc of [][]int ---------- -/
section
variable {X : List Nat} {w0 : World} {M0 : List Ent} {I0 : List bB}
end
section
variable {X : List Nat} {w0 : World} {M0 : List Ent} {I0 : List bB}
end
end Go.Proofs.YtkccjglmnhgabaaGreatDoor
namespace Go.Proofs.YtkccjglmnhgabaaGreatDoor
open Go Go.Fx
structure AllIL (rows : List IL) (X : List Nat) (w : World) : Prop where
 go : ∀ r ∈ rows, Sl X w r.p (recs (eI .i64) r.xs)
abbrev allIL (rows : List IL) : bB := AllIL rows
instance (rows : List IL) : Fx.Good (AllIL rows) := ⟨fun X Y w w' h he hY => ⟨fun r hm => Sl.carry (h.go r hm) he hY⟩⟩
abbrev bxI (b : Nat) (q : Option Addr) (n c : Nat) : bB := aW (some ⟨b, 0, none⟩) [.slice q n c]
section
variable {X : List Nat} {w0 : World} {M0 : List Ent} {I0 : List bB}
end
end Go.Proofs.YtkccjglmnhgabaaGreatDoor
namespace Go.Proofs.YtkccjglmnhgabaaGreatDoor
open Go Go.Fx
def kA : Mt := [[((2 : Int) : Rat), ((1 : Int) : Rat)], [((1 : Int) : Rat), ((1 : Int) : Rat)]]
def kC : Mt := [[((1 : Int) : Rat), ((-1 : Int) : Rat)], [((-1 : Int) : Rat), ((2 : Int) : Rat)]]
section
variable {X : List Nat} {w0 : World} {M0 : List Ent} {I0 : List bB}
end
end Go.Proofs.YtkccjglmnhgabaaGreatDoor
namespace Go.Proofs.YtkccjglmnhgabaaGreatDoor
def rsF (f : Nat → Nat → Rat) : Nat → Nat → Nat → Rat
 | 0 => f
 | k + 1 => fun i j => if k < i ∧ k ≤ j then rsF f k i j - rsF f k i k / rsF f k k k * rsF f k k j else rsF f k i j
def bk (f : Nat → Nat → Rat) (k : Nat) : Nat → Nat → Rat := fun a b => rsF f k (a + k) (b + k)
def pvs (f : Nat → Nat → Rat) : Nat → Rat
 | 0 => 1
 | k + 1 => pvs f k * bk f k 0 0
def qf (f : Nat → Nat → Rat) (v : Nat → Rat) (n k : Nat) : Rat := sm (n - k) (fun a => sm (n - k) (fun b => bk f k a b * v (a + k) * v (b + k)))
def yk (f : Nat → Nat → Rat) (v : Nat → Rat) (n k : Nat) : Rat := v k + sm (n - (k + 1)) (fun a => bk f k (a + 1) 0 / bk f k 0 0 * v (a + (k + 1)))
end Go.Proofs.YtkccjglmnhgabaaGreatDoor
namespace Go.Proofs.YtkccjglmnhgabaaGreatDoor
open Go Go.Fx
def qfr (A : Mt) (v : List Rat) (n : Nat) : Rat := sm n (fun t => v.getD t 0 * sm n (fun j => at2 A t j * v.getD j 0))
section
variable {X : List Nat} {w0 : World} {M0 : List Ent} {I0 : List bB}
end
end Go.Proofs.YtkccjglmnhgabaaGreatDoor
namespace Go.Fx
open Go.ChangeShapes Go.WideShapes Go.RowKit Go.ChangeAt
section
variable {H : Type} {enc : TypeId × Value → H} {P : Program} {W : World}
theorem aHD {sz : Nat} : ∀ (rows : List (List Value)) (k : Nat) (v : Value), (∀ r ∈ rows, r.length = sz) → rows.flatten[k]? = some v → ∃ i row, rows[i]? = some row ∧ i * sz ≤ k ∧ row[k - i * sz]? = some v
 | [], k, v, _, h => by simp at h
 | r :: rows, k, v, hr, h => by
  rw [List.flatten_cons] at h
  have hl := hr r (by simp)
  by_cases hk : k < r.length
  ·rw [List.getElem?_append_left hk] at h
   exact ⟨0, r, by simp, by omega, by simpa using h⟩
  ·rw [List.getElem?_append_right (by omega)] at h
   obtain ⟨i, row, h1, h2, h3⟩ := aHD rows _ v (fun r' hr' => hr r' (by simp [hr'])) h
   refine ⟨i + 1, row, by simpa using h1, by rw [Nat.add_mul]; omega, ?_⟩
   rw [← h3]
   congr 1
   rw [Nat.add_mul]; omega
theorem aMD {base fuel : Nat} {t e : TypeId} {v : Value} {x : DataW H × List MemPlace} (ht : P.underlying t = some (.slice e)) (hv : Value.okWide P W .any base t v) (h : DataW.trod enc P W 0 (fun _ => true) true fuel t v.cells.toList = some x) :
  ∃ (a : Option Addr) (len c : Nat), v = .slice a len c ∧ (len : Int) ≤ 9223372036854775807 ∧ len ≤ c ∧ (Ok a ∨ (a = none ∧ len = 0 ∧ c = 0)) ∧
   ∃ rows : List (List Value), rows.length = len ∧ (∀ r ∈ rows, r.length = P.cellsOf e ∧ ∃ n y, DataW.trod enc P W 0 (fun _ => true) true n e r = some y) ∧ Sl [] W a rows.flatten := by
 obtain ⟨a, len, c, rfl⟩ := okWide_slice ht hv
 obtain ⟨h1, h2, h3⟩ := aOP ht hv
 refine ⟨a, len, c, rfl, h1, h2, h3, ?_⟩
 rcases DataW.trod_slice ht h with ⟨hcs, _⟩ | ⟨a', len', cap', elems, rest, n, _, hcs, _, _, _, _, hlen, hel, _, _⟩
 ·simp [Value.cells] at hcs
  obtain ⟨rfl, rfl, rfl⟩ := hcs
  exact ⟨[], rfl, by simp, Sl.nil _ _ _⟩
 ·simp [Value.cells] at hcs
  obtain ⟨rfl, rfl, rfl⟩ := hcs
  have hok : Ok (some a') := h3.resolve_right (by simp)
  have each : ∀ i, i < len → ∃ cs y, W.cells? 0 (a'.add (i * P.cellsOf e)) (P.cellsOf e) = some cs ∧ DataW.trod enc P W 0 (fun _ => true) true n e cs = some y := fun i hi => by
   have := hel i hi
   rw [List.getElem?_eq_getElem (by omega), Option.bind_eq_some_iff] at this
   obtain ⟨cs, h1, h2⟩ := this
   exact ⟨cs, _, h1, h2⟩
  refine ⟨(List.range len).map (fun i => (W.cells? 0 (a'.add (i * P.cellsOf e)) (P.cellsOf e)).getD []), by simp, ?_, ?_⟩
  ·intro r hr
   obtain ⟨i, hi, rfl⟩ := List.mem_map.1 hr
   obtain ⟨cs, y, h4, h5⟩ := each i (by simpa using hi)
   rw [h4]
   exact ⟨(World.cells?_some h4).2.1, n, y, h5⟩
  ·intro j v hj
   have hall : ∀ r ∈ (List.range len).map (fun i => (W.cells? 0 (a'.add (i * P.cellsOf e)) (P.cellsOf e)).getD []), r.length = P.cellsOf e := by
    intro r hr
    obtain ⟨i, hi, rfl⟩ := List.mem_map.1 hr
    obtain ⟨cs, y, h4, h5⟩ := each i (by simpa using hi)
    rw [h4]
    exact (World.cells?_some h4).2.1
   obtain ⟨i, row, h4, h5, h6⟩ := aHD _ j v hall hj
   rw [List.getElem?_map] at h4
   obtain ⟨i', hi', rfl⟩ := Option.map_eq_some_iff.1 h4
   have hii : i' = i ∧ i < len := by
    obtain ⟨q1, q2⟩ := List.getElem?_eq_some_iff.1 hi'
    rw [List.getElem_range] at q2
    exact ⟨q2.symm, by simpa using q1⟩
   obtain ⟨rfl, hil⟩ := hii
   obtain ⟨cs, y, h7, h8⟩ := each i' hil
   rw [h7] at h6
   simp only [Option.getD_some] at h6
   obtain ⟨_, hl, hc⟩ := World.cells?_some h7
   have hlt : j - i' * P.cellsOf e < P.cellsOf e := by
    have := (List.getElem?_eq_some_iff.1 h6).1
    omega
   have hcell := hc _ hlt
   rw [h6] at hcell
   refine ⟨hok, by simp, ?_⟩
   obtain ⟨b, o, eq⟩ := hok.cases
   injection eq with eq
   subst eq
   rw [add_lit, add_lit] at hcell
   rw [← hcell]
   simp only [pt, bl, of, Option.getD_some]
   congr 2
   omega
theorem aGA {α : Type} {en : α → List Value} {Pm : α → Prop} {base : Nat} {t e : TypeId} {v : Value} {d : DataW H} {p : List MemPlace} (ht : P.underlying t = some (.slice e)) (hdec : ∀ (r : List Value) n y, r.length = P.cellsOf e → DataW.trod enc P W 0 (fun _ => true) true n e r = some y → ∃ m, r = en m ∧ Pm m)
  (hv : Value.okWide P W .any base t v) (h : DataW.Trod enc P W 0 (fun _ => true) true t v d p) :
  ∃ (a : Option Addr) (ms : List α) (c : Nat), v = .slice a ms.length c ∧ Sl [] W a (recs en ms) ∧ (∀ m ∈ ms, Pm m) ∧ (ms.length : Int) ≤ 9223372036854775807 ∧ ms.length ≤ c ∧ (Ok a ∨ (a = none ∧ ms.length = 0 ∧ c = 0)) := by
 obtain ⟨fuel, hf⟩ := h
 obtain ⟨a, len, c, rfl, h1, h2, h3, rows, hl, hr, hs⟩ := aMD ht hv hf
 have key : ∀ rows : List (List Value), (∀ r ∈ rows, r.length = P.cellsOf e ∧ ∃ n y, DataW.trod enc P W 0 (fun _ => true) true n e r = some y) → ∃ ms : List α, rows = ms.map en ∧ ∀ m ∈ ms, Pm m := by
  intro rows
  induction rows with
  | nil => intro _; exact ⟨[], rfl, by simp⟩
  | cons r rows ih =>
   intro hr
   obtain ⟨hrl, n, y, hy⟩ := hr r (by simp)
   obtain ⟨m, rfl, hm⟩ := hdec r n y hrl hy
   obtain ⟨ms, rfl, hms⟩ := ih (fun r' hr' => hr r' (by simp [hr']))
   exact ⟨m :: ms, rfl, fun m' hm' => by
    rcases List.mem_cons.1 hm' with rfl | hm'
    ·exact hm
    ·exact hms m' hm'⟩
 obtain ⟨ms, rfl, hms⟩ := key rows hr
 have hlen : ms.length = len := by simpa using hl
 subst hlen
 refine ⟨a, ms, c, rfl, ?_, hms, h1, h2, h3⟩
 rw [← List.flatMap_def] at hs
 exact hs
theorem aSE {t : TypeId} {k : IntKind} {n : Nat} {cs : List Value} {y : DataW H × List MemPlace} (ht : P.underlying t = some (.int k)) (h : DataW.trod enc P W 0 (fun _ => true) true n t cs = some y) : ∃ x : Int, cs = [.int k x] ∧ (Lit.int k x).wf = true := by
 obtain ⟨m, h1, _, h2⟩ := DataW.trod_int ht h
 exact ⟨m, h1, h2⟩
theorem aNW {t : TypeId} {k : IntKind} {m n : Nat} {cs : List Value} {y : DataW H × List MemPlace} {fs : Array Field} (ht : P.underlying t = some (.struct fs)) (hf : fs.toList.map (fun (f : Field) => (f.offset, P.cellsOf f.type)) = (List.range m).map (fun i => (i, 1))) (hk : ∀ f ∈ fs.toList, P.underlying f.type = some (.int k)) (hl : cs.length = m)
  (h : DataW.trod enc P W 0 (fun _ => true) true n t cs = some y) : ∃ xs : List Int, cs = xs.map (Value.int k) ∧ xs.length = m ∧ ∀ x ∈ xs, (Lit.int k x).wf = true := by
 obtain ⟨zs, n', rfl, _, _, hzl, hz⟩ := DataW.trod_struct ht h
 have each : ∀ i, i < m → ∃ x : Int, cs[i]? = some (.int k x) ∧ (Lit.int k x).wf = true := fun i hi => by
  have hsz : fs.toList.length = m := by have := congrArg List.length hf; simpa using this
  obtain ⟨f, hfi⟩ : ∃ f, fs.toList[i]? = some f := ⟨_, List.getElem?_eq_getElem (by omega)⟩
  have hoff : (f.offset, P.cellsOf f.type) = (i, 1) := by
   have : (fs.toList.map (fun f => (f.offset, P.cellsOf f.type)))[i]? = some (f.offset, P.cellsOf f.type) := by rw [List.getElem?_map, hfi]; rfl
   rw [hf, List.getElem?_map, List.getElem?_range hi] at this
   simpa using this.symm
  injection hoff with ho hc
  have hf2 : fs[i]? = some f := by simpa using hfi
  have := hz i f hf2
  rw [List.getElem?_eq_getElem (by rw [hzl]; exact (Array.getElem?_eq_some_iff.1 hf2).1), ho, hc] at this
  obtain ⟨x, hx, hw⟩ := aSE (hk f (List.mem_of_getElem? hfi)) this
  refine ⟨x, ?_, hw⟩
  have : ((cs.drop i).take 1)[0]? = some (.int k x) := by rw [hx]; rfl
  rw [List.getElem?_take, if_pos (by omega), List.getElem?_drop] at this
  simpa using this
 refine ⟨cs.map (fun v => match v with | .int _ x => x | _ => 0), ?_, by simpa using hl, ?_⟩
 ·apply List.ext_getElem
  ·simp
  ·intro i h1 h2
   obtain ⟨x, hx, _⟩ := each i (by omega)
   have : cs[i] = .int k x := by
    have := (List.getElem?_eq_some_iff.1 hx).2
    exact this
   simp [this]
 ·intro x hx
  obtain ⟨v, hv, rfl⟩ := List.mem_map.1 hx
  obtain ⟨i, hi, rfl⟩ := List.mem_iff_getElem.1 hv
  obtain ⟨y, hy, hw⟩ := each i (by omega)
  have : cs[i] = .int k y := (List.getElem?_eq_some_iff.1 hy).2
  rw [this]
  exact hw
theorem aFE {xs : List Int} (h : xs.length = 3) : ∃ a b c, xs = [a, b, c] := by
 match xs, h with
 | [a, b, c], _ => exact ⟨a, b, c, rfl⟩
theorem Mem.startS {W : World} {I : List bB} {a : Option Addr} {cs : List Value} (h : Mem [] W [] I W) (hs : Sl [] W a cs) : Mem [] W [] (aW a cs :: I) W := h.add (φ := aW a cs) ⟨hs⟩
end
end Go.Fx
namespace Go.Proofs.YtkccjglmnhgabaaGreatDoor
open Go Go.Fx
open Go.ChangeShapes Go.WideShapes Go.RowKit Go.ChangeAt
section
variable {H : Type} {enc : TypeId × Value → H} {P : Program} {W : World}
end
section
variable {H : Type} {enc : TypeId × Value → H} {W : World}
end
end Go.Proofs.YtkccjglmnhgabaaGreatDoor
namespace Go.Proofs.YtkccjglmnhgabaaGreatDoor
open Go Go.Fx
open Go.ChangeShapes Go.WideShapes Go.RowKit Go.ChangeAt
def RW.reach (r : RW) : Prop := r.g1.length ≤ 35184372088832 ∧ r.g2.length ≤ 35184372088832
section
variable {H : Type} {enc : TypeId × Value → H} {P : Program} {W : World}
end
end Go.Proofs.YtkccjglmnhgabaaGreatDoor
namespace Go.Proofs.YtkccjglmnhgabaaGreatDoor
open Go Go.Fx
open Go.ChangeShapes Go.WideShapes Go.RowKit Go.ChangeAt
def WL.rch (r : WL) : Prop := r.es.length ≤ 35184372088832 ∧ ∀ e ∈ r.es, e.reach
def WM.rch (m : WM) : Prop := m.rows.length ≤ 35184372088832 ∧ ∀ r ∈ m.rows, r.rch
section
variable {H : Type} {enc : TypeId × Value → H} {P : Program} {W : World}
end
section
variable {H : Type} {enc : TypeId × Value → H} {W : World}
end
end Go.Proofs.YtkccjglmnhgabaaGreatDoor

/- rank, minor, determinant of the program. Rank of the program, and its proof. -/
import Derived.Test.YtkccjglmnhgabaaGreatZjbi
import Derived.Test.YtkccjglmnhgabaaGreatZjbh
import Derived.Test.YtkccjglmnhgabaaGreatZjam
import Derived.Test.YtkccjglmnhgabaaGreatZjbc
set_option linter.unusedSimpArgs false
set_option linter.unusedVariables false
set_option maxRecDepth 100000
set_option maxHeartbeats 4000000
namespace Go.Proofs.YtkccjglmnhgabaaGreat
open Go Go.Fx
theorem wC {C : Nat} {sp : Sp} (h : SpI C sp) : sp.length ≤ C := by rw [← aFK h]; exact wX (tO h)
theorem zA {m : MX} {i : Nat} (h : i < m.rows.length) : rowAt m.q i = (gt m.rows (i : Int)).q := by rw [aMI h]
def qT : Nat → Bool := fun _ => true
theorem aJQ {A : Mt} {i : Nat} : jR A qT (i + 1) = ((adS (jR A qT i).1 (rowAt A i)).2, if (adS (jR A qT i).1 (rowAt A i)).1 then (jR A qT i).2 ++ [i] else (jR A qT i).2) := xQ rfl
section
variable {X : List Nat} {w0 : World} {M0 M1 : List Ent} {I0 : List aZ}
theorem aMH {m : MX} {R n u : Nat} (dm : m.dim R n) (hn : 1 ≤ n ∧ n ≤ 100) (hR : R ≤ 1000) (hu : 4 * kb u n + 2 ≤ 400000000000) (hm : fJ m u ∈ I0) :
  CD Tryz.prog 79 [mv m] X w0 M0 I0 (fun v M I => M0 = M ∧ I0 = I ∧ v = .int .i64 (((jR m.q qT R).1.length : Nat) : Int)) := by
 have lR := dm.1
 refine cK (φ := fJ m u) (Hv.mem hm) ?_
 refine cK (φ := aQ (m).p (recs eL (m).rows)) (Hv.xsl aB) ?_
 refine aU Tryz.func79 rfl Tryz.ntmps79 rfl ?_
 repeat (refine aK ?_)
 (refine aC rfl (fun _ => cZ (pvs := ([]).zipIdx.map (fun p => (p.2, p.1))) (cells := [.slice none 0 0, .slice none 0 0]) rfl rfl) rfl rfl ?_)
 (refine aR rfl rfl rfl ?_; intro ps; refine ⟨okF, ?_⟩)
 repeat (refine aK ?_)
 rw [lR]
 refine kI 3 1 ?_
 refine kI 39 1 ?_
 refine dK (φ := allK [] u) Hv.nilK ?_
 refine aM [3, 8, 9] rfl (fun k G M I => ∃ (i : Nat) (a b : Option Addr) (c c2 : Nat) (rows : List RL) (pz : List Int), i ≤ R ∧ k = R - i ∧ rows.map RL.q = mtS (jR m.q qT i).1 ∧ pz = zs (yM (jR m.q qT i).1) ∧ G = [(10, .int .i64 i)] ∧ M = .row a rows.length c (recs eL rows) 39 1 :: .row b pz.length c2 (recs eZ pz) 3 1 :: .blk ps [.slice a rows.length c, .slice b pz.length c2] 115 :: M0 ∧ I = allK rows u :: aQ m.p (recs eL m.rows) :: fJ m u :: I0) (R) _ _ _ aP aG aD (⟨0, none, none, 0, 0, [], [], by omega, rfl, rfl, rfl, rfl, rfl, rfl⟩) ?_
 rintro kk G M I ⟨i, a, b, c, c2, rows, pz, hi, rfl, hr, hz, rfl, rfl, rfl⟩
 have hI := nR (q := qT) (kL dm) (k := i) (by omega)
 have hle := wC hI
 have hku := gU u hle
 by_cases hin : i < R
 ·have hrow := dm.row (i := i) hin
  have hq := zA (m := m) (i := i) (by omega)
  have hs := aJQ (A := m.q) (i := i)
  rw [hq] at hs
  obtain ⟨sp, hsp⟩ : ∃ sp, (jR m.q qT i).1 = sp := ⟨_, rfl⟩
  rw [hsp] at hr hz hI hle hku hs
  refine dK (φ := nD (gt m.rows (i : Int)) u) (Hv.xrow aB (by omega)) ?_
  repeat (refine aK ?_)
  (refine aA rfl (aGL (n := n) (u := u) (x := gt m.rows (i : Int)) (sp := sp) hn (by omega) (by omega) hrow hI hr hz aB aB) rfl rfl ?_; rintro _ _ _ ⟨a1, b1, c1, d1, rows1, pz1, rfl, rfl, rfl, hr1, hz1⟩; refine ⟨okF, ?_⟩)
  repeat (refine aK ?_)
  refine aJ (R - (i + 1)) _ _ _ (by first | omega | (simp only [List.length_append, List.length_cons, List.length_nil]; omega)) aP aG aD (⟨i + 1, a1, b1, c1, d1, rows1, pz1, by omega, rfl, by rw [hs]; exact hr1, by rw [hs]; exact hz1, rfl, rfl, rfl⟩)
 ·obtain rfl : i = R := by omega
  have lz : pz.length = (jR m.q qT i).1.length := by rw [hz, kS, jY]
  rw [← lz]
  repeat (refine aK ?_)
  refine aF (by first | exact .inl rfl | exact .inr rfl) rfl rfl _ _ aG aD (⟨rfl, rfl, rfl⟩)
theorem aIN {A : Mt} {ix jx : List Nat} {i : Nat} : mnr A (ix ++ [i]) jx = mnr A ix jx ++ [jx.map (fun j => at2 A i j)] := by simp [mnr]
theorem sV {l : List Nat} {i : Nat} (h : i < l.length) : l.take (i + 1) = l.take i ++ [l.getD i 0] := by
 rw [List.take_add_one]; congr 1
 simp [List.getD, h]
theorem aDO {m : MX} {R n u r : Nat} {ix jx : List Nat} {qr qc : Option Addr} {cr cc : Nat} (dm : m.dim R n) (hi : ∀ i ∈ ix, i < R) (hj : ∀ j ∈ jx, j < n) (li : ix.length = r) (lj : jx.length = r) (hr : r ≤ 64) (hn : n ≤ 100 ∧ R ≤ 100) (hm : fJ m u ∈ I0) (h1 : aQ qr (recs eZ (zs ix)) ∈ I0) (h2 : aQ qc (recs eZ (zs jx)) ∈ I0) :
  CD Tryz.prog 64 [mv m, .slice qr r cr, .slice qc r cc] X w0 M0 I0 (fun v M I => M0 = M ∧ ∃ y : MX, v = mv y ∧ y.q = mnr m.q ix jx ∧ y.dim r r ∧ I = fJ y u :: I0) := by
 have lR := dm.1
 have zi : (zs ix).length = r := by rw [kS, li]
 have zj : (zs jx).length = r := by rw [kS, lj]
 have hix : ∀ a : Nat, a < r → gt (zs ix) (a : Int) = ((ix.getD a 0 : Nat) : Int) ∧ ix.getD a 0 < R := fun a ha => ⟨xA (by omega), hi _ (eP.2 ⟨a, by omega, rfl⟩)⟩
 have hjx : ∀ a : Nat, a < r → gt (zs jx) (a : Int) = ((jx.getD a 0 : Nat) : Int) ∧ jx.getD a 0 < n := fun a ha => ⟨xA (by omega), hj _ (eP.2 ⟨a, by omega, rfl⟩)⟩
 refine cK (φ := aQ qr (recs eZ (zs ix))) (Hv.mem h1) ?_
 refine cK (φ := aQ qc (recs eZ (zs jx))) (Hv.mem (List.Mem.tail _ h2)) ?_
 refine cK (φ := fJ m u) (Hv.mem (List.Mem.tail _ (List.Mem.tail _ hm))) ?_
 refine cK (φ := aQ (m).p (recs eL (m).rows)) (Hv.xsl aB) ?_
 refine lJ Tryz.func64 rfl Tryz.ntmps64 rfl ?_
 repeat (refine aK ?_)
 refine kI 39 1 ?_
 refine dK (φ := nS [] u) Hv.nilL ?_
 refine aM [0, 2, 13, 14] rfl (fun k G M I => ∃ (i : Nat) (rs : List RL) (q : Option Addr) (c : Nat), i ≤ r ∧ k = r - i ∧ rs.length = i ∧ (∀ y ∈ rs, y.es.length = r) ∧ rs.map RL.q = mnr m.q (ix.take i) jx ∧ G = [(7, .slice q rs.length c), (15, .int .i64 i)] ∧ M = .row q rs.length c (recs eL rs) 39 1 :: M0 ∧ I = nS rs u :: aQ m.p (recs eL m.rows) :: fJ m u :: aQ qc (recs eZ (zs jx)) :: aQ qr (recs eZ (zs ix)) :: I0) (r) _ _ _ aP aG aD (⟨0, [], none, 0, by omega, rfl, rfl, by simp, rfl, rfl, rfl, rfl⟩) ?_
 rintro kk G M I ⟨i, rs, q, c, hir, rfl, hrl, hrc, hrq, rfl, rfl, rfl⟩
 by_cases hin : i < r
 ·obtain ⟨g1, g2⟩ := hix i hin
  obtain ⟨s, hs⟩ : ∃ s, ix.getD i 0 = s := ⟨_, rfl⟩
  have ht := sV (l := ix) (i := i) (by omega)
  rw [hs] at g1 g2 ht
  have hrow := dm.row (i := s) g2
  refine dK (φ := aQ (gt m.rows (s : Int)).p (recs eR (gt m.rows (s : Int)).es)) (Hv.xrsl aB (by omega)) ?_
  refine dK (φ := nD (gt m.rows (s : Int)) u) (Hv.xrow aB (by omega)) ?_
  repeat (refine aK ?_)
  rw [g1]
  repeat (refine aK ?_)
  refine kI 37 4 ?_
  refine dK (φ := dB [] u) Hv.nilR ?_
  refine aM [0, 2, 7, 9, 13, 14, 15, 19, 20] rfl (fun k G M I => ∃ (j : Nat) (es : List RE) (ql : Option Addr) (cl : Nat), j ≤ r ∧ k = r - j ∧ es.length = j ∧ qs es = (jx.take j).map (fun j => at2 m.q s j) ∧ G = [(10, .slice ql es.length cl), (21, .int .i64 j)] ∧ M = .row ql es.length cl (recs eR es) 37 4 :: .row q rs.length c (recs eL rs) 39 1 :: M0 ∧ I = dB es u :: nD (gt m.rows (s : Int)) u :: aQ (gt m.rows (s : Int)).p (recs eR (gt m.rows (s : Int)).es) :: nS rs u :: aQ m.p (recs eL m.rows) :: fJ m u :: aQ qc (recs eZ (zs jx)) :: aQ qr (recs eZ (zs ix)) :: I0) (r) _ _ _ aP aG aD (⟨0, [], none, 0, by omega, rfl, rfl, rfl, rfl, rfl, rfl⟩) ?_
  rintro kk G M I ⟨j, es, ql, cl, hjr, rfl, hel, heq, rfl, rfl, rfl⟩
  by_cases hjn : j < r
  ·obtain ⟨f1, f2⟩ := hjx j hjn
   obtain ⟨t, htt⟩ : ∃ t, jx.getD j 0 = t := ⟨_, rfl⟩
   have ht2 := sV (l := jx) (i := j) (by omega)
   rw [htt] at f1 f2 ht2
   obtain ⟨e, he⟩ : ∃ e, gt (gt m.rows (s : Int)).es (t : Int) = e := ⟨_, rfl⟩
   have hat := sN (m := m) (i := s) (j := t) (by omega) (by omega)
   rw [he] at hat
   refine dK (φ := dX e u) (by rw [← he]; exact Hv.lel aB (by omega)) ?_
   repeat (refine aK ?_)
   rw [f1]
   repeat (refine aK ?_)
   rw [he]
   (refine aW (cs := recs eR [e]) ([rv e]) rfl rfl (by intro v hv; repeat (first | exact absurd hv (List.not_mem_nil) | (rcases List.mem_cons.1 hv with rfl | hv; · rfl))) (by omega) rfl rfl rfl ?_; intro b; refine ⟨okF, ?_⟩)
   (refine dD (ys := [e]) 1 rfl rfl rfl ?_ (by decide) rfl (by omega) (by omega) rfl rfl ?_; (· first | exact Src.blk aB | exact Src.row aB | exact Src.imm aB (by first | assumption | exact .inl (Ok.mk _ _))); intro q2 c3; refine ⟨okF, ?_⟩)
   repeat (refine aK ?_)
   refine gP (φ := dB (es ++ [e]) u) (Hv.snoc aB aB) ?_
   refine aJ (r - (j + 1)) _ _ _ (by first | omega | (simp only [List.length_append, List.length_cons, List.length_nil]; omega)) aP aG aD (⟨j + 1, es ++ [e], q2, c3, by omega, rfl, by simp [hel], ?_, rfl, rfl, rfl⟩)
   rw [ht2, List.map_append, ← heq, List.map_singleton, hat]
   simp [qs]
  ·obtain rfl : j = r := by omega
   rw [← lj, List.take_length] at heq
   refine aTE (k := u) aB ?_
   obtain ⟨y, hy⟩ : ∃ y : RL, y = ⟨ql, cl, es⟩ := ⟨_, rfl⟩
   have hvv : Value.slice ql es.length cl = lv y := by rw [hy]
   have hyq : y.q = jx.map (fun j => at2 m.q s j) := by rw [hy]; exact heq
   have hyl : y.es.length = j := by rw [hy]; exact hel
   rw [hvv, ← hy]
   repeat (refine aK ?_)
   (refine aW (cs := recs eL [y]) ([lv y]) rfl rfl (by intro v hv; repeat (first | exact absurd hv (List.not_mem_nil) | (rcases List.mem_cons.1 hv with rfl | hv; · rfl))) (by omega) rfl rfl rfl ?_; intro b2; refine ⟨okF, ?_⟩)
   (refine dD (ys := [y]) 1 rfl rfl rfl ?_ (by decide) rfl (by omega) (by omega) rfl rfl ?_; (· first | exact Src.blk aB | exact Src.row aB | exact Src.imm aB (by first | assumption | exact .inl (Ok.mk _ _))); intro q2 c3; refine ⟨okF, ?_⟩)
   repeat (refine aK ?_)
   refine gP (φ := nS (rs ++ [y]) u) (Hv.snocL aB aB) ?_
   refine aJ (j - (i + 1)) _ _ _ (by first | omega | (simp only [List.length_append, List.length_cons, List.length_nil]; omega)) aP aG aD (⟨i + 1, rs ++ [y], q2, c3, by omega, rfl, by simp [hrl], fun z hz => ?_, ?_, rfl, rfl, rfl⟩)
   ·rcases List.mem_append.1 hz with h | h
    ·exact hrc z h
    ·rw [List.mem_singleton.1 h]; exact hyl
   ·rw [yT, hrq, ht, aIN, hyq]
 ·obtain rfl : i = r := by omega
  rw [← li, List.take_length] at hrq
  repeat (refine aK ?_)
  refine aCP (k := u) aB ?_
  refine aF (by first | exact .inl rfl | exact .inr rfl) rfl rfl _ _ aG aD (⟨rfl, ⟨q, c, rs⟩, rfl, hrq, ⟨hrl, hrc⟩, rfl⟩)
theorem aSU {y : MX} {r u : Nat} (hb : kb u r ≤ 20000000000) (dy : y.dim r r) (hr : r ≤ 64) (hy : fJ y u ∈ I0) :
  CD Tryz.prog 63 [mv y] X w0 M0 I0 (RQ (dt r (at2 y.q)) (kb u r) M0 I0) := by
 have lr := dy.1
 have hW := fun M0 I0 => qC (X := X) (w0 := w0) (M0 := M0) (I0 := I0) (x := 1) (by decide) (k := u) (show 1 ≤ 2 ^ u from Nat.one_le_two_pow)
 have hu0 : u ≤ kb u r := gU u (Nat.zero_le r)
 have hD : 1 ≤ r → ∀ M0 I0, fJ y u ∈ I0 → CD Tryz.prog 122 [mv y] X w0 M0 I0 (RQc (dt r (at2 y.q)) (kb u r) M0 I0) := fun h1 M0 I0 h => aAI (X := X) (w0 := w0) (M0 := M0) (I0 := I0) (a := y) (n := r) (k0 := u) hb (by omega) ⟨dy, ⟨h1, hr⟩, h1, hr⟩ h
 refine cK (φ := fJ y u) (Hv.mem hy) ?_
 refine aU Tryz.func63 rfl Tryz.ntmps63 rfl ?_
 refine aI ?_
 refine aH ?_
 (refine aL rfl rfl ?_; intro b2; refine ⟨okF, ?_⟩)
 by_cases h0 : r = 0
 ·subst h0
  repeat (refine aK ?_)
  (refine aA rfl (hW _ _) rfl rfl ?_; rintro _ _ _ ⟨rfl, e, rfl, he, rfl⟩; refine ⟨okF, ?_⟩)
  repeat (refine aK ?_)
  refine bK (cs := eR e) (.inl rfl) rfl rfl aB rfl M0 (dX e u :: I0) aG aD ⟨rfl, e, rfl, he, rfl⟩
 ·repeat (refine aK ?_)
  (refine aA rfl (hD (by omega) _ _ aB) rfl rfl ?_; rintro _ _ _ ⟨rfl, e, rfl, he, rfl⟩; refine ⟨okF, ?_⟩)
  repeat (refine aK ?_)
  (refine aL rfl rfl ?_; intro b3; refine ⟨okF, ?_⟩)
  repeat (refine aK ?_)
  refine bK (cs := eR e) (.inl rfl) rfl rfl aB rfl M0 (dX e (kb u r) :: I0) aG aD ⟨rfl, e, rfl, he, rfl⟩
end
end Go.Proofs.YtkccjglmnhgabaaGreat
namespace Go.Proofs.YtkccjglmnhgabaaGreat
open Go Go.Fx
structure KE where
 ri : List Int
 ci : List Int
 pr : Option Addr
 cr : Nat
 pc : Option Addr
 cc : Nat
 d : RE
 kn : MX
abbrev eKE (e : KE) : List Value := [.slice e.pr e.ri.length e.cr, .slice e.pc e.ci.length e.cc] ++ (eR e.d ++ [mv e.kn])
abbrev vKE (e : KE) : Value := .agg (eKE e).toArray
structure IsKE (e : KE) (k : Nat) (X : List Nat) (w : World) : Prop where
 r : SlI e.pr (recs eZ e.ri) X w
 c : SlI e.pc (recs eZ e.ci) X w
 d : IsR e.d k X w
 n : IsX e.kn k X w
abbrev isKE (e : KE) (k : Nat) : aZ := IsKE e k
instance isKE.gd (e : KE) (k : Nat) : Fx.Good (IsKE e k) := ⟨fun X Y w w' h he hY => ⟨Fx.Good.go (φ := SlI _ _) X Y w w' h.r he hY, Fx.Good.go (φ := SlI _ _) X Y w w' h.c he hY, Fx.Good.go (φ := IsR _ _) X Y w w' h.d he hY, Fx.Good.go (φ := IsX _ _) X Y w w' h.n he hY⟩⟩
instance eKE.ones : Ones eKE := ⟨fun m u hu => by
 simp only [List.mem_append, List.mem_cons, List.not_mem_nil, or_false] at hu
 rcases hu with (rfl | rfl) | (rfl | rfl | rfl | rfl) | rfl <;> rfl⟩
abbrev zKE : List Value := [.slice none 0 0, .slice none 0 0, .bool false, .slice none 0 0, .bool false, .slice none 0 0, .slice none 0 0]
def tF (pv : List Nat) : List Nat := (yP id (zs pv)).map Int.toNat
theorem aLD {pv : List Nat} : zs (tF pv) = yP id (zs pv) := by
 unfold tF
 have h : ∀ z ∈ yP id (zs pv), ((z.toNat : Nat) : Int) = z := fun z hz => by
  have := (aHM (key := id) (zs pv)).mem_iff.1 hz
  obtain ⟨x, _, rfl⟩ := List.mem_map.1 this
  rfl
 have : ∀ l : List Int, (∀ z ∈ l, ((z.toNat : Nat) : Int) = z) → zs (l.map Int.toNat) = l := by
  intro l
  induction l with
  | nil => intro _; rfl
  | cons x r ih => intro hl; show ((x.toNat : Nat) : Int) :: zs (r.map Int.toNat) = x :: r; rw [hl x (by simp), ih (fun z hz => hl z (by simp [hz]))]
 exact this _ h
theorem aHR : ∀ {pv : List Nat}, (zs pv).map Int.toNat = pv
 | [] => rfl
 | x :: r => by show ((x : Int).toNat) :: (zs r).map Int.toNat = x :: r; rw [aHR]; simp
theorem srtN_perm {pv : List Nat} : (tF pv).Perm pv := by
 have h := (aHM (key := id) (zs pv)).map Int.toNat
 rw [aHR] at h; exact h
theorem aCU {pv : List Nat} : (tF pv).length = pv.length := srtN_perm.length_eq
theorem aSE {pv : List Nat} (h : pv.Nodup) : (tF pv).Pairwise (· < ·) := by
 have h1 : (tF pv).Nodup := srtN_perm.nodup_iff.2 h
 have h2 := aML id (zs pv)
 rw [← aLD] at h2
 have h3 : (tF pv).Pairwise (· ≤ ·) := by
  have : (zs (tF pv)).Pairwise (fun a b => id a ≤ id b) := h2
  rw [List.pairwise_map] at this
  exact this.imp (fun h => by simpa using h)
 exact (h3.and h1).imp (fun ⟨a, b⟩ => by omega)
section
variable {X : List Nat} {w0 : World} {M0 M1 : List Ent} {I0 : List aZ}
theorem aPB {a : WM} (sa : a.sml) (hc : ¬ a.ok) (ha : iE a ∈ I0) : CD Tryz.prog 19 [yI a] X w0 M0 I0 (fun v M I => M0 = M ∧ I0 = I ∧ v = .tuple #[.int .i64 0, .agg zKE.toArray, .int .i64 1]) := by
 have hC := fun M0 I0 h => oV (X := X) (w0 := w0) (M0 := M0) (I0 := I0) (m := a) sa h
 have e1 : a.code = 1 := by unfold WM.code; rw [if_neg hc]
 rw [e1] at hC
 refine aU Tryz.func19 rfl Tryz.ntmps19 rfl ?_
 refine aI ?_
 refine aH ?_
 repeat (refine aK ?_)
 (refine aL rfl rfl ?_; intro b3; refine ⟨okF, ?_⟩)
 repeat (refine aK ?_)
 (refine aA rfl (hC _ _ aB) rfl rfl ?_; rintro _ _ _ ⟨rfl, rfl, rfl⟩; refine ⟨okF, ?_⟩)
 repeat (refine aK ?_)
 (refine aC rfl (fun _ => cZ (pvs := ([]).zipIdx.map (fun p => (p.2, p.1))) (cells := zKE) rfl rfl) rfl rfl ?_)
 repeat (refine aK ?_)
 refine kU (rs := [.tmp 2, .cell 3 55, .tmp 4]) (vs := [.int .i64 0, .agg zKE.toArray, .int .i64 1]) (.inl rfl) rfl (.tmp rfl (.cellN (cs := zKE) inferInstance rfl aB rfl (.tmp rfl .nil))) rfl M0 I0 aG aD ⟨rfl, rfl, rfl⟩
theorem yE {m : MX} {R n u : Nat} (dm : m.fit R n) (hn12 : n ≤ 12) (hb : kb u n ≤ 20000000000) (hm : fJ m u ∈ I0) :
  CD Tryz.prog 19 [mv m] X w0 M0 I0 (fun v M I => M0 = M ∧ ∃ e : KE, v = .tuple #[.int .i64 (((jR m.q qT R).1.length : Nat) : Int), vKE e, .int .i64 0] ∧ e.ri = zs (jR m.q qT R).2 ∧ e.ci = zs (tF (yM (jR m.q qT R).1)) ∧ e.d.q = dt (jR m.q qT R).1.length (at2 (mnr m.q (jR m.q qT R).2 (tF (yM (jR m.q qT R).1)))) ∧ e.kn.q = pG m.q n ∧ (∀ r ∈ e.kn.rows, r.es.length = n) ∧ I = isKE e (kb u n) :: I0) := by
 have lR := dm.1.1
 obtain ⟨r1, r2⟩ := dm.2.1
 obtain ⟨c1, c2⟩ := dm.2.2
 have hu0 : u ≤ kb u n := gU u (Nat.zero_le n)
 refine jM (fun w hw => Mem.xsml hm dm (by omega) hw) (fun sa => ?_)
 have hC := fun M0 I0 h => oV (X := X) (w0 := w0) (M0 := M0) (I0 := I0) (m := m.raw) sa h
 have e0 : m.raw.code = 0 := by unfold WM.code; rw [if_pos dm.ok]
 rw [e0, jT] at hC
 have hdL := kL dm.1
 have hIR := nR (q := qT) hdL (k := R) (Nat.le_refl _)
 obtain ⟨hs1, hs2, hs3, hs4⟩ := aAS (q := qT) hdL (k := R) (Nat.le_refl _)
 have hleR := wC hIR
 have hNl := fun M0 I0 h => aWI (X := X) (w0 := w0) (M0 := M0) (I0 := I0) (a := m) (R := R) (C := n) (k0 := u) hb dm h
 refine cK (φ := fJ m u) (Hv.mem hm) ?_
 refine cK (φ := iE m.raw) (Hv.xraw (List.Mem.head _) (by omega)) ?_
 refine cK (φ := aQ (m).p (recs eL (m).rows)) (Hv.xsl aB) ?_
 refine aU Tryz.func19 rfl Tryz.ntmps19 rfl ?_
 refine aI ?_
 refine aH ?_
 repeat (refine aK ?_)
 (refine aL rfl rfl ?_; intro b3; refine ⟨okF, ?_⟩)
 repeat (refine aK ?_)
 (refine aA rfl (hC _ _ aB) rfl rfl ?_; rintro _ _ _ ⟨rfl, rfl, rfl⟩; refine ⟨okF, ?_⟩)
 repeat (refine aK ?_)
 (refine aC rfl (fun _ => cZ (pvs := ([]).zipIdx.map (fun p => (p.2, p.1))) (cells := [.slice none 0 0, .slice none 0 0]) rfl rfl) rfl rfl ?_)
 (refine aR rfl rfl rfl ?_; intro ps; refine ⟨okF, ?_⟩)
 repeat (refine aK ?_)
 (refine aL rfl rfl ?_; intro b7; refine ⟨okF, ?_⟩)
 repeat (refine aK ?_)
 rw [lR]
 refine kI 3 1 ?_
 refine kI 3 1 ?_
 refine kI 39 1 ?_
 refine dK (φ := allK [] u) Hv.nilK ?_
 refine qW (M' := .row none 0 0 (recs eL []) 39 1 :: .row none 0 0 (recs eZ []) 3 1 :: .blk ps [.slice none 0 0, .slice none 0 0] 115 :: .row none 0 0 (recs eZ []) 3 1 :: .blk b7 [.slice none 0 0, .slice none 0 0, .bool false, .slice none 0 0, .bool false, .slice none 0 0, .slice none 0 0] 55 :: .blk b3 zKE 55 :: M0) (I' := allK [] u :: aQ m.p (recs eL m.rows) :: fJ m u :: I0) aG aD ?_
 refine aM [0, 3, 6, 7, 20, 21] rfl (fun k G M I => ∃ (i : Nat) (a b qx : Option Addr) (c c2 cx : Nat) (rows : List RL) (pz xs : List Int), i ≤ R ∧ k = R - i ∧ rows.map RL.q = mtS (jR m.q qT i).1 ∧ pz = zs (yM (jR m.q qT i).1) ∧ xs = zs (jR m.q qT i).2 ∧ G = [(22, .int .i64 i)] ∧ M = .row a rows.length c (recs eL rows) 39 1 :: .row b pz.length c2 (recs eZ pz) 3 1 :: .blk ps [.slice a rows.length c, .slice b pz.length c2] 115 :: .row qx xs.length cx (recs eZ xs) 3 1 :: .blk b7 [.slice qx xs.length cx, .slice none 0 0, .bool false, .slice none 0 0, .bool false, .slice none 0 0, .slice none 0 0] 55 :: .blk b3 zKE 55 :: M0 ∧ I = allK rows u :: aQ m.p (recs eL m.rows) :: fJ m u :: I0) (R) _ _ _ aP aG aD (⟨0, none, none, none, 0, 0, 0, [], [], [], by omega, rfl, rfl, rfl, rfl, rfl, rfl, rfl⟩) ?_
 rintro kk G M I ⟨i, a, b, qx, c, c2, cx, rows, pz, xs, hi, rfl, hr, hz, hxs, rfl, rfl, rfl⟩
 by_cases hin : i < R
 ·have hI := nR (q := qT) hdL (k := i) (by omega)
  have hle := wC hI
  have hku := gU u hle
  have hrow := dm.1.row (i := i) hin
  have hq := zA (m := m) (i := i) (by omega)
  have hs := aJQ (A := m.q) (i := i)
  have hsl := (aAS (q := qT) hdL (k := i) (by omega)).1
  have hxl : xs.length ≤ 100 := by rw [hxs, kS]; omega
  rw [hq] at hs
  obtain ⟨sp, hsp⟩ : ∃ sp, (jR m.q qT i).1 = sp := ⟨_, rfl⟩
  obtain ⟨ix, hix⟩ : ∃ ix, (jR m.q qT i).2 = ix := ⟨_, rfl⟩
  rw [hsp] at hr hz hI hle hku hs hsl
  rw [hix] at hs hxs hsl
  have hA := fun M1 I0 hx ha => aGL (X := X) (w0 := w0) (M1 := M1) (I0 := I0) (p := ps) (a := a) (b := b) (c := c) (c2 := c2) (n := n) (u := u) (x := gt m.rows (i : Int)) (sp := sp) ⟨c1, by omega⟩ (by omega) (by omega) hrow hI hr hz hx ha
  obtain ⟨bb, hbb⟩ : ∃ bb, (adS sp (gt m.rows (i : Int)).q).1 = bb := ⟨_, rfl⟩
  rw [hbb] at hA hs
  refine dK (φ := nD (gt m.rows (i : Int)) u) (Hv.xrow aB (by omega)) ?_
  repeat (refine aK ?_)
  cases bb with
  | true =>
   simp only [if_true] at hs
   (refine aA rfl (hA _ _ aB aB) rfl rfl ?_; rintro _ _ _ ⟨a1, b1, d1, d2, rows1, pz1, rfl, rfl, rfl, hr1, hz1⟩; refine ⟨okF, ?_⟩)
   repeat (refine aK ?_)
   (refine aW (cs := recs eZ [(i : Int)]) ([.int .i64 (i : Int)]) rfl rfl (by intro v hv; repeat (first | exact absurd hv (List.not_mem_nil) | (rcases List.mem_cons.1 hv with rfl | hv; · rfl))) (by omega) rfl rfl rfl ?_; intro bv; refine ⟨okF, ?_⟩)
   (refine dD (ys := [(i : Int)]) 4 rfl rfl rfl ?_ (by decide) rfl (by omega) (by omega) rfl rfl ?_; (· first | exact Src.blk aB | exact Src.row aB | exact Src.imm aB (by first | assumption | exact .inl (Ok.mk _ _))); intro q2 cx2; refine ⟨okF, ?_⟩)
   repeat (refine aK ?_)
   refine aJ (R - (i + 1)) _ _ _ (by first | omega | (simp only [List.length_append, List.length_cons, List.length_nil]; omega)) aP aG aD (⟨i + 1, a1, b1, q2, d1, d2, cx2, rows1, pz1, xs ++ [(i : Int)], by omega, rfl, by rw [hs]; exact hr1, by rw [hs]; exact hz1, by rw [hs, hxs]; simp, rfl, rfl, rfl⟩)
  | false =>
   simp only [Bool.false_eq_true, if_false] at hs
   (refine aA rfl (hA _ _ aB aB) rfl rfl ?_; rintro _ _ _ ⟨a1, b1, d1, d2, rows1, pz1, rfl, rfl, rfl, hr1, hz1⟩; refine ⟨okF, ?_⟩)
   repeat (refine aK ?_)
   refine aJ (R - (i + 1)) _ _ _ (by first | omega | (simp only [List.length_append, List.length_cons, List.length_nil]; omega)) aP aG aD (⟨i + 1, a1, b1, qx, d1, d2, cx, rows1, pz1, xs, by omega, rfl, by rw [hs]; exact hr1, by rw [hs]; exact hz1, by rw [hs]; exact hxs, rfl, rfl, rfl⟩)
 ·obtain rfl : i = R := by omega
  obtain ⟨sp, hsp⟩ : ∃ sp, (jR m.q qT i).1 = sp := ⟨_, rfl⟩
  obtain ⟨ix, hix⟩ : ∃ ix, (jR m.q qT i).2 = ix := ⟨_, rfl⟩
  rw [hsp] at hr hz hIR hleR hs1 hs4 ⊢
  rw [hix] at hs1 hs2 hs3 hs4 hxs ⊢
  have lz : pz.length = sp.length := by rw [hz, kS, jY]
  have lx : xs.length = sp.length := by rw [hxs, kS, hs1]
  refine aDJ (fun _ hw => hw.freezeR (a := b) (m := pz.length) (c := c2) (cs := recs eZ pz) (e := 3) (sz := 1) (.there .here)) ?_
  refine aDJ (fun _ hw => hw.freezeR (a := qx) (m := xs.length) (c := cx) (cs := recs eZ xs) (e := 3) (sz := 1) (.there (.there .here))) ?_
  have hSo := fun bV M0 I0 h1 h2 => aPM (X := X) (w0 := w0) (M0 := M0) (I0 := I0) (q := b) (zs := pz) (c := c2) (b := bV) (n := pz.length) rfl (by omega) h1 h2
  have hjx : yP id pz = zs (tF (yM sp)) := by rw [hz, aLD]
  rw [hjx, lz] at hSo
  have hMi := fun qs' cs' M0 I0 hm h1 h2 => aDO (X := X) (w0 := w0) (M0 := M0) (I0 := I0) (m := m) (R := i) (n := n) (u := u) (r := sp.length) (ix := ix) (jx := tF (yM sp)) (qr := qx) (qc := qs') (cr := cx) (cc := cs') dm.1 (fun t ht => (hs2 t ht).1) (fun t ht => aFE hIR t (srtN_perm.mem_iff.1 ht)) hs1 (by rw [aCU, jY]) (by omega) ⟨by omega, by omega⟩ hm h1 h2
  rw [hxs] at lx ⊢
  rw [lx, lz]
  repeat (refine aK ?_)
  (refine aA rfl (aOY) rfl rfl ?_; rintro _ _ _ ⟨rfl, bV, rfl, rfl⟩; refine ⟨okF, ?_⟩)
  (refine aA rfl (hSo bV _ _ aB aB) rfl rfl ?_; rintro _ _ _ ⟨rfl, q3, c3, rfl, rfl⟩; refine ⟨okF, ?_⟩)
  repeat (refine aK ?_)
  (refine aA rfl (hMi _ _ _ _ aB aB aB) rfl rfl ?_; rintro _ _ _ ⟨rfl, y, rfl, hy, hyd, rfl⟩; refine ⟨okF, ?_⟩)
  (refine aA rfl (aSU (y := y) (r := sp.length) (u := u) (Nat.le_trans (gU u hleR) hb) hyd (by omega) aB) rfl rfl ?_; rintro _ _ _ ⟨rfl, e, rfl, he, rfl⟩; refine ⟨okF, ?_⟩)
  rw [hy] at he
  repeat (refine aK ?_)
  refine eY (vs := eR e) (cs' := [.slice qx sp.length cx, .slice q3 sp.length c3] ++ (eR e ++ [.slice none 0 0])) rfl rfl rfl (Ones.one e) jV (.mk rfl (Nat.le_of_ble_eq_true rfl)) rfl rfl ⟨okF, ?_⟩
  repeat (refine aK ?_)
  (refine aA rfl (hNl _ _ aB) rfl rfl ?_; rintro _ _ _ ⟨rfl, kn, rfl, hkn, hknd, rfl⟩; refine ⟨okF, ?_⟩)
  repeat (refine aK ?_)
  have hju : (tF (yM sp)).length = sp.length := by rw [aCU, jY]
  obtain ⟨e9, he9⟩ : ∃ e9 : KE, e9 = ⟨zs ix, zs (tF (yM sp)), qx, cx, q3, c3, e, kn⟩ := ⟨_, rfl⟩
  have hcs : ([.slice qx sp.length cx, .slice q3 sp.length c3] ++ (eR e ++ [mv kn]) : List Value) = eKE e9 := by
   rw [he9]
   show _ = ([.slice qx (zs ix).length cx, .slice q3 (zs (tF (yM sp))).length c3] ++ (eR e ++ [mv kn]) : List Value)
   rw [lx, kS, hju]
  refine dK (φ := isKE e9 (kb u n)) ⟨fun X w hw => by
   rw [he9]
   exact ⟨(hw _ (by exact aB) : SlI qx (recs eZ (zs ix)) X w), (hw _ (by exact aB) : SlI q3 (recs eZ (zs (tF (yM sp)))) X w), ((hw _ (by exact aB) : IsR e (kb u sp.length) X w)).mono (gU u hleR), (hw _ (by exact aB) : IsX kn (kb u n) X w)⟩⟩ ?_
  refine qW (M' := .blk b7 ([.slice qx sp.length cx, .slice q3 sp.length c3] ++ (eR e ++ [mv kn])) 55 :: .blk b3 zKE 55 :: M0) (I' := isKE e9 (kb u n) :: I0) aG aD ?_
  rw [hcs]
  have hlen : (eKE e9).length = 7 := rfl
  have hrl : e9.ri.length = sp.length := by rw [he9]; exact lx
  (repeat refine aI ?_); refine fM (.blk b7 (eKE e9) 55 :: M0) (isKE e9 (kb u n) :: I0) [0, 1, 2, 3, 4, 5, 6] [0, 0, 0, 0, 0, 0, 0] aG aD mixed (by kernel_rfl) ?_
  repeat (refine yXh ?_)
  refine eY (vs := eKE e9) (cs := zKE) rfl rfl rfl (Ones.one e9) jV (.all rfl) rfl rfl ⟨okF, ?_⟩
  repeat (refine aK ?_)
  refine kU (rs := [.tmp 2, .cell 3 55, .tmp 4]) (vs := [.int .i64 (e9.ri.length : Int), .agg (eKE e9).toArray, .int .i64 0]) (.inl rfl) rfl (.tmp rfl (.cellN (cs := eKE e9) inferInstance rfl aB rfl (.tmp rfl .nil))) rfl M0 (isKE e9 (kb u n) :: I0) aG aD ⟨rfl, e9, by rw [hrl], by rw [he9], by rw [he9], by rw [he9]; exact he, by rw [he9]; exact hkn, by rw [he9]; exact hknd, rfl⟩
end
end Go.Proofs.YtkccjglmnhgabaaGreat

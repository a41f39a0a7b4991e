/- Chapter 31's law: a matrix without a row. The law DegenerateCriticals, walked. -/
import Derived.Test.YtkccjglmnhgabaaGreatZjbn
import Derived.Test.YtkccjglmnhgabaaGreatZjam
import Derived.Test.YtkccjglmnhgabaaGreatZjbq
import Derived.Test.YtkccjglmnhgabaaGreatZjak
set_option linter.unusedSimpArgs false
set_option linter.unusedVariables false
set_option maxRecDepth 100000
set_option maxHeartbeats 4000000
namespace Go.Proofs.YtkccjglmnhgabaaGreat
open Go Go.Fx
theorem aLI {a : Option Addr} {c l sz : Nat} (h : Ok a) : Ok (xJ a c l sz) := by
 unfold xJ
 split
 ·exact h
 ·exact h.add _
theorem Hv.subL {I : List aZ} {m : MX} {rows : List RL} {k : Nat} (h : fJ m k ∈ I) (hs : ∀ r ∈ rows, r ∈ m.rows) : Hv I (nS rows k) := ⟨fun X w hw => ⟨fun x hx => (hw _ h : IsX m k X w).row x (hs x hx)⟩⟩
theorem Mem.xcap {X : List Nat} {w0 w : World} {M : List Ent} {I : List aZ} {m : MX} {k : Nat} (h : fJ m k ∈ I) (hw : Mem X w0 M I w) : Cap m.p m.rows.length m.c := ((hw.imm _ h).2 : IsX m k _ w).cap
theorem aOX {α : Type} {l : List α} {i : Nat} (hi : i < l.length) : l.take i ++ l.drop (i + 1) = l.eraseIdx i := (List.eraseIdx_eq_take_drop_succ l i).symm
section
variable {X : List Nat} {w0 : World} {M0 M1 : List Ent} {I0 : List aZ}
theorem aJZ {m : MX} {R u i : Nat} (lR : m.rows.length = R) (hR : R ≤ 100) (hi : i < R) (hm : fJ m u ∈ I0) :
  CD Tryz.prog 28 [mv m, .int .i64 i] X w0 M0 I0 (fun v M I => M0 = M ∧ ∃ x : MX, v = mv x ∧ x.rows = m.rows.eraseIdx i ∧ I = fJ x u :: I0) := by
 refine jM (fun w hw => Mem.xcap hm hw) (fun hcp => ?_)
 obtain ⟨hc1, hc2⟩ := hcp
 have hoa : Ok m.p := by rcases hc2 with h | ⟨h, _⟩; exact h; omega
 refine cK (φ := fJ m u) (Hv.mem hm) ?_
 refine cK (φ := aQ m.p (recs eL m.rows)) (Hv.xsl (List.Mem.head _)) ?_
 have hl1 : (m.rows.take i).length = i := by rw [List.length_take]; omega
 have hl2 : (m.rows.drop (i + 1)).length = R - (i + 1) := by rw [List.length_drop, lR]
 have hln : (m.rows.take i ++ m.rows.drop (i + 1)).length = R - 1 := by rw [List.length_append]; omega
 have ho1 : Ok (xJ m.p m.c 0 1) ∨ (i = 0 ∧ m.c - 0 = 0) := .inl (aLI hoa)
 have ho2 : Ok (xJ m.p m.c (i + 1) 1) ∨ (R - (i + 1) = 0 ∧ m.c - (i + 1) = 0) := .inl (aLI hoa)
 refine bF Tryz.func28 rfl Tryz.ntmps28 rfl ?_
 repeat (refine aK ?_)
 (repeat refine aI ?_); refine dW [1, 2, 3, 5, 6, 7, 8, 0, 4, 9, 10] [3, 3, 2, 3, 3, 3, 2, 0, 0, 0, 0] mixed (by kernel_rfl) ?_
 repeat (refine aK ?_)
 (refine aC rfl (fun _ => vG (e := 39) (sz := 1) 0 i i rfl (.inl ⟨rfl, rfl⟩) (.inr ⟨_, _, _, rfl, rfl, rfl⟩) (by omega) (by omega) (by omega)) rfl rfl ?_)
 repeat (refine aK ?_)
 (refine aC rfl (fun _ => vG (e := 39) (sz := 1) (i + 1) R (R - (i + 1)) rfl (.inr ⟨_, _, _, rfl, rfl, by omega⟩) (.inl ⟨rfl, by omega⟩) (by omega) (by omega) (by omega)) rfl rfl ?_)
 refine aGE (enc := eL) (ms := m.rows) m.c 0 i aB (by omega) ?_
 refine aGE (enc := eL) (ms := m.rows) m.c (i + 1) m.rows.length aB (by omega) ?_
 rw [List.drop_zero, List.take_length]
 (refine aW (cs := recs eL []) ([]) rfl rfl (by intro v hv; repeat (first | exact absurd hv (List.not_mem_nil) | (rcases List.mem_cons.1 hv with rfl | hv; · rfl))) (by omega) rfl rfl rfl ?_; intro b5; refine ⟨okF, ?_⟩; refine fO (mm := 0) 1 .here rfl (by omega) ?_)
 (refine dD (xs := []) (ys := m.rows.take i) 0 rfl rfl rfl (Src.imm aB ho1) (by decide) hl1 (by simp; omega) (by simp; omega) rfl rfl ?_; intro a5 c5; refine ⟨okF, ?_⟩)
 (refine dD (xs := [] ++ m.rows.take i) (ys := m.rows.drop (i + 1)) 0 rfl rfl rfl (Src.imm aB ho2) (by decide) hl2 (by simp; omega) (by simp; omega) rfl rfl ?_; intro a6 c6; refine ⟨okF, ?_⟩)
 rw [List.nil_append]
 have he := aOX (l := m.rows) (i := i) (by omega)
 have hsub : ∀ r ∈ m.rows.take i ++ m.rows.drop (i + 1), r ∈ m.rows := fun r hr => by
  rcases List.mem_append.1 hr with h | h
  ·exact List.mem_of_mem_take h
  ·exact List.mem_of_mem_drop h
 generalize hL' : m.rows.take i ++ m.rows.drop (i + 1) = L' at *
 repeat (refine aK ?_)
 refine gP (φ := nS L' u) (Hv.subL (m := m) aB hsub) ?_
 refine aCP (k := u) aB ?_
 refine aF (by first | exact .inl rfl | exact .inr rfl) rfl rfl _ _ aG aD (⟨rfl, ⟨a6, c6, L'⟩, rfl, he, rfl⟩)
end
end Go.Proofs.YtkccjglmnhgabaaGreat
namespace Go.Proofs.YtkccjglmnhgabaaGreat
open Go Go.Fx
theorem aDS {α β : Type} {f : α → β} : ∀ {l : List α} {i : Nat}, (l.eraseIdx i).map f = (l.map f).eraseIdx i
 | [], _ => rfl
 | _ :: _, 0 => rfl
 | a :: l, i + 1 => congrArg (f a :: ·) (aDS (l := l) (i := i))
theorem aJR {A : Mt} {R n i : Nat} (hA : iD A R n) (hi : i < R) : rk (A.eraseIdx i) n ≤ rk A n ∧ rk A n ≤ rk (A.eraseIdx i) n + 1 ∧ aAE A R n i = decide (rk (A.eraseIdx i) n < rk A n) := by
 have h1 := aTR hA hi
 have h2 := aSY hA hi
 have h3 := aMZ hA (ix := (List.range R).filter (fun k => decide (k ≠ i))) (jx := (List.range R).filter qT) (fun j hj => List.mem_range.1 (List.mem_filter.1 hj).1) (fun j hj => List.mem_filter.2 ⟨(List.mem_filter.1 hj).1, rfl⟩)
 have h4 := aFM (q := qT) hA (Nat.le_refl R)
 have h5 : (jR A qT R).1.length = rk A n := sP hA
 refine ⟨by omega, by omega, ?_⟩
 rw [h2]
 rfl
section
variable {X : List Nat} {w0 : World} {M0 M1 : List Ent} {I0 : List aZ}
theorem aVO {m : WM} (hR : m.rch) (hm : iE m ∈ I0) (h : ¬ m.shN 7 6) :
  CD Tryz.prog 7 [yI m] X w0 M0 I0 (fun v M I => M0 = M ∧ I0 = I ∧ v = .bool true) := by
 have hKn := fun M0 I0 => iT (X := X) (w0 := w0) (M0 := M0) (I0 := I0)
 have hF := fun M0 I0 h => kV (X := X) (w0 := w0) (M0 := M0) (I0 := I0) (m := m) hR h
 rw [aX h] at hF
 refine aU Tryz.func7 rfl Tryz.ntmps7 rfl ?_
 repeat (refine aK ?_)
 (refine aA rfl (hKn _ _) rfl rfl ?_; rintro _ _ _ ⟨rfl, rfl, rfl⟩; refine ⟨okF, ?_⟩)
 repeat (refine aK ?_)
 (refine aA rfl (hF _ _ aB) rfl rfl ?_; rintro _ _ _ ⟨rfl, rfl, rfl⟩; refine ⟨okF, ?_⟩)
 repeat (refine aK ?_)
 refine aF (by first | exact .inl rfl | exact .inr rfl) rfl rfl _ _ aG aD (⟨rfl, rfl, rfl⟩)
theorem aRS {m : WM} (hR : m.rch) (hm : iE m ∈ I0) (h1 : m.shN 7 6) (hc : ¬ m.ok) :
  CD Tryz.prog 7 [yI m] X w0 M0 I0 (fun v M I => M0 = M ∧ I0 = I ∧ v = .bool true) := by
 have sm := WM.shN.smlN ⟨by omega, by omega⟩ h1
 have hKn := fun M0 I0 => iT (X := X) (w0 := w0) (M0 := M0) (I0 := I0)
 have hF := fun M0 I0 h => kV (X := X) (w0 := w0) (M0 := M0) (I0 := I0) (m := m) hR h
 have hC := fun M0 I0 h => aSA (X := X) (w0 := w0) (M0 := M0) (I0 := I0) (a := m) sm hc h
 have hrC := fun M0 I0 h => oD (X := X) (w0 := w0) (M0 := M0) (I0 := I0) (m := m) sm h
 have e1 : m.code = 1 := by unfold WM.code; rw [if_neg hc]
 rw [e1] at hrC
 rw [bB h1] at hF
 refine aU Tryz.func7 rfl Tryz.ntmps7 rfl ?_
 repeat (refine aK ?_)
 (refine aA rfl (hKn _ _) rfl rfl ?_; rintro _ _ _ ⟨rfl, rfl, rfl⟩; refine ⟨okF, ?_⟩)
 repeat (refine aK ?_)
 (refine aA rfl (hF _ _ aB) rfl rfl ?_; rintro _ _ _ ⟨rfl, rfl, rfl⟩; refine ⟨okF, ?_⟩)
 repeat (refine aK ?_)
 (refine aA rfl (hC _ _ aB) rfl rfl ?_; rintro _ _ _ ⟨rfl, rfl, rfl⟩; refine ⟨okF, ?_⟩)
 repeat (refine aK ?_)
 (refine aA rfl (hrC _ _ aB) rfl rfl ?_; rintro _ _ _ ⟨rfl, rfl, rfl⟩; refine ⟨okF, ?_⟩)
 repeat (refine aK ?_)
 refine aF (by first | exact .inl rfl | exact .inr rfl) rfl rfl _ _ aG aD (⟨rfl, rfl, congrArg Value.bool (bB rfl)⟩)
theorem aSB {x : MX} {R n : Nat} (hR : x.raw.rch) (fx : x.fit R n) (hR7 : R ≤ 7) (n7 : n ≤ 7) (hx : fJ x 30 ∈ I0) (hm : iE x.raw ∈ I0) (h1 : x.raw.shN 7 6) :
  CD Tryz.prog 7 [mv x] X w0 M0 I0 (fun v M I => M0 = M ∧ I0 = I ∧ v = .bool true) := by
 have sm := WM.shN.smlN ⟨by omega, by omega⟩ h1
 have hkb := kb30 n7
 have lR := fx.1.1
 have hdL := kL fx.1
 obtain ⟨r1, r2⟩ := fx.2.1
 obtain ⟨c1, c2⟩ := fx.2.2
 have hKn := fun M0 I0 => iT (X := X) (w0 := w0) (M0 := M0) (I0 := I0)
 have hF := fun M0 I0 h => kV (X := X) (w0 := w0) (M0 := M0) (I0 := I0) (m := x.raw) hR h
 have hrC := fun M0 I0 h => oD (X := X) (w0 := w0) (M0 := M0) (I0 := I0) (m := x.raw) sm h
 have hC := fun M0 I0 h => aLR (X := X) (w0 := w0) (M0 := M0) (I0 := I0) (m := x) (R := R) (n := n) (u := 30) fx (by omega) (by omega) h
 have hG := fun M0 I0 h => aIM (X := X) (w0 := w0) (M0 := M0) (I0 := I0) (a := x) (R := R) (C := n) (k0 := 30) (by omega) (by omega) ⟨c1, by omega⟩ fx.1 h
 have hrA := wX hdL
 have e1 : x.raw.code = 0 := by unfold WM.code; rw [if_pos fx.ok]
 rw [e1, jT] at hrC
 rw [bB h1, jT] at hF
 obtain ⟨cl, hcl⟩ : ∃ z, zs (qO x.q R n R) = z := ⟨_, rfl⟩
 have hcll : (qO x.q R n R).length = cl.length := by rw [← hcl, kS]
 have hcl7 : cl.length ≤ 7 := by rw [← hcll]; exact Nat.le_trans aBD hR7
 rw [hcll, hcl] at hC
 refine aU Tryz.func7 rfl Tryz.ntmps7 rfl ?_
 repeat (refine aK ?_)
 (refine aA rfl (hKn _ _) rfl rfl ?_; rintro _ _ _ ⟨rfl, rfl, rfl⟩; refine ⟨okF, ?_⟩)
 repeat (refine aK ?_)
 (refine aA rfl (hF _ _ aB) rfl rfl ?_; rintro _ _ _ ⟨rfl, rfl, rfl⟩; refine ⟨okF, ?_⟩)
 repeat (refine aK ?_)
 (refine aA rfl (hC _ _ aB) rfl rfl ?_; rintro _ _ _ ⟨rfl, q, c, rfl, rfl⟩; refine ⟨okF, ?_⟩)
 repeat (refine aK ?_)
 (refine aA rfl (hrC _ _ aB) rfl rfl ?_; rintro _ _ _ ⟨rfl, rfl, rfl⟩; refine ⟨okF, ?_⟩)
 repeat (refine aK ?_)
 (refine aW (cs := recs eZ []) ([]) rfl rfl (by intro v hv; repeat (first | exact absurd hv (List.not_mem_nil) | (rcases List.mem_cons.1 hv with rfl | hv; · rfl))) (by omega) rfl rfl rfl ?_; intro b5; refine ⟨okF, ?_⟩; refine fO (mm := 0) 1 .here rfl (by omega) ?_)
 repeat (refine aK ?_)
 (refine aA rfl (hG _ _ aB) rfl rfl ?_; rintro _ _ _ ⟨rfl, rfl, rfl⟩; refine ⟨okF, ?_⟩)
 repeat (refine aK ?_)
 rw [lR]
 refine aM [0, 3, 4, 7, 39] rfl (fun k G M I => ∃ (i : Nat) (qx : Option Addr) (cx : Nat) (xs : List Int), i ≤ R ∧ k = R - i ∧ xs = zs (qO x.q R n i) ∧ G = [(6, .slice qx xs.length cx), (40, .int .i64 i)] ∧ M = .row qx xs.length cx (recs eZ xs) 3 1 :: M0 ∧ I = aQ q (recs eZ cl) :: I0) (R) _ _ _ aP aG aD (⟨0, _, _, [], by omega, rfl, rfl, rfl, rfl, rfl⟩) ?_
 rintro kk G M I ⟨i, qx, cx, xs, hi, rfl, hxs, rfl, rfl, rfl⟩
 have hxl : xs.length ≤ 100 := by rw [hxs, kS]; have := aBD (A := x.q) (R := R) (n := n) (m := i); omega
 by_cases hin : i < R
 ·have hsc := aBJ (A := x.q) (R := R) (n := n) (m := i)
  have hW := fun M0 I0 h => aJZ (X := X) (w0 := w0) (M0 := M0) (I0 := I0) (m := x) (R := R) (u := 30) (i := i) lR (by omega) hin h
  obtain ⟨f1, f2, f3⟩ := aJR hdL hin
  repeat (refine aK ?_)
  (refine aA rfl (hW _ _ aB) rfl rfl ?_; rintro _ _ _ ⟨rfl, x1, rfl, hx1, rfl⟩; refine ⟨okF, ?_⟩)
  have hq1 : x1.q = x.q.eraseIdx i := by show x1.rows.map RL.q = (x.rows.map RL.q).eraseIdx i; rw [hx1, aDS]
  have l1 : x1.rows.length = R - 1 := by rw [hx1, List.length_eraseIdx_of_lt (by omega), lR]
  have dx1 : x1.dim (R - 1) n := ⟨l1, fun r hr => fx.1.2 r (List.mem_of_mem_eraseIdx (by rw [← hx1]; exact hr))⟩
  have hG1 := fun M0 I0 h => aIM (X := X) (w0 := w0) (M0 := M0) (I0 := I0) (a := x1) (R := R - 1) (C := n) (k0 := 30) (by omega) (by omega) ⟨c1, by omega⟩ dx1 h
  rw [← hq1] at f1 f2 f3
  repeat (refine aK ?_)
  (refine aA rfl (hG1 _ _ aB) rfl rfl ?_; rintro _ _ _ ⟨rfl, rfl, rfl⟩; refine ⟨okF, ?_⟩)
  by_cases hlt : rk x1.q n < rk x.q n
  ·rw [f3, if_pos (decide_eq_true hlt)] at hsc
   repeat (refine aK ?_)
   (refine aW (cs := recs eZ [(i : Int)]) ([.int .i64 i]) rfl rfl (by intro v hv; repeat (first | exact absurd hv (List.not_mem_nil) | (rcases List.mem_cons.1 hv with rfl | hv; · rfl))) (by omega) rfl rfl rfl ?_; intro b7; refine ⟨okF, ?_⟩)
   (refine dD (ys := [(i : Int)]) 1 rfl rfl rfl ?_ (by decide) rfl (by omega) (by omega) rfl rfl ?_; (· first | exact Src.blk aB | exact Src.row aB | exact Src.imm aB (by first | assumption | exact .inl (Ok.mk _ _))); intro q2 c3; refine ⟨okF, ?_⟩)
   repeat (refine aK ?_)
   rw [l1]
   by_cases hR1 : R = 1
   ·repeat (refine aK ?_)
    refine aJ (R - (i + 1)) _ _ _ (by first | omega | (simp only [List.length_append, List.length_cons, List.length_nil]; omega)) aP aG aD (⟨i + 1, q2, c3, xs ++ [(i : Int)], by omega, rfl, by rw [hsc, hxs]; simp [zs], rfl, rfl, rfl⟩)
   ·have ft1 : x1.fit (R - 1) n := ⟨dx1, ⟨by omega, by omega⟩, c1, c2⟩
    have hD := fun M0 I0 h => yE (X := X) (w0 := w0) (M0 := M0) (I0 := I0) (m := x1) (R := R - 1) (n := n) (u := 30) ft1 (by omega) (by omega) h
    have hal1 : (jR x1.q qT (R - 1)).1.length = rk x1.q n := sP (kL dx1)
    rw [hal1] at hD
    generalize rk x1.q n = rr at *
    repeat (refine aK ?_)
    (refine aA rfl (hD _ _ aB) rfl rfl ?_; rintro _ _ _ ⟨rfl, e, rfl, -, -, -, -, -, rfl⟩; refine ⟨okF, ?_⟩)
    repeat (refine aK ?_)
    (refine aL rfl rfl ?_; intro b4; refine ⟨okF, ?_⟩)
    repeat (refine yXh ?_)
    refine eY (vs := eKE e) (cs := zKE) rfl rfl rfl (Ones.one e) jV (.all rfl) rfl rfl ⟨okF, ?_⟩
    repeat (refine aK ?_)
    refine aJ (R - (i + 1)) _ _ _ (by first | omega | (simp only [List.length_append, List.length_cons, List.length_nil]; omega)) aP aG aD (⟨i + 1, q2, c3, xs ++ [(i : Int)], by omega, rfl, by rw [hsc, hxs]; simp [zs], rfl, rfl, rfl⟩)
  ·rw [f3, if_neg (by simpa using hlt)] at hsc
   repeat (refine aK ?_)
   rw [l1]
   by_cases hR1 : R = 1
   ·repeat (refine aK ?_)
    refine aJ (R - (i + 1)) _ _ _ (by first | omega | (simp only [List.length_append, List.length_cons, List.length_nil]; omega)) aP aG aD (⟨i + 1, qx, cx, xs, by omega, rfl, by rw [hsc]; exact hxs, rfl, rfl, rfl⟩)
   ·have ft1 : x1.fit (R - 1) n := ⟨dx1, ⟨by omega, by omega⟩, c1, c2⟩
    have hD := fun M0 I0 h => yE (X := X) (w0 := w0) (M0 := M0) (I0 := I0) (m := x1) (R := R - 1) (n := n) (u := 30) ft1 (by omega) (by omega) h
    have hal1 : (jR x1.q qT (R - 1)).1.length = rk x1.q n := sP (kL dx1)
    rw [hal1] at hD
    generalize rk x1.q n = rr at *
    repeat (refine aK ?_)
    (refine aA rfl (hD _ _ aB) rfl rfl ?_; rintro _ _ _ ⟨rfl, e, rfl, -, -, -, -, -, rfl⟩; refine ⟨okF, ?_⟩)
    repeat (refine aK ?_)
    (refine aL rfl rfl ?_; intro b4; refine ⟨okF, ?_⟩)
    repeat (refine yXh ?_)
    refine eY (vs := eKE e) (cs := zKE) rfl rfl rfl (Ones.one e) jV (.all rfl) rfl rfl ⟨okF, ?_⟩
    repeat (refine aK ?_)
    refine aJ (R - (i + 1)) _ _ _ (by first | omega | (simp only [List.length_append, List.length_cons, List.length_nil]; omega)) aP aG aD (⟨i + 1, qx, cx, xs, by omega, rfl, by rw [hsc]; exact hxs, rfl, rfl, rfl⟩)
 ·obtain rfl : i = R := by omega
  rw [hcl] at hxs
  subst hxs
  have hE := fun p q c c' M0 I0 ha hb => aRT (X := X) (w0 := w0) (M0 := M0) (I0 := I0) (p := p) (q := q) (a := xs) (b := xs) (c := c) (c' := c') (by omega) ha hb
  rw [bB rfl] at hE
  repeat (refine aK ?_)
  refine gY (mm := xs.length) .here ?_
  (refine aA rfl (hE _ _ _ _ _ _ aB aB) rfl rfl ?_; rintro _ _ _ ⟨rfl, rfl, rfl⟩; refine ⟨okF, ?_⟩)
  repeat (refine aK ?_)
  refine aF (by first | exact .inl rfl | exact .inr rfl) rfl rfl _ _ aG aD (⟨rfl, rfl, rfl⟩)
theorem LCrt {m : WM} (hR : m.rch) (hm : iE m ∈ I0) :
  CD Tryz.prog 7 [yI m] X w0 M0 I0 (fun v M I => M0 = M ∧ I0 = I ∧ v = .bool true) := by
 by_cases h1 : m.shN 7 6
 case neg => exact aVO hR hm h1
 by_cases hc : m.ok
 case neg => exact aRS hR hm h1 hc
 refine jM (fun w hw => aFC hc h1 ((hw.imm _ hm).2 : IsWM m _ w)) (fun hx => ?_)
 obtain ⟨x, rfl, fx, ⟨_, r7⟩, _, n7⟩ := hx
 rw [jT]
 exact aKK (φ := fJ x 30) (Hv.brX rfl (by decide) h1 hm) (aSB hR fx r7 n7 (List.Mem.head _) (List.Mem.tail _ hm) h1)
end
end Go.Proofs.YtkccjglmnhgabaaGreat

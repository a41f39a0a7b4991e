/- Chapter 30's law on projection matrices: short, canonical, none, same, project, center. Models (api.Linear) as they come in: their check in both packages; few. -/
import Derived.Test.YtgeagiikkeiioaaGreatZgbg
import Derived.Test.YtgeagiikkeiioaaGreatZgbh
import Derived.Test.YtgeagiikkeiioaaGreatZgaw
set_option linter.unusedSimpArgs false
set_option linter.unusedVariables false
set_option maxRecDepth 100000
set_option maxHeartbeats 4000000
namespace Go.Proofs.YtgeagiikkeiioaaGreat
open Go Go.Fx
def RW.dig (r : RW) : Nat := r.g1.length + r.g2.length
def WL.shN (r : WL) (n g : Nat) : Prop := r.es.length ≤ n ∧ ∀ e ∈ r.es, e.dig ≤ g ∧ (g ≤ 6 → e.brief)
instance WL.decN (r : WL) (n g : Nat) : Decidable (r.shN n g) := by unfold WL.shN; exact inferInstance
def WM.shN (m : WM) (n g : Nat) : Prop := m.rows.length ≤ n ∧ ∀ r ∈ m.rows, r.shN n g
instance WM.decN (m : WM) (n g : Nat) : Decidable (m.shN n g) := by unfold WM.shN; exact inferInstance
instance WM.decG (m : WM) : Decidable (∀ r ∈ m.rows, r.good) := inferInstance
section
variable {X : List Nat} {w0 : World} {M0 : List Ent} {I0 : List bA}
theorem aAQ {r : WL} {n g : Nat} (hn : n ≤ 1000000 ∧ g ≤ 1000000) (hR : r.rch) (hw : iW r ∈ I0) : CD Tryz.prog 23 [vD r, .int .i64 (n : Int), .int .i64 (g : Int)] X w0 M0 I0 (fun v M I => M0 = M ∧ I0 = I ∧ v = .bool (B (r.shN n g))) := by
 refine bQ (φ := aT r.p (recs eW r.es)) (Hv.wlsl hw) ?_
 have hl := hR.1
 refine mE Tryz.func23 rfl Tryz.ntmps23 rfl ?_
 repeat' (first | refine aK ?_ | refine aQ rfl (fun h => ?_) (fun h => ?_) | refine aR rfl rfl (fun h => ?_) (fun h => ?_) | fail)
 ·refine aH (by first | exact .inl rfl | exact .inr rfl) rfl rfl _ _ aC aD (⟨rfl, rfl, congrArg Value.bool (aY (fun e => by have := e.1; omega)).symm⟩)
 refine aS [0, 2] rfl (fun k G M I => ∃ i : Nat, i ≤ r.es.length ∧ k = r.es.length - i ∧ (∀ j : Nat, j < i → (gt r.es (j : Int)).dig ≤ g ∧ (g ≤ 6 → (gt r.es (j : Int)).brief)) ∧ G = [(7, .int .i64 i)] ∧ M0 = M ∧ I = aT r.p (recs eW r.es) :: I0) (r.es.length) _ _ _ aO aC aD (⟨0, by omega, rfl, fun j hj => by omega, rfl, rfl, rfl⟩) ?_
 rintro k G M I ⟨i, hi, rfl, hs, rfl, rfl, rfl⟩
 by_cases hi2 : i < r.es.length
 ·have hr := hR.2 _ (cZ (ms := r.es) (i := (i : Int)) (by omega))
  have hD := fun M0 I0 => aIB (X := X) (w0 := w0) (M0 := M0) (I0 := I0) (r := gt r.es (i : Int)) hr
  refine bL (φ := isW (gt r.es (i : Int))) (Hv.wlel (List.Mem.tail _ hw) (by omega)) ?_
  have nxt : (gt r.es (i : Int)).dig ≤ g → (g ≤ 6 → (gt r.es (i : Int)).brief) → ∀ j : Nat, j < i + 1 → (gt r.es (j : Int)).dig ≤ g ∧ (g ≤ 6 → (gt r.es (j : Int)).brief) := fun h1 h2 j hj => by
   by_cases e : j = i
   ·subst e; exact ⟨h1, h2⟩
   ·exact hs j (by omega)
  repeat (refine aK ?_)
  (refine aA rfl (hD _ _) rfl rfl ?_; rintro _ _ _ ⟨rfl, rfl, rfl⟩; refine ⟨okF, ?_⟩)
  by_cases hd : (gt r.es (i : Int)).dig ≤ g
  ·have hd2 : ¬ (g : Int) < ((gt r.es (i : Int)).g1.length + (gt r.es (i : Int)).g2.length : Int) := by unfold RW.dig at hd; omega
   by_cases h6 : g ≤ 6
   ·repeat (refine aK ?_)
    (refine aA rfl (aNS (r := gt r.es (i : Int)) (Hv.mem aB)) rfl rfl ?_; rintro _ _ _ ⟨rfl, rfl, rfl⟩; refine ⟨okF, ?_⟩)
    repeat' (first | refine aK ?_ | refine aQ rfl (fun h => ?_) (fun h => ?_) | refine aR rfl rfl (fun h => ?_) (fun h => ?_) | fail)
    ·have hb : ¬ (gt r.es (i : Int)).brief := by assumption
     refine aH (by first | exact .inl rfl | exact .inr rfl) rfl rfl _ _ aC aD (⟨rfl, rfl, congrArg Value.bool (aY (fun e => hb ((e.2 _ (cZ (by omega))).2 h6))).symm⟩)
    ·have hb : ¬ ¬ (gt r.es (i : Int)).brief := by assumption
     refine aM (r.es.length - (i + 1)) _ _ _ (by first | omega | (simp only [List.length_append, List.length_cons, List.length_nil]; omega)) aO aC aD (⟨i + 1, by omega, rfl, nxt hd (fun _ => Decidable.not_not.1 hb), rfl, rfl, rfl⟩)
   ·repeat (refine aK ?_)
    refine aM (r.es.length - (i + 1)) _ _ _ (by first | omega | (simp only [List.length_append, List.length_cons, List.length_nil]; omega)) aO aC aD (⟨i + 1, by omega, rfl, nxt hd (fun h => absurd h h6), rfl, rfl, rfl⟩)
  ·have hd2 : (g : Int) < ((gt r.es (i : Int)).g1.length + (gt r.es (i : Int)).g2.length : Int) := by unfold RW.dig at hd; omega
   repeat (refine aK ?_)
   refine aH (by first | exact .inl rfl | exact .inr rfl) rfl rfl _ _ aC aD (⟨rfl, rfl, congrArg Value.bool (aY (fun e => hd (e.2 _ (cZ (by omega))).1)).symm⟩)
 ·repeat (refine aK ?_)
  refine aH (by first | exact .inl rfl | exact .inr rfl) rfl rfl _ _ aC aD (⟨rfl, rfl, congrArg Value.bool (bR ⟨by omega, fun e he => ?_⟩).symm⟩)
  obtain ⟨j, hj, rfl⟩ := List.mem_iff_getElem.1 he
  have := hs j (by omega)
  rwa [jC hj] at this
end
end Go.Proofs.YtgeagiikkeiioaaGreat
namespace Go.Proofs.YtgeagiikkeiioaaGreat
open Go Go.Fx
structure LW where
 a : WM
 l : WL
 p : WL
instance LW.inh : Inhabited LW := ⟨⟨default, default, default⟩⟩
abbrev eLW (m : LW) : List Value := [mvW m.a, vD m.l, vD m.p]
abbrev vLW (m : LW) : Value := .agg #[mvW m.a, vD m.l, vD m.p]
structure IsLW (m : LW) (X : List Nat) (w : World) : Prop where
 a : IsWM m.a X w
 l : IsWL m.l X w
 p : IsWL m.p X w
abbrev sP (m : LW) : bA := IsLW m
instance LW.gd (m : LW) : Fx.Good (IsLW m) := ⟨fun X Y w w' h he hY => ⟨Fx.Good.go (φ := IsWM _) X Y w w' h.a he hY, Fx.Good.go (φ := IsWL _) X Y w w' h.l he hY, Fx.Good.go (φ := IsWL _) X Y w w' h.p he hY⟩⟩
theorem Hv.lwa {I : List bA} {m : LW} (h : sP m ∈ I) : Hv I (oZ m.a) := ⟨fun X w hw => (hw _ h : IsLW m X w).a⟩
theorem Hv.lwl {I : List bA} {m : LW} (h : sP m ∈ I) : Hv I (iW m.l) := ⟨fun X w hw => (hw _ h : IsLW m X w).l⟩
theorem Hv.lwp {I : List bA} {m : LW} (h : sP m ∈ I) : Hv I (iW m.p) := ⟨fun X w hw => (hw _ h : IsLW m X w).p⟩
def LW.sml (m : LW) : Prop := m.a.sml ∧ m.l.sml ∧ m.p.sml
def LW.rch (m : LW) : Prop := m.a.rch ∧ m.l.rch ∧ m.p.rch
def RW.posi (r : RW) : Prop := 0 < zI r.n1 r.g1
instance RW.decPosi (r : RW) : Decidable r.posi := by unfold RW.posi; exact inferInstance
def LW.good (m : LW) : Prop := (∀ r ∈ m.a.rows, r.good) ∧ m.l.good ∧ m.p.good
instance LW.decGood (m : LW) : Decidable m.good := by unfold LW.good; exact inferInstance
def LW.rng (m : LW) : Prop := (1 ≤ m.a.rows.length ∧ m.a.rows.length ≤ 64) ∧ 1 ≤ (gt m.a.rows 0).es.length ∧ (gt m.a.rows 0).es.length ≤ 24
instance LW.decRng (m : LW) : Decidable m.rng := by unfold LW.rng; exact inferInstance
def LW.rect (m : LW) : Prop := (∀ r ∈ m.a.rows, r.es.length = (gt m.a.rows 0).es.length) ∧ m.l.es.length = m.a.rows.length ∧ m.p.es.length = m.a.rows.length
instance LW.decRect (m : LW) : Decidable m.rect := by unfold LW.rect; exact inferInstance
def LW.poss (m : LW) : Prop := ∀ e ∈ m.p.es, e.posi
instance LW.decPoss (m : LW) : Decidable m.poss := by unfold LW.poss; exact inferInstance
def LW.code (m : LW) : Int := if m.good then (if m.rng then (if m.rect then (if m.poss then 0 else 2) else 4) else 3) else 1
theorem LW.code_1 {m : LW} (h : ¬ m.good) : m.code = 1 := if_neg h
theorem LW.code_3 {m : LW} (h : m.good) (h1 : ¬ m.rng) : m.code = 3 := by unfold LW.code; rw [if_pos h, if_neg h1]
theorem LW.code_4 {m : LW} (h : m.good) (h1 : m.rng) (h2 : ¬ m.rect) : m.code = 4 := by unfold LW.code; rw [if_pos h, if_pos h1, if_neg h2]
theorem LW.code_2 {m : LW} (h : m.good) (h1 : m.rng) (h2 : m.rect) (h3 : ¬ m.poss) : m.code = 2 := by unfold LW.code; rw [if_pos h, if_pos h1, if_pos h2, if_neg h3]
theorem LW.code_0 {m : LW} (h : m.good) (h1 : m.rng) (h2 : m.rect) (h3 : m.poss) : m.code = 0 := by unfold LW.code; rw [if_pos h, if_pos h1, if_pos h2, if_pos h3]
theorem LW.code_ok {m : LW} (h : m.code = 0) : m.good ∧ m.rng ∧ m.rect ∧ m.poss := by
 unfold LW.code at h
 by_cases h0 : m.good
 ·by_cases h1 : m.rng
  ·by_cases h2 : m.rect
   ·by_cases h3 : m.poss
    ·exact ⟨h0, h1, h2, h3⟩
    ·simp [h0, h1, h2, h3] at h
   ·simp [h0, h1, h2] at h
  ·simp [h0, h1] at h
 ·simp [h0] at h
theorem pW {α : Type} [Inhabited α] {p : α → Prop} {l : List α} {n : Nat} (h : ∀ j : Nat, j < n → p (gt l (j : Int))) (hn : l.length ≤ n) : ∀ a ∈ l, p a := fun a ha => by
 obtain ⟨j, hj, rfl⟩ := List.mem_iff_getElem.1 ha
 have := h j (by omega)
 rwa [jC hj] at this
theorem kQ {α : Type} [Inhabited α] {p : α → Prop} {l : List α} (h : ∀ a ∈ l, p a) {j : Nat} (hj : j < l.length) : p (gt l (j : Int)) := h _ (cZ (by omega))
theorem oP {p : Nat → Prop} {i : Nat} (h : ∀ j, j < i → p j) (hi : p i) : ∀ j, j < i + 1 → p j := fun j hj => by
 by_cases e : j = i
 ·subst e; exact hi
 ·exact h j (by omega)
theorem aPA {z : Int} : z.sign ≤ 0 ↔ ¬ 0 < z := by rw [← Int.sign_pos_iff]; omega
section
variable {X : List Nat} {w0 : World} {M0 : List Ent} {I0 : List bA}
theorem aOS {r : RW} (hs : r.sml) (hg : r.good) (hw : Hv I0 (isW r)) : CD Tryz.prog 76 [wv r] X w0 M0 I0 (fun v M I => M0 = M ∧ I0 = I ∧ v = .int .i64 (zI r.n1 r.g1).sign) := by
 refine aJR (φ := r.Fit) (fun w hw' => (hw.go _ _ (fun ψ hm => (hw'.imm ψ hm).2) : IsW r _ w).fit) (fun hf => ?_)
 obtain ⟨e, rfl⟩ := RW.good_raw hf hg
 have h := lZ (X := X) (w0 := w0) (M0 := M0) (I0 := I0) (e := e) (k := 30000000000) (by omega) (Hv.ofW hw (by have := hs.1; omega) (by have := hs.2; omega))
 have e1 : zI e.raw.n1 e.raw.g1 = e.q.num := sS _
 rw [e1]; exact h
theorem aMX {r : RW} (hs : r.sml) (hg : r.good) (hw : Hv I0 (isW r)) : CD Tryz.prog 61 [wv r] X w0 M0 I0 (fun v M I => M0 = M ∧ I0 = I ∧ v = .int .i64 (zI r.n1 r.g1).sign) := by
 refine aJR (φ := r.Fit) (fun w hw' => (hw.go _ _ (fun ψ hm => (hw'.imm ψ hm).2) : IsW r _ w).fit) (fun hf => ?_)
 obtain ⟨e, rfl⟩ := RW.good_raw hf hg
 have h := yC (X := X) (w0 := w0) (M0 := M0) (I0 := I0) (e := e) (k := 30000000000) (by omega) (Hv.ofW hw (by have := hs.1; omega) (by have := hs.2; omega))
 have e1 : zI e.raw.n1 e.raw.g1 = e.q.num := sS _
 rw [e1]; exact h
theorem aJJ {r : RW} (hs : r.sml) (hw : Hv I0 (isW r)) : CD Tryz.prog 191 [wv r] X w0 M0 I0 (fun v M I => M0 = M ∧ I0 = I ∧ v = .bool (B (¬ r.good))) := by
 refine bE Tryz.func191 rfl Tryz.ntmps191 rfl ?_
 refine aJ ?_
 refine aI ?_
 (refine aP rfl rfl rfl ?_; intro b; refine ⟨okF, ?_⟩)
 repeat (refine aK ?_)
 (refine aA rfl (yQ (r := r) hs hw) rfl rfl ?_; rintro _ _ _ ⟨rfl, rfl, rfl⟩; refine ⟨okF, ?_⟩)
 repeat (refine aK ?_)
 refine aH (by first | exact .inl rfl | exact .inr rfl) rfl rfl _ _ aC aD (⟨rfl, rfl, rfl⟩)
theorem aDC {q : Option Addr} {c : Nat} {rows : List WL} (hl : rows.length ≤ 1000000000) (hs : ∀ r ∈ rows, r.sml) (hq : aT q (recs wH rows) ∈ I0) (hr : ∀ i : Nat, i < rows.length → Hv I0 (iW (gt rows (i : Int)))) :
  CD Tryz.prog 150 [.slice q rows.length c] X w0 M0 I0 (fun v M I => M0 = M ∧ I0 = I ∧ v = .bool (B (∀ r ∈ rows, r.good))) := by
 refine bE Tryz.func150 rfl Tryz.ntmps150 rfl ?_
 repeat (refine aK ?_)
 refine aS [5, 6] rfl (fun k G M I => ∃ i : Nat, i ≤ rows.length ∧ k = rows.length - i ∧ (∀ j : Nat, j < i → (gt rows (j : Int)).good) ∧ G = [(7, .int .i64 i)] ∧ M0 = M ∧ I0 = I) (rows.length) _ _ _ aO aC aD (⟨0, by omega, rfl, fun j hj => by omega, rfl, rfl, rfl⟩) ?_
 rintro kk G M I ⟨i, hi, rfl, hg, rfl, rfl, rfl⟩
 by_cases hin : i < rows.length
 ·obtain ⟨s1, s2⟩ := kQ hs hin
  have hri := hr i hin
  have hH := fun M0 I0 (h1 : aT (gt rows (i : Int)).p (recs eW (gt rows (i : Int)).es) ∈ I0) (h2 : iW (gt rows (i : Int)) ∈ I0) => aGI (X := X) (w0 := w0) (M0 := M0) (I0 := I0) (q := (gt rows (i : Int)).p) (a := (gt rows (i : Int)).es) (c := (gt rows (i : Int)).c) (g := 191) (fs := #[]) (cs := #[]) (fun (x : RW) => ¬ x.good) (by omega) h1 (fun t ht => aJJ (s2 _ (cZ (by omega))) (Hv.wlel h2 (by omega)))
  refine bL hri ?_
  refine bL (φ := aT (gt rows (i : Int)).p (recs eW (gt rows (i : Int)).es)) (Hv.wlsl (List.Mem.head _)) ?_
  by_cases e : (gt rows (i : Int)).good
  ·rw [aY (show ¬ ∃ x ∈ (gt rows (i : Int)).es, ¬ x.good from fun ⟨x, hx, hn⟩ => hn (e x hx))] at hH
   repeat (refine aK ?_)
   (refine aA rfl (hH _ _ aB aB) rfl rfl ?_; rintro _ _ _ ⟨rfl, rfl, rfl⟩; refine ⟨okF, ?_⟩)
   repeat (refine aK ?_)
   refine aM (rows.length - (i + 1)) _ _ _ (by first | omega | (simp only [List.length_append, List.length_cons, List.length_nil]; omega)) aO aC aD (⟨i + 1, by omega, rfl, oP hg e, rfl, rfl, rfl⟩)
  ·rw [bR (show ∃ x ∈ (gt rows (i : Int)).es, ¬ x.good from Classical.byContradiction (fun hn => e (fun x hx => Classical.byContradiction (fun h => hn ⟨x, hx, h⟩))))] at hH
   repeat (refine aK ?_)
   (refine aA rfl (hH _ _ aB aB) rfl rfl ?_; rintro _ _ _ ⟨rfl, rfl, rfl⟩; refine ⟨okF, ?_⟩)
   repeat (refine aK ?_)
   refine aH (by first | exact .inl rfl | exact .inr rfl) rfl rfl _ _ aC aD (⟨rfl, rfl, congrArg Value.bool (aY (fun h => e (kQ h hin))).symm⟩)
 ·repeat (refine aK ?_)
  refine aH (by first | exact .inl rfl | exact .inr rfl) rfl rfl _ _ aC aD (⟨rfl, rfl, congrArg Value.bool (bR (pW hg (by omega))).symm⟩)
theorem Hv.wlTwo {I : List bA} {a b : WL} (h1 : iW a ∈ I) (h2 : iW b ∈ I) : ∀ i : Nat, i < [a, b].length → Hv I (iW (gt [a, b] (i : Int))) := fun i hi => by
 match i, hi with
 | 0, _ => exact Hv.mem h1
 | 1, _ => exact Hv.mem h2
theorem aML {m : LW} (sm : m.sml) (hm : sP m ∈ I0) : CD Tryz.prog 95 [vLW m] X w0 M0 I0 (fun v M I => M0 = M ∧ I0 = I ∧ v = .int .i64 m.code) := by
 obtain ⟨⟨sa, sar⟩, ⟨sl, slr⟩, ⟨sp, spr⟩⟩ := sm
 refine bQ (φ := oZ m.a) (Hv.lwa hm) ?_
 refine bQ (φ := iW m.l) (Hv.lwl (List.Mem.tail _ hm)) ?_
 refine bQ (φ := iW m.p) (Hv.lwp (List.Mem.tail _ (List.Mem.tail _ hm))) ?_
 refine bQ (φ := aT m.a.p (recs wH m.a.rows)) (Hv.wmsl aB) ?_
 refine bQ (φ := aT m.p.p (recs eW m.p.es)) (Hv.wlsl aB) ?_
 have hCa := fun M0 I0 (h1 : aT m.a.p (recs wH m.a.rows) ∈ I0) (h2 : oZ m.a ∈ I0) => aDC (X := X) (w0 := w0) (M0 := M0) (I0 := I0) (q := m.a.p) (c := m.a.c) (rows := m.a.rows) (by omega) sar h1 (fun i hi => Hv.wmrow h2 (by omega))
 have hCb := fun M0 I0 (b : Nat) (h1 : aT (some ⟨b, 0, none⟩) (recs wH [m.l, m.p]) ∈ I0) (h2 : iW m.l ∈ I0) (h3 : iW m.p ∈ I0) => aDC (X := X) (w0 := w0) (M0 := M0) (I0 := I0) (q := some ⟨b, 0, none⟩) (c := 2) (rows := [m.l, m.p]) (by show 2 ≤ 1000000000; omega) (fun r hr => by
  rcases List.mem_cons.1 hr with rfl | hr
  ·exact ⟨sl, slr⟩
  ·rw [List.mem_singleton.1 hr]; exact ⟨sp, spr⟩) h1 (Hv.wlTwo h2 h3)
 refine bE Tryz.func95 rfl Tryz.ntmps95 rfl ?_
 refine aJ ?_
 refine aI ?_
 (refine aP rfl rfl rfl ?_; intro b1; refine ⟨okF, ?_⟩)
 refine aF .here ?_
 by_cases gA : ∀ r ∈ m.a.rows, r.good
 ·rw [bR gA] at hCa
  repeat (refine aK ?_)
  (refine aA rfl (hCa _ _ aB aB) rfl rfl ?_; rintro _ _ _ ⟨rfl, rfl, rfl⟩; refine ⟨okF, ?_⟩)
  repeat (refine aK ?_)
  (refine aL (cs := recs wH [m.l, m.p]) ([vD m.l, vD m.p]) rfl rfl (by intro v hv; repeat (first | exact absurd hv (List.not_mem_nil) | (rcases List.mem_cons.1 hv with rfl | hv; · rfl))) (by omega) rfl rfl rfl ?_; intro b2; refine ⟨okF, ?_⟩)
  refine aF .here ?_
  by_cases gB : ∀ r ∈ [m.l, m.p], r.good
  ·rw [bR gB] at hCb
   have hg : m.good := ⟨gA, gB _ (List.Mem.head _), gB _ (List.Mem.tail _ (List.Mem.head _))⟩
   (refine aA rfl (hCb _ _ b2 aB aB aB) rfl rfl ?_; rintro _ _ _ ⟨rfl, rfl, rfl⟩; refine ⟨okF, ?_⟩)
   by_cases r1 : 1 ≤ m.a.rows.length
   ·by_cases r2 : m.a.rows.length ≤ 64
    ·by_cases c1 : 1 ≤ (gt m.a.rows 0).es.length
     ·by_cases c2 : (gt m.a.rows 0).es.length ≤ 24
      ·have hr : m.rng := ⟨⟨r1, r2⟩, c1, c2⟩
       repeat (refine aK ?_)
       refine aS [1, 47, 48] rfl (fun k G M I => ∃ i : Nat, i ≤ m.a.rows.length ∧ k = m.a.rows.length - i ∧ (∀ j : Nat, j < i → (gt m.a.rows (j : Int)).es.length = (gt m.a.rows 0).es.length) ∧ G = [(49, .int .i64 i)] ∧ M0 = M ∧ I = aT (some ⟨b1, 0, none⟩) [mvW m.a, vD m.l, vD m.p] :: aT m.p.p (recs eW m.p.es) :: aT m.a.p (recs wH m.a.rows) :: iW m.p :: iW m.l :: oZ m.a :: I0) (m.a.rows.length) _ _ _ aO aC aD (⟨0, by omega, rfl, fun j hj => by omega, rfl, rfl, rfl⟩) ?_
       rintro kk G M I ⟨i, hi, rfl, he, rfl, rfl, rfl⟩
       by_cases hin : i < m.a.rows.length
       ·by_cases e : (gt m.a.rows (i : Int)).es.length = (gt m.a.rows 0).es.length
        ·repeat (refine aK ?_)
         refine aM (m.a.rows.length - (i + 1)) _ _ _ (by first | omega | (simp only [List.length_append, List.length_cons, List.length_nil]; omega)) aO aC aD (⟨i + 1, by omega, rfl, oP he e, rfl, rfl, rfl⟩)
        ·repeat (refine aK ?_)
         refine aH (by first | exact .inl rfl | exact .inr rfl) rfl rfl _ _ aC aD (⟨rfl, rfl, by rw [LW.code_4 hg hr (fun h => e (kQ h.1 hin))]⟩)
       ·by_cases e1 : m.l.es.length = m.a.rows.length
        ·by_cases e2 : m.p.es.length = m.a.rows.length
         ·have hc : m.rect := ⟨pW he (by omega), e1, e2⟩
          repeat (refine aK ?_)
          refine aS [79, 80] rfl (fun k G M I => ∃ i : Nat, i ≤ m.p.es.length ∧ k = m.p.es.length - i ∧ (∀ j : Nat, j < i → (gt m.p.es (j : Int)).posi) ∧ G = [(81, .int .i64 i)] ∧ M0 = M ∧ I = aT (some ⟨b1, 0, none⟩) [mvW m.a, vD m.l, vD m.p] :: aT m.p.p (recs eW m.p.es) :: aT m.a.p (recs wH m.a.rows) :: iW m.p :: iW m.l :: oZ m.a :: I0) (m.p.es.length) _ _ _ aO aC aD (⟨0, by omega, rfl, fun j hj => by omega, rfl, rfl, rfl⟩) ?_
          rintro kk G M I ⟨i, hi, rfl, hp, rfl, rfl, rfl⟩
          by_cases hin : i < m.p.es.length
          ·have hS := fun M0 I0 h => aOS (X := X) (w0 := w0) (M0 := M0) (I0 := I0) (r := gt m.p.es (i : Int)) (kQ spr hin) (kQ hg.2.2 hin) h
           have hsg := aPA (z := zI (gt m.p.es (i : Int)).n1 (gt m.p.es (i : Int)).g1)
           refine bL (φ := isW (gt m.p.es (i : Int))) (Hv.wlel aB (by omega)) ?_
           generalize (zI (gt m.p.es (i : Int)).n1 (gt m.p.es (i : Int)).g1).sign = sg at *
           by_cases e : (gt m.p.es (i : Int)).posi
           ·have hs0 : ¬ sg ≤ 0 := fun h => hsg.1 h e
            repeat (refine aK ?_)
            (refine aN rfl rfl ?_; intro b3; refine ⟨okF, ?_⟩)
            repeat (refine aK ?_)
            (refine aA rfl (hS _ _ (Hv.mem aB)) rfl rfl ?_; rintro _ _ _ ⟨rfl, rfl, rfl⟩; refine ⟨okF, ?_⟩)
            repeat (refine aK ?_)
            refine aM (m.p.es.length - (i + 1)) _ _ _ (by first | omega | (simp only [List.length_append, List.length_cons, List.length_nil]; omega)) aO aC aD (⟨i + 1, by omega, rfl, oP hp e, rfl, rfl, rfl⟩)
           ·have hs0 : sg ≤ 0 := hsg.2 e
            repeat (refine aK ?_)
            (refine aN rfl rfl ?_; intro b3; refine ⟨okF, ?_⟩)
            repeat (refine aK ?_)
            (refine aA rfl (hS _ _ (Hv.mem aB)) rfl rfl ?_; rintro _ _ _ ⟨rfl, rfl, rfl⟩; refine ⟨okF, ?_⟩)
            repeat (refine aK ?_)
            refine aH (by first | exact .inl rfl | exact .inr rfl) rfl rfl _ _ aC aD (⟨rfl, rfl, by rw [LW.code_2 hg hr hc (fun h => e (kQ h hin))]⟩)
          ·repeat (refine aK ?_)
           refine aH (by first | exact .inl rfl | exact .inr rfl) rfl rfl _ _ aC aD (⟨rfl, rfl, by rw [LW.code_0 hg hr hc (pW hp (by omega))]⟩)
         ·repeat (refine aK ?_)
          refine aH (by first | exact .inl rfl | exact .inr rfl) rfl rfl _ _ aC aD (⟨rfl, rfl, by rw [LW.code_4 hg hr (fun h => e2 h.2.2)]⟩)
        ·repeat (refine aK ?_)
         refine aH (by first | exact .inl rfl | exact .inr rfl) rfl rfl _ _ aC aD (⟨rfl, rfl, by rw [LW.code_4 hg hr (fun h => e1 h.2.1)]⟩)
      ·repeat (refine aK ?_)
       refine aH (by first | exact .inl rfl | exact .inr rfl) rfl rfl _ _ aC aD (⟨rfl, rfl, by rw [LW.code_3 hg (fun h => c2 h.2.2)]⟩)
     ·repeat (refine aK ?_)
      refine aH (by first | exact .inl rfl | exact .inr rfl) rfl rfl _ _ aC aD (⟨rfl, rfl, by rw [LW.code_3 hg (fun h => c1 h.2.1)]⟩)
    ·repeat (refine aK ?_)
     refine aH (by first | exact .inl rfl | exact .inr rfl) rfl rfl _ _ aC aD (⟨rfl, rfl, by rw [LW.code_3 hg (fun h => r2 h.1.2)]⟩)
   ·repeat (refine aK ?_)
    refine aH (by first | exact .inl rfl | exact .inr rfl) rfl rfl _ _ aC aD (⟨rfl, rfl, by rw [LW.code_3 hg (fun h => r1 h.1.1)]⟩)
  ·rw [aY gB] at hCb
   (refine aA rfl (hCb _ _ b2 aB aB aB) rfl rfl ?_; rintro _ _ _ ⟨rfl, rfl, rfl⟩; refine ⟨okF, ?_⟩)
   repeat (refine aK ?_)
   refine aH (by first | exact .inl rfl | exact .inr rfl) rfl rfl _ _ aC aD (⟨rfl, rfl, by rw [LW.code_1 (fun h => gB (fun r hr => by
    rcases List.mem_cons.1 hr with rfl | hr
    ·exact h.2.1
    ·rw [List.mem_singleton.1 hr]; exact h.2.2))]⟩)
 ·rw [aY gA] at hCa
  repeat (refine aK ?_)
  (refine aA rfl (hCa _ _ aB aB) rfl rfl ?_; rintro _ _ _ ⟨rfl, rfl, rfl⟩; refine ⟨okF, ?_⟩)
  repeat (refine aK ?_)
  refine aH (by first | exact .inl rfl | exact .inr rfl) rfl rfl _ _ aC aD (⟨rfl, rfl, by rw [LW.code_1 (fun h => gA h.1)]⟩)
theorem aHI {m : LW} (sm : m.sml) (hm : sP m ∈ I0) : CD Tryz.prog 93 [vLW m] X w0 M0 I0 (fun v M I => M0 = M ∧ I0 = I ∧ v = .int .i64 m.code) := by
 obtain ⟨⟨sa, sar⟩, ⟨sl, slr⟩, ⟨sp, spr⟩⟩ := sm
 refine bQ (φ := oZ m.a) (Hv.lwa hm) ?_
 refine bQ (φ := iW m.l) (Hv.lwl (List.Mem.tail _ hm)) ?_
 refine bQ (φ := iW m.p) (Hv.lwp (List.Mem.tail _ (List.Mem.tail _ hm))) ?_
 refine bQ (φ := aT m.a.p (recs wH m.a.rows)) (Hv.wmsl aB) ?_
 refine bQ (φ := aT m.p.p (recs eW m.p.es)) (Hv.wlsl aB) ?_
 have hV := fun M0 I0 (r : WL) (h : r.sml) (h2 : iW r ∈ I0) => aCC (X := X) (w0 := w0) (M0 := M0) (I0 := I0) (r := r) h h2
 have hVl := fun M0 I0 h2 => hV M0 I0 m.l ⟨sl, slr⟩ h2
 have hVp := fun M0 I0 h2 => hV M0 I0 m.p ⟨sp, spr⟩ h2
 refine bE Tryz.func93 rfl Tryz.ntmps93 rfl ?_
 refine aJ ?_
 refine aI ?_
 (refine aP rfl rfl rfl ?_; intro b1; refine ⟨okF, ?_⟩)
 refine aF .here ?_
 repeat (refine aK ?_)
 refine aS [1, 10, 11] rfl (fun k G M I => ∃ i : Nat, i ≤ m.a.rows.length ∧ k = m.a.rows.length - i ∧ (∀ j : Nat, j < i → (gt m.a.rows (j : Int)).good) ∧ G = [(12, .int .i64 i)] ∧ M0 = M ∧ I = aT (some ⟨b1, 0, none⟩) [mvW m.a, vD m.l, vD m.p] :: aT m.p.p (recs eW m.p.es) :: aT m.a.p (recs wH m.a.rows) :: iW m.p :: iW m.l :: oZ m.a :: I0) (m.a.rows.length) _ _ _ aO aC aD (⟨0, by omega, rfl, fun j hj => by omega, rfl, rfl, rfl⟩) ?_
 rintro kk G M I ⟨i, hi, rfl, hgr, rfl, rfl, rfl⟩
 by_cases hin : i < m.a.rows.length
 ·refine bL (φ := iW (gt m.a.rows (i : Int))) (Hv.wmrow aB (by omega)) ?_
  have hVi := fun M0 I0 h2 => hV M0 I0 (gt m.a.rows (i : Int)) (kQ sar hin) h2
  by_cases e : (gt m.a.rows (i : Int)).good
  ·rw [bR e] at hVi
   repeat (refine aK ?_)
   (refine aA rfl (hVi _ _ aB) rfl rfl ?_; rintro _ _ _ ⟨rfl, rfl, rfl⟩; refine ⟨okF, ?_⟩)
   repeat (refine aK ?_)
   refine aM (m.a.rows.length - (i + 1)) _ _ _ (by first | omega | (simp only [List.length_append, List.length_cons, List.length_nil]; omega)) aO aC aD (⟨i + 1, by omega, rfl, oP hgr e, rfl, rfl, rfl⟩)
  ·rw [aY e] at hVi
   repeat (refine aK ?_)
   (refine aA rfl (hVi _ _ aB) rfl rfl ?_; rintro _ _ _ ⟨rfl, rfl, rfl⟩; refine ⟨okF, ?_⟩)
   repeat (refine aK ?_)
   refine aH (by first | exact .inl rfl | exact .inr rfl) rfl rfl _ _ aC aD (⟨rfl, rfl, by rw [LW.code_1 (fun h => e (kQ h.1 hin))]⟩)
 ·have gA : ∀ r ∈ m.a.rows, r.good := pW hgr (by omega)
  by_cases gl : m.l.good
  ·rw [bR gl] at hVl
   by_cases gp : m.p.good
   ·rw [bR gp] at hVp
    have hg : m.good := ⟨gA, gl, gp⟩
    repeat (refine aK ?_)
    (refine aA rfl (hVl _ _ aB) rfl rfl ?_; rintro _ _ _ ⟨rfl, rfl, rfl⟩; refine ⟨okF, ?_⟩)
    repeat (refine aK ?_)
    (refine aA rfl (hVp _ _ aB) rfl rfl ?_; rintro _ _ _ ⟨rfl, rfl, rfl⟩; refine ⟨okF, ?_⟩)
    by_cases r1 : 1 ≤ m.a.rows.length
    ·by_cases r2 : m.a.rows.length ≤ 64
     ·by_cases c1 : 1 ≤ (gt m.a.rows 0).es.length
      ·by_cases c2 : (gt m.a.rows 0).es.length ≤ 24
       ·have hr : m.rng := ⟨⟨r1, r2⟩, c1, c2⟩
        repeat (refine aK ?_)
        refine aS [1, 57, 58] rfl (fun k G M I => ∃ i : Nat, i ≤ m.a.rows.length ∧ k = m.a.rows.length - i ∧ (∀ j : Nat, j < i → (gt m.a.rows (j : Int)).es.length = (gt m.a.rows 0).es.length) ∧ G = [(59, .int .i64 i)] ∧ M0 = M ∧ I = aT (some ⟨b1, 0, none⟩) [mvW m.a, vD m.l, vD m.p] :: aT m.p.p (recs eW m.p.es) :: aT m.a.p (recs wH m.a.rows) :: iW m.p :: iW m.l :: oZ m.a :: I0) (m.a.rows.length) _ _ _ aO aC aD (⟨0, by omega, rfl, fun j hj => by omega, rfl, rfl, rfl⟩) ?_
        rintro kk G M I ⟨i, hi, rfl, he, rfl, rfl, rfl⟩
        by_cases hin : i < m.a.rows.length
        ·by_cases e : (gt m.a.rows (i : Int)).es.length = (gt m.a.rows 0).es.length
         ·repeat (refine aK ?_)
          refine aM (m.a.rows.length - (i + 1)) _ _ _ (by first | omega | (simp only [List.length_append, List.length_cons, List.length_nil]; omega)) aO aC aD (⟨i + 1, by omega, rfl, oP he e, rfl, rfl, rfl⟩)
         ·repeat (refine aK ?_)
          refine aH (by first | exact .inl rfl | exact .inr rfl) rfl rfl _ _ aC aD (⟨rfl, rfl, by rw [LW.code_4 hg hr (fun h => e (kQ h.1 hin))]⟩)
        ·by_cases e1 : m.l.es.length = m.a.rows.length
         ·by_cases e2 : m.p.es.length = m.a.rows.length
          ·have hc : m.rect := ⟨pW he (by omega), e1, e2⟩
           repeat (refine aK ?_)
           refine aS [89, 90] rfl (fun k G M I => ∃ i : Nat, i ≤ m.p.es.length ∧ k = m.p.es.length - i ∧ (∀ j : Nat, j < i → (gt m.p.es (j : Int)).posi) ∧ G = [(91, .int .i64 i)] ∧ M0 = M ∧ I = aT (some ⟨b1, 0, none⟩) [mvW m.a, vD m.l, vD m.p] :: aT m.p.p (recs eW m.p.es) :: aT m.a.p (recs wH m.a.rows) :: iW m.p :: iW m.l :: oZ m.a :: I0) (m.p.es.length) _ _ _ aO aC aD (⟨0, by omega, rfl, fun j hj => by omega, rfl, rfl, rfl⟩) ?_
           rintro kk G M I ⟨i, hi, rfl, hp, rfl, rfl, rfl⟩
           by_cases hin : i < m.p.es.length
           ·have hS := fun M0 I0 h => aMX (X := X) (w0 := w0) (M0 := M0) (I0 := I0) (r := gt m.p.es (i : Int)) (kQ spr hin) (kQ hg.2.2 hin) h
            have hsg := aPA (z := zI (gt m.p.es (i : Int)).n1 (gt m.p.es (i : Int)).g1)
            refine bL (φ := isW (gt m.p.es (i : Int))) (Hv.wlel aB (by omega)) ?_
            generalize (zI (gt m.p.es (i : Int)).n1 (gt m.p.es (i : Int)).g1).sign = sg at *
            by_cases e : (gt m.p.es (i : Int)).posi
            ·have hs0 : ¬ sg ≤ 0 := fun h => hsg.1 h e
             repeat (refine aK ?_)
             (refine aN rfl rfl ?_; intro b3; refine ⟨okF, ?_⟩)
             repeat (refine aK ?_)
             (refine aA rfl (hS _ _ (Hv.mem aB)) rfl rfl ?_; rintro _ _ _ ⟨rfl, rfl, rfl⟩; refine ⟨okF, ?_⟩)
             repeat (refine aK ?_)
             refine aM (m.p.es.length - (i + 1)) _ _ _ (by first | omega | (simp only [List.length_append, List.length_cons, List.length_nil]; omega)) aO aC aD (⟨i + 1, by omega, rfl, oP hp e, rfl, rfl, rfl⟩)
            ·have hs0 : sg ≤ 0 := hsg.2 e
             repeat (refine aK ?_)
             (refine aN rfl rfl ?_; intro b3; refine ⟨okF, ?_⟩)
             repeat (refine aK ?_)
             (refine aA rfl (hS _ _ (Hv.mem aB)) rfl rfl ?_; rintro _ _ _ ⟨rfl, rfl, rfl⟩; refine ⟨okF, ?_⟩)
             repeat (refine aK ?_)
             refine aH (by first | exact .inl rfl | exact .inr rfl) rfl rfl _ _ aC aD (⟨rfl, rfl, by rw [LW.code_2 hg hr hc (fun h => e (kQ h hin))]⟩)
           ·repeat (refine aK ?_)
            refine aH (by first | exact .inl rfl | exact .inr rfl) rfl rfl _ _ aC aD (⟨rfl, rfl, by rw [LW.code_0 hg hr hc (pW hp (by omega))]⟩)
          ·repeat (refine aK ?_)
           refine aH (by first | exact .inl rfl | exact .inr rfl) rfl rfl _ _ aC aD (⟨rfl, rfl, by rw [LW.code_4 hg hr (fun h => e2 h.2.2)]⟩)
         ·repeat (refine aK ?_)
          refine aH (by first | exact .inl rfl | exact .inr rfl) rfl rfl _ _ aC aD (⟨rfl, rfl, by rw [LW.code_4 hg hr (fun h => e1 h.2.1)]⟩)
       ·repeat (refine aK ?_)
        refine aH (by first | exact .inl rfl | exact .inr rfl) rfl rfl _ _ aC aD (⟨rfl, rfl, by rw [LW.code_3 hg (fun h => c2 h.2.2)]⟩)
      ·repeat (refine aK ?_)
       refine aH (by first | exact .inl rfl | exact .inr rfl) rfl rfl _ _ aC aD (⟨rfl, rfl, by rw [LW.code_3 hg (fun h => c1 h.2.1)]⟩)
     ·repeat (refine aK ?_)
      refine aH (by first | exact .inl rfl | exact .inr rfl) rfl rfl _ _ aC aD (⟨rfl, rfl, by rw [LW.code_3 hg (fun h => r2 h.1.2)]⟩)
    ·repeat (refine aK ?_)
     refine aH (by first | exact .inl rfl | exact .inr rfl) rfl rfl _ _ aC aD (⟨rfl, rfl, by rw [LW.code_3 hg (fun h => r1 h.1.1)]⟩)
   ·rw [aY gp] at hVp
    repeat (refine aK ?_)
    (refine aA rfl (hVl _ _ aB) rfl rfl ?_; rintro _ _ _ ⟨rfl, rfl, rfl⟩; refine ⟨okF, ?_⟩)
    repeat (refine aK ?_)
    (refine aA rfl (hVp _ _ aB) rfl rfl ?_; rintro _ _ _ ⟨rfl, rfl, rfl⟩; refine ⟨okF, ?_⟩)
    repeat (refine aK ?_)
    refine aH (by first | exact .inl rfl | exact .inr rfl) rfl rfl _ _ aC aD (⟨rfl, rfl, by rw [LW.code_1 (fun h => gp h.2.2)]⟩)
  ·rw [aY gl] at hVl
   repeat (refine aK ?_)
   (refine aA rfl (hVl _ _ aB) rfl rfl ?_; rintro _ _ _ ⟨rfl, rfl, rfl⟩; refine ⟨okF, ?_⟩)
   repeat (refine aK ?_)
   refine aH (by first | exact .inl rfl | exact .inr rfl) rfl rfl _ _ aC aD (⟨rfl, rfl, by rw [LW.code_1 (fun h => gl h.2.1)]⟩)
end
end Go.Proofs.YtgeagiikkeiioaaGreat

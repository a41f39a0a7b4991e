/- Models (api.Linear) as they come in: their check in both packages; few. -/
import Derived.Test.YtgeagiikkeiioaaGreatZebh
import Derived.Test.YtgeagiikkeiioaaGreatZeaw
set_option linter.unusedSimpArgs false
set_option linter.unusedVariables false
set_option maxRecDepth 100000
set_option maxHeartbeats 4000000
namespace Go.Proofs.YtgeagiikkeiioaaGreat
open Go Go.Fx
structure LW where
 a : WM
 l : WL
 p : WL
instance LW.inh : Inhabited LW := ⟨⟨default, default, default⟩⟩
abbrev eLW (m : LW) : List Value := [mvW m.a, rZ m.l, rZ m.p]
abbrev vLW (m : LW) : Value := .agg #[mvW m.a, rZ m.l, rZ m.p]
structure IsLW (m : LW) (X : List Nat) (w : World) : Prop where
 a : IsWM m.a X w
 l : IsWL m.l X w
 p : IsWL m.p X w
abbrev iZ (m : LW) : bD := IsLW m
instance LW.gd (m : LW) : Fx.Good (IsLW m) := ⟨fun X Y w w' h he hY => ⟨Fx.Good.go (φ := IsWM _) X Y w w' h.a he hY, Fx.Good.go (φ := IsWL _) X Y w w' h.l he hY, Fx.Good.go (φ := IsWL _) X Y w w' h.p he hY⟩⟩
theorem Hv.lwa {I : List bD} {m : LW} (h : iZ m ∈ I) : Hv I (lS m.a) := ⟨fun X w hw => (hw _ h : IsLW m X w).a⟩
theorem Hv.lwl {I : List bD} {m : LW} (h : iZ m ∈ I) : Hv I (fT m.l) := ⟨fun X w hw => (hw _ h : IsLW m X w).l⟩
theorem Hv.lwp {I : List bD} {m : LW} (h : iZ m ∈ I) : Hv I (fT m.p) := ⟨fun X w hw => (hw _ h : IsLW m X w).p⟩
def LW.sml (m : LW) : Prop := m.a.sml ∧ m.l.sml ∧ m.p.sml
def LW.rch (m : LW) : Prop := m.a.rch ∧ m.l.rch ∧ m.p.rch
def RW.posi (r : RW) : Prop := 0 < zI r.n1 r.g1
instance RW.decPosi (r : RW) : Decidable r.posi := by unfold RW.posi; exact inferInstance
def LW.good (m : LW) : Prop := (∀ r ∈ m.a.rows, r.good) ∧ m.l.good ∧ m.p.good
instance LW.decGood (m : LW) : Decidable m.good := by unfold LW.good; exact inferInstance
def LW.rng (m : LW) : Prop := (1 ≤ m.a.rows.length ∧ m.a.rows.length ≤ 64) ∧ 1 ≤ (gt m.a.rows 0).es.length ∧ (gt m.a.rows 0).es.length ≤ 24
instance LW.decRng (m : LW) : Decidable m.rng := by unfold LW.rng; exact inferInstance
def LW.rect (m : LW) : Prop := (∀ r ∈ m.a.rows, r.es.length = (gt m.a.rows 0).es.length) ∧ m.l.es.length = m.a.rows.length ∧ m.p.es.length = m.a.rows.length
instance LW.decRect (m : LW) : Decidable m.rect := by unfold LW.rect; exact inferInstance
def LW.poss (m : LW) : Prop := ∀ e ∈ m.p.es, e.posi
instance LW.decPoss (m : LW) : Decidable m.poss := by unfold LW.poss; exact inferInstance
def LW.code (m : LW) : Int := if m.good then (if m.rng then (if m.rect then (if m.poss then 0 else 2) else 4) else 3) else 1
theorem LW.code_1 {m : LW} (h : ¬ m.good) : m.code = 1 := if_neg h
theorem LW.code_3 {m : LW} (h : m.good) (h1 : ¬ m.rng) : m.code = 3 := by unfold LW.code; rw [if_pos h, if_neg h1]
theorem LW.code_4 {m : LW} (h : m.good) (h1 : m.rng) (h2 : ¬ m.rect) : m.code = 4 := by unfold LW.code; rw [if_pos h, if_pos h1, if_neg h2]
theorem LW.code_2 {m : LW} (h : m.good) (h1 : m.rng) (h2 : m.rect) (h3 : ¬ m.poss) : m.code = 2 := by unfold LW.code; rw [if_pos h, if_pos h1, if_pos h2, if_neg h3]
theorem LW.code_0 {m : LW} (h : m.good) (h1 : m.rng) (h2 : m.rect) (h3 : m.poss) : m.code = 0 := by unfold LW.code; rw [if_pos h, if_pos h1, if_pos h2, if_pos h3]
theorem LW.code_ok {m : LW} (h : m.code = 0) : m.good ∧ m.rng ∧ m.rect ∧ m.poss := by
 unfold LW.code at h
 by_cases h0 : m.good
 ·by_cases h1 : m.rng
  ·by_cases h2 : m.rect
   ·by_cases h3 : m.poss
    ·exact ⟨h0, h1, h2, h3⟩
    ·simp [h0, h1, h2, h3] at h
   ·simp [h0, h1, h2] at h
  ·simp [h0, h1] at h
 ·simp [h0] at h
theorem oG {α : Type} [Inhabited α] {p : α → Prop} {l : List α} {n : Nat} (h : ∀ j : Nat, j < n → p (gt l (j : Int))) (hn : l.length ≤ n) : ∀ a ∈ l, p a := fun a ha => by
 obtain ⟨j, hj, rfl⟩ := List.mem_iff_getElem.1 ha
 have := h j (by omega)
 rwa [iJ hj] at this
theorem kP {α : Type} [Inhabited α] {p : α → Prop} {l : List α} (h : ∀ a ∈ l, p a) {j : Nat} (hj : j < l.length) : p (gt l (j : Int)) := h _ (bM (by omega))
theorem kR {p : Nat → Prop} {i : Nat} (h : ∀ j, j < i → p j) (hi : p i) : ∀ j, j < i + 1 → p j := fun j hj => by
 by_cases e : j = i
 ·subst e; exact hi
 ·exact h j (by omega)
theorem aQF {z : Int} : z.sign ≤ 0 ↔ ¬ 0 < z := by rw [← Int.sign_pos_iff]; omega
section
variable {X : List Nat} {w0 : World} {M0 : List Ent} {I0 : List bD}
theorem aRI {r : RW} (hs : r.sml) (hg : r.good) (hw : Hv I0 (isW r)) : CD Tryz.prog 76 [wv r] X w0 M0 I0 (fun v M I => M0 = M ∧ I0 = I ∧ v = .int .i64 (zI r.n1 r.g1).sign) := by
 refine aLJ (φ := r.Fit) (fun w hw' => (hw.go _ _ (fun ψ hm => (hw'.imm ψ hm).2) : IsW r _ w).fit) (fun hf => ?_)
 obtain ⟨e, rfl⟩ := RW.good_raw hf hg
 have h := mU (X := X) (w0 := w0) (M0 := M0) (I0 := I0) (e := e) (k := 30000000000) (by omega) (Hv.ofW hw (by have := hs.1; omega) (by have := hs.2; omega))
 have e1 : zI e.raw.n1 e.raw.g1 = e.q.num := uF _
 rw [e1]; exact h
theorem aNL {r : RW} (hs : r.sml) (hg : r.good) (hw : Hv I0 (isW r)) : CD Tryz.prog 61 [wv r] X w0 M0 I0 (fun v M I => M0 = M ∧ I0 = I ∧ v = .int .i64 (zI r.n1 r.g1).sign) := by
 refine aLJ (φ := r.Fit) (fun w hw' => (hw.go _ _ (fun ψ hm => (hw'.imm ψ hm).2) : IsW r _ w).fit) (fun hf => ?_)
 obtain ⟨e, rfl⟩ := RW.good_raw hf hg
 have h := qK (X := X) (w0 := w0) (M0 := M0) (I0 := I0) (e := e) (k := 30000000000) (by omega) (Hv.ofW hw (by have := hs.1; omega) (by have := hs.2; omega))
 have e1 : zI e.raw.n1 e.raw.g1 = e.q.num := uF _
 rw [e1]; exact h
theorem aKD {r : RW} (hs : r.sml) (hw : Hv I0 (isW r)) : CD Tryz.prog 191 [wv r] X w0 M0 I0 (fun v M I => M0 = M ∧ I0 = I ∧ v = .bool (B (¬ r.good))) := by
 refine bC Tryz.func191 rfl Tryz.ntmps191 rfl ?_
 refine aJ ?_
 refine aH ?_
 (refine aM rfl rfl rfl ?_; intro b; refine ⟨okF, ?_⟩)
 repeat (refine aI ?_)
 (refine aA rfl (zO (r := r) hs hw) rfl rfl ?_; rintro _ _ _ ⟨rfl, rfl, rfl⟩; refine ⟨okF, ?_⟩)
 repeat (refine aI ?_)
 refine aC (by first | exact .inl rfl | exact .inr rfl) rfl rfl _ _ aG aD (⟨rfl, rfl, rfl⟩)
theorem aEY {q : Option Addr} {c : Nat} {rows : List WL} (hl : rows.length ≤ 1000000000) (hs : ∀ r ∈ rows, r.sml) (hq : aV q (recs uR rows) ∈ I0) (hr : ∀ i : Nat, i < rows.length → Hv I0 (fT (gt rows (i : Int)))) :
  CD Tryz.prog 150 [.slice q rows.length c] X w0 M0 I0 (fun v M I => M0 = M ∧ I0 = I ∧ v = .bool (B (∀ r ∈ rows, r.good))) := by
 refine bC Tryz.func150 rfl Tryz.ntmps150 rfl ?_
 repeat (refine aI ?_)
 refine aQ [5, 6] rfl (fun k G M I => ∃ i : Nat, i ≤ rows.length ∧ k = rows.length - i ∧ (∀ j : Nat, j < i → (gt rows (j : Int)).good) ∧ G = [(7, .int .i64 i)] ∧ M0 = M ∧ I0 = I) (rows.length) _ _ _ aR aG aD (⟨0, by omega, rfl, fun j hj => by omega, rfl, rfl, rfl⟩) ?_
 rintro kk G M I ⟨i, hi, rfl, hg, rfl, rfl, rfl⟩
 by_cases hin : i < rows.length
 ·obtain ⟨s1, s2⟩ := kP hs hin
  have hri := hr i hin
  have hH := fun M0 I0 (h1 : aV (gt rows (i : Int)).p (recs eW (gt rows (i : Int)).es) ∈ I0) (h2 : fT (gt rows (i : Int)) ∈ I0) => aIU (X := X) (w0 := w0) (M0 := M0) (I0 := I0) (q := (gt rows (i : Int)).p) (a := (gt rows (i : Int)).es) (c := (gt rows (i : Int)).c) (g := 191) (fs := #[]) (cs := #[]) (fun (x : RW) => ¬ x.good) (by omega) h1 (fun t ht => aKD (s2 _ (bM (by omega))) (Hv.wlel h2 (by omega)))
  refine bQ hri ?_
  refine bQ (φ := aV (gt rows (i : Int)).p (recs eW (gt rows (i : Int)).es)) (Hv.wlsl (List.Mem.head _)) ?_
  by_cases e : (gt rows (i : Int)).good
  ·rw [aP (show ¬ ∃ x ∈ (gt rows (i : Int)).es, ¬ x.good from fun ⟨x, hx, hn⟩ => hn (e x hx))] at hH
   repeat (refine aI ?_)
   (refine aA rfl (hH _ _ aB aB) rfl rfl ?_; rintro _ _ _ ⟨rfl, rfl, rfl⟩; refine ⟨okF, ?_⟩)
   repeat (refine aI ?_)
   refine aL (rows.length - (i + 1)) _ _ _ (by first | omega | (simp only [List.length_append, List.length_cons, List.length_nil]; omega)) aR aG aD (⟨i + 1, by omega, rfl, kR hg e, rfl, rfl, rfl⟩)
  ·rw [aU (show ∃ x ∈ (gt rows (i : Int)).es, ¬ x.good from Classical.byContradiction (fun hn => e (fun x hx => Classical.byContradiction (fun h => hn ⟨x, hx, h⟩))))] at hH
   repeat (refine aI ?_)
   (refine aA rfl (hH _ _ aB aB) rfl rfl ?_; rintro _ _ _ ⟨rfl, rfl, rfl⟩; refine ⟨okF, ?_⟩)
   repeat (refine aI ?_)
   refine aC (by first | exact .inl rfl | exact .inr rfl) rfl rfl _ _ aG aD (⟨rfl, rfl, congrArg Value.bool (aP (fun h => e (kP h hin))).symm⟩)
 ·repeat (refine aI ?_)
  refine aC (by first | exact .inl rfl | exact .inr rfl) rfl rfl _ _ aG aD (⟨rfl, rfl, congrArg Value.bool (aU (oG hg (by omega))).symm⟩)
theorem Hv.wlTwo {I : List bD} {a b : WL} (h1 : fT a ∈ I) (h2 : fT b ∈ I) : ∀ i : Nat, i < [a, b].length → Hv I (fT (gt [a, b] (i : Int))) := fun i hi => by
 match i, hi with
 | 0, _ => exact Hv.mem h1
 | 1, _ => exact Hv.mem h2
theorem sU {m : LW} (sm : m.sml) (hm : iZ m ∈ I0) : CD Tryz.prog 95 [vLW m] X w0 M0 I0 (fun v M I => M0 = M ∧ I0 = I ∧ v = .int .i64 m.code) := by
 obtain ⟨⟨sa, sar⟩, ⟨sl, slr⟩, ⟨sp, spr⟩⟩ := sm
 refine bI (φ := lS m.a) (Hv.lwa hm) ?_
 refine bI (φ := fT m.l) (Hv.lwl (List.Mem.tail _ hm)) ?_
 refine bI (φ := fT m.p) (Hv.lwp (List.Mem.tail _ (List.Mem.tail _ hm))) ?_
 refine bI (φ := aV m.a.p (recs uR m.a.rows)) (Hv.wmsl aB) ?_
 refine bI (φ := aV m.p.p (recs eW m.p.es)) (Hv.wlsl aB) ?_
 have hCa := fun M0 I0 (h1 : aV m.a.p (recs uR m.a.rows) ∈ I0) (h2 : lS m.a ∈ I0) => aEY (X := X) (w0 := w0) (M0 := M0) (I0 := I0) (q := m.a.p) (c := m.a.c) (rows := m.a.rows) (by omega) sar h1 (fun i hi => Hv.wmrow h2 (by omega))
 have hCb := fun M0 I0 (b : Nat) (h1 : aV (some ⟨b, 0, none⟩) (recs uR [m.l, m.p]) ∈ I0) (h2 : fT m.l ∈ I0) (h3 : fT m.p ∈ I0) => aEY (X := X) (w0 := w0) (M0 := M0) (I0 := I0) (q := some ⟨b, 0, none⟩) (c := 2) (rows := [m.l, m.p]) (by show 2 ≤ 1000000000; omega) (fun r hr => by
  rcases List.mem_cons.1 hr with rfl | hr
  ·exact ⟨sl, slr⟩
  ·rw [List.mem_singleton.1 hr]; exact ⟨sp, spr⟩) h1 (Hv.wlTwo h2 h3)
 refine bC Tryz.func95 rfl Tryz.ntmps95 rfl ?_
 refine aJ ?_
 refine aH ?_
 (refine aM rfl rfl rfl ?_; intro b1; refine ⟨okF, ?_⟩)
 refine aF .here ?_
 by_cases gA : ∀ r ∈ m.a.rows, r.good
 ·rw [aU gA] at hCa
  repeat (refine aI ?_)
  (refine aA rfl (hCa _ _ aB aB) rfl rfl ?_; rintro _ _ _ ⟨rfl, rfl, rfl⟩; refine ⟨okF, ?_⟩)
  repeat (refine aI ?_)
  (refine aO (cs := recs uR [m.l, m.p]) ([rZ m.l, rZ m.p]) rfl rfl (by intro v hv; repeat (first | exact absurd hv (List.not_mem_nil) | (rcases List.mem_cons.1 hv with rfl | hv; · rfl))) (by omega) rfl rfl rfl ?_; intro b2; refine ⟨okF, ?_⟩)
  refine aF .here ?_
  by_cases gB : ∀ r ∈ [m.l, m.p], r.good
  ·rw [aU gB] at hCb
   have hg : m.good := ⟨gA, gB _ (List.Mem.head _), gB _ (List.Mem.tail _ (List.Mem.head _))⟩
   (refine aA rfl (hCb _ _ b2 aB aB aB) rfl rfl ?_; rintro _ _ _ ⟨rfl, rfl, rfl⟩; refine ⟨okF, ?_⟩)
   by_cases r1 : 1 ≤ m.a.rows.length
   ·by_cases r2 : m.a.rows.length ≤ 64
    ·by_cases c1 : 1 ≤ (gt m.a.rows 0).es.length
     ·by_cases c2 : (gt m.a.rows 0).es.length ≤ 24
      ·have hr : m.rng := ⟨⟨r1, r2⟩, c1, c2⟩
       repeat (refine aI ?_)
       refine aQ [1, 47, 48] rfl (fun k G M I => ∃ i : Nat, i ≤ m.a.rows.length ∧ k = m.a.rows.length - i ∧ (∀ j : Nat, j < i → (gt m.a.rows (j : Int)).es.length = (gt m.a.rows 0).es.length) ∧ G = [(49, .int .i64 i)] ∧ M0 = M ∧ I = aV (some ⟨b1, 0, none⟩) [mvW m.a, rZ m.l, rZ m.p] :: aV m.p.p (recs eW m.p.es) :: aV m.a.p (recs uR m.a.rows) :: fT m.p :: fT m.l :: lS m.a :: I0) (m.a.rows.length) _ _ _ aR aG aD (⟨0, by omega, rfl, fun j hj => by omega, rfl, rfl, rfl⟩) ?_
       rintro kk G M I ⟨i, hi, rfl, he, rfl, rfl, rfl⟩
       by_cases hin : i < m.a.rows.length
       ·by_cases e : (gt m.a.rows (i : Int)).es.length = (gt m.a.rows 0).es.length
        ·repeat (refine aI ?_)
         refine aL (m.a.rows.length - (i + 1)) _ _ _ (by first | omega | (simp only [List.length_append, List.length_cons, List.length_nil]; omega)) aR aG aD (⟨i + 1, by omega, rfl, kR he e, rfl, rfl, rfl⟩)
        ·repeat (refine aI ?_)
         refine aC (by first | exact .inl rfl | exact .inr rfl) rfl rfl _ _ aG aD (⟨rfl, rfl, by rw [LW.code_4 hg hr (fun h => e (kP h.1 hin))]⟩)
       ·by_cases e1 : m.l.es.length = m.a.rows.length
        ·by_cases e2 : m.p.es.length = m.a.rows.length
         ·have hc : m.rect := ⟨oG he (by omega), e1, e2⟩
          repeat (refine aI ?_)
          refine aQ [79, 80] rfl (fun k G M I => ∃ i : Nat, i ≤ m.p.es.length ∧ k = m.p.es.length - i ∧ (∀ j : Nat, j < i → (gt m.p.es (j : Int)).posi) ∧ G = [(81, .int .i64 i)] ∧ M0 = M ∧ I = aV (some ⟨b1, 0, none⟩) [mvW m.a, rZ m.l, rZ m.p] :: aV m.p.p (recs eW m.p.es) :: aV m.a.p (recs uR m.a.rows) :: fT m.p :: fT m.l :: lS m.a :: I0) (m.p.es.length) _ _ _ aR aG aD (⟨0, by omega, rfl, fun j hj => by omega, rfl, rfl, rfl⟩) ?_
          rintro kk G M I ⟨i, hi, rfl, hp, rfl, rfl, rfl⟩
          by_cases hin : i < m.p.es.length
          ·have hS := fun M0 I0 h => aRI (X := X) (w0 := w0) (M0 := M0) (I0 := I0) (r := gt m.p.es (i : Int)) (kP spr hin) (kP hg.2.2 hin) h
           have hsg := aQF (z := zI (gt m.p.es (i : Int)).n1 (gt m.p.es (i : Int)).g1)
           refine bQ (φ := isW (gt m.p.es (i : Int))) (Hv.wlel aB (by omega)) ?_
           generalize (zI (gt m.p.es (i : Int)).n1 (gt m.p.es (i : Int)).g1).sign = sg at *
           by_cases e : (gt m.p.es (i : Int)).posi
           ·have hs0 : ¬ sg ≤ 0 := fun h => hsg.1 h e
            repeat (refine aI ?_)
            (refine aN rfl rfl ?_; intro b3; refine ⟨okF, ?_⟩)
            repeat (refine aI ?_)
            (refine aA rfl (hS _ _ (Hv.mem aB)) rfl rfl ?_; rintro _ _ _ ⟨rfl, rfl, rfl⟩; refine ⟨okF, ?_⟩)
            repeat (refine aI ?_)
            refine aL (m.p.es.length - (i + 1)) _ _ _ (by first | omega | (simp only [List.length_append, List.length_cons, List.length_nil]; omega)) aR aG aD (⟨i + 1, by omega, rfl, kR hp e, rfl, rfl, rfl⟩)
           ·have hs0 : sg ≤ 0 := hsg.2 e
            repeat (refine aI ?_)
            (refine aN rfl rfl ?_; intro b3; refine ⟨okF, ?_⟩)
            repeat (refine aI ?_)
            (refine aA rfl (hS _ _ (Hv.mem aB)) rfl rfl ?_; rintro _ _ _ ⟨rfl, rfl, rfl⟩; refine ⟨okF, ?_⟩)
            repeat (refine aI ?_)
            refine aC (by first | exact .inl rfl | exact .inr rfl) rfl rfl _ _ aG aD (⟨rfl, rfl, by rw [LW.code_2 hg hr hc (fun h => e (kP h hin))]⟩)
          ·repeat (refine aI ?_)
           refine aC (by first | exact .inl rfl | exact .inr rfl) rfl rfl _ _ aG aD (⟨rfl, rfl, by rw [LW.code_0 hg hr hc (oG hp (by omega))]⟩)
         ·repeat (refine aI ?_)
          refine aC (by first | exact .inl rfl | exact .inr rfl) rfl rfl _ _ aG aD (⟨rfl, rfl, by rw [LW.code_4 hg hr (fun h => e2 h.2.2)]⟩)
        ·repeat (refine aI ?_)
         refine aC (by first | exact .inl rfl | exact .inr rfl) rfl rfl _ _ aG aD (⟨rfl, rfl, by rw [LW.code_4 hg hr (fun h => e1 h.2.1)]⟩)
      ·repeat (refine aI ?_)
       refine aC (by first | exact .inl rfl | exact .inr rfl) rfl rfl _ _ aG aD (⟨rfl, rfl, by rw [LW.code_3 hg (fun h => c2 h.2.2)]⟩)
     ·repeat (refine aI ?_)
      refine aC (by first | exact .inl rfl | exact .inr rfl) rfl rfl _ _ aG aD (⟨rfl, rfl, by rw [LW.code_3 hg (fun h => c1 h.2.1)]⟩)
    ·repeat (refine aI ?_)
     refine aC (by first | exact .inl rfl | exact .inr rfl) rfl rfl _ _ aG aD (⟨rfl, rfl, by rw [LW.code_3 hg (fun h => r2 h.1.2)]⟩)
   ·repeat (refine aI ?_)
    refine aC (by first | exact .inl rfl | exact .inr rfl) rfl rfl _ _ aG aD (⟨rfl, rfl, by rw [LW.code_3 hg (fun h => r1 h.1.1)]⟩)
  ·rw [aP gB] at hCb
   (refine aA rfl (hCb _ _ b2 aB aB aB) rfl rfl ?_; rintro _ _ _ ⟨rfl, rfl, rfl⟩; refine ⟨okF, ?_⟩)
   repeat (refine aI ?_)
   refine aC (by first | exact .inl rfl | exact .inr rfl) rfl rfl _ _ aG aD (⟨rfl, rfl, by rw [LW.code_1 (fun h => gB (fun r hr => by
    rcases List.mem_cons.1 hr with rfl | hr
    ·exact h.2.1
    ·rw [List.mem_singleton.1 hr]; exact h.2.2))]⟩)
 ·rw [aP gA] at hCa
  repeat (refine aI ?_)
  (refine aA rfl (hCa _ _ aB aB) rfl rfl ?_; rintro _ _ _ ⟨rfl, rfl, rfl⟩; refine ⟨okF, ?_⟩)
  repeat (refine aI ?_)
  refine aC (by first | exact .inl rfl | exact .inr rfl) rfl rfl _ _ aG aD (⟨rfl, rfl, by rw [LW.code_1 (fun h => gA h.1)]⟩)
theorem aHG {m : LW} (sm : m.sml) (hm : iZ m ∈ I0) : CD Tryz.prog 93 [vLW m] X w0 M0 I0 (fun v M I => M0 = M ∧ I0 = I ∧ v = .int .i64 m.code) := by
 obtain ⟨⟨sa, sar⟩, ⟨sl, slr⟩, ⟨sp, spr⟩⟩ := sm
 refine bI (φ := lS m.a) (Hv.lwa hm) ?_
 refine bI (φ := fT m.l) (Hv.lwl (List.Mem.tail _ hm)) ?_
 refine bI (φ := fT m.p) (Hv.lwp (List.Mem.tail _ (List.Mem.tail _ hm))) ?_
 refine bI (φ := aV m.a.p (recs uR m.a.rows)) (Hv.wmsl aB) ?_
 refine bI (φ := aV m.p.p (recs eW m.p.es)) (Hv.wlsl aB) ?_
 have hV := fun M0 I0 (r : WL) (h : r.sml) (h2 : fT r ∈ I0) => oU (X := X) (w0 := w0) (M0 := M0) (I0 := I0) (r := r) h h2
 have hVl := fun M0 I0 h2 => hV M0 I0 m.l ⟨sl, slr⟩ h2
 have hVp := fun M0 I0 h2 => hV M0 I0 m.p ⟨sp, spr⟩ h2
 refine bC Tryz.func93 rfl Tryz.ntmps93 rfl ?_
 refine aJ ?_
 refine aH ?_
 (refine aM rfl rfl rfl ?_; intro b1; refine ⟨okF, ?_⟩)
 refine aF .here ?_
 repeat (refine aI ?_)
 refine aQ [1, 10, 11] rfl (fun k G M I => ∃ i : Nat, i ≤ m.a.rows.length ∧ k = m.a.rows.length - i ∧ (∀ j : Nat, j < i → (gt m.a.rows (j : Int)).good) ∧ G = [(12, .int .i64 i)] ∧ M0 = M ∧ I = aV (some ⟨b1, 0, none⟩) [mvW m.a, rZ m.l, rZ m.p] :: aV m.p.p (recs eW m.p.es) :: aV m.a.p (recs uR m.a.rows) :: fT m.p :: fT m.l :: lS m.a :: I0) (m.a.rows.length) _ _ _ aR aG aD (⟨0, by omega, rfl, fun j hj => by omega, rfl, rfl, rfl⟩) ?_
 rintro kk G M I ⟨i, hi, rfl, hgr, rfl, rfl, rfl⟩
 by_cases hin : i < m.a.rows.length
 ·refine bQ (φ := fT (gt m.a.rows (i : Int))) (Hv.wmrow aB (by omega)) ?_
  have hVi := fun M0 I0 h2 => hV M0 I0 (gt m.a.rows (i : Int)) (kP sar hin) h2
  by_cases e : (gt m.a.rows (i : Int)).good
  ·rw [aU e] at hVi
   repeat (refine aI ?_)
   (refine aA rfl (hVi _ _ aB) rfl rfl ?_; rintro _ _ _ ⟨rfl, rfl, rfl⟩; refine ⟨okF, ?_⟩)
   repeat (refine aI ?_)
   refine aL (m.a.rows.length - (i + 1)) _ _ _ (by first | omega | (simp only [List.length_append, List.length_cons, List.length_nil]; omega)) aR aG aD (⟨i + 1, by omega, rfl, kR hgr e, rfl, rfl, rfl⟩)
  ·rw [aP e] at hVi
   repeat (refine aI ?_)
   (refine aA rfl (hVi _ _ aB) rfl rfl ?_; rintro _ _ _ ⟨rfl, rfl, rfl⟩; refine ⟨okF, ?_⟩)
   repeat (refine aI ?_)
   refine aC (by first | exact .inl rfl | exact .inr rfl) rfl rfl _ _ aG aD (⟨rfl, rfl, by rw [LW.code_1 (fun h => e (kP h.1 hin))]⟩)
 ·have gA : ∀ r ∈ m.a.rows, r.good := oG hgr (by omega)
  by_cases gl : m.l.good
  ·rw [aU gl] at hVl
   by_cases gp : m.p.good
   ·rw [aU gp] at hVp
    have hg : m.good := ⟨gA, gl, gp⟩
    repeat (refine aI ?_)
    (refine aA rfl (hVl _ _ aB) rfl rfl ?_; rintro _ _ _ ⟨rfl, rfl, rfl⟩; refine ⟨okF, ?_⟩)
    repeat (refine aI ?_)
    (refine aA rfl (hVp _ _ aB) rfl rfl ?_; rintro _ _ _ ⟨rfl, rfl, rfl⟩; refine ⟨okF, ?_⟩)
    by_cases r1 : 1 ≤ m.a.rows.length
    ·by_cases r2 : m.a.rows.length ≤ 64
     ·by_cases c1 : 1 ≤ (gt m.a.rows 0).es.length
      ·by_cases c2 : (gt m.a.rows 0).es.length ≤ 24
       ·have hr : m.rng := ⟨⟨r1, r2⟩, c1, c2⟩
        repeat (refine aI ?_)
        refine aQ [1, 57, 58] rfl (fun k G M I => ∃ i : Nat, i ≤ m.a.rows.length ∧ k = m.a.rows.length - i ∧ (∀ j : Nat, j < i → (gt m.a.rows (j : Int)).es.length = (gt m.a.rows 0).es.length) ∧ G = [(59, .int .i64 i)] ∧ M0 = M ∧ I = aV (some ⟨b1, 0, none⟩) [mvW m.a, rZ m.l, rZ m.p] :: aV m.p.p (recs eW m.p.es) :: aV m.a.p (recs uR m.a.rows) :: fT m.p :: fT m.l :: lS m.a :: I0) (m.a.rows.length) _ _ _ aR aG aD (⟨0, by omega, rfl, fun j hj => by omega, rfl, rfl, rfl⟩) ?_
        rintro kk G M I ⟨i, hi, rfl, he, rfl, rfl, rfl⟩
        by_cases hin : i < m.a.rows.length
        ·by_cases e : (gt m.a.rows (i : Int)).es.length = (gt m.a.rows 0).es.length
         ·repeat (refine aI ?_)
          refine aL (m.a.rows.length - (i + 1)) _ _ _ (by first | omega | (simp only [List.length_append, List.length_cons, List.length_nil]; omega)) aR aG aD (⟨i + 1, by omega, rfl, kR he e, rfl, rfl, rfl⟩)
         ·repeat (refine aI ?_)
          refine aC (by first | exact .inl rfl | exact .inr rfl) rfl rfl _ _ aG aD (⟨rfl, rfl, by rw [LW.code_4 hg hr (fun h => e (kP h.1 hin))]⟩)
        ·by_cases e1 : m.l.es.length = m.a.rows.length
         ·by_cases e2 : m.p.es.length = m.a.rows.length
          ·have hc : m.rect := ⟨oG he (by omega), e1, e2⟩
           repeat (refine aI ?_)
           refine aQ [89, 90] rfl (fun k G M I => ∃ i : Nat, i ≤ m.p.es.length ∧ k = m.p.es.length - i ∧ (∀ j : Nat, j < i → (gt m.p.es (j : Int)).posi) ∧ G = [(91, .int .i64 i)] ∧ M0 = M ∧ I = aV (some ⟨b1, 0, none⟩) [mvW m.a, rZ m.l, rZ m.p] :: aV m.p.p (recs eW m.p.es) :: aV m.a.p (recs uR m.a.rows) :: fT m.p :: fT m.l :: lS m.a :: I0) (m.p.es.length) _ _ _ aR aG aD (⟨0, by omega, rfl, fun j hj => by omega, rfl, rfl, rfl⟩) ?_
           rintro kk G M I ⟨i, hi, rfl, hp, rfl, rfl, rfl⟩
           by_cases hin : i < m.p.es.length
           ·have hS := fun M0 I0 h => aNL (X := X) (w0 := w0) (M0 := M0) (I0 := I0) (r := gt m.p.es (i : Int)) (kP spr hin) (kP hg.2.2 hin) h
            have hsg := aQF (z := zI (gt m.p.es (i : Int)).n1 (gt m.p.es (i : Int)).g1)
            refine bQ (φ := isW (gt m.p.es (i : Int))) (Hv.wlel aB (by omega)) ?_
            generalize (zI (gt m.p.es (i : Int)).n1 (gt m.p.es (i : Int)).g1).sign = sg at *
            by_cases e : (gt m.p.es (i : Int)).posi
            ·have hs0 : ¬ sg ≤ 0 := fun h => hsg.1 h e
             repeat (refine aI ?_)
             (refine aN rfl rfl ?_; intro b3; refine ⟨okF, ?_⟩)
             repeat (refine aI ?_)
             (refine aA rfl (hS _ _ (Hv.mem aB)) rfl rfl ?_; rintro _ _ _ ⟨rfl, rfl, rfl⟩; refine ⟨okF, ?_⟩)
             repeat (refine aI ?_)
             refine aL (m.p.es.length - (i + 1)) _ _ _ (by first | omega | (simp only [List.length_append, List.length_cons, List.length_nil]; omega)) aR aG aD (⟨i + 1, by omega, rfl, kR hp e, rfl, rfl, rfl⟩)
            ·have hs0 : sg ≤ 0 := hsg.2 e
             repeat (refine aI ?_)
             (refine aN rfl rfl ?_; intro b3; refine ⟨okF, ?_⟩)
             repeat (refine aI ?_)
             (refine aA rfl (hS _ _ (Hv.mem aB)) rfl rfl ?_; rintro _ _ _ ⟨rfl, rfl, rfl⟩; refine ⟨okF, ?_⟩)
             repeat (refine aI ?_)
             refine aC (by first | exact .inl rfl | exact .inr rfl) rfl rfl _ _ aG aD (⟨rfl, rfl, by rw [LW.code_2 hg hr hc (fun h => e (kP h hin))]⟩)
           ·repeat (refine aI ?_)
            refine aC (by first | exact .inl rfl | exact .inr rfl) rfl rfl _ _ aG aD (⟨rfl, rfl, by rw [LW.code_0 hg hr hc (oG hp (by omega))]⟩)
          ·repeat (refine aI ?_)
           refine aC (by first | exact .inl rfl | exact .inr rfl) rfl rfl _ _ aG aD (⟨rfl, rfl, by rw [LW.code_4 hg hr (fun h => e2 h.2.2)]⟩)
         ·repeat (refine aI ?_)
          refine aC (by first | exact .inl rfl | exact .inr rfl) rfl rfl _ _ aG aD (⟨rfl, rfl, by rw [LW.code_4 hg hr (fun h => e1 h.2.1)]⟩)
       ·repeat (refine aI ?_)
        refine aC (by first | exact .inl rfl | exact .inr rfl) rfl rfl _ _ aG aD (⟨rfl, rfl, by rw [LW.code_3 hg (fun h => c2 h.2.2)]⟩)
      ·repeat (refine aI ?_)
       refine aC (by first | exact .inl rfl | exact .inr rfl) rfl rfl _ _ aG aD (⟨rfl, rfl, by rw [LW.code_3 hg (fun h => c1 h.2.1)]⟩)
     ·repeat (refine aI ?_)
      refine aC (by first | exact .inl rfl | exact .inr rfl) rfl rfl _ _ aG aD (⟨rfl, rfl, by rw [LW.code_3 hg (fun h => r2 h.1.2)]⟩)
    ·repeat (refine aI ?_)
     refine aC (by first | exact .inl rfl | exact .inr rfl) rfl rfl _ _ aG aD (⟨rfl, rfl, by rw [LW.code_3 hg (fun h => r1 h.1.1)]⟩)
   ·rw [aP gp] at hVp
    repeat (refine aI ?_)
    (refine aA rfl (hVl _ _ aB) rfl rfl ?_; rintro _ _ _ ⟨rfl, rfl, rfl⟩; refine ⟨okF, ?_⟩)
    repeat (refine aI ?_)
    (refine aA rfl (hVp _ _ aB) rfl rfl ?_; rintro _ _ _ ⟨rfl, rfl, rfl⟩; refine ⟨okF, ?_⟩)
    repeat (refine aI ?_)
    refine aC (by first | exact .inl rfl | exact .inr rfl) rfl rfl _ _ aG aD (⟨rfl, rfl, by rw [LW.code_1 (fun h => gp h.2.2)]⟩)
  ·rw [aP gl] at hVl
   repeat (refine aI ?_)
   (refine aA rfl (hVl _ _ aB) rfl rfl ?_; rintro _ _ _ ⟨rfl, rfl, rfl⟩; refine ⟨okF, ?_⟩)
   repeat (refine aI ?_)
   refine aC (by first | exact .inl rfl | exact .inr rfl) rfl rfl _ _ aG aD (⟨rfl, rfl, by rw [LW.code_1 (fun h => gl h.2.1)]⟩)
end
end Go.Proofs.YtgeagiikkeiioaaGreat

/- Models (api.Linear) as they come in: their check in both packages; few. Controlled observations, plain: Fredholm's alternative, rows left out, the rank of the transposed matrix, weights, certificates. -/
import Derived.Test.YtgeagiikkeiioaaGreatZfbd
import Derived.Test.YtgeagiikkeiioaaGreatZfav
import Derived.Test.YtgeagiikkeiioaaGreatZfbc
import Derived.Test.YtgeagiikkeiioaaGreatZfbb
set_option linter.unusedSimpArgs false
set_option linter.unusedVariables false
set_option maxRecDepth 100000
set_option maxHeartbeats 4000000
namespace Go.Proofs.YtgeagiikkeiioaaGreat
open Go Go.Fx
structure LW where
 a : WM
 l : WL
 p : WL
instance LW.inh : Inhabited LW := ⟨⟨default, default, default⟩⟩
abbrev eLW (m : LW) : List Value := [mvW m.a, rR m.l, rR m.p]
abbrev vLW (m : LW) : Value := .agg #[mvW m.a, rR m.l, rR m.p]
structure IsLW (m : LW) (X : List Nat) (w : World) : Prop where
 a : IsWM m.a X w
 l : IsWL m.l X w
 p : IsWL m.p X w
abbrev qY (m : LW) : bA := IsLW m
instance LW.gd (m : LW) : Fx.Good (IsLW m) := ⟨fun X Y w w' h he hY => ⟨Fx.Good.go (φ := IsWM _) X Y w w' h.a he hY, Fx.Good.go (φ := IsWL _) X Y w w' h.l he hY, Fx.Good.go (φ := IsWL _) X Y w w' h.p he hY⟩⟩
theorem Hv.lwa {I : List bA} {m : LW} (h : qY m ∈ I) : Hv I (nN m.a) := ⟨fun X w hw => (hw _ h : IsLW m X w).a⟩
theorem Hv.lwl {I : List bA} {m : LW} (h : qY m ∈ I) : Hv I (gQ m.l) := ⟨fun X w hw => (hw _ h : IsLW m X w).l⟩
theorem Hv.lwp {I : List bA} {m : LW} (h : qY m ∈ I) : Hv I (gQ m.p) := ⟨fun X w hw => (hw _ h : IsLW m X w).p⟩
def LW.sml (m : LW) : Prop := m.a.sml ∧ m.l.sml ∧ m.p.sml
def LW.rch (m : LW) : Prop := m.a.rch ∧ m.l.rch ∧ m.p.rch
def RW.posi (r : RW) : Prop := 0 < zI r.n1 r.g1
instance RW.decPosi (r : RW) : Decidable r.posi := by unfold RW.posi; exact inferInstance
def LW.good (m : LW) : Prop := (∀ r ∈ m.a.rows, r.good) ∧ m.l.good ∧ m.p.good
instance LW.decGood (m : LW) : Decidable m.good := by unfold LW.good; exact inferInstance
def LW.rng (m : LW) : Prop := (1 ≤ m.a.rows.length ∧ m.a.rows.length ≤ 64) ∧ 1 ≤ (gt m.a.rows 0).es.length ∧ (gt m.a.rows 0).es.length ≤ 24
instance LW.decRng (m : LW) : Decidable m.rng := by unfold LW.rng; exact inferInstance
def LW.rect (m : LW) : Prop := (∀ r ∈ m.a.rows, r.es.length = (gt m.a.rows 0).es.length) ∧ m.l.es.length = m.a.rows.length ∧ m.p.es.length = m.a.rows.length
instance LW.decRect (m : LW) : Decidable m.rect := by unfold LW.rect; exact inferInstance
def LW.poss (m : LW) : Prop := ∀ e ∈ m.p.es, e.posi
instance LW.decPoss (m : LW) : Decidable m.poss := by unfold LW.poss; exact inferInstance
def LW.code (m : LW) : Int := if m.good then (if m.rng then (if m.rect then (if m.poss then 0 else 2) else 4) else 3) else 1
theorem LW.code_1 {m : LW} (h : ¬ m.good) : m.code = 1 := if_neg h
theorem LW.code_3 {m : LW} (h : m.good) (h1 : ¬ m.rng) : m.code = 3 := by unfold LW.code; rw [if_pos h, if_neg h1]
theorem LW.code_4 {m : LW} (h : m.good) (h1 : m.rng) (h2 : ¬ m.rect) : m.code = 4 := by unfold LW.code; rw [if_pos h, if_pos h1, if_neg h2]
theorem LW.code_2 {m : LW} (h : m.good) (h1 : m.rng) (h2 : m.rect) (h3 : ¬ m.poss) : m.code = 2 := by unfold LW.code; rw [if_pos h, if_pos h1, if_pos h2, if_neg h3]
theorem LW.code_0 {m : LW} (h : m.good) (h1 : m.rng) (h2 : m.rect) (h3 : m.poss) : m.code = 0 := by unfold LW.code; rw [if_pos h, if_pos h1, if_pos h2, if_pos h3]
theorem LW.code_ok {m : LW} (h : m.code = 0) : m.good ∧ m.rng ∧ m.rect ∧ m.poss := by
 unfold LW.code at h
 by_cases h0 : m.good
 ·by_cases h1 : m.rng
  ·by_cases h2 : m.rect
   ·by_cases h3 : m.poss
    ·exact ⟨h0, h1, h2, h3⟩
    ·simp [h0, h1, h2, h3] at h
   ·simp [h0, h1, h2] at h
  ·simp [h0, h1] at h
 ·simp [h0] at h
theorem oK {α : Type} [Inhabited α] {p : α → Prop} {l : List α} {n : Nat} (h : ∀ j : Nat, j < n → p (gt l (j : Int))) (hn : l.length ≤ n) : ∀ a ∈ l, p a := fun a ha => by
 obtain ⟨j, hj, rfl⟩ := List.mem_iff_getElem.1 ha
 have := h j (by omega)
 rwa [iU hj] at this
theorem jZ {α : Type} [Inhabited α] {p : α → Prop} {l : List α} (h : ∀ a ∈ l, p a) {j : Nat} (hj : j < l.length) : p (gt l (j : Int)) := h _ (eQ (by omega))
theorem nM {p : Nat → Prop} {i : Nat} (h : ∀ j, j < i → p j) (hi : p i) : ∀ j, j < i + 1 → p j := fun j hj => by
 by_cases e : j = i
 ·subst e; exact hi
 ·exact h j (by omega)
theorem aNM {z : Int} : z.sign ≤ 0 ↔ ¬ 0 < z := by rw [← Int.sign_pos_iff]; omega
section
variable {X : List Nat} {w0 : World} {M0 : List Ent} {I0 : List bA}
theorem aMC {r : RW} (hs : r.sml) (hg : r.good) (hw : Hv I0 (isW r)) : CD Tryz.prog 76 [wv r] X w0 M0 I0 (fun v M I => M0 = M ∧ I0 = I ∧ v = .int .i64 (zI r.n1 r.g1).sign) := by
 refine aIN (φ := r.Fit) (fun w hw' => (hw.go _ _ (fun ψ hm => (hw'.imm ψ hm).2) : IsW r _ w).fit) (fun hf => ?_)
 obtain ⟨e, rfl⟩ := RW.good_raw hf hg
 have h := lF (X := X) (w0 := w0) (M0 := M0) (I0 := I0) (e := e) (k := 30000000000) (by omega) (Hv.ofW hw (by have := hs.1; omega) (by have := hs.2; omega))
 have e1 : zI e.raw.n1 e.raw.g1 = e.q.num := rH _
 rw [e1]; exact h
theorem aKI {r : RW} (hs : r.sml) (hg : r.good) (hw : Hv I0 (isW r)) : CD Tryz.prog 61 [wv r] X w0 M0 I0 (fun v M I => M0 = M ∧ I0 = I ∧ v = .int .i64 (zI r.n1 r.g1).sign) := by
 refine aIN (φ := r.Fit) (fun w hw' => (hw.go _ _ (fun ψ hm => (hw'.imm ψ hm).2) : IsW r _ w).fit) (fun hf => ?_)
 obtain ⟨e, rfl⟩ := RW.good_raw hf hg
 have h := aKE (X := X) (w0 := w0) (M0 := M0) (I0 := I0) (e := e) (k := 30000000000) (by omega) (Hv.ofW hw (by have := hs.1; omega) (by have := hs.2; omega))
 have e1 : zI e.raw.n1 e.raw.g1 = e.q.num := rH _
 rw [e1]; exact h
theorem aFJ {r : RW} (hs : r.sml) (hw : Hv I0 (isW r)) : CD Tryz.prog 191 [wv r] X w0 M0 I0 (fun v M I => M0 = M ∧ I0 = I ∧ v = .bool (B (¬ r.good))) := by
 refine bF Tryz.func191 rfl Tryz.ntmps191 rfl ?_
 refine aL ?_
 refine aI ?_
 (refine aZ rfl rfl rfl ?_; intro b; refine ⟨okF, ?_⟩)
 repeat (refine aJ ?_)
 (refine aA rfl (wL (r := r) hs hw) rfl rfl ?_; rintro _ _ _ ⟨rfl, rfl, rfl⟩; refine ⟨okF, ?_⟩)
 repeat (refine aJ ?_)
 refine aH (by first | exact .inl rfl | exact .inr rfl) rfl rfl _ _ aG aD (⟨rfl, rfl, rfl⟩)
theorem aAY {q : Option Addr} {c : Nat} {rows : List WL} (hl : rows.length ≤ 1000000000) (hs : ∀ r ∈ rows, r.sml) (hq : aX q (recs uT rows) ∈ I0) (hr : ∀ i : Nat, i < rows.length → Hv I0 (gQ (gt rows (i : Int)))) :
  CD Tryz.prog 150 [.slice q rows.length c] X w0 M0 I0 (fun v M I => M0 = M ∧ I0 = I ∧ v = .bool (B (∀ r ∈ rows, r.good))) := by
 refine bF Tryz.func150 rfl Tryz.ntmps150 rfl ?_
 repeat (refine aJ ?_)
 refine aW [5, 6] rfl (fun k G M I => ∃ i : Nat, i ≤ rows.length ∧ k = rows.length - i ∧ (∀ j : Nat, j < i → (gt rows (j : Int)).good) ∧ G = [(7, .int .i64 i)] ∧ M0 = M ∧ I0 = I) (rows.length) _ _ _ aP aG aD (⟨0, by omega, rfl, fun j hj => by omega, rfl, rfl, rfl⟩) ?_
 rintro kk G M I ⟨i, hi, rfl, hg, rfl, rfl, rfl⟩
 by_cases hin : i < rows.length
 ·obtain ⟨s1, s2⟩ := jZ hs hin
  have hri := hr i hin
  have hH := fun M0 I0 (h1 : aX (gt rows (i : Int)).p (recs eW (gt rows (i : Int)).es) ∈ I0) (h2 : gQ (gt rows (i : Int)) ∈ I0) => aDO (X := X) (w0 := w0) (M0 := M0) (I0 := I0) (q := (gt rows (i : Int)).p) (a := (gt rows (i : Int)).es) (c := (gt rows (i : Int)).c) (g := 191) (fs := #[]) (cs := #[]) (fun (x : RW) => ¬ x.good) (by omega) h1 (fun t ht => aFJ (s2 _ (eQ (by omega))) (Hv.wlel h2 (by omega)))
  refine fP hri ?_
  refine fP (φ := aX (gt rows (i : Int)).p (recs eW (gt rows (i : Int)).es)) (Hv.wlsl (List.Mem.head _)) ?_
  by_cases e : (gt rows (i : Int)).good
  ·rw [aY (show ¬ ∃ x ∈ (gt rows (i : Int)).es, ¬ x.good from fun ⟨x, hx, hn⟩ => hn (e x hx))] at hH
   repeat (refine aJ ?_)
   (refine aA rfl (hH _ _ aB aB) rfl rfl ?_; rintro _ _ _ ⟨rfl, rfl, rfl⟩; refine ⟨okF, ?_⟩)
   repeat (refine aJ ?_)
   refine aN (rows.length - (i + 1)) _ _ _ (by first | omega | (simp only [List.length_append, List.length_cons, List.length_nil]; omega)) aP aG aD (⟨i + 1, by omega, rfl, nM hg e, rfl, rfl, rfl⟩)
  ·rw [bO (show ∃ x ∈ (gt rows (i : Int)).es, ¬ x.good from Classical.byContradiction (fun hn => e (fun x hx => Classical.byContradiction (fun h => hn ⟨x, hx, h⟩))))] at hH
   repeat (refine aJ ?_)
   (refine aA rfl (hH _ _ aB aB) rfl rfl ?_; rintro _ _ _ ⟨rfl, rfl, rfl⟩; refine ⟨okF, ?_⟩)
   repeat (refine aJ ?_)
   refine aH (by first | exact .inl rfl | exact .inr rfl) rfl rfl _ _ aG aD (⟨rfl, rfl, congrArg Value.bool (aY (fun h => e (jZ h hin))).symm⟩)
 ·repeat (refine aJ ?_)
  refine aH (by first | exact .inl rfl | exact .inr rfl) rfl rfl _ _ aG aD (⟨rfl, rfl, congrArg Value.bool (bO (oK hg (by omega))).symm⟩)
theorem Hv.wlTwo {I : List bA} {a b : WL} (h1 : gQ a ∈ I) (h2 : gQ b ∈ I) : ∀ i : Nat, i < [a, b].length → Hv I (gQ (gt [a, b] (i : Int))) := fun i hi => by
 match i, hi with
 | 0, _ => exact Hv.mem h1
 | 1, _ => exact Hv.mem h2
theorem aKM {m : LW} (sm : m.sml) (hm : qY m ∈ I0) : CD Tryz.prog 95 [vLW m] X w0 M0 I0 (fun v M I => M0 = M ∧ I0 = I ∧ v = .int .i64 m.code) := by
 obtain ⟨⟨sa, sar⟩, ⟨sl, slr⟩, ⟨sp, spr⟩⟩ := sm
 refine cB (φ := nN m.a) (Hv.lwa hm) ?_
 refine cB (φ := gQ m.l) (Hv.lwl (List.Mem.tail _ hm)) ?_
 refine cB (φ := gQ m.p) (Hv.lwp (List.Mem.tail _ (List.Mem.tail _ hm))) ?_
 refine cB (φ := aX m.a.p (recs uT m.a.rows)) (Hv.wmsl aB) ?_
 refine cB (φ := aX m.p.p (recs eW m.p.es)) (Hv.wlsl aB) ?_
 have hCa := fun M0 I0 (h1 : aX m.a.p (recs uT m.a.rows) ∈ I0) (h2 : nN m.a ∈ I0) => aAY (X := X) (w0 := w0) (M0 := M0) (I0 := I0) (q := m.a.p) (c := m.a.c) (rows := m.a.rows) (by omega) sar h1 (fun i hi => Hv.wmrow h2 (by omega))
 have hCb := fun M0 I0 (b : Nat) (h1 : aX (some ⟨b, 0, none⟩) (recs uT [m.l, m.p]) ∈ I0) (h2 : gQ m.l ∈ I0) (h3 : gQ m.p ∈ I0) => aAY (X := X) (w0 := w0) (M0 := M0) (I0 := I0) (q := some ⟨b, 0, none⟩) (c := 2) (rows := [m.l, m.p]) (by show 2 ≤ 1000000000; omega) (fun r hr => by
  rcases List.mem_cons.1 hr with rfl | hr
  ·exact ⟨sl, slr⟩
  ·rw [List.mem_singleton.1 hr]; exact ⟨sp, spr⟩) h1 (Hv.wlTwo h2 h3)
 refine bF Tryz.func95 rfl Tryz.ntmps95 rfl ?_
 refine aL ?_
 refine aI ?_
 (refine aZ rfl rfl rfl ?_; intro b1; refine ⟨okF, ?_⟩)
 refine aC .here ?_
 by_cases gA : ∀ r ∈ m.a.rows, r.good
 ·rw [bO gA] at hCa
  repeat (refine aJ ?_)
  (refine aA rfl (hCa _ _ aB aB) rfl rfl ?_; rintro _ _ _ ⟨rfl, rfl, rfl⟩; refine ⟨okF, ?_⟩)
  repeat (refine aJ ?_)
  (refine aK (cs := recs uT [m.l, m.p]) ([rR m.l, rR m.p]) rfl rfl (by intro v hv; repeat (first | exact absurd hv (List.not_mem_nil) | (rcases List.mem_cons.1 hv with rfl | hv; · rfl))) (by omega) rfl rfl rfl ?_; intro b2; refine ⟨okF, ?_⟩)
  refine aC .here ?_
  by_cases gB : ∀ r ∈ [m.l, m.p], r.good
  ·rw [bO gB] at hCb
   have hg : m.good := ⟨gA, gB _ (List.Mem.head _), gB _ (List.Mem.tail _ (List.Mem.head _))⟩
   (refine aA rfl (hCb _ _ b2 aB aB aB) rfl rfl ?_; rintro _ _ _ ⟨rfl, rfl, rfl⟩; refine ⟨okF, ?_⟩)
   by_cases r1 : 1 ≤ m.a.rows.length
   ·by_cases r2 : m.a.rows.length ≤ 64
    ·by_cases c1 : 1 ≤ (gt m.a.rows 0).es.length
     ·by_cases c2 : (gt m.a.rows 0).es.length ≤ 24
      ·have hr : m.rng := ⟨⟨r1, r2⟩, c1, c2⟩
       repeat (refine aJ ?_)
       refine aW [1, 47, 48] rfl (fun k G M I => ∃ i : Nat, i ≤ m.a.rows.length ∧ k = m.a.rows.length - i ∧ (∀ j : Nat, j < i → (gt m.a.rows (j : Int)).es.length = (gt m.a.rows 0).es.length) ∧ G = [(49, .int .i64 i)] ∧ M0 = M ∧ I = aX (some ⟨b1, 0, none⟩) [mvW m.a, rR m.l, rR m.p] :: aX m.p.p (recs eW m.p.es) :: aX m.a.p (recs uT m.a.rows) :: gQ m.p :: gQ m.l :: nN m.a :: I0) (m.a.rows.length) _ _ _ aP aG aD (⟨0, by omega, rfl, fun j hj => by omega, rfl, rfl, rfl⟩) ?_
       rintro kk G M I ⟨i, hi, rfl, he, rfl, rfl, rfl⟩
       by_cases hin : i < m.a.rows.length
       ·by_cases e : (gt m.a.rows (i : Int)).es.length = (gt m.a.rows 0).es.length
        ·repeat (refine aJ ?_)
         refine aN (m.a.rows.length - (i + 1)) _ _ _ (by first | omega | (simp only [List.length_append, List.length_cons, List.length_nil]; omega)) aP aG aD (⟨i + 1, by omega, rfl, nM he e, rfl, rfl, rfl⟩)
        ·repeat (refine aJ ?_)
         refine aH (by first | exact .inl rfl | exact .inr rfl) rfl rfl _ _ aG aD (⟨rfl, rfl, by rw [LW.code_4 hg hr (fun h => e (jZ h.1 hin))]⟩)
       ·by_cases e1 : m.l.es.length = m.a.rows.length
        ·by_cases e2 : m.p.es.length = m.a.rows.length
         ·have hc : m.rect := ⟨oK he (by omega), e1, e2⟩
          repeat (refine aJ ?_)
          refine aW [79, 80] rfl (fun k G M I => ∃ i : Nat, i ≤ m.p.es.length ∧ k = m.p.es.length - i ∧ (∀ j : Nat, j < i → (gt m.p.es (j : Int)).posi) ∧ G = [(81, .int .i64 i)] ∧ M0 = M ∧ I = aX (some ⟨b1, 0, none⟩) [mvW m.a, rR m.l, rR m.p] :: aX m.p.p (recs eW m.p.es) :: aX m.a.p (recs uT m.a.rows) :: gQ m.p :: gQ m.l :: nN m.a :: I0) (m.p.es.length) _ _ _ aP aG aD (⟨0, by omega, rfl, fun j hj => by omega, rfl, rfl, rfl⟩) ?_
          rintro kk G M I ⟨i, hi, rfl, hp, rfl, rfl, rfl⟩
          by_cases hin : i < m.p.es.length
          ·have hS := fun M0 I0 h => aMC (X := X) (w0 := w0) (M0 := M0) (I0 := I0) (r := gt m.p.es (i : Int)) (jZ spr hin) (jZ hg.2.2 hin) h
           have hsg := aNM (z := zI (gt m.p.es (i : Int)).n1 (gt m.p.es (i : Int)).g1)
           refine fP (φ := isW (gt m.p.es (i : Int))) (Hv.wlel aB (by omega)) ?_
           generalize (zI (gt m.p.es (i : Int)).n1 (gt m.p.es (i : Int)).g1).sign = sg at *
           by_cases e : (gt m.p.es (i : Int)).posi
           ·have hs0 : ¬ sg ≤ 0 := fun h => hsg.1 h e
            repeat (refine aJ ?_)
            (refine aO rfl rfl ?_; intro b3; refine ⟨okF, ?_⟩)
            repeat (refine aJ ?_)
            (refine aA rfl (hS _ _ (Hv.mem aB)) rfl rfl ?_; rintro _ _ _ ⟨rfl, rfl, rfl⟩; refine ⟨okF, ?_⟩)
            repeat (refine aJ ?_)
            refine aN (m.p.es.length - (i + 1)) _ _ _ (by first | omega | (simp only [List.length_append, List.length_cons, List.length_nil]; omega)) aP aG aD (⟨i + 1, by omega, rfl, nM hp e, rfl, rfl, rfl⟩)
           ·have hs0 : sg ≤ 0 := hsg.2 e
            repeat (refine aJ ?_)
            (refine aO rfl rfl ?_; intro b3; refine ⟨okF, ?_⟩)
            repeat (refine aJ ?_)
            (refine aA rfl (hS _ _ (Hv.mem aB)) rfl rfl ?_; rintro _ _ _ ⟨rfl, rfl, rfl⟩; refine ⟨okF, ?_⟩)
            repeat (refine aJ ?_)
            refine aH (by first | exact .inl rfl | exact .inr rfl) rfl rfl _ _ aG aD (⟨rfl, rfl, by rw [LW.code_2 hg hr hc (fun h => e (jZ h hin))]⟩)
          ·repeat (refine aJ ?_)
           refine aH (by first | exact .inl rfl | exact .inr rfl) rfl rfl _ _ aG aD (⟨rfl, rfl, by rw [LW.code_0 hg hr hc (oK hp (by omega))]⟩)
         ·repeat (refine aJ ?_)
          refine aH (by first | exact .inl rfl | exact .inr rfl) rfl rfl _ _ aG aD (⟨rfl, rfl, by rw [LW.code_4 hg hr (fun h => e2 h.2.2)]⟩)
        ·repeat (refine aJ ?_)
         refine aH (by first | exact .inl rfl | exact .inr rfl) rfl rfl _ _ aG aD (⟨rfl, rfl, by rw [LW.code_4 hg hr (fun h => e1 h.2.1)]⟩)
      ·repeat (refine aJ ?_)
       refine aH (by first | exact .inl rfl | exact .inr rfl) rfl rfl _ _ aG aD (⟨rfl, rfl, by rw [LW.code_3 hg (fun h => c2 h.2.2)]⟩)
     ·repeat (refine aJ ?_)
      refine aH (by first | exact .inl rfl | exact .inr rfl) rfl rfl _ _ aG aD (⟨rfl, rfl, by rw [LW.code_3 hg (fun h => c1 h.2.1)]⟩)
    ·repeat (refine aJ ?_)
     refine aH (by first | exact .inl rfl | exact .inr rfl) rfl rfl _ _ aG aD (⟨rfl, rfl, by rw [LW.code_3 hg (fun h => r2 h.1.2)]⟩)
   ·repeat (refine aJ ?_)
    refine aH (by first | exact .inl rfl | exact .inr rfl) rfl rfl _ _ aG aD (⟨rfl, rfl, by rw [LW.code_3 hg (fun h => r1 h.1.1)]⟩)
  ·rw [aY gB] at hCb
   (refine aA rfl (hCb _ _ b2 aB aB aB) rfl rfl ?_; rintro _ _ _ ⟨rfl, rfl, rfl⟩; refine ⟨okF, ?_⟩)
   repeat (refine aJ ?_)
   refine aH (by first | exact .inl rfl | exact .inr rfl) rfl rfl _ _ aG aD (⟨rfl, rfl, by rw [LW.code_1 (fun h => gB (fun r hr => by
    rcases List.mem_cons.1 hr with rfl | hr
    ·exact h.2.1
    ·rw [List.mem_singleton.1 hr]; exact h.2.2))]⟩)
 ·rw [aY gA] at hCa
  repeat (refine aJ ?_)
  (refine aA rfl (hCa _ _ aB aB) rfl rfl ?_; rintro _ _ _ ⟨rfl, rfl, rfl⟩; refine ⟨okF, ?_⟩)
  repeat (refine aJ ?_)
  refine aH (by first | exact .inl rfl | exact .inr rfl) rfl rfl _ _ aG aD (⟨rfl, rfl, by rw [LW.code_1 (fun h => gA h.1)]⟩)
theorem aFC {m : LW} (sm : m.sml) (hm : qY m ∈ I0) : CD Tryz.prog 93 [vLW m] X w0 M0 I0 (fun v M I => M0 = M ∧ I0 = I ∧ v = .int .i64 m.code) := by
 obtain ⟨⟨sa, sar⟩, ⟨sl, slr⟩, ⟨sp, spr⟩⟩ := sm
 refine cB (φ := nN m.a) (Hv.lwa hm) ?_
 refine cB (φ := gQ m.l) (Hv.lwl (List.Mem.tail _ hm)) ?_
 refine cB (φ := gQ m.p) (Hv.lwp (List.Mem.tail _ (List.Mem.tail _ hm))) ?_
 refine cB (φ := aX m.a.p (recs uT m.a.rows)) (Hv.wmsl aB) ?_
 refine cB (φ := aX m.p.p (recs eW m.p.es)) (Hv.wlsl aB) ?_
 have hV := fun M0 I0 (r : WL) (h : r.sml) (h2 : gQ r ∈ I0) => pI (X := X) (w0 := w0) (M0 := M0) (I0 := I0) (r := r) h h2
 have hVl := fun M0 I0 h2 => hV M0 I0 m.l ⟨sl, slr⟩ h2
 have hVp := fun M0 I0 h2 => hV M0 I0 m.p ⟨sp, spr⟩ h2
 refine bF Tryz.func93 rfl Tryz.ntmps93 rfl ?_
 refine aL ?_
 refine aI ?_
 (refine aZ rfl rfl rfl ?_; intro b1; refine ⟨okF, ?_⟩)
 refine aC .here ?_
 repeat (refine aJ ?_)
 refine aW [1, 10, 11] rfl (fun k G M I => ∃ i : Nat, i ≤ m.a.rows.length ∧ k = m.a.rows.length - i ∧ (∀ j : Nat, j < i → (gt m.a.rows (j : Int)).good) ∧ G = [(12, .int .i64 i)] ∧ M0 = M ∧ I = aX (some ⟨b1, 0, none⟩) [mvW m.a, rR m.l, rR m.p] :: aX m.p.p (recs eW m.p.es) :: aX m.a.p (recs uT m.a.rows) :: gQ m.p :: gQ m.l :: nN m.a :: I0) (m.a.rows.length) _ _ _ aP aG aD (⟨0, by omega, rfl, fun j hj => by omega, rfl, rfl, rfl⟩) ?_
 rintro kk G M I ⟨i, hi, rfl, hgr, rfl, rfl, rfl⟩
 by_cases hin : i < m.a.rows.length
 ·refine fP (φ := gQ (gt m.a.rows (i : Int))) (Hv.wmrow aB (by omega)) ?_
  have hVi := fun M0 I0 h2 => hV M0 I0 (gt m.a.rows (i : Int)) (jZ sar hin) h2
  by_cases e : (gt m.a.rows (i : Int)).good
  ·rw [bO e] at hVi
   repeat (refine aJ ?_)
   (refine aA rfl (hVi _ _ aB) rfl rfl ?_; rintro _ _ _ ⟨rfl, rfl, rfl⟩; refine ⟨okF, ?_⟩)
   repeat (refine aJ ?_)
   refine aN (m.a.rows.length - (i + 1)) _ _ _ (by first | omega | (simp only [List.length_append, List.length_cons, List.length_nil]; omega)) aP aG aD (⟨i + 1, by omega, rfl, nM hgr e, rfl, rfl, rfl⟩)
  ·rw [aY e] at hVi
   repeat (refine aJ ?_)
   (refine aA rfl (hVi _ _ aB) rfl rfl ?_; rintro _ _ _ ⟨rfl, rfl, rfl⟩; refine ⟨okF, ?_⟩)
   repeat (refine aJ ?_)
   refine aH (by first | exact .inl rfl | exact .inr rfl) rfl rfl _ _ aG aD (⟨rfl, rfl, by rw [LW.code_1 (fun h => e (jZ h.1 hin))]⟩)
 ·have gA : ∀ r ∈ m.a.rows, r.good := oK hgr (by omega)
  by_cases gl : m.l.good
  ·rw [bO gl] at hVl
   by_cases gp : m.p.good
   ·rw [bO gp] at hVp
    have hg : m.good := ⟨gA, gl, gp⟩
    repeat (refine aJ ?_)
    (refine aA rfl (hVl _ _ aB) rfl rfl ?_; rintro _ _ _ ⟨rfl, rfl, rfl⟩; refine ⟨okF, ?_⟩)
    repeat (refine aJ ?_)
    (refine aA rfl (hVp _ _ aB) rfl rfl ?_; rintro _ _ _ ⟨rfl, rfl, rfl⟩; refine ⟨okF, ?_⟩)
    by_cases r1 : 1 ≤ m.a.rows.length
    ·by_cases r2 : m.a.rows.length ≤ 64
     ·by_cases c1 : 1 ≤ (gt m.a.rows 0).es.length
      ·by_cases c2 : (gt m.a.rows 0).es.length ≤ 24
       ·have hr : m.rng := ⟨⟨r1, r2⟩, c1, c2⟩
        repeat (refine aJ ?_)
        refine aW [1, 57, 58] rfl (fun k G M I => ∃ i : Nat, i ≤ m.a.rows.length ∧ k = m.a.rows.length - i ∧ (∀ j : Nat, j < i → (gt m.a.rows (j : Int)).es.length = (gt m.a.rows 0).es.length) ∧ G = [(59, .int .i64 i)] ∧ M0 = M ∧ I = aX (some ⟨b1, 0, none⟩) [mvW m.a, rR m.l, rR m.p] :: aX m.p.p (recs eW m.p.es) :: aX m.a.p (recs uT m.a.rows) :: gQ m.p :: gQ m.l :: nN m.a :: I0) (m.a.rows.length) _ _ _ aP aG aD (⟨0, by omega, rfl, fun j hj => by omega, rfl, rfl, rfl⟩) ?_
        rintro kk G M I ⟨i, hi, rfl, he, rfl, rfl, rfl⟩
        by_cases hin : i < m.a.rows.length
        ·by_cases e : (gt m.a.rows (i : Int)).es.length = (gt m.a.rows 0).es.length
         ·repeat (refine aJ ?_)
          refine aN (m.a.rows.length - (i + 1)) _ _ _ (by first | omega | (simp only [List.length_append, List.length_cons, List.length_nil]; omega)) aP aG aD (⟨i + 1, by omega, rfl, nM he e, rfl, rfl, rfl⟩)
         ·repeat (refine aJ ?_)
          refine aH (by first | exact .inl rfl | exact .inr rfl) rfl rfl _ _ aG aD (⟨rfl, rfl, by rw [LW.code_4 hg hr (fun h => e (jZ h.1 hin))]⟩)
        ·by_cases e1 : m.l.es.length = m.a.rows.length
         ·by_cases e2 : m.p.es.length = m.a.rows.length
          ·have hc : m.rect := ⟨oK he (by omega), e1, e2⟩
           repeat (refine aJ ?_)
           refine aW [89, 90] rfl (fun k G M I => ∃ i : Nat, i ≤ m.p.es.length ∧ k = m.p.es.length - i ∧ (∀ j : Nat, j < i → (gt m.p.es (j : Int)).posi) ∧ G = [(91, .int .i64 i)] ∧ M0 = M ∧ I = aX (some ⟨b1, 0, none⟩) [mvW m.a, rR m.l, rR m.p] :: aX m.p.p (recs eW m.p.es) :: aX m.a.p (recs uT m.a.rows) :: gQ m.p :: gQ m.l :: nN m.a :: I0) (m.p.es.length) _ _ _ aP aG aD (⟨0, by omega, rfl, fun j hj => by omega, rfl, rfl, rfl⟩) ?_
           rintro kk G M I ⟨i, hi, rfl, hp, rfl, rfl, rfl⟩
           by_cases hin : i < m.p.es.length
           ·have hS := fun M0 I0 h => aKI (X := X) (w0 := w0) (M0 := M0) (I0 := I0) (r := gt m.p.es (i : Int)) (jZ spr hin) (jZ hg.2.2 hin) h
            have hsg := aNM (z := zI (gt m.p.es (i : Int)).n1 (gt m.p.es (i : Int)).g1)
            refine fP (φ := isW (gt m.p.es (i : Int))) (Hv.wlel aB (by omega)) ?_
            generalize (zI (gt m.p.es (i : Int)).n1 (gt m.p.es (i : Int)).g1).sign = sg at *
            by_cases e : (gt m.p.es (i : Int)).posi
            ·have hs0 : ¬ sg ≤ 0 := fun h => hsg.1 h e
             repeat (refine aJ ?_)
             (refine aO rfl rfl ?_; intro b3; refine ⟨okF, ?_⟩)
             repeat (refine aJ ?_)
             (refine aA rfl (hS _ _ (Hv.mem aB)) rfl rfl ?_; rintro _ _ _ ⟨rfl, rfl, rfl⟩; refine ⟨okF, ?_⟩)
             repeat (refine aJ ?_)
             refine aN (m.p.es.length - (i + 1)) _ _ _ (by first | omega | (simp only [List.length_append, List.length_cons, List.length_nil]; omega)) aP aG aD (⟨i + 1, by omega, rfl, nM hp e, rfl, rfl, rfl⟩)
            ·have hs0 : sg ≤ 0 := hsg.2 e
             repeat (refine aJ ?_)
             (refine aO rfl rfl ?_; intro b3; refine ⟨okF, ?_⟩)
             repeat (refine aJ ?_)
             (refine aA rfl (hS _ _ (Hv.mem aB)) rfl rfl ?_; rintro _ _ _ ⟨rfl, rfl, rfl⟩; refine ⟨okF, ?_⟩)
             repeat (refine aJ ?_)
             refine aH (by first | exact .inl rfl | exact .inr rfl) rfl rfl _ _ aG aD (⟨rfl, rfl, by rw [LW.code_2 hg hr hc (fun h => e (jZ h hin))]⟩)
           ·repeat (refine aJ ?_)
            refine aH (by first | exact .inl rfl | exact .inr rfl) rfl rfl _ _ aG aD (⟨rfl, rfl, by rw [LW.code_0 hg hr hc (oK hp (by omega))]⟩)
          ·repeat (refine aJ ?_)
           refine aH (by first | exact .inl rfl | exact .inr rfl) rfl rfl _ _ aG aD (⟨rfl, rfl, by rw [LW.code_4 hg hr (fun h => e2 h.2.2)]⟩)
         ·repeat (refine aJ ?_)
          refine aH (by first | exact .inl rfl | exact .inr rfl) rfl rfl _ _ aG aD (⟨rfl, rfl, by rw [LW.code_4 hg hr (fun h => e1 h.2.1)]⟩)
       ·repeat (refine aJ ?_)
        refine aH (by first | exact .inl rfl | exact .inr rfl) rfl rfl _ _ aG aD (⟨rfl, rfl, by rw [LW.code_3 hg (fun h => c2 h.2.2)]⟩)
      ·repeat (refine aJ ?_)
       refine aH (by first | exact .inl rfl | exact .inr rfl) rfl rfl _ _ aG aD (⟨rfl, rfl, by rw [LW.code_3 hg (fun h => c1 h.2.1)]⟩)
     ·repeat (refine aJ ?_)
      refine aH (by first | exact .inl rfl | exact .inr rfl) rfl rfl _ _ aG aD (⟨rfl, rfl, by rw [LW.code_3 hg (fun h => r2 h.1.2)]⟩)
    ·repeat (refine aJ ?_)
     refine aH (by first | exact .inl rfl | exact .inr rfl) rfl rfl _ _ aG aD (⟨rfl, rfl, by rw [LW.code_3 hg (fun h => r1 h.1.1)]⟩)
   ·rw [aY gp] at hVp
    repeat (refine aJ ?_)
    (refine aA rfl (hVl _ _ aB) rfl rfl ?_; rintro _ _ _ ⟨rfl, rfl, rfl⟩; refine ⟨okF, ?_⟩)
    repeat (refine aJ ?_)
    (refine aA rfl (hVp _ _ aB) rfl rfl ?_; rintro _ _ _ ⟨rfl, rfl, rfl⟩; refine ⟨okF, ?_⟩)
    repeat (refine aJ ?_)
    refine aH (by first | exact .inl rfl | exact .inr rfl) rfl rfl _ _ aG aD (⟨rfl, rfl, by rw [LW.code_1 (fun h => gp h.2.2)]⟩)
  ·rw [aY gl] at hVl
   repeat (refine aJ ?_)
   (refine aA rfl (hVl _ _ aB) rfl rfl ?_; rintro _ _ _ ⟨rfl, rfl, rfl⟩; refine ⟨okF, ?_⟩)
   repeat (refine aJ ?_)
   refine aH (by first | exact .inl rfl | exact .inr rfl) rfl rfl _ _ aG aD (⟨rfl, rfl, by rw [LW.code_1 (fun h => gl h.2.1)]⟩)
end
end Go.Proofs.YtgeagiikkeiioaaGreat
namespace Go.Proofs.YtgeagiikkeiioaaGreat
open Go Go.Fx
def unL (n i : Nat) : List Rat := (List.range n).map (tY i)
theorem zC {n i k : Nat} (hk : k < n) : (unL n i).getD k 0 = tY i k := by simp [unL, List.getD, hk]
theorem aOK {n i : Nat} : (unL n i).length = n := by simp [unL]
def rw1 (A : Mt) (C i : Nat) (z : Nat → Rat) : Rat := sm C (fun j => at2 A i j * z j)
def ctl (R C : Nat) (A : Mt) (i : Nat) : Prop := ¬ uH R C A (unL R i)
instance (R C : Nat) (A : Mt) (i : Nat) : Decidable (ctl R C A i) := by unfold ctl; exact inferInstance
/- rows left out -/
def iG (A : Mt) (ix : List Nat) : Mt := ix.map (rowAt A)
theorem aDZ {A : Mt} {ix : List Nat} {t j : Nat} (ht : t < ix.length) : at2 (iG A ix) t j = at2 A ix[t] j := by
 simp [iG, at2, rowAt, List.getD, ht]
theorem wZ {A : Mt} {R C : Nat} (hA : sM A R C) {ix : List Nat} (hx : ∀ i ∈ ix, i < R) : sM (iG A ix) ix.length C := ⟨by simp [iG], fun t ht => by
 have : rowAt (iG A ix) t = rowAt A ix[t] := by simp [iG, rowAt, List.getD, ht]
 rw [this]; exact hA.2 _ (hx _ (List.getElem_mem _))⟩
theorem pR {A : Mt} {C : Nat} {ix : List Nat} {z : Nat → Rat} : Go.Proofs.YtgeagiikkeiioaaGreat.ker ix.length C (at2 (iG A ix)) z ↔ ∀ i ∈ ix, rw1 A C i z = 0 := by
 constructor
 ·intro h i hi
  obtain ⟨t, ht, rfl⟩ := List.mem_iff_getElem.1 hi
  rw [← h t ht]; exact bM (fun j _ => by rw [aDZ ht])
 ·intro h t ht
  rw [← h ix[t] (List.getElem_mem _)]; exact bM (fun j _ => by rw [aDZ ht])
theorem aOR {A : Mt} {R C : Nat} (hA : sM A R C) {ix : List Nat} (hx : ∀ i ∈ ix, i < R) : rk (iG A ix) C ≤ rk A C ∧ (rk (iG A ix) C = rk A C ↔ ∀ z, (∀ i ∈ ix, rw1 A C i z = 0) → ∀ i, i < R → rw1 A C i z = 0) := by
 obtain ⟨_, s, hr⟩ := kV hA C (Nat.le_refl _)
 obtain ⟨_, s', hr'⟩ := kV (wZ hA hx) C (Nat.le_refl _)
 have hk : ∀ z, Go.Proofs.YtgeagiikkeiioaaGreat.ker R C (at2 A) z → Go.Proofs.YtgeagiikkeiioaaGreat.ker ix.length C (at2 (iG A ix)) z := fun z hz => pR.2 (fun i hi => hz i (hx i hi))
 refine ⟨hr'.le hr hk, ?_⟩
 unfold rk
 rw [hr'.eq_iff hr hk]
 exact ⟨fun h z hz i hi => h z (pR.2 hz) i hi, fun h z hz i hi => h z (pR.1 hz) i hi⟩
def dW (R : Nat) (set : List Int) : List Nat := (List.range R).filter (fun i => decide ((i : Int) ∉ set))
theorem jX {R i : Nat} {set : List Int} : i ∈ dW R set ↔ i < R ∧ (i : Int) ∉ set := by unfold dW; simp
def und (R C : Nat) (A : Mt) (set : List Int) : Prop := rk (iG A (dW R set)) C < rk A C
instance (R C : Nat) (A : Mt) (set : List Int) : Decidable (und R C A set) := by unfold und; exact inferInstance
theorem aCO {A : Mt} {R C : Nat} (hA : sM A R C) {set : List Int} : ¬ und R C A set ↔ ∀ z, (∀ i, i < R → (i : Int) ∉ set → rw1 A C i z = 0) → ∀ i, i < R → rw1 A C i z = 0 := by
 have h := aOR hA (ix := dW R set) (fun i hi => (jX.1 hi).1)
 unfold und
 have e : ¬ rk (iG A (dW R set)) C < rk A C ↔ rk (iG A (dW R set)) C = rk A C := by have := h.1; omega
 rw [e, h.2]
 exact ⟨fun k z hz => k z (fun i hi => hz i (jX.1 hi).1 (jX.1 hi).2), fun k z hz => k z (fun i h1 h2 => hz i (jX.2 ⟨h1, h2⟩))⟩
/- the transposed matrix -/
def trM (R C : Nat) (A : Mt) : Mt := yF C R (fun i j => at2 A j i)
theorem aKV {R C : Nat} {A : Mt} (hA : sM A R C) : (xM A C).length + rk A C = C := by
 obtain ⟨_, s, hr⟩ := kV hA C (Nat.le_refl _)
 have := hr.free_len
 unfold xM aNN rk
 rw [List.length_map]; exact this
/- certificates -/
/- weights: the normal matrix has the kernel of the design matrix -/
def nrmM (R C : Nat) (A : Mt) (p : Nat → Rat) : Mt := yF C C (fun i j => sm R (fun k => p k * at2 A k i * at2 A k j))
/- the document's inverse: the pivots of the matrix with the unit matrix beside -/
end Go.Proofs.YtgeagiikkeiioaaGreat

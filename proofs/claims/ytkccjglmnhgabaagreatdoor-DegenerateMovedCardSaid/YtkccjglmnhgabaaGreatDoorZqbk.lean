/- CheckRank of the program. What Rank returns is accepted; what is accepted proves the rank: plain. -/
import Derived.Test.YtkccjglmnhgabaaGreatDoorZqbj
import Derived.Test.YtkccjglmnhgabaaGreatDoorZqam
set_option linter.unusedSimpArgs false
set_option linter.unusedVariables false
set_option maxRecDepth 100000
set_option maxHeartbeats 4000000
namespace Go.Proofs.YtkccjglmnhgabaaGreatDoor
open Go Go.Fx
def nN (R n : Nat) (r : Int) (p : KW) : Int :=
 if r < 0 ∨ (R : Int) < r ∨ (n : Int) < r then 2
 else if ¬ ((p.ri.length : Int) = r ∧ (p.ci.length : Int) = r) then 4
 else if ¬ (inRng p.ri R ∧ inRng p.ci n) then 2
 else if ¬ (rsng p.ri ∧ rsng p.ci) then 5
 else if ¬ ((p.kn.rows.length : Int) = n - r ∧ ∀ v ∈ p.kn.rows, v.es.length = n) then 4
 else if ¬ (p.d.good ∧ ∀ v ∈ p.kn.rows, v.good) then 1 else 0
theorem aTX {α : Type} [Inhabited α] {p : α → Prop} {l : List α} (h : ∀ a ∈ l, p a) {j : Nat} (hj : j < l.length) : p (gt l (j : Int)) := h _ (eX (by omega))
def tN (l : List Int) : List Nat := l.map Int.toNat
def prV (A : Mt) (R n : Nat) (e : KE) : Prop := e.d.q ≠ 0 ∧ e.d.q = dt e.ri.length (at2 (mnr A (tN e.ri) (tN e.ci))) ∧ rk e.kn.q n = n - e.ri.length ∧ ∀ t ∈ List.range (n - e.ri.length), ∀ i ∈ List.range R, aIP n (rowAt A i) (rowAt e.kn.q t) = 0
instance prV.dec (A : Mt) (R n : Nat) (e : KE) : Decidable (prV A R n e) := by unfold prV; exact inferInstance
theorem aTY {l : List Int} {n : Nat} (h : inRng l n) : zs (tN l) = l := by
 have : ∀ x ∈ l, 0 ≤ x := fun x hx => by
  obtain ⟨j, hj, rfl⟩ := List.mem_iff_getElem.1 hx
  have := h j (List.mem_range.2 hj)
  rw [dH hj] at this; exact this.1
 clear h
 induction l with
 | nil => rfl
 | cons x r ih => show ((x.toNat : Nat) : Int) :: zs (tN r) = x :: r; rw [ih (fun z hz => this z (by simp [hz]))]; have := this x (by simp); congr 1; omega
theorem aTV {l : List Int} {n : Nat} (h : inRng l n) : ∀ i ∈ tN l, i < n := fun i hi => by
 obtain ⟨x, hx, rfl⟩ := List.mem_map.1 hi
 obtain ⟨j, hj, rfl⟩ := List.mem_iff_getElem.1 hx
 have := h j (List.mem_range.2 hj)
 rw [dH hj] at this; omega
theorem aPF {l : List Int} : (tN l).length = l.length := by simp [tN]
section
variable {R n : Nat} {r : Int} {p : KW}
theorem aUG (h : r < 0 ∨ (R : Int) < r ∨ (n : Int) < r) : nN R n r p = 2 := by unfold nN; rw [if_pos h]
variable (h1 : ¬ (r < 0 ∨ (R : Int) < r ∨ (n : Int) < r))
include h1
theorem aNT (h : ¬ ((p.ri.length : Int) = r ∧ (p.ci.length : Int) = r)) : nN R n r p = 4 := by unfold nN; rw [if_neg h1, if_pos h]
variable (h2 : (p.ri.length : Int) = r ∧ (p.ci.length : Int) = r)
include h2
theorem aUA (h : ¬ (inRng p.ri R ∧ inRng p.ci n)) : nN R n r p = 2 := by unfold nN; rw [if_neg h1, if_neg (not_not_intro h2), if_pos h]
variable (h3 : inRng p.ri R ∧ inRng p.ci n)
include h3
theorem aUH (h : ¬ (rsng p.ri ∧ rsng p.ci)) : nN R n r p = 5 := by unfold nN; rw [if_neg h1, if_neg (not_not_intro h2), if_neg (not_not_intro h3), if_pos h]
variable (h4 : rsng p.ri ∧ rsng p.ci)
include h4
theorem aJM (h : ¬ ((p.kn.rows.length : Int) = n - r ∧ ∀ v ∈ p.kn.rows, v.es.length = n)) : nN R n r p = 4 := by unfold nN; rw [if_neg h1, if_neg (not_not_intro h2), if_neg (not_not_intro h3), if_neg (not_not_intro h4), if_pos h]
variable (h5 : (p.kn.rows.length : Int) = n - r ∧ ∀ v ∈ p.kn.rows, v.es.length = n)
include h5
theorem aKY (h : ¬ (p.d.good ∧ ∀ v ∈ p.kn.rows, v.good)) : nN R n r p = 1 := by unfold nN; rw [if_neg h1, if_neg (not_not_intro h2), if_neg (not_not_intro h3), if_neg (not_not_intro h4), if_neg (not_not_intro h5), if_pos h]
theorem aUM (h6 : p.d.good ∧ ∀ v ∈ p.kn.rows, v.good) : nN R n r p = 0 := by unfold nN; rw [if_neg h1, if_neg (not_not_intro h2), if_neg (not_not_intro h3), if_neg (not_not_intro h4), if_neg (not_not_intro h5), if_neg (not_not_intro h6)]
end
section
variable {X : List Nat} {w0 : World} {M0 M1 : List Ent} {I0 : List bB}
theorem aVI {v : WL} {b n : Nat} (hb : aW (some ⟨b, 0, none⟩) [.int .i64 (n : Int)] ∈ I0) : CD Tryz.prog 42 [lvW v, .pointer (some ⟨b, 0, none⟩)] X w0 M0 I0 (fun v' M I => M0 = M ∧ I0 = I ∧ v' = .bool (B (v.es.length ≠ n))) := by
 refine bR Tryz.func42 rfl Tryz.ntmps42 rfl ?_
 repeat (refine aK ?_)
 refine aH (by first | exact .inl rfl | exact .inr rfl) rfl rfl _ _ aF aD (⟨rfl, rfl, congrArg Value.bool (gZ (not_congr (by omega)))⟩)
theorem aTR {r : RW} (hs : r.sml) (hw : Hv I0 (isW r)) : CD Tryz.prog 46 [wv r] X w0 M0 I0 (fun v M I => M0 = M ∧ I0 = I ∧ v = .bool (B (¬ r.good))) := by
 refine eQ (φ := isW r) hw ?_
 have hV := fun M0 I0 h => xP (X := X) (w0 := w0) (M0 := M0) (I0 := I0) (r := r) hs h
 refine bC Tryz.func46 rfl Tryz.ntmps46 rfl ?_
 refine aJ ?_
 refine aL ?_
 (refine aX rfl rfl rfl ?_; intro b1; refine ⟨okF, ?_⟩)
 repeat (refine aK ?_)
 (refine aA rfl (hV _ _ (Hv.mem aB)) rfl rfl ?_; rintro _ _ _ ⟨rfl, rfl, rfl⟩; refine ⟨okF, ?_⟩)
 repeat (refine aK ?_)
 refine aH (by first | exact .inl rfl | exact .inr rfl) rfl rfl _ _ aF aD (⟨rfl, rfl, by rw [pK]⟩)
theorem aVJ {v : WL} (hs : v.sml) (hv : Hv I0 (aHB v)) : CD Tryz.prog 44 [lvW v] X w0 M0 I0 (fun v' M I => M0 = M ∧ I0 = I ∧ v' = .bool (B (¬ v.good))) := by
 refine eQ (φ := aHB v) hv ?_
 refine eQ (φ := aW v.p (recs eW v.es)) (Hv.wlsl (List.Mem.head _)) ?_
 have hH := fun M0 I0 h1 h2 => aFW (X := X) (w0 := w0) (M0 := M0) (I0 := I0) (q := v.p) (a := v.es) (c := v.c) (g := 46) (fs := #[]) (cs := #[]) (fun r : RW => ¬ r.good) (by have := hs.1; omega) h1 (fun i hi => aTR (aTX hs.2 hi) (Hv.wlel h2 (by omega)))
 refine bC Tryz.func44 rfl Tryz.ntmps44 rfl ?_
 repeat (refine aK ?_)
 (refine aA rfl (hH _ _ aB aB) rfl rfl ?_; rintro _ _ _ ⟨rfl, rfl, rfl⟩; refine ⟨okF, ?_⟩)
 repeat (refine aK ?_)
 refine aH (by first | exact .inl rfl | exact .inr rfl) rfl rfl _ _ aF aD (⟨rfl, rfl, congrArg Value.bool (gZ ?_)⟩)
 constructor
 ·rintro ⟨x, hx, hn⟩ hg; exact hn (hg x hx)
 ·intro hn; exact Classical.byContradiction (fun h => hn (fun x hx => Classical.byContradiction (fun hg => h ⟨x, hx, hg⟩)))
theorem wM {m : MX} {R n u kd kk : Nat} {r : Int} {p : KW} {e : KE} (dm : m.fit R n) (hn12 : n ≤ 12) (hu : kb u n ≤ 20000000000) (hkd : kd + kb u n ≤ 400000000000) (hkk : 4 * kb kk n + 2 ≤ 400000000000) (hdot : n * (u + kk + 1) ≤ 100000000000) (hm : jC m u ∈ I0) (hp : isKW p ∈ I0) (hpd : p.d.sml) (hpk : p.kn.sml) (he : nN R n r p = 0 → p = e.raw ∧ Hv I0 (fB e.d kd) ∧ Hv I0 (jC e.kn kk)) :
  CD Tryz.prog 18 [mv m, .int .i64 r, vKW p] X w0 M0 I0 (fun v M I => M0 = M ∧ I0 = I ∧ v = .int .i64 (if nN R n r p = 0 then (if prV m.q R n e then 0 else 12) else nN R n r p)) := by
 have lR := dm.1.1
 obtain ⟨r1, r2⟩ := dm.2.1
 obtain ⟨c1, c2⟩ := dm.2.2
 have m0 : (gt m.rows 0).es.length = n := dm.1.row (i := 0) (by omega)
 have hu0 : u ≤ kb u n := iO u (Nat.zero_le n)
 refine oL (fun w hw => Mem.xsml hm dm (by omega) hw) (fun sa => ?_)
 refine oL (φ := (p.ri.length : Int) ≤ 9223372036854775807 ∧ (p.ci.length : Int) ≤ 9223372036854775807) (fun w hw => ⟨((hw.imm _ hp).2 : IsKW p _ w).lr, ((hw.imm _ hp).2 : IsKW p _ w).lc⟩) (fun hll => ?_)
 have hC := fun M0 I0 h => uC (X := X) (w0 := w0) (M0 := M0) (I0 := I0) (m := m.raw) sa h
 have e0 : m.raw.code = 0 := by unfold WM.code; rw [if_pos dm.ok]
 rw [e0, vE] at hC
 have hkl := hpk.1
 have hC1 := fun b8 M0 I0 h1 h2 => wH (X := X) (w0 := w0) (M0 := M0) (I0 := I0) (q := p.kn.p) (a := p.kn.rows) (c := p.kn.c) (g := 42) (fs := #[]) (cs := #[.pointer (some ⟨b8, 0, none⟩)]) (fun v : WL => v.es.length ≠ n) (by omega) h1 (fun i hi => aVI h2)
 have hC2 := fun M0 I0 h1 h2 => wH (X := X) (w0 := w0) (M0 := M0) (I0 := I0) (q := p.kn.p) (a := p.kn.rows) (c := p.kn.c) (g := 44) (fs := #[]) (cs := #[]) (fun v : WL => ¬ v.good) (by omega) h1 (fun i hi => aVJ (aTX hpk.2 hi) (Hv.wmrow h2 (by omega)))
 have hVd := fun M0 I0 h => xP (X := X) (w0 := w0) (M0 := M0) (I0 := I0) (r := p.d) hpd h
 refine eQ (φ := jC m u) (Hv.mem hm) ?_
 refine eQ (φ := uT m.raw) (Hv.xraw (List.Mem.head _) (by omega)) ?_
 refine eQ (φ := aW p.pr (recs eZ p.ri)) (Hv.kwr (List.Mem.tail _ (List.Mem.tail _ hp))) ?_
 refine eQ (φ := aW p.pc (recs eZ p.ci)) (Hv.kwc (List.Mem.tail _ (List.Mem.tail _ (List.Mem.tail _ hp)))) ?_
 refine eQ (φ := isW p.d) (Hv.kwd (List.Mem.tail _ (List.Mem.tail _ (List.Mem.tail _ (List.Mem.tail _ hp))))) ?_
 refine eQ (φ := uT p.kn) (Hv.kwn (List.Mem.tail _ (List.Mem.tail _ (List.Mem.tail _ (List.Mem.tail _ (List.Mem.tail _ hp)))))) ?_
 refine eQ (φ := aW p.kn.p (recs eWL p.kn.rows)) (Hv.wmsl (List.Mem.head _)) ?_
 refine eQ (φ := aW (m).p (recs eL (m).rows)) (Hv.xsl aB) ?_
 refine uR Tryz.func18 rfl Tryz.ntmps18 rfl ?_
 refine aJ ?_
 refine aL ?_
 (refine aX rfl rfl rfl ?_; intro b5; refine ⟨okF, ?_⟩)
 refine aO .here ?_
 repeat (refine aK ?_)
 (refine aA rfl (hC _ _ aB) rfl rfl ?_; rintro _ _ _ ⟨rfl, rfl, rfl⟩; refine ⟨okF, ?_⟩)
 repeat (refine aK ?_)
 rw [m0]
 (refine aM rfl rfl ?_; intro b8; refine ⟨okF, ?_⟩)
 (first | refine aJ ?_ | refine aL ?_ | refine jD ?_ | refine iA ?_ | refine fH ?_ | refine fC ?_ | refine gY ?_ | refine gU ?_ | refine fF ?_ | refine fG ?_ | refine jE ?_ | refine jL ?_ | refine jF ?_ | refine jJ rfl ?_ | refine bA ?_ | (refine fU ?_; first | refine gJ rfl rfl rfl ?_ | (refine aN rfl rfl ?_; refine aI rfl rfl rfl okF ?_) | refine gF rfl rfl (by omega) ?_ | refine gL rfl rfl (by omega) ?_ | refine pM rfl rfl (fun h => ?_) (fun h => ?_) | (fail_if_success (refine sK rfl ?_); refine nY rfl rfl (fun h => ?_) (fun h => ?_))) | (refine bS ?_; refine aC rfl (fun _ => dK rfl) rfl rfl ?_) | refine aC rfl (fun _ => bE rfl) rfl rfl ?_ | (refine fZ ?_; first | refine aC rfl (fun _ => bD rfl rfl wF) rfl rfl ?_ | refine aC rfl (fun _ => bJ rfl rfl wF) rfl rfl ?_ | refine aC rfl (fun _ => bW rfl rfl wF) rfl rfl ?_ | refine aC rfl (fun _ => eP rfl rfl (by omega) qF) rfl rfl ?_ | refine aC rfl (fun _ => eO rfl rfl (by omega) rfl) rfl rfl ?_ | refine aC rfl (fun _ => dP rfl rfl) rfl rfl ?_ | refine aC rfl (fun _ => dX rfl rfl) rfl rfl ?_ | refine aC rfl (fun _ => dW rfl rfl) rfl rfl ?_ | refine aC rfl (fun _ => pF rfl rfl) rfl rfl ?_ | refine aC rfl (fun _ => rG rfl rfl) rfl rfl ?_) | (refine bS ?_; first | refine aC rfl (fun _ => dY rfl wF) rfl rfl ?_) | (refine gH ?_; first | refine aC rfl (fun _ => dD rfl wF) rfl rfl ?_) | (refine gI ?_; first | refine aC rfl (fun _ => bK rfl) rfl rfl ?_ | refine aC rfl (fun _ => dM rfl rfl) rfl rfl ?_ | refine aC rfl (fun _ => dL rfl rfl) rfl rfl ?_ | refine aC rfl (fun _ => dJ rfl rfl rfl) rfl rfl ?_) | (refine gK ?_; first | refine gM rfl (by decide) rfl rfl ?_ | refine iT rfl (by decide) rfl rfl ?_) | (refine gG ?_; first | refine aC rfl (fun _ => cB rfl) rfl rfl ?_) | (refine fV ?_; first | refine iV rfl rfl fD rfl rfl ?_ | refine iR fA rfl rfl fD aB iY rfl rfl ?_ | refine iU fA rfl rfl fD aB iY rfl rfl ?_ | refine aC rfl (fun _ => bP rfl rfl fD) rfl rfl ?_) | (refine bF ?_; first | (apply bQ; exact fA; exact rfl; (focus ((repeat (first | with_reducible exact List.mem_cons_self | with_reducible assumption | with_reducible refine List.mem_cons_of_mem _ ?_)); done)); exact atY; exact rfl; exact rfl) | (apply kU; exact fA; exact rfl; (focus ((repeat (first | with_reducible exact List.mem_cons_self | with_reducible assumption | with_reducible refine List.mem_cons_of_mem _ ?_)); done)); exact atY; exact rfl; exact rfl) | (apply mM; exact fA; exact rfl; (focus ((repeat (first | with_reducible exact List.mem_cons_self | with_reducible assumption | with_reducible refine List.mem_cons_of_mem _ ?_)); done)); exact atY; exact rfl; exact rfl) | (apply mJ; exact fA; exact rfl; (focus ((repeat (first | with_reducible exact List.mem_cons_self | with_reducible assumption | with_reducible refine List.mem_cons_of_mem _ ?_)); done)); exact atY; exact rfl; exact rfl) | (apply gX; exact fA; exact rfl; (focus ((repeat (first | with_reducible exact List.mem_cons_self | with_reducible assumption | with_reducible refine List.mem_cons_of_mem _ ?_)); done)); exact oO; exact rfl; exact rfl) | (apply fT; exact fA; exact rfl; (focus ((repeat (first | with_reducible exact List.mem_cons_self | with_reducible assumption | with_reducible refine List.mem_cons_of_mem _ ?_)); done)); exact oO; exact rfl; exact rfl) | (apply iP; exact fA; exact rfl; (focus ((repeat (first | with_reducible exact List.mem_cons_self | with_reducible assumption | with_reducible refine List.mem_cons_of_mem _ ?_)); done)); exact oO; exact rfl; exact rfl) | (apply iQ; exact fA; exact rfl; (focus ((repeat (first | with_reducible exact List.mem_cons_self | with_reducible assumption | with_reducible refine List.mem_cons_of_mem _ ?_)); done)); exact oO; exact rfl; exact rfl)) | (refine gN ?_; first | refine aC rfl (fun _ => bN rfl rfl) rfl rfl ?_ | refine aC rfl (fun _ => bH rfl) rfl rfl ?_) | (refine iJ ?_; first | refine jY rfl rfl rfl jZ stC rfl rfl ⟨okF, ?_⟩ | refine fK rfl rfl fE qI jZ qJ rfl rfl ⟨okF, ?_⟩) | (refine iB ?_; first | refine bY rfl ?_ | refine bM rfl ?_ | refine jK rfl (by omega) ?_ | refine lK rfl (by omega) ?_ | refine sH rfl (fun h => ?_) (fun h => ?_) | refine nZ rfl (fun h => ?_) (fun h => ?_)))
 refine RD_w (M' := .blk b8 [.int .i64 (n : Int)] 3 :: M0) SubP.refl Inc.refl ?_
 refine aO .here ?_
 by_cases h1 : r < 0 ∨ (R : Int) < r ∨ (n : Int) < r
 ·rw [if_neg (show ¬ nN R n r p = 0 by rw [aUG h1]; decide), aUG h1]
  by_cases h1a : r < 0
  ·repeat (refine aK ?_)
   refine aH (by first | exact .inl rfl | exact .inr rfl) rfl rfl _ _ aF aD (⟨rfl, rfl, rfl⟩)
  ·repeat (refine aK ?_)
   refine aH (by first | exact .inl rfl | exact .inr rfl) rfl rfl _ _ aF aD (⟨rfl, rfl, rfl⟩)
 by_cases h2 : (p.ri.length : Int) = r ∧ (p.ci.length : Int) = r
 case neg =>
  rw [if_neg (show ¬ nN R n r p = 0 by rw [aNT h1 h2]; decide), aNT h1 h2]
  by_cases h2a : (p.ri.length : Int) = r
  ·have h2b : ¬ (p.ci.length : Int) = r := fun h => h2 ⟨h2a, h⟩
   repeat (refine aK ?_)
   refine aH (by first | exact .inl rfl | exact .inr rfl) rfl rfl _ _ aF aD (⟨rfl, rfl, rfl⟩)
  ·repeat (refine aK ?_)
   refine aH (by first | exact .inl rfl | exact .inr rfl) rfl rfl _ _ aF aD (⟨rfl, rfl, rfl⟩)
 have hri := h2.1
 have hci := h2.2
 have hI1 := fun M0 I0 h => aJE (X := X) (w0 := w0) (M0 := M0) (I0 := I0) (q := p.pr) (l := p.ri) (n := p.ri.length) (c := p.cr) (N := R) rfl (by omega) h
 have hI2 := fun M0 I0 h => aJE (X := X) (w0 := w0) (M0 := M0) (I0 := I0) (q := p.pc) (l := p.ci) (n := p.ci.length) (c := p.cc) (N := n) rfl (by omega) h
 obtain ⟨ba, hba⟩ : ∃ z, B (inRng p.ri R) = z := ⟨_, rfl⟩
 obtain ⟨bb, hbb⟩ : ∃ z, B (rsng p.ri) = z := ⟨_, rfl⟩
 obtain ⟨bc, hbc⟩ : ∃ z, B (inRng p.ci n) = z := ⟨_, rfl⟩
 obtain ⟨bd, hbd⟩ : ∃ z, B (rsng p.ci) = z := ⟨_, rfl⟩
 rw [hba, hbb] at hI1
 rw [hbc, hbd] at hI2
 repeat (refine aK ?_)
 rw [lR]
 (refine aA rfl (hI1 _ _ aB) rfl rfl ?_; rintro _ _ _ ⟨rfl, rfl, rfl⟩; refine ⟨okF, ?_⟩)
 repeat (refine aK ?_)
 (refine aA rfl (hI2 _ _ aB) rfl rfl ?_; rintro _ _ _ ⟨rfl, rfl, rfl⟩; refine ⟨okF, ?_⟩)
 by_cases h3 : inRng p.ri R ∧ inRng p.ci n
 case neg =>
  rw [if_neg (show ¬ nN R n r p = 0 by rw [aUA h1 h2 h3]; decide), aUA h1 h2 h3]
  by_cases h3a : inRng p.ri R
  ·have h3b : ¬ inRng p.ci n := fun h => h3 ⟨h3a, h⟩
   rw [dZ h3a] at hba
   rw [dF h3b] at hbc
   subst hba
   subst hbc
   repeat (refine aK ?_)
   refine aH (by first | exact .inl rfl | exact .inr rfl) rfl rfl _ _ aF aD (⟨rfl, rfl, rfl⟩)
  ·rw [dF h3a] at hba
   subst hba
   repeat (refine aK ?_)
   refine aH (by first | exact .inl rfl | exact .inr rfl) rfl rfl _ _ aF aD (⟨rfl, rfl, rfl⟩)
 rw [dZ h3.1] at hba
 rw [dZ h3.2] at hbc
 subst hba
 subst hbc
 by_cases h4 : rsng p.ri ∧ rsng p.ci
 case neg =>
  rw [if_neg (show ¬ nN R n r p = 0 by rw [aUH h1 h2 h3 h4]; decide), aUH h1 h2 h3 h4]
  by_cases h4a : rsng p.ri
  ·have h4b : ¬ rsng p.ci := fun h => h4 ⟨h4a, h⟩
   rw [dZ h4a] at hbb
   rw [dF h4b] at hbd
   subst hbb
   subst hbd
   repeat (refine aK ?_)
   refine aH (by first | exact .inl rfl | exact .inr rfl) rfl rfl _ _ aF aD (⟨rfl, rfl, rfl⟩)
  ·rw [dF h4a] at hbb
   subst hbb
   repeat (refine aK ?_)
   refine aH (by first | exact .inl rfl | exact .inr rfl) rfl rfl _ _ aF aD (⟨rfl, rfl, rfl⟩)
 rw [dZ h4.1] at hbb
 rw [dZ h4.2] at hbd
 subst hbb
 subst hbd
 by_cases h5a : (p.kn.rows.length : Int) = n - r
 case neg =>
  have h5 : ¬ ((p.kn.rows.length : Int) = n - r ∧ ∀ v ∈ p.kn.rows, v.es.length = n) := fun h => h5a h.1
  rw [if_neg (show ¬ nN R n r p = 0 by rw [aJM h1 h2 h3 h4 h5]; decide), aJM h1 h2 h3 h4 h5]
  repeat (refine aK ?_)
  refine aH (by first | exact .inl rfl | exact .inr rfl) rfl rfl _ _ aF aD (⟨rfl, rfl, rfl⟩)
 obtain ⟨be, hbe⟩ : ∃ z, B (∃ v ∈ p.kn.rows, v.es.length ≠ n) = z := ⟨_, rfl⟩
 rw [hbe] at hC1
 repeat (refine aK ?_)
 (refine aA rfl (hC1 _ _ _ aB aB) rfl rfl ?_; rintro _ _ _ ⟨rfl, rfl, rfl⟩; refine ⟨okF, ?_⟩)
 by_cases h5b : ∀ v ∈ p.kn.rows, v.es.length = n
 case neg =>
  have h5 : ¬ ((p.kn.rows.length : Int) = n - r ∧ ∀ v ∈ p.kn.rows, v.es.length = n) := fun h => h5b h.2
  rw [if_neg (show ¬ nN R n r p = 0 by rw [aJM h1 h2 h3 h4 h5]; decide), aJM h1 h2 h3 h4 h5]
  rw [dZ (Classical.byContradiction (fun h => h5b (fun v hv => Classical.byContradiction (fun hne => h ⟨v, hv, hne⟩))))] at hbe
  subst hbe
  repeat (refine aK ?_)
  refine aH (by first | exact .inl rfl | exact .inr rfl) rfl rfl _ _ aF aD (⟨rfl, rfl, rfl⟩)
 have h5 : (p.kn.rows.length : Int) = n - r ∧ ∀ v ∈ p.kn.rows, v.es.length = n := ⟨h5a, h5b⟩
 rw [dF (fun ⟨v, hv, hne⟩ => hne (h5b v hv))] at hbe
 subst hbe
 by_cases h6a : p.d.good
 case neg =>
  have h6 : ¬ (p.d.good ∧ ∀ v ∈ p.kn.rows, v.good) := fun h => h6a h.1
  rw [if_neg (show ¬ nN R n r p = 0 by rw [aKY h1 h2 h3 h4 h5 h6]; decide), aKY h1 h2 h3 h4 h5 h6]
  rw [dF h6a] at hVd
  repeat (refine aK ?_)
  (refine aA rfl (hVd _ _ (Hv.mem aB)) rfl rfl ?_; rintro _ _ _ ⟨rfl, rfl, rfl⟩; refine ⟨okF, ?_⟩)
  repeat (refine aK ?_)
  refine aH (by first | exact .inl rfl | exact .inr rfl) rfl rfl _ _ aF aD (⟨rfl, rfl, rfl⟩)
 rw [dZ h6a] at hVd
 obtain ⟨bf, hbf⟩ : ∃ z, B (∃ v ∈ p.kn.rows, ¬ v.good) = z := ⟨_, rfl⟩
 rw [hbf] at hC2
 repeat (refine aK ?_)
 (refine aA rfl (hVd _ _ (Hv.mem aB)) rfl rfl ?_; rintro _ _ _ ⟨rfl, rfl, rfl⟩; refine ⟨okF, ?_⟩)
 repeat (refine aK ?_)
 (refine aA rfl (hC2 _ _ aB aB) rfl rfl ?_; rintro _ _ _ ⟨rfl, rfl, rfl⟩; refine ⟨okF, ?_⟩)
 by_cases h6b : ∀ v ∈ p.kn.rows, v.good
 case neg =>
  have h6 : ¬ (p.d.good ∧ ∀ v ∈ p.kn.rows, v.good) := fun h => h6b h.2
  rw [if_neg (show ¬ nN R n r p = 0 by rw [aKY h1 h2 h3 h4 h5 h6]; decide), aKY h1 h2 h3 h4 h5 h6]
  rw [dZ (Classical.byContradiction (fun h => h6b (fun v hv => Classical.byContradiction (fun hne => h ⟨v, hv, hne⟩))))] at hbf
  subst hbf
  repeat (refine aK ?_)
  refine aH (by first | exact .inl rfl | exact .inr rfl) rfl rfl _ _ aF aD (⟨rfl, rfl, rfl⟩)
 rw [dF (fun ⟨v, hv, hne⟩ => hne (h6b v hv))] at hbf
 subst hbf
 have hz := aUM h1 h2 h3 h4 h5 ⟨h6a, h6b⟩
 rw [if_pos hz]
 repeat (refine aK ?_)
 obtain ⟨hpe, hd9, hk9⟩ := he hz
 subst hpe
 have hcell : eKW e.raw = eKE e := by
  show ([Value.slice e.pr e.ri.length e.cr, Value.slice e.pc e.ci.length e.cc] : List Value) ++ (eW e.d.raw ++ [mvW e.kn.raw]) = _
  rw [vE]
  rfl
 have hri' : (e.ri.length : Int) = r := hri
 have hci' : (e.ci.length : Int) = r := hci
 have hI1' : inRng e.ri R := h3.1
 have hI2' : inRng e.ci n := h3.2
 have hkl' : (e.kn.rows.length : Int) = n - r := by have : ((e.kn.rows.map RL.raw).length : Int) = n - r := h5a; rwa [List.length_map] at this
 have hkc : ∀ x ∈ e.kn.rows, x.es.length = n := fun x hx => by
  have := h5b x.raw (List.mem_map.2 ⟨x, hx, rfl⟩)
  have e2 : (x.es.map RE.raw).length = n := this
  rwa [List.length_map] at e2
 obtain ⟨rn, hrn⟩ : ∃ rn : Nat, e.ri.length = rn := ⟨_, rfl⟩
 have hcn : e.ci.length = rn := by omega
 have hrr : r = (rn : Int) := by omega
 subst hrr
 have hz1 := aTY hI1'
 have hz2 := aTY hI2'
 have dk : e.kn.dim (n - rn) n := ⟨by omega, hkc⟩
 have lk := dk.1
 have hrl : rn ≤ n := by omega
 have hSg := fun M0 I0 h => mF (X := X) (w0 := w0) (M0 := M0) (I0 := I0) (e := e.d) (k := kd) (by omega) h
 have hMi := fun M0 I0 hm h1 h2 => aCF (X := X) (w0 := w0) (M0 := M0) (I0 := I0) (m := m) (R := R) (n := n) (u := u) (r := rn) (ix := tN e.ri) (jx := tN e.ci) (qr := e.pr) (qc := e.pc) (cr := e.cr) (cc := e.cc) dm.1 (aTV hI1') (aTV hI2') (by rw [aPF]; exact hrn) (by rw [aPF]; exact hcn) (by omega) ⟨by omega, by omega⟩ hm h1 h2
 rw [hz1, hz2] at hMi
 have hDe := fun (y : MX) hyd M0 I0 h => aNJ (X := X) (w0 := w0) (M0 := M0) (I0 := I0) (y := y) (r := rn) (u := u) (Nat.le_trans (iO u hrl) hu) hyd (by omega) h
 have hkr : kb u rn ≤ kb u n := iO u hrl
 have hRk := fun M0 I0 h => aJW (X := X) (w0 := w0) (M0 := M0) (I0 := I0) (m := e.kn) (R := n - rn) (n := n) (u := kk) dk ⟨c1, by omega⟩ (by omega) hkk h
 have hspk : (jX e.kn.q qT (n - rn)).1.length = rk e.kn.q n := sD (oV dk)
 rw [hspk] at hRk
 have hrkl : rk e.kn.q n ≤ n := aES (oV dk)
 rw [hcell]
 refine fI (φ := jC e.kn kk) ⟨fun X w hw => hk9.go X w (fun φ hφ => hw φ (by repeat (first | exact hφ | apply List.Mem.tail)))⟩ ?_
 refine fI (φ := fB e.d kd) ⟨fun X w hw => hd9.go X w (fun φ hφ => hw φ (by repeat (first | exact hφ | apply List.Mem.tail)))⟩ ?_
 refine fI (φ := aW e.kn.p (recs eL e.kn.rows)) (Hv.xsl aB) ?_
 refine uV (M' := M0) (I' := fB e.d kd :: jC e.kn kk :: aW (some ⟨b8, 0, none⟩) [.int .i64 (n : Int)] :: aW (some ⟨b5, 0, none⟩) (eKE e) :: aW m.p (recs eL m.rows) :: aW e.kn.p (recs eL e.kn.rows) :: aW e.pc (recs eZ e.ci) :: aW e.pr (recs eZ e.ri) :: jC m u :: I0) SubP.refl aD ?_
 obtain ⟨dq, hdq⟩ : ∃ z, dt rn (at2 (mnr m.q (tN e.ri) (tN e.ci))) = z := ⟨_, rfl⟩
 have hP : prV m.q R n e ↔ e.d.q ≠ 0 ∧ e.d.q = dq ∧ rk e.kn.q n = n - rn ∧ ∀ t ∈ List.range (n - rn), ∀ i ∈ List.range R, aIP n (rowAt m.q i) (rowAt e.kn.q t) = 0 := by unfold prV; rw [hrn, hdq]
 refine uJ (fun G M I => ∃ bx : Bool, bx = B (¬ (e.d.q ≠ 0 ∧ e.d.q = dq ∧ rk e.kn.q n = n - rn)) ∧ G = [(0, mv m), (5, .pointer (some ⟨b5, 0, none⟩)), (124, .bool bx)] ∧ M0 = M ∧ I = fB e.d kd :: jC e.kn kk :: aW (some ⟨b8, 0, none⟩) [.int .i64 (n : Int)] :: aW (some ⟨b5, 0, none⟩) (eKE e) :: aW m.p (recs eL m.rows) :: aW e.kn.p (recs eL e.kn.rows) :: aW e.pc (recs eZ e.ci) :: aW e.pr (recs eZ e.ri) :: jC m u :: I0) ?_ ?_
 ·by_cases g1 : e.d.q = 0
  ·rw [(iE _).2 g1] at hSg
   (repeat refine aJ ?_); refine dS (M0) (fB e.d kd :: jC e.kn kk :: aW (some ⟨b8, 0, none⟩) [.int .i64 (n : Int)] :: aW (some ⟨b5, 0, none⟩) (eKE e) :: aW m.p (recs eL m.rows) :: aW e.kn.p (recs eL e.kn.rows) :: aW e.pc (recs eZ e.ci) :: aW e.pr (recs eZ e.ri) :: jC m u :: I0) [0, 1, 2, 3, 4, 5, 6, 7, 8, 9, 10, 11, 12, 13, 14, 15, 16, 17, 18, 19, 21, 22, 23, 20, 24, 25] [5, 4, 0, 4, 1, 4, 3, 3, 4, 3, 4, 3, 0, 0, 0, 1, 1, 0, 1, 0, 1, 1, 1, 0, 0, 0] aF aD mixed (by kernel_rfl) ?_
   repeat (refine aK ?_)
   (refine aA rfl (hSg _ _ (Hv.mem aB)) rfl rfl ?_; rintro _ _ _ ⟨rfl, rfl, rfl⟩; refine ⟨okF, ?_⟩)
   repeat (refine aK ?_)
   refine fO _ _ _ aQ aF aD ⟨_, ?_, rfl, rfl, rfl⟩
   exact (dZ (p := ¬ (e.d.q ≠ 0 ∧ e.d.q = dq ∧ rk e.kn.q n = n - rn)) (fun h => h.1 g1)).symm
  ·have hs0 : ¬ e.d.q.num.sign = 0 := fun h => g1 ((iE _).1 h)
   have hCm := fun (y : RE) M0 I0 h1 h2 => aFR (X := X) (w0 := w0) (M0 := M0) (I0 := I0) (a := e.d) (b := y) (k := kd) (m := kb u rn) (by omega) h1 h2
   (repeat refine aJ ?_); refine dS (M0) (fB e.d kd :: jC e.kn kk :: aW (some ⟨b8, 0, none⟩) [.int .i64 (n : Int)] :: aW (some ⟨b5, 0, none⟩) (eKE e) :: aW m.p (recs eL m.rows) :: aW e.kn.p (recs eL e.kn.rows) :: aW e.pc (recs eZ e.ci) :: aW e.pr (recs eZ e.ri) :: jC m u :: I0) [0, 1, 2, 3, 4, 5, 6, 7, 8, 9, 10, 11, 12, 13, 14, 15, 16, 17, 18, 19, 21, 22, 23, 20, 24, 25] [5, 4, 0, 4, 1, 4, 3, 3, 4, 3, 4, 3, 0, 0, 0, 1, 1, 0, 1, 0, 1, 1, 1, 0, 0, 0] aF aD mixed (by kernel_rfl) ?_
   repeat (refine aK ?_)
   (refine aA rfl (hSg _ _ (Hv.mem aB)) rfl rfl ?_; rintro _ _ _ ⟨rfl, rfl, rfl⟩; refine ⟨okF, ?_⟩)
   repeat (refine aK ?_)
   rw [hrn, hcn]
   (refine aA rfl (hMi _ _ aB aB aB) rfl rfl ?_; rintro _ _ _ ⟨rfl, y, rfl, hy, hyd, rfl⟩; refine ⟨okF, ?_⟩)
   (refine aA rfl (hDe y hyd _ _ aB) rfl rfl ?_; rintro _ _ _ ⟨rfl, e2, rfl, he2, rfl⟩; refine ⟨okF, ?_⟩)
   rw [hy, hdq] at he2
   have hC2' := hCm e2
   rw [he2] at hC2'
   by_cases g2 : e.d.q = dq
   ·rw [aKJ.2 g2] at hC2'
    (refine aA rfl (hC2' _ _ (Hv.mem aB) (Hv.mem aB)) rfl rfl ?_; rintro _ _ _ ⟨rfl, rfl, rfl⟩; refine ⟨okF, ?_⟩)
    repeat (refine aK ?_)
    (refine aA rfl (hRk _ _ aB) rfl rfl ?_; rintro _ _ _ ⟨rfl, rfl, rfl⟩; refine ⟨okF, ?_⟩)
    repeat (refine aK ?_)
    refine fO _ _ _ aQ aF aD ⟨_, ?_, rfl, rfl, rfl⟩
    exact gZ (q := ¬ (e.d.q ≠ 0 ∧ e.d.q = dq ∧ rk e.kn.q n = n - rn)) ⟨fun h h' => h (by have := h'.2.2; omega), fun h h' => h ⟨g1, g2, by omega⟩⟩
   ·have hne : ¬ cmpR e.d.q dq = 0 := fun h => g2 (aKJ.1 h)
    (refine aA rfl (hC2' _ _ (Hv.mem aB) (Hv.mem aB)) rfl rfl ?_; rintro _ _ _ ⟨rfl, rfl, rfl⟩; refine ⟨okF, ?_⟩)
    repeat (refine aK ?_)
    refine fO _ _ _ aQ aF aD ⟨_, ?_, rfl, rfl, rfl⟩
    exact (dZ (p := ¬ (e.d.q ≠ 0 ∧ e.d.q = dq ∧ rk e.kn.q n = n - rn)) (fun h => g2 h.2.1)).symm
 ·rintro G M I ⟨bx, hbx, rfl, rfl, rfl⟩
  clear hSg hMi hDe hRk hI1 hI2 hC1 hC2 hVd hC
  by_cases g0 : e.d.q ≠ 0 ∧ e.d.q = dq ∧ rk e.kn.q n = n - rn
  case neg =>
   rw [dZ g0] at hbx
   subst hbx
   rw [if_neg (fun h => g0 ⟨(hP.1 h).1, (hP.1 h).2.1, (hP.1 h).2.2.1⟩)]
   repeat (refine aK ?_)
   refine aH (by first | exact .inl rfl | exact .inr rfl) rfl rfl _ _ aF aD (⟨rfl, rfl, rfl⟩)
  rw [dF (fun h => h g0)] at hbx
  subst hbx
  obtain ⟨g1, g2, g3⟩ := g0
  repeat (refine aK ?_)
  refine aT [0, 126, 127] rfl (fun k G M I => ∃ t : Nat, t ≤ n - rn ∧ k = n - rn - t ∧ (∀ s : Nat, s < t → ∀ i ∈ List.range R, aIP n (rowAt m.q i) (rowAt e.kn.q s) = 0) ∧ G = [(128, .int .i64 t)] ∧ M0 = M ∧ I = fB e.d kd :: jC e.kn kk :: aW (some ⟨b8, 0, none⟩) [.int .i64 (n : Int)] :: aW (some ⟨b5, 0, none⟩) (eKE e) :: aW m.p (recs eL m.rows) :: aW e.kn.p (recs eL e.kn.rows) :: aW e.pc (recs eZ e.ci) :: aW e.pr (recs eZ e.ri) :: jC m u :: I0) (n - rn) _ _ _ aQ aF aD (⟨0, by omega, by omega, fun s hs => by omega, rfl, rfl, rfl⟩) ?_
  rintro kk2 G M I ⟨t, ht, rfl, hok, rfl, rfl, rfl⟩
  by_cases htn : t < n - rn
  ·have hkq := aAZ (m := e.kn) (i := t) (by omega)
   have hkl3 := dk.row (i := t) htn
   refine fI (φ := nV (gt e.kn.rows (t : Int)) kk) (Hv.xrow aB (by omega)) ?_
   repeat (refine aK ?_)
   rw [lR]
   refine aT [0, 14, 126, 127, 128, 132, 133] rfl (fun k G M I => ∃ i : Nat, i ≤ R ∧ k = R - i ∧ (∀ s : Nat, s < i → aIP n (rowAt m.q s) (rowAt e.kn.q t) = 0) ∧ G = [(134, .int .i64 i)] ∧ M0 = M ∧ I = nV (gt e.kn.rows (t : Int)) kk :: fB e.d kd :: jC e.kn kk :: aW (some ⟨b8, 0, none⟩) [.int .i64 (n : Int)] :: aW (some ⟨b5, 0, none⟩) (eKE e) :: aW m.p (recs eL m.rows) :: aW e.kn.p (recs eL e.kn.rows) :: aW e.pc (recs eZ e.ci) :: aW e.pr (recs eZ e.ri) :: jC m u :: I0) (R) _ _ _ aQ aF aD (⟨0, by omega, by omega, fun s hs => by omega, rfl, rfl, rfl⟩) ?_
   rintro kk3 G M I ⟨i, hi, rfl, hok2, rfl, rfl, rfl⟩
   by_cases hiR : i < R
   ·have hmq := aAZ (m := m) (i := i) (by omega)
    have hml := dm.1.row (i := i) hiR
    have hDt := fun M0 I0 h1 h2 => aTM (X := X) (w0 := w0) (M0 := M0) (I0 := I0) (a := gt m.rows (i : Int)) (b := gt e.kn.rows (t : Int)) (ka := u) (kb := kk) (n := n) (by omega) hdot hml hkl3 h1 h2
    rw [← hmq, ← hkq] at hDt
    obtain ⟨dv, hdv⟩ : ∃ z, aIP n (rowAt m.q i) (rowAt e.kn.q t) = z := ⟨_, rfl⟩
    rw [hdv] at hDt
    refine fI (φ := nV (gt m.rows (i : Int)) u) (Hv.xrow aB (by omega)) ?_
    repeat (refine aK ?_)
    (refine aA rfl (hDt _ _ (Hv.mem aB) (Hv.mem aB)) rfl rfl ?_; rintro _ _ _ ⟨rfl, f, rfl, hf, rfl⟩; refine ⟨okF, ?_⟩)
    have hSf := fun M0 I0 h => mF (X := X) (w0 := w0) (M0 := M0) (I0 := I0) (e := f) (k := n * (u + kk + 1)) (by omega) h
    repeat (refine aK ?_)
    (refine aM rfl rfl ?_; intro b17; refine ⟨okF, ?_⟩)
    by_cases h0 : f.q = 0
    ·rw [(iE _).2 h0] at hSf
     repeat (refine aK ?_)
     (refine aA rfl (hSf _ _ (Hv.mem aB)) rfl rfl ?_; rintro _ _ _ ⟨rfl, rfl, rfl⟩; refine ⟨okF, ?_⟩)
     repeat (refine aK ?_)
     refine aG (R - (i + 1)) _ _ _ (by first | omega | (simp only [List.length_append, List.length_cons, List.length_nil]; omega)) aQ aF aD (⟨i + 1, by omega, rfl, fun s hs => ?_, rfl, rfl, rfl⟩)
     by_cases es : s = i
     ·subst es; rw [hdv, ← hf]; exact h0
     ·exact hok2 s (by omega)
    ·have hs0 : ¬ f.q.num.sign = 0 := fun h => h0 ((iE _).1 h)
     rw [if_neg (fun h => h0 (by rw [hf, ← hdv]; exact (hP.1 h).2.2.2 t (List.mem_range.2 htn) i (List.mem_range.2 hiR)))]
     repeat (refine aK ?_)
     (refine aA rfl (hSf _ _ (Hv.mem aB)) rfl rfl ?_; rintro _ _ _ ⟨rfl, rfl, rfl⟩; refine ⟨okF, ?_⟩)
     repeat (refine aK ?_)
     refine aH (by first | exact .inl rfl | exact .inr rfl) rfl rfl _ _ aF aD (⟨rfl, rfl, rfl⟩)
   ·obtain rfl : i = R := by omega
    repeat (refine aK ?_)
    refine aG (n - rn - (t + 1)) _ _ _ (by first | omega | (simp only [List.length_append, List.length_cons, List.length_nil]; omega)) aQ aF aD (⟨t + 1, by omega, by omega, fun s hs i hi => ?_, rfl, rfl, rfl⟩)
    by_cases es : s = t
    ·subst es; exact hok2 i (List.mem_range.1 hi)
    ·exact hok s (by omega) i hi
  ·have hall : prV m.q R n e := hP.2 ⟨g1, g2, g3, fun s hs i hi => hok s (by have := List.mem_range.1 hs; omega) i hi⟩
   rw [if_pos hall]
   repeat (refine aK ?_)
   refine aH (by first | exact .inl rfl | exact .inr rfl) rfl rfl _ _ aF aD (⟨rfl, rfl, rfl⟩)
end
end Go.Proofs.YtkccjglmnhgabaaGreatDoor
namespace Go.Proofs.YtkccjglmnhgabaaGreatDoor
open Go Go.Fx
theorem aLF (e : RE) : e.raw.good := by
 have := RL.raw_good (⟨none, 0, [e]⟩ : RL) e.raw (by simp [RL.raw])
 exact this
theorem aUO {m : MX} {A : Mt} (h : m.q = A) : m.rows.length = A.length := by rw [← h]; simp
end Go.Proofs.YtkccjglmnhgabaaGreatDoor

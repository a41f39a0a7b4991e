/- Drawn regions: what stays is chosen anew in the middle. resect.Center. resect.Plane. -/
import Derived.Test.YtkccjglmnhgabaaGreatZhav
import Derived.Test.YtkccjglmnhgabaaGreatZhbe
import Derived.Test.YtkccjglmnhgabaaGreatZhax
set_option linter.unusedSimpArgs false
set_option linter.unusedVariables false
set_option maxRecDepth 100000
set_option maxHeartbeats 4000000
namespace Go.Fx
section
variable {P : Program} {ops : Array Oper} {Q : Exit → Act → World → Prop} {Cs Cs' : Nat → World → Prop}
end
section
variable {P : Program} {n : Nat} {Q : Exit → Act → World → Prop} {G : Env} {X : List Nat} {w0 : World} {M M1 M2 : List Ent} {I I1 I2 : List aZ} {l : List Oper}
end
section
variable {P : Program} {n : Nat} {ops l : List Oper} {Q : Exit → Act → World → Prop} {m : Mode} {G : Env} {ty : TypeId} {pos : String} {af : Array Edge} {g : Option (Nat × Bool)} {X : List Nat} {w0 : World} {M M' : List Ent} {I : List aZ}
theorem aMG {w : World} {b mm c sz : Nat} {cs : List Value} {e : TypeId} (ho : w.ownsRow 0 e sz (.slice (some ⟨b, 0, none⟩) mm c) mm cs) : ∃ tl, Blk w b (cs ++ tl) e ∧ cs.length = mm * sz ∧ mm ≤ c ∧ c ≤ 9223372036854775807 ∧ (cs ++ tl).length = c * sz := by
 rcases ho.2 with ⟨h1, h2⟩ | ⟨g, cap, cur, hv, _, hg, hmc, hc, hsz, htake⟩
 ·injection h1 with e1; cases e1
 ·injection hv with e1 e2 e3
  injection e1 with e1
  injection e1 with e1
  subst e1; subst e3
  have hcs : cs ++ cur.toList.drop (mm * sz) = cur.toList := by rw [← htake, List.take_append_drop]
  exact ⟨cur.toList.drop (mm * sz), by rw [hcs]; simpa [Blk] using hg, ho.1, hmc, by first | exact hc | omega, by rw [hcs]; simpa using hsz⟩
theorem aNA {w : World} {b mm c sz : Nat} {cs tl : List Value} {e : TypeId} (hB : Blk w b (cs ++ tl) e) (h1 : cs.length = mm * sz) (h2 : mm ≤ c) (h3 : c ≤ 9223372036854775807) (h4 : (cs ++ tl).length = c * sz) : w.ownsRow 0 e sz (.slice (some ⟨b, 0, none⟩) mm c) mm cs :=
 ⟨h1, .inr ⟨b, c, (cs ++ tl).toArray, rfl, Nat.zero_le _, by simpa [Blk] using hB, h2, by first | exact h3 | (show c ≤ 9223372036854775807; exact h3), by simpa using h4, by rw [← h1]; simp⟩⟩
/- a store into a row that may still grow -/
theorem aCF {d : Option Nat} {t : TypeId} {x y : Operand} {b o mm c sz : Nat} {v : Value} {cs cs' : List Value} {e : TypeId} [ScalarTy P t] (hx : ev G x = some (.pointer (some ⟨b, o, none⟩))) (hy : ev G y = some v) (h1 : v.oneCell' = true)
  (hr : Rep (.row (some ⟨b, 0, none⟩) mm c cs e sz) (.row (some ⟨b, 0, none⟩) mm c cs' e sz) M M') (hs : StAt cs o v cs') (hl : cs'.length = cs.length) (hg : nV ops G g = some true) (hd : fits d n = true)
  (k : OkD m X w0 M' I ∧ RD P n ops Q m.nextE l (put G d undef) X w0 M' I) : RD P n ops Q m (⟨d, .store t x y, ty, pos, af, g⟩ :: l) G X w0 M I :=
 xK (K := fun v' M2 I2 => v' = undef ∧ M2 = M' ∧ I2 = I) hg
  (fun w hw => by
   obtain ⟨tl, hB, q1, q2, q3, q4⟩ := aMG (hw.ent _ hr.mem : w.ownsRow 0 e sz (.slice (some ⟨b, 0, none⟩) mm c) mm cs)
   have hs2 := hs.app (tl := tl)
   refine (yG hx hy h1 hB hs2.out.2).mono (fun _ w' ⟨hu, hB', hE⟩ => ⟨_, _, ⟨hu, rfl, rfl⟩, hw.upd hr hE (fun b hb => .inl hb) (by simp [Ent.blocks]) ?_⟩)
   rw [hs2.out.1] at hB'
   exact aNA hB' (by omega) q2 q3 (by simp only [List.length_append] at q4 ⊢; omega)) rfl hd
  (fun _ _ _ ⟨hu, hM, hI⟩ => by subst hu; subst hM; subst hI; exact k)
end
theorem sU {P : Program} {ops : Array Oper} {Q1 Q2 : Exit → Act → World → Prop} (h : ∀ a w, Q1 .normal a w → Q2 .normal a w) : ∀ (r : List Oper) (m : Mode) (a : Act) (w : World), wpM P ops Q1 m r a w → wpM P ops Q2 m r a w
 | [], _, a, w, hh => h a w hh
 | o :: r, m, a, w, hh => ⟨fun hw => (hh.1 hw).imp (fun ⟨h1, v, h2, h3⟩ => ⟨h1, v, h2, sU h r _ _ _ h3⟩) (fun ⟨h1, h2⟩ => ⟨h1, Oper.wp_mono (fun a w ⟨x, y⟩ => ⟨x, sU h r _ _ _ y⟩) h2⟩), fun hw => ⟨(hh.2 hw).1, sU h r _ _ _ (hh.2 hw).2⟩⟩
section
variable {P : Program} {n : Nat} {ops l : List Oper} {Q Q' Q1 Q2 : Exit → Act → World → Prop} {m : Mode} {G : Env} {X : List Nat} {w0 : World} {M M' : List Ent} {I : List aZ}
/- a cut from within a region that a test follows -/
theorem aNX {c y : Code} (J : Env → List Ent → List aZ → Prop) (h : RD P n ops (Then (c.wp P (Then (aKA n J X w0) Q1)) Q2) m l G X w0 M I) (k : ∀ G' M' I', J G' M' I' → TD P n y Q' G' X w0 M' I') : RD P n ops (Then (c.wp P (Then (y.wp P Q') Q1)) Q2) m l G X w0 M I :=
 ⟨fun w hw => ⟨fun a ha => sU (fun a w q => by
  unfold Then at q ⊢
  refine Code.wp_mono (fun e a w q => ?_) q
  cases e <;> first | exact q | (obtain ⟨G', ⟨M', I', hJ, hm⟩, hh⟩ := q; exact ((k G' M' I' hJ).go w hm).go a hh)) l m a w ((h.go w hw).go a ha)⟩⟩
end
end Go.Fx
namespace Go.Proofs.YtkccjglmnhgabaaGreat
open Go Go.Fx
abbrev zT3 : List Value := [.bool false, .slice none 0 0, .bool false, .slice none 0 0, .bool false, .slice none 0 0, .bool false, .slice none 0 0, .bool false, .slice none 0 0, .bool false, .slice none 0 0]
def ctrOk (N : Mt) : Prop := N.length = 1 ∧ at2 N 0 3 ≠ 0
instance ctrOk.dec (N : Mt) : Decidable (ctrOk N) := by unfold ctrOk; exact inferInstance
section
variable {X : List Nat} {w0 : World} {M0 : List Ent} {I0 : List aZ}
end
end Go.Proofs.YtkccjglmnhgabaaGreat
namespace Go.Proofs.YtkccjglmnhgabaaGreat
open Go Go.Fx
def plD (p0 p1 p2 : V2) (s0 s1 s2 : Rat) : Rat := (cnB (p0.sub p1) s0 s1).crs (cnB (p2.sub p1) s2 s1)
def plZ (p0 p1 p2 : V2) (s0 s1 s2 : Rat) : V2 := mtZ (cnA s0 s1) (cnA s2 s1) (cnB (p0.sub p1) s0 s1) (cnB (p2.sub p1) s2 s1)
def plC (p0 p1 p2 : V2) (s0 s1 s2 : Rat) : V2 := mtC (cnA s0 s1) (cnA s2 s1) (cnB (p0.sub p1) s0 s1) (cnB (p2.sub p1) s2 s1)
def plA (p0 p1 p2 : V2) (s0 s1 s2 : Rat) : V2 := p1.add (plC p0 p1 p2 s0 s1 s2)
def plF (p0 p1 p2 : V2) (s0 s1 s2 : Rat) : V2 := ((plC p0 p1 p2 s0 s1 s2).scl (-1)).sub ((((plC p0 p1 p2 s0 s1 s2).scl (-1)).sd).scl s1)
structure AllP (ps : List PE) (k : Nat) (X : List Nat) (w : World) : Prop where
 go : ∀ p ∈ ps, IsP p k X w
abbrev pO (ps : List PE) (k : Nat) : aZ := AllP ps k
instance (ps : List PE) (k : Nat) : Fx.Good (AllP ps k) := ⟨fun X Y w w' h he hY => ⟨fun r hm => Fx.Good.go (φ := IsP _ _) X Y w w' (h.go r hm) he hY⟩⟩
theorem Hv.pAt {I : List aZ} {ps : List PE} {k : Nat} {p : PE} (h : Hv I (pO ps k)) (hp : p ∈ ps) : Hv I (cZ p k) := ⟨fun X w hw => (h.go X w hw).go _ hp⟩
theorem Hv.p3 {I : List aZ} {a b c : PE} {k : Nat} (h1 : Hv I (cZ a k)) (h2 : Hv I (cZ b k)) (h3 : Hv I (cZ c k)) : Hv I (pO [a, b, c] k) := ⟨fun X w hw => ⟨fun p hp => by
 simp only [List.mem_cons, List.not_mem_nil, or_false] at hp
 rcases hp with rfl | rfl | rfl
 ·exact h1.go X w hw
 ·exact h2.go X w hw
 ·exact h3.go X w hw⟩⟩
theorem aP {I : List aZ} {φ : aZ} (h : Hv I φ := by first | (with_reducible refine Hv.mem ?_; ((repeat (first | with_reducible exact List.mem_cons_self | with_reducible assumption | with_reducible refine List.mem_cons_of_mem _ ?_))); done) | (with_reducible apply Hv.q; ((repeat (first | with_reducible exact List.mem_cons_self | with_reducible assumption | with_reducible refine List.mem_cons_of_mem _ ?_))); omega) | (with_reducible apply Hv.pm; ((repeat (first | with_reducible exact List.mem_cons_self | with_reducible assumption | with_reducible refine List.mem_cons_of_mem _ ?_))); omega) | (with_reducible apply Hv.px; ((repeat (first | with_reducible exact List.mem_cons_self | with_reducible assumption | with_reducible refine List.mem_cons_of_mem _ ?_))); omega) | (with_reducible apply Hv.py; ((repeat (first | with_reducible exact List.mem_cons_self | with_reducible assumption | with_reducible refine List.mem_cons_of_mem _ ?_))); omega)) : Hv I φ := h
theorem aGQ {p : RW → Prop} {a b c : RW} (h1 : p a) (h2 : p b) (h3 : p c) : ∀ x ∈ [a, b, c], p x := fun x hx => by
 simp only [List.mem_cons, List.not_mem_nil, or_false] at hx
 rcases hx with rfl | rfl | rfl
 ·exact h1
 ·exact h2
 ·exact h3
section
variable {X : List Nat} {w0 : World} {M0 : List Ent} {I0 : List aZ}
theorem aLV {p0 p1 p2 : PE} {s0 s1 s2 : RE} {k s K : Nat} (hK : K = 136 * s + 96 * k + 200) (hk : 2 * K + s + k ≤ 4000000) (h0 : Hv I0 (cZ p0 k)) (h1 : Hv I0 (cZ p1 k)) (h2 : Hv I0 (cZ p2 k)) (g0 : Hv I0 (bM s0 s)) (g1 : Hv I0 (bM s1 s)) (g2 : Hv I0 (bM s2 s))
  (hd : plD p0.v p1.v p2.v s0.q s1.q s2.q ≠ 0) (hz : ¬ (plZ p0.v p1.v p2.v s0.q s1.q s2.q).z0) (hn0 : ¬ ((plC p0.v p1.v p2.v s0.q s1.q s2.q).sub (p0.v.sub p1.v)).z0) (hn2 : ¬ ((plC p0.v p1.v p2.v s0.q s1.q s2.q).sub (p2.v.sub p1.v)).z0)
  (hf0 : ¬ (plF p0.v p1.v p2.v s0.q s1.q s2.q).z0) (hf : ∀ p ∈ [p0, p1, p2], 0 < ahd (plA p0.v p1.v p2.v s0.q s1.q s2.q) (plF p0.v p1.v p2.v s0.q s1.q s2.q) p.v) :
  CD Tryz.prog 36 [.agg (recs eP [p0, p1, p2]).toArray, .agg (recs eR [s0, s1, s2]).toArray] X w0 M0 I0 (fun v M I => M0 = M ∧ ∃ a f : PE, v = .tuple #[pv a, pv f, .int .i64 0] ∧ a.v = plA p0.v p1.v p2.v s0.q s1.q s2.q ∧ f.v = plF p0.v p1.v p2.v s0.q s1.q s2.q ∧ I = cZ f (2 * K + s + 1) :: cZ a (k + K + 1) :: I0) := by
 refine aBY (φ := (p0.raw.small ∧ p1.raw.small ∧ p2.raw.small) ∧ s0.raw.small ∧ s1.raw.small ∧ s2.raw.small) (fun w hw => ⟨⟨Mem.pureP h0 (by omega) hw, Mem.pureP h1 (by omega) hw, Mem.pureP h2 (by omega) hw⟩, Mem.pureR g0 (by omega) hw, Mem.pureR g1 (by omega) hw, Mem.pureR g2 (by omega) hw⟩) (fun hs => ?_)
 have hV := fun q M0 I0 h1 => wC (X := X) (w0 := w0) (M0 := M0) (I0 := I0) (q := q) (c := 3) (m := 3) (ps := [p0.raw, p1.raw, p2.raw]) rfl (by simp) (aHM hs.1.1 hs.1.2.1 hs.1.2.2) h1
 rw [dG (show ∀ x ∈ [p0.raw, p1.raw, p2.raw], x.good from aHM p0.raw_good p1.raw_good p2.raw_good)] at hV
 have hVc := fun q M0 I0 h1 => qZ (X := X) (w0 := w0) (M0 := M0) (I0 := I0) (q := q) (c := 3) (m := 3) (ps := [s0.raw, s1.raw, s2.raw]) rfl (by simp) (aGQ hs.2.1 hs.2.2.1 hs.2.2.2) h1
 rw [dG (show ∀ x ∈ [s0.raw, s1.raw, s2.raw], x.good from aGQ s0.raw_good s1.raw_good s2.raw_good)] at hVc
 have hMi := fun a b M0 I0 => nE (X := X) (w0 := w0) (M0 := M0) (I0 := I0) (a := a) (b := b) (k := k) (m := k) (by omega)
 have hCo := fun p a b M0 I0 => wB (X := X) (w0 := w0) (M0 := M0) (I0 := I0) (p := p) (own := a) (org := b) (k := k + k + 1) (s := s) (by omega)
 obtain ⟨kb, hkb⟩ : ∃ kb, kb = 4 * s + 2 * (k + k + 1) + 3 := ⟨_, rfl⟩
 rw [← hkb] at hCo
 have hMe := fun c0 c1 M0 I0 => aML (X := X) (w0 := w0) (M0 := M0) (I0 := I0) (c0 := c0) (c1 := c1) (k := kb) (j := 2 * s + 1) (by omega)
 have hMc := fun a b M0 I0 => nE (X := X) (w0 := w0) (M0 := M0) (I0 := I0) (a := a) (b := b) (k := K) (m := k + k + 1) (by omega)
 have hZc := fun p M0 I0 => yS (X := X) (w0 := w0) (M0 := M0) (I0 := I0) (a := p) (k := K + (k + k + 1) + 1) (by omega)
 have hW := fun M0 I0 => mV (X := X) (w0 := w0) (M0 := M0) (I0 := I0) (x := -1) (by decide) (k := 0) (by decide)
 have hSt := fun p e M0 I0 => nJ (X := X) (w0 := w0) (M0 := M0) (I0 := I0) (a := p) (b := e) (k := K) (m := 0) (by omega)
 have hSd := fun p M0 I0 => sG (X := X) (w0 := w0) (M0 := M0) (I0 := I0) (a := p) (k := K) (by omega)
 have hSs := fun p M0 I0 => nJ (X := X) (w0 := w0) (M0 := M0) (I0 := I0) (a := p) (b := s1) (k := K) (m := s) (by omega)
 have hMf := fun a b M0 I0 => nE (X := X) (w0 := w0) (M0 := M0) (I0 := I0) (a := a) (b := b) (k := K) (m := s + K) (by omega)
 have hPl := fun a b M0 I0 => aLB (X := X) (w0 := w0) (M0 := M0) (I0 := I0) (a := a) (b := b) (k := k) (m := K) (by omega)
 have hSl := fun a f p M0 I0 h1 h2 h3 => aEF (X := X) (w0 := w0) (M0 := M0) (I0 := I0) (c := a) (f := f) (p := p) (k := 2 * K + s + k + 1) (by omega) h1 h2 h3
 refine eD (Hv.pw3 (h0.toPW (by omega)) (h1.toPW (by omega)) (h2.toPW (by omega))) (eD (Hv.w3 (g0.toW (by omega)) (g1.toW (by omega)) (g2.toW (by omega))).cons (eD (Hv.p3 h0 h1 h2).cons.cons (eD h0.cons.cons.cons (eD h1.cons.cons.cons.cons (eD h2.cons.cons.cons.cons.cons (eD g0.cons.cons.cons.cons.cons.cons (eD g1.cons.cons.cons.cons.cons.cons.cons (eD g2.cons.cons.cons.cons.cons.cons.cons.cons ?_))))))))
 generalize hI1 : bM s2 s :: bM s1 s :: bM s0 s :: cZ p2 k :: cZ p1 k :: cZ p0 k :: pO [p0, p1, p2] k :: aCY [s0.raw, s1.raw, s2.raw] :: sN [p0.raw, p1.raw, p2.raw] :: I0 = I1
 have f0 : cZ p0 k ∈ I1 := by rw [← hI1]; exact aC
 have f1 : cZ p1 k ∈ I1 := by rw [← hI1]; exact aC
 have f2 : cZ p2 k ∈ I1 := by rw [← hI1]; exact aC
 have f3 : bM s0 s ∈ I1 := by rw [← hI1]; exact aC
 have f4 : bM s1 s ∈ I1 := by rw [← hI1]; exact aC
 have f5 : bM s2 s ∈ I1 := by rw [← hI1]; exact aC
 have f6 : pO [p0, p1, p2] k ∈ I1 := by rw [← hI1]; exact aC
 have f7 : aCY [s0.raw, s1.raw, s2.raw] ∈ I1 := by rw [← hI1]; exact aC
 have f8 : sN [p0.raw, p1.raw, p2.raw] ∈ I1 := by rw [← hI1]; exact aC
 have f9 : Inc I1 I0 := by rw [← hI1]; exact aF
 clear hI1
 have fP0 := fun (ψ : aZ) (I : List aZ) (h : ψ ∈ I1) => h
 refine bE Tryz.func36 rfl Tryz.ntmps36 rfl ?_
 refine aL ?_
 refine aM ?_
 (refine aR rfl rfl rfl ?_; intro b2; refine ⟨okF, ?_⟩)
 (refine aR rfl rfl rfl ?_; intro b3; refine ⟨okF, ?_⟩)
 (refine aB rfl rfl ?_; intro b4; refine ⟨okF, ?_⟩)
 (refine aB rfl rfl ?_; intro b5; refine ⟨okF, ?_⟩)
 refine bF (b := b2) mW ?_
 refine bF (b := b3) mW ?_
 repeat (refine aJ ?_)
 refine aH rfl (fun _ => jJ rfl) rfl rfl ?_
 (refine aA rfl (hV _ _ _ (List.Mem.tail _ (List.Mem.head _)) (Hv.mem (List.Mem.tail _ (List.Mem.tail _ f8)))) rfl rfl ?_; rintro _ _ _ ⟨rfl, rfl, rfl⟩; refine ⟨okF, ?_⟩)
 repeat (refine aJ ?_)
 refine aH rfl (fun _ => jJ rfl) rfl rfl ?_
 (refine aA rfl (hVc _ _ _ (List.Mem.head _) (Hv.mem (List.Mem.tail _ (List.Mem.tail _ f7)))) rfl rfl ?_; rintro _ _ _ ⟨rfl, rfl, rfl⟩; refine ⟨okF, ?_⟩)
 repeat (refine aJ ?_)
 (refine aB rfl rfl ?_; intro b7; refine ⟨okF, ?_⟩)
 repeat (refine aJ ?_)
 refine kU (fun G M I => ∃ (b8 b9 : Nat) (q8 q9 : PE), q8.v = p0.v.sub p1.v ∧ q9.v = p2.v.sub p1.v ∧ G = [(2, .pointer (some ⟨b2, 0, none⟩)), (3, .pointer (some ⟨b3, 0, none⟩)), (4, .pointer (some ⟨b4, 0, none⟩)), (5, .pointer (some ⟨b5, 0, none⟩)), (7, .pointer (some ⟨b7, 0, none⟩)), (8, .pointer (some ⟨b8, 0, none⟩)), (9, .pointer (some ⟨b9, 0, none⟩))] ∧ M = .blk b9 (eP q9) 43 :: .blk b8 (eP q8) 43 :: .blk b7 (eP p1) 43 :: .blk b5 uA 43 :: .blk b4 uA 43 :: M0 ∧ I = cZ q9 (k + k + 1) :: cZ q8 (k + k + 1) :: bI (some ⟨b3, 0, none⟩) (recs eR [s0, s1, s2]) :: bI (some ⟨b2, 0, none⟩) (recs eP [p0, p1, p2]) :: I1) ?_ ?_
 ·((repeat refine aL ?_); refine iL (.blk b7 (eP p1) 43 :: M0) (bI (some ⟨b3, 0, none⟩) (recs eR [s0, s1, s2]) :: bI (some ⟨b2, 0, none⟩) (recs eP [p0, p1, p2]) :: I1) mixed ?_)
  refine bH (fuel := 6) (listed' := #[true, true, true, false, true, true, true, false, false, false, false, false]) [0, 1, 2, 4, 5, 6] [4, 3, 3, 5, 4, 4] aD aF (by kernel_rfl) (by kernel_rfl) rfl rfl ?_
  repeat (refine aJ ?_)
  refine fB (fuel := 5) (i := 3) (j := 8) (m := 9) (by kernel_rfl) ?_ ?_ ?_
  ·(refine aA rfl (hMi p0 p1 _ _ aP aP) rfl rfl ?_; rintro _ _ _ ⟨rfl, q8, rfl, hq8, rfl⟩; refine ⟨okF, ?_⟩)
   refine aI ?_
   repeat (refine aJ ?_)
   refine fB (fuel := 4) (i := 7) (j := 8) (m := 9) (by kernel_rfl) ?_ ?_ ?_
   ·(refine aA rfl (hMi p2 p1 _ _ aP aP) rfl rfl ?_; rintro _ _ _ ⟨rfl, q9, rfl, hq9, rfl⟩; refine ⟨okF, ?_⟩)
    refine aI ?_
    repeat (refine aJ ?_)
    refine aK (fuel := 3) (i := 8) (j := 9) (by kernel_rfl) ?_ ?_
    ·(refine aB rfl rfl ?_; intro b8; refine ⟨okF, ?_⟩)
     refine aI ?_
     refine aG [9, 10, 11] [0, 0, 0] aD aF (by kernel_rfl) (by kernel_rfl) rfl rfl ?_
     repeat (refine aJ ?_)
     (refine aB rfl rfl ?_; intro b9; refine ⟨okF, ?_⟩)
     repeat (refine aJ ?_)
     refine aN _ _ _ aO aD aF ⟨b8, b9, q8, q9, hq8, hq9, rfl, rfl, rfl⟩
    ·(refine aB rfl rfl ?_; intro b9; refine ⟨okF, ?_⟩)
     refine aI ?_
     refine aG [8, 10, 11] [0, 0, 0] aD aF (by kernel_rfl) (by kernel_rfl) rfl rfl ?_
     repeat (refine aJ ?_)
     (refine aB rfl rfl ?_; intro b8; refine ⟨okF, ?_⟩)
     repeat (refine aJ ?_)
     refine aN _ _ _ aO aD aF ⟨b8, b9, q8, q9, hq8, hq9, rfl, rfl, rfl⟩
   ·(refine aB rfl rfl ?_; intro b8; refine ⟨okF, ?_⟩)
    refine aI ?_
    repeat (refine aJ ?_)
    refine aK (fuel := 3) (i := 7) (j := 9) (by kernel_rfl) ?_ ?_
    ·(refine aA rfl (hMi p2 p1 _ _ aP aP) rfl rfl ?_; rintro _ _ _ ⟨rfl, q9, rfl, hq9, rfl⟩; refine ⟨okF, ?_⟩)
     refine aI ?_
     refine aG [9, 10, 11] [0, 0, 0] aD aF (by kernel_rfl) (by kernel_rfl) rfl rfl ?_
     repeat (refine aJ ?_)
     (refine aB rfl rfl ?_; intro b9; refine ⟨okF, ?_⟩)
     repeat (refine aJ ?_)
     refine aN _ _ _ aO aD aF ⟨b8, b9, q8, q9, hq8, hq9, rfl, rfl, rfl⟩
    ·(refine aB rfl rfl ?_; intro b9; refine ⟨okF, ?_⟩)
     refine aI ?_
     refine aG [7, 10, 11] [0, 0, 0] aD aF (by kernel_rfl) (by kernel_rfl) rfl rfl ?_
     repeat (refine aJ ?_)
     (refine aA rfl (hMi p2 p1 _ _ aP aP) rfl rfl ?_; rintro _ _ _ ⟨rfl, q9, rfl, hq9, rfl⟩; refine ⟨okF, ?_⟩)
     repeat (refine aJ ?_)
     refine aN _ _ _ aO aD aF ⟨b8, b9, q8, q9, hq8, hq9, rfl, rfl, rfl⟩
   ·(refine aB rfl rfl ?_; intro b9; refine ⟨okF, ?_⟩)
    refine aI ?_
    repeat (refine aJ ?_)
    refine aK (fuel := 3) (i := 7) (j := 8) (by kernel_rfl) ?_ ?_
    ·(refine aA rfl (hMi p2 p1 _ _ aP aP) rfl rfl ?_; rintro _ _ _ ⟨rfl, q9, rfl, hq9, rfl⟩; refine ⟨okF, ?_⟩)
     refine aI ?_
     refine aG [8, 10, 11] [0, 0, 0] aD aF (by kernel_rfl) (by kernel_rfl) rfl rfl ?_
     repeat (refine aJ ?_)
     (refine aB rfl rfl ?_; intro b8; refine ⟨okF, ?_⟩)
     repeat (refine aJ ?_)
     refine aN _ _ _ aO aD aF ⟨b8, b9, q8, q9, hq8, hq9, rfl, rfl, rfl⟩
    ·(refine aB rfl rfl ?_; intro b8; refine ⟨okF, ?_⟩)
     refine aI ?_
     refine aG [7, 10, 11] [0, 0, 0] aD aF (by kernel_rfl) (by kernel_rfl) rfl rfl ?_
     repeat (refine aJ ?_)
     (refine aA rfl (hMi p2 p1 _ _ aP aP) rfl rfl ?_; rintro _ _ _ ⟨rfl, q9, rfl, hq9, rfl⟩; refine ⟨okF, ?_⟩)
     repeat (refine aJ ?_)
     refine aN _ _ _ aO aD aF ⟨b8, b9, q8, q9, hq8, hq9, rfl, rfl, rfl⟩
  ·(refine aB rfl rfl ?_; intro b8; refine ⟨okF, ?_⟩)
   refine aI ?_
   repeat (refine aJ ?_)
   refine aK (fuel := 4) (i := 3) (j := 9) (by kernel_rfl) ?_ ?_
   ·(refine aA rfl (hMi p0 p1 _ _ aP aP) rfl rfl ?_; rintro _ _ _ ⟨rfl, q8, rfl, hq8, rfl⟩; refine ⟨okF, ?_⟩)
    refine aI ?_
    repeat (refine aJ ?_)
    refine aK (fuel := 3) (i := 7) (j := 9) (by kernel_rfl) ?_ ?_
    ·(refine aA rfl (hMi p2 p1 _ _ aP aP) rfl rfl ?_; rintro _ _ _ ⟨rfl, q9, rfl, hq9, rfl⟩; refine ⟨okF, ?_⟩)
     refine aI ?_
     refine aG [9, 10, 11] [0, 0, 0] aD aF (by kernel_rfl) (by kernel_rfl) rfl rfl ?_
     repeat (refine aJ ?_)
     (refine aB rfl rfl ?_; intro b9; refine ⟨okF, ?_⟩)
     repeat (refine aJ ?_)
     refine aN _ _ _ aO aD aF ⟨b8, b9, q8, q9, hq8, hq9, rfl, rfl, rfl⟩
    ·(refine aB rfl rfl ?_; intro b9; refine ⟨okF, ?_⟩)
     refine aI ?_
     refine aG [7, 10, 11] [0, 0, 0] aD aF (by kernel_rfl) (by kernel_rfl) rfl rfl ?_
     repeat (refine aJ ?_)
     (refine aA rfl (hMi p2 p1 _ _ aP aP) rfl rfl ?_; rintro _ _ _ ⟨rfl, q9, rfl, hq9, rfl⟩; refine ⟨okF, ?_⟩)
     repeat (refine aJ ?_)
     refine aN _ _ _ aO aD aF ⟨b8, b9, q8, q9, hq8, hq9, rfl, rfl, rfl⟩
   ·(refine aB rfl rfl ?_; intro b9; refine ⟨okF, ?_⟩)
    refine aI ?_
    refine aG [3, 7, 10, 11] [0, 0, 0, 0] aD aF (by kernel_rfl) (by kernel_rfl) rfl rfl ?_
    repeat (refine aJ ?_)
    (refine aA rfl (hMi p0 p1 _ _ aP aP) rfl rfl ?_; rintro _ _ _ ⟨rfl, q8, rfl, hq8, rfl⟩; refine ⟨okF, ?_⟩)
    repeat (refine aJ ?_)
    (refine aA rfl (hMi p2 p1 _ _ aP aP) rfl rfl ?_; rintro _ _ _ ⟨rfl, q9, rfl, hq9, rfl⟩; refine ⟨okF, ?_⟩)
    repeat (refine aJ ?_)
    refine aN _ _ _ aO aD aF ⟨b8, b9, q8, q9, hq8, hq9, rfl, rfl, rfl⟩
  ·(refine aB rfl rfl ?_; intro b9; refine ⟨okF, ?_⟩)
   refine aI ?_
   repeat (refine aJ ?_)
   refine aK (fuel := 4) (i := 3) (j := 8) (by kernel_rfl) ?_ ?_
   ·(refine aA rfl (hMi p0 p1 _ _ aP aP) rfl rfl ?_; rintro _ _ _ ⟨rfl, q8, rfl, hq8, rfl⟩; refine ⟨okF, ?_⟩)
    refine aI ?_
    repeat (refine aJ ?_)
    refine aK (fuel := 3) (i := 7) (j := 8) (by kernel_rfl) ?_ ?_
    ·(refine aA rfl (hMi p2 p1 _ _ aP aP) rfl rfl ?_; rintro _ _ _ ⟨rfl, q9, rfl, hq9, rfl⟩; refine ⟨okF, ?_⟩)
     refine aI ?_
     refine aG [8, 10, 11] [0, 0, 0] aD aF (by kernel_rfl) (by kernel_rfl) rfl rfl ?_
     repeat (refine aJ ?_)
     (refine aB rfl rfl ?_; intro b8; refine ⟨okF, ?_⟩)
     repeat (refine aJ ?_)
     refine aN _ _ _ aO aD aF ⟨b8, b9, q8, q9, hq8, hq9, rfl, rfl, rfl⟩
    ·(refine aB rfl rfl ?_; intro b8; refine ⟨okF, ?_⟩)
     refine aI ?_
     refine aG [7, 10, 11] [0, 0, 0] aD aF (by kernel_rfl) (by kernel_rfl) rfl rfl ?_
     repeat (refine aJ ?_)
     (refine aA rfl (hMi p2 p1 _ _ aP aP) rfl rfl ?_; rintro _ _ _ ⟨rfl, q9, rfl, hq9, rfl⟩; refine ⟨okF, ?_⟩)
     repeat (refine aJ ?_)
     refine aN _ _ _ aO aD aF ⟨b8, b9, q8, q9, hq8, hq9, rfl, rfl, rfl⟩
   ·(refine aB rfl rfl ?_; intro b8; refine ⟨okF, ?_⟩)
    refine aI ?_
    refine aG [3, 7, 10, 11] [0, 0, 0, 0] aD aF (by kernel_rfl) (by kernel_rfl) rfl rfl ?_
    repeat (refine aJ ?_)
    (refine aA rfl (hMi p0 p1 _ _ aP aP) rfl rfl ?_; rintro _ _ _ ⟨rfl, q8, rfl, hq8, rfl⟩; refine ⟨okF, ?_⟩)
    repeat (refine aJ ?_)
    (refine aA rfl (hMi p2 p1 _ _ aP aP) rfl rfl ?_; rintro _ _ _ ⟨rfl, q9, rfl, hq9, rfl⟩; refine ⟨okF, ?_⟩)
    repeat (refine aJ ?_)
    refine aN _ _ _ aO aD aF ⟨b8, b9, q8, q9, hq8, hq9, rfl, rfl, rfl⟩
 ·rintro G M I ⟨b8, b9, q8, q9, hq8, hq9, rfl, rfl, rfl⟩
  refine oF (fun G M I => ∃ (b10 : Nat) (q10 : PE), q10.v = plC p0.v p1.v p2.v s0.q s1.q s2.q ∧ G = (11, .bool true) :: [(2, .pointer (some ⟨b2, 0, none⟩)), (3, .pointer (some ⟨b3, 0, none⟩)), (4, .pointer (some ⟨b4, 0, none⟩)), (5, .pointer (some ⟨b5, 0, none⟩)), (7, .pointer (some ⟨b7, 0, none⟩)), (8, .pointer (some ⟨b8, 0, none⟩)), (9, .pointer (some ⟨b9, 0, none⟩)), (10, .pointer (some ⟨b10, 0, none⟩))] ∧ M = .blk b10 (eP q10) 43 :: .blk b9 (eP q9) 43 :: .blk b8 (eP q8) 43 :: .blk b7 (eP p1) 43 :: .blk b5 uA 43 :: .blk b4 uA 43 :: M0 ∧ I = cZ q10 K :: cZ q9 (k + k + 1) :: cZ q8 (k + k + 1) :: bI (some ⟨b3, 0, none⟩) (recs eR [s0, s1, s2]) :: bI (some ⟨b2, 0, none⟩) (recs eP [p0, p1, p2]) :: I1) ?_ ?_
  ·have hMe2 : ∀ (c0 c1 : CE) M0 I0, c0.a.q = cnA s0.q s1.q → c0.b.v = cnB q8.v s0.q s1.q → c1.a.q = cnA s2.q s1.q → c1.b.v = cnB q9.v s2.q s1.q → _ → _ → _ → _ → CD Tryz.prog 87 [.agg (recs eC [c0, c1]).toArray] X w0 M0 I0 (fun v M I => M0 = M ∧ ∃ p : PE, v = .tuple #[pv p, .bool true] ∧ p.v = plC p0.v p1.v p2.v s0.q s1.q s2.q ∧ I = cZ p (4 * kb + 20 * (2 * s + 1 + kb) + 20) :: I0) := fun c0 c1 M0 I0 e1 e2 e3 e4 a1 a2 a3 a4 => by
    have hh := hMe c0 c1 M0 I0 a1 a2 a3 a4
    rw [e1, e2, e3, e4, hq8, hq9] at hh
    exact hh hd hz
   ((repeat refine aL ?_); refine iL (.blk b9 (eP q9) 43 :: .blk b8 (eP q8) 43 :: M0) (cZ q9 (k + k + 1) :: cZ q8 (k + k + 1) :: bI (some ⟨b3, 0, none⟩) (recs eR [s0, s1, s2]) :: bI (some ⟨b2, 0, none⟩) (recs eP [p0, p1, p2]) :: I1) mixed ?_)
   refine bH (fuel := 10) (listed' := #[true, true, true, true, true, false, true, true, true, true, true, false, false, false, false, false, false, false, false, false]) [0, 1, 2, 3, 4, 6, 7, 8, 9, 10] [3, 4, 3, 4, 3, 3, 4, 3, 4, 3] aD aF (by kernel_rfl) (by kernel_rfl) rfl rfl ?_
   repeat (refine aJ ?_)
   refine aK (fuel := 9) (i := 5) (j := 17) (by kernel_rfl) ?_ ?_
   ·(refine aA rfl (hCo q8 s0 s1 _ _ aP aP aP) rfl rfl ?_; rintro _ _ _ ⟨rfl, c0, rfl, ha0, hb0, rfl⟩; refine ⟨okF, ?_⟩)
    refine aI ?_
    repeat (refine aJ ?_)
    refine aK (fuel := 8) (i := 11) (j := 17) (by kernel_rfl) ?_ ?_
    ·(refine aA rfl (hCo q9 s2 s1 _ _ aP aP aP) rfl rfl ?_; rintro _ _ _ ⟨rfl, c1, rfl, ha1, hb1, rfl⟩; refine ⟨okF, ?_⟩)
     refine aI ?_
     refine bH (fuel := 7) (listed' := #[true, true, true, true, true, true, true, true, true, true, true, true, true, false, false, false, false, false, false, false]) [12] [1] aD aF (by kernel_rfl) (by kernel_rfl) rfl rfl ?_
     repeat (refine aJ ?_)
     (refine aH rfl (fun _ => aX (vals := [cv c0, cv c1]) (cells := recs eC [c0, c1]) rfl ?hpl rfl ?hz) rfl rfl ?_; (case hpl => exact (by intro v hv; repeat (first | exact absurd hv (List.not_mem_nil) | (rcases List.mem_cons.1 hv with rfl | hv; · rfl)))); (case hz => rfl))
     repeat (refine aJ ?_)
     refine aK (fuel := 6) (i := 13) (j := 17) (by kernel_rfl) ?_ ?_
     ·(refine aA rfl (hMe2 c0 c1 _ _ ha0 hb0 ha1 hb1 aP aP aP aP) rfl rfl ?_; rintro _ _ _ ⟨rfl, q10, rfl, hq10, rfl⟩; refine ⟨okF, ?_⟩)
      refine aI ?_
      refine aG [14, 15, 16, 17, 18, 19] [1, 1, 2, 0, 0, 0] aD aF (by kernel_rfl) (by kernel_rfl) rfl rfl ?_
      repeat (refine aJ ?_)
      (refine aB rfl rfl ?_; intro b10; refine ⟨okF, ?_⟩)
      repeat (refine aJ ?_)
      refine bJ (φ := cZ q10 K) aP (aN _ _ _ aO aD aF ⟨b10, q10, hq10, rfl, rfl, rfl⟩)
     ·(refine aB rfl rfl ?_; intro b10; refine ⟨okF, ?_⟩)
      refine aI ?_
      refine aG [13, 14, 15, 16, 18, 19] [0, 0, 0, 1, 0, 0] aD aF (by kernel_rfl) (by kernel_rfl) rfl rfl ?_
      repeat (refine aJ ?_)
      (refine aA rfl (hMe2 c0 c1 _ _ ha0 hb0 ha1 hb1 aP aP aP aP) rfl rfl ?_; rintro _ _ _ ⟨rfl, q10, rfl, hq10, rfl⟩; refine ⟨okF, ?_⟩)
      repeat (refine aJ ?_)
      refine bJ (φ := cZ q10 K) aP (aN _ _ _ aO aD aF ⟨b10, q10, hq10, rfl, rfl, rfl⟩)
    ·(refine aB rfl rfl ?_; intro b10; refine ⟨okF, ?_⟩)
     refine aI ?_
     refine aG [11, 12, 13, 14, 15, 16, 18, 19] [0, 0, 0, 0, 0, 1, 0, 0] aD aF (by kernel_rfl) (by kernel_rfl) rfl rfl ?_
     repeat (refine aJ ?_)
     (refine aA rfl (hCo q9 s2 s1 _ _ aP aP aP) rfl rfl ?_; rintro _ _ _ ⟨rfl, c1, rfl, ha1, hb1, rfl⟩; refine ⟨okF, ?_⟩)
     repeat (refine aJ ?_)
     (refine aH rfl (fun _ => aX (vals := [cv c0, cv c1]) (cells := recs eC [c0, c1]) rfl ?hpl rfl ?hz) rfl rfl ?_; (case hpl => exact (by intro v hv; repeat (first | exact absurd hv (List.not_mem_nil) | (rcases List.mem_cons.1 hv with rfl | hv; · rfl)))); (case hz => rfl))
     repeat (refine aJ ?_)
     (refine aA rfl (hMe2 c0 c1 _ _ ha0 hb0 ha1 hb1 aP aP aP aP) rfl rfl ?_; rintro _ _ _ ⟨rfl, q10, rfl, hq10, rfl⟩; refine ⟨okF, ?_⟩)
     repeat (refine aJ ?_)
     refine bJ (φ := cZ q10 K) aP (aN _ _ _ aO aD aF ⟨b10, q10, hq10, rfl, rfl, rfl⟩)
   ·(refine aB rfl rfl ?_; intro b10; refine ⟨okF, ?_⟩)
    refine aI ?_
    refine aG [5, 11, 12, 13, 14, 15, 16, 18, 19] [0, 0, 0, 0, 0, 0, 1, 0, 0] aD aF (by kernel_rfl) (by kernel_rfl) rfl rfl ?_
    repeat (refine aJ ?_)
    (refine aA rfl (hCo q8 s0 s1 _ _ aP aP aP) rfl rfl ?_; rintro _ _ _ ⟨rfl, c0, rfl, ha0, hb0, rfl⟩; refine ⟨okF, ?_⟩)
    repeat (refine aJ ?_)
    (refine aA rfl (hCo q9 s2 s1 _ _ aP aP aP) rfl rfl ?_; rintro _ _ _ ⟨rfl, c1, rfl, ha1, hb1, rfl⟩; refine ⟨okF, ?_⟩)
    repeat (refine aJ ?_)
    (refine aH rfl (fun _ => aX (vals := [cv c0, cv c1]) (cells := recs eC [c0, c1]) rfl ?hpl rfl ?hz) rfl rfl ?_; (case hpl => exact (by intro v hv; repeat (first | exact absurd hv (List.not_mem_nil) | (rcases List.mem_cons.1 hv with rfl | hv; · rfl)))); (case hz => rfl))
    repeat (refine aJ ?_)
    (refine aA rfl (hMe2 c0 c1 _ _ ha0 hb0 ha1 hb1 aP aP aP aP) rfl rfl ?_; rintro _ _ _ ⟨rfl, q10, rfl, hq10, rfl⟩; refine ⟨okF, ?_⟩)
    repeat (refine aJ ?_)
    refine bJ (φ := cZ q10 K) aP (aN _ _ _ aO aD aF ⟨b10, q10, hq10, rfl, rfl, rfl⟩)
  ·rintro G M I ⟨b10, q10, hq10, rfl, rfl, rfl⟩
   repeat (refine aJ ?_)
   (refine aA rfl (hMc q10 q8 _ _ aP aP) rfl rfl ?_; rintro _ _ _ ⟨rfl, d0, rfl, hd0, rfl⟩; refine ⟨okF, ?_⟩)
   have z0 : ¬ d0.v.z0 := by rw [hd0, hq10, hq8]; exact hn0
   have hZ0 := fun M0 I0 => hZc d0 M0 I0
   rw [bN z0] at hZ0
   repeat (refine aJ ?_)
   (refine aA rfl (hZ0 _ _ aP) rfl rfl ?_; rintro _ _ _ ⟨rfl, rfl, rfl⟩; refine ⟨okF, ?_⟩)
   repeat (refine aJ ?_)
   (refine aA rfl (hMc q10 q9 _ _ aP aP) rfl rfl ?_; rintro _ _ _ ⟨rfl, d2, rfl, hd2, rfl⟩; refine ⟨okF, ?_⟩)
   have z2 : ¬ d2.v.z0 := by rw [hd2, hq10, hq9]; exact hn2
   have hZ2 := fun M0 I0 => hZc d2 M0 I0
   rw [bN z2] at hZ2
   repeat (refine aJ ?_)
   (refine aA rfl (hZ2 _ _ aP) rfl rfl ?_; rintro _ _ _ ⟨rfl, rfl, rfl⟩; refine ⟨okF, ?_⟩)
   repeat (refine aJ ?_)
   refine kU (fun G M I => ∃ (b12 : Nat) (q12 : PE), q12.v = q10.v.scl (-1) ∧ G = [(2, .pointer (some ⟨b2, 0, none⟩)), (3, .pointer (some ⟨b3, 0, none⟩)), (4, .pointer (some ⟨b4, 0, none⟩)), (5, .pointer (some ⟨b5, 0, none⟩)), (7, .pointer (some ⟨b7, 0, none⟩)), (10, .pointer (some ⟨b10, 0, none⟩)), (12, .pointer (some ⟨b12, 0, none⟩))] ∧ M = .blk b12 (eP q12) 43 :: .blk b10 (eP q10) 43 :: .blk b7 (eP p1) 43 :: .blk b5 uA 43 :: .blk b4 uA 43 :: M0 ∧ I = cZ q12 K :: cZ q10 K :: bI (some ⟨b3, 0, none⟩) (recs eR [s0, s1, s2]) :: bI (some ⟨b2, 0, none⟩) (recs eP [p0, p1, p2]) :: I1) ?_ ?_
   ·have e1 : (((-1 : Int) : Rat)) = -1 := rfl
    ((repeat refine aL ?_); refine iL (.blk b10 (eP q10) 43 :: M0) (cZ q10 K :: bI (some ⟨b3, 0, none⟩) (recs eR [s0, s1, s2]) :: bI (some ⟨b2, 0, none⟩) (recs eP [p0, p1, p2]) :: I1) mixed ?_)
    refine bH (fuel := 4) (listed' := #[true, false, false, false, false]) [0] [2] aD aF (by kernel_rfl) (by kernel_rfl) rfl rfl ?_
    repeat (refine aJ ?_)
    refine aK (fuel := 3) (i := 1) (j := 3) (by kernel_rfl) ?_ ?_
    ·(refine aA rfl (hW _ _) rfl rfl ?_; rintro _ _ _ ⟨rfl, e12, rfl, he12, rfl⟩; refine ⟨okF, ?_⟩)
     refine aI ?_
     repeat (refine aJ ?_)
     refine aK (fuel := 2) (i := 2) (j := 3) (by kernel_rfl) ?_ ?_
     ·(refine aA rfl (hSt q10 e12 _ _ aP aP) rfl rfl ?_; rintro _ _ _ ⟨rfl, q12, rfl, hq12, rfl⟩; refine ⟨okF, ?_⟩)
      refine aI ?_
      refine aG [3, 4] [0, 0] aD aF (by kernel_rfl) (by kernel_rfl) rfl rfl ?_
      repeat (refine aJ ?_)
      (refine aB rfl rfl ?_; intro b12; refine ⟨okF, ?_⟩)
      repeat (refine aJ ?_)
      refine bJ (φ := cZ q12 K) aP (aN _ _ _ aO aD aF ⟨b12, q12, by rw [hq12, he12, e1], rfl, rfl, rfl⟩)
     ·(refine aB rfl rfl ?_; intro b12; refine ⟨okF, ?_⟩)
      refine aI ?_
      refine aG [2, 4] [0, 0] aD aF (by kernel_rfl) (by kernel_rfl) rfl rfl ?_
      repeat (refine aJ ?_)
      (refine aA rfl (hSt q10 e12 _ _ aP aP) rfl rfl ?_; rintro _ _ _ ⟨rfl, q12, rfl, hq12, rfl⟩; refine ⟨okF, ?_⟩)
      repeat (refine aJ ?_)
      refine bJ (φ := cZ q12 K) aP (aN _ _ _ aO aD aF ⟨b12, q12, by rw [hq12, he12, e1], rfl, rfl, rfl⟩)
    ·(refine aB rfl rfl ?_; intro b12; refine ⟨okF, ?_⟩)
     refine aI ?_
     refine aG [1, 2, 4] [0, 0, 0] aD aF (by kernel_rfl) (by kernel_rfl) rfl rfl ?_
     repeat (refine aJ ?_)
     (refine aA rfl (hW _ _) rfl rfl ?_; rintro _ _ _ ⟨rfl, e12, rfl, he12, rfl⟩; refine ⟨okF, ?_⟩)
     repeat (refine aJ ?_)
     (refine aA rfl (hSt q10 e12 _ _ aP aP) rfl rfl ?_; rintro _ _ _ ⟨rfl, q12, rfl, hq12, rfl⟩; refine ⟨okF, ?_⟩)
     repeat (refine aJ ?_)
     refine bJ (φ := cZ q12 K) aP (aN _ _ _ aO aD aF ⟨b12, q12, by rw [hq12, he12, e1], rfl, rfl, rfl⟩)
   ·rintro G M I ⟨b12, q12, hq12, rfl, rfl, rfl⟩
    refine aL ?_
    (repeat refine aL ?_); refine dJ (.blk b12 (eP q12) 43 :: M0) (cZ q12 K :: cZ q10 K :: bI (some ⟨b3, 0, none⟩) (recs eR [s0, s1, s2]) :: bI (some ⟨b2, 0, none⟩) (recs eP [p0, p1, p2]) :: I1) [0, 1, 3, 4, 2, 5, 6, 7] [2, 2, 3, 2, 0, 0, 0, 0] aD aF mixed (by kernel_rfl) ?_
    repeat (refine aJ ?_)
    (refine aA rfl (hSd q12 _ _ aP) rfl rfl ?_; rintro _ _ _ ⟨rfl, q13, rfl, hq13, rfl⟩; refine ⟨okF, ?_⟩)
    repeat (refine aJ ?_)
    (refine aA rfl (hSs q13 _ _ aP aP) rfl rfl ?_; rintro _ _ _ ⟨rfl, q14, rfl, hq14, rfl⟩; refine ⟨okF, ?_⟩)
    repeat (refine aJ ?_)
    (refine aA rfl (hMf q12 q14 _ _ aP aP) rfl rfl ?_; rintro _ _ _ ⟨rfl, fw, rfl, hfw, rfl⟩; refine ⟨okF, ?_⟩)
    repeat (refine aJ ?_)
    (refine aA rfl (hPl p1 q10 _ _ aP aP) rfl rfl ?_; rintro _ _ _ ⟨rfl, at', rfl, hat, rfl⟩; refine ⟨okF, ?_⟩)
    repeat (refine aJ ?_)
    have efw : fw.v = plF p0.v p1.v p2.v s0.q s1.q s2.q := by rw [hfw, hq14, hq13, hq12, hq10]; rfl
    have eat : at'.v = plA p0.v p1.v p2.v s0.q s1.q s2.q := by rw [hat, hq10]; rfl
    rw [← efw, ← eat] at hf
    rw [← efw] at hf0
    have hpt : ∀ (i : Nat), i < 3 → ∀ I, pO [p0, p1, p2] k ∈ I → Hv I (cZ (gt [p0, p1, p2] (i : Int)) (2 * K + s + k + 1)) := fun i hi I h => ((Hv.mem h).pAt (dX (by simp; omega))).monoP (by omega)
    have hSt2 : ∀ (i : Nat), i < 3 → ∀ M0 I0, Hv I0 (cZ at' (2 * K + s + k + 1)) → Hv I0 (cZ fw (2 * K + s + k + 1)) → pO [p0, p1, p2] k ∈ I0 → CD Tryz.prog 38 [pv at', pv fw, pv (gt [p0, p1, p2] (i : Int))] X w0 M0 I0 (fun v M I => M0 = M ∧ ∃ e : RE, v = .tuple #[rv e, .bool true, .int .i64 0] ∧ I = bM e (12 * (2 * K + s + k + 1) + 6) :: I0) := fun i hi M0 I0 h1 h2 h3 => by
     have hpos := hf _ (dX (ms := [p0, p1, p2]) (i := (i : Int)) (by simp; omega))
     have hh := hSl at' fw (gt [p0, p1, p2] (i : Int)) M0 I0 h1 h2 (hpt i hi I0 h3) hf0 (by intro e; rw [e] at hpos; exact absurd hpos (by decide))
     rw [dG hpos] at hh
     refine hh.mono ?_
     rintro v M I ⟨a1, e, a2, a3, a4⟩
     exact ⟨a1, e, a2, a4⟩
    clear hV hVc hMi hCo hMe hMc hZc hW hSt hSd hSs hMf hPl hSl hZ0 hZ2
    refine fD (φ := cZ fw (2 * K + s + 1)) aP (fD (φ := cZ at' (2 * K + s + k + 1)) aP (fD (φ := cZ fw (2 * K + s + k + 1)) aP ?_))
    obtain ⟨kk, hkk⟩ : ∃ kk, kk = 2 * K + s + k + 1 := ⟨_, rfl⟩
    obtain ⟨ka, hka⟩ : ∃ ka, ka = k + K + 1 := ⟨_, rfl⟩
    obtain ⟨kf, hkf⟩ : ∃ kf, kf = 2 * K + s + 1 := ⟨_, rfl⟩
    rw [← hkk] at hSt2 ⊢
    rw [← hka, ← hkf]
    refine bG [4, 5, 84] rfl (fun k G M I => ∃ i : Nat, i ≤ 3 ∧ k = 3 - i ∧ G = [(85, .int .i64 i)] ∧ M = .blk b5 (eP fw) 43 :: .blk b4 (eP at') 43 :: M0 ∧ I = cZ fw kk :: cZ at' kk :: cZ at' ka :: cZ fw kf :: I1) (3) _ _ _ aO aD aF (⟨0, by omega, rfl, rfl, rfl, rfl⟩) ?_
    rintro k' G M I ⟨i, hi, rfl, rfl, rfl, rfl⟩
    by_cases hin : i < 3
    ·have hSi := hSt2 i hin
     repeat (refine aJ ?_)
     refine aH rfl (fun _ => vX (vs := eP (gt [p0, p1, p2] (i : Int))) rfl rfl (by omega) (aAN (by simp; omega))) rfl rfl ?_
     (refine aB rfl rfl ?_; intro b14; refine ⟨okF, ?_⟩)
     repeat (refine aJ ?_)
     (refine aA rfl (hSi _ _ aP aP aC) rfl rfl ?_; rintro _ _ _ ⟨rfl, e15, rfl, rfl⟩; refine ⟨okF, ?_⟩)
     repeat (refine aJ ?_)
     (refine aB rfl rfl ?_; intro b15; refine ⟨okF, ?_⟩)
     repeat (refine aJ ?_)
     refine aS (3 - (i + 1)) _ _ _ (by first | omega | (simp only [List.length_append, List.length_cons, List.length_nil]; omega)) aO aD aF (⟨i + 1, by omega, rfl, rfl, rfl, rfl⟩)
    ·repeat (refine aJ ?_)
     (repeat refine aL ?_); refine dJ (.blk b5 (eP fw) 43 :: .blk b4 (eP at') 43 :: M0) (cZ fw kk :: cZ at' kk :: cZ at' ka :: cZ fw kf :: I1) [0, 1, 2, 3, 4] [0, 1, 0, 0, 0] aD aF mixed (by kernel_rfl) ?_
     repeat (refine aJ ?_)
     refine iW (rs := [.cell 4 43, .cell 5 43, .tmp 6]) (vs := [pv at', pv fw, .int .i64 0]) (.inl rfl) rfl (.cellN (cs := eP at') inferInstance rfl aC rfl (.cellN (cs := eP fw) inferInstance rfl aC rfl (.tmp rfl .nil))) rfl M0 (cZ fw kf :: cZ at' ka :: I0) aD (Inc.cons aC (Inc.cons aC (.of (fun φ hp => List.mem_cons_of_mem _ (List.mem_cons_of_mem _ (List.mem_cons_of_mem _ (List.mem_cons_of_mem _ (f9.mem φ hp)))))))) ⟨rfl, at', fw, rfl, eat, efw, rfl⟩
end
end Go.Proofs.YtkccjglmnhgabaaGreat

/- What the laws of matrices share. The law ResectMatrices. The law ResectMatrices: what the law computes itself. The law ResectMatrices: its walk. The law ResectMatrices: every case; its arguments opened. -/
import Derived.Test.YtgeagiikkeiioaaGreatZrbl
import Derived.Test.YtgeagiikkeiioaaGreatZrbn
import Derived.Test.YtgeagiikkeiioaaGreatZrbo
import Derived.Test.YtgeagiikkeiioaaGreatZrax
import Derived.Test.YtgeagiikkeiioaaGreatZrbm
set_option linter.unusedSimpArgs false
set_option linter.unusedVariables false
set_option maxRecDepth 100000
set_option maxHeartbeats 4000000
namespace Go.Proofs.YtgeagiikkeiioaaGreat
open Go Go.Fx
theorem Hv.shtX {I : List bL} {a : WM} {A : MX} (e : a = A.raw) (hs : a.sht) (h : kW a ∈ I) : Hv I (nU A 30) := ⟨fun X w hw => by subst e; exact aNI hs (hw _ h)⟩
theorem Hv.shtR {I : List bL} {a : RW} {A : RE} (e : a = A.raw) (hs : a.brief) (h : pO a ∈ I) : Hv I (bZ A 30) := ⟨fun X w hw => by subst e; exact aAY hs (hw _ h)⟩
theorem Mem.fitM {X : List Nat} {w0 w : World} {M : List Ent} {I : List bL} {a : WM} (h : kW a ∈ I) (hw : Mem X w0 M I w) : ∀ r ∈ a.rows, ∀ e ∈ r.es, e.Fit := fun r hr e he => ((((hw.imm _ h).2 : IsWM a _ w).row r hr).el e he).fit
theorem Mem.fitR {X : List Nat} {w0 w : World} {M : List Ent} {I : List bL} {a : RW} (h : pO a ∈ I) (hw : Mem X w0 M I w) : a.Fit := ((hw.imm _ h).2 : IsW a _ w).fit
end Go.Proofs.YtgeagiikkeiioaaGreat
namespace Go.Proofs.YtgeagiikkeiioaaGreat
open Go Go.Fx
theorem WL.shN.sht {r : WL} {n g : Nat} (h : r.shN n g) (hn : n ≤ 6) (hg : g ≤ 6) : r.sht := ⟨by have := h.1; omega, fun e he => (h.2 e he).2 hg⟩
theorem WM.shN.sht {m : WM} {n g : Nat} (h : m.shN n g) (hn : n ≤ 6) (hg : g ≤ 6) : m.sht := ⟨by have := h.1; omega, fun r hr => (h.2 r hr).sht hn hg⟩
def x3 (a b c : RW) : WL := ⟨none, 0, [a, b, c]⟩
theorem aLD {m : WM} {x : WL} (h : ¬ (x.good ∧ ∀ r ∈ m.rows, r.good)) : qV m x = 1 := by unfold qV; rw [if_neg h]
theorem aMU {m : WM} {x : WL} (h : x.good ∧ ∀ r ∈ m.rows, r.good) (h0 : ¬ shP m) : qV m x = 4 := by unfold qV; rw [if_pos h]; exact if_neg h0
theorem uV {a b c : RW} {p : Option Addr} {k : Nat} : WL.good ⟨p, k, [a, b, c]⟩ ↔ a.good ∧ b.good ∧ c.good := by
 constructor
 ·intro h
  exact ⟨h a (by simp), h b (by simp), h c (by simp)⟩
 ·rintro ⟨h1, h2, h3⟩ e he
  simp only [List.mem_cons, List.not_mem_nil, or_false] at he
  rcases he with rfl | rfl | rfl <;> assumption
theorem kb30 : kb 30 4 = 7765 := by decide
inductive PRJ (m : WM) (a b c : RW) (cs : List Value) (I : List bL) : Int → Prop
 | one (h : ¬ (WL.good ⟨none, 0, [a, b, c]⟩ ∧ ∀ r ∈ m.rows, r.good)) (e : cs = pY) : PRJ m a b c cs I 1
 | four (h : WL.good ⟨none, 0, [a, b, c]⟩ ∧ ∀ r ∈ m.rows, r.good) (h0 : ¬ shP m) (e : cs = pY) : PRJ m a b c cs I 4
 | inf (M : MX) (x y z : RE) (em : m = M.raw) (ea : a = x.raw) (eb : b = y.raw) (ec : c = z.raw) (dm : M.fit 3 4) (h : xC M.q x.q y.q z.q 2 = 0) (e : cs = pY) : PRJ m a b c cs I 13
 | ok (M : MX) (x y z : RE) (em : m = M.raw) (ea : a = x.raw) (eb : b = y.raw) (ec : c = z.raw) (dm : M.fit 3 4) (h : xC M.q x.q y.q z.q 2 ≠ 0) (p : PE) (e : cs = eP p)
   (hp : p.v = ⟨xC M.q x.q y.q z.q 0 / xC M.q x.q y.q z.q 2, xC M.q x.q y.q z.q 1 / xC M.q x.q y.q z.q 2⟩) (hi : eT p 488 ∈ I) : PRJ m a b c cs I 0
inductive CTR (m : WM) (cs : List Value) (I : List bL) : Int → Prop
 | one (h : ¬ ∀ r ∈ m.rows, r.good) (e : cs = zT3) : CTR m cs I 1
 | four (h : ∀ r ∈ m.rows, r.good) (h0 : ¬ shP m) (e : cs = zT3) : CTR m cs I 4
 | inf (M : MX) (em : m = M.raw) (dm : M.fit 3 4) (h : ¬ ctrOk (oQ M.q 4)) (e : cs = zT3) : CTR m cs I 13
 | ok (M : MX) (em : m = M.raw) (dm : M.fit 3 4) (h : ctrOk (oQ M.q 4)) (a b c : RE) (e : cs = recs eR [a, b, c])
   (hp : [a.q, b.q, c.q] = (List.range 3).map (fun i => at2 (oQ M.q 4) 0 i / at2 (oQ M.q 4) 0 3)) (ha : bZ a 15530 ∈ I) (hb : bZ b 15530 ∈ I) (hc : bZ c 15530 ∈ I) : CTR m cs I 0
theorem aHO {M : MX} (h : shP M.raw) : M.fit 3 4 := by
 obtain ⟨h1, h2⟩ := h
 refine ⟨⟨by rw [← h1, M.raw_rows], fun r hr => ?_⟩, by omega, by omega⟩
 have := h2 r.raw (List.mem_map.2 ⟨r, hr, rfl⟩)
 rwa [show r.raw.es = r.es.map RE.raw from rfl, List.length_map] at this
section
variable {X : List Nat} {w0 : World} {M0 : List Ent} {I0 : List bL}
theorem aPX {m : WM} {a b c : RW} (sm : m.sht) (sa : a.brief ∧ b.brief ∧ c.brief) (hm : kW m ∈ I0) (ha : pO a ∈ I0) (hb : pO b ∈ I0) (hc : pO c ∈ I0) :
  CD Tryz.prog 24 [mvW m, .agg (recs eW [a, b, c]).toArray] X w0 M0 I0 (fun v M I => M0 = M ∧ Inc I I0 ∧ ∃ cs code, v = .tuple #[.agg cs.toArray, .int .i64 code] ∧ PRJ m a b c cs I code) := by
 refine kV (φ := (∀ r ∈ m.rows, ∀ e ∈ r.es, e.Fit) ∧ a.Fit ∧ b.Fit ∧ c.Fit) (fun w hw => ⟨Mem.fitM hm hw, Mem.fitR ha hw, Mem.fitR hb hw, Mem.fitR hc hw⟩) (fun hf => ?_)
 by_cases hg : WL.good ⟨none, 0, [a, b, c]⟩ ∧ ∀ r ∈ m.rows, r.good
 ·by_cases hs : shP m
  ·obtain ⟨g1, g2, g3⟩ := uV.1 hg.1
   obtain ⟨M, rfl⟩ := WM.good_raw hf.1 hg.2
   obtain ⟨x, rfl⟩ := RW.good_raw hf.2.1 g1
   obtain ⟨y, rfl⟩ := RW.good_raw hf.2.2.1 g2
   obtain ⟨z, rfl⟩ := RW.good_raw hf.2.2.2 g3
   have dm := aHO hs
   refine eD (Hv.shtX rfl sm hm) (eD (Hv.shtR rfl sa.1 (List.Mem.tail _ ha)) (eD (Hv.shtR rfl sa.2.1 (List.Mem.tail _ (List.Mem.tail _ hb))) (eD (Hv.shtR rfl sa.2.2 (List.Mem.tail _ (List.Mem.tail _ (List.Mem.tail _ hc)))) ?_)))
   have := aGQ (X := X) (w0 := w0) (M0 := M0) (I0 := bZ z 30 :: bZ y 30 :: bZ x 30 :: nU M 30 :: I0) (m := M) (a := x) (b := y) (c := z) (k := 30) (by omega) dm aB aB aB aB
   rw [lU]
   refine CD.mono this (fun v M1 I1 h => ?_)
   by_cases hz : xC M.q x.q y.q z.q 2 = 0
   ·rw [if_pos hz] at h
    obtain ⟨rfl, rfl, rfl⟩ := h
    exact ⟨rfl, aG, _, _, rfl, .inf M x y z rfl rfl rfl rfl dm hz rfl⟩
   ·rw [if_neg hz] at h
    obtain ⟨rfl, p, rfl, hp, rfl⟩ := h
    exact ⟨rfl, aG, _, _, rfl, .ok M x y z rfl rfl rfl rfl dm hz p rfl hp (List.Mem.head _)⟩
  ·have h4 := aMU hg hs
   refine CD.mono (xH sm.sml ⟨sa.1.sml, sa.2.1.sml, sa.2.2.sml⟩ hm ha hb hc (by rw [h4]; decide)) (fun v M1 I1 h => ?_)
   obtain ⟨rfl, rfl, rfl⟩ := h
   rw [h4]
   exact ⟨rfl, Inc.refl, _, _, rfl, .four hg hs rfl⟩
 ·have h1 := aLD hg
  refine CD.mono (xH sm.sml ⟨sa.1.sml, sa.2.1.sml, sa.2.2.sml⟩ hm ha hb hc (by rw [h1]; decide)) (fun v M1 I1 h => ?_)
  obtain ⟨rfl, rfl, rfl⟩ := h
  rw [h1]
  exact ⟨rfl, Inc.refl, _, _, rfl, .one hg rfl⟩
theorem aQP {m : WM} (sm : m.sht) (hm : kW m ∈ I0) :
  CD Tryz.prog 25 [mvW m] X w0 M0 I0 (fun v M I => M0 = M ∧ Inc I I0 ∧ ∃ cs code, v = .tuple #[.agg cs.toArray, .int .i64 code] ∧ CTR m cs I code) := by
 refine kV (φ := ∀ r ∈ m.rows, ∀ e ∈ r.es, e.Fit) (fun w hw => Mem.fitM hm hw) (fun hf => ?_)
 by_cases hg : ∀ r ∈ m.rows, r.good
 ·have hg2 : WL.good ⟨none, 0, []⟩ ∧ ∀ r ∈ m.rows, r.good := ⟨fun e he => by simp at he, hg⟩
  by_cases hs : shP m
  ·obtain ⟨M, rfl⟩ := WM.good_raw hf hg
   have dm := aHO hs
   refine eD (Hv.shtX rfl sm hm) ?_
   have := aJZ (X := X) (w0 := w0) (M0 := M0) (I0 := nU M 30 :: I0) (m := M) (k := 30) (K := 7765) kb30.symm (by omega) dm aB
   rw [lU]
   refine CD.mono this (fun v M1 I1 h => ?_)
   by_cases hz : ctrOk (oQ M.q 4)
   ·rw [if_pos hz] at h
    obtain ⟨rfl, a, b, c, rfl, hp, rfl⟩ := h
    exact ⟨rfl, aG, _, _, rfl, .ok M rfl dm hz a b c rfl hp aB aB aB⟩
   ·rw [if_neg hz] at h
    obtain ⟨rfl, rfl, rfl⟩ := h
    exact ⟨rfl, aG, _, _, rfl, .inf M rfl dm hz rfl⟩
  ·have h4 := aMU hg2 hs
   refine CD.mono (zK sm.sml hm (by rw [h4]; decide)) (fun v M1 I1 h => ?_)
   obtain ⟨rfl, rfl, rfl⟩ := h
   rw [h4]
   exact ⟨rfl, Inc.refl, _, _, rfl, .four hg hs rfl⟩
 ·have h1 : qV m ⟨none, 0, []⟩ = 1 := aLD (fun h => hg h.2)
  refine CD.mono (zK sm.sml hm (by rw [h1]; decide)) (fun v M1 I1 h => ?_)
  obtain ⟨rfl, rfl, rfl⟩ := h
  rw [h1]
  exact ⟨rfl, Inc.refl, _, _, rfl, .one hg rfl⟩
end
end Go.Proofs.YtgeagiikkeiioaaGreat
namespace Go.Proofs.YtgeagiikkeiioaaGreat
open Go Go.Fx
section
variable {X : List Nat} {w0 : World} {M0 : List Ent} {I0 : List bL}
theorem aEE {m : WM} {a b c : RW} (rm : m.rch) (ra : a.reach ∧ b.reach ∧ c.reach) (hm : kW m ∈ I0) (ha : pO a ∈ I0) (hb : pO b ∈ I0) (hc : pO c ∈ I0) (hs : ¬ (m.shN 5 4 ∧ WL.shN ⟨none, 0, [a, b, c]⟩ 3 4)) :
  CD Tryz.prog 4 [mvW m, .agg (recs eW [a, b, c]).toArray] X w0 M0 I0 (fun v M I => M0 = M ∧ I0 = I ∧ v = .bool true) := by
 have hSm := fun M0 I0 h => sG (X := X) (w0 := w0) (M0 := M0) (I0 := I0) (m := m) (n := 5) (g := 4) (by omega) rm h
 have hSl := fun p M0 I0 h => zW (X := X) (w0 := w0) (M0 := M0) (I0 := I0) (r := ⟨p, 3, [a, b, c]⟩) (n := 3) (g := 4) (by omega) ⟨by show 3 ≤ _; omega, fun e he => by
  simp only [List.mem_cons, List.not_mem_nil, or_false] at he
  rcases he with rfl | rfl | rfl
  ·exact ra.1
  ·exact ra.2.1
  ·exact ra.2.2⟩ h
 refine bJ Tryz.func4 rfl Tryz.ntmps4 rfl ?_
 refine aN ?_
 refine aI ?_
 (refine aY rfl rfl rfl ?_; intro b3; refine ⟨okF, ?_⟩)
 refine eF (cs := recs eW [a, b, c]) .here ?_
 refine gN (φ := mP ⟨some ⟨b3, 0, none⟩, 3, [a, b, c]⟩) (Hv.wl3 aB (Ok.mk _ _) aB aB aB) ?_
 repeat (refine aK ?_)
 (refine aA rfl (yY) rfl rfl ?_; rintro _ _ _ ⟨rfl, rfl, rfl⟩; refine ⟨okF, ?_⟩)
 repeat (refine aK ?_)
 by_cases h1 : m.shN 5 4
 ·have h2 : ∀ p, ¬ WL.shN ⟨p, 3, [a, b, c]⟩ 3 4 := fun p h => hs ⟨h1, h⟩
  rw [cO h1] at hSm
  have hSl2 := fun p M0 I0 h => (bC (h2 p)) ▸ hSl p M0 I0 h
  (refine aA rfl (hSm _ _ aB) rfl rfl ?_; rintro _ _ _ ⟨rfl, rfl, rfl⟩; refine ⟨okF, ?_⟩)
  repeat (refine aK ?_)
  refine aD rfl (fun _ => gK rfl) rfl rfl ?_
  (refine aA rfl (hSl2 (some ⟨b3, 0, none⟩) _ _ aB) rfl rfl ?_; rintro _ _ _ ⟨rfl, rfl, rfl⟩; refine ⟨okF, ?_⟩)
  repeat (refine aK ?_)
  refine aU (by first | exact .inl rfl | exact .inr rfl) rfl rfl _ _ aF aG (⟨rfl, rfl, rfl⟩)
 ·rw [bC h1] at hSm
  (refine aA rfl (hSm _ _ aB) rfl rfl ?_; rintro _ _ _ ⟨rfl, rfl, rfl⟩; refine ⟨okF, ?_⟩)
  repeat (refine aK ?_)
  refine aU (by first | exact .inl rfl | exact .inr rfl) rfl rfl _ _ aF aG (⟨rfl, rfl, rfl⟩)
end
end Go.Proofs.YtgeagiikkeiioaaGreat
namespace Go.Proofs.YtgeagiikkeiioaaGreat
open Go Go.Fx
theorem Hv.pwR {I : List bL} {p : PE} {k : Nat} (hk : k ≤ 1000000000) (h : eT p k ∈ I) : Hv I (uG [p.raw]) := ⟨fun X w hw => ⟨fun r hr => by
 rw [List.mem_singleton.1 hr]
 have := (hw _ h : IsP p k X w)
 exact ⟨RE.fit (by omega) this.x, RE.fit (by omega) this.y⟩⟩⟩
theorem PRJ.mono {m : WM} {a b c : RW} {cs : List Value} {I I' : List bL} {k : Int} (h : PRJ m a b c cs I k) (hI : Inc I' I) : PRJ m a b c cs I' k := by
 cases h with
 | one h e => exact .one h e
 | four h h0 e => exact .four h h0 e
 | inf M x y z em ea eb ec dm h e => exact .inf M x y z em ea eb ec dm h e
 | ok M x y z em ea eb ec dm h p e hp hi => exact .ok M x y z em ea eb ec dm h p e hp (hI.mem _ hi)
section
variable {X : List Nat} {w0 : World} {M0 : List Ent} {I0 : List bL}
theorem aLZ {m : WM} {a b c : RW} (rm : m.rch) (ra : a.reach ∧ b.reach ∧ c.reach) (hm : kW m ∈ I0) (ha : pO a ∈ I0) (hb : pO b ∈ I0) (hc : pO c ∈ I0) (hs : m.shN 5 4) (hs2 : WL.shN ⟨none, 0, [a, b, c]⟩ 3 4) :
  CD Tryz.prog 4 [mvW m, .agg (recs eW [a, b, c]).toArray] X w0 M0 I0 (fun v M I => M0 = M ∧ I0 = I ∧ v = .bool true) := by
 have hSm := fun M0 I0 h => sG (X := X) (w0 := w0) (M0 := M0) (I0 := I0) (m := m) (n := 5) (g := 4) (by omega) rm h
 have hSl := fun p M0 I0 h => zW (X := X) (w0 := w0) (M0 := M0) (I0 := I0) (r := ⟨p, 3, [a, b, c]⟩) (n := 3) (g := 4) (by omega) ⟨by show 3 ≤ _; omega, fun e he => by
  simp only [List.mem_cons, List.not_mem_nil, or_false] at he
  rcases he with rfl | rfl | rfl
  ·exact ra.1
  ·exact ra.2.1
  ·exact ra.2.2⟩ h
 have h2 : ∀ p, WL.shN ⟨p, 3, [a, b, c]⟩ 3 4 := fun p => hs2
 rw [cO hs] at hSm
 simp only [cO (h2 _)] at hSl
 have sm := hs.sht (by omega) (by omega)
 have sx := hs2.sht (by omega) (by omega)
 have sa : a.brief ∧ b.brief ∧ c.brief := ⟨sx.2 a (by simp), sx.2 b (by simp), sx.2 c (by simp)⟩
 have hP := fun M0 I0 h1 h2 h3 h4 => aPX (X := X) (w0 := w0) (M0 := M0) (I0 := I0) (m := m) (a := a) (b := b) (c := c) sm sa h1 h2 h3 h4
 have hC := fun M0 I0 h1 => aQP (X := X) (w0 := w0) (M0 := M0) (I0 := I0) (m := m) sm h1
 have hK := fun M0 I0 h => aJB (X := X) (w0 := w0) (M0 := M0) (I0 := I0) (m := m) sm.sml h
 have hV := fun p M0 I0 h => uH (X := X) (w0 := w0) (M0 := M0) (I0 := I0) (r := ⟨p, 3, [a, b, c]⟩) ⟨by show 3 ≤ _; omega, sx.sml.2⟩ h
 have hZ := fun M0 I0 => aCV (X := X) (w0 := w0) (M0 := M0) (I0 := I0)
 have hN := fun M0 I0 => aNA (X := X) (w0 := w0) (M0 := M0) (I0 := I0)
 refine bJ Tryz.func4 rfl Tryz.ntmps4 rfl ?_
 refine aN ?_
 refine aI ?_
 (refine aY rfl rfl rfl ?_; intro b3; refine ⟨okF, ?_⟩)
 refine eF (cs := recs eW [a, b, c]) .here ?_
 refine gN (φ := mP ⟨some ⟨b3, 0, none⟩, 3, [a, b, c]⟩) (Hv.wl3 aB (Ok.mk _ _) aB aB aB) ?_
 repeat (refine aK ?_)
 (refine aA rfl (yY) rfl rfl ?_; rintro _ _ _ ⟨rfl, rfl, rfl⟩; refine ⟨okF, ?_⟩)
 repeat (refine aK ?_)
 (refine aA rfl (hSm _ _ aB) rfl rfl ?_; rintro _ _ _ ⟨rfl, rfl, rfl⟩; refine ⟨okF, ?_⟩)
 repeat (refine aK ?_)
 refine aD rfl (fun _ => gK rfl) rfl rfl ?_
 (refine aA rfl (hSl (some ⟨b3, 0, none⟩) _ _ aB) rfl rfl ?_; rintro _ _ _ ⟨rfl, rfl, rfl⟩; refine ⟨okF, ?_⟩)
 repeat (first | (refine aJ ?_; first | refine fQ rfl rfl rfl ?_ | (refine fP rfl rfl ?_; refine eY rfl rfl rfl okF ?_) | refine gG rfl rfl (by omega) ?_ | refine gD rfl rfl (by omega) ?_) | (refine bO ?_; refine aD rfl (fun _ => dC rfl) rfl rfl ?_) | refine aD rfl (fun _ => bE rfl) rfl rfl ?_ | (refine gH ?_; first | refine aD rfl (fun _ => bT rfl rfl wF) rfl rfl ?_ | refine aD rfl (fun _ => bR rfl rfl wF) rfl rfl ?_ | refine aD rfl (fun _ => dV rfl rfl wF) rfl rfl ?_ | refine aD rfl (fun _ => dS rfl rfl (by omega) qF) rfl rfl ?_ | refine aD rfl (fun _ => dP rfl rfl (by omega) rfl) rfl rfl ?_ | refine aD rfl (fun _ => dB rfl rfl) rfl rfl ?_ | refine aD rfl (fun _ => dG rfl rfl) rfl rfl ?_ | refine aD rfl (fun _ => dD rfl rfl) rfl rfl ?_ | refine aD rfl (fun _ => jM rfl rfl) rfl rfl ?_ | refine aD rfl (fun _ => jX rfl rfl) rfl rfl ?_) | (refine bO ?_; first | refine aD rfl (fun _ => dL rfl wF) rfl rfl ?_) | (refine fU ?_; first | refine aD rfl (fun _ => cB rfl wF) rfl rfl ?_) | (refine fK ?_; first | refine aD rfl (fun _ => bS rfl) rfl rfl ?_ | refine aD rfl (fun _ => dH rfl rfl) rfl rfl ?_ | refine aD rfl (fun _ => cZ rfl rfl) rfl rfl ?_ | refine aD rfl (fun _ => dF rfl rfl rfl) rfl rfl ?_) | (refine fT ?_; first | refine gF rfl (by decide) rfl rfl ?_ | refine gY rfl (by decide) rfl rfl ?_) | (refine fZ ?_; first | refine gZ rfl rfl fG rfl rfl ?_ | refine iB dJ rfl rfl fG aB iD rfl rfl ?_ | refine gW dJ rfl rfl fG aB iD rfl rfl ?_ | refine aD rfl (fun _ => bN rfl rfl fG) rfl rfl ?_) | (refine bQ ?_; first | (apply dE; exact dJ; exact rfl; (focus ((repeat (first | with_reducible exact List.mem_cons_self | with_reducible assumption | with_reducible refine List.mem_cons_of_mem _ ?_)); done)); exact oJ; exact rfl; exact rfl) | (apply gT; exact dJ; exact rfl; (focus ((repeat (first | with_reducible exact List.mem_cons_self | with_reducible assumption | with_reducible refine List.mem_cons_of_mem _ ?_)); done)); exact oJ; exact rfl; exact rfl) | (apply iV; exact dJ; exact rfl; (focus ((repeat (first | with_reducible exact List.mem_cons_self | with_reducible assumption | with_reducible refine List.mem_cons_of_mem _ ?_)); done)); exact oJ; exact rfl; exact rfl) | (apply iT; exact dJ; exact rfl; (focus ((repeat (first | with_reducible exact List.mem_cons_self | with_reducible assumption | with_reducible refine List.mem_cons_of_mem _ ?_)); done)); exact oJ; exact rfl; exact rfl) | (apply iA; exact dJ; exact rfl; (focus ((repeat (first | with_reducible exact List.mem_cons_self | with_reducible assumption | with_reducible refine List.mem_cons_of_mem _ ?_)); done)); exact jU; exact rfl; exact rfl) | (apply fM; exact dJ; exact rfl; (focus ((repeat (first | with_reducible exact List.mem_cons_self | with_reducible assumption | with_reducible refine List.mem_cons_of_mem _ ?_)); done)); exact jU; exact rfl; exact rfl) | (apply gV; exact dJ; exact rfl; (focus ((repeat (first | with_reducible exact List.mem_cons_self | with_reducible assumption | with_reducible refine List.mem_cons_of_mem _ ?_)); done)); exact jU; exact rfl; exact rfl) | (apply iC; exact dJ; exact rfl; (focus ((repeat (first | with_reducible exact List.mem_cons_self | with_reducible assumption | with_reducible refine List.mem_cons_of_mem _ ?_)); done)); exact jU; exact rfl; exact rfl)) | (refine fV ?_; first | refine aD rfl (fun _ => bM rfl rfl) rfl rfl ?_ | refine aD rfl (fun _ => bG rfl) rfl rfl ?_) | (refine jI ?_; first | refine kT rfl rfl rfl kX stC rfl rfl ⟨okF, ?_⟩ | refine iU rfl rfl iP rT kX rH rfl rfl ⟨okF, ?_⟩))
 refine aM ?_
 refine fO ?_
 refine bK rfl ?_
 refine gJ ?_
 refine fO ?_
 obtain ⟨IB, hIB⟩ : ∃ IB, IB = mP ⟨some ⟨b3, 0, none⟩, 3, [a, b, c]⟩ :: bP (some ⟨b3, 0, none⟩) (recs eW [a, b, c]) :: I0 := ⟨_, rfl⟩
 refine oD (fun G M I => ∃ (b5 : Nat) (cs5 : List Value) (c5 : Int), PRJ m a b c cs5 I c5 ∧ G = [(0, mvW m), (3, .pointer (some ⟨b3, 0, none⟩)), (5, .pointer (some ⟨b5, 0, none⟩)), (6, .int .i64 c5)] ∧ M = .blk b5 cs5 47 :: M0 ∧ Inc I IB) ?_ ?_
 ·repeat (refine aK ?_)
  (refine aA rfl (hP _ _ aB aB aB aB) rfl rfl ?_; rintro _ _ _ ⟨rfl, hI, cs5, c5, rfl, hPJ⟩; refine ⟨okF, ?_⟩)
  rw [← hIB] at hI
  have hcs : cs5 = pY ∨ ∃ p, cs5 = eP p := by
   cases hPJ with
   | one h e => exact .inl e
   | four h h0 e => exact .inl e
   | inf M x y z em ea eb ec dm h e => exact .inl e
   | ok M x y z em ea eb ec dm h p e hp hi => exact .inr ⟨p, e⟩
  rcases hcs with rfl | ⟨p, rfl⟩
  ·repeat (refine aK ?_)
   (refine aC rfl rfl ?_; intro b5; refine ⟨okF, ?_⟩)
   repeat (refine aK ?_)
   refine aX _ _ _ aV aF Inc.refl ⟨b5, _, c5, hPJ, rfl, rfl, hI⟩
  ·repeat (refine aK ?_)
   (refine aC rfl rfl ?_; intro b5; refine ⟨okF, ?_⟩)
   repeat (refine aK ?_)
   refine aX _ _ _ aV aF Inc.refl ⟨b5, _, c5, hPJ, rfl, rfl, hI⟩
 rintro G M I1 ⟨b5, cs5, c5, hPJ1, rfl, rfl, hI1⟩
 have hm1 : kW m ∈ I1 := hI1.mem _ (by rw [hIB]; exact aB)
 refine oD (fun G M I => ∃ (b7 : Nat) (cs7 : List Value) (c7 : Int), PRJ m a b c cs5 I c5 ∧ CTR m cs7 I c7 ∧ G = [(0, mvW m), (3, .pointer (some ⟨b3, 0, none⟩)), (5, .pointer (some ⟨b5, 0, none⟩)), (6, .int .i64 c5), (7, .pointer (some ⟨b7, 0, none⟩)), (8, .int .i64 c7)] ∧ M = .blk b7 cs7 43 :: .blk b5 cs5 47 :: M0 ∧ Inc I IB) ?_ ?_
 ·repeat (refine aK ?_)
  (refine aA rfl (hC _ _ aB) rfl rfl ?_; rintro _ _ _ ⟨rfl, hI, cs7, c7, rfl, hCT⟩; refine ⟨okF, ?_⟩)
  have hPJ := hPJ1.mono hI
  have hI' := Inc.of (fun φ hp => hI.mem φ (hI1.mem φ hp))
  have hcs : cs7 = zT3 ∨ ∃ a b c, cs7 = recs eR [a, b, c] := by
   cases hCT with
   | one h e => exact .inl e
   | four h h0 e => exact .inl e
   | inf M em dm h e => exact .inl e
   | ok M em dm h a b c e hp ha hb hc => exact .inr ⟨a, b, c, e⟩
  rcases hcs with rfl | ⟨x, y, z, rfl⟩
  ·repeat (refine aK ?_)
   (refine aC rfl rfl ?_; intro b7; refine ⟨okF, ?_⟩)
   repeat (refine aK ?_)
   refine aX _ _ _ aV aF Inc.refl ⟨b7, _, c7, hPJ, hCT, rfl, rfl, hI'⟩
  ·repeat (refine aK ?_)
   (refine aC rfl rfl ?_; intro b7; refine ⟨okF, ?_⟩)
   repeat (refine aK ?_)
   refine aX _ _ _ aV aF Inc.refl ⟨b7, _, c7, hPJ, hCT, rfl, rfl, hI'⟩
 clear hPJ1 hI1 hm1
 rintro G M I1 ⟨b7, cs7, c7, hPJ, hCT, rfl, rfl, hI1⟩
 have hm1 : kW m ∈ I1 := hI1.mem _ (by rw [hIB]; exact aB)
 have hx1 : mP ⟨some ⟨b3, 0, none⟩, 3, [a, b, c]⟩ ∈ I1 := hI1.mem _ (by rw [hIB]; exact aB)
 have hb1 : bP (some ⟨b3, 0, none⟩) (recs eW [a, b, c]) ∈ I1 := hI1.mem _ (by rw [hIB]; exact aB)
 have ha1 : pO a ∈ I1 := hI1.mem _ (by rw [hIB]; exact aB)
 have hbb1 : pO b ∈ I1 := hI1.mem _ (by rw [hIB]; exact aB)
 have hc1 : pO c ∈ I1 := hI1.mem _ (by rw [hIB]; exact aB)
 have hI0 : Inc I1 I0 := Inc.of (fun φ hp => hI1.mem φ (by rw [hIB]; exact List.Mem.tail _ (List.Mem.tail _ hp)))
 have hgd : WL.good ⟨none, 0, [a, b, c]⟩ ↔ WL.good ⟨some ⟨b3, 0, none⟩, 3, [a, b, c]⟩ := Iff.rfl
 refine oD (fun G M I => G = [(0, mvW m), (7, .pointer (some ⟨b7, 0, none⟩)), (8, .int .i64 c7)] ∧ M = .blk b7 cs7 43 :: M0 ∧ I1 = I) ?_ ?_
 ·cases hPJ with
  | one hno e =>
   subst e
   by_cases hA : ∀ r ∈ m.rows, r.good
   ·have hB : ¬ WL.good ⟨none, 0, [a, b, c]⟩ := fun h => hno ⟨h, hA⟩
    rw [cO hA] at hK
    simp only [bC (show ¬ WL.good ⟨_, 3, [a, b, c]⟩ from hB)] at hV
    repeat (refine aK ?_)
    (refine aA rfl (hK _ _ aB) rfl rfl ?_; rintro _ _ _ ⟨rfl, rfl, rfl⟩; refine ⟨okF, ?_⟩)
    repeat (refine aK ?_)
    refine aD rfl (fun _ => gK rfl) rfl rfl ?_
    (refine aA rfl (hV (some ⟨b3, 0, none⟩) _ _ aB) rfl rfl ?_; rintro _ _ _ ⟨rfl, rfl, rfl⟩; refine ⟨okF, ?_⟩)
    repeat (refine aK ?_)
    (refine aA rfl (hN _ _) rfl rfl ?_; rintro _ _ _ ⟨rfl, rfl, rfl⟩; refine ⟨okF, ?_⟩)
    repeat (refine aK ?_)
    refine aX _ _ _ aV aF Inc.refl ⟨rfl, rfl, rfl⟩
   rw [bC hA] at hK
   repeat (refine aK ?_)
   (refine aA rfl (hK _ _ aB) rfl rfl ?_; rintro _ _ _ ⟨rfl, rfl, rfl⟩; refine ⟨okF, ?_⟩)
   repeat (refine aK ?_)
   (refine aA rfl (hN _ _) rfl rfl ?_; rintro _ _ _ ⟨rfl, rfl, rfl⟩; refine ⟨okF, ?_⟩)
   repeat (refine aK ?_)
   refine aX _ _ _ aV aF Inc.refl ⟨rfl, rfl, rfl⟩
  | four hg h0 e =>
   subst e
   rw [cO hg.2] at hK
   simp only [cO (show WL.good ⟨_, 3, [a, b, c]⟩ from hg.1)] at hV
   have hG := fun M0 I0 h => aCI (X := X) (w0 := w0) (M0 := M0) (I0 := I0) (m := m) (a := a) (b := b) (c := c) sm.sml h h0
   repeat (refine aK ?_)
   (refine aA rfl (hK _ _ aB) rfl rfl ?_; rintro _ _ _ ⟨rfl, rfl, rfl⟩; refine ⟨okF, ?_⟩)
   repeat (refine aK ?_)
   refine aD rfl (fun _ => gK rfl) rfl rfl ?_
   (refine aA rfl (hV (some ⟨b3, 0, none⟩) _ _ aB) rfl rfl ?_; rintro _ _ _ ⟨rfl, rfl, rfl⟩; refine ⟨okF, ?_⟩)
   repeat (refine aK ?_)
   (refine aA rfl (hG _ _ aB) rfl rfl ?_; rintro _ _ _ ⟨rfl, rfl, rfl⟩; refine ⟨okF, ?_⟩)
   repeat (refine aK ?_)
   (refine aC rfl rfl ?_; intro b9; refine ⟨okF, ?_⟩)
   repeat (refine aK ?_)
   (refine aA rfl (hN _ _) rfl rfl ?_; rintro _ _ _ ⟨rfl, rfl, rfl⟩; refine ⟨okF, ?_⟩)
   repeat (refine aK ?_)
   refine aX _ _ _ aV aF Inc.refl ⟨rfl, rfl, rfl⟩
  | inf M x y z em ea eb ec dm hz e =>
   subst e em ea eb ec
   rw [cO (show ∀ r ∈ M.raw.rows, r.good from fun r hr => by
    obtain ⟨s, hs, rfl⟩ := List.mem_map.1 hr
    exact s.raw_good), lU] at hK
   simp only [cO (show WL.good ⟨_, 3, [x.raw, y.raw, z.raw]⟩ from uV.2 ⟨x.raw_good, y.raw_good, z.raw_good⟩)] at hV
   have hG := fun M0 I0 h1 h2 h3 h4 => xN (X := X) (w0 := w0) (M0 := M0) (I0 := I0) (m := M) (a := x) (b := y) (c := z) (k := 30) (by omega) dm h1 h2 h3 h4
   simp only [if_pos hz] at hG
   refine fI (Hv.shtX rfl sm hm1) (fI (Hv.shtR rfl sa.1 (List.Mem.tail _ ha1)) (fI (Hv.shtR rfl sa.2.1 (List.Mem.tail _ (List.Mem.tail _ hbb1))) (fI (Hv.shtR rfl sa.2.2 (List.Mem.tail _ (List.Mem.tail _ (List.Mem.tail _ hc1)))) ?_)))
   rw [lU]
   repeat (refine aK ?_)
   (refine aA rfl (hK _ _ aB) rfl rfl ?_; rintro _ _ _ ⟨rfl, rfl, rfl⟩; refine ⟨okF, ?_⟩)
   repeat (refine aK ?_)
   refine aD rfl (fun _ => gK rfl) rfl rfl ?_
   (refine aA rfl (hV (some ⟨b3, 0, none⟩) _ _ aB) rfl rfl ?_; rintro _ _ _ ⟨rfl, rfl, rfl⟩; refine ⟨okF, ?_⟩)
   repeat (refine aK ?_)
   (refine aA rfl (hG _ _ aB aB aB aB) rfl rfl ?_; rintro _ _ _ ⟨rfl, rfl, rfl⟩; refine ⟨okF, ?_⟩)
   repeat (refine aK ?_)
   (refine aC rfl rfl ?_; intro b9; refine ⟨okF, ?_⟩)
   repeat (refine aK ?_)
   (refine aA rfl (hN _ _) rfl rfl ?_; rintro _ _ _ ⟨rfl, rfl, rfl⟩; refine ⟨okF, ?_⟩)
   repeat (refine aK ?_)
   refine aX _ _ _ aV aF aG ⟨rfl, rfl, rfl⟩
  | ok M x y z em ea eb ec dm hz p e hp hi =>
   subst e em ea eb ec
   rw [cO (show ∀ r ∈ M.raw.rows, r.good from fun r hr => by
    obtain ⟨s, hs, rfl⟩ := List.mem_map.1 hr
    exact s.raw_good), lU] at hK
   simp only [cO (show WL.good ⟨_, 3, [x.raw, y.raw, z.raw]⟩ from uV.2 ⟨x.raw_good, y.raw_good, z.raw_good⟩)] at hV
   have hG := fun M0 I0 h1 h2 h3 h4 => xN (X := X) (w0 := w0) (M0 := M0) (I0 := I0) (m := M) (a := x) (b := y) (c := z) (k := 30) (by omega) dm h1 h2 h3 h4
   simp only [if_neg hz] at hG
   refine fI (Hv.shtX rfl sm hm1) (fI (Hv.shtR rfl sa.1 (List.Mem.tail _ ha1)) (fI (Hv.shtR rfl sa.2.1 (List.Mem.tail _ (List.Mem.tail _ hbb1))) (fI (Hv.shtR rfl sa.2.2 (List.Mem.tail _ (List.Mem.tail _ (List.Mem.tail _ hc1)))) ?_)))
   refine vV (fun w hw => Mem.pureP (Hv.mem (show eT p 488 ∈ _ by exact aB)) (by omega) hw) (fun hsmall => ?_)
   have hVl := fun q M0 I0 h1 h2 => aJD (X := X) (w0 := w0) (M0 := M0) (I0 := I0) (q := q) (c := 1) (m := 1) (ps := [p.raw]) rfl (by simp) (fun r hr => by rw [List.mem_singleton.1 hr]; exact hsmall) h1 h2
   simp only [cO (show ∀ q ∈ [p.raw], q.good from fun r hr => by rw [List.mem_singleton.1 hr]; exact p.raw_good)] at hVl
   rw [lU]
   repeat (refine aK ?_)
   (refine aA rfl (hK _ _ aB) rfl rfl ?_; rintro _ _ _ ⟨rfl, rfl, rfl⟩; refine ⟨okF, ?_⟩)
   repeat (refine aK ?_)
   refine aD rfl (fun _ => gK rfl) rfl rfl ?_
   (refine aA rfl (hV (some ⟨b3, 0, none⟩) _ _ aB) rfl rfl ?_; rintro _ _ _ ⟨rfl, rfl, rfl⟩; refine ⟨okF, ?_⟩)
   repeat (refine aK ?_)
   (refine aA rfl (hG _ _ aB aB aB aB) rfl rfl ?_; rintro _ _ _ ⟨rfl, p2, rfl, hp2, rfl⟩; refine ⟨okF, ?_⟩)
   have hSm := fun M0 I0 h1 h2 => aDD (X := X) (w0 := w0) (M0 := M0) (I0 := I0) (a := p) (b := p2) (k := 488) (m := 16 * 30 + 8) (by omega) h1 h2
   simp only [cO (show p.v = p2.v by rw [hp, hp2])] at hSm
   repeat (refine aK ?_)
   (refine aC rfl rfl ?_; intro b9; refine ⟨okF, ?_⟩)
   repeat (refine aK ?_)
   (refine dM (cs := recs ePW [p.raw]) ([pv p]) rfl rfl (by intro v hv; repeat (first | exact absurd hv (List.not_mem_nil) | (rcases List.mem_cons.1 hv with rfl | hv; · rfl))) (by omega) rfl rfl rfl ?_; intro bs; refine ⟨okF, ?_⟩)
   refine eF (b := bs) oZ ?_
   (refine aA rfl (hVl _ _ _ (List.Mem.head _) (Hv.pwR (k := 488) (by omega) aB)) rfl rfl ?_; rintro _ _ _ ⟨rfl, rfl, rfl⟩; refine ⟨okF, ?_⟩)
   repeat (refine aK ?_)
   (refine aA rfl (hSm _ _ (Hv.mem aB) (Hv.mem aB)) rfl rfl ?_; rintro _ _ _ ⟨rfl, rfl, rfl⟩; refine ⟨okF, ?_⟩)
   repeat (refine aK ?_)
   refine aX _ _ _ aV aF aG ⟨rfl, rfl, rfl⟩
 rintro G M _ ⟨rfl, rfl, rfl⟩
 cases hCT with
 | one hno e =>
   subst e
   rw [bC hno] at hK
   repeat (refine aK ?_)
   (refine aA rfl (hK _ _ aB) rfl rfl ?_; rintro _ _ _ ⟨rfl, rfl, rfl⟩; refine ⟨okF, ?_⟩)
   repeat (refine aK ?_)
   (refine aA rfl (hZ _ _) rfl rfl ?_; rintro _ _ _ ⟨rfl, rfl, rfl⟩; refine ⟨okF, ?_⟩)
   repeat (refine aK ?_)
   refine aU (.inl rfl) rfl rfl M0 I0 aF hI0 ⟨rfl, rfl, rfl⟩
 | four hg h0 e =>
   subst e
   rw [cO hg] at hK
   have hG := fun M0 I0 h => aDU (X := X) (w0 := w0) (M0 := M0) (I0 := I0) (m := m) sm.sml h h0
   repeat (refine aK ?_)
   (refine aA rfl (hK _ _ aB) rfl rfl ?_; rintro _ _ _ ⟨rfl, rfl, rfl⟩; refine ⟨okF, ?_⟩)
   repeat (refine aK ?_)
   (refine aA rfl (hG _ _ aB) rfl rfl ?_; rintro _ _ _ ⟨rfl, rfl, rfl⟩; refine ⟨okF, ?_⟩)
   repeat (refine aK ?_)
   (refine aC rfl rfl ?_; intro b11; refine ⟨okF, ?_⟩)
   repeat (refine aK ?_)
   (repeat refine aN ?_); refine eX (.blk b11 zT3 43 :: .blk b7 zT3 43 :: M0) (I1) [0, 1, 2, 3, 4, 5, 6, 7, 8, 9, 10, 11, 12, 13, 14, 15, 16, 17, 18, 19, 20, 21, 22, 23, 24, 25, 26, 27, 28, 29, 30, 31] [4, 4, 4, 4, 4, 4, 3, 3, 3, 0, 3, 3, 3, 3, 2, 3, 2, 0, 2, 1, 2, 1, 0, 1, 0, 1, 0, 0, 0, 0, 0, 0] aF aG mixed (by kernel_rfl) ?_
   repeat (refine aK ?_)
   (refine aA rfl (hZ _ _) rfl rfl ?_; rintro _ _ _ ⟨rfl, rfl, rfl⟩; refine ⟨okF, ?_⟩)
   repeat (refine aK ?_)
   (refine aA rfl (hZ _ _) rfl rfl ?_; rintro _ _ _ ⟨rfl, rfl, rfl⟩; refine ⟨okF, ?_⟩)
   repeat (refine aK ?_)
   (refine aA rfl (hZ _ _) rfl rfl ?_; rintro _ _ _ ⟨rfl, rfl, rfl⟩; refine ⟨okF, ?_⟩)
   repeat (refine aK ?_)
   refine aU (.inl rfl) rfl rfl M0 I0 aF hI0 ⟨rfl, rfl, rfl⟩
 | inf M em dm hz e =>
   subst e em
   rw [cO (show ∀ r ∈ M.raw.rows, r.good from fun r hr => by
    obtain ⟨s, hs, rfl⟩ := List.mem_map.1 hr
    exact s.raw_good), lU] at hK
   have hG := fun M0 I0 h1 => yL (X := X) (w0 := w0) (M0 := M0) (I0 := I0) (m := M) (k := 30) (K := 7765) kb30.symm (by omega) dm h1
   simp only [if_neg hz] at hG
   refine fI (Hv.shtX rfl sm hm1) ?_
   rw [lU]
   repeat (refine aK ?_)
   (refine aA rfl (hK _ _ aB) rfl rfl ?_; rintro _ _ _ ⟨rfl, rfl, rfl⟩; refine ⟨okF, ?_⟩)
   repeat (refine aK ?_)
   (refine aA rfl (hG _ _ aB) rfl rfl ?_; rintro _ _ _ ⟨rfl, rfl, rfl⟩; refine ⟨okF, ?_⟩)
   repeat (refine aK ?_)
   (refine aC rfl rfl ?_; intro b11; refine ⟨okF, ?_⟩)
   repeat (refine aK ?_)
   (repeat refine aN ?_); refine eX (.blk b11 zT3 43 :: .blk b7 zT3 43 :: M0) (I1) [0, 1, 2, 3, 4, 5, 6, 7, 8, 9, 10, 11, 12, 13, 14, 15, 16, 17, 18, 19, 20, 21, 22, 23, 24, 25, 26, 27, 28, 29, 30, 31] [4, 4, 4, 4, 4, 4, 3, 3, 3, 0, 3, 3, 3, 3, 2, 3, 2, 0, 2, 1, 2, 1, 0, 1, 0, 1, 0, 0, 0, 0, 0, 0] aF aG mixed (by kernel_rfl) ?_
   repeat (refine aK ?_)
   (refine aA rfl (hZ _ _) rfl rfl ?_; rintro _ _ _ ⟨rfl, rfl, rfl⟩; refine ⟨okF, ?_⟩)
   repeat (refine aK ?_)
   (refine aA rfl (hZ _ _) rfl rfl ?_; rintro _ _ _ ⟨rfl, rfl, rfl⟩; refine ⟨okF, ?_⟩)
   repeat (refine aK ?_)
   (refine aA rfl (hZ _ _) rfl rfl ?_; rintro _ _ _ ⟨rfl, rfl, rfl⟩; refine ⟨okF, ?_⟩)
   repeat (refine aK ?_)
   refine aU (.inl rfl) rfl rfl M0 I0 aF hI0.wk ⟨rfl, rfl, rfl⟩
 | ok M em dm hz a1 b1 c1 e hp ha2 hb2 hc2 =>
   subst e em
   rw [cO (show ∀ r ∈ M.raw.rows, r.good from fun r hr => by
    obtain ⟨s, hs, rfl⟩ := List.mem_map.1 hr
    exact s.raw_good), lU] at hK
   have hG := fun M0 I0 h1 => yL (X := X) (w0 := w0) (M0 := M0) (I0 := I0) (m := M) (k := 30) (K := 7765) kb30.symm (by omega) dm h1
   simp only [if_pos hz] at hG
   refine fI (Hv.shtX rfl sm hm1) ?_
   rw [lU]
   repeat (refine aK ?_)
   (refine aA rfl (hK _ _ aB) rfl rfl ?_; rintro _ _ _ ⟨rfl, rfl, rfl⟩; refine ⟨okF, ?_⟩)
   repeat (refine aK ?_)
   (refine aA rfl (hG _ _ aB) rfl rfl ?_; rintro _ _ _ ⟨rfl, a4, b4, c4, rfl, hp2, rfl⟩; refine ⟨okF, ?_⟩)
   repeat (refine aK ?_)
   (refine aC rfl rfl ?_; intro b11; refine ⟨okF, ?_⟩)
   repeat (refine aK ?_)
   have hS := fun p q M0 I0 h1 h2 => aCU (X := X) (w0 := w0) (M0 := M0) (I0 := I0) (x := ⟨p, 3, [a1, b1, c1]⟩) (y := ⟨q, 3, [a4, b4, c4]⟩) (u := 15530) (m := 15530) (by omega) (by show 3 ≤ _; omega) (by show 3 ≤ _; omega) h1 h2
   have heq : ∀ p q, (⟨p, 3, [a1, b1, c1]⟩ : RL).q = (⟨q, 3, [a4, b4, c4]⟩ : RL).q := fun p q => hp.trans hp2.symm
   simp only [cO (heq _ _)] at hS
   refine aFK (fun _ hw => hw.freezeB (b := b11) .here) ?_
   refine aFK (fun _ hw => hw.freezeB (b := b7) .here) ?_
   refine fI (φ := mF ⟨some ⟨b7, 0, none⟩, 3, [a1, b1, c1]⟩ 15530) (Hv.l3 aB (Ok.mk _ _) aB aB aB) ?_
   refine fI (φ := mF ⟨some ⟨b11, 0, none⟩, 3, [a4, b4, c4]⟩ 15530) (Hv.l3 aB (Ok.mk _ _) aB aB aB) ?_
   (repeat refine aN ?_); refine iQ [0, 1, 2, 3, 4, 5, 6, 7, 8, 9, 10, 11, 12, 13, 14, 15, 16, 17, 18, 19, 20, 21, 22, 23, 24, 25, 26, 27, 28, 29, 30, 31] [4, 4, 4, 4, 4, 4, 3, 3, 3, 0, 3, 3, 3, 3, 2, 3, 2, 0, 2, 1, 2, 1, 0, 1, 0, 1, 0, 0, 0, 0, 0, 0] mixed (by kernel_rfl) ?_
   repeat (refine aK ?_)
   refine aD rfl (fun _ => gK rfl) rfl rfl ?_
   refine aD rfl (fun _ => gK rfl) rfl rfl ?_
   (refine aA rfl (hS (some ⟨b7, 0, none⟩) (some ⟨b11, 0, none⟩) _ _ (Hv.mem aB) (Hv.mem aB)) rfl rfl ?_; rintro _ _ _ ⟨rfl, rfl, rfl⟩; refine ⟨okF, ?_⟩)
   repeat (refine aK ?_)
   refine aU (.inl rfl) rfl rfl M0 I0 aF (Inc.of (fun φ hp => by repeat (first | exact hI0.mem φ hp | refine List.Mem.tail _ ?_))) ⟨rfl, rfl, rfl⟩
end
end Go.Proofs.YtgeagiikkeiioaaGreat
namespace Go.Proofs.YtgeagiikkeiioaaGreat
open Go Go.Fx
open Go.ChangeShapes Go.WideShapes Go.RowKit Go.ChangeAt
section
variable {H : Type} {enc : TypeId × Value → H} {W : World}
theorem aJN {base : Nat} {v : Value} {d : DataW H} {p : List MemPlace} (hv : Value.okWide Tryz.prog W .any base 43 v) (h : DataW.Trod enc Tryz.prog W 0 (fun _ => true) true 43 v d p) (hw : ∀ x ∈ d.weights Tryz.prog 43, x ≤ reachBytes) :
  ∃ p0 p1 p2 : RW, v = .agg (recs eW [p0, p1, p2]).toArray ∧ (IsW p0 [] W ∧ p0.reach) ∧ (IsW p1 [] W ∧ p1.reach) ∧ (IsW p2 [] W ∧ p2.reach) := by
 simp only [Value.okWide, Tryz.underlying43] at hv
 obtain ⟨cs, rfl, hsz, hrow⟩ := hv
 obtain ⟨fuel, hf⟩ := h
 have hc4 : Tryz.prog.cellsOf 42 = 4 := by kernel_rfl
 have hc12 : Tryz.prog.cellsOf 43 = 12 := by kernel_rfl
 obtain ⟨xs, n, _, hy, hl, hxl, hx⟩ := DataW.trod_array Tryz.underlying43 (show DataW.trod enc Tryz.prog W 0 (fun _ => true) true fuel 43 cs.toList = some (d, p) from hf)
 injection hy with hd hp
 subst hd
 rw [hc12] at hl
 have each : ∀ i : Nat, i < 3 → ∃ q : RW, (cs.toList.drop (i * 4)).take 4 = eW q ∧ IsW q [] W ∧ q.reach := fun i hi => by
  have h1 := hx i hi
  rw [hc4, List.getElem?_eq_getElem (by omega)] at h1
  refine aDC h1 (fun x hxw => hw x ?_)
  simp only [DataW.weights, Tryz.underlying43]
  exact oU (List.mem_map.2 ⟨_, List.getElem_mem _, rfl⟩) hxw
 obtain ⟨p0, e0, i0⟩ := each 0 (by omega)
 obtain ⟨p1, e1, i1⟩ := each 1 (by omega)
 obtain ⟨p2, e2, i2⟩ := each 2 (by omega)
 refine ⟨p0, p1, p2, ?_, i0, i1, i2⟩
 have e : cs.toList = eW p0 ++ (eW p1 ++ eW p2) := by
  rw [← e0, ← e1, ← e2]
  simp only [Nat.zero_mul, List.drop_zero, Nat.one_mul]
  rw [List.take_of_length_le (l := cs.toList.drop (2 * 4)) (by simp at hl ⊢; omega)]
  have a1 : (cs.toList.drop 4).take 4 ++ cs.toList.drop (2 * 4) = cs.toList.drop 4 := by
   have := List.take_append_drop 4 (cs.toList.drop 4)
   rwa [List.drop_drop] at this
  rw [a1, List.take_append_drop]
 rw [show cs = cs.toList.toArray by simp, e]
 rfl
end
section
variable {X : List Nat} {w0 : World} {M0 : List Ent} {I0 : List bL}
theorem LMats {m : WM} {a b c : RW} (rm : m.rch) (ra : a.reach ∧ b.reach ∧ c.reach) (hm : kW m ∈ I0) (ha : pO a ∈ I0) (hb : pO b ∈ I0) (hc : pO c ∈ I0) :
  CD Tryz.prog 4 [mvW m, .agg (recs eW [a, b, c]).toArray] X w0 M0 I0 (fun v M I => M0 = M ∧ I0 = I ∧ v = .bool true) := by
 by_cases hs : m.shN 5 4 ∧ WL.shN ⟨none, 0, [a, b, c]⟩ 3 4
 ·exact aLZ rm ra hm ha hb hc hs.1 hs.2
 ·exact aEE rm ra hm ha hb hc hs
end
end Go.Proofs.YtgeagiikkeiioaaGreat

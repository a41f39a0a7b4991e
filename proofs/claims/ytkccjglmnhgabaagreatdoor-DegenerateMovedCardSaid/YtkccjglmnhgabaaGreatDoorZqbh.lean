/- span.add of the program: heights, facts, the first half of its walk (the row reduced). -/
import Derived.Test.YtkccjglmnhgabaaGreatDoorZqbf
import Derived.Test.YtkccjglmnhgabaaGreatDoorZqbg
import Derived.Test.YtkccjglmnhgabaaGreatDoorZqam
set_option linter.unusedSimpArgs false
set_option linter.unusedVariables false
set_option maxRecDepth 100000
set_option maxHeartbeats 4000000
namespace Go.Proofs.YtkccjglmnhgabaaGreatDoor
open Go Go.Fx
structure AllK (rows : List RL) (k : Nat) (X : List Nat) (w : World) : Prop where
 go : ∀ i : Nat, i < rows.length → IsL (gt rows (i : Int)) (2 * kb k i) X w
abbrev allK (rows : List RL) (k : Nat) : bB := AllK rows k
instance allK.gd (rows : List RL) (k : Nat) : Fx.Good (AllK rows k) := ⟨fun X Y w w' h he hY => ⟨fun i hi => Fx.Good.go (φ := IsL _ _) X Y w w' (h.go i hi) he hY⟩⟩
theorem Hv.nilK {I : List bB} {k : Nat} : Hv I (allK [] k) := ⟨fun X w _ => ⟨fun i hi => by simp at hi⟩⟩
theorem Hv.rowK {I : List bB} {rows : List RL} {k i : Nat} (h : allK rows k ∈ I) (hi : i < rows.length) : Hv I (nV (gt rows (i : Int)) (2 * kb k i)) := ⟨fun X w hw => (hw _ h : AllK rows k X w).go i hi⟩
theorem Hv.snocK {I : List bB} {rows : List RL} {r : RL} {k : Nat} (h1 : allK rows k ∈ I) (h2 : nV r (2 * kb k rows.length) ∈ I) : Hv I (allK (rows ++ [r]) k) := ⟨fun X w hw => ⟨fun i hi => by
 by_cases e : i < rows.length
 ·have : gt (rows ++ [r]) (i : Int) = gt rows (i : Int) := by rw [dH (by simp; omega), dH e, List.getElem_append_left e]
  rw [this]; exact (hw _ h1 : AllK rows k X w).go i e
 ·obtain rfl : i = rows.length := by simp at hi; omega
  have : gt (rows ++ [r]) ((rows.length : Nat) : Int) = r := by rw [dH (by simp)]; simp
  rw [this]; exact hw _ h2⟩⟩
theorem aLM {s l : List Rat} : aLN 0 s l = l := by
 apply pI aAG
 intro t ht
 rw [aAG] at ht
 rw [wS ht]; grind
theorem aFJ {sp : Sp} {p : Nat × List Rat} {l : List Rat} : sQ (sp ++ [p]) l = rdS p (sQ sp l) := by simp [sQ]
theorem aMP {sp : Sp} {i : Nat} (h : i < sp.length) : sp.take (i + 1) = sp.take i ++ [(spP sp i, spR sp i)] := by
 rw [List.take_add_one]
 congr 1
 simp [spP, spR, List.getD, h]
theorem nP {pv : List Nat} : (zs pv).length = pv.length := by simp
/- ---------- Clone of []fiducial/api.Rat ---------- -/
section
variable {X : List Nat} {w0 : World} {M0 : List Ent} {I0 : List bB}
theorem aMC {q : Option Addr} {a : List RE} {c : Nat} (hn : (a.length : Int) * 64 ≤ 140737488355328) (hok : Ok q ∨ (a.length = 0 ∧ c = 0)) (ha : aW q (recs eR a) ∈ I0) :
  CD Tryz.prog 62 [.slice q a.length c] X w0 M0 I0 (fun v M I => I0 = I ∧ ∃ q' c', v = .slice q' a.length c' ∧ M = .row q' a.length c' (recs eR a) 46 4 :: M0) := by
 refine bC Tryz.func62 rfl Tryz.ntmps62 rfl ?_
 repeat (refine aK ?_)
 refine aC rfl (fun _ => yU rfl) rfl rfl ?_
 cases q with
 | some ad =>
  repeat (refine aK ?_)
  (refine aP (cs := recs eR []) ([]) rfl rfl (by intro v hv; repeat (first | exact absurd hv (List.not_mem_nil) | (rcases List.mem_cons.1 hv with rfl | hv; · rfl))) (by omega) rfl rfl rfl ?_; intro b1; refine ⟨okF, ?_⟩)
  repeat (refine aK ?_)
  refine jS (mm := 0) 4 jZ rfl (by omega) ?_
  refine dC (xs := []) (ys := a) 0 rfl rfl rfl (Src.imm aB hok) (by decide) rfl (by simp; omega) (by simp; omega) rfl rfl ?_
  intro a2 c2
  refine ⟨okF, ?_⟩
  repeat (refine aK ?_)
  refine aH (by first | exact .inl rfl | exact .inr rfl) rfl rfl _ _ aF aD (⟨rfl, a2, c2, by simp, by simp⟩)
 | none =>
  obtain ⟨h0, rfl⟩ : a.length = 0 ∧ c = 0 := hok.resolve_left (fun h => by obtain ⟨b, o, e⟩ := h.cases; cases e)
  have hnil : a = [] := List.eq_nil_of_length_eq_zero h0
  subst hnil
  repeat (refine aK ?_)
  refine aJV 46 4 ?_
  refine aH (by first | exact .inl rfl | exact .inr rfl) rfl rfl _ _ aF aD (⟨rfl, none, 0, rfl, rfl⟩)
end
section
variable {X : List Nat} {w0 : World} {M0 M1 : List Ent} {I0 : List bB}
theorem aSS {e : RE} {k : Nat} (hk : k ≤ 400000000000) (he : Hv I0 (fB e k)) : CD Tryz.prog 66 [rv e] X w0 M0 I0 (fun v M I => M0 = M ∧ I0 = I ∧ v = .bool (B (e.q ≠ 0))) := by
 refine eQ (φ := fB e k) he ?_
 have hS := fun M0 I0 h => mF (X := X) (w0 := w0) (M0 := M0) (I0 := I0) (e := e) (k := k) (by omega) h
 refine bC Tryz.func66 rfl Tryz.ntmps66 rfl ?_
 refine aJ ?_
 refine aL ?_
 (refine aX rfl rfl rfl ?_; intro b1; refine ⟨okF, ?_⟩)
 repeat (refine aK ?_)
 (refine aA rfl (hS _ _ (Hv.mem aB)) rfl rfl ?_; rintro _ _ _ ⟨rfl, rfl, rfl⟩; refine ⟨okF, ?_⟩)
 repeat (refine aK ?_)
 refine aH (by first | exact .inl rfl | exact .inr rfl) rfl rfl _ _ aF aD (⟨rfl, rfl, congrArg Value.bool (gZ (not_congr (iE _)))⟩)
theorem aRP {l : List Rat} {i : Nat} (hi : i < l.length) (h : l.getD i 0 ≠ 0) (h0 : ∀ j, j < i → l.getD j 0 = 0) : mY l = i := by
 rcases Nat.lt_trichotomy (mY l) i with hl | hl | hl
 ·exact absurd (h0 _ hl) (wZ (by omega))
 ·exact hl
 ·have := List.not_of_lt_findIdx (xs := l) (p := fun x => decide (x ≠ 0)) hl
  have e : l.getD i 0 = l[i] := by simp [List.getD, hi]
  rw [e] at h
  simp [h] at this
theorem aSF {l : List Rat} (h0 : ∀ j, j < l.length → l.getD j 0 = 0) : ¬ mY l < l.length := fun h => wZ h (h0 _ h)
theorem _root_.Go.Fx.Mem.lendF {X : List Nat} {w0 w : World} {M : List Ent} {I I2 : List bB} {φ : bB} (hm : φ ∈ I) (hw : Mem X w0 M I w) (h : Mem [] w [] I2 w) : Mem [] w [] (φ :: I2) w :=
 haveI := (hw.imm φ hm).1
 h.add (φ := φ) ((hw.imm φ hm).1.go _ _ w w (hw.imm φ hm).2 (Ext.refl _ _) (fun y hy => by simp [muts] at hy))
theorem aLV {es : List RE} {tl : List Value} {bq cq K n : Nat} (hl : es.length = n) (hn : n ≤ 1000) (hK : K ≤ 400000000000) (hm : .blk bq (recs eR es ++ tl) 46 ∈ M0) (ha : dV es K ∈ I0) :
  CD Tryz.prog 65 [.slice (some ⟨bq, 0, none⟩) n cq, .func (.func 66) #[] #[]] X w0 M0 I0 (fun v M I => M0 = M ∧ I0 = I ∧ v = .int .i64 (if mY (qs es) < n then ((mY (qs es) : Nat) : Int) else -1)) := by
 subst hl
 refine CD.mono (CD.lend [aW (some ⟨bq, 0, none⟩) (recs eR es), dV es K] (fun w hw => Mem.lendBT hm hw (Mem.lendF ha hw hw.imm0)) (fun W => (aOQ (X := []) (w0 := W) (M0 := []) (I0 := [aW (some ⟨bq, 0, none⟩) (recs eR es), dV es K]) (q := some ⟨bq, 0, none⟩) (a := es) (c := cq) (g := 66) (fs := #[]) (cs := #[]) (fun e : RE => e.q ≠ 0) (by omega) (List.Mem.head _) (fun i hi => aSS (k := K) hK (Hv.all (List.Mem.tail _ (List.Mem.head _)) (by omega) (Nat.le_refl _)))).val)) ?_
 rintro v M I ⟨rfl, rfl, r, rfl, h⟩
 refine ⟨rfl, rfl, ?_⟩
 have hq : (qs es).length = es.length := by simp [qs]
 rcases h with ⟨i, hi, rfl, h1, h2⟩ | ⟨rfl, h2⟩
 ·have e : mY (qs es) = i := aRP (by omega) (by rw [kF hi]; exact h1) (fun j hj => by rw [kF (by omega)]; exact Decidable.of_not_not (h2 j hj))
  rw [e, if_pos hi]
 ·have e : ¬ mY (qs es) < es.length := by rw [← hq]; exact aSF (fun j hj => by rw [kF (by omega)]; exact Decidable.of_not_not (h2 j (by omega)))
  rw [if_neg e]
theorem aDM {p n u : Nat} {x : RL} {a b : Option Addr} {c c2 : Nat} {rows : List RL} {pz : List Int} {sp : Sp} (hn : 1 ≤ n ∧ n ≤ 100) (hm : sp.length ≤ 1000) (hu : 4 * kb u sp.length + 2 ≤ 400000000000) (hl : x.es.length = n) (hI : SpI n sp) (hr : rows.map RL.q = mtS sp) (hz : pz = zs (pvS sp)) (hx : nV x u ∈ I0) (ha : allK rows u ∈ I0) :
  CD Tryz.prog 33 [.pointer (some ⟨p, 0, none⟩), lv x] X w0 (.row a rows.length c (recs eL rows) 48 1 :: .row b pz.length c2 (recs eZ pz) 3 1 :: .blk p [.slice a rows.length c, .slice b pz.length c2] 74 :: M1) I0
   (fun v M I => ∃ (a1 b1 : Option Addr) (c1 d1 : Nat) (rows1 : List RL) (pz1 : List Int), v = .bool (adS sp x.q).1 ∧ M = .row a1 rows1.length c1 (recs eL rows1) 48 1 :: .row b1 pz1.length d1 (recs eZ pz1) 3 1 :: .blk p [.slice a1 rows1.length c1, .slice b1 pz1.length d1] 74 :: M1 ∧ I = allK rows1 u :: I0 ∧ rows1.map RL.q = mtS (adS sp x.q).2 ∧ pz1 = zs (pvS (adS sp x.q).2)) := by
 have lr : rows.length = sp.length := by have := congrArg List.length hr; simpa [mtS] using this
 have lz : pz.length = sp.length := by rw [hz, nP, oD]
 have hpz : ∀ i : Nat, i < sp.length → gt pz (i : Int) = ((spP sp i : Nat) : Int) := fun i hi => by rw [hz, aKU (by rw [oD]; exact hi), aNV hi]
 have hpl : ∀ i : Nat, i < sp.length → spP sp i < n := fun i hi => hI.piv i hi
 have hrq : ∀ i : Nat, i < sp.length → (gt rows (i : Int)).q = spR sp i := fun i hi => by
  have h1 : (rows.map RL.q).getD i [] = (mtS sp).getD i [] := by rw [hr]
  have h2 : (rows.map RL.q).getD i [] = (gt rows (i : Int)).q := by rw [dH (by omega)]; simp [List.getD, show i < rows.length by omega]
  have h3 : (mtS sp).getD i [] = spR sp i := xL hi
  rw [← h2, h1, h3]
 have hrl : ∀ i : Nat, i < sp.length → (gt rows (i : Int)).es.length = n := fun i hi => by
  have := hI.len i hi
  rw [← hrq i hi] at this
  simpa [RL.q, qs] using this
 have lq : x.q.length = n := by rw [← hl]; show (qs _).length = _; simp [qs]
 refine oL (φ := Cap x.p x.es.length x.c) (fun w hw => ((hw.imm _ hx).2 : IsL x u _ w).cap) (fun hcap => ?_)
 refine eQ (φ := allK rows u) (Hv.mem ha) ?_
 refine eQ (φ := dV x.es u) (Hv.lall (List.Mem.tail _ hx)) ?_
 have hcl := fun M0 I0 h => aMC (X := X) (w0 := w0) (M0 := M0) (I0 := I0) (q := x.p) (a := x.es) (c := x.c) (by omega) hcap.2 h
 refine eQ (φ := aW (x).p (recs eR (x).es)) (Hv.lsl aB) ?_
 refine bR Tryz.func33 rfl Tryz.ntmps33 rfl ?_
 repeat (refine aK ?_)
 (refine aA rfl (hcl _ _ aB) rfl rfl ?_; rintro _ _ _ ⟨rfl, q1, cq, rfl, rfl⟩; refine ⟨okF, ?_⟩)
 refine xZ (fun _ h0 _ => absurd h0 (by omega)) (fun bq tl e hle => ?_)
 subst e
 rw [hl]
 repeat (refine aK ?_)
 refine uV (M' := .blk bq (recs eR x.es ++ tl) 46 :: .row a rows.length c (recs eL rows) 48 1 :: .row b pz.length c2 (recs eZ pz) 3 1 :: .blk p [.slice a rows.length c, .slice b pz.length c2] 74 :: M1) (I' := dV x.es (kb u 0) :: allK rows u :: I0) SubP.refl aD ?_
 refine aT [0, 1, 17, 18] rfl (fun k G M I => ∃ (i : Nat) (es : List RE), i ≤ sp.length ∧ k = sp.length - i ∧ es.length = n ∧ qs es = sQ (sp.take i) x.q ∧ G = [(19, .int .i64 i)] ∧ M = .blk bq (recs eR es ++ tl) 46 :: .row a rows.length c (recs eL rows) 48 1 :: .row b pz.length c2 (recs eZ pz) 3 1 :: .blk p [.slice a rows.length c, .slice b pz.length c2] 74 :: M1 ∧ I = dV es (kb u i) :: allK rows u :: I0) (sp.length) _ _ _ aQ aF aD (⟨0, x.es, by omega, rfl, hl, rfl, rfl, rfl, rfl⟩) ?_
 rintro kk G M I ⟨i, es, hi, rfl, hel, heq, rfl, rfl, rfl⟩
 by_cases hin : i < sp.length
 ·have hgz := hpz i hin
  have hp1 := hpl i hin
  have h2 := hrl i hin
  have h3 := hrq i hin
  have ek : kb u (i + 1) = 4 * kb u i + 1 := rfl
  have hkm : kb u (i + 1) ≤ kb u sp.length := iO u (by omega)
  obtain ⟨ki, hki⟩ : ∃ z, kb u i = z := ⟨_, rfl⟩
  rw [hki] at ek ⊢
  have hfm : 0 ≤ gt pz (i : Int) ∧ gt pz (i : Int) < es.length := by omega
  refine fI (φ := nV (gt rows (i : Int)) (2 * ki)) (by rw [← hki]; exact Hv.rowK aB (by omega)) ?_
  refine fI (φ := aW (gt rows (i : Int)).p (recs eR (gt rows (i : Int)).es)) (Hv.lsl aB) ?_
  refine fI (φ := fB (gt es (gt pz (i : Int))) ki) (Hv.all (k := ki) aB hfm (Nat.le_refl _)) ?_
  obtain ⟨f, hf⟩ : ∃ f, gt es (gt pz (i : Int)) = f := ⟨_, rfl⟩
  have hfq : f.q = (sQ (sp.take i) x.q).getD (spP sp i) 0 := by rw [← heq, ← hf, hgz, kF (by omega)]
  have hSg := fun M0 I0 h => mF (X := X) (w0 := w0) (M0 := M0) (I0 := I0) (e := f) (k := ki) (by omega) h
  have htk := aMP hin
  repeat (first | (refine aK ?_) | (refine bF ?_; apply bQ; exact fA; exact rfl; exact aB; exact AtsZ.app (AtsZ.r fD); exact rfl; exact rfl))
  repeat (refine aK ?_)
  rw [hf]
  (refine aM rfl rfl ?_; intro b7; refine ⟨okF, ?_⟩)
  by_cases h0 : f.q = 0
  ·rw [(iE _).2 h0] at hSg
   repeat (refine aK ?_)
   (refine aA rfl (hSg _ _ (Hv.mem aB)) rfl rfl ?_; rintro _ _ _ ⟨rfl, rfl, rfl⟩; refine ⟨okF, ?_⟩)
   repeat (refine aK ?_)
   refine iW (φ := dV es (kb u (i + 1))) (Hv.allMono (k := ki) aB (by omega)) ?_
   refine aG (sp.length - (i + 1)) _ _ _ (by first | omega | (simp only [List.length_append, List.length_cons, List.length_nil]; omega)) aQ aF aD (⟨i + 1, es, by omega, rfl, hel, ?_, rfl, rfl, rfl⟩)
   rw [htk, aFJ, heq]
   unfold rdS
   simp only
   rw [← hfq, h0, aLM]
  ·have hs0 : ¬ f.q.num.sign = 0 := fun h => h0 ((iE _).1 h)
   repeat (refine aK ?_)
   (refine aA rfl (hSg _ _ (Hv.mem aB)) rfl rfl ?_; rintro _ _ _ ⟨rfl, rfl, rfl⟩; refine ⟨okF, ?_⟩)
   repeat (refine aK ?_)
   refine fI (φ := dV es (4 * ki + 1)) (Hv.allMono (k := ki) aB (by omega)) ?_
   refine uV (M' := .blk b7 (eR f) 46 :: .blk bq (recs eR es ++ tl) 46 :: .row a rows.length c (recs eL rows) 48 1 :: .row b pz.length c2 (recs eZ pz) 3 1 :: .blk p [.slice a rows.length c, .slice b pz.length c2] 74 :: M1) (I' := dV es (4 * ki + 1) :: fB f ki :: dV es ki :: aW (gt rows (i : Int)).p (recs eR (gt rows (i : Int)).es) :: nV (gt rows (i : Int)) (2 * ki) :: allK rows u :: I0) SubP.refl aD ?_
   refine aT [0, 1, 5, 7, 17, 18, 19, 32] rfl (fun k G M I => ∃ (j : Nat) (es2 : List RE), j ≤ n ∧ k = n - j ∧ es2.length = n ∧ (∀ t : Nat, t < n → (gt es2 (t : Int)).q = if t < j then (gt es (t : Int)).q - f.q * (spR sp i).getD t 0 else (gt es (t : Int)).q) ∧ (∀ t : Nat, j ≤ t → t < n → gt es2 (t : Int) = gt es (t : Int)) ∧ G = [(33, .int .i64 j)] ∧ M = .blk b7 (eR f) 46 :: .blk bq (recs eR es2 ++ tl) 46 :: .row a rows.length c (recs eL rows) 48 1 :: .row b pz.length c2 (recs eZ pz) 3 1 :: .blk p [.slice a rows.length c, .slice b pz.length c2] 74 :: M1 ∧ I = dV es2 (4 * ki + 1) :: fB f ki :: dV es ki :: aW (gt rows (i : Int)).p (recs eR (gt rows (i : Int)).es) :: nV (gt rows (i : Int)) (2 * ki) :: allK rows u :: I0) (n) _ _ _ aQ aF aD (⟨0, es, by omega, rfl, hel, fun t ht => by rw [if_neg (by omega)], fun t _ _ => rfl, rfl, rfl, rfl⟩) ?_
   rintro kk G M I ⟨j, es2, hj, rfl, hel2, heq2, hkp, rfl, rfl, rfl⟩
   by_cases hjn : j < n
   ·have hge := hkp j (Nat.le_refl _) hjn
    have hve : ∀ I, dV es ki ∈ I → Hv I (fB (gt es2 (j : Int)) ki) := fun I h => by rw [hge]; exact Hv.all h (by omega) (Nat.le_refl _)
    have hvs : ∀ I, nV (gt rows (i : Int)) (2 * ki) ∈ I → Hv I (fB (gt (gt rows (i : Int)).es (j : Int)) (2 * ki)) := fun I h => Hv.lel h (by omega)
    repeat (refine aK ?_)
    (repeat refine aJ ?_); refine aAA 2 (.blk b7 (eR f) 46 :: .blk bq (recs eR es2 ++ tl) 46 :: .row a rows.length c (recs eL rows) 48 1 :: .row b pz.length c2 (recs eZ pz) 3 1 :: .blk p [.slice a rows.length c, .slice b pz.length c2] 74 :: M1) (dV es2 (4 * ki + 1) :: fB f ki :: dV es ki :: aW (gt rows (i : Int)).p (recs eR (gt rows (i : Int)).es) :: nV (gt rows (i : Int)) (2 * ki) :: allK rows u :: I0) [0, 1, 2, 3, 4, 5, 6, 7, 8, 9, 10, 11, 12, 13, 14, 15, 16, 17, 18, 19, 20] [2, 2, 2, 2, 2, 1, 1, 2, 2, 2, 2, 2, 2, 2, 2, 2, 1, 0, 0, 0, 0] aF aD mixed (by kernel_rfl) ?_
    repeat (first | (refine aK ?_) | (refine bF ?_; apply bQ; exact fA; exact rfl; exact aB; exact AtsZ.app (AtsZ.r fD); exact rfl; exact rfl))
    repeat (refine aK ?_)
    (refine aA rfl (wQ (k := ki) (m := 2 * ki) (by omega) (Hv.mem aB) (hvs _ aB)) rfl rfl ?_; rintro _ _ _ ⟨rfl, e1, rfl, he1, rfl⟩; refine ⟨okF, ?_⟩)
    (refine aA rfl (aJT (k := ki) (m := ki + 2 * ki) (by omega) (hve _ aB) (Hv.mem aB)) rfl rfl ?_; rintro _ _ _ ⟨rfl, e, rfl, he, rfl⟩; refine ⟨okF, ?_⟩)
    repeat (refine yXh ?_)
    refine fK (vs := eR e) rfl rfl rfl (Ones.one e) jZ (StAts.app (StAts.r (enc := eR) (ms := es2) (i := (j : Int)) e (by omega) rfl)) rfl rfl ⟨okF, ?_⟩
    refine fQ (φ := fB e (4 * ki + 1)) (Hv.q (k := ki + (ki + 2 * ki) + 1) aB (by omega)) ?_
    refine fQ (φ := dV (st es2 (j : Int) e) (4 * ki + 1)) (Hv.stR aB aB) ?_
    repeat (refine aK ?_)
    refine aG (n - (j + 1)) _ _ _ (by first | omega | (simp only [List.length_append, List.length_cons, List.length_nil]; omega)) aQ aF aD (⟨j + 1, st es2 (j : Int) e, by omega, rfl, by rw [eF]; exact hel2, fun t ht => ?_, fun t h1 h2 => ?_, rfl, rfl, rfl⟩)
    ·rw [qM (by omega)]
     by_cases e2 : t = j
     ·subst e2
      rw [if_pos rfl, if_pos (by omega), he, he1, hge, ← h3, kF (by omega)]
     ·rw [if_neg e2, heq2 t ht]
      by_cases e3 : t < j
      ·rw [if_pos e3, if_pos (by omega)]
      ·rw [if_neg e3, if_neg (by omega)]
    ·rw [qM (by omega), if_neg (by omega)]; exact hkp t (by omega) h2
   ·obtain rfl : j = n := by omega
    repeat (refine aK ?_)
    refine iW (φ := dV es2 (kb u (i + 1))) (by rw [ek]; exact Hv.mem aB) ?_
    refine aG (sp.length - (i + 1)) _ _ _ (by first | omega | (simp only [List.length_append, List.length_cons, List.length_nil]; omega)) aQ aF aD (⟨i + 1, es2, by omega, rfl, hel2, ?_, rfl, rfl, rfl⟩)
    rw [htk, aFJ, ← heq]
    have hll : (qs es).length = j := by simp [qs]; exact hel
    refine pI (by rw [zK]; simp [qs]; omega) (fun t ht => ?_)
    have ht' : t < j := by simpa [qs, hel2] using ht
    unfold rdS
    simp only
    rw [wS (by omega), kF (by omega), heq2 t ht', if_pos ht', kF (by omega), hfq, heq]
 ·obtain rfl : i = sp.length := by omega
  rw [List.take_length] at heq
  obtain ⟨K, hK⟩ : ∃ z, kb u sp.length = z := ⟨_, rfl⟩
  rw [hK] at hu ⊢
  have hix := fun cq M0 I0 hm ha => aLV (X := X) (w0 := w0) (M0 := M0) (I0 := I0) (es := es) (tl := tl) (bq := bq) (cq := cq) (K := K) (n := n) hel (by omega) (by omega) hm ha
  rw [heq] at hix
  have hll : (sQ sp x.q).length = n := by rw [wO, lq]
  by_cases hf : mY (sQ sp x.q) < n
  ·rw [wL (by omega)]
   have hnz := wZ (l := sQ sp x.q) (by omega)
   obtain ⟨l, hl2⟩ : ∃ z, sQ sp x.q = z := ⟨_, rfl⟩
   rw [hl2] at heq hix hf hnz hll ⊢
   obtain ⟨s, hs⟩ : ∃ z, mY l = z := ⟨_, rfl⟩
   rw [hs] at hix hf hnz ⊢
   rw [if_pos hf] at hix
   clear hpz hpl hrq hrl hcl hl2
   repeat (refine aK ?_)
   (refine aA rfl (hix _ _ _ aB aB) rfl rfl ?_; rintro _ _ _ ⟨rfl, rfl, rfl⟩; refine ⟨okF, ?_⟩)
   refine fQ (φ := fB (gt es (s : Int)) K) (Hv.all (k := K) aB (by omega) (Nat.le_refl _)) ?_
   have hfq : (gt es (s : Int)).q = l.getD s 0 := by rw [← heq, kF (by omega)]
   obtain ⟨f, hf2⟩ : ∃ f, gt es (s : Int) = f := ⟨_, rfl⟩
   repeat (first | (refine aK ?_) | (refine bF ?_; apply bQ; exact fA; exact rfl; exact aB; exact AtsZ.app (AtsZ.r fD); exact rfl; exact rfl))
   repeat (refine aK ?_)
   rw [hf2] at hfq ⊢
   (refine aM rfl rfl ?_; intro b10; refine ⟨okF, ?_⟩)
   repeat (refine aK ?_)
   refine fI (φ := dV es (2 * K)) (Hv.allMono (k := K) aB (by omega)) ?_
   refine uV (M' := .blk b10 (eR f) 46 :: .blk bq (recs eR es ++ tl) 46 :: .row a rows.length c (recs eL rows) 48 1 :: .row b pz.length c2 (recs eZ pz) 3 1 :: .blk p [.slice a rows.length c, .slice b pz.length c2] 74 :: M1) (I' := dV es (2 * K) :: fB f K :: dV es K :: allK rows u :: I0) SubP.refl aD ?_
   refine aT [0, 1, 9, 10, 67] rfl (fun k G M I => ∃ (j : Nat) (es2 : List RE), j ≤ n ∧ k = n - j ∧ es2.length = n ∧ (∀ t : Nat, t < n → (gt es2 (t : Int)).q = if t < j then (gt es (t : Int)).q / f.q else (gt es (t : Int)).q) ∧ (∀ t : Nat, j ≤ t → t < n → gt es2 (t : Int) = gt es (t : Int)) ∧ G = [(68, .int .i64 j)] ∧ M = .blk b10 (eR f) 46 :: .blk bq (recs eR es2 ++ tl) 46 :: .row a rows.length c (recs eL rows) 48 1 :: .row b pz.length c2 (recs eZ pz) 3 1 :: .blk p [.slice a rows.length c, .slice b pz.length c2] 74 :: M1 ∧ I = dV es2 (2 * K) :: fB f K :: dV es K :: allK rows u :: I0) (n) _ _ _ aQ aF aD (⟨0, es, by omega, rfl, hel, fun t ht => by rw [if_neg (by omega)], fun t _ _ => rfl, rfl, rfl, rfl⟩) ?_
   rintro kk G M I ⟨j, es2, hj, rfl, hel2, heq2, hkp, rfl, rfl, rfl⟩
   by_cases hjn : j < n
   ·have hge := hkp j (Nat.le_refl _) hjn
    have hve : ∀ I, dV es K ∈ I → Hv I (fB (gt es2 (j : Int)) K) := fun I h => by rw [hge]; exact Hv.all h (by omega) (Nat.le_refl _)
    repeat (refine aK ?_)
    (repeat refine aJ ?_); refine aAA 1 (.blk b10 (eR f) 46 :: .blk bq (recs eR es2 ++ tl) 46 :: .row a rows.length c (recs eL rows) 48 1 :: .row b pz.length c2 (recs eZ pz) 3 1 :: .blk p [.slice a rows.length c, .slice b pz.length c2] 74 :: M1) (dV es2 (2 * K) :: fB f K :: dV es K :: allK rows u :: I0) [0, 1, 2, 3, 4, 5, 6, 7, 8, 9, 10, 11, 12] [1, 1, 1, 1, 1, 0, 0, 0, 0, 0, 1, 0, 0] aF aD mixed (by kernel_rfl) ?_
    repeat (first | (refine aK ?_) | (refine bF ?_; apply bQ; exact fA; exact rfl; exact aB; exact AtsZ.app (AtsZ.r fD); exact rfl; exact rfl))
    repeat (refine aK ?_)
    (refine aA rfl (aAR (k := K) (m := K) (by omega) (by rw [hfq]; exact hnz) (hve _ aB) (Hv.mem aB)) rfl rfl ?_; rintro _ _ _ ⟨rfl, e, rfl, he, rfl⟩; refine ⟨okF, ?_⟩)
    repeat (refine yXh ?_)
    refine fK (vs := eR e) rfl rfl rfl (Ones.one e) jZ (StAts.app (StAts.r (enc := eR) (ms := es2) (i := (j : Int)) e (by omega) rfl)) rfl rfl ⟨okF, ?_⟩
    refine fQ (φ := fB e (2 * K)) (Hv.q (k := K + K) aB (by omega)) ?_
    refine fQ (φ := dV (st es2 (j : Int) e) (2 * K)) (Hv.stR aB aB) ?_
    repeat (refine aK ?_)
    refine aG (n - (j + 1)) _ _ _ (by first | omega | (simp only [List.length_append, List.length_cons, List.length_nil]; omega)) aQ aF aD (⟨j + 1, st es2 (j : Int) e, by omega, rfl, by rw [eF]; exact hel2, fun t ht => ?_, fun t h1 h2 => ?_, rfl, rfl, rfl⟩)
    ·rw [qM (by omega)]
     by_cases e2 : t = j
     ·subst e2
      rw [if_pos rfl, if_pos (by omega), he, hge]
     ·rw [if_neg e2, heq2 t ht]
      by_cases e3 : t < j
      ·rw [if_pos e3, if_pos (by omega)]
      ·rw [if_neg e3, if_neg (by omega)]
    ·rw [qM (by omega), if_neg (by omega)]; exact hkp t (by omega) h2
   ·obtain rfl : j = n := by omega
    have hfin : qs es2 = dvd l (l.getD s 0) := by
     refine pI (by rw [aKO]; simp [qs]; omega) (fun t ht => ?_)
     have ht' : t < j := by simpa [qs, hel2] using ht
     rw [aED, kF (by omega), heq2 t ht', if_pos ht', hfq, ← heq, kF (show t < es.length by omega)]
    clear heq2 hkp
    repeat (refine aK ?_)
    refine uV (M' := .blk bq (recs eR es2 ++ tl) 46 :: .row a rows.length c (recs eL rows) 48 1 :: .row b pz.length c2 (recs eZ pz) 3 1 :: .blk p [.slice a rows.length c, .slice b pz.length c2] 74 :: M1) (I' := dV es2 (2 * K) :: allK rows u :: I0) aF aD ?_
    refine aTG (k := 2 * K) (c := cq) (by omega) aB ?_
    obtain ⟨r, hr2⟩ : ∃ r : RL, r = ⟨some ⟨bq, 0, none⟩, cq, es2⟩ := ⟨_, rfl⟩
    have hvv : Value.slice (some ⟨bq, 0, none⟩) j cq = lv r := by rw [hr2]; show _ = Value.slice _ es2.length _; rw [hel2]
    have hrr : r.q = dvd l (l.getD s 0) := by rw [hr2]; exact hfin
    rw [← hr2]
    rw [hvv]
    refine uV (M' := .row a rows.length c (recs eL rows) 48 1 :: .row b pz.length c2 (recs eZ pz) 3 1 :: .blk p [.slice a rows.length c, .slice b pz.length c2] 74 :: M1) (I' := nV r (2 * K) :: allK rows u :: I0) SubP.refl aD ?_
    clear hix
    refine uJ (fun G M I => ∃ (a1 b1 : Option Addr) (c1 d1 : Nat), G = [(0, .pointer (some ⟨p, 0, none⟩))] ∧ M = .row a1 (rows ++ [r]).length c1 (recs eL (rows ++ [r])) 48 1 :: .row b1 (pz ++ [(s : Int)]).length d1 (recs eZ (pz ++ [(s : Int)])) 3 1 :: .blk p [.slice a1 (rows ++ [r]).length c1, .slice b1 (pz ++ [(s : Int)]).length d1] 74 :: M1 ∧ I = nV r (2 * K) :: allK rows u :: I0) ?_ ?_
    ·((repeat refine aJ ?_); refine aPB 4 (.blk p [.slice a rows.length c, .slice b pz.length c2] 74 :: M1) (M1) (nV r (2 * K) :: allK rows u :: I0) mixed ?_)
     refine aEL (fuel := 20) (listed' := #[true, true, false, false, false, false, false, false, false, false, false, false, false, false, false, false, false, false, false, false, false, false]) (k1 := 0) [0, 1] [4, 5] (by kernel_rfl) rfl aF aF aD (by kernel_rfl) (by kernel_rfl) rfl rfl (by kernel_rfl) ?_
     repeat (refine aK ?_)
     refine aJS (fuel := 16) (listed' := #[true, true, true, true, true, true, false, false, false, false, false, false, false, false, false, false, false, false, false, false, false, false]) (k1 := 0) [2, 3, 4, 5] [4, 4, 4, 3] (by kernel_rfl) rfl aF aF aD (by kernel_rfl) (by kernel_rfl) rfl rfl (by kernel_rfl) ?_
     repeat (refine aK ?_)
     refine aEL (fuel := 15) (listed' := #[true, true, true, true, true, true, true, false, false, false, false, false, false, false, false, false, false, false, false, false, false, false]) (k1 := 0) [6] [3] (by kernel_rfl) rfl aF aF aD (by kernel_rfl) (by kernel_rfl) rfl rfl (by kernel_rfl) ?_
     repeat (refine aK ?_)
     refine aJS (fuel := 11) (listed' := #[true, true, true, true, true, true, true, false, false, true, true, true, true, false, false, false, false, false, false, false, false, false]) (k1 := 0) [9, 10, 11, 12] [5, 5, 5, 3] (by kernel_rfl) rfl aF aF aD (by kernel_rfl) (by kernel_rfl) rfl rfl (by kernel_rfl) ?_
     repeat (refine aK ?_)
     refine aEL (fuel := 10) (listed' := #[true, true, true, true, true, true, true, false, false, true, true, true, true, true, false, false, false, false, false, false, false, false]) (k1 := 0) [13] [4] (by kernel_rfl) rfl aF aF aD (by kernel_rfl) (by kernel_rfl) rfl rfl (by kernel_rfl) ?_
     repeat (refine aK ?_)
     refine aGE (fuel := 9) (i := 7) (j := 14) (k1 := 1) rfl rfl aF (by kernel_rfl) (by kernel_rfl) ?_ ?_
     ·((refine aP (cs := recs eL [r]) ([lv r]) rfl rfl (by intro v hv; repeat (first | exact absurd hv (List.not_mem_nil) | (rcases List.mem_cons.1 hv with rfl | hv; · rfl))) (by omega) rfl rfl rfl ?_; intro b7; refine ⟨okF, ?_⟩); refine aO .here ?_)
      refine bA ?_
      refine aGE (fuel := 8) (i := 8) (j := 14) (k1 := 2) rfl rfl aF (by kernel_rfl) (by kernel_rfl) ?_ ?_
      ·(refine dC (ys := [r]) 0 rfl rfl rfl ?_ (by decide) rfl (by omega) (by omega) rfl rfl ?_; (· exact Src.imm aB (.inl (Ok.mk _ _))); intro qa2 ca2; refine ⟨OkD.any (SubP.drop (SubP.drop SubP.refl)) aD, ?_⟩; refine rM (M' := .row qa2 (rows ++ [r]).length ca2 (recs eL (rows ++ [r])) 48 1 :: .row b pz.length c2 (recs eZ pz) 3 1 :: .blk p [.slice a rows.length c, .slice b pz.length c2] 74 :: M1) (fun _ hw => hw) ?_)
       refine bA ?_
       refine aEZ (fuel := 6) (listed' := #[true, true, true, true, true, true, true, true, true, true, true, true, true, true, true, true, false, false, false, false, false, false]) (k1 := 4) [14, 15] [0, 0] (by kernel_rfl) rfl aF aF aD (by kernel_rfl) (by kernel_rfl) rfl rfl (by kernel_rfl) ?_
       repeat (refine aK ?_)
       ((refine aP (cs := recs eZ [(s : Int)]) ([.int .i64 (s : Int)]) rfl rfl (by intro v hv; repeat (first | exact absurd hv (List.not_mem_nil) | (rcases List.mem_cons.1 hv with rfl | hv; · rfl))) (by omega) rfl rfl rfl ?_; intro b14; refine ⟨okF, ?_⟩); refine aO .here ?_)
       repeat (refine aK ?_)
       (refine dC (ys := [(s : Int)]) 1 rfl rfl rfl ?_ (by decide) rfl (by omega) (by omega) rfl rfl ?_; (· exact Src.imm aB (.inl (Ok.mk _ _))); intro qb2 cb2; refine ⟨OkD.any (SubP.drop (SubP.drop SubP.refl)) aD, ?_⟩; refine rM (M' := .row qa2 (rows ++ [r]).length ca2 (recs eL (rows ++ [r])) 48 1 :: .row qb2 (pz ++ [(s : Int)]).length cb2 (recs eZ (pz ++ [(s : Int)])) 3 1 :: .blk p [.slice a rows.length c, .slice b pz.length c2] 74 :: M1) (fun _ hw => hw) ?_)
       repeat (refine aK ?_)
       refine aEE [16, 17, 18, 19, 20, 21] [1, 0, 0, 1, 0, 0] rfl aF aF aD (by kernel_rfl) (by kernel_rfl) rfl rfl ?_
       repeat (refine aK ?_)
       refine fO _ _ _ aQ aF aD ⟨qa2, qb2, ca2, cb2, rfl, rfl, rfl⟩
      ·((refine aP (cs := recs eZ [(s : Int)]) ([.int .i64 (s : Int)]) rfl rfl (by intro v hv; repeat (first | exact absurd hv (List.not_mem_nil) | (rcases List.mem_cons.1 hv with rfl | hv; · rfl))) (by omega) rfl rfl rfl ?_; intro b14; refine ⟨okF, ?_⟩); refine aO .here ?_)
       refine bA ?_
       refine aEZ (fuel := 6) (listed' := #[true, true, true, true, true, true, true, true, true, true, true, true, true, true, true, true, false, false, false, false, false, false]) (k1 := 4) [8, 15] [0, 0] (by kernel_rfl) rfl aF aF aD (by kernel_rfl) (by kernel_rfl) rfl rfl (by kernel_rfl) ?_
       repeat (refine aK ?_)
       (refine dC (ys := [r]) 0 rfl rfl rfl ?_ (by decide) rfl (by omega) (by omega) rfl rfl ?_; (· exact Src.imm aB (.inl (Ok.mk _ _))); intro qa2 ca2; refine ⟨OkD.any (SubP.drop (SubP.drop SubP.refl)) aD, ?_⟩; refine rM (M' := .row qa2 (rows ++ [r]).length ca2 (recs eL (rows ++ [r])) 48 1 :: .row b pz.length c2 (recs eZ pz) 3 1 :: .blk p [.slice a rows.length c, .slice b pz.length c2] 74 :: M1) (fun _ hw => hw) ?_)
       repeat (refine aK ?_)
       (refine dC (ys := [(s : Int)]) 1 rfl rfl rfl ?_ (by decide) rfl (by omega) (by omega) rfl rfl ?_; (· exact Src.imm aB (.inl (Ok.mk _ _))); intro qb2 cb2; refine ⟨OkD.any (SubP.drop (SubP.drop SubP.refl)) aD, ?_⟩; refine rM (M' := .row qa2 (rows ++ [r]).length ca2 (recs eL (rows ++ [r])) 48 1 :: .row qb2 (pz ++ [(s : Int)]).length cb2 (recs eZ (pz ++ [(s : Int)])) 3 1 :: .blk p [.slice a rows.length c, .slice b pz.length c2] 74 :: M1) (fun _ hw => hw) ?_)
       repeat (refine aK ?_)
       refine aEE [16, 17, 18, 19, 20, 21] [1, 0, 0, 1, 0, 0] rfl aF aF aD (by kernel_rfl) (by kernel_rfl) rfl rfl ?_
       repeat (refine aK ?_)
       refine fO _ _ _ aQ aF aD ⟨qa2, qb2, ca2, cb2, rfl, rfl, rfl⟩
     ·((refine aP (cs := recs eZ [(s : Int)]) ([.int .i64 (s : Int)]) rfl rfl (by intro v hv; repeat (first | exact absurd hv (List.not_mem_nil) | (rcases List.mem_cons.1 hv with rfl | hv; · rfl))) (by omega) rfl rfl rfl ?_; intro b14; refine ⟨okF, ?_⟩); refine aO .here ?_)
      refine bA ?_
      refine aEZ (fuel := 6) (listed' := #[true, true, true, true, true, true, true, true, true, true, true, true, true, true, true, true, false, false, false, false, false, false]) (k1 := 4) [7, 8, 15] [0, 0, 0] (by kernel_rfl) rfl aF aF aD (by kernel_rfl) (by kernel_rfl) rfl rfl (by kernel_rfl) ?_
      repeat (refine aK ?_)
      ((refine aP (cs := recs eL [r]) ([lv r]) rfl rfl (by intro v hv; repeat (first | exact absurd hv (List.not_mem_nil) | (rcases List.mem_cons.1 hv with rfl | hv; · rfl))) (by omega) rfl rfl rfl ?_; intro b7; refine ⟨okF, ?_⟩); refine aO .here ?_)
      repeat (refine aK ?_)
      (refine dC (ys := [r]) 0 rfl rfl rfl ?_ (by decide) rfl (by omega) (by omega) rfl rfl ?_; (· exact Src.imm aB (.inl (Ok.mk _ _))); intro qa2 ca2; refine ⟨OkD.any (SubP.drop (SubP.drop SubP.refl)) aD, ?_⟩; refine rM (M' := .row qa2 (rows ++ [r]).length ca2 (recs eL (rows ++ [r])) 48 1 :: .row b pz.length c2 (recs eZ pz) 3 1 :: .blk p [.slice a rows.length c, .slice b pz.length c2] 74 :: M1) (fun _ hw => hw) ?_)
      repeat (refine aK ?_)
      (refine dC (ys := [(s : Int)]) 1 rfl rfl rfl ?_ (by decide) rfl (by omega) (by omega) rfl rfl ?_; (· exact Src.imm aB (.inl (Ok.mk _ _))); intro qb2 cb2; refine ⟨OkD.any (SubP.drop (SubP.drop SubP.refl)) aD, ?_⟩; refine rM (M' := .row qa2 (rows ++ [r]).length ca2 (recs eL (rows ++ [r])) 48 1 :: .row qb2 (pz ++ [(s : Int)]).length cb2 (recs eZ (pz ++ [(s : Int)])) 3 1 :: .blk p [.slice a rows.length c, .slice b pz.length c2] 74 :: M1) (fun _ hw => hw) ?_)
      repeat (refine aK ?_)
      refine aEE [16, 17, 18, 19, 20, 21] [1, 0, 0, 1, 0, 0] rfl aF aF aD (by kernel_rfl) (by kernel_rfl) rfl rfl ?_
      repeat (refine aK ?_)
      refine fO _ _ _ aQ aF aD ⟨qa2, qb2, ca2, cb2, rfl, rfl, rfl⟩
    ·rintro G M I ⟨a1, b1, c1, d1, rfl, rfl, rfl⟩
     refine fI (φ := allK (rows ++ [r]) u) (Hv.snocK aB (by rw [lr, hK]; exact aB)) ?_
     repeat (refine aK ?_)
     refine rV (M' := .row a1 (rows ++ [r]).length c1 (recs eL (rows ++ [r])) 48 1 :: .row b1 (pz ++ [(s : Int)]).length d1 (recs eZ (pz ++ [(s : Int)])) 3 1 :: .blk p [.slice a1 (rows ++ [r]).length c1, .slice b1 (pz ++ [(s : Int)]).length d1] 74 :: M1) (I' := allK (rows ++ [r]) u :: I0) SubP.refl aD ?_
     refine aH (by first | exact .inl rfl | exact .inr rfl) rfl rfl _ _ aF aD (⟨a1, b1, c1, d1, rows ++ [r], pz ++ [(s : Int)], rfl, rfl, rfl, ?_, ?_⟩)
     ·rw [aEI, hr, hrr]; simp [mtS]
     ·rw [hz]; simp [pvS]
  ·rw [xS (by omega)]
   rw [if_neg hf] at hix
   repeat (refine aK ?_)
   (refine aA rfl (hix _ _ _ aB aB) rfl rfl ?_; rintro _ _ _ ⟨rfl, rfl, rfl⟩; refine ⟨okF, ?_⟩)
   repeat (refine aK ?_)
   refine rV (M' := .row a rows.length c (recs eL rows) 48 1 :: .row b pz.length c2 (recs eZ pz) 3 1 :: .blk p [.slice a rows.length c, .slice b pz.length c2] 74 :: M1) (I' := allK rows u :: I0) aF aD ?_
   refine aH (by first | exact .inl rfl | exact .inr rfl) rfl rfl _ _ aF aD (⟨a, b, c, c2, rows, pz, rfl, rfl, rfl, hr, hz⟩)
end
end Go.Proofs.YtkccjglmnhgabaaGreatDoor

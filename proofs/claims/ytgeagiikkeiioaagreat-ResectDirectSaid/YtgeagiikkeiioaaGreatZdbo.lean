/- resect.Direct: what it refuses; the law's direct: what it refuses. The law's rows of equations. The law's scaled: a list over its first number that is not 0, as rows of four. -/
import Derived.Test.YtgeagiikkeiioaaGreatZdbn
import Derived.Test.YtgeagiikkeiioaaGreatZdax
set_option linter.unusedSimpArgs false
set_option linter.unusedVariables false
set_option maxRecDepth 100000
set_option maxHeartbeats 4000000
namespace Go.Proofs.YtgeagiikkeiioaaGreat
open Go Go.Fx
def dirC (ws : List VW) (ps : List PW) : Int := if goodP ws ps then (if ws.length < 6 ∨ 16 < ws.length then 3 else 4) else 1
def dirOk (ws : List VW) (ps : List PW) : Prop := goodP ws ps ∧ (6 ≤ ws.length ∧ ws.length ≤ 16) ∧ ps.length = ws.length
instance dirOk.dec (ws : List VW) (ps : List PW) : Decidable (dirOk ws ps) := by unfold dirOk; exact inferInstance
section
variable {X : List Nat} {w0 : World} {M0 : List Ent} {I0 : List bD}
theorem aFL {q1 q2 : Option Addr} {c1 c2 : Nat} {ws : List VW} {ps : List PW} (lw : ws.length ≤ 1000000) (lp : ps.length ≤ 1000000) (sw : ∀ v ∈ ws, v.small) (sp : ∀ p ∈ ps, p.small) (h1 : bH q1 (recs eVW ws) ∈ I0) (h2 : bH q2 (recs ePW ps) ∈ I0) (a1 : uR ws ∈ I0) (a2 : mE ps ∈ I0) (hb : ¬ dirOk ws ps) :
  CD Tryz.prog 15 [.slice q1 ws.length c1, .slice q2 ps.length c2] X w0 M0 I0 (fun v M I => M0 = M ∧ I0 = I ∧ v = .tuple #[.slice none 0 0, .int .i64 (dirC ws ps)]) := by
 have hV := fun M0 => sW (X := X) (w0 := w0) (M0 := M0) (I0 := I0) (q := q2) (c := c2) (m := ps.length) (ps := ps) rfl (by omega) sp h2 (Hv.mem a2)
 refine bG Tryz.func15 rfl Tryz.ntmps15 rfl ?_
 repeat (refine aI ?_)
 (refine aA rfl (hV _) rfl rfl ?_; rintro _ _ _ ⟨rfl, rfl, rfl⟩; refine ⟨okF, ?_⟩)
 repeat (refine aI ?_)
 refine aV [0, 1, 25, 26] rfl (fun k G M I => ∃ (i : Nat) (b : Bool), i ≤ ws.length ∧ k = ws.length - i ∧ b = B ((∀ p ∈ ps, p.good) ∧ ∀ j : Nat, j < i → (gt ws (j : Int)).w.good) ∧ G = [(6, .bool b), (27, .int .i64 i)] ∧ M0 = M ∧ I0 = I) (ws.length) _ _ _ aO aF aD (⟨0, _, by omega, rfl, fM ⟨fun h => ⟨h, fun j hj => by omega⟩, fun h => h.1⟩, rfl, rfl, rfl⟩) ?_
 rintro kk G M I ⟨i, b, hi, rfl, rfl, rfl, rfl, rfl⟩
 by_cases hin : i < ws.length
 ·have hrc := sw _ (bN (ms := ws) (i := (i : Int)) (by omega))
  have hS := fun p M0 I0 h => aAZ (X := X) (w0 := w0) (M0 := M0) (I0 := I0) (r := ⟨p, 3, [(gt ws (i : Int)).x, (gt ws (i : Int)).y, (gt ws (i : Int)).z]⟩) ⟨by show 3 ≤ _; omega, fun e he => by
   simp only [List.mem_cons, List.not_mem_nil, or_false] at he
   rcases he with rfl | rfl | rfl
   ·exact hrc.1
   ·exact hrc.2.1
   ·exact hrc.2.2⟩ h
  have last1 : (∀ t : Nat, t < i + 1 → (gt ws (t : Int)).w.good) ↔ (∀ t : Nat, t < i → (gt ws (t : Int)).w.good) ∧ (gt ws (i : Int)).w.good :=
   ⟨fun h => ⟨fun t ht => h t (by omega), h i (by omega)⟩, fun h t ht => by
    by_cases e : t = i
    ·subst e; exact h.2
    ·exact h.1 t (by omega)⟩
  refine dC (φ := aDO (gt ws (i : Int))) (Hv.vwAt (Hv.mem a1) (by omega)) ?_
  by_cases hc : (∀ p ∈ ps, p.good) ∧ ∀ j : Nat, j < i → (gt ws (j : Int)).w.good
  ·rw [bS hc]
   repeat (refine aI ?_)
   (refine aB rfl rfl ?_; intro b8; refine ⟨okF, ?_⟩)
   repeat (refine aI ?_)
   refine bT (b := b8) (cs := eVW (gt ws (i : Int))) .here ?_
   refine dW (φ := tK ⟨some ⟨b8, 0, none⟩, 3, [(gt ws (i : Int)).x, (gt ws (i : Int)).y, (gt ws (i : Int)).z]⟩) (Hv.vwl (Hv.mem (φ := aDO (gt ws (i : Int))) aC) aC) ?_
   refine aH rfl (fun _ => iQ rfl) rfl rfl ?_
   (refine aA rfl (hS (some ⟨b8, 0, none⟩) _ _ aC) rfl rfl ?_; rintro _ _ _ ⟨rfl, rfl, rfl⟩; refine ⟨okF, ?_⟩)
   repeat (refine aI ?_)
   refine aP (ws.length - (i + 1)) _ _ _ (by first | omega | (simp only [List.length_append, List.length_cons, List.length_nil]; omega)) aO aF aD (⟨i + 1, _, by omega, rfl, fM ⟨fun h => ⟨hc.1, last1.2 ⟨hc.2, h⟩⟩, fun h => (last1.1 h.2).2⟩, rfl, rfl, rfl⟩)
  ·rw [aY hc]
   repeat (refine aI ?_)
   (refine aB rfl rfl ?_; intro b8; refine ⟨okF, ?_⟩)
   repeat (refine aI ?_)
   refine aP (ws.length - (i + 1)) _ _ _ (by first | omega | (simp only [List.length_append, List.length_cons, List.length_nil]; omega)) aO aF aD (⟨i + 1, _, by omega, rfl, (aY (fun h => hc ⟨h.1, (last1.1 h.2).1⟩)).symm, rfl, rfl, rfl⟩)
 obtain rfl : i = ws.length := by omega
 have hgg : ((∀ p ∈ ps, p.good) ∧ ∀ j : Nat, j < ws.length → (gt ws (j : Int)).w.good) ↔ goodP ws ps := ⟨fun h => ⟨oO h.2, h.1⟩, fun h => ⟨h.2, fun j hj => h.1 _ (bN (by omega))⟩⟩
 unfold dirC
 by_cases hg : goodP ws ps
 ·rw [bS (hgg.2 hg), if_pos hg]
  by_cases h6 : ws.length < 6
  ·rw [if_pos (.inl h6)]
   repeat (refine aI ?_)
   refine fI [4, 5] (by first | exact .inl rfl | exact .inr rfl) rfl rfl rfl _ _ aF aD (⟨rfl, rfl, rfl⟩)
  ·by_cases h16 : 16 < ws.length
   ·rw [if_pos (.inr h16)]
    repeat (refine aI ?_)
    refine fI [4, 5] (by first | exact .inl rfl | exact .inr rfl) rfl rfl rfl _ _ aF aD (⟨rfl, rfl, rfl⟩)
   ·rw [if_neg (by omega)]
    have hne : ¬ ps.length = ws.length := fun h => hb ⟨hg, ⟨by omega, by omega⟩, h⟩
    repeat (refine aI ?_)
    refine fI [4, 5] (by first | exact .inl rfl | exact .inr rfl) rfl rfl rfl _ _ aF aD (⟨rfl, rfl, rfl⟩)
 ·rw [aY (fun h => hg (hgg.1 h)), if_neg hg]
  repeat (refine aI ?_)
  refine fI [4, 5] (by first | exact .inl rfl | exact .inr rfl) rfl rfl rfl _ _ aF aD (⟨rfl, rfl, rfl⟩)
theorem aDU {q1 q2 : Option Addr} {c1 c2 n m : Nat} (ln : n ≤ 1000000) (lm : m ≤ 1000000) (hb : ¬ ((6 ≤ n ∧ n ≤ 16) ∧ m = n)) :
  CD Tryz.prog 17 [.slice q1 n c1, .slice q2 m c2] X w0 M0 I0 (fun v M I => M0 = M ∧ I0 = I ∧ v = .tuple #[.slice none 0 0, .int .i64 (if n < 6 ∨ 16 < n then 3 else 4)]) := by
 refine bG Tryz.func17 rfl Tryz.ntmps17 rfl ?_
 by_cases h6 : n < 6
 ·rw [if_pos (.inl h6)]
  repeat (refine aI ?_)
  refine fI [4, 5] (by first | exact .inl rfl | exact .inr rfl) rfl rfl rfl _ _ aF aD (⟨rfl, rfl, rfl⟩)
 ·by_cases h16 : 16 < n
  ·rw [if_pos (.inr h16)]
   repeat (refine aI ?_)
   refine fI [4, 5] (by first | exact .inl rfl | exact .inr rfl) rfl rfl rfl _ _ aF aD (⟨rfl, rfl, rfl⟩)
  ·rw [if_neg (by omega)]
   have hne : ¬ m = n := fun h => hb ⟨⟨by omega, by omega⟩, h⟩
   repeat (refine aI ?_)
   refine fI [4, 5] (by first | exact .inl rfl | exact .inr rfl) rfl rfl rfl _ _ aF aD (⟨rfl, rfl, rfl⟩)
end
end Go.Proofs.YtgeagiikkeiioaaGreat
namespace Go.Proofs.YtgeagiikkeiioaaGreat
open Go Go.Fx
theorem Hv.lA {I : List bD} {p : Option Addr} {es : List RE} {k c : Nat} (h : bH p (recs eR es) ∈ I) (ha : dL es k ∈ I) (hp : Ok p) (hc : es.length ≤ c) : Hv I (iW ⟨p, c, es⟩ k) := ⟨fun X w hw => ⟨(hw _ h : SlI _ _ X w).go, fun e he => (hw _ ha : AllR es k X w).go e he, ⟨hc, .inl hp⟩⟩⟩
theorem Hv.snoc1L {I : List bD} {rs : List RL} {a : RL} {k : Nat} (h : iR rs k ∈ I) (h1 : iW a k ∈ I) : Hv I (iR (rs ++ [a]) k) := ⟨fun X w hw => ⟨fun r hr => by
 rcases List.mem_append.1 hr with hr | hr
 ·exact (hw _ h : AllL rs k X w).go r hr
 ·rw [List.mem_singleton.1 hr]; exact hw _ h1⟩⟩
def xJ (w : List Rat) (s : Rat) (j t u : Nat) : Rat := if u < 8 then (if 4 * j ≤ u ∧ u < 4 * j + t then w.getD (u - 4 * j) 0 else 0) else (if u < 8 + t then -(s * w.getD (u - 8) 0) else 0)
theorem aLO {w : List Rat} {s : Rat} {j u : Nat} : xJ w s j 0 u = 0 := by
 unfold xJ
 rw [if_neg (show ¬ (4 * j ≤ u ∧ u < 4 * j + 0) by omega)]
 by_cases h : u < 8
 ·rw [if_pos h]
 ·rw [if_neg h, if_neg (by omega)]
theorem aLX {w : List Rat} {s : Rat} {j t u : Nat} (hj : j < 2) (ht : t < 4) : xJ w s j (t + 1) u = if u = 8 + t then -(s * w.getD t 0) else if u = 4 * j + t then w.getD t 0 else xJ w s j t u := by
 unfold xJ
 by_cases h1 : u = 8 + t
 ·subst h1
  rw [if_pos rfl, if_neg (by omega), if_pos (by omega), show 8 + t - 8 = t by omega]
 ·rw [if_neg h1]
  by_cases h2 : u = 4 * j + t
  ·subst h2
   rw [if_pos rfl, if_pos (by omega), if_pos (by omega), show 4 * j + t - 4 * j = t by omega]
  ·rw [if_neg h2]
   by_cases h3 : u < 8
   ·rw [if_pos h3, if_pos h3]
    by_cases h4 : 4 * j ≤ u ∧ u < 4 * j + t
    ·rw [if_pos h4, if_pos (by omega)]
    ·rw [if_neg h4, if_neg (by omega)]
   ·rw [if_neg h3, if_neg h3]
    by_cases h4 : u < 8 + t
    ·rw [if_pos h4, if_pos (by omega)]
    ·rw [if_neg h4, if_neg (by omega)]
theorem aQU {a b c x : Rat} : (List.range 12).map (xJ (pt4 [a, b, c]) x 0 4) = eqU [a, b, c] x := by
 simp [List.range_succ, xJ, pt4, eqU, z4q, List.replicate, Rat.mul_comm]
 grind
theorem aQG {a b c x : Rat} : (List.range 12).map (xJ (pt4 [a, b, c]) x 1 4) = eqV [a, b, c] x := by
 simp [List.range_succ, xJ, pt4, eqV, z4q, List.replicate, Rat.mul_comm]
 grind
section
variable {X : List Nat} {w0 : World} {M0 : List Ent} {I0 : List bD}
theorem aEK {q1 q2 : Option Addr} {c1 c2 n : Nat} {W : List VE} {P : List PE} (hn : n ≤ 16) (hW : W.length = n) (hP : P.length = n) (h1 : bH q1 (recs eV W) ∈ I0) (h2 : bH q2 (recs eP P) ∈ I0) (a1 : aCG W 30 ∈ I0) (a2 : rW P 30 ∈ I0) :
  CD Tryz.prog 21 [.slice q1 n c1, .slice q2 n c2] X w0 M0 I0 (fun v M I => M0 = M ∧ ∃ m : MX, v = mv m ∧ m.q = eqs (tL W) (xE P) n ∧ m.dim (2 * n) 12 ∧ I = mW m 60 :: I0) := by
 have hWh := fun x M0 I0 (hx : -9223372036854775808 ≤ x ∧ x ≤ 9223372036854775807) (h : x.natAbs ≤ 2 ^ 0) => rQ (X := X) (w0 := w0) (M0 := M0) (I0 := I0) (x := x) hx (k := 0) h
 have hMl := fun a b M0 I0 h1 h2 => aPB (X := X) (w0 := w0) (M0 := M0) (I0 := I0) (a := a) (b := b) (k := 30) (m := 30) (by omega) h1 h2
 have hNg := fun e M0 I0 h => zG (X := X) (w0 := w0) (M0 := M0) (I0 := I0) (e := e) (k := 60) (by omega) h
 refine bG Tryz.func21 rfl Tryz.ntmps21 rfl ?_
 repeat (refine aI ?_)
 refine nR 34 1 ?_
 refine dC (φ := iR [] 60) ⟨fun X w hw => ⟨fun r hr => by simp at hr⟩⟩ ?_
 refine aV [1, 14, 15] rfl (fun k G M I => ∃ (i : Nat) (rows : List RL) (q : Option Addr) (c : Nat), i ≤ n ∧ k = n - i ∧ rows.length = 2 * i ∧ rows.map RL.q = eqs (tL W) (xE P) i ∧ G = [(5, .slice q rows.length c), (16, .int .i64 i)] ∧ M = .row q rows.length c (recs eL rows) 34 1 :: M0 ∧ I = iR rows 60 :: I0) (n) _ _ _ aO aF aD (⟨0, [], none, 0, by omega, rfl, rfl, rfl, rfl, rfl, rfl⟩) ?_
 rintro kk G M I ⟨i, rows, q, c, hi, rfl, hrl, hrq, rfl, rfl, rfl⟩
 by_cases hin : i < n
 ·refine dC (φ := isV (gt W (i : Int)) 30) (Hv.vAt (List.Mem.tail _ a1) (by omega)) ?_
  refine dC (φ := bP (gt W (i : Int)).x 30) ⟨fun X w hw => (hw _ (List.Mem.head _) : IsV (gt W (i : Int)) 30 X w).x⟩ ?_
  refine dC (φ := bP (gt W (i : Int)).y 30) ⟨fun X w hw => (hw _ (List.Mem.tail _ (List.Mem.head _)) : IsV (gt W (i : Int)) 30 X w).y⟩ ?_
  refine dC (φ := bP (gt W (i : Int)).z 30) ⟨fun X w hw => (hw _ (List.Mem.tail _ (List.Mem.tail _ (List.Mem.head _))) : IsV (gt W (i : Int)) 30 X w).z⟩ ?_
  refine dC (φ := dJ (gt P (i : Int)) 30) ⟨fun X w hw => (hw _ (List.Mem.tail _ (List.Mem.tail _ (List.Mem.tail _ (List.Mem.tail _ (List.Mem.tail _ a2))))) : AllP P 30 X w).go _ (bN (by omega))⟩ ?_
  refine dC (φ := bP (gt P (i : Int)).x 30) ⟨fun X w hw => (hw _ (List.Mem.head _) : IsP (gt P (i : Int)) 30 X w).x⟩ ?_
  refine dC (φ := bP (gt P (i : Int)).y 30) ⟨fun X w hw => (hw _ (List.Mem.tail _ (List.Mem.head _)) : IsP (gt P (i : Int)) 30 X w).y⟩ ?_
  repeat (refine aI ?_)
  (refine aB rfl rfl ?_; intro b7; refine ⟨okF, ?_⟩)
  repeat (refine aI ?_)
  refine lU (fun G M I => ∃ p4 : RL, p4.q = pt4 (tL W i) ∧ G = [(1, .slice q2 n c2), (5, .slice q rows.length c), (6, .int .i64 i), (8, lv p4), (14, .slice q1 n c1), (15, .int .i64 n), (16, .int .i64 i)] ∧ M = .row q rows.length c (recs eL rows) 34 1 :: M0 ∧ I = iR rows 60 :: iW p4 30 :: bP (gt P (i : Int)).y 30 :: bP (gt P (i : Int)).x 30 :: I0) ?_ ?_
  ·(repeat refine aK ?_); refine fQ [0, 1, 2, 3, 4, 5, 6, 7, 8] [2, 1, 2, 1, 2, 1, 0, 0, 0] mixed (by kernel_rfl) ?_
   repeat (refine aI ?_)
   (refine aA rfl (hWh 1 _ _ (by decide) (by decide)) rfl rfl ?_; rintro _ _ _ ⟨rfl, e1, rfl, he1, rfl⟩; refine ⟨okF, ?_⟩)
   (refine bL (cs := recs eR [(gt W (i : Int)).x, (gt W (i : Int)).y, (gt W (i : Int)).z, e1]) ([rv (gt W (i : Int)).x, rv (gt W (i : Int)).y, rv (gt W (i : Int)).z, rv e1]) rfl rfl (by intro v hv; repeat (first | exact absurd hv (List.not_mem_nil) | (rcases List.mem_cons.1 hv with rfl | hv; · rfl))) (by omega) rfl rfl rfl ?_; intro bl; refine ⟨okF, ?_⟩)
   refine bT .here ?_
   refine dW (φ := bP e1 30) (Hv.q (k := 0) aC (by omega)) ?_
   refine dW (φ := iW ⟨some ⟨bl, 0, none⟩, 4, [(gt W (i : Int)).x, (gt W (i : Int)).y, (gt W (i : Int)).z, e1]⟩ 30) (Hv.l4 aC (Ok.mk _ _) aC aC aC aC) ?_
   repeat (refine aI ?_)
   refine aQ _ _ _ aO aF aD ⟨⟨some ⟨bl, 0, none⟩, 4, [(gt W (i : Int)).x, (gt W (i : Int)).y, (gt W (i : Int)).z, e1]⟩, by show [_, _, _, e1.q] = _; rw [he1]; rfl, rfl, rfl, rfl⟩
  rintro G M I ⟨p4, hp4, rfl, rfl, rfl⟩
  have hp4l : p4.es.length = 4 := by have := congrArg List.length hp4; simpa [pt4, tL, VE.q] using this
  repeat (refine aI ?_)
  refine aV [1, 6, 8, 14, 15, 16] rfl (fun k G M I => ∃ (j : Nat) (rows : List RL) (q : Option Addr) (c : Nat), j ≤ 2 ∧ k = 2 - j ∧ rows.length = 2 * i + j ∧ rows.map RL.q = eqs (tL W) (xE P) i ++ [eqU (tL W i) (xE P i).x, eqV (tL W i) (xE P i).y].take j ∧ G = [(5, .slice q rows.length c), (29, .int .i64 j)] ∧ M = .row q rows.length c (recs eL rows) 34 1 :: M0 ∧ I = iR rows 60 :: iW p4 30 :: bP (gt P (i : Int)).y 30 :: bP (gt P (i : Int)).x 30 :: I0) (2) _ _ _ aO aF aD (⟨0, rows, q, c, by omega, rfl, by omega, by rw [hrq]; simp, rfl, rfl, rfl⟩) ?_
  clear hrl hrq
  clear rows q c
  rintro kk G M I ⟨j, rows, q, c, hj, rfl, hrl, hrq, rfl, rfl, rfl⟩
  by_cases hj2 : j < 2
  ·repeat (refine aI ?_)
   (refine jO (12) rfl rfl (by omega) (by omega) (by omega) (by omega) (oF (enc := e4) (by decide) z4 12) rfl rfl ?_; intro bi; refine ⟨okF, ?_⟩)
   repeat (refine aI ?_)
   refine dC (φ := dL [] 60) Hv.nilR ?_
   refine aV [1, 5, 6, 8, 9, 10, 14, 15, 16, 29, 34] rfl (fun k G M I => ∃ (t : Nat) (es : List RE), t ≤ 12 ∧ k = 12 - t ∧ es.length = t ∧ es.map RE.q = List.replicate t 0 ∧ G = [(35, .int .i64 t)] ∧ M = .blk bi (recs e4 (es.map t4 ++ List.replicate (12 - t) z4)) 42 :: .row q rows.length c (recs eL rows) 34 1 :: M0 ∧ I = dL es 60 :: iR rows 60 :: iW p4 30 :: bP (gt P (i : Int)).y 30 :: bP (gt P (i : Int)).x 30 :: I0) (12) _ _ _ aO aF aD (⟨0, [], by omega, rfl, rfl, rfl, rfl, rfl, rfl⟩) ?_
   rintro kk G M I ⟨t, es, ht, rfl, hel, heq, rfl, rfl, rfl⟩
   by_cases ht2 : t < 12
   ·have hz2 := uE (n := 12 - t) (z := z4) (by omega)
    rw [hz2]
    have hl2 : ((es.map t4 ++ z4 :: List.replicate (12 - t - 1) z4).length : Int) = 12 := by simp; omega
    repeat (refine aI ?_)
    (refine aA rfl (hWh 0 _ _ (by decide) (by decide)) rfl rfl ?_; rintro _ _ _ ⟨rfl, e, rfl, he, rfl⟩; refine ⟨okF, ?_⟩)
    refine dW (φ := bP e 60) (Hv.q (k := 0) aC (by omega)) ?_
    repeat (refine yXh ?_)
    refine gI (vs := eR e) rfl rfl rfl (Ones.one e) kQ (StAts.r (t4 e) (by omega) rfl) rfl rfl ⟨okF, ?_⟩
    rw [wY (by simp; omega)]
    repeat (refine aI ?_)
    refine bI (φ := dL (es ++ [e]) 60) (Hv.snoc aC aC) ?_
    have e9 : es.map t4 ++ t4 e :: List.replicate (12 - t - 1) z4 = (es ++ [e]).map t4 ++ List.replicate (12 - (t + 1)) z4 := by simp [Nat.sub_sub]
    rw [e9]
    refine aP (12 - (t + 1)) _ _ _ (by first | omega | (simp only [List.length_append, List.length_cons, List.length_nil]; omega)) aO aF aD (⟨t + 1, es ++ [e], by omega, rfl, by simp; omega, by rw [List.map_append, heq, List.replicate_succ']; show _ ++ [e.q] = _; rw [he]; rfl, rfl, rfl, rfl⟩)
   obtain rfl : t = 12 := by omega
   rw [Nat.sub_self, List.replicate_zero, List.append_nil, aCR]
   have he0 : ∀ u : Nat, u < 12 → (gt es (u : Int)).q = 0 := fun u hu => by
    have e1 := jR (es := es) (j := u) (by omega)
    rw [← e1]
    show (es.map RE.q).getD u 0 = 0
    rw [heq, List.getD_eq_getElem?_getD, List.getElem?_replicate, if_pos hu]; rfl
   repeat (refine aI ?_)
   (apply kF; exact fH; exact rfl; exact aC; exact AtsZ.r4 (enc := eP) (ms := P) (i := (i : Int)) (j := 0) (by omega) rfl rfl rfl rfl; exact rfl; exact rfl)
   repeat (refine aI ?_)
   (refine aB rfl rfl ?_; intro b12; refine ⟨okF, ?_⟩)
   have hjj : j = 0 ∨ j = 1 := by omega
   rcases hjj with rfl | rfl
   ·repeat (refine aI ?_)
    refine aV [1, 5, 6, 8, 9, 10, 12, 14, 15, 16, 29] rfl (fun k G M I => ∃ (t : Nat) (es : List RE), t ≤ 4 ∧ k = 4 - t ∧ es.length = 12 ∧ (∀ u : Nat, u < 12 → (gt es (u : Int)).q = xJ (pt4 (tL W i)) (gt P (i : Int)).x.q 0 t u) ∧ G = [(55, .int .i64 t)] ∧ M = .blk b12 (eR (gt P (i : Int)).x) 42 :: .blk bi (recs eR es) 42 :: .row q rows.length c (recs eL rows) 34 1 :: M0 ∧ I = dL es 60 :: bP (gt P (i : Int)).x 30 :: iR rows 60 :: iW p4 30 :: bP (gt P (i : Int)).y 30 :: bP (gt P (i : Int)).x 30 :: I0) (4) _ _ _ aO aF aD (⟨0, es, by omega, rfl, hel, fun u hu => by rw [he0 u hu, aLO], rfl, rfl, rfl⟩) ?_
    clear he0 heq hel
    clear es
    rintro kk G M I ⟨t, es, ht, rfl, hel, hes, rfl, rfl, rfl⟩
    by_cases ht4 : t < 4
    ·have hg4 : (gt p4.es (t : Int)).q = (pt4 (tL W i)).getD t 0 := by rw [← hp4]; exact (jR (by omega)).symm
     refine dC (φ := bH p4.p (recs eR p4.es)) ⟨fun X w hw => ⟨(hw _ (by exact aC) : IsL p4 30 X w).sl⟩⟩ ?_
     refine dC (φ := bP (gt p4.es (t : Int)) 30) ⟨fun X w hw => (hw _ (by exact aC) : IsL p4 30 X w).el _ (bN (by omega))⟩ ?_
     refine dC (φ := bP (gt p4.es (t : Int)) 60) (Hv.q (k := 30) aC (by omega)) ?_
     refine dC (φ := dL (st es ((4 * 0 + t : Nat) : Int) (gt p4.es (t : Int))) 60) (Hv.stR aC aC) ?_
     have hix : (4 * ((0 : Nat) : Int) + (t : Int)) = ((4 * 0 + t : Nat) : Int) := by omega
     have hix2 : (8 + (t : Int)) = ((8 + t : Nat) : Int) := by omega
     repeat (refine yXh ?_)
     rw [hix]
     repeat (refine aI ?_)
     (repeat refine aK ?_); refine dI (.blk b12 (eR (gt P (i : Int)).x) 42 :: M0) (bH p4.p (recs eR p4.es) :: bP (gt p4.es (t : Int)) 30 :: bP (gt P (i : Int)).x 30 :: I0) [0, 1, 2, 3, 4, 5, 6, 7, 8, 9, 10, 11] [2, 2, 2, 1, 2, 2, 2, 1, 0, 0, 0, 0] aF aD mixed (by kernel_rfl) ?_
     repeat (refine aI ?_)
     (refine aA rfl (hMl (gt P (i : Int)).x (gt p4.es (t : Int)) _ _ (Hv.mem aC) (Hv.mem aC)) rfl rfl ?_; rintro _ _ _ ⟨rfl, e1, rfl, he1, rfl⟩; refine ⟨okF, ?_⟩)
     (refine aA rfl (hNg e1 _ _ (Hv.mem aC)) rfl rfl ?_; rintro _ _ _ ⟨rfl, e2, rfl, he2, rfl⟩; refine ⟨okF, ?_⟩)
     repeat (refine yXh ?_)
     rw [hix2]
     have hl1 : (st es ((4 * 0 + t : Nat) : Int) (gt p4.es (t : Int))).length = 12 := by rw [dK]; exact hel
     refine dW (φ := dL (st (st es ((4 * 0 + t : Nat) : Int) (gt p4.es (t : Int))) ((8 + t : Nat) : Int) e2) 60) (Hv.stR aC aC) ?_
     repeat (refine aI ?_)
     refine aP (4 - (t + 1)) _ _ _ (by first | omega | (simp only [List.length_append, List.length_cons, List.length_nil]; omega)) aO aF aD (⟨t + 1, _, by omega, rfl, by rw [dK]; exact hl1, fun u hu => ?_, rfl, rfl, rfl⟩)
     rw [nH (by omega), aLX (by omega) ht4]
     by_cases k1 : u = 8 + t
     ·rw [if_pos k1, if_pos k1, he2, he1, hg4]
     ·rw [if_neg k1, if_neg k1, nH (by omega)]
      by_cases k2 : u = 4 * 0 + t
      ·rw [if_pos k2, if_pos k2, hg4]
      ·rw [if_neg k2, if_neg k2, hes u hu]
    ·obtain rfl : t = 4 := by omega
     refine aAL (fun _ hw => hw.freezeB (b := bi) mG) ?_
     refine dC (φ := iW ⟨some ⟨bi, 0, none⟩, 12, es⟩ 60) (Hv.lA aC aC (Ok.mk _ _) (by omega)) ?_
     have hlv : Value.slice (some ⟨bi, 0, none⟩) 12 12 = lv ⟨some ⟨bi, 0, none⟩, 12, es⟩ := by show _ = Value.slice _ es.length 12; rw [hel]
     rw [hlv]
     have hRq : (⟨some ⟨bi, 0, none⟩, 12, es⟩ : RL).q = eqU (tL W i) (xE P i).x := by
      have e1 : qs es = (List.range 12).map (xJ (pt4 (tL W i)) (gt P (i : Int)).x.q 0 4) := by
       apply List.ext_getElem
       ·simp [qs, hel]
       ·intro u h3 h4
        have hu : u < 12 := by simpa using h4
        have := hes u hu
        rw [fA (by omega)] at this
        simp only [qs, List.getElem_map, List.getElem_range]
        exact this
      show qs es = _
      rw [e1]
      exact aQU
     repeat (refine aI ?_)
     (refine bL (cs := recs eL [(⟨some ⟨bi, 0, none⟩, 12, es⟩ : RL)]) ([lv ⟨some ⟨bi, 0, none⟩, 12, es⟩]) rfl rfl (by intro v hv; repeat (first | exact absurd hv (List.not_mem_nil) | (rcases List.mem_cons.1 hv with rfl | hv; · rfl))) (by omega) rfl rfl rfl ?_; intro bC; refine ⟨okF, ?_⟩)
     (refine eY (ys := [(⟨some ⟨bi, 0, none⟩, 12, es⟩ : RL)]) 2 rfl rfl rfl ?_ (by decide) rfl (by omega) (by omega) rfl rfl ?_; (· first | exact Src.blk aC | exact Src.row aC | exact Src.imm aC (by first | assumption | exact .inl (Ok.mk _ _))); intro q3 c3; refine ⟨okF, ?_⟩)
     repeat (refine aI ?_)
     refine bI (φ := iR (rows ++ [(⟨some ⟨bi, 0, none⟩, 12, es⟩ : RL)]) 60) (Hv.snoc1L aC aC) ?_
     refine aP (2 - (0 + 1)) _ _ _ (by first | omega | (simp only [List.length_append, List.length_cons, List.length_nil]; omega)) aO aF aD (⟨0 + 1, rows ++ [(⟨some ⟨bi, 0, none⟩, 12, es⟩ : RL)], q3, c3, by omega, rfl, by simp; omega, ?_, rfl, rfl, rfl⟩)
     rw [List.map_append, hrq, List.map_cons, List.map_nil, hRq]
     simp
   ·repeat (refine aI ?_)
    (apply kF; exact fH; exact rfl; exact aC; exact AtsZ.r4 (enc := eP) (ms := P) (i := (i : Int)) (j := 4) (by omega) rfl rfl rfl rfl; exact rfl; exact rfl)
    repeat (refine aI ?_)
    refine aV [1, 5, 6, 8, 9, 10, 12, 14, 15, 16, 29] rfl (fun k G M I => ∃ (t : Nat) (es : List RE), t ≤ 4 ∧ k = 4 - t ∧ es.length = 12 ∧ (∀ u : Nat, u < 12 → (gt es (u : Int)).q = xJ (pt4 (tL W i)) (gt P (i : Int)).y.q 1 t u) ∧ G = [(55, .int .i64 t)] ∧ M = .blk b12 (eR (gt P (i : Int)).y) 42 :: .blk bi (recs eR es) 42 :: .row q rows.length c (recs eL rows) 34 1 :: M0 ∧ I = dL es 60 :: bP (gt P (i : Int)).y 30 :: iR rows 60 :: iW p4 30 :: bP (gt P (i : Int)).y 30 :: bP (gt P (i : Int)).x 30 :: I0) (4) _ _ _ aO aF aD (⟨0, es, by omega, rfl, hel, fun u hu => by rw [he0 u hu, aLO], rfl, rfl, rfl⟩) ?_
    clear he0 heq hel
    clear es
    rintro kk G M I ⟨t, es, ht, rfl, hel, hes, rfl, rfl, rfl⟩
    by_cases ht4 : t < 4
    ·have hg4 : (gt p4.es (t : Int)).q = (pt4 (tL W i)).getD t 0 := by rw [← hp4]; exact (jR (by omega)).symm
     refine dC (φ := bH p4.p (recs eR p4.es)) ⟨fun X w hw => ⟨(hw _ (by exact aC) : IsL p4 30 X w).sl⟩⟩ ?_
     refine dC (φ := bP (gt p4.es (t : Int)) 30) ⟨fun X w hw => (hw _ (by exact aC) : IsL p4 30 X w).el _ (bN (by omega))⟩ ?_
     refine dC (φ := bP (gt p4.es (t : Int)) 60) (Hv.q (k := 30) aC (by omega)) ?_
     refine dC (φ := dL (st es ((4 * 1 + t : Nat) : Int) (gt p4.es (t : Int))) 60) (Hv.stR aC aC) ?_
     have hix : (4 * ((1 : Nat) : Int) + (t : Int)) = ((4 * 1 + t : Nat) : Int) := by omega
     have hix2 : (8 + (t : Int)) = ((8 + t : Nat) : Int) := by omega
     repeat (refine yXh ?_)
     rw [hix]
     repeat (refine aI ?_)
     (repeat refine aK ?_); refine dI (.blk b12 (eR (gt P (i : Int)).y) 42 :: M0) (bH p4.p (recs eR p4.es) :: bP (gt p4.es (t : Int)) 30 :: bP (gt P (i : Int)).y 30 :: I0) [0, 1, 2, 3, 4, 5, 6, 7, 8, 9, 10, 11] [2, 2, 2, 1, 2, 2, 2, 1, 0, 0, 0, 0] aF aD mixed (by kernel_rfl) ?_
     repeat (refine aI ?_)
     (refine aA rfl (hMl (gt P (i : Int)).y (gt p4.es (t : Int)) _ _ (Hv.mem aC) (Hv.mem aC)) rfl rfl ?_; rintro _ _ _ ⟨rfl, e1, rfl, he1, rfl⟩; refine ⟨okF, ?_⟩)
     (refine aA rfl (hNg e1 _ _ (Hv.mem aC)) rfl rfl ?_; rintro _ _ _ ⟨rfl, e2, rfl, he2, rfl⟩; refine ⟨okF, ?_⟩)
     repeat (refine yXh ?_)
     rw [hix2]
     have hl1 : (st es ((4 * 1 + t : Nat) : Int) (gt p4.es (t : Int))).length = 12 := by rw [dK]; exact hel
     refine dW (φ := dL (st (st es ((4 * 1 + t : Nat) : Int) (gt p4.es (t : Int))) ((8 + t : Nat) : Int) e2) 60) (Hv.stR aC aC) ?_
     repeat (refine aI ?_)
     refine aP (4 - (t + 1)) _ _ _ (by first | omega | (simp only [List.length_append, List.length_cons, List.length_nil]; omega)) aO aF aD (⟨t + 1, _, by omega, rfl, by rw [dK]; exact hl1, fun u hu => ?_, rfl, rfl, rfl⟩)
     rw [nH (by omega), aLX (by omega) ht4]
     by_cases k1 : u = 8 + t
     ·rw [if_pos k1, if_pos k1, he2, he1, hg4]
     ·rw [if_neg k1, if_neg k1, nH (by omega)]
      by_cases k2 : u = 4 * 1 + t
      ·rw [if_pos k2, if_pos k2, hg4]
      ·rw [if_neg k2, if_neg k2, hes u hu]
    ·obtain rfl : t = 4 := by omega
     refine aAL (fun _ hw => hw.freezeB (b := bi) mG) ?_
     refine dC (φ := iW ⟨some ⟨bi, 0, none⟩, 12, es⟩ 60) (Hv.lA aC aC (Ok.mk _ _) (by omega)) ?_
     have hlv : Value.slice (some ⟨bi, 0, none⟩) 12 12 = lv ⟨some ⟨bi, 0, none⟩, 12, es⟩ := by show _ = Value.slice _ es.length 12; rw [hel]
     rw [hlv]
     have hRq : (⟨some ⟨bi, 0, none⟩, 12, es⟩ : RL).q = eqV (tL W i) (xE P i).y := by
      have e1 : qs es = (List.range 12).map (xJ (pt4 (tL W i)) (gt P (i : Int)).y.q 1 4) := by
       apply List.ext_getElem
       ·simp [qs, hel]
       ·intro u h3 h4
        have hu : u < 12 := by simpa using h4
        have := hes u hu
        rw [fA (by omega)] at this
        simp only [qs, List.getElem_map, List.getElem_range]
        exact this
      show qs es = _
      rw [e1]
      exact aQG
     repeat (refine aI ?_)
     (refine bL (cs := recs eL [(⟨some ⟨bi, 0, none⟩, 12, es⟩ : RL)]) ([lv ⟨some ⟨bi, 0, none⟩, 12, es⟩]) rfl rfl (by intro v hv; repeat (first | exact absurd hv (List.not_mem_nil) | (rcases List.mem_cons.1 hv with rfl | hv; · rfl))) (by omega) rfl rfl rfl ?_; intro bC; refine ⟨okF, ?_⟩)
     (refine eY (ys := [(⟨some ⟨bi, 0, none⟩, 12, es⟩ : RL)]) 2 rfl rfl rfl ?_ (by decide) rfl (by omega) (by omega) rfl rfl ?_; (· first | exact Src.blk aC | exact Src.row aC | exact Src.imm aC (by first | assumption | exact .inl (Ok.mk _ _))); intro q3 c3; refine ⟨okF, ?_⟩)
     repeat (refine aI ?_)
     refine bI (φ := iR (rows ++ [(⟨some ⟨bi, 0, none⟩, 12, es⟩ : RL)]) 60) (Hv.snoc1L aC aC) ?_
     refine aP (2 - (1 + 1)) _ _ _ (by first | omega | (simp only [List.length_append, List.length_cons, List.length_nil]; omega)) aO aF aD (⟨1 + 1, rows ++ [(⟨some ⟨bi, 0, none⟩, 12, es⟩ : RL)], q3, c3, by omega, rfl, by simp; omega, ?_, rfl, rfl, rfl⟩)
     rw [List.map_append, hrq, List.map_cons, List.map_nil, hRq]
     simp
  ·obtain rfl : j = 2 := by omega
   repeat (refine aI ?_)
   refine aP (n - (i + 1)) _ _ _ (by first | omega | (simp only [List.length_append, List.length_cons, List.length_nil]; omega)) aO aF aD (⟨i + 1, rows, q, c, by omega, rfl, by omega, by rw [hrq]; rfl, rfl, rfl, rfl⟩)
 ·obtain rfl : n = i := by omega
  have hrow : ∀ r ∈ rows, r.es.length = 12 := fun r hr => by
   have h12 := aHG (W := tL W) (P := xE P) (n := n) (fun i hi => rfl) r.q (by rw [← hrq]; exact List.mem_map.2 ⟨r, hr, rfl⟩)
   have : r.q.length = r.es.length := by show (qs r.es).length = _; simp [qs]
   omega
  repeat (refine aI ?_)
  refine yZ (k := 60) aC ?_
  refine aN (by first | exact .inl rfl | exact .inr rfl) rfl rfl _ _ aF aD (⟨rfl, ⟨q, c, rows⟩, rfl, hrq, ⟨hrl, hrow⟩, rfl⟩)
end
end Go.Proofs.YtgeagiikkeiioaaGreat
namespace Go.Proofs.YtgeagiikkeiioaaGreat
open Go Go.Fx
theorem aDY {l m : List Rat} : lead (l ++ m) = if lead l = 0 then lead m else lead l := by
 induction l with
 | nil =>
  have e0 : lead ([] : List Rat) = 0 := rfl
  rw [e0, if_pos rfl]; rfl
 | cons a l ih =>
  by_cases ha : a = 0
  ·have e1 : ∀ m : List Rat, lead (a :: m) = lead m := fun m => by unfold lead; simp [List.find?, ha]
   rw [List.cons_append, e1, e1, ih]
  ·have e1 : ∀ m : List Rat, lead (a :: m) = a := fun m => by unfold lead; simp [List.find?, ha]
   rw [List.cons_append, e1, e1, if_neg ha]
theorem aKS {x : Rat} : lead [x] = x := by unfold lead; by_cases h : x = 0 <;> simp [List.find?, h]
theorem aBG {l : List Rat} {i : Nat} (hi : i < l.length) : lead (l.take (i + 1)) = if lead (l.take i) = 0 then l.getD i 0 else lead (l.take i) := by
 have : l.take (i + 1) = l.take i ++ [l.getD i 0] := by
  rw [List.take_add_one]; congr 1
  simp [List.getD, hi]
 rw [this, aDY, aKS]
theorem aIZ {l : List Rat} {i : Nat} (h : lead (l.take i) ≠ 0) : lead l = lead (l.take i) := by
 have : lead (l.take i ++ l.drop i) = lead (l.take i) := by rw [aDY, if_neg h]
 rwa [List.take_append_drop] at this
/- the number that stands at i -/
theorem aQS {l : List Rat} {i : Nat} (hi : i < l.length) : (scl l).getD i 0 = l.getD i 0 / lead (l.take (i + 1)) := by
 have e : (scl l).getD i 0 = l.getD i 0 / lead l := by simp [scl, List.getD, hi]
 rw [e]
 by_cases h : lead (l.take (i + 1)) = 0
 ·have h2 := aBG hi
  rw [h] at h2
  by_cases h3 : lead (l.take i) = 0
  ·rw [if_pos h3] at h2
   rw [← h2]; grind
  ·rw [if_neg h3] at h2; exact absurd h2.symm h3
 ·rw [aIZ h]
end Go.Proofs.YtgeagiikkeiioaaGreat

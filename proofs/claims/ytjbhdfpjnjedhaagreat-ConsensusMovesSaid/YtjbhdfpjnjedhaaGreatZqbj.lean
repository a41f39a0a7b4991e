/- The program's model of homographies. consensus: samples, for any visitor. -/
import Derived.Test.YtjbhdfpjnjedhaaGreatZqbf
import Derived.Test.YtjbhdfpjnjedhaaGreatZqbi
import Derived.Test.YtjbhdfpjnjedhaaGreatZqbh
import Derived.Test.YtjbhdfpjnjedhaaGreatZqau
import Derived.Test.YtjbhdfpjnjedhaaGreatZqaq
set_option linter.unusedSimpArgs false
set_option linter.unusedVariables false
set_option maxRecDepth 100000
set_option maxHeartbeats 4000000
namespace Go.Proofs.YtjbhdfpjnjedhaaGreat
open Go Go.Fx
theorem aKX : ∀ (l : List Int) (f : Nat), l.getD f 0 ≠ 0 → (∀ j, j < f → l.getD j 0 = 0) → wO (l.map (fun x : Int => (x : Rat))) = ((l.getD f 0 : Int) : Rat)
 | [], f, h, _ => absurd (by simp) h
 | x :: r, 0, h, _ => by
  have hx : x ≠ 0 := h
  show (if ((x : Int) : Rat) = 0 then _ else ((x : Int) : Rat)) = _
  rw [if_neg (int_ne hx)]
  rfl
 | x :: r, f + 1, h, hz => by
  have hx : x = 0 := hz 0 (by omega)
  show (if ((x : Int) : Rat) = 0 then wO (r.map (fun x : Int => (x : Rat))) else _) = _
  rw [if_pos (by rw [hx]; rfl)]
  exact aKX r f h (fun j hj => hz (j + 1) (by omega))
def qH (h : HZ) (f i : Nat) : Rat := Rat.divInt (gt h.l (i : Int)).z (gt h.l (f : Int)).z
theorem uZ {h : HZ} {i : Nat} (hi : i < 9) : (gP h.m).getD i 0 = (gt h.l (i : Int)).z := by
 obtain rfl | rfl | rfl | rfl | rfl | rfl | rfl | rfl | rfl : i = 0 ∨ i = 1 ∨ i = 2 ∨ i = 3 ∨ i = 4 ∨ i = 5 ∨ i = 6 ∨ i = 7 ∨ i = 8 := by omega
 all_goals rfl
theorem aWW {ps : List Q4} {h : HZ} {g : Int} {f : Nat} (hg : g ≠ 0) (hm : (gP h.m).map (fun x => x * g) = gP (pG ps)) (hf : f < 9) (h0 : (gt h.l (f : Int)).z ≠ 0) (hz : ∀ j : Nat, j < f → (gt h.l (j : Int)).z = 0) :
  [[qH h f 0, qH h f 1, qH h f 2], [qH h f 3, qH h f 4, qH h f 5], [qH h f 6, qH h f 7, qH h f 8]] = aMZ (aEK (gP (mM (pG ps)))) := by
 have e1 : gP (mM (pG ps)) = ((gP h.m).map (fun x : Int => (x : Rat))).map (fun x => (g : Rat) * x) := by
  show (gP (pG ps)).map (fun x : Int => (x : Rat)) = _
  rw [← hm, List.map_map, List.map_map]
  refine List.map_congr_left (fun x _ => ?_)
  show ((x * g : Int) : Rat) = (g : Rat) * (x : Rat)
  rw [Rat.intCast_mul, Rat.mul_comm]
 have e2 := aKX (gP h.m) f (by rw [uZ hf]; exact h0) (fun j hj => by rw [uZ (by omega)]; exact hz j hj)
 rw [uZ hf] at e2
 rw [e1, aDV (int_ne hg)]
 unfold aEK
 rw [e2]
 have e3 : ∀ a : Int, Rat.divInt a (gt h.l (f : Int)).z = (a : Rat) / ((gt h.l (f : Int)).z : Rat) := fun a => Rat.divInt_eq_div _ _
 unfold qH
 simp only [e3]
 rfl
abbrev zRL : RL := ⟨none, 0, []⟩
def rwH (h : HZ) (f r : Nat) : List (List Rat) := (List.range r).map (fun a => (List.range 3).map (fun b => qH h f (3 * a + b)))
theorem aQW {h : HZ} {f r : Nat} : rwH h f (r + 1) = rwH h f r ++ [(List.range 3).map (fun b => qH h f (3 * r + b))] := by unfold rwH; rw [show List.range (r + 1) = List.range r ++ [r] from List.range_succ, List.map_append]; rfl
section
variable {X : List Nat} {w0 : World} {M0 : List Ent} {I0 : List aT}
theorem aGH {q qs_ : Option Addr} {l : List Q4} {smp : List Int} {n c cs : Nat} (hl : l.length = n) (hn : n ≤ 64) (hs : ∀ s ∈ l, s.near) (hsl : smp.length = 4) (hin : ∀ x ∈ smp, 0 ≤ x ∧ x < n) (hq : aR q (recs kP l) ∈ I0) :
  CD Tryz.prog 51 [.int .i64 3, .slice q n c, .slice qs_ 4 cs] X w0 (.row qs_ 4 cs (recs eZ smp) 3 1 :: M0) I0 (aQA (oW (nE l smp)) kX (.row qs_ 4 cs (recs eZ smp) 3 1 :: M0) I0) := by
 refine bK (φ := aR q (recs kP l)) (Hv.mem hq) ?_
 refine kZ Tryz.func51 rfl Tryz.ntmps51 rfl ?_
 repeat (refine aJ ?_)
 refine lX 65 4 ?_
 refine aZ [0, 1, 19, 20] rfl (fun k G M I => ∃ (i : Nat) (ps : List Q4) (qe : Option Addr) (ce : Nat), i ≤ 4 ∧ k = 4 - i ∧ ps = nE l (smp.take i) ∧ G = [(8, .slice qe ps.length ce), (21, .int .i64 i)] ∧ M = .row qe ps.length ce (recs kP ps) 65 4 :: .row qs_ 4 cs (recs eZ smp) 3 1 :: M0 ∧ I = aR q (recs kP l) :: I0) (4) _ _ _ aL aG aD (⟨0, [], none, 0, by omega, rfl, rfl, rfl, rfl, rfl⟩) ?_
 rintro kk G M I ⟨i, ps, qe, ce, hi, rfl, hps, rfl, rfl, rfl⟩
 have hpl : ps.length = i := by rw [hps, xM, List.length_take]; omega
 by_cases hin2 : i < 4
 ·have hz := hin _ (eP (ms := smp) (i := (i : Int)) (by omega))
  have ht : smp.take (i + 1) = smp.take i ++ [gt smp (i : Int)] := by rw [gtQ (by omega)]; exact (List.take_append_getElem (by omega)).symm
  repeat (refine aJ ?_)
  (refine dB (cs := recs kP [gt l (gt smp (i : Int))]) ([vQ4 (gt l (gt smp (i : Int)))]) rfl rfl (by intro v hv; repeat (first | exact absurd hv (List.not_mem_nil) | (rcases List.mem_cons.1 hv with rfl | hv; · rfl))) (by omega) rfl rfl rfl ?_; intro b; refine ⟨okF, ?_⟩)
  (refine gD (ys := [gt l (gt smp (i : Int))]) 1 rfl rfl rfl ?_ (by decide) rfl (by omega) (by omega) rfl rfl ?_; (· first | exact Src.blk aB | exact Src.row aB | exact Src.imm aB (by first | assumption | exact .inl (Ok.mk _ _))); intro q2 c2; refine ⟨okF, ?_⟩)
  repeat (refine aJ ?_)
  refine aK (4 - (i + 1)) _ _ _ (by first | omega | (simp only [List.length_append, List.length_cons, List.length_nil]; omega)) aL aG aD (⟨i + 1, ps ++ [gt l (gt smp (i : Int))], q2, c2, by omega, rfl, by rw [ht, aBM, ← hps], rfl, rfl, rfl⟩)
 obtain rfl : i = 4 := by omega
 rw [← hsl, List.take_length] at hps
 have hnr := aAS hs (by rw [hl]; exact hin)
 rw [← hps] at hnr ⊢
 have hF := fun M0 I0 => aSL (X := X) (w0 := w0) (M0 := M0) (I0 := I0) (ps := ps) hpl hnr
 unfold aPA at hF
 refine aDZ (fun _ e _ => by omega) (fun b tl hqe hce => ?_)
 subst hqe
 rw [hpl]
 repeat (refine aJ ?_)
 (refine aC rfl (fun _ => aJG rfl (by omega)) rfl rfl ?_)
 (apply gM; exact dX; exact rfl; exact aB; exact AtsZ.app (AtsZ.all (by rw [iE, hpl])); exact rfl; exact rfl)
 repeat (refine aJ ?_)
 by_cases hc : colP (l4 ps) ∨ colP (m4 ps)
 ·have hp : oW ps = none := by unfold oW; rw [if_pos hc]
  rw [hp]
  simp only [if_pos hc] at hF
  (refine aA rfl (hF _ _) rfl rfl ?_; rintro _ _ _ ⟨rfl, rfl, rfl⟩; refine ⟨okF, ?_⟩)
  repeat (refine aJ ?_)
  (refine aF rfl rfl ?_; intro b11; refine ⟨okF, ?_⟩)
  repeat (refine aJ ?_)
  refine kD (M' := .row qs_ 4 cs (recs eZ smp) 3 1 :: M0) (I' := I0) aG aD ?_
  refine gL [6, 7] (by first | exact .inl rfl | exact .inr rfl) rfl rfl rfl _ _ aG aD (⟨rfl, rfl, _, rfl⟩)
 have hp : oW ps = some (aMZ (aEK (gP (mM (pG ps))))) := by unfold oW; rw [if_neg hc]
 rw [hp]
 simp only [if_neg hc] at hF
 (refine aA rfl (hF _ _) rfl rfl ?_; rintro _ _ _ ⟨rfl, h, g, rfl, hg0, hhm, rfl⟩; refine ⟨okF, ?_⟩)
 obtain ⟨hc1, hc2⟩ : ¬ colP (l4 ps) ∧ ¬ colP (m4 ps) := ⟨fun h => hc (.inl h), fun h => hc (.inr h)⟩
 have hnz : ∃ j : Nat, j < 9 ∧ (gt h.l (j : Int)).z ≠ 0 := Classical.byContradiction (fun hn => by
  obtain ⟨x, hx, hx0⟩ := zS hc1 hc2
  rw [← hhm] at hx
  obtain ⟨y, hy, rfl⟩ := List.mem_map.1 hx
  obtain ⟨j, hj, rfl⟩ := List.mem_iff_getElem.1 hy
  have hj9 : j < 9 := hj
  refine hn ⟨j, hj9, fun e => hx0 ?_⟩
  have h2 := uZ (h := h) hj9
  rw [e, List.getD_eq_getElem?_getD, List.getElem?_eq_getElem hj] at h2
  have h3 : (gP h.m)[j] = 0 := h2
  exact (congrArg (· * g) h3).trans (Int.zero_mul g))
 repeat (refine aJ ?_)
 (refine aF rfl rfl ?_; intro b11; refine ⟨okF, ?_⟩)
 repeat (refine aJ ?_)
 (refine aC rfl (fun _ => pV rfl) rfl rfl ?_)
 (refine aA rfl (aUI (b := b11) (es := h.l) rfl aB hnz) rfl rfl ?_; rintro _ _ _ ⟨rfl, rfl, f, rfl, hf9, hf0, hfz⟩; refine ⟨okF, ?_⟩)
 repeat (refine aJ ?_)
 (refine lL (3) rfl rfl (by omega) (by omega) (by omega) (by omega) (pY (enc := eL) (by decide) zRL 3) rfl rfl ?_; intro bm; refine ⟨okF, ?_⟩)
 repeat (refine aJ ?_)
 obtain ⟨zf, hzf⟩ : ∃ zf, gt h.l (f : Int) = zf := ⟨_, rfl⟩
 rw [hzf] at hf0
 refine dV (φ := nS (h.l.map some) 772) (Hv.hAll aB) ?_
 refine dV (φ := jM zf 772) (Hv.oAt (os := h.l.map some) (i := (f : Int)) aB ⟨by omega, by show (f : Int) < ((9 : Nat) : Int); omega⟩ (by rw [tZ ⟨by omega, by show (f : Int) < ((9 : Nat) : Int); omega⟩, hzf])) ?_
 refine dV (φ := dL [] 772) Hv.nilR ?_
 refine dV (φ := kI [] 772) Hv.nilL ?_
 refine lX 50 4 ?_
 refine aZ [11, 13, 14, 52] rfl (fun k G M I => ∃ (r j : Nat) (dn : List RL) (cur : RL) (hdr : List RL), 3 * r + j ≤ 9 ∧ k = 9 - (3 * r + j) ∧ j < 3 ∧ dn.length = r ∧ cur.es.length = j ∧ ((hdr = dn ++ cur :: List.replicate (2 - r) zRL ∧ r < 3) ∨ (hdr = dn ∧ r = 3)) ∧ dn.map RL.q = rwH h f r ∧ (∀ x ∈ dn, x.es.length = 3) ∧ qs cur.es = (List.range j).map (fun b => qH h f (3 * r + b)) ∧ G = [(53, .int .i64 ((3 * r + j : Nat) : Int))] ∧ M = .row cur.p cur.es.length cur.c (recs eR cur.es) 50 4 :: .blk bm (recs eL hdr) 53 :: .blk b11 (lV h) 128 :: .row qs_ 4 cs (recs eZ smp) 3 1 :: M0 ∧ I = dL cur.es 772 :: kI dn 772 :: jM zf 772 :: nS (h.l.map some) 772 :: I0) (9) _ _ _ aL aG aD (⟨0, 0, [], zRL, List.replicate 3 zRL, by omega, rfl, by omega, rfl, rfl, .inl ⟨rfl, by omega⟩, rfl, fun x hx => absurd hx List.not_mem_nil, rfl, rfl, rfl, rfl⟩) ?_
 rintro kk G M I ⟨r, j, dn, cur, hdr, hrj, rfl, hj3, hdl, hcl, hh, hdq, hd3, hcq, rfl, rfl, rfl⟩
 obtain ⟨i, hi⟩ : ∃ i, 3 * r + j = i := ⟨_, rfl⟩
 rw [hi]
 by_cases hii : i < 9
 ·obtain ⟨hhd, hr3⟩ : hdr = dn ++ cur :: List.replicate (2 - r) zRL ∧ r < 3 := hh.elim id (fun h => by omega)
  have hhl : hdr.length = 3 := by rw [hhd]; simp; omega
  have hgr : gt hdr (r : Int) = cur := by rw [hhd]; exact aBL (by omega)
  obtain ⟨x, hx⟩ : ∃ x, gt h.l (i : Int) = x := ⟨_, rfl⟩
  refine dV (φ := jM x 772) (Hv.oAt (os := h.l.map some) (i := (i : Int)) aB ⟨by omega, by show (i : Int) < ((9 : Nat) : Int); omega⟩ (by rw [tZ ⟨by omega, by show (i : Int) < ((9 : Nat) : Int); omega⟩, hx])) ?_
  have hN := fun M0 I0 h1 h2 => aUB (X := X) (w0 := w0) (M0 := M0) (I0 := I0) (x := x) (y := zf) (u := 772) (by omega) hf0 h1 h2
  unfold RQc at hN
  repeat (refine aJ ?_)
  (refine aC rfl (fun _ => wK (cs := recs eN h.l) (vs := eN x) (i := (i : Int)) rfl rfl ⟨by omega, by omega⟩ (by rw [← hx]; exact aDI ⟨by omega, by show (i : Int) < ((9 : Nat) : Int); omega⟩)) rfl rfl ?_)
  (refine aF rfl rfl ?_; intro b16; refine ⟨okF, ?_⟩)
  repeat (refine aJ ?_)
  refine pW (fun G M I => ∃ (b17 : Nat) (e : RE), e.q = Rat.divInt x.z zf.z ∧ G = [(11, .pointer (some ⟨b11, 0, none⟩)), (13, .int .i64 (f : Int)), (14, .slice (some ⟨bm, 0, none⟩) 3 3), (15, .int .i64 (i : Int)), (17, .pointer (some ⟨b17, 0, none⟩)), (52, gZ h), (53, .int .i64 (i : Int))] ∧ M = .blk b17 (eR e) 50 :: .row cur.p cur.es.length cur.c (recs eR cur.es) 50 4 :: .blk bm (recs eL hdr) 53 :: .blk b11 (lV h) 128 :: .row qs_ 4 cs (recs eZ smp) 3 1 :: M0 ∧ I = gQ e 772 :: dL cur.es 772 :: kI dn 772 :: jM zf 772 :: nS (h.l.map some) 772 :: I0) ?_ ?_
  ·((repeat refine aH ?_); refine uT (.blk b16 (eN x) 48 :: .row cur.p cur.es.length cur.c (recs eR cur.es) 50 4 :: .blk bm (recs eL hdr) 53 :: .blk b11 (lV h) 128 :: .row qs_ 4 cs (recs eZ smp) 3 1 :: M0) (jM x 772 :: dL cur.es 772 :: kI dn 772 :: jM zf 772 :: nS (h.l.map some) 772 :: I0) mixed ?_)
   refine eX (fuel := 7) (listed' := #[true, true, true, true, false, false, false, false, false, false, false]) [0, 1, 2, 3] [1, 2, 2, 1] aG aD (by kernel_rfl) (by kernel_rfl) rfl rfl ?_
   repeat (refine aJ ?_)
   ((apply gM; exact dX; exact rfl; exact aB; exact AtsZ.o0 (enc := eN) (sz := 2) (ms := h.l) (i := (f : Int)) ⟨by omega, by show (f : Int) < ((9 : Nat) : Int); omega⟩; exact rfl; exact rfl); rw [hzf])
   repeat (refine aJ ?_)
   refine bF (fuel := 6) (i := 4) (j := 8) (by kernel_rfl) ?_ ?_
   ·(refine aA rfl (hN _ _ aB aB) rfl rfl ?_; rintro _ _ _ ⟨rfl, e, rfl, he, rfl⟩; refine ⟨okF, ?_⟩)
    refine aN ?_
    refine dM [5, 6, 7, 8, 9, 10] [1, 1, 2, 0, 0, 0] aG aD (by kernel_rfl) (by kernel_rfl) rfl rfl ?_
    repeat (refine aJ ?_)
    (refine aF rfl rfl ?_; intro b17; refine ⟨okF, ?_⟩)
    repeat (refine aJ ?_)
    refine dS _ _ _ aL aG aD ⟨b17, e, he, rfl, rfl, rfl⟩
   ·(refine aF rfl rfl ?_; intro b17; refine ⟨okF, ?_⟩)
    refine aN ?_
    refine dM [4, 5, 6, 7, 9, 10] [0, 0, 0, 1, 0, 0] aG aD (by kernel_rfl) (by kernel_rfl) rfl rfl ?_
    repeat (refine aJ ?_)
    (refine aA rfl (hN _ _ aB aB) rfl rfl ?_; rintro _ _ _ ⟨rfl, e, rfl, he, rfl⟩; refine ⟨okF, ?_⟩)
    repeat (refine aJ ?_)
    refine dS _ _ _ aL aG aD ⟨b17, e, he, rfl, rfl, rfl⟩
  rintro G M I ⟨b17, e, he, rfl, rfl, rfl⟩
  have hir : Int.tdiv (i : Int) 3 = (r : Int) := by rw [Int.tdiv_eq_ediv_of_nonneg (by omega)]; omega
  have hcq2 : qs (cur.es ++ [e]) = (List.range (j + 1)).map (fun b => qH h f (3 * r + b)) := by
   show (cur.es ++ [e]).map RE.q = _
   rw [List.map_append, show cur.es.map RE.q = qs cur.es from rfl, hcq, List.range_succ, List.map_append]
   show _ ++ [e.q] = _ ++ [qH h f (3 * r + j)]
   rw [he]
   unfold qH
   rw [hi, hx, hzf]
  (repeat refine aH ?_); refine rT 2 (.blk b17 (eR e) 50 :: .blk bm (recs eL hdr) 53 :: .blk b11 (lV h) 128 :: .row qs_ 4 cs (recs eZ smp) 3 1 :: M0) (I0) [0, 1, 2, 3, 4, 5, 6, 7, 8, 9, 10, 11, 12] [2, 2, 2, 2, 2, 2, 2, 1, 1, 0, 0, 0, 0] aG aD mixed (by kernel_rfl) ?_
  repeat (refine aJ ?_)
  rw [hir]
  repeat (refine aJ ?_)
  rw [hgr]
  repeat (refine aJ ?_)
  (refine dB (cs := recs eR [e]) ([rv e]) rfl rfl (by intro v hv; repeat (first | exact absurd hv (List.not_mem_nil) | (rcases List.mem_cons.1 hv with rfl | hv; · rfl))) (by omega) rfl rfl rfl ?_; intro b18; refine ⟨okF, ?_⟩)
  (refine gD (ys := [e]) 2 rfl rfl rfl ?_ (by decide) rfl (by omega) (by omega) rfl rfl ?_; (· first | exact Src.blk aB | exact Src.row aB | exact Src.imm aB (by first | assumption | exact .inl (Ok.mk _ _))); intro q2 c3; refine ⟨okF, ?_⟩)
  repeat (refine yXh ?_)
  refine jR rfl rfl rfl kH (StAt.r1 (⟨q2, c3, cur.es ++ [e]⟩ : RL) ⟨by omega, by omega⟩ rfl) rfl rfl ⟨okF, ?_⟩
  rw [hhd, uM (by omega)]
  repeat (refine aJ ?_)
  refine iI (φ := dL (cur.es ++ [e]) 772) (Hv.snoc aB aB) ?_
  by_cases hj2 : j < 2
  ·rw [show (i : Int) + 1 = ((3 * r + (j + 1) : Nat) : Int) by omega]
   refine aK (9 - (3 * r + (j + 1))) _ _ _ (by first | omega | (simp only [List.length_append, List.length_cons, List.length_nil]; omega)) aL aG aD (⟨r, j + 1, dn, ⟨q2, c3, cur.es ++ [e]⟩, dn ++ (⟨q2, c3, cur.es ++ [e]⟩ : RL) :: List.replicate (2 - r) zRL, by omega, rfl, by omega, hdl, by simp [hcl], .inl ⟨rfl, hr3⟩, hdq, hd3, hcq2, rfl, rfl, rfl⟩)
  ·obtain rfl : j = 2 := by omega
   rw [show (i : Int) + 1 = ((3 * (r + 1) + 0 : Nat) : Int) by omega]
   refine kD (M' := .row q2 (cur.es ++ [e]).length c3 (recs eR (cur.es ++ [e])) 50 4 :: .blk bm (recs eL (dn ++ (⟨q2, c3, cur.es ++ [e]⟩ : RL) :: List.replicate (2 - r) zRL)) 53 :: .blk b11 (lV h) 128 :: .row qs_ 4 cs (recs eZ smp) 3 1 :: M0) (I' := dL (cur.es ++ [e]) 772 :: kI dn 772 :: jM zf 772 :: nS (h.l.map some) 772 :: I0) aG aD ?_
   refine aJA (k := 772) aB ?_
   refine iI (φ := kI (dn ++ [(⟨q2, c3, cur.es ++ [e]⟩ : RL)]) 772) (Hv.snocL aB aB) ?_
   refine iI (φ := dL [] 772) Hv.nilR ?_
   refine xP (fun _ hw => hw.row0 50 4) ?_
   refine aK (9 - (3 * (r + 1) + 0)) _ _ _ (by first | omega | (simp only [List.length_append, List.length_cons, List.length_nil]; omega)) aL aG aD (⟨r + 1, 0, dn ++ [(⟨q2, c3, cur.es ++ [e]⟩ : RL)], zRL, dn ++ (⟨q2, c3, cur.es ++ [e]⟩ : RL) :: List.replicate (2 - r) zRL, by omega, rfl, by omega, by simp [hdl], rfl, by
    by_cases h2 : r = 2
    ·subst h2; exact .inr ⟨rfl, rfl⟩
    ·refine .inl ⟨?_, by omega⟩
     obtain ⟨d, hd⟩ : ∃ d, 2 - r = d + 1 := ⟨1 - r, by omega⟩
     rw [hd, show 2 - (r + 1) = d by omega, List.append_assoc]
     rfl, by rw [List.map_append, hdq, aQW]; show _ ++ [qs (cur.es ++ [e])] = _; rw [hcq2], fun x hx => by
    rcases List.mem_append.1 hx with h1 | h1
    ·exact hd3 x h1
    ·rw [List.mem_singleton.1 h1]; simp [hcl], rfl, rfl, rfl, rfl⟩)
 ·obtain ⟨rfl, hr⟩ : hdr = dn ∧ r = 3 := hh.elim (fun h => by omega) id
  subst hr
  match hdr, hdl with
  | [d0, d1, d2], _ =>
   refine aCU (M' := .blk bm (recs eL [d0, d1, d2]) 53 :: .row qs_ 4 cs (recs eZ smp) 3 1 :: M0) (I' := kI [d0, d1, d2] 772 :: I0) aG aD ?_
   refine aLV (C := 3) rfl (by omega) aB ?_
   refine dV (φ := lT ⟨some ⟨bm, 0, none⟩, 3, [d0, d1, d2]⟩ kX) (Hv.xm (k := 772) aB (by show 772 ≤ 103842564; omega)) ?_
   repeat (refine aJ ?_)
   refine kD (M' := .row qs_ 4 cs (recs eZ smp) 3 1 :: M0) (I' := lT ⟨some ⟨bm, 0, none⟩, 3, [d0, d1, d2]⟩ kX :: I0) aG aD ?_
   refine gL [6, 7] (by first | exact .inl rfl | exact .inr rfl) rfl rfl rfl _ _ aG aD (⟨rfl, ⟨some ⟨bm, 0, none⟩, 3, [d0, d1, d2]⟩, rfl, by rw [show MX.q ⟨some ⟨bm, 0, none⟩, 3, [d0, d1, d2]⟩ = [d0, d1, d2].map RL.q from rfl, hdq]; exact aWW hg0 hhm hf9 (by rw [hzf]; exact hf0) hfz, ⟨rfl, hd3⟩, rfl⟩)
end
end Go.Proofs.YtjbhdfpjnjedhaaGreat
namespace Go.Proofs.YtjbhdfpjnjedhaaGreat
open Go Go.Fx
structure PreP (n a : Nat) (pre : List Int) : Prop where
 lt : ∀ x ∈ pre, 0 ≤ x ∧ x < n ∧ x < a
 asc : pre.Pairwise (· < ·)
theorem PreP.snoc {n a i : Nat} {pre : List Int} (h : PreP n a pre) (hai : a ≤ i) (hi : i < n) : PreP n (i + 1) (pre ++ [(i : Int)]) := by
 refine ⟨fun x hx => ?_, List.pairwise_append.2 ⟨h.asc, List.pairwise_singleton _ _, fun x hx y hy => ?_⟩⟩
 ·rcases List.mem_append.1 hx with hx | hx
  ·have := h.lt x hx; omega
  ·rw [List.mem_singleton.1 hx]; omega
 ·rw [List.mem_singleton.1 hy]
  have := h.lt x hx; omega
theorem PreP.smp {n a : Nat} {pre : List Int} (h : PreP n a pre) : SmpP n pre.length 0 pre := ⟨rfl, fun x hx => by have := h.lt x hx; omega, h.asc⟩
theorem aVQ {vis : List (List Int)} {n k a m : Nat} {pre : List Int} :
  (vis ++ (yF n k a m).map (fun l => pre ++ l)) ++ (zK n k (a + m + 1)).map (fun l => (pre ++ [((a + m : Nat) : Int)]) ++ l) = vis ++ (yF n k a (m + 1)).map (fun l => pre ++ l) := by
 rw [aDR, List.map_append, List.map_map, List.append_assoc]
 congr 2
 refine List.map_congr_left (fun l _ => ?_)
 simp
section
variable {σ : Type} (en : σ → Ent) (im : σ → aT) [∀ s, Fx.Good (im s)] (R : List (List Int) → σ → Prop)
variable {X : List Nat} {w0 : World} {M0 M1 : List Ent} {I0 : List aT}
set_option linter.unusedSectionVars false in
theorem aUE {n size b6 b4 b5 b3 b7 : Nat} {g : FuncId} [FnOk Tryz.prog g] {fs cs : Array Value} (hn : n ≤ 64) (hsz : size ≤ 8)
  (f4 : aR (some ⟨b4, 0, none⟩) [.int .i64 (size : Int)] ∈ I0) (f3 : aR (some ⟨b3, 0, none⟩) [.int .i64 (n : Int)] ∈ I0) (f5 : aR (some ⟨b5, 0, none⟩) [.func (.func g) fs cs] ∈ I0)
  (f7 : aR (some ⟨b7, 0, none⟩) [.func (.func 84) #[] #[.pointer (some ⟨b6, 0, none⟩), .pointer (some ⟨b4, 0, none⟩), .pointer (some ⟨b5, 0, none⟩), .pointer (some ⟨b3, 0, none⟩), .pointer (some ⟨b7, 0, none⟩)]] ∈ I0)
  (hV : ∀ (vis : List (List Int)) (s : σ) (l : List Int) (q : Option Addr) (c : Nat) (M2 : List Ent), R vis s → SmpP n size 0 l → CD Tryz.prog g (fs.toList ++ [.slice q size c] ++ cs.toList) X w0 (.row q size c (recs eZ l) 3 1 :: en s :: M2) (im s :: I0)
   (fun _ M I => ∃ s', R (vis ++ [l]) s' ∧ M = .row q size c (recs eZ l) 3 1 :: en s' :: M2 ∧ I = im s' :: I0)) :
  ∀ (k a : Nat) (ai : Int) (pre : List Int) (vis : List (List Int)) (s : σ) (q : Option Addr) (c pl : Nat), ai = (a : Int) → pl = pre.length → pl + k = size → a ≤ n → PreP n a pre → R vis s →
   CD Tryz.prog 84 [.int .i64 ai, .pointer (some ⟨b6, 0, none⟩), .pointer (some ⟨b4, 0, none⟩), .pointer (some ⟨b5, 0, none⟩), .pointer (some ⟨b3, 0, none⟩), .pointer (some ⟨b7, 0, none⟩)] X w0
    (.blk b6 [.slice q pl c] 32 :: .row q pl c (recs eZ pre) 3 1 :: en s :: M1) (im s :: I0)
    (fun _ M I => ∃ (s' : σ) (q' : Option Addr) (c' : Nat), R (vis ++ (zK n k a).map (fun l => pre ++ l)) s' ∧ M = .blk b6 [.slice q' pl c'] 32 :: .row q' pl c' (recs eZ pre) 3 1 :: en s' :: M1 ∧ I = im s' :: I0) := by
 intro k
 induction k with
 | zero =>
  intro a ai pre vis s q c pl hai hpl hk han hp hR
  have hpz : pl = size := by omega
  have hsm : SmpP n size 0 pre := by rw [← hpz, hpl]; exact hp.smp
  have hVs := fun M2 => hV vis s pre q c M2 hR hsm
  rw [← hpz] at hVs f4
  have hfin : vis ++ [pre] = vis ++ (zK n 0 a).map (fun l => pre ++ l) := by simp [zK]
  refine aKN Tryz.func84 rfl Tryz.ntmps84 rfl ?_
  repeat (refine aJ ?_)
  refine vE (M' := .row q pl c (recs eZ pre) 3 1 :: en s :: .blk b6 [.slice q pl c] 32 :: M1) (I' := im s :: I0) aG aD ?_
  (refine eO rfl rfl (hVs _) rfl rfl rfl ?_; rintro _ _ _ ⟨s2, hR2, rfl, rfl⟩; refine ⟨okF, ?_⟩)
  repeat (refine aJ ?_)
  refine kD (M' := .blk b6 [.slice q pl c] 32 :: .row q pl c (recs eZ pre) 3 1 :: en s2 :: M1) (I' := im s2 :: I0) aG aD ?_
  refine nA (by first | exact .inl rfl | exact .inr rfl) rfl _ _ aG aD (⟨s2, q, c, by rw [← hfin]; exact hR2, rfl, rfl⟩)
 | succ k0 ih =>
  intro a ai pre vis s q c pl hai hpl hk han hp hR
  subst hai
  subst hpl
  refine aKN Tryz.func84 rfl Tryz.ntmps84 rfl ?_
  repeat (refine aJ ?_)
  refine aZ [1, 2, 4, 5] rfl (fun k G M I => ∃ (m : Nat) (i : Int) (s : σ) (q : Option Addr) (c : Nat), m ≤ n - a ∧ i = ((a + m : Nat) : Int) ∧ k = n - a - m ∧ R (vis ++ (yF n k0 a m).map (fun l => pre ++ l)) s ∧ G = [(7, .int .i64 i)] ∧ M = .blk b6 [.slice q pre.length c] 32 :: .row q pre.length c (recs eZ pre) 3 1 :: en s :: M1 ∧ I = im s :: I0) (n - a) _ _ _ aL aG aD (⟨0, (a : Int), s, q, c, by omega, rfl, rfl, by rw [aNL]; simpa using hR, rfl, rfl, rfl⟩) ?_
  rintro kk G M I ⟨m, i, s, q, c, hm, hi, rfl, hR, rfl, rfl, rfl⟩
  by_cases hlt : a + m + (k0 + 1) ≤ n
  ·have hih := fun vis s q c hR => ih (a + m + 1) (i + 1) (pre ++ [i]) vis s q c (pre ++ [i]).length (by omega) rfl (by simp; omega) (by omega) (by rw [hi]; exact hp.snoc (by omega) (by omega)) hR
   have hl1 : (pre ++ [i]).length = pre.length + 1 := by simp
   repeat (refine aJ ?_)
   (refine dB (cs := recs eZ [i]) ([.int .i64 i]) rfl rfl (by intro v hv; repeat (first | exact absurd hv (List.not_mem_nil) | (rcases List.mem_cons.1 hv with rfl | hv; · rfl))) (by omega) rfl rfl rfl ?_; intro b9; refine ⟨okF, ?_⟩)
   (refine gD (ys := [i]) 2 rfl rfl rfl ?_ (by decide) rfl (by omega) (by omega) rfl rfl ?_; (· first | exact Src.blk aB | exact Src.row aB | exact Src.imm aB (by first | assumption | exact .inl (Ok.mk _ _))); intro q2 c2; refine ⟨okF, ?_⟩)
   repeat (refine aJ ?_)
   refine vE (M' := .blk b6 [.slice q2 (pre ++ [i]).length c2] 32 :: .row q2 (pre ++ [i]).length c2 (recs eZ (pre ++ [i])) 3 1 :: en s :: M1) (I' := im s :: I0) aG aD ?_
   (refine eO rfl rfl (hih _ s q2 c2 hR) rfl rfl rfl ?_; rintro _ _ _ ⟨s2, q3, c3, hR2, rfl, rfl⟩; refine ⟨okF, ?_⟩)
   rw [hi, aVQ] at hR2
   refine vB (φ := ∃ b, q3 = some ⟨b, 0, none⟩ ∧ (pre ++ [i]).length ≤ c3) (fun w hw => Mem.rowA hw (List.Mem.tail _ (List.Mem.head _)) (by omega)) (fun hb => ?_)
   obtain ⟨b, rfl, hc3⟩ := hb
   repeat (refine aJ ?_)
   (refine aC rfl (fun _ => sU pre.length rfl rfl (by omega) (by omega)) rfl rfl ?_)
   repeat (refine aJ ?_)
   refine aXO (m' := pre.length) (.there .here) (by omega) ?_
   rw [show (recs eZ (pre ++ [i])).take (pre.length * 1) = recs eZ pre by rw [oV]; exact List.take_left' (by rw [iE])]
   refine aK (n - a - (m + 1)) _ _ _ (by first | omega | (simp only [List.length_append, List.length_cons, List.length_nil]; omega)) aL aG aD (⟨m + 1, i + 1, s2, some ⟨b, 0, none⟩, c3, by omega, by omega, rfl, hR2, rfl, rfl, rfl⟩)
  ·have he : yF n k0 a m = zK n (k0 + 1) a := aOY (by omega) hm
   rw [he] at hR
   repeat (refine aJ ?_)
   refine nA (by first | exact .inl rfl | exact .inr rfl) rfl _ _ aG aD (⟨s, q, c, hR, rfl, rfl⟩)
theorem vM {n size : Nat} {g : FuncId} [FnOk Tryz.prog g] {fs cs : Array Value} (hn : n ≤ 64) (hsz : size ≤ 8) {s0 : σ} (h0 : R [] s0)
  (hV : ∀ (I1 : List aT), (∀ φ ∈ I0, φ ∈ I1) → ∀ (vis : List (List Int)) (s : σ) (l : List Int) (q : Option Addr) (c : Nat) (M2 : List Ent), R vis s → SmpP n size 0 l → CD Tryz.prog g (fs.toList ++ [.slice q size c] ++ cs.toList) X w0 (.row q size c (recs eZ l) 3 1 :: en s :: M2) (im s :: I1)
   (fun _ M I => ∃ s', R (vis ++ [l]) s' ∧ M = .row q size c (recs eZ l) 3 1 :: en s' :: M2 ∧ I = im s' :: I1)) :
  CD Tryz.prog 49 [.int .i64 (n : Int), .int .i64 (size : Int), .func (.func g) fs cs] X w0 (en s0 :: M1) (im s0 :: I0) (fun _ M I => ∃ s', R (zK n size 0) s' ∧ M = en s' :: M1 ∧ I = im s' :: I0) := by
 refine kZ Tryz.func49 rfl Tryz.ntmps49 rfl ?_
 refine aH ?_
 refine aI ?_
 (refine jX rfl rfl rfl ?_; intro b3; refine ⟨okF, ?_⟩)
 refine aO .here ?_
 (refine jX rfl rfl rfl ?_; intro b4; refine ⟨okF, ?_⟩)
 refine aO .here ?_
 (refine jX rfl rfl rfl ?_; intro b5; refine ⟨okF, ?_⟩)
 refine aO .here ?_
 repeat (refine aJ ?_)
 (refine aRG size rfl rfl (by omega) (by omega) (by omega) rfl rfl ?_; intro bs; refine ⟨okF, ?_⟩)
 (refine aF rfl rfl ?_; intro b6; refine ⟨okF, ?_⟩)
 repeat (refine aJ ?_)
 (refine aF rfl rfl ?_; intro b7; refine ⟨okF, ?_⟩)
 repeat (refine aJ ?_)
 refine aO .here ?_
 refine vE (M' := .blk b6 [.slice (some ⟨bs, 0, none⟩) 0 size] 32 :: .row (some ⟨bs, 0, none⟩) 0 size (recs eZ []) 3 1 :: en s0 :: M1) (I' := im s0 :: aR (some ⟨b7, 0, none⟩) [.func (.func 84) #[] #[.pointer (some ⟨b6, 0, none⟩), .pointer (some ⟨b4, 0, none⟩), .pointer (some ⟨b5, 0, none⟩), .pointer (some ⟨b3, 0, none⟩), .pointer (some ⟨b7, 0, none⟩)]] :: aR (some ⟨b5, 0, none⟩) [.func (.func g) fs cs] :: aR (some ⟨b4, 0, none⟩) [.int .i64 (size : Int)] :: aR (some ⟨b3, 0, none⟩) [.int .i64 (n : Int)] :: I0) aG aD ?_
 (refine eO rfl rfl (aUE en im R (M1 := M1) hn hsz aB aB aB aB (hV _ (fun φ h => by simp [h])) size 0 0 [] [] s0 (some ⟨bs, 0, none⟩) size 0 rfl rfl (by omega) (by omega) ⟨fun x hx => absurd hx List.not_mem_nil, List.Pairwise.nil⟩ h0) rfl rfl rfl ?_; rintro _ _ _ ⟨s2, q2, c2, hR2, rfl, rfl⟩; refine ⟨okF, ?_⟩)
 repeat (refine aJ ?_)
 refine kD (M' := en s2 :: M1) (I' := im s2 :: I0) aG aD ?_
 refine nA (by first | exact .inl rfl | exact .inr rfl) rfl _ _ aG aD (⟨s2, by simpa using hR2, rfl, rfl⟩)
end
end Go.Proofs.YtjbhdfpjnjedhaaGreat

/- The document's Beside; Solve at a regular matrix. Chapter 29's law: shape. -/
import Derived.Test.YtjbhdfpjnjedhaaGreatZobq
import Derived.Test.YtjbhdfpjnjedhaaGreatZobj
import Derived.Test.YtjbhdfpjnjedhaaGreatZobk
import Derived.Test.YtjbhdfpjnjedhaaGreatZobg
import Derived.Test.YtjbhdfpjnjedhaaGreatZobi
import Derived.Test.YtjbhdfpjnjedhaaGreatZoan
import Derived.Test.YtjbhdfpjnjedhaaGreatZobp
import Derived.Test.YtjbhdfpjnjedhaaGreatZobl
set_option linter.unusedSimpArgs false
set_option linter.unusedVariables false
set_option maxRecDepth 100000
set_option maxHeartbeats 4000000
namespace Go.Proofs.YtjbhdfpjnjedhaaGreat
open Go Go.Fx
theorem Hv.app2 {I : List aY} {a b : List RE} {k : Nat} (h1 : bB a k ∈ I) (h2 : bB b k ∈ I) : Hv I (bB (a ++ b) k) := ⟨fun X w hw => ⟨fun e he => by
 rcases List.mem_append.1 he with h | h
 ·exact (hw _ h1 : AllR a k X w).go e h
 ·exact (hw _ h2 : AllR b k X w).go e h⟩⟩
theorem Hv.xrow1 {I : List aY} {m : MX} {k : Nat} {i : Int} (h : iT m k ∈ I) (hi : 0 ≤ i ∧ i < m.rows.length) : Hv I (bB (gt m.rows i).es k) := ⟨fun X w hw => ⟨((hw _ h : IsX m k X w).row _ (bS hi)).el⟩⟩
theorem aKM {α : Type} [Inhabited α] {a b : List α} {j : Nat} (h : j < a.length) : gt (a ++ b) (j : Int) = gt a (j : Int) := by
 rw [fC (by rw [List.length_append]; omega), List.getElem_append_left h]; exact (fC h).symm
theorem aUO {α : Type} [Inhabited α] {a b : List α} {j : Nat} (h : a.length ≤ j) (h2 : j < a.length + b.length) : gt (a ++ b) (j : Int) = gt b ((j - a.length : Nat) : Int) := by
 rw [fC (by rw [List.length_append]; omega), List.getElem_append_right h]; exact (fC (by omega)).symm
def besM (R C D : Nat) (A B : Mt) : Mt := uK R (C + D) (fun i j => if j < C then at2 A i j else at2 B i (j - C))
theorem aTR {C : Nat} {A : Mt} {b x : List Rat} (hx : x = b) : besM C C 1 A (uK C 1 (fun i _ => x.getD i 0)) = tX C C A b := by
 subst hx
 unfold besM tX
 refine sD (fun i j hi hj => ?_)
 by_cases e : j < C
 ·rw [if_pos e, if_pos e]
 ·rw [if_neg e, if_neg e, oP hi (by omega)]
theorem aWZ {C : Nat} {A : Mt} {b : List Rat} (h : dt C (at2 A) ≠ 0) : ∃ (E : Mt) (pv : List Nat), mK (tX C C A b) (C + 1) = (E, pv) ∧ mK (tX C C A b) C = (E, pv) ∧ pv.length = C ∧ ∀ t, t < C → pv.getD t 0 < C := by
 obtain ⟨hdE, s, hr⟩ := lL (A := tX C C A b) (R := C) (C := C + 1) aPN C (by omega)
 obtain ⟨E, pv, he⟩ : ∃ E pv, mK (tX C C A b) C = (E, pv) := ⟨_, _, rfl⟩
 rw [he] at hr hdE
 have hl : pv.length = C := by
  rw [hr.iff (by omega), kF (g := at2 A) (fun i j hi hj => aFU hi hj)]
  exact h
 exact ⟨E, pv, yM he hdE.1 hl 1, he, hl, fun t ht => hr.piv_lt (by show t < pv.length; omega)⟩
def SolR (l : List Rat) (k : Nat) (M0 : List Ent) (I0 : List aY) (v : Value) (M : List Ent) (I : List aY) : Prop := M0 = M ∧ ∃ r : RL, v = .tuple #[lv r, .bool true] ∧ r.q = l ∧ I = jI r k :: I0
section
variable {X : List Nat} {w0 : World} {M0 : List Ent} {I0 : List aY}
theorem aJK {a b : MX} {R C D u : Nat} (hR : 1 ≤ R ∧ R ≤ 64) (hC : 1 ≤ C ∧ C ≤ 64) (hD : 1 ≤ D ∧ D ≤ 64) (da : a.dim R C) (db : b.dim R D) (ha : iT a u ∈ I0) (hb : iT b u ∈ I0) :
  CD Tryz.prog 96 [mv a, mv b] X w0 M0 I0 (XQ (besM R C D a.q b.q) R (C + D) u M0 I0) := by
 have hl := da.1
 have hl2 := db.1
 refine pR (φ := (∀ r ∈ a.rows, Cap r.p r.es.length r.c) ∧ ∀ r ∈ b.rows, Cap r.p r.es.length r.c) (fun w hw => ⟨fun r hr => ((((hw.imm _ ha).2 : IsX a u _ w)).row r hr).cap, fun r hr => ((((hw.imm _ hb).2 : IsX b u _ w)).row r hr).cap⟩) (fun hcap => ?_)
 refine bT (φ := aM (a).p (recs eL (a).rows)) (Hv.xsl aB) ?_
 refine bT (φ := aM (b).p (recs eL (b).rows)) (Hv.xsl aB) ?_
 refine aW Tryz.func96 rfl Tryz.ntmps96 rfl ?_
 repeat (refine aI ?_)
 (refine aN (cs := recs eL []) ([]) rfl rfl (by intro v hv; repeat (first | exact absurd hv (List.not_mem_nil) | (rcases List.mem_cons.1 hv with rfl | hv; · rfl))) (by omega) rfl rfl rfl ?_; intro bo; refine ⟨okF, ?_⟩; refine gJ (mm := 0) 1 .here rfl (by omega) ?_)
 repeat (refine aI ?_)
 refine eO (φ := gD [] u) Hv.nilL ?_
 refine aP [0, 1] rfl (fun k G M I => ∃ (i : Nat) (rows : List RL) (q : Option Addr) (c : Nat), i ≤ R ∧ k = R - i ∧ rows.length = i ∧ (∀ r ∈ rows, r.es.length = C + D) ∧ (∀ t, t < i → (gt rows (t : Int)).es = (gt a.rows (t : Int)).es ++ (gt b.rows (t : Int)).es) ∧ G = [(5, .slice q rows.length c), (6, .int .i64 i)] ∧ M = .row q rows.length c (recs eL rows) 53 1 :: M0 ∧ I = gD rows u :: aM b.p (recs eL b.rows) :: aM a.p (recs eL a.rows) :: I0) (R) _ _ _ aO aD aC (⟨0, [], _, _, by omega, rfl, rfl, fun r hr => by simp at hr, fun t ht => by omega, rfl, rfl, rfl⟩) ?_
 rintro kk G M I ⟨i, rows, q, c, hi, rfl, hrl, hrc, hre, rfl, rfl, rfl⟩
 by_cases hiR : i < R
 ·have hra := da.row hiR
  have hrb := db.row hiR
  have hcpa := (hcap.1 _ (bS (ms := a.rows) (i := (i : Int)) (by omega))).2
  have hcpb := (hcap.2 _ (bS (ms := b.rows) (i := (i : Int)) (by omega))).2
  refine eO (φ := aM (gt (a).rows (i : Int)).p (recs eR (gt (a).rows (i : Int)).es)) (Hv.xrsl aB (by omega)) ?_
  refine eO (φ := aM (gt (b).rows (i : Int)).p (recs eR (gt (b).rows (i : Int)).es)) (Hv.xrsl aB (by omega)) ?_
  refine eO (φ := bB (gt a.rows (i : Int)).es u) (Hv.xrow1 (m := a) aB (by omega)) ?_
  refine eO (φ := bB (gt b.rows (i : Int)).es u) (Hv.xrow1 (m := b) aB (by omega)) ?_
  refine eO (φ := bB ((gt a.rows (i : Int)).es ++ (gt b.rows (i : Int)).es) u) (Hv.app2 aB aB) ?_
  repeat (refine aI ?_)
  (repeat refine aH ?_); refine dZ (M0) (bB ((gt a.rows (i : Int)).es ++ (gt b.rows (i : Int)).es) u :: bB (gt b.rows (i : Int)).es u :: bB (gt a.rows (i : Int)).es u :: aM (gt b.rows (i : Int)).p (recs eR (gt b.rows (i : Int)).es) :: aM (gt a.rows (i : Int)).p (recs eR (gt a.rows (i : Int)).es) :: gD rows u :: aM b.p (recs eL b.rows) :: aM a.p (recs eL a.rows) :: I0) [0, 2, 3, 4, 5, 7, 8, 9, 10, 1, 6, 11, 12, 13, 14] [4, 5, 5, 5, 4, 5, 5, 5, 4, 0, 0, 0, 0, 0, 0] aD aC mixed (by kernel_rfl) ?_
  repeat (refine aI ?_)
  (refine aN (cs := recs eR []) ([]) rfl rfl (by intro v hv; repeat (first | exact absurd hv (List.not_mem_nil) | (rcases List.mem_cons.1 hv with rfl | hv; · rfl))) (by omega) rfl rfl rfl ?_; intro bl; refine ⟨okF, ?_⟩; refine gJ (mm := 0) 4 .here rfl (by omega) ?_)
  repeat (refine aI ?_)
  (refine bJ (enc := eR) (xs := []) (ys := (gt a.rows (i : Int)).es) 0 rfl rfl rfl (Src.imm aB hcpa) (by decide) rfl (by rw [List.length_nil]; omega) (by rw [List.length_nil]; omega) rfl rfl ?_; intro q1 c1; refine ⟨OkD.any (SubP.drop (SubP.drop SubP.refl)) aC, ?_⟩)
  rw [List.nil_append]
  repeat (refine aI ?_)
  (refine bJ (enc := eR) (xs := (gt a.rows (i : Int)).es) (ys := (gt b.rows (i : Int)).es) 0 rfl rfl rfl (Src.imm aB hcpb) (by decide) rfl (by omega) (by omega) rfl rfl ?_; intro q2 c2; refine ⟨OkD.any (SubP.drop (SubP.drop SubP.refl)) aC, ?_⟩)
  refine tV (M' := .row q rows.length c (recs eL rows) 53 1 :: M0) (fun _ hw => Mem.toL hw aB) ?_
  (refine aN (cs := recs eL [(⟨q2, c2, (gt a.rows (i : Int)).es ++ (gt b.rows (i : Int)).es⟩ : RL)]) ([lv (⟨q2, c2, (gt a.rows (i : Int)).es ++ (gt b.rows (i : Int)).es⟩ : RL)]) rfl rfl (by intro v hv; repeat (first | exact absurd hv (List.not_mem_nil) | (rcases List.mem_cons.1 hv with rfl | hv; · rfl))) (by omega) rfl rfl rfl ?_; intro bb; refine ⟨okF, ?_⟩)
  (refine bJ (ys := [(⟨q2, c2, (gt a.rows (i : Int)).es ++ (gt b.rows (i : Int)).es⟩ : RL)]) 1 rfl rfl rfl ?_ (by decide) rfl (by omega) (by omega) rfl rfl ?_; (· first | exact Src.blk aB | exact Src.row aB | exact Src.imm aB (by first | assumption | exact .inl (Ok.mk _ _))); intro q3 c3; refine ⟨okF, ?_⟩)
  repeat (refine aI ?_)
  refine fD (φ := gD (rows ++ [(⟨q2, c2, (gt a.rows (i : Int)).es ++ (gt b.rows (i : Int)).es⟩ : RL)]) u) (Hv.snocL aB aB) ?_
  refine aK (R - (i + 1)) _ _ _ (by first | omega | (simp only [List.length_append, List.length_cons, List.length_nil]; omega)) aO aD aC (⟨i + 1, rows ++ [(⟨q2, c2, (gt a.rows (i : Int)).es ++ (gt b.rows (i : Int)).es⟩ : RL)], q3, c3, by omega, rfl, by simp; omega, fun r hr => ?_, fun t ht => ?_, rfl, rfl, rfl⟩)
  ·rcases List.mem_append.1 hr with h | h
   ·exact hrc r h
   ·rw [List.mem_singleton.1 h]; simp; omega
  ·by_cases e1 : t < i
   ·have : gt (rows ++ [(⟨q2, c2, (gt a.rows (i : Int)).es ++ (gt b.rows (i : Int)).es⟩ : RL)]) (t : Int) = gt rows (t : Int) := aKM (by omega)
    rw [this]; exact hre t e1
   ·obtain rfl : t = i := by omega
    have : gt (rows ++ [(⟨q2, c2, (gt a.rows (t : Int)).es ++ (gt b.rows (t : Int)).es⟩ : RL)]) (t : Int) = ⟨q2, c2, (gt a.rows (t : Int)).es ++ (gt b.rows (t : Int)).es⟩ := wG (A := rows) (B := []) (by omega)
    rw [this]
 ·obtain rfl : i = R := by omega
  repeat (refine aI ?_)
  refine aBJ (k := u) aB ?_
  have hdim : (⟨q, c, rows⟩ : MX).dim i (C + D) := ⟨hrl, hrc⟩
  refine aG (by first | exact .inl rfl | exact .inr rfl) rfl rfl _ _ aD aC (⟨rfl, ⟨q, c, rows⟩, rfl, ?_, hdim, rfl⟩)
  rw [hdim.mk]
  unfold besM
  refine sD (fun t j ht hj => ?_)
  have hrt := hre t ht
  have hat : at2 (⟨q, c, rows⟩ : MX).q t j = (gt (gt rows (t : Int)).es (j : Int)).q := nK (m := ⟨q, c, rows⟩) (by show t < rows.length; omega) (by show j < (gt rows (t : Int)).es.length; rw [hrt, List.length_append, da.row ht, db.row ht]; exact hj)
  rw [hat, hrt]
  have hla := da.row ht
  have hlb := db.row ht
  by_cases e : j < C
  ·rw [if_pos e, nK (m := a) (by omega) (by omega), aKM (by omega)]
  ·rw [if_neg e, nK (m := b) (by omega) (by omega), aUO (by omega) (by omega), hla]
theorem aNN {a : MX} {b : RL} {C u : Nat} (hC : 1 ≤ C ∧ C ≤ 60) (hb : kb u (C + 1) ≤ 20000000000) (da : a.dim C C) (hl : b.es.length = C) (hdt : dt C (at2 a.q) ≠ 0) (ha : iT a u ∈ I0) (hbb : jI b u ∈ I0) :
  CD Tryz.prog 57 [mv a, lv b] X w0 M0 I0 (SolR (aAZ C C a.q b.q) (kb u (C + 1)) M0 I0) := by
 have lR := da.1
 have lC : (gt a.rows 0).es.length = C := da.row (i := 0) (by omega)
 have hZ : ∀ M0 I0, CD Tryz.prog 99 [.int .i64 1, .int .i64 (C : Int)] X w0 M0 I0 (MsP 1 C (fun _ _ => 0) 0 M0 I0) := fun M0 I0 => aBE (X := X) (w0 := w0) (M0 := M0) (I0 := I0) (R := 1) (C := C) (by omega) (by omega)
 have hCo := fun M0 I0 h => aDW (X := X) (w0 := w0) (M0 := M0) (I0 := I0) (x := b) (n := C) (k0 := u) (by omega) hl h
 have hBe := fun (y : MX) (hy : y.dim C 1) M0 I0 h1 h2 => aJK (X := X) (w0 := w0) (M0 := M0) (I0 := I0) (a := a) (b := y) (R := C) (C := C) (D := 1) (u := u) (by omega) (by omega) (by omega) da hy h1 h2
 have hEc := fun (y : MX) (hy : y.dim C (C + 1)) M0 I0 h1 => aKS (X := X) (w0 := w0) (M0 := M0) (I0 := I0) (a := y) (R := C) (C := C + 1) (k0 := u) hb (by omega) (by omega) hy h1
 obtain ⟨E, pv, hrC1, hrC, hpl, hpC⟩ := aWZ (b := b.q) hdt
 have hz : (zs pv).length = pv.length := by simp
 obtain ⟨_, s, hrd⟩ := lL (A := tX C C a.q b.q) (R := C) (C := C + 1) aPN C (by omega)
 rw [hrC] at hrd
 have hidx : ∀ r : Nat, r < pv.length → pv.idxOf (pv.getD r 0) = r := fun r h => hrd.idx h
 have hno : C ∉ pv := fun h => by
  obtain ⟨t, ht, e⟩ := pO.1 h
  have := hpC t (by omega)
  omega
 have hsol : ∀ c : Nat, c < C → (aAZ C C a.q b.q).getD c 0 = if c ∈ pv then at2 E (pv.idxOf c) C else 0 := fun c hc => by
  unfold aAZ
  rw [hrC]
  simp [List.getD, hc, aQZ]
 generalize hK : kb u (C + 1) = K at *
 refine bT (φ := aM (a).p (recs eL (a).rows)) (Hv.xsl aB) ?_
 refine aW Tryz.func57 rfl Tryz.ntmps57 rfl ?_
 repeat (refine aI ?_)
 rw [lC]
 repeat (refine aI ?_)
 (refine aA rfl (hCo _ _ aB) rfl rfl ?_; rintro _ _ _ ⟨rfl, y, rfl, hy, hyd, rfl⟩; refine ⟨okF, ?_⟩)
 (refine aA rfl (hBe y hyd _ _ aB aB) rfl rfl ?_; rintro _ _ _ ⟨rfl, z, rfl, hzq, hzd, rfl⟩; refine ⟨okF, ?_⟩)
 (refine aA rfl (hEc z hzd _ _ aB) rfl rfl ?_; rintro _ _ _ ⟨rfl, m, pv2, q, c, rfl, hm, hd, rfl⟩; refine ⟨okF, ?_⟩)
 have hz1 : z.q = tX C C a.q b.q := by rw [hzq, hy]; exact aTR rfl
 rw [hz1, hrC1] at hm
 obtain ⟨rfl, rfl⟩ : E = m.q ∧ pv = pv2 := by injection hm with h1 h2; exact ⟨h1, h2⟩
 have hHs := fun M0 I0 h => aTC (X := X) (w0 := w0) (M0 := M0) (I0 := I0) (p := q) (l := zs pv) (t := pv.length) (c := c) (x := (C : Int)) hz (by omega) h
 rw [bE (fun h => hno (aXC.1 h))] at hHs
 have mR := hd.1
 refine dS (φ := aM (m).p (recs eL (m).rows)) (Hv.xsl aB) ?_
 repeat (refine aI ?_)
 (refine aA rfl (hHs _ _ aB) rfl rfl ?_; rintro _ _ _ ⟨rfl, rfl, rfl⟩; refine ⟨okF, ?_⟩)
 repeat (refine aI ?_)
 (refine aA rfl (hZ _ _) rfl rfl ?_; rintro _ _ _ ⟨bz, cz, tlz, rz, rfl, hcz, hsz, hpz, rfl, rfl⟩; refine ⟨okF, ?_⟩)
 obtain ⟨r0, rfl⟩ : ∃ r0, rz = [r0] := by
  have := hsz.len
  match rz, this with
  | [x], _ => exact ⟨x, rfl⟩
 have hcol := hsz.col r0 (by simp)
 have hp0 : ∀ t : Nat, t < C → (gt r0.es (t : Int)).q = 0 := fun t ht => hpz 0 t (by omega) ht
 refine dS (φ := bB r0.es 0) (Hv.allS1 aB) ?_
 simp only [List.map_cons, List.map_nil, List.cons_append, List.nil_append]
 obtain ⟨hel, hcv⟩ := hcol
 have hg1 : gt [r0] 0 = r0 := rfl
 repeat (refine aI ?_)
 rw [hel]
 repeat (refine aI ?_)
 refine eO (φ := bB r0.es K) (Hv.allMono (k := 0) aB (Nat.zero_le _)) ?_
 refine wD (M' := .blk r0.b (recs eR r0.es ++ r0.tl) 50 :: M0) (I' := bB r0.es K :: aM m.p (recs eL m.rows) :: pvI q pv :: iT m K :: I0) aD aC ?_
 refine aP [6, 7, 8, 9] rfl (fun k G M I => ∃ (r : Nat) (es2 : List RE), r ≤ pv.length ∧ k = pv.length - r ∧ es2.length = C ∧ (∀ t : Nat, t < C → (gt es2 (t : Int)).q = if t ∈ pv ∧ pv.idxOf t < r then at2 m.q (pv.idxOf t) C else 0) ∧ G = [(10, .int .i64 r)] ∧ M = .blk r0.b (recs eR es2 ++ r0.tl) 50 :: M0 ∧ I = bB es2 K :: aM m.p (recs eL m.rows) :: pvI q pv :: iT m K :: I0) (pv.length) _ _ _ aO aD aC (⟨0, r0.es, by omega, by omega, hel, fun t ht => by rw [if_neg (by omega)]; exact hp0 t ht, rfl, rfl, rfl⟩) ?_
 rintro kk G M I ⟨r, es2, hr2, rfl, hel2, heq2, rfl, rfl, rfl⟩
 by_cases hrp : r < pv.length
 ·have hgz := gt_zs hrp
  have hpr := hpC r (by omega)
  have hmr := hd.row (i := r) (by omega)
  have hat := nK (m := m) (i := r) (j := C) (by omega) (by omega)
  refine eO (φ := aM (gt (m).rows (r : Int)).p (recs eR (gt (m).rows (r : Int)).es)) (Hv.xrsl aB (by omega)) ?_
  repeat (refine aI ?_)
  (repeat refine aH ?_); refine bA 0 [0, 1, 2, 3, 4, 5, 6, 7, 8, 9, 10, 11, 12, 13] [0, 0, 0, 0, 0, 0, 0, 0, 0, 0, 0, 0, 0, 0] mixed (by kernel_rfl) ?_
  repeat (refine yXh ?_)
  rw [hgz]
  repeat (refine yXh ?_)
  obtain ⟨e2, he2⟩ : ∃ e2, gt (gt m.rows (r : Int)).es (C : Int) = e2 := ⟨_, rfl⟩
  have hv2 : ∀ I, iT m K ∈ I → Hv I (dD e2 K) := fun I h => by rw [← he2]; exact Hv.xel h (by omega) (by omega)
  rw [he2] at hat ⊢
  refine gG (vs := eR e2) rfl rfl rfl (Ones.one e2) kZ (StAts.app (StAts.r (enc := eR) (ms := es2) (i := ((pv.getD r 0 : Nat) : Int)) e2 (by omega) rfl)) rfl rfl ⟨okF, ?_⟩
  refine dS (φ := dD e2 K) (hv2 _ aB) ?_
  refine dS (φ := bB (st es2 ((pv.getD r 0 : Nat) : Int) e2) K) (Hv.stR aB aB) ?_
  repeat (refine aI ?_)
  refine aK (pv.length - (r + 1)) _ _ _ (by first | omega | (simp only [List.length_append, List.length_cons, List.length_nil]; omega)) aO aD aC (⟨r + 1, st es2 ((pv.getD r 0 : Nat) : Int) e2, by omega, rfl, by rw [eU]; exact hel2, fun t ht => ?_, rfl, rfl, rfl⟩)
  rw [wC (by omega)]
  by_cases e1 : t = pv.getD r 0
  ·subst e1
   rw [if_pos rfl, if_pos ⟨pO.2 ⟨r, hrp, rfl⟩, by rw [hidx r hrp]; omega⟩, hidx r hrp, hat]
  ·rw [if_neg e1, heq2 t ht]
   by_cases e2 : t ∈ pv
   ·have e3 : pv.idxOf t ≠ r := fun e => e1 (by rw [← e]; exact (Red.idx_lt e2).2.symm)
    by_cases e4 : pv.idxOf t < r
    ·rw [if_pos ⟨e2, e4⟩, if_pos ⟨e2, by omega⟩]
    ·rw [if_neg (show ¬ (t ∈ pv ∧ pv.idxOf t < r) from fun h => e4 h.2), if_neg (show ¬ (t ∈ pv ∧ pv.idxOf t < r + 1) from fun h => by have := h.2; omega)]
   ·rw [if_neg (show ¬ (t ∈ pv ∧ pv.idxOf t < r) from fun h => e2 h.1), if_neg (show ¬ (t ∈ pv ∧ pv.idxOf t < r + 1) from fun h => e2 h.1)]
 ·obtain rfl : r = pv.length := by omega
  have hV : qs es2 = aAZ C C a.q b.q := by
   apply vB
   ·rw [List.length_map, hel2]; simp [aAZ]
   ·intro t ht
    have ht' : t < C := by simpa [hel2] using ht
    rw [kE (by omega), heq2 t ht', hsol t ht']
    by_cases e2 : t ∈ pv
    ·rw [if_pos ⟨e2, (Red.idx_lt e2).1⟩, if_pos e2]
    ·rw [if_neg (fun h => e2 h.1), if_neg e2]
  repeat (refine aI ?_)
  refine yO (fun _ hw => Mem.blkT (es := es2) (k := K) (c := r0.c) (by omega) hw aB) ?_
  have hvv : Value.slice (some ⟨r0.b, 0, none⟩) C r0.c = lv (⟨some ⟨r0.b, 0, none⟩, r0.c, es2⟩ : RL) := by show _ = Value.slice _ es2.length _; rw [hel2]
  rw [hvv]
  refine dV [4, 5] (by first | exact .inl rfl | exact .inr rfl) rfl rfl rfl _ _ aD aC (⟨rfl, ⟨some ⟨r0.b, 0, none⟩, r0.c, es2⟩, rfl, hV, rfl⟩)
end
end Go.Proofs.YtjbhdfpjnjedhaaGreat
namespace Go.Proofs.YtjbhdfpjnjedhaaGreat
open Go Go.Fx
theorem Hv.threeL {I : List aY} {a b c : RL} {k : Nat} (h1 : jI a k ∈ I) (h2 : jI b k ∈ I) (h3 : jI c k ∈ I) : Hv I (gD [a, b, c] k) := ⟨fun X w hw => ⟨fun x hx => by
 simp only [List.mem_cons, List.not_mem_nil, or_false] at hx
 rcases hx with rfl | rfl | rfl
 ·exact hw _ h1
 ·exact hw _ h2
 ·exact hw _ h3⟩⟩
section
variable {X : List Nat} {w0 : World} {M0 M1 M2 : List Ent} {I0 : List aY}
abbrev l3 (b : Nat) (x y z : RE) : RL := ⟨some ⟨b, 0, none⟩, 3, [x, y, z]⟩
theorem nA {P : Program} {n : Nat} {Q : Exit → Act → World → Prop} {G : Env} {M : List Ent} {I : List aY} {ops l : List Oper} {m : Fx.Mode} {b k : Nat} {x y z : RE} {ty : TypeId} (ha : bB [x, y, z] k ∈ I) (h : RD P n ops Q m l G X w0 M (jI (l3 b x y z) k :: I)) : RD P n ops Q m l G X w0 (.blk b (recs eR [x, y, z]) ty :: M) I := aVI ha h
theorem aMX {kd u : Nat} {x : RL} (hk : kd ≤ 2) (hu : u ≤ 100000000000) (hl : wT kd ≤ x.es.length) (hx : jI x u ∈ I0) : CD Tryz.prog 41 [.int .i64 (kd : Int), lv x] X w0 M0 I0 (XQ (frm kd x.q) 3 3 u M0 I0) := by
 have hW0 := fun M0 I0 => nD (X := X) (w0 := w0) (M0 := M0) (I0 := I0) (x := 0) (by decide) (k := u) (by simp)
 have hW1 := fun M0 I0 => nD (X := X) (w0 := w0) (M0 := M0) (I0 := I0) (x := 1) (by decide) (k := u) (by show 1 ≤ 2 ^ u; exact Nat.one_le_two_pow)
 have hq : ∀ i : Nat, i < wT kd → x.q.getD i 0 = (gt x.es (i : Int)).q := fun i hi => kE (by omega)
 refine bT (φ := aM x.p (recs eR x.es)) (Hv.lsl hx) (bT (φ := jI x u) (Hv.mem (List.mem_cons_of_mem _ hx)) ?_)
 refine aW Tryz.func41 rfl Tryz.ntmps41 rfl ?_
 repeat (refine aI ?_)
 (refine aA rfl (hW0 _ _) rfl rfl ?_; rintro _ _ _ ⟨rfl, e0, rfl, he0, rfl⟩; refine ⟨okF, ?_⟩)
 (refine aA rfl (hW1 _ _) rfl rfl ?_; rintro _ _ _ ⟨rfl, e1, rfl, he1, rfl⟩; refine ⟨okF, ?_⟩)
 (refine aJ rfl rfl ?_; intro b5; refine ⟨okF, ?_⟩)
 (refine aJ rfl rfl ?_; intro b6; refine ⟨okF, ?_⟩)
 repeat (refine aI ?_)
 (refine aN (cs := recs eR [e0, e0, e1]) ([rv e0, rv e0, rv e1]) rfl rfl (by intro v hv; repeat (first | exact absurd hv (List.not_mem_nil) | (rcases List.mem_cons.1 hv with rfl | hv; · rfl))) (by omega) rfl rfl rfl ?_; intro b7; refine ⟨okF, ?_⟩)
 refine dS (φ := bB [e0, e0, e1] u) (Hv.three aB aB aB) ?_
 refine nA (k := u) aB ?_
 rcases (show kd = 0 ∨ kd = 1 ∨ kd = 2 by omega) with h0 | h0 | h0
 ·obtain rfl : kd = 0 := h0
  have hl2 : 2 ≤ x.es.length := hl
  have q0 : x.q.getD 0 0 = (gt x.es 0).q := hq 0 (by decide)
  have q1 : x.q.getD 1 0 = (gt x.es 1).q := hq 1 (by decide)
  refine dS (φ := dD (gt x.es 0) u) (Hv.lel (r := x) (k := u) aB ⟨by omega, by omega⟩) ?_
  refine dS (φ := dD (gt x.es 1) u) (Hv.lel (r := x) (k := u) aB ⟨by omega, by omega⟩) ?_
  refine dS (φ := bB [e1, e0, gt x.es 0] u) (Hv.three aB aB aB) ?_
  refine dS (φ := bB [e0, e1, gt x.es 1] u) (Hv.three aB aB aB) ?_
  repeat (refine aI ?_)
  refine qC (fun G M I => ∃ (ba bb bc : Nat) (r1 : RL) (r2 : RL), [r1.q, r2.q, [0, 0, 1]] = frm 0 x.q ∧ r1.es.length = 3 ∧ r2.es.length = 3 ∧ G = [(4, .slice (some ⟨bc, 0, none⟩) 3 3)] ∧ M = .blk bc (recs eL [r1, r2, l3 b7 e0 e0 e1]) 53 :: M0 ∧ I = jI r2 u :: jI r1 u :: jI (l3 b7 e0 e0 e1) u :: I0) ?_ ?_
  ·((repeat refine aH ?_); refine qK (.blk b6 (eR e1) 50 :: .blk b5 (eR e0) 50 :: M0) (bB [e0, e1, gt x.es 1] u :: bB [e1, e0, gt x.es 0] u :: dD (gt x.es 0) u :: dD (gt x.es 1) u :: jI (l3 b7 e0 e0 e1) u :: dD e1 u :: dD e0 u :: jI x u :: aM x.p (recs eR x.es) :: I0) mixed ?_)
   refine lS (fuel := 4) (listed' := #[true, true, true, true, true, false, true, true, true, true, true, false, true, false, false]) [0, 1, 2, 3, 4, 6, 7, 8, 9, 10, 12] [2, 2, 3, 3, 2, 2, 2, 3, 3, 2, 2] aD aC (by kernel_rfl) (by kernel_rfl) rfl rfl ?_
   repeat (refine aI ?_)
   refine eQ (fuel := 3) (i := 5) (j := 11) (by kernel_rfl) ?_ ?_
   ·((refine aN (cs := recs eR [e1, e0, gt x.es 0]) ([rv e1, rv e0, rv (gt x.es 0)]) rfl rfl (by intro v hv; repeat (first | exact absurd hv (List.not_mem_nil) | (rcases List.mem_cons.1 hv with rfl | hv; · rfl))) (by omega) rfl rfl rfl ?_; intro ba; refine ⟨okF, ?_⟩); refine nA (k := u) aB ?_)
    refine bY ?_
    refine dC [11, 13, 14] [0, 0, 0] aD aC (by kernel_rfl) (by kernel_rfl) rfl rfl ?_
    repeat (refine aI ?_)
    ((refine aN (cs := recs eR [e0, e1, gt x.es 1]) ([rv e0, rv e1, rv (gt x.es 1)]) rfl rfl (by intro v hv; repeat (first | exact absurd hv (List.not_mem_nil) | (rcases List.mem_cons.1 hv with rfl | hv; · rfl))) (by omega) rfl rfl rfl ?_; intro bb; refine ⟨okF, ?_⟩); refine nA (k := u) aB ?_)
    repeat (refine aI ?_)
    (refine aN (cs := recs eL [l3 ba e1 e0 (gt x.es 0), l3 bb e0 e1 (gt x.es 1), l3 b7 e0 e0 e1]) ([lv (l3 ba e1 e0 (gt x.es 0)), lv (l3 bb e0 e1 (gt x.es 1)), lv (l3 b7 e0 e0 e1)]) rfl rfl (by intro v hv; repeat (first | exact absurd hv (List.not_mem_nil) | (rcases List.mem_cons.1 hv with rfl | hv; · rfl))) (by omega) rfl rfl rfl ?_; intro bc; refine ⟨okF, ?_⟩)
    repeat (refine aI ?_)
    (refine iE _ _ _ aO aD aC ⟨ba, bb, bc, l3 ba e1 e0 (gt x.es 0), l3 bb e0 e1 (gt x.es 1), by show [[e1.q, e0.q, (gt x.es 0).q], [e0.q, e1.q, (gt x.es 1).q], [0, 0, 1]] = _; unfold frm; rw [if_pos rfl]; simp only [he0, he1, q0, q1]; rfl, rfl, rfl, rfl, rfl, rfl⟩)
   ·((refine aN (cs := recs eR [e0, e1, gt x.es 1]) ([rv e0, rv e1, rv (gt x.es 1)]) rfl rfl (by intro v hv; repeat (first | exact absurd hv (List.not_mem_nil) | (rcases List.mem_cons.1 hv with rfl | hv; · rfl))) (by omega) rfl rfl rfl ?_; intro bb; refine ⟨okF, ?_⟩); refine nA (k := u) aB ?_)
    refine bY ?_
    refine dC [5, 13, 14] [0, 0, 0] aD aC (by kernel_rfl) (by kernel_rfl) rfl rfl ?_
    repeat (refine aI ?_)
    ((refine aN (cs := recs eR [e1, e0, gt x.es 0]) ([rv e1, rv e0, rv (gt x.es 0)]) rfl rfl (by intro v hv; repeat (first | exact absurd hv (List.not_mem_nil) | (rcases List.mem_cons.1 hv with rfl | hv; · rfl))) (by omega) rfl rfl rfl ?_; intro ba; refine ⟨okF, ?_⟩); refine nA (k := u) aB ?_)
    repeat (refine aI ?_)
    (refine aN (cs := recs eL [l3 ba e1 e0 (gt x.es 0), l3 bb e0 e1 (gt x.es 1), l3 b7 e0 e0 e1]) ([lv (l3 ba e1 e0 (gt x.es 0)), lv (l3 bb e0 e1 (gt x.es 1)), lv (l3 b7 e0 e0 e1)]) rfl rfl (by intro v hv; repeat (first | exact absurd hv (List.not_mem_nil) | (rcases List.mem_cons.1 hv with rfl | hv; · rfl))) (by omega) rfl rfl rfl ?_; intro bc; refine ⟨okF, ?_⟩)
    repeat (refine aI ?_)
    (refine iE _ _ _ aO aD aC ⟨ba, bb, bc, l3 ba e1 e0 (gt x.es 0), l3 bb e0 e1 (gt x.es 1), by show [[e1.q, e0.q, (gt x.es 0).q], [e0.q, e1.q, (gt x.es 1).q], [0, 0, 1]] = _; unfold frm; rw [if_pos rfl]; simp only [he0, he1, q0, q1]; rfl, rfl, rfl, rfl, rfl, rfl⟩)
  rintro G M I ⟨ba, bb, bc, r1, r2, hqq, hl1, hl2', rfl, rfl, rfl⟩
  refine eO (φ := gD [r1, r2, l3 b7 e0 e0 e1] u) (Hv.threeL aB aB aB) ?_
  refine zX (C := 3) rfl (by omega) aB ?_
  repeat (refine aI ?_)
  refine iD (M' := M0) (I' := iT ⟨some ⟨bc, 0, none⟩, 3, [r1, r2, l3 b7 e0 e0 e1]⟩ u :: I0) aD aC ?_
  refine aG (by first | exact .inl rfl | exact .inr rfl) rfl rfl _ _ aD aC (⟨rfl, ⟨some ⟨bc, 0, none⟩, 3, [r1, r2, l3 b7 e0 e0 e1]⟩, rfl, by rw [← hqq]; show [r1.q, r2.q, [e0.q, e0.q, e1.q]] = _; rw [he0, he1]; rfl, ⟨rfl, fun r hr => by
   simp only [List.mem_cons, List.not_mem_nil, or_false] at hr
   rcases hr with rfl | rfl | rfl
   ·exact hl1
   ·exact hl2'
   ·rfl⟩, rfl⟩)
 ·obtain rfl : kd = 1 := h0
  have hl2 : 4 ≤ x.es.length := hl
  have q0 : x.q.getD 0 0 = (gt x.es 0).q := hq 0 (by decide)
  have q1 : x.q.getD 1 0 = (gt x.es 1).q := hq 1 (by decide)
  have q2 : x.q.getD 2 0 = (gt x.es 2).q := hq 2 (by decide)
  have q3 : x.q.getD 3 0 = (gt x.es 3).q := hq 3 (by decide)
  refine dS (φ := dD (gt x.es 0) u) (Hv.lel (r := x) (k := u) aB ⟨by omega, by omega⟩) ?_
  refine dS (φ := dD (gt x.es 1) u) (Hv.lel (r := x) (k := u) aB ⟨by omega, by omega⟩) ?_
  refine dS (φ := dD (gt x.es 2) u) (Hv.lel (r := x) (k := u) aB ⟨by omega, by omega⟩) ?_
  refine dS (φ := dD (gt x.es 3) u) (Hv.lel (r := x) (k := u) aB ⟨by omega, by omega⟩) ?_
  have hN := fun M0 I0 h => aAS (X := X) (w0 := w0) (M0 := M0) (I0 := I0) (e := gt x.es 1) (k := u) (by omega) h
  refine dS (φ := bB [gt x.es 1, gt x.es 0, gt x.es 3] u) (Hv.three aB aB aB) ?_
  repeat (refine aI ?_)
  refine qC (fun G M I => ∃ (ba bb bc : Nat) (r1 : RL) (r2 : RL), [r1.q, r2.q, [0, 0, 1]] = frm 1 x.q ∧ r1.es.length = 3 ∧ r2.es.length = 3 ∧ G = [(4, .slice (some ⟨bc, 0, none⟩) 3 3)] ∧ M = .blk bc (recs eL [r1, r2, l3 b7 e0 e0 e1]) 53 :: M0 ∧ I = jI r2 u :: jI r1 u :: jI (l3 b7 e0 e0 e1) u :: I0) ?_ ?_
  ·((repeat refine aH ?_); refine qK (.blk b6 (eR e1) 50 :: .blk b5 (eR e0) 50 :: M0) (bB [gt x.es 1, gt x.es 0, gt x.es 3] u :: dD (gt x.es 0) u :: dD (gt x.es 1) u :: dD (gt x.es 2) u :: dD (gt x.es 3) u :: jI (l3 b7 e0 e0 e1) u :: dD e1 u :: dD e0 u :: jI x u :: aM x.p (recs eR x.es) :: I0) mixed ?_)
   refine lS (fuel := 5) (listed' := #[true, true, true, true, true, true, false, true, true, true, false, true, true, true, true, true, true, true, true, true, false, true, false, false]) [0, 1, 2, 3, 4, 5, 7, 8, 9, 11, 12, 13, 14, 15, 16, 17, 18, 19, 21] [4, 4, 3, 4, 4, 3, 4, 4, 3, 4, 4, 3, 4, 4, 3, 4, 4, 3, 3] aD aC (by kernel_rfl) (by kernel_rfl) rfl rfl ?_
   repeat (refine aI ?_)
   refine eQ (fuel := 4) (i := 6) (j := 20) (by kernel_rfl) ?_ ?_
   ·((refine aA rfl (hN _ _ (Hv.mem aB)) rfl rfl ?_; rintro _ _ _ ⟨rfl, yn, rfl, hyn, rfl⟩; refine ⟨okF, ?_⟩); refine dS (φ := bB [gt x.es 0, yn, gt x.es 2] u) (Hv.three aB aB aB) ?_)
    refine bY ?_
    repeat (refine aI ?_)
    refine eQ (fuel := 3) (i := 10) (j := 20) (by kernel_rfl) ?_ ?_
    ·((refine aN (cs := recs eR [gt x.es 0, yn, gt x.es 2]) ([rv (gt x.es 0), rv yn, rv (gt x.es 2)]) rfl rfl (by intro v hv; repeat (first | exact absurd hv (List.not_mem_nil) | (rcases List.mem_cons.1 hv with rfl | hv; · rfl))) (by omega) rfl rfl rfl ?_; intro ba; refine ⟨okF, ?_⟩); refine nA (k := u) aB ?_)
     refine bY ?_
     refine dC [20, 22, 23] [0, 0, 0] aD aC (by kernel_rfl) (by kernel_rfl) rfl rfl ?_
     repeat (refine aI ?_)
     ((refine aN (cs := recs eR [gt x.es 1, gt x.es 0, gt x.es 3]) ([rv (gt x.es 1), rv (gt x.es 0), rv (gt x.es 3)]) rfl rfl (by intro v hv; repeat (first | exact absurd hv (List.not_mem_nil) | (rcases List.mem_cons.1 hv with rfl | hv; · rfl))) (by omega) rfl rfl rfl ?_; intro bb; refine ⟨okF, ?_⟩); refine nA (k := u) aB ?_)
     repeat (refine aI ?_)
     (refine aN (cs := recs eL [l3 ba (gt x.es 0) yn (gt x.es 2), l3 bb (gt x.es 1) (gt x.es 0) (gt x.es 3), l3 b7 e0 e0 e1]) ([lv (l3 ba (gt x.es 0) yn (gt x.es 2)), lv (l3 bb (gt x.es 1) (gt x.es 0) (gt x.es 3)), lv (l3 b7 e0 e0 e1)]) rfl rfl (by intro v hv; repeat (first | exact absurd hv (List.not_mem_nil) | (rcases List.mem_cons.1 hv with rfl | hv; · rfl))) (by omega) rfl rfl rfl ?_; intro bc; refine ⟨okF, ?_⟩)
     repeat (refine aI ?_)
     (refine iE _ _ _ aO aD aC ⟨ba, bb, bc, l3 ba (gt x.es 0) yn (gt x.es 2), l3 bb (gt x.es 1) (gt x.es 0) (gt x.es 3), by show [[(gt x.es 0).q, yn.q, (gt x.es 2).q], [(gt x.es 1).q, (gt x.es 0).q, (gt x.es 3).q], [0, 0, 1]] = _; unfold frm; rw [if_neg (by decide), if_pos rfl]; simp only [he0, he1, q0, q1, q2, q3, hyn], rfl, rfl, rfl, rfl, rfl⟩)
    ·((refine aN (cs := recs eR [gt x.es 1, gt x.es 0, gt x.es 3]) ([rv (gt x.es 1), rv (gt x.es 0), rv (gt x.es 3)]) rfl rfl (by intro v hv; repeat (first | exact absurd hv (List.not_mem_nil) | (rcases List.mem_cons.1 hv with rfl | hv; · rfl))) (by omega) rfl rfl rfl ?_; intro bb; refine ⟨okF, ?_⟩); refine nA (k := u) aB ?_)
     refine bY ?_
     refine dC [10, 22, 23] [0, 0, 0] aD aC (by kernel_rfl) (by kernel_rfl) rfl rfl ?_
     repeat (refine aI ?_)
     ((refine aN (cs := recs eR [gt x.es 0, yn, gt x.es 2]) ([rv (gt x.es 0), rv yn, rv (gt x.es 2)]) rfl rfl (by intro v hv; repeat (first | exact absurd hv (List.not_mem_nil) | (rcases List.mem_cons.1 hv with rfl | hv; · rfl))) (by omega) rfl rfl rfl ?_; intro ba; refine ⟨okF, ?_⟩); refine nA (k := u) aB ?_)
     repeat (refine aI ?_)
     (refine aN (cs := recs eL [l3 ba (gt x.es 0) yn (gt x.es 2), l3 bb (gt x.es 1) (gt x.es 0) (gt x.es 3), l3 b7 e0 e0 e1]) ([lv (l3 ba (gt x.es 0) yn (gt x.es 2)), lv (l3 bb (gt x.es 1) (gt x.es 0) (gt x.es 3)), lv (l3 b7 e0 e0 e1)]) rfl rfl (by intro v hv; repeat (first | exact absurd hv (List.not_mem_nil) | (rcases List.mem_cons.1 hv with rfl | hv; · rfl))) (by omega) rfl rfl rfl ?_; intro bc; refine ⟨okF, ?_⟩)
     repeat (refine aI ?_)
     (refine iE _ _ _ aO aD aC ⟨ba, bb, bc, l3 ba (gt x.es 0) yn (gt x.es 2), l3 bb (gt x.es 1) (gt x.es 0) (gt x.es 3), by show [[(gt x.es 0).q, yn.q, (gt x.es 2).q], [(gt x.es 1).q, (gt x.es 0).q, (gt x.es 3).q], [0, 0, 1]] = _; unfold frm; rw [if_neg (by decide), if_pos rfl]; simp only [he0, he1, q0, q1, q2, q3, hyn], rfl, rfl, rfl, rfl, rfl⟩)
   ·((refine aN (cs := recs eR [gt x.es 1, gt x.es 0, gt x.es 3]) ([rv (gt x.es 1), rv (gt x.es 0), rv (gt x.es 3)]) rfl rfl (by intro v hv; repeat (first | exact absurd hv (List.not_mem_nil) | (rcases List.mem_cons.1 hv with rfl | hv; · rfl))) (by omega) rfl rfl rfl ?_; intro bb; refine ⟨okF, ?_⟩); refine nA (k := u) aB ?_)
    refine bY ?_
    refine dC [6, 10, 22, 23] [0, 0, 0, 0] aD aC (by kernel_rfl) (by kernel_rfl) rfl rfl ?_
    repeat (refine aI ?_)
    ((refine aA rfl (hN _ _ (Hv.mem aB)) rfl rfl ?_; rintro _ _ _ ⟨rfl, yn, rfl, hyn, rfl⟩; refine ⟨okF, ?_⟩); refine dS (φ := bB [gt x.es 0, yn, gt x.es 2] u) (Hv.three aB aB aB) ?_)
    repeat (refine aI ?_)
    ((refine aN (cs := recs eR [gt x.es 0, yn, gt x.es 2]) ([rv (gt x.es 0), rv yn, rv (gt x.es 2)]) rfl rfl (by intro v hv; repeat (first | exact absurd hv (List.not_mem_nil) | (rcases List.mem_cons.1 hv with rfl | hv; · rfl))) (by omega) rfl rfl rfl ?_; intro ba; refine ⟨okF, ?_⟩); refine nA (k := u) aB ?_)
    repeat (refine aI ?_)
    (refine aN (cs := recs eL [l3 ba (gt x.es 0) yn (gt x.es 2), l3 bb (gt x.es 1) (gt x.es 0) (gt x.es 3), l3 b7 e0 e0 e1]) ([lv (l3 ba (gt x.es 0) yn (gt x.es 2)), lv (l3 bb (gt x.es 1) (gt x.es 0) (gt x.es 3)), lv (l3 b7 e0 e0 e1)]) rfl rfl (by intro v hv; repeat (first | exact absurd hv (List.not_mem_nil) | (rcases List.mem_cons.1 hv with rfl | hv; · rfl))) (by omega) rfl rfl rfl ?_; intro bc; refine ⟨okF, ?_⟩)
    repeat (refine aI ?_)
    (refine iE _ _ _ aO aD aC ⟨ba, bb, bc, l3 ba (gt x.es 0) yn (gt x.es 2), l3 bb (gt x.es 1) (gt x.es 0) (gt x.es 3), by show [[(gt x.es 0).q, yn.q, (gt x.es 2).q], [(gt x.es 1).q, (gt x.es 0).q, (gt x.es 3).q], [0, 0, 1]] = _; unfold frm; rw [if_neg (by decide), if_pos rfl]; simp only [he0, he1, q0, q1, q2, q3, hyn], rfl, rfl, rfl, rfl, rfl⟩)
  rintro G M I ⟨ba, bb, bc, r1, r2, hqq, hl1, hl2', rfl, rfl, rfl⟩
  refine eO (φ := gD [r1, r2, l3 b7 e0 e0 e1] u) (Hv.threeL aB aB aB) ?_
  refine zX (C := 3) rfl (by omega) aB ?_
  repeat (refine aI ?_)
  refine iD (M' := M0) (I' := iT ⟨some ⟨bc, 0, none⟩, 3, [r1, r2, l3 b7 e0 e0 e1]⟩ u :: I0) aD aC ?_
  refine aG (by first | exact .inl rfl | exact .inr rfl) rfl rfl _ _ aD aC (⟨rfl, ⟨some ⟨bc, 0, none⟩, 3, [r1, r2, l3 b7 e0 e0 e1]⟩, rfl, by rw [← hqq]; show [r1.q, r2.q, [e0.q, e0.q, e1.q]] = _; rw [he0, he1]; rfl, ⟨rfl, fun r hr => by
   simp only [List.mem_cons, List.not_mem_nil, or_false] at hr
   rcases hr with rfl | rfl | rfl
   ·exact hl1
   ·exact hl2'
   ·rfl⟩, rfl⟩)
 ·obtain rfl : kd = 2 := h0
  have hl2 : 6 ≤ x.es.length := hl
  have q0 : x.q.getD 0 0 = (gt x.es 0).q := hq 0 (by decide)
  have q1 : x.q.getD 1 0 = (gt x.es 1).q := hq 1 (by decide)
  have q2 : x.q.getD 2 0 = (gt x.es 2).q := hq 2 (by decide)
  have q3 : x.q.getD 3 0 = (gt x.es 3).q := hq 3 (by decide)
  have q4 : x.q.getD 4 0 = (gt x.es 4).q := hq 4 (by decide)
  have q5 : x.q.getD 5 0 = (gt x.es 5).q := hq 5 (by decide)
  refine dS (φ := dD (gt x.es 0) u) (Hv.lel (r := x) (k := u) aB ⟨by omega, by omega⟩) ?_
  refine dS (φ := dD (gt x.es 1) u) (Hv.lel (r := x) (k := u) aB ⟨by omega, by omega⟩) ?_
  refine dS (φ := dD (gt x.es 2) u) (Hv.lel (r := x) (k := u) aB ⟨by omega, by omega⟩) ?_
  refine dS (φ := dD (gt x.es 3) u) (Hv.lel (r := x) (k := u) aB ⟨by omega, by omega⟩) ?_
  refine dS (φ := dD (gt x.es 4) u) (Hv.lel (r := x) (k := u) aB ⟨by omega, by omega⟩) ?_
  refine dS (φ := dD (gt x.es 5) u) (Hv.lel (r := x) (k := u) aB ⟨by omega, by omega⟩) ?_
  refine dS (φ := bB [gt x.es 0, gt x.es 1, gt x.es 2] u) (Hv.three aB aB aB) ?_
  refine dS (φ := bB [gt x.es 3, gt x.es 4, gt x.es 5] u) (Hv.three aB aB aB) ?_
  repeat (refine aI ?_)
  refine qC (fun G M I => ∃ (ba bb bc : Nat) (r1 : RL) (r2 : RL), [r1.q, r2.q, [0, 0, 1]] = frm 2 x.q ∧ r1.es.length = 3 ∧ r2.es.length = 3 ∧ G = [(4, .slice (some ⟨bc, 0, none⟩) 3 3)] ∧ M = .blk bc (recs eL [r1, r2, l3 b7 e0 e0 e1]) 53 :: M0 ∧ I = jI r2 u :: jI r1 u :: jI (l3 b7 e0 e0 e1) u :: I0) ?_ ?_
  ·((repeat refine aH ?_); refine qK (.blk b6 (eR e1) 50 :: .blk b5 (eR e0) 50 :: M0) (bB [gt x.es 3, gt x.es 4, gt x.es 5] u :: bB [gt x.es 0, gt x.es 1, gt x.es 2] u :: dD (gt x.es 0) u :: dD (gt x.es 1) u :: dD (gt x.es 2) u :: dD (gt x.es 3) u :: dD (gt x.es 4) u :: dD (gt x.es 5) u :: jI (l3 b7 e0 e0 e1) u :: dD e1 u :: dD e0 u :: jI x u :: aM x.p (recs eR x.es) :: I0) mixed ?_)
   refine lS (fuel := 4) (listed' := #[true, true, true, true, true, true, true, true, true, false, true, true, true, true, true, true, true, true, true, false, true, false, false]) [0, 1, 2, 3, 4, 5, 6, 7, 8, 10, 11, 12, 13, 14, 15, 16, 17, 18, 20] [3, 3, 2, 3, 3, 2, 3, 3, 2, 3, 3, 2, 3, 3, 2, 3, 3, 2, 2] aD aC (by kernel_rfl) (by kernel_rfl) rfl rfl ?_
   repeat (refine aI ?_)
   refine eQ (fuel := 3) (i := 9) (j := 19) (by kernel_rfl) ?_ ?_
   ·((refine aN (cs := recs eR [gt x.es 0, gt x.es 1, gt x.es 2]) ([rv (gt x.es 0), rv (gt x.es 1), rv (gt x.es 2)]) rfl rfl (by intro v hv; repeat (first | exact absurd hv (List.not_mem_nil) | (rcases List.mem_cons.1 hv with rfl | hv; · rfl))) (by omega) rfl rfl rfl ?_; intro ba; refine ⟨okF, ?_⟩); refine nA (k := u) aB ?_)
    refine bY ?_
    refine dC [19, 21, 22] [0, 0, 0] aD aC (by kernel_rfl) (by kernel_rfl) rfl rfl ?_
    repeat (refine aI ?_)
    ((refine aN (cs := recs eR [gt x.es 3, gt x.es 4, gt x.es 5]) ([rv (gt x.es 3), rv (gt x.es 4), rv (gt x.es 5)]) rfl rfl (by intro v hv; repeat (first | exact absurd hv (List.not_mem_nil) | (rcases List.mem_cons.1 hv with rfl | hv; · rfl))) (by omega) rfl rfl rfl ?_; intro bb; refine ⟨okF, ?_⟩); refine nA (k := u) aB ?_)
    repeat (refine aI ?_)
    (refine aN (cs := recs eL [l3 ba (gt x.es 0) (gt x.es 1) (gt x.es 2), l3 bb (gt x.es 3) (gt x.es 4) (gt x.es 5), l3 b7 e0 e0 e1]) ([lv (l3 ba (gt x.es 0) (gt x.es 1) (gt x.es 2)), lv (l3 bb (gt x.es 3) (gt x.es 4) (gt x.es 5)), lv (l3 b7 e0 e0 e1)]) rfl rfl (by intro v hv; repeat (first | exact absurd hv (List.not_mem_nil) | (rcases List.mem_cons.1 hv with rfl | hv; · rfl))) (by omega) rfl rfl rfl ?_; intro bc; refine ⟨okF, ?_⟩)
    repeat (refine aI ?_)
    (refine iE _ _ _ aO aD aC ⟨ba, bb, bc, l3 ba (gt x.es 0) (gt x.es 1) (gt x.es 2), l3 bb (gt x.es 3) (gt x.es 4) (gt x.es 5), by show [[(gt x.es 0).q, (gt x.es 1).q, (gt x.es 2).q], [(gt x.es 3).q, (gt x.es 4).q, (gt x.es 5).q], [0, 0, 1]] = _; unfold frm; rw [if_neg (by decide), if_neg (by decide)]; simp only [he0, he1, q0, q1, q2, q3, q4, q5], rfl, rfl, rfl, rfl, rfl⟩)
   ·((refine aN (cs := recs eR [gt x.es 3, gt x.es 4, gt x.es 5]) ([rv (gt x.es 3), rv (gt x.es 4), rv (gt x.es 5)]) rfl rfl (by intro v hv; repeat (first | exact absurd hv (List.not_mem_nil) | (rcases List.mem_cons.1 hv with rfl | hv; · rfl))) (by omega) rfl rfl rfl ?_; intro bb; refine ⟨okF, ?_⟩); refine nA (k := u) aB ?_)
    refine bY ?_
    refine dC [9, 21, 22] [0, 0, 0] aD aC (by kernel_rfl) (by kernel_rfl) rfl rfl ?_
    repeat (refine aI ?_)
    ((refine aN (cs := recs eR [gt x.es 0, gt x.es 1, gt x.es 2]) ([rv (gt x.es 0), rv (gt x.es 1), rv (gt x.es 2)]) rfl rfl (by intro v hv; repeat (first | exact absurd hv (List.not_mem_nil) | (rcases List.mem_cons.1 hv with rfl | hv; · rfl))) (by omega) rfl rfl rfl ?_; intro ba; refine ⟨okF, ?_⟩); refine nA (k := u) aB ?_)
    repeat (refine aI ?_)
    (refine aN (cs := recs eL [l3 ba (gt x.es 0) (gt x.es 1) (gt x.es 2), l3 bb (gt x.es 3) (gt x.es 4) (gt x.es 5), l3 b7 e0 e0 e1]) ([lv (l3 ba (gt x.es 0) (gt x.es 1) (gt x.es 2)), lv (l3 bb (gt x.es 3) (gt x.es 4) (gt x.es 5)), lv (l3 b7 e0 e0 e1)]) rfl rfl (by intro v hv; repeat (first | exact absurd hv (List.not_mem_nil) | (rcases List.mem_cons.1 hv with rfl | hv; · rfl))) (by omega) rfl rfl rfl ?_; intro bc; refine ⟨okF, ?_⟩)
    repeat (refine aI ?_)
    (refine iE _ _ _ aO aD aC ⟨ba, bb, bc, l3 ba (gt x.es 0) (gt x.es 1) (gt x.es 2), l3 bb (gt x.es 3) (gt x.es 4) (gt x.es 5), by show [[(gt x.es 0).q, (gt x.es 1).q, (gt x.es 2).q], [(gt x.es 3).q, (gt x.es 4).q, (gt x.es 5).q], [0, 0, 1]] = _; unfold frm; rw [if_neg (by decide), if_neg (by decide)]; simp only [he0, he1, q0, q1, q2, q3, q4, q5], rfl, rfl, rfl, rfl, rfl⟩)
  rintro G M I ⟨ba, bb, bc, r1, r2, hqq, hl1, hl2', rfl, rfl, rfl⟩
  refine eO (φ := gD [r1, r2, l3 b7 e0 e0 e1] u) (Hv.threeL aB aB aB) ?_
  refine zX (C := 3) rfl (by omega) aB ?_
  repeat (refine aI ?_)
  refine iD (M' := M0) (I' := iT ⟨some ⟨bc, 0, none⟩, 3, [r1, r2, l3 b7 e0 e0 e1]⟩ u :: I0) aD aC ?_
  refine aG (by first | exact .inl rfl | exact .inr rfl) rfl rfl _ _ aD aC (⟨rfl, ⟨some ⟨bc, 0, none⟩, 3, [r1, r2, l3 b7 e0 e0 e1]⟩, rfl, by rw [← hqq]; show [r1.q, r2.q, [e0.q, e0.q, e1.q]] = _; rw [he0, he1]; rfl, ⟨rfl, fun r hr => by
   simp only [List.mem_cons, List.not_mem_nil, or_false] at hr
   rcases hr with rfl | rfl | rfl
   ·exact hl1
   ·exact hl2'
   ·rfl⟩, rfl⟩)
end
end Go.Proofs.YtjbhdfpjnjedhaaGreat

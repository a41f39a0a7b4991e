/- The law ControlledChecks. The laws ControlledSingle and ControlledConditions. The document's Beside and Inverse; chapter 34's law: add, mul, Normal, Solve. -/
import Derived.Test.YtgeagiikkeiioaaGreatZgbk
import Derived.Test.YtgeagiikkeiioaaGreatZgbo
import Derived.Test.YtgeagiikkeiioaaGreatZgaw
import Derived.Test.YtgeagiikkeiioaaGreatZgbf
import Derived.Test.YtgeagiikkeiioaaGreatZgar
set_option linter.unusedSimpArgs false
set_option linter.unusedVariables false
set_option maxRecDepth 100000
set_option maxHeartbeats 4000000
namespace Go.Proofs.YtgeagiikkeiioaaGreat
open Go Go.Fx
section
variable {X : List Nat} {w0 : World} {M0 : List Ent} {I0 : List bA}
theorem aLC {m : LE} (hR : m.raw.rch) (fw : m.raw.few 7 5) (hm : sP m.raw ∈ I0) : CD Tryz.prog 38 [vLE m] X w0 M0 I0 (fun v M I => M0 = M ∧ I0 = I ∧ v = .bool true) := by
 have := aGA (X := X) (w0 := w0) (M0 := M0) (I0 := I0) hR hm
 rwa [bR fw, zX] at this
theorem aCL {m : LE} {R C : Nat} (fw : m.raw.few 7 5) (f : m.fit R C) (hm : sP m.raw ∈ I0) : CD Tryz.prog 39 [vLE m] X w0 M0 I0 (fun v M I => M0 = M ∧ I0 = I ∧ v = .int .i64 0) := by
 have := wZ (X := X) (w0 := w0) (M0 := M0) (I0 := I0) (fw.sml (by omega)) hm
 rwa [f.code, zX] at this
end
end Go.Proofs.YtgeagiikkeiioaaGreat
namespace Go.Proofs.YtgeagiikkeiioaaGreat
open Go Go.Fx
theorem aRG {R C i : Nat} {A : Mt} (hi : i < R) : gt (aCA R C A) (i : Int) = B (ctl R C A i) := by
 rw [dY (by simp [aCA]; exact hi)]; simp [aCA]
section
variable {X : List Nat} {w0 : World} {M0 : List Ent} {I0 : List bA}
theorem few_C {m : LE} {R C : Nat} (f : m.fit R C) (fw : m.raw.few 7 5) : R ≤ 7 ∧ C ≤ 5 := by
 have h1 := fw.1.1
 rw [show m.raw.a.rows.length = m.a.rows.length from MX.raw_rows _, f.d.1.1] at h1
 refine ⟨h1, ?_⟩
 have h2 := (fw.2 (gt m.raw.a.rows 0) (cZ (by rw [show m.raw.a.rows.length = m.a.rows.length from MX.raw_rows _, f.d.1.1]; have := f.d.2.1; omega))).1
 rw [show (gt m.raw.a.rows 0).es.length = C from MX.raw_c0 f.d] at h2
 exact h2
/- Conditions -/
end
end Go.Proofs.YtgeagiikkeiioaaGreat
namespace Go.Proofs.YtgeagiikkeiioaaGreat
open Go Go.Fx
theorem Hv.app2 {I : List bA} {a b : List RE} {k : Nat} (h1 : cK a k ∈ I) (h2 : cK b k ∈ I) : Hv I (cK (a ++ b) k) := ⟨fun X w hw => ⟨fun e he => by
 rcases List.mem_append.1 he with h | h
 ·exact (hw _ h1 : AllR a k X w).go e h
 ·exact (hw _ h2 : AllR b k X w).go e h⟩⟩
theorem Hv.xrow1 {I : List bA} {m : MX} {k : Nat} {i : Int} (h : gD m k ∈ I) (hi : 0 ≤ i ∧ i < m.rows.length) : Hv I (cK (gt m.rows i).es k) := ⟨fun X w hw => ⟨((hw _ h : IsX m k X w).row _ (cZ hi)).el⟩⟩
theorem aJT {α : Type} [Inhabited α] {a b : List α} {j : Nat} (h : j < a.length) : gt (a ++ b) (j : Int) = gt a (j : Int) := by
 rw [dY (by rw [List.length_append]; omega), List.getElem_append_left h]; exact (dY h).symm
theorem aSB {α : Type} [Inhabited α] {a b : List α} {j : Nat} (h : a.length ≤ j) (h2 : j < a.length + b.length) : gt (a ++ b) (j : Int) = gt b ((j - a.length : Nat) : Int) := by
 rw [dY (by rw [List.length_append]; omega), List.getElem_append_right h]; exact (dY (by omega)).symm
def besM (R C D : Nat) (A B : Mt) : Mt := vE R (C + D) (fun i j => if j < C then at2 A i j else at2 B i (j - C))
section
variable {X : List Nat} {w0 : World} {M0 : List Ent} {I0 : List bA}
theorem aIN {a b : MX} {R C D u : Nat} (hR : 1 ≤ R ∧ R ≤ 64) (hC : 1 ≤ C ∧ C ≤ 64) (hD : 1 ≤ D ∧ D ≤ 64) (da : a.dim R C) (db : b.dim R D) (ha : gD a u ∈ I0) (hb : gD b u ∈ I0) :
  CD Tryz.prog 155 [mv a, mv b] X w0 M0 I0 (XQ (besM R C D a.q b.q) R (C + D) u M0 I0) := by
 have hl := da.1
 have hl2 := db.1
 refine kM (φ := (∀ r ∈ a.rows, Cap r.p r.es.length r.c) ∧ ∀ r ∈ b.rows, Cap r.p r.es.length r.c) (fun w hw => ⟨fun r hr => ((((hw.imm _ ha).2 : IsX a u _ w)).row r hr).cap, fun r hr => ((((hw.imm _ hb).2 : IsX b u _ w)).row r hr).cap⟩) (fun hcap => ?_)
 refine bQ (φ := aT (a).p (recs eL (a).rows)) (Hv.xsl aB) ?_
 refine bQ (φ := aT (b).p (recs eL (b).rows)) (Hv.xsl aB) ?_
 refine bD Tryz.func155 rfl Tryz.ntmps155 rfl ?_
 repeat (refine aK ?_)
 (refine aL (cs := recs eL []) ([]) rfl rfl (by intro v hv; repeat (first | exact absurd hv (List.not_mem_nil) | (rcases List.mem_cons.1 hv with rfl | hv; · rfl))) (by omega) rfl rfl rfl ?_; intro bo; refine ⟨okF, ?_⟩; refine iJ (mm := 0) 1 .here rfl (by omega) ?_)
 repeat (refine aK ?_)
 refine bL (φ := mK [] u) Hv.nilL ?_
 refine aS [0, 1] rfl (fun k G M I => ∃ (i : Nat) (rows : List RL) (q : Option Addr) (c : Nat), i ≤ R ∧ k = R - i ∧ rows.length = i ∧ (∀ r ∈ rows, r.es.length = C + D) ∧ (∀ t, t < i → (gt rows (t : Int)).es = (gt a.rows (t : Int)).es ++ (gt b.rows (t : Int)).es) ∧ G = [(5, .slice q rows.length c), (6, .int .i64 i)] ∧ M = .row q rows.length c (recs eL rows) 34 1 :: M0 ∧ I = mK rows u :: aT b.p (recs eL b.rows) :: aT a.p (recs eL a.rows) :: I0) (R) _ _ _ aO aC aD (⟨0, [], _, _, by omega, rfl, rfl, fun r hr => by simp at hr, fun t ht => by omega, rfl, rfl, rfl⟩) ?_
 rintro kk G M I ⟨i, rows, q, c, hi, rfl, hrl, hrc, hre, rfl, rfl, rfl⟩
 by_cases hiR : i < R
 ·have hra := da.row hiR
  have hrb := db.row hiR
  have hcpa := (hcap.1 _ (cZ (ms := a.rows) (i := (i : Int)) (by omega))).2
  have hcpb := (hcap.2 _ (cZ (ms := b.rows) (i := (i : Int)) (by omega))).2
  refine bL (φ := aT (gt (a).rows (i : Int)).p (recs eR (gt (a).rows (i : Int)).es)) (Hv.xrsl aB (by omega)) ?_
  refine bL (φ := aT (gt (b).rows (i : Int)).p (recs eR (gt (b).rows (i : Int)).es)) (Hv.xrsl aB (by omega)) ?_
  refine bL (φ := cK (gt a.rows (i : Int)).es u) (Hv.xrow1 (m := a) aB (by omega)) ?_
  refine bL (φ := cK (gt b.rows (i : Int)).es u) (Hv.xrow1 (m := b) aB (by omega)) ?_
  refine bL (φ := cK ((gt a.rows (i : Int)).es ++ (gt b.rows (i : Int)).es) u) (Hv.app2 aB aB) ?_
  repeat (refine aK ?_)
  (repeat refine aJ ?_); refine fT (M0) (cK ((gt a.rows (i : Int)).es ++ (gt b.rows (i : Int)).es) u :: cK (gt b.rows (i : Int)).es u :: cK (gt a.rows (i : Int)).es u :: aT (gt b.rows (i : Int)).p (recs eR (gt b.rows (i : Int)).es) :: aT (gt a.rows (i : Int)).p (recs eR (gt a.rows (i : Int)).es) :: mK rows u :: aT b.p (recs eL b.rows) :: aT a.p (recs eL a.rows) :: I0) [0, 2, 3, 4, 5, 7, 8, 9, 10, 1, 6, 11, 12, 13, 14] [4, 5, 5, 5, 4, 5, 5, 5, 4, 0, 0, 0, 0, 0, 0] aC aD mixed (by kernel_rfl) ?_
  repeat (refine aK ?_)
  (refine aL (cs := recs eR []) ([]) rfl rfl (by intro v hv; repeat (first | exact absurd hv (List.not_mem_nil) | (rcases List.mem_cons.1 hv with rfl | hv; · rfl))) (by omega) rfl rfl rfl ?_; intro bl; refine ⟨okF, ?_⟩; refine iJ (mm := 0) 4 .here rfl (by omega) ?_)
  repeat (refine aK ?_)
  (refine aX (enc := eR) (xs := []) (ys := (gt a.rows (i : Int)).es) 0 rfl rfl rfl (Src.imm aB hcpa) (by decide) rfl (by rw [List.length_nil]; omega) (by rw [List.length_nil]; omega) rfl rfl ?_; intro q1 c1; refine ⟨OkD.any (SubP.drop (SubP.drop SubP.refl)) aD, ?_⟩)
  rw [List.nil_append]
  repeat (refine aK ?_)
  (refine aX (enc := eR) (xs := (gt a.rows (i : Int)).es) (ys := (gt b.rows (i : Int)).es) 0 rfl rfl rfl (Src.imm aB hcpb) (by decide) rfl (by omega) (by omega) rfl rfl ?_; intro q2 c2; refine ⟨OkD.any (SubP.drop (SubP.drop SubP.refl)) aD, ?_⟩)
  refine gH (M' := .row q rows.length c (recs eL rows) 34 1 :: M0) (fun _ hw => Mem.toL hw aB) ?_
  (refine aL (cs := recs eL [(⟨q2, c2, (gt a.rows (i : Int)).es ++ (gt b.rows (i : Int)).es⟩ : RL)]) ([lv (⟨q2, c2, (gt a.rows (i : Int)).es ++ (gt b.rows (i : Int)).es⟩ : RL)]) rfl rfl (by intro v hv; repeat (first | exact absurd hv (List.not_mem_nil) | (rcases List.mem_cons.1 hv with rfl | hv; · rfl))) (by omega) rfl rfl rfl ?_; intro bb; refine ⟨okF, ?_⟩)
  (refine aX (ys := [(⟨q2, c2, (gt a.rows (i : Int)).es ++ (gt b.rows (i : Int)).es⟩ : RL)]) 1 rfl rfl rfl ?_ (by decide) rfl (by omega) (by omega) rfl rfl ?_; (· first | exact Src.blk aB | exact Src.row aB | exact Src.imm aB (by first | assumption | exact .inl (Ok.mk _ _))); intro q3 c3; refine ⟨okF, ?_⟩)
  repeat (refine aK ?_)
  refine fM (φ := mK (rows ++ [(⟨q2, c2, (gt a.rows (i : Int)).es ++ (gt b.rows (i : Int)).es⟩ : RL)]) u) (Hv.snocL aB aB) ?_
  refine aM (R - (i + 1)) _ _ _ (by first | omega | (simp only [List.length_append, List.length_cons, List.length_nil]; omega)) aO aC aD (⟨i + 1, rows ++ [(⟨q2, c2, (gt a.rows (i : Int)).es ++ (gt b.rows (i : Int)).es⟩ : RL)], q3, c3, by omega, rfl, by simp; omega, fun r hr => ?_, fun t ht => ?_, rfl, rfl, rfl⟩)
  ·rcases List.mem_append.1 hr with h | h
   ·exact hrc r h
   ·rw [List.mem_singleton.1 h]; simp; omega
  ·by_cases e1 : t < i
   ·have : gt (rows ++ [(⟨q2, c2, (gt a.rows (i : Int)).es ++ (gt b.rows (i : Int)).es⟩ : RL)]) (t : Int) = gt rows (t : Int) := aJT (by omega)
    rw [this]; exact hre t e1
   ·obtain rfl : t = i := by omega
    have : gt (rows ++ [(⟨q2, c2, (gt a.rows (t : Int)).es ++ (gt b.rows (t : Int)).es⟩ : RL)]) (t : Int) = ⟨q2, c2, (gt a.rows (t : Int)).es ++ (gt b.rows (t : Int)).es⟩ := tT (A := rows) (B := []) (by omega)
    rw [this]
 ·obtain rfl : i = R := by omega
  repeat (refine aK ?_)
  refine vY (k := u) aB ?_
  have hdim : (⟨q, c, rows⟩ : MX).dim i (C + D) := ⟨hrl, hrc⟩
  refine aH (by first | exact .inl rfl | exact .inr rfl) rfl rfl _ _ aC aD (⟨rfl, ⟨q, c, rows⟩, rfl, ?_, hdim, rfl⟩)
  rw [hdim.mk]
  unfold besM
  refine uW (fun t j ht hj => ?_)
  have hrt := hre t ht
  have hat : at2 (⟨q, c, rows⟩ : MX).q t j = (gt (gt rows (t : Int)).es (j : Int)).q := nK (m := ⟨q, c, rows⟩) (by show t < rows.length; omega) (by show j < (gt rows (t : Int)).es.length; rw [hrt, List.length_append, da.row ht, db.row ht]; exact hj)
  rw [hat, hrt]
  have hla := da.row ht
  have hlb := db.row ht
  by_cases e : j < C
  ·rw [if_pos e, nK (m := a) (by omega) (by omega), aJT (by omega)]
  ·rw [if_neg e, nK (m := b) (by omega) (by omega), aSB (by omega) (by omega), hla]
theorem aRI {a : MX} {n u K : Nat} (hK : K = kb u (n + n)) (hb : K ≤ 20000000000) (hn : 1 ≤ n ∧ n ≤ 30) (da : a.dim n n) (ha : gD a u ∈ I0) :
  CD Tryz.prog 104 [mv a] X w0 M0 I0 (fun v M I => M0 = M ∧ if rk a.q n = n then ∃ x : MX, v = .tuple #[mv x, .bool true] ∧ x.dim n n ∧ I = gD x K :: I0 else I0 = I ∧ v = .tuple #[.slice none 0 0, .bool false]) := by
 have lR := da.1
 have hId := fun M0 I0 => aTN (aJB (X := X) (w0 := w0) (M0 := M0) (I0 := I0) (n := n) (by omega))
 refine bE Tryz.func104 rfl Tryz.ntmps104 rfl ?_
 repeat (refine aK ?_)
 rw [lR]
 repeat (refine aK ?_)
 (refine aA rfl (hId _ _) rfl rfl ?_; rintro _ _ _ ⟨rfl, e, rfl, he, hed, rfl⟩; refine ⟨okF, ?_⟩)
 refine iA (φ := gD e u) (Hv.xm (k := 0) aB (Nat.zero_le _)) ?_
 have hBs := fun M0 I0 h1 h2 => aIN (X := X) (w0 := w0) (M0 := M0) (I0 := I0) (a := a) (b := e) (R := n) (C := n) (D := n) (u := u) (by omega) (by omega) (by omega) da hed h1 h2
 (refine aA rfl (hBs _ _ aB aB) rfl rfl ?_; rintro _ _ _ ⟨rfl, b, rfl, hbq, hbd, rfl⟩; refine ⟨okF, ?_⟩)
 have hEc := fun M0 I0 h => aKV (X := X) (w0 := w0) (M0 := M0) (I0 := I0) (a := b) (R := n) (C := n + n) (k0 := u) (by omega) (by omega) (by omega) hbd h
 rw [← hK] at hEc
 (refine aA rfl (hEc _ _ aB) rfl rfl ?_; rintro _ _ _ ⟨rfl, m, pv, q, c, rfl, hred, hmd, rfl⟩; refine ⟨okF, ?_⟩)
 have hiff : (pv.length = n ∧ pv.getD (n - 1) 0 < n) ↔ rk a.q n = n := by
  have h1 := aNN (B := b.q) (n := n) hn.1 (oH hbd)
  rw [hred] at h1
  rw [h1]
  refine aMS (oH hbd) (oH da) (fun i j hi hj => ?_)
  rw [hbq]; unfold besM
  rw [nU hi (by omega), if_pos hj]
 have hple : pv.length ≤ n := by
  obtain ⟨_, s, hr⟩ := iC (oH hbd) (n + n) (Nat.le_refl _)
  rw [hred] at hr
  exact hr.len
 have hz : (zs pv).length = pv.length := by simp
 have hml := hmd.1
 by_cases hl : pv.length = n
 ·have hgz : gt (zs pv) ((n : Int) - 1) = ((pv.getD (n - 1) 0 : Nat) : Int) := by
   have := aPH (pv := pv) (r := n - 1) (by omega)
   rwa [show (((n - 1 : Nat)) : Int) = (n : Int) - 1 by omega] at this
  repeat (refine aK ?_)
  rw [hgz]
  by_cases hlt : pv.getD (n - 1) 0 < n
  ·have hok : rk a.q n = n := hiff.1 ⟨hl, hlt⟩
   simp only [if_pos hok]
   refine bL (φ := aT m.p (recs eL m.rows)) (Hv.xsl aB) ?_
   repeat (refine aK ?_)
   (refine aL (cs := recs eL []) ([]) rfl rfl (by intro v hv; repeat (first | exact absurd hv (List.not_mem_nil) | (rcases List.mem_cons.1 hv with rfl | hv; · rfl))) (by omega) rfl rfl rfl ?_; intro bo; refine ⟨okF, ?_⟩; refine iJ (mm := 0) 1 .here rfl (by omega) ?_)
   repeat (refine aK ?_)
   refine bL (φ := mK [] K) Hv.nilL ?_
   refine uS (fun w hw => fun r (hr : r ∈ m.rows) => (((hw.imm (gD m K) aB).2 : IsX m K _ w).row r hr).cap) (fun hcap => ?_)
   refine aS [4, 5] rfl (fun k G M I => ∃ (i : Nat) (rows : List RL) (qo : Option Addr) (co : Nat), i ≤ n ∧ k = n - i ∧ rows.length = i ∧ (∀ r ∈ rows, r.es.length = n) ∧ G = [(7, .slice qo rows.length co), (8, .int .i64 i)] ∧ M = .row qo rows.length co (recs eL rows) 34 1 :: M0 ∧ I = mK rows K :: aT m.p (recs eL m.rows) :: gD m K :: I0) (n) _ _ _ aO aC aD (⟨0, [], _, _, by omega, rfl, rfl, fun r hr => by simp at hr, rfl, rfl, rfl⟩) ?_
   rintro kk G M I ⟨i, rows, qo, co, hi, rfl, hrl, hrc, rfl, rfl, rfl⟩
   by_cases hin : i < n
   ·have hrm := hmd.row hin
    have hcp := hcap _ (cZ (ms := m.rows) (i := (i : Int)) (by omega))
    have hcok : Ok (gt m.rows (i : Int)).p := hcp.2.resolve_right (fun h => by omega)
    have hdl : ((gt m.rows (i : Int)).es.drop n).length = n := by simp; omega
    refine bL (φ := aT (tC (gt m.rows (i : Int)).p (gt m.rows (i : Int)).c n 4) (recs eR ((gt m.rows (i : Int)).es.drop n))) (Hv.cutR (m := m) (K := K) aB (by omega) (by omega)) ?_
    refine bL (φ := cK ((gt m.rows (i : Int)).es.drop n) K) ⟨fun X w hw => ⟨fun x hx => ((hw _ (by exact aB) : IsX m K X w).row _ (cZ (by omega))).el x (List.mem_of_mem_drop hx)⟩⟩ ?_
    have hoc : Ok (tC (gt m.rows (i : Int)).p (gt m.rows (i : Int)).c n 4) := aNW hcok
    generalize hdr : (gt m.rows (i : Int)).es.drop n = dr at *
    refine bL (φ := aT (gt (m).rows (i : Int)).p (recs eR (gt (m).rows (i : Int)).es)) (Hv.xrsl aB (by omega)) ?_
    repeat (refine aK ?_)
    (refine aL (cs := recs eR []) ([]) rfl rfl (by intro v hv; repeat (first | exact absurd hv (List.not_mem_nil) | (rcases List.mem_cons.1 hv with rfl | hv; · rfl))) (by omega) rfl rfl rfl ?_; intro bl; refine ⟨okF, ?_⟩; refine iJ (mm := 0) 4 .here rfl (by omega) ?_)
    repeat (refine aK ?_)
    (refine aG rfl (fun _ => pQ (e := 42) (sz := 4) n (gt m.rows (i : Int)).es.length dr.length rfl (.inr ⟨_, _, _, rfl, rfl, rfl⟩) (.inl ⟨rfl, rfl⟩) (by omega) (by have := hcp.1; omega) (by omega)) rfl rfl ?_)
    generalize tC (gt m.rows (i : Int)).p (gt m.rows (i : Int)).c n 4 = ca at *
    have hdl' : dr.length = n := hdl
    (refine aX (enc := eR) (xs := []) (ys := dr) 0 rfl rfl rfl (Src.imm aB (.inl hoc)) (by decide) rfl (by rw [List.length_nil]; omega) (by rw [List.length_nil]; omega) rfl rfl ?_; intro q1 c1; refine ⟨okF, ?_⟩)
    rw [List.nil_append]
    refine gH (M' := .row qo rows.length co (recs eL rows) 34 1 :: M0) (fun _ hw => Mem.toL hw aB) ?_
    (refine aL (cs := recs eL [(⟨q1, c1, dr⟩ : RL)]) ([lv (⟨q1, c1, dr⟩ : RL)]) rfl rfl (by intro v hv; repeat (first | exact absurd hv (List.not_mem_nil) | (rcases List.mem_cons.1 hv with rfl | hv; · rfl))) (by omega) rfl rfl rfl ?_; intro bb; refine ⟨okF, ?_⟩)
    (refine aX (ys := [(⟨q1, c1, dr⟩ : RL)]) 1 rfl rfl rfl ?_ (by decide) rfl (by omega) (by omega) rfl rfl ?_; (· first | exact Src.blk aB | exact Src.row aB | exact Src.imm aB (by first | assumption | exact .inl (Ok.mk _ _))); intro q3 c3; refine ⟨okF, ?_⟩)
    repeat (refine aK ?_)
    refine fM (φ := mK (rows ++ [(⟨q1, c1, dr⟩ : RL)]) K) (Hv.snocL aB aB) ?_
    refine aM (n - (i + 1)) _ _ _ (by first | omega | (simp only [List.length_append, List.length_cons, List.length_nil]; omega)) aO aC aD (⟨i + 1, rows ++ [(⟨q1, c1, dr⟩ : RL)], q3, c3, by omega, rfl, by simp; omega, fun r hr => ?_, rfl, rfl, rfl⟩)
    rcases List.mem_append.1 hr with h | h
    ·exact hrc r h
    ·rw [List.mem_singleton.1 h]; exact hdl'
   ·obtain rfl : i = n := by omega
    repeat (refine aK ?_)
    refine vY (k := K) aB ?_
    refine aQS (M' := M0) (I' := gD ⟨qo, co, rows⟩ K :: I0) SubP.refl aD ?_
    refine dZ [2, 3] (by first | exact .inl rfl | exact .inr rfl) rfl rfl rfl _ _ aC aD (⟨rfl, ⟨qo, co, rows⟩, rfl, ⟨hrl, hrc⟩, rfl⟩)
  ·have hno : ¬ rk a.q n = n := fun h => hlt (hiff.2 h).2
   simp only [if_neg hno]
   repeat (refine aK ?_)
   refine dZ [2, 3] (by first | exact .inl rfl | exact .inr rfl) rfl rfl rfl _ _ aC aD (⟨rfl, rfl, rfl⟩)
 ·have hno : ¬ rk a.q n = n := fun h => hl (hiff.2 h).1
  simp only [if_neg hno]
  repeat (refine aK ?_)
  refine dZ [2, 3] (by first | exact .inl rfl | exact .inr rfl) rfl rfl rfl _ _ aC aD (⟨rfl, rfl, rfl⟩)
end
end Go.Proofs.YtgeagiikkeiioaaGreat

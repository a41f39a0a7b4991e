/- The law ControlledMore. -/
import Derived.Test.YtgeagiikkeiioaaGreatZfbl
import Derived.Test.YtgeagiikkeiioaaGreatZfav
set_option linter.unusedSimpArgs false
set_option linter.unusedVariables false
set_option maxRecDepth 100000
set_option maxHeartbeats 4000000
namespace Go.Proofs.YtgeagiikkeiioaaGreat
open Go Go.Fx
section
variable {P : Program} {n : Nat} {Q : Exit → Act → World → Prop} {G : Env} {X : List Nat} {w0 : World} {M M' : List Ent} {I : List bA}
theorem cO {ops l : List Oper} {m : Fx.Mode} {q : Option Addr} {c k : Nat} {es : List RE} {ty : TypeId} {sz : Nat} (hr : Rem (.row q es.length c (recs eR es) ty sz) M M') (ha : bT es k ∈ I) (h : RD P n ops Q m l G X w0 M' (kZ ⟨q, c, es⟩ k :: I)) : RD P n ops Q m l G X w0 M I := yH hr.perm (aRD ha h)
theorem oZ {ops l : List Oper} {m : Fx.Mode} {q : Option Addr} {c k : Nat} {rows : List RL} {ty : TypeId} {sz : Nat} (hr : Rem (.row q rows.length c (recs eL rows) ty sz) M M') (ha : mD rows k ∈ I) (h : RD P n ops Q m l G X w0 M' (jC ⟨q, c, rows⟩ k :: I)) : RD P n ops Q m l G X w0 M I := yH hr.perm (aRE ha h)
end
theorem aMX {R C i : Nat} {A : Mt} {y : List Rat} (hA : A.length = R) (hi : i < R) (h : ctl R C A i) : ctl (R + 1) C (A ++ [y]) i := by
 intro hs
 refine h (zL.2 ?_)
 obtain ⟨x, hx⟩ := zL.1 hs
 refine ⟨x, fun t ht => ?_⟩
 have := hx t (by omega)
 rw [zC (by omega)] at this
 rw [zC ht, ← this]
 exact bM (fun j _ => by
  have h1 : rowAt (A ++ [y]) t = rowAt A t := by unfold rowAt; simp [List.getD, List.getElem?_append_left (show t < A.length by omega)]
  have : at2 (A ++ [y]) t j = at2 A t j := by unfold at2; rw [h1]
  rw [this])
theorem Hv.xall {I : List bA} {m : MX} {k : Nat} (h : jC m k ∈ I) : Hv I (mD m.rows k) := ⟨fun X w hw => ⟨(hw _ h : IsX m k X w).row⟩⟩
section
variable {X : List Nat} {w0 : World} {M0 : List Ent} {I0 : List bA}
theorem aIR {q : Option Addr} {a : List RL} {c : Nat} (hn : (a.length : Int) * 24 ≤ 140737488355328) (hok : Ok q ∨ (a.length = 0 ∧ c = 0)) (ha : aX q (recs eL a) ∈ I0) :
  CD Tryz.prog 53 [.slice q a.length c] X w0 M0 I0 (fun v M I => I0 = I ∧ ∃ q' c', v = .slice q' a.length c' ∧ M = .row q' a.length c' (recs eL a) 34 1 :: M0) := by
 refine bF Tryz.func53 rfl Tryz.ntmps53 rfl ?_
 repeat (refine aJ ?_)
 refine aF rfl (fun _ => sU rfl) rfl rfl ?_
 cases q with
 | some ad =>
  repeat (refine aJ ?_)
  (refine aK (cs := recs eL []) ([]) rfl rfl (by intro v hv; repeat (first | exact absurd hv (List.not_mem_nil) | (rcases List.mem_cons.1 hv with rfl | hv; · rfl))) (by omega) rfl rfl rfl ?_; intro b1; refine ⟨okF, ?_⟩)
  repeat (refine aJ ?_)
  refine oI (mm := 0) 1 kR rfl (by omega) ?_
  refine aM (xs := []) (ys := a) 0 rfl rfl rfl (Src.imm aB hok) (by decide) rfl (by simp; omega) (by simp; omega) rfl rfl ?_
  intro a2 c2
  refine ⟨okF, ?_⟩
  repeat (refine aJ ?_)
  refine aH (by first | exact .inl rfl | exact .inr rfl) rfl rfl _ _ aG aD (⟨rfl, a2, c2, by simp, by simp⟩)
 | none =>
  obtain ⟨h0, rfl⟩ : a.length = 0 ∧ c = 0 := hok.resolve_left (fun h => by obtain ⟨b, o, e⟩ := h.cases; cases e)
  have hnil : a = [] := List.eq_nil_of_length_eq_zero h0
  subst hnil
  repeat (refine aJ ?_)
  refine aDE 34 1 ?_
  refine aH (by first | exact .inl rfl | exact .inr rfl) rfl rfl _ _ aG aD (⟨rfl, none, 0, rfl, rfl⟩)
theorem aAX {q : Option Addr} {a : List RE} {c : Nat} (hn : (a.length : Int) * 64 ≤ 140737488355328) (hok : Ok q ∨ (a.length = 0 ∧ c = 0)) (ha : aX q (recs eR a) ∈ I0) :
  CD Tryz.prog 54 [.slice q a.length c] X w0 M0 I0 (fun v M I => I0 = I ∧ ∃ q' c', v = .slice q' a.length c' ∧ M = .row q' a.length c' (recs eR a) 42 4 :: M0) := by
 refine bF Tryz.func54 rfl Tryz.ntmps54 rfl ?_
 repeat (refine aJ ?_)
 refine aF rfl (fun _ => sU rfl) rfl rfl ?_
 cases q with
 | some ad =>
  repeat (refine aJ ?_)
  (refine aK (cs := recs eR []) ([]) rfl rfl (by intro v hv; repeat (first | exact absurd hv (List.not_mem_nil) | (rcases List.mem_cons.1 hv with rfl | hv; · rfl))) (by omega) rfl rfl rfl ?_; intro b1; refine ⟨okF, ?_⟩)
  repeat (refine aJ ?_)
  refine oI (mm := 0) 4 kR rfl (by omega) ?_
  refine aM (xs := []) (ys := a) 0 rfl rfl rfl (Src.imm aB hok) (by decide) rfl (by simp; omega) (by simp; omega) rfl rfl ?_
  intro a2 c2
  refine ⟨okF, ?_⟩
  repeat (refine aJ ?_)
  refine aH (by first | exact .inl rfl | exact .inr rfl) rfl rfl _ _ aG aD (⟨rfl, a2, c2, by simp, by simp⟩)
 | none =>
  obtain ⟨h0, rfl⟩ : a.length = 0 ∧ c = 0 := hok.resolve_left (fun h => by obtain ⟨b, o, e⟩ := h.cases; cases e)
  have hnil : a = [] := List.eq_nil_of_length_eq_zero h0
  subst hnil
  repeat (refine aJ ?_)
  refine aDE 42 4 ?_
  refine aH (by first | exact .inl rfl | exact .inr rfl) rfl rfl _ _ aG aD (⟨rfl, none, 0, rfl, rfl⟩)
theorem aPR {m : LW} {y : WL} (hR : m.rch) (hyr : y.rch) (hm : qY m ∈ I0) (hy : gQ y ∈ I0) (hn : ¬ (m.few 7 5 ∧ m.code = 0 ∧ y.shN 5 6 ∧ y.es.length = (gt m.a.rows 0).es.length ∧ y.good)) :
  CD Tryz.prog 10 [vLW m, rR y] X w0 M0 I0 (fun v M I => M0 = M ∧ I0 = I ∧ v = .bool true) := by
 have hKn := fun M0 I0 => aAC (X := X) (w0 := w0) (M0 := M0) (I0 := I0)
 have hF := fun M0 I0 h => aFG (X := X) (w0 := w0) (M0 := M0) (I0 := I0) hR h
 have hS := fun M0 I0 h => sF (X := X) (w0 := w0) (M0 := M0) (I0 := I0) (r := y) (n := 5) (g := 6) (by omega) hyr h
 refine cB (φ := nN m.a) (Hv.lwa hm) ?_
 refine cB (φ := aX m.a.p (recs uT m.a.rows)) (Hv.wmsl (List.Mem.head _)) ?_
 refine bH Tryz.func10 rfl Tryz.ntmps10 rfl ?_
 refine aL ?_
 refine aI ?_
 (refine aZ rfl rfl rfl ?_; intro b1; refine ⟨okF, ?_⟩)
 refine aC .here ?_
 repeat (refine aJ ?_)
 (refine aA rfl (hKn _ _) rfl rfl ?_; rintro _ _ _ ⟨rfl, rfl, rfl⟩; refine ⟨okF, ?_⟩)
 by_cases fw : m.few 7 5
 ·rw [bO fw] at hF
  have hC := fun M0 I0 h => vF (X := X) (w0 := w0) (M0 := M0) (I0 := I0) (fw.sml (by omega)) h
  by_cases hc : m.code = 0
  ·obtain ⟨_, ⟨⟨r1, r2⟩, _, _⟩, _, _⟩ := LW.code_ok hc
   rw [hc] at hC
   by_cases ys : y.shN 5 6
   ·rw [bO ys] at hS
    by_cases yl : y.es.length = (gt m.a.rows 0).es.length
    ·have hV := fun M0 I0 h => pI (X := X) (w0 := w0) (M0 := M0) (I0 := I0) (r := y) (WL.shN.sml (by omega) ys) h
     rw [aY (show ¬ y.good from fun h => hn ⟨fw, hc, ys, yl, h⟩)] at hV
     repeat (refine aJ ?_)
     (refine aA rfl (hF _ _ aB) rfl rfl ?_; rintro _ _ _ ⟨rfl, rfl, rfl⟩; refine ⟨okF, ?_⟩)
     repeat (refine aJ ?_)
     (refine aA rfl (hC _ _ aB) rfl rfl ?_; rintro _ _ _ ⟨rfl, rfl, rfl⟩; refine ⟨okF, ?_⟩)
     repeat (refine aJ ?_)
     (refine aA rfl (hS _ _ aB) rfl rfl ?_; rintro _ _ _ ⟨rfl, rfl, rfl⟩; refine ⟨okF, ?_⟩)
     repeat (refine aJ ?_)
     (refine aA rfl (hV _ _ aB) rfl rfl ?_; rintro _ _ _ ⟨rfl, rfl, rfl⟩; refine ⟨okF, ?_⟩)
     repeat (refine aJ ?_)
     refine aH (by first | exact .inl rfl | exact .inr rfl) rfl rfl _ _ aG aD (⟨rfl, rfl, rfl⟩)
    ·repeat (refine aJ ?_)
     (refine aA rfl (hF _ _ aB) rfl rfl ?_; rintro _ _ _ ⟨rfl, rfl, rfl⟩; refine ⟨okF, ?_⟩)
     repeat (refine aJ ?_)
     (refine aA rfl (hC _ _ aB) rfl rfl ?_; rintro _ _ _ ⟨rfl, rfl, rfl⟩; refine ⟨okF, ?_⟩)
     repeat (refine aJ ?_)
     (refine aA rfl (hS _ _ aB) rfl rfl ?_; rintro _ _ _ ⟨rfl, rfl, rfl⟩; refine ⟨okF, ?_⟩)
     repeat (refine aJ ?_)
     refine aH (by first | exact .inl rfl | exact .inr rfl) rfl rfl _ _ aG aD (⟨rfl, rfl, rfl⟩)
   ·rw [aY ys] at hS
    repeat (refine aJ ?_)
    (refine aA rfl (hF _ _ aB) rfl rfl ?_; rintro _ _ _ ⟨rfl, rfl, rfl⟩; refine ⟨okF, ?_⟩)
    repeat (refine aJ ?_)
    (refine aA rfl (hC _ _ aB) rfl rfl ?_; rintro _ _ _ ⟨rfl, rfl, rfl⟩; refine ⟨okF, ?_⟩)
    repeat (refine aJ ?_)
    (refine aA rfl (hS _ _ aB) rfl rfl ?_; rintro _ _ _ ⟨rfl, rfl, rfl⟩; refine ⟨okF, ?_⟩)
    repeat (refine aJ ?_)
    refine aH (by first | exact .inl rfl | exact .inr rfl) rfl rfl _ _ aG aD (⟨rfl, rfl, rfl⟩)
  ·generalize m.code = co at *
   repeat (refine aJ ?_)
   (refine aA rfl (hF _ _ aB) rfl rfl ?_; rintro _ _ _ ⟨rfl, rfl, rfl⟩; refine ⟨okF, ?_⟩)
   repeat (refine aJ ?_)
   (refine aA rfl (hC _ _ aB) rfl rfl ?_; rintro _ _ _ ⟨rfl, rfl, rfl⟩; refine ⟨okF, ?_⟩)
   repeat (refine aJ ?_)
   refine aH (by first | exact .inl rfl | exact .inr rfl) rfl rfl _ _ aG aD (⟨rfl, rfl, rfl⟩)
 ·rw [aY fw] at hF
  repeat (refine aJ ?_)
  (refine aA rfl (hF _ _ aB) rfl rfl ?_; rintro _ _ _ ⟨rfl, rfl, rfl⟩; refine ⟨okF, ?_⟩)
  repeat (refine aJ ?_)
  refine aH (by first | exact .inl rfl | exact .inr rfl) rfl rfl _ _ aG aD (⟨rfl, rfl, rfl⟩)
theorem aLE {m : LE} {R C : Nat} {y : RL} (hR : m.raw.rch) (hyr : y.raw.rch) (f : m.fit R C) (hd : R ≤ 7 ∧ C ≤ 5) (hm : qY m.raw ∈ I0) (h : iC m 180 ∈ I0) (hy : gQ y.raw ∈ I0) (hyn : kZ y 180 ∈ I0) (fw : m.raw.few 7 5) (ys : y.raw.shN 5 6) (hyl : y.es.length = C) :
  CD Tryz.prog 10 [vLE m, lv y] X w0 M0 I0 (fun v M I => M0 = M ∧ I0 = I ∧ v = .bool true) := by
 have lR := f.d.1.1
 subst lR
 have lC := f.d.r0
 obtain ⟨r1, r2⟩ := f.d.2.1
 obtain ⟨c1, c2⟩ := f.d.2.2
 have hkb : kb 180 C ≤ 300000 := Nat.le_trans (pG 180 hd.2) (by decide)
 have hKn := fun M0 I0 => aAC (X := X) (w0 := w0) (M0 := M0) (I0 := I0)
 have hF := fun M0 I0 h => aIS (X := X) (w0 := w0) (M0 := M0) (I0 := I0) hR fw h
 have hCk := fun M0 I0 h => aAU (X := X) (w0 := w0) (M0 := M0) (I0 := I0) fw f h
 have hS := fun M0 I0 h => sF (X := X) (w0 := w0) (M0 := M0) (I0 := I0) (r := y.raw) (n := 5) (g := 6) (by omega) hyr h
 rw [bO ys, rA] at hS
 have hV := fun M0 I0 h => aGF (X := X) (w0 := w0) (M0 := M0) (I0 := I0) (y := y) (k := 180) (by omega) (by omega) h
 have hW := fun (x : Int) (hx : x.natAbs ≤ 2 ^ 180 ∧ -9223372036854775808 ≤ x ∧ x ≤ 9223372036854775807) M0 I0 => zZ (X := X) (w0 := w0) (M0 := M0) (I0 := I0) (x := x) hx.2 (k := 180) hx.1
 refine jT (φ := Cap m.a.p m.a.rows.length m.a.c ∧ Cap m.l.p m.l.es.length m.l.c ∧ Cap m.p.p m.p.es.length m.p.c) (fun w hw => by
  have hh := ((hw.imm _ h).2 : IsLE m 180 _ w)
  exact ⟨hh.a.cap, hh.l.cap, hh.p.cap⟩) (fun hcap => ?_)
 obtain ⟨hca, hcl, hcp⟩ := hcap
 have hll := f.l
 have hpl := f.p
 have hClA := fun M0 I0 h => aIR (X := X) (w0 := w0) (M0 := M0) (I0 := I0) (q := m.a.p) (a := m.a.rows) (c := m.a.c) (by omega) hca.2 h
 have hClL := fun M0 I0 h => aAX (X := X) (w0 := w0) (M0 := M0) (I0 := I0) (q := m.l.p) (a := m.l.es) (c := m.l.c) (by omega) hcl.2 h
 have hClP := fun M0 I0 h => aAX (X := X) (w0 := w0) (M0 := M0) (I0 := I0) (q := m.p.p) (a := m.p.es) (c := m.p.c) (by omega) hcp.2 h
 have hCt := fun M0 I0 h => nH (X := X) (w0 := w0) (M0 := M0) (I0 := I0) (m := m) (k := 180) (by omega) f h
 have hfit : ∀ (q5 : Option Addr) (c5 : Nat) (q11 : Option Addr) (c11 : Nat) (q17 : Option Addr) (c17 : Nat) (e9 e15 : RE), e15.q = ((1 : Int) : Rat) → LE.fit ⟨⟨q5, c5, m.a.rows ++ [y]⟩, ⟨q11, c11, m.l.es ++ [e9]⟩, ⟨q17, c17, m.p.es ++ [e15]⟩⟩ (m.a.rows.length + 1) C := fun q5 c5 q11 c11 q17 c17 e9 e15 he => by
  refine ⟨⟨⟨by show (m.a.rows ++ [y]).length = _; simp, fun r hr => ?_⟩, ⟨by omega, by omega⟩, c1, c2⟩, f.c, by show (m.l.es ++ [e9]).length = _; simp [hll], by show (m.p.es ++ [e15]).length = _; simp [hpl], fun e hx => ?_⟩
  ·rcases List.mem_append.1 hr with h | h
   ·exact f.d.1.2 r h
   ·rw [List.mem_singleton.1 h]; exact hyl
  ·rcases List.mem_append.1 hx with h | h
   ·exact f.pos e h
   ·rw [List.mem_singleton.1 h, he]; decide
 have hmq : ∀ (q5 : Option Addr) (c5 : Nat), (⟨q5, c5, m.a.rows ++ [y]⟩ : MX).q = m.a.q ++ [y.q] := fun q5 c5 => by show (m.a.rows ++ [y]).map RL.q = _; simp
 refine cB (φ := jC m.a 180) (Hv.lea h) ?_
 refine cB (φ := kZ m.l 180) (Hv.lel' (List.Mem.tail _ h)) ?_
 refine cB (φ := kZ m.p 180) (Hv.lep (List.Mem.tail _ (List.Mem.tail _ h))) ?_
 refine cB (φ := aX (m.a).p (recs eL (m.a).rows)) (Hv.xsl aB) ?_
 refine cB (φ := aX (m.l).p (recs eR (m.l).es)) (Hv.lsl aB) ?_
 refine cB (φ := aX (m.p).p (recs eR (m.p).es)) (Hv.lsl aB) ?_
 refine cB (φ := mD m.a.rows 180) (Hv.xall aB) ?_
 refine cB (φ := bT m.l.es 180) (Hv.lall aB) ?_
 refine cB (φ := bT m.p.es 180) (Hv.lall aB) ?_
 refine bH Tryz.func10 rfl Tryz.ntmps10 rfl ?_
 refine aL ?_
 refine aI ?_
 (refine aZ rfl rfl rfl ?_; intro b1; refine ⟨okF, ?_⟩)
 refine aC .here ?_
 repeat (refine aJ ?_)
 (refine aA rfl (hKn _ _) rfl rfl ?_; rintro _ _ _ ⟨rfl, rfl, rfl⟩; refine ⟨okF, ?_⟩)
 repeat (refine aJ ?_)
 (refine aA rfl (hF _ _ aB) rfl rfl ?_; rintro _ _ _ ⟨rfl, rfl, rfl⟩; refine ⟨okF, ?_⟩)
 repeat (refine aJ ?_)
 (refine aA rfl (hCk _ _ aB) rfl rfl ?_; rintro _ _ _ ⟨rfl, rfl, rfl⟩; refine ⟨okF, ?_⟩)
 repeat (refine aJ ?_)
 (refine aA rfl (hS _ _ aB) rfl rfl ?_; rintro _ _ _ ⟨rfl, rfl, rfl⟩; refine ⟨okF, ?_⟩)
 repeat (refine aJ ?_)
 (refine aA rfl (hV _ _ aB) rfl rfl ?_; rintro _ _ _ ⟨rfl, rfl, rfl⟩; refine ⟨okF, ?_⟩)
 repeat (refine aJ ?_)
 refine vD (fun G M I => ∃ (m' : LE) (b19 : Nat), m'.fit (m.a.rows.length + 1) C ∧ m'.a.q = m.a.q ++ [y.q] ∧ G = [(2, .pointer (some ⟨b1, 0, none⟩)), (5, .pointer (some ⟨b19, 0, none⟩))] ∧ M0 = M ∧ I = aX (some ⟨b19, 0, none⟩) [mv m'.a, lv m'.l, lv m'.p] :: iC m' 180 :: aX (some ⟨b1, 0, none⟩) [mv m.a, lv m.l, lv m.p] :: I0) ?_ ?_
 ·((repeat refine aL ?_); refine aCN (M0) (aX (some ⟨b1, 0, none⟩) [mv m.a, lv m.l, lv m.p] :: bT m.p.es 180 :: bT m.l.es 180 :: mD m.a.rows 180 :: aX m.p.p (recs eR m.p.es) :: aX m.l.p (recs eR m.l.es) :: aX m.a.p (recs eL m.a.rows) :: kZ m.p 180 :: kZ m.l 180 :: jC m.a 180 :: I0) mixed ?_)
  refine uO (fuel := 14) (listed' := #[true, true, false, true, false, false, true, true, false, false, false, false, true, true, false, false, false, false, false, false, false]) [0, 1, 3, 6, 7, 12, 13] [12, 11, 11, 12, 11, 12, 11] aG aD (by kernel_rfl) (by kernel_rfl) rfl rfl ?_
  repeat (refine aJ ?_)
  refine rE (fuel := 13) (i := 2) (j := 4) (m := 19) (by kernel_rfl) ?_ ?_ ?_
  ·(refine aA rfl (hClA _ _ aB) rfl rfl ?_; rintro _ _ _ ⟨rfl, qa, ca, rfl, rfl⟩; refine ⟨okF, ?_⟩)
   refine aT ?_
   repeat (refine aJ ?_)
   refine bB (fuel := 12) (i := 4) (j := 19) (by kernel_rfl) ?_ ?_
   ·((refine aK (cs := recs eL [y]) ([lv y]) rfl rfl (by intro v hv; repeat (first | exact absurd hv (List.not_mem_nil) | (rcases List.mem_cons.1 hv with rfl | hv; · rfl))) (by omega) rfl rfl rfl ?_; intro b4; refine ⟨okF, ?_⟩); refine aC .here ?_)
    refine aT ?_
    repeat (refine aJ ?_)
    refine bB (fuel := 11) (i := 5) (j := 19) (by kernel_rfl) ?_ ?_
    ·((first | (refine aM (ys := [y]) 0 rfl rfl rfl ?_ (by decide) rfl (by omega) (by omega) rfl rfl ?_; (· exact Src.imm aB (.inl (Ok.mk _ _))); intro q5 c5; refine ⟨OkD.any (by first | exact SubP.drop SubP.refl | exact SubP.drop (SubP.drop SubP.refl)) aD, ?_⟩) | (refine aM (ys := [y]) 1 rfl rfl rfl ?_ (by decide) rfl (by omega) (by omega) rfl rfl ?_; (· exact Src.imm aB (.inl (Ok.mk _ _))); intro q5 c5; refine ⟨OkD.any (by first | exact SubP.drop SubP.refl | exact SubP.drop (SubP.drop SubP.refl)) aD, ?_⟩)); refine cK (φ := mD (m.a.rows ++ [y]) 180) (Hv.snocL aB aB) ?_; refine oZ fF aB ?_)
     refine aT ?_
     repeat (refine aJ ?_)
     refine bB (fuel := 10) (i := 8) (j := 19) (by kernel_rfl) ?_ ?_
     ·(refine aA rfl (hClL _ _ aB) rfl rfl ?_; rintro _ _ _ ⟨rfl, ql, cl, rfl, rfl⟩; refine ⟨okF, ?_⟩)
      refine aT ?_
      repeat (refine aJ ?_)
      refine bB (fuel := 9) (i := 9) (j := 19) (by kernel_rfl) ?_ ?_
      ·(refine aA rfl (hW 0 (by decide) _ _) rfl rfl ?_; rintro _ _ _ ⟨rfl, e9, rfl, he9, rfl⟩; refine ⟨okF, ?_⟩)
       refine aT ?_
       repeat (refine aJ ?_)
       refine bB (fuel := 8) (i := 10) (j := 19) (by kernel_rfl) ?_ ?_
       ·((refine aK (cs := recs eR [e9]) ([rv e9]) rfl rfl (by intro v hv; repeat (first | exact absurd hv (List.not_mem_nil) | (rcases List.mem_cons.1 hv with rfl | hv; · rfl))) (by omega) rfl rfl rfl ?_; intro b10; refine ⟨okF, ?_⟩); refine aC .here ?_)
        refine aT ?_
        repeat (refine aJ ?_)
        refine bB (fuel := 7) (i := 11) (j := 19) (by kernel_rfl) ?_ ?_
        ·((first | (refine aM (ys := [e9]) 0 rfl rfl rfl ?_ (by decide) rfl (by omega) (by omega) rfl rfl ?_; (· exact Src.imm aB (.inl (Ok.mk _ _))); intro q11 c11; refine ⟨OkD.any (by first | exact SubP.drop SubP.refl | exact SubP.drop (SubP.drop SubP.refl)) aD, ?_⟩) | (refine aM (ys := [e9]) 1 rfl rfl rfl ?_ (by decide) rfl (by omega) (by omega) rfl rfl ?_; (· exact Src.imm aB (.inl (Ok.mk _ _))); intro q11 c11; refine ⟨OkD.any (by first | exact SubP.drop SubP.refl | exact SubP.drop (SubP.drop SubP.refl)) aD, ?_⟩)); refine cK (φ := bT (m.l.es ++ [e9]) 180) (Hv.snoc aB aB) ?_; refine cO fF aB ?_)
         refine aT ?_
         repeat (refine aJ ?_)
         refine bB (fuel := 6) (i := 14) (j := 19) (by kernel_rfl) ?_ ?_
         ·(refine aA rfl (hClP _ _ aB) rfl rfl ?_; rintro _ _ _ ⟨rfl, qp, cp, rfl, rfl⟩; refine ⟨okF, ?_⟩)
          refine aT ?_
          repeat (refine aJ ?_)
          refine bB (fuel := 5) (i := 15) (j := 19) (by kernel_rfl) ?_ ?_
          ·(refine aA rfl (hW 1 (by decide) _ _) rfl rfl ?_; rintro _ _ _ ⟨rfl, e15, rfl, he15, rfl⟩; refine ⟨okF, ?_⟩)
           refine aT ?_
           repeat (refine aJ ?_)
           refine bB (fuel := 4) (i := 16) (j := 19) (by kernel_rfl) ?_ ?_
           ·((refine aK (cs := recs eR [e15]) ([rv e15]) rfl rfl (by intro v hv; repeat (first | exact absurd hv (List.not_mem_nil) | (rcases List.mem_cons.1 hv with rfl | hv; · rfl))) (by omega) rfl rfl rfl ?_; intro b16; refine ⟨okF, ?_⟩); refine aC .here ?_)
            refine aT ?_
            repeat (refine aJ ?_)
            refine bB (fuel := 3) (i := 17) (j := 19) (by kernel_rfl) ?_ ?_
            ·((first | (refine aM (ys := [e15]) 0 rfl rfl rfl ?_ (by decide) rfl (by omega) (by omega) rfl rfl ?_; (· exact Src.imm aB (.inl (Ok.mk _ _))); intro q17 c17; refine ⟨OkD.any (by first | exact SubP.drop SubP.refl | exact SubP.drop (SubP.drop SubP.refl)) aD, ?_⟩) | (refine aM (ys := [e15]) 1 rfl rfl rfl ?_ (by decide) rfl (by omega) (by omega) rfl rfl ?_; (· exact Src.imm aB (.inl (Ok.mk _ _))); intro q17 c17; refine ⟨OkD.any (by first | exact SubP.drop SubP.refl | exact SubP.drop (SubP.drop SubP.refl)) aD, ?_⟩)); refine cK (φ := bT (m.p.es ++ [e15]) 180) (Hv.snoc aB aB) ?_; refine cO fF aB ?_)
             refine aT ?_
             refine aV [18, 19, 20] [1, 0, 0] aG aD (by kernel_rfl) (by kernel_rfl) rfl rfl ?_
             repeat (refine aJ ?_)
             (refine aF rfl (fun _ => bC (vals := [mv ⟨q5, c5, m.a.rows ++ [y]⟩, lv ⟨q11, c11, m.l.es ++ [e9]⟩, lv ⟨q17, c17, m.p.es ++ [e15]⟩]) (cells := [mv ⟨q5, c5, m.a.rows ++ [y]⟩, lv ⟨q11, c11, m.l.es ++ [e9]⟩, lv ⟨q17, c17, m.p.es ++ [e15]⟩]) rfl ?hpl rfl ?hz) rfl rfl ?_; (case hpl => repeat (first | exact True.intro | refine ⟨rfl, ?_⟩)); (case hz => rfl))
             repeat (refine aJ ?_)
             (refine aO rfl rfl ?_; intro b19; refine ⟨okF, ?_⟩)
             repeat (refine aJ ?_)
             (refine dV (φ := iC ⟨⟨q5, c5, m.a.rows ++ [y]⟩, ⟨q11, c11, m.l.es ++ [e9]⟩, ⟨q17, c17, m.p.es ++ [e15]⟩⟩ 180) (Hv.le3 aB aB aB) ?_; refine dB .here ?_; refine bY _ _ _ aP aG aD ⟨⟨⟨q5, c5, m.a.rows ++ [y]⟩, ⟨q11, c11, m.l.es ++ [e9]⟩, ⟨q17, c17, m.p.es ++ [e15]⟩⟩, b19, hfit q5 c5 q11 c11 q17 c17 e9 e15 he15, hmq q5 c5, rfl, rfl, rfl⟩)
            ·(refine aO rfl rfl ?_; intro b19; refine ⟨okF, ?_⟩)
             refine aT ?_
             refine aV [17, 18, 20] [0, 0, 0] aG aD (by kernel_rfl) (by kernel_rfl) rfl rfl ?_
             repeat (refine aJ ?_)
             ((first | (refine aM (ys := [e15]) 0 rfl rfl rfl ?_ (by decide) rfl (by omega) (by omega) rfl rfl ?_; (· exact Src.imm aB (.inl (Ok.mk _ _))); intro q17 c17; refine ⟨OkD.any (by first | exact SubP.drop SubP.refl | exact SubP.drop (SubP.drop SubP.refl)) aD, ?_⟩) | (refine aM (ys := [e15]) 1 rfl rfl rfl ?_ (by decide) rfl (by omega) (by omega) rfl rfl ?_; (· exact Src.imm aB (.inl (Ok.mk _ _))); intro q17 c17; refine ⟨OkD.any (by first | exact SubP.drop SubP.refl | exact SubP.drop (SubP.drop SubP.refl)) aD, ?_⟩)); refine cK (φ := bT (m.p.es ++ [e15]) 180) (Hv.snoc aB aB) ?_; refine cO fF aB ?_)
             repeat (refine aJ ?_)
             (refine aF rfl (fun _ => bC (vals := [mv ⟨q5, c5, m.a.rows ++ [y]⟩, lv ⟨q11, c11, m.l.es ++ [e9]⟩, lv ⟨q17, c17, m.p.es ++ [e15]⟩]) (cells := [mv ⟨q5, c5, m.a.rows ++ [y]⟩, lv ⟨q11, c11, m.l.es ++ [e9]⟩, lv ⟨q17, c17, m.p.es ++ [e15]⟩]) rfl ?hpl rfl ?hz) rfl rfl ?_; (case hpl => repeat (first | exact True.intro | refine ⟨rfl, ?_⟩)); (case hz => rfl))
             repeat (refine aJ ?_)
             (refine dV (φ := iC ⟨⟨q5, c5, m.a.rows ++ [y]⟩, ⟨q11, c11, m.l.es ++ [e9]⟩, ⟨q17, c17, m.p.es ++ [e15]⟩⟩ 180) (Hv.le3 aB aB aB) ?_; refine dB .here ?_; refine bY _ _ _ aP aG aD ⟨⟨⟨q5, c5, m.a.rows ++ [y]⟩, ⟨q11, c11, m.l.es ++ [e9]⟩, ⟨q17, c17, m.p.es ++ [e15]⟩⟩, b19, hfit q5 c5 q11 c11 q17 c17 e9 e15 he15, hmq q5 c5, rfl, rfl, rfl⟩)
           ·(refine aO rfl rfl ?_; intro b19; refine ⟨okF, ?_⟩)
            refine aT ?_
            refine aV [16, 17, 18, 20] [0, 0, 0, 0] aG aD (by kernel_rfl) (by kernel_rfl) rfl rfl ?_
            repeat (refine aJ ?_)
            ((refine aK (cs := recs eR [e15]) ([rv e15]) rfl rfl (by intro v hv; repeat (first | exact absurd hv (List.not_mem_nil) | (rcases List.mem_cons.1 hv with rfl | hv; · rfl))) (by omega) rfl rfl rfl ?_; intro b16; refine ⟨okF, ?_⟩); refine aC .here ?_)
            repeat (refine aJ ?_)
            ((first | (refine aM (ys := [e15]) 0 rfl rfl rfl ?_ (by decide) rfl (by omega) (by omega) rfl rfl ?_; (· exact Src.imm aB (.inl (Ok.mk _ _))); intro q17 c17; refine ⟨OkD.any (by first | exact SubP.drop SubP.refl | exact SubP.drop (SubP.drop SubP.refl)) aD, ?_⟩) | (refine aM (ys := [e15]) 1 rfl rfl rfl ?_ (by decide) rfl (by omega) (by omega) rfl rfl ?_; (· exact Src.imm aB (.inl (Ok.mk _ _))); intro q17 c17; refine ⟨OkD.any (by first | exact SubP.drop SubP.refl | exact SubP.drop (SubP.drop SubP.refl)) aD, ?_⟩)); refine cK (φ := bT (m.p.es ++ [e15]) 180) (Hv.snoc aB aB) ?_; refine cO fF aB ?_)
            repeat (refine aJ ?_)
            (refine aF rfl (fun _ => bC (vals := [mv ⟨q5, c5, m.a.rows ++ [y]⟩, lv ⟨q11, c11, m.l.es ++ [e9]⟩, lv ⟨q17, c17, m.p.es ++ [e15]⟩]) (cells := [mv ⟨q5, c5, m.a.rows ++ [y]⟩, lv ⟨q11, c11, m.l.es ++ [e9]⟩, lv ⟨q17, c17, m.p.es ++ [e15]⟩]) rfl ?hpl rfl ?hz) rfl rfl ?_; (case hpl => repeat (first | exact True.intro | refine ⟨rfl, ?_⟩)); (case hz => rfl))
            repeat (refine aJ ?_)
            (refine dV (φ := iC ⟨⟨q5, c5, m.a.rows ++ [y]⟩, ⟨q11, c11, m.l.es ++ [e9]⟩, ⟨q17, c17, m.p.es ++ [e15]⟩⟩ 180) (Hv.le3 aB aB aB) ?_; refine dB .here ?_; refine bY _ _ _ aP aG aD ⟨⟨⟨q5, c5, m.a.rows ++ [y]⟩, ⟨q11, c11, m.l.es ++ [e9]⟩, ⟨q17, c17, m.p.es ++ [e15]⟩⟩, b19, hfit q5 c5 q11 c11 q17 c17 e9 e15 he15, hmq q5 c5, rfl, rfl, rfl⟩)
          ·(refine aO rfl rfl ?_; intro b19; refine ⟨okF, ?_⟩)
           refine aT ?_
           refine aV [15, 16, 17, 18, 20] [0, 0, 0, 0, 0] aG aD (by kernel_rfl) (by kernel_rfl) rfl rfl ?_
           repeat (refine aJ ?_)
           (refine aA rfl (hW 1 (by decide) _ _) rfl rfl ?_; rintro _ _ _ ⟨rfl, e15, rfl, he15, rfl⟩; refine ⟨okF, ?_⟩)
           repeat (refine aJ ?_)
           ((refine aK (cs := recs eR [e15]) ([rv e15]) rfl rfl (by intro v hv; repeat (first | exact absurd hv (List.not_mem_nil) | (rcases List.mem_cons.1 hv with rfl | hv; · rfl))) (by omega) rfl rfl rfl ?_; intro b16; refine ⟨okF, ?_⟩); refine aC .here ?_)
           repeat (refine aJ ?_)
           ((first | (refine aM (ys := [e15]) 0 rfl rfl rfl ?_ (by decide) rfl (by omega) (by omega) rfl rfl ?_; (· exact Src.imm aB (.inl (Ok.mk _ _))); intro q17 c17; refine ⟨OkD.any (by first | exact SubP.drop SubP.refl | exact SubP.drop (SubP.drop SubP.refl)) aD, ?_⟩) | (refine aM (ys := [e15]) 1 rfl rfl rfl ?_ (by decide) rfl (by omega) (by omega) rfl rfl ?_; (· exact Src.imm aB (.inl (Ok.mk _ _))); intro q17 c17; refine ⟨OkD.any (by first | exact SubP.drop SubP.refl | exact SubP.drop (SubP.drop SubP.refl)) aD, ?_⟩)); refine cK (φ := bT (m.p.es ++ [e15]) 180) (Hv.snoc aB aB) ?_; refine cO fF aB ?_)
           repeat (refine aJ ?_)
           (refine aF rfl (fun _ => bC (vals := [mv ⟨q5, c5, m.a.rows ++ [y]⟩, lv ⟨q11, c11, m.l.es ++ [e9]⟩, lv ⟨q17, c17, m.p.es ++ [e15]⟩]) (cells := [mv ⟨q5, c5, m.a.rows ++ [y]⟩, lv ⟨q11, c11, m.l.es ++ [e9]⟩, lv ⟨q17, c17, m.p.es ++ [e15]⟩]) rfl ?hpl rfl ?hz) rfl rfl ?_; (case hpl => repeat (first | exact True.intro | refine ⟨rfl, ?_⟩)); (case hz => rfl))
           repeat (refine aJ ?_)
           (refine dV (φ := iC ⟨⟨q5, c5, m.a.rows ++ [y]⟩, ⟨q11, c11, m.l.es ++ [e9]⟩, ⟨q17, c17, m.p.es ++ [e15]⟩⟩ 180) (Hv.le3 aB aB aB) ?_; refine dB .here ?_; refine bY _ _ _ aP aG aD ⟨⟨⟨q5, c5, m.a.rows ++ [y]⟩, ⟨q11, c11, m.l.es ++ [e9]⟩, ⟨q17, c17, m.p.es ++ [e15]⟩⟩, b19, hfit q5 c5 q11 c11 q17 c17 e9 e15 he15, hmq q5 c5, rfl, rfl, rfl⟩)
         ·(refine aO rfl rfl ?_; intro b19; refine ⟨okF, ?_⟩)
          refine aT ?_
          refine aV [14, 15, 16, 17, 18, 20] [0, 0, 0, 0, 0, 0] aG aD (by kernel_rfl) (by kernel_rfl) rfl rfl ?_
          repeat (refine aJ ?_)
          (refine aA rfl (hClP _ _ aB) rfl rfl ?_; rintro _ _ _ ⟨rfl, qp, cp, rfl, rfl⟩; refine ⟨okF, ?_⟩)
          repeat (refine aJ ?_)
          (refine aA rfl (hW 1 (by decide) _ _) rfl rfl ?_; rintro _ _ _ ⟨rfl, e15, rfl, he15, rfl⟩; refine ⟨okF, ?_⟩)
          repeat (refine aJ ?_)
          ((refine aK (cs := recs eR [e15]) ([rv e15]) rfl rfl (by intro v hv; repeat (first | exact absurd hv (List.not_mem_nil) | (rcases List.mem_cons.1 hv with rfl | hv; · rfl))) (by omega) rfl rfl rfl ?_; intro b16; refine ⟨okF, ?_⟩); refine aC .here ?_)
          repeat (refine aJ ?_)
          ((first | (refine aM (ys := [e15]) 0 rfl rfl rfl ?_ (by decide) rfl (by omega) (by omega) rfl rfl ?_; (· exact Src.imm aB (.inl (Ok.mk _ _))); intro q17 c17; refine ⟨OkD.any (by first | exact SubP.drop SubP.refl | exact SubP.drop (SubP.drop SubP.refl)) aD, ?_⟩) | (refine aM (ys := [e15]) 1 rfl rfl rfl ?_ (by decide) rfl (by omega) (by omega) rfl rfl ?_; (· exact Src.imm aB (.inl (Ok.mk _ _))); intro q17 c17; refine ⟨OkD.any (by first | exact SubP.drop SubP.refl | exact SubP.drop (SubP.drop SubP.refl)) aD, ?_⟩)); refine cK (φ := bT (m.p.es ++ [e15]) 180) (Hv.snoc aB aB) ?_; refine cO fF aB ?_)
          repeat (refine aJ ?_)
          (refine aF rfl (fun _ => bC (vals := [mv ⟨q5, c5, m.a.rows ++ [y]⟩, lv ⟨q11, c11, m.l.es ++ [e9]⟩, lv ⟨q17, c17, m.p.es ++ [e15]⟩]) (cells := [mv ⟨q5, c5, m.a.rows ++ [y]⟩, lv ⟨q11, c11, m.l.es ++ [e9]⟩, lv ⟨q17, c17, m.p.es ++ [e15]⟩]) rfl ?hpl rfl ?hz) rfl rfl ?_; (case hpl => repeat (first | exact True.intro | refine ⟨rfl, ?_⟩)); (case hz => rfl))
          repeat (refine aJ ?_)
          (refine dV (φ := iC ⟨⟨q5, c5, m.a.rows ++ [y]⟩, ⟨q11, c11, m.l.es ++ [e9]⟩, ⟨q17, c17, m.p.es ++ [e15]⟩⟩ 180) (Hv.le3 aB aB aB) ?_; refine dB .here ?_; refine bY _ _ _ aP aG aD ⟨⟨⟨q5, c5, m.a.rows ++ [y]⟩, ⟨q11, c11, m.l.es ++ [e9]⟩, ⟨q17, c17, m.p.es ++ [e15]⟩⟩, b19, hfit q5 c5 q11 c11 q17 c17 e9 e15 he15, hmq q5 c5, rfl, rfl, rfl⟩)
        ·(refine aO rfl rfl ?_; intro b19; refine ⟨okF, ?_⟩)
         refine aT ?_
         refine aV [11, 14, 15, 16, 17, 18, 20] [0, 0, 0, 0, 0, 0, 0] aG aD (by kernel_rfl) (by kernel_rfl) rfl rfl ?_
         repeat (refine aJ ?_)
         ((first | (refine aM (ys := [e9]) 0 rfl rfl rfl ?_ (by decide) rfl (by omega) (by omega) rfl rfl ?_; (· exact Src.imm aB (.inl (Ok.mk _ _))); intro q11 c11; refine ⟨OkD.any (by first | exact SubP.drop SubP.refl | exact SubP.drop (SubP.drop SubP.refl)) aD, ?_⟩) | (refine aM (ys := [e9]) 1 rfl rfl rfl ?_ (by decide) rfl (by omega) (by omega) rfl rfl ?_; (· exact Src.imm aB (.inl (Ok.mk _ _))); intro q11 c11; refine ⟨OkD.any (by first | exact SubP.drop SubP.refl | exact SubP.drop (SubP.drop SubP.refl)) aD, ?_⟩)); refine cK (φ := bT (m.l.es ++ [e9]) 180) (Hv.snoc aB aB) ?_; refine cO fF aB ?_)
         repeat (refine aJ ?_)
         (refine aA rfl (hClP _ _ aB) rfl rfl ?_; rintro _ _ _ ⟨rfl, qp, cp, rfl, rfl⟩; refine ⟨okF, ?_⟩)
         repeat (refine aJ ?_)
         (refine aA rfl (hW 1 (by decide) _ _) rfl rfl ?_; rintro _ _ _ ⟨rfl, e15, rfl, he15, rfl⟩; refine ⟨okF, ?_⟩)
         repeat (refine aJ ?_)
         ((refine aK (cs := recs eR [e15]) ([rv e15]) rfl rfl (by intro v hv; repeat (first | exact absurd hv (List.not_mem_nil) | (rcases List.mem_cons.1 hv with rfl | hv; · rfl))) (by omega) rfl rfl rfl ?_; intro b16; refine ⟨okF, ?_⟩); refine aC .here ?_)
         repeat (refine aJ ?_)
         ((first | (refine aM (ys := [e15]) 0 rfl rfl rfl ?_ (by decide) rfl (by omega) (by omega) rfl rfl ?_; (· exact Src.imm aB (.inl (Ok.mk _ _))); intro q17 c17; refine ⟨OkD.any (by first | exact SubP.drop SubP.refl | exact SubP.drop (SubP.drop SubP.refl)) aD, ?_⟩) | (refine aM (ys := [e15]) 1 rfl rfl rfl ?_ (by decide) rfl (by omega) (by omega) rfl rfl ?_; (· exact Src.imm aB (.inl (Ok.mk _ _))); intro q17 c17; refine ⟨OkD.any (by first | exact SubP.drop SubP.refl | exact SubP.drop (SubP.drop SubP.refl)) aD, ?_⟩)); refine cK (φ := bT (m.p.es ++ [e15]) 180) (Hv.snoc aB aB) ?_; refine cO fF aB ?_)
         repeat (refine aJ ?_)
         (refine aF rfl (fun _ => bC (vals := [mv ⟨q5, c5, m.a.rows ++ [y]⟩, lv ⟨q11, c11, m.l.es ++ [e9]⟩, lv ⟨q17, c17, m.p.es ++ [e15]⟩]) (cells := [mv ⟨q5, c5, m.a.rows ++ [y]⟩, lv ⟨q11, c11, m.l.es ++ [e9]⟩, lv ⟨q17, c17, m.p.es ++ [e15]⟩]) rfl ?hpl rfl ?hz) rfl rfl ?_; (case hpl => repeat (first | exact True.intro | refine ⟨rfl, ?_⟩)); (case hz => rfl))
         repeat (refine aJ ?_)
         (refine dV (φ := iC ⟨⟨q5, c5, m.a.rows ++ [y]⟩, ⟨q11, c11, m.l.es ++ [e9]⟩, ⟨q17, c17, m.p.es ++ [e15]⟩⟩ 180) (Hv.le3 aB aB aB) ?_; refine dB .here ?_; refine bY _ _ _ aP aG aD ⟨⟨⟨q5, c5, m.a.rows ++ [y]⟩, ⟨q11, c11, m.l.es ++ [e9]⟩, ⟨q17, c17, m.p.es ++ [e15]⟩⟩, b19, hfit q5 c5 q11 c11 q17 c17 e9 e15 he15, hmq q5 c5, rfl, rfl, rfl⟩)
       ·(refine aO rfl rfl ?_; intro b19; refine ⟨okF, ?_⟩)
        refine aT ?_
        refine aV [10, 11, 14, 15, 16, 17, 18, 20] [0, 0, 0, 0, 0, 0, 0, 0] aG aD (by kernel_rfl) (by kernel_rfl) rfl rfl ?_
        repeat (refine aJ ?_)
        ((refine aK (cs := recs eR [e9]) ([rv e9]) rfl rfl (by intro v hv; repeat (first | exact absurd hv (List.not_mem_nil) | (rcases List.mem_cons.1 hv with rfl | hv; · rfl))) (by omega) rfl rfl rfl ?_; intro b10; refine ⟨okF, ?_⟩); refine aC .here ?_)
        repeat (refine aJ ?_)
        ((first | (refine aM (ys := [e9]) 0 rfl rfl rfl ?_ (by decide) rfl (by omega) (by omega) rfl rfl ?_; (· exact Src.imm aB (.inl (Ok.mk _ _))); intro q11 c11; refine ⟨OkD.any (by first | exact SubP.drop SubP.refl | exact SubP.drop (SubP.drop SubP.refl)) aD, ?_⟩) | (refine aM (ys := [e9]) 1 rfl rfl rfl ?_ (by decide) rfl (by omega) (by omega) rfl rfl ?_; (· exact Src.imm aB (.inl (Ok.mk _ _))); intro q11 c11; refine ⟨OkD.any (by first | exact SubP.drop SubP.refl | exact SubP.drop (SubP.drop SubP.refl)) aD, ?_⟩)); refine cK (φ := bT (m.l.es ++ [e9]) 180) (Hv.snoc aB aB) ?_; refine cO fF aB ?_)
        repeat (refine aJ ?_)
        (refine aA rfl (hClP _ _ aB) rfl rfl ?_; rintro _ _ _ ⟨rfl, qp, cp, rfl, rfl⟩; refine ⟨okF, ?_⟩)
        repeat (refine aJ ?_)
        (refine aA rfl (hW 1 (by decide) _ _) rfl rfl ?_; rintro _ _ _ ⟨rfl, e15, rfl, he15, rfl⟩; refine ⟨okF, ?_⟩)
        repeat (refine aJ ?_)
        ((refine aK (cs := recs eR [e15]) ([rv e15]) rfl rfl (by intro v hv; repeat (first | exact absurd hv (List.not_mem_nil) | (rcases List.mem_cons.1 hv with rfl | hv; · rfl))) (by omega) rfl rfl rfl ?_; intro b16; refine ⟨okF, ?_⟩); refine aC .here ?_)
        repeat (refine aJ ?_)
        ((first | (refine aM (ys := [e15]) 0 rfl rfl rfl ?_ (by decide) rfl (by omega) (by omega) rfl rfl ?_; (· exact Src.imm aB (.inl (Ok.mk _ _))); intro q17 c17; refine ⟨OkD.any (by first | exact SubP.drop SubP.refl | exact SubP.drop (SubP.drop SubP.refl)) aD, ?_⟩) | (refine aM (ys := [e15]) 1 rfl rfl rfl ?_ (by decide) rfl (by omega) (by omega) rfl rfl ?_; (· exact Src.imm aB (.inl (Ok.mk _ _))); intro q17 c17; refine ⟨OkD.any (by first | exact SubP.drop SubP.refl | exact SubP.drop (SubP.drop SubP.refl)) aD, ?_⟩)); refine cK (φ := bT (m.p.es ++ [e15]) 180) (Hv.snoc aB aB) ?_; refine cO fF aB ?_)
        repeat (refine aJ ?_)
        (refine aF rfl (fun _ => bC (vals := [mv ⟨q5, c5, m.a.rows ++ [y]⟩, lv ⟨q11, c11, m.l.es ++ [e9]⟩, lv ⟨q17, c17, m.p.es ++ [e15]⟩]) (cells := [mv ⟨q5, c5, m.a.rows ++ [y]⟩, lv ⟨q11, c11, m.l.es ++ [e9]⟩, lv ⟨q17, c17, m.p.es ++ [e15]⟩]) rfl ?hpl rfl ?hz) rfl rfl ?_; (case hpl => repeat (first | exact True.intro | refine ⟨rfl, ?_⟩)); (case hz => rfl))
        repeat (refine aJ ?_)
        (refine dV (φ := iC ⟨⟨q5, c5, m.a.rows ++ [y]⟩, ⟨q11, c11, m.l.es ++ [e9]⟩, ⟨q17, c17, m.p.es ++ [e15]⟩⟩ 180) (Hv.le3 aB aB aB) ?_; refine dB .here ?_; refine bY _ _ _ aP aG aD ⟨⟨⟨q5, c5, m.a.rows ++ [y]⟩, ⟨q11, c11, m.l.es ++ [e9]⟩, ⟨q17, c17, m.p.es ++ [e15]⟩⟩, b19, hfit q5 c5 q11 c11 q17 c17 e9 e15 he15, hmq q5 c5, rfl, rfl, rfl⟩)
      ·(refine aO rfl rfl ?_; intro b19; refine ⟨okF, ?_⟩)
       refine aT ?_
       refine aV [9, 10, 11, 14, 15, 16, 17, 18, 20] [0, 0, 0, 0, 0, 0, 0, 0, 0] aG aD (by kernel_rfl) (by kernel_rfl) rfl rfl ?_
       repeat (refine aJ ?_)
       (refine aA rfl (hW 0 (by decide) _ _) rfl rfl ?_; rintro _ _ _ ⟨rfl, e9, rfl, he9, rfl⟩; refine ⟨okF, ?_⟩)
       repeat (refine aJ ?_)
       ((refine aK (cs := recs eR [e9]) ([rv e9]) rfl rfl (by intro v hv; repeat (first | exact absurd hv (List.not_mem_nil) | (rcases List.mem_cons.1 hv with rfl | hv; · rfl))) (by omega) rfl rfl rfl ?_; intro b10; refine ⟨okF, ?_⟩); refine aC .here ?_)
       repeat (refine aJ ?_)
       ((first | (refine aM (ys := [e9]) 0 rfl rfl rfl ?_ (by decide) rfl (by omega) (by omega) rfl rfl ?_; (· exact Src.imm aB (.inl (Ok.mk _ _))); intro q11 c11; refine ⟨OkD.any (by first | exact SubP.drop SubP.refl | exact SubP.drop (SubP.drop SubP.refl)) aD, ?_⟩) | (refine aM (ys := [e9]) 1 rfl rfl rfl ?_ (by decide) rfl (by omega) (by omega) rfl rfl ?_; (· exact Src.imm aB (.inl (Ok.mk _ _))); intro q11 c11; refine ⟨OkD.any (by first | exact SubP.drop SubP.refl | exact SubP.drop (SubP.drop SubP.refl)) aD, ?_⟩)); refine cK (φ := bT (m.l.es ++ [e9]) 180) (Hv.snoc aB aB) ?_; refine cO fF aB ?_)
       repeat (refine aJ ?_)
       (refine aA rfl (hClP _ _ aB) rfl rfl ?_; rintro _ _ _ ⟨rfl, qp, cp, rfl, rfl⟩; refine ⟨okF, ?_⟩)
       repeat (refine aJ ?_)
       (refine aA rfl (hW 1 (by decide) _ _) rfl rfl ?_; rintro _ _ _ ⟨rfl, e15, rfl, he15, rfl⟩; refine ⟨okF, ?_⟩)
       repeat (refine aJ ?_)
       ((refine aK (cs := recs eR [e15]) ([rv e15]) rfl rfl (by intro v hv; repeat (first | exact absurd hv (List.not_mem_nil) | (rcases List.mem_cons.1 hv with rfl | hv; · rfl))) (by omega) rfl rfl rfl ?_; intro b16; refine ⟨okF, ?_⟩); refine aC .here ?_)
       repeat (refine aJ ?_)
       ((first | (refine aM (ys := [e15]) 0 rfl rfl rfl ?_ (by decide) rfl (by omega) (by omega) rfl rfl ?_; (· exact Src.imm aB (.inl (Ok.mk _ _))); intro q17 c17; refine ⟨OkD.any (by first | exact SubP.drop SubP.refl | exact SubP.drop (SubP.drop SubP.refl)) aD, ?_⟩) | (refine aM (ys := [e15]) 1 rfl rfl rfl ?_ (by decide) rfl (by omega) (by omega) rfl rfl ?_; (· exact Src.imm aB (.inl (Ok.mk _ _))); intro q17 c17; refine ⟨OkD.any (by first | exact SubP.drop SubP.refl | exact SubP.drop (SubP.drop SubP.refl)) aD, ?_⟩)); refine cK (φ := bT (m.p.es ++ [e15]) 180) (Hv.snoc aB aB) ?_; refine cO fF aB ?_)
       repeat (refine aJ ?_)
       (refine aF rfl (fun _ => bC (vals := [mv ⟨q5, c5, m.a.rows ++ [y]⟩, lv ⟨q11, c11, m.l.es ++ [e9]⟩, lv ⟨q17, c17, m.p.es ++ [e15]⟩]) (cells := [mv ⟨q5, c5, m.a.rows ++ [y]⟩, lv ⟨q11, c11, m.l.es ++ [e9]⟩, lv ⟨q17, c17, m.p.es ++ [e15]⟩]) rfl ?hpl rfl ?hz) rfl rfl ?_; (case hpl => repeat (first | exact True.intro | refine ⟨rfl, ?_⟩)); (case hz => rfl))
       repeat (refine aJ ?_)
       (refine dV (φ := iC ⟨⟨q5, c5, m.a.rows ++ [y]⟩, ⟨q11, c11, m.l.es ++ [e9]⟩, ⟨q17, c17, m.p.es ++ [e15]⟩⟩ 180) (Hv.le3 aB aB aB) ?_; refine dB .here ?_; refine bY _ _ _ aP aG aD ⟨⟨⟨q5, c5, m.a.rows ++ [y]⟩, ⟨q11, c11, m.l.es ++ [e9]⟩, ⟨q17, c17, m.p.es ++ [e15]⟩⟩, b19, hfit q5 c5 q11 c11 q17 c17 e9 e15 he15, hmq q5 c5, rfl, rfl, rfl⟩)
     ·(refine aO rfl rfl ?_; intro b19; refine ⟨okF, ?_⟩)
      refine aT ?_
      refine aV [8, 9, 10, 11, 14, 15, 16, 17, 18, 20] [0, 0, 0, 0, 0, 0, 0, 0, 0, 0] aG aD (by kernel_rfl) (by kernel_rfl) rfl rfl ?_
      repeat (refine aJ ?_)
      (refine aA rfl (hClL _ _ aB) rfl rfl ?_; rintro _ _ _ ⟨rfl, ql, cl, rfl, rfl⟩; refine ⟨okF, ?_⟩)
      repeat (refine aJ ?_)
      (refine aA rfl (hW 0 (by decide) _ _) rfl rfl ?_; rintro _ _ _ ⟨rfl, e9, rfl, he9, rfl⟩; refine ⟨okF, ?_⟩)
      repeat (refine aJ ?_)
      ((refine aK (cs := recs eR [e9]) ([rv e9]) rfl rfl (by intro v hv; repeat (first | exact absurd hv (List.not_mem_nil) | (rcases List.mem_cons.1 hv with rfl | hv; · rfl))) (by omega) rfl rfl rfl ?_; intro b10; refine ⟨okF, ?_⟩); refine aC .here ?_)
      repeat (refine aJ ?_)
      ((first | (refine aM (ys := [e9]) 0 rfl rfl rfl ?_ (by decide) rfl (by omega) (by omega) rfl rfl ?_; (· exact Src.imm aB (.inl (Ok.mk _ _))); intro q11 c11; refine ⟨OkD.any (by first | exact SubP.drop SubP.refl | exact SubP.drop (SubP.drop SubP.refl)) aD, ?_⟩) | (refine aM (ys := [e9]) 1 rfl rfl rfl ?_ (by decide) rfl (by omega) (by omega) rfl rfl ?_; (· exact Src.imm aB (.inl (Ok.mk _ _))); intro q11 c11; refine ⟨OkD.any (by first | exact SubP.drop SubP.refl | exact SubP.drop (SubP.drop SubP.refl)) aD, ?_⟩)); refine cK (φ := bT (m.l.es ++ [e9]) 180) (Hv.snoc aB aB) ?_; refine cO fF aB ?_)
      repeat (refine aJ ?_)
      (refine aA rfl (hClP _ _ aB) rfl rfl ?_; rintro _ _ _ ⟨rfl, qp, cp, rfl, rfl⟩; refine ⟨okF, ?_⟩)
      repeat (refine aJ ?_)
      (refine aA rfl (hW 1 (by decide) _ _) rfl rfl ?_; rintro _ _ _ ⟨rfl, e15, rfl, he15, rfl⟩; refine ⟨okF, ?_⟩)
      repeat (refine aJ ?_)
      ((refine aK (cs := recs eR [e15]) ([rv e15]) rfl rfl (by intro v hv; repeat (first | exact absurd hv (List.not_mem_nil) | (rcases List.mem_cons.1 hv with rfl | hv; · rfl))) (by omega) rfl rfl rfl ?_; intro b16; refine ⟨okF, ?_⟩); refine aC .here ?_)
      repeat (refine aJ ?_)
      ((first | (refine aM (ys := [e15]) 0 rfl rfl rfl ?_ (by decide) rfl (by omega) (by omega) rfl rfl ?_; (· exact Src.imm aB (.inl (Ok.mk _ _))); intro q17 c17; refine ⟨OkD.any (by first | exact SubP.drop SubP.refl | exact SubP.drop (SubP.drop SubP.refl)) aD, ?_⟩) | (refine aM (ys := [e15]) 1 rfl rfl rfl ?_ (by decide) rfl (by omega) (by omega) rfl rfl ?_; (· exact Src.imm aB (.inl (Ok.mk _ _))); intro q17 c17; refine ⟨OkD.any (by first | exact SubP.drop SubP.refl | exact SubP.drop (SubP.drop SubP.refl)) aD, ?_⟩)); refine cK (φ := bT (m.p.es ++ [e15]) 180) (Hv.snoc aB aB) ?_; refine cO fF aB ?_)
      repeat (refine aJ ?_)
      (refine aF rfl (fun _ => bC (vals := [mv ⟨q5, c5, m.a.rows ++ [y]⟩, lv ⟨q11, c11, m.l.es ++ [e9]⟩, lv ⟨q17, c17, m.p.es ++ [e15]⟩]) (cells := [mv ⟨q5, c5, m.a.rows ++ [y]⟩, lv ⟨q11, c11, m.l.es ++ [e9]⟩, lv ⟨q17, c17, m.p.es ++ [e15]⟩]) rfl ?hpl rfl ?hz) rfl rfl ?_; (case hpl => repeat (first | exact True.intro | refine ⟨rfl, ?_⟩)); (case hz => rfl))
      repeat (refine aJ ?_)
      (refine dV (φ := iC ⟨⟨q5, c5, m.a.rows ++ [y]⟩, ⟨q11, c11, m.l.es ++ [e9]⟩, ⟨q17, c17, m.p.es ++ [e15]⟩⟩ 180) (Hv.le3 aB aB aB) ?_; refine dB .here ?_; refine bY _ _ _ aP aG aD ⟨⟨⟨q5, c5, m.a.rows ++ [y]⟩, ⟨q11, c11, m.l.es ++ [e9]⟩, ⟨q17, c17, m.p.es ++ [e15]⟩⟩, b19, hfit q5 c5 q11 c11 q17 c17 e9 e15 he15, hmq q5 c5, rfl, rfl, rfl⟩)
    ·(refine aO rfl rfl ?_; intro b19; refine ⟨okF, ?_⟩)
     refine aT ?_
     refine aV [5, 8, 9, 10, 11, 14, 15, 16, 17, 18, 20] [0, 0, 0, 0, 0, 0, 0, 0, 0, 0, 0] aG aD (by kernel_rfl) (by kernel_rfl) rfl rfl ?_
     repeat (refine aJ ?_)
     ((first | (refine aM (ys := [y]) 0 rfl rfl rfl ?_ (by decide) rfl (by omega) (by omega) rfl rfl ?_; (· exact Src.imm aB (.inl (Ok.mk _ _))); intro q5 c5; refine ⟨OkD.any (by first | exact SubP.drop SubP.refl | exact SubP.drop (SubP.drop SubP.refl)) aD, ?_⟩) | (refine aM (ys := [y]) 1 rfl rfl rfl ?_ (by decide) rfl (by omega) (by omega) rfl rfl ?_; (· exact Src.imm aB (.inl (Ok.mk _ _))); intro q5 c5; refine ⟨OkD.any (by first | exact SubP.drop SubP.refl | exact SubP.drop (SubP.drop SubP.refl)) aD, ?_⟩)); refine cK (φ := mD (m.a.rows ++ [y]) 180) (Hv.snocL aB aB) ?_; refine oZ fF aB ?_)
     repeat (refine aJ ?_)
     (refine aA rfl (hClL _ _ aB) rfl rfl ?_; rintro _ _ _ ⟨rfl, ql, cl, rfl, rfl⟩; refine ⟨okF, ?_⟩)
     repeat (refine aJ ?_)
     (refine aA rfl (hW 0 (by decide) _ _) rfl rfl ?_; rintro _ _ _ ⟨rfl, e9, rfl, he9, rfl⟩; refine ⟨okF, ?_⟩)
     repeat (refine aJ ?_)
     ((refine aK (cs := recs eR [e9]) ([rv e9]) rfl rfl (by intro v hv; repeat (first | exact absurd hv (List.not_mem_nil) | (rcases List.mem_cons.1 hv with rfl | hv; · rfl))) (by omega) rfl rfl rfl ?_; intro b10; refine ⟨okF, ?_⟩); refine aC .here ?_)
     repeat (refine aJ ?_)
     ((first | (refine aM (ys := [e9]) 0 rfl rfl rfl ?_ (by decide) rfl (by omega) (by omega) rfl rfl ?_; (· exact Src.imm aB (.inl (Ok.mk _ _))); intro q11 c11; refine ⟨OkD.any (by first | exact SubP.drop SubP.refl | exact SubP.drop (SubP.drop SubP.refl)) aD, ?_⟩) | (refine aM (ys := [e9]) 1 rfl rfl rfl ?_ (by decide) rfl (by omega) (by omega) rfl rfl ?_; (· exact Src.imm aB (.inl (Ok.mk _ _))); intro q11 c11; refine ⟨OkD.any (by first | exact SubP.drop SubP.refl | exact SubP.drop (SubP.drop SubP.refl)) aD, ?_⟩)); refine cK (φ := bT (m.l.es ++ [e9]) 180) (Hv.snoc aB aB) ?_; refine cO fF aB ?_)
     repeat (refine aJ ?_)
     (refine aA rfl (hClP _ _ aB) rfl rfl ?_; rintro _ _ _ ⟨rfl, qp, cp, rfl, rfl⟩; refine ⟨okF, ?_⟩)
     repeat (refine aJ ?_)
     (refine aA rfl (hW 1 (by decide) _ _) rfl rfl ?_; rintro _ _ _ ⟨rfl, e15, rfl, he15, rfl⟩; refine ⟨okF, ?_⟩)
     repeat (refine aJ ?_)
     ((refine aK (cs := recs eR [e15]) ([rv e15]) rfl rfl (by intro v hv; repeat (first | exact absurd hv (List.not_mem_nil) | (rcases List.mem_cons.1 hv with rfl | hv; · rfl))) (by omega) rfl rfl rfl ?_; intro b16; refine ⟨okF, ?_⟩); refine aC .here ?_)
     repeat (refine aJ ?_)
     ((first | (refine aM (ys := [e15]) 0 rfl rfl rfl ?_ (by decide) rfl (by omega) (by omega) rfl rfl ?_; (· exact Src.imm aB (.inl (Ok.mk _ _))); intro q17 c17; refine ⟨OkD.any (by first | exact SubP.drop SubP.refl | exact SubP.drop (SubP.drop SubP.refl)) aD, ?_⟩) | (refine aM (ys := [e15]) 1 rfl rfl rfl ?_ (by decide) rfl (by omega) (by omega) rfl rfl ?_; (· exact Src.imm aB (.inl (Ok.mk _ _))); intro q17 c17; refine ⟨OkD.any (by first | exact SubP.drop SubP.refl | exact SubP.drop (SubP.drop SubP.refl)) aD, ?_⟩)); refine cK (φ := bT (m.p.es ++ [e15]) 180) (Hv.snoc aB aB) ?_; refine cO fF aB ?_)
     repeat (refine aJ ?_)
     (refine aF rfl (fun _ => bC (vals := [mv ⟨q5, c5, m.a.rows ++ [y]⟩, lv ⟨q11, c11, m.l.es ++ [e9]⟩, lv ⟨q17, c17, m.p.es ++ [e15]⟩]) (cells := [mv ⟨q5, c5, m.a.rows ++ [y]⟩, lv ⟨q11, c11, m.l.es ++ [e9]⟩, lv ⟨q17, c17, m.p.es ++ [e15]⟩]) rfl ?hpl rfl ?hz) rfl rfl ?_; (case hpl => repeat (first | exact True.intro | refine ⟨rfl, ?_⟩)); (case hz => rfl))
     repeat (refine aJ ?_)
     (refine dV (φ := iC ⟨⟨q5, c5, m.a.rows ++ [y]⟩, ⟨q11, c11, m.l.es ++ [e9]⟩, ⟨q17, c17, m.p.es ++ [e15]⟩⟩ 180) (Hv.le3 aB aB aB) ?_; refine dB .here ?_; refine bY _ _ _ aP aG aD ⟨⟨⟨q5, c5, m.a.rows ++ [y]⟩, ⟨q11, c11, m.l.es ++ [e9]⟩, ⟨q17, c17, m.p.es ++ [e15]⟩⟩, b19, hfit q5 c5 q11 c11 q17 c17 e9 e15 he15, hmq q5 c5, rfl, rfl, rfl⟩)
   ·(refine aO rfl rfl ?_; intro b19; refine ⟨okF, ?_⟩)
    refine aT ?_
    refine aV [4, 5, 8, 9, 10, 11, 14, 15, 16, 17, 18, 20] [0, 0, 0, 0, 0, 0, 0, 0, 0, 0, 0, 0] aG aD (by kernel_rfl) (by kernel_rfl) rfl rfl ?_
    repeat (refine aJ ?_)
    ((refine aK (cs := recs eL [y]) ([lv y]) rfl rfl (by intro v hv; repeat (first | exact absurd hv (List.not_mem_nil) | (rcases List.mem_cons.1 hv with rfl | hv; · rfl))) (by omega) rfl rfl rfl ?_; intro b4; refine ⟨okF, ?_⟩); refine aC .here ?_)
    repeat (refine aJ ?_)
    ((first | (refine aM (ys := [y]) 0 rfl rfl rfl ?_ (by decide) rfl (by omega) (by omega) rfl rfl ?_; (· exact Src.imm aB (.inl (Ok.mk _ _))); intro q5 c5; refine ⟨OkD.any (by first | exact SubP.drop SubP.refl | exact SubP.drop (SubP.drop SubP.refl)) aD, ?_⟩) | (refine aM (ys := [y]) 1 rfl rfl rfl ?_ (by decide) rfl (by omega) (by omega) rfl rfl ?_; (· exact Src.imm aB (.inl (Ok.mk _ _))); intro q5 c5; refine ⟨OkD.any (by first | exact SubP.drop SubP.refl | exact SubP.drop (SubP.drop SubP.refl)) aD, ?_⟩)); refine cK (φ := mD (m.a.rows ++ [y]) 180) (Hv.snocL aB aB) ?_; refine oZ fF aB ?_)
    repeat (refine aJ ?_)
    (refine aA rfl (hClL _ _ aB) rfl rfl ?_; rintro _ _ _ ⟨rfl, ql, cl, rfl, rfl⟩; refine ⟨okF, ?_⟩)
    repeat (refine aJ ?_)
    (refine aA rfl (hW 0 (by decide) _ _) rfl rfl ?_; rintro _ _ _ ⟨rfl, e9, rfl, he9, rfl⟩; refine ⟨okF, ?_⟩)
    repeat (refine aJ ?_)
    ((refine aK (cs := recs eR [e9]) ([rv e9]) rfl rfl (by intro v hv; repeat (first | exact absurd hv (List.not_mem_nil) | (rcases List.mem_cons.1 hv with rfl | hv; · rfl))) (by omega) rfl rfl rfl ?_; intro b10; refine ⟨okF, ?_⟩); refine aC .here ?_)
    repeat (refine aJ ?_)
    ((first | (refine aM (ys := [e9]) 0 rfl rfl rfl ?_ (by decide) rfl (by omega) (by omega) rfl rfl ?_; (· exact Src.imm aB (.inl (Ok.mk _ _))); intro q11 c11; refine ⟨OkD.any (by first | exact SubP.drop SubP.refl | exact SubP.drop (SubP.drop SubP.refl)) aD, ?_⟩) | (refine aM (ys := [e9]) 1 rfl rfl rfl ?_ (by decide) rfl (by omega) (by omega) rfl rfl ?_; (· exact Src.imm aB (.inl (Ok.mk _ _))); intro q11 c11; refine ⟨OkD.any (by first | exact SubP.drop SubP.refl | exact SubP.drop (SubP.drop SubP.refl)) aD, ?_⟩)); refine cK (φ := bT (m.l.es ++ [e9]) 180) (Hv.snoc aB aB) ?_; refine cO fF aB ?_)
    repeat (refine aJ ?_)
    (refine aA rfl (hClP _ _ aB) rfl rfl ?_; rintro _ _ _ ⟨rfl, qp, cp, rfl, rfl⟩; refine ⟨okF, ?_⟩)
    repeat (refine aJ ?_)
    (refine aA rfl (hW 1 (by decide) _ _) rfl rfl ?_; rintro _ _ _ ⟨rfl, e15, rfl, he15, rfl⟩; refine ⟨okF, ?_⟩)
    repeat (refine aJ ?_)
    ((refine aK (cs := recs eR [e15]) ([rv e15]) rfl rfl (by intro v hv; repeat (first | exact absurd hv (List.not_mem_nil) | (rcases List.mem_cons.1 hv with rfl | hv; · rfl))) (by omega) rfl rfl rfl ?_; intro b16; refine ⟨okF, ?_⟩); refine aC .here ?_)
    repeat (refine aJ ?_)
    ((first | (refine aM (ys := [e15]) 0 rfl rfl rfl ?_ (by decide) rfl (by omega) (by omega) rfl rfl ?_; (· exact Src.imm aB (.inl (Ok.mk _ _))); intro q17 c17; refine ⟨OkD.any (by first | exact SubP.drop SubP.refl | exact SubP.drop (SubP.drop SubP.refl)) aD, ?_⟩) | (refine aM (ys := [e15]) 1 rfl rfl rfl ?_ (by decide) rfl (by omega) (by omega) rfl rfl ?_; (· exact Src.imm aB (.inl (Ok.mk _ _))); intro q17 c17; refine ⟨OkD.any (by first | exact SubP.drop SubP.refl | exact SubP.drop (SubP.drop SubP.refl)) aD, ?_⟩)); refine cK (φ := bT (m.p.es ++ [e15]) 180) (Hv.snoc aB aB) ?_; refine cO fF aB ?_)
    repeat (refine aJ ?_)
    (refine aF rfl (fun _ => bC (vals := [mv ⟨q5, c5, m.a.rows ++ [y]⟩, lv ⟨q11, c11, m.l.es ++ [e9]⟩, lv ⟨q17, c17, m.p.es ++ [e15]⟩]) (cells := [mv ⟨q5, c5, m.a.rows ++ [y]⟩, lv ⟨q11, c11, m.l.es ++ [e9]⟩, lv ⟨q17, c17, m.p.es ++ [e15]⟩]) rfl ?hpl rfl ?hz) rfl rfl ?_; (case hpl => repeat (first | exact True.intro | refine ⟨rfl, ?_⟩)); (case hz => rfl))
    repeat (refine aJ ?_)
    (refine dV (φ := iC ⟨⟨q5, c5, m.a.rows ++ [y]⟩, ⟨q11, c11, m.l.es ++ [e9]⟩, ⟨q17, c17, m.p.es ++ [e15]⟩⟩ 180) (Hv.le3 aB aB aB) ?_; refine dB .here ?_; refine bY _ _ _ aP aG aD ⟨⟨⟨q5, c5, m.a.rows ++ [y]⟩, ⟨q11, c11, m.l.es ++ [e9]⟩, ⟨q17, c17, m.p.es ++ [e15]⟩⟩, b19, hfit q5 c5 q11 c11 q17 c17 e9 e15 he15, hmq q5 c5, rfl, rfl, rfl⟩)
  ·((refine aK (cs := recs eL [y]) ([lv y]) rfl rfl (by intro v hv; repeat (first | exact absurd hv (List.not_mem_nil) | (rcases List.mem_cons.1 hv with rfl | hv; · rfl))) (by omega) rfl rfl rfl ?_; intro b4; refine ⟨okF, ?_⟩); refine aC .here ?_)
   refine aT ?_
   repeat (refine aJ ?_)
   refine bB (fuel := 12) (i := 2) (j := 19) (by kernel_rfl) ?_ ?_
   ·(refine aA rfl (hClA _ _ aB) rfl rfl ?_; rintro _ _ _ ⟨rfl, qa, ca, rfl, rfl⟩; refine ⟨okF, ?_⟩)
    refine aT ?_
    repeat (refine aJ ?_)
    refine bB (fuel := 11) (i := 5) (j := 19) (by kernel_rfl) ?_ ?_
    ·((first | (refine aM (ys := [y]) 0 rfl rfl rfl ?_ (by decide) rfl (by omega) (by omega) rfl rfl ?_; (· exact Src.imm aB (.inl (Ok.mk _ _))); intro q5 c5; refine ⟨OkD.any (by first | exact SubP.drop SubP.refl | exact SubP.drop (SubP.drop SubP.refl)) aD, ?_⟩) | (refine aM (ys := [y]) 1 rfl rfl rfl ?_ (by decide) rfl (by omega) (by omega) rfl rfl ?_; (· exact Src.imm aB (.inl (Ok.mk _ _))); intro q5 c5; refine ⟨OkD.any (by first | exact SubP.drop SubP.refl | exact SubP.drop (SubP.drop SubP.refl)) aD, ?_⟩)); refine cK (φ := mD (m.a.rows ++ [y]) 180) (Hv.snocL aB aB) ?_; refine oZ fF aB ?_)
     refine aT ?_
     repeat (refine aJ ?_)
     refine bB (fuel := 10) (i := 8) (j := 19) (by kernel_rfl) ?_ ?_
     ·(refine aA rfl (hClL _ _ aB) rfl rfl ?_; rintro _ _ _ ⟨rfl, ql, cl, rfl, rfl⟩; refine ⟨okF, ?_⟩)
      refine aT ?_
      repeat (refine aJ ?_)
      refine bB (fuel := 9) (i := 9) (j := 19) (by kernel_rfl) ?_ ?_
      ·(refine aA rfl (hW 0 (by decide) _ _) rfl rfl ?_; rintro _ _ _ ⟨rfl, e9, rfl, he9, rfl⟩; refine ⟨okF, ?_⟩)
       refine aT ?_
       repeat (refine aJ ?_)
       refine bB (fuel := 8) (i := 10) (j := 19) (by kernel_rfl) ?_ ?_
       ·((refine aK (cs := recs eR [e9]) ([rv e9]) rfl rfl (by intro v hv; repeat (first | exact absurd hv (List.not_mem_nil) | (rcases List.mem_cons.1 hv with rfl | hv; · rfl))) (by omega) rfl rfl rfl ?_; intro b10; refine ⟨okF, ?_⟩); refine aC .here ?_)
        refine aT ?_
        repeat (refine aJ ?_)
        refine bB (fuel := 7) (i := 11) (j := 19) (by kernel_rfl) ?_ ?_
        ·((first | (refine aM (ys := [e9]) 0 rfl rfl rfl ?_ (by decide) rfl (by omega) (by omega) rfl rfl ?_; (· exact Src.imm aB (.inl (Ok.mk _ _))); intro q11 c11; refine ⟨OkD.any (by first | exact SubP.drop SubP.refl | exact SubP.drop (SubP.drop SubP.refl)) aD, ?_⟩) | (refine aM (ys := [e9]) 1 rfl rfl rfl ?_ (by decide) rfl (by omega) (by omega) rfl rfl ?_; (· exact Src.imm aB (.inl (Ok.mk _ _))); intro q11 c11; refine ⟨OkD.any (by first | exact SubP.drop SubP.refl | exact SubP.drop (SubP.drop SubP.refl)) aD, ?_⟩)); refine cK (φ := bT (m.l.es ++ [e9]) 180) (Hv.snoc aB aB) ?_; refine cO fF aB ?_)
         refine aT ?_
         repeat (refine aJ ?_)
         refine bB (fuel := 6) (i := 14) (j := 19) (by kernel_rfl) ?_ ?_
         ·(refine aA rfl (hClP _ _ aB) rfl rfl ?_; rintro _ _ _ ⟨rfl, qp, cp, rfl, rfl⟩; refine ⟨okF, ?_⟩)
          refine aT ?_
          repeat (refine aJ ?_)
          refine bB (fuel := 5) (i := 15) (j := 19) (by kernel_rfl) ?_ ?_
          ·(refine aA rfl (hW 1 (by decide) _ _) rfl rfl ?_; rintro _ _ _ ⟨rfl, e15, rfl, he15, rfl⟩; refine ⟨okF, ?_⟩)
           refine aT ?_
           repeat (refine aJ ?_)
           refine bB (fuel := 4) (i := 16) (j := 19) (by kernel_rfl) ?_ ?_
           ·((refine aK (cs := recs eR [e15]) ([rv e15]) rfl rfl (by intro v hv; repeat (first | exact absurd hv (List.not_mem_nil) | (rcases List.mem_cons.1 hv with rfl | hv; · rfl))) (by omega) rfl rfl rfl ?_; intro b16; refine ⟨okF, ?_⟩); refine aC .here ?_)
            refine aT ?_
            repeat (refine aJ ?_)
            refine bB (fuel := 3) (i := 17) (j := 19) (by kernel_rfl) ?_ ?_
            ·((first | (refine aM (ys := [e15]) 0 rfl rfl rfl ?_ (by decide) rfl (by omega) (by omega) rfl rfl ?_; (· exact Src.imm aB (.inl (Ok.mk _ _))); intro q17 c17; refine ⟨OkD.any (by first | exact SubP.drop SubP.refl | exact SubP.drop (SubP.drop SubP.refl)) aD, ?_⟩) | (refine aM (ys := [e15]) 1 rfl rfl rfl ?_ (by decide) rfl (by omega) (by omega) rfl rfl ?_; (· exact Src.imm aB (.inl (Ok.mk _ _))); intro q17 c17; refine ⟨OkD.any (by first | exact SubP.drop SubP.refl | exact SubP.drop (SubP.drop SubP.refl)) aD, ?_⟩)); refine cK (φ := bT (m.p.es ++ [e15]) 180) (Hv.snoc aB aB) ?_; refine cO fF aB ?_)
             refine aT ?_
             refine aV [18, 19, 20] [1, 0, 0] aG aD (by kernel_rfl) (by kernel_rfl) rfl rfl ?_
             repeat (refine aJ ?_)
             (refine aF rfl (fun _ => bC (vals := [mv ⟨q5, c5, m.a.rows ++ [y]⟩, lv ⟨q11, c11, m.l.es ++ [e9]⟩, lv ⟨q17, c17, m.p.es ++ [e15]⟩]) (cells := [mv ⟨q5, c5, m.a.rows ++ [y]⟩, lv ⟨q11, c11, m.l.es ++ [e9]⟩, lv ⟨q17, c17, m.p.es ++ [e15]⟩]) rfl ?hpl rfl ?hz) rfl rfl ?_; (case hpl => repeat (first | exact True.intro | refine ⟨rfl, ?_⟩)); (case hz => rfl))
             repeat (refine aJ ?_)
             (refine aO rfl rfl ?_; intro b19; refine ⟨okF, ?_⟩)
             repeat (refine aJ ?_)
             (refine dV (φ := iC ⟨⟨q5, c5, m.a.rows ++ [y]⟩, ⟨q11, c11, m.l.es ++ [e9]⟩, ⟨q17, c17, m.p.es ++ [e15]⟩⟩ 180) (Hv.le3 aB aB aB) ?_; refine dB .here ?_; refine bY _ _ _ aP aG aD ⟨⟨⟨q5, c5, m.a.rows ++ [y]⟩, ⟨q11, c11, m.l.es ++ [e9]⟩, ⟨q17, c17, m.p.es ++ [e15]⟩⟩, b19, hfit q5 c5 q11 c11 q17 c17 e9 e15 he15, hmq q5 c5, rfl, rfl, rfl⟩)
            ·(refine aO rfl rfl ?_; intro b19; refine ⟨okF, ?_⟩)
             refine aT ?_
             refine aV [17, 18, 20] [0, 0, 0] aG aD (by kernel_rfl) (by kernel_rfl) rfl rfl ?_
             repeat (refine aJ ?_)
             ((first | (refine aM (ys := [e15]) 0 rfl rfl rfl ?_ (by decide) rfl (by omega) (by omega) rfl rfl ?_; (· exact Src.imm aB (.inl (Ok.mk _ _))); intro q17 c17; refine ⟨OkD.any (by first | exact SubP.drop SubP.refl | exact SubP.drop (SubP.drop SubP.refl)) aD, ?_⟩) | (refine aM (ys := [e15]) 1 rfl rfl rfl ?_ (by decide) rfl (by omega) (by omega) rfl rfl ?_; (· exact Src.imm aB (.inl (Ok.mk _ _))); intro q17 c17; refine ⟨OkD.any (by first | exact SubP.drop SubP.refl | exact SubP.drop (SubP.drop SubP.refl)) aD, ?_⟩)); refine cK (φ := bT (m.p.es ++ [e15]) 180) (Hv.snoc aB aB) ?_; refine cO fF aB ?_)
             repeat (refine aJ ?_)
             (refine aF rfl (fun _ => bC (vals := [mv ⟨q5, c5, m.a.rows ++ [y]⟩, lv ⟨q11, c11, m.l.es ++ [e9]⟩, lv ⟨q17, c17, m.p.es ++ [e15]⟩]) (cells := [mv ⟨q5, c5, m.a.rows ++ [y]⟩, lv ⟨q11, c11, m.l.es ++ [e9]⟩, lv ⟨q17, c17, m.p.es ++ [e15]⟩]) rfl ?hpl rfl ?hz) rfl rfl ?_; (case hpl => repeat (first | exact True.intro | refine ⟨rfl, ?_⟩)); (case hz => rfl))
             repeat (refine aJ ?_)
             (refine dV (φ := iC ⟨⟨q5, c5, m.a.rows ++ [y]⟩, ⟨q11, c11, m.l.es ++ [e9]⟩, ⟨q17, c17, m.p.es ++ [e15]⟩⟩ 180) (Hv.le3 aB aB aB) ?_; refine dB .here ?_; refine bY _ _ _ aP aG aD ⟨⟨⟨q5, c5, m.a.rows ++ [y]⟩, ⟨q11, c11, m.l.es ++ [e9]⟩, ⟨q17, c17, m.p.es ++ [e15]⟩⟩, b19, hfit q5 c5 q11 c11 q17 c17 e9 e15 he15, hmq q5 c5, rfl, rfl, rfl⟩)
           ·(refine aO rfl rfl ?_; intro b19; refine ⟨okF, ?_⟩)
            refine aT ?_
            refine aV [16, 17, 18, 20] [0, 0, 0, 0] aG aD (by kernel_rfl) (by kernel_rfl) rfl rfl ?_
            repeat (refine aJ ?_)
            ((refine aK (cs := recs eR [e15]) ([rv e15]) rfl rfl (by intro v hv; repeat (first | exact absurd hv (List.not_mem_nil) | (rcases List.mem_cons.1 hv with rfl | hv; · rfl))) (by omega) rfl rfl rfl ?_; intro b16; refine ⟨okF, ?_⟩); refine aC .here ?_)
            repeat (refine aJ ?_)
            ((first | (refine aM (ys := [e15]) 0 rfl rfl rfl ?_ (by decide) rfl (by omega) (by omega) rfl rfl ?_; (· exact Src.imm aB (.inl (Ok.mk _ _))); intro q17 c17; refine ⟨OkD.any (by first | exact SubP.drop SubP.refl | exact SubP.drop (SubP.drop SubP.refl)) aD, ?_⟩) | (refine aM (ys := [e15]) 1 rfl rfl rfl ?_ (by decide) rfl (by omega) (by omega) rfl rfl ?_; (· exact Src.imm aB (.inl (Ok.mk _ _))); intro q17 c17; refine ⟨OkD.any (by first | exact SubP.drop SubP.refl | exact SubP.drop (SubP.drop SubP.refl)) aD, ?_⟩)); refine cK (φ := bT (m.p.es ++ [e15]) 180) (Hv.snoc aB aB) ?_; refine cO fF aB ?_)
            repeat (refine aJ ?_)
            (refine aF rfl (fun _ => bC (vals := [mv ⟨q5, c5, m.a.rows ++ [y]⟩, lv ⟨q11, c11, m.l.es ++ [e9]⟩, lv ⟨q17, c17, m.p.es ++ [e15]⟩]) (cells := [mv ⟨q5, c5, m.a.rows ++ [y]⟩, lv ⟨q11, c11, m.l.es ++ [e9]⟩, lv ⟨q17, c17, m.p.es ++ [e15]⟩]) rfl ?hpl rfl ?hz) rfl rfl ?_; (case hpl => repeat (first | exact True.intro | refine ⟨rfl, ?_⟩)); (case hz => rfl))
            repeat (refine aJ ?_)
            (refine dV (φ := iC ⟨⟨q5, c5, m.a.rows ++ [y]⟩, ⟨q11, c11, m.l.es ++ [e9]⟩, ⟨q17, c17, m.p.es ++ [e15]⟩⟩ 180) (Hv.le3 aB aB aB) ?_; refine dB .here ?_; refine bY _ _ _ aP aG aD ⟨⟨⟨q5, c5, m.a.rows ++ [y]⟩, ⟨q11, c11, m.l.es ++ [e9]⟩, ⟨q17, c17, m.p.es ++ [e15]⟩⟩, b19, hfit q5 c5 q11 c11 q17 c17 e9 e15 he15, hmq q5 c5, rfl, rfl, rfl⟩)
          ·(refine aO rfl rfl ?_; intro b19; refine ⟨okF, ?_⟩)
           refine aT ?_
           refine aV [15, 16, 17, 18, 20] [0, 0, 0, 0, 0] aG aD (by kernel_rfl) (by kernel_rfl) rfl rfl ?_
           repeat (refine aJ ?_)
           (refine aA rfl (hW 1 (by decide) _ _) rfl rfl ?_; rintro _ _ _ ⟨rfl, e15, rfl, he15, rfl⟩; refine ⟨okF, ?_⟩)
           repeat (refine aJ ?_)
           ((refine aK (cs := recs eR [e15]) ([rv e15]) rfl rfl (by intro v hv; repeat (first | exact absurd hv (List.not_mem_nil) | (rcases List.mem_cons.1 hv with rfl | hv; · rfl))) (by omega) rfl rfl rfl ?_; intro b16; refine ⟨okF, ?_⟩); refine aC .here ?_)
           repeat (refine aJ ?_)
           ((first | (refine aM (ys := [e15]) 0 rfl rfl rfl ?_ (by decide) rfl (by omega) (by omega) rfl rfl ?_; (· exact Src.imm aB (.inl (Ok.mk _ _))); intro q17 c17; refine ⟨OkD.any (by first | exact SubP.drop SubP.refl | exact SubP.drop (SubP.drop SubP.refl)) aD, ?_⟩) | (refine aM (ys := [e15]) 1 rfl rfl rfl ?_ (by decide) rfl (by omega) (by omega) rfl rfl ?_; (· exact Src.imm aB (.inl (Ok.mk _ _))); intro q17 c17; refine ⟨OkD.any (by first | exact SubP.drop SubP.refl | exact SubP.drop (SubP.drop SubP.refl)) aD, ?_⟩)); refine cK (φ := bT (m.p.es ++ [e15]) 180) (Hv.snoc aB aB) ?_; refine cO fF aB ?_)
           repeat (refine aJ ?_)
           (refine aF rfl (fun _ => bC (vals := [mv ⟨q5, c5, m.a.rows ++ [y]⟩, lv ⟨q11, c11, m.l.es ++ [e9]⟩, lv ⟨q17, c17, m.p.es ++ [e15]⟩]) (cells := [mv ⟨q5, c5, m.a.rows ++ [y]⟩, lv ⟨q11, c11, m.l.es ++ [e9]⟩, lv ⟨q17, c17, m.p.es ++ [e15]⟩]) rfl ?hpl rfl ?hz) rfl rfl ?_; (case hpl => repeat (first | exact True.intro | refine ⟨rfl, ?_⟩)); (case hz => rfl))
           repeat (refine aJ ?_)
           (refine dV (φ := iC ⟨⟨q5, c5, m.a.rows ++ [y]⟩, ⟨q11, c11, m.l.es ++ [e9]⟩, ⟨q17, c17, m.p.es ++ [e15]⟩⟩ 180) (Hv.le3 aB aB aB) ?_; refine dB .here ?_; refine bY _ _ _ aP aG aD ⟨⟨⟨q5, c5, m.a.rows ++ [y]⟩, ⟨q11, c11, m.l.es ++ [e9]⟩, ⟨q17, c17, m.p.es ++ [e15]⟩⟩, b19, hfit q5 c5 q11 c11 q17 c17 e9 e15 he15, hmq q5 c5, rfl, rfl, rfl⟩)
         ·(refine aO rfl rfl ?_; intro b19; refine ⟨okF, ?_⟩)
          refine aT ?_
          refine aV [14, 15, 16, 17, 18, 20] [0, 0, 0, 0, 0, 0] aG aD (by kernel_rfl) (by kernel_rfl) rfl rfl ?_
          repeat (refine aJ ?_)
          (refine aA rfl (hClP _ _ aB) rfl rfl ?_; rintro _ _ _ ⟨rfl, qp, cp, rfl, rfl⟩; refine ⟨okF, ?_⟩)
          repeat (refine aJ ?_)
          (refine aA rfl (hW 1 (by decide) _ _) rfl rfl ?_; rintro _ _ _ ⟨rfl, e15, rfl, he15, rfl⟩; refine ⟨okF, ?_⟩)
          repeat (refine aJ ?_)
          ((refine aK (cs := recs eR [e15]) ([rv e15]) rfl rfl (by intro v hv; repeat (first | exact absurd hv (List.not_mem_nil) | (rcases List.mem_cons.1 hv with rfl | hv; · rfl))) (by omega) rfl rfl rfl ?_; intro b16; refine ⟨okF, ?_⟩); refine aC .here ?_)
          repeat (refine aJ ?_)
          ((first | (refine aM (ys := [e15]) 0 rfl rfl rfl ?_ (by decide) rfl (by omega) (by omega) rfl rfl ?_; (· exact Src.imm aB (.inl (Ok.mk _ _))); intro q17 c17; refine ⟨OkD.any (by first | exact SubP.drop SubP.refl | exact SubP.drop (SubP.drop SubP.refl)) aD, ?_⟩) | (refine aM (ys := [e15]) 1 rfl rfl rfl ?_ (by decide) rfl (by omega) (by omega) rfl rfl ?_; (· exact Src.imm aB (.inl (Ok.mk _ _))); intro q17 c17; refine ⟨OkD.any (by first | exact SubP.drop SubP.refl | exact SubP.drop (SubP.drop SubP.refl)) aD, ?_⟩)); refine cK (φ := bT (m.p.es ++ [e15]) 180) (Hv.snoc aB aB) ?_; refine cO fF aB ?_)
          repeat (refine aJ ?_)
          (refine aF rfl (fun _ => bC (vals := [mv ⟨q5, c5, m.a.rows ++ [y]⟩, lv ⟨q11, c11, m.l.es ++ [e9]⟩, lv ⟨q17, c17, m.p.es ++ [e15]⟩]) (cells := [mv ⟨q5, c5, m.a.rows ++ [y]⟩, lv ⟨q11, c11, m.l.es ++ [e9]⟩, lv ⟨q17, c17, m.p.es ++ [e15]⟩]) rfl ?hpl rfl ?hz) rfl rfl ?_; (case hpl => repeat (first | exact True.intro | refine ⟨rfl, ?_⟩)); (case hz => rfl))
          repeat (refine aJ ?_)
          (refine dV (φ := iC ⟨⟨q5, c5, m.a.rows ++ [y]⟩, ⟨q11, c11, m.l.es ++ [e9]⟩, ⟨q17, c17, m.p.es ++ [e15]⟩⟩ 180) (Hv.le3 aB aB aB) ?_; refine dB .here ?_; refine bY _ _ _ aP aG aD ⟨⟨⟨q5, c5, m.a.rows ++ [y]⟩, ⟨q11, c11, m.l.es ++ [e9]⟩, ⟨q17, c17, m.p.es ++ [e15]⟩⟩, b19, hfit q5 c5 q11 c11 q17 c17 e9 e15 he15, hmq q5 c5, rfl, rfl, rfl⟩)
        ·(refine aO rfl rfl ?_; intro b19; refine ⟨okF, ?_⟩)
         refine aT ?_
         refine aV [11, 14, 15, 16, 17, 18, 20] [0, 0, 0, 0, 0, 0, 0] aG aD (by kernel_rfl) (by kernel_rfl) rfl rfl ?_
         repeat (refine aJ ?_)
         ((first | (refine aM (ys := [e9]) 0 rfl rfl rfl ?_ (by decide) rfl (by omega) (by omega) rfl rfl ?_; (· exact Src.imm aB (.inl (Ok.mk _ _))); intro q11 c11; refine ⟨OkD.any (by first | exact SubP.drop SubP.refl | exact SubP.drop (SubP.drop SubP.refl)) aD, ?_⟩) | (refine aM (ys := [e9]) 1 rfl rfl rfl ?_ (by decide) rfl (by omega) (by omega) rfl rfl ?_; (· exact Src.imm aB (.inl (Ok.mk _ _))); intro q11 c11; refine ⟨OkD.any (by first | exact SubP.drop SubP.refl | exact SubP.drop (SubP.drop SubP.refl)) aD, ?_⟩)); refine cK (φ := bT (m.l.es ++ [e9]) 180) (Hv.snoc aB aB) ?_; refine cO fF aB ?_)
         repeat (refine aJ ?_)
         (refine aA rfl (hClP _ _ aB) rfl rfl ?_; rintro _ _ _ ⟨rfl, qp, cp, rfl, rfl⟩; refine ⟨okF, ?_⟩)
         repeat (refine aJ ?_)
         (refine aA rfl (hW 1 (by decide) _ _) rfl rfl ?_; rintro _ _ _ ⟨rfl, e15, rfl, he15, rfl⟩; refine ⟨okF, ?_⟩)
         repeat (refine aJ ?_)
         ((refine aK (cs := recs eR [e15]) ([rv e15]) rfl rfl (by intro v hv; repeat (first | exact absurd hv (List.not_mem_nil) | (rcases List.mem_cons.1 hv with rfl | hv; · rfl))) (by omega) rfl rfl rfl ?_; intro b16; refine ⟨okF, ?_⟩); refine aC .here ?_)
         repeat (refine aJ ?_)
         ((first | (refine aM (ys := [e15]) 0 rfl rfl rfl ?_ (by decide) rfl (by omega) (by omega) rfl rfl ?_; (· exact Src.imm aB (.inl (Ok.mk _ _))); intro q17 c17; refine ⟨OkD.any (by first | exact SubP.drop SubP.refl | exact SubP.drop (SubP.drop SubP.refl)) aD, ?_⟩) | (refine aM (ys := [e15]) 1 rfl rfl rfl ?_ (by decide) rfl (by omega) (by omega) rfl rfl ?_; (· exact Src.imm aB (.inl (Ok.mk _ _))); intro q17 c17; refine ⟨OkD.any (by first | exact SubP.drop SubP.refl | exact SubP.drop (SubP.drop SubP.refl)) aD, ?_⟩)); refine cK (φ := bT (m.p.es ++ [e15]) 180) (Hv.snoc aB aB) ?_; refine cO fF aB ?_)
         repeat (refine aJ ?_)
         (refine aF rfl (fun _ => bC (vals := [mv ⟨q5, c5, m.a.rows ++ [y]⟩, lv ⟨q11, c11, m.l.es ++ [e9]⟩, lv ⟨q17, c17, m.p.es ++ [e15]⟩]) (cells := [mv ⟨q5, c5, m.a.rows ++ [y]⟩, lv ⟨q11, c11, m.l.es ++ [e9]⟩, lv ⟨q17, c17, m.p.es ++ [e15]⟩]) rfl ?hpl rfl ?hz) rfl rfl ?_; (case hpl => repeat (first | exact True.intro | refine ⟨rfl, ?_⟩)); (case hz => rfl))
         repeat (refine aJ ?_)
         (refine dV (φ := iC ⟨⟨q5, c5, m.a.rows ++ [y]⟩, ⟨q11, c11, m.l.es ++ [e9]⟩, ⟨q17, c17, m.p.es ++ [e15]⟩⟩ 180) (Hv.le3 aB aB aB) ?_; refine dB .here ?_; refine bY _ _ _ aP aG aD ⟨⟨⟨q5, c5, m.a.rows ++ [y]⟩, ⟨q11, c11, m.l.es ++ [e9]⟩, ⟨q17, c17, m.p.es ++ [e15]⟩⟩, b19, hfit q5 c5 q11 c11 q17 c17 e9 e15 he15, hmq q5 c5, rfl, rfl, rfl⟩)
       ·(refine aO rfl rfl ?_; intro b19; refine ⟨okF, ?_⟩)
        refine aT ?_
        refine aV [10, 11, 14, 15, 16, 17, 18, 20] [0, 0, 0, 0, 0, 0, 0, 0] aG aD (by kernel_rfl) (by kernel_rfl) rfl rfl ?_
        repeat (refine aJ ?_)
        ((refine aK (cs := recs eR [e9]) ([rv e9]) rfl rfl (by intro v hv; repeat (first | exact absurd hv (List.not_mem_nil) | (rcases List.mem_cons.1 hv with rfl | hv; · rfl))) (by omega) rfl rfl rfl ?_; intro b10; refine ⟨okF, ?_⟩); refine aC .here ?_)
        repeat (refine aJ ?_)
        ((first | (refine aM (ys := [e9]) 0 rfl rfl rfl ?_ (by decide) rfl (by omega) (by omega) rfl rfl ?_; (· exact Src.imm aB (.inl (Ok.mk _ _))); intro q11 c11; refine ⟨OkD.any (by first | exact SubP.drop SubP.refl | exact SubP.drop (SubP.drop SubP.refl)) aD, ?_⟩) | (refine aM (ys := [e9]) 1 rfl rfl rfl ?_ (by decide) rfl (by omega) (by omega) rfl rfl ?_; (· exact Src.imm aB (.inl (Ok.mk _ _))); intro q11 c11; refine ⟨OkD.any (by first | exact SubP.drop SubP.refl | exact SubP.drop (SubP.drop SubP.refl)) aD, ?_⟩)); refine cK (φ := bT (m.l.es ++ [e9]) 180) (Hv.snoc aB aB) ?_; refine cO fF aB ?_)
        repeat (refine aJ ?_)
        (refine aA rfl (hClP _ _ aB) rfl rfl ?_; rintro _ _ _ ⟨rfl, qp, cp, rfl, rfl⟩; refine ⟨okF, ?_⟩)
        repeat (refine aJ ?_)
        (refine aA rfl (hW 1 (by decide) _ _) rfl rfl ?_; rintro _ _ _ ⟨rfl, e15, rfl, he15, rfl⟩; refine ⟨okF, ?_⟩)
        repeat (refine aJ ?_)
        ((refine aK (cs := recs eR [e15]) ([rv e15]) rfl rfl (by intro v hv; repeat (first | exact absurd hv (List.not_mem_nil) | (rcases List.mem_cons.1 hv with rfl | hv; · rfl))) (by omega) rfl rfl rfl ?_; intro b16; refine ⟨okF, ?_⟩); refine aC .here ?_)
        repeat (refine aJ ?_)
        ((first | (refine aM (ys := [e15]) 0 rfl rfl rfl ?_ (by decide) rfl (by omega) (by omega) rfl rfl ?_; (· exact Src.imm aB (.inl (Ok.mk _ _))); intro q17 c17; refine ⟨OkD.any (by first | exact SubP.drop SubP.refl | exact SubP.drop (SubP.drop SubP.refl)) aD, ?_⟩) | (refine aM (ys := [e15]) 1 rfl rfl rfl ?_ (by decide) rfl (by omega) (by omega) rfl rfl ?_; (· exact Src.imm aB (.inl (Ok.mk _ _))); intro q17 c17; refine ⟨OkD.any (by first | exact SubP.drop SubP.refl | exact SubP.drop (SubP.drop SubP.refl)) aD, ?_⟩)); refine cK (φ := bT (m.p.es ++ [e15]) 180) (Hv.snoc aB aB) ?_; refine cO fF aB ?_)
        repeat (refine aJ ?_)
        (refine aF rfl (fun _ => bC (vals := [mv ⟨q5, c5, m.a.rows ++ [y]⟩, lv ⟨q11, c11, m.l.es ++ [e9]⟩, lv ⟨q17, c17, m.p.es ++ [e15]⟩]) (cells := [mv ⟨q5, c5, m.a.rows ++ [y]⟩, lv ⟨q11, c11, m.l.es ++ [e9]⟩, lv ⟨q17, c17, m.p.es ++ [e15]⟩]) rfl ?hpl rfl ?hz) rfl rfl ?_; (case hpl => repeat (first | exact True.intro | refine ⟨rfl, ?_⟩)); (case hz => rfl))
        repeat (refine aJ ?_)
        (refine dV (φ := iC ⟨⟨q5, c5, m.a.rows ++ [y]⟩, ⟨q11, c11, m.l.es ++ [e9]⟩, ⟨q17, c17, m.p.es ++ [e15]⟩⟩ 180) (Hv.le3 aB aB aB) ?_; refine dB .here ?_; refine bY _ _ _ aP aG aD ⟨⟨⟨q5, c5, m.a.rows ++ [y]⟩, ⟨q11, c11, m.l.es ++ [e9]⟩, ⟨q17, c17, m.p.es ++ [e15]⟩⟩, b19, hfit q5 c5 q11 c11 q17 c17 e9 e15 he15, hmq q5 c5, rfl, rfl, rfl⟩)
      ·(refine aO rfl rfl ?_; intro b19; refine ⟨okF, ?_⟩)
       refine aT ?_
       refine aV [9, 10, 11, 14, 15, 16, 17, 18, 20] [0, 0, 0, 0, 0, 0, 0, 0, 0] aG aD (by kernel_rfl) (by kernel_rfl) rfl rfl ?_
       repeat (refine aJ ?_)
       (refine aA rfl (hW 0 (by decide) _ _) rfl rfl ?_; rintro _ _ _ ⟨rfl, e9, rfl, he9, rfl⟩; refine ⟨okF, ?_⟩)
       repeat (refine aJ ?_)
       ((refine aK (cs := recs eR [e9]) ([rv e9]) rfl rfl (by intro v hv; repeat (first | exact absurd hv (List.not_mem_nil) | (rcases List.mem_cons.1 hv with rfl | hv; · rfl))) (by omega) rfl rfl rfl ?_; intro b10; refine ⟨okF, ?_⟩); refine aC .here ?_)
       repeat (refine aJ ?_)
       ((first | (refine aM (ys := [e9]) 0 rfl rfl rfl ?_ (by decide) rfl (by omega) (by omega) rfl rfl ?_; (· exact Src.imm aB (.inl (Ok.mk _ _))); intro q11 c11; refine ⟨OkD.any (by first | exact SubP.drop SubP.refl | exact SubP.drop (SubP.drop SubP.refl)) aD, ?_⟩) | (refine aM (ys := [e9]) 1 rfl rfl rfl ?_ (by decide) rfl (by omega) (by omega) rfl rfl ?_; (· exact Src.imm aB (.inl (Ok.mk _ _))); intro q11 c11; refine ⟨OkD.any (by first | exact SubP.drop SubP.refl | exact SubP.drop (SubP.drop SubP.refl)) aD, ?_⟩)); refine cK (φ := bT (m.l.es ++ [e9]) 180) (Hv.snoc aB aB) ?_; refine cO fF aB ?_)
       repeat (refine aJ ?_)
       (refine aA rfl (hClP _ _ aB) rfl rfl ?_; rintro _ _ _ ⟨rfl, qp, cp, rfl, rfl⟩; refine ⟨okF, ?_⟩)
       repeat (refine aJ ?_)
       (refine aA rfl (hW 1 (by decide) _ _) rfl rfl ?_; rintro _ _ _ ⟨rfl, e15, rfl, he15, rfl⟩; refine ⟨okF, ?_⟩)
       repeat (refine aJ ?_)
       ((refine aK (cs := recs eR [e15]) ([rv e15]) rfl rfl (by intro v hv; repeat (first | exact absurd hv (List.not_mem_nil) | (rcases List.mem_cons.1 hv with rfl | hv; · rfl))) (by omega) rfl rfl rfl ?_; intro b16; refine ⟨okF, ?_⟩); refine aC .here ?_)
       repeat (refine aJ ?_)
       ((first | (refine aM (ys := [e15]) 0 rfl rfl rfl ?_ (by decide) rfl (by omega) (by omega) rfl rfl ?_; (· exact Src.imm aB (.inl (Ok.mk _ _))); intro q17 c17; refine ⟨OkD.any (by first | exact SubP.drop SubP.refl | exact SubP.drop (SubP.drop SubP.refl)) aD, ?_⟩) | (refine aM (ys := [e15]) 1 rfl rfl rfl ?_ (by decide) rfl (by omega) (by omega) rfl rfl ?_; (· exact Src.imm aB (.inl (Ok.mk _ _))); intro q17 c17; refine ⟨OkD.any (by first | exact SubP.drop SubP.refl | exact SubP.drop (SubP.drop SubP.refl)) aD, ?_⟩)); refine cK (φ := bT (m.p.es ++ [e15]) 180) (Hv.snoc aB aB) ?_; refine cO fF aB ?_)
       repeat (refine aJ ?_)
       (refine aF rfl (fun _ => bC (vals := [mv ⟨q5, c5, m.a.rows ++ [y]⟩, lv ⟨q11, c11, m.l.es ++ [e9]⟩, lv ⟨q17, c17, m.p.es ++ [e15]⟩]) (cells := [mv ⟨q5, c5, m.a.rows ++ [y]⟩, lv ⟨q11, c11, m.l.es ++ [e9]⟩, lv ⟨q17, c17, m.p.es ++ [e15]⟩]) rfl ?hpl rfl ?hz) rfl rfl ?_; (case hpl => repeat (first | exact True.intro | refine ⟨rfl, ?_⟩)); (case hz => rfl))
       repeat (refine aJ ?_)
       (refine dV (φ := iC ⟨⟨q5, c5, m.a.rows ++ [y]⟩, ⟨q11, c11, m.l.es ++ [e9]⟩, ⟨q17, c17, m.p.es ++ [e15]⟩⟩ 180) (Hv.le3 aB aB aB) ?_; refine dB .here ?_; refine bY _ _ _ aP aG aD ⟨⟨⟨q5, c5, m.a.rows ++ [y]⟩, ⟨q11, c11, m.l.es ++ [e9]⟩, ⟨q17, c17, m.p.es ++ [e15]⟩⟩, b19, hfit q5 c5 q11 c11 q17 c17 e9 e15 he15, hmq q5 c5, rfl, rfl, rfl⟩)
     ·(refine aO rfl rfl ?_; intro b19; refine ⟨okF, ?_⟩)
      refine aT ?_
      refine aV [8, 9, 10, 11, 14, 15, 16, 17, 18, 20] [0, 0, 0, 0, 0, 0, 0, 0, 0, 0] aG aD (by kernel_rfl) (by kernel_rfl) rfl rfl ?_
      repeat (refine aJ ?_)
      (refine aA rfl (hClL _ _ aB) rfl rfl ?_; rintro _ _ _ ⟨rfl, ql, cl, rfl, rfl⟩; refine ⟨okF, ?_⟩)
      repeat (refine aJ ?_)
      (refine aA rfl (hW 0 (by decide) _ _) rfl rfl ?_; rintro _ _ _ ⟨rfl, e9, rfl, he9, rfl⟩; refine ⟨okF, ?_⟩)
      repeat (refine aJ ?_)
      ((refine aK (cs := recs eR [e9]) ([rv e9]) rfl rfl (by intro v hv; repeat (first | exact absurd hv (List.not_mem_nil) | (rcases List.mem_cons.1 hv with rfl | hv; · rfl))) (by omega) rfl rfl rfl ?_; intro b10; refine ⟨okF, ?_⟩); refine aC .here ?_)
      repeat (refine aJ ?_)
      ((first | (refine aM (ys := [e9]) 0 rfl rfl rfl ?_ (by decide) rfl (by omega) (by omega) rfl rfl ?_; (· exact Src.imm aB (.inl (Ok.mk _ _))); intro q11 c11; refine ⟨OkD.any (by first | exact SubP.drop SubP.refl | exact SubP.drop (SubP.drop SubP.refl)) aD, ?_⟩) | (refine aM (ys := [e9]) 1 rfl rfl rfl ?_ (by decide) rfl (by omega) (by omega) rfl rfl ?_; (· exact Src.imm aB (.inl (Ok.mk _ _))); intro q11 c11; refine ⟨OkD.any (by first | exact SubP.drop SubP.refl | exact SubP.drop (SubP.drop SubP.refl)) aD, ?_⟩)); refine cK (φ := bT (m.l.es ++ [e9]) 180) (Hv.snoc aB aB) ?_; refine cO fF aB ?_)
      repeat (refine aJ ?_)
      (refine aA rfl (hClP _ _ aB) rfl rfl ?_; rintro _ _ _ ⟨rfl, qp, cp, rfl, rfl⟩; refine ⟨okF, ?_⟩)
      repeat (refine aJ ?_)
      (refine aA rfl (hW 1 (by decide) _ _) rfl rfl ?_; rintro _ _ _ ⟨rfl, e15, rfl, he15, rfl⟩; refine ⟨okF, ?_⟩)
      repeat (refine aJ ?_)
      ((refine aK (cs := recs eR [e15]) ([rv e15]) rfl rfl (by intro v hv; repeat (first | exact absurd hv (List.not_mem_nil) | (rcases List.mem_cons.1 hv with rfl | hv; · rfl))) (by omega) rfl rfl rfl ?_; intro b16; refine ⟨okF, ?_⟩); refine aC .here ?_)
      repeat (refine aJ ?_)
      ((first | (refine aM (ys := [e15]) 0 rfl rfl rfl ?_ (by decide) rfl (by omega) (by omega) rfl rfl ?_; (· exact Src.imm aB (.inl (Ok.mk _ _))); intro q17 c17; refine ⟨OkD.any (by first | exact SubP.drop SubP.refl | exact SubP.drop (SubP.drop SubP.refl)) aD, ?_⟩) | (refine aM (ys := [e15]) 1 rfl rfl rfl ?_ (by decide) rfl (by omega) (by omega) rfl rfl ?_; (· exact Src.imm aB (.inl (Ok.mk _ _))); intro q17 c17; refine ⟨OkD.any (by first | exact SubP.drop SubP.refl | exact SubP.drop (SubP.drop SubP.refl)) aD, ?_⟩)); refine cK (φ := bT (m.p.es ++ [e15]) 180) (Hv.snoc aB aB) ?_; refine cO fF aB ?_)
      repeat (refine aJ ?_)
      (refine aF rfl (fun _ => bC (vals := [mv ⟨q5, c5, m.a.rows ++ [y]⟩, lv ⟨q11, c11, m.l.es ++ [e9]⟩, lv ⟨q17, c17, m.p.es ++ [e15]⟩]) (cells := [mv ⟨q5, c5, m.a.rows ++ [y]⟩, lv ⟨q11, c11, m.l.es ++ [e9]⟩, lv ⟨q17, c17, m.p.es ++ [e15]⟩]) rfl ?hpl rfl ?hz) rfl rfl ?_; (case hpl => repeat (first | exact True.intro | refine ⟨rfl, ?_⟩)); (case hz => rfl))
      repeat (refine aJ ?_)
      (refine dV (φ := iC ⟨⟨q5, c5, m.a.rows ++ [y]⟩, ⟨q11, c11, m.l.es ++ [e9]⟩, ⟨q17, c17, m.p.es ++ [e15]⟩⟩ 180) (Hv.le3 aB aB aB) ?_; refine dB .here ?_; refine bY _ _ _ aP aG aD ⟨⟨⟨q5, c5, m.a.rows ++ [y]⟩, ⟨q11, c11, m.l.es ++ [e9]⟩, ⟨q17, c17, m.p.es ++ [e15]⟩⟩, b19, hfit q5 c5 q11 c11 q17 c17 e9 e15 he15, hmq q5 c5, rfl, rfl, rfl⟩)
    ·(refine aO rfl rfl ?_; intro b19; refine ⟨okF, ?_⟩)
     refine aT ?_
     refine aV [5, 8, 9, 10, 11, 14, 15, 16, 17, 18, 20] [0, 0, 0, 0, 0, 0, 0, 0, 0, 0, 0] aG aD (by kernel_rfl) (by kernel_rfl) rfl rfl ?_
     repeat (refine aJ ?_)
     ((first | (refine aM (ys := [y]) 0 rfl rfl rfl ?_ (by decide) rfl (by omega) (by omega) rfl rfl ?_; (· exact Src.imm aB (.inl (Ok.mk _ _))); intro q5 c5; refine ⟨OkD.any (by first | exact SubP.drop SubP.refl | exact SubP.drop (SubP.drop SubP.refl)) aD, ?_⟩) | (refine aM (ys := [y]) 1 rfl rfl rfl ?_ (by decide) rfl (by omega) (by omega) rfl rfl ?_; (· exact Src.imm aB (.inl (Ok.mk _ _))); intro q5 c5; refine ⟨OkD.any (by first | exact SubP.drop SubP.refl | exact SubP.drop (SubP.drop SubP.refl)) aD, ?_⟩)); refine cK (φ := mD (m.a.rows ++ [y]) 180) (Hv.snocL aB aB) ?_; refine oZ fF aB ?_)
     repeat (refine aJ ?_)
     (refine aA rfl (hClL _ _ aB) rfl rfl ?_; rintro _ _ _ ⟨rfl, ql, cl, rfl, rfl⟩; refine ⟨okF, ?_⟩)
     repeat (refine aJ ?_)
     (refine aA rfl (hW 0 (by decide) _ _) rfl rfl ?_; rintro _ _ _ ⟨rfl, e9, rfl, he9, rfl⟩; refine ⟨okF, ?_⟩)
     repeat (refine aJ ?_)
     ((refine aK (cs := recs eR [e9]) ([rv e9]) rfl rfl (by intro v hv; repeat (first | exact absurd hv (List.not_mem_nil) | (rcases List.mem_cons.1 hv with rfl | hv; · rfl))) (by omega) rfl rfl rfl ?_; intro b10; refine ⟨okF, ?_⟩); refine aC .here ?_)
     repeat (refine aJ ?_)
     ((first | (refine aM (ys := [e9]) 0 rfl rfl rfl ?_ (by decide) rfl (by omega) (by omega) rfl rfl ?_; (· exact Src.imm aB (.inl (Ok.mk _ _))); intro q11 c11; refine ⟨OkD.any (by first | exact SubP.drop SubP.refl | exact SubP.drop (SubP.drop SubP.refl)) aD, ?_⟩) | (refine aM (ys := [e9]) 1 rfl rfl rfl ?_ (by decide) rfl (by omega) (by omega) rfl rfl ?_; (· exact Src.imm aB (.inl (Ok.mk _ _))); intro q11 c11; refine ⟨OkD.any (by first | exact SubP.drop SubP.refl | exact SubP.drop (SubP.drop SubP.refl)) aD, ?_⟩)); refine cK (φ := bT (m.l.es ++ [e9]) 180) (Hv.snoc aB aB) ?_; refine cO fF aB ?_)
     repeat (refine aJ ?_)
     (refine aA rfl (hClP _ _ aB) rfl rfl ?_; rintro _ _ _ ⟨rfl, qp, cp, rfl, rfl⟩; refine ⟨okF, ?_⟩)
     repeat (refine aJ ?_)
     (refine aA rfl (hW 1 (by decide) _ _) rfl rfl ?_; rintro _ _ _ ⟨rfl, e15, rfl, he15, rfl⟩; refine ⟨okF, ?_⟩)
     repeat (refine aJ ?_)
     ((refine aK (cs := recs eR [e15]) ([rv e15]) rfl rfl (by intro v hv; repeat (first | exact absurd hv (List.not_mem_nil) | (rcases List.mem_cons.1 hv with rfl | hv; · rfl))) (by omega) rfl rfl rfl ?_; intro b16; refine ⟨okF, ?_⟩); refine aC .here ?_)
     repeat (refine aJ ?_)
     ((first | (refine aM (ys := [e15]) 0 rfl rfl rfl ?_ (by decide) rfl (by omega) (by omega) rfl rfl ?_; (· exact Src.imm aB (.inl (Ok.mk _ _))); intro q17 c17; refine ⟨OkD.any (by first | exact SubP.drop SubP.refl | exact SubP.drop (SubP.drop SubP.refl)) aD, ?_⟩) | (refine aM (ys := [e15]) 1 rfl rfl rfl ?_ (by decide) rfl (by omega) (by omega) rfl rfl ?_; (· exact Src.imm aB (.inl (Ok.mk _ _))); intro q17 c17; refine ⟨OkD.any (by first | exact SubP.drop SubP.refl | exact SubP.drop (SubP.drop SubP.refl)) aD, ?_⟩)); refine cK (φ := bT (m.p.es ++ [e15]) 180) (Hv.snoc aB aB) ?_; refine cO fF aB ?_)
     repeat (refine aJ ?_)
     (refine aF rfl (fun _ => bC (vals := [mv ⟨q5, c5, m.a.rows ++ [y]⟩, lv ⟨q11, c11, m.l.es ++ [e9]⟩, lv ⟨q17, c17, m.p.es ++ [e15]⟩]) (cells := [mv ⟨q5, c5, m.a.rows ++ [y]⟩, lv ⟨q11, c11, m.l.es ++ [e9]⟩, lv ⟨q17, c17, m.p.es ++ [e15]⟩]) rfl ?hpl rfl ?hz) rfl rfl ?_; (case hpl => repeat (first | exact True.intro | refine ⟨rfl, ?_⟩)); (case hz => rfl))
     repeat (refine aJ ?_)
     (refine dV (φ := iC ⟨⟨q5, c5, m.a.rows ++ [y]⟩, ⟨q11, c11, m.l.es ++ [e9]⟩, ⟨q17, c17, m.p.es ++ [e15]⟩⟩ 180) (Hv.le3 aB aB aB) ?_; refine dB .here ?_; refine bY _ _ _ aP aG aD ⟨⟨⟨q5, c5, m.a.rows ++ [y]⟩, ⟨q11, c11, m.l.es ++ [e9]⟩, ⟨q17, c17, m.p.es ++ [e15]⟩⟩, b19, hfit q5 c5 q11 c11 q17 c17 e9 e15 he15, hmq q5 c5, rfl, rfl, rfl⟩)
   ·(refine aO rfl rfl ?_; intro b19; refine ⟨okF, ?_⟩)
    refine aT ?_
    refine aV [2, 5, 8, 9, 10, 11, 14, 15, 16, 17, 18, 20] [0, 0, 0, 0, 0, 0, 0, 0, 0, 0, 0, 0] aG aD (by kernel_rfl) (by kernel_rfl) rfl rfl ?_
    repeat (refine aJ ?_)
    (refine aA rfl (hClA _ _ aB) rfl rfl ?_; rintro _ _ _ ⟨rfl, qa, ca, rfl, rfl⟩; refine ⟨okF, ?_⟩)
    repeat (refine aJ ?_)
    ((first | (refine aM (ys := [y]) 0 rfl rfl rfl ?_ (by decide) rfl (by omega) (by omega) rfl rfl ?_; (· exact Src.imm aB (.inl (Ok.mk _ _))); intro q5 c5; refine ⟨OkD.any (by first | exact SubP.drop SubP.refl | exact SubP.drop (SubP.drop SubP.refl)) aD, ?_⟩) | (refine aM (ys := [y]) 1 rfl rfl rfl ?_ (by decide) rfl (by omega) (by omega) rfl rfl ?_; (· exact Src.imm aB (.inl (Ok.mk _ _))); intro q5 c5; refine ⟨OkD.any (by first | exact SubP.drop SubP.refl | exact SubP.drop (SubP.drop SubP.refl)) aD, ?_⟩)); refine cK (φ := mD (m.a.rows ++ [y]) 180) (Hv.snocL aB aB) ?_; refine oZ fF aB ?_)
    repeat (refine aJ ?_)
    (refine aA rfl (hClL _ _ aB) rfl rfl ?_; rintro _ _ _ ⟨rfl, ql, cl, rfl, rfl⟩; refine ⟨okF, ?_⟩)
    repeat (refine aJ ?_)
    (refine aA rfl (hW 0 (by decide) _ _) rfl rfl ?_; rintro _ _ _ ⟨rfl, e9, rfl, he9, rfl⟩; refine ⟨okF, ?_⟩)
    repeat (refine aJ ?_)
    ((refine aK (cs := recs eR [e9]) ([rv e9]) rfl rfl (by intro v hv; repeat (first | exact absurd hv (List.not_mem_nil) | (rcases List.mem_cons.1 hv with rfl | hv; · rfl))) (by omega) rfl rfl rfl ?_; intro b10; refine ⟨okF, ?_⟩); refine aC .here ?_)
    repeat (refine aJ ?_)
    ((first | (refine aM (ys := [e9]) 0 rfl rfl rfl ?_ (by decide) rfl (by omega) (by omega) rfl rfl ?_; (· exact Src.imm aB (.inl (Ok.mk _ _))); intro q11 c11; refine ⟨OkD.any (by first | exact SubP.drop SubP.refl | exact SubP.drop (SubP.drop SubP.refl)) aD, ?_⟩) | (refine aM (ys := [e9]) 1 rfl rfl rfl ?_ (by decide) rfl (by omega) (by omega) rfl rfl ?_; (· exact Src.imm aB (.inl (Ok.mk _ _))); intro q11 c11; refine ⟨OkD.any (by first | exact SubP.drop SubP.refl | exact SubP.drop (SubP.drop SubP.refl)) aD, ?_⟩)); refine cK (φ := bT (m.l.es ++ [e9]) 180) (Hv.snoc aB aB) ?_; refine cO fF aB ?_)
    repeat (refine aJ ?_)
    (refine aA rfl (hClP _ _ aB) rfl rfl ?_; rintro _ _ _ ⟨rfl, qp, cp, rfl, rfl⟩; refine ⟨okF, ?_⟩)
    repeat (refine aJ ?_)
    (refine aA rfl (hW 1 (by decide) _ _) rfl rfl ?_; rintro _ _ _ ⟨rfl, e15, rfl, he15, rfl⟩; refine ⟨okF, ?_⟩)
    repeat (refine aJ ?_)
    ((refine aK (cs := recs eR [e15]) ([rv e15]) rfl rfl (by intro v hv; repeat (first | exact absurd hv (List.not_mem_nil) | (rcases List.mem_cons.1 hv with rfl | hv; · rfl))) (by omega) rfl rfl rfl ?_; intro b16; refine ⟨okF, ?_⟩); refine aC .here ?_)
    repeat (refine aJ ?_)
    ((first | (refine aM (ys := [e15]) 0 rfl rfl rfl ?_ (by decide) rfl (by omega) (by omega) rfl rfl ?_; (· exact Src.imm aB (.inl (Ok.mk _ _))); intro q17 c17; refine ⟨OkD.any (by first | exact SubP.drop SubP.refl | exact SubP.drop (SubP.drop SubP.refl)) aD, ?_⟩) | (refine aM (ys := [e15]) 1 rfl rfl rfl ?_ (by decide) rfl (by omega) (by omega) rfl rfl ?_; (· exact Src.imm aB (.inl (Ok.mk _ _))); intro q17 c17; refine ⟨OkD.any (by first | exact SubP.drop SubP.refl | exact SubP.drop (SubP.drop SubP.refl)) aD, ?_⟩)); refine cK (φ := bT (m.p.es ++ [e15]) 180) (Hv.snoc aB aB) ?_; refine cO fF aB ?_)
    repeat (refine aJ ?_)
    (refine aF rfl (fun _ => bC (vals := [mv ⟨q5, c5, m.a.rows ++ [y]⟩, lv ⟨q11, c11, m.l.es ++ [e9]⟩, lv ⟨q17, c17, m.p.es ++ [e15]⟩]) (cells := [mv ⟨q5, c5, m.a.rows ++ [y]⟩, lv ⟨q11, c11, m.l.es ++ [e9]⟩, lv ⟨q17, c17, m.p.es ++ [e15]⟩]) rfl ?hpl rfl ?hz) rfl rfl ?_; (case hpl => repeat (first | exact True.intro | refine ⟨rfl, ?_⟩)); (case hz => rfl))
    repeat (refine aJ ?_)
    (refine dV (φ := iC ⟨⟨q5, c5, m.a.rows ++ [y]⟩, ⟨q11, c11, m.l.es ++ [e9]⟩, ⟨q17, c17, m.p.es ++ [e15]⟩⟩ 180) (Hv.le3 aB aB aB) ?_; refine dB .here ?_; refine bY _ _ _ aP aG aD ⟨⟨⟨q5, c5, m.a.rows ++ [y]⟩, ⟨q11, c11, m.l.es ++ [e9]⟩, ⟨q17, c17, m.p.es ++ [e15]⟩⟩, b19, hfit q5 c5 q11 c11 q17 c17 e9 e15 he15, hmq q5 c5, rfl, rfl, rfl⟩)
  ·(refine aO rfl rfl ?_; intro b19; refine ⟨okF, ?_⟩)
   refine aT ?_
   repeat (refine aJ ?_)
   refine bB (fuel := 12) (i := 2) (j := 4) (by kernel_rfl) ?_ ?_
   ·(refine aA rfl (hClA _ _ aB) rfl rfl ?_; rintro _ _ _ ⟨rfl, qa, ca, rfl, rfl⟩; refine ⟨okF, ?_⟩)
    refine aT ?_
    refine aV [4, 5, 8, 9, 10, 11, 14, 15, 16, 17, 18, 20] [0, 0, 0, 0, 0, 0, 0, 0, 0, 0, 0, 0] aG aD (by kernel_rfl) (by kernel_rfl) rfl rfl ?_
    repeat (refine aJ ?_)
    ((refine aK (cs := recs eL [y]) ([lv y]) rfl rfl (by intro v hv; repeat (first | exact absurd hv (List.not_mem_nil) | (rcases List.mem_cons.1 hv with rfl | hv; · rfl))) (by omega) rfl rfl rfl ?_; intro b4; refine ⟨okF, ?_⟩); refine aC .here ?_)
    repeat (refine aJ ?_)
    ((first | (refine aM (ys := [y]) 0 rfl rfl rfl ?_ (by decide) rfl (by omega) (by omega) rfl rfl ?_; (· exact Src.imm aB (.inl (Ok.mk _ _))); intro q5 c5; refine ⟨OkD.any (by first | exact SubP.drop SubP.refl | exact SubP.drop (SubP.drop SubP.refl)) aD, ?_⟩) | (refine aM (ys := [y]) 1 rfl rfl rfl ?_ (by decide) rfl (by omega) (by omega) rfl rfl ?_; (· exact Src.imm aB (.inl (Ok.mk _ _))); intro q5 c5; refine ⟨OkD.any (by first | exact SubP.drop SubP.refl | exact SubP.drop (SubP.drop SubP.refl)) aD, ?_⟩)); refine cK (φ := mD (m.a.rows ++ [y]) 180) (Hv.snocL aB aB) ?_; refine oZ fF aB ?_)
    repeat (refine aJ ?_)
    (refine aA rfl (hClL _ _ aB) rfl rfl ?_; rintro _ _ _ ⟨rfl, ql, cl, rfl, rfl⟩; refine ⟨okF, ?_⟩)
    repeat (refine aJ ?_)
    (refine aA rfl (hW 0 (by decide) _ _) rfl rfl ?_; rintro _ _ _ ⟨rfl, e9, rfl, he9, rfl⟩; refine ⟨okF, ?_⟩)
    repeat (refine aJ ?_)
    ((refine aK (cs := recs eR [e9]) ([rv e9]) rfl rfl (by intro v hv; repeat (first | exact absurd hv (List.not_mem_nil) | (rcases List.mem_cons.1 hv with rfl | hv; · rfl))) (by omega) rfl rfl rfl ?_; intro b10; refine ⟨okF, ?_⟩); refine aC .here ?_)
    repeat (refine aJ ?_)
    ((first | (refine aM (ys := [e9]) 0 rfl rfl rfl ?_ (by decide) rfl (by omega) (by omega) rfl rfl ?_; (· exact Src.imm aB (.inl (Ok.mk _ _))); intro q11 c11; refine ⟨OkD.any (by first | exact SubP.drop SubP.refl | exact SubP.drop (SubP.drop SubP.refl)) aD, ?_⟩) | (refine aM (ys := [e9]) 1 rfl rfl rfl ?_ (by decide) rfl (by omega) (by omega) rfl rfl ?_; (· exact Src.imm aB (.inl (Ok.mk _ _))); intro q11 c11; refine ⟨OkD.any (by first | exact SubP.drop SubP.refl | exact SubP.drop (SubP.drop SubP.refl)) aD, ?_⟩)); refine cK (φ := bT (m.l.es ++ [e9]) 180) (Hv.snoc aB aB) ?_; refine cO fF aB ?_)
    repeat (refine aJ ?_)
    (refine aA rfl (hClP _ _ aB) rfl rfl ?_; rintro _ _ _ ⟨rfl, qp, cp, rfl, rfl⟩; refine ⟨okF, ?_⟩)
    repeat (refine aJ ?_)
    (refine aA rfl (hW 1 (by decide) _ _) rfl rfl ?_; rintro _ _ _ ⟨rfl, e15, rfl, he15, rfl⟩; refine ⟨okF, ?_⟩)
    repeat (refine aJ ?_)
    ((refine aK (cs := recs eR [e15]) ([rv e15]) rfl rfl (by intro v hv; repeat (first | exact absurd hv (List.not_mem_nil) | (rcases List.mem_cons.1 hv with rfl | hv; · rfl))) (by omega) rfl rfl rfl ?_; intro b16; refine ⟨okF, ?_⟩); refine aC .here ?_)
    repeat (refine aJ ?_)
    ((first | (refine aM (ys := [e15]) 0 rfl rfl rfl ?_ (by decide) rfl (by omega) (by omega) rfl rfl ?_; (· exact Src.imm aB (.inl (Ok.mk _ _))); intro q17 c17; refine ⟨OkD.any (by first | exact SubP.drop SubP.refl | exact SubP.drop (SubP.drop SubP.refl)) aD, ?_⟩) | (refine aM (ys := [e15]) 1 rfl rfl rfl ?_ (by decide) rfl (by omega) (by omega) rfl rfl ?_; (· exact Src.imm aB (.inl (Ok.mk _ _))); intro q17 c17; refine ⟨OkD.any (by first | exact SubP.drop SubP.refl | exact SubP.drop (SubP.drop SubP.refl)) aD, ?_⟩)); refine cK (φ := bT (m.p.es ++ [e15]) 180) (Hv.snoc aB aB) ?_; refine cO fF aB ?_)
    repeat (refine aJ ?_)
    (refine aF rfl (fun _ => bC (vals := [mv ⟨q5, c5, m.a.rows ++ [y]⟩, lv ⟨q11, c11, m.l.es ++ [e9]⟩, lv ⟨q17, c17, m.p.es ++ [e15]⟩]) (cells := [mv ⟨q5, c5, m.a.rows ++ [y]⟩, lv ⟨q11, c11, m.l.es ++ [e9]⟩, lv ⟨q17, c17, m.p.es ++ [e15]⟩]) rfl ?hpl rfl ?hz) rfl rfl ?_; (case hpl => repeat (first | exact True.intro | refine ⟨rfl, ?_⟩)); (case hz => rfl))
    repeat (refine aJ ?_)
    (refine dV (φ := iC ⟨⟨q5, c5, m.a.rows ++ [y]⟩, ⟨q11, c11, m.l.es ++ [e9]⟩, ⟨q17, c17, m.p.es ++ [e15]⟩⟩ 180) (Hv.le3 aB aB aB) ?_; refine dB .here ?_; refine bY _ _ _ aP aG aD ⟨⟨⟨q5, c5, m.a.rows ++ [y]⟩, ⟨q11, c11, m.l.es ++ [e9]⟩, ⟨q17, c17, m.p.es ++ [e15]⟩⟩, b19, hfit q5 c5 q11 c11 q17 c17 e9 e15 he15, hmq q5 c5, rfl, rfl, rfl⟩)
   ·((refine aK (cs := recs eL [y]) ([lv y]) rfl rfl (by intro v hv; repeat (first | exact absurd hv (List.not_mem_nil) | (rcases List.mem_cons.1 hv with rfl | hv; · rfl))) (by omega) rfl rfl rfl ?_; intro b4; refine ⟨okF, ?_⟩); refine aC .here ?_)
    refine aT ?_
    refine aV [2, 5, 8, 9, 10, 11, 14, 15, 16, 17, 18, 20] [0, 0, 0, 0, 0, 0, 0, 0, 0, 0, 0, 0] aG aD (by kernel_rfl) (by kernel_rfl) rfl rfl ?_
    repeat (refine aJ ?_)
    (refine aA rfl (hClA _ _ aB) rfl rfl ?_; rintro _ _ _ ⟨rfl, qa, ca, rfl, rfl⟩; refine ⟨okF, ?_⟩)
    repeat (refine aJ ?_)
    ((first | (refine aM (ys := [y]) 0 rfl rfl rfl ?_ (by decide) rfl (by omega) (by omega) rfl rfl ?_; (· exact Src.imm aB (.inl (Ok.mk _ _))); intro q5 c5; refine ⟨OkD.any (by first | exact SubP.drop SubP.refl | exact SubP.drop (SubP.drop SubP.refl)) aD, ?_⟩) | (refine aM (ys := [y]) 1 rfl rfl rfl ?_ (by decide) rfl (by omega) (by omega) rfl rfl ?_; (· exact Src.imm aB (.inl (Ok.mk _ _))); intro q5 c5; refine ⟨OkD.any (by first | exact SubP.drop SubP.refl | exact SubP.drop (SubP.drop SubP.refl)) aD, ?_⟩)); refine cK (φ := mD (m.a.rows ++ [y]) 180) (Hv.snocL aB aB) ?_; refine oZ fF aB ?_)
    repeat (refine aJ ?_)
    (refine aA rfl (hClL _ _ aB) rfl rfl ?_; rintro _ _ _ ⟨rfl, ql, cl, rfl, rfl⟩; refine ⟨okF, ?_⟩)
    repeat (refine aJ ?_)
    (refine aA rfl (hW 0 (by decide) _ _) rfl rfl ?_; rintro _ _ _ ⟨rfl, e9, rfl, he9, rfl⟩; refine ⟨okF, ?_⟩)
    repeat (refine aJ ?_)
    ((refine aK (cs := recs eR [e9]) ([rv e9]) rfl rfl (by intro v hv; repeat (first | exact absurd hv (List.not_mem_nil) | (rcases List.mem_cons.1 hv with rfl | hv; · rfl))) (by omega) rfl rfl rfl ?_; intro b10; refine ⟨okF, ?_⟩); refine aC .here ?_)
    repeat (refine aJ ?_)
    ((first | (refine aM (ys := [e9]) 0 rfl rfl rfl ?_ (by decide) rfl (by omega) (by omega) rfl rfl ?_; (· exact Src.imm aB (.inl (Ok.mk _ _))); intro q11 c11; refine ⟨OkD.any (by first | exact SubP.drop SubP.refl | exact SubP.drop (SubP.drop SubP.refl)) aD, ?_⟩) | (refine aM (ys := [e9]) 1 rfl rfl rfl ?_ (by decide) rfl (by omega) (by omega) rfl rfl ?_; (· exact Src.imm aB (.inl (Ok.mk _ _))); intro q11 c11; refine ⟨OkD.any (by first | exact SubP.drop SubP.refl | exact SubP.drop (SubP.drop SubP.refl)) aD, ?_⟩)); refine cK (φ := bT (m.l.es ++ [e9]) 180) (Hv.snoc aB aB) ?_; refine cO fF aB ?_)
    repeat (refine aJ ?_)
    (refine aA rfl (hClP _ _ aB) rfl rfl ?_; rintro _ _ _ ⟨rfl, qp, cp, rfl, rfl⟩; refine ⟨okF, ?_⟩)
    repeat (refine aJ ?_)
    (refine aA rfl (hW 1 (by decide) _ _) rfl rfl ?_; rintro _ _ _ ⟨rfl, e15, rfl, he15, rfl⟩; refine ⟨okF, ?_⟩)
    repeat (refine aJ ?_)
    ((refine aK (cs := recs eR [e15]) ([rv e15]) rfl rfl (by intro v hv; repeat (first | exact absurd hv (List.not_mem_nil) | (rcases List.mem_cons.1 hv with rfl | hv; · rfl))) (by omega) rfl rfl rfl ?_; intro b16; refine ⟨okF, ?_⟩); refine aC .here ?_)
    repeat (refine aJ ?_)
    ((first | (refine aM (ys := [e15]) 0 rfl rfl rfl ?_ (by decide) rfl (by omega) (by omega) rfl rfl ?_; (· exact Src.imm aB (.inl (Ok.mk _ _))); intro q17 c17; refine ⟨OkD.any (by first | exact SubP.drop SubP.refl | exact SubP.drop (SubP.drop SubP.refl)) aD, ?_⟩) | (refine aM (ys := [e15]) 1 rfl rfl rfl ?_ (by decide) rfl (by omega) (by omega) rfl rfl ?_; (· exact Src.imm aB (.inl (Ok.mk _ _))); intro q17 c17; refine ⟨OkD.any (by first | exact SubP.drop SubP.refl | exact SubP.drop (SubP.drop SubP.refl)) aD, ?_⟩)); refine cK (φ := bT (m.p.es ++ [e15]) 180) (Hv.snoc aB aB) ?_; refine cO fF aB ?_)
    repeat (refine aJ ?_)
    (refine aF rfl (fun _ => bC (vals := [mv ⟨q5, c5, m.a.rows ++ [y]⟩, lv ⟨q11, c11, m.l.es ++ [e9]⟩, lv ⟨q17, c17, m.p.es ++ [e15]⟩]) (cells := [mv ⟨q5, c5, m.a.rows ++ [y]⟩, lv ⟨q11, c11, m.l.es ++ [e9]⟩, lv ⟨q17, c17, m.p.es ++ [e15]⟩]) rfl ?hpl rfl ?hz) rfl rfl ?_; (case hpl => repeat (first | exact True.intro | refine ⟨rfl, ?_⟩)); (case hz => rfl))
    repeat (refine aJ ?_)
    (refine dV (φ := iC ⟨⟨q5, c5, m.a.rows ++ [y]⟩, ⟨q11, c11, m.l.es ++ [e9]⟩, ⟨q17, c17, m.p.es ++ [e15]⟩⟩ 180) (Hv.le3 aB aB aB) ?_; refine dB .here ?_; refine bY _ _ _ aP aG aD ⟨⟨⟨q5, c5, m.a.rows ++ [y]⟩, ⟨q11, c11, m.l.es ++ [e9]⟩, ⟨q17, c17, m.p.es ++ [e15]⟩⟩, b19, hfit q5 c5 q11 c11 q17 c17 e9 e15 he15, hmq q5 c5, rfl, rfl, rfl⟩)
 ·rintro G M I ⟨m', b19, f', hq', rfl, rfl, rfl⟩
  have hCt' := fun M0 I0 h => nH (X := X) (w0 := w0) (M0 := M0) (I0 := I0) (m := m') (k := 180) (by omega) f' h
  have hl1 : (xB m.a.rows.length C m.a.q).length = m.a.rows.length := by simp [xB]
  have hl2 : (xB (m.a.rows.length + 1) C m'.a.q).length = m.a.rows.length + 1 := by simp [xB]
  repeat (refine aJ ?_)
  (refine aA rfl (hCt _ _ aB) rfl rfl ?_; rintro _ _ _ ⟨rfl, qa, ca, rfl, rfl⟩; refine ⟨okF, ?_⟩)
  repeat (refine aJ ?_)
  (refine aA rfl (hCt' _ _ aB) rfl rfl ?_; rintro _ _ _ ⟨rfl, qb, cb, rfl, rfl⟩; refine ⟨okF, ?_⟩)
  repeat (refine aJ ?_)
  refine aW [6, 8, 85] rfl (fun k G M I => ∃ i : Nat, i ≤ m.a.rows.length ∧ k = m.a.rows.length - i ∧ G = [(86, .int .i64 i)] ∧ M0 = M ∧ I = aX qb (recs eB (xB (m.a.rows.length + 1) C m'.a.q)) :: aX qa (recs eB (xB m.a.rows.length C m.a.q)) :: I0) (m.a.rows.length) _ _ _ aP aG aD (⟨0, by omega, by omega, rfl, rfl, rfl⟩) ?_
  rintro kk G M I ⟨i, hi, rfl, rfl, rfl, rfl⟩
  by_cases hin : i < m.a.rows.length
  ·have hg1 := aHZ (C := C) (A := m.a.q) hin
   have hg2 := aHZ (R := m.a.rows.length + 1) (C := C) (A := m'.a.q) (i := i) (by omega)
   by_cases e : ctl m.a.rows.length C m.a.q i
   ·have e2 : ctl (m.a.rows.length + 1) C m'.a.q i := by rw [hq']; exact aMX (by simp) hin e
    rw [bO e] at hg1
    rw [bO e2] at hg2
    repeat (refine aJ ?_)
    rw [hg1]
    repeat (refine aJ ?_)
    rw [hg2]
    repeat (refine aJ ?_)
    refine aN (m.a.rows.length - (i + 1)) _ _ _ (by first | omega | (simp only [List.length_append, List.length_cons, List.length_nil]; omega)) aP aG aD (⟨i + 1, by omega, rfl, rfl, rfl, rfl⟩)
   ·rw [aY e] at hg1
    repeat (refine aJ ?_)
    rw [hg1]
    repeat (refine aJ ?_)
    refine aN (m.a.rows.length - (i + 1)) _ _ _ (by first | omega | (simp only [List.length_append, List.length_cons, List.length_nil]; omega)) aP aG aD (⟨i + 1, by omega, rfl, rfl, rfl, rfl⟩)
  ·repeat (refine aJ ?_)
   refine aH (by first | exact .inl rfl | exact .inr rfl) rfl rfl _ _ aG aD (⟨rfl, rfl, rfl⟩)
theorem Hv.leMono {I : List bA} {m : LE} {k n : Nat} (h : iC m k ∈ I) (hk : k ≤ n) : Hv I (iC m n) := ⟨fun X w hw => by
 have hh := (hw _ h : IsLE m k X w)
 exact ⟨hh.a.mono hk, hh.l.mono hk, hh.p.mono hk⟩⟩
theorem aOH {m : LW} {y : WL} (hR : m.rch) (hyr : y.rch) (hm : qY m ∈ I0) (hy : gQ y ∈ I0) :
  CD Tryz.prog 10 [vLW m, rR y] X w0 M0 I0 (fun v M I => M0 = M ∧ I0 = I ∧ v = .bool true) := by
 by_cases hn : m.few 7 5 ∧ m.code = 0 ∧ y.shN 5 6 ∧ y.es.length = (gt m.a.rows 0).es.length ∧ y.good
 ·obtain ⟨fw, hc, ys, yl, yg⟩ := hn
  refine jT (φ := ((∀ r ∈ m.a.rows, ∀ e ∈ r.es, e.Fit) ∧ (∀ e ∈ m.l.es, e.Fit) ∧ ∀ e ∈ m.p.es, e.Fit) ∧ ∀ e ∈ y.es, e.Fit) (fun w hw => ⟨Mem.fitLW hm hw, Mem.fitL hy hw⟩) (fun hf => ?_)
  obtain ⟨n, R, C, rfl, f, hRR, hCC⟩ := LW.num hf.1 hc
  obtain ⟨Y, rfl, hYl⟩ := wV hf.2 yg
  rw [yC, rA]
  refine sI (φ := iC n 30) (Hv.few fw hm) (sI (φ := iC n 180) (Hv.leMono (List.Mem.head _) (by omega)) (sI (φ := kZ Y 180) (Hv.shL rfl ys (List.Mem.tail _ (List.Mem.tail _ hy))) ?_))
  exact aLE hR hyr f (few_C f fw) (List.Mem.tail _ (List.Mem.tail _ (List.Mem.tail _ hm))) (List.Mem.tail _ (List.Mem.head _)) (List.Mem.tail _ (List.Mem.tail _ (List.Mem.tail _ hy))) (List.Mem.head _) fw ys (by rw [hYl, yl, hCC])
 ·exact aPR hR hyr hm hy hn
end
end Go.Proofs.YtgeagiikkeiioaaGreat

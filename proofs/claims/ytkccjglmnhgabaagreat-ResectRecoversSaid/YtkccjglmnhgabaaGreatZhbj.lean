/- What the laws of matrices share. The law ResectMatrices. The law ResectMatrices: what the law computes itself. The law ResectMatrices: its walk. The law ResectMatrices: every case; its arguments opened. Pairs of points and places (chapter 30): in memory, short, canonical. resect.times on fractions that were never set. Equations of pairs (plain); slices with a bound on their room; a list's part. -/
import Derived.Test.YtkccjglmnhgabaaGreatZhbg
import Derived.Test.YtkccjglmnhgabaaGreatZhbh
import Derived.Test.YtkccjglmnhgabaaGreatZhbi
import Derived.Test.YtkccjglmnhgabaaGreatZhax
set_option linter.unusedSimpArgs false
set_option linter.unusedVariables false
set_option maxRecDepth 100000
set_option maxHeartbeats 4000000
namespace Go.Proofs.YtkccjglmnhgabaaGreat
open Go Go.Fx
end Go.Proofs.YtkccjglmnhgabaaGreat
namespace Go.Proofs.YtkccjglmnhgabaaGreat
open Go Go.Fx
def x3 (a b c : RW) : WL := ⟨none, 0, [a, b, c]⟩
inductive PRJ (m : WM) (a b c : RW) (cs : List Value) (I : List aZ) : Int → Prop
 | one (h : ¬ (WL.good ⟨none, 0, [a, b, c]⟩ ∧ ∀ r ∈ m.rows, r.good)) (e : cs = uA) : PRJ m a b c cs I 1
 | four (h : WL.good ⟨none, 0, [a, b, c]⟩ ∧ ∀ r ∈ m.rows, r.good) (h0 : ¬ shP m) (e : cs = uA) : PRJ m a b c cs I 4
 | inf (M : MX) (x y z : RE) (em : m = M.raw) (ea : a = x.raw) (eb : b = y.raw) (ec : c = z.raw) (dm : M.fit 3 4) (h : qP M.q x.q y.q z.q 2 = 0) (e : cs = uA) : PRJ m a b c cs I 13
 | ok (M : MX) (x y z : RE) (em : m = M.raw) (ea : a = x.raw) (eb : b = y.raw) (ec : c = z.raw) (dm : M.fit 3 4) (h : qP M.q x.q y.q z.q 2 ≠ 0) (p : PE) (e : cs = eP p)
   (hp : p.v = ⟨qP M.q x.q y.q z.q 0 / qP M.q x.q y.q z.q 2, qP M.q x.q y.q z.q 1 / qP M.q x.q y.q z.q 2⟩) (hi : cZ p 488 ∈ I) : PRJ m a b c cs I 0
inductive CTR (m : WM) (cs : List Value) (I : List aZ) : Int → Prop
 | one (h : ¬ ∀ r ∈ m.rows, r.good) (e : cs = zT3) : CTR m cs I 1
 | four (h : ∀ r ∈ m.rows, r.good) (h0 : ¬ shP m) (e : cs = zT3) : CTR m cs I 4
 | inf (M : MX) (em : m = M.raw) (dm : M.fit 3 4) (h : ¬ ctrOk (kI M.q 4)) (e : cs = zT3) : CTR m cs I 13
 | ok (M : MX) (em : m = M.raw) (dm : M.fit 3 4) (h : ctrOk (kI M.q 4)) (a b c : RE) (e : cs = recs eR [a, b, c])
   (hp : [a.q, b.q, c.q] = (List.range 3).map (fun i => at2 (kI M.q 4) 0 i / at2 (kI M.q 4) 0 3)) (ha : bM a 15530 ∈ I) (hb : bM b 15530 ∈ I) (hc : bM c 15530 ∈ I) : CTR m cs I 0
section
variable {X : List Nat} {w0 : World} {M0 : List Ent} {I0 : List aZ}
end
end Go.Proofs.YtkccjglmnhgabaaGreat
namespace Go.Proofs.YtkccjglmnhgabaaGreat
open Go Go.Fx
section
variable {X : List Nat} {w0 : World} {M0 : List Ent} {I0 : List aZ}
end
end Go.Proofs.YtkccjglmnhgabaaGreat
namespace Go.Proofs.YtkccjglmnhgabaaGreat
open Go Go.Fx
section
variable {X : List Nat} {w0 : World} {M0 : List Ent} {I0 : List aZ}
end
end Go.Proofs.YtkccjglmnhgabaaGreat
namespace Go.Proofs.YtkccjglmnhgabaaGreat
open Go Go.Fx
open Go.ChangeShapes Go.WideShapes Go.RowKit Go.ChangeAt
section
variable {H : Type} {enc : TypeId × Value → H} {W : World}
end
section
variable {X : List Nat} {w0 : World} {M0 : List Ent} {I0 : List aZ}
end
end Go.Proofs.YtkccjglmnhgabaaGreat
namespace Go.Proofs.YtkccjglmnhgabaaGreat
open Go Go.Fx
structure VW where
 x : RW
 y : RW
 z : RW
instance VW.inh : Inhabited VW := ⟨⟨default, default, default⟩⟩
abbrev eVW (p : VW) : List Value := recs eW [p.x, p.y, p.z]
instance VW.szd : Sized eVW 12 := ⟨fun _ => rfl⟩
instance VW.one : Ones eVW := ⟨fun m u hu => vV _ u hu⟩
def VW.es (p : VW) : List RW := [p.x, p.y, p.z]
def VW.w (p : VW) : WL := ⟨none, 0, [p.x, p.y, p.z]⟩
structure IsVW (p : VW) (X : List Nat) (w : World) : Prop where
 x : IsW p.x X w
 y : IsW p.y X w
 z : IsW p.z X w
abbrev isVW (p : VW) : aZ := IsVW p
instance VW.gd (p : VW) : Fx.Good (IsVW p) := ⟨fun X Y w w' h he hY => ⟨Fx.Good.go (φ := IsW _) X Y w w' h.x he hY, Fx.Good.go (φ := IsW _) X Y w w' h.y he hY, Fx.Good.go (φ := IsW _) X Y w w' h.z he hY⟩⟩
structure AllVW (ps : List VW) (X : List Nat) (w : World) : Prop where
 go : ∀ p ∈ ps, IsVW p X w
abbrev allVW (ps : List VW) : aZ := AllVW ps
instance VW.gds (ps : List VW) : Fx.Good (AllVW ps) := ⟨fun X Y w w' h he hY => ⟨fun r hm => Fx.Good.go (φ := IsVW _) X Y w w' (h.go r hm) he hY⟩⟩
def VW.reach (p : VW) : Prop := p.x.reach ∧ p.y.reach ∧ p.z.reach
def VW.small (p : VW) : Prop := p.x.sml ∧ p.y.sml ∧ p.z.sml
def PW.brief (p : PW) : Prop := p.x.brief ∧ p.y.brief
instance PW.decB (p : PW) : Decidable p.brief := by unfold PW.brief; exact inferInstance
def fewP (ws : List VW) (ps : List PW) : Prop := (ws.length ≤ 20 ∧ ps.length ≤ 20 ∧ (ws.length ≤ 16 → ws.length ≤ 8 ∧ ps.length ≤ 8)) ∧ (∀ p ∈ ps, p.brief) ∧ ∀ v ∈ ws, v.w.shN 3 4
instance fewP.dec (ws : List VW) (ps : List PW) : Decidable (fewP ws ps) := by unfold fewP; exact inferInstance
def goodP (ws : List VW) (ps : List PW) : Prop := (∀ v ∈ ws, v.w.good) ∧ ∀ p ∈ ps, p.good
instance goodP.dec (ws : List VW) (ps : List PW) : Decidable (goodP ws ps) := by unfold goodP; exact inferInstance
section
variable {X : List Nat} {w0 : World} {M0 : List Ent} {I0 : List aZ}
end
end Go.Proofs.YtkccjglmnhgabaaGreat
namespace Go.Proofs.YtkccjglmnhgabaaGreat
open Go Go.Fx
abbrev zW : RW := ⟨false, none, [], 0, false, none, [], 0⟩
theorem aPO : ¬ zW.good := fun h => by
 have h3 := h.2.2.1
 simp [zI, val] at h3
theorem Hv.zw {I : List aZ} : Hv I (isW zW) := ⟨fun X w hw => ⟨⟨fun x hx => by simp at hx, fun x hx => by simp at hx, by simp, by simp, ⟨Nat.le_refl _, .inr ⟨rfl, rfl⟩⟩, ⟨Nat.le_refl _, .inr ⟨rfl, rfl⟩⟩⟩, Sl.nil _ _ _, Sl.nil _ _ _⟩⟩
section
variable {X : List Nat} {w0 : World} {M0 : List Ent} {I0 : List aZ}
theorem aMM : CD Tryz.prog 102 [zR] X w0 M0 I0 (RQ 0 0 M0 I0) := by
 have hV := fun M0 I0 => pR (X := X) (w0 := w0) (M0 := M0) (I0 := I0) (r := zW) ⟨by show 0 ≤ _; omega, by show 0 ≤ _; omega⟩ Hv.zw
 rw [bN aPO] at hV
 have hW := fun M0 I0 => mV (X := X) (w0 := w0) (M0 := M0) (I0 := I0) (x := 0) (by decide) (k := 0) (by decide)
 refine cO Tryz.func102 rfl Tryz.ntmps102 rfl ?_
 refine aL ?_
 refine aM ?_
 (refine aR rfl rfl rfl ?_; intro b; refine ⟨okF, ?_⟩)
 (refine aB rfl rfl ?_; intro b2; refine ⟨okF, ?_⟩)
 repeat (refine aJ ?_)
 (refine aA rfl (hV _ _) rfl rfl ?_; rintro _ _ _ ⟨rfl, rfl, rfl⟩; refine ⟨okF, ?_⟩)
 repeat (refine aJ ?_)
 (refine aA rfl (hW _ _) rfl rfl ?_; rintro _ _ _ ⟨rfl, e2, rfl, he2, rfl⟩; refine ⟨okF, ?_⟩)
 repeat (refine aJ ?_)
 refine bK (cs := eR e2) (.inl rfl) rfl rfl aC rfl M0 (bM e2 0 :: I0) aD aF ⟨rfl, e2, rfl, he2, rfl⟩
theorem aLI {b : RE} {m : Nat} (hk : m ≤ 400000000000) (hb : bM b m ∈ I0) : CD Tryz.prog 106 [zR, rv b] X w0 M0 I0 (RQ 0 m M0 I0) := by
 have hV := fun M0 I0 h => kP (X := X) (w0 := w0) (M0 := M0) (I0 := I0) (e := b) (k := m) (by omega) h
 have hz := fun M0 I0 => aMM (X := X) (w0 := w0) (M0 := M0) (I0 := I0)
 refine bE Tryz.func106 rfl Tryz.ntmps106 rfl ?_
 refine aL ?_
 refine aM ?_
 (refine aR rfl rfl rfl ?_; intro b1; refine ⟨okF, ?_⟩)
 (refine aR rfl rfl rfl ?_; intro b2; refine ⟨okF, ?_⟩)
 (refine aB rfl rfl ?_; intro b3; refine ⟨okF, ?_⟩)
 repeat (refine aJ ?_)
 (repeat refine aL ?_); refine bT 2 [0, 2, 1, 3, 4, 5] [1, 2, 0, 0, 0, 0] mixed (by kernel_rfl) ?_
 repeat (refine aJ ?_)
 (refine aA rfl (hz _ _) rfl rfl ?_; rintro _ _ _ ⟨rfl, x, rfl, hx, rfl⟩; refine ⟨okF, ?_⟩)
 repeat (refine aJ ?_)
 (refine aA rfl (hV _ _ (Hv.mem aC)) rfl rfl ?_; rintro _ _ _ ⟨rfl, y, rfl, hy, rfl⟩; refine ⟨okF, ?_⟩)
 refine iG (e := x) (k := 0) (Hv.mem (List.Mem.tail _ (List.Mem.head _))) ?_
 refine iG (e := y) (k := m) (Hv.mem (List.Mem.tail _ (List.Mem.tail _ (List.Mem.head _)))) ?_
 have hM1 := fun u v M0 I0 => qQ (X := X) (w0 := w0) (M0 := M0) (I0 := I0) (u := u) (v := v) (y := x.q.num) (z := y.q.num) (k := 0) (m := m) (by omega)
 have hM3 := fun u v M0 I0 => qQ (X := X) (w0 := w0) (M0 := M0) (I0 := I0) (u := u) (v := v) (y := x.q.den) (z := y.q.den) (k := 0) (m := m) (by omega)
 have hR := fun u v M0 I0 => qY (X := X) (w0 := w0) (M0 := M0) (I0 := I0) (u := u) (v := v) (n := x.q.num * y.q.num) (d := x.q.den * y.q.den) (k := 0 + m) (by omega) (qR _ _)
 rw [← yF] at hR
 repeat (refine aJ ?_)
 (repeat refine aL ?_); refine dJ (.blk b2 (eR y) 37 :: .blk b1 (eR x) 37 :: M0) (I0) [0, 1, 2, 3, 5, 6, 7, 8, 4, 9, 10, 11] [3, 2, 3, 2, 3, 2, 3, 2, 0, 0, 0, 0] aD aF mixed (by kernel_rfl) ?_
 repeat (refine aJ ?_)
 (refine aA rfl (hM1 _ _ _ _ aC aC) rfl rfl ?_; rintro _ _ _ ⟨rfl, rfl⟩; refine ⟨okF, ?_⟩)
 (refine aA rfl (hM3 _ _ _ _ aC aC) rfl rfl ?_; rintro _ _ _ ⟨rfl, rfl⟩; refine ⟨okF, ?_⟩)
 (refine aA rfl (hR _ _ _ _ aC aC) rfl rfl ?_; rintro _ _ _ ⟨rfl, e, rfl, he, rfl⟩; refine ⟨okF, ?_⟩)
 repeat (refine aJ ?_)
 refine bJ (φ := bM e m) (Hv.q (k := 0 + m) aC (by omega)) ?_
 refine bK (cs := eR e) (.inl rfl) rfl rfl aC rfl M0 (bM e m :: I0) aD aF ⟨rfl, e, rfl, by rw [he, hx]; exact Rat.zero_mul _, rfl⟩
theorem aPF {α : Type} [Inhabited α] {n : Nat} {a : α} {i : Nat} (h : i < n) : gt (List.replicate n a) (i : Int) = a := by
 rw [fH (by simpa using h)]; simp
theorem aEQ {p : Option Addr} {κ : RE} {c m n : Nat} (hn : n ≤ 100) (hkm : m ≤ 400000000000) (hx : bI p (recs eW (List.replicate n zW)) ∈ I0) (hκ : Hv I0 (bM κ m)) :
  CD Tryz.prog 51 [.slice p n c, rv κ] X w0 M0 I0 (LQ (List.replicate n 0) m M0 I0) := by
 have hl : (List.replicate n zW).length = n := List.length_replicate
 refine eD (φ := bM κ m) hκ ?_
 refine bE Tryz.func51 rfl Tryz.ntmps51 rfl ?_
 refine aL ?_
 refine aM ?_
 (refine aR rfl rfl rfl ?_; intro b3; refine ⟨okF, ?_⟩)
 repeat (refine aJ ?_)
 (refine aCI n rfl rfl (by omega) (by omega) (by omega) rfl rfl ?_; intro b; refine ⟨okF, ?_⟩)
 refine fI (φ := fE [] m) Hv.nilR ?_
 repeat (refine aJ ?_)
 refine bG [3, 11, 12] rfl (fun k G M I => ∃ (i : Nat) (es : List RE) (q : Option Addr) (c : Nat), i ≤ n ∧ k = n - i ∧ es.length = i ∧ qs es = List.replicate i 0 ∧ G = [(5, .slice q es.length c), (13, .int .i64 i)] ∧ M = .row q es.length c (recs eR es) 37 4 :: .blk b3 (eR κ) 37 :: M0 ∧ I = fE es m :: bM κ m :: I0) (n) _ _ _ aO aD aF (⟨0, [], _, _, by omega, rfl, rfl, rfl, rfl, rfl, rfl⟩) ?_
 rintro kk G M I ⟨i, es, q, c, hi, rfl, hel, heq, rfl, rfl, rfl⟩
 by_cases hin : i < n
 ·have hM := fun M0 I0 h2 => aLI (X := X) (w0 := w0) (M0 := M0) (I0 := I0) (b := κ) (m := m) (by omega) h2
  have hgz : eW (gt (List.replicate n zW) (i : Int)) = eW zW := by rw [aPF hin]
  repeat (refine aJ ?_)
  rw [hgz]
  (refine aB rfl rfl ?_; intro b7; refine ⟨okF, ?_⟩)
  repeat (refine aJ ?_)
  (refine aA rfl (hM _ _ aC) rfl rfl ?_; rintro _ _ _ ⟨rfl, e, rfl, he, rfl⟩; refine ⟨okF, ?_⟩)
  (refine bO (cs := recs eR [e]) ([rv e]) rfl rfl (by intro v hv; repeat (first | exact absurd hv (List.not_mem_nil) | (rcases List.mem_cons.1 hv with rfl | hv; · rfl))) (by omega) rfl rfl rfl ?_; intro b; refine ⟨okF, ?_⟩)
  (refine eQ (ys := [e]) 2 rfl rfl rfl ?_ (by decide) rfl (by omega) (by omega) rfl rfl ?_; (· first | exact Src.blk aC | exact Src.row aC | exact Src.imm aC (by first | assumption | exact .inl (Ok.mk _ _))); intro q2 c2; refine ⟨okF, ?_⟩)
  repeat (refine aJ ?_)
  refine bJ (φ := fE (es ++ [e]) m) (Hv.snoc aC aC) ?_
  refine aS (n - (i + 1)) _ _ _ (by first | omega | (simp only [List.length_append, List.length_cons, List.length_nil]; omega)) aO aD aF (⟨i + 1, es ++ [e], q2, c2, by omega, rfl, by simp; omega, ?_, rfl, rfl, rfl⟩)
  rw [List.replicate_succ', ← heq]
  show (es ++ [e]).map RE.q = qs es ++ [0]
  rw [List.map_append, ← he]
  rfl
 ·obtain rfl : i = n := by omega
  repeat (refine aJ ?_)
  refine aBO (k := m) aC ?_
  refine aQ (by first | exact .inl rfl | exact .inr rfl) rfl rfl _ _ aD aF (⟨rfl, ⟨q, c, es⟩, rfl, heq, rfl⟩)
end
end Go.Proofs.YtkccjglmnhgabaaGreat
namespace Go.Fx
open Go
section
variable {P : Program} {n : Nat} {G : Env}
theorem nN {C : World → Prop} {ty t e : TypeId} {sz : Nat} {x y1 y2 y3 : Operand} {a : Option Addr} {len c : Nat} {k1 k2 k3 : IntKind} {i1 i2 i3 : Int} (l h m k d : Nat) [ht : SliceTy P t e sz] (hx : ev G x = some (.slice a len c)) (g1 : ev G y1 = some (.int k1 i1)) (g2 : ev G y2 = some (.int k2 i2)) (g3 : ev G y3 = some (.int k3 i3))
  (e1 : i1 = (l : Int)) (e2 : i2 = (h : Int)) (e3 : i3 = (m : Int)) (h1 : l ≤ h) (h2 : h ≤ m) (h3 : m ≤ c) (hk : h - l = k) (hd : m - l = d) :
  Const P n G (.slice t x (some y1) (some y2) (some y3)) ty C (.slice (uB a m l sz) k d) := by
 subst e1; subst e2; subst e3; subst hk; subst hd
 refine ⟨?_⟩
 intro st ha dst pos after guard w _
 simp [execOp, Instr.sliceAt, Instr.slice, ha.ev hx, fF ht.und, run_sizeOf ht.size, Instr.sliceBounds, Instr.sliceBound, asIntOf, ha.ev g1, ha.ev g2, ha.ev g3, h1, h2, h3, uB]
end
end Go.Fx
namespace Go.Proofs.YtkccjglmnhgabaaGreat
open Go Go.Fx
def RL.part (r : RL) (l m : Nat) : RL := ⟨uB r.p m l 4, m - l, (r.es.take m).drop l⟩
theorem Hv.part {I : List aZ} {r : RL} {k l m : Nat} (h : iY r k ∈ I) (hm : m ≤ r.es.length) (hlm : l < m) : Hv I (iY (r.part l m) k) := ⟨fun X w hw => by
 have hr := (hw _ h : IsL r k X w)
 have hc := hr.cap.1
 refine ⟨?_, fun e he => hr.el e (List.mem_of_mem_take (List.mem_of_mem_drop he)), ?_, ?_⟩
 ·have h4 : Sl X w r.p ((recs eR r.es).take (m * 4)) := hr.sl.take _
  have hl : ((recs eR r.es).take (m * 4)).length ≤ m * 4 := by rw [List.length_take]; omega
  have := h4.cut m l (m * 4) 4 hl
  rw [List.take_take, Nat.min_self] at this
  show Sl X w (uB r.p m l 4) (recs eR ((r.es.take m).drop l))
  rw [wW, wV]; exact this
 ·show ((r.es.take m).drop l).length ≤ m - l
  rw [List.length_drop, List.length_take]; omega
 ·rcases hr.cap.2 with h | ⟨h1, h2⟩
  ·exact .inl (aLN h)
  ·omega⟩
theorem RL.part_q {r : RL} {l m : Nat} : (r.part l m).q = (r.q.take m).drop l := by
 show qs ((r.es.take m).drop l) = ((qs r.es).take m).drop l
 simp [qs, List.map_drop, List.map_take]
def pt4 (w : List Rat) : List Rat := w ++ [1]
def z4q : List Rat := List.replicate 4 0
def eqU (w : List Rat) (x : Rat) : List Rat := pt4 w ++ (z4q ++ (List.range 4).map (fun i => (pt4 w).getD i 0 * -x))
def eqV (w : List Rat) (y : Rat) : List Rat := z4q ++ (pt4 w ++ (List.range 4).map (fun i => (pt4 w).getD i 0 * -y))
def eqs (W : Nat → List Rat) (P : Nat → V2) : Nat → Mt
 | 0 => []
 | n + 1 => eqs W P n ++ [eqU (W n) (P n).x, eqV (W n) (P n).y]
theorem aBU (W : Nat → List Rat) (P : Nat → V2) (n : Nat) : (eqs W P n).length = 2 * n := by
 induction n with
 | zero => rfl
 | succ n ih => simp only [eqs, List.length_append, ih, List.length_cons, List.length_nil]; omega
theorem aGI {W : Nat → List Rat} {P : Nat → V2} {n : Nat} (hW : ∀ i, i < n → (W i).length = 3) : ∀ r ∈ eqs W P n, r.length = 12 := by
 induction n with
 | zero => intro r hr; simp [eqs] at hr
 | succ n ih =>
  intro r hr
  simp only [eqs, List.mem_append, List.mem_cons, List.not_mem_nil, or_false] at hr
  rcases hr with hr | rfl | rfl
  ·exact ih (fun i hi => hW i (by omega)) r hr
  ·simp [eqU, pt4, z4q, hW n (by omega)]
  ·simp [eqV, pt4, z4q, hW n (by omega)]
def lead (l : List Rat) : Rat := (l.find? (fun x => x ≠ 0)).getD 0
def scl (l : List Rat) : List Rat := l.map (fun x => x / lead l)
theorem aIV {l : List Rat} (h : ∀ x ∈ l, x = 0) : lead l = 0 := by
 unfold lead
 rw [List.find?_eq_none.2 (fun x hx => by simp [h x hx])]; rfl
theorem aLF {l : List Rat} (h : ∀ x ∈ l, x = 0) : scl l = l := by
 unfold scl
 rw [aIV h]
 exact (List.map_congr_left (fun x hx => by rw [h x hx]; exact Rat.div_def _ _ |>.trans (Rat.zero_mul _))).trans (List.map_id _)
theorem aOC {l : List Rat} {i : Nat} (hi : i < l.length) (h0 : ∀ j, j < i → l.getD j 0 = 0) (h : l.getD i 0 ≠ 0) : lead l = l.getD i 0 := by
 induction l generalizing i with
 | nil => simp at hi
 | cons a l ih =>
  unfold lead
  cases i with
  | zero =>
   have ha : a ≠ 0 := by simpa [List.getD] using h
   simp [List.find?, ha, List.getD]
  | succ i =>
   have ha : a = 0 := by simpa [List.getD] using h0 0 (by omega)
   have := ih (i := i) (by simpa using hi) (fun j hj => by simpa [List.getD] using h0 (j + 1) (by omega)) (by simpa [List.getD] using h)
   unfold lead at this
   simp only [List.find?, ha]
   simpa [List.getD] using this
def thr (l : List Rat) : Mt := [(l.take 4).drop 0, (l.take 8).drop 4, (l.take 12).drop 8]
end Go.Proofs.YtkccjglmnhgabaaGreat

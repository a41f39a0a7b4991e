/- Matrices that the document builds and then writes into: rows with room behind them. The document's unit matrix, copy, sum, product, transposed matrix. The document's product, transposed matrix, product with a list. Equality of lists and matrices; matrices of integers; the chapter's example. Matrices of integers; the chapter's example. The chapter's example. -/
import Derived.Test.YtjbhdfpjnjedhaaGreatZpbc
import Derived.Test.YtjbhdfpjnjedhaaGreatZpbf
import Derived.Test.YtjbhdfpjnjedhaaGreatZpan
import Derived.Test.YtjbhdfpjnjedhaaGreatZpbe
set_option linter.unusedSimpArgs false
set_option linter.unusedVariables false
set_option maxRecDepth 100000
set_option maxHeartbeats 4000000
namespace Go.Proofs.YtjbhdfpjnjedhaaGreat
open Go Go.Fx
structure MS where
 b : Nat
 c : Nat
 es : List RE
 tl : List Value
instance : Inhabited MS := ⟨⟨0, 0, [], []⟩⟩
abbrev eS (r : MS) : List Value := [.slice (some ⟨r.b, 0, none⟩) r.es.length r.c]
instance : Sized eS 1 := ⟨fun _ => rfl⟩
instance : Ones eS := ⟨fun m u hu => by simp only [eS, List.mem_cons, List.not_mem_nil, or_false] at hu; subst hu; rfl⟩
abbrev nC (r : MS) : Ent := .blk r.b (recs eR r.es ++ r.tl) 50
structure AllS (rows : List MS) (k : Nat) (X : List Nat) (w : World) : Prop where
 go : ∀ r ∈ rows, ∀ e ∈ r.es, IsR e k X w
abbrev qW (rows : List MS) (k : Nat) : aY := AllS rows k
instance (rows : List MS) (k : Nat) : Fx.Good (AllS rows k) := ⟨fun X Y w w' h he hY => ⟨fun r hr e hm => Fx.Good.go (φ := IsR _ _) X Y w w' (h.go r hr e hm) he hY⟩⟩
theorem Hv.nilS {I : List aY} {k : Nat} : Hv I (qW [] k) := ⟨fun X w _ => ⟨fun x hx => by simp at hx⟩⟩
theorem Hv.snocS {I : List aY} {rows : List MS} {r : MS} {k : Nat} (h1 : qW rows k ∈ I) (h2 : Hv I (cO r.es k)) : Hv I (qW (rows ++ [r]) k) := ⟨fun X w hw => ⟨fun x hx => by
 rcases List.mem_append.1 hx with hx | hx
 ·exact (hw _ h1 : AllS rows k X w).go x hx
 ·rw [List.mem_singleton.1 hx]; exact (h2.go X w hw).go⟩⟩
theorem Hv.monoS {I : List aY} {rows : List MS} {k m : Nat} (h : qW rows k ∈ I) (hk : k ≤ m) : Hv I (qW rows m) := ⟨fun X w hw => ⟨fun r hr e he => ((hw _ h : AllS rows k X w).go r hr e he).mono hk⟩⟩
def Pw (rows : List MS) (R C : Nat) (V : Nat → Nat → Rat) : Prop := ∀ i j : Nat, i < R → j < C → (gt (gt rows (i : Int)).es (j : Int)).q = V i j
structure Shp (rows : List MS) (R C : Nat) : Prop where
 len : rows.length = R
 col : ∀ r ∈ rows, r.es.length = C ∧ C ≤ r.c
abbrev upR (r : MS) (j : Nat) (e : RE) : MS := ⟨r.b, r.c, st r.es (j : Int) e, r.tl⟩
def upS (rows : List MS) (i j : Nat) (e : RE) : List MS := rows.set i ⟨(gt rows (i : Int)).b, (gt rows (i : Int)).c, st (gt rows (i : Int)).es (j : Int) e, (gt rows (i : Int)).tl⟩
theorem aSC {rows : List MS} {i j : Nat} {e : RE} : rows.set i (upR (gt rows (i : Int)) j e) = upS rows i j e := rfl
theorem Shp.row {rows : List MS} {R C : Nat} (h : Shp rows R C) {i : Nat} (hi : i < R) : (gt rows (i : Int)).es.length = C := (h.col _ (dF (by have := h.len; omega))).1
theorem Shp.up {rows : List MS} {R C i j : Nat} {e : RE} (h : Shp rows R C) (hi : i < R) : Shp (upS rows i j e) R C := ⟨by unfold upS; rw [List.length_set]; exact h.len, fun r hr => by
 rcases List.mem_or_eq_of_mem_set hr with hr | hr
 ·exact h.col r hr
 ·subst hr
  have := h.col _ (dF (ms := rows) (i := (i : Int)) (by have := h.len; omega))
  exact ⟨by show (st _ _ _).length = C; rw [eQ]; exact this.1, this.2⟩⟩
theorem aWE {rows : List MS} {R C i j t : Nat} {e : RE} (h : Shp rows R C) (hi : i < R) (ht : t < R) : gt (upS rows i j e) (t : Int) = if t = i then ⟨(gt rows (i : Int)).b, (gt rows (i : Int)).c, st (gt rows (i : Int)).es (j : Int) e, (gt rows (i : Int)).tl⟩ else gt rows (t : Int) := by
 have hl := h.len
 unfold upS
 rw [fB (by rw [List.length_set]; omega)]
 by_cases e1 : t = i
 ·subst e1; simp
 ·rw [List.getElem_set_ne (fun e => e1 e.symm), if_neg e1]
  exact (fB (by omega)).symm
theorem Pw.up {rows : List MS} {R C i j : Nat} {e : RE} {V V' : Nat → Nat → Rat} (hp : Pw rows R C V) (h : Shp rows R C) (hi : i < R) (hj : j < C) (hV : ∀ a b, a < R → b < C → V' a b = if a = i ∧ b = j then e.q else V a b) : Pw (upS rows i j e) R C V' := fun a b ha hb => by
 rw [aWE h hi ha, hV a b ha hb]
 by_cases e1 : a = i
 ·subst e1
  rw [if_pos rfl]
  show (gt (st (gt rows (a : Int)).es (j : Int) e) (b : Int)).q = _
  rw [aAK (by rw [h.row ha]; exact hj)]
  by_cases e2 : b = j
  ·rw [if_pos e2, if_pos ⟨rfl, e2⟩]
  ·rw [if_neg e2, if_neg (fun x => e2 x.2)]; exact hp a b ha hb
 ·rw [if_neg e1, if_neg (fun x => e1 x.1)]; exact hp a b ha hb
theorem aOQ {rows : List MS} {R C i j : Nat} {e : RE} (h : Shp rows R C) (hi : i < R) : recs eS (upS rows i j e) = recs eS rows := by
 have hl := h.len
 unfold upS
 rw [← oJ (enc := eS) rows i _ (by omega)]
 have e1 : eS ⟨(gt rows (i : Int)).b, (gt rows (i : Int)).c, st (gt rows (i : Int)).es (j : Int) e, (gt rows (i : Int)).tl⟩ = eS (gt rows (i : Int)) := by simp [eS, eQ]
 rw [e1, oJ (enc := eS) rows i _ (by omega), fB (by omega), List.set_getElem_self]
theorem Hv.upS {I : List aY} {rows : List MS} {R C i j k : Nat} {e : RE} (h : Shp rows R C) (hi : i < R) (h1 : qW rows k ∈ I) (h2 : bS e k ∈ I) : Hv I (qW (upS rows i j e) k) := ⟨fun X w hw => ⟨fun r hr x hx => by
 have ha := (hw _ h1 : AllS rows k X w).go
 rcases List.mem_or_eq_of_mem_set hr with hr | hr
 ·exact ha r hr x hx
 ·subst hr
  rcases List.mem_or_eq_of_mem_set hx with hx | hx
  ·exact ha _ (dF (by have := h.len; omega)) x hx
  ·rw [hx]; exact hw _ h2⟩⟩
theorem aUZ {M1 : List Ent} {r' : MS} : ∀ {rows : List MS} {i : Nat} (h : i < rows.length), Rep (nC rows[i]) (nC r') (rows.map nC ++ M1) ((rows.set i r').map nC ++ M1)
 | [], _, h => by simp at h
 | x :: r, 0, _ => .here
 | x :: r, i + 1, h => .there (aUZ (rows := r) (i := i) (by simpa using h))
theorem repS {M1 : List Ent} {r' : MS} {rows : List MS} {i : Nat} (h : i < rows.length) {A : Ent} : Rep (nC (gt rows (i : Int))) (nC r') (A :: (rows.map nC ++ M1)) (A :: ((rows.set i r').map nC ++ M1)) := by
 rw [fB h]
 exact .there (aUZ h)
theorem repS2 {M1 : List Ent} {r' : MS} {rows : List MS} {i : Nat} (h : i < rows.length) {A B : Ent} : Rep (nC (gt rows (i : Int))) (nC r') (A :: B :: (rows.map nC ++ M1)) (A :: B :: ((rows.set i r').map nC ++ M1)) := .there (repS h)
def MsP (R C : Nat) (V : Nat → Nat → Rat) (k : Nat) (M0 : List Ent) (I0 : List aY) (v : Value) (M : List Ent) (I : List aY) : Prop :=
 ∃ (bo co : Nat) (tlo : List Value) (rows : List MS), v = .slice (some ⟨bo, 0, none⟩) R co ∧ R ≤ co ∧ Shp rows R C ∧ Pw rows R C V ∧ M = .blk bo (recs eS rows ++ tlo) 53 :: (rows.map nC ++ M0) ∧ I = qW rows k :: I0
def MS.l (r : MS) : RL := ⟨some ⟨r.b, 0, none⟩, r.c, r.es⟩
def MS.x (bo co : Nat) (rows : List MS) : MX := ⟨some ⟨bo, 0, none⟩, co, rows.map MS.l⟩
theorem aTS (rows : List MS) : recs eL (rows.map MS.l) = recs eS rows := by
 induction rows with
 | nil => rfl
 | cons x r ih =>
  have h1 : recs eL ((x :: r).map MS.l) = eL x.l ++ recs eL (r.map MS.l) := rfl
  have h2 : recs eS (x :: r) = eS x ++ recs eS r := rfl
  rw [h1, h2, ih]; rfl
theorem aPL {X : List Nat} {w : World} {a : Option Addr} {cs tl : List Value} (h : Sl X w a (cs ++ tl)) : Sl X w a cs := by
 have := h.take cs.length
 rwa [List.take_left'] at this
 rfl
theorem wD {X : List Nat} {w0 w : World} {k : Nat} : ∀ {rows : List MS} {M : List Ent} {I : List aY}, Mem X w0 (rows.map nC ++ M) I w → (∀ r ∈ rows, r.es.length ≤ r.c) → (∀ r ∈ rows, AllR r.es k (muts (rows.map nC ++ M)) w) → ∃ I', (∀ φ ∈ I, φ ∈ I') ∧ (∀ r ∈ rows, iZ r.l k ∈ I') ∧ Mem X w0 M I' w
 | [], M, I, h, _, _ => ⟨I, fun _ h => h, fun r hr => by simp at hr, h⟩
 | r :: rows, M, I, h, hc, ha => by
  have h1 : Mem X w0 (rows.map nC ++ M) (aO (some ⟨r.b, 0, none⟩) (recs eR r.es ++ r.tl) :: I) w := h.freezeB .here
  have hsub : ∀ y ∈ muts (rows.map nC ++ M), y ∈ muts ((r :: rows).map nC ++ M) := fun y hy => by simp [muts] at hy ⊢; right; exact hy
  have h2 : IsL r.l k (muts (rows.map nC ++ M)) w := by
   refine ⟨aPL (h1.sl (List.Mem.head _)), fun e he => ?_, hc r (List.Mem.head _), .inl (Ok.mk _ _)⟩
   exact Fx.Good.go (φ := IsR _ _) _ _ w w ((ha r (List.Mem.head _)).go e he) (Ext.refl _ _) (fun y hy => .inl (hsub y hy))
  obtain ⟨I', i1, i2, i3⟩ := wD (h1.add (φ := iZ r.l k) h2) (fun s hs => hc s (List.Mem.tail _ hs)) (fun s hs => ⟨fun e he => Fx.Good.go (φ := IsR _ _) _ _ w w ((ha s (List.Mem.tail _ hs)).go e he) (Ext.refl _ _) (fun y hy => .inl (hsub y hy))⟩)
  refine ⟨I', fun φ hφ => i1 φ (List.Mem.tail _ (List.Mem.tail _ hφ)), fun s hs => ?_, i3⟩
  rcases List.mem_cons.1 hs with rfl | hs
  ·exact i1 _ (List.Mem.head _)
  ·exact i2 s hs
theorem aQW {X : List Nat} {w0 w : World} {k bo co : Nat} {tlo : List Value} {rows : List MS} {M : List Ent} {I : List aY} (h : Mem X w0 (.blk bo (recs eS rows ++ tlo) 53 :: (rows.map nC ++ M)) I w) (hc : ∀ r ∈ rows, r.es.length ≤ r.c) (hco : rows.length ≤ co) (ha : qW rows k ∈ I) : Mem X w0 M (jF (MS.x bo co rows) k :: I) w := by
 have h0 : Mem X w0 (rows.map nC ++ M) (aO (some ⟨bo, 0, none⟩) (recs eS rows ++ tlo) :: I) w := h.freezeB .here
 obtain ⟨I', i1, i2, i3⟩ := wD (k := k) h0 hc (fun r hr => ⟨fun e he => ((h0.imm _ (List.Mem.tail _ ha)).2 : AllS rows k _ w).go r hr e he⟩)
 have h3 : IsX (MS.x bo co rows) k (muts M) w := by
  refine ⟨?_, fun r hr => ?_, ?_⟩
  ·rw [show (MS.x bo co rows).rows = rows.map MS.l from rfl, aTS]; exact aPL (i3.sl (i1 _ (List.Mem.head _)))
  ·obtain ⟨s, hs, rfl⟩ := List.mem_map.1 hr
   exact (i3.imm _ (i2 s hs)).2
  ·show Cap (some ⟨bo, 0, none⟩) (rows.map MS.l).length co
   rw [List.length_map]; exact ⟨hco, .inl (Ok.mk _ _)⟩
 exact (i3.add (φ := jF (MS.x bo co rows) k) h3).inc (.of fun φ hφ => by
  rcases List.mem_cons.1 hφ with rfl | hφ
  ·exact List.Mem.head _
  ·exact List.Mem.tail _ (i1 _ (List.Mem.tail _ hφ)))
theorem q_xs {rows : List MS} {R C bo co : Nat} {V : Nat → Nat → Rat} (h : Shp rows R C) (hp : Pw rows R C V) : (MS.x bo co rows).q = xW R C V ∧ (MS.x bo co rows).dim R C := by
 have hd : (MS.x bo co rows).dim R C := ⟨by show (rows.map MS.l).length = R; rw [List.length_map]; exact h.len, fun r hr => by
  obtain ⟨s, hs, rfl⟩ := List.mem_map.1 hr
  exact (h.col s hs).1⟩
 refine ⟨?_, hd⟩
 rw [hd.mk]
 refine aDN (fun i j hi hj => ?_)
 have hl := hd.1
 have hg : gt (MS.x bo co rows).rows (i : Int) = (gt rows (i : Int)).l := aFI (by have := h.len; omega)
 rw [rF (by omega) (by rw [hg]; show j < (gt rows (i : Int)).es.length; rw [h.row hi]; exact hj), hg]
 exact hp i j hi hj
theorem CD_ms {f : FuncId} {vs : List Value} {X : List Nat} {w0 : World} {M0 : List Ent} {I0 : List aY} {R C k : Nat} {V : Nat → Nat → Rat} (h : CD Tryz.prog f vs X w0 M0 I0 (MsP R C V k M0 I0)) : CD Tryz.prog f vs X w0 M0 I0 (XQ (xW R C V) R C k M0 I0) := by
 refine CD.post h (fun v M I w h hw => ?_)
 obtain ⟨bo, co, tlo, rows, rfl, hco, hs, hp, rfl, rfl⟩ := h
 obtain ⟨hq, hd⟩ := q_xs (bo := bo) (co := co) hs hp
 refine ⟨M0, jF (MS.x bo co rows) k :: I0, ⟨rfl, MS.x bo co rows, ?_, hq, hd, rfl⟩, (aQW (co := co) (k := k) hw (fun r hr => by have := hs.col r hr; omega) (by have := hs.len; omega) (List.Mem.head _)).inc (.of fun φ hφ => by
  rcases List.mem_cons.1 hφ with rfl | hφ
  ·exact List.Mem.head _
  ·exact List.Mem.tail _ (List.Mem.tail _ hφ))⟩
 have e1 := hd.1
 show _ = Value.slice (MS.x bo co rows).p (MS.x bo co rows).rows.length (MS.x bo co rows).c
 rw [e1]; rfl
section
variable {X : List Nat} {w0 : World} {M0 : List Ent} {I0 : List aY}
theorem aPN {R C : Nat} (hR : 1 ≤ R ∧ R ≤ 100) (hC : 1 ≤ C ∧ C ≤ 100) : CD Tryz.prog 99 [.int .i64 (R : Int), .int .i64 (C : Int)] X w0 M0 I0 (MsP R C (fun _ _ => 0) 0 M0 I0) := by
 have hW := fun M0 I0 => tT (X := X) (w0 := w0) (M0 := M0) (I0 := I0) (x := 0) (by decide)
 refine aX Tryz.func99 rfl Tryz.ntmps99 rfl ?_
 repeat (refine aK ?_)
 (refine aQ (cs := recs eS []) ([]) rfl rfl (by intro v hv; repeat (first | exact absurd hv (List.not_mem_nil) | (rcases List.mem_cons.1 hv with rfl | hv; · rfl))) (by omega) rfl rfl rfl ?_; intro bo; refine ⟨okF, ?_⟩; refine jI (mm := 0) 1 .here rfl (by omega) ?_)
 repeat (refine aK ?_)
 refine iB (φ := qW [] 0) Hv.nilS ?_
 refine aT [0, 1] rfl (fun k G M I => ∃ (i : Nat) (rows : List MS) (q : Option Addr) (c : Nat), i ≤ R ∧ k = R - i ∧ Shp rows i C ∧ Pw rows i C (fun _ _ => 0) ∧ G = [(5, .slice q rows.length c), (6, .int .i64 i)] ∧ M = .row q rows.length c (recs eS rows) 53 1 :: (rows.map nC ++ M0) ∧ I = qW rows 0 :: I0) (R) _ _ _ aP aD aC (⟨0, [], _, _, by omega, rfl, ⟨rfl, fun r hr => by simp at hr⟩, fun i j hi => by omega, rfl, rfl, rfl⟩) ?_
 rintro kk G M I ⟨i, rows, q, c, hi, rfl, hs, hp, rfl, rfl, rfl⟩
 have hlen := hs.len
 by_cases hiR : i < R
 ·repeat (refine aK ?_)
  (refine aQ (cs := recs eR []) ([]) rfl rfl (by intro v hv; repeat (first | exact absurd hv (List.not_mem_nil) | (rcases List.mem_cons.1 hv with rfl | hv; · rfl))) (by omega) rfl rfl rfl ?_; intro bl; refine ⟨okF, ?_⟩; refine jI (mm := 0) 4 .here rfl (by omega) ?_)
  repeat (refine aK ?_)
  refine iB (φ := cO [] 0) Hv.nilR ?_
  refine aT [0, 1, 5, 6] rfl (fun k G M I => ∃ (j : Nat) (es : List RE) (ql : Option Addr) (cl : Nat), j ≤ C ∧ k = C - j ∧ es.length = j ∧ (∀ e ∈ es, e.q = 0) ∧ G = [(7, .slice ql es.length cl), (8, .int .i64 j)] ∧ M = .row ql es.length cl (recs eR es) 50 4 :: .row q rows.length c (recs eS rows) 53 1 :: (rows.map nC ++ M0) ∧ I = cO es 0 :: qW rows 0 :: I0) (C) _ _ _ aP aD aC (⟨0, [], _, _, by omega, rfl, rfl, by simp, rfl, rfl, rfl⟩) ?_
  rintro kk G M I ⟨j, es, ql, cl, hj, rfl, hel, heq, rfl, rfl, rfl⟩
  by_cases hjC : j < C
  ·repeat (refine aK ?_)
   (refine aA rfl (hW _ _) rfl rfl ?_; rintro _ _ _ ⟨rfl, e, rfl, he, rfl⟩; refine ⟨okF, ?_⟩)
   (refine aQ (cs := recs eR [e]) ([rv e]) rfl rfl (by intro v hv; repeat (first | exact absurd hv (List.not_mem_nil) | (rcases List.mem_cons.1 hv with rfl | hv; · rfl))) (by omega) rfl rfl rfl ?_; intro b; refine ⟨okF, ?_⟩)
   (refine dI (ys := [e]) 1 rfl rfl rfl ?_ (by decide) rfl (by omega) (by omega) rfl rfl ?_; (· first | exact Src.blk aB | exact Src.row aB | exact Src.imm aB (by first | assumption | exact .inl (Ok.mk _ _))); intro q2 c2; refine ⟨okF, ?_⟩)
   repeat (refine aK ?_)
   refine gV (φ := cO (es ++ [e]) 0) (Hv.snoc aB aB) ?_
   refine aL (C - (j + 1)) _ _ _ (by first | omega | (simp only [List.length_append, List.length_cons, List.length_nil]; omega)) aP aD aC (⟨j + 1, es ++ [e], q2, c2, by omega, rfl, by simp; omega, fun x hx => ?_, rfl, rfl, rfl⟩)
   rcases List.mem_append.1 hx with h | h
   ·exact heq x h
   ·rw [List.mem_singleton.1 h, he]; rfl
  ·obtain rfl : j = C := by omega
   repeat (refine aK ?_)
   refine aCY (fun h0 h1 h2 => by omega) (fun b tl h1 h2 => ?_)
   subst h1
   (refine aQ (cs := recs eS [(⟨b, cl, es, tl⟩ : MS)]) ([.slice (some ⟨b, 0, none⟩) es.length cl]) rfl rfl (by intro v hv; repeat (first | exact absurd hv (List.not_mem_nil) | (rcases List.mem_cons.1 hv with rfl | hv; · rfl))) (by omega) rfl rfl rfl ?_; intro bb; refine ⟨okF, ?_⟩)
   (refine dI (ys := [(⟨b, cl, es, tl⟩ : MS)]) 2 rfl rfl rfl ?_ (by decide) rfl (by omega) (by omega) rfl rfl ?_; (· first | exact Src.blk aB | exact Src.row aB | exact Src.imm aB (by first | assumption | exact .inl (Ok.mk _ _))); intro q2 c2; refine ⟨okF, ?_⟩)
   repeat (refine aK ?_)
   refine gV (φ := qW (rows ++ [(⟨b, cl, es, tl⟩ : MS)]) 0) (Hv.snocS aB (Hv.mem aB)) ?_
   refine gZ (M' := .blk b (recs eR es ++ tl) 50 :: .row q2 (rows ++ [(⟨b, cl, es, tl⟩ : MS)]).length c2 (recs eS (rows ++ [(⟨b, cl, es, tl⟩ : MS)])) 53 1 :: (rows.map nC ++ M0)) (I' := qW (rows ++ [(⟨b, cl, es, tl⟩ : MS)]) 0 :: I0) (SubP.drop SubP.refl) aC ?_
   refine uD (M' := .row q2 (rows ++ [(⟨b, cl, es, tl⟩ : MS)]).length c2 (recs eS (rows ++ [(⟨b, cl, es, tl⟩ : MS)])) 53 1 :: ((rows ++ [(⟨b, cl, es, tl⟩ : MS)]).map nC ++ M0)) (by rw [List.map_append (f := nC)]; exact aCZ) ?_
   refine aL (R - (i + 1)) _ _ _ (by first | omega | (simp only [List.length_append, List.length_cons, List.length_nil]; omega)) aP aD aC (⟨i + 1, rows ++ [(⟨b, cl, es, tl⟩ : MS)], q2, c2, by omega, rfl, ⟨by simp [hlen], fun r hr => ?_⟩, fun i' j' h1' h2' => ?_, rfl, rfl, rfl⟩)
   ·rcases List.mem_append.1 hr with h | h
    ·exact hs.col r h
    ·rw [List.mem_singleton.1 h]; exact ⟨hel, by show j ≤ cl; omega⟩
   ·by_cases e1 : i' < i
    ·have : gt (rows ++ [(⟨b, cl, es, tl⟩ : MS)]) (i' : Int) = gt rows (i' : Int) := by rw [fB (by simp; omega), fB (by omega), List.getElem_append_left (by omega)]
     rw [this]; exact hp i' j' e1 h2'
    ·have : gt (rows ++ [(⟨b, cl, es, tl⟩ : MS)]) (i' : Int) = ⟨b, cl, es, tl⟩ := aBZ (A := rows) (B := []) (by omega)
     rw [this]
     exact heq _ (dF (by show (0 : Int) ≤ _ ∧ _ < (es.length : Int); omega))
 ·obtain rfl : i = R := by omega
  repeat (refine aK ?_)
  refine aLJ (fun h0 h1 h2 => by omega) (fun b tl h1 h2 => ?_)
  subst h1
  refine aH (by first | exact .inl rfl | exact .inr rfl) rfl rfl _ _ aD aC (⟨b, c, tl, rows, by rw [hlen], by omega, hs, hp, rfl, rfl⟩)
end
end Go.Proofs.YtjbhdfpjnjedhaaGreat
namespace Go.Proofs.YtjbhdfpjnjedhaaGreat
open Go Go.Fx
section
variable {X : List Nat} {w0 : World} {M0 : List Ent} {I0 : List aY}
end
end Go.Proofs.YtjbhdfpjnjedhaaGreat
namespace Go.Proofs.YtjbhdfpjnjedhaaGreat
open Go Go.Fx
section
variable {X : List Nat} {w0 : World} {M0 : List Ent} {I0 : List aY}
theorem aNL {a b : MX} {R C D k0 m : Nat} (hk : k0 + m ≤ 20000000000) (hKK : C * (k0 + m + 1) ≤ 50000000000) (hR : 1 ≤ R ∧ R ≤ 64) (hC : 1 ≤ C ∧ C ≤ 64) (hD : 1 ≤ D ∧ D ≤ 64) (da : a.dim R C) (db : b.dim C D) (ha : jF a k0 ∈ I0) (hb : jF b m ∈ I0) :
  CD Tryz.prog 83 [mv a, mv b] X w0 M0 I0 (MsP R D (fun i j => sm C (fun t => at2 a.q i t * at2 b.q t j)) (C * (k0 + m + 1)) M0 I0) := by
 have lR := da.1
 have lC := db.1
 have lD : (gt b.rows 0).es.length = D := db.row (i := 0) (by omega)
 have hW := fun M0 I0 => tT (X := X) (w0 := w0) (M0 := M0) (I0 := I0) (x := 0) (by decide)
 obtain ⟨K, hK⟩ : ∃ K, K = C * (k0 + m + 1) := ⟨_, rfl⟩
 rw [← hK] at hKK ⊢
 refine cZ (φ := aO (a).p (recs eL (a).rows)) (Hv.xsl aB) ?_
 refine cZ (φ := aO (b).p (recs eL (b).rows)) (Hv.xsl aB) ?_
 refine aX Tryz.func83 rfl Tryz.ntmps83 rfl ?_
 repeat (refine aK ?_)
 rw [lR, lD]
 (refine aA rfl (aPN (R := R) (C := D) (by omega) (by omega)) rfl rfl ?_; rintro _ _ _ ⟨bo, co, tlo, rows0, rfl, hco, hs0, hp0, rfl, rfl⟩; refine ⟨okF, ?_⟩)
 repeat (refine aK ?_)
 refine iB (φ := qW rows0 K) (Hv.monoS (k := 0) (List.Mem.head _) (by omega)) ?_
 refine aT [0, 1, 5] rfl (fun k G M I => ∃ (i : Nat) (rows : List MS), i ≤ R ∧ k = R - i ∧ Shp rows R D ∧ Pw rows R D (fun x y => if x < i then sm C (fun t => at2 a.q x t * at2 b.q t y) else 0) ∧ G = [(6, .int .i64 i)] ∧ M = .blk bo (recs eS rows ++ tlo) 53 :: (rows.map nC ++ M0) ∧ I = qW rows K :: aO b.p (recs eL b.rows) :: aO a.p (recs eL a.rows) :: I0) (R) _ _ _ aP aD aC (⟨0, rows0, by omega, rfl, hs0, fun x y hx hy => by (have h_ := hp0 x y hx hy; dsimp only at h_ ⊢; rw [h_, if_neg (by omega)]), rfl, rfl, rfl⟩) ?_
 rintro kk G M I ⟨i, rows, hi, rfl, hs, hp, rfl, rfl, rfl⟩
 by_cases hiR : i < R
 ·have hra := da.row hiR
  refine iB (φ := aO (gt (a).rows (i : Int)).p (recs eR (gt (a).rows (i : Int)).es)) (Hv.xrsl aB (by omega)) ?_
  have hp_ : Pw rows R D (fun x y => if x < i ∨ (x = i ∧ y < 0) then sm C (fun t => at2 a.q x t * at2 b.q t y) else 0) := fun x y hx hy => by
   have h_ := hp x y hx hy
   dsimp only at h_ ⊢
   rw [h_]
   by_cases e : x < i
   ·rw [if_pos e, if_pos (.inl e)]
   ·rw [if_neg e, if_neg (by omega)]
  repeat (refine aK ?_)
  refine aT [0, 1, 5, 6] rfl (fun k G M I => ∃ (j : Nat) (rows : List MS), j ≤ D ∧ k = D - j ∧ Shp rows R D ∧ Pw rows R D (fun x y => if x < i ∨ (x = i ∧ y < j) then sm C (fun t => at2 a.q x t * at2 b.q t y) else 0) ∧ G = [(7, .int .i64 j)] ∧ M = .blk bo (recs eS rows ++ tlo) 53 :: (rows.map nC ++ M0) ∧ I = qW rows K :: aO (gt a.rows (i : Int)).p (recs eR (gt a.rows (i : Int)).es) :: aO b.p (recs eL b.rows) :: aO a.p (recs eL a.rows) :: I0) (D) _ _ _ aP aD aC (⟨0, rows, by omega, rfl, hs, hp_, rfl, rfl, rfl⟩) ?_
  rintro kk G M I ⟨j, rows1, hj, rfl, hs1, hp1, rfl, rfl, rfl⟩
  have hlen := hs1.len
  by_cases hjD : j < D
  ·have hrow := hs1.row hiR
   repeat (refine aK ?_)
   (refine aA rfl (hW _ _) rfl rfl ?_; rintro _ _ _ ⟨rfl, z0, rfl, hz0, rfl⟩; refine ⟨okF, ?_⟩)
   repeat (refine aK ?_)
   (refine aI rfl rfl ?_; intro b8; refine ⟨okF, ?_⟩)
   repeat (refine aK ?_)
   refine aT [0, 1, 5, 6, 7, 8] rfl (fun k G M I => ∃ (t : Nat) (s : RE), t ≤ C ∧ k = C - t ∧ s.q = sm t (fun t => at2 a.q i t * at2 b.q t j) ∧ G = [(9, .int .i64 t)] ∧ M = .blk b8 (eR s) 50 :: .blk bo (recs eS rows1 ++ tlo) 53 :: (rows1.map nC ++ M0) ∧ I = bS s (t * (k0 + m + 1)) :: qW rows1 K :: aO (gt a.rows (i : Int)).p (recs eR (gt a.rows (i : Int)).es) :: aO b.p (recs eL b.rows) :: aO a.p (recs eL a.rows) :: I0) (C) _ _ _ aP aD aC (⟨0, z0, by omega, rfl, hz0, rfl, rfl, by rw [Nat.zero_mul]⟩) ?_
   rintro kk G M I ⟨t, s, ht, rfl, hsq, rfl, rfl, rfl⟩
   have hu : t * (k0 + m + 1) ≤ K := by rw [hK]; exact Nat.mul_le_mul_right _ ht
   by_cases htC : t < C
   ·have hu2 : (t + 1) * (k0 + m + 1) = t * (k0 + m + 1) + (k0 + m) + 1 := by rw [Nat.succ_mul]; omega
    have hrb := db.row htC
    have hat := rF (m := a) (i := i) (j := t) (by omega) (by omega)
    have hat2 := rF (m := b) (i := t) (j := j) (by omega) (by omega)
    refine iB (φ := aO (gt (b).rows (t : Int)).p (recs eR (gt (b).rows (t : Int)).es)) (Hv.xrsl aB (by omega)) ?_
    have hu3 : (t + 1) * (k0 + m + 1) ≤ K := by rw [hK]; exact Nat.mul_le_mul_right _ htC
    generalize t * (k0 + m + 1) = u at *
    repeat (refine aK ?_)
    (repeat refine aG ?_); refine bG 2 [0, 1, 2, 3, 4, 5, 6, 7, 8, 9, 10, 11, 12, 13, 14, 15, 16, 17] [1, 2, 2, 2, 2, 2, 2, 1, 2, 2, 2, 2, 2, 2, 1, 0, 0, 0] mixed (by kernel_rfl) ?_
    repeat (refine aK ?_)
    (refine aA rfl (rA (k := k0) (m := m) (by omega) (Hv.xel aB (by omega) (by omega)) (Hv.xel aB (by omega) (by omega))) rfl rfl ?_; rintro _ _ _ ⟨rfl, e1, rfl, he1, rfl⟩; refine ⟨okF, ?_⟩)
    (refine aA rfl (rG (k := u) (m := k0 + m) (by omega) (Hv.mem aB) (Hv.mem aB)) rfl rfl ?_; rintro _ _ _ ⟨rfl, e2, rfl, he2, rfl⟩; refine ⟨okF, ?_⟩)
    repeat (refine aK ?_)
    rw [← hu2]
    refine aL (C - (t + 1)) _ _ _ (by first | omega | (simp only [List.length_append, List.length_cons, List.length_nil]; omega)) aP aD aC (⟨t + 1, e2, by omega, rfl, ?_, rfl, rfl, rfl⟩)
    simp only [sm]
    rw [he2, he1, hsq, hat, hat2]
   ·obtain rfl : t = C := by omega
    repeat (refine aK ?_)
    (repeat refine aG ?_); refine bG 0 [0, 1, 2, 3, 4, 5, 6, 7] [0, 0, 0, 0, 0, 0, 0, 0] mixed (by kernel_rfl) ?_
    repeat (refine yXh ?_)
    refine iC (vs := eR s) rfl rfl rfl (Ones.one s) (repS2 (rows := rows1) (i := i) (r' := upR (gt rows1 (i : Int)) j s) (by omega)) (StAts.app (StAts.r (enc := eR) (ms := (gt rows1 (i : Int)).es) (i := (j : Int)) s (by omega) rfl)) rfl rfl ⟨okF, ?_⟩
    rw [aSC]
    refine dP (φ := bS s K) (Hv.q (k := t * (k0 + m + 1)) aB hu) ?_
    refine dP (φ := qW (upS rows1 i j s) K) (Hv.upS hs1 hiR aB aB) ?_
    rw [← aOQ (i := i) (j := j) (e := s) hs1 hiR]
    repeat (refine aK ?_)
    refine aL (D - (j + 1)) _ _ _ (by first | omega | (simp only [List.length_append, List.length_cons, List.length_nil]; omega)) aP aD aC (⟨j + 1, upS rows1 i j s, by omega, rfl, hs1.up hiR, hp1.up hs1 hiR hjD (fun x y hx hy => ?_), rfl, rfl, rfl⟩)
    try dsimp only
    by_cases e1 : x = i ∧ y = j
    ·rw [if_pos e1, if_pos (by omega), hsq, e1.1, e1.2]
    ·rw [if_neg e1]
     by_cases e2 : x < i ∨ (x = i ∧ y < j)
     ·rw [if_pos e2, if_pos (by omega)]
     ·rw [if_neg e2, if_neg (by omega)]
  ·obtain rfl : j = D := by omega
   repeat (refine aK ?_)
   refine aL (R - (i + 1)) _ _ _ (by first | omega | (simp only [List.length_append, List.length_cons, List.length_nil]; omega)) aP aD aC (⟨i + 1, rows1, by omega, rfl, hs1, fun x y hx hy => ?_, rfl, rfl, rfl⟩)
   have h_ := hp1 x y hx hy
   dsimp only at h_ ⊢
   rw [h_]
   by_cases e2 : x < i + 1
   ·rw [if_pos e2, if_pos (by omega)]
   ·rw [if_neg e2, if_neg (by omega)]
 ·obtain rfl : i = R := by omega
  repeat (refine aK ?_)
  refine aH (by first | exact .inl rfl | exact .inr rfl) rfl rfl _ _ aD aC (⟨bo, co, tlo, rows, rfl, hco, hs, fun x y hx hy => by (have h_ := hp x y hx hy; dsimp only at h_ ⊢; rw [h_, if_pos hx]), rfl, rfl⟩)
theorem le_kc {C k0 m : Nat} (hC : C ≤ 64) (hk : k0 + m ≤ 700000000) : C * (k0 + m + 1) ≤ 50000000000 := Nat.le_trans (Nat.mul_le_mul hC (show k0 + m + 1 ≤ 700000001 by omega)) (by decide)
theorem aMM {x : RL} {n k0 : Nat} (hn : n ≤ 100) (hl : x.es.length = n) (hx : iZ x k0 ∈ I0) : CD Tryz.prog 97 [lv x] X w0 M0 I0 (XQ (xW n 1 (fun i _ => x.q.getD i 0)) n 1 k0 M0 I0) := by
 refine cZ (φ := aO (x).p (recs eR (x).es)) (Hv.lsl aB) ?_
 refine aZ Tryz.func97 rfl Tryz.ntmps97 rfl ?_
 repeat (refine aK ?_)
 (refine aQ (cs := recs eL []) ([]) rfl rfl (by intro v hv; repeat (first | exact absurd hv (List.not_mem_nil) | (rcases List.mem_cons.1 hv with rfl | hv; · rfl))) (by omega) rfl rfl rfl ?_; intro bo; refine ⟨okF, ?_⟩; refine jI (mm := 0) 1 .here rfl (by omega) ?_)
 repeat (refine aK ?_)
 refine iB (φ := jW [] k0) Hv.nilL ?_
 refine aT [0] rfl (fun k G M I => ∃ (i : Nat) (rs : List RL) (q : Option Addr) (c : Nat), i ≤ n ∧ k = n - i ∧ rs.length = i ∧ (∀ r ∈ rs, r.es.length = 1) ∧ rs.map RL.q = (List.range i).map (fun t => [x.q.getD t 0]) ∧ G = [(3, .slice q rs.length c), (4, .int .i64 i)] ∧ M = .row q rs.length c (recs eL rs) 53 1 :: M0 ∧ I = jW rs k0 :: aO x.p (recs eR x.es) :: I0) (n) _ _ _ aP aD aC (⟨0, [], _, _, by omega, rfl, rfl, by simp, rfl, rfl, rfl, rfl⟩) ?_
 rintro kk G M I ⟨i, rs, q, c, hi, rfl, hrl, hrc, hrq, rfl, rfl, rfl⟩
 by_cases hin : i < n
 ·obtain ⟨s, hse⟩ : ∃ s, gt x.es (i : Int) = s := ⟨_, rfl⟩
  have hv : ∀ I, iZ x k0 ∈ I → Hv I (bS s k0) := fun I h => by rw [← hse]; exact Hv.lel h (by omega)
  have hqs := jK (es := x.es) (j := i) (by omega)
  rw [hse] at hqs
  repeat (refine aK ?_)
  rw [hse]
  refine dP (φ := bS s k0) (hv _ aB) ?_
  refine dP (φ := cO [] k0) Hv.nilR ?_
  refine dP (φ := cO ([] ++ [s]) k0) (Hv.snoc aB aB) ?_
  rw [List.nil_append]
  (refine aQ (cs := recs eR [s]) ([rv s]) rfl rfl (by intro v hv; repeat (first | exact absurd hv (List.not_mem_nil) | (rcases List.mem_cons.1 hv with rfl | hv; · rfl))) (by omega) rfl rfl rfl ?_; intro b; refine ⟨okF, ?_⟩)
  refine jI (mm := 1) 4 .here rfl (by omega) ?_
  refine aHP (es := [s]) (k := k0) aB ?_
  repeat (refine aK ?_)
  (refine aQ (cs := recs eL [(⟨some ⟨b, 0, none⟩, 1, [s]⟩ : RL)]) ([lv (⟨some ⟨b, 0, none⟩, 1, [s]⟩ : RL)]) rfl rfl (by intro v hv; repeat (first | exact absurd hv (List.not_mem_nil) | (rcases List.mem_cons.1 hv with rfl | hv; · rfl))) (by omega) rfl rfl rfl ?_; intro b2; refine ⟨okF, ?_⟩)
  (refine dI (ys := [(⟨some ⟨b, 0, none⟩, 1, [s]⟩ : RL)]) 1 rfl rfl rfl ?_ (by decide) rfl (by omega) (by omega) rfl rfl ?_; (· first | exact Src.blk aB | exact Src.row aB | exact Src.imm aB (by first | assumption | exact .inl (Ok.mk _ _))); intro q2 c2; refine ⟨okF, ?_⟩)
  repeat (refine aK ?_)
  refine gV (φ := jW (rs ++ [(⟨some ⟨b, 0, none⟩, 1, [s]⟩ : RL)]) k0) (Hv.snocL aB aB) ?_
  refine aL (n - (i + 1)) _ _ _ (by first | omega | (simp only [List.length_append, List.length_cons, List.length_nil]; omega)) aP aD aC (⟨i + 1, rs ++ [(⟨some ⟨b, 0, none⟩, 1, [s]⟩ : RL)], q2, c2, by omega, rfl, by simp [hrl], fun r hr => ?_, ?_, rfl, rfl, rfl⟩)
  ·rcases List.mem_append.1 hr with h | h
   ·exact hrc r h
   ·rw [List.mem_singleton.1 h]; rfl
  ·rw [aQB, hrq, List.range_succ, List.map_append]
   show _ ++ [[s.q]] = _ ++ [[x.q.getD i 0]]
   rw [hqs]
 ·obtain rfl : i = n := by omega
  repeat (refine aK ?_)
  refine aJC aB ?_
  refine aH (by first | exact .inl rfl | exact .inr rfl) rfl rfl _ _ aD aC (⟨rfl, ⟨q, c, rs⟩, rfl, ?_, ⟨hrl, hrc⟩, rfl⟩)
  show rs.map RL.q = _
  rw [hrq]
  unfold xW
  apply List.map_congr_left
  intro a _
  rfl
theorem aPT {a : MX} {R C k0 : Nat} (hR : R ≤ 100) (hC : 1 ≤ C) (da : a.dim R C) (ha : jF a k0 ∈ I0) : CD Tryz.prog 121 [mv a] X w0 M0 I0 (LQ ((List.range R).map (fun i => at2 a.q i 0)) k0 M0 I0) := by
 have lR := da.1
 refine cZ (φ := aO (a).p (recs eL (a).rows)) (Hv.xsl aB) ?_
 refine aZ Tryz.func121 rfl Tryz.ntmps121 rfl ?_
 repeat (refine aK ?_)
 (refine aQ (cs := recs eR []) ([]) rfl rfl (by intro v hv; repeat (first | exact absurd hv (List.not_mem_nil) | (rcases List.mem_cons.1 hv with rfl | hv; · rfl))) (by omega) rfl rfl rfl ?_; intro bo; refine ⟨okF, ?_⟩; refine jI (mm := 0) 4 .here rfl (by omega) ?_)
 repeat (refine aK ?_)
 refine iB (φ := cO [] k0) Hv.nilR ?_
 refine aT [0] rfl (fun k G M I => ∃ (i : Nat) (es : List RE) (q : Option Addr) (c : Nat), i ≤ R ∧ k = R - i ∧ es.length = i ∧ qs es = (List.range i).map (fun i => at2 a.q i 0) ∧ G = [(3, .slice q es.length c), (4, .int .i64 i)] ∧ M = .row q es.length c (recs eR es) 50 4 :: M0 ∧ I = cO es k0 :: aO a.p (recs eL a.rows) :: I0) (R) _ _ _ aP aD aC (⟨0, [], _, _, by omega, rfl, rfl, rfl, rfl, rfl, rfl⟩) ?_
 rintro kk G M I ⟨i, es, q, c, hi, rfl, hel, heq, rfl, rfl, rfl⟩
 by_cases hiR : i < R
 ·have hra := da.row hiR
  refine iB (φ := aO (gt (a).rows (i : Int)).p (recs eR (gt (a).rows (i : Int)).es)) (Hv.xrsl aB (by omega)) ?_
  obtain ⟨s, hse⟩ : ∃ s, gt (gt a.rows (i : Int)).es 0 = s := ⟨_, rfl⟩
  have hv : ∀ I, jF a k0 ∈ I → Hv I (bS s k0) := fun I h => by rw [← hse]; exact Hv.xel h (by omega) (by omega)
  have hat : at2 a.q i 0 = s.q := by rw [← hse]; exact rF (m := a) (i := i) (j := 0) (by omega) (by omega)
  repeat (refine aK ?_)
  rw [hse]
  refine dP (φ := bS s k0) (hv _ aB) ?_
  (refine aQ (cs := recs eR [s]) ([rv s]) rfl rfl (by intro v hv; repeat (first | exact absurd hv (List.not_mem_nil) | (rcases List.mem_cons.1 hv with rfl | hv; · rfl))) (by omega) rfl rfl rfl ?_; intro b; refine ⟨okF, ?_⟩)
  (refine dI (ys := [s]) 1 rfl rfl rfl ?_ (by decide) rfl (by omega) (by omega) rfl rfl ?_; (· first | exact Src.blk aB | exact Src.row aB | exact Src.imm aB (by first | assumption | exact .inl (Ok.mk _ _))); intro q2 c2; refine ⟨okF, ?_⟩)
  repeat (refine aK ?_)
  refine gV (φ := cO (es ++ [s]) k0) (Hv.snoc aB aB) ?_
  refine aL (R - (i + 1)) _ _ _ (by first | omega | (simp only [List.length_append, List.length_cons, List.length_nil]; omega)) aP aD aC (⟨i + 1, es ++ [s], q2, c2, by omega, rfl, by simp; omega, ?_, rfl, rfl, rfl⟩)
  show (es ++ [s]).map RE.q = _
  rw [List.map_append, List.range_succ, List.map_append, ← heq]
  show qs es ++ [s.q] = qs es ++ [at2 a.q i 0]
  rw [hat]
 ·obtain rfl : i = R := by omega
  repeat (refine aK ?_)
  refine aIP aB ?_
  refine aH (by first | exact .inl rfl | exact .inr rfl) rfl rfl _ _ aD aC (⟨rfl, ⟨q, c, es⟩, rfl, heq, rfl⟩)
theorem aJF {a : MX} {x : RL} {R C k0 m : Nat} (hk : k0 + m ≤ 20000000000) (hKK : C * (k0 + m + 1) ≤ 50000000000) (hR : 1 ≤ R ∧ R ≤ 64) (hC : 1 ≤ C ∧ C ≤ 64) (da : a.dim R C) (hl : x.es.length = C) (ha : jF a k0 ∈ I0) (hx : iZ x m ∈ I0) :
  CD Tryz.prog 74 [mv a, lv x] X w0 M0 I0 (LQ ((List.range R).map (fun i => sm C (fun t => at2 a.q i t * x.q.getD t 0))) (C * (k0 + m + 1)) M0 I0) := by
 have hCo := fun M0 I0 h => aMM (X := X) (w0 := w0) (M0 := M0) (I0 := I0) (x := x) (n := C) (k0 := m) (by omega) hl h
 have hMu := fun (y : MX) (hy : y.dim C 1) M0 I0 h1 h2 => CD_ms (aNL (X := X) (w0 := w0) (M0 := M0) (I0 := I0) (a := a) (b := y) (R := R) (C := C) (D := 1) (k0 := k0) (m := m) hk hKK hR hC (by omega) da hy h1 h2)
 have hFi := fun (y : MX) (hy : y.dim R 1) M0 I0 h1 => aPT (X := X) (w0 := w0) (M0 := M0) (I0 := I0) (a := y) (R := R) (C := 1) (k0 := C * (k0 + m + 1)) (by omega) (by omega) hy h1
 refine aX Tryz.func74 rfl Tryz.ntmps74 rfl ?_
 repeat (refine aK ?_)
 (refine aA rfl (hCo _ _ aB) rfl rfl ?_; rintro _ _ _ ⟨rfl, y, rfl, hy, hyd, rfl⟩; refine ⟨okF, ?_⟩)
 (refine aA rfl (hMu y hyd _ _ aB aB) rfl rfl ?_; rintro _ _ _ ⟨rfl, z, rfl, hz, hzd, rfl⟩; refine ⟨okF, ?_⟩)
 (refine aA rfl (hFi z hzd _ _ aB) rfl rfl ?_; rintro _ _ _ ⟨rfl, r, rfl, hr, rfl⟩; refine ⟨okF, ?_⟩)
 repeat (refine aK ?_)
 refine aH (by first | exact .inl rfl | exact .inr rfl) rfl rfl _ _ aD aC (⟨rfl, r, rfl, ?_, rfl⟩)
 rw [hr]
 apply List.map_congr_left
 intro i hi
 rw [hz, tQ (List.mem_range.1 hi) (by omega)]
 exact dG (fun t ht => by rw [hy, tQ ht (by omega)])
theorem aLT {a : MX} {x : RL} {R C k0 m : Nat} (hk : k0 + m ≤ 700000000) (hm : m ≤ 600000000) (hR : 1 ≤ R ∧ R ≤ 64) (hC : 1 ≤ C ∧ C ≤ 64) (da : a.dim R C) (hl : x.es.length = C) (ha : jF a k0 ∈ I0) (hx : iZ x m ∈ I0) :
  CD Tryz.prog 74 [mv a, lv x] X w0 M0 I0 (LQ ((List.range R).map (fun i => sm C (fun t => at2 a.q i t * x.q.getD t 0))) (C * (k0 + m + 1)) M0 I0) := aJF (by omega) (le_kc hC.2 hk) hR hC da hl ha hx
end
end Go.Proofs.YtjbhdfpjnjedhaaGreat
namespace Go.Proofs.YtjbhdfpjnjedhaaGreat
open Go Go.Fx
structure IL where
 p : Option Addr
 c : Nat
 xs : List Int
instance : Inhabited IL := ⟨⟨none, 0, []⟩⟩
abbrev eIL (r : IL) : List Value := [.slice r.p r.xs.length r.c]
abbrev ivL (r : IL) : Value := .slice r.p r.xs.length r.c
instance : Sized eIL 1 := ⟨fun _ => rfl⟩
instance : Ones eIL := ⟨fun m u hu => by simp only [eIL, List.mem_cons, List.not_mem_nil, or_false] at hu; subst hu; rfl⟩
/- ---------- IndexFunc, ContainsFunc of [][]int ---------- -/
section
variable {X : List Nat} {w0 : World} {M0 : List Ent} {I0 : List aY}
end
theorem q_ext {x y : RL} (hl : x.es.length = y.es.length) (h : ∀ j : Nat, j < x.es.length → (gt x.es (j : Int)).q = (gt y.es (j : Int)).q) : x.q = y.q := by
 apply xY
 ·simp [hl]
 ·intro t ht
  have ht' : t < x.es.length := by simpa using ht
  rw [jK ht', jK (by omega)]
  exact h t ht'
theorem q_at {x y : RL} (h : x.q = y.q) {j : Nat} (hj : j < x.es.length) : (gt x.es (j : Int)).q = (gt y.es (j : Int)).q := by
 have hl : x.es.length = y.es.length := by have := congrArg List.length h; simpa using this
 rw [← jK hj, ← jK (by omega)]
 exact congrArg (fun l => List.getD l j 0) h
section
variable {X : List Nat} {w0 : World} {M0 : List Ent} {I0 : List aY}
theorem aVV {a b : MX} (hl : a.rows.length = b.rows.length) (h : ∀ j : Nat, j < a.rows.length → (gt a.rows (j : Int)).q = (gt b.rows (j : Int)).q) : a.q = b.q := by
 apply List.ext_getElem
 ·simp [hl]
 ·intro j h1 h2
  have hj : j < a.rows.length := by simpa using h1
  have := h j hj
  rw [fB hj, fB (by omega)] at this
  simpa using this
theorem aVH {a b : MX} (h : a.q = b.q) {j : Nat} (hj : j < a.rows.length) : (gt a.rows (j : Int)).q = (gt b.rows (j : Int)).q := by
 have hl : a.rows.length = b.rows.length := by have := congrArg List.length h; simpa using this
 rw [← aEW hj, ← aEW (by omega), h]
end
end Go.Proofs.YtjbhdfpjnjedhaaGreat
namespace Go.Proofs.YtjbhdfpjnjedhaaGreat
open Go Go.Fx
structure AllIL (rows : List IL) (X : List Nat) (w : World) : Prop where
 go : ∀ r ∈ rows, Sl X w r.p (recs (eI .i64) r.xs)
abbrev allIL (rows : List IL) : aY := AllIL rows
instance (rows : List IL) : Fx.Good (AllIL rows) := ⟨fun X Y w w' h he hY => ⟨fun r hm => Sl.carry (h.go r hm) he hY⟩⟩
abbrev bxI (b : Nat) (q : Option Addr) (n c : Nat) : aY := aO (some ⟨b, 0, none⟩) [.slice q n c]
section
variable {X : List Nat} {w0 : World} {M0 : List Ent} {I0 : List aY}
end
end Go.Proofs.YtjbhdfpjnjedhaaGreat
namespace Go.Proofs.YtjbhdfpjnjedhaaGreat
open Go Go.Fx
def kA : Mt := [[((2 : Int) : Rat), ((1 : Int) : Rat)], [((1 : Int) : Rat), ((1 : Int) : Rat)]]
def kC : Mt := [[((1 : Int) : Rat), ((-1 : Int) : Rat)], [((-1 : Int) : Rat), ((2 : Int) : Rat)]]
section
variable {X : List Nat} {w0 : World} {M0 : List Ent} {I0 : List aY}
end
end Go.Proofs.YtjbhdfpjnjedhaaGreat

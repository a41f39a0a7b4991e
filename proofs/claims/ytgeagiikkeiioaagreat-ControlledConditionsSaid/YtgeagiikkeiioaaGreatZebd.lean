/- Matrices that the document builds and then writes into: rows with room behind them. The document's unit matrix, copy, sum, product, transposed matrix. -/
import Derived.Test.YtgeagiikkeiioaaGreatZebb
import Derived.Test.YtgeagiikkeiioaaGreatZebc
import Derived.Test.YtgeagiikkeiioaaGreatZeaw
set_option linter.unusedSimpArgs false
set_option linter.unusedVariables false
set_option maxRecDepth 100000
set_option maxHeartbeats 4000000
namespace Go.Proofs.YtgeagiikkeiioaaGreat
open Go Go.Fx
structure MS where
 b : Nat
 c : Nat
 es : List RE
 tl : List Value
instance : Inhabited MS := ⟨⟨0, 0, [], []⟩⟩
abbrev eS (r : MS) : List Value := [.slice (some ⟨r.b, 0, none⟩) r.es.length r.c]
instance : Sized eS 1 := ⟨fun _ => rfl⟩
instance : Ones eS := ⟨fun m u hu => by simp only [eS, List.mem_cons, List.not_mem_nil, or_false] at hu; subst hu; rfl⟩
abbrev iO (r : MS) : Ent := .blk r.b (recs eR r.es ++ r.tl) 42
structure AllS (rows : List MS) (k : Nat) (X : List Nat) (w : World) : Prop where
 go : ∀ r ∈ rows, ∀ e ∈ r.es, IsR e k X w
abbrev gJ (rows : List MS) (k : Nat) : bD := AllS rows k
instance (rows : List MS) (k : Nat) : Fx.Good (AllS rows k) := ⟨fun X Y w w' h he hY => ⟨fun r hr e hm => Fx.Good.go (φ := IsR _ _) X Y w w' (h.go r hr e hm) he hY⟩⟩
theorem Hv.nilS {I : List bD} {k : Nat} : Hv I (gJ [] k) := ⟨fun X w _ => ⟨fun x hx => by simp at hx⟩⟩
theorem Hv.snocS {I : List bD} {rows : List MS} {r : MS} {k : Nat} (h1 : gJ rows k ∈ I) (h2 : Hv I (dD r.es k)) : Hv I (gJ (rows ++ [r]) k) := ⟨fun X w hw => ⟨fun x hx => by
 rcases List.mem_append.1 hx with hx | hx
 ·exact (hw _ h1 : AllS rows k X w).go x hx
 ·rw [List.mem_singleton.1 hx]; exact (h2.go X w hw).go⟩⟩
theorem Hv.monoS {I : List bD} {rows : List MS} {k m : Nat} (h : gJ rows k ∈ I) (hk : k ≤ m) : Hv I (gJ rows m) := ⟨fun X w hw => ⟨fun r hr e he => ((hw _ h : AllS rows k X w).go r hr e he).mono hk⟩⟩
def Pw (rows : List MS) (R C : Nat) (V : Nat → Nat → Rat) : Prop := ∀ i j : Nat, i < R → j < C → (gt (gt rows (i : Int)).es (j : Int)).q = V i j
structure Shp (rows : List MS) (R C : Nat) : Prop where
 len : rows.length = R
 col : ∀ r ∈ rows, r.es.length = C ∧ C ≤ r.c
abbrev upR (r : MS) (j : Nat) (e : RE) : MS := ⟨r.b, r.c, st r.es (j : Int) e, r.tl⟩
def upS (rows : List MS) (i j : Nat) (e : RE) : List MS := rows.set i ⟨(gt rows (i : Int)).b, (gt rows (i : Int)).c, st (gt rows (i : Int)).es (j : Int) e, (gt rows (i : Int)).tl⟩
theorem aBB {rows : List MS} {i j : Nat} {e : RE} : rows.set i (upR (gt rows (i : Int)) j e) = upS rows i j e := rfl
theorem Shp.row {rows : List MS} {R C : Nat} (h : Shp rows R C) {i : Nat} (hi : i < R) : (gt rows (i : Int)).es.length = C := (h.col _ (bM (by have := h.len; omega))).1
theorem Shp.up {rows : List MS} {R C i j : Nat} {e : RE} (h : Shp rows R C) (hi : i < R) : Shp (upS rows i j e) R C := ⟨by unfold upS; rw [List.length_set]; exact h.len, fun r hr => by
 rcases List.mem_or_eq_of_mem_set hr with hr | hr
 ·exact h.col r hr
 ·subst hr
  have := h.col _ (bM (ms := rows) (i := (i : Int)) (by have := h.len; omega))
  exact ⟨by show (st _ _ _).length = C; rw [cZ]; exact this.1, this.2⟩⟩
theorem aJH {rows : List MS} {R C i j t : Nat} {e : RE} (h : Shp rows R C) (hi : i < R) (ht : t < R) : gt (upS rows i j e) (t : Int) = if t = i then ⟨(gt rows (i : Int)).b, (gt rows (i : Int)).c, st (gt rows (i : Int)).es (j : Int) e, (gt rows (i : Int)).tl⟩ else gt rows (t : Int) := by
 have hl := h.len
 unfold upS
 rw [dH (by rw [List.length_set]; omega)]
 by_cases e1 : t = i
 ·subst e1; simp
 ·rw [List.getElem_set_ne (fun e => e1 e.symm), if_neg e1]
  exact (dH (by omega)).symm
theorem Pw.up {rows : List MS} {R C i j : Nat} {e : RE} {V V' : Nat → Nat → Rat} (hp : Pw rows R C V) (h : Shp rows R C) (hi : i < R) (hj : j < C) (hV : ∀ a b, a < R → b < C → V' a b = if a = i ∧ b = j then e.q else V a b) : Pw (upS rows i j e) R C V' := fun a b ha hb => by
 rw [aJH h hi ha, hV a b ha hb]
 by_cases e1 : a = i
 ·subst e1
  rw [if_pos rfl]
  show (gt (st (gt rows (a : Int)).es (j : Int) e) (b : Int)).q = _
  rw [nJ (by rw [h.row ha]; exact hj)]
  by_cases e2 : b = j
  ·rw [if_pos e2, if_pos ⟨rfl, e2⟩]
  ·rw [if_neg e2, if_neg (fun x => e2 x.2)]; exact hp a b ha hb
 ·rw [if_neg e1, if_neg (fun x => e1 x.1)]; exact hp a b ha hb
theorem xX {rows : List MS} {R C i j : Nat} {e : RE} (h : Shp rows R C) (hi : i < R) : recs eS (upS rows i j e) = recs eS rows := by
 have hl := h.len
 unfold upS
 rw [← pU (enc := eS) rows i _ (by omega)]
 have e1 : eS ⟨(gt rows (i : Int)).b, (gt rows (i : Int)).c, st (gt rows (i : Int)).es (j : Int) e, (gt rows (i : Int)).tl⟩ = eS (gt rows (i : Int)) := by simp [eS, cZ]
 rw [e1, pU (enc := eS) rows i _ (by omega), dH (by omega), List.set_getElem_self]
theorem Hv.upS {I : List bD} {rows : List MS} {R C i j k : Nat} {e : RE} (h : Shp rows R C) (hi : i < R) (h1 : gJ rows k ∈ I) (h2 : eY e k ∈ I) : Hv I (gJ (upS rows i j e) k) := ⟨fun X w hw => ⟨fun r hr x hx => by
 have ha := (hw _ h1 : AllS rows k X w).go
 rcases List.mem_or_eq_of_mem_set hr with hr | hr
 ·exact ha r hr x hx
 ·subst hr
  rcases List.mem_or_eq_of_mem_set hx with hx | hx
  ·exact ha _ (bM (by have := h.len; omega)) x hx
  ·rw [hx]; exact hw _ h2⟩⟩
theorem aVF {M1 : List Ent} {r' : MS} : ∀ {rows : List MS} {i : Nat} (h : i < rows.length), Rep (iO rows[i]) (iO r') (rows.map iO ++ M1) ((rows.set i r').map iO ++ M1)
 | [], _, h => by simp at h
 | x :: r, 0, _ => .here
 | x :: r, i + 1, h => .there (aVF (rows := r) (i := i) (by simpa using h))
theorem repS {M1 : List Ent} {r' : MS} {rows : List MS} {i : Nat} (h : i < rows.length) {A : Ent} : Rep (iO (gt rows (i : Int))) (iO r') (A :: (rows.map iO ++ M1)) (A :: ((rows.set i r').map iO ++ M1)) := by
 rw [dH h]
 exact .there (aVF h)
theorem aVG {M1 : List Ent} {r' : MS} {rows : List MS} {i : Nat} (h : i < rows.length) {A B : Ent} : Rep (iO (gt rows (i : Int))) (iO r') (A :: B :: (rows.map iO ++ M1)) (A :: B :: ((rows.set i r').map iO ++ M1)) := .there (repS h)
def MsP (R C : Nat) (V : Nat → Nat → Rat) (k : Nat) (M0 : List Ent) (I0 : List bD) (v : Value) (M : List Ent) (I : List bD) : Prop :=
 ∃ (bo co : Nat) (tlo : List Value) (rows : List MS), v = .slice (some ⟨bo, 0, none⟩) R co ∧ R ≤ co ∧ Shp rows R C ∧ Pw rows R C V ∧ M = .blk bo (recs eS rows ++ tlo) 34 :: (rows.map iO ++ M0) ∧ I = gJ rows k :: I0
def MS.l (r : MS) : RL := ⟨some ⟨r.b, 0, none⟩, r.c, r.es⟩
def MS.x (bo co : Nat) (rows : List MS) : MX := ⟨some ⟨bo, 0, none⟩, co, rows.map MS.l⟩
theorem aUX (rows : List MS) : recs eL (rows.map MS.l) = recs eS rows := by
 induction rows with
 | nil => rfl
 | cons x r ih =>
  have h1 : recs eL ((x :: r).map MS.l) = eL x.l ++ recs eL (r.map MS.l) := rfl
  have h2 : recs eS (x :: r) = eS x ++ recs eS r := rfl
  rw [h1, h2, ih]; rfl
theorem aIZ {X : List Nat} {w : World} {a : Option Addr} {cs tl : List Value} (h : Sl X w a (cs ++ tl)) : Sl X w a cs := by
 have := h.take cs.length
 rwa [List.take_left'] at this
 rfl
theorem yJ {X : List Nat} {w0 w : World} {k : Nat} : ∀ {rows : List MS} {M : List Ent} {I : List bD}, Mem X w0 (rows.map iO ++ M) I w → (∀ r ∈ rows, r.es.length ≤ r.c) → (∀ r ∈ rows, AllR r.es k (muts (rows.map iO ++ M)) w) → ∃ I', (∀ φ ∈ I, φ ∈ I') ∧ (∀ r ∈ rows, jR r.l k ∈ I') ∧ Mem X w0 M I' w
 | [], M, I, h, _, _ => ⟨I, fun _ h => h, fun r hr => by simp at hr, h⟩
 | r :: rows, M, I, h, hc, ha => by
  have h1 : Mem X w0 (rows.map iO ++ M) (aV (some ⟨r.b, 0, none⟩) (recs eR r.es ++ r.tl) :: I) w := h.freezeB .here
  have hsub : ∀ y ∈ muts (rows.map iO ++ M), y ∈ muts ((r :: rows).map iO ++ M) := fun y hy => by simp [muts] at hy ⊢; right; exact hy
  have h2 : IsL r.l k (muts (rows.map iO ++ M)) w := by
   refine ⟨aIZ (h1.sl (List.Mem.head _)), fun e he => ?_, hc r (List.Mem.head _), .inl (Ok.mk _ _)⟩
   exact Fx.Good.go (φ := IsR _ _) _ _ w w ((ha r (List.Mem.head _)).go e he) (Ext.refl _ _) (fun y hy => .inl (hsub y hy))
  obtain ⟨I', i1, i2, i3⟩ := yJ (h1.add (φ := jR r.l k) h2) (fun s hs => hc s (List.Mem.tail _ hs)) (fun s hs => ⟨fun e he => Fx.Good.go (φ := IsR _ _) _ _ w w ((ha s (List.Mem.tail _ hs)).go e he) (Ext.refl _ _) (fun y hy => .inl (hsub y hy))⟩)
  refine ⟨I', fun φ hφ => i1 φ (List.Mem.tail _ (List.Mem.tail _ hφ)), fun s hs => ?_, i3⟩
  rcases List.mem_cons.1 hs with rfl | hs
  ·exact i1 _ (List.Mem.head _)
  ·exact i2 s hs
theorem aIQ {X : List Nat} {w0 w : World} {k bo co : Nat} {tlo : List Value} {rows : List MS} {M : List Ent} {I : List bD} (h : Mem X w0 (.blk bo (recs eS rows ++ tlo) 34 :: (rows.map iO ++ M)) I w) (hc : ∀ r ∈ rows, r.es.length ≤ r.c) (hco : rows.length ≤ co) (ha : gJ rows k ∈ I) : Mem X w0 M (fF (MS.x bo co rows) k :: I) w := by
 have h0 : Mem X w0 (rows.map iO ++ M) (aV (some ⟨bo, 0, none⟩) (recs eS rows ++ tlo) :: I) w := h.freezeB .here
 obtain ⟨I', i1, i2, i3⟩ := yJ (k := k) h0 hc (fun r hr => ⟨fun e he => ((h0.imm _ (List.Mem.tail _ ha)).2 : AllS rows k _ w).go r hr e he⟩)
 have h3 : IsX (MS.x bo co rows) k (muts M) w := by
  refine ⟨?_, fun r hr => ?_, ?_⟩
  ·rw [show (MS.x bo co rows).rows = rows.map MS.l from rfl, aUX]; exact aIZ (i3.sl (i1 _ (List.Mem.head _)))
  ·obtain ⟨s, hs, rfl⟩ := List.mem_map.1 hr
   exact (i3.imm _ (i2 s hs)).2
  ·show Cap (some ⟨bo, 0, none⟩) (rows.map MS.l).length co
   rw [List.length_map]; exact ⟨hco, .inl (Ok.mk _ _)⟩
 exact (i3.add (φ := fF (MS.x bo co rows) k) h3).inc (.of fun φ hφ => by
  rcases List.mem_cons.1 hφ with rfl | hφ
  ·exact List.Mem.head _
  ·exact List.Mem.tail _ (i1 _ (List.Mem.tail _ hφ)))
theorem q_xs {rows : List MS} {R C bo co : Nat} {V : Nat → Nat → Rat} (h : Shp rows R C) (hp : Pw rows R C V) : (MS.x bo co rows).q = wO R C V ∧ (MS.x bo co rows).dim R C := by
 have hd : (MS.x bo co rows).dim R C := ⟨by show (rows.map MS.l).length = R; rw [List.length_map]; exact h.len, fun r hr => by
  obtain ⟨s, hs, rfl⟩ := List.mem_map.1 hr
  exact (h.col s hs).1⟩
 refine ⟨?_, hd⟩
 rw [hd.mk]
 refine wI (fun i j hi hj => ?_)
 have hl := hd.1
 have hg : gt (MS.x bo co rows).rows (i : Int) = (gt rows (i : Int)).l := aBS (by have := h.len; omega)
 rw [pX (by omega) (by rw [hg]; show j < (gt rows (i : Int)).es.length; rw [h.row hi]; exact hj), hg]
 exact hp i j hi hj
theorem aQC {f : FuncId} {vs : List Value} {X : List Nat} {w0 : World} {M0 : List Ent} {I0 : List bD} {R C k : Nat} {V : Nat → Nat → Rat} (h : CD Tryz.prog f vs X w0 M0 I0 (MsP R C V k M0 I0)) : CD Tryz.prog f vs X w0 M0 I0 (XQ (wO R C V) R C k M0 I0) := by
 refine CD.post h (fun v M I w h hw => ?_)
 obtain ⟨bo, co, tlo, rows, rfl, hco, hs, hp, rfl, rfl⟩ := h
 obtain ⟨hq, hd⟩ := q_xs (bo := bo) (co := co) hs hp
 refine ⟨M0, fF (MS.x bo co rows) k :: I0, ⟨rfl, MS.x bo co rows, ?_, hq, hd, rfl⟩, (aIQ (co := co) (k := k) hw (fun r hr => by have := hs.col r hr; omega) (by have := hs.len; omega) (List.Mem.head _)).inc (.of fun φ hφ => by
  rcases List.mem_cons.1 hφ with rfl | hφ
  ·exact List.Mem.head _
  ·exact List.Mem.tail _ (List.Mem.tail _ hφ))⟩
 have e1 := hd.1
 show _ = Value.slice (MS.x bo co rows).p (MS.x bo co rows).rows.length (MS.x bo co rows).c
 rw [e1]; rfl
section
variable {X : List Nat} {w0 : World} {M0 : List Ent} {I0 : List bD}
theorem aCJ {R C : Nat} (hR : 1 ≤ R ∧ R ≤ 100) (hC : 1 ≤ C ∧ C ≤ 100) : CD Tryz.prog 114 [.int .i64 (R : Int), .int .i64 (C : Int)] X w0 M0 I0 (MsP R C (fun _ _ => 0) 0 M0 I0) := by
 have hW := fun M0 I0 => uZ (X := X) (w0 := w0) (M0 := M0) (I0 := I0) (x := 0) (by decide)
 refine aW Tryz.func114 rfl Tryz.ntmps114 rfl ?_
 repeat (refine aI ?_)
 (refine aO (cs := recs eS []) ([]) rfl rfl (by intro v hv; repeat (first | exact absurd hv (List.not_mem_nil) | (rcases List.mem_cons.1 hv with rfl | hv; · rfl))) (by omega) rfl rfl rfl ?_; intro bo; refine ⟨okF, ?_⟩; refine jS (mm := 0) 1 .here rfl (by omega) ?_)
 repeat (refine aI ?_)
 refine bQ (φ := gJ [] 0) Hv.nilS ?_
 refine aQ [0, 1] rfl (fun k G M I => ∃ (i : Nat) (rows : List MS) (q : Option Addr) (c : Nat), i ≤ R ∧ k = R - i ∧ Shp rows i C ∧ Pw rows i C (fun _ _ => 0) ∧ G = [(5, .slice q rows.length c), (6, .int .i64 i)] ∧ M = .row q rows.length c (recs eS rows) 34 1 :: (rows.map iO ++ M0) ∧ I = gJ rows 0 :: I0) (R) _ _ _ aR aG aD (⟨0, [], _, _, by omega, rfl, ⟨rfl, fun r hr => by simp at hr⟩, fun i j hi => by omega, rfl, rfl, rfl⟩) ?_
 rintro kk G M I ⟨i, rows, q, c, hi, rfl, hs, hp, rfl, rfl, rfl⟩
 have hlen := hs.len
 by_cases hiR : i < R
 ·repeat (refine aI ?_)
  (refine aO (cs := recs eR []) ([]) rfl rfl (by intro v hv; repeat (first | exact absurd hv (List.not_mem_nil) | (rcases List.mem_cons.1 hv with rfl | hv; · rfl))) (by omega) rfl rfl rfl ?_; intro bl; refine ⟨okF, ?_⟩; refine jS (mm := 0) 4 .here rfl (by omega) ?_)
  repeat (refine aI ?_)
  refine bQ (φ := dD [] 0) Hv.nilR ?_
  refine aQ [0, 1, 5, 6] rfl (fun k G M I => ∃ (j : Nat) (es : List RE) (ql : Option Addr) (cl : Nat), j ≤ C ∧ k = C - j ∧ es.length = j ∧ (∀ e ∈ es, e.q = 0) ∧ G = [(7, .slice ql es.length cl), (8, .int .i64 j)] ∧ M = .row ql es.length cl (recs eR es) 42 4 :: .row q rows.length c (recs eS rows) 34 1 :: (rows.map iO ++ M0) ∧ I = dD es 0 :: gJ rows 0 :: I0) (C) _ _ _ aR aG aD (⟨0, [], _, _, by omega, rfl, rfl, by simp, rfl, rfl, rfl⟩) ?_
  rintro kk G M I ⟨j, es, ql, cl, hj, rfl, hel, heq, rfl, rfl, rfl⟩
  by_cases hjC : j < C
  ·repeat (refine aI ?_)
   (refine aA rfl (hW _ _) rfl rfl ?_; rintro _ _ _ ⟨rfl, e, rfl, he, rfl⟩; refine ⟨okF, ?_⟩)
   (refine aO (cs := recs eR [e]) ([rv e]) rfl rfl (by intro v hv; repeat (first | exact absurd hv (List.not_mem_nil) | (rcases List.mem_cons.1 hv with rfl | hv; · rfl))) (by omega) rfl rfl rfl ?_; intro b; refine ⟨okF, ?_⟩)
   (refine dV (ys := [e]) 1 rfl rfl rfl ?_ (by decide) rfl (by omega) (by omega) rfl rfl ?_; (· first | exact Src.blk aB | exact Src.row aB | exact Src.imm aB (by first | assumption | exact .inl (Ok.mk _ _))); intro q2 c2; refine ⟨okF, ?_⟩)
   repeat (refine aI ?_)
   refine eT (φ := dD (es ++ [e]) 0) (Hv.snoc aB aB) ?_
   refine aL (C - (j + 1)) _ _ _ (by first | omega | (simp only [List.length_append, List.length_cons, List.length_nil]; omega)) aR aG aD (⟨j + 1, es ++ [e], q2, c2, by omega, rfl, by simp; omega, fun x hx => ?_, rfl, rfl, rfl⟩)
   rcases List.mem_append.1 hx with h | h
   ·exact heq x h
   ·rw [List.mem_singleton.1 h, he]; rfl
  ·obtain rfl : j = C := by omega
   repeat (refine aI ?_)
   refine aEG (fun h0 h1 h2 => by omega) (fun b tl h1 h2 => ?_)
   subst h1
   (refine aO (cs := recs eS [(⟨b, cl, es, tl⟩ : MS)]) ([.slice (some ⟨b, 0, none⟩) es.length cl]) rfl rfl (by intro v hv; repeat (first | exact absurd hv (List.not_mem_nil) | (rcases List.mem_cons.1 hv with rfl | hv; · rfl))) (by omega) rfl rfl rfl ?_; intro bb; refine ⟨okF, ?_⟩)
   (refine dV (ys := [(⟨b, cl, es, tl⟩ : MS)]) 2 rfl rfl rfl ?_ (by decide) rfl (by omega) (by omega) rfl rfl ?_; (· first | exact Src.blk aB | exact Src.row aB | exact Src.imm aB (by first | assumption | exact .inl (Ok.mk _ _))); intro q2 c2; refine ⟨okF, ?_⟩)
   repeat (refine aI ?_)
   refine eT (φ := gJ (rows ++ [(⟨b, cl, es, tl⟩ : MS)]) 0) (Hv.snocS aB (Hv.mem aB)) ?_
   refine aOM (M' := .blk b (recs eR es ++ tl) 42 :: .row q2 (rows ++ [(⟨b, cl, es, tl⟩ : MS)]).length c2 (recs eS (rows ++ [(⟨b, cl, es, tl⟩ : MS)])) 34 1 :: (rows.map iO ++ M0)) (I' := gJ (rows ++ [(⟨b, cl, es, tl⟩ : MS)]) 0 :: I0) (SubP.drop SubP.refl) aD ?_
   refine yR (M' := .row q2 (rows ++ [(⟨b, cl, es, tl⟩ : MS)]).length c2 (recs eS (rows ++ [(⟨b, cl, es, tl⟩ : MS)])) 34 1 :: ((rows ++ [(⟨b, cl, es, tl⟩ : MS)]).map iO ++ M0)) (by rw [List.map_append (f := iO)]; exact zU) ?_
   refine aL (R - (i + 1)) _ _ _ (by first | omega | (simp only [List.length_append, List.length_cons, List.length_nil]; omega)) aR aG aD (⟨i + 1, rows ++ [(⟨b, cl, es, tl⟩ : MS)], q2, c2, by omega, rfl, ⟨by simp [hlen], fun r hr => ?_⟩, fun i' j' h1' h2' => ?_, rfl, rfl, rfl⟩)
   ·rcases List.mem_append.1 hr with h | h
    ·exact hs.col r h
    ·rw [List.mem_singleton.1 h]; exact ⟨hel, by show j ≤ cl; omega⟩
   ·by_cases e1 : i' < i
    ·have : gt (rows ++ [(⟨b, cl, es, tl⟩ : MS)]) (i' : Int) = gt rows (i' : Int) := by rw [dH (by simp; omega), dH (by omega), List.getElem_append_left (by omega)]
     rw [this]; exact hp i' j' e1 h2'
    ·have : gt (rows ++ [(⟨b, cl, es, tl⟩ : MS)]) (i' : Int) = ⟨b, cl, es, tl⟩ := rU (A := rows) (B := []) (by omega)
     rw [this]
     exact heq _ (bM (by show (0 : Int) ≤ _ ∧ _ < (es.length : Int); omega))
 ·obtain rfl : i = R := by omega
  repeat (refine aI ?_)
  refine aEX (fun h0 h1 h2 => by omega) (fun b tl h1 h2 => ?_)
  subst h1
  refine aC (by first | exact .inl rfl | exact .inr rfl) rfl rfl _ _ aG aD (⟨b, c, tl, rows, by rw [hlen], by omega, hs, hp, rfl, rfl⟩)
end
end Go.Proofs.YtgeagiikkeiioaaGreat
namespace Go.Proofs.YtgeagiikkeiioaaGreat
open Go Go.Fx
section
variable {X : List Nat} {w0 : World} {M0 : List Ent} {I0 : List bD}
theorem aQP {a : MX} {R C k0 : Nat} (hR : 1 ≤ R ∧ R ≤ 100) (hC : 1 ≤ C ∧ C ≤ 100) (da : a.dim R C) (ha : fF a k0 ∈ I0) : CD Tryz.prog 157 [mv a] X w0 M0 I0 (MsP R C (at2 a.q) k0 M0 I0) := by
 have hl := da.1
 refine iW (φ := ∀ r ∈ a.rows, Cap r.p r.es.length r.c) (fun w hw r hr => ((((hw.imm _ ha).2 : IsX a k0 _ w)).row r hr).cap) (fun hcap => ?_)
 refine bI (φ := aV (a).p (recs eL (a).rows)) (Hv.xsl aB) ?_
 refine bC Tryz.func157 rfl Tryz.ntmps157 rfl ?_
 repeat (refine aI ?_)
 (refine aO (cs := recs eS []) ([]) rfl rfl (by intro v hv; repeat (first | exact absurd hv (List.not_mem_nil) | (rcases List.mem_cons.1 hv with rfl | hv; · rfl))) (by omega) rfl rfl rfl ?_; intro bo; refine ⟨okF, ?_⟩; refine jS (mm := 0) 1 .here rfl (by omega) ?_)
 repeat (refine aI ?_)
 refine bQ (φ := gJ [] k0) Hv.nilS ?_
 refine aQ [0] rfl (fun k G M I => ∃ (i : Nat) (rows : List MS) (q : Option Addr) (c : Nat), i ≤ R ∧ k = R - i ∧ Shp rows i C ∧ Pw rows i C (at2 a.q) ∧ G = [(3, .slice q rows.length c), (4, .int .i64 i)] ∧ M = .row q rows.length c (recs eS rows) 34 1 :: (rows.map iO ++ M0) ∧ I = gJ rows k0 :: aV a.p (recs eL a.rows) :: I0) (R) _ _ _ aR aG aD (⟨0, [], _, _, by omega, rfl, ⟨rfl, fun r hr => by simp at hr⟩, fun i j hi => by omega, rfl, rfl, rfl⟩) ?_
 rintro kk G M I ⟨i, rows, q, c, hi, rfl, hs, hp, rfl, rfl, rfl⟩
 have hlen := hs.len
 by_cases hiR : i < R
 ·have hrow := da.row hiR
  have hcp := (hcap _ (bM (ms := a.rows) (i := (i : Int)) (by omega))).2
  refine bQ (φ := aV (gt (a).rows (i : Int)).p (recs eR (gt (a).rows (i : Int)).es)) (Hv.xrsl aB (by omega)) ?_
  refine bQ (φ := dD (gt a.rows (i : Int)).es k0) ⟨fun X w hw => ⟨((hw _ (by exact aB) : IsX a k0 X w).row _ (bM (by omega))).el⟩⟩ ?_
  repeat (refine aI ?_)
  (refine aO (cs := recs eR []) ([]) rfl rfl (by intro v hv; repeat (first | exact absurd hv (List.not_mem_nil) | (rcases List.mem_cons.1 hv with rfl | hv; · rfl))) (by omega) rfl rfl rfl ?_; intro bl; refine ⟨okF, ?_⟩; refine jS (mm := 0) 4 .here rfl (by omega) ?_)
  repeat (refine aI ?_)
  (refine dV (enc := eR) (xs := []) (ys := (gt a.rows (i : Int)).es) 0 rfl rfl rfl (Src.imm aB hcp) (by decide) rfl (by rw [List.length_nil]; omega) (by rw [List.length_nil]; omega) rfl rfl ?_; intro q1 c1; refine ⟨okF, ?_⟩)
  rw [List.nil_append]
  refine aEG (fun h0 h1 h2 => by omega) (fun b tl h1 h2 => ?_)
  subst h1
  (refine aO (cs := recs eS [(⟨b, c1, (gt a.rows (i : Int)).es, tl⟩ : MS)]) ([.slice (some ⟨b, 0, none⟩) (gt a.rows (i : Int)).es.length c1]) rfl rfl (by intro v hv; repeat (first | exact absurd hv (List.not_mem_nil) | (rcases List.mem_cons.1 hv with rfl | hv; · rfl))) (by omega) rfl rfl rfl ?_; intro bb; refine ⟨okF, ?_⟩)
  (refine dV (ys := [(⟨b, c1, (gt a.rows (i : Int)).es, tl⟩ : MS)]) 2 rfl rfl rfl ?_ (by decide) rfl (by omega) (by omega) rfl rfl ?_; (· first | exact Src.blk aB | exact Src.row aB | exact Src.imm aB (by first | assumption | exact .inl (Ok.mk _ _))); intro q2 c2; refine ⟨okF, ?_⟩)
  repeat (refine aI ?_)
  refine eT (φ := gJ (rows ++ [(⟨b, c1, (gt a.rows (i : Int)).es, tl⟩ : MS)]) k0) (Hv.snocS aB (Hv.mem aB)) ?_
  refine aOM (M' := .blk b (recs eR (gt a.rows (i : Int)).es ++ tl) 42 :: .row q2 (rows ++ [(⟨b, c1, (gt a.rows (i : Int)).es, tl⟩ : MS)]).length c2 (recs eS (rows ++ [(⟨b, c1, (gt a.rows (i : Int)).es, tl⟩ : MS)])) 34 1 :: (rows.map iO ++ M0)) (I' := gJ (rows ++ [(⟨b, c1, (gt a.rows (i : Int)).es, tl⟩ : MS)]) k0 :: aV a.p (recs eL a.rows) :: I0) (SubP.drop SubP.refl) aD ?_
  refine yR (M' := .row q2 (rows ++ [(⟨b, c1, (gt a.rows (i : Int)).es, tl⟩ : MS)]).length c2 (recs eS (rows ++ [(⟨b, c1, (gt a.rows (i : Int)).es, tl⟩ : MS)])) 34 1 :: ((rows ++ [(⟨b, c1, (gt a.rows (i : Int)).es, tl⟩ : MS)]).map iO ++ M0)) (by rw [List.map_append (f := iO)]; exact zU) ?_
  refine aL (R - (i + 1)) _ _ _ (by first | omega | (simp only [List.length_append, List.length_cons, List.length_nil]; omega)) aR aG aD (⟨i + 1, rows ++ [(⟨b, c1, (gt a.rows (i : Int)).es, tl⟩ : MS)], q2, c2, by omega, rfl, ⟨by simp [hlen], fun r hr => ?_⟩, fun i' j' h1' h2' => ?_, rfl, rfl, rfl⟩)
  ·rcases List.mem_append.1 hr with h | h
   ·exact hs.col r h
   ·rw [List.mem_singleton.1 h]; exact ⟨hrow, by show C ≤ c1; omega⟩
  ·by_cases e1 : i' < i
   ·have : gt (rows ++ [(⟨b, c1, (gt a.rows (i : Int)).es, tl⟩ : MS)]) (i' : Int) = gt rows (i' : Int) := by rw [dH (by simp; omega), List.getElem_append_left (by omega)]; exact (dH (by omega)).symm
    rw [this]; exact hp i' j' e1 h2'
   ·have : gt (rows ++ [(⟨b, c1, (gt a.rows (i : Int)).es, tl⟩ : MS)]) (i' : Int) = ⟨b, c1, (gt a.rows (i : Int)).es, tl⟩ := rU (A := rows) (B := []) (by omega)
    rw [this]
    obtain rfl : i' = i := by omega
    exact (pX (m := a) (by omega) (by omega)).symm
 ·obtain rfl : i = R := by omega
  repeat (refine aI ?_)
  refine aEX (fun h0 h1 h2 => by omega) (fun b tl h1 h2 => ?_)
  subst h1
  refine aC (by first | exact .inl rfl | exact .inr rfl) rfl rfl _ _ aG aD (⟨b, c, tl, rows, by rw [hlen], by omega, hs, hp, rfl, rfl⟩)
end
end Go.Proofs.YtgeagiikkeiioaaGreat

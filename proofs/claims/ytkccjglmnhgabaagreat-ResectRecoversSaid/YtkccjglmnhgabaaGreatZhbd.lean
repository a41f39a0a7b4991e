/- The document's minor and determinant. Matrices that the document builds and then writes into: rows with room behind them. The document's unit matrix, copy, sum, product, transposed matrix. The document's Echelon, Rank. The document's Null. matrix: column, Solve, Refute. resect: row, times, canonical of lists, shaped. resect: condition, meet. -/
import Derived.Test.YtkccjglmnhgabaaGreatZhba
import Derived.Test.YtkccjglmnhgabaaGreatZhbb
import Derived.Test.YtkccjglmnhgabaaGreatZhav
import Derived.Test.YtkccjglmnhgabaaGreatZhax
import Derived.Test.YtkccjglmnhgabaaGreatZhbc
set_option linter.unusedSimpArgs false
set_option linter.unusedVariables false
set_option maxRecDepth 100000
set_option maxHeartbeats 4000000
namespace Go.Proofs.YtkccjglmnhgabaaGreat
open Go Go.Fx
def hD (k : Nat) : Nat → Nat
 | 0 => k
 | n + 1 => (n + 2) * (k + hD k n + 1)
section
variable {X : List Nat} {w0 : World} {M0 : List Ent} {I0 : List aZ}
end
end Go.Proofs.YtkccjglmnhgabaaGreat
namespace Go.Proofs.YtkccjglmnhgabaaGreat
open Go Go.Fx
structure MS where
 b : Nat
 c : Nat
 es : List RE
 tl : List Value
instance : Inhabited MS := ⟨⟨0, 0, [], []⟩⟩
abbrev eS (r : MS) : List Value := [.slice (some ⟨r.b, 0, none⟩) r.es.length r.c]
instance : Sized eS 1 := ⟨fun _ => rfl⟩
instance : Ones eS := ⟨fun m u hu => by simp only [eS, List.mem_cons, List.not_mem_nil, or_false] at hu; subst hu; rfl⟩
abbrev entS (r : MS) : Ent := .blk r.b (recs eR r.es ++ r.tl) 37
structure AllS (rows : List MS) (k : Nat) (X : List Nat) (w : World) : Prop where
 go : ∀ r ∈ rows, ∀ e ∈ r.es, IsR e k X w
abbrev allS (rows : List MS) (k : Nat) : aZ := AllS rows k
instance (rows : List MS) (k : Nat) : Fx.Good (AllS rows k) := ⟨fun X Y w w' h he hY => ⟨fun r hr e hm => Fx.Good.go (φ := IsR _ _) X Y w w' (h.go r hr e hm) he hY⟩⟩
def Pw (rows : List MS) (R C : Nat) (V : Nat → Nat → Rat) : Prop := ∀ i j : Nat, i < R → j < C → (gt (gt rows (i : Int)).es (j : Int)).q = V i j
structure Shp (rows : List MS) (R C : Nat) : Prop where
 len : rows.length = R
 col : ∀ r ∈ rows, r.es.length = C ∧ C ≤ r.c
abbrev upR (r : MS) (j : Nat) (e : RE) : MS := ⟨r.b, r.c, st r.es (j : Int) e, r.tl⟩
def upS (rows : List MS) (i j : Nat) (e : RE) : List MS := rows.set i ⟨(gt rows (i : Int)).b, (gt rows (i : Int)).c, st (gt rows (i : Int)).es (j : Int) e, (gt rows (i : Int)).tl⟩
def MsP (R C : Nat) (V : Nat → Nat → Rat) (k : Nat) (M0 : List Ent) (I0 : List aZ) (v : Value) (M : List Ent) (I : List aZ) : Prop :=
 ∃ (bo co : Nat) (tlo : List Value) (rows : List MS), v = .slice (some ⟨bo, 0, none⟩) R co ∧ R ≤ co ∧ Shp rows R C ∧ Pw rows R C V ∧ M = .blk bo (recs eS rows ++ tlo) 39 :: (rows.map entS ++ M0) ∧ I = allS rows k :: I0
def MS.l (r : MS) : RL := ⟨some ⟨r.b, 0, none⟩, r.c, r.es⟩
def MS.x (bo co : Nat) (rows : List MS) : MX := ⟨some ⟨bo, 0, none⟩, co, rows.map MS.l⟩
section
variable {X : List Nat} {w0 : World} {M0 : List Ent} {I0 : List aZ}
end
end Go.Proofs.YtkccjglmnhgabaaGreat
namespace Go.Proofs.YtkccjglmnhgabaaGreat
open Go Go.Fx
section
variable {X : List Nat} {w0 : World} {M0 : List Ent} {I0 : List aZ}
end
end Go.Proofs.YtkccjglmnhgabaaGreat
namespace Go.Proofs.YtkccjglmnhgabaaGreat
open Go Go.Fx
def rEchO (A : Mt) (R C k : Nat) (M0 : List Ent) (I0 : List aZ) (v : Value) (M : List Ent) (I : List aZ) : Prop :=
 ∃ (bo co : Nat) (tlo : List Value) (rows : List MS) (E : Mt) (pv : List Nat) (q : Option Addr) (c : Nat), v = .tuple #[.slice (some ⟨bo, 0, none⟩) R co, .slice q pv.length c] ∧ R ≤ co ∧ Shp rows R C ∧ kM A C = (E, pv) ∧ Pw rows R C (at2 E) ∧
  M = .row q pv.length c (recs eZ (zs pv)) 3 1 :: .blk bo (recs eS rows ++ tlo) 39 :: (rows.map entS ++ M0) ∧ I = allS rows k :: I0
def rEchP (A : Mt) (R C k : Nat) (M0 : List Ent) (I0 : List aZ) (v : Value) (M : List Ent) (I : List aZ) : Prop :=
 M0 = M ∧ ∃ (m : MX) (pv : List Nat) (q : Option Addr) (c : Nat), v = .tuple #[mv m, .slice q pv.length c] ∧ kM A C = (m.q, pv) ∧ m.dim R C ∧ I = pvI q pv :: nU m k :: I0
section
variable {X : List Nat} {w0 : World} {M0 : List Ent} {I0 : List aZ}
end
end Go.Proofs.YtkccjglmnhgabaaGreat
namespace Go.Proofs.YtkccjglmnhgabaaGreat
open Go Go.Fx
def NlR (A : Mt) (C k : Nat) (M0 : List Ent) (I0 : List aZ) (v : Value) (M : List Ent) (I : List aZ) : Prop :=
 M0 = M ∧ ∃ m : MX, v = mv m ∧ m.q = kI A C ∧ (∀ r ∈ m.rows, r.es.length = C) ∧ I = nU m k :: I0
section
variable {X : List Nat} {w0 : World} {M : List Ent} {I : List aZ}
variable {P : Program} {n : Nat} {Q : Exit → Act → World → Prop} {G : Env}
end
section
variable {X : List Nat} {w0 : World} {M0 : List Ent} {I0 : List aZ}
end
end Go.Proofs.YtkccjglmnhgabaaGreat
namespace Go.Proofs.YtkccjglmnhgabaaGreat
open Go Go.Fx
def bes1 (R C : Nat) (A : Mt) (b : List Rat) : Mt := mkM R (C + 1) (fun i j => if j < C then at2 A i j else b.getD i 0)
def besU (R C : Nat) (A : Mt) (b : List Rat) : Mt := mkM R (C + 1 + R) (fun i j => if j < C then at2 A i j else if j = C then b.getD i 0 else dlt i (j - (C + 1)))
def solB (R C : Nat) (f : Nat → Nat → Rat) (pv : List Nat) : Prop := ∀ i ∈ List.range R, pv.length ≤ i → f i C = 0
instance (R C : Nat) (f : Nat → Nat → Rat) (pv : List Nat) : Decidable (solB R C f pv) := by unfold solB; exact inferInstance
def solP (R C : Nat) (A : Mt) (b : List Rat) : Prop := solB R C (at2 (kM (bes1 R C A b) C).1) (kM (bes1 R C A b) C).2
instance (R C : Nat) (A : Mt) (b : List Rat) : Decidable (solP R C A b) := by unfold solP; exact inferInstance
def solL (R C : Nat) (A : Mt) (b : List Rat) : List Rat := (List.range C).map (solF (at2 (kM (bes1 R C A b) C).1) (kM (bes1 R C A b) C).2 C)
/- the wider matrix tells the same -/
section
variable {X : List Nat} {w0 : World} {M0 : List Ent} {I0 : List aZ}
end
end Go.Proofs.YtkccjglmnhgabaaGreat
namespace Go.Fx
section
variable {P : Program} {n : Nat} {ops : List Oper} {Q : Exit → Act → World → Prop} {m : Mode} {G : Env} {w : World} {ty : TypeId} {pos : String} {af : Array Edge} {g : Option (Nat × Bool)} {l : List Oper} {X : List Nat} {w0 : World} {M M' : List Ent} {I : List aZ}
theorem aHU {t e : TypeId} {sz sz' by_ : Nat} {z : List Value} {lo co : Operand} {k k' : IntKind} {mm : Nat} [ht : SliceTy P t e sz'] [hz : ElemTy P e sz by_ z]
  (hl : ev G lo = some (.int k 0)) (hc : ev G co = some (.int k' (mm : Int))) (hb : (by_ : Int) * (mm : Int) ≤ 281474976710656) (hm : (mm : Int) ≤ 9223372036854775807) :
  Eff P n G (.makeSlice t lo co) ty w (fun v w' => ∃ b, b = w.heap.size ∧ v = .slice (some ⟨b, 0, none⟩) 0 mm ∧ w'.ownsRow 0 e sz (.slice (some ⟨b, 0, none⟩) 0 mm) 0 [] ∧ Ext [] w w' ∧ b < w'.heap.size) := by
 refine ⟨?_⟩
 intro a ha dst pos after guard
 obtain ⟨i, v, hi, hs, hby, hzv, hcl⟩ := sV hz
 have hr := run_make (P := P) w t e i v ht.und hi hzv k k' 0 mm (by omega) (by omega) (by rw [hby]; exact hb) hm
 refine sD (v := .slice (some ⟨w.heap.size, 0, none⟩) 0 mm) (w' := w.alloc (.cells (madeCells z.toArray (mm * sz)) e)) ?_ ⟨_, ⟨_, rfl, rfl, ⟨by simp, .inr ⟨w.heap.size, mm, madeCells z.toArray (mm * sz), rfl, Nat.zero_le _, heap_alloc_new w _, Nat.zero_le _, by show mm ≤ 9223372036854775807; omega, size_madeCells _ _, by simp⟩⟩, Ext.alloc _ _ _, by simp⟩, rfl⟩
 simp only [Int.toNat_natCast, hs, hcl] at hr
 simp [execOp, ha.ev hl, ha.ev hc, hr]
theorem aCI {d : Nat} {t e : TypeId} {sz sz' by_ : Nat} {z : List Value} {lo co : Operand} {k1 k2 : IntKind} (mm : Nat) {x2 : Int} [SliceTy P t e sz'] [ElemTy P e sz by_ z]
  (hl : ev G lo = some (.int k1 0)) (hc : ev G co = some (.int k2 x2)) (e2 : x2 = mm) (hb : (by_ : Int) * (mm : Int) ≤ 281474976710656) (hm : (mm : Int) ≤ 9223372036854775807) (hg : nV ops G g = some true) (hd : Nat.ble (d + 1) n = true)
  (k : ∀ b, OkD m X w0 (.row (some ⟨b, 0, none⟩) 0 mm [] e sz :: M) I ∧ RD P n ops Q m.nextE l ((d, .slice (some ⟨b, 0, none⟩) 0 mm) :: G) X w0 (.row (some ⟨b, 0, none⟩) 0 mm [] e sz :: M) I) :
  RD P n ops Q m (⟨some d, .makeSlice t lo co, ty, pos, af, g⟩ :: l) G X w0 M I := by
 subst e2
 exact xK (d := some d) (K := fun v' M' I' => ∃ b, v' = .slice (some ⟨b, 0, none⟩) 0 mm ∧ M' = .row (some ⟨b, 0, none⟩) 0 mm [] e sz :: M ∧ I' = I) hg
  (fun w hw => (aHU (mm := mm) hl hc hb hm).mono (fun _ w' ⟨b, hb, hp, hB, hE, _⟩ => ⟨_, _, ⟨b, hp, rfl, rfl⟩, hw.push hE (by simp [Ent.blocks, hb]) (by simp [Ent.blocks]) hB⟩)) rfl hd
  (fun _ _ _ ⟨b, hp, hM, hI⟩ => by subst hp; subst hM; subst hI; exact k b)
end
end Go.Fx
namespace Go.Proofs.YtkccjglmnhgabaaGreat
open Go Go.Fx
section
variable {X : List Nat} {w0 : World} {M0 : List Ent} {I0 : List aZ}
theorem aAW {x : RL} {κ : RE} {u m n : Nat} (hn : n ≤ 100) (hkm : u + m ≤ 400000000000) (hl : x.es.length = n) (hx : iY x u ∈ I0) (hκ : Hv I0 (bM κ m)) :
  CD Tryz.prog 51 [lv x, rv κ] X w0 M0 I0 (LQ ((List.range n).map (fun i => x.q.getD i 0 * κ.q)) (u + m) M0 I0) := by
 refine eD (φ := bM κ m) hκ ?_
 refine eD (φ := bI (x).p (recs eR (x).es)) (Hv.lsl aC) ?_
 refine bE Tryz.func51 rfl Tryz.ntmps51 rfl ?_
 refine aL ?_
 refine aM ?_
 (refine aR rfl rfl rfl ?_; intro b3; refine ⟨okF, ?_⟩)
 repeat (refine aJ ?_)
 (refine aCI n rfl rfl (by omega) (by omega) (by omega) rfl rfl ?_; intro b; refine ⟨okF, ?_⟩)
 refine fI (φ := fE [] (u + m)) Hv.nilR ?_
 repeat (refine aJ ?_)
 rw [hl]
 refine bG [3, 11, 12] rfl (fun k G M I => ∃ (i : Nat) (es : List RE) (q : Option Addr) (c : Nat), i ≤ n ∧ k = n - i ∧ es.length = i ∧ qs es = (List.range i).map (fun i => x.q.getD i 0 * κ.q) ∧ G = [(5, .slice q es.length c), (13, .int .i64 i)] ∧ M = .row q es.length c (recs eR es) 37 4 :: .blk b3 (eR κ) 37 :: M0 ∧ I = fE es (u + m) :: bI x.p (recs eR x.es) :: bM κ m :: I0) (n) _ _ _ aO aD aF (⟨0, [], _, _, by omega, rfl, rfl, rfl, rfl, rfl, rfl⟩) ?_
 rintro kk G M I ⟨i, es, q, c, hi, rfl, hel, heq, rfl, rfl, rfl⟩
 by_cases hin : i < n
 ·have hM := fun M0 I0 h1 h2 => mF (X := X) (w0 := w0) (M0 := M0) (I0 := I0) (a := gt x.es (i : Int)) (b := κ) (k := u) (m := m) (by omega) h1 h2
  refine fD (φ := bM (gt x.es (i : Int)) u) ⟨fun X w hw => ((hw _ (by exact List.Mem.tail _ (List.Mem.tail _ (List.Mem.tail _ hx))) : IsL x u X w)).el _ (dX (by omega))⟩ ?_
  repeat (refine aJ ?_)
  (refine aB rfl rfl ?_; intro b7; refine ⟨okF, ?_⟩)
  repeat (refine aJ ?_)
  (refine aA rfl (hM _ _ (Hv.mem aC) (Hv.mem aC)) rfl rfl ?_; rintro _ _ _ ⟨rfl, e, rfl, he, rfl⟩; refine ⟨okF, ?_⟩)
  (refine bO (cs := recs eR [e]) ([rv e]) rfl rfl (by intro v hv; repeat (first | exact absurd hv (List.not_mem_nil) | (rcases List.mem_cons.1 hv with rfl | hv; · rfl))) (by omega) rfl rfl rfl ?_; intro b; refine ⟨okF, ?_⟩)
  (refine eQ (ys := [e]) 2 rfl rfl rfl ?_ (by decide) rfl (by omega) (by omega) rfl rfl ?_; (· first | exact Src.blk aC | exact Src.row aC | exact Src.imm aC (by first | assumption | exact .inl (Ok.mk _ _))); intro q2 c2; refine ⟨okF, ?_⟩)
  repeat (refine aJ ?_)
  refine bJ (φ := fE (es ++ [e]) (u + m)) (Hv.snoc aC aC) ?_
  refine aS (n - (i + 1)) _ _ _ (by first | omega | (simp only [List.length_append, List.length_cons, List.length_nil]; omega)) aO aD aF (⟨i + 1, es ++ [e], q2, c2, by omega, rfl, by simp; omega, ?_, rfl, rfl, rfl⟩)
  rw [List.range_succ, List.map_append, ← heq]
  show (es ++ [e]).map RE.q = qs es ++ [x.q.getD i 0 * κ.q]
  rw [List.map_append, kH (by omega), ← he]
  rfl
 ·obtain rfl : i = n := by omega
  repeat (refine aJ ?_)
  refine aBO (k := u + m) aC ?_
  refine aQ (by first | exact .inl rfl | exact .inr rfl) rfl rfl _ _ aD aF (⟨rfl, ⟨q, c, es⟩, rfl, heq, rfl⟩)
def aLH (ls : List RL) : List Rat := ls.flatMap RL.q
theorem aBP {q0 : Option Addr} {c0 u n : Nat} {ls : List RL} (hn : ls.length = n) (hn2 : n ≤ 100) (hs : ∀ r ∈ ls, r.es.length ≤ 100) (hq : bI q0 (recs eL ls) ∈ I0) (ha : kG ls u ∈ I0) :
  CD Tryz.prog 46 [.slice q0 n c0] X w0 M0 I0 (LQ (aLH ls) u M0 I0) := by
 refine pW (φ := ∀ r ∈ ls, Cap r.p r.es.length r.c) (fun w hw r hr => ((((hw.imm _ ha).2 : AllL ls u _ w)).go r hr).cap) (fun hcap => ?_)
 refine cO Tryz.func46 rfl Tryz.ntmps46 rfl ?_
 repeat (refine aJ ?_)
 refine kT 37 4 ?_
 refine fD (φ := fE [] u) Hv.nilR ?_
 repeat (refine aJ ?_)
 refine bG [6, 7] rfl (fun k G M I => ∃ (i : Nat) (es : List RE) (q : Option Addr) (c : Nat), i ≤ n ∧ k = n - i ∧ es.length ≤ 100 * i ∧ qs es = aLH (ls.take i) ∧ G = [(3, .slice q es.length c), (8, .int .i64 i)] ∧ M = .row q es.length c (recs eR es) 37 4 :: M0 ∧ I = fE es u :: I0) (n) _ _ _ aO aD aF (⟨0, [], none, 0, by omega, rfl, by simp, by simp [aLH], rfl, rfl, rfl⟩) ?_
 rintro kk G M I ⟨i, es, q, c, hi, rfl, hel, heq, rfl, rfl, rfl⟩
 by_cases hin : i < n
 ·have hcp := (hcap _ (dX (ms := ls) (i := (i : Int)) (by omega))).2
  have hle := hs _ (dX (ms := ls) (i := (i : Int)) (by omega))
  refine fD (φ := bI (gt ls (i : Int)).p (recs eR (gt ls (i : Int)).es)) ⟨fun X w hw => ⟨((hw _ (List.Mem.tail _ ha) : AllL ls u X w).go _ (dX (by omega))).sl⟩⟩ ?_
  refine fD (φ := fE (gt ls (i : Int)).es u) ⟨fun X w hw => ⟨((hw _ (List.Mem.tail _ (List.Mem.tail _ ha)) : AllL ls u X w).go _ (dX (by omega))).el⟩⟩ ?_
  repeat (refine aJ ?_)
  (refine eQ (enc := eR) (ys := (gt ls (i : Int)).es) 0 rfl rfl rfl (Src.imm aC hcp) (by decide) rfl (by omega) (by omega) rfl rfl ?_; intro q1 c1; refine ⟨okF, ?_⟩)
  repeat (refine aJ ?_)
  refine bJ (φ := fE (es ++ (gt ls (i : Int)).es) u) ⟨fun X w hw => ⟨fun e he => by
   rcases List.mem_append.1 he with he | he
   ·exact (hw _ (List.Mem.tail _ (List.Mem.tail _ (List.Mem.head _))) : AllR es u X w).go e he
   ·exact (hw _ (List.Mem.head _) : AllR (gt ls (i : Int)).es u X w).go e he⟩⟩ ?_
  refine aS (n - (i + 1)) _ _ _ (by first | omega | (simp only [List.length_append, List.length_cons, List.length_nil]; omega)) aO aD aF (⟨i + 1, es ++ (gt ls (i : Int)).es, q1, c1, by omega, rfl, by simp; omega, ?_, rfl, rfl, rfl⟩)
  have ht : ls.take (i + 1) = ls.take i ++ [gt ls (i : Int)] := by rw [fH (by omega)]; exact (List.take_append_getElem (by omega)).symm
  rw [ht]
  unfold aLH at heq ⊢
  rw [List.flatMap_append, ← heq]
  simp
 ·obtain rfl : i = n := by omega
  repeat (refine aJ ?_)
  refine aBO (k := u) aC ?_
  refine aQ (by first | exact .inl rfl | exact .inr rfl) rfl rfl _ _ aD aF (⟨rfl, ⟨q, c, es⟩, rfl, by rw [← hn, List.take_length] at heq; exact heq, rfl⟩)
def shpC (m : WM) (x : WL) : Int := if x.good ∧ ∀ r ∈ m.rows, r.good then (if m.rows.length = 3 ∧ ∀ r ∈ m.rows, r.es.length = 4 then 0 else 4) else 1
theorem Hv.wlall {I : List aZ} {r : WL} (h : rJ r ∈ I) : Hv I (aCY r.es) := ⟨fun X w hw => ⟨(hw _ h : IsWL r X w).el⟩⟩
theorem wM {r : WL} (hs : r.sml) (hr : rJ r ∈ I0) : CD Tryz.prog 50 [lvW r] X w0 M0 I0 (fun v M I => M0 = M ∧ I0 = I ∧ v = .bool (B r.good)) := by
 refine uG (φ := bI r.p (recs eW r.es)) (Hv.wlsl hr) ?_
 exact qZ rfl hs.1 (fun e he => hs.2 e he) (List.Mem.head _) (Hv.wlall (List.Mem.tail _ hr))
theorem aIE {m : WM} {x : WL} (sm : m.sml) (sx : x.sml) (hm : wR m ∈ I0) (hx : rJ x ∈ I0) : CD Tryz.prog 44 [mvW m, lvW x] X w0 M0 I0 (fun v M I => M0 = M ∧ I0 = I ∧ v = .int .i64 (shpC m x)) := by
 have hlen := sm.1
 have hX := fun M0 I0 h => wM (X := X) (w0 := w0) (M0 := M0) (I0 := I0) (r := x) sx h
 refine uG (φ := bI m.p (recs eWL m.rows)) (Hv.wmsl hm) ?_
 refine bE Tryz.func44 rfl Tryz.ntmps44 rfl ?_
 repeat (refine aJ ?_)
 (refine aA rfl (hX _ _ aC) rfl rfl ?_; rintro _ _ _ ⟨rfl, rfl, rfl⟩; refine ⟨okF, ?_⟩)
 repeat (refine aJ ?_)
 have g5 : B x.good = B (x.good ∧ ∀ t : Nat, t < 0 → (gt m.rows (t : Int)).good) := gD ⟨fun h => ⟨h, fun t ht => by omega⟩, fun h => h.1⟩
 have g6 : B ((m.rows.length : Int) = 3) = B (m.rows.length = 3 ∧ ∀ t : Nat, t < 0 → (gt m.rows (t : Int)).es.length = 4) := gD ⟨fun h => ⟨by omega, fun t ht => by omega⟩, fun h => by omega⟩
 refine bG [14, 15] rfl (fun k G M I => ∃ (i : Nat) (b5 b6 : Bool), i ≤ m.rows.length ∧ k = m.rows.length - i ∧ b5 = B (x.good ∧ ∀ t : Nat, t < i → (gt m.rows (t : Int)).good) ∧ b6 = B (m.rows.length = 3 ∧ ∀ t : Nat, t < i → (gt m.rows (t : Int)).es.length = 4) ∧ G = [(5, .bool b5), (6, .bool b6), (16, .int .i64 i)] ∧ M0 = M ∧ I = bI m.p (recs eWL m.rows) :: I0) (m.rows.length) _ _ _ aO aD aF (⟨0, _, _, by omega, rfl, g5, g6, rfl, rfl, rfl⟩) ?_
 rintro kk G M I ⟨i, b5, b6, hi, rfl, rfl, rfl, rfl, rfl, rfl⟩
 by_cases hin : i < m.rows.length
 ·have hsr := sm.2 _ (dX (ms := m.rows) (i := (i : Int)) (by omega))
  have hRg := fun M0 I0 h => wM (X := X) (w0 := w0) (M0 := M0) (I0 := I0) (r := gt m.rows (i : Int)) hsr h
  refine fD (φ := rJ (gt m.rows (i : Int))) (Hv.wmrow (List.Mem.tail _ hm) (by omega)) ?_
  have last1 : ∀ {p : WL → Prop}, (∀ t : Nat, t < i + 1 → p (gt m.rows (t : Int))) ↔ (∀ t : Nat, t < i → p (gt m.rows (t : Int))) ∧ p (gt m.rows (i : Int)) := fun {p} =>
   ⟨fun h => ⟨fun t ht => h t (by omega), h i (by omega)⟩, fun h t ht => by
    by_cases e : t = i
    ·subst e; exact h.2
    ·exact h.1 t (by omega)⟩
  by_cases h1 : x.good ∧ ∀ t : Nat, t < i → (gt m.rows (t : Int)).good
  ·have e1 : B (x.good ∧ ∀ t : Nat, t < i + 1 → (gt m.rows (t : Int)).good) = B (gt m.rows (i : Int)).good := gD ⟨fun h => ((last1 (p := WL.good)).1 h.2).2, fun h => ⟨h1.1, (last1 (p := WL.good)).2 ⟨h1.2, h⟩⟩⟩
   rw [dG h1]
   by_cases h2 : m.rows.length = 3 ∧ ∀ t : Nat, t < i → (gt m.rows (t : Int)).es.length = 4
   ·have e2 : B (m.rows.length = 3 ∧ ∀ t : Nat, t < i + 1 → (gt m.rows (t : Int)).es.length = 4) = B (((gt m.rows (i : Int)).es.length : Int) = 4) := gD ⟨fun h => by have := ((last1 (p := fun r => r.es.length = 4)).1 h.2).2; omega, fun h => ⟨h2.1, (last1 (p := fun r => r.es.length = 4)).2 ⟨h2.2, by omega⟩⟩⟩
    rw [dG h2]
    repeat (refine aJ ?_)
    (refine aA rfl (hRg _ _ aC) rfl rfl ?_; rintro _ _ _ ⟨rfl, rfl, rfl⟩; refine ⟨okF, ?_⟩)
    repeat (refine aJ ?_)
    refine aS (m.rows.length - (i + 1)) _ _ _ (by first | omega | (simp only [List.length_append, List.length_cons, List.length_nil]; omega)) aO aD aF (⟨i + 1, _, _, by omega, rfl, e1.symm, e2.symm, rfl, rfl, rfl⟩)
   ·have e2 : B (m.rows.length = 3 ∧ ∀ t : Nat, t < i + 1 → (gt m.rows (t : Int)).es.length = 4) = false := bN (fun h => h2 ⟨h.1, ((last1 (p := fun r => r.es.length = 4)).1 h.2).1⟩)
    rw [bN h2]
    repeat (refine aJ ?_)
    (refine aA rfl (hRg _ _ aC) rfl rfl ?_; rintro _ _ _ ⟨rfl, rfl, rfl⟩; refine ⟨okF, ?_⟩)
    repeat (refine aJ ?_)
    refine aS (m.rows.length - (i + 1)) _ _ _ (by first | omega | (simp only [List.length_append, List.length_cons, List.length_nil]; omega)) aO aD aF (⟨i + 1, _, _, by omega, rfl, e1.symm, e2.symm, rfl, rfl, rfl⟩)
  ·have e1 : B (x.good ∧ ∀ t : Nat, t < i + 1 → (gt m.rows (t : Int)).good) = false := bN (fun h => h1 ⟨h.1, ((last1 (p := WL.good)).1 h.2).1⟩)
   rw [bN h1]
   by_cases h2 : m.rows.length = 3 ∧ ∀ t : Nat, t < i → (gt m.rows (t : Int)).es.length = 4
   ·have e2 : B (m.rows.length = 3 ∧ ∀ t : Nat, t < i + 1 → (gt m.rows (t : Int)).es.length = 4) = B (((gt m.rows (i : Int)).es.length : Int) = 4) := gD ⟨fun h => by have := ((last1 (p := fun r => r.es.length = 4)).1 h.2).2; omega, fun h => ⟨h2.1, (last1 (p := fun r => r.es.length = 4)).2 ⟨h2.2, by omega⟩⟩⟩
    rw [dG h2]
    repeat (refine aJ ?_)
    refine aS (m.rows.length - (i + 1)) _ _ _ (by first | omega | (simp only [List.length_append, List.length_cons, List.length_nil]; omega)) aO aD aF (⟨i + 1, _, _, by omega, rfl, e1.symm, e2.symm, rfl, rfl, rfl⟩)
   ·have e2 : B (m.rows.length = 3 ∧ ∀ t : Nat, t < i + 1 → (gt m.rows (t : Int)).es.length = 4) = false := bN (fun h => h2 ⟨h.1, ((last1 (p := fun r => r.es.length = 4)).1 h.2).1⟩)
    rw [bN h2]
    repeat (refine aJ ?_)
    refine aS (m.rows.length - (i + 1)) _ _ _ (by first | omega | (simp only [List.length_append, List.length_cons, List.length_nil]; omega)) aO aD aF (⟨i + 1, _, _, by omega, rfl, e1.symm, e2.symm, rfl, rfl, rfl⟩)
 ·obtain rfl : i = m.rows.length := by omega
  have all1 : ∀ {p : WL → Prop}, (∀ t : Nat, t < m.rows.length → p (gt m.rows (t : Int))) ↔ ∀ r ∈ m.rows, p r := fun {p} =>
   ⟨fun h => zC h, fun h t ht => h _ (dX (by omega))⟩
  unfold shpC
  have e1 : (x.good ∧ ∀ t : Nat, t < m.rows.length → (gt m.rows (t : Int)).good) ↔ (x.good ∧ ∀ r ∈ m.rows, r.good) := and_congr Iff.rfl all1
  have e2 : (m.rows.length = 3 ∧ ∀ t : Nat, t < m.rows.length → (gt m.rows (t : Int)).es.length = 4) ↔ (m.rows.length = 3 ∧ ∀ r ∈ m.rows, r.es.length = 4) := and_congr Iff.rfl (all1 (p := fun r => r.es.length = 4))
  by_cases h1 : x.good ∧ ∀ r ∈ m.rows, r.good
  ·rw [dG (e1.2 h1), if_pos h1]
   by_cases h2 : m.rows.length = 3 ∧ ∀ r ∈ m.rows, r.es.length = 4
   ·rw [dG (e2.2 h2), if_pos h2]
    repeat (refine aJ ?_)
    refine aQ (by first | exact .inl rfl | exact .inr rfl) rfl rfl _ _ aD aF (⟨rfl, rfl, rfl⟩)
   ·rw [bN (fun h => h2 (e2.1 h)), if_neg h2]
    repeat (refine aJ ?_)
    refine aQ (by first | exact .inl rfl | exact .inr rfl) rfl rfl _ _ aD aF (⟨rfl, rfl, rfl⟩)
  ·rw [bN (fun h => h1 (e1.1 h)), if_neg h1]
   repeat (refine aJ ?_)
   refine aQ (by first | exact .inl rfl | exact .inr rfl) rfl rfl _ _ aD aF (⟨rfl, rfl, rfl⟩)
end
end Go.Proofs.YtkccjglmnhgabaaGreat
namespace Go.Proofs.YtkccjglmnhgabaaGreat
open Go Go.Fx
structure CE where
 a : RE
 b : PE
instance : Inhabited CE := ⟨⟨default, default⟩⟩
abbrev eC (c : CE) : List Value := [.bool (B (c.a.q.num < 0)), .slice c.a.p1 (gr c.a.q.num.natAbs).length c.a.c1, .bool (B ((c.a.q.den : Int) < 0)), .slice c.a.p2 (gr (c.a.q.den : Int).natAbs).length c.a.c2, .bool (B (c.b.x.q.num < 0)), .slice c.b.x.p1 (gr c.b.x.q.num.natAbs).length c.b.x.c1, .bool (B ((c.b.x.q.den : Int) < 0)), .slice c.b.x.p2 (gr (c.b.x.q.den : Int).natAbs).length c.b.x.c2, .bool (B (c.b.y.q.num < 0)), .slice c.b.y.p1 (gr c.b.y.q.num.natAbs).length c.b.y.c1, .bool (B ((c.b.y.q.den : Int) < 0)), .slice c.b.y.p2 (gr (c.b.y.q.den : Int).natAbs).length c.b.y.c2]
instance : Sized eC 12 := ⟨fun _ => rfl⟩
abbrev cv (c : CE) : Value := .agg (eC c).toArray
section
variable {X : List Nat} {w0 : World} {M0 : List Ent} {I0 : List aZ}
theorem wB {p : PE} {own org : RE} {k s : Nat} (hk : 4 * s + 2 * k + 3 ≤ 400000000000) (hp : Hv I0 (cZ p k)) (ho : Hv I0 (bM own s)) (hr : Hv I0 (bM org s)) :
  CD Tryz.prog 88 [pv p, rv own, rv org] X w0 M0 I0 (fun v M I => M0 = M ∧ ∃ c : CE, v = cv c ∧ c.a.q = cnA own.q org.q ∧ c.b.v = cnB p.v own.q org.q ∧ I = cZ c.b (4 * s + 2 * k + 3) :: bM c.a (2 * s + 1) :: I0) := by
 have hS := fun M0 I0 => vO (X := X) (w0 := w0) (M0 := M0) (I0 := I0) (a := own) (b := org) (k := s) (m := s) (by omega)
 have hW := fun M0 I0 => mV (X := X) (w0 := w0) (M0 := M0) (I0 := I0) (x := 1) (by decide) (k := 0) (by decide)
 have hM := fun M0 I0 => mF (X := X) (w0 := w0) (M0 := M0) (I0 := I0) (a := own) (b := org) (k := s) (m := s) (by omega)
 have hA := fun e1 e2 M0 I0 => tV (X := X) (w0 := w0) (M0 := M0) (I0 := I0) (a := e1) (b := e2) (k := 0) (m := s + s) (by omega)
 have hSd := fun M0 I0 => sG (X := X) (w0 := w0) (M0 := M0) (I0 := I0) (a := p) (k := k) (by omega)
 have hN := fun e8 M0 I0 => vW (X := X) (w0 := w0) (M0 := M0) (I0 := I0) (e := e8) (k := 0 + (s + s) + 1) (by omega)
 have hC1 := fun p1 e9 M0 I0 => nJ (X := X) (w0 := w0) (M0 := M0) (I0 := I0) (a := p1) (b := e9) (k := k) (m := 0 + (s + s) + 1) (by omega)
 have hC2 := fun e7 M0 I0 => nJ (X := X) (w0 := w0) (M0 := M0) (I0 := I0) (a := p) (b := e7) (k := k) (m := s + s + 1) (by omega)
 have hMi := fun p2 p3 M0 I0 => nE (X := X) (w0 := w0) (M0 := M0) (I0 := I0) (a := p2) (b := p3) (k := 0 + (s + s) + 1 + k) (m := s + s + 1 + k) (by omega)
 refine eD hp (eD ho.cons (eD hr.cons.cons ?_))
 refine oL Tryz.func88 rfl Tryz.ntmps88 rfl ?_
 refine aL ?_
 refine aM ?_
 (refine aR rfl rfl rfl ?_; intro b3; refine ⟨okF, ?_⟩)
 (refine aR rfl rfl rfl ?_; intro b4; refine ⟨okF, ?_⟩)
 (refine aR rfl rfl rfl ?_; intro b5; refine ⟨okF, ?_⟩)
 (refine aB rfl rfl ?_; intro b6; refine ⟨okF, ?_⟩)
 repeat (refine aJ ?_)
 (refine aA rfl (hS _ _ fK fK) rfl rfl ?_; rintro _ _ _ ⟨rfl, e7, rfl, he7, rfl⟩; refine ⟨okF, ?_⟩)
 (refine aB rfl rfl ?_; intro b7; refine ⟨okF, ?_⟩)
 repeat (refine aJ ?_)
 refine kU (fun G M I => ∃ (b8 : Nat) (e8 : RE), e8.q = 1 + own.q * org.q ∧ G = [(3, .pointer (some ⟨b3, 0, none⟩)), (6, .pointer (some ⟨b6, 0, none⟩)), (7, .pointer (some ⟨b7, 0, none⟩)), (8, .pointer (some ⟨b8, 0, none⟩))] ∧ M = .blk b8 (eR e8) 37 :: .blk b7 (eR e7) 37 :: .blk b6 [.bool false, .slice none 0 0, .bool false, .slice none 0 0, .bool false, .slice none 0 0, .bool false, .slice none 0 0, .bool false, .slice none 0 0, .bool false, .slice none 0 0] 139 :: .blk b3 (eP p) 43 :: M0 ∧ I = bM e8 (0 + (s + s) + 1) :: bM e7 (s + s + 1) :: bM org s :: bM own s :: cZ p k :: I0) ?_ ?_
 ·((repeat refine aL ?_); refine iL (.blk b5 (eR org) 37 :: .blk b4 (eR own) 37 :: M0) (bM org s :: bM own s :: cZ p k :: I0) mixed ?_)
  refine bH (fuel := 5) (listed' := #[false, true, true, false, false, false, false]) [1, 2] [3, 3] aD aF (by kernel_rfl) (by kernel_rfl) rfl rfl ?_
  repeat (refine aJ ?_)
  refine aK (fuel := 4) (i := 0) (j := 5) (by kernel_rfl) ?_ ?_
  ·(refine aA rfl (hW _ _) rfl rfl ?_; rintro _ _ _ ⟨rfl, e1, rfl, he1, rfl⟩; refine ⟨okF, ?_⟩)
   refine aI ?_
   repeat (refine aJ ?_)
   refine aK (fuel := 3) (i := 3) (j := 5) (by kernel_rfl) ?_ ?_
   ·(refine aA rfl (hM _ _ fK fK) rfl rfl ?_; rintro _ _ _ ⟨rfl, e2, rfl, he2, rfl⟩; refine ⟨okF, ?_⟩)
    refine aI ?_
    repeat (refine aJ ?_)
    refine aK (fuel := 2) (i := 4) (j := 5) (by kernel_rfl) ?_ ?_
    ·(refine aA rfl (hA e1 e2 _ _ fK fK) rfl rfl ?_; rintro _ _ _ ⟨rfl, e8, rfl, he8, rfl⟩; refine ⟨okF, ?_⟩)
     refine aI ?_
     refine aG [5, 6] [0, 0] aD aF (by kernel_rfl) (by kernel_rfl) rfl rfl ?_
     repeat (refine aJ ?_)
     (refine aB rfl rfl ?_; intro b8; refine ⟨okF, ?_⟩)
     repeat (refine aJ ?_)
     refine aN _ _ _ aO aD aF ⟨b8, e8, by rw [he8, he1, he2]; rfl, rfl, rfl, rfl⟩
    ·(refine aB rfl rfl ?_; intro b8; refine ⟨okF, ?_⟩)
     refine aI ?_
     refine aG [4, 6] [0, 0] aD aF (by kernel_rfl) (by kernel_rfl) rfl rfl ?_
     repeat (refine aJ ?_)
     (refine aA rfl (hA e1 e2 _ _ fK fK) rfl rfl ?_; rintro _ _ _ ⟨rfl, e8, rfl, he8, rfl⟩; refine ⟨okF, ?_⟩)
     repeat (refine aJ ?_)
     refine aN _ _ _ aO aD aF ⟨b8, e8, by rw [he8, he1, he2]; rfl, rfl, rfl, rfl⟩
   ·(refine aB rfl rfl ?_; intro b8; refine ⟨okF, ?_⟩)
    refine aI ?_
    refine aG [3, 4, 6] [0, 0, 0] aD aF (by kernel_rfl) (by kernel_rfl) rfl rfl ?_
    repeat (refine aJ ?_)
    (refine aA rfl (hM _ _ fK fK) rfl rfl ?_; rintro _ _ _ ⟨rfl, e2, rfl, he2, rfl⟩; refine ⟨okF, ?_⟩)
    repeat (refine aJ ?_)
    (refine aA rfl (hA e1 e2 _ _ fK fK) rfl rfl ?_; rintro _ _ _ ⟨rfl, e8, rfl, he8, rfl⟩; refine ⟨okF, ?_⟩)
    repeat (refine aJ ?_)
    refine aN _ _ _ aO aD aF ⟨b8, e8, by rw [he8, he1, he2]; rfl, rfl, rfl, rfl⟩
  ·(refine aB rfl rfl ?_; intro b8; refine ⟨okF, ?_⟩)
   refine aI ?_
   refine aG [0, 3, 4, 6] [0, 0, 0, 0] aD aF (by kernel_rfl) (by kernel_rfl) rfl rfl ?_
   repeat (refine aJ ?_)
   (refine aA rfl (hW _ _) rfl rfl ?_; rintro _ _ _ ⟨rfl, e1, rfl, he1, rfl⟩; refine ⟨okF, ?_⟩)
   repeat (refine aJ ?_)
   (refine aA rfl (hM _ _ fK fK) rfl rfl ?_; rintro _ _ _ ⟨rfl, e2, rfl, he2, rfl⟩; refine ⟨okF, ?_⟩)
   repeat (refine aJ ?_)
   (refine aA rfl (hA e1 e2 _ _ fK fK) rfl rfl ?_; rintro _ _ _ ⟨rfl, e8, rfl, he8, rfl⟩; refine ⟨okF, ?_⟩)
   repeat (refine aJ ?_)
   refine aN _ _ _ aO aD aF ⟨b8, e8, by rw [he8, he1, he2]; rfl, rfl, rfl, rfl⟩
 ·rintro G M I ⟨b8, e8, he8, rfl, rfl, rfl⟩
  refine oF (fun G M I => ∃ (b9 : Nat) (p9 : PE), p9.v = cnB p.v own.q org.q ∧ G = [(6, .pointer (some ⟨b6, 0, none⟩)), (7, .pointer (some ⟨b7, 0, none⟩)), (9, .pointer (some ⟨b9, 0, none⟩))] ∧ M = .blk b9 (eP p9) 43 :: .blk b7 (eR e7) 37 :: .blk b6 [.bool false, .slice none 0 0, .bool false, .slice none 0 0, .bool false, .slice none 0 0, .bool false, .slice none 0 0, .bool false, .slice none 0 0, .bool false, .slice none 0 0] 139 :: M0 ∧ I = cZ p9 (0 + (s + s) + 1 + k + (s + s + 1 + k) + 1) :: bM e7 (s + s + 1) :: I0) ?_ ?_
  ·((repeat refine aL ?_); refine iL (.blk b8 (eR e8) 37 :: .blk b7 (eR e7) 37 :: .blk b3 (eP p) 43 :: M0) (bM e8 (0 + (s + s) + 1) :: bM e7 (s + s + 1) :: bM org s :: bM own s :: cZ p k :: I0) mixed ?_)
   refine bH (fuel := 7) (listed' := #[true, false, true, false, false, true, true, false, false, false, false]) [0, 2, 5, 6] [5, 5, 5, 5] aD aF (by kernel_rfl) (by kernel_rfl) rfl rfl ?_
   repeat (refine aJ ?_)
   refine aK (fuel := 6) (i := 1) (j := 9) (by kernel_rfl) ?_ ?_
   ·(refine aA rfl (hSd _ _ fK) rfl rfl ?_; rintro _ _ _ ⟨rfl, p1, rfl, hp1, rfl⟩; refine ⟨okF, ?_⟩)
    refine aI ?_
    repeat (refine aJ ?_)
    refine aK (fuel := 5) (i := 3) (j := 9) (by kernel_rfl) ?_ ?_
    ·(refine aA rfl (hN e8 _ _ fK) rfl rfl ?_; rintro _ _ _ ⟨rfl, e9, rfl, he9, rfl⟩; refine ⟨okF, ?_⟩)
     refine aI ?_
     repeat (refine aJ ?_)
     refine aK (fuel := 4) (i := 4) (j := 9) (by kernel_rfl) ?_ ?_
     ·(refine aA rfl (hC1 p1 e9 _ _ fK fK) rfl rfl ?_; rintro _ _ _ ⟨rfl, p2, rfl, hp2, rfl⟩; refine ⟨okF, ?_⟩)
      refine aI ?_
      repeat (refine aJ ?_)
      refine aK (fuel := 3) (i := 7) (j := 9) (by kernel_rfl) ?_ ?_
      ·(refine aA rfl (hC2 e7 _ _ fK fK) rfl rfl ?_; rintro _ _ _ ⟨rfl, p3, rfl, hp3, rfl⟩; refine ⟨okF, ?_⟩)
       refine aI ?_
       repeat (refine aJ ?_)
       refine aK (fuel := 2) (i := 8) (j := 9) (by kernel_rfl) ?_ ?_
       ·(refine aA rfl (hMi p2 p3 _ _ fK fK) rfl rfl ?_; rintro _ _ _ ⟨rfl, p9, rfl, hp9, rfl⟩; refine ⟨okF, ?_⟩)
        refine aI ?_
        refine aG [9, 10] [0, 0] aD aF (by kernel_rfl) (by kernel_rfl) rfl rfl ?_
        repeat (refine aJ ?_)
        (refine aB rfl rfl ?_; intro b9; refine ⟨okF, ?_⟩)
        repeat (refine aJ ?_)
        refine aN _ _ _ aO aD aF ⟨b9, p9, by rw [hp9, hp2, hp3, hp1, he9, he8, he7]; rfl, rfl, rfl, rfl⟩
       ·(refine aB rfl rfl ?_; intro b9; refine ⟨okF, ?_⟩)
        refine aI ?_
        refine aG [8, 10] [0, 0] aD aF (by kernel_rfl) (by kernel_rfl) rfl rfl ?_
        repeat (refine aJ ?_)
        (refine aA rfl (hMi p2 p3 _ _ fK fK) rfl rfl ?_; rintro _ _ _ ⟨rfl, p9, rfl, hp9, rfl⟩; refine ⟨okF, ?_⟩)
        repeat (refine aJ ?_)
        refine aN _ _ _ aO aD aF ⟨b9, p9, by rw [hp9, hp2, hp3, hp1, he9, he8, he7]; rfl, rfl, rfl, rfl⟩
      ·(refine aB rfl rfl ?_; intro b9; refine ⟨okF, ?_⟩)
       refine aI ?_
       refine aG [7, 8, 10] [0, 0, 0] aD aF (by kernel_rfl) (by kernel_rfl) rfl rfl ?_
       repeat (refine aJ ?_)
       (refine aA rfl (hC2 e7 _ _ fK fK) rfl rfl ?_; rintro _ _ _ ⟨rfl, p3, rfl, hp3, rfl⟩; refine ⟨okF, ?_⟩)
       repeat (refine aJ ?_)
       (refine aA rfl (hMi p2 p3 _ _ fK fK) rfl rfl ?_; rintro _ _ _ ⟨rfl, p9, rfl, hp9, rfl⟩; refine ⟨okF, ?_⟩)
       repeat (refine aJ ?_)
       refine aN _ _ _ aO aD aF ⟨b9, p9, by rw [hp9, hp2, hp3, hp1, he9, he8, he7]; rfl, rfl, rfl, rfl⟩
     ·(refine aB rfl rfl ?_; intro b9; refine ⟨okF, ?_⟩)
      refine aI ?_
      refine aG [4, 7, 8, 10] [0, 0, 0, 0] aD aF (by kernel_rfl) (by kernel_rfl) rfl rfl ?_
      repeat (refine aJ ?_)
      (refine aA rfl (hC1 p1 e9 _ _ fK fK) rfl rfl ?_; rintro _ _ _ ⟨rfl, p2, rfl, hp2, rfl⟩; refine ⟨okF, ?_⟩)
      repeat (refine aJ ?_)
      (refine aA rfl (hC2 e7 _ _ fK fK) rfl rfl ?_; rintro _ _ _ ⟨rfl, p3, rfl, hp3, rfl⟩; refine ⟨okF, ?_⟩)
      repeat (refine aJ ?_)
      (refine aA rfl (hMi p2 p3 _ _ fK fK) rfl rfl ?_; rintro _ _ _ ⟨rfl, p9, rfl, hp9, rfl⟩; refine ⟨okF, ?_⟩)
      repeat (refine aJ ?_)
      refine aN _ _ _ aO aD aF ⟨b9, p9, by rw [hp9, hp2, hp3, hp1, he9, he8, he7]; rfl, rfl, rfl, rfl⟩
    ·(refine aB rfl rfl ?_; intro b9; refine ⟨okF, ?_⟩)
     refine aI ?_
     refine aG [3, 4, 7, 8, 10] [0, 0, 0, 0, 0] aD aF (by kernel_rfl) (by kernel_rfl) rfl rfl ?_
     repeat (refine aJ ?_)
     (refine aA rfl (hN e8 _ _ fK) rfl rfl ?_; rintro _ _ _ ⟨rfl, e9, rfl, he9, rfl⟩; refine ⟨okF, ?_⟩)
     repeat (refine aJ ?_)
     (refine aA rfl (hC1 p1 e9 _ _ fK fK) rfl rfl ?_; rintro _ _ _ ⟨rfl, p2, rfl, hp2, rfl⟩; refine ⟨okF, ?_⟩)
     repeat (refine aJ ?_)
     (refine aA rfl (hC2 e7 _ _ fK fK) rfl rfl ?_; rintro _ _ _ ⟨rfl, p3, rfl, hp3, rfl⟩; refine ⟨okF, ?_⟩)
     repeat (refine aJ ?_)
     (refine aA rfl (hMi p2 p3 _ _ fK fK) rfl rfl ?_; rintro _ _ _ ⟨rfl, p9, rfl, hp9, rfl⟩; refine ⟨okF, ?_⟩)
     repeat (refine aJ ?_)
     refine aN _ _ _ aO aD aF ⟨b9, p9, by rw [hp9, hp2, hp3, hp1, he9, he8, he7]; rfl, rfl, rfl, rfl⟩
   ·(refine aB rfl rfl ?_; intro b9; refine ⟨okF, ?_⟩)
    refine aI ?_
    refine aG [1, 3, 4, 7, 8, 10] [0, 0, 0, 0, 0, 0] aD aF (by kernel_rfl) (by kernel_rfl) rfl rfl ?_
    repeat (refine aJ ?_)
    (refine aA rfl (hSd _ _ fK) rfl rfl ?_; rintro _ _ _ ⟨rfl, p1, rfl, hp1, rfl⟩; refine ⟨okF, ?_⟩)
    repeat (refine aJ ?_)
    (refine aA rfl (hN e8 _ _ fK) rfl rfl ?_; rintro _ _ _ ⟨rfl, e9, rfl, he9, rfl⟩; refine ⟨okF, ?_⟩)
    repeat (refine aJ ?_)
    (refine aA rfl (hC1 p1 e9 _ _ fK fK) rfl rfl ?_; rintro _ _ _ ⟨rfl, p2, rfl, hp2, rfl⟩; refine ⟨okF, ?_⟩)
    repeat (refine aJ ?_)
    (refine aA rfl (hC2 e7 _ _ fK fK) rfl rfl ?_; rintro _ _ _ ⟨rfl, p3, rfl, hp3, rfl⟩; refine ⟨okF, ?_⟩)
    repeat (refine aJ ?_)
    (refine aA rfl (hMi p2 p3 _ _ fK fK) rfl rfl ?_; rintro _ _ _ ⟨rfl, p9, rfl, hp9, rfl⟩; refine ⟨okF, ?_⟩)
    repeat (refine aJ ?_)
    refine aN _ _ _ aO aD aF ⟨b9, p9, by rw [hp9, hp2, hp3, hp1, he9, he8, he7]; rfl, rfl, rfl, rfl⟩
  ·rintro G M I ⟨b9, p9, hp9, rfl, rfl, rfl⟩
   refine aL ?_
   refine aM ?_
   repeat (refine aJ ?_)
   (refine aH rfl (fun _ => jP (vals := [rv e7, pv p9]) (cells := eC ⟨e7, p9⟩) rfl ?hpl rfl ?hz) rfl rfl ?_; (case hpl => repeat (first | exact True.intro | refine ⟨rfl, ?_⟩)); (case hz => rfl))
   repeat (refine aJ ?_)
   refine bJ (φ := bM e7 (2 * s + 1)) fK (bJ (φ := cZ p9 (4 * s + 2 * k + 3)) fK ?_)
   refine bK (cs := eC ⟨e7, p9⟩) (.inl rfl) rfl rfl aC rfl M0 (cZ p9 (4 * s + 2 * k + 3) :: bM e7 (2 * s + 1) :: I0) aD aF ⟨rfl, ⟨e7, p9⟩, rfl, he7, hp9, rfl⟩
end
end Go.Proofs.YtkccjglmnhgabaaGreat

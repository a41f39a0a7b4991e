/- The symbolic heap, continued: regions with stores behind all reads, cells with a tail, rows as blocks. The symbolic heap, continued: drawn regions that lean on a part of the heap. The symbolic heap, continued: scopes, results that lie in cells, structs' lists compared. The side conditions of the walk. Printed by pre.py. A premise that no search takes for another; looks alone. The walk, kept once. Functions of Go's slices package, at slices of ints and the like. -/
import Derived.Test.YtegaegipekonmaaZcae
import Derived.Scope
import Derived.Test.YtegaegipekonmaaZcad
set_option linter.unusedSimpArgs false
set_option linter.unusedVariables false
namespace Go.Fx

/-- a region whose reads all come ahead of what it turns -/
def Cs1 (X : List Nat) (w0 : World) (M : List Ent) (I : List Imm) : Nat → World → Prop
  | 0, w => Mem X w0 M I w
  | _ + 1, _ => True
section
variable {P : Program} {n : Nat} {Q Q' : Exit → Act → World → Prop} {G : Env} {X : List Nat} {w0 : World} {M M' M1 : List Ent} {I I' I1 : List Imm}
theorem TD_drawn1 {id : Nat} {l : List Oper} (p ms : List Nat) (hx : P.follows .mixedOrders = true)
    (hp : (Region.noSelect l.toArray && orderOk l.toArray p ms (Array.replicate l.length false) && p.length == l.length) = true)
    (h : RD P n l Q (.any (Cs1 X w0 M I) 0 ms) (pick l p) G X w0 M I) : TD P n (.region id l.toArray true) Q G X w0 M I :=
  TD_drawnS (Cs1 X w0 M I) p ms hx (fun _ _ _ => True.intro) hp (fun _ h => h) h
theorem View.one {k : Nat} {ms : List Nat} (h : k + ms.headD 0 = 0) : View (.any (Cs1 X w0 M1 I1) k ms) X w0 M I M1 I1 := ⟨fun w w' _ hc => by
  have hc' : Cs1 X w0 M1 I1 (k + ms.headD 0) w' := hc
  rw [h] at hc'
  exact hc'⟩
theorem OkD.one {k : Nat} {ms : List Nat} : OkD (.any (Cs1 X w0 M1 I1) k ms) X w0 M I := ⟨fun _ _ => True.intro⟩

/- cells with a tail -/
theorem At.app {cs tl : List Value} {o : Nat} {v : Value} (h : At cs o v) : At (cs ++ tl) o v := ⟨by
  have := h.get
  rw [List.getElem?_append_left (List.getElem?_eq_some_iff.1 this).1]; exact this⟩
theorem Ats.app {cs tl vs : List Value} {o : Nat} (h : Ats cs o vs) : Ats (cs ++ tl) o vs := ⟨fun j v hj => by
  have := h.get j v hj
  rw [List.getElem?_append_left (List.getElem?_eq_some_iff.1 this).1]; exact this⟩
theorem StAt.app {cs cs' tl : List Value} {o : Nat} {v : Value} (h : StAt cs o v cs') : StAt (cs ++ tl) o v (cs' ++ tl) := by
  obtain ⟨h1, h2⟩ := h.out
  exact ⟨by rw [List.set_append_left _ _ h2, h1], by rw [List.length_append]; omega⟩
theorem StAts.app {cs cs' tl vs : List Value} {o : Nat} (h : StAts cs o vs cs') : StAts (cs ++ tl) o vs (cs' ++ tl) := by
  obtain ⟨h1, h2⟩ := h.out
  refine ⟨?_, by rw [List.length_append]; omega⟩
  unfold splice at *
  rw [List.take_append_of_le_length (by omega), List.drop_append_of_le_length (by omega), ← h1]
  simp
/-- what a row's slice holds, as a block -/
theorem Mem.rowBlk {w : World} {a : Option Addr} {mm c : Nat} {cs : List Value} {e : TypeId} {sz : Nat} (h : Mem X w0 (.row a mm c cs e sz :: M) I w) : (a = none ∧ mm = 0 ∧ cs = []) ∨ ∃ b tl, a = some ⟨b, 0, none⟩ ∧ mm ≤ c ∧ Mem X w0 (.blk b (cs ++ tl) e :: M) I w := by
  have ho : w.ownsRow 0 e sz (.slice a mm c) mm cs := h.ent _ List.mem_cons_self
  rcases ho.2 with ⟨h1, h2⟩ | ⟨g, cap, cur, hv, _, hg, hmc, _, hsz, htake⟩
  · injection h1 with e1 e2 e3
    exact .inl ⟨e1, h2, List.eq_nil_of_length_eq_zero (by rw [ho.1, h2]; simp)⟩
  · injection hv with e1 e2 e3
    subst e1; subst e3
    refine .inr ⟨g, cur.toList.drop (mm * sz), rfl, hmc, ?_⟩
    have hcs : cs ++ cur.toList.drop (mm * sz) = cur.toList := by rw [← htake, List.take_append_drop]
    rw [hcs]
    refine h.upd (en := .row (some ⟨g, 0, none⟩) mm c cs e sz) (en' := .blk g cur.toList e) .here (Ext.refl _ _) (fun b hb => .inl (by simpa [Ent.blocks] using hb)) (by simp [Ent.blocks]) ?_
    show Blk w g cur.toList e
    simpa [Blk] using hg
theorem RD_rowBlk {ops l : List Oper} {m : Mode} {a : Option Addr} {mm c : Nat} {cs : List Value} {e : TypeId} {sz : Nat} (h0 : a = none → mm = 0 → cs = [] → RD P n ops Q m l G X w0 (.row a mm c cs e sz :: M) I) (h1 : ∀ b tl, a = some ⟨b, 0, none⟩ → mm ≤ c → RD P n ops Q m l G X w0 (.blk b (cs ++ tl) e :: M) I) : RD P n ops Q m l G X w0 (.row a mm c cs e sz :: M) I :=
  ⟨fun w hw => by
    rcases hw.rowBlk with ⟨e1, e2, e3⟩ | ⟨b, tl, e1, e2, hm⟩
    · exact (h0 e1 e2 e3).go w hw
    · exact (h1 b tl e1 e2).go w hm⟩
/-- a part of what is read -/
theorem Mem.takeI {w : World} {a : Option Addr} {cs tl : List Value} (h : Mem X w0 M I w) (hm : slI a (cs ++ tl) ∈ I) : Mem X w0 M (slI a cs :: I) w :=
  h.add (φ := slI a cs) ⟨by
    have := (h.sl hm).take cs.length
    rwa [List.take_left] at this⟩
theorem ND_takeI {ex : Exit} {a : Option Addr} {cs tl : List Value} (hm : slI a (cs ++ tl) ∈ I) (h : ND n Q ex G X w0 M (slI a cs :: I)) : ND n Q ex G X w0 M I := ND_m (fun _ hw => hw.takeI hm) h
theorem RD_fact {φ : Prop} {ops l : List Oper} {m : Mode} (h : ∀ w, Mem X w0 M I w → φ) (k : φ → RD P n ops Q m l G X w0 M I) : RD P n ops Q m l G X w0 M I := ⟨fun w hw => (k (h w hw)).go w hw⟩
/-- a call with entries brought to the front -/
theorem CD.sub {f : FuncId} {vs : List Value} {K : Value → List Ent → List Imm → Prop} (hM : SubP M M') (h : CD P f vs X w0 M' I K) : CD P f vs X w0 M I K := h.weak hM .refl
/-- a shift by one to the right -/
theorem Const_half {C : World → Prop} {ty : TypeId} {t t' : TypeId} {x y : Operand} {k k' : IntKind} {a : Int} (hx : ev G x = some (.int k a)) (hy : ev G y = some (.int k' 1)) : Const P n G (.binOp .shr t x y t') ty C (.int k (a / 2)) := by
  refine Const_shift hx hy (by omega) (.inr ⟨rfl, ?_⟩)
  have : min ((1 : Int).toNat) k.bits = 1 := by cases k <;> decide
  rw [this, Int.fdiv_eq_ediv_of_nonneg _ (by decide)]
  rfl
theorem Const_notB {C : World → Prop} {ty : TypeId} {t : TypeId} {x : Operand} {p : Prop} [Decidable p] (hx : ev G x = some (.bool (B p))) : Const P n G (.unOp .not t x) ty C (.bool (B (¬ p))) := by
  have := Const_pure (P := P) (n := n) (G := G) (ty := ty) (C := C) (op := .unOp .not t x) (v := .bool (!(B p))) (by simp [pureV, hx])
  rwa [show (!(B p)) = B (¬ p) by rw [B_eq, B_eq]; simp] at this
/-- reading what is only read, at a block's own address -/
theorem RD_ldIB {ops l : List Oper} {m : Mode} {ty : TypeId} {pos : String} {af : Array Edge} {g : Option (Nat × Bool)} {d : Nat} {t : TypeId} {x : Operand} {b o : Nat} {cs : List Value} {v : Value} [ScalarTy P t] (hv : View m X w0 M I M1 I1) (hx : ev G x = some (.pointer (some ⟨b, o, none⟩))) (hm : slI (some ⟨b, 0, none⟩) cs ∈ I1) (hc : At cs o v) (hg : gst ops G g = some true)
    (hd : Nat.ble (d + 1) n = true) (k : RD P n ops Q m.next l ((d, v) :: G) X w0 M I) : RD P n ops Q m (⟨some d, .load t x, ty, pos, af, g⟩ :: l) G X w0 M I :=
  RD_v hv hg (fun w hw => Const_load hx (fun w' e => by
    subst e
    have := (hw.sl hm).cell hc.get
    simpa [pt, bl, of] using this)) rfl hd k
theorem RD_ldNIB {ops l : List Oper} {m : Mode} {ty : TypeId} {pos : String} {af : Array Edge} {g : Option (Nat × Bool)} {d : Nat} {t : TypeId} {sz : Nat} {x : Operand} {b o : Nat} {cs vs : List Value} [AggTy P t sz] (hv : View m X w0 M I M1 I1) (hx : ev G x = some (.pointer (some ⟨b, o, none⟩))) (hm : slI (some ⟨b, 0, none⟩) cs ∈ I1) (hc : Ats cs o vs) (hl : vs.length = sz) (hg : gst ops G g = some true)
    (hd : Nat.ble (d + 1) n = true) (k : RD P n ops Q m.next l ((d, .agg vs.toArray) :: G) X w0 M I) : RD P n ops Q m (⟨some d, .load t x, ty, pos, af, g⟩ :: l) G X w0 M I :=
  RD_v hv hg (fun w hw => Const_loadN hx hl (fun w' e => by
    subst e
    have := Sl.rowAt (hw.sl hm) o vs hc.get
    simpa [bl, of] using this)) rfl hd k
end
end Go.Fx
namespace Go.Fx
section
variable {P : Program} {n : Nat} {Q Q' : Exit → Act → World → Prop} {G : Env} {X : List Nat} {w0 : World} {M M' M1 : List Ent} {I I' I1 : List Imm}
theorem TD_drawnW {id : Nat} {l : List Oper} (Ms : List Ent) (Is : List Imm) (p ms : List Nat) (hM : SubP M Ms) (hI : Inc I Is) (hx : P.follows .mixedOrders = true)
    (hp : (Region.noSelect l.toArray && orderOk l.toArray p ms (Array.replicate l.length false) && p.length == l.length) = true)
    (h : RD P n l Q (.any (Cst X w0 Ms Is) 0 ms) (pick l p) G X w0 M I) : TD P n (.region id l.toArray true) Q G X w0 M I :=
  TD_drawnS (Cst X w0 Ms Is) p ms hx (fun _ _ h => h) hp (fun _ h => h.weak hM hI) h
/- slices from the start -/
theorem Const_slice03 {C : World → Prop} {ty t e : TypeId} {sz : Nat} {x y z : Operand} {b o len c : Nat} {k k' : IntKind} {i j : Int} (h m : Nat) [ht : SliceTy P t e sz] (hx : ev G x = some (.slice (some ⟨b, o, none⟩) len c)) (hy : ev G y = some (.int k i)) (hz : ev G z = some (.int k' j)) (hi : i = h) (hj : j = m) (h1 : h ≤ m) (h2 : m ≤ c) :
    Const P n G (.slice t x none (some y) (some z)) ty C (.slice (some ⟨b, o, none⟩) h m) := by
  subst hi; subst hj
  refine ⟨?_⟩
  intro st ha dst pos after guard w _
  by_cases h0 : m = 0
  · have hh : h = 0 := by omega
    simp [execOp, Instr.sliceAt, Instr.slice, ha.ev hx, run_und ht.und, run_sizeOf ht.size, Instr.sliceBounds, Instr.sliceBound, asIntOf, ha.ev hy, ha.ev hz, h0, hh]
  · simp [execOp, Instr.sliceAt, Instr.slice, ha.ev hx, run_und ht.und, run_sizeOf ht.size, Instr.sliceBounds, Instr.sliceBound, asIntOf, ha.ev hy, ha.ev hz, h1, h2, h0, add_lit]
theorem Const_slice03n {C : World → Prop} {ty t e : TypeId} {sz : Nat} {x y z : Operand} {k k' : IntKind} {i j : Int} [ht : SliceTy P t e sz] (hx : ev G x = some (.slice none 0 0)) (hy : ev G y = some (.int k i)) (hz : ev G z = some (.int k' j)) (hi : i = 0) (hj : j = 0) :
    Const P n G (.slice t x none (some y) (some z)) ty C (.slice none 0 0) := by
  subst hi; subst hj
  refine ⟨?_⟩
  intro st ha dst pos after guard w _
  simp [execOp, Instr.sliceAt, Instr.slice, ha.ev hx, run_und ht.und, run_sizeOf ht.size, Instr.sliceBounds, Instr.sliceBound, asIntOf, ha.ev hy, ha.ev hz]
theorem Mem.rowC {w : World} {mm c : Nat} {cs : List Value} {e : TypeId} {sz : Nat} (h : Mem X w0 (.row none mm c cs e sz :: M) I w) : c = 0 := by
  have ho : w.ownsRow 0 e sz (.slice none mm c) mm cs := h.ent _ List.mem_cons_self
  rcases ho.2 with ⟨h1, h2⟩ | ⟨g, cap, cur, hv, _⟩
  · injection h1
  · injection hv with e1; cases e1
end
end Go.Fx
namespace Go.Fx
@[irreducible] def NoG (Q : Exit → Act → World → Prop) : Exit → Act → World → Prop := Exit.noGoto Q
section
variable {P : Program} {n : Nat} {Q Q' : Exit → Act → World → Prop} {G : Env} {X : List Nat} {w0 : World} {M M' M1 : List Ent} {I I' I1 : List Imm}
theorem TD_scope {c : Code} (h : TD P n c (NoG Q) G X w0 M I) : TD P n (.scope c) Q G X w0 M I := ⟨fun w hw => ⟨fun a ha => wp_scope_straight (by have := (h.go w hw).go a ha; unfold NoG at this; exact this)⟩⟩
theorem ND_noN (h : ND n Q .normal G X w0 M I) : ND n (NoG Q) .normal G X w0 M I := ⟨fun w hw => ⟨fun a ha => by unfold NoG; exact (h.go w hw).go a ha⟩⟩
theorem ND_noR (h : ND n Q .ret G X w0 M I) : ND n (NoG Q) .ret G X w0 M I := ⟨fun w hw => ⟨fun a ha => by unfold NoG; exact (h.go w hw).go a ha⟩⟩
theorem ND_noE {id : Nat} (h : ND n Q (.exit id) G X w0 M I) : ND n (NoG Q) (.exit id) G X w0 M I := ⟨fun w hw => ⟨fun a ha => by unfold NoG; exact (h.go w hw).go a ha⟩⟩

theorem results_cellN {fn : Func} {a : Tmp} {t : TypeId} {sz : Nat} {tmps : Array Value} {w : World} {b : Nat} {cs : List Value} {e : TypeId} [ht : AggTy P t sz] (h : fn.results = #[.cell a t]) (hb : tmps.getD a undef = .pointer (some ⟨b, 0, none⟩)) (hB : Blk w b cs e) (hl : cs.length = sz) :
    (results fn tmps).run P w = .ok (.agg cs.toArray) w := by
  have := run_loadCellsFrom (P := P) cs (hB.row0) sz 0 #[] (by omega) rfl
  have hb' : tmps[a]?.getD undef = .pointer (some ⟨b, 0, none⟩) := by simpa using hb
  simp [results, h, hb', asAddr, loadVar, run_isAgg_yes, run_sizeOf ht.size, loadCells, this]
theorem ND_retC {fn : Func} {K : Value → List Ent → List Imm → Prop} {ex : Exit} {a : Tmp} {t : TypeId} {sz b : Nat} {cs : List Value} {e : TypeId} [AggTy P t sz] (he : ex = .ret ∨ ex = .normal) (hr : fn.results = #[.cell a t]) (hv : lk G a = some (.pointer (some ⟨b, 0, none⟩))) (hm : .blk b cs e ∈ M) (hl : cs.length = sz) (M' : List Ent) (I' : List Imm) (hM : SubP M M') (hI : Inc I I') (h : K (.agg cs.toArray) M' I') :
    ND n (Body P fn (KB K X w0)) ex G X w0 M I := ⟨fun w hw => ⟨fun act ha => by
  unfold Body
  have e1 : act.tmps.getD a undef = .pointer (some ⟨b, 0, none⟩) := by simp [ha.get a _ hv]
  have e2 := results_cellN (P := P) (t := t) hr e1 (hw.blk hm) hl
  rcases he with rfl | rfl <;> exact ⟨ha.defers, _, e2, _, rfl, M', I', h, hw.weak hM hI⟩⟩⟩
theorem Const_neR {C : World → Prop} {ty t t' : TypeId} {x y : Operand} {α : Type} {enc : α → List Value} {ints : α → List Int} {a b : α} {m : Nat} [ht : IntStruct P t m] (he : ∀ u, enc u = i64s (ints u)) (hinj : ∀ u v, ints u = ints v → u = v) (hl : ∀ u, (ints u).length = m) (hd : Decidable (a ≠ b)) (hx : ev G x = some (.agg (enc a).toArray)) (hy : ev G y = some (.agg (enc b).toArray)) :
    Const P n G (.binOp .neq t x y t') ty C (.bool (@B (a ≠ b) hd)) := by
  rw [he] at hx hy
  have := Const_neI (t := t) (P := P) (n := n) (G := G) (ty := ty) (C := C) (t' := t') hx hy (hl a) (hl b)
  rwa [B_congr (show ints a ≠ ints b ↔ a ≠ b from ⟨fun h e => h (by rw [e]), fun h e => h (hinj a b e)⟩)] at this
end
end Go.Fx
namespace Go.Fx
section
variable {P : Program} {n : Nat} {Q : Exit → Act → World → Prop} {G G' : Env} {X : List Nat} {w0 : World} {M M' M1 : List Ent} {I I' I1 : List Imm} {m : Mode} {a b : Ent} {φ : Imm} {cs cs' vs : List Value} {o sz : Nat} {v : Value} {x y : Int} {kk : IntKind} {α : Type} {aa : α} {ll : List α}
theorem subP (h : SubP M M' := by repeat (first | exact SubP.refl | exact SubP.nil | refine SubP.cons (by first | exact .here | exact .there .here | exact .there (.there .here) | exact .there (.there (.there .here)) | exact .there (.there (.there (.there .here))) | exact .there (.there (.there (.there (.there .here)))) | exact .there (.there (.there (.there (.there (.there .here))))) | exact .there (.there (.there (.there (.there (.there (.there .here)))))) | exact .there (.there (.there (.there (.there (.there (.there (.there .here)))))))) ?_ | refine SubP.drop ?_)) : SubP M M' := h
theorem incL (h : Inc I I' := by repeat (first | exact Inc.refl | exact Inc.nil | refine Inc.cons (by repeat (first | exact List.Mem.head _ | assumption | refine List.Mem.tail _ ?_)) ?_ | refine Inc.wk ?_)) : Inc I I' := h
theorem repE (h : Rep a b M M' := by first | exact .here | exact .there .here | exact .there (.there .here) | exact .there (.there (.there .here)) | exact .there (.there (.there (.there .here))) | exact .there (.there (.there (.there (.there .here)))) | exact .there (.there (.there (.there (.there (.there .here))))) | exact .there (.there (.there (.there (.there (.there (.there .here)))))) | exact .there (.there (.there (.there (.there (.there (.there (.there .here))))))) | assumption) : Rep a b M M' := h
theorem remE (h : Rem a M M' := by first | exact .here | exact .there .here | exact .there (.there .here) | exact .there (.there (.there .here)) | exact .there (.there (.there (.there .here))) | exact .there (.there (.there (.there (.there .here)))) | exact .there (.there (.there (.there (.there (.there .here))))) | exact .there (.there (.there (.there (.there (.there (.there .here)))))) | exact .there (.there (.there (.there (.there (.there (.there (.there .here)))))))) : Rem a M M' := h
theorem memL (h : aa ∈ ll := by repeat (first | exact List.Mem.head _ | assumption | refine List.Mem.tail _ ?_)) : aa ∈ ll := h
theorem okD (h : OkD m X w0 M I := by first | exact OkD.seq | exact OkD.one | exact OkD.any (by repeat (first | exact SubP.refl | exact SubP.nil | refine SubP.cons (by first | exact .here | exact .there .here | exact .there (.there .here) | exact .there (.there (.there .here)) | exact .there (.there (.there (.there .here))) | exact .there (.there (.there (.there (.there .here)))) | exact .there (.there (.there (.there (.there (.there .here))))) | exact .there (.there (.there (.there (.there (.there (.there .here)))))) | exact .there (.there (.there (.there (.there (.there (.there (.there .here)))))))) ?_ | refine SubP.drop ?_)) (by repeat (first | exact Inc.refl | exact Inc.nil | refine Inc.cons (by repeat (first | exact List.Mem.head _ | assumption | refine List.Mem.tail _ ?_)) ?_ | refine Inc.wk ?_))) : OkD m X w0 M I := h
theorem vwX (h : View m X w0 M I M1 I1 := by first | exact View.seq | exact View.any | exact View.one rfl) : View m X w0 M I M1 I1 := h
theorem atC (h : At cs o v := by first | exact At.r1 (by first | omega | (simp only [st_len, List.length_replicate, List.length_append]; omega)) rfl | exact At.r2 (by first | omega | (simp only [st_len, List.length_replicate, List.length_append]; omega)) rfl | exact At.mk rfl | exact At.app (At.r1 (by first | omega | (simp only [st_len, List.length_replicate, List.length_append]; omega)) rfl) | exact At.app (At.r2 (by first | omega | (simp only [st_len, List.length_replicate, List.length_append]; omega)) rfl)) : At cs o v := h
theorem atsC (h : Ats cs o vs := by first | exact Ats.r (by first | omega | (simp only [st_len, List.length_replicate, List.length_append]; omega)) | exact Ats.all | exact Ats.app (Ats.r (by first | omega | (simp only [st_len, List.length_replicate, List.length_append]; omega))) | exact Ats.lit rfl) : Ats cs o vs := h
theorem stC (h : StAt cs o v cs' := by first | exact StAt.r1 _ (by first | omega | (simp only [st_len, List.length_replicate, List.length_append]; omega)) rfl | exact StAt.app (StAt.r1 _ (by first | omega | (simp only [st_len, List.length_replicate, List.length_append]; omega)) rfl) | exact StAt.mk (by first | (dsimp only [List.set]; done) | (dsimp only [List.set]; rfl)) (by simp)) : StAt cs o v cs' := h
theorem stsC (h : StAts cs o vs cs' := by first | exact StAts.r _ (by first | omega | (simp only [st_len, List.length_replicate, List.length_append]; omega)) rfl | exact StAts.app (StAts.r _ (by first | omega | (simp only [st_len, List.length_replicate, List.length_append]; omega)) rfl) | exact StAts.all (by first | rfl | simp)) : StAts cs o vs cs' := h
theorem posC (h : 0 < cs.length := by rw [recs_len]; omega) : 0 < cs.length := h
theorem lenC (h : vs.length = sz := by first | rfl | exact Sized.len _) : vs.length = sz := h
theorem oneC (h : ∀ u ∈ vs, u.oneCell' = true := by first | exact Ones.one _ | (intro u hu; repeat (first | exact absurd hu (List.not_mem_nil) | (rcases List.mem_cons.1 hu with rfl | hu; · rfl)))) : ∀ u ∈ vs, u.oneCell' = true := h
theorem subG (h : Sub G G' := by repeat (first | exact Sub.nil | refine Sub.cons rfl rfl ?_)) : Sub G G' := h
theorem bdI (h : 0 ≤ x ∧ x < y := by first | omega | (simp only [st_len, List.length_replicate, List.length_append]; omega)) : 0 ≤ x ∧ x < y := h
theorem w_ (h : kk.wrap x = y := by first | exact wrap_i64 (by first | omega | assumption) | exact wrap_u64 (by first | omega | assumption) | exact wrap_u32 (by first | omega | assumption) | exact wrap_u8 (by omega)) : kk.wrap x = y := h
theorem q_ (h : kk.wrap x = y := by first | exact quo_i64 (by omega) | exact quo_u64 (by omega) (by omega)) : kk.wrap x = y := h
end
end Go.Fx
namespace Go.Fx
structure BoxP (g : Prop) : Prop where
  out : g
section
variable {P : Program} {n : Nat} {Q : Exit → Act → World → Prop} {G : Env} {X : List Nat} {w0 : World} {M : List Ent} {I : List Imm} {ops l : List Oper} {m : Mode} {c : Code} {e : Exit}
end
end Go.Fx
namespace Go.Fx
theorem wXn {p g : Prop} (h : g) (w : BoxP g → p := by (intro hh; (first | refine TD_seq ?_ | refine TD_region ?_ | refine TD_ret ?_ | refine TD_skip ?_ | refine TD_label ?_ | refine TD_block ?_ | refine TD_exit ?_ | refine ND_then ?_ | refine ND_thenR ?_ | refine ND_thenE ?_ | refine ND_inN ?_ | refine ND_inR ?_ | refine ND_inE ?_ | refine ND_inO rfl ?_ | refine RD_nil ?_ | (refine RD_isGu ?_; first | refine RD_skip rfl rfl rfl ?_ | (refine RD_isEf rfl rfl ?_; refine RD_skipE rfl rfl rfl okD ?_) | refine RD_grdY rfl rfl (by omega) ?_ | refine RD_grdN rfl rfl (by omega) ?_) | (refine RD_isUn ?_; refine RD_c rfl (fun _ => Const_notB rfl) rfl rfl ?_) | refine RD_c rfl (fun _ => Const_pure rfl) rfl rfl ?_ | (refine RD_isBi ?_; first | refine RD_c rfl (fun _ => Const_add rfl rfl w_) rfl rfl ?_ | refine RD_c rfl (fun _ => Const_sub rfl rfl w_) rfl rfl ?_ | refine RD_c rfl (fun _ => Const_mul rfl rfl w_) rfl rfl ?_ | refine RD_c rfl (fun _ => Const_quo rfl rfl (by omega) q_) rfl rfl ?_ | refine RD_c rfl (fun _ => Const_rem rfl rfl (by omega) rfl) rfl rfl ?_ | refine RD_c rfl (fun _ => Const_half rfl rfl) rfl rfl ?_) | (refine RD_isUn ?_; first | refine RD_c rfl (fun _ => Const_neg rfl w_) rfl rfl ?_) | (refine RD_isCv ?_; first | refine RD_c rfl (fun _ => Const_conv rfl w_) rfl rfl ?_) | (refine RD_isCa ?_; first | refine RD_c rfl (fun _ => Const_len rfl) rfl rfl ?_ | refine RD_c rfl (fun _ => Const_minM rfl rfl) rfl rfl ?_ | refine RD_c rfl (fun _ => Const_maxM rfl rfl) rfl rfl ?_ | refine RD_c rfl (fun _ => Const_min3 rfl rfl rfl) rfl rfl ?_) | (refine RD_isFa ?_; first | refine RD_fldP rfl (by decide) rfl rfl ?_ | refine RD_fld rfl (by decide) rfl rfl ?_) | (refine RD_isIx ?_; first | refine RD_ixB rfl rfl bdI rfl rfl ?_ | refine RD_ixI vwX rfl rfl bdI memL posC rfl rfl ?_ | refine RD_ixR vwX rfl rfl bdI memL posC rfl rfl ?_ | refine RD_c rfl (fun _ => Const_indexA rfl rfl bdI) rfl rfl ?_) | (refine RD_isLd ?_; first | refine RD_ldI vwX rfl memL atC rfl rfl ?_ | refine RD_ldR vwX rfl memL atC rfl rfl ?_ | refine RD_ldB vwX rfl memL atC rfl rfl ?_ | refine RD_ldIB vwX rfl memL atC rfl rfl ?_ | refine RD_ldNI vwX rfl memL atsC lenC rfl rfl ?_ | refine RD_ldNR vwX rfl memL atsC lenC rfl rfl ?_ | refine RD_ldNB vwX rfl memL atsC lenC rfl rfl ?_ | refine RD_ldNIB vwX rfl memL atsC lenC rfl rfl ?_) | (refine RD_isFd ?_; first | refine RD_c rfl (fun _ => Const_field1 rfl rfl) rfl rfl ?_ | refine RD_c rfl (fun _ => Const_fieldN rfl) rfl rfl ?_) | (refine RD_isSt ?_; first | refine RD_st rfl rfl rfl repE stC rfl rfl ⟨okD, ?_⟩ | refine RD_stN rfl rfl lenC oneC repE stsC rfl rfl ⟨okD, ?_⟩) | (refine TD_isCo ?_; first | refine TD_cond_true rfl ?_ | refine TD_cond_false rfl ?_ | refine TD_yes rfl (by omega) ?_ | refine TD_no rfl (by omega) ?_)); (repeat (first | refine TD_seq ?_ | refine TD_region ?_ | refine TD_ret ?_ | refine TD_skip ?_ | refine TD_label ?_ | refine TD_block ?_ | refine TD_exit ?_ | refine ND_then ?_ | refine ND_thenR ?_ | refine ND_thenE ?_ | refine ND_inN ?_ | refine ND_inR ?_ | refine ND_inE ?_ | refine ND_inO rfl ?_ | refine RD_nil ?_ | (refine RD_isGu ?_; first | refine RD_skip rfl rfl rfl ?_ | (refine RD_isEf rfl rfl ?_; refine RD_skipE rfl rfl rfl okD ?_) | refine RD_grdY rfl rfl (by omega) ?_ | refine RD_grdN rfl rfl (by omega) ?_) | (refine RD_isUn ?_; refine RD_c rfl (fun _ => Const_notB rfl) rfl rfl ?_) | refine RD_c rfl (fun _ => Const_pure rfl) rfl rfl ?_ | (refine RD_isBi ?_; first | refine RD_c rfl (fun _ => Const_add rfl rfl w_) rfl rfl ?_ | refine RD_c rfl (fun _ => Const_sub rfl rfl w_) rfl rfl ?_ | refine RD_c rfl (fun _ => Const_mul rfl rfl w_) rfl rfl ?_ | refine RD_c rfl (fun _ => Const_quo rfl rfl (by omega) q_) rfl rfl ?_ | refine RD_c rfl (fun _ => Const_rem rfl rfl (by omega) rfl) rfl rfl ?_ | refine RD_c rfl (fun _ => Const_half rfl rfl) rfl rfl ?_) | (refine RD_isUn ?_; first | refine RD_c rfl (fun _ => Const_neg rfl w_) rfl rfl ?_) | (refine RD_isCv ?_; first | refine RD_c rfl (fun _ => Const_conv rfl w_) rfl rfl ?_) | (refine RD_isCa ?_; first | refine RD_c rfl (fun _ => Const_len rfl) rfl rfl ?_ | refine RD_c rfl (fun _ => Const_minM rfl rfl) rfl rfl ?_ | refine RD_c rfl (fun _ => Const_maxM rfl rfl) rfl rfl ?_ | refine RD_c rfl (fun _ => Const_min3 rfl rfl rfl) rfl rfl ?_) | (refine RD_isFa ?_; first | refine RD_fldP rfl (by decide) rfl rfl ?_ | refine RD_fld rfl (by decide) rfl rfl ?_) | (refine RD_isIx ?_; first | refine RD_ixB rfl rfl bdI rfl rfl ?_ | refine RD_ixI vwX rfl rfl bdI memL posC rfl rfl ?_ | refine RD_ixR vwX rfl rfl bdI memL posC rfl rfl ?_ | refine RD_c rfl (fun _ => Const_indexA rfl rfl bdI) rfl rfl ?_) | (refine RD_isLd ?_; first | refine RD_ldI vwX rfl memL atC rfl rfl ?_ | refine RD_ldR vwX rfl memL atC rfl rfl ?_ | refine RD_ldB vwX rfl memL atC rfl rfl ?_ | refine RD_ldIB vwX rfl memL atC rfl rfl ?_ | refine RD_ldNI vwX rfl memL atsC lenC rfl rfl ?_ | refine RD_ldNR vwX rfl memL atsC lenC rfl rfl ?_ | refine RD_ldNB vwX rfl memL atsC lenC rfl rfl ?_ | refine RD_ldNIB vwX rfl memL atsC lenC rfl rfl ?_) | (refine RD_isFd ?_; first | refine RD_c rfl (fun _ => Const_field1 rfl rfl) rfl rfl ?_ | refine RD_c rfl (fun _ => Const_fieldN rfl) rfl rfl ?_) | (refine RD_isSt ?_; first | refine RD_st rfl rfl rfl repE stC rfl rfl ⟨okD, ?_⟩ | refine RD_stN rfl rfl lenC oneC repE stsC rfl rfl ⟨okD, ?_⟩) | (refine TD_isCo ?_; first | refine TD_cond_true rfl ?_ | refine TD_cond_false rfl ?_ | refine TD_yes rfl (by omega) ?_ | refine TD_no rfl (by omega) ?_))); exact hh.out)) : p := w ⟨h⟩
end Go.Fx
namespace Go.Proofs.Ytegaegipekonmaa
open Go Go.Fx

theorem list_eq_of_gt {α : Type} [Inhabited α] {a b : List α} (hl : a.length = b.length) (h : ∀ j : Nat, j < a.length → gt a j = gt b j) : a = b := by
  apply List.ext_getElem hl
  intro j h1 h2
  have := h j h1
  rwa [gt_get h1, gt_get h2] at this

section
variable {X : List Nat} {w0 : World} {M0 : List Ent} {I0 : List Imm}


theorem idxI_ok {p : Option Addr} {a : List Int} {c : Nat} {g : FuncId} [FnOk Try.prog g] {fs cs : Array Value} (pr : Int → Prop) [DecidablePred pr] (hn : (a.length : Int) ≤ 9223372036854775807) (ha : slI p (recs (eI .i64) a) ∈ I0)
    (hg : ∀ i : Nat, i < a.length → CD Try.prog g (fs.toList ++ [.int .i64 (gt a i)] ++ cs.toList) X w0 M0 I0 (fun v M I => M0 = M ∧ I0 = I ∧ v = .bool (B (pr (gt a i))))) :
    CD Try.prog 41 [.slice p a.length c, .func (.func g) fs cs] X w0 M0 I0 (fun v M I => M0 = M ∧ I0 = I ∧ ∃ r : Int, v = .int .i64 r ∧ ((∃ i : Nat, i < a.length ∧ r = i ∧ pr (gt a i) ∧ ∀ j : Nat, j < i → ¬ pr (gt a j)) ∨ (r = -1 ∧ ∀ j : Nat, j < a.length → ¬ pr (gt a j)))) := by
  refine enterD Try.func41 rfl Try.ntmps41 rfl ?_
  repeat (refine wXn ?_)
  refine TD_loop [0, 1, 7] rfl (fun k G M I => ∃ i : Nat, i ≤ a.length ∧ k = a.length - i ∧ (∀ j : Nat, j < i → ¬ pr (gt a j)) ∧ G = [(8, .int .i64 i)] ∧ M = M0 ∧ I = I0) (a.length) _ _ _ subG subP incL (⟨0, by omega, rfl, fun j hj => by omega, rfl, rfl, rfl⟩) ?_
  rintro k G M I ⟨i, hi, rfl, hs, rfl, rfl, rfl⟩
  repeat' (first | refine wXn ?_ | (refine TD_isCo ?_; first | refine TD_dec rfl (fun h => ?_) (fun h => ?_) | refine TD_cond rfl (fun h => ?_) (fun h => ?_)) | (refine RD_isGu ?_; first | refine RD_grd rfl rfl (fun h => ?_) (fun h => ?_) | (fail_if_success (refine RD_isW rfl ?_); refine RD_grdB rfl rfl (fun h => ?_) (fun h => ?_))))
  · have hlt : i < a.length := by omega
    (refine RD_callV rfl rfl (hg i hlt) rfl rfl rfl ?_; rintro _ _ _ ⟨rfl, rfl, rfl⟩; refine ⟨okD, ?_⟩)
    repeat' (first | refine wXn ?_ | (refine TD_isCo ?_; first | refine TD_dec rfl (fun h => ?_) (fun h => ?_) | refine TD_cond rfl (fun h => ?_) (fun h => ?_)) | (refine RD_isGu ?_; first | refine RD_grd rfl rfl (fun h => ?_) (fun h => ?_) | (fail_if_success (refine RD_isW rfl ?_); refine RD_grdB rfl rfl (fun h => ?_) (fun h => ?_))))
    · refine ND_ret1 (by first | exact .inl rfl | exact .inr rfl) rfl rfl _ _ subP incL (⟨rfl, rfl, _, rfl, .inl ⟨i, hlt, rfl, by assumption, hs⟩⟩)
    · refine ND_again (a.length - (i + 1)) _ _ _ (by first | omega | (simp only [List.length_append, List.length_cons, List.length_nil]; omega)) subG subP incL (⟨i + 1, by omega, rfl, fun j hj => ?_, rfl, rfl, rfl⟩)
      by_cases e : j = i
      · subst e; assumption
      · exact hs j (by omega)
  · refine ND_ret1 (by first | exact .inl rfl | exact .inr rfl) rfl rfl _ _ subP incL (⟨rfl, rfl, _, rfl, .inr ⟨rfl, fun j hj => hs j (by omega)⟩⟩)
theorem hasI_ok {p : Option Addr} {a : List Int} {c : Nat} {g : FuncId} [FnOk Try.prog g] {fs cs : Array Value} (pr : Int → Prop) [DecidablePred pr] (hn : (a.length : Int) ≤ 9223372036854775807) (ha : slI p (recs (eI .i64) a) ∈ I0)
    (hg : ∀ i : Nat, i < a.length → CD Try.prog g (fs.toList ++ [.int .i64 (gt a i)] ++ cs.toList) X w0 M0 I0 (fun v M I => M0 = M ∧ I0 = I ∧ v = .bool (B (pr (gt a i))))) :
    CD Try.prog 35 [.slice p a.length c, .func (.func g) fs cs] X w0 M0 I0 (fun v M I => M0 = M ∧ I0 = I ∧ v = .bool (B (∃ x ∈ a, pr x))) := by
  refine enterD Try.func35 rfl Try.ntmps35 rfl ?_
  repeat (refine wXn ?_)
  (refine RD_call rfl (idxI_ok pr hn ha hg) rfl rfl ?_; rintro _ _ _ ⟨rfl, rfl, r, rfl, h⟩; refine ⟨okD, ?_⟩)
  repeat (refine wXn ?_)
  refine ND_ret1 (by first | exact .inl rfl | exact .inr rfl) rfl rfl _ _ subP incL (⟨rfl, rfl, congrArg Value.bool (B_congr ?_)⟩)
  rcases h with ⟨i, hi, rfl, hp, _⟩ | ⟨rfl, h⟩
  · exact ⟨fun _ => ⟨gt a i, by rw [gt_get hi]; exact List.getElem_mem hi, hp⟩, fun _ => by omega⟩
  · refine ⟨fun h => by omega, ?_⟩
    rintro ⟨x, hx, hp⟩
    obtain ⟨j, hj, rfl⟩ := List.mem_iff_getElem.1 hx
    exact absurd (by rw [gt_get hj]; exact hp) (h j hj)
end
end Go.Proofs.Ytegaegipekonmaa

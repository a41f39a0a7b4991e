/- The symbolic heap, continued: scopes, results that lie in cells, structs' lists compared. The side conditions of the walk. Printed by pre.py. The symbolic heap, continued: drawn regions whose reads come ahead of all but the first few effects. The symbolic heap, continued: parts of what is read, xor. Regions that draw their order, within a round of a range over a function. The symbolic heap, continued: rules whose conclusions are ready to read. The side conditions of the walk, quicker: shapes first. Drawn regions whose order forks more than once: what is left of a region as an end. -/
import Derived.Test.YtkhgglkkdnemlaaZfaf
import Derived.Scope
import Derived.OrdersIn
import Derived.RangeFuncCalls
import Derived.RangeFuncWrites
import Derived.RangeFuncBound
import Derived.Below
set_option linter.unusedSimpArgs false
set_option linter.unusedVariables false
namespace Go.Fx
@[irreducible] def NoG (Q : Exit → Act → World → Prop) : Exit → Act → World → Prop := Exit.noGoto Q
section
variable {P : Program} {n : Nat} {Q Q' : Exit → Act → World → Prop} {G : Env} {X : List Nat} {w0 : World} {M M' M1 : List Ent} {I I' I1 : List Imm}
theorem results_cellN {fn : Func} {a : Tmp} {t : TypeId} {sz : Nat} {tmps : Array Value} {w : World} {b : Nat} {cs : List Value} {e : TypeId} [ht : AggTy P t sz] (h : fn.results = #[.cell a t]) (hb : tmps.getD a undef = .pointer (some ⟨b, 0, none⟩)) (hB : Blk w b cs e) (hl : cs.length = sz) :
    (results fn tmps).run P w = .ok (.agg cs.toArray) w := by
  have := run_loadCellsFrom (P := P) cs (hB.row0) sz 0 #[] (by omega) rfl
  have hb' : tmps[a]?.getD undef = .pointer (some ⟨b, 0, none⟩) := by simpa using hb
  simp [results, h, hb', asAddr, loadVar, run_isAgg_yes, run_sizeOf ht.size, loadCells, this]
theorem ND_retC {fn : Func} {K : Value → List Ent → List Imm → Prop} {ex : Exit} {a : Tmp} {t : TypeId} {sz b : Nat} {cs : List Value} {e : TypeId} [AggTy P t sz] (he : ex = .ret ∨ ex = .normal) (hr : fn.results = #[.cell a t]) (hv : lk G a = some (.pointer (some ⟨b, 0, none⟩))) (hm : .blk b cs e ∈ M) (hl : cs.length = sz) (M' : List Ent) (I' : List Imm) (hM : SubP M M') (hI : Inc I I') (h : K (.agg cs.toArray) M' I') :
    ND n (Body P fn (KB K X w0)) ex G X w0 M I := ⟨fun w hw => ⟨fun act ha => by
  unfold Body
  have e1 : act.tmps.getD a undef = .pointer (some ⟨b, 0, none⟩) := by simp [ha.get a _ hv]
  have e2 := results_cellN (P := P) (t := t) hr e1 (hw.blk hm) hl
  rcases he with rfl | rfl <;> exact ⟨ha.defers, _, e2, _, rfl, M', I', h, hw.weak hM hI⟩⟩⟩
end
end Go.Fx
namespace Go.Fx
section
variable {P : Program} {n : Nat} {Q : Exit → Act → World → Prop} {G G' : Env} {X : List Nat} {w0 : World} {M M' M1 : List Ent} {I I' I1 : List Imm} {m : Mode} {a b : Ent} {φ : Imm} {cs cs' vs : List Value} {o sz : Nat} {v : Value} {x y : Int} {kk : IntKind} {α : Type} {aa : α} {ll : List α}
theorem subP (h : SubP M M' := by repeat (first | exact SubP.refl | exact SubP.nil | refine SubP.cons (by first | exact .here | exact .there .here | exact .there (.there .here) | exact .there (.there (.there .here)) | exact .there (.there (.there (.there .here))) | exact .there (.there (.there (.there (.there .here)))) | exact .there (.there (.there (.there (.there (.there .here))))) | exact .there (.there (.there (.there (.there (.there (.there .here)))))) | exact .there (.there (.there (.there (.there (.there (.there (.there .here)))))))) ?_ | refine SubP.drop ?_)) : SubP M M' := h
theorem incL (h : Inc I I' := by repeat (first | exact Inc.refl | exact Inc.nil | refine Inc.cons (by repeat (first | exact List.Mem.head _ | assumption | refine List.Mem.tail _ ?_)) ?_ | refine Inc.wk ?_)) : Inc I I' := h
theorem repE (h : Rep a b M M' := by first | exact .here | exact .there .here | exact .there (.there .here) | exact .there (.there (.there .here)) | exact .there (.there (.there (.there .here))) | exact .there (.there (.there (.there (.there .here)))) | exact .there (.there (.there (.there (.there (.there .here))))) | exact .there (.there (.there (.there (.there (.there (.there .here)))))) | exact .there (.there (.there (.there (.there (.there (.there (.there .here))))))) | assumption) : Rep a b M M' := h
theorem remE (h : Rem a M M' := by first | exact .here | exact .there .here | exact .there (.there .here) | exact .there (.there (.there .here)) | exact .there (.there (.there (.there .here))) | exact .there (.there (.there (.there (.there .here)))) | exact .there (.there (.there (.there (.there (.there .here))))) | exact .there (.there (.there (.there (.there (.there (.there .here)))))) | exact .there (.there (.there (.there (.there (.there (.there (.there .here)))))))) : Rem a M M' := h
theorem memL (h : aa ∈ ll := by repeat (first | exact List.Mem.head _ | assumption | refine List.Mem.tail _ ?_)) : aa ∈ ll := h
theorem okD (h : OkD m X w0 M I := by first | exact OkD.seq | exact OkD.one | exact OkD.any (by repeat (first | exact SubP.refl | exact SubP.nil | refine SubP.cons (by first | exact .here | exact .there .here | exact .there (.there .here) | exact .there (.there (.there .here)) | exact .there (.there (.there (.there .here))) | exact .there (.there (.there (.there (.there .here)))) | exact .there (.there (.there (.there (.there (.there .here))))) | exact .there (.there (.there (.there (.there (.there (.there .here)))))) | exact .there (.there (.there (.there (.there (.there (.there (.there .here)))))))) ?_ | refine SubP.drop ?_)) (by repeat (first | exact Inc.refl | exact Inc.nil | refine Inc.cons (by repeat (first | exact List.Mem.head _ | assumption | refine List.Mem.tail _ ?_)) ?_ | refine Inc.wk ?_))) : OkD m X w0 M I := h
theorem vwX (h : View m X w0 M I M1 I1 := by first | exact View.seq | exact View.any | exact View.one rfl) : View m X w0 M I M1 I1 := h
theorem atC (h : At cs o v := by first | exact At.r1 (by first | omega | (simp only [st_len, List.length_replicate, List.length_append]; omega)) rfl | exact At.r2 (by first | omega | (simp only [st_len, List.length_replicate, List.length_append]; omega)) rfl | exact At.mk rfl | exact At.app (At.r1 (by first | omega | (simp only [st_len, List.length_replicate, List.length_append]; omega)) rfl) | exact At.app (At.r2 (by first | omega | (simp only [st_len, List.length_replicate, List.length_append]; omega)) rfl)) : At cs o v := h
theorem atsC (h : Ats cs o vs := by first | exact Ats.r (by first | omega | (simp only [st_len, List.length_replicate, List.length_append]; omega)) | exact Ats.all | exact Ats.app (Ats.r (by first | omega | (simp only [st_len, List.length_replicate, List.length_append]; omega))) | exact Ats.lit rfl) : Ats cs o vs := h
theorem stC (h : StAt cs o v cs' := by first | exact StAt.r1 _ (by first | omega | (simp only [st_len, List.length_replicate, List.length_append]; omega)) rfl | exact StAt.app (StAt.r1 _ (by first | omega | (simp only [st_len, List.length_replicate, List.length_append]; omega)) rfl) | exact StAt.mk (by first | (dsimp only [List.set]; done) | (dsimp only [List.set]; rfl)) (by simp)) : StAt cs o v cs' := h
theorem stsC (h : StAts cs o vs cs' := by first | exact StAts.r _ (by first | omega | (simp only [st_len, List.length_replicate, List.length_append]; omega)) rfl | exact StAts.app (StAts.r _ (by first | omega | (simp only [st_len, List.length_replicate, List.length_append]; omega)) rfl) | exact StAts.all (by first | rfl | simp)) : StAts cs o vs cs' := h
theorem posC (h : 0 < cs.length := by rw [recs_len]; omega) : 0 < cs.length := h
theorem lenC (h : vs.length = sz := by first | rfl | exact Sized.len _) : vs.length = sz := h
theorem oneC (h : ∀ u ∈ vs, u.oneCell' = true := by first | exact Ones.one _ | (intro u hu; repeat (first | exact absurd hu (List.not_mem_nil) | (rcases List.mem_cons.1 hu with rfl | hu; · rfl)))) : ∀ u ∈ vs, u.oneCell' = true := h
theorem subG (h : Sub G G' := by repeat (first | exact Sub.nil | refine Sub.cons rfl rfl ?_)) : Sub G G' := h
theorem bdI (h : 0 ≤ x ∧ x < y := by first | omega | (simp only [st_len, List.length_replicate, List.length_append]; omega)) : 0 ≤ x ∧ x < y := h
theorem w_ (h : kk.wrap x = y := by first | exact wrap_i64 (by first | omega | assumption) | exact wrap_u64 (by first | omega | assumption) | exact wrap_u32 (by first | omega | assumption) | exact wrap_u8 (by omega)) : kk.wrap x = y := h
theorem q_ (h : kk.wrap x = y := by first | exact quo_i64 (by omega) | exact quo_u64 (by omega) (by omega)) : kk.wrap x = y := h
end
end Go.Fx
namespace Go.Fx
def CsJ (J : Nat) (X : List Nat) (w0 : World) (M : List Ent) (I : List Imm) : Nat → World → Prop := fun s w => s ≤ J → Mem X w0 M I w
section
variable {P : Program} {n : Nat} {Q Q' : Exit → Act → World → Prop} {G : Env} {X : List Nat} {w0 : World} {M M' M1 : List Ent} {I I' I1 : List Imm}
theorem TD_drawnJ {id : Nat} {l : List Oper} (J : Nat) (p ms : List Nat) (hx : P.follows .mixedOrders = true)
    (hp : (Region.noSelect l.toArray && orderOk l.toArray p ms (Array.replicate l.length false) && p.length == l.length) = true)
    (h : RD P n l Q (.any (CsJ J X w0 M I) 0 ms) (pick l p) G X w0 M I) : TD P n (.region id l.toArray true) Q G X w0 M I :=
  TD_drawnS (CsJ J X w0 M I) p ms hx (fun s w h hs => h (by omega)) hp (fun _ h _ => h) h
theorem View.upto {J k : Nat} {ms : List Nat} (h : k + ms.headD 0 ≤ J) : View (.any (CsJ J X w0 M1 I1) k ms) X w0 M I M1 I1 := ⟨fun w w' _ hc => by
  have hc' : CsJ J X w0 M1 I1 (k + ms.headD 0) w' := hc
  exact hc' h⟩
theorem OkD.uptoN {J k : Nat} {ms : List Nat} (h : J ≤ k) : OkD (.any (CsJ J X w0 M1 I1) k ms) X w0 M I := ⟨fun w _ => by
  show CsJ J X w0 M1 I1 (k + 1) w
  intro hs
  omega⟩
theorem OkD.uptoY {J k : Nat} {ms : List Nat} (hM : SubP M M1) (hI : Inc I I1) : OkD (.any (CsJ J X w0 M1 I1) k ms) X w0 M I := ⟨fun w hw => by
  show CsJ J X w0 M1 I1 (k + 1) w
  exact fun _ => hw.weak hM hI⟩
/- lending: what a function owns, lent to a callee that only reads -/
end
end Go.Fx
namespace Go.Fx
section
variable {α : Type} {enc : α → List Value} {sz : Nat}
end
section
variable {P : Program} {n : Nat} {Q Q' : Exit → Act → World → Prop} {G : Env} {X : List Nat} {w0 : World} {M M' M1 : List Ent} {I I' I1 : List Imm}
theorem RD_toRow {ops l : List Oper} {m : Mode} {b mm : Nat} {cs : List Value} {e : TypeId} (sz : Nat) (hr : Rep (.blk b cs e) (.row (some ⟨b, 0, none⟩) mm mm cs e sz) M M') (hl : cs.length = mm * sz) (hm : mm ≤ 9223372036854775807) (h : RD P n ops Q m l G X w0 M' I) : RD P n ops Q m l G X w0 M I := RD_m (fun _ hw => hw.toRow sz hr hl hm) h
theorem CD.post {f : FuncId} {vs : List Value} {K K' : Value → List Ent → List Imm → Prop} (h : CD P f vs X w0 M I K) (hk : ∀ v M1 I1 w, K v M1 I1 → Mem X w0 M1 I1 w → ∃ M2 I2, K' v M2 I2 ∧ Mem X w0 M2 I2 w) : CD P f vs X w0 M I K' :=
  ⟨fun w hw => (h.go w hw).mono (fun _ _ ⟨_, _, h1, h2⟩ => hk _ _ _ _ h1 h2)⟩
theorem CD.pre {f : FuncId} {vs : List Value} {K : Value → List Ent → List Imm → Prop} (hM : ∀ w, Mem X w0 M I w → Mem X w0 M' I' w) (h : CD P f vs X w0 M' I' K) : CD P f vs X w0 M I K := ⟨fun w hw => h.go w (hM w hw)⟩
theorem CD_rowBlk {f : FuncId} {vs : List Value} {K : Value → List Ent → List Imm → Prop} {a : Option Addr} {mm c : Nat} {cs : List Value} {e : TypeId} {sz : Nat} (h0 : a = none → mm = 0 → cs = [] → c = 0 → CD P f vs X w0 M I K) (h1 : ∀ b tl, a = some ⟨b, 0, none⟩ → mm ≤ c → CD P f vs X w0 (.blk b (cs ++ tl) e :: M) I K) : CD P f vs X w0 (.row a mm c cs e sz :: M) I K :=
  ⟨fun w hw => by
    rcases hw.rowBlk with ⟨e1, e2, e3⟩ | ⟨b, tl, e1, e2, hm⟩
    · subst e1
      exact (h0 rfl e2 e3 hw.rowC).go w hw.tail
    · exact (h1 b tl e1 e2).go w hm⟩
/- two operations that change the world, in either order -/
/-- two truth values compared -/
theorem Const_neBB {C : World → Prop} {ty t t' : TypeId} {x y : Operand} {p q : Prop} [Decidable p] [Decidable q] [ht : BoolTy P t] (hx : ev G x = some (.bool (B p))) (hy : ev G y = some (.bool (B q))) :
    Const P n G (.binOp .neq t x y t') ty C (.bool (B (¬ (p ↔ q)))) := by
  refine ⟨?_⟩
  intro s ha dst pos after guard w _
  have h : (!(B p == B q)) = B (¬ (p ↔ q)) := by
    rw [B_eq, B_eq, B_eq]
    by_cases hp : p <;> by_cases hq : q <;> simp [hp, hq]
  have e1 : (eqGuard .neq t x y (.bool (B p)) (.bool (B q))).run P w = .ok () w := rfl
  simp only [execOp, ha.ev hx, ha.ev hy, Sem.run_bind, e1, Result.andThen_ok, run_neq_bool _ t (B p) (B q) ht.und, Sem.run_pure, h]
theorem Mem.rowLe {w : World} {a : Option Addr} {m c : Nat} {cs : List Value} {e : TypeId} {sz : Nat} (h : Mem X w0 M I w) (hm : .row a m c cs e sz ∈ M) : m ≤ c := by
  have ho : w.ownsRow 0 e sz (.slice a m c) m cs := h.ent _ hm
  obtain ⟨a', c', hv, _, _, hle⟩ := own_sl ho
  injection hv with e1 e2 e3
  subst e3
  exact hle
end
end Go.Fx
namespace Go.Fx
open Go
section
variable {P : Program} {l0 n : Nat} {Q : Exit → Act → World → Prop} {ops : Array Oper}
def noDefer (o : Oper) : Bool := match o.op with | .defer _ => false | _ => true
end
section
variable {P : Program} {l0 k n : Nat} {Q Q' : Exit → Act → World → Prop} {G : Env} {X : List Nat} {w0 : World} {M M' M1 : List Ent} {I I' I1 : List Imm} {a : Act} {w : World}
end
/- what is read with no slack sees all, other reads see what stays -/
def CsK (J : Nat) (X : List Nat) (w0 : World) (M Ms : List Ent) (I Is : List Imm) : Nat → World → Prop := fun s w => (s = 0 → Mem X w0 M I w) ∧ (s ≤ J → Mem X w0 Ms Is w)
section
variable {X : List Nat} {w0 : World} {M M' M1 Ms : List Ent} {I I' I1 Is : List Imm}
theorem View.k0 {J k : Nat} {ms : List Nat} (h : k + ms.headD 0 = 0) : View (.any (CsK J X w0 M1 Ms I1 Is) k ms) X w0 M I M1 I1 := ⟨fun w w' _ hc => by
  have hc' : CsK J X w0 M1 Ms I1 Is (k + ms.headD 0) w' := hc
  exact hc'.1 h⟩
theorem View.kJ {J k : Nat} {ms : List Nat} (h : k + ms.headD 0 ≤ J) : View (.any (CsK J X w0 M1 Ms I1 Is) k ms) X w0 M I Ms Is := ⟨fun w w' _ hc => by
  have hc' : CsK J X w0 M1 Ms I1 Is (k + ms.headD 0) w' := hc
  exact hc'.2 h⟩
theorem OkD.kN {J k : Nat} {ms : List Nat} (h : J ≤ k) : OkD (.any (CsK J X w0 M1 Ms I1 Is) k ms) X w0 M I := ⟨fun w _ => by
  show CsK J X w0 M1 Ms I1 Is (k + 1) w
  exact ⟨fun h => by omega, fun h => by omega⟩⟩
theorem OkD.kY {J k : Nat} {ms : List Nat} (hM : SubP M Ms) (hI : Inc I Is) : OkD (.any (CsK J X w0 M1 Ms I1 Is) k ms) X w0 M I := ⟨fun w hw => by
  show CsK J X w0 M1 Ms I1 Is (k + 1) w
  exact ⟨fun h => by omega, fun _ => hw.weak hM hI⟩⟩
end
/- the same behind deferred calls -/
def addD (Ds : List Deferred) (a : Act) : Act := { a with defers := a.defers ++ Ds }
section
variable {P : Program} {Ds : List Deferred} {Q : Exit → Act → World → Prop} {ops : Array Oper}
end
section
variable {P : Program} {k n : Nat} {Q Q' : Exit → Act → World → Prop} {G : Env} {X : List Nat} {w0 : World} {M M' M1 : List Ent} {I I' I1 : List Imm} {a : Act} {w : World}
end
theorem Has.cons {n : Nat} {G : Env} {a : Act} {t : Nat} {v : Value} (h : Has n G a) (ht : a.tmps[t]? = some v) : Has n ((t, v) :: G) a :=
  ⟨h.size, h.defers, fun s u hs => by
    unfold lk at hs
    cases e : Nat.beq t s with
    | true => rw [e] at hs; have := Nat.eq_of_beq_eq_true e; subst this; exact ht.trans hs
    | false => rw [e] at hs; exact h.get s u hs⟩
theorem Has.nil {n : Nat} {a : Act} (h : a.tmps.size = n) (hd : a.defers = []) : Has n [] a := ⟨h, hd, fun _ _ h => by cases h⟩
end Go.Fx
namespace Go.Fx
section
variable {P : Program} {n : Nat} {Q Q' : Exit → Act → World → Prop} {G : Env} {X : List Nat} {w0 : World} {M M' : List Ent} {I I' : List Imm}
variable {ops l : List Oper} {m : Mode} {op : Op} {ty : TypeId} {pos : String} {af : Array Edge} {g : Option (Nat × Bool)}
theorem Eff.boxA {w : World} {t : TypeId} {x : Operand} {vs : List Value} (hx : ev G x = some (.agg vs.toArray)) : Eff P n G (.box t x) ty w (fun v w' => ∃ b, w.heap.size ≤ b ∧ v = .pointer (some ⟨b, 0, none⟩) ∧ Blk w' b vs t ∧ Ext [] w w') := by
  have h := Eff_box (P := P) (n := n) (ty := ty) (w := w) (t := t) hx
  refine h.mono (fun v w' ⟨b, hb, hp, hB, hE, _⟩ => ⟨b, by omega, hp, ?_, hE⟩)
  simpa [Value.cells] using hB
theorem RD_boxA {d : Nat} {t : TypeId} {x : Operand} {vs : List Value} (hx : ev G x = some (.agg vs.toArray)) (hg : gst ops G g = some true) (hd : Nat.ble (d + 1) n = true)
    (k : ∀ b, OkD m X w0 (.blk b vs t :: M) I ∧ RD P n ops Q m.nextE l ((d, .pointer (some ⟨b, 0, none⟩)) :: G) X w0 (.blk b vs t :: M) I) :
    RD P n ops Q m (⟨some d, .box t x, ty, pos, af, g⟩ :: l) G X w0 M I :=
  RD_e (d := some d) (K := fun v' M' I' => ∃ b, v' = .pointer (some ⟨b, 0, none⟩) ∧ M' = .blk b vs t :: M ∧ I' = I) hg
    (fun w hw => (Eff.boxA hx).mono (fun _ w' ⟨b, hb, hp, hB, hE⟩ => ⟨_, _, ⟨b, hp, rfl, rfl⟩, hw.push hE (by simp [Ent.blocks, hb]) (by simp [Ent.blocks]) hB⟩)) rfl hd
    (fun _ _ _ ⟨b, hp, hM, hI⟩ => by subst hp; subst hM; subst hI; exact k b)
theorem RD_callS {d : Nat} {f : FuncId} {xs : List Operand} {vs : List Value} {at_ : Array TypeId} {K : Value → List Ent → List Imm → Prop} [FnOk P f] (hx : evs G xs = some vs) (hc : CD P f vs X w0 M I K)
    (hg : gst ops G g = some true) (hd : Nat.ble (d + 1) n = true) (k : ∀ v M' I', K v M' I' → OkD m X w0 M' I' ∧ RD P n ops Q m.nextE l ((d, v) :: G) X w0 M' I') :
    RD P n ops Q m (⟨some d, .call { callee := .value (.func f), args := xs.toArray, argTypes := at_ }, ty, pos, af, g⟩ :: l) G X w0 M I :=
  RD_call (d := some d) hx hc hg hd k
section
variable {f : FuncId} {fn : Func} {c : Code} {K : Value → List Ent → List Imm → Prop} {v0 v1 v2 v3 v4 v5 v6 : Value}
theorem enterD0 (hf : P.funcs[f]? = some fn) (hb : fn.body = some c) (hn : fn.ntmps = n) (hl : Nat.ble 0 n = true) (h : TD P n c (Body P fn (KB K X w0)) [] X w0 M I) : CD P f [] X w0 M I K := enterD hf hb hn hl h
theorem enterD1 (hf : P.funcs[f]? = some fn) (hb : fn.body = some c) (hn : fn.ntmps = n) (hl : Nat.ble 1 n = true) (h : TD P n c (Body P fn (KB K X w0)) [(0, v0)] X w0 M I) : CD P f [v0] X w0 M I K := enterD hf hb hn hl h
theorem enterD2 (hf : P.funcs[f]? = some fn) (hb : fn.body = some c) (hn : fn.ntmps = n) (hl : Nat.ble 2 n = true) (h : TD P n c (Body P fn (KB K X w0)) [(0, v0), (1, v1)] X w0 M I) : CD P f [v0, v1] X w0 M I K := enterD hf hb hn hl h
theorem enterD3 (hf : P.funcs[f]? = some fn) (hb : fn.body = some c) (hn : fn.ntmps = n) (hl : Nat.ble 3 n = true) (h : TD P n c (Body P fn (KB K X w0)) [(0, v0), (1, v1), (2, v2)] X w0 M I) : CD P f [v0, v1, v2] X w0 M I K := enterD hf hb hn hl h
end
end
end Go.Fx
namespace Go.Fx
section
variable {P : Program} {n : Nat} {Q : Exit → Act → World → Prop} {G G' : Env} {X : List Nat} {w0 : World} {M M' M1 : List Ent} {I I' I1 : List Imm} {m : Mode} {a b x y0 y1 y2 y3 y4 y5 y6 y7 y8 y9 : Ent} {φ : Imm} {cs cs' vs : List Value} {o sz : Nat} {v : Value} {α : Type} {aa : α} {ll : List α}
theorem SubP.c0 (k : SubP M M') : SubP (x :: M) (x :: M') := .cons .here k
theorem SubP.c1 (k : SubP (y0 :: M) M') : SubP (y0 :: x :: M) (x :: M') := .cons (.there .here) k
theorem SubP.c2 (k : SubP (y0 :: y1 :: M) M') : SubP (y0 :: y1 :: x :: M) (x :: M') := .cons (.there (.there .here)) k
theorem SubP.c3 (k : SubP (y0 :: y1 :: y2 :: M) M') : SubP (y0 :: y1 :: y2 :: x :: M) (x :: M') := .cons (.there (.there (.there .here))) k
theorem SubP.c4 (k : SubP (y0 :: y1 :: y2 :: y3 :: M) M') : SubP (y0 :: y1 :: y2 :: y3 :: x :: M) (x :: M') := .cons (.there (.there (.there (.there .here)))) k
theorem SubP.c5 (k : SubP (y0 :: y1 :: y2 :: y3 :: y4 :: M) M') : SubP (y0 :: y1 :: y2 :: y3 :: y4 :: x :: M) (x :: M') := .cons (.there (.there (.there (.there (.there .here))))) k
theorem SubP.c6 (k : SubP (y0 :: y1 :: y2 :: y3 :: y4 :: y5 :: M) M') : SubP (y0 :: y1 :: y2 :: y3 :: y4 :: y5 :: x :: M) (x :: M') := .cons (.there (.there (.there (.there (.there (.there .here)))))) k
theorem SubP.c7 (k : SubP (y0 :: y1 :: y2 :: y3 :: y4 :: y5 :: y6 :: M) M') : SubP (y0 :: y1 :: y2 :: y3 :: y4 :: y5 :: y6 :: x :: M) (x :: M') := .cons (.there (.there (.there (.there (.there (.there (.there .here))))))) k
theorem SubP.c8 (k : SubP (y0 :: y1 :: y2 :: y3 :: y4 :: y5 :: y6 :: y7 :: M) M') : SubP (y0 :: y1 :: y2 :: y3 :: y4 :: y5 :: y6 :: y7 :: x :: M) (x :: M') := .cons (.there (.there (.there (.there (.there (.there (.there (.there .here)))))))) k
theorem memF (h : aa ∈ ll := by first | ((repeat (first | with_reducible exact List.mem_cons_self | with_reducible assumption | with_reducible refine List.mem_cons_of_mem _ ?_)); done) | (repeat (first | exact List.Mem.head _ | assumption | refine List.Mem.tail _ ?_))) : aa ∈ ll := h
theorem subF (h : SubP M M' := by first | ((repeat (first | with_reducible exact SubP.refl | with_reducible exact SubP.nil | with_reducible refine SubP.c0 ?_ | with_reducible refine SubP.c1 ?_ | with_reducible refine SubP.c2 ?_ | with_reducible refine SubP.c3 ?_ | with_reducible refine SubP.c4 ?_ | with_reducible refine SubP.c5 ?_ | with_reducible refine SubP.c6 ?_ | with_reducible refine SubP.c7 ?_ | with_reducible refine SubP.c8 ?_ | with_reducible refine SubP.drop ?_)); done) | (repeat (first | exact SubP.refl | exact SubP.nil | refine SubP.c0 ?_ | refine SubP.c1 ?_ | refine SubP.c2 ?_ | refine SubP.c3 ?_ | refine SubP.c4 ?_ | refine SubP.c5 ?_ | refine SubP.c6 ?_ | refine SubP.c7 ?_ | refine SubP.c8 ?_ | refine SubP.drop ?_))) : SubP M M' := h
theorem incF (h : Inc I I' := by first | ((repeat (first | with_reducible exact Inc.refl | with_reducible exact Inc.nil | (with_reducible refine Inc.cons ?_ ?_; (repeat (first | with_reducible exact List.mem_cons_self | with_reducible assumption | with_reducible refine List.mem_cons_of_mem _ ?_))) | with_reducible refine Inc.wk ?_)); done) | (repeat (first | exact Inc.refl | exact Inc.nil | (refine Inc.cons ?_ ?_; (repeat (first | exact List.Mem.head _ | assumption | refine List.Mem.tail _ ?_))) | refine Inc.wk ?_))) : Inc I I' := h
theorem remF (h : Rem a M M' := by first | with_reducible exact .here | with_reducible exact .there .here | with_reducible exact .there (.there .here) | with_reducible exact .there (.there (.there .here)) | with_reducible exact .there (.there (.there (.there .here))) | with_reducible exact .there (.there (.there (.there (.there .here)))) | with_reducible exact .there (.there (.there (.there (.there (.there .here))))) | with_reducible exact .there (.there (.there (.there (.there (.there (.there .here)))))) | exact remE) : Rem a M M' := h
theorem repF (h : Rep a b M M' := by first | with_reducible exact .here | with_reducible exact .there .here | with_reducible exact .there (.there .here) | with_reducible exact .there (.there (.there .here)) | with_reducible exact .there (.there (.there (.there .here))) | with_reducible exact .there (.there (.there (.there (.there .here)))) | with_reducible exact .there (.there (.there (.there (.there (.there .here))))) | with_reducible exact .there (.there (.there (.there (.there (.there (.there .here)))))) | with_reducible assumption | exact repE) : Rep a b M M' := h
theorem okF (h : OkD m X w0 M I := by first | with_reducible exact OkD.seq | with_reducible exact OkD.one | (with_reducible refine OkD.any ?_ ?_; exact subF; exact incF) | exact OkD.seq | exact OkD.one | (refine OkD.any ?_ ?_; exact subF; exact incF) | exact OkD.uptoN (by decide) | (refine OkD.uptoY ?_ ?_; exact subF; exact incF) | exact OkD.kN (by decide) | (refine OkD.kY ?_ ?_; exact subF; exact incF)) : OkD m X w0 M I := h
theorem vwF (h : View m X w0 M I M1 I1 := by first | exact View.seq | exact View.any | exact View.one rfl | exact View.upto (by decide) | exact View.k0 rfl | exact View.kJ (by decide)) : View m X w0 M I M1 I1 := h
theorem atF (h : At cs o v := by first | (with_reducible refine At.r1 ?_ ?_; exact bdI; rfl) | (with_reducible refine At.r2 ?_ ?_; exact bdI; rfl) | exact At.mk rfl | exact atC) : At cs o v := h
variable {x' y' : Int} {kk : IntKind}
theorem wF (h : kk.wrap x' = y' := by first | (with_reducible refine wrap_i64 ?_; first | omega | with_reducible assumption) | (with_reducible refine wrap_u64 ?_; first | omega | with_reducible assumption) | (with_reducible refine wrap_u32 ?_; first | omega | with_reducible assumption) | (with_reducible refine wrap_u8 ?_; omega)) : kk.wrap x' = y' := h
theorem qF (h : kk.wrap x' = y' := by first | (with_reducible refine quo_i64 ?_; omega) | (with_reducible refine quo_u64 ?_ ?_; omega; omega)) : kk.wrap x' = y' := h
end
/- loads of parts -/
structure AtsZ (cs : List Value) (o : Nat) (vs : List Value) (sz : Nat) : Prop where
  ats : Ats cs o vs
  len : vs.length = sz
theorem AtsZ.all {cs : List Value} {sz : Nat} (h : cs.length = sz) : AtsZ cs 0 cs sz := ⟨Ats.all, h⟩
theorem AtsZ.r {α : Type} [Inhabited α] {enc : α → List Value} {sz : Nat} [hz : Sized enc sz] {ms : List α} {i : Int} (hi : 0 ≤ i ∧ i < ms.length) : AtsZ (recs enc ms) (i.toNat * sz) (enc (gt ms i)) sz := ⟨Ats.r hi, hz.len _⟩
theorem AtsZ.app {cs tl vs : List Value} {o sz : Nat} (h : AtsZ cs o vs sz) : AtsZ (cs ++ tl) o vs sz := ⟨Ats.app h.ats, h.len⟩
theorem Ats.of2 {cs : List Value} {o : Nat} {a b : Value} (h0 : cs[o]? = some a) (h1 : cs[o + 1]? = some b) : Ats cs o [a, b] := ⟨fun j v hj => by
  match j, hj with
  | 0, hj => simp at hj; subst hj; exact h0
  | 1, hj => simp at hj; subst hj; exact h1
  | j + 2, hj => simp at hj⟩
theorem Ats.of4 {cs : List Value} {o : Nat} {a b c d : Value} (h0 : cs[o]? = some a) (h1 : cs[o + 1]? = some b) (h2 : cs[o + 2]? = some c) (h3 : cs[o + 3]? = some d) : Ats cs o [a, b, c, d] := ⟨fun j v hj => by
  match j, hj with
  | 0, hj => simp at hj; subst hj; exact h0
  | 1, hj => simp at hj; subst hj; exact h1
  | 2, hj => simp at hj; subst hj; exact h2
  | 3, hj => simp at hj; subst hj; exact h3
  | j + 4, hj => simp at hj⟩
theorem AtsZ.n2 {cs : List Value} {o : Nat} {a b : Value} (h0 : cs[o]? = some a) (h1 : cs[o + 1]? = some b) : AtsZ cs o [a, b] 2 := ⟨Ats.of2 h0 h1, rfl⟩
theorem AtsZ.n4 {cs : List Value} {o : Nat} {a b c d : Value} (h0 : cs[o]? = some a) (h1 : cs[o + 1]? = some b) (h2 : cs[o + 2]? = some c) (h3 : cs[o + 3]? = some d) : AtsZ cs o [a, b, c, d] 4 := ⟨Ats.of4 h0 h1 h2 h3, rfl⟩
theorem AtsZ.r2 {α : Type} [Inhabited α] {enc : α → List Value} {sz : Nat} [Sized enc sz] {ms : List α} {i : Int} {j : Nat} {a b : Value} (hi : 0 ≤ i ∧ i < ms.length) (h0 : (enc (gt ms i))[j]? = some a) (h1 : (enc (gt ms i))[j + 1]? = some b) : AtsZ (recs enc ms) (i.toNat * sz + j) [a, b] 2 := ⟨Ats.of2 (recs_at hi h0) (recs_at hi h1), rfl⟩
theorem AtsZ.r4 {α : Type} [Inhabited α] {enc : α → List Value} {sz : Nat} [Sized enc sz] {ms : List α} {i : Int} {j : Nat} {a b c d : Value} (hi : 0 ≤ i ∧ i < ms.length) (h0 : (enc (gt ms i))[j]? = some a) (h1 : (enc (gt ms i))[j + 1]? = some b) (h2 : (enc (gt ms i))[j + 2]? = some c) (h3 : (enc (gt ms i))[j + 3]? = some d) : AtsZ (recs enc ms) (i.toNat * sz + j) [a, b, c, d] 4 := ⟨Ats.of4 (recs_at hi h0) (recs_at hi h1) (recs_at hi h2) (recs_at hi h3), rfl⟩
section
variable {P : Program} {n : Nat} {Q : Exit → Act → World → Prop} {G : Env} {X : List Nat} {w0 : World} {M M1 : List Ent} {I I1 : List Imm}
variable {ops l : List Oper} {m : Mode} {ty : TypeId} {pos : String} {af : Array Edge} {g : Option (Nat × Bool)}
theorem RD_ldZB {d : Nat} {t : TypeId} {sz : Nat} {x : Operand} {b o : Nat} {cs vs : List Value} {e : TypeId} [AggTy P t sz] (hv : View m X w0 M I M1 I1) (hx : ev G x = some (.pointer (some ⟨b, o, none⟩))) (hm : .blk b cs e ∈ M1) (hc : AtsZ cs o vs sz) (hg : gst ops G g = some true)
    (hd : Nat.ble (d + 1) n = true) (k : RD P n ops Q m.next l ((d, .agg vs.toArray) :: G) X w0 M I) : RD P n ops Q m (⟨some d, .load t x, ty, pos, af, g⟩ :: l) G X w0 M I := RD_ldNB hv hx hm hc.ats hc.len hg hd k
theorem RD_ldZI {d : Nat} {t : TypeId} {sz : Nat} {x : Operand} {a : Option Addr} {o : Nat} {cs vs : List Value} [AggTy P t sz] (hv : View m X w0 M I M1 I1) (hx : ev G x = some (.pointer (some (pt a o)))) (hm : slI a cs ∈ I1) (hc : AtsZ cs o vs sz) (hg : gst ops G g = some true)
    (hd : Nat.ble (d + 1) n = true) (k : RD P n ops Q m.next l ((d, .agg vs.toArray) :: G) X w0 M I) : RD P n ops Q m (⟨some d, .load t x, ty, pos, af, g⟩ :: l) G X w0 M I := RD_ldNI hv hx hm hc.ats hc.len hg hd k
theorem RD_ldZR {d : Nat} {t : TypeId} {sz sz' : Nat} {x : Operand} {a : Option Addr} {o mm c : Nat} {cs vs : List Value} {e : TypeId} [AggTy P t sz] (hv : View m X w0 M I M1 I1) (hx : ev G x = some (.pointer (some (pt a o)))) (hm : .row a mm c cs e sz' ∈ M1) (hc : AtsZ cs o vs sz) (hg : gst ops G g = some true)
    (hd : Nat.ble (d + 1) n = true) (k : RD P n ops Q m.next l ((d, .agg vs.toArray) :: G) X w0 M I) : RD P n ops Q m (⟨some d, .load t x, ty, pos, af, g⟩ :: l) G X w0 M I := RD_ldNR hv hx hm hc.ats hc.len hg hd k
theorem RD_ldZIB {d : Nat} {t : TypeId} {sz : Nat} {x : Operand} {b o : Nat} {cs vs : List Value} [AggTy P t sz] (hv : View m X w0 M I M1 I1) (hx : ev G x = some (.pointer (some ⟨b, o, none⟩))) (hm : slI (some ⟨b, 0, none⟩) cs ∈ I1) (hc : AtsZ cs o vs sz) (hg : gst ops G g = some true)
    (hd : Nat.ble (d + 1) n = true) (k : RD P n ops Q m.next l ((d, .agg vs.toArray) :: G) X w0 M I) : RD P n ops Q m (⟨some d, .load t x, ty, pos, af, g⟩ :: l) G X w0 M I := RD_ldNIB hv hx hm hc.ats hc.len hg hd k
end
end Go.Fx
namespace Go.Fx
def Rest (P : Program) (l : List Oper) (Q : Exit → Act → World → Prop) (Cs : Nat → World → Prop) (fuel k : Nat) (listed : Array Bool) : Exit → Act → World → Prop
  | .normal, a, w => wpAnyC P l.toArray Q Cs fuel k listed a w
  | _, _, _ => False
section
variable {P : Program} {n : Nat} {Q : Exit → Act → World → Prop} {G : Env} {w : World} {l : List Oper} {Cs : Nat → World → Prop}
theorem N_restPre {fuel fuel' k : Nat} {listed listed' : Array Bool} (p ms : List Nat) (hm : ∀ s w, Cs s w → Cs (s + 1) w) (hs : Region.noSelect l.toArray = true) (hok : orderPre l.toArray p ms listed = some listed') (hf : fuel' = fuel + p.length) (hsz : listed.size = l.toArray.size) (hC : Cs k w)
    (h : R P n l (Rest P l Q Cs fuel (k + cntE l.toArray p) listed') (.any Cs k ms) (pick l p) G w) : N n (Rest P l Q Cs fuel' k listed) .normal G w := ⟨fun a ha => by
  subst hf
  exact any_prefix hm hs p ms k listed a w hC hsz hok (fun _ _ _ _ hq => hq) (h.go a ha)⟩
theorem N_restEnd {fuel k : Nat} {listed : Array Bool} (p ms : List Nat) (hm : ∀ s w, Cs s w → Cs (s + 1) w) (hs : Region.noSelect l.toArray = true) (hok : orderOk l.toArray p ms listed = true) (hf : fuel = p.length) (hsz : listed.size = l.toArray.size) (hC : Cs k w)
    (h : R P n l Q (.any Cs k ms) (pick l p) G w) : N n (Rest P l Q Cs fuel k listed) .normal G w := ⟨fun a ha => by
  subst hf
  exact any_of_order hm hs p ms k listed a w hC hsz hok (h.go a ha)⟩
theorem rest_one {fuel k i : Nat} {listed : Array Bool} {o : Oper} {a : Act} (hi : l.toArray[i]? = some o) (hk : freeK o.op = false)
    (h : wpM P l.toArray (Rest P l Q Cs fuel (k + 1) (listed.setIfInBounds i true)) (.any Cs k []) (pick l [i]) a w) :
    wpOp P l.toArray QF i (fun a' w' => Cs (k + eAt l.toArray i) w' ∧ wpAnyC P l.toArray Q Cs fuel (k + eAt l.toArray i) (listed.setIfInBounds i true) a' w') a w := by
  have hg : nth l i = o := nth_eq l i o (by simpa using hi)
  simp only [pick, hg] at h
  rw [eAt_eff hi hk]
  unfold wpOp
  simp only [hi]
  by_cases hw : Region.wanted o (yielded l.toArray a.tmps) = true
  · rw [if_pos hw]
    rcases h.1 hw with ⟨hk2, _⟩ | ⟨_, hk2⟩
    · rw [hk] at hk2; cases hk2
    · exact .inl (Oper.wp_mono (fun a' w' ⟨h1, h2⟩ => ⟨h1, h2⟩) hk2)
  · rw [if_neg hw]
    obtain ⟨hh1, hh2⟩ := h.2 (by simpa using hw)
    simp only [Mode.held, hk, cond_false] at hh1
    exact ⟨hh1, hh2⟩
def effB (ops : Array Oper) (i : Nat) : Bool :=
  match ops[i]? with
  | some o => !freeK o.op
  | none => false
theorem N_restFork {fuel k i j : Nat} {listed : Array Bool} (hr : (Region.ready .any l.toArray listed == [i, j] && effB l.toArray i && effB l.toArray j) = true)
    (h1 : R P n l (Rest P l Q Cs fuel (k + 1) (listed.setIfInBounds i true)) (.any Cs k []) (pick l [i]) G w)
    (h2 : R P n l (Rest P l Q Cs fuel (k + 1) (listed.setIfInBounds j true)) (.any Cs k []) (pick l [j]) G w) : N n (Rest P l Q Cs (fuel + 1) k listed) .normal G w := ⟨fun a ha => by
  simp only [Bool.and_eq_true, beq_iff_eq] at hr
  obtain ⟨⟨hr, e1⟩, e2⟩ := hr
  have get : ∀ x, effB l.toArray x = true → ∃ o, l.toArray[x]? = some o ∧ freeK o.op = false := fun x hx => by
    unfold effB at hx
    cases ho : l.toArray[x]? with
    | none => simp [ho] at hx
    | some o => simp [ho] at hx; exact ⟨o, rfl, hx⟩
  obtain ⟨o1, ho1, hk1⟩ := get i e1
  obtain ⟨o2, ho2, hk2⟩ := get j e2
  refine ⟨fun h0 => (by rw [hr] at h0; cases h0), fun x hx => ?_⟩
  rw [hr] at hx
  simp only [List.mem_cons, List.not_mem_nil, or_false] at hx
  rcases hx with rfl | rfl
  · exact rest_one ho1 hk1 (h1.go a ha)
  · exact rest_one ho2 hk2 (h2.go a ha)⟩
theorem T_rest {id : Nat} (Cs : Nat → World → Prop) (hx : P.follows .mixedOrders = true) (h : N n (Rest P l Q Cs l.length 0 (Array.replicate l.length false)) .normal G w.drew) : T P n (.region id l.toArray true) Q G w := ⟨fun a ha => by
  refine wp_region_any hx ?_
  have := h.go a ha
  have e : l.toArray.size = l.length := by simp
  rw [e]
  exact wpAny_of_C _ _ _ _ _ this⟩
end
section
variable {P : Program} {n : Nat} {Q : Exit → Act → World → Prop} {G : Env} {X : List Nat} {w0 : World} {M M1 : List Ent} {I I1 : List Imm} {l : List Oper}
theorem TD_rest {id : Nat} (M1 : List Ent) (I1 : List Imm) (hx : P.follows .mixedOrders = true) (h : ND n (Rest P l Q (Cst X w0 M1 I1) l.length 0 (Array.replicate l.length false)) .normal G X w0 M I) : TD P n (.region id l.toArray true) Q G X w0 M I :=
  ⟨fun w hw => T_rest (Cst X w0 M1 I1) hx (h.go w.drew hw.drew)⟩
theorem ND_restPre {fuel fuel' k : Nat} {listed listed' : Array Bool} (p ms : List Nat) (hM : SubP M M1) (hI : Inc I I1) (hs : Region.noSelect l.toArray = true) (hok : orderPre l.toArray p ms listed = some listed') (hf : fuel' = fuel + p.length) (hsz : listed.size = l.toArray.size)
    (h : RD P n l (Rest P l Q (Cst X w0 M1 I1) fuel (k + cntE l.toArray p) listed') (.any (Cst X w0 M1 I1) k ms) (pick l p) G X w0 M I) : ND n (Rest P l Q (Cst X w0 M1 I1) fuel' k listed) .normal G X w0 M I :=
  ⟨fun w hw => N_restPre p ms (fun _ _ h => h) hs hok hf hsz (hw.weak hM hI) (h.go w hw)⟩
theorem ND_restEnd {fuel k : Nat} {listed : Array Bool} (p ms : List Nat) (hM : SubP M M1) (hI : Inc I I1) (hs : Region.noSelect l.toArray = true) (hok : orderOk l.toArray p ms listed = true) (hf : fuel = p.length) (hsz : listed.size = l.toArray.size)
    (h : RD P n l Q (.any (Cst X w0 M1 I1) k ms) (pick l p) G X w0 M I) : ND n (Rest P l Q (Cst X w0 M1 I1) fuel k listed) .normal G X w0 M I :=
  ⟨fun w hw => N_restEnd p ms (fun _ _ h => h) hs hok hf hsz (hw.weak hM hI) (h.go w hw)⟩
theorem ND_restFork {fuel k i j : Nat} {listed : Array Bool} (hr : (Region.ready .any l.toArray listed == [i, j] && effB l.toArray i && effB l.toArray j) = true)
    (h1 : RD P n l (Rest P l Q (Cst X w0 M1 I1) fuel (k + 1) (listed.setIfInBounds i true)) (.any (Cst X w0 M1 I1) k []) (pick l [i]) G X w0 M I)
    (h2 : RD P n l (Rest P l Q (Cst X w0 M1 I1) fuel (k + 1) (listed.setIfInBounds j true)) (.any (Cst X w0 M1 I1) k []) (pick l [j]) G X w0 M I) : ND n (Rest P l Q (Cst X w0 M1 I1) (fuel + 1) k listed) .normal G X w0 M I :=
  ⟨fun w hw => N_restFork hr (h1.go w hw) (h2.go w hw)⟩
end
end Go.Fx

/- The symbolic heap, continued: regions with stores behind all reads, cells with a tail, rows as blocks. The symbolic heap, continued: drawn regions that lean on a part of the heap. The symbolic heap, continued: scopes, results that lie in cells, structs' lists compared. The side conditions of the walk. Printed by pre.py. Numbers in groups of nine decimal digits: plain. Numbers in groups: products, quotients, plain. -/
import Derived.Test.YtjbhdfpjnjedhaaGreatZpad
import Derived.Scope
set_option linter.unusedSimpArgs false
set_option linter.unusedVariables false
set_option maxRecDepth 100000
set_option maxHeartbeats 4000000
namespace Go.Fx
def Cs1 (X : List Nat) (w0 : World) (M : List Ent) (I : List aY) : Nat → World → Prop
 | 0, w => Mem X w0 M I w
 | _ + 1, _ => True
section
variable {P : Program} {n : Nat} {Q Q' : Exit → Act → World → Prop} {G : Env} {X : List Nat} {w0 : World} {M M' M1 : List Ent} {I I' I1 : List aY}
theorem aLW {id : Nat} {l : List Oper} (p ms : List Nat) (hx : P.follows .mixedOrders = true)
  (hp : (Region.noSelect l.toArray && iP l.toArray p ms (Array.replicate l.length false) && p.length == l.length) = true)
  (h : RD P n l Q (.any (Cs1 X w0 M I) 0 ms) (pick l p) G X w0 M I) : TD P n (.region id l.toArray true) Q G X w0 M I :=
 qZ (Cs1 X w0 M I) p ms hx (fun _ _ _ => True.intro) hp (fun _ h => h) h
theorem View.one {k : Nat} {ms : List Nat} (h : k + ms.headD 0 = 0) : View (.any (Cs1 X w0 M1 I1) k ms) X w0 M I M1 I1 := ⟨fun w w' _ hc => by
 have hc' : Cs1 X w0 M1 I1 (k + ms.headD 0) w' := hc
 rw [h] at hc'
 exact hc'⟩
theorem OkD.one {k : Nat} {ms : List Nat} : OkD (.any (Cs1 X w0 M1 I1) k ms) X w0 M I := ⟨fun _ _ => True.intro⟩
/- cells with a tail -/
theorem At.app {cs tl : List Value} {o : Nat} {v : Value} (h : At cs o v) : At (cs ++ tl) o v := ⟨by
 have := h.get
 rw [List.getElem?_append_left (List.getElem?_eq_some_iff.1 this).1]; exact this⟩
theorem Ats.app {cs tl vs : List Value} {o : Nat} (h : Ats cs o vs) : Ats (cs ++ tl) o vs := ⟨fun j v hj => by
 have := h.get j v hj
 rw [List.getElem?_append_left (List.getElem?_eq_some_iff.1 this).1]; exact this⟩
theorem StAt.app {cs cs' tl : List Value} {o : Nat} {v : Value} (h : StAt cs o v cs') : StAt (cs ++ tl) o v (cs' ++ tl) := by
 obtain ⟨h1, h2⟩ := h.out
 exact ⟨by rw [List.set_append_left _ _ h2, h1], by rw [List.length_append]; omega⟩
theorem StAts.app {cs cs' tl vs : List Value} {o : Nat} (h : StAts cs o vs cs') : StAts (cs ++ tl) o vs (cs' ++ tl) := by
 obtain ⟨h1, h2⟩ := h.out
 refine ⟨?_, by rw [List.length_append]; omega⟩
 unfold splice at *
 rw [List.take_append_of_le_length (by omega), List.drop_append_of_le_length (by omega), ← h1]
 simp
theorem Mem.rowBlk {w : World} {a : Option Addr} {mm c : Nat} {cs : List Value} {e : TypeId} {sz : Nat} (h : Mem X w0 (.row a mm c cs e sz :: M) I w) : (a = none ∧ mm = 0 ∧ cs = []) ∨ ∃ b tl, a = some ⟨b, 0, none⟩ ∧ mm ≤ c ∧ Mem X w0 (.blk b (cs ++ tl) e :: M) I w := by
 have ho : w.ownsRow 0 e sz (.slice a mm c) mm cs := h.ent _ List.mem_cons_self
 rcases ho.2 with ⟨h1, h2⟩ | ⟨g, cap, cur, hv, _, hg, hmc, _, hsz, htake⟩
 ·injection h1 with e1 e2 e3
  exact .inl ⟨e1, h2, List.eq_nil_of_length_eq_zero (by rw [ho.1, h2]; simp)⟩
 ·injection hv with e1 e2 e3
  subst e1; subst e3
  refine .inr ⟨g, cur.toList.drop (mm * sz), rfl, hmc, ?_⟩
  have hcs : cs ++ cur.toList.drop (mm * sz) = cur.toList := by rw [← htake, List.take_append_drop]
  rw [hcs]
  refine h.upd (en := .row (some ⟨g, 0, none⟩) mm c cs e sz) (en' := .blk g cur.toList e) .here (Ext.refl _ _) (fun b hb => .inl (by simpa [Ent.blocks] using hb)) (by simp [Ent.blocks]) ?_
  show Blk w g cur.toList e
  simpa [Blk] using hg
theorem aMY {c' : Code} {a : Option Addr} {mm c : Nat} {cs : List Value} {e : TypeId} {sz : Nat} (h0 : a = none → mm = 0 → cs = [] → TD P n c' Q G X w0 (.row a mm c cs e sz :: M) I) (h1 : ∀ b tl, a = some ⟨b, 0, none⟩ → mm ≤ c → TD P n c' Q G X w0 (.blk b (cs ++ tl) e :: M) I) : TD P n c' Q G X w0 (.row a mm c cs e sz :: M) I :=
 ⟨fun w hw => by
  rcases hw.rowBlk with ⟨e1, e2, e3⟩ | ⟨b, tl, e1, e2, hm⟩
  ·exact (h0 e1 e2 e3).go w hw
  ·exact (h1 b tl e1 e2).go w hm⟩
theorem aCY {ops l : List Oper} {m : Mode} {a : Option Addr} {mm c : Nat} {cs : List Value} {e : TypeId} {sz : Nat} (h0 : a = none → mm = 0 → cs = [] → RD P n ops Q m l G X w0 (.row a mm c cs e sz :: M) I) (h1 : ∀ b tl, a = some ⟨b, 0, none⟩ → mm ≤ c → RD P n ops Q m l G X w0 (.blk b (cs ++ tl) e :: M) I) : RD P n ops Q m l G X w0 (.row a mm c cs e sz :: M) I :=
 ⟨fun w hw => by
  rcases hw.rowBlk with ⟨e1, e2, e3⟩ | ⟨b, tl, e1, e2, hm⟩
  ·exact (h0 e1 e2 e3).go w hw
  ·exact (h1 b tl e1 e2).go w hm⟩
theorem Mem.takeI {w : World} {a : Option Addr} {cs tl : List Value} (h : Mem X w0 M I w) (hm : aO a (cs ++ tl) ∈ I) : Mem X w0 M (aO a cs :: I) w :=
 h.add (φ := aO a cs) ⟨by
  have := (h.sl hm).take cs.length
  rwa [List.take_left] at this⟩
theorem aRT {ops l : List Oper} {m : Mode} {a : Option Addr} {cs tl : List Value} (hm : aO a (cs ++ tl) ∈ I) (h : RD P n ops Q m l G X w0 M (aO a cs :: I)) : RD P n ops Q m l G X w0 M I := sW (fun _ hw => hw.takeI hm) h
theorem aTK {φ : Prop} {ex : Exit} (h : ∀ w, Mem X w0 M I w → φ) (k : φ → ND n Q ex G X w0 M I) : ND n Q ex G X w0 M I := ⟨fun w hw => (k (h w hw)).go w hw⟩
theorem zH {φ : Prop} {c : Code} (h : ∀ w, Mem X w0 M I w → φ) (k : φ → TD P n c Q G X w0 M I) : TD P n c Q G X w0 M I := ⟨fun w hw => (k (h w hw)).go w hw⟩
theorem mR {φ : Prop} {ops l : List Oper} {m : Mode} (h : ∀ w, Mem X w0 M I w → φ) (k : φ → RD P n ops Q m l G X w0 M I) : RD P n ops Q m l G X w0 M I := ⟨fun w hw => (k (h w hw)).go w hw⟩
theorem CD.sub {f : FuncId} {vs : List Value} {K : Value → List Ent → List aY → Prop} (hM : SubP M M') (h : CD P f vs X w0 M' I K) : CD P f vs X w0 M I K := h.weak hM .refl
theorem dK {C : World → Prop} {ty : TypeId} {t t' : TypeId} {x y : Operand} {k k' : IntKind} {a : Int} (hx : ev G x = some (.int k a)) (hy : ev G y = some (.int k' 1)) : Const P n G (.binOp .shr t x y t') ty C (.int k (a / 2)) := by
 refine yF hx hy (by omega) (.inr ⟨rfl, ?_⟩)
 have : min ((1 : Int).toNat) k.bits = 1 := by cases k <;> decide
 rw [this, Int.fdiv_eq_ediv_of_nonneg _ (by decide)]
 rfl
theorem dH {C : World → Prop} {ty : TypeId} {t : TypeId} {x : Operand} {p : Prop} [Decidable p] (hx : ev G x = some (.bool (B p))) : Const P n G (.unOp .not t x) ty C (.bool (B (¬ p))) := by
 have := bF (P := P) (n := n) (G := G) (ty := ty) (C := C) (op := .unOp .not t x) (v := .bool (!(B p))) (by simp [yG, hx])
 rwa [show (!(B p)) = B (¬ p) by rw [qJ, qJ]; simp] at this
theorem gQ {ops l : List Oper} {m : Mode} {ty : TypeId} {pos : String} {af : Array Edge} {g : Option (Nat × Bool)} {d : Nat} {t : TypeId} {x : Operand} {b o : Nat} {cs : List Value} {v : Value} [ScalarTy P t] (hv : View m X w0 M I M1 I1) (hx : ev G x = some (.pointer (some ⟨b, o, none⟩))) (hm : aO (some ⟨b, 0, none⟩) cs ∈ I1) (hc : At cs o v) (hg : oM ops G g = some true)
  (hd : Nat.ble (d + 1) n = true) (k : RD P n ops Q m.next l ((d, v) :: G) X w0 M I) : RD P n ops Q m (⟨some d, .load t x, ty, pos, af, g⟩ :: l) G X w0 M I :=
 aCH hv hg (fun w hw => sK hx (fun w' e => by
  subst e
  have := (hw.sl hm).cell hc.get
  simpa [pt, bl, of] using this)) rfl hd k
theorem jX {ops l : List Oper} {m : Mode} {ty : TypeId} {pos : String} {af : Array Edge} {g : Option (Nat × Bool)} {d : Nat} {t : TypeId} {sz : Nat} {x : Operand} {b o : Nat} {cs vs : List Value} [AggTy P t sz] (hv : View m X w0 M I M1 I1) (hx : ev G x = some (.pointer (some ⟨b, o, none⟩))) (hm : aO (some ⟨b, 0, none⟩) cs ∈ I1) (hc : Ats cs o vs) (hl : vs.length = sz) (hg : oM ops G g = some true)
  (hd : Nat.ble (d + 1) n = true) (k : RD P n ops Q m.next l ((d, .agg vs.toArray) :: G) X w0 M I) : RD P n ops Q m (⟨some d, .load t x, ty, pos, af, g⟩ :: l) G X w0 M I :=
 aCH hv hg (fun w hw => qG hx hl (fun w' e => by
  subst e
  have := Sl.rowAt (hw.sl hm) o vs hc.get
  simpa [bl, of] using this)) rfl hd k
end
end Go.Fx
namespace Go.Fx
section
variable {P : Program} {n : Nat} {Q Q' : Exit → Act → World → Prop} {G : Env} {X : List Nat} {w0 : World} {M M' M1 : List Ent} {I I' I1 : List aY}
theorem bZ {id : Nat} {l : List Oper} (Ms : List Ent) (Is : List aY) (p ms : List Nat) (hM : SubP M Ms) (hI : Inc I Is) (hx : P.follows .mixedOrders = true)
  (hp : (Region.noSelect l.toArray && iP l.toArray p ms (Array.replicate l.length false) && p.length == l.length) = true)
  (h : RD P n l Q (.any (Cst X w0 Ms Is) 0 ms) (pick l p) G X w0 M I) : TD P n (.region id l.toArray true) Q G X w0 M I :=
 qZ (Cst X w0 Ms Is) p ms hx (fun _ _ h => h) hp (fun _ h => h.weak hM hI) h
/- slices from the start -/
theorem pE {C : World → Prop} {ty t e : TypeId} {sz : Nat} {x y : Operand} {b o len c : Nat} {k : IntKind} {i : Int} (h : Nat) [ht : SliceTy P t e sz] (hx : ev G x = some (.slice (some ⟨b, o, none⟩) len c)) (hy : ev G y = some (.int k i)) (hi : i = h) (h2 : h ≤ c) :
  Const P n G (.slice t x none (some y) none) ty C (.slice (some ⟨b, o, none⟩) h c) := by
 subst hi
 refine ⟨?_⟩
 intro st ha dst pos after guard w _
 by_cases h0 : c = 0
 ·have hh : h = 0 := by omega
  simp [execOp, Instr.sliceAt, Instr.slice, ha.ev hx, fF ht.und, run_sizeOf ht.size, Instr.sliceBounds, Instr.sliceBound, asIntOf, ha.ev hy, h0, hh]
 ·simp [execOp, Instr.sliceAt, Instr.slice, ha.ev hx, fF ht.und, run_sizeOf ht.size, Instr.sliceBounds, Instr.sliceBound, asIntOf, ha.ev hy, h2, h0, add_lit]
end
end Go.Fx
namespace Go.Fx
@[irreducible] def NoG (Q : Exit → Act → World → Prop) : Exit → Act → World → Prop := Exit.noGoto Q
section
variable {P : Program} {n : Nat} {Q Q' : Exit → Act → World → Prop} {G : Env} {X : List Nat} {w0 : World} {M M' M1 : List Ent} {I I' I1 : List aY}
theorem aCN {fn : Func} {a : Tmp} {t : TypeId} {sz : Nat} {tmps : Array Value} {w : World} {b : Nat} {cs : List Value} {e : TypeId} [ht : AggTy P t sz] (h : fn.results = #[.cell a t]) (hb : tmps.getD a undef = .pointer (some ⟨b, 0, none⟩)) (hB : Blk w b cs e) (hl : cs.length = sz) :
  (results fn tmps).run P w = .ok (.agg cs.toArray) w := by
 have := run_loadCellsFrom (P := P) cs (hB.row0) sz 0 #[] (by omega) rfl
 have hb' : tmps[a]?.getD undef = .pointer (some ⟨b, 0, none⟩) := by simpa using hb
 simp [results, h, hb', asAddr, loadVar, oF, run_sizeOf ht.size, loadCells, this]
theorem aCS {fn : Func} {a : Tmp} {t : TypeId} {tmps : Array Value} {w : World} {b : Nat} {v : Value} {e : TypeId} [ht : ScalarTy P t] (h : fn.results = #[.cell a t]) (hb : tmps.getD a undef = .pointer (some ⟨b, 0, none⟩)) (hB : Blk w b [v] e) :
  (results fn tmps).run P w = .ok v w := by
 have hc := hB.cell (o := 0) rfl
 have hb' : tmps[a]?.getD undef = .pointer (some ⟨b, 0, none⟩) := by simpa using hb
 simp [results, h, hb', asAddr, loadVar, nI, hc]
theorem bD {fn : Func} {K : Value → List Ent → List aY → Prop} {ex : Exit} {a : Tmp} {t : TypeId} {sz b : Nat} {cs : List Value} {e : TypeId} [AggTy P t sz] (he : ex = .ret ∨ ex = .normal) (hr : fn.results = #[.cell a t]) (hv : lk G a = some (.pointer (some ⟨b, 0, none⟩))) (hm : .blk b cs e ∈ M) (hl : cs.length = sz) (M' : List Ent) (I' : List aY) (hM : SubP M M') (hI : Inc I I') (h : K (.agg cs.toArray) M' I') :
  ND n (Body P fn (KB K X w0)) ex G X w0 M I := ⟨fun w hw => ⟨fun act ha => by
 unfold Body
 have e1 : act.tmps.getD a undef = .pointer (some ⟨b, 0, none⟩) := by simp [ha.get a _ hv]
 have e2 := aCN (P := P) (t := t) hr e1 (hw.blk hm) hl
 rcases he with rfl | rfl <;> exact ⟨ha.defers, _, e2, _, rfl, M', I', h, hw.weak hM hI⟩⟩⟩
end
end Go.Fx
namespace Go.Fx
section
variable {P : Program} {n : Nat} {Q : Exit → Act → World → Prop} {G G' : Env} {X : List Nat} {w0 : World} {M M' M1 : List Ent} {I I' I1 : List aY} {m : Mode} {a b : Ent} {φ : aY} {cs cs' vs : List Value} {o sz : Nat} {v : Value} {x y : Int} {kk : IntKind} {α : Type} {aa : α} {ll : List α}
theorem bV (h : SubP M M' := by repeat (first | exact SubP.refl | exact SubP.nil | refine SubP.cons (by first | exact .here | exact .there .here | exact .there (.there .here) | exact .there (.there (.there .here)) | exact .there (.there (.there (.there .here))) | exact .there (.there (.there (.there (.there .here)))) | exact .there (.there (.there (.there (.there (.there .here))))) | exact .there (.there (.there (.there (.there (.there (.there .here)))))) | exact .there (.there (.there (.there (.there (.there (.there (.there .here)))))))) ?_ | refine SubP.drop ?_)) : SubP M M' := h
theorem bT (h : Inc I I' := by repeat (first | exact Inc.refl | exact Inc.nil | refine Inc.cons (by repeat (first | exact List.Mem.head _ | assumption | refine List.Mem.tail _ ?_)) ?_ | refine Inc.wk ?_)) : Inc I I' := h
theorem mV (h : Rep a b M M' := by first | exact .here | exact .there .here | exact .there (.there .here) | exact .there (.there (.there .here)) | exact .there (.there (.there (.there .here))) | exact .there (.there (.there (.there (.there .here)))) | exact .there (.there (.there (.there (.there (.there .here))))) | exact .there (.there (.there (.there (.there (.there (.there .here)))))) | exact .there (.there (.there (.there (.there (.there (.there (.there .here))))))) | assumption) : Rep a b M M' := h
theorem vM (h : Rem a M M' := by first | exact .here | exact .there .here | exact .there (.there .here) | exact .there (.there (.there .here)) | exact .there (.there (.there (.there .here))) | exact .there (.there (.there (.there (.there .here)))) | exact .there (.there (.there (.there (.there (.there .here))))) | exact .there (.there (.there (.there (.there (.there (.there .here)))))) | exact .there (.there (.there (.there (.there (.there (.there (.there .here)))))))) : Rem a M M' := h
theorem aS (h : aa ∈ ll := by repeat (first | exact List.Mem.head _ | assumption | refine List.Mem.tail _ ?_)) : aa ∈ ll := h
theorem okD (h : OkD m X w0 M I := by first | exact OkD.seq | exact OkD.one | exact OkD.any (by repeat (first | exact SubP.refl | exact SubP.nil | refine SubP.cons (by first | exact .here | exact .there .here | exact .there (.there .here) | exact .there (.there (.there .here)) | exact .there (.there (.there (.there .here))) | exact .there (.there (.there (.there (.there .here)))) | exact .there (.there (.there (.there (.there (.there .here))))) | exact .there (.there (.there (.there (.there (.there (.there .here)))))) | exact .there (.there (.there (.there (.there (.there (.there (.there .here)))))))) ?_ | refine SubP.drop ?_)) (by repeat (first | exact Inc.refl | exact Inc.nil | refine Inc.cons (by repeat (first | exact List.Mem.head _ | assumption | refine List.Mem.tail _ ?_)) ?_ | refine Inc.wk ?_))) : OkD m X w0 M I := h
theorem vwX (h : View m X w0 M I M1 I1 := by first | exact View.seq | exact View.any | exact View.one rfl) : View m X w0 M I M1 I1 := h
theorem oK (h : At cs o v := by first | exact At.r1 (by first | omega | (simp only [eQ, List.length_replicate, List.length_append]; omega)) rfl | exact At.r2 (by first | omega | (simp only [eQ, List.length_replicate, List.length_append]; omega)) rfl | exact At.mk rfl | exact At.app (At.r1 (by first | omega | (simp only [eQ, List.length_replicate, List.length_append]; omega)) rfl) | exact At.app (At.r2 (by first | omega | (simp only [eQ, List.length_replicate, List.length_append]; omega)) rfl)) : At cs o v := h
theorem iN (h : Ats cs o vs := by first | exact Ats.r (by first | omega | (simp only [eQ, List.length_replicate, List.length_append]; omega)) | exact Ats.all | exact Ats.app (Ats.r (by first | omega | (simp only [eQ, List.length_replicate, List.length_append]; omega))) | exact Ats.lit rfl) : Ats cs o vs := h
theorem stC (h : StAt cs o v cs' := by first | exact StAt.r1 _ (by first | omega | (simp only [eQ, List.length_replicate, List.length_append]; omega)) rfl | exact StAt.app (StAt.r1 _ (by first | omega | (simp only [eQ, List.length_replicate, List.length_append]; omega)) rfl) | exact StAt.mk (by first | (dsimp only [List.set]; done) | (dsimp only [List.set]; rfl)) (by simp)) : StAt cs o v cs' := h
theorem qP (h : StAts cs o vs cs' := by first | exact StAts.r _ (by first | omega | (simp only [eQ, List.length_replicate, List.length_append]; omega)) rfl | exact StAts.app (StAts.r _ (by first | omega | (simp only [eQ, List.length_replicate, List.length_append]; omega)) rfl) | exact StAts.all (by first | rfl | simp)) : StAts cs o vs cs' := h
theorem jD (h : 0 < cs.length := by rw [iL]; omega) : 0 < cs.length := h
theorem fE (h : vs.length = sz := by first | rfl | exact Sized.len _) : vs.length = sz := h
theorem rE (h : ∀ u ∈ vs, u.oneCell' = true := by first | exact Ones.one _ | (intro u hu; repeat (first | exact absurd hu (List.not_mem_nil) | (rcases List.mem_cons.1 hu with rfl | hu; · rfl)))) : ∀ u ∈ vs, u.oneCell' = true := h
theorem aP (h : Sub G G' := by repeat (first | exact Sub.nil | refine Sub.cons rfl rfl ?_)) : Sub G G' := h
theorem iK (h : 0 ≤ x ∧ x < y := by first | omega | (simp only [eQ, List.length_replicate, List.length_append]; omega)) : 0 ≤ x ∧ x < y := h
theorem w_ (h : kk.wrap x = y := by first | exact wrap_i64 (by first | omega | assumption) | exact wrap_u64 (by first | omega | assumption) | exact wrap_u32 (by first | omega | assumption) | exact wrap_u8 (by omega)) : kk.wrap x = y := h
theorem q_ (h : kk.wrap x = y := by first | exact aKK (by omega) | exact aJQ (by omega) (by omega)) : kk.wrap x = y := h
end
end Go.Fx
namespace Go.Proofs.YtjbhdfpjnjedhaaGreat
open Go Go.Fx
abbrev BB : Int := 1000000000
def val : List Int → Int
 | [] => 0
 | g :: r => g + 1000000000 * val r
def Dig (l : List Int) : Prop := ∀ x ∈ l, 0 ≤ x ∧ x < 1000000000
theorem Dig.cons {x : Int} {l : List Int} : Dig (x :: l) ↔ (0 ≤ x ∧ x < 1000000000) ∧ Dig l := by simp [Dig]
theorem Dig.nil : Dig [] := by simp [Dig]
theorem Dig.app {a b : List Int} : Dig (a ++ b) ↔ Dig a ∧ Dig b := by
 simp only [Dig, List.mem_append]
 exact ⟨fun h => ⟨fun x hx => h x (.inl hx), fun x hx => h x (.inr hx)⟩, fun h x hx => hx.elim (h.1 x) (h.2 x)⟩
theorem val_append (a b : List Int) : val (a ++ b) = val a + 1000000000 ^ a.length * val b := by
 induction a with
 | nil => simp [val]
 | cons x r ih => simp only [List.cons_append, val, ih, List.length_cons, Int.pow_succ]; grind
theorem bX {l : List Int} (h : Dig l) : 0 ≤ val l := by
 induction l with
 | nil => simp [val]
 | cons x r ih => rw [Dig.cons] at h; have := ih h.2; simp only [val]; omega
theorem jY {l : List Int} (h : Dig l) : val l < 1000000000 ^ l.length := by
 induction l with
 | nil => simp [val]
 | cons x r ih =>
  rw [Dig.cons] at h
  have := ih h.2
  simp only [val, List.length_cons, Int.pow_succ]
  omega
theorem jH (n : Nat) : (0 : Int) < 1000000000 ^ n := Int.pow_pos (by decide)
theorem mX {m n : Nat} (h : m ≤ n) : (1000000000 : Int) ^ m ≤ 1000000000 ^ n := by
 obtain ⟨k, rfl⟩ := Nat.le.dest h
 rw [Int.pow_add]
 have h1 := jH m
 have h2 := jH k
 have : (1000000000 : Int) ^ m * 1 ≤ 1000000000 ^ m * 1000000000 ^ k := Int.mul_le_mul_of_nonneg_left (by omega) (by omega)
 omega
theorem aKC : ∀ {a b : List Int}, Dig a → Dig b → a.length = b.length → val a = val b → a = b
 | [], [], _, _, _, _ => rfl
 | [], _ :: _, _, _, h, _ => by simp at h
 | _ :: _, [], _, _, h, _ => by simp at h
 | x :: r, y :: s, ha, hb, hl, h => by
  rw [Dig.cons] at ha hb
  simp only [val] at h
  have hxy : x = y := by omega
  have := aKC ha.2 hb.2 (by simpa using hl) (by omega)
  rw [hxy, this]
def Top (l : List Int) : Prop := l.getLastD 1 ≠ 0
instance (l : List Int) : Decidable (Top l) := by unfold Top; exact inferInstance
def Can (l : List Int) : Prop := Dig l ∧ Top l
theorem Top.cons {x y : Int} {r : List Int} : Top (x :: y :: r) ↔ Top (y :: r) := by simp [Top]
theorem Top.snoc {l : List Int} {x : Int} : Top (l ++ [x]) ↔ x ≠ 0 := by simp [Top]
theorem xJ {l : List Int} (h : Can l) (hl : 0 < l.length) : 1000000000 ^ (l.length - 1) ≤ val l := by
 rcases List.eq_nil_or_concat l with rfl | ⟨r, x, e⟩
 ·simp at hl
 ·rw [List.concat_eq_append] at e
  subst e
  obtain ⟨hd, ht⟩ := h
  rw [Dig.app] at hd
  rw [Top.snoc] at ht
  have h1 := bX hd.1
  have h2 := hd.2 x (by simp)
  simp only [val_append, val, List.length_append, List.length_singleton, Nat.add_sub_cancel]
  have h3 := jH r.length
  have : 1000000000 ^ r.length * 1 ≤ 1000000000 ^ r.length * (x + 1000000000 * 0) := Int.mul_le_mul_of_nonneg_left (by omega) (by omega)
  omega
theorem Can.len_le {a b : List Int} (ha : Can a) (hb : Dig b) (h : val a ≤ val b) : a.length ≤ b.length := by
 by_cases h0 : a.length = 0
 ·omega
 ·have h1 := xJ ha (by omega)
  have h2 := jY hb
  by_cases hlt : b.length ≤ a.length - 1
  ·have := mX hlt
   omega
  ·omega
theorem Can.inj {a b : List Int} (ha : Can a) (hb : Can b) (h : val a = val b) : a = b :=
 aKC ha.1 hb.1 (Nat.le_antisymm (ha.len_le hb.1 (by omega)) (hb.len_le ha.1 (by omega))) h
def gr : Nat → List Int
 | 0 => []
 | n + 1 => (((n + 1) % 1000000000 : Nat) : Int) :: gr ((n + 1) / 1000000000)
termination_by n => n
decreasing_by omega
theorem gX : gr 0 = [] := by unfold gr; rfl
theorem tL {n : Nat} (h : n ≠ 0) : gr n = ((n % 1000000000 : Nat) : Int) :: gr (n / 1000000000) := by
 cases n with
 | zero => exact absurd rfl h
 | succ n => rw [gr]
theorem bY : ∀ n, Dig (gr n) := by
 intro n
 induction n using Nat.strongRecOn with
 | _ n ih =>
  by_cases h : n = 0
  ·subst h; rw [gX]; exact Dig.nil
  ·rw [tL h, Dig.cons]
   exact ⟨by omega, ih _ (by omega)⟩
theorem dD : ∀ n : Nat, val (gr n) = n := by
 intro n
 induction n using Nat.strongRecOn with
 | _ n ih =>
  by_cases h : n = 0
  ·subst h; rw [gX]; rfl
  ·rw [tL h]
   simp only [val]
   rw [ih _ (by omega)]
   omega
theorem nU {n : Nat} : gr n = [] ↔ n = 0 := by
 constructor
 ·intro h
  have := dD n
  rw [h] at this
  simp [val] at this
  omega
 ·rintro rfl; exact gX
theorem aAW : ∀ n, Top (gr n) := by
 intro n
 induction n using Nat.strongRecOn with
 | _ n ih =>
  by_cases h : n = 0
  ·subst h; rw [gX]; decide
  ·rw [tL h]
   by_cases h2 : n / 1000000000 = 0
   ·rw [h2, gX]
    simp only [Top, List.getLastD_cons, List.getLastD_nil]
    omega
   ·rw [tL h2, Top.cons, ← tL h2]
    exact ih _ (by omega)
theorem tF (n : Nat) : Can (gr n) := ⟨bY n, aAW n⟩
theorem aUQ {l : List Int} (h : Can l) : l = gr (val l).toNat := by
 refine h.inj (tF _) ?_
 rw [dD]
 have := bX h.1
 omega
theorem pK {n k : Nat} (h : n < 1000000000 ^ k) : (gr n).length ≤ k := by
 by_cases h0 : (gr n).length = 0
 ·omega
 ·have h1 := xJ (tF n) (by omega)
  rw [dD] at h1
  by_cases hlt : k ≤ (gr n).length - 1
  ·have h2 := mX hlt
   have h3 : (n : Int) < ((1000000000 ^ k : Nat) : Int) := Int.ofNat_lt.2 h
   rw [Int.natCast_pow, show ((1000000000 : Nat) : Int) = 1000000000 from rfl] at h3
   omega
  ·omega
theorem iA {m n : Nat} (h : m ≤ n) : (gr m).length ≤ (gr n).length := (tF m).len_le (bY n) (by rw [dD, dD]; omega)
def fQ : List Int → List Int
 | [] => []
 | x :: r => if fQ r = [] ∧ x = 0 then [] else x :: fQ r
theorem aFU : ∀ l, val (fQ l) = val l
 | [] => rfl
 | x :: r => by
  have := aFU r
  unfold fQ
  split
  ·rename_i h
   rw [h.1] at this
   simp only [val] at this ⊢
   omega
  ·simp only [val, this]
theorem aGV : ∀ {l}, Dig l → Dig (fQ l)
 | [], _ => Dig.nil
 | x :: r, h => by
  rw [Dig.cons] at h
  unfold fQ
  split
  ·exact Dig.nil
  ·rw [Dig.cons]; exact ⟨h.1, aGV h.2⟩
theorem aFO : ∀ l, Top (fQ l)
 | [] => by decide
 | x :: r => by
  have ih := aFO r
  unfold fQ
  split
  ·decide
  ·rename_i h
   cases ht : fQ r with
   | nil =>
    rw [ht] at h
    simp only [Top, List.getLastD_cons, List.getLastD_nil]
    exact fun hx => h ⟨rfl, hx⟩
   | cons y s => rw [Top.cons, ← ht]; exact ih
theorem aUK {l : List Int} (h : Dig l) : fQ l = gr (val l).toNat := by
 have := aUQ (l := fQ l) ⟨aGV h, aFO l⟩
 rwa [aFU] at this
theorem nK {l : List Int} {n : Nat} (h : Dig l) (e : val l = n) : fQ l = gr n := by
 rw [aUK h, e, Int.toNat_natCast]
theorem vF : ∀ l, fQ (l ++ [0]) = fQ l
 | [] => by decide
 | x :: r => by
  have := vF r
  simp only [List.cons_append, fQ, this]
theorem aBT {l : List Int} (h : Top l) : fQ l = l := by
 induction l with
 | nil => rfl
 | cons x r ih =>
  unfold fQ
  cases r with
  | nil =>
   simp only [Top, List.getLastD_cons, List.getLastD_nil] at h
   rw [if_neg (fun hh => h hh.2)]
   rfl
  | cons y s =>
   rw [Top.cons] at h
   rw [ih h, if_neg (by simp)]
theorem uB : ∀ l, ∃ k, k ≤ l.length ∧ fQ l = l.take k ∧ (∀ i, k ≤ i → l.getD i 0 = 0)
 | [] => ⟨0, by simp, rfl, by simp⟩
 | x :: r => by
  obtain ⟨k, hk, he, hz⟩ := uB r
  unfold fQ
  split
  ·rename_i h
   refine ⟨0, by simp, rfl, fun i _ => ?_⟩
   cases i with
   | zero => simpa using h.2
   | succ i =>
    have hr : r.take k = [] := by rw [← he]; exact h.1
    have : k = 0 ∨ r = [] := by simpa [List.take_eq_nil_iff] using hr
    rcases this with rfl | rfl
    ·simpa using hz i (by omega)
    ·simp
  ·refine ⟨k + 1, by simp; omega, by rw [he]; rfl, fun i hi => ?_⟩
   cases i with
   | zero => omega
   | succ i => simpa using hz i (by omega)
/- places: read, written -/
theorem cB (l : List Int) (i : Nat) : val (l.take (i + 1)) = val (l.take i) + 1000000000 ^ i * l.getD i 0 := by
 induction l generalizing i with
 | nil => simp [val]
 | cons x r ih =>
  cases i with
  | zero => simp [val]
  | succ i =>
   have := ih i
   simp only [List.take_succ_cons, val, this, List.getD_cons_succ, Int.pow_succ]
   grind
theorem rZ (l : List Int) (i : Nat) (h : i < l.length) : val (l.drop i) = l.getD i 0 + 1000000000 * val (l.drop (i + 1)) := by
 rw [List.drop_eq_getElem_cons h]
 simp [val, List.getD, h]
theorem kE (l : List Int) (i : Nat) (h : i ≤ l.length) : val l = val (l.take i) + 1000000000 ^ i * val (l.drop i) := by
 have e := val_append (l.take i) (l.drop i)
 rw [List.take_append_drop, List.length_take, Nat.min_eq_left h] at e
 exact e
theorem zM (l : List Int) (i : Nat) (x : Int) (h : i < l.length) : val (l.set i x) = val l + 1000000000 ^ i * (x - l.getD i 0) := by
 induction l generalizing i with
 | nil => simp at h
 | cons y r ih =>
  cases i with
  | zero => simp [val]; omega
  | succ i =>
   have := ih i (by simpa using h)
   simp only [List.set_cons_succ, val, this, List.getD_cons_succ, Int.pow_succ]
   grind
theorem jC (l : List Int) (i : Nat) (x : Int) (h : i < l.length) : (l.set i x).take (i + 1) = l.take i ++ [x] := by
 apply List.ext_getElem?
 intro j
 by_cases h1 : j < i
 ·rw [List.getElem?_take, if_pos (by omega), List.getElem?_set_ne (by omega), List.getElem?_append_left (by simp; omega), List.getElem?_take, if_pos h1]
 ·by_cases h2 : j = i
  ·subst h2
   rw [List.getElem?_take, if_pos (by omega), List.getElem?_set_self h, List.getElem?_append_right (by simp; omega)]
   simp [Nat.min_eq_left (Nat.le_of_lt h)]
  ·rw [List.getElem?_take, if_neg (by omega), List.getElem?_append_right (by simp; omega)]
   simp only [List.length_take]
   rw [List.getElem?_eq_none (by simp; omega)]
theorem drop_set (l : List Int) (i : Nat) (x : Int) (h : i < l.length) : (l.set i x).drop i = x :: l.drop (i + 1) := by
 apply List.ext_getElem?
 intro j
 cases j with
 | zero => simp [h]
 | succ j =>
  rw [List.getElem?_drop, List.getElem?_set_ne (by omega), List.getElem?_cons_succ, List.getElem?_drop]
  congr 1
  omega
theorem Dig.getD {l : List Int} (h : Dig l) (i : Nat) : 0 ≤ l.getD i 0 ∧ l.getD i 0 < 1000000000 := by
 by_cases hi : i < l.length
 ·have : l.getD i 0 = l[i] := by simp [List.getD, hi]
  rw [this]
  exact h _ (List.getElem_mem hi)
 ·have : l.getD i 0 = 0 := by simp [List.getD, Nat.le_of_not_lt hi]
  rw [this]
  decide
theorem Dig.take {l : List Int} (h : Dig l) (i : Nat) : Dig (l.take i) := fun x hx => h x (List.mem_of_mem_take hx)
theorem Dig.drop {l : List Int} (h : Dig l) (i : Nat) : Dig (l.drop i) := fun x hx => h x (List.mem_of_mem_drop hx)
theorem Dig.set {l : List Int} (h : Dig l) (i : Nat) {x : Int} (hx : 0 ≤ x ∧ x < 1000000000) : Dig (l.set i x) := fun y hy => by
 rcases List.mem_or_eq_of_mem_set hy with hy | rfl
 ·exact h y hy
 ·exact hx
theorem Dig.snoc {l : List Int} (h : Dig l) {x : Int} (hx : 0 ≤ x ∧ x < 1000000000) : Dig (l ++ [x]) := Dig.app.2 ⟨h, by rw [Dig.cons]; exact ⟨hx, Dig.nil⟩⟩
theorem Dig.zeros (n : Nat) : Dig (List.replicate n 0) := fun x hx => by
 rw [List.eq_of_mem_replicate hx]; decide
theorem xP (n : Nat) : val (List.replicate n 0) = 0 := by
 induction n with
 | zero => rfl
 | succ n ih => simp only [List.replicate_succ, val, ih]; rfl
theorem iM {l : List Int} (h : Dig l) (i : Nat) : val (l.take i) < 1000000000 ^ i := by
 have h1 := jY (h.take i)
 have h2 := mX (show (l.take i).length ≤ i by simp; omega)
 omega
theorem aGB {a b o : List Int} {i : Nat} {c s : Int} (hv : val (o.take i) + 1000000000 ^ i * c = val (a.take i) + val (b.take i)) (hi : i < o.length) {s' c' : Int} (hs : s = a.getD i 0 + b.getD i 0 + c) (he : s' + 1000000000 * c' = s) :
  val ((o.set i s').take (i + 1)) + 1000000000 ^ (i + 1) * c' = val (a.take (i + 1)) + val (b.take (i + 1)) := by
 rw [jC o i s' hi, val_append, cB, cB]
 simp only [List.length_take, Nat.min_eq_left (Nat.le_of_lt hi), val, Int.pow_succ]
 grind
theorem aFN {a b o : List Int} {i : Nat} {c : Int} (hv : val (o.take i) - 1000000000 ^ i * c = val (a.take i) - val (b.take i)) (hi : i < o.length) {s' c' : Int} (he : s' - 1000000000 * c' = a.getD i 0 - b.getD i 0 - c) :
  val ((o.set i s').take (i + 1)) - 1000000000 ^ (i + 1) * c' = val (a.take (i + 1)) - val (b.take (i + 1)) := by
 rw [jC o i s' hi, val_append, cB, cB]
 simp only [List.length_take, Nat.min_eq_left (Nat.le_of_lt hi), val, Int.pow_succ]
 grind
end Go.Proofs.YtjbhdfpjnjedhaaGreat
namespace Go.Proofs.YtjbhdfpjnjedhaaGreat
open Go Go.Fx
theorem qL {p q o c : Int} (hp : 0 ≤ p ∧ p < 1000000000) (hq : 0 ≤ q ∧ q < 1000000000) (ho : 0 ≤ o ∧ o < 1000000000) (hc : 0 ≤ c ∧ c < 1000000000) :
  (0 ≤ p * q ∧ p * q ≤ 999999998000000001) ∧ (0 ≤ o + p * q + c ∧ o + p * q + c ≤ 999999999999999999) ∧ (0 ≤ (o + p * q + c) / 1000000000 ∧ (o + p * q + c) / 1000000000 < 1000000000) := by
 have h0 : 0 ≤ p * q := Int.mul_nonneg hp.1 hq.1
 have h1 : p * q ≤ 999999999 * 999999999 := Int.mul_le_mul (by omega) (by omega) hq.1 (by omega)
 refine ⟨by omega, by omega, by omega⟩
theorem aIM {o b : List Int} {i j : Nat} {p c S : Int} (hv : val o + 1000000000 ^ (i + j) * c = S + 1000000000 ^ i * (p * val (b.take j))) (hij : i + j < o.length) :
  val (o.set (i + j) ((o.getD (i + j) 0 + p * b.getD j 0 + c) % 1000000000)) + 1000000000 ^ (i + (j + 1)) * ((o.getD (i + j) 0 + p * b.getD j 0 + c) / 1000000000) = S + 1000000000 ^ i * (p * val (b.take (j + 1))) := by
 rw [zM o _ _ hij, cB]
 have e : (o.getD (i + j) 0 + p * b.getD j 0 + c) = (o.getD (i + j) 0 + p * b.getD j 0 + c) % 1000000000 + 1000000000 * ((o.getD (i + j) 0 + p * b.getD j 0 + c) / 1000000000) := by omega
 generalize (o.getD (i + j) 0 + p * b.getD j 0 + c) % 1000000000 = s at *
 generalize (o.getD (i + j) 0 + p * b.getD j 0 + c) / 1000000000 = t at *
 have e1 : (1000000000 : Int) ^ (i + (j + 1)) = 1000000000 ^ (i + j) * 1000000000 := by rw [← Nat.add_assoc, Int.pow_succ]
 have e2 : (1000000000 : Int) ^ (i + j) = 1000000000 ^ i * 1000000000 ^ j := Int.pow_add _ _ _
 rw [e1, e2]
 rw [e2] at hv
 clear e1 e2
 generalize (1000000000 : Int) ^ i = A at *
 generalize (1000000000 : Int) ^ j = D at *
 generalize o.getD (i + j) 0 = u at *
 generalize b.getD j 0 = v at *
 generalize val o = x at *
 generalize val (b.take j) = y at *
 clear hij
 grind
theorem aET {o b : List Int} {i : Nat} {p c S : Int} (hv : val o + 1000000000 ^ (i + b.length) * c = S + 1000000000 ^ i * (p * val (b.take b.length))) (hij : i + b.length < o.length) (hz : o.getD (i + b.length) 0 = 0) :
  val (o.set (i + b.length) c) = S + 1000000000 ^ i * (p * val b) := by
 rw [zM o _ _ hij, hz, Int.sub_zero, hv, List.take_length]
theorem aDO {r g d : Int} (hd : 0 < d) (hd2 : d ≤ 1000000000) (hr : 0 ≤ r ∧ r < d) (hg : 0 ≤ g ∧ g < 1000000000) :
  (0 ≤ r * 1000000000 ∧ r * 1000000000 + g ≤ 999999999999999999) ∧ (0 ≤ (r * 1000000000 + g) / d ∧ (r * 1000000000 + g) / d < 1000000000) ∧ (0 ≤ (r * 1000000000 + g) % d ∧ (r * 1000000000 + g) % d < d) := by
 have h1 : (r * 1000000000 + g) / d < 1000000000 := by
  rw [Int.ediv_lt_iff_lt_mul hd]
  have : (r + 1) * 1000000000 ≤ d * 1000000000 := Int.mul_le_mul_of_nonneg_right (by omega) (by omega)
  have e : (1000000000 : Int) * d = d * 1000000000 := Int.mul_comm _ _
  omega
 have h2 : 0 ≤ (r * 1000000000 + g) / d := Int.ediv_nonneg (by omega) (by omega)
 have h3 := Int.emod_nonneg (r * 1000000000 + g) (show d ≠ 0 by omega)
 have h4 := Int.emod_lt_of_pos (r * 1000000000 + g) hd
 exact ⟨by omega, by omega, by omega⟩
theorem aGA {a q : List Int} {i : Nat} {d r : Int} (hia : i < a.length) (hiq : i < q.length) (hv : val (a.drop (i + 1)) = d * val (q.drop (i + 1)) + r) :
  val (a.drop i) = d * val ((q.set i ((r * 1000000000 + a.getD i 0) / d)).drop i) + (r * 1000000000 + a.getD i 0) % d := by
 rw [rZ a i hia, drop_set q i _ hiq, hv]
 have e := Int.mul_ediv_add_emod (r * 1000000000 + a.getD i 0) d
 simp only [val]
 generalize (r * 1000000000 + a.getD i 0) / d = s at *
 generalize (r * 1000000000 + a.getD i 0) % d = t at *
 grind
/- comparing -/
theorem aEC {a b : List Int} (ha : Can a) (hb : Can b) (h : a.length < b.length) : val a < val b := by
 by_cases c : val b ≤ val a
 ·have := hb.len_le ha.1 c; omega
 ·omega
theorem aRB {a b : List Int} {i : Nat} (ha : Dig a) (hb : Dig b) (hl : a.length = b.length) (hi : i < a.length) (hs : a.drop (i + 1) = b.drop (i + 1)) (hlt : a.getD i 0 < b.getD i 0) : val a < val b := by
 have e1 := kE a i (by omega)
 have e2 := kE b i (by omega)
 rw [rZ a i hi] at e1
 rw [rZ b i (by omega), ← hs] at e2
 have h1 := iM ha i
 have h2 := bX (hb.take i)
 have h3 : 1000000000 ^ i * (a.getD i 0 + 1) ≤ 1000000000 ^ i * b.getD i 0 := Int.mul_le_mul_of_nonneg_left (by omega) (Int.le_of_lt (jH i))
 generalize (1000000000 : Int) ^ i = A at *
 generalize val (a.drop (i + 1)) = D at *
 rw [Int.mul_add] at e1 e2 h3
 omega
theorem aPM {a b : List Int} {i : Nat} (hl : a.length = b.length) (hi : i < a.length) (he : a.getD i 0 = b.getD i 0) (hs : a.drop (i + 1) = b.drop (i + 1)) : a.drop i = b.drop i := by
 rw [List.drop_eq_getElem_cons hi, List.drop_eq_getElem_cons (show i < b.length by omega), hs]
 simp [List.getD, hi, show i < b.length by omega] at he
 rw [he]
end Go.Proofs.YtjbhdfpjnjedhaaGreat

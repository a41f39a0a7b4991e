/- The symbolic heap, continued: rules whose conclusions are ready to read. The side conditions of the walk, quicker: shapes first. The walk, kept once. -/
import Derived.Test.YtmmmfphealhapaaGreatZrak
import Derived.Test.YtmmmfphealhapaaGreatZrag
set_option linter.unusedSimpArgs false
set_option linter.unusedVariables false
set_option maxRecDepth 100000
set_option maxHeartbeats 4000000
namespace Go.Fx
section
variable {P : Program} {n : Nat} {Q Q' : Exit → Act → World → Prop} {G : Env} {X : List Nat} {w0 : World} {M M' : List Ent} {I I' : List bA}
variable {ops l : List Oper} {m : Mode} {op : Op} {ty : TypeId} {pos : String} {af : Array Edge} {g : Option (Nat × Bool)}
theorem Eff.boxA {w : World} {t : TypeId} {x : Operand} {vs : List Value} (hx : ev G x = some (.agg vs.toArray)) : Eff P n G (.box t x) ty w (fun v w' => ∃ b, w.heap.size ≤ b ∧ v = .pointer (some ⟨b, 0, none⟩) ∧ Blk w' b vs t ∧ Ext [] w w') := by
 have h := aHL (P := P) (n := n) (ty := ty) (w := w) (t := t) hx
 refine h.mono (fun v w' ⟨b, hb, hp, hB, hE, _⟩ => ⟨b, by omega, hp, ?_, hE⟩)
 simpa [Value.cells] using hB
theorem aK {d : Nat} {t : TypeId} {x : Operand} {vs : List Value} (hx : ev G x = some (.agg vs.toArray)) (hg : nM ops G g = some true) (hd : Nat.ble (d + 1) n = true)
  (k : ∀ b, OkD m X w0 (.blk b vs t :: M) I ∧ RD P n ops Q m.nextE l ((d, .pointer (some ⟨b, 0, none⟩)) :: G) X w0 (.blk b vs t :: M) I) :
  RD P n ops Q m (⟨some d, .box t x, ty, pos, af, g⟩ :: l) G X w0 M I :=
 yC (d := some d) (K := fun v' M' I' => ∃ b, v' = .pointer (some ⟨b, 0, none⟩) ∧ M' = .blk b vs t :: M ∧ I' = I) hg
  (fun w hw => (Eff.boxA hx).mono (fun _ w' ⟨b, hb, hp, hB, hE⟩ => ⟨_, _, ⟨b, hp, rfl, rfl⟩, hw.push hE (by simp [Ent.blocks, hb]) (by simp [Ent.blocks]) hB⟩)) rfl hd
  (fun _ _ _ ⟨b, hp, hM, hI⟩ => by subst hp; subst hM; subst hI; exact k b)
theorem aA {d : Nat} {f : FuncId} {xs : List Operand} {vs : List Value} {at_ : Array TypeId} {K : Value → List Ent → List bA → Prop} [FnOk P f] (hx : evs G xs = some vs) (hc : CD P f vs X w0 M I K)
  (hg : nM ops G g = some true) (hd : Nat.ble (d + 1) n = true) (k : ∀ v M' I', K v M' I' → OkD m X w0 M' I' ∧ RD P n ops Q m.nextE l ((d, v) :: G) X w0 M' I') :
  RD P n ops Q m (⟨some d, .call { callee := .value (.func f), args := xs.toArray, argTypes := at_ }, ty, pos, af, g⟩ :: l) G X w0 M I :=
 aT (d := some d) hx hc hg hd k
theorem jP {d : Nat} {h : Operand} {f : FuncId} {fs cs : Array Value} {xs : List Operand} {vs : List Value} {at_ : Array TypeId} {K : Value → List Ent → List bA → Prop} [FnOk P f] (hh : ev G h = some (.func (.func f) fs cs)) (hx : evs G xs = some vs)
  (hc : CD P f (fs.toList ++ vs ++ cs.toList) X w0 M I K)
  (hg : nM ops G g = some true) (hf : iE (.call { callee := .value h, args := xs.toArray, argTypes := at_ }) = false) (hd : Nat.ble (d + 1) n = true) (k : ∀ v M' I', K v M' I' → OkD m X w0 M' I' ∧ RD P n ops Q m.nextE l ((d, v) :: G) X w0 M' I') :
  RD P n ops Q m (⟨some d, .call { callee := .value h, args := xs.toArray, argTypes := at_ }, ty, pos, af, g⟩ :: l) G X w0 M I :=
 aDV (d := some d) hh hx hc hg hf hd k
section
variable {f : FuncId} {fn : Func} {c : Code} {K : Value → List Ent → List bA → Prop} {v0 v1 v2 v3 v4 v5 v6 : Value}
theorem aHF (hf : P.funcs[f]? = some fn) (hb : fn.body = some c) (hn : fn.ntmps = n) (hl : Nat.ble 0 n = true) (h : TD P n c (Body P fn (KB K X w0)) [] X w0 M I) : CD P f [] X w0 M I K := eY hf hb hn hl h
theorem bV (hf : P.funcs[f]? = some fn) (hb : fn.body = some c) (hn : fn.ntmps = n) (hl : Nat.ble 1 n = true) (h : TD P n c (Body P fn (KB K X w0)) [(0, v0)] X w0 M I) : CD P f [v0] X w0 M I K := eY hf hb hn hl h
theorem bI (hf : P.funcs[f]? = some fn) (hb : fn.body = some c) (hn : fn.ntmps = n) (hl : Nat.ble 2 n = true) (h : TD P n c (Body P fn (KB K X w0)) [(0, v0), (1, v1)] X w0 M I) : CD P f [v0, v1] X w0 M I K := eY hf hb hn hl h
theorem oU (hf : P.funcs[f]? = some fn) (hb : fn.body = some c) (hn : fn.ntmps = n) (hl : Nat.ble 3 n = true) (h : TD P n c (Body P fn (KB K X w0)) [(0, v0), (1, v1), (2, v2)] X w0 M I) : CD P f [v0, v1, v2] X w0 M I K := eY hf hb hn hl h
theorem aOH (hf : P.funcs[f]? = some fn) (hb : fn.body = some c) (hn : fn.ntmps = n) (hl : Nat.ble 5 n = true) (h : TD P n c (Body P fn (KB K X w0)) [(0, v0), (1, v1), (2, v2), (3, v3), (4, v4)] X w0 M I) : CD P f [v0, v1, v2, v3, v4] X w0 M I K := eY hf hb hn hl h
theorem aHM (hf : P.funcs[f]? = some fn) (hb : fn.body = some c) (hn : fn.ntmps = n) (hl : Nat.ble 6 n = true) (h : TD P n c (Body P fn (KB K X w0)) [(0, v0), (1, v1), (2, v2), (3, v3), (4, v4), (5, v5)] X w0 M I) : CD P f [v0, v1, v2, v3, v4, v5] X w0 M I K := eY hf hb hn hl h
end
end
end Go.Fx
namespace Go.Fx
section
variable {P : Program} {n : Nat} {Q : Exit → Act → World → Prop} {G G' : Env} {X : List Nat} {w0 : World} {M M' M1 : List Ent} {I I' I1 : List bA} {m : Mode} {a b x y0 y1 y2 y3 y4 y5 y6 y7 y8 y9 : Ent} {φ : bA} {cs cs' vs : List Value} {o sz : Nat} {v : Value} {α : Type} {aa : α} {ll : List α}
theorem SubP.c0 (k : SubP M M') : SubP (x :: M) (x :: M') := .cons .here k
theorem SubP.c1 (k : SubP (y0 :: M) M') : SubP (y0 :: x :: M) (x :: M') := .cons (.there .here) k
theorem SubP.c2 (k : SubP (y0 :: y1 :: M) M') : SubP (y0 :: y1 :: x :: M) (x :: M') := .cons (.there (.there .here)) k
theorem SubP.c3 (k : SubP (y0 :: y1 :: y2 :: M) M') : SubP (y0 :: y1 :: y2 :: x :: M) (x :: M') := .cons (.there (.there (.there .here))) k
theorem SubP.c4 (k : SubP (y0 :: y1 :: y2 :: y3 :: M) M') : SubP (y0 :: y1 :: y2 :: y3 :: x :: M) (x :: M') := .cons (.there (.there (.there (.there .here)))) k
theorem SubP.c5 (k : SubP (y0 :: y1 :: y2 :: y3 :: y4 :: M) M') : SubP (y0 :: y1 :: y2 :: y3 :: y4 :: x :: M) (x :: M') := .cons (.there (.there (.there (.there (.there .here))))) k
theorem SubP.c6 (k : SubP (y0 :: y1 :: y2 :: y3 :: y4 :: y5 :: M) M') : SubP (y0 :: y1 :: y2 :: y3 :: y4 :: y5 :: x :: M) (x :: M') := .cons (.there (.there (.there (.there (.there (.there .here)))))) k
theorem SubP.c7 (k : SubP (y0 :: y1 :: y2 :: y3 :: y4 :: y5 :: y6 :: M) M') : SubP (y0 :: y1 :: y2 :: y3 :: y4 :: y5 :: y6 :: x :: M) (x :: M') := .cons (.there (.there (.there (.there (.there (.there (.there .here))))))) k
theorem SubP.c8 (k : SubP (y0 :: y1 :: y2 :: y3 :: y4 :: y5 :: y6 :: y7 :: M) M') : SubP (y0 :: y1 :: y2 :: y3 :: y4 :: y5 :: y6 :: y7 :: x :: M) (x :: M') := .cons (.there (.there (.there (.there (.there (.there (.there (.there .here)))))))) k
theorem aB (h : aa ∈ ll := by first | ((repeat (first | with_reducible exact List.mem_cons_self | with_reducible assumption | with_reducible refine List.mem_cons_of_mem _ ?_)); done) | (repeat (first | exact List.Mem.head _ | assumption | refine List.Mem.tail _ ?_))) : aa ∈ ll := h
theorem aG (h : SubP M M' := by first | ((repeat (first | with_reducible exact SubP.refl | with_reducible exact SubP.nil | with_reducible refine SubP.c0 ?_ | with_reducible refine SubP.c1 ?_ | with_reducible refine SubP.c2 ?_ | with_reducible refine SubP.c3 ?_ | with_reducible refine SubP.c4 ?_ | with_reducible refine SubP.c5 ?_ | with_reducible refine SubP.c6 ?_ | with_reducible refine SubP.c7 ?_ | with_reducible refine SubP.c8 ?_ | with_reducible refine SubP.drop ?_)); done) | (repeat (first | exact SubP.refl | exact SubP.nil | refine SubP.c0 ?_ | refine SubP.c1 ?_ | refine SubP.c2 ?_ | refine SubP.c3 ?_ | refine SubP.c4 ?_ | refine SubP.c5 ?_ | refine SubP.c6 ?_ | refine SubP.c7 ?_ | refine SubP.c8 ?_ | refine SubP.drop ?_))) : SubP M M' := h
theorem aF (h : Inc I I' := by first | ((repeat (first | with_reducible exact Inc.refl | with_reducible exact Inc.nil | (with_reducible refine Inc.cons ?_ ?_; (repeat (first | with_reducible exact List.mem_cons_self | with_reducible assumption | with_reducible refine List.mem_cons_of_mem _ ?_))) | with_reducible refine Inc.wk ?_)); done) | (repeat (first | exact Inc.refl | exact Inc.nil | (refine Inc.cons ?_ ?_; (repeat (first | exact List.Mem.head _ | assumption | refine List.Mem.tail _ ?_))) | refine Inc.wk ?_))) : Inc I I' := h
theorem tL (h : Rem a M M' := by first | with_reducible exact .here | with_reducible exact .there .here | with_reducible exact .there (.there .here) | with_reducible exact .there (.there (.there .here)) | with_reducible exact .there (.there (.there (.there .here))) | with_reducible exact .there (.there (.there (.there (.there .here)))) | with_reducible exact .there (.there (.there (.there (.there (.there .here))))) | with_reducible exact .there (.there (.there (.there (.there (.there (.there .here)))))) | exact uK) : Rem a M M' := h
theorem lN (h : Rep a b M M' := by first | with_reducible exact .here | with_reducible exact .there .here | with_reducible exact .there (.there .here) | with_reducible exact .there (.there (.there .here)) | with_reducible exact .there (.there (.there (.there .here))) | with_reducible exact .there (.there (.there (.there (.there .here)))) | with_reducible exact .there (.there (.there (.there (.there (.there .here))))) | with_reducible exact .there (.there (.there (.there (.there (.there (.there .here)))))) | with_reducible assumption | exact lW) : Rep a b M M' := h
theorem okF (h : OkD m X w0 M I := by first | with_reducible exact OkD.seq | with_reducible exact OkD.one | (with_reducible refine OkD.any ?_ ?_; exact aG; exact aF) | exact OkD.seq | exact OkD.one | (refine OkD.any ?_ ?_; exact aG; exact aF) | exact OkD.uptoN (by decide) | (refine OkD.uptoY ?_ ?_; exact aG; exact aF) | exact OkD.kN (by decide) | (refine OkD.kY ?_ ?_; exact aG; exact aF)) : OkD m X w0 M I := h
theorem fV (h : View m X w0 M I M1 I1 := by first | exact View.seq | exact View.any | exact View.one rfl | exact View.upto (by decide) | exact View.k0 rfl | exact View.kJ (by decide)) : View m X w0 M I M1 I1 := h
theorem rP (h : At cs o v := by first | (with_reducible refine At.r1 ?_ ?_; exact iQ; rfl) | (with_reducible refine At.r2 ?_ ?_; exact iQ; rfl) | exact At.mk rfl | exact nJ) : At cs o v := h
variable {x' y' : Int} {kk : IntKind}
theorem wF (h : kk.wrap x' = y' := by first | (with_reducible refine wrap_i64 ?_; first | omega | with_reducible assumption) | (with_reducible refine wrap_u64 ?_; first | omega | with_reducible assumption) | (with_reducible refine wrap_u32 ?_; first | omega | with_reducible assumption) | (with_reducible refine wrap_u8 ?_; omega)) : kk.wrap x' = y' := h
theorem qF (h : kk.wrap x' = y' := by first | (with_reducible refine aGJ ?_; omega) | (with_reducible refine aFZ ?_ ?_; omega; omega)) : kk.wrap x' = y' := h
end
/- loads of parts -/
structure AtsZ (cs : List Value) (o : Nat) (vs : List Value) (sz : Nat) : Prop where
 ats : Ats cs o vs
 len : vs.length = sz
theorem AtsZ.all {cs : List Value} {sz : Nat} (h : cs.length = sz) : AtsZ cs 0 cs sz := ⟨Ats.all, h⟩
theorem AtsZ.r {α : Type} [Inhabited α] {enc : α → List Value} {sz : Nat} [hz : Sized enc sz] {ms : List α} {i : Int} (hi : 0 ≤ i ∧ i < ms.length) : AtsZ (recs enc ms) (i.toNat * sz) (enc (gt ms i)) sz := ⟨Ats.r hi, hz.len _⟩
theorem AtsZ.app {cs tl vs : List Value} {o sz : Nat} (h : AtsZ cs o vs sz) : AtsZ (cs ++ tl) o vs sz := ⟨Ats.app h.ats, h.len⟩
theorem Ats.of2 {cs : List Value} {o : Nat} {a b : Value} (h0 : cs[o]? = some a) (h1 : cs[o + 1]? = some b) : Ats cs o [a, b] := ⟨fun j v hj => by
 match j, hj with
 | 0, hj => simp at hj; subst hj; exact h0
 | 1, hj => simp at hj; subst hj; exact h1
 | j + 2, hj => simp at hj⟩
theorem Ats.of4 {cs : List Value} {o : Nat} {a b c d : Value} (h0 : cs[o]? = some a) (h1 : cs[o + 1]? = some b) (h2 : cs[o + 2]? = some c) (h3 : cs[o + 3]? = some d) : Ats cs o [a, b, c, d] := ⟨fun j v hj => by
 match j, hj with
 | 0, hj => simp at hj; subst hj; exact h0
 | 1, hj => simp at hj; subst hj; exact h1
 | 2, hj => simp at hj; subst hj; exact h2
 | 3, hj => simp at hj; subst hj; exact h3
 | j + 4, hj => simp at hj⟩
theorem AtsZ.n2 {cs : List Value} {o : Nat} {a b : Value} (h0 : cs[o]? = some a) (h1 : cs[o + 1]? = some b) : AtsZ cs o [a, b] 2 := ⟨Ats.of2 h0 h1, rfl⟩
theorem AtsZ.n4 {cs : List Value} {o : Nat} {a b c d : Value} (h0 : cs[o]? = some a) (h1 : cs[o + 1]? = some b) (h2 : cs[o + 2]? = some c) (h3 : cs[o + 3]? = some d) : AtsZ cs o [a, b, c, d] 4 := ⟨Ats.of4 h0 h1 h2 h3, rfl⟩
theorem AtsZ.r2 {α : Type} [Inhabited α] {enc : α → List Value} {sz : Nat} [Sized enc sz] {ms : List α} {i : Int} {j : Nat} {a b : Value} (hi : 0 ≤ i ∧ i < ms.length) (h0 : (enc (gt ms i))[j]? = some a) (h1 : (enc (gt ms i))[j + 1]? = some b) : AtsZ (recs enc ms) (i.toNat * sz + j) [a, b] 2 := ⟨Ats.of2 (nD hi h0) (nD hi h1), rfl⟩
theorem AtsZ.r4 {α : Type} [Inhabited α] {enc : α → List Value} {sz : Nat} [Sized enc sz] {ms : List α} {i : Int} {j : Nat} {a b c d : Value} (hi : 0 ≤ i ∧ i < ms.length) (h0 : (enc (gt ms i))[j]? = some a) (h1 : (enc (gt ms i))[j + 1]? = some b) (h2 : (enc (gt ms i))[j + 2]? = some c) (h3 : (enc (gt ms i))[j + 3]? = some d) : AtsZ (recs enc ms) (i.toNat * sz + j) [a, b, c, d] 4 := ⟨Ats.of4 (nD hi h0) (nD hi h1) (nD hi h2) (nD hi h3), rfl⟩
theorem atZ {cs vs : List Value} {o sz : Nat} (h : AtsZ cs o vs sz := by first | (with_reducible refine AtsZ.r ?_; exact iQ) | (with_reducible refine AtsZ.r2 ?_ ?_ ?_; exact iQ; rfl; rfl) | (with_reducible refine AtsZ.r4 ?_ ?_ ?_ ?_ ?_; exact iQ; rfl; rfl; rfl; rfl) | exact AtsZ.all rfl | exact AtsZ.n2 rfl rfl | exact AtsZ.n4 rfl rfl rfl rfl | (refine AtsZ.r ?_; exact iQ) | (refine AtsZ.app ?_; refine AtsZ.r ?_; exact iQ)) : AtsZ cs o vs sz := h
section
variable {P : Program} {n : Nat} {Q : Exit → Act → World → Prop} {G : Env} {X : List Nat} {w0 : World} {M M1 : List Ent} {I I1 : List bA}
variable {ops l : List Oper} {m : Mode} {ty : TypeId} {pos : String} {af : Array Edge} {g : Option (Nat × Bool)}
theorem iR {d : Nat} {t : TypeId} {sz : Nat} {x : Operand} {b o : Nat} {cs vs : List Value} {e : TypeId} [AggTy P t sz] (hv : View m X w0 M I M1 I1) (hx : ev G x = some (.pointer (some ⟨b, o, none⟩))) (hm : .blk b cs e ∈ M1) (hc : AtsZ cs o vs sz) (hg : nM ops G g = some true)
  (hd : Nat.ble (d + 1) n = true) (k : RD P n ops Q m.next l ((d, .agg vs.toArray) :: G) X w0 M I) : RD P n ops Q m (⟨some d, .load t x, ty, pos, af, g⟩ :: l) G X w0 M I := kP hv hx hm hc.ats hc.len hg hd k
theorem nR {d : Nat} {t : TypeId} {sz : Nat} {x : Operand} {a : Option Addr} {o : Nat} {cs vs : List Value} [AggTy P t sz] (hv : View m X w0 M I M1 I1) (hx : ev G x = some (.pointer (some (pt a o)))) (hm : aX a cs ∈ I1) (hc : AtsZ cs o vs sz) (hg : nM ops G g = some true)
  (hd : Nat.ble (d + 1) n = true) (k : RD P n ops Q m.next l ((d, .agg vs.toArray) :: G) X w0 M I) : RD P n ops Q m (⟨some d, .load t x, ty, pos, af, g⟩ :: l) G X w0 M I := kQ hv hx hm hc.ats hc.len hg hd k
theorem nV {d : Nat} {t : TypeId} {sz sz' : Nat} {x : Operand} {a : Option Addr} {o mm c : Nat} {cs vs : List Value} {e : TypeId} [AggTy P t sz] (hv : View m X w0 M I M1 I1) (hx : ev G x = some (.pointer (some (pt a o)))) (hm : .row a mm c cs e sz' ∈ M1) (hc : AtsZ cs o vs sz) (hg : nM ops G g = some true)
  (hd : Nat.ble (d + 1) n = true) (k : RD P n ops Q m.next l ((d, .agg vs.toArray) :: G) X w0 M I) : RD P n ops Q m (⟨some d, .load t x, ty, pos, af, g⟩ :: l) G X w0 M I := kR hv hx hm hc.ats hc.len hg hd k
theorem dW {d : Nat} {t : TypeId} {sz : Nat} {x : Operand} {b o : Nat} {cs vs : List Value} [AggTy P t sz] (hv : View m X w0 M I M1 I1) (hx : ev G x = some (.pointer (some ⟨b, o, none⟩))) (hm : aX (some ⟨b, 0, none⟩) cs ∈ I1) (hc : AtsZ cs o vs sz) (hg : nM ops G g = some true)
  (hd : Nat.ble (d + 1) n = true) (k : RD P n ops Q m.next l ((d, .agg vs.toArray) :: G) X w0 M I) : RD P n ops Q m (⟨some d, .load t x, ty, pos, af, g⟩ :: l) G X w0 M I := jM hv hx hm hc.ats hc.len hg hd k
end
end Go.Fx
namespace Go.Fx
theorem bE {p g : Prop} (h : g) (w : BoxP g → p := by (intro hh; (first | refine aH ?_ | refine aI ?_ | refine jU ?_ | refine iN ?_ | refine fU ?_ | refine fJ ?_ | refine iI ?_ | refine iB ?_ | refine fT ?_ | refine fP ?_ | refine jY ?_ | refine jR ?_ | refine jS ?_ | refine jX rfl ?_ | refine aL ?_ | (refine gX ?_; first | refine gQ rfl rfl rfl ?_ | (refine gJ rfl rfl ?_; refine fF rfl rfl rfl okF ?_) | refine gT rfl rfl (by omega) ?_ | refine gI rfl rfl (by omega) ?_) | (refine bT ?_; refine aD rfl (fun _ => dL rfl) rfl rfl ?_) | refine aD rfl (fun _ => bH rfl) rfl rfl ?_ | (refine gK ?_; first | refine aD rfl (fun _ => bK rfl rfl wF) rfl rfl ?_ | refine aD rfl (fun _ => bM rfl rfl wF) rfl rfl ?_ | refine aD rfl (fun _ => eQ rfl rfl wF) rfl rfl ?_ | refine aD rfl (fun _ => eO rfl rfl (by omega) qF) rfl rfl ?_ | refine aD rfl (fun _ => eP rfl rfl (by omega) rfl) rfl rfl ?_ | refine aD rfl (fun _ => dK rfl rfl) rfl rfl ?_ | refine aD rfl (fun _ => dX rfl rfl) rfl rfl ?_ | refine aD rfl (fun _ => dY rfl rfl) rfl rfl ?_) | (refine bT ?_; first | refine aD rfl (fun _ => dZ rfl wF) rfl rfl ?_) | (refine gM ?_; first | refine aD rfl (fun _ => dD rfl wF) rfl rfl ?_) | (refine gH ?_; first | refine aD rfl (fun _ => bL rfl) rfl rfl ?_ | refine aD rfl (fun _ => dH rfl rfl) rfl rfl ?_ | refine aD rfl (fun _ => dJ rfl rfl) rfl rfl ?_ | refine aD rfl (fun _ => dI rfl rfl rfl) rfl rfl ?_) | (refine gL ?_; first | refine gP rfl (by decide) rfl rfl ?_ | refine jH rfl (by decide) rfl rfl ?_) | (refine gN ?_; first | refine aD rfl (fun _ => cO rfl) rfl rfl ?_) | (refine gW ?_; first | refine jB rfl rfl iQ rfl rfl ?_ | refine jE fV rfl rfl iQ aB jL rfl rfl ?_ | refine jF fV rfl rfl iQ aB jL rfl rfl ?_ | refine aD rfl (fun _ => bS rfl rfl iQ) rfl rfl ?_) | (refine gV ?_; first | refine jI fV rfl aB rP rfl rfl ?_ | refine jG fV rfl aB rP rfl rfl ?_ | refine jC fV rfl aB rP rfl rfl ?_ | refine fI fV rfl aB rP rfl rfl ?_ | refine nR fV rfl aB atZ rfl rfl ?_ | refine nV fV rfl aB atZ rfl rfl ?_ | refine iR fV rfl aB atZ rfl rfl ?_ | refine dW fV rfl aB atZ rfl rfl ?_) | (refine gU ?_; first | refine aD rfl (fun _ => bR rfl rfl) rfl rfl ?_ | refine aD rfl (fun _ => bJ rfl) rfl rfl ?_) | (refine iH ?_; first | refine lT rfl rfl rfl lN stC rfl rfl ⟨okF, ?_⟩ | refine gF rfl rfl fC qE lN qO rfl rfl ⟨okF, ?_⟩) | (refine iM ?_; first | refine bZ rfl ?_ | refine bQ rfl ?_ | refine jQ rfl (by omega) ?_ | refine lZ rfl (by omega) ?_)); (repeat (first | refine aH ?_ | refine aI ?_ | refine jU ?_ | refine iN ?_ | refine fU ?_ | refine fJ ?_ | refine iI ?_ | refine iB ?_ | refine fT ?_ | refine fP ?_ | refine jY ?_ | refine jR ?_ | refine jS ?_ | refine jX rfl ?_ | refine aL ?_ | (refine gX ?_; first | refine gQ rfl rfl rfl ?_ | (refine gJ rfl rfl ?_; refine fF rfl rfl rfl okF ?_) | refine gT rfl rfl (by omega) ?_ | refine gI rfl rfl (by omega) ?_) | (refine bT ?_; refine aD rfl (fun _ => dL rfl) rfl rfl ?_) | refine aD rfl (fun _ => bH rfl) rfl rfl ?_ | (refine gK ?_; first | refine aD rfl (fun _ => bK rfl rfl wF) rfl rfl ?_ | refine aD rfl (fun _ => bM rfl rfl wF) rfl rfl ?_ | refine aD rfl (fun _ => eQ rfl rfl wF) rfl rfl ?_ | refine aD rfl (fun _ => eO rfl rfl (by omega) qF) rfl rfl ?_ | refine aD rfl (fun _ => eP rfl rfl (by omega) rfl) rfl rfl ?_ | refine aD rfl (fun _ => dK rfl rfl) rfl rfl ?_ | refine aD rfl (fun _ => dX rfl rfl) rfl rfl ?_ | refine aD rfl (fun _ => dY rfl rfl) rfl rfl ?_) | (refine bT ?_; first | refine aD rfl (fun _ => dZ rfl wF) rfl rfl ?_) | (refine gM ?_; first | refine aD rfl (fun _ => dD rfl wF) rfl rfl ?_) | (refine gH ?_; first | refine aD rfl (fun _ => bL rfl) rfl rfl ?_ | refine aD rfl (fun _ => dH rfl rfl) rfl rfl ?_ | refine aD rfl (fun _ => dJ rfl rfl) rfl rfl ?_ | refine aD rfl (fun _ => dI rfl rfl rfl) rfl rfl ?_) | (refine gL ?_; first | refine gP rfl (by decide) rfl rfl ?_ | refine jH rfl (by decide) rfl rfl ?_) | (refine gN ?_; first | refine aD rfl (fun _ => cO rfl) rfl rfl ?_) | (refine gW ?_; first | refine jB rfl rfl iQ rfl rfl ?_ | refine jE fV rfl rfl iQ aB jL rfl rfl ?_ | refine jF fV rfl rfl iQ aB jL rfl rfl ?_ | refine aD rfl (fun _ => bS rfl rfl iQ) rfl rfl ?_) | (refine gV ?_; first | refine jI fV rfl aB rP rfl rfl ?_ | refine jG fV rfl aB rP rfl rfl ?_ | refine jC fV rfl aB rP rfl rfl ?_ | refine fI fV rfl aB rP rfl rfl ?_ | refine nR fV rfl aB atZ rfl rfl ?_ | refine nV fV rfl aB atZ rfl rfl ?_ | refine iR fV rfl aB atZ rfl rfl ?_ | refine dW fV rfl aB atZ rfl rfl ?_) | (refine gU ?_; first | refine aD rfl (fun _ => bR rfl rfl) rfl rfl ?_ | refine aD rfl (fun _ => bJ rfl) rfl rfl ?_) | (refine iH ?_; first | refine lT rfl rfl rfl lN stC rfl rfl ⟨okF, ?_⟩ | refine gF rfl rfl fC qE lN qO rfl rfl ⟨okF, ?_⟩) | (refine iM ?_; first | refine bZ rfl ?_ | refine bQ rfl ?_ | refine jQ rfl (by omega) ?_ | refine lZ rfl (by omega) ?_))); exact hh.out)) : p := w ⟨h⟩
end Go.Fx

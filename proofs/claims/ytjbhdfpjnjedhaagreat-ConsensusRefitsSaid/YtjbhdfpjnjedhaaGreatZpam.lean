/- The symbolic heap, continued: rules whose conclusions are ready to read. The side conditions of the walk, quicker: shapes first. Drawn regions whose order forks more than once: what is left of a region as an end. Arrays: sliced, built, read by an index; loads of eight and twelve cells. -/
import Derived.Test.YtjbhdfpjnjedhaaGreatZpak
set_option linter.unusedSimpArgs false
set_option linter.unusedVariables false
set_option maxRecDepth 100000
set_option maxHeartbeats 4000000
namespace Go.Fx
section
variable {P : Program} {n : Nat} {Q Q' : Exit → Act → World → Prop} {G : Env} {X : List Nat} {w0 : World} {M M' : List Ent} {I I' : List aY}
variable {ops l : List Oper} {m : Mode} {op : Op} {ty : TypeId} {pos : String} {af : Array Edge} {g : Option (Nat × Bool)}
theorem Eff.boxA {w : World} {t : TypeId} {x : Operand} {vs : List Value} (hx : ev G x = some (.agg vs.toArray)) : Eff P n G (.box t x) ty w (fun v w' => ∃ b, w.heap.size ≤ b ∧ v = .pointer (some ⟨b, 0, none⟩) ∧ Blk w' b vs t ∧ Ext [] w w') := by
 have h := aKP (P := P) (n := n) (ty := ty) (w := w) (t := t) hx
 refine h.mono (fun v w' ⟨b, hb, hp, hB, hE, _⟩ => ⟨b, by omega, hp, ?_, hE⟩)
 simpa [Value.cells] using hB
theorem aR {d : Nat} {t : TypeId} {x : Operand} {vs : List Value} (hx : ev G x = some (.agg vs.toArray)) (hg : oM ops G g = some true) (hd : Nat.ble (d + 1) n = true)
  (k : ∀ b, OkD m X w0 (.blk b vs t :: M) I ∧ RD P n ops Q m.nextE l ((d, .pointer (some ⟨b, 0, none⟩)) :: G) X w0 (.blk b vs t :: M) I) :
  RD P n ops Q m (⟨some d, .box t x, ty, pos, af, g⟩ :: l) G X w0 M I :=
 yX (d := some d) (K := fun v' M' I' => ∃ b, v' = .pointer (some ⟨b, 0, none⟩) ∧ M' = .blk b vs t :: M ∧ I' = I) hg
  (fun w hw => (Eff.boxA hx).mono (fun _ w' ⟨b, hb, hp, hB, hE⟩ => ⟨_, _, ⟨b, hp, rfl, rfl⟩, hw.push hE (by simp [Ent.blocks, hb]) (by simp [Ent.blocks]) hB⟩)) rfl hd
  (fun _ _ _ ⟨b, hp, hM, hI⟩ => by subst hp; subst hM; subst hI; exact k b)
theorem aA {d : Nat} {f : FuncId} {xs : List Operand} {vs : List Value} {at_ : Array TypeId} {K : Value → List Ent → List aY → Prop} [FnOk P f] (hx : evs G xs = some vs) (hc : CD P f vs X w0 M I K)
  (hg : oM ops G g = some true) (hd : Nat.ble (d + 1) n = true) (k : ∀ v M' I', K v M' I' → OkD m X w0 M' I' ∧ RD P n ops Q m.nextE l ((d, v) :: G) X w0 M' I') :
  RD P n ops Q m (⟨some d, .call { callee := .value (.func f), args := xs.toArray, argTypes := at_ }, ty, pos, af, g⟩ :: l) G X w0 M I :=
 aU (d := some d) hx hc hg hd k
theorem fD {d : Nat} {h : Operand} {f : FuncId} {fs cs : Array Value} {xs : List Operand} {vs : List Value} {at_ : Array TypeId} {K : Value → List Ent → List aY → Prop} [FnOk P f] (hh : ev G h = some (.func (.func f) fs cs)) (hx : evs G xs = some vs)
  (hc : CD P f (fs.toList ++ vs ++ cs.toList) X w0 M I K)
  (hg : oM ops G g = some true) (hf : iT (.call { callee := .value h, args := xs.toArray, argTypes := at_ }) = false) (hd : Nat.ble (d + 1) n = true) (k : ∀ v M' I', K v M' I' → OkD m X w0 M' I' ∧ RD P n ops Q m.nextE l ((d, v) :: G) X w0 M' I') :
  RD P n ops Q m (⟨some d, .call { callee := .value h, args := xs.toArray, argTypes := at_ }, ty, pos, af, g⟩ :: l) G X w0 M I :=
 aAI (d := some d) hh hx hc hg hf hd k
section
variable {f : FuncId} {fn : Func} {c : Code} {K : Value → List Ent → List aY → Prop} {v0 v1 v2 v3 v4 v5 v6 : Value}
theorem aKS (hf : P.funcs[f]? = some fn) (hb : fn.body = some c) (hn : fn.ntmps = n) (hl : Nat.ble 0 n = true) (h : TD P n c (Body P fn (KB K X w0)) [] X w0 M I) : CD P f [] X w0 M I K := dY hf hb hn hl h
theorem aZ (hf : P.funcs[f]? = some fn) (hb : fn.body = some c) (hn : fn.ntmps = n) (hl : Nat.ble 1 n = true) (h : TD P n c (Body P fn (KB K X w0)) [(0, v0)] X w0 M I) : CD P f [v0] X w0 M I K := dY hf hb hn hl h
theorem aX (hf : P.funcs[f]? = some fn) (hb : fn.body = some c) (hn : fn.ntmps = n) (hl : Nat.ble 2 n = true) (h : TD P n c (Body P fn (KB K X w0)) [(0, v0), (1, v1)] X w0 M I) : CD P f [v0, v1] X w0 M I K := dY hf hb hn hl h
theorem jU (hf : P.funcs[f]? = some fn) (hb : fn.body = some c) (hn : fn.ntmps = n) (hl : Nat.ble 3 n = true) (h : TD P n c (Body P fn (KB K X w0)) [(0, v0), (1, v1), (2, v2)] X w0 M I) : CD P f [v0, v1, v2] X w0 M I K := dY hf hb hn hl h
theorem wT (hf : P.funcs[f]? = some fn) (hb : fn.body = some c) (hn : fn.ntmps = n) (hl : Nat.ble 4 n = true) (h : TD P n c (Body P fn (KB K X w0)) [(0, v0), (1, v1), (2, v2), (3, v3)] X w0 M I) : CD P f [v0, v1, v2, v3] X w0 M I K := dY hf hb hn hl h
theorem aSB (hf : P.funcs[f]? = some fn) (hb : fn.body = some c) (hn : fn.ntmps = n) (hl : Nat.ble 5 n = true) (h : TD P n c (Body P fn (KB K X w0)) [(0, v0), (1, v1), (2, v2), (3, v3), (4, v4)] X w0 M I) : CD P f [v0, v1, v2, v3, v4] X w0 M I K := dY hf hb hn hl h
theorem aKB (hf : P.funcs[f]? = some fn) (hb : fn.body = some c) (hn : fn.ntmps = n) (hl : Nat.ble 6 n = true) (h : TD P n c (Body P fn (KB K X w0)) [(0, v0), (1, v1), (2, v2), (3, v3), (4, v4), (5, v5)] X w0 M I) : CD P f [v0, v1, v2, v3, v4, v5] X w0 M I K := dY hf hb hn hl h
end
end
end Go.Fx
namespace Go.Fx
section
variable {P : Program} {n : Nat} {Q : Exit → Act → World → Prop} {G G' : Env} {X : List Nat} {w0 : World} {M M' M1 : List Ent} {I I' I1 : List aY} {m : Mode} {a b x y0 y1 y2 y3 y4 y5 y6 y7 y8 y9 : Ent} {φ : aY} {cs cs' vs : List Value} {o sz : Nat} {v : Value} {α : Type} {aa : α} {ll : List α}
theorem SubP.c0 (k : SubP M M') : SubP (x :: M) (x :: M') := .cons .here k
theorem SubP.c1 (k : SubP (y0 :: M) M') : SubP (y0 :: x :: M) (x :: M') := .cons (.there .here) k
theorem SubP.c2 (k : SubP (y0 :: y1 :: M) M') : SubP (y0 :: y1 :: x :: M) (x :: M') := .cons (.there (.there .here)) k
theorem SubP.c3 (k : SubP (y0 :: y1 :: y2 :: M) M') : SubP (y0 :: y1 :: y2 :: x :: M) (x :: M') := .cons (.there (.there (.there .here))) k
theorem SubP.c4 (k : SubP (y0 :: y1 :: y2 :: y3 :: M) M') : SubP (y0 :: y1 :: y2 :: y3 :: x :: M) (x :: M') := .cons (.there (.there (.there (.there .here)))) k
theorem SubP.c5 (k : SubP (y0 :: y1 :: y2 :: y3 :: y4 :: M) M') : SubP (y0 :: y1 :: y2 :: y3 :: y4 :: x :: M) (x :: M') := .cons (.there (.there (.there (.there (.there .here))))) k
theorem SubP.c6 (k : SubP (y0 :: y1 :: y2 :: y3 :: y4 :: y5 :: M) M') : SubP (y0 :: y1 :: y2 :: y3 :: y4 :: y5 :: x :: M) (x :: M') := .cons (.there (.there (.there (.there (.there (.there .here)))))) k
theorem SubP.c7 (k : SubP (y0 :: y1 :: y2 :: y3 :: y4 :: y5 :: y6 :: M) M') : SubP (y0 :: y1 :: y2 :: y3 :: y4 :: y5 :: y6 :: x :: M) (x :: M') := .cons (.there (.there (.there (.there (.there (.there (.there .here))))))) k
theorem SubP.c8 (k : SubP (y0 :: y1 :: y2 :: y3 :: y4 :: y5 :: y6 :: y7 :: M) M') : SubP (y0 :: y1 :: y2 :: y3 :: y4 :: y5 :: y6 :: y7 :: x :: M) (x :: M') := .cons (.there (.there (.there (.there (.there (.there (.there (.there .here)))))))) k
theorem aB (h : aa ∈ ll := by first | ((repeat (first | with_reducible exact List.mem_cons_self | with_reducible assumption | with_reducible refine List.mem_cons_of_mem _ ?_)); done) | (repeat (first | exact List.Mem.head _ | assumption | refine List.Mem.tail _ ?_))) : aa ∈ ll := h
theorem aD (h : SubP M M' := by first | ((repeat (first | with_reducible exact SubP.refl | with_reducible exact SubP.nil | with_reducible refine SubP.c0 ?_ | with_reducible refine SubP.c1 ?_ | with_reducible refine SubP.c2 ?_ | with_reducible refine SubP.c3 ?_ | with_reducible refine SubP.c4 ?_ | with_reducible refine SubP.c5 ?_ | with_reducible refine SubP.c6 ?_ | with_reducible refine SubP.c7 ?_ | with_reducible refine SubP.c8 ?_ | with_reducible refine SubP.drop ?_)); done) | (repeat (first | exact SubP.refl | exact SubP.nil | refine SubP.c0 ?_ | refine SubP.c1 ?_ | refine SubP.c2 ?_ | refine SubP.c3 ?_ | refine SubP.c4 ?_ | refine SubP.c5 ?_ | refine SubP.c6 ?_ | refine SubP.c7 ?_ | refine SubP.c8 ?_ | refine SubP.drop ?_))) : SubP M M' := h
theorem aC (h : Inc I I' := by first | ((repeat (first | with_reducible exact Inc.refl | with_reducible exact Inc.nil | (with_reducible refine Inc.cons ?_ ?_; (repeat (first | with_reducible exact List.mem_cons_self | with_reducible assumption | with_reducible refine List.mem_cons_of_mem _ ?_))) | with_reducible refine Inc.wk ?_)); done) | (repeat (first | exact Inc.refl | exact Inc.nil | (refine Inc.cons ?_ ?_; (repeat (first | exact List.Mem.head _ | assumption | refine List.Mem.tail _ ?_))) | refine Inc.wk ?_))) : Inc I I' := h
theorem uW (h : Rem a M M' := by first | with_reducible exact .here | with_reducible exact .there .here | with_reducible exact .there (.there .here) | with_reducible exact .there (.there (.there .here)) | with_reducible exact .there (.there (.there (.there .here))) | with_reducible exact .there (.there (.there (.there (.there .here)))) | with_reducible exact .there (.there (.there (.there (.there (.there .here))))) | with_reducible exact .there (.there (.there (.there (.there (.there (.there .here)))))) | exact vM) : Rem a M M' := h
theorem lN (h : Rep a b M M' := by first | with_reducible exact .here | with_reducible exact .there .here | with_reducible exact .there (.there .here) | with_reducible exact .there (.there (.there .here)) | with_reducible exact .there (.there (.there (.there .here))) | with_reducible exact .there (.there (.there (.there (.there .here)))) | with_reducible exact .there (.there (.there (.there (.there (.there .here))))) | with_reducible exact .there (.there (.there (.there (.there (.there (.there .here)))))) | with_reducible assumption | exact mV) : Rep a b M M' := h
theorem okF (h : OkD m X w0 M I := by first | with_reducible exact OkD.seq | with_reducible exact OkD.one | (with_reducible refine OkD.any ?_ ?_; exact aD; exact aC) | exact OkD.seq | exact OkD.one | (refine OkD.any ?_ ?_; exact aD; exact aC) | exact OkD.uptoN (by decide) | (refine OkD.uptoY ?_ ?_; exact aD; exact aC) | exact OkD.kN (by decide) | (refine OkD.kY ?_ ?_; exact aD; exact aC)) : OkD m X w0 M I := h
theorem iG (h : View m X w0 M I M1 I1 := by first | exact View.seq | exact View.any | exact View.one rfl | exact View.upto (by decide) | exact View.k0 rfl | exact View.kJ (by decide)) : View m X w0 M I M1 I1 := h
theorem pI (h : At cs o v := by first | (with_reducible refine At.r1 ?_ ?_; exact iK; rfl) | (with_reducible refine At.r2 ?_ ?_; exact iK; rfl) | exact At.mk rfl | exact oK) : At cs o v := h
variable {x' y' : Int} {kk : IntKind}
theorem wF (h : kk.wrap x' = y' := by first | (with_reducible refine wrap_i64 ?_; first | omega | with_reducible assumption) | (with_reducible refine wrap_u64 ?_; first | omega | with_reducible assumption) | (with_reducible refine wrap_u32 ?_; first | omega | with_reducible assumption) | (with_reducible refine wrap_u8 ?_; omega)) : kk.wrap x' = y' := h
theorem qF (h : kk.wrap x' = y' := by first | (with_reducible refine aKK ?_; omega) | (with_reducible refine aJQ ?_ ?_; omega; omega)) : kk.wrap x' = y' := h
end
/- loads of parts -/
structure AtsZ (cs : List Value) (o : Nat) (vs : List Value) (sz : Nat) : Prop where
 ats : Ats cs o vs
 len : vs.length = sz
theorem AtsZ.all {cs : List Value} {sz : Nat} (h : cs.length = sz) : AtsZ cs 0 cs sz := ⟨Ats.all, h⟩
theorem AtsZ.r {α : Type} [Inhabited α] {enc : α → List Value} {sz : Nat} [hz : Sized enc sz] {ms : List α} {i : Int} (hi : 0 ≤ i ∧ i < ms.length) : AtsZ (recs enc ms) (i.toNat * sz) (enc (gt ms i)) sz := ⟨Ats.r hi, hz.len _⟩
theorem AtsZ.app {cs tl vs : List Value} {o sz : Nat} (h : AtsZ cs o vs sz) : AtsZ (cs ++ tl) o vs sz := ⟨Ats.app h.ats, h.len⟩
theorem Ats.of2 {cs : List Value} {o : Nat} {a b : Value} (h0 : cs[o]? = some a) (h1 : cs[o + 1]? = some b) : Ats cs o [a, b] := ⟨fun j v hj => by
 match j, hj with
 | 0, hj => simp at hj; subst hj; exact h0
 | 1, hj => simp at hj; subst hj; exact h1
 | j + 2, hj => simp at hj⟩
theorem Ats.of4 {cs : List Value} {o : Nat} {a b c d : Value} (h0 : cs[o]? = some a) (h1 : cs[o + 1]? = some b) (h2 : cs[o + 2]? = some c) (h3 : cs[o + 3]? = some d) : Ats cs o [a, b, c, d] := ⟨fun j v hj => by
 match j, hj with
 | 0, hj => simp at hj; subst hj; exact h0
 | 1, hj => simp at hj; subst hj; exact h1
 | 2, hj => simp at hj; subst hj; exact h2
 | 3, hj => simp at hj; subst hj; exact h3
 | j + 4, hj => simp at hj⟩
theorem AtsZ.n2 {cs : List Value} {o : Nat} {a b : Value} (h0 : cs[o]? = some a) (h1 : cs[o + 1]? = some b) : AtsZ cs o [a, b] 2 := ⟨Ats.of2 h0 h1, rfl⟩
theorem AtsZ.n4 {cs : List Value} {o : Nat} {a b c d : Value} (h0 : cs[o]? = some a) (h1 : cs[o + 1]? = some b) (h2 : cs[o + 2]? = some c) (h3 : cs[o + 3]? = some d) : AtsZ cs o [a, b, c, d] 4 := ⟨Ats.of4 h0 h1 h2 h3, rfl⟩
theorem AtsZ.r2 {α : Type} [Inhabited α] {enc : α → List Value} {sz : Nat} [Sized enc sz] {ms : List α} {i : Int} {j : Nat} {a b : Value} (hi : 0 ≤ i ∧ i < ms.length) (h0 : (enc (gt ms i))[j]? = some a) (h1 : (enc (gt ms i))[j + 1]? = some b) : AtsZ (recs enc ms) (i.toNat * sz + j) [a, b] 2 := ⟨Ats.of2 (oD hi h0) (oD hi h1), rfl⟩
theorem AtsZ.r4 {α : Type} [Inhabited α] {enc : α → List Value} {sz : Nat} [Sized enc sz] {ms : List α} {i : Int} {j : Nat} {a b c d : Value} (hi : 0 ≤ i ∧ i < ms.length) (h0 : (enc (gt ms i))[j]? = some a) (h1 : (enc (gt ms i))[j + 1]? = some b) (h2 : (enc (gt ms i))[j + 2]? = some c) (h3 : (enc (gt ms i))[j + 3]? = some d) : AtsZ (recs enc ms) (i.toNat * sz + j) [a, b, c, d] 4 := ⟨Ats.of4 (oD hi h0) (oD hi h1) (oD hi h2) (oD hi h3), rfl⟩
theorem xC {cs vs : List Value} {o sz : Nat} (h : AtsZ cs o vs sz := by first | (with_reducible refine AtsZ.r ?_; exact iK) | (with_reducible refine AtsZ.r2 ?_ ?_ ?_; exact iK; rfl; rfl) | (with_reducible refine AtsZ.r4 ?_ ?_ ?_ ?_ ?_; exact iK; rfl; rfl; rfl; rfl) | exact AtsZ.all rfl | exact AtsZ.n2 rfl rfl | exact AtsZ.n4 rfl rfl rfl rfl | (refine AtsZ.r ?_; exact iK) | (refine AtsZ.app ?_; refine AtsZ.r ?_; exact iK)) : AtsZ cs o vs sz := h
section
variable {P : Program} {n : Nat} {Q : Exit → Act → World → Prop} {G : Env} {X : List Nat} {w0 : World} {M M1 : List Ent} {I I1 : List aY}
variable {ops l : List Oper} {m : Mode} {ty : TypeId} {pos : String} {af : Array Edge} {g : Option (Nat × Bool)}
theorem lV {d : Nat} {t : TypeId} {sz : Nat} {x : Operand} {b o : Nat} {cs vs : List Value} {e : TypeId} [AggTy P t sz] (hv : View m X w0 M I M1 I1) (hx : ev G x = some (.pointer (some ⟨b, o, none⟩))) (hm : .blk b cs e ∈ M1) (hc : AtsZ cs o vs sz) (hg : oM ops G g = some true)
  (hd : Nat.ble (d + 1) n = true) (k : RD P n ops Q m.next l ((d, .agg vs.toArray) :: G) X w0 M I) : RD P n ops Q m (⟨some d, .load t x, ty, pos, af, g⟩ :: l) G X w0 M I := kT hv hx hm hc.ats hc.len hg hd k
theorem nD {d : Nat} {t : TypeId} {sz : Nat} {x : Operand} {a : Option Addr} {o : Nat} {cs vs : List Value} [AggTy P t sz] (hv : View m X w0 M I M1 I1) (hx : ev G x = some (.pointer (some (pt a o)))) (hm : aO a cs ∈ I1) (hc : AtsZ cs o vs sz) (hg : oM ops G g = some true)
  (hd : Nat.ble (d + 1) n = true) (k : RD P n ops Q m.next l ((d, .agg vs.toArray) :: G) X w0 M I) : RD P n ops Q m (⟨some d, .load t x, ty, pos, af, g⟩ :: l) G X w0 M I := kZ hv hx hm hc.ats hc.len hg hd k
theorem nM {d : Nat} {t : TypeId} {sz sz' : Nat} {x : Operand} {a : Option Addr} {o mm c : Nat} {cs vs : List Value} {e : TypeId} [AggTy P t sz] (hv : View m X w0 M I M1 I1) (hx : ev G x = some (.pointer (some (pt a o)))) (hm : .row a mm c cs e sz' ∈ M1) (hc : AtsZ cs o vs sz) (hg : oM ops G g = some true)
  (hd : Nat.ble (d + 1) n = true) (k : RD P n ops Q m.next l ((d, .agg vs.toArray) :: G) X w0 M I) : RD P n ops Q m (⟨some d, .load t x, ty, pos, af, g⟩ :: l) G X w0 M I := kV hv hx hm hc.ats hc.len hg hd k
theorem lM {d : Nat} {t : TypeId} {sz : Nat} {x : Operand} {b o : Nat} {cs vs : List Value} [AggTy P t sz] (hv : View m X w0 M I M1 I1) (hx : ev G x = some (.pointer (some ⟨b, o, none⟩))) (hm : aO (some ⟨b, 0, none⟩) cs ∈ I1) (hc : AtsZ cs o vs sz) (hg : oM ops G g = some true)
  (hd : Nat.ble (d + 1) n = true) (k : RD P n ops Q m.next l ((d, .agg vs.toArray) :: G) X w0 M I) : RD P n ops Q m (⟨some d, .load t x, ty, pos, af, g⟩ :: l) G X w0 M I := jX hv hx hm hc.ats hc.len hg hd k
end
end Go.Fx
namespace Go.Fx
def Rest (P : Program) (l : List Oper) (Q : Exit → Act → World → Prop) (Cs : Nat → World → Prop) (fuel k : Nat) (listed : Array Bool) : Exit → Act → World → Prop
 | .normal, a, w => pV P l.toArray Q Cs fuel k listed a w
 | _, _, _ => False
section
variable {P : Program} {n : Nat} {Q : Exit → Act → World → Prop} {G : Env} {w : World} {l : List Oper} {Cs : Nat → World → Prop}
theorem aLI {fuel fuel' k : Nat} {listed listed' : Array Bool} (p ms : List Nat) (hm : ∀ s w, Cs s w → Cs (s + 1) w) (hs : Region.noSelect l.toArray = true) (hok : pQ l.toArray p ms listed = some listed') (hf : fuel' = fuel + p.length) (hsz : listed.size = l.toArray.size) (hC : Cs k w)
  (h : R P n l (Rest P l Q Cs fuel (k + aAJ l.toArray p) listed') (.any Cs k ms) (pick l p) G w) : N n (Rest P l Q Cs fuel' k listed) .normal G w := ⟨fun a ha => by
 subst hf
 exact pO hm hs p ms k listed a w hC hsz hok (fun _ _ _ _ hq => hq) (h.go a ha)⟩
theorem aMK {fuel k : Nat} {listed : Array Bool} (p ms : List Nat) (hm : ∀ s w, Cs s w → Cs (s + 1) w) (hs : Region.noSelect l.toArray = true) (hok : iP l.toArray p ms listed = true) (hf : fuel = p.length) (hsz : listed.size = l.toArray.size) (hC : Cs k w)
  (h : R P n l Q (.any Cs k ms) (pick l p) G w) : N n (Rest P l Q Cs fuel k listed) .normal G w := ⟨fun a ha => by
 subst hf
 exact jV hm hs p ms k listed a w hC hsz hok (h.go a ha)⟩
theorem aGS {fuel k i : Nat} {listed : Array Bool} {o : Oper} {a : Act} (hi : l.toArray[i]? = some o) (hk : iT o.op = false)
  (h : wpM P l.toArray (Rest P l Q Cs fuel (k + 1) (listed.setIfInBounds i true)) (.any Cs k []) (pick l [i]) a w) :
  wpOp P l.toArray QF i (fun a' w' => Cs (k + eAt l.toArray i) w' ∧ pV P l.toArray Q Cs fuel (k + eAt l.toArray i) (listed.setIfInBounds i true) a' w') a w := by
 have hg : nth l i = o := aFH l i o (by simpa using hi)
 simp only [pick, hg] at h
 rw [wX hi hk]
 unfold wpOp
 simp only [hi]
 by_cases hw : Region.wanted o (yielded l.toArray a.tmps) = true
 ·rw [if_pos hw]
  rcases h.1 hw with ⟨hk2, _⟩ | ⟨_, hk2⟩
  ·rw [hk] at hk2; cases hk2
  ·exact .inl (Oper.wp_mono (fun a' w' ⟨h1, h2⟩ => ⟨h1, h2⟩) hk2)
 ·rw [if_neg hw]
  obtain ⟨hh1, hh2⟩ := h.2 (by simpa using hw)
  simp only [Mode.held, hk, cond_false] at hh1
  exact ⟨hh1, hh2⟩
def aMS (ops : Array Oper) (i : Nat) : Bool :=
 match ops[i]? with
 | some o => !iT o.op
 | none => false
theorem aHS {fuel k i j : Nat} {listed : Array Bool} (hr : (Region.ready .any l.toArray listed == [i, j] && aMS l.toArray i && aMS l.toArray j) = true)
  (h1 : R P n l (Rest P l Q Cs fuel (k + 1) (listed.setIfInBounds i true)) (.any Cs k []) (pick l [i]) G w)
  (h2 : R P n l (Rest P l Q Cs fuel (k + 1) (listed.setIfInBounds j true)) (.any Cs k []) (pick l [j]) G w) : N n (Rest P l Q Cs (fuel + 1) k listed) .normal G w := ⟨fun a ha => by
 simp only [Bool.and_eq_true, beq_iff_eq] at hr
 obtain ⟨⟨hr, e1⟩, e2⟩ := hr
 have get : ∀ x, aMS l.toArray x = true → ∃ o, l.toArray[x]? = some o ∧ iT o.op = false := fun x hx => by
  unfold aMS at hx
  cases ho : l.toArray[x]? with
  | none => simp [ho] at hx
  | some o => simp [ho] at hx; exact ⟨o, rfl, hx⟩
 obtain ⟨o1, ho1, hk1⟩ := get i e1
 obtain ⟨o2, ho2, hk2⟩ := get j e2
 refine ⟨fun h0 => (by rw [hr] at h0; cases h0), fun x hx => ?_⟩
 rw [hr] at hx
 simp only [List.mem_cons, List.not_mem_nil, or_false] at hx
 rcases hx with rfl | rfl
 ·exact aGS ho1 hk1 (h1.go a ha)
 ·exact aGS ho2 hk2 (h2.go a ha)⟩
theorem aWH {id : Nat} (Cs : Nat → World → Prop) (hx : P.follows .mixedOrders = true) (h : N n (Rest P l Q Cs l.length 0 (Array.replicate l.length false)) .normal G w.drew) : T P n (.region id l.toArray true) Q G w := ⟨fun a ha => by
 refine wp_region_any hx ?_
 have := h.go a ha
 have e : l.toArray.size = l.length := by simp
 rw [e]
 exact pU _ _ _ _ _ this⟩
end
section
variable {P : Program} {n : Nat} {Q : Exit → Act → World → Prop} {G : Env} {X : List Nat} {w0 : World} {M M1 : List Ent} {I I1 : List aY} {l : List Oper}
theorem mP {id : Nat} (M1 : List Ent) (I1 : List aY) (hx : P.follows .mixedOrders = true) (h : ND n (Rest P l Q (Cst X w0 M1 I1) l.length 0 (Array.replicate l.length false)) .normal G X w0 M I) : TD P n (.region id l.toArray true) Q G X w0 M I :=
 ⟨fun w hw => aWH (Cst X w0 M1 I1) hx (h.go w.drew hw.drew)⟩
theorem iQ {fuel fuel' k : Nat} {listed listed' : Array Bool} (p ms : List Nat) (hM : SubP M M1) (hI : Inc I I1) (hs : Region.noSelect l.toArray = true) (hok : pQ l.toArray p ms listed = some listed') (hf : fuel' = fuel + p.length) (hsz : listed.size = l.toArray.size)
  (h : RD P n l (Rest P l Q (Cst X w0 M1 I1) fuel (k + aAJ l.toArray p) listed') (.any (Cst X w0 M1 I1) k ms) (pick l p) G X w0 M I) : ND n (Rest P l Q (Cst X w0 M1 I1) fuel' k listed) .normal G X w0 M I :=
 ⟨fun w hw => aLI p ms (fun _ _ h => h) hs hok hf hsz (hw.weak hM hI) (h.go w hw)⟩
theorem bE {fuel k : Nat} {listed : Array Bool} (p ms : List Nat) (hM : SubP M M1) (hI : Inc I I1) (hs : Region.noSelect l.toArray = true) (hok : iP l.toArray p ms listed = true) (hf : fuel = p.length) (hsz : listed.size = l.toArray.size)
  (h : RD P n l Q (.any (Cst X w0 M1 I1) k ms) (pick l p) G X w0 M I) : ND n (Rest P l Q (Cst X w0 M1 I1) fuel k listed) .normal G X w0 M I :=
 ⟨fun w hw => aMK p ms (fun _ _ h => h) hs hok hf hsz (hw.weak hM hI) (h.go w hw)⟩
theorem bW {fuel k i j : Nat} {listed : Array Bool} (hr : (Region.ready .any l.toArray listed == [i, j] && aMS l.toArray i && aMS l.toArray j) = true)
  (h1 : RD P n l (Rest P l Q (Cst X w0 M1 I1) fuel (k + 1) (listed.setIfInBounds i true)) (.any (Cst X w0 M1 I1) k []) (pick l [i]) G X w0 M I)
  (h2 : RD P n l (Rest P l Q (Cst X w0 M1 I1) fuel (k + 1) (listed.setIfInBounds j true)) (.any (Cst X w0 M1 I1) k []) (pick l [j]) G X w0 M I) : ND n (Rest P l Q (Cst X w0 M1 I1) (fuel + 1) k listed) .normal G X w0 M I :=
 ⟨fun w hw => aHS hr (h1.go w hw) (h2.go w hw)⟩
end
end Go.Fx
namespace Go.Fx
section
variable {P : Program} {n : Nat} {G : Env} {ty : TypeId} {C : World → Prop}
theorem kL {t e : TypeId} {sz len b o : Nat} {x : Operand} [ht : ArrTy P t len e sz] (hx : ev G x = some (.pointer (some ⟨b, o, none⟩))) :
  Const P n G (.slice t x none none none) ty C (.slice (some ⟨b, o, none⟩) len len) := by
 refine ⟨?_⟩
 intro st ha dst pos after guard w _
 by_cases h : len = 0
 ·subst h
  simp [execOp, Instr.sliceAt, ha.ev hx, fF ht.und, run_sizeOf ht.size, Instr.sliceBounds, Instr.sureAddr]
 ·simp [execOp, Instr.sliceAt, ha.ev hx, fF ht.und, run_sizeOf ht.size, Instr.sliceBounds, Instr.sureAddr, h, add_lit]
theorem aNR {t e : TypeId} {sz len sz' by_ : Nat} {z : List Value} {parts : List (Nat × Operand)} {pvs : List (Nat × Value)} {cells : List Value} [ht : ArrTy P t len e sz] [hz : ElemTy P t sz' by_ z]
  (hp : parts.map (fun p => (p.1, ev G p.2)) = pvs.map (fun p => (p.1, some p.2)))
  (hf : Instr.fill (fun i => some (i * sz, sz)) z.toArray pvs = some cells.toArray) : Const P n G (.build t parts.toArray) ty C (.agg cells.toArray) := by
 refine yB hp fun w => ?_
 obtain ⟨i, hi, h3⟩ := Option.map_eq_some_iff.1 hz.info
 simp only [Prod.mk.injEq] at h3
 obtain ⟨h4, h5, h6⟩ := h3
 obtain ⟨v, hv, hc⟩ := Option.map_eq_some_iff.1 h6
 have hzv : (zeroValue t).run P w = .ok v w := by simp [zeroValue, typeInfo, hi, hv]
 unfold Instr.build
 rw [Sem.run_bind, hzv, Result.andThen_ok, Sem.run_bind, fF ht.und, Result.andThen_ok]
 simp only [Sem.run_bind, run_sizeOf ht.size, Result.andThen_ok, hc, hf]
 rfl
end
def PlOk (place : Nat → Option (Nat × Nat)) : Nat → Nat → List Value → Prop
 | _, _, [] => True
 | k, off, v :: r => place k = some (off, v.cells.size) ∧ PlOk place (k + 1) (off + v.cells.size) r
def nE (vals : List Value) : List Value := vals.flatMap (fun v => v.cells.toList)
theorem yD (place : Nat → Option (Nat × Nat)) : ∀ (vals : List Value) (k : Nat) (pre : List Value) (base : Array Value), base.size = pre.length + (nE vals).length → base.toList.take pre.length = pre → PlOk place k pre.length vals →
  Instr.fill place base ((vals.zipIdx k).map (fun p => (p.2, p.1))) = some (pre ++ nE vals).toArray
 | [], k, pre, base, hb, ht, _ => by
  have : base.toList = pre := by
   rw [← ht, List.take_of_length_le]
   simp [hb, nE]
  simp [Instr.fill, nE, ← this]
 | v :: r, k, pre, base, hb, ht, hc => by
  obtain ⟨h1, h2⟩ := hc
  have hcl : nE (v :: r) = v.cells.toList ++ nE r := by simp [nE]
  have hcs : v.cells.toList.length = v.cells.size := by simp
  have hlt : pre.length + v.cells.size ≤ base.size := by
   rw [hb, hcl, List.length_append, hcs]; omega
  simp only [List.zipIdx_cons, List.map_cons, Instr.fill, h1]
  have hno : ¬ (v.cells.size ≠ v.cells.size ∨ pre.length + v.cells.size > base.size) := by omega
  have hf := yK pre.length v.cells.toList base (by simp; omega)
  simp only [Array.toArray_toList] at hf
  simp only [Bool.or_eq_true, decide_eq_true_eq, hno, if_false, hf]
  rw [yD place r (k + 1) (pre ++ v.cells.toList) _ ?_ ?_ (by rw [List.length_append, hcs]; exact h2)]
  ·rw [hcl, List.append_assoc]
  ·simp only [List.size_toArray, List.length_append, List.length_take, List.length_drop, hcs, Array.length_toList]
   rw [hcl, List.length_append, hcs] at hb
   omega
  ·simp only [ht]
   rw [List.take_append_of_le_length (by simp), List.take_of_length_le (by simp)]
section
variable {P : Program} {n : Nat} {G : Env} {ty : TypeId} {C : World → Prop}
theorem oH {t : TypeId} {parts : List (Nat × Operand)} {vals cells : List Value} {places : List (Nat × Nat)} {z : List Value} [ht : StructTy P t places z]
  (hp : parts.map (fun p => (p.1, ev G p.2)) = vals.zipIdx.map (fun p => (p.2, some p.1))) (hpl : PlOk (places.toArray[·]?) 0 0 vals) (hc : nE vals = cells) (hz : z.length = cells.length) :
  Const P n G (.build t parts.toArray) ty C (.agg cells.toArray) := by
 refine bA (pvs := vals.zipIdx.map (fun p => (p.2, p.1))) (places := places) (z := z) (by rw [hp]; simp) ?_
 have := yD (places.toArray[·]?) vals 0 [] z.toArray (by simp [hc, hz]) (by simp) (by simpa using hpl)
 rw [hc] at this
 simpa using this
theorem nY {t e : TypeId} {sz len sz' by_ : Nat} {z : List Value} {parts : List (Nat × Operand)} {vals cells : List Value} [ht : ArrTy P t len e sz] [hz : ElemTy P t sz' by_ z]
  (hp : parts.map (fun p => (p.1, ev G p.2)) = vals.zipIdx.map (fun p => (p.2, some p.1))) (hs : ∀ v ∈ vals, v.cells.size = sz) (hc : nE vals = cells) (hl : z.length = vals.length * sz) :
  Const P n G (.build t parts.toArray) ty C (.agg cells.toArray) := by
 refine aNR (pvs := vals.zipIdx.map (fun p => (p.2, p.1))) (by rw [hp]; simp) ?_
 have := aBY sz vals 0 [] z.toArray (by simp) (by simp [hl]) (by simp) hs
 have h2 : vals.flatMap (fun v => v.cells.toList) = cells := hc
 rw [h2] at this
 simpa using this
end
theorem uV {P : Program} {n : Nat} {G : Env} {ty : TypeId} {C : World → Prop} {t t' : TypeId} {x y : Operand} {a b : Bool} [ht : BoolTy P t] (hx : ev G x = some (.bool a)) (hy : ev G y = some (.bool b)) :
  Const P n G (.binOp .neq t x y t') ty C (.bool (!(a == b))) := by
 refine ⟨?_⟩
 intro s ha dst pos after guard w _
 have e1 : (eqGuard .neq t x y (.bool a) (.bool b)).run P w = .ok () w := rfl
 simp only [execOp, ha.ev hx, ha.ev hy, Sem.run_bind, e1, Result.andThen_ok, run_neq_bool _ t a b ht.und, Sem.run_pure]
theorem AtsZ.n8 {cs : List Value} {o : Nat} {a b c d e f g h : Value} (h0 : cs[o]? = some a) (h1 : cs[o + 1]? = some b) (h2 : cs[o + 2]? = some c) (h3 : cs[o + 3]? = some d) (h4 : cs[o + 4]? = some e) (h5 : cs[o + 5]? = some f) (h6 : cs[o + 6]? = some g) (h7 : cs[o + 7]? = some h) : AtsZ cs o [a, b, c, d, e, f, g, h] 8 := ⟨⟨fun j v hj => by
 match j, hj with
 | 0, hj => simp at hj; subst hj; exact h0
 | 1, hj => simp at hj; subst hj; exact h1
 | 2, hj => simp at hj; subst hj; exact h2
 | 3, hj => simp at hj; subst hj; exact h3
 | 4, hj => simp at hj; subst hj; exact h4
 | 5, hj => simp at hj; subst hj; exact h5
 | 6, hj => simp at hj; subst hj; exact h6
 | 7, hj => simp at hj; subst hj; exact h7
 | j + 8, hj => simp at hj⟩, rfl⟩
theorem atY {cs vs : List Value} {o sz : Nat} (h : AtsZ cs o vs sz := by first | (with_reducible refine AtsZ.r ?_; exact iK) | (with_reducible refine AtsZ.r2 ?_ ?_ ?_; exact iK; rfl; rfl) | (with_reducible refine AtsZ.r4 ?_ ?_ ?_ ?_ ?_; exact iK; rfl; rfl; rfl; rfl) | exact AtsZ.all rfl | exact AtsZ.n2 rfl rfl | exact AtsZ.n4 rfl rfl rfl rfl | exact AtsZ.n8 rfl rfl rfl rfl rfl rfl rfl rfl | (refine AtsZ.r ?_; exact iK) | (refine AtsZ.app ?_; refine AtsZ.r ?_; exact iK)) : AtsZ cs o vs sz := h
end Go.Fx

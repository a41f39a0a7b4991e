/- Fractions in memory: records, facts, what follows from facts. The symbolic heap, continued: rules whose conclusions are ready to read. The side conditions of the walk, quicker: shapes first. The walk, kept once. -/
import Derived.Test.YtllaoaobnnondaaGreatRZiaf
import Derived.Test.YtllaoaobnnondaaGreatRZian
import Derived.Test.YtllaoaobnnondaaGreatRZiak
import Derived.Test.YtllaoaobnnondaaGreatRZiah
set_option linter.unusedSimpArgs false
set_option linter.unusedVariables false
namespace Go.Proofs.YtllaoaobnnondaaGreatR
open Go Go.Fx
abbrev vI (q : Option Addr) (c : Nat) (z : Int) : Value := .agg #[.bool (B (z < 0)), .slice q (gr z.natAbs).length c]
/-- a fraction that lies in four cells -/
structure RE where
  q : Rat
  p1 : Option Addr
  c1 : Nat
  p2 : Option Addr
  c2 : Nat
instance : Inhabited RE := ⟨⟨0, none, 0, none, 0⟩⟩
abbrev eR (e : RE) : List Value := [.bool (B (e.q.num < 0)), .slice e.p1 (gr e.q.num.natAbs).length e.c1, .bool (B ((e.q.den : Int) < 0)), .slice e.p2 (gr (e.q.den : Int).natAbs).length e.c2]
abbrev rv (e : RE) : Value := .agg #[.bool (B (e.q.num < 0)), .slice e.p1 (gr e.q.num.natAbs).length e.c1, .bool (B ((e.q.den : Int) < 0)), .slice e.p2 (gr (e.q.den : Int).natAbs).length e.c2]
instance : Sized eR 4 := ⟨fun _ => rfl⟩
instance : Ones eR := ⟨fun m u hu => by
  simp only [eR, List.mem_cons, List.not_mem_nil, or_false] at hu
  rcases hu with rfl | rfl | rfl | rfl <;> rfl⟩
/-- e is a fraction, numerator and denominator at most 2^k -/
structure IsR (e : RE) (k : Nat) (X : List Nat) (w : World) : Prop where
  num : IsI (vI e.p1 e.c1 e.q.num) e.q.num k X w
  den : IsI (vI e.p2 e.c2 e.q.den) e.q.den k X w
abbrev isR (e : RE) (k : Nat) : Imm := IsR e k
instance (e : RE) (k : Nat) : Fx.Good (IsR e k) := ⟨fun X Y w w' h he hY => ⟨Fx.Good.go (φ := IsI _ _ _) X Y w w' h.num he hY, Fx.Good.go (φ := IsI _ _ _) X Y w w' h.den he hY⟩⟩
theorem IsR.mono {e : RE} {k m : Nat} {X : List Nat} {w : World} (h : IsR e k X w) (hk : k ≤ m) : IsR e m X w := ⟨h.num.mono hk, h.den.mono hk⟩
theorem IsI.le {u : Value} {z : Int} {k : Nat} {X : List Nat} {w : World} (h : IsI u z k X w) : z.natAbs ≤ 2 ^ k := by
  obtain ⟨q, c, h1, h2, h3, h4⟩ := h.ex
  exact h3
/-- of a list -/
structure AllR (es : List RE) (k : Nat) (X : List Nat) (w : World) : Prop where
  go : ∀ e ∈ es, IsR e k X w
abbrev allR (es : List RE) (k : Nat) : Imm := AllR es k
instance (es : List RE) (k : Nat) : Fx.Good (AllR es k) := ⟨fun X Y w w' h he hY => ⟨fun e hm => Fx.Good.go (φ := IsR _ _) X Y w w' (h.go e hm) he hY⟩⟩
theorem AllR.mono {es : List RE} {k m : Nat} {X : List Nat} {w : World} (h : AllR es k X w) (hk : k ≤ m) : AllR es m X w := ⟨fun e he => (h.go e he).mono hk⟩
/-- what follows from the facts -/
structure Hv (I : List Imm) (φ : Imm) : Prop where
  go : ∀ (X : List Nat) (w : World), (∀ ψ ∈ I, ψ X w) → φ X w
theorem Hv.mem {I : List Imm} {φ : Imm} (h : φ ∈ I) : Hv I φ := ⟨fun _ _ hw => hw φ h⟩
theorem Hv.q {I : List Imm} {e : RE} {k m : Nat} (h : isR e k ∈ I) (hk : k ≤ m) : Hv I (isR e m) := ⟨fun X w hw => IsR.mono (hw _ h) hk⟩
theorem gt_mem {α : Type} [Inhabited α] {ms : List α} {i : Int} (h : 0 ≤ i ∧ i < ms.length) : gt ms i ∈ ms := List.mem_of_getElem? (gt_some h)
theorem Hv.all {I : List Imm} {es : List RE} {k m : Nat} {i : Int} (h : allR es k ∈ I) (hi : 0 ≤ i ∧ i < es.length) (hk : k ≤ m) : Hv I (isR (gt es i) m) := ⟨fun X w hw => ((hw _ h : AllR es k X w).go _ (gt_mem hi)).mono hk⟩
theorem Hv.inc {I I' : List Imm} {φ : Imm} (h : Hv I φ) (hs : ∀ ψ ∈ I, ψ ∈ I') : Hv I' φ := ⟨fun X w hw => h.go X w (fun ψ hm => hw ψ (hs ψ hm))⟩
theorem Hv.cons {I : List Imm} {φ ψ : Imm} (h : Hv I φ) : Hv (ψ :: I) φ := h.inc (fun _ hm => List.mem_cons_of_mem _ hm)
theorem Hv.allMono {I : List Imm} {es : List RE} {k m : Nat} (h : allR es k ∈ I) (hk : k ≤ m) : Hv I (allR es m) := ⟨fun X w hw => AllR.mono (hw _ h) hk⟩
section
variable {P : Program} {n : Nat} {Q : Exit → Act → World → Prop} {G : Env} {X : List Nat} {w0 : World} {M M' : List Ent} {I I' : List Imm}
theorem Mem.hv {w : World} {φ : Imm} [Fx.Good φ] (h : Hv I φ) (hw : Mem X w0 M I w) : Mem X w0 M (φ :: I) w := hw.add (φ := φ) (h.go _ _ (fun ψ hm => (hw.imm ψ hm).2))
theorem CD_hv {f : FuncId} {vs : List Value} {K : Value → List Ent → List Imm → Prop} {φ : Imm} [Fx.Good φ] (h : Hv I φ) (k : CD P f vs X w0 M (φ :: I) K) : CD P f vs X w0 M I K := ⟨fun w hw => k.go w (Mem.hv h hw)⟩
theorem TD_hv {c : Code} {φ : Imm} [Fx.Good φ] (h : Hv I φ) (k : TD P n c Q G X w0 M (φ :: I)) : TD P n c Q G X w0 M I := TD_m (fun _ hw => Mem.hv h hw) k
theorem RD_hv {ops l : List Oper} {m : Fx.Mode} {φ : Imm} [Fx.Good φ] (h : Hv I φ) (k : RD P n ops Q m l G X w0 M (φ :: I)) : RD P n ops Q m l G X w0 M I := RD_m (fun _ hw => Mem.hv h hw) k
theorem ND_hv {ex : Exit} {φ : Imm} [Fx.Good φ] (h : Hv I φ) (k : ND n Q ex G X w0 M (φ :: I)) : ND n Q ex G X w0 M I := ND_m (fun _ hw => Mem.hv h hw) k
theorem openR {w : World} {e : RE} {k : Nat} (h : Hv I (isR e k)) (hw : Mem X w0 M I w) : Mem X w0 M (isI (vI e.p1 e.c1 e.q.num) e.q.num k :: isI (vI e.p2 e.c2 e.q.den) e.q.den k :: I) w := by
  have hr : IsR e k (muts M) w := h.go _ _ (fun ψ hm => (hw.imm ψ hm).2)
  exact (hw.add (φ := isI (vI e.p2 e.c2 e.q.den) e.q.den k) hr.den).add (φ := isI (vI e.p1 e.c1 e.q.num) e.q.num k) hr.num
theorem CD_openR {f : FuncId} {vs : List Value} {K : Value → List Ent → List Imm → Prop} {e : RE} {k : Nat} (h : Hv I (isR e k)) (c : CD P f vs X w0 M (isI (vI e.p1 e.c1 e.q.num) e.q.num k :: isI (vI e.p2 e.c2 e.q.den) e.q.den k :: I) K) : CD P f vs X w0 M I K := ⟨fun w hw => c.go w (openR h hw)⟩
theorem RD_openR {ops l : List Oper} {m : Fx.Mode} {e : RE} {k : Nat} (h : Hv I (isR e k)) (c : RD P n ops Q m l G X w0 M (isI (vI e.p1 e.c1 e.q.num) e.q.num k :: isI (vI e.p2 e.c2 e.q.den) e.q.den k :: I)) : RD P n ops Q m l G X w0 M I := RD_m (fun _ hw => openR h hw) c
theorem closeR {w : World} {q : Rat} {k k1 k2 : Nat} {p1 p2 : Option Addr} {c1 c2 : Nat} (h1 : isI (vI p1 c1 q.num) q.num k1 ∈ I) (h2 : isI (vI p2 c2 q.den) q.den k2 ∈ I) (hk1 : k1 ≤ k) (hk2 : k2 ≤ k) (hw : Mem X w0 M I w) : Mem X w0 M (isR ⟨q, p1, c1, p2, c2⟩ k :: I) w :=
  hw.add (φ := isR ⟨q, p1, c1, p2, c2⟩ k) ⟨IsI.mono (hw.imm _ h1).2 hk1, IsI.mono (hw.imm _ h2).2 hk2⟩
theorem ND_closeR {ex : Exit} {q : Rat} {k k1 k2 : Nat} {p1 p2 : Option Addr} {c1 c2 : Nat} (h1 : isI (vI p1 c1 q.num) q.num k1 ∈ I) (h2 : isI (vI p2 c2 q.den) q.den k2 ∈ I) (hk1 : k1 ≤ k) (hk2 : k2 ≤ k) (h : ND n Q ex G X w0 M (isR ⟨q, p1, c1, p2, c2⟩ k :: I)) : ND n Q ex G X w0 M I := ND_m (fun _ hw => closeR h1 h2 hk1 hk2 hw) h
theorem monoI {w : World} {u : Value} {z : Int} {k m : Nat} (h : isI u z k ∈ I) (hk : k ≤ m) (hw : Mem X w0 M I w) : Mem X w0 M (isI u z m :: I) w := hw.add (φ := isI u z m) (IsI.mono (hw.imm _ h).2 hk)
theorem RD_monoI {ops l : List Oper} {m : Fx.Mode} {u : Value} {z : Int} {k k2 : Nat} (h : isI u z k ∈ I) (hk : k ≤ k2) (c : RD P n ops Q m l G X w0 M (isI u z k2 :: I)) : RD P n ops Q m l G X w0 M I := RD_m (fun _ hw => monoI h hk hw) c
/-- a number known to be smaller than its fact says -/
theorem IsI.tight {u : Value} {z : Int} {k m : Nat} {X : List Nat} {w : World} (h : IsI u z k X w) (hk : z.natAbs ≤ 2 ^ m) : IsI u z m X w := by
  obtain ⟨q, c, h1, h2, h3, h4⟩ := h.ex
  exact ⟨q, c, h1, h2, hk, h4⟩
theorem RD_tightI {ops l : List Oper} {m : Fx.Mode} {u : Value} {z : Int} {k k2 : Nat} (h : isI u z k ∈ I) (hk : z.natAbs ≤ 2 ^ k2) (c : RD P n ops Q m l G X w0 M (isI u z k2 :: I)) : RD P n ops Q m l G X w0 M I := RD_m (fun _ hw => hw.add (φ := isI u z k2) (IsI.tight (hw.imm _ h).2 hk)) c
end
/-- the post of a fraction -/
def RQ (q : Rat) (k : Nat) (M0 : List Ent) (I0 : List Imm) (v : Value) (M : List Ent) (I : List Imm) : Prop := M0 = M ∧ ∃ e : RE, v = rv e ∧ e.q = q ∧ I = isR e k :: I0
/-- with a code -/
def RQc (q : Rat) (k : Nat) (M0 : List Ent) (I0 : List Imm) (v : Value) (M : List Ent) (I : List Imm) : Prop := M0 = M ∧ ∃ e : RE, v = .tuple #[rv e, .int .i64 0] ∧ e.q = q ∧ I = isR e k :: I0
end Go.Proofs.YtllaoaobnnondaaGreatR
namespace Go.Fx
section
variable {P : Program} {n : Nat} {Q Q' : Exit → Act → World → Prop} {G : Env} {X : List Nat} {w0 : World} {M M' : List Ent} {I I' : List Imm}
variable {ops l : List Oper} {m : Mode} {op : Op} {ty : TypeId} {pos : String} {af : Array Edge} {g : Option (Nat × Bool)}
theorem Eff.boxA {w : World} {t : TypeId} {x : Operand} {vs : List Value} (hx : ev G x = some (.agg vs.toArray)) : Eff P n G (.box t x) ty w (fun v w' => ∃ b, w.heap.size ≤ b ∧ v = .pointer (some ⟨b, 0, none⟩) ∧ Blk w' b vs t ∧ Ext [] w w') := by
  have h := Eff_box (P := P) (n := n) (ty := ty) (w := w) (t := t) hx
  refine h.mono (fun v w' ⟨b, hb, hp, hB, hE, _⟩ => ⟨b, by omega, hp, ?_, hE⟩)
  simpa [Value.cells] using hB
theorem RD_boxA {d : Nat} {t : TypeId} {x : Operand} {vs : List Value} (hx : ev G x = some (.agg vs.toArray)) (hg : gst ops G g = some true) (hd : Nat.ble (d + 1) n = true)
    (k : ∀ b, OkD m X w0 (.blk b vs t :: M) I ∧ RD P n ops Q m.nextE l ((d, .pointer (some ⟨b, 0, none⟩)) :: G) X w0 (.blk b vs t :: M) I) :
    RD P n ops Q m (⟨some d, .box t x, ty, pos, af, g⟩ :: l) G X w0 M I :=
  RD_e (d := some d) (K := fun v' M' I' => ∃ b, v' = .pointer (some ⟨b, 0, none⟩) ∧ M' = .blk b vs t :: M ∧ I' = I) hg
    (fun w hw => (Eff.boxA hx).mono (fun _ w' ⟨b, hb, hp, hB, hE⟩ => ⟨_, _, ⟨b, hp, rfl, rfl⟩, hw.push hE (by simp [Ent.blocks, hb]) (by simp [Ent.blocks]) hB⟩)) rfl hd
    (fun _ _ _ ⟨b, hp, hM, hI⟩ => by subst hp; subst hM; subst hI; exact k b)
theorem RD_callS {d : Nat} {f : FuncId} {xs : List Operand} {vs : List Value} {at_ : Array TypeId} {K : Value → List Ent → List Imm → Prop} [FnOk P f] (hx : evs G xs = some vs) (hc : CD P f vs X w0 M I K)
    (hg : gst ops G g = some true) (hd : Nat.ble (d + 1) n = true) (k : ∀ v M' I', K v M' I' → OkD m X w0 M' I' ∧ RD P n ops Q m.nextE l ((d, v) :: G) X w0 M' I') :
    RD P n ops Q m (⟨some d, .call { callee := .value (.func f), args := xs.toArray, argTypes := at_ }, ty, pos, af, g⟩ :: l) G X w0 M I :=
  RD_call (d := some d) hx hc hg hd k
theorem RD_callVS {d : Nat} {h : Operand} {f : FuncId} {fs cs : Array Value} {xs : List Operand} {vs : List Value} {at_ : Array TypeId} {K : Value → List Ent → List Imm → Prop} [FnOk P f] (hh : ev G h = some (.func (.func f) fs cs)) (hx : evs G xs = some vs)
    (hc : CD P f (fs.toList ++ vs ++ cs.toList) X w0 M I K)
    (hg : gst ops G g = some true) (hf : freeK (.call { callee := .value h, args := xs.toArray, argTypes := at_ }) = false) (hd : Nat.ble (d + 1) n = true) (k : ∀ v M' I', K v M' I' → OkD m X w0 M' I' ∧ RD P n ops Q m.nextE l ((d, v) :: G) X w0 M' I') :
    RD P n ops Q m (⟨some d, .call { callee := .value h, args := xs.toArray, argTypes := at_ }, ty, pos, af, g⟩ :: l) G X w0 M I :=
  RD_callV (d := some d) hh hx hc hg hf hd k
section
variable {f : FuncId} {fn : Func} {c : Code} {K : Value → List Ent → List Imm → Prop} {v0 v1 v2 v3 v4 v5 v6 : Value}
theorem enterD0 (hf : P.funcs[f]? = some fn) (hb : fn.body = some c) (hn : fn.ntmps = n) (hl : Nat.ble 0 n = true) (h : TD P n c (Body P fn (KB K X w0)) [] X w0 M I) : CD P f [] X w0 M I K := enterD hf hb hn hl h
theorem enterD1 (hf : P.funcs[f]? = some fn) (hb : fn.body = some c) (hn : fn.ntmps = n) (hl : Nat.ble 1 n = true) (h : TD P n c (Body P fn (KB K X w0)) [(0, v0)] X w0 M I) : CD P f [v0] X w0 M I K := enterD hf hb hn hl h
theorem enterD2 (hf : P.funcs[f]? = some fn) (hb : fn.body = some c) (hn : fn.ntmps = n) (hl : Nat.ble 2 n = true) (h : TD P n c (Body P fn (KB K X w0)) [(0, v0), (1, v1)] X w0 M I) : CD P f [v0, v1] X w0 M I K := enterD hf hb hn hl h
theorem enterD3 (hf : P.funcs[f]? = some fn) (hb : fn.body = some c) (hn : fn.ntmps = n) (hl : Nat.ble 3 n = true) (h : TD P n c (Body P fn (KB K X w0)) [(0, v0), (1, v1), (2, v2)] X w0 M I) : CD P f [v0, v1, v2] X w0 M I K := enterD hf hb hn hl h
theorem enterD4 (hf : P.funcs[f]? = some fn) (hb : fn.body = some c) (hn : fn.ntmps = n) (hl : Nat.ble 4 n = true) (h : TD P n c (Body P fn (KB K X w0)) [(0, v0), (1, v1), (2, v2), (3, v3)] X w0 M I) : CD P f [v0, v1, v2, v3] X w0 M I K := enterD hf hb hn hl h
end
end
end Go.Fx
namespace Go.Fx
section
variable {P : Program} {n : Nat} {Q : Exit → Act → World → Prop} {G G' : Env} {X : List Nat} {w0 : World} {M M' M1 : List Ent} {I I' I1 : List Imm} {m : Mode} {a b x y0 y1 y2 y3 y4 y5 y6 y7 y8 y9 : Ent} {φ : Imm} {cs cs' vs : List Value} {o sz : Nat} {v : Value} {α : Type} {aa : α} {ll : List α}
theorem SubP.c0 (k : SubP M M') : SubP (x :: M) (x :: M') := .cons .here k
theorem SubP.c1 (k : SubP (y0 :: M) M') : SubP (y0 :: x :: M) (x :: M') := .cons (.there .here) k
theorem SubP.c2 (k : SubP (y0 :: y1 :: M) M') : SubP (y0 :: y1 :: x :: M) (x :: M') := .cons (.there (.there .here)) k
theorem SubP.c3 (k : SubP (y0 :: y1 :: y2 :: M) M') : SubP (y0 :: y1 :: y2 :: x :: M) (x :: M') := .cons (.there (.there (.there .here))) k
theorem SubP.c4 (k : SubP (y0 :: y1 :: y2 :: y3 :: M) M') : SubP (y0 :: y1 :: y2 :: y3 :: x :: M) (x :: M') := .cons (.there (.there (.there (.there .here)))) k
theorem SubP.c5 (k : SubP (y0 :: y1 :: y2 :: y3 :: y4 :: M) M') : SubP (y0 :: y1 :: y2 :: y3 :: y4 :: x :: M) (x :: M') := .cons (.there (.there (.there (.there (.there .here))))) k
theorem SubP.c6 (k : SubP (y0 :: y1 :: y2 :: y3 :: y4 :: y5 :: M) M') : SubP (y0 :: y1 :: y2 :: y3 :: y4 :: y5 :: x :: M) (x :: M') := .cons (.there (.there (.there (.there (.there (.there .here)))))) k
theorem SubP.c7 (k : SubP (y0 :: y1 :: y2 :: y3 :: y4 :: y5 :: y6 :: M) M') : SubP (y0 :: y1 :: y2 :: y3 :: y4 :: y5 :: y6 :: x :: M) (x :: M') := .cons (.there (.there (.there (.there (.there (.there (.there .here))))))) k
theorem SubP.c8 (k : SubP (y0 :: y1 :: y2 :: y3 :: y4 :: y5 :: y6 :: y7 :: M) M') : SubP (y0 :: y1 :: y2 :: y3 :: y4 :: y5 :: y6 :: y7 :: x :: M) (x :: M') := .cons (.there (.there (.there (.there (.there (.there (.there (.there .here)))))))) k
theorem memF (h : aa ∈ ll := by first | ((repeat (first | with_reducible exact List.mem_cons_self | with_reducible assumption | with_reducible refine List.mem_cons_of_mem _ ?_)); done) | (repeat (first | exact List.Mem.head _ | assumption | refine List.Mem.tail _ ?_))) : aa ∈ ll := h
theorem subF (h : SubP M M' := by first | ((repeat (first | with_reducible exact SubP.refl | with_reducible exact SubP.nil | with_reducible refine SubP.c0 ?_ | with_reducible refine SubP.c1 ?_ | with_reducible refine SubP.c2 ?_ | with_reducible refine SubP.c3 ?_ | with_reducible refine SubP.c4 ?_ | with_reducible refine SubP.c5 ?_ | with_reducible refine SubP.c6 ?_ | with_reducible refine SubP.c7 ?_ | with_reducible refine SubP.c8 ?_ | with_reducible refine SubP.drop ?_)); done) | (repeat (first | exact SubP.refl | exact SubP.nil | refine SubP.c0 ?_ | refine SubP.c1 ?_ | refine SubP.c2 ?_ | refine SubP.c3 ?_ | refine SubP.c4 ?_ | refine SubP.c5 ?_ | refine SubP.c6 ?_ | refine SubP.c7 ?_ | refine SubP.c8 ?_ | refine SubP.drop ?_))) : SubP M M' := h
theorem incF (h : Inc I I' := by first | ((repeat (first | with_reducible exact Inc.refl | with_reducible exact Inc.nil | (with_reducible refine Inc.cons ?_ ?_; (repeat (first | with_reducible exact List.mem_cons_self | with_reducible assumption | with_reducible refine List.mem_cons_of_mem _ ?_))) | with_reducible refine Inc.wk ?_)); done) | (repeat (first | exact Inc.refl | exact Inc.nil | (refine Inc.cons ?_ ?_; (repeat (first | exact List.Mem.head _ | assumption | refine List.Mem.tail _ ?_))) | refine Inc.wk ?_))) : Inc I I' := h
theorem remF (h : Rem a M M' := by first | with_reducible exact .here | with_reducible exact .there .here | with_reducible exact .there (.there .here) | with_reducible exact .there (.there (.there .here)) | with_reducible exact .there (.there (.there (.there .here))) | with_reducible exact .there (.there (.there (.there (.there .here)))) | with_reducible exact .there (.there (.there (.there (.there (.there .here))))) | with_reducible exact .there (.there (.there (.there (.there (.there (.there .here)))))) | exact remE) : Rem a M M' := h
theorem repF (h : Rep a b M M' := by first | with_reducible exact .here | with_reducible exact .there .here | with_reducible exact .there (.there .here) | with_reducible exact .there (.there (.there .here)) | with_reducible exact .there (.there (.there (.there .here))) | with_reducible exact .there (.there (.there (.there (.there .here)))) | with_reducible exact .there (.there (.there (.there (.there (.there .here))))) | with_reducible exact .there (.there (.there (.there (.there (.there (.there .here)))))) | with_reducible assumption | exact repE) : Rep a b M M' := h
theorem okF (h : OkD m X w0 M I := by first | with_reducible exact OkD.seq | with_reducible exact OkD.one | (with_reducible refine OkD.any ?_ ?_; exact subF; exact incF) | exact OkD.seq | exact OkD.one | (refine OkD.any ?_ ?_; exact subF; exact incF) | exact OkD.uptoN (by decide) | (refine OkD.uptoY ?_ ?_; exact subF; exact incF) | exact OkD.kN (by decide) | (refine OkD.kY ?_ ?_; exact subF; exact incF)) : OkD m X w0 M I := h
theorem vwF (h : View m X w0 M I M1 I1 := by first | exact View.seq | exact View.any | exact View.one rfl | exact View.upto (by decide) | exact View.k0 rfl | exact View.kJ (by decide)) : View m X w0 M I M1 I1 := h
theorem atF (h : At cs o v := by first | (with_reducible refine At.r1 ?_ ?_; exact bdI; rfl) | (with_reducible refine At.r2 ?_ ?_; exact bdI; rfl) | exact At.mk rfl | exact atC) : At cs o v := h
variable {x' y' : Int} {kk : IntKind}
theorem wF (h : kk.wrap x' = y' := by first | (with_reducible refine wrap_i64 ?_; first | omega | with_reducible assumption) | (with_reducible refine wrap_u64 ?_; first | omega | with_reducible assumption) | (with_reducible refine wrap_u32 ?_; first | omega | with_reducible assumption) | (with_reducible refine wrap_u8 ?_; omega)) : kk.wrap x' = y' := h
theorem qF (h : kk.wrap x' = y' := by first | (with_reducible refine quo_i64 ?_; omega) | (with_reducible refine quo_u64 ?_ ?_; omega; omega)) : kk.wrap x' = y' := h
end
/- loads of parts -/
structure AtsZ (cs : List Value) (o : Nat) (vs : List Value) (sz : Nat) : Prop where
  ats : Ats cs o vs
  len : vs.length = sz
theorem AtsZ.all {cs : List Value} {sz : Nat} (h : cs.length = sz) : AtsZ cs 0 cs sz := ⟨Ats.all, h⟩
theorem AtsZ.r {α : Type} [Inhabited α] {enc : α → List Value} {sz : Nat} [hz : Sized enc sz] {ms : List α} {i : Int} (hi : 0 ≤ i ∧ i < ms.length) : AtsZ (recs enc ms) (i.toNat * sz) (enc (gt ms i)) sz := ⟨Ats.r hi, hz.len _⟩
theorem AtsZ.app {cs tl vs : List Value} {o sz : Nat} (h : AtsZ cs o vs sz) : AtsZ (cs ++ tl) o vs sz := ⟨Ats.app h.ats, h.len⟩
theorem Ats.of2 {cs : List Value} {o : Nat} {a b : Value} (h0 : cs[o]? = some a) (h1 : cs[o + 1]? = some b) : Ats cs o [a, b] := ⟨fun j v hj => by
  match j, hj with
  | 0, hj => simp at hj; subst hj; exact h0
  | 1, hj => simp at hj; subst hj; exact h1
  | j + 2, hj => simp at hj⟩
theorem Ats.of4 {cs : List Value} {o : Nat} {a b c d : Value} (h0 : cs[o]? = some a) (h1 : cs[o + 1]? = some b) (h2 : cs[o + 2]? = some c) (h3 : cs[o + 3]? = some d) : Ats cs o [a, b, c, d] := ⟨fun j v hj => by
  match j, hj with
  | 0, hj => simp at hj; subst hj; exact h0
  | 1, hj => simp at hj; subst hj; exact h1
  | 2, hj => simp at hj; subst hj; exact h2
  | 3, hj => simp at hj; subst hj; exact h3
  | j + 4, hj => simp at hj⟩
theorem AtsZ.n2 {cs : List Value} {o : Nat} {a b : Value} (h0 : cs[o]? = some a) (h1 : cs[o + 1]? = some b) : AtsZ cs o [a, b] 2 := ⟨Ats.of2 h0 h1, rfl⟩
theorem AtsZ.n4 {cs : List Value} {o : Nat} {a b c d : Value} (h0 : cs[o]? = some a) (h1 : cs[o + 1]? = some b) (h2 : cs[o + 2]? = some c) (h3 : cs[o + 3]? = some d) : AtsZ cs o [a, b, c, d] 4 := ⟨Ats.of4 h0 h1 h2 h3, rfl⟩
theorem AtsZ.r2 {α : Type} [Inhabited α] {enc : α → List Value} {sz : Nat} [Sized enc sz] {ms : List α} {i : Int} {j : Nat} {a b : Value} (hi : 0 ≤ i ∧ i < ms.length) (h0 : (enc (gt ms i))[j]? = some a) (h1 : (enc (gt ms i))[j + 1]? = some b) : AtsZ (recs enc ms) (i.toNat * sz + j) [a, b] 2 := ⟨Ats.of2 (recs_at hi h0) (recs_at hi h1), rfl⟩
theorem AtsZ.r4 {α : Type} [Inhabited α] {enc : α → List Value} {sz : Nat} [Sized enc sz] {ms : List α} {i : Int} {j : Nat} {a b c d : Value} (hi : 0 ≤ i ∧ i < ms.length) (h0 : (enc (gt ms i))[j]? = some a) (h1 : (enc (gt ms i))[j + 1]? = some b) (h2 : (enc (gt ms i))[j + 2]? = some c) (h3 : (enc (gt ms i))[j + 3]? = some d) : AtsZ (recs enc ms) (i.toNat * sz + j) [a, b, c, d] 4 := ⟨Ats.of4 (recs_at hi h0) (recs_at hi h1) (recs_at hi h2) (recs_at hi h3), rfl⟩
theorem atZ {cs vs : List Value} {o sz : Nat} (h : AtsZ cs o vs sz := by first | (with_reducible refine AtsZ.r ?_; exact bdI) | (with_reducible refine AtsZ.r2 ?_ ?_ ?_; exact bdI; rfl; rfl) | (with_reducible refine AtsZ.r4 ?_ ?_ ?_ ?_ ?_; exact bdI; rfl; rfl; rfl; rfl) | exact AtsZ.all rfl | exact AtsZ.n2 rfl rfl | exact AtsZ.n4 rfl rfl rfl rfl | (refine AtsZ.r ?_; exact bdI) | (refine AtsZ.app ?_; refine AtsZ.r ?_; exact bdI)) : AtsZ cs o vs sz := h
section
variable {P : Program} {n : Nat} {Q : Exit → Act → World → Prop} {G : Env} {X : List Nat} {w0 : World} {M M1 : List Ent} {I I1 : List Imm}
variable {ops l : List Oper} {m : Mode} {ty : TypeId} {pos : String} {af : Array Edge} {g : Option (Nat × Bool)}
theorem RD_ldZB {d : Nat} {t : TypeId} {sz : Nat} {x : Operand} {b o : Nat} {cs vs : List Value} {e : TypeId} [AggTy P t sz] (hv : View m X w0 M I M1 I1) (hx : ev G x = some (.pointer (some ⟨b, o, none⟩))) (hm : .blk b cs e ∈ M1) (hc : AtsZ cs o vs sz) (hg : gst ops G g = some true)
    (hd : Nat.ble (d + 1) n = true) (k : RD P n ops Q m.next l ((d, .agg vs.toArray) :: G) X w0 M I) : RD P n ops Q m (⟨some d, .load t x, ty, pos, af, g⟩ :: l) G X w0 M I := RD_ldNB hv hx hm hc.ats hc.len hg hd k
theorem RD_ldZI {d : Nat} {t : TypeId} {sz : Nat} {x : Operand} {a : Option Addr} {o : Nat} {cs vs : List Value} [AggTy P t sz] (hv : View m X w0 M I M1 I1) (hx : ev G x = some (.pointer (some (pt a o)))) (hm : slI a cs ∈ I1) (hc : AtsZ cs o vs sz) (hg : gst ops G g = some true)
    (hd : Nat.ble (d + 1) n = true) (k : RD P n ops Q m.next l ((d, .agg vs.toArray) :: G) X w0 M I) : RD P n ops Q m (⟨some d, .load t x, ty, pos, af, g⟩ :: l) G X w0 M I := RD_ldNI hv hx hm hc.ats hc.len hg hd k
theorem RD_ldZR {d : Nat} {t : TypeId} {sz sz' : Nat} {x : Operand} {a : Option Addr} {o mm c : Nat} {cs vs : List Value} {e : TypeId} [AggTy P t sz] (hv : View m X w0 M I M1 I1) (hx : ev G x = some (.pointer (some (pt a o)))) (hm : .row a mm c cs e sz' ∈ M1) (hc : AtsZ cs o vs sz) (hg : gst ops G g = some true)
    (hd : Nat.ble (d + 1) n = true) (k : RD P n ops Q m.next l ((d, .agg vs.toArray) :: G) X w0 M I) : RD P n ops Q m (⟨some d, .load t x, ty, pos, af, g⟩ :: l) G X w0 M I := RD_ldNR hv hx hm hc.ats hc.len hg hd k
theorem RD_ldZIB {d : Nat} {t : TypeId} {sz : Nat} {x : Operand} {b o : Nat} {cs vs : List Value} [AggTy P t sz] (hv : View m X w0 M I M1 I1) (hx : ev G x = some (.pointer (some ⟨b, o, none⟩))) (hm : slI (some ⟨b, 0, none⟩) cs ∈ I1) (hc : AtsZ cs o vs sz) (hg : gst ops G g = some true)
    (hd : Nat.ble (d + 1) n = true) (k : RD P n ops Q m.next l ((d, .agg vs.toArray) :: G) X w0 M I) : RD P n ops Q m (⟨some d, .load t x, ty, pos, af, g⟩ :: l) G X w0 M I := RD_ldNIB hv hx hm hc.ats hc.len hg hd k
end
end Go.Fx
namespace Go.Fx
theorem wXf {p g : Prop} (h : g) (w : BoxP g → p := by (intro hh; (first | refine TD_seq ?_ | refine TD_region ?_ | refine TD_ret ?_ | refine TD_skip ?_ | refine TD_label ?_ | refine TD_block ?_ | refine TD_exit ?_ | refine ND_then ?_ | refine ND_thenR ?_ | refine ND_thenE ?_ | refine ND_inN ?_ | refine ND_inR ?_ | refine ND_inE ?_ | refine ND_inO rfl ?_ | refine RD_nil ?_ | (refine RD_isGu ?_; first | refine RD_skip rfl rfl rfl ?_ | (refine RD_isEf rfl rfl ?_; refine RD_skipE rfl rfl rfl okF ?_) | refine RD_grdY rfl rfl (by omega) ?_ | refine RD_grdN rfl rfl (by omega) ?_) | (refine RD_isUn ?_; refine RD_c rfl (fun _ => Const_notB rfl) rfl rfl ?_) | refine RD_c rfl (fun _ => Const_pure rfl) rfl rfl ?_ | (refine RD_isBi ?_; first | refine RD_c rfl (fun _ => Const_add rfl rfl wF) rfl rfl ?_ | refine RD_c rfl (fun _ => Const_sub rfl rfl wF) rfl rfl ?_ | refine RD_c rfl (fun _ => Const_mul rfl rfl wF) rfl rfl ?_ | refine RD_c rfl (fun _ => Const_quo rfl rfl (by omega) qF) rfl rfl ?_ | refine RD_c rfl (fun _ => Const_rem rfl rfl (by omega) rfl) rfl rfl ?_ | refine RD_c rfl (fun _ => Const_half rfl rfl) rfl rfl ?_ | refine RD_c rfl (fun _ => Const_eqBB rfl rfl) rfl rfl ?_ | refine RD_c rfl (fun _ => Const_neBB rfl rfl) rfl rfl ?_) | (refine RD_isUn ?_; first | refine RD_c rfl (fun _ => Const_neg rfl wF) rfl rfl ?_) | (refine RD_isCv ?_; first | refine RD_c rfl (fun _ => Const_conv rfl wF) rfl rfl ?_) | (refine RD_isCa ?_; first | refine RD_c rfl (fun _ => Const_len rfl) rfl rfl ?_ | refine RD_c rfl (fun _ => Const_minM rfl rfl) rfl rfl ?_ | refine RD_c rfl (fun _ => Const_maxM rfl rfl) rfl rfl ?_ | refine RD_c rfl (fun _ => Const_min3 rfl rfl rfl) rfl rfl ?_) | (refine RD_isFa ?_; first | refine RD_fldP rfl (by decide) rfl rfl ?_ | refine RD_fld rfl (by decide) rfl rfl ?_) | (refine RD_isIx ?_; first | refine RD_ixB rfl rfl bdI rfl rfl ?_ | refine RD_ixI vwF rfl rfl bdI memF posC rfl rfl ?_ | refine RD_ixR vwF rfl rfl bdI memF posC rfl rfl ?_ | refine RD_c rfl (fun _ => Const_indexA rfl rfl bdI) rfl rfl ?_) | (refine RD_isLd ?_; first | refine RD_ldI vwF rfl memF atF rfl rfl ?_ | refine RD_ldR vwF rfl memF atF rfl rfl ?_ | refine RD_ldB vwF rfl memF atF rfl rfl ?_ | refine RD_ldIB vwF rfl memF atF rfl rfl ?_ | refine RD_ldZI vwF rfl memF atZ rfl rfl ?_ | refine RD_ldZR vwF rfl memF atZ rfl rfl ?_ | refine RD_ldZB vwF rfl memF atZ rfl rfl ?_ | refine RD_ldZIB vwF rfl memF atZ rfl rfl ?_) | (refine RD_isFd ?_; first | refine RD_c rfl (fun _ => Const_field1 rfl rfl) rfl rfl ?_ | refine RD_c rfl (fun _ => Const_fieldN rfl) rfl rfl ?_) | (refine RD_isSt ?_; first | refine RD_st rfl rfl rfl repF stC rfl rfl ⟨okF, ?_⟩ | refine RD_stN rfl rfl lenC oneC repF stsC rfl rfl ⟨okF, ?_⟩) | (refine TD_isCo ?_; first | refine TD_cond_true rfl ?_ | refine TD_cond_false rfl ?_ | refine TD_yes rfl (by omega) ?_ | refine TD_no rfl (by omega) ?_)); (repeat (first | refine TD_seq ?_ | refine TD_region ?_ | refine TD_ret ?_ | refine TD_skip ?_ | refine TD_label ?_ | refine TD_block ?_ | refine TD_exit ?_ | refine ND_then ?_ | refine ND_thenR ?_ | refine ND_thenE ?_ | refine ND_inN ?_ | refine ND_inR ?_ | refine ND_inE ?_ | refine ND_inO rfl ?_ | refine RD_nil ?_ | (refine RD_isGu ?_; first | refine RD_skip rfl rfl rfl ?_ | (refine RD_isEf rfl rfl ?_; refine RD_skipE rfl rfl rfl okF ?_) | refine RD_grdY rfl rfl (by omega) ?_ | refine RD_grdN rfl rfl (by omega) ?_) | (refine RD_isUn ?_; refine RD_c rfl (fun _ => Const_notB rfl) rfl rfl ?_) | refine RD_c rfl (fun _ => Const_pure rfl) rfl rfl ?_ | (refine RD_isBi ?_; first | refine RD_c rfl (fun _ => Const_add rfl rfl wF) rfl rfl ?_ | refine RD_c rfl (fun _ => Const_sub rfl rfl wF) rfl rfl ?_ | refine RD_c rfl (fun _ => Const_mul rfl rfl wF) rfl rfl ?_ | refine RD_c rfl (fun _ => Const_quo rfl rfl (by omega) qF) rfl rfl ?_ | refine RD_c rfl (fun _ => Const_rem rfl rfl (by omega) rfl) rfl rfl ?_ | refine RD_c rfl (fun _ => Const_half rfl rfl) rfl rfl ?_ | refine RD_c rfl (fun _ => Const_eqBB rfl rfl) rfl rfl ?_ | refine RD_c rfl (fun _ => Const_neBB rfl rfl) rfl rfl ?_) | (refine RD_isUn ?_; first | refine RD_c rfl (fun _ => Const_neg rfl wF) rfl rfl ?_) | (refine RD_isCv ?_; first | refine RD_c rfl (fun _ => Const_conv rfl wF) rfl rfl ?_) | (refine RD_isCa ?_; first | refine RD_c rfl (fun _ => Const_len rfl) rfl rfl ?_ | refine RD_c rfl (fun _ => Const_minM rfl rfl) rfl rfl ?_ | refine RD_c rfl (fun _ => Const_maxM rfl rfl) rfl rfl ?_ | refine RD_c rfl (fun _ => Const_min3 rfl rfl rfl) rfl rfl ?_) | (refine RD_isFa ?_; first | refine RD_fldP rfl (by decide) rfl rfl ?_ | refine RD_fld rfl (by decide) rfl rfl ?_) | (refine RD_isIx ?_; first | refine RD_ixB rfl rfl bdI rfl rfl ?_ | refine RD_ixI vwF rfl rfl bdI memF posC rfl rfl ?_ | refine RD_ixR vwF rfl rfl bdI memF posC rfl rfl ?_ | refine RD_c rfl (fun _ => Const_indexA rfl rfl bdI) rfl rfl ?_) | (refine RD_isLd ?_; first | refine RD_ldI vwF rfl memF atF rfl rfl ?_ | refine RD_ldR vwF rfl memF atF rfl rfl ?_ | refine RD_ldB vwF rfl memF atF rfl rfl ?_ | refine RD_ldIB vwF rfl memF atF rfl rfl ?_ | refine RD_ldZI vwF rfl memF atZ rfl rfl ?_ | refine RD_ldZR vwF rfl memF atZ rfl rfl ?_ | refine RD_ldZB vwF rfl memF atZ rfl rfl ?_ | refine RD_ldZIB vwF rfl memF atZ rfl rfl ?_) | (refine RD_isFd ?_; first | refine RD_c rfl (fun _ => Const_field1 rfl rfl) rfl rfl ?_ | refine RD_c rfl (fun _ => Const_fieldN rfl) rfl rfl ?_) | (refine RD_isSt ?_; first | refine RD_st rfl rfl rfl repF stC rfl rfl ⟨okF, ?_⟩ | refine RD_stN rfl rfl lenC oneC repF stsC rfl rfl ⟨okF, ?_⟩) | (refine TD_isCo ?_; first | refine TD_cond_true rfl ?_ | refine TD_cond_false rfl ?_ | refine TD_yes rfl (by omega) ?_ | refine TD_no rfl (by omega) ?_))); exact hh.out)) : p := w ⟨h⟩
end Go.Fx

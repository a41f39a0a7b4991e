/- Worlds that grow, slices that read as lists, calls, new memory. -/
import Derived.Test.YtdmlebigkakplaaGreatZmab
set_option linter.unusedSimpArgs false
set_option linter.unusedVariables false
namespace Go.Fx

/- ---------- growth ---------- -/
/-- what was there is as it was, but for the blocks of X -/
structure Ext (X : List Nat) (w w' : World) : Prop where
  os : w'.os = w.os
  tape : w'.tape = w.tape
  output : w'.output = w.output
  size : w.heap.size ≤ w'.heap.size
  block : ∀ k, k < w.heap.size → k ∉ X → w'.heap[k]? = w.heap[k]?

theorem Ext.refl (X : List Nat) (w : World) : Ext X w w := ⟨rfl, rfl, rfl, Nat.le_refl _, fun _ _ _ => rfl⟩
theorem Ext.trans {X : List Nat} {a b c : World} (h : Ext X a b) (k : Ext X b c) : Ext X a c :=
  ⟨k.os.trans h.os, k.tape.trans h.tape, k.output.trans h.output, Nat.le_trans h.size k.size, fun i hi hx => (k.block i (Nat.lt_of_lt_of_le hi h.size) hx).trans (h.block i hi hx)⟩
theorem Ext.weaken {X Y : List Nat} {w w' : World} (h : Ext X w w') (hs : ∀ k ∈ X, k ∈ Y) : Ext Y w w' :=
  ⟨h.os, h.tape, h.output, h.size, fun k hk hy => h.block k hk (fun hx => hy (hs k hx))⟩
theorem Ext.of_nil {Y : List Nat} {w w' : World} (h : Ext [] w w') : Ext Y w w' := h.weaken (fun k hk => by simp at hk)
theorem Ext.drew (X : List Nat) (w : World) : Ext X w w.drew := ⟨rfl, rfl, rfl, Nat.le_refl _, fun _ _ _ => rfl⟩
theorem Ext.alloc (X : List Nat) (w : World) (o : Obj) : Ext X w (w.alloc o) :=
  ⟨rfl, rfl, rfl, by simp, fun k hk _ => Go.RowKit.Below.heap_alloc _ _ _ hk⟩
theorem Ext.setCell {X : List Nat} {w : World} {p : Addr} (hp : p.block ∈ X) (v : Value) : Ext X w (w.setCell p v) :=
  ⟨rfl, rfl, rfl, by simp, fun k _ hx => Go.RowKit.Below.heap_setCell _ _ _ _ (fun e => hx (e ▸ hp))⟩
/-- blocks that were not there when the call began may be forgotten -/
theorem Ext.forget {X Y : List Nat} {w w' : World} (h : Ext X w w') (hs : ∀ k ∈ X, k < w.heap.size → k ∈ Y) : Ext Y w w' :=
  ⟨h.os, h.tape, h.output, h.size, fun k hk hy => h.block k hk (fun hx => hy (hs k hx hk))⟩
theorem Ext.cell {X : List Nat} {w w' : World} (h : Ext X w w') {p : Addr} {v : Value} (hc : w.cell? p = some v) (hx : p.block ∉ X) : w'.cell? p = some v :=
  (World.cell?_of_block (h.block p.block (World.block_lt_of_cell? w p hc) hx)).trans hc
theorem Ext.below {w w' : World} (h : Ext [] w w') : Go.RowKit.Below w.heap.size w w' :=
  ⟨h.os, h.tape, h.output, h.size, fun k hk => h.block k hk (by simp)⟩

/- ---------- slices ---------- -/
/-- the cells behind a slice's address, none of them in a block of X -/
def Sl (X : List Nat) (w : World) (a : Option Addr) (cs : List Value) : Prop :=
  ∀ j v, cs[j]? = some v → Ok a ∧ bl a ∉ X ∧ w.cell? (pt a j) = some v
theorem Sl.nil (X : List Nat) (w : World) (a : Option Addr) : Sl X w a [] := fun j v h => by simp at h
theorem Sl.mono {X : List Nat} {w w' : World} {a : Option Addr} {cs : List Value} (h : Sl X w a cs) (he : Ext X w w') : Sl X w' a cs := fun j v hj =>
  let ⟨h1, h2, h3⟩ := h j v hj
  ⟨h1, h2, he.cell h3 h2⟩
theorem Sl.ok {X : List Nat} {w : World} {a : Option Addr} {cs : List Value} (h : Sl X w a cs) (hl : 0 < cs.length) : Ok a :=
  (h 0 cs[0] (by simp [hl])).1
theorem Sl.less {X Y : List Nat} {w : World} {a : Option Addr} {cs : List Value} (h : Sl X w a cs) (hs : ∀ k ∈ Y, k ∈ X) : Sl Y w a cs := fun j v hj =>
  let ⟨h1, h2, h3⟩ := h j v hj
  ⟨h1, fun hy => h2 (hs _ hy), h3⟩
/-- blocks that are not there yet may be excluded -/
theorem Sl.more {X Y : List Nat} {w : World} {a : Option Addr} {cs : List Value} (h : Sl X w a cs) (hs : ∀ k ∈ Y, k ∈ X ∨ w.heap.size ≤ k) : Sl Y w a cs := fun j v hj => by
  obtain ⟨h1, h2, h3⟩ := h j v hj
  refine ⟨h1, fun hy => ?_, h3⟩
  rcases hs _ hy with hx | hx
  · exact h2 hx
  · have := World.block_lt_of_cell? w _ h3
    simp only [pt] at this
    omega
theorem Sl.cell {X : List Nat} {w : World} {a : Option Addr} {cs : List Value} (h : Sl X w a cs) {j : Nat} {v : Value} (hj : cs[j]? = some v) : w.cell? (pt a j) = some v := (h j v hj).2.2
theorem pt_add (a : Option Addr) (j k : Nat) : pt (a.map (·.add j)) k = pt a (j + k) ∨ a = none := by
  cases a with
  | none => exact .inr rfl
  | some a =>
    refine .inl ?_
    cases a with
    | mk b o s => by_cases hj : j = 0 <;> simp [pt, bl, of, Addr.add, hj, Nat.add_assoc]
theorem Ok.add {a : Option Addr} (h : Ok a) (j : Nat) : Ok (a.map (·.add j)) := by
  obtain ⟨b, o, rfl⟩ := h.cases
  simp [add_lit, Ok.mk]
theorem Sl.drop {X : List Nat} {w : World} {a : Option Addr} {cs : List Value} (h : Sl X w a cs) (k : Nat) : Sl X w (a.map (·.add k)) (cs.drop k) := fun j v hj => by
  rw [List.getElem?_drop] at hj
  obtain ⟨h1, h2, h3⟩ := h _ v hj
  obtain ⟨b, o, rfl⟩ := h1.cases
  refine ⟨h1.add k, ?_, ?_⟩
  · simpa [bl, add_lit] using h2
  · simpa [pt, bl, of, add_lit, Nat.add_assoc] using h3
theorem Sl.take {X : List Nat} {w : World} {a : Option Addr} {cs : List Value} (h : Sl X w a cs) (k : Nat) : Sl X w a (cs.take k) := fun j v hj => by
  rw [List.getElem?_take] at hj
  split at hj
  · exact h j v hj
  · cases hj
/-- the address of a slice expression x[l:..] at capacity c -/
def cutA (a : Option Addr) (c l sz : Nat) : Option Addr := if c = l then a else a.map (·.add (l * sz))
theorem Sl.cut {X : List Nat} {w : World} {a : Option Addr} {cs : List Value} (h : Sl X w a cs) (c l m sz : Nat) (hc : cs.length ≤ c * sz) : Sl X w (cutA a c l sz) ((cs.take m).drop (l * sz)) := by
  unfold cutA
  split
  · rename_i e
    subst e
    have : (cs.take m).drop (c * sz) = [] := by
      apply List.drop_eq_nil_of_le
      simp; omega
    rw [this]
    exact Sl.nil _ _ _
  · exact (h.take m).drop _

/-- integers -/
def Ints (X : List Nat) (w : World) (k : IntKind) (a : Option Addr) (xs : List Int) : Prop := Sl X w a (xs.map (Value.int k))
theorem Ints.cell {X : List Nat} {w : World} {k : IntKind} {a : Option Addr} {xs : List Int} (h : Ints X w k a xs) {i : Nat} (hi : i < xs.length) : w.cell? (pt a (i * 1)) = some (.int k (xs.getD i 0)) := by
  refine Sl.cell h ?_
  simp [List.getD, hi]
theorem Ints.ok {X : List Nat} {w : World} {k : IntKind} {a : Option Addr} {xs : List Int} (h : Ints X w k a xs) (hl : 0 < xs.length) : Ok a := Sl.ok h (by simpa using hl)
theorem Ints.mono {X : List Nat} {w w' : World} {k : IntKind} {a : Option Addr} {xs : List Int} (h : Ints X w k a xs) (he : Ext X w w') : Ints X w' k a xs := Sl.mono h he

/- ---------- facts of cells, in either mode ---------- -/
theorem seqC {w : World} {p : Addr} {v : Value} (h : w.cell? p = some v) : ∀ w', Mode.seq.C w w' → w'.cell? p = some v := fun w' e => by
  have : w' = w := e
  subst this; exact h
theorem extC {X : List Nat} {w0 : World} {p : Addr} {v : Value} (h : w0.cell? p = some v) (hx : p.block ∉ X) : ∀ w', Ext X w0 w' → w'.cell? p = some v := fun _ e => e.cell h hx

/- ---------- calls ---------- -/
def Ret (P : Program) (f : FuncId) (args : List Value) (w : World) (K : Value → World → Prop) : Prop :=
  Calls P f args.toArray w (fun e w' => ∃ v, e = .returned v ∧ K v w')
theorem Ret.mono {P : Program} {f : FuncId} {args : List Value} {w : World} {K K' : Value → World → Prop} (h : Ret P f args w K) (hk : ∀ v w', K v w' → K' v w') : Ret P f args w K' :=
  Calls.mono h fun _ _ ⟨v, e, h⟩ => ⟨v, e, hk v _ h⟩

section
variable {P : Program} {n : Nat} {G : Env} {ty : TypeId} {w : World}

theorem Eff_callV {g : Operand} {f : FuncId} {fs cs : Array Value} {xs : List Operand} {vs : List Value} {at_ : Array TypeId} {K : Value → World → Prop} [hf : FnOk P f]
    (hg : ev G g = some (.func (.func f) fs cs)) (hx : evs G xs = some vs) (h : Ret P f (fs.toList ++ vs ++ cs.toList) w K) :
    Eff P n G (.call { callee := .value g, args := xs.toArray, argTypes := at_ }) ty w K := by
  refine ⟨?_⟩
  intro a ha dst pos after guard
  obtain ⟨fn, h1, h2, h3⟩ := hf.ok
  have e : xs.map a.eval = vs := ha.evs hx
  unfold Oper.wp
  simp only [execOp, resolve, ha.ev hg, Deferred.ofValue, invoke, callFunc, List.map_toArray, e, Sem.run_bind, Sem.run_pure, Result.andThen_ok, run_program, h1, h2, h3]
  simp only [Bool.false_eq_true, if_false, Sem.run_pure, Oper.upon]
  have e2 : fs ++ vs.toArray ++ cs = (fs.toList ++ vs ++ cs.toList).toArray := by apply Array.ext'; simp
  rw [e2]
  refine Calls.mono h ?_
  rintro e w' ⟨v, rfl, hk⟩
  exact ⟨v, hk, rfl⟩
theorem Eff_call {f : FuncId} {xs : List Operand} {vs : List Value} {at_ : Array TypeId} {K : Value → World → Prop} [hf : FnOk P f]
    (hx : evs G xs = some vs) (h : Ret P f vs w K) :
    Eff P n G (.call { callee := .value (.func f), args := xs.toArray, argTypes := at_ }) ty w K :=
  Eff_callV (fs := #[]) (cs := #[]) rfl hx (by simpa using h)

/-- the end of a function's body -/
@[irreducible] def Body (P : Program) (fn : Func) (K : Value → World → Prop) : Exit → Act → World → Prop := bodyPost P fn (fun e w' => ∃ v, e = .returned v ∧ K v w')
/-- into a function -/
def argE : List Value → Nat → Env
  | [], _ => []
  | v :: r, k => (k, v) :: argE r (k + 1)
theorem lk_argE : ∀ (vs : List Value) (k t : Nat) (v : Value), lk (argE vs k) t = some v → k ≤ t ∧ vs[t - k]? = some v
  | [], _, _, _, h => by simp [argE, lk] at h
  | u :: r, k, t, v, h => by
    simp only [argE, lk] at h
    cases hb : Nat.beq k t with
    | true =>
      simp [hb] at h
      have := Nat.eq_of_beq_eq_true hb
      subst this; subst h
      simp
    | false =>
      simp [hb] at h
      obtain ⟨h1, h2⟩ := lk_argE r (k + 1) t v h
      refine ⟨by omega, ?_⟩
      have : t - k = (t - (k + 1)) + 1 := by omega
      rw [this]
      simpa using h2
theorem enter {f : FuncId} {fn : Func} {c : Code} {vs : List Value} {K : Value → World → Prop} (hf : P.funcs[f]? = some fn) (hb : fn.body = some c) (hn : fn.ntmps = n) (hl : Nat.ble vs.length n = true)
    (h : T P n c (Body P fn K) (argE vs 0) w) : Ret P f vs w K := by
  unfold Body at h
  refine calls_of_wp hf hb (h.go _ ⟨?_, rfl, fun t v hv => ?_⟩)
  · have := Nat.le_of_ble_eq_true hl
    simp [hn]; omega
  · obtain ⟨_, h2⟩ := lk_argE vs 0 t v hv
    have hlt : t < vs.length := by
      have := (List.getElem?_eq_some_iff.1 h2).1; omega
    simp [Array.getElem?_append, hlt] at h2 ⊢
    exact h2
/-- out of a function -/
theorem N_ret0 {fn : Func} {K : Value → World → Prop} {e : Exit} (he : e = .ret ∨ e = .normal) (hr : fn.results = #[]) (h : K (.tuple #[]) w) :
    N n (Body P fn K) e G w := ⟨fun a ha => by
  unfold Body
  rcases he with rfl | rfl <;> exact ⟨ha.defers, _, results_none hr _ _ _, _, rfl, h⟩⟩
theorem N_ret1 {fn : Func} {K : Value → World → Prop} {t : Nat} {v : Value} {e : Exit} (he : e = .ret ∨ e = .normal) (hr : fn.results = #[.tmp t]) (hv : lk G t = some v) (h : K v w) :
    N n (Body P fn K) e G w := ⟨fun a ha => by
  unfold Body
  have e1 : a.tmps.getD t undef = v := by simp [ha.get t v hv]
  rcases he with rfl | rfl <;> exact ⟨ha.defers, _, results_tmp hr _ _ _, _, rfl, e1 ▸ h⟩⟩
def lks (G : Env) : List Nat → Option (List Value)
  | [] => some []
  | t :: r => match lk G t with
    | some v => (lks G r).map (v :: ·)
    | none => none
theorem Has.lks {a : Act} (ha : Has n G a) : ∀ {l : List Nat} {vs : List Value}, Fx.lks G l = some vs → l.map (fun t => a.tmps.getD t undef) = vs := by
  intro l
  induction l with
  | nil => intro vs h; simp [Fx.lks] at h; simp [h]
  | cons t l ih =>
    intro vs h
    simp only [Fx.lks] at h
    cases hv : lk G t with
    | none => simp [hv] at h
    | some v =>
      simp only [hv] at h
      cases hr : Fx.lks G l with
      | none => simp [hr] at h
      | some us =>
        simp [hr] at h
        subst h
        simp only [List.map_cons, ih hr]
        simp [ha.get t v hv]
theorem run_results (P : Program) (tmps : Array Value) (w : World) (ts : List Nat) : ((ts.map ResultVar.tmp).toArray.mapM fun
    | ResultVar.tmp t => (pure (tmps.getD t undef) : Sem Value)
    | ResultVar.cell a t => do loadVar t (← asAddr (tmps.getD a undef))).run P w = Result.ok (ts.map (fun t => tmps.getD t undef)).toArray w := by
  rw [List.mapM_toArray]
  simp only [Sem.run_map]
  have : ∀ (l : List Nat), (List.mapM (m := Sem) (fun
    | ResultVar.tmp t => (pure (tmps.getD t undef) : Sem Value)
    | ResultVar.cell a t => do loadVar t (← asAddr (tmps.getD a undef))) (l.map ResultVar.tmp)).run P w = Result.ok (l.map (fun t => tmps.getD t undef)) w := by
    intro l
    induction l with
    | nil => rfl
    | cons t l ih =>
      simp only [List.map_cons, List.mapM_cons, Sem.run_bind, Sem.run_pure, Result.andThen_ok, ih]
  rw [this]
  rfl
theorem N_rets {fn : Func} {K : Value → World → Prop} {ts : List Nat} {vs : List Value} {e : Exit} (he : e = .ret ∨ e = .normal) (hr : fn.results = (ts.map ResultVar.tmp).toArray) (hv : lks G ts = some vs) (hl : Nat.beq vs.length 1 = false) (h : K (.tuple vs.toArray) w) :
    N n (Body P fn K) e G w := ⟨fun a ha => by
  unfold Body
  have e1 := ha.lks hv
  have e2 : (results fn a.tmps).run P w = .ok (.tuple vs.toArray) w := by
    have hne : ¬ vs.length = 1 := by intro e; simp [e] at hl
    unfold results
    rw [hr, Sem.run_bind]
    have := run_results P a.tmps w ts
    rw [e1] at this
    refine (congrArg (fun r => Result.andThen r fun a w' => Sem.run P (pure (if h : a.size = 1 then a[0] else Value.tuple a)) w') this).trans ?_
    simp [hne]
  rcases he with rfl | rfl <;> exact ⟨ha.defers, _, e2, _, rfl, h⟩⟩
end
end Go.Fx

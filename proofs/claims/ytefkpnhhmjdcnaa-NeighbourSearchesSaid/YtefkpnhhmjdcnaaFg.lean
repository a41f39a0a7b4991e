/- The symbolic heap, continued: results that lie in cells. -/
import Derived.Test.YtefkpnhhmjdcnaaFu
namespace Go.Fx
def ResOk (P : Program) (tmps : Array Value) (w : World) : List ResultVar → List Value → Prop
  | [], [] => True
  | .tmp t :: r, v :: vs => tmps.getD t undef = v ∧ ResOk P tmps w r vs
  | .cell a t :: r, v :: vs => (do loadVar t (← asAddr (tmps.getD a undef)) : Sem Value).run P w = .ok v w ∧ ResOk P tmps w r vs
  | _, _ => False
theorem run_resultsM (P : Program) (tmps : Array Value) (w : World) : ∀ (rs : List ResultVar) (vs : List Value), ResOk P tmps w rs vs → (rs.toArray.mapM fun
    | ResultVar.tmp t => (pure (tmps.getD t undef) : Sem Value)
    | ResultVar.cell a t => do loadVar t (← asAddr (tmps.getD a undef))).run P w = Result.ok vs.toArray w := by
  intro rs vs h
  rw [List.mapM_toArray]
  simp only [Sem.run_map]
  have : ∀ (l : List ResultVar) (vs : List Value), ResOk P tmps w l vs → (List.mapM (m := Sem) (fun
    | ResultVar.tmp t => (pure (tmps.getD t undef) : Sem Value)
    | ResultVar.cell a t => do loadVar t (← asAddr (tmps.getD a undef))) l).run P w = Result.ok vs w := by
    intro l
    induction l with
    | nil => intro vs h; cases vs with
      | nil => rfl
      | cons v vs => exact h.elim
    | cons r l ih =>
      intro vs h
      cases vs with
      | nil => cases r <;> exact h.elim
      | cons v vs =>
        cases r with
        | tmp t =>
          obtain ⟨h1, h2⟩ := h
          simp only [List.mapM_cons, Sem.run_bind, Sem.run_pure, Result.andThen_ok, ih vs h2, h1]
        | cell a t =>
          obtain ⟨h1, h2⟩ := h
          simp only [List.mapM_cons, Sem.run_bind] at h1 ⊢
          rw [h1]
          simp only [Result.andThen_ok, Sem.run_bind, ih vs h2, Sem.run_pure]
  rw [this rs vs h]
  rfl
theorem loadCell1 {P : Program} {a : Tmp} {t : TypeId} {tmps : Array Value} {w : World} {b : Nat} {v : Value} {e : TypeId} [ht : ScalarTy P t] (hb : tmps.getD a undef = .pointer (some ⟨b, 0, none⟩)) (hB : Blk w b [v] e) :
    (do loadVar t (← asAddr (tmps.getD a undef)) : Sem Value).run P w = .ok v w := by
  have hc := hB.cell (o := 0) rfl
  have hb' : tmps[a]?.getD undef = .pointer (some ⟨b, 0, none⟩) := by simpa using hb
  simp [hb', asAddr, loadVar, run_isAgg_no, hc]
section
variable {P : Program} {n : Nat} {G : Env} {X : List Nat} {w0 : World} {M M' : List Ent} {I I' : List Imm}
inductive RsD (P : Program) (G : Env) (M : List Ent) : List ResultVar → List Value → Prop
  | nil : RsD P G M [] []
  | tmp {t : Nat} {v : Value} {r : List ResultVar} {vs : List Value} (h : lk G t = some v) (k : RsD P G M r vs) : RsD P G M (.tmp t :: r) (v :: vs)
  | cell {a : Nat} {t : TypeId} {b : Nat} {v : Value} {e : TypeId} {r : List ResultVar} {vs : List Value} (ht : ScalarTy P t) (h : lk G a = some (.pointer (some ⟨b, 0, none⟩))) (hm : .blk b [v] e ∈ M) (k : RsD P G M r vs) : RsD P G M (.cell a t :: r) (v :: vs)
theorem RsD.ok {a : Act} {w : World} (ha : Has n G a) (hw : Mem X w0 M I w) {rs : List ResultVar} {vs : List Value} (h : RsD P G M rs vs) : ResOk P a.tmps w rs vs := by
  induction h with
  | nil => trivial
  | tmp h _ ih => exact ⟨by simp [ha.get _ _ h], ih⟩
  | cell ht h hm _ ih => exact ⟨loadCell1 (by simp [ha.get _ _ h]) (hw.blk hm), ih⟩
theorem ND_retsC {fn : Func} {K : Value → List Ent → List Imm → Prop} {rs : List ResultVar} {vs : List Value} {ex : Exit} (he : ex = .ret ∨ ex = .normal) (hr : fn.results = rs.toArray) (hv : RsD P G M rs vs) (hl : Nat.beq vs.length 1 = false) (M' : List Ent) (I' : List Imm) (hM : SubP M M') (hI : Inc I I') (h : K (.tuple vs.toArray) M' I') :
    ND n (Body P fn (KB K X w0)) ex G X w0 M I := ⟨fun w hw => ⟨fun a ha => by
  unfold Body
  have e1 := run_resultsM P a.tmps w rs vs (hv.ok ha hw)
  have e2 : (results fn a.tmps).run P w = .ok (.tuple vs.toArray) w := by
    have hne : ¬ vs.length = 1 := by intro e; simp [e] at hl
    unfold results
    rw [hr, Sem.run_bind]
    refine (congrArg (fun r => Result.andThen r fun a w' => Sem.run P (pure (if h : a.size = 1 then a[0] else Value.tuple a)) w') e1).trans ?_
    simp [hne]
  rcases he with rfl | rfl <;> exact ⟨ha.defers, _, e2, _, rfl, M', I', h, hw.weak hM hI⟩⟩⟩
theorem ND_retS {fn : Func} {K : Value → List Ent → List Imm → Prop} {ex : Exit} {a : Tmp} {t : TypeId} {b : Nat} {v : Value} {e : TypeId} [ScalarTy P t] (he : ex = .ret ∨ ex = .normal) (hr : fn.results = #[.cell a t]) (hv : lk G a = some (.pointer (some ⟨b, 0, none⟩))) (hm : .blk b [v] e ∈ M) (M' : List Ent) (I' : List Imm) (hM : SubP M M') (hI : Inc I I') (h : K v M' I') :
    ND n (Body P fn (KB K X w0)) ex G X w0 M I := ⟨fun w hw => ⟨fun act ha => by
  unfold Body
  have e1 : act.tmps.getD a undef = .pointer (some ⟨b, 0, none⟩) := by simp [ha.get a _ hv]
  have e2 := results_cell1 (P := P) (t := t) hr e1 (hw.blk hm)
  rcases he with rfl | rfl <;> exact ⟨ha.defers, _, e2, _, rfl, M', I', h, hw.weak hM hI⟩⟩⟩
end
end Go.Fx

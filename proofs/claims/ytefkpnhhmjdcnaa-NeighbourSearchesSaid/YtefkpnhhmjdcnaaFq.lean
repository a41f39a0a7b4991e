/- The symbolic heap, continued: scopes, results that lie in cells, structs' lists compared. -/
import Derived.Test.YtefkpnhhmjdcnaaFp
import Derived.Scope
namespace Go.Fx
@[irreducible] def NoG (Q : Exit → Act → World → Prop) : Exit → Act → World → Prop := Exit.noGoto Q
section
variable {P : Program} {n : Nat} {Q Q' : Exit → Act → World → Prop} {G : Env} {X : List Nat} {w0 : World} {M M' M1 : List Ent} {I I' I1 : List Imm}
theorem TD_scope {c : Code} (h : TD P n c (NoG Q) G X w0 M I) : TD P n (.scope c) Q G X w0 M I := ⟨fun w hw => ⟨fun a ha => wp_scope_straight (by have := (h.go w hw).go a ha; unfold NoG at this; exact this)⟩⟩
theorem ND_noN (h : ND n Q .normal G X w0 M I) : ND n (NoG Q) .normal G X w0 M I := ⟨fun w hw => ⟨fun a ha => by unfold NoG; exact (h.go w hw).go a ha⟩⟩
theorem ND_noR (h : ND n Q .ret G X w0 M I) : ND n (NoG Q) .ret G X w0 M I := ⟨fun w hw => ⟨fun a ha => by unfold NoG; exact (h.go w hw).go a ha⟩⟩
theorem ND_noE {id : Nat} (h : ND n Q (.exit id) G X w0 M I) : ND n (NoG Q) (.exit id) G X w0 M I := ⟨fun w hw => ⟨fun a ha => by unfold NoG; exact (h.go w hw).go a ha⟩⟩

theorem results_cellN {fn : Func} {a : Tmp} {t : TypeId} {sz : Nat} {tmps : Array Value} {w : World} {b : Nat} {cs : List Value} {e : TypeId} [ht : AggTy P t sz] (h : fn.results = #[.cell a t]) (hb : tmps.getD a undef = .pointer (some ⟨b, 0, none⟩)) (hB : Blk w b cs e) (hl : cs.length = sz) :
    (results fn tmps).run P w = .ok (.agg cs.toArray) w := by
  have := run_loadCellsFrom (P := P) cs (hB.row0) sz 0 #[] (by omega) rfl
  have hb' : tmps[a]?.getD undef = .pointer (some ⟨b, 0, none⟩) := by simpa using hb
  simp [results, h, hb', asAddr, loadVar, run_isAgg_yes, run_sizeOf ht.size, loadCells, this]
theorem results_cell1 {fn : Func} {a : Tmp} {t : TypeId} {tmps : Array Value} {w : World} {b : Nat} {v : Value} {e : TypeId} [ht : ScalarTy P t] (h : fn.results = #[.cell a t]) (hb : tmps.getD a undef = .pointer (some ⟨b, 0, none⟩)) (hB : Blk w b [v] e) :
    (results fn tmps).run P w = .ok v w := by
  have hc := hB.cell (o := 0) rfl
  have hb' : tmps[a]?.getD undef = .pointer (some ⟨b, 0, none⟩) := by simpa using hb
  simp [results, h, hb', asAddr, loadVar, run_isAgg_no, hc]
theorem ND_retC {fn : Func} {K : Value → List Ent → List Imm → Prop} {ex : Exit} {a : Tmp} {t : TypeId} {sz b : Nat} {cs : List Value} {e : TypeId} [AggTy P t sz] (he : ex = .ret ∨ ex = .normal) (hr : fn.results = #[.cell a t]) (hv : lk G a = some (.pointer (some ⟨b, 0, none⟩))) (hm : .blk b cs e ∈ M) (hl : cs.length = sz) (M' : List Ent) (I' : List Imm) (hM : SubP M M') (hI : Inc I I') (h : K (.agg cs.toArray) M' I') :
    ND n (Body P fn (KB K X w0)) ex G X w0 M I := ⟨fun w hw => ⟨fun act ha => by
  unfold Body
  have e1 : act.tmps.getD a undef = .pointer (some ⟨b, 0, none⟩) := by simp [ha.get a _ hv]
  have e2 := results_cellN (P := P) (t := t) hr e1 (hw.blk hm) hl
  rcases he with rfl | rfl <;> exact ⟨ha.defers, _, e2, _, rfl, M', I', h, hw.weak hM hI⟩⟩⟩
/-- ints of a struct -/
theorem Const_eqR {C : World → Prop} {ty t t' : TypeId} {x y : Operand} {α : Type} {enc : α → List Value} {ints : α → List Int} {a b : α} {m : Nat} [ht : IntStruct P t m] (he : ∀ u, enc u = i64s (ints u)) (hinj : ∀ u v, ints u = ints v → u = v) (hl : ∀ u, (ints u).length = m) (hd : Decidable (a = b)) (hx : ev G x = some (.agg (enc a).toArray)) (hy : ev G y = some (.agg (enc b).toArray)) :
    Const P n G (.binOp .eql t x y t') ty C (.bool (@B (a = b) hd)) := by
  rw [he] at hx hy
  have := Const_eqI (t := t) (P := P) (n := n) (G := G) (ty := ty) (C := C) (t' := t') hx hy (hl a) (hl b)
  rwa [B_congr (show ints a = ints b ↔ a = b from ⟨hinj a b, fun h => by rw [h]⟩)] at this
theorem Const_neR {C : World → Prop} {ty t t' : TypeId} {x y : Operand} {α : Type} {enc : α → List Value} {ints : α → List Int} {a b : α} {m : Nat} [ht : IntStruct P t m] (he : ∀ u, enc u = i64s (ints u)) (hinj : ∀ u v, ints u = ints v → u = v) (hl : ∀ u, (ints u).length = m) (hd : Decidable (a ≠ b)) (hx : ev G x = some (.agg (enc a).toArray)) (hy : ev G y = some (.agg (enc b).toArray)) :
    Const P n G (.binOp .neq t x y t') ty C (.bool (@B (a ≠ b) hd)) := by
  rw [he] at hx hy
  have := Const_neI (t := t) (P := P) (n := n) (G := G) (ty := ty) (C := C) (t' := t') hx hy (hl a) (hl b)
  rwa [B_congr (show ints a ≠ ints b ↔ a ≠ b from ⟨fun h e => h (by rw [e]), fun h e => h (hinj a b e)⟩)] at this
end
end Go.Fx

/- The symbolic heap, continued: regions with stores behind all reads, cells with a tail, rows as blocks. -/
import Derived.Test.YtefkpnhhmjdcnaaFm
namespace Go.Fx

/-- a region whose reads all come ahead of what it turns -/
def Cs1 (X : List Nat) (w0 : World) (M : List Ent) (I : List Imm) : Nat → World → Prop
  | 0, w => Mem X w0 M I w
  | _ + 1, _ => True
section
variable {P : Program} {n : Nat} {Q Q' : Exit → Act → World → Prop} {G : Env} {X : List Nat} {w0 : World} {M M' M1 : List Ent} {I I' I1 : List Imm}
theorem TD_drawn1 {id : Nat} {l : List Oper} (p ms : List Nat) (hx : P.follows .mixedOrders = true)
    (hp : (Region.noSelect l.toArray && orderOk l.toArray p ms (Array.replicate l.length false) && p.length == l.length) = true)
    (h : RD P n l Q (.any (Cs1 X w0 M I) 0 ms) (pick l p) G X w0 M I) : TD P n (.region id l.toArray true) Q G X w0 M I :=
  TD_drawnS (Cs1 X w0 M I) p ms hx (fun _ _ _ => True.intro) hp (fun _ h => h) h
theorem View.one {k : Nat} {ms : List Nat} (h : k + ms.headD 0 = 0) : View (.any (Cs1 X w0 M1 I1) k ms) X w0 M I M1 I1 := ⟨fun w w' _ hc => by
  have hc' : Cs1 X w0 M1 I1 (k + ms.headD 0) w' := hc
  rw [h] at hc'
  exact hc'⟩
theorem OkD.one {k : Nat} {ms : List Nat} : OkD (.any (Cs1 X w0 M1 I1) k ms) X w0 M I := ⟨fun _ _ => True.intro⟩

/- cells with a tail -/
theorem At.app {cs tl : List Value} {o : Nat} {v : Value} (h : At cs o v) : At (cs ++ tl) o v := ⟨by
  have := h.get
  rw [List.getElem?_append_left (List.getElem?_eq_some_iff.1 this).1]; exact this⟩
theorem Ats.app {cs tl vs : List Value} {o : Nat} (h : Ats cs o vs) : Ats (cs ++ tl) o vs := ⟨fun j v hj => by
  have := h.get j v hj
  rw [List.getElem?_append_left (List.getElem?_eq_some_iff.1 this).1]; exact this⟩
theorem StAt.app {cs cs' tl : List Value} {o : Nat} {v : Value} (h : StAt cs o v cs') : StAt (cs ++ tl) o v (cs' ++ tl) := by
  obtain ⟨h1, h2⟩ := h.out
  exact ⟨by rw [List.set_append_left _ _ h2, h1], by rw [List.length_append]; omega⟩
theorem StAts.app {cs cs' tl vs : List Value} {o : Nat} (h : StAts cs o vs cs') : StAts (cs ++ tl) o vs (cs' ++ tl) := by
  obtain ⟨h1, h2⟩ := h.out
  refine ⟨?_, by rw [List.length_append]; omega⟩
  unfold splice at *
  rw [List.take_append_of_le_length (by omega), List.drop_append_of_le_length (by omega), ← h1]
  simp
/-- what a row's slice holds, as a block -/
theorem Mem.rowBlk {w : World} {a : Option Addr} {mm c : Nat} {cs : List Value} {e : TypeId} {sz : Nat} (h : Mem X w0 (.row a mm c cs e sz :: M) I w) : (a = none ∧ mm = 0 ∧ cs = []) ∨ ∃ b tl, a = some ⟨b, 0, none⟩ ∧ mm ≤ c ∧ Mem X w0 (.blk b (cs ++ tl) e :: M) I w := by
  have ho : w.ownsRow 0 e sz (.slice a mm c) mm cs := h.ent _ List.mem_cons_self
  rcases ho.2 with ⟨h1, h2⟩ | ⟨g, cap, cur, hv, _, hg, hmc, _, hsz, htake⟩
  · injection h1 with e1 e2 e3
    exact .inl ⟨e1, h2, List.eq_nil_of_length_eq_zero (by rw [ho.1, h2]; simp)⟩
  · injection hv with e1 e2 e3
    subst e1; subst e3
    refine .inr ⟨g, cur.toList.drop (mm * sz), rfl, hmc, ?_⟩
    have hcs : cs ++ cur.toList.drop (mm * sz) = cur.toList := by rw [← htake, List.take_append_drop]
    rw [hcs]
    refine h.upd (en := .row (some ⟨g, 0, none⟩) mm c cs e sz) (en' := .blk g cur.toList e) .here (Ext.refl _ _) (fun b hb => .inl (by simpa [Ent.blocks] using hb)) (by simp [Ent.blocks]) ?_
    show Blk w g cur.toList e
    simpa [Blk] using hg
theorem TD_rowBlk {c' : Code} {a : Option Addr} {mm c : Nat} {cs : List Value} {e : TypeId} {sz : Nat} (h0 : a = none → mm = 0 → cs = [] → TD P n c' Q G X w0 (.row a mm c cs e sz :: M) I) (h1 : ∀ b tl, a = some ⟨b, 0, none⟩ → mm ≤ c → TD P n c' Q G X w0 (.blk b (cs ++ tl) e :: M) I) : TD P n c' Q G X w0 (.row a mm c cs e sz :: M) I :=
  ⟨fun w hw => by
    rcases hw.rowBlk with ⟨e1, e2, e3⟩ | ⟨b, tl, e1, e2, hm⟩
    · exact (h0 e1 e2 e3).go w hw
    · exact (h1 b tl e1 e2).go w hm⟩
theorem RD_rowBlk {ops l : List Oper} {m : Mode} {a : Option Addr} {mm c : Nat} {cs : List Value} {e : TypeId} {sz : Nat} (h0 : a = none → mm = 0 → cs = [] → RD P n ops Q m l G X w0 (.row a mm c cs e sz :: M) I) (h1 : ∀ b tl, a = some ⟨b, 0, none⟩ → mm ≤ c → RD P n ops Q m l G X w0 (.blk b (cs ++ tl) e :: M) I) : RD P n ops Q m l G X w0 (.row a mm c cs e sz :: M) I :=
  ⟨fun w hw => by
    rcases hw.rowBlk with ⟨e1, e2, e3⟩ | ⟨b, tl, e1, e2, hm⟩
    · exact (h0 e1 e2 e3).go w hw
    · exact (h1 b tl e1 e2).go w hm⟩
/-- a part of what is read -/
theorem Mem.takeI {w : World} {a : Option Addr} {cs tl : List Value} (h : Mem X w0 M I w) (hm : slI a (cs ++ tl) ∈ I) : Mem X w0 M (slI a cs :: I) w :=
  h.add (φ := slI a cs) ⟨by
    have := (h.sl hm).take cs.length
    rwa [List.take_left] at this⟩
theorem ND_takeI {ex : Exit} {a : Option Addr} {cs tl : List Value} (hm : slI a (cs ++ tl) ∈ I) (h : ND n Q ex G X w0 M (slI a cs :: I)) : ND n Q ex G X w0 M I := ND_m (fun _ hw => hw.takeI hm) h
theorem RD_takeI {ops l : List Oper} {m : Mode} {a : Option Addr} {cs tl : List Value} (hm : slI a (cs ++ tl) ∈ I) (h : RD P n ops Q m l G X w0 M (slI a cs :: I)) : RD P n ops Q m l G X w0 M I := RD_m (fun _ hw => hw.takeI hm) h
theorem Mem.noTail {w : World} {b : Nat} {cs : List Value} {e : TypeId} (h : Mem X w0 (.blk b cs e :: M) I w) : Mem X w0 (.blk b (cs ++ []) e :: M) I w := by rwa [List.append_nil]
theorem TD_noTail {c : Code} {b : Nat} {cs : List Value} {e : TypeId} (h : TD P n c Q G X w0 (.blk b (cs ++ []) e :: M) I) : TD P n c Q G X w0 (.blk b cs e :: M) I := TD_m (fun _ hw => hw.noTail) h
theorem RD_noTail {ops l : List Oper} {m : Mode} {b : Nat} {cs : List Value} {e : TypeId} (h : RD P n ops Q m l G X w0 (.blk b (cs ++ []) e :: M) I) : RD P n ops Q m l G X w0 (.blk b cs e :: M) I := RD_m (fun _ hw => hw.noTail) h
/-- a fact that the heap gives -/
theorem ND_fact {φ : Prop} {ex : Exit} (h : ∀ w, Mem X w0 M I w → φ) (k : φ → ND n Q ex G X w0 M I) : ND n Q ex G X w0 M I := ⟨fun w hw => (k (h w hw)).go w hw⟩
theorem TD_fact {φ : Prop} {c : Code} (h : ∀ w, Mem X w0 M I w → φ) (k : φ → TD P n c Q G X w0 M I) : TD P n c Q G X w0 M I := ⟨fun w hw => (k (h w hw)).go w hw⟩
theorem RD_fact {φ : Prop} {ops l : List Oper} {m : Mode} (h : ∀ w, Mem X w0 M I w → φ) (k : φ → RD P n ops Q m l G X w0 M I) : RD P n ops Q m l G X w0 M I := ⟨fun w hw => (k (h w hw)).go w hw⟩
/-- a call with entries brought to the front -/
theorem CD.sub {f : FuncId} {vs : List Value} {K : Value → List Ent → List Imm → Prop} (hM : SubP M M') (h : CD P f vs X w0 M' I K) : CD P f vs X w0 M I K := h.weak hM .refl
/-- a shift by one to the right -/
theorem Const_half {C : World → Prop} {ty : TypeId} {t t' : TypeId} {x y : Operand} {k k' : IntKind} {a : Int} (hx : ev G x = some (.int k a)) (hy : ev G y = some (.int k' 1)) : Const P n G (.binOp .shr t x y t') ty C (.int k (a / 2)) := by
  refine Const_shift hx hy (by omega) (.inr ⟨rfl, ?_⟩)
  have : min ((1 : Int).toNat) k.bits = 1 := by cases k <;> decide
  rw [this, Int.fdiv_eq_ediv_of_nonneg _ (by decide)]
  rfl
theorem Const_notB {C : World → Prop} {ty : TypeId} {t : TypeId} {x : Operand} {p : Prop} [Decidable p] (hx : ev G x = some (.bool (B p))) : Const P n G (.unOp .not t x) ty C (.bool (B (¬ p))) := by
  have := Const_pure (P := P) (n := n) (G := G) (ty := ty) (C := C) (op := .unOp .not t x) (v := .bool (!(B p))) (by simp [pureV, hx])
  rwa [show (!(B p)) = B (¬ p) by rw [B_eq, B_eq]; simp] at this
/-- reading what is only read, at a block's own address -/
theorem RD_ldIB {ops l : List Oper} {m : Mode} {ty : TypeId} {pos : String} {af : Array Edge} {g : Option (Nat × Bool)} {d : Nat} {t : TypeId} {x : Operand} {b o : Nat} {cs : List Value} {v : Value} [ScalarTy P t] (hv : View m X w0 M I M1 I1) (hx : ev G x = some (.pointer (some ⟨b, o, none⟩))) (hm : slI (some ⟨b, 0, none⟩) cs ∈ I1) (hc : At cs o v) (hg : gst ops G g = some true)
    (hd : Nat.ble (d + 1) n = true) (k : RD P n ops Q m.next l ((d, v) :: G) X w0 M I) : RD P n ops Q m (⟨some d, .load t x, ty, pos, af, g⟩ :: l) G X w0 M I :=
  RD_v hv hg (fun w hw => Const_load hx (fun w' e => by
    subst e
    have := (hw.sl hm).cell hc.get
    simpa [pt, bl, of] using this)) rfl hd k
theorem RD_ldNIB {ops l : List Oper} {m : Mode} {ty : TypeId} {pos : String} {af : Array Edge} {g : Option (Nat × Bool)} {d : Nat} {t : TypeId} {sz : Nat} {x : Operand} {b o : Nat} {cs vs : List Value} [AggTy P t sz] (hv : View m X w0 M I M1 I1) (hx : ev G x = some (.pointer (some ⟨b, o, none⟩))) (hm : slI (some ⟨b, 0, none⟩) cs ∈ I1) (hc : Ats cs o vs) (hl : vs.length = sz) (hg : gst ops G g = some true)
    (hd : Nat.ble (d + 1) n = true) (k : RD P n ops Q m.next l ((d, .agg vs.toArray) :: G) X w0 M I) : RD P n ops Q m (⟨some d, .load t x, ty, pos, af, g⟩ :: l) G X w0 M I :=
  RD_v hv hg (fun w hw => Const_loadN hx hl (fun w' e => by
    subst e
    have := Sl.rowAt (hw.sl hm) o vs hc.get
    simpa [bl, of] using this)) rfl hd k
end
end Go.Fx

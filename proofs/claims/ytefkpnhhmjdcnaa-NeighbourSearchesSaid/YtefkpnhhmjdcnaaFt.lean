/- The symbolic heap, continued: drawn regions whose reads come ahead of all but the first few effects. -/
import Derived.Test.YtefkpnhhmjdcnaaFs
namespace Go.Fx
def CsJ (J : Nat) (X : List Nat) (w0 : World) (M : List Ent) (I : List Imm) : Nat → World → Prop := fun s w => s ≤ J → Mem X w0 M I w
section
variable {P : Program} {n : Nat} {Q Q' : Exit → Act → World → Prop} {G : Env} {X : List Nat} {w0 : World} {M M' M1 : List Ent} {I I' I1 : List Imm}
theorem TD_drawnJ {id : Nat} {l : List Oper} (J : Nat) (p ms : List Nat) (hx : P.follows .mixedOrders = true)
    (hp : (Region.noSelect l.toArray && orderOk l.toArray p ms (Array.replicate l.length false) && p.length == l.length) = true)
    (h : RD P n l Q (.any (CsJ J X w0 M I) 0 ms) (pick l p) G X w0 M I) : TD P n (.region id l.toArray true) Q G X w0 M I :=
  TD_drawnS (CsJ J X w0 M I) p ms hx (fun s w h hs => h (by omega)) hp (fun _ h _ => h) h
theorem View.upto {J k : Nat} {ms : List Nat} (h : k + ms.headD 0 ≤ J) : View (.any (CsJ J X w0 M1 I1) k ms) X w0 M I M1 I1 := ⟨fun w w' _ hc => by
  have hc' : CsJ J X w0 M1 I1 (k + ms.headD 0) w' := hc
  exact hc' h⟩
theorem OkD.uptoN {J k : Nat} {ms : List Nat} (h : J ≤ k) : OkD (.any (CsJ J X w0 M1 I1) k ms) X w0 M I := ⟨fun w _ => by
  show CsJ J X w0 M1 I1 (k + 1) w
  intro hs
  omega⟩
theorem OkD.uptoY {J k : Nat} {ms : List Nat} (hM : SubP M M1) (hI : Inc I I1) : OkD (.any (CsJ J X w0 M1 I1) k ms) X w0 M I := ⟨fun w hw => by
  show CsJ J X w0 M1 I1 (k + 1) w
  exact fun _ => hw.weak hM hI⟩
theorem vwJ {m : Mode} (h : View m X w0 M I M1 I1 := by first | exact View.seq | exact View.any | exact View.one rfl | exact View.upto (by decide)) : View m X w0 M I M1 I1 := h
theorem okJ {m : Mode} (h : OkD m X w0 M I := by first | exact OkD.seq | exact OkD.one | exact OkD.any subP incL | exact OkD.uptoN (by decide) | exact OkD.uptoY subP incL) : OkD m X w0 M I := h
/- lending: what a function owns, lent to a callee that only reads -/
theorem Mem.lendB {w : World} {b : Nat} {cs : List Value} {e : TypeId} {I2 : List Imm} (hm : .blk b cs e ∈ M) (hw : Mem X w0 M I w) (h : Mem [] w [] I2 w) : Mem [] w [] (slI (some ⟨b, 0, none⟩) cs :: I2) w :=
  h.add (φ := slI (some ⟨b, 0, none⟩) cs) ⟨Blk.sl (X := muts []) (hw.blk hm) (by simp [muts]) 0 (fun j v hj => by simpa using hj)⟩
theorem Mem.lendR {w : World} {a : Option Addr} {mm c : Nat} {cs : List Value} {e : TypeId} {sz : Nat} {I2 : List Imm} (hm : .row a mm c cs e sz ∈ M) (hw : Mem X w0 M I w) (h : Mem [] w [] I2 w) : Mem [] w [] (slI a cs :: I2) w :=
  h.add (φ := slI a cs) ⟨(hw.rowS hm).1⟩
theorem Mem.lendI {w : World} {a : Option Addr} {cs : List Value} {I2 : List Imm} (hm : slI a cs ∈ I) (hw : Mem X w0 M I w) (h : Mem [] w [] I2 w) : Mem [] w [] (slI a cs :: I2) w :=
  h.add (φ := slI a cs) ⟨(hw.sl hm).less (fun _ hk => by simp [muts] at hk)⟩
theorem CD.lend {f : FuncId} {vs : List Value} {K : Value → Prop} (I2 : List Imm) (hI : ∀ w, Mem X w0 M I w → Mem [] w [] I2 w) (hc : ∀ W, CD P f vs [] W [] I2 (fun v _ _ => K v)) : CD P f vs X w0 M I (fun v M' I' => M = M' ∧ I = I' ∧ K v) :=
  ⟨fun w hw => ((hc w).go w (hI w hw)).mono (fun _ _ ⟨_, _, hk, hm⟩ => ⟨M, I, ⟨rfl, rfl, hk⟩, hw.call hm.ext⟩)⟩
theorem CD.val {f : FuncId} {vs : List Value} {K : Value → Prop} (h : CD P f vs X w0 M I (fun v M' I' => M = M' ∧ I = I' ∧ K v)) : CD P f vs X w0 M I (fun v _ _ => K v) := h.mono (fun _ _ _ h => h.2.2)
end
end Go.Fx

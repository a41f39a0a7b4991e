/- The walk, kept once. Forest: sorting at most 12 numbers. Forest: insertion sort of numbers, Sort. slices.Values, AppendSeq, Collect, Sorted at ints. -/
import Derived.Test.YtjbhdfpjnjedhaaGreatZpam
import Derived.Test.YtjbhdfpjnjedhaaGreatZpag
import Derived.Test.YtjbhdfpjnjedhaaGreatZpal
import Derived.RangeFuncBox
import Derived.Maps.AppendAt
set_option linter.unusedSimpArgs false
set_option linter.unusedVariables false
set_option maxRecDepth 100000
set_option maxHeartbeats 4000000
namespace Go.Fx
theorem aK {p g : Prop} (h : g) (w : BoxP g → p := by (intro hh; (first | refine aG ?_ | refine aJ ?_ | refine jL ?_ | refine iD ?_ | refine fK ?_ | refine fG ?_ | refine iE ?_ | refine gW ?_ | refine fJ ?_ | refine fH ?_ | refine jP ?_ | refine jM ?_ | refine jQ ?_ | refine jN rfl ?_ | refine bH ?_ | (refine gI ?_; first | refine gU rfl rfl rfl ?_ | (refine gM rfl rfl ?_; refine fC rfl rfl rfl okF ?_) | refine gD rfl rfl (by omega) ?_ | refine gP rfl rfl (by omega) ?_) | (refine bR ?_; refine aF rfl (fun _ => dH rfl) rfl rfl ?_) | refine aF rfl (fun _ => bF rfl) rfl rfl ?_ | (refine gL ?_; first | refine aF rfl (fun _ => bM rfl rfl wF) rfl rfl ?_ | refine aF rfl (fun _ => bK rfl rfl wF) rfl rfl ?_ | refine aF rfl (fun _ => eO rfl rfl wF) rfl rfl ?_ | refine aF rfl (fun _ => eF rfl rfl (by omega) qF) rfl rfl ?_ | refine aF rfl (fun _ => dZ rfl rfl (by omega) rfl) rfl rfl ?_ | refine aF rfl (fun _ => dK rfl rfl) rfl rfl ?_ | refine aF rfl (fun _ => dV rfl rfl) rfl rfl ?_ | refine aF rfl (fun _ => dW rfl rfl) rfl rfl ?_ | refine aF rfl (fun _ => sF rfl rfl) rfl rfl ?_ | refine aF rfl (fun _ => uV rfl rfl) rfl rfl ?_) | (refine bR ?_; first | refine aF rfl (fun _ => dX rfl wF) rfl rfl ?_) | (refine gJ ?_; first | refine aF rfl (fun _ => dC rfl wF) rfl rfl ?_) | (refine gG ?_; first | refine aF rfl (fun _ => bL rfl) rfl rfl ?_ | refine aF rfl (fun _ => dJ rfl rfl) rfl rfl ?_ | refine aF rfl (fun _ => dL rfl rfl) rfl rfl ?_ | refine aF rfl (fun _ => dM rfl rfl rfl) rfl rfl ?_) | (refine gN ?_; first | refine fZ rfl (by decide) rfl rfl ?_ | refine iY rfl (by decide) rfl rfl ?_) | (refine gK ?_; first | refine aF rfl (fun _ => dB rfl) rfl rfl ?_) | (refine gH ?_; first | refine jA rfl rfl iK rfl rfl ?_ | refine iX iG rfl rfl iK aB jD rfl rfl ?_ | refine iV iG rfl rfl iK aB jD rfl rfl ?_ | refine aF rfl (fun _ => bP rfl rfl iK) rfl rfl ?_) | (refine gT ?_; first | (apply lV; exact iG; exact rfl; (focus ((repeat (first | with_reducible exact List.mem_cons_self | with_reducible assumption | with_reducible refine List.mem_cons_of_mem _ ?_)); done)); exact atY; exact rfl; exact rfl) | (apply lM; exact iG; exact rfl; (focus ((repeat (first | with_reducible exact List.mem_cons_self | with_reducible assumption | with_reducible refine List.mem_cons_of_mem _ ?_)); done)); exact atY; exact rfl; exact rfl) | (apply nD; exact iG; exact rfl; (focus ((repeat (first | with_reducible exact List.mem_cons_self | with_reducible assumption | with_reducible refine List.mem_cons_of_mem _ ?_)); done)); exact atY; exact rfl; exact rfl) | (apply nM; exact iG; exact rfl; (focus ((repeat (first | with_reducible exact List.mem_cons_self | with_reducible assumption | with_reducible refine List.mem_cons_of_mem _ ?_)); done)); exact atY; exact rfl; exact rfl) | (apply fU; exact iG; exact rfl; (focus ((repeat (first | with_reducible exact List.mem_cons_self | with_reducible assumption | with_reducible refine List.mem_cons_of_mem _ ?_)); done)); exact pI; exact rfl; exact rfl) | (apply gQ; exact iG; exact rfl; (focus ((repeat (first | with_reducible exact List.mem_cons_self | with_reducible assumption | with_reducible refine List.mem_cons_of_mem _ ?_)); done)); exact pI; exact rfl; exact rfl) | (apply iW; exact iG; exact rfl; (focus ((repeat (first | with_reducible exact List.mem_cons_self | with_reducible assumption | with_reducible refine List.mem_cons_of_mem _ ?_)); done)); exact pI; exact rfl; exact rfl) | (apply iU; exact iG; exact rfl; (focus ((repeat (first | with_reducible exact List.mem_cons_self | with_reducible assumption | with_reducible refine List.mem_cons_of_mem _ ?_)); done)); exact pI; exact rfl; exact rfl)) | (refine fV ?_; first | refine aF rfl (fun _ => bQ rfl rfl) rfl rfl ?_ | refine aF rfl (fun _ => bI rfl) rfl rfl ?_) | (refine iO ?_; first | refine kI rfl rfl rfl lN stC rfl rfl ⟨okF, ?_⟩ | refine iC rfl rfl fE rE lN qP rfl rfl ⟨okF, ?_⟩) | (refine iF ?_; first | refine cK rfl ?_ | refine bN rfl ?_ | refine jR rfl (by omega) ?_ | refine mD rfl (by omega) ?_)); (repeat (first | refine aG ?_ | refine aJ ?_ | refine jL ?_ | refine iD ?_ | refine fK ?_ | refine fG ?_ | refine iE ?_ | refine gW ?_ | refine fJ ?_ | refine fH ?_ | refine jP ?_ | refine jM ?_ | refine jQ ?_ | refine jN rfl ?_ | refine bH ?_ | (refine gI ?_; first | refine gU rfl rfl rfl ?_ | (refine gM rfl rfl ?_; refine fC rfl rfl rfl okF ?_) | refine gD rfl rfl (by omega) ?_ | refine gP rfl rfl (by omega) ?_) | (refine bR ?_; refine aF rfl (fun _ => dH rfl) rfl rfl ?_) | refine aF rfl (fun _ => bF rfl) rfl rfl ?_ | (refine gL ?_; first | refine aF rfl (fun _ => bM rfl rfl wF) rfl rfl ?_ | refine aF rfl (fun _ => bK rfl rfl wF) rfl rfl ?_ | refine aF rfl (fun _ => eO rfl rfl wF) rfl rfl ?_ | refine aF rfl (fun _ => eF rfl rfl (by omega) qF) rfl rfl ?_ | refine aF rfl (fun _ => dZ rfl rfl (by omega) rfl) rfl rfl ?_ | refine aF rfl (fun _ => dK rfl rfl) rfl rfl ?_ | refine aF rfl (fun _ => dV rfl rfl) rfl rfl ?_ | refine aF rfl (fun _ => dW rfl rfl) rfl rfl ?_ | refine aF rfl (fun _ => sF rfl rfl) rfl rfl ?_ | refine aF rfl (fun _ => uV rfl rfl) rfl rfl ?_) | (refine bR ?_; first | refine aF rfl (fun _ => dX rfl wF) rfl rfl ?_) | (refine gJ ?_; first | refine aF rfl (fun _ => dC rfl wF) rfl rfl ?_) | (refine gG ?_; first | refine aF rfl (fun _ => bL rfl) rfl rfl ?_ | refine aF rfl (fun _ => dJ rfl rfl) rfl rfl ?_ | refine aF rfl (fun _ => dL rfl rfl) rfl rfl ?_ | refine aF rfl (fun _ => dM rfl rfl rfl) rfl rfl ?_) | (refine gN ?_; first | refine fZ rfl (by decide) rfl rfl ?_ | refine iY rfl (by decide) rfl rfl ?_) | (refine gK ?_; first | refine aF rfl (fun _ => dB rfl) rfl rfl ?_) | (refine gH ?_; first | refine jA rfl rfl iK rfl rfl ?_ | refine iX iG rfl rfl iK aB jD rfl rfl ?_ | refine iV iG rfl rfl iK aB jD rfl rfl ?_ | refine aF rfl (fun _ => bP rfl rfl iK) rfl rfl ?_) | (refine gT ?_; first | (apply lV; exact iG; exact rfl; (focus ((repeat (first | with_reducible exact List.mem_cons_self | with_reducible assumption | with_reducible refine List.mem_cons_of_mem _ ?_)); done)); exact atY; exact rfl; exact rfl) | (apply lM; exact iG; exact rfl; (focus ((repeat (first | with_reducible exact List.mem_cons_self | with_reducible assumption | with_reducible refine List.mem_cons_of_mem _ ?_)); done)); exact atY; exact rfl; exact rfl) | (apply nD; exact iG; exact rfl; (focus ((repeat (first | with_reducible exact List.mem_cons_self | with_reducible assumption | with_reducible refine List.mem_cons_of_mem _ ?_)); done)); exact atY; exact rfl; exact rfl) | (apply nM; exact iG; exact rfl; (focus ((repeat (first | with_reducible exact List.mem_cons_self | with_reducible assumption | with_reducible refine List.mem_cons_of_mem _ ?_)); done)); exact atY; exact rfl; exact rfl) | (apply fU; exact iG; exact rfl; (focus ((repeat (first | with_reducible exact List.mem_cons_self | with_reducible assumption | with_reducible refine List.mem_cons_of_mem _ ?_)); done)); exact pI; exact rfl; exact rfl) | (apply gQ; exact iG; exact rfl; (focus ((repeat (first | with_reducible exact List.mem_cons_self | with_reducible assumption | with_reducible refine List.mem_cons_of_mem _ ?_)); done)); exact pI; exact rfl; exact rfl) | (apply iW; exact iG; exact rfl; (focus ((repeat (first | with_reducible exact List.mem_cons_self | with_reducible assumption | with_reducible refine List.mem_cons_of_mem _ ?_)); done)); exact pI; exact rfl; exact rfl) | (apply iU; exact iG; exact rfl; (focus ((repeat (first | with_reducible exact List.mem_cons_self | with_reducible assumption | with_reducible refine List.mem_cons_of_mem _ ?_)); done)); exact pI; exact rfl; exact rfl)) | (refine fV ?_; first | refine aF rfl (fun _ => bQ rfl rfl) rfl rfl ?_ | refine aF rfl (fun _ => bI rfl) rfl rfl ?_) | (refine iO ?_; first | refine kI rfl rfl rfl lN stC rfl rfl ⟨okF, ?_⟩ | refine iC rfl rfl fE rE lN qP rfl rfl ⟨okF, ?_⟩) | (refine iF ?_; first | refine cK rfl ?_ | refine bN rfl ?_ | refine jR rfl (by omega) ?_ | refine mD rfl (by omega) ?_))); exact hh.out)) : p := w ⟨h⟩
theorem yXh {p g : Prop} (h : g) (w : BoxP g → p := by (intro hh; (first | refine aG ?_ | refine aJ ?_ | refine jL ?_ | refine iD ?_ | refine fK ?_ | refine fG ?_ | refine iE ?_ | refine gW ?_ | refine fJ ?_ | refine fH ?_ | refine jP ?_ | refine jM ?_ | refine jQ ?_ | refine jN rfl ?_ | refine bH ?_ | (refine gI ?_; first | refine gU rfl rfl rfl ?_ | (refine gM rfl rfl ?_; refine fC rfl rfl rfl okF ?_) | refine gD rfl rfl (by omega) ?_ | refine gP rfl rfl (by omega) ?_) | (refine bR ?_; refine aF rfl (fun _ => dH rfl) rfl rfl ?_) | refine aF rfl (fun _ => bF rfl) rfl rfl ?_ | (refine gL ?_; first | refine aF rfl (fun _ => bM rfl rfl wF) rfl rfl ?_ | refine aF rfl (fun _ => bK rfl rfl wF) rfl rfl ?_ | refine aF rfl (fun _ => eO rfl rfl wF) rfl rfl ?_ | refine aF rfl (fun _ => eF rfl rfl (by omega) qF) rfl rfl ?_ | refine aF rfl (fun _ => dZ rfl rfl (by omega) rfl) rfl rfl ?_ | refine aF rfl (fun _ => dK rfl rfl) rfl rfl ?_ | refine aF rfl (fun _ => dV rfl rfl) rfl rfl ?_ | refine aF rfl (fun _ => dW rfl rfl) rfl rfl ?_ | refine aF rfl (fun _ => sF rfl rfl) rfl rfl ?_ | refine aF rfl (fun _ => uV rfl rfl) rfl rfl ?_) | (refine bR ?_; first | refine aF rfl (fun _ => dX rfl wF) rfl rfl ?_) | (refine gJ ?_; first | refine aF rfl (fun _ => dC rfl wF) rfl rfl ?_) | (refine gG ?_; first | refine aF rfl (fun _ => bL rfl) rfl rfl ?_ | refine aF rfl (fun _ => dJ rfl rfl) rfl rfl ?_ | refine aF rfl (fun _ => dL rfl rfl) rfl rfl ?_ | refine aF rfl (fun _ => dM rfl rfl rfl) rfl rfl ?_) | (refine gN ?_; first | refine fZ rfl (by decide) rfl rfl ?_ | refine iY rfl (by decide) rfl rfl ?_) | (refine gK ?_; first | refine aF rfl (fun _ => dB rfl) rfl rfl ?_) | (refine gH ?_; first | refine jA rfl rfl iK rfl rfl ?_ | refine iX iG rfl rfl iK aB jD rfl rfl ?_ | refine iV iG rfl rfl iK aB jD rfl rfl ?_ | refine aF rfl (fun _ => bP rfl rfl iK) rfl rfl ?_) | (refine gT ?_; first | (apply lV; exact iG; exact rfl; (focus ((repeat (first | with_reducible exact List.mem_cons_self | with_reducible assumption | with_reducible refine List.mem_cons_of_mem _ ?_)); done)); exact atY; exact rfl; exact rfl) | (apply lM; exact iG; exact rfl; (focus ((repeat (first | with_reducible exact List.mem_cons_self | with_reducible assumption | with_reducible refine List.mem_cons_of_mem _ ?_)); done)); exact atY; exact rfl; exact rfl) | (apply nD; exact iG; exact rfl; (focus ((repeat (first | with_reducible exact List.mem_cons_self | with_reducible assumption | with_reducible refine List.mem_cons_of_mem _ ?_)); done)); exact atY; exact rfl; exact rfl) | (apply nM; exact iG; exact rfl; (focus ((repeat (first | with_reducible exact List.mem_cons_self | with_reducible assumption | with_reducible refine List.mem_cons_of_mem _ ?_)); done)); exact atY; exact rfl; exact rfl) | (apply fU; exact iG; exact rfl; (focus ((repeat (first | with_reducible exact List.mem_cons_self | with_reducible assumption | with_reducible refine List.mem_cons_of_mem _ ?_)); done)); exact pI; exact rfl; exact rfl) | (apply gQ; exact iG; exact rfl; (focus ((repeat (first | with_reducible exact List.mem_cons_self | with_reducible assumption | with_reducible refine List.mem_cons_of_mem _ ?_)); done)); exact pI; exact rfl; exact rfl) | (apply iW; exact iG; exact rfl; (focus ((repeat (first | with_reducible exact List.mem_cons_self | with_reducible assumption | with_reducible refine List.mem_cons_of_mem _ ?_)); done)); exact pI; exact rfl; exact rfl) | (apply iU; exact iG; exact rfl; (focus ((repeat (first | with_reducible exact List.mem_cons_self | with_reducible assumption | with_reducible refine List.mem_cons_of_mem _ ?_)); done)); exact pI; exact rfl; exact rfl)) | (refine fV ?_; first | refine aF rfl (fun _ => bQ rfl rfl) rfl rfl ?_ | refine aF rfl (fun _ => bI rfl) rfl rfl ?_) | (refine iF ?_; first | refine cK rfl ?_ | refine bN rfl ?_ | refine jR rfl (by omega) ?_ | refine mD rfl (by omega) ?_)); (repeat (first | refine aG ?_ | refine aJ ?_ | refine jL ?_ | refine iD ?_ | refine fK ?_ | refine fG ?_ | refine iE ?_ | refine gW ?_ | refine fJ ?_ | refine fH ?_ | refine jP ?_ | refine jM ?_ | refine jQ ?_ | refine jN rfl ?_ | refine bH ?_ | (refine gI ?_; first | refine gU rfl rfl rfl ?_ | (refine gM rfl rfl ?_; refine fC rfl rfl rfl okF ?_) | refine gD rfl rfl (by omega) ?_ | refine gP rfl rfl (by omega) ?_) | (refine bR ?_; refine aF rfl (fun _ => dH rfl) rfl rfl ?_) | refine aF rfl (fun _ => bF rfl) rfl rfl ?_ | (refine gL ?_; first | refine aF rfl (fun _ => bM rfl rfl wF) rfl rfl ?_ | refine aF rfl (fun _ => bK rfl rfl wF) rfl rfl ?_ | refine aF rfl (fun _ => eO rfl rfl wF) rfl rfl ?_ | refine aF rfl (fun _ => eF rfl rfl (by omega) qF) rfl rfl ?_ | refine aF rfl (fun _ => dZ rfl rfl (by omega) rfl) rfl rfl ?_ | refine aF rfl (fun _ => dK rfl rfl) rfl rfl ?_ | refine aF rfl (fun _ => dV rfl rfl) rfl rfl ?_ | refine aF rfl (fun _ => dW rfl rfl) rfl rfl ?_ | refine aF rfl (fun _ => sF rfl rfl) rfl rfl ?_ | refine aF rfl (fun _ => uV rfl rfl) rfl rfl ?_) | (refine bR ?_; first | refine aF rfl (fun _ => dX rfl wF) rfl rfl ?_) | (refine gJ ?_; first | refine aF rfl (fun _ => dC rfl wF) rfl rfl ?_) | (refine gG ?_; first | refine aF rfl (fun _ => bL rfl) rfl rfl ?_ | refine aF rfl (fun _ => dJ rfl rfl) rfl rfl ?_ | refine aF rfl (fun _ => dL rfl rfl) rfl rfl ?_ | refine aF rfl (fun _ => dM rfl rfl rfl) rfl rfl ?_) | (refine gN ?_; first | refine fZ rfl (by decide) rfl rfl ?_ | refine iY rfl (by decide) rfl rfl ?_) | (refine gK ?_; first | refine aF rfl (fun _ => dB rfl) rfl rfl ?_) | (refine gH ?_; first | refine jA rfl rfl iK rfl rfl ?_ | refine iX iG rfl rfl iK aB jD rfl rfl ?_ | refine iV iG rfl rfl iK aB jD rfl rfl ?_ | refine aF rfl (fun _ => bP rfl rfl iK) rfl rfl ?_) | (refine gT ?_; first | (apply lV; exact iG; exact rfl; (focus ((repeat (first | with_reducible exact List.mem_cons_self | with_reducible assumption | with_reducible refine List.mem_cons_of_mem _ ?_)); done)); exact atY; exact rfl; exact rfl) | (apply lM; exact iG; exact rfl; (focus ((repeat (first | with_reducible exact List.mem_cons_self | with_reducible assumption | with_reducible refine List.mem_cons_of_mem _ ?_)); done)); exact atY; exact rfl; exact rfl) | (apply nD; exact iG; exact rfl; (focus ((repeat (first | with_reducible exact List.mem_cons_self | with_reducible assumption | with_reducible refine List.mem_cons_of_mem _ ?_)); done)); exact atY; exact rfl; exact rfl) | (apply nM; exact iG; exact rfl; (focus ((repeat (first | with_reducible exact List.mem_cons_self | with_reducible assumption | with_reducible refine List.mem_cons_of_mem _ ?_)); done)); exact atY; exact rfl; exact rfl) | (apply fU; exact iG; exact rfl; (focus ((repeat (first | with_reducible exact List.mem_cons_self | with_reducible assumption | with_reducible refine List.mem_cons_of_mem _ ?_)); done)); exact pI; exact rfl; exact rfl) | (apply gQ; exact iG; exact rfl; (focus ((repeat (first | with_reducible exact List.mem_cons_self | with_reducible assumption | with_reducible refine List.mem_cons_of_mem _ ?_)); done)); exact pI; exact rfl; exact rfl) | (apply iW; exact iG; exact rfl; (focus ((repeat (first | with_reducible exact List.mem_cons_self | with_reducible assumption | with_reducible refine List.mem_cons_of_mem _ ?_)); done)); exact pI; exact rfl; exact rfl) | (apply iU; exact iG; exact rfl; (focus ((repeat (first | with_reducible exact List.mem_cons_self | with_reducible assumption | with_reducible refine List.mem_cons_of_mem _ ?_)); done)); exact pI; exact rfl; exact rfl)) | (refine fV ?_; first | refine aF rfl (fun _ => bQ rfl rfl) rfl rfl ?_ | refine aF rfl (fun _ => bI rfl) rfl rfl ?_) | (refine iF ?_; first | refine cK rfl ?_ | refine bN rfl ?_ | refine jR rfl (by omega) ?_ | refine mD rfl (by omega) ?_))); exact hh.out)) : p := w ⟨h⟩
end Go.Fx
namespace Go.Proofs.YtjbhdfpjnjedhaaGreat
open Go Go.Fx
theorem aAF {P : Program} {n : Nat} {G : Env} {ty : TypeId} {C : World → Prop} {t : TypeId} {x ix : Operand} {s : ByteArray} {k : IntKind} {i : Int} {b : UInt8} [ht : StrTy P t] (hx : ev G x = some (.string s)) (hi : ev G ix = some (.int k i)) (h0 : 0 ≤ i) (hb : s[i.toNat]? = some b) :
  Const P n G (.index t x ix) ty C (.int .u8 b.toNat) := by
 refine ⟨?_⟩
 intro st ha dst pos after guard w _
 simp [execOp, Instr.index, ha.ev hx, ha.ev hi, asIntOf, fF ht.und, h0, hb]
theorem aPH {P : Program} {n : Nat} {ops l : List Oper} {Q : Exit → Act → World → Prop} {m : Fx.Mode} {G : Env} {X : List Nat} {w0 : World} {M : List Ent} {I : List aY} {ty : TypeId} {pos : String} {af : Array Edge} {g : Option (Nat × Bool)} {d : Nat} {t : TypeId} {x ix : Operand} {s : ByteArray} {kk : IntKind} {i : Int} [StrTy P t]
  (hx : ev G x = some (.string s)) (hi : ev G ix = some (.int kk i)) (h0 : 0 ≤ i) (h1 : i.toNat < s.size) (hg : oM ops G g = some true) (hd : Nat.ble (d + 1) n = true)
  (k : ∀ b : Int, 0 ≤ b ∧ b < 256 → RD P n ops Q m.next l ((d, .int .u8 b) :: G) X w0 M I) : RD P n ops Q m (⟨some d, .index t x ix, ty, pos, af, g⟩ :: l) G X w0 M I :=
 aF hg (fun _ => aAF hx hi h0 (getElem?_pos s i.toNat h1)) rfl hd (k _ ⟨Int.natCast_nonneg _, by have := UInt8.toNat_lt (s[i.toNat]'h1); omega⟩)
section
variable {X : List Nat} {w0 : World} {M0 : List Ent} {I0 : List aY}
theorem aQC {x : Int} : CD Tryz.prog 235 [.int .i64 x] X w0 M0 I0 (fun v M I => M0 = M ∧ I0 = I ∧ v = .bool false) := by
 refine aZ Tryz.func235 rfl Tryz.ntmps235 rfl ?_
 repeat (refine aK ?_)
 refine aH (by first | exact .inl rfl | exact .inr rfl) rfl rfl _ _ aD aC (⟨rfl, rfl, congrArg Value.bool (bB (fun h => h rfl))⟩)
theorem aSS {x y : Int} : CD Tryz.prog 210 [.int .i64 x, .int .i64 y] X w0 M0 I0 (fun v M I => M0 = M ∧ I0 = I ∧ v = .bool (B (x < y))) := by
 refine aX Tryz.func210 rfl Tryz.ntmps210 rfl ?_
 repeat (refine aK ?_)
 (refine aA rfl (aQC) rfl rfl ?_; rintro _ _ _ ⟨rfl, rfl, rfl⟩; refine ⟨okF, ?_⟩)
 repeat (refine aK ?_)
 refine aH (by first | exact .inl rfl | exact .inr rfl) rfl rfl _ _ aD aC (⟨rfl, rfl, rfl⟩)
theorem aLX {x : Int} (h0 : 0 ≤ x) (h1 : x < 256) : CD Tryz.prog 214 [.int .u64 x] X w0 M0 I0 (fun v M I => M0 = M ∧ I0 = I ∧ ∃ r : Int, v = .int .i64 r) := by
 refine aZ Tryz.func214 rfl Tryz.ntmps214 rfl ?_
 repeat (refine aK ?_)
 refine aPH rfl rfl h0 (Nat.lt_of_lt_of_eq (show x.toNat < 256 by omega) rfl) rfl rfl (fun b hb => ?_)
 repeat (refine aK ?_)
 refine aH (by first | exact .inl rfl | exact .inr rfl) rfl rfl _ _ aD aC (⟨rfl, rfl, _, rfl⟩)
theorem aUI {x : Int} (h0 : 0 ≤ x) (h1 : x < 256) : CD Tryz.prog 155 [.int .u64 x] X w0 M0 I0 (fun v M I => M0 = M ∧ I0 = I ∧ ∃ r : Int, v = .int .i64 r) := by
 refine aZ Tryz.func155 rfl Tryz.ntmps155 rfl ?_
 repeat (refine aK ?_)
 (refine aA rfl (aLX h0 h1) rfl rfl ?_; rintro _ _ _ ⟨rfl, rfl, r, rfl⟩; refine ⟨okF, ?_⟩)
 repeat (refine aK ?_)
 refine aH (by first | exact .inl rfl | exact .inr rfl) rfl rfl _ _ aD aC (⟨rfl, rfl, r, rfl⟩)
end
end Go.Proofs.YtjbhdfpjnjedhaaGreat
namespace Go.Proofs.YtjbhdfpjnjedhaaGreat
open Go Go.Fx
section
variable {X : List Nat} {w0 : World} {M0 : List Ent} {I0 : List aY}
theorem aTP {b n c : Nat} {tl : List Value} {P B S : List Int} {a z : Int} (hn : n = (P ++ B ++ S).length)
  (ha : a = P.length) (hz : z = P.length + B.length) (hbd : (n : Int) ≤ 1000000) :
  CD Tryz.prog 204 [.slice (some ⟨b, 0, none⟩) n c, .int .i64 a, .int .i64 z] X w0 (.blk b (recs (eI .i64) (P ++ B ++ S) ++ tl) 3 :: M0) I0
   (fun _ M I => .blk b (recs (eI .i64) (P ++ yC id B ++ S) ++ tl) 3 :: M0 = M ∧ I0 = I) := by
 have hlen : (P ++ B ++ S).length = P.length + B.length + S.length := by simp [Nat.add_assoc]
 refine dY Tryz.func204 rfl Tryz.ntmps204 rfl ?_
 repeat (refine wXn ?_)
 refine aT [0, 1, 2] rfl (fun k G M I => ∃ (q : Nat) (i : Int) (D : List Int), i = a + 1 + q ∧ k = B.length - q ∧ (i ≤ z ∨ q = 0) ∧ D = P ++ (yC id (B.take (q + 1)) ++ (B.drop (q + 1) ++ S)) ∧ G = [(6, .int .i64 i)] ∧ M = .blk b (recs (eI .i64) D ++ tl) 3 :: M0 ∧ I0 = I) (B.length) _ _ _ aP bV bT (⟨0, a + 1, _, by omega, by omega, .inr rfl, ?_, rfl, rfl, rfl⟩) ?_
 ·cases B with
  | nil => simp [aKM]
  | cons x r => simp [yC, xO]
 rintro k G M I ⟨q, i, D, hi, rfl, hq, hD, rfl, rfl, rfl⟩
 have hDl : D.length = n := by
  rw [hD, hn]; simp [wK]; omega
 repeat' (first | refine wXn ?_ | refine aM rfl (fun h => ?_) (fun h => ?_) | refine aN rfl rfl (fun h => ?_) (fun h => ?_) | fail)
 ·have hqB : q + 1 < B.length := by omega
  have hx : B.drop (q + 1) = B[q + 1] :: B.drop (q + 2) := List.drop_eq_getElem_cons hqB
  have hxB : B[q + 1] ∈ B := List.getElem_mem hqB
  have htk : B.take (q + 2) = B.take (q + 1) ++ [B[q + 1]] := List.take_succ_eq_append_getElem hqB
  generalize B[q + 1] = x at hx hxB htk
  have hsl := wK id (B.take (q + 1))
  have htl : (B.take (q + 1)).length = q + 1 := by simp; omega
  refine aT [0, 1, 2, 6] rfl (fun k G M I => ∃ (P1 P2 D : List Int) (j : Int), yC id (B.take (q + 1)) = P1 ++ P2 ∧ j = P.length + P1.length ∧ k = P1.length ∧ (∀ y ∈ P2, x < y) ∧ D = (P ++ P1) ++ x :: (P2 ++ (B.drop (q + 2) ++ S)) ∧ G = [(7, .int .i64 j)] ∧ M = .blk b (recs (eI .i64) D ++ tl) 3 :: M0 ∧ I0 = I) (q + 1) _ _ _ aP bV bT (⟨yC id (B.take (q + 1)), [], D, i, by simp, by omega, by omega, by simp, by rw [hD, hx]; simp, rfl, rfl, rfl⟩) ?_
  rintro k G M I ⟨P1, P2, D, j, hs, hj, rfl, hP2, hD', rfl, rfl, rfl⟩
  have hDl' : D.length = n := by
   have := congrArg List.length hs
   rw [hD', hn]; simp at this ⊢; omega
  have hasc := aEZ id (B.take (q + 1))
  rw [hs] at hasc
  have done1 : (∀ y ∈ P1, y ≤ x) → D = P ++ (yC id (B.take (q + 1 + 1)) ++ (B.drop (q + 1 + 1) ++ S)) := fun h1 => by
   rw [show q + 1 + 1 = q + 2 from rfl, htk, aBS, hs, aWB id h1 hP2, hD']
   simp
  have hl2 := congrArg List.length hs
  simp only [List.length_append] at hl2
  by_cases hja : a < j
  ·have hne : P1 ≠ [] := by intro e; subst e; simp at hj; omega
   obtain ⟨Q1, y, rfl⟩ : ∃ Q1 y, P1 = Q1 ++ [y] := ⟨P1.dropLast, P1.getLast hne, (List.dropLast_concat_getLast hne).symm⟩
   have hyB : y ∈ B := by
    have : y ∈ yC id (B.take (q + 1)) := by rw [hs]; simp
    exact List.mem_of_mem_take ((zN id y _ _ rfl).1 this)
   simp only [List.length_append, List.length_cons, List.length_nil] at hj hl2
   have hDe : D = (P ++ Q1) ++ y :: x :: (P2 ++ (B.drop (q + 2) ++ S)) := by rw [hD']; simp
   have gj : gt D j = x := by rw [hD']; exact aUV (by simp; omega)
   have gj1 : gt D (j - 1) = y := by rw [hDe]; exact aUV (by simp; omega)
   (repeat refine aG ?_); refine dS [0, 1, 2, 3, 4, 5, 6, 7, 8, 9, 10, 11, 12, 13, 14] [1, 1, 1, 0, 1, 1, 1, 0, 1, 1, 1, 1, 0, 0, 0] mixed (by kernel_rfl) ?_
   repeat (refine wXn ?_)
   rw [gj, gj1]
   (refine aU rfl (aSS (x := x) (y := y)) rfl rfl ?_; rintro _ _ _ ⟨rfl, rfl, rfl⟩; refine ⟨okD, ?_⟩)
   by_cases hxy : x < y
   ·rw [bJ hxy]
    repeat (refine wXn ?_)
    (repeat refine aG ?_); refine aLW [0, 1, 2, 3, 4, 5, 6, 7, 8, 9, 10, 11, 12, 13, 14, 15, 16, 17] [0, 0, 1, 1, 1, 0, 0, 0, 0, 0, 1, 1, 1, 0, 0, 0, 0, 0] mixed (by kernel_rfl) ?_
    repeat (refine wXn ?_)
    rw [gj, gj1]
    refine aL (Q1.length) _ _ _ (by simp) aP bV bT ⟨Q1, y :: P2, _, j - 1, by rw [hs]; simp, by omega, rfl, fun u hu => ?_, ?_, rfl, rfl, rfl⟩
    ·rcases List.mem_cons.1 hu with rfl | hu
     ·exact hxy
     ·exact hP2 u hu
    ·rw [hDe, aWF (by simp; omega) (by simp; omega)]
     simp
   ·rw [bB hxy]
    repeat (refine wXn ?_)
    refine aL (B.length - (q + 1)) _ _ _ (by first | omega | (simp only [List.length_append, List.length_cons, List.length_nil]; omega)) aP bV bT (⟨q + 1, i + 1, D, by omega, rfl, .inl (by omega), done1 (fun u hu => ?_), rfl, rfl, rfl⟩)
    rcases List.mem_append.1 hu with hu | hu
    ·have : u ≤ y := Asc.cross id (Asc.left id hasc) u hu y (by simp)
     omega
    ·simp at hu; subst hu; omega
  ·have : P1 = [] := List.eq_nil_of_length_eq_zero (by omega)
   subst this
   (repeat refine aG ?_); refine dS [0, 1, 2, 3, 4, 5, 6, 7, 8, 9, 10, 11, 12, 13, 14] [1, 1, 1, 0, 1, 1, 1, 0, 1, 1, 1, 1, 0, 0, 0] mixed (by kernel_rfl) ?_
   repeat (refine wXn ?_)
   refine aL (B.length - (q + 1)) _ _ _ (by first | omega | (simp only [List.length_append, List.length_cons, List.length_nil]; omega)) aP bV bT (⟨q + 1, i + 1, D, by omega, rfl, .inl (by omega), done1 (by simp), rfl, rfl, rfl⟩)
 ·have h1 : B.take (q + 1) = B := List.take_of_length_le (by omega)
  have h2 : B.drop (q + 1) = [] := List.drop_eq_nil_of_le (by omega)
  rw [h1, h2] at hD
  simp only [List.nil_append, ← List.append_assoc] at hD
  subst hD
  refine mK (by first | exact .inl rfl | exact .inr rfl) rfl _ _ bV bT (⟨rfl, rfl⟩)
theorem aTF {b n c : Nat} {tl : List Value} {D : List Int} (hn : n = D.length) (hb : n ≤ 12) :
  CD Tryz.prog 107 [.slice (some ⟨b, 0, none⟩) n c] X w0 (.blk b (recs (eI .i64) D ++ tl) 3 :: M0) I0 (fun _ M I => .blk b (recs (eI .i64) (yC id D) ++ tl) 3 :: M0 = M ∧ I0 = I) := by
 have h1 := aTP (X := X) (w0 := w0) (M0 := M0) (I0 := I0) (b := b) (c := c) (tl := tl) (P := []) (B := D) (S := []) (a := 0) (z := D.length) (n := n) (by simp [hn]) (by simp) (by simp) (by omega)
 simp only [List.append_nil, List.nil_append] at h1
 rw [← hn] at h1
 have hp : ∀ r : Int, CD Tryz.prog 154 [.slice (some ⟨b, 0, none⟩) n c, .int .i64 0, .int .i64 n, .int .i64 r] X w0 (.blk b (recs (eI .i64) D ++ tl) 3 :: M0) I0 (fun _ M I => .blk b (recs (eI .i64) (yC id D) ++ tl) 3 :: M0 = M ∧ I0 = I) := fun r => by
  refine dY Tryz.func154 rfl Tryz.ntmps154 rfl ?_
  repeat (refine wXn ?_)
  refine aT [0] rfl (fun k G M I => k = 0 ∧ G = [(1, .int .i64 0), (2, .int .i64 n), (3, .int .i64 r), (8, .bool true), (9, .bool true)] ∧ M = .blk b (recs (eI .i64) D ++ tl) 3 :: M0 ∧ I0 = I) (0) _ _ _ aP bV bT (⟨rfl, rfl, rfl, rfl⟩) ?_
  rintro k G M I ⟨rfl, rfl, rfl, rfl⟩
  repeat (refine wXn ?_)
  (refine aU rfl (h1) rfl rfl ?_; rintro _ _ _ ⟨rfl, rfl⟩; refine ⟨okD, ?_⟩)
  repeat (refine wXn ?_)
  refine mK (by first | exact .inl rfl | exact .inr rfl) rfl _ _ bV bT (⟨rfl, rfl⟩)
 refine dY Tryz.func107 rfl Tryz.ntmps107 rfl ?_
 repeat (refine wXn ?_)
 (refine aU rfl (aUI (x := (n : Int)) (by omega) (by omega)) rfl rfl ?_; rintro _ _ _ ⟨rfl, rfl, r, rfl⟩; refine ⟨okD, ?_⟩)
 repeat (refine wXn ?_)
 (refine aU rfl (hp r) rfl rfl ?_; rintro _ _ _ ⟨rfl, rfl⟩; refine ⟨okD, ?_⟩)
 repeat (refine wXn ?_)
 refine mK (by first | exact .inl rfl | exact .inr rfl) rfl _ _ bV bT (⟨rfl, rfl⟩)
end
end Go.Proofs.YtjbhdfpjnjedhaaGreat
namespace Go.Proofs.YtjbhdfpjnjedhaaGreat
open Go Go.Fx Go.RowKit Go.Shelf
attribute [local go_sem] Oper.semAt_some
theorem aOI (F : Fence) (n : Nat) (h : F.fn 108) (hro : F.round = none) (hn : 1 ≤ n) (l Bs n₀ b off cap : Nat) (zs : List Int) (hreach : zs.length * 8 ≤ 140737488351232) (hb : b < n₀) (J Jx : List Int → World → Prop)
  (hY : ∀ pre x W, J pre W → pre.length < zs.length → YieldAt F (n - 1) Tryz.prog l #[.int .i64 x] W fun e W' =>
   (e = .returned (.bool true) ∧ J (pre ++ [x]) W' ∧ Below n₀ W W') ∨ (e = .returned (.bool false) ∧ Jx (pre ++ [x]) W'))
  (W : World) (hBs : W.cell? ⟨Bs, 0, none⟩ = some (.slice (some ⟨b, off, none⟩) zs.length cap)) (hc : ∀ j, j < zs.length → W.cell? ⟨b, off + j, none⟩ = some (.int .i64 (zs[j]?.getD 0))) (h0 : J [] W) :
  CallsIn F n Tryz.prog 108 #[.func (.yield l) #[] #[], .pointer (some ⟨Bs, 0, none⟩)] W fun e W' => (∃ v, e = .returned v) ∧
   ((∃ ys, ys = zs ∧ J ys W') ∨ (∃ pre, pre <+: zs ∧ Jx pre W')) := by
 refine callsIn_of_wp Tryz.func108 rfl h ?_ hro
 simp only [Tryz.ntmps108, List.size_toArray, List.length_cons, List.length_nil, Nat.reduceAdd, Nat.reduceSub, Array.replicate_succ, Array.replicate_zero, List.push_toArray, List.append_toArray, List.nil_append, List.cons_append]
 gi_wp2
 gi_loopw [7] (fun i wr => ∃ k : Nat, k ≤ zs.length ∧ i = .int .i64 k ∧ J (zs.take k) wr ∧ Below n₀ W wr)
  (fun i _ => zs.length - (intOf i).toNat)
 case atStart => exact ⟨0, Nat.zero_le _, rfl, h0, Below.refl _ _⟩
 case round =>
  obtain ⟨k, hk, rfl, hJs, hnx⟩ := hrel
  have hcx : k < zs.length → wr.cell? ⟨b, off + k, none⟩ = some (.int .i64 (zs[k]?.getD 0)) := fun h => (hnx.cell (p := ⟨b, off + k, none⟩) hb).trans (hc k h)
  by_cases hlt : k < zs.length
  ·obtain ⟨fn, tmps, assign, body, hy, hR⟩ := hY _ (zs[k]?.getD 0) wr hJs (by rw [List.length_take]; omega)
   have hcx' := hcx hlt
   clear hcx
   have hts : zs.take (k + 1) = zs.take k ++ [zs[k]?.getD 0] := by
    rw [List.take_add_one]; congr 1
    simp [hlt]
   obtain ⟨g, hg⟩ : ∃ g, zs[k]?.getD 0 = g := ⟨_, rfl⟩
   rw [hg] at hy hR hcx' hts
   gi_wp2
   refine hR.mono ?_
   rintro e W3 (⟨rfl, hJ3, hk3⟩ | ⟨rfl, hJx3⟩)
   ·gi_wp2
    go_roundw
    case rel => exact ⟨k + 1, by omega, by simp, by rw [hts]; exact hJ3, hnx.trans hk3⟩
    case measure => simp [intOf]; omega
   ·gi_wp2
    refine bodyPost_ret (results_none rfl _ _ _) rfl ?_
    exact ⟨⟨_, rfl⟩, .inr ⟨_, by rw [← hts]; exact List.take_prefix _ _, hJx3⟩⟩
  ·obtain rfl : k = zs.length := by omega
   rw [List.take_length] at hJs
   gi_wp2
   go_end0
   exact ⟨⟨_, rfl⟩, .inl ⟨_, rfl, hJs⟩⟩
theorem aEN (F : Fence) (n : Nat) (h : F.fn 108) (hro : F.round = none) (l Bs c : Nat) (a : Option Addr) (J : List Int → World → Prop) (W : World) (hBs : W.cell? ⟨Bs, 0, none⟩ = some (.slice a 0 c)) (h0 : J [] W) :
  CallsIn F n Tryz.prog 108 #[.func (.yield l) #[] #[], .pointer (some ⟨Bs, 0, none⟩)] W fun e W' => (∃ v, e = .returned v) ∧ J [] W' := by
 refine callsIn_of_wp Tryz.func108 rfl h ?_ hro
 simp only [Tryz.ntmps108, List.size_toArray, List.length_cons, List.length_nil, Nat.reduceAdd, Nat.reduceSub, Array.replicate_succ, Array.replicate_zero, List.push_toArray, List.append_toArray, List.nil_append, List.cons_append]
 gi_wp2
 gi_loopw [7] (fun i wr => i = .int .i64 0 ∧ J [] wr) (fun _ _ => 0)
 case atStart => exact ⟨rfl, h0⟩
 case round =>
  obtain ⟨rfl, hJs⟩ := hrel
  gi_wp2
  go_end0
  exact ⟨⟨_, rfl⟩, hJs⟩
theorem yM {w : World} {b off : Nat} {zs : List Int} (h : Sl [] w (some ⟨b, off, none⟩) (recs (eI .i64) zs)) : ∀ j, j < zs.length → w.cell? ⟨b, off + j, none⟩ = some (.int .i64 (zs[j]?.getD 0)) := by
 intro j hj
 have h1 : (recs (eI .i64) zs)[j]? = some (.int .i64 (zs[j]?.getD 0)) := by
  rw [kR, List.getElem?_map]
  simp [hj]
 exact (h j _ h1).2.2
theorem aIF (F : Fence) (n : Nat) (h : F.fn 108) (hro : F.round = none) (hn : 1 ≤ n) (Bs n₀ : Nat) (a : Option Addr) (cap : Nat) (zs : List Int) (hreach : zs.length * 8 ≤ 140737488351232) (w : World) (hBs : Bs < w.heap.size) (hn₀ : n₀ ≤ w.heap.size)
  (hc : w.cell? ⟨Bs, 0, none⟩ = some (.slice a zs.length cap)) (hI : Sl [] w a (recs (eI .i64) zs)) (hlt : 0 < zs.length → ∀ b, a.map (·.block) = some b → b < n₀) :
  SeqStopsK F n Tryz.prog 108 #[.pointer (some ⟨Bs, 0, none⟩)] (fun x : Int => #[Value.int .i64 x]) (Below n₀) (fun ys => ys = zs) (fun pre => pre <+: zs) zs.length w := fun l J Jx W hW _ _ hY h0 => by
 have hc' := (hW.cell (p := ⟨Bs, 0, none⟩) (show Bs < w.heap.size from hBs)).trans hc
 by_cases hz : zs.length = 0
 ·have hnil : zs = [] := List.length_eq_zero_iff.1 hz
  rw [hz] at hc'
  exact (aEN F n h hro l Bs cap a J W hc' h0).mono fun e W' ⟨he, hj⟩ => ⟨he, .inl ⟨_, by rw [hnil], hj⟩⟩
 ·obtain ⟨b, off, rfl⟩ := (Sl.ok hI (by rw [iL]; omega)).cases
  have hb : b < n₀ := hlt (by omega) b rfl
  have hcs := yM hI
  exact aOI F n h hro hn l Bs n₀ b off cap zs hreach hb J Jx hY W hc' (fun j hj => (hW.cell (p := ⟨b, off + j, none⟩) (show b < w.heap.size from Nat.lt_of_lt_of_le hb hn₀)).trans (hcs j hj)) h0
theorem aQH : (Tryz.prog.info? 3).map (fun i => (i.zero, i.size, i.bytes)) = some (some (.int .i64 0), 1, 8) := by kernel_rfl
theorem aUL (a : Option Addr) (cap Bs : Nat) (zs : List Int) (w : World) (hlen : zs.length ≤ 1000000) (hBs : Bs < w.heap.size) (hc : w.cell? ⟨Bs, 0, none⟩ = some (.slice a zs.length cap)) (hI : Sl [] w a (recs (eI .i64) zs)) (hlt : 0 < zs.length → ∀ b, a.map (·.block) = some b → b < w.heap.size) :
  CallsIn Fence.wide 5 Tryz.prog 153 #[.slice none 0 0, .func (.func 108) #[] #[.pointer (some ⟨Bs, 0, none⟩)]] w fun e w' => ∃ v, e = .returned v ∧ w'.ownsRow w.heap.size 3 1 v zs.length (zs.map (Value.int .i64)) ∧ Below w.heap.size w w' := by
 obtain ⟨i0, hi, hz0, hz1, hz2⟩ := info_parts aQH
 refine callsIn_of_wp_marks Tryz.func153 rfl trivial ?_ rfl
 simp only [Tryz.ntmps153, List.size_toArray, List.length_cons, List.length_nil, Nat.reduceAdd, Nat.reduceSub, Array.replicate_succ, Array.replicate_zero, List.push_toArray, List.append_toArray, List.nil_append, List.cons_append]
 gi_wp2
 have bO := Boxed.new w 32 (.slice none 0 0)
 have hB0 : Below w.heap.size w (w.alloc (.cells #[.slice none 0 0] 32)) := (Below.refl _ w).alloc (Nat.le_refl _) _
 refine wpIn_rangeFunc_ownG rfl (by decide) (gf := 108) (lb := #[.pointer (some ⟨Bs, 0, none⟩)]) rfl trivial (enters_of Tryz.func108 (by kernel_rfl) rfl)
  (aIF Fence.wide (5 - 1) trivial rfl (by decide) Bs w.heap.size a cap zs (by omega) _ (by simp; omega) (by simp) ((hB0.cell (p := ⟨Bs, 0, none⟩) hBs).trans hc) (Sl.mono hI (Ext.of_below hB0)) hlt) belowK_t (belowK_b (by simp)) (Below.refl _ _) (fun _ => rfl)
  (fun pre W => (∃ v, Boxed W w.heap.size 32 v ∧ W.ownsRow w.heap.size 3 1 v pre.length (pre.map (Value.int .i64)) ∧ True) ∧ Below w.heap.size w W)
  (fun _ _ _ => False)
  (OwnFrom.and (Own.from (holdsRow_own w.heap.size w.heap.size 32 3 1 (fun pre : List Int => pre.length) (fun pre => pre.map (Value.int .i64)) (fun _ _ => True)) _) (ownFrom_below (Nat.le_refl _) (by simp)))
  (fun _ _ _ _ _ hs _ _ => hs)
  ⟨⟨_, bO, World.ownsRow_nil _ _ _ _, trivial⟩, hB0⟩ ?a1 ?assign ?body ?done ?stop
 case assign =>
  intro l x W K hK
  gi_wp2
  exact hK
 case body =>
  rintro l pre x W ⟨⟨v, hv, hrow, _⟩, hB⟩ hlt
  have hc := hv.cell
  have hml : zs.length ≤ maxLen := by have : maxLen = 9223372036854775807 := by decide
                                      omega
  gi_wp2_with (gi_at_builtin; refine wpListIn_append_own _ rfl _ _ 32 rfl w.heap.size 3 i0 (.int .i64 0) 1 8 Tryz.underlying32 hi hz0 hz1 hz2 rfl (by decide) _ _ _ rfl (hrow.alloc _) ⟨W.heap.size, 0, none⟩ 1 1 [.int .i64 x] rfl rfl (cell_one_new _ _ _) (by simp [Value.oneCell']) (by omega) (by omega) (by have := hB.size; simp; omega) ?_; intro v' w1 hown' hgrow _; obtain ⟨g', cap', rfl⟩ := ownsRow_succ hown'; obtain ⟨hv1, hv2, hr2, hk2, hb2⟩ := hv.appended (by decide) hrow hB.size (Nat.le_refl _) hown' hgrow; have hc1 := hv1.cell; have hf1 := hv1.frozen)
  exact ⟨hk2.from _, hb2, ⟨_, hv2, by simpa using hr2, trivial⟩, hB.trans hb2⟩
 case done =>
  rintro D ys W hD rfl ⟨⟨v, hv, hrow, _⟩, hB⟩ hK
  have hc := hv.cell
  gi_wp2
  refine ⟨by simp, .inl ⟨_, _, rfl, run_takeDeferred hK, ?_⟩⟩
  exact ⟨_, results_tmp rfl _ _ _, v, rfl, ownsRow_putObj hrow _ hK rfl, hB.trans (belowK_b (w := w) (Nat.le_refl _) W D _ _ (by simp at hD; omega) hK rfl rfl)⟩
 case stop =>
  rintro D c pre W _ _ h _
  exact h.elim
theorem aWA {w : World} {a : Option Addr} {zs : List Int} (h : Sl [] w a (recs (eI .i64) zs)) : 0 < zs.length → ∀ b, a.map (·.block) = some b → b < w.heap.size := by
 intro hp b hb
 obtain ⟨b', off, rfl⟩ := (Sl.ok h (by rw [iL]; omega)).cases
 simp at hb; subst hb
 have h3 := yM h 0 hp
 exact Classical.byContradiction (fun hlt => by
  unfold World.cell? at h3
  rw [Array.getElem?_eq_none (by simpa using hlt)] at h3
  simp at h3)
section
variable {X : List Nat} {w0 : World} {M0 : List Ent} {I0 : List aY}
theorem aTA {q : Option Addr} {zs : List Int} {c Bs : Nat} (hn : zs.length ≤ 1000000) (hb : aO (some ⟨Bs, 0, none⟩) [.slice q zs.length c] ∈ I0) (hq : aO q (recs (eI .i64) zs) ∈ I0) :
  CD Tryz.prog 153 [.slice none 0 0, .func (.func 108) #[] #[.pointer (some ⟨Bs, 0, none⟩)]] X w0 M0 I0 (fun v M I => I0 = I ∧ ∃ q' c', v = .slice q' zs.length c' ∧ M = .row q' zs.length c' (recs (eI .i64) zs) 3 1 :: M0) := by
 refine ⟨fun w hw => ?_⟩
 have hS := (hw.sl hb).less (Y := []) (by simp)
 have h3 : w.cell? ⟨Bs, 0, none⟩ = some (.slice q zs.length c) := (hS 0 _ rfl).2.2
 have hsq := (hw.sl hq).less (Y := []) (by simp)
 have hBs : Bs < w.heap.size := Classical.byContradiction (fun hlt => by
  unfold World.cell? at h3
  rw [Array.getElem?_eq_none (by simpa using hlt)] at h3
  simp at h3)
 refine Calls.mono (callsIn_wide.1 (aUL q c Bs zs w hn hBs h3 hsq (aWA hsq))) ?_
 rintro e w' ⟨v, rfl, hO, hB⟩
 obtain ⟨a', c', rfl, _, hle, _⟩ := aAV hO
 refine ⟨_, rfl, _, _, ⟨rfl, a', c', rfl, rfl⟩, ?_⟩
 rw [kR]
 refine hw.push (Ext.of_below hB) ?_ ?_ (aOB hO (Nat.zero_le _))
 ·intro b hb
  cases a' with
  | none => simp [Ent.blocks] at hb
  | some a' =>
   simp [Ent.blocks] at hb; subst hb
   exact (aOZ hO _ rfl).1
 ·cases a' <;> simp [Ent.blocks]
end
end Go.Proofs.YtjbhdfpjnjedhaaGreat

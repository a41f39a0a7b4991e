/- The walk, kept once. Forest: sorting at most 12 numbers. Forest: insertion sort of numbers, Sort. -/
import Derived.Test.YtkccjglmnhgabaaGreatDoorZqal
import Derived.Test.YtkccjglmnhgabaaGreatDoorZqag
import Derived.Test.YtkccjglmnhgabaaGreatDoorZqak
set_option linter.unusedSimpArgs false
set_option linter.unusedVariables false
set_option maxRecDepth 100000
set_option maxHeartbeats 4000000
namespace Go.Fx
theorem aK {p g : Prop} (h : g) (w : BoxP g → p := by (intro hh; (first | refine aJ ?_ | refine aL ?_ | refine jD ?_ | refine iA ?_ | refine fH ?_ | refine fC ?_ | refine gY ?_ | refine gU ?_ | refine fF ?_ | refine fG ?_ | refine jE ?_ | refine jL ?_ | refine jF ?_ | refine jJ rfl ?_ | refine bA ?_ | (refine fU ?_; first | refine gJ rfl rfl rfl ?_ | (refine aN rfl rfl ?_; refine aI rfl rfl rfl okF ?_) | refine gF rfl rfl (by omega) ?_ | refine gL rfl rfl (by omega) ?_) | (refine bS ?_; refine aC rfl (fun _ => dK rfl) rfl rfl ?_) | refine aC rfl (fun _ => bE rfl) rfl rfl ?_ | (refine fZ ?_; first | refine aC rfl (fun _ => bD rfl rfl wF) rfl rfl ?_ | refine aC rfl (fun _ => bJ rfl rfl wF) rfl rfl ?_ | refine aC rfl (fun _ => bW rfl rfl wF) rfl rfl ?_ | refine aC rfl (fun _ => eP rfl rfl (by omega) qF) rfl rfl ?_ | refine aC rfl (fun _ => eO rfl rfl (by omega) rfl) rfl rfl ?_ | refine aC rfl (fun _ => dP rfl rfl) rfl rfl ?_ | refine aC rfl (fun _ => dX rfl rfl) rfl rfl ?_ | refine aC rfl (fun _ => dW rfl rfl) rfl rfl ?_ | refine aC rfl (fun _ => pF rfl rfl) rfl rfl ?_ | refine aC rfl (fun _ => rG rfl rfl) rfl rfl ?_) | (refine bS ?_; first | refine aC rfl (fun _ => dY rfl wF) rfl rfl ?_) | (refine gH ?_; first | refine aC rfl (fun _ => dD rfl wF) rfl rfl ?_) | (refine gI ?_; first | refine aC rfl (fun _ => bK rfl) rfl rfl ?_ | refine aC rfl (fun _ => dM rfl rfl) rfl rfl ?_ | refine aC rfl (fun _ => dL rfl rfl) rfl rfl ?_ | refine aC rfl (fun _ => dJ rfl rfl rfl) rfl rfl ?_) | (refine gK ?_; first | refine gM rfl (by decide) rfl rfl ?_ | refine iT rfl (by decide) rfl rfl ?_) | (refine gG ?_; first | refine aC rfl (fun _ => cB rfl) rfl rfl ?_) | (refine fV ?_; first | refine iV rfl rfl fD rfl rfl ?_ | refine iR fA rfl rfl fD aB iY rfl rfl ?_ | refine iU fA rfl rfl fD aB iY rfl rfl ?_ | refine aC rfl (fun _ => bP rfl rfl fD) rfl rfl ?_) | (refine bF ?_; first | (apply bQ; exact fA; exact rfl; (focus ((repeat (first | with_reducible exact List.mem_cons_self | with_reducible assumption | with_reducible refine List.mem_cons_of_mem _ ?_)); done)); exact atY; exact rfl; exact rfl) | (apply kU; exact fA; exact rfl; (focus ((repeat (first | with_reducible exact List.mem_cons_self | with_reducible assumption | with_reducible refine List.mem_cons_of_mem _ ?_)); done)); exact atY; exact rfl; exact rfl) | (apply mM; exact fA; exact rfl; (focus ((repeat (first | with_reducible exact List.mem_cons_self | with_reducible assumption | with_reducible refine List.mem_cons_of_mem _ ?_)); done)); exact atY; exact rfl; exact rfl) | (apply mJ; exact fA; exact rfl; (focus ((repeat (first | with_reducible exact List.mem_cons_self | with_reducible assumption | with_reducible refine List.mem_cons_of_mem _ ?_)); done)); exact atY; exact rfl; exact rfl) | (apply gX; exact fA; exact rfl; (focus ((repeat (first | with_reducible exact List.mem_cons_self | with_reducible assumption | with_reducible refine List.mem_cons_of_mem _ ?_)); done)); exact oO; exact rfl; exact rfl) | (apply fT; exact fA; exact rfl; (focus ((repeat (first | with_reducible exact List.mem_cons_self | with_reducible assumption | with_reducible refine List.mem_cons_of_mem _ ?_)); done)); exact oO; exact rfl; exact rfl) | (apply iP; exact fA; exact rfl; (focus ((repeat (first | with_reducible exact List.mem_cons_self | with_reducible assumption | with_reducible refine List.mem_cons_of_mem _ ?_)); done)); exact oO; exact rfl; exact rfl) | (apply iQ; exact fA; exact rfl; (focus ((repeat (first | with_reducible exact List.mem_cons_self | with_reducible assumption | with_reducible refine List.mem_cons_of_mem _ ?_)); done)); exact oO; exact rfl; exact rfl)) | (refine gN ?_; first | refine aC rfl (fun _ => bN rfl rfl) rfl rfl ?_ | refine aC rfl (fun _ => bH rfl) rfl rfl ?_) | (refine iJ ?_; first | refine jY rfl rfl rfl jZ stC rfl rfl ⟨okF, ?_⟩ | refine fK rfl rfl fE qI jZ qJ rfl rfl ⟨okF, ?_⟩) | (refine iB ?_; first | refine bY rfl ?_ | refine bM rfl ?_ | refine jK rfl (by omega) ?_ | refine lK rfl (by omega) ?_)); (repeat (first | refine aJ ?_ | refine aL ?_ | refine jD ?_ | refine iA ?_ | refine fH ?_ | refine fC ?_ | refine gY ?_ | refine gU ?_ | refine fF ?_ | refine fG ?_ | refine jE ?_ | refine jL ?_ | refine jF ?_ | refine jJ rfl ?_ | refine bA ?_ | (refine fU ?_; first | refine gJ rfl rfl rfl ?_ | (refine aN rfl rfl ?_; refine aI rfl rfl rfl okF ?_) | refine gF rfl rfl (by omega) ?_ | refine gL rfl rfl (by omega) ?_) | (refine bS ?_; refine aC rfl (fun _ => dK rfl) rfl rfl ?_) | refine aC rfl (fun _ => bE rfl) rfl rfl ?_ | (refine fZ ?_; first | refine aC rfl (fun _ => bD rfl rfl wF) rfl rfl ?_ | refine aC rfl (fun _ => bJ rfl rfl wF) rfl rfl ?_ | refine aC rfl (fun _ => bW rfl rfl wF) rfl rfl ?_ | refine aC rfl (fun _ => eP rfl rfl (by omega) qF) rfl rfl ?_ | refine aC rfl (fun _ => eO rfl rfl (by omega) rfl) rfl rfl ?_ | refine aC rfl (fun _ => dP rfl rfl) rfl rfl ?_ | refine aC rfl (fun _ => dX rfl rfl) rfl rfl ?_ | refine aC rfl (fun _ => dW rfl rfl) rfl rfl ?_ | refine aC rfl (fun _ => pF rfl rfl) rfl rfl ?_ | refine aC rfl (fun _ => rG rfl rfl) rfl rfl ?_) | (refine bS ?_; first | refine aC rfl (fun _ => dY rfl wF) rfl rfl ?_) | (refine gH ?_; first | refine aC rfl (fun _ => dD rfl wF) rfl rfl ?_) | (refine gI ?_; first | refine aC rfl (fun _ => bK rfl) rfl rfl ?_ | refine aC rfl (fun _ => dM rfl rfl) rfl rfl ?_ | refine aC rfl (fun _ => dL rfl rfl) rfl rfl ?_ | refine aC rfl (fun _ => dJ rfl rfl rfl) rfl rfl ?_) | (refine gK ?_; first | refine gM rfl (by decide) rfl rfl ?_ | refine iT rfl (by decide) rfl rfl ?_) | (refine gG ?_; first | refine aC rfl (fun _ => cB rfl) rfl rfl ?_) | (refine fV ?_; first | refine iV rfl rfl fD rfl rfl ?_ | refine iR fA rfl rfl fD aB iY rfl rfl ?_ | refine iU fA rfl rfl fD aB iY rfl rfl ?_ | refine aC rfl (fun _ => bP rfl rfl fD) rfl rfl ?_) | (refine bF ?_; first | (apply bQ; exact fA; exact rfl; (focus ((repeat (first | with_reducible exact List.mem_cons_self | with_reducible assumption | with_reducible refine List.mem_cons_of_mem _ ?_)); done)); exact atY; exact rfl; exact rfl) | (apply kU; exact fA; exact rfl; (focus ((repeat (first | with_reducible exact List.mem_cons_self | with_reducible assumption | with_reducible refine List.mem_cons_of_mem _ ?_)); done)); exact atY; exact rfl; exact rfl) | (apply mM; exact fA; exact rfl; (focus ((repeat (first | with_reducible exact List.mem_cons_self | with_reducible assumption | with_reducible refine List.mem_cons_of_mem _ ?_)); done)); exact atY; exact rfl; exact rfl) | (apply mJ; exact fA; exact rfl; (focus ((repeat (first | with_reducible exact List.mem_cons_self | with_reducible assumption | with_reducible refine List.mem_cons_of_mem _ ?_)); done)); exact atY; exact rfl; exact rfl) | (apply gX; exact fA; exact rfl; (focus ((repeat (first | with_reducible exact List.mem_cons_self | with_reducible assumption | with_reducible refine List.mem_cons_of_mem _ ?_)); done)); exact oO; exact rfl; exact rfl) | (apply fT; exact fA; exact rfl; (focus ((repeat (first | with_reducible exact List.mem_cons_self | with_reducible assumption | with_reducible refine List.mem_cons_of_mem _ ?_)); done)); exact oO; exact rfl; exact rfl) | (apply iP; exact fA; exact rfl; (focus ((repeat (first | with_reducible exact List.mem_cons_self | with_reducible assumption | with_reducible refine List.mem_cons_of_mem _ ?_)); done)); exact oO; exact rfl; exact rfl) | (apply iQ; exact fA; exact rfl; (focus ((repeat (first | with_reducible exact List.mem_cons_self | with_reducible assumption | with_reducible refine List.mem_cons_of_mem _ ?_)); done)); exact oO; exact rfl; exact rfl)) | (refine gN ?_; first | refine aC rfl (fun _ => bN rfl rfl) rfl rfl ?_ | refine aC rfl (fun _ => bH rfl) rfl rfl ?_) | (refine iJ ?_; first | refine jY rfl rfl rfl jZ stC rfl rfl ⟨okF, ?_⟩ | refine fK rfl rfl fE qI jZ qJ rfl rfl ⟨okF, ?_⟩) | (refine iB ?_; first | refine bY rfl ?_ | refine bM rfl ?_ | refine jK rfl (by omega) ?_ | refine lK rfl (by omega) ?_))); exact hh.out)) : p := w ⟨h⟩
theorem yXh {p g : Prop} (h : g) (w : BoxP g → p := by (intro hh; (first | refine aJ ?_ | refine aL ?_ | refine jD ?_ | refine iA ?_ | refine fH ?_ | refine fC ?_ | refine gY ?_ | refine gU ?_ | refine fF ?_ | refine fG ?_ | refine jE ?_ | refine jL ?_ | refine jF ?_ | refine jJ rfl ?_ | refine bA ?_ | (refine fU ?_; first | refine gJ rfl rfl rfl ?_ | (refine aN rfl rfl ?_; refine aI rfl rfl rfl okF ?_) | refine gF rfl rfl (by omega) ?_ | refine gL rfl rfl (by omega) ?_) | (refine bS ?_; refine aC rfl (fun _ => dK rfl) rfl rfl ?_) | refine aC rfl (fun _ => bE rfl) rfl rfl ?_ | (refine fZ ?_; first | refine aC rfl (fun _ => bD rfl rfl wF) rfl rfl ?_ | refine aC rfl (fun _ => bJ rfl rfl wF) rfl rfl ?_ | refine aC rfl (fun _ => bW rfl rfl wF) rfl rfl ?_ | refine aC rfl (fun _ => eP rfl rfl (by omega) qF) rfl rfl ?_ | refine aC rfl (fun _ => eO rfl rfl (by omega) rfl) rfl rfl ?_ | refine aC rfl (fun _ => dP rfl rfl) rfl rfl ?_ | refine aC rfl (fun _ => dX rfl rfl) rfl rfl ?_ | refine aC rfl (fun _ => dW rfl rfl) rfl rfl ?_ | refine aC rfl (fun _ => pF rfl rfl) rfl rfl ?_ | refine aC rfl (fun _ => rG rfl rfl) rfl rfl ?_) | (refine bS ?_; first | refine aC rfl (fun _ => dY rfl wF) rfl rfl ?_) | (refine gH ?_; first | refine aC rfl (fun _ => dD rfl wF) rfl rfl ?_) | (refine gI ?_; first | refine aC rfl (fun _ => bK rfl) rfl rfl ?_ | refine aC rfl (fun _ => dM rfl rfl) rfl rfl ?_ | refine aC rfl (fun _ => dL rfl rfl) rfl rfl ?_ | refine aC rfl (fun _ => dJ rfl rfl rfl) rfl rfl ?_) | (refine gK ?_; first | refine gM rfl (by decide) rfl rfl ?_ | refine iT rfl (by decide) rfl rfl ?_) | (refine gG ?_; first | refine aC rfl (fun _ => cB rfl) rfl rfl ?_) | (refine fV ?_; first | refine iV rfl rfl fD rfl rfl ?_ | refine iR fA rfl rfl fD aB iY rfl rfl ?_ | refine iU fA rfl rfl fD aB iY rfl rfl ?_ | refine aC rfl (fun _ => bP rfl rfl fD) rfl rfl ?_) | (refine bF ?_; first | (apply bQ; exact fA; exact rfl; (focus ((repeat (first | with_reducible exact List.mem_cons_self | with_reducible assumption | with_reducible refine List.mem_cons_of_mem _ ?_)); done)); exact atY; exact rfl; exact rfl) | (apply kU; exact fA; exact rfl; (focus ((repeat (first | with_reducible exact List.mem_cons_self | with_reducible assumption | with_reducible refine List.mem_cons_of_mem _ ?_)); done)); exact atY; exact rfl; exact rfl) | (apply mM; exact fA; exact rfl; (focus ((repeat (first | with_reducible exact List.mem_cons_self | with_reducible assumption | with_reducible refine List.mem_cons_of_mem _ ?_)); done)); exact atY; exact rfl; exact rfl) | (apply mJ; exact fA; exact rfl; (focus ((repeat (first | with_reducible exact List.mem_cons_self | with_reducible assumption | with_reducible refine List.mem_cons_of_mem _ ?_)); done)); exact atY; exact rfl; exact rfl) | (apply gX; exact fA; exact rfl; (focus ((repeat (first | with_reducible exact List.mem_cons_self | with_reducible assumption | with_reducible refine List.mem_cons_of_mem _ ?_)); done)); exact oO; exact rfl; exact rfl) | (apply fT; exact fA; exact rfl; (focus ((repeat (first | with_reducible exact List.mem_cons_self | with_reducible assumption | with_reducible refine List.mem_cons_of_mem _ ?_)); done)); exact oO; exact rfl; exact rfl) | (apply iP; exact fA; exact rfl; (focus ((repeat (first | with_reducible exact List.mem_cons_self | with_reducible assumption | with_reducible refine List.mem_cons_of_mem _ ?_)); done)); exact oO; exact rfl; exact rfl) | (apply iQ; exact fA; exact rfl; (focus ((repeat (first | with_reducible exact List.mem_cons_self | with_reducible assumption | with_reducible refine List.mem_cons_of_mem _ ?_)); done)); exact oO; exact rfl; exact rfl)) | (refine gN ?_; first | refine aC rfl (fun _ => bN rfl rfl) rfl rfl ?_ | refine aC rfl (fun _ => bH rfl) rfl rfl ?_) | (refine iB ?_; first | refine bY rfl ?_ | refine bM rfl ?_ | refine jK rfl (by omega) ?_ | refine lK rfl (by omega) ?_)); (repeat (first | refine aJ ?_ | refine aL ?_ | refine jD ?_ | refine iA ?_ | refine fH ?_ | refine fC ?_ | refine gY ?_ | refine gU ?_ | refine fF ?_ | refine fG ?_ | refine jE ?_ | refine jL ?_ | refine jF ?_ | refine jJ rfl ?_ | refine bA ?_ | (refine fU ?_; first | refine gJ rfl rfl rfl ?_ | (refine aN rfl rfl ?_; refine aI rfl rfl rfl okF ?_) | refine gF rfl rfl (by omega) ?_ | refine gL rfl rfl (by omega) ?_) | (refine bS ?_; refine aC rfl (fun _ => dK rfl) rfl rfl ?_) | refine aC rfl (fun _ => bE rfl) rfl rfl ?_ | (refine fZ ?_; first | refine aC rfl (fun _ => bD rfl rfl wF) rfl rfl ?_ | refine aC rfl (fun _ => bJ rfl rfl wF) rfl rfl ?_ | refine aC rfl (fun _ => bW rfl rfl wF) rfl rfl ?_ | refine aC rfl (fun _ => eP rfl rfl (by omega) qF) rfl rfl ?_ | refine aC rfl (fun _ => eO rfl rfl (by omega) rfl) rfl rfl ?_ | refine aC rfl (fun _ => dP rfl rfl) rfl rfl ?_ | refine aC rfl (fun _ => dX rfl rfl) rfl rfl ?_ | refine aC rfl (fun _ => dW rfl rfl) rfl rfl ?_ | refine aC rfl (fun _ => pF rfl rfl) rfl rfl ?_ | refine aC rfl (fun _ => rG rfl rfl) rfl rfl ?_) | (refine bS ?_; first | refine aC rfl (fun _ => dY rfl wF) rfl rfl ?_) | (refine gH ?_; first | refine aC rfl (fun _ => dD rfl wF) rfl rfl ?_) | (refine gI ?_; first | refine aC rfl (fun _ => bK rfl) rfl rfl ?_ | refine aC rfl (fun _ => dM rfl rfl) rfl rfl ?_ | refine aC rfl (fun _ => dL rfl rfl) rfl rfl ?_ | refine aC rfl (fun _ => dJ rfl rfl rfl) rfl rfl ?_) | (refine gK ?_; first | refine gM rfl (by decide) rfl rfl ?_ | refine iT rfl (by decide) rfl rfl ?_) | (refine gG ?_; first | refine aC rfl (fun _ => cB rfl) rfl rfl ?_) | (refine fV ?_; first | refine iV rfl rfl fD rfl rfl ?_ | refine iR fA rfl rfl fD aB iY rfl rfl ?_ | refine iU fA rfl rfl fD aB iY rfl rfl ?_ | refine aC rfl (fun _ => bP rfl rfl fD) rfl rfl ?_) | (refine bF ?_; first | (apply bQ; exact fA; exact rfl; (focus ((repeat (first | with_reducible exact List.mem_cons_self | with_reducible assumption | with_reducible refine List.mem_cons_of_mem _ ?_)); done)); exact atY; exact rfl; exact rfl) | (apply kU; exact fA; exact rfl; (focus ((repeat (first | with_reducible exact List.mem_cons_self | with_reducible assumption | with_reducible refine List.mem_cons_of_mem _ ?_)); done)); exact atY; exact rfl; exact rfl) | (apply mM; exact fA; exact rfl; (focus ((repeat (first | with_reducible exact List.mem_cons_self | with_reducible assumption | with_reducible refine List.mem_cons_of_mem _ ?_)); done)); exact atY; exact rfl; exact rfl) | (apply mJ; exact fA; exact rfl; (focus ((repeat (first | with_reducible exact List.mem_cons_self | with_reducible assumption | with_reducible refine List.mem_cons_of_mem _ ?_)); done)); exact atY; exact rfl; exact rfl) | (apply gX; exact fA; exact rfl; (focus ((repeat (first | with_reducible exact List.mem_cons_self | with_reducible assumption | with_reducible refine List.mem_cons_of_mem _ ?_)); done)); exact oO; exact rfl; exact rfl) | (apply fT; exact fA; exact rfl; (focus ((repeat (first | with_reducible exact List.mem_cons_self | with_reducible assumption | with_reducible refine List.mem_cons_of_mem _ ?_)); done)); exact oO; exact rfl; exact rfl) | (apply iP; exact fA; exact rfl; (focus ((repeat (first | with_reducible exact List.mem_cons_self | with_reducible assumption | with_reducible refine List.mem_cons_of_mem _ ?_)); done)); exact oO; exact rfl; exact rfl) | (apply iQ; exact fA; exact rfl; (focus ((repeat (first | with_reducible exact List.mem_cons_self | with_reducible assumption | with_reducible refine List.mem_cons_of_mem _ ?_)); done)); exact oO; exact rfl; exact rfl)) | (refine gN ?_; first | refine aC rfl (fun _ => bN rfl rfl) rfl rfl ?_ | refine aC rfl (fun _ => bH rfl) rfl rfl ?_) | (refine iB ?_; first | refine bY rfl ?_ | refine bM rfl ?_ | refine jK rfl (by omega) ?_ | refine lK rfl (by omega) ?_))); exact hh.out)) : p := w ⟨h⟩
end Go.Fx
namespace Go.Proofs.YtkccjglmnhgabaaGreatDoor
open Go Go.Fx
theorem aBE {P : Program} {n : Nat} {G : Env} {ty : TypeId} {C : World → Prop} {t : TypeId} {x ix : Operand} {s : ByteArray} {k : IntKind} {i : Int} {b : UInt8} [ht : StrTy P t] (hx : ev G x = some (.string s)) (hi : ev G ix = some (.int k i)) (h0 : 0 ≤ i) (hb : s[i.toNat]? = some b) :
  Const P n G (.index t x ix) ty C (.int .u8 b.toNat) := by
 refine ⟨?_⟩
 intro st ha dst pos after guard w _
 simp [execOp, Instr.index, ha.ev hx, ha.ev hi, asIntOf, gD ht.und, h0, hb]
theorem aQL {P : Program} {n : Nat} {ops l : List Oper} {Q : Exit → Act → World → Prop} {m : Fx.Mode} {G : Env} {X : List Nat} {w0 : World} {M : List Ent} {I : List bB} {ty : TypeId} {pos : String} {af : Array Edge} {g : Option (Nat × Bool)} {d : Nat} {t : TypeId} {x ix : Operand} {s : ByteArray} {kk : IntKind} {i : Int} [StrTy P t]
  (hx : ev G x = some (.string s)) (hi : ev G ix = some (.int kk i)) (h0 : 0 ≤ i) (h1 : i.toNat < s.size) (hg : oQ ops G g = some true) (hd : Nat.ble (d + 1) n = true)
  (k : ∀ b : Int, 0 ≤ b ∧ b < 256 → RD P n ops Q m.next l ((d, .int .u8 b) :: G) X w0 M I) : RD P n ops Q m (⟨some d, .index t x ix, ty, pos, af, g⟩ :: l) G X w0 M I :=
 aC hg (fun _ => aBE hx hi h0 (getElem?_pos s i.toNat h1)) rfl hd (k _ ⟨Int.natCast_nonneg _, by have := UInt8.toNat_lt (s[i.toNat]'h1); omega⟩)
section
variable {X : List Nat} {w0 : World} {M0 : List Ent} {I0 : List bB}
theorem aOO {x : Int} : CD Tryz.prog 144 [.int .i64 x] X w0 M0 I0 (fun v M I => M0 = M ∧ I0 = I ∧ v = .bool false) := by
 refine bC Tryz.func144 rfl Tryz.ntmps144 rfl ?_
 repeat (refine aK ?_)
 refine aH (by first | exact .inl rfl | exact .inr rfl) rfl rfl _ _ aF aD (⟨rfl, rfl, congrArg Value.bool (dF (fun h => h rfl))⟩)
theorem aSN {x y : Int} : CD Tryz.prog 136 [.int .i64 x, .int .i64 y] X w0 M0 I0 (fun v M I => M0 = M ∧ I0 = I ∧ v = .bool (B (x < y))) := by
 refine bR Tryz.func136 rfl Tryz.ntmps136 rfl ?_
 repeat (refine aK ?_)
 (refine aA rfl (aOO) rfl rfl ?_; rintro _ _ _ ⟨rfl, rfl, rfl⟩; refine ⟨okF, ?_⟩)
 repeat (refine aK ?_)
 refine aH (by first | exact .inl rfl | exact .inr rfl) rfl rfl _ _ aF aD (⟨rfl, rfl, rfl⟩)
theorem aMK {x : Int} (h0 : 0 ≤ x) (h1 : x < 256) : CD Tryz.prog 140 [.int .u64 x] X w0 M0 I0 (fun v M I => M0 = M ∧ I0 = I ∧ ∃ r : Int, v = .int .i64 r) := by
 refine bC Tryz.func140 rfl Tryz.ntmps140 rfl ?_
 repeat (refine aK ?_)
 refine aQL rfl rfl h0 (Nat.lt_of_lt_of_eq (show x.toNat < 256 by omega) rfl) rfl rfl (fun b hb => ?_)
 repeat (refine aK ?_)
 refine aH (by first | exact .inl rfl | exact .inr rfl) rfl rfl _ _ aF aD (⟨rfl, rfl, _, rfl⟩)
theorem aKC {x : Int} (h0 : 0 ≤ x) (h1 : x < 256) : CD Tryz.prog 102 [.int .u64 x] X w0 M0 I0 (fun v M I => M0 = M ∧ I0 = I ∧ ∃ r : Int, v = .int .i64 r) := by
 refine bC Tryz.func102 rfl Tryz.ntmps102 rfl ?_
 repeat (refine aK ?_)
 (refine aA rfl (aMK h0 h1) rfl rfl ?_; rintro _ _ _ ⟨rfl, rfl, r, rfl⟩; refine ⟨okF, ?_⟩)
 repeat (refine aK ?_)
 refine aH (by first | exact .inl rfl | exact .inr rfl) rfl rfl _ _ aF aD (⟨rfl, rfl, r, rfl⟩)
end
end Go.Proofs.YtkccjglmnhgabaaGreatDoor
namespace Go.Proofs.YtkccjglmnhgabaaGreatDoor
open Go Go.Fx
section
variable {X : List Nat} {w0 : World} {M0 : List Ent} {I0 : List bB}
theorem aSO {b n c : Nat} {tl : List Value} {P B S : List Int} {a z : Int} (hn : n = (P ++ B ++ S).length)
  (ha : a = P.length) (hz : z = P.length + B.length) (hbd : (n : Int) ≤ 1000000) :
  CD Tryz.prog 130 [.slice (some ⟨b, 0, none⟩) n c, .int .i64 a, .int .i64 z] X w0 (.blk b (recs (eI .i64) (P ++ B ++ S) ++ tl) 3 :: M0) I0
   (fun _ M I => .blk b (recs (eI .i64) (P ++ xR id B ++ S) ++ tl) 3 :: M0 = M ∧ I0 = I) := by
 have hlen : (P ++ B ++ S).length = P.length + B.length + S.length := by simp [Nat.add_assoc]
 refine eD Tryz.func130 rfl Tryz.ntmps130 rfl ?_
 repeat (refine wD ?_)
 refine aT [0, 1, 2] rfl (fun k G M I => ∃ (q : Nat) (i : Int) (D : List Int), i = a + 1 + q ∧ k = B.length - q ∧ (i ≤ z ∨ q = 0) ∧ D = P ++ (xR id (B.take (q + 1)) ++ (B.drop (q + 1) ++ S)) ∧ G = [(6, .int .i64 i)] ∧ M = .blk b (recs (eI .i64) D ++ tl) 3 :: M0 ∧ I0 = I) (B.length) _ _ _ aQ bX bT (⟨0, a + 1, _, by omega, by omega, .inr rfl, ?_, rfl, rfl, rfl⟩) ?_
 ·cases B with
  | nil => simp [aJI]
  | cons x r => simp [xR, yE]
 rintro k G M I ⟨q, i, D, hi, rfl, hq, hD, rfl, rfl, rfl⟩
 have hDl : D.length = n := by
  rw [hD, hn]; simp [aLA]; omega
 repeat' (first | refine wD ?_ | refine aS rfl (fun h => ?_) (fun h => ?_) | refine aR rfl rfl (fun h => ?_) (fun h => ?_) | fail)
 ·have hqB : q + 1 < B.length := by omega
  have hx : B.drop (q + 1) = B[q + 1] :: B.drop (q + 2) := List.drop_eq_getElem_cons hqB
  have hxB : B[q + 1] ∈ B := List.getElem_mem hqB
  have htk : B.take (q + 2) = B.take (q + 1) ++ [B[q + 1]] := List.take_succ_eq_append_getElem hqB
  generalize B[q + 1] = x at hx hxB htk
  have hsl := aLA id (B.take (q + 1))
  have htl : (B.take (q + 1)).length = q + 1 := by simp; omega
  refine aT [0, 1, 2, 6] rfl (fun k G M I => ∃ (P1 P2 D : List Int) (j : Int), xR id (B.take (q + 1)) = P1 ++ P2 ∧ j = P.length + P1.length ∧ k = P1.length ∧ (∀ y ∈ P2, x < y) ∧ D = (P ++ P1) ++ x :: (P2 ++ (B.drop (q + 2) ++ S)) ∧ G = [(7, .int .i64 j)] ∧ M = .blk b (recs (eI .i64) D ++ tl) 3 :: M0 ∧ I0 = I) (q + 1) _ _ _ aQ bX bT (⟨xR id (B.take (q + 1)), [], D, i, by simp, by omega, by omega, by simp, by rw [hD, hx]; simp, rfl, rfl, rfl⟩) ?_
  rintro k G M I ⟨P1, P2, D, j, hs, hj, rfl, hP2, hD', rfl, rfl, rfl⟩
  have hDl' : D.length = n := by
   have := congrArg List.length hs
   rw [hD', hn]; simp at this ⊢; omega
  have hasc := aSR id (B.take (q + 1))
  rw [hs] at hasc
  have done1 : (∀ y ∈ P1, y ≤ x) → D = P ++ (xR id (B.take (q + 1 + 1)) ++ (B.drop (q + 1 + 1) ++ S)) := fun h1 => by
   rw [show q + 1 + 1 = q + 2 from rfl, htk, zT, hs, aUU id h1 hP2, hD']
   simp
  have hl2 := congrArg List.length hs
  simp only [List.length_append] at hl2
  by_cases hja : a < j
  ·have hne : P1 ≠ [] := by intro e; subst e; simp at hj; omega
   obtain ⟨Q1, y, rfl⟩ : ∃ Q1 y, P1 = Q1 ++ [y] := ⟨P1.dropLast, P1.getLast hne, (List.dropLast_concat_getLast hne).symm⟩
   have hyB : y ∈ B := by
    have : y ∈ xR id (B.take (q + 1)) := by rw [hs]; simp
    exact List.mem_of_mem_take ((aKW id y _ _ rfl).1 this)
   simp only [List.length_append, List.length_cons, List.length_nil] at hj hl2
   have hDe : D = (P ++ Q1) ++ y :: x :: (P2 ++ (B.drop (q + 2) ++ S)) := by rw [hD']; simp
   have gj : gt D j = x := by rw [hD']; exact aTU (by simp; omega)
   have gj1 : gt D (j - 1) = y := by rw [hDe]; exact aTU (by simp; omega)
   (repeat refine aJ ?_); refine gT [0, 1, 2, 3, 4, 5, 6, 7, 8, 9, 10, 11, 12, 13, 14] [1, 1, 1, 0, 1, 1, 1, 0, 1, 1, 1, 1, 0, 0, 0] mixed (by kernel_rfl) ?_
   repeat (refine wD ?_)
   rw [gj, gj1]
   (refine aV rfl (aSN (x := x) (y := y)) rfl rfl ?_; rintro _ _ _ ⟨rfl, rfl, rfl⟩; refine ⟨okD, ?_⟩)
   by_cases hxy : x < y
   ·rw [dZ hxy]
    repeat (refine wD ?_)
    (repeat refine aJ ?_); refine fJ [0, 1, 2, 3, 4, 5, 6, 7, 8, 9, 10, 11, 12, 13, 14, 15, 16, 17] [0, 0, 1, 1, 1, 0, 0, 0, 0, 0, 1, 1, 1, 0, 0, 0, 0, 0] mixed (by kernel_rfl) ?_
    repeat (refine wD ?_)
    rw [gj, gj1]
    refine aG (Q1.length) _ _ _ (by simp) aQ bX bT ⟨Q1, y :: P2, _, j - 1, by rw [hs]; simp, by omega, rfl, fun u hu => ?_, ?_, rfl, rfl, rfl⟩
    ·rcases List.mem_cons.1 hu with rfl | hu
     ·exact hxy
     ·exact hP2 u hu
    ·rw [hDe, aVG (by simp; omega) (by simp; omega)]
     simp
   ·rw [dF hxy]
    repeat (refine wD ?_)
    refine aG (B.length - (q + 1)) _ _ _ (by first | omega | (simp only [List.length_append, List.length_cons, List.length_nil]; omega)) aQ bX bT (⟨q + 1, i + 1, D, by omega, rfl, .inl (by omega), done1 (fun u hu => ?_), rfl, rfl, rfl⟩)
    rcases List.mem_append.1 hu with hu | hu
    ·have : u ≤ y := Asc.cross id (Asc.left id hasc) u hu y (by simp)
     omega
    ·simp at hu; subst hu; omega
  ·have : P1 = [] := List.eq_nil_of_length_eq_zero (by omega)
   subst this
   (repeat refine aJ ?_); refine gT [0, 1, 2, 3, 4, 5, 6, 7, 8, 9, 10, 11, 12, 13, 14] [1, 1, 1, 0, 1, 1, 1, 0, 1, 1, 1, 1, 0, 0, 0] mixed (by kernel_rfl) ?_
   repeat (refine wD ?_)
   refine aG (B.length - (q + 1)) _ _ _ (by first | omega | (simp only [List.length_append, List.length_cons, List.length_nil]; omega)) aQ bX bT (⟨q + 1, i + 1, D, by omega, rfl, .inl (by omega), done1 (by simp), rfl, rfl, rfl⟩)
 ·have h1 : B.take (q + 1) = B := List.take_of_length_le (by omega)
  have h2 : B.drop (q + 1) = [] := List.drop_eq_nil_of_le (by omega)
  rw [h1, h2] at hD
  simp only [List.nil_append, ← List.append_assoc] at hD
  subst hD
  refine rX (by first | exact .inl rfl | exact .inr rfl) rfl _ _ bX bT (⟨rfl, rfl⟩)
theorem aPI : CD Tryz.prog 130 [.slice none 0 0, .int .i64 0, .int .i64 0] X w0 M0 I0 (fun _ M I => M0 = M ∧ I0 = I) := by
 refine eD Tryz.func130 rfl Tryz.ntmps130 rfl ?_
 repeat (refine wD ?_)
 refine aT [0, 1, 2] rfl (fun k G M I => k = 0 ∧ G = [(6, .int .i64 1)] ∧ M0 = M ∧ I0 = I) (0) _ _ _ aQ bX bT (⟨rfl, rfl, rfl, rfl⟩) ?_
 rintro k G M I ⟨rfl, rfl, rfl, rfl⟩
 repeat (refine wD ?_)
 refine rX (by first | exact .inl rfl | exact .inr rfl) rfl _ _ bX bT (⟨rfl, rfl⟩)
theorem aTJ {b n c : Nat} {tl : List Value} {D : List Int} (hn : n = D.length) (hb : n ≤ 12) :
  CD Tryz.prog 69 [.slice (some ⟨b, 0, none⟩) n c] X w0 (.blk b (recs (eI .i64) D ++ tl) 3 :: M0) I0 (fun _ M I => .blk b (recs (eI .i64) (xR id D) ++ tl) 3 :: M0 = M ∧ I0 = I) := by
 have h1 := aSO (X := X) (w0 := w0) (M0 := M0) (I0 := I0) (b := b) (c := c) (tl := tl) (P := []) (B := D) (S := []) (a := 0) (z := D.length) (n := n) (by simp [hn]) (by simp) (by simp) (by omega)
 simp only [List.append_nil, List.nil_append] at h1
 rw [← hn] at h1
 have hp : ∀ r : Int, CD Tryz.prog 101 [.slice (some ⟨b, 0, none⟩) n c, .int .i64 0, .int .i64 n, .int .i64 r] X w0 (.blk b (recs (eI .i64) D ++ tl) 3 :: M0) I0 (fun _ M I => .blk b (recs (eI .i64) (xR id D) ++ tl) 3 :: M0 = M ∧ I0 = I) := fun r => by
  refine eD Tryz.func101 rfl Tryz.ntmps101 rfl ?_
  repeat (refine wD ?_)
  refine aT [0] rfl (fun k G M I => k = 0 ∧ G = [(1, .int .i64 0), (2, .int .i64 n), (3, .int .i64 r), (8, .bool true), (9, .bool true)] ∧ M = .blk b (recs (eI .i64) D ++ tl) 3 :: M0 ∧ I0 = I) (0) _ _ _ aQ bX bT (⟨rfl, rfl, rfl, rfl⟩) ?_
  rintro k G M I ⟨rfl, rfl, rfl, rfl⟩
  repeat (refine wD ?_)
  (refine aV rfl (h1) rfl rfl ?_; rintro _ _ _ ⟨rfl, rfl⟩; refine ⟨okD, ?_⟩)
  repeat (refine wD ?_)
  refine rX (by first | exact .inl rfl | exact .inr rfl) rfl _ _ bX bT (⟨rfl, rfl⟩)
 refine eD Tryz.func69 rfl Tryz.ntmps69 rfl ?_
 repeat (refine wD ?_)
 (refine aV rfl (aKC (x := (n : Int)) (by omega) (by omega)) rfl rfl ?_; rintro _ _ _ ⟨rfl, rfl, r, rfl⟩; refine ⟨okD, ?_⟩)
 repeat (refine wD ?_)
 (refine aV rfl (hp r) rfl rfl ?_; rintro _ _ _ ⟨rfl, rfl⟩; refine ⟨okD, ?_⟩)
 repeat (refine wD ?_)
 refine rX (by first | exact .inl rfl | exact .inr rfl) rfl _ _ bX bT (⟨rfl, rfl⟩)
theorem aNU : CD Tryz.prog 69 [.slice none 0 0] X w0 M0 I0 (fun _ M I => M0 = M ∧ I0 = I) := by
 have hp : ∀ r : Int, CD Tryz.prog 101 [.slice none 0 0, .int .i64 0, .int .i64 0, .int .i64 r] X w0 M0 I0 (fun _ M I => M0 = M ∧ I0 = I) := fun r => by
  refine eD Tryz.func101 rfl Tryz.ntmps101 rfl ?_
  repeat (refine wD ?_)
  refine aT [0] rfl (fun k G M I => k = 0 ∧ G = [(1, .int .i64 0), (2, .int .i64 0), (3, .int .i64 r), (8, .bool true), (9, .bool true)] ∧ M0 = M ∧ I0 = I) (0) _ _ _ aQ bX bT (⟨rfl, rfl, rfl, rfl⟩) ?_
  rintro k G M I ⟨rfl, rfl, rfl, rfl⟩
  repeat (refine wD ?_)
  (refine aV rfl (aPI) rfl rfl ?_; rintro _ _ _ ⟨rfl, rfl⟩; refine ⟨okD, ?_⟩)
  repeat (refine wD ?_)
  refine rX (by first | exact .inl rfl | exact .inr rfl) rfl _ _ bX bT (⟨rfl, rfl⟩)
 refine eD Tryz.func69 rfl Tryz.ntmps69 rfl ?_
 repeat (refine wD ?_)
 (refine aV rfl (aKC (x := 0) (by omega) (by omega)) rfl rfl ?_; rintro _ _ _ ⟨rfl, rfl, r, rfl⟩; refine ⟨okD, ?_⟩)
 repeat (refine wD ?_)
 (refine aV rfl (hp r) rfl rfl ?_; rintro _ _ _ ⟨rfl, rfl⟩; refine ⟨okD, ?_⟩)
 repeat (refine wD ?_)
 refine rX (by first | exact .inl rfl | exact .inr rfl) rfl _ _ bX bT (⟨rfl, rfl⟩)
end
end Go.Proofs.YtkccjglmnhgabaaGreatDoor

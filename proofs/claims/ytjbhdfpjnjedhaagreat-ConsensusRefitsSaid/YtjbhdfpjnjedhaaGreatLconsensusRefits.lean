/- The law ConsensusRefits, for every input: the call returns true, and nothing that was there has turned. No condition. -/
import Derived.Test.YtjbhdfpjnjedhaaGreatRows
import Derived.WalkKit
import Derived.ProofKit
import Derived.OpenShut
import Derived.Test.YtjbhdfpjnjedhaaGreatZpab
import Derived.Test.YtjbhdfpjnjedhaaGreatZpbq
import Derived.Test.YtjbhdfpjnjedhaaGreatZpbp
namespace Go.Proofs.YtjbhdfpjnjedhaaGreat.consensusRefits
open Go.ChangeShapes Go.WideShapes Go.ChangeAt Go.RowKit Go.Fx
set_option linter.unusedVariables false
set_option linter.unusedSimpArgs false

theorem own : ownKnob Tryz.prog.godebug = none := by kernel_rfl
theorem laidOut : laidOutB Tryz.prog = true := by kernel_rfl
theorem readable : ∀ t ∈ Tryz.f8.params.toList, Tryz.prog.readableRec t = true ∧ t < Tryz.prog.types.size := by
 rw [Tryz.params8]
 intro t ht
 simp only [List.mem_cons, List.not_mem_nil, or_false] at ht
 rcases ht with rfl | rfl | rfl
 ·exact ⟨by kernel_rfl, of_decide_eq_true (by kernel_rfl)⟩
 ·exact ⟨by kernel_rfl, of_decide_eq_true (by kernel_rfl)⟩
 ·exact ⟨by kernel_rfl, of_decide_eq_true (by kernel_rfl)⟩
set_option maxHeartbeats 800000 in
set_option maxRecDepth 100000 in
theorem lifted (os : Os) (started : os.Started) (H : Type) (enc : TypeId × Value → H) :
  ReturnsInHanded {} Tryz.checked os 8 .any (Rows.consensusRefitsSpec.pre6 enc Tryz.prog Tryz.f8 Rows.consensusRefitsRow.domain false) (Rows.consensusRefitsSpec.post enc Tryz.prog Tryz.f8 false true false false) := by
 refine returnsInHanded_of_change (C := Tryz.checked) own started (by kernel_rfl) Tryz.func8
  (ChangeSpec.witness6 (enc := enc) (C := Tryz.checked) false ⟨#[], #[.slice none 0 0, .agg #[.int .i64 0, .int .i64 0, .int .i16 0, .int .i16 0, .bool false, .bool false], .agg #[.bool false, .slice none 0 0, .bool false, .slice none 0 0, .bool false, .slice none 0 0, .bool false, .slice none 0 0, .bool false, .slice none 0 0, .bool false, .slice none 0 0, .bool false, .slice none 0 0, .bool false, .slice none 0 0, .bool false, .slice none 0 0, .bool false, .slice none 0 0, .bool false, .slice none 0 0, .bool false, .slice none 0 0]], []⟩ 8 (by kernel_rfl) (by kernel_rfl) (by kernel_rfl) (by kernel_rfl)) ?_
 intro W base args ds gs before hval0 hW _ _
 have hval : ∀ (j : Nat) t v, Tryz.f8.params[j]? = some t → args[j]? = some v → Value.okWide Tryz.prog W .any base t v := hval0
 have hW' := hW
 obtain ⟨p, q, hA0, hV, rfl, _, _⟩ := hW
 have hA : DataW.TrodAll enc Tryz.prog W 0 (fun _ => true) true Tryz.f8.params.toList args.toList ds p := hA0
 have hA1 := hA
 rw [Tryz.params8] at hA hval
 obtain ⟨v0, vs0, d0, ds0, q0, r0, hargs, rfl, rfl, h0, k0⟩ := trodAll_cons hA
 obtain ⟨v1, vs1, d1, ds1, q1, r1, rfl, rfl, rfl, h1, k1⟩ := trodAll_cons k0
 obtain ⟨v2, vs2, d2, ds2, q2, r2, rfl, rfl, rfl, h2, k2⟩ := trodAll_cons k1
 obtain ⟨rfl, rfl, rfl⟩ := trodAll_nil k2
 obtain rfl : args = #[v0, v1, v2] := by cases args; simp_all
 obtain ⟨rfl, rfl⟩ := trodVars_none hV
 obtain ⟨q0, l0, c0, rfl, hs0, hn0⟩ := aOR (hval 0 _ v0 rfl rfl) h0
 obtain ⟨k1, t1, x1, y1, e1, u1, rfl, hx1, hy1⟩ := aLZ (hval 1 _ v1 rfl rfl) h1
 obtain ⟨a0, a1, a2, a3, a4, a5, rfl, i0, i1, i2, i3, i4, i5⟩ := aNC (hval 2 _ v2 rfl rfl) h2
 refine Calls.mono (CD.out (CD.mono (LRefs hx1 rfl rfl hn0 (List.Mem.tail _ (List.Mem.tail _ (List.Mem.tail _ (List.Mem.tail _ (List.Mem.tail _ (List.Mem.tail _ (List.Mem.head _))))))) (fun r hr => by simp only [List.mem_cons, List.not_mem_nil, or_false] at hr; rcases hr with rfl | rfl | rfl | rfl | rfl | rfl <;> (repeat (first | exact List.Mem.head _ | refine List.Mem.tail _ ?_)))) (fun _ _ _ h => h.2.2)) (((((((Mem.startS (Mem.start W) hs0).add (φ := isW a0) i0).add (φ := isW a1) i1).add (φ := isW a2) i2).add (φ := isW a3) i3).add (φ := isW a4) i4).add (φ := isW a5) i5)) ?_
 rintro e W' ⟨v, rfl, hE, rfl⟩
 simp only [List.append_nil] at hW' hA1
 refine ⟨_, rfl, _, _, _, [], _, [], hW', trodAll_cons_mk (shut_bool Tryz.underlying4 _) trodAll_mk0, wZ laidOut hE.below _ _ _ _ readable (fun x hx => hW'.lt x hx) hA1, rfl, hE.below.frame _, fun h => by cases h⟩

theorem c1 : laidOutB Tryz.prog = true := by kernel_rfl
theorem c2 : (Rows.consensusRefitsRow.inPlace == Tryz.prog.inPlace 8) = true := by kernel_rfl
theorem c3 : (Rows.consensusRefitsRow.unfollowed == Tryz.prog.unfollowed 8) = true := by kernel_rfl
theorem c4 : (Rows.consensusRefitsRow.recurses == Tryz.prog.recurses 8) = true := by kernel_rfl
theorem c5 : (Rows.consensusRefitsRow.named == Tryz.prog.varsNamed 8) = true := by kernel_rfl
theorem c6 : Tryz.prog.stopsHeard = true := by kernel_rfl
theorem c7 : Tryz.prog.mayEnter = true := by kernel_rfl
theorem c8 : (Rows.consensusRefitsRow.lifted == Tryz.prog.liftsFinal) = true := by kernel_rfl
theorem c9 : mapsRowed Tryz.prog = true := by kernel_rfl
theorem closed : joinedFacts Tryz.prog 8 Tryz.f8 Rows.consensusRefitsSpec Rows.consensusRefitsRow = true := by
 unfold joinedFacts
 simp only [Bool.and_eq_true]
 repeat' apply And.intro
 all_goals first | with_reducible exact c1 | with_reducible exact c2 | with_reducible exact c3 | with_reducible exact c4 | with_reducible exact c5 | with_reducible exact c6 | with_reducible exact c7 | with_reducible exact c8 | with_reducible exact c9 | kernel_rfl
theorem named : Tryz.pinned.checked.prog.funcNamed Rows.consensusRefitsRow.func = some 8 := by kernel_rfl
theorem inst : Tryz.f8.isInstance Tryz.pinned.checked.prog Rows.consensusRefitsRow.origin Rows.consensusRefitsRow.targs := of_decide_eq_true (by kernel_rfl)
theorem wrap : Tryz.f8.isWrapper Tryz.pinned.checked.prog Rows.consensusRefitsRow.wrapper Rows.consensusRefitsRow.mainSum := by unfold Func.isWrapper; first | (rw [if_pos (by decide +kernel)]; kernel_rfl) | (rw [if_neg (by decide +kernel)]; exact ⟨rfl, rfl⟩)
theorem over : Rows.consensusRefitsRow.holds Tryz.pinned (OpenSpec.ofChange Rows.consensusRefitsSpec) :=
 OpenClaim.holds_of_wide 8 Tryz.f8 rfl rfl rfl rfl rfl rfl rfl ⟨rfl, rfl, rfl, rfl, rfl⟩ rfl rfl rfl rfl rfl named Tryz.func8 closed
  inst wrap
  (fun os started H enc _ => lifted os started H enc)

theorem proved : Rows.ConsensusRefitsSaid :=
 over
#print axioms proved
end Go.Proofs.YtjbhdfpjnjedhaaGreat.consensusRefits

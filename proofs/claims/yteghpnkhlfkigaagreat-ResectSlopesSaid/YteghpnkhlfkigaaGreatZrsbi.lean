/- Drawn regions whose order forks more than once: what is left of a region as an end. Arrays: sliced, built, read by an index; loads of eight and twelve cells. -/
import Derived.Test.YteghpnkhlfkigaaGreatZrsav
set_option linter.unusedSimpArgs false
set_option linter.unusedVariables false
namespace Go.Fx
def Rest (P : Program) (l : List Oper) (Q : Exit → Act → World → Prop) (Cs : Nat → World → Prop) (fuel k : Nat) (listed : Array Bool) : Exit → Act → World → Prop
  | .normal, a, w => wpAnyC P l.toArray Q Cs fuel k listed a w
  | _, _, _ => False
section
variable {P : Program} {n : Nat} {Q : Exit → Act → World → Prop} {G : Env} {w : World} {l : List Oper} {Cs : Nat → World → Prop}
theorem N_restPre {fuel fuel' k : Nat} {listed listed' : Array Bool} (p ms : List Nat) (hm : ∀ s w, Cs s w → Cs (s + 1) w) (hs : Region.noSelect l.toArray = true) (hok : orderPre l.toArray p ms listed = some listed') (hf : fuel' = fuel + p.length) (hsz : listed.size = l.toArray.size) (hC : Cs k w)
    (h : R P n l (Rest P l Q Cs fuel (k + cntE l.toArray p) listed') (.any Cs k ms) (pick l p) G w) : N n (Rest P l Q Cs fuel' k listed) .normal G w := ⟨fun a ha => by
  subst hf
  exact any_prefix hm hs p ms k listed a w hC hsz hok (fun _ _ _ _ hq => hq) (h.go a ha)⟩
theorem N_restEnd {fuel k : Nat} {listed : Array Bool} (p ms : List Nat) (hm : ∀ s w, Cs s w → Cs (s + 1) w) (hs : Region.noSelect l.toArray = true) (hok : orderOk l.toArray p ms listed = true) (hf : fuel = p.length) (hsz : listed.size = l.toArray.size) (hC : Cs k w)
    (h : R P n l Q (.any Cs k ms) (pick l p) G w) : N n (Rest P l Q Cs fuel k listed) .normal G w := ⟨fun a ha => by
  subst hf
  exact any_of_order hm hs p ms k listed a w hC hsz hok (h.go a ha)⟩
theorem rest_one {fuel k i : Nat} {listed : Array Bool} {o : Oper} {a : Act} (hi : l.toArray[i]? = some o) (hk : freeK o.op = false)
    (h : wpM P l.toArray (Rest P l Q Cs fuel (k + 1) (listed.setIfInBounds i true)) (.any Cs k []) (pick l [i]) a w) :
    wpOp P l.toArray QF i (fun a' w' => Cs (k + eAt l.toArray i) w' ∧ wpAnyC P l.toArray Q Cs fuel (k + eAt l.toArray i) (listed.setIfInBounds i true) a' w') a w := by
  have hg : nth l i = o := nth_eq l i o (by simpa using hi)
  simp only [pick, hg] at h
  rw [eAt_eff hi hk]
  unfold wpOp
  simp only [hi]
  by_cases hw : Region.wanted o (yielded l.toArray a.tmps) = true
  · rw [if_pos hw]
    rcases h.1 hw with ⟨hk2, _⟩ | ⟨_, hk2⟩
    · rw [hk] at hk2; cases hk2
    · exact .inl (Oper.wp_mono (fun a' w' ⟨h1, h2⟩ => ⟨h1, h2⟩) hk2)
  · rw [if_neg hw]
    obtain ⟨hh1, hh2⟩ := h.2 (by simpa using hw)
    simp only [Mode.held, hk, cond_false] at hh1
    exact ⟨hh1, hh2⟩
def effB (ops : Array Oper) (i : Nat) : Bool :=
  match ops[i]? with
  | some o => !freeK o.op
  | none => false
theorem N_restFork {fuel k i j : Nat} {listed : Array Bool} (hr : (Region.ready .any l.toArray listed == [i, j] && effB l.toArray i && effB l.toArray j) = true)
    (h1 : R P n l (Rest P l Q Cs fuel (k + 1) (listed.setIfInBounds i true)) (.any Cs k []) (pick l [i]) G w)
    (h2 : R P n l (Rest P l Q Cs fuel (k + 1) (listed.setIfInBounds j true)) (.any Cs k []) (pick l [j]) G w) : N n (Rest P l Q Cs (fuel + 1) k listed) .normal G w := ⟨fun a ha => by
  simp only [Bool.and_eq_true, beq_iff_eq] at hr
  obtain ⟨⟨hr, e1⟩, e2⟩ := hr
  have get : ∀ x, effB l.toArray x = true → ∃ o, l.toArray[x]? = some o ∧ freeK o.op = false := fun x hx => by
    unfold effB at hx
    cases ho : l.toArray[x]? with
    | none => simp [ho] at hx
    | some o => simp [ho] at hx; exact ⟨o, rfl, hx⟩
  obtain ⟨o1, ho1, hk1⟩ := get i e1
  obtain ⟨o2, ho2, hk2⟩ := get j e2
  refine ⟨fun h0 => (by rw [hr] at h0; cases h0), fun x hx => ?_⟩
  rw [hr] at hx
  simp only [List.mem_cons, List.not_mem_nil, or_false] at hx
  rcases hx with rfl | rfl
  · exact rest_one ho1 hk1 (h1.go a ha)
  · exact rest_one ho2 hk2 (h2.go a ha)⟩
theorem N_restFork3 {fuel k i j m : Nat} {listed : Array Bool} (hr : (Region.ready .any l.toArray listed == [i, j, m] && effB l.toArray i && effB l.toArray j && effB l.toArray m) = true)
    (h1 : R P n l (Rest P l Q Cs fuel (k + 1) (listed.setIfInBounds i true)) (.any Cs k []) (pick l [i]) G w)
    (h2 : R P n l (Rest P l Q Cs fuel (k + 1) (listed.setIfInBounds j true)) (.any Cs k []) (pick l [j]) G w)
    (h3 : R P n l (Rest P l Q Cs fuel (k + 1) (listed.setIfInBounds m true)) (.any Cs k []) (pick l [m]) G w) : N n (Rest P l Q Cs (fuel + 1) k listed) .normal G w := ⟨fun a ha => by
  simp only [Bool.and_eq_true, beq_iff_eq] at hr
  obtain ⟨⟨⟨hr, e1⟩, e2⟩, e3⟩ := hr
  have get : ∀ x, effB l.toArray x = true → ∃ o, l.toArray[x]? = some o ∧ freeK o.op = false := fun x hx => by
    unfold effB at hx
    cases ho : l.toArray[x]? with
    | none => simp [ho] at hx
    | some o => simp [ho] at hx; exact ⟨o, rfl, hx⟩
  obtain ⟨o1, ho1, hk1⟩ := get i e1
  obtain ⟨o2, ho2, hk2⟩ := get j e2
  obtain ⟨o3, ho3, hk3⟩ := get m e3
  refine ⟨fun h0 => (by rw [hr] at h0; cases h0), fun x hx => ?_⟩
  rw [hr] at hx
  simp only [List.mem_cons, List.not_mem_nil, or_false] at hx
  rcases hx with rfl | rfl | rfl
  · exact rest_one ho1 hk1 (h1.go a ha)
  · exact rest_one ho2 hk2 (h2.go a ha)
  · exact rest_one ho3 hk3 (h3.go a ha)⟩
theorem T_rest {id : Nat} (Cs : Nat → World → Prop) (hx : P.follows .mixedOrders = true) (h : N n (Rest P l Q Cs l.length 0 (Array.replicate l.length false)) .normal G w.drew) : T P n (.region id l.toArray true) Q G w := ⟨fun a ha => by
  refine wp_region_any hx ?_
  have := h.go a ha
  have e : l.toArray.size = l.length := by simp
  rw [e]
  exact wpAny_of_C _ _ _ _ _ this⟩
end
section
variable {P : Program} {n : Nat} {Q : Exit → Act → World → Prop} {G : Env} {X : List Nat} {w0 : World} {M M1 : List Ent} {I I1 : List Imm} {l : List Oper}
theorem TD_rest {id : Nat} (M1 : List Ent) (I1 : List Imm) (hx : P.follows .mixedOrders = true) (h : ND n (Rest P l Q (Cst X w0 M1 I1) l.length 0 (Array.replicate l.length false)) .normal G X w0 M I) : TD P n (.region id l.toArray true) Q G X w0 M I :=
  ⟨fun w hw => T_rest (Cst X w0 M1 I1) hx (h.go w.drew hw.drew)⟩
theorem ND_restPre {fuel fuel' k : Nat} {listed listed' : Array Bool} (p ms : List Nat) (hM : SubP M M1) (hI : Inc I I1) (hs : Region.noSelect l.toArray = true) (hok : orderPre l.toArray p ms listed = some listed') (hf : fuel' = fuel + p.length) (hsz : listed.size = l.toArray.size)
    (h : RD P n l (Rest P l Q (Cst X w0 M1 I1) fuel (k + cntE l.toArray p) listed') (.any (Cst X w0 M1 I1) k ms) (pick l p) G X w0 M I) : ND n (Rest P l Q (Cst X w0 M1 I1) fuel' k listed) .normal G X w0 M I :=
  ⟨fun w hw => N_restPre p ms (fun _ _ h => h) hs hok hf hsz (hw.weak hM hI) (h.go w hw)⟩
theorem ND_restEnd {fuel k : Nat} {listed : Array Bool} (p ms : List Nat) (hM : SubP M M1) (hI : Inc I I1) (hs : Region.noSelect l.toArray = true) (hok : orderOk l.toArray p ms listed = true) (hf : fuel = p.length) (hsz : listed.size = l.toArray.size)
    (h : RD P n l Q (.any (Cst X w0 M1 I1) k ms) (pick l p) G X w0 M I) : ND n (Rest P l Q (Cst X w0 M1 I1) fuel k listed) .normal G X w0 M I :=
  ⟨fun w hw => N_restEnd p ms (fun _ _ h => h) hs hok hf hsz (hw.weak hM hI) (h.go w hw)⟩
theorem ND_restFork {fuel k i j : Nat} {listed : Array Bool} (hr : (Region.ready .any l.toArray listed == [i, j] && effB l.toArray i && effB l.toArray j) = true)
    (h1 : RD P n l (Rest P l Q (Cst X w0 M1 I1) fuel (k + 1) (listed.setIfInBounds i true)) (.any (Cst X w0 M1 I1) k []) (pick l [i]) G X w0 M I)
    (h2 : RD P n l (Rest P l Q (Cst X w0 M1 I1) fuel (k + 1) (listed.setIfInBounds j true)) (.any (Cst X w0 M1 I1) k []) (pick l [j]) G X w0 M I) : ND n (Rest P l Q (Cst X w0 M1 I1) (fuel + 1) k listed) .normal G X w0 M I :=
  ⟨fun w hw => N_restFork hr (h1.go w hw) (h2.go w hw)⟩
theorem ND_restFork3 {fuel k i j m : Nat} {listed : Array Bool} (hr : (Region.ready .any l.toArray listed == [i, j, m] && effB l.toArray i && effB l.toArray j && effB l.toArray m) = true)
    (h1 : RD P n l (Rest P l Q (Cst X w0 M1 I1) fuel (k + 1) (listed.setIfInBounds i true)) (.any (Cst X w0 M1 I1) k []) (pick l [i]) G X w0 M I)
    (h2 : RD P n l (Rest P l Q (Cst X w0 M1 I1) fuel (k + 1) (listed.setIfInBounds j true)) (.any (Cst X w0 M1 I1) k []) (pick l [j]) G X w0 M I)
    (h3 : RD P n l (Rest P l Q (Cst X w0 M1 I1) fuel (k + 1) (listed.setIfInBounds m true)) (.any (Cst X w0 M1 I1) k []) (pick l [m]) G X w0 M I) : ND n (Rest P l Q (Cst X w0 M1 I1) (fuel + 1) k listed) .normal G X w0 M I :=
  ⟨fun w hw => N_restFork3 hr (h1.go w hw) (h2.go w hw) (h3.go w hw)⟩
end
end Go.Fx
namespace Go.Fx
section
variable {P : Program} {n : Nat} {G : Env} {ty : TypeId} {C : World → Prop}
theorem Const_sliceA {t e : TypeId} {sz len b o : Nat} {x : Operand} [ht : ArrTy P t len e sz] (hx : ev G x = some (.pointer (some ⟨b, o, none⟩))) :
    Const P n G (.slice t x none none none) ty C (.slice (some ⟨b, o, none⟩) len len) := by
  refine ⟨?_⟩
  intro st ha dst pos after guard w _
  by_cases h : len = 0
  · subst h
    simp [execOp, Instr.sliceAt, ha.ev hx, run_und ht.und, run_sizeOf ht.size, Instr.sliceBounds, Instr.sureAddr]
  · simp [execOp, Instr.sliceAt, ha.ev hx, run_und ht.und, run_sizeOf ht.size, Instr.sliceBounds, Instr.sureAddr, h, add_lit]
theorem Const_arr {t e : TypeId} {sz len sz' by_ : Nat} {z : List Value} {parts : List (Nat × Operand)} {pvs : List (Nat × Value)} {cells : List Value} [ht : ArrTy P t len e sz] [hz : ElemTy P t sz' by_ z]
    (hp : parts.map (fun p => (p.1, ev G p.2)) = pvs.map (fun p => (p.1, some p.2)))
    (hf : Instr.fill (fun i => some (i * sz, sz)) z.toArray pvs = some cells.toArray) : Const P n G (.build t parts.toArray) ty C (.agg cells.toArray) := by
  refine Const_build hp fun w => ?_
  obtain ⟨i, hi, h3⟩ := Option.map_eq_some_iff.1 hz.info
  simp only [Prod.mk.injEq] at h3
  obtain ⟨h4, h5, h6⟩ := h3
  obtain ⟨v, hv, hc⟩ := Option.map_eq_some_iff.1 h6
  have hzv : (zeroValue t).run P w = .ok v w := by simp [zeroValue, typeInfo, hi, hv]
  unfold Instr.build
  rw [Sem.run_bind, hzv, Result.andThen_ok, Sem.run_bind, run_und ht.und, Result.andThen_ok]
  simp only [Sem.run_bind, run_sizeOf ht.size, Result.andThen_ok, hc, hf]
  rfl
theorem Const_indexV {t e : TypeId} {sz len sz' : Nat} {x ix : Operand} {cs vs : List Value} {k : IntKind} {i : Int} [ht : ArrTy P t len e sz] [he : AggTy P e sz'] (hx : ev G x = some (.agg cs.toArray)) (hi : ev G ix = some (.int k i)) (h : 0 ≤ i ∧ i < len)
    (hv : (cs.drop (i.toNat * sz)).take sz = vs) : Const P n G (.index t x ix) ty C (.agg vs.toArray) := by
  refine ⟨?_⟩
  intro st ha dst pos after guard w _
  simp [execOp, Instr.index, ha.ev hx, ha.ev hi, asIntOf, run_und ht.und, h.1, h.2, part, run_isAgg_yes, run_sizeOf ht.size, List.extract_eq_take_drop, hv]
end
def PlOk (place : Nat → Option (Nat × Nat)) : Nat → Nat → List Value → Prop
  | _, _, [] => True
  | k, off, v :: r => place k = some (off, v.cells.size) ∧ PlOk place (k + 1) (off + v.cells.size) r
def cellsOf' (vals : List Value) : List Value := vals.flatMap (fun v => v.cells.toList)
theorem fill_places (place : Nat → Option (Nat × Nat)) : ∀ (vals : List Value) (k : Nat) (pre : List Value) (base : Array Value), base.size = pre.length + (cellsOf' vals).length → base.toList.take pre.length = pre → PlOk place k pre.length vals →
    Instr.fill place base ((vals.zipIdx k).map (fun p => (p.2, p.1))) = some (pre ++ cellsOf' vals).toArray
  | [], k, pre, base, hb, ht, _ => by
    have : base.toList = pre := by
      rw [← ht, List.take_of_length_le]
      simp [hb, cellsOf']
    simp [Instr.fill, cellsOf', ← this]
  | v :: r, k, pre, base, hb, ht, hc => by
    obtain ⟨h1, h2⟩ := hc
    have hcl : cellsOf' (v :: r) = v.cells.toList ++ cellsOf' r := by simp [cellsOf']
    have hcs : v.cells.toList.length = v.cells.size := by simp
    have hlt : pre.length + v.cells.size ≤ base.size := by
      rw [hb, hcl, List.length_append, hcs]; omega
    simp only [List.zipIdx_cons, List.map_cons, Instr.fill, h1]
    have hno : ¬ (v.cells.size ≠ v.cells.size ∨ pre.length + v.cells.size > base.size) := by omega
    have hf := fold_splice pre.length v.cells.toList base (by simp; omega)
    simp only [Array.toArray_toList] at hf
    simp only [Bool.or_eq_true, decide_eq_true_eq, hno, if_false, hf]
    rw [fill_places place r (k + 1) (pre ++ v.cells.toList) _ ?_ ?_ (by rw [List.length_append, hcs]; exact h2)]
    · rw [hcl, List.append_assoc]
    · simp only [List.size_toArray, List.length_append, List.length_take, List.length_drop, hcs, Array.length_toList]
      rw [hcl, List.length_append, hcs] at hb
      omega
    · simp only [ht]
      rw [List.take_append_of_le_length (by simp), List.take_of_length_le (by simp)]
section
variable {P : Program} {n : Nat} {G : Env} {ty : TypeId} {C : World → Prop}
theorem Const_structC {t : TypeId} {parts : List (Nat × Operand)} {vals cells : List Value} {places : List (Nat × Nat)} {z : List Value} [ht : StructTy P t places z]
    (hp : parts.map (fun p => (p.1, ev G p.2)) = vals.zipIdx.map (fun p => (p.2, some p.1))) (hpl : PlOk (places.toArray[·]?) 0 0 vals) (hc : cellsOf' vals = cells) (hz : z.length = cells.length) :
    Const P n G (.build t parts.toArray) ty C (.agg cells.toArray) := by
  refine Const_struct (pvs := vals.zipIdx.map (fun p => (p.2, p.1))) (places := places) (z := z) (by rw [hp]; simp) ?_
  have := fill_places (places.toArray[·]?) vals 0 [] z.toArray (by simp [hc, hz]) (by simp) (by simpa using hpl)
  rw [hc] at this
  simpa using this
theorem Const_arrC {t e : TypeId} {sz len sz' by_ : Nat} {z : List Value} {parts : List (Nat × Operand)} {vals cells : List Value} [ht : ArrTy P t len e sz] [hz : ElemTy P t sz' by_ z]
    (hp : parts.map (fun p => (p.1, ev G p.2)) = vals.zipIdx.map (fun p => (p.2, some p.1))) (hs : ∀ v ∈ vals, v.cells.size = sz) (hc : cellsOf' vals = cells) (hl : z.length = vals.length * sz) :
    Const P n G (.build t parts.toArray) ty C (.agg cells.toArray) := by
  refine Const_arr (pvs := vals.zipIdx.map (fun p => (p.2, p.1))) (by rw [hp]; simp) ?_
  have := fill_seq sz vals 0 [] z.toArray (by simp) (by simp [hl]) (by simp) hs
  have h2 : vals.flatMap (fun v => v.cells.toList) = cells := hc
  rw [h2] at this
  simpa using this
end
theorem Const_neB {P : Program} {n : Nat} {G : Env} {ty : TypeId} {C : World → Prop} {t t' : TypeId} {x y : Operand} {a b : Bool} [ht : BoolTy P t] (hx : ev G x = some (.bool a)) (hy : ev G y = some (.bool b)) :
    Const P n G (.binOp .neq t x y t') ty C (.bool (!(a == b))) := by
  refine ⟨?_⟩
  intro s ha dst pos after guard w _
  have e1 : (eqGuard .neq t x y (.bool a) (.bool b)).run P w = .ok () w := rfl
  simp only [execOp, ha.ev hx, ha.ev hy, Sem.run_bind, e1, Result.andThen_ok, run_neq_bool _ t a b ht.und, Sem.run_pure]
theorem recs_part {α : Type} [Inhabited α] {enc : α → List Value} {sz : Nat} [h : Sized enc sz] {ms : List α} {i : Int} (hi : 0 ≤ i ∧ i < ms.length) : ((recs enc ms).drop (i.toNat * sz)).take sz = enc (gt ms i) := by
  apply List.ext_getElem?
  intro j
  have hl := h.len (gt ms i)
  rw [List.getElem?_take]
  by_cases hj : j < sz
  · rw [if_pos hj, List.getElem?_drop, List.getElem?_eq_getElem (by omega : j < (enc (gt ms i)).length)]
    exact recs_nat ms i.toNat j _ _ (gt_some hi) (List.getElem?_eq_getElem (by omega))
  · rw [if_neg hj, List.getElem?_eq_none (by omega)]
theorem AtsZ.n8 {cs : List Value} {o : Nat} {a b c d e f g h : Value} (h0 : cs[o]? = some a) (h1 : cs[o + 1]? = some b) (h2 : cs[o + 2]? = some c) (h3 : cs[o + 3]? = some d) (h4 : cs[o + 4]? = some e) (h5 : cs[o + 5]? = some f) (h6 : cs[o + 6]? = some g) (h7 : cs[o + 7]? = some h) : AtsZ cs o [a, b, c, d, e, f, g, h] 8 := ⟨⟨fun j v hj => by
  match j, hj with
  | 0, hj => simp at hj; subst hj; exact h0
  | 1, hj => simp at hj; subst hj; exact h1
  | 2, hj => simp at hj; subst hj; exact h2
  | 3, hj => simp at hj; subst hj; exact h3
  | 4, hj => simp at hj; subst hj; exact h4
  | 5, hj => simp at hj; subst hj; exact h5
  | 6, hj => simp at hj; subst hj; exact h6
  | 7, hj => simp at hj; subst hj; exact h7
  | j + 8, hj => simp at hj⟩, rfl⟩
theorem atY {cs vs : List Value} {o sz : Nat} (h : AtsZ cs o vs sz := by first | (with_reducible refine AtsZ.r ?_; exact bdI) | (with_reducible refine AtsZ.r2 ?_ ?_ ?_; exact bdI; rfl; rfl) | (with_reducible refine AtsZ.r4 ?_ ?_ ?_ ?_ ?_; exact bdI; rfl; rfl; rfl; rfl) | exact AtsZ.all rfl | exact AtsZ.n2 rfl rfl | exact AtsZ.n4 rfl rfl rfl rfl | exact AtsZ.n8 rfl rfl rfl rfl rfl rfl rfl rfl | (refine AtsZ.r ?_; exact bdI) | (refine AtsZ.app ?_; refine AtsZ.r ?_; exact bdI)) : AtsZ cs o vs sz := h
end Go.Fx

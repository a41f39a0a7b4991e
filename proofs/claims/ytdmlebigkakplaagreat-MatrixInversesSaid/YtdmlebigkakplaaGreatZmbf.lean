/- Drawn regions whose order forks more than once: what is left of a region as an end. Matrices: elimination as a function on lists; one or two rows brought to the front. -/
import Derived.Test.YtdmlebigkakplaaGreatZmau
import Derived.Test.YtdmlebigkakplaaGreatZmbe
set_option linter.unusedSimpArgs false
set_option linter.unusedVariables false
namespace Go.Fx
def Rest (P : Program) (l : List Oper) (Q : Exit → Act → World → Prop) (Cs : Nat → World → Prop) (fuel k : Nat) (listed : Array Bool) : Exit → Act → World → Prop
  | .normal, a, w => wpAnyC P l.toArray Q Cs fuel k listed a w
  | _, _, _ => False
section
variable {P : Program} {n : Nat} {Q : Exit → Act → World → Prop} {G : Env} {w : World} {l : List Oper} {Cs : Nat → World → Prop}
theorem N_restPre {fuel fuel' k : Nat} {listed listed' : Array Bool} (p ms : List Nat) (hm : ∀ s w, Cs s w → Cs (s + 1) w) (hs : Region.noSelect l.toArray = true) (hok : orderPre l.toArray p ms listed = some listed') (hf : fuel' = fuel + p.length) (hsz : listed.size = l.toArray.size) (hC : Cs k w)
    (h : R P n l (Rest P l Q Cs fuel (k + cntE l.toArray p) listed') (.any Cs k ms) (pick l p) G w) : N n (Rest P l Q Cs fuel' k listed) .normal G w := ⟨fun a ha => by
  subst hf
  exact any_prefix hm hs p ms k listed a w hC hsz hok (fun _ _ _ _ hq => hq) (h.go a ha)⟩
theorem N_restEnd {fuel k : Nat} {listed : Array Bool} (p ms : List Nat) (hm : ∀ s w, Cs s w → Cs (s + 1) w) (hs : Region.noSelect l.toArray = true) (hok : orderOk l.toArray p ms listed = true) (hf : fuel = p.length) (hsz : listed.size = l.toArray.size) (hC : Cs k w)
    (h : R P n l Q (.any Cs k ms) (pick l p) G w) : N n (Rest P l Q Cs fuel k listed) .normal G w := ⟨fun a ha => by
  subst hf
  exact any_of_order hm hs p ms k listed a w hC hsz hok (h.go a ha)⟩
theorem rest_one {fuel k i : Nat} {listed : Array Bool} {o : Oper} {a : Act} (hi : l.toArray[i]? = some o) (hk : freeK o.op = false)
    (h : wpM P l.toArray (Rest P l Q Cs fuel (k + 1) (listed.setIfInBounds i true)) (.any Cs k []) (pick l [i]) a w) :
    wpOp P l.toArray QF i (fun a' w' => Cs (k + eAt l.toArray i) w' ∧ wpAnyC P l.toArray Q Cs fuel (k + eAt l.toArray i) (listed.setIfInBounds i true) a' w') a w := by
  have hg : nth l i = o := nth_eq l i o (by simpa using hi)
  simp only [pick, hg] at h
  rw [eAt_eff hi hk]
  unfold wpOp
  simp only [hi]
  by_cases hw : Region.wanted o (yielded l.toArray a.tmps) = true
  · rw [if_pos hw]
    rcases h.1 hw with ⟨hk2, _⟩ | ⟨_, hk2⟩
    · rw [hk] at hk2; cases hk2
    · exact .inl (Oper.wp_mono (fun a' w' ⟨h1, h2⟩ => ⟨h1, h2⟩) hk2)
  · rw [if_neg hw]
    obtain ⟨hh1, hh2⟩ := h.2 (by simpa using hw)
    simp only [Mode.held, hk, cond_false] at hh1
    exact ⟨hh1, hh2⟩
def effB (ops : Array Oper) (i : Nat) : Bool :=
  match ops[i]? with
  | some o => !freeK o.op
  | none => false
theorem N_restFork {fuel k i j : Nat} {listed : Array Bool} (hr : (Region.ready .any l.toArray listed == [i, j] && effB l.toArray i && effB l.toArray j) = true)
    (h1 : R P n l (Rest P l Q Cs fuel (k + 1) (listed.setIfInBounds i true)) (.any Cs k []) (pick l [i]) G w)
    (h2 : R P n l (Rest P l Q Cs fuel (k + 1) (listed.setIfInBounds j true)) (.any Cs k []) (pick l [j]) G w) : N n (Rest P l Q Cs (fuel + 1) k listed) .normal G w := ⟨fun a ha => by
  simp only [Bool.and_eq_true, beq_iff_eq] at hr
  obtain ⟨⟨hr, e1⟩, e2⟩ := hr
  have get : ∀ x, effB l.toArray x = true → ∃ o, l.toArray[x]? = some o ∧ freeK o.op = false := fun x hx => by
    unfold effB at hx
    cases ho : l.toArray[x]? with
    | none => simp [ho] at hx
    | some o => simp [ho] at hx; exact ⟨o, rfl, hx⟩
  obtain ⟨o1, ho1, hk1⟩ := get i e1
  obtain ⟨o2, ho2, hk2⟩ := get j e2
  refine ⟨fun h0 => (by rw [hr] at h0; cases h0), fun x hx => ?_⟩
  rw [hr] at hx
  simp only [List.mem_cons, List.not_mem_nil, or_false] at hx
  rcases hx with rfl | rfl
  · exact rest_one ho1 hk1 (h1.go a ha)
  · exact rest_one ho2 hk2 (h2.go a ha)⟩
theorem N_restFork3 {fuel k i j m : Nat} {listed : Array Bool} (hr : (Region.ready .any l.toArray listed == [i, j, m] && effB l.toArray i && effB l.toArray j && effB l.toArray m) = true)
    (h1 : R P n l (Rest P l Q Cs fuel (k + 1) (listed.setIfInBounds i true)) (.any Cs k []) (pick l [i]) G w)
    (h2 : R P n l (Rest P l Q Cs fuel (k + 1) (listed.setIfInBounds j true)) (.any Cs k []) (pick l [j]) G w)
    (h3 : R P n l (Rest P l Q Cs fuel (k + 1) (listed.setIfInBounds m true)) (.any Cs k []) (pick l [m]) G w) : N n (Rest P l Q Cs (fuel + 1) k listed) .normal G w := ⟨fun a ha => by
  simp only [Bool.and_eq_true, beq_iff_eq] at hr
  obtain ⟨⟨⟨hr, e1⟩, e2⟩, e3⟩ := hr
  have get : ∀ x, effB l.toArray x = true → ∃ o, l.toArray[x]? = some o ∧ freeK o.op = false := fun x hx => by
    unfold effB at hx
    cases ho : l.toArray[x]? with
    | none => simp [ho] at hx
    | some o => simp [ho] at hx; exact ⟨o, rfl, hx⟩
  obtain ⟨o1, ho1, hk1⟩ := get i e1
  obtain ⟨o2, ho2, hk2⟩ := get j e2
  obtain ⟨o3, ho3, hk3⟩ := get m e3
  refine ⟨fun h0 => (by rw [hr] at h0; cases h0), fun x hx => ?_⟩
  rw [hr] at hx
  simp only [List.mem_cons, List.not_mem_nil, or_false] at hx
  rcases hx with rfl | rfl | rfl
  · exact rest_one ho1 hk1 (h1.go a ha)
  · exact rest_one ho2 hk2 (h2.go a ha)
  · exact rest_one ho3 hk3 (h3.go a ha)⟩
theorem T_rest {id : Nat} (Cs : Nat → World → Prop) (hx : P.follows .mixedOrders = true) (h : N n (Rest P l Q Cs l.length 0 (Array.replicate l.length false)) .normal G w.drew) : T P n (.region id l.toArray true) Q G w := ⟨fun a ha => by
  refine wp_region_any hx ?_
  have := h.go a ha
  have e : l.toArray.size = l.length := by simp
  rw [e]
  exact wpAny_of_C _ _ _ _ _ this⟩
end
section
variable {P : Program} {n : Nat} {Q : Exit → Act → World → Prop} {G : Env} {X : List Nat} {w0 : World} {M M1 : List Ent} {I I1 : List Imm} {l : List Oper}
theorem TD_rest {id : Nat} (M1 : List Ent) (I1 : List Imm) (hx : P.follows .mixedOrders = true) (h : ND n (Rest P l Q (Cst X w0 M1 I1) l.length 0 (Array.replicate l.length false)) .normal G X w0 M I) : TD P n (.region id l.toArray true) Q G X w0 M I :=
  ⟨fun w hw => T_rest (Cst X w0 M1 I1) hx (h.go w.drew hw.drew)⟩
theorem ND_restPre {fuel fuel' k : Nat} {listed listed' : Array Bool} (p ms : List Nat) (hM : SubP M M1) (hI : Inc I I1) (hs : Region.noSelect l.toArray = true) (hok : orderPre l.toArray p ms listed = some listed') (hf : fuel' = fuel + p.length) (hsz : listed.size = l.toArray.size)
    (h : RD P n l (Rest P l Q (Cst X w0 M1 I1) fuel (k + cntE l.toArray p) listed') (.any (Cst X w0 M1 I1) k ms) (pick l p) G X w0 M I) : ND n (Rest P l Q (Cst X w0 M1 I1) fuel' k listed) .normal G X w0 M I :=
  ⟨fun w hw => N_restPre p ms (fun _ _ h => h) hs hok hf hsz (hw.weak hM hI) (h.go w hw)⟩
theorem ND_restEnd {fuel k : Nat} {listed : Array Bool} (p ms : List Nat) (hM : SubP M M1) (hI : Inc I I1) (hs : Region.noSelect l.toArray = true) (hok : orderOk l.toArray p ms listed = true) (hf : fuel = p.length) (hsz : listed.size = l.toArray.size)
    (h : RD P n l Q (.any (Cst X w0 M1 I1) k ms) (pick l p) G X w0 M I) : ND n (Rest P l Q (Cst X w0 M1 I1) fuel k listed) .normal G X w0 M I :=
  ⟨fun w hw => N_restEnd p ms (fun _ _ h => h) hs hok hf hsz (hw.weak hM hI) (h.go w hw)⟩
theorem ND_restFork {fuel k i j : Nat} {listed : Array Bool} (hr : (Region.ready .any l.toArray listed == [i, j] && effB l.toArray i && effB l.toArray j) = true)
    (h1 : RD P n l (Rest P l Q (Cst X w0 M1 I1) fuel (k + 1) (listed.setIfInBounds i true)) (.any (Cst X w0 M1 I1) k []) (pick l [i]) G X w0 M I)
    (h2 : RD P n l (Rest P l Q (Cst X w0 M1 I1) fuel (k + 1) (listed.setIfInBounds j true)) (.any (Cst X w0 M1 I1) k []) (pick l [j]) G X w0 M I) : ND n (Rest P l Q (Cst X w0 M1 I1) (fuel + 1) k listed) .normal G X w0 M I :=
  ⟨fun w hw => N_restFork hr (h1.go w hw) (h2.go w hw)⟩
theorem ND_restFork3 {fuel k i j m : Nat} {listed : Array Bool} (hr : (Region.ready .any l.toArray listed == [i, j, m] && effB l.toArray i && effB l.toArray j && effB l.toArray m) = true)
    (h1 : RD P n l (Rest P l Q (Cst X w0 M1 I1) fuel (k + 1) (listed.setIfInBounds i true)) (.any (Cst X w0 M1 I1) k []) (pick l [i]) G X w0 M I)
    (h2 : RD P n l (Rest P l Q (Cst X w0 M1 I1) fuel (k + 1) (listed.setIfInBounds j true)) (.any (Cst X w0 M1 I1) k []) (pick l [j]) G X w0 M I)
    (h3 : RD P n l (Rest P l Q (Cst X w0 M1 I1) fuel (k + 1) (listed.setIfInBounds m true)) (.any (Cst X w0 M1 I1) k []) (pick l [m]) G X w0 M I) : ND n (Rest P l Q (Cst X w0 M1 I1) (fuel + 1) k listed) .normal G X w0 M I :=
  ⟨fun w hw => N_restFork3 hr (h1.go w hw) (h2.go w hw) (h3.go w hw)⟩
end
end Go.Fx
namespace Go.Proofs.YtdmlebigkakplaaGreat
open Go Go.Fx
abbrev Mt := List (List Rat)
def rowAt (A : Mt) (i : Nat) : List Rat := A.getD i []
def at2 (A : Mt) (i j : Nat) : Rat := (rowAt A i).getD j 0
def swp (A : Mt) (r k : Nat) : Mt := (A.set r (rowAt A k)).set k (rowAt A r)
def scaleFrom (j : Nat) (κ : Rat) (l : List Rat) : List Rat := l.mapIdx (fun c x => if c < j then x else κ * x)
def subFrom (j : Nat) (κ : Rat) (p : List Rat) (l : List Rat) : List Rat := l.mapIdx (fun c x => if c < j then x else x - κ * p.getD c 0)
def findP (A : Mt) (j : Nat) : Nat → Nat → Nat
  | 0, k => k
  | f + 1, k => if k < A.length ∧ at2 A k j = 0 then findP A j f (k + 1) else k
def elimAll (A : Mt) (r j : Nat) (pr : List Rat) : Mt := A.mapIdx (fun i row => if i = r then row else if row.getD j 0 = 0 then row else subFrom j (row.getD j 0) pr row)
def stepE (A : Mt) (r j k : Nat) : Mt :=
  elimAll ((swp A r k).set r (scaleFrom j (1 / at2 (swp A r k) r j) (rowAt (swp A r k) r))) r j (scaleFrom j (1 / at2 (swp A r k) r j) (rowAt (swp A r k) r))
def redS (s : Mt × List Nat) (j : Nat) : Mt × List Nat :=
  if findP s.1 j (s.1.length - s.2.length) s.2.length < s.1.length then (stepE s.1 s.2.length j (findP s.1 j (s.1.length - s.2.length) s.2.length), s.2 ++ [j]) else s
def redN (A : Mt) (n : Nat) : Mt × List Nat := (List.range n).foldl redS (A, [])
theorem redN_succ (A : Mt) (n : Nat) : redN A (n + 1) = redS (redN A n) n := by
  unfold redN
  rw [List.range_succ, List.foldl_append]
  rfl
/-- the numbers of rows -/
abbrev qs (es : List RE) : List Rat := es.map (·.q)
abbrev mq (rows : List MR) : Mt := rows.map (fun r => qs r.es)
theorem gt_lt {α : Type} [Inhabited α] {ms : List α} {i : Nat} (h : i < ms.length) : gt ms (i : Int) = ms[i] := gt_get h
theorem rowAt_mq {rows : List MR} {i : Nat} (h : i < rows.length) : rowAt (mq rows) i = qs (gt rows (i : Int)).es := by
  unfold rowAt
  rw [gt_lt h]
  simp [List.getD, h]
theorem qs_getD {es : List RE} {j : Nat} (h : j < es.length) : (qs es).getD j 0 = (gt es (j : Int)).q := by
  rw [gt_lt h]
  simp [List.getD, h]
theorem at2_mq {rows : List MR} {i j : Nat} (h : i < rows.length) (hj : j < (gt rows (i : Int)).es.length) : at2 (mq rows) i j = (gt (gt rows (i : Int)).es (j : Int)).q := by
  unfold at2
  rw [rowAt_mq h, qs_getD hj]
theorem mq_set {rows : List MR} {i : Nat} {r : MR} : mq (rows.set i r) = (mq rows).set i (qs r.es) := by simp [List.map_set]
theorem findP_lt {A : Mt} {j : Nat} : ∀ (f k : Nat), k + f = A.length → k ≤ findP A j f k ∧ findP A j f k ≤ A.length ∧ (findP A j f k < A.length → at2 A (findP A j f k) j ≠ 0)
  | 0, k, h => ⟨Nat.le_refl _, by simp [findP]; omega, fun h' => by simp [findP] at h'; omega⟩
  | f + 1, k, h => by
    unfold findP
    by_cases hc : k < A.length ∧ at2 A k j = 0
    · rw [if_pos hc]
      obtain ⟨h1, h2, h3⟩ := findP_lt (A := A) (j := j) f (k + 1) (by omega)
      exact ⟨by omega, h2, h3⟩
    · rw [if_neg hc]
      exact ⟨Nat.le_refl _, by omega, fun hk h0 => hc ⟨hk, h0⟩⟩
/- permutations -/
theorem perm_front {α : Type} : ∀ (l : List α) (i : Nat) (h : i < l.length), l.Perm (l[i] :: l.eraseIdx i)
  | [], _, h => by simp at h
  | x :: r, 0, _ => by simp
  | x :: r, i + 1, h => by
    have ih := perm_front r i (by simpa using h)
    simp only [List.getElem_cons_succ, List.eraseIdx_cons_succ]
    exact (List.Perm.cons _ ih).trans (List.Perm.swap _ _ _)
def rest2 {α : Type} (l : List α) (i j : Nat) : List α := (l.eraseIdx (max i j)).eraseIdx (min i j)
theorem perm_front2 {α : Type} (l : List α) (i j : Nat) (hi : i < l.length) (hj : j < l.length) (hij : i ≠ j) : l.Perm (l[i] :: l[j] :: rest2 l i j) := by
  rcases Nat.lt_or_ge i j with h | h
  · have e1 : max i j = j := by omega
    have e2 : min i j = i := by omega
    unfold rest2
    rw [e1, e2]
    have h1 := perm_front l j hj
    have hl : i < (l.eraseIdx j).length := by rw [List.length_eraseIdx_of_lt hj]; omega
    have h2 := perm_front (l.eraseIdx j) i hl
    rw [List.getElem_eraseIdx_of_lt hl h] at h2
    exact (h1.trans (List.Perm.cons _ h2)).trans (List.Perm.swap _ _ _)
  · have e1 : max i j = i := by omega
    have e2 : min i j = j := by omega
    unfold rest2
    rw [e1, e2]
    have h1 := perm_front l i hi
    have hl : j < (l.eraseIdx i).length := by rw [List.length_eraseIdx_of_lt hi]; omega
    have h2 := perm_front (l.eraseIdx i) j hl
    rw [List.getElem_eraseIdx_of_lt hl (by omega)] at h2
    exact h1.trans (List.Perm.cons _ h2)
theorem rest2_set {α : Type} (l : List α) (i j : Nat) (x : α) (hij : i ≠ j) : rest2 (l.set i x) i j = rest2 l i j := by
  unfold rest2
  rcases Nat.lt_or_ge i j with h | h
  · have e1 : max i j = j := by omega
    have e2 : min i j = i := by omega
    rw [e1, e2]
    apply List.ext_getElem?
    intro n
    simp only [List.getElem?_eraseIdx, List.getElem?_set]
    split <;> split <;> (try split) <;> first | rfl | omega
  · have e1 : max i j = i := by omega
    rw [e1, List.eraseIdx_set_eq]
theorem eraseIdx_set1 {α : Type} (l : List α) (i : Nat) (x : α) : (l.set i x).eraseIdx i = l.eraseIdx i := List.eraseIdx_set_eq ..
theorem recs_eM_set {rows : List MR} {i : Nat} {es : List RE} (hi : i < rows.length) (hl : es.length = (gt rows (i : Int)).es.length) : recs eM (rows.set i ⟨(gt rows (i : Int)).b, es⟩) = recs eM rows := by
  have h1 := recs_set (enc := eM) rows i ⟨(gt rows (i : Int)).b, es⟩ hi
  rw [← h1]
  have e : eM ⟨(gt rows (i : Int)).b, es⟩ = eM (gt rows (i : Int)) := by simp [eM, hl]
  rw [e, recs_set (enc := eM) rows i _ hi, gt_lt hi, List.set_getElem_self]
end Go.Proofs.YtdmlebigkakplaaGreat

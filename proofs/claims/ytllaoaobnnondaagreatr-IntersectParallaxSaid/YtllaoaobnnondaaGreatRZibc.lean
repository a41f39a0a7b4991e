/- matrix.Check, check, both, square; the document's Check; the law's code. Matrices and lists that are built by appending: rows of facts. Determinants, plain: sums, expansion along the first row, what operations on rows do to it. -/
import Derived.Test.YtllaoaobnnondaaGreatRZibb
import Derived.Test.YtllaoaobnnondaaGreatRZiba
set_option linter.unusedSimpArgs false
set_option linter.unusedVariables false
namespace Go.Proofs.YtllaoaobnnondaaGreatR
open Go Go.Fx
/-- the code of a matrix -/
def WM.code (m : WM) : Int := if m.ok then 0 else 1
def codeL (ms : List WM) : Int := if ∀ m ∈ ms, m.ok then 0 else 1
def bothC (a b : WM) : Int := if a.ok ∧ b.ok then (if a.rows.length = b.rows.length ∧ (gt a.rows 0).es.length = (gt b.rows 0).es.length then 0 else 4) else 1
def sqC (a : WM) : Int := if a.ok then (if a.rows.length = (gt a.rows 0).es.length then 0 else 4) else 1
section
variable {P : Program} {n : Nat} {Q : Exit → Act → World → Prop} {G : Env} {X : List Nat} {w0 : World} {M M' : List Ent} {I I' : List Imm} {ops l : List Oper} {m : Fx.Mode} {ty : TypeId} {pos : String} {af : Array Edge} {g : Option (Nat × Bool)}
/-- a slice put into memory, not written any more -/
theorem RD_boxL {d : Nat} {t : TypeId} {x : Operand} {q : Option Addr} {len c : Nat} (hx : ev G x = some (.slice q len c)) (hg : gst ops G g = some true) (hd : Nat.ble (d + 1) n = true)
    (k : ∀ b, OkD m X w0 (.blk b [.slice q len c] t :: M) I ∧ RD P n ops Q m.nextE l ((d, .pointer (some ⟨b, 0, none⟩)) :: G) X w0 M (slI (some ⟨b, 0, none⟩) [.slice q len c] :: I)) :
    RD P n ops Q m (⟨some d, .box t x, ty, pos, af, g⟩ :: l) G X w0 M I := RD_box hx hg hd (fun b => ⟨(k b).1, RD_freezeB .here (k b).2⟩)
end
section
variable {X : List Nat} {w0 : World} {M0 : List Ent} {I0 : List Imm}
set_option maxRecDepth 100000 in
theorem Check1_ok {m : WM} {b : Nat} {r : WL} (hR : 1 ≤ m.rows.length) (hs : r.sml) (h : Hv I0 (isWL r)) (hm : isWM m ∈ I0) (hb : slI (some ⟨b, 0, none⟩) [.slice m.p m.rows.length m.c] ∈ I0) :
    CD Tryz.prog 164 [lvW r, .pointer (some ⟨b, 0, none⟩)] X w0 M0 I0 (fun v M I => M0 = M ∧ I0 = I ∧ v = .bool (B (¬ (r.es.length = (gt m.rows 0).es.length ∧ r.good)))) := by
  refine CD_hv (φ := isWL r) h ?_
  refine CD_hv (φ := slI m.p (recs eWL m.rows)) (Hv.wmsl (List.Mem.tail _ hm)) ?_
  by_cases he : r.es.length = (gt m.rows 0).es.length
  · have hq : B (¬ r.good) = B (¬ (r.es.length = (gt m.rows 0).es.length ∧ r.good)) := B_congr (not_congr ⟨fun h => ⟨he, h⟩, fun h => h.2⟩)
    refine enterD2 Tryz.func164 rfl Tryz.ntmps164 rfl ?_
    repeat (refine wXh ?_)
    (refine RD_callS rfl (mcanonical_ok (r := r) hs memF) rfl rfl ?_; rintro _ _ _ ⟨rfl, rfl, rfl⟩; refine ⟨okF, ?_⟩)
    repeat (refine wXh ?_)
    refine ND_ret1 (by first | exact .inl rfl | exact .inr rfl) rfl rfl _ _ subF incF (⟨rfl, rfl, congrArg Value.bool hq⟩)
  · have hn : ¬ (r.es.length = (gt m.rows 0).es.length ∧ r.good) := fun e => he e.1
    have hq : B (¬ (r.es.length = (gt m.rows 0).es.length ∧ r.good)) = true := B_true hn
    refine enterD2 Tryz.func164 rfl Tryz.ntmps164 rfl ?_
    repeat (refine wXh ?_)
    refine ND_ret1 (by first | exact .inl rfl | exact .inr rfl) rfl rfl _ _ subF incF (⟨rfl, rfl, congrArg Value.bool hq.symm⟩)
theorem WM.code_ok {m : WM} (h : m.ok) : m.code = 0 := if_pos h
theorem WM.code_no {m : WM} (h : ¬ m.ok) : m.code = 1 := if_neg h
set_option maxRecDepth 100000 in
theorem Check_ok {m : WM} (hs : m.sml) (hm : isWM m ∈ I0) : CD Tryz.prog 77 [mvW m] X w0 M0 I0 (fun v M I => M0 = M ∧ I0 = I ∧ v = .int .i64 m.code) := by
  refine CD_hv (φ := slI m.p (recs eWL m.rows)) (Hv.wmsl hm) ?_
  have hl := hs.1
  by_cases hsh : 1 ≤ m.rows.length ∧ m.rows.length ≤ 64 ∧ 1 ≤ (gt m.rows 0).es.length ∧ (gt m.rows 0).es.length ≤ 64
  · obtain ⟨s1, s2, s3, s4⟩ := hsh
    by_cases hall : ∃ r ∈ m.rows, ¬ (r.es.length = (gt m.rows 0).es.length ∧ r.good)
    · have hno : ¬ m.ok := fun e => by obtain ⟨r, hr, hn⟩ := hall; exact hn (e.2 r hr)
      rw [WM.code_no hno]
      refine enterD1 Tryz.func77 rfl Tryz.ntmps77 rfl ?_
      refine TD_seq ?_
      refine TD_region ?_
      (refine RD_boxL rfl rfl rfl ?_; intro b; refine ⟨okF, ?_⟩)
      repeat (refine wXh ?_)
      (refine RD_callS rfl (hasWM_ok (g := 164) (fs := #[]) (cs := #[.pointer (some ⟨b, 0, none⟩)]) (fun (r : WL) => ¬ (r.es.length = (gt m.rows 0).es.length ∧ r.good)) (by omega) memF (fun i hi => Check1_ok (m := m) (b := b) s1 (hs.2 _ (gt_mem (by omega))) (Hv.wmrow memF (by omega)) memF memF)) rfl rfl ?_; rintro _ _ _ ⟨rfl, rfl, rfl⟩; refine ⟨okF, ?_⟩)
      rw [B_true hall]
      repeat (refine wXh ?_)
      refine ND_ret1 (by first | exact .inl rfl | exact .inr rfl) rfl rfl _ _ subF incF (⟨rfl, rfl, rfl⟩)
    · have hok : m.ok := ⟨⟨s1, s2, s3, s4⟩, fun r hr => Decidable.of_not_not (fun hn => hall ⟨r, hr, hn⟩)⟩
      rw [WM.code_ok hok]
      refine enterD1 Tryz.func77 rfl Tryz.ntmps77 rfl ?_
      refine TD_seq ?_
      refine TD_region ?_
      (refine RD_boxL rfl rfl rfl ?_; intro b; refine ⟨okF, ?_⟩)
      repeat (refine wXh ?_)
      (refine RD_callS rfl (hasWM_ok (g := 164) (fs := #[]) (cs := #[.pointer (some ⟨b, 0, none⟩)]) (fun (r : WL) => ¬ (r.es.length = (gt m.rows 0).es.length ∧ r.good)) (by omega) memF (fun i hi => Check1_ok (m := m) (b := b) s1 (hs.2 _ (gt_mem (by omega))) (Hv.wmrow memF (by omega)) memF memF)) rfl rfl ?_; rintro _ _ _ ⟨rfl, rfl, rfl⟩; refine ⟨okF, ?_⟩)
      rw [B_false hall]
      repeat (refine wXh ?_)
      refine ND_ret1 (by first | exact .inl rfl | exact .inr rfl) rfl rfl _ _ subF incF (⟨rfl, rfl, rfl⟩)
  · have hno : ¬ m.ok := fun e => hsh e.1
    rw [WM.code_no hno]
    refine enterD1 Tryz.func77 rfl Tryz.ntmps77 rfl ?_
    refine TD_seq ?_
    refine TD_region ?_
    (refine RD_boxL rfl rfl rfl ?_; intro b; refine ⟨okF, ?_⟩)
    by_cases c1 : 1 ≤ m.rows.length
    · by_cases c2 : m.rows.length ≤ 64
      · by_cases c3 : 1 ≤ (gt m.rows 0).es.length
        · repeat (refine wXh ?_)
          refine ND_ret1 (by first | exact .inl rfl | exact .inr rfl) rfl rfl _ _ subF incF (⟨rfl, rfl, rfl⟩)
        · repeat (refine wXh ?_)
          refine ND_ret1 (by first | exact .inl rfl | exact .inr rfl) rfl rfl _ _ subF incF (⟨rfl, rfl, rfl⟩)
      · repeat (refine wXh ?_)
        refine ND_ret1 (by first | exact .inl rfl | exact .inr rfl) rfl rfl _ _ subF incF (⟨rfl, rfl, rfl⟩)
    · repeat (refine wXh ?_)
      refine ND_ret1 (by first | exact .inl rfl | exact .inr rfl) rfl rfl _ _ subF incF (⟨rfl, rfl, rfl⟩)
set_option maxRecDepth 100000 in
theorem square_ok {a : WM} (sa : a.sml) (ha : isWM a ∈ I0) : CD Tryz.prog 171 [mvW a] X w0 M0 I0 (fun v M I => M0 = M ∧ I0 = I ∧ v = .int .i64 (sqC a)) := by
  have hC := fun M0 I0 h1 => Check_ok (X := X) (w0 := w0) (M0 := M0) (I0 := I0) (m := a) sa h1
  unfold sqC
  by_cases hok : a.ok
  · rw [WM.code_ok hok] at hC
    rw [if_pos hok]
    obtain ⟨a1, a2, a3, a4⟩ := hok.1
    refine CD_hv (φ := slI a.p (recs eWL a.rows)) (Hv.wmsl ha) ?_
    refine enterD1 Tryz.func171 rfl Tryz.ntmps171 rfl ?_
    repeat (refine wXh ?_)
    (refine RD_callS rfl (hC _ _ memF) rfl rfl ?_; rintro _ _ _ ⟨rfl, rfl, rfl⟩; refine ⟨okF, ?_⟩)
    by_cases e1 : a.rows.length = (gt a.rows 0).es.length
    · rw [if_pos e1]
      repeat (refine wXh ?_)
      refine ND_ret1 (by first | exact .inl rfl | exact .inr rfl) rfl rfl _ _ subF incF (⟨rfl, rfl, rfl⟩)
    · rw [if_neg e1]
      repeat (refine wXh ?_)
      refine ND_ret1 (by first | exact .inl rfl | exact .inr rfl) rfl rfl _ _ subF incF (⟨rfl, rfl, rfl⟩)
  · rw [WM.code_no hok] at hC
    rw [if_neg hok]
    refine enterD1 Tryz.func171 rfl Tryz.ntmps171 rfl ?_
    repeat (refine wXh ?_)
    (refine RD_callS rfl (hC _ _ memF) rfl rfl ?_; rintro _ _ _ ⟨rfl, rfl, rfl⟩; refine ⟨okF, ?_⟩)
    repeat (refine wXh ?_)
    refine ND_ret1 (by first | exact .inl rfl | exact .inr rfl) rfl rfl _ _ subF incF (⟨rfl, rfl, rfl⟩)
end
end Go.Proofs.YtllaoaobnnondaaGreatR
namespace Go.Proofs.YtllaoaobnnondaaGreatR
open Go Go.Fx
structure AllL (rows : List RL) (k : Nat) (X : List Nat) (w : World) : Prop where
  go : ∀ r ∈ rows, IsL r k X w
abbrev allL (rows : List RL) (k : Nat) : Imm := AllL rows k
instance (rows : List RL) (k : Nat) : Fx.Good (AllL rows k) := ⟨fun X Y w w' h he hY => ⟨fun r hm => Fx.Good.go (φ := IsL _ _) X Y w w' (h.go r hm) he hY⟩⟩
section
variable {X : List Nat} {w0 : World} {M : List Ent} {I : List Imm}
variable {P : Program} {n : Nat} {Q : Exit → Act → World → Prop} {G : Env}
end
end Go.Proofs.YtllaoaobnnondaaGreatR
namespace Go.Proofs.YtllaoaobnnondaaGreatR
/-- f 0 + .. + f (n-1) -/
def sm : Nat → (Nat → Rat) → Rat
  | 0, _ => 0
  | n + 1, f => sm n f + f n
theorem sm_congr {n : Nat} {f g : Nat → Rat} (h : ∀ i, i < n → f i = g i) : sm n f = sm n g := by
  induction n with
  | zero => rfl
  | succ n ih => simp only [sm]; rw [ih (fun i hi => h i (by omega)), h n (by omega)]
theorem sm_zero {n : Nat} {f : Nat → Rat} (h : ∀ i, i < n → f i = 0) : sm n f = 0 := by
  induction n with
  | zero => rfl
  | succ n ih => simp only [sm]; rw [ih (fun i hi => h i (by omega)), h n (by omega)]; grind
theorem sm_add {n : Nat} {f g : Nat → Rat} : sm n (fun i => f i + g i) = sm n f + sm n g := by
  induction n with
  | zero => simp only [sm]; grind
  | succ n ih => simp only [sm]; rw [ih]; grind
theorem sm_mul {n : Nat} {f : Nat → Rat} {c : Rat} : sm n (fun i => c * f i) = c * sm n f := by
  induction n with
  | zero => simp only [sm]; grind
  | succ n ih => simp only [sm]; rw [ih]; grind
theorem sm_lin {n : Nat} {f g : Nat → Rat} {c d : Rat} : sm n (fun i => c * f i + d * g i) = c * sm n f + d * sm n g := by
  rw [sm_add, sm_mul, sm_mul]
theorem sm_comm {n m : Nat} {f : Nat → Nat → Rat} : sm n (fun i => sm m (fun j => f i j)) = sm m (fun j => sm n (fun i => f i j)) := by
  induction n with
  | zero => simp only [sm]; rw [sm_zero (fun _ _ => rfl)]
  | succ n ih => simp only [sm]; rw [ih, ← sm_add]
theorem sm_one {n p : Nat} {f : Nat → Rat} (hp : p < n) (h : ∀ i, i < n → i ≠ p → f i = 0) : sm n f = f p := by
  induction n with
  | zero => omega
  | succ n ih =>
    simp only [sm]
    by_cases e : p = n
    · subst e
      rw [sm_zero (fun i hi => h i (by omega) (by omega))]; grind
    · rw [ih (by omega) (fun i hi hne => h i (by omega) hne), h n (by omega) (fun e' => e e'.symm)]; grind
/-- past j -/
def sk (j k : Nat) : Nat := if k < j then k else k + 1
theorem sm_skip {n j : Nat} {g : Nat → Rat} (hj : j ≤ n) : sm (n + 1) g = g j + sm n (fun k => g (sk j k)) := by
  induction n with
  | zero =>
    obtain rfl : j = 0 := by omega
    simp only [sm]; grind
  | succ n ih =>
    by_cases e : j = n + 1
    · subst e
      have : sm (n + 1) (fun k => g (sk (n + 1) k)) = sm (n + 1) g := sm_congr (fun i hi => by simp only [sk]; rw [if_pos (by omega)])
      rw [this]
      simp only [sm]; grind
    · have h1 := ih (by omega)
      have h2 : sm (n + 1) (fun k => g (sk j k)) = sm n (fun k => g (sk j k)) + g (n + 1) := by
        simp only [sm]
        have : sk j n = n + 1 := by simp only [sk]; rw [if_neg (by omega)]
        rw [this]
      rw [h2]
      show sm (n + 1) g + g (n + 1) = _
      rw [h1]; grind
def sgd (j : Nat) : Rat := if j % 2 = 0 then 1 else -1
/-- the determinant, expanded along the first row -/
def dt : Nat → (Nat → Nat → Rat) → Rat
  | 0, _ => 1
  | n + 1, f => sm (n + 1) (fun j => sgd j * f 0 j * dt n (fun i k => f (i + 1) (sk j k)))
theorem dt_congr : ∀ {n : Nat} {f g : Nat → Nat → Rat}, (∀ i j, i < n → j < n → f i j = g i j) → dt n f = dt n g
  | 0, _, _, _ => rfl
  | n + 1, f, g, h => by
    simp only [dt]
    apply sm_congr
    intro j hj
    rw [h 0 j (by omega) hj, dt_congr (n := n) (f := fun i k => f (i + 1) (sk j k)) (g := fun i k => g (i + 1) (sk j k)) (fun i k hi hk => h _ _ (by omega) (by simp only [sk]; split <;> omega))]
/-- another row -/
def rwr (f : Nat → Nat → Rat) (i : Nat) (r : Nat → Rat) : Nat → Nat → Rat := fun a b => if a = i then r b else f a b
theorem dt_lin : ∀ {n : Nat} {f : Nat → Nat → Rat} {i : Nat} {r s : Nat → Rat} {x y : Rat}, i < n → dt n (rwr f i (fun b => x * r b + y * s b)) = x * dt n (rwr f i r) + y * dt n (rwr f i s)
  | 0, _, _, _, _, _, _, h => by omega
  | n + 1, f, 0, r, s, x, y, _ => by
    have hm : ∀ (t : Nat → Rat) (j : Nat), (fun i k => rwr f 0 t (i + 1) (sk j k)) = fun i k => f (i + 1) (sk j k) := fun t j => by
      funext i k; simp only [rwr]; rw [if_neg (by omega)]
    have h0 : ∀ (t : Nat → Rat) (j : Nat), rwr f 0 t 0 j = t j := fun t j => by simp [rwr]
    simp only [dt, hm, h0]
    rw [← sm_lin]
    apply sm_congr
    intro j _
    grind
  | n + 1, f, i + 1, r, s, x, y, h => by
    have hm : ∀ (t : Nat → Rat) (j : Nat), (fun a k => rwr f (i + 1) t (a + 1) (sk j k)) = rwr (fun a k => f (a + 1) (sk j k)) i (fun k => t (sk j k)) := fun t j => by
      funext a k; simp only [rwr]
      by_cases e : a = i
      · rw [if_pos (by omega), if_pos e]
      · rw [if_neg (by omega), if_neg e]
    have h0 : ∀ (t : Nat → Rat) (j : Nat), rwr f (i + 1) t 0 j = f 0 j := fun t j => by simp only [rwr]; rw [if_neg (by omega)]
    simp only [dt, hm, h0]
    rw [← sm_lin]
    apply sm_congr
    intro j _
    rw [dt_lin (n := n) (f := fun a k => f (a + 1) (sk j k)) (i := i) (r := fun k => r (sk j k)) (s := fun k => s (sk j k)) (by omega)]
    grind
/-- neighbours exchanged -/
def swn (f : Nat → Nat → Rat) (i : Nat) : Nat → Nat → Rat := fun a b => if a = i then f (i + 1) b else if a = i + 1 then f i b else f a b
/-- back before j -/
def usk (j k : Nat) : Nat := if k < j then k else k - 1
theorem usk_sk (j k : Nat) : usk j (sk j k) = k := by
  by_cases h : k < j
  · simp [usk, sk, h]
  · simp [usk, sk, h, show ¬ k + 1 < j by omega]
theorem sm_off {n j : Nat} {g : Nat → Rat} (hj : j ≤ n) : sm n (fun k => g (sk j k)) = sm (n + 1) (fun k => if k = j then 0 else g k) := by
  rw [sm_skip (g := fun k => if k = j then 0 else g k) hj, if_pos rfl]
  have : sm n (fun k => (fun k => if k = j then (0 : Rat) else g k) (sk j k)) = sm n (fun k => g (sk j k)) := sm_congr (fun k _ => by
    have : sk j k ≠ j := by simp only [sk]; split <;> omega
    simp only [if_neg this])
  rw [this]; grind
def tw (j k : Nat) : Rat := sgd j * sgd (usk j k)
theorem sgd_pred {j : Nat} (h : 0 < j) : sgd (j - 1) = - sgd j := by
  unfold sgd
  by_cases a : j % 2 = 0
  · have : ¬ (j - 1) % 2 = 0 := by omega
    simp [a, this]
  · have : (j - 1) % 2 = 0 := by omega
    simp [a, this]
theorem tw_anti {j k : Nat} (h : j ≠ k) : tw j k = - tw k j := by
  unfold tw
  rcases Nat.lt_or_ge k j with h1 | h1
  · have e1 : usk j k = k := by simp [usk, h1]
    have e2 : usk k j = j - 1 := by simp [usk, show ¬ j < k by omega]
    rw [e1, e2, sgd_pred (by omega)]; grind
  · have e1 : usk j k = k - 1 := by simp [usk, show ¬ k < j by omega]
    have e2 : usk k j = j := by simp [usk, show j < k by omega]
    rw [e1, e2, sgd_pred (by omega)]; grind
theorem sk_sym {j k l : Nat} (h : j ≠ k) : sk j (sk (usk j k) l) = sk k (sk (usk k j) l) := by
  simp only [sk, usk]
  repeat' split
  all_goals omega
/-- expanded along two rows -/
theorem dt_two {n : Nat} {f : Nat → Nat → Rat} : dt (n + 2) f = sm (n + 2) (fun j => sm (n + 2) (fun k => if k = j then 0 else tw j k * f 0 j * f 1 k * dt n (fun i l => f (i + 2) (sk j (sk (usk j k) l))))) := by
  show sm (n + 2) (fun j => sgd j * f 0 j * dt (n + 1) (fun i k => f (i + 1) (sk j k))) = _
  apply sm_congr
  intro j hj
  rw [← sm_off (g := fun k => tw j k * f 0 j * f 1 k * dt n (fun i l => f (i + 2) (sk j (sk (usk j k) l)))) (by omega)]
  show sgd j * f 0 j * sm (n + 1) (fun k => sgd k * f 1 (sk j k) * dt n (fun i l => f (i + 2) (sk j (sk k l)))) = _
  rw [← sm_mul]
  apply sm_congr
  intro k _
  simp only [usk_sk, tw]
  grind
theorem dt_swap0 {n : Nat} {f : Nat → Nat → Rat} : dt (n + 2) (swn f 0) = - dt (n + 2) f := by
  rw [dt_two, dt_two, sm_comm]
  have e : ∀ x : Rat, -x = -1 * x := fun x => by grind
  rw [e, ← sm_mul]
  apply sm_congr
  intro j hj
  rw [← sm_mul]
  apply sm_congr
  intro k hk
  by_cases h : j = k
  · rw [if_pos h, if_pos h.symm]; grind
  · rw [if_neg h, if_neg (fun e => h e.symm), tw_anti (j := k) (k := j) (fun e => h e.symm)]
    have h0 : swn f 0 0 k = f 1 k := by simp [swn]
    have h1 : swn f 0 1 j = f 0 j := by simp [swn]
    have h2 : (fun i l => swn f 0 (i + 2) (sk k (sk (usk k j) l))) = fun i l => f (i + 2) (sk j (sk (usk j k) l)) := by
      funext i l
      rw [sk_sym h]
      simp only [swn]
      rw [if_neg (by omega), if_neg (by omega)]
    rw [h0, h1, h2]
    grind
theorem dt_swn : ∀ {n i : Nat} {f : Nat → Nat → Rat}, i + 1 < n → dt n (swn f i) = - dt n f
  | 0, _, _, h => by omega
  | 1, _, _, h => by omega
  | n + 2, 0, f, _ => dt_swap0
  | n + 2, i + 1, f, h => by
    have hm : ∀ j : Nat, (fun a k => swn f (i + 1) (a + 1) (sk j k)) = swn (fun a k => f (a + 1) (sk j k)) i := fun j => by
      funext a k; simp only [swn]
      by_cases e : a = i
      · rw [if_pos (by omega), if_pos e]
      · rw [if_neg (by omega), if_neg e]
        by_cases e2 : a = i + 1
        · rw [if_pos (by omega), if_pos e2]
        · rw [if_neg (by omega), if_neg e2]
    have h0 : ∀ j : Nat, swn f (i + 1) 0 j = f 0 j := fun j => by simp only [swn]; rw [if_neg (by omega), if_neg (by omega)]
    show sm (n + 2) (fun j => sgd j * swn f (i + 1) 0 j * dt (n + 1) (fun a k => swn f (i + 1) (a + 1) (sk j k))) = - sm (n + 2) (fun j => sgd j * f 0 j * dt (n + 1) (fun a k => f (a + 1) (sk j k)))
    have e : ∀ x : Rat, -x = -1 * x := fun x => by grind
    rw [e, ← sm_mul]
    apply sm_congr
    intro j _
    rw [hm, h0, dt_swn (n := n + 1) (i := i) (by omega)]
    grind
theorem dt_eqn {n i : Nat} {f : Nat → Nat → Rat} (h : i + 1 < n) (he : ∀ b, f i b = f (i + 1) b) : dt n f = 0 := by
  have h1 := dt_swn (f := f) h
  have h2 : swn f i = f := by
    funext a b; simp only [swn]
    by_cases e : a = i
    · rw [if_pos e, e]; exact (he b).symm
    · rw [if_neg e]
      by_cases e2 : a = i + 1
      · rw [if_pos e2, e2]; exact he b
      · rw [if_neg e2]
  rw [h2] at h1
  grind
theorem dt_eqd : ∀ {d n p : Nat} {f : Nat → Nat → Rat}, p + d + 1 < n → (∀ b, f p b = f (p + d + 1) b) → dt n f = 0
  | 0, _, _, _, h, he => dt_eqn h he
  | d + 1, n, p, f, h, he => by
    have h1 := dt_swn (n := n) (i := p + d + 1) (f := f) (by omega)
    have h2 : dt n (swn f (p + d + 1)) = 0 := by
      apply dt_eqd (d := d) (p := p) (by omega)
      intro b
      have e1 : swn f (p + d + 1) p b = f p b := by simp [swn, show ¬ p = p + d + 1 by omega, show ¬ p = p + d + 1 + 1 by omega]
      have e2 : swn f (p + d + 1) (p + d + 1) b = f (p + d + 1 + 1) b := by simp [swn]
      rw [e1, e2]
      exact he b
    rw [h2] at h1
    grind
theorem dt_eq {n p q : Nat} {f : Nat → Nat → Rat} (hp : p < n) (hq : q < n) (hpq : p ≠ q) (he : ∀ b, f p b = f q b) : dt n f = 0 := by
  rcases Nat.lt_or_ge p q with h | h
  · obtain ⟨d, rfl⟩ : ∃ d, q = p + d + 1 := ⟨q - p - 1, by omega⟩
    exact dt_eqd hq he
  · obtain ⟨d, rfl⟩ : ∃ d, p = q + d + 1 := ⟨p - q - 1, by omega⟩
    exact dt_eqd hp (fun b => (he b).symm)
theorem rwr_self {f : Nat → Nat → Rat} {i : Nat} : rwr f i (f i) = f := by
  funext a b; simp only [rwr]; split
  · rename_i h; rw [h]
  · rfl
theorem dt_addrow {n i p : Nat} {f : Nat → Nat → Rat} {c : Rat} (hi : i < n) (hp : p < n) (hne : p ≠ i) : dt n (rwr f i (fun b => f i b + c * f p b)) = dt n f := by
  have h1 := dt_lin (n := n) (f := f) (i := i) (r := f i) (s := f p) (x := 1) (y := c) hi
  have h2 : (fun b => (1 : Rat) * f i b + c * f p b) = fun b => f i b + c * f p b := by funext b; grind
  have h3 : dt n (rwr f i (f p)) = 0 := dt_eq (p := p) (q := i) hp hi hne (fun b => by simp [rwr, hne])
  rw [h2, h3, rwr_self] at h1
  rw [h1]; grind
theorem dt_scale {n i : Nat} {f : Nat → Nat → Rat} {c : Rat} (hi : i < n) : dt n (rwr f i (fun b => c * f i b)) = c * dt n f := by
  have h1 := dt_lin (n := n) (f := f) (i := i) (r := f i) (s := f i) (x := c) (y := 0) hi
  have h2 : (fun b => c * f i b + 0 * f i b) = fun b => c * f i b := by funext b; grind
  rw [h2, rwr_self] at h1
  rw [h1]; grind
/-- two numbers exchanged -/
def tr (r k a : Nat) : Nat := if a = r then k else if a = k then r else a
theorem tr_lt {r k a n : Nat} (hr : r < n) (hk : k < n) (ha : a < n) : tr r k a < n := by simp only [tr]; split; assumption; split <;> assumption
theorem dt_swap {n r k : Nat} {f : Nat → Nat → Rat} (hr : r < n) (hk : k < n) (h : r ≠ k) : dt n (fun a b => f (tr r k a) b) = - dt n f := by
  have a1 := dt_addrow (n := n) (i := r) (p := k) (f := f) (c := 1) hr hk (fun e => h e.symm)
  obtain ⟨f1, hf1⟩ : ∃ f1, f1 = rwr f r (fun b => f r b + 1 * f k b) := ⟨_, rfl⟩
  rw [← hf1] at a1
  have a2 := dt_addrow (n := n) (i := k) (p := r) (f := f1) (c := -1) hk hr h
  obtain ⟨f2, hf2⟩ : ∃ f2, f2 = rwr f1 k (fun b => f1 k b + -1 * f1 r b) := ⟨_, rfl⟩
  rw [← hf2] at a2
  have a3 := dt_addrow (n := n) (i := r) (p := k) (f := f2) (c := 1) hr hk (fun e => h e.symm)
  obtain ⟨f3, hf3⟩ : ∃ f3, f3 = rwr f2 r (fun b => f2 r b + 1 * f2 k b) := ⟨_, rfl⟩
  rw [← hf3] at a3
  have a4 := dt_scale (n := n) (i := k) (f := f3) (c := -1) hk
  have e : rwr f3 k (fun b => -1 * f3 k b) = fun a b => f (tr r k a) b := by
    funext a b
    simp only [hf3, hf2, hf1, rwr, tr]
    have hkr : ¬ k = r := fun e => h e.symm
    by_cases e1 : a = k
    · subst e1
      simp only [if_true, if_neg hkr, if_neg h]
      grind
    · by_cases e2 : a = r
      · subst e2
        simp only [if_neg h, if_neg hkr, if_true]
        grind
      · simp only [if_neg e1, if_neg e2]
  rw [e, a3, a2, a1] at a4
  rw [a4]; grind
/-- a first column of zeros -/
theorem dt_col0 : ∀ {n : Nat} {f : Nat → Nat → Rat}, (∀ i, i < n + 1 → f i 0 = 0) → dt (n + 1) f = 0
  | 0, f, h => by simp only [dt, sm]; rw [h 0 (by omega)]; grind
  | n + 1, f, h => by
    show sm (n + 2) (fun j => sgd j * f 0 j * dt (n + 1) (fun i k => f (i + 1) (sk j k))) = 0
    apply sm_zero
    intro j hj
    by_cases e : j = 0
    · subst e; rw [h 0 (by omega)]; grind
    · rw [dt_col0 (n := n) (fun i hi => by show f (i + 1) (sk j 0) = 0; simp only [sk]; rw [if_pos (by omega)]; exact h _ (by omega))]; grind
theorem dt_first {n : Nat} {f : Nat → Nat → Rat} (h : ∀ i, 1 ≤ i → i < n + 1 → f i 0 = 0) : dt (n + 1) f = f 0 0 * dt n (fun i k => f (i + 1) (k + 1)) := by
  show sm (n + 1) (fun j => sgd j * f 0 j * dt n (fun i k => f (i + 1) (sk j k))) = _
  rw [sm_one (p := 0) (by omega)]
  · have : (fun i k => f (i + 1) (sk 0 k)) = fun i k => f (i + 1) (k + 1) := by
      funext i k; simp only [sk]; rw [if_neg (by omega)]
    rw [this]
    have : sgd 0 = 1 := by simp [sgd]
    rw [this]; grind
  · intro j hj hne
    cases n with
    | zero => omega
    | succ n =>
      rw [dt_col0 (n := n) (fun i hi => by show f (i + 1) (sk j 0) = 0; simp only [sk]; rw [if_pos (by omega)]; exact h _ (by omega) (by omega))]; grind
/-- a row of zeros -/
theorem dt_row0 {n i : Nat} {f : Nat → Nat → Rat} (hi : i < n) (h : ∀ j, j < n → f i j = 0) : dt n f = 0 := by
  have h1 := dt_scale (n := n) (i := i) (f := f) (c := 0) hi
  have h2 : dt n (rwr f i (fun b => 0 * f i b)) = dt n f := dt_congr (fun a b _ hb => by
    simp only [rwr]; split
    · rename_i e; rw [e, h b hb]; grind
    · rfl)
  rw [h2] at h1
  rw [h1]; grind
/-- one row subtracted from others -/
theorem dt_elim {n r : Nat} {f : Nat → Nat → Rat} {c : Nat → Rat} (hr : r < n) : dt n (fun a b => if a = r then f r b else f a b - c a * f r b) = dt n f := by
  have step : ∀ m, m ≤ n → dt n (fun a b => if a = r then f r b else if a < m then f a b - c a * f r b else f a b) = dt n f := by
    intro m
    induction m with
    | zero => intro _; exact dt_congr (fun a b _ _ => by by_cases e : a = r <;> simp [e])
    | succ m ih =>
      intro hm
      have h1 := ih (by omega)
      by_cases e : m = r
      · rw [← h1]
        apply dt_congr
        intro a b _ _
        by_cases ea : a = r
        · rw [if_pos ea, if_pos ea]
        · rw [if_neg ea, if_neg ea]
          by_cases em : a < m
          · rw [if_pos em, if_pos (by omega)]
          · rw [if_neg em, if_neg (by omega)]
      · obtain ⟨g, hg⟩ : ∃ g : Nat → Nat → Rat, g = fun a b => if a = r then f r b else if a < m then f a b - c a * f r b else f a b := ⟨_, rfl⟩
        rw [← hg] at h1
        have h2 := dt_addrow (n := n) (i := m) (p := r) (f := g) (c := - c m) (by omega) hr (fun e' => e e'.symm)
        rw [h1] at h2
        rw [← h2]
        apply dt_congr
        intro a b _ _
        have hgr : ∀ b, g r b = f r b := fun b => by rw [hg]; simp
        have hgm : ∀ b, g m b = f m b := fun b => by rw [hg]; simp [e]
        simp only [rwr]
        by_cases ea : a = r
        · subst ea
          rw [if_pos rfl, if_neg (fun e' => e e'.symm), hgr]
        · rw [if_neg ea]
          by_cases em : a = m
          · subst em
            rw [if_pos (by omega), if_pos rfl, hgm, hgr]; grind
          · rw [if_neg em, hg]
            by_cases el : a < m
            · simp [ea, el, show a < m + 1 by omega]
            · simp [ea, el, show ¬ a < m + 1 by omega]
  rw [← step n (Nat.le_refl _)]
  apply dt_congr
  intro a b ha _
  by_cases ea : a = r
  · rw [if_pos ea, if_pos ea]
  · rw [if_neg ea, if_neg ea, if_pos ha]
/-- one step of elimination: rows exchanged, one scaled, subtracted from the others -/
def elm (r k : Nat) (κ : Rat) (c : Nat → Rat) (f : Nat → Nat → Rat) : Nat → Nat → Rat := fun a b => if a = r then κ * f (tr r k r) b else f (tr r k a) b - c a * (κ * f (tr r k r) b)
def esg (r k : Nat) : Rat := if r = k then 1 else -1
theorem dt_elm {n r k : Nat} {κ : Rat} {c : Nat → Rat} {f : Nat → Nat → Rat} (hr : r < n) (hk : k < n) : dt n (elm r k κ c f) = esg r k * κ * dt n f := by
  obtain ⟨g, hg⟩ : ∃ g : Nat → Nat → Rat, g = fun a b => f (tr r k a) b := ⟨_, rfl⟩
  have h1 : dt n g = esg r k * dt n f := by
    rw [hg]
    unfold esg
    by_cases e : r = k
    · subst e
      rw [if_pos rfl, show (fun a b => f (tr r r a) b) = f by funext a b; simp only [tr]; split <;> simp_all]; grind
    · rw [if_neg e, dt_swap hr hk e]; grind
  have h2 := dt_scale (n := n) (i := r) (f := g) (c := κ) hr
  obtain ⟨s, hs⟩ : ∃ s, s = rwr g r (fun b => κ * g r b) := ⟨_, rfl⟩
  rw [← hs] at h2
  have h3 := dt_elim (n := n) (r := r) (f := s) (c := c) hr
  have h4 : elm r k κ c f = fun a b => if a = r then s r b else s a b - c a * s r b := by
    funext a b
    have hsr : s r b = κ * f (tr r k r) b := by rw [hs, hg]; simp [rwr]
    simp only [elm]
    rw [hsr]
    by_cases e : a = r
    · rw [if_pos e, if_pos e]
    · rw [if_neg e, if_neg e, hs, hg]; simp [rwr, e]
  rw [h4, h3, h2, h1]; grind
end Go.Proofs.YtllaoaobnnondaaGreatR

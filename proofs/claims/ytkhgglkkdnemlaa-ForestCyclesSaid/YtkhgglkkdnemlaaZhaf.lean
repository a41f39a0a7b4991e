/- Plain: least weights of walks. Plain: a cycle of negative weight by the links that lowered last. The symbolic heap, continued: regions with stores behind all reads, cells with a tail, rows as blocks. The symbolic heap, continued: drawn regions that lean on a part of the heap. The symbolic heap, continued: scopes, results that lie in cells, structs' lists compared. The side conditions of the walk. Printed by pre.py. The symbolic heap, continued: drawn regions whose reads come ahead of all but the first few effects. The symbolic heap, continued: parts of what is read, xor. Regions that draw their order, within a round of a range over a function. -/
import Derived.Test.YtkhgglkkdnemlaaZhae
import Derived.Test.YtkhgglkkdnemlaaZhad
import Derived.Scope
import Derived.OrdersIn
import Derived.RangeFuncCalls
import Derived.RangeFuncWrites
import Derived.RangeFuncBound
import Derived.Below
set_option linter.unusedSimpArgs false
set_option linter.unusedVariables false
namespace Go.Proofs.Ytkhgglkkdnemlaa
open Go Go.Fx
/-- walks from some nodes: number of links, end, weight -/
inductive Wk (ms : List LK) (S : Int → Prop) : Nat → Int → Int → Prop
  | src {s : Int} : S s → Wk ms S 0 s 0
  | step {k : Nat} {u x i : Int} : Wk ms S k u x → 0 ≤ i → i < ms.length → (gt ms i).a = u → Wk ms S (k + 1) (gt ms i).b (x + wt ms i)
/-- links join nodes -/
structure Gd (ms : List LK) (n : Nat) : Prop where
  a : ∀ k : Int, 0 ≤ k → k < ms.length → 0 ≤ (gt ms k).a ∧ (gt ms k).a < n
  b : ∀ k : Int, 0 ≤ k → k < ms.length → 0 ≤ (gt ms k).b ∧ (gt ms k).b < n
  w : ∀ k : Int, 0 ≤ k → k < ms.length → (wt ms k).natAbs ≤ 1073741824
/-- the least weights -/
structure Fix (ms : List LK) (S : Int → Prop) (F : Int → Option Int) : Prop where
  sound : ∀ v x, F v = some x → ∃ j, Wk ms S j v x
  src : ∀ s, S s → ∃ y, F s = some y ∧ y ≤ 0
  closed : ∀ i : Int, 0 ≤ i → i < ms.length → ∀ x, F (gt ms i).a = some x → ∃ y, F (gt ms i).b = some y ∧ y ≤ x + wt ms i
theorem Fix.le {ms : List LK} {S : Int → Prop} {F : Int → Option Int} (hF : Fix ms S F) {j : Nat} {v x : Int} (h : Wk ms S j v x) : ∃ y, F v = some y ∧ y ≤ x := by
  induction h with
  | src h => exact hF.src _ h
  | @step k u x i h h0 hi e ih =>
    obtain ⟨y, h1, h2⟩ := ih
    subst e
    obtain ⟨z, h3, h4⟩ := hF.closed i h0 hi y h1
    exact ⟨z, h3, by omega⟩
theorem Fix.uniq {ms : List LK} {S : Int → Prop} {F G : Int → Option Int} (hF : Fix ms S F) (hG : Fix ms S G) (v : Int) : F v = G v := by
  cases e : F v with
  | none =>
    cases e2 : G v with
    | none => rfl
    | some y =>
      obtain ⟨j, h⟩ := hG.sound _ _ e2
      obtain ⟨z, h1, _⟩ := hF.le h
      rw [e] at h1; simp at h1
  | some x =>
    obtain ⟨j, h⟩ := hF.sound _ _ e
    obtain ⟨y, h1, h2⟩ := hG.le h
    obtain ⟨j2, h3⟩ := hG.sound _ _ h1
    obtain ⟨z, h4, h5⟩ := hF.le h3
    rw [e] at h4
    rw [h1]
    simp only [Option.some.injEq] at h4 ⊢
    omega
/-- one round -/
structure Rnd (ms : List LK) (D D' : Int → Option Int) : Prop where
  dec : ∀ v x, D v = some x → ∃ y, D' v = some y ∧ y ≤ x
  prog : ∀ i : Int, 0 ≤ i → i < ms.length → ∀ x, D (gt ms i).a = some x → ∃ y, D' (gt ms i).b = some y ∧ y ≤ x + wt ms i
def Snd (ms : List LK) (S : Int → Prop) (T : Nat) (D : Int → Option Int) : Prop := ∀ v x, D v = some x → ∃ j, j ≤ T ∧ Wk ms S j v x
def Src (S : Int → Prop) (D : Int → Option Int) : Prop := ∀ s, S s → ∃ y, D s = some y ∧ y ≤ 0
theorem Rnd.src {ms : List LK} {S : Int → Prop} {D D' : Int → Option Int} (r : Rnd ms D D') (h : Src S D) : Src S D' := fun s hs => by
  obtain ⟨y, h1, h2⟩ := h s hs
  obtain ⟨z, h3, h4⟩ := r.dec s y h1
  exact ⟨z, h3, by omega⟩
theorem fix_keep {ms : List LK} {S : Int → Prop} {F D D' : Int → Option Int} {T : Nat} (hF : Fix ms S F) (hs : Snd ms S T D') (hd : ∀ v x, D v = some x → ∃ y, D' v = some y ∧ y ≤ x) {v : Int} (e : D v = F v) : D' v = F v := by
  cases e2 : D' v with
  | none =>
    cases e3 : D v with
    | none => rw [← e, e3]
    | some x => obtain ⟨y, h1, _⟩ := hd v x e3; rw [e2] at h1; simp at h1
  | some y =>
    obtain ⟨j, _, h⟩ := hs _ _ e2
    obtain ⟨z, h1, h2⟩ := hF.le h
    rw [h1] at e
    obtain ⟨y2, h3, h4⟩ := hd v z e
    rw [e2] at h3
    rw [h1]
    simp only [Option.some.injEq] at h3 ⊢
    omega
theorem fix_cross {ms : List LK} {S : Int → Prop} {F D D' : Int → Option Int} {T T' n : Nat} (hg : Gd ms n) (hF : Fix ms S F) (hs : Snd ms S T D) (hs' : Snd ms S T' D') (h0 : Src S D) (r : Rnd ms D D') {j : Nat} {v x : Int} (h : Wk ms S j v x) (hv : F v = some x) (hne : D v ≠ F v) : ∃ z : Int, 0 ≤ z ∧ z < n ∧ D z ≠ F z ∧ D' z = F z := by
  induction h with
  | @src s hs1 =>
    obtain ⟨y, h1, h2⟩ := h0 s hs1
    obtain ⟨j, _, h3⟩ := hs _ _ h1
    obtain ⟨z, h4, h5⟩ := hF.le h3
    rw [hv] at h4
    exfalso
    apply hne
    rw [h1, hv]
    simp only [Option.some.injEq] at h4 ⊢
    omega
  | @step k u x i h h0i hi e ih =>
    subst e
    obtain ⟨y, h1, h2⟩ := hF.le h
    obtain ⟨z, h3, h4⟩ := hF.closed i h0i hi y h1
    rw [hv] at h3
    simp only [Option.some.injEq] at h3
    have hyx : y = x := by omega
    subst hyx
    by_cases hu : D (gt ms i).a = F (gt ms i).a
    · rw [h1] at hu
      obtain ⟨t, h5, h6⟩ := r.prog i h0i hi y hu
      obtain ⟨j2, _, h7⟩ := hs' _ _ h5
      obtain ⟨q, h8, h9⟩ := hF.le h7
      rw [hv] at h8
      simp only [Option.some.injEq] at h8
      refine ⟨(gt ms i).b, (hg.b i h0i hi).1, (hg.b i h0i hi).2, hne, ?_⟩
      rw [h5, hv]
      simp only [Option.some.injEq]
      omega
    · exact ih h1 hu
def gdF (F D : Int → Option Int) (v : Int) : Bool := decide (D v = F v)
theorem fix_grow {ms : List LK} {S : Int → Prop} {F D D' : Int → Option Int} {T T' n : Nat} (hg : Gd ms n) (hF : Fix ms S F) (hs : Snd ms S T D) (hs' : Snd ms S T' D') (h0 : Src S D) (r : Rnd ms D D') {t : Nat} (ht : t ≤ n) (hc : t ≤ cnt n (gdF F D)) : min (t + 1) n ≤ cnt n (gdF F D') := by
  have hm : ∀ x : Int, 0 ≤ x → x < n → gdF F D x = true → gdF F D' x = true := fun x _ _ e => decide_eq_true (fix_keep hF hs' r.dec (of_decide_eq_true e))
  by_cases ha : n ≤ cnt n (gdF F D)
  · have := cnt_mono hm
    omega
  · have : ∃ v : Int, 0 ≤ v ∧ v < n ∧ D v ≠ F v := by
      apply Classical.byContradiction
      intro hn
      apply ha
      have h1 : cnt n (fun _ => true) ≤ cnt n (gdF F D) := cnt_mono (fun x h0 hx _ => decide_eq_true (Classical.byContradiction (fun e => hn ⟨x, h0, hx, e⟩)))
      have h2 := cnt_true n
      omega
    obtain ⟨v, hv0, hvn, hne⟩ := this
    have : ∃ x, F v = some x := by
      cases e : F v with
      | some x => exact ⟨x, rfl⟩
      | none =>
        exfalso
        apply hne
        rw [e]
        cases e2 : D v with
        | none => rfl
        | some y =>
          obtain ⟨j, _, h⟩ := hs _ _ e2
          obtain ⟨z, h1, _⟩ := hF.le h
          rw [e] at h1; simp at h1
    obtain ⟨x, hx⟩ := this
    obtain ⟨j, hw⟩ := hF.sound _ _ hx
    obtain ⟨z, z0, zn, h1, h2⟩ := fix_cross hg hF hs hs' h0 r hw hx hne
    have := cnt_lt hm z0 zn (decide_eq_false h1) (decide_eq_true h2)
    omega
theorem fix_full {n : Nat} {F D : Int → Option Int} (hc : n ≤ cnt n (gdF F D)) : ∀ v : Int, 0 ≤ v → v < n → D v = F v := fun v h0 hv => of_decide_eq_true (cnt_all hc v h0 hv)
/-- reached nodes -/
def rcd (D : Int → Option Int) (v : Int) : Bool := (D v).isSome
/-- potentials -/
def Pot (ms : List LK) (p : Int → Int) : Prop := ∀ i : Int, 0 ≤ i → i < ms.length → p (gt ms i).b ≤ p (gt ms i).a + wt ms i
theorem Wk.bound {ms : List LK} {S : Int → Prop} {n : Nat} (hg : Gd ms n) {j : Nat} {v x : Int} (h : Wk ms S j v x) : x.natAbs ≤ j * 1073741824 := by
  induction h with
  | src h => simp
  | @step k u x i h h0 hi e ih => have := hg.w i h0 hi; omega
/-- a round of numbers from those before -/
def jst (ms : List LK) (D D' : Int → Option Int) (i : Int) (v : Int) : Option Int :=
  if v = (gt ms i).b then
    match D (gt ms i).a with
    | none => D' v
    | some x => match D' v with
      | none => some (x + wt ms i)
      | some y => some (if x + wt ms i < y then x + wt ms i else y)
  else D' v
def jr (ms : List LK) (D : Int → Option Int) : Nat → Int → Option Int
  | 0 => D
  | k + 1 => jst ms D (jr ms D k) (k : Int)
def DK (ms : List LK) (D0 : Int → Option Int) : Nat → Int → Option Int
  | 0 => D0
  | k + 1 => jr ms (DK ms D0 k) ms.length
/-- numbers that no round changes are the least weights -/
theorem fix_of {ms : List LK} {S : Int → Prop} {D D' : Int → Option Int} {T n : Nat} (hg : Gd ms n) (hs : Snd ms S T D) (h0 : Src S D) (r : Rnd ms D D') (he : ∀ v : Int, 0 ≤ v → v < n → D' v = D v) : Fix ms S D :=
  ⟨fun v x e => by obtain ⟨j, _, h⟩ := hs v x e; exact ⟨j, h⟩, h0, fun i hi0 hi x e => by
    have := r.prog i hi0 hi x e
    rwa [he _ (hg.b i hi0 hi).1 (hg.b i hi0 hi).2] at this⟩
end Go.Proofs.Ytkhgglkkdnemlaa
namespace Go.Proofs.Ytkhgglkkdnemlaa
open Go Go.Fx
/-- the state of a search: numbers, the link that lowered last, when (in links), in which round (0: never) -/
structure NS (ms : List LK) (n : Nat) (r : Nat) (i : Int) (T : Nat) (d ls : Int → Int) (ti rd : Int → Nat) : Prop where
  idx : ∀ v : Int, 0 ≤ v → v < n → 0 < rd v → (0 ≤ ls v ∧ ls v < ms.length) ∧ (gt ms (ls v)).b = v
  inv : ∀ v : Int, 0 ≤ v → v < n → 0 < rd v → d (gt ms (ls v)).a + wt ms (ls v) ≤ d v ∧ (ti v ≤ ti (gt ms (ls v)).a → d (gt ms (ls v)).a + wt ms (ls v) < d v)
  tim : ∀ v : Int, ti v ≤ T
  rnd : ∀ v : Int, 0 ≤ v → v < n → rd v ≤ rd (gt ms (ls v)).a + 1 ∨ rd v = 0
  old : ∀ j : Int, 0 ≤ j → j < ms.length → ∀ q : Nat, q = (if j < i then r else r - 1) → 0 < q → rd (gt ms j).a < q → d (gt ms j).b ≤ d (gt ms j).a + wt ms j
  max : ∀ v : Int, rd v ≤ r
def fset {α : Type} (f : Int → α) (z : Int) (x : α) (v : Int) : α := if v = z then x else f v
/-- back along the links that lowered last -/
def bk (ms : List LK) (ls : Int → Int) : Nat → Int → Int
  | 0, v => v
  | k + 1, v => (gt ms (ls (bk ms ls k v))).a
/-- the weight of the first k links on the way back -/
def bw (ms : List LK) (ls : Int → Int) : Nat → Int → Int
  | 0, _ => 0
  | k + 1, v => bw ms ls k v + wt ms (ls (bk ms ls k v))
end Go.Proofs.Ytkhgglkkdnemlaa
namespace Go.Fx

/-- a region whose reads all come ahead of what it turns -/
def Cs1 (X : List Nat) (w0 : World) (M : List Ent) (I : List Imm) : Nat → World → Prop
  | 0, w => Mem X w0 M I w
  | _ + 1, _ => True
section
variable {P : Program} {n : Nat} {Q Q' : Exit → Act → World → Prop} {G : Env} {X : List Nat} {w0 : World} {M M' M1 : List Ent} {I I' I1 : List Imm}
theorem TD_drawn1 {id : Nat} {l : List Oper} (p ms : List Nat) (hx : P.follows .mixedOrders = true)
    (hp : (Region.noSelect l.toArray && orderOk l.toArray p ms (Array.replicate l.length false) && p.length == l.length) = true)
    (h : RD P n l Q (.any (Cs1 X w0 M I) 0 ms) (pick l p) G X w0 M I) : TD P n (.region id l.toArray true) Q G X w0 M I :=
  TD_drawnS (Cs1 X w0 M I) p ms hx (fun _ _ _ => True.intro) hp (fun _ h => h) h
theorem View.one {k : Nat} {ms : List Nat} (h : k + ms.headD 0 = 0) : View (.any (Cs1 X w0 M1 I1) k ms) X w0 M I M1 I1 := ⟨fun w w' _ hc => by
  have hc' : Cs1 X w0 M1 I1 (k + ms.headD 0) w' := hc
  rw [h] at hc'
  exact hc'⟩
theorem OkD.one {k : Nat} {ms : List Nat} : OkD (.any (Cs1 X w0 M1 I1) k ms) X w0 M I := ⟨fun _ _ => True.intro⟩

/- cells with a tail -/
theorem At.app {cs tl : List Value} {o : Nat} {v : Value} (h : At cs o v) : At (cs ++ tl) o v := ⟨by
  have := h.get
  rw [List.getElem?_append_left (List.getElem?_eq_some_iff.1 this).1]; exact this⟩
theorem Ats.app {cs tl vs : List Value} {o : Nat} (h : Ats cs o vs) : Ats (cs ++ tl) o vs := ⟨fun j v hj => by
  have := h.get j v hj
  rw [List.getElem?_append_left (List.getElem?_eq_some_iff.1 this).1]; exact this⟩
theorem StAt.app {cs cs' tl : List Value} {o : Nat} {v : Value} (h : StAt cs o v cs') : StAt (cs ++ tl) o v (cs' ++ tl) := by
  obtain ⟨h1, h2⟩ := h.out
  exact ⟨by rw [List.set_append_left _ _ h2, h1], by rw [List.length_append]; omega⟩
theorem StAts.app {cs cs' tl vs : List Value} {o : Nat} (h : StAts cs o vs cs') : StAts (cs ++ tl) o vs (cs' ++ tl) := by
  obtain ⟨h1, h2⟩ := h.out
  refine ⟨?_, by rw [List.length_append]; omega⟩
  unfold splice at *
  rw [List.take_append_of_le_length (by omega), List.drop_append_of_le_length (by omega), ← h1]
  simp
/-- what a row's slice holds, as a block -/
theorem Mem.rowBlk {w : World} {a : Option Addr} {mm c : Nat} {cs : List Value} {e : TypeId} {sz : Nat} (h : Mem X w0 (.row a mm c cs e sz :: M) I w) : (a = none ∧ mm = 0 ∧ cs = []) ∨ ∃ b tl, a = some ⟨b, 0, none⟩ ∧ mm ≤ c ∧ Mem X w0 (.blk b (cs ++ tl) e :: M) I w := by
  have ho : w.ownsRow 0 e sz (.slice a mm c) mm cs := h.ent _ List.mem_cons_self
  rcases ho.2 with ⟨h1, h2⟩ | ⟨g, cap, cur, hv, _, hg, hmc, _, hsz, htake⟩
  · injection h1 with e1 e2 e3
    exact .inl ⟨e1, h2, List.eq_nil_of_length_eq_zero (by rw [ho.1, h2]; simp)⟩
  · injection hv with e1 e2 e3
    subst e1; subst e3
    refine .inr ⟨g, cur.toList.drop (mm * sz), rfl, hmc, ?_⟩
    have hcs : cs ++ cur.toList.drop (mm * sz) = cur.toList := by rw [← htake, List.take_append_drop]
    rw [hcs]
    refine h.upd (en := .row (some ⟨g, 0, none⟩) mm c cs e sz) (en' := .blk g cur.toList e) .here (Ext.refl _ _) (fun b hb => .inl (by simpa [Ent.blocks] using hb)) (by simp [Ent.blocks]) ?_
    show Blk w g cur.toList e
    simpa [Blk] using hg
theorem TD_rowBlk {c' : Code} {a : Option Addr} {mm c : Nat} {cs : List Value} {e : TypeId} {sz : Nat} (h0 : a = none → mm = 0 → cs = [] → TD P n c' Q G X w0 (.row a mm c cs e sz :: M) I) (h1 : ∀ b tl, a = some ⟨b, 0, none⟩ → mm ≤ c → TD P n c' Q G X w0 (.blk b (cs ++ tl) e :: M) I) : TD P n c' Q G X w0 (.row a mm c cs e sz :: M) I :=
  ⟨fun w hw => by
    rcases hw.rowBlk with ⟨e1, e2, e3⟩ | ⟨b, tl, e1, e2, hm⟩
    · exact (h0 e1 e2 e3).go w hw
    · exact (h1 b tl e1 e2).go w hm⟩
theorem RD_rowBlk {ops l : List Oper} {m : Mode} {a : Option Addr} {mm c : Nat} {cs : List Value} {e : TypeId} {sz : Nat} (h0 : a = none → mm = 0 → cs = [] → RD P n ops Q m l G X w0 (.row a mm c cs e sz :: M) I) (h1 : ∀ b tl, a = some ⟨b, 0, none⟩ → mm ≤ c → RD P n ops Q m l G X w0 (.blk b (cs ++ tl) e :: M) I) : RD P n ops Q m l G X w0 (.row a mm c cs e sz :: M) I :=
  ⟨fun w hw => by
    rcases hw.rowBlk with ⟨e1, e2, e3⟩ | ⟨b, tl, e1, e2, hm⟩
    · exact (h0 e1 e2 e3).go w hw
    · exact (h1 b tl e1 e2).go w hm⟩
/-- a part of what is read -/
theorem Mem.takeI {w : World} {a : Option Addr} {cs tl : List Value} (h : Mem X w0 M I w) (hm : slI a (cs ++ tl) ∈ I) : Mem X w0 M (slI a cs :: I) w :=
  h.add (φ := slI a cs) ⟨by
    have := (h.sl hm).take cs.length
    rwa [List.take_left] at this⟩
theorem ND_takeI {ex : Exit} {a : Option Addr} {cs tl : List Value} (hm : slI a (cs ++ tl) ∈ I) (h : ND n Q ex G X w0 M (slI a cs :: I)) : ND n Q ex G X w0 M I := ND_m (fun _ hw => hw.takeI hm) h
/-- a fact that the heap gives -/
theorem ND_fact {φ : Prop} {ex : Exit} (h : ∀ w, Mem X w0 M I w → φ) (k : φ → ND n Q ex G X w0 M I) : ND n Q ex G X w0 M I := ⟨fun w hw => (k (h w hw)).go w hw⟩
theorem RD_fact {φ : Prop} {ops l : List Oper} {m : Mode} (h : ∀ w, Mem X w0 M I w → φ) (k : φ → RD P n ops Q m l G X w0 M I) : RD P n ops Q m l G X w0 M I := ⟨fun w hw => (k (h w hw)).go w hw⟩
/-- a call with entries brought to the front -/
theorem CD.sub {f : FuncId} {vs : List Value} {K : Value → List Ent → List Imm → Prop} (hM : SubP M M') (h : CD P f vs X w0 M' I K) : CD P f vs X w0 M I K := h.weak hM .refl
/-- a shift by one to the right -/
theorem Const_half {C : World → Prop} {ty : TypeId} {t t' : TypeId} {x y : Operand} {k k' : IntKind} {a : Int} (hx : ev G x = some (.int k a)) (hy : ev G y = some (.int k' 1)) : Const P n G (.binOp .shr t x y t') ty C (.int k (a / 2)) := by
  refine Const_shift hx hy (by omega) (.inr ⟨rfl, ?_⟩)
  have : min ((1 : Int).toNat) k.bits = 1 := by cases k <;> decide
  rw [this, Int.fdiv_eq_ediv_of_nonneg _ (by decide)]
  rfl
theorem Const_notB {C : World → Prop} {ty : TypeId} {t : TypeId} {x : Operand} {p : Prop} [Decidable p] (hx : ev G x = some (.bool (B p))) : Const P n G (.unOp .not t x) ty C (.bool (B (¬ p))) := by
  have := Const_pure (P := P) (n := n) (G := G) (ty := ty) (C := C) (op := .unOp .not t x) (v := .bool (!(B p))) (by simp [pureV, hx])
  rwa [show (!(B p)) = B (¬ p) by rw [B_eq, B_eq]; simp] at this
/-- reading what is only read, at a block's own address -/
theorem RD_ldIB {ops l : List Oper} {m : Mode} {ty : TypeId} {pos : String} {af : Array Edge} {g : Option (Nat × Bool)} {d : Nat} {t : TypeId} {x : Operand} {b o : Nat} {cs : List Value} {v : Value} [ScalarTy P t] (hv : View m X w0 M I M1 I1) (hx : ev G x = some (.pointer (some ⟨b, o, none⟩))) (hm : slI (some ⟨b, 0, none⟩) cs ∈ I1) (hc : At cs o v) (hg : gst ops G g = some true)
    (hd : Nat.ble (d + 1) n = true) (k : RD P n ops Q m.next l ((d, v) :: G) X w0 M I) : RD P n ops Q m (⟨some d, .load t x, ty, pos, af, g⟩ :: l) G X w0 M I :=
  RD_v hv hg (fun w hw => Const_load hx (fun w' e => by
    subst e
    have := (hw.sl hm).cell hc.get
    simpa [pt, bl, of] using this)) rfl hd k
theorem RD_ldNIB {ops l : List Oper} {m : Mode} {ty : TypeId} {pos : String} {af : Array Edge} {g : Option (Nat × Bool)} {d : Nat} {t : TypeId} {sz : Nat} {x : Operand} {b o : Nat} {cs vs : List Value} [AggTy P t sz] (hv : View m X w0 M I M1 I1) (hx : ev G x = some (.pointer (some ⟨b, o, none⟩))) (hm : slI (some ⟨b, 0, none⟩) cs ∈ I1) (hc : Ats cs o vs) (hl : vs.length = sz) (hg : gst ops G g = some true)
    (hd : Nat.ble (d + 1) n = true) (k : RD P n ops Q m.next l ((d, .agg vs.toArray) :: G) X w0 M I) : RD P n ops Q m (⟨some d, .load t x, ty, pos, af, g⟩ :: l) G X w0 M I :=
  RD_v hv hg (fun w hw => Const_loadN hx hl (fun w' e => by
    subst e
    have := Sl.rowAt (hw.sl hm) o vs hc.get
    simpa [bl, of] using this)) rfl hd k
end
end Go.Fx
namespace Go.Fx
section
variable {P : Program} {n : Nat} {Q Q' : Exit → Act → World → Prop} {G : Env} {X : List Nat} {w0 : World} {M M' M1 : List Ent} {I I' I1 : List Imm}
theorem TD_drawnW {id : Nat} {l : List Oper} (Ms : List Ent) (Is : List Imm) (p ms : List Nat) (hM : SubP M Ms) (hI : Inc I Is) (hx : P.follows .mixedOrders = true)
    (hp : (Region.noSelect l.toArray && orderOk l.toArray p ms (Array.replicate l.length false) && p.length == l.length) = true)
    (h : RD P n l Q (.any (Cst X w0 Ms Is) 0 ms) (pick l p) G X w0 M I) : TD P n (.region id l.toArray true) Q G X w0 M I :=
  TD_drawnS (Cst X w0 Ms Is) p ms hx (fun _ _ h => h) hp (fun _ h => h.weak hM hI) h
/- slices from the start -/
theorem Mem.rowC {w : World} {mm c : Nat} {cs : List Value} {e : TypeId} {sz : Nat} (h : Mem X w0 (.row none mm c cs e sz :: M) I w) : c = 0 := by
  have ho : w.ownsRow 0 e sz (.slice none mm c) mm cs := h.ent _ List.mem_cons_self
  rcases ho.2 with ⟨h1, h2⟩ | ⟨g, cap, cur, hv, _⟩
  · injection h1
  · injection hv with e1; cases e1
end
end Go.Fx
namespace Go.Fx
@[irreducible] def NoG (Q : Exit → Act → World → Prop) : Exit → Act → World → Prop := Exit.noGoto Q
section
variable {P : Program} {n : Nat} {Q Q' : Exit → Act → World → Prop} {G : Env} {X : List Nat} {w0 : World} {M M' M1 : List Ent} {I I' I1 : List Imm}
theorem TD_scope {c : Code} (h : TD P n c (NoG Q) G X w0 M I) : TD P n (.scope c) Q G X w0 M I := ⟨fun w hw => ⟨fun a ha => wp_scope_straight (by have := (h.go w hw).go a ha; unfold NoG at this; exact this)⟩⟩
theorem ND_noR (h : ND n Q .ret G X w0 M I) : ND n (NoG Q) .ret G X w0 M I := ⟨fun w hw => ⟨fun a ha => by unfold NoG; exact (h.go w hw).go a ha⟩⟩
theorem results_cellN {fn : Func} {a : Tmp} {t : TypeId} {sz : Nat} {tmps : Array Value} {w : World} {b : Nat} {cs : List Value} {e : TypeId} [ht : AggTy P t sz] (h : fn.results = #[.cell a t]) (hb : tmps.getD a undef = .pointer (some ⟨b, 0, none⟩)) (hB : Blk w b cs e) (hl : cs.length = sz) :
    (results fn tmps).run P w = .ok (.agg cs.toArray) w := by
  have := run_loadCellsFrom (P := P) cs (hB.row0) sz 0 #[] (by omega) rfl
  have hb' : tmps[a]?.getD undef = .pointer (some ⟨b, 0, none⟩) := by simpa using hb
  simp [results, h, hb', asAddr, loadVar, run_isAgg_yes, run_sizeOf ht.size, loadCells, this]
theorem ND_retC {fn : Func} {K : Value → List Ent → List Imm → Prop} {ex : Exit} {a : Tmp} {t : TypeId} {sz b : Nat} {cs : List Value} {e : TypeId} [AggTy P t sz] (he : ex = .ret ∨ ex = .normal) (hr : fn.results = #[.cell a t]) (hv : lk G a = some (.pointer (some ⟨b, 0, none⟩))) (hm : .blk b cs e ∈ M) (hl : cs.length = sz) (M' : List Ent) (I' : List Imm) (hM : SubP M M') (hI : Inc I I') (h : K (.agg cs.toArray) M' I') :
    ND n (Body P fn (KB K X w0)) ex G X w0 M I := ⟨fun w hw => ⟨fun act ha => by
  unfold Body
  have e1 : act.tmps.getD a undef = .pointer (some ⟨b, 0, none⟩) := by simp [ha.get a _ hv]
  have e2 := results_cellN (P := P) (t := t) hr e1 (hw.blk hm) hl
  rcases he with rfl | rfl <;> exact ⟨ha.defers, _, e2, _, rfl, M', I', h, hw.weak hM hI⟩⟩⟩
end
end Go.Fx
namespace Go.Fx
section
variable {P : Program} {n : Nat} {Q : Exit → Act → World → Prop} {G G' : Env} {X : List Nat} {w0 : World} {M M' M1 : List Ent} {I I' I1 : List Imm} {m : Mode} {a b : Ent} {φ : Imm} {cs cs' vs : List Value} {o sz : Nat} {v : Value} {x y : Int} {kk : IntKind} {α : Type} {aa : α} {ll : List α}
theorem subP (h : SubP M M' := by repeat (first | exact SubP.refl | exact SubP.nil | refine SubP.cons (by first | exact .here | exact .there .here | exact .there (.there .here) | exact .there (.there (.there .here)) | exact .there (.there (.there (.there .here))) | exact .there (.there (.there (.there (.there .here)))) | exact .there (.there (.there (.there (.there (.there .here))))) | exact .there (.there (.there (.there (.there (.there (.there .here)))))) | exact .there (.there (.there (.there (.there (.there (.there (.there .here)))))))) ?_ | refine SubP.drop ?_)) : SubP M M' := h
theorem incL (h : Inc I I' := by repeat (first | exact Inc.refl | exact Inc.nil | refine Inc.cons (by repeat (first | exact List.Mem.head _ | assumption | refine List.Mem.tail _ ?_)) ?_ | refine Inc.wk ?_)) : Inc I I' := h
theorem repE (h : Rep a b M M' := by first | exact .here | exact .there .here | exact .there (.there .here) | exact .there (.there (.there .here)) | exact .there (.there (.there (.there .here))) | exact .there (.there (.there (.there (.there .here)))) | exact .there (.there (.there (.there (.there (.there .here))))) | exact .there (.there (.there (.there (.there (.there (.there .here)))))) | exact .there (.there (.there (.there (.there (.there (.there (.there .here))))))) | assumption) : Rep a b M M' := h
theorem remE (h : Rem a M M' := by first | exact .here | exact .there .here | exact .there (.there .here) | exact .there (.there (.there .here)) | exact .there (.there (.there (.there .here))) | exact .there (.there (.there (.there (.there .here)))) | exact .there (.there (.there (.there (.there (.there .here))))) | exact .there (.there (.there (.there (.there (.there (.there .here)))))) | exact .there (.there (.there (.there (.there (.there (.there (.there .here)))))))) : Rem a M M' := h
theorem memL (h : aa ∈ ll := by repeat (first | exact List.Mem.head _ | assumption | refine List.Mem.tail _ ?_)) : aa ∈ ll := h
theorem okD (h : OkD m X w0 M I := by first | exact OkD.seq | exact OkD.one | exact OkD.any (by repeat (first | exact SubP.refl | exact SubP.nil | refine SubP.cons (by first | exact .here | exact .there .here | exact .there (.there .here) | exact .there (.there (.there .here)) | exact .there (.there (.there (.there .here))) | exact .there (.there (.there (.there (.there .here)))) | exact .there (.there (.there (.there (.there (.there .here))))) | exact .there (.there (.there (.there (.there (.there (.there .here)))))) | exact .there (.there (.there (.there (.there (.there (.there (.there .here)))))))) ?_ | refine SubP.drop ?_)) (by repeat (first | exact Inc.refl | exact Inc.nil | refine Inc.cons (by repeat (first | exact List.Mem.head _ | assumption | refine List.Mem.tail _ ?_)) ?_ | refine Inc.wk ?_))) : OkD m X w0 M I := h
theorem vwX (h : View m X w0 M I M1 I1 := by first | exact View.seq | exact View.any | exact View.one rfl) : View m X w0 M I M1 I1 := h
theorem atC (h : At cs o v := by first | exact At.r1 (by first | omega | (simp only [st_len, List.length_replicate, List.length_append]; omega)) rfl | exact At.r2 (by first | omega | (simp only [st_len, List.length_replicate, List.length_append]; omega)) rfl | exact At.mk rfl | exact At.app (At.r1 (by first | omega | (simp only [st_len, List.length_replicate, List.length_append]; omega)) rfl) | exact At.app (At.r2 (by first | omega | (simp only [st_len, List.length_replicate, List.length_append]; omega)) rfl)) : At cs o v := h
theorem atsC (h : Ats cs o vs := by first | exact Ats.r (by first | omega | (simp only [st_len, List.length_replicate, List.length_append]; omega)) | exact Ats.all | exact Ats.app (Ats.r (by first | omega | (simp only [st_len, List.length_replicate, List.length_append]; omega))) | exact Ats.lit rfl) : Ats cs o vs := h
theorem stC (h : StAt cs o v cs' := by first | exact StAt.r1 _ (by first | omega | (simp only [st_len, List.length_replicate, List.length_append]; omega)) rfl | exact StAt.app (StAt.r1 _ (by first | omega | (simp only [st_len, List.length_replicate, List.length_append]; omega)) rfl) | exact StAt.mk (by first | (dsimp only [List.set]; done) | (dsimp only [List.set]; rfl)) (by simp)) : StAt cs o v cs' := h
theorem stsC (h : StAts cs o vs cs' := by first | exact StAts.r _ (by first | omega | (simp only [st_len, List.length_replicate, List.length_append]; omega)) rfl | exact StAts.app (StAts.r _ (by first | omega | (simp only [st_len, List.length_replicate, List.length_append]; omega)) rfl) | exact StAts.all (by first | rfl | simp)) : StAts cs o vs cs' := h
theorem posC (h : 0 < cs.length := by rw [recs_len]; omega) : 0 < cs.length := h
theorem lenC (h : vs.length = sz := by first | rfl | exact Sized.len _) : vs.length = sz := h
theorem oneC (h : ∀ u ∈ vs, u.oneCell' = true := by first | exact Ones.one _ | (intro u hu; repeat (first | exact absurd hu (List.not_mem_nil) | (rcases List.mem_cons.1 hu with rfl | hu; · rfl)))) : ∀ u ∈ vs, u.oneCell' = true := h
theorem subG (h : Sub G G' := by repeat (first | exact Sub.nil | refine Sub.cons rfl rfl ?_)) : Sub G G' := h
theorem bdI (h : 0 ≤ x ∧ x < y := by first | omega | (simp only [st_len, List.length_replicate, List.length_append]; omega)) : 0 ≤ x ∧ x < y := h
theorem w_ (h : kk.wrap x = y := by first | exact wrap_i64 (by first | omega | assumption) | exact wrap_u64 (by first | omega | assumption) | exact wrap_u32 (by first | omega | assumption) | exact wrap_u8 (by omega)) : kk.wrap x = y := h
theorem q_ (h : kk.wrap x = y := by first | exact quo_i64 (by omega) | exact quo_u64 (by omega) (by omega)) : kk.wrap x = y := h
end
end Go.Fx
namespace Go.Fx
def CsJ (J : Nat) (X : List Nat) (w0 : World) (M : List Ent) (I : List Imm) : Nat → World → Prop := fun s w => s ≤ J → Mem X w0 M I w
section
variable {P : Program} {n : Nat} {Q Q' : Exit → Act → World → Prop} {G : Env} {X : List Nat} {w0 : World} {M M' M1 : List Ent} {I I' I1 : List Imm}
theorem TD_drawnJ {id : Nat} {l : List Oper} (J : Nat) (p ms : List Nat) (hx : P.follows .mixedOrders = true)
    (hp : (Region.noSelect l.toArray && orderOk l.toArray p ms (Array.replicate l.length false) && p.length == l.length) = true)
    (h : RD P n l Q (.any (CsJ J X w0 M I) 0 ms) (pick l p) G X w0 M I) : TD P n (.region id l.toArray true) Q G X w0 M I :=
  TD_drawnS (CsJ J X w0 M I) p ms hx (fun s w h hs => h (by omega)) hp (fun _ h _ => h) h
theorem View.upto {J k : Nat} {ms : List Nat} (h : k + ms.headD 0 ≤ J) : View (.any (CsJ J X w0 M1 I1) k ms) X w0 M I M1 I1 := ⟨fun w w' _ hc => by
  have hc' : CsJ J X w0 M1 I1 (k + ms.headD 0) w' := hc
  exact hc' h⟩
theorem OkD.uptoN {J k : Nat} {ms : List Nat} (h : J ≤ k) : OkD (.any (CsJ J X w0 M1 I1) k ms) X w0 M I := ⟨fun w _ => by
  show CsJ J X w0 M1 I1 (k + 1) w
  intro hs
  omega⟩
theorem OkD.uptoY {J k : Nat} {ms : List Nat} (hM : SubP M M1) (hI : Inc I I1) : OkD (.any (CsJ J X w0 M1 I1) k ms) X w0 M I := ⟨fun w hw => by
  show CsJ J X w0 M1 I1 (k + 1) w
  exact fun _ => hw.weak hM hI⟩
/- lending: what a function owns, lent to a callee that only reads -/
end
end Go.Fx
namespace Go.Fx
section
variable {α : Type} {enc : α → List Value} {sz : Nat}
theorem recs_drop [h : Sized enc sz] : ∀ (ms : List α) (l : Nat), recs enc (ms.drop l) = (recs enc ms).drop (l * sz)
  | ms, 0 => by simp
  | [], l + 1 => by simp [recs]
  | m :: r, l + 1 => by
    have e : recs enc (m :: r) = enc m ++ recs enc r := rfl
    have h1 : (l + 1) * sz = (enc m).length + l * sz := by rw [h.len, Nat.add_mul]; omega
    rw [List.drop_succ_cons, recs_drop r l, e, h1, List.drop_append, List.drop_of_length_le (show (enc m).length ≤ (enc m).length + l * sz by omega)]
    simp
theorem recs_take [h : Sized enc sz] : ∀ (ms : List α) (l : Nat), recs enc (ms.take l) = (recs enc ms).take (l * sz)
  | ms, 0 => by simp [recs]
  | [], l + 1 => by simp [recs]
  | m :: r, l + 1 => by
    have e : recs enc (m :: r) = enc m ++ recs enc r := rfl
    have e2 : recs enc ((m :: r).take (l + 1)) = enc m ++ recs enc (r.take l) := rfl
    have h1 : (l + 1) * sz = (enc m).length + l * sz := by rw [h.len, Nat.add_mul]; omega
    rw [e2, recs_take r l, e, h1, List.take_append, List.take_of_length_le (show (enc m).length ≤ (enc m).length + l * sz by omega)]
    simp
end
section
variable {P : Program} {n : Nat} {Q Q' : Exit → Act → World → Prop} {G : Env} {X : List Nat} {w0 : World} {M M' M1 : List Ent} {I I' I1 : List Imm}
theorem Mem.cutI {α : Type} {enc : α → List Value} {sz : Nat} [hz : Sized enc sz] {w : World} {a : Option Addr} {ms : List α} (c l m : Nat) (h : Mem X w0 M I w) (hm : slI a (recs enc ms) ∈ I) (hc : ms.length ≤ c) : Mem X w0 M (slI (cutA a c l sz) (recs enc ((ms.take m).drop l)) :: I) w :=
  h.add (φ := slI _ _) ⟨by
    rw [recs_drop, recs_take]
    exact (h.sl hm).cut c l (m * sz) sz (by rw [recs_len]; exact Nat.mul_le_mul_right _ hc)⟩
theorem RD_cutI {α : Type} {enc : α → List Value} {sz : Nat} [hz : Sized enc sz] {ops l : List Oper} {m : Mode} {a : Option Addr} {ms : List α} (c lo hi : Nat) (hm : slI a (recs enc ms) ∈ I) (hc : ms.length ≤ c) (h : RD P n ops Q m l G X w0 M (slI (cutA a c lo sz) (recs enc ((ms.take hi).drop lo)) :: I)) : RD P n ops Q m l G X w0 M I := RD_m (fun _ hw => hw.cutI c lo hi hm hc) h
theorem Const_cut {C : World → Prop} {ty t e : TypeId} {sz : Nat} {x : Operand} {lo hi : Option Operand} {a : Option Addr} {len c : Nat} (l h k : Nat) [ht : SliceTy P t e sz] (hx : ev G x = some (.slice a len c))
    (hl : (lo = none ∧ l = 0) ∨ ∃ y k i, lo = some y ∧ ev G y = some (.int k i) ∧ i = (l : Int)) (hh : (hi = none ∧ h = len) ∨ ∃ y k i, hi = some y ∧ ev G y = some (.int k i) ∧ i = (h : Int)) (h1 : l ≤ h) (h2 : h ≤ c) (hk : h - l = k) :
    Const P n G (.slice t x lo hi none) ty C (.slice (cutA a c l sz) k (c - l)) := by
  subst hk
  exact Const_slice hx (hl.imp id (fun ⟨y, k, i, h1, h2, h3⟩ => ⟨y, k, h1, by rw [← h3]; exact h2⟩)) (hh.imp id (fun ⟨y, k, i, h1, h2, h3⟩ => ⟨y, k, h1, by rw [← h3]; exact h2⟩)) h1 h2
theorem RD_toRow {ops l : List Oper} {m : Mode} {b mm : Nat} {cs : List Value} {e : TypeId} (sz : Nat) (hr : Rep (.blk b cs e) (.row (some ⟨b, 0, none⟩) mm mm cs e sz) M M') (hl : cs.length = mm * sz) (hm : mm ≤ 9223372036854775807) (h : RD P n ops Q m l G X w0 M' I) : RD P n ops Q m l G X w0 M I := RD_m (fun _ hw => hw.toRow sz hr hl hm) h
theorem CD.post {f : FuncId} {vs : List Value} {K K' : Value → List Ent → List Imm → Prop} (h : CD P f vs X w0 M I K) (hk : ∀ v M1 I1 w, K v M1 I1 → Mem X w0 M1 I1 w → ∃ M2 I2, K' v M2 I2 ∧ Mem X w0 M2 I2 w) : CD P f vs X w0 M I K' :=
  ⟨fun w hw => (h.go w hw).mono (fun _ _ ⟨_, _, h1, h2⟩ => hk _ _ _ _ h1 h2)⟩
theorem CD.pre {f : FuncId} {vs : List Value} {K : Value → List Ent → List Imm → Prop} (hM : ∀ w, Mem X w0 M I w → Mem X w0 M' I' w) (h : CD P f vs X w0 M' I' K) : CD P f vs X w0 M I K := ⟨fun w hw => h.go w (hM w hw)⟩
theorem CD_rowBlk {f : FuncId} {vs : List Value} {K : Value → List Ent → List Imm → Prop} {a : Option Addr} {mm c : Nat} {cs : List Value} {e : TypeId} {sz : Nat} (h0 : a = none → mm = 0 → cs = [] → c = 0 → CD P f vs X w0 M I K) (h1 : ∀ b tl, a = some ⟨b, 0, none⟩ → mm ≤ c → CD P f vs X w0 (.blk b (cs ++ tl) e :: M) I K) : CD P f vs X w0 (.row a mm c cs e sz :: M) I K :=
  ⟨fun w hw => by
    rcases hw.rowBlk with ⟨e1, e2, e3⟩ | ⟨b, tl, e1, e2, hm⟩
    · subst e1
      exact (h0 rfl e2 e3 hw.rowC).go w hw.tail
    · exact (h1 b tl e1 e2).go w hm⟩
/- two operations that change the world, in either order -/
/-- two truth values compared -/
theorem Const_neBB {C : World → Prop} {ty t t' : TypeId} {x y : Operand} {p q : Prop} [Decidable p] [Decidable q] [ht : BoolTy P t] (hx : ev G x = some (.bool (B p))) (hy : ev G y = some (.bool (B q))) :
    Const P n G (.binOp .neq t x y t') ty C (.bool (B (¬ (p ↔ q)))) := by
  refine ⟨?_⟩
  intro s ha dst pos after guard w _
  have h : (!(B p == B q)) = B (¬ (p ↔ q)) := by
    rw [B_eq, B_eq, B_eq]
    by_cases hp : p <;> by_cases hq : q <;> simp [hp, hq]
  have e1 : (eqGuard .neq t x y (.bool (B p)) (.bool (B q))).run P w = .ok () w := rfl
  simp only [execOp, ha.ev hx, ha.ev hy, Sem.run_bind, e1, Result.andThen_ok, run_neq_bool _ t (B p) (B q) ht.und, Sem.run_pure, h]
theorem Mem.rowLe {w : World} {a : Option Addr} {m c : Nat} {cs : List Value} {e : TypeId} {sz : Nat} (h : Mem X w0 M I w) (hm : .row a m c cs e sz ∈ M) : m ≤ c := by
  have ho : w.ownsRow 0 e sz (.slice a m c) m cs := h.ent _ hm
  obtain ⟨a', c', hv, _, _, hle⟩ := own_sl ho
  injection hv with e1 e2 e3
  subst e3
  exact hle
end
end Go.Fx
namespace Go.Fx
open Go
section
variable {P : Program} {l0 n : Nat} {Q : Exit → Act → World → Prop} {ops : Array Oper}
def noDefer (o : Oper) : Bool := match o.op with | .defer _ => false | _ => true
end
section
variable {P : Program} {l0 k n : Nat} {Q Q' : Exit → Act → World → Prop} {G : Env} {X : List Nat} {w0 : World} {M M' M1 : List Ent} {I I' I1 : List Imm} {a : Act} {w : World}
end
/- what is read with no slack sees all, other reads see what stays -/
def CsK (J : Nat) (X : List Nat) (w0 : World) (M Ms : List Ent) (I Is : List Imm) : Nat → World → Prop := fun s w => (s = 0 → Mem X w0 M I w) ∧ (s ≤ J → Mem X w0 Ms Is w)
section
variable {X : List Nat} {w0 : World} {M M' M1 Ms : List Ent} {I I' I1 Is : List Imm}
theorem View.k0 {J k : Nat} {ms : List Nat} (h : k + ms.headD 0 = 0) : View (.any (CsK J X w0 M1 Ms I1 Is) k ms) X w0 M I M1 I1 := ⟨fun w w' _ hc => by
  have hc' : CsK J X w0 M1 Ms I1 Is (k + ms.headD 0) w' := hc
  exact hc'.1 h⟩
theorem View.kJ {J k : Nat} {ms : List Nat} (h : k + ms.headD 0 ≤ J) : View (.any (CsK J X w0 M1 Ms I1 Is) k ms) X w0 M I Ms Is := ⟨fun w w' _ hc => by
  have hc' : CsK J X w0 M1 Ms I1 Is (k + ms.headD 0) w' := hc
  exact hc'.2 h⟩
theorem OkD.kN {J k : Nat} {ms : List Nat} (h : J ≤ k) : OkD (.any (CsK J X w0 M1 Ms I1 Is) k ms) X w0 M I := ⟨fun w _ => by
  show CsK J X w0 M1 Ms I1 Is (k + 1) w
  exact ⟨fun h => by omega, fun h => by omega⟩⟩
theorem OkD.kY {J k : Nat} {ms : List Nat} (hM : SubP M Ms) (hI : Inc I Is) : OkD (.any (CsK J X w0 M1 Ms I1 Is) k ms) X w0 M I := ⟨fun w hw => by
  show CsK J X w0 M1 Ms I1 Is (k + 1) w
  exact ⟨fun h => by omega, fun _ => hw.weak hM hI⟩⟩
end
/- the same behind deferred calls -/
def addD (Ds : List Deferred) (a : Act) : Act := { a with defers := a.defers ++ Ds }
section
variable {P : Program} {Ds : List Deferred} {Q : Exit → Act → World → Prop} {ops : Array Oper}
end
section
variable {P : Program} {k n : Nat} {Q Q' : Exit → Act → World → Prop} {G : Env} {X : List Nat} {w0 : World} {M M' M1 : List Ent} {I I' I1 : List Imm} {a : Act} {w : World}
end
theorem Has.cons {n : Nat} {G : Env} {a : Act} {t : Nat} {v : Value} (h : Has n G a) (ht : a.tmps[t]? = some v) : Has n ((t, v) :: G) a :=
  ⟨h.size, h.defers, fun s u hs => by
    unfold lk at hs
    cases e : Nat.beq t s with
    | true => rw [e] at hs; have := Nat.eq_of_beq_eq_true e; subst this; exact ht.trans hs
    | false => rw [e] at hs; exact h.get s u hs⟩
theorem Has.nil {n : Nat} {a : Act} (h : a.tmps.size = n) (hd : a.defers = []) : Has n [] a := ⟨h, hd, fun _ _ h => by cases h⟩
end Go.Fx

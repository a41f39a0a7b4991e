/- matrix.Check, check, both, square; the document's Check; the law's code. Matrices and lists that are built by appending: rows of facts. Determinants, plain: sums, expansion along the first row, what operations on rows do to it. Elimination, plain: what a step does to products, determinants, solutions; the reduced form; inverse matrices. matrix: the functions that the elements are made by; dot. -/
import Derived.Test.YtkccjglmnhgabaaGreatDoorZqaz
import Derived.Test.YtkccjglmnhgabaaGreatDoorZqam
set_option linter.unusedSimpArgs false
set_option linter.unusedVariables false
set_option maxRecDepth 100000
set_option maxHeartbeats 4000000
namespace Go.Proofs.YtkccjglmnhgabaaGreatDoor
open Go Go.Fx
def WM.code (m : WM) : Int := if m.ok then 0 else 1
def codeL (ms : List WM) : Int := if ∀ m ∈ ms, m.ok then 0 else 1
def bothC (a b : WM) : Int := if a.ok ∧ b.ok then (if a.rows.length = b.rows.length ∧ (gt a.rows 0).es.length = (gt b.rows 0).es.length then 0 else 4) else 1
def sqC (a : WM) : Int := if a.ok then (if a.rows.length = (gt a.rows 0).es.length then 0 else 4) else 1
section
variable {P : Program} {n : Nat} {Q : Exit → Act → World → Prop} {G : Env} {X : List Nat} {w0 : World} {M M' : List Ent} {I I' : List bB} {ops l : List Oper} {m : Fx.Mode} {ty : TypeId} {pos : String} {af : Array Edge} {g : Option (Nat × Bool)}
theorem xG {d : Nat} {t : TypeId} {x : Operand} {q : Option Addr} {len c : Nat} (hx : ev G x = some (.slice q len c)) (hg : oQ ops G g = some true) (hd : Nat.ble (d + 1) n = true)
  (k : ∀ b, OkD m X w0 (.blk b [.slice q len c] t :: M) I ∧ RD P n ops Q m.nextE l ((d, .pointer (some ⟨b, 0, none⟩)) :: G) X w0 M (aW (some ⟨b, 0, none⟩) [.slice q len c] :: I)) :
  RD P n ops Q m (⟨some d, .box t x, ty, pos, af, g⟩ :: l) G X w0 M I := mW hx hg hd (fun b => ⟨(k b).1, aO .here (k b).2⟩)
end
section
variable {X : List Nat} {w0 : World} {M0 : List Ent} {I0 : List bB}
theorem aCD {m : WM} {b : Nat} {r : WL} (hR : 1 ≤ m.rows.length) (hs : r.sml) (h : Hv I0 (aHB r)) (hm : uT m ∈ I0) (hb : aW (some ⟨b, 0, none⟩) [.slice m.p m.rows.length m.c] ∈ I0) :
  CD Tryz.prog 60 [lvW r, .pointer (some ⟨b, 0, none⟩)] X w0 M0 I0 (fun v M I => M0 = M ∧ I0 = I ∧ v = .bool (B (¬ (r.es.length = (gt m.rows 0).es.length ∧ r.good)))) := by
 refine eQ (φ := aHB r) h ?_
 refine eQ (φ := aW m.p (recs eWL m.rows)) (Hv.wmsl (List.Mem.tail _ hm)) ?_
 by_cases he : r.es.length = (gt m.rows 0).es.length
 ·have hq : B (¬ r.good) = B (¬ (r.es.length = (gt m.rows 0).es.length ∧ r.good)) := gZ (not_congr ⟨fun h => ⟨he, h⟩, fun h => h.2⟩)
  refine bR Tryz.func60 rfl Tryz.ntmps60 rfl ?_
  repeat (refine aK ?_)
  (refine aA rfl (aBZ (r := r) hs aB) rfl rfl ?_; rintro _ _ _ ⟨rfl, rfl, rfl⟩; refine ⟨okF, ?_⟩)
  repeat (refine aK ?_)
  refine aH (by first | exact .inl rfl | exact .inr rfl) rfl rfl _ _ aF aD (⟨rfl, rfl, congrArg Value.bool hq⟩)
 ·have hn : ¬ (r.es.length = (gt m.rows 0).es.length ∧ r.good) := fun e => he e.1
  have hq : B (¬ (r.es.length = (gt m.rows 0).es.length ∧ r.good)) = true := dZ hn
  refine bR Tryz.func60 rfl Tryz.ntmps60 rfl ?_
  repeat (refine aK ?_)
  refine aH (by first | exact .inl rfl | exact .inr rfl) rfl rfl _ _ aF aD (⟨rfl, rfl, congrArg Value.bool hq.symm⟩)
theorem WM.code_ok {m : WM} (h : m.ok) : m.code = 0 := if_pos h
theorem WM.code_no {m : WM} (h : ¬ m.ok) : m.code = 1 := if_neg h
theorem uC {m : WM} (hs : m.sml) (hm : uT m ∈ I0) : CD Tryz.prog 32 [mvW m] X w0 M0 I0 (fun v M I => M0 = M ∧ I0 = I ∧ v = .int .i64 m.code) := by
 refine eQ (φ := aW m.p (recs eWL m.rows)) (Hv.wmsl hm) ?_
 have hl := hs.1
 by_cases hsh : 1 ≤ m.rows.length ∧ m.rows.length ≤ 64 ∧ 1 ≤ (gt m.rows 0).es.length ∧ (gt m.rows 0).es.length ≤ 64
 ·obtain ⟨s1, s2, s3, s4⟩ := hsh
  by_cases hall : ∃ r ∈ m.rows, ¬ (r.es.length = (gt m.rows 0).es.length ∧ r.good)
  ·have hno : ¬ m.ok := fun e => by obtain ⟨r, hr, hn⟩ := hall; exact hn (e.2 r hr)
   rw [WM.code_no hno]
   refine bC Tryz.func32 rfl Tryz.ntmps32 rfl ?_
   refine aJ ?_
   refine aL ?_
   (refine xG rfl rfl rfl ?_; intro b; refine ⟨okF, ?_⟩)
   repeat (refine aK ?_)
   (refine aA rfl (wH (g := 60) (fs := #[]) (cs := #[.pointer (some ⟨b, 0, none⟩)]) (fun (r : WL) => ¬ (r.es.length = (gt m.rows 0).es.length ∧ r.good)) (by omega) aB (fun i hi => aCD (m := m) (b := b) s1 (hs.2 _ (eX (by omega))) (Hv.wmrow aB (by omega)) aB aB)) rfl rfl ?_; rintro _ _ _ ⟨rfl, rfl, rfl⟩; refine ⟨okF, ?_⟩)
   rw [dZ hall]
   repeat (refine aK ?_)
   refine aH (by first | exact .inl rfl | exact .inr rfl) rfl rfl _ _ aF aD (⟨rfl, rfl, rfl⟩)
  ·have hok : m.ok := ⟨⟨s1, s2, s3, s4⟩, fun r hr => Decidable.of_not_not (fun hn => hall ⟨r, hr, hn⟩)⟩
   rw [WM.code_ok hok]
   refine bC Tryz.func32 rfl Tryz.ntmps32 rfl ?_
   refine aJ ?_
   refine aL ?_
   (refine xG rfl rfl rfl ?_; intro b; refine ⟨okF, ?_⟩)
   repeat (refine aK ?_)
   (refine aA rfl (wH (g := 60) (fs := #[]) (cs := #[.pointer (some ⟨b, 0, none⟩)]) (fun (r : WL) => ¬ (r.es.length = (gt m.rows 0).es.length ∧ r.good)) (by omega) aB (fun i hi => aCD (m := m) (b := b) s1 (hs.2 _ (eX (by omega))) (Hv.wmrow aB (by omega)) aB aB)) rfl rfl ?_; rintro _ _ _ ⟨rfl, rfl, rfl⟩; refine ⟨okF, ?_⟩)
   rw [dF hall]
   repeat (refine aK ?_)
   refine aH (by first | exact .inl rfl | exact .inr rfl) rfl rfl _ _ aF aD (⟨rfl, rfl, rfl⟩)
 ·have hno : ¬ m.ok := fun e => hsh e.1
  rw [WM.code_no hno]
  refine bC Tryz.func32 rfl Tryz.ntmps32 rfl ?_
  refine aJ ?_
  refine aL ?_
  (refine xG rfl rfl rfl ?_; intro b; refine ⟨okF, ?_⟩)
  by_cases c1 : 1 ≤ m.rows.length
  ·by_cases c2 : m.rows.length ≤ 64
   ·by_cases c3 : 1 ≤ (gt m.rows 0).es.length
    ·repeat (refine aK ?_)
     refine aH (by first | exact .inl rfl | exact .inr rfl) rfl rfl _ _ aF aD (⟨rfl, rfl, rfl⟩)
    ·repeat (refine aK ?_)
     refine aH (by first | exact .inl rfl | exact .inr rfl) rfl rfl _ _ aF aD (⟨rfl, rfl, rfl⟩)
   ·repeat (refine aK ?_)
    refine aH (by first | exact .inl rfl | exact .inr rfl) rfl rfl _ _ aF aD (⟨rfl, rfl, rfl⟩)
  ·repeat (refine aK ?_)
   refine aH (by first | exact .inl rfl | exact .inr rfl) rfl rfl _ _ aF aD (⟨rfl, rfl, rfl⟩)
theorem aLR {a : WM} (sa : a.sml) (ha : uT a ∈ I0) : CD Tryz.prog 103 [mvW a] X w0 M0 I0 (fun v M I => M0 = M ∧ I0 = I ∧ v = .int .i64 (sqC a)) := by
 have hC := fun M0 I0 h1 => uC (X := X) (w0 := w0) (M0 := M0) (I0 := I0) (m := a) sa h1
 unfold sqC
 by_cases hok : a.ok
 ·rw [WM.code_ok hok] at hC
  rw [if_pos hok]
  obtain ⟨a1, a2, a3, a4⟩ := hok.1
  refine eQ (φ := aW a.p (recs eWL a.rows)) (Hv.wmsl ha) ?_
  refine bC Tryz.func103 rfl Tryz.ntmps103 rfl ?_
  repeat (refine aK ?_)
  (refine aA rfl (hC _ _ aB) rfl rfl ?_; rintro _ _ _ ⟨rfl, rfl, rfl⟩; refine ⟨okF, ?_⟩)
  by_cases e1 : a.rows.length = (gt a.rows 0).es.length
  ·rw [if_pos e1]
   repeat (refine aK ?_)
   refine aH (by first | exact .inl rfl | exact .inr rfl) rfl rfl _ _ aF aD (⟨rfl, rfl, rfl⟩)
  ·rw [if_neg e1]
   repeat (refine aK ?_)
   refine aH (by first | exact .inl rfl | exact .inr rfl) rfl rfl _ _ aF aD (⟨rfl, rfl, rfl⟩)
 ·rw [WM.code_no hok] at hC
  rw [if_neg hok]
  refine bC Tryz.func103 rfl Tryz.ntmps103 rfl ?_
  repeat (refine aK ?_)
  (refine aA rfl (hC _ _ aB) rfl rfl ?_; rintro _ _ _ ⟨rfl, rfl, rfl⟩; refine ⟨okF, ?_⟩)
  repeat (refine aK ?_)
  refine aH (by first | exact .inl rfl | exact .inr rfl) rfl rfl _ _ aF aD (⟨rfl, rfl, rfl⟩)
end
end Go.Proofs.YtkccjglmnhgabaaGreatDoor
namespace Go.Proofs.YtkccjglmnhgabaaGreatDoor
open Go Go.Fx
structure AllL (rows : List RL) (k : Nat) (X : List Nat) (w : World) : Prop where
 go : ∀ r ∈ rows, IsL r k X w
abbrev qK (rows : List RL) (k : Nat) : bB := AllL rows k
instance (rows : List RL) (k : Nat) : Fx.Good (AllL rows k) := ⟨fun X Y w w' h he hY => ⟨fun r hm => Fx.Good.go (φ := IsL _ _) X Y w w' (h.go r hm) he hY⟩⟩
theorem Hv.nilL {I : List bB} {k : Nat} : Hv I (qK [] k) := ⟨fun X w _ => ⟨fun x hx => by simp at hx⟩⟩
theorem Hv.snocL {I : List bB} {rows : List RL} {r : RL} {k : Nat} (h1 : qK rows k ∈ I) (h2 : nV r k ∈ I) : Hv I (qK (rows ++ [r]) k) := ⟨fun X w hw => ⟨fun x hx => by
 rcases List.mem_append.1 hx with hx | hx
 ·exact (hw _ h1 : AllL rows k X w).go x hx
 ·rw [List.mem_singleton.1 hx]; exact hw _ h2⟩⟩
section
variable {X : List Nat} {w0 : World} {M : List Ent} {I : List bB}
theorem Mem.toL {w : World} {q : Option Addr} {c k : Nat} {es : List RE} {ty : TypeId} {sz : Nat} (h : Mem X w0 (.row q es.length c (recs eR es) ty sz :: M) I w) (ha : dV es k ∈ I) : Mem X w0 M (nV ⟨q, c, es⟩ k :: I) w := by
 have ho := h.rowS List.mem_cons_self
 have hc := h.rowLe List.mem_cons_self
 have h1 := h.freezeR .here
 refine (h1.add (φ := nV ⟨q, c, es⟩ k) ⟨(h1.sl (List.Mem.head _)), (((h1.imm _ (List.Mem.tail _ ha)).2 : AllR es k _ w)).go, ⟨hc, ho.2.imp id And.right⟩⟩).inc (.of fun φ hφ => ?_)
 rcases List.mem_cons.1 hφ with rfl | hφ
 ·exact List.Mem.head _
 ·exact List.Mem.tail _ (List.Mem.tail _ hφ)
theorem Mem.toX {w : World} {q : Option Addr} {c k : Nat} {rows : List RL} {ty : TypeId} {sz : Nat} (h : Mem X w0 (.row q rows.length c (recs eL rows) ty sz :: M) I w) (ha : qK rows k ∈ I) : Mem X w0 M (jC ⟨q, c, rows⟩ k :: I) w := by
 have ho := h.rowS List.mem_cons_self
 have hc := h.rowLe List.mem_cons_self
 have h1 := h.freezeR .here
 refine (h1.add (φ := jC ⟨q, c, rows⟩ k) ⟨(h1.sl (List.Mem.head _)), (((h1.imm _ (List.Mem.tail _ ha)).2 : AllL rows k _ w)).go, ⟨hc, ho.2.imp id And.right⟩⟩).inc (.of fun φ hφ => ?_)
 rcases List.mem_cons.1 hφ with rfl | hφ
 ·exact List.Mem.head _
 ·exact List.Mem.tail _ (List.Mem.tail _ hφ)
variable {P : Program} {n : Nat} {Q : Exit → Act → World → Prop} {G : Env}
theorem aVF {ops l : List Oper} {m : Fx.Mode} {q : Option Addr} {c k : Nat} {es : List RE} {ty : TypeId} {sz : Nat} (ha : dV es k ∈ I) (h : RD P n ops Q m l G X w0 M (nV ⟨q, c, es⟩ k :: I)) : RD P n ops Q m l G X w0 (.row q es.length c (recs eR es) ty sz :: M) I := rM (fun _ hw => Mem.toL hw ha) h
theorem aWE {cd : Code} {q : Option Addr} {c k : Nat} {es : List RE} {ty : TypeId} {sz : Nat} (ha : dV es k ∈ I) (h : TD P n cd Q G X w0 M (nV ⟨q, c, es⟩ k :: I)) : TD P n cd Q G X w0 (.row q es.length c (recs eR es) ty sz :: M) I := aCA (fun _ hw => Mem.toL hw ha) h
theorem aOX {ex : Exit} {q : Option Addr} {c k : Nat} {es : List RE} {ty : TypeId} {sz : Nat} (ha : dV es k ∈ I) (h : ND n Q ex G X w0 M (nV ⟨q, c, es⟩ k :: I)) : ND n Q ex G X w0 (.row q es.length c (recs eR es) ty sz :: M) I := yI (fun _ hw => Mem.toL hw ha) h
theorem aER {ex : Exit} {q : Option Addr} {c k : Nat} {rows : List RL} {ty : TypeId} {sz : Nat} (ha : qK rows k ∈ I) (h : ND n Q ex G X w0 M (jC ⟨q, c, rows⟩ k :: I)) : ND n Q ex G X w0 (.row q rows.length c (recs eL rows) ty sz :: M) I := yI (fun _ hw => Mem.toX hw ha) h
end
theorem aEI {rows : List RL} {r : RL} : (rows ++ [r]).map RL.q = rows.map RL.q ++ [r.q] := by simp
end Go.Proofs.YtkccjglmnhgabaaGreatDoor
namespace Go.Proofs.YtkccjglmnhgabaaGreatDoor
def sm : Nat → (Nat → Rat) → Rat
 | 0, _ => 0
 | n + 1, f => sm n f + f n
theorem bI {n : Nat} {f g : Nat → Rat} (h : ∀ i, i < n → f i = g i) : sm n f = sm n g := by
 induction n with
 | zero => rfl
 | succ n ih => simp only [sm]; rw [ih (fun i hi => h i (by omega)), h n (by omega)]
theorem mK {n : Nat} {f : Nat → Rat} (h : ∀ i, i < n → f i = 0) : sm n f = 0 := by
 induction n with
 | zero => rfl
 | succ n ih => simp only [sm]; rw [ih (fun i hi => h i (by omega)), h n (by omega)]; grind
theorem aHL {n : Nat} {f g : Nat → Rat} : sm n (fun i => f i + g i) = sm n f + sm n g := by
 induction n with
 | zero => simp only [sm]; grind
 | succ n ih => simp only [sm]; rw [ih]; grind
theorem kS {n : Nat} {f : Nat → Rat} {c : Rat} : sm n (fun i => c * f i) = c * sm n f := by
 induction n with
 | zero => simp only [sm]; grind
 | succ n ih => simp only [sm]; rw [ih]; grind
theorem yD {n : Nat} {f g : Nat → Rat} {c d : Rat} : sm n (fun i => c * f i + d * g i) = c * sm n f + d * sm n g := by
 rw [aHL, kS, kS]
theorem uI {n m : Nat} {f : Nat → Nat → Rat} : sm n (fun i => sm m (fun j => f i j)) = sm m (fun j => sm n (fun i => f i j)) := by
 induction n with
 | zero => simp only [sm]; rw [mK (fun _ _ => rfl)]
 | succ n ih => simp only [sm]; rw [ih, ← aHL]
theorem rW {n p : Nat} {f : Nat → Rat} (hp : p < n) (h : ∀ i, i < n → i ≠ p → f i = 0) : sm n f = f p := by
 induction n with
 | zero => omega
 | succ n ih =>
  simp only [sm]
  by_cases e : p = n
  ·subst e
   rw [mK (fun i hi => h i (by omega) (by omega))]; grind
  ·rw [ih (by omega) (fun i hi hne => h i (by omega) hne), h n (by omega) (fun e' => e e'.symm)]; grind
def sk (j k : Nat) : Nat := if k < j then k else k + 1
theorem aTK {n j : Nat} {g : Nat → Rat} (hj : j ≤ n) : sm (n + 1) g = g j + sm n (fun k => g (sk j k)) := by
 induction n with
 | zero =>
  obtain rfl : j = 0 := by omega
  simp only [sm]; grind
 | succ n ih =>
  by_cases e : j = n + 1
  ·subst e
   have : sm (n + 1) (fun k => g (sk (n + 1) k)) = sm (n + 1) g := bI (fun i hi => by simp only [sk]; rw [if_pos (by omega)])
   rw [this]
   simp only [sm]; grind
  ·have h1 := ih (by omega)
   have h2 : sm (n + 1) (fun k => g (sk j k)) = sm n (fun k => g (sk j k)) + g (n + 1) := by
    simp only [sm]
    have : sk j n = n + 1 := by simp only [sk]; rw [if_neg (by omega)]
    rw [this]
   rw [h2]
   show sm (n + 1) g + g (n + 1) = _
   rw [h1]; grind
def sgd (j : Nat) : Rat := if j % 2 = 0 then 1 else -1
def dt : Nat → (Nat → Nat → Rat) → Rat
 | 0, _ => 1
 | n + 1, f => sm (n + 1) (fun j => sgd j * f 0 j * dt n (fun i k => f (i + 1) (sk j k)))
theorem oI : ∀ {n : Nat} {f g : Nat → Nat → Rat}, (∀ i j, i < n → j < n → f i j = g i j) → dt n f = dt n g
 | 0, _, _, _ => rfl
 | n + 1, f, g, h => by
  simp only [dt]
  apply bI
  intro j hj
  rw [h 0 j (by omega) hj, oI (n := n) (f := fun i k => f (i + 1) (sk j k)) (g := fun i k => g (i + 1) (sk j k)) (fun i k hi hk => h _ _ (by omega) (by simp only [sk]; split <;> omega))]
def xX (f : Nat → Nat → Rat) (i : Nat) (r : Nat → Rat) : Nat → Nat → Rat := fun a b => if a = i then r b else f a b
theorem aIT : ∀ {n : Nat} {f : Nat → Nat → Rat} {i : Nat} {r s : Nat → Rat} {x y : Rat}, i < n → dt n (xX f i (fun b => x * r b + y * s b)) = x * dt n (xX f i r) + y * dt n (xX f i s)
 | 0, _, _, _, _, _, _, h => by omega
 | n + 1, f, 0, r, s, x, y, _ => by
  have hm : ∀ (t : Nat → Rat) (j : Nat), (fun i k => xX f 0 t (i + 1) (sk j k)) = fun i k => f (i + 1) (sk j k) := fun t j => by
   funext i k; simp only [xX]; rw [if_neg (by omega)]
  have h0 : ∀ (t : Nat → Rat) (j : Nat), xX f 0 t 0 j = t j := fun t j => by simp [xX]
  simp only [dt, hm, h0]
  rw [← yD]
  apply bI
  intro j _
  grind
 | n + 1, f, i + 1, r, s, x, y, h => by
  have hm : ∀ (t : Nat → Rat) (j : Nat), (fun a k => xX f (i + 1) t (a + 1) (sk j k)) = xX (fun a k => f (a + 1) (sk j k)) i (fun k => t (sk j k)) := fun t j => by
   funext a k; simp only [xX]
   by_cases e : a = i
   ·rw [if_pos (by omega), if_pos e]
   ·rw [if_neg (by omega), if_neg e]
  have h0 : ∀ (t : Nat → Rat) (j : Nat), xX f (i + 1) t 0 j = f 0 j := fun t j => by simp only [xX]; rw [if_neg (by omega)]
  simp only [dt, hm, h0]
  rw [← yD]
  apply bI
  intro j _
  rw [aIT (n := n) (f := fun a k => f (a + 1) (sk j k)) (i := i) (r := fun k => r (sk j k)) (s := fun k => s (sk j k)) (by omega)]
  grind
def swn (f : Nat → Nat → Rat) (i : Nat) : Nat → Nat → Rat := fun a b => if a = i then f (i + 1) b else if a = i + 1 then f i b else f a b
def usk (j k : Nat) : Nat := if k < j then k else k - 1
theorem aVZ (j k : Nat) : usk j (sk j k) = k := by
 by_cases h : k < j
 ·simp [usk, sk, h]
 ·simp [usk, sk, h, show ¬ k + 1 < j by omega]
theorem aVH {n j : Nat} {g : Nat → Rat} (hj : j ≤ n) : sm n (fun k => g (sk j k)) = sm (n + 1) (fun k => if k = j then 0 else g k) := by
 rw [aTK (g := fun k => if k = j then 0 else g k) hj, if_pos rfl]
 have : sm n (fun k => (fun k => if k = j then (0 : Rat) else g k) (sk j k)) = sm n (fun k => g (sk j k)) := bI (fun k _ => by
  have : sk j k ≠ j := by simp only [sk]; split <;> omega
  simp only [if_neg this])
 rw [this]; grind
def tw (j k : Nat) : Rat := sgd j * sgd (usk j k)
theorem aFO {j : Nat} (h : 0 < j) : sgd (j - 1) = - sgd j := by
 unfold sgd
 by_cases a : j % 2 = 0
 ·have : ¬ (j - 1) % 2 = 0 := by omega
  simp [a, this]
 ·have : (j - 1) % 2 = 0 := by omega
  simp [a, this]
theorem aTC {j k : Nat} (h : j ≠ k) : tw j k = - tw k j := by
 unfold tw
 rcases Nat.lt_or_ge k j with h1 | h1
 ·have e1 : usk j k = k := by simp [usk, h1]
  have e2 : usk k j = j - 1 := by simp [usk, show ¬ j < k by omega]
  rw [e1, e2, aFO (by omega)]; grind
 ·have e1 : usk j k = k - 1 := by simp [usk, show ¬ k < j by omega]
  have e2 : usk k j = j := by simp [usk, show j < k by omega]
  rw [e1, e2, aFO (by omega)]; grind
theorem aVA {j k l : Nat} (h : j ≠ k) : sk j (sk (usk j k) l) = sk k (sk (usk k j) l) := by
 simp only [sk, usk]
 repeat' split
 all_goals omega
theorem aNK {n : Nat} {f : Nat → Nat → Rat} : dt (n + 2) f = sm (n + 2) (fun j => sm (n + 2) (fun k => if k = j then 0 else tw j k * f 0 j * f 1 k * dt n (fun i l => f (i + 2) (sk j (sk (usk j k) l))))) := by
 show sm (n + 2) (fun j => sgd j * f 0 j * dt (n + 1) (fun i k => f (i + 1) (sk j k))) = _
 apply bI
 intro j hj
 rw [← aVH (g := fun k => tw j k * f 0 j * f 1 k * dt n (fun i l => f (i + 2) (sk j (sk (usk j k) l)))) (by omega)]
 show sgd j * f 0 j * sm (n + 1) (fun k => sgd k * f 1 (sk j k) * dt n (fun i l => f (i + 2) (sk j (sk k l)))) = _
 rw [← kS]
 apply bI
 intro k _
 simp only [aVZ, tw]
 grind
theorem aNH {n : Nat} {f : Nat → Nat → Rat} : dt (n + 2) (swn f 0) = - dt (n + 2) f := by
 rw [aNK, aNK, uI]
 have e : ∀ x : Rat, -x = -1 * x := fun x => by grind
 rw [e, ← kS]
 apply bI
 intro j hj
 rw [← kS]
 apply bI
 intro k hk
 by_cases h : j = k
 ·rw [if_pos h, if_pos h.symm]; grind
 ·rw [if_neg h, if_neg (fun e => h e.symm), aTC (j := k) (k := j) (fun e => h e.symm)]
  have h0 : swn f 0 0 k = f 1 k := by simp [swn]
  have h1 : swn f 0 1 j = f 0 j := by simp [swn]
  have h2 : (fun i l => swn f 0 (i + 2) (sk k (sk (usk k j) l))) = fun i l => f (i + 2) (sk j (sk (usk j k) l)) := by
   funext i l
   rw [aVA h]
   simp only [swn]
   rw [if_neg (by omega), if_neg (by omega)]
  rw [h0, h1, h2]
  grind
theorem aIH : ∀ {n i : Nat} {f : Nat → Nat → Rat}, i + 1 < n → dt n (swn f i) = - dt n f
 | 0, _, _, h => by omega
 | 1, _, _, h => by omega
 | n + 2, 0, f, _ => aNH
 | n + 2, i + 1, f, h => by
  have hm : ∀ j : Nat, (fun a k => swn f (i + 1) (a + 1) (sk j k)) = swn (fun a k => f (a + 1) (sk j k)) i := fun j => by
   funext a k; simp only [swn]
   by_cases e : a = i
   ·rw [if_pos (by omega), if_pos e]
   ·rw [if_neg (by omega), if_neg e]
    by_cases e2 : a = i + 1
    ·rw [if_pos (by omega), if_pos e2]
    ·rw [if_neg (by omega), if_neg e2]
  have h0 : ∀ j : Nat, swn f (i + 1) 0 j = f 0 j := fun j => by simp only [swn]; rw [if_neg (by omega), if_neg (by omega)]
  show sm (n + 2) (fun j => sgd j * swn f (i + 1) 0 j * dt (n + 1) (fun a k => swn f (i + 1) (a + 1) (sk j k))) = - sm (n + 2) (fun j => sgd j * f 0 j * dt (n + 1) (fun a k => f (a + 1) (sk j k)))
  have e : ∀ x : Rat, -x = -1 * x := fun x => by grind
  rw [e, ← kS]
  apply bI
  intro j _
  rw [hm, h0, aIH (n := n + 1) (i := i) (by omega)]
  grind
theorem aVK {n i : Nat} {f : Nat → Nat → Rat} (h : i + 1 < n) (he : ∀ b, f i b = f (i + 1) b) : dt n f = 0 := by
 have h1 := aIH (f := f) h
 have h2 : swn f i = f := by
  funext a b; simp only [swn]
  by_cases e : a = i
  ·rw [if_pos e, e]; exact (he b).symm
  ·rw [if_neg e]
   by_cases e2 : a = i + 1
   ·rw [if_pos e2, e2]; exact he b
   ·rw [if_neg e2]
 rw [h2] at h1
 grind
theorem aID : ∀ {d n p : Nat} {f : Nat → Nat → Rat}, p + d + 1 < n → (∀ b, f p b = f (p + d + 1) b) → dt n f = 0
 | 0, _, _, _, h, he => aVK h he
 | d + 1, n, p, f, h, he => by
  have h1 := aIH (n := n) (i := p + d + 1) (f := f) (by omega)
  have h2 : dt n (swn f (p + d + 1)) = 0 := by
   apply aID (d := d) (p := p) (by omega)
   intro b
   have e1 : swn f (p + d + 1) p b = f p b := by simp [swn, show ¬ p = p + d + 1 by omega, show ¬ p = p + d + 1 + 1 by omega]
   have e2 : swn f (p + d + 1) (p + d + 1) b = f (p + d + 1 + 1) b := by simp [swn]
   rw [e1, e2]
   exact he b
  rw [h2] at h1
  grind
theorem dt_eq {n p q : Nat} {f : Nat → Nat → Rat} (hp : p < n) (hq : q < n) (hpq : p ≠ q) (he : ∀ b, f p b = f q b) : dt n f = 0 := by
 rcases Nat.lt_or_ge p q with h | h
 ·obtain ⟨d, rfl⟩ : ∃ d, q = p + d + 1 := ⟨q - p - 1, by omega⟩
  exact aID hq he
 ·obtain ⟨d, rfl⟩ : ∃ d, p = q + d + 1 := ⟨p - q - 1, by omega⟩
  exact aID hp (fun b => (he b).symm)
theorem aGS {f : Nat → Nat → Rat} {i : Nat} : xX f i (f i) = f := by
 funext a b; simp only [xX]; split
 ·rename_i h; rw [h]
 ·rfl
theorem uD {n i p : Nat} {f : Nat → Nat → Rat} {c : Rat} (hi : i < n) (hp : p < n) (hne : p ≠ i) : dt n (xX f i (fun b => f i b + c * f p b)) = dt n f := by
 have h1 := aIT (n := n) (f := f) (i := i) (r := f i) (s := f p) (x := 1) (y := c) hi
 have h2 : (fun b => (1 : Rat) * f i b + c * f p b) = fun b => f i b + c * f p b := by funext b; grind
 have h3 : dt n (xX f i (f p)) = 0 := dt_eq (p := p) (q := i) hp hi hne (fun b => by simp [xX, hne])
 rw [h2, h3, aGS] at h1
 rw [h1]; grind
theorem aGC {n i : Nat} {f : Nat → Nat → Rat} {c : Rat} (hi : i < n) : dt n (xX f i (fun b => c * f i b)) = c * dt n f := by
 have h1 := aIT (n := n) (f := f) (i := i) (r := f i) (s := f i) (x := c) (y := 0) hi
 have h2 : (fun b => c * f i b + 0 * f i b) = fun b => c * f i b := by funext b; grind
 rw [h2, aGS] at h1
 rw [h1]; grind
def tr (r k a : Nat) : Nat := if a = r then k else if a = k then r else a
theorem xB {r k a n : Nat} (hr : r < n) (hk : k < n) (ha : a < n) : tr r k a < n := by simp only [tr]; split; assumption; split <;> assumption
theorem aJD {n r k : Nat} {f : Nat → Nat → Rat} (hr : r < n) (hk : k < n) (h : r ≠ k) : dt n (fun a b => f (tr r k a) b) = - dt n f := by
 have a1 := uD (n := n) (i := r) (p := k) (f := f) (c := 1) hr hk (fun e => h e.symm)
 obtain ⟨f1, hf1⟩ : ∃ f1, f1 = xX f r (fun b => f r b + 1 * f k b) := ⟨_, rfl⟩
 rw [← hf1] at a1
 have a2 := uD (n := n) (i := k) (p := r) (f := f1) (c := -1) hk hr h
 obtain ⟨f2, hf2⟩ : ∃ f2, f2 = xX f1 k (fun b => f1 k b + -1 * f1 r b) := ⟨_, rfl⟩
 rw [← hf2] at a2
 have a3 := uD (n := n) (i := r) (p := k) (f := f2) (c := 1) hr hk (fun e => h e.symm)
 obtain ⟨f3, hf3⟩ : ∃ f3, f3 = xX f2 r (fun b => f2 r b + 1 * f2 k b) := ⟨_, rfl⟩
 rw [← hf3] at a3
 have a4 := aGC (n := n) (i := k) (f := f3) (c := -1) hk
 have e : xX f3 k (fun b => -1 * f3 k b) = fun a b => f (tr r k a) b := by
  funext a b
  simp only [hf3, hf2, hf1, xX, tr]
  have hkr : ¬ k = r := fun e => h e.symm
  by_cases e1 : a = k
  ·subst e1
   simp only [if_true, if_neg hkr, if_neg h]
   grind
  ·by_cases e2 : a = r
   ·subst e2
    simp only [if_neg h, if_neg hkr, if_true]
    grind
   ·simp only [if_neg e1, if_neg e2]
 rw [e, a3, a2, a1] at a4
 rw [a4]; grind
theorem aDV : ∀ {n : Nat} {f : Nat → Nat → Rat}, (∀ i, i < n + 1 → f i 0 = 0) → dt (n + 1) f = 0
 | 0, f, h => by simp only [dt, sm]; rw [h 0 (by omega)]; grind
 | n + 1, f, h => by
  show sm (n + 2) (fun j => sgd j * f 0 j * dt (n + 1) (fun i k => f (i + 1) (sk j k))) = 0
  apply mK
  intro j hj
  by_cases e : j = 0
  ·subst e; rw [h 0 (by omega)]; grind
  ·rw [aDV (n := n) (fun i hi => by show f (i + 1) (sk j 0) = 0; simp only [sk]; rw [if_pos (by omega)]; exact h _ (by omega))]; grind
theorem aNX {n : Nat} {f : Nat → Nat → Rat} (h : ∀ i, 1 ≤ i → i < n + 1 → f i 0 = 0) : dt (n + 1) f = f 0 0 * dt n (fun i k => f (i + 1) (k + 1)) := by
 show sm (n + 1) (fun j => sgd j * f 0 j * dt n (fun i k => f (i + 1) (sk j k))) = _
 rw [rW (p := 0) (by omega)]
 ·have : (fun i k => f (i + 1) (sk 0 k)) = fun i k => f (i + 1) (k + 1) := by
   funext i k; simp only [sk]; rw [if_neg (by omega)]
  rw [this]
  have : sgd 0 = 1 := by simp [sgd]
  rw [this]; grind
 ·intro j hj hne
  cases n with
  | zero => omega
  | succ n =>
   rw [aDV (n := n) (fun i hi => by show f (i + 1) (sk j 0) = 0; simp only [sk]; rw [if_pos (by omega)]; exact h _ (by omega) (by omega))]; grind
theorem aJJ {n r : Nat} {f : Nat → Nat → Rat} {c : Nat → Rat} (hr : r < n) : dt n (fun a b => if a = r then f r b else f a b - c a * f r b) = dt n f := by
 have step : ∀ m, m ≤ n → dt n (fun a b => if a = r then f r b else if a < m then f a b - c a * f r b else f a b) = dt n f := by
  intro m
  induction m with
  | zero => intro _; exact oI (fun a b _ _ => by by_cases e : a = r <;> simp [e])
  | succ m ih =>
   intro hm
   have h1 := ih (by omega)
   by_cases e : m = r
   ·rw [← h1]
    apply oI
    intro a b _ _
    by_cases ea : a = r
    ·rw [if_pos ea, if_pos ea]
    ·rw [if_neg ea, if_neg ea]
     by_cases em : a < m
     ·rw [if_pos em, if_pos (by omega)]
     ·rw [if_neg em, if_neg (by omega)]
   ·obtain ⟨g, hg⟩ : ∃ g : Nat → Nat → Rat, g = fun a b => if a = r then f r b else if a < m then f a b - c a * f r b else f a b := ⟨_, rfl⟩
    rw [← hg] at h1
    have h2 := uD (n := n) (i := m) (p := r) (f := g) (c := - c m) (by omega) hr (fun e' => e e'.symm)
    rw [h1] at h2
    rw [← h2]
    apply oI
    intro a b _ _
    have hgr : ∀ b, g r b = f r b := fun b => by rw [hg]; simp
    have hgm : ∀ b, g m b = f m b := fun b => by rw [hg]; simp [e]
    simp only [xX]
    by_cases ea : a = r
    ·subst ea
     rw [if_pos rfl, if_neg (fun e' => e e'.symm), hgr]
    ·rw [if_neg ea]
     by_cases em : a = m
     ·subst em
      rw [if_pos (by omega), if_pos rfl, hgm, hgr]; grind
     ·rw [if_neg em, hg]
      by_cases el : a < m
      ·simp [ea, el, show a < m + 1 by omega]
      ·simp [ea, el, show ¬ a < m + 1 by omega]
 rw [← step n (Nat.le_refl _)]
 apply oI
 intro a b ha _
 by_cases ea : a = r
 ·rw [if_pos ea, if_pos ea]
 ·rw [if_neg ea, if_neg ea, if_pos ha]
def elm (r k : Nat) (κ : Rat) (c : Nat → Rat) (f : Nat → Nat → Rat) : Nat → Nat → Rat := fun a b => if a = r then κ * f (tr r k r) b else f (tr r k a) b - c a * (κ * f (tr r k r) b)
def esg (r k : Nat) : Rat := if r = k then 1 else -1
theorem aUX {n r k : Nat} {κ : Rat} {c : Nat → Rat} {f : Nat → Nat → Rat} (hr : r < n) (hk : k < n) : dt n (elm r k κ c f) = esg r k * κ * dt n f := by
 obtain ⟨g, hg⟩ : ∃ g : Nat → Nat → Rat, g = fun a b => f (tr r k a) b := ⟨_, rfl⟩
 have h1 : dt n g = esg r k * dt n f := by
  rw [hg]
  unfold esg
  by_cases e : r = k
  ·subst e
   rw [if_pos rfl, show (fun a b => f (tr r r a) b) = f by funext a b; simp only [tr]; split <;> simp_all]; grind
  ·rw [if_neg e, aJD hr hk e]; grind
 have h2 := aGC (n := n) (i := r) (f := g) (c := κ) hr
 obtain ⟨s, hs⟩ : ∃ s, s = xX g r (fun b => κ * g r b) := ⟨_, rfl⟩
 rw [← hs] at h2
 have h3 := aJJ (n := n) (r := r) (f := s) (c := c) hr
 have h4 : elm r k κ c f = fun a b => if a = r then s r b else s a b - c a * s r b := by
  funext a b
  have hsr : s r b = κ * f (tr r k r) b := by rw [hs, hg]; simp [xX]
  simp only [elm]
  rw [hsr]
  by_cases e : a = r
  ·rw [if_pos e, if_pos e]
  ·rw [if_neg e, if_neg e, hs, hg]; simp [xX, e]
 rw [h4, h3, h2, h1]; grind
end Go.Proofs.YtkccjglmnhgabaaGreatDoor
namespace Go.Proofs.YtkccjglmnhgabaaGreatDoor
def aBY (n : Nat) (f g : Nat → Nat → Rat) : Nat → Nat → Rat := fun i j => sm n (fun k => f i k * g k j)
def dlt (i j : Nat) : Rat := if i = j then 1 else 0
theorem aHR {n : Nat} {f f' g g' : Nat → Nat → Rat} {i j : Nat} (h1 : ∀ k, k < n → f i k = f' i k) (h2 : ∀ k, k < n → g k j = g' k j) : aBY n f g i j = aBY n f' g' i j := bI (fun k hk => by rw [h1 k hk, h2 k hk])
theorem aUC (r k a : Nat) : tr r k (tr r k a) = a := by
 simp only [tr]
 repeat' split
 all_goals omega
theorem aKZ {n r k : Nat} {κ : Rat} {c : Nat → Rat} {f g : Nat → Nat → Rat} : aBY n (elm r k κ c f) g = elm r k κ c (aBY n f g) := by
 funext a b
 simp only [aBY, elm]
 by_cases e : a = r
 ·simp only [if_pos e]
  rw [← kS]
  exact bI (fun i _ => by grind)
 ·simp only [if_neg e]
  have h1 : ∀ i, (f (tr r k a) i - c a * (κ * f (tr r k r) i)) * g i b = 1 * (f (tr r k a) i * g i b) + (- (c a * κ)) * (f (tr r k r) i * g i b) := fun i => by grind
  simp only [h1]
  rw [yD]; grind
def ker (R C : Nat) (f : Nat → Nat → Rat) (z : Nat → Rat) : Prop := ∀ i, i < R → sm C (fun j => f i j * z j) = 0
theorem aMJ {R C : Nat} {f g : Nat → Nat → Rat} {z : Nat → Rat} (h : ∀ a b, a < R → b < C → f a b = g a b) : ker R C f z ↔ ker R C g z := by
 unfold ker
 constructor
 ·intro hk i hi; rw [← hk i hi]; exact bI (fun j hj => by rw [h i j hi hj])
 ·intro hk i hi; rw [← hk i hi]; exact bI (fun j hj => by rw [h i j hi hj])
theorem aSQ {R C r k : Nat} {κ : Rat} {c : Nat → Rat} {f : Nat → Nat → Rat} {z : Nat → Rat} (hr : r < R) (hk : k < R) (hκ : κ ≠ 0) : ker R C (elm r k κ c f) z ↔ ker R C f z := by
 obtain ⟨φ, hφ⟩ : ∃ φ : Nat → Rat, φ = fun i => sm C (fun j => f i j * z j) := ⟨_, rfl⟩
 have h1 : ∀ a, sm C (fun j => elm r k κ c f a j * z j) = if a = r then κ * φ (tr r k r) else φ (tr r k a) - c a * (κ * φ (tr r k r)) := fun a => by
  have := congrFun (congrFun (aKZ (n := C) (r := r) (k := k) (κ := κ) (c := c) (f := f) (g := fun j _ => z j)) a) 0
  simp only [aBY] at this
  rw [this, hφ]; rfl
 unfold ker
 constructor
 ·intro hz
  have h0 : φ (tr r k r) = 0 := by
   have := hz r hr
   rw [h1, if_pos rfl] at this
   rcases Rat.mul_eq_zero.1 this with e | e
   ·exact absurd e hκ
   ·exact e
  intro i hi
  have hφi : sm C (fun j => f i j * z j) = φ i := by rw [hφ]
  rw [hφi]
  by_cases e : tr r k i = r
  ·have : i = tr r k r := by have := aUC r k i; rw [e] at this; exact this.symm
   rw [this]; exact h0
  ·have := hz (tr r k i) (xB hr hk hi)
   rw [h1, if_neg e, aUC, h0] at this
   grind
 ·intro hz i hi
  have hφ0 : ∀ i, i < R → φ i = 0 := fun i hi => by rw [hφ]; exact hz i hi
  rw [h1, hφ0 _ (xB hr hk hr), hφ0 _ (xB hr hk hi)]
  split <;> grind
structure Red (R C j : Nat) (f0 f : Nat → Nat → Rat) (pv : List Nat) (s : Rat) : Prop where
 hs : s ≠ 0
 det : ∀ m g, m ≤ C → dt R (aBY m f g) = s * dt R (aBY m f0 g)
 ker : ∀ z, ker R C f z ↔ ker R C f0 z
 len : pv.length ≤ R
 inc : ∀ t, t < pv.length → pv.getD t 0 < j ∧ t ≤ pv.getD t 0 ∧ ∀ u, u < t → pv.getD u 0 < pv.getD t 0
 unit : ∀ t i, t < pv.length → i < R → f i (pv.getD t 0) = dlt i t
 zero : ∀ i b, pv.length ≤ i → i < R → b < j → f i b = 0
theorem Red.start {R C : Nat} {f : Nat → Nat → Rat} : Red R C 0 f f [] 1 :=
 ⟨by decide, fun m g _ => by grind, fun z => Iff.rfl, by simp, fun t ht => by simp at ht, fun t i ht => by simp at ht, fun i b _ _ hb => by omega⟩
theorem Red.none {R C j : Nat} {f0 f : Nat → Nat → Rat} {pv : List Nat} {s : Rat} (h : Red R C j f0 f pv s) (hz : ∀ i, pv.length ≤ i → i < R → f i j = 0) : Red R C (j + 1) f0 f pv s :=
 ⟨h.hs, h.det, h.ker, h.len, fun t ht => ⟨by have := (h.inc t ht).1; omega, (h.inc t ht).2⟩, h.unit, fun i b hi hR hb => by
  by_cases e : b = j
  ·subst e; exact hz i hi hR
  ·exact h.zero i b hi hR (by omega)⟩
theorem Red.step {R C j x : Nat} {f0 f f' : Nat → Nat → Rat} {pv : List Nat} {s : Rat} (h : Red R C j f0 f pv s) (hj : j < C) (hx : pv.length ≤ x) (hxR : x < R) (hn : f x j ≠ 0)
  (hf : ∀ a b, a < R → b < C → f' a b = elm pv.length x (1 / f x j) (fun a => f (tr pv.length x a) j) f a b) : Red R C (j + 1) f0 f' (pv ++ [j]) (esg pv.length x * (1 / f x j) * s) := by
 obtain ⟨r, hr⟩ : ∃ r, r = pv.length := ⟨_, rfl⟩
 rw [← hr] at hf hx ⊢
 obtain ⟨κ, hκ⟩ : ∃ κ, κ = 1 / f x j := ⟨_, rfl⟩
 have hκ1 : κ * f x j = 1 := by rw [hκ]; grind
 have hκ0 : κ ≠ 0 := fun e => by rw [e] at hκ1; grind
 rw [← hκ] at hf ⊢
 have hrR : r < R := by omega
 have hes : esg r x ≠ 0 := by unfold esg; split <;> decide
 have htr : tr r x r = x := by simp [tr]
 have hf1 : ∀ b, b < C → f' r b = κ * f x b := fun b hb => by rw [hf r b hrR hb]; simp only [elm, if_true, htr]
 have hf2 : ∀ a b, a < R → b < C → a ≠ r → f' a b = f (tr r x a) b - f (tr r x a) j * (κ * f x b) := fun a b ha hb hne => by rw [hf a b ha hb]; simp only [elm, if_neg hne, htr]
 have hcol : ∀ i, i < R → f' i j = dlt i r := fun i hi => by
  by_cases e : i = r
  ·subst e; rw [hf1 j hj, hκ1]; simp [dlt]
  ·rw [hf2 i j hi hj e, hκ1]; simp only [dlt, if_neg e]; grind
 have hxz : ∀ b, b < j → f x b = 0 := fun b hb => h.zero x b (by omega) hxR hb
 have hlow : ∀ i b, i < R → b < j → i ≠ r → f' i b = f (tr r x i) b := fun i b hi hb hne => by
  rw [hf2 i b hi (by omega) hne, hxz b hb]; grind
 refine ⟨fun e => ?_, fun m g hm => ?_, fun z => ?_, ?_, fun t ht => ?_, fun t i ht hi => ?_, fun i b hi hR hb => ?_⟩
 ·rcases Rat.mul_eq_zero.1 e with e | e
  ·rcases Rat.mul_eq_zero.1 e with e | e
   ·exact hes e
   ·exact hκ0 e
  ·exact h.hs e
 ·have h1 : dt R (aBY m f' g) = dt R (aBY m (elm r x κ (fun a => f (tr r x a) j) f) g) := oI (fun i k hi _ => aHR (fun t ht => hf i t hi (by omega)) (fun _ _ => rfl))
  rw [h1, aKZ, aUX hrR hxR, h.det m g hm]
  grind
 ·exact (aMJ hf).trans ((aSQ hrR hxR hκ0).trans (h.ker z))
 ·simp; omega
 ·have hl : (pv ++ [j]).length = r + 1 := by simp [hr]
  by_cases e : t = r
  ·subst e
   have e1 : (pv ++ [j]).getD t 0 = j := by simp [List.getD, hr]
   rw [e1]
   refine ⟨by omega, ?_, fun u hu => ?_⟩
   ·by_cases e0 : t = 0
    ·omega
    ·have := h.inc (t - 1) (by omega); omega
   ·have e2 : (pv ++ [j]).getD u 0 = pv.getD u 0 := by simp [List.getD, List.getElem?_append_left (show u < pv.length by omega)]
    rw [e2]; exact (h.inc u (by omega)).1
  ·have ht' : t < pv.length := by omega
   have e2 : ∀ u, u ≤ t → (pv ++ [j]).getD u 0 = pv.getD u 0 := fun u hu => by simp [List.getD, List.getElem?_append_left (show u < pv.length by omega)]
   obtain ⟨a1, a2, a3⟩ := h.inc t ht'
   rw [e2 t (Nat.le_refl _)]
   exact ⟨by omega, a2, fun u hu => by rw [e2 u (by omega)]; exact a3 u hu⟩
 ·have hl : (pv ++ [j]).length = r + 1 := by simp [hr]
  by_cases e : t = r
  ·subst e
   have e1 : (pv ++ [j]).getD t 0 = j := by simp [List.getD, hr]
   rw [e1]; exact hcol i hi
  ·have ht' : t < pv.length := by omega
   have e2 : (pv ++ [j]).getD t 0 = pv.getD t 0 := by simp [List.getD, List.getElem?_append_left ht']
   have hp := (h.inc t ht').1
   rw [e2]
   by_cases er : i = r
   ·subst er
    rw [hf1 _ (by omega), hxz _ hp]
    simp only [dlt, if_neg (fun e' : i = t => e e'.symm)]; grind
   ·rw [hlow i _ hi hp er, h.unit t _ ht' (xB hrR hxR hi)]
    have : tr r x i = t ↔ i = t := by
     simp only [tr, if_neg er]
     split <;> omega
    simp only [dlt]
    by_cases e3 : i = t
    ·rw [if_pos e3, if_pos (this.2 e3)]
    ·rw [if_neg e3, if_neg (fun e' => e3 (this.1 e'))]
 ·have hl : (pv ++ [j]).length = r + 1 := by simp [hr]
  rw [hl] at hi
  by_cases e : b = j
  ·subst e; rw [hcol i hR]; simp only [dlt, if_neg (show ¬ i = r by omega)]
  ·rw [hlow i b hR (by omega) (by omega)]
   refine h.zero _ b ?_ (xB hrR hxR hR) (by omega)
   simp only [tr]; rw [← hr]
   repeat' split
   all_goals omega
theorem aNZ {n m : Nat} {f : Nat → Rat} : sm (n + m) f = sm n f + sm m (fun k => f (n + k)) := by
 induction m with
 | zero => simp only [sm, Nat.add_zero]; grind
 | succ m ih => rw [← Nat.add_assoc]; simp only [sm]; rw [ih]; grind
end Go.Proofs.YtkccjglmnhgabaaGreatDoor
namespace Go.Proofs.YtkccjglmnhgabaaGreatDoor
open Go Go.Fx
abbrev pb (b : Nat) : Value := .pointer (some ⟨b, 0, none⟩)
abbrev bxX (b : Nat) (m : MX) : bB := aW (some ⟨b, 0, none⟩) [.slice m.p m.rows.length m.c]
def aIP (n : Nat) (x y : List Rat) : Rat := sm n (fun t => x.getD t 0 * y.getD t 0)
theorem aKI {m : MX} {i : Nat} (hi : i < m.rows.length) : rowAt m.q i = (gt m.rows (i : Int)).q := by
 unfold rowAt
 rw [dH hi]
 simp [List.getD, hi]
section
variable {X : List Nat} {w0 : World} {M0 : List Ent} {I0 : List bB}
theorem aIK {a : MX} {p k i j : Nat} (hi : i < a.rows.length) (hj : j < (gt a.rows (i : Int)).es.length)
  (ha : jC a k ∈ I0) (fa : bxX p a ∈ I0) :
  CD Tryz.prog 142 [.int .i64 (i : Int), .int .i64 (j : Int), pb p] X w0 M0 I0 (RQ (at2 a.q i j) k M0 I0) := by
 rw [wT hi hj]
 refine eQ (φ := aW (a).p (recs eL (a).rows)) (Hv.xsl aB) ?_
 refine eQ (φ := aW (gt (a).rows (i : Int)).p (recs eR (gt (a).rows (i : Int)).es)) (Hv.xrsl aB (by omega)) ?_
 refine uR Tryz.func142 rfl Tryz.ntmps142 rfl ?_
 refine aJ ?_
 refine aL ?_
 (refine aM rfl rfl ?_; intro br; refine ⟨okF, ?_⟩)
 repeat (refine aK ?_)
 refine iW (φ := fB (gt (gt a.rows (i : Int)).es (j : Int)) k) (Hv.xel aB (by omega) (by omega)) ?_
 refine bL (cs := eR (gt (gt a.rows (i : Int)).es (j : Int))) (.inl rfl) rfl rfl aB rfl M0 (fB (gt (gt a.rows (i : Int)).es (j : Int)) k :: I0) aF aD ⟨rfl, _, rfl, rfl, rfl⟩
end
end Go.Proofs.YtkccjglmnhgabaaGreatDoor

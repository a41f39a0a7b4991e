/- matrix.Check and its like, of matrices as they come in. matrix.Check, check, both, square; the document's Check; the law's code. Matrices and lists that are built by appending: rows of facts. -/
import Derived.Test.YtkccjglmnhgabaaGreatZjay
import Derived.Test.YtkccjglmnhgabaaGreatZjam
set_option linter.unusedSimpArgs false
set_option linter.unusedVariables false
set_option maxRecDepth 100000
set_option maxHeartbeats 4000000
namespace Go.Proofs.YtkccjglmnhgabaaGreat
open Go Go.Fx
/- ---------- IndexFunc, ContainsFunc of []fiducial/api.Rat ---------- -/
section
variable {X : List Nat} {w0 : World} {M0 : List Ent} {I0 : List aZ}
theorem aSD {q : Option Addr} {a : List RW} {c : Nat} {g : FuncId} [FnOk Tryz.prog g] {fs cs : Array Value} (pr : RW → Prop) [DecidablePred pr] (hn : (a.length : Int) ≤ 9223372036854775807) (ha : aQ q (recs eW a) ∈ I0)
  (hg : ∀ i : Nat, i < a.length → CD Tryz.prog g (fs.toList ++ [wv (gt a i)] ++ cs.toList) X w0 M0 I0 (fun v M I => M0 = M ∧ I0 = I ∧ v = .bool (B (pr (gt a i))))) :
  CD Tryz.prog 117 [.slice q a.length c, .func (.func g) fs cs] X w0 M0 I0 (fun v M I => M0 = M ∧ I0 = I ∧ ∃ r : Int, v = .int .i64 r ∧ ((∃ i : Nat, i < a.length ∧ r = i ∧ pr (gt a i) ∧ ∀ j : Nat, j < i → ¬ pr (gt a j)) ∨ (r = -1 ∧ ∀ j : Nat, j < a.length → ¬ pr (gt a j)))) := by
 refine bF Tryz.func117 rfl Tryz.ntmps117 rfl ?_
 repeat (refine aK ?_)
 refine aM [0, 1, 7] rfl (fun k G M I => ∃ i : Nat, i ≤ a.length ∧ k = a.length - i ∧ (∀ j : Nat, j < i → ¬ pr (gt a j)) ∧ G = [(8, .int .i64 i)] ∧ M = M0 ∧ I = I0) (a.length) _ _ _ aP aG aD (⟨0, by omega, rfl, fun j hj => by omega, rfl, rfl, rfl⟩) ?_
 rintro k G M I ⟨i, hi, rfl, hs, rfl, rfl, rfl⟩
 repeat' (first | refine aK ?_ | refine aN rfl (fun h => ?_) (fun h => ?_) | refine aO rfl rfl (fun h => ?_) (fun h => ?_) | fail)
 ·have hlt : i < a.length := by omega
  (refine rW rfl rfl (hg i hlt) rfl rfl rfl ?_; rintro _ _ _ ⟨rfl, rfl, rfl⟩; refine ⟨okF, ?_⟩)
  repeat' (first | refine aK ?_ | refine aN rfl (fun h => ?_) (fun h => ?_) | refine aO rfl rfl (fun h => ?_) (fun h => ?_) | fail)
  ·refine aF (by first | exact .inl rfl | exact .inr rfl) rfl rfl _ _ aG aD (⟨rfl, rfl, _, rfl, .inl ⟨i, hlt, rfl, by assumption, hs⟩⟩)
  ·refine aJ (a.length - (i + 1)) _ _ _ (by first | omega | (simp only [List.length_append, List.length_cons, List.length_nil]; omega)) aP aG aD (⟨i + 1, by omega, rfl, fun j hj => ?_, rfl, rfl, rfl⟩)
   by_cases e : j = i
   ·subst e; assumption
   ·exact hs j (by omega)
 ·refine aF (by first | exact .inl rfl | exact .inr rfl) rfl rfl _ _ aG aD (⟨rfl, rfl, _, rfl, .inr ⟨rfl, fun j hj => hs j (by omega)⟩⟩)
theorem aIC {q : Option Addr} {a : List RW} {c : Nat} {g : FuncId} [FnOk Tryz.prog g] {fs cs : Array Value} (pr : RW → Prop) [DecidablePred pr] (hn : (a.length : Int) ≤ 9223372036854775807) (ha : aQ q (recs eW a) ∈ I0)
  (hg : ∀ i : Nat, i < a.length → CD Tryz.prog g (fs.toList ++ [wv (gt a i)] ++ cs.toList) X w0 M0 I0 (fun v M I => M0 = M ∧ I0 = I ∧ v = .bool (B (pr (gt a i))))) :
  CD Tryz.prog 76 [.slice q a.length c, .func (.func g) fs cs] X w0 M0 I0 (fun v M I => M0 = M ∧ I0 = I ∧ v = .bool (B (∃ x ∈ a, pr x))) := by
 refine bF Tryz.func76 rfl Tryz.ntmps76 rfl ?_
 repeat (refine aK ?_)
 (refine aA rfl (aSD pr hn ha hg) rfl rfl ?_; rintro _ _ _ ⟨rfl, rfl, r, rfl, h⟩; refine ⟨okF, ?_⟩)
 repeat (refine aK ?_)
 refine aF (by first | exact .inl rfl | exact .inr rfl) rfl rfl _ _ aG aD (⟨rfl, rfl, congrArg Value.bool (fE ?_)⟩)
 rcases h with ⟨i, hi, rfl, hp, _⟩ | ⟨rfl, h⟩
 ·exact ⟨fun _ => ⟨gt a i, by rw [jD hi]; exact List.getElem_mem hi, hp⟩, fun _ => by omega⟩
 ·refine ⟨fun h => by omega, ?_⟩
  rintro ⟨x, hx, hp⟩
  obtain ⟨j, hj, rfl⟩ := List.mem_iff_getElem.1 hx
  exact absurd (by rw [jD hj]; exact hp) (h j hj)
end
/- ---------- IndexFunc, ContainsFunc of fiducial/api.Matrix ---------- -/
section
variable {X : List Nat} {w0 : World} {M0 : List Ent} {I0 : List aZ}
theorem aTO {q : Option Addr} {a : List WL} {c : Nat} {g : FuncId} [FnOk Tryz.prog g] {fs cs : Array Value} (pr : WL → Prop) [DecidablePred pr] (hn : (a.length : Int) ≤ 9223372036854775807) (ha : aQ q (recs uO a) ∈ I0)
  (hg : ∀ i : Nat, i < a.length → CD Tryz.prog g (fs.toList ++ [lvW (gt a i)] ++ cs.toList) X w0 M0 I0 (fun v M I => M0 = M ∧ I0 = I ∧ v = .bool (B (pr (gt a i))))) :
  CD Tryz.prog 136 [.slice q a.length c, .func (.func g) fs cs] X w0 M0 I0 (fun v M I => M0 = M ∧ I0 = I ∧ ∃ r : Int, v = .int .i64 r ∧ ((∃ i : Nat, i < a.length ∧ r = i ∧ pr (gt a i) ∧ ∀ j : Nat, j < i → ¬ pr (gt a j)) ∨ (r = -1 ∧ ∀ j : Nat, j < a.length → ¬ pr (gt a j)))) := by
 refine bF Tryz.func136 rfl Tryz.ntmps136 rfl ?_
 repeat (refine aK ?_)
 refine aM [0, 1, 7] rfl (fun k G M I => ∃ i : Nat, i ≤ a.length ∧ k = a.length - i ∧ (∀ j : Nat, j < i → ¬ pr (gt a j)) ∧ G = [(8, .int .i64 i)] ∧ M = M0 ∧ I = I0) (a.length) _ _ _ aP aG aD (⟨0, by omega, rfl, fun j hj => by omega, rfl, rfl, rfl⟩) ?_
 rintro k G M I ⟨i, hi, rfl, hs, rfl, rfl, rfl⟩
 repeat' (first | refine aK ?_ | refine aN rfl (fun h => ?_) (fun h => ?_) | refine aO rfl rfl (fun h => ?_) (fun h => ?_) | fail)
 ·have hlt : i < a.length := by omega
  (refine rW rfl rfl (hg i hlt) rfl rfl rfl ?_; rintro _ _ _ ⟨rfl, rfl, rfl⟩; refine ⟨okF, ?_⟩)
  repeat' (first | refine aK ?_ | refine aN rfl (fun h => ?_) (fun h => ?_) | refine aO rfl rfl (fun h => ?_) (fun h => ?_) | fail)
  ·refine aF (by first | exact .inl rfl | exact .inr rfl) rfl rfl _ _ aG aD (⟨rfl, rfl, _, rfl, .inl ⟨i, hlt, rfl, by assumption, hs⟩⟩)
  ·refine aJ (a.length - (i + 1)) _ _ _ (by first | omega | (simp only [List.length_append, List.length_cons, List.length_nil]; omega)) aP aG aD (⟨i + 1, by omega, rfl, fun j hj => ?_, rfl, rfl, rfl⟩)
   by_cases e : j = i
   ·subst e; assumption
   ·exact hs j (by omega)
 ·refine aF (by first | exact .inl rfl | exact .inr rfl) rfl rfl _ _ aG aD (⟨rfl, rfl, _, rfl, .inr ⟨rfl, fun j hj => hs j (by omega)⟩⟩)
theorem xL {q : Option Addr} {a : List WL} {c : Nat} {g : FuncId} [FnOk Tryz.prog g] {fs cs : Array Value} (pr : WL → Prop) [DecidablePred pr] (hn : (a.length : Int) ≤ 9223372036854775807) (ha : aQ q (recs uO a) ∈ I0)
  (hg : ∀ i : Nat, i < a.length → CD Tryz.prog g (fs.toList ++ [lvW (gt a i)] ++ cs.toList) X w0 M0 I0 (fun v M I => M0 = M ∧ I0 = I ∧ v = .bool (B (pr (gt a i))))) :
  CD Tryz.prog 72 [.slice q a.length c, .func (.func g) fs cs] X w0 M0 I0 (fun v M I => M0 = M ∧ I0 = I ∧ v = .bool (B (∃ x ∈ a, pr x))) := by
 refine bF Tryz.func72 rfl Tryz.ntmps72 rfl ?_
 repeat (refine aK ?_)
 (refine aA rfl (aTO pr hn ha hg) rfl rfl ?_; rintro _ _ _ ⟨rfl, rfl, r, rfl, h⟩; refine ⟨okF, ?_⟩)
 repeat (refine aK ?_)
 refine aF (by first | exact .inl rfl | exact .inr rfl) rfl rfl _ _ aG aD (⟨rfl, rfl, congrArg Value.bool (fE ?_)⟩)
 rcases h with ⟨i, hi, rfl, hp, _⟩ | ⟨rfl, h⟩
 ·exact ⟨fun _ => ⟨gt a i, by rw [jD hi]; exact List.getElem_mem hi, hp⟩, fun _ => by omega⟩
 ·refine ⟨fun h => by omega, ?_⟩
  rintro ⟨x, hx, hp⟩
  obtain ⟨j, hj, rfl⟩ := List.mem_iff_getElem.1 hx
  exact absurd (by rw [jD hj]; exact hp) (h j hj)
end
section
variable {X : List Nat} {w0 : World} {M0 : List Ent} {I0 : List aZ}
theorem aTD {r : RW} (hw : Hv I0 (isW r)) : CD Tryz.prog 112 [wv r] X w0 M0 I0 (fun v M I => M0 = M ∧ I0 = I ∧ v = .bool (B r.brief)) := by
 refine aAW hw (fun hf => ?_)
 have l1 := hf.l1
 have l2 := hf.l2
 refine aU Tryz.func112 rfl Tryz.ntmps112 rfl ?_
 refine aI ?_
 refine aH ?_
 (refine aR rfl rfl rfl ?_; intro b; refine ⟨okF, ?_⟩)
 repeat (refine aK ?_)
 (repeat refine aI ?_); refine dW [0, 1, 2, 3, 4, 5, 6, 7] [0, 0, 0, 0, 0, 0, 0, 0] mixed (by kernel_rfl) ?_
 by_cases c1 : r.g1.length ≤ 1
 ·by_cases c2 : r.g2.length ≤ 1
  ·by_cases c3 : r.g1.length = 0
   ·by_cases c4 : r.g2.length = 0
    ·repeat (refine aK ?_)
     refine aF (by first | exact .inl rfl | exact .inr rfl) rfl rfl _ _ aG aD (⟨rfl, rfl, congrArg Value.bool (bB ⟨c1, c2, .inl c3, .inl c4⟩).symm⟩)
    ·repeat (refine aK ?_)
     refine aF (by first | exact .inl rfl | exact .inr rfl) rfl rfl _ _ aG aD (⟨rfl, rfl, congrArg Value.bool (fE ⟨fun e => ⟨c1, c2, .inl c3, .inr e⟩, fun e => e.2.2.2.resolve_left c4⟩)⟩)
   ·by_cases c5 : gt r.g1 0 < 100000
    ·by_cases c4 : r.g2.length = 0
     ·repeat (refine aK ?_)
      refine aF (by first | exact .inl rfl | exact .inr rfl) rfl rfl _ _ aG aD (⟨rfl, rfl, congrArg Value.bool (bB ⟨c1, c2, .inr c5, .inl c4⟩).symm⟩)
     ·repeat (refine aK ?_)
      refine aF (by first | exact .inl rfl | exact .inr rfl) rfl rfl _ _ aG aD (⟨rfl, rfl, congrArg Value.bool (fE ⟨fun e => ⟨c1, c2, .inr c5, .inr e⟩, fun e => e.2.2.2.resolve_left c4⟩)⟩)
    ·repeat (refine aK ?_)
     refine aF (by first | exact .inl rfl | exact .inr rfl) rfl rfl _ _ aG aD (⟨rfl, rfl, congrArg Value.bool (aX (fun e => c5 (e.2.2.1.resolve_left c3))).symm⟩)
  ·repeat (refine aK ?_)
   refine aF (by first | exact .inl rfl | exact .inr rfl) rfl rfl _ _ aG aD (⟨rfl, rfl, congrArg Value.bool (aX (fun e => c2 e.2.1)).symm⟩)
 ·repeat (refine aK ?_)
  refine aF (by first | exact .inl rfl | exact .inr rfl) rfl rfl _ _ aG aD (⟨rfl, rfl, congrArg Value.bool (aX (fun e => c1 e.1)).symm⟩)
theorem vV {r : WL} (hs : r.sml) (hw : vP r ∈ I0) : CD Tryz.prog 65 [lvW r] X w0 M0 I0 (fun v M I => M0 = M ∧ I0 = I ∧ v = .bool (B r.good)) := by
 refine cK (φ := aQ r.p (recs eW r.es)) (Hv.wlsl hw) ?_
 have hl := hs.1
 refine aU Tryz.func65 rfl Tryz.ntmps65 rfl ?_
 repeat (refine aK ?_)
 refine aM [0] rfl (fun k G M I => ∃ i : Nat, i ≤ r.es.length ∧ k = r.es.length - i ∧ (∀ j : Nat, j < i → (gt r.es j).good) ∧ G = [(3, .int .i64 i)] ∧ M0 = M ∧ I = aQ r.p (recs eW r.es) :: I0) (r.es.length) _ _ _ aP aG aD (⟨0, by omega, rfl, fun j hj => by omega, rfl, rfl, rfl⟩) ?_
 rintro k G M I ⟨i, hi, rfl, hg, rfl, rfl, rfl⟩
 repeat' (first | refine aK ?_ | refine aN rfl (fun h => ?_) (fun h => ?_) | refine aO rfl rfl (fun h => ?_) (fun h => ?_) | fail)
 ·(refine aA rfl (aCC (r := gt r.es (i : Int)) (hs.2 _ (dP (by omega))) (Hv.wlel (List.Mem.tail _ hw) (by omega))) rfl rfl ?_; rintro _ _ _ ⟨rfl, rfl, rfl⟩; refine ⟨okF, ?_⟩)
  repeat' (first | refine aK ?_ | refine aN rfl (fun h => ?_) (fun h => ?_) | refine aO rfl rfl (fun h => ?_) (fun h => ?_) | fail)
  ·refine aF (by first | exact .inl rfl | exact .inr rfl) rfl rfl _ _ aG aD (⟨rfl, rfl, congrArg Value.bool (aX (fun e => h (e _ (dP (by omega))))).symm⟩)
  ·refine aJ (r.es.length - (i + 1)) _ _ _ (by first | omega | (simp only [List.length_append, List.length_cons, List.length_nil]; omega)) aP aG aD (⟨i + 1, by omega, rfl, fun j hj => ?_, rfl, rfl, rfl⟩)
   by_cases e : j = i
   ·subst e; exact Decidable.of_not_not h
   ·exact hg j (by omega)
 ·refine aF (by first | exact .inl rfl | exact .inr rfl) rfl rfl _ _ aG aD (⟨rfl, rfl, congrArg Value.bool (bB (fun e he => ?_)).symm⟩)
  obtain ⟨j, hj, rfl⟩ := List.mem_iff_getElem.1 he
  have := hg j (by omega)
  rwa [jD hj] at this
theorem aDA {r : RW} (hs : r.sml) (hw : Hv I0 (isW r)) : CD Tryz.prog 159 [wv r] X w0 M0 I0 (fun v M I => M0 = M ∧ I0 = I ∧ v = .bool (B (¬ r.good))) := by
 refine aU Tryz.func159 rfl Tryz.ntmps159 rfl ?_
 refine aI ?_
 refine aH ?_
 (refine aR rfl rfl rfl ?_; intro b; refine ⟨okF, ?_⟩)
 repeat (refine aK ?_)
 (refine aA rfl (zK (r := r) hs hw) rfl rfl ?_; rintro _ _ _ ⟨rfl, rfl, rfl⟩; refine ⟨okF, ?_⟩)
 repeat (refine aK ?_)
 refine aF (by first | exact .inl rfl | exact .inr rfl) rfl rfl _ _ aG aD (⟨rfl, rfl, rfl⟩)
theorem aDH {r : WL} (hs : r.sml) (hw : vP r ∈ I0) : CD Tryz.prog 114 [lvW r] X w0 M0 I0 (fun v M I => M0 = M ∧ I0 = I ∧ v = .bool (B r.good)) := by
 refine cK (φ := aQ r.p (recs eW r.es)) (Hv.wlsl hw) ?_
 have hl := hs.1
 refine aU Tryz.func114 rfl Tryz.ntmps114 rfl ?_
 repeat (refine aK ?_)
 (refine aA rfl (aIC (g := 159) (fs := #[]) (cs := #[]) (fun (x : RW) => ¬ x.good) (by omega) (List.Mem.head _) (fun i hi => aDA (hs.2 _ (dP (by omega))) (Hv.wlel (List.Mem.tail _ hw) (by omega)))) rfl rfl ?_; rintro _ _ _ ⟨rfl, rfl, rfl⟩; refine ⟨okF, ?_⟩)
 repeat (refine aK ?_)
 refine aF (by first | exact .inl rfl | exact .inr rfl) rfl rfl _ _ aG aD (⟨rfl, rfl, congrArg Value.bool (fE ?_)⟩)
 exact ⟨fun e x hx => Decidable.of_not_not (fun hn => e ⟨x, hx, hn⟩), fun e ⟨x, hx, hn⟩ => hn (e x hx)⟩
end
end Go.Proofs.YtkccjglmnhgabaaGreat
namespace Go.Proofs.YtkccjglmnhgabaaGreat
open Go Go.Fx
def WM.code (m : WM) : Int := if m.ok then 0 else 1
def codeL (ms : List WM) : Int := if ∀ m ∈ ms, m.ok then 0 else 1
def bothC (a b : WM) : Int := if a.ok ∧ b.ok then (if a.rows.length = b.rows.length ∧ (gt a.rows 0).es.length = (gt b.rows 0).es.length then 0 else 4) else 1
def sqC (a : WM) : Int := if a.ok then (if a.rows.length = (gt a.rows 0).es.length then 0 else 4) else 1
section
variable {P : Program} {n : Nat} {Q : Exit → Act → World → Prop} {G : Env} {X : List Nat} {w0 : World} {M M' : List Ent} {I I' : List aZ} {ops l : List Oper} {m : Fx.Mode} {ty : TypeId} {pos : String} {af : Array Edge} {g : Option (Nat × Bool)}
theorem xM {d : Nat} {t : TypeId} {x : Operand} {q : Option Addr} {len c : Nat} (hx : ev G x = some (.slice q len c)) (hg : pJ ops G g = some true) (hd : Nat.ble (d + 1) n = true)
  (k : ∀ b, OkD m X w0 (.blk b [.slice q len c] t :: M) I ∧ RD P n ops Q m.nextE l ((d, .pointer (some ⟨b, 0, none⟩)) :: G) X w0 M (aQ (some ⟨b, 0, none⟩) [.slice q len c] :: I)) :
  RD P n ops Q m (⟨some d, .box t x, ty, pos, af, g⟩ :: l) G X w0 M I := nO hx hg hd (fun b => ⟨(k b).1, bA .here (k b).2⟩)
end
section
variable {X : List Nat} {w0 : World} {M0 : List Ent} {I0 : List aZ}
theorem aEP {m : WM} {b : Nat} {r : WL} (hR : 1 ≤ m.rows.length) (hs : r.sml) (h : Hv I0 (vP r)) (hm : iE m ∈ I0) (hb : aQ (some ⟨b, 0, none⟩) [.slice m.p m.rows.length m.c] ∈ I0) :
  CD Tryz.prog 113 [lvW r, .pointer (some ⟨b, 0, none⟩)] X w0 M0 I0 (fun v M I => M0 = M ∧ I0 = I ∧ v = .bool (B (¬ (r.es.length = (gt m.rows 0).es.length ∧ r.good)))) := by
 refine cK (φ := vP r) h ?_
 refine cK (φ := aQ m.p (recs uO m.rows)) (Hv.wmsl (List.Mem.tail _ hm)) ?_
 by_cases he : r.es.length = (gt m.rows 0).es.length
 ·have hq : B (¬ r.good) = B (¬ (r.es.length = (gt m.rows 0).es.length ∧ r.good)) := fE (not_congr ⟨fun h => ⟨he, h⟩, fun h => h.2⟩)
  refine bF Tryz.func113 rfl Tryz.ntmps113 rfl ?_
  repeat (refine aK ?_)
  (refine aA rfl (aDH (r := r) hs aB) rfl rfl ?_; rintro _ _ _ ⟨rfl, rfl, rfl⟩; refine ⟨okF, ?_⟩)
  repeat (refine aK ?_)
  refine aF (by first | exact .inl rfl | exact .inr rfl) rfl rfl _ _ aG aD (⟨rfl, rfl, congrArg Value.bool hq⟩)
 ·have hn : ¬ (r.es.length = (gt m.rows 0).es.length ∧ r.good) := fun e => he e.1
  have hq : B (¬ (r.es.length = (gt m.rows 0).es.length ∧ r.good)) = true := bB hn
  refine bF Tryz.func113 rfl Tryz.ntmps113 rfl ?_
  repeat (refine aK ?_)
  refine aF (by first | exact .inl rfl | exact .inr rfl) rfl rfl _ _ aG aD (⟨rfl, rfl, congrArg Value.bool hq.symm⟩)
theorem WM.code_ok {m : WM} (h : m.ok) : m.code = 0 := if_pos h
theorem WM.code_no {m : WM} (h : ¬ m.ok) : m.code = 1 := if_neg h
theorem oV {m : WM} (hs : m.sml) (hm : iE m ∈ I0) : CD Tryz.prog 59 [yI m] X w0 M0 I0 (fun v M I => M0 = M ∧ I0 = I ∧ v = .int .i64 m.code) := by
 refine cK (φ := aQ m.p (recs uO m.rows)) (Hv.wmsl hm) ?_
 have hl := hs.1
 by_cases hsh : 1 ≤ m.rows.length ∧ m.rows.length ≤ 64 ∧ 1 ≤ (gt m.rows 0).es.length ∧ (gt m.rows 0).es.length ≤ 64
 ·obtain ⟨s1, s2, s3, s4⟩ := hsh
  by_cases hall : ∃ r ∈ m.rows, ¬ (r.es.length = (gt m.rows 0).es.length ∧ r.good)
  ·have hno : ¬ m.ok := fun e => by obtain ⟨r, hr, hn⟩ := hall; exact hn (e.2 r hr)
   rw [WM.code_no hno]
   refine aU Tryz.func59 rfl Tryz.ntmps59 rfl ?_
   refine aI ?_
   refine aH ?_
   (refine xM rfl rfl rfl ?_; intro b; refine ⟨okF, ?_⟩)
   repeat (refine aK ?_)
   (refine aA rfl (xL (g := 113) (fs := #[]) (cs := #[.pointer (some ⟨b, 0, none⟩)]) (fun (r : WL) => ¬ (r.es.length = (gt m.rows 0).es.length ∧ r.good)) (by omega) aB (fun i hi => aEP (m := m) (b := b) s1 (hs.2 _ (dP (by omega))) (Hv.wmrow aB (by omega)) aB aB)) rfl rfl ?_; rintro _ _ _ ⟨rfl, rfl, rfl⟩; refine ⟨okF, ?_⟩)
   rw [bB hall]
   repeat (refine aK ?_)
   refine aF (by first | exact .inl rfl | exact .inr rfl) rfl rfl _ _ aG aD (⟨rfl, rfl, rfl⟩)
  ·have hok : m.ok := ⟨⟨s1, s2, s3, s4⟩, fun r hr => Decidable.of_not_not (fun hn => hall ⟨r, hr, hn⟩)⟩
   rw [WM.code_ok hok]
   refine aU Tryz.func59 rfl Tryz.ntmps59 rfl ?_
   refine aI ?_
   refine aH ?_
   (refine xM rfl rfl rfl ?_; intro b; refine ⟨okF, ?_⟩)
   repeat (refine aK ?_)
   (refine aA rfl (xL (g := 113) (fs := #[]) (cs := #[.pointer (some ⟨b, 0, none⟩)]) (fun (r : WL) => ¬ (r.es.length = (gt m.rows 0).es.length ∧ r.good)) (by omega) aB (fun i hi => aEP (m := m) (b := b) s1 (hs.2 _ (dP (by omega))) (Hv.wmrow aB (by omega)) aB aB)) rfl rfl ?_; rintro _ _ _ ⟨rfl, rfl, rfl⟩; refine ⟨okF, ?_⟩)
   rw [aX hall]
   repeat (refine aK ?_)
   refine aF (by first | exact .inl rfl | exact .inr rfl) rfl rfl _ _ aG aD (⟨rfl, rfl, rfl⟩)
 ·have hno : ¬ m.ok := fun e => hsh e.1
  rw [WM.code_no hno]
  refine aU Tryz.func59 rfl Tryz.ntmps59 rfl ?_
  refine aI ?_
  refine aH ?_
  (refine xM rfl rfl rfl ?_; intro b; refine ⟨okF, ?_⟩)
  by_cases c1 : 1 ≤ m.rows.length
  ·by_cases c2 : m.rows.length ≤ 64
   ·by_cases c3 : 1 ≤ (gt m.rows 0).es.length
    ·repeat (refine aK ?_)
     refine aF (by first | exact .inl rfl | exact .inr rfl) rfl rfl _ _ aG aD (⟨rfl, rfl, rfl⟩)
    ·repeat (refine aK ?_)
     refine aF (by first | exact .inl rfl | exact .inr rfl) rfl rfl _ _ aG aD (⟨rfl, rfl, rfl⟩)
   ·repeat (refine aK ?_)
    refine aF (by first | exact .inl rfl | exact .inr rfl) rfl rfl _ _ aG aD (⟨rfl, rfl, rfl⟩)
  ·repeat (refine aK ?_)
   refine aF (by first | exact .inl rfl | exact .inr rfl) rfl rfl _ _ aG aD (⟨rfl, rfl, rfl⟩)
theorem oD {m : WM} (hs : m.sml) (hm : iE m ∈ I0) : CD Tryz.prog 20 [yI m] X w0 M0 I0 (fun v M I => M0 = M ∧ I0 = I ∧ v = .int .i64 m.code) := by
 have hl := hs.1
 by_cases hsh : 1 ≤ m.rows.length ∧ m.rows.length ≤ 64 ∧ 1 ≤ (gt m.rows 0).es.length ∧ (gt m.rows 0).es.length ≤ 64
 ·obtain ⟨s1, s2, s3, s4⟩ := hsh
  refine cK (φ := aQ m.p (recs uO m.rows)) (Hv.wmsl hm) ?_
  refine aU Tryz.func20 rfl Tryz.ntmps20 rfl ?_
  repeat (refine aK ?_)
  refine aM [0] rfl (fun k G M I => ∃ i : Nat, i ≤ m.rows.length ∧ k = m.rows.length - i ∧ (∀ j : Nat, j < i → (gt m.rows j).es.length = (gt m.rows 0).es.length ∧ (gt m.rows j).good) ∧ G = [(3, .int .i64 i)] ∧ M0 = M ∧ I = aQ m.p (recs uO m.rows) :: I0) (m.rows.length) _ _ _ aP aG aD (⟨0, by omega, rfl, fun j hj => by omega, rfl, rfl, rfl⟩) ?_
  rintro k G M I ⟨i, hi, rfl, hg, rfl, rfl, rfl⟩
  by_cases hi2 : i < m.rows.length
  ·refine dK (φ := vP (gt m.rows (i : Int))) (Hv.wmrow (List.Mem.tail _ hm) (by omega)) ?_
   have hC := fun M0 I0 h => vV (X := X) (w0 := w0) (M0 := M0) (I0 := I0) (r := gt m.rows (i : Int)) (hs.2 _ (dP (by omega))) h
   by_cases hlen : (gt m.rows (i : Int)).es.length = (gt m.rows 0).es.length
   ·by_cases hok : (gt m.rows (i : Int)).good
    ·rw [bB hok] at hC
     repeat (refine aK ?_)
     (repeat refine aI ?_); refine dW [0, 1, 2, 3, 4, 5, 6, 7, 8, 9, 10, 11, 12, 13, 14, 15, 16, 17] [1, 1, 1, 1, 1, 1, 1, 1, 1, 1, 0, 1, 1, 1, 0, 0, 0, 0] mixed (by kernel_rfl) ?_
     repeat (refine aK ?_)
     (refine aA rfl (hC _ _ aB) rfl rfl ?_; rintro _ _ _ ⟨rfl, rfl, rfl⟩; refine ⟨okF, ?_⟩)
     repeat (refine aK ?_)
     refine aJ (m.rows.length - (i + 1)) _ _ _ (by first | omega | (simp only [List.length_append, List.length_cons, List.length_nil]; omega)) aP aG aD (⟨i + 1, by omega, rfl, fun j hj => ?_, rfl, rfl, rfl⟩)
     by_cases e : j = i
     ·subst e; exact ⟨hlen, hok⟩
     ·exact hg j (by omega)
    ·rw [aX hok] at hC
     repeat (refine aK ?_)
     (repeat refine aI ?_); refine dW [0, 1, 2, 3, 4, 5, 6, 7, 8, 9, 10, 11, 12, 13, 14, 15, 16, 17] [1, 1, 1, 1, 1, 1, 1, 1, 1, 1, 0, 1, 1, 1, 0, 0, 0, 0] mixed (by kernel_rfl) ?_
     repeat (refine aK ?_)
     (refine aA rfl (hC _ _ aB) rfl rfl ?_; rintro _ _ _ ⟨rfl, rfl, rfl⟩; refine ⟨okF, ?_⟩)
     repeat (refine aK ?_)
     refine aF (by first | exact .inl rfl | exact .inr rfl) rfl rfl _ _ aG aD (⟨rfl, rfl, congrArg (Value.int .i64) (WM.code_no (fun e => hok (e.2 _ (dP (by omega))).2)).symm⟩)
   ·repeat (refine aK ?_)
    (repeat refine aI ?_); refine dW [0, 1, 2, 3, 4, 5, 6, 7, 8, 9, 10, 11, 12, 13, 14, 15, 16, 17] [1, 1, 1, 1, 1, 1, 1, 1, 1, 1, 0, 1, 1, 1, 0, 0, 0, 0] mixed (by kernel_rfl) ?_
    repeat (refine aK ?_)
    refine aF (by first | exact .inl rfl | exact .inr rfl) rfl rfl _ _ aG aD (⟨rfl, rfl, congrArg (Value.int .i64) (WM.code_no (fun e => hlen (e.2 _ (dP (by omega))).1)).symm⟩)
  ·repeat (refine aK ?_)
   refine aF (by first | exact .inl rfl | exact .inr rfl) rfl rfl _ _ aG aD (⟨rfl, rfl, congrArg (Value.int .i64) (WM.code_ok ⟨⟨s1, s2, s3, s4⟩, fun r hr => ?_⟩).symm⟩)
   obtain ⟨j, hj, rfl⟩ := List.mem_iff_getElem.1 hr
   have := hg j (by omega)
   rwa [jD hj] at this
 ·have hno : ¬ m.ok := fun e => hsh e.1
  rw [WM.code_no hno]
  refine cK (φ := aQ m.p (recs uO m.rows)) (Hv.wmsl hm) ?_
  refine aU Tryz.func20 rfl Tryz.ntmps20 rfl ?_
  by_cases c1 : 1 ≤ m.rows.length
  ·by_cases c2 : m.rows.length ≤ 64
   ·by_cases c3 : 1 ≤ (gt m.rows 0).es.length
    ·repeat (refine aK ?_)
     refine aF (by first | exact .inl rfl | exact .inr rfl) rfl rfl _ _ aG aD (⟨rfl, rfl, rfl⟩)
    ·repeat (refine aK ?_)
     refine aF (by first | exact .inl rfl | exact .inr rfl) rfl rfl _ _ aG aD (⟨rfl, rfl, rfl⟩)
   ·repeat (refine aK ?_)
    refine aF (by first | exact .inl rfl | exact .inr rfl) rfl rfl _ _ aG aD (⟨rfl, rfl, rfl⟩)
  ·repeat (refine aK ?_)
   refine aF (by first | exact .inl rfl | exact .inr rfl) rfl rfl _ _ aG aD (⟨rfl, rfl, rfl⟩)
theorem aPU {a : WM} (sa : a.sml) (ha : iE a ∈ I0) : CD Tryz.prog 163 [yI a] X w0 M0 I0 (fun v M I => M0 = M ∧ I0 = I ∧ v = .int .i64 (sqC a)) := by
 have hC := fun M0 I0 h1 => oV (X := X) (w0 := w0) (M0 := M0) (I0 := I0) (m := a) sa h1
 unfold sqC
 by_cases hok : a.ok
 ·rw [WM.code_ok hok] at hC
  rw [if_pos hok]
  obtain ⟨a1, a2, a3, a4⟩ := hok.1
  refine cK (φ := aQ a.p (recs uO a.rows)) (Hv.wmsl ha) ?_
  refine aU Tryz.func163 rfl Tryz.ntmps163 rfl ?_
  repeat (refine aK ?_)
  (refine aA rfl (hC _ _ aB) rfl rfl ?_; rintro _ _ _ ⟨rfl, rfl, rfl⟩; refine ⟨okF, ?_⟩)
  by_cases e1 : a.rows.length = (gt a.rows 0).es.length
  ·rw [if_pos e1]
   repeat (refine aK ?_)
   refine aF (by first | exact .inl rfl | exact .inr rfl) rfl rfl _ _ aG aD (⟨rfl, rfl, rfl⟩)
  ·rw [if_neg e1]
   repeat (refine aK ?_)
   refine aF (by first | exact .inl rfl | exact .inr rfl) rfl rfl _ _ aG aD (⟨rfl, rfl, rfl⟩)
 ·rw [WM.code_no hok] at hC
  rw [if_neg hok]
  refine aU Tryz.func163 rfl Tryz.ntmps163 rfl ?_
  repeat (refine aK ?_)
  (refine aA rfl (hC _ _ aB) rfl rfl ?_; rintro _ _ _ ⟨rfl, rfl, rfl⟩; refine ⟨okF, ?_⟩)
  repeat (refine aK ?_)
  refine aF (by first | exact .inl rfl | exact .inr rfl) rfl rfl _ _ aG aD (⟨rfl, rfl, rfl⟩)
end
end Go.Proofs.YtkccjglmnhgabaaGreat
namespace Go.Proofs.YtkccjglmnhgabaaGreat
open Go Go.Fx
structure AllL (rows : List RL) (k : Nat) (X : List Nat) (w : World) : Prop where
 go : ∀ r ∈ rows, IsL r k X w
abbrev nS (rows : List RL) (k : Nat) : aZ := AllL rows k
instance (rows : List RL) (k : Nat) : Fx.Good (AllL rows k) := ⟨fun X Y w w' h he hY => ⟨fun r hm => Fx.Good.go (φ := IsL _ _) X Y w w' (h.go r hm) he hY⟩⟩
theorem Hv.nilL {I : List aZ} {k : Nat} : Hv I (nS [] k) := ⟨fun X w _ => ⟨fun x hx => by simp at hx⟩⟩
theorem Hv.snocL {I : List aZ} {rows : List RL} {r : RL} {k : Nat} (h1 : nS rows k ∈ I) (h2 : nD r k ∈ I) : Hv I (nS (rows ++ [r]) k) := ⟨fun X w hw => ⟨fun x hx => by
 rcases List.mem_append.1 hx with hx | hx
 ·exact (hw _ h1 : AllL rows k X w).go x hx
 ·rw [List.mem_singleton.1 hx]; exact hw _ h2⟩⟩
section
variable {X : List Nat} {w0 : World} {M : List Ent} {I : List aZ}
theorem Mem.toL {w : World} {q : Option Addr} {c k : Nat} {es : List RE} {ty : TypeId} {sz : Nat} (h : Mem X w0 (.row q es.length c (recs eR es) ty sz :: M) I w) (ha : dB es k ∈ I) : Mem X w0 M (nD ⟨q, c, es⟩ k :: I) w := by
 have ho := h.rowS List.mem_cons_self
 have hc := h.rowLe List.mem_cons_self
 have h1 := h.freezeR .here
 refine (h1.add (φ := nD ⟨q, c, es⟩ k) ⟨(h1.sl (List.Mem.head _)), (((h1.imm _ (List.Mem.tail _ ha)).2 : AllR es k _ w)).go, ⟨hc, ho.2.imp id And.right⟩⟩).inc (.of fun φ hφ => ?_)
 rcases List.mem_cons.1 hφ with rfl | hφ
 ·exact List.Mem.head _
 ·exact List.Mem.tail _ (List.Mem.tail _ hφ)
theorem Mem.toX {w : World} {q : Option Addr} {c k : Nat} {rows : List RL} {ty : TypeId} {sz : Nat} (h : Mem X w0 (.row q rows.length c (recs eL rows) ty sz :: M) I w) (ha : nS rows k ∈ I) : Mem X w0 M (fJ ⟨q, c, rows⟩ k :: I) w := by
 have ho := h.rowS List.mem_cons_self
 have hc := h.rowLe List.mem_cons_self
 have h1 := h.freezeR .here
 refine (h1.add (φ := fJ ⟨q, c, rows⟩ k) ⟨(h1.sl (List.Mem.head _)), (((h1.imm _ (List.Mem.tail _ ha)).2 : AllL rows k _ w)).go, ⟨hc, ho.2.imp id And.right⟩⟩).inc (.of fun φ hφ => ?_)
 rcases List.mem_cons.1 hφ with rfl | hφ
 ·exact List.Mem.head _
 ·exact List.Mem.tail _ (List.Mem.tail _ hφ)
variable {P : Program} {n : Nat} {Q : Exit → Act → World → Prop} {G : Env}
theorem aQM {ops l : List Oper} {m : Fx.Mode} {q : Option Addr} {c k : Nat} {es : List RE} {ty : TypeId} {sz : Nat} (ha : dB es k ∈ I) (h : RD P n ops Q m l G X w0 M (nD ⟨q, c, es⟩ k :: I)) : RD P n ops Q m l G X w0 (.row q es.length c (recs eR es) ty sz :: M) I := rJ (fun _ hw => Mem.toL hw ha) h
theorem aTE {cd : Code} {q : Option Addr} {c k : Nat} {es : List RE} {ty : TypeId} {sz : Nat} (ha : dB es k ∈ I) (h : TD P n cd Q G X w0 M (nD ⟨q, c, es⟩ k :: I)) : TD P n cd Q G X w0 (.row q es.length c (recs eR es) ty sz :: M) I := aDJ (fun _ hw => Mem.toL hw ha) h
theorem aKP {ex : Exit} {q : Option Addr} {c k : Nat} {es : List RE} {ty : TypeId} {sz : Nat} (ha : dB es k ∈ I) (h : ND n Q ex G X w0 M (nD ⟨q, c, es⟩ k :: I)) : ND n Q ex G X w0 (.row q es.length c (recs eR es) ty sz :: M) I := yU (fun _ hw => Mem.toL hw ha) h
theorem aCP {ex : Exit} {q : Option Addr} {c k : Nat} {rows : List RL} {ty : TypeId} {sz : Nat} (ha : nS rows k ∈ I) (h : ND n Q ex G X w0 M (fJ ⟨q, c, rows⟩ k :: I)) : ND n Q ex G X w0 (.row q rows.length c (recs eL rows) ty sz :: M) I := yU (fun _ hw => Mem.toX hw ha) h
end
theorem yT {rows : List RL} {r : RL} : (rows ++ [r]).map RL.q = rows.map RL.q ++ [r.q] := by simp
end Go.Proofs.YtkccjglmnhgabaaGreat

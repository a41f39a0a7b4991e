/- matrix.Check and its like, of matrices as they come in. matrix.Check, check, both, square; the document's Check; the law's code. Matrices and lists that are built by appending: rows of facts. -/
import Derived.Test.YtjbhdfpjnjedhaaGreatZpaz
import Derived.Test.YtjbhdfpjnjedhaaGreatZpan
set_option linter.unusedSimpArgs false
set_option linter.unusedVariables false
set_option maxRecDepth 100000
set_option maxHeartbeats 4000000
namespace Go.Proofs.YtjbhdfpjnjedhaaGreat
open Go Go.Fx
/- ---------- IndexFunc, ContainsFunc of []fiducial/api.Rat ---------- -/
section
variable {X : List Nat} {w0 : World} {M0 : List Ent} {I0 : List aY}
theorem aRR {q : Option Addr} {a : List RW} {c : Nat} {g : FuncId} [FnOk Tryz.prog g] {fs cs : Array Value} (pr : RW → Prop) [DecidablePred pr] (hn : (a.length : Int) ≤ 9223372036854775807) (ha : aO q (recs eW a) ∈ I0)
  (hg : ∀ i : Nat, i < a.length → CD Tryz.prog g (fs.toList ++ [wv (gt a i)] ++ cs.toList) X w0 M0 I0 (fun v M I => M0 = M ∧ I0 = I ∧ v = .bool (B (pr (gt a i))))) :
  CD Tryz.prog 62 [.slice q a.length c, .func (.func g) fs cs] X w0 M0 I0 (fun v M I => M0 = M ∧ I0 = I ∧ ∃ r : Int, v = .int .i64 r ∧ ((∃ i : Nat, i < a.length ∧ r = i ∧ pr (gt a i) ∧ ∀ j : Nat, j < i → ¬ pr (gt a j)) ∨ (r = -1 ∧ ∀ j : Nat, j < a.length → ¬ pr (gt a j)))) := by
 refine aX Tryz.func62 rfl Tryz.ntmps62 rfl ?_
 repeat (refine aK ?_)
 refine aT [0, 1, 7] rfl (fun k G M I => ∃ i : Nat, i ≤ a.length ∧ k = a.length - i ∧ (∀ j : Nat, j < i → ¬ pr (gt a j)) ∧ G = [(8, .int .i64 i)] ∧ M = M0 ∧ I = I0) (a.length) _ _ _ aP aD aC (⟨0, by omega, rfl, fun j hj => by omega, rfl, rfl, rfl⟩) ?_
 rintro k G M I ⟨i, hi, rfl, hs, rfl, rfl, rfl⟩
 repeat' (first | refine aK ?_ | refine aM rfl (fun h => ?_) (fun h => ?_) | refine aN rfl rfl (fun h => ?_) (fun h => ?_) | fail)
 ·have hlt : i < a.length := by omega
  (refine fD rfl rfl (hg i hlt) rfl rfl rfl ?_; rintro _ _ _ ⟨rfl, rfl, rfl⟩; refine ⟨okF, ?_⟩)
  repeat' (first | refine aK ?_ | refine aM rfl (fun h => ?_) (fun h => ?_) | refine aN rfl rfl (fun h => ?_) (fun h => ?_) | fail)
  ·refine aH (by first | exact .inl rfl | exact .inr rfl) rfl rfl _ _ aD aC (⟨rfl, rfl, _, rfl, .inl ⟨i, hlt, rfl, by assumption, hs⟩⟩)
  ·refine aL (a.length - (i + 1)) _ _ _ (by first | omega | (simp only [List.length_append, List.length_cons, List.length_nil]; omega)) aP aD aC (⟨i + 1, by omega, rfl, fun j hj => ?_, rfl, rfl, rfl⟩)
   by_cases e : j = i
   ·subst e; assumption
   ·exact hs j (by omega)
 ·refine aH (by first | exact .inl rfl | exact .inr rfl) rfl rfl _ _ aD aC (⟨rfl, rfl, _, rfl, .inr ⟨rfl, fun j hj => hs j (by omega)⟩⟩)
theorem aHH {q : Option Addr} {a : List RW} {c : Nat} {g : FuncId} [FnOk Tryz.prog g] {fs cs : Array Value} (pr : RW → Prop) [DecidablePred pr] (hn : (a.length : Int) ≤ 9223372036854775807) (ha : aO q (recs eW a) ∈ I0)
  (hg : ∀ i : Nat, i < a.length → CD Tryz.prog g (fs.toList ++ [wv (gt a i)] ++ cs.toList) X w0 M0 I0 (fun v M I => M0 = M ∧ I0 = I ∧ v = .bool (B (pr (gt a i))))) :
  CD Tryz.prog 19 [.slice q a.length c, .func (.func g) fs cs] X w0 M0 I0 (fun v M I => M0 = M ∧ I0 = I ∧ v = .bool (B (∃ x ∈ a, pr x))) := by
 refine aX Tryz.func19 rfl Tryz.ntmps19 rfl ?_
 repeat (refine aK ?_)
 (refine aA rfl (aRR pr hn ha hg) rfl rfl ?_; rintro _ _ _ ⟨rfl, rfl, r, rfl, h⟩; refine ⟨okF, ?_⟩)
 repeat (refine aK ?_)
 refine aH (by first | exact .inl rfl | exact .inr rfl) rfl rfl _ _ aD aC (⟨rfl, rfl, congrArg Value.bool (gY ?_)⟩)
 rcases h with ⟨i, hi, rfl, hp, _⟩ | ⟨rfl, h⟩
 ·exact ⟨fun _ => ⟨gt a i, by rw [fT hi]; exact List.getElem_mem hi, hp⟩, fun _ => by omega⟩
 ·refine ⟨fun h => by omega, ?_⟩
  rintro ⟨x, hx, hp⟩
  obtain ⟨j, hj, rfl⟩ := List.mem_iff_getElem.1 hx
  exact absurd (by rw [fT hj]; exact hp) (h j hj)
end
/- ---------- IndexFunc, ContainsFunc of fiducial/api.Matrix ---------- -/
section
variable {X : List Nat} {w0 : World} {M0 : List Ent} {I0 : List aY}
theorem aRD {q : Option Addr} {a : List WL} {c : Nat} {g : FuncId} [FnOk Tryz.prog g] {fs cs : Array Value} (pr : WL → Prop) [DecidablePred pr] (hn : (a.length : Int) ≤ 9223372036854775807) (ha : aO q (recs eWL a) ∈ I0)
  (hg : ∀ i : Nat, i < a.length → CD Tryz.prog g (fs.toList ++ [lvW (gt a i)] ++ cs.toList) X w0 M0 I0 (fun v M I => M0 = M ∧ I0 = I ∧ v = .bool (B (pr (gt a i))))) :
  CD Tryz.prog 256 [.slice q a.length c, .func (.func g) fs cs] X w0 M0 I0 (fun v M I => M0 = M ∧ I0 = I ∧ ∃ r : Int, v = .int .i64 r ∧ ((∃ i : Nat, i < a.length ∧ r = i ∧ pr (gt a i) ∧ ∀ j : Nat, j < i → ¬ pr (gt a j)) ∨ (r = -1 ∧ ∀ j : Nat, j < a.length → ¬ pr (gt a j)))) := by
 refine aX Tryz.func256 rfl Tryz.ntmps256 rfl ?_
 repeat (refine aK ?_)
 refine aT [0, 1, 7] rfl (fun k G M I => ∃ i : Nat, i ≤ a.length ∧ k = a.length - i ∧ (∀ j : Nat, j < i → ¬ pr (gt a j)) ∧ G = [(8, .int .i64 i)] ∧ M = M0 ∧ I = I0) (a.length) _ _ _ aP aD aC (⟨0, by omega, rfl, fun j hj => by omega, rfl, rfl, rfl⟩) ?_
 rintro k G M I ⟨i, hi, rfl, hs, rfl, rfl, rfl⟩
 repeat' (first | refine aK ?_ | refine aM rfl (fun h => ?_) (fun h => ?_) | refine aN rfl rfl (fun h => ?_) (fun h => ?_) | fail)
 ·have hlt : i < a.length := by omega
  (refine fD rfl rfl (hg i hlt) rfl rfl rfl ?_; rintro _ _ _ ⟨rfl, rfl, rfl⟩; refine ⟨okF, ?_⟩)
  repeat' (first | refine aK ?_ | refine aM rfl (fun h => ?_) (fun h => ?_) | refine aN rfl rfl (fun h => ?_) (fun h => ?_) | fail)
  ·refine aH (by first | exact .inl rfl | exact .inr rfl) rfl rfl _ _ aD aC (⟨rfl, rfl, _, rfl, .inl ⟨i, hlt, rfl, by assumption, hs⟩⟩)
  ·refine aL (a.length - (i + 1)) _ _ _ (by first | omega | (simp only [List.length_append, List.length_cons, List.length_nil]; omega)) aP aD aC (⟨i + 1, by omega, rfl, fun j hj => ?_, rfl, rfl, rfl⟩)
   by_cases e : j = i
   ·subst e; assumption
   ·exact hs j (by omega)
 ·refine aH (by first | exact .inl rfl | exact .inr rfl) rfl rfl _ _ aD aC (⟨rfl, rfl, _, rfl, .inr ⟨rfl, fun j hj => hs j (by omega)⟩⟩)
theorem aHA {q : Option Addr} {a : List WL} {c : Nat} {g : FuncId} [FnOk Tryz.prog g] {fs cs : Array Value} (pr : WL → Prop) [DecidablePred pr] (hn : (a.length : Int) ≤ 9223372036854775807) (ha : aO q (recs eWL a) ∈ I0)
  (hg : ∀ i : Nat, i < a.length → CD Tryz.prog g (fs.toList ++ [lvW (gt a i)] ++ cs.toList) X w0 M0 I0 (fun v M I => M0 = M ∧ I0 = I ∧ v = .bool (B (pr (gt a i))))) :
  CD Tryz.prog 245 [.slice q a.length c, .func (.func g) fs cs] X w0 M0 I0 (fun v M I => M0 = M ∧ I0 = I ∧ v = .bool (B (∃ x ∈ a, pr x))) := by
 refine aX Tryz.func245 rfl Tryz.ntmps245 rfl ?_
 repeat (refine aK ?_)
 (refine aA rfl (aRD pr hn ha hg) rfl rfl ?_; rintro _ _ _ ⟨rfl, rfl, r, rfl, h⟩; refine ⟨okF, ?_⟩)
 repeat (refine aK ?_)
 refine aH (by first | exact .inl rfl | exact .inr rfl) rfl rfl _ _ aD aC (⟨rfl, rfl, congrArg Value.bool (gY ?_)⟩)
 rcases h with ⟨i, hi, rfl, hp, _⟩ | ⟨rfl, h⟩
 ·exact ⟨fun _ => ⟨gt a i, by rw [fT hi]; exact List.getElem_mem hi, hp⟩, fun _ => by omega⟩
 ·refine ⟨fun h => by omega, ?_⟩
  rintro ⟨x, hx, hp⟩
  obtain ⟨j, hj, rfl⟩ := List.mem_iff_getElem.1 hx
  exact absurd (by rw [fT hj]; exact hp) (h j hj)
end
section
variable {X : List Nat} {w0 : World} {M0 : List Ent} {I0 : List aY}
theorem aOL {r : RW} (hw : Hv I0 (isW r)) : CD Tryz.prog 21 [wv r] X w0 M0 I0 (fun v M I => M0 = M ∧ I0 = I ∧ v = .bool (B r.brief)) := by
 refine aBO hw (fun hf => ?_)
 have l1 := hf.l1
 have l2 := hf.l2
 refine aZ Tryz.func21 rfl Tryz.ntmps21 rfl ?_
 refine aG ?_
 refine aJ ?_
 (refine aR rfl rfl rfl ?_; intro b; refine ⟨okF, ?_⟩)
 repeat (refine aK ?_)
 (repeat refine aG ?_); refine dS [0, 1, 2, 3, 4, 5, 6, 7] [0, 0, 0, 0, 0, 0, 0, 0] mixed (by kernel_rfl) ?_
 by_cases c1 : r.g1.length ≤ 1
 ·by_cases c2 : r.g2.length ≤ 1
  ·by_cases c3 : r.g1.length = 0
   ·by_cases c4 : r.g2.length = 0
    ·repeat (refine aK ?_)
     refine aH (by first | exact .inl rfl | exact .inr rfl) rfl rfl _ _ aD aC (⟨rfl, rfl, congrArg Value.bool (bJ ⟨c1, c2, .inl c3, .inl c4⟩).symm⟩)
    ·repeat (refine aK ?_)
     refine aH (by first | exact .inl rfl | exact .inr rfl) rfl rfl _ _ aD aC (⟨rfl, rfl, congrArg Value.bool (gY ⟨fun e => ⟨c1, c2, .inl c3, .inr e⟩, fun e => e.2.2.2.resolve_left c4⟩)⟩)
   ·by_cases c5 : gt r.g1 0 < 100000
    ·by_cases c4 : r.g2.length = 0
     ·repeat (refine aK ?_)
      refine aH (by first | exact .inl rfl | exact .inr rfl) rfl rfl _ _ aD aC (⟨rfl, rfl, congrArg Value.bool (bJ ⟨c1, c2, .inr c5, .inl c4⟩).symm⟩)
     ·repeat (refine aK ?_)
      refine aH (by first | exact .inl rfl | exact .inr rfl) rfl rfl _ _ aD aC (⟨rfl, rfl, congrArg Value.bool (gY ⟨fun e => ⟨c1, c2, .inr c5, .inr e⟩, fun e => e.2.2.2.resolve_left c4⟩)⟩)
    ·repeat (refine aK ?_)
     refine aH (by first | exact .inl rfl | exact .inr rfl) rfl rfl _ _ aD aC (⟨rfl, rfl, congrArg Value.bool (bB (fun e => c5 (e.2.2.1.resolve_left c3))).symm⟩)
  ·repeat (refine aK ?_)
   refine aH (by first | exact .inl rfl | exact .inr rfl) rfl rfl _ _ aD aC (⟨rfl, rfl, congrArg Value.bool (bB (fun e => c2 e.2.1)).symm⟩)
 ·repeat (refine aK ?_)
  refine aH (by first | exact .inl rfl | exact .inr rfl) rfl rfl _ _ aD aC (⟨rfl, rfl, congrArg Value.bool (bB (fun e => c1 e.1)).symm⟩)
theorem vB {r : WL} (hs : r.sml) (hw : uX r ∈ I0) : CD Tryz.prog 24 [lvW r] X w0 M0 I0 (fun v M I => M0 = M ∧ I0 = I ∧ v = .bool (B r.good)) := by
 refine cZ (φ := aO r.p (recs eW r.es)) (Hv.wlsl hw) ?_
 have hl := hs.1
 refine aZ Tryz.func24 rfl Tryz.ntmps24 rfl ?_
 repeat (refine aK ?_)
 refine aT [0] rfl (fun k G M I => ∃ i : Nat, i ≤ r.es.length ∧ k = r.es.length - i ∧ (∀ j : Nat, j < i → (gt r.es j).good) ∧ G = [(3, .int .i64 i)] ∧ M0 = M ∧ I = aO r.p (recs eW r.es) :: I0) (r.es.length) _ _ _ aP aD aC (⟨0, by omega, rfl, fun j hj => by omega, rfl, rfl, rfl⟩) ?_
 rintro k G M I ⟨i, hi, rfl, hg, rfl, rfl, rfl⟩
 repeat' (first | refine aK ?_ | refine aM rfl (fun h => ?_) (fun h => ?_) | refine aN rfl rfl (fun h => ?_) (fun h => ?_) | fail)
 ·(refine aA rfl (aIT (r := gt r.es (i : Int)) (hs.2 _ (dF (by omega))) (Hv.wlel (List.Mem.tail _ hw) (by omega))) rfl rfl ?_; rintro _ _ _ ⟨rfl, rfl, rfl⟩; refine ⟨okF, ?_⟩)
  repeat' (first | refine aK ?_ | refine aM rfl (fun h => ?_) (fun h => ?_) | refine aN rfl rfl (fun h => ?_) (fun h => ?_) | fail)
  ·refine aH (by first | exact .inl rfl | exact .inr rfl) rfl rfl _ _ aD aC (⟨rfl, rfl, congrArg Value.bool (bB (fun e => h (e _ (dF (by omega))))).symm⟩)
  ·refine aL (r.es.length - (i + 1)) _ _ _ (by first | omega | (simp only [List.length_append, List.length_cons, List.length_nil]; omega)) aP aD aC (⟨i + 1, by omega, rfl, fun j hj => ?_, rfl, rfl, rfl⟩)
   by_cases e : j = i
   ·subst e; exact Decidable.of_not_not h
   ·exact hg j (by omega)
 ·refine aH (by first | exact .inl rfl | exact .inr rfl) rfl rfl _ _ aD aC (⟨rfl, rfl, congrArg Value.bool (bJ (fun e he => ?_)).symm⟩)
  obtain ⟨j, hj, rfl⟩ := List.mem_iff_getElem.1 he
  have := hg j (by omega)
  rwa [fT hj] at this
theorem aCU {r : RW} (hs : r.sml) (hw : Hv I0 (isW r)) : CD Tryz.prog 247 [wv r] X w0 M0 I0 (fun v M I => M0 = M ∧ I0 = I ∧ v = .bool (B (¬ r.good))) := by
 refine aZ Tryz.func247 rfl Tryz.ntmps247 rfl ?_
 refine aG ?_
 refine aJ ?_
 (refine aR rfl rfl rfl ?_; intro b; refine ⟨okF, ?_⟩)
 repeat (refine aK ?_)
 (refine aA rfl (aNA (r := r) hs hw) rfl rfl ?_; rintro _ _ _ ⟨rfl, rfl, rfl⟩; refine ⟨okF, ?_⟩)
 repeat (refine aK ?_)
 refine aH (by first | exact .inl rfl | exact .inr rfl) rfl rfl _ _ aD aC (⟨rfl, rfl, rfl⟩)
theorem vD {r : WL} (hs : r.sml) (hw : uX r ∈ I0) : CD Tryz.prog 223 [lvW r] X w0 M0 I0 (fun v M I => M0 = M ∧ I0 = I ∧ v = .bool (B r.good)) := by
 refine cZ (φ := aO r.p (recs eW r.es)) (Hv.wlsl hw) ?_
 have hl := hs.1
 refine aZ Tryz.func223 rfl Tryz.ntmps223 rfl ?_
 repeat (refine aK ?_)
 (refine aA rfl (aHH (g := 247) (fs := #[]) (cs := #[]) (fun (x : RW) => ¬ x.good) (by omega) (List.Mem.head _) (fun i hi => aCU (hs.2 _ (dF (by omega))) (Hv.wlel (List.Mem.tail _ hw) (by omega)))) rfl rfl ?_; rintro _ _ _ ⟨rfl, rfl, rfl⟩; refine ⟨okF, ?_⟩)
 repeat (refine aK ?_)
 refine aH (by first | exact .inl rfl | exact .inr rfl) rfl rfl _ _ aD aC (⟨rfl, rfl, congrArg Value.bool (gY ?_)⟩)
 exact ⟨fun e x hx => Decidable.of_not_not (fun hn => e ⟨x, hx, hn⟩), fun e ⟨x, hx, hn⟩ => hn (e x hx)⟩
end
end Go.Proofs.YtjbhdfpjnjedhaaGreat
namespace Go.Proofs.YtjbhdfpjnjedhaaGreat
open Go Go.Fx
def WM.code (m : WM) : Int := if m.ok then 0 else 1
def codeL (ms : List WM) : Int := if ∀ m ∈ ms, m.ok then 0 else 1
def bothC (a b : WM) : Int := if a.ok ∧ b.ok then (if a.rows.length = b.rows.length ∧ (gt a.rows 0).es.length = (gt b.rows 0).es.length then 0 else 4) else 1
def sqC (a : WM) : Int := if a.ok then (if a.rows.length = (gt a.rows 0).es.length then 0 else 4) else 1
section
variable {P : Program} {n : Nat} {Q : Exit → Act → World → Prop} {G : Env} {X : List Nat} {w0 : World} {M M' : List Ent} {I I' : List aY} {ops l : List Oper} {m : Fx.Mode} {ty : TypeId} {pos : String} {af : Array Edge} {g : Option (Nat × Bool)}
theorem oC {d : Nat} {t : TypeId} {x : Operand} {q : Option Addr} {len c : Nat} (hx : ev G x = some (.slice q len c)) (hg : oM ops G g = some true) (hd : Nat.ble (d + 1) n = true)
  (k : ∀ b, OkD m X w0 (.blk b [.slice q len c] t :: M) I ∧ RD P n ops Q m.nextE l ((d, .pointer (some ⟨b, 0, none⟩)) :: G) X w0 M (aO (some ⟨b, 0, none⟩) [.slice q len c] :: I)) :
  RD P n ops Q m (⟨some d, .box t x, ty, pos, af, g⟩ :: l) G X w0 M I := kP hx hg hd (fun b => ⟨(k b).1, bC .here (k b).2⟩)
end
section
variable {X : List Nat} {w0 : World} {M0 : List Ent} {I0 : List aY}
theorem aDD {m : WM} {b : Nat} {r : WL} (hR : 1 ≤ m.rows.length) (hs : r.sml) (h : Hv I0 (uX r)) (hm : wR m ∈ I0) (hb : aO (some ⟨b, 0, none⟩) [.slice m.p m.rows.length m.c] ∈ I0) :
  CD Tryz.prog 246 [lvW r, .pointer (some ⟨b, 0, none⟩)] X w0 M0 I0 (fun v M I => M0 = M ∧ I0 = I ∧ v = .bool (B (¬ (r.es.length = (gt m.rows 0).es.length ∧ r.good)))) := by
 refine cZ (φ := uX r) h ?_
 refine cZ (φ := aO m.p (recs eWL m.rows)) (Hv.wmsl (List.Mem.tail _ hm)) ?_
 by_cases he : r.es.length = (gt m.rows 0).es.length
 ·have hq : B (¬ r.good) = B (¬ (r.es.length = (gt m.rows 0).es.length ∧ r.good)) := gY (not_congr ⟨fun h => ⟨he, h⟩, fun h => h.2⟩)
  refine aX Tryz.func246 rfl Tryz.ntmps246 rfl ?_
  repeat (refine aK ?_)
  (refine aA rfl (vD (r := r) hs aB) rfl rfl ?_; rintro _ _ _ ⟨rfl, rfl, rfl⟩; refine ⟨okF, ?_⟩)
  repeat (refine aK ?_)
  refine aH (by first | exact .inl rfl | exact .inr rfl) rfl rfl _ _ aD aC (⟨rfl, rfl, congrArg Value.bool hq⟩)
 ·have hn : ¬ (r.es.length = (gt m.rows 0).es.length ∧ r.good) := fun e => he e.1
  have hq : B (¬ (r.es.length = (gt m.rows 0).es.length ∧ r.good)) = true := bJ hn
  refine aX Tryz.func246 rfl Tryz.ntmps246 rfl ?_
  repeat (refine aK ?_)
  refine aH (by first | exact .inl rfl | exact .inr rfl) rfl rfl _ _ aD aC (⟨rfl, rfl, congrArg Value.bool hq.symm⟩)
theorem WM.code_ok {m : WM} (h : m.ok) : m.code = 0 := if_pos h
theorem WM.code_no {m : WM} (h : ¬ m.ok) : m.code = 1 := if_neg h
theorem aFM {m : WM} (hs : m.sml) (hm : wR m ∈ I0) : CD Tryz.prog 219 [mvW m] X w0 M0 I0 (fun v M I => M0 = M ∧ I0 = I ∧ v = .int .i64 m.code) := by
 refine cZ (φ := aO m.p (recs eWL m.rows)) (Hv.wmsl hm) ?_
 have hl := hs.1
 by_cases hsh : 1 ≤ m.rows.length ∧ m.rows.length ≤ 64 ∧ 1 ≤ (gt m.rows 0).es.length ∧ (gt m.rows 0).es.length ≤ 64
 ·obtain ⟨s1, s2, s3, s4⟩ := hsh
  by_cases hall : ∃ r ∈ m.rows, ¬ (r.es.length = (gt m.rows 0).es.length ∧ r.good)
  ·have hno : ¬ m.ok := fun e => by obtain ⟨r, hr, hn⟩ := hall; exact hn (e.2 r hr)
   rw [WM.code_no hno]
   refine aZ Tryz.func219 rfl Tryz.ntmps219 rfl ?_
   refine aG ?_
   refine aJ ?_
   (refine oC rfl rfl rfl ?_; intro b; refine ⟨okF, ?_⟩)
   repeat (refine aK ?_)
   (refine aA rfl (aHA (g := 246) (fs := #[]) (cs := #[.pointer (some ⟨b, 0, none⟩)]) (fun (r : WL) => ¬ (r.es.length = (gt m.rows 0).es.length ∧ r.good)) (by omega) aB (fun i hi => aDD (m := m) (b := b) s1 (hs.2 _ (dF (by omega))) (Hv.wmrow aB (by omega)) aB aB)) rfl rfl ?_; rintro _ _ _ ⟨rfl, rfl, rfl⟩; refine ⟨okF, ?_⟩)
   rw [bJ hall]
   repeat (refine aK ?_)
   refine aH (by first | exact .inl rfl | exact .inr rfl) rfl rfl _ _ aD aC (⟨rfl, rfl, rfl⟩)
  ·have hok : m.ok := ⟨⟨s1, s2, s3, s4⟩, fun r hr => Decidable.of_not_not (fun hn => hall ⟨r, hr, hn⟩)⟩
   rw [WM.code_ok hok]
   refine aZ Tryz.func219 rfl Tryz.ntmps219 rfl ?_
   refine aG ?_
   refine aJ ?_
   (refine oC rfl rfl rfl ?_; intro b; refine ⟨okF, ?_⟩)
   repeat (refine aK ?_)
   (refine aA rfl (aHA (g := 246) (fs := #[]) (cs := #[.pointer (some ⟨b, 0, none⟩)]) (fun (r : WL) => ¬ (r.es.length = (gt m.rows 0).es.length ∧ r.good)) (by omega) aB (fun i hi => aDD (m := m) (b := b) s1 (hs.2 _ (dF (by omega))) (Hv.wmrow aB (by omega)) aB aB)) rfl rfl ?_; rintro _ _ _ ⟨rfl, rfl, rfl⟩; refine ⟨okF, ?_⟩)
   rw [bB hall]
   repeat (refine aK ?_)
   refine aH (by first | exact .inl rfl | exact .inr rfl) rfl rfl _ _ aD aC (⟨rfl, rfl, rfl⟩)
 ·have hno : ¬ m.ok := fun e => hsh e.1
  rw [WM.code_no hno]
  refine aZ Tryz.func219 rfl Tryz.ntmps219 rfl ?_
  refine aG ?_
  refine aJ ?_
  (refine oC rfl rfl rfl ?_; intro b; refine ⟨okF, ?_⟩)
  by_cases c1 : 1 ≤ m.rows.length
  ·by_cases c2 : m.rows.length ≤ 64
   ·by_cases c3 : 1 ≤ (gt m.rows 0).es.length
    ·repeat (refine aK ?_)
     refine aH (by first | exact .inl rfl | exact .inr rfl) rfl rfl _ _ aD aC (⟨rfl, rfl, rfl⟩)
    ·repeat (refine aK ?_)
     refine aH (by first | exact .inl rfl | exact .inr rfl) rfl rfl _ _ aD aC (⟨rfl, rfl, rfl⟩)
   ·repeat (refine aK ?_)
    refine aH (by first | exact .inl rfl | exact .inr rfl) rfl rfl _ _ aD aC (⟨rfl, rfl, rfl⟩)
  ·repeat (refine aK ?_)
   refine aH (by first | exact .inl rfl | exact .inr rfl) rfl rfl _ _ aD aC (⟨rfl, rfl, rfl⟩)
theorem aLP {m : WM} (hs : m.sml) (hm : wR m ∈ I0) : CD Tryz.prog 71 [mvW m] X w0 M0 I0 (fun v M I => M0 = M ∧ I0 = I ∧ v = .int .i64 m.code) := by
 have hl := hs.1
 by_cases hsh : 1 ≤ m.rows.length ∧ m.rows.length ≤ 64 ∧ 1 ≤ (gt m.rows 0).es.length ∧ (gt m.rows 0).es.length ≤ 64
 ·obtain ⟨s1, s2, s3, s4⟩ := hsh
  refine cZ (φ := aO m.p (recs eWL m.rows)) (Hv.wmsl hm) ?_
  refine aZ Tryz.func71 rfl Tryz.ntmps71 rfl ?_
  repeat (refine aK ?_)
  refine aT [0] rfl (fun k G M I => ∃ i : Nat, i ≤ m.rows.length ∧ k = m.rows.length - i ∧ (∀ j : Nat, j < i → (gt m.rows j).es.length = (gt m.rows 0).es.length ∧ (gt m.rows j).good) ∧ G = [(3, .int .i64 i)] ∧ M0 = M ∧ I = aO m.p (recs eWL m.rows) :: I0) (m.rows.length) _ _ _ aP aD aC (⟨0, by omega, rfl, fun j hj => by omega, rfl, rfl, rfl⟩) ?_
  rintro k G M I ⟨i, hi, rfl, hg, rfl, rfl, rfl⟩
  by_cases hi2 : i < m.rows.length
  ·refine iB (φ := uX (gt m.rows (i : Int))) (Hv.wmrow (List.Mem.tail _ hm) (by omega)) ?_
   have hC := fun M0 I0 h => vB (X := X) (w0 := w0) (M0 := M0) (I0 := I0) (r := gt m.rows (i : Int)) (hs.2 _ (dF (by omega))) h
   by_cases hlen : (gt m.rows (i : Int)).es.length = (gt m.rows 0).es.length
   ·by_cases hok : (gt m.rows (i : Int)).good
    ·rw [bJ hok] at hC
     repeat (refine aK ?_)
     (repeat refine aG ?_); refine dS [0, 1, 2, 3, 4, 5, 6, 7, 8, 9, 10, 11, 12, 13, 14, 15, 16, 17] [1, 1, 1, 1, 1, 1, 1, 1, 1, 1, 0, 1, 1, 1, 0, 0, 0, 0] mixed (by kernel_rfl) ?_
     repeat (refine aK ?_)
     (refine aA rfl (hC _ _ aB) rfl rfl ?_; rintro _ _ _ ⟨rfl, rfl, rfl⟩; refine ⟨okF, ?_⟩)
     repeat (refine aK ?_)
     refine aL (m.rows.length - (i + 1)) _ _ _ (by first | omega | (simp only [List.length_append, List.length_cons, List.length_nil]; omega)) aP aD aC (⟨i + 1, by omega, rfl, fun j hj => ?_, rfl, rfl, rfl⟩)
     by_cases e : j = i
     ·subst e; exact ⟨hlen, hok⟩
     ·exact hg j (by omega)
    ·rw [bB hok] at hC
     repeat (refine aK ?_)
     (repeat refine aG ?_); refine dS [0, 1, 2, 3, 4, 5, 6, 7, 8, 9, 10, 11, 12, 13, 14, 15, 16, 17] [1, 1, 1, 1, 1, 1, 1, 1, 1, 1, 0, 1, 1, 1, 0, 0, 0, 0] mixed (by kernel_rfl) ?_
     repeat (refine aK ?_)
     (refine aA rfl (hC _ _ aB) rfl rfl ?_; rintro _ _ _ ⟨rfl, rfl, rfl⟩; refine ⟨okF, ?_⟩)
     repeat (refine aK ?_)
     refine aH (by first | exact .inl rfl | exact .inr rfl) rfl rfl _ _ aD aC (⟨rfl, rfl, congrArg (Value.int .i64) (WM.code_no (fun e => hok (e.2 _ (dF (by omega))).2)).symm⟩)
   ·repeat (refine aK ?_)
    (repeat refine aG ?_); refine dS [0, 1, 2, 3, 4, 5, 6, 7, 8, 9, 10, 11, 12, 13, 14, 15, 16, 17] [1, 1, 1, 1, 1, 1, 1, 1, 1, 1, 0, 1, 1, 1, 0, 0, 0, 0] mixed (by kernel_rfl) ?_
    repeat (refine aK ?_)
    refine aH (by first | exact .inl rfl | exact .inr rfl) rfl rfl _ _ aD aC (⟨rfl, rfl, congrArg (Value.int .i64) (WM.code_no (fun e => hlen (e.2 _ (dF (by omega))).1)).symm⟩)
  ·repeat (refine aK ?_)
   refine aH (by first | exact .inl rfl | exact .inr rfl) rfl rfl _ _ aD aC (⟨rfl, rfl, congrArg (Value.int .i64) (WM.code_ok ⟨⟨s1, s2, s3, s4⟩, fun r hr => ?_⟩).symm⟩)
   obtain ⟨j, hj, rfl⟩ := List.mem_iff_getElem.1 hr
   have := hg j (by omega)
   rwa [fT hj] at this
 ·have hno : ¬ m.ok := fun e => hsh e.1
  rw [WM.code_no hno]
  refine cZ (φ := aO m.p (recs eWL m.rows)) (Hv.wmsl hm) ?_
  refine aZ Tryz.func71 rfl Tryz.ntmps71 rfl ?_
  by_cases c1 : 1 ≤ m.rows.length
  ·by_cases c2 : m.rows.length ≤ 64
   ·by_cases c3 : 1 ≤ (gt m.rows 0).es.length
    ·repeat (refine aK ?_)
     refine aH (by first | exact .inl rfl | exact .inr rfl) rfl rfl _ _ aD aC (⟨rfl, rfl, rfl⟩)
    ·repeat (refine aK ?_)
     refine aH (by first | exact .inl rfl | exact .inr rfl) rfl rfl _ _ aD aC (⟨rfl, rfl, rfl⟩)
   ·repeat (refine aK ?_)
    refine aH (by first | exact .inl rfl | exact .inr rfl) rfl rfl _ _ aD aC (⟨rfl, rfl, rfl⟩)
  ·repeat (refine aK ?_)
   refine aH (by first | exact .inl rfl | exact .inr rfl) rfl rfl _ _ aD aC (⟨rfl, rfl, rfl⟩)
theorem aDQ {a : WM} (sa : a.sml) (ha : wR a ∈ I0) : CD Tryz.prog 161 [mvW a] X w0 M0 I0 (fun v M I => M0 = M ∧ I0 = I ∧ v = .int .i64 (sqC a)) := by
 have hC := fun M0 I0 h1 => aFM (X := X) (w0 := w0) (M0 := M0) (I0 := I0) (m := a) sa h1
 unfold sqC
 by_cases hok : a.ok
 ·rw [WM.code_ok hok] at hC
  rw [if_pos hok]
  obtain ⟨a1, a2, a3, a4⟩ := hok.1
  refine cZ (φ := aO a.p (recs eWL a.rows)) (Hv.wmsl ha) ?_
  refine aZ Tryz.func161 rfl Tryz.ntmps161 rfl ?_
  repeat (refine aK ?_)
  (refine aA rfl (hC _ _ aB) rfl rfl ?_; rintro _ _ _ ⟨rfl, rfl, rfl⟩; refine ⟨okF, ?_⟩)
  by_cases e1 : a.rows.length = (gt a.rows 0).es.length
  ·rw [if_pos e1]
   repeat (refine aK ?_)
   refine aH (by first | exact .inl rfl | exact .inr rfl) rfl rfl _ _ aD aC (⟨rfl, rfl, rfl⟩)
  ·rw [if_neg e1]
   repeat (refine aK ?_)
   refine aH (by first | exact .inl rfl | exact .inr rfl) rfl rfl _ _ aD aC (⟨rfl, rfl, rfl⟩)
 ·rw [WM.code_no hok] at hC
  rw [if_neg hok]
  refine aZ Tryz.func161 rfl Tryz.ntmps161 rfl ?_
  repeat (refine aK ?_)
  (refine aA rfl (hC _ _ aB) rfl rfl ?_; rintro _ _ _ ⟨rfl, rfl, rfl⟩; refine ⟨okF, ?_⟩)
  repeat (refine aK ?_)
  refine aH (by first | exact .inl rfl | exact .inr rfl) rfl rfl _ _ aD aC (⟨rfl, rfl, rfl⟩)
end
end Go.Proofs.YtjbhdfpjnjedhaaGreat
namespace Go.Proofs.YtjbhdfpjnjedhaaGreat
open Go Go.Fx
structure AllL (rows : List RL) (k : Nat) (X : List Nat) (w : World) : Prop where
 go : ∀ r ∈ rows, IsL r k X w
abbrev jW (rows : List RL) (k : Nat) : aY := AllL rows k
instance (rows : List RL) (k : Nat) : Fx.Good (AllL rows k) := ⟨fun X Y w w' h he hY => ⟨fun r hm => Fx.Good.go (φ := IsL _ _) X Y w w' (h.go r hm) he hY⟩⟩
theorem Hv.nilL {I : List aY} {k : Nat} : Hv I (jW [] k) := ⟨fun X w _ => ⟨fun x hx => by simp at hx⟩⟩
theorem Hv.snocL {I : List aY} {rows : List RL} {r : RL} {k : Nat} (h1 : jW rows k ∈ I) (h2 : iZ r k ∈ I) : Hv I (jW (rows ++ [r]) k) := ⟨fun X w hw => ⟨fun x hx => by
 rcases List.mem_append.1 hx with hx | hx
 ·exact (hw _ h1 : AllL rows k X w).go x hx
 ·rw [List.mem_singleton.1 hx]; exact hw _ h2⟩⟩
section
variable {X : List Nat} {w0 : World} {M : List Ent} {I : List aY}
theorem Mem.toL {w : World} {q : Option Addr} {c k : Nat} {es : List RE} {ty : TypeId} {sz : Nat} (h : Mem X w0 (.row q es.length c (recs eR es) ty sz :: M) I w) (ha : cO es k ∈ I) : Mem X w0 M (iZ ⟨q, c, es⟩ k :: I) w := by
 have ho := h.rowS List.mem_cons_self
 have hc := h.rowLe List.mem_cons_self
 have h1 := h.freezeR .here
 refine (h1.add (φ := iZ ⟨q, c, es⟩ k) ⟨(h1.sl (List.Mem.head _)), (((h1.imm _ (List.Mem.tail _ ha)).2 : AllR es k _ w)).go, ⟨hc, ho.2.imp id And.right⟩⟩).inc (.of fun φ hφ => ?_)
 rcases List.mem_cons.1 hφ with rfl | hφ
 ·exact List.Mem.head _
 ·exact List.Mem.tail _ (List.Mem.tail _ hφ)
theorem Mem.toX {w : World} {q : Option Addr} {c k : Nat} {rows : List RL} {ty : TypeId} {sz : Nat} (h : Mem X w0 (.row q rows.length c (recs eL rows) ty sz :: M) I w) (ha : jW rows k ∈ I) : Mem X w0 M (jF ⟨q, c, rows⟩ k :: I) w := by
 have ho := h.rowS List.mem_cons_self
 have hc := h.rowLe List.mem_cons_self
 have h1 := h.freezeR .here
 refine (h1.add (φ := jF ⟨q, c, rows⟩ k) ⟨(h1.sl (List.Mem.head _)), (((h1.imm _ (List.Mem.tail _ ha)).2 : AllL rows k _ w)).go, ⟨hc, ho.2.imp id And.right⟩⟩).inc (.of fun φ hφ => ?_)
 rcases List.mem_cons.1 hφ with rfl | hφ
 ·exact List.Mem.head _
 ·exact List.Mem.tail _ (List.Mem.tail _ hφ)
variable {P : Program} {n : Nat} {Q : Exit → Act → World → Prop} {G : Env}
theorem aHP {ops l : List Oper} {m : Fx.Mode} {q : Option Addr} {c k : Nat} {es : List RE} {ty : TypeId} {sz : Nat} (ha : cO es k ∈ I) (h : RD P n ops Q m l G X w0 M (iZ ⟨q, c, es⟩ k :: I)) : RD P n ops Q m l G X w0 (.row q es.length c (recs eR es) ty sz :: M) I := sW (fun _ hw => Mem.toL hw ha) h
theorem aVE {cd : Code} {q : Option Addr} {c k : Nat} {es : List RE} {ty : TypeId} {sz : Nat} (ha : cO es k ∈ I) (h : TD P n cd Q G X w0 M (iZ ⟨q, c, es⟩ k :: I)) : TD P n cd Q G X w0 (.row q es.length c (recs eR es) ty sz :: M) I := yT (fun _ hw => Mem.toL hw ha) h
theorem aIP {ex : Exit} {q : Option Addr} {c k : Nat} {es : List RE} {ty : TypeId} {sz : Nat} (ha : cO es k ∈ I) (h : ND n Q ex G X w0 M (iZ ⟨q, c, es⟩ k :: I)) : ND n Q ex G X w0 (.row q es.length c (recs eR es) ty sz :: M) I := yY (fun _ hw => Mem.toL hw ha) h
theorem aJC {ex : Exit} {q : Option Addr} {c k : Nat} {rows : List RL} {ty : TypeId} {sz : Nat} (ha : jW rows k ∈ I) (h : ND n Q ex G X w0 M (jF ⟨q, c, rows⟩ k :: I)) : ND n Q ex G X w0 (.row q rows.length c (recs eL rows) ty sz :: M) I := yY (fun _ hw => Mem.toX hw ha) h
theorem aVI {ops l : List Oper} {m : Fx.Mode} {q : Option Addr} {c k : Nat} {rows : List RL} {ty : TypeId} {sz : Nat} (ha : jW rows k ∈ I) (h : RD P n ops Q m l G X w0 M (jF ⟨q, c, rows⟩ k :: I)) : RD P n ops Q m l G X w0 (.row q rows.length c (recs eL rows) ty sz :: M) I := sW (fun _ hw => Mem.toX hw ha) h
end
theorem aQB {rows : List RL} {r : RL} : (rows ++ [r]).map RL.q = rows.map RL.q ++ [r.q] := by simp
end Go.Proofs.YtjbhdfpjnjedhaaGreat

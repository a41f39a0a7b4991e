/- Chapter 42's law: the chapter's examples. -/
import Derived.Test.YtgeagiikkeiioaaGreatZgbn
import Derived.Test.YtgeagiikkeiioaaGreatZgaw
set_option linter.unusedSimpArgs false
set_option linter.unusedVariables false
set_option maxRecDepth 100000
set_option maxHeartbeats 4000000
namespace Go.Proofs.YtgeagiikkeiioaaGreat
open Go Go.Fx
abbrev i0 : Rat := ((0 : Int) : Rat)
abbrev i1 : Rat := ((1 : Int) : Rat)
abbrev im : Rat := ((-1 : Int) : Rat)
def kA1 : Mt := [[i1], [i1], [i1]]
def kA2 : Mt := [[i1, i0], [i0, i1], [i0, i1]]
theorem aRL : aCA 3 1 kA1 = [true, true, true] := by decide +kernel
theorem aRW : aCA 3 2 kA2 = [false, true, true] := by decide +kernel
theorem aKT : vZ 3 [0, 1] = 0 := by decide
theorem aRX : ¬ und 3 1 kA1 [0, 1] := by decide +kernel
theorem aSH : prvP 3 1 kA1 0 true [i1, im, i0] := by decide +kernel
theorem aSZ : ¬ prvP 3 1 kA1 0 true [i1, i0, i0] := by decide +kernel
theorem aOL : firmP 3 1 kA1 [0, 1] [[i1, i0, im], [i0, i1, im]] := by decide +kernel
theorem nV {r : RL} {l : List Rat} (h : r.q = l) : r.es.length = l.length := by rw [← h]; simp
theorem kfit {r1 r2 r3 L P : RL} {b C : Nat} (hC : 1 ≤ C ∧ C ≤ 24) (h1 : r1.es.length = C) (h2 : r2.es.length = C) (h3 : r3.es.length = C) (hL : L.es.length = 3) (hP : P.q = [i1, i1, i1]) : LE.fit ⟨⟨some ⟨b, 0, none⟩, 3, [r1, r2, r3]⟩, L, P⟩ 3 C := by
 refine ⟨⟨⟨rfl, fun r hr => ?_⟩, by omega, by omega⟩, hC.2, hL, nV hP, fun e he => ?_⟩
 ·simp only [List.mem_cons, List.not_mem_nil, or_false] at hr
  rcases hr with rfl | rfl | rfl
  ·exact h1
  ·exact h2
  ·exact h3
 ·have : e.q ∈ P.q := List.mem_map.2 ⟨e, he, rfl⟩
  rw [hP] at this
  simp only [List.mem_cons, List.not_mem_nil, or_false, or_self] at this
  rw [this]; decide
theorem Hv.k3 {I : List bA} {b k : Nat} {r1 r2 r3 : RL} (h : aT (some ⟨b, 0, none⟩) (recs eL [r1, r2, r3]) ∈ I) (h1 : jP r1 k ∈ I) (h2 : jP r2 k ∈ I) (h3 : jP r3 k ∈ I) : Hv I (gD ⟨some ⟨b, 0, none⟩, 3, [r1, r2, r3]⟩ k) := ⟨fun X w hw => ⟨(hw _ h : SlI _ _ X w).go, fun r hr => by
 simp only [List.mem_cons, List.not_mem_nil, or_false] at hr
 rcases hr with rfl | rfl | rfl
 ·exact hw _ h1
 ·exact hw _ h2
 ·exact hw _ h3, ⟨Nat.le_refl 3, .inl (Ok.mk _ _)⟩⟩⟩
theorem Hv.k2 {I : List bA} {b k : Nat} {r1 r2 : RL} (h : aT (some ⟨b, 0, none⟩) (recs eL [r1, r2]) ∈ I) (h1 : jP r1 k ∈ I) (h2 : jP r2 k ∈ I) : Hv I (gD ⟨some ⟨b, 0, none⟩, 2, [r1, r2]⟩ k) := ⟨fun X w hw => ⟨(hw _ h : SlI _ _ X w).go, fun r hr => by
 simp only [List.mem_cons, List.not_mem_nil, or_false] at hr
 rcases hr with rfl | rfl
 ·exact hw _ h1
 ·exact hw _ h2, ⟨Nat.le_refl 2, .inl (Ok.mk _ _)⟩⟩⟩
theorem Hv.le3 {I : List bA} {a : MX} {l p : RL} {k : Nat} (h1 : gD a k ∈ I) (h2 : jP l k ∈ I) (h3 : jP p k ∈ I) : Hv I (mW ⟨a, l, p⟩ k) := ⟨fun X w hw => ⟨hw _ h1, hw _ h2, hw _ h3⟩⟩
theorem aHC {α : Type} [Inhabited α] {a b : List α} (hl : a.length = b.length) (h : ∀ j : Nat, j < a.length → gt a j = gt b j) : a = b := by
 apply List.ext_getElem hl
 intro j h1 h2
 have := h j h1
 rwa [jC h1, jC h2] at this
section
variable {X : List Nat} {w0 : World} {M0 : List Ent} {I0 : List bA}
theorem aST {p q : Option Addr} {a b : List Bool} {c c' : Nat} (hn : (a.length : Int) ≤ 9223372036854775807) (ha : aT p (recs eB a) ∈ I0) (hb : aT q (recs eB b) ∈ I0) :
  CD Tryz.prog 91 [.slice p a.length c, .slice q b.length c'] X w0 M0 I0 (fun v M I => M0 = M ∧ I0 = I ∧ v = .bool (B (a = b))) := by
 refine bD Tryz.func91 rfl Tryz.ntmps91 rfl ?_
 by_cases hl : a.length = b.length
 rotate_left
 ·repeat (refine aK ?_)
  refine aH (by first | exact .inl rfl | exact .inr rfl) rfl rfl _ _ aC aD (⟨rfl, rfl, congrArg Value.bool (aY (fun h => by subst h; omega)).symm⟩)
 repeat (refine aK ?_)
 refine aS [0, 1, 12] rfl (fun k G M I => ∃ i : Nat, i ≤ a.length ∧ k = a.length - i ∧ (∀ j : Nat, j < i → gt a j = gt b j) ∧ G = [(13, .int .i64 i)] ∧ M0 = M ∧ I0 = I) (a.length) _ _ _ aO aC aD (⟨0, by omega, rfl, fun j hj => by omega, rfl, rfl, rfl⟩) ?_
 rintro k G M I ⟨i, hi, rfl, hs, rfl, rfl, rfl⟩
 by_cases hin : i < a.length
 ·by_cases he : gt a i = gt b i
  ·have hb : (!(gt a (i : Int) == gt b (i : Int))) = false := by simp [he]
   repeat (refine aK ?_)
   (repeat refine aJ ?_); refine bK 0 [0, 1, 2, 3, 4, 5, 6, 7, 8] [0, 0, 0, 0, 0, 0, 0, 0, 0] mixed (by kernel_rfl) ?_
   repeat (refine aK ?_)
   rw [hb]
   repeat (refine aK ?_)
   refine aM (a.length - (i + 1)) _ _ _ (by first | omega | (simp only [List.length_append, List.length_cons, List.length_nil]; omega)) aO aC aD (⟨i + 1, by omega, rfl, fun j hj => ?_, rfl, rfl, rfl⟩)
   by_cases e : j = i
   ·subst e; exact he
   ·exact hs j (by omega)
  ·have hb : (!(gt a (i : Int) == gt b (i : Int))) = true := by simpa using he
   repeat (refine aK ?_)
   (repeat refine aJ ?_); refine bK 0 [0, 1, 2, 3, 4, 5, 6, 7, 8] [0, 0, 0, 0, 0, 0, 0, 0, 0] mixed (by kernel_rfl) ?_
   repeat (refine aK ?_)
   rw [hb]
   repeat (refine aK ?_)
   refine aH (by first | exact .inl rfl | exact .inr rfl) rfl rfl _ _ aC aD (⟨rfl, rfl, congrArg Value.bool (aY (fun h => he (by rw [h]))).symm⟩)
 ·repeat (refine aK ?_)
  refine aH (by first | exact .inl rfl | exact .inr rfl) rfl rfl _ _ aC aD (⟨rfl, rfl, congrArg Value.bool (bR (aHC (by omega) (fun j hj => hs j (by omega)))).symm⟩)
theorem aNG {q : Option Addr} {xs : List Int} {c : Nat} (hl : xs.length ≤ 100) (hx : ∀ x ∈ xs, x.natAbs ≤ 1) (hq : aT q (recs eZ xs) ∈ I0) : CD Tryz.prog 90 [.slice q xs.length c] X w0 M0 I0 (LQ (xs.map (fun x : Int => (x : Rat))) 1 M0 I0) := by
 refine bE Tryz.func90 rfl Tryz.ntmps90 rfl ?_
 repeat (refine aK ?_)
 refine mI 42 4 ?_
 refine bL (φ := cK [] 1) Hv.nilR ?_
 refine aS [6, 7] rfl (fun k G M I => ∃ (t : Nat) (es : List RE) (qo : Option Addr) (co : Nat), t ≤ xs.length ∧ k = xs.length - t ∧ es.length = t ∧ qs es = (xs.take t).map (fun x : Int => (x : Rat)) ∧ G = [(3, .slice qo es.length co), (8, .int .i64 t)] ∧ M = .row qo es.length co (recs eR es) 42 4 :: M0 ∧ I = cK es 1 :: I0) (xs.length) _ _ _ aO aC aD (⟨0, [], none, 0, by omega, rfl, rfl, rfl, rfl, rfl, rfl⟩) ?_
 rintro kk G M I ⟨t, es, qo, co, ht, rfl, hel, heq, rfl, rfl, rfl⟩
 by_cases htn : t < xs.length
 ·have hxt := kQ hx htn
  have hW := fun M0 I0 => vV (X := X) (w0 := w0) (M0 := M0) (I0 := I0) (x := gt xs (t : Int)) (by omega) (k := 1) (by omega)
  repeat (refine aK ?_)
  (refine aA rfl (hW _ _) rfl rfl ?_; rintro _ _ _ ⟨rfl, e, rfl, he, rfl⟩; refine ⟨okF, ?_⟩)
  (refine aL (cs := recs eR [e]) ([rv e]) rfl rfl (by intro v hv; repeat (first | exact absurd hv (List.not_mem_nil) | (rcases List.mem_cons.1 hv with rfl | hv; · rfl))) (by omega) rfl rfl rfl ?_; intro b; refine ⟨okF, ?_⟩)
  (refine aX (ys := [e]) 1 rfl rfl rfl ?_ (by decide) rfl (by omega) (by omega) rfl rfl ?_; (· first | exact Src.blk aB | exact Src.row aB | exact Src.imm aB (by first | assumption | exact .inl (Ok.mk _ _))); intro q2 c2; refine ⟨okF, ?_⟩)
  repeat (refine aK ?_)
  refine fM (φ := cK (es ++ [e]) 1) (Hv.snoc aB aB) ?_
  refine aM (xs.length - (t + 1)) _ _ _ (by first | omega | (simp only [List.length_append, List.length_cons, List.length_nil]; omega)) aO aC aD (⟨t + 1, es ++ [e], q2, c2, by omega, rfl, by simp; omega, ?_, rfl, rfl, rfl⟩)
  rw [List.take_add_one, List.map_append, ← heq, List.getElem?_eq_getElem htn]
  rw [dY htn] at he
  simp [qs, he]
 ·obtain rfl : t = xs.length := by omega
  repeat (refine aK ?_)
  refine yP (k := 1) aB ?_
  refine aH (by first | exact .inl rfl | exact .inr rfl) rfl rfl _ _ aC aD (⟨rfl, ⟨qo, co, es⟩, rfl, by show qs es = _; rw [heq, List.take_length], rfl⟩)
theorem aBA : CD Tryz.prog 37 [] X w0 M0 I0 (fun v M I => M0 = M ∧ I0 = I ∧ v = .bool true) := by
 have hR := fun (xs : List Int) (hh : xs.length ≤ 100 ∧ ∀ x ∈ xs, x.natAbs ≤ 1) (b c : Nat) M0 I0 h => aNG (X := X) (w0 := w0) (M0 := M0) (I0 := I0) (q := some ⟨b, 0, none⟩) (xs := xs) (c := c) hh.1 hh.2 h
 have hE : ∀ (a : List Bool) (p : Option Addr) (c b : Nat) (_ : (a.length : Int) ≤ 9223372036854775807) (M0 : List Ent) (I0 : List bA) (_ : aT p (recs eB a) ∈ I0) (_ : aT (some ⟨b, 0, none⟩) (recs eB a) ∈ I0), CD Tryz.prog 91 [.slice p a.length c, .slice (some ⟨b, 0, none⟩) a.length a.length] X w0 M0 I0 (fun v M I => M0 = M ∧ I0 = I ∧ v = .bool true) := fun a p c b hn M0 I0 h1 h2 => by
  have := aST (X := X) (w0 := w0) (M0 := M0) (I0 := I0) (p := p) (q := some ⟨b, 0, none⟩) (a := a) (b := a) (c := c) (c' := a.length) hn h1 h2
  rwa [bR rfl] at this
 refine aRF Tryz.func37 rfl Tryz.ntmps37 rfl ?_
 repeat (refine aK ?_)
 (refine aL (cs := recs eZ [1]) ([.int .i64 1]) rfl rfl (by intro v hv; repeat (first | exact absurd hv (List.not_mem_nil) | (rcases List.mem_cons.1 hv with rfl | hv; · rfl))) (by omega) rfl rfl rfl ?_; intro b1; refine ⟨okF, ?_⟩)
 refine aF .here ?_
 (refine aA rfl (hR [1] (by decide) b1 1 _ _ aB) rfl rfl ?_; rintro _ _ _ ⟨rfl, r1, rfl, hr1, rfl⟩; refine ⟨okF, ?_⟩)
 (refine aL (cs := recs eZ [1]) ([.int .i64 1]) rfl rfl (by intro v hv; repeat (first | exact absurd hv (List.not_mem_nil) | (rcases List.mem_cons.1 hv with rfl | hv; · rfl))) (by omega) rfl rfl rfl ?_; intro b2; refine ⟨okF, ?_⟩)
 refine aF .here ?_
 (refine aA rfl (hR [1] (by decide) b2 1 _ _ aB) rfl rfl ?_; rintro _ _ _ ⟨rfl, r2, rfl, hr2, rfl⟩; refine ⟨okF, ?_⟩)
 (refine aL (cs := recs eZ [1]) ([.int .i64 1]) rfl rfl (by intro v hv; repeat (first | exact absurd hv (List.not_mem_nil) | (rcases List.mem_cons.1 hv with rfl | hv; · rfl))) (by omega) rfl rfl rfl ?_; intro b3; refine ⟨okF, ?_⟩)
 refine aF .here ?_
 (refine aA rfl (hR [1] (by decide) b3 1 _ _ aB) rfl rfl ?_; rintro _ _ _ ⟨rfl, r3, rfl, hr3, rfl⟩; refine ⟨okF, ?_⟩)
 (refine aL (cs := recs eL [r1, r2, r3]) ([lv r1, lv r2, lv r3]) rfl rfl (by intro v hv; repeat (first | exact absurd hv (List.not_mem_nil) | (rcases List.mem_cons.1 hv with rfl | hv; · rfl))) (by omega) rfl rfl rfl ?_; intro b4; refine ⟨okF, ?_⟩)
 refine aF .here ?_
 (refine aL (cs := recs eZ [0, 0, 0]) ([.int .i64 0, .int .i64 0, .int .i64 0]) rfl rfl (by intro v hv; repeat (first | exact absurd hv (List.not_mem_nil) | (rcases List.mem_cons.1 hv with rfl | hv; · rfl))) (by omega) rfl rfl rfl ?_; intro b5; refine ⟨okF, ?_⟩)
 refine aF .here ?_
 (refine aA rfl (hR [0, 0, 0] (by decide) b5 3 _ _ aB) rfl rfl ?_; rintro _ _ _ ⟨rfl, r4, rfl, hr4, rfl⟩; refine ⟨okF, ?_⟩)
 (refine aL (cs := recs eZ [1, 1, 1]) ([.int .i64 1, .int .i64 1, .int .i64 1]) rfl rfl (by intro v hv; repeat (first | exact absurd hv (List.not_mem_nil) | (rcases List.mem_cons.1 hv with rfl | hv; · rfl))) (by omega) rfl rfl rfl ?_; intro b6; refine ⟨okF, ?_⟩)
 refine aF .here ?_
 (refine aA rfl (hR [1, 1, 1] (by decide) b6 3 _ _ aB) rfl rfl ?_; rintro _ _ _ ⟨rfl, r5, rfl, hr5, rfl⟩; refine ⟨okF, ?_⟩)
 refine iA (φ := gD ⟨some ⟨b4, 0, none⟩, 3, [r1, r2, r3]⟩ 1) (Hv.k3 aB aB aB aB) ?_
 refine iA (φ := mW ⟨⟨some ⟨b4, 0, none⟩, 3, [r1, r2, r3]⟩, r4, r5⟩ 1) (Hv.le3 aB aB aB) ?_
 obtain ⟨m1, hm1⟩ : ∃ m1 : LE, m1 = ⟨⟨some ⟨b4, 0, none⟩, 3, [r1, r2, r3]⟩, r4, r5⟩ := ⟨_, rfl⟩
 have f1 : m1.fit 3 1 := by rw [hm1]; exact kfit (by omega) (nV hr1) (nV hr2) (nV hr3) (nV hr4) hr5
 have q1 : m1.a.q = kA1 := by rw [hm1]; show [r1.q, r2.q, r3.q] = _; rw [hr1, hr2, hr3]; rfl
 (refine aG rfl (fun _ => lV (vals := [mv ⟨some ⟨b4, 0, none⟩, 3, [r1, r2, r3]⟩, lv r4, lv r5]) (cells := [mv ⟨some ⟨b4, 0, none⟩, 3, [r1, r2, r3]⟩, lv r4, lv r5]) rfl ?hpl rfl ?hz) rfl rfl ?_; (case hpl => repeat (first | exact True.intro | refine ⟨rfl, ?_⟩)); (case hz => rfl))
 (refine aN rfl rfl ?_; intro d1; refine ⟨okF, ?_⟩)
 repeat (refine aK ?_)
 refine aF .here ?_
 rw [show ([mv ⟨some ⟨b4, 0, none⟩, 3, [r1, r2, r3]⟩, lv r4, lv r5] : List Value) = [mv m1.a, lv m1.l, lv m1.p] by rw [hm1], ← hm1]
 refine aPF (M' := M0) (I' := aT (some ⟨d1, 0, none⟩) [mv m1.a, lv m1.l, lv m1.p] :: mW m1 1 :: I0) aC aD ?_
 repeat (refine aK ?_)
 (refine aL (cs := recs eZ [1, 0]) ([.int .i64 1, .int .i64 0]) rfl rfl (by intro v hv; repeat (first | exact absurd hv (List.not_mem_nil) | (rcases List.mem_cons.1 hv with rfl | hv; · rfl))) (by omega) rfl rfl rfl ?_; intro b1; refine ⟨okF, ?_⟩)
 refine aF .here ?_
 (refine aA rfl (hR [1, 0] (by decide) b1 2 _ _ aB) rfl rfl ?_; rintro _ _ _ ⟨rfl, r1, rfl, hr1, rfl⟩; refine ⟨okF, ?_⟩)
 (refine aL (cs := recs eZ [0, 1]) ([.int .i64 0, .int .i64 1]) rfl rfl (by intro v hv; repeat (first | exact absurd hv (List.not_mem_nil) | (rcases List.mem_cons.1 hv with rfl | hv; · rfl))) (by omega) rfl rfl rfl ?_; intro b2; refine ⟨okF, ?_⟩)
 refine aF .here ?_
 (refine aA rfl (hR [0, 1] (by decide) b2 2 _ _ aB) rfl rfl ?_; rintro _ _ _ ⟨rfl, r2, rfl, hr2, rfl⟩; refine ⟨okF, ?_⟩)
 (refine aL (cs := recs eZ [0, 1]) ([.int .i64 0, .int .i64 1]) rfl rfl (by intro v hv; repeat (first | exact absurd hv (List.not_mem_nil) | (rcases List.mem_cons.1 hv with rfl | hv; · rfl))) (by omega) rfl rfl rfl ?_; intro b3; refine ⟨okF, ?_⟩)
 refine aF .here ?_
 (refine aA rfl (hR [0, 1] (by decide) b3 2 _ _ aB) rfl rfl ?_; rintro _ _ _ ⟨rfl, r3, rfl, hr3, rfl⟩; refine ⟨okF, ?_⟩)
 (refine aL (cs := recs eL [r1, r2, r3]) ([lv r1, lv r2, lv r3]) rfl rfl (by intro v hv; repeat (first | exact absurd hv (List.not_mem_nil) | (rcases List.mem_cons.1 hv with rfl | hv; · rfl))) (by omega) rfl rfl rfl ?_; intro b4; refine ⟨okF, ?_⟩)
 refine aF .here ?_
 (refine aL (cs := recs eZ [0, 0, 0]) ([.int .i64 0, .int .i64 0, .int .i64 0]) rfl rfl (by intro v hv; repeat (first | exact absurd hv (List.not_mem_nil) | (rcases List.mem_cons.1 hv with rfl | hv; · rfl))) (by omega) rfl rfl rfl ?_; intro b5; refine ⟨okF, ?_⟩)
 refine aF .here ?_
 (refine aA rfl (hR [0, 0, 0] (by decide) b5 3 _ _ aB) rfl rfl ?_; rintro _ _ _ ⟨rfl, r4, rfl, hr4, rfl⟩; refine ⟨okF, ?_⟩)
 (refine aL (cs := recs eZ [1, 1, 1]) ([.int .i64 1, .int .i64 1, .int .i64 1]) rfl rfl (by intro v hv; repeat (first | exact absurd hv (List.not_mem_nil) | (rcases List.mem_cons.1 hv with rfl | hv; · rfl))) (by omega) rfl rfl rfl ?_; intro b6; refine ⟨okF, ?_⟩)
 refine aF .here ?_
 (refine aA rfl (hR [1, 1, 1] (by decide) b6 3 _ _ aB) rfl rfl ?_; rintro _ _ _ ⟨rfl, r5, rfl, hr5, rfl⟩; refine ⟨okF, ?_⟩)
 refine iA (φ := gD ⟨some ⟨b4, 0, none⟩, 3, [r1, r2, r3]⟩ 1) (Hv.k3 aB aB aB aB) ?_
 refine iA (φ := mW ⟨⟨some ⟨b4, 0, none⟩, 3, [r1, r2, r3]⟩, r4, r5⟩ 1) (Hv.le3 aB aB aB) ?_
 obtain ⟨m2, hm2⟩ : ∃ m2 : LE, m2 = ⟨⟨some ⟨b4, 0, none⟩, 3, [r1, r2, r3]⟩, r4, r5⟩ := ⟨_, rfl⟩
 have f2 : m2.fit 3 2 := by rw [hm2]; exact kfit (by omega) (nV hr1) (nV hr2) (nV hr3) (nV hr4) hr5
 have q2 : m2.a.q = kA2 := by rw [hm2]; show [r1.q, r2.q, r3.q] = _; rw [hr1, hr2, hr3]; rfl
 (refine aG rfl (fun _ => lV (vals := [mv ⟨some ⟨b4, 0, none⟩, 3, [r1, r2, r3]⟩, lv r4, lv r5]) (cells := [mv ⟨some ⟨b4, 0, none⟩, 3, [r1, r2, r3]⟩, lv r4, lv r5]) rfl ?hpl rfl ?hz) rfl rfl ?_; (case hpl => repeat (first | exact True.intro | refine ⟨rfl, ?_⟩)); (case hz => rfl))
 (refine aN rfl rfl ?_; intro d2; refine ⟨okF, ?_⟩)
 repeat (refine aK ?_)
 refine aF .here ?_
 rw [show ([mv ⟨some ⟨b4, 0, none⟩, 3, [r1, r2, r3]⟩, lv r4, lv r5] : List Value) = [mv m2.a, lv m2.l, lv m2.p] by rw [hm2], ← hm2]
 refine aPF (M' := M0) (I' := aT (some ⟨d2, 0, none⟩) [mv m2.a, lv m2.l, lv m2.p] :: mW m2 1 :: aT (some ⟨d1, 0, none⟩) [mv m1.a, lv m1.l, lv m1.p] :: mW m1 1 :: I0) aC aD ?_
 have hC1 := fun M0 I0 h => qP (X := X) (w0 := w0) (M0 := M0) (I0 := I0) (m := m1) (k := 1) (by decide) f1 h
 have hC2 := fun M0 I0 h => qP (X := X) (w0 := w0) (M0 := M0) (I0 := I0) (m := m2) (k := 1) (by decide) f2 h
 rw [q1, aRL] at hC1
 rw [q2, aRW] at hC2
 have hU := fun (b : Nat) M0 I0 h1 h2 => aOU (X := X) (w0 := w0) (M0 := M0) (I0 := I0) (m := m1) (u := 1) (K := kb 1 1) (set := [0, 1]) (q := some ⟨b, 0, none⟩) (c := 2) rfl (by decide) f1 h1 (by decide) h2 aKT
 rw [q1] at hU
 repeat (refine aK ?_)
 (refine aA rfl (hC1 _ _ aB) rfl rfl ?_; rintro _ _ _ ⟨rfl, pa, ca, rfl, rfl⟩; refine ⟨okF, ?_⟩)
 repeat (refine aK ?_)
 (refine aA rfl (hC2 _ _ aB) rfl rfl ?_; rintro _ _ _ ⟨rfl, pb, cb, rfl, rfl⟩; refine ⟨okF, ?_⟩)
 repeat (refine aK ?_)
 (refine aL (cs := recs eZ [0, 1]) ([.int .i64 0, .int .i64 1]) rfl rfl (by intro v hv; repeat (first | exact absurd hv (List.not_mem_nil) | (rcases List.mem_cons.1 hv with rfl | hv; · rfl))) (by omega) rfl rfl rfl ?_; intro b1; refine ⟨okF, ?_⟩)
 refine aF .here ?_
 (refine aA rfl (hU b1 _ _ aB aB) rfl rfl ?_; rintro _ _ _ ⟨rfl, x, is, rfl, rfl, his, _, _⟩; refine ⟨okF, ?_⟩)
 rw [aY aRX] at his
 subst his
 repeat (refine aK ?_)
 have hP := fun (r : RL) (h : r.q = [i1, im, i0]) M0 I0 h1 h2 => aDU (X := X) (w0 := w0) (M0 := M0) (I0 := I0) (m := m1) (k := 1) (n := 1) (i := 0) (y := r) (by decide) (by decide) (by decide) f1 h1 (by rw [nV h]; decide) h2
 have hQ := fun (r : RL) (h : r.q = [i1, i0, i0]) M0 I0 h1 h2 => aDU (X := X) (w0 := w0) (M0 := M0) (I0 := I0) (m := m1) (k := 1) (n := 1) (i := 0) (y := r) (by decide) (by decide) (by decide) f1 h1 (by rw [nV h]; decide) h2
 have hP' := fun (r : RL) (h : r.q = [i1, im, i0]) M0 I0 h1 h2 => by
  have := hP r h M0 I0 h1 h2
  rw [q1, h, if_pos aSH] at this; exact this
 have hQ' := fun (r : RL) (h : r.q = [i1, i0, i0]) M0 I0 h1 h2 => by
  have := hQ r h M0 I0 h1 h2
  rw [q1, h, if_neg aSZ] at this; exact this
 have hFm := fun (b b' : Nat) (r s : RL) (hr : r.q = [i1, i0, im]) (hs : s.q = [i0, i1, im]) M0 I0 h1 h2 h3 h4 h5 => by
  have := aAP (Hv.k2 (k := 1) h3 h4 h5) (aTF (X := X) (w0 := w0) (M0 := M0) (I0 := gD ⟨some ⟨b', 0, none⟩, 2, [r, s]⟩ 1 :: I0) (m := m1) (u := 1) (n := 1) (set := [0, 1]) (q := some ⟨b, 0, none⟩) (c := 2) (Y := ⟨some ⟨b', 0, none⟩, 2, [r, s]⟩) (by decide) (by decide) f1 (List.Mem.tail _ h1) (by decide) (List.Mem.tail _ h2) (List.Mem.head _) ⟨by show 2 ≤ 1000; decide, fun x hx => by
   simp only [List.mem_cons, List.not_mem_nil, or_false] at hx
   rcases hx with rfl | rfl
   ·rw [nV hr]; decide
   ·rw [nV hs]; decide⟩)
  rw [if_pos aKT, if_neg (show ¬ ([0, 1] : List Int).length = 0 by decide), q1, show (⟨some ⟨b', 0, none⟩, 2, [r, s]⟩ : MX).q = [[i1, i0, im], [i0, i1, im]] from by show [r.q, s.q] = _; rw [hr, hs], if_pos aOL] at this
  exact this
 clear hP hQ hU hC1 hC2
 refine xM (fun G M I => G = [(0, .bool (B ((0 : Int) = 0)))] ∧ M0 = M ∧ I0 = I) ?_ ?_
 ·((repeat refine aJ ?_); refine aEG (M0) (aT pb (recs eB [false, true, true]) :: aT pa (recs eB [true, true, true]) :: aT (some ⟨d1, 0, none⟩) [mv m1.a, lv m1.l, lv m1.p] :: mW m1 1 :: I0) mixed ?_)
  refine vU (fuel := 10) (listed' := #[true, true, true, true, true, true, true, true, true, true, true, true, true, true, true, true, true, true, true, true, true, true, true, true, true, true, true, true, true, true, true, true, true, true, true, true, true, true, false, false, false, false, false, false, false, false, false, false]) [0, 1, 2, 3, 4, 5, 6, 7, 8, 9, 10, 11, 12, 13, 14, 15, 16, 17, 18, 19, 20, 21, 22, 23, 24, 25, 26, 27, 28, 29, 30, 31, 32, 33, 34, 35, 36, 37] [17, 17, 17, 17, 17, 17, 15, 16, 0, 0, 15, 13, 14, 0, 0, 13, 13, 13, 13, 13, 10, 12, 0, 0, 10, 0, 10, 10, 7, 9, 0, 0, 7, 0, 7, 7, 0, 6] aC aD (by kernel_rfl) (by kernel_rfl) rfl rfl ?_
  repeat (refine aK ?_)
  ((refine aL (cs := recs eB [true, true, true]) ([.bool true, .bool true, .bool true]) rfl rfl (by intro v hv; repeat (first | exact absurd hv (List.not_mem_nil) | (rcases List.mem_cons.1 hv with rfl | hv; · rfl))) (by omega) rfl rfl rfl ?_; intro b8; refine ⟨okF, ?_⟩); refine aF .here ?_)
  repeat (refine aK ?_)
  (refine aA rfl (hE [true, true, true] pa ca b8 (by decide) _ _ aB aB) rfl rfl ?_; rintro _ _ _ ⟨rfl, rfl, rfl⟩; refine ⟨okF, ?_⟩)
  repeat (refine aK ?_)
  (refine aL (sz := 1) (cs := recs eB [false, true, true]) [.bool false, .bool true, .bool true] rfl rfl (by decide) (by decide) rfl rfl rfl ?_; intro b13; refine ⟨okF, ?_⟩; refine aF .here ?_)
  repeat (refine aK ?_)
  (refine aA rfl (hE [false, true, true] pb cb b13 (by decide) _ _ aB aB) rfl rfl ?_; rintro _ _ _ ⟨rfl, rfl, rfl⟩; refine ⟨okF, ?_⟩)
  repeat (refine aK ?_)
  ((refine aL (cs := recs eZ [1, -1, 0]) ([.int .i64 1, .int .i64 (-1), .int .i64 0]) rfl rfl (by intro v hv; repeat (first | exact absurd hv (List.not_mem_nil) | (rcases List.mem_cons.1 hv with rfl | hv; · rfl))) (by omega) rfl rfl rfl ?_; intro b22; refine ⟨okF, ?_⟩); refine aF .here ?_)
  repeat (refine aK ?_)
  (refine aA rfl (hR [1, -1, 0] (by decide) b22 3 _ _ aB) rfl rfl ?_; rintro _ _ _ ⟨rfl, r23, rfl, hr23, rfl⟩; refine ⟨okF, ?_⟩)
  repeat (refine aK ?_)
  (refine aG rfl (fun _ => lV (vals := [.bool true, lv r23]) (cells := [.bool true, lv r23]) rfl ?hpl rfl ?hz) rfl rfl ?_; (case hpl => repeat (first | exact True.intro | refine ⟨rfl, ?_⟩)); (case hz => rfl))
  repeat (refine aK ?_)
  (refine aA rfl (hP' r23 hr23 _ _ aB aB) rfl rfl ?_; rintro _ _ _ ⟨rfl, rfl, rfl⟩; refine ⟨okF, ?_⟩)
  repeat (refine aK ?_)
  ((refine aL (cs := recs eZ [1, 0, 0]) ([.int .i64 1, .int .i64 0, .int .i64 0]) rfl rfl (by intro v hv; repeat (first | exact absurd hv (List.not_mem_nil) | (rcases List.mem_cons.1 hv with rfl | hv; · rfl))) (by omega) rfl rfl rfl ?_; intro b30; refine ⟨okF, ?_⟩); refine aF .here ?_)
  repeat (refine aK ?_)
  (refine aA rfl (hR [1, 0, 0] (by decide) b30 3 _ _ aB) rfl rfl ?_; rintro _ _ _ ⟨rfl, r31, rfl, hr31, rfl⟩; refine ⟨okF, ?_⟩)
  repeat (refine aK ?_)
  (refine aG rfl (fun _ => lV (vals := [.bool true, lv r31]) (cells := [.bool true, lv r31]) rfl ?hpl rfl ?hz) rfl rfl ?_; (case hpl => repeat (first | exact True.intro | refine ⟨rfl, ?_⟩)); (case hz => rfl))
  repeat (refine aK ?_)
  (refine aA rfl (hQ' r31 hr31 _ _ aB aB) rfl rfl ?_; rintro _ _ _ ⟨rfl, rfl, rfl⟩; refine ⟨okF, ?_⟩)
  repeat (refine aK ?_)
  refine xH (fuel := 9) (i := 38) (j := 39) (m := 41) (by kernel_rfl) ?_ ?_ ?_
  ·((refine aL (cs := recs eZ [0, 1]) ([.int .i64 0, .int .i64 1]) rfl rfl (by intro v hv; repeat (first | exact absurd hv (List.not_mem_nil) | (rcases List.mem_cons.1 hv with rfl | hv; · rfl))) (by omega) rfl rfl rfl ?_; intro b38; refine ⟨okF, ?_⟩); refine aF .here ?_)
   refine bC ?_
   repeat (refine aK ?_)
   refine fA (fuel := 8) (i := 39) (j := 41) (by kernel_rfl) ?_ ?_
   ·((refine aL (cs := recs eZ [1, 0, -1]) ([.int .i64 1, .int .i64 0, .int .i64 (-1)]) rfl rfl (by intro v hv; repeat (first | exact absurd hv (List.not_mem_nil) | (rcases List.mem_cons.1 hv with rfl | hv; · rfl))) (by omega) rfl rfl rfl ?_; intro b39; refine ⟨okF, ?_⟩); refine aF .here ?_)
    refine bC ?_
    repeat (refine aK ?_)
    refine fA (fuel := 7) (i := 40) (j := 41) (by kernel_rfl) ?_ ?_
    ·(refine aA rfl (hR [1, 0, -1] (by decide) b39 3 _ _ aB) rfl rfl ?_; rintro _ _ _ ⟨rfl, r40, rfl, hr40, rfl⟩; refine ⟨okF, ?_⟩)
     refine bC ?_
     refine dI [41, 42, 43, 44, 45, 46, 47] [0, 0, 0, 0, 0, 0, 0] aC aD (by kernel_rfl) (by kernel_rfl) rfl rfl ?_
     repeat (refine aK ?_)
     ((refine aL (cs := recs eZ [0, 1, -1]) ([.int .i64 0, .int .i64 1, .int .i64 (-1)]) rfl rfl (by intro v hv; repeat (first | exact absurd hv (List.not_mem_nil) | (rcases List.mem_cons.1 hv with rfl | hv; · rfl))) (by omega) rfl rfl rfl ?_; intro b41; refine ⟨okF, ?_⟩); refine aF .here ?_)
     repeat (refine aK ?_)
     (refine aA rfl (hR [0, 1, -1] (by decide) b41 3 _ _ aB) rfl rfl ?_; rintro _ _ _ ⟨rfl, r42, rfl, hr42, rfl⟩; refine ⟨okF, ?_⟩)
     repeat (refine aK ?_)
     ((refine aL (cs := recs eL [r40, r42]) ([lv r40, lv r42]) rfl rfl (by intro v hv; repeat (first | exact absurd hv (List.not_mem_nil) | (rcases List.mem_cons.1 hv with rfl | hv; · rfl))) (by omega) rfl rfl rfl ?_; intro b43; refine ⟨okF, ?_⟩); refine aF .here ?_)
     repeat (refine aK ?_)
     (refine aA rfl (hFm b38 b43 r40 r42 hr40 hr42 _ _ aB aB aB aB aB) rfl rfl ?_; rintro _ _ _ ⟨rfl, rfl, rfl⟩; refine ⟨okF, ?_⟩)
     repeat (refine aK ?_)
     refine dP _ _ _ aO aC aD ⟨rfl, rfl, rfl⟩
    ·((refine aL (cs := recs eZ [0, 1, -1]) ([.int .i64 0, .int .i64 1, .int .i64 (-1)]) rfl rfl (by intro v hv; repeat (first | exact absurd hv (List.not_mem_nil) | (rcases List.mem_cons.1 hv with rfl | hv; · rfl))) (by omega) rfl rfl rfl ?_; intro b41; refine ⟨okF, ?_⟩); refine aF .here ?_)
     refine bC ?_
     refine dI [40, 42, 43, 44, 45, 46, 47] [0, 0, 0, 0, 0, 0, 0] aC aD (by kernel_rfl) (by kernel_rfl) rfl rfl ?_
     repeat (refine aK ?_)
     (refine aA rfl (hR [1, 0, -1] (by decide) b39 3 _ _ aB) rfl rfl ?_; rintro _ _ _ ⟨rfl, r40, rfl, hr40, rfl⟩; refine ⟨okF, ?_⟩)
     repeat (refine aK ?_)
     (refine aA rfl (hR [0, 1, -1] (by decide) b41 3 _ _ aB) rfl rfl ?_; rintro _ _ _ ⟨rfl, r42, rfl, hr42, rfl⟩; refine ⟨okF, ?_⟩)
     repeat (refine aK ?_)
     ((refine aL (cs := recs eL [r40, r42]) ([lv r40, lv r42]) rfl rfl (by intro v hv; repeat (first | exact absurd hv (List.not_mem_nil) | (rcases List.mem_cons.1 hv with rfl | hv; · rfl))) (by omega) rfl rfl rfl ?_; intro b43; refine ⟨okF, ?_⟩); refine aF .here ?_)
     repeat (refine aK ?_)
     (refine aA rfl (hFm b38 b43 r40 r42 hr40 hr42 _ _ aB aB aB aB aB) rfl rfl ?_; rintro _ _ _ ⟨rfl, rfl, rfl⟩; refine ⟨okF, ?_⟩)
     repeat (refine aK ?_)
     refine dP _ _ _ aO aC aD ⟨rfl, rfl, rfl⟩
   ·((refine aL (cs := recs eZ [0, 1, -1]) ([.int .i64 0, .int .i64 1, .int .i64 (-1)]) rfl rfl (by intro v hv; repeat (first | exact absurd hv (List.not_mem_nil) | (rcases List.mem_cons.1 hv with rfl | hv; · rfl))) (by omega) rfl rfl rfl ?_; intro b41; refine ⟨okF, ?_⟩); refine aF .here ?_)
    refine bC ?_
    refine dI [39, 40, 42, 43, 44, 45, 46, 47] [0, 0, 0, 0, 0, 0, 0, 0] aC aD (by kernel_rfl) (by kernel_rfl) rfl rfl ?_
    repeat (refine aK ?_)
    ((refine aL (cs := recs eZ [1, 0, -1]) ([.int .i64 1, .int .i64 0, .int .i64 (-1)]) rfl rfl (by intro v hv; repeat (first | exact absurd hv (List.not_mem_nil) | (rcases List.mem_cons.1 hv with rfl | hv; · rfl))) (by omega) rfl rfl rfl ?_; intro b39; refine ⟨okF, ?_⟩); refine aF .here ?_)
    repeat (refine aK ?_)
    (refine aA rfl (hR [1, 0, -1] (by decide) b39 3 _ _ aB) rfl rfl ?_; rintro _ _ _ ⟨rfl, r40, rfl, hr40, rfl⟩; refine ⟨okF, ?_⟩)
    repeat (refine aK ?_)
    (refine aA rfl (hR [0, 1, -1] (by decide) b41 3 _ _ aB) rfl rfl ?_; rintro _ _ _ ⟨rfl, r42, rfl, hr42, rfl⟩; refine ⟨okF, ?_⟩)
    repeat (refine aK ?_)
    ((refine aL (cs := recs eL [r40, r42]) ([lv r40, lv r42]) rfl rfl (by intro v hv; repeat (first | exact absurd hv (List.not_mem_nil) | (rcases List.mem_cons.1 hv with rfl | hv; · rfl))) (by omega) rfl rfl rfl ?_; intro b43; refine ⟨okF, ?_⟩); refine aF .here ?_)
    repeat (refine aK ?_)
    (refine aA rfl (hFm b38 b43 r40 r42 hr40 hr42 _ _ aB aB aB aB aB) rfl rfl ?_; rintro _ _ _ ⟨rfl, rfl, rfl⟩; refine ⟨okF, ?_⟩)
    repeat (refine aK ?_)
    refine dP _ _ _ aO aC aD ⟨rfl, rfl, rfl⟩
  ·((refine aL (cs := recs eZ [1, 0, -1]) ([.int .i64 1, .int .i64 0, .int .i64 (-1)]) rfl rfl (by intro v hv; repeat (first | exact absurd hv (List.not_mem_nil) | (rcases List.mem_cons.1 hv with rfl | hv; · rfl))) (by omega) rfl rfl rfl ?_; intro b39; refine ⟨okF, ?_⟩); refine aF .here ?_)
   refine bC ?_
   repeat (refine aK ?_)
   refine xH (fuel := 8) (i := 38) (j := 40) (m := 41) (by kernel_rfl) ?_ ?_ ?_
   ·((refine aL (cs := recs eZ [0, 1]) ([.int .i64 0, .int .i64 1]) rfl rfl (by intro v hv; repeat (first | exact absurd hv (List.not_mem_nil) | (rcases List.mem_cons.1 hv with rfl | hv; · rfl))) (by omega) rfl rfl rfl ?_; intro b38; refine ⟨okF, ?_⟩); refine aF .here ?_)
    refine bC ?_
    repeat (refine aK ?_)
    refine fA (fuel := 7) (i := 40) (j := 41) (by kernel_rfl) ?_ ?_
    ·(refine aA rfl (hR [1, 0, -1] (by decide) b39 3 _ _ aB) rfl rfl ?_; rintro _ _ _ ⟨rfl, r40, rfl, hr40, rfl⟩; refine ⟨okF, ?_⟩)
     refine bC ?_
     refine dI [41, 42, 43, 44, 45, 46, 47] [0, 0, 0, 0, 0, 0, 0] aC aD (by kernel_rfl) (by kernel_rfl) rfl rfl ?_
     repeat (refine aK ?_)
     ((refine aL (cs := recs eZ [0, 1, -1]) ([.int .i64 0, .int .i64 1, .int .i64 (-1)]) rfl rfl (by intro v hv; repeat (first | exact absurd hv (List.not_mem_nil) | (rcases List.mem_cons.1 hv with rfl | hv; · rfl))) (by omega) rfl rfl rfl ?_; intro b41; refine ⟨okF, ?_⟩); refine aF .here ?_)
     repeat (refine aK ?_)
     (refine aA rfl (hR [0, 1, -1] (by decide) b41 3 _ _ aB) rfl rfl ?_; rintro _ _ _ ⟨rfl, r42, rfl, hr42, rfl⟩; refine ⟨okF, ?_⟩)
     repeat (refine aK ?_)
     ((refine aL (cs := recs eL [r40, r42]) ([lv r40, lv r42]) rfl rfl (by intro v hv; repeat (first | exact absurd hv (List.not_mem_nil) | (rcases List.mem_cons.1 hv with rfl | hv; · rfl))) (by omega) rfl rfl rfl ?_; intro b43; refine ⟨okF, ?_⟩); refine aF .here ?_)
     repeat (refine aK ?_)
     (refine aA rfl (hFm b38 b43 r40 r42 hr40 hr42 _ _ aB aB aB aB aB) rfl rfl ?_; rintro _ _ _ ⟨rfl, rfl, rfl⟩; refine ⟨okF, ?_⟩)
     repeat (refine aK ?_)
     refine dP _ _ _ aO aC aD ⟨rfl, rfl, rfl⟩
    ·((refine aL (cs := recs eZ [0, 1, -1]) ([.int .i64 0, .int .i64 1, .int .i64 (-1)]) rfl rfl (by intro v hv; repeat (first | exact absurd hv (List.not_mem_nil) | (rcases List.mem_cons.1 hv with rfl | hv; · rfl))) (by omega) rfl rfl rfl ?_; intro b41; refine ⟨okF, ?_⟩); refine aF .here ?_)
     refine bC ?_
     refine dI [40, 42, 43, 44, 45, 46, 47] [0, 0, 0, 0, 0, 0, 0] aC aD (by kernel_rfl) (by kernel_rfl) rfl rfl ?_
     repeat (refine aK ?_)
     (refine aA rfl (hR [1, 0, -1] (by decide) b39 3 _ _ aB) rfl rfl ?_; rintro _ _ _ ⟨rfl, r40, rfl, hr40, rfl⟩; refine ⟨okF, ?_⟩)
     repeat (refine aK ?_)
     (refine aA rfl (hR [0, 1, -1] (by decide) b41 3 _ _ aB) rfl rfl ?_; rintro _ _ _ ⟨rfl, r42, rfl, hr42, rfl⟩; refine ⟨okF, ?_⟩)
     repeat (refine aK ?_)
     ((refine aL (cs := recs eL [r40, r42]) ([lv r40, lv r42]) rfl rfl (by intro v hv; repeat (first | exact absurd hv (List.not_mem_nil) | (rcases List.mem_cons.1 hv with rfl | hv; · rfl))) (by omega) rfl rfl rfl ?_; intro b43; refine ⟨okF, ?_⟩); refine aF .here ?_)
     repeat (refine aK ?_)
     (refine aA rfl (hFm b38 b43 r40 r42 hr40 hr42 _ _ aB aB aB aB aB) rfl rfl ?_; rintro _ _ _ ⟨rfl, rfl, rfl⟩; refine ⟨okF, ?_⟩)
     repeat (refine aK ?_)
     refine dP _ _ _ aO aC aD ⟨rfl, rfl, rfl⟩
   ·(refine aA rfl (hR [1, 0, -1] (by decide) b39 3 _ _ aB) rfl rfl ?_; rintro _ _ _ ⟨rfl, r40, rfl, hr40, rfl⟩; refine ⟨okF, ?_⟩)
    refine bC ?_
    repeat (refine aK ?_)
    refine fA (fuel := 7) (i := 38) (j := 41) (by kernel_rfl) ?_ ?_
    ·((refine aL (cs := recs eZ [0, 1]) ([.int .i64 0, .int .i64 1]) rfl rfl (by intro v hv; repeat (first | exact absurd hv (List.not_mem_nil) | (rcases List.mem_cons.1 hv with rfl | hv; · rfl))) (by omega) rfl rfl rfl ?_; intro b38; refine ⟨okF, ?_⟩); refine aF .here ?_)
     refine bC ?_
     refine dI [41, 42, 43, 44, 45, 46, 47] [0, 0, 0, 0, 0, 0, 0] aC aD (by kernel_rfl) (by kernel_rfl) rfl rfl ?_
     repeat (refine aK ?_)
     ((refine aL (cs := recs eZ [0, 1, -1]) ([.int .i64 0, .int .i64 1, .int .i64 (-1)]) rfl rfl (by intro v hv; repeat (first | exact absurd hv (List.not_mem_nil) | (rcases List.mem_cons.1 hv with rfl | hv; · rfl))) (by omega) rfl rfl rfl ?_; intro b41; refine ⟨okF, ?_⟩); refine aF .here ?_)
     repeat (refine aK ?_)
     (refine aA rfl (hR [0, 1, -1] (by decide) b41 3 _ _ aB) rfl rfl ?_; rintro _ _ _ ⟨rfl, r42, rfl, hr42, rfl⟩; refine ⟨okF, ?_⟩)
     repeat (refine aK ?_)
     ((refine aL (cs := recs eL [r40, r42]) ([lv r40, lv r42]) rfl rfl (by intro v hv; repeat (first | exact absurd hv (List.not_mem_nil) | (rcases List.mem_cons.1 hv with rfl | hv; · rfl))) (by omega) rfl rfl rfl ?_; intro b43; refine ⟨okF, ?_⟩); refine aF .here ?_)
     repeat (refine aK ?_)
     (refine aA rfl (hFm b38 b43 r40 r42 hr40 hr42 _ _ aB aB aB aB aB) rfl rfl ?_; rintro _ _ _ ⟨rfl, rfl, rfl⟩; refine ⟨okF, ?_⟩)
     repeat (refine aK ?_)
     refine dP _ _ _ aO aC aD ⟨rfl, rfl, rfl⟩
    ·((refine aL (cs := recs eZ [0, 1, -1]) ([.int .i64 0, .int .i64 1, .int .i64 (-1)]) rfl rfl (by intro v hv; repeat (first | exact absurd hv (List.not_mem_nil) | (rcases List.mem_cons.1 hv with rfl | hv; · rfl))) (by omega) rfl rfl rfl ?_; intro b41; refine ⟨okF, ?_⟩); refine aF .here ?_)
     refine bC ?_
     repeat (refine aK ?_)
     refine fA (fuel := 6) (i := 38) (j := 42) (by kernel_rfl) ?_ ?_
     ·((refine aL (cs := recs eZ [0, 1]) ([.int .i64 0, .int .i64 1]) rfl rfl (by intro v hv; repeat (first | exact absurd hv (List.not_mem_nil) | (rcases List.mem_cons.1 hv with rfl | hv; · rfl))) (by omega) rfl rfl rfl ?_; intro b38; refine ⟨okF, ?_⟩); refine aF .here ?_)
      refine bC ?_
      refine dI [42, 43, 44, 45, 46, 47] [0, 0, 0, 0, 0, 0] aC aD (by kernel_rfl) (by kernel_rfl) rfl rfl ?_
      repeat (refine aK ?_)
      (refine aA rfl (hR [0, 1, -1] (by decide) b41 3 _ _ aB) rfl rfl ?_; rintro _ _ _ ⟨rfl, r42, rfl, hr42, rfl⟩; refine ⟨okF, ?_⟩)
      repeat (refine aK ?_)
      ((refine aL (cs := recs eL [r40, r42]) ([lv r40, lv r42]) rfl rfl (by intro v hv; repeat (first | exact absurd hv (List.not_mem_nil) | (rcases List.mem_cons.1 hv with rfl | hv; · rfl))) (by omega) rfl rfl rfl ?_; intro b43; refine ⟨okF, ?_⟩); refine aF .here ?_)
      repeat (refine aK ?_)
      (refine aA rfl (hFm b38 b43 r40 r42 hr40 hr42 _ _ aB aB aB aB aB) rfl rfl ?_; rintro _ _ _ ⟨rfl, rfl, rfl⟩; refine ⟨okF, ?_⟩)
      repeat (refine aK ?_)
      refine dP _ _ _ aO aC aD ⟨rfl, rfl, rfl⟩
     ·(refine aA rfl (hR [0, 1, -1] (by decide) b41 3 _ _ aB) rfl rfl ?_; rintro _ _ _ ⟨rfl, r42, rfl, hr42, rfl⟩; refine ⟨okF, ?_⟩)
      refine bC ?_
      repeat (refine aK ?_)
      refine fA (fuel := 5) (i := 38) (j := 43) (by kernel_rfl) ?_ ?_
      ·((refine aL (cs := recs eZ [0, 1]) ([.int .i64 0, .int .i64 1]) rfl rfl (by intro v hv; repeat (first | exact absurd hv (List.not_mem_nil) | (rcases List.mem_cons.1 hv with rfl | hv; · rfl))) (by omega) rfl rfl rfl ?_; intro b38; refine ⟨okF, ?_⟩); refine aF .here ?_)
       refine bC ?_
       refine dI [43, 44, 45, 46, 47] [0, 0, 0, 0, 0] aC aD (by kernel_rfl) (by kernel_rfl) rfl rfl ?_
       repeat (refine aK ?_)
       ((refine aL (cs := recs eL [r40, r42]) ([lv r40, lv r42]) rfl rfl (by intro v hv; repeat (first | exact absurd hv (List.not_mem_nil) | (rcases List.mem_cons.1 hv with rfl | hv; · rfl))) (by omega) rfl rfl rfl ?_; intro b43; refine ⟨okF, ?_⟩); refine aF .here ?_)
       repeat (refine aK ?_)
       (refine aA rfl (hFm b38 b43 r40 r42 hr40 hr42 _ _ aB aB aB aB aB) rfl rfl ?_; rintro _ _ _ ⟨rfl, rfl, rfl⟩; refine ⟨okF, ?_⟩)
       repeat (refine aK ?_)
       refine dP _ _ _ aO aC aD ⟨rfl, rfl, rfl⟩
      ·((refine aL (cs := recs eL [r40, r42]) ([lv r40, lv r42]) rfl rfl (by intro v hv; repeat (first | exact absurd hv (List.not_mem_nil) | (rcases List.mem_cons.1 hv with rfl | hv; · rfl))) (by omega) rfl rfl rfl ?_; intro b43; refine ⟨okF, ?_⟩); refine aF .here ?_)
       refine bC ?_
       refine dI [38, 44, 45, 46, 47] [0, 0, 0, 0, 0] aC aD (by kernel_rfl) (by kernel_rfl) rfl rfl ?_
       repeat (refine aK ?_)
       ((refine aL (cs := recs eZ [0, 1]) ([.int .i64 0, .int .i64 1]) rfl rfl (by intro v hv; repeat (first | exact absurd hv (List.not_mem_nil) | (rcases List.mem_cons.1 hv with rfl | hv; · rfl))) (by omega) rfl rfl rfl ?_; intro b38; refine ⟨okF, ?_⟩); refine aF .here ?_)
       repeat (refine aK ?_)
       (refine aA rfl (hFm b38 b43 r40 r42 hr40 hr42 _ _ aB aB aB aB aB) rfl rfl ?_; rintro _ _ _ ⟨rfl, rfl, rfl⟩; refine ⟨okF, ?_⟩)
       repeat (refine aK ?_)
       refine dP _ _ _ aO aC aD ⟨rfl, rfl, rfl⟩
   ·((refine aL (cs := recs eZ [0, 1, -1]) ([.int .i64 0, .int .i64 1, .int .i64 (-1)]) rfl rfl (by intro v hv; repeat (first | exact absurd hv (List.not_mem_nil) | (rcases List.mem_cons.1 hv with rfl | hv; · rfl))) (by omega) rfl rfl rfl ?_; intro b41; refine ⟨okF, ?_⟩); refine aF .here ?_)
    refine bC ?_
    repeat (refine aK ?_)
    refine fA (fuel := 7) (i := 38) (j := 40) (by kernel_rfl) ?_ ?_
    ·((refine aL (cs := recs eZ [0, 1]) ([.int .i64 0, .int .i64 1]) rfl rfl (by intro v hv; repeat (first | exact absurd hv (List.not_mem_nil) | (rcases List.mem_cons.1 hv with rfl | hv; · rfl))) (by omega) rfl rfl rfl ?_; intro b38; refine ⟨okF, ?_⟩); refine aF .here ?_)
     refine bC ?_
     refine dI [40, 42, 43, 44, 45, 46, 47] [0, 0, 0, 0, 0, 0, 0] aC aD (by kernel_rfl) (by kernel_rfl) rfl rfl ?_
     repeat (refine aK ?_)
     (refine aA rfl (hR [1, 0, -1] (by decide) b39 3 _ _ aB) rfl rfl ?_; rintro _ _ _ ⟨rfl, r40, rfl, hr40, rfl⟩; refine ⟨okF, ?_⟩)
     repeat (refine aK ?_)
     (refine aA rfl (hR [0, 1, -1] (by decide) b41 3 _ _ aB) rfl rfl ?_; rintro _ _ _ ⟨rfl, r42, rfl, hr42, rfl⟩; refine ⟨okF, ?_⟩)
     repeat (refine aK ?_)
     ((refine aL (cs := recs eL [r40, r42]) ([lv r40, lv r42]) rfl rfl (by intro v hv; repeat (first | exact absurd hv (List.not_mem_nil) | (rcases List.mem_cons.1 hv with rfl | hv; · rfl))) (by omega) rfl rfl rfl ?_; intro b43; refine ⟨okF, ?_⟩); refine aF .here ?_)
     repeat (refine aK ?_)
     (refine aA rfl (hFm b38 b43 r40 r42 hr40 hr42 _ _ aB aB aB aB aB) rfl rfl ?_; rintro _ _ _ ⟨rfl, rfl, rfl⟩; refine ⟨okF, ?_⟩)
     repeat (refine aK ?_)
     refine dP _ _ _ aO aC aD ⟨rfl, rfl, rfl⟩
    ·(refine aA rfl (hR [1, 0, -1] (by decide) b39 3 _ _ aB) rfl rfl ?_; rintro _ _ _ ⟨rfl, r40, rfl, hr40, rfl⟩; refine ⟨okF, ?_⟩)
     refine bC ?_
     repeat (refine aK ?_)
     refine fA (fuel := 6) (i := 38) (j := 42) (by kernel_rfl) ?_ ?_
     ·((refine aL (cs := recs eZ [0, 1]) ([.int .i64 0, .int .i64 1]) rfl rfl (by intro v hv; repeat (first | exact absurd hv (List.not_mem_nil) | (rcases List.mem_cons.1 hv with rfl | hv; · rfl))) (by omega) rfl rfl rfl ?_; intro b38; refine ⟨okF, ?_⟩); refine aF .here ?_)
      refine bC ?_
      refine dI [42, 43, 44, 45, 46, 47] [0, 0, 0, 0, 0, 0] aC aD (by kernel_rfl) (by kernel_rfl) rfl rfl ?_
      repeat (refine aK ?_)
      (refine aA rfl (hR [0, 1, -1] (by decide) b41 3 _ _ aB) rfl rfl ?_; rintro _ _ _ ⟨rfl, r42, rfl, hr42, rfl⟩; refine ⟨okF, ?_⟩)
      repeat (refine aK ?_)
      ((refine aL (cs := recs eL [r40, r42]) ([lv r40, lv r42]) rfl rfl (by intro v hv; repeat (first | exact absurd hv (List.not_mem_nil) | (rcases List.mem_cons.1 hv with rfl | hv; · rfl))) (by omega) rfl rfl rfl ?_; intro b43; refine ⟨okF, ?_⟩); refine aF .here ?_)
      repeat (refine aK ?_)
      (refine aA rfl (hFm b38 b43 r40 r42 hr40 hr42 _ _ aB aB aB aB aB) rfl rfl ?_; rintro _ _ _ ⟨rfl, rfl, rfl⟩; refine ⟨okF, ?_⟩)
      repeat (refine aK ?_)
      refine dP _ _ _ aO aC aD ⟨rfl, rfl, rfl⟩
     ·(refine aA rfl (hR [0, 1, -1] (by decide) b41 3 _ _ aB) rfl rfl ?_; rintro _ _ _ ⟨rfl, r42, rfl, hr42, rfl⟩; refine ⟨okF, ?_⟩)
      refine bC ?_
      repeat (refine aK ?_)
      refine fA (fuel := 5) (i := 38) (j := 43) (by kernel_rfl) ?_ ?_
      ·((refine aL (cs := recs eZ [0, 1]) ([.int .i64 0, .int .i64 1]) rfl rfl (by intro v hv; repeat (first | exact absurd hv (List.not_mem_nil) | (rcases List.mem_cons.1 hv with rfl | hv; · rfl))) (by omega) rfl rfl rfl ?_; intro b38; refine ⟨okF, ?_⟩); refine aF .here ?_)
       refine bC ?_
       refine dI [43, 44, 45, 46, 47] [0, 0, 0, 0, 0] aC aD (by kernel_rfl) (by kernel_rfl) rfl rfl ?_
       repeat (refine aK ?_)
       ((refine aL (cs := recs eL [r40, r42]) ([lv r40, lv r42]) rfl rfl (by intro v hv; repeat (first | exact absurd hv (List.not_mem_nil) | (rcases List.mem_cons.1 hv with rfl | hv; · rfl))) (by omega) rfl rfl rfl ?_; intro b43; refine ⟨okF, ?_⟩); refine aF .here ?_)
       repeat (refine aK ?_)
       (refine aA rfl (hFm b38 b43 r40 r42 hr40 hr42 _ _ aB aB aB aB aB) rfl rfl ?_; rintro _ _ _ ⟨rfl, rfl, rfl⟩; refine ⟨okF, ?_⟩)
       repeat (refine aK ?_)
       refine dP _ _ _ aO aC aD ⟨rfl, rfl, rfl⟩
      ·((refine aL (cs := recs eL [r40, r42]) ([lv r40, lv r42]) rfl rfl (by intro v hv; repeat (first | exact absurd hv (List.not_mem_nil) | (rcases List.mem_cons.1 hv with rfl | hv; · rfl))) (by omega) rfl rfl rfl ?_; intro b43; refine ⟨okF, ?_⟩); refine aF .here ?_)
       refine bC ?_
       refine dI [38, 44, 45, 46, 47] [0, 0, 0, 0, 0] aC aD (by kernel_rfl) (by kernel_rfl) rfl rfl ?_
       repeat (refine aK ?_)
       ((refine aL (cs := recs eZ [0, 1]) ([.int .i64 0, .int .i64 1]) rfl rfl (by intro v hv; repeat (first | exact absurd hv (List.not_mem_nil) | (rcases List.mem_cons.1 hv with rfl | hv; · rfl))) (by omega) rfl rfl rfl ?_; intro b38; refine ⟨okF, ?_⟩); refine aF .here ?_)
       repeat (refine aK ?_)
       (refine aA rfl (hFm b38 b43 r40 r42 hr40 hr42 _ _ aB aB aB aB aB) rfl rfl ?_; rintro _ _ _ ⟨rfl, rfl, rfl⟩; refine ⟨okF, ?_⟩)
       repeat (refine aK ?_)
       refine dP _ _ _ aO aC aD ⟨rfl, rfl, rfl⟩
  ·((refine aL (cs := recs eZ [0, 1, -1]) ([.int .i64 0, .int .i64 1, .int .i64 (-1)]) rfl rfl (by intro v hv; repeat (first | exact absurd hv (List.not_mem_nil) | (rcases List.mem_cons.1 hv with rfl | hv; · rfl))) (by omega) rfl rfl rfl ?_; intro b41; refine ⟨okF, ?_⟩); refine aF .here ?_)
   refine bC ?_
   repeat (refine aK ?_)
   refine fA (fuel := 8) (i := 38) (j := 39) (by kernel_rfl) ?_ ?_
   ·((refine aL (cs := recs eZ [0, 1]) ([.int .i64 0, .int .i64 1]) rfl rfl (by intro v hv; repeat (first | exact absurd hv (List.not_mem_nil) | (rcases List.mem_cons.1 hv with rfl | hv; · rfl))) (by omega) rfl rfl rfl ?_; intro b38; refine ⟨okF, ?_⟩); refine aF .here ?_)
    refine bC ?_
    refine dI [39, 40, 42, 43, 44, 45, 46, 47] [0, 0, 0, 0, 0, 0, 0, 0] aC aD (by kernel_rfl) (by kernel_rfl) rfl rfl ?_
    repeat (refine aK ?_)
    ((refine aL (cs := recs eZ [1, 0, -1]) ([.int .i64 1, .int .i64 0, .int .i64 (-1)]) rfl rfl (by intro v hv; repeat (first | exact absurd hv (List.not_mem_nil) | (rcases List.mem_cons.1 hv with rfl | hv; · rfl))) (by omega) rfl rfl rfl ?_; intro b39; refine ⟨okF, ?_⟩); refine aF .here ?_)
    repeat (refine aK ?_)
    (refine aA rfl (hR [1, 0, -1] (by decide) b39 3 _ _ aB) rfl rfl ?_; rintro _ _ _ ⟨rfl, r40, rfl, hr40, rfl⟩; refine ⟨okF, ?_⟩)
    repeat (refine aK ?_)
    (refine aA rfl (hR [0, 1, -1] (by decide) b41 3 _ _ aB) rfl rfl ?_; rintro _ _ _ ⟨rfl, r42, rfl, hr42, rfl⟩; refine ⟨okF, ?_⟩)
    repeat (refine aK ?_)
    ((refine aL (cs := recs eL [r40, r42]) ([lv r40, lv r42]) rfl rfl (by intro v hv; repeat (first | exact absurd hv (List.not_mem_nil) | (rcases List.mem_cons.1 hv with rfl | hv; · rfl))) (by omega) rfl rfl rfl ?_; intro b43; refine ⟨okF, ?_⟩); refine aF .here ?_)
    repeat (refine aK ?_)
    (refine aA rfl (hFm b38 b43 r40 r42 hr40 hr42 _ _ aB aB aB aB aB) rfl rfl ?_; rintro _ _ _ ⟨rfl, rfl, rfl⟩; refine ⟨okF, ?_⟩)
    repeat (refine aK ?_)
    refine dP _ _ _ aO aC aD ⟨rfl, rfl, rfl⟩
   ·((refine aL (cs := recs eZ [1, 0, -1]) ([.int .i64 1, .int .i64 0, .int .i64 (-1)]) rfl rfl (by intro v hv; repeat (first | exact absurd hv (List.not_mem_nil) | (rcases List.mem_cons.1 hv with rfl | hv; · rfl))) (by omega) rfl rfl rfl ?_; intro b39; refine ⟨okF, ?_⟩); refine aF .here ?_)
    refine bC ?_
    repeat (refine aK ?_)
    refine fA (fuel := 7) (i := 38) (j := 40) (by kernel_rfl) ?_ ?_
    ·((refine aL (cs := recs eZ [0, 1]) ([.int .i64 0, .int .i64 1]) rfl rfl (by intro v hv; repeat (first | exact absurd hv (List.not_mem_nil) | (rcases List.mem_cons.1 hv with rfl | hv; · rfl))) (by omega) rfl rfl rfl ?_; intro b38; refine ⟨okF, ?_⟩); refine aF .here ?_)
     refine bC ?_
     refine dI [40, 42, 43, 44, 45, 46, 47] [0, 0, 0, 0, 0, 0, 0] aC aD (by kernel_rfl) (by kernel_rfl) rfl rfl ?_
     repeat (refine aK ?_)
     (refine aA rfl (hR [1, 0, -1] (by decide) b39 3 _ _ aB) rfl rfl ?_; rintro _ _ _ ⟨rfl, r40, rfl, hr40, rfl⟩; refine ⟨okF, ?_⟩)
     repeat (refine aK ?_)
     (refine aA rfl (hR [0, 1, -1] (by decide) b41 3 _ _ aB) rfl rfl ?_; rintro _ _ _ ⟨rfl, r42, rfl, hr42, rfl⟩; refine ⟨okF, ?_⟩)
     repeat (refine aK ?_)
     ((refine aL (cs := recs eL [r40, r42]) ([lv r40, lv r42]) rfl rfl (by intro v hv; repeat (first | exact absurd hv (List.not_mem_nil) | (rcases List.mem_cons.1 hv with rfl | hv; · rfl))) (by omega) rfl rfl rfl ?_; intro b43; refine ⟨okF, ?_⟩); refine aF .here ?_)
     repeat (refine aK ?_)
     (refine aA rfl (hFm b38 b43 r40 r42 hr40 hr42 _ _ aB aB aB aB aB) rfl rfl ?_; rintro _ _ _ ⟨rfl, rfl, rfl⟩; refine ⟨okF, ?_⟩)
     repeat (refine aK ?_)
     refine dP _ _ _ aO aC aD ⟨rfl, rfl, rfl⟩
    ·(refine aA rfl (hR [1, 0, -1] (by decide) b39 3 _ _ aB) rfl rfl ?_; rintro _ _ _ ⟨rfl, r40, rfl, hr40, rfl⟩; refine ⟨okF, ?_⟩)
     refine bC ?_
     repeat (refine aK ?_)
     refine fA (fuel := 6) (i := 38) (j := 42) (by kernel_rfl) ?_ ?_
     ·((refine aL (cs := recs eZ [0, 1]) ([.int .i64 0, .int .i64 1]) rfl rfl (by intro v hv; repeat (first | exact absurd hv (List.not_mem_nil) | (rcases List.mem_cons.1 hv with rfl | hv; · rfl))) (by omega) rfl rfl rfl ?_; intro b38; refine ⟨okF, ?_⟩); refine aF .here ?_)
      refine bC ?_
      refine dI [42, 43, 44, 45, 46, 47] [0, 0, 0, 0, 0, 0] aC aD (by kernel_rfl) (by kernel_rfl) rfl rfl ?_
      repeat (refine aK ?_)
      (refine aA rfl (hR [0, 1, -1] (by decide) b41 3 _ _ aB) rfl rfl ?_; rintro _ _ _ ⟨rfl, r42, rfl, hr42, rfl⟩; refine ⟨okF, ?_⟩)
      repeat (refine aK ?_)
      ((refine aL (cs := recs eL [r40, r42]) ([lv r40, lv r42]) rfl rfl (by intro v hv; repeat (first | exact absurd hv (List.not_mem_nil) | (rcases List.mem_cons.1 hv with rfl | hv; · rfl))) (by omega) rfl rfl rfl ?_; intro b43; refine ⟨okF, ?_⟩); refine aF .here ?_)
      repeat (refine aK ?_)
      (refine aA rfl (hFm b38 b43 r40 r42 hr40 hr42 _ _ aB aB aB aB aB) rfl rfl ?_; rintro _ _ _ ⟨rfl, rfl, rfl⟩; refine ⟨okF, ?_⟩)
      repeat (refine aK ?_)
      refine dP _ _ _ aO aC aD ⟨rfl, rfl, rfl⟩
     ·(refine aA rfl (hR [0, 1, -1] (by decide) b41 3 _ _ aB) rfl rfl ?_; rintro _ _ _ ⟨rfl, r42, rfl, hr42, rfl⟩; refine ⟨okF, ?_⟩)
      refine bC ?_
      repeat (refine aK ?_)
      refine fA (fuel := 5) (i := 38) (j := 43) (by kernel_rfl) ?_ ?_
      ·((refine aL (cs := recs eZ [0, 1]) ([.int .i64 0, .int .i64 1]) rfl rfl (by intro v hv; repeat (first | exact absurd hv (List.not_mem_nil) | (rcases List.mem_cons.1 hv with rfl | hv; · rfl))) (by omega) rfl rfl rfl ?_; intro b38; refine ⟨okF, ?_⟩); refine aF .here ?_)
       refine bC ?_
       refine dI [43, 44, 45, 46, 47] [0, 0, 0, 0, 0] aC aD (by kernel_rfl) (by kernel_rfl) rfl rfl ?_
       repeat (refine aK ?_)
       ((refine aL (cs := recs eL [r40, r42]) ([lv r40, lv r42]) rfl rfl (by intro v hv; repeat (first | exact absurd hv (List.not_mem_nil) | (rcases List.mem_cons.1 hv with rfl | hv; · rfl))) (by omega) rfl rfl rfl ?_; intro b43; refine ⟨okF, ?_⟩); refine aF .here ?_)
       repeat (refine aK ?_)
       (refine aA rfl (hFm b38 b43 r40 r42 hr40 hr42 _ _ aB aB aB aB aB) rfl rfl ?_; rintro _ _ _ ⟨rfl, rfl, rfl⟩; refine ⟨okF, ?_⟩)
       repeat (refine aK ?_)
       refine dP _ _ _ aO aC aD ⟨rfl, rfl, rfl⟩
      ·((refine aL (cs := recs eL [r40, r42]) ([lv r40, lv r42]) rfl rfl (by intro v hv; repeat (first | exact absurd hv (List.not_mem_nil) | (rcases List.mem_cons.1 hv with rfl | hv; · rfl))) (by omega) rfl rfl rfl ?_; intro b43; refine ⟨okF, ?_⟩); refine aF .here ?_)
       refine bC ?_
       refine dI [38, 44, 45, 46, 47] [0, 0, 0, 0, 0] aC aD (by kernel_rfl) (by kernel_rfl) rfl rfl ?_
       repeat (refine aK ?_)
       ((refine aL (cs := recs eZ [0, 1]) ([.int .i64 0, .int .i64 1]) rfl rfl (by intro v hv; repeat (first | exact absurd hv (List.not_mem_nil) | (rcases List.mem_cons.1 hv with rfl | hv; · rfl))) (by omega) rfl rfl rfl ?_; intro b38; refine ⟨okF, ?_⟩); refine aF .here ?_)
       repeat (refine aK ?_)
       (refine aA rfl (hFm b38 b43 r40 r42 hr40 hr42 _ _ aB aB aB aB aB) rfl rfl ?_; rintro _ _ _ ⟨rfl, rfl, rfl⟩; refine ⟨okF, ?_⟩)
       repeat (refine aK ?_)
       refine dP _ _ _ aO aC aD ⟨rfl, rfl, rfl⟩
 ·rintro G M I ⟨rfl, rfl, rfl⟩
  repeat (refine aK ?_)
  refine aH (by first | exact .inl rfl | exact .inr rfl) rfl rfl _ _ aC aD (⟨rfl, rfl, congrArg Value.bool (bR rfl)⟩)
end
end Go.Proofs.YtgeagiikkeiioaaGreat

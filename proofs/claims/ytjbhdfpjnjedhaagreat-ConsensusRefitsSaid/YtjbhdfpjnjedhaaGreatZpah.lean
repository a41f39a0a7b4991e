/- integer: magnitudes: minus, times, split integer: magnitudes: times The symbolic heap, continued: results that lie in cells. -/
import Derived.Test.YtjbhdfpjnjedhaaGreatZpag
import Derived.Test.YtjbhdfpjnjedhaaGreatZpaf
set_option linter.unusedSimpArgs false
set_option linter.unusedVariables false
set_option maxRecDepth 100000
set_option maxHeartbeats 4000000
namespace Go.Proofs.YtjbhdfpjnjedhaaGreat
open Go Go.Fx
section
variable {X : List Nat} {w0 : World} {M0 : List Ent} {I0 : List aY}
theorem wM {o : List Int} : (fQ o).length ≤ o.length := by
 obtain ⟨k, h1, h2, _⟩ := uB o
 rw [h2]; simp; omega
theorem aBU {p q : Option Addr} {m n cp cq : Nat} (hm : (gr m).length ≤ 100000000000) (hle : n ≤ m) (hp : aO p (recs eG (gr m)) ∈ I0) (hq : aO q (recs eG (gr n)) ∈ I0) :
  CD Tryz.prog 230 [.slice p (gr m).length cp, .slice q (gr n).length cq] X w0 M0 I0 (GrP (m - n) M0 I0) := by
 have da := bY m
 have db := bY n
 have va := dD m
 have vb := dD n
 have hln := iA hle
 generalize ha : gr m = a at *
 generalize hb : gr n = b at *
 refine dY Tryz.func230 rfl Tryz.ntmps230 rfl ?_
 repeat (refine lG ?_)
 (refine kD (a.length) rfl rfl (by omega) (by omega) (by omega) (by omega) (nL _ _) rfl rfl ?_; intro bo; refine ⟨nO, ?_⟩)
 repeat (refine lG ?_)
 refine aT [0, 1, 5, 13] rfl (fun k G M I => ∃ (i : Nat) (o : List Int) (cr : Int), i ≤ a.length ∧ k = a.length - i ∧ o.length = a.length ∧ Dig (o.take i) ∧ (0 ≤ cr ∧ cr ≤ 1) ∧ val (o.take i) - 1000000000 ^ i * cr = val (a.take i) - val (b.take i) ∧ G = [(6, .int .u32 cr), (14, .int .i64 i)] ∧ M = .blk bo (recs eG o) 104 :: M0 ∧ I0 = I) (a.length) _ _ _ aP bV bT (⟨0, _, 0, by omega, by omega, by simp, by simp [Dig], by omega, by simp [val], rfl, rfl, rfl⟩) ?_
 rintro k G M I ⟨i, o, cr, hi, rfl, ho, hd, hcr, hv, rfl, rfl, rfl⟩
 repeat' (first | refine lG ?_ | refine aM rfl (fun h => ?_) (fun h => ?_) | refine aN rfl rfl (fun h => ?_) (fun h => ?_) | fail)
 ·(refine aU rfl (aKJ (i := i) rfl (by omega) hq) rfl rfl ?_; rintro _ _ _ ⟨rfl, rfl, rfl⟩; refine ⟨nO, ?_⟩)
  have d1 := da.gt i
  have d2 := db.gt i
  repeat' (first | refine lG ?_ | refine aM rfl (fun h => ?_) (fun h => ?_) | refine aN rfl rfl (fun h => ?_) (fun h => ?_) | fail)
  ·refine aL (a.length - (i + 1)) _ _ _ (by first | omega | (simp only [List.length_append, List.length_cons, List.length_nil]; omega)) aP bV bT (⟨i + 1, _, 1, by omega, rfl, by rw [eQ]; exact ho, ?_, by omega, ?_, rfl, rfl, rfl⟩)
   ·rw [pM, jC _ _ _ (by omega)]; exact hd.snoc (by omega)
   ·exact aFN hv (by omega) (show gt a i + 1000000000 - (gt b i + cr) - 1000000000 * 1 = gt a i - gt b i - cr by omega)
  ·refine aL (a.length - (i + 1)) _ _ _ (by first | omega | (simp only [List.length_append, List.length_cons, List.length_nil]; omega)) aP bV bT (⟨i + 1, _, 0, by omega, rfl, by rw [eQ]; exact ho, ?_, by omega, ?_, rfl, rfl, rfl⟩)
   ·rw [pM, jC _ _ _ (by omega)]; exact hd.snoc (by omega)
   ·exact aFN hv (by omega) (show gt a i - (gt b i + cr) - 1000000000 * 0 = gt a i - gt b i - cr by omega)
 ·have hiN : i = a.length := by omega
  subst hiN
  rw [List.take_of_length_le (show o.length ≤ a.length by omega)] at hv hd
  rw [List.take_length, List.take_of_length_le hln, va, vb] at hv
  have hcr0 : cr = 0 := by
   have h1 := jY hd
   have h7 := bX hd
   rw [ho] at h1
   by_cases c : cr = 0
   ·exact c
   ·have : cr = 1 := by omega
    subst this
    omega
  subst hcr0
  have hg : fQ o = gr (m - n) := nK hd (by omega)
  refine bC vM ?_
  (refine aU rfl (qE (l := o) (c := a.length) ho.symm (by omega) (by omega) aS) rfl rfl ?_; rintro _ _ _ ⟨rfl, rfl, rfl⟩; refine ⟨nO, ?_⟩)
  repeat (refine lG ?_)
  have hle2 := wM (o := o)
  rw [hg] at hle2 ⊢
  refine aH (by first | exact .inl rfl | exact .inr rfl) rfl rfl _ _ bV bT (⟨rfl, _, _, rfl, ⟨by omega, .inl (Ok.mk _ _)⟩, rfl⟩)
theorem rV {n : Nat} (hn : n ≤ 18446744073709551615) : CD Tryz.prog 225 [.int .u64 n] X w0 M0 I0 (GrP n M0 I0) := by
 refine dY Tryz.func225 rfl Tryz.ntmps225 rfl ?_
 repeat (refine lG ?_)
 refine mM 104 1 ?_
 refine aT [] rfl (fun k G M I => ∃ (m : Nat) (a : Option Addr) (c' : Nat) (xs : List Int), m ≤ n ∧ k = m ∧ (0 < m → xs.length ≤ 2 - (gr m).length + 1) ∧ xs ++ gr m = gr n ∧ xs.length ≤ 3 ∧ G = [(0, .int .u64 m), (3, .slice a xs.length c')] ∧ M = .row a xs.length c' (recs eG xs) 104 1 :: M0 ∧ I0 = I) (n) _ _ _ aP bV bT (⟨n, none, 0, [], by omega, rfl, by simp, by simp, by simp, rfl, rfl, rfl⟩) ?_
 rintro k G M I ⟨m, a, c', xs, hm, rfl, _, hxs, hx3, rfl, rfl, rfl⟩
 have h3 : (gr n).length ≤ 3 := pK (by omega)
 have h4 : xs.length + (gr k).length ≤ 3 := by rw [← hxs] at h3; simpa using h3
 repeat' (first | refine lG ?_ | refine aM rfl (fun h => ?_) (fun h => ?_) | refine aN rfl rfl (fun h => ?_) (fun h => ?_) | fail)
 ·have hk : k ≠ 0 := by omega
  have e1 : ((k : Int)).tmod 1000000000 = ((k % 1000000000 : Nat) : Int) := by rw [Int.tmod_eq_emod_of_nonneg (by omega)]; omega
  have e2 : ((k : Int)).tdiv 1000000000 = ((k / 1000000000 : Nat) : Int) := by rw [Int.tdiv_eq_ediv_of_nonneg (by omega)]; omega
  rw [e1]
  have hgk := tL hk
  have h5 : (gr k).length = (gr (k / 1000000000)).length + 1 := by rw [hgk]; simp
  repeat (refine lG ?_)
  (refine aQ (cs := recs eG [((k % 1000000000 : Nat) : Int)]) ([.int .u32 ((k % 1000000000 : Nat) : Int)]) rfl rfl (by intro v hv; repeat (first | exact absurd hv (List.not_mem_nil) | (rcases List.mem_cons.1 hv with rfl | hv; · rfl))) (by omega) rfl rfl rfl ?_; intro b2; refine ⟨nO, ?_⟩)
  (refine dI (ys := [((k % 1000000000 : Nat) : Int)]) 1 rfl rfl rfl ?_ (by decide) rfl (by omega) (by omega) rfl rfl ?_; (· first | exact Src.blk aS | exact Src.row aS | exact Src.imm aS (by first | assumption | exact .inl (Ok.mk _ _))); intro a2 c2; refine ⟨nO, ?_⟩)
  repeat (refine lG ?_)
  rw [e2]
  refine aL (k / 1000000000) _ _ _ (by first | omega | (simp only [List.length_append, List.length_cons, List.length_nil]; omega)) aP bV bT (⟨k / 1000000000, a2, c2, _, by omega, rfl, by intro _; simp; omega, by rw [List.append_assoc]; rw [hgk] at hxs; exact hxs, by simp; omega, rfl, rfl, rfl⟩)
 ·have h0 : k = 0 := by omega
  subst h0
  rw [gX, List.append_nil] at hxs
  subst hxs
  refine aTK (fun w hw => And.intro (hw.rowLe (List.Mem.head _)) ((hw.rowS (List.Mem.head _)).2.imp id And.right)) (fun hc => ?_)
  refine aAP vM ?_
  refine aH (by first | exact .inl rfl | exact .inr rfl) rfl rfl _ _ bV bT (⟨rfl, _, _, rfl, hc, rfl⟩)
end
end Go.Proofs.YtjbhdfpjnjedhaaGreat
namespace Go.Proofs.YtjbhdfpjnjedhaaGreat
open Go Go.Fx
theorem iJ (l : List Int) (i j : Nat) (x : Int) : st l ((i : Int) + (j : Int)) x = l.set (i + j) x := by
 unfold st
 congr 1
theorem xQ (l : List Int) (i j : Nat) : gt l ((i : Int) + (j : Int)) = l.getD (i + j) 0 := uZ l (i + j)
theorem lT {l : List Int} {i j : Nat} (x : Int) (h : i ≠ j) : (l.set i x).getD j 0 = l.getD j 0 := by
 simp [List.getD, List.getElem?_set_ne h]
section
variable {X : List Nat} {w0 : World} {M0 : List Ent} {I0 : List aY}
theorem aOV {p q : Option Addr} {m n cp cq : Nat} (hm : (gr m).length ≤ 100000000000) (hn : (gr n).length ≤ 100000000000) (hp : aO p (recs eG (gr m)) ∈ I0) (hq : aO q (recs eG (gr n)) ∈ I0) :
  CD Tryz.prog 201 [.slice p (gr m).length cp, .slice q (gr n).length cq] X w0 M0 I0 (GrP (m * n) M0 I0) := by
 have da := bY m
 have db := bY n
 have va := dD m
 have vb := dD n
 generalize ha : gr m = a at *
 generalize hb : gr n = b at *
 refine dY Tryz.func201 rfl Tryz.ntmps201 rfl ?_
 repeat (refine lG ?_)
 (refine kD (a.length + b.length) rfl rfl (by omega) (by omega) (by omega) (by omega) (nL _ _) rfl rfl ?_; intro bo; refine ⟨nO, ?_⟩)
 repeat (refine lG ?_)
 refine aT [1, 5, 18, 19] rfl (fun k G M I => ∃ (i : Nat) (o : List Int), i ≤ a.length ∧ k = a.length - i ∧ o.length = a.length + b.length ∧ Dig o ∧ val o = val (a.take i) * val b ∧ (∀ j : Nat, i + b.length ≤ j → o.getD j 0 = 0) ∧ G = [(20, .int .i64 i)] ∧ M = .blk bo (recs eG o) 104 :: M0 ∧ I0 = I) (a.length) _ _ _ aP bV bT (⟨0, _, by omega, by omega, by simp, Dig.zeros _, by rw [xP]; simp [val], fun j _ => by simp [List.getD, List.getElem?_replicate]; split <;> rfl, rfl, rfl, rfl⟩) ?_
 rintro k G M I ⟨i, o, hi, rfl, ho, hd, hv, hz, rfl, rfl, rfl⟩
 repeat' (first | refine lG ?_ | refine aM rfl (fun h => ?_) (fun h => ?_) | refine aN rfl rfl (fun h => ?_) (fun h => ?_) | fail)
 ·have hia : i < a.length := by omega
  have d1 := da.gt i
  refine aT [1, 5, 6, 7, 18, 19, 20, 25, 26] rfl (fun k G M I => ∃ (j : Nat) (u : List Int) (c : Int), j ≤ b.length ∧ k = b.length - j ∧ u.length = a.length + b.length ∧ Dig u ∧ (0 ≤ c ∧ c < 1000000000) ∧ val u + 1000000000 ^ (i + j) * c = val (a.take i) * val b + 1000000000 ^ i * (gt a i * val (b.take j)) ∧ (∀ j : Nat, i + b.length ≤ j → u.getD j 0 = 0) ∧ G = [(8, .int .u64 c), (27, .int .i64 j)] ∧ M = .blk bo (recs eG u) 104 :: M0 ∧ I0 = I) (b.length) _ _ _ aP bV bT (⟨0, o, 0, by omega, by omega, ho, hd, by omega, by simp [val, hv], hz, rfl, rfl, rfl⟩) ?_
  rintro k G M I ⟨j, u, c, hj, rfl, hu, hdu, hc, hvu, hzu, rfl, rfl, rfl⟩
  have d2 := db.gt j
  have d3 := hdu.gt ((i : Int) + j)
  have d4 := qL d1 d2 d3 hc
  have e1 : (gt u ((i : Int) + j) + gt a i * gt b j + c).tmod 1000000000 = (gt u ((i : Int) + j) + gt a i * gt b j + c) % 1000000000 := Int.tmod_eq_emod_of_nonneg d4.2.1.1
  have e2 : (gt u ((i : Int) + j) + gt a i * gt b j + c).tdiv 1000000000 = (gt u ((i : Int) + j) + gt a i * gt b j + c) / 1000000000 := Int.tdiv_eq_ediv_of_nonneg d4.2.1.1
  repeat' (first | refine lG ?_ | refine aM rfl (fun h => ?_) (fun h => ?_) | refine aN rfl rfl (fun h => ?_) (fun h => ?_) | fail)
  ·have hst := aIM (o := u) (b := b) (j := j) hvu (by omega)
   rw [e1, e2]
   refine aL (b.length - (j + 1)) _ _ _ (by first | omega | (simp only [List.length_append, List.length_cons, List.length_nil]; omega)) aP bV bT (⟨j + 1, _, _, by omega, rfl, by rw [eQ]; exact hu, ?_, d4.2.2, ?_, ?_, rfl, rfl, rfl⟩)
   ·rw [iJ]; exact hdu.set _ (by omega)
   ·rw [iJ, xQ, uZ, uZ]
    rw [uZ] at hst
    exact hst
   ·intro t ht
    rw [iJ, lT _ (by omega)]
    exact hzu t ht
  ·have hjb : j = b.length := by omega
   subst hjb
   have hst := aET (o := u) (b := b) hvu (by omega) (hzu _ (Nat.le_refl _))
   repeat (refine lG ?_)
   refine aL (a.length - (i + 1)) _ _ _ (by first | omega | (simp only [List.length_append, List.length_cons, List.length_nil]; omega)) aP bV bT (⟨i + 1, _, by omega, rfl, by rw [eQ]; exact hu, ?_, ?_, ?_, rfl, rfl, rfl⟩)
   ·rw [iJ]; exact hdu.set _ hc
   ·rw [iJ, hst, cB, uZ]
    rw [Int.add_mul, Int.mul_assoc]
   ·intro t ht
    rw [iJ, lT _ (by omega)]
    exact hzu t (by omega)
 ·have hiN : i = a.length := by omega
  subst hiN
  rw [List.take_length, va, vb] at hv
  have hg : fQ o = gr (m * n) := nK hd (by rw [hv, Int.natCast_mul])
  refine bC vM ?_
  (refine aU rfl (qE (l := o) (c := a.length + b.length) ho.symm (by omega) (by omega) aS) rfl rfl ?_; rintro _ _ _ ⟨rfl, rfl, rfl⟩; refine ⟨nO, ?_⟩)
  repeat (refine lG ?_)
  have hle2 := wM (o := o)
  rw [hg] at hle2 ⊢
  refine aH (by first | exact .inl rfl | exact .inr rfl) rfl rfl _ _ bV bT (⟨rfl, _, _, rfl, ⟨by omega, .inl (Ok.mk _ _)⟩, rfl⟩)
end
end Go.Proofs.YtjbhdfpjnjedhaaGreat
namespace Go.Fx
def aDA (P : Program) (tmps : Array Value) (w : World) : List ResultVar → List Value → Prop
 | [], [] => True
 | .tmp t :: r, v :: vs => tmps.getD t undef = v ∧ aDA P tmps w r vs
 | .cell a t :: r, v :: vs => (do loadVar t (← asAddr (tmps.getD a undef)) : Sem Value).run P w = .ok v w ∧ aDA P tmps w r vs
 | _, _ => False
theorem wL (P : Program) (tmps : Array Value) (w : World) : ∀ (rs : List ResultVar) (vs : List Value), aDA P tmps w rs vs → (rs.toArray.mapM fun
  | ResultVar.tmp t => (pure (tmps.getD t undef) : Sem Value)
  | ResultVar.cell a t => do loadVar t (← asAddr (tmps.getD a undef))).run P w = Result.ok vs.toArray w := by
 intro rs vs h
 rw [List.mapM_toArray]
 simp only [Sem.run_map]
 have : ∀ (l : List ResultVar) (vs : List Value), aDA P tmps w l vs → (List.mapM (m := Sem) (fun
  | ResultVar.tmp t => (pure (tmps.getD t undef) : Sem Value)
  | ResultVar.cell a t => do loadVar t (← asAddr (tmps.getD a undef))) l).run P w = Result.ok vs w := by
  intro l
  induction l with
  | nil => intro vs h; cases vs with
   | nil => rfl
   | cons v vs => exact h.elim
  | cons r l ih =>
   intro vs h
   cases vs with
   | nil => cases r <;> exact h.elim
   | cons v vs =>
    cases r with
    | tmp t =>
     obtain ⟨h1, h2⟩ := h
     simp only [List.mapM_cons, Sem.run_bind, Sem.run_pure, Result.andThen_ok, ih vs h2, h1]
    | cell a t =>
     obtain ⟨h1, h2⟩ := h
     simp only [List.mapM_cons, Sem.run_bind] at h1 ⊢
     rw [h1]
     simp only [Result.andThen_ok, Sem.run_bind, ih vs h2, Sem.run_pure]
 rw [this rs vs h]
 rfl
theorem aDV {P : Program} {a : Tmp} {t : TypeId} {tmps : Array Value} {w : World} {b : Nat} {v : Value} {e : TypeId} [ht : ScalarTy P t] (hb : tmps.getD a undef = .pointer (some ⟨b, 0, none⟩)) (hB : Blk w b [v] e) :
  (do loadVar t (← asAddr (tmps.getD a undef)) : Sem Value).run P w = .ok v w := by
 have hc := hB.cell (o := 0) rfl
 have hb' : tmps[a]?.getD undef = .pointer (some ⟨b, 0, none⟩) := by simpa using hb
 simp [hb', asAddr, loadVar, nI, hc]
theorem aNW {P : Program} {a : Tmp} {t : TypeId} {sz : Nat} {tmps : Array Value} {w : World} {b : Nat} {cs : List Value} {e : TypeId} [ht : AggTy P t sz] (hb : tmps.getD a undef = .pointer (some ⟨b, 0, none⟩)) (hB : Blk w b cs e) (hl : cs.length = sz) :
  (do loadVar t (← asAddr (tmps.getD a undef)) : Sem Value).run P w = .ok (.agg cs.toArray) w := by
 have := run_loadCellsFrom (P := P) cs (hB.row0) sz 0 #[] (by omega) rfl
 have hb' : tmps[a]?.getD undef = .pointer (some ⟨b, 0, none⟩) := by simpa using hb
 simp [hb', asAddr, loadVar, oF, run_sizeOf ht.size, loadCells, this]
section
variable {P : Program} {n : Nat} {G : Env} {X : List Nat} {w0 : World} {M M' : List Ent} {I I' : List aY}
inductive RsD (P : Program) (G : Env) (M : List Ent) : List ResultVar → List Value → Prop
 | nil : RsD P G M [] []
 | tmp {t : Nat} {v : Value} {r : List ResultVar} {vs : List Value} (h : lk G t = some v) (k : RsD P G M r vs) : RsD P G M (.tmp t :: r) (v :: vs)
 | cell {a : Nat} {t : TypeId} {b : Nat} {v : Value} {e : TypeId} {r : List ResultVar} {vs : List Value} (ht : ScalarTy P t) (h : lk G a = some (.pointer (some ⟨b, 0, none⟩))) (hm : .blk b [v] e ∈ M) (k : RsD P G M r vs) : RsD P G M (.cell a t :: r) (v :: vs)
 | cellN {a : Nat} {t : TypeId} {sz b : Nat} {cs : List Value} {e : TypeId} {r : List ResultVar} {vs : List Value} (ht : AggTy P t sz) (h : lk G a = some (.pointer (some ⟨b, 0, none⟩))) (hm : .blk b cs e ∈ M) (hl : cs.length = sz) (k : RsD P G M r vs) : RsD P G M (.cell a t :: r) (.agg cs.toArray :: vs)
theorem RsD.ok {a : Act} {w : World} (ha : Has n G a) (hw : Mem X w0 M I w) {rs : List ResultVar} {vs : List Value} (h : RsD P G M rs vs) : aDA P a.tmps w rs vs := by
 induction h with
 | nil => trivial
 | tmp h _ ih => exact ⟨by simp [ha.get _ _ h], ih⟩
 | cell ht h hm _ ih => exact ⟨aDV (by simp [ha.get _ _ h]) (hw.blk hm), ih⟩
 | cellN ht h hm hl _ ih => exact ⟨aNW (by simp [ha.get _ _ h]) (hw.blk hm) hl, ih⟩
theorem fO {fn : Func} {K : Value → List Ent → List aY → Prop} {rs : List ResultVar} {vs : List Value} {ex : Exit} (he : ex = .ret ∨ ex = .normal) (hr : fn.results = rs.toArray) (hv : RsD P G M rs vs) (hl : Nat.beq vs.length 1 = false) (M' : List Ent) (I' : List aY) (hM : SubP M M') (hI : Inc I I') (h : K (.tuple vs.toArray) M' I') :
  ND n (Body P fn (KB K X w0)) ex G X w0 M I := ⟨fun w hw => ⟨fun a ha => by
 unfold Body
 have e1 := wL P a.tmps w rs vs (hv.ok ha hw)
 have e2 : (results fn a.tmps).run P w = .ok (.tuple vs.toArray) w := by
  have hne : ¬ vs.length = 1 := by intro e; simp [e] at hl
  unfold results
  rw [hr, Sem.run_bind]
  refine (congrArg (fun r => Result.andThen r fun a w' => Sem.run P (pure (if h : a.size = 1 then a[0] else Value.tuple a)) w') e1).trans ?_
  simp [hne]
 rcases he with rfl | rfl <;> exact ⟨ha.defers, _, e2, _, rfl, M', I', h, hw.weak hM hI⟩⟩⟩
theorem aUP {fn : Func} {K : Value → List Ent → List aY → Prop} {ex : Exit} {a : Tmp} {t : TypeId} {b : Nat} {v : Value} {e : TypeId} [ScalarTy P t] (he : ex = .ret ∨ ex = .normal) (hr : fn.results = #[.cell a t]) (hv : lk G a = some (.pointer (some ⟨b, 0, none⟩))) (hm : .blk b [v] e ∈ M) (M' : List Ent) (I' : List aY) (hM : SubP M M') (hI : Inc I I') (h : K v M' I') :
  ND n (Body P fn (KB K X w0)) ex G X w0 M I := ⟨fun w hw => ⟨fun act ha => by
 unfold Body
 have e1 : act.tmps.getD a undef = .pointer (some ⟨b, 0, none⟩) := by simp [ha.get a _ hv]
 have e2 := aCS (P := P) (t := t) hr e1 (hw.blk hm)
 rcases he with rfl | rfl <;> exact ⟨ha.defers, _, e2, _, rfl, M', I', h, hw.weak hM hI⟩⟩⟩
end
end Go.Fx

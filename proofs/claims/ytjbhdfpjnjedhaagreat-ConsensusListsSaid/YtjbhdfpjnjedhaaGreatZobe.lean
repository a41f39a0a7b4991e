/- clear of a slice of ints; indices of a slice that begins inside its block; slices.Compact of ints. The determinant by elimination, one column at a time. -/
import Derived.Lib.SliceRun
import Derived.Test.YtjbhdfpjnjedhaaGreatZoag
import Derived.Test.YtjbhdfpjnjedhaaGreatZobd
import Derived.Test.YtjbhdfpjnjedhaaGreatZoal
import Derived.Test.YtjbhdfpjnjedhaaGreatZoan
import Derived.Test.YtjbhdfpjnjedhaaGreatZobc
set_option linter.unusedSimpArgs false
set_option linter.unusedVariables false
set_option maxRecDepth 100000
set_option maxHeartbeats 4000000
namespace Go.Fx
section
variable {P : Program} {n : Nat} {ops : List Oper} {Q : Exit → Act → World → Prop} {m : Mode} {G : Env} {w : World} {ty : TypeId} {pos : String} {af : Array Edge} {g : Option (Nat × Bool)} {l : List Oper} {X : List Nat} {w0 : World} {M M' : List Ent} {I : List aY}
theorem aIM {t e e' : TypeId} {sz b o k c : Nat} {x : Operand} {cs : List Value} [ht : SliceTy P t e sz] (hz : ∀ w, (zeroValue e).run P w = .ok (.int .i64 0) w) (hx : ev G x = some (.slice (some ⟨b, o, none⟩) k c)) (hk : 0 < k) (hB : Blk w b cs e') (ho : o + k ≤ cs.length) :
  Eff P n G (.call { callee := .builtin .clear, args := #[x], argTypes := #[t] }) ty w (fun _ w' => Blk w' b (splice cs o (List.replicate k (.int .i64 0))) e' ∧ Ext [b] w w') := by
 refine ⟨?_⟩
 intro a ha dst pos after guard
 have hl : (List.replicate k (Value.int .i64 0)).length = k := List.length_replicate
 have hst := run_storeCells_at P b o e' (List.replicate k (Value.int .i64 0)) 0 cs.toArray w hB (by simpa using ho) (by intro u hu; rw [List.eq_of_mem_replicate hu]; rfl)
 simp only [Nat.add_zero] at hst
 have hzc : (Builtin.zeroCells (Value.int .i64 0).cells k).toList = List.replicate k (Value.int .i64 0) := by
  show (Builtin.zeroCells #[Value.int .i64 0] k).toList = _
  simp [Builtin.zeroCells]
  apply List.ext_getElem
  ·simp
  ·intro i h1 h2
   simp [Nat.mod_one]
 refine tH (v := .tuple #[]) (w' := w.setRow b (splice cs o (List.replicate k (.int .i64 0))).toArray) ?_ ⟨_, ⟨?_, Ext.setRow (by simp) _⟩, rfl⟩
 ·obtain ⟨k', rfl⟩ : ∃ k', k = k' + 1 := ⟨k - 1, by omega⟩
  simp only [splice, hl]
  simp only [hl] at hst
  simp [execOp, resolve, invoke, builtin, ha.ev hx, Builtin.clear_, fH ht.und, hz, hzc, hst]
 ·exact setRow_heap w b _ _ _ _ hB
theorem aNX {t e e' : TypeId} {sz b o k c : Nat} {x : Operand} {cs cs' : List Value} [SliceTy P t e sz] (hz : ∀ w, (zeroValue e).run P w = .ok (.int .i64 0) w) (hx : ev G x = some (.slice (some ⟨b, o, none⟩) k c)) (hk : 0 < k) (hr : Rep (.blk b cs e') (.blk b cs' e') M M') (hs : splice cs o (List.replicate k (.int .i64 0)) = cs') (ho : o + k ≤ cs.length) (hg : oO ops G g = some true)
  (kk : OkD m X w0 M' I ∧ RD P n ops Q m.nextE l G X w0 M' I) : RD P n ops Q m (⟨none, .call { callee := .builtin .clear, args := #[x], argTypes := #[t] }, ty, pos, af, g⟩ :: l) G X w0 M I :=
 zO (d := none) (K := fun _ M2 I2 => M2 = M' ∧ I2 = I) hg
  (fun w hw => (aIM hz hx hk (hw.blk hr.mem) ho).mono (fun _ w' ⟨hB, hE⟩ => ⟨_, _, ⟨rfl, rfl⟩, hw.upd hr hE (fun b hb => .inl hb) (by simp [Ent.blocks]) (by rw [hs] at hB; exact hB)⟩)) rfl rfl
  (fun _ _ _ ⟨hM, hI⟩ => by subst hM; subst hI; exact kk)
end
theorem aKI {P : Program} {n : Nat} {Q : Exit → Act → World → Prop} {G : Env} {X : List Nat} {w0 : World} {M : List Ent} {I : List aY} {ops l : List Oper} {m : Fx.Mode} {ty : TypeId} {pos : String} {af : Array Edge} {g : Option (Nat × Bool)} {d : Nat} {t e : TypeId} {sz : Nat} {x ix : Operand} {b o len c : Nat} {k' : IntKind} {i : Int} [SliceTy P t e sz] (hx : ev G x = some (.slice (some ⟨b, o, none⟩) len c)) (hi : ev G ix = some (.int k' i)) (h : 0 ≤ i ∧ i < len) (hg : oO ops G g = some true)
  (hd : Nat.ble (d + 1) n = true) (k : RD P n ops Q m.next l ((d, .pointer (some ⟨b, o + i.toNat * sz, none⟩)) :: G) X w0 M I) : RD P n ops Q m (⟨some d, .indexAddr t x ix, ty, pos, af, g⟩ :: l) G X w0 M I :=
 aF hg (fun _ => by
  have := pG (n := n) (ty := ty) (P := P) (G := G) (t := t) (e := e) (sz := sz) hx hi h (Ok.mk b o) (C := fun _ => True)
  refine ⟨fun a ha dst pos after guard w _ => ?_⟩
  have h2 := this.go a ha dst pos after guard w True.intro
  simpa [pt, bl, of] using h2) rfl hd k
end Go.Fx
namespace Go.Proofs.YtjbhdfpjnjedhaaGreat
open Go Go.Fx
theorem aUC (w : World) : (zeroValue 3).run Tryz.prog w = .ok (.int .i64 0) w := by kernel_rfl
theorem aQF {b c j : Nat} (h : j < c) : zM (some ⟨b, 0, none⟩) c j 1 = some ⟨b, j, none⟩ := by
 unfold zM
 rw [if_neg (by omega)]
 simp [Addr.add]
 exact fun h => h.symm
theorem aRU {E : List Int} {tl : List Value} {o i : Nat} (h : i < E.length) (e : o = i) : At (recs (eI .i64) E ++ tl) o (.int .i64 (gt E (i : Int))) := by
 subst e
 refine At.mk ?_
 rw [kS, List.getElem?_append_left (by simpa using h), List.getElem?_map, fK h]
 simp [h]
theorem aRX {E L : List Int} {tl : List Value} {kk n : Nat} (hE : E.length = n) (hk : kk ≤ n) (hL : E.take kk = L) : splice (recs (eI .i64) E ++ tl) kk (List.replicate (n - kk) (Value.int .i64 0)) = recs (eI .i64) (L ++ List.replicate (n - kk) 0) ++ tl := by
 subst hL
 have hlen : (E.map (Value.int .i64)).length = n := by simp [hE]
 simp only [splice, kS, List.length_replicate, List.map_append, List.map_take, List.map_replicate]
 rw [List.take_append_of_le_length (by omega), show kk + (n - kk) = (E.map (Value.int .i64)).length by omega, List.drop_left]
theorem aLL {E D : List Int} {a i : Nat} (h : E.drop a = D.drop a) (hi : a ≤ i) (hE : E.length = D.length) (hlt : i < E.length) : gt E (i : Int) = gt D (i : Int) := by
 rw [fK hlt, fK (by omega)]
 have h1 : (E.drop a)[i - a]? = (D.drop a)[i - a]? := by rw [h]
 rw [List.getElem?_drop, List.getElem?_drop, show a + (i - a) = i by omega] at h1
 rw [List.getElem?_eq_getElem hlt, List.getElem?_eq_getElem (by omega)] at h1
 exact Option.some.inj h1
theorem aGV {D : List Int} {j : Nat} (h1 : 1 ≤ j) (hj : j < D.length) : D.take (j + 1) = D.take (j - 1) ++ [gt D ((j - 1 : Nat) : Int), gt D (j : Int)] ∧ D.take j = D.take (j - 1) ++ [gt D ((j - 1 : Nat) : Int)] := by
 have e1 : D.take (j + 1) = D.take j ++ [D[j]] := (List.take_append_getElem hj).symm
 have e2 : D.take (j - 1 + 1) = D.take (j - 1) ++ [D[j - 1]] := (List.take_append_getElem (by omega)).symm
 rw [show j - 1 + 1 = j by omega] at e2
 rw [fK (by omega), fK hj]
 refine ⟨?_, e2⟩
 rw [e1, e2, List.append_assoc]; rfl
theorem aGU {D : List Int} {j : Nat} (h1 : 1 ≤ j) (hj : j < D.length) : mO (D.take (j + 1)) = if gt D (j : Int) = gt D ((j - 1 : Nat) : Int) then mO (D.take j) else mO (D.take j) ++ [gt D (j : Int)] := by
 rw [(aGV h1 hj).1, (aGV h1 hj).2]
 exact aBL _ _ _
section
variable {X : List Nat} {w0 : World} {M0 M1 : List Ent} {I0 : List aY}
theorem aCF {b n c : Nat} {D : List Int} {tl : List Value} (hl : D.length = n) (hn : n ≤ 100) (hc : n ≤ c) :
  CD Tryz.prog 65 [.slice (some ⟨b, 0, none⟩) n c] X w0 (.blk b (recs (eI .i64) D ++ tl) 3 :: M1) I0 (fun v M I => I0 = I ∧ v = .slice (some ⟨b, 0, none⟩) (mO D).length c ∧ M = .blk b (recs (eI .i64) (mO D ++ List.replicate (n - (mO D).length) 0) ++ tl) 3 :: M1) := by
 refine aZ Tryz.func65 rfl Tryz.ntmps65 rfl ?_
 by_cases h2 : n < 2
 ·have e : mO D = D := by
   match D, hl with
   | [], _ => rfl
   | [x], _ => rfl
   | _ :: _ :: _, h => simp at h; omega
  rw [e, hl, Nat.sub_self, List.replicate_zero, List.append_nil]
  repeat (refine aI ?_)
  refine aG (by first | exact .inl rfl | exact .inr rfl) rfl rfl _ _ aD aC (⟨rfl, rfl, rfl⟩)
 repeat (refine aI ?_)
 refine aP [0] rfl (fun k G M I => ∃ j : Nat, 1 ≤ j ∧ j ≤ n ∧ k = n - j ∧ mO (D.take j) = D.take j ∧ G = [(3, .int .i64 j)] ∧ M = .blk b (recs (eI .i64) D ++ tl) 3 :: M1 ∧ I0 = I) (n - 1) _ _ _ aO aD aC (⟨1, by omega, by omega, rfl, by rw [List.take_one]; cases D <;> rfl, rfl, rfl, rfl⟩) ?_
 rintro kk G M I ⟨j, hj1, hj, rfl, hcj, rfl, rfl, rfl⟩
 by_cases hjn : j < n
 ·have hcm := aGU (D := D) hj1 (by omega)
  have ejm : ((j : Int) - 1) = ((j - 1 : Nat) : Int) := by omega
  have hlD : (D.length : Int) = n := by omega
  repeat (refine aI ?_)
  (repeat refine aH ?_); refine dI [0, 1, 2, 3, 4, 5, 6, 7, 8, 9] [0, 0, 0, 0, 0, 0, 0, 0, 0, 0] mixed (by kernel_rfl) ?_
  repeat (refine aI ?_)
  rw [ejm]
  by_cases heq : gt D (j : Int) = gt D ((j - 1 : Nat) : Int)
  ·rw [if_pos heq] at hcm
   have hjc : j < c := by omega
   repeat (refine aI ?_)
   (refine aF rfl (fun _ => vE (e := 3) (sz := 1) j n (n - j) rfl (.inr ⟨_, _, _, rfl, rfl, rfl⟩) (.inl ⟨rfl, rfl⟩) (by omega) (by omega) (by omega)) rfl rfl ?_)
   rw [aQF hjc]
   repeat (refine aI ?_)
   refine aP [0, 4] rfl (fun k G M I => ∃ (q t : Nat) (E : List Int), 1 ≤ t ∧ t ≤ n - j ∧ k = n - j - t ∧ E.length = n ∧ 1 ≤ q ∧ q + 1 ≤ j + t ∧ E.take q = mO (D.take (j + t)) ∧ E.drop (j + t - 1) = D.drop (j + t - 1) ∧ G = [(3, .int .i64 q), (5, .int .i64 t)] ∧ M = .blk b (recs (eI .i64) E ++ tl) 3 :: M1 ∧ I0 = I) (n - j - 1) _ _ _ aO aD aC (⟨j, 1, D, by omega, by omega, rfl, hl, hj1, by omega, by rw [hcm, hcj], rfl, rfl, rfl, rfl⟩) ?_
   rintro kk G M I ⟨q, t, E, ht1, ht, rfl, hE, hq1, hq, hEt, hEd, rfl, rfl, rfl⟩
   have hlE : (E.length : Int) = n := by omega
   by_cases htn : t < n - j
   ·have hcm2 := aGU (D := D) (j := j + t) (by omega) (by omega)
    have g1 := aLL (i := j + t) hEd (by omega) (by omega) (by omega)
    have g2 := aLL (i := j + t - 1) hEd (by omega) (by omega) (by omega)
    repeat (refine aI ?_)
    (repeat refine aH ?_); refine dI [0, 1, 2, 3, 4, 5, 6, 7, 8, 9] [0, 0, 0, 0, 0, 0, 0, 0, 0, 0] mixed (by kernel_rfl) ?_
    repeat (refine aI ?_)
    refine aKI rfl rfl (by omega) rfl rfl ?_
    (apply fT; exact fJ; exact rfl; exact aB; exact aRU (i := j + t) (by omega) (by omega); exact rfl; exact rfl)
    repeat (refine aI ?_)
    refine aKI rfl rfl (by omega) rfl rfl ?_
    (apply fT; exact fJ; exact rfl; exact aB; exact aRU (i := j + t - 1) (by omega) (by omega); exact rfl; exact rfl)
    rw [g1, g2]
    by_cases hne : gt D ((j + t : Nat) : Int) = gt D ((j + t - 1 : Nat) : Int)
    ·rw [if_pos hne] at hcm2
     repeat (refine aI ?_)
     refine aK (n - j - (t + 1)) _ _ _ (by first | omega | (simp only [List.length_append, List.length_cons, List.length_nil]; omega)) aO aD aC (⟨q, t + 1, E, by omega, by omega, by omega, hE, hq1, by omega, by rw [hEt, ← hcm2]; rfl, by rw [show j + (t + 1) - 1 = (j + t - 1) + 1 by omega, ← List.drop_drop, hEd, List.drop_drop], rfl, rfl, rfl⟩)
    ·rw [if_neg hne] at hcm2
     repeat (refine aI ?_)
     refine aKI rfl rfl (by omega) rfl rfl ?_
     (apply fT; exact fJ; exact rfl; exact aB; exact aRU (i := j + t) (by omega) (by omega); exact rfl; exact rfl)
     repeat (refine aI ?_)
     have hst : (st E (q : Int) (gt E ((j + t : Nat) : Int))) = E.set q (gt E ((j + t : Nat) : Int)) := rfl
     refine aK (n - j - (t + 1)) _ _ _ (by first | omega | (simp only [List.length_append, List.length_cons, List.length_nil]; omega)) aO aD aC (⟨q + 1, t + 1, st E (q : Int) (gt E ((j + t : Nat) : Int)), by omega, by omega, by omega, by rw [eU]; exact hE, by omega, by omega, ?_, ?_, rfl, rfl, rfl⟩)
     ·rw [hst, List.take_add_one, List.take_set_of_le (Nat.le_refl _), hEt, show j + (t + 1) = j + t + 1 by omega, hcm2, g1]
      rw [List.getElem?_set_self (by omega)]
      rfl
     ·rw [hst, List.drop_set_of_lt (by omega), show j + (t + 1) - 1 = (j + t - 1) + 1 by omega, ← List.drop_drop, hEd, List.drop_drop]
   ·obtain rfl : t = n - j := by omega
    rw [show j + (n - j) = D.length by omega, List.take_length] at hEt
    have hql : (mO D).length = q := by rw [← hEt, List.length_take]; omega
    have hqc : q < c := by omega
    rw [hql]
    repeat (refine aI ?_)
    (refine aF rfl (fun _ => vE (e := 3) (sz := 1) q n (n - q) rfl (.inr ⟨_, _, _, rfl, rfl, rfl⟩) (.inl ⟨rfl, rfl⟩) (by omega) (by omega) (by omega)) rfl rfl ?_)
    rw [aQF hqc]
    refine aNX aUC rfl (by omega) .here (aRX hE (by omega) hEt) (by rw [List.length_append, iQ]; omega) rfl ⟨okF, ?_⟩
    repeat (refine aI ?_)
    (refine aF rfl (fun _ => pF q rfl rfl rfl (by omega)) rfl rfl ?_)
    repeat (refine aI ?_)
    refine aG (by first | exact .inl rfl | exact .inr rfl) rfl rfl _ _ aD aC (⟨rfl, rfl, rfl⟩)
  ·rw [if_neg heq] at hcm
   repeat (refine aI ?_)
   refine aK (n - (j + 1)) _ _ _ (by first | omega | (simp only [List.length_append, List.length_cons, List.length_nil]; omega)) aO aD aC (⟨j + 1, by omega, by omega, rfl, by rw [hcm, hcj, fK (by omega)]; exact List.take_append_getElem (by omega), rfl, rfl, rfl⟩)
 ·obtain rfl : j = n := by omega
  rw [← hl, List.take_length] at hcj
  rw [hcj, hl, Nat.sub_self, List.replicate_zero, List.append_nil]
  repeat (refine aI ?_)
  refine aG (by first | exact .inl rfl | exact .inr rfl) rfl rfl _ _ aD aC (⟨rfl, rfl, rfl⟩)
end
end Go.Proofs.YtjbhdfpjnjedhaaGreat
namespace Go.Proofs.YtjbhdfpjnjedhaaGreat
open Go Go.Fx
def uJ (A : Mt) (j x : Nat) : Mt := (swp A j x).mapIdx (fun i row => if i ≤ j then row else if row.getD j 0 = 0 then row else kK j (row.getD j 0 / at2 (swp A j x) j j) (rowAt (swp A j x) j) row)
def zK (A : Mt) (j : Nat) : Nat → Nat → Rat := fun i k => at2 A (i + j) (k + j)
theorem aHB {A : Mt} {R C j x a : Nat} (h : qO A R C) (hj : j < R) (hx : x < R) (ha : a < R) : rowAt (uJ A j x) a = if a ≤ j then rowAt A (tr j x a) else if at2 A (tr j x a) j = 0 then rowAt A (tr j x a) else kK j (at2 A (tr j x a) j / at2 A x j) (rowAt A x) (rowAt A (tr j x a)) := by
 have hs := aFE (r := j) (k := x) h hj hx
 have hr : ∀ i, rowAt (swp A j x) i = rowAt A (tr j x i) := fun i => pI h hj hx
 have htr : tr j x j = x := by simp [tr]
 have hat : at2 (swp A j x) j j = at2 A x j := by unfold at2; rw [hr, htr]
 have e1 : rowAt (uJ A j x) a = if a ≤ j then rowAt (swp A j x) a else if (rowAt (swp A j x) a).getD j 0 = 0 then rowAt (swp A j x) a else kK j ((rowAt (swp A j x) a).getD j 0 / at2 (swp A j x) j j) (rowAt (swp A j x) j) (rowAt (swp A j x) a) := by
  have hl : a < (swp A j x).length := by rw [hs.1]; exact ha
  unfold uJ
  rw [aEF hl]
 rw [e1, hat, hr, hr, htr]
 rfl
theorem aOD {A : Mt} {R C j x a b : Nat} (h : qO A R C) (hj : j < R) (hx : x < R) (ha : a < R) (hb : b < C) (haj : j < a) (hbj : j ≤ b) : at2 (uJ A j x) a b = at2 A (tr j x a) b - at2 A (tr j x a) j / at2 A x j * at2 A x b := by
 have e : at2 (uJ A j x) a b = (rowAt (uJ A j x) a).getD b 0 := rfl
 rw [e, aHB h hj hx ha, if_neg (by omega)]
 by_cases e0 : at2 A (tr j x a) j = 0
 ·rw [if_pos e0, e0]
  show at2 A (tr j x a) b = _
  grind
 ·rw [if_neg e0]
  unfold kK
  rw [uB (by rw [h.2 _ (xM hj hx ha)]; exact hb), if_neg (by omega)]
  rfl
theorem aQD {A : Mt} {n j x : Nat} (h : qO A n n) (hj : j < n) (hjx : j ≤ x) (hx : x < n) (h0 : at2 A x j ≠ 0) :
  dt (n - j) (zK A j) = esg j x * at2 A x j * dt (n - (j + 1)) (zK (uJ A j x) (j + 1)) := by
 obtain ⟨m, hm⟩ : ∃ m, n - j = m + 1 := ⟨n - j - 1, by omega⟩
 have hm2 : n - (j + 1) = m := by omega
 rw [hm, hm2]
 -- exchanged
 have h1 : dt (m + 1) (fun a b => zK A j (tr 0 (x - j) a) b) = esg j x * dt (m + 1) (zK A j) := by
  unfold esg
  by_cases e : j = x
  ·subst e
   rw [if_pos rfl, Nat.sub_self, show (fun a b => zK A j (tr 0 0 a) b) = zK A j by funext a b; simp only [tr]; split <;> simp_all]; grind
  ·rw [if_neg e, aLG (by omega) (by omega) (by omega)]; grind
 obtain ⟨g, hg⟩ : ∃ g : Nat → Nat → Rat, g = fun a b => zK A j (tr 0 (x - j) a) b := ⟨_, rfl⟩
 rw [← hg] at h1
 have htr : ∀ a, tr 0 (x - j) a + j = tr j x (a + j) := fun a => by
  by_cases e1 : a = 0
  ·have : tr 0 (x - j) a = x - j := by simp [tr, e1]
   have h2 : tr j x (a + j) = x := by simp [tr, e1]
   omega
  ·by_cases e2 : a = x - j
   ·have : tr 0 (x - j) a = 0 := by simp [tr, e1, e2]
    have h2 : tr j x (a + j) = j := by simp [tr, e1, show a + j = x by omega]
    omega
   ·have : tr 0 (x - j) a = a := by simp [tr, e1, e2]
    have h2 : tr j x (a + j) = a + j := by simp [tr, e1, show ¬ a + j = x by omega]
    omega
 have hgv : ∀ a b, g a b = at2 A (tr j x (a + j)) (b + j) := fun a b => by rw [hg]; show at2 A (tr 0 (x - j) a + j) (b + j) = _; rw [htr]
 have htj : tr j x (0 + j) = x := by simp [tr]
 have hg0 : ∀ b, g 0 b = at2 A x (b + j) := fun b => by rw [hgv, htj]
 have h2 := aLS (n := m + 1) (r := 0) (f := g) (c := fun a => g a 0 / g 0 0) (by omega)
 have hg00 : g 0 0 ≠ 0 := by rw [hg0, Nat.zero_add]; exact h0
 have h3 : dt (m + 1) (fun a b => if a = 0 then g 0 b else g a b - g a 0 / g 0 0 * g 0 b) = g 0 0 * dt m (zK (uJ A j x) (j + 1)) := by
  rw [aHC (fun i hi _ => by
   rw [if_neg (by omega)]
   have : g i 0 / g 0 0 * g 0 0 = g i 0 := by grind
   grind)]
  rw [if_pos rfl]
  congr 1
  apply kF
  intro a b ha hb
  rw [if_neg (by omega)]
  show _ = at2 (uJ A j x) (a + (j + 1)) (b + (j + 1))
  rw [aOD h hj hx (by omega) (by omega) (by omega) (by omega), hg0, hg0, hgv, hgv, Nat.zero_add]
  rw [show a + 1 + j = a + (j + 1) by omega, show b + 1 + j = b + (j + 1) by omega]
 have hs : esg j x * esg j x = 1 := by unfold esg; split <;> grind
 have h4 : dt (m + 1) (zK A j) = esg j x * dt (m + 1) g := by rw [h1]; grind
 rw [h4, ← h2, h3, hg0, Nat.zero_add]; grind
theorem aPO {A : Mt} {n j : Nat} (hj : j < n) (h : ∀ i, j ≤ i → i < n → at2 A i j = 0) : dt (n - j) (zK A j) = 0 := by
 obtain ⟨m, hm⟩ : ∃ m, n - j = m + 1 := ⟨n - j - 1, by omega⟩
 rw [hm]
 exact aGD (fun i hi => by show at2 A (i + j) (0 + j) = 0; rw [Nat.zero_add]; exact h _ (by omega) (by omega))
theorem aTX {A : Mt} {n : Nat} : dt (n - 0) (zK A 0) = dt n (at2 A) := rfl
end Go.Proofs.YtjbhdfpjnjedhaaGreat

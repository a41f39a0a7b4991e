/- clear of a slice of ints; indices of a slice that begins inside its block; slices.Compact of ints. consensus.Densest. -/
import Derived.Lib.SliceRun
import Derived.Test.YtjbhdfpjnjedhaaGreatZqag
import Derived.Test.YtjbhdfpjnjedhaaGreatZqbi
import Derived.Test.YtjbhdfpjnjedhaaGreatZqbf
import Derived.Test.YtjbhdfpjnjedhaaGreatZqbm
import Derived.Test.YtjbhdfpjnjedhaaGreatZqau
import Derived.Test.YtjbhdfpjnjedhaaGreatZqbg
set_option linter.unusedSimpArgs false
set_option linter.unusedVariables false
set_option maxRecDepth 100000
set_option maxHeartbeats 4000000
namespace Go.Fx
section
variable {P : Program} {n : Nat} {ops : List Oper} {Q : Exit → Act → World → Prop} {m : Mode} {G : Env} {w : World} {ty : TypeId} {pos : String} {af : Array Edge} {g : Option (Nat × Bool)} {l : List Oper} {X : List Nat} {w0 : World} {M M' : List Ent} {I : List aT}
theorem aIM {t e e' : TypeId} {sz b o k c : Nat} {x : Operand} {cs : List Value} [ht : SliceTy P t e sz] (hz : ∀ w, (zeroValue e).run P w = .ok (.int .i64 0) w) (hx : ev G x = some (.slice (some ⟨b, o, none⟩) k c)) (hk : 0 < k) (hB : Blk w b cs e') (ho : o + k ≤ cs.length) :
  Eff P n G (.call { callee := .builtin .clear, args := #[x], argTypes := #[t] }) ty w (fun _ w' => Blk w' b (splice cs o (List.replicate k (.int .i64 0))) e' ∧ Ext [b] w w') := by
 refine ⟨?_⟩
 intro a ha dst pos after guard
 have hl : (List.replicate k (Value.int .i64 0)).length = k := List.length_replicate
 have hst := run_storeCells_at P b o e' (List.replicate k (Value.int .i64 0)) 0 cs.toArray w hB (by simpa using ho) (by intro u hu; rw [List.eq_of_mem_replicate hu]; rfl)
 simp only [Nat.add_zero] at hst
 have hzc : (Builtin.zeroCells (Value.int .i64 0).cells k).toList = List.replicate k (Value.int .i64 0) := by
  show (Builtin.zeroCells #[Value.int .i64 0] k).toList = _
  simp [Builtin.zeroCells]
  apply List.ext_getElem
  ·simp
  ·intro i h1 h2
   simp [Nat.mod_one]
 refine sV (v := .tuple #[]) (w' := w.setRow b (splice cs o (List.replicate k (.int .i64 0))).toArray) ?_ ⟨_, ⟨?_, Ext.setRow (by simp) _⟩, rfl⟩
 ·obtain ⟨k', rfl⟩ : ∃ k', k = k' + 1 := ⟨k - 1, by omega⟩
  simp only [splice, hl]
  simp only [hl] at hst
  simp [execOp, resolve, invoke, builtin, ha.ev hx, Builtin.clear_, fE ht.und, hz, hzc, hst]
 ·exact setRow_heap w b _ _ _ _ hB
theorem aNP {t e e' : TypeId} {sz b o k c : Nat} {x : Operand} {cs cs' : List Value} [SliceTy P t e sz] (hz : ∀ w, (zeroValue e).run P w = .ok (.int .i64 0) w) (hx : ev G x = some (.slice (some ⟨b, o, none⟩) k c)) (hk : 0 < k) (hr : Rep (.blk b cs e') (.blk b cs' e') M M') (hs : splice cs o (List.replicate k (.int .i64 0)) = cs') (ho : o + k ≤ cs.length) (hg : oZ ops G g = some true)
  (kk : OkD m X w0 M' I ∧ RD P n ops Q m.nextE l G X w0 M' I) : RD P n ops Q m (⟨none, .call { callee := .builtin .clear, args := #[x], argTypes := #[t] }, ty, pos, af, g⟩ :: l) G X w0 M I :=
 zH (d := none) (K := fun _ M2 I2 => M2 = M' ∧ I2 = I) hg
  (fun w hw => (aIM hz hx hk (hw.blk hr.mem) ho).mono (fun _ w' ⟨hB, hE⟩ => ⟨_, _, ⟨rfl, rfl⟩, hw.upd hr hE (fun b hb => .inl hb) (by simp [Ent.blocks]) (by rw [hs] at hB; exact hB)⟩)) rfl rfl
  (fun _ _ _ ⟨hM, hI⟩ => by subst hM; subst hI; exact kk)
end
theorem aJI {P : Program} {n : Nat} {Q : Exit → Act → World → Prop} {G : Env} {X : List Nat} {w0 : World} {M : List Ent} {I : List aT} {ops l : List Oper} {m : Fx.Mode} {ty : TypeId} {pos : String} {af : Array Edge} {g : Option (Nat × Bool)} {d : Nat} {t e : TypeId} {sz : Nat} {x ix : Operand} {b o len c : Nat} {k' : IntKind} {i : Int} [SliceTy P t e sz] (hx : ev G x = some (.slice (some ⟨b, o, none⟩) len c)) (hi : ev G ix = some (.int k' i)) (h : 0 ≤ i ∧ i < len) (hg : oZ ops G g = some true)
  (hd : Nat.ble (d + 1) n = true) (k : RD P n ops Q m.next l ((d, .pointer (some ⟨b, o + i.toNat * sz, none⟩)) :: G) X w0 M I) : RD P n ops Q m (⟨some d, .indexAddr t x ix, ty, pos, af, g⟩ :: l) G X w0 M I :=
 aC hg (fun _ => by
  have := pK (n := n) (ty := ty) (P := P) (G := G) (t := t) (e := e) (sz := sz) hx hi h (Ok.mk b o) (C := fun _ => True)
  refine ⟨fun a ha dst pos after guard w _ => ?_⟩
  have h2 := this.go a ha dst pos after guard w True.intro
  simpa [pt, bl, of] using h2) rfl hd k
end Go.Fx
namespace Go.Proofs.YtjbhdfpjnjedhaaGreat
open Go Go.Fx
theorem aSW (w : World) : (zeroValue 3).run Tryz.prog w = .ok (.int .i64 0) w := by kernel_rfl
theorem aQB {b c j : Nat} (h : j < c) : aIX (some ⟨b, 0, none⟩) c j 1 = some ⟨b, j, none⟩ := by
 unfold aIX
 rw [if_neg (by omega)]
 simp [Addr.add]
 exact fun h => h.symm
theorem aSQ {E : List Int} {tl : List Value} {o i : Nat} (h : i < E.length) (e : o = i) : At (recs (eI .i64) E ++ tl) o (.int .i64 (gt E (i : Int))) := by
 subst e
 refine At.mk ?_
 rw [kV, List.getElem?_append_left (by simpa using h), List.getElem?_map, jD h]
 simp [h]
theorem aRB {E L : List Int} {tl : List Value} {kk n : Nat} (hE : E.length = n) (hk : kk ≤ n) (hL : E.take kk = L) : splice (recs (eI .i64) E ++ tl) kk (List.replicate (n - kk) (Value.int .i64 0)) = recs (eI .i64) (L ++ List.replicate (n - kk) 0) ++ tl := by
 subst hL
 have hlen : (E.map (Value.int .i64)).length = n := by simp [hE]
 simp only [splice, kV, List.length_replicate, List.map_append, List.map_take, List.map_replicate]
 rw [List.take_append_of_le_length (by omega), show kk + (n - kk) = (E.map (Value.int .i64)).length by omega, List.drop_left]
theorem aLS {E D : List Int} {a i : Nat} (h : E.drop a = D.drop a) (hi : a ≤ i) (hE : E.length = D.length) (hlt : i < E.length) : gt E (i : Int) = gt D (i : Int) := by
 rw [jD hlt, jD (by omega)]
 have h1 : (E.drop a)[i - a]? = (D.drop a)[i - a]? := by rw [h]
 rw [List.getElem?_drop, List.getElem?_drop, show a + (i - a) = i by omega] at h1
 rw [List.getElem?_eq_getElem hlt, List.getElem?_eq_getElem (by omega)] at h1
 exact Option.some.inj h1
theorem aGA {D : List Int} {j : Nat} (h1 : 1 ≤ j) (hj : j < D.length) : D.take (j + 1) = D.take (j - 1) ++ [gt D ((j - 1 : Nat) : Int), gt D (j : Int)] ∧ D.take j = D.take (j - 1) ++ [gt D ((j - 1 : Nat) : Int)] := by
 have e1 : D.take (j + 1) = D.take j ++ [D[j]] := (List.take_append_getElem hj).symm
 have e2 : D.take (j - 1 + 1) = D.take (j - 1) ++ [D[j - 1]] := (List.take_append_getElem (by omega)).symm
 rw [show j - 1 + 1 = j by omega] at e2
 rw [jD (by omega), jD hj]
 refine ⟨?_, e2⟩
 rw [e1, e2, List.append_assoc]; rfl
theorem aGU {D : List Int} {j : Nat} (h1 : 1 ≤ j) (hj : j < D.length) : mP (D.take (j + 1)) = if gt D (j : Int) = gt D ((j - 1 : Nat) : Int) then mP (D.take j) else mP (D.take j) ++ [gt D (j : Int)] := by
 rw [(aGA h1 hj).1, (aGA h1 hj).2]
 exact aAY _ _ _
section
variable {X : List Nat} {w0 : World} {M0 M1 : List Ent} {I0 : List aT}
theorem aAC {b n c : Nat} {D : List Int} {tl : List Value} (hl : D.length = n) (hn : n ≤ 100) (hc : n ≤ c) :
  CD Tryz.prog 65 [.slice (some ⟨b, 0, none⟩) n c] X w0 (.blk b (recs (eI .i64) D ++ tl) 3 :: M1) I0 (fun v M I => I0 = I ∧ v = .slice (some ⟨b, 0, none⟩) (mP D).length c ∧ M = .blk b (recs (eI .i64) (mP D ++ List.replicate (n - (mP D).length) 0) ++ tl) 3 :: M1) := by
 refine bN Tryz.func65 rfl Tryz.ntmps65 rfl ?_
 by_cases h2 : n < 2
 ·have e : mP D = D := by
   match D, hl with
   | [], _ => rfl
   | [x], _ => rfl
   | _ :: _ :: _, h => simp at h; omega
  rw [e, hl, Nat.sub_self, List.replicate_zero, List.append_nil]
  repeat (refine aJ ?_)
  refine aM (by first | exact .inl rfl | exact .inr rfl) rfl rfl _ _ aG aD (⟨rfl, rfl, rfl⟩)
 repeat (refine aJ ?_)
 refine aZ [0] rfl (fun k G M I => ∃ j : Nat, 1 ≤ j ∧ j ≤ n ∧ k = n - j ∧ mP (D.take j) = D.take j ∧ G = [(3, .int .i64 j)] ∧ M = .blk b (recs (eI .i64) D ++ tl) 3 :: M1 ∧ I0 = I) (n - 1) _ _ _ aL aG aD (⟨1, by omega, by omega, rfl, by rw [List.take_one]; cases D <;> rfl, rfl, rfl, rfl⟩) ?_
 rintro kk G M I ⟨j, hj1, hj, rfl, hcj, rfl, rfl, rfl⟩
 by_cases hjn : j < n
 ·have hcm := aGU (D := D) hj1 (by omega)
  have ejm : ((j : Int) - 1) = ((j - 1 : Nat) : Int) := by omega
  have hlD : (D.length : Int) = n := by omega
  repeat (refine aJ ?_)
  (repeat refine aH ?_); refine gY [0, 1, 2, 3, 4, 5, 6, 7, 8, 9] [0, 0, 0, 0, 0, 0, 0, 0, 0, 0] mixed (by kernel_rfl) ?_
  repeat (refine aJ ?_)
  rw [ejm]
  by_cases heq : gt D (j : Int) = gt D ((j - 1 : Nat) : Int)
  ·rw [if_pos heq] at hcm
   have hjc : j < c := by omega
   repeat (refine aJ ?_)
   (refine aC rfl (fun _ => xZ (e := 3) (sz := 1) j n (n - j) rfl (.inr ⟨_, _, _, rfl, rfl, rfl⟩) (.inl ⟨rfl, rfl⟩) (by omega) (by omega) (by omega)) rfl rfl ?_)
   rw [aQB hjc]
   repeat (refine aJ ?_)
   refine aZ [0, 4] rfl (fun k G M I => ∃ (q t : Nat) (E : List Int), 1 ≤ t ∧ t ≤ n - j ∧ k = n - j - t ∧ E.length = n ∧ 1 ≤ q ∧ q + 1 ≤ j + t ∧ E.take q = mP (D.take (j + t)) ∧ E.drop (j + t - 1) = D.drop (j + t - 1) ∧ G = [(3, .int .i64 q), (5, .int .i64 t)] ∧ M = .blk b (recs (eI .i64) E ++ tl) 3 :: M1 ∧ I0 = I) (n - j - 1) _ _ _ aL aG aD (⟨j, 1, D, by omega, by omega, rfl, hl, hj1, by omega, by rw [hcm, hcj], rfl, rfl, rfl, rfl⟩) ?_
   rintro kk G M I ⟨q, t, E, ht1, ht, rfl, hE, hq1, hq, hEt, hEd, rfl, rfl, rfl⟩
   have hlE : (E.length : Int) = n := by omega
   by_cases htn : t < n - j
   ·have hcm2 := aGU (D := D) (j := j + t) (by omega) (by omega)
    have g1 := aLS (i := j + t) hEd (by omega) (by omega) (by omega)
    have g2 := aLS (i := j + t - 1) hEd (by omega) (by omega) (by omega)
    repeat (refine aJ ?_)
    (repeat refine aH ?_); refine gY [0, 1, 2, 3, 4, 5, 6, 7, 8, 9] [0, 0, 0, 0, 0, 0, 0, 0, 0, 0] mixed (by kernel_rfl) ?_
    repeat (refine aJ ?_)
    refine aJI rfl rfl (by omega) rfl rfl ?_
    (apply fH; exact dX; exact rfl; exact aB; exact aSQ (i := j + t) (by omega) (by omega); exact rfl; exact rfl)
    repeat (refine aJ ?_)
    refine aJI rfl rfl (by omega) rfl rfl ?_
    (apply fH; exact dX; exact rfl; exact aB; exact aSQ (i := j + t - 1) (by omega) (by omega); exact rfl; exact rfl)
    rw [g1, g2]
    by_cases hne : gt D ((j + t : Nat) : Int) = gt D ((j + t - 1 : Nat) : Int)
    ·rw [if_pos hne] at hcm2
     repeat (refine aJ ?_)
     refine aK (n - j - (t + 1)) _ _ _ (by first | omega | (simp only [List.length_append, List.length_cons, List.length_nil]; omega)) aL aG aD (⟨q, t + 1, E, by omega, by omega, by omega, hE, hq1, by omega, by rw [hEt, ← hcm2]; rfl, by rw [show j + (t + 1) - 1 = (j + t - 1) + 1 by omega, ← List.drop_drop, hEd, List.drop_drop], rfl, rfl, rfl⟩)
    ·rw [if_neg hne] at hcm2
     repeat (refine aJ ?_)
     refine aJI rfl rfl (by omega) rfl rfl ?_
     (apply fH; exact dX; exact rfl; exact aB; exact aSQ (i := j + t) (by omega) (by omega); exact rfl; exact rfl)
     repeat (refine aJ ?_)
     have hst : (st E (q : Int) (gt E ((j + t : Nat) : Int))) = E.set q (gt E ((j + t : Nat) : Int)) := rfl
     refine aK (n - j - (t + 1)) _ _ _ (by first | omega | (simp only [List.length_append, List.length_cons, List.length_nil]; omega)) aL aG aD (⟨q + 1, t + 1, st E (q : Int) (gt E ((j + t : Nat) : Int)), by omega, by omega, by omega, by rw [fF]; exact hE, by omega, by omega, ?_, ?_, rfl, rfl, rfl⟩)
     ·rw [hst, List.take_add_one, List.take_set_of_le (Nat.le_refl _), hEt, show j + (t + 1) = j + t + 1 by omega, hcm2, g1]
      rw [List.getElem?_set_self (by omega)]
      rfl
     ·rw [hst, List.drop_set_of_lt (by omega), show j + (t + 1) - 1 = (j + t - 1) + 1 by omega, ← List.drop_drop, hEd, List.drop_drop]
   ·obtain rfl : t = n - j := by omega
    rw [show j + (n - j) = D.length by omega, List.take_length] at hEt
    have hql : (mP D).length = q := by rw [← hEt, List.length_take]; omega
    have hqc : q < c := by omega
    rw [hql]
    repeat (refine aJ ?_)
    (refine aC rfl (fun _ => xZ (e := 3) (sz := 1) q n (n - q) rfl (.inr ⟨_, _, _, rfl, rfl, rfl⟩) (.inl ⟨rfl, rfl⟩) (by omega) (by omega) (by omega)) rfl rfl ?_)
    rw [aQB hqc]
    refine aNP aSW rfl (by omega) .here (aRB hE (by omega) hEt) (by rw [List.length_append, iE]; omega) rfl ⟨okF, ?_⟩
    repeat (refine aJ ?_)
    (refine aC rfl (fun _ => sU q rfl rfl rfl (by omega)) rfl rfl ?_)
    repeat (refine aJ ?_)
    refine aM (by first | exact .inl rfl | exact .inr rfl) rfl rfl _ _ aG aD (⟨rfl, rfl, rfl⟩)
  ·rw [if_neg heq] at hcm
   repeat (refine aJ ?_)
   refine aK (n - (j + 1)) _ _ _ (by first | omega | (simp only [List.length_append, List.length_cons, List.length_nil]; omega)) aL aG aD (⟨j + 1, by omega, by omega, rfl, by rw [hcm, hcj, jD (by omega)]; exact List.take_append_getElem (by omega), rfl, rfl, rfl⟩)
 ·obtain rfl : j = n := by omega
  rw [← hl, List.take_length] at hcj
  rw [hcj, hl, Nat.sub_self, List.replicate_zero, List.append_nil]
  repeat (refine aJ ?_)
  refine aM (by first | exact .inl rfl | exact .inr rfl) rfl rfl _ _ aG aD (⟨rfl, rfl, rfl⟩)
end
end Go.Proofs.YtjbhdfpjnjedhaaGreat
namespace Go.Proofs.YtjbhdfpjnjedhaaGreat
open Go Go.Fx
def pQ (l : List Q4) : List (Int × Int) := l.map (fun s => (s.u - s.x, s.v - s.y))
def dxs (l : List Q4) : List Int := l.map (fun s => s.u - s.x)
def dys (l : List Q4) : List Int := l.map (fun s => s.v - s.y)
theorem aBG {l : List Q4} {s : Q4} : dxs (l ++ [s]) = dxs l ++ [s.u - s.x] := by simp [dxs]
theorem aAP {l : List Q4} {s : Q4} : dys (l ++ [s]) = dys l ++ [s.v - s.y] := by simp [dys]
theorem aUC {l : List Q4} : (dxs l).length = l.length := by simp [dxs]
theorem aVB {l : List Q4} : (dys l).length = l.length := by simp [dys]
theorem aSE {l : List Q4} : (pQ l).length = l.length := by simp [pQ]
theorem aUR {l : List Q4} {z : Int} : z ∈ dxs l ↔ ∃ d ∈ pQ l, d.1 = z := by
 simp only [dxs, pQ, List.mem_map]
 exact ⟨fun ⟨a, h, e⟩ => ⟨_, ⟨a, h, rfl⟩, e⟩, fun ⟨_, ⟨a, h, rfl⟩, e⟩ => ⟨a, h, e⟩⟩
theorem aMG {l : List Q4} {z : Int} : z ∈ dys l ↔ ∃ d ∈ pQ l, d.2 = z := by
 simp only [dys, pQ, List.mem_map]
 exact ⟨fun ⟨a, h, e⟩ => ⟨_, ⟨a, h, rfl⟩, e⟩, fun ⟨_, ⟨a, h, rfl⟩, e⟩ => ⟨a, h, e⟩⟩
theorem aYS {l : List Q4} {i : Nat} (h : i < l.length) : gt (dxs l) (i : Int) = ((pQ l).getD i (0, 0)).1 ∧ gt (dys l) (i : Int) = ((pQ l).getD i (0, 0)).2 := by
 constructor <;> simp [gt, dxs, dys, pQ, List.getD, h]
theorem aYO {l : List Q4} (hs : ∀ s ∈ l, s.near) : ∀ z ∈ dxs l, -65536 ≤ z ∧ z ≤ 65536 := fun z hz => by
 obtain ⟨s, h, rfl⟩ := List.mem_map.1 hz
 obtain ⟨n1, n2, n3, n4⟩ := hs s h
 omega
theorem aWT {l : List Q4} (hs : ∀ s ∈ l, s.near) : ∀ z ∈ dys l, -65536 ≤ z ∧ z ≤ 65536 := fun z hz => by
 obtain ⟨s, h, rfl⟩ := List.mem_map.1 hz
 obtain ⟨n1, n2, n3, n4⟩ := hs s h
 omega
theorem aII {l : List (Int × Int)} {t X Y : Int} {i : Nat} (h : i < l.length) : (l.take (i + 1)).countP (aCV t X Y) = (l.take i).countP (aCV t X Y) + (if aCV t X Y (l.getD i (0, 0)) = true then 1 else 0) := by
 have e : l.take (i + 1) = l.take i ++ [l[i]] := (List.take_append_getElem h).symm
 have e2 : l.getD i (0, 0) = l[i] := by simp [List.getD, h]
 rw [e, e2, List.countP_append, List.countP_singleton]
def tolD (t : Int) : Prop := 0 ≤ t ∧ t ≤ 32768
instance tolD.dec (x : Int) : Decidable (tolD x) := inferInstanceAs (Decidable (0 ≤ x ∧ x ≤ 32768))
def densC (l : List Q4) (t : Int) : Int := if oD l = 0 then (if tolD t then 0 else 2) else oD l
abbrev zP2 : List Value := [.int .i64 0, .int .i64 0]
section
variable {X : List Nat} {w0 : World} {M0 M1 M2 : List Ent} {I0 : List aT}
theorem aSX {tol : Int} {q : Option Addr} {l : List Q4} {n c : Nat} (hl : l.length = n) (hn : n ≤ 12) (hck : oD l = 0) (ht : tolD tol) (hq : aR q (recs kP l) ∈ I0) :
  CD Tryz.prog 22 [.slice q n c, .int .i64 tol] X w0 M0 I0 (fun v M I => M0 = M ∧ I0 = I ∧ ∃ (X Y : Int) (N : Nat), (0 < N ∧ BestD (pQ l) tol X Y N) ∧ v = .tuple #[.agg #[.int .i64 (X - tol), .int .i64 (Y - tol)], .int .i64 (N : Int), .int .i64 0]) := by
 have hK := fun M0 I0 h => yB (X := X) (w0 := w0) (M0 := M0) (I0 := I0) (q := q) (l := l) (n := n) (c := c) hl (by omega) h
 rw [hck] at hK
 obtain ⟨⟨hn1, _⟩, hs⟩ := zW hck
 rw [hl] at hn1
 obtain ⟨ht1, ht2⟩ := ht
 refine bK (φ := aR q (recs kP l)) (Hv.mem hq) ?_
 refine bL Tryz.func22 rfl Tryz.ntmps22 rfl ?_
 refine aH ?_
 refine aI ?_
 (refine aF rfl rfl ?_; intro b4; refine ⟨okF, ?_⟩)
 repeat (refine aJ ?_)
 (refine aA rfl (hK _ _ aB) rfl rfl ?_; rintro _ _ _ ⟨rfl, rfl, rfl⟩; refine ⟨okF, ?_⟩)
 repeat (refine aJ ?_)
 refine lX 3 1 ?_
 refine lX 3 1 ?_
 refine aZ [1, 4, 37, 38] rfl (fun k G M I => ∃ (i : Nat) (xs ys : List Int) (qx qy : Option Addr) (cx cy : Nat), i ≤ n ∧ k = n - i ∧ xs = dxs (l.take i) ∧ ys = dys (l.take i) ∧ G = [(8, .slice qx xs.length cx), (9, .slice qy ys.length cy), (39, .int .i64 i)] ∧ M = .row qx xs.length cx (recs eZ xs) 3 1 :: .row qy ys.length cy (recs eZ ys) 3 1 :: .blk b4 zP2 56 :: M0 ∧ I = aR q (recs kP l) :: I0) (n) _ _ _ aL aG aD (⟨0, [], [], none, none, 0, 0, by omega, rfl, rfl, rfl, rfl, rfl, rfl⟩) ?_
 rintro kk G M I ⟨i, xs, ys, qx, qy, cx, cy, hi, rfl, hxs, hys, rfl, rfl, rfl⟩
 have hxl : xs.length = i := by rw [hxs, aUC, List.length_take]; omega
 have hyl : ys.length = i := by rw [hys, aVB, List.length_take]; omega
 by_cases hin : i < n
 ·have hmem := eP (ms := l) (i := (i : Int)) (by omega)
  have htk : l.take (i + 1) = l.take i ++ [gt l (i : Int)] := by rw [gtQ (by omega)]; exact (List.take_append_getElem (by omega)).symm
  obtain ⟨s, hss⟩ : ∃ s, gt l (i : Int) = s := ⟨_, rfl⟩
  rw [hss] at hmem htk
  obtain ⟨n1, n2, n3, n4⟩ := hs s hmem
  repeat (refine aJ ?_)
  rw [hss]
  (refine aF rfl rfl ?_; intro b11; refine ⟨okF, ?_⟩)
  repeat (refine aJ ?_)
  ((repeat refine aH ?_); refine uT (.blk b11 (kP s) 65 :: M0) (aR q (recs kP l) :: I0) mixed ?_)
  refine eX (fuel := 6) (listed' := #[true, true, true, true, true, true, true, true, false, false, true, true, true, true, true, true, true, true, false, false, false, false]) [0, 1, 2, 3, 4, 5, 6, 7, 10, 11, 12, 13, 14, 15, 16, 17] [3, 4, 4, 4, 4, 4, 4, 3, 3, 4, 4, 4, 4, 4, 4, 3] aG aD (by kernel_rfl) (by kernel_rfl) rfl rfl ?_
  repeat (refine aJ ?_)
  refine bF (fuel := 5) (i := 8) (j := 18) (by kernel_rfl) ?_ ?_
  ·(refine dB (cs := recs eZ [s.u - s.x]) ([.int .i64 (s.u - s.x)]) rfl rfl (by intro v hv; repeat (first | exact absurd hv (List.not_mem_nil) | (rcases List.mem_cons.1 hv with rfl | hv; · rfl))) (by omega) rfl rfl rfl ?_; intro bx; refine ⟨okF, ?_⟩)
   refine aN ?_
   repeat (refine aJ ?_)
   refine bF (fuel := 4) (i := 9) (j := 18) (by kernel_rfl) ?_ ?_
   ·(first | (refine gD (ys := [s.u - s.x]) 2 rfl rfl rfl ?_ (by decide) rfl (by omega) (by omega) rfl rfl ?_; (· exact Src.blk aB); intro qx2 cx2; simp only [List.set_cons_succ, List.set_cons_zero]; refine ⟨okF, ?_⟩) | (refine gD (ys := [s.u - s.x]) 3 rfl rfl rfl ?_ (by decide) rfl (by omega) (by omega) rfl rfl ?_; (· exact Src.blk aB); intro qx2 cx2; simp only [List.set_cons_succ, List.set_cons_zero]; refine ⟨okF, ?_⟩))
    refine aN ?_
    refine dM [18, 19, 20, 21] [0, 0, 0, 0] aG aD (by kernel_rfl) (by kernel_rfl) rfl rfl ?_
    repeat (refine aJ ?_)
    (refine dB (cs := recs eZ [s.v - s.y]) ([.int .i64 (s.v - s.y)]) rfl rfl (by intro v hv; repeat (first | exact absurd hv (List.not_mem_nil) | (rcases List.mem_cons.1 hv with rfl | hv; · rfl))) (by omega) rfl rfl rfl ?_; intro by2; refine ⟨okF, ?_⟩)
    repeat (refine aJ ?_)
    (refine gD (ys := [s.v - s.y]) 4 rfl rfl rfl ?_ (by decide) rfl (by omega) (by omega) rfl rfl ?_; (· exact Src.blk aB); intro qy2 cy2; simp only [List.set_cons_succ, List.set_cons_zero]; refine ⟨okF, ?_⟩)
    repeat (refine aJ ?_)
    refine aK (n - (i + 1)) _ _ _ (by first | omega | (simp only [List.length_append, List.length_cons, List.length_nil]; omega)) aL aG aD (⟨i + 1, xs ++ [s.u - s.x], ys ++ [s.v - s.y], qx2, qy2, cx2, cy2, by omega, rfl, by rw [htk, aBG, ← hxs], by rw [htk, aAP, ← hys], rfl, rfl, rfl⟩)
   ·(refine dB (cs := recs eZ [s.v - s.y]) ([.int .i64 (s.v - s.y)]) rfl rfl (by intro v hv; repeat (first | exact absurd hv (List.not_mem_nil) | (rcases List.mem_cons.1 hv with rfl | hv; · rfl))) (by omega) rfl rfl rfl ?_; intro by2; refine ⟨okF, ?_⟩)
    refine aN ?_
    refine dM [9, 19, 20, 21] [0, 0, 0, 0] aG aD (by kernel_rfl) (by kernel_rfl) rfl rfl ?_
    repeat (refine aJ ?_)
    (first | (refine gD (ys := [s.u - s.x]) 2 rfl rfl rfl ?_ (by decide) rfl (by omega) (by omega) rfl rfl ?_; (· exact Src.blk aB); intro qx2 cx2; simp only [List.set_cons_succ, List.set_cons_zero]; refine ⟨okF, ?_⟩) | (refine gD (ys := [s.u - s.x]) 3 rfl rfl rfl ?_ (by decide) rfl (by omega) (by omega) rfl rfl ?_; (· exact Src.blk aB); intro qx2 cx2; simp only [List.set_cons_succ, List.set_cons_zero]; refine ⟨okF, ?_⟩))
    repeat (refine aJ ?_)
    (refine gD (ys := [s.v - s.y]) 4 rfl rfl rfl ?_ (by decide) rfl (by omega) (by omega) rfl rfl ?_; (· exact Src.blk aB); intro qy2 cy2; simp only [List.set_cons_succ, List.set_cons_zero]; refine ⟨okF, ?_⟩)
    repeat (refine aJ ?_)
    refine aK (n - (i + 1)) _ _ _ (by first | omega | (simp only [List.length_append, List.length_cons, List.length_nil]; omega)) aL aG aD (⟨i + 1, xs ++ [s.u - s.x], ys ++ [s.v - s.y], qx2, qy2, cx2, cy2, by omega, rfl, by rw [htk, aBG, ← hxs], by rw [htk, aAP, ← hys], rfl, rfl, rfl⟩)
  ·(refine dB (cs := recs eZ [s.v - s.y]) ([.int .i64 (s.v - s.y)]) rfl rfl (by intro v hv; repeat (first | exact absurd hv (List.not_mem_nil) | (rcases List.mem_cons.1 hv with rfl | hv; · rfl))) (by omega) rfl rfl rfl ?_; intro by2; refine ⟨okF, ?_⟩)
   refine aN ?_
   refine dM [8, 9, 19, 20, 21] [0, 0, 0, 0, 0] aG aD (by kernel_rfl) (by kernel_rfl) rfl rfl ?_
   repeat (refine aJ ?_)
   (refine dB (cs := recs eZ [s.u - s.x]) ([.int .i64 (s.u - s.x)]) rfl rfl (by intro v hv; repeat (first | exact absurd hv (List.not_mem_nil) | (rcases List.mem_cons.1 hv with rfl | hv; · rfl))) (by omega) rfl rfl rfl ?_; intro bx; refine ⟨okF, ?_⟩)
   repeat (refine aJ ?_)
   (first | (refine gD (ys := [s.u - s.x]) 2 rfl rfl rfl ?_ (by decide) rfl (by omega) (by omega) rfl rfl ?_; (· exact Src.blk aB); intro qx2 cx2; simp only [List.set_cons_succ, List.set_cons_zero]; refine ⟨okF, ?_⟩) | (refine gD (ys := [s.u - s.x]) 3 rfl rfl rfl ?_ (by decide) rfl (by omega) (by omega) rfl rfl ?_; (· exact Src.blk aB); intro qx2 cx2; simp only [List.set_cons_succ, List.set_cons_zero]; refine ⟨okF, ?_⟩))
   repeat (refine aJ ?_)
   (refine gD (ys := [s.v - s.y]) 4 rfl rfl rfl ?_ (by decide) rfl (by omega) (by omega) rfl rfl ?_; (· exact Src.blk aB); intro qy2 cy2; simp only [List.set_cons_succ, List.set_cons_zero]; refine ⟨okF, ?_⟩)
   repeat (refine aJ ?_)
   refine aK (n - (i + 1)) _ _ _ (by first | omega | (simp only [List.length_append, List.length_cons, List.length_nil]; omega)) aL aG aD (⟨i + 1, xs ++ [s.u - s.x], ys ++ [s.v - s.y], qx2, qy2, cx2, cy2, by omega, rfl, by rw [htk, aBG, ← hxs], by rw [htk, aAP, ← hys], rfl, rfl, rfl⟩)
 ·obtain rfl : i = n := by omega
  rw [← hl, List.take_length] at hxs hys
  have hxb := aYO hs
  have hyb := aWT hs
  rw [← hxs] at hxb
  rw [← hys] at hyb
  have hat : ∀ t : Nat, t < i → gt xs (t : Int) = ((pQ l).getD t (0, 0)).1 ∧ gt ys (t : Int) = ((pQ l).getD t (0, 0)).2 := fun t ht => by rw [hxs, hys]; exact aYS (by omega)
  have hdl : (pQ l).length = i := by rw [aSE]; exact hl
  obtain ⟨xl, hxl2⟩ : ∃ z, mP (yO id xs) = z := ⟨_, rfl⟩
  obtain ⟨cl, hcl⟩ : ∃ z, mP (yO id ys) = z := ⟨_, rfl⟩
  have hxa : aFG xl := by rw [← hxl2]; exact aFE (aER id xs)
  have hca : aFG cl := by rw [← hcl]; exact aFE (aER id ys)
  have hxm : ∀ z, z ∈ xl ↔ z ∈ xs := fun z => by rw [← hxl2, zP]; exact zT id z _ xs rfl
  have hcm : ∀ z, z ∈ cl ↔ z ∈ ys := fun z => by rw [← hcl, zP]; exact zT id z _ ys rfl
  have hxll : xl.length ≤ i := by rw [← hxl2]; exact Nat.le_trans (aFQ _) (by rw [wM]; omega)
  have hcd : ∀ d ∈ pQ l, d.2 ∈ cl := fun d hd => (hcm _).2 (by rw [hys]; exact aMG.2 ⟨d, hd, rfl⟩)
  have hl0 : pQ l ≠ [] := fun e => by rw [e] at hdl; simp at hdl; omega
  repeat (refine aJ ?_)
  refine jY .here ?_
  refine jY .here ?_
  (refine aA rfl (aEH) rfl rfl ?_; rintro _ _ _ ⟨rfl, bvx, rfl, rfl⟩; refine ⟨okF, ?_⟩)
  repeat (refine aJ ?_)
  (refine aA rfl (aBO (q := qx) (zs := xs) (c := cx) (b := bvx) rfl (by omega) aB aB) rfl rfl ?_; rintro _ _ _ ⟨rfl, b12, c12, tx, rfl, hc12, rfl⟩; refine ⟨okF, ?_⟩)
  repeat (refine aJ ?_)
  (refine aA rfl (aEH) rfl rfl ?_; rintro _ _ _ ⟨rfl, bvy, rfl, rfl⟩; refine ⟨okF, ?_⟩)
  repeat (refine aJ ?_)
  (refine aA rfl (aBO (q := qy) (zs := ys) (c := cy) (b := bvy) rfl (by omega) aB aB) rfl rfl ?_; rintro _ _ _ ⟨rfl, b13, c13, ty, rfl, hc13, rfl⟩; refine ⟨okF, ?_⟩)
  repeat (refine aJ ?_)
  (refine aF rfl rfl ?_; intro b14; refine ⟨okF, ?_⟩)
  repeat (refine aJ ?_)
  refine vE (M' := .blk b12 (recs eZ (yO id xs) ++ tx) 3 :: .blk b13 (recs eZ (yO id ys) ++ ty) 3 :: .blk b14 zP2 56 :: .blk b4 zP2 56 :: M0) (I' := aR qy (recs eZ ys) :: aR qx (recs eZ xs) :: I0) aG aD ?_
  (refine aA rfl (aAC (n := xs.length) (c := c12) (D := yO id xs) (tl := tx) (wM id xs) (by omega) hc12) rfl rfl ?_; rintro _ _ _ ⟨rfl, rfl, rfl⟩; refine ⟨okF, ?_⟩)
  rw [hxl2]
  rw [show recs eZ (xl ++ List.replicate (xs.length - xl.length) 0) ++ tx = recs eZ xl ++ (recs eZ (List.replicate (xs.length - xl.length) 0) ++ tx) by rw [oV, List.append_assoc]]
  refine aO .here ?_
  refine aSO (cs := recs eZ xl) (tl := recs eZ (List.replicate (xs.length - xl.length) 0) ++ tx) aB ?_
  repeat (refine aJ ?_)
  refine aCU (M' := .blk b13 (recs eZ (yO id ys) ++ ty) 3 :: .blk b14 [.int .i64 0, .int .i64 0] 56 :: .blk b4 zP2 56 :: M0) (I' := aR (some ⟨b12, 0, none⟩) (recs eZ xl) :: aR qy (recs eZ ys) :: aR qx (recs eZ xs) :: I0) aG aD ?_
  refine aZ [1, 4, 8, 9, 13, 14, 71, 72] rfl (fun k G M I => ∃ (a : Nat) (E : List Int) (bx by_ : Int) (most : Nat), a ≤ xl.length ∧ k = xl.length - a ∧ E.length = ys.length ∧ (∃ z, mP E = cl ++ List.replicate z 0) ∧ most ≤ i ∧ BInv (pQ l) tol (Vis xl cl a 0) (bx + tol) (by_ + tol) most ∧ G = [(15, .int .i64 most), (73, .int .i64 a)] ∧ M = .blk b13 (recs eZ E ++ ty) 3 :: .blk b14 [.int .i64 bx, .int .i64 by_] 56 :: .blk b4 zP2 56 :: M0 ∧ I = aR (some ⟨b12, 0, none⟩) (recs eZ xl) :: aR qy (recs eZ ys) :: aR qx (recs eZ xs) :: I0) (xl.length) _ _ _ aL aG aD (⟨0, yO id ys, 0, 0, 0, by omega, rfl, wM id ys, ⟨0, by rw [hcl]; simp⟩, by omega, aMN, rfl, rfl, rfl⟩) ?_
  rintro kk G M I ⟨a, E, bx, by_, most, ha, rfl, hE, ⟨z, hz⟩, hmi, hB, rfl, rfl, rfl⟩
  by_cases hax : a < xl.length
  ·have hxx := hxb _ ((hxm _).1 (eP (ms := xl) (i := (a : Int)) (by omega)))
   have hCl : (mP E).length ≤ ys.length := by rw [← hE]; exact aFQ E
   repeat (refine aJ ?_)
   (refine aA rfl (aAC (n := ys.length) (c := c13) (D := E) (tl := ty) hE (by omega) hc13) rfl rfl ?_; rintro _ _ _ ⟨rfl, rfl, rfl⟩; refine ⟨okF, ?_⟩)
   obtain ⟨E2, hE2⟩ : ∃ E2, mP E ++ List.replicate (ys.length - (mP E).length) 0 = E2 := ⟨_, rfl⟩
   have hE2l : E2.length = ys.length := by rw [← hE2, List.length_append, List.length_replicate]; omega
   have hE2c : E2 = cl ++ List.replicate (z + (ys.length - (mP E).length)) 0 := by rw [← hE2, hz, List.append_assoc, List.replicate_append_replicate]
   have hE2z : ∃ z, mP E2 = cl ++ List.replicate z 0 := by
    obtain ⟨z2, _, h⟩ := xO hca (z + (ys.length - (mP E).length))
    exact ⟨z2, by rw [hE2c]; exact h⟩
   have hclE : cl.length ≤ (mP E).length := by rw [hz, List.length_append]; omega
   obtain ⟨m, hm⟩ : ∃ m, (mP E).length = m := ⟨_, rfl⟩
   rw [hE2, hm]
   rw [hm] at hCl hclE
   clear hE2 hz hm
   have hE2g : ∀ j : Nat, j < m → (j < cl.length → gt E2 (j : Int) = gt cl (j : Int)) ∧ (¬ j < cl.length → gt E2 (j : Int) = 0) := fun j hj => by
    rw [hE2c, aOU]
    constructor
    ·intro h; rw [if_pos h]
    ·intro h
     rw [if_neg h]
     have hlt : j - cl.length < (List.replicate (z + (ys.length - (mP E).length)) (0 : Int)).length := by
      have := congrArg List.length hE2c
      rw [List.length_append, List.length_replicate] at this
      rw [List.length_replicate]; omega
     rw [jD hlt]; simp
   repeat (refine aJ ?_)
   refine aZ [1, 4, 8, 9, 13, 14, 17, 71, 72, 73, 78, 79] rfl (fun k G M I => ∃ (j : Nat) (bx by_ : Int) (most : Nat), j ≤ m ∧ k = m - j ∧ most ≤ i ∧ BInv (pQ l) tol (Vis xl cl a j) (bx + tol) (by_ + tol) most ∧ G = [(15, .int .i64 most), (80, .int .i64 j)] ∧ M = .blk b13 (recs eZ E2 ++ ty) 3 :: .blk b14 [.int .i64 bx, .int .i64 by_] 56 :: .blk b4 zP2 56 :: M0 ∧ I = aR (some ⟨b12, 0, none⟩) (recs eZ xl) :: aR qy (recs eZ ys) :: aR qx (recs eZ xs) :: I0) (m) _ _ _ aL aG aD (⟨0, bx, by_, most, by omega, rfl, hmi, hB, rfl, rfl, rfl⟩) ?_
   rintro kk G M I ⟨j, bx, by_, most, hj, rfl, hmi, hB, rfl, rfl, rfl⟩
   by_cases hjm : j < m
   ·have hg := hE2g j hjm
    obtain ⟨x, hxe⟩ : ∃ x, gt xl (a : Int) = x := ⟨_, rfl⟩
    obtain ⟨y, hye⟩ : ∃ y, gt E2 (j : Int) = y := ⟨_, rfl⟩
    have hyy : -65536 ≤ y ∧ y ≤ 65536 := by
     by_cases h : j < cl.length
     ·rw [← hye, hg.1 h]; exact hyb _ ((hcm _).1 (eP (ms := cl) (i := (j : Int)) (by omega)))
     ·rw [← hye, hg.2 h]; omega
    rw [hye] at hg
    repeat (refine aJ ?_)
    rw [hye, hxe]
    rw [hxe] at hxx
    repeat (refine aJ ?_)
    refine aZ [1, 4, 8, 9, 13, 14, 15, 17, 19, 20, 21, 71, 72, 73, 78, 79, 80, 91] rfl (fun k G M I => ∃ (t N : Nat), t ≤ i ∧ k = i - t ∧ N = ((pQ l).take t).countP (aCV tol x y) ∧ G = [(22, .int .i64 N), (92, .int .i64 t)] ∧ M = .blk b13 (recs eZ E2 ++ ty) 3 :: .blk b14 [.int .i64 bx, .int .i64 by_] 56 :: .blk b4 zP2 56 :: M0 ∧ I = aR (some ⟨b12, 0, none⟩) (recs eZ xl) :: aR qy (recs eZ ys) :: aR qx (recs eZ xs) :: I0) (i) _ _ _ aL aG aD (⟨0, 0, by omega, rfl, rfl, rfl, rfl, rfl⟩) ?_
    rintro kk G M I ⟨t, N, ht, rfl, hN, rfl, rfl, rfl⟩
    have hNt : N ≤ t := by rw [hN]; exact Nat.le_trans List.countP_le_length (by rw [List.length_take]; omega)
    by_cases hti : t < i
    ·obtain ⟨g1, g2⟩ := hat t hti
     have hcs := aII (t := tol) (X := x) (Y := y) (l := pQ l) (i := t) (by omega)
     rw [← hN] at hcs
     have d1 := hxb _ (eP (ms := xs) (i := (t : Int)) (by omega))
     have d2 := hyb _ (eP (ms := ys) (i := (t : Int)) (by omega))
     have hiff : aCV tol x y ((pQ l).getD t (0, 0)) = true ↔ (x - tol - tol ≤ gt xs (t : Int) ∧ gt xs (t : Int) ≤ x) ∧ (y - tol - tol ≤ gt ys (t : Int) ∧ gt ys (t : Int) ≤ y) := by
      rw [g1, g2]
      simp only [aCV, decide_eq_true_eq]
      omega
     by_cases h1 : x - tol - tol ≤ gt xs (t : Int)
     ·by_cases h2 : gt xs (t : Int) ≤ x
      ·by_cases h3 : y - tol - tol ≤ gt ys (t : Int)
       ·by_cases h4 : gt ys (t : Int) ≤ y
        ·rw [if_pos (hiff.2 ⟨⟨h1, h2⟩, h3, h4⟩)] at hcs
         repeat (refine aJ ?_)
         refine aK (i - (t + 1)) _ _ _ (by first | omega | (simp only [List.length_append, List.length_cons, List.length_nil]; omega)) aL aG aD (⟨t + 1, N + 1, by omega, by omega, hcs.symm, rfl, rfl, rfl⟩)
        ·rw [if_neg (fun h => h4 (hiff.1 h).2.2)] at hcs
         repeat (refine aJ ?_)
         refine aK (i - (t + 1)) _ _ _ (by first | omega | (simp only [List.length_append, List.length_cons, List.length_nil]; omega)) aL aG aD (⟨t + 1, N, by omega, by omega, hcs.symm, rfl, rfl, rfl⟩)
       ·rw [if_neg (fun h => h3 (hiff.1 h).2.1)] at hcs
        repeat (refine aJ ?_)
        refine aK (i - (t + 1)) _ _ _ (by first | omega | (simp only [List.length_append, List.length_cons, List.length_nil]; omega)) aL aG aD (⟨t + 1, N, by omega, by omega, hcs.symm, rfl, rfl, rfl⟩)
      ·rw [if_neg (fun h => h2 (hiff.1 h).1.2)] at hcs
       repeat (refine aJ ?_)
       refine aK (i - (t + 1)) _ _ _ (by first | omega | (simp only [List.length_append, List.length_cons, List.length_nil]; omega)) aL aG aD (⟨t + 1, N, by omega, by omega, hcs.symm, rfl, rfl, rfl⟩)
     ·rw [if_neg (fun h => h1 (hiff.1 h).1.1)] at hcs
      repeat (refine aJ ?_)
      refine aK (i - (t + 1)) _ _ _ (by first | omega | (simp only [List.length_append, List.length_cons, List.length_nil]; omega)) aL aG aD (⟨t + 1, N, by omega, by omega, hcs.symm, rfl, rfl, rfl⟩)
    ·obtain rfl : t = i := by omega
     rw [← hdl, List.take_length] at hN
     have hNc : N = qU (pQ l) tol x y := hN
     by_cases hgt : most < N
     ·have hB2 : BInv (pQ l) tol (Vis xl cl a (j + 1)) (x - tol + tol) (y - tol + tol) N := by
       rw [Int.sub_add_cancel, Int.sub_add_cancel]
       by_cases h : j < cl.length
       ·have := (aIB hxa hca hB hax h).1
        rw [hxe, ← hg.1 h, ← hNc] at this
        exact this hgt
       ·have := (aGC (by omega) hax hcd hB y).1
        rw [hxe, ← hNc] at this
        omega
      repeat (refine aJ ?_)
      (refine aC rfl (fun _ => jW (vals := [.int .i64 (x - tol), .int .i64 (y - tol)]) (cells := [.int .i64 (x - tol), .int .i64 (y - tol)]) rfl ?hpl rfl ?hz) rfl rfl ?_; (case hpl => repeat (first | exact True.intro | refine ⟨rfl, ?_⟩)); (case hz => rfl))
      repeat (refine aJ ?_)
      refine aK (m - (j + 1)) _ _ _ (by first | omega | (simp only [List.length_append, List.length_cons, List.length_nil]; omega)) aL aG aD (⟨j + 1, x - tol, y - tol, N, by omega, rfl, by omega, hB2, rfl, rfl, rfl⟩)
     ·have hB2 : BInv (pQ l) tol (Vis xl cl a (j + 1)) (bx + tol) (by_ + tol) most := by
       by_cases h : j < cl.length
       ·have := (aIB hxa hca hB hax h).2
        rw [hxe, ← hg.1 h, ← hNc] at this
        exact this hgt
       ·exact (aGC (by omega) hax hcd hB y).2
      repeat (refine aJ ?_)
      refine aK (m - (j + 1)) _ _ _ (by first | omega | (simp only [List.length_append, List.length_cons, List.length_nil]; omega)) aL aG aD (⟨j + 1, bx, by_, most, by omega, rfl, hmi, hB2, rfl, rfl, rfl⟩)
   ·obtain rfl : j = m := by omega
    have hB2 := aRS hB hax hclE
    repeat (refine aJ ?_)
    refine aK (xl.length - (a + 1)) _ _ _ (by first | omega | (simp only [List.length_append, List.length_cons, List.length_nil]; omega)) aL aG aD (⟨a + 1, E2, bx, by_, most, by omega, rfl, hE2l, hE2z, hmi, hB2, rfl, rfl, rfl⟩)
  ·obtain rfl : a = xl.length := by omega
   have hend := aVC hB (fun z => by rw [hxm, hxs]; exact aUR) (fun z => by rw [hcm, hys]; exact aMG) hl0 ht1
   repeat (refine aJ ?_)
   refine kD (M' := .blk b4 [.int .i64 bx, .int .i64 by_] 56 :: M0) (I' := I0) aG aD ?_
   refine dZ (rs := [.cell 4 56, .tmp 5, .tmp 6]) (vs := [.agg [.int .i64 bx, .int .i64 by_].toArray, .int .i64 most, .int .i64 0]) (.inl rfl) rfl (.cellN (cs := [.int .i64 bx, .int .i64 by_]) inferInstance rfl aB rfl (.tmp rfl (.tmp rfl .nil))) rfl M0 I0 aG aD ⟨rfl, rfl, bx + tol, by_ + tol, most, hend, by rw [Int.add_sub_cancel, Int.add_sub_cancel]⟩
end
end Go.Proofs.YtjbhdfpjnjedhaaGreat

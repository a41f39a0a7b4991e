/- controlled: combined, prove, Controlled. controlled: exists, Check; the law's unit, inside, annuls, proves. Chapter 42's law: unit, inside, annuls, proves; the walk of ControlledChecks. -/
import Derived.Test.YtgeagiikkeiioaaGreatZfbf
import Derived.Test.YtgeagiikkeiioaaGreatZfav
import Derived.Test.YtgeagiikkeiioaaGreatZfbc
set_option linter.unusedSimpArgs false
set_option linter.unusedVariables false
set_option maxRecDepth 100000
set_option maxHeartbeats 4000000
namespace Go.Proofs.YtgeagiikkeiioaaGreat
open Go Go.Fx
def apL (R C : Nat) (A : Mt) (x : List Rat) : List Rat := (List.range R).map (fun i => sm C (fun t => at2 A i t * x.getD t 0))
def annP (R C : Nat) (A : Mt) (y : List Rat) : Prop := uD (apL C R (trM R C A) y)
instance annP.dec (R C : Nat) (A : Mt) (y : List Rat) : Decidable (annP R C A y) := by unfold annP; exact inferInstance
theorem aCR {R C : Nat} {A : Mt} {x : List Rat} : (apL R C A x).length = R := by simp [apL]
def xB (R C : Nat) (A : Mt) : List Bool := (List.range R).map (fun i => B (ctl R C A i))
section
variable {X : List Nat} {w0 : World} {M0 : List Ent} {I0 : List bA}
theorem xQ {y : RL} {a : MX} {R C k m : Nat} (hk : k ≤ 1000000000) (hm : m ≤ 500000000) (da : a.fit R C) (hl : y.es.length = R) (ha : jC a k ∈ I0) (hy : kZ y m ∈ I0) :
  CD Tryz.prog 99 [lv y, mv a] X w0 M0 I0 (LQ (apL C R (trM R C a.q) y.q) (R * (k + m + 1)) M0 I0) := by
 have hT := fun M0 I0 h => aAL (X := X) (w0 := w0) (M0 := M0) (I0 := I0) (a := a) (R := R) (C := C) (k := k) (by omega) da h
 refine bH Tryz.func99 rfl Tryz.ntmps99 rfl ?_
 repeat (refine aJ ?_)
 (refine aA rfl (hT _ _ aB) rfl rfl ?_; rintro _ _ _ ⟨rfl, t, rfl, ht, td, rfl⟩; refine ⟨okF, ?_⟩)
 have hA := fun M0 I0 h1 h2 => aBZ (X := X) (w0 := w0) (M0 := M0) (I0 := I0) (a := t) (x := y) (R := C) (C := R) (k := k) (m := m) hk hm ⟨td, da.2.2, da.2.1⟩ hl h1 h2
 repeat (refine aJ ?_)
 (refine aA rfl (hA _ _ aB aB) rfl rfl ?_; rintro _ _ _ ⟨rfl, r, rfl, hr, rfl⟩; refine ⟨okF, ?_⟩)
 repeat (refine aJ ?_)
 refine aH (by first | exact .inl rfl | exact .inr rfl) rfl rfl _ _ aG aD (⟨rfl, r, rfl, by rw [hr, ht]; rfl, rfl⟩)
theorem aFY {m : LE} {R C i k : Nat} (hb : 2 * kb k C ≤ 20000000000) (f : m.fit R C) (hi : i < R) (h : iC m k ∈ I0) :
  CD Tryz.prog 102 [vLE m, .int .i64 (i : Int)] X w0 M0 I0 (fun v M I => M0 = M ∧ I0 = I ∧ ∃ x : Value, v = .agg #[.bool (B (ctl R C m.a.q i)), x]) := by
 have hk0 : k ≤ kb k C := pG k (Nat.zero_le C)
 have lR := f.d.1.1
 subst lR
 obtain ⟨r1, r2⟩ := f.d.2.1
 have hC := f.c
 refine cB (φ := jC m.a k) (Hv.lea h) ?_
 have hO := fun M0 I0 => aDQ (X := X) (w0 := w0) (M0 := M0) (I0 := I0) (n := m.a.rows.length) (i := i) (by omega) hi
 refine bH Tryz.func102 rfl Tryz.ntmps102 rfl ?_
 refine aL ?_
 refine aI ?_
 (refine aZ rfl rfl rfl ?_; intro b1; refine ⟨okF, ?_⟩)
 refine aC .here ?_
 (refine aO rfl rfl ?_; intro b2; refine ⟨okF, ?_⟩)
 repeat (refine aJ ?_)
 (refine aA rfl (hO _ _) rfl rfl ?_; rintro _ _ _ ⟨rfl, e, rfl, he, hel, rfl⟩; refine ⟨okF, ?_⟩)
 refine cK (φ := kZ e k) (Hv.lm (k := 0) aB (Nat.zero_le _)) ?_
 have hS := fun M0 I0 h1 h2 => aLD (X := X) (w0 := w0) (M0 := M0) (I0 := I0) (a := m.a) (b := e) (R := m.a.rows.length) (C := C) (k0 := k) (by omega) (by omega) f.d hel h1 h2
 by_cases hs : uH m.a.rows.length C m.a.q (unL m.a.rows.length i)
 ·have hs' : uH m.a.rows.length C m.a.q e.q := by rw [he]; exact hs
  simp only [if_pos hs'] at hS
  repeat (refine aJ ?_)
  (refine aA rfl (hS _ _ aB aB) rfl rfl ?_; rintro _ _ _ ⟨rfl, x, rfl, hx, rfl⟩; refine ⟨okF, ?_⟩)
  repeat (refine aJ ?_)
  refine aF rfl (fun _ => eT (pvs := [(1, lv x)]) (cells := [.bool false, lv x]) rfl rfl) rfl rfl ?_
  repeat (refine aJ ?_)
  refine bN (cs := [.bool false, lv x]) (.inl rfl) rfl rfl aB rfl M0 I0 aG aD ⟨rfl, rfl, lv x, by rw [aY (show ¬ ctl m.a.rows.length C m.a.q i from fun hn => hn hs)]⟩
 ·have hs' : ¬ uH m.a.rows.length C m.a.q e.q := by rw [he]; exact hs
  simp only [if_neg hs'] at hS
  have hR := fun M0 I0 h1 h2 => aIY (X := X) (w0 := w0) (M0 := M0) (I0 := I0) (a := m.a) (b := e) (R := m.a.rows.length) (C := C) (k0 := k) hb (by omega) (by omega) f.d hel h1 h2 hs'
  repeat (refine aJ ?_)
  (refine aA rfl (hS _ _ aB aB) rfl rfl ?_; rintro _ _ _ ⟨rfl, rfl, rfl⟩; refine ⟨okF, ?_⟩)
  repeat (refine aJ ?_)
  (refine aA rfl (hR _ _ aB aB) rfl rfl ?_; rintro _ _ _ ⟨rfl, x, rfl, rfl⟩; refine ⟨okF, ?_⟩)
  repeat (refine aJ ?_)
  (refine aF rfl (fun _ => bC (vals := [.bool true, lv x]) (cells := [.bool true, lv x]) rfl ?hpl rfl ?hz) rfl rfl ?_; (case hpl => repeat (first | exact True.intro | refine ⟨rfl, ?_⟩)); (case hz => rfl))
  repeat (refine aJ ?_)
  refine bN (cs := [.bool true, lv x]) (.inl rfl) rfl rfl aB rfl M0 I0 aG aD ⟨rfl, rfl, lv x, by rw [bO (show ctl m.a.rows.length C m.a.q i from hs)]⟩
theorem nH {m : LE} {R C k : Nat} (hb : 2 * kb k C ≤ 20000000000) (f : m.fit R C) (h : iC m k ∈ I0) :
  CD Tryz.prog 43 [vLE m] X w0 M0 I0 (fun v M I => M0 = M ∧ ∃ (q : Option Addr) (c : Nat), v = .tuple #[.slice q R c, .int .i64 0] ∧ I = aX q (recs eB (xB R C m.a.q)) :: I0) := by
 have hk0 : k ≤ kb k C := pG k (Nat.zero_le C)
 have lR := f.d.1.1
 subst lR
 obtain ⟨r1, r2⟩ := f.d.2.1
 have hC := fun M0 I0 h => oJ (X := X) (w0 := w0) (M0 := M0) (I0 := I0) (m := m) (k := k) (by omega) f h
 have hP := fun (i : Nat) (hi : i < m.a.rows.length) M0 I0 h => aFY (X := X) (w0 := w0) (M0 := M0) (I0 := I0) (m := m) (i := i) (k := k) hb f hi h
 refine bF Tryz.func43 rfl Tryz.ntmps43 rfl ?_
 refine aL ?_
 refine aI ?_
 (refine aZ rfl rfl rfl ?_; intro b1; refine ⟨okF, ?_⟩)
 refine aC .here ?_
 repeat (refine aJ ?_)
 (refine aA rfl (hC _ _ aB) rfl rfl ?_; rintro _ _ _ ⟨rfl, rfl, rfl⟩; refine ⟨okF, ?_⟩)
 repeat (refine aJ ?_)
 refine nT 4 1 ?_
 refine aW [1, 14] rfl (fun k G M I => ∃ (i : Nat) (bs : List Bool) (q : Option Addr) (c : Nat), i ≤ m.a.rows.length ∧ k = m.a.rows.length - i ∧ bs.length = i ∧ bs = (List.range i).map (fun t => B (ctl m.a.rows.length C m.a.q t)) ∧ G = [(5, .slice q bs.length c), (15, .int .i64 i)] ∧ M = .row q bs.length c (recs eB bs) 4 1 :: M0 ∧ I = aX (some ⟨b1, 0, none⟩) [mv m.a, lv m.l, lv m.p] :: I0) (m.a.rows.length) _ _ _ aP aG aD (⟨0, [], none, 0, by omega, rfl, rfl, rfl, rfl, rfl, rfl⟩) ?_
 rintro kk G M I ⟨i, bs, q, c, hi, rfl, hbl, hbs, rfl, rfl, rfl⟩
 by_cases hin : i < m.a.rows.length
 ·have hPi := hP i hin
  generalize hbb : B (ctl m.a.rows.length C m.a.q i) = bb at *
  repeat (refine aJ ?_)
  (refine aA rfl (hPi _ _ aB) rfl rfl ?_; rintro _ _ _ ⟨rfl, rfl, x, rfl⟩; refine ⟨okF, ?_⟩)
  repeat (refine aJ ?_)
  (refine aK (cs := recs eB [bb]) ([.bool bb]) rfl rfl (by intro v hv; repeat (first | exact absurd hv (List.not_mem_nil) | (rcases List.mem_cons.1 hv with rfl | hv; · rfl))) (by omega) rfl rfl rfl ?_; intro b; refine ⟨okF, ?_⟩)
  (refine aM (ys := [bb]) 1 rfl rfl rfl ?_ (by decide) rfl (by omega) (by omega) rfl rfl ?_; (· first | exact Src.blk aB | exact Src.row aB | exact Src.imm aB (by first | assumption | exact .inl (Ok.mk _ _))); intro q2 c2; refine ⟨okF, ?_⟩)
  repeat (refine aJ ?_)
  refine aN (m.a.rows.length - (i + 1)) _ _ _ (by first | omega | (simp only [List.length_append, List.length_cons, List.length_nil]; omega)) aP aG aD (⟨i + 1, bs ++ [bb], q2, c2, by omega, rfl, by simp; omega, by rw [List.range_succ, List.map_append, ← hbs, ← hbb]; rfl, rfl, rfl, rfl⟩)
 ·obtain rfl : i = m.a.rows.length := by omega
  repeat (refine aJ ?_)
  refine uQ .here ?_
  refine ND_w (M' := M0) (I' := aX q (recs eB bs) :: I0) SubP.refl aD ?_
  have hbs2 : bs = xB m.a.rows.length C m.a.q := hbs
  rw [hbl, hbs2]
  refine fC [2, 3] (by first | exact .inl rfl | exact .inr rfl) rfl rfl rfl _ _ aG aD (⟨rfl, q, c, rfl, rfl⟩)
end
end Go.Proofs.YtgeagiikkeiioaaGreat
namespace Go.Proofs.YtgeagiikkeiioaaGreat
open Go Go.Fx
def prvP (R C : Nat) (A : Mt) (i : Nat) (ct : Bool) (y : List Rat) : Prop := if ct = true then y.length = R ∧ annP R C A y ∧ y.getD i 0 = ((1 : Int) : Rat) else y.length = C ∧ apL R C A y = unL R i
instance prvP.dec (R C : Nat) (A : Mt) (i : Nat) (ct : Bool) (y : List Rat) : Decidable (prvP R C A i ct y) := by unfold prvP; exact inferInstance
theorem aDC {R C i : Nat} {A : Mt} {y : List Rat} : prvP R C A i true y ↔ (y.length = R ∧ annP R C A y ∧ y.getD i 0 = ((1 : Int) : Rat)) := by unfold prvP; simp
theorem aOB {P : Program} {n : Nat} {Q : Exit → Act → World → Prop} {G : Env} {X : List Nat} {w0 : World} {M M' : List Ent} {I : List bA} {c : Code} {b : Nat} {cs : List Value} {e : TypeId} (hr : Rem (.blk b cs e) M M') (h : TD P n c Q G X w0 M' (aX (some ⟨b, 0, none⟩) cs :: I)) : TD P n c Q G X w0 M I := aIT (fun _ hw => hw.freezeB hr) h
section
variable {X : List Nat} {w0 : World} {M0 : List Ent} {I0 : List bA}
theorem aEV {m : LE} {R C k : Nat} {i : Int} (hi : -9223372036854775808 ≤ i ∧ i ≤ 9223372036854775807) (hk : k ≤ 20000000000) (f : m.fit R C) (h : iC m k ∈ I0) :
  CD Tryz.prog 97 [vLE m, .int .i64 i] X w0 M0 I0 (fun v M I => M0 = M ∧ I0 = I ∧ v = .int .i64 (if 0 ≤ i ∧ i < R then 0 else 2)) := by
 have lR := f.d.1.1
 obtain ⟨r1, r2⟩ := f.d.2.1
 have hC := fun M0 I0 h => oJ (X := X) (w0 := w0) (M0 := M0) (I0 := I0) (m := m) (k := k) hk f h
 refine bH Tryz.func97 rfl Tryz.ntmps97 rfl ?_
 refine aL ?_
 refine aI ?_
 (refine aZ rfl rfl rfl ?_; intro b1; refine ⟨okF, ?_⟩)
 refine aC .here ?_
 repeat (refine aJ ?_)
 (refine aA rfl (hC _ _ aB) rfl rfl ?_; rintro _ _ _ ⟨rfl, rfl, rfl⟩; refine ⟨okF, ?_⟩)
 by_cases h1 : 0 ≤ i
 ·by_cases h2 : i < R
  ·rw [if_pos ⟨h1, h2⟩]
   repeat (refine aJ ?_)
   refine aH (by first | exact .inl rfl | exact .inr rfl) rfl rfl _ _ aG aD (⟨rfl, rfl, rfl⟩)
  ·rw [if_neg (fun h => h2 h.2)]
   repeat (refine aJ ?_)
   refine aH (by first | exact .inl rfl | exact .inr rfl) rfl rfl _ _ aG aD (⟨rfl, rfl, rfl⟩)
 ·rw [if_neg (fun h => h1 h.1)]
  repeat (refine aJ ?_)
  refine aH (by first | exact .inl rfl | exact .inr rfl) rfl rfl _ _ aG aD (⟨rfl, rfl, rfl⟩)
theorem xU {y : RL} {k : Nat} (hk : k ≤ 20000000000) (hl : y.es.length ≤ 1000000000) (hy : kZ y k ∈ I0) : CD Tryz.prog 96 [lv y] X w0 M0 I0 (fun v M I => M0 = M ∧ I0 = I ∧ v = .bool true) := by
 refine jT (φ := y.raw.sml) (fun w hw => Mem.lsml hy hl hk hw) (fun hs => ?_)
 refine sI (φ := gQ y.raw) (Hv.lraw hy hk) ?_
 have := zA (X := X) (w0 := w0) (M0 := M0) (I0 := gQ y.raw :: I0) (r := y.raw) hs (List.Mem.head _)
 rwa [bO y.raw_good, rA] at this
theorem aCA {m : LE} {R C k n i : Nat} {y : RL} (hk : k ≤ 1000000000) (hn : n ≤ 500000000) (hi : i < R) (f : m.fit R C) (h : iC m k ∈ I0) (hl : y.es.length ≤ 1000000000) (hy : kZ y n ∈ I0) : CD Tryz.prog 42 [vLE m, .int .i64 (i : Int), .agg #[.bool true, lv y]] X w0 M0 I0 (fun v M I => M0 = M ∧ I0 = I ∧ v = .int .i64 (if prvP R C m.a.q i true y.q then 0 else 12)) := by
 have lR := f.d.1.1
 subst lR
 obtain ⟨r1, r2⟩ := f.d.2.1
 obtain ⟨c1, c2⟩ := f.d.2.2
 have hC := fun M0 I0 h => oJ (X := X) (w0 := w0) (M0 := M0) (I0 := I0) (m := m) (k := k) (by omega) f h
 have hV := fun M0 I0 h => xU (X := X) (w0 := w0) (M0 := M0) (I0 := I0) (y := y) (k := n) (by omega) hl h
 have hE := fun M0 I0 h => aEV (X := X) (w0 := w0) (M0 := M0) (I0 := I0) (m := m) (k := k) (i := (i : Int)) (by omega) (by omega) f h
 rw [if_pos ⟨by omega, by omega⟩] at hE
 have hW := fun M0 I0 => lG (X := X) (w0 := w0) (M0 := M0) (I0 := I0) (x := 1) (by decide) (k := 0) (by decide)
 have yl : y.q.length = y.es.length := by show (y.es.map _).length = _; rw [List.length_map]
 refine cB (φ := jC m.a k) (Hv.lea h) ?_
 refine cB (φ := aX y.p (recs eR y.es)) (Hv.lsl (List.Mem.tail _ hy)) ?_
 refine lI Tryz.func42 rfl Tryz.ntmps42 rfl ?_
 refine aL ?_
 refine aI ?_
 (refine aZ rfl rfl rfl ?_; intro b1; refine ⟨okF, ?_⟩)
 refine aC .here ?_
 (refine aZ rfl rfl rfl ?_; intro b2; refine ⟨okF, ?_⟩)
 refine aC .here ?_
 repeat (refine aJ ?_)
 (refine aA rfl (hC _ _ aB) rfl rfl ?_; rintro _ _ _ ⟨rfl, rfl, rfl⟩; refine ⟨okF, ?_⟩)
 repeat (refine aJ ?_)
 (refine aA rfl (hV _ _ aB) rfl rfl ?_; rintro _ _ _ ⟨rfl, rfl, rfl⟩; refine ⟨okF, ?_⟩)
 repeat (refine aJ ?_)
 (refine aA rfl (hE _ _ aB) rfl rfl ?_; rintro _ _ _ ⟨rfl, rfl, rfl⟩; refine ⟨okF, ?_⟩)
 repeat (refine aJ ?_)
 by_cases e1 : y.es.length = m.a.rows.length
 ·have hB := fun M0 I0 h1 h2 => xQ (X := X) (w0 := w0) (M0 := M0) (I0 := I0) (y := y) (a := m.a) (k := k) (m := n) hk hn f.d e1 h1 h2
  have hkm : m.a.rows.length * (k + n + 1) ≤ 100000000000 := Nat.le_trans (Nat.mul_le_mul r2 (show k + n + 1 ≤ 1500000001 by omega)) (by decide)
  have hZ := fun (r : RL) (hr : r.q = apL C m.a.rows.length (trM m.a.rows.length C m.a.q) y.q) M0 I0 h => by
   have := xA (X := X) (w0 := w0) (M0 := M0) (I0 := I0) (r := r) (k := m.a.rows.length * (k + n + 1)) hkm (by
    have := congrArg List.length hr
    rw [aCR, List.length_map] at this; omega) h
   rw [hr] at this
   exact this
  by_cases e2 : annP m.a.rows.length C m.a.q y.q
  ·have hCm := fun (e : RE) M0 I0 h1 h2 => xK (X := X) (w0 := w0) (M0 := M0) (I0 := I0) (a := gt y.es (i : Int)) (b := e) (k := n) (m := 0) (by omega) h1 h2
   have hq : y.q.getD i 0 = (gt y.es (i : Int)).q := lZ (by omega)
   refine fP (φ := iI (gt y.es (i : Int)) n) (Hv.lel aB (by omega)) ?_
   (repeat refine aL ?_); refine eF [0, 1, 2, 3, 4, 5, 6, 7, 8, 9, 10, 11, 12, 13, 14, 15, 16, 17, 18, 19, 20, 21, 22, 23, 24, 25] [4, 4, 4, 4, 4, 4, 4, 2, 4, 3, 4, 3, 0, 0, 2, 2, 0, 2, 2, 2, 2, 1, 0, 0, 0, 0] mixed (by kernel_rfl) ?_
   repeat (refine aJ ?_)
   (refine aA rfl (hB _ _ aB aB) rfl rfl ?_; rintro _ _ _ ⟨rfl, r, rfl, hr, rfl⟩; refine ⟨okF, ?_⟩)
   have hZr := hZ r hr
   rw [bO (show uD _ from e2)] at hZr
   repeat (refine aJ ?_)
   (refine aA rfl (hZr _ _ aB) rfl rfl ?_; rintro _ _ _ ⟨rfl, rfl, rfl⟩; refine ⟨okF, ?_⟩)
   repeat (refine aJ ?_)
   (refine aA rfl (hW _ _) rfl rfl ?_; rintro _ _ _ ⟨rfl, e, rfl, he, rfl⟩; refine ⟨okF, ?_⟩)
   repeat (refine aJ ?_)
   have hCe := hCm e
   have hcq := aIM (p := (gt y.es (i : Int)).q) (q := e.q)
   generalize aNQ (gt y.es (i : Int)).q e.q = cv at *
   (refine aA rfl (hCe _ _ (Hv.mem aB) (Hv.mem aB)) rfl rfl ?_; rintro _ _ _ ⟨rfl, rfl, rfl⟩; refine ⟨okF, ?_⟩)
   by_cases e3 : y.q.getD i 0 = ((1 : Int) : Rat)
   ·have h0 : cv = 0 := hcq.2 (by rw [he, ← hq]; exact e3)
    simp only [if_pos (aDC.2 ⟨by omega, e2, e3⟩ : prvP m.a.rows.length C m.a.q i true y.q)]
    repeat (refine aJ ?_)
    refine aH (by first | exact .inl rfl | exact .inr rfl) rfl rfl _ _ aG aD (⟨rfl, rfl, rfl⟩)
   ·have h0 : ¬ cv = 0 := fun h => e3 (by rw [hq, hcq.1 h, he])
    simp only [if_neg (fun h => e3 (aDC.1 h).2.2 : ¬ prvP m.a.rows.length C m.a.q i true y.q)]
    repeat (refine aJ ?_)
    refine aH (by first | exact .inl rfl | exact .inr rfl) rfl rfl _ _ aG aD (⟨rfl, rfl, rfl⟩)
  ·simp only [if_neg (fun h => e2 (aDC.1 h).2.1 : ¬ prvP m.a.rows.length C m.a.q i true y.q)]
   (repeat refine aL ?_); refine eF [0, 1, 2, 3, 4, 5, 6, 7, 8, 9, 10, 11, 12, 13, 14, 15, 16, 17, 18, 19, 20, 21, 22, 23, 24, 25] [4, 4, 4, 4, 4, 4, 4, 2, 4, 3, 4, 3, 0, 0, 2, 2, 0, 2, 2, 2, 2, 1, 0, 0, 0, 0] mixed (by kernel_rfl) ?_
   repeat (refine aJ ?_)
   (refine aA rfl (hB _ _ aB aB) rfl rfl ?_; rintro _ _ _ ⟨rfl, r, rfl, hr, rfl⟩; refine ⟨okF, ?_⟩)
   have hZr := hZ r hr
   rw [aY (show ¬ uD _ from e2)] at hZr
   repeat (refine aJ ?_)
   (refine aA rfl (hZr _ _ aB) rfl rfl ?_; rintro _ _ _ ⟨rfl, rfl, rfl⟩; refine ⟨okF, ?_⟩)
   repeat (refine aJ ?_)
   refine aH (by first | exact .inl rfl | exact .inr rfl) rfl rfl _ _ aG aD (⟨rfl, rfl, rfl⟩)
 ·simp only [if_neg (fun h => e1 (by have := (aDC.1 h).1; omega) : ¬ prvP m.a.rows.length C m.a.q i true y.q)]
  (repeat refine aL ?_); refine eF [0, 1, 2, 3, 4, 5, 6, 7, 8, 9, 10, 11, 12, 13, 14, 15, 16, 17, 18, 19, 20, 21, 22, 23, 24, 25] [4, 4, 4, 4, 4, 4, 4, 2, 4, 3, 4, 3, 0, 0, 2, 2, 0, 2, 2, 2, 2, 1, 0, 0, 0, 0] mixed (by kernel_rfl) ?_
  repeat (refine aJ ?_)
  refine aH (by first | exact .inl rfl | exact .inr rfl) rfl rfl _ _ aG aD (⟨rfl, rfl, rfl⟩)
end
end Go.Proofs.YtgeagiikkeiioaaGreat
namespace Go.Proofs.YtgeagiikkeiioaaGreat
open Go Go.Fx
theorem Hv.shL {I : List bA} {y : WL} {Y : RL} {n g : Nat} (e : y = Y.raw) (hs : y.shN n g) (h : gQ y ∈ I) : Hv I (kZ Y (30 * g)) := ⟨fun X w hw => by
 subst e
 have hi := (hw _ h : IsWL Y.raw X w)
 exact ⟨by have := hi.sl; rw [show Y.raw.es = Y.es.map RE.raw from rfl, yX] at this; exact this, fun e he => by
  have h1 := (hs.2 e.raw (List.mem_map.2 ⟨e, he, rfl⟩)).1
  unfold RW.dig at h1
  exact RE.isR_raw (hi.el e.raw (List.mem_map.2 ⟨e, he, rfl⟩)) (by omega) (by omega), by have := hi.cap; rw [show Y.raw.es.length = Y.es.length from by show (Y.es.map RE.raw).length = _; rw [List.length_map]] at this; exact this⟩⟩
theorem WL.shN.sml {y : WL} {n g : Nat} (hn : n ≤ 1000000 ∧ g ≤ 1000000) (hs : y.shN n g) : y.sml := ⟨by have := hs.1; omega, fun e he => by have := (hs.2 e he).1; unfold RW.dig at this; exact ⟨by omega, by omega⟩⟩
section
variable {X : List Nat} {w0 : World} {M0 : List Ent} {I0 : List bA}
theorem aGF {y : RL} {k : Nat} (hk : k ≤ 20000000000) (hl : y.es.length ≤ 1000000000) (hy : kZ y k ∈ I0) : CD Tryz.prog 27 [lv y] X w0 M0 I0 (fun v M I => M0 = M ∧ I0 = I ∧ v = .bool true) := by
 refine jT (φ := y.raw.sml) (fun w hw => Mem.lsml hy hl hk hw) (fun hs => ?_)
 refine sI (φ := gQ y.raw) (Hv.lraw hy hk) ?_
 have := pI (X := X) (w0 := w0) (M0 := M0) (I0 := gQ y.raw :: I0) (r := y.raw) hs (List.Mem.head _)
 rwa [bO y.raw_good, rA] at this
end
end Go.Proofs.YtgeagiikkeiioaaGreat

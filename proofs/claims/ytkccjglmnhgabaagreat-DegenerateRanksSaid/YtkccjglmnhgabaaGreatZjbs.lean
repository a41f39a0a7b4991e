/- The law DegenerateRanks, walked. -/
import Derived.Test.YtkccjglmnhgabaaGreatZjbq
import Derived.Test.YtkccjglmnhgabaaGreatZjam
set_option linter.unusedSimpArgs false
set_option linter.unusedVariables false
set_option maxRecDepth 100000
set_option maxHeartbeats 4000000
namespace Go.Proofs.YtkccjglmnhgabaaGreat
open Go Go.Fx
theorem kbm1 {k k' : Nat} (h : k ≤ k') : ∀ n, kb k n ≤ kb k' n
 | 0 => h
 | n + 1 => by show 4 * kb k n + 1 ≤ 4 * kb k' n + 1; have := kbm1 h n; omega
section
variable {X : List Nat} {w0 : World} {M0 M1 : List Ent} {I0 : List aZ}
theorem aSQ : CD Tryz.prog 21 [.agg zRm.toArray] X w0 M0 I0 (fun v M I => M0 = M ∧ I0 = I ∧ v = .bool true) := by
 refine aU Tryz.func21 rfl Tryz.ntmps21 rfl ?_
 refine aI ?_
 refine aH ?_
 (refine aR rfl rfl rfl ?_; intro b1; refine ⟨okF, ?_⟩)
 repeat (refine aK ?_)
 refine aF (by first | exact .inl rfl | exact .inr rfl) rfl rfl _ _ aG aD (⟨rfl, rfl, congrArg Value.bool (bB (by decide))⟩)
theorem aTZ {m : WM} (hR : m.rch) (hm : iE m ∈ I0) (h : ¬ m.shN 7 6) :
  CD Tryz.prog 4 [yI m] X w0 M0 I0 (fun v M I => M0 = M ∧ I0 = I ∧ v = .bool true) := by
 have hKn := fun M0 I0 => iT (X := X) (w0 := w0) (M0 := M0) (I0 := I0)
 have hF := fun M0 I0 h => kV (X := X) (w0 := w0) (M0 := M0) (I0 := I0) (m := m) hR h
 rw [aX h] at hF
 refine aU Tryz.func4 rfl Tryz.ntmps4 rfl ?_
 repeat (refine aK ?_)
 (refine aA rfl (hKn _ _) rfl rfl ?_; rintro _ _ _ ⟨rfl, rfl, rfl⟩; refine ⟨okF, ?_⟩)
 repeat (refine aK ?_)
 (refine aA rfl (hF _ _ aB) rfl rfl ?_; rintro _ _ _ ⟨rfl, rfl, rfl⟩; refine ⟨okF, ?_⟩)
 repeat (refine aK ?_)
 refine aF (by first | exact .inl rfl | exact .inr rfl) rfl rfl _ _ aG aD (⟨rfl, rfl, rfl⟩)
theorem aTC {m : WM} (hR : m.rch) (hm : iE m ∈ I0) (h1 : m.shN 7 6) (hc : ¬ m.ok) :
  CD Tryz.prog 4 [yI m] X w0 M0 I0 (fun v M I => M0 = M ∧ I0 = I ∧ v = .bool true) := by
 have sm := WM.shN.smlN ⟨by omega, by omega⟩ h1
 have hKn := fun M0 I0 => iT (X := X) (w0 := w0) (M0 := M0) (I0 := I0)
 have hF := fun M0 I0 h => kV (X := X) (w0 := w0) (M0 := M0) (I0 := I0) (m := m) hR h
 have hRk := fun M0 I0 h => aPB (X := X) (w0 := w0) (M0 := M0) (I0 := I0) (a := m) sm hc h
 have hrC := fun M0 I0 h => oD (X := X) (w0 := w0) (M0 := M0) (I0 := I0) (m := m) sm h
 have hZ := fun M0 I0 => aSQ (X := X) (w0 := w0) (M0 := M0) (I0 := I0)
 have e1 : m.code = 1 := by unfold WM.code; rw [if_neg hc]
 rw [e1] at hrC
 rw [bB h1] at hF
 refine aU Tryz.func4 rfl Tryz.ntmps4 rfl ?_
 repeat (refine aK ?_)
 (refine aA rfl (hKn _ _) rfl rfl ?_; rintro _ _ _ ⟨rfl, rfl, rfl⟩; refine ⟨okF, ?_⟩)
 repeat (refine aK ?_)
 (refine aA rfl (hF _ _ aB) rfl rfl ?_; rintro _ _ _ ⟨rfl, rfl, rfl⟩; refine ⟨okF, ?_⟩)
 repeat (refine aK ?_)
 (refine aA rfl (hRk _ _ aB) rfl rfl ?_; rintro _ _ _ ⟨rfl, rfl, rfl⟩; refine ⟨okF, ?_⟩)
 repeat (refine aK ?_)
 (refine aL rfl rfl ?_; intro b4; refine ⟨okF, ?_⟩)
 repeat (refine aK ?_)
 (refine aA rfl (hrC _ _ aB) rfl rfl ?_; rintro _ _ _ ⟨rfl, rfl, rfl⟩; refine ⟨okF, ?_⟩)
 repeat (refine aK ?_)
 (refine aA rfl (hZ _ _) rfl rfl ?_; rintro _ _ _ ⟨rfl, rfl, rfl⟩; refine ⟨okF, ?_⟩)
 repeat (refine aK ?_)
 refine aF (by first | exact .inl rfl | exact .inr rfl) rfl rfl _ _ aG aD (⟨rfl, rfl, rfl⟩)
theorem aRR {x : MX} {R n : Nat} (hR : x.raw.rch) (fx : x.fit R n) (hR7 : R ≤ 7) (n7 : n ≤ 7) (hx : fJ x 30 ∈ I0) (hm : iE x.raw ∈ I0) (h1 : x.raw.shN 7 6) :
  CD Tryz.prog 4 [mv x] X w0 M0 I0 (fun v M I => M0 = M ∧ I0 = I ∧ v = .bool true) := by
 have sm := WM.shN.smlN ⟨by omega, by omega⟩ h1
 have hkb := kb30 n7
 have hdL := kL fx.1
 obtain ⟨r1, r2⟩ := fx.2.1
 obtain ⟨c1, c2⟩ := fx.2.2
 have hkk : kb (kb 30 n) n ≤ 20000000000 := Nat.le_trans (Nat.le_trans (kbm1 hkb n) (gU 497000 n7)) (by decide)
 have hKn := fun M0 I0 => iT (X := X) (w0 := w0) (M0 := M0) (I0 := I0)
 have hF := fun M0 I0 h => kV (X := X) (w0 := w0) (M0 := M0) (I0 := I0) (m := x.raw) hR h
 have hrC := fun M0 I0 h => oD (X := X) (w0 := w0) (M0 := M0) (I0 := I0) (m := x.raw) sm h
 have hRk := fun M0 I0 h => yE (X := X) (w0 := w0) (M0 := M0) (I0 := I0) (m := x) (R := R) (n := n) (u := 30) fx (by omega) (by omega) h
 have hrR := fun M0 I0 h => xZ (X := X) (w0 := w0) (M0 := M0) (I0 := I0) (a := x) (R := R) (C := n) (k0 := 30) (by omega) (by omega) (by omega) fx.1 h
 have hall : (jR x.q qT R).1.length = rk x.q n := sP hdL
 have hrkl := wX hdL
 have hnl := sH hdL
 have e1 : x.raw.code = 0 := by unfold WM.code; rw [if_pos fx.ok]
 rw [e1, jT] at hrC
 rw [bB h1, jT] at hF
 obtain ⟨K, hK⟩ : ∃ K, kb 30 n = K := ⟨_, rfl⟩
 rw [hK] at hkb hkk hRk
 refine aU Tryz.func4 rfl Tryz.ntmps4 rfl ?_
 repeat (refine aK ?_)
 (refine aA rfl (hKn _ _) rfl rfl ?_; rintro _ _ _ ⟨rfl, rfl, rfl⟩; refine ⟨okF, ?_⟩)
 repeat (refine aK ?_)
 (refine aA rfl (hF _ _ aB) rfl rfl ?_; rintro _ _ _ ⟨rfl, rfl, rfl⟩; refine ⟨okF, ?_⟩)
 repeat (refine aK ?_)
 (refine aA rfl (hRk _ _ aB) rfl rfl ?_; rintro _ _ _ ⟨rfl, e, rfl, q1, q2, q3, q4, q5, rfl⟩; refine ⟨okF, ?_⟩)
 obtain ⟨hz, hv⟩ := aIL hdL q1 q2 q3 q4 q5
 rw [hall] at hz ⊢
 have hkn : e.kn.rows.length ≤ 1000 ∧ ∀ r ∈ e.kn.rows, r.es.length ≤ 1000 := ⟨by have := aJN q4; omega, fun r hr => by have := q5 r hr; omega⟩
 have hri : e.ri.length ≤ 1000 ∧ e.ci.length ≤ 1000 := by
  have := (aGN hz).2.1
  have a1 : (e.ri.length : Int) = (rk x.q n : Nat) := this.1
  have a2 : (e.ci.length : Int) = (rk x.q n : Nat) := this.2
  omega
 refine mQ (fun w hw => aRD (e := e) (k := K) aB (by omega) hkn.1 hkn.2 hw) (fun hsm => ?_)
 refine iQ (φ := isKW e.raw) (Hv.kraw (k := K) (by omega) hri aB) ?_
 have hCk := fun M0 I0 hm hp hk => pI (X := X) (w0 := w0) (M0 := M0) (I0 := I0) (m := x) (R := R) (n := n) (u := 30) (kd := K) (kk := K) (r := ((rk x.q n : Nat) : Int)) (p := e.raw) (e := e) fx (by omega) (by omega) (by omega) (by omega) (by have := Nat.mul_le_mul_right (30 + K + 1) n7; omega) hm hp hsm.1 hsm.2 (fun _ => ⟨rfl, Hv.ked hk, Hv.ken hk⟩)
 have hPv := fun M0 I0 hm hp hk => aEH (X := X) (w0 := w0) (M0 := M0) (I0 := I0) (m := x) (R := R) (n := n) (kd := K) (kk := K) (r := ((rk x.q n : Nat) : Int)) (p := e.raw) (e := e) (by omega) fx n7 hR7 (by omega) (by omega) hkk hm hp hsm.1 hsm.2 (fun _ => ⟨rfl, Hv.ked hk, Hv.ken hk⟩)
 rw [hz, if_pos rfl, if_pos hv, aFU] at hCk hPv
 repeat (refine aK ?_)
 (refine aL rfl rfl ?_; intro b4; refine ⟨okF, ?_⟩)
 repeat (refine yXh ?_)
 refine eY (vs := eKE e) (cs := zKE) rfl rfl rfl (Ones.one e) jV (.all rfl) rfl rfl ⟨okF, ?_⟩
 repeat (refine aK ?_)
 (refine aA rfl (hrC _ _ aB) rfl rfl ?_; rintro _ _ _ ⟨rfl, rfl, rfl⟩; refine ⟨okF, ?_⟩)
 repeat (refine aK ?_)
 (refine aA rfl (hrR _ _ aB) rfl rfl ?_; rintro _ _ _ ⟨rfl, rfl, rfl⟩; refine ⟨okF, ?_⟩)
 repeat (refine aK ?_)
 (refine aA rfl (hPv _ _ aB aB aB) rfl rfl ?_; rintro _ _ _ ⟨rfl, rfl, rfl⟩; refine ⟨okF, ?_⟩)
 repeat (refine aK ?_)
 (refine aA rfl (hCk _ _ aB aB aB) rfl rfl ?_; rintro _ _ _ ⟨rfl, rfl, rfl⟩; refine ⟨okF, ?_⟩)
 repeat (refine aK ?_)
 refine aAZ (M' := M0) (I' := I0) aG aD ?_
 refine aF (by first | exact .inl rfl | exact .inr rfl) rfl rfl _ _ aG aD (⟨rfl, rfl, congrArg Value.bool (bB rfl)⟩)
theorem LRnk {m : WM} (hR : m.rch) (hm : iE m ∈ I0) :
  CD Tryz.prog 4 [yI m] X w0 M0 I0 (fun v M I => M0 = M ∧ I0 = I ∧ v = .bool true) := by
 by_cases h1 : m.shN 7 6
 case neg => exact aTZ hR hm h1
 by_cases hc : m.ok
 case neg => exact aTC hR hm h1 hc
 refine jM (fun w hw => aFC hc h1 ((hw.imm _ hm).2 : IsWM m _ w)) (fun hx => ?_)
 obtain ⟨x, rfl, fx, ⟨_, r7⟩, _, n7⟩ := hx
 rw [jT]
 exact aKK (φ := fJ x 30) (Hv.brX rfl (by decide) h1 hm) (aRR hR fx r7 n7 (List.Mem.head _) (List.Mem.tail _ hm) h1)
end
end Go.Proofs.YtkccjglmnhgabaaGreat

/- The laws DegenerateProofs and DegenerateSound, walked. -/
import Derived.Test.YtkccjglmnhgabaaGreatZjbp
import Derived.Test.YtkccjglmnhgabaaGreatZjam
set_option linter.unusedSimpArgs false
set_option linter.unusedVariables false
set_option maxRecDepth 100000
set_option maxHeartbeats 4000000
namespace Go.Proofs.YtkccjglmnhgabaaGreat
open Go Go.Fx
instance KE.inh : Inhabited KE := ⟨⟨[], [], none, 0, none, 0, default, default⟩⟩
section
variable {X : List Nat} {w0 : World} {M0 M1 : List Ent} {I0 : List aZ}
theorem vS {a : WM} {r : Int} {p : KW} (sa : a.sml) (hc : ¬ a.ok) (ha : iE a ∈ I0) : CD Tryz.prog 24 [yI a, .int .i64 r, vKW p] X w0 M0 I0 (fun v M I => M0 = M ∧ I0 = I ∧ v = .int .i64 1) := by
 have hC := fun M0 I0 h => oV (X := X) (w0 := w0) (M0 := M0) (I0 := I0) (m := a) sa h
 have e1 : a.code = 1 := by unfold WM.code; rw [if_neg hc]
 rw [e1] at hC
 refine lJ Tryz.func24 rfl Tryz.ntmps24 rfl ?_
 refine aI ?_
 refine aH ?_
 (refine aR rfl rfl rfl ?_; intro b5; refine ⟨okF, ?_⟩)
 repeat (refine aK ?_)
 (refine aA rfl (hC _ _ aB) rfl rfl ?_; rintro _ _ _ ⟨rfl, rfl, rfl⟩; refine ⟨okF, ?_⟩)
 repeat (refine aK ?_)
 refine aF (by first | exact .inl rfl | exact .inr rfl) rfl rfl _ _ aG aD (⟨rfl, rfl, rfl⟩)
theorem judges {x : MX} {R n : Nat} {r : Int} {p : KW} {w : World} (hw : Mem X w0 M0 I0 w) (hr64 : -9223372036854775808 ≤ r ∧ r ≤ 9223372036854775807) (fx : x.fit R n) (hR : R ≤ 7) (hn : n ≤ 7) (hl : lightP p) (hx : fJ x 30 ∈ I0) (hp : isKW p ∈ I0) :
  ∃ cd : Int, (cd = 0 → ((rk x.q n : Nat) : Int) = r) ∧ (∀ M1 I1, (∀ φ ∈ I0, φ ∈ I1) → CD Tryz.prog 24 [mv x, .int .i64 r, vKW p] X w0 M1 I1 (fun v M I => M1 = M ∧ I1 = I ∧ v = .int .i64 cd)) ∧ (∀ M1 I1, (∀ φ ∈ I0, φ ∈ I1) → CD Tryz.prog 23 [mv x, .int .i64 r, vKW p] X w0 M1 I1 (fun v M I => M1 = M ∧ I1 = I ∧ v = .int .i64 cd)) := by
 obtain ⟨sd, sk⟩ := aOA hl
 have hkb := kb30 hn
 have hkk := kb240 hn
 obtain ⟨e, he⟩ : ∃ e : KE, jI R n r p = 0 → p = e.raw := by
  by_cases hz : jI R n r p = 0
  ·obtain ⟨e, he⟩ := aYL (aGN hz).2.2.2.2.2.1 (aGN hz).2.2.2.2.2.2 ((hw.imm _ hp).2 : IsKW p _ w)
   exact ⟨e, fun _ => he⟩
  ·exact ⟨default, fun h => absurd h hz⟩
 have hE : ∀ I1 : List aZ, (∀ φ ∈ I0, φ ∈ I1) → jI R n r p = 0 → p = e.raw ∧ Hv I1 (dX e.d 900) ∧ Hv I1 (fJ e.kn 240) := fun I1 hi hz => by
  have h := he hz
  have hl' := hl
  rw [h] at hl'
  have hp' := hi _ hp
  rw [h] at hp'
  exact ⟨h, sq_pk hl' hp'⟩
 refine ⟨if jI R n r p = 0 then (if prV x.q R n e then 0 else 12) else jI R n r p, ?_, fun M1 I1 hi => ?_, fun M1 I1 hi => ?_⟩
 ·intro h
  by_cases hz : jI R n r p = 0
  ·rw [if_pos hz] at h
   by_cases hv : prV x.q R n e
   ·rw [he hz] at hz
    exact aHI (kL fx.1) hz hv
   ·rw [if_neg hv] at h; exact absurd h (by decide)
  ·rw [if_neg hz] at h; exact absurd h hz
 ·exact pI (u := 30) (kd := 900) (kk := 240) fx (by omega) (by omega) (by omega) (by omega) (by have := Nat.mul_le_mul_right (30 + 240 + 1) hn; omega) (hi _ hx) (hi _ hp) sd sk (hE I1 hi)
 ·exact aEH (kd := 900) (kk := 240) hr64 fx hn hR (by omega) (by omega) (by omega) (hi _ hx) (hi _ hp) sd sk (hE I1 hi)
theorem aVF {m : WM} {r : Int} {p : KW} (hR : m.rch) (hRk : p.kn.rch) (hd : p.d.reach) (hm : iE m ∈ I0) (hp : isKW p ∈ I0) (h : ¬ (m.shN 7 6 ∧ lightP p)) :
  CD Tryz.prog 5 [yI m, .int .i64 r, vKW p] X w0 M0 I0 (fun v M I => M0 = M ∧ I0 = I ∧ v = .bool true) := by
 have hKn := fun M0 I0 => iT (X := X) (w0 := w0) (M0 := M0) (I0 := I0)
 have hF := fun M0 I0 h => kV (X := X) (w0 := w0) (M0 := M0) (I0 := I0) (m := m) hR h
 have hL := fun M0 I0 h => rY (X := X) (w0 := w0) (M0 := M0) (I0 := I0) (p := p) hRk hd h
 refine lJ Tryz.func5 rfl Tryz.ntmps5 rfl ?_
 refine aI ?_
 refine aH ?_
 (refine aR rfl rfl rfl ?_; intro b5; refine ⟨okF, ?_⟩)
 refine bA .here ?_
 repeat (refine aK ?_)
 (refine aA rfl (hKn _ _) rfl rfl ?_; rintro _ _ _ ⟨rfl, rfl, rfl⟩; refine ⟨okF, ?_⟩)
 repeat (refine aK ?_)
 by_cases h1 : m.shN 7 6
 ·rw [bB h1] at hF
  rw [aX (fun h2 => h ⟨h1, h2⟩)] at hL
  (refine aA rfl (hF _ _ aB) rfl rfl ?_; rintro _ _ _ ⟨rfl, rfl, rfl⟩; refine ⟨okF, ?_⟩)
  repeat (refine aK ?_)
  (refine aA rfl (hL _ _ aB) rfl rfl ?_; rintro _ _ _ ⟨rfl, rfl, rfl⟩; refine ⟨okF, ?_⟩)
  repeat (refine aK ?_)
  refine aF (by first | exact .inl rfl | exact .inr rfl) rfl rfl _ _ aG aD (⟨rfl, rfl, rfl⟩)
 ·rw [aX h1] at hF
  (refine aA rfl (hF _ _ aB) rfl rfl ?_; rintro _ _ _ ⟨rfl, rfl, rfl⟩; refine ⟨okF, ?_⟩)
  repeat (refine aK ?_)
  refine aF (by first | exact .inl rfl | exact .inr rfl) rfl rfl _ _ aG aD (⟨rfl, rfl, rfl⟩)
theorem aRV {m : WM} {r : Int} {p : KW} (hR : m.rch) (hRk : p.kn.rch) (hd : p.d.reach) (hm : iE m ∈ I0) (hp : isKW p ∈ I0) (h1 : m.shN 7 6) (h2 : lightP p) (hc : ¬ m.ok) :
  CD Tryz.prog 5 [yI m, .int .i64 r, vKW p] X w0 M0 I0 (fun v M I => M0 = M ∧ I0 = I ∧ v = .bool true) := by
 have sm := WM.shN.smlN ⟨by omega, by omega⟩ h1
 have hKn := fun M0 I0 => iT (X := X) (w0 := w0) (M0 := M0) (I0 := I0)
 have hF := fun M0 I0 h => kV (X := X) (w0 := w0) (M0 := M0) (I0 := I0) (m := m) hR h
 have hL := fun M0 I0 h => rY (X := X) (w0 := w0) (M0 := M0) (I0 := I0) (p := p) hRk hd h
 have hCk := fun M0 I0 h => vS (X := X) (w0 := w0) (M0 := M0) (I0 := I0) (a := m) (r := r) (p := p) sm hc h
 have hrC := fun M0 I0 h => oD (X := X) (w0 := w0) (M0 := M0) (I0 := I0) (m := m) sm h
 have e1 : m.code = 1 := by unfold WM.code; rw [if_neg hc]
 rw [e1] at hrC
 rw [bB h1] at hF
 rw [bB h2] at hL
 refine lJ Tryz.func5 rfl Tryz.ntmps5 rfl ?_
 refine aI ?_
 refine aH ?_
 (refine aR rfl rfl rfl ?_; intro b5; refine ⟨okF, ?_⟩)
 refine bA .here ?_
 repeat (refine aK ?_)
 (refine aA rfl (hKn _ _) rfl rfl ?_; rintro _ _ _ ⟨rfl, rfl, rfl⟩; refine ⟨okF, ?_⟩)
 repeat (refine aK ?_)
 (refine aA rfl (hF _ _ aB) rfl rfl ?_; rintro _ _ _ ⟨rfl, rfl, rfl⟩; refine ⟨okF, ?_⟩)
 repeat (refine aK ?_)
 (refine aA rfl (hL _ _ aB) rfl rfl ?_; rintro _ _ _ ⟨rfl, rfl, rfl⟩; refine ⟨okF, ?_⟩)
 repeat (refine aK ?_)
 (refine aA rfl (hCk _ _ aB) rfl rfl ?_; rintro _ _ _ ⟨rfl, rfl, rfl⟩; refine ⟨okF, ?_⟩)
 repeat (refine aK ?_)
 (refine aA rfl (hrC _ _ aB) rfl rfl ?_; rintro _ _ _ ⟨rfl, rfl, rfl⟩; refine ⟨okF, ?_⟩)
 repeat (refine aK ?_)
 refine aF (by first | exact .inl rfl | exact .inr rfl) rfl rfl _ _ aG aD (⟨rfl, rfl, congrArg Value.bool (bB rfl)⟩)
theorem aQI {x : MX} {R n : Nat} {r cd : Int} {p : KW} (hR : x.raw.rch) (hRk : p.kn.rch) (hd : p.d.reach) (fx : x.fit R n) (hm : iE x.raw ∈ I0) (hp : isKW p ∈ I0) (h1 : x.raw.shN 7 6) (h2 : lightP p)
  (hC : ∀ M1 I1, (∀ φ ∈ I0, φ ∈ I1) → CD Tryz.prog 24 [mv x, .int .i64 r, vKW p] X w0 M1 I1 (fun v M I => M1 = M ∧ I1 = I ∧ v = .int .i64 cd)) (hP : ∀ M1 I1, (∀ φ ∈ I0, φ ∈ I1) → CD Tryz.prog 23 [mv x, .int .i64 r, vKW p] X w0 M1 I1 (fun v M I => M1 = M ∧ I1 = I ∧ v = .int .i64 cd)) :
  CD Tryz.prog 5 [mv x, .int .i64 r, vKW p] X w0 M0 I0 (fun v M I => M0 = M ∧ I0 = I ∧ v = .bool true) := by
 have sm := WM.shN.smlN ⟨by omega, by omega⟩ h1
 have hKn := fun M0 I0 => iT (X := X) (w0 := w0) (M0 := M0) (I0 := I0)
 have hF := fun M0 I0 h => kV (X := X) (w0 := w0) (M0 := M0) (I0 := I0) (m := x.raw) hR h
 have hL := fun M0 I0 h => rY (X := X) (w0 := w0) (M0 := M0) (I0 := I0) (p := p) hRk hd h
 have hrC := fun M0 I0 h => oD (X := X) (w0 := w0) (M0 := M0) (I0 := I0) (m := x.raw) sm h
 have e1 : x.raw.code = 0 := by unfold WM.code; rw [if_pos fx.ok]
 rw [e1, jT] at hrC
 rw [bB h1, jT] at hF
 rw [bB h2] at hL
 refine lJ Tryz.func5 rfl Tryz.ntmps5 rfl ?_
 refine aI ?_
 refine aH ?_
 (refine aR rfl rfl rfl ?_; intro b5; refine ⟨okF, ?_⟩)
 refine bA .here ?_
 repeat (refine aK ?_)
 (refine aA rfl (hKn _ _) rfl rfl ?_; rintro _ _ _ ⟨rfl, rfl, rfl⟩; refine ⟨okF, ?_⟩)
 repeat (refine aK ?_)
 (refine aA rfl (hF _ _ aB) rfl rfl ?_; rintro _ _ _ ⟨rfl, rfl, rfl⟩; refine ⟨okF, ?_⟩)
 repeat (refine aK ?_)
 (refine aA rfl (hL _ _ aB) rfl rfl ?_; rintro _ _ _ ⟨rfl, rfl, rfl⟩; refine ⟨okF, ?_⟩)
 repeat (refine aK ?_)
 (refine aA rfl (hC _ (aQ (some ⟨b5, 0, none⟩) (eKW p) :: I0) (fun φ h => List.Mem.tail _ h)) rfl rfl ?_; rintro _ _ _ ⟨rfl, rfl, rfl⟩; refine ⟨okF, ?_⟩)
 repeat (refine aK ?_)
 (refine aA rfl (hrC _ _ aB) rfl rfl ?_; rintro _ _ _ ⟨rfl, rfl, rfl⟩; refine ⟨okF, ?_⟩)
 repeat (refine aK ?_)
 (refine aA rfl (hP _ (aQ (some ⟨b5, 0, none⟩) (eKW p) :: I0) (fun φ h => List.Mem.tail _ h)) rfl rfl ?_; rintro _ _ _ ⟨rfl, rfl, rfl⟩; refine ⟨okF, ?_⟩)
 repeat (refine aK ?_)
 refine aF (by first | exact .inl rfl | exact .inr rfl) rfl rfl _ _ aG aD (⟨rfl, rfl, congrArg Value.bool (bB rfl)⟩)
theorem LPrf {m : WM} {r : Int} {p : KW} (hr64 : -9223372036854775808 ≤ r ∧ r ≤ 9223372036854775807) (hR : m.rch) (hRk : p.kn.rch) (hd : p.d.reach) (hm : iE m ∈ I0) (hp : isKW p ∈ I0) :
  CD Tryz.prog 5 [yI m, .int .i64 r, vKW p] X w0 M0 I0 (fun v M I => M0 = M ∧ I0 = I ∧ v = .bool true) := by
 by_cases h : m.shN 7 6 ∧ lightP p
 case neg => exact aVF hR hRk hd hm hp h
 obtain ⟨h1, h2⟩ := h
 by_cases hc : m.ok
 case neg => exact aRV hR hRk hd hm hp h1 h2 hc
 refine jM (fun w hw => aFC hc h1 ((hw.imm _ hm).2 : IsWM m _ w)) (fun hx => ?_)
 obtain ⟨x, rfl, fx, ⟨_, r7⟩, _, n7⟩ := hx
 refine ⟨fun w hw => ?_⟩
 rw [jT]
 have hv := Hv.brX (I := I0) (Y := x) rfl (by decide) h1 hm
 have hw' : Mem X w0 M0 (fJ x 30 :: I0) w := hw.add (φ := fJ x 30) (hv.go _ _ (fun φ hφ => (hw.imm φ hφ).2))
 obtain ⟨cd, _, hC, hP⟩ := judges hw' hr64 fx r7 n7 h2 (List.Mem.head _) (List.Mem.tail _ hp)
 exact ((aQI (I0 := fJ x 30 :: I0) hR hRk hd fx (List.Mem.tail _ hm) (List.Mem.tail _ hp) h1 h2 hC hP).go w hw').mono (fun v w' ⟨M', I', ⟨e1, e2, e3⟩, hm'⟩ => ⟨M0, I0, ⟨rfl, rfl, e3⟩, by rw [e1]; exact hm'.inc (by rw [← e2]; exact .of (fun φ hφ => List.Mem.tail _ hφ))⟩)
theorem aUN {m : WM} {r : Int} {p : KW} (hR : m.rch) (hRk : p.kn.rch) (hd : p.d.reach) (hm : iE m ∈ I0) (hp : isKW p ∈ I0) (h : ¬ (m.shN 7 6 ∧ lightP p)) :
  CD Tryz.prog 6 [yI m, .int .i64 r, vKW p] X w0 M0 I0 (fun v M I => M0 = M ∧ I0 = I ∧ v = .bool true) := by
 have hKn := fun M0 I0 => iT (X := X) (w0 := w0) (M0 := M0) (I0 := I0)
 have hF := fun M0 I0 h => kV (X := X) (w0 := w0) (M0 := M0) (I0 := I0) (m := m) hR h
 have hL := fun M0 I0 h => rY (X := X) (w0 := w0) (M0 := M0) (I0 := I0) (p := p) hRk hd h
 refine lJ Tryz.func6 rfl Tryz.ntmps6 rfl ?_
 refine aI ?_
 refine aH ?_
 (refine aR rfl rfl rfl ?_; intro b5; refine ⟨okF, ?_⟩)
 refine bA .here ?_
 repeat (refine aK ?_)
 (refine aA rfl (hKn _ _) rfl rfl ?_; rintro _ _ _ ⟨rfl, rfl, rfl⟩; refine ⟨okF, ?_⟩)
 repeat (refine aK ?_)
 by_cases h1 : m.shN 7 6
 ·rw [bB h1] at hF
  rw [aX (fun h2 => h ⟨h1, h2⟩)] at hL
  (refine aA rfl (hF _ _ aB) rfl rfl ?_; rintro _ _ _ ⟨rfl, rfl, rfl⟩; refine ⟨okF, ?_⟩)
  repeat (refine aK ?_)
  (refine aA rfl (hL _ _ aB) rfl rfl ?_; rintro _ _ _ ⟨rfl, rfl, rfl⟩; refine ⟨okF, ?_⟩)
  repeat (refine aK ?_)
  refine aF (by first | exact .inl rfl | exact .inr rfl) rfl rfl _ _ aG aD (⟨rfl, rfl, rfl⟩)
 ·rw [aX h1] at hF
  (refine aA rfl (hF _ _ aB) rfl rfl ?_; rintro _ _ _ ⟨rfl, rfl, rfl⟩; refine ⟨okF, ?_⟩)
  repeat (refine aK ?_)
  refine aF (by first | exact .inl rfl | exact .inr rfl) rfl rfl _ _ aG aD (⟨rfl, rfl, rfl⟩)
theorem aDP {m : WM} {r cd : Int} {p : KW} (hR : m.rch) (hRk : p.kn.rch) (hd : p.d.reach) (hm : iE m ∈ I0) (hp : isKW p ∈ I0) (h1 : m.shN 7 6) (h2 : lightP p) (hcd : cd ≠ 0)
  (hC : ∀ M1 I1, (∀ φ ∈ I0, φ ∈ I1) → CD Tryz.prog 24 [yI m, .int .i64 r, vKW p] X w0 M1 I1 (fun v M I => M1 = M ∧ I1 = I ∧ v = .int .i64 cd)) :
  CD Tryz.prog 6 [yI m, .int .i64 r, vKW p] X w0 M0 I0 (fun v M I => M0 = M ∧ I0 = I ∧ v = .bool true) := by
 have hKn := fun M0 I0 => iT (X := X) (w0 := w0) (M0 := M0) (I0 := I0)
 have hF := fun M0 I0 h => kV (X := X) (w0 := w0) (M0 := M0) (I0 := I0) (m := m) hR h
 have hL := fun M0 I0 h => rY (X := X) (w0 := w0) (M0 := M0) (I0 := I0) (p := p) hRk hd h
 rw [bB h1] at hF
 rw [bB h2] at hL
 refine lJ Tryz.func6 rfl Tryz.ntmps6 rfl ?_
 refine aI ?_
 refine aH ?_
 (refine aR rfl rfl rfl ?_; intro b5; refine ⟨okF, ?_⟩)
 refine bA .here ?_
 repeat (refine aK ?_)
 (refine aA rfl (hKn _ _) rfl rfl ?_; rintro _ _ _ ⟨rfl, rfl, rfl⟩; refine ⟨okF, ?_⟩)
 repeat (refine aK ?_)
 (refine aA rfl (hF _ _ aB) rfl rfl ?_; rintro _ _ _ ⟨rfl, rfl, rfl⟩; refine ⟨okF, ?_⟩)
 repeat (refine aK ?_)
 (refine aA rfl (hL _ _ aB) rfl rfl ?_; rintro _ _ _ ⟨rfl, rfl, rfl⟩; refine ⟨okF, ?_⟩)
 repeat (refine aK ?_)
 (refine aA rfl (hC _ (aQ (some ⟨b5, 0, none⟩) (eKW p) :: I0) (fun φ h => List.Mem.tail _ h)) rfl rfl ?_; rintro _ _ _ ⟨rfl, rfl, rfl⟩; refine ⟨okF, ?_⟩)
 repeat (refine aK ?_)
 refine aF (by first | exact .inl rfl | exact .inr rfl) rfl rfl _ _ aG aD (⟨rfl, rfl, rfl⟩)
theorem aRQ {x : MX} {R n : Nat} {r : Int} {p : KW} (hR : x.raw.rch) (hRk : p.kn.rch) (hd : p.d.reach) (fx : x.fit R n) (n7 : n ≤ 7) (hx : fJ x 30 ∈ I0) (hm : iE x.raw ∈ I0) (hp : isKW p ∈ I0) (h1 : x.raw.shN 7 6) (h2 : lightP p) (hrk : ((rk x.q n : Nat) : Int) = r)
  (hC : ∀ M1 I1, (∀ φ ∈ I0, φ ∈ I1) → CD Tryz.prog 24 [mv x, .int .i64 r, vKW p] X w0 M1 I1 (fun v M I => M1 = M ∧ I1 = I ∧ v = .int .i64 0)) :
  CD Tryz.prog 6 [mv x, .int .i64 r, vKW p] X w0 M0 I0 (fun v M I => M0 = M ∧ I0 = I ∧ v = .bool true) := by
 have sm := WM.shN.smlN ⟨by omega, by omega⟩ h1
 have hkb := kb30 n7
 obtain ⟨r1, r2⟩ := fx.2.1
 obtain ⟨c1, c2⟩ := fx.2.2
 have hKn := fun M0 I0 => iT (X := X) (w0 := w0) (M0 := M0) (I0 := I0)
 have hF := fun M0 I0 h => kV (X := X) (w0 := w0) (M0 := M0) (I0 := I0) (m := x.raw) hR h
 have hL := fun M0 I0 h => rY (X := X) (w0 := w0) (M0 := M0) (I0 := I0) (p := p) hRk hd h
 have hrC := fun M0 I0 h => oD (X := X) (w0 := w0) (M0 := M0) (I0 := I0) (m := x.raw) sm h
 have hRk' := fun M0 I0 h => xZ (X := X) (w0 := w0) (M0 := M0) (I0 := I0) (a := x) (R := R) (C := n) (k0 := 30) (by omega) (by omega) (by omega) fx.1 h
 have e1 : x.raw.code = 0 := by unfold WM.code; rw [if_pos fx.ok]
 rw [e1, jT] at hrC
 rw [bB h1, jT] at hF
 rw [bB h2] at hL
 refine lJ Tryz.func6 rfl Tryz.ntmps6 rfl ?_
 refine aI ?_
 refine aH ?_
 (refine aR rfl rfl rfl ?_; intro b5; refine ⟨okF, ?_⟩)
 refine bA .here ?_
 repeat (refine aK ?_)
 (refine aA rfl (hKn _ _) rfl rfl ?_; rintro _ _ _ ⟨rfl, rfl, rfl⟩; refine ⟨okF, ?_⟩)
 repeat (refine aK ?_)
 (refine aA rfl (hF _ _ aB) rfl rfl ?_; rintro _ _ _ ⟨rfl, rfl, rfl⟩; refine ⟨okF, ?_⟩)
 repeat (refine aK ?_)
 (refine aA rfl (hL _ _ aB) rfl rfl ?_; rintro _ _ _ ⟨rfl, rfl, rfl⟩; refine ⟨okF, ?_⟩)
 repeat (refine aK ?_)
 (refine aA rfl (hC _ (aQ (some ⟨b5, 0, none⟩) (eKW p) :: I0) (fun φ h => List.Mem.tail _ h)) rfl rfl ?_; rintro _ _ _ ⟨rfl, rfl, rfl⟩; refine ⟨okF, ?_⟩)
 repeat (refine aK ?_)
 (refine aA rfl (hrC _ _ aB) rfl rfl ?_; rintro _ _ _ ⟨rfl, rfl, rfl⟩; refine ⟨okF, ?_⟩)
 repeat (refine aK ?_)
 (refine aA rfl (hRk' _ _ aB) rfl rfl ?_; rintro _ _ _ ⟨rfl, rfl, rfl⟩; refine ⟨okF, ?_⟩)
 repeat (refine aK ?_)
 refine aF (by first | exact .inl rfl | exact .inr rfl) rfl rfl _ _ aG aD (⟨rfl, rfl, congrArg Value.bool (bB hrk)⟩)
theorem LSnd {m : WM} {r : Int} {p : KW} (hr64 : -9223372036854775808 ≤ r ∧ r ≤ 9223372036854775807) (hR : m.rch) (hRk : p.kn.rch) (hd : p.d.reach) (hm : iE m ∈ I0) (hp : isKW p ∈ I0) :
  CD Tryz.prog 6 [yI m, .int .i64 r, vKW p] X w0 M0 I0 (fun v M I => M0 = M ∧ I0 = I ∧ v = .bool true) := by
 by_cases h : m.shN 7 6 ∧ lightP p
 case neg => exact aUN hR hRk hd hm hp h
 obtain ⟨h1, h2⟩ := h
 by_cases hc : m.ok
 case neg => exact aDP hR hRk hd hm hp h1 h2 (cd := 1) (by decide) (fun M1 I1 hi => vS (WM.shN.smlN ⟨by omega, by omega⟩ h1) hc (hi _ hm))
 refine jM (fun w hw => aFC hc h1 ((hw.imm _ hm).2 : IsWM m _ w)) (fun hx => ?_)
 obtain ⟨x, rfl, fx, ⟨_, r7⟩, _, n7⟩ := hx
 refine ⟨fun w hw => ?_⟩
 have hv := Hv.brX (I := I0) (Y := x) rfl (by decide) h1 hm
 have hw' : Mem X w0 M0 (fJ x 30 :: I0) w := hw.add (φ := fJ x 30) (hv.go _ _ (fun φ hφ => (hw.imm φ hφ).2))
 obtain ⟨cd, h0, hC, _⟩ := judges hw' hr64 fx r7 n7 h2 (List.Mem.head _) (List.Mem.tail _ hp)
 have hgo : CD Tryz.prog 6 [yI x.raw, .int .i64 r, vKW p] X w0 M0 (fJ x 30 :: I0) (fun v M I => M0 = M ∧ fJ x 30 :: I0 = I ∧ v = .bool true) := by
  by_cases hz : cd = 0
  ·subst hz
   rw [jT]
   exact aRQ hR hRk hd fx n7 (List.Mem.head _) (List.Mem.tail _ hm) (List.Mem.tail _ hp) h1 h2 (h0 rfl) hC
  ·exact aDP hR hRk hd (List.Mem.tail _ hm) (List.Mem.tail _ hp) h1 h2 hz (fun M1 I1 hi => by rw [jT]; exact hC M1 I1 hi)
 exact (hgo.go w hw').mono (fun v w' ⟨M', I', ⟨e1, e2, e3⟩, hm'⟩ => ⟨M0, I0, ⟨rfl, rfl, e3⟩, by rw [e1]; exact hm'.inc (by rw [← e2]; exact .of (fun φ hφ => List.Mem.tail _ hφ))⟩)
end
end Go.Proofs.YtkccjglmnhgabaaGreat

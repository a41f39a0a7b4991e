/- Cofactors and products of matrices (package homography). -/
import Derived.Test.YtjbhdfpjnjedhaaGreatZqaz
import Derived.Test.YtjbhdfpjnjedhaaGreatZqau
set_option linter.unusedSimpArgs false
set_option linter.unusedVariables false
set_option maxRecDepth 100000
set_option maxHeartbeats 4000000
namespace Go.Fx
section
variable {P : Program} {n : Nat} {Q : Exit → Act → World → Prop} {G : Env} {X : List Nat} {w0 : World} {M M1 : List Ent} {I I1 : List aT} {l : List Oper}
theorem aQ {e : Exit} {G' : Env} {M' : List Ent} {I' : List aT} (s : Sub G G') (hM : SubP M M') (hI : Inc I I') (h : ND n Q e G' X w0 M' I') : ND n Q e G X w0 M I := ⟨fun w hw => ⟨fun a ha => (h.go w (hw.weak hM hI)).go a (ha.sub s)⟩⟩
theorem aGK {id : Nat} (M1 : List Ent) (I1 : List aT) (hx : P.follows .mixedOrders = true) (h : ∀ R : Nat → Nat → Array Bool → Exit → Act → World → Prop, (∀ f k ls, R f k ls = Go.Fx.Rest P l Q (tX X w0 M1 I1) f k ls) → ND n (R l.length 0 (Array.replicate l.length false)) .normal G X w0 M I) : TD P n (.region id l.toArray true) Q G X w0 M I :=
 uT M1 I1 hx (h (fun f k ls => Go.Fx.Rest P l Q (tX X w0 M1 I1) f k ls) (fun _ _ _ => rfl))
theorem sZ {fuel k i j m o : Nat} {listed : Array Bool} (hr : (Region.ready .any l.toArray listed == [i, j, m, o] && rZ l.toArray i && rZ l.toArray j && rZ l.toArray m && rZ l.toArray o) = true)
  (h1 : RD P n l (Go.Fx.Rest P l Q (tX X w0 M1 I1) fuel (k + 1) (listed.setIfInBounds i true)) (.any (tX X w0 M1 I1) k []) (pick l [i]) G X w0 M I)
  (h2 : RD P n l (Go.Fx.Rest P l Q (tX X w0 M1 I1) fuel (k + 1) (listed.setIfInBounds j true)) (.any (tX X w0 M1 I1) k []) (pick l [j]) G X w0 M I)
  (h3 : RD P n l (Go.Fx.Rest P l Q (tX X w0 M1 I1) fuel (k + 1) (listed.setIfInBounds m true)) (.any (tX X w0 M1 I1) k []) (pick l [m]) G X w0 M I)
  (h4 : RD P n l (Go.Fx.Rest P l Q (tX X w0 M1 I1) fuel (k + 1) (listed.setIfInBounds o true)) (.any (tX X w0 M1 I1) k []) (pick l [o]) G X w0 M I) : ND n (Go.Fx.Rest P l Q (tX X w0 M1 I1) (fuel + 1) k listed) .normal G X w0 M I := ⟨fun w hw => ⟨fun a ha => by
 simp only [Bool.and_eq_true, beq_iff_eq] at hr
 obtain ⟨⟨⟨⟨hr, e1⟩, e2⟩, e3⟩, e4⟩ := hr
 have get : ∀ x, rZ l.toArray x = true → ∃ o, l.toArray[x]? = some o ∧ iN o.op = false := fun x hx => by
  unfold rZ at hx
  cases ho : l.toArray[x]? with
  | none => simp [ho] at hx
  | some o => simp [ho] at hx; exact ⟨o, rfl, hx⟩
 obtain ⟨o1, ho1, hk1⟩ := get i e1
 obtain ⟨o2, ho2, hk2⟩ := get j e2
 obtain ⟨o3, ho3, hk3⟩ := get m e3
 obtain ⟨o4, ho4, hk4⟩ := get o e4
 refine ⟨fun h0 => (by rw [hr] at h0; cases h0), fun x hx => ?_⟩
 rw [hr] at hx
 simp only [List.mem_cons, List.not_mem_nil, or_false] at hx
 rcases hx with rfl | rfl | rfl | rfl
 ·exact nN ho1 hk1 ((h1.go w hw).go a ha)
 ·exact nN ho2 hk2 ((h2.go w hw).go a ha)
 ·exact nN ho3 hk3 ((h3.go w hw).go a ha)
 ·exact nN ho4 hk4 ((h4.go w hw).go a ha)⟩⟩
end
end Go.Fx
namespace Go.Proofs.YtjbhdfpjnjedhaaGreat
open Go Go.Fx
abbrev qB : List Value := recs wN [none, none, none]
abbrev z18 : List Value := recs wN [none, none, none, none, none, none, none, none, none]
def wT : Option TZ → List Value
 | none => recs wN [none, none, none]
 | some p => lW p
instance wT.szd : Sized wT 6 := ⟨fun o => by cases o <;> rfl⟩
instance wT.ones : Ones wT := ⟨fun m u hu => by
 rcases m with _ | e
 ·exact uJ (enc := wN) [none, none, none] u hu
 ·exact TZ.ones.one e u hu⟩
structure AllT (os : List (Option TZ)) (k : Nat) (X : List Nat) (w : World) : Prop where
 go : ∀ e : TZ, some e ∈ os → IsTZ e k X w
abbrev allT (os : List (Option TZ)) (k : Nat) : aT := AllT os k
instance (os : List (Option TZ)) (k : Nat) : Fx.Good (AllT os k) := ⟨fun X Y w w' h he hY => ⟨fun e hm => Fx.Good.go (φ := IsTZ _ _) X Y w w' (h.go e hm) he hY⟩⟩
theorem Hv.tNil {I : List aT} {n k : Nat} : Hv I (allT (List.replicate n none) k) := ⟨fun X w _ => ⟨fun e he => by cases (List.mem_replicate.1 he).2⟩⟩
theorem Hv.tSet {I : List aT} {os : List (Option TZ)} {g : TZ} {k : Nat} {i : Int} (h : allT os k ∈ I) (hg : aX g k ∈ I) : Hv I (allT (st os i (some g)) k) := ⟨fun X w hw => ⟨fun e he => by
 rcases List.mem_or_eq_of_mem_set he with h1 | h1
 ·exact (hw _ h : AllT os k X w).go e h1
 ·cases h1
  exact hw _ hg⟩⟩
theorem Hv.tAt {I : List aT} {os : List (Option TZ)} {g : TZ} {k : Nat} {i : Int} (h : allT os k ∈ I) (hi : 0 ≤ i ∧ i < os.length) (he : gt os i = some g) : Hv I (aX g k) := ⟨fun X w hw => (hw _ h : AllT os k X w).go g (by rw [← he]; exact eP hi)⟩
section
variable {X : List Nat} {w0 : World} {M0 : List Ent} {I0 : List aT}
theorem aPR {h : HZ} {u i : Nat} (hi : i < 3) (hh : dY h u ∈ I0) : CD Tryz.prog 189 [gZ h, .int .i64 (i : Int)] X w0 M0 I0 (fun v M I => M0 = M ∧ v = dK (gt [h.tr.x, h.tr.y, h.tr.z] (i : Int)) ∧ I = aX (gt [h.tr.x, h.tr.y, h.tr.z] (i : Int)) u :: I0) := by
 obtain rfl | rfl | rfl : i = 0 ∨ i = 1 ∨ i = 2 := by omega
 ·exact aHG hh
 ·exact aHU hh
 ·exact aFX hh
theorem aUK {h : HZ} {u : Nat} (hu : u ≤ 100000) (hh : dY h u ∈ I0) : CD Tryz.prog 141 [gZ h] X w0 M0 I0 (HQ h.m.cof (u + u + 1) M0 I0) := by
 have h0 := fun M0 I0 h1 => aGY (X := X) (w0 := w0) (M0 := M0) (I0 := I0) (h := h) (u := u) h1
 have h1 := fun M0 I0 h1 => aGS (X := X) (w0 := w0) (M0 := M0) (I0 := I0) (h := h) (u := u) h1
 have h2 := fun M0 I0 h1 => aHN (X := X) (w0 := w0) (M0 := M0) (I0 := I0) (h := h) (u := u) h1
 have hC := fun (p q : TZ) M0 I0 h1 h2 => aDH (X := X) (w0 := w0) (M0 := M0) (I0 := I0) (p := p) (q := q) (u := u) hu h1 h2
 have hR := fun (p q r : TZ) M0 I0 h1 h2 h3 => wU (X := X) (w0 := w0) (M0 := M0) (I0 := I0) (p := p) (q := q) (r := r) (u := u + u + 1) h1 h2 h3
 refine bK (φ := dY h u) (Hv.mem hh) ?_
 refine bN Tryz.func141 rfl Tryz.ntmps141 rfl ?_
 refine aH ?_
 refine aI ?_
 (refine aV rfl rfl rfl ?_; intro b1; refine ⟨okF, ?_⟩)
 refine aO (cs := lV h) .here ?_
 (refine aF rfl rfl ?_; intro b2; refine ⟨okF, ?_⟩)
 repeat (refine aJ ?_)
 refine pW (fun G M I => ∃ b3 b4 b5 : Nat, G = [(2, .pointer (some ⟨b2, 0, none⟩)), (3, .pointer (some ⟨b3, 0, none⟩)), (4, .pointer (some ⟨b4, 0, none⟩)), (5, .pointer (some ⟨b5, 0, none⟩))] ∧ M = .blk b5 (lW h.z) 166 :: .blk b4 (lW h.y) 166 :: .blk b3 (lW h.x) 166 :: .blk b2 z18 128 :: M0 ∧ I = aX h.z u :: aX h.y u :: aX h.x u :: I0) ?_ ?_
 ·(repeat refine aH ?_)
  refine aGK (M0) (aR (some ⟨b1, 0, none⟩) (lV h) :: dY h u :: I0) mixed (fun R hR => ?_)
  have n3345 : ∀ b3 b4 b5 : Nat, ND 22 (R 3 6 #[true, true, true, true, true, true, true, true, true, false, false, false]) .normal [(11, dK h.z), (9, dK h.y), (7, dK h.x), (3, .pointer (some ⟨b3, 0, none⟩)), (4, .pointer (some ⟨b4, 0, none⟩)), (5, .pointer (some ⟨b5, 0, none⟩)), (10, gZ h), (8, gZ h), (6, gZ h), (2, .pointer (some ⟨b2, 0, none⟩))] X w0 (.blk b3 qB 166 :: .blk b4 qB 166 :: .blk b5 qB 166 :: .blk b2 z18 128 :: M0) (aX h.z u :: aX h.y u :: aX h.x u :: aR (some ⟨b1, 0, none⟩) (lV h) :: dY h u :: I0) := by
   intro b3 b4 b5
   rw [hR]
   refine dM [9, 10, 11] [0, 0, 0] aG aD (by kernel_rfl) (by kernel_rfl) rfl rfl ?_
   repeat (refine aJ ?_)
   refine dS _ _ _ aL aG aD ⟨b3, b4, b5, rfl, rfl, rfl⟩
  have n2345 : ∀ b3 b4 b5 : Nat, ND 22 (R 4 5 #[true, true, true, true, true, false, true, true, true, false, false, false]) .normal [(9, dK h.y), (7, dK h.x), (3, .pointer (some ⟨b3, 0, none⟩)), (4, .pointer (some ⟨b4, 0, none⟩)), (5, .pointer (some ⟨b5, 0, none⟩)), (10, gZ h), (8, gZ h), (6, gZ h), (2, .pointer (some ⟨b2, 0, none⟩))] X w0 (.blk b3 qB 166 :: .blk b4 qB 166 :: .blk b5 qB 166 :: .blk b2 z18 128 :: M0) (aX h.y u :: aX h.x u :: aR (some ⟨b1, 0, none⟩) (lV h) :: dY h u :: I0) := by
   intro b3 b4 b5
   rw [hR]
   refine eX (fuel := 3) (listed' := #[true, true, true, true, true, true, true, true, true, false, false, false]) [5] [0] aG aD (by kernel_rfl) (by kernel_rfl) rfl rfl ?_
   (refine aA rfl (h2 _ _ aB) rfl rfl ?_; rintro _ _ _ ⟨rfl, rfl, rfl⟩; refine ⟨okF, ?_⟩)
   refine aN ?_
   rw [← hR]
   exact aQ aL aG aD (n3345 b3 b4 b5)
  have n334 : ∀ b3 b4 : Nat, ND 22 (R 4 5 #[true, true, true, true, true, true, true, true, false, false, false, false]) .normal [(11, dK h.z), (9, dK h.y), (7, dK h.x), (3, .pointer (some ⟨b3, 0, none⟩)), (4, .pointer (some ⟨b4, 0, none⟩)), (10, gZ h), (8, gZ h), (6, gZ h), (2, .pointer (some ⟨b2, 0, none⟩))] X w0 (.blk b3 qB 166 :: .blk b4 qB 166 :: .blk b2 z18 128 :: M0) (aX h.z u :: aX h.y u :: aX h.x u :: aR (some ⟨b1, 0, none⟩) (lV h) :: dY h u :: I0) := by
   intro b3 b4
   rw [hR]
   refine eX (fuel := 3) (listed' := #[true, true, true, true, true, true, true, true, true, false, false, false]) [8] [0] aG aD (by kernel_rfl) (by kernel_rfl) rfl rfl ?_
   (refine aF (d := 5) rfl rfl ?_; intro b5; refine ⟨okF, ?_⟩)
   refine aN ?_
   rw [← hR]
   exact aQ aL aG aD (n3345 b3 b4 b5)
  have n335 : ∀ b3 b5 : Nat, ND 22 (R 4 5 #[true, true, true, true, true, true, true, false, true, false, false, false]) .normal [(11, dK h.z), (9, dK h.y), (7, dK h.x), (3, .pointer (some ⟨b3, 0, none⟩)), (5, .pointer (some ⟨b5, 0, none⟩)), (10, gZ h), (8, gZ h), (6, gZ h), (2, .pointer (some ⟨b2, 0, none⟩))] X w0 (.blk b3 qB 166 :: .blk b5 qB 166 :: .blk b2 z18 128 :: M0) (aX h.z u :: aX h.y u :: aX h.x u :: aR (some ⟨b1, 0, none⟩) (lV h) :: dY h u :: I0) := by
   intro b3 b5
   rw [hR]
   refine eX (fuel := 3) (listed' := #[true, true, true, true, true, true, true, true, true, false, false, false]) [7] [0] aG aD (by kernel_rfl) (by kernel_rfl) rfl rfl ?_
   (refine aF (d := 4) rfl rfl ?_; intro b4; refine ⟨okF, ?_⟩)
   refine aN ?_
   rw [← hR]
   exact aQ aL aG aD (n3345 b3 b4 b5)
  have n345 : ∀ b4 b5 : Nat, ND 22 (R 4 5 #[true, true, true, true, true, true, false, true, true, false, false, false]) .normal [(11, dK h.z), (9, dK h.y), (7, dK h.x), (4, .pointer (some ⟨b4, 0, none⟩)), (5, .pointer (some ⟨b5, 0, none⟩)), (10, gZ h), (8, gZ h), (6, gZ h), (2, .pointer (some ⟨b2, 0, none⟩))] X w0 (.blk b4 qB 166 :: .blk b5 qB 166 :: .blk b2 z18 128 :: M0) (aX h.z u :: aX h.y u :: aX h.x u :: aR (some ⟨b1, 0, none⟩) (lV h) :: dY h u :: I0) := by
   intro b4 b5
   rw [hR]
   refine eX (fuel := 3) (listed' := #[true, true, true, true, true, true, true, true, true, false, false, false]) [6] [0] aG aD (by kernel_rfl) (by kernel_rfl) rfl rfl ?_
   (refine aF (d := 3) rfl rfl ?_; intro b3; refine ⟨okF, ?_⟩)
   refine aN ?_
   rw [← hR]
   exact aQ aL aG aD (n3345 b3 b4 b5)
  have n1345 : ∀ b3 b4 b5 : Nat, ND 22 (R 5 4 #[true, true, true, false, true, false, true, true, true, false, false, false]) .normal [(7, dK h.x), (3, .pointer (some ⟨b3, 0, none⟩)), (4, .pointer (some ⟨b4, 0, none⟩)), (5, .pointer (some ⟨b5, 0, none⟩)), (10, gZ h), (8, gZ h), (6, gZ h), (2, .pointer (some ⟨b2, 0, none⟩))] X w0 (.blk b3 qB 166 :: .blk b4 qB 166 :: .blk b5 qB 166 :: .blk b2 z18 128 :: M0) (aX h.x u :: aR (some ⟨b1, 0, none⟩) (lV h) :: dY h u :: I0) := by
   intro b3 b4 b5
   rw [hR]
   refine eX (fuel := 4) (listed' := #[true, true, true, true, true, false, true, true, true, false, false, false]) [3] [0] aG aD (by kernel_rfl) (by kernel_rfl) rfl rfl ?_
   (refine aA rfl (h1 _ _ aB) rfl rfl ?_; rintro _ _ _ ⟨rfl, rfl, rfl⟩; refine ⟨okF, ?_⟩)
   refine aN ?_
   rw [← hR]
   exact aQ aL aG aD (n2345 b3 b4 b5)
  have n234 : ∀ b3 b4 : Nat, ND 22 (R 5 4 #[true, true, true, true, true, false, true, true, false, false, false, false]) .normal [(9, dK h.y), (7, dK h.x), (3, .pointer (some ⟨b3, 0, none⟩)), (4, .pointer (some ⟨b4, 0, none⟩)), (10, gZ h), (8, gZ h), (6, gZ h), (2, .pointer (some ⟨b2, 0, none⟩))] X w0 (.blk b3 qB 166 :: .blk b4 qB 166 :: .blk b2 z18 128 :: M0) (aX h.y u :: aX h.x u :: aR (some ⟨b1, 0, none⟩) (lV h) :: dY h u :: I0) := by
   intro b3 b4
   rw [hR]
   refine bF (i := 5) (j := 8) (by kernel_rfl) ?_ ?_
   ·(refine aA rfl (h2 _ _ aB) rfl rfl ?_; rintro _ _ _ ⟨rfl, rfl, rfl⟩; refine ⟨okF, ?_⟩)
    refine aN ?_
    rw [← hR]
    exact aQ aL aG aD (n334 b3 b4)
   ·(refine aF (d := 5) rfl rfl ?_; intro b5; refine ⟨okF, ?_⟩)
    refine aN ?_
    rw [← hR]
    exact aQ aL aG aD (n2345 b3 b4 b5)
  have n235 : ∀ b3 b5 : Nat, ND 22 (R 5 4 #[true, true, true, true, true, false, true, false, true, false, false, false]) .normal [(9, dK h.y), (7, dK h.x), (3, .pointer (some ⟨b3, 0, none⟩)), (5, .pointer (some ⟨b5, 0, none⟩)), (10, gZ h), (8, gZ h), (6, gZ h), (2, .pointer (some ⟨b2, 0, none⟩))] X w0 (.blk b3 qB 166 :: .blk b5 qB 166 :: .blk b2 z18 128 :: M0) (aX h.y u :: aX h.x u :: aR (some ⟨b1, 0, none⟩) (lV h) :: dY h u :: I0) := by
   intro b3 b5
   rw [hR]
   refine bF (i := 5) (j := 7) (by kernel_rfl) ?_ ?_
   ·(refine aA rfl (h2 _ _ aB) rfl rfl ?_; rintro _ _ _ ⟨rfl, rfl, rfl⟩; refine ⟨okF, ?_⟩)
    refine aN ?_
    rw [← hR]
    exact aQ aL aG aD (n335 b3 b5)
   ·(refine aF (d := 4) rfl rfl ?_; intro b4; refine ⟨okF, ?_⟩)
    refine aN ?_
    rw [← hR]
    exact aQ aL aG aD (n2345 b3 b4 b5)
  have n245 : ∀ b4 b5 : Nat, ND 22 (R 5 4 #[true, true, true, true, true, false, false, true, true, false, false, false]) .normal [(9, dK h.y), (7, dK h.x), (4, .pointer (some ⟨b4, 0, none⟩)), (5, .pointer (some ⟨b5, 0, none⟩)), (10, gZ h), (8, gZ h), (6, gZ h), (2, .pointer (some ⟨b2, 0, none⟩))] X w0 (.blk b4 qB 166 :: .blk b5 qB 166 :: .blk b2 z18 128 :: M0) (aX h.y u :: aX h.x u :: aR (some ⟨b1, 0, none⟩) (lV h) :: dY h u :: I0) := by
   intro b4 b5
   rw [hR]
   refine bF (i := 5) (j := 6) (by kernel_rfl) ?_ ?_
   ·(refine aA rfl (h2 _ _ aB) rfl rfl ?_; rintro _ _ _ ⟨rfl, rfl, rfl⟩; refine ⟨okF, ?_⟩)
    refine aN ?_
    rw [← hR]
    exact aQ aL aG aD (n345 b4 b5)
   ·(refine aF (d := 3) rfl rfl ?_; intro b3; refine ⟨okF, ?_⟩)
    refine aN ?_
    rw [← hR]
    exact aQ aL aG aD (n2345 b3 b4 b5)
  have n33 : ∀ b3 : Nat, ND 22 (R 5 4 #[true, true, true, true, true, true, true, false, false, false, false, false]) .normal [(11, dK h.z), (9, dK h.y), (7, dK h.x), (3, .pointer (some ⟨b3, 0, none⟩)), (10, gZ h), (8, gZ h), (6, gZ h), (2, .pointer (some ⟨b2, 0, none⟩))] X w0 (.blk b3 qB 166 :: .blk b2 z18 128 :: M0) (aX h.z u :: aX h.y u :: aX h.x u :: aR (some ⟨b1, 0, none⟩) (lV h) :: dY h u :: I0) := by
   intro b3
   rw [hR]
   refine bF (i := 7) (j := 8) (by kernel_rfl) ?_ ?_
   ·(refine aF (d := 4) rfl rfl ?_; intro b4; refine ⟨okF, ?_⟩)
    refine aN ?_
    rw [← hR]
    exact aQ aL aG aD (n334 b3 b4)
   ·(refine aF (d := 5) rfl rfl ?_; intro b5; refine ⟨okF, ?_⟩)
    refine aN ?_
    rw [← hR]
    exact aQ aL aG aD (n335 b3 b5)
  have n34 : ∀ b4 : Nat, ND 22 (R 5 4 #[true, true, true, true, true, true, false, true, false, false, false, false]) .normal [(11, dK h.z), (9, dK h.y), (7, dK h.x), (4, .pointer (some ⟨b4, 0, none⟩)), (10, gZ h), (8, gZ h), (6, gZ h), (2, .pointer (some ⟨b2, 0, none⟩))] X w0 (.blk b4 qB 166 :: .blk b2 z18 128 :: M0) (aX h.z u :: aX h.y u :: aX h.x u :: aR (some ⟨b1, 0, none⟩) (lV h) :: dY h u :: I0) := by
   intro b4
   rw [hR]
   refine bF (i := 6) (j := 8) (by kernel_rfl) ?_ ?_
   ·(refine aF (d := 3) rfl rfl ?_; intro b3; refine ⟨okF, ?_⟩)
    refine aN ?_
    rw [← hR]
    exact aQ aL aG aD (n334 b3 b4)
   ·(refine aF (d := 5) rfl rfl ?_; intro b5; refine ⟨okF, ?_⟩)
    refine aN ?_
    rw [← hR]
    exact aQ aL aG aD (n345 b4 b5)
  have n35 : ∀ b5 : Nat, ND 22 (R 5 4 #[true, true, true, true, true, true, false, false, true, false, false, false]) .normal [(11, dK h.z), (9, dK h.y), (7, dK h.x), (5, .pointer (some ⟨b5, 0, none⟩)), (10, gZ h), (8, gZ h), (6, gZ h), (2, .pointer (some ⟨b2, 0, none⟩))] X w0 (.blk b5 qB 166 :: .blk b2 z18 128 :: M0) (aX h.z u :: aX h.y u :: aX h.x u :: aR (some ⟨b1, 0, none⟩) (lV h) :: dY h u :: I0) := by
   intro b5
   rw [hR]
   refine bF (i := 6) (j := 7) (by kernel_rfl) ?_ ?_
   ·(refine aF (d := 3) rfl rfl ?_; intro b3; refine ⟨okF, ?_⟩)
    refine aN ?_
    rw [← hR]
    exact aQ aL aG aD (n335 b3 b5)
   ·(refine aF (d := 4) rfl rfl ?_; intro b4; refine ⟨okF, ?_⟩)
    refine aN ?_
    rw [← hR]
    exact aQ aL aG aD (n345 b4 b5)
  have n0345 : ∀ b3 b4 b5 : Nat, ND 22 (R 6 3 #[true, false, true, false, true, false, true, true, true, false, false, false]) .normal [(3, .pointer (some ⟨b3, 0, none⟩)), (4, .pointer (some ⟨b4, 0, none⟩)), (5, .pointer (some ⟨b5, 0, none⟩)), (10, gZ h), (8, gZ h), (6, gZ h), (2, .pointer (some ⟨b2, 0, none⟩))] X w0 (.blk b3 qB 166 :: .blk b4 qB 166 :: .blk b5 qB 166 :: .blk b2 z18 128 :: M0) (aR (some ⟨b1, 0, none⟩) (lV h) :: dY h u :: I0) := by
   intro b3 b4 b5
   rw [hR]
   refine eX (fuel := 5) (listed' := #[true, true, true, false, true, false, true, true, true, false, false, false]) [1] [0] aG aD (by kernel_rfl) (by kernel_rfl) rfl rfl ?_
   (refine aA rfl (h0 _ _ aB) rfl rfl ?_; rintro _ _ _ ⟨rfl, rfl, rfl⟩; refine ⟨okF, ?_⟩)
   refine aN ?_
   rw [← hR]
   exact aQ aL aG aD (n1345 b3 b4 b5)
  have n134 : ∀ b3 b4 : Nat, ND 22 (R 6 3 #[true, true, true, false, true, false, true, true, false, false, false, false]) .normal [(7, dK h.x), (3, .pointer (some ⟨b3, 0, none⟩)), (4, .pointer (some ⟨b4, 0, none⟩)), (10, gZ h), (8, gZ h), (6, gZ h), (2, .pointer (some ⟨b2, 0, none⟩))] X w0 (.blk b3 qB 166 :: .blk b4 qB 166 :: .blk b2 z18 128 :: M0) (aX h.x u :: aR (some ⟨b1, 0, none⟩) (lV h) :: dY h u :: I0) := by
   intro b3 b4
   rw [hR]
   refine bF (i := 3) (j := 8) (by kernel_rfl) ?_ ?_
   ·(refine aA rfl (h1 _ _ aB) rfl rfl ?_; rintro _ _ _ ⟨rfl, rfl, rfl⟩; refine ⟨okF, ?_⟩)
    refine aN ?_
    rw [← hR]
    exact aQ aL aG aD (n234 b3 b4)
   ·(refine aF (d := 5) rfl rfl ?_; intro b5; refine ⟨okF, ?_⟩)
    refine aN ?_
    rw [← hR]
    exact aQ aL aG aD (n1345 b3 b4 b5)
  have n135 : ∀ b3 b5 : Nat, ND 22 (R 6 3 #[true, true, true, false, true, false, true, false, true, false, false, false]) .normal [(7, dK h.x), (3, .pointer (some ⟨b3, 0, none⟩)), (5, .pointer (some ⟨b5, 0, none⟩)), (10, gZ h), (8, gZ h), (6, gZ h), (2, .pointer (some ⟨b2, 0, none⟩))] X w0 (.blk b3 qB 166 :: .blk b5 qB 166 :: .blk b2 z18 128 :: M0) (aX h.x u :: aR (some ⟨b1, 0, none⟩) (lV h) :: dY h u :: I0) := by
   intro b3 b5
   rw [hR]
   refine bF (i := 3) (j := 7) (by kernel_rfl) ?_ ?_
   ·(refine aA rfl (h1 _ _ aB) rfl rfl ?_; rintro _ _ _ ⟨rfl, rfl, rfl⟩; refine ⟨okF, ?_⟩)
    refine aN ?_
    rw [← hR]
    exact aQ aL aG aD (n235 b3 b5)
   ·(refine aF (d := 4) rfl rfl ?_; intro b4; refine ⟨okF, ?_⟩)
    refine aN ?_
    rw [← hR]
    exact aQ aL aG aD (n1345 b3 b4 b5)
  have n145 : ∀ b4 b5 : Nat, ND 22 (R 6 3 #[true, true, true, false, true, false, false, true, true, false, false, false]) .normal [(7, dK h.x), (4, .pointer (some ⟨b4, 0, none⟩)), (5, .pointer (some ⟨b5, 0, none⟩)), (10, gZ h), (8, gZ h), (6, gZ h), (2, .pointer (some ⟨b2, 0, none⟩))] X w0 (.blk b4 qB 166 :: .blk b5 qB 166 :: .blk b2 z18 128 :: M0) (aX h.x u :: aR (some ⟨b1, 0, none⟩) (lV h) :: dY h u :: I0) := by
   intro b4 b5
   rw [hR]
   refine bF (i := 3) (j := 6) (by kernel_rfl) ?_ ?_
   ·(refine aA rfl (h1 _ _ aB) rfl rfl ?_; rintro _ _ _ ⟨rfl, rfl, rfl⟩; refine ⟨okF, ?_⟩)
    refine aN ?_
    rw [← hR]
    exact aQ aL aG aD (n245 b4 b5)
   ·(refine aF (d := 3) rfl rfl ?_; intro b3; refine ⟨okF, ?_⟩)
    refine aN ?_
    rw [← hR]
    exact aQ aL aG aD (n1345 b3 b4 b5)
  have n23 : ∀ b3 : Nat, ND 22 (R 6 3 #[true, true, true, true, true, false, true, false, false, false, false, false]) .normal [(9, dK h.y), (7, dK h.x), (3, .pointer (some ⟨b3, 0, none⟩)), (10, gZ h), (8, gZ h), (6, gZ h), (2, .pointer (some ⟨b2, 0, none⟩))] X w0 (.blk b3 qB 166 :: .blk b2 z18 128 :: M0) (aX h.y u :: aX h.x u :: aR (some ⟨b1, 0, none⟩) (lV h) :: dY h u :: I0) := by
   intro b3
   rw [hR]
   refine iJ (i := 5) (j := 7) (m := 8) (by kernel_rfl) ?_ ?_ ?_
   ·(refine aA rfl (h2 _ _ aB) rfl rfl ?_; rintro _ _ _ ⟨rfl, rfl, rfl⟩; refine ⟨okF, ?_⟩)
    refine aN ?_
    rw [← hR]
    exact aQ aL aG aD (n33 b3)
   ·(refine aF (d := 4) rfl rfl ?_; intro b4; refine ⟨okF, ?_⟩)
    refine aN ?_
    rw [← hR]
    exact aQ aL aG aD (n234 b3 b4)
   ·(refine aF (d := 5) rfl rfl ?_; intro b5; refine ⟨okF, ?_⟩)
    refine aN ?_
    rw [← hR]
    exact aQ aL aG aD (n235 b3 b5)
  have n24 : ∀ b4 : Nat, ND 22 (R 6 3 #[true, true, true, true, true, false, false, true, false, false, false, false]) .normal [(9, dK h.y), (7, dK h.x), (4, .pointer (some ⟨b4, 0, none⟩)), (10, gZ h), (8, gZ h), (6, gZ h), (2, .pointer (some ⟨b2, 0, none⟩))] X w0 (.blk b4 qB 166 :: .blk b2 z18 128 :: M0) (aX h.y u :: aX h.x u :: aR (some ⟨b1, 0, none⟩) (lV h) :: dY h u :: I0) := by
   intro b4
   rw [hR]
   refine iJ (i := 5) (j := 6) (m := 8) (by kernel_rfl) ?_ ?_ ?_
   ·(refine aA rfl (h2 _ _ aB) rfl rfl ?_; rintro _ _ _ ⟨rfl, rfl, rfl⟩; refine ⟨okF, ?_⟩)
    refine aN ?_
    rw [← hR]
    exact aQ aL aG aD (n34 b4)
   ·(refine aF (d := 3) rfl rfl ?_; intro b3; refine ⟨okF, ?_⟩)
    refine aN ?_
    rw [← hR]
    exact aQ aL aG aD (n234 b3 b4)
   ·(refine aF (d := 5) rfl rfl ?_; intro b5; refine ⟨okF, ?_⟩)
    refine aN ?_
    rw [← hR]
    exact aQ aL aG aD (n245 b4 b5)
  have n25 : ∀ b5 : Nat, ND 22 (R 6 3 #[true, true, true, true, true, false, false, false, true, false, false, false]) .normal [(9, dK h.y), (7, dK h.x), (5, .pointer (some ⟨b5, 0, none⟩)), (10, gZ h), (8, gZ h), (6, gZ h), (2, .pointer (some ⟨b2, 0, none⟩))] X w0 (.blk b5 qB 166 :: .blk b2 z18 128 :: M0) (aX h.y u :: aX h.x u :: aR (some ⟨b1, 0, none⟩) (lV h) :: dY h u :: I0) := by
   intro b5
   rw [hR]
   refine iJ (i := 5) (j := 6) (m := 7) (by kernel_rfl) ?_ ?_ ?_
   ·(refine aA rfl (h2 _ _ aB) rfl rfl ?_; rintro _ _ _ ⟨rfl, rfl, rfl⟩; refine ⟨okF, ?_⟩)
    refine aN ?_
    rw [← hR]
    exact aQ aL aG aD (n35 b5)
   ·(refine aF (d := 3) rfl rfl ?_; intro b3; refine ⟨okF, ?_⟩)
    refine aN ?_
    rw [← hR]
    exact aQ aL aG aD (n235 b3 b5)
   ·(refine aF (d := 4) rfl rfl ?_; intro b4; refine ⟨okF, ?_⟩)
    refine aN ?_
    rw [← hR]
    exact aQ aL aG aD (n245 b4 b5)
  have n3 : ND 22 (R 6 3 #[true, true, true, true, true, true, false, false, false, false, false, false]) .normal [(11, dK h.z), (9, dK h.y), (7, dK h.x), (10, gZ h), (8, gZ h), (6, gZ h), (2, .pointer (some ⟨b2, 0, none⟩))] X w0 (.blk b2 z18 128 :: M0) (aX h.z u :: aX h.y u :: aX h.x u :: aR (some ⟨b1, 0, none⟩) (lV h) :: dY h u :: I0) := by
   rw [hR]
   refine iJ (i := 6) (j := 7) (m := 8) (by kernel_rfl) ?_ ?_ ?_
   ·(refine aF (d := 3) rfl rfl ?_; intro b3; refine ⟨okF, ?_⟩)
    refine aN ?_
    rw [← hR]
    exact aQ aL aG aD (n33 b3)
   ·(refine aF (d := 4) rfl rfl ?_; intro b4; refine ⟨okF, ?_⟩)
    refine aN ?_
    rw [← hR]
    exact aQ aL aG aD (n34 b4)
   ·(refine aF (d := 5) rfl rfl ?_; intro b5; refine ⟨okF, ?_⟩)
    refine aN ?_
    rw [← hR]
    exact aQ aL aG aD (n35 b5)
  have n034 : ∀ b3 b4 : Nat, ND 22 (R 7 2 #[true, false, true, false, true, false, true, true, false, false, false, false]) .normal [(3, .pointer (some ⟨b3, 0, none⟩)), (4, .pointer (some ⟨b4, 0, none⟩)), (10, gZ h), (8, gZ h), (6, gZ h), (2, .pointer (some ⟨b2, 0, none⟩))] X w0 (.blk b3 qB 166 :: .blk b4 qB 166 :: .blk b2 z18 128 :: M0) (aR (some ⟨b1, 0, none⟩) (lV h) :: dY h u :: I0) := by
   intro b3 b4
   rw [hR]
   refine bF (i := 1) (j := 8) (by kernel_rfl) ?_ ?_
   ·(refine aA rfl (h0 _ _ aB) rfl rfl ?_; rintro _ _ _ ⟨rfl, rfl, rfl⟩; refine ⟨okF, ?_⟩)
    refine aN ?_
    rw [← hR]
    exact aQ aL aG aD (n134 b3 b4)
   ·(refine aF (d := 5) rfl rfl ?_; intro b5; refine ⟨okF, ?_⟩)
    refine aN ?_
    rw [← hR]
    exact aQ aL aG aD (n0345 b3 b4 b5)
  have n035 : ∀ b3 b5 : Nat, ND 22 (R 7 2 #[true, false, true, false, true, false, true, false, true, false, false, false]) .normal [(3, .pointer (some ⟨b3, 0, none⟩)), (5, .pointer (some ⟨b5, 0, none⟩)), (10, gZ h), (8, gZ h), (6, gZ h), (2, .pointer (some ⟨b2, 0, none⟩))] X w0 (.blk b3 qB 166 :: .blk b5 qB 166 :: .blk b2 z18 128 :: M0) (aR (some ⟨b1, 0, none⟩) (lV h) :: dY h u :: I0) := by
   intro b3 b5
   rw [hR]
   refine bF (i := 1) (j := 7) (by kernel_rfl) ?_ ?_
   ·(refine aA rfl (h0 _ _ aB) rfl rfl ?_; rintro _ _ _ ⟨rfl, rfl, rfl⟩; refine ⟨okF, ?_⟩)
    refine aN ?_
    rw [← hR]
    exact aQ aL aG aD (n135 b3 b5)
   ·(refine aF (d := 4) rfl rfl ?_; intro b4; refine ⟨okF, ?_⟩)
    refine aN ?_
    rw [← hR]
    exact aQ aL aG aD (n0345 b3 b4 b5)
  have n045 : ∀ b4 b5 : Nat, ND 22 (R 7 2 #[true, false, true, false, true, false, false, true, true, false, false, false]) .normal [(4, .pointer (some ⟨b4, 0, none⟩)), (5, .pointer (some ⟨b5, 0, none⟩)), (10, gZ h), (8, gZ h), (6, gZ h), (2, .pointer (some ⟨b2, 0, none⟩))] X w0 (.blk b4 qB 166 :: .blk b5 qB 166 :: .blk b2 z18 128 :: M0) (aR (some ⟨b1, 0, none⟩) (lV h) :: dY h u :: I0) := by
   intro b4 b5
   rw [hR]
   refine bF (i := 1) (j := 6) (by kernel_rfl) ?_ ?_
   ·(refine aA rfl (h0 _ _ aB) rfl rfl ?_; rintro _ _ _ ⟨rfl, rfl, rfl⟩; refine ⟨okF, ?_⟩)
    refine aN ?_
    rw [← hR]
    exact aQ aL aG aD (n145 b4 b5)
   ·(refine aF (d := 3) rfl rfl ?_; intro b3; refine ⟨okF, ?_⟩)
    refine aN ?_
    rw [← hR]
    exact aQ aL aG aD (n0345 b3 b4 b5)
  have n13 : ∀ b3 : Nat, ND 22 (R 7 2 #[true, true, true, false, true, false, true, false, false, false, false, false]) .normal [(7, dK h.x), (3, .pointer (some ⟨b3, 0, none⟩)), (10, gZ h), (8, gZ h), (6, gZ h), (2, .pointer (some ⟨b2, 0, none⟩))] X w0 (.blk b3 qB 166 :: .blk b2 z18 128 :: M0) (aX h.x u :: aR (some ⟨b1, 0, none⟩) (lV h) :: dY h u :: I0) := by
   intro b3
   rw [hR]
   refine iJ (i := 3) (j := 7) (m := 8) (by kernel_rfl) ?_ ?_ ?_
   ·(refine aA rfl (h1 _ _ aB) rfl rfl ?_; rintro _ _ _ ⟨rfl, rfl, rfl⟩; refine ⟨okF, ?_⟩)
    refine aN ?_
    rw [← hR]
    exact aQ aL aG aD (n23 b3)
   ·(refine aF (d := 4) rfl rfl ?_; intro b4; refine ⟨okF, ?_⟩)
    refine aN ?_
    rw [← hR]
    exact aQ aL aG aD (n134 b3 b4)
   ·(refine aF (d := 5) rfl rfl ?_; intro b5; refine ⟨okF, ?_⟩)
    refine aN ?_
    rw [← hR]
    exact aQ aL aG aD (n135 b3 b5)
  have n14 : ∀ b4 : Nat, ND 22 (R 7 2 #[true, true, true, false, true, false, false, true, false, false, false, false]) .normal [(7, dK h.x), (4, .pointer (some ⟨b4, 0, none⟩)), (10, gZ h), (8, gZ h), (6, gZ h), (2, .pointer (some ⟨b2, 0, none⟩))] X w0 (.blk b4 qB 166 :: .blk b2 z18 128 :: M0) (aX h.x u :: aR (some ⟨b1, 0, none⟩) (lV h) :: dY h u :: I0) := by
   intro b4
   rw [hR]
   refine iJ (i := 3) (j := 6) (m := 8) (by kernel_rfl) ?_ ?_ ?_
   ·(refine aA rfl (h1 _ _ aB) rfl rfl ?_; rintro _ _ _ ⟨rfl, rfl, rfl⟩; refine ⟨okF, ?_⟩)
    refine aN ?_
    rw [← hR]
    exact aQ aL aG aD (n24 b4)
   ·(refine aF (d := 3) rfl rfl ?_; intro b3; refine ⟨okF, ?_⟩)
    refine aN ?_
    rw [← hR]
    exact aQ aL aG aD (n134 b3 b4)
   ·(refine aF (d := 5) rfl rfl ?_; intro b5; refine ⟨okF, ?_⟩)
    refine aN ?_
    rw [← hR]
    exact aQ aL aG aD (n145 b4 b5)
  have n15 : ∀ b5 : Nat, ND 22 (R 7 2 #[true, true, true, false, true, false, false, false, true, false, false, false]) .normal [(7, dK h.x), (5, .pointer (some ⟨b5, 0, none⟩)), (10, gZ h), (8, gZ h), (6, gZ h), (2, .pointer (some ⟨b2, 0, none⟩))] X w0 (.blk b5 qB 166 :: .blk b2 z18 128 :: M0) (aX h.x u :: aR (some ⟨b1, 0, none⟩) (lV h) :: dY h u :: I0) := by
   intro b5
   rw [hR]
   refine iJ (i := 3) (j := 6) (m := 7) (by kernel_rfl) ?_ ?_ ?_
   ·(refine aA rfl (h1 _ _ aB) rfl rfl ?_; rintro _ _ _ ⟨rfl, rfl, rfl⟩; refine ⟨okF, ?_⟩)
    refine aN ?_
    rw [← hR]
    exact aQ aL aG aD (n25 b5)
   ·(refine aF (d := 3) rfl rfl ?_; intro b3; refine ⟨okF, ?_⟩)
    refine aN ?_
    rw [← hR]
    exact aQ aL aG aD (n135 b3 b5)
   ·(refine aF (d := 4) rfl rfl ?_; intro b4; refine ⟨okF, ?_⟩)
    refine aN ?_
    rw [← hR]
    exact aQ aL aG aD (n145 b4 b5)
  have n2 : ND 22 (R 7 2 #[true, true, true, true, true, false, false, false, false, false, false, false]) .normal [(9, dK h.y), (7, dK h.x), (10, gZ h), (8, gZ h), (6, gZ h), (2, .pointer (some ⟨b2, 0, none⟩))] X w0 (.blk b2 z18 128 :: M0) (aX h.y u :: aX h.x u :: aR (some ⟨b1, 0, none⟩) (lV h) :: dY h u :: I0) := by
   rw [hR]
   refine sZ (i := 5) (j := 6) (m := 7) (o := 8) (by kernel_rfl) ?_ ?_ ?_ ?_
   ·(refine aA rfl (h2 _ _ aB) rfl rfl ?_; rintro _ _ _ ⟨rfl, rfl, rfl⟩; refine ⟨okF, ?_⟩)
    refine aN ?_
    rw [← hR]
    exact aQ aL aG aD (n3)
   ·(refine aF (d := 3) rfl rfl ?_; intro b3; refine ⟨okF, ?_⟩)
    refine aN ?_
    rw [← hR]
    exact aQ aL aG aD (n23 b3)
   ·(refine aF (d := 4) rfl rfl ?_; intro b4; refine ⟨okF, ?_⟩)
    refine aN ?_
    rw [← hR]
    exact aQ aL aG aD (n24 b4)
   ·(refine aF (d := 5) rfl rfl ?_; intro b5; refine ⟨okF, ?_⟩)
    refine aN ?_
    rw [← hR]
    exact aQ aL aG aD (n25 b5)
  have n03 : ∀ b3 : Nat, ND 22 (R 8 1 #[true, false, true, false, true, false, true, false, false, false, false, false]) .normal [(3, .pointer (some ⟨b3, 0, none⟩)), (10, gZ h), (8, gZ h), (6, gZ h), (2, .pointer (some ⟨b2, 0, none⟩))] X w0 (.blk b3 qB 166 :: .blk b2 z18 128 :: M0) (aR (some ⟨b1, 0, none⟩) (lV h) :: dY h u :: I0) := by
   intro b3
   rw [hR]
   refine iJ (i := 1) (j := 7) (m := 8) (by kernel_rfl) ?_ ?_ ?_
   ·(refine aA rfl (h0 _ _ aB) rfl rfl ?_; rintro _ _ _ ⟨rfl, rfl, rfl⟩; refine ⟨okF, ?_⟩)
    refine aN ?_
    rw [← hR]
    exact aQ aL aG aD (n13 b3)
   ·(refine aF (d := 4) rfl rfl ?_; intro b4; refine ⟨okF, ?_⟩)
    refine aN ?_
    rw [← hR]
    exact aQ aL aG aD (n034 b3 b4)
   ·(refine aF (d := 5) rfl rfl ?_; intro b5; refine ⟨okF, ?_⟩)
    refine aN ?_
    rw [← hR]
    exact aQ aL aG aD (n035 b3 b5)
  have n04 : ∀ b4 : Nat, ND 22 (R 8 1 #[true, false, true, false, true, false, false, true, false, false, false, false]) .normal [(4, .pointer (some ⟨b4, 0, none⟩)), (10, gZ h), (8, gZ h), (6, gZ h), (2, .pointer (some ⟨b2, 0, none⟩))] X w0 (.blk b4 qB 166 :: .blk b2 z18 128 :: M0) (aR (some ⟨b1, 0, none⟩) (lV h) :: dY h u :: I0) := by
   intro b4
   rw [hR]
   refine iJ (i := 1) (j := 6) (m := 8) (by kernel_rfl) ?_ ?_ ?_
   ·(refine aA rfl (h0 _ _ aB) rfl rfl ?_; rintro _ _ _ ⟨rfl, rfl, rfl⟩; refine ⟨okF, ?_⟩)
    refine aN ?_
    rw [← hR]
    exact aQ aL aG aD (n14 b4)
   ·(refine aF (d := 3) rfl rfl ?_; intro b3; refine ⟨okF, ?_⟩)
    refine aN ?_
    rw [← hR]
    exact aQ aL aG aD (n034 b3 b4)
   ·(refine aF (d := 5) rfl rfl ?_; intro b5; refine ⟨okF, ?_⟩)
    refine aN ?_
    rw [← hR]
    exact aQ aL aG aD (n045 b4 b5)
  have n05 : ∀ b5 : Nat, ND 22 (R 8 1 #[true, false, true, false, true, false, false, false, true, false, false, false]) .normal [(5, .pointer (some ⟨b5, 0, none⟩)), (10, gZ h), (8, gZ h), (6, gZ h), (2, .pointer (some ⟨b2, 0, none⟩))] X w0 (.blk b5 qB 166 :: .blk b2 z18 128 :: M0) (aR (some ⟨b1, 0, none⟩) (lV h) :: dY h u :: I0) := by
   intro b5
   rw [hR]
   refine iJ (i := 1) (j := 6) (m := 7) (by kernel_rfl) ?_ ?_ ?_
   ·(refine aA rfl (h0 _ _ aB) rfl rfl ?_; rintro _ _ _ ⟨rfl, rfl, rfl⟩; refine ⟨okF, ?_⟩)
    refine aN ?_
    rw [← hR]
    exact aQ aL aG aD (n15 b5)
   ·(refine aF (d := 3) rfl rfl ?_; intro b3; refine ⟨okF, ?_⟩)
    refine aN ?_
    rw [← hR]
    exact aQ aL aG aD (n035 b3 b5)
   ·(refine aF (d := 4) rfl rfl ?_; intro b4; refine ⟨okF, ?_⟩)
    refine aN ?_
    rw [← hR]
    exact aQ aL aG aD (n045 b4 b5)
  have n1 : ND 22 (R 8 1 #[true, true, true, false, true, false, false, false, false, false, false, false]) .normal [(7, dK h.x), (10, gZ h), (8, gZ h), (6, gZ h), (2, .pointer (some ⟨b2, 0, none⟩))] X w0 (.blk b2 z18 128 :: M0) (aX h.x u :: aR (some ⟨b1, 0, none⟩) (lV h) :: dY h u :: I0) := by
   rw [hR]
   refine sZ (i := 3) (j := 6) (m := 7) (o := 8) (by kernel_rfl) ?_ ?_ ?_ ?_
   ·(refine aA rfl (h1 _ _ aB) rfl rfl ?_; rintro _ _ _ ⟨rfl, rfl, rfl⟩; refine ⟨okF, ?_⟩)
    refine aN ?_
    rw [← hR]
    exact aQ aL aG aD (n2)
   ·(refine aF (d := 3) rfl rfl ?_; intro b3; refine ⟨okF, ?_⟩)
    refine aN ?_
    rw [← hR]
    exact aQ aL aG aD (n13 b3)
   ·(refine aF (d := 4) rfl rfl ?_; intro b4; refine ⟨okF, ?_⟩)
    refine aN ?_
    rw [← hR]
    exact aQ aL aG aD (n14 b4)
   ·(refine aF (d := 5) rfl rfl ?_; intro b5; refine ⟨okF, ?_⟩)
    refine aN ?_
    rw [← hR]
    exact aQ aL aG aD (n15 b5)
  have n0 : ND 22 (R 9 0 #[true, false, true, false, true, false, false, false, false, false, false, false]) .normal [(10, gZ h), (8, gZ h), (6, gZ h), (2, .pointer (some ⟨b2, 0, none⟩))] X w0 (.blk b2 z18 128 :: M0) (aR (some ⟨b1, 0, none⟩) (lV h) :: dY h u :: I0) := by
   rw [hR]
   refine sZ (i := 1) (j := 6) (m := 7) (o := 8) (by kernel_rfl) ?_ ?_ ?_ ?_
   ·(refine aA rfl (h0 _ _ aB) rfl rfl ?_; rintro _ _ _ ⟨rfl, rfl, rfl⟩; refine ⟨okF, ?_⟩)
    refine aN ?_
    rw [← hR]
    exact aQ aL aG aD (n1)
   ·(refine aF (d := 3) rfl rfl ?_; intro b3; refine ⟨okF, ?_⟩)
    refine aN ?_
    rw [← hR]
    exact aQ aL aG aD (n03 b3)
   ·(refine aF (d := 4) rfl rfl ?_; intro b4; refine ⟨okF, ?_⟩)
    refine aN ?_
    rw [← hR]
    exact aQ aL aG aD (n04 b4)
   ·(refine aF (d := 5) rfl rfl ?_; intro b5; refine ⟨okF, ?_⟩)
    refine aN ?_
    rw [← hR]
    exact aQ aL aG aD (n05 b5)
  show ND 22 (R 12 0 #[false, false, false, false, false, false, false, false, false, false, false, false]) .normal _ X w0 _ _
  rw [hR]
  refine eX (fuel := 9) (listed' := #[true, false, true, false, true, false, false, false, false, false, false, false]) [0, 2, 4] [5, 6, 7] aG aD (by kernel_rfl) (by kernel_rfl) rfl rfl ?_
  repeat (refine aJ ?_)
  rw [← hR]
  exact aQ aL aG aD n0
 rintro G M I ⟨b3, b4, b5, rfl, rfl, rfl⟩
 (repeat refine aH ?_); refine bS (.blk b5 (lW h.z) 166 :: .blk b4 (lW h.y) 166 :: .blk b3 (lW h.x) 166 :: M0) (I0) [0, 1, 3, 4, 6, 7, 2, 5, 8, 9, 10] [3, 3, 3, 3, 3, 3, 0, 0, 0, 0, 0] aG aD mixed (by kernel_rfl) ?_
 repeat (refine aJ ?_)
 (refine aA rfl (hC h.y h.z _ _ aB aB) rfl rfl ?_; rintro _ _ _ ⟨rfl, c0, rfl, hc0, rfl⟩; refine ⟨okF, ?_⟩)
 (refine aA rfl (hC h.z h.x _ _ aB aB) rfl rfl ?_; rintro _ _ _ ⟨rfl, c1, rfl, hc1, rfl⟩; refine ⟨okF, ?_⟩)
 (refine aA rfl (hC h.x h.y _ _ aB aB) rfl rfl ?_; rintro _ _ _ ⟨rfl, c2, rfl, hc2, rfl⟩; refine ⟨okF, ?_⟩)
 (refine aA rfl (hR c0 c1 c2 _ _ aB aB aB) rfl rfl ?_; rintro _ _ _ ⟨rfl, rfl, rfl⟩; refine ⟨okF, ?_⟩)
 repeat (refine aJ ?_)
 refine bJ (cs := lV ⟨c0, c1, c2⟩) (.inl rfl) rfl rfl aB rfl M0 (dY ⟨c0, c1, c2⟩ (u + u + 1) :: I0) aG aD ⟨rfl, ⟨c0, c1, c2⟩, rfl, by show (⟨c0.t, c1.t, c2.t⟩ : M9 Int) = _; rw [hc0, hc1, hc2]; rfl, rfl⟩
theorem aRR {g h : HZ} {ku m : Nat} (hk : 63 ≤ ku + m) (hk2 : ku + m ≤ 100000) (hg : dY g ku ∈ I0) (hh : dY h m ∈ I0) : CD Tryz.prog 139 [gZ g, gZ h] X w0 M0 I0 (HQ (g.m.mul h.m) (ku + m + 3) M0 I0) := by
 have hTg := fun M0 I0 h1 => aET (X := X) (w0 := w0) (M0 := M0) (I0 := I0) (h := g) (u := ku) h1
 have hTh := fun M0 I0 h1 => aET (X := X) (w0 := w0) (M0 := M0) (I0 := I0) (h := h) (u := m) h1
 have hC := fun (i : Nat) (hi : i < 3) M0 I0 h1 => aPR (X := X) (w0 := w0) (M0 := M0) (I0 := I0) (h := g.tr) (u := ku) (i := i) hi h1
 have hTm := fun (p : TZ) M0 I0 h1 h2 => aNQ (X := X) (w0 := w0) (M0 := M0) (I0 := I0) (h := h.tr) (p := p) (k := m) (m := ku) (by omega) (by omega) h1 h2
 have e9 : m + ku + 3 = ku + m + 3 := by omega
 rw [e9] at hTm
 have hR := fun (p q r : TZ) M0 I0 h1 h2 h3 => wU (X := X) (w0 := w0) (M0 := M0) (I0 := I0) (p := p) (q := q) (r := r) (u := ku + m + 3) h1 h2 h3
 refine bK (φ := dY g ku) (Hv.mem hg) (bK (φ := dY h m) (Hv.mem (List.mem_cons_of_mem _ hh)) ?_)
 refine bL Tryz.func139 rfl Tryz.ntmps139 rfl ?_
 refine aH ?_
 refine aI ?_
 (refine aV rfl rfl rfl ?_; intro b2; refine ⟨okF, ?_⟩)
 refine aO (cs := lV g) .here ?_
 (refine aV rfl rfl rfl ?_; intro b3; refine ⟨okF, ?_⟩)
 refine aO (cs := lV h) .here ?_
 (refine aF rfl rfl ?_; intro b4; refine ⟨okF, ?_⟩)
 repeat (refine aJ ?_)
 (refine aA rfl (hTg _ _ aB) rfl rfl ?_; rintro _ _ _ ⟨rfl, rfl, rfl⟩; refine ⟨okF, ?_⟩)
 (refine aF rfl rfl ?_; intro b5; refine ⟨okF, ?_⟩)
 repeat (refine aJ ?_)
 (refine aF rfl rfl ?_; intro b6; refine ⟨okF, ?_⟩)
 repeat (refine aJ ?_)
 refine dV (φ := allT [none, none, none] (ku + m + 3)) (Hv.tNil (n := 3)) ?_
 refine aZ [3, 4, 5, 6] rfl (fun k G M I => ∃ (i : Nat) (os : List (Option TZ)), i ≤ 3 ∧ k = 3 - i ∧ os.length = 3 ∧ (∀ j : Nat, j < i → ∃ e : TZ, gt os (j : Int) = some e ∧ e.t = h.tr.m.app (gt [g.x, g.y, g.z] (j : Int)).t) ∧ G = [(10, .int .i64 i)] ∧ M = .blk b6 (recs wT os) 201 :: .blk b5 (lV g.tr) 128 :: .blk b4 z18 128 :: M0 ∧ I = allT os (ku + m + 3) :: dY g.tr ku :: aR (some ⟨b3, 0, none⟩) (lV h) :: dY h m :: I0) (3) _ _ _ aL aG aD (⟨0, [none, none, none], by omega, rfl, rfl, fun j hj => absurd hj (by omega), rfl, rfl, rfl⟩) ?_
 rintro kk G M I ⟨i, os, hi, rfl, hol, ho, rfl, rfl, rfl⟩
 by_cases hii : i < 3
 ·repeat (refine aJ ?_)
  (repeat refine aH ?_); refine bS (.blk b5 (lV g.tr) 128 :: M0) (aR (some ⟨b3, 0, none⟩) (lV h) :: I0) [0, 1, 3, 4, 2, 5, 6, 7, 8] [3, 2, 2, 2, 0, 0, 0, 0, 0] aG aD mixed (by kernel_rfl) ?_
  repeat (refine aJ ?_)
  (refine aA rfl (hTh _ _ aB) rfl rfl ?_; rintro _ _ _ ⟨rfl, rfl, rfl⟩; refine ⟨okF, ?_⟩)
  (refine aA rfl (hC i hii _ _ aB) rfl rfl ?_; rintro _ _ _ ⟨rfl, rfl, rfl⟩; refine ⟨okF, ?_⟩)
  (refine aA rfl (hTm (gt [g.tr.tr.x, g.tr.tr.y, g.tr.tr.z] (i : Int)) _ _ aB aB) rfl rfl ?_; rintro _ _ _ ⟨rfl, p, rfl, hp, rfl⟩; refine ⟨okF, ?_⟩)
  repeat (refine yXh ?_)
  refine fD (vs := lW p) rfl rfl rfl (Ones.one p) kH (StAts.o0 (enc := wT) (sz := 6) (ms := os) (i := (i : Int)) (some p) ⟨by omega, by omega⟩ rfl) rfl rfl ⟨okF, ?_⟩
  repeat (refine aJ ?_)
  refine iI (φ := allT (st os (i : Int) (some p)) (ku + m + 3)) (Hv.tSet aB aB) ?_
  refine aK (3 - (i + 1)) _ _ _ (by first | omega | (simp only [List.length_append, List.length_cons, List.length_nil]; omega)) aL aG aD (⟨i + 1, st os (i : Int) (some p), by omega, rfl, by rw [uX]; exact hol, fun t ht => by
   rw [vG (by omega) (by omega)]
   by_cases e : t = i
   ·subst e
    rw [if_pos rfl]
    exact ⟨p, rfl, hp⟩
   ·rw [if_neg e]
    exact ho t (by omega), rfl, rfl, rfl⟩)
 ·obtain rfl : i = 3 := by omega
  obtain ⟨a, ha, hza⟩ := ho 0 (by omega)
  obtain ⟨b, hb, hzb⟩ := ho 1 (by omega)
  obtain ⟨c, hc, hzc⟩ := ho 2 (by omega)
  refine dV (φ := aX a (ku + m + 3)) (Hv.tAt (os := os) (i := ((0 : Nat) : Int)) aB ⟨by omega, by omega⟩ ha) ?_
  refine dV (φ := aX b (ku + m + 3)) (Hv.tAt (os := os) (i := ((1 : Nat) : Int)) aB ⟨by omega, by omega⟩ hb) ?_
  refine dV (φ := aX c (ku + m + 3)) (Hv.tAt (os := os) (i := ((2 : Nat) : Int)) aB ⟨by omega, by omega⟩ hc) ?_
  have e3 : recs wT os = recs lW [a, b, c] := by rw [os3 hol, show gt os 0 = some a from ha, show gt os 1 = some b from hb, show gt os 2 = some c from hc]; rfl
  rw [e3]
  repeat (refine aJ ?_)
  (apply gM; exact dX; exact rfl; exact aB; exact AtsZ.o0 (enc := lW) (sz := 6) (ms := [a, b, c]) (i := 0) ⟨by decide, by simp⟩; exact rfl; exact rfl)
  repeat (refine aJ ?_)
  (apply gM; exact dX; exact rfl; exact aB; exact AtsZ.o0 (enc := lW) (sz := 6) (ms := [a, b, c]) (i := 1) ⟨by decide, by simp⟩; exact rfl; exact rfl)
  repeat (refine aJ ?_)
  (apply gM; exact dX; exact rfl; exact aB; exact AtsZ.o0 (enc := lW) (sz := 6) (ms := [a, b, c]) (i := 2) ⟨by decide, by simp⟩; exact rfl; exact rfl)
  repeat (refine aJ ?_)
  (refine aA rfl (hR a b c _ _ aB aB aB) rfl rfl ?_; rintro _ _ _ ⟨rfl, rfl, rfl⟩; refine ⟨okF, ?_⟩)
  repeat (refine aJ ?_)
  refine bJ (cs := lV ⟨a, b, c⟩) (.inl rfl) rfl rfl aB rfl M0 (dY ⟨a, b, c⟩ (ku + m + 3) :: I0) aG aD ⟨rfl, ⟨a, b, c⟩, rfl, by show (⟨a.t, b.t, c.t⟩ : M9 Int) = _; rw [hza, hzb, hzc]; rfl, rfl⟩
end
end Go.Proofs.YtjbhdfpjnjedhaaGreat

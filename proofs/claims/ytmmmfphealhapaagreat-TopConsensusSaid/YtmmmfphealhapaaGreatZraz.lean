/- Cofactors and products of matrices (package homography). -/
import Derived.Test.YtmmmfphealhapaaGreatZray
import Derived.Test.YtmmmfphealhapaaGreatZraw
set_option linter.unusedSimpArgs false
set_option linter.unusedVariables false
set_option maxRecDepth 100000
set_option maxHeartbeats 4000000
namespace Go.Fx
section
variable {P : Program} {n : Nat} {Q : Exit → Act → World → Prop} {G : Env} {X : List Nat} {w0 : World} {M M1 : List Ent} {I I1 : List bA} {l : List Oper}
theorem kF {e : Exit} {G' : Env} {M' : List Ent} {I' : List bA} (s : Sub G G') (hM : SubP M M') (hI : Inc I I') (h : ND n Q e G' X w0 M' I') : ND n Q e G X w0 M I := ⟨fun w hw => ⟨fun a ha => (h.go w (hw.weak hM hI)).go a (ha.sub s)⟩⟩
theorem bF {ops : List Oper} {m : Go.Fx.Mode} {G' : Env} {M' : List Ent} {I' : List bA} {Cs : Nat → World → Prop} {R : Nat → Nat → Array Bool → Exit → Act → World → Prop} {f k : Nat} {ls : Array Bool} (hR : ∀ f k ls, R f k ls = Go.Fx.Rest P l Q Cs f k ls) (h : ND n (R f k ls) .normal G' X w0 M' I') (s : Sub G G' := by exact aS) (hM : SubP M M' := by exact aG) (hI : Inc I I' := by exact aF) : RD P n ops (Go.Fx.Rest P l Q Cs f k ls) m [] G X w0 M I := aL (by rw [← hR]; exact kF s hM hI h)
theorem aEF {id : Nat} (M1 : List Ent) (I1 : List bA) (hx : P.follows .mixedOrders = true) (h : ∀ R : Nat → Nat → Array Bool → Exit → Act → World → Prop, (∀ f k ls, R f k ls = Go.Fx.Rest P l Q (rQ X w0 M1 I1) f k ls) → ND n (R l.length 0 (Array.replicate l.length false)) .normal G X w0 M I) : TD P n (.region id l.toArray true) Q G X w0 M I :=
 qX M1 I1 hx (h (fun f k ls => Go.Fx.Rest P l Q (rQ X w0 M1 I1) f k ls) (fun _ _ _ => rfl))
theorem rC {fuel k i j m o : Nat} {listed : Array Bool} (hr : (Region.ready .any l.toArray listed == [i, j, m, o] && pY l.toArray i && pY l.toArray j && pY l.toArray m && pY l.toArray o) = true)
  (h1 : RD P n l (Go.Fx.Rest P l Q (rQ X w0 M1 I1) fuel (k + 1) (listed.setIfInBounds i true)) (.any (rQ X w0 M1 I1) k []) (pick l [i]) G X w0 M I)
  (h2 : RD P n l (Go.Fx.Rest P l Q (rQ X w0 M1 I1) fuel (k + 1) (listed.setIfInBounds j true)) (.any (rQ X w0 M1 I1) k []) (pick l [j]) G X w0 M I)
  (h3 : RD P n l (Go.Fx.Rest P l Q (rQ X w0 M1 I1) fuel (k + 1) (listed.setIfInBounds m true)) (.any (rQ X w0 M1 I1) k []) (pick l [m]) G X w0 M I)
  (h4 : RD P n l (Go.Fx.Rest P l Q (rQ X w0 M1 I1) fuel (k + 1) (listed.setIfInBounds o true)) (.any (rQ X w0 M1 I1) k []) (pick l [o]) G X w0 M I) : ND n (Go.Fx.Rest P l Q (rQ X w0 M1 I1) (fuel + 1) k listed) .normal G X w0 M I := ⟨fun w hw => ⟨fun a ha => by
 simp only [Bool.and_eq_true, beq_iff_eq] at hr
 obtain ⟨⟨⟨⟨hr, e1⟩, e2⟩, e3⟩, e4⟩ := hr
 have get : ∀ x, pY l.toArray x = true → ∃ o, l.toArray[x]? = some o ∧ iE o.op = false := fun x hx => by
  unfold pY at hx
  cases ho : l.toArray[x]? with
  | none => simp [ho] at hx
  | some o => simp [ho] at hx; exact ⟨o, rfl, hx⟩
 obtain ⟨o1, ho1, hk1⟩ := get i e1
 obtain ⟨o2, ho2, hk2⟩ := get j e2
 obtain ⟨o3, ho3, hk3⟩ := get m e3
 obtain ⟨o4, ho4, hk4⟩ := get o e4
 refine ⟨fun h0 => (by rw [hr] at h0; cases h0), fun x hx => ?_⟩
 rw [hr] at hx
 simp only [List.mem_cons, List.not_mem_nil, or_false] at hx
 rcases hx with rfl | rfl | rfl | rfl
 ·exact mK ho1 hk1 ((h1.go w hw).go a ha)
 ·exact mK ho2 hk2 ((h2.go w hw).go a ha)
 ·exact mK ho3 hk3 ((h3.go w hw).go a ha)
 ·exact mK ho4 hk4 ((h4.go w hw).go a ha)⟩⟩
end
end Go.Fx
namespace Go.Proofs.YtmmmfphealhapaaGreat
open Go Go.Fx
abbrev zT3 : List Value := recs wN [none, none, none]
abbrev z18 : List Value := recs wN [none, none, none, none, none, none, none, none, none]
def wT : Option TZ → List Value
 | none => recs wN [none, none, none]
 | some p => kW p
instance wT.szd : Sized wT 6 := ⟨fun o => by cases o <;> rfl⟩
instance wT.ones : Ones wT := ⟨fun m u hu => by
 rcases m with _ | e
 ·exact wB (enc := wN) [none, none, none] u hu
 ·exact TZ.ones.one e u hu⟩
structure AllT (os : List (Option TZ)) (k : Nat) (X : List Nat) (w : World) : Prop where
 go : ∀ e : TZ, some e ∈ os → IsTZ e k X w
abbrev allT (os : List (Option TZ)) (k : Nat) : bA := AllT os k
instance (os : List (Option TZ)) (k : Nat) : Fx.Good (AllT os k) := ⟨fun X Y w w' h he hY => ⟨fun e hm => Fx.Good.go (φ := IsTZ _ _) X Y w w' (h.go e hm) he hY⟩⟩
theorem Hv.tNil {I : List bA} {n k : Nat} : Hv I (allT (List.replicate n none) k) := ⟨fun X w _ => ⟨fun e he => by cases (List.mem_replicate.1 he).2⟩⟩
theorem Hv.tSet {I : List bA} {os : List (Option TZ)} {g : TZ} {k : Nat} {i : Int} (h : allT os k ∈ I) (hg : aY g k ∈ I) : Hv I (allT (st os i (some g)) k) := ⟨fun X w hw => ⟨fun e he => by
 rcases List.mem_or_eq_of_mem_set he with h1 | h1
 ·exact (hw _ h : AllT os k X w).go e h1
 ·cases h1
  exact hw _ hg⟩⟩
theorem Hv.tAt {I : List bA} {os : List (Option TZ)} {g : TZ} {k : Nat} {i : Int} (h : allT os k ∈ I) (hi : 0 ≤ i ∧ i < os.length) (he : gt os i = some g) : Hv I (aY g k) := ⟨fun X w hw => (hw _ h : AllT os k X w).go g (by rw [← he]; exact jO hi)⟩
abbrev tt : Bool := true
abbrev ff : Bool := false
abbrev nX (d b : Nat) : Nat × Value := (d, .pointer (some ⟨b, 0, none⟩))
abbrev tQ (h : HZ) (b2 : Nat) : Env := [(10, sN h), (8, sN h), (6, sN h), (2, .pointer (some ⟨b2, 0, none⟩))]
abbrev nW (b : Nat) : Ent := .blk b zT3 100
abbrev tY (b2 : Nat) (M0 : List Ent) : List Ent := .blk b2 z18 44 :: M0
abbrev tV (b1 : Nat) (h : HZ) (u : Nat) (I0 : List bA) : List bA := aX (some ⟨b1, 0, none⟩) (nQ h) :: eX h u :: I0
section
variable {X : List Nat} {w0 : World} {M0 : List Ent} {I0 : List bA}
theorem aLS {h : HZ} {u i : Nat} (hi : i < 3) (hh : eX h u ∈ I0) : CD Tryz.prog 115 [sN h, .int .i64 (i : Int)] X w0 M0 I0 (fun v M I => M0 = M ∧ v = dE (gt [h.tr.x, h.tr.y, h.tr.z] (i : Int)) ∧ I = aY (gt [h.tr.x, h.tr.y, h.tr.z] (i : Int)) u :: I0) := by
 obtain rfl | rfl | rfl : i = 0 ∨ i = 1 ∨ i = 2 := by omega
 ·exact aCU hh
 ·exact aDM hh
 ·exact aCP hh
theorem aNC {h : HZ} {u : Nat} (hu : u ≤ 100000000000) (hh : eX h u ∈ I0) : CD Tryz.prog 53 [sN h] X w0 M0 I0 (HQ h.m.cof (u + u + 1) M0 I0) := by
 have h0 := fun M0 I0 h1 => uX (X := X) (w0 := w0) (M0 := M0) (I0 := I0) (h := h) (u := u) h1
 have h1 := fun M0 I0 h1 => vK (X := X) (w0 := w0) (M0 := M0) (I0 := I0) (h := h) (u := u) h1
 have h2 := fun M0 I0 h1 => vE (X := X) (w0 := w0) (M0 := M0) (I0 := I0) (h := h) (u := u) h1
 have hC := fun (p q : TZ) M0 I0 h1 h2 => aBF (X := X) (w0 := w0) (M0 := M0) (I0 := I0) (p := p) (q := q) (u := u) hu h1 h2
 have hR := fun (p q r : TZ) M0 I0 h1 h2 h3 => wC (X := X) (w0 := w0) (M0 := M0) (I0 := I0) (p := p) (q := q) (r := r) (u := u + u + 1) h1 h2 h3
 refine bX (φ := eX h u) (Hv.mem hh) ?_
 refine bV Tryz.func53 rfl Tryz.ntmps53 rfl ?_
 refine aH ?_
 refine aI ?_
 (refine aK rfl rfl rfl ?_; intro b1; refine ⟨okF, ?_⟩)
 refine aO (cs := nQ h) .here ?_
 (refine aC rfl rfl ?_; intro b2; refine ⟨okF, ?_⟩)
 repeat (refine aJ ?_)
 refine nC (fun G M I => ∃ b3 b4 b5 : Nat, G = [(2, .pointer (some ⟨b2, 0, none⟩)), (3, .pointer (some ⟨b3, 0, none⟩)), (4, .pointer (some ⟨b4, 0, none⟩)), (5, .pointer (some ⟨b5, 0, none⟩))] ∧ M = .blk b5 (kW h.z) 100 :: .blk b4 (kW h.y) 100 :: .blk b3 (kW h.x) 100 :: .blk b2 z18 44 :: M0 ∧ I = aY h.z u :: aY h.y u :: aY h.x u :: I0) ?_ ?_
 ·(repeat refine aH ?_)
  refine aEF (M0) (aX (some ⟨b1, 0, none⟩) (nQ h) :: eX h u :: I0) mixed (fun R hR => ?_)
  have n3345 : ∀ b3 b4 b5 : Nat, ND 22 (R 3 6 #[tt, tt, tt, tt, tt, tt, tt, tt, tt, ff, ff, ff]) .normal ((11, dE h.z) :: (9, dE h.y) :: (7, dE h.x) :: nX 3 b3 :: nX 4 b4 :: nX 5 b5 :: tQ h b2) X w0 (nW b3 :: nW b4 :: nW b5 :: tY b2 M0) (aY h.z u :: aY h.y u :: aY h.x u :: tV b1 h u I0) := by
   intro b3 b4 b5
   rw [hR]
   refine aR [9, 10, 11] [0, 0, 0] aG aF (by kernel_rfl) (by kernel_rfl) rfl rfl ?_
   repeat (refine aJ ?_)
   refine bN _ _ _ aS aG aF ⟨b3, b4, b5, rfl, rfl, rfl⟩
  have n2345 : ∀ b3 b4 b5 : Nat, ND 22 (R 4 5 #[tt, tt, tt, tt, tt, ff, tt, tt, tt, ff, ff, ff]) .normal ((9, dE h.y) :: (7, dE h.x) :: nX 3 b3 :: nX 4 b4 :: nX 5 b5 :: tQ h b2) X w0 (nW b3 :: nW b4 :: nW b5 :: tY b2 M0) (aY h.y u :: aY h.x u :: tV b1 h u I0) := by
   intro b3 b4 b5
   rw [hR]
   exact eU (fuel := 3) (listed' := #[tt, tt, tt, tt, tt, tt, tt, tt, tt, ff, ff, ff]) [5] [0] aG aF (by kernel_rfl) (by kernel_rfl) rfl rfl (aA rfl (h2 _ _ aB) rfl rfl (by rintro _ _ _ ⟨rfl, rfl, rfl⟩; exact ⟨okF, bF hR (n3345 b3 b4 b5)⟩))
  have n334 : ∀ b3 b4 : Nat, ND 22 (R 4 5 #[tt, tt, tt, tt, tt, tt, tt, tt, ff, ff, ff, ff]) .normal ((11, dE h.z) :: (9, dE h.y) :: (7, dE h.x) :: nX 3 b3 :: nX 4 b4 :: tQ h b2) X w0 (nW b3 :: nW b4 :: tY b2 M0) (aY h.z u :: aY h.y u :: aY h.x u :: tV b1 h u I0) := by
   intro b3 b4
   rw [hR]
   exact eU (fuel := 3) (listed' := #[tt, tt, tt, tt, tt, tt, tt, tt, tt, ff, ff, ff]) [8] [0] aG aF (by kernel_rfl) (by kernel_rfl) rfl rfl (aC (d := 5) rfl rfl (fun b5 => ⟨okF, bF hR (n3345 b3 b4 b5)⟩))
  have n335 : ∀ b3 b5 : Nat, ND 22 (R 4 5 #[tt, tt, tt, tt, tt, tt, tt, ff, tt, ff, ff, ff]) .normal ((11, dE h.z) :: (9, dE h.y) :: (7, dE h.x) :: nX 3 b3 :: nX 5 b5 :: tQ h b2) X w0 (nW b3 :: nW b5 :: tY b2 M0) (aY h.z u :: aY h.y u :: aY h.x u :: tV b1 h u I0) := by
   intro b3 b5
   rw [hR]
   exact eU (fuel := 3) (listed' := #[tt, tt, tt, tt, tt, tt, tt, tt, tt, ff, ff, ff]) [7] [0] aG aF (by kernel_rfl) (by kernel_rfl) rfl rfl (aC (d := 4) rfl rfl (fun b4 => ⟨okF, bF hR (n3345 b3 b4 b5)⟩))
  have n345 : ∀ b4 b5 : Nat, ND 22 (R 4 5 #[tt, tt, tt, tt, tt, tt, ff, tt, tt, ff, ff, ff]) .normal ((11, dE h.z) :: (9, dE h.y) :: (7, dE h.x) :: nX 4 b4 :: nX 5 b5 :: tQ h b2) X w0 (nW b4 :: nW b5 :: tY b2 M0) (aY h.z u :: aY h.y u :: aY h.x u :: tV b1 h u I0) := by
   intro b4 b5
   rw [hR]
   exact eU (fuel := 3) (listed' := #[tt, tt, tt, tt, tt, tt, tt, tt, tt, ff, ff, ff]) [6] [0] aG aF (by kernel_rfl) (by kernel_rfl) rfl rfl (aC (d := 3) rfl rfl (fun b3 => ⟨okF, bF hR (n3345 b3 b4 b5)⟩))
  have n1345 : ∀ b3 b4 b5 : Nat, ND 22 (R 5 4 #[tt, tt, tt, ff, tt, ff, tt, tt, tt, ff, ff, ff]) .normal ((7, dE h.x) :: nX 3 b3 :: nX 4 b4 :: nX 5 b5 :: tQ h b2) X w0 (nW b3 :: nW b4 :: nW b5 :: tY b2 M0) (aY h.x u :: tV b1 h u I0) := by
   intro b3 b4 b5
   rw [hR]
   exact eU (fuel := 4) (listed' := #[tt, tt, tt, tt, tt, ff, tt, tt, tt, ff, ff, ff]) [3] [0] aG aF (by kernel_rfl) (by kernel_rfl) rfl rfl (aA rfl (h1 _ _ aB) rfl rfl (by rintro _ _ _ ⟨rfl, rfl, rfl⟩; exact ⟨okF, bF hR (n2345 b3 b4 b5)⟩))
  have n234 : ∀ b3 b4 : Nat, ND 22 (R 5 4 #[tt, tt, tt, tt, tt, ff, tt, tt, ff, ff, ff, ff]) .normal ((9, dE h.y) :: (7, dE h.x) :: nX 3 b3 :: nX 4 b4 :: tQ h b2) X w0 (nW b3 :: nW b4 :: tY b2 M0) (aY h.y u :: aY h.x u :: tV b1 h u I0) := by
   intro b3 b4
   rw [hR]
   exact aM (i := 5) (j := 8) (by kernel_rfl) (aA rfl (h2 _ _ aB) rfl rfl (by rintro _ _ _ ⟨rfl, rfl, rfl⟩; exact ⟨okF, bF hR (n334 b3 b4)⟩)) (aC (d := 5) rfl rfl (fun b5 => ⟨okF, bF hR (n2345 b3 b4 b5)⟩))
  have n235 : ∀ b3 b5 : Nat, ND 22 (R 5 4 #[tt, tt, tt, tt, tt, ff, tt, ff, tt, ff, ff, ff]) .normal ((9, dE h.y) :: (7, dE h.x) :: nX 3 b3 :: nX 5 b5 :: tQ h b2) X w0 (nW b3 :: nW b5 :: tY b2 M0) (aY h.y u :: aY h.x u :: tV b1 h u I0) := by
   intro b3 b5
   rw [hR]
   exact aM (i := 5) (j := 7) (by kernel_rfl) (aA rfl (h2 _ _ aB) rfl rfl (by rintro _ _ _ ⟨rfl, rfl, rfl⟩; exact ⟨okF, bF hR (n335 b3 b5)⟩)) (aC (d := 4) rfl rfl (fun b4 => ⟨okF, bF hR (n2345 b3 b4 b5)⟩))
  have n245 : ∀ b4 b5 : Nat, ND 22 (R 5 4 #[tt, tt, tt, tt, tt, ff, ff, tt, tt, ff, ff, ff]) .normal ((9, dE h.y) :: (7, dE h.x) :: nX 4 b4 :: nX 5 b5 :: tQ h b2) X w0 (nW b4 :: nW b5 :: tY b2 M0) (aY h.y u :: aY h.x u :: tV b1 h u I0) := by
   intro b4 b5
   rw [hR]
   exact aM (i := 5) (j := 6) (by kernel_rfl) (aA rfl (h2 _ _ aB) rfl rfl (by rintro _ _ _ ⟨rfl, rfl, rfl⟩; exact ⟨okF, bF hR (n345 b4 b5)⟩)) (aC (d := 3) rfl rfl (fun b3 => ⟨okF, bF hR (n2345 b3 b4 b5)⟩))
  have n33 : ∀ b3 : Nat, ND 22 (R 5 4 #[tt, tt, tt, tt, tt, tt, tt, ff, ff, ff, ff, ff]) .normal ((11, dE h.z) :: (9, dE h.y) :: (7, dE h.x) :: nX 3 b3 :: tQ h b2) X w0 (nW b3 :: tY b2 M0) (aY h.z u :: aY h.y u :: aY h.x u :: tV b1 h u I0) := by
   intro b3
   rw [hR]
   exact aM (i := 7) (j := 8) (by kernel_rfl) (aC (d := 4) rfl rfl (fun b4 => ⟨okF, bF hR (n334 b3 b4)⟩)) (aC (d := 5) rfl rfl (fun b5 => ⟨okF, bF hR (n335 b3 b5)⟩))
  have n34 : ∀ b4 : Nat, ND 22 (R 5 4 #[tt, tt, tt, tt, tt, tt, ff, tt, ff, ff, ff, ff]) .normal ((11, dE h.z) :: (9, dE h.y) :: (7, dE h.x) :: nX 4 b4 :: tQ h b2) X w0 (nW b4 :: tY b2 M0) (aY h.z u :: aY h.y u :: aY h.x u :: tV b1 h u I0) := by
   intro b4
   rw [hR]
   exact aM (i := 6) (j := 8) (by kernel_rfl) (aC (d := 3) rfl rfl (fun b3 => ⟨okF, bF hR (n334 b3 b4)⟩)) (aC (d := 5) rfl rfl (fun b5 => ⟨okF, bF hR (n345 b4 b5)⟩))
  have n35 : ∀ b5 : Nat, ND 22 (R 5 4 #[tt, tt, tt, tt, tt, tt, ff, ff, tt, ff, ff, ff]) .normal ((11, dE h.z) :: (9, dE h.y) :: (7, dE h.x) :: nX 5 b5 :: tQ h b2) X w0 (nW b5 :: tY b2 M0) (aY h.z u :: aY h.y u :: aY h.x u :: tV b1 h u I0) := by
   intro b5
   rw [hR]
   exact aM (i := 6) (j := 7) (by kernel_rfl) (aC (d := 3) rfl rfl (fun b3 => ⟨okF, bF hR (n335 b3 b5)⟩)) (aC (d := 4) rfl rfl (fun b4 => ⟨okF, bF hR (n345 b4 b5)⟩))
  have n0345 : ∀ b3 b4 b5 : Nat, ND 22 (R 6 3 #[tt, ff, tt, ff, tt, ff, tt, tt, tt, ff, ff, ff]) .normal (nX 3 b3 :: nX 4 b4 :: nX 5 b5 :: tQ h b2) X w0 (nW b3 :: nW b4 :: nW b5 :: tY b2 M0) (tV b1 h u I0) := by
   intro b3 b4 b5
   rw [hR]
   exact eU (fuel := 5) (listed' := #[tt, tt, tt, ff, tt, ff, tt, tt, tt, ff, ff, ff]) [1] [0] aG aF (by kernel_rfl) (by kernel_rfl) rfl rfl (aA rfl (h0 _ _ aB) rfl rfl (by rintro _ _ _ ⟨rfl, rfl, rfl⟩; exact ⟨okF, bF hR (n1345 b3 b4 b5)⟩))
  have n134 : ∀ b3 b4 : Nat, ND 22 (R 6 3 #[tt, tt, tt, ff, tt, ff, tt, tt, ff, ff, ff, ff]) .normal ((7, dE h.x) :: nX 3 b3 :: nX 4 b4 :: tQ h b2) X w0 (nW b3 :: nW b4 :: tY b2 M0) (aY h.x u :: tV b1 h u I0) := by
   intro b3 b4
   rw [hR]
   exact aM (i := 3) (j := 8) (by kernel_rfl) (aA rfl (h1 _ _ aB) rfl rfl (by rintro _ _ _ ⟨rfl, rfl, rfl⟩; exact ⟨okF, bF hR (n234 b3 b4)⟩)) (aC (d := 5) rfl rfl (fun b5 => ⟨okF, bF hR (n1345 b3 b4 b5)⟩))
  have n135 : ∀ b3 b5 : Nat, ND 22 (R 6 3 #[tt, tt, tt, ff, tt, ff, tt, ff, tt, ff, ff, ff]) .normal ((7, dE h.x) :: nX 3 b3 :: nX 5 b5 :: tQ h b2) X w0 (nW b3 :: nW b5 :: tY b2 M0) (aY h.x u :: tV b1 h u I0) := by
   intro b3 b5
   rw [hR]
   exact aM (i := 3) (j := 7) (by kernel_rfl) (aA rfl (h1 _ _ aB) rfl rfl (by rintro _ _ _ ⟨rfl, rfl, rfl⟩; exact ⟨okF, bF hR (n235 b3 b5)⟩)) (aC (d := 4) rfl rfl (fun b4 => ⟨okF, bF hR (n1345 b3 b4 b5)⟩))
  have n145 : ∀ b4 b5 : Nat, ND 22 (R 6 3 #[tt, tt, tt, ff, tt, ff, ff, tt, tt, ff, ff, ff]) .normal ((7, dE h.x) :: nX 4 b4 :: nX 5 b5 :: tQ h b2) X w0 (nW b4 :: nW b5 :: tY b2 M0) (aY h.x u :: tV b1 h u I0) := by
   intro b4 b5
   rw [hR]
   exact aM (i := 3) (j := 6) (by kernel_rfl) (aA rfl (h1 _ _ aB) rfl rfl (by rintro _ _ _ ⟨rfl, rfl, rfl⟩; exact ⟨okF, bF hR (n245 b4 b5)⟩)) (aC (d := 3) rfl rfl (fun b3 => ⟨okF, bF hR (n1345 b3 b4 b5)⟩))
  have n23 : ∀ b3 : Nat, ND 22 (R 6 3 #[tt, tt, tt, tt, tt, ff, tt, ff, ff, ff, ff, ff]) .normal ((9, dE h.y) :: (7, dE h.x) :: nX 3 b3 :: tQ h b2) X w0 (nW b3 :: tY b2 M0) (aY h.y u :: aY h.x u :: tV b1 h u I0) := by
   intro b3
   rw [hR]
   exact fB (i := 5) (j := 7) (m := 8) (by kernel_rfl) (aA rfl (h2 _ _ aB) rfl rfl (by rintro _ _ _ ⟨rfl, rfl, rfl⟩; exact ⟨okF, bF hR (n33 b3)⟩)) (aC (d := 4) rfl rfl (fun b4 => ⟨okF, bF hR (n234 b3 b4)⟩)) (aC (d := 5) rfl rfl (fun b5 => ⟨okF, bF hR (n235 b3 b5)⟩))
  have n24 : ∀ b4 : Nat, ND 22 (R 6 3 #[tt, tt, tt, tt, tt, ff, ff, tt, ff, ff, ff, ff]) .normal ((9, dE h.y) :: (7, dE h.x) :: nX 4 b4 :: tQ h b2) X w0 (nW b4 :: tY b2 M0) (aY h.y u :: aY h.x u :: tV b1 h u I0) := by
   intro b4
   rw [hR]
   exact fB (i := 5) (j := 6) (m := 8) (by kernel_rfl) (aA rfl (h2 _ _ aB) rfl rfl (by rintro _ _ _ ⟨rfl, rfl, rfl⟩; exact ⟨okF, bF hR (n34 b4)⟩)) (aC (d := 3) rfl rfl (fun b3 => ⟨okF, bF hR (n234 b3 b4)⟩)) (aC (d := 5) rfl rfl (fun b5 => ⟨okF, bF hR (n245 b4 b5)⟩))
  have n25 : ∀ b5 : Nat, ND 22 (R 6 3 #[tt, tt, tt, tt, tt, ff, ff, ff, tt, ff, ff, ff]) .normal ((9, dE h.y) :: (7, dE h.x) :: nX 5 b5 :: tQ h b2) X w0 (nW b5 :: tY b2 M0) (aY h.y u :: aY h.x u :: tV b1 h u I0) := by
   intro b5
   rw [hR]
   exact fB (i := 5) (j := 6) (m := 7) (by kernel_rfl) (aA rfl (h2 _ _ aB) rfl rfl (by rintro _ _ _ ⟨rfl, rfl, rfl⟩; exact ⟨okF, bF hR (n35 b5)⟩)) (aC (d := 3) rfl rfl (fun b3 => ⟨okF, bF hR (n235 b3 b5)⟩)) (aC (d := 4) rfl rfl (fun b4 => ⟨okF, bF hR (n245 b4 b5)⟩))
  have n3 : ND 22 (R 6 3 #[tt, tt, tt, tt, tt, tt, ff, ff, ff, ff, ff, ff]) .normal ((11, dE h.z) :: (9, dE h.y) :: (7, dE h.x) :: tQ h b2) X w0 (tY b2 M0) (aY h.z u :: aY h.y u :: aY h.x u :: tV b1 h u I0) := by
   rw [hR]
   exact fB (i := 6) (j := 7) (m := 8) (by kernel_rfl) (aC (d := 3) rfl rfl (fun b3 => ⟨okF, bF hR (n33 b3)⟩)) (aC (d := 4) rfl rfl (fun b4 => ⟨okF, bF hR (n34 b4)⟩)) (aC (d := 5) rfl rfl (fun b5 => ⟨okF, bF hR (n35 b5)⟩))
  have n034 : ∀ b3 b4 : Nat, ND 22 (R 7 2 #[tt, ff, tt, ff, tt, ff, tt, tt, ff, ff, ff, ff]) .normal (nX 3 b3 :: nX 4 b4 :: tQ h b2) X w0 (nW b3 :: nW b4 :: tY b2 M0) (tV b1 h u I0) := by
   intro b3 b4
   rw [hR]
   exact aM (i := 1) (j := 8) (by kernel_rfl) (aA rfl (h0 _ _ aB) rfl rfl (by rintro _ _ _ ⟨rfl, rfl, rfl⟩; exact ⟨okF, bF hR (n134 b3 b4)⟩)) (aC (d := 5) rfl rfl (fun b5 => ⟨okF, bF hR (n0345 b3 b4 b5)⟩))
  have n035 : ∀ b3 b5 : Nat, ND 22 (R 7 2 #[tt, ff, tt, ff, tt, ff, tt, ff, tt, ff, ff, ff]) .normal (nX 3 b3 :: nX 5 b5 :: tQ h b2) X w0 (nW b3 :: nW b5 :: tY b2 M0) (tV b1 h u I0) := by
   intro b3 b5
   rw [hR]
   exact aM (i := 1) (j := 7) (by kernel_rfl) (aA rfl (h0 _ _ aB) rfl rfl (by rintro _ _ _ ⟨rfl, rfl, rfl⟩; exact ⟨okF, bF hR (n135 b3 b5)⟩)) (aC (d := 4) rfl rfl (fun b4 => ⟨okF, bF hR (n0345 b3 b4 b5)⟩))
  have n045 : ∀ b4 b5 : Nat, ND 22 (R 7 2 #[tt, ff, tt, ff, tt, ff, ff, tt, tt, ff, ff, ff]) .normal (nX 4 b4 :: nX 5 b5 :: tQ h b2) X w0 (nW b4 :: nW b5 :: tY b2 M0) (tV b1 h u I0) := by
   intro b4 b5
   rw [hR]
   exact aM (i := 1) (j := 6) (by kernel_rfl) (aA rfl (h0 _ _ aB) rfl rfl (by rintro _ _ _ ⟨rfl, rfl, rfl⟩; exact ⟨okF, bF hR (n145 b4 b5)⟩)) (aC (d := 3) rfl rfl (fun b3 => ⟨okF, bF hR (n0345 b3 b4 b5)⟩))
  have n13 : ∀ b3 : Nat, ND 22 (R 7 2 #[tt, tt, tt, ff, tt, ff, tt, ff, ff, ff, ff, ff]) .normal ((7, dE h.x) :: nX 3 b3 :: tQ h b2) X w0 (nW b3 :: tY b2 M0) (aY h.x u :: tV b1 h u I0) := by
   intro b3
   rw [hR]
   exact fB (i := 3) (j := 7) (m := 8) (by kernel_rfl) (aA rfl (h1 _ _ aB) rfl rfl (by rintro _ _ _ ⟨rfl, rfl, rfl⟩; exact ⟨okF, bF hR (n23 b3)⟩)) (aC (d := 4) rfl rfl (fun b4 => ⟨okF, bF hR (n134 b3 b4)⟩)) (aC (d := 5) rfl rfl (fun b5 => ⟨okF, bF hR (n135 b3 b5)⟩))
  have n14 : ∀ b4 : Nat, ND 22 (R 7 2 #[tt, tt, tt, ff, tt, ff, ff, tt, ff, ff, ff, ff]) .normal ((7, dE h.x) :: nX 4 b4 :: tQ h b2) X w0 (nW b4 :: tY b2 M0) (aY h.x u :: tV b1 h u I0) := by
   intro b4
   rw [hR]
   exact fB (i := 3) (j := 6) (m := 8) (by kernel_rfl) (aA rfl (h1 _ _ aB) rfl rfl (by rintro _ _ _ ⟨rfl, rfl, rfl⟩; exact ⟨okF, bF hR (n24 b4)⟩)) (aC (d := 3) rfl rfl (fun b3 => ⟨okF, bF hR (n134 b3 b4)⟩)) (aC (d := 5) rfl rfl (fun b5 => ⟨okF, bF hR (n145 b4 b5)⟩))
  have n15 : ∀ b5 : Nat, ND 22 (R 7 2 #[tt, tt, tt, ff, tt, ff, ff, ff, tt, ff, ff, ff]) .normal ((7, dE h.x) :: nX 5 b5 :: tQ h b2) X w0 (nW b5 :: tY b2 M0) (aY h.x u :: tV b1 h u I0) := by
   intro b5
   rw [hR]
   exact fB (i := 3) (j := 6) (m := 7) (by kernel_rfl) (aA rfl (h1 _ _ aB) rfl rfl (by rintro _ _ _ ⟨rfl, rfl, rfl⟩; exact ⟨okF, bF hR (n25 b5)⟩)) (aC (d := 3) rfl rfl (fun b3 => ⟨okF, bF hR (n135 b3 b5)⟩)) (aC (d := 4) rfl rfl (fun b4 => ⟨okF, bF hR (n145 b4 b5)⟩))
  have n2 : ND 22 (R 7 2 #[tt, tt, tt, tt, tt, ff, ff, ff, ff, ff, ff, ff]) .normal ((9, dE h.y) :: (7, dE h.x) :: tQ h b2) X w0 (tY b2 M0) (aY h.y u :: aY h.x u :: tV b1 h u I0) := by
   rw [hR]
   exact rC (i := 5) (j := 6) (m := 7) (o := 8) (by kernel_rfl) (aA rfl (h2 _ _ aB) rfl rfl (by rintro _ _ _ ⟨rfl, rfl, rfl⟩; exact ⟨okF, bF hR (n3)⟩)) (aC (d := 3) rfl rfl (fun b3 => ⟨okF, bF hR (n23 b3)⟩)) (aC (d := 4) rfl rfl (fun b4 => ⟨okF, bF hR (n24 b4)⟩)) (aC (d := 5) rfl rfl (fun b5 => ⟨okF, bF hR (n25 b5)⟩))
  have n03 : ∀ b3 : Nat, ND 22 (R 8 1 #[tt, ff, tt, ff, tt, ff, tt, ff, ff, ff, ff, ff]) .normal (nX 3 b3 :: tQ h b2) X w0 (nW b3 :: tY b2 M0) (tV b1 h u I0) := by
   intro b3
   rw [hR]
   exact fB (i := 1) (j := 7) (m := 8) (by kernel_rfl) (aA rfl (h0 _ _ aB) rfl rfl (by rintro _ _ _ ⟨rfl, rfl, rfl⟩; exact ⟨okF, bF hR (n13 b3)⟩)) (aC (d := 4) rfl rfl (fun b4 => ⟨okF, bF hR (n034 b3 b4)⟩)) (aC (d := 5) rfl rfl (fun b5 => ⟨okF, bF hR (n035 b3 b5)⟩))
  have n04 : ∀ b4 : Nat, ND 22 (R 8 1 #[tt, ff, tt, ff, tt, ff, ff, tt, ff, ff, ff, ff]) .normal (nX 4 b4 :: tQ h b2) X w0 (nW b4 :: tY b2 M0) (tV b1 h u I0) := by
   intro b4
   rw [hR]
   exact fB (i := 1) (j := 6) (m := 8) (by kernel_rfl) (aA rfl (h0 _ _ aB) rfl rfl (by rintro _ _ _ ⟨rfl, rfl, rfl⟩; exact ⟨okF, bF hR (n14 b4)⟩)) (aC (d := 3) rfl rfl (fun b3 => ⟨okF, bF hR (n034 b3 b4)⟩)) (aC (d := 5) rfl rfl (fun b5 => ⟨okF, bF hR (n045 b4 b5)⟩))
  have n05 : ∀ b5 : Nat, ND 22 (R 8 1 #[tt, ff, tt, ff, tt, ff, ff, ff, tt, ff, ff, ff]) .normal (nX 5 b5 :: tQ h b2) X w0 (nW b5 :: tY b2 M0) (tV b1 h u I0) := by
   intro b5
   rw [hR]
   exact fB (i := 1) (j := 6) (m := 7) (by kernel_rfl) (aA rfl (h0 _ _ aB) rfl rfl (by rintro _ _ _ ⟨rfl, rfl, rfl⟩; exact ⟨okF, bF hR (n15 b5)⟩)) (aC (d := 3) rfl rfl (fun b3 => ⟨okF, bF hR (n035 b3 b5)⟩)) (aC (d := 4) rfl rfl (fun b4 => ⟨okF, bF hR (n045 b4 b5)⟩))
  have n1 : ND 22 (R 8 1 #[tt, tt, tt, ff, tt, ff, ff, ff, ff, ff, ff, ff]) .normal ((7, dE h.x) :: tQ h b2) X w0 (tY b2 M0) (aY h.x u :: tV b1 h u I0) := by
   rw [hR]
   exact rC (i := 3) (j := 6) (m := 7) (o := 8) (by kernel_rfl) (aA rfl (h1 _ _ aB) rfl rfl (by rintro _ _ _ ⟨rfl, rfl, rfl⟩; exact ⟨okF, bF hR (n2)⟩)) (aC (d := 3) rfl rfl (fun b3 => ⟨okF, bF hR (n13 b3)⟩)) (aC (d := 4) rfl rfl (fun b4 => ⟨okF, bF hR (n14 b4)⟩)) (aC (d := 5) rfl rfl (fun b5 => ⟨okF, bF hR (n15 b5)⟩))
  have n0 : ND 22 (R 9 0 #[tt, ff, tt, ff, tt, ff, ff, ff, ff, ff, ff, ff]) .normal (tQ h b2) X w0 (tY b2 M0) (tV b1 h u I0) := by
   rw [hR]
   exact rC (i := 1) (j := 6) (m := 7) (o := 8) (by kernel_rfl) (aA rfl (h0 _ _ aB) rfl rfl (by rintro _ _ _ ⟨rfl, rfl, rfl⟩; exact ⟨okF, bF hR (n1)⟩)) (aC (d := 3) rfl rfl (fun b3 => ⟨okF, bF hR (n03 b3)⟩)) (aC (d := 4) rfl rfl (fun b4 => ⟨okF, bF hR (n04 b4)⟩)) (aC (d := 5) rfl rfl (fun b5 => ⟨okF, bF hR (n05 b5)⟩))
  show ND 22 (R 12 0 #[false, false, false, false, false, false, false, false, false, false, false, false]) .normal _ X w0 _ _
  rw [hR]
  refine eU (fuel := 9) (listed' := #[tt, ff, tt, ff, tt, ff, ff, ff, ff, ff, ff, ff]) [0, 2, 4] [5, 6, 7] aG aF (by kernel_rfl) (by kernel_rfl) rfl rfl ?_
  repeat (refine aJ ?_)
  rw [← hR]
  exact kF aS aG aF n0
 rintro G M I ⟨b3, b4, b5, rfl, rfl, rfl⟩
 (repeat refine aH ?_); refine bB (.blk b5 (kW h.z) 100 :: .blk b4 (kW h.y) 100 :: .blk b3 (kW h.x) 100 :: M0) (I0) [0, 1, 3, 4, 6, 7, 2, 5, 8, 9, 10] [3, 3, 3, 3, 3, 3, 0, 0, 0, 0, 0] aG aF mixed (by kernel_rfl) ?_
 repeat (refine aJ ?_)
 (refine aA rfl (hC h.y h.z _ _ aB aB) rfl rfl ?_; rintro _ _ _ ⟨rfl, c0, rfl, hc0, rfl⟩; refine ⟨okF, ?_⟩)
 (refine aA rfl (hC h.z h.x _ _ aB aB) rfl rfl ?_; rintro _ _ _ ⟨rfl, c1, rfl, hc1, rfl⟩; refine ⟨okF, ?_⟩)
 (refine aA rfl (hC h.x h.y _ _ aB aB) rfl rfl ?_; rintro _ _ _ ⟨rfl, c2, rfl, hc2, rfl⟩; refine ⟨okF, ?_⟩)
 (refine aA rfl (hR c0 c1 c2 _ _ aB aB aB) rfl rfl ?_; rintro _ _ _ ⟨rfl, rfl, rfl⟩; refine ⟨okF, ?_⟩)
 repeat (refine aJ ?_)
 refine bC (cs := nQ ⟨c0, c1, c2⟩) (.inl rfl) rfl rfl aB rfl M0 (eX ⟨c0, c1, c2⟩ (u + u + 1) :: I0) aG aF ⟨rfl, ⟨c0, c1, c2⟩, rfl, by show (⟨c0.t, c1.t, c2.t⟩ : M9 Int) = _; rw [hc0, hc1, hc2]; rfl, rfl⟩
theorem aKA {g h : HZ} {ku m : Nat} (hk : 63 ≤ ku + m) (hk2 : ku + m ≤ 100000000000) (hg : eX g ku ∈ I0) (hh : eX h m ∈ I0) : CD Tryz.prog 51 [sN g, sN h] X w0 M0 I0 (HQ (g.m.mul h.m) (ku + m + 3) M0 I0) := by
 have hTg := fun M0 I0 h1 => aBY (X := X) (w0 := w0) (M0 := M0) (I0 := I0) (h := g) (u := ku) h1
 have hTh := fun M0 I0 h1 => aBY (X := X) (w0 := w0) (M0 := M0) (I0 := I0) (h := h) (u := m) h1
 have hC := fun (i : Nat) (hi : i < 3) M0 I0 h1 => aLS (X := X) (w0 := w0) (M0 := M0) (I0 := I0) (h := g.tr) (u := ku) (i := i) hi h1
 have hTm := fun (p : TZ) M0 I0 h1 h2 => zV (X := X) (w0 := w0) (M0 := M0) (I0 := I0) (h := h.tr) (p := p) (k := m) (m := ku) (by omega) (by omega) h1 h2
 have e9 : m + ku + 3 = ku + m + 3 := by omega
 rw [e9] at hTm
 have hR := fun (p q r : TZ) M0 I0 h1 h2 h3 => wC (X := X) (w0 := w0) (M0 := M0) (I0 := I0) (p := p) (q := q) (r := r) (u := ku + m + 3) h1 h2 h3
 refine bX (φ := eX g ku) (Hv.mem hg) (bX (φ := eX h m) (Hv.mem (List.mem_cons_of_mem _ hh)) ?_)
 refine bI Tryz.func51 rfl Tryz.ntmps51 rfl ?_
 refine aH ?_
 refine aI ?_
 (refine aK rfl rfl rfl ?_; intro b2; refine ⟨okF, ?_⟩)
 refine aO (cs := nQ g) .here ?_
 (refine aK rfl rfl rfl ?_; intro b3; refine ⟨okF, ?_⟩)
 refine aO (cs := nQ h) .here ?_
 (refine aC rfl rfl ?_; intro b4; refine ⟨okF, ?_⟩)
 repeat (refine aJ ?_)
 (refine aA rfl (hTg _ _ aB) rfl rfl ?_; rintro _ _ _ ⟨rfl, rfl, rfl⟩; refine ⟨okF, ?_⟩)
 (refine aC rfl rfl ?_; intro b5; refine ⟨okF, ?_⟩)
 repeat (refine aJ ?_)
 (refine aC rfl rfl ?_; intro b6; refine ⟨okF, ?_⟩)
 repeat (refine aJ ?_)
 refine dV (φ := allT [none, none, none] (ku + m + 3)) (Hv.tNil (n := 3)) ?_
 refine bG [3, 4, 5, 6] rfl (fun k G M I => ∃ (i : Nat) (os : List (Option TZ)), i ≤ 3 ∧ k = 3 - i ∧ os.length = 3 ∧ (∀ j : Nat, j < i → ∃ e : TZ, gt os (j : Int) = some e ∧ e.t = h.tr.m.app (gt [g.x, g.y, g.z] (j : Int)).t) ∧ G = [(10, .int .i64 i)] ∧ M = .blk b6 (recs wT os) 164 :: .blk b5 (nQ g.tr) 44 :: .blk b4 z18 44 :: M0 ∧ I = allT os (ku + m + 3) :: eX g.tr ku :: aX (some ⟨b3, 0, none⟩) (nQ h) :: eX h m :: I0) (3) _ _ _ aS aG aF (⟨0, [none, none, none], by omega, rfl, rfl, fun j hj => absurd hj (by omega), rfl, rfl, rfl⟩) ?_
 rintro kk G M I ⟨i, os, hi, rfl, hol, ho, rfl, rfl, rfl⟩
 by_cases hii : i < 3
 ·repeat (refine aJ ?_)
  (repeat refine aH ?_); refine bB (.blk b5 (nQ g.tr) 44 :: M0) (aX (some ⟨b3, 0, none⟩) (nQ h) :: I0) [0, 1, 3, 4, 2, 5, 6, 7, 8] [3, 2, 2, 2, 0, 0, 0, 0, 0] aG aF mixed (by kernel_rfl) ?_
  repeat (refine aJ ?_)
  (refine aA rfl (hTh _ _ aB) rfl rfl ?_; rintro _ _ _ ⟨rfl, rfl, rfl⟩; refine ⟨okF, ?_⟩)
  (refine aA rfl (hC i hii _ _ aB) rfl rfl ?_; rintro _ _ _ ⟨rfl, rfl, rfl⟩; refine ⟨okF, ?_⟩)
  (refine aA rfl (hTm (gt [g.tr.tr.x, g.tr.tr.y, g.tr.tr.z] (i : Int)) _ _ aB aB) rfl rfl ?_; rintro _ _ _ ⟨rfl, p, rfl, hp, rfl⟩; refine ⟨okF, ?_⟩)
  repeat (refine yXh ?_)
  refine gF (vs := kW p) rfl rfl rfl (Ones.one p) lN (StAts.o0 (enc := wT) (sz := 6) (ms := os) (i := (i : Int)) (some p) ⟨by omega, by omega⟩ rfl) rfl rfl ⟨okF, ?_⟩
  repeat (refine aJ ?_)
  refine rO (φ := allT (st os (i : Int) (some p)) (ku + m + 3)) (Hv.tSet aB aB) ?_
  refine aQ (3 - (i + 1)) _ _ _ (by first | omega | (simp only [List.length_append, List.length_cons, List.length_nil]; omega)) aS aG aF (⟨i + 1, st os (i : Int) (some p), by omega, rfl, by rw [nT]; exact hol, fun t ht => by
   rw [pK (by omega) (by omega)]
   by_cases e : t = i
   ·subst e
    rw [if_pos rfl]
    exact ⟨p, rfl, hp⟩
   ·rw [if_neg e]
    exact ho t (by omega), rfl, rfl, rfl⟩)
 ·obtain rfl : i = 3 := by omega
  obtain ⟨a, ha, hza⟩ := ho 0 (by omega)
  obtain ⟨b, hb, hzb⟩ := ho 1 (by omega)
  obtain ⟨c, hc, hzc⟩ := ho 2 (by omega)
  refine dV (φ := aY a (ku + m + 3)) (Hv.tAt (os := os) (i := ((0 : Nat) : Int)) aB ⟨by omega, by omega⟩ ha) ?_
  refine dV (φ := aY b (ku + m + 3)) (Hv.tAt (os := os) (i := ((1 : Nat) : Int)) aB ⟨by omega, by omega⟩ hb) ?_
  refine dV (φ := aY c (ku + m + 3)) (Hv.tAt (os := os) (i := ((2 : Nat) : Int)) aB ⟨by omega, by omega⟩ hc) ?_
  have e3 : recs wT os = recs kW [a, b, c] := by rw [os3 hol, show gt os 0 = some a from ha, show gt os 1 = some b from hb, show gt os 2 = some c from hc]; rfl
  rw [e3]
  repeat (refine aJ ?_)
  (apply iR; exact fV; exact rfl; exact aB; exact AtsZ.o0 (enc := kW) (sz := 6) (ms := [a, b, c]) (i := 0) ⟨by decide, by simp⟩; exact rfl; exact rfl)
  repeat (refine aJ ?_)
  (apply iR; exact fV; exact rfl; exact aB; exact AtsZ.o0 (enc := kW) (sz := 6) (ms := [a, b, c]) (i := 1) ⟨by decide, by simp⟩; exact rfl; exact rfl)
  repeat (refine aJ ?_)
  (apply iR; exact fV; exact rfl; exact aB; exact AtsZ.o0 (enc := kW) (sz := 6) (ms := [a, b, c]) (i := 2) ⟨by decide, by simp⟩; exact rfl; exact rfl)
  repeat (refine aJ ?_)
  (refine aA rfl (hR a b c _ _ aB aB aB) rfl rfl ?_; rintro _ _ _ ⟨rfl, rfl, rfl⟩; refine ⟨okF, ?_⟩)
  repeat (refine aJ ?_)
  refine bC (cs := nQ ⟨a, b, c⟩) (.inl rfl) rfl rfl aB rfl M0 (eX ⟨a, b, c⟩ (ku + m + 3) :: I0) aG aF ⟨rfl, ⟨a, b, c⟩, rfl, by show (⟨a.t, b.t, c.t⟩ : M9 Int) = _; rw [hza, hzb, hzc]; rfl, rfl⟩
end
end Go.Proofs.YtmmmfphealhapaaGreat

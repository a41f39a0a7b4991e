/- matrix: unit, quotient, subtract Drawn regions whose order forks more than once: what is left of a region as an end. Matrices: elimination as a function on lists; one or two rows brought to the front. -/
import Derived.Test.YtjbhdfpjnjedhaaGreatZqaq
import Derived.Test.YtjbhdfpjnjedhaaGreatZqao
set_option linter.unusedSimpArgs false
set_option linter.unusedVariables false
set_option maxRecDepth 100000
set_option maxHeartbeats 4000000
namespace Go.Proofs.YtjbhdfpjnjedhaaGreat
open Go Go.Fx
theorem qZ (q : Rat) : q.num.sign = 0 ↔ q = 0 := ⟨fun h => Rat.num_eq_zero.1 (Int.sign_eq_zero_iff_zero.1 h), fun h => by rw [h]; rfl⟩
theorem Hv.stR {I : List aT} {es : List RE} {e : RE} {i : Int} {k : Nat} (h1 : dL es k ∈ I) (h2 : gQ e k ∈ I) : Hv I (dL (st es i e) k) := ⟨fun X w hw => ⟨fun x hx => by
 rcases List.mem_or_eq_of_mem_set hx with hx | hx
 ·exact (hw _ h1 : AllR es k X w).go x hx
 ·rw [hx]; exact hw _ h2⟩⟩
theorem aEQ {es : List RE} {e : RE} {i t : Nat} (hi : i < es.length) : gt (st es (i : Int) e) (t : Int) = if t = i then e else gt es (t : Int) := by
 rw [aOV e ⟨by omega, by omega⟩ (by omega)]
 by_cases h : t = i
 ·rw [if_pos h, if_pos (by omega)]
 ·rw [if_neg h, if_neg (by omega)]
section
variable {X : List Nat} {w0 : World} {M0 : List Ent} {I0 : List aT}
theorem aVT {i j : Int} : CD Tryz.prog 176 [.int .i64 i, .int .i64 j] X w0 M0 I0 (RQ (if i = j then 1 else 0) 0 M0 I0) := by
 have h1 := fun M0 I0 => sQ (X := X) (w0 := w0) (M0 := M0) (I0 := I0) (x := 1) (by decide) (k := 0) (by decide)
 have h0 := fun M0 I0 => sQ (X := X) (w0 := w0) (M0 := M0) (I0 := I0) (x := 0) (by decide) (k := 0) (by decide)
 refine bL Tryz.func176 rfl Tryz.ntmps176 rfl ?_
 refine aH ?_
 refine aI ?_
 (refine aF rfl rfl ?_; intro b2; refine ⟨okF, ?_⟩)
 by_cases h : i = j
 ·rw [if_pos h]
  repeat (refine eU ?_)
  (refine aA rfl (h1 _ _) rfl rfl ?_; rintro _ _ _ ⟨rfl, e, rfl, he, rfl⟩; refine ⟨okF, ?_⟩)
  repeat (refine eU ?_)
  refine bJ (cs := eR e) (.inl rfl) rfl rfl aB rfl M0 (gQ e 0 :: I0) aG aD ⟨rfl, e, rfl, he, rfl⟩
 ·rw [if_neg h]
  repeat (refine eU ?_)
  (refine aA rfl (h0 _ _) rfl rfl ?_; rintro _ _ _ ⟨rfl, e, rfl, he, rfl⟩; refine ⟨okF, ?_⟩)
  repeat (refine eU ?_)
  refine bJ (cs := eR e) (.inl rfl) rfl rfl aB rfl M0 (gQ e 0 :: I0) aG aD ⟨rfl, e, rfl, he, rfl⟩
theorem yN {a b : RE} {k m : Nat} (hk : k + m ≤ 500000000000) (hb0 : b.q ≠ 0) (ha : Hv I0 (gQ a k)) (hb : Hv I0 (gQ b m)) :
  CD Tryz.prog 165 [rv a, rv b] X w0 M0 I0 (RQ (a.q / b.q) (k + m) M0 I0) := by
 refine bL Tryz.func165 rfl Tryz.ntmps165 rfl ?_
 refine aH ?_
 refine aI ?_
 (refine aV rfl rfl rfl ?_; intro b1; refine ⟨okF, ?_⟩)
 (refine aV rfl rfl rfl ?_; intro b2; refine ⟨okF, ?_⟩)
 (refine aF rfl rfl ?_; intro b3; refine ⟨okF, ?_⟩)
 repeat (refine eU ?_)
 (refine aA rfl (aAV hk hb0 ha hb) rfl rfl ?_; rintro _ _ _ ⟨rfl, e, rfl, he, rfl⟩; refine ⟨okF, ?_⟩)
 repeat (refine eU ?_)
 (refine aF rfl rfl ?_; intro b4; refine ⟨okF, ?_⟩)
 repeat (refine eU ?_)
 refine bJ (cs := eR e) (.inl rfl) rfl rfl aB rfl M0 (gQ e (k + m) :: I0) aG aD ⟨rfl, e, rfl, he, rfl⟩
theorem yP {b1 b2 : Nat} {es os : List RE} {κ : RE} {kz h m fr n : Nat} {M1 : List Ent} (hn : n ≤ 1000) (hK : kz + (m + h) + 1 ≤ 400000000000) (hes : es.length = n) (hos : os.length = n) (hfr : fr ≤ n)
  (he : dL es kz ∈ I0) (ho : dL os h ∈ I0) (hκ : gQ κ m ∈ I0) (hM : M0 = .blk b1 (recs eR es) 50 :: .blk b2 (recs eR os) 50 :: M1) :
  CD Tryz.prog 164 [.slice (some ⟨b1, 0, none⟩) n n, .slice (some ⟨b2, 0, none⟩) n n, rv κ, .int .i64 (fr : Int)] X w0 M0 I0 (fun v M I => v = .tuple #[] ∧ ∃ es' : List RE, es'.length = n ∧ (∀ t : Nat, t < n → (gt es' (t : Int)).q = if t < fr then (gt es (t : Int)).q else (gt es (t : Int)).q - κ.q * (gt os (t : Int)).q) ∧ M = .blk b1 (recs eR es') 50 :: .blk b2 (recs eR os) 50 :: M1 ∧ I = dL es' (kz + (m + h) + 1) :: I0) := by
 subst hM
 refine wQ Tryz.func164 rfl Tryz.ntmps164 rfl ?_
 refine aH ?_
 refine aI ?_
 (refine aV rfl rfl rfl ?_; intro bk; refine ⟨okF, ?_⟩)
 repeat (refine eU ?_)
 refine dV (φ := dL es (kz + (m + h) + 1)) (Hv.allMono he (by omega)) ?_
 refine aZ [0, 1, 6] rfl (fun k G M I => ∃ (j : Nat) (e1 : List RE), fr ≤ j ∧ j ≤ n ∧ k = n - j ∧ e1.length = n ∧ (∀ t : Nat, j ≤ t → gt e1 (t : Int) = gt es (t : Int)) ∧ (∀ t : Nat, t < j → (gt e1 (t : Int)).q = if t < fr then (gt es (t : Int)).q else (gt es (t : Int)).q - κ.q * (gt os (t : Int)).q) ∧ G = [(8, .int .i64 j)] ∧ M = .blk bk (eR κ) 50 :: .blk b1 (recs eR e1) 50 :: .blk b2 (recs eR os) 50 :: M1 ∧ I = dL e1 (kz + (m + h) + 1) :: I0) (n - fr) _ _ _ aL aG aD (⟨fr, es, by omega, hfr, rfl, hes, fun _ _ => rfl, fun t ht => by rw [if_pos ht], rfl, rfl, rfl⟩) ?_
 rintro kk G M I ⟨j, e1, hj1, hj, rfl, hel, hkeep, hdone, rfl, rfl, rfl⟩
 by_cases hjn : j < n
 ·have hgj : gt e1 (j : Int) = gt es (j : Int) := hkeep j (Nat.le_refl _)
  have hvj : Hv (dL e1 (kz + (m + h) + 1) :: I0) (gQ (gt os (j : Int)) h) := (Hv.all (i := (j : Int)) ho (by omega) (Nat.le_refl _)).cons
  have hve : Hv (dL e1 (kz + (m + h) + 1) :: I0) (gQ (gt e1 (j : Int)) kz) := by rw [hgj]; exact (Hv.all (i := (j : Int)) he (by omega) (Nat.le_refl _)).cons
  have hvk : Hv (dL e1 (kz + (m + h) + 1) :: I0) (gQ κ m) := (Hv.mem hκ).cons
  have hS := mV (X := X) (w0 := w0) (M0 := .blk bk (eR κ) 50 :: .blk b1 (recs eR e1) 50 :: .blk b2 (recs eR os) 50 :: M1) (e := gt os (j : Int)) (k := h) (by omega) hvj
  by_cases h0 : (gt os (j : Int)).q = 0
  ·rw [(qZ _).2 h0] at hS
   repeat (refine eU ?_)
   (refine aA rfl (hS) rfl rfl ?_; rintro _ _ _ ⟨rfl, rfl, rfl⟩; refine ⟨okF, ?_⟩)
   repeat (refine eU ?_)
   refine aK (n - (j + 1)) _ _ _ (by first | omega | (simp only [List.length_append, List.length_cons, List.length_nil]; omega)) aL aG aD (⟨j + 1, e1, by omega, by omega, rfl, hel, fun t ht => hkeep t (by omega), fun t ht => ?_, rfl, rfl, rfl⟩)
   by_cases htj : t = j
   ·subst htj
    rw [if_neg (by omega), hgj, h0, Rat.mul_zero, Rat.sub_eq_add_neg, Rat.neg_zero, Rat.add_zero]
   ·exact hdone t (by omega)
  ·have hs0 : ¬ (gt os (j : Int)).q.num.sign = 0 := fun h => h0 ((qZ _).1 h)
   generalize (gt os (j : Int)).q.num.sign = sg at *
   repeat (refine eU ?_)
   (refine aA rfl (hS) rfl rfl ?_; rintro _ _ _ ⟨rfl, rfl, rfl⟩; refine ⟨okF, ?_⟩)
   repeat (refine eU ?_)
   (repeat refine aH ?_); refine cZ 2 [0, 1, 2, 3, 4, 5, 6, 7, 8, 9, 10, 11, 12, 13, 14] [2, 2, 2, 2, 2, 1, 1, 2, 2, 2, 1, 0, 0, 0, 0] mixed (by kernel_rfl) ?_
   repeat (refine eU ?_)
   (refine aA rfl (qX (k := m) (m := h) (by omega) hvk hvj) rfl rfl ?_; rintro _ _ _ ⟨rfl, e2, rfl, he2, rfl⟩; refine ⟨okF, ?_⟩)
   (refine aA rfl (aLM (k := kz) (m := m + h) (by omega) hve.cons (Hv.mem (List.Mem.head _))) rfl rfl ?_; rintro _ _ _ ⟨rfl, e3, rfl, he3, rfl⟩; refine ⟨okF, ?_⟩)
   repeat (refine yXf ?_)
   refine fD (vs := eR e3) rfl rfl rfl (Ones.one e3) kH (StAts.r e3 (by omega) rfl) rfl rfl ⟨okF, ?_⟩
   repeat (refine eU ?_)
   refine iI (φ := dL (st e1 (j : Int) e3) (kz + (m + h) + 1)) (Hv.stR aB aB) ?_
   refine aK (n - (j + 1)) _ _ _ (by first | omega | (simp only [List.length_append, List.length_cons, List.length_nil]; omega)) aL aG aD (⟨j + 1, st e1 (j : Int) e3, by omega, by omega, rfl, by rw [fF]; exact hel, fun t ht => ?_, fun t ht => ?_, rfl, rfl, rfl⟩)
   ·rw [aEQ (by omega), if_neg (by omega)]; exact hkeep t (by omega)
   ·rw [aEQ (by omega)]
    by_cases htj : t = j
    ·subst htj
     rw [if_pos rfl, if_neg (by omega), he3, he2, hgj]
    ·rw [if_neg htj]; exact hdone t (by omega)
 ·obtain rfl : j = n := by omega
  repeat (refine eU ?_)
  refine nA (by first | exact .inl rfl | exact .inr rfl) rfl _ _ aG aD (⟨rfl, e1, hel, hdone, rfl, rfl⟩)
end
end Go.Proofs.YtjbhdfpjnjedhaaGreat
namespace Go.Fx
def Rest (P : Program) (l : List Oper) (Q : Exit → Act → World → Prop) (Cs : Nat → World → Prop) (fuel k : Nat) (listed : Array Bool) : Exit → Act → World → Prop
 | .normal, a, w => qL P l.toArray Q Cs fuel k listed a w
 | _, _, _ => False
section
variable {P : Program} {n : Nat} {Q : Exit → Act → World → Prop} {G : Env} {w : World} {l : List Oper} {Cs : Nat → World → Prop}
theorem aOB {fuel fuel' k : Nat} {listed listed' : Array Bool} (p ms : List Nat) (hm : ∀ s w, Cs s w → Cs (s + 1) w) (hs : Region.noSelect l.toArray = true) (hok : qO l.toArray p ms listed = some listed') (hf : fuel' = fuel + p.length) (hsz : listed.size = l.toArray.size) (hC : Cs k w)
  (h : R P n l (Rest P l Q Cs fuel (k + aAU l.toArray p) listed') (.any Cs k ms) (pick l p) G w) : N n (Rest P l Q Cs fuel' k listed) .normal G w := ⟨fun a ha => by
 subst hf
 exact qD hm hs p ms k listed a w hC hsz hok (fun _ _ _ _ hq => hq) (h.go a ha)⟩
theorem aOD {fuel k : Nat} {listed : Array Bool} (p ms : List Nat) (hm : ∀ s w, Cs s w → Cs (s + 1) w) (hs : Region.noSelect l.toArray = true) (hok : iW l.toArray p ms listed = true) (hf : fuel = p.length) (hsz : listed.size = l.toArray.size) (hC : Cs k w)
  (h : R P n l Q (.any Cs k ms) (pick l p) G w) : N n (Rest P l Q Cs fuel k listed) .normal G w := ⟨fun a ha => by
 subst hf
 exact jS hm hs p ms k listed a w hC hsz hok (h.go a ha)⟩
theorem nN {fuel k i : Nat} {listed : Array Bool} {o : Oper} {a : Act} (hi : l.toArray[i]? = some o) (hk : iN o.op = false)
  (h : wpM P l.toArray (Rest P l Q Cs fuel (k + 1) (listed.setIfInBounds i true)) (.any Cs k []) (pick l [i]) a w) :
  wpOp P l.toArray QF i (fun a' w' => Cs (k + eAt l.toArray i) w' ∧ qL P l.toArray Q Cs fuel (k + eAt l.toArray i) (listed.setIfInBounds i true) a' w') a w := by
 have hg : nth l i = o := aFR l i o (by simpa using hi)
 simp only [pick, hg] at h
 rw [vX hi hk]
 unfold wpOp
 simp only [hi]
 by_cases hw : Region.wanted o (yielded l.toArray a.tmps) = true
 ·rw [if_pos hw]
  rcases h.1 hw with ⟨hk2, _⟩ | ⟨_, hk2⟩
  ·rw [hk] at hk2; cases hk2
  ·exact .inl (Oper.wp_mono (fun a' w' ⟨h1, h2⟩ => ⟨h1, h2⟩) hk2)
 ·rw [if_neg hw]
  obtain ⟨hh1, hh2⟩ := h.2 (by simpa using hw)
  simp only [Mode.held, hk, cond_false] at hh1
  exact ⟨hh1, hh2⟩
def rZ (ops : Array Oper) (i : Nat) : Bool :=
 match ops[i]? with
 | some o => !iN o.op
 | none => false
theorem aJD {fuel k i j : Nat} {listed : Array Bool} (hr : (Region.ready .any l.toArray listed == [i, j] && rZ l.toArray i && rZ l.toArray j) = true)
  (h1 : R P n l (Rest P l Q Cs fuel (k + 1) (listed.setIfInBounds i true)) (.any Cs k []) (pick l [i]) G w)
  (h2 : R P n l (Rest P l Q Cs fuel (k + 1) (listed.setIfInBounds j true)) (.any Cs k []) (pick l [j]) G w) : N n (Rest P l Q Cs (fuel + 1) k listed) .normal G w := ⟨fun a ha => by
 simp only [Bool.and_eq_true, beq_iff_eq] at hr
 obtain ⟨⟨hr, e1⟩, e2⟩ := hr
 have get : ∀ x, rZ l.toArray x = true → ∃ o, l.toArray[x]? = some o ∧ iN o.op = false := fun x hx => by
  unfold rZ at hx
  cases ho : l.toArray[x]? with
  | none => simp [ho] at hx
  | some o => simp [ho] at hx; exact ⟨o, rfl, hx⟩
 obtain ⟨o1, ho1, hk1⟩ := get i e1
 obtain ⟨o2, ho2, hk2⟩ := get j e2
 refine ⟨fun h0 => (by rw [hr] at h0; cases h0), fun x hx => ?_⟩
 rw [hr] at hx
 simp only [List.mem_cons, List.not_mem_nil, or_false] at hx
 rcases hx with rfl | rfl
 ·exact nN ho1 hk1 (h1.go a ha)
 ·exact nN ho2 hk2 (h2.go a ha)⟩
theorem aHY {fuel k i j m : Nat} {listed : Array Bool} (hr : (Region.ready .any l.toArray listed == [i, j, m] && rZ l.toArray i && rZ l.toArray j && rZ l.toArray m) = true)
  (h1 : R P n l (Rest P l Q Cs fuel (k + 1) (listed.setIfInBounds i true)) (.any Cs k []) (pick l [i]) G w)
  (h2 : R P n l (Rest P l Q Cs fuel (k + 1) (listed.setIfInBounds j true)) (.any Cs k []) (pick l [j]) G w)
  (h3 : R P n l (Rest P l Q Cs fuel (k + 1) (listed.setIfInBounds m true)) (.any Cs k []) (pick l [m]) G w) : N n (Rest P l Q Cs (fuel + 1) k listed) .normal G w := ⟨fun a ha => by
 simp only [Bool.and_eq_true, beq_iff_eq] at hr
 obtain ⟨⟨⟨hr, e1⟩, e2⟩, e3⟩ := hr
 have get : ∀ x, rZ l.toArray x = true → ∃ o, l.toArray[x]? = some o ∧ iN o.op = false := fun x hx => by
  unfold rZ at hx
  cases ho : l.toArray[x]? with
  | none => simp [ho] at hx
  | some o => simp [ho] at hx; exact ⟨o, rfl, hx⟩
 obtain ⟨o1, ho1, hk1⟩ := get i e1
 obtain ⟨o2, ho2, hk2⟩ := get j e2
 obtain ⟨o3, ho3, hk3⟩ := get m e3
 refine ⟨fun h0 => (by rw [hr] at h0; cases h0), fun x hx => ?_⟩
 rw [hr] at hx
 simp only [List.mem_cons, List.not_mem_nil, or_false] at hx
 rcases hx with rfl | rfl | rfl
 ·exact nN ho1 hk1 (h1.go a ha)
 ·exact nN ho2 hk2 (h2.go a ha)
 ·exact nN ho3 hk3 (h3.go a ha)⟩
theorem aWU {id : Nat} (Cs : Nat → World → Prop) (hx : P.follows .mixedOrders = true) (h : N n (Rest P l Q Cs l.length 0 (Array.replicate l.length false)) .normal G w.drew) : T P n (.region id l.toArray true) Q G w := ⟨fun a ha => by
 refine wp_region_any hx ?_
 have := h.go a ha
 have e : l.toArray.size = l.length := by simp
 rw [e]
 exact qJ _ _ _ _ _ this⟩
end
section
variable {P : Program} {n : Nat} {Q : Exit → Act → World → Prop} {G : Env} {X : List Nat} {w0 : World} {M M1 : List Ent} {I I1 : List aT} {l : List Oper}
theorem uT {id : Nat} (M1 : List Ent) (I1 : List aT) (hx : P.follows .mixedOrders = true) (h : ND n (Rest P l Q (tX X w0 M1 I1) l.length 0 (Array.replicate l.length false)) .normal G X w0 M I) : TD P n (.region id l.toArray true) Q G X w0 M I :=
 ⟨fun w hw => aWU (tX X w0 M1 I1) hx (h.go w.drew hw.drew)⟩
theorem eX {fuel fuel' k : Nat} {listed listed' : Array Bool} (p ms : List Nat) (hM : SubP M M1) (hI : Inc I I1) (hs : Region.noSelect l.toArray = true) (hok : qO l.toArray p ms listed = some listed') (hf : fuel' = fuel + p.length) (hsz : listed.size = l.toArray.size)
  (h : RD P n l (Rest P l Q (tX X w0 M1 I1) fuel (k + aAU l.toArray p) listed') (.any (tX X w0 M1 I1) k ms) (pick l p) G X w0 M I) : ND n (Rest P l Q (tX X w0 M1 I1) fuel' k listed) .normal G X w0 M I :=
 ⟨fun w hw => aOB p ms (fun _ _ h => h) hs hok hf hsz (hw.weak hM hI) (h.go w hw)⟩
theorem dM {fuel k : Nat} {listed : Array Bool} (p ms : List Nat) (hM : SubP M M1) (hI : Inc I I1) (hs : Region.noSelect l.toArray = true) (hok : iW l.toArray p ms listed = true) (hf : fuel = p.length) (hsz : listed.size = l.toArray.size)
  (h : RD P n l Q (.any (tX X w0 M1 I1) k ms) (pick l p) G X w0 M I) : ND n (Rest P l Q (tX X w0 M1 I1) fuel k listed) .normal G X w0 M I :=
 ⟨fun w hw => aOD p ms (fun _ _ h => h) hs hok hf hsz (hw.weak hM hI) (h.go w hw)⟩
theorem bF {fuel k i j : Nat} {listed : Array Bool} (hr : (Region.ready .any l.toArray listed == [i, j] && rZ l.toArray i && rZ l.toArray j) = true)
  (h1 : RD P n l (Rest P l Q (tX X w0 M1 I1) fuel (k + 1) (listed.setIfInBounds i true)) (.any (tX X w0 M1 I1) k []) (pick l [i]) G X w0 M I)
  (h2 : RD P n l (Rest P l Q (tX X w0 M1 I1) fuel (k + 1) (listed.setIfInBounds j true)) (.any (tX X w0 M1 I1) k []) (pick l [j]) G X w0 M I) : ND n (Rest P l Q (tX X w0 M1 I1) (fuel + 1) k listed) .normal G X w0 M I :=
 ⟨fun w hw => aJD hr (h1.go w hw) (h2.go w hw)⟩
theorem iJ {fuel k i j m : Nat} {listed : Array Bool} (hr : (Region.ready .any l.toArray listed == [i, j, m] && rZ l.toArray i && rZ l.toArray j && rZ l.toArray m) = true)
  (h1 : RD P n l (Rest P l Q (tX X w0 M1 I1) fuel (k + 1) (listed.setIfInBounds i true)) (.any (tX X w0 M1 I1) k []) (pick l [i]) G X w0 M I)
  (h2 : RD P n l (Rest P l Q (tX X w0 M1 I1) fuel (k + 1) (listed.setIfInBounds j true)) (.any (tX X w0 M1 I1) k []) (pick l [j]) G X w0 M I)
  (h3 : RD P n l (Rest P l Q (tX X w0 M1 I1) fuel (k + 1) (listed.setIfInBounds m true)) (.any (tX X w0 M1 I1) k []) (pick l [m]) G X w0 M I) : ND n (Rest P l Q (tX X w0 M1 I1) (fuel + 1) k listed) .normal G X w0 M I :=
 ⟨fun w hw => aHY hr (h1.go w hw) (h2.go w hw) (h3.go w hw)⟩
end
end Go.Fx
namespace Go.Proofs.YtjbhdfpjnjedhaaGreat
open Go Go.Fx
abbrev Mt := List (List Rat)
def rowAt (A : Mt) (i : Nat) : List Rat := A.getD i []
def at2 (A : Mt) (i j : Nat) : Rat := (rowAt A i).getD j 0
def swp (A : Mt) (r k : Nat) : Mt := (A.set r (rowAt A k)).set k (rowAt A r)
def jJ (j : Nat) (κ : Rat) (l : List Rat) : List Rat := l.mapIdx (fun c x => if c < j then x else κ * x)
def kE (j : Nat) (κ : Rat) (p : List Rat) (l : List Rat) : List Rat := l.mapIdx (fun c x => if c < j then x else x - κ * p.getD c 0)
def nI (A : Mt) (j : Nat) : Nat → Nat → Nat
 | 0, k => k
 | f + 1, k => if k < A.length ∧ at2 A k j = 0 then nI A j f (k + 1) else k
def uY (A : Mt) (r j : Nat) (pr : List Rat) : Mt := A.mapIdx (fun i row => if i = r then row else if row.getD j 0 = 0 then row else kE j (row.getD j 0) pr row)
def wY (A : Mt) (r j k : Nat) : Mt :=
 uY ((swp A r k).set r (jJ j (1 / at2 (swp A r k) r j) (rowAt (swp A r k) r))) r j (jJ j (1 / at2 (swp A r k) r j) (rowAt (swp A r k) r))
def aOO (s : Mt × List Nat) (j : Nat) : Mt × List Nat :=
 if nI s.1 j (s.1.length - s.2.length) s.2.length < s.1.length then (wY s.1 s.2.length j (nI s.1 j (s.1.length - s.2.length) s.2.length), s.2 ++ [j]) else s
def qM (A : Mt) (n : Nat) : Mt × List Nat := (List.range n).foldl aOO (A, [])
theorem yG (A : Mt) (n : Nat) : qM A (n + 1) = aOO (qM A n) n := by
 unfold qM
 rw [List.range_succ, List.foldl_append]
 rfl
abbrev qs (es : List RE) : List Rat := es.map (·.q)
abbrev mq (rows : List MR) : Mt := rows.map (fun r => qs r.es)
theorem gN {α : Type} [Inhabited α] {ms : List α} {i : Nat} (h : i < ms.length) : gt ms (i : Int) = ms[i] := jD h
theorem mX {rows : List MR} {i : Nat} (h : i < rows.length) : rowAt (mq rows) i = qs (gt rows (i : Int)).es := by
 unfold rowAt
 rw [gN h]
 simp [List.getD, h]
theorem oK {es : List RE} {j : Nat} (h : j < es.length) : (qs es).getD j 0 = (gt es (j : Int)).q := by
 rw [gN h]
 simp [List.getD, h]
theorem vN {rows : List MR} {i j : Nat} (h : i < rows.length) (hj : j < (gt rows (i : Int)).es.length) : at2 (mq rows) i j = (gt (gt rows (i : Int)).es (j : Int)).q := by
 unfold at2
 rw [mX h, oK hj]
theorem aBD {rows : List MR} {i : Nat} {r : MR} : mq (rows.set i r) = (mq rows).set i (qs r.es) := by simp [List.map_set]
theorem aHK {A : Mt} {j : Nat} : ∀ (f k : Nat), k + f = A.length → k ≤ nI A j f k ∧ nI A j f k ≤ A.length ∧ (nI A j f k < A.length → at2 A (nI A j f k) j ≠ 0)
 | 0, k, h => ⟨Nat.le_refl _, by simp [nI]; omega, fun h' => by simp [nI] at h'; omega⟩
 | f + 1, k, h => by
  unfold nI
  by_cases hc : k < A.length ∧ at2 A k j = 0
  ·rw [if_pos hc]
   obtain ⟨h1, h2, h3⟩ := aHK (A := A) (j := j) f (k + 1) (by omega)
   exact ⟨by omega, h2, h3⟩
  ·rw [if_neg hc]
   exact ⟨Nat.le_refl _, by omega, fun hk h0 => hc ⟨hk, h0⟩⟩
/- permutations -/
theorem nX {α : Type} : ∀ (l : List α) (i : Nat) (h : i < l.length), l.Perm (l[i] :: l.eraseIdx i)
 | [], _, h => by simp at h
 | x :: r, 0, _ => by simp
 | x :: r, i + 1, h => by
  have ih := nX r i (by simpa using h)
  simp only [List.getElem_cons_succ, List.eraseIdx_cons_succ]
  exact (List.Perm.cons _ ih).trans (List.Perm.swap _ _ _)
def lQ {α : Type} (l : List α) (i j : Nat) : List α := (l.eraseIdx (max i j)).eraseIdx (min i j)
theorem uG {α : Type} (l : List α) (i j : Nat) (hi : i < l.length) (hj : j < l.length) (hij : i ≠ j) : l.Perm (l[i] :: l[j] :: lQ l i j) := by
 rcases Nat.lt_or_ge i j with h | h
 ·have e1 : max i j = j := by omega
  have e2 : min i j = i := by omega
  unfold lQ
  rw [e1, e2]
  have h1 := nX l j hj
  have hl : i < (l.eraseIdx j).length := by rw [List.length_eraseIdx_of_lt hj]; omega
  have h2 := nX (l.eraseIdx j) i hl
  rw [List.getElem_eraseIdx_of_lt hl h] at h2
  exact (h1.trans (List.Perm.cons _ h2)).trans (List.Perm.swap _ _ _)
 ·have e1 : max i j = i := by omega
  have e2 : min i j = j := by omega
  unfold lQ
  rw [e1, e2]
  have h1 := nX l i hi
  have hl : j < (l.eraseIdx i).length := by rw [List.length_eraseIdx_of_lt hi]; omega
  have h2 := nX (l.eraseIdx i) j hl
  rw [List.getElem_eraseIdx_of_lt hl (by omega)] at h2
  exact h1.trans (List.Perm.cons _ h2)
theorem vD {α : Type} (l : List α) (i j : Nat) (x : α) (hij : i ≠ j) : lQ (l.set i x) i j = lQ l i j := by
 unfold lQ
 rcases Nat.lt_or_ge i j with h | h
 ·have e1 : max i j = j := by omega
  have e2 : min i j = i := by omega
  rw [e1, e2]
  apply List.ext_getElem?
  intro n
  simp only [List.getElem?_eraseIdx, List.getElem?_set]
  split <;> split <;> (try split) <;> first | rfl | omega
 ·have e1 : max i j = i := by omega
  rw [e1, List.eraseIdx_set_eq]
theorem aCO {α : Type} (l : List α) (i : Nat) (x : α) : (l.set i x).eraseIdx i = l.eraseIdx i := List.eraseIdx_set_eq ..
theorem uN {rows : List MR} {i : Nat} {es : List RE} (hi : i < rows.length) (hl : es.length = (gt rows (i : Int)).es.length) : recs eM (rows.set i ⟨(gt rows (i : Int)).b, es⟩) = recs eM rows := by
 have h1 := rY (enc := eM) rows i ⟨(gt rows (i : Int)).b, es⟩ hi
 rw [← h1]
 have e : eM ⟨(gt rows (i : Int)).b, es⟩ = eM (gt rows (i : Int)) := by simp [eM, hl]
 rw [e, rY (enc := eM) rows i _ hi, gN hi, List.set_getElem_self]
end Go.Proofs.YtjbhdfpjnjedhaaGreat

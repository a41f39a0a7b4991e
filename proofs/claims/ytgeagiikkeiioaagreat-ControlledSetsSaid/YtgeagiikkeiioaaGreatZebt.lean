/- controlled: Left. -/
import Derived.Test.YtgeagiikkeiioaaGreatZebs
import Derived.Test.YtgeagiikkeiioaaGreatZeaw
set_option linter.unusedSimpArgs false
set_option linter.unusedVariables false
set_option maxRecDepth 100000
set_option maxHeartbeats 4000000
namespace Go.Proofs.YtgeagiikkeiioaaGreat
open Go Go.Fx
def aBT (l : List Rat) : List Rat := l.map (fun x => -x)
theorem aFG {l : List Rat} {c : Nat} : (aBT l).getD c 0 = - l.getD c 0 := by
 unfold aBT
 simp only [List.getD, List.getElem?_map]
 cases l[c]? <;> simp
theorem aLF {set : List Int} {g : Nat → Rat} : ∀ R : Nat, sm R g = sm (bJ R set).length (fun k => g ((bJ R set).getD k 0)) + sm R (fun t => if (t : Int) ∈ set then g t else 0)
 | 0 => by show (0 : Rat) = 0 + 0; grind
 | R + 1 => by
  have ih := aLF (set := set) (g := g) R
  have e0 : ∀ f : Nat → Rat, sm (R + 1) f = sm R f + f R := fun _ => rfl
  rw [e0, e0, ih, qO]
  by_cases h : (R : Int) ∈ set
  ·simp only [if_pos h]; grind
  ·simp only [if_neg h]
   rw [List.length_append, List.length_singleton]
   have e1 : sm ((bJ R set).length + 1) (fun k => g ((bJ R set ++ [R]).getD k 0)) = sm (bJ R set).length (fun k => g ((bJ R set).getD k 0)) + g R := by
    show sm _ _ + _ = _
    congr 1
    ·exact bA (fun k hk => by rw [List.getD, List.getElem?_append_left hk]; rfl)
    ·simp [List.getD]
   rw [e1]; grind
theorem aSB {R : Nat} {set : List Int} {a b : Nat} (ha : a < (bJ R set).length) (hb : b < (bJ R set).length) (h : (bJ R set).getD a 0 = (bJ R set).getD b 0) : a = b := by
 have hn : (bJ R set).Nodup := List.Pairwise.filter _ List.nodup_range
 rw [kT ha, kT hb] at h
 exact (List.getElem_inj hn).1 h
theorem aTJ {R C i : Nat} {A : Mt} {set : List Int} {w z : Nat → Rat} (hi : i < R) (hm : (i : Int) ∈ set) (h1 : ∀ k, k < (bJ R set).length → w ((bJ R set).getD k 0) = z k) (h2 : ∀ t, t < R → (t : Int) ∈ set → w t = mM i t)
  (hz : ∀ c, c < C → sm (bJ R set).length (fun k => at2 A ((bJ R set).getD k 0) c * z k) = - at2 A i c) {j : Nat} (hj : j < C) : sm R (fun t => w t * at2 A t j) = 0 := by
 rw [aLF (set := set) R, bA (n := (bJ R set).length) (g := fun k => at2 A ((bJ R set).getD k 0) j * z k) (fun k hk => by rw [h1 k hk]; grind), hz j hj,
  nL (n := R) (p := i) hi (fun t ht hne => by
   by_cases e : (t : Int) ∈ set
   ·rw [if_pos e, h2 t ht e]; simp only [mM]; rw [if_neg (fun h => hne h.symm)]; grind
   ·rw [if_neg e]), if_pos hm, h2 i hi hm]
 simp only [mM, if_true]; grind
theorem aPY {R C : Nat} {A : Mt} {b : List Rat} : (aHE R C A b).length = C := by simp [aHE]
section
variable {X : List Nat} {w0 : World} {M0 : List Ent} {I0 : List bD}
theorem aOX {n i : Nat} (hn : n ≤ 100) (hi : i < n) : CD Tryz.prog 101 [.int .i64 (n : Int), .int .i64 (i : Int)] X w0 M0 I0 (fun v M I => ∃ (b : Nat) (es : List RE), v = .slice (some ⟨b, 0, none⟩) n n ∧ es.length = n ∧ (∀ t : Nat, t < n → (gt es (t : Int)).q = mM i t) ∧ M = .blk b (recs eR es) 42 :: M0 ∧ I = dD es 0 :: I0) := by
 have hW := fun M0 I0 => kV (X := X) (w0 := w0) (M0 := M0) (I0 := I0) (x := 0) (by decide) (k := 0) (by decide)
 have hW1 := fun M0 I0 => kV (X := X) (w0 := w0) (M0 := M0) (I0 := I0) (x := 1) (by decide) (k := 0) (by decide)
 refine aW Tryz.func101 rfl Tryz.ntmps101 rfl ?_
 repeat (refine aI ?_)
 (refine jU (n) rfl rfl (by omega) (by omega) (by omega) (by omega) (qG (enc := e4) (by decide) z4 n) rfl rfl ?_; intro bi; refine ⟨okF, ?_⟩)
 repeat (refine aI ?_)
 refine bQ (φ := dD [] 0) Hv.nilR ?_
 refine aQ [1, 5, 10] rfl (fun k G M I => ∃ (x : Nat) (es : List RE), x ≤ n ∧ k = n - x ∧ es.length = x ∧ (∀ t : Nat, t < x → (gt es (t : Int)).q = 0) ∧ G = [(11, .int .i64 x)] ∧ M = .blk bi (recs e4 (es.map t4 ++ List.replicate (n - x) z4)) 42 :: M0 ∧ I = dD es 0 :: I0) (n) _ _ _ aR aG aD (⟨0, [], by omega, by omega, rfl, fun t ht => by omega, rfl, rfl, rfl⟩) ?_
 rintro kk G M I ⟨x, es, hx, rfl, hel, heq, rfl, rfl, rfl⟩
 by_cases hxC : x < n
 ·have hz2 := qH (n := n - x) (z := z4) (by omega)
  have hl2 : ((es.map t4 ++ z4 :: List.replicate (n - x - 1) z4).length : Int) = n := by simp; omega
  rw [hz2]
  repeat (refine aI ?_)
  (refine aA rfl (hW _ _) rfl rfl ?_; rintro _ _ _ ⟨rfl, e, rfl, he, rfl⟩; refine ⟨okF, ?_⟩)
  repeat (refine yXh ?_)
  refine fI (vs := eR e) rfl rfl rfl (Ones.one e) lF (StAts.r (t4 e) (by omega) rfl) rfl rfl ⟨okF, ?_⟩
  rw [zT (by simp; omega)]
  repeat (refine aI ?_)
  refine eT (φ := dD (es ++ [e]) 0) (Hv.snoc aB aB) ?_
  have e9 : es.map t4 ++ t4 e :: List.replicate (n - x - 1) z4 = (es ++ [e]).map t4 ++ List.replicate (n - (x + 1)) z4 := by simp [Nat.sub_sub]
  rw [e9]
  refine aL (n - (x + 1)) _ _ _ (by first | omega | (simp only [List.length_append, List.length_cons, List.length_nil]; omega)) aR aG aD (⟨x + 1, es ++ [e], by omega, rfl, by simp; omega, fun t ht => ?_, rfl, rfl, rfl⟩)
  by_cases e1 : t < x
  ·have : gt (es ++ [e]) (t : Int) = gt es (t : Int) := by rw [dH (by simp; omega), dH (by omega), List.getElem_append_left (by omega)]
   rw [this]; exact heq t e1
  ·have : gt (es ++ [e]) (t : Int) = e := rU (A := es) (B := []) (by omega)
   rw [this, he]; rfl
 ·obtain rfl : x = n := by omega
  rw [Nat.sub_self, List.replicate_zero, List.append_nil, xQ]
  repeat (refine aI ?_)
  (refine aA rfl (hW1 _ _) rfl rfl ?_; rintro _ _ _ ⟨rfl, e, rfl, he, rfl⟩; refine ⟨okF, ?_⟩)
  repeat (refine aI ?_)
  refine eT (φ := dD (st es (i : Int) e) 0) (Hv.stR aB aB) ?_
  refine aC (by first | exact .inl rfl | exact .inr rfl) rfl rfl _ _ aG aD (⟨bi, st es (i : Int) e, rfl, by rw [cZ]; exact hel, fun t ht => ?_, rfl, rfl⟩)
  rw [nJ (by omega)]
  simp only [mM]
  by_cases e1 : t = i
  ·rw [if_pos e1, if_pos e1.symm, he]; rfl
  ·rw [if_neg e1, if_neg (fun h => e1 h.symm)]; exact heq t ht
theorem aTY {x : MX} {r : RL} {b u : Nat} (hk : u ≤ 20000000000) (hl : r.es.length ≤ 1000) (hx : x.rows.length = 0) (hb : aV (some ⟨b, 0, none⟩) [mv x] ∈ I0) (hr : jR r u ∈ I0) :
  CD Tryz.prog 116 [lv r, pb b] X w0 M0 I0 (fun v M I => M0 = M ∧ I0 = I ∧ v = .tuple #[.slice none 0 0, .bool (B (nP r.q))]) := by
 have hZ := fun M0 I0 h => wB (X := X) (w0 := w0) (M0 := M0) (I0 := I0) (r := r) (k := u) (by omega) (by omega) h
 refine aW Tryz.func116 rfl Tryz.ntmps116 rfl ?_
 repeat (refine aI ?_)
 (refine aA rfl (hZ _ _ aB) rfl rfl ?_; rintro _ _ _ ⟨rfl, rfl, rfl⟩; refine ⟨okF, ?_⟩)
 repeat (refine aI ?_)
 refine bZ [3, 4] (by first | exact .inl rfl | exact .inr rfl) rfl rfl rfl _ _ aG aD (⟨rfl, rfl, rfl⟩)
theorem aRH {x : MX} {r : RL} {b u n C K : Nat} (hK : K = kb u n) (hb2 : K ≤ 500000000) (hd : x.fit n C) (hn : n ≤ 60) (hl : r.es.length = C) (hb : aV (some ⟨b, 0, none⟩) [mv x] ∈ I0) (hx : fF x u ∈ I0) (hr : jR r u ∈ I0) :
  CD Tryz.prog 116 [lv r, pb b] X w0 M0 I0 (fun v M I => if qN C n (vB n C x.q) (aBT r.q) then (M0 = M ∧ ∃ z : RL, v = .tuple #[lv z, .bool true] ∧ z.q = aHE C n (vB n C x.q) (aBT r.q) ∧ I = jR z K :: I0) else (M0 = M ∧ I0 = I ∧ v = .tuple #[.slice none 0 0, .bool false])) := by
 have hk0 : u ≤ K := by rw [hK]; exact iC u (Nat.zero_le n)
 have lR := hd.1.1
 obtain ⟨n1, n2⟩ := hd.2.1
 obtain ⟨c1, c2⟩ := hd.2.2
 have hT := fun M0 I0 h => rY (X := X) (w0 := w0) (M0 := M0) (I0 := I0) (a := x) (R := n) (C := C) (k := u) (by omega) hd h
 refine bI (φ := aV (r).p (recs eR (r).es)) (Hv.lsl aB) ?_
 refine aW Tryz.func116 rfl Tryz.ntmps116 rfl ?_
 repeat (refine aI ?_)
 refine mI 42 4 ?_
 refine bQ (φ := dD [] u) Hv.nilR ?_
 refine aQ [1, 17, 18] rfl (fun k G M I => ∃ (t : Nat) (es : List RE) (q : Option Addr) (c : Nat), t ≤ C ∧ k = C - t ∧ es.length = t ∧ (∀ j : Nat, j < t → (gt es (j : Int)).q = - (gt r.es (j : Int)).q) ∧ G = [(5, .slice q es.length c), (19, .int .i64 t)] ∧ M = .row q es.length c (recs eR es) 42 4 :: M0 ∧ I = dD es u :: aV r.p (recs eR r.es) :: I0) (C) _ _ _ aR aG aD (⟨0, [], none, 0, by omega, by omega, rfl, fun j hj => by omega, rfl, rfl, rfl⟩) ?_
 rintro kk G M I ⟨t, es, q, c, ht, rfl, hel, heq, rfl, rfl, rfl⟩
 by_cases htn : t < C
 ·have hN := fun M0 I0 h => aGA (X := X) (w0 := w0) (M0 := M0) (I0 := I0) (e := gt r.es (t : Int)) (k := u) (by omega) h
  refine bQ (φ := eY (gt r.es (t : Int)) u) (Hv.lel (List.Mem.tail _ (List.Mem.tail _ hr)) (by omega)) ?_
  repeat (refine aI ?_)
  (refine aN rfl rfl ?_; intro b3; refine ⟨okF, ?_⟩)
  repeat (refine aI ?_)
  (refine aA rfl (hN _ _ (Hv.mem aB)) rfl rfl ?_; rintro _ _ _ ⟨rfl, e, rfl, he, rfl⟩; refine ⟨okF, ?_⟩)
  (refine aO (cs := recs eR [e]) ([rv e]) rfl rfl (by intro v hv; repeat (first | exact absurd hv (List.not_mem_nil) | (rcases List.mem_cons.1 hv with rfl | hv; · rfl))) (by omega) rfl rfl rfl ?_; intro b4; refine ⟨okF, ?_⟩)
  (refine dV (ys := [e]) 2 rfl rfl rfl ?_ (by decide) rfl (by omega) (by omega) rfl rfl ?_; (· first | exact Src.blk aB | exact Src.row aB | exact Src.imm aB (by first | assumption | exact .inl (Ok.mk _ _))); intro q2 c2'; refine ⟨okF, ?_⟩)
  repeat (refine aI ?_)
  refine eT (φ := dD (es ++ [e]) u) (Hv.snoc aB aB) ?_
  refine aL (C - (t + 1)) _ _ _ (by first | omega | (simp only [List.length_append, List.length_cons, List.length_nil]; omega)) aR aG aD (⟨t + 1, es ++ [e], q2, c2', by omega, rfl, by simp; omega, fun j hj => ?_, rfl, rfl, rfl⟩)
  by_cases e1 : j < t
  ·have : gt (es ++ [e]) (j : Int) = gt es (j : Int) := by rw [dH (by simp; omega), dH (by omega), List.getElem_append_left (by omega)]
   rw [this]; exact heq j e1
  ·have : gt (es ++ [e]) (j : Int) = e := rU (A := es) (B := []) (by omega)
   obtain rfl : j = t := by omega
   rw [this, he]
 ·obtain rfl : t = C := by omega
  have hrq : (⟨q, c, es⟩ : RL).q = aBT r.q := by
   apply nI
   ·show (qs es).length = _
    simp [aBT, hel, hl]
   ·intro j hj
    have hj' : j < t := by simpa [hel] using hj
    show (qs es).getD j 0 = _
    rw [fA (by omega), aFG, heq j hj', fA (by omega)]
  repeat (refine aI ?_)
  (refine aA rfl (hT _ _ aB) rfl rfl ?_; rintro _ _ _ ⟨rfl, y, rfl, hy, yd, rfl⟩; refine ⟨okF, ?_⟩)
  refine aSJ (k := u) aB ?_
  have hS := fun M0 I0 h1 h2 => aGX (X := X) (w0 := w0) (M0 := M0) (I0 := I0) (a := y) (b := ⟨q, c, es⟩) (R := t) (C := n) (k0 := u) (by omega) hn ⟨yd, hd.2.2, hd.2.1⟩ hel h1 h2
  rw [hy, hrq] at hS
  rw [← hK] at hS
  by_cases e : qN t n (vB n t x.q) (aBT r.q)
  ·have e' : qN t n (wO t n (fun i j => at2 x.q j i)) (aBT r.q) := e
   simp only [if_pos e', if_pos e] at hS ⊢
   repeat (refine aI ?_)
   (refine aA rfl (hS _ _ aB aB) rfl rfl ?_; rintro _ _ _ ⟨rfl, z, rfl, hz, rfl⟩; refine ⟨okF, ?_⟩)
   have hb0 : B ((0 : Int) = 0) = true := aU rfl
   repeat (refine aI ?_)
   rw [hb0]
   refine bZ [3, 4] (by first | exact .inl rfl | exact .inr rfl) rfl rfl rfl _ _ aG aD (⟨rfl, z, rfl, hz, rfl⟩)
  ·have e' : ¬ qN t n (wO t n (fun i j => at2 x.q j i)) (aBT r.q) := e
   simp only [if_neg e', if_neg e] at hS ⊢
   repeat (refine aI ?_)
   (refine aA rfl (hS _ _ aB aB) rfl rfl ?_; rintro _ _ _ ⟨rfl, rfl, rfl⟩; refine ⟨okF, ?_⟩)
   have hb0 : B ((6 : Int) = 0) = false := aP (by decide)
   repeat (refine aI ?_)
   rw [hb0]
   refine bZ [3, 4] (by first | exact .inl rfl | exact .inr rfl) rfl rfl rfl _ _ aG aD (⟨rfl, rfl, rfl⟩)
theorem aOU {m : LW} {s : Value} (sm : m.sml) (hc : m.code ≠ 0) (hm : iZ m ∈ I0) : CD Tryz.prog 60 [vLW m, s] X w0 M0 I0 (fun v M I => M0 = M ∧ I0 = I ∧ v = .tuple #[.slice none 0 0, .int .i64 m.code]) := by
 have hC := fun M0 I0 h1 => wT (X := X) (w0 := w0) (M0 := M0) (I0 := I0) (m := m) (s := s) sm hc h1
 refine aW Tryz.func60 rfl Tryz.ntmps60 rfl ?_
 refine aJ ?_
 refine aH ?_
 (refine aM rfl rfl rfl ?_; intro b1; refine ⟨okF, ?_⟩)
 refine aF .here ?_
 repeat (refine aI ?_)
 (refine aA rfl (hC _ _ aB) rfl rfl ?_; rintro _ _ _ ⟨rfl, rfl, rfl⟩; refine ⟨okF, ?_⟩)
 generalize m.code = co at *
 repeat (refine aI ?_)
 refine bZ [4, 5] (by first | exact .inl rfl | exact .inr rfl) rfl rfl rfl _ _ aG aD (⟨rfl, rfl, rfl⟩)
theorem aGT {m : LE} {R C u : Nat} {set : List Int} {q : Option Addr} {c : Nat} (hk : u ≤ 20000000000) (f : m.fit R C) (h : iX m u ∈ I0) (hl : set.length ≤ 1000) (hq : aV q (recs (eI .i64) set) ∈ I0) (hs : ¬ (kQ R set = 0 ∧ set.length ≠ 0)) :
  CD Tryz.prog 60 [uN m, .slice q set.length c] X w0 M0 I0 (fun v M I => M0 = M ∧ I0 = I ∧ v = .tuple #[.slice none 0 0, .int .i64 (if kQ R set = 0 then 1 else kQ R set)]) := by
 have hN := fun M0 I0 h1 h2 => pK (X := X) (w0 := w0) (M0 := M0) (I0 := I0) (m := m) (q := q) (c := c) (k := u) hk f h1 hl h2
 refine aW Tryz.func60 rfl Tryz.ntmps60 rfl ?_
 refine aJ ?_
 refine aH ?_
 (refine aM rfl rfl rfl ?_; intro b1; refine ⟨okF, ?_⟩)
 refine aF .here ?_
 by_cases e : kQ R set = 0
 ·have h0 : set.length = 0 := Classical.byContradiction (fun hn => hs ⟨e, hn⟩)
  simp only [if_pos e] at hN ⊢
  repeat (refine aI ?_)
  (refine aA rfl (hN _ _ aB aB) rfl rfl ?_; rintro _ _ _ ⟨rfl, b, rfl, rfl⟩; refine ⟨okF, ?_⟩)
  repeat (refine aI ?_)
  refine bZ [4, 5] (by first | exact .inl rfl | exact .inr rfl) rfl rfl rfl _ _ aG aD (⟨rfl, rfl, rfl⟩)
 ·simp only [if_neg e] at hN ⊢
  repeat (refine aI ?_)
  (refine aA rfl (hN _ _ aB aB) rfl rfl ?_; rintro _ _ _ ⟨rfl, rfl, rfl⟩; refine ⟨okF, ?_⟩)
  generalize kQ R set = co at *
  repeat (refine aI ?_)
  refine bZ [4, 5] (by first | exact .inl rfl | exact .inr rfl) rfl rfl rfl _ _ aG aD (⟨rfl, rfl, rfl⟩)
theorem yA {A : Mt} {C i : Nat} : (∀ z, oO A C i z = 0) ↔ ∀ c, c < C → at2 A i c = 0 := by
 constructor
 ·intro h c hc
  have := h (mM c)
  unfold oO at this
  rw [nL (p := c) hc (fun j _ hne => by simp only [mM]; rw [if_neg (fun e => hne e.symm)]; grind)] at this
  simp only [mM, if_true] at this
  grind
 ·intro h z; unfold oO; exact jA (fun c hc => by rw [h c hc]; grind)
theorem aLR {m : LE} {R C u K : Nat} {set : List Int} {q : Option Addr} {c : Nat} (hK : K = kb u 7) (hb : K ≤ 500000000) (f : m.fit R C) (hd : R ≤ 7) (h : iX m u ∈ I0) (hl : set.length ≤ 1000) (hq : aV q (recs (eI .i64) set) ∈ I0) (hs : kQ R set = 0) (h0 : set.length ≠ 0) :
  CD Tryz.prog 60 [uN m, .slice q set.length c] X w0 M0 I0 (fun v M I => M0 = M ∧ if und R C m.a.q set then I0 = I ∧ v = .tuple #[.slice none 0 0, .int .i64 6] else ∃ Y : MX, v = .tuple #[mv Y, .int .i64 0] ∧ firmP R C m.a.q set Y.q ∧ Y.rows.length = set.length ∧ (∀ r ∈ Y.rows, r.es.length = R) ∧ I = fF Y K :: I0) := by
 have hk0 : u ≤ K := by rw [hK]; exact iC u (Nat.zero_le 7)
 have lR := f.d.1.1
 subst lR
 obtain ⟨r1, r2⟩ := f.d.2.1
 obtain ⟨c1, c2⟩ := f.d.2.2
 have hA := pG f.d.1
 obtain ⟨hin, hasc⟩ := aAY hs
 have hN := fun M0 I0 h1 h2 => pK (X := X) (w0 := w0) (M0 := M0) (I0 := I0) (m := m) (q := q) (c := c) (k := u) (by omega) f h1 hl h2
 simp only [if_pos hs] at hN
 have hO := fun b M1 I0 h1 => aCM (X := X) (w0 := w0) (M0 := .obj b (kD (nY set set.length)) :: M1) (I0 := I0) (m := m) (u := u) (b := b) (set := set) (by omega) f h1 rfl
 have hrl := sH (n := m.a.rows.length) (set := set)
 refine bI (φ := fF m.a u) (Hv.lea h) ?_
 refine bI (φ := aV (m.a).p (recs eL (m.a).rows)) (Hv.xsl aB) ?_
 refine aW Tryz.func60 rfl Tryz.ntmps60 rfl ?_
 refine aJ ?_
 refine aH ?_
 (refine aM rfl rfl rfl ?_; intro b1; refine ⟨okF, ?_⟩)
 refine aF .here ?_
 repeat (refine aI ?_)
 (refine aA rfl (hN _ _ aB aB) rfl rfl ?_; rintro _ _ _ ⟨rfl, b, rfl, rfl⟩; refine ⟨okF, ?_⟩)
 repeat (refine aI ?_)
 (refine aA rfl (hO b _ _ aB) rfl rfl ?_; rintro _ _ _ ⟨rfl, q1, cc1, x, rfl, hx, rfl⟩; refine ⟨okF, ?_⟩)
 have hxq : x.q = gM m.a.q (bJ m.a.rows.length set) := by
  show x.rows.map RL.q = _
  rw [hx]; exact aJB f.d.1
 have hxl : x.rows.length = (bJ m.a.rows.length set).length := by rw [hx]; simp [kU]
 have hxc : ∀ r ∈ x.rows, r.es.length = C := fun r hr => by
  rw [hx] at hr
  obtain ⟨t, ht, rfl⟩ := List.mem_map.1 hr
  exact f.d.1.row (fZ.1 ht).1
 generalize hix : bJ m.a.rows.length set = ix at *
 repeat (refine aI ?_)
 (refine aN rfl rfl ?_; intro b9; refine ⟨okF, ?_⟩)
 repeat (refine aI ?_)
 refine aBG .here ?_
 repeat (refine aI ?_)
 refine mI 34 1 ?_
 refine bQ (φ := mO [] K) Hv.nilL ?_
 refine aQ [2, 8, 10, 38, 39] rfl (fun k G M I => ∃ (i : Nat) (rows : List RL) (qo : Option Addr) (co : Nat), i ≤ set.length ∧ k = set.length - i ∧ rows.length = i ∧ (∀ r ∈ rows, r.es.length = m.a.rows.length) ∧ (∀ t, t < i → firmR m.a.rows.length C m.a.q set t (gt rows (t : Int)).q ∧ ∀ z, (∀ k ∈ ix, oO m.a.q C k z = 0) → oO m.a.q C (gt set (t : Int)).toNat z = 0) ∧ G = [(11, .slice qo rows.length co), (40, .int .i64 i)] ∧ M = .row qo rows.length co (recs eL rows) 34 1 :: M0 ∧ I = mO rows K :: aV (some ⟨b9, 0, none⟩) [mv x] :: fF x u :: aV q1 (recs eZ (zs ix)) :: aV (some ⟨b1, 0, none⟩) [mv m.a, lv m.l, lv m.p] :: aV m.a.p (recs eL m.a.rows) :: fF m.a u :: I0) (set.length) _ _ _ aR aG aD (⟨0, [], none, 0, by omega, rfl, rfl, fun r hr => by simp at hr, fun t ht => by omega, rfl, rfl, rfl⟩) ?_
 rintro kk G M I ⟨i, rows, qo, co, hi, rfl, hrow, hrlen, hfr, rfl, rfl, rfl⟩
 by_cases hin1 : i < set.length
 ·obtain ⟨p1, p2⟩ := hin _ (bM (ms := set) (i := (i : Int)) (by omega))
  obtain ⟨s, hsn⟩ : ∃ s : Nat, gt set (i : Int) = s := ⟨(gt set (i : Int)).toNat, by omega⟩
  have hsR : s < m.a.rows.length := by omega
  have hsm : (s : Int) ∈ set := by rw [← hsn]; exact bM (by omega)
  have hrs : (gt m.a.rows (s : Int)).es.length = C := f.d.1.row hsR
  have hraq : rowAt m.a.q s = (gt m.a.rows (s : Int)).q := nO hsR
  have hat : ∀ c, c < C → (gt m.a.rows (s : Int)).q.getD c 0 = at2 m.a.q s c := fun c hc => by unfold at2; rw [hraq]
  refine bQ (φ := jR (gt m.a.rows (s : Int)) u) (Hv.xrow aB (by omega)) ?_
  have hOw := fun M0 I0 => aOX (X := X) (w0 := w0) (M0 := M0) (I0 := I0) (n := m.a.rows.length) (i := s) (by omega) hsR
  have hdl : ∀ j, j < set.length → mM s (gt set (j : Int)).toNat = mM j i := fun j hj => by
   have hjp := hin _ (bM (ms := set) (i := (j : Int)) (by omega))
   simp only [mM]
   by_cases e : j = i
   ·rw [if_pos e, e, hsn, if_pos (by omega)]
   ·rw [if_neg e, if_neg (fun e2 => hasc.ne hj hin1 e (by omega))]
  have hnix : ∀ t : Nat, (t : Int) ∈ set → t ∉ ix := fun t ht hm => by rw [← hix] at hm; exact (fZ.1 hm).2 ht
  have hixR : ∀ t : Nat, t ∈ ix → t < m.a.rows.length := fun t ht => by rw [← hix] at ht; exact (fZ.1 ht).1
  -- what a balanced row gives
  have close : ∀ (es : List RE) (z : RL), es.length = m.a.rows.length → (∀ k', k' < ix.length → (gt es ((ix.getD k' 0 : Nat) : Int)).q = z.q.getD k' 0) → (∀ t : Nat, t < m.a.rows.length → t ∉ ix → (gt es (t : Int)).q = mM s t) → (∀ c, c < C → sm ix.length (fun k => at2 m.a.q (ix.getD k 0) c * z.q.getD k 0) = - at2 m.a.q s c) → firmR m.a.rows.length C m.a.q set i (qs es) := fun es z he1 he2 he3 he4 => by
   refine ⟨⟨by simp [he1], aGO.2 (fun j hj => ?_)⟩, fun j hj => ?_⟩
   ·refine aTJ (set := set) (w := fun t => (qs es).getD t 0) (z := fun k => z.q.getD k 0) hsR hsm (fun k hk => ?_) (fun t ht hts => ?_) (fun c hc => ?_) hj
    ·rw [hix] at hk ⊢
     have := hixR _ (gK.2 ⟨k, hk, rfl⟩)
     rw [fA (by omega)]; exact he2 k hk
    ·rw [fA (by omega)]; exact he3 t ht (hnix t hts)
    ·rw [hix]; exact he4 c hc
   ·have hj' := List.mem_range.1 hj
    have hjp := hin _ (bM (ms := set) (i := (j : Int)) (by omega))
    have e : (((gt set (j : Int)).toNat : Nat) : Int) = gt set (j : Int) := by omega
    rw [fA (by omega), he3 _ (by omega) (hnix _ (by rw [e]; exact bM (by omega)))]
    exact hdl j hj'
  by_cases h00 : x.rows.length = 0
  ·have hix0 : ix = [] := List.eq_nil_of_length_eq_zero (by omega)
   have hB := fun M0 I0 h1 h2 => aTY (X := X) (w0 := w0) (M0 := M0) (I0 := I0) (x := x) (r := gt m.a.rows (s : Int)) (b := b9) (u := u) (by omega) (by omega) h00 h1 h2
   have hzr : nP (gt m.a.rows (s : Int)).q ↔ ∀ z, oO m.a.q C s z = 0 := by
    rw [yA]
    constructor
    ·intro hz c hc
     rw [← hat c hc, fA (by omega)]
     exact hz _ (List.mem_map.2 ⟨_, bM (by omega), rfl⟩)
    ·intro hz y hy
     obtain ⟨e, he, rfl⟩ := List.mem_map.1 hy
     obtain ⟨t, ht, rfl⟩ := List.mem_iff_getElem.1 he
     have := hz t (by omega)
     rw [← hat t (by omega), fA (by omega), iJ ht] at this
     exact this
   by_cases hz : nP (gt m.a.rows (s : Int)).q
   ·rw [aU hz] at hB
    repeat (refine aI ?_)
    rw [hsn]
    repeat (refine aI ?_)
    (refine lW rfl rfl (hB _ _ aB aB) rfl rfl rfl ?_; rintro _ _ _ ⟨rfl, rfl, rfl⟩; refine ⟨okF, ?_⟩)
    repeat (refine aI ?_)
    (refine aA rfl (hOw _ _) rfl rfl ?_; rintro _ _ _ ⟨by_, es, rfl, hel, heq, rfl, rfl⟩; refine ⟨okF, ?_⟩)
    refine fD (φ := dD es K) (Hv.allMono (k := 0) aB (Nat.zero_le _)) ?_
    repeat (refine aI ?_)
    refine aQ [2, 8, 10, 11, 16, 38, 39, 40, 61, 62] rfl (fun k G M I => ∃ (_ : k = 0), G = [(63, .int .i64 0)] ∧ M = .blk by_ (recs eR es) 42 :: .row qo rows.length co (recs eL rows) 34 1 :: M0 ∧ I = dD es K :: mO rows K :: aV (some ⟨b9, 0, none⟩) [mv x] :: fF x u :: aV q1 (recs eZ (zs ix)) :: aV (some ⟨b1, 0, none⟩) [mv m.a, lv m.l, lv m.p] :: aV m.a.p (recs eL m.a.rows) :: fF m.a u :: I0) (0) _ _ _ aR aG aD (⟨rfl, rfl, rfl, rfl⟩) ?_
    rintro kk G M I ⟨rfl, rfl, rfl, rfl⟩
    repeat (refine aI ?_)
    refine aFR (k := K) aB ?_
    have hfi : firmR m.a.rows.length C m.a.q set i (qs es) := close es ⟨none, 0, []⟩ hel (fun k' hk' => by rw [hix0] at hk'; simp at hk') (fun t ht _ => heq t ht) (fun c hc => by
     rw [hix0]
     have := yA.1 (hzr.1 hz) c hc
     rw [this]; show (0 : Rat) = -0; decide)
    repeat (refine aI ?_)
    rw [show Value.slice (some ⟨by_, 0, none⟩) m.a.rows.length m.a.rows.length = lv (⟨some ⟨by_, 0, none⟩, es.length, es⟩ : RL) by show _ = Value.slice (some ⟨by_, 0, none⟩) es.length es.length; rw [hel]]
    (refine aO (cs := recs eL [(⟨some ⟨by_, 0, none⟩, es.length, es⟩ : RL)]) ([lv (⟨some ⟨by_, 0, none⟩, es.length, es⟩ : RL)]) rfl rfl (by intro v hv; repeat (first | exact absurd hv (List.not_mem_nil) | (rcases List.mem_cons.1 hv with rfl | hv; · rfl))) (by omega) rfl rfl rfl ?_; intro bb; refine ⟨okF, ?_⟩)
    (refine dV (ys := [(⟨some ⟨by_, 0, none⟩, es.length, es⟩ : RL)]) 1 rfl rfl rfl ?_ (by decide) rfl (by omega) (by omega) rfl rfl ?_; (· first | exact Src.blk aB | exact Src.row aB | exact Src.imm aB (by first | assumption | exact .inl (Ok.mk _ _))); intro q2 c2'; refine ⟨okF, ?_⟩)
    repeat (refine aI ?_)
    refine eT (φ := mO (rows ++ [(⟨some ⟨by_, 0, none⟩, es.length, es⟩ : RL)]) K) (Hv.snocL aB aB) ?_
    refine aL (set.length - (i + 1)) _ _ _ (by first | omega | (simp only [List.length_append, List.length_cons, List.length_nil]; omega)) aR aG aD (⟨i + 1, rows ++ [(⟨some ⟨by_, 0, none⟩, es.length, es⟩ : RL)], q2, c2', by omega, rfl, by simp; omega, fun r hr => ?_, fun t ht => ?_, rfl, rfl, rfl⟩)
    ·rcases List.mem_append.1 hr with h | h
     ·exact hrlen r h
     ·rw [List.mem_singleton.1 h]; exact hel
    ·by_cases e1 : t < i
     ·have : gt (rows ++ [(⟨some ⟨by_, 0, none⟩, es.length, es⟩ : RL)]) (t : Int) = gt rows (t : Int) := by rw [dH (by simp; omega), dH (by omega), List.getElem_append_left (by omega)]
      rw [this]; exact hfr t e1
     ·obtain rfl : t = i := by omega
      have : gt (rows ++ [(⟨some ⟨by_, 0, none⟩, es.length, es⟩ : RL)]) (t : Int) = ⟨some ⟨by_, 0, none⟩, es.length, es⟩ := rU (A := rows) (B := []) (by omega)
      rw [this]
      exact ⟨hfi, fun z _ => by rw [hsn]; exact hzr.1 hz z⟩
   ·rw [aP hz] at hB
    have hu : und m.a.rows.length C m.a.q set := Classical.byContradiction (fun hn => hz (hzr.2 (fun z => (aLL hA).1 hn s hsR hsm z (fun k hk => by rw [hix, hix0] at hk; simp at hk))))
    simp only [if_pos hu]
    repeat (refine aI ?_)
    rw [hsn]
    repeat (refine aI ?_)
    (refine lW rfl rfl (hB _ _ aB aB) rfl rfl rfl ?_; rintro _ _ _ ⟨rfl, rfl, rfl⟩; refine ⟨okF, ?_⟩)
    repeat (refine aI ?_)
    refine bZ [4, 5] (by first | exact .inl rfl | exact .inr rfl) rfl rfl rfl _ _ aG aD (⟨rfl, rfl, rfl⟩)
  ·have hKn : kb u x.rows.length ≤ K := by rw [hK]; exact iC u (by omega)
   have hB := fun M0 I0 h1 h2 h3 => aRH (X := X) (w0 := w0) (M0 := M0) (I0 := I0) (x := x) (r := gt m.a.rows (s : Int)) (b := b9) (u := u) (n := x.rows.length) (C := C) rfl (by omega) ⟨⟨rfl, hxc⟩, ⟨by omega, by omega⟩, c1, c2⟩ (by omega) hrs h1 h2 h3
   rw [hxq, hxl] at hB
   have hbi := aTN (R := m.a.rows.length) (C := C) (A := m.a.q) (ix := ix) (b := aBT (gt m.a.rows (s : Int)).q) (i := s) (fun c hc => by rw [aFG, hat c hc])
   by_cases hso : qN C ix.length (vB ix.length C (gM m.a.q ix)) (aBT (gt m.a.rows (s : Int)).q)
   ·simp only [if_pos hso] at hB
    have hsl := aTQ hso
    repeat (refine aI ?_)
    rw [hsn]
    repeat (refine aI ?_)
    (refine lW rfl rfl (hB _ _ aB aB aB) rfl rfl rfl ?_; rintro _ _ _ ⟨rfl, z, rfl, hz, rfl⟩; refine ⟨okF, ?_⟩)
    have hzl : z.es.length = ix.length := by have := congrArg List.length hz; rw [aPY, List.length_map] at this; exact this
    rw [hxl] at hKn
    generalize kb u ix.length = K1 at *
    repeat (refine aI ?_)
    (refine aA rfl (hOw _ _) rfl rfl ?_; rintro _ _ _ ⟨by_, es, rfl, hel, heq, rfl, rfl⟩; refine ⟨okF, ?_⟩)
    refine fD (φ := dD es K) (Hv.allMono (k := 0) aB (Nat.zero_le _)) ?_
    refine fD (φ := aV z.p (recs eR z.es)) (Hv.lsl aB) ?_
    repeat (refine aI ?_)
    refine aQ [2, 8, 10, 11, 16, 38, 39, 40, 61, 62] rfl (fun k G M I => ∃ (t : Nat) (es : List RE), t ≤ ix.length ∧ k = ix.length - t ∧ es.length = m.a.rows.length ∧ (∀ k', k' < t → (gt es ((ix.getD k' 0 : Nat) : Int)).q = z.q.getD k' 0) ∧ (∀ t : Nat, t < m.a.rows.length → t ∉ ix → (gt es (t : Int)).q = mM s t) ∧ G = [(63, .int .i64 t)] ∧ M = .blk by_ (recs eR es) 42 :: .row qo rows.length co (recs eL rows) 34 1 :: M0 ∧ I = dD es K :: aV z.p (recs eR z.es) :: jR z K1 :: mO rows K :: aV (some ⟨b9, 0, none⟩) [mv x] :: fF x u :: aV q1 (recs eZ (zs ix)) :: aV (some ⟨b1, 0, none⟩) [mv m.a, lv m.l, lv m.p] :: aV m.a.p (recs eL m.a.rows) :: fF m.a u :: I0) (ix.length) _ _ _ aR aG aD (⟨0, es, by omega, rfl, hel, fun k' hk' => by omega, fun t ht _ => heq t ht, rfl, rfl, rfl⟩) ?_
    rintro kk G M I ⟨t, es2, ht, rfl, hel2, hz2, ho2, rfl, rfl, rfl⟩
    by_cases htn : t < ix.length
    ·have hgz := aMB htn
     have hpR := hixR _ (gK.2 ⟨t, htn, rfl⟩)
     have hzs : (zs ix).length = ix.length := by simp
     refine bQ (φ := eY (gt z.es (t : Int)) K1) (Hv.lel aB (by omega)) ?_
     refine bQ (φ := eY (gt z.es (t : Int)) K) (Hv.q (k := K1) aB hKn) ?_
     repeat (refine aI ?_)
     (refine aN rfl rfl ?_; intro b8; refine ⟨okF, ?_⟩)
     repeat (refine aI ?_)
     refine aBG .here ?_
     (repeat refine aJ ?_); refine bE 0 [0, 1, 2, 3, 4, 5, 6, 7] [0, 0, 0, 0, 0, 0, 0, 0] mixed (by kernel_rfl) ?_
     repeat (refine aI ?_)
     rw [hgz]
     repeat (refine aI ?_)
     refine eT (φ := dD (st es2 ((ix.getD t 0 : Nat) : Int) (gt z.es (t : Int))) K) (Hv.stR aB aB) ?_
     refine aL (ix.length - (t + 1)) _ _ _ (by first | omega | (simp only [List.length_append, List.length_cons, List.length_nil]; omega)) aR aG aD (⟨t + 1, st es2 ((ix.getD t 0 : Nat) : Int) (gt z.es (t : Int)), by omega, rfl, by rw [cZ]; exact hel2, fun k' hk' => ?_, fun t' ht' hn' => ?_, rfl, rfl, rfl⟩)
     ·have hk'R := hixR _ (gK.2 ⟨k', (by omega : k' < ix.length), rfl⟩)
      rw [nJ (by omega)]
      by_cases e1 : k' = t
      ·subst e1; rw [if_pos rfl, fA (by omega)]
      ·rw [if_neg (fun e2 => e1 (by rw [← hix] at e2 htn; exact aSB (by rw [hix]; omega) htn e2))]; exact hz2 k' (by omega)
     ·rw [nJ (by omega), if_neg (fun e2 => hn' (by rw [e2]; exact gK.2 ⟨t, htn, rfl⟩))]
      exact ho2 t' ht' hn'
    ·obtain rfl : t = ix.length := by omega
     have hfi : firmR m.a.rows.length C m.a.q set i (qs es2) := close es2 z hel2 hz2 ho2 (fun c hc => by
      have := hsl c hc
      rw [aFG, hat c hc] at this
      rw [← this, hz]
      exact bA (fun k hk => by rw [aBI hc hk, aCX hk, kT hk]))
     repeat (refine aI ?_)
     refine aFR (k := K) aB ?_
     rw [show Value.slice (some ⟨by_, 0, none⟩) m.a.rows.length m.a.rows.length = lv (⟨some ⟨by_, 0, none⟩, es2.length, es2⟩ : RL) by show _ = Value.slice (some ⟨by_, 0, none⟩) es2.length es2.length; rw [hel2]]
     (refine aO (cs := recs eL [(⟨some ⟨by_, 0, none⟩, es2.length, es2⟩ : RL)]) ([lv (⟨some ⟨by_, 0, none⟩, es2.length, es2⟩ : RL)]) rfl rfl (by intro v hv; repeat (first | exact absurd hv (List.not_mem_nil) | (rcases List.mem_cons.1 hv with rfl | hv; · rfl))) (by omega) rfl rfl rfl ?_; intro bb; refine ⟨okF, ?_⟩)
     (refine dV (ys := [(⟨some ⟨by_, 0, none⟩, es2.length, es2⟩ : RL)]) 1 rfl rfl rfl ?_ (by decide) rfl (by omega) (by omega) rfl rfl ?_; (· first | exact Src.blk aB | exact Src.row aB | exact Src.imm aB (by first | assumption | exact .inl (Ok.mk _ _))); intro q2 c2'; refine ⟨okF, ?_⟩)
     repeat (refine aI ?_)
     refine eT (φ := mO (rows ++ [(⟨some ⟨by_, 0, none⟩, es2.length, es2⟩ : RL)]) K) (Hv.snocL aB aB) ?_
     refine aL (set.length - (i + 1)) _ _ _ (by first | omega | (simp only [List.length_append, List.length_cons, List.length_nil]; omega)) aR aG aD (⟨i + 1, rows ++ [(⟨some ⟨by_, 0, none⟩, es2.length, es2⟩ : RL)], q2, c2', by omega, rfl, by simp; omega, fun r hr => ?_, fun t ht => ?_, rfl, rfl, rfl⟩)
     ·rcases List.mem_append.1 hr with h | h
      ·exact hrlen r h
      ·rw [List.mem_singleton.1 h]; exact hel2
     ·by_cases e1 : t < i
      ·have : gt (rows ++ [(⟨some ⟨by_, 0, none⟩, es2.length, es2⟩ : RL)]) (t : Int) = gt rows (t : Int) := by rw [dH (by simp; omega), dH (by omega), List.getElem_append_left (by omega)]
       rw [this]; exact hfr t e1
      ·obtain rfl : t = i := by omega
       have : gt (rows ++ [(⟨some ⟨by_, 0, none⟩, es2.length, es2⟩ : RL)]) (t : Int) = ⟨some ⟨by_, 0, none⟩, es2.length, es2⟩ := rU (A := rows) (B := []) (by omega)
       rw [this]
       exact ⟨hfi, fun z' hz' => by rw [hsn]; exact hbi.1 hso z' hz'⟩
   ·simp only [if_neg hso] at hB
    have hu : und m.a.rows.length C m.a.q set := Classical.byContradiction (fun hn => hso (hbi.2 (fun z hz => (aLL hA).1 hn s hsR hsm z (fun k hk => hz k (by rw [← hix]; exact hk)))))
    simp only [if_pos hu]
    repeat (refine aI ?_)
    rw [hsn]
    repeat (refine aI ?_)
    (refine lW rfl rfl (hB _ _ aB aB aB) rfl rfl rfl ?_; rintro _ _ _ ⟨rfl, rfl, rfl⟩; refine ⟨okF, ?_⟩)
    repeat (refine aI ?_)
    refine bZ [4, 5] (by first | exact .inl rfl | exact .inr rfl) rfl rfl rfl _ _ aG aD (⟨rfl, rfl, rfl⟩)
 ·obtain rfl : i = set.length := by omega
  have hfir : firmP m.a.rows.length C m.a.q set (rows.map RL.q) := ⟨by simp [hrow], fun t ht => by
   have ht' := List.mem_range.1 ht
   have := (hfr t ht').1
   have e : rowAt (rows.map RL.q) t = (gt rows (t : Int)).q := nO (m := ⟨none, 0, rows⟩) (by show t < rows.length; omega)
   rw [e]; exact this⟩
  have hu : ¬ und m.a.rows.length C m.a.q set := hfir.und hA hin
  simp only [if_neg hu]
  repeat (refine aI ?_)
  refine xC (k := K) aB ?_
  refine aOM (M' := M0) (I' := fF ⟨qo, co, rows⟩ K :: I0) SubP.refl aD ?_
  refine bZ [4, 5] (by first | exact .inl rfl | exact .inr rfl) rfl rfl rfl _ _ aG aD (⟨rfl, ⟨qo, co, rows⟩, rfl, hfir, hrow, hrlen, rfl⟩)
end
end Go.Proofs.YtgeagiikkeiioaaGreat

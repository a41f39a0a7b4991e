/- resect.Direct: one pair's two equations. -/
import Derived.Test.YtkccjglmnhgabaaGreatZhbj
import Derived.Test.YtkccjglmnhgabaaGreatZhax
set_option linter.unusedSimpArgs false
set_option linter.unusedVariables false
set_option maxRecDepth 100000
set_option maxHeartbeats 4000000
namespace Go.Proofs.YtkccjglmnhgabaaGreat
open Go Go.Fx
structure VE where
 x : RE
 y : RE
 z : RE
instance VE.inh : Inhabited VE := ⟨⟨default, default, default⟩⟩
abbrev eV (p : VE) : List Value := recs eR [p.x, p.y, p.z]
instance VE.szd : Sized eV 12 := ⟨fun _ => rfl⟩
instance VE.one : Ones eV := ⟨fun m u hu => vV _ u hu⟩
def VE.raw (p : VE) : VW := ⟨p.x.raw, p.y.raw, p.z.raw⟩
def VE.q (p : VE) : List Rat := [p.x.q, p.y.q, p.z.q]
structure IsV (p : VE) (k : Nat) (X : List Nat) (w : World) : Prop where
 x : IsR p.x k X w
 y : IsR p.y k X w
 z : IsR p.z k X w
abbrev isV (p : VE) (k : Nat) : aZ := IsV p k
instance VE.gd (p : VE) (k : Nat) : Fx.Good (IsV p k) := ⟨fun X Y w w' h he hY => ⟨Fx.Good.go (φ := IsR _ _) X Y w w' h.x he hY, Fx.Good.go (φ := IsR _ _) X Y w w' h.y he hY, Fx.Good.go (φ := IsR _ _) X Y w w' h.z he hY⟩⟩
structure AllV (ps : List VE) (k : Nat) (X : List Nat) (w : World) : Prop where
 go : ∀ p ∈ ps, IsV p k X w
abbrev zY (ps : List VE) (k : Nat) : aZ := AllV ps k
instance VE.gds (ps : List VE) (k : Nat) : Fx.Good (AllV ps k) := ⟨fun X Y w w' h he hY => ⟨fun r hm => Fx.Good.go (φ := IsV _ _) X Y w w' (h.go r hm) he hY⟩⟩
theorem Hv.vAt {I : List aZ} {ps : List VE} {k : Nat} {i : Int} (h : zY ps k ∈ I) (hi : 0 ≤ i ∧ i < ps.length) : Hv I (isV (gt ps i) k) := ⟨fun X w hw => (hw _ h : AllV ps k X w).go _ (dX hi)⟩
theorem Hv.vl {I : List aZ} {p : VE} {b k : Nat} (h : isV p k ∈ I) (hs : bI (some ⟨b, 0, none⟩) (eV p) ∈ I) : Hv I (iY ⟨some ⟨b, 0, none⟩, 3, [p.x, p.y, p.z]⟩ k) := ⟨fun X w hw => ⟨(hw _ hs : SlI _ _ X w).go, fun e he => by
 have h1 := (hw _ h : IsV p k X w)
 simp only [List.mem_cons, List.not_mem_nil, or_false] at he
 rcases he with rfl | rfl | rfl
 ·exact h1.x
 ·exact h1.y
 ·exact h1.z, ⟨Nat.le_refl 3, .inl (Ok.mk _ _)⟩⟩⟩
theorem Hv.allL3 {I : List aZ} {a b c : RL} {k : Nat} (h1 : iY a k ∈ I) (h2 : iY b k ∈ I) (h3 : iY c k ∈ I) : Hv I (kG [a, b, c] k) := ⟨fun X w hw => ⟨fun r hr => by
 simp only [List.mem_cons, List.not_mem_nil, or_false] at hr
 rcases hr with rfl | rfl | rfl
 ·exact hw _ h1
 ·exact hw _ h2
 ·exact hw _ h3⟩⟩
theorem Hv.snoc2 {I : List aZ} {rs : List RL} {a b : RL} {k : Nat} (h : kG rs k ∈ I) (h1 : iY a k ∈ I) (h2 : iY b k ∈ I) : Hv I (kG (rs ++ [a, b]) k) := ⟨fun X w hw => ⟨fun r hr => by
 rcases List.mem_append.1 hr with hr | hr
 ·exact (hw _ h : AllL rs k X w).go r hr
 ·simp only [List.mem_cons, List.not_mem_nil, or_false] at hr
  rcases hr with rfl | rfl
  ·exact hw _ h1
  ·exact hw _ h2⟩⟩
theorem aHR (W : List PE) : recs ePW (W.map PE.raw) = recs eP W := by
 unfold recs; rw [List.flatMap_map]; rfl
theorem sS {r : RL} {l m : Nat} (h : l + 4 = m ∧ m ≤ r.es.length) : Value.slice (uB r.p m l 4) 4 4 = lv (r.part l m) := by
 show _ = Value.slice (uB r.p m l 4) ((r.es.take m).drop l).length (m - l)
 rw [List.length_drop, List.length_take, show min m r.es.length - l = 4 by omega, show m - l = 4 by omega]
theorem qB {r : RL} {l m n : Nat} (h : m ≤ r.es.length) (e : m - l = n) : (r.part l m).es.length = n := by
 show ((r.es.take m).drop l).length = n
 rw [List.length_drop, List.length_take]; omega
theorem Hv.x3 {I : List aZ} {p : Option Addr} {a b c : RL} {k : Nat} (h : bI p (recs eL [a, b, c]) ∈ I) (hp : Ok p) (h1 : iY a k ∈ I) (h2 : iY b k ∈ I) (h3 : iY c k ∈ I) : Hv I (nU ⟨p, 3, [a, b, c]⟩ k) := ⟨fun X w hw => ⟨(hw _ h : SlI _ _ X w).go, fun r hr => by
 simp only [List.mem_cons, List.not_mem_nil, or_false] at hr
 rcases hr with rfl | rfl | rfl
 ·exact hw _ h1
 ·exact hw _ h2
 ·exact hw _ h3, ⟨Nat.le_refl 3, .inl hp⟩⟩⟩
def wsF (W : List VE) (i : Nat) : List Rat := (gt W (i : Int)).q
def psF (P : List PE) (i : Nat) : V2 := (gt P (i : Int)).v
section
variable {X : List Nat} {w0 : World} {M0 : List Ent} {I0 : List aZ}
theorem aFI {r : RL} {k : Nat} (hk : k ≤ 1000000000) (hl : r.es.length ≤ 100) (h : iY r k ∈ I0) : CD Tryz.prog 50 [lv r] X w0 M0 I0 (fun v M I => M0 = M ∧ I0 = I ∧ v = .bool true) := by
 refine pW (φ := r.raw.sml) (fun w hw => Mem.lsml h (by omega) (by omega) hw) (fun hs => ?_)
 refine uG (φ := rJ r.raw) (Hv.lraw h (by omega)) ?_
 have := wM (X := X) (w0 := w0) (M0 := M0) (I0 := rJ r.raw :: I0) hs (List.Mem.head _)
 rw [dG r.raw_good, aJX] at this
 exact this
theorem aHI {q1 q2 : Option Addr} {c1 c2 n K : Nat} {W : List VE} {P : List PE} (hn : 6 ≤ n ∧ n ≤ 16) (hW : W.length = n) (hP : P.length = n) (hK : K = kb 60 12) (h1 : bI q1 (recs eV W) ∈ I0) (h2 : bI q2 (recs eP P) ∈ I0) (a1 : zY W 30 ∈ I0) (a2 : pO P 30 ∈ I0)
  (hcan : ∀ M0 I0, bI q2 (recs eP P) ∈ I0 → pO P 30 ∈ I0 → CD Tryz.prog 49 [.slice q2 n c2] X w0 M0 I0 (fun v M I => M0 = M ∧ I0 = I ∧ v = .bool true)) :
  CD Tryz.prog 14 [.slice q1 n c1, .slice q2 n c2] X w0 M0 I0 (fun v M I => M0 = M ∧ Inc I I0 ∧ ((kI (eqs (wsF W) (psF P) n) 12).length = 0 ∧ v = .tuple #[.slice none 0 0, .int .i64 6] ∨
   1 < (kI (eqs (wsF W) (psF P) n) 12).length ∧ v = .tuple #[.slice none 0 0, .int .i64 13] ∨
   (kI (eqs (wsF W) (psF P) n) 12).length = 1 ∧ ∃ m : MX, v = .tuple #[mv m, .int .i64 0] ∧ m.q = thr (scl ((kI (eqs (wsF W) (psF P) n) 12).getD 0 [])) ∧ m.dim 3 4 ∧ nU m (2 * K) ∈ I)) := by
 have hWh := fun x M0 I0 (hx : -9223372036854775808 ≤ x ∧ x ≤ 9223372036854775807) (h : x.natAbs ≤ 2 ^ 0) => mV (X := X) (w0 := w0) (M0 := M0) (I0 := I0) (x := x) hx (k := 0) h
 have hT := fun (x : RL) κ M0 I0 hl h1 h2 => aAW (X := X) (w0 := w0) (M0 := M0) (I0 := I0) (x := x) (κ := κ) (u := 30) (m := 30) (n := 4) (by omega) (by omega) hl h1 h2
 have hTz := fun p κ M0 I0 h1 h2 => aEQ (X := X) (w0 := w0) (M0 := M0) (I0 := I0) (p := p) (κ := κ) (c := 4) (m := 0) (n := 4) (by omega) (by omega) h1 h2
 have hR2 := fun q ls M0 I0 h1 h2 h3 h4 => aBP (X := X) (w0 := w0) (M0 := M0) (I0 := I0) (q0 := q) (c0 := 2) (u := 30) (n := 2) (ls := ls) h1 (by omega) h2 h3 h4
 have hR3 := fun q ls M0 I0 h1 h2 h3 h4 => aBP (X := X) (w0 := w0) (M0 := M0) (I0 := I0) (q0 := q) (c0 := 3) (u := 60) (n := 3) (ls := ls) h1 (by omega) h2 h3 h4
 have hNg := fun e M0 I0 h => vW (X := X) (w0 := w0) (M0 := M0) (I0 := I0) (e := e) (k := 30) (by omega) h
 refine bE Tryz.func14 rfl Tryz.ntmps14 rfl ?_
 repeat (refine aJ ?_)
 (refine aA rfl (hcan _ _ aC aC) rfl rfl ?_; rintro _ _ _ ⟨rfl, rfl, rfl⟩; refine ⟨okF, ?_⟩)
 repeat (refine aJ ?_)
 refine bG [0, 1, 25, 26] rfl (fun k G M I => ∃ i : Nat, i ≤ n ∧ k = n - i ∧ G = [(6, .bool true), (27, .int .i64 i)] ∧ M0 = M ∧ I0 = I) (n) _ _ _ aO aD aF (⟨0, by omega, rfl, rfl, rfl, rfl⟩) ?_
 rintro kk G M I ⟨i, hi, rfl, rfl, rfl, rfl⟩
 by_cases hin : i < n
 ·refine fD (φ := isV (gt W (i : Int)) 30) (Hv.vAt a1 (by omega)) ?_
  have hCn := fun p M0 I0 h => aFI (X := X) (w0 := w0) (M0 := M0) (I0 := I0) (r := ⟨p, 3, [(gt W (i : Int)).x, (gt W (i : Int)).y, (gt W (i : Int)).z]⟩) (k := 30) (by omega) (by show 3 ≤ 100; omega) h
  repeat (refine aJ ?_)
  (refine aB rfl rfl ?_; intro b8; refine ⟨okF, ?_⟩)
  repeat (refine aJ ?_)
  refine bF (b := b8) (cs := eV (gt W (i : Int))) .here ?_
  refine fI (φ := iY ⟨some ⟨b8, 0, none⟩, 3, [(gt W (i : Int)).x, (gt W (i : Int)).y, (gt W (i : Int)).z]⟩ 30) (Hv.vl aC aC) ?_
  refine aH rfl (fun _ => jJ rfl) rfl rfl ?_
  (refine aA rfl (hCn (some ⟨b8, 0, none⟩) _ _ aC) rfl rfl ?_; rintro _ _ _ ⟨rfl, rfl, rfl⟩; refine ⟨okF, ?_⟩)
  repeat (refine aJ ?_)
  refine aS (n - (i + 1)) _ _ _ (by first | omega | (simp only [List.length_append, List.length_cons, List.length_nil]; omega)) aO aD aF (⟨i + 1, by omega, rfl, rfl, rfl, rfl⟩)
 obtain rfl : n = i := by omega
 repeat (refine aJ ?_)
 refine kU (fun G M I => ∃ z : RL, z.q = z4q ∧ G = [(0, .slice q1 n c1), (1, .slice q2 n c2), (9, lv z)] ∧ M0 = M ∧ I = iY z 30 :: I0) ?_ ?_
 ·((repeat refine aL ?_); refine iL (M0) (I0) mixed ?_)
  repeat (refine aJ ?_)
  refine aK (fuel := 3) (i := 0) (j := 1) (by kernel_rfl) ?_ ?_
  ·(refine jU (4) rfl rfl (by omega) (by omega) (by omega) (by omega) (pX (enc := eW) (by decide) zW 4) rfl rfl ?_; intro bz; refine ⟨okF, ?_⟩)
   refine aI ?_
   refine aG [1, 2, 3] [0, 0, 0] aD aF (by kernel_rfl) (by kernel_rfl) rfl rfl ?_
   repeat (refine aJ ?_)
   (refine aA rfl (hWh 0 _ _ (by decide) (by decide)) rfl rfl ?_; rintro _ _ _ ⟨rfl, e0, rfl, he0, rfl⟩; refine ⟨okF, ?_⟩)
   repeat (refine aJ ?_)
   (refine bF (b := bz) mW ?_; (refine aA rfl (hTz (some ⟨bz, 0, none⟩) e0 _ _ aC (Hv.mem aC)) rfl rfl ?_; rintro _ _ _ ⟨rfl, z, rfl, hz, rfl⟩; refine ⟨okF, ?_⟩))
   repeat (refine aJ ?_)
   refine bJ (φ := iY z 30) (Hv.lm (k := 0) aC (by omega)) ?_; refine aN _ _ _ aO aD aF ⟨z, hz, rfl, rfl, rfl⟩
  ·(refine aA rfl (hWh 0 _ _ (by decide) (by decide)) rfl rfl ?_; rintro _ _ _ ⟨rfl, e0, rfl, he0, rfl⟩; refine ⟨okF, ?_⟩)
   refine aI ?_
   refine aG [0, 2, 3] [0, 0, 0] aD aF (by kernel_rfl) (by kernel_rfl) rfl rfl ?_
   repeat (refine aJ ?_)
   (refine jU (4) rfl rfl (by omega) (by omega) (by omega) (by omega) (pX (enc := eW) (by decide) zW 4) rfl rfl ?_; intro bz; refine ⟨okF, ?_⟩)
   repeat (refine aJ ?_)
   (refine bF (b := bz) mW ?_; (refine aA rfl (hTz (some ⟨bz, 0, none⟩) e0 _ _ aC (Hv.mem aC)) rfl rfl ?_; rintro _ _ _ ⟨rfl, z, rfl, hz, rfl⟩; refine ⟨okF, ?_⟩))
   repeat (refine aJ ?_)
   refine bJ (φ := iY z 30) (Hv.lm (k := 0) aC (by omega)) ?_; refine aN _ _ _ aO aD aF ⟨z, hz, rfl, rfl, rfl⟩
 rintro G M I ⟨z, hz, rfl, rfl, rfl⟩
 have hzl : z.es.length = 4 := by have := congrArg List.length hz; simpa [z4q] using this
 repeat (refine aJ ?_)
 refine kT 39 1 ?_
 refine fD (φ := kG [] 60) ⟨fun X w hw => ⟨fun r hr => by simp at hr⟩⟩ ?_
 refine bG [1, 9, 55, 56] rfl (fun k G M I => ∃ (i : Nat) (rows : List RL) (q : Option Addr) (c : Nat), i ≤ n ∧ k = n - i ∧ rows.length = 2 * i ∧ rows.map RL.q = eqs (wsF W) (psF P) i ∧ G = [(10, .slice q rows.length c), (57, .int .i64 i)] ∧ M = .row q rows.length c (recs eL rows) 39 1 :: M0 ∧ I = kG rows 60 :: iY z 30 :: I0) (n) _ _ _ aO aD aF (⟨0, [], none, 0, by omega, rfl, rfl, rfl, rfl, rfl, rfl⟩) ?_
 rintro kk G M I ⟨i, rows, q, c, hi, rfl, hrl, hrq, rfl, rfl, rfl⟩
 by_cases hin : i < n
 ·refine fD (φ := isV (gt W (i : Int)) 30) (Hv.vAt (List.Mem.tail _ (List.Mem.tail _ a1)) (by omega)) ?_
  refine fD (φ := cZ (gt P (i : Int)) 30) ⟨fun X w hw => (hw _ (List.Mem.tail _ (List.Mem.tail _ (List.Mem.tail _ a2))) : AllP P 30 X w).go _ (dX (by omega))⟩ ?_
  refine fD (φ := bM (gt P (i : Int)).x 30) ⟨fun X w hw => (hw _ (List.Mem.head _) : IsP (gt P (i : Int)) 30 X w).x⟩ ?_
  refine fD (φ := bM (gt P (i : Int)).y 30) ⟨fun X w hw => (hw _ (List.Mem.tail _ (List.Mem.head _)) : IsP (gt P (i : Int)) 30 X w).y⟩ ?_
  repeat (refine aJ ?_)
  (refine aB rfl rfl ?_; intro b12; refine ⟨okF, ?_⟩)
  repeat (refine aJ ?_)
  refine yO (fun _ hw => hw.freezeB (b := b12) mW) ?_
  refine fD (φ := iY ⟨some ⟨b12, 0, none⟩, 3, [(gt W (i : Int)).x, (gt W (i : Int)).y, (gt W (i : Int)).z]⟩ 30) (Hv.vl aC aC) ?_
  refine kU (fun G M I => ∃ rp : RL, rp.q = pt4 (wsF W i) ∧ G = [(1, .slice q2 n c2), (9, lv z), (10, .slice q rows.length c), (11, .int .i64 i), (13, lv rp), (55, .slice q1 n c1), (56, .int .i64 n), (57, .int .i64 i)] ∧ M = .row q rows.length c (recs eL rows) 39 1 :: M0 ∧ I = iY rp 30 :: bM (gt P (i : Int)).y 30 :: bM (gt P (i : Int)).x 30 :: kG rows 60 :: iY z 30 :: I0) ?_ ?_
  ·(repeat refine aL ?_); refine fV [0, 1, 2, 3, 4, 5] [3, 0, 0, 0, 0, 0] mixed (by kernel_rfl) ?_
   repeat (refine aJ ?_)
   refine aH rfl (fun _ => jJ rfl) rfl rfl ?_
   repeat (refine aJ ?_)
   (refine aA rfl (hWh 1 _ _ (by decide) (by decide)) rfl rfl ?_; rintro _ _ _ ⟨rfl, e1, rfl, he1, rfl⟩; refine ⟨okF, ?_⟩)
   (refine bO (cs := recs eR [e1]) ([rv e1]) rfl rfl (by intro v hv; repeat (first | exact absurd hv (List.not_mem_nil) | (rcases List.mem_cons.1 hv with rfl | hv; · rfl))) (by omega) rfl rfl rfl ?_; intro bl; refine ⟨okF, ?_⟩)
   refine bF .here ?_
   refine fI (φ := bM e1 30) (Hv.q (k := 0) aC (by omega)) ?_
   refine fI (φ := iY ⟨some ⟨bl, 0, none⟩, 1, [e1]⟩ 30) (Hv.l1 aC aC) ?_
   repeat (refine aJ ?_)
   (refine bO (cs := recs eL [(⟨some ⟨b12, 0, none⟩, 3, [(gt W (i : Int)).x, (gt W (i : Int)).y, (gt W (i : Int)).z]⟩ : RL), ⟨some ⟨bl, 0, none⟩, 1, [e1]⟩]) ([lv ⟨some ⟨b12, 0, none⟩, 3, [(gt W (i : Int)).x, (gt W (i : Int)).y, (gt W (i : Int)).z]⟩, lv ⟨some ⟨bl, 0, none⟩, 1, [e1]⟩]) rfl rfl (by intro v hv; repeat (first | exact absurd hv (List.not_mem_nil) | (rcases List.mem_cons.1 hv with rfl | hv; · rfl))) (by omega) rfl rfl rfl ?_; intro bs; refine ⟨okF, ?_⟩)
   refine bF .here ?_
   refine fI (φ := kG [(⟨some ⟨b12, 0, none⟩, 3, [(gt W (i : Int)).x, (gt W (i : Int)).y, (gt W (i : Int)).z]⟩ : RL), ⟨some ⟨bl, 0, none⟩, 1, [e1]⟩] 30) (Hv.allL2 aC aC) ?_
   repeat (refine aJ ?_)
   (refine aA rfl (hR2 (some ⟨bs, 0, none⟩) [(⟨some ⟨b12, 0, none⟩, 3, [(gt W (i : Int)).x, (gt W (i : Int)).y, (gt W (i : Int)).z]⟩ : RL), ⟨some ⟨bl, 0, none⟩, 1, [e1]⟩] _ _ rfl (fun r hr => by simp only [List.mem_cons, List.not_mem_nil, or_false] at hr; rcases hr with rfl | rfl <;> (show _ ≤ 100; simp)) aC aC) rfl rfl ?_; rintro _ _ _ ⟨rfl, rp, rfl, hrp, rfl⟩; refine ⟨okF, ?_⟩)
   repeat (refine aJ ?_)
   refine aN _ _ _ aO aD aF ⟨rp, by rw [hrp]; show [_, _, _, e1.q] = _; rw [he1]; rfl, rfl, rfl, rfl⟩
  rintro G M I ⟨rp, hrp, rfl, rfl, rfl⟩
  have hrpl : rp.es.length = 4 := by have := congrArg List.length hrp; simpa [pt4, wsF, VE.q] using this
  refine oF (fun G M I => ∃ (b14 b15 : Nat) (ex ey : RE), ex.q = -(psF P i).x ∧ ey.q = -(psF P i).y ∧ G = [(1, .slice q2 n c2), (9, lv z), (10, .slice q rows.length c), (13, lv rp), (14, .pointer (some ⟨b14, 0, none⟩)), (15, .pointer (some ⟨b15, 0, none⟩)), (55, .slice q1 n c1), (56, .int .i64 n), (57, .int .i64 i)] ∧ M = .blk b15 (eR ey) 37 :: .blk b14 (eR ex) 37 :: .row q rows.length c (recs eL rows) 39 1 :: M0 ∧ I = bM ey 30 :: bM ex 30 :: iY rp 30 :: kG rows 60 :: iY z 30 :: I0) ?_ ?_
  ·((repeat refine aL ?_); refine iL (M0) (bM (gt P (i : Int)).y 30 :: bM (gt P (i : Int)).x 30 :: I0) mixed ?_)
   refine bH (fuel := 6) (listed' := #[true, true, true, true, true, false, true, true, true, true, true, false, false, false, false, false]) [0, 1, 2, 3, 4, 6, 7, 8, 9, 10] [4, 4, 4, 4, 3, 5, 5, 5, 5, 4] aD aF (by kernel_rfl) (by kernel_rfl) rfl rfl ?_
   repeat (refine aJ ?_)
   (apply kZ; exact iA; exact rfl; exact aC; exact AtsZ.r4 (enc := eP) (ms := P) (i := (i : Int)) (j := 0) (by omega) rfl rfl rfl rfl; exact rfl; exact rfl)
   repeat (refine aJ ?_)
   (apply kZ; exact iA; exact rfl; exact aC; exact AtsZ.r4 (enc := eP) (ms := P) (i := (i : Int)) (j := 4) (by omega) rfl rfl rfl rfl; exact rfl; exact rfl)
   repeat (refine aJ ?_)
   refine fB (fuel := 5) (i := 5) (j := 12) (m := 13) (by kernel_rfl) ?_ ?_ ?_
   ·(refine aA rfl (hNg (gt P (i : Int)).x _ _ (Hv.mem aC)) rfl rfl ?_; rintro _ _ _ ⟨rfl, ex, rfl, hex, rfl⟩; refine ⟨okF, ?_⟩)
    refine aI ?_
    repeat (refine aJ ?_)
    refine fB (fuel := 4) (i := 11) (j := 12) (m := 13) (by kernel_rfl) ?_ ?_ ?_
    ·(refine aA rfl (hNg (gt P (i : Int)).y _ _ (Hv.mem aC)) rfl rfl ?_; rintro _ _ _ ⟨rfl, ey, rfl, hey, rfl⟩; refine ⟨okF, ?_⟩)
     refine aI ?_
     repeat (refine aJ ?_)
     refine aK (fuel := 3) (i := 12) (j := 13) (by kernel_rfl) ?_ ?_
     ·(refine aB rfl rfl ?_; intro b14; refine ⟨okF, ?_⟩)
      refine aI ?_
      refine aG [13, 14, 15] [0, 0, 0] aD aF (by kernel_rfl) (by kernel_rfl) rfl rfl ?_
      repeat (refine aJ ?_)
      (refine aB rfl rfl ?_; intro b15; refine ⟨okF, ?_⟩)
      repeat (refine aJ ?_)
      refine aN _ _ _ aO aD aF ⟨b14, b15, ex, ey, hex, hey, rfl, rfl, rfl⟩
     ·(refine aB rfl rfl ?_; intro b15; refine ⟨okF, ?_⟩)
      refine aI ?_
      refine aG [12, 14, 15] [0, 0, 0] aD aF (by kernel_rfl) (by kernel_rfl) rfl rfl ?_
      repeat (refine aJ ?_)
      (refine aB rfl rfl ?_; intro b14; refine ⟨okF, ?_⟩)
      repeat (refine aJ ?_)
      refine aN _ _ _ aO aD aF ⟨b14, b15, ex, ey, hex, hey, rfl, rfl, rfl⟩
    ·(refine aB rfl rfl ?_; intro b14; refine ⟨okF, ?_⟩)
     refine aI ?_
     repeat (refine aJ ?_)
     refine aK (fuel := 3) (i := 11) (j := 13) (by kernel_rfl) ?_ ?_
     ·(refine aA rfl (hNg (gt P (i : Int)).y _ _ (Hv.mem aC)) rfl rfl ?_; rintro _ _ _ ⟨rfl, ey, rfl, hey, rfl⟩; refine ⟨okF, ?_⟩)
      refine aI ?_
      refine aG [13, 14, 15] [0, 0, 0] aD aF (by kernel_rfl) (by kernel_rfl) rfl rfl ?_
      repeat (refine aJ ?_)
      (refine aB rfl rfl ?_; intro b15; refine ⟨okF, ?_⟩)
      repeat (refine aJ ?_)
      refine aN _ _ _ aO aD aF ⟨b14, b15, ex, ey, hex, hey, rfl, rfl, rfl⟩
     ·(refine aB rfl rfl ?_; intro b15; refine ⟨okF, ?_⟩)
      refine aI ?_
      refine aG [11, 14, 15] [0, 0, 0] aD aF (by kernel_rfl) (by kernel_rfl) rfl rfl ?_
      repeat (refine aJ ?_)
      (refine aA rfl (hNg (gt P (i : Int)).y _ _ (Hv.mem aC)) rfl rfl ?_; rintro _ _ _ ⟨rfl, ey, rfl, hey, rfl⟩; refine ⟨okF, ?_⟩)
      repeat (refine aJ ?_)
      refine aN _ _ _ aO aD aF ⟨b14, b15, ex, ey, hex, hey, rfl, rfl, rfl⟩
    ·(refine aB rfl rfl ?_; intro b15; refine ⟨okF, ?_⟩)
     refine aI ?_
     repeat (refine aJ ?_)
     refine aK (fuel := 3) (i := 11) (j := 12) (by kernel_rfl) ?_ ?_
     ·(refine aA rfl (hNg (gt P (i : Int)).y _ _ (Hv.mem aC)) rfl rfl ?_; rintro _ _ _ ⟨rfl, ey, rfl, hey, rfl⟩; refine ⟨okF, ?_⟩)
      refine aI ?_
      refine aG [12, 14, 15] [0, 0, 0] aD aF (by kernel_rfl) (by kernel_rfl) rfl rfl ?_
      repeat (refine aJ ?_)
      (refine aB rfl rfl ?_; intro b14; refine ⟨okF, ?_⟩)
      repeat (refine aJ ?_)
      refine aN _ _ _ aO aD aF ⟨b14, b15, ex, ey, hex, hey, rfl, rfl, rfl⟩
     ·(refine aB rfl rfl ?_; intro b14; refine ⟨okF, ?_⟩)
      refine aI ?_
      refine aG [11, 14, 15] [0, 0, 0] aD aF (by kernel_rfl) (by kernel_rfl) rfl rfl ?_
      repeat (refine aJ ?_)
      (refine aA rfl (hNg (gt P (i : Int)).y _ _ (Hv.mem aC)) rfl rfl ?_; rintro _ _ _ ⟨rfl, ey, rfl, hey, rfl⟩; refine ⟨okF, ?_⟩)
      repeat (refine aJ ?_)
      refine aN _ _ _ aO aD aF ⟨b14, b15, ex, ey, hex, hey, rfl, rfl, rfl⟩
   ·(refine aB rfl rfl ?_; intro b14; refine ⟨okF, ?_⟩)
    refine aI ?_
    repeat (refine aJ ?_)
    refine aK (fuel := 4) (i := 5) (j := 13) (by kernel_rfl) ?_ ?_
    ·(refine aA rfl (hNg (gt P (i : Int)).x _ _ (Hv.mem aC)) rfl rfl ?_; rintro _ _ _ ⟨rfl, ex, rfl, hex, rfl⟩; refine ⟨okF, ?_⟩)
     refine aI ?_
     repeat (refine aJ ?_)
     refine aK (fuel := 3) (i := 11) (j := 13) (by kernel_rfl) ?_ ?_
     ·(refine aA rfl (hNg (gt P (i : Int)).y _ _ (Hv.mem aC)) rfl rfl ?_; rintro _ _ _ ⟨rfl, ey, rfl, hey, rfl⟩; refine ⟨okF, ?_⟩)
      refine aI ?_
      refine aG [13, 14, 15] [0, 0, 0] aD aF (by kernel_rfl) (by kernel_rfl) rfl rfl ?_
      repeat (refine aJ ?_)
      (refine aB rfl rfl ?_; intro b15; refine ⟨okF, ?_⟩)
      repeat (refine aJ ?_)
      refine aN _ _ _ aO aD aF ⟨b14, b15, ex, ey, hex, hey, rfl, rfl, rfl⟩
     ·(refine aB rfl rfl ?_; intro b15; refine ⟨okF, ?_⟩)
      refine aI ?_
      refine aG [11, 14, 15] [0, 0, 0] aD aF (by kernel_rfl) (by kernel_rfl) rfl rfl ?_
      repeat (refine aJ ?_)
      (refine aA rfl (hNg (gt P (i : Int)).y _ _ (Hv.mem aC)) rfl rfl ?_; rintro _ _ _ ⟨rfl, ey, rfl, hey, rfl⟩; refine ⟨okF, ?_⟩)
      repeat (refine aJ ?_)
      refine aN _ _ _ aO aD aF ⟨b14, b15, ex, ey, hex, hey, rfl, rfl, rfl⟩
    ·(refine aB rfl rfl ?_; intro b15; refine ⟨okF, ?_⟩)
     refine aI ?_
     refine aG [5, 11, 14, 15] [0, 0, 0, 0] aD aF (by kernel_rfl) (by kernel_rfl) rfl rfl ?_
     repeat (refine aJ ?_)
     (refine aA rfl (hNg (gt P (i : Int)).x _ _ (Hv.mem aC)) rfl rfl ?_; rintro _ _ _ ⟨rfl, ex, rfl, hex, rfl⟩; refine ⟨okF, ?_⟩)
     repeat (refine aJ ?_)
     (refine aA rfl (hNg (gt P (i : Int)).y _ _ (Hv.mem aC)) rfl rfl ?_; rintro _ _ _ ⟨rfl, ey, rfl, hey, rfl⟩; refine ⟨okF, ?_⟩)
     repeat (refine aJ ?_)
     refine aN _ _ _ aO aD aF ⟨b14, b15, ex, ey, hex, hey, rfl, rfl, rfl⟩
   ·(refine aB rfl rfl ?_; intro b15; refine ⟨okF, ?_⟩)
    refine aI ?_
    repeat (refine aJ ?_)
    refine aK (fuel := 4) (i := 5) (j := 12) (by kernel_rfl) ?_ ?_
    ·(refine aA rfl (hNg (gt P (i : Int)).x _ _ (Hv.mem aC)) rfl rfl ?_; rintro _ _ _ ⟨rfl, ex, rfl, hex, rfl⟩; refine ⟨okF, ?_⟩)
     refine aI ?_
     repeat (refine aJ ?_)
     refine aK (fuel := 3) (i := 11) (j := 12) (by kernel_rfl) ?_ ?_
     ·(refine aA rfl (hNg (gt P (i : Int)).y _ _ (Hv.mem aC)) rfl rfl ?_; rintro _ _ _ ⟨rfl, ey, rfl, hey, rfl⟩; refine ⟨okF, ?_⟩)
      refine aI ?_
      refine aG [12, 14, 15] [0, 0, 0] aD aF (by kernel_rfl) (by kernel_rfl) rfl rfl ?_
      repeat (refine aJ ?_)
      (refine aB rfl rfl ?_; intro b14; refine ⟨okF, ?_⟩)
      repeat (refine aJ ?_)
      refine aN _ _ _ aO aD aF ⟨b14, b15, ex, ey, hex, hey, rfl, rfl, rfl⟩
     ·(refine aB rfl rfl ?_; intro b14; refine ⟨okF, ?_⟩)
      refine aI ?_
      refine aG [11, 14, 15] [0, 0, 0] aD aF (by kernel_rfl) (by kernel_rfl) rfl rfl ?_
      repeat (refine aJ ?_)
      (refine aA rfl (hNg (gt P (i : Int)).y _ _ (Hv.mem aC)) rfl rfl ?_; rintro _ _ _ ⟨rfl, ey, rfl, hey, rfl⟩; refine ⟨okF, ?_⟩)
      repeat (refine aJ ?_)
      refine aN _ _ _ aO aD aF ⟨b14, b15, ex, ey, hex, hey, rfl, rfl, rfl⟩
    ·(refine aB rfl rfl ?_; intro b14; refine ⟨okF, ?_⟩)
     refine aI ?_
     refine aG [5, 11, 14, 15] [0, 0, 0, 0] aD aF (by kernel_rfl) (by kernel_rfl) rfl rfl ?_
     repeat (refine aJ ?_)
     (refine aA rfl (hNg (gt P (i : Int)).x _ _ (Hv.mem aC)) rfl rfl ?_; rintro _ _ _ ⟨rfl, ex, rfl, hex, rfl⟩; refine ⟨okF, ?_⟩)
     repeat (refine aJ ?_)
     (refine aA rfl (hNg (gt P (i : Int)).y _ _ (Hv.mem aC)) rfl rfl ?_; rintro _ _ _ ⟨rfl, ey, rfl, hey, rfl⟩; refine ⟨okF, ?_⟩)
     repeat (refine aJ ?_)
     refine aN _ _ _ aO aD aF ⟨b14, b15, ex, ey, hex, hey, rfl, rfl, rfl⟩
  rintro G M I ⟨b14, b15, ex, ey, hex, hey, rfl, rfl, rfl⟩
  (repeat refine aL ?_); refine dJ (.blk b15 (eR ey) 37 :: .blk b14 (eR ex) 37 :: M0) (bM ey 30 :: bM ex 30 :: iY rp 30 :: kG rows 60 :: iY z 30 :: I0) [0, 1, 2, 3, 4, 8, 9, 10, 11, 5, 6, 7, 12, 13, 14, 15, 16, 17] [7, 7, 7, 7, 7, 7, 7, 7, 7, 0, 0, 0, 0, 0, 0, 0, 0, 0] aD aF mixed (by kernel_rfl) ?_
  repeat (refine aJ ?_)
  (refine aA rfl (hT rp ex _ _ hrpl aC (Hv.mem aC)) rfl rfl ?_; rintro _ _ _ ⟨rfl, t1, rfl, ht1, rfl⟩; refine ⟨okF, ?_⟩)
  (refine bO (cs := recs eL [rp, z, t1]) ([lv rp, lv z, lv t1]) rfl rfl (by intro v hv; repeat (first | exact absurd hv (List.not_mem_nil) | (rcases List.mem_cons.1 hv with rfl | hv; · rfl))) (by omega) rfl rfl rfl ?_; intro bA; refine ⟨okF, ?_⟩)
  refine bF (b := bA) mW ?_
  refine fI (φ := iY rp 60) (Hv.lm (k := 30) aC (by omega)) ?_
  refine fI (φ := iY z 60) (Hv.lm (k := 30) aC (by omega)) ?_
  refine fI (φ := iY t1 60) (Hv.lm (k := 30 + 30) aC (by omega)) ?_
  refine fI (φ := kG [rp, z, t1] 60) (Hv.allL3 aC aC aC) ?_
  have ht1l : t1.es.length = 4 := by have := congrArg List.length ht1; simpa using this
  repeat (refine aJ ?_)
  (refine aA rfl (hR3 (some ⟨bA, 0, none⟩) [rp, z, t1] _ _ rfl (fun r hr => by simp only [List.mem_cons, List.not_mem_nil, or_false] at hr; rcases hr with rfl | rfl | rfl <;> omega) aC aC) rfl rfl ?_; rintro _ _ _ ⟨rfl, r1, rfl, hr1, rfl⟩; refine ⟨okF, ?_⟩)
  repeat (refine aJ ?_)
  (refine aA rfl (hT rp ey _ _ hrpl aC (Hv.mem aC)) rfl rfl ?_; rintro _ _ _ ⟨rfl, t2, rfl, ht2, rfl⟩; refine ⟨okF, ?_⟩)
  have ht2l : t2.es.length = 4 := by have := congrArg List.length ht2; simpa using this
  (refine bO (cs := recs eL [z, rp, t2]) ([lv z, lv rp, lv t2]) rfl rfl (by intro v hv; repeat (first | exact absurd hv (List.not_mem_nil) | (rcases List.mem_cons.1 hv with rfl | hv; · rfl))) (by omega) rfl rfl rfl ?_; intro bB; refine ⟨okF, ?_⟩)
  refine bF (b := bB) mW ?_
  refine fI (φ := iY t2 60) (Hv.lm (k := 30 + 30) aC (by omega)) ?_
  refine fI (φ := kG [z, rp, t2] 60) (Hv.allL3 aC aC aC) ?_
  repeat (refine aJ ?_)
  (refine aA rfl (hR3 (some ⟨bB, 0, none⟩) [z, rp, t2] _ _ rfl (fun r hr => by simp only [List.mem_cons, List.not_mem_nil, or_false] at hr; rcases hr with rfl | rfl | rfl <;> omega) aC aC) rfl rfl ?_; rintro _ _ _ ⟨rfl, r2, rfl, hr2, rfl⟩; refine ⟨okF, ?_⟩)
  repeat (refine aJ ?_)
  (refine bO (cs := recs eL [r1, r2]) ([lv r1, lv r2]) rfl rfl (by intro v hv; repeat (first | exact absurd hv (List.not_mem_nil) | (rcases List.mem_cons.1 hv with rfl | hv; · rfl))) (by omega) rfl rfl rfl ?_; intro bC; refine ⟨okF, ?_⟩)
  (refine eQ (ys := [r1, r2]) 3 rfl rfl rfl ?_ (by decide) rfl (by omega) (by omega) rfl rfl ?_; (· first | exact Src.blk aC | exact Src.row aC | exact Src.imm aC (by first | assumption | exact .inl (Ok.mk _ _))); intro q2' c2'; refine ⟨okF, ?_⟩)
  repeat (refine aJ ?_)
  refine bJ (φ := kG (rows ++ [r1, r2]) 60) (Hv.snoc2 aC aC aC) ?_
  refine aS (n - (i + 1)) _ _ _ (by first | omega | (simp only [List.length_append, List.length_cons, List.length_nil]; omega)) aO aD aF (⟨i + 1, rows ++ [r1, r2], q2', c2', by omega, rfl, by simp; omega, ?_, rfl, rfl, rfl⟩)
  rw [List.map_append, hrq]
  show _ = eqs (wsF W) (psF P) i ++ [eqU (wsF W i) (psF P i).x, eqV (wsF W i) (psF P i).y]
  congr 1
  show [r1.q, r2.q] = _
  rw [hr1, hr2]
  unfold eqU eqV
  simp only [aLH, List.flatMap_cons, List.flatMap_nil, List.append_nil]
  rw [ht1, ht2, hz, hrp, hex, hey]
 obtain rfl : n = i := by omega
 have hrow : ∀ r ∈ rows, r.es.length = 12 := fun r hr => by
  have h12 := aGI (W := wsF W) (P := psF P) (n := n) (fun i hi => rfl) r.q (by rw [← hrq]; exact List.mem_map.2 ⟨r, hr, rfl⟩)
  have : r.q.length = r.es.length := by show (qs r.es).length = _; simp [qs]
  omega
 refine yO (fun _ hw => Mem.toX hw aC) ?_
 obtain ⟨mat, hmat⟩ : ∃ mat : MX, mat = ⟨q, c, rows⟩ := ⟨_, rfl⟩
 have hmv : Value.slice q rows.length c = mv mat := by rw [hmat]
 have hmq : mat.q = eqs (wsF W) (psF P) n := by rw [hmat]; exact hrq
 have hmf : mat.fit (2 * n) 12 := by rw [hmat]; exact ⟨⟨hrl, hrow⟩, by omega, by omega⟩
 rw [← hmat, hmv, ← hmq]
 clear hrow
 repeat (refine aJ ?_)
 (refine aA rfl (aNS (R := 2 * n) (C := 12) (k0 := 60) (by decide) hmf aC) rfl rfl ?_; rintro _ _ _ ⟨rfl, nl, rfl, hnq, hnr, rfl⟩; refine ⟨okF, ?_⟩)
 rw [← hK, ← hnq]
 have hnl : nl.q.length = nl.rows.length := by simp
 rw [hnl]
 refine fI (φ := bI (nl).p (recs eL (nl).rows)) (Hv.xsl aC) ?_
 by_cases l0 : nl.rows.length = 0
 ·repeat (refine aJ ?_)
  refine jI [4, 5] (by first | exact .inl rfl | exact .inr rfl) rfl rfl rfl M0 I0 aD aF ⟨rfl, Inc.refl, .inl ⟨l0, rfl⟩⟩
 by_cases l1 : nl.rows.length = 1
 ·have hr12 : (gt nl.rows 0).es.length = 12 := hnr _ (dX (by omega))
  have hget : nl.q.getD 0 [] = (gt nl.rows 0).q := by
   show (nl.rows.map RL.q).getD 0 [] = (gt nl.rows ((0 : Nat) : Int)).q
   rw [fH (by omega)]
   simp [List.getD, l1]
  rw [hget]
  refine fI (φ := iY (gt nl.rows 0) K) (Hv.xrow aC (by omega)) ?_
  refine fI (φ := bI (gt nl.rows 0).p (recs eR (gt nl.rows 0).es)) (Hv.xrsl (m := nl) (k := K) aC (by omega)) ?_
  have hK2 : K ≤ 2000000000 := by rw [hK]; decide
  have hQ := fun e M0 I0 h => kE (X := X) (w0 := w0) (M0 := M0) (I0 := I0) (e := e) (k := K) (by omega) h
  have hlq : (gt nl.rows 0).q.length = 12 := by rw [← hr12]; show (qs _).length = _; simp [qs]
  have hgq : ∀ j : Nat, j < 12 → (gt nl.rows 0).q.getD j 0 = (gt (gt nl.rows 0).es (j : Int)).q := fun j hj => kH (by omega)
  refine mQ (fun w hw => ((hw.imm _ (show iY (gt nl.rows 0) K ∈ _ by exact aC)).2 : IsL (gt nl.rows 0) K _ w).cap.1) (fun hcap => ?_)
  repeat (refine aJ ?_)
  rw [hr12]
  refine bG [115, 116] rfl (fun k G M I => ∃ i : Nat, i ≤ 12 ∧ k = 12 - i ∧ (∀ j : Nat, j < i → (gt (gt nl.rows 0).es (j : Int)).q = 0) ∧ G = [(18, .slice (gt nl.rows 0).p 12 (gt nl.rows 0).c), (117, .int .i64 i)] ∧ M0 = M ∧ I = bI (gt nl.rows 0).p (recs eR (gt nl.rows 0).es) :: iY (gt nl.rows 0) K :: I0) (12) _ _ _ aO aD aF (⟨0, by omega, rfl, fun j hj => by omega, rfl, rfl, rfl⟩) ?_
  rintro kk G M I ⟨i, hi, rfl, hzs, rfl, rfl, rfl⟩
  by_cases hin : i < 12
  ·refine fD (φ := bM (gt (gt nl.rows 0).es (i : Int)) K) ⟨fun X w hw => ((hw _ (List.Mem.tail _ (List.Mem.head _)) : IsL (gt nl.rows 0) K X w)).el _ (dX (by omega))⟩ ?_
   by_cases h0 : (gt (gt nl.rows 0).es (i : Int)).q = 0
   ·have hQz := hQ (gt (gt nl.rows 0).es (i : Int))
    rw [(rF _).2 h0] at hQz
    repeat (refine aJ ?_)
    (refine aB rfl rfl ?_; intro b20; refine ⟨okF, ?_⟩)
    repeat (refine aJ ?_)
    (refine aA rfl (hQz _ _ (Hv.mem aC)) rfl rfl ?_; rintro _ _ _ ⟨rfl, rfl, rfl⟩; refine ⟨okF, ?_⟩)
    repeat (refine aJ ?_)
    refine aS (12 - (i + 1)) _ _ _ (by first | omega | (simp only [List.length_append, List.length_cons, List.length_nil]; omega)) aO aD aF (⟨i + 1, by omega, rfl, fun j hj => ?_, rfl, rfl, rfl⟩)
    by_cases e : j = i
    ·subst e; exact h0
    ·exact hzs j (by omega)
   ·have hs1 : ¬ (gt (gt nl.rows 0).es (i : Int)).q.num.sign = 0 := fun h => h0 ((rF _).1 h)
    have hQz := hQ (gt (gt nl.rows 0).es (i : Int))
    have hD := fun (x : RE) M0 I0 h1 h2 => oC (X := X) (w0 := w0) (M0 := M0) (I0 := I0) (a := x) (b := gt (gt nl.rows 0).es (i : Int)) (k := 0) (m := K) (by omega) h0 h1 h2
    have hle := aOC (l := (gt nl.rows 0).q) (i := i) (by omega) (fun j hj => by rw [hgq j (by omega)]; exact hzs j hj) (by rw [hgq i hin]; exact h0)
    rw [hgq i hin] at hle
    generalize (gt (gt nl.rows 0).es (i : Int)).q.num.sign = sg1 at *
    repeat (refine aJ ?_)
    (refine aB rfl rfl ?_; intro b20; refine ⟨okF, ?_⟩)
    repeat (refine aJ ?_)
    (refine aA rfl (hQz _ _ (Hv.mem aC)) rfl rfl ?_; rintro _ _ _ ⟨rfl, rfl, rfl⟩; refine ⟨okF, ?_⟩)
    repeat (refine aJ ?_)
    refine kU (fun G M I => ∃ (b21 : Nat) (e21 : RE), e21.q = 1 / (gt (gt nl.rows 0).es (i : Int)).q ∧ G = [(18, .slice (gt nl.rows 0).p 12 (gt nl.rows 0).c), (21, .pointer (some ⟨b21, 0, none⟩))] ∧ M = .blk b21 (eR e21) 37 :: M0 ∧ I = bM e21 K :: iY (gt nl.rows 0) K :: I0) ?_ ?_
    ·((repeat refine aL ?_); refine iL (.blk b20 (eR (gt (gt nl.rows 0).es (i : Int))) 37 :: M0) (bM (gt (gt nl.rows 0).es (i : Int)) K :: iY (gt nl.rows 0) K :: I0) mixed ?_)
     refine bH (fuel := 8) (listed' := #[false, true, false, false, false, false, false, false, false]) [1] [2] aD aF (by kernel_rfl) (by kernel_rfl) rfl rfl ?_
     repeat (refine aJ ?_)
     refine aK (fuel := 7) (i := 0) (j := 6) (by kernel_rfl) ?_ ?_
     ·(refine aA rfl (hWh 1 _ _ (by decide) (by decide)) rfl rfl ?_; rintro _ _ _ ⟨rfl, e1, rfl, he1, rfl⟩; refine ⟨okF, ?_⟩)
      refine aI ?_
      repeat (refine aJ ?_)
      refine aK (fuel := 6) (i := 2) (j := 6) (by kernel_rfl) ?_ ?_
      ·(refine aA rfl (hD e1 _ _ (Hv.mem aC) (Hv.mem aC)) rfl rfl ?_; rintro _ _ _ ⟨rfl, e21, rfl, he21, rfl⟩; refine ⟨okF, ?_⟩)
       refine aI ?_
       refine aG [3, 4, 5, 6, 7, 8] [1, 1, 2, 0, 0, 0] aD aF (by kernel_rfl) (by kernel_rfl) rfl rfl ?_
       repeat (refine aJ ?_)
       (refine aB rfl rfl ?_; intro b21; refine ⟨okF, ?_⟩)
       repeat (refine aJ ?_)
       refine bJ (φ := bM e21 K) (Hv.q (k := 0 + K) aC (by omega)) ?_; refine aN _ _ _ aO aD aF ⟨b21, e21, by rw [he21, he1]; rfl, rfl, rfl, rfl⟩
      ·(refine aB rfl rfl ?_; intro b21; refine ⟨okF, ?_⟩)
       refine aI ?_
       refine aG [2, 3, 4, 5, 7, 8] [0, 0, 0, 1, 0, 0] aD aF (by kernel_rfl) (by kernel_rfl) rfl rfl ?_
       repeat (refine aJ ?_)
       (refine aA rfl (hD e1 _ _ (Hv.mem aC) (Hv.mem aC)) rfl rfl ?_; rintro _ _ _ ⟨rfl, e21, rfl, he21, rfl⟩; refine ⟨okF, ?_⟩)
       repeat (refine aJ ?_)
       refine bJ (φ := bM e21 K) (Hv.q (k := 0 + K) aC (by omega)) ?_; refine aN _ _ _ aO aD aF ⟨b21, e21, by rw [he21, he1]; rfl, rfl, rfl, rfl⟩
     ·(refine aB rfl rfl ?_; intro b21; refine ⟨okF, ?_⟩)
      refine aI ?_
      refine aG [0, 2, 3, 4, 5, 7, 8] [0, 0, 0, 0, 1, 0, 0] aD aF (by kernel_rfl) (by kernel_rfl) rfl rfl ?_
      repeat (refine aJ ?_)
      (refine aA rfl (hWh 1 _ _ (by decide) (by decide)) rfl rfl ?_; rintro _ _ _ ⟨rfl, e1, rfl, he1, rfl⟩; refine ⟨okF, ?_⟩)
      repeat (refine aJ ?_)
      (refine aA rfl (hD e1 _ _ (Hv.mem aC) (Hv.mem aC)) rfl rfl ?_; rintro _ _ _ ⟨rfl, e21, rfl, he21, rfl⟩; refine ⟨okF, ?_⟩)
      repeat (refine aJ ?_)
      refine bJ (φ := bM e21 K) (Hv.q (k := 0 + K) aC (by omega)) ?_; refine aN _ _ _ aO aD aF ⟨b21, e21, by rw [he21, he1]; rfl, rfl, rfl, rfl⟩
    rintro G M I ⟨b21, e21, he21, rfl, rfl, rfl⟩
    have hTn := fun M0 I0 h1 h2 => aAW (X := X) (w0 := w0) (M0 := M0) (I0 := I0) (x := gt nl.rows 0) (κ := e21) (u := K) (m := K) (n := 12) (by omega) (by omega) hr12 h1 h2
    have hlv : Value.slice (gt nl.rows 0).p 12 (gt nl.rows 0).c = lv (gt nl.rows 0) := by show _ = Value.slice (gt nl.rows 0).p (gt nl.rows 0).es.length (gt nl.rows 0).c; rw [hr12]
    rw [hlv]
    repeat (refine aJ ?_)
    (refine aA rfl (hTn _ _ aC (Hv.mem aC)) rfl rfl ?_; rintro _ _ _ ⟨rfl, tr, rfl, htr, rfl⟩; refine ⟨okF, ?_⟩)
    have htl : tr.es.length = 12 := by have := congrArg List.length htr; simpa using this
    have htq : tr.q = scl (gt nl.rows 0).q := by
     rw [htr]
     unfold scl
     rw [hle]
     apply List.ext_getElem
     ·simp; omega
     ·intro j h3 h4
      have hj : j < 12 := by simpa using h3
      simp only [List.getElem_map, List.getElem_range]
      rw [he21]
      have : (gt nl.rows 0).q.getD j 0 = (gt nl.rows 0).q[j] := by simp [List.getD, hlq, hj]
      rw [this]; grind
    refine fI (φ := iY tr (2 * K)) (Hv.lm (k := K + K) aC (by omega)) ?_
    refine mQ (fun w hw => ((hw.imm _ (show iY tr (2 * K) ∈ _ by exact aC)).2 : IsL tr (2 * K) _ w).cap.1) (fun htcap => ?_)
    repeat (refine aJ ?_)
    have hlt : lv tr = Value.slice tr.p 12 tr.c := by show Value.slice tr.p tr.es.length tr.c = _; rw [htl]
    rw [hlt]
    (repeat refine aL ?_); refine fV [0, 1, 2, 3, 4, 5, 6, 7, 8] [1, 0, 1, 0, 1, 0, 0, 0, 0] mixed (by kernel_rfl) ?_
    repeat (refine aJ ?_)
    (refine aH rfl (fun _ => nN (e := 37) (sz := 4) 0 4 4 4 4 rfl rfl rfl rfl rfl rfl rfl (by omega) (by omega) (by omega) rfl rfl) rfl rfl ?_)
    repeat (refine aJ ?_)
    (refine aH rfl (fun _ => nN (e := 37) (sz := 4) 4 8 8 4 4 rfl rfl rfl rfl rfl rfl rfl (by omega) (by omega) (by omega) rfl rfl) rfl rfl ?_)
    repeat (refine aJ ?_)
    (refine aH rfl (fun _ => nN (e := 37) (sz := 4) 8 12 12 4 4 rfl rfl rfl rfl rfl rfl rfl (by omega) (by omega) (by omega) rfl rfl) rfl rfl ?_)
    have u0 := sS (r := tr) (l := 0) (m := 4) (by omega)
    have u1 := sS (r := tr) (l := 4) (m := 8) (by omega)
    have u2 := sS (r := tr) (l := 8) (m := 12) (by omega)
    rw [u0, u1, u2]
    refine fI (φ := iY (tr.part 0 4) (2 * K)) (Hv.part aC (by omega) (by omega)) ?_
    refine fI (φ := iY (tr.part 4 8) (2 * K)) (Hv.part aC (by omega) (by omega)) ?_
    refine fI (φ := iY (tr.part 8 12) (2 * K)) (Hv.part aC (by omega) (by omega)) ?_
    (refine bO (cs := recs eL [tr.part 0 4, tr.part 4 8, tr.part 8 12]) ([lv (tr.part 0 4), lv (tr.part 4 8), lv (tr.part 8 12)]) rfl rfl (by intro v hv; repeat (first | exact absurd hv (List.not_mem_nil) | (rcases List.mem_cons.1 hv with rfl | hv; · rfl))) (by omega) rfl rfl rfl ?_; intro bm; refine ⟨okF, ?_⟩)
    refine bF (b := bm) mW ?_
    refine fI (φ := nU ⟨some ⟨bm, 0, none⟩, 3, [tr.part 0 4, tr.part 4 8, tr.part 8 12]⟩ (2 * K)) (Hv.x3 aC (Ok.mk _ _) aC aC aC) ?_
    repeat (refine aJ ?_)
    refine jI [4, 5] (by first | exact .inl rfl | exact .inr rfl) rfl rfl rfl M0 (nU ⟨some ⟨bm, 0, none⟩, 3, [tr.part 0 4, tr.part 4 8, tr.part 8 12]⟩ (2 * K) :: I0) aD aF ⟨rfl, Inc.wk Inc.refl, .inr (.inr ⟨l1, _, rfl, ?_, ⟨rfl, ?_⟩, List.Mem.head _⟩)⟩
    ·show [(tr.part 0 4).q, (tr.part 4 8).q, (tr.part 8 12).q] = _
     rw [RL.part_q, RL.part_q, RL.part_q, htq]
     rfl
    ·intro r hr
     simp only [List.mem_cons, List.not_mem_nil, or_false] at hr
     rcases hr with rfl | rfl | rfl
     ·exact qB (by omega) rfl
     ·exact qB (by omega) rfl
     ·exact qB (by omega) rfl
  obtain rfl : i = 12 := by omega
  refine fD (φ := iY (gt nl.rows 0) (2 * K)) (Hv.lm (k := K) aC (by omega)) ?_
  have hallz : scl (gt nl.rows 0).q = (gt nl.rows 0).q := aLF (fun x hx => by
   obtain ⟨e, he, rfl⟩ := List.mem_map.1 hx
   obtain ⟨j, hj, rfl⟩ := List.mem_iff_getElem.1 he
   have := hzs j (by omega)
   rwa [lI hj] at this)
  rw [hallz]
  repeat (refine aJ ?_)
  (repeat refine aL ?_); refine fV [0, 1, 2, 3, 4, 5, 6, 7, 8] [1, 0, 1, 0, 1, 0, 0, 0, 0] mixed (by kernel_rfl) ?_
  repeat (refine aJ ?_)
  (refine aH rfl (fun _ => nN (e := 37) (sz := 4) 0 4 4 4 4 rfl rfl rfl rfl rfl rfl rfl (by omega) (by omega) (by omega) rfl rfl) rfl rfl ?_)
  repeat (refine aJ ?_)
  (refine aH rfl (fun _ => nN (e := 37) (sz := 4) 4 8 8 4 4 rfl rfl rfl rfl rfl rfl rfl (by omega) (by omega) (by omega) rfl rfl) rfl rfl ?_)
  repeat (refine aJ ?_)
  (refine aH rfl (fun _ => nN (e := 37) (sz := 4) 8 12 12 4 4 rfl rfl rfl rfl rfl rfl rfl (by omega) (by omega) (by omega) rfl rfl) rfl rfl ?_)
  have u0 := sS (r := (gt nl.rows 0)) (l := 0) (m := 4) (by omega)
  have u1 := sS (r := (gt nl.rows 0)) (l := 4) (m := 8) (by omega)
  have u2 := sS (r := (gt nl.rows 0)) (l := 8) (m := 12) (by omega)
  rw [u0, u1, u2]
  refine fI (φ := iY ((gt nl.rows 0).part 0 4) (2 * K)) (Hv.part aC (by omega) (by omega)) ?_
  refine fI (φ := iY ((gt nl.rows 0).part 4 8) (2 * K)) (Hv.part aC (by omega) (by omega)) ?_
  refine fI (φ := iY ((gt nl.rows 0).part 8 12) (2 * K)) (Hv.part aC (by omega) (by omega)) ?_
  (refine bO (cs := recs eL [(gt nl.rows 0).part 0 4, (gt nl.rows 0).part 4 8, (gt nl.rows 0).part 8 12]) ([lv ((gt nl.rows 0).part 0 4), lv ((gt nl.rows 0).part 4 8), lv ((gt nl.rows 0).part 8 12)]) rfl rfl (by intro v hv; repeat (first | exact absurd hv (List.not_mem_nil) | (rcases List.mem_cons.1 hv with rfl | hv; · rfl))) (by omega) rfl rfl rfl ?_; intro bm; refine ⟨okF, ?_⟩)
  refine bF (b := bm) mW ?_
  refine fI (φ := nU ⟨some ⟨bm, 0, none⟩, 3, [(gt nl.rows 0).part 0 4, (gt nl.rows 0).part 4 8, (gt nl.rows 0).part 8 12]⟩ (2 * K)) (Hv.x3 aC (Ok.mk _ _) aC aC aC) ?_
  repeat (refine aJ ?_)
  refine jI [4, 5] (by first | exact .inl rfl | exact .inr rfl) rfl rfl rfl M0 (nU ⟨some ⟨bm, 0, none⟩, 3, [(gt nl.rows 0).part 0 4, (gt nl.rows 0).part 4 8, (gt nl.rows 0).part 8 12]⟩ (2 * K) :: I0) aD aF ⟨rfl, Inc.wk Inc.refl, .inr (.inr ⟨l1, _, rfl, ?_, ⟨rfl, ?_⟩, List.Mem.head _⟩)⟩
  ·show [((gt nl.rows 0).part 0 4).q, ((gt nl.rows 0).part 4 8).q, ((gt nl.rows 0).part 8 12).q] = _
   rw [RL.part_q, RL.part_q, RL.part_q]
   rfl
  ·intro r hr
   simp only [List.mem_cons, List.not_mem_nil, or_false] at hr
   rcases hr with rfl | rfl | rfl
   ·exact qB (by omega) rfl
   ·exact qB (by omega) rfl
   ·exact qB (by omega) rfl
 ·repeat (refine aJ ?_)
  refine jI [4, 5] (by first | exact .inl rfl | exact .inr rfl) rfl rfl rfl M0 I0 aD aF ⟨rfl, Inc.refl, .inr (.inl ⟨by omega, rfl⟩)⟩
end
end Go.Proofs.YtkccjglmnhgabaaGreat

/- Vectors of space in memory; products of lists. consensus: whole, over, rows, formed. consensus: design (its closure add), regular, formed. consensus: regular, formed, fitted. consensus.fitted: the least-squares matrix. make with length 0 and a capacity; a row cut short; where a row lies. consensus: model, for the kinds other than homographies. The program's model of homographies. consensus: samples, for any visitor. -/
import Derived.Test.YtmmmfphealhapaaGreatZrax
import Derived.Test.YtmmmfphealhapaaGreatZraw
import Derived.Test.YtmmmfphealhapaaGreatZrbd
import Derived.Test.YtmmmfphealhapaaGreatZraq
import Derived.Test.YtmmmfphealhapaaGreatZrba
import Derived.Test.YtmmmfphealhapaaGreatZrav
import Derived.Test.YtmmmfphealhapaaGreatZrae
import Derived.Test.YtmmmfphealhapaaGreatZrag
import Derived.Test.YtmmmfphealhapaaGreatZrau
set_option linter.unusedSimpArgs false
set_option linter.unusedVariables false
set_option maxRecDepth 100000
set_option maxHeartbeats 4000000
namespace Go.Proofs.YtmmmfphealhapaaGreat
open Go Go.Fx
structure V3 where
 x : Rat
 y : Rat
 z : Rat
def V3.dot (a b : V3) : Rat := a.x * b.x + a.y * b.y + a.z * b.z
def V3.sub (a b : V3) : V3 := ⟨a.x - b.x, a.y - b.y, a.z - b.z⟩
def V3.along (a : V3) (s : Rat) (b : V3) : V3 := ⟨a.x + s * b.x, a.y + s * b.y, a.z + s * b.z⟩
structure TE where
 x : RE
 y : RE
 z : RE
instance : Inhabited TE := ⟨⟨default, default, default⟩⟩
abbrev eT (p : TE) : List Value := recs eR [p.x, p.y, p.z]
abbrev tv (p : TE) : Value := .agg (recs eR [p.x, p.y, p.z]).toArray
instance : Sized eT 12 := ⟨fun _ => rfl⟩
instance : Ones eT := ⟨fun m u hu => wB _ u hu⟩
def TE.v (p : TE) : V3 := ⟨p.x.q, p.y.q, p.z.q⟩
structure IsT (p : TE) (k : Nat) (X : List Nat) (w : World) : Prop where
 x : IsR p.x k X w
 y : IsR p.y k X w
 z : IsR p.z k X w
abbrev isT (p : TE) (k : Nat) : bA := IsT p k
instance (p : TE) (k : Nat) : Fx.Good (IsT p k) := ⟨fun X Y w w' h he hY => ⟨Fx.Good.go (φ := IsR _ _) X Y w w' h.x he hY, Fx.Good.go (φ := IsR _ _) X Y w w' h.y he hY, Fx.Good.go (φ := IsR _ _) X Y w w' h.z he hY⟩⟩
def TE.l (p : TE) (b : Nat) : RL := ⟨some ⟨b, 0, none⟩, 3, [p.x, p.y, p.z]⟩
def TQ (q : V3) (k : Nat) (M0 : List Ent) (I0 : List bA) (v : Value) (M : List Ent) (I : List bA) : Prop := M0 = M ∧ ∃ p : TE, v = tv p ∧ p.v = q ∧ I = isT p k :: I0
section
variable {X : List Nat} {w0 : World} {M0 : List Ent} {I0 : List bA}
end
end Go.Proofs.YtmmmfphealhapaaGreat
namespace Go.Proofs.YtmmmfphealhapaaGreat
open Go Go.Fx
section
variable {X : List Nat} {w0 : World} {M0 M1 : List Ent} {I0 : List bA}
theorem qL {x : Int} (hx : -9223372036854775808 ≤ x ∧ x ≤ 9223372036854775807) {k : Nat} (hk : x.natAbs ≤ 2 ^ k) : CD Tryz.prog 111 [.int .i64 x] X w0 M0 I0 (RQ (x : Rat) k M0 I0) := by
 refine bV Tryz.func111 rfl Tryz.ntmps111 rfl ?_
 refine aH ?_
 refine aI ?_
 (refine aC rfl rfl ?_; intro b2; refine ⟨okF, ?_⟩)
 repeat (refine aJ ?_)
 (refine aA rfl (aEG hx hk) rfl rfl ?_; rintro _ _ _ ⟨rfl, e, rfl, he, rfl⟩; refine ⟨okF, ?_⟩)
 repeat (refine aJ ?_)
 refine bC (cs := eR e) (.inl rfl) rfl rfl aB rfl M0 (jA e k :: I0) aG aF ⟨rfl, e, rfl, he, rfl⟩
theorem aKY {a b : RE} {k m : Nat} (hk : k + m ≤ 500000000000) (hb0 : b.q ≠ 0) (ha : Hv I0 (jA a k)) (hb : Hv I0 (jA b m)) :
  CD Tryz.prog 191 [rv a, rv b] X w0 M0 I0 (RQ (a.q / b.q) (k + m) M0 I0) := by
 refine bI Tryz.func191 rfl Tryz.ntmps191 rfl ?_
 refine aH ?_
 refine aI ?_
 (refine aK rfl rfl rfl ?_; intro b2; refine ⟨okF, ?_⟩)
 (refine aK rfl rfl rfl ?_; intro b3; refine ⟨okF, ?_⟩)
 (refine aC rfl rfl ?_; intro b4; refine ⟨okF, ?_⟩)
 repeat (refine aJ ?_)
 (refine aA rfl (aFH (k := k) (m := m) hk hb0 ha hb) rfl rfl ?_; rintro _ _ _ ⟨rfl, e, rfl, he, rfl⟩; refine ⟨okF, ?_⟩)
 repeat (refine aJ ?_)
 (refine aC rfl rfl ?_; intro b5; refine ⟨okF, ?_⟩)
 repeat (refine aJ ?_)
 refine bC (cs := eR e) (.inl rfl) rfl rfl aB rfl M0 (jA e (k + m) :: I0) aG aF ⟨rfl, e, rfl, he, rfl⟩
end
end Go.Proofs.YtmmmfphealhapaaGreat
namespace Go.Proofs.YtmmmfphealhapaaGreat
open Go Go.Fx
section
variable {X : List Nat} {w0 : World} {M0 M1 : List Ent} {I0 : List bA}
end
end Go.Proofs.YtmmmfphealhapaaGreat
namespace Go.Proofs.YtmmmfphealhapaaGreat
open Go Go.Fx
theorem sgnQ {q : Rat} : q.num.sign = 0 ↔ q = 0 := by rw [Int.sign_eq_zero_iff_zero, Rat.num_eq_zero]
abbrev hdL (r : RL) : HD := ⟨r.p, r.es.length, r.c⟩
section
variable {P : Program} {n : Nat} {Q : Exit → Act → World → Prop} {G : Env} {X : List Nat} {w0 : World} {M : List Ent} {I : List bA}
theorem aNW {cd : Code} {b k C : Nat} {rows : List RL} {ty : TypeId} (hl : rows.length = C) (hC : C ≤ 1000000) (ha : xG rows k ∈ I) (h : TD P n cd Q G X w0 M (pM ⟨some ⟨b, 0, none⟩, C, rows⟩ k :: I)) : TD P n cd Q G X w0 (.blk b (recs eL rows) ty :: M) I := by
 subst hl
 refine pO (mm := rows.length) 1 .here (by rw [iP]) (by omega) ?_
 exact aKP (fun _ hw => Mem.toX hw ha) h
end
section
variable {X : List Nat} {w0 : World} {M0 M1 : List Ent} {I0 : List bA}
end
end Go.Proofs.YtmmmfphealhapaaGreat
namespace Go.Proofs.YtmmmfphealhapaaGreat
open Go Go.Fx
abbrev kN : Nat := 4224
abbrev kX : Nat := 103842564
def FitR (o : Option Mt) (k : Nat) (M0 : List Ent) (I0 : List bA) (v : Value) (M : List Ent) (I : List bA) : Prop := M0 = M ∧ match o with
 | none => I0 = I ∧ ∃ u, v = .tuple #[u, .bool false]
 | some A => ∃ m : MX, v = .tuple #[mv m, .bool true] ∧ m.q = A ∧ m.dim 3 3 ∧ I = pM m k :: I0
section
variable {X : List Nat} {w0 : World} {M0 M1 : List Ent} {I0 : List bA}
end
end Go.Proofs.YtmmmfphealhapaaGreat
namespace Go.Fx
section
variable {P : Program} {n : Nat} {ops : List Oper} {Q : Exit → Act → World → Prop} {m : Mode} {G : Env} {w : World} {ty : TypeId} {pos : String} {af : Array Edge} {g : Option (Nat × Bool)} {l : List Oper} {X : List Nat} {w0 : World} {M M' : List Ent} {I : List bA}
theorem aJQ {t e : TypeId} {sz sz' by_ : Nat} {z : List Value} {lo co : Operand} {k k' : IntKind} {mm : Nat} [ht : SliceTy P t e sz'] [hz : ElemTy P e sz by_ z]
  (hl : ev G lo = some (.int k 0)) (hc : ev G co = some (.int k' (mm : Int))) (hb : (by_ : Int) * (mm : Int) ≤ 281474976710656) (hm : (mm : Int) ≤ 9223372036854775807) :
  Eff P n G (.makeSlice t lo co) ty w (fun v w' => ∃ b, b = w.heap.size ∧ v = .slice (some ⟨b, 0, none⟩) 0 mm ∧ w'.ownsRow 0 e sz (.slice (some ⟨b, 0, none⟩) 0 mm) 0 [] ∧ Ext [] w w' ∧ b < w'.heap.size) := by
 refine ⟨?_⟩
 intro a ha dst pos after guard
 obtain ⟨i, v, hi, hs, hby, hzv, hcl⟩ := sJ hz
 have hr := run_make (P := P) w t e i v ht.und hi hzv k k' 0 mm (by omega) (by omega) (by rw [hby]; exact hb) hm
 refine sF (v := .slice (some ⟨w.heap.size, 0, none⟩) 0 mm) (w' := w.alloc (.cells (madeCells z.toArray (mm * sz)) e)) ?_ ⟨_, ⟨_, rfl, rfl, ⟨by simp, .inr ⟨w.heap.size, mm, madeCells z.toArray (mm * sz), rfl, Nat.zero_le _, heap_alloc_new w _, Nat.zero_le _, by show mm ≤ 9223372036854775807; omega, size_madeCells _ _, by simp⟩⟩, Ext.alloc _ _ _, by simp⟩, rfl⟩
 simp only [Int.toNat_natCast, hs, hcl] at hr
 simp [execOp, ha.ev hl, ha.ev hc, hr]
theorem aKU {d : Nat} {t e : TypeId} {sz sz' by_ : Nat} {z : List Value} {lo co : Operand} {k1 k2 : IntKind} (mm : Nat) {x2 : Int} [SliceTy P t e sz'] [ElemTy P e sz by_ z]
  (hl : ev G lo = some (.int k1 0)) (hc : ev G co = some (.int k2 x2)) (e2 : x2 = mm) (hb : (by_ : Int) * (mm : Int) ≤ 281474976710656) (hm : (mm : Int) ≤ 9223372036854775807) (hg : nM ops G g = some true) (hd : Nat.ble (d + 1) n = true)
  (k : ∀ b, OkD m X w0 (.row (some ⟨b, 0, none⟩) 0 mm [] e sz :: M) I ∧ RD P n ops Q m.nextE l ((d, .slice (some ⟨b, 0, none⟩) 0 mm) :: G) X w0 (.row (some ⟨b, 0, none⟩) 0 mm [] e sz :: M) I) :
  RD P n ops Q m (⟨some d, .makeSlice t lo co, ty, pos, af, g⟩ :: l) G X w0 M I := by
 subst e2
 exact yC (d := some d) (K := fun v' M' I' => ∃ b, v' = .slice (some ⟨b, 0, none⟩) 0 mm ∧ M' = .row (some ⟨b, 0, none⟩) 0 mm [] e sz :: M ∧ I' = I) hg
  (fun w hw => (aJQ (mm := mm) hl hc hb hm).mono (fun _ w' ⟨b, hb, hp, hB, hE, _⟩ => ⟨_, _, ⟨b, hp, rfl, rfl⟩, hw.push hE (by simp [Ent.blocks, hb]) (by simp [Ent.blocks]) hB⟩)) rfl hd
  (fun _ _ _ ⟨b, hp, hM, hI⟩ => by subst hp; subst hM; subst hI; exact k b)
end
end Go.Fx
namespace Go.Fx
section
variable {P : Program} {n : Nat} {ops : List Oper} {Q : Exit → Act → World → Prop} {m : Mode} {G : Env} {l : List Oper} {X : List Nat} {w0 : World} {M M' : List Ent} {I : List bA}
theorem aND {w : World} {base : Nat} {e : TypeId} {sz mm m' c : Nat} {a : Option Addr} {xs : List Value} (h : w.ownsRow base e sz (.slice a mm c) mm xs) (hle : m' ≤ mm) : w.ownsRow base e sz (.slice a m' c) m' (xs.take (m' * sz)) := by
 obtain ⟨h1, h2⟩ := h
 have h3 : m' * sz ≤ mm * sz := Nat.mul_le_mul_right _ hle
 refine ⟨by rw [List.length_take, h1, Nat.min_eq_left h3], ?_⟩
 rcases h2 with ⟨hv, h0⟩ | ⟨g, cap, cur, hv, hb, hc, hn, hm, hs, ht⟩
 ·subst h0
  obtain rfl : m' = 0 := by omega
  exact .inl ⟨hv, rfl⟩
 ·injection hv with e1 e2 e3
  subst e1; subst e3
  exact .inr ⟨g, c, cur, rfl, hb, hc, by omega, hm, hs, by rw [← ht, List.take_take, Nat.min_eq_left h3]⟩
theorem Mem.pop {w : World} {a : Option Addr} {mm m' c : Nat} {cs : List Value} {e : TypeId} {sz : Nat} (h : Mem X w0 M I w) (hr : Rep (.row a mm c cs e sz) (.row a m' c (cs.take (m' * sz)) e sz) M M') (hle : m' ≤ mm) : Mem X w0 M' I w := by
 have ho : w.ownsRow 0 e sz (.slice a mm c) mm cs := h.ent _ hr.mem
 have hbl : (Ent.row a m' c (cs.take (m' * sz)) e sz).blocks = (Ent.row a mm c cs e sz).blocks := by cases a <;> rfl
 exact h.upd hr (Ext.refl _ _) (fun b hb => .inl (hbl ▸ hb)) (by cases a <;> simp [Ent.blocks]) (aND ho hle)
theorem aQG {ex : Exit} {a : Option Addr} {mm m' c : Nat} {cs : List Value} {e : TypeId} {sz : Nat} (hr : Rep (.row a mm c cs e sz) (.row a m' c (cs.take (m' * sz)) e sz) M M') (hle : m' ≤ mm) (h : ND n Q ex G X w0 M' I) : ND n Q ex G X w0 M I := xS (fun _ hw => hw.pop hr hle) h
theorem Mem.rowA {w : World} {a : Option Addr} {mm c : Nat} {cs : List Value} {e : TypeId} {sz : Nat} (h : Mem X w0 M I w) (hm : .row a mm c cs e sz ∈ M) (h0 : 0 < mm) : ∃ b, a = some ⟨b, 0, none⟩ ∧ mm ≤ c := by
 have ho : w.ownsRow 0 e sz (.slice a mm c) mm cs := h.ent _ hm
 rcases ho.2 with ⟨_, h1⟩ | ⟨g, cap, cur, hv, _, _, hn, _⟩
 ·omega
 ·injection hv with e1 e2 e3
  exact ⟨g, e1, by omega⟩
end
end Go.Fx
namespace Go.Proofs.YtmmmfphealhapaaGreat
open Go Go.Fx
instance Q4.ones : Ones kI := ⟨fun m u hu => by simp [kI] at hu; rcases hu with rfl | rfl | rfl | rfl <;> rfl⟩
theorem aEQ {l : List Q4} {smp : List Int} {z : Int} : mD l (smp ++ [z]) = mD l smp ++ [gt l z] := by simp [mD]
theorem aJS {l : List Q4} {smp : List Int} : (mD l smp).length = smp.length := by simp [mD]
theorem yK {l : List Q4} {smp : List Int} (hs : ∀ s ∈ l, s.near) (hin : ∀ x ∈ smp, 0 ≤ x ∧ x < l.length) : ∀ s ∈ mD l smp, s.near := fun s h => by
 obtain ⟨z, hz, rfl⟩ := List.mem_map.1 h
 exact hs _ (jO (hin z hz))
section
variable {X : List Nat} {w0 : World} {M0 M1 : List Ent} {I0 : List bA}
end
end Go.Proofs.YtmmmfphealhapaaGreat
namespace Go.Proofs.YtmmmfphealhapaaGreat
open Go Go.Fx
theorem aGX : ∀ (l : List Int) (f : Nat), l.getD f 0 ≠ 0 → (∀ j, j < f → l.getD j 0 = 0) → sG (l.map (fun x : Int => (x : Rat))) = ((l.getD f 0 : Int) : Rat)
 | [], f, h, _ => absurd (by simp) h
 | x :: r, 0, h, _ => by
  have hx : x ≠ 0 := h
  show (if ((x : Int) : Rat) = 0 then _ else ((x : Int) : Rat)) = _
  rw [if_neg (int_ne hx)]
  rfl
 | x :: r, f + 1, h, hz => by
  have hx : x = 0 := hz 0 (by omega)
  show (if ((x : Int) : Rat) = 0 then sG (r.map (fun x : Int => (x : Rat))) else _) = _
  rw [if_pos (by rw [hx]; rfl)]
  exact aGX r f h (fun j hj => hz (j + 1) (by omega))
def qH (h : HZ) (f i : Nat) : Rat := Rat.divInt (gt h.l (i : Int)).z (gt h.l (f : Int)).z
theorem oC {h : HZ} {i : Nat} (hi : i < 9) : (bD h.m).getD i 0 = (gt h.l (i : Int)).z := by
 obtain rfl | rfl | rfl | rfl | rfl | rfl | rfl | rfl | rfl : i = 0 ∨ i = 1 ∨ i = 2 ∨ i = 3 ∨ i = 4 ∨ i = 5 ∨ i = 6 ∨ i = 7 ∨ i = 8 := by omega
 all_goals rfl
theorem aPL {ps : List Q4} {h : HZ} {g : Int} {f : Nat} (hg : g ≠ 0) (hm : (bD h.m).map (fun x => x * g) = bD (eD ps)) (hf : f < 9) (h0 : (gt h.l (f : Int)).z ≠ 0) (hz : ∀ j : Nat, j < f → (gt h.l (j : Int)).z = 0) :
  [[qH h f 0, qH h f 1, qH h f 2], [qH h f 3, qH h f 4, qH h f 5], [qH h f 6, qH h f 7, qH h f 8]] = tK (pW (bD (dB (eD ps)))) := by
 have e1 : bD (dB (eD ps)) = ((bD h.m).map (fun x : Int => (x : Rat))).map (fun x => (g : Rat) * x) := by
  show (bD (eD ps)).map (fun x : Int => (x : Rat)) = _
  rw [← hm, List.map_map, List.map_map]
  refine List.map_congr_left (fun x _ => ?_)
  show ((x * g : Int) : Rat) = (g : Rat) * (x : Rat)
  rw [Rat.intCast_mul, Rat.mul_comm]
 have e2 := aGX (bD h.m) f (by rw [oC hf]; exact h0) (fun j hj => by rw [oC (by omega)]; exact hz j hj)
 rw [oC hf] at e2
 rw [e1, aAQ (int_ne hg)]
 unfold pW
 rw [e2]
 have e3 : ∀ a : Int, Rat.divInt a (gt h.l (f : Int)).z = (a : Rat) / ((gt h.l (f : Int)).z : Rat) := fun a => Rat.divInt_eq_div _ _
 unfold qH
 simp only [e3]
 rfl
abbrev zRL : RL := ⟨none, 0, []⟩
def rwH (h : HZ) (f r : Nat) : List (List Rat) := (List.range r).map (fun a => (List.range 3).map (fun b => qH h f (3 * a + b)))
theorem aKM {h : HZ} {f r : Nat} : rwH h f (r + 1) = rwH h f r ++ [(List.range 3).map (fun b => qH h f (3 * r + b))] := by unfold rwH; rw [show List.range (r + 1) = List.range r ++ [r] from List.range_succ, List.map_append]; rfl
section
variable {X : List Nat} {w0 : World} {M0 : List Ent} {I0 : List bA}
theorem aDD {q qs_ : Option Addr} {l : List Q4} {smp : List Int} {n c cs : Nat} (hl : l.length = n) (hn : n ≤ 64) (hs : ∀ s ∈ l, s.near) (hsl : smp.length = 4) (hin : ∀ x ∈ smp, 0 ≤ x ∧ x < n) (hq : aX q (recs kI l) ∈ I0) :
  CD Tryz.prog 44 [.int .i64 3, .slice q n c, .slice qs_ 4 cs] X w0 (.row qs_ 4 cs (recs eZ smp) 3 1 :: M0) I0 (FitR (zK (mD l smp)) kX (.row qs_ 4 cs (recs eZ smp) 3 1 :: M0) I0) := by
 refine bX (φ := aX q (recs kI l)) (Hv.mem hq) ?_
 refine oU Tryz.func44 rfl Tryz.ntmps44 rfl ?_
 repeat (refine aJ ?_)
 refine vL 30 4 ?_
 refine bG [0, 1, 19, 20] rfl (fun k G M I => ∃ (i : Nat) (ps : List Q4) (qe : Option Addr) (ce : Nat), i ≤ 4 ∧ k = 4 - i ∧ ps = mD l (smp.take i) ∧ G = [(8, .slice qe ps.length ce), (21, .int .i64 i)] ∧ M = .row qe ps.length ce (recs kI ps) 30 4 :: .row qs_ 4 cs (recs eZ smp) 3 1 :: M0 ∧ I = aX q (recs kI l) :: I0) (4) _ _ _ aS aG aF (⟨0, [], none, 0, by omega, rfl, rfl, rfl, rfl, rfl⟩) ?_
 rintro kk G M I ⟨i, ps, qe, ce, hi, rfl, hps, rfl, rfl, rfl⟩
 have hpl : ps.length = i := by rw [hps, aJS, List.length_take]; omega
 by_cases hin2 : i < 4
 ·have hz := hin _ (jO (ms := smp) (i := (i : Int)) (by omega))
  have ht : smp.take (i + 1) = smp.take i ++ [gt smp (i : Int)] := by rw [gtQ (by omega)]; exact (List.take_append_getElem (by omega)).symm
  repeat (refine aJ ?_)
  (refine dM (cs := recs kI [gt l (gt smp (i : Int))]) ([vQ4 (gt l (gt smp (i : Int)))]) rfl rfl (by intro v hv; repeat (first | exact absurd hv (List.not_mem_nil) | (rcases List.mem_cons.1 hv with rfl | hv; · rfl))) (by omega) rfl rfl rfl ?_; intro b; refine ⟨okF, ?_⟩)
  (refine iK (ys := [gt l (gt smp (i : Int))]) 1 rfl rfl rfl ?_ (by decide) rfl (by omega) (by omega) rfl rfl ?_; (· first | exact Src.blk aB | exact Src.row aB | exact Src.imm aB (by first | assumption | exact .inl (Ok.mk _ _))); intro q2 c2; refine ⟨okF, ?_⟩)
  repeat (refine aJ ?_)
  refine aQ (4 - (i + 1)) _ _ _ (by first | omega | (simp only [List.length_append, List.length_cons, List.length_nil]; omega)) aS aG aF (⟨i + 1, ps ++ [gt l (gt smp (i : Int))], q2, c2, by omega, rfl, by rw [ht, aEQ, ← hps], rfl, rfl, rfl⟩)
 obtain rfl : i = 4 := by omega
 rw [← hsl, List.take_length] at hps
 have hnr := yK hs (by rw [hl]; exact hin)
 rw [← hps] at hnr ⊢
 have hF := fun M0 I0 => aCN (X := X) (w0 := w0) (M0 := M0) (I0 := I0) (ps := ps) hpl hnr
 unfold aGU at hF
 refine aBE (fun _ e _ => by omega) (fun b tl hqe hce => ?_)
 subst hqe
 rw [hpl]
 repeat (refine aJ ?_)
 (refine aD rfl (fun _ => aEP rfl (by omega)) rfl rfl ?_)
 (apply iR; exact fV; exact rfl; exact aB; exact AtsZ.app (AtsZ.all (by rw [iP, hpl])); exact rfl; exact rfl)
 repeat (refine aJ ?_)
 by_cases hc : colP (l4 ps) ∨ colP (m4 ps)
 ·have hp : zK ps = none := by unfold zK; rw [if_pos hc]
  rw [hp]
  simp only [if_pos hc] at hF
  (refine aA rfl (hF _ _) rfl rfl ?_; rintro _ _ _ ⟨rfl, rfl, rfl⟩; refine ⟨okF, ?_⟩)
  repeat (refine aJ ?_)
  (refine aC rfl rfl ?_; intro b11; refine ⟨okF, ?_⟩)
  repeat (refine aJ ?_)
  refine jZ (M' := .row qs_ 4 cs (recs eZ smp) 3 1 :: M0) (I' := I0) aG aF ?_
  refine iL [6, 7] (by first | exact .inl rfl | exact .inr rfl) rfl rfl rfl _ _ aG aF (⟨rfl, rfl, _, rfl⟩)
 have hp : zK ps = some (tK (pW (bD (dB (eD ps))))) := by unfold zK; rw [if_neg hc]
 rw [hp]
 simp only [if_neg hc] at hF
 (refine aA rfl (hF _ _) rfl rfl ?_; rintro _ _ _ ⟨rfl, h, g, rfl, hg0, hhm, _, rfl⟩; refine ⟨okF, ?_⟩)
 obtain ⟨hc1, hc2⟩ : ¬ colP (l4 ps) ∧ ¬ colP (m4 ps) := ⟨fun h => hc (.inl h), fun h => hc (.inr h)⟩
 have hnz : ∃ j : Nat, j < 9 ∧ (gt h.l (j : Int)).z ≠ 0 := Classical.byContradiction (fun hn => by
  obtain ⟨x, hx, hx0⟩ := vU hc1 hc2
  rw [← hhm] at hx
  obtain ⟨y, hy, rfl⟩ := List.mem_map.1 hx
  obtain ⟨j, hj, rfl⟩ := List.mem_iff_getElem.1 hy
  have hj9 : j < 9 := hj
  refine hn ⟨j, hj9, fun e => hx0 ?_⟩
  have h2 := oC (h := h) hj9
  rw [e, List.getD_eq_getElem?_getD, List.getElem?_eq_getElem hj] at h2
  have h3 : (bD h.m)[j] = 0 := h2
  exact (congrArg (· * g) h3).trans (Int.zero_mul g))
 repeat (refine aJ ?_)
 (refine aC rfl rfl ?_; intro b11; refine ⟨okF, ?_⟩)
 repeat (refine aJ ?_)
 (refine aD rfl (fun _ => rM rfl) rfl rfl ?_)
 (refine aA rfl (aMY (b := b11) (es := h.l) rfl aB hnz) rfl rfl ?_; rintro _ _ _ ⟨rfl, rfl, f, rfl, hf9, hf0, hfz⟩; refine ⟨okF, ?_⟩)
 repeat (refine aJ ?_)
 (refine mJ (3) rfl rfl (by omega) (by omega) (by omega) (by omega) (aII (enc := eL) (by decide) zRL 3) rfl rfl ?_; intro bm; refine ⟨okF, ?_⟩)
 repeat (refine aJ ?_)
 obtain ⟨zf, hzf⟩ : ∃ zf, gt h.l (f : Int) = zf := ⟨_, rfl⟩
 rw [hzf] at hf0
 refine dV (φ := kD (h.l.map some) 772) (Hv.hAll aB) ?_
 refine dV (φ := fZ zf 772) (Hv.oAt (os := h.l.map some) (i := (f : Int)) aB ⟨by omega, by show (f : Int) < ((9 : Nat) : Int); omega⟩ (by rw [oK ⟨by omega, by show (f : Int) < ((9 : Nat) : Int); omega⟩, hzf])) ?_
 refine dV (φ := xE [] 772) Hv.nilR ?_
 refine dV (φ := xG [] 772) Hv.nilL ?_
 refine vL 77 4 ?_
 refine bG [11, 13, 14, 52] rfl (fun k G M I => ∃ (r j : Nat) (dn : List RL) (cur : RL) (hdr : List RL), 3 * r + j ≤ 9 ∧ k = 9 - (3 * r + j) ∧ j < 3 ∧ dn.length = r ∧ cur.es.length = j ∧ ((hdr = dn ++ cur :: List.replicate (2 - r) zRL ∧ r < 3) ∨ (hdr = dn ∧ r = 3)) ∧ dn.map RL.q = rwH h f r ∧ (∀ x ∈ dn, x.es.length = 3) ∧ qs cur.es = (List.range j).map (fun b => qH h f (3 * r + b)) ∧ G = [(53, .int .i64 ((3 * r + j : Nat) : Int))] ∧ M = .row cur.p cur.es.length cur.c (recs eR cur.es) 77 4 :: .blk bm (recs eL hdr) 70 :: .blk b11 (nQ h) 44 :: .row qs_ 4 cs (recs eZ smp) 3 1 :: M0 ∧ I = xE cur.es 772 :: xG dn 772 :: fZ zf 772 :: kD (h.l.map some) 772 :: I0) (9) _ _ _ aS aG aF (⟨0, 0, [], zRL, List.replicate 3 zRL, by omega, rfl, by omega, rfl, rfl, .inl ⟨rfl, by omega⟩, rfl, fun x hx => absurd hx List.not_mem_nil, rfl, rfl, rfl, rfl⟩) ?_
 rintro kk G M I ⟨r, j, dn, cur, hdr, hrj, rfl, hj3, hdl, hcl, hh, hdq, hd3, hcq, rfl, rfl, rfl⟩
 obtain ⟨i, hi⟩ : ∃ i, 3 * r + j = i := ⟨_, rfl⟩
 rw [hi]
 by_cases hii : i < 9
 ·obtain ⟨hhd, hr3⟩ : hdr = dn ++ cur :: List.replicate (2 - r) zRL ∧ r < 3 := hh.elim id (fun h => by omega)
  have hhl : hdr.length = 3 := by rw [hhd]; simp; omega
  have hgr : gt hdr (r : Int) = cur := by rw [hhd]; exact aQA (by omega)
  obtain ⟨x, hx⟩ : ∃ x, gt h.l (i : Int) = x := ⟨_, rfl⟩
  refine dV (φ := fZ x 772) (Hv.oAt (os := h.l.map some) (i := (i : Int)) aB ⟨by omega, by show (i : Int) < ((9 : Nat) : Int); omega⟩ (by rw [oK ⟨by omega, by show (i : Int) < ((9 : Nat) : Int); omega⟩, hx])) ?_
  have hN := fun M0 I0 h1 h2 => aGP (X := X) (w0 := w0) (M0 := M0) (I0 := I0) (x := x) (y := zf) (u := 772) (by omega) hf0 h1 h2
  unfold RQc at hN
  repeat (refine aJ ?_)
  (refine aD rfl (fun _ => vH (cs := recs eN h.l) (vs := eN x) (i := (i : Int)) rfl rfl ⟨by omega, by omega⟩ (by rw [← hx]; exact aAT ⟨by omega, by show (i : Int) < ((9 : Nat) : Int); omega⟩)) rfl rfl ?_)
  (refine aC rfl rfl ?_; intro b16; refine ⟨okF, ?_⟩)
  repeat (refine aJ ?_)
  refine nC (fun G M I => ∃ (b17 : Nat) (e : RE), e.q = Rat.divInt x.z zf.z ∧ G = [(11, .pointer (some ⟨b11, 0, none⟩)), (13, .int .i64 (f : Int)), (14, .slice (some ⟨bm, 0, none⟩) 3 3), (15, .int .i64 (i : Int)), (17, .pointer (some ⟨b17, 0, none⟩)), (52, sN h), (53, .int .i64 (i : Int))] ∧ M = .blk b17 (eR e) 77 :: .row cur.p cur.es.length cur.c (recs eR cur.es) 77 4 :: .blk bm (recs eL hdr) 70 :: .blk b11 (nQ h) 44 :: .row qs_ 4 cs (recs eZ smp) 3 1 :: M0 ∧ I = jA e 772 :: xE cur.es 772 :: xG dn 772 :: fZ zf 772 :: kD (h.l.map some) 772 :: I0) ?_ ?_
  ·((repeat refine aH ?_); refine qX (.blk b16 (eN x) 42 :: .row cur.p cur.es.length cur.c (recs eR cur.es) 77 4 :: .blk bm (recs eL hdr) 70 :: .blk b11 (nQ h) 44 :: .row qs_ 4 cs (recs eZ smp) 3 1 :: M0) (fZ x 772 :: xE cur.es 772 :: xG dn 772 :: fZ zf 772 :: kD (h.l.map some) 772 :: I0) mixed ?_)
   refine eU (fuel := 7) (listed' := #[true, true, true, true, false, false, false, false, false, false, false]) [0, 1, 2, 3] [1, 2, 2, 1] aG aF (by kernel_rfl) (by kernel_rfl) rfl rfl ?_
   repeat (refine aJ ?_)
   ((apply iR; exact fV; exact rfl; exact aB; exact AtsZ.o0 (enc := eN) (sz := 2) (ms := h.l) (i := (f : Int)) ⟨by omega, by show (f : Int) < ((9 : Nat) : Int); omega⟩; exact rfl; exact rfl); rw [hzf])
   repeat (refine aJ ?_)
   refine aM (fuel := 6) (i := 4) (j := 8) (by kernel_rfl) ?_ ?_
   ·(refine aA rfl (hN _ _ aB aB) rfl rfl ?_; rintro _ _ _ ⟨rfl, e, rfl, he, rfl⟩; refine ⟨okF, ?_⟩)
    refine aL ?_
    refine aR [5, 6, 7, 8, 9, 10] [1, 1, 2, 0, 0, 0] aG aF (by kernel_rfl) (by kernel_rfl) rfl rfl ?_
    repeat (refine aJ ?_)
    (refine aC rfl rfl ?_; intro b17; refine ⟨okF, ?_⟩)
    repeat (refine aJ ?_)
    refine bN _ _ _ aS aG aF ⟨b17, e, he, rfl, rfl, rfl⟩
   ·(refine aC rfl rfl ?_; intro b17; refine ⟨okF, ?_⟩)
    refine aL ?_
    refine aR [4, 5, 6, 7, 9, 10] [0, 0, 0, 1, 0, 0] aG aF (by kernel_rfl) (by kernel_rfl) rfl rfl ?_
    repeat (refine aJ ?_)
    (refine aA rfl (hN _ _ aB aB) rfl rfl ?_; rintro _ _ _ ⟨rfl, e, rfl, he, rfl⟩; refine ⟨okF, ?_⟩)
    repeat (refine aJ ?_)
    refine bN _ _ _ aS aG aF ⟨b17, e, he, rfl, rfl, rfl⟩
  rintro G M I ⟨b17, e, he, rfl, rfl, rfl⟩
  have hir : Int.tdiv (i : Int) 3 = (r : Int) := by rw [Int.tdiv_eq_ediv_of_nonneg (by omega)]; omega
  have hcq2 : qs (cur.es ++ [e]) = (List.range (j + 1)).map (fun b => qH h f (3 * r + b)) := by
   show (cur.es ++ [e]).map RE.q = _
   rw [List.map_append, show cur.es.map RE.q = qs cur.es from rfl, hcq, List.range_succ, List.map_append]
   show _ ++ [e.q] = _ ++ [qH h f (3 * r + j)]
   rw [he]
   unfold qH
   rw [hi, hx, hzf]
  (repeat refine aH ?_); refine aIT 2 (.blk b17 (eR e) 77 :: .blk bm (recs eL hdr) 70 :: .blk b11 (nQ h) 44 :: .row qs_ 4 cs (recs eZ smp) 3 1 :: M0) (I0) [0, 1, 2, 3, 4, 5, 6, 7, 8, 9, 10, 11, 12] [2, 2, 2, 2, 2, 2, 2, 1, 1, 0, 0, 0, 0] aG aF mixed (by kernel_rfl) ?_
  repeat (refine aJ ?_)
  rw [hir]
  repeat (refine aJ ?_)
  rw [hgr]
  repeat (refine aJ ?_)
  (refine dM (cs := recs eR [e]) ([rv e]) rfl rfl (by intro v hv; repeat (first | exact absurd hv (List.not_mem_nil) | (rcases List.mem_cons.1 hv with rfl | hv; · rfl))) (by omega) rfl rfl rfl ?_; intro b18; refine ⟨okF, ?_⟩)
  (refine iK (ys := [e]) 2 rfl rfl rfl ?_ (by decide) rfl (by omega) (by omega) rfl rfl ?_; (· first | exact Src.blk aB | exact Src.row aB | exact Src.imm aB (by first | assumption | exact .inl (Ok.mk _ _))); intro q2 c3; refine ⟨okF, ?_⟩)
  repeat (refine yXh ?_)
  refine lT rfl rfl rfl lN (StAt.r1 (⟨q2, c3, cur.es ++ [e]⟩ : RL) ⟨by omega, by omega⟩ rfl) rfl rfl ⟨okF, ?_⟩
  rw [hhd, aPS (by omega)]
  repeat (refine aJ ?_)
  refine rO (φ := xE (cur.es ++ [e]) 772) (Hv.snoc aB aB) ?_
  by_cases hj2 : j < 2
  ·rw [show (i : Int) + 1 = ((3 * r + (j + 1) : Nat) : Int) by omega]
   refine aQ (9 - (3 * r + (j + 1))) _ _ _ (by first | omega | (simp only [List.length_append, List.length_cons, List.length_nil]; omega)) aS aG aF (⟨r, j + 1, dn, ⟨q2, c3, cur.es ++ [e]⟩, dn ++ (⟨q2, c3, cur.es ++ [e]⟩ : RL) :: List.replicate (2 - r) zRL, by omega, rfl, by omega, hdl, by simp [hcl], .inl ⟨rfl, hr3⟩, hdq, hd3, hcq2, rfl, rfl, rfl⟩)
  ·obtain rfl : j = 2 := by omega
   rw [show (i : Int) + 1 = ((3 * (r + 1) + 0 : Nat) : Int) by omega]
   refine jZ (M' := .row q2 (cur.es ++ [e]).length c3 (recs eR (cur.es ++ [e])) 77 4 :: .blk bm (recs eL (dn ++ (⟨q2, c3, cur.es ++ [e]⟩ : RL) :: List.replicate (2 - r) zRL)) 70 :: .blk b11 (nQ h) 44 :: .row qs_ 4 cs (recs eZ smp) 3 1 :: M0) (I' := xE (cur.es ++ [e]) 772 :: xG dn 772 :: fZ zf 772 :: kD (h.l.map some) 772 :: I0) aG aF ?_
   refine aQQ (k := 772) aB ?_
   refine rO (φ := xG (dn ++ [(⟨q2, c3, cur.es ++ [e]⟩ : RL)]) 772) (Hv.snocL aB aB) ?_
   refine rO (φ := xE [] 772) Hv.nilR ?_
   refine xS (fun _ hw => hw.row0 77 4) ?_
   refine aQ (9 - (3 * (r + 1) + 0)) _ _ _ (by first | omega | (simp only [List.length_append, List.length_cons, List.length_nil]; omega)) aS aG aF (⟨r + 1, 0, dn ++ [(⟨q2, c3, cur.es ++ [e]⟩ : RL)], zRL, dn ++ (⟨q2, c3, cur.es ++ [e]⟩ : RL) :: List.replicate (2 - r) zRL, by omega, rfl, by omega, by simp [hdl], rfl, by
    by_cases h2 : r = 2
    ·subst h2; exact .inr ⟨rfl, rfl⟩
    ·refine .inl ⟨?_, by omega⟩
     obtain ⟨d, hd⟩ : ∃ d, 2 - r = d + 1 := ⟨1 - r, by omega⟩
     rw [hd, show 2 - (r + 1) = d by omega, List.append_assoc]
     rfl, by rw [List.map_append, hdq, aKM]; show _ ++ [qs (cur.es ++ [e])] = _; rw [hcq2], fun x hx => by
    rcases List.mem_append.1 hx with h1 | h1
    ·exact hd3 x h1
    ·rw [List.mem_singleton.1 h1]; simp [hcl], rfl, rfl, rfl, rfl⟩)
 ·obtain ⟨rfl, hr⟩ : hdr = dn ∧ r = 3 := hh.elim (fun h => by omega) id
  subst hr
  match hdr, hdl with
  | [d0, d1, d2], _ =>
   refine yV (M' := .blk bm (recs eL [d0, d1, d2]) 70 :: .row qs_ 4 cs (recs eZ smp) 3 1 :: M0) (I' := xG [d0, d1, d2] 772 :: I0) aG aF ?_
   refine aNW (C := 3) rfl (by omega) aB ?_
   refine dV (φ := pM ⟨some ⟨bm, 0, none⟩, 3, [d0, d1, d2]⟩ kX) (Hv.xm (k := 772) aB (by show 772 ≤ 103842564; omega)) ?_
   repeat (refine aJ ?_)
   refine jZ (M' := .row qs_ 4 cs (recs eZ smp) 3 1 :: M0) (I' := pM ⟨some ⟨bm, 0, none⟩, 3, [d0, d1, d2]⟩ kX :: I0) aG aF ?_
   refine iL [6, 7] (by first | exact .inl rfl | exact .inr rfl) rfl rfl rfl _ _ aG aF (⟨rfl, ⟨some ⟨bm, 0, none⟩, 3, [d0, d1, d2]⟩, rfl, by rw [show MX.q ⟨some ⟨bm, 0, none⟩, 3, [d0, d1, d2]⟩ = [d0, d1, d2].map RL.q from rfl, hdq]; exact aPL hg0 hhm hf9 (by rw [hzf]; exact hf0) hfz, ⟨rfl, hd3⟩, rfl⟩)
end
end Go.Proofs.YtmmmfphealhapaaGreat
namespace Go.Proofs.YtmmmfphealhapaaGreat
open Go Go.Fx
structure PreP (n a : Nat) (pre : List Int) : Prop where
 lt : ∀ x ∈ pre, 0 ≤ x ∧ x < n ∧ x < a
 asc : pre.Pairwise (· < ·)
theorem PreP.snoc {n a i : Nat} {pre : List Int} (h : PreP n a pre) (hai : a ≤ i) (hi : i < n) : PreP n (i + 1) (pre ++ [(i : Int)]) := by
 refine ⟨fun x hx => ?_, List.pairwise_append.2 ⟨h.asc, List.pairwise_singleton _ _, fun x hx y hy => ?_⟩⟩
 ·rcases List.mem_append.1 hx with hx | hx
  ·have := h.lt x hx; omega
  ·rw [List.mem_singleton.1 hx]; omega
 ·rw [List.mem_singleton.1 hy]
  have := h.lt x hx; omega
theorem PreP.smp {n a : Nat} {pre : List Int} (h : PreP n a pre) : SmpP n pre.length 0 pre := ⟨rfl, fun x hx => by have := h.lt x hx; omega, h.asc⟩
theorem aNJ {vis : List (List Int)} {n k a m : Nat} {pre : List Int} :
  (vis ++ (wS n k a m).map (fun l => pre ++ l)) ++ (uM n k (a + m + 1)).map (fun l => (pre ++ [((a + m : Nat) : Int)]) ++ l) = vis ++ (wS n k a (m + 1)).map (fun l => pre ++ l) := by
 rw [aAM, List.map_append, List.map_map, List.append_assoc]
 congr 2
 refine List.map_congr_left (fun l _ => ?_)
 simp
section
variable {σ : Type} (en : σ → Ent) (im : σ → bA) [∀ s, Fx.Good (im s)] (R : List (List Int) → σ → Prop)
variable {X : List Nat} {w0 : World} {M0 M1 : List Ent} {I0 : List bA}
set_option linter.unusedSectionVars false in
theorem aNK {n size b6 b4 b5 b3 b7 : Nat} {g : FuncId} [FnOk Tryz.prog g] {fs cs : Array Value} (hn : n ≤ 64) (hsz : size ≤ 8)
  (f4 : aX (some ⟨b4, 0, none⟩) [.int .i64 (size : Int)] ∈ I0) (f3 : aX (some ⟨b3, 0, none⟩) [.int .i64 (n : Int)] ∈ I0) (f5 : aX (some ⟨b5, 0, none⟩) [.func (.func g) fs cs] ∈ I0)
  (f7 : aX (some ⟨b7, 0, none⟩) [.func (.func 105) #[] #[.pointer (some ⟨b6, 0, none⟩), .pointer (some ⟨b4, 0, none⟩), .pointer (some ⟨b5, 0, none⟩), .pointer (some ⟨b3, 0, none⟩), .pointer (some ⟨b7, 0, none⟩)]] ∈ I0)
  (hV : ∀ (vis : List (List Int)) (s : σ) (l : List Int) (q : Option Addr) (c : Nat) (M2 : List Ent), R vis s → SmpP n size 0 l → CD Tryz.prog g (fs.toList ++ [.slice q size c] ++ cs.toList) X w0 (.row q size c (recs eZ l) 3 1 :: en s :: M2) (im s :: I0)
   (fun _ M I => ∃ s', R (vis ++ [l]) s' ∧ M = .row q size c (recs eZ l) 3 1 :: en s' :: M2 ∧ I = im s' :: I0)) :
  ∀ (k a : Nat) (ai : Int) (pre : List Int) (vis : List (List Int)) (s : σ) (q : Option Addr) (c pl : Nat), ai = (a : Int) → pl = pre.length → pl + k = size → a ≤ n → PreP n a pre → R vis s →
   CD Tryz.prog 105 [.int .i64 ai, .pointer (some ⟨b6, 0, none⟩), .pointer (some ⟨b4, 0, none⟩), .pointer (some ⟨b5, 0, none⟩), .pointer (some ⟨b3, 0, none⟩), .pointer (some ⟨b7, 0, none⟩)] X w0
    (.blk b6 [.slice q pl c] 31 :: .row q pl c (recs eZ pre) 3 1 :: en s :: M1) (im s :: I0)
    (fun _ M I => ∃ (s' : σ) (q' : Option Addr) (c' : Nat), R (vis ++ (uM n k a).map (fun l => pre ++ l)) s' ∧ M = .blk b6 [.slice q' pl c'] 31 :: .row q' pl c' (recs eZ pre) 3 1 :: en s' :: M1 ∧ I = im s' :: I0) := by
 intro k
 induction k with
 | zero =>
  intro a ai pre vis s q c pl hai hpl hk han hp hR
  have hpz : pl = size := by omega
  have hsm : SmpP n size 0 pre := by rw [← hpz, hpl]; exact hp.smp
  have hVs := fun M2 => hV vis s pre q c M2 hR hsm
  rw [← hpz] at hVs f4
  have hfin : vis ++ [pre] = vis ++ (uM n 0 a).map (fun l => pre ++ l) := by simp [uM]
  refine aHM Tryz.func105 rfl Tryz.ntmps105 rfl ?_
  repeat (refine aJ ?_)
  refine aJV (M' := .row q pl c (recs eZ pre) 3 1 :: en s :: .blk b6 [.slice q pl c] 31 :: M1) (I' := im s :: I0) aG aF ?_
  (refine jP rfl rfl (hVs _) rfl rfl rfl ?_; rintro _ _ _ ⟨s2, hR2, rfl, rfl⟩; refine ⟨okF, ?_⟩)
  repeat (refine aJ ?_)
  refine jZ (M' := .blk b6 [.slice q pl c] 31 :: .row q pl c (recs eZ pre) 3 1 :: en s2 :: M1) (I' := im s2 :: I0) aG aF ?_
  refine qZ (by first | exact .inl rfl | exact .inr rfl) rfl _ _ aG aF (⟨s2, q, c, by rw [← hfin]; exact hR2, rfl, rfl⟩)
 | succ k0 ih =>
  intro a ai pre vis s q c pl hai hpl hk han hp hR
  subst hai
  subst hpl
  refine aHM Tryz.func105 rfl Tryz.ntmps105 rfl ?_
  repeat (refine aJ ?_)
  refine bG [1, 2, 4, 5] rfl (fun k G M I => ∃ (m : Nat) (i : Int) (s : σ) (q : Option Addr) (c : Nat), m ≤ n - a ∧ i = ((a + m : Nat) : Int) ∧ k = n - a - m ∧ R (vis ++ (wS n k0 a m).map (fun l => pre ++ l)) s ∧ G = [(7, .int .i64 i)] ∧ M = .blk b6 [.slice q pre.length c] 31 :: .row q pre.length c (recs eZ pre) 3 1 :: en s :: M1 ∧ I = im s :: I0) (n - a) _ _ _ aS aG aF (⟨0, (a : Int), s, q, c, by omega, rfl, rfl, by rw [aIC]; simpa using hR, rfl, rfl, rfl⟩) ?_
  rintro kk G M I ⟨m, i, s, q, c, hm, hi, rfl, hR, rfl, rfl, rfl⟩
  by_cases hlt : a + m + (k0 + 1) ≤ n
  ·have hih := fun vis s q c hR => ih (a + m + 1) (i + 1) (pre ++ [i]) vis s q c (pre ++ [i]).length (by omega) rfl (by simp; omega) (by omega) (by rw [hi]; exact hp.snoc (by omega) (by omega)) hR
   have hl1 : (pre ++ [i]).length = pre.length + 1 := by simp
   repeat (refine aJ ?_)
   (refine dM (cs := recs eZ [i]) ([.int .i64 i]) rfl rfl (by intro v hv; repeat (first | exact absurd hv (List.not_mem_nil) | (rcases List.mem_cons.1 hv with rfl | hv; · rfl))) (by omega) rfl rfl rfl ?_; intro b9; refine ⟨okF, ?_⟩)
   (refine iK (ys := [i]) 2 rfl rfl rfl ?_ (by decide) rfl (by omega) (by omega) rfl rfl ?_; (· first | exact Src.blk aB | exact Src.row aB | exact Src.imm aB (by first | assumption | exact .inl (Ok.mk _ _))); intro q2 c2; refine ⟨okF, ?_⟩)
   repeat (refine aJ ?_)
   refine aJV (M' := .blk b6 [.slice q2 (pre ++ [i]).length c2] 31 :: .row q2 (pre ++ [i]).length c2 (recs eZ (pre ++ [i])) 3 1 :: en s :: M1) (I' := im s :: I0) aG aF ?_
   (refine jP rfl rfl (hih _ s q2 c2 hR) rfl rfl rfl ?_; rintro _ _ _ ⟨s2, q3, c3, hR2, rfl, rfl⟩; refine ⟨okF, ?_⟩)
   rw [hi, aNJ] at hR2
   refine lU (φ := ∃ b, q3 = some ⟨b, 0, none⟩ ∧ (pre ++ [i]).length ≤ c3) (fun w hw => Mem.rowA hw (List.Mem.tail _ (List.Mem.head _)) (by omega)) (fun hb => ?_)
   obtain ⟨b, rfl, hc3⟩ := hb
   repeat (refine aJ ?_)
   (refine aD rfl (fun _ => rJ pre.length rfl rfl (by omega) (by omega)) rfl rfl ?_)
   repeat (refine aJ ?_)
   refine aQG (m' := pre.length) (.there .here) (by omega) ?_
   rw [show (recs eZ (pre ++ [i])).take (pre.length * 1) = recs eZ pre by rw [oQ]; exact List.take_left' (by rw [iP])]
   refine aQ (n - a - (m + 1)) _ _ _ (by first | omega | (simp only [List.length_append, List.length_cons, List.length_nil]; omega)) aS aG aF (⟨m + 1, i + 1, s2, some ⟨b, 0, none⟩, c3, by omega, by omega, rfl, hR2, rfl, rfl, rfl⟩)
  ·have he : wS n k0 a m = uM n (k0 + 1) a := aKZ (by omega) hm
   rw [he] at hR
   repeat (refine aJ ?_)
   refine qZ (by first | exact .inl rfl | exact .inr rfl) rfl _ _ aG aF (⟨s, q, c, hR, rfl, rfl⟩)
theorem uL {n size : Nat} {g : FuncId} [FnOk Tryz.prog g] {fs cs : Array Value} (hn : n ≤ 64) (hsz : size ≤ 8) {s0 : σ} (h0 : R [] s0)
  (hV : ∀ (I1 : List bA), (∀ φ ∈ I0, φ ∈ I1) → ∀ (vis : List (List Int)) (s : σ) (l : List Int) (q : Option Addr) (c : Nat) (M2 : List Ent), R vis s → SmpP n size 0 l → CD Tryz.prog g (fs.toList ++ [.slice q size c] ++ cs.toList) X w0 (.row q size c (recs eZ l) 3 1 :: en s :: M2) (im s :: I1)
   (fun _ M I => ∃ s', R (vis ++ [l]) s' ∧ M = .row q size c (recs eZ l) 3 1 :: en s' :: M2 ∧ I = im s' :: I1)) :
  CD Tryz.prog 42 [.int .i64 (n : Int), .int .i64 (size : Int), .func (.func g) fs cs] X w0 (en s0 :: M1) (im s0 :: I0) (fun _ M I => ∃ s', R (uM n size 0) s' ∧ M = en s' :: M1 ∧ I = im s' :: I0) := by
 refine oU Tryz.func42 rfl Tryz.ntmps42 rfl ?_
 refine aH ?_
 refine aI ?_
 (refine kG rfl rfl rfl ?_; intro b3; refine ⟨okF, ?_⟩)
 refine aO .here ?_
 (refine kG rfl rfl rfl ?_; intro b4; refine ⟨okF, ?_⟩)
 refine aO .here ?_
 (refine kG rfl rfl rfl ?_; intro b5; refine ⟨okF, ?_⟩)
 refine aO .here ?_
 repeat (refine aJ ?_)
 (refine aKU size rfl rfl (by omega) (by omega) (by omega) rfl rfl ?_; intro bs; refine ⟨okF, ?_⟩)
 (refine aC rfl rfl ?_; intro b6; refine ⟨okF, ?_⟩)
 repeat (refine aJ ?_)
 (refine aC rfl rfl ?_; intro b7; refine ⟨okF, ?_⟩)
 repeat (refine aJ ?_)
 refine aO .here ?_
 refine aJV (M' := .blk b6 [.slice (some ⟨bs, 0, none⟩) 0 size] 31 :: .row (some ⟨bs, 0, none⟩) 0 size (recs eZ []) 3 1 :: en s0 :: M1) (I' := im s0 :: aX (some ⟨b7, 0, none⟩) [.func (.func 105) #[] #[.pointer (some ⟨b6, 0, none⟩), .pointer (some ⟨b4, 0, none⟩), .pointer (some ⟨b5, 0, none⟩), .pointer (some ⟨b3, 0, none⟩), .pointer (some ⟨b7, 0, none⟩)]] :: aX (some ⟨b5, 0, none⟩) [.func (.func g) fs cs] :: aX (some ⟨b4, 0, none⟩) [.int .i64 (size : Int)] :: aX (some ⟨b3, 0, none⟩) [.int .i64 (n : Int)] :: I0) aG aF ?_
 (refine jP rfl rfl (aNK en im R (M1 := M1) hn hsz aB aB aB aB (hV _ (fun φ h => by simp [h])) size 0 0 [] [] s0 (some ⟨bs, 0, none⟩) size 0 rfl rfl (by omega) (by omega) ⟨fun x hx => absurd hx List.not_mem_nil, List.Pairwise.nil⟩ h0) rfl rfl rfl ?_; rintro _ _ _ ⟨s2, q2, c2, hR2, rfl, rfl⟩; refine ⟨okF, ?_⟩)
 repeat (refine aJ ?_)
 refine jZ (M' := en s2 :: M1) (I' := im s2 :: I0) aG aF ?_
 refine qZ (by first | exact .inl rfl | exact .inr rfl) rfl _ _ aG aF (⟨s2, by simpa using hR2, rfl, rfl⟩)
end
end Go.Proofs.YtmmmfphealhapaaGreat

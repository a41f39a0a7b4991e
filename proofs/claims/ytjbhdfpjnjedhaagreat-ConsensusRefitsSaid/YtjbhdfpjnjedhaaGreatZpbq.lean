/- The law ConsensusRefits, walked. -/
import Derived.Test.YtjbhdfpjnjedhaaGreatZpbp
import Derived.Test.YtjbhdfpjnjedhaaGreatZpbi
import Derived.Test.YtjbhdfpjnjedhaaGreatZpan
set_option linter.unusedSimpArgs false
set_option linter.unusedVariables false
set_option maxRecDepth 100000
set_option maxHeartbeats 4000000
namespace Go.Fx
def andZ (k : IntKind) (a b : Int) : Int := k.wrap ((BitVec.ofInt k.bits a &&& BitVec.ofInt k.bits b).toNat : Int)
section
variable {P : Program} {n : Nat} {G : Env} {ty : TypeId} {C : World → Prop}
theorem aHY {t t' : TypeId} {x y : Operand} {k : IntKind} {a b : Int} (hx : ev G x = some (.int k a)) (hy : ev G y = some (.int k b)) : Const P n G (.binOp .and t x y t') ty C (.int k (andZ k a b)) :=
 aHV hx hy (.inl rfl) (fun w => by simp only [Op.intBits, Sem.run_pure]; rfl)
theorem aIB {t t' : TypeId} {x y : Operand} {k k' : IntKind} {a b : Int} (hx : ev G x = some (.int k a)) (hy : ev G y = some (.int k' b)) (hb : 0 ≤ b) : Const P n G (.binOp .shr t x y t') ty C (.int k (a.fdiv (2 ^ (min b.toNat k.bits)))) :=
 yF hx hy hb (.inr ⟨rfl, rfl⟩)
end
end Go.Fx
namespace Go.Proofs.YtjbhdfpjnjedhaaGreat
open Go Go.Fx
theorem pJ {k : Nat} {x : List Rat} (s : Q4) : nN (nP k x) 2 s ≠ 0 := by rw [aFW]; decide
theorem aLH {l : List Int} {i : Nat} (h : aCP l) (hb : ∀ x ∈ l, 0 ≤ x ∧ x < i) : aCP (l ++ [(i : Int)]) := fun j hj h0 => by
 rw [List.length_append] at hj
 have hj' : j < l.length + 1 := hj
 have e1 : gt (l ++ [(i : Int)]) ((j - 1 : Nat) : Int) = gt l ((j - 1 : Nat) : Int) := by rw [fB (by simp; omega), fB (by omega), List.getElem_append_left (by omega)]
 rw [e1]
 by_cases e : j = l.length
 ·have e2 : gt (l ++ [(i : Int)]) (j : Int) = (i : Int) := by rw [fB (by simp; omega)]; simp [e]
  rw [e2]
  exact (hb _ (dF (by omega))).2
 ·have e2 : gt (l ++ [(i : Int)]) (j : Int) = gt l (j : Int) := by rw [fB (by simp; omega), fB (by omega), List.getElem_append_left (by omega)]
  rw [e2]
  exact h j (by omega) h0
theorem aNN {n : Nat} {l : List Int} (h : aCP l) (hb : ∀ x ∈ l, 0 ≤ x ∧ x < n) : xX n l = 0 := by
 unfold xX
 rw [if_neg (fun h2 => h2 h), if_neg]
 rintro ⟨x, hx, h3⟩
 have := hb x hx
 omega
theorem aNB {k : Nat} {l : List Q4} {A : Mt} (h : pY k l = some A) : aJA k l ≠ 0 ∧ A = nP k (wU k l) ∧ dt 3 (at2 A) ≠ 0 := by
 unfold pY at h
 by_cases h1 : l = []
 ·rw [if_pos h1] at h; cases h
 ·rw [if_neg h1] at h
  by_cases h2 : aJA k l = 0
  ·rw [if_pos h2] at h; cases h
  ·rw [if_neg h2] at h
   by_cases h3 : dt 3 (at2 (nP k (wU k l))) = 0
   ·rw [if_pos h3] at h; cases h
   ·rw [if_neg h3] at h
    cases h
    exact ⟨h2, rfl, h3⟩
theorem aAY (x : List Rat) : nP 0 [at2 (nP 0 x) 0 2, at2 (nP 0 x) 1 2] = nP 0 x ∧ nP 1 [at2 (nP 1 x) 0 0, at2 (nP 1 x) 1 0, at2 (nP 1 x) 0 2, at2 (nP 1 x) 1 2] = nP 1 x ∧ nP 2 [at2 (nP 2 x) 0 0, at2 (nP 2 x) 0 1, at2 (nP 2 x) 0 2, at2 (nP 2 x) 1 0, at2 (nP 2 x) 1 1, at2 (nP 2 x) 1 2] = nP 2 x := ⟨rfl, rfl, rfl⟩
theorem Hv.wlq {I : List aY} {b n : Nat} {rs : List RW} (hn : rs.length = n) (h1 : aO (some ⟨b, 0, none⟩) (recs eW rs) ∈ I) (h2 : ∀ r ∈ rs, isW r ∈ I) : Hv I (uX ⟨some ⟨b, 0, none⟩, n, rs⟩) := ⟨fun X w hw => ⟨(hw _ h1 : SlI _ _ X w).go, fun e he => hw _ (h2 e he), ⟨Nat.le_of_eq hn, .inl (Ok.mk _ _)⟩⟩⟩
theorem Hv.lqq {I : List aY} {b k n : Nat} {es : List RE} (hn : es.length = n) (h1 : aO (some ⟨b, 0, none⟩) (recs eR es) ∈ I) (h2 : ∀ e ∈ es, bS e k ∈ I) : Hv I (iZ ⟨some ⟨b, 0, none⟩, n, es⟩ k) := ⟨fun X w hw => ⟨(hw _ h1 : SlI _ _ X w).go, fun e he => hw _ (h2 e he), ⟨Nat.le_of_eq hn, .inl (Ok.mk _ _)⟩⟩⟩
section
variable {X : List Nat} {w0 : World} {M0 M1 M2 : List Ent} {I0 : List aY}
theorem aIN {x : Int} {q qs_ : Option Addr} {l : List Q4} {n c ns cs_ : Nat} (hl : l.length = n) (hn : (n : Int) ≤ 9223372036854775807) (hk : kW x l ≠ 0) (hq : aO q (recs kU l) ∈ I0) :
  CD Tryz.prog 40 [.int .i64 x, .slice q n c, .slice qs_ ns cs_] X w0 M0 I0 (fun v M I => M0 = M ∧ I0 = I ∧ v = .tuple #[.slice none 0 0, .int .i64 (kW x l)]) := by
 have hK := fun M0 I0 h => uJ (X := X) (w0 := w0) (M0 := M0) (I0 := I0) (x := x) (q := q) (l := l) (n := n) (c := c) hl hn h
 simp only [if_neg hk] at hK
 generalize kW x l = C at *
 refine jU Tryz.func40 rfl Tryz.ntmps40 rfl ?_
 repeat (refine aK ?_)
 (refine aA rfl (hK _ _ aB) rfl rfl ?_; rintro _ _ _ ⟨rfl, rfl, rfl⟩; refine ⟨okF, ?_⟩)
 repeat (refine aK ?_)
 refine eP [6, 7] (by first | exact .inl rfl | exact .inr rfl) rfl rfl rfl _ _ aD aC (⟨rfl, rfl, rfl⟩)
theorem aMX {q qs_ : Option Addr} {l : List Q4} {smp : List Int} {n c ns cs_ : Nat} (hl : l.length = n) (hn : n ≤ 64) (hc : kK l = 0) (hsl : smp.length = ns) (hns : ns ≤ 64) (hls : xX n smp = 0) (hq : aO q (recs kU l) ∈ I0) (hqs : aO qs_ (recs eZ smp) ∈ I0) :
  CD Tryz.prog 40 [.int .i64 3, .slice q n c, .slice qs_ ns cs_] X w0 M0 I0 (fun v M I => M0 = M ∧ I0 = I ∧ v = .tuple #[.slice none 0 0, .int .i64 11]) := by
 have hK := fun M0 I0 h => uJ (X := X) (w0 := w0) (M0 := M0) (I0 := I0) (x := 3) (q := q) (l := l) (n := n) (c := c) hl (by omega) h
 rw [show kW 3 l = 0 from aDZ (kd := 3) (by omega) hc] at hK
 have hLs := fun M0 I0 h => aAC (X := X) (w0 := w0) (M0 := M0) (I0 := I0) (q := q) (qs := qs_) (l := l) (smp := smp) (n := n) (c := c) (ns := ns) (cs := cs_) hl (by omega) hsl (by omega) h
 rw [hls] at hLs
 refine jU Tryz.func40 rfl Tryz.ntmps40 rfl ?_
 repeat (refine aK ?_)
 (refine aA rfl (hK _ _ aB) rfl rfl ?_; rintro _ _ _ ⟨rfl, rfl, rfl⟩; refine ⟨okF, ?_⟩)
 repeat (refine aK ?_)
 (refine aA rfl (hLs _ _ aB) rfl rfl ?_; rintro _ _ _ ⟨rfl, rfl, rfl⟩; refine ⟨okF, ?_⟩)
 repeat (refine aK ?_)
 refine eP [6, 7] (by first | exact .inl rfl | exact .inr rfl) rfl rfl rfl _ _ aD aC (⟨rfl, rfl, rfl⟩)
theorem aPE {r : RW} (hw : Hv I0 (isW r)) : CD Tryz.prog 39 [wv r] X w0 M0 I0 (fun v M I => M0 = M ∧ I0 = I ∧ v = .bool (B (¬ r.brief))) := by
 have hB := fun M0 I0 h => aOL (X := X) (w0 := w0) (M0 := M0) (I0 := I0) (r := r) h
 refine cZ (φ := isW r) hw ?_
 refine aZ Tryz.func39 rfl Tryz.ntmps39 rfl ?_
 refine aG ?_
 refine aJ ?_
 (refine aR rfl rfl rfl ?_; intro b1; refine ⟨okF, ?_⟩)
 repeat (refine aK ?_)
 (refine aA rfl (hB _ _ (Hv.mem aB)) rfl rfl ?_; rintro _ _ _ ⟨rfl, rfl, rfl⟩; refine ⟨okF, ?_⟩)
 repeat (refine aK ?_)
 refine gZ (M' := M0) (I' := I0) aD aC ?_
 refine aH (by first | exact .inl rfl | exact .inr rfl) rfl rfl _ _ aD aC (⟨rfl, rfl, rfl⟩)
theorem LRefs {kd t2 x y : Int} {ex tu : Bool} {q : Option Addr} {l : List Q4} {n c : Nat} {rs : List RW} (hx : -32768 ≤ x ∧ x ≤ 32767) (hrl : rs.length = 6) (hl : l.length = n) (hn : (n : Int) ≤ 9223372036854775807) (hq : aO q (recs kU l) ∈ I0) (hr : ∀ r ∈ rs, isW r ∈ I0) :
  CD Tryz.prog 8 [.slice q n c, .agg (eTk kd t2 x y ex tu).toArray, .agg (recs eW rs).toArray] X w0 M0 I0 (fun v M I => M0 = M ∧ I0 = I ∧ v = .bool true) := by
 have hKn := fun M0 I0 => aIZ (X := X) (w0 := w0) (M0 := M0) (I0 := I0)
 have hCh := fun M0 I0 h => aMA (X := X) (w0 := w0) (M0 := M0) (I0 := I0) (q := q) (l := l) (n := n) (c := c) hl hn h
 have hIk := fun M0 I0 => aHM (X := X) (w0 := w0) (M0 := M0) (I0 := I0) (x := kd)
 refine rH (φ := ∀ r ∈ rs, r.Fit) (fun w hw r hrm => Mem.fitR (hr r hrm) hw) (fun hfit => ?_)
 refine cZ (φ := aO q (recs kU l)) (Hv.mem hq) ?_
 refine jU Tryz.func8 rfl Tryz.ntmps8 rfl ?_
 refine aG ?_
 refine aJ ?_
 (refine aR rfl rfl rfl ?_; intro b4; refine ⟨okF, ?_⟩)
 refine bC .here ?_
 (refine aR rfl rfl rfl ?_; intro b5; refine ⟨okF, ?_⟩)
 refine bC (cs := recs eW rs) .here ?_
 refine dP (φ := uX ⟨some ⟨b5, 0, none⟩, 6, rs⟩) (Hv.wlq hrl (List.Mem.head _) (fun r h => List.mem_cons_of_mem _ (List.mem_cons_of_mem _ (List.mem_cons_of_mem _ (hr r h))))) ?_
 repeat (refine aK ?_)
 (refine aA rfl (hKn _ _) rfl rfl ?_; rintro _ _ _ ⟨rfl, rfl, rfl⟩; refine ⟨okF, ?_⟩)
 repeat (refine aK ?_)
 (refine aA rfl (aSP) rfl rfl ?_; rintro _ _ _ ⟨rfl, rfl, rfl⟩; refine ⟨okF, ?_⟩)
 by_cases h10 : (n : Int) ≤ 10
 case neg =>
  repeat (refine aK ?_)
  refine gZ (M' := M0) (I' := I0) aD aC ?_
  refine aH (by first | exact .inl rfl | exact .inr rfl) rfl rfl _ _ aD aC (⟨rfl, rfl, rfl⟩)
 repeat (refine aK ?_)
 (refine aF rfl (fun _ => kL rfl) rfl rfl ?_)
 have hF := fun M0 I0 (hw : ∀ i : Nat, i < rs.length → Hv I0 (isW (gt rs (i : Int)))) h => aHH (X := X) (w0 := w0) (M0 := M0) (I0 := I0) (q := some ⟨b5, 0, none⟩) (a := rs) (c := 6) (g := 39) (fs := #[]) (cs := #[]) (fun r => ¬ r.brief) (by omega) h (fun i hi => aPE (hw i hi))
 rw [hrl] at hF
 (refine aA rfl (hF _ _ (fun i hi => Hv.wlel (r := ⟨some ⟨b5, 0, none⟩, 6, rs⟩) aB ⟨by omega, by show (i : Int) < (rs.length : Int); omega⟩) aB) rfl rfl ?_; rintro _ _ _ ⟨rfl, rfl, rfl⟩; refine ⟨okF, ?_⟩)
 by_cases hbr : ∀ r ∈ rs, r.brief
 case neg =>
  rw [bJ (show ∃ x ∈ rs, ¬ x.brief from Classical.byContradiction (fun hn => hbr (fun x hx => Classical.byContradiction (fun h => hn ⟨x, hx, h⟩))))]
  repeat (refine aK ?_)
  refine gZ (M' := M0) (I' := I0) aD aC ?_
  refine aH (by first | exact .inl rfl | exact .inr rfl) rfl rfl _ _ aD aC (⟨rfl, rfl, rfl⟩)
 rw [bB (show ¬ ∃ x ∈ rs, ¬ x.brief from fun ⟨x, hx, hn⟩ => hn (hbr x hx))]
 repeat (refine aK ?_)
 refine mM 3 1 ?_
 refine aT [0, 4, 5, 23] rfl (fun k G M I => ∃ (i : Nat) (zs : List Int) (qe : Option Addr) (ce : Nat), i ≤ n ∧ k = n - i ∧ aCP zs ∧ zs.length ≤ i ∧ (∀ x ∈ zs, 0 ≤ x ∧ x < i) ∧ G = [(7, .slice qe zs.length ce), (24, .int .i64 i)] ∧ M = .row qe zs.length ce (recs eZ zs) 3 1 :: M0 ∧ I = uX ⟨some ⟨b5, 0, none⟩, 6, rs⟩ :: aO (some ⟨b5, 0, none⟩) (recs eW rs) :: aO (some ⟨b4, 0, none⟩) (eTk kd t2 x y ex tu) :: aO q (recs kU l) :: I0) (n) _ _ _ aP aD aC (⟨0, [], none, 0, by omega, rfl, fun j hj => by simp at hj, by simp, fun x hx => by simp at hx, rfl, rfl, rfl⟩) ?_
 rintro kk G M I ⟨i, zs, qe, ce, hi, rfl, hza, hzl, hzb, rfl, rfl, rfl⟩
 by_cases hin : i < n
 ·have ht0 : 0 ≤ Int.tmod (i : Int) 16 := Int.tmod_nonneg _ (by omega)
  repeat (refine aK ?_)
  (refine aF rfl (fun _ => aIB rfl rfl ht0) rfl rfl ?_)
  repeat (refine aK ?_)
  (refine aF rfl (fun _ => aHY rfl rfl) rfl rfl ?_)
  generalize andZ _ _ _ = z
  by_cases hz : z = 0
  ·repeat (refine aK ?_)
   (refine aQ (cs := recs eZ [(i : Int)]) ([.int .i64 (i : Int)]) rfl rfl (by intro v hv; repeat (first | exact absurd hv (List.not_mem_nil) | (rcases List.mem_cons.1 hv with rfl | hv; · rfl))) (by omega) rfl rfl rfl ?_; intro b; refine ⟨okF, ?_⟩)
   (refine dI (ys := [(i : Int)]) 1 rfl rfl rfl ?_ (by decide) rfl (by omega) (by omega) rfl rfl ?_; (· first | exact Src.blk aB | exact Src.row aB | exact Src.imm aB (by first | assumption | exact .inl (Ok.mk _ _))); intro q2 c3; refine ⟨okF, ?_⟩)
   repeat (refine aK ?_)
   refine aL (n - (i + 1)) _ _ _ (by first | omega | (simp only [List.length_append, List.length_cons, List.length_nil]; omega)) aP aD aC (⟨i + 1, zs ++ [(i : Int)], q2, c3, by omega, rfl, aLH hza hzb, by rw [List.length_append]; show zs.length + 1 ≤ _; omega, fun x hx => by
    rcases List.mem_append.1 hx with h | h
    ·have := hzb x h; omega
    ·obtain rfl := List.mem_singleton.1 h; omega, rfl, rfl, rfl⟩)
  ·repeat (refine aK ?_)
   refine aL (n - (i + 1)) _ _ _ (by first | omega | (simp only [List.length_append, List.length_cons, List.length_nil]; omega)) aP aD aC (⟨i + 1, zs, qe, ce, by omega, rfl, hza, by omega, fun x hx => by have := hzb x hx; omega, rfl, rfl, rfl⟩)
 obtain rfl : i = n := by omega
 have hls := aNN hza hzb
 repeat (refine aK ?_)
 refine eU .here ?_
 by_cases hkc : kW kd l = 0
 case neg =>
  have hRk := fun M0 I0 h => aIN (X := X) (w0 := w0) (M0 := M0) (I0 := I0) (x := kd) (q := q) (qs_ := qe) (l := l) (n := i) (c := c) (ns := zs.length) (cs_ := ce) hl hn hkc h
  (refine aA rfl (hRk _ _ aB) rfl rfl ?_; rintro _ _ _ ⟨rfl, rfl, rfl⟩; refine ⟨okF, ?_⟩)
  by_cases hc : kK l = 0
  ·have hnk : ¬ kdP kd := fun h => hkc (by unfold kW; rw [if_pos hc, if_pos h])
   have e1 : kW kd l = 1 := by unfold kW; rw [if_pos hc, if_neg hnk]
   rw [e1]
   rw [hc] at hCh
   rw [bB hnk] at hIk
   repeat (refine aK ?_)
   (refine aA rfl (hCh _ _ aB) rfl rfl ?_; rintro _ _ _ ⟨rfl, rfl, rfl⟩; refine ⟨okF, ?_⟩)
   repeat (refine aK ?_)
   (refine aA rfl (hIk _ _) rfl rfl ?_; rintro _ _ _ ⟨rfl, rfl, rfl⟩; refine ⟨okF, ?_⟩)
   repeat (refine aK ?_)
   refine gZ (M' := M0) (I' := I0) aD aC ?_
   refine aH (by first | exact .inl rfl | exact .inr rfl) rfl rfl _ _ aD aC (⟨rfl, rfl, congrArg Value.bool (bJ rfl)⟩)
  ·have e1 : kW kd l = kK l := by unfold kW; rw [if_neg hc]
   rw [e1]
   clear hkc hRk e1 hls
   generalize kK l = C at *
   repeat (refine aK ?_)
   (refine aA rfl (hCh _ _ aB) rfl rfl ?_; rintro _ _ _ ⟨rfl, rfl, rfl⟩; refine ⟨okF, ?_⟩)
   repeat (refine aK ?_)
   refine gZ (M' := M0) (I' := I0) aD aC ?_
   refine aH (by first | exact .inl rfl | exact .inr rfl) rfl rfl _ _ aD aC (⟨rfl, rfl, congrArg Value.bool (bJ rfl)⟩)
 have hc : kK l = 0 := Classical.byContradiction (fun h => by unfold kW at hkc; rw [if_neg h] at hkc; exact h hkc)
 have hkd : kdP kd := Classical.byContradiction (fun h => by unfold kW at hkc; rw [if_pos hc, if_neg h] at hkc; cases hkc)
 rw [hc] at hCh
 rw [bJ hkd] at hIk
 obtain ⟨kn, rfl⟩ : ∃ kn : Nat, kd = (kn : Int) := ⟨kd.toNat, by have := hkd.1; omega⟩
 have hk3 := hkd.2
 obtain ⟨⟨_, _⟩, hs⟩ := zQ hc
 by_cases h3 : kn = 3
 ·subst h3
  have hRh := fun M0 I0 h1 h2 => aMX (X := X) (w0 := w0) (M0 := M0) (I0 := I0) (q := q) (qs_ := qe) (l := l) (smp := zs) (n := i) (c := c) (ns := zs.length) (cs_ := ce) hl (by omega) hc rfl (by omega) hls h1 h2
  (refine aA rfl (hRh _ _ aB aB) rfl rfl ?_; rintro _ _ _ ⟨rfl, rfl, rfl⟩; refine ⟨okF, ?_⟩)
  repeat (refine aK ?_)
  (refine aA rfl (hCh _ _ aB) rfl rfl ?_; rintro _ _ _ ⟨rfl, rfl, rfl⟩; refine ⟨okF, ?_⟩)
  repeat (refine aK ?_)
  (refine aA rfl (hIk _ _) rfl rfl ?_; rintro _ _ _ ⟨rfl, rfl, rfl⟩; refine ⟨okF, ?_⟩)
  repeat (refine aK ?_)
  refine gZ (M' := M0) (I' := I0) aD aC ?_
  refine aH (by first | exact .inl rfl | exact .inr rfl) rfl rfl _ _ aD aC (⟨rfl, rfl, congrArg Value.bool (bJ rfl)⟩)
 have hk2 : kn ≤ 2 := by omega
 have hRf := fun M0 I0 h1 h2 => aPG (X := X) (w0 := w0) (M0 := M0) (I0 := I0) (kd := kn) (q := q) (qs_ := qe) (l := l) (smp := zs) (n := i) (c := c) (ns := zs.length) (cs_ := ce) hk2 hl (by omega) hs hc rfl (by omega) hls h1 h2
 unfold RefR at hRf
 rcases hfp : pY kn (kH l zs) with _ | A
 ·rw [hfp] at hRf
  simp only at hRf
  (refine aA rfl (hRf _ _ aB aB) rfl rfl ?_; rintro _ _ _ ⟨rfl, rfl, rfl⟩; refine ⟨okF, ?_⟩)
  repeat (refine aK ?_)
  (refine aA rfl (hCh _ _ aB) rfl rfl ?_; rintro _ _ _ ⟨rfl, rfl, rfl⟩; refine ⟨okF, ?_⟩)
  repeat (refine aK ?_)
  (refine aA rfl (hIk _ _) rfl rfl ?_; rintro _ _ _ ⟨rfl, rfl, rfl⟩; refine ⟨okF, ?_⟩)
  repeat (refine aK ?_)
  refine gZ (M' := M0) (I' := I0) aD aC ?_
  refine aH (by first | exact .inl rfl | exact .inr rfl) rfl rfl _ _ aD aC (⟨rfl, rfl, congrArg Value.bool (bJ rfl)⟩)
 obtain ⟨hfd, hA, hdt⟩ := aNB hfp
 rw [hfp] at hRf
 simp only at hRf
 (refine aA rfl (hRf _ _ aB aB) rfl rfl ?_; rintro _ _ _ ⟨rfl, m, rfl, hmq, hmd, rfl⟩; refine ⟨okF, ?_⟩)
 have hVa := fun M0 I0 h => aIA (X := X) (w0 := w0) (M0 := M0) (I0 := I0) (A := m) (u := kX) (by show 103842564 ≤ _; omega) ⟨hmd, by omega, by omega⟩ h
 rw [bJ (show dt 3 (at2 m.q) ≠ 0 by rw [hmq]; exact hdt)] at hVa
 repeat (refine aK ?_)
 (refine aA rfl (hCh _ _ aB) rfl rfl ?_; rintro _ _ _ ⟨rfl, rfl, rfl⟩; refine ⟨okF, ?_⟩)
 repeat (refine aK ?_)
 (refine aA rfl (hIk _ _) rfl rfl ?_; rintro _ _ _ ⟨rfl, rfl, rfl⟩; refine ⟨okF, ?_⟩)
 repeat (refine aK ?_)
 (refine aA rfl (hVa _ _ aB) rfl rfl ?_; rintro _ _ _ ⟨rfl, rfl, rfl⟩; refine ⟨okF, ?_⟩)
 repeat (refine aK ?_)
 (refine aF rfl (fun _ => kL rfl) rfl rfl ?_)
 have hVl := fun M0 I0 h => vB (X := X) (w0 := w0) (M0 := M0) (I0 := I0) (r := ⟨some ⟨b5, 0, none⟩, 6, rs⟩) ⟨by show rs.length ≤ _; omega, fun e he => (hbr e he).sml⟩ h
 unfold lvW at hVl
 simp only [hrl] at hVl
 (refine aA rfl (hVl _ _ aB) rfl rfl ?_; rintro _ _ _ ⟨rfl, rfl, rfl⟩; refine ⟨okF, ?_⟩)
 by_cases hg : (⟨some ⟨b5, 0, none⟩, 6, rs⟩ : WL).good
 case neg =>
  rw [bB hg]
  repeat (refine aK ?_)
  (refine aA rfl (hVa _ _ aB) rfl rfl ?_; rintro _ _ _ ⟨rfl, rfl, rfl⟩; refine ⟨okF, ?_⟩)
  repeat (refine aK ?_)
  refine gZ (M' := M0) (I' := I0) aD aC ?_
  refine aH (by first | exact .inl rfl | exact .inr rfl) rfl rfl _ _ aD aC (⟨rfl, rfl, rfl⟩)
 rw [bJ hg]
 obtain ⟨⟨px, cx, es⟩, hxe, hxl⟩ := aMU (x := ⟨some ⟨b5, 0, none⟩, 6, rs⟩) hfit hg
 have hpx : px = some ⟨b5, 0, none⟩ := (congrArg WL.p hxe).symm
 have hcx : cx = 6 := (congrArg WL.c hxe).symm
 subst hpx
 subst hcx
 have hxl : es.length = 6 := hxl.trans hrl
 refine dP (φ := iZ ⟨some ⟨b5, 0, none⟩, 6, es⟩ 30) (Hv.shtL hxe ⟨by show rs.length ≤ 6; omega, hbr⟩ aB) ?_
 have hS2 := fun M0 I0 h => uS (X := X) (w0 := w0) (M0 := M0) (I0 := I0) (kd := kn) (u := 30) (x := ⟨some ⟨b5, 0, none⟩, 6, es⟩) hk2 (by omega) (by show zA kn ≤ es.length; have := aRS kn; omega) h
 unfold lv at hS2
 simp only [hxl] at hS2
 have hT1 := fun (m : MX) (dm : m.dim 3 3) (hr : ∀ s, nN m.q 2 s ≠ 0) (u : Nat) (hu : u ≤ 250000000) M0 I0 h1 h2 h3 => aNG (X := X) (w0 := w0) (M0 := M0) (I0 := I0) (m := m) (q := q) (qs_ := qe) (l := l) (smp := zs) (n := i) (c := c) (ns := zs.length) (cs_ := ce) (u := u) hu dm hr hl (by omega) hs rfl (by omega) hzb h1 h2 h3
 have hmr : m.rows.length = 3 := hmd.1
 have hr0 : (gt m.rows 0).es.length = 3 := hmd.2 _ (dF (by omega))
 have hr1 : (gt m.rows 1).es.length = 3 := hmd.2 _ (dF (by omega))
 have hel : ∀ (r j : Nat), r < 2 → j < 3 → at2 m.q r j = (gt (gt m.rows (r : Int)).es (j : Int)).q := fun r j h1 h2 => by
  rw [aEV (by omega)]
  refine jK ?_
  obtain rfl | rfl : r = 0 ∨ r = 1 := by omega
  ·rw [show gt m.rows ((0 : Nat) : Int) = gt m.rows 0 from rfl]; omega
  ·rw [show gt m.rows ((1 : Nat) : Int) = gt m.rows 1 from rfl]; omega
 refine dP (φ := aO m.p (recs eL m.rows)) (Hv.xsl (k := kX) aB) ?_
 refine dP (φ := aO (gt m.rows 0).p (recs eR (gt m.rows 0).es)) (Hv.xrsl (m := m) (k := kX) aB (by omega)) ?_
 refine dP (φ := aO (gt m.rows 1).p (recs eR (gt m.rows 1).es)) (Hv.xrsl (m := m) (k := kX) aB (by omega)) ?_
 refine dP (φ := bS (gt (gt m.rows 0).es 0) kX) (Hv.xel (m := m) (k := kX) aB (by omega) (by omega)) ?_
 refine dP (φ := bS (gt (gt m.rows 0).es 1) kX) (Hv.xel (m := m) (k := kX) aB (by omega) (by omega)) ?_
 refine dP (φ := bS (gt (gt m.rows 0).es 2) kX) (Hv.xel (m := m) (k := kX) aB (by omega) (by omega)) ?_
 refine dP (φ := bS (gt (gt m.rows 1).es 0) kX) (Hv.xel (m := m) (k := kX) aB (by omega) (by omega)) ?_
 refine dP (φ := bS (gt (gt m.rows 1).es 1) kX) (Hv.xel (m := m) (k := kX) aB (by omega) (by omega)) ?_
 refine dP (φ := bS (gt (gt m.rows 1).es 2) kX) (Hv.xel (m := m) (k := kX) aB (by omega) (by omega)) ?_
 repeat (refine aK ?_)
 (repeat refine aG ?_); refine bZ (M0) (aO (gt m.rows 1).p (recs eR (gt m.rows 1).es) :: aO (gt m.rows 0).p (recs eR (gt m.rows 0).es) :: aO m.p (recs eL m.rows) :: I0) [0, 1, 2, 3, 4, 5, 6, 7, 8, 9, 10, 11] [1, 1, 1, 1, 0, 1, 1, 1, 1, 0, 0, 0] aD aC mixed (by kernel_rfl) ?_
 repeat (refine aK ?_)
 (refine aQ (cs := recs eR [gt (gt m.rows 0).es 2, gt (gt m.rows 1).es 2]) ([rv (gt (gt m.rows 0).es 2), rv (gt (gt m.rows 1).es 2)]) rfl rfl (by intro v hv; repeat (first | exact absurd hv (List.not_mem_nil) | (rcases List.mem_cons.1 hv with rfl | hv; · rfl))) (by omega) rfl rfl rfl ?_; intro bf; refine ⟨okF, ?_⟩)
 rcases (show kn = 0 ∨ kn = 1 ∨ kn = 2 by omega) with h0 | h0 | h0
 ·subst h0
  repeat (refine aK ?_)
  refine yT (fun _ hw => Mem.freezeB (b := bf) (cs := recs eR [gt (gt m.rows 0).es 2, gt (gt m.rows 1).es 2]) hw .here) ?_
  refine iB (φ := iZ ⟨some ⟨bf, 0, none⟩, 2, [gt (gt m.rows 0).es 2, gt (gt m.rows 1).es 2]⟩ kX) (Hv.lqq rfl aB (fun e he => by
   simp only [List.mem_cons, List.not_mem_nil, or_false] at he
   rcases he with rfl | rfl <;> exact aB)) ?_
  have hS1 := fun M0 I0 h => uS (X := X) (w0 := w0) (M0 := M0) (I0 := I0) (kd := 0) (u := kX) (x := ⟨some ⟨bf, 0, none⟩, 2, [gt (gt m.rows 0).es 2, gt (gt m.rows 1).es 2]⟩) hk2 (by show 103842564 ≤ _; omega) (by show 2 ≤ 2; omega) h
  have hqf : nP 0 [(gt (gt m.rows 0).es 2).q, (gt (gt m.rows 1).es 2).q] = nP 0 (wU 0 (kH l zs)) := by
   rw [← show at2 m.q 0 2 = (gt (gt m.rows 0).es 2).q from hel 0 2 (by omega) (by omega), ← show at2 m.q 1 2 = (gt (gt m.rows 1).es 2).q from hel 1 2 (by omega) (by omega)]
   simp only [hmq, hA]
   exact (aAY _).1
  (repeat refine aG ?_); refine bZ (M0) (aO (some ⟨b4, 0, none⟩) (eTk (0 : Nat) t2 x y ex tu) :: I0) [0, 1, 2, 3, 4, 5, 6, 7, 8, 9, 11, 12, 13, 15, 16, 10, 14, 17, 18, 19, 20, 21] [5, 6, 5, 5, 0, 0, 0, 3, 3, 3, 4, 3, 3, 3, 3, 0, 0, 0, 0, 0, 0, 0] aD aC mixed (by kernel_rfl) ?_
  repeat (refine aK ?_)
  (refine aA rfl (hS1 _ _ aB) rfl rfl ?_; rintro _ _ _ ⟨rfl, m2, rfl, hm2, hmd2, rfl⟩; refine ⟨okF, ?_⟩)
  have hSm := fun M0 I0 h1 h2 => aBM (X := X) (w0 := w0) (M0 := M0) (I0 := I0) (a := m) (b := m2) (k := kX) (m := kX) (by show 103842564 + 103842564 + 1 ≤ _; omega) hmd hmd2 h1 h2
  rw [bJ (show m.q = m2.q by rw [hm2, hmq, hA]; exact hqf.symm)] at hSm
  (refine aA rfl (hSm _ _ aB aB) rfl rfl ?_; rintro _ _ _ ⟨rfl, rfl, rfl⟩; refine ⟨okF, ?_⟩)
  repeat (refine aK ?_)
  (refine aF rfl (fun _ => kL rfl) rfl rfl ?_)
  repeat (refine aK ?_)
  (refine aA rfl (hT1 m hmd (fun s => by rw [hmq, hA]; exact pJ s) kX (by show 103842564 ≤ _; omega) _ _ aB aB aB) rfl rfl ?_; rintro _ _ _ ⟨rfl, ea, rfl, hea, rfl⟩; refine ⟨okF, ?_⟩)
  repeat (refine aK ?_)
  (refine aA rfl (hS2 _ _ aB) rfl rfl ?_; rintro _ _ _ ⟨rfl, m3, rfl, hm3, hmd3, rfl⟩; refine ⟨okF, ?_⟩)
  repeat (refine aK ?_)
  (refine aA rfl (hT1 m3 hmd3 (fun s => by rw [hm3]; exact pJ s) 30 (by omega) _ _ aB aB aB) rfl rfl ?_; rintro _ _ _ ⟨rfl, eb, rfl, heb, rfl⟩; refine ⟨okF, ?_⟩)
  have hmul1 : zs.length * (24 * kX + 449 + 1) ≤ 10 * (24 * 103842564 + 449 + 1) := Nat.mul_le_mul (by omega) (by show 24 * 103842564 + 449 + 1 ≤ _; omega)
  have hmul2 : zs.length * (24 * 30 + 449 + 1) ≤ 10 * (24 * 30 + 449 + 1) := Nat.mul_le_mul (by omega) (by omega)
  (refine aA rfl (oZ (a := ea) (b := eb) (k := zs.length * (24 * kX + 449 + 1)) (m := zs.length * (24 * 30 + 449 + 1)) (Nat.le_trans (Nat.succ_le_succ (Nat.add_le_add hmul1 hmul2)) (by decide)) (Hv.mem aB) (Hv.mem aB)) rfl rfl ?_; rintro _ _ _ ⟨rfl, rfl, rfl⟩; refine ⟨okF, ?_⟩)
  have hle : xU ea.q eb.q ≤ 0 := by
   rw [zP, hea, heb, hmq, hA, hm3]
   exact xI hfd _
  repeat (refine aK ?_)
  refine gZ (M' := M0) (I' := I0) aD aC ?_
  refine aH (by first | exact .inl rfl | exact .inr rfl) rfl rfl _ _ aD aC (⟨rfl, rfl, congrArg Value.bool (bJ hle)⟩)
 ·subst h0
  repeat (refine aK ?_)
  (repeat refine aG ?_); refine bZ (M0) (aO (gt m.rows 1).p (recs eR (gt m.rows 1).es) :: aO (gt m.rows 0).p (recs eR (gt m.rows 0).es) :: aO m.p (recs eL m.rows) :: I0) [0, 1, 2, 3, 4, 5, 6, 7, 8, 9, 10, 11, 12, 13, 14, 15, 16, 17, 18, 19, 20, 21] [1, 1, 1, 1, 0, 1, 1, 1, 1, 0, 1, 1, 1, 1, 0, 1, 1, 1, 1, 0, 0, 0] aD aC mixed (by kernel_rfl) ?_
  repeat (refine aK ?_)
  (refine aQ (cs := recs eR [gt (gt m.rows 0).es 0, gt (gt m.rows 1).es 0, gt (gt m.rows 0).es 2, gt (gt m.rows 1).es 2]) ([rv (gt (gt m.rows 0).es 0), rv (gt (gt m.rows 1).es 0), rv (gt (gt m.rows 0).es 2), rv (gt (gt m.rows 1).es 2)]) rfl rfl (by intro v hv; repeat (first | exact absurd hv (List.not_mem_nil) | (rcases List.mem_cons.1 hv with rfl | hv; · rfl))) (by omega) rfl rfl rfl ?_; intro bg; refine ⟨okF, ?_⟩)
  repeat (refine aK ?_)
  refine yT (fun _ hw => Mem.freezeB (b := bg) (cs := recs eR [gt (gt m.rows 0).es 0, gt (gt m.rows 1).es 0, gt (gt m.rows 0).es 2, gt (gt m.rows 1).es 2]) hw .here) ?_
  refine iB (φ := iZ ⟨some ⟨bg, 0, none⟩, 4, [gt (gt m.rows 0).es 0, gt (gt m.rows 1).es 0, gt (gt m.rows 0).es 2, gt (gt m.rows 1).es 2]⟩ kX) (Hv.lqq rfl aB (fun e he => by
   simp only [List.mem_cons, List.not_mem_nil, or_false] at he
   rcases he with rfl | rfl | rfl | rfl <;> exact aB)) ?_
  have hS1 := fun M0 I0 h => uS (X := X) (w0 := w0) (M0 := M0) (I0 := I0) (kd := 1) (u := kX) (x := ⟨some ⟨bg, 0, none⟩, 4, [gt (gt m.rows 0).es 0, gt (gt m.rows 1).es 0, gt (gt m.rows 0).es 2, gt (gt m.rows 1).es 2]⟩) hk2 (by show 103842564 ≤ _; omega) (by show 4 ≤ 4; omega) h
  have hqf : nP 1 [(gt (gt m.rows 0).es 0).q, (gt (gt m.rows 1).es 0).q, (gt (gt m.rows 0).es 2).q, (gt (gt m.rows 1).es 2).q] = nP 1 (wU 1 (kH l zs)) := by
   rw [← show at2 m.q 0 0 = (gt (gt m.rows 0).es 0).q from hel 0 0 (by omega) (by omega), ← show at2 m.q 1 0 = (gt (gt m.rows 1).es 0).q from hel 1 0 (by omega) (by omega), ← show at2 m.q 0 2 = (gt (gt m.rows 0).es 2).q from hel 0 2 (by omega) (by omega), ← show at2 m.q 1 2 = (gt (gt m.rows 1).es 2).q from hel 1 2 (by omega) (by omega)]
   simp only [hmq, hA]
   exact (aAY _).2.1
  (repeat refine aG ?_); refine bZ (M0) (aO (some ⟨b4, 0, none⟩) (eTk (1 : Nat) t2 x y ex tu) :: I0) [0, 1, 2, 3, 4, 5, 6, 7, 8, 9, 11, 12, 13, 15, 16, 10, 14, 17, 18, 19, 20, 21] [5, 6, 5, 5, 0, 0, 0, 3, 3, 3, 4, 3, 3, 3, 3, 0, 0, 0, 0, 0, 0, 0] aD aC mixed (by kernel_rfl) ?_
  repeat (refine aK ?_)
  (refine aA rfl (hS1 _ _ aB) rfl rfl ?_; rintro _ _ _ ⟨rfl, m2, rfl, hm2, hmd2, rfl⟩; refine ⟨okF, ?_⟩)
  have hSm := fun M0 I0 h1 h2 => aBM (X := X) (w0 := w0) (M0 := M0) (I0 := I0) (a := m) (b := m2) (k := kX) (m := kX) (by show 103842564 + 103842564 + 1 ≤ _; omega) hmd hmd2 h1 h2
  rw [bJ (show m.q = m2.q by rw [hm2, hmq, hA]; exact hqf.symm)] at hSm
  (refine aA rfl (hSm _ _ aB aB) rfl rfl ?_; rintro _ _ _ ⟨rfl, rfl, rfl⟩; refine ⟨okF, ?_⟩)
  repeat (refine aK ?_)
  (refine aF rfl (fun _ => kL rfl) rfl rfl ?_)
  repeat (refine aK ?_)
  (refine aA rfl (hT1 m hmd (fun s => by rw [hmq, hA]; exact pJ s) kX (by show 103842564 ≤ _; omega) _ _ aB aB aB) rfl rfl ?_; rintro _ _ _ ⟨rfl, ea, rfl, hea, rfl⟩; refine ⟨okF, ?_⟩)
  repeat (refine aK ?_)
  (refine aA rfl (hS2 _ _ aB) rfl rfl ?_; rintro _ _ _ ⟨rfl, m3, rfl, hm3, hmd3, rfl⟩; refine ⟨okF, ?_⟩)
  repeat (refine aK ?_)
  (refine aA rfl (hT1 m3 hmd3 (fun s => by rw [hm3]; exact pJ s) 30 (by omega) _ _ aB aB aB) rfl rfl ?_; rintro _ _ _ ⟨rfl, eb, rfl, heb, rfl⟩; refine ⟨okF, ?_⟩)
  have hmul1 : zs.length * (24 * kX + 449 + 1) ≤ 10 * (24 * 103842564 + 449 + 1) := Nat.mul_le_mul (by omega) (by show 24 * 103842564 + 449 + 1 ≤ _; omega)
  have hmul2 : zs.length * (24 * 30 + 449 + 1) ≤ 10 * (24 * 30 + 449 + 1) := Nat.mul_le_mul (by omega) (by omega)
  (refine aA rfl (oZ (a := ea) (b := eb) (k := zs.length * (24 * kX + 449 + 1)) (m := zs.length * (24 * 30 + 449 + 1)) (Nat.le_trans (Nat.succ_le_succ (Nat.add_le_add hmul1 hmul2)) (by decide)) (Hv.mem aB) (Hv.mem aB)) rfl rfl ?_; rintro _ _ _ ⟨rfl, rfl, rfl⟩; refine ⟨okF, ?_⟩)
  have hle : xU ea.q eb.q ≤ 0 := by
   rw [zP, hea, heb, hmq, hA, hm3]
   exact xI hfd _
  repeat (refine aK ?_)
  refine gZ (M' := M0) (I' := I0) aD aC ?_
  refine aH (by first | exact .inl rfl | exact .inr rfl) rfl rfl _ _ aD aC (⟨rfl, rfl, congrArg Value.bool (bJ hle)⟩)
 ·subst h0
  repeat (refine aK ?_)
  (repeat refine aG ?_); refine bZ (M0) (aO (gt m.rows 1).p (recs eR (gt m.rows 1).es) :: aO (gt m.rows 0).p (recs eR (gt m.rows 0).es) :: aO m.p (recs eL m.rows) :: I0) [0, 1, 2, 3, 4, 5, 6, 7, 8, 9, 10, 11, 12, 13, 14, 15, 16, 17, 18, 19, 20, 21, 22, 23, 24, 25, 26, 27, 28, 29, 30, 31] [1, 1, 1, 1, 0, 1, 1, 1, 1, 0, 1, 1, 1, 1, 0, 1, 1, 1, 1, 0, 1, 1, 1, 1, 0, 1, 1, 1, 1, 0, 0, 0] aD aC mixed (by kernel_rfl) ?_
  repeat (refine aK ?_)
  (refine aQ (cs := recs eR [gt (gt m.rows 0).es 0, gt (gt m.rows 0).es 1, gt (gt m.rows 0).es 2, gt (gt m.rows 1).es 0, gt (gt m.rows 1).es 1, gt (gt m.rows 1).es 2]) ([rv (gt (gt m.rows 0).es 0), rv (gt (gt m.rows 0).es 1), rv (gt (gt m.rows 0).es 2), rv (gt (gt m.rows 1).es 0), rv (gt (gt m.rows 1).es 1), rv (gt (gt m.rows 1).es 2)]) rfl rfl (by intro v hv; repeat (first | exact absurd hv (List.not_mem_nil) | (rcases List.mem_cons.1 hv with rfl | hv; · rfl))) (by omega) rfl rfl rfl ?_; intro bg; refine ⟨okF, ?_⟩)
  repeat (refine aK ?_)
  refine yT (fun _ hw => Mem.freezeB (b := bg) (cs := recs eR [gt (gt m.rows 0).es 0, gt (gt m.rows 0).es 1, gt (gt m.rows 0).es 2, gt (gt m.rows 1).es 0, gt (gt m.rows 1).es 1, gt (gt m.rows 1).es 2]) hw .here) ?_
  refine iB (φ := iZ ⟨some ⟨bg, 0, none⟩, 6, [gt (gt m.rows 0).es 0, gt (gt m.rows 0).es 1, gt (gt m.rows 0).es 2, gt (gt m.rows 1).es 0, gt (gt m.rows 1).es 1, gt (gt m.rows 1).es 2]⟩ kX) (Hv.lqq rfl aB (fun e he => by
   simp only [List.mem_cons, List.not_mem_nil, or_false] at he
   rcases he with rfl | rfl | rfl | rfl | rfl | rfl <;> exact aB)) ?_
  have hS1 := fun M0 I0 h => uS (X := X) (w0 := w0) (M0 := M0) (I0 := I0) (kd := 2) (u := kX) (x := ⟨some ⟨bg, 0, none⟩, 6, [gt (gt m.rows 0).es 0, gt (gt m.rows 0).es 1, gt (gt m.rows 0).es 2, gt (gt m.rows 1).es 0, gt (gt m.rows 1).es 1, gt (gt m.rows 1).es 2]⟩) hk2 (by show 103842564 ≤ _; omega) (by show 6 ≤ 6; omega) h
  have hqf : nP 2 [(gt (gt m.rows 0).es 0).q, (gt (gt m.rows 0).es 1).q, (gt (gt m.rows 0).es 2).q, (gt (gt m.rows 1).es 0).q, (gt (gt m.rows 1).es 1).q, (gt (gt m.rows 1).es 2).q] = nP 2 (wU 2 (kH l zs)) := by
   rw [← show at2 m.q 0 0 = (gt (gt m.rows 0).es 0).q from hel 0 0 (by omega) (by omega), ← show at2 m.q 0 1 = (gt (gt m.rows 0).es 1).q from hel 0 1 (by omega) (by omega), ← show at2 m.q 0 2 = (gt (gt m.rows 0).es 2).q from hel 0 2 (by omega) (by omega), ← show at2 m.q 1 0 = (gt (gt m.rows 1).es 0).q from hel 1 0 (by omega) (by omega), ← show at2 m.q 1 1 = (gt (gt m.rows 1).es 1).q from hel 1 1 (by omega) (by omega), ← show at2 m.q 1 2 = (gt (gt m.rows 1).es 2).q from hel 1 2 (by omega) (by omega)]
   simp only [hmq, hA]
   exact (aAY _).2.2
  (repeat refine aG ?_); refine bZ (M0) (aO (some ⟨b4, 0, none⟩) (eTk (2 : Nat) t2 x y ex tu) :: I0) [0, 1, 2, 3, 4, 5, 6, 7, 8, 9, 11, 12, 13, 15, 16, 10, 14, 17, 18, 19, 20, 21] [5, 6, 5, 5, 0, 0, 0, 3, 3, 3, 4, 3, 3, 3, 3, 0, 0, 0, 0, 0, 0, 0] aD aC mixed (by kernel_rfl) ?_
  repeat (refine aK ?_)
  (refine aA rfl (hS1 _ _ aB) rfl rfl ?_; rintro _ _ _ ⟨rfl, m2, rfl, hm2, hmd2, rfl⟩; refine ⟨okF, ?_⟩)
  have hSm := fun M0 I0 h1 h2 => aBM (X := X) (w0 := w0) (M0 := M0) (I0 := I0) (a := m) (b := m2) (k := kX) (m := kX) (by show 103842564 + 103842564 + 1 ≤ _; omega) hmd hmd2 h1 h2
  rw [bJ (show m.q = m2.q by rw [hm2, hmq, hA]; exact hqf.symm)] at hSm
  (refine aA rfl (hSm _ _ aB aB) rfl rfl ?_; rintro _ _ _ ⟨rfl, rfl, rfl⟩; refine ⟨okF, ?_⟩)
  repeat (refine aK ?_)
  (refine aF rfl (fun _ => kL rfl) rfl rfl ?_)
  repeat (refine aK ?_)
  (refine aA rfl (hT1 m hmd (fun s => by rw [hmq, hA]; exact pJ s) kX (by show 103842564 ≤ _; omega) _ _ aB aB aB) rfl rfl ?_; rintro _ _ _ ⟨rfl, ea, rfl, hea, rfl⟩; refine ⟨okF, ?_⟩)
  repeat (refine aK ?_)
  (refine aA rfl (hS2 _ _ aB) rfl rfl ?_; rintro _ _ _ ⟨rfl, m3, rfl, hm3, hmd3, rfl⟩; refine ⟨okF, ?_⟩)
  repeat (refine aK ?_)
  (refine aA rfl (hT1 m3 hmd3 (fun s => by rw [hm3]; exact pJ s) 30 (by omega) _ _ aB aB aB) rfl rfl ?_; rintro _ _ _ ⟨rfl, eb, rfl, heb, rfl⟩; refine ⟨okF, ?_⟩)
  have hmul1 : zs.length * (24 * kX + 449 + 1) ≤ 10 * (24 * 103842564 + 449 + 1) := Nat.mul_le_mul (by omega) (by show 24 * 103842564 + 449 + 1 ≤ _; omega)
  have hmul2 : zs.length * (24 * 30 + 449 + 1) ≤ 10 * (24 * 30 + 449 + 1) := Nat.mul_le_mul (by omega) (by omega)
  (refine aA rfl (oZ (a := ea) (b := eb) (k := zs.length * (24 * kX + 449 + 1)) (m := zs.length * (24 * 30 + 449 + 1)) (Nat.le_trans (Nat.succ_le_succ (Nat.add_le_add hmul1 hmul2)) (by decide)) (Hv.mem aB) (Hv.mem aB)) rfl rfl ?_; rintro _ _ _ ⟨rfl, rfl, rfl⟩; refine ⟨okF, ?_⟩)
  have hle : xU ea.q eb.q ≤ 0 := by
   rw [zP, hea, heb, hmq, hA, hm3]
   exact xI hfd _
  repeat (refine aK ?_)
  refine gZ (M' := M0) (I' := I0) aD aC ?_
  refine aH (by first | exact .inl rfl | exact .inr rfl) rfl rfl _ _ aD aC (⟨rfl, rfl, congrArg Value.bool (bJ hle)⟩)
end
end Go.Proofs.YtjbhdfpjnjedhaaGreat

/- The law ConsensusMoves, walked. -/
import Derived.Test.YtjbhdfpjnjedhaaGreatZqbl
import Derived.Test.YtjbhdfpjnjedhaaGreatZqbo
import Derived.Test.YtjbhdfpjnjedhaaGreatZqau
set_option linter.unusedSimpArgs false
set_option linter.unusedVariables false
set_option maxRecDepth 100000
set_option maxHeartbeats 4000000
namespace Go.Proofs.YtjbhdfpjnjedhaaGreat
open Go Go.Fx
abbrev eP2 (p : Int × Int) : List Value := [.int .i64 p.1, .int .i64 p.2]
instance eP2.szd : Sized eP2 2 := ⟨fun _ => rfl⟩
def smQ (s : Q4) : Prop := (-10000 ≤ s.x ∧ s.x ≤ 10000) ∧ (-10000 ≤ s.y ∧ s.y ≤ 10000) ∧ (-10000 ≤ s.u ∧ s.u ≤ 10000) ∧ (-10000 ≤ s.v ∧ s.v ≤ 10000)
structure MovG (kd t2 x y : Int) (n : Nat) : Prop where
 n : (n : Int) ≤ 8
 k : kdP kd
 t : 0 ≤ t2 ∧ t2 ≤ 1073741824
 x : -10000 ≤ x ∧ x ≤ 10000
 y : -10000 ≤ y ∧ y ≤ 10000
theorem Hv.nilZ {I : List aT} : Hv I (aR none (recs eZ [])) := ⟨fun X w _ => ⟨fun j v hj => by simp [recs] at hj⟩⟩
theorem aLF {l : List Q4} (h1 : l ≠ []) (h2 : l.length ≤ 64) (h : ∀ s ∈ l, ¬ s.far) : oD l = 0 := by
 unfold oD
 rw [if_neg (fun e => h1 (List.eq_nil_of_length_eq_zero e)), if_neg (by omega), if_neg]
 rintro ⟨s, hs, hf⟩
 exact h s hs hf
section
variable {X : List Nat} {w0 : World} {M0 M1 M2 : List Ent} {I0 : List aT}
theorem LMovs {kd t2 x y : Int} {ex tu : Bool} {q : Option Addr} {l : List Q4} {n c : Nat} (hx : -32768 ≤ x ∧ x ≤ 32767) (hy : -32768 ≤ y ∧ y ≤ 32767) (hl : l.length = n) (hn : (n : Int) ≤ 9223372036854775807) (hq : aR q (recs kP l) ∈ I0) :
  CD Tryz.prog 5 [.slice q n c, .agg (eTk kd t2 x y ex tu).toArray] X w0 M0 I0 (fun v M I => M0 = M ∧ I0 = I ∧ v = .bool true) := by
 have hKn := fun M0 I0 => aJZ (X := X) (w0 := w0) (M0 := M0) (I0 := I0)
 have hIk := fun M0 I0 => aIV (X := X) (w0 := w0) (M0 := M0) (I0 := I0) (x := kd)
 refine bK (φ := aR q (recs kP l)) (Hv.mem hq) ?_
 refine bL Tryz.func5 rfl Tryz.ntmps5 rfl ?_
 refine aH ?_
 refine aI ?_
 (refine aV rfl rfl rfl ?_; intro b3; refine ⟨okF, ?_⟩)
 refine aO .here ?_
 repeat (refine aJ ?_)
 (refine aA rfl (hKn _ _) rfl rfl ?_; rintro _ _ _ ⟨rfl, rfl, rfl⟩; refine ⟨okF, ?_⟩)
 repeat' (first | refine aI ?_ | refine jA ?_ | refine gV ?_ | refine fC ?_ | refine eQ ?_ | refine gT ?_ | refine gK ?_ | refine eY ?_ | refine fA ?_ | refine jF ?_ | refine jB ?_ | refine iZ ?_ | refine jC rfl ?_ | refine aN ?_ | (refine gI ?_; first | refine fM rfl rfl rfl ?_ | (refine fZ rfl rfl ?_; refine eF rfl rfl rfl okF ?_) | refine fK rfl rfl (by omega) ?_ | refine fU rfl rfl (by omega) ?_ | refine pI rfl rfl (fun h => ?_) (fun h => ?_) | (fail_if_success (refine rH rfl ?_); refine nR rfl rfl (fun h => ?_) (fun h => ?_))) | (refine bI ?_; refine aC rfl (fun _ => bY rfl) rfl rfl ?_) | refine aC rfl (fun _ => aY rfl) rfl rfl ?_ | (refine gB ?_; first | refine aC rfl (fun _ => bC rfl rfl wF) rfl rfl ?_ | refine aC rfl (fun _ => bE rfl rfl wF) rfl rfl ?_ | refine aC rfl (fun _ => dH rfl rfl wF) rfl rfl ?_ | refine aC rfl (fun _ => dI rfl rfl (by omega) qF) rfl rfl ?_ | refine aC rfl (fun _ => dJ rfl rfl (by omega) rfl) rfl rfl ?_ | refine aC rfl (fun _ => bW rfl rfl) rfl rfl ?_ | refine aC rfl (fun _ => dC rfl rfl) rfl rfl ?_ | refine aC rfl (fun _ => dA rfl rfl) rfl rfl ?_ | refine aC rfl (fun _ => oG rfl rfl) rfl rfl ?_ | refine aC rfl (fun _ => qA rfl rfl) rfl rfl ?_) | (refine bI ?_; first | refine aC rfl (fun _ => dE rfl wF) rfl rfl ?_) | (refine fV ?_; first | refine aC rfl (fun _ => bT rfl wF) rfl rfl ?_) | (refine fQ ?_; first | refine aC rfl (fun _ => bD rfl) rfl rfl ?_ | refine aC rfl (fun _ => bZ rfl rfl) rfl rfl ?_ | refine aC rfl (fun _ => bX rfl rfl) rfl rfl ?_ | refine aC rfl (fun _ => cB rfl rfl rfl) rfl rfl ?_) | (refine gF ?_; first | refine fJ rfl (by decide) rfl rfl ?_ | refine iO rfl (by decide) rfl rfl ?_) | (refine fO ?_; first | refine aC rfl (fun _ => bP rfl) rfl rfl ?_) | (refine gG ?_; first | refine iM rfl rfl iA rfl rfl ?_ | refine iP dX rfl rfl iA aB iU rfl rfl ?_ | refine iL dX rfl rfl iA aB iU rfl rfl ?_ | refine aC rfl (fun _ => bG rfl rfl iA) rfl rfl ?_) | (refine fT ?_; first | (apply gM; exact dX; exact rfl; (focus ((repeat (first | with_reducible exact List.mem_cons_self | with_reducible assumption | with_reducible refine List.mem_cons_of_mem _ ?_)); done)); exact yR; exact rfl; exact rfl) | (apply dG; exact dX; exact rfl; (focus ((repeat (first | with_reducible exact List.mem_cons_self | with_reducible assumption | with_reducible refine List.mem_cons_of_mem _ ?_)); done)); exact yR; exact rfl; exact rfl) | (apply lY; exact dX; exact rfl; (focus ((repeat (first | with_reducible exact List.mem_cons_self | with_reducible assumption | with_reducible refine List.mem_cons_of_mem _ ?_)); done)); exact yR; exact rfl; exact rfl) | (apply mF; exact dX; exact rfl; (focus ((repeat (first | with_reducible exact List.mem_cons_self | with_reducible assumption | with_reducible refine List.mem_cons_of_mem _ ?_)); done)); exact yR; exact rfl; exact rfl) | (apply fH; exact dX; exact rfl; (focus ((repeat (first | with_reducible exact List.mem_cons_self | with_reducible assumption | with_reducible refine List.mem_cons_of_mem _ ?_)); done)); exact nU; exact rfl; exact rfl) | (apply gH; exact dX; exact rfl; (focus ((repeat (first | with_reducible exact List.mem_cons_self | with_reducible assumption | with_reducible refine List.mem_cons_of_mem _ ?_)); done)); exact nU; exact rfl; exact rfl) | (apply iR; exact dX; exact rfl; (focus ((repeat (first | with_reducible exact List.mem_cons_self | with_reducible assumption | with_reducible refine List.mem_cons_of_mem _ ?_)); done)); exact nU; exact rfl; exact rfl) | (apply iK; exact dX; exact rfl; (focus ((repeat (first | with_reducible exact List.mem_cons_self | with_reducible assumption | with_reducible refine List.mem_cons_of_mem _ ?_)); done)); exact nU; exact rfl; exact rfl)) | (refine fP ?_; first | refine aC rfl (fun _ => bH rfl rfl) rfl rfl ?_ | refine aC rfl (fun _ => bA rfl) rfl rfl ?_) | (refine iC ?_; first | refine jR rfl rfl rfl kH stC rfl rfl ⟨okF, ?_⟩ | refine fD rfl rfl fB qV kH qQ rfl rfl ⟨okF, ?_⟩) | (refine gU ?_; first | refine bM rfl ?_ | refine bB rfl ?_ | refine jE rfl (by omega) ?_ | refine lH rfl (by omega) ?_ | refine rF rfl (fun h => ?_) (fun h => ?_) | refine nQ rfl (fun h => ?_) (fun h => ?_)))
 refine aH ?_
 repeat' (first | refine aI ?_ | refine jA ?_ | refine gV ?_ | refine fC ?_ | refine eQ ?_ | refine gT ?_ | refine gK ?_ | refine eY ?_ | refine fA ?_ | refine jF ?_ | refine jB ?_ | refine iZ ?_ | refine jC rfl ?_ | refine aN ?_ | (refine gI ?_; first | refine fM rfl rfl rfl ?_ | (refine fZ rfl rfl ?_; refine eF rfl rfl rfl okF ?_) | refine fK rfl rfl (by omega) ?_ | refine fU rfl rfl (by omega) ?_ | refine pI rfl rfl (fun h => ?_) (fun h => ?_) | (fail_if_success (refine rH rfl ?_); refine nR rfl rfl (fun h => ?_) (fun h => ?_))) | (refine bI ?_; refine aC rfl (fun _ => bY rfl) rfl rfl ?_) | refine aC rfl (fun _ => aY rfl) rfl rfl ?_ | (refine gB ?_; first | refine aC rfl (fun _ => bC rfl rfl wF) rfl rfl ?_ | refine aC rfl (fun _ => bE rfl rfl wF) rfl rfl ?_ | refine aC rfl (fun _ => dH rfl rfl wF) rfl rfl ?_ | refine aC rfl (fun _ => dI rfl rfl (by omega) qF) rfl rfl ?_ | refine aC rfl (fun _ => dJ rfl rfl (by omega) rfl) rfl rfl ?_ | refine aC rfl (fun _ => bW rfl rfl) rfl rfl ?_ | refine aC rfl (fun _ => dC rfl rfl) rfl rfl ?_ | refine aC rfl (fun _ => dA rfl rfl) rfl rfl ?_ | refine aC rfl (fun _ => oG rfl rfl) rfl rfl ?_ | refine aC rfl (fun _ => qA rfl rfl) rfl rfl ?_) | (refine bI ?_; first | refine aC rfl (fun _ => dE rfl wF) rfl rfl ?_) | (refine fV ?_; first | refine aC rfl (fun _ => bT rfl wF) rfl rfl ?_) | (refine fQ ?_; first | refine aC rfl (fun _ => bD rfl) rfl rfl ?_ | refine aC rfl (fun _ => bZ rfl rfl) rfl rfl ?_ | refine aC rfl (fun _ => bX rfl rfl) rfl rfl ?_ | refine aC rfl (fun _ => cB rfl rfl rfl) rfl rfl ?_) | (refine gF ?_; first | refine fJ rfl (by decide) rfl rfl ?_ | refine iO rfl (by decide) rfl rfl ?_) | (refine fO ?_; first | refine aC rfl (fun _ => bP rfl) rfl rfl ?_) | (refine gG ?_; first | refine iM rfl rfl iA rfl rfl ?_ | refine iP dX rfl rfl iA aB iU rfl rfl ?_ | refine iL dX rfl rfl iA aB iU rfl rfl ?_ | refine aC rfl (fun _ => bG rfl rfl iA) rfl rfl ?_) | (refine fT ?_; first | (apply gM; exact dX; exact rfl; (focus ((repeat (first | with_reducible exact List.mem_cons_self | with_reducible assumption | with_reducible refine List.mem_cons_of_mem _ ?_)); done)); exact yR; exact rfl; exact rfl) | (apply dG; exact dX; exact rfl; (focus ((repeat (first | with_reducible exact List.mem_cons_self | with_reducible assumption | with_reducible refine List.mem_cons_of_mem _ ?_)); done)); exact yR; exact rfl; exact rfl) | (apply lY; exact dX; exact rfl; (focus ((repeat (first | with_reducible exact List.mem_cons_self | with_reducible assumption | with_reducible refine List.mem_cons_of_mem _ ?_)); done)); exact yR; exact rfl; exact rfl) | (apply mF; exact dX; exact rfl; (focus ((repeat (first | with_reducible exact List.mem_cons_self | with_reducible assumption | with_reducible refine List.mem_cons_of_mem _ ?_)); done)); exact yR; exact rfl; exact rfl) | (apply fH; exact dX; exact rfl; (focus ((repeat (first | with_reducible exact List.mem_cons_self | with_reducible assumption | with_reducible refine List.mem_cons_of_mem _ ?_)); done)); exact nU; exact rfl; exact rfl) | (apply gH; exact dX; exact rfl; (focus ((repeat (first | with_reducible exact List.mem_cons_self | with_reducible assumption | with_reducible refine List.mem_cons_of_mem _ ?_)); done)); exact nU; exact rfl; exact rfl) | (apply iR; exact dX; exact rfl; (focus ((repeat (first | with_reducible exact List.mem_cons_self | with_reducible assumption | with_reducible refine List.mem_cons_of_mem _ ?_)); done)); exact nU; exact rfl; exact rfl) | (apply iK; exact dX; exact rfl; (focus ((repeat (first | with_reducible exact List.mem_cons_self | with_reducible assumption | with_reducible refine List.mem_cons_of_mem _ ?_)); done)); exact nU; exact rfl; exact rfl)) | (refine fP ?_; first | refine aC rfl (fun _ => bH rfl rfl) rfl rfl ?_ | refine aC rfl (fun _ => bA rfl) rfl rfl ?_) | (refine iC ?_; first | refine jR rfl rfl rfl kH stC rfl rfl ⟨okF, ?_⟩ | refine fD rfl rfl fB qV kH qQ rfl rfl ⟨okF, ?_⟩) | (refine gU ?_; first | refine bM rfl ?_ | refine bB rfl ?_ | refine jE rfl (by omega) ?_ | refine lH rfl (by omega) ?_ | refine rF rfl (fun h => ?_) (fun h => ?_) | refine nQ rfl (fun h => ?_) (fun h => ?_)))
 refine aH ?_
 refine pW (fun G M I => ∃ b : Bool, (b = false → MovG kd t2 x y n) ∧ G = [(0, .slice q n c), (3, .pointer (some ⟨b3, 0, none⟩)), (4, .bool false), (64, .bool b)] ∧ M0 = M ∧ I = aR (some ⟨b3, 0, none⟩) (eTk kd t2 x y ex tu) :: aR q (recs kP l) :: I0) ?_ ?_
 ·repeat (refine aJ ?_)
  (refine aA rfl (aVL) rfl rfl ?_; rintro _ _ _ ⟨rfl, rfl, rfl⟩; refine ⟨okF, ?_⟩)
  by_cases h8 : (n : Int) ≤ 8
  case neg =>
   repeat (refine aJ ?_)
   refine dS _ _ _ aL aG aD ⟨true, fun h => absurd h (by first | decide | (rw [bV (by omega)]; decide)), rfl, rfl, rfl⟩
  by_cases hk3 : kd = 3
  ·subst hk3
   rw [bV (show kdP 3 from ⟨by omega, by omega⟩)] at hIk
   by_cases h6 : 6 < (n : Int)
   ·repeat (refine aJ ?_)
    refine dS _ _ _ aL aG aD ⟨true, fun h => absurd h (by first | decide | (rw [bV (by omega)]; decide)), rfl, rfl, rfl⟩
   repeat (refine aJ ?_)
   (refine aA rfl (hIk _ _) rfl rfl ?_; rintro _ _ _ ⟨rfl, rfl, rfl⟩; refine ⟨okF, ?_⟩)
   by_cases g0 : t2 < 0
   ·repeat (refine aJ ?_)
    refine dS _ _ _ aL aG aD ⟨true, fun h => absurd h (by first | decide | (rw [bV (by omega)]; decide)), rfl, rfl, rfl⟩
   by_cases g1 : 1073741824 < t2
   ·repeat (refine aJ ?_)
    refine dS _ _ _ aL aG aD ⟨true, fun h => absurd h (by first | decide | (rw [bV (by omega)]; decide)), rfl, rfl, rfl⟩
   by_cases g2 : x < -10000
   ·repeat (refine aJ ?_)
    refine dS _ _ _ aL aG aD ⟨true, fun h => absurd h (by first | decide | (rw [bV (by omega)]; decide)), rfl, rfl, rfl⟩
   by_cases g3 : 10000 < x
   ·repeat (refine aJ ?_)
    refine dS _ _ _ aL aG aD ⟨true, fun h => absurd h (by first | decide | (rw [bV (by omega)]; decide)), rfl, rfl, rfl⟩
   by_cases g4 : y < -10000
   ·repeat (refine aJ ?_)
    refine dS _ _ _ aL aG aD ⟨true, fun h => absurd h (by first | decide | (rw [bV (by omega)]; decide)), rfl, rfl, rfl⟩
   by_cases g5 : 10000 < y
   ·repeat (refine aJ ?_)
    refine dS _ _ _ aL aG aD ⟨B (10000 < y), fun h => absurd h (by first | decide | (rw [bV (by omega)]; decide)), rfl, rfl, rfl⟩
   repeat (refine aJ ?_)
   refine dS _ _ _ aL aG aD ⟨B (10000 < y), fun _ => ⟨h8, ⟨by omega, by omega⟩, by omega, by omega, by omega⟩, rfl, rfl, rfl⟩
  ·by_cases hkd : kdP kd
   case neg =>
    rw [dP hkd] at hIk
    repeat (refine aJ ?_)
    (refine aA rfl (hIk _ _) rfl rfl ?_; rintro _ _ _ ⟨rfl, rfl, rfl⟩; refine ⟨okF, ?_⟩)
    repeat (refine aJ ?_)
    refine dS _ _ _ aL aG aD ⟨true, fun h => absurd h (by first | decide | (rw [bV (by omega)]; decide)), rfl, rfl, rfl⟩
   rw [bV hkd] at hIk
   repeat (refine aJ ?_)
   (refine aA rfl (hIk _ _) rfl rfl ?_; rintro _ _ _ ⟨rfl, rfl, rfl⟩; refine ⟨okF, ?_⟩)
   by_cases g0 : t2 < 0
   ·repeat (refine aJ ?_)
    refine dS _ _ _ aL aG aD ⟨true, fun h => absurd h (by first | decide | (rw [bV (by omega)]; decide)), rfl, rfl, rfl⟩
   by_cases g1 : 1073741824 < t2
   ·repeat (refine aJ ?_)
    refine dS _ _ _ aL aG aD ⟨true, fun h => absurd h (by first | decide | (rw [bV (by omega)]; decide)), rfl, rfl, rfl⟩
   by_cases g2 : x < -10000
   ·repeat (refine aJ ?_)
    refine dS _ _ _ aL aG aD ⟨true, fun h => absurd h (by first | decide | (rw [bV (by omega)]; decide)), rfl, rfl, rfl⟩
   by_cases g3 : 10000 < x
   ·repeat (refine aJ ?_)
    refine dS _ _ _ aL aG aD ⟨true, fun h => absurd h (by first | decide | (rw [bV (by omega)]; decide)), rfl, rfl, rfl⟩
   by_cases g4 : y < -10000
   ·repeat (refine aJ ?_)
    refine dS _ _ _ aL aG aD ⟨true, fun h => absurd h (by first | decide | (rw [bV (by omega)]; decide)), rfl, rfl, rfl⟩
   by_cases g5 : 10000 < y
   ·repeat (refine aJ ?_)
    refine dS _ _ _ aL aG aD ⟨B (10000 < y), fun h => absurd h (by first | decide | (rw [bV (by omega)]; decide)), rfl, rfl, rfl⟩
   repeat (refine aJ ?_)
   refine dS _ _ _ aL aG aD ⟨B (10000 < y), fun _ => ⟨h8, hkd, by omega, by omega, by omega⟩, rfl, rfl, rfl⟩
 rintro G M I ⟨b, hgood, rfl, rfl, rfl⟩
 cases b
 case true =>
  repeat (refine aJ ?_)
  refine kD (M' := M0) (I' := I0) aG aD ?_
  refine aM (by first | exact .inl rfl | exact .inr rfl) rfl rfl _ _ aG aD (⟨rfl, rfl, rfl⟩)
 obtain ⟨h8, hkd, ht2, hx2, hy2⟩ := hgood rfl
 repeat (refine aJ ?_)
 refine lX 65 4 ?_
 refine aZ [0, 3, 65, 66] rfl (fun k G M I => ∃ (i : Nat) (ms : List Q4) (qe : Option Addr) (ce : Nat), i ≤ n ∧ k = n - i ∧ ms = (l.take i).map (pR x y ex tu) ∧ (∀ s ∈ l.take i, smQ s) ∧ G = [(5, .slice qe ms.length ce), (67, .int .i64 i)] ∧ M = .row qe ms.length ce (recs kP ms) 65 4 :: M0 ∧ I = aR (some ⟨b3, 0, none⟩) (eTk kd t2 x y ex tu) :: aR q (recs kP l) :: I0) (n) _ _ _ aL aG aD (⟨0, [], none, 0, by omega, rfl, rfl, fun s hs => absurd hs (by simp), rfl, rfl, rfl⟩) ?_
 rintro kk G M I ⟨i, ms, qe, ce, hi, rfl, hms, hsm, rfl, rfl, rfl⟩
 have hml : ms.length = i := by rw [hms, List.length_map, List.length_take]; omega
 by_cases hin : i < n
 ·obtain ⟨s, hss⟩ : ∃ s, gt l (i : Int) = s := ⟨_, rfl⟩
  have htk : l.take (i + 1) = l.take i ++ [s] := by rw [← hss, gtQ (by omega)]; exact (List.take_append_getElem (by omega)).symm
  obtain ⟨zs, hzs⟩ : ∃ zs, [s.x, s.y, s.u, s.v] = zs := ⟨_, rfl⟩
  have hzl : zs.length = 4 := by rw [← hzs]; rfl
  repeat (refine aJ ?_)
  rw [hss]
  (refine aF rfl rfl ?_; intro b7; refine ⟨okF, ?_⟩)
  repeat (refine aJ ?_)
  (refine dB (cs := recs eZ [s.x, s.y, s.u, s.v]) ([.int .i64 s.x, .int .i64 s.y, .int .i64 s.u, .int .i64 s.v]) rfl rfl (by intro v hv; repeat (first | exact absurd hv (List.not_mem_nil) | (rcases List.mem_cons.1 hv with rfl | hv; · rfl))) (by omega) rfl rfl rfl ?_; intro b8; refine ⟨okF, ?_⟩)
  rw [hzs]
  repeat (refine aJ ?_)
  refine aZ [0, 3, 5, 7, 65, 66, 67, 83, 84] rfl (fun k G M I => ∃ j : Nat, j ≤ 4 ∧ k = 4 - j ∧ (∀ t : Nat, t < j → -10000 ≤ gt zs (t : Int) ∧ gt zs (t : Int) ≤ 10000) ∧ G = [(85, .int .i64 j)] ∧ M = .blk b8 (recs eZ zs) 3 :: .blk b7 (kP s) 65 :: .row qe ms.length ce (recs kP ms) 65 4 :: M0 ∧ I = aR (some ⟨b3, 0, none⟩) (eTk kd t2 x y ex tu) :: aR q (recs kP l) :: I0) (4) _ _ _ aL aG aD (⟨0, by omega, rfl, fun t ht => absurd ht (by omega), rfl, rfl, rfl⟩) ?_
  rintro kk G M I ⟨j, hj, rfl, hzb, rfl, rfl, rfl⟩
  by_cases hj4 : j < 4
  ·obtain ⟨z, hz⟩ : ∃ z, gt zs (j : Int) = z := ⟨_, rfl⟩
   repeat (refine aJ ?_)
   rw [hz]
   by_cases z1 : z < -10000
   ·repeat (refine aJ ?_)
    refine kD (M' := M0) (I' := I0) aG aD ?_
    refine aM (by first | exact .inl rfl | exact .inr rfl) rfl rfl _ _ aG aD (⟨rfl, rfl, rfl⟩)
   by_cases z2 : 10000 < z
   ·repeat (refine aJ ?_)
    refine kD (M' := M0) (I' := I0) aG aD ?_
    refine aM (by first | exact .inl rfl | exact .inr rfl) rfl rfl _ _ aG aD (⟨rfl, rfl, rfl⟩)
   repeat (refine aJ ?_)
   refine aK (4 - (j + 1)) _ _ _ (by first | omega | (simp only [List.length_append, List.length_cons, List.length_nil]; omega)) aL aG aD (⟨j + 1, by omega, rfl, fun t ht => by
    by_cases e : t = j
    ·subst e; rw [hz]; omega
    ·exact hzb t (by omega), rfl, rfl, rfl⟩)
  ·obtain rfl : j = 4 := by omega
   rw [← hzs] at hzb
   have hs4 : smQ s := ⟨hzb 0 (by omega), hzb 1 (by omega), hzb 2 (by omega), hzb 3 (by omega)⟩
   have hsm2 : ∀ s ∈ l.take (i + 1), smQ s := fun t ht => by
    rw [htk] at ht
    rcases List.mem_append.1 ht with h | h
    ·exact hsm t h
    ·rw [List.mem_singleton.1 h]; exact hs4
   obtain ⟨⟨x1, x2⟩, ⟨y1, y2⟩, ⟨u1, u2⟩, ⟨v1, v2⟩⟩ := hs4
   repeat (refine aJ ?_)
   (refine aC rfl (fun _ => aU (pvs := ([.int .i64 (s.u + x), .int .i64 (s.v + y)]).zipIdx.map (fun p => (p.2, p.1))) (cells := [.int .i64 (s.u + x), .int .i64 (s.v + y)]) rfl rfl) rfl rfl ?_)
   repeat (refine yXh ?_)
   refine fD (vs := [.int .i64 (s.u + x), .int .i64 (s.v + y)]) rfl rfl rfl (fun u hu => by simp only [List.mem_cons, List.not_mem_nil, or_false] at hu; rcases hu with rfl | rfl <;> rfl) kH (show StAts (kP s) 2 [.int .i64 (s.u + x), .int .i64 (s.v + y)] [.int .i64 s.x, .int .i64 s.y, .int .i64 (s.u + x), .int .i64 (s.v + y)] from StAts.o0 (enc := eP2) (sz := 2) (ms := [(s.x, s.y), (s.u, s.v)]) (i := 1) (s.u + x, s.v + y) ⟨by decide, by simp⟩ rfl) rfl rfl ⟨okF, ?_⟩
   cases ex
   ·cases tu
    ·
     repeat (refine aJ ?_)
     (refine dB (cs := recs kP [pR x y false false s]) ([vQ4 (pR x y false false s)]) rfl rfl (by intro v hv; repeat (first | exact absurd hv (List.not_mem_nil) | (rcases List.mem_cons.1 hv with rfl | hv; · rfl))) (by omega) rfl rfl rfl ?_; intro b9; refine ⟨okF, ?_⟩)
     (refine gD (ys := [pR x y false false s]) 3 rfl rfl rfl ?_ (by decide) rfl (by omega) (by omega) rfl rfl ?_; (· first | exact Src.blk aB | exact Src.row aB | exact Src.imm aB (by first | assumption | exact .inl (Ok.mk _ _))); intro q2 c2; refine ⟨okF, ?_⟩)
     repeat (refine aJ ?_)
     refine aK (n - (i + 1)) _ _ _ (by first | omega | (simp only [List.length_append, List.length_cons, List.length_nil]; omega)) aL aG aD (⟨i + 1, ms ++ [pR x y false false s], q2, c2, by omega, rfl, by rw [htk, List.map_append, ← hms]; rfl, hsm2, rfl, rfl, rfl⟩)
    ·
     repeat (refine aJ ?_)
     rw [Int.zero_sub]
     (refine aC rfl (fun _ => aU (pvs := ([.int .i64 (-s.y), .int .i64 s.x]).zipIdx.map (fun p => (p.2, p.1))) (cells := [.int .i64 (-s.y), .int .i64 s.x]) rfl rfl) rfl rfl ?_)
     repeat (refine aJ ?_)
     rw [Int.zero_sub]
     (refine aC rfl (fun _ => aU (pvs := ([.int .i64 (-(s.v + y)), .int .i64 (s.u + x)]).zipIdx.map (fun p => (p.2, p.1))) (cells := [.int .i64 (-(s.v + y)), .int .i64 (s.u + x)]) rfl rfl) rfl rfl ?_)
     (refine aC rfl (fun _ => jW (vals := [.agg #[.int .i64 (-s.y), .int .i64 s.x], .agg #[.int .i64 (-(s.v + y)), .int .i64 (s.u + x)]]) (cells := [.int .i64 (-s.y), .int .i64 s.x, .int .i64 (-(s.v + y)), .int .i64 (s.u + x)]) rfl ?hpl rfl ?hz) rfl rfl ?_; (case hpl => repeat (first | exact True.intro | refine ⟨rfl, ?_⟩)); (case hz => rfl))
     repeat (refine aJ ?_)
     (refine dB (cs := recs kP [pR x y false true s]) ([vQ4 (pR x y false true s)]) rfl rfl (by intro v hv; repeat (first | exact absurd hv (List.not_mem_nil) | (rcases List.mem_cons.1 hv with rfl | hv; · rfl))) (by omega) rfl rfl rfl ?_; intro b9; refine ⟨okF, ?_⟩)
     (refine gD (ys := [pR x y false true s]) 3 rfl rfl rfl ?_ (by decide) rfl (by omega) (by omega) rfl rfl ?_; (· first | exact Src.blk aB | exact Src.row aB | exact Src.imm aB (by first | assumption | exact .inl (Ok.mk _ _))); intro q2 c2; refine ⟨okF, ?_⟩)
     repeat (refine aJ ?_)
     refine aK (n - (i + 1)) _ _ _ (by first | omega | (simp only [List.length_append, List.length_cons, List.length_nil]; omega)) aL aG aD (⟨i + 1, ms ++ [pR x y false true s], q2, c2, by omega, rfl, by rw [htk, List.map_append, ← hms]; rfl, hsm2, rfl, rfl, rfl⟩)
   ·cases tu
    ·
     repeat (refine aJ ?_)
     (refine aC rfl (fun _ => aU (pvs := ([.int .i64 s.y, .int .i64 s.x]).zipIdx.map (fun p => (p.2, p.1))) (cells := [.int .i64 s.y, .int .i64 s.x]) rfl rfl) rfl rfl ?_)
     repeat (refine aJ ?_)
     (refine aC rfl (fun _ => aU (pvs := ([.int .i64 (s.v + y), .int .i64 (s.u + x)]).zipIdx.map (fun p => (p.2, p.1))) (cells := [.int .i64 (s.v + y), .int .i64 (s.u + x)]) rfl rfl) rfl rfl ?_)
     (refine aC rfl (fun _ => jW (vals := [.agg #[.int .i64 s.y, .int .i64 s.x], .agg #[.int .i64 (s.v + y), .int .i64 (s.u + x)]]) (cells := [.int .i64 s.y, .int .i64 s.x, .int .i64 (s.v + y), .int .i64 (s.u + x)]) rfl ?hpl rfl ?hz) rfl rfl ?_; (case hpl => repeat (first | exact True.intro | refine ⟨rfl, ?_⟩)); (case hz => rfl))
     repeat (refine aJ ?_)
     (refine dB (cs := recs kP [pR x y true false s]) ([vQ4 (pR x y true false s)]) rfl rfl (by intro v hv; repeat (first | exact absurd hv (List.not_mem_nil) | (rcases List.mem_cons.1 hv with rfl | hv; · rfl))) (by omega) rfl rfl rfl ?_; intro b9; refine ⟨okF, ?_⟩)
     (refine gD (ys := [pR x y true false s]) 3 rfl rfl rfl ?_ (by decide) rfl (by omega) (by omega) rfl rfl ?_; (· first | exact Src.blk aB | exact Src.row aB | exact Src.imm aB (by first | assumption | exact .inl (Ok.mk _ _))); intro q2 c2; refine ⟨okF, ?_⟩)
     repeat (refine aJ ?_)
     refine aK (n - (i + 1)) _ _ _ (by first | omega | (simp only [List.length_append, List.length_cons, List.length_nil]; omega)) aL aG aD (⟨i + 1, ms ++ [pR x y true false s], q2, c2, by omega, rfl, by rw [htk, List.map_append, ← hms]; rfl, hsm2, rfl, rfl, rfl⟩)
    ·
     repeat (refine aJ ?_)
     (refine aC rfl (fun _ => aU (pvs := ([.int .i64 s.y, .int .i64 s.x]).zipIdx.map (fun p => (p.2, p.1))) (cells := [.int .i64 s.y, .int .i64 s.x]) rfl rfl) rfl rfl ?_)
     repeat (refine aJ ?_)
     (refine aC rfl (fun _ => aU (pvs := ([.int .i64 (s.v + y), .int .i64 (s.u + x)]).zipIdx.map (fun p => (p.2, p.1))) (cells := [.int .i64 (s.v + y), .int .i64 (s.u + x)]) rfl rfl) rfl rfl ?_)
     (refine aC rfl (fun _ => jW (vals := [.agg #[.int .i64 s.y, .int .i64 s.x], .agg #[.int .i64 (s.v + y), .int .i64 (s.u + x)]]) (cells := [.int .i64 s.y, .int .i64 s.x, .int .i64 (s.v + y), .int .i64 (s.u + x)]) rfl ?hpl rfl ?hz) rfl rfl ?_; (case hpl => repeat (first | exact True.intro | refine ⟨rfl, ?_⟩)); (case hz => rfl))
     repeat (refine aJ ?_)
     rw [Int.zero_sub]
     (refine aC rfl (fun _ => aU (pvs := ([.int .i64 (-s.x), .int .i64 s.y]).zipIdx.map (fun p => (p.2, p.1))) (cells := [.int .i64 (-s.x), .int .i64 s.y]) rfl rfl) rfl rfl ?_)
     repeat (refine aJ ?_)
     rw [Int.zero_sub]
     (refine aC rfl (fun _ => aU (pvs := ([.int .i64 (-(s.u + x)), .int .i64 (s.v + y)]).zipIdx.map (fun p => (p.2, p.1))) (cells := [.int .i64 (-(s.u + x)), .int .i64 (s.v + y)]) rfl rfl) rfl rfl ?_)
     (refine aC rfl (fun _ => jW (vals := [.agg #[.int .i64 (-s.x), .int .i64 s.y], .agg #[.int .i64 (-(s.u + x)), .int .i64 (s.v + y)]]) (cells := [.int .i64 (-s.x), .int .i64 s.y, .int .i64 (-(s.u + x)), .int .i64 (s.v + y)]) rfl ?hpl rfl ?hz) rfl rfl ?_; (case hpl => repeat (first | exact True.intro | refine ⟨rfl, ?_⟩)); (case hz => rfl))
     repeat (refine aJ ?_)
     (refine dB (cs := recs kP [pR x y true true s]) ([vQ4 (pR x y true true s)]) rfl rfl (by intro v hv; repeat (first | exact absurd hv (List.not_mem_nil) | (rcases List.mem_cons.1 hv with rfl | hv; · rfl))) (by omega) rfl rfl rfl ?_; intro b9; refine ⟨okF, ?_⟩)
     (refine gD (ys := [pR x y true true s]) 3 rfl rfl rfl ?_ (by decide) rfl (by omega) (by omega) rfl rfl ?_; (· first | exact Src.blk aB | exact Src.row aB | exact Src.imm aB (by first | assumption | exact .inl (Ok.mk _ _))); intro q2 c2; refine ⟨okF, ?_⟩)
     repeat (refine aJ ?_)
     refine aK (n - (i + 1)) _ _ _ (by first | omega | (simp only [List.length_append, List.length_cons, List.length_nil]; omega)) aL aG aD (⟨i + 1, ms ++ [pR x y true true s], q2, c2, by omega, rfl, by rw [htk, List.map_append, ← hms]; rfl, hsm2, rfl, rfl, rfl⟩)
 obtain rfl : i = n := by omega
 rw [← hl, List.take_length] at hms hsm
 rw [hml]
 repeat (refine aJ ?_)
 refine jY .here ?_
 obtain ⟨kn, rfl⟩ : ∃ kn : Nat, kd = (kn : Int) := ⟨kd.toNat, by have := hkd.1; omega⟩
 have hk3 := hkd.2
 have hml2 : ms.length = i := hml
 by_cases hn0 : l = []
 ·have hm0 : ms = [] := by rw [hms, hn0]; rfl
  have hb1 : yL (kn : Int) l t2 = 1 := by unfold yL sD; rw [hn0]; rfl
  have hb2 : yL (kn : Int) ms t2 = 1 := by unfold yL sD; rw [hm0]; rfl
  have hB1 := fun M0 I0 h => aHE (X := X) (w0 := w0) (M0 := M0) (I0 := I0) (x := (kn : Int)) (tol := t2) (q := q) (l := l) (n := i) (c := c) hl hn (by rw [hb1]; decide) h
  have hB2 := fun M0 I0 h => aHE (X := X) (w0 := w0) (M0 := M0) (I0 := I0) (x := (kn : Int)) (tol := t2) (q := qe) (l := ms) (n := i) (c := ce) hml hn (by rw [hb2]; decide) h
  rw [hb1] at hB1
  rw [hb2] at hB2
  (refine aA rfl (hB1 _ _ aB) rfl rfl ?_; rintro _ _ _ ⟨rfl, rfl, rfl⟩; refine ⟨okF, ?_⟩)
  repeat (refine aJ ?_)
  (refine aF rfl rfl ?_; intro b10; refine ⟨okF, ?_⟩)
  repeat (refine aJ ?_)
  (refine aA rfl (hB2 _ _ aB) rfl rfl ?_; rintro _ _ _ ⟨rfl, rfl, rfl⟩; refine ⟨okF, ?_⟩)
  repeat (refine aJ ?_)
  (refine aF rfl rfl ?_; intro b12; refine ⟨okF, ?_⟩)
  repeat (refine aJ ?_)
  refine iX (φ := aR none (recs eZ [])) Hv.nilZ ?_
  (refine aA rfl (uD (a := []) (b := []) (by decide) aB aB) rfl rfl ?_; rintro _ _ _ ⟨rfl, rfl, rfl⟩; refine ⟨okF, ?_⟩)
  rw [bV (show ([] : List Int) = [] from rfl)]
  repeat (refine aJ ?_)
  (refine aA rfl (uD (a := []) (b := []) (by decide) aB aB) rfl rfl ?_; rintro _ _ _ ⟨rfl, rfl, rfl⟩; refine ⟨okF, ?_⟩)
  rw [bV (show ([] : List Int) = [] from rfl)]
  repeat (refine aJ ?_)
  refine kD (M' := M0) (I' := I0) aG aD ?_
  refine aM (by first | exact .inl rfl | exact .inr rfl) rfl rfl _ _ aG aD (⟨rfl, rfl, rfl⟩)
 have hc1 : oD l = 0 := aLF hn0 (by omega) (fun s hs => by
  obtain ⟨⟨x1, x2⟩, ⟨y1, y2⟩, ⟨u1, u2⟩, ⟨v1, v2⟩⟩ := hsm s hs
  unfold Q4.far farC
  omega)
 have hc2 : oD ms = 0 := aLF (fun e => hn0 (by
  have h0 := hml
  rw [e] at h0
  exact List.eq_nil_of_length_eq_zero (hl.trans h0.symm))) (by omega) (fun s hs => by
  rw [hms] at hs
  obtain ⟨t, ht, rfl⟩ := List.mem_map.1 hs
  obtain ⟨h1, h2, h3, h4⟩ := hsm t ht
  exact aNC hx2 hy2 h1 h2 h3 h4)
 have hB1 := fun M0 I0 h => aIA (X := X) (w0 := w0) (M0 := M0) (I0 := I0) (kd := kn) (tol := t2) (q := q) (l := l) (n := i) (c := c) (by omega) hl (by omega) hc1 ht2 h
 have hB2 := fun M0 I0 h => aIA (X := X) (w0 := w0) (M0 := M0) (I0 := I0) (kd := kn) (tol := t2) (q := qe) (l := ms) (n := i) (c := ce) (by omega) hml (by omega) hc2 ht2 h
 have hSB := aJN (kd := kn) (n := i) (l := l) (f := pR x y ex tu) (tol := t2) hl (fun ps hps => aNV (by omega) ps hps)
 rw [← hms] at hSB
 unfold aSR at hB1 hB2
 rcases hSB with ⟨e1, e2⟩ | ⟨g, g', e1, e2, hg1, hg2⟩
 ·rw [e1] at hB1
  rw [e2] at hB2
  simp only at hB1 hB2
  (refine aA rfl (hB1 _ _ aB) rfl rfl ?_; rintro _ _ _ ⟨rfl, rfl, rfl⟩; refine ⟨okF, ?_⟩)
  repeat (refine aJ ?_)
  (refine aF rfl rfl ?_; intro b10; refine ⟨okF, ?_⟩)
  repeat (refine aJ ?_)
  (refine aA rfl (hB2 _ _ aB) rfl rfl ?_; rintro _ _ _ ⟨rfl, rfl, rfl⟩; refine ⟨okF, ?_⟩)
  repeat (refine aJ ?_)
  (refine aF rfl rfl ?_; intro b12; refine ⟨okF, ?_⟩)
  repeat (refine aJ ?_)
  refine iX (φ := aR none (recs eZ [])) Hv.nilZ ?_
  (refine aA rfl (uD (a := []) (b := []) (by decide) aB aB) rfl rfl ?_; rintro _ _ _ ⟨rfl, rfl, rfl⟩; refine ⟨okF, ?_⟩)
  rw [bV (show ([] : List Int) = [] from rfl)]
  repeat (refine aJ ?_)
  (refine aA rfl (uD (a := []) (b := []) (by decide) aB aB) rfl rfl ?_; rintro _ _ _ ⟨rfl, rfl, rfl⟩; refine ⟨okF, ?_⟩)
  rw [bV (show ([] : List Int) = [] from rfl)]
  repeat (refine aJ ?_)
  refine kD (M' := M0) (I' := I0) aG aD ?_
  refine aM (by first | exact .inl rfl | exact .inr rfl) rfl rfl _ _ aG aD (⟨rfl, rfl, rfl⟩)
 ·rw [e1] at hB1
  rw [e2] at hB2
  simp only at hB1 hB2
  (refine aA rfl (hB1 _ _ aB) rfl rfl ?_; rintro _ _ _ ⟨rfl, f, rfl, hfk, hfs, hfi, hfq, hfd, rfl⟩; refine ⟨okF, ?_⟩)
  repeat (refine aJ ?_)
  (refine aF rfl rfl ?_; intro b10; refine ⟨okF, ?_⟩)
  repeat (refine aJ ?_)
  (refine aA rfl (hB2 _ _ aB) rfl rfl ?_; rintro _ _ _ ⟨rfl, f2, rfl, hfk2, hfs2, hfi2, hfq2, hfd2, rfl⟩; refine ⟨okF, ?_⟩)
  repeat (refine aJ ?_)
  (refine aF rfl rfl ?_; intro b12; refine ⟨okF, ?_⟩)
  repeat (refine aJ ?_)
  refine iX (φ := aR f.ps (recs eZ f.smp)) (Hv.bfS aB) ?_
  refine iX (φ := aR f.pi (recs eZ f.inl)) (Hv.bfI aB) ?_
  refine iX (φ := aR f2.ps (recs eZ f2.smp)) (Hv.bfS (f := f2) aB) ?_
  refine iX (φ := aR f2.pi (recs eZ f2.inl)) (Hv.bfI (f := f2) aB) ?_
  have es : f.smp = f2.smp := by rw [hfs, hfs2, hg1]
  have ei : f.inl = f2.inl := by rw [hfi, hfi2, hg2]
  (refine aA rfl (uD (a := f.smp) (b := f2.smp) (by rw [hfs, (aEU (yA e1).1).len]; omega) aB aB) rfl rfl ?_; rintro _ _ _ ⟨rfl, rfl, rfl⟩; refine ⟨okF, ?_⟩)
  rw [bV es]
  repeat (refine aJ ?_)
  (refine aA rfl (uD (a := f.inl) (b := f2.inl) (by rw [hfi, (yA e1).2.2]; unfold kF; have := uI (m := g.2.2) (l := l) (tol := t2) (n := l.length); omega) aB aB) rfl rfl ?_; rintro _ _ _ ⟨rfl, rfl, rfl⟩; refine ⟨okF, ?_⟩)
  rw [bV ei]
  repeat (refine aJ ?_)
  refine kD (M' := M0) (I' := I0) aG aD ?_
  refine aM (by first | exact .inl rfl | exact .inr rfl) rfl rfl _ _ aG aD (⟨rfl, rfl, rfl⟩)
end
end Go.Proofs.YtjbhdfpjnjedhaaGreat

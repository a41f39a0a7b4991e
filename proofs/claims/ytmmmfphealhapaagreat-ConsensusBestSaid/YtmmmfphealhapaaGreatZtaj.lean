/- fiducialref02: reduced, Valid, Value, Whole, Sign, Neg fiducialref02: Add, Sub, Mul, Divid -/
import Derived.Test.YtmmmfphealhapaaGreatZtah
import Derived.Test.YtmmmfphealhapaaGreatZtai
import Derived.Test.YtmmmfphealhapaaGreatZtad
set_option linter.unusedSimpArgs false
set_option linter.unusedVariables false
set_option maxRecDepth 100000
set_option maxHeartbeats 4000000
namespace Go.Proofs.YtmmmfphealhapaaGreat
open Go Go.Fx
section
variable {X:List Nat} {w0:World} {M0:List Ent} {I0:List aL}
theorem xJ {u v:Value} {n d:Int} {k:Nat} (hk:k≤150000000000) (hd0:d≠0) (hu:iA u n k∈I0) (hv:iA v d k∈I0):
  CD Tryz.prog 215 [u,v] X w0 M0 I0 (RQ (Rat.divInt n d) k M0 I0):=by
 have hS:=fun M0 I0=>wY (X:=X) (w0:=w0) (M0:=M0) (I0:=I0) (u:=v) (z:=d) (k:=k) (by omega)
 refine bZ hu (fun q cq e hc hy=>?_)
 subst e
 refine bZ (List.Mem.tail _ hv) (fun q' cq' e hc' hz=>?_)
 subst e
 obtain ⟨r,hr⟩:∃r,r=Rat.divInt n d:=⟨_,rfl⟩
 obtain ⟨g0,hg0⟩:∃g:Int,g=(Int.gcd n d:Int):=⟨_,rfl⟩
 obtain ⟨g,hg⟩:∃g:Int,g=if d < 0 then -g0 else g0:=⟨_,rfl⟩
 obtain ⟨e1,e2,e3⟩:=aPZ (n:=n) (d:=d) (g:=g) hd0 (by rw [hg,hg0])
 rw [←hr] at e1 e2 ⊢
 have hD1:=fun u v M0 I0 h1 h2=>aER (X:=X) (w0:=w0) (M0:=M0) (I0:=I0) (u:=u) (v:=v) (y:=n) (z:=g) (k:=k) (m:=k+k) (by omega) (by omega) e3 h1 h2
 have hD2:=fun u v M0 I0 h1 h2=>aER (X:=X) (w0:=w0) (M0:=M0) (I0:=I0) (u:=u) (v:=v) (y:=d) (z:=g) (k:=k) (m:=k+k) (by omega) (by omega) e3 h1 h2
 rw [e1] at hD1
 rw [e2] at hD2
 obtain ⟨f1,hf1⟩:∃f:Int,f=n.fmod g:=⟨_,rfl⟩
 obtain ⟨f2,hf2⟩:∃f:Int,f=d.fmod g:=⟨_,rfl⟩
 rw [←hf1] at hD1
 rw [←hf2] at hD2
 have hN:=fun u M0 I0=>aJQ (X:=X) (w0:=w0) (M0:=M0) (I0:=I0) (u:=u) (z:=g0) (k:=k+k) (by omega)
 have hG:=fun u v M0 I0=>aRC (X:=X) (w0:=w0) (M0:=M0) (I0:=I0) (u:=u) (v:=v) (y:=n) (z:=d) (k0:=k) (m:=k) (by omega) (by omega)
 rw [←hg0] at hG
 clear e1 e2 hf1 hf2 hg0 hr
 by_cases hneg:d < 0
 ·have hs:d.sign= -1:=Int.sign_eq_neg_one_of_neg hneg
  rw [hs] at hS
  rw [if_pos hneg] at hg
  rw [←hg] at hN
  clear hg hneg
  unfold iv at*
  refine aM Tryz.func215 rfl Tryz.ntmps215 rfl ?_
  refine gG ?_
  refine gN rfl (fun b=>?_)
  refine gN rfl (fun b2=>?_)
  refine cK (fun b4=>?_)
  repeat refine aQ ?_
  (refine bD rfl (hG _ _ _ _ aA aA) ?_;rintro _ _ _ ⟨rfl,rfl⟩;refine aN ?_;refine aT (List.Mem.head _) (fun q3 c3 e__ hc3 hz3=>?_);subst e__)
  unfold iv
  repeat refine aQ ?_
  refine cK (fun b5=>?_)
  repeat refine aQ ?_
  refine dH rfl (hS _ _ aA) ?_
  repeat refine aQ ?_
  (refine bD rfl (hN _ _ _ aA) ?_;rintro _ _ _ ⟨rfl,rfl⟩;refine aN ?_;refine aT (List.Mem.head _) (fun q6 c6 e__ hc6 hz6=>?_);subst e__)
  unfold iv
  repeat refine aQ ?_
  (refine bD rfl (hD1 _ _ _ _ aA aA) ?_;rintro _ _ _ ⟨rfl,v1,v2,rfl,rfl⟩;refine aN ?_)
  refine aT (u:=v1) aA (fun q7 c7 e7 hc7 hz7=>?_)
  subst e7
  refine aT (u:=v2) aA (fun q8 c8 e8 hc8 hz8=>?_)
  subst e8
  unfold iv
  repeat refine aQ ?_
  refine cK (fun b6=>?_)
  refine cK (fun b7=>?_)
  repeat refine aQ ?_
  (refine bD rfl (hD2 _ _ _ _ aA aA) ?_;rintro _ _ _ ⟨rfl,v3,v4,rfl,rfl⟩;refine aN ?_)
  refine aT (u:=v3) aA (fun q9 c9 e9 hc9 hz9=>?_)
  subst e9
  refine aT (u:=v4) aA (fun q10 c10 e10 hc10 hz10=>?_)
  subst e10
  unfold iv
  repeat refine aQ ?_
  refine cK (fun b8=>?_)
  refine cK (fun b9=>?_)
  repeat refine aQ ?_
  (refine aD rfl (fun _=>bC (pvs:=([vI q7 c7 r.num,vI q9 c9 r.den]).zipIdx.map (fun p=>(p.2,p.1))) (cells:=eR ⟨r,q7,c7,q9,c9⟩) rfl rfl) rfl rfl ?_)
  repeat refine aQ ?_
  refine mO (q:=r) (k:=k) (p1:=q7) (c1:=c7) (p2:=q9) (c2:=c9) aA aA (Nat.le_refl _) (Nat.le_refl _) ?_
  refine aO (cs:=eR ⟨r,q7,c7,q9,c9⟩) (.inl rfl) rfl rfl aA rfl M0 (bL ⟨r,q7,c7,q9,c9⟩ k::I0) aF aC ⟨rfl,⟨r,q7,c7,q9,c9⟩,rfl,rfl,rfl⟩
 ·have hs:d.sign=1:=Int.sign_eq_one_of_pos (by omega)
  rw [hs] at hS
  rw [if_neg hneg] at hg
  rw [←hg] at hG
  clear hg hneg hN
  unfold iv at*
  refine aM Tryz.func215 rfl Tryz.ntmps215 rfl ?_
  refine gG ?_
  refine gN rfl (fun b=>?_)
  refine gN rfl (fun b2=>?_)
  refine cK (fun b4=>?_)
  repeat refine aQ ?_
  (refine bD rfl (hG _ _ _ _ aA aA) ?_;rintro _ _ _ ⟨rfl,rfl⟩;refine aN ?_;refine aT (List.Mem.head _) (fun q3 c3 e__ hc3 hz3=>?_);subst e__)
  unfold iv
  repeat refine aQ ?_
  refine cK (fun b5=>?_)
  repeat refine aQ ?_
  refine dH rfl (hS _ _ aA) ?_
  repeat refine aQ ?_
  (refine bD rfl (hD1 _ _ _ _ aA aA) ?_;rintro _ _ _ ⟨rfl,v1,v2,rfl,rfl⟩;refine aN ?_)
  refine aT (u:=v1) aA (fun q7 c7 e7 hc7 hz7=>?_)
  subst e7
  refine aT (u:=v2) aA (fun q8 c8 e8 hc8 hz8=>?_)
  subst e8
  unfold iv
  repeat refine aQ ?_
  refine cK (fun b6=>?_)
  refine cK (fun b7=>?_)
  repeat refine aQ ?_
  (refine bD rfl (hD2 _ _ _ _ aA aA) ?_;rintro _ _ _ ⟨rfl,v3,v4,rfl,rfl⟩;refine aN ?_)
  refine aT (u:=v3) aA (fun q9 c9 e9 hc9 hz9=>?_)
  subst e9
  refine aT (u:=v4) aA (fun q10 c10 e10 hc10 hz10=>?_)
  subst e10
  unfold iv
  repeat refine aQ ?_
  refine cK (fun b8=>?_)
  refine cK (fun b9=>?_)
  repeat refine aQ ?_
  (refine aD rfl (fun _=>bC (pvs:=([vI q7 c7 r.num,vI q9 c9 r.den]).zipIdx.map (fun p=>(p.2,p.1))) (cells:=eR ⟨r,q7,c7,q9,c9⟩) rfl rfl) rfl rfl ?_)
  repeat refine aQ ?_
  refine mO (q:=r) (k:=k) (p1:=q7) (c1:=c7) (p2:=q9) (c2:=c9) aA aA (Nat.le_refl _) (Nat.le_refl _) ?_
  refine aO (cs:=eR ⟨r,q7,c7,q9,c9⟩) (.inl rfl) rfl rfl aA rfl M0 (bL ⟨r,q7,c7,q9,c9⟩ k::I0) aF aC ⟨rfl,⟨r,q7,c7,q9,c9⟩,rfl,rfl,rfl⟩
theorem aCC {x:Int} (hx: -9223372036854775808≤x∧x≤9223372036854775807):CD Tryz.prog 89 [.int .i64 x] X w0 M0 I0 (fun v M I=>M0=M∧I=iA v x 63::I0):=by
 refine aR Tryz.func89 rfl Tryz.ntmps89 rfl ?_
 refine gG ?_
 refine cK (fun b2=>?_)
 repeat refine aQ ?_
 (refine bD rfl (aVX hx) ?_;rintro _ _ _ ⟨rfl,rfl⟩;refine aN ?_;refine aT (List.Mem.head _) (fun q3 c3 e__ hc3 hz3=>?_);subst e__)
 unfold iv
 repeat refine aQ ?_
 refine aO (cs:=[.bool (B (x < 0)), .slice q3 (gr x.natAbs).length c3]) (.inl rfl) rfl rfl aA rfl _ _ aF aC ⟨rfl,rfl⟩
theorem aMT {u:Value} {z:Int} {k:Nat} (hk:k≤1000000000000) (hu:iA u z k∈I0):
  CD Tryz.prog 182 [u] X w0 M0 I0 (fun v M I=>M0=M∧I0=I∧v= .bool true):=by
 refine CD.post (K:=fun v M I=>M0=M∧(∃q,aI q (recs eG (gr z.natAbs))::I0=I)∧v= .bool true) (bZ hu (fun q c e hc hz=>?_)) (fun v M I w h hw=>?_)
 case refine_2=>
  obtain ⟨e1,⟨q,e2⟩,e3⟩:=h
  subst e1;subst e2
  exact ⟨_,_,⟨rfl,rfl,e3⟩,hw.inc (Inc.wk Inc.refl)⟩
 subst e
 have hl:=fV hz hk
 refine (aHN (neg:=B (z < 0)) (gs:=gr z.natAbs) (by omega) (List.Mem.head _)).mono (fun v M I h=>⟨h.1,⟨q,h.2.1⟩,?_⟩)
 rw [h.2.2]
 exact congrArg Value.bool (bK (aCB z))
theorem zB {e:RE} {k:Nat} (hk:k≤100000000000) (he:Hv I0 (bL e k)):
  CD Tryz.prog 102 [rv e] X w0 M0 I0 (fun v M I=>M0=M∧I0=I∧v= .bool true):=by
 refine CD.post (K:=fun v M I=>M0=M∧iA (vI e.p1 e.c1 e.q.num) e.q.num k::iA (vI e.p2 e.c2 e.q.den) e.q.den k::I0=I∧v= .bool true) (aDZ he ?_) (fun v M I w h hw=>?_)
 case refine_2=>
  obtain ⟨e1,e2,e3⟩:=h
  subst e1;subst e2
  exact ⟨_,_,⟨rfl,rfl,e3⟩,hw.inc (Inc.wk (Inc.wk Inc.refl))⟩
 have hV1:=fun M0 I0 h=>aMT (X:=X) (w0:=w0) (M0:=M0) (I0:=I0) (u:=vI e.p1 e.c1 e.q.num) (z:=e.q.num) (k:=k) (by omega) h
 have hV2:=fun M0 I0 h=>aMT (X:=X) (w0:=w0) (M0:=M0) (I0:=I0) (u:=vI e.p2 e.c2 e.q.den) (z:=e.q.den) (k:=k) (by omega) h
 have hS:=fun M0 I0=>wY (X:=X) (w0:=w0) (M0:=M0) (I0:=I0) (u:=vI e.p2 e.c2 e.q.den) (z:=e.q.den) (k:=k) (by omega)
 have hs:((e.q.den:Int)).sign=1:=Int.sign_eq_one_of_pos (by have:=e.q.den_nz;omega)
 rw [hs] at hS
 have hG:=fun M0 I0=>aRC (X:=X) (w0:=w0) (M0:=M0) (I0:=I0) (u:=vI e.p1 e.c1 e.q.num) (v:=vI e.p2 e.c2 e.q.den) (y:=e.q.num) (z:=e.q.den) (k0:=k) (m:=k) (by omega) (by omega)
 rw [aPT] at hG
 have hC:=fun u v M0 I0=>aJZ (X:=X) (w0:=w0) (M0:=M0) (I0:=I0) (u:=u) (v:=v) (y:=1) (z:=1) (k:=k+k) (m:=63) (by omega) (by omega)
 have hc:gD 1 1=0:=by decide
 rw [hc] at hC
 refine aR Tryz.func102 rfl Tryz.ntmps102 rfl ?_
 refine gG ?_
 refine gN rfl (fun b=>?_)
 repeat refine aQ ?_
 refine dH rfl (hV1 _ _ aA) ?_
 repeat refine aQ ?_
 refine dH rfl (hV2 _ _ aA) ?_
 repeat refine aQ ?_
 refine dH rfl (hS _ _ aA) ?_
 repeat refine aQ ?_
 (refine bD rfl (hG _ _ aA aA) ?_;rintro _ _ _ ⟨rfl,rfl⟩;refine aN ?_)
 repeat refine aQ ?_
 (refine bD rfl (aCC (x:=1) (by decide)) ?_;rintro _ _ _ ⟨rfl,rfl⟩;refine aN ?_)
 refine dH rfl (hC _ _ _ _ aA aA) ?_
 repeat refine aQ ?_
 refine aU (by first|exact .inl rfl|exact .inr rfl) rfl rfl _ _ aF aC (⟨rfl,rfl,congrArg Value.bool (bK (by decide))⟩)
theorem mD {e:RE} {k:Nat} (hk:k≤100000000000) (he:Hv I0 (bL e k)):
  CD Tryz.prog 149 [rv e] X w0 M0 I0 (fun v M I=>M0=M∧I0=I∧v=rv e):=by
 refine aR Tryz.func149 rfl Tryz.ntmps149 rfl ?_
 refine gG ?_
 refine gN rfl (fun b=>?_)
 refine cK (fun b2=>?_)
 repeat refine aQ ?_
 refine dH rfl (zB hk he) ?_
 repeat refine aQ ?_
 refine aO (cs:=eR e) (.inl rfl) rfl rfl aA rfl M0 I0 aF aC ⟨rfl,rfl,rfl⟩
theorem vO {x:Int} (hx: -9223372036854775808≤x∧x≤9223372036854775807) {k:Nat} (hk:x.natAbs≤2 ^ k):
  CD Tryz.prog 29 [.int .i64 x] X w0 M0 I0 (RQ (x:Rat) k M0 I0):=by
 have hn:((x:Rat)).num=x:=Rat.num_intCast x
 have hd:(((x:Rat)).den:Int)=1:=by rw [Rat.den_intCast];rfl
 have h1:(1:Int).natAbs≤2 ^ k:=Nat.one_le_two_pow
 obtain ⟨q,hq⟩:∃q:Rat,q=(x:Rat):=⟨_,rfl⟩
 rw [←hq] at hn hd ⊢
 refine aR Tryz.func29 rfl Tryz.ntmps29 rfl ?_
 refine gG ?_
 refine cK (fun b2=>?_)
 repeat refine aQ ?_
 (refine bD rfl (aCC hx) ?_;rintro _ _ _ ⟨rfl,rfl⟩;refine aN ?_;refine aT (List.Mem.head _) (fun q3 c3 e__ hc3 hz3=>?_);subst e__)
 unfold iv
 refine nY (k2:=k) (z:=x) (List.Mem.tail _ (List.Mem.head _)) hk ?_
 (refine bD rfl (aCC (x:=1) (by decide)) ?_;rintro _ _ _ ⟨rfl,rfl⟩;refine aN ?_;refine aT (List.Mem.head _) (fun q4 c4 e__ hc4 hz4=>?_);subst e__)
 unfold iv
 refine nY (k2:=k) (z:=1) (List.Mem.tail _ (List.Mem.head _)) h1 ?_
 rw [←hn,←hd]
 (refine aD rfl (fun _=>bC (pvs:=([vI q3 c3 q.num,vI q4 c4 q.den]).zipIdx.map (fun p=>(p.2,p.1))) (cells:=eR ⟨q,q3,c3,q4,c4⟩) rfl rfl) rfl rfl ?_)
 repeat refine aQ ?_
 refine mO (q:=q) (k:=k) (p1:=q3) (c1:=c3) (p2:=q4) (c2:=c4) aA aA (Nat.le_refl _) (Nat.le_refl _) ?_
 refine aO (cs:=eR ⟨q,q3,c3,q4,c4⟩) (.inl rfl) rfl rfl aA rfl M0 (bL ⟨q,q3,c3,q4,c4⟩ k::I0) aF aC ⟨rfl,⟨q,q3,c3,q4,c4⟩,rfl,rfl,rfl⟩
theorem pV {e:RE} {k:Nat} (hk:k≤100000000000) (he:Hv I0 (bL e k)):
  CD Tryz.prog 74 [rv e] X w0 M0 I0 (fun v M I=>M0=M∧I0=I∧v= .int .i64 e.q.num.sign):=by
 refine aR Tryz.func74 rfl Tryz.ntmps74 rfl ?_
 refine gG ?_
 refine gN rfl (fun b=>?_)
 repeat refine aQ ?_
 refine dH rfl (mD hk he) ?_
 refine aD rfl (fun _=>dI rfl) rfl rfl ?_
 refine iD (e:=e) (k:=k) he ?_
 refine dH rfl (wY (z:=e.q.num) (k:=k) (by omega) aA) ?_
 repeat refine aQ ?_
 refine iR rfl rfl (⟨rfl,rfl,rfl⟩)
theorem zL {e:RE} {k:Nat} (hk:k≤100000000000) (he:Hv I0 (bL e k)):
  CD Tryz.prog 147 [rv e] X w0 M0 I0 (RQ (-e.q) k M0 I0):=by
 have hN:=fun M0 I0=>aJQ (X:=X) (w0:=w0) (M0:=M0) (I0:=I0) (u:=vI e.p1 e.c1 e.q.num) (z:=e.q.num) (k:=k) (by omega)
 rw [←Rat.neg_num] at hN
 have hd:((e.q.den:Int))=((-e.q).den:Int):=by rw [Rat.neg_den]
 refine aR Tryz.func147 rfl Tryz.ntmps147 rfl ?_
 refine gG ?_
 refine gN rfl (fun b=>?_)
 refine cK (fun b2=>?_)
 repeat refine aQ ?_
 refine dH rfl (mD hk he) ?_
 refine iD (e:=e) (k:=k) he ?_
 refine cK (fun b3=>?_)
 repeat refine aQ ?_
 (repeat refine aG ?_);refine aW 1 [0,1,3,4,2,5,6] [1,0,1,1,0,0,0] mixed (by kernel_rfl) ?_
 repeat refine aQ ?_
 (refine bD rfl (hN _ _ aA) ?_;rintro _ _ _ ⟨rfl,rfl⟩;refine aN ?_;refine aT (List.Mem.head _) (fun q3 c3 e__ hc3 hz3=>?_);subst e__)
 unfold iv
 rw [hd]
 (refine aD rfl (fun _=>bC (pvs:=([vI q3 c3 (-e.q).num,vI e.p2 e.c2 (-e.q).den]).zipIdx.map (fun p=>(p.2,p.1))) (cells:=eR ⟨-e.q,q3,c3,e.p2,e.c2⟩) rfl rfl) rfl rfl ?_)
 repeat refine aQ ?_
 refine mO (q:= -e.q) (k:=k) (p1:=q3) (c1:=c3) (p2:=e.p2) (c2:=e.c2) aA aA (Nat.le_refl _) (Nat.le_refl _) ?_
 refine aO (cs:=eR ⟨-e.q,q3,c3,e.p2,e.c2⟩) (.inl rfl) rfl rfl aA rfl M0 (bL ⟨-e.q,q3,c3,e.p2,e.c2⟩ k::I0) aF aC ⟨rfl,⟨-e.q,q3,c3,e.p2,e.c2⟩,rfl,rfl,rfl⟩
end
theorem aMA {n d:Int} (hd:0 < d):(Rat.divInt n d).num.sign=n.sign:=by
 obtain ⟨m,hm,h1,h2,h3,h4⟩:=yK (n:=n) (d:=d) (by omega)
 have hm0:0 < m:=by
  rcases Int.lt_trichotomy m 0 with h|h|h
  ·have:=h4.1 h;omega
  ·exact absurd h hm
  ·exact h
 have:n.sign=((Rat.divInt n d).num*m).sign:=congrArg Int.sign h1
 rw [this,Int.sign_mul,Int.sign_eq_one_of_pos hm0,Int.mul_one]
theorem aWO (p q:Rat):(p - q).num.sign=aDA p q:=by
 rw [Rat.sub_eq_add_neg,yT,aMA (by rw [Rat.neg_den];exact Int.mul_pos (aAR p) (aAR q)),Rat.neg_num,Rat.neg_den,Int.neg_mul,←Int.sub_eq_add_neg,aQL]
 rfl
section
variable {X:List Nat} {w0:World} {M0:List Ent} {I0:List aL}
theorem xG {a b:RE} {k m:Nat} (hk:k+m+1≤100000000000) (ha:Hv I0 (bL a k)) (hb:Hv I0 (bL b m)):
  CD Tryz.prog 153 [rv a,rv b] X w0 M0 I0 (RQ (a.q+b.q) (k+m+1) M0 I0):=by
 have hM1:=fun u v M0 I0=>tN (X:=X) (w0:=w0) (M0:=M0) (I0:=I0) (u:=u) (v:=v) (y:=a.q.num) (z:=b.q.den) (k0:=k) (m0:=m) (by omega)
 have hM2:=fun u v M0 I0=>tN (X:=X) (w0:=w0) (M0:=M0) (I0:=I0) (u:=u) (v:=v) (y:=b.q.num) (z:=a.q.den) (k0:=m) (m0:=k) (by omega)
 have hM3:=fun u v M0 I0=>tN (X:=X) (w0:=w0) (M0:=M0) (I0:=I0) (u:=u) (v:=v) (y:=a.q.den) (z:=b.q.den) (k0:=k) (m0:=m) (by omega)
 have hA:=fun u v M0 I0=>aPV (X:=X) (w0:=w0) (M0:=M0) (I0:=I0) (u:=u) (v:=v) (y:=a.q.num*b.q.den) (z:=b.q.num*a.q.den) (k:=k+m) (m:=m+k) (c:=k+m+1) (by omega) (by omega) (by omega) (aRL k m)
 have hR:=fun u v M0 I0=>xJ (X:=X) (w0:=w0) (M0:=M0) (I0:=I0) (u:=u) (v:=v) (n:=a.q.num*b.q.den+b.q.num*a.q.den) (d:=a.q.den*b.q.den) (k:=k+m+1) (by omega) (vZ _ _)
 rw [←yT] at hR
 refine aM Tryz.func153 rfl Tryz.ntmps153 rfl ?_
 refine gG ?_
 refine gN rfl (fun b1=>?_)
 refine gN rfl (fun b2=>?_)
 refine cK (fun b3=>?_)
 repeat refine aQ ?_
 refine dH rfl (mD (k:=k) (by omega) ha) ?_
 refine cK (fun b4=>?_)
 repeat refine aQ ?_
 refine dH rfl (mD (k:=m) (by omega) hb) ?_
 refine cK (fun b5=>?_)
 refine iD (e:=a) (k:=k) ha ?_
 refine iD (e:=b) (k:=m) hb.cons.cons ?_
 repeat refine aQ ?_
 (repeat refine aG ?_);refine pW (.blk b5 (eR b) 77:: .blk b4 (eR a) 77::M0) (I0) [0,1,2,3,5,6,7,8,11,12,13,14,4,9,10,15,16,17] [5,4,5,4,5,4,5,4,5,4,5,4,0,0,0,0,0,0] mixed ?_
 repeat refine aQ ?_
 (refine bD rfl (hM1 _ _ _ _ aA aA) ?_;rintro _ _ _ ⟨rfl,rfl⟩;refine aN ?_)
 (refine bD rfl (hM2 _ _ _ _ aA aA) ?_;rintro _ _ _ ⟨rfl,rfl⟩;refine aN ?_)
 (refine bD rfl (hA _ _ _ _ aA aA) ?_;rintro _ _ _ ⟨rfl,rfl⟩;refine aN ?_)
 (refine bD rfl (hM3 _ _ _ _ aA aA) ?_;rintro _ _ _ ⟨rfl,rfl⟩;refine aN ?_)
 refine aKB (k2:=k+m+1) (List.Mem.head _) (by omega) ?_
 refine fK rfl (hR _ _ _ _ aA aA) (fun e he=>?_)
 repeat refine aQ ?_
 refine aO (cs:=eR e) (.inl rfl) rfl rfl aA rfl M0 (bL e (k+m+1)::I0) aF aC ⟨rfl,e,rfl,he,rfl⟩
theorem sN {a b:RE} {k m:Nat} (hk:k+m≤100000000000) (ha:Hv I0 (bL a k)) (hb:Hv I0 (bL b m)):
  CD Tryz.prog 151 [rv a,rv b] X w0 M0 I0 (RQ (a.q*b.q) (k+m) M0 I0):=by
 have hM1:=fun u v M0 I0=>tN (X:=X) (w0:=w0) (M0:=M0) (I0:=I0) (u:=u) (v:=v) (y:=a.q.num) (z:=b.q.num) (k0:=k) (m0:=m) (by omega)
 have hM3:=fun u v M0 I0=>tN (X:=X) (w0:=w0) (M0:=M0) (I0:=I0) (u:=u) (v:=v) (y:=a.q.den) (z:=b.q.den) (k0:=k) (m0:=m) (by omega)
 have hR:=fun u v M0 I0=>xJ (X:=X) (w0:=w0) (M0:=M0) (I0:=I0) (u:=u) (v:=v) (n:=a.q.num*b.q.num) (d:=a.q.den*b.q.den) (k:=k+m) (by omega) (vZ _ _)
 rw [←aFM] at hR
 refine aM Tryz.func151 rfl Tryz.ntmps151 rfl ?_
 refine gG ?_
 refine gN rfl (fun b1=>?_)
 refine gN rfl (fun b2=>?_)
 refine cK (fun b3=>?_)
 repeat refine aQ ?_
 refine dH rfl (mD (k:=k) (by omega) ha) ?_
 refine cK (fun b4=>?_)
 repeat refine aQ ?_
 refine dH rfl (mD (k:=m) (by omega) hb) ?_
 refine cK (fun b5=>?_)
 refine iD (e:=a) (k:=k) ha ?_
 refine iD (e:=b) (k:=m) hb.cons.cons ?_
 repeat refine aQ ?_
 (repeat refine aG ?_);refine pW (.blk b5 (eR b) 77:: .blk b4 (eR a) 77::M0) (I0) [0,1,2,3,5,6,7,8,4,9,10,11] [3,2,3,2,3,2,3,2,0,0,0,0] mixed ?_
 repeat refine aQ ?_
 (refine bD rfl (hM1 _ _ _ _ aA aA) ?_;rintro _ _ _ ⟨rfl,rfl⟩;refine aN ?_)
 (refine bD rfl (hM3 _ _ _ _ aA aA) ?_;rintro _ _ _ ⟨rfl,rfl⟩;refine aN ?_)
 refine fK rfl (hR _ _ _ _ aA aA) (fun e he=>?_)
 repeat refine aQ ?_
 refine aO (cs:=eR e) (.inl rfl) rfl rfl aA rfl M0 (bL e (k+m)::I0) aF aC ⟨rfl,e,rfl,he,rfl⟩
theorem aEB {a b:RE} {k m:Nat} (hk:k+m+1≤100000000000) (ha:Hv I0 (bL a k)) (hb:Hv I0 (bL b m)):
  CD Tryz.prog 119 [rv a,rv b] X w0 M0 I0 (RQ (a.q - b.q) (k+m+1) M0 I0):=by
 refine aM Tryz.func119 rfl Tryz.ntmps119 rfl ?_
 refine gG ?_
 refine gN rfl (fun b1=>?_)
 refine gN rfl (fun b2=>?_)
 refine cK (fun b3=>?_)
 repeat refine aQ ?_
 (repeat refine aG ?_);refine aW 1 [0,1,2,3,4] [1,1,0,0,0] mixed (by kernel_rfl) ?_
 repeat refine aQ ?_
 refine fK rfl (zL (k:=m) (by omega) hb) (fun y hy=>?_)
 rw [Rat.sub_eq_add_neg,←hy]
 refine fK rfl (xG hk ha.cons (Hv.mem (List.Mem.head _))) (fun e he=>?_)
 repeat refine aQ ?_
 refine aO (cs:=eR e) (.inl rfl) rfl rfl aA rfl M0 (bL e (k+m+1)::I0) aF aC ⟨rfl,e,rfl,he,rfl⟩
theorem bAB {u v:Value} {n d:Int} {k:Nat} (hk:k≤150000000000) (hd0:d≠0) (hu:iA u n k∈I0) (hv:iA v d k∈I0):
  CD Tryz.prog 210 [u,v] X w0 M0 I0 (RQc (Rat.divInt n d) k M0 I0):=by
 have hs0:¬d.sign=0:=fun h=>hd0 (Int.sign_eq_zero_iff_zero.1 h)
 have hS:=fun M0 I0=>wY (X:=X) (w0:=w0) (M0:=M0) (I0:=I0) (u:=v) (z:=d) (k:=k) (by omega)
 have hR:=fun M0 I0=>xJ (X:=X) (w0:=w0) (M0:=M0) (I0:=I0) (u:=u) (v:=v) (n:=n) (d:=d) (k:=k) (by omega) hd0
 generalize d.sign=sd at*
 refine CD.post (K:=fun v M I=>∃q q',RQc (Rat.divInt n d) k M0 (aI q' (recs eG (gr d.natAbs))::aI q (recs eG (gr n.natAbs))::I0) v M I) (bZ hu (fun q cq e hc hy=>?_)) (fun v M I w h hw=>?_)
 case refine_2=>
  obtain ⟨q,q',e1,e2,h2,h3,h4⟩:=h
  subst e1;subst h4
  exact ⟨_,_,⟨rfl,e2,h2,h3,rfl⟩,hw.inc (Inc.cons (List.Mem.head _) (Inc.wk (Inc.wk (Inc.wk Inc.refl))))⟩
 subst e
 refine bZ (List.Mem.tail _ hv) (fun q' cq' e hc' hz=>?_)
 subst e
 unfold iv at*
 refine aM Tryz.func210 rfl Tryz.ntmps210 rfl ?_
 refine gG ?_
 refine gN rfl (fun b1=>?_)
 refine gN rfl (fun b2=>?_)
 refine cK (fun b3=>?_)
 repeat refine aQ ?_
 refine dH rfl (hS _ _ aA) ?_
 repeat refine aQ ?_
 refine fK rfl (hR _ _ aA aA) (fun e he=>?_)
 repeat refine aQ ?_
 refine dW (rs:=[.cell 4 77, .tmp 5]) (vs:=[rv e, .int .i64 0]) (.inl rfl) rfl (.cellN (cs:=eR e) inferInstance rfl aA rfl (.tmp rfl .nil)) rfl M0 (bL e k::aI q' (recs eG (gr d.natAbs))::aI q (recs eG (gr n.natAbs))::I0) aF aC ⟨q,q',rfl,e,rfl,he,rfl⟩
theorem wQ {a b:RE} {k m:Nat} (hk:k+m≤100000000000) (hb0:b.q≠0) (ha:Hv I0 (bL a k)) (hb:Hv I0 (bL b m)):
  CD Tryz.prog 141 [rv a,rv b] X w0 M0 I0 (RQc (a.q / b.q) (k+m) M0 I0):=by
 have hM1:=fun u v M0 I0=>tN (X:=X) (w0:=w0) (M0:=M0) (I0:=I0) (u:=u) (v:=v) (y:=a.q.num) (z:=b.q.den) (k0:=k) (m0:=m) (by omega)
 have hM3:=fun u v M0 I0=>tN (X:=X) (w0:=w0) (M0:=M0) (I0:=I0) (u:=u) (v:=v) (y:=a.q.den) (z:=b.q.num) (k0:=k) (m0:=m) (by omega)
 have hR:=fun u v M0 I0=>bAB (X:=X) (w0:=w0) (M0:=M0) (I0:=I0) (u:=u) (v:=v) (n:=a.q.num*b.q.den) (d:=a.q.den*b.q.num) (k:=k+m) (by omega) (aEI hb0)
 rw [←aEG] at hR
 refine aM Tryz.func141 rfl Tryz.ntmps141 rfl ?_
 refine gG ?_
 refine gN rfl (fun b1=>?_)
 refine gN rfl (fun b2=>?_)
 refine cK (fun b3=>?_)
 repeat refine aQ ?_
 refine dH rfl (mD (k:=k) (by omega) ha) ?_
 refine cK (fun b4=>?_)
 repeat refine aQ ?_
 refine dH rfl (mD (k:=m) (by omega) hb) ?_
 refine cK (fun b5=>?_)
 refine iD (e:=a) (k:=k) ha ?_
 refine iD (e:=b) (k:=m) hb.cons.cons ?_
 repeat refine aQ ?_
 (repeat refine aG ?_);refine pW (.blk b5 (eR b) 77:: .blk b4 (eR a) 77::M0) (I0) [0,1,2,3,5,6,7,8,4,9,10,11,12,13,14] [3,2,3,2,3,2,3,2,0,0,0,0,0,0,0] mixed ?_
 repeat refine aQ ?_
 (refine bD rfl (hM1 _ _ _ _ aA aA) ?_;rintro _ _ _ ⟨rfl,rfl⟩;refine aN ?_)
 (refine bD rfl (hM3 _ _ _ _ aA aA) ?_;rintro _ _ _ ⟨rfl,rfl⟩;refine aN ?_)
 (refine bD rfl (hR _ _ _ _ aA aA) ?_;rintro _ _ _ ⟨rfl,e,rfl,he,rfl⟩;refine aN ?_)
 repeat refine aQ ?_
 refine dW (rs:=[.cell 4 77, .tmp 5]) (vs:=[rv e, .int .i64 0]) (.inl rfl) rfl (.cellN (cs:=eR e) inferInstance rfl aA rfl (.tmp rfl .nil)) rfl M0 (bL e (k+m)::I0) aF aC ⟨rfl,e,rfl,he,rfl⟩
theorem aBB {a b:RE} {k m:Nat} (hk:k+m+1≤100000000000) (ha:Hv I0 (bL a k)) (hb:Hv I0 (bL b m)):
  CD Tryz.prog 56 [rv a,rv b] X w0 M0 I0 (fun v M I=>M0=M∧I0=I∧v= .int .i64 (aDA a.q b.q)):=by
 refine aM Tryz.func56 rfl Tryz.ntmps56 rfl ?_
 refine gG ?_
 refine gN rfl (fun b1=>?_)
 refine gN rfl (fun b2=>?_)
 repeat refine aQ ?_
 refine fK rfl (aEB hk ha hb) (fun e he=>?_)
 refine dH rfl (pV (k:=k+m+1) (by omega) (Hv.mem (List.Mem.head _))) ?_
 repeat refine aQ ?_
 refine aU (by first|exact .inl rfl|exact .inr rfl) rfl rfl _ _ aF aC (⟨rfl,rfl,by rw [he,aWO]⟩)
theorem aZE {a b:RE} {k m:Nat} (hk:k+m+1≤100000000000) (ha:Hv I0 (bL a k)) (hb:Hv I0 (bL b m)):
  CD Tryz.prog 34 [rv a,rv b] X w0 M0 I0 (fun v M I=>M0=M∧I0=I∧v= .bool (B (a.q=b.q))):=by
 refine aM Tryz.func34 rfl Tryz.ntmps34 rfl ?_
 refine gG ?_
 refine gN rfl (fun b1=>?_)
 refine gN rfl (fun b2=>?_)
 repeat refine aQ ?_
 refine dH rfl (zB (k:=k) (by omega) ha) ?_
 repeat refine aQ ?_
 refine dH rfl (zB (k:=m) (by omega) hb) ?_
 repeat refine aQ ?_
 refine dH rfl (aBB hk ha hb) ?_
 repeat refine aQ ?_
 refine iR rfl rfl (⟨rfl,rfl,congrArg Value.bool (iZ bDF)⟩)
end
structure C4 where
 a:Value
 b:Value
 c:Value
 d:Value
abbrev e4 (x:C4):List Value:=[x.a,x.b,x.c,x.d]
instance:Inhabited C4:=⟨⟨.bool false, .slice none 0 0, .bool false, .slice none 0 0⟩⟩
instance:Sized e4 4:=⟨fun _=>rfl⟩
abbrev z4:C4:=⟨.bool false, .slice none 0 0, .bool false, .slice none 0 0⟩
abbrev t4 (e:RE):C4:=⟨.bool (B (e.q.num < 0)), .slice e.p1 (gr e.q.num.natAbs).length e.c1, .bool (B ((e.q.den:Int) < 0)), .slice e.p2 (gr (e.q.den:Int).natAbs).length e.c2⟩
theorem aIE (es:List RE):recs e4 (es.map t4)=recs eR es:=by
 induction es with
 |nil=>rfl
 |cons x r ih=>
  have h1:recs e4 ((x::r).map t4)=e4 (t4 x)++recs e4 (r.map t4):=rfl
  have h2:recs eR (x::r)=eR x++recs eR r:=rfl
  rw [h1,h2,ih]
structure HD where
 p:Option Addr
 n:Nat
 c:Nat
instance:Inhabited HD:=⟨⟨none,0,0⟩⟩
abbrev eH (h:HD):List Value:=[.slice h.p h.n h.c]
instance:Sized eH 1:=⟨fun _=>rfl⟩
structure MR where
 b:Nat
 es:List RE
instance:Inhabited MR:=⟨⟨0,[]⟩⟩
abbrev hdM (r:MR):HD:=⟨some ⟨r.b,0,none⟩,r.es.length,r.es.length⟩
abbrev eM (r:MR):List Value:=[.slice (some ⟨r.b,0,none⟩) r.es.length r.es.length]
instance:Sized eM 1:=⟨fun _=>rfl⟩
abbrev fZ (r:MR):Ent:= .blk r.b (recs eR r.es) 77
theorem aWN (rows:List MR):recs eH (rows.map hdM)=recs eM rows:=by
 induction rows with
 |nil=>rfl
 |cons x r ih=>
  have h1:recs eH ((x::r).map hdM)=eH (hdM x)++recs eH (r.map hdM):=rfl
  have h2:recs eM (x::r)=eM x++recs eM r:=rfl
  rw [h1,h2,ih]
structure AllM (rows:List MR) (k:Nat) (X:List Nat) (w:World):Prop where
 go:∀r∈rows,∀e∈r.es,IsR e k X w
abbrev allM (rows:List MR) (k:Nat):aL:=AllM rows k
instance (rows:List MR) (k:Nat):Fx.Good (AllM rows k):=⟨fun X Y w w' h he hY=>⟨fun r hr e hm=>Fx.Good.go (φ:=IsR _ _) X Y w w' (h.go r hr e hm) he hY⟩⟩
theorem Hv.snoc {I:List aL} {es:List RE} {e:RE} {k:Nat} (h1:aP es k∈I) (h2:bL e k∈I):Hv I (aP (es++[e]) k):=⟨fun X w hw=>⟨fun x hx=>by
 rcases List.mem_append.1 hx with hx|hx
 ·exact (hw _ h1:AllR es k X w).go x hx
 ·rw [List.mem_singleton.1 hx];exact hw _ h2⟩⟩
theorem Hv.nilR {I:List aL} {k:Nat}:Hv I (aP [] k):=⟨fun X w _=>⟨fun x hx=>by simp at hx⟩⟩
theorem Hv.nilM {I:List aL} {k:Nat}:Hv I (allM [] k):=⟨fun X w _=>⟨fun x hx=>by simp at hx⟩⟩
theorem Hv.snocM {I:List aL} {rows:List MR} {r:MR} {k:Nat} (h1:allM rows k∈I) (h2:aP r.es k∈I):Hv I (allM (rows++[r]) k):=⟨fun X w hw=>⟨fun x hx=>by
 rcases List.mem_append.1 hx with hx|hx
 ·exact (hw _ h1:AllM rows k X w).go x hx
 ·rw [List.mem_singleton.1 hx];exact (hw _ h2:AllR r.es k X w).go⟩⟩
theorem xI {α:Type} [Inhabited α] {A B:List α} {x:α} {i:Int} (h:i=A.length):gt (A++x::B) i=x:=by
 subst h
 rw [fH (by simp)]
 simp
theorem wS {α:Type} {A B:List α} {x y:α} {i:Int} (h:i=A.length):st (A++x::B) i y=A++y::B:=by
 subst h
 simp [st]
theorem uN {α:Type} {n:Nat} {z:α} (h:0 < n):List.replicate n z=z::List.replicate (n - 1) z:=by
 obtain ⟨m,rfl⟩:∃m,n=m+1:=⟨n - 1,by omega⟩
 rfl
theorem rX {α:Type} {enc:α→List Value} {sz:Nat} [h:Sized enc sz] (hsz:0 < sz) (zz:α) (mm:Nat):(madeCells (enc zz).toArray (mm*sz)).toList=recs enc (List.replicate mm zz):=by
 have hl:(enc zz).length=sz:=h.len zz
 apply List.ext_getElem
 ·rw [Array.length_toList,size_madeCells,fG,List.length_replicate]
 ·intro i h1 h2
  rw [Array.length_toList,size_madeCells] at h1
  have hq:i / sz < mm:=by rw [Nat.div_lt_iff_lt_mul hsz];exact h1
  have hr:i % sz < sz:=Nat.mod_lt _ hsz
  have hv:(enc zz)[i % sz]?=some ((enc zz)[i % sz]'(by omega)):=List.getElem?_eq_getElem (by omega)
  have:=zP (enc:=enc) (List.replicate mm zz) (i / sz) (i % sz) zz _ (by rw [List.getElem?_replicate,if_pos hq]) hv
  rw [Nat.div_add_mod'] at this
  have h3:=(List.getElem?_eq_some_iff.1 this).2
  rw [h3]
  simp [madeCells,hl,hr]
def MkP (R C:Nat) (F:Nat→Nat→Rat) (k:Nat) (M0:List Ent) (I0:List aL) (v:Value) (M:List Ent) (I:List aL):Prop:=
 ∃(bo:Nat) (rows:List MR),v= .slice (some ⟨bo,0,none⟩) R R∧rows.length=R∧(∀r∈rows,r.es.length=C)∧(rows.map (fun r=>r.es.map (·.q))=(List.range R).map (fun i=>(List.range C).map (F i)))∧
  M= .blk bo (recs eM rows) 70::(rows.map fZ++M0)∧I=allM rows k::I0
section
variable {P:Program} {n:Nat} {Q:Exit→Act→World→Prop} {G:Env} {X:List Nat} {w0:World} {M M':List Ent} {I:List aL}
theorem vS {ex:Exit} (h:M.Perm M') (k:ND n Q ex G X w0 M' I):ND n Q ex G X w0 M I:=yO (fun _ hw=>hw.perm h) k
theorem nR {c:Code} (h:M.Perm M') (k:TD P n c Q G X w0 M' I):TD P n c Q G X w0 M I:=aEO (fun _ hw=>hw.perm h) k
theorem zU {ops l:List Oper} {m:Fx.Mode} (h:M.Perm M') (k:RD P n ops Q m l G X w0 M' I):RD P n ops Q m l G X w0 M I:=vQ (fun _ hw=>hw.perm h) k
theorem aBZ {x o:Ent} {A B:List Ent}:(x::o::(A++B)).Perm (o::((A++[x])++B)):=by
 refine (List.Perm.swap _ _ _).trans (List.Perm.cons _ ?_)
 rw [List.append_assoc]
 exact List.perm_middle.symm
end
section
variable {X:List Nat} {w0:World} {M0:List Ent} {I0:List aL}
theorem aFT {g:FuncId} [FnOk Tryz.prog g] {fs cs:Array Value} {R C k0:Nat} (hR:R≤100) (hC:C≤200) (F:Nat→Nat→Rat)
  (hg:∀M I,(∀φ∈I0,φ∈I)→∀i j:Nat,i < R→j < C→CD Tryz.prog g (fs.toList++[.int .i64 (i:Int), .int .i64 (j:Int)]++cs.toList) X w0 M I (RQ (F i j) k0 M I)):
  CD Tryz.prog 237 [.int .i64 (R:Int), .int .i64 (C:Int), .func (.func g) fs cs] X w0 M0 I0 (MkP R C F k0 M0 I0):=by
 refine iC Tryz.func237 rfl Tryz.ntmps237 rfl ?_
 repeat refine aQ ?_
 (refine jO (R) rfl rfl (by omega) (by omega) (by omega) (by omega) (rX (enc:=eH) (by decide) ⟨none,0,0⟩ R) rfl rfl ?_;intro bo;refine aN ?_)
 refine bQ (φ:=allM [] k0) Hv.nilM ?_
 repeat refine aQ ?_
 refine lX [1,2,7,13] rfl (fun k G M I=>∃(i:Nat) (rows:List MR),i≤R∧k=R - i∧rows.length=i∧(∀r∈rows,r.es.length=C)∧(rows.map (fun r=>r.es.map (·.q))=(List.range i).map (fun i=>(List.range C).map (F i)))∧G=[(14, .int .i64 i)]∧M= .blk bo (recs eH (rows.map hdM++List.replicate (R - i) ⟨none,0,0⟩)) 70::(rows.map fZ++M0)∧I=allM rows k0::I0) (R) (⟨0,[],by omega,by omega,rfl,by simp,by simp,rfl,rfl,rfl⟩) ?_
 rintro k G M I ⟨i,rows,hi,rfl,hrl,hrc,hrF,rfl,rfl,rfl⟩
 by_cases hiR:i < R
 ·have hz:=uN (n:=R - i) (z:=(⟨none,0,0⟩:HD)) (by omega)
  repeat refine aQ ?_
  (refine jO (C) rfl rfl (by omega) (by omega) (by omega) (by omega) (rX (enc:=e4) (by decide) z4 C) rfl rfl ?_;intro bi;refine aN ?_)
  rw [hz]
  have hlh0:((rows.map hdM++(⟨none,0,0⟩:HD)::List.replicate (R - i - 1) ⟨none,0,0⟩).length:Int)=R:=by simp;omega
  repeat refine yXf ?_
  refine nH rfl rfl rfl jJ (StAt.r1 (⟨some ⟨bi,0,none⟩,C,C⟩:HD) (by omega) rfl) rfl rfl ⟨okF,?_⟩
  rw [wS (by simp;omega)]
  obtain ⟨hs,hhs⟩:∃hs,hs=rows.map hdM++(⟨some ⟨bi,0,none⟩,C,C⟩:HD)::List.replicate (R - i - 1) ⟨none,0,0⟩:=⟨_,rfl⟩
  rw [←hhs]
  have hgh:gt hs (i:Int)=⟨some ⟨bi,0,none⟩,C,C⟩:=by rw [hhs];exact xI (by simp;omega)
  have hlh:hs.length=R:=by rw [hhs];simp;omega
  have hgp:(gt hs (i:Int)).p=some ⟨bi,0,none⟩:=by rw [hgh]
  have hgn:(gt hs (i:Int)).n=C:=by rw [hgh]
  have hgc:(gt hs (i:Int)).c=C:=by rw [hgh]
  repeat refine aQ ?_
  rw [hgp,hgn,hgc]
  refine bG (φ:=aP [] k0) Hv.nilR ?_
  refine lX [1,2,7,8,13,14,26] rfl (fun k G M I=>∃(j:Nat) (es:List RE),j≤C∧k=C - j∧es.length=j∧es.map (·.q)=(List.range j).map (F i)∧G=[(27, .int .i64 j)]∧M= .blk bi (recs e4 (es.map t4++List.replicate (C - j) z4)) 77:: .blk bo (recs eH hs) 70::(rows.map fZ++M0)∧I=aP es k0::allM rows k0::I0) (C) (⟨0,[],by omega,by omega,rfl,rfl,rfl,rfl,rfl⟩) ?_
  rintro k G M I ⟨j,es,hj,rfl,hel,heF,rfl,rfl,rfl⟩
  by_cases hjC:j < C
  ·have hz2:=uN (n:=C - j) (z:=z4) (by omega)
   rw [hz2]
   have hl2:((es.map t4++z4::List.replicate (C - j - 1) z4).length:Int)=C:=by simp;omega
   repeat refine aQ ?_
   (repeat refine aG ?_);refine aW 1 [0,1,2,3,4,5,6,7,8,9,10] [1,1,1,1,1,0,0,0,0,0,0] mixed (by kernel_rfl) ?_
   repeat refine aQ ?_
   rw [hgp,hgn,hgc]
   (refine dJ rfl rfl (hg _ _ (fun φ h=>List.Mem.tail _ (List.Mem.tail _ h)) i j hiR hjC) rfl rfl rfl ?_;rintro _ _ _ ⟨rfl,e,rfl,he,rfl⟩;refine aN ?_)
   repeat refine yXf ?_
   refine fJ (vs:=eR e) rfl rfl rfl (Ones.one e) jJ (StAts.r (t4 e) (by omega) rfl) rfl rfl ⟨okF,?_⟩
   rw [wS (by simp;omega)]
   repeat refine aQ ?_
   refine dF (φ:=aP (es++[e]) k0) (Hv.snoc aA aA) ?_
   have e9:es.map t4++t4 e::List.replicate (C - j - 1) z4=(es++[e]).map t4++List.replicate (C - (j+1)) z4:=by simp [Nat.sub_sub]
   rw [e9]
   refine gL (C - (j+1)) (⟨j+1,es++[e],by omega,rfl,by simp;omega,by simp [heF,List.range_succ,he],rfl,rfl,rfl⟩)
  ·obtain rfl:j=C:=by omega
   rw [Nat.sub_self,List.replicate_zero,List.append_nil,aIE]
   have e8:hs=(rows++[(⟨bi,es⟩:MR)]).map hdM++List.replicate (R - (i+1)) ⟨none,0,0⟩:=by rw [hhs];simp [hel,Nat.sub_sub]
   repeat refine aQ ?_
   rw [e8]
   refine dF (φ:=allM (rows++[(⟨bi,es⟩:MR)]) k0) (Hv.snocM aA aA) ?_
   refine vS (M':= .blk bo (recs eH ((rows++[(⟨bi,es⟩:MR)]).map hdM++List.replicate (R - (i+1)) ⟨none,0,0⟩)) 70::((rows++[(⟨bi,es⟩:MR)]).map fZ++M0)) (by rw [List.map_append (f:=fZ)];exact aBZ) ?_
   refine gL (R - (i+1)) (⟨i+1,rows++[(⟨bi,es⟩:MR)],by omega,rfl,by simp;omega,fun r hr=>by rcases List.mem_append.1 hr with h|h;exact hrc r h;rw [List.mem_singleton.1 h];exact hel,by rw [List.map_append,hrF,List.range_succ,List.map_append];simp [heF],rfl,rfl,rfl⟩)
 ·obtain rfl:i=R:=by omega
  have hz:List.replicate (i - i) (⟨none,0,0⟩:HD)=[]:=by rw [Nat.sub_self];rfl
  rw [hz,List.append_nil,aWN]
  repeat refine aQ ?_
  refine iR rfl rfl (⟨bo,rows,rfl,hrl,hrc,hrF,rfl,rfl⟩)
end
theorem nW (q:Rat):q.num.sign=0↔q=0:=⟨fun h=>Rat.num_eq_zero.1 (Int.sign_eq_zero_iff_zero.1 h),fun h=>by rw [h];rfl⟩
theorem Hv.stR {I:List aL} {es:List RE} {e:RE} {i:Int} {k:Nat} (h1:aP es k∈I) (h2:bL e k∈I):Hv I (aP (st es i e) k):=⟨fun X w hw=>⟨fun x hx=>by
 rcases List.mem_or_eq_of_mem_set hx with hx|hx
 ·exact (hw _ h1:AllR es k X w).go x hx
 ·rw [hx];exact hw _ h2⟩⟩
theorem vJ {es:List RE} {e:RE} {i t:Nat} (hi:i < es.length):gt (st es (i:Int) e) (t:Int)=if t=i then e else gt es (t:Int):=by
 rw [aKQ e ⟨by omega,by omega⟩ (by omega)]
 by_cases h:t=i
 ·rw [if_pos h,if_pos (by omega)]
 ·rw [if_neg h,if_neg (by omega)]
section
variable {X:List Nat} {w0:World} {M0:List Ent} {I0:List aL}
theorem bAE {i j:Int}:CD Tryz.prog 238 [.int .i64 i, .int .i64 j] X w0 M0 I0 (RQ (if i=j then 1 else 0) 0 M0 I0):=by
 have h1:=fun M0 I0=>vF (X:=X) (w0:=w0) (M0:=M0) (I0:=I0) (x:=1) (by decide) (k:=0) (by decide)
 have h0:=fun M0 I0=>vF (X:=X) (w0:=w0) (M0:=M0) (I0:=I0) (x:=0) (by decide) (k:=0) (by decide)
 refine aM Tryz.func238 rfl Tryz.ntmps238 rfl ?_
 refine gG ?_
 refine cK (fun b2=>?_)
 by_cases h:i=j
 ·rw [if_pos h]
  repeat refine aQ ?_
  refine fK rfl (h1 _ _) (fun e he=>?_)
  repeat refine aQ ?_
  refine aO (cs:=eR e) (.inl rfl) rfl rfl aA rfl M0 (bL e 0::I0) aF aC ⟨rfl,e,rfl,he,rfl⟩
 ·rw [if_neg h]
  repeat refine aQ ?_
  refine fK rfl (h0 _ _) (fun e he=>?_)
  repeat refine aQ ?_
  refine aO (cs:=eR e) (.inl rfl) rfl rfl aA rfl M0 (bL e 0::I0) aF aC ⟨rfl,e,rfl,he,rfl⟩
theorem aCF {a b:RE} {k m:Nat} (hk:k+m≤500000000000) (hb0:b.q≠0) (ha:Hv I0 (bL a k)) (hb:Hv I0 (bL b m)):
  CD Tryz.prog 272 [rv a,rv b] X w0 M0 I0 (RQ (a.q / b.q) (k+m) M0 I0):=by
 refine aM Tryz.func272 rfl Tryz.ntmps272 rfl ?_
 refine gG ?_
 refine gN rfl (fun b1=>?_)
 refine gN rfl (fun b2=>?_)
 refine cK (fun b3=>?_)
 repeat refine aQ ?_
 (refine bD rfl (aFR hk hb0 ha hb) ?_;rintro _ _ _ ⟨rfl,e,rfl,he,rfl⟩;refine aN ?_)
 repeat refine aQ ?_
 refine cK (fun b4=>?_)
 repeat refine aQ ?_
 refine aO (cs:=eR e) (.inl rfl) rfl rfl aA rfl M0 (bL e (k+m)::I0) aF aC ⟨rfl,e,rfl,he,rfl⟩
theorem aCH {b1 b2:Nat} {es os:List RE} {κ:RE} {kz h m fr n:Nat} {M1:List Ent} (hn:n≤1000) (hK:kz+(m+h)+1≤400000000000) (hes:es.length=n) (hos:os.length=n) (hfr:fr≤n)
  (he:aP es kz∈I0) (ho:aP os h∈I0) (hκ:bL κ m∈I0) (hM:M0= .blk b1 (recs eR es) 77:: .blk b2 (recs eR os) 77::M1):
  CD Tryz.prog 273 [.slice (some ⟨b1,0,none⟩) n n, .slice (some ⟨b2,0,none⟩) n n,rv κ, .int .i64 (fr:Int)] X w0 M0 I0 (fun v M I=>v= .tuple #[]∧∃es':List RE,es'.length=n∧(∀t:Nat,t < n→(gt es' (t:Int)).q=if t < fr then (gt es (t:Int)).q else (gt es (t:Int)).q - κ.q*(gt os (t:Int)).q)∧M= .blk b1 (recs eR es') 77:: .blk b2 (recs eR os) 77::M1∧I=aP es' (kz+(m+h)+1)::I0):=by
 subst hM
 refine zW Tryz.func273 rfl Tryz.ntmps273 rfl ?_
 refine gG ?_
 refine gN rfl (fun bk=>?_)
 repeat refine aQ ?_
 refine bG (φ:=aP es (kz+(m+h)+1)) (Hv.allMono he (by omega)) ?_
 refine lX [0,1,6] rfl (fun k G M I=>∃(j:Nat) (e1:List RE),fr≤j∧j≤n∧k=n - j∧e1.length=n∧(∀t:Nat,j≤t→gt e1 (t:Int)=gt es (t:Int))∧(∀t:Nat,t < j→(gt e1 (t:Int)).q=if t < fr then (gt es (t:Int)).q else (gt es (t:Int)).q - κ.q*(gt os (t:Int)).q)∧G=[(8, .int .i64 j)]∧M= .blk bk (eR κ) 77:: .blk b1 (recs eR e1) 77:: .blk b2 (recs eR os) 77::M1∧I=aP e1 (kz+(m+h)+1)::I0) (n - fr) (⟨fr,es,by omega,hfr,rfl,hes,fun _ _=>rfl,fun t ht=>by rw [if_pos ht],rfl,rfl,rfl⟩) ?_
 rintro kk G M I ⟨j,e1,hj1,hj,rfl,hel,hkeep,hdone,rfl,rfl,rfl⟩
 by_cases hjn:j < n
 ·have hgj:gt e1 (j:Int)=gt es (j:Int):=hkeep j (Nat.le_refl _)
  have hvj:Hv (aP e1 (kz+(m+h)+1)::I0) (bL (gt os (j:Int)) h):=(Hv.all (i:=(j:Int)) ho (by omega) (Nat.le_refl _)).cons
  have hve:Hv (aP e1 (kz+(m+h)+1)::I0) (bL (gt e1 (j:Int)) kz):=by rw [hgj];exact (Hv.all (i:=(j:Int)) he (by omega) (Nat.le_refl _)).cons
  have hvk:Hv (aP e1 (kz+(m+h)+1)::I0) (bL κ m):=(Hv.mem hκ).cons
  have hS:=nM (X:=X) (w0:=w0) (M0:= .blk bk (eR κ) 77:: .blk b1 (recs eR e1) 77:: .blk b2 (recs eR os) 77::M1) (e:=gt os (j:Int)) (k:=h) (by omega) hvj
  by_cases h0:(gt os (j:Int)).q=0
  ·rw [(nW _).2 h0] at hS
   repeat refine aQ ?_
   (refine bD rfl (hS) ?_;rintro _ _ _ ⟨rfl,rfl,rfl⟩;refine aN ?_)
   repeat refine aQ ?_
   refine gL (n - (j+1)) (⟨j+1,e1,by omega,by omega,rfl,hel,fun t ht=>hkeep t (by omega),fun t ht=>?_,rfl,rfl,rfl⟩)
   by_cases htj:t=j
   ·subst htj
    rw [if_neg (by omega),hgj,h0,Rat.mul_zero,Rat.sub_eq_add_neg,Rat.neg_zero,Rat.add_zero]
   ·exact hdone t (by omega)
  ·have hs0:¬(gt os (j:Int)).q.num.sign=0:=fun h=>h0 ((nW _).1 h)
   generalize (gt os (j:Int)).q.num.sign=sg at*
   repeat refine aQ ?_
   (refine bD rfl (hS) ?_;rintro _ _ _ ⟨rfl,rfl,rfl⟩;refine aN ?_)
   repeat refine aQ ?_
   (repeat refine aG ?_);refine aW 2 [0,1,2,3,4,5,6,7,8,9,10,11,12,13,14] [2,2,2,2,2,1,1,2,2,2,1,0,0,0,0] mixed (by kernel_rfl) ?_
   repeat refine aQ ?_
   refine fK rfl (tK (k:=m) (m:=h) (by omega) hvk hvj) (fun e2 he2=>?_)
   refine fK rfl (aQO (k:=kz) (m:=m+h) (by omega) hve.cons (Hv.mem (List.Mem.head _))) (fun e3 he3=>?_)
   repeat refine yXf ?_
   refine fJ (vs:=eR e3) rfl rfl rfl (Ones.one e3) jJ (StAts.r e3 (by omega) rfl) rfl rfl ⟨okF,?_⟩
   repeat refine aQ ?_
   refine dF (φ:=aP (st e1 (j:Int) e3) (kz+(m+h)+1)) (Hv.stR aA aA) ?_
   refine gL (n - (j+1)) (⟨j+1,st e1 (j:Int) e3,by omega,by omega,rfl,by rw [dK];exact hel,fun t ht=>?_,fun t ht=>?_,rfl,rfl,rfl⟩)
   ·rw [vJ (by omega),if_neg (by omega)];exact hkeep t (by omega)
   ·rw [vJ (by omega)]
    by_cases htj:t=j
    ·subst htj
     rw [if_pos rfl,if_neg (by omega),he3,he2,hgj]
    ·rw [if_neg htj];exact hdone t (by omega)
 ·obtain rfl:j=n:=by omega
  repeat refine aQ ?_
  refine jH (by first|exact .inl rfl|exact .inr rfl) rfl _ _ aF aC (⟨rfl,e1,hel,hdone,rfl,rfl⟩)
end
end Go.Proofs.YtmmmfphealhapaaGreat
namespace Go.Fx
def Rest (P:Program) (l:List Oper) (Q:Exit→Act→World→Prop) (Cs:Nat→World→Prop) (fuel k:Nat) (listed:Array Bool):Exit→Act→World→Prop
 | .normal,a,w=>sD P l.toArray Q Cs fuel k listed a w
 |_,_,_=>False
section
variable {P:Program} {n:Nat} {Q:Exit→Act→World→Prop} {G:Env} {w:World} {l:List Oper} {Cs:Nat→World→Prop}
theorem aRY {fuel fuel' k:Nat} {listed listed':Array Bool} (p ms:List Nat) (hm:∀s w,Cs s w→Cs (s+1) w) (hs:Region.noSelect l.toArray=true) (hok:sM l.toArray p ms listed=some listed') (hf:fuel'=fuel+p.length) (hsz:listed.size=l.toArray.size) (hC:Cs k w)
  (h:R P n l (Rest P l Q Cs fuel (k+aEP l.toArray p) listed') (.any Cs k ms) (pick l p) G w):N n (Rest P l Q Cs fuel' k listed) .normal G w:=⟨fun a ha=>by
 subst hf
 exact sK hm hs p ms k listed a w hC hsz hok (fun _ _ _ _ hq=>hq) (h.go a ha)⟩
theorem aTD {fuel k:Nat} {listed:Array Bool} (p ms:List Nat) (hm:∀s w,Cs s w→Cs (s+1) w) (hs:Region.noSelect l.toArray=true) (hok:iL l.toArray p ms listed=true) (hf:fuel=p.length) (hsz:listed.size=l.toArray.size) (hC:Cs k w)
  (h:R P n l Q (.any Cs k ms) (pick l p) G w):N n (Rest P l Q Cs fuel k listed) .normal G w:=⟨fun a ha=>by
 subst hf
 exact jR hm hs p ms k listed a w hC hsz hok (h.go a ha)⟩
theorem oO {fuel k i:Nat} {listed:Array Bool} {o:Oper} {a:Act} (hi:l.toArray[i]?=some o) (hk:iO o.op=false)
  (h:wpM P l.toArray (Rest P l Q Cs fuel (k+1) (listed.setIfInBounds i true)) (.any Cs k []) (pick l [i]) a w):
  wpOp P l.toArray QF i (fun a' w'=>Cs (k+eAt l.toArray i) w'∧sD P l.toArray Q Cs fuel (k+eAt l.toArray i) (listed.setIfInBounds i true) a' w') a w:=by
 have hg:nth l i=o:=aIU l i o (by simpa using hi)
 simp only [pick,hg] at h
 rw [aAY hi hk]
 unfold wpOp
 simp only [hi]
 by_cases hw:Region.wanted o (yielded l.toArray a.tmps)=true
 ·rw [if_pos hw]
  rcases h.1 hw with ⟨hk2,_⟩|⟨_,hk2⟩
  ·rw [hk] at hk2;cases hk2
  ·exact .inl (Oper.wp_mono (fun a' w' ⟨h1,h2⟩=>⟨h1,h2⟩) hk2)
 ·rw [if_neg hw]
  obtain ⟨hh1,hh2⟩:=h.2 (by simpa using hw)
  simp only [Mode.held,hk,cond_false] at hh1
  exact ⟨hh1,hh2⟩
def uK (ops:Array Oper) (i:Nat):Bool:=
 match ops[i]? with
 |some o=> !iO o.op
 |none=>false
theorem aNE {fuel k i j:Nat} {listed:Array Bool} (hr:(Region.ready .any l.toArray listed==[i,j] && uK l.toArray i && uK l.toArray j)=true)
  (h1:R P n l (Rest P l Q Cs fuel (k+1) (listed.setIfInBounds i true)) (.any Cs k []) (pick l [i]) G w)
  (h2:R P n l (Rest P l Q Cs fuel (k+1) (listed.setIfInBounds j true)) (.any Cs k []) (pick l [j]) G w):N n (Rest P l Q Cs (fuel+1) k listed) .normal G w:=⟨fun a ha=>by
 simp only [Bool.and_eq_true,beq_iff_eq] at hr
 obtain ⟨⟨hr,e1⟩,e2⟩:=hr
 have get:∀x,uK l.toArray x=true→∃o,l.toArray[x]?=some o∧iO o.op=false:=fun x hx=>by
  unfold uK at hx
  cases ho:l.toArray[x]? with
  |none=>simp [ho] at hx
  |some o=>simp [ho] at hx;exact ⟨o,rfl,hx⟩
 obtain ⟨o1,ho1,hk1⟩:=get i e1
 obtain ⟨o2,ho2,hk2⟩:=get j e2
 refine ⟨fun h0=>(by rw [hr] at h0;cases h0),fun x hx=>?_⟩
 rw [hr] at hx
 simp only [List.mem_cons,List.not_mem_nil,or_false] at hx
 rcases hx with rfl|rfl
 ·exact oO ho1 hk1 (h1.go a ha)
 ·exact oO ho2 hk2 (h2.go a ha)⟩
theorem aLG {fuel k i j m:Nat} {listed:Array Bool} (hr:(Region.ready .any l.toArray listed==[i,j,m] && uK l.toArray i && uK l.toArray j && uK l.toArray m)=true)
  (h1:R P n l (Rest P l Q Cs fuel (k+1) (listed.setIfInBounds i true)) (.any Cs k []) (pick l [i]) G w)
  (h2:R P n l (Rest P l Q Cs fuel (k+1) (listed.setIfInBounds j true)) (.any Cs k []) (pick l [j]) G w)
  (h3:R P n l (Rest P l Q Cs fuel (k+1) (listed.setIfInBounds m true)) (.any Cs k []) (pick l [m]) G w):N n (Rest P l Q Cs (fuel+1) k listed) .normal G w:=⟨fun a ha=>by
 simp only [Bool.and_eq_true,beq_iff_eq] at hr
 obtain ⟨⟨⟨hr,e1⟩,e2⟩,e3⟩:=hr
 have get:∀x,uK l.toArray x=true→∃o,l.toArray[x]?=some o∧iO o.op=false:=fun x hx=>by
  unfold uK at hx
  cases ho:l.toArray[x]? with
  |none=>simp [ho] at hx
  |some o=>simp [ho] at hx;exact ⟨o,rfl,hx⟩
 obtain ⟨o1,ho1,hk1⟩:=get i e1
 obtain ⟨o2,ho2,hk2⟩:=get j e2
 obtain ⟨o3,ho3,hk3⟩:=get m e3
 refine ⟨fun h0=>(by rw [hr] at h0;cases h0),fun x hx=>?_⟩
 rw [hr] at hx
 simp only [List.mem_cons,List.not_mem_nil,or_false] at hx
 rcases hx with rfl|rfl|rfl
 ·exact oO ho1 hk1 (h1.go a ha)
 ·exact oO ho2 hk2 (h2.go a ha)
 ·exact oO ho3 hk3 (h3.go a ha)⟩
theorem bEB {id:Nat} (Cs:Nat→World→Prop) (hx:P.follows .mixedOrders=true) (h:N n (Rest P l Q Cs l.length 0 (Array.replicate l.length false)) .normal G w.drew):T P n (.region id l.toArray true) Q G w:=⟨fun a ha=>by
 refine wp_region_any hx ?_
 have:=h.go a ha
 have e:l.toArray.size=l.length:=by simp
 rw [e]
 exact sF _ _ _ _ _ this⟩
end
section
variable {P:Program} {n:Nat} {Q:Exit→Act→World→Prop} {G:Env} {X:List Nat} {w0:World} {M M1:List Ent} {I I1:List aL} {l:List Oper}
theorem lU {id:Nat} (M1:List Ent) (I1:List aL) (hx:P.follows .mixedOrders=true) (h:ND n (Rest P l Q (wL X w0 M1 I1) l.length 0 (Array.replicate l.length false)) .normal G X w0 M I):TD P n (.region id l.toArray true) Q G X w0 M I:=
 ⟨fun w hw=>bEB (wL X w0 M1 I1) hx (h.go w.drew hw.drew)⟩
theorem cB {fuel fuel' k:Nat} {listed listed':Array Bool} (p ms:List Nat) (hM:SubP M M1) (hI:Inc I I1) (hs:Region.noSelect l.toArray=true) (hok:sM l.toArray p ms listed=some listed') (hf:fuel'=fuel+p.length) (hsz:listed.size=l.toArray.size)
  (h:RD P n l (Rest P l Q (wL X w0 M1 I1) fuel (k+aEP l.toArray p) listed') (.any (wL X w0 M1 I1) k ms) (pick l p) G X w0 M I):ND n (Rest P l Q (wL X w0 M1 I1) fuel' k listed) .normal G X w0 M I:=
 ⟨fun w hw=>aRY p ms (fun _ _ h=>h) hs hok hf hsz (hw.weak hM hI) (h.go w hw)⟩
theorem aY {fuel k:Nat} {listed:Array Bool} (p ms:List Nat) (hM:SubP M M1) (hI:Inc I I1) (hs:Region.noSelect l.toArray=true) (hok:iL l.toArray p ms listed=true) (hf:fuel=p.length) (hsz:listed.size=l.toArray.size)
  (h:RD P n l Q (.any (wL X w0 M1 I1) k ms) (pick l p) G X w0 M I):ND n (Rest P l Q (wL X w0 M1 I1) fuel k listed) .normal G X w0 M I:=
 ⟨fun w hw=>aTD p ms (fun _ _ h=>h) hs hok hf hsz (hw.weak hM hI) (h.go w hw)⟩
theorem aS {fuel k i j:Nat} {listed:Array Bool} (hr:(Region.ready .any l.toArray listed==[i,j] && uK l.toArray i && uK l.toArray j)=true)
  (h1:RD P n l (Rest P l Q (wL X w0 M1 I1) fuel (k+1) (listed.setIfInBounds i true)) (.any (wL X w0 M1 I1) k []) (pick l [i]) G X w0 M I)
  (h2:RD P n l (Rest P l Q (wL X w0 M1 I1) fuel (k+1) (listed.setIfInBounds j true)) (.any (wL X w0 M1 I1) k []) (pick l [j]) G X w0 M I):ND n (Rest P l Q (wL X w0 M1 I1) (fuel+1) k listed) .normal G X w0 M I:=
 ⟨fun w hw=>aNE hr (h1.go w hw) (h2.go w hw)⟩
theorem iM {fuel k i j m:Nat} {listed:Array Bool} (hr:(Region.ready .any l.toArray listed==[i,j,m] && uK l.toArray i && uK l.toArray j && uK l.toArray m)=true)
  (h1:RD P n l (Rest P l Q (wL X w0 M1 I1) fuel (k+1) (listed.setIfInBounds i true)) (.any (wL X w0 M1 I1) k []) (pick l [i]) G X w0 M I)
  (h2:RD P n l (Rest P l Q (wL X w0 M1 I1) fuel (k+1) (listed.setIfInBounds j true)) (.any (wL X w0 M1 I1) k []) (pick l [j]) G X w0 M I)
  (h3:RD P n l (Rest P l Q (wL X w0 M1 I1) fuel (k+1) (listed.setIfInBounds m true)) (.any (wL X w0 M1 I1) k []) (pick l [m]) G X w0 M I):ND n (Rest P l Q (wL X w0 M1 I1) (fuel+1) k listed) .normal G X w0 M I:=
 ⟨fun w hw=>aLG hr (h1.go w hw) (h2.go w hw) (h3.go w hw)⟩
end
end Go.Fx
namespace Go.Proofs.YtmmmfphealhapaaGreat
open Go Go.Fx
abbrev Mt:=List (List Rat)
def rowAt (A:Mt) (i:Nat):List Rat:=A.getD i []
def at2 (A:Mt) (i j:Nat):Rat:=(rowAt A i).getD j 0
def swp (A:Mt) (r k:Nat):Mt:=(A.set r (rowAt A k)).set k (rowAt A r)
def jC (j:Nat) (κ:Rat) (l:List Rat):List Rat:=l.mapIdx (fun c x=>if c < j then x else κ*x)
def kS (j:Nat) (κ:Rat) (p:List Rat) (l:List Rat):List Rat:=l.mapIdx (fun c x=>if c < j then x else x - κ*p.getD c 0)
def mG (A:Mt) (j:Nat):Nat→Nat→Nat
 |0,k=>k
 |f+1,k=>if k < A.length∧at2 A k j=0 then mG A j f (k+1) else k
def xS (A:Mt) (r j:Nat) (pr:List Rat):Mt:=A.mapIdx (fun i row=>if i=r then row else if row.getD j 0=0 then row else kS j (row.getD j 0) pr row)
def wJ (A:Mt) (r j k:Nat):Mt:=
 xS ((swp A r k).set r (jC j (1 / at2 (swp A r k) r j) (rowAt (swp A r k) r))) r j (jC j (1 / at2 (swp A r k) r j) (rowAt (swp A r k) r))
def aMU (s:Mt × List Nat) (j:Nat):Mt × List Nat:=
 if mG s.1 j (s.1.length - s.2.length) s.2.length < s.1.length then (wJ s.1 s.2.length j (mG s.1 j (s.1.length - s.2.length) s.2.length),s.2++[j]) else s
def eQ (A:Mt) (n:Nat):Mt × List Nat:=(List.range n).foldl aMU (A,[])
theorem uH (A:Mt) (n:Nat):eQ A (n+1)=aMU (eQ A n) n:=by
 unfold eQ
 rw [List.range_succ,List.foldl_append]
 rfl
abbrev qs (es:List RE):List Rat:=es.map (·.q)
abbrev mq (rows:List MR):Mt:=rows.map (fun r=>qs r.es)
theorem dP {α:Type} [Inhabited α] {ms:List α} {i:Nat} (h:i < ms.length):gt ms (i:Int)=ms[i]:=fH h
theorem nE {rows:List MR} {i:Nat} (h:i < rows.length):rowAt (mq rows) i=qs (gt rows (i:Int)).es:=by
 unfold rowAt
 rw [dP h]
 simp [List.getD,h]
theorem iK {es:List RE} {j:Nat} (h:j < es.length):(qs es).getD j 0=(gt es (j:Int)).q:=by
 rw [dP h]
 simp [List.getD,h]
theorem yQ {rows:List MR} {i j:Nat} (h:i < rows.length) (hj:j < (gt rows (i:Int)).es.length):at2 (mq rows) i j=(gt (gt rows (i:Int)).es (j:Int)).q:=by
 unfold at2
 rw [nE h,iK hj]
theorem aET {rows:List MR} {i:Nat} {r:MR}:mq (rows.set i r)=(mq rows).set i (qs r.es):=by simp [List.map_set]
theorem aAV {A:Mt} {j:Nat}:∀(f k:Nat),k+f=A.length→k≤mG A j f k∧mG A j f k≤A.length∧(mG A j f k < A.length→at2 A (mG A j f k) j≠0)
 |0,k,h=>⟨Nat.le_refl _,by simp [mG];omega,fun h'=>by simp [mG] at h';omega⟩
 |f+1,k,h=>by
  unfold mG
  by_cases hc:k < A.length∧at2 A k j=0
  ·rw [if_pos hc]
   obtain ⟨h1,h2,h3⟩:=aAV (A:=A) (j:=j) f (k+1) (by omega)
   exact ⟨by omega,h2,h3⟩
  ·rw [if_neg hc]
   exact ⟨Nat.le_refl _,by omega,fun hk h0=>hc ⟨hk,h0⟩⟩
/- permutations -/
theorem qC {α:Type}:∀(l:List α) (i:Nat) (h:i < l.length),l.Perm (l[i]::l.eraseIdx i)
 |[],_,h=>by simp at h
 |x::r,0,_=>by simp
 |x::r,i+1,h=>by
  have ih:=qC r i (by simpa using h)
  simp only [List.getElem_cons_succ,List.eraseIdx_cons_succ]
  exact (List.Perm.cons _ ih).trans (List.Perm.swap _ _ _)
def jX {α:Type} (l:List α) (i j:Nat):List α:=(l.eraseIdx (max i j)).eraseIdx (min i j)
theorem qU {α:Type} (l:List α) (i j:Nat) (hi:i < l.length) (hj:j < l.length) (hij:i≠j):l.Perm (l[i]::l[j]::jX l i j):=by
 rcases Nat.lt_or_ge i j with h|h
 ·have e1:max i j=j:=by omega
  have e2:min i j=i:=by omega
  unfold jX
  rw [e1,e2]
  have h1:=qC l j hj
  have hl:i < (l.eraseIdx j).length:=by rw [List.length_eraseIdx_of_lt hj];omega
  have h2:=qC (l.eraseIdx j) i hl
  rw [List.getElem_eraseIdx_of_lt hl h] at h2
  exact (h1.trans (List.Perm.cons _ h2)).trans (List.Perm.swap _ _ _)
 ·have e1:max i j=i:=by omega
  have e2:min i j=j:=by omega
  unfold jX
  rw [e1,e2]
  have h1:=qC l i hi
  have hl:j < (l.eraseIdx i).length:=by rw [List.length_eraseIdx_of_lt hi];omega
  have h2:=qC (l.eraseIdx i) j hl
  rw [List.getElem_eraseIdx_of_lt hl (by omega)] at h2
  exact h1.trans (List.Perm.cons _ h2)
theorem rW {α:Type} (l:List α) (i j:Nat) (x:α) (hij:i≠j):jX (l.set i x) i j=jX l i j:=by
 unfold jX
 rcases Nat.lt_or_ge i j with h|h
 ·have e1:max i j=j:=by omega
  have e2:min i j=i:=by omega
  rw [e1,e2]
  apply List.ext_getElem?
  intro n
  simp only [List.getElem?_eraseIdx,List.getElem?_set]
  split <;>split <;>(try split) <;>first|rfl|omega
 ·have e1:max i j=i:=by omega
  rw [e1,List.eraseIdx_set_eq]
theorem aGB {α:Type} (l:List α) (i:Nat) (x:α):(l.set i x).eraseIdx i=l.eraseIdx i:=List.eraseIdx_set_eq ..
theorem xL {rows:List MR} {i:Nat} {es:List RE} (hi:i < rows.length) (hl:es.length=(gt rows (i:Int)).es.length):recs eM (rows.set i ⟨(gt rows (i:Int)).b,es⟩)=recs eM rows:=by
 have h1:=qV (enc:=eM) rows i ⟨(gt rows (i:Int)).b,es⟩ hi
 rw [←h1]
 have e:eM ⟨(gt rows (i:Int)).b,es⟩=eM (gt rows (i:Int)):=by simp [eM,hl]
 rw [e,qV (enc:=eM) rows i _ hi,dP hi,List.set_getElem_self]
end Go.Proofs.YtmmmfphealhapaaGreat

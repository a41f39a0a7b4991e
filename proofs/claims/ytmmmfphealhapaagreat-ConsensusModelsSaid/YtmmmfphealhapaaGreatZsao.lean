/- fiducialref02: reduced, Valid, Value, Whole, Sign, Neg fiducialref02: Add, Sub, Mul, Divid -/
import Derived.Test.YtmmmfphealhapaaGreatZsal
import Derived.Test.YtmmmfphealhapaaGreatZsan
import Derived.Test.YtmmmfphealhapaaGreatZsak
set_option linter.unusedSimpArgs false
set_option linter.unusedVariables false
set_option maxRecDepth 100000
set_option maxHeartbeats 4000000
namespace Go.Proofs.YtmmmfphealhapaaGreat
open Go Go.Fx
section
variable {X:List Nat} {w0:World} {M0:List Ent} {I0:List aM}
theorem wK {u v:Value} {n d:Int} {k:Nat} (hk:k≤150000000000) (hd0:d≠0) (hu:gW u n k∈I0) (hv:gW v d k∈I0):
  CD Tryz.prog 215 [u,v] X w0 M0 I0 (RQ (Rat.divInt n d) k M0 I0):=by
 have hS:=fun M0 I0=>wD (X:=X) (w0:=w0) (M0:=M0) (I0:=I0) (u:=v) (z:=d) (k:=k) (by omega)
 refine bZ hu (fun q cq e hc hy=>?_)
 subst e
 refine bZ (List.Mem.tail _ hv) (fun q' cq' e hc' hz=>?_)
 subst e
 obtain ⟨r,hr⟩:∃r,r=Rat.divInt n d:=⟨_,rfl⟩
 obtain ⟨g0,hg0⟩:∃g:Int,g=(Int.gcd n d:Int):=⟨_,rfl⟩
 obtain ⟨g,hg⟩:∃g:Int,g=if d < 0 then -g0 else g0:=⟨_,rfl⟩
 obtain ⟨e1,e2,e3⟩:=aQK (n:=n) (d:=d) (g:=g) hd0 (by rw [hg,hg0])
 rw [←hr] at e1 e2 ⊢
 have hD1:=fun u v M0 I0 h1 h2=>aDR (X:=X) (w0:=w0) (M0:=M0) (I0:=I0) (u:=u) (v:=v) (y:=n) (z:=g) (k:=k) (m:=k+k) (by omega) (by omega) e3 h1 h2
 have hD2:=fun u v M0 I0 h1 h2=>aDR (X:=X) (w0:=w0) (M0:=M0) (I0:=I0) (u:=u) (v:=v) (y:=d) (z:=g) (k:=k) (m:=k+k) (by omega) (by omega) e3 h1 h2
 rw [e1] at hD1
 rw [e2] at hD2
 obtain ⟨f1,hf1⟩:∃f:Int,f=n.fmod g:=⟨_,rfl⟩
 obtain ⟨f2,hf2⟩:∃f:Int,f=d.fmod g:=⟨_,rfl⟩
 rw [←hf1] at hD1
 rw [←hf2] at hD2
 have hN:=fun u M0 I0=>aHS (X:=X) (w0:=w0) (M0:=M0) (I0:=I0) (u:=u) (z:=g0) (k:=k+k) (by omega)
 have hG:=fun u v M0 I0=>aPC (X:=X) (w0:=w0) (M0:=M0) (I0:=I0) (u:=u) (v:=v) (y:=n) (z:=d) (k0:=k) (m:=k) (by omega) (by omega)
 rw [←hg0] at hG
 clear e1 e2 hf1 hf2 hg0 hr
 by_cases hneg:d < 0
 ·have hs:d.sign= -1:=Int.sign_eq_neg_one_of_neg hneg
  rw [hs] at hS
  rw [if_pos hneg] at hg
  rw [←hg] at hN
  clear hg hneg
  unfold iv at*
  refine aN Tryz.func215 rfl Tryz.ntmps215 rfl ?_
  refine iH ?_
  refine gU rfl (fun b=>?_)
  refine gU rfl (fun b2=>?_)
  refine dS (fun b4=>?_)
  repeat refine aR ?_
  (refine aQ rfl (hG _ _ _ _ aA aA) ?_;rintro _ _ _ ⟨rfl,rfl⟩;refine aL ?_;refine aW (List.Mem.head _) (fun q3 c3 e__ hc3 hz3=>?_);subst e__)
  unfold iv
  repeat refine aR ?_
  refine dS (fun b5=>?_)
  repeat refine aR ?_
  refine dK rfl (hS _ _ aA) ?_
  repeat refine aR ?_
  (refine aQ rfl (hN _ _ _ aA) ?_;rintro _ _ _ ⟨rfl,rfl⟩;refine aL ?_;refine aW (List.Mem.head _) (fun q6 c6 e__ hc6 hz6=>?_);subst e__)
  unfold iv
  repeat refine aR ?_
  (refine aQ rfl (hD1 _ _ _ _ aA aA) ?_;rintro _ _ _ ⟨rfl,v1,v2,rfl,rfl⟩;refine aL ?_)
  refine aW (u:=v1) aA (fun q7 c7 e7 hc7 hz7=>?_)
  subst e7
  refine aW (u:=v2) aA (fun q8 c8 e8 hc8 hz8=>?_)
  subst e8
  unfold iv
  repeat refine aR ?_
  refine dS (fun b6=>?_)
  refine dS (fun b7=>?_)
  repeat refine aR ?_
  (refine aQ rfl (hD2 _ _ _ _ aA aA) ?_;rintro _ _ _ ⟨rfl,v3,v4,rfl,rfl⟩;refine aL ?_)
  refine aW (u:=v3) aA (fun q9 c9 e9 hc9 hz9=>?_)
  subst e9
  refine aW (u:=v4) aA (fun q10 c10 e10 hc10 hz10=>?_)
  subst e10
  unfold iv
  repeat refine aR ?_
  refine dS (fun b8=>?_)
  refine dS (fun b9=>?_)
  repeat refine aR ?_
  (refine aC rfl (fun _=>bF (pvs:=([vI q7 c7 r.num,vI q9 c9 r.den]).zipIdx.map (fun p=>(p.2,p.1))) (cells:=eR ⟨r,q7,c7,q9,c9⟩) rfl rfl) rfl rfl ?_)
  repeat refine aR ?_
  refine mG (q:=r) (k:=k) (p1:=q7) (c1:=c7) (p2:=q9) (c2:=c9) aA aA (Nat.le_refl _) (Nat.le_refl _) ?_
  refine aT (cs:=eR ⟨r,q7,c7,q9,c9⟩) (.inl rfl) rfl rfl aA rfl M0 (bW ⟨r,q7,c7,q9,c9⟩ k::I0) aF aD ⟨rfl,⟨r,q7,c7,q9,c9⟩,rfl,rfl,rfl⟩
 ·have hs:d.sign=1:=Int.sign_eq_one_of_pos (by omega)
  rw [hs] at hS
  rw [if_neg hneg] at hg
  rw [←hg] at hG
  clear hg hneg hN
  unfold iv at*
  refine aN Tryz.func215 rfl Tryz.ntmps215 rfl ?_
  refine iH ?_
  refine gU rfl (fun b=>?_)
  refine gU rfl (fun b2=>?_)
  refine dS (fun b4=>?_)
  repeat refine aR ?_
  (refine aQ rfl (hG _ _ _ _ aA aA) ?_;rintro _ _ _ ⟨rfl,rfl⟩;refine aL ?_;refine aW (List.Mem.head _) (fun q3 c3 e__ hc3 hz3=>?_);subst e__)
  unfold iv
  repeat refine aR ?_
  refine dS (fun b5=>?_)
  repeat refine aR ?_
  refine dK rfl (hS _ _ aA) ?_
  repeat refine aR ?_
  (refine aQ rfl (hD1 _ _ _ _ aA aA) ?_;rintro _ _ _ ⟨rfl,v1,v2,rfl,rfl⟩;refine aL ?_)
  refine aW (u:=v1) aA (fun q7 c7 e7 hc7 hz7=>?_)
  subst e7
  refine aW (u:=v2) aA (fun q8 c8 e8 hc8 hz8=>?_)
  subst e8
  unfold iv
  repeat refine aR ?_
  refine dS (fun b6=>?_)
  refine dS (fun b7=>?_)
  repeat refine aR ?_
  (refine aQ rfl (hD2 _ _ _ _ aA aA) ?_;rintro _ _ _ ⟨rfl,v3,v4,rfl,rfl⟩;refine aL ?_)
  refine aW (u:=v3) aA (fun q9 c9 e9 hc9 hz9=>?_)
  subst e9
  refine aW (u:=v4) aA (fun q10 c10 e10 hc10 hz10=>?_)
  subst e10
  unfold iv
  repeat refine aR ?_
  refine dS (fun b8=>?_)
  refine dS (fun b9=>?_)
  repeat refine aR ?_
  (refine aC rfl (fun _=>bF (pvs:=([vI q7 c7 r.num,vI q9 c9 r.den]).zipIdx.map (fun p=>(p.2,p.1))) (cells:=eR ⟨r,q7,c7,q9,c9⟩) rfl rfl) rfl rfl ?_)
  repeat refine aR ?_
  refine mG (q:=r) (k:=k) (p1:=q7) (c1:=c7) (p2:=q9) (c2:=c9) aA aA (Nat.le_refl _) (Nat.le_refl _) ?_
  refine aT (cs:=eR ⟨r,q7,c7,q9,c9⟩) (.inl rfl) rfl rfl aA rfl M0 (bW ⟨r,q7,c7,q9,c9⟩ k::I0) aF aD ⟨rfl,⟨r,q7,c7,q9,c9⟩,rfl,rfl,rfl⟩
theorem aAZ {x:Int} (hx: -9223372036854775808≤x∧x≤9223372036854775807):CD Tryz.prog 89 [.int .i64 x] X w0 M0 I0 (fun v M I=>M0=M∧I=gW v x 63::I0):=by
 refine aS Tryz.func89 rfl Tryz.ntmps89 rfl ?_
 refine iH ?_
 refine dS (fun b2=>?_)
 repeat refine aR ?_
 (refine aQ rfl (aVV hx) ?_;rintro _ _ _ ⟨rfl,rfl⟩;refine aL ?_;refine aW (List.Mem.head _) (fun q3 c3 e__ hc3 hz3=>?_);subst e__)
 unfold iv
 repeat refine aR ?_
 refine aT (cs:=[.bool (B (x < 0)), .slice q3 (gr x.natAbs).length c3]) (.inl rfl) rfl rfl aA rfl _ _ aF aD ⟨rfl,rfl⟩
theorem aJN {u:Value} {z:Int} {k:Nat} (hk:k≤1000000000000) (hu:gW u z k∈I0):
  CD Tryz.prog 182 [u] X w0 M0 I0 (fun v M I=>M0=M∧I0=I∧v= .bool true):=by
 refine CD.post (K:=fun v M I=>M0=M∧(∃q,aH q (recs eG (gr z.natAbs))::I0=I)∧v= .bool true) (bZ hu (fun q c e hc hz=>?_)) (fun v M I w h hw=>?_)
 case refine_2=>
  obtain ⟨e1,⟨q,e2⟩,e3⟩:=h
  subst e1;subst e2
  exact ⟨_,_,⟨rfl,rfl,e3⟩,hw.inc (Inc.wk Inc.refl)⟩
 subst e
 have hl:=fT hz hk
 refine (aHF (neg:=B (z < 0)) (gs:=gr z.natAbs) (by omega) (List.Mem.head _)).mono (fun v M I h=>⟨h.1,⟨q,h.2.1⟩,?_⟩)
 rw [h.2.2]
 exact congrArg Value.bool (bJ (aBE z))
theorem yQ {e:RE} {k:Nat} (hk:k≤100000000000) (he:Hv I0 (bW e k)):
  CD Tryz.prog 102 [rv e] X w0 M0 I0 (fun v M I=>M0=M∧I0=I∧v= .bool true):=by
 refine CD.post (K:=fun v M I=>M0=M∧gW (vI e.p1 e.c1 e.q.num) e.q.num k::gW (vI e.p2 e.c2 e.q.den) e.q.den k::I0=I∧v= .bool true) (aEX he ?_) (fun v M I w h hw=>?_)
 case refine_2=>
  obtain ⟨e1,e2,e3⟩:=h
  subst e1;subst e2
  exact ⟨_,_,⟨rfl,rfl,e3⟩,hw.inc (Inc.wk (Inc.wk Inc.refl))⟩
 have hV1:=fun M0 I0 h=>aJN (X:=X) (w0:=w0) (M0:=M0) (I0:=I0) (u:=vI e.p1 e.c1 e.q.num) (z:=e.q.num) (k:=k) (by omega) h
 have hV2:=fun M0 I0 h=>aJN (X:=X) (w0:=w0) (M0:=M0) (I0:=I0) (u:=vI e.p2 e.c2 e.q.den) (z:=e.q.den) (k:=k) (by omega) h
 have hS:=fun M0 I0=>wD (X:=X) (w0:=w0) (M0:=M0) (I0:=I0) (u:=vI e.p2 e.c2 e.q.den) (z:=e.q.den) (k:=k) (by omega)
 have hs:((e.q.den:Int)).sign=1:=Int.sign_eq_one_of_pos (by have:=e.q.den_nz;omega)
 rw [hs] at hS
 have hG:=fun M0 I0=>aPC (X:=X) (w0:=w0) (M0:=M0) (I0:=I0) (u:=vI e.p1 e.c1 e.q.num) (v:=vI e.p2 e.c2 e.q.den) (y:=e.q.num) (z:=e.q.den) (k0:=k) (m:=k) (by omega) (by omega)
 rw [aPU] at hG
 have hC:=fun u v M0 I0=>aLR (X:=X) (w0:=w0) (M0:=M0) (I0:=I0) (u:=u) (v:=v) (y:=1) (z:=1) (k:=k+k) (m:=63) (by omega) (by omega)
 have hc:fV 1 1=0:=by decide
 rw [hc] at hC
 refine aS Tryz.func102 rfl Tryz.ntmps102 rfl ?_
 refine iH ?_
 refine gU rfl (fun b=>?_)
 repeat refine aR ?_
 refine dK rfl (hV1 _ _ aA) ?_
 repeat refine aR ?_
 refine dK rfl (hV2 _ _ aA) ?_
 repeat refine aR ?_
 refine dK rfl (hS _ _ aA) ?_
 repeat refine aR ?_
 (refine aQ rfl (hG _ _ aA aA) ?_;rintro _ _ _ ⟨rfl,rfl⟩;refine aL ?_)
 repeat refine aR ?_
 (refine aQ rfl (aAZ (x:=1) (by decide)) ?_;rintro _ _ _ ⟨rfl,rfl⟩;refine aL ?_)
 refine dK rfl (hC _ _ _ _ aA aA) ?_
 repeat refine aR ?_
 refine aP (by first|exact .inl rfl|exact .inr rfl) rfl rfl _ _ aF aD (⟨rfl,rfl,congrArg Value.bool (bJ (by decide))⟩)
theorem lU {e:RE} {k:Nat} (hk:k≤100000000000) (he:Hv I0 (bW e k)):
  CD Tryz.prog 149 [rv e] X w0 M0 I0 (fun v M I=>M0=M∧I0=I∧v=rv e):=by
 refine aS Tryz.func149 rfl Tryz.ntmps149 rfl ?_
 refine iH ?_
 refine gU rfl (fun b=>?_)
 refine dS (fun b2=>?_)
 repeat refine aR ?_
 refine dK rfl (yQ hk he) ?_
 repeat refine aR ?_
 refine aT (cs:=eR e) (.inl rfl) rfl rfl aA rfl M0 I0 aF aD ⟨rfl,rfl,rfl⟩
theorem aFC {x:Int} (hx: -9223372036854775808≤x∧x≤9223372036854775807) {k:Nat} (hk:x.natAbs≤2 ^ k):
  CD Tryz.prog 29 [.int .i64 x] X w0 M0 I0 (RQ (x:Rat) k M0 I0):=by
 have hn:((x:Rat)).num=x:=Rat.num_intCast x
 have hd:(((x:Rat)).den:Int)=1:=by rw [Rat.den_intCast];rfl
 have h1:(1:Int).natAbs≤2 ^ k:=Nat.one_le_two_pow
 obtain ⟨q,hq⟩:∃q:Rat,q=(x:Rat):=⟨_,rfl⟩
 rw [←hq] at hn hd ⊢
 refine aS Tryz.func29 rfl Tryz.ntmps29 rfl ?_
 refine iH ?_
 refine dS (fun b2=>?_)
 repeat refine aR ?_
 (refine aQ rfl (aAZ hx) ?_;rintro _ _ _ ⟨rfl,rfl⟩;refine aL ?_;refine aW (List.Mem.head _) (fun q3 c3 e__ hc3 hz3=>?_);subst e__)
 unfold iv
 refine nP (k2:=k) (z:=x) (List.Mem.tail _ (List.Mem.head _)) hk ?_
 (refine aQ rfl (aAZ (x:=1) (by decide)) ?_;rintro _ _ _ ⟨rfl,rfl⟩;refine aL ?_;refine aW (List.Mem.head _) (fun q4 c4 e__ hc4 hz4=>?_);subst e__)
 unfold iv
 refine nP (k2:=k) (z:=1) (List.Mem.tail _ (List.Mem.head _)) h1 ?_
 rw [←hn,←hd]
 (refine aC rfl (fun _=>bF (pvs:=([vI q3 c3 q.num,vI q4 c4 q.den]).zipIdx.map (fun p=>(p.2,p.1))) (cells:=eR ⟨q,q3,c3,q4,c4⟩) rfl rfl) rfl rfl ?_)
 repeat refine aR ?_
 refine mG (q:=q) (k:=k) (p1:=q3) (c1:=c3) (p2:=q4) (c2:=c4) aA aA (Nat.le_refl _) (Nat.le_refl _) ?_
 refine aT (cs:=eR ⟨q,q3,c3,q4,c4⟩) (.inl rfl) rfl rfl aA rfl M0 (bW ⟨q,q3,c3,q4,c4⟩ k::I0) aF aD ⟨rfl,⟨q,q3,c3,q4,c4⟩,rfl,rfl,rfl⟩
theorem rQ {e:RE} {k:Nat} (hk:k≤100000000000) (he:Hv I0 (bW e k)):
  CD Tryz.prog 74 [rv e] X w0 M0 I0 (fun v M I=>M0=M∧I0=I∧v= .int .i64 e.q.num.sign):=by
 refine aS Tryz.func74 rfl Tryz.ntmps74 rfl ?_
 refine iH ?_
 refine gU rfl (fun b=>?_)
 repeat refine aR ?_
 refine dK rfl (lU hk he) ?_
 refine aC rfl (fun _=>dG rfl) rfl rfl ?_
 refine gY (e:=e) (k:=k) he ?_
 refine dK rfl (wD (z:=e.q.num) (k:=k) (by omega) aA) ?_
 repeat refine aR ?_
 refine iA rfl rfl (⟨rfl,rfl,rfl⟩)
theorem zP {e:RE} {k:Nat} (hk:k≤100000000000) (he:Hv I0 (bW e k)):
  CD Tryz.prog 147 [rv e] X w0 M0 I0 (RQ (-e.q) k M0 I0):=by
 have hN:=fun M0 I0=>aHS (X:=X) (w0:=w0) (M0:=M0) (I0:=I0) (u:=vI e.p1 e.c1 e.q.num) (z:=e.q.num) (k:=k) (by omega)
 rw [←Rat.neg_num] at hN
 have hd:((e.q.den:Int))=((-e.q).den:Int):=by rw [Rat.neg_den]
 refine aS Tryz.func147 rfl Tryz.ntmps147 rfl ?_
 refine iH ?_
 refine gU rfl (fun b=>?_)
 refine dS (fun b2=>?_)
 repeat refine aR ?_
 refine dK rfl (lU hk he) ?_
 refine gY (e:=e) (k:=k) he ?_
 refine dS (fun b3=>?_)
 repeat refine aR ?_
 (repeat refine aG ?_);refine bA 1 [0,1,3,4,2,5,6] [1,0,1,1,0,0,0] mixed (by kernel_rfl) ?_
 repeat refine aR ?_
 (refine aQ rfl (hN _ _ aA) ?_;rintro _ _ _ ⟨rfl,rfl⟩;refine aL ?_;refine aW (List.Mem.head _) (fun q3 c3 e__ hc3 hz3=>?_);subst e__)
 unfold iv
 rw [hd]
 (refine aC rfl (fun _=>bF (pvs:=([vI q3 c3 (-e.q).num,vI e.p2 e.c2 (-e.q).den]).zipIdx.map (fun p=>(p.2,p.1))) (cells:=eR ⟨-e.q,q3,c3,e.p2,e.c2⟩) rfl rfl) rfl rfl ?_)
 repeat refine aR ?_
 refine mG (q:= -e.q) (k:=k) (p1:=q3) (c1:=c3) (p2:=e.p2) (c2:=e.c2) aA aA (Nat.le_refl _) (Nat.le_refl _) ?_
 refine aT (cs:=eR ⟨-e.q,q3,c3,e.p2,e.c2⟩) (.inl rfl) rfl rfl aA rfl M0 (bW ⟨-e.q,q3,c3,e.p2,e.c2⟩ k::I0) aF aD ⟨rfl,⟨-e.q,q3,c3,e.p2,e.c2⟩,rfl,rfl,rfl⟩
end
theorem aJO {n d:Int} (hd:0 < d):(Rat.divInt n d).num.sign=n.sign:=by
 obtain ⟨m,hm,h1,h2,h3,h4⟩:=yB (n:=n) (d:=d) (by omega)
 have hm0:0 < m:=by
  rcases Int.lt_trichotomy m 0 with h|h|h
  ·have:=h4.1 h;omega
  ·exact absurd h hm
  ·exact h
 have:n.sign=((Rat.divInt n d).num*m).sign:=congrArg Int.sign h1
 rw [this,Int.sign_mul,Int.sign_eq_one_of_pos hm0,Int.mul_one]
theorem aVS (p q:Rat):(p - q).num.sign=aFI p q:=by
 rw [Rat.sub_eq_add_neg,yU,aJO (by rw [Rat.neg_den];exact Int.mul_pos (aAK p) (aAK q)),Rat.neg_num,Rat.neg_den,Int.neg_mul,←Int.sub_eq_add_neg,aPP]
 rfl
section
variable {X:List Nat} {w0:World} {M0:List Ent} {I0:List aM}
theorem aFG {a b:RE} {k m:Nat} (hk:k+m+1≤100000000000) (ha:Hv I0 (bW a k)) (hb:Hv I0 (bW b m)):
  CD Tryz.prog 153 [rv a,rv b] X w0 M0 I0 (RQ (a.q+b.q) (k+m+1) M0 I0):=by
 have hM1:=fun u v M0 I0=>sK (X:=X) (w0:=w0) (M0:=M0) (I0:=I0) (u:=u) (v:=v) (y:=a.q.num) (z:=b.q.den) (k0:=k) (m0:=m) (by omega)
 have hM2:=fun u v M0 I0=>sK (X:=X) (w0:=w0) (M0:=M0) (I0:=I0) (u:=u) (v:=v) (y:=b.q.num) (z:=a.q.den) (k0:=m) (m0:=k) (by omega)
 have hM3:=fun u v M0 I0=>sK (X:=X) (w0:=w0) (M0:=M0) (I0:=I0) (u:=u) (v:=v) (y:=a.q.den) (z:=b.q.den) (k0:=k) (m0:=m) (by omega)
 have hA:=fun u v M0 I0=>aQB (X:=X) (w0:=w0) (M0:=M0) (I0:=I0) (u:=u) (v:=v) (y:=a.q.num*b.q.den) (z:=b.q.num*a.q.den) (k:=k+m) (m:=m+k) (c:=k+m+1) (by omega) (by omega) (by omega) (aPJ k m)
 have hR:=fun u v M0 I0=>wK (X:=X) (w0:=w0) (M0:=M0) (I0:=I0) (u:=u) (v:=v) (n:=a.q.num*b.q.den+b.q.num*a.q.den) (d:=a.q.den*b.q.den) (k:=k+m+1) (by omega) (vH _ _)
 rw [←yU] at hR
 refine aN Tryz.func153 rfl Tryz.ntmps153 rfl ?_
 refine iH ?_
 refine gU rfl (fun b1=>?_)
 refine gU rfl (fun b2=>?_)
 refine dS (fun b3=>?_)
 repeat refine aR ?_
 refine dK rfl (lU (k:=k) (by omega) ha) ?_
 refine dS (fun b4=>?_)
 repeat refine aR ?_
 refine dK rfl (lU (k:=m) (by omega) hb) ?_
 refine dS (fun b5=>?_)
 refine gY (e:=a) (k:=k) ha ?_
 refine gY (e:=b) (k:=m) hb.cons.cons ?_
 repeat refine aR ?_
 (repeat refine aG ?_);refine qQ (.blk b5 (eR b) 77:: .blk b4 (eR a) 77::M0) (I0) [0,1,2,3,5,6,7,8,11,12,13,14,4,9,10,15,16,17] [5,4,5,4,5,4,5,4,5,4,5,4,0,0,0,0,0,0] mixed ?_
 repeat refine aR ?_
 (refine aQ rfl (hM1 _ _ _ _ aA aA) ?_;rintro _ _ _ ⟨rfl,rfl⟩;refine aL ?_)
 (refine aQ rfl (hM2 _ _ _ _ aA aA) ?_;rintro _ _ _ ⟨rfl,rfl⟩;refine aL ?_)
 (refine aQ rfl (hA _ _ _ _ aA aA) ?_;rintro _ _ _ ⟨rfl,rfl⟩;refine aL ?_)
 (refine aQ rfl (hM3 _ _ _ _ aA aA) ?_;rintro _ _ _ ⟨rfl,rfl⟩;refine aL ?_)
 refine aJP (k2:=k+m+1) (List.Mem.head _) (by omega) ?_
 (refine aQ rfl (hR _ _ _ _ aA aA) ?_;rintro _ _ _ ⟨rfl,e,rfl,he,rfl⟩;refine aL ?_)
 repeat refine aR ?_
 refine aT (cs:=eR e) (.inl rfl) rfl rfl aA rfl M0 (bW e (k+m+1)::I0) aF aD ⟨rfl,e,rfl,he,rfl⟩
theorem wE {a b:RE} {k m:Nat} (hk:k+m≤100000000000) (ha:Hv I0 (bW a k)) (hb:Hv I0 (bW b m)):
  CD Tryz.prog 151 [rv a,rv b] X w0 M0 I0 (RQ (a.q*b.q) (k+m) M0 I0):=by
 have hM1:=fun u v M0 I0=>sK (X:=X) (w0:=w0) (M0:=M0) (I0:=I0) (u:=u) (v:=v) (y:=a.q.num) (z:=b.q.num) (k0:=k) (m0:=m) (by omega)
 have hM3:=fun u v M0 I0=>sK (X:=X) (w0:=w0) (M0:=M0) (I0:=I0) (u:=u) (v:=v) (y:=a.q.den) (z:=b.q.den) (k0:=k) (m0:=m) (by omega)
 have hR:=fun u v M0 I0=>wK (X:=X) (w0:=w0) (M0:=M0) (I0:=I0) (u:=u) (v:=v) (n:=a.q.num*b.q.num) (d:=a.q.den*b.q.den) (k:=k+m) (by omega) (vH _ _)
 rw [←aFB] at hR
 refine aN Tryz.func151 rfl Tryz.ntmps151 rfl ?_
 refine iH ?_
 refine gU rfl (fun b1=>?_)
 refine gU rfl (fun b2=>?_)
 refine dS (fun b3=>?_)
 repeat refine aR ?_
 refine dK rfl (lU (k:=k) (by omega) ha) ?_
 refine dS (fun b4=>?_)
 repeat refine aR ?_
 refine dK rfl (lU (k:=m) (by omega) hb) ?_
 refine dS (fun b5=>?_)
 refine gY (e:=a) (k:=k) ha ?_
 refine gY (e:=b) (k:=m) hb.cons.cons ?_
 repeat refine aR ?_
 (repeat refine aG ?_);refine qQ (.blk b5 (eR b) 77:: .blk b4 (eR a) 77::M0) (I0) [0,1,2,3,5,6,7,8,4,9,10,11] [3,2,3,2,3,2,3,2,0,0,0,0] mixed ?_
 repeat refine aR ?_
 (refine aQ rfl (hM1 _ _ _ _ aA aA) ?_;rintro _ _ _ ⟨rfl,rfl⟩;refine aL ?_)
 (refine aQ rfl (hM3 _ _ _ _ aA aA) ?_;rintro _ _ _ ⟨rfl,rfl⟩;refine aL ?_)
 (refine aQ rfl (hR _ _ _ _ aA aA) ?_;rintro _ _ _ ⟨rfl,e,rfl,he,rfl⟩;refine aL ?_)
 repeat refine aR ?_
 refine aT (cs:=eR e) (.inl rfl) rfl rfl aA rfl M0 (bW e (k+m)::I0) aF aD ⟨rfl,e,rfl,he,rfl⟩
theorem aKJ {a b:RE} {k m:Nat} (hk:k+m+1≤100000000000) (ha:Hv I0 (bW a k)) (hb:Hv I0 (bW b m)):
  CD Tryz.prog 119 [rv a,rv b] X w0 M0 I0 (RQ (a.q - b.q) (k+m+1) M0 I0):=by
 refine aN Tryz.func119 rfl Tryz.ntmps119 rfl ?_
 refine iH ?_
 refine gU rfl (fun b1=>?_)
 refine gU rfl (fun b2=>?_)
 refine dS (fun b3=>?_)
 repeat refine aR ?_
 (repeat refine aG ?_);refine bA 1 [0,1,2,3,4] [1,1,0,0,0] mixed (by kernel_rfl) ?_
 repeat refine aR ?_
 (refine aQ rfl (zP (k:=m) (by omega) hb) ?_;rintro _ _ _ ⟨rfl,y,rfl,hy,rfl⟩;refine aL ?_)
 rw [Rat.sub_eq_add_neg,←hy]
 (refine aQ rfl (aFG hk ha.cons (Hv.mem (List.Mem.head _))) ?_;rintro _ _ _ ⟨rfl,e,rfl,he,rfl⟩;refine aL ?_)
 repeat refine aR ?_
 refine aT (cs:=eR e) (.inl rfl) rfl rfl aA rfl M0 (bW e (k+m+1)::I0) aF aD ⟨rfl,e,rfl,he,rfl⟩
theorem bBU {u v:Value} {n d:Int} {k:Nat} (hk:k≤150000000000) (hd0:d≠0) (hu:gW u n k∈I0) (hv:gW v d k∈I0):
  CD Tryz.prog 210 [u,v] X w0 M0 I0 (RQc (Rat.divInt n d) k M0 I0):=by
 have hs0:¬d.sign=0:=fun h=>hd0 (Int.sign_eq_zero_iff_zero.1 h)
 have hS:=fun M0 I0=>wD (X:=X) (w0:=w0) (M0:=M0) (I0:=I0) (u:=v) (z:=d) (k:=k) (by omega)
 have hR:=fun M0 I0=>wK (X:=X) (w0:=w0) (M0:=M0) (I0:=I0) (u:=u) (v:=v) (n:=n) (d:=d) (k:=k) (by omega) hd0
 generalize d.sign=sd at*
 refine CD.post (K:=fun v M I=>∃q q',RQc (Rat.divInt n d) k M0 (aH q' (recs eG (gr d.natAbs))::aH q (recs eG (gr n.natAbs))::I0) v M I) (bZ hu (fun q cq e hc hy=>?_)) (fun v M I w h hw=>?_)
 case refine_2=>
  obtain ⟨q,q',e1,e2,h2,h3,h4⟩:=h
  subst e1;subst h4
  exact ⟨_,_,⟨rfl,e2,h2,h3,rfl⟩,hw.inc (Inc.cons (List.Mem.head _) (Inc.wk (Inc.wk (Inc.wk Inc.refl))))⟩
 subst e
 refine bZ (List.Mem.tail _ hv) (fun q' cq' e hc' hz=>?_)
 subst e
 unfold iv at*
 refine aN Tryz.func210 rfl Tryz.ntmps210 rfl ?_
 refine iH ?_
 refine gU rfl (fun b1=>?_)
 refine gU rfl (fun b2=>?_)
 refine dS (fun b3=>?_)
 repeat refine aR ?_
 refine dK rfl (hS _ _ aA) ?_
 repeat refine aR ?_
 (refine aQ rfl (hR _ _ aA aA) ?_;rintro _ _ _ ⟨rfl,e,rfl,he,rfl⟩;refine aL ?_)
 repeat refine aR ?_
 refine fF (rs:=[.cell 4 77, .tmp 5]) (vs:=[rv e, .int .i64 0]) (.inl rfl) rfl (.cellN (cs:=eR e) inferInstance rfl aA rfl (.tmp rfl .nil)) rfl M0 (bW e k::aH q' (recs eG (gr d.natAbs))::aH q (recs eG (gr n.natAbs))::I0) aF aD ⟨q,q',rfl,e,rfl,he,rfl⟩
theorem aBQ {a b:RE} {k m:Nat} (hk:k+m≤100000000000) (hb0:b.q≠0) (ha:Hv I0 (bW a k)) (hb:Hv I0 (bW b m)):
  CD Tryz.prog 141 [rv a,rv b] X w0 M0 I0 (RQc (a.q / b.q) (k+m) M0 I0):=by
 have hM1:=fun u v M0 I0=>sK (X:=X) (w0:=w0) (M0:=M0) (I0:=I0) (u:=u) (v:=v) (y:=a.q.num) (z:=b.q.den) (k0:=k) (m0:=m) (by omega)
 have hM3:=fun u v M0 I0=>sK (X:=X) (w0:=w0) (M0:=M0) (I0:=I0) (u:=u) (v:=v) (y:=a.q.den) (z:=b.q.num) (k0:=k) (m0:=m) (by omega)
 have hR:=fun u v M0 I0=>bBU (X:=X) (w0:=w0) (M0:=M0) (I0:=I0) (u:=u) (v:=v) (n:=a.q.num*b.q.den) (d:=a.q.den*b.q.num) (k:=k+m) (by omega) (aEJ hb0)
 rw [←aDJ] at hR
 refine aN Tryz.func141 rfl Tryz.ntmps141 rfl ?_
 refine iH ?_
 refine gU rfl (fun b1=>?_)
 refine gU rfl (fun b2=>?_)
 refine dS (fun b3=>?_)
 repeat refine aR ?_
 refine dK rfl (lU (k:=k) (by omega) ha) ?_
 refine dS (fun b4=>?_)
 repeat refine aR ?_
 refine dK rfl (lU (k:=m) (by omega) hb) ?_
 refine dS (fun b5=>?_)
 refine gY (e:=a) (k:=k) ha ?_
 refine gY (e:=b) (k:=m) hb.cons.cons ?_
 repeat refine aR ?_
 (repeat refine aG ?_);refine qQ (.blk b5 (eR b) 77:: .blk b4 (eR a) 77::M0) (I0) [0,1,2,3,5,6,7,8,4,9,10,11,12,13,14] [3,2,3,2,3,2,3,2,0,0,0,0,0,0,0] mixed ?_
 repeat refine aR ?_
 (refine aQ rfl (hM1 _ _ _ _ aA aA) ?_;rintro _ _ _ ⟨rfl,rfl⟩;refine aL ?_)
 (refine aQ rfl (hM3 _ _ _ _ aA aA) ?_;rintro _ _ _ ⟨rfl,rfl⟩;refine aL ?_)
 (refine aQ rfl (hR _ _ _ _ aA aA) ?_;rintro _ _ _ ⟨rfl,e,rfl,he,rfl⟩;refine aL ?_)
 repeat refine aR ?_
 refine fF (rs:=[.cell 4 77, .tmp 5]) (vs:=[rv e, .int .i64 0]) (.inl rfl) rfl (.cellN (cs:=eR e) inferInstance rfl aA rfl (.tmp rfl .nil)) rfl M0 (bW e (k+m)::I0) aF aD ⟨rfl,e,rfl,he,rfl⟩
theorem aJF {a b:RE} {k m:Nat} (hk:k+m+1≤100000000000) (ha:Hv I0 (bW a k)) (hb:Hv I0 (bW b m)):
  CD Tryz.prog 56 [rv a,rv b] X w0 M0 I0 (fun v M I=>M0=M∧I0=I∧v= .int .i64 (aFI a.q b.q)):=by
 refine aN Tryz.func56 rfl Tryz.ntmps56 rfl ?_
 refine iH ?_
 refine gU rfl (fun b1=>?_)
 refine gU rfl (fun b2=>?_)
 repeat refine aR ?_
 (refine aQ rfl (aKJ hk ha hb) ?_;rintro _ _ _ ⟨rfl,e,rfl,he,rfl⟩;refine aL ?_)
 refine dK rfl (rQ (k:=k+m+1) (by omega) (Hv.mem (List.Mem.head _))) ?_
 repeat refine aR ?_
 refine aP (by first|exact .inl rfl|exact .inr rfl) rfl rfl _ _ aF aD (⟨rfl,rfl,by rw [he,aVS]⟩)
theorem aTY {a b:RE} {k m:Nat} (hk:k+m+1≤100000000000) (ha:Hv I0 (bW a k)) (hb:Hv I0 (bW b m)):
  CD Tryz.prog 34 [rv a,rv b] X w0 M0 I0 (fun v M I=>M0=M∧I0=I∧v= .bool (B (a.q=b.q))):=by
 refine aN Tryz.func34 rfl Tryz.ntmps34 rfl ?_
 refine iH ?_
 refine gU rfl (fun b1=>?_)
 refine gU rfl (fun b2=>?_)
 repeat refine aR ?_
 refine dK rfl (yQ (k:=k) (by omega) ha) ?_
 repeat refine aR ?_
 refine dK rfl (yQ (k:=m) (by omega) hb) ?_
 repeat refine aR ?_
 refine dK rfl (aJF hk ha hb) ?_
 repeat refine aR ?_
 refine iA rfl rfl (⟨rfl,rfl,congrArg Value.bool (iG bBL)⟩)
end
structure C4 where
 a:Value
 b:Value
 c:Value
 d:Value
abbrev e4 (x:C4):List Value:=[x.a,x.b,x.c,x.d]
instance:Inhabited C4:=⟨⟨.bool false, .slice none 0 0, .bool false, .slice none 0 0⟩⟩
instance:Sized e4 4:=⟨fun _=>rfl⟩
abbrev z4:C4:=⟨.bool false, .slice none 0 0, .bool false, .slice none 0 0⟩
abbrev t4 (e:RE):C4:=⟨.bool (B (e.q.num < 0)), .slice e.p1 (gr e.q.num.natAbs).length e.c1, .bool (B ((e.q.den:Int) < 0)), .slice e.p2 (gr (e.q.den:Int).natAbs).length e.c2⟩
theorem aJA (es:List RE):recs e4 (es.map t4)=recs eR es:=by
 induction es with
 |nil=>rfl
 |cons x r ih=>
  have h1:recs e4 ((x::r).map t4)=e4 (t4 x)++recs e4 (r.map t4):=rfl
  have h2:recs eR (x::r)=eR x++recs eR r:=rfl
  rw [h1,h2,ih]
structure HD where
 p:Option Addr
 n:Nat
 c:Nat
instance:Inhabited HD:=⟨⟨none,0,0⟩⟩
abbrev eH (h:HD):List Value:=[.slice h.p h.n h.c]
instance:Sized eH 1:=⟨fun _=>rfl⟩
structure MR where
 b:Nat
 es:List RE
instance:Inhabited MR:=⟨⟨0,[]⟩⟩
abbrev hdM (r:MR):HD:=⟨some ⟨r.b,0,none⟩,r.es.length,r.es.length⟩
abbrev eM (r:MR):List Value:=[.slice (some ⟨r.b,0,none⟩) r.es.length r.es.length]
instance:Sized eM 1:=⟨fun _=>rfl⟩
abbrev fU (r:MR):Ent:= .blk r.b (recs eR r.es) 77
theorem aTV (rows:List MR):recs eH (rows.map hdM)=recs eM rows:=by
 induction rows with
 |nil=>rfl
 |cons x r ih=>
  have h1:recs eH ((x::r).map hdM)=eH (hdM x)++recs eH (r.map hdM):=rfl
  have h2:recs eM (x::r)=eM x++recs eM r:=rfl
  rw [h1,h2,ih]
structure AllM (rows:List MR) (k:Nat) (X:List Nat) (w:World):Prop where
 go:∀r∈rows,∀e∈r.es,IsR e k X w
abbrev allM (rows:List MR) (k:Nat):aM:=AllM rows k
instance (rows:List MR) (k:Nat):Fx.Good (AllM rows k):=⟨fun X Y w w' h he hY=>⟨fun r hr e hm=>Fx.Good.go (φ:=IsR _ _) X Y w w' (h.go r hr e hm) he hY⟩⟩
theorem Hv.snoc {I:List aM} {es:List RE} {e:RE} {k:Nat} (h1:aU es k∈I) (h2:bW e k∈I):Hv I (aU (es++[e]) k):=⟨fun X w hw=>⟨fun x hx=>by
 rcases List.mem_append.1 hx with hx|hx
 ·exact (hw _ h1:AllR es k X w).go x hx
 ·rw [List.mem_singleton.1 hx];exact hw _ h2⟩⟩
theorem Hv.nilR {I:List aM} {k:Nat}:Hv I (aU [] k):=⟨fun X w _=>⟨fun x hx=>by simp at hx⟩⟩
theorem Hv.nilM {I:List aM} {k:Nat}:Hv I (allM [] k):=⟨fun X w _=>⟨fun x hx=>by simp at hx⟩⟩
theorem Hv.snocM {I:List aM} {rows:List MR} {r:MR} {k:Nat} (h1:allM rows k∈I) (h2:aU r.es k∈I):Hv I (allM (rows++[r]) k):=⟨fun X w hw=>⟨fun x hx=>by
 rcases List.mem_append.1 hx with hx|hx
 ·exact (hw _ h1:AllM rows k X w).go x hx
 ·rw [List.mem_singleton.1 hx];exact (hw _ h2:AllR r.es k X w).go⟩⟩
theorem wU {α:Type} [Inhabited α] {A B:List α} {x:α} {i:Int} (h:i=A.length):gt (A++x::B) i=x:=by
 subst h
 rw [fE (by simp)]
 simp
theorem wR {α:Type} {A B:List α} {x y:α} {i:Int} (h:i=A.length):st (A++x::B) i y=A++y::B:=by
 subst h
 simp [st]
theorem uN {α:Type} {n:Nat} {z:α} (h:0 < n):List.replicate n z=z::List.replicate (n - 1) z:=by
 obtain ⟨m,rfl⟩:∃m,n=m+1:=⟨n - 1,by omega⟩
 rfl
theorem rR {α:Type} {enc:α→List Value} {sz:Nat} [h:Sized enc sz] (hsz:0 < sz) (zz:α) (mm:Nat):(madeCells (enc zz).toArray (mm*sz)).toList=recs enc (List.replicate mm zz):=by
 have hl:(enc zz).length=sz:=h.len zz
 apply List.ext_getElem
 ·rw [Array.length_toList,size_madeCells,fH,List.length_replicate]
 ·intro i h1 h2
  rw [Array.length_toList,size_madeCells] at h1
  have hq:i / sz < mm:=by rw [Nat.div_lt_iff_lt_mul hsz];exact h1
  have hr:i % sz < sz:=Nat.mod_lt _ hsz
  have hv:(enc zz)[i % sz]?=some ((enc zz)[i % sz]'(by omega)):=List.getElem?_eq_getElem (by omega)
  have:=zX (enc:=enc) (List.replicate mm zz) (i / sz) (i % sz) zz _ (by rw [List.getElem?_replicate,if_pos hq]) hv
  rw [Nat.div_add_mod'] at this
  have h3:=(List.getElem?_eq_some_iff.1 this).2
  rw [h3]
  simp [madeCells,hl,hr]
def MkP (R C:Nat) (F:Nat→Nat→Rat) (k:Nat) (M0:List Ent) (I0:List aM) (v:Value) (M:List Ent) (I:List aM):Prop:=
 ∃(bo:Nat) (rows:List MR),v= .slice (some ⟨bo,0,none⟩) R R∧rows.length=R∧(∀r∈rows,r.es.length=C)∧(rows.map (fun r=>r.es.map (·.q))=(List.range R).map (fun i=>(List.range C).map (F i)))∧
  M= .blk bo (recs eM rows) 70::(rows.map fU++M0)∧I=allM rows k::I0
section
variable {P:Program} {n:Nat} {Q:Exit→Act→World→Prop} {G:Env} {X:List Nat} {w0:World} {M M':List Ent} {I:List aM}
theorem uZ {ex:Exit} (h:M.Perm M') (k:ND n Q ex G X w0 M' I):ND n Q ex G X w0 M I:=yK (fun _ hw=>hw.perm h) k
theorem nL {c:Code} (h:M.Perm M') (k:TD P n c Q G X w0 M' I):TD P n c Q G X w0 M I:=aFP (fun _ hw=>hw.perm h) k
theorem zS {ops l:List Oper} {m:Fx.Mode} (h:M.Perm M') (k:RD P n ops Q m l G X w0 M' I):RD P n ops Q m l G X w0 M I:=vX (fun _ hw=>hw.perm h) k
theorem aAW {x o:Ent} {A B:List Ent}:(x::o::(A++B)).Perm (o::((A++[x])++B)):=by
 refine (List.Perm.swap _ _ _).trans (List.Perm.cons _ ?_)
 rw [List.append_assoc]
 exact List.perm_middle.symm
end
section
variable {X:List Nat} {w0:World} {M0:List Ent} {I0:List aM}
theorem aDK {g:FuncId} [FnOk Tryz.prog g] {fs cs:Array Value} {R C k0:Nat} (hR:R≤100) (hC:C≤200) (F:Nat→Nat→Rat)
  (hg:∀M I,(∀φ∈I0,φ∈I)→∀i j:Nat,i < R→j < C→CD Tryz.prog g (fs.toList++[.int .i64 (i:Int), .int .i64 (j:Int)]++cs.toList) X w0 M I (RQ (F i j) k0 M I)):
  CD Tryz.prog 237 [.int .i64 (R:Int), .int .i64 (C:Int), .func (.func g) fs cs] X w0 M0 I0 (MkP R C F k0 M0 I0):=by
 refine gG Tryz.func237 rfl Tryz.ntmps237 rfl ?_
 repeat refine aR ?_
 (refine jI (R) rfl rfl (by omega) (by omega) (by omega) (by omega) (rR (enc:=eH) (by decide) ⟨none,0,0⟩ R) rfl rfl ?_;intro bo;refine aL ?_)
 refine cK (φ:=allM [] k0) Hv.nilM ?_
 repeat refine aR ?_
 refine lV [1,2,7,13] rfl (fun k G M I=>∃(i:Nat) (rows:List MR),i≤R∧k=R - i∧rows.length=i∧(∀r∈rows,r.es.length=C)∧(rows.map (fun r=>r.es.map (·.q))=(List.range i).map (fun i=>(List.range C).map (F i)))∧G=[(14, .int .i64 i)]∧M= .blk bo (recs eH (rows.map hdM++List.replicate (R - i) ⟨none,0,0⟩)) 70::(rows.map fU++M0)∧I=allM rows k0::I0) (R) (⟨0,[],by omega,by omega,rfl,by simp,by simp,rfl,rfl,rfl⟩) ?_
 rintro k G M I ⟨i,rows,hi,rfl,hrl,hrc,hrF,rfl,rfl,rfl⟩
 by_cases hiR:i < R
 ·have hz:=uN (n:=R - i) (z:=(⟨none,0,0⟩:HD)) (by omega)
  repeat refine aR ?_
  (refine jI (C) rfl rfl (by omega) (by omega) (by omega) (by omega) (rR (enc:=e4) (by decide) z4 C) rfl rfl ?_;intro bi;refine aL ?_)
  rw [hz]
  have hlh0:((rows.map hdM++(⟨none,0,0⟩:HD)::List.replicate (R - i - 1) ⟨none,0,0⟩).length:Int)=R:=by simp;omega
  repeat refine yXf ?_
  refine mX rfl rfl rfl jL (StAt.r1 (⟨some ⟨bi,0,none⟩,C,C⟩:HD) (by omega) rfl) rfl rfl ⟨okF,?_⟩
  rw [wR (by simp;omega)]
  obtain ⟨hs,hhs⟩:∃hs,hs=rows.map hdM++(⟨some ⟨bi,0,none⟩,C,C⟩:HD)::List.replicate (R - i - 1) ⟨none,0,0⟩:=⟨_,rfl⟩
  rw [←hhs]
  have hgh:gt hs (i:Int)=⟨some ⟨bi,0,none⟩,C,C⟩:=by rw [hhs];exact wU (by simp;omega)
  have hlh:hs.length=R:=by rw [hhs];simp;omega
  have hgp:(gt hs (i:Int)).p=some ⟨bi,0,none⟩:=by rw [hgh]
  have hgn:(gt hs (i:Int)).n=C:=by rw [hgh]
  have hgc:(gt hs (i:Int)).c=C:=by rw [hgh]
  repeat refine aR ?_
  rw [hgp,hgn,hgc]
  refine bH (φ:=aU [] k0) Hv.nilR ?_
  refine lV [1,2,7,8,13,14,26] rfl (fun k G M I=>∃(j:Nat) (es:List RE),j≤C∧k=C - j∧es.length=j∧es.map (·.q)=(List.range j).map (F i)∧G=[(27, .int .i64 j)]∧M= .blk bi (recs e4 (es.map t4++List.replicate (C - j) z4)) 77:: .blk bo (recs eH hs) 70::(rows.map fU++M0)∧I=aU es k0::allM rows k0::I0) (C) (⟨0,[],by omega,by omega,rfl,rfl,rfl,rfl,rfl⟩) ?_
  rintro k G M I ⟨j,es,hj,rfl,hel,heF,rfl,rfl,rfl⟩
  by_cases hjC:j < C
  ·have hz2:=uN (n:=C - j) (z:=z4) (by omega)
   rw [hz2]
   have hl2:((es.map t4++z4::List.replicate (C - j - 1) z4).length:Int)=C:=by simp;omega
   repeat refine aR ?_
   (repeat refine aG ?_);refine bA 1 [0,1,2,3,4,5,6,7,8,9,10] [1,1,1,1,1,0,0,0,0,0,0] mixed (by kernel_rfl) ?_
   repeat refine aR ?_
   rw [hgp,hgn,hgc]
   (refine eQ rfl rfl (hg _ _ (fun φ h=>List.Mem.tail _ (List.Mem.tail _ h)) i j hiR hjC) rfl rfl rfl ?_;rintro _ _ _ ⟨rfl,e,rfl,he,rfl⟩;refine aL ?_)
   repeat refine yXf ?_
   refine fO (vs:=eR e) rfl rfl rfl (Ones.one e) jL (StAts.r (t4 e) (by omega) rfl) rfl rfl ⟨okF,?_⟩
   rw [wR (by simp;omega)]
   repeat refine aR ?_
   refine dF (φ:=aU (es++[e]) k0) (Hv.snoc aA aA) ?_
   have e9:es.map t4++t4 e::List.replicate (C - j - 1) z4=(es++[e]).map t4++List.replicate (C - (j+1)) z4:=by simp [Nat.sub_sub]
   rw [e9]
   refine gJ (C - (j+1)) (⟨j+1,es++[e],by omega,rfl,by simp;omega,by simp [heF,List.range_succ,he],rfl,rfl,rfl⟩)
  ·obtain rfl:j=C:=by omega
   rw [Nat.sub_self,List.replicate_zero,List.append_nil,aJA]
   have e8:hs=(rows++[(⟨bi,es⟩:MR)]).map hdM++List.replicate (R - (i+1)) ⟨none,0,0⟩:=by rw [hhs];simp [hel,Nat.sub_sub]
   repeat refine aR ?_
   rw [e8]
   refine dF (φ:=allM (rows++[(⟨bi,es⟩:MR)]) k0) (Hv.snocM aA aA) ?_
   refine uZ (M':= .blk bo (recs eH ((rows++[(⟨bi,es⟩:MR)]).map hdM++List.replicate (R - (i+1)) ⟨none,0,0⟩)) 70::((rows++[(⟨bi,es⟩:MR)]).map fU++M0)) (by rw [List.map_append (f:=fU)];exact aAW) ?_
   refine gJ (R - (i+1)) (⟨i+1,rows++[(⟨bi,es⟩:MR)],by omega,rfl,by simp;omega,fun r hr=>by rcases List.mem_append.1 hr with h|h;exact hrc r h;rw [List.mem_singleton.1 h];exact hel,by rw [List.map_append,hrF,List.range_succ,List.map_append];simp [heF],rfl,rfl,rfl⟩)
 ·obtain rfl:i=R:=by omega
  have hz:List.replicate (i - i) (⟨none,0,0⟩:HD)=[]:=by rw [Nat.sub_self];rfl
  rw [hz,List.append_nil,aTV]
  repeat refine aR ?_
  refine iA rfl rfl (⟨bo,rows,rfl,hrl,hrc,hrF,rfl,rfl⟩)
end
theorem nO (q:Rat):q.num.sign=0↔q=0:=⟨fun h=>Rat.num_eq_zero.1 (Int.sign_eq_zero_iff_zero.1 h),fun h=>by rw [h];rfl⟩
theorem Hv.stR {I:List aM} {es:List RE} {e:RE} {i:Int} {k:Nat} (h1:aU es k∈I) (h2:bW e k∈I):Hv I (aU (st es i e) k):=⟨fun X w hw=>⟨fun x hx=>by
 rcases List.mem_or_eq_of_mem_set hx with hx|hx
 ·exact (hw _ h1:AllR es k X w).go x hx
 ·rw [hx];exact hw _ h2⟩⟩
theorem wQ {es:List RE} {e:RE} {i t:Nat} (hi:i < es.length):gt (st es (i:Int) e) (t:Int)=if t=i then e else gt es (t:Int):=by
 rw [aKX e ⟨by omega,by omega⟩ (by omega)]
 by_cases h:t=i
 ·rw [if_pos h,if_pos (by omega)]
 ·rw [if_neg h,if_neg (by omega)]
section
variable {X:List Nat} {w0:World} {M0:List Ent} {I0:List aM}
theorem bBA {i j:Int}:CD Tryz.prog 238 [.int .i64 i, .int .i64 j] X w0 M0 I0 (RQ (if i=j then 1 else 0) 0 M0 I0):=by
 have h1:=fun M0 I0=>tZ (X:=X) (w0:=w0) (M0:=M0) (I0:=I0) (x:=1) (by decide) (k:=0) (by decide)
 have h0:=fun M0 I0=>tZ (X:=X) (w0:=w0) (M0:=M0) (I0:=I0) (x:=0) (by decide) (k:=0) (by decide)
 refine aN Tryz.func238 rfl Tryz.ntmps238 rfl ?_
 refine iH ?_
 refine dS (fun b2=>?_)
 by_cases h:i=j
 ·rw [if_pos h]
  repeat refine aR ?_
  (refine aQ rfl (h1 _ _) ?_;rintro _ _ _ ⟨rfl,e,rfl,he,rfl⟩;refine aL ?_)
  repeat refine aR ?_
  refine aT (cs:=eR e) (.inl rfl) rfl rfl aA rfl M0 (bW e 0::I0) aF aD ⟨rfl,e,rfl,he,rfl⟩
 ·rw [if_neg h]
  repeat refine aR ?_
  (refine aQ rfl (h0 _ _) ?_;rintro _ _ _ ⟨rfl,e,rfl,he,rfl⟩;refine aL ?_)
  repeat refine aR ?_
  refine aT (cs:=eR e) (.inl rfl) rfl rfl aA rfl M0 (bW e 0::I0) aF aD ⟨rfl,e,rfl,he,rfl⟩
theorem aBX {a b:RE} {k m:Nat} (hk:k+m≤500000000000) (hb0:b.q≠0) (ha:Hv I0 (bW a k)) (hb:Hv I0 (bW b m)):
  CD Tryz.prog 272 [rv a,rv b] X w0 M0 I0 (RQ (a.q / b.q) (k+m) M0 I0):=by
 refine aN Tryz.func272 rfl Tryz.ntmps272 rfl ?_
 refine iH ?_
 refine gU rfl (fun b1=>?_)
 refine gU rfl (fun b2=>?_)
 refine dS (fun b3=>?_)
 repeat refine aR ?_
 (refine aQ rfl (aET hk hb0 ha hb) ?_;rintro _ _ _ ⟨rfl,e,rfl,he,rfl⟩;refine aL ?_)
 repeat refine aR ?_
 refine dS (fun b4=>?_)
 repeat refine aR ?_
 refine aT (cs:=eR e) (.inl rfl) rfl rfl aA rfl M0 (bW e (k+m)::I0) aF aD ⟨rfl,e,rfl,he,rfl⟩
theorem aBR {b1 b2:Nat} {es os:List RE} {κ:RE} {kz h m fr n:Nat} {M1:List Ent} (hn:n≤1000) (hK:kz+(m+h)+1≤400000000000) (hes:es.length=n) (hos:os.length=n) (hfr:fr≤n)
  (he:aU es kz∈I0) (ho:aU os h∈I0) (hκ:bW κ m∈I0) (hM:M0= .blk b1 (recs eR es) 77:: .blk b2 (recs eR os) 77::M1):
  CD Tryz.prog 273 [.slice (some ⟨b1,0,none⟩) n n, .slice (some ⟨b2,0,none⟩) n n,rv κ, .int .i64 (fr:Int)] X w0 M0 I0 (fun v M I=>v= .tuple #[]∧∃es':List RE,es'.length=n∧(∀t:Nat,t < n→(gt es' (t:Int)).q=if t < fr then (gt es (t:Int)).q else (gt es (t:Int)).q - κ.q*(gt os (t:Int)).q)∧M= .blk b1 (recs eR es') 77:: .blk b2 (recs eR os) 77::M1∧I=aU es' (kz+(m+h)+1)::I0):=by
 subst hM
 refine aAH Tryz.func273 rfl Tryz.ntmps273 rfl ?_
 refine iH ?_
 refine gU rfl (fun bk=>?_)
 repeat refine aR ?_
 refine bH (φ:=aU es (kz+(m+h)+1)) (Hv.allMono he (by omega)) ?_
 refine lV [0,1,6] rfl (fun k G M I=>∃(j:Nat) (e1:List RE),fr≤j∧j≤n∧k=n - j∧e1.length=n∧(∀t:Nat,j≤t→gt e1 (t:Int)=gt es (t:Int))∧(∀t:Nat,t < j→(gt e1 (t:Int)).q=if t < fr then (gt es (t:Int)).q else (gt es (t:Int)).q - κ.q*(gt os (t:Int)).q)∧G=[(8, .int .i64 j)]∧M= .blk bk (eR κ) 77:: .blk b1 (recs eR e1) 77:: .blk b2 (recs eR os) 77::M1∧I=aU e1 (kz+(m+h)+1)::I0) (n - fr) (⟨fr,es,by omega,hfr,rfl,hes,fun _ _=>rfl,fun t ht=>by rw [if_pos ht],rfl,rfl,rfl⟩) ?_
 rintro kk G M I ⟨j,e1,hj1,hj,rfl,hel,hkeep,hdone,rfl,rfl,rfl⟩
 by_cases hjn:j < n
 ·have hgj:gt e1 (j:Int)=gt es (j:Int):=hkeep j (Nat.le_refl _)
  have hvj:Hv (aU e1 (kz+(m+h)+1)::I0) (bW (gt os (j:Int)) h):=(Hv.all (i:=(j:Int)) ho (by omega) (Nat.le_refl _)).cons
  have hve:Hv (aU e1 (kz+(m+h)+1)::I0) (bW (gt e1 (j:Int)) kz):=by rw [hgj];exact (Hv.all (i:=(j:Int)) he (by omega) (Nat.le_refl _)).cons
  have hvk:Hv (aU e1 (kz+(m+h)+1)::I0) (bW κ m):=(Hv.mem hκ).cons
  have hS:=nD (X:=X) (w0:=w0) (M0:= .blk bk (eR κ) 77:: .blk b1 (recs eR e1) 77:: .blk b2 (recs eR os) 77::M1) (e:=gt os (j:Int)) (k:=h) (by omega) hvj
  by_cases h0:(gt os (j:Int)).q=0
  ·rw [(nO _).2 h0] at hS
   repeat refine aR ?_
   (refine aQ rfl (hS) ?_;rintro _ _ _ ⟨rfl,rfl,rfl⟩;refine aL ?_)
   repeat refine aR ?_
   refine gJ (n - (j+1)) (⟨j+1,e1,by omega,by omega,rfl,hel,fun t ht=>hkeep t (by omega),fun t ht=>?_,rfl,rfl,rfl⟩)
   by_cases htj:t=j
   ·subst htj
    rw [if_neg (by omega),hgj,h0,Rat.mul_zero,Rat.sub_eq_add_neg,Rat.neg_zero,Rat.add_zero]
   ·exact hdone t (by omega)
  ·have hs0:¬(gt os (j:Int)).q.num.sign=0:=fun h=>h0 ((nO _).1 h)
   generalize (gt os (j:Int)).q.num.sign=sg at*
   repeat refine aR ?_
   (refine aQ rfl (hS) ?_;rintro _ _ _ ⟨rfl,rfl,rfl⟩;refine aL ?_)
   repeat refine aR ?_
   (repeat refine aG ?_);refine bA 2 [0,1,2,3,4,5,6,7,8,9,10,11,12,13,14] [2,2,2,2,2,1,1,2,2,2,1,0,0,0,0] mixed (by kernel_rfl) ?_
   repeat refine aR ?_
   (refine aQ rfl (sQ (k:=m) (m:=h) (by omega) hvk hvj) ?_;rintro _ _ _ ⟨rfl,e2,rfl,he2,rfl⟩;refine aL ?_)
   (refine aQ rfl (aQM (k:=kz) (m:=m+h) (by omega) hve.cons (Hv.mem (List.Mem.head _))) ?_;rintro _ _ _ ⟨rfl,e3,rfl,he3,rfl⟩;refine aL ?_)
   repeat refine yXf ?_
   refine fO (vs:=eR e3) rfl rfl rfl (Ones.one e3) jL (StAts.r e3 (by omega) rfl) rfl rfl ⟨okF,?_⟩
   repeat refine aR ?_
   refine dF (φ:=aU (st e1 (j:Int) e3) (kz+(m+h)+1)) (Hv.stR aA aA) ?_
   refine gJ (n - (j+1)) (⟨j+1,st e1 (j:Int) e3,by omega,by omega,rfl,by rw [dI];exact hel,fun t ht=>?_,fun t ht=>?_,rfl,rfl,rfl⟩)
   ·rw [wQ (by omega),if_neg (by omega)];exact hkeep t (by omega)
   ·rw [wQ (by omega)]
    by_cases htj:t=j
    ·subst htj
     rw [if_pos rfl,if_neg (by omega),he3,he2,hgj]
    ·rw [if_neg htj];exact hdone t (by omega)
 ·obtain rfl:j=n:=by omega
  repeat refine aR ?_
  refine nH (by first|exact .inl rfl|exact .inr rfl) rfl _ _ aF aD (⟨rfl,e1,hel,hdone,rfl,rfl⟩)
end
end Go.Proofs.YtmmmfphealhapaaGreat
namespace Go.Fx
def Rest (P:Program) (l:List Oper) (Q:Exit→Act→World→Prop) (Cs:Nat→World→Prop) (fuel k:Nat) (listed:Array Bool):Exit→Act→World→Prop
 | .normal,a,w=>rV P l.toArray Q Cs fuel k listed a w
 |_,_,_=>False
section
variable {P:Program} {n:Nat} {Q:Exit→Act→World→Prop} {G:Env} {w:World} {l:List Oper} {Cs:Nat→World→Prop}
theorem aSR {fuel fuel' k:Nat} {listed listed':Array Bool} (p ms:List Nat) (hm:∀s w,Cs s w→Cs (s+1) w) (hs:Region.noSelect l.toArray=true) (hok:rW l.toArray p ms listed=some listed') (hf:fuel'=fuel+p.length) (hsz:listed.size=l.toArray.size) (hC:Cs k w)
  (h:R P n l (Rest P l Q Cs fuel (k+aEM l.toArray p) listed') (.any Cs k ms) (pick l p) G w):N n (Rest P l Q Cs fuel' k listed) .normal G w:=⟨fun a ha=>by
 subst hf
 exact sD hm hs p ms k listed a w hC hsz hok (fun _ _ _ _ hq=>hq) (h.go a ha)⟩
theorem aRG {fuel k:Nat} {listed:Array Bool} (p ms:List Nat) (hm:∀s w,Cs s w→Cs (s+1) w) (hs:Region.noSelect l.toArray=true) (hok:iD l.toArray p ms listed=true) (hf:fuel=p.length) (hsz:listed.size=l.toArray.size) (hC:Cs k w)
  (h:R P n l Q (.any Cs k ms) (pick l p) G w):N n (Rest P l Q Cs fuel k listed) .normal G w:=⟨fun a ha=>by
 subst hf
 exact jJ hm hs p ms k listed a w hC hsz hok (h.go a ha)⟩
theorem oH {fuel k i:Nat} {listed:Array Bool} {o:Oper} {a:Act} (hi:l.toArray[i]?=some o) (hk:iI o.op=false)
  (h:wpM P l.toArray (Rest P l Q Cs fuel (k+1) (listed.setIfInBounds i true)) (.any Cs k []) (pick l [i]) a w):
  wpOp P l.toArray QF i (fun a' w'=>Cs (k+eAt l.toArray i) w'∧rV P l.toArray Q Cs fuel (k+eAt l.toArray i) (listed.setIfInBounds i true) a' w') a w:=by
 have hg:nth l i=o:=aHL l i o (by simpa using hi)
 simp only [pick,hg] at h
 rw [aAL hi hk]
 unfold wpOp
 simp only [hi]
 by_cases hw:Region.wanted o (yielded l.toArray a.tmps)=true
 ·rw [if_pos hw]
  rcases h.1 hw with ⟨hk2,_⟩|⟨_,hk2⟩
  ·rw [hk] at hk2;cases hk2
  ·exact .inl (Oper.wp_mono (fun a' w' ⟨h1,h2⟩=>⟨h1,h2⟩) hk2)
 ·rw [if_neg hw]
  obtain ⟨hh1,hh2⟩:=h.2 (by simpa using hw)
  simp only [Mode.held,hk,cond_false] at hh1
  exact ⟨hh1,hh2⟩
def uM (ops:Array Oper) (i:Nat):Bool:=
 match ops[i]? with
 |some o=> !iI o.op
 |none=>false
theorem aND {fuel k i j:Nat} {listed:Array Bool} (hr:(Region.ready .any l.toArray listed==[i,j] && uM l.toArray i && uM l.toArray j)=true)
  (h1:R P n l (Rest P l Q Cs fuel (k+1) (listed.setIfInBounds i true)) (.any Cs k []) (pick l [i]) G w)
  (h2:R P n l (Rest P l Q Cs fuel (k+1) (listed.setIfInBounds j true)) (.any Cs k []) (pick l [j]) G w):N n (Rest P l Q Cs (fuel+1) k listed) .normal G w:=⟨fun a ha=>by
 simp only [Bool.and_eq_true,beq_iff_eq] at hr
 obtain ⟨⟨hr,e1⟩,e2⟩:=hr
 have get:∀x,uM l.toArray x=true→∃o,l.toArray[x]?=some o∧iI o.op=false:=fun x hx=>by
  unfold uM at hx
  cases ho:l.toArray[x]? with
  |none=>simp [ho] at hx
  |some o=>simp [ho] at hx;exact ⟨o,rfl,hx⟩
 obtain ⟨o1,ho1,hk1⟩:=get i e1
 obtain ⟨o2,ho2,hk2⟩:=get j e2
 refine ⟨fun h0=>(by rw [hr] at h0;cases h0),fun x hx=>?_⟩
 rw [hr] at hx
 simp only [List.mem_cons,List.not_mem_nil,or_false] at hx
 rcases hx with rfl|rfl
 ·exact oH ho1 hk1 (h1.go a ha)
 ·exact oH ho2 hk2 (h2.go a ha)⟩
theorem aLC {fuel k i j m:Nat} {listed:Array Bool} (hr:(Region.ready .any l.toArray listed==[i,j,m] && uM l.toArray i && uM l.toArray j && uM l.toArray m)=true)
  (h1:R P n l (Rest P l Q Cs fuel (k+1) (listed.setIfInBounds i true)) (.any Cs k []) (pick l [i]) G w)
  (h2:R P n l (Rest P l Q Cs fuel (k+1) (listed.setIfInBounds j true)) (.any Cs k []) (pick l [j]) G w)
  (h3:R P n l (Rest P l Q Cs fuel (k+1) (listed.setIfInBounds m true)) (.any Cs k []) (pick l [m]) G w):N n (Rest P l Q Cs (fuel+1) k listed) .normal G w:=⟨fun a ha=>by
 simp only [Bool.and_eq_true,beq_iff_eq] at hr
 obtain ⟨⟨⟨hr,e1⟩,e2⟩,e3⟩:=hr
 have get:∀x,uM l.toArray x=true→∃o,l.toArray[x]?=some o∧iI o.op=false:=fun x hx=>by
  unfold uM at hx
  cases ho:l.toArray[x]? with
  |none=>simp [ho] at hx
  |some o=>simp [ho] at hx;exact ⟨o,rfl,hx⟩
 obtain ⟨o1,ho1,hk1⟩:=get i e1
 obtain ⟨o2,ho2,hk2⟩:=get j e2
 obtain ⟨o3,ho3,hk3⟩:=get m e3
 refine ⟨fun h0=>(by rw [hr] at h0;cases h0),fun x hx=>?_⟩
 rw [hr] at hx
 simp only [List.mem_cons,List.not_mem_nil,or_false] at hx
 rcases hx with rfl|rfl|rfl
 ·exact oH ho1 hk1 (h1.go a ha)
 ·exact oH ho2 hk2 (h2.go a ha)
 ·exact oH ho3 hk3 (h3.go a ha)⟩
theorem bEK {id:Nat} (Cs:Nat→World→Prop) (hx:P.follows .mixedOrders=true) (h:N n (Rest P l Q Cs l.length 0 (Array.replicate l.length false)) .normal G w.drew):T P n (.region id l.toArray true) Q G w:=⟨fun a ha=>by
 refine wp_region_any hx ?_
 have:=h.go a ha
 have e:l.toArray.size=l.length:=by simp
 rw [e]
 exact rZ _ _ _ _ _ this⟩
end
section
variable {P:Program} {n:Nat} {Q:Exit→Act→World→Prop} {G:Env} {X:List Nat} {w0:World} {M M1:List Ent} {I I1:List aM} {l:List Oper}
theorem pV {id:Nat} (M1:List Ent) (I1:List aM) (hx:P.follows .mixedOrders=true) (h:ND n (Rest P l Q (vZ X w0 M1 I1) l.length 0 (Array.replicate l.length false)) .normal G X w0 M I):TD P n (.region id l.toArray true) Q G X w0 M I:=
 ⟨fun w hw=>bEK (vZ X w0 M1 I1) hx (h.go w.drew hw.drew)⟩
theorem dM {fuel fuel' k:Nat} {listed listed':Array Bool} (p ms:List Nat) (hM:SubP M M1) (hI:Inc I I1) (hs:Region.noSelect l.toArray=true) (hok:rW l.toArray p ms listed=some listed') (hf:fuel'=fuel+p.length) (hsz:listed.size=l.toArray.size)
  (h:RD P n l (Rest P l Q (vZ X w0 M1 I1) fuel (k+aEM l.toArray p) listed') (.any (vZ X w0 M1 I1) k ms) (pick l p) G X w0 M I):ND n (Rest P l Q (vZ X w0 M1 I1) fuel' k listed) .normal G X w0 M I:=
 ⟨fun w hw=>aSR p ms (fun _ _ h=>h) hs hok hf hsz (hw.weak hM hI) (h.go w hw)⟩
theorem bL {fuel k:Nat} {listed:Array Bool} (p ms:List Nat) (hM:SubP M M1) (hI:Inc I I1) (hs:Region.noSelect l.toArray=true) (hok:iD l.toArray p ms listed=true) (hf:fuel=p.length) (hsz:listed.size=l.toArray.size)
  (h:RD P n l Q (.any (vZ X w0 M1 I1) k ms) (pick l p) G X w0 M I):ND n (Rest P l Q (vZ X w0 M1 I1) fuel k listed) .normal G X w0 M I:=
 ⟨fun w hw=>aRG p ms (fun _ _ h=>h) hs hok hf hsz (hw.weak hM hI) (h.go w hw)⟩
theorem bB {fuel k i j:Nat} {listed:Array Bool} (hr:(Region.ready .any l.toArray listed==[i,j] && uM l.toArray i && uM l.toArray j)=true)
  (h1:RD P n l (Rest P l Q (vZ X w0 M1 I1) fuel (k+1) (listed.setIfInBounds i true)) (.any (vZ X w0 M1 I1) k []) (pick l [i]) G X w0 M I)
  (h2:RD P n l (Rest P l Q (vZ X w0 M1 I1) fuel (k+1) (listed.setIfInBounds j true)) (.any (vZ X w0 M1 I1) k []) (pick l [j]) G X w0 M I):ND n (Rest P l Q (vZ X w0 M1 I1) (fuel+1) k listed) .normal G X w0 M I:=
 ⟨fun w hw=>aND hr (h1.go w hw) (h2.go w hw)⟩
theorem iF {fuel k i j m:Nat} {listed:Array Bool} (hr:(Region.ready .any l.toArray listed==[i,j,m] && uM l.toArray i && uM l.toArray j && uM l.toArray m)=true)
  (h1:RD P n l (Rest P l Q (vZ X w0 M1 I1) fuel (k+1) (listed.setIfInBounds i true)) (.any (vZ X w0 M1 I1) k []) (pick l [i]) G X w0 M I)
  (h2:RD P n l (Rest P l Q (vZ X w0 M1 I1) fuel (k+1) (listed.setIfInBounds j true)) (.any (vZ X w0 M1 I1) k []) (pick l [j]) G X w0 M I)
  (h3:RD P n l (Rest P l Q (vZ X w0 M1 I1) fuel (k+1) (listed.setIfInBounds m true)) (.any (vZ X w0 M1 I1) k []) (pick l [m]) G X w0 M I):ND n (Rest P l Q (vZ X w0 M1 I1) (fuel+1) k listed) .normal G X w0 M I:=
 ⟨fun w hw=>aLC hr (h1.go w hw) (h2.go w hw) (h3.go w hw)⟩
end
end Go.Fx
namespace Go.Proofs.YtmmmfphealhapaaGreat
open Go Go.Fx
abbrev Mt:=List (List Rat)
def rowAt (A:Mt) (i:Nat):List Rat:=A.getD i []
def at2 (A:Mt) (i j:Nat):Rat:=(rowAt A i).getD j 0
def swp (A:Mt) (r k:Nat):Mt:=(A.set r (rowAt A k)).set k (rowAt A r)
def iY (j:Nat) (κ:Rat) (l:List Rat):List Rat:=l.mapIdx (fun c x=>if c < j then x else κ*x)
def kE (j:Nat) (κ:Rat) (p:List Rat) (l:List Rat):List Rat:=l.mapIdx (fun c x=>if c < j then x else x - κ*p.getD c 0)
def lN (A:Mt) (j:Nat):Nat→Nat→Nat
 |0,k=>k
 |f+1,k=>if k < A.length∧at2 A k j=0 then lN A j f (k+1) else k
def xE (A:Mt) (r j:Nat) (pr:List Rat):Mt:=A.mapIdx (fun i row=>if i=r then row else if row.getD j 0=0 then row else kE j (row.getD j 0) pr row)
def vW (A:Mt) (r j k:Nat):Mt:=
 xE ((swp A r k).set r (iY j (1 / at2 (swp A r k) r j) (rowAt (swp A r k) r))) r j (iY j (1 / at2 (swp A r k) r j) (rowAt (swp A r k) r))
def aNK (s:Mt × List Nat) (j:Nat):Mt × List Nat:=
 if lN s.1 j (s.1.length - s.2.length) s.2.length < s.1.length then (vW s.1 s.2.length j (lN s.1 j (s.1.length - s.2.length) s.2.length),s.2++[j]) else s
def eP (A:Mt) (n:Nat):Mt × List Nat:=(List.range n).foldl aNK (A,[])
theorem uJ (A:Mt) (n:Nat):eP A (n+1)=aNK (eP A n) n:=by
 unfold eP
 rw [List.range_succ,List.foldl_append]
 rfl
abbrev qs (es:List RE):List Rat:=es.map (·.q)
abbrev mq (rows:List MR):Mt:=rows.map (fun r=>qs r.es)
theorem dP {α:Type} [Inhabited α] {ms:List α} {i:Nat} (h:i < ms.length):gt ms (i:Int)=ms[i]:=fE h
theorem mV {rows:List MR} {i:Nat} (h:i < rows.length):rowAt (mq rows) i=qs (gt rows (i:Int)).es:=by
 unfold rowAt
 rw [dP h]
 simp [List.getD,h]
theorem iM {es:List RE} {j:Nat} (h:j < es.length):(qs es).getD j 0=(gt es (j:Int)).q:=by
 rw [dP h]
 simp [List.getD,h]
theorem yV {rows:List MR} {i j:Nat} (h:i < rows.length) (hj:j < (gt rows (i:Int)).es.length):at2 (mq rows) i j=(gt (gt rows (i:Int)).es (j:Int)).q:=by
 unfold at2
 rw [mV h,iM hj]
theorem aED {rows:List MR} {i:Nat} {r:MR}:mq (rows.set i r)=(mq rows).set i (qs r.es):=by simp [List.map_set]
theorem aAD {A:Mt} {j:Nat}:∀(f k:Nat),k+f=A.length→k≤lN A j f k∧lN A j f k≤A.length∧(lN A j f k < A.length→at2 A (lN A j f k) j≠0)
 |0,k,h=>⟨Nat.le_refl _,by simp [lN];omega,fun h'=>by simp [lN] at h';omega⟩
 |f+1,k,h=>by
  unfold lN
  by_cases hc:k < A.length∧at2 A k j=0
  ·rw [if_pos hc]
   obtain ⟨h1,h2,h3⟩:=aAD (A:=A) (j:=j) f (k+1) (by omega)
   exact ⟨by omega,h2,h3⟩
  ·rw [if_neg hc]
   exact ⟨Nat.le_refl _,by omega,fun hk h0=>hc ⟨hk,h0⟩⟩
/- permutations -/
theorem pK {α:Type}:∀(l:List α) (i:Nat) (h:i < l.length),l.Perm (l[i]::l.eraseIdx i)
 |[],_,h=>by simp at h
 |x::r,0,_=>by simp
 |x::r,i+1,h=>by
  have ih:=pK r i (by simpa using h)
  simp only [List.getElem_cons_succ,List.eraseIdx_cons_succ]
  exact (List.Perm.cons _ ih).trans (List.Perm.swap _ _ _)
def jS {α:Type} (l:List α) (i j:Nat):List α:=(l.eraseIdx (max i j)).eraseIdx (min i j)
theorem qC {α:Type} (l:List α) (i j:Nat) (hi:i < l.length) (hj:j < l.length) (hij:i≠j):l.Perm (l[i]::l[j]::jS l i j):=by
 rcases Nat.lt_or_ge i j with h|h
 ·have e1:max i j=j:=by omega
  have e2:min i j=i:=by omega
  unfold jS
  rw [e1,e2]
  have h1:=pK l j hj
  have hl:i < (l.eraseIdx j).length:=by rw [List.length_eraseIdx_of_lt hj];omega
  have h2:=pK (l.eraseIdx j) i hl
  rw [List.getElem_eraseIdx_of_lt hl h] at h2
  exact (h1.trans (List.Perm.cons _ h2)).trans (List.Perm.swap _ _ _)
 ·have e1:max i j=i:=by omega
  have e2:min i j=j:=by omega
  unfold jS
  rw [e1,e2]
  have h1:=pK l i hi
  have hl:j < (l.eraseIdx i).length:=by rw [List.length_eraseIdx_of_lt hi];omega
  have h2:=pK (l.eraseIdx i) j hl
  rw [List.getElem_eraseIdx_of_lt hl (by omega)] at h2
  exact h1.trans (List.Perm.cons _ h2)
theorem rM {α:Type} (l:List α) (i j:Nat) (x:α) (hij:i≠j):jS (l.set i x) i j=jS l i j:=by
 unfold jS
 rcases Nat.lt_or_ge i j with h|h
 ·have e1:max i j=j:=by omega
  have e2:min i j=i:=by omega
  rw [e1,e2]
  apply List.ext_getElem?
  intro n
  simp only [List.getElem?_eraseIdx,List.getElem?_set]
  split <;>split <;>(try split) <;>first|rfl|omega
 ·have e1:max i j=i:=by omega
  rw [e1,List.eraseIdx_set_eq]
theorem aFM {α:Type} (l:List α) (i:Nat) (x:α):(l.set i x).eraseIdx i=l.eraseIdx i:=List.eraseIdx_set_eq ..
theorem wJ {rows:List MR} {i:Nat} {es:List RE} (hi:i < rows.length) (hl:es.length=(gt rows (i:Int)).es.length):recs eM (rows.set i ⟨(gt rows (i:Int)).b,es⟩)=recs eM rows:=by
 have h1:=qE (enc:=eM) rows i ⟨(gt rows (i:Int)).b,es⟩ hi
 rw [←h1]
 have e:eM ⟨(gt rows (i:Int)).b,es⟩=eM (gt rows (i:Int)):=by simp [eM,hl]
 rw [e,qE (enc:=eM) rows i _ hi,dP hi,List.set_getElem_self]
end Go.Proofs.YtmmmfphealhapaaGreat

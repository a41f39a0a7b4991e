/- The homography of four pairs (package homography); quotients of integers; the first intege -/
import Derived.Test.YtmmmfphealhapaaGreatZsay
import Derived.Test.YtmmmfphealhapaaGreatZsal
import Derived.Test.YtmmmfphealhapaaGreatZsax
import Derived.Test.YtmmmfphealhapaaGreatZsaq
import Derived.Test.YtmmmfphealhapaaGreatZsau
import Derived.Test.YtmmmfphealhapaaGreatZsae
import Derived.Test.YtmmmfphealhapaaGreatZsaf
set_option linter.unusedSimpArgs false
set_option linter.unusedVariables false
set_option maxRecDepth 100000
set_option maxHeartbeats 4000000
namespace Go.Proofs.YtmmmfphealhapaaGreat
open Go Go.Fx
theorem os4 {α:Type} [Inhabited α] {os:List α} (h:os.length=4):os=[gt os 0,gt os 1,gt os 2,gt os 3]:=by
 match os,h with
 |[_,_,_,_],_=>rfl
abbrev z24:List Value:=recs wT [none,none,none,none]
def aWG (ps:List Q4) (M0:List Ent) (I0:List aM) (v:Value) (M:List Ent) (I:List aM):Prop:=M0=M∧if colP (l4 ps)∨colP (m4 ps) then (I0=I∧v= .tuple #[.agg z18.toArray, .int .i64 13]) else ∃(h:HZ) (g:Int),v= .tuple #[hv9 h, .int .i64 0]∧g≠0∧(gN h.m).map (fun x=>x*g)=gN (sJ ps)∧RedL (gN h.m)∧I=iV h 772::I0
section
variable {X:List Nat} {w0:World} {M0:List Ent} {I0:List aM}
theorem aUU {ps:List Q4} (hp:ps.length=4) (hs:∀s∈ps,s.near):CD Tryz.prog 10 [.agg (recs iL ps).toArray] X w0 M0 I0 (aWG ps M0 I0):=by
 have hB:=fun (w:QZ) M0 I0 h1=>bAK (X:=X) (w0:=w0) (M0:=M0) (I0:=I0) (w:=w) h1
 unfold aWG
 refine aS Tryz.func10 rfl Tryz.ntmps10 rfl ?_
 refine iH ?_
 refine gU rfl (fun b1=>?_)
 refine aI (cs:=recs iL ps) .here ?_
 refine dS (fun b2=>?_)
 repeat refine aB ?_
 refine dS (fun b4=>?_)
 refine dS (fun b5=>?_)
 repeat refine aB ?_
 (apply dW;exact eY;exact rfl;exact aA;exact AtsZ.all (by rw [fH,hp]);exact rfl;exact rfl)
 repeat refine aB ?_
 refine bH (φ:=allT [none,none,none,none] 63) (Hv.tNil (n:=4)) ?_
 refine lV [2,4,5,12] rfl (fun k G M I=>∃(i:Nat) (o1 o2:List (Option TZ)),i≤4∧k=4 - i∧o1.length=4∧o2.length=4∧(∀j:Nat,j < i→∃e:TZ,gt o1 (j:Int)=some e∧e.t=ptF (gt ps (j:Int)))∧(∀j:Nat,j < i→∃e:TZ,gt o2 (j:Int)=some e∧e.t=ptT (gt ps (j:Int)))∧G=[(13, .int .i64 i)]∧M= .blk b5 (recs wT o2) 101:: .blk b4 (recs wT o1) 101:: .blk b2 z18 44::M0∧I=allT o1 63::allT o2 63::aH (some ⟨b1,0,none⟩) (recs iL ps)::I0) (4) (⟨0,[none,none,none,none],[none,none,none,none],by omega,rfl,rfl,rfl,fun j hj=>absurd hj (by omega),fun j hj=>absurd hj (by omega),rfl,rfl,rfl⟩) ?_
 rintro kk G M I ⟨i,o1,o2,hi,rfl,hl1,hl2,ho1,ho2,rfl,rfl,rfl⟩
 by_cases hii:i < 4
 ·obtain ⟨s,hss⟩:∃s,gt ps (i:Int)=s:=⟨_,rfl⟩
  have hsn:s.near:=hs s (by rw [←hss];exact bD ⟨by omega,by omega⟩)
  have hR1:=fun M0 I0=>aGF (X:=X) (w0:=w0) (M0:=M0) (I0:=I0) hsn.x hsn.y
  have hR2:=fun M0 I0=>aGF (X:=X) (w0:=w0) (M0:=M0) (I0:=I0) hsn.u hsn.v
  have hH1:=fun M0 I0=>aOS (X:=X) (w0:=w0) (M0:=M0) (I0:=I0) hsn.x hsn.y
  have hH2:=fun M0 I0=>aOS (X:=X) (w0:=w0) (M0:=M0) (I0:=I0) hsn.u hsn.v
  repeat refine aB ?_
  (refine aC rfl (fun _=>zJ (cs:=recs iL ps) (vs:=iL s) (i:=(i:Int)) rfl rfl ⟨by omega,by omega⟩ (by rw [←hss];exact aGW ⟨by omega,by omega⟩)) rfl rfl ?_)
  refine dS (fun b7=>?_)
  repeat refine aB ?_
  refine dK rfl (hR1 _ _) ?_
  repeat refine aB ?_
  refine dK rfl (hR2 _ _) ?_
  repeat refine aB ?_
  (repeat refine aG ?_);refine qQ (.blk b7 (iL s) 30::M0) (I0) [0,1,2,3,5,6,4,8,7,9,10,11] [2,3,2,1,3,2,0,1,0,0,0,0] mixed ?_
  repeat refine aB ?_
  (refine aQ rfl (hH1 _ _) ?_;rintro _ _ _ ⟨rfl,p,rfl,hp1,rfl⟩;refine aL ?_)
  repeat refine yXh ?_
  (refine aQ rfl (hH2 _ _) ?_;rintro _ _ _ ⟨rfl,q,rfl,hq1,rfl⟩;refine aL ?_)
  refine fO (vs:=lW p) rfl rfl rfl (Ones.one p) jL (StAts.o0 (enc:=wT) (sz:=6) (ms:=o1) (i:=(i:Int)) (some p) ⟨by omega,by omega⟩ rfl) rfl rfl ⟨okF,?_⟩
  repeat refine yXh ?_
  refine fO (vs:=lW q) rfl rfl rfl (Ones.one q) jL (StAts.o0 (enc:=wT) (sz:=6) (ms:=o2) (i:=(i:Int)) (some q) ⟨by omega,by omega⟩ rfl) rfl rfl ⟨okF,?_⟩
  repeat refine aB ?_
  refine dF (φ:=allT (st o1 (i:Int) (some p)) 63) (Hv.tSet aA aA) ?_
  refine dF (φ:=allT (st o2 (i:Int) (some q)) 63) (Hv.tSet (os:=o2) (g:=q) aA aA) ?_
  refine gJ (4 - (i+1)) (⟨i+1,st o1 (i:Int) (some p),st o2 (i:Int) (some q),by omega,rfl,by rw [nY];exact hl1,by rw [nY];exact hl2,fun t ht=>by
   rw [oW (by omega) (by omega)]
   by_cases e:t=i
   ·subst e
    rw [if_pos rfl,hss]
    exact ⟨p,rfl,hp1⟩
   ·rw [if_neg e]
    exact ho1 t (by omega),fun t ht=>by
   rw [oW (by omega) (by omega)]
   by_cases e:t=i
   ·subst e
    rw [if_pos rfl,hss]
    exact ⟨q,rfl,hq1⟩
   ·rw [if_neg e]
    exact ho2 t (by omega),rfl,rfl,rfl⟩)
 obtain rfl:i=4:=by omega
 obtain ⟨a0,ea0,ta0⟩:=ho1 0 (by omega)
 obtain ⟨a1,ea1,ta1⟩:=ho1 1 (by omega)
 obtain ⟨a2,ea2,ta2⟩:=ho1 2 (by omega)
 obtain ⟨a3,ea3,ta3⟩:=ho1 3 (by omega)
 obtain ⟨c0,ec0,tc0⟩:=ho2 0 (by omega)
 obtain ⟨c1,ec1,tc1⟩:=ho2 1 (by omega)
 obtain ⟨c2,ec2,tc2⟩:=ho2 2 (by omega)
 obtain ⟨c3,ec3,tc3⟩:=ho2 3 (by omega)
 have e1:o1=[some a0,some a1,some a2,some a3]:=by rw [os4 hl1,show gt o1 0=some a0 from ea0,show gt o1 1=some a1 from ea1,show gt o1 2=some a2 from ea2,show gt o1 3=some a3 from ea3]
 have e2:o2=[some c0,some c1,some c2,some c3]:=by rw [os4 hl2,show gt o2 0=some c0 from ec0,show gt o2 1=some c1 from ec1,show gt o2 2=some c2 from ec2,show gt o2 3=some c3 from ec3]
 clear ho1 ho2
 subst e1
 subst e2
 have hZ:=fun (a b c d:TZ) (I:List aM) (h:allT [some a,some b,some c,some d] 63∈I)=>(⟨fun X wd hw2=>by
  have h1:AllT _ _ X wd:=hw2 _ h
  exact ⟨h1.go _ (by simp),h1.go _ (by simp),h1.go _ (by simp),h1.go _ (by simp)⟩⟩:Hv I (qZ ⟨a,b,c,d⟩ 63))
 refine bH (φ:=qZ ⟨a0,a1,a2,a3⟩ 63) (hZ a0 a1 a2 a3 _ aA) ?_
 refine bH (φ:=qZ ⟨c0,c1,c2,c3⟩ 63) (hZ c0 c1 c2 c3 _ aA) ?_
 have w1:(QZ.mk a0 a1 a2 a3).t=l4 ps:=by show (⟨a0.t,a1.t,a2.t,a3.t⟩:P4 Int)=_;rw [ta0,ta1,ta2,ta3];rfl
 have w2:(QZ.mk c0 c1 c2 c3).t=m4 ps:=by show (⟨c0.t,c1.t,c2.t,c3.t⟩:P4 Int)=_;rw [tc0,tc1,tc2,tc3];rfl
 have e3:∀a b c d:TZ,recs wT [some a,some b,some c,some d]=eQZ ⟨a,b,c,d⟩:=fun _ _ _ _=>rfl
 rw [e3,e3]
 have hB1:=hB ⟨a0,a1,a2,a3⟩
 have hB2:=hB ⟨c0,c1,c2,c3⟩
 unfold BasR at hB1 hB2
 rw [w1] at hB1
 rw [w2] at hB2
 by_cases k1:colP (l4 ps)
 ·simp only [if_pos k1] at hB1
  by_cases k2:colP (m4 ps)
  ·simp only [if_pos k2] at hB2
   repeat refine aB ?_
   (refine aQ rfl (hB1 _ _ aA) ?_;rintro _ _ _ ⟨rfl,rfl,rfl⟩;refine aL ?_)
   repeat refine aB ?_
   refine dS (fun b8=>?_)
   repeat refine aB ?_
   (refine aQ rfl (hB2 _ _ aA) ?_;rintro _ _ _ ⟨rfl,rfl,rfl⟩;refine aL ?_)
   repeat refine aB ?_
   refine dS (fun b10=>?_)
   repeat refine aB ?_
   (refine aC rfl (fun _=>tT (pvs:=[]) (cells:=z18) rfl rfl) rfl rfl ?_)
   repeat refine aB ?_
   refine fF (rs:=[.cell 2 44, .tmp 3]) (vs:=[.agg z18.toArray, .int .i64 13]) (.inl rfl) rfl (.cellN (cs:=z18) inferInstance rfl aA rfl (.tmp rfl .nil)) rfl M0 I0 aF aD ⟨rfl,by rw [if_pos (show colP (l4 ps)∨colP (m4 ps) from .inl k1)];exact ⟨rfl,rfl⟩⟩
  ·simp only [if_neg k2] at hB2
   repeat refine aB ?_
   (refine aQ rfl (hB1 _ _ aA) ?_;rintro _ _ _ ⟨rfl,rfl,rfl⟩;refine aL ?_)
   repeat refine aB ?_
   refine dS (fun b8=>?_)
   repeat refine aB ?_
   (refine aQ rfl (hB2 _ _ aA) ?_;rintro _ _ _ ⟨rfl,hb,rfl,hbm,rfl⟩;refine aL ?_)
   repeat refine aB ?_
   refine dS (fun b10=>?_)
   repeat refine aB ?_
   (refine aC rfl (fun _=>tT (pvs:=[]) (cells:=z18) rfl rfl) rfl rfl ?_)
   repeat refine aB ?_
   refine fF (rs:=[.cell 2 44, .tmp 3]) (vs:=[.agg z18.toArray, .int .i64 13]) (.inl rfl) rfl (.cellN (cs:=z18) inferInstance rfl aA rfl (.tmp rfl .nil)) rfl M0 I0 aF aD ⟨rfl,by rw [if_pos (show colP (l4 ps)∨colP (m4 ps) from .inl k1)];exact ⟨rfl,rfl⟩⟩
 ·simp only [if_neg k1] at hB1
  by_cases k2:colP (m4 ps)
  ·simp only [if_pos k2] at hB2
   repeat refine aB ?_
   (refine aQ rfl (hB1 _ _ aA) ?_;rintro _ _ _ ⟨rfl,ha,rfl,ham,rfl⟩;refine aL ?_)
   repeat refine aB ?_
   refine dS (fun b8=>?_)
   repeat refine aB ?_
   (refine aQ rfl (hB2 _ _ aA) ?_;rintro _ _ _ ⟨rfl,rfl,rfl⟩;refine aL ?_)
   repeat refine aB ?_
   refine dS (fun b10=>?_)
   repeat refine aB ?_
   (refine aC rfl (fun _=>tT (pvs:=[]) (cells:=z18) rfl rfl) rfl rfl ?_)
   repeat refine aB ?_
   refine fF (rs:=[.cell 2 44, .tmp 3]) (vs:=[.agg z18.toArray, .int .i64 13]) (.inl rfl) rfl (.cellN (cs:=z18) inferInstance rfl aA rfl (.tmp rfl .nil)) rfl M0 I0 aF aD ⟨rfl,by rw [if_pos (show colP (l4 ps)∨colP (m4 ps) from .inr k2)];exact ⟨rfl,rfl⟩⟩
  ·simp only [if_neg k2] at hB2
   repeat refine aB ?_
   (refine aQ rfl (hB1 _ _ aA) ?_;rintro _ _ _ ⟨rfl,ha,rfl,ham,rfl⟩;refine aL ?_)
   repeat refine aB ?_
   refine dS (fun b8=>?_)
   repeat refine aB ?_
   (refine aQ rfl (hB2 _ _ aA) ?_;rintro _ _ _ ⟨rfl,hb,rfl,hbm,rfl⟩;refine aL ?_)
   repeat refine aB ?_
   refine dS (fun b10=>?_)
   repeat refine aB ?_
   have hC:=fun M0 I0 h1=>aYX (X:=X) (w0:=w0) (M0:=M0) (I0:=I0) (h:=ha) (u:=256) (by omega) h1
   have hT:=fun (c:HZ) M0 I0 h1=>aHZ (X:=X) (w0:=w0) (M0:=M0) (I0:=I0) (h:=c) (u:=513) h1
   have hP:=fun (c:HZ) M0 I0 h1 h2=>aVY (X:=X) (w0:=w0) (M0:=M0) (I0:=I0) (g:=hb) (h:=c) (ku:=256) (m:=513) (by omega) (by omega) h1 h2
   have hRd:=fun (p:HZ) (hnz:∃x∈gN p.m,x≠0) M0 I0 h1=>bAO (X:=X) (w0:=w0) (M0:=M0) (I0:=I0) (h:=p) (u:=772) (by omega) hnz h1
   (repeat refine aG ?_);refine qQ (.blk b10 (vJ hb) 44:: .blk b8 (vJ ha) 44::M0) (I0) [0,1,2,3,4,5,6,7] [3,3,0,0,0,0,0,0] mixed ?_
   repeat refine aB ?_
   (refine aQ rfl (hC _ _ aA) ?_;rintro _ _ _ ⟨rfl,c,rfl,hc,rfl⟩;refine aL ?_)
   (refine aQ rfl (hT c _ _ aA) ?_;rintro _ _ _ ⟨rfl,rfl,rfl⟩;refine aL ?_)
   (refine aQ rfl (hP c.tr _ _ aA aA) ?_;rintro _ _ _ ⟨rfl,p,rfl,hpm,rfl⟩;refine aL ?_)
   have hpG:p.m=sJ ps:=by rw [hpm,HZ.tr_m,hc,ham,hbm];rfl
   (refine bY rfl (hRd p (by rw [hpG];exact aPD k1 k2) _ _ aA) rfl rfl ?_;rintro _ _ _ ⟨rfl,r,g,rfl,hg0,hrm,hrr,rfl⟩;refine aL ?_)
   rw [hpG] at hrm
   repeat refine aB ?_
   refine fF (rs:=[.cell 2 44, .tmp 3]) (vs:=[hv9 r, .int .i64 0]) (.inl rfl) rfl (.cellN (cs:=vJ r) inferInstance rfl aA rfl (.tmp rfl .nil)) rfl M0 (iV r 772::I0) aF aD ⟨rfl,by rw [if_neg (show ¬(colP (l4 ps)∨colP (m4 ps)) from fun h=>h.elim k1 k2)];exact ⟨r,g,rfl,hg0,hrm,hrr,rfl⟩⟩
theorem aWA {x:ZE}:CD Tryz.prog 108 [nv x] X w0 M0 I0 (fun v M I=>M0=M∧I0=I∧v= .bool (B (x.z≠0))):=by
 refine aS Tryz.func108 rfl Tryz.ntmps108 rfl ?_
 refine iH ?_
 refine gU rfl (fun b1=>?_)
 repeat refine aB ?_
 refine fB (M':=M0) (I':=I0) aF aD ?_
 refine iA rfl rfl (⟨rfl,rfl,congrArg Value.bool (iG (by
  have h0:gr x.z.natAbs=[]↔x.z.natAbs=0:=oO
  rw [←List.length_eq_zero_iff] at h0
  omega))⟩)
theorem bCB {b:Nat} {es:List ZE} {T:TypeId} (hl:es.length=9) (hm:Ent.blk b (recs eN es) T∈M0) (hnz:∃j:Nat,j < 9∧(gt es (j:Int)).z≠0):
  CD Tryz.prog 107 [.slice (some ⟨b,0,none⟩) 9 9, .func (.func 108) #[] #[]] X w0 M0 I0 (fun v M I=>M0=M∧I0=I∧∃f:Nat,v= .int .i64 (f:Int)∧f < 9∧(gt es (f:Int)).z≠0∧∀j:Nat,j < f→(gt es (j:Int)).z=0):=by
 have hC:=fun (x:ZE) M0 I0=>aWA (X:=X) (w0:=w0) (M0:=M0) (I0:=I0) (x:=x)
 refine aN Tryz.func107 rfl Tryz.ntmps107 rfl ?_
 repeat refine aB ?_
 refine lV [0,1,7] rfl (fun k G M I=>∃(i:Nat),i≤9∧k=9 - i∧(∀j:Nat,j < i→(gt es (j:Int)).z=0)∧G=[(8, .int .i64 i)]∧M=M0∧I=I0) (9) (⟨0,by omega,rfl,fun j hj=>absurd hj (by omega),rfl,rfl,rfl⟩) ?_
 rintro kk G M I ⟨i,hi,rfl,hz,rfl,rfl,rfl⟩
 by_cases hii:i < 9
 ·obtain ⟨x,hx⟩:∃x,gt es (i:Int)=x:=⟨_,rfl⟩
  repeat refine aB ?_
  rw [hx]
  (refine eQ rfl rfl (hC x _ _) rfl rfl rfl ?_;rintro _ _ _ ⟨rfl,rfl,rfl⟩;refine aL ?_)
  by_cases hx0:x.z=0
  ·rw [bE (show ¬x.z≠0 from fun h=>h hx0)]
   repeat refine aB ?_
   refine gJ (9 - (i+1)) (⟨i+1,by omega,rfl,fun j hj=>by
    by_cases e:j=i
    ·subst e;rw [hx];exact hx0
    ·exact hz j (by omega),rfl,rfl,rfl⟩)
  ·rw [bJ (show x.z≠0 from hx0)]
   repeat refine aB ?_
   refine aP (by first|exact .inl rfl|exact .inr rfl) rfl rfl _ _ aF aD (⟨rfl,rfl,i,rfl,hii,by rw [hx];exact hx0,hz⟩)
 ·obtain ⟨j,hj,hj0⟩:=hnz
  exact absurd (hz j (by omega)) hj0
theorem aKB {x:ZE} {u:Nat} (hu:u≤100000000000) (hx:jD x u∈I0):CD Tryz.prog 189 [nv x] X w0 M0 I0 (fun v M I=>M0=M∧I0=I∧v=nv x):=by
 have hV:=fun M0 I0 h1=>rO (X:=X) (w0:=w0) (M0:=M0) (I0:=I0) (u:=nv x) (z:=x.z) (k:=u) (by omega) h1
 refine CD.mono (K:=fun v M I=>M0=M∧I0=I∧v=nv x) ?_ (fun _ _ _ h=>h)
 refine aS Tryz.func189 rfl Tryz.ntmps189 rfl ?_
 refine iH ?_
 refine gU rfl (fun b1=>?_)
 refine dS (fun b2=>?_)
 repeat refine aB ?_
 refine dK rfl (hV _ _ aA) ?_
 repeat refine aB ?_
 refine aT (cs:=eN x) (.inl rfl) rfl rfl aA rfl M0 I0 aF aD ⟨rfl,rfl,rfl⟩
theorem aYP {x y:ZE} {u:Nat} (hu:u≤100000000000) (hy0:y.z≠0) (hx:jD x u∈I0) (hy:jD y u∈I0):CD Tryz.prog 109 [nv x,nv y] X w0 M0 I0 (RQc (Rat.divInt x.z y.z) u M0 I0):=by
 have hC:=fun (x:ZE) M0 I0 h=>aKB (X:=X) (w0:=w0) (M0:=M0) (I0:=I0) (x:=x) (u:=u) hu h
 have hS:=fun M0 I0 h=>qB (X:=X) (w0:=w0) (M0:=M0) (I0:=I0) (u:=nv y) (z:=y.z) (k:=u) (by omega) h
 have hR:=fun M0 I0 h1 h2=>vF (X:=X) (w0:=w0) (M0:=M0) (I0:=I0) (u:=nv x) (v:=nv y) (n:=x.z) (d:=y.z) (k:=u) (by omega) hy0 h1 h2
 have hs0:¬y.z.sign=0:=fun h=>hy0 (Int.sign_eq_zero_iff_zero.1 h)
 refine aN Tryz.func109 rfl Tryz.ntmps109 rfl ?_
 refine iH ?_
 refine gU rfl (fun b2=>?_)
 refine gU rfl (fun b3=>?_)
 refine dS (fun b4=>?_)
 repeat refine aB ?_
 (repeat refine aG ?_);refine bA 2 [0,2,1,3,4,5] [1,2,0,0,0,0] mixed (by kernel_rfl) ?_
 repeat refine aB ?_
 refine dK rfl (hC x _ _ aA) ?_
 repeat refine aB ?_
 refine dK rfl (hC y _ _ aA) ?_
 repeat refine aB ?_
 refine dK rfl (hS _ _ aA) ?_
 repeat refine aB ?_
 (refine aQ rfl (hR _ _ aA aA) ?_;rintro _ _ _ ⟨rfl,e,rfl,he,rfl⟩;refine aL ?_)
 repeat refine aB ?_
 refine fF (rs:=[.cell 4 77, .tmp 5]) (vs:=[rv e, .int .i64 0]) (.inl rfl) rfl (.cellN (cs:=eR e) inferInstance rfl aA rfl (.tmp rfl .nil)) rfl M0 (bW e u::I0) aF aD ⟨rfl,e,rfl,he,rfl⟩
end
abbrev eV2 (p:Int × Int):List Value:=[.int .i64 p.1, .int .i64 p.2]
abbrev vV2 (p:Int × Int):Value:= .agg (eV2 p).toArray
instance eV2.szd:Sized eV2 2:=⟨fun _=>rfl⟩
instance eV2.ones:Ones eV2:=⟨fun m u hu=>by simp [eV2] at hu;rcases hu with rfl|rfl <;>rfl⟩
def nr2 (p:Int × Int):Prop:=(-32768≤p.1∧p.1≤32768)∧(-32768≤p.2∧p.2≤32768)
def orZ (a b c:Int × Int):Int:=(b.1 - a.1)*(c.2 - a.2) - (b.2 - a.2)*(c.1 - a.1)
def hg2 (p:Int × Int):T3 Int:=⟨p.1,p.2,1⟩
theorem aJE (a b c:Int × Int):orZ a b c=d3 (hg2 a) (hg2 b) (hg2 c):=by
 simp only [orZ,d3,T3.cross,T3.dot,hg2]
 grind
def aFN (ps:List (Int × Int)) (i:Nat):Int:=if i=0 then orZ (gt ps 1) (gt ps 2) (gt ps 3) else if i=1 then orZ (gt ps 2) (gt ps 3) (gt ps 0) else if i=2 then orZ (gt ps 3) (gt ps 0) (gt ps 1) else orZ (gt ps 0) (gt ps 1) (gt ps 2)
theorem aWJ (ps:List (Int × Int)):(∃i,i < 4∧aFN ps i=0)↔colP ⟨hg2 (gt ps 0),hg2 (gt ps 1),hg2 (gt ps 2),hg2 (gt ps 3)⟩:=by
 have e0:aFN ps 0=P4.k0 ⟨hg2 (gt ps 0),hg2 (gt ps 1),hg2 (gt ps 2),hg2 (gt ps 3)⟩:=by
  show orZ (gt ps 1) (gt ps 2) (gt ps 3)=_
  rw [aJE]
  simp only [P4.k0,d3,T3.cross,T3.dot]
  grind
 have e1:aFN ps 1= -P4.k1 ⟨hg2 (gt ps 0),hg2 (gt ps 1),hg2 (gt ps 2),hg2 (gt ps 3)⟩:=by
  show orZ (gt ps 2) (gt ps 3) (gt ps 0)=_
  rw [aJE]
  simp only [P4.k1,d3,T3.cross,T3.dot]
  grind
 have e2:aFN ps 2=P4.k2 ⟨hg2 (gt ps 0),hg2 (gt ps 1),hg2 (gt ps 2),hg2 (gt ps 3)⟩:=by
  show orZ (gt ps 3) (gt ps 0) (gt ps 1)=_
  rw [aJE]
  simp only [P4.k2,d3,T3.cross,T3.dot]
  grind
 have e3:aFN ps 3=P4.k3 ⟨hg2 (gt ps 0),hg2 (gt ps 1),hg2 (gt ps 2),hg2 (gt ps 3)⟩:=by
  show orZ (gt ps 0) (gt ps 1) (gt ps 2)=_
  rw [aJE]
  rfl
 unfold colP
 constructor
 ·rintro ⟨i,hi,h⟩
  obtain rfl|rfl|rfl|rfl:i=0∨i=1∨i=2∨i=3:=by omega
  ·exact .inl (by rw [←e0];exact h)
  ·exact .inr (.inl (by omega))
  ·exact .inr (.inr (.inl (by rw [←e2];exact h)))
  ·exact .inr (.inr (.inr (by rw [←e3];exact h)))
 ·rintro (h|h|h|h)
  ·exact ⟨0,by decide,by rw [e0];exact h⟩
  ·exact ⟨1,by decide,by rw [e1];omega⟩
  ·exact ⟨2,by decide,by rw [e2];exact h⟩
  ·exact ⟨3,by decide,by rw [e3];exact h⟩
theorem aZR {i:Nat} (h:i < 4):∃a b c:Int,Int.tmod ((i:Int)+1) 4=a∧Int.tmod ((i:Int)+2) 4=b∧Int.tmod ((i:Int)+3) 4=c∧(0≤a∧a < 4)∧(0≤b∧b < 4)∧(0≤c∧c < 4)∧∀ps:List (Int × Int),orZ (gt ps a) (gt ps b) (gt ps c)=aFN ps i:=by
 obtain rfl|rfl|rfl|rfl:i=0∨i=1∨i=2∨i=3:=by omega
 ·exact ⟨1,2,3,rfl,rfl,rfl,by decide,by decide,by decide,fun _=>rfl⟩
 ·exact ⟨2,3,0,rfl,rfl,rfl,by decide,by decide,by decide,fun _=>rfl⟩
 ·exact ⟨3,0,1,rfl,rfl,rfl,by decide,by decide,by decide,fun _=>rfl⟩
 ·exact ⟨0,1,2,rfl,rfl,rfl,by decide,by decide,by decide,fun _=>rfl⟩
theorem aVW {a b:Int} (ha: -65536≤a∧a≤65536) (hb: -65536≤b∧b≤65536): -4294967296≤a*b∧a*b≤4294967296:=by
 have h1:a.natAbs*b.natAbs≤65536*65536:=Nat.mul_le_mul (by omega) (by omega)
 have h2:(a*b).natAbs=a.natAbs*b.natAbs:=Int.natAbs_mul a b
 omega
section
variable {X:List Nat} {w0:World} {M0:List Ent} {I0:List aM}
theorem aLA {p:Int × Int} (h:nr2 p):CD Tryz.prog 292 [vV2 p] X w0 M0 I0 (fun v M I=>M0=M∧I0=I∧v= .bool true):=by
 obtain ⟨⟨h1,h2⟩,h3,h4⟩:=h
 refine aS Tryz.func292 rfl Tryz.ntmps292 rfl ?_
 refine iH ?_
 refine gU rfl (fun b1=>?_)
 refine aI (cs:=eV2 p) .here ?_
 repeat refine aB ?_
 rw [bJ (show -1048576≤p.1 by omega)]
 repeat refine aB ?_
 rw [bJ (show p.1≤1048576 by omega)]
 repeat refine aB ?_
 rw [bJ (show -1048576≤p.2 by omega)]
 repeat refine aB ?_
 rw [bJ (show p.2≤1048576 by omega)]
 repeat refine aB ?_
 refine fB (M':=M0) (I':=I0) aF aD ?_
 refine iA rfl rfl (⟨rfl,rfl,rfl⟩)
theorem aZT {b:Nat} {ps:List (Int × Int)} (hl:ps.length=3) (h:∀p∈ps,nr2 p) (hb:aH (some ⟨b,0,none⟩) (recs eV2 ps)∈I0):CD Tryz.prog 257 [.slice (some ⟨b,0,none⟩) 3 3] X w0 M0 I0 (fun v M I=>M0=M∧I0=I∧v= .bool true):=by
 refine aX (φ:=aH (some ⟨b,0,none⟩) (recs eV2 ps)) (Hv.mem hb) ?_
 refine aS Tryz.func257 rfl Tryz.ntmps257 rfl ?_
 repeat refine aB ?_
 refine lV [0] rfl (fun k G M I=>∃i:Nat,i≤3∧k=3 - i∧G=[(3, .int .i64 i)]∧M0=M∧I=aH (some ⟨b,0,none⟩) (recs eV2 ps)::I0) (3) (⟨0,by omega,rfl,rfl,rfl,rfl⟩) ?_
 rintro kk G M I ⟨i,hi,rfl,rfl,rfl,rfl⟩
 by_cases hii:i < 3
 ·obtain ⟨p,hp⟩:∃p,gt ps (i:Int)=p:=⟨_,rfl⟩
  have hn:=h p (by rw [←hp];exact bD ⟨by omega,by omega⟩)
  have hV:=fun M0 I0=>aLA (X:=X) (w0:=w0) (M0:=M0) (I0:=I0) hn
  repeat refine aB ?_
  rw [hp]
  refine dK rfl (hV _ _) ?_
  repeat refine aB ?_
  refine gJ (3 - (i+1)) (⟨i+1,by omega,rfl,rfl,rfl,rfl⟩)
 ·repeat refine aB ?_
  refine fB (M':=M0) (I':=I0) aF aD ?_
  refine iA rfl rfl (⟨rfl,rfl,rfl⟩)
theorem aMI {x:Int}:CD Tryz.prog 258 [.int .i64 x] X w0 M0 I0 (fun v M I=>M0=M∧I0=I∧v= .int .i64 x.sign):=by
 refine aS Tryz.func258 rfl Tryz.ntmps258 rfl ?_
 by_cases h1:x < 0
 ·rw [Int.sign_eq_neg_one_of_neg h1]
  repeat refine aB ?_
  refine iA rfl rfl (⟨rfl,rfl,rfl⟩)
 by_cases h2:0 < x
 ·rw [Int.sign_eq_one_of_pos h2]
  repeat refine aB ?_
  refine iA rfl rfl (⟨rfl,rfl,rfl⟩)
 obtain rfl:x=0:=by omega
 repeat refine aB ?_
 refine iA rfl rfl (⟨rfl,rfl,rfl⟩)
theorem aMG {a b c:Int × Int} (ha:nr2 a) (hb:nr2 b) (hc:nr2 c):CD Tryz.prog 209 [vV2 a,vV2 b,vV2 c] X w0 M0 I0 (fun v M I=>M0=M∧I0=I∧v= .int .i64 (orZ a b c).sign):=by
 have hA:=fun (q:Nat) M0 I0 h=>aZT (X:=X) (w0:=w0) (M0:=M0) (I0:=I0) (b:=q) (ps:=[a,b,c]) rfl (fun p hp=>by
  simp only [List.mem_cons,List.not_mem_nil,or_false] at hp
  rcases hp with rfl|rfl|rfl <;>assumption) h
 have hS:=fun M0 I0=>aMI (X:=X) (w0:=w0) (M0:=M0) (I0:=I0) (x:=orZ a b c)
 obtain ⟨⟨a1,a2⟩,a3,a4⟩:=ha
 obtain ⟨⟨b1,b2⟩,b3,b4⟩:=hb
 obtain ⟨⟨c1,c2⟩,c3,c4⟩:=hc
 have m1:=aVW (a:=b.1 - a.1) (b:=c.2 - a.2) (by omega) (by omega)
 have m2:=aVW (a:=b.2 - a.2) (b:=c.1 - a.1) (by omega) (by omega)
 have mB: -9223372036854775808≤(b.1 - a.1)*(c.2 - a.2)∧(b.1 - a.1)*(c.2 - a.2)≤9223372036854775807:=by omega
 have mC: -9223372036854775808≤(b.2 - a.2)*(c.1 - a.1)∧(b.2 - a.2)*(c.1 - a.1)≤9223372036854775807:=by omega
 unfold orZ at hS ⊢
 refine gG Tryz.func209 rfl Tryz.ntmps209 rfl ?_
 refine iH ?_
 refine gU rfl (fun q3=>?_)
 refine aI (cs:=eV2 a) .here ?_
 refine gU rfl (fun q4=>?_)
 refine aI (cs:=eV2 b) .here ?_
 refine gU rfl (fun q5=>?_)
 refine aI (cs:=eV2 c) .here ?_
 repeat refine aB ?_
 refine gX (cs:=recs eV2 [a,b,c]) ([vV2 a,vV2 b,vV2 c]) rfl (fun q6=>?_)
 refine aI .here ?_
 refine dK rfl (hA q6 _ _ aA) ?_
 repeat refine aB ?_
 generalize (b.1 - a.1)*(c.2 - a.2)=y1 at*
 generalize (b.2 - a.2)*(c.1 - a.1)=y2 at*
 repeat refine aB ?_
 refine dK rfl (hS _ _) ?_
 repeat refine aB ?_
 refine fB (M':=M0) (I':=I0) aF aD ?_
 refine iA rfl rfl (⟨rfl,rfl,rfl⟩)
theorem aOZ {ps:List (Int × Int)} (hl:ps.length=4) (h:∀p∈ps,nr2 p):CD Tryz.prog 139 [.agg (recs eV2 ps).toArray] X w0 M0 I0 (fun v M I=>M0=M∧I0=I∧v= .bool (B (colP ⟨hg2 (gt ps 0),hg2 (gt ps 1),hg2 (gt ps 2),hg2 (gt ps 3)⟩))):=by
 obtain ⟨p0,p1,p2,p3,rfl⟩:∃p0 p1 p2 p3,ps=[p0,p1,p2,p3]:=⟨_,_,_,_,os4 hl⟩
 obtain ⟨qs,hqs⟩:∃qs,[p0,p1,p2,p3]=qs:=⟨_,rfl⟩
 refine aS Tryz.func139 rfl Tryz.ntmps139 rfl ?_
 refine iH ?_
 refine gU rfl (fun b1=>?_)
 refine aI (cs:=recs eV2 [p0,p1,p2,p3]) .here ?_
 rw [hqs] at h hl ⊢
 clear hqs
 repeat refine aB ?_
 refine lV [1] rfl (fun k G M I=>∃i:Nat,i≤4∧k=4 - i∧(∀t:Nat,t < i→aFN qs t≠0)∧G=[(4, .int .i64 i)]∧M0=M∧I=aH (some ⟨b1,0,none⟩) (recs eV2 qs)::I0) (4) (⟨0,by omega,rfl,fun t ht=>absurd ht (by omega),rfl,rfl,rfl⟩) ?_
 rintro kk G M I ⟨i,hi,rfl,hz,rfl,rfl,rfl⟩
 by_cases hii:i < 4
 ·obtain ⟨a,b,c,ea,eb,ec,ba,bb,bc,hor⟩:=aZR hii
  have ba':0≤Int.tmod ((i:Int)+1) 4∧Int.tmod ((i:Int)+1) 4 < qs.length:=by rw [ea];omega
  have bb':0≤Int.tmod ((i:Int)+2) 4∧Int.tmod ((i:Int)+2) 4 < qs.length:=by rw [eb];omega
  have bc':0≤Int.tmod ((i:Int)+3) 4∧Int.tmod ((i:Int)+3) 4 < qs.length:=by rw [ec];omega
  have hO:=fun M0 I0=>aMG (X:=X) (w0:=w0) (M0:=M0) (I0:=I0) (a:=gt qs a) (b:=gt qs b) (c:=gt qs c) (h _ (bD ⟨by omega,by omega⟩)) (h _ (bD ⟨by omega,by omega⟩)) (h _ (bD ⟨by omega,by omega⟩))
  rw [hor] at hO
  repeat refine aB ?_
  (repeat refine aG ?_);refine qQ (M0) (aH (some ⟨b1,0,none⟩) (recs eV2 qs)::I0) [0,1,2,3,4,5,6,7,8,9,10,11,12,13,14,15,16] [1,1,1,1,0,1,1,1,1,0,1,1,1,1,0,0,0] mixed ?_
  repeat refine aB ?_
  (apply dW;exact eY;exact rfl;exact aA;exact AtsZ.o0 (enc:=eV2) (sz:=2) (ms:=qs) (i:=Int.tmod ((i:Int)+1) 4) ba';exact rfl;exact rfl)
  repeat refine aB ?_
  (apply dW;exact eY;exact rfl;exact aA;exact AtsZ.o0 (enc:=eV2) (sz:=2) (ms:=qs) (i:=Int.tmod ((i:Int)+2) 4) bb';exact rfl;exact rfl)
  repeat refine aB ?_
  (apply dW;exact eY;exact rfl;exact aA;exact AtsZ.o0 (enc:=eV2) (sz:=2) (ms:=qs) (i:=Int.tmod ((i:Int)+3) 4) bc';exact rfl;exact rfl)
  rw [ea,eb,ec]
  repeat refine aB ?_
  refine dK rfl (hO _ _) ?_
  by_cases h0:aFN qs i=0
  ·have hs0:(aFN qs i).sign=0:=Int.sign_eq_zero_iff_zero.2 h0
   repeat refine aB ?_
   refine fB (M':=M0) (I':=I0) aF aD ?_
   refine iA rfl rfl (⟨rfl,rfl,congrArg Value.bool (bJ ((aWJ qs).1 ⟨i,hii,h0⟩)).symm⟩)
  ·have hs0:¬(aFN qs i).sign=0:=fun e=>h0 (Int.sign_eq_zero_iff_zero.1 e)
   repeat refine aB ?_
   refine gJ (4 - (i+1)) (⟨i+1,by omega,rfl,fun t ht=>by
    by_cases e:t=i
    ·rw [e];exact h0
    ·exact hz t (by omega),rfl,rfl,rfl⟩)
 ·obtain rfl:i=4:=by omega
  repeat refine aB ?_
  refine fB (M':=M0) (I':=I0) aF aD ?_
  refine iA rfl rfl (⟨rfl,rfl,congrArg Value.bool (bE (fun hc=>by
   obtain ⟨t,ht,e⟩:=(aWJ qs).2 hc
   exact hz t ht e)).symm⟩)
end
end Go.Proofs.YtmmmfphealhapaaGreat
namespace Go.Fx
open Go
section
variable {P:Program} {n:Nat} {G:Env} {C:World→Prop} {ty:TypeId}
theorem vB {t e:TypeId} {sz len:Nat} {x ix:Operand} {cs:List Value} {v:Value} {k:IntKind} {i:Int} [ht:ArrTy P t len e sz] [he:ScalarTy P e] (hx:ev G x=some (.agg cs.toArray)) (hi:ev G ix=some (.int k i)) (h:0≤i∧i < len)
  (hs:sz=1) (hv:cs[i.toNat]?=some v):Const P n G (.index t x ix) ty C v:=by
 subst hs
 refine ⟨?_⟩
 intro st ha dst pos after guard w _
 have hu:=ht.und
 simp [execOp,Instr.index,ha.ev hx,ha.ev hi,asIntOf,eU hu,h.1,h.2,part,mH,run_sizeOf ht.size,hv]
end
end Go.Fx
namespace Go.Proofs.YtmmmfphealhapaaGreat
open Go Go.Fx
theorem aZY {ps:List Q4} {s:Q4}:hA (ps++[s])=hA ps++[cz (hr1 s),cz (hr2 s)]:=by unfold hA;rw [List.flatMap_append];rfl
theorem aAS {ps:List Q4} (h4:ps.length=4) {j:Nat} (hj:j∈kR (eP (hA ps) 9).2 9):Go.Proofs.YtmmmfphealhapaaGreat.ker 8 9 (at2 (hA ps)) (fun c=>(kZ (eP (hA ps) 9).1 (eP (hA ps) 9).2 9 j).getD c 0)∧(kZ (eP (hA ps) 9).1 (eP (hA ps) 9).2 9 j).getD j 0=1∧j < 9∧∀i,i∈kR (eP (hA ps) 9).2 9→i≠j→(kZ (eP (hA ps) 9).1 (eP (hA ps) 9).2 9 j).getD i 0=0:=by
 have hd:=aWR (l:=ps)
 rw [h4] at hd
 obtain ⟨_,s,hr⟩:=iJ hd 9 (Nat.le_refl _)
 have hm:∀{i},i∈kR (eP (hA ps) 9).2 9→i < 9∧i ∉ (eP (hA ps) 9).2:=fun {i} h=>by
  unfold kR at h
  simp only [List.mem_filter,List.mem_range,decide_eq_true_eq] at h
  exact h
 obtain ⟨hj9,hjp⟩:=hm hj
 refine ⟨fun t ht=>?_,?_,hj9,fun i hi hne=>?_⟩
 ·have h1:=hr.null hj9 hjp t ht
  exact (bC (fun c hc=>by show at2 (hA ps) t c*(kZ _ _ 9 j).getD c 0=_;rw [zU hc])).trans h1
 ·rw [zU hj9]
  unfold zD
  rw [if_neg hjp,if_pos rfl]
 ·obtain ⟨hi9,hip⟩:=hm hi
  rw [zU hi9]
  unfold zD
  rw [if_neg hip,if_neg hne]
theorem aNJ {l:List Rat} {i:Nat} (hi:i < l.length):(sG l).getD i 0=l.getD i 0 / rX l:=by
 unfold sG
 simp [List.getD,hi]
theorem aSC {ps:List Q4} (h4:ps.length=4) (hl:¬colP (l4 ps)) (hm:¬colP (m4 ps)):∃z:List Rat,xY (hA ps) 9=[z]∧z.length=9∧rX z≠0∧sG z=sG (gN (oD (sJ ps))):=by
 have hd:=aWR (l:=ps)
 rw [h4] at hd
 obtain ⟨_,s,hr⟩:=iJ hd 9 (Nat.le_refl _)
 have hlen:=hr.free_len
 have h8:(eP (hA ps) 9).2.length≤8:=hr.len
 have key:∀j,j∈kR (eP (hA ps) 9).2 9→rX (kZ (eP (hA ps) 9).1 (eP (hA ps) 9).2 9 j)≠0∧sG (kZ (eP (hA ps) 9).1 (eP (hA ps) 9).2 9 j)=sG (gN (oD (sJ ps))):=fun j hj=>by
  obtain ⟨hk,h1,hj9,_⟩:=aAS h4 hj
  have hl9:(kZ (eP (hA ps) 9).1 (eP (hA ps) 9).2 9 j).length=9:=by simp [kZ]
  have hnz:∃x∈kZ (eP (hA ps) 9).1 (eP (hA ps) 9).2 9 j,x≠0:=⟨_,by
   have:(kZ (eP (hA ps) 9).1 (eP (hA ps) 9).2 9 j).getD j 0∈kZ (eP (hA ps) 9).1 (eP (hA ps) 9).2 9 j:=by
    rw [List.getD_eq_getElem?_getD,List.getElem?_eq_getElem (by omega)]
    exact List.getElem_mem _
   exact this,by rw [h1];decide⟩
  refine ⟨fun e=>?_,aUQ h4 hl hm hl9 hk hnz⟩
  obtain ⟨x,hx,hx0⟩:=hnz
  exact hx0 (bAH.1 e x hx)
 have hone:(kR (eP (hA ps) 9).2 9).length=1:=by
  have hge:1≤(kR (eP (hA ps) 9).2 9).length:=by omega
  apply Classical.byContradiction
  intro hne
  obtain ⟨i,j,hi,hj,hij⟩:∃i j,i∈kR (eP (hA ps) 9).2 9∧j∈kR (eP (hA ps) 9).2 9∧i≠j:=by
   have hnd:(kR (eP (hA ps) 9).2 9).Nodup:=(by unfold kR;exact List.Pairwise.filter _ List.nodup_range)
   match e:kR (eP (hA ps) 9).2 9,hge,hne with
   |[],h,_=>simp at h
   |[_],_,h=>exact absurd rfl h
   |a::b::r,_,_=>
    rw [e] at hnd
    exact ⟨a,b,by simp,by simp,fun h=>by subst h;simp at hnd⟩
  obtain ⟨_,a1,a9,a0⟩:=aAS h4 hi
  obtain ⟨_,b1,b9,b0⟩:=aAS h4 hj
  have e:=(key i hi).2.trans (key j hj).2.symm
  have f:=(key i hi).1
  have hl9:∀t,(kZ (eP (hA ps) 9).1 (eP (hA ps) 9).2 9 t).length=9:=fun t=>by simp [kZ]
  have e2:(sG (kZ (eP (hA ps) 9).1 (eP (hA ps) 9).2 9 i)).getD i 0=(sG (kZ (eP (hA ps) 9).1 (eP (hA ps) 9).2 9 j)).getD i 0:=by rw [e]
  rw [aNJ (by rw [hl9];exact a9),aNJ (by rw [hl9];exact a9),a1,b0 i hi hij] at e2
  have:(1:Rat) / rX (kZ (eP (hA ps) 9).1 (eP (hA ps) 9).2 9 i)≠0:=by grind
  exact this (e2.trans (by rw [Rat.div_def,Rat.zero_mul]))
 obtain ⟨j,hj⟩:∃j,kR (eP (hA ps) 9).2 9=[j]:=by
  match e:kR (eP (hA ps) 9).2 9,hone with
  |[j],_=>exact ⟨j,rfl⟩
 have hjm:j∈kR (eP (hA ps) 9).2 9:=by rw [hj];exact List.mem_cons_self
 refine ⟨kZ (eP (hA ps) 9).1 (eP (hA ps) 9).2 9 j,?_,by simp [kZ],(key j hjm).1,(key j hjm).2⟩
 unfold xY aLS
 rw [hj]
 rfl
theorem aBG:∀(l:List Rat) (x:Rat),rX (l++[x])=if rX l=0 then x else rX l
 |[],x=>by
  show (if x=0 then 0 else x)=if (0:Rat)=0 then x else 0
  rw [if_pos rfl]
  by_cases h:x=0
  ·rw [if_pos h,h]
  ·rw [if_neg h]
 |y::r,x=>by
  have ih:=aBG r x
  show (if y=0 then rX (r++[x]) else y)=if (if y=0 then rX r else y)=0 then x else (if y=0 then rX r else y)
  by_cases h:y=0
  ·rw [if_pos h,if_pos h,ih]
  ·rw [if_neg h,if_neg h,if_neg h]
def RL.sub (r:RL) (l m:Nat):RL:=⟨wL r.p r.c l 4,r.c - l,(r.es.take m).drop l⟩
theorem Hv.subL {I:List aM} {r:RL} {k l m:Nat} (h:iQ r k∈I) (hm:m≤r.es.length) (hlm:l < m):Hv I (iQ (r.sub l m) k):=⟨fun X w hw=>by
 have hr:=(hw _ h:IsL r k X w)
 have hc:=hr.cap.1
 refine ⟨?_,fun e he=>hr.el e (List.mem_of_mem_take (List.mem_of_mem_drop he)),?_,?_⟩
 ·have:=hr.sl.cut r.c l (m*4) 4 (by rw [fH];exact Nat.mul_le_mul_right _ hc)
  show Sl X w (wL r.p r.c l 4) (recs eR ((r.es.take m).drop l))
  rw [aBL,aBB];exact this
 ·show ((r.es.take m).drop l).length≤r.c - l
  rw [List.length_drop,List.length_take];omega
 ·rcases hr.cap.2 with h|⟨h1,h2⟩
  ·exact .inl (aVA h)
  ·omega⟩
theorem RL.sub_q {r:RL} {l m:Nat}:(r.sub l m).q=(r.q.take m).drop l:=by
 show qs ((r.es.take m).drop l)=((qs r.es).take m).drop l
 simp [qs,List.map_drop,List.map_take]
theorem Hv.mkX {I:List aM} {b k:Nat} {rows:List RL} (h:aH (some ⟨b,0,none⟩) (recs eL rows)∈I) (hr:dX rows k∈I):Hv I (iB ⟨some ⟨b,0,none⟩,rows.length,rows⟩ k):=⟨fun X w hw=>⟨(hw _ h:SlI _ _ X w).go,(hw _ hr:AllL rows k X w).go,⟨Nat.le_refl _, .inl (Ok.mk _ _)⟩⟩⟩
theorem aNU {l:List Rat} (h:l.length=9):[(l.take 3).drop 0,(l.take 6).drop 3,(l.take 9).drop 6]=aRN l:=by
 match l,h with
 |[_,_,_,_,_,_,_,_,_],_=>rfl
abbrev eSl (b:Nat):List Value:=[.slice (some ⟨b,0,none⟩) 9 9]
instance eSl.szd:Sized eSl 1:=⟨fun _=>rfl⟩
theorem At.v0 {ms:List (Int × Int)} {i x:Int} (hi:0≤i∧i < ms.length) (hx:(gt ms i).1=x):At (recs eV2 ms) (0+i.toNat*2+0) (.int .i64 x):=by rw [Nat.zero_add];exact At.r2 (j:=0) hi (by rw [←hx];rfl)
theorem At.v1 {ms:List (Int × Int)} {i x:Int} (hi:0≤i∧i < ms.length) (hx:(gt ms i).2=x):At (recs eV2 ms) (0+i.toNat*2+1) (.int .i64 x):=by rw [Nat.zero_add];exact At.r2 (j:=1) hi (by rw [←hx];rfl)
def inC (x:Int):Prop:=(-9223372036854775808≤x∧x≤9223372036854775807)∧x.natAbs≤2 ^ 31
theorem pair9 {b9 b10 t:Nat} {x1 x2:List Int} {I:List aM} (h1:aH (some ⟨b9,0,none⟩) (recs eZ x1)∈I) (h2:aH (some ⟨b10,0,none⟩) (recs eZ x2)∈I) (l1:x1.length=9) (l2:x2.length=9) (hx1:∀z∈x1,inC z) (hx2:∀z∈x2,inC z) (ht:t < 2):
  ∃(bt:Nat) (xs:List Int),gt [b9,b10] (t:Int)=bt∧aH (some ⟨bt,0,none⟩) (recs eZ xs)∈I∧xs.length=9∧(∀z∈xs,inC z)∧[cz x1,cz x2].take (t+1)=[cz x1,cz x2].take t++[cz xs]:=by
 rcases (show t=0∨t=1 by omega) with rfl|rfl
 ·exact ⟨b9,x1,rfl,h1,l1,hx1,rfl⟩
 ·exact ⟨b10,x2,rfl,h2,l2,hx2,rfl⟩
theorem wZ {a b:Int} (ha: -32768≤a∧a≤32768) (hb: -32768≤b∧b≤32768): -1073741824≤a*b∧a*b≤1073741824:=by
 have h1:a.natAbs*b.natAbs≤32768*32768:=Nat.mul_le_mul (by omega) (by omega)
 have h2:(a*b).natAbs=a.natAbs*b.natAbs:=Int.natAbs_mul a b
 omega
theorem hr_in {s:Q4} (h:s.near):(∀z∈hr1 s,inC z)∧∀z∈hr2 s,inC z:=by
 obtain ⟨n1,n2,n3,n4⟩:=h
 have m1:=wZ (a:= -s.u) (b:=s.x) (by omega) n1
 have m2:=wZ (a:= -s.u) (b:=s.y) (by omega) n2
 have m3:=wZ (a:= -s.v) (b:=s.x) (by omega) n1
 have m4:=wZ (a:= -s.v) (b:=s.y) (by omega) n2
 unfold inC hr1 hr2
 rw [show (2:Nat) ^ 31=2147483648 from rfl]
 constructor
 ·intro z hz
  simp only [List.mem_cons,List.not_mem_nil,or_false] at hz
  rcases hz with rfl|rfl|rfl|rfl|rfl|rfl|rfl|rfl|rfl <;>omega
 ·intro z hz
  simp only [List.mem_cons,List.not_mem_nil,or_false] at hz
  rcases hz with rfl|rfl|rfl|rfl|rfl|rfl|rfl|rfl|rfl <;>omega
end Go.Proofs.YtmmmfphealhapaaGreat
namespace Go.Fx
theorem wXn {p g:Prop} (h:g) (w:BoxP g→p:=by (intro hh;(first|refine aG ?_|refine dB ?_|refine oN ?_|refine lL ?_|refine jK ?_|refine jB ?_|refine lI ?_|refine kV ?_|refine jP ?_|refine jO ?_|refine oJ ?_|refine oI ?_|refine oU ?_|refine nZ rfl ?_|refine bK ?_|(refine jU ?_;first|refine kD rfl rfl rfl ?_|(refine jT rfl rfl ?_;refine iT rfl rfl rfl okD ?_)|refine jZ rfl rfl (by omega) ?_|refine jX rfl rfl (by omega) ?_)|(refine eO ?_;refine aC rfl (fun _=>fM rfl) rfl rfl ?_)|refine aC rfl (fun _=>bN rfl) rfl rfl ?_|(refine jY ?_;first|refine aC rfl (fun _=>dD rfl rfl w_) rfl rfl ?_|refine aC rfl (fun _=>dC rfl rfl w_) rfl rfl ?_|refine aC rfl (fun _=>gQ rfl rfl w_) rfl rfl ?_|refine aC rfl (fun _=>gT rfl rfl (by omega) q_) rfl rfl ?_|refine aC rfl (fun _=>gP rfl rfl (by omega) rfl) rfl rfl ?_|refine aC rfl (fun _=>fJ rfl rfl) rfl rfl ?_)|(refine eO ?_;first|refine aC rfl (fun _=>gD rfl w_) rfl rfl ?_)|(refine jW ?_;first|refine aC rfl (fun _=>fD rfl w_) rfl rfl ?_)|(refine jV ?_;first|refine aC rfl (fun _=>cZ rfl) rfl rfl ?_|refine aC rfl (fun _=>fK rfl rfl) rfl rfl ?_|refine aC rfl (fun _=>fP rfl rfl) rfl rfl ?_|refine aC rfl (fun _=>fQ rfl rfl rfl) rfl rfl ?_)|(refine kG ?_;first|refine kI rfl (by decide) rfl rfl ?_|refine mM rfl (by decide) rfl rfl ?_)|(refine kH ?_;first|refine aC rfl (fun _=>fC rfl) rfl rfl ?_)|(refine kL ?_;first|refine mQ rfl rfl iC rfl rfl ?_|refine mO vwX rfl rfl iC aZ mU rfl rfl ?_|refine mJ vwX rfl rfl iC aZ mU rfl rfl ?_|refine aC rfl (fun _=>dZ rfl rfl iC) rfl rfl ?_)|(refine bM ?_;first|refine mK vwX rfl aZ xX rfl rfl ?_|refine mP vwX rfl aZ xX rfl rfl ?_|refine gI vwX rfl aZ xX rfl rfl ?_|refine kK vwX rfl aZ xX rfl rfl ?_|refine qV vwX rfl aZ nE jN rfl rfl ?_|refine rA vwX rfl aZ nE jN rfl rfl ?_|refine qX vwX rfl aZ nE jN rfl rfl ?_|refine nX vwX rfl aZ nE jN rfl rfl ?_)|(refine kF ?_;first|refine aC rfl (fun _=>dY rfl rfl) rfl rfl ?_|refine aC rfl (fun _=>dG rfl) rfl rfl ?_)|(refine nI ?_;first|refine mX rfl rfl rfl tJ stC rfl rfl ⟨okD,?_⟩|refine fO rfl rfl jN aCG tJ aCL rfl rfl ⟨okD,?_⟩)|(refine lH ?_;first|refine fG rfl ?_|refine eF rfl ?_|refine oK rfl (by omega) ?_|refine sP rfl (by omega) ?_));(repeat (first|refine aG ?_|refine dB ?_|refine oN ?_|refine lL ?_|refine jK ?_|refine jB ?_|refine lI ?_|refine kV ?_|refine jP ?_|refine jO ?_|refine oJ ?_|refine oI ?_|refine oU ?_|refine nZ rfl ?_|refine bK ?_|(refine jU ?_;first|refine kD rfl rfl rfl ?_|(refine jT rfl rfl ?_;refine iT rfl rfl rfl okD ?_)|refine jZ rfl rfl (by omega) ?_|refine jX rfl rfl (by omega) ?_)|(refine eO ?_;refine aC rfl (fun _=>fM rfl) rfl rfl ?_)|refine aC rfl (fun _=>bN rfl) rfl rfl ?_|(refine jY ?_;first|refine aC rfl (fun _=>dD rfl rfl w_) rfl rfl ?_|refine aC rfl (fun _=>dC rfl rfl w_) rfl rfl ?_|refine aC rfl (fun _=>gQ rfl rfl w_) rfl rfl ?_|refine aC rfl (fun _=>gT rfl rfl (by omega) q_) rfl rfl ?_|refine aC rfl (fun _=>gP rfl rfl (by omega) rfl) rfl rfl ?_|refine aC rfl (fun _=>fJ rfl rfl) rfl rfl ?_)|(refine eO ?_;first|refine aC rfl (fun _=>gD rfl w_) rfl rfl ?_)|(refine jW ?_;first|refine aC rfl (fun _=>fD rfl w_) rfl rfl ?_)|(refine jV ?_;first|refine aC rfl (fun _=>cZ rfl) rfl rfl ?_|refine aC rfl (fun _=>fK rfl rfl) rfl rfl ?_|refine aC rfl (fun _=>fP rfl rfl) rfl rfl ?_|refine aC rfl (fun _=>fQ rfl rfl rfl) rfl rfl ?_)|(refine kG ?_;first|refine kI rfl (by decide) rfl rfl ?_|refine mM rfl (by decide) rfl rfl ?_)|(refine kH ?_;first|refine aC rfl (fun _=>fC rfl) rfl rfl ?_)|(refine kL ?_;first|refine mQ rfl rfl iC rfl rfl ?_|refine mO vwX rfl rfl iC aZ mU rfl rfl ?_|refine mJ vwX rfl rfl iC aZ mU rfl rfl ?_|refine aC rfl (fun _=>dZ rfl rfl iC) rfl rfl ?_)|(refine bM ?_;first|refine mK vwX rfl aZ xX rfl rfl ?_|refine mP vwX rfl aZ xX rfl rfl ?_|refine gI vwX rfl aZ xX rfl rfl ?_|refine kK vwX rfl aZ xX rfl rfl ?_|refine qV vwX rfl aZ nE jN rfl rfl ?_|refine rA vwX rfl aZ nE jN rfl rfl ?_|refine qX vwX rfl aZ nE jN rfl rfl ?_|refine nX vwX rfl aZ nE jN rfl rfl ?_)|(refine kF ?_;first|refine aC rfl (fun _=>dY rfl rfl) rfl rfl ?_|refine aC rfl (fun _=>dG rfl) rfl rfl ?_)|(refine nI ?_;first|refine mX rfl rfl rfl tJ stC rfl rfl ⟨okD,?_⟩|refine fO rfl rfl jN aCG tJ aCL rfl rfl ⟨okD,?_⟩)|(refine lH ?_;first|refine fG rfl ?_|refine eF rfl ?_|refine oK rfl (by omega) ?_|refine sP rfl (by omega) ?_)));exact hh.out)):p:=w ⟨h⟩
end Go.Fx
namespace Go.Proofs.YtmmmfphealhapaaGreat
open Go Go.Fx
theorem aFS {α:Type} [Inhabited α] {a b:List α} (hl:a.length=b.length) (h:∀j:Nat,j < a.length→gt a j=gt b j):a=b:=by
 apply List.ext_getElem hl
 intro j h1 h2
 have:=h j h1
 rwa [fE h1,fE h2] at this
section
variable {X:List Nat} {w0:World} {M0:List Ent} {I0:List aM}
theorem aUG {p q:Option Addr} {a b:List Int} {c c':Nat} (hn:(a.length:Int)≤9223372036854775807) (ha:aH p (recs (eI .i64) a)∈I0) (hb:aH q (recs (eI .i64) b)∈I0):
  CD Tryz.prog 14 [.slice p a.length c, .slice q b.length c'] X w0 M0 I0 (fun v M I=>M0=M∧I0=I∧v= .bool (B (a=b))):=by
 refine dV Tryz.func14 rfl Tryz.ntmps14 rfl ?_
 repeat' (first|refine wXn ?_|refine aK rfl (fun h=>?_) (fun h=>?_)|refine aJ rfl rfl (fun h=>?_) (fun h=>?_)|fail)
 ·refine aP (by first|exact .inl rfl|exact .inr rfl) rfl rfl _ _ bQ bP (⟨rfl,rfl,congrArg Value.bool (bE (fun h=>by subst h;omega)).symm⟩)
 refine bX [0,1,12] rfl (fun k G M I=>∃i:Nat,i≤a.length∧k=a.length - i∧(∀j:Nat,j < i→gt a j=gt b j)∧G=[(13, .int .i64 i)]∧M=M0∧I=I0) (a.length) _ _ _ dE bQ bP (⟨0,by omega,rfl,fun j hj=>by omega,rfl,rfl,rfl⟩) ?_
 rintro k G M I ⟨i,hi,rfl,hs,rfl,rfl,rfl⟩
 repeat' (first|refine wXn ?_|refine aK rfl (fun h=>?_) (fun h=>?_)|refine aJ rfl rfl (fun h=>?_) (fun h=>?_)|fail)
 ·(repeat refine aG ?_);refine dJ [0,1,2,3,4,5,6,7,8] [0,0,0,0,0,0,0,0,0] mixed (by kernel_rfl) ?_
  repeat' (first|refine wXn ?_|refine aK rfl (fun h=>?_) (fun h=>?_)|refine aJ rfl rfl (fun h=>?_) (fun h=>?_)|fail)
  ·refine aP (by first|exact .inl rfl|exact .inr rfl) rfl rfl _ _ bQ bP (⟨rfl,rfl,congrArg Value.bool (bE (fun h=>by subst h;contradiction)).symm⟩)
  ·refine cB (a.length - (i+1)) _ _ _ (by first|omega|(simp only [List.length_append,List.length_cons,List.length_nil];omega)) dE bQ bP (⟨i+1,by omega,rfl,fun j hj=>?_,rfl,rfl,rfl⟩)
   by_cases e:j=i
   ·subst e;omega
   ·exact hs j (by omega)
 ·refine aP (by first|exact .inl rfl|exact .inr rfl) rfl rfl _ _ bQ bP (⟨rfl,rfl,congrArg Value.bool (bJ (aFS (by omega) (fun j hj=>hs j (by omega)))).symm⟩)
theorem aZA {p:Option Addr} {a:List Int} {c:Nat} {g:FuncId} [FnOk Tryz.prog g] {fs cs:Array Value} (pr:Int→Prop) [DecidablePred pr] (hn:(a.length:Int)≤9223372036854775807) (ha:aH p (recs (eI .i64) a)∈I0)
  (hg:∀i:Nat,i < a.length→CD Tryz.prog g (fs.toList++[.int .i64 (gt a i)]++cs.toList) X w0 M0 I0 (fun v M I=>M0=M∧I0=I∧v= .bool (B (pr (gt a i))))):
  CD Tryz.prog 208 [.slice p a.length c, .func (.func g) fs cs] X w0 M0 I0 (fun v M I=>M0=M∧I0=I∧∃r:Int,v= .int .i64 r∧((∃i:Nat,i < a.length∧r=i∧pr (gt a i)∧∀j:Nat,j < i→¬pr (gt a j))∨(r= -1∧∀j:Nat,j < a.length→¬pr (gt a j)))):=by
 refine dV Tryz.func208 rfl Tryz.ntmps208 rfl ?_
 repeat (refine wXn ?_)
 refine bX [0,1,7] rfl (fun k G M I=>∃i:Nat,i≤a.length∧k=a.length - i∧(∀j:Nat,j < i→¬pr (gt a j))∧G=[(8, .int .i64 i)]∧M=M0∧I=I0) (a.length) _ _ _ dE bQ bP (⟨0,by omega,rfl,fun j hj=>by omega,rfl,rfl,rfl⟩) ?_
 rintro k G M I ⟨i,hi,rfl,hs,rfl,rfl,rfl⟩
 repeat' (first|refine wXn ?_|refine aK rfl (fun h=>?_) (fun h=>?_)|refine aJ rfl rfl (fun h=>?_) (fun h=>?_)|fail)
 ·have hlt:i < a.length:=by omega
  (refine aEO rfl rfl (hg i hlt) rfl rfl rfl ?_;rintro _ _ _ ⟨rfl,rfl,rfl⟩;refine ⟨okD,?_⟩)
  repeat' (first|refine wXn ?_|refine aK rfl (fun h=>?_) (fun h=>?_)|refine aJ rfl rfl (fun h=>?_) (fun h=>?_)|fail)
  ·refine aP (by first|exact .inl rfl|exact .inr rfl) rfl rfl _ _ bQ bP (⟨rfl,rfl,_,rfl, .inl ⟨i,hlt,rfl,by assumption,hs⟩⟩)
  ·refine cB (a.length - (i+1)) _ _ _ (by first|omega|(simp only [List.length_append,List.length_cons,List.length_nil];omega)) dE bQ bP (⟨i+1,by omega,rfl,fun j hj=>?_,rfl,rfl,rfl⟩)
   by_cases e:j=i
   ·subst e;assumption
   ·exact hs j (by omega)
 ·refine aP (by first|exact .inl rfl|exact .inr rfl) rfl rfl _ _ bQ bP (⟨rfl,rfl,_,rfl, .inr ⟨rfl,fun j hj=>hs j (by omega)⟩⟩)
theorem bBD {p:Option Addr} {a:List Int} {c:Nat} {g:FuncId} [FnOk Tryz.prog g] {fs cs:Array Value} (pr:Int→Prop) [DecidablePred pr] (hn:(a.length:Int)≤9223372036854775807) (ha:aH p (recs (eI .i64) a)∈I0)
  (hg:∀i:Nat,i < a.length→CD Tryz.prog g (fs.toList++[.int .i64 (gt a i)]++cs.toList) X w0 M0 I0 (fun v M I=>M0=M∧I0=I∧v= .bool (B (pr (gt a i))))):
  CD Tryz.prog 136 [.slice p a.length c, .func (.func g) fs cs] X w0 M0 I0 (fun v M I=>M0=M∧I0=I∧v= .bool (B (∃x∈a,pr x))):=by
 refine dV Tryz.func136 rfl Tryz.ntmps136 rfl ?_
 repeat (refine wXn ?_)
 (refine aO rfl (aZA pr hn ha hg) rfl rfl ?_;rintro _ _ _ ⟨rfl,rfl,r,rfl,h⟩;refine ⟨okD,?_⟩)
 repeat (refine wXn ?_)
 refine aP (by first|exact .inl rfl|exact .inr rfl) rfl rfl _ _ bQ bP (⟨rfl,rfl,congrArg Value.bool (iG ?_)⟩)
 rcases h with ⟨i,hi,rfl,hp,_⟩|⟨rfl,h⟩
 ·exact ⟨fun _=>⟨gt a i,by rw [fE hi];exact List.getElem_mem hi,hp⟩,fun _=>by omega⟩
 ·refine ⟨fun h=>by omega,?_⟩
  rintro ⟨x,hx,hp⟩
  obtain ⟨j,hj,rfl⟩:=List.mem_iff_getElem.1 hx
  exact absurd (by rw [fE hj];exact hp) (h j hj)
end
end Go.Proofs.YtmmmfphealhapaaGreat

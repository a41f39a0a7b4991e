/- TopLoops, rotation: primitive. -/
import Derived.Test.YtejbgkajdomgcaaZval
import Derived.Test.YtejbgkajdomgcaaZvap
import Derived.Test.YtejbgkajdomgcaaZvak
set_option linter.unusedSimpArgs false
set_option linter.unusedVariables false
set_option maxRecDepth 100000
set_option maxHeartbeats 4000000
namespace Go.Proofs.Ytejbgkajdomgcaa
open Go Go.Fx
abbrev zE0:ZE:=⟨0,none,0⟩
theorem eN_zero:eN zE0=zN:=by
 show [Value.bool (B ((0:Int) < 0)),Value.slice none (gr (0:Int).natAbs).length 0]=_
 rw [bQ (by decide),show (0:Int).natAbs=0 from rfl,eF]
 rfl
theorem isZero {k:Nat} {X:List Nat} {w:World}:IsI (nv zE0) 0 k X w:=⟨none,0,rfl,⟨by rw [show (0:Int).natAbs=0 from rfl,eF];exact Nat.le_refl _, .inr ⟨by rw [show (0:Int).natAbs=0 from rfl,eF];rfl,rfl⟩⟩,Nat.zero_le _,fun j v hj=>by rw [show (0:Int).natAbs=0 from rfl,eF] at hj;simp [recs] at hj⟩
theorem Hv.mem {I:List aO} {φ:aO} (h:φ∈I):Hv I φ:=⟨fun _ _ hw=>hw φ h⟩
theorem Hv.z0 {I:List aO} {k:Nat}:Hv I (isN zE0 k):=⟨fun X w _=>isZero⟩
theorem StAt.o1 {α:Type} {enc:α→List Value} [hz:Sized enc 1] {ms:List α} {i:Int} {v:Value} (mm:α) (hi:0≤i∧i < ms.length) (hv:[v]=enc mm):StAt (recs enc ms) (0+i.toNat*1) v (recs enc (st ms i mm)):=by rw [Nat.zero_add];exact StAt.r1 mm hi hv
def gI (f:Nat→Int):Nat→Int
 |0=>0
 |n+1=>(Int.gcd (gI f n) (f n):Nat)
def fI (f:Nat→Int):Nat→Int
 |0=>0
 |n+1=>if fI f n=0 then f n else fI f n
def wP (es:List ZE):Qn:=⟨(gt es 0).z,(gt es 1).z,(gt es 2).z,(gt es 3).z⟩
theorem gI_g4 (es:List ZE):gI (fun t=>(gt es (t:Int)).z) 4=(Qn.g4 (wP es):Nat):=by
 show ((Int.gcd ((Int.gcd ((Int.gcd ((Int.gcd 0 (gt es 0).z:Nat):Int) (gt es 1).z:Nat):Int) (gt es 2).z:Nat):Int) (gt es 3).z:Nat):Int)=_
 simp only [Int.gcd,Int.natAbs_natCast,Int.natAbs_zero,Nat.gcd_zero_left]
 rfl
theorem aMX (es:List ZE):fI (fun t=>(gt es (t:Int)).z) 4=Qn.lead (wP es):=by
 unfold Qn.lead wP
 simp only [fI,if_true]
 by_cases h1:(gt es 0).z=0
 ·by_cases h2:(gt es 1).z=0
  ·by_cases h3:(gt es 2).z=0
   ·simp [h1,h2,h3]
   ·simp [h1,h2,h3]
  ·simp [h1,h2]
 ·simp [h1]
theorem aOZ (es:List ZE) (h:(wP es).nz) {t:Nat} (ht:t < 4):Qn.gs (wP es) ∣ (gt es (t:Int)).z∧gt (iQ (Qn.prm (wP es))) (t:Int)=(gt es (t:Int)).z / Qn.gs (wP es):=by
 obtain ⟨h1,h2,h3,h4⟩:=Qn.gs_dvd (wP es)
 obtain rfl|rfl|rfl|rfl:t=0∨t=1∨t=2∨t=3:=by omega
 ·exact ⟨h1,rfl⟩
 ·exact ⟨h2,rfl⟩
 ·exact ⟨h3,rfl⟩
 ·exact ⟨h4,rfl⟩
theorem aCW {x g:Int} (hg:g≠0) (hd:g ∣ x) (hx:x.natAbs < 1000000000000000000):x.fdiv g=x / g∧(x / g).natAbs < 1000000000000000000:=by
 obtain ⟨c,rfl⟩:=hd
 rw [Int.mul_ediv_cancel_left _ hg,Int.mul_fdiv_cancel_left _ hg]
 refine ⟨rfl,?_⟩
 rw [Int.natAbs_mul] at hx
 have:1≤g.natAbs:=by omega
 have:=Nat.mul_le_mul_right c.natAbs this
 omega
theorem iQ_of {l:List Int} {q:Qn} (hl:l.length=4) (h:∀j:Nat,j < 4→gt l (j:Int)=gt (iQ q) (j:Int)):q=⟨gt l 0,gt l 1,gt l 2,gt l 3⟩:=
 Qn.ext4 (h 0 (by decide)).symm (h 1 (by decide)).symm (h 2 (by decide)).symm (h 3 (by decide)).symm
section
variable {X:List Nat} {w0:World} {M0:List Ent} {I0:List aO}
theorem NNeg {a:ZE} {k:Nat} (hk:k≤400000000000) (ha:isN a k∈I0):CD Try.prog 67 [nv a] X w0 M0 I0 (NQ (-a.z) k M0 I0):=CD.nq (aOT (by omega) ha)
theorem NGcd {a b:ZE} {k m:Nat} (hk:k≤400000000000) (hm:m≤400000000000) (ha:isN a k∈I0) (hb:isN b m∈I0):CD Try.prog 65 [nv a,nv b] X w0 M0 I0 (NQ (Int.gcd a.z b.z) (k+m) M0 I0):=CD.nq (aPJ (by omega) (by omega) ha hb)
theorem NDiv {a b:ZE} {k m:Nat} (hk:k≤400000000000) (hm:m≤400000000000) (h0:b.z≠0) (ha:isN a k∈I0) (hb:isN b m∈I0):CD Try.prog 68 [nv a,nv b] X w0 M0 I0 (fun v M I=>M0=M∧∃q r:ZE,v= .tuple #[nv q,nv r, .int .i64 0]∧q.z=a.z.fdiv b.z∧I=isN q k::I0):=
 (aGJ (by omega) (by omega) h0 ha hb).post (fun v M I w h hw=>by
  obtain ⟨rfl,v1,v2,rfl,rfl⟩:=h
  have h1:IsI v1 (a.z.fdiv b.z) k (muts M0) w:=(hw.imm _ (List.Mem.tail _ (List.Mem.head _))).2
  have h2:IsI v2 (a.z.fmod b.z) m (muts M0) w:=(hw.imm _ (List.Mem.head _)).2
  obtain ⟨q,c,rfl,_⟩:=h1.ex
  obtain ⟨q2,c2,rfl,_⟩:=h2.ex
  exact ⟨M0,_,⟨rfl,⟨_,q,c⟩,⟨_,q2,c2⟩,rfl,rfl,rfl⟩,hw.inc (Inc.wk Inc.refl)⟩)
def aCO (q:Qn):Value:=if (Qn.prm q).fit then .tuple #[qv (Qn.prm q), .int .i64 0] else .tuple #[qv Qn.zero, .int .i64 3]
theorem aJP {es:List ZE} (hl:es.length=4) (hnz:(wP es).nz) (hsm:∀t:Nat,t < 4→(gt es (t:Int)).z.natAbs < 1000000000000000000) (he:∀x∈es,isN x 63∈I0):CD Try.prog 51 [.agg (recs eN es).toArray] X w0 M0 I0 (fun v M I=>M0=M∧I0=I∧v=aCO (wP es)):=by
 have hgz:Qn.gs (wP es)≠0:=Qn.gs_nz hnz
 refine eZ Try.func51 rfl Try.ntmps51 rfl ?_
 refine lU ?_
 refine rF rfl (fun b1=>?_)
 refine aF (cs:=recs eN es) .here ?_
 refine iL (fun b2=>?_)
 repeat refine aD ?_
 refine iL (fun b4=>?_)
 refine iL (fun b5=>?_)
 repeat refine aD ?_
 rw [show ([.bool false, .slice none 0 0]:List Value)=eN zE0 from eN_zero.symm]
 refine aJC (φ:=isN zE0 0) Hv.z0 (aJC (φ:=isN zE0 63) Hv.z0 ?_)
 (apply kX;exact jE;exact rfl;exact aG;exact AtsZ.all (by rw [fZ,hl]);exact rfl;exact rfl)
 repeat refine aD ?_
 refine qU [1,2,4,5,16] rfl (fun k G M I=>∃(i:Nat) (g x1:ZE),i≤4∧k=4 - i∧g.z=gI (fun t=>(gt es (t:Int)).z) i∧x1.z=fI (fun t=>(gt es (t:Int)).z) i∧G=[(17, .int .i64 i)]∧M= .blk b5 (eN x1) 100:: .blk b4 (eN g) 100:: .blk b2 zQ 28::M0∧I=isN x1 63::isN g (63*i)::aN (some ⟨b1,0,none⟩) (recs eN es)::I0) (4) (⟨0,zE0,zE0,by omega,rfl,rfl,rfl,rfl,rfl,rfl⟩) ?_
 rintro kk G M I ⟨i,g,x1,hi,rfl,hg,hx1,rfl,rfl,rfl⟩
 by_cases hii:i < 4
 ·obtain ⟨x,hx⟩:∃x,gt es (i:Int)=x:=⟨_,rfl⟩
  have hxm:x∈es:=by rw [←hx];exact eO ⟨by omega,by omega⟩
  refine aEH (φ:=isN x 63) (Hv.mem (List.mem_cons_of_mem _ (List.mem_cons_of_mem _ (List.mem_cons_of_mem _ (he x hxm))))) ?_
  have hG:=fun M0 I0 h1 h2=>NGcd (X:=X) (w0:=w0) (M0:=M0) (I0:=I0) (a:=g) (b:=x) (k:=63*i) (m:=63) (by omega) (by omega) h1 h2
  have hS:=fun M0 I0 h1=>aEG (X:=X) (w0:=w0) (M0:=M0) (I0:=I0) (u:=nv x1) (z:=x1.z) (k:=63) (by omega) h1
  repeat refine aD ?_
  (refine aC rfl (fun _=>rD (cs:=recs eN es) (vs:=eN x) (i:=(i:Int)) rfl rfl ⟨by omega,by omega⟩ (by rw [←hx];exact yA ⟨by omega,by omega⟩)) rfl rfl ?_)
  refine iL (fun b7=>?_)
  repeat refine aD ?_
  (refine dS rfl (hG _ _ aG aG) ?_;rintro _ _ _ ⟨rfl,g2,rfl,hg2,rfl⟩;refine cK ?_)
  repeat refine aD ?_
  refine iM rfl (hS _ _ aG) ?_
  have hg3:g2.z=gI (fun t=>(gt es (t:Int)).z) (i+1):=by rw [hg2,hg,←hx];rfl
  by_cases hs:x1.z=0
  ·rw [show x1.z.sign=0 by rw [hs];rfl]
   repeat refine aD ?_
   refine mI (4 - (i+1)) (⟨i+1,g2,x,by omega,rfl,hg3,by show _=if fI _ i=0 then (gt es (i:Int)).z else fI _ i;rw [if_pos (hx1.symm.trans hs),hx],rfl,rfl,rfl⟩)
  ·have hsn:x1.z.sign≠0:=fun h=>hs (Int.sign_eq_zero_iff_zero.1 h)
   generalize x1.z.sign=sg at hsn
   repeat refine aD ?_
   refine mI (4 - (i+1)) (⟨i+1,g2,x1,by omega,rfl,hg3,by show _=if fI _ i=0 then (gt es (i:Int)).z else fI _ i;rw [if_neg (fun h=>hs (hx1.trans h))];exact hx1,rfl,rfl,rfl⟩)
 ·obtain rfl:i=4:=by omega
  rw [gI_g4] at hg
  rw [aMX] at hx1
  have hSg:=fun M0 I0 h1=>aEG (X:=X) (w0:=w0) (M0:=M0) (I0:=I0) (u:=nv x1) (z:=x1.z) (k:=63) (by omega) h1
  have hN:=fun M0 I0 h1=>NNeg (X:=X) (w0:=w0) (M0:=M0) (I0:=I0) (a:=g) (k:=63*4) (by omega) h1
  repeat refine aD ?_
  refine iM rfl (hSg _ _ aG) ?_
  refine aES (fun G M I=>∃gg:ZE,gg.z=Qn.gs (wP es)∧G=[(1, .pointer (some ⟨b1,0,none⟩)),(2, .pointer (some ⟨b2,0,none⟩)),(4, .pointer (some ⟨b4,0,none⟩))]∧M= .blk b5 (eN x1) 100:: .blk b4 (eN gg) 100:: .blk b2 zQ 28::M0∧I=isN gg 252::aN (some ⟨b1,0,none⟩) (recs eN es)::I0) ?_ ?_
  ·by_cases hs:x1.z < 0
   ·rw [Int.sign_eq_neg_one_of_neg hs]
    repeat refine aD ?_
    (refine dS rfl (hN _ _ aG) ?_;rintro _ _ _ ⟨rfl,g2,rfl,hg2,rfl⟩;refine cK ?_)
    repeat refine aD ?_
    refine tyE ⟨g2,by rw [hg2,hg];unfold Qn.gs;rw [if_pos (by rw [←hx1];exact hs)],rfl,rfl,rfl⟩
   ·have hsg:¬x1.z.sign < 0:=fun h=>hs (Int.sign_neg_iff.1 h)
    generalize x1.z.sign=sg at hsg
    repeat refine aD ?_
    refine tyE ⟨g,by rw [hg];unfold Qn.gs;rw [if_neg (by rw [←hx1];exact hs)],rfl,rfl,rfl⟩
  ·rintro G M I ⟨gg,hgg,rfl,rfl,rfl⟩
   repeat refine aD ?_
   refine iL (fun b8=>?_)
   repeat refine aD ?_
   (apply kX;exact jE;exact rfl;exact aG;exact AtsZ.all (by rw [fZ,hl]);exact rfl;exact rfl)
   repeat refine aD ?_
   refine qU [2,4,8,33] rfl (fun k G M I=>∃(i:Nat) (out:List Int),i≤4∧k=4 - i∧out.length=4∧(∀j:Nat,j < i→gt out (j:Int)=gt (iQ (Qn.prm (wP es))) (j:Int)∧(gt (iQ (Qn.prm (wP es))) (j:Int)).natAbs≤1048576)∧G=[(34, .int .i64 i)]∧M= .blk b8 (recs (eI .i64) out) 73:: .blk b5 (eN x1) 100:: .blk b4 (eN gg) 100:: .blk b2 zQ 28::M0∧I=isN gg 252::aN (some ⟨b1,0,none⟩) (recs eN es)::I0) (4) (⟨0,[0,0,0,0],by omega,rfl,rfl,fun j hj=>by omega,rfl,rfl,rfl⟩) ?_
   rintro kk G M I ⟨i,out,hi,rfl,hol,ho,rfl,rfl,rfl⟩
   by_cases hii:i < 4
   ·obtain ⟨x,hx⟩:∃x,gt es (i:Int)=x:=⟨_,rfl⟩
    have hxm:x∈es:=by rw [←hx];exact eO ⟨by omega,by omega⟩
    obtain ⟨hd,hp⟩:=aOZ es hnz hii
    obtain ⟨hf,hsl⟩:=aCW hgz hd (hsm i hii)
    rw [hx] at hd hp hf hsl
    refine aEH (φ:=isN x 63) (Hv.mem (List.mem_cons_of_mem _ (List.mem_cons_of_mem _ (he x hxm)))) ?_
    have hD:=fun M0 I0 h1 h2=>NDiv (X:=X) (w0:=w0) (M0:=M0) (I0:=I0) (a:=x) (b:=gg) (k:=63) (m:=252) (by omega) (by omega) (by rw [hgg];exact hgz) h1 h2
    have hS:=fun (q:ZE) M0 I0 hq h1=>aJM (X:=X) (w0:=w0) (M0:=M0) (I0:=I0) (u:=nv q) (z:=q.z) (k:=63) hq (by omega) h1
    repeat refine aD ?_
    (refine aC rfl (fun _=>rD (cs:=recs eN es) (vs:=eN x) (i:=(i:Int)) rfl rfl ⟨by omega,by omega⟩ (by rw [←hx];exact yA ⟨by omega,by omega⟩)) rfl rfl ?_)
    refine iL (fun b10=>?_)
    repeat refine aD ?_
    (refine dS rfl (hD _ _ aG aG) ?_;rintro _ _ _ ⟨rfl,q,r,rfl,hq,rfl⟩;refine cK ?_)
    have hqs:q.z=x.z / Qn.gs (wP es):=by rw [hq,hgg,hf]
    repeat refine aD ?_
    refine iL (fun b11=>?_)
    refine iL (fun b12=>?_)
    repeat refine aD ?_
    (refine oN rfl (hS q _ _ (by rw [hqs];exact hsl) aG) rfl rfl ?_;rintro _ _ _ ⟨rfl,rfl,rfl⟩;refine cK ?_)
    have hno:¬q.z.natAbs≤1048576→aCO (wP es)= .tuple #[qv Qn.zero, .int .i64 3]:=fun h=>by
     unfold aCO
     rw [if_neg (fun hf=>h (by rw [hqs,←hp];exact zA.2 hf i hii))]
    by_cases h1:q.z < -1048576
    ·repeat refine aD ?_
     (refine aC rfl (fun _=>aZ (pvs:=([]).zipIdx.map (fun p=>(p.2,p.1))) (cells:=zQ) rfl rfl) rfl rfl ?_)
     repeat refine aD ?_
     refine eD (rs:=[.cell 2 28, .tmp 3]) (vs:=[qv Qn.zero, .int .i64 3]) (.inl rfl) rfl (.cellN (cs:=eQ Qn.zero) inferInstance rfl aG rfl (.tmp rfl .nil)) rfl M0 I0 bN bR ⟨rfl,rfl,(hno (by omega)).symm⟩
    by_cases h2:1048576 < q.z
    ·repeat refine aD ?_
     (refine aC rfl (fun _=>aZ (pvs:=([]).zipIdx.map (fun p=>(p.2,p.1))) (cells:=zQ) rfl rfl) rfl rfl ?_)
     repeat refine aD ?_
     refine eD (rs:=[.cell 2 28, .tmp 3]) (vs:=[qv Qn.zero, .int .i64 3]) (.inl rfl) rfl (.cellN (cs:=eQ Qn.zero) inferInstance rfl aG rfl (.tmp rfl .nil)) rfl M0 I0 bN bR ⟨rfl,rfl,(hno (by omega)).symm⟩
    repeat refine yXh ?_
    refine lZ rfl rfl rfl qE (StAt.o1 (enc:=eI .i64) q.z ⟨by omega,by omega⟩ rfl) rfl rfl ⟨okF,?_⟩
    repeat refine aD ?_
    refine mI (4 - (i+1)) (⟨i+1,st out (i:Int) q.z,by omega,rfl,by rw [aY];exact hol,fun t ht=>?_,rfl,rfl,rfl⟩)
    rw [gM _ ⟨by omega,by omega⟩ (by omega)]
    by_cases e:t=i
    ·subst e
     rw [if_pos rfl,hqs,hp]
     exact ⟨rfl,by rw [←hqs];omega⟩
    ·rw [if_neg (by omega)]
     exact ho t (by omega)
   ·obtain rfl:i=4:=by omega
    have hfit:(Qn.prm (wP es)).fit:=zA.1 (fun j hj=>(ho j hj).2)
    have hq:=iQ_of hol (fun j hj=>(ho j hj).1)
    have hv:aCO (wP es)= .tuple #[qv (Qn.prm (wP es)), .int .i64 0]:=by unfold aCO;rw [if_pos hfit]
    obtain ⟨y0,y1,y2,y3,rfl⟩:∃y0 y1 y2 y3,out=[y0,y1,y2,y3]:=by
     match out,hol with
     |[a,b,c,d],_=>exact ⟨a,b,c,d,rfl⟩
    replace hq:Qn.prm (wP es)=⟨y0,y1,y2,y3⟩:=hq
    repeat refine aD ?_
    (refine aC rfl (fun _=>kV (vals:=eQ ⟨y0,y1,y2,y3⟩) (cells:=eQ ⟨y0,y1,y2,y3⟩) rfl ?hpl rfl ?hz) rfl rfl ?_;(case hpl=>repeat (first|exact True.intro|refine ⟨rfl,?_⟩));(case hz=>rfl))
    repeat refine aD ?_
    refine eD (rs:=[.cell 2 28, .tmp 3]) (vs:=[qv ⟨y0,y1,y2,y3⟩, .int .i64 0]) (.inl rfl) rfl (.cellN (cs:=eQ ⟨y0,y1,y2,y3⟩) inferInstance rfl aG rfl (.tmp rfl .nil)) rfl M0 I0 bN bR ⟨rfl,rfl,by rw [hv,hq]⟩
end
def prW (q:Qn):Qn:=if (Qn.prm q).fit then Qn.prm q else Qn.zero
def uQ (q:Qn):Int:=if (Qn.prm q).fit then 0 else 3
theorem aNX (q:Qn):aCO q= .tuple #[qv (prW q), .int .i64 (uQ q)]:=by
 unfold aCO prW uQ
 by_cases h:(Qn.prm q).fit
 ·rw [if_pos h,if_pos h,if_pos h]
 ·rw [if_neg h,if_neg h,if_neg h]
theorem aHJ {q:Qn} (h:uQ q=0):(Qn.prm q).fit∧prW q=Qn.prm q:=by
 unfold uQ at h
 by_cases hf:(Qn.prm q).fit
 ·exact ⟨hf,by unfold prW;rw [if_pos hf]⟩
 ·rw [if_neg hf] at h;exact absurd h (by decide)
theorem aDG (q:Qn):uQ q=0∨uQ q=3:=by
 unfold uQ
 by_cases hf:(Qn.prm q).fit
 ·rw [if_pos hf];exact .inl rfl
 ·rw [if_neg hf];exact .inr rfl
theorem yF {x g:Int} (hg:g≠0) (hd:g ∣ x) {m:Nat} (hx:x.natAbs≤m):(x / g).natAbs≤m:=by
 obtain ⟨c,rfl⟩:=hd
 rw [Int.mul_ediv_cancel_left _ hg]
 rw [Int.natAbs_mul] at hx
 have:1≤g.natAbs:=by omega
 have:=Nat.mul_le_mul_right c.natAbs this
 omega
theorem rM {q:Qn} (h:q.nz) (hf:q.fit):(Qn.prm q).fit:=by
 obtain ⟨h1,h2,h3,h4⟩:=Qn.gs_dvd q
 have hg:=Qn.gs_nz h
 obtain ⟨⟨f1,f2⟩,f3,f4⟩:=hf
 exact ⟨⟨yF hg h1 f1,yF hg h2 f2⟩,yF hg h3 f3,yF hg h4 f4⟩
theorem uN {q:Qn} (h:q.nz) (hf:q.fit):prW q=Qn.prm q∧uQ q=0:=by
 unfold prW uQ
 rw [if_pos (rM h hf),if_pos (rM h hf)];exact ⟨rfl,rfl⟩
theorem sF {q:Qn} (hf:q.fit):(Qn.cnj q).fit:=by
 obtain ⟨⟨f1,f2⟩,f3,f4⟩:=hf
 refine ⟨⟨f1,?_⟩,?_,?_⟩ <;>show (-_:Int).natAbs≤_ <;>rw [Int.natAbs_neg] <;>assumption
theorem lF {x y:Int} (hx:x.natAbs≤1048576) (hy:y.natAbs≤1048576): -1099511627776≤x*y∧x*y≤1099511627776:=by
 have h:=Nat.mul_le_mul hx hy
 rw [←Int.natAbs_mul] at h
 omega
section
variable {X:List Nat} {w0:World} {M0:List Ent} {I0:List aO}
theorem zP {a b c d:Int} (ha:a.natAbs < 1000000000000000000) (hb:b.natAbs < 1000000000000000000) (hc:c.natAbs < 1000000000000000000) (hd:d.natAbs < 1000000000000000000) (hnz:(⟨a,b,c,d⟩:Qn).nz):
  CD Try.prog 44 [.int .i64 a, .int .i64 b, .int .i64 c, .int .i64 d] X w0 M0 I0 (fun v M I=>M0=M∧I0=I∧v= .tuple #[qv (prW ⟨a,b,c,d⟩), .int .i64 (uQ ⟨a,b,c,d⟩)]):=by
 have hO:=fun (x:Int) M0 I0 (hx: -9223372036854775808≤x∧x≤9223372036854775807)=>NOf (X:=X) (w0:=w0) (M0:=M0) (I0:=I0) (x:=x) hx
 refine aEM Try.func44 rfl Try.ntmps44 rfl ?_
 refine lU ?_
 refine iL (fun b8=>?_)
 repeat refine aD ?_
 (refine dS rfl (hO a _ _ (by omega)) ?_;rintro _ _ _ ⟨rfl,e0,rfl,h0,rfl⟩;refine cK ?_)
 repeat refine aD ?_
 (refine dS rfl (hO b _ _ (by omega)) ?_;rintro _ _ _ ⟨rfl,e1,rfl,h1,rfl⟩;refine cK ?_)
 repeat refine aD ?_
 (refine dS rfl (hO c _ _ (by omega)) ?_;rintro _ _ _ ⟨rfl,e2,rfl,h2,rfl⟩;refine cK ?_)
 repeat refine aD ?_
 (refine dS rfl (hO d _ _ (by omega)) ?_;rintro _ _ _ ⟨rfl,e3,rfl,h3,rfl⟩;refine cK ?_)
 (refine aC rfl (fun _=>uY (vals:=[nv e0,nv e1,nv e2,nv e3]) (cells:=recs eN [e0,e1,e2,e3]) rfl ?hpl rfl ?hz) rfl rfl ?_;(case hpl=>exact (by intro v hv;repeat (first|exact absurd hv (List.not_mem_nil)|(rcases List.mem_cons.1 hv with rfl|hv; · rfl))));(case hz=>rfl))
 have hes:wP [e0,e1,e2,e3]=⟨a,b,c,d⟩:=Qn.ext4 h0 h1 h2 h3
 (refine oN rfl (aJP (es:=[e0,e1,e2,e3]) rfl (by rw [hes];exact hnz) (fun t ht=>by
  obtain rfl|rfl|rfl|rfl:t=0∨t=1∨t=2∨t=3:=by omega
  ·show e0.z.natAbs < _;rw [h0];exact ha
  ·show e1.z.natAbs < _;rw [h1];exact hb
  ·show e2.z.natAbs < _;rw [h2];exact hc
  ·show e3.z.natAbs < _;rw [h3];exact hd) (fun x hx=>by
  simp only [List.mem_cons,List.not_mem_nil,or_false] at hx
  rcases hx with rfl|rfl|rfl|rfl <;>simp)) rfl rfl ?_;rintro _ _ _ ⟨rfl,rfl,rfl⟩;refine cK ?_)
 rw [hes,aNX]
 repeat refine aD ?_
 refine eD (rs:=[.cell 8 28, .tmp 9]) (vs:=[qv (prW ⟨a,b,c,d⟩), .int .i64 (uQ ⟨a,b,c,d⟩)]) (.inl rfl) rfl (.cellN (cs:=eQ (prW ⟨a,b,c,d⟩)) inferInstance rfl aG rfl (.tmp rfl .nil)) rfl M0 I0 bN bR ⟨rfl,rfl,rfl⟩
theorem xO {q:Qn} (hn:q.nz) (hf:q.fit):CD Try.prog 26 [qv q] X w0 M0 I0 (fun v M I=>M0=M∧I0=I∧v= .tuple #[qv (Qn.prm q), .int .i64 0]):=by
 have hC:=fun M0 I0=>qD (X:=X) (w0:=w0) (M0:=M0) (I0:=I0) (q:=q)
 rw [oO hn hf] at hC
 have hf':=hf
 obtain ⟨⟨f1,f2⟩,f3,f4⟩:=hf'
 have hR:=fun M0 I0=>zP (X:=X) (w0:=w0) (M0:=M0) (I0:=I0) (a:=q.a) (b:=q.b) (c:=q.c) (d:=q.d) (by omega) (by omega) (by omega) (by omega) hn
 rw [show (⟨q.a,q.b,q.c,q.d⟩:Qn)=q from rfl,(uN hn hf).1,(uN hn hf).2] at hR
 refine eZ Try.func26 rfl Try.ntmps26 rfl ?_
 refine lU ?_
 refine rF rfl (fun b=>?_)
 refine aF (cs:=eQ q) .here ?_
 refine iL (fun b2=>?_)
 repeat refine aD ?_
 refine iM rfl (hC _ _) ?_
 repeat refine aD ?_
 refine iM rfl (hR _ _) ?_
 repeat refine aD ?_
 refine eD (rs:=[.cell 2 28, .tmp 3]) (vs:=[qv (Qn.prm q), .int .i64 0]) (.inl rfl) rfl (.cellN (cs:=eQ (Qn.prm q)) inferInstance rfl aG rfl (.tmp rfl .nil)) rfl M0 I0 bN bR ⟨rfl,rfl,rfl⟩
theorem wK {q:Qn} (hn:q.nz) (hf:q.fit):CD Try.prog 41 [qv q] X w0 M0 I0 (fun v M I=>M0=M∧I0=I∧v= .tuple #[qv (Qn.prm q.cnj), .int .i64 0]):=by
 have hC:=fun M0 I0=>qD (X:=X) (w0:=w0) (M0:=M0) (I0:=I0) (q:=q)
 rw [oO hn hf] at hC
 have hf':=hf
 obtain ⟨⟨f1,f2⟩,f3,f4⟩:=hf'
 have hcj:(⟨q.a,0 - q.b,0 - q.c,0 - q.d⟩:Qn)=q.cnj:=Qn.ext4 rfl (Int.zero_sub _) (Int.zero_sub _) (Int.zero_sub _)
 have hR:=fun M0 I0=>zP (X:=X) (w0:=w0) (M0:=M0) (I0:=I0) (a:=q.a) (b:=0 - q.b) (c:=0 - q.c) (d:=0 - q.d) (by omega) (by omega) (by omega) (by omega) (by rw [hcj];exact Qn.nz_cnj hn)
 rw [hcj,(uN (Qn.nz_cnj hn) (sF hf)).1,(uN (Qn.nz_cnj hn) (sF hf)).2] at hR
 refine eZ Try.func41 rfl Try.ntmps41 rfl ?_
 refine lU ?_
 refine rF rfl (fun b=>?_)
 refine aF (cs:=eQ q) .here ?_
 refine iL (fun b2=>?_)
 repeat refine aD ?_
 refine iM rfl (hC _ _) ?_
 repeat refine aD ?_
 refine iM rfl (hR _ _) ?_
 repeat refine aD ?_
 refine eD (rs:=[.cell 2 28, .tmp 3]) (vs:=[qv (Qn.prm q.cnj), .int .i64 0]) (.inl rfl) rfl (.cellN (cs:=eQ (Qn.prm q.cnj)) inferInstance rfl aG rfl (.tmp rfl .nil)) rfl M0 I0 bN bR ⟨rfl,rfl,rfl⟩
theorem aBJ {p q:Qn} (hn:p.nz) (hf:p.fit) (hn2:q.nz) (hf2:q.fit):CD Try.prog 12 [qv p,qv q] X w0 M0 I0 (fun v M I=>M0=M∧I0=I∧v= .bool (B (Qn.prm p=Qn.prm q))):=by
 have hC1:=fun M0 I0=>xO (X:=X) (w0:=w0) (M0:=M0) (I0:=I0) (q:=p) hn hf
 have hC2:=fun M0 I0=>xO (X:=X) (w0:=w0) (M0:=M0) (I0:=I0) (q:=q) hn2 hf2
 refine bO Try.func12 rfl Try.ntmps12 rfl ?_
 refine lU ?_
 refine rF rfl (fun b2=>?_)
 refine aF (cs:=eQ p) .here ?_
 refine rF rfl (fun b3=>?_)
 refine aF (cs:=eQ q) .here ?_
 repeat refine aD ?_
 refine iM rfl (hC1 _ _) ?_
 repeat refine aD ?_
 refine iL (fun b5=>?_)
 repeat refine aD ?_
 refine iM rfl (hC2 _ _) ?_
 repeat refine aD ?_
 refine iL (fun b7=>?_)
 repeat refine aD ?_
 refine aC rfl (fun _=>xD (enc:=eQ) (ints:=iQ) (a:=Qn.prm p) (b:=Qn.prm q) (fun _=>rfl) aIM (fun _=>rfl) inferInstance rfl rfl) rfl rfl ?_
 repeat refine aD ?_
 refine lL rfl rfl (⟨rfl,rfl,rfl⟩)
theorem yZ {p q:Qn} (hn:p.nz) (hf:p.fit) (hn2:q.nz) (hf2:q.fit):CD Try.prog 42 [qv p,qv q] X w0 M0 I0 (fun v M I=>M0=M∧I0=I∧v= .tuple #[qv (prW (Qn.mul p q)), .int .i64 (uQ (Qn.mul p q))]):=by
 have hC:=fun (b:Nat) M0 I0 h=>aBS (X:=X) (w0:=w0) (M0:=M0) (I0:=I0) (p:=some ⟨b,0,none⟩) (c:=2) (l:=[p,q]) (m:=2) rfl (by decide) h
 have hcs:lD [p,q]=0:=by
  unfold lD lD lD
  rw [if_pos (oO hn hf),if_pos (oO hn2 hf2)]
 rw [hcs] at hC
 obtain ⟨⟨f1,f2⟩,f3,f4⟩:=hf
 obtain ⟨⟨g1,g2⟩,g3,g4⟩:=hf2
 have b11:=lF f1 g1
 have b12:=lF f1 g2
 have b13:=lF f1 g3
 have b14:=lF f1 g4
 have b21:=lF f2 g1
 have b22:=lF f2 g2
 have b23:=lF f2 g3
 have b24:=lF f2 g4
 have b31:=lF f3 g1
 have b32:=lF f3 g2
 have b33:=lF f3 g3
 have b34:=lF f3 g4
 have b41:=lF f4 g1
 have b42:=lF f4 g2
 have b43:=lF f4 g3
 have b44:=lF f4 g4
 have hR:=fun M0 I0=>zP (X:=X) (w0:=w0) (M0:=M0) (I0:=I0) (a:=(Qn.mul p q).a) (b:=(Qn.mul p q).b) (c:=(Qn.mul p q).c) (d:=(Qn.mul p q).d) (by show (p.a*q.a - p.b*q.b - p.c*q.c - p.d*q.d).natAbs < _;omega) (by show (p.a*q.b+p.b*q.a+p.c*q.d - p.d*q.c).natAbs < _;omega) (by show (p.a*q.c - p.b*q.d+p.c*q.a+p.d*q.b).natAbs < _;omega) (by show (p.a*q.d+p.b*q.c - p.c*q.b+p.d*q.a).natAbs < _;omega) (Qn.nz_mul hn hn2)
 refine bO Try.func42 rfl Try.ntmps42 rfl ?_
 refine lU ?_
 refine rF rfl (fun b2=>?_)
 refine aF (cs:=eQ p) .here ?_
 refine rF rfl (fun b3=>?_)
 refine aF (cs:=eQ q) .here ?_
 refine iL (fun b4=>?_)
 repeat refine aD ?_
 refine uU (cs:=recs eQ [p,q]) ([qv p,qv q]) rfl (fun b9=>?_)
 refine aF (cs:=recs eQ [p,q]) .here ?_
 refine iM rfl (hC b9 _ _ aG) ?_
 repeat refine aD ?_
 refine iM rfl (hR _ _) ?_
 repeat refine aD ?_
 refine eD (rs:=[.cell 4 28, .tmp 5]) (vs:=[qv (prW (Qn.mul p q)), .int .i64 (uQ (Qn.mul p q))]) (.inl rfl) rfl (.cellN (cs:=eQ (prW (Qn.mul p q))) inferInstance rfl aG rfl (.tmp rfl .nil)) rfl M0 I0 bN bR ⟨rfl,rfl,rfl⟩
end
end Go.Proofs.Ytejbgkajdomgcaa
namespace Go.Proofs.Ytejbgkajdomgcaa
open Go Go.Fx
def tst (tq:Int→Qn) (s:Int):Qn:=if 0 < s then tq (sk s) else (tq (sk s)).cnj
def wlk (tq:Int→Qn) (q:Qn) (l:List Int):Qn:=l.foldl (fun q s=>Qn.mul (tst tq s) q) q
def oL (ms:List LK) (tq:Int→Qn) (R:Int→Qn) (k:Int):Prop:=Qn.agr (tq k) (R (gt ms k).a) (R (gt ms k).b)
theorem aBM {tq:Int→Qn} {q:Qn} {s:Int} {l:List Int}:wlk tq q (s::l)=wlk tq (Qn.mul (tst tq s) q) l:=rfl
theorem aHF {ms:List LK} {tq R:Int→Qn} {s:Int} (hn:(tq (sk s)).nz) (h:oL ms tq R (sk s)):Qn.agr (tst tq s) (R (sa ms s)) (R (sb ms s)):=by
 unfold tst sa sb
 by_cases e:0 < s
 ·rw [if_pos e,if_pos e,if_pos e];exact h
 ·rw [if_neg e,if_neg e,if_neg e];exact Qn.agr_back hn h
theorem aKH {ms:List LK} {tq R:Int→Qn} {T l:List Int} {u v:Int} (hT:∀k∈T,(tq k).nz∧oL ms tq R k) (h:Trl ms l u v) (hl:∀s∈l,sk s∈T) (q:Qn):Qn.rel (Qn.mul (R v) (wlk tq q l)) (Qn.mul (R u) q):=by
 induction h generalizing q with
 |nil u=>exact Qn.rel.refl _
 | @cons s v l h1 h2 ih=>
  obtain ⟨g1,g2⟩:=hT _ (hl s (by simp))
  have h3:=ih (fun x hx=>hl x (by simp [hx])) (Qn.mul (tst tq s) q)
  rw [aBM]
  refine h3.trans ?_
  rw [←Qn.mul_assoc]
  exact (aHF g1 g2).mul (Qn.rel.refl q)
theorem wI {ms:List LK} {tq:Int→Qn}:∀(r:List Int),Fst [] (es ms r.reverse)→(∀k∈r,(tq k).nz)→∃R:Int→Qn,(∀x,(R x).nz)∧∀k∈r,oL ms tq R k
 |[],_,_=>⟨fun _=>Qn.one,fun _=>Qn.nz_one,fun k hk=>absurd hk List.not_mem_nil⟩
 |k::r,hf,hn=>by
  rw [List.reverse_cons,lI] at hf
  obtain ⟨f1,f2⟩:=Fst.snoc.1 hf
  rw [List.nil_append] at f2
  obtain ⟨R,hz,hR⟩:=wI r f1 (fun x hx=>hn x (List.mem_cons_of_mem _ hx))
  have ht:=hn k List.mem_cons_self
  let a:=(gt ms k).a
  let b:=(gt ms k).b
  let g:=Qn.mul (Qn.mul (R a) (tq k).cnj) (R b).cnj
  have hg:g.nz:=Qn.nz_mul (Qn.nz_mul (hz _) (Qn.nz_cnj ht)) (Qn.nz_cnj (hz _))
  let p:Int→Prop:=fun x=>Con (es ms r.reverse) b x
  have dp:∀x,Decidable (p x):=fun x=>Classical.propDecidable _
  refine ⟨fun x=>if p x then Qn.mul g (R x) else R x,fun x=>?_,fun j hj=>?_⟩
  ·by_cases e:p x
   ·show Qn.nz (if p x then _ else _)
    rw [if_pos e];exact Qn.nz_mul hg (hz x)
   ·show Qn.nz (if p x then _ else _)
    rw [if_neg e];exact hz x
  ·show Qn.agr (tq j) (if p (gt ms j).a then _ else _) (if p (gt ms j).b then _ else _)
   rcases List.mem_cons.1 hj with rfl|hj
   ·have h1:¬p (gt ms j).a:=fun h=>f2 h.symm
    have h2:p (gt ms j).b:= .refl _
    rw [if_neg h1,if_pos h2]
    show Qn.rel (Qn.mul (Qn.mul g (R b)) (tq j)) (R a)
    have e1:Qn.mul (Qn.mul g (R b)) (tq j)=Qn.mul (Qn.mul (R a) (tq j).cnj) (Qn.mul (Qn.mul (R b).cnj (R b)) (tq j)):=by
     show Qn.mul (Qn.mul (Qn.mul (Qn.mul (R a) (tq j).cnj) (R b).cnj) (R b)) (tq j)=_
     simp only [Qn.mul_assoc]
    rw [e1]
    have e2:=(Qn.rel.refl (Qn.mul (R a) (tq j).cnj)).mul ((Qn.rel_cm (hz b)).mul (Qn.rel.refl (tq j)))
    refine e2.trans ?_
    rw [Qn.one_mul,Qn.mul_assoc]
    have e3:=(Qn.rel.refl (R a)).mul (Qn.rel_cm ht)
    rwa [Qn.mul_one] at e3
   ·have hc:Con (es ms r.reverse) (gt ms j).a (gt ms j).b:= .link (List.mem_map_of_mem (f:=pr ms) (List.mem_reverse.2 hj))
    have h0:Qn.agr (tq j) (R (gt ms j).a) (R (gt ms j).b):=hR j hj
    by_cases e:p (gt ms j).a
    ·rw [if_pos e,if_pos (show p (gt ms j).b from e.trans hc)]
     exact Qn.agr_left g h0
    ·rw [if_neg e,if_neg (show ¬p (gt ms j).b from fun h=>e (h.trans hc.symm))]
     exact h0
theorem aJS {ms:List LK} {tq:Int→Qn} {T:List Int} (hf:Fst [] (es ms T)) (hn:∀k∈T,(tq k).nz):∃R:Int→Qn,(∀x,(R x).nz)∧∀k∈T,oL ms tq R k:=by
 obtain ⟨R,h1,h2⟩:=wI (ms:=ms) (tq:=tq) T.reverse (by rw [List.reverse_reverse];exact hf) (fun k hk=>hn k (List.mem_reverse.1 hk))
 exact ⟨R,h1,fun k hk=>h2 k (List.mem_reverse.2 hk)⟩
theorem yT {ms:List LK} {tq R:Int→Qn} {T l:List Int} {z:Int} (hz0:0≤z) (hR:∀x,(R x).nz) (hT:∀k∈T,(tq k).nz∧oL ms tq R k) (h:Trl ms l (gt ms z).b (gt ms z).a) (hl:∀s∈l,sk s∈T):
  Qn.rel (wlk tq Qn.one ((z+1)::l)) Qn.one↔oL ms tq R z:=by
 obtain ⟨_,f2,_,_⟩:=fwd (ms:=ms) hz0
 have e0:wlk tq Qn.one ((z+1)::l)=wlk tq (tq z) l:=by
  rw [aBM,Qn.mul_one]
  unfold tst
  rw [if_pos (by omega),f2]
 have hw:=aKH hT h hl (tq z)
 rw [e0]
 unfold oL Qn.agr
 constructor
 ·intro h1
  have h2:=(Qn.rel.refl (R (gt ms z).a)).mul h1
  rw [Qn.mul_one] at h2
  exact hw.symm.trans h2
 ·intro h1
  refine Qn.rel.canL (hR (gt ms z).a) ?_
  rw [Qn.mul_one]
  exact hw.trans h1
theorem zI {ms:List LK} {tq R S:Int→Qn} {T:List Int} {z:Int} (hz0:0≤z) (hr:∀k∈T,0≤k) (hR:∀x,(R x).nz) (hS:∀x,(S x).nz) (h1:∀k∈T,(tq k).nz∧oL ms tq R k) (h2:∀k∈T,(tq k).nz∧oL ms tq S k) (hc:Con (es ms T) (gt ms z).b (gt ms z).a):oL ms tq R z↔oL ms tq S z:=by
 obtain ⟨l,h3,h4⟩:=Con.trl hr hc
 rw [←yT hz0 hR h1 h3 h4,yT hz0 hS h2 h3 h4]
theorem aGC {ms:List LK} {tq:Int→Qn} {T T':List Int} {tr:Int→List Int} {S:Int→Qn} (hn:∀k:Int,0≤k→k < ms.length→(tq k).nz) (hf:Fst [] (es ms T)) (hi:∀k∈T,0≤k∧k < ms.length) (hs:∀z:Int,0≤z→z < ms.length→Con (es ms T) (gt ms z).b (gt ms z).a) (htr:∀z:Int,0≤z→z < ms.length→Trl ms (tr z) (gt ms z).b (gt ms z).a∧∀s∈tr z,sk s∈T)
  (hi':∀k∈T',0≤k∧k < ms.length) (hs':∀z:Int,0≤z→z < ms.length→Con (es ms T') (gt ms z).b (gt ms z).a) (hS:∀x,(S x).nz) (hST:∀k∈T',oL ms tq S k):
  (∀k:Int,0≤k→k < ms.length→oL ms tq S k)↔∀z:Int,0≤z→z < ms.length→z ∉ T→Qn.rel (wlk tq Qn.one ((z+1)::tr z)) Qn.one:=by
 obtain ⟨R,hR,hRT⟩:=aJS (tq:=tq) hf (fun k hk=>hn k (hi k hk).1 (hi k hk).2)
 have hT:∀k∈T,(tq k).nz∧oL ms tq R k:=fun k hk=>⟨hn k (hi k hk).1 (hi k hk).2,hRT k hk⟩
 have key:∀z:Int,0≤z→z < ms.length→(Qn.rel (wlk tq Qn.one ((z+1)::tr z)) Qn.one↔oL ms tq R z):=fun z h0 h1=>yT h0 hR hT (htr z h0 h1).1 (htr z h0 h1).2
 constructor
 ·intro h z h0 h1 _
  rw [key z h0 h1]
  exact (zI h0 (fun k hk=>(hi k hk).1) hR hS hT (fun k hk=>⟨(hT k hk).1,h k (hi k hk).1 (hi k hk).2⟩) (hs z h0 h1)).2 (h z h0 h1)
 ·intro h
  have hall:∀k:Int,0≤k→k < ms.length→oL ms tq R k:=fun k h0 h1=>by
   by_cases e:k∈T
   ·exact hRT k e
   ·exact (key k h0 h1).1 (h k h0 h1 e)
  intro k h0 h1
  exact (zI h0 (fun k hk=>(hi' k hk).1) hS hR (fun k hk=>⟨hn k (hi' k hk).1 (hi' k hk).2,hST k hk⟩) (fun k hk=>⟨hn k (hi' k hk).1 (hi' k hk).2,hall k (hi' k hk).1 (hi' k hk).2⟩) (hs' k h0 h1)).2 (hall k h0 h1)
end Go.Proofs.Ytejbgkajdomgcaa
namespace Go.Proofs.Ytejbgkajdomgcaa
open Go Go.Fx
structure RX where
 a:Int
 b:Int
 q:Qn
instance RX.inh:Inhabited RX:=⟨⟨0,0,Qn.zero⟩⟩
abbrev eX (e:RX):List Value:=[.int .i64 e.a, .int .i64 e.b, .int .i64 e.q.a, .int .i64 e.q.b, .int .i64 e.q.c, .int .i64 e.q.d]
abbrev zX:List Value:=[.int .i64 0, .int .i64 0, .int .i64 0, .int .i64 0, .int .i64 0, .int .i64 0]
instance RX.szd:Sized eX 6:=⟨fun _=>rfl⟩
instance RX.ones:Ones eX:=⟨fun m u hu=>by
 simp only [eX,List.mem_cons,List.not_mem_nil,or_false] at hu
 rcases hu with rfl|rfl|rfl|rfl|rfl|rfl <;>rfl⟩
def rng (n:Int) (e:RX):Prop:=(0≤e.a∧e.a < n)∧(0≤e.b∧e.b < n)
instance (n:Int) (e:RX):Decidable (rng n e):=by unfold rng;exact inferInstance
theorem aPG {n:Int} {e:RX} (h:¬rng n e):e.a < 0∨(0≤e.a∧n≤e.a)∨(0≤e.a∧e.a < n∧e.b < 0)∨(0≤e.a∧e.a < n∧0≤e.b∧n≤e.b):=by
 unfold rng at h
 omega
def jJ (n:Int) (e:RX):Int:=if rng n e then if e.a=e.b then 13 else gN e.q else 2
def kK (n:Int):List RX→Int
 |[]=>0
 |e::l=>if jJ n e=0 then kK n l else jJ n e
def kZ (n:Int) (es:List RX):Int:=if n < 1∨64 < n∨256 < es.length then 3 else kK n es
theorem vC {n:Int}:∀{l:List RX},(∀j:Nat,j < l.length→jJ n (gt l j)=0)→kK n l=0
 |[],_=>rfl
 |q::l,h=>by
  have h0:jJ n q=0:=h 0 (by simp)
  unfold kK
  rw [if_pos h0]
  exact vC (fun j hj=>h (j+1) (by simp;omega))
theorem xY {n:Int}:∀{l:List RX} {i:Nat},i < l.length→(∀j:Nat,j < i→jJ n (gt l j)=0)→jJ n (gt l i)≠0→kK n l=jJ n (gt l i)
 |q::l,0,_,_,hn=>by
  unfold kK
  exact if_neg hn
 |q::l,i+1,hi,h,hn=>by
  have h0:jJ n q=0:=h 0 (by omega)
  unfold kK
  rw [if_pos h0]
  exact xY (l:=l) (i:=i) (by simpa using hi) (fun j hj=>h (j+1) (by omega)) hn
theorem aBC {n:Int}:∀{l:List RX},kK n l=0→∀e∈l,jJ n e=0
 |[],_,e,he=>absurd he List.not_mem_nil
 |q::l,h,e,he=>by
  unfold kK at h
  by_cases h0:jJ n q=0
  ·rw [if_pos h0] at h
   rcases List.mem_cons.1 he with rfl|he
   ·exact h0
   ·exact aBC h e he
  ·rw [if_neg h0] at h;exact absurd h h0
structure EdOk (n:Int) (e:RX):Prop where
 r:(0≤e.a∧e.a < n)∧(0≤e.b∧e.b < n)
 ne:e.a≠e.b
 nz:e.q.nz
 fit:e.q.fit
theorem aKZ {n:Int} {e:RX} (h:jJ n e=0):EdOk n e:=by
 unfold jJ at h
 by_cases h1:rng n e
 ·rw [if_pos h1] at h
  by_cases h2:e.a=e.b
  ·rw [if_pos h2] at h;exact absurd h (by decide)
  ·rw [if_neg h2] at h
   obtain ⟨h3,h4⟩:=aLA h
   exact ⟨h1,h2,h3,h4⟩
 ·rw [if_neg h1] at h;exact absurd h (by decide)
theorem yO {n:Int} {es:List RX} (h:kZ n es=0):(1≤n∧n≤64)∧es.length≤256∧∀e∈es,EdOk n e:=by
 unfold kZ at h
 by_cases h1:n < 1∨64 < n∨256 < es.length
 ·rw [if_pos h1] at h;exact absurd h (by decide)
 ·rw [if_neg h1] at h
  exact ⟨by omega,by omega,fun e he=>aKZ (aBC h e he)⟩
section
variable {X:List Nat} {w0:World} {M0:List Ent} {I0:List aO}
theorem sV {p:Option Addr} {n:Int} {es:List RX} {m c:Nat} (hm:es.length=m) (hn:(m:Int)≤9223372036854775807) (hp:aN p (recs eX es)∈I0):
  CD Try.prog 5 [.int .i64 n, .slice p m c] X w0 M0 I0 (fun v M I=>M0=M∧I0=I∧v= .int .i64 (kZ n es)):=by
 have hC:=fun (q:Qn) M0 I0=>qD (X:=X) (w0:=w0) (M0:=M0) (I0:=I0) (q:=q)
 refine bO Try.func5 rfl Try.ntmps5 rfl ?_
 refine lU ?_
 by_cases h1:n < 1
 ·have hc:kZ n es=3:=by unfold kZ;rw [if_pos (.inl h1)]
  repeat refine aD ?_
  refine lL rfl rfl (⟨rfl,rfl,congrArg _ hc.symm⟩)
 by_cases h2:64 < n
 ·have hc:kZ n es=3:=by unfold kZ;rw [if_pos (.inr (.inl h2))]
  repeat refine aD ?_
  refine lL rfl rfl (⟨rfl,rfl,congrArg _ hc.symm⟩)
 by_cases h3:256 < m
 ·have hc:kZ n es=3:=by unfold kZ;rw [if_pos (.inr (.inr (by omega)))]
  repeat refine aD ?_
  refine lL rfl rfl (⟨rfl,rfl,congrArg _ hc.symm⟩)
 have hl:kZ n es=kK n es:=by unfold kZ;rw [if_neg (by omega)]
 rw [hl]
 repeat refine aD ?_
 refine qU [0,19,20] rfl (fun k G M I=>∃i:Nat,i≤m∧k=m - i∧(∀j:Nat,j < i→jJ n (gt es j)=0)∧G=[(21, .int .i64 i)]∧M0=M∧I0=I) (m) (⟨0,by omega,rfl,fun j hj=>by omega,rfl,rfl,rfl⟩) ?_
 rintro kk G M I ⟨i,hi,rfl,hs,rfl,rfl,rfl⟩
 by_cases him:i < m
 ·have hat:=xY (n:=n) (l:=es) (i:=i) (by omega) hs
  repeat refine aD ?_
  refine iL (fun b6=>?_)
  repeat refine aD ?_
  refine aF (cs:=eX (gt es i)) .here ?_
  generalize hge:gt es (i:Int)=e at hat
  by_cases hr:rng n e
  ·obtain ⟨⟨q1,q2⟩,q3,q4⟩:=id hr
   by_cases hab:e.a=e.b
   ·have hx:jJ n e=13:=by unfold jJ;rw [if_pos hr,if_pos hab]
    have hc:kK n es=13:=by rw [hat (by rw [hx];decide),hx]
    repeat refine aD ?_
    refine lL rfl rfl (⟨rfl,rfl,congrArg _ hc.symm⟩)
   ·have hx:jJ n e=gN e.q:=by unfold jJ;rw [if_pos hr,if_neg hab]
    rw [hx] at hat
    repeat refine aD ?_
    refine iM rfl (hC e.q _ _) ?_
    by_cases hz:gN e.q=0
    ·rw [hz]
     repeat refine aD ?_
     refine mI (m - (i+1)) (⟨i+1,by omega,rfl,fun j hj=>?_,rfl,rfl,rfl⟩)
     by_cases e':j=i
     ·subst e';rw [hge,hx];exact hz
     ·exact hs j (by omega)
    ·have hc:=hat hz
     generalize gN e.q=z at hz hc
     repeat refine aD ?_
     refine lL rfl rfl (⟨rfl,rfl,congrArg _ hc.symm⟩)
  ·have hx:jJ n e=2:=by unfold jJ;rw [if_neg hr]
   have hc:kK n es=2:=by rw [hat (by rw [hx];decide),hx]
   rcases aPG hr with h|h|h|h
   all_goals
    repeat refine aD ?_
    refine lL rfl rfl (⟨rfl,rfl,congrArg _ hc.symm⟩)
 ·obtain rfl:i=m:=by omega
  have hc:kK n es=0:=vC (fun j hj=>hs j (by omega))
  repeat refine aD ?_
  refine lL rfl rfl (⟨rfl,rfl,congrArg _ hc.symm⟩)
theorem xI:CD Try.prog 43 [] X w0 M0 I0 (fun v M I=>M0=M∧I0=I∧v=qv Qn.one):=by
 refine aEK Try.func43 rfl Try.ntmps43 rfl ?_
 refine lU ?_
 refine iL (fun b=>?_)
 repeat refine aD ?_
 (refine aC rfl (fun _=>aZ (pvs:=([.int .i64 1]).zipIdx.map (fun p=>(p.2,p.1))) (cells:=eQ Qn.one) rfl rfl) rfl rfl ?_)
 repeat refine aD ?_
 refine kT (cs:=eQ Qn.one) (.inl rfl) rfl rfl aG rfl M0 I0 bN bR ⟨rfl,rfl,rfl⟩
theorem aID {p q:Qn} (hn:p.nz) (hf:p.fit) (hn2:q.nz) (hf2:q.fit):CD Try.prog 23 [qv p,qv q] X w0 M0 I0 (fun v M I=>M0=M∧I0=I∧v= .tuple #[qv (prW (Qn.mul (Qn.prm q.cnj) p)), .int .i64 (uQ (Qn.mul (Qn.prm q.cnj) p))]):=by
 have hC:=fun M0 I0=>wK (X:=X) (w0:=w0) (M0:=M0) (I0:=I0) (q:=q) hn2 hf2
 have hM:=fun M0 I0=>yZ (X:=X) (w0:=w0) (M0:=M0) (I0:=I0) (p:=Qn.prm q.cnj) (q:=p) (Qn.prm_nz (Qn.nz_cnj hn2)) (rM (Qn.nz_cnj hn2) (sF hf2)) hn hf
 refine bO Try.func23 rfl Try.ntmps23 rfl ?_
 refine lU ?_
 refine rF rfl (fun b2=>?_)
 refine aF (cs:=eQ p) .here ?_
 refine rF rfl (fun b3=>?_)
 refine aF (cs:=eQ q) .here ?_
 refine iL (fun b4=>?_)
 repeat refine aD ?_
 refine iM rfl (hC _ _) ?_
 repeat refine aD ?_
 refine iL (fun b6=>?_)
 repeat refine aD ?_
 refine iM rfl (hM _ _) ?_
 repeat refine aD ?_
 refine eD (rs:=[.cell 4 28, .tmp 5]) (vs:=[qv (prW (Qn.mul (Qn.prm q.cnj) p)), .int .i64 (uQ (Qn.mul (Qn.prm q.cnj) p))]) (.inl rfl) rfl (.cellN (cs:=eQ (prW (Qn.mul (Qn.prm q.cnj) p))) inferInstance rfl aG rfl (.tmp rfl .nil)) rfl M0 I0 bN bR ⟨rfl,rfl,rfl⟩
end
end Go.Proofs.Ytejbgkajdomgcaa
namespace Go.Proofs.Ytejbgkajdomgcaa
open Go Go.Fx
def txk (es:List RX) (k:Int):Qn:=if 0≤k then (gt es k).q else Qn.prm (gt es (-1 - k)).q.cnj
def xfr (es:List RX) (k:Int):Int:=if 0≤k then (gt es k).a else (gt es (-1 - k)).b
def xto (es:List RX) (k:Int):Int:=if 0≤k then (gt es k).b else (gt es (-1 - k)).a
def aw (es:List RX) (q:Qn) (ks:List Int):Qn:=ks.foldl (fun q k=>Qn.mul (txk es k) q) q
theorem aMB (es:List RX) (q:Qn) (ks:List Int) (k:Int):aw es q (ks++[k])=Qn.mul (txk es k) (aw es q ks):=by simp [aw]
theorem aNZ {n:Int} {es:List RX} (he:∀e∈es,EdOk n e) {k:Int} (hk: -(es.length:Int)≤k∧k < es.length):(txk es k).nz∧(txk es k).fit:=by
 unfold txk
 by_cases h:0≤k
 ·rw [if_pos h]
  have:=he _ (eO (ms:=es) (i:=k) ⟨h,hk.2⟩)
  exact ⟨this.nz,this.fit⟩
 ·rw [if_neg h]
  have:=he _ (eO (ms:=es) (i:= -1 - k) ⟨by omega,by omega⟩)
  exact ⟨Qn.prm_nz (Qn.nz_cnj this.nz),rM (Qn.nz_cnj this.nz) (sF this.fit)⟩
def ArV (es:List RX) (ks:List Int) (v:Value):Prop:=∃(r:Qn) (z:Int),v= .tuple #[qv r, .int .i64 z]∧(z=3∨(z=0∧r.nz∧r.fit∧Qn.rel r (aw es Qn.one ks)))
theorem oJ {P:Program} {n:Nat} {Q:Exit→Act→World→Prop} {G:Env} {X:List Nat} {w0:World} {M M':List Ent} {I:List aO} {c:Code} {b:Nat} {cs:List Value} {e:TypeId} (hr:Rem (.blk b cs e) M M') (h:TD P n c Q G X w0 M' (aN (some ⟨b,0,none⟩) cs::I)):TD P n c Q G X w0 M I:=aGY (fun _ hw=>hw.freezeB hr) h
section
variable {X:List Nat} {w0:World} {M0:List Ent} {I0:List aO}
theorem aAV {p:Option Addr} {n k:Int} {es:List RX} {m c:Nat} (hm:es.length=m) (hm2:(m:Int)≤9223372036854775807) (he:∀e∈es,EdOk n e) (hk: -(m:Int)≤k∧k < m) (hp:aN p (recs eX es)∈I0):
  CD Try.prog 24 [.slice p m c, .int .i64 k] X w0 M0 I0 (fun v M I=>M0=M∧I0=I∧v= .tuple #[.int .i64 (xfr es k), .int .i64 (xto es k),qv (txk es k), .int .i64 0]):=by
 refine bO Try.func24 rfl Try.ntmps24 rfl ?_
 refine lU ?_
 repeat refine aD ?_
 refine iL (fun b6=>?_)
 by_cases h:0≤k
 ·unfold xfr xto txk
  rw [if_pos h,if_pos h,if_pos h]
  repeat refine aD ?_
  refine iL (fun b8=>?_)
  repeat refine aD ?_
  refine oJ (cs:=eX (gt es k)) .here ?_
  (repeat refine aL ?_);refine tyW ([]) (aN (some ⟨b8,0,none⟩) (eX (gt es k))::I0) [0,1,2,3,4,5,6,7,8,9] [0,0,0,0,0,0,0,0,0,0] mixed ?_
  repeat refine aD ?_
  refine eD (rs:=[.tmp 4, .tmp 5, .cell 6 28, .tmp 7]) (vs:=[.int .i64 (gt es k).a, .int .i64 (gt es k).b,qv (gt es k).q, .int .i64 0]) (.inl rfl) rfl (.tmp rfl (.tmp rfl (.cellN (cs:=eQ (gt es k).q) inferInstance rfl aG rfl (.tmp rfl .nil)))) rfl M0 I0 bN bR ⟨rfl,rfl,rfl⟩
 ·have hed:=he _ (eO (ms:=es) (i:= -1 - k) ⟨by omega,by omega⟩)
  unfold xfr xto txk
  rw [if_neg h,if_neg h,if_neg h]
  obtain ⟨e,hge⟩:∃e,gt es (-1 - k)=e:=⟨_,rfl⟩
  rw [hge] at hed ⊢
  have hC:=fun M0 I0=>wK (X:=X) (w0:=w0) (M0:=M0) (I0:=I0) (q:=e.q) hed.nz hed.fit
  repeat refine aD ?_
  refine iL (fun b9=>?_)
  rw [hge]
  repeat refine aD ?_
  refine aF (cs:=eX e) .here ?_
  refine iM rfl (hC _ _) ?_
  repeat refine aD ?_
  refine iL (fun b10=>?_)
  repeat refine aD ?_
  refine oJ (cs:=eQ (Qn.prm e.q.cnj)) .here ?_
  (repeat refine aL ?_);refine tyW ([]) (aN (some ⟨b10,0,none⟩) (eQ (Qn.prm e.q.cnj))::aN (some ⟨b9,0,none⟩) (eX e)::I0) [0,1,2,3,4,5,6,7,8,9] [0,0,0,0,0,1,0,0,0,0] mixed ?_
  repeat refine aD ?_
  refine eD (rs:=[.tmp 4, .tmp 5, .cell 6 28, .tmp 7]) (vs:=[.int .i64 e.b, .int .i64 e.a,qv (Qn.prm e.q.cnj), .int .i64 0]) (.inl rfl) rfl (.tmp rfl (.tmp rfl (.cellN (cs:=eQ (Qn.prm e.q.cnj)) inferInstance rfl aG rfl (.tmp rfl .nil)))) rfl M0 I0 bN bR ⟨rfl,rfl,rfl⟩
theorem aBP {p q:Option Addr} {n:Int} {es:List RX} {ks:List Int} {m c l c2:Nat} (hm:es.length=m) (hm2:(m:Int)≤9223372036854775807) (hl:ks.length=l) (hl2:l≤256) (he:∀e∈es,EdOk n e) (hks:∀i:Nat,i < l→ -(m:Int)≤gt ks i∧gt ks i < m) (hp:aN p (recs eX es)∈I0) (hq:aN q (recs (eI .i64) ks)∈I0):
  CD Try.prog 25 [.slice p m c, .slice q l c2] X w0 M0 I0 (fun v M I=>M0=M∧I0=I∧ArV es ks v):=by
 have hI:=fun M0 I0=>xI (X:=X) (w0:=w0) (M0:=M0) (I0:=I0)
 have hS:=fun (k:Int) M0 I0 hk hp=>aAV (X:=X) (w0:=w0) (M0:=M0) (I0:=I0) (p:=p) (n:=n) (k:=k) (es:=es) (m:=m) (c:=c) hm hm2 he hk hp
 refine bO Try.func25 rfl Try.ntmps25 rfl ?_
 refine lU ?_
 refine iL (fun b4=>?_)
 repeat refine aD ?_
 refine iM rfl (hI _ _) ?_
 refine iL (fun b6=>?_)
 repeat refine aD ?_
 refine qU [0,4,6,14,15] rfl (fun k G M I=>∃(i:Nat) (r:Qn),i≤l∧k=l - i∧r.nz∧r.fit∧Qn.rel r (aw es Qn.one (ks.take i))∧G=[(16, .int .i64 i)]∧M= .blk b6 (eQ r) 28:: .blk b4 zQ 28::M0∧I0=I) (l) (⟨0,Qn.one,by omega,rfl,Qn.nz_one,by decide,Qn.rel.refl _,rfl,rfl,rfl⟩) ?_
 rintro kk G M I ⟨i,r,hi,rfl,hrn,hrf,hrr,rfl,rfl,rfl⟩
 by_cases hii:i < l
 ·have hk:=hks i hii
  obtain ⟨k,hgk⟩:∃k,gt ks (i:Int)=k:=⟨_,rfl⟩
  rw [hgk] at hk
  obtain ⟨htn,htf⟩:=aNZ (es:=es) he (k:=k) (by omega)
  have hM:=fun M0 I0=>yZ (X:=X) (w0:=w0) (M0:=M0) (I0:=I0) (p:=txk es k) (q:=r) htn htf hrn hrf
  have hnx:Qn.rel (Qn.mul (txk es k) r) (aw es Qn.one (ks.take (i+1))):=by
   rw [gD (by omega),hgk,aMB]
   exact (Qn.rel.refl _).mul hrr
  repeat refine aD ?_
  rw [hgk]
  repeat refine aD ?_
  refine iM rfl (hS k _ _ hk aG) ?_
  repeat refine aD ?_
  refine iL (fun b11=>?_)
  repeat refine aD ?_
  refine iM rfl (hM _ _) ?_
  rcases aDG (Qn.mul (txk es k) r) with hz|hz
  ·obtain ⟨hfit,hw⟩:=aHJ hz
   have hnz:=Qn.nz_mul htn hrn
   rw [hz,hw]
   repeat refine aD ?_
   refine mI (l - (i+1)) (⟨i+1,Qn.prm (Qn.mul (txk es k) r),by omega,rfl,Qn.prm_nz hnz,hfit,(Qn.prm_rel hnz).trans hnx,rfl,rfl,rfl⟩)
  ·rw [hz]
   repeat refine aD ?_
   (refine aC rfl (fun _=>aZ (pvs:=([]).zipIdx.map (fun p=>(p.2,p.1))) (cells:=zQ) rfl rfl) rfl rfl ?_)
   repeat refine aD ?_
   refine eD (rs:=[.cell 4 28, .tmp 5]) (vs:=[qv Qn.zero, .int .i64 3]) (.inl rfl) rfl (.cellN (cs:=eQ Qn.zero) inferInstance rfl aG rfl (.tmp rfl .nil)) rfl M0 I0 bN bR ⟨rfl,rfl,Qn.zero,3,rfl, .inl rfl⟩
 ·obtain rfl:i=l:=by omega
  repeat refine aD ?_
  refine eD (rs:=[.cell 4 28, .tmp 5]) (vs:=[qv r, .int .i64 0]) (.inl rfl) rfl (.cellN (cs:=eQ r) inferInstance rfl aG rfl (.tmp rfl .nil)) rfl M0 I0 bN bR ⟨rfl,rfl,r,0,rfl, .inr ⟨rfl,hrn,hrf,by rw [List.take_of_length_le (by omega)] at hrr;exact hrr⟩⟩
theorem aBY {p q:Option Addr} {n:Int} {es:List RX} {ks:List Int} {m c l c2:Nat} (hm:es.length=m) (hm2:(m:Int)≤9223372036854775807) (hl:ks.length=l) (hl2:l≤256) (hlc:kZ n es=0) (hks:∀i:Nat,i < l→ -(m:Int)≤gt ks i∧gt ks i < m)
  (hcl:∀i:Nat,i < l→xfr es (gt ks i)=xto es (gt ks (if i=0 then (l:Int) - 1 else (i:Int) - 1))) (hp:aN p (recs eX es)∈I0) (hq:aN q (recs (eI .i64) ks)∈I0):
  CD Try.prog 11 [.int .i64 n, .slice p m c, .slice q l c2] X w0 M0 I0 (fun v M I=>M0=M∧I0=I∧ArV es ks v):=by
 obtain ⟨hn,hm6,he⟩:=yO hlc
 have hC:=fun M0 I0 h=>sV (X:=X) (w0:=w0) (M0:=M0) (I0:=I0) (p:=p) (n:=n) (es:=es) (m:=m) (c:=c) hm hm2 h
 rw [hlc] at hC
 have hS:=fun (k:Int) M0 I0 hk hp=>aAV (X:=X) (w0:=w0) (M0:=M0) (I0:=I0) (p:=p) (n:=n) (k:=k) (es:=es) (m:=m) (c:=c) hm hm2 he hk hp
 have hA:=fun M0 I0 hp hq=>aBP (X:=X) (w0:=w0) (M0:=M0) (I0:=I0) (p:=p) (q:=q) (n:=n) (es:=es) (ks:=ks) (m:=m) (c:=c) (l:=l) (c2:=c2) hm hm2 hl hl2 he hks hp hq
 refine uM Try.func11 rfl Try.ntmps11 rfl ?_
 refine lU ?_
 refine iL (fun b6=>?_)
 repeat refine aD ?_
 refine iM rfl (hC _ _ aG) ?_
 repeat refine aD ?_
 refine qU [1,2,6,32,33] rfl (fun k G M I=>∃i:Nat,i≤l∧k=l - i∧G=[(34, .int .i64 i)]∧M= .blk b6 zQ 28::M0∧I0=I) (l) (⟨0,by omega,rfl,rfl,rfl,rfl⟩) ?_
 rintro kk G M I ⟨i,hi,rfl,rfl,rfl,rfl⟩
 by_cases hii:i < l
 ·have hk:=hks i hii
  obtain ⟨k,hgk⟩:∃k,gt ks (i:Int)=k:=⟨_,rfl⟩
  rw [hgk] at hk
  repeat refine aD ?_
  rw [hgk]
  repeat refine aD ?_
  refine mI (l - (i+1)) (⟨i+1,by omega,rfl,rfl,rfl,rfl⟩)
 ·obtain rfl:l=i:=by omega
  repeat refine aD ?_
  refine qU [1,2,6,51,52] rfl (fun k G M I=>∃i:Nat,i≤l∧k=l - i∧G=[(53, .int .i64 i)]∧M= .blk b6 zQ 28::M0∧I0=I) (l) (⟨0,by omega,rfl,rfl,rfl,rfl⟩) ?_
  rintro kk G M I ⟨i,hi,rfl,rfl,rfl,rfl⟩
  by_cases hii:i < l
  ·have hk:=hks i hii
   have hch:=hcl i hii
   obtain ⟨k,hgk⟩:∃k,gt ks (i:Int)=k:=⟨_,rfl⟩
   have hj:((i:Int)+l - 1).tmod l=(if i=0 then (l:Int) - 1 else (i:Int) - 1):=by
    by_cases h0:i=0
    ·subst h0
     rw [if_pos rfl,Int.tmod_eq_emod_of_nonneg (by omega)]
     rw [Int.emod_eq_of_lt (by omega) (by omega)];omega
    ·rw [if_neg h0,Int.tmod_eq_emod_of_nonneg (by omega)]
     rw [show ((i:Int)+l - 1)=((i:Int) - 1)+l by omega,Int.add_emod_right,Int.emod_eq_of_lt (by omega) (by omega)]
   rw [←hj] at hch
   rw [hgk] at hk hch
   have hjr:0≤((i:Int)+l - 1).tmod l∧((i:Int)+l - 1).tmod l < l:=by rw [hj];split <;>omega
   obtain ⟨j,hjj⟩:∃j,((i:Int)+l - 1).tmod l=j:=⟨_,rfl⟩
   rw [hjj] at hch hjr
   obtain ⟨k2,hgk2⟩:∃k2,gt ks j=k2:=⟨_,rfl⟩
   have hk2:=hks j.toNat (by omega)
   rw [Int.toNat_of_nonneg hjr.1,hgk2] at hk2
   rw [hgk2] at hch
   repeat refine aD ?_
   rw [hgk]
   repeat refine aD ?_
   refine iM rfl (hS k _ _ hk aG) ?_
   repeat refine aD ?_
   refine iL (fun b15=>?_)
   repeat refine aD ?_
   rw [hjj,hgk2]
   refine iM rfl (hS k2 _ _ hk2 aG) ?_
   repeat refine aD ?_
   refine iL (fun b19=>?_)
   repeat refine aD ?_
   refine mI (l - (i+1)) (⟨i+1,by omega,rfl,rfl,rfl,rfl⟩)
  ·obtain rfl:l=i:=by omega
   repeat refine aD ?_
   (refine dS rfl (hA _ _ aG aG) ?_;rintro _ _ _ ⟨rfl,rfl,r,z,rfl,hr⟩;refine cK ?_)
   repeat refine aD ?_
   refine eD (rs:=[.cell 6 28, .tmp 7]) (vs:=[qv r, .int .i64 z]) (.inl rfl) rfl (.cellN (cs:=eQ r) inferInstance rfl aG rfl (.tmp rfl .nil)) rfl M0 I0 bN bR ⟨rfl,rfl,r,z,rfl,hr⟩
end
end Go.Proofs.Ytejbgkajdomgcaa

/- The law's homography of four pairs, walked. -/
import Derived.Test.YtmmmfphealhapaaGreatZsaz
import Derived.Test.YtmmmfphealhapaaGreatZsbb
import Derived.Test.YtmmmfphealhapaaGreatZsbe
import Derived.Test.YtmmmfphealhapaaGreatZsaq
import Derived.Test.YtmmmfphealhapaaGreatZsat
import Derived.Test.YtmmmfphealhapaaGreatZsax
import Derived.Test.YtmmmfphealhapaaGreatZsas
import Derived.Test.YtmmmfphealhapaaGreatZsau
import Derived.Test.YtmmmfphealhapaaGreatZsbc
set_option linter.unusedSimpArgs false
set_option linter.unusedVariables false
set_option maxRecDepth 100000
set_option maxHeartbeats 4000000
namespace Go.Proofs.YtmmmfphealhapaaGreat
open Go Go.Fx
abbrev nV:Nat:=8738133
theorem kb9:kb 31 9≤nV:=by decide
section
variable {X:List Nat} {w0:World} {M0:List Ent} {I0:List aM}
theorem bBZ {q qs_:Option Addr} {l:List Q4} {smp:List Int} {n c cs_:Nat} (hl:l.length=n) (hn:n≤64) (hs:∀s∈l,s.near) (hsl:smp.length=4) (hin:∀x∈smp,0≤x∧x < n) (hq:aH q (recs iL l)∈I0) (hqs:aH qs_ (recs eZ smp)∈I0):
  CD Tryz.prog 69 [.slice q n c, .slice qs_ 4 cs_] X w0 M0 I0 (aCK (aCF (bV l smp)) (nV+nV) M0 I0):=by
 refine aX (φ:=aH q (recs iL l)) (Hv.mem hq) (aX (φ:=aH qs_ (recs eZ smp)) (Hv.mem (List.mem_cons_of_mem _ hqs)) ?_)
 refine aN Tryz.func69 rfl Tryz.ntmps69 rfl ?_
 repeat refine aB ?_
 refine dS (fun b6=>?_)
 refine dS (fun b7=>?_)
 repeat refine aB ?_
 refine iN 70 1 ?_
 refine bH (φ:=dX [] 31) Hv.nilL ?_
 refine rY (M':= .blk b7 (recs eV2 [(0,0),(0,0),(0,0),(0,0)]) 192:: .blk b6 (recs eV2 [(0,0),(0,0),(0,0),(0,0)]) 192:: .row none 0 0 (recs eL []) 70 1::M0) (I':=dX [] 31::aH qs_ (recs eZ smp)::aH q (recs iL l)::I0) aF aD ?_
 refine bX [0,6,7,25,26] rfl (fun k G M I=>∃(i:Nat) (fs ts:List (Int × Int)) (rows:List RL) (qa:Option Addr) (ca:Nat),i≤4∧k=4 - i∧fs.length=4∧ts.length=4∧(∀t:Nat,t < i→gt fs (t:Int)=((gt l (gt smp (t:Int))).x,(gt l (gt smp (t:Int))).y))∧(∀t:Nat,t < i→gt ts (t:Int)=((gt l (gt smp (t:Int))).u,(gt l (gt smp (t:Int))).v))∧rows.map RL.q=hA (bV l (smp.take i))∧G=[(8, .slice qa rows.length ca),(27, .int .i64 i)]∧M= .blk b7 (recs eV2 ts) 192:: .blk b6 (recs eV2 fs) 192:: .row qa rows.length ca (recs eL rows) 70 1::M0∧I=dX rows 31::aH qs_ (recs eZ smp)::aH q (recs iL l)::I0) (4) _ _ _ dE aF aD (⟨0,_,_,[],none,0,by omega,rfl,rfl,rfl,fun t ht=>absurd ht (by omega),fun t ht=>absurd ht (by omega),rfl,rfl,rfl,rfl⟩) ?_
 rintro kk G M I ⟨i,fs,ts,rows,qa,ca,hi,rfl,hfl,htl,hfs,hts,hrq,rfl,rfl,rfl⟩
 have hpl:(bV l (smp.take i)).length=i:=by rw [pR,List.length_take];omega
 have hlr:rows.length=2*i:=by have:=congrArg List.length hrq;rw [List.length_map,aMJ,hpl] at this;omega
 by_cases hii:i < 4
 ·have hzm:=hin _ (bD (ms:=smp) (i:=(i:Int)) (by omega))
  have ht:bV l (smp.take (i+1))=bV l (smp.take i)++[gt l (gt smp (i:Int))]:=by rw [←rT,gtQ (by omega)];exact congrArg (bV l) (List.take_append_getElem (by omega)).symm
  obtain ⟨z,hz⟩:∃z,gt smp (i:Int)=z:=⟨_,rfl⟩
  rw [hz] at hzm ht
  have hmem:=bD (ms:=l) (i:=z) (by omega)
  obtain ⟨s,hss⟩:∃s,gt l z=s:=⟨_,rfl⟩
  rw [hss] at hmem ht
  have hns:=hs s hmem
  obtain ⟨hb1,hb2⟩:=hr_in hns
  obtain ⟨n1,n2,n3,n4⟩:=hns
  have hA2:hA (bV l (smp.take (i+1)))=hA (bV l (smp.take i))++[cz (hr1 s),cz (hr2 s)]:=by rw [ht,aZY]
  have hbf:(0:Int)≤(i:Int)∧(i:Int) < ((st fs (i:Int) (s.x,s.y)).length:Int):=by rw [nY];omega
  have hbt:(0:Int)≤(i:Int)∧(i:Int) < ((st ts (i:Int) (s.u,s.v)).length:Int):=by rw [nY];omega
  have gf:gt (st fs (i:Int) (s.x,s.y)) (i:Int)=(s.x,s.y):=by rw [oW (by omega) (by omega),if_pos rfl]
  have gt_:gt (st ts (i:Int) (s.u,s.v)) (i:Int)=(s.u,s.v):=by rw [oW (by omega) (by omega),if_pos rfl]
  repeat refine aB ?_
  rw [hz]
  (repeat refine aG ?_);refine qQ (M0) (aH qs_ (recs eZ smp)::aH q (recs iL l)::I0) [0,1,2,3,4,5,6,7,8,9,10,11,12,13,14,15] [0,1,0,0,0,0,0,1,1,1,1,1,0,0,0,0] mixed ?_
  repeat refine yXh ?_
  (apply pY;exact eY;exact rfl;exact aA;exact AtsZ.r2 (enc:=iL) (sz:=4) (ms:=l) (i:=z) (j:=0) ⟨by omega,by omega⟩ rfl rfl;exact rfl;exact rfl)
  repeat refine yXh ?_
  (apply pY;exact eY;exact rfl;exact aA;exact AtsZ.r2 (enc:=iL) (sz:=4) (ms:=l) (i:=z) (j:=2) ⟨by omega,by omega⟩ rfl rfl;exact rfl;exact rfl)
  rw [hss]
  repeat refine yXh ?_
  refine fO (vs:=eV2 (s.x,s.y)) rfl rfl rfl (Ones.one _) jL (StAts.o0 (enc:=eV2) (sz:=2) (ms:=fs) (i:=(i:Int)) (s.x,s.y) ⟨by omega,by omega⟩ rfl) rfl rfl ⟨okF,?_⟩
  repeat refine yXh ?_
  refine fO (vs:=eV2 (s.u,s.v)) rfl rfl rfl (Ones.one _) jL (StAts.o0 (enc:=eV2) (sz:=2) (ms:=ts) (i:=(i:Int)) (s.u,s.v) ⟨by omega,by omega⟩ rfl) rfl rfl ⟨okF,?_⟩
  obtain ⟨fs1,hfs1⟩:∃fs1,st fs (i:Int) (s.x,s.y)=fs1:=⟨_,rfl⟩
  obtain ⟨ts1,hts1⟩:∃ts1,st ts (i:Int) (s.u,s.v)=ts1:=⟨_,rfl⟩
  rw [hfs1] at hbf gf ⊢
  rw [hts1] at hbt gt_ ⊢
  repeat refine aB ?_
  (repeat refine aG ?_);refine qQ (.blk b7 (recs eV2 ts1) 192:: .blk b6 (recs eV2 fs1) 192::M0) (aH qs_ (recs eZ smp)::aH q (recs iL l)::I0) [0,1,2,3,4,5,6,7,8,9,10,11,12,13,14,15,16,17,18,19] [0,0,0,0,0,0,0,0,0,0,0,0,0,0,0,0,0,0,0,0] mixed ?_
  repeat refine aB ?_
  (apply gI (v:= .int .i64 s.x);exact eY;exact rfl;exact aA;exact At.v0 hbf (by rw [gf]);exact rfl;exact rfl)
  repeat refine aB ?_
  (apply gI (v:= .int .i64 s.y);exact eY;exact rfl;exact aA;exact At.v1 hbf (by rw [gf]);exact rfl;exact rfl)
  repeat refine aB ?_
  (apply gI (v:= .int .i64 s.u);exact eY;exact rfl;exact aA;exact At.v0 hbt (by rw [gt_]);exact rfl;exact rfl)
  repeat refine aB ?_
  (apply gI (v:= .int .i64 s.v);exact eY;exact rfl;exact aA;exact At.v1 hbt (by rw [gt_]);exact rfl;exact rfl)
  have m1:=wZ (a:=0 - s.u) (b:=s.x) (by omega) n1
  have m2:=wZ (a:=0 - s.u) (b:=s.y) (by omega) n2
  have m3:=wZ (a:=0 - s.v) (b:=s.x) (by omega) n1
  have m4:=wZ (a:=0 - s.v) (b:=s.y) (by omega) n2
  have k1: -9223372036854775808≤(0 - s.u)*s.x∧(0 - s.u)*s.x≤9223372036854775807:=by omega
  have k2: -9223372036854775808≤(0 - s.u)*s.y∧(0 - s.u)*s.y≤9223372036854775807:=by omega
  have k3: -9223372036854775808≤(0 - s.v)*s.x∧(0 - s.v)*s.x≤9223372036854775807:=by omega
  have k4: -9223372036854775808≤(0 - s.v)*s.y∧(0 - s.v)*s.y≤9223372036854775807:=by omega
  repeat refine aB ?_
  rw [Int.zero_sub]
  refine gX (cs:=recs eZ (hr1 s)) ([.int .i64 s.x, .int .i64 s.y, .int .i64 1, .int .i64 0, .int .i64 0, .int .i64 0, .int .i64 (-s.u*s.x), .int .i64 (-s.u*s.y), .int .i64 (-s.u)]) rfl (fun b9=>?_)
  refine aI .here ?_
  repeat refine aB ?_
  rw [Int.zero_sub]
  refine gX (cs:=recs eZ (hr2 s)) ([.int .i64 0, .int .i64 0, .int .i64 0, .int .i64 s.x, .int .i64 s.y, .int .i64 1, .int .i64 (-s.v*s.x), .int .i64 (-s.v*s.y), .int .i64 (-s.v)]) rfl (fun b10=>?_)
  refine aI .here ?_
  refine gX (cs:=recs eSl [b9,b10]) ([.slice (some ⟨b9,0,none⟩) 9 9, .slice (some ⟨b10,0,none⟩) 9 9]) rfl (fun b11=>?_)
  refine aI .here ?_
  clear m1 m2 m3 m4 k1 k2 k3 k4
  obtain ⟨X1,hX1⟩:∃X1,hr1 s=X1:=⟨_,rfl⟩
  obtain ⟨X2,hX2⟩:∃X2,hr2 s=X2:=⟨_,rfl⟩
  have l1:X1.length=9:=by rw [←hX1];rfl
  have l2:X2.length=9:=by rw [←hX2];rfl
  rw [hX1] at hb1 hA2 ⊢
  rw [hX2] at hb2 hA2 ⊢
  repeat refine aB ?_
  refine rY (M':= .blk b7 (recs eV2 ts1) 192:: .blk b6 (recs eV2 fs1) 192:: .row qa rows.length ca (recs eL rows) 70 1::M0) (I':=dX rows 31::aH (some ⟨b11,0,none⟩) (recs eSl [b9,b10])::aH (some ⟨b10,0,none⟩) (recs eZ X2)::aH (some ⟨b9,0,none⟩) (recs eZ X1)::aH qs_ (recs eZ smp)::aH q (recs iL l)::I0) aF aD ?_
  refine lV [0,6,7,25,26,27,88,89] rfl (fun k G M I=>∃(t:Nat) (rows1:List RL) (qa1:Option Addr) (ca1:Nat),t≤2∧k=2 - t∧rows1.map RL.q=hA (bV l (smp.take i))++[cz X1,cz X2].take t∧G=[(8, .slice qa1 rows1.length ca1),(90, .int .i64 t)]∧M= .blk b7 (recs eV2 ts1) 192:: .blk b6 (recs eV2 fs1) 192:: .row qa1 rows1.length ca1 (recs eL rows1) 70 1::M0∧I=dX rows1 31::aH (some ⟨b11,0,none⟩) (recs eSl [b9,b10])::aH (some ⟨b10,0,none⟩) (recs eZ X2)::aH (some ⟨b9,0,none⟩) (recs eZ X1)::aH qs_ (recs eZ smp)::aH q (recs iL l)::I0) (2) (⟨0,rows,qa,ca,by omega,rfl,by rw [hrq];simp,rfl,rfl,rfl⟩) ?_
  rintro kk G M I ⟨t,rows1,qa1,ca1,ht2,rfl,hrq1,rfl,rfl,rfl⟩
  have hlr1:rows1.length=2*i+t:=by have:=congrArg List.length hrq1;rw [List.length_map,List.length_append,aMJ,hpl,List.length_take] at this;simp at this;omega
  by_cases ht3:t < 2
  ·obtain ⟨bt,xs,hbt2,hf,hxl,hxb,hA3⟩:=pair9 (I:=dX rows1 31::aH (some ⟨b11,0,none⟩) (recs eSl [b9,b10])::aH (some ⟨b10,0,none⟩) (recs eZ X2)::aH (some ⟨b9,0,none⟩) (recs eZ X1)::aH qs_ (recs eZ smp)::aH q (recs iL l)::I0) (b9:=b9) (b10:=b10) (by simp) (by simp) l1 l2 hb1 hb2 ht3
   refine bH (φ:=aH (some ⟨bt,0,none⟩) (recs eZ xs)) (Hv.mem hf) ?_
   have hl2':(t:Int) < (([b9,b10]:List Nat).length:Int):=by show (t:Int) < ((2:Nat):Int);omega
   repeat refine aB ?_
   rw [hbt2]
   repeat refine aB ?_
   refine iN 77 4 ?_
   refine bH (φ:=aU [] 31) Hv.nilR ?_
   repeat refine aB ?_
   refine lV [0,6,7,8,25,26,27,88,89,90,94,95] rfl (fun k G M I=>∃(j:Nat) (es:List RE) (qe:Option Addr) (ce:Nat),j≤9∧k=9 - j∧es.length=j∧qs es=cz (xs.take j)∧G=[(17, .slice qe es.length ce),(96, .int .i64 j)]∧M= .row qe es.length ce (recs eR es) 77 4:: .blk b7 (recs eV2 ts1) 192:: .blk b6 (recs eV2 fs1) 192:: .row qa1 rows1.length ca1 (recs eL rows1) 70 1::M0∧I=aU es 31::aH (some ⟨bt,0,none⟩) (recs eZ xs)::dX rows1 31::aH (some ⟨b11,0,none⟩) (recs eSl [b9,b10])::aH (some ⟨b10,0,none⟩) (recs eZ X2)::aH (some ⟨b9,0,none⟩) (recs eZ X1)::aH qs_ (recs eZ smp)::aH q (recs iL l)::I0) (9) (⟨0,[],none,0,by omega,rfl,rfl,rfl,rfl,rfl,rfl⟩) ?_
   rintro kk G M I ⟨j,es,qe,ce,hj,rfl,hel,heq,rfl,rfl,rfl⟩
   by_cases hjm:j < 9
   ·have hx:=hxb _ (bD (ms:=xs) (i:=(j:Int)) (by omega))
    obtain ⟨x,hxx⟩:∃x,gt xs (j:Int)=x:=⟨_,rfl⟩
    rw [hxx] at hx
    have hW:=fun M0 I0=>lF (X:=X) (w0:=w0) (M0:=M0) (I0:=I0) (x:=x) hx.1 (k:=31) hx.2
    have htx:xs.take (j+1)=xs.take j++[x]:=by rw [←hxx,fE (by omega)];exact (List.take_append_getElem (by omega)).symm
    repeat refine aB ?_
    rw [hxx]
    repeat refine aB ?_
    (refine aQ rfl (hW _ _) ?_;rintro _ _ _ ⟨rfl,e,rfl,he,rfl⟩;refine aL ?_)
    refine gX (cs:=recs eR [e]) ([rv e]) rfl (fun b=>?_)
    refine wB (ys:=[e]) 1 rfl rfl rfl (fun q2 c3=>?_)
    repeat refine aB ?_
    refine dF (φ:=aU (es++[e]) 31) (Hv.snoc aA aA) ?_
    refine gJ (9 - (j+1)) (⟨j+1,es++[e],q2,c3,by omega,rfl,by simp [hel],?_,rfl,rfl,rfl⟩)
    rw [htx,yY,←heq]
    show (es++[e]).map RE.q=qs es++[(x:Rat)]
    rw [List.map_append,←he]
    rfl
   ·obtain rfl:j=9:=by omega
    rw [←hxl,List.take_length] at heq
    repeat refine aB ?_
    refine aHM (k:=31) aA ?_
    refine gX (cs:=recs eL [⟨qe,ce,es⟩]) ([lv ⟨qe,ce,es⟩]) rfl (fun b17=>?_)
    refine wB (ys:=[⟨qe,ce,es⟩]) 3 rfl rfl rfl (fun qa2 ca2=>?_)
    repeat refine aB ?_
    refine dF (φ:=dX (rows1++[(⟨qe,ce,es⟩:RL)]) 31) (Hv.snocL aA aA) ?_
    refine gJ (2 - (t+1)) (⟨t+1,rows1++[(⟨qe,ce,es⟩:RL)],qa2,ca2,by omega,rfl,by rw [hA3,List.map_append,hrq1,List.append_assoc];show _++(_++[qs es])=_;rw [heq],rfl,rfl,rfl⟩)
  ·obtain rfl:t=2:=by omega
   repeat refine aB ?_
   refine gJ (4 - (i+1)) (⟨i+1,fs1,ts1,rows1,qa1,ca1,by omega,rfl,by rw [←hfs1,nY];exact hfl,by rw [←hts1,nY];exact htl,fun u hu=>by
    rw [←hfs1,oW (by omega) (by omega)]
    by_cases e:u=i
    ·subst e
     rw [if_pos rfl,hz,hss]
    ·rw [if_neg e]
     exact hfs u (by omega),fun u hu=>by
    rw [←hts1,oW (by omega) (by omega)]
    by_cases e:u=i
    ·subst e
     rw [if_pos rfl,hz,hss]
    ·rw [if_neg e]
     exact hts u (by omega),by rw [hrq1,hA2];rfl,rfl,rfl,rfl⟩)
 obtain rfl:i=4:=by omega
 rw [←hsl,List.take_length] at hrq
 have hpl4:(bV l smp).length=4:=by rw [pR,hsl]
 have hnr:=vL hs (smp:=smp) (by rw [hl];exact hin)
 obtain ⟨ps,hps⟩:∃ps,bV l smp=ps:=⟨_,rfl⟩
 have hgp:∀t:Nat,t < 4→gt ps (t:Int)=gt l (gt smp (t:Int)):=fun t ht=>by
  rw [←hps]
  unfold bV
  rw [dP (by rw [List.length_map];omega),List.getElem_map,fE (by omega)]
 rw [hps] at hrq hpl4 hnr ⊢
 have ef:∀t:Nat,t < 4→hg2 (gt fs (t:Int))=ptF (gt ps (t:Int)):=fun t ht=>by rw [hfs t ht,hgp t ht];rfl
 have et:∀t:Nat,t < 4→hg2 (gt ts (t:Int))=ptT (gt ps (t:Int)):=fun t ht=>by rw [hts t ht,hgp t ht];rfl
 have nf:∀p∈fs,nr2 p:=fun p hp=>by
  rw [os4 hfl] at hp
  have n0:=hnr _ (bD (ms:=ps) (i:=((0:Nat):Int)) ⟨by omega,by omega⟩)
  have n1:=hnr _ (bD (ms:=ps) (i:=((1:Nat):Int)) ⟨by omega,by omega⟩)
  have n2:=hnr _ (bD (ms:=ps) (i:=((2:Nat):Int)) ⟨by omega,by omega⟩)
  have n3:=hnr _ (bD (ms:=ps) (i:=((3:Nat):Int)) ⟨by omega,by omega⟩)
  rw [hgp 0 (by omega)] at n0
  rw [hgp 1 (by omega)] at n1
  rw [hgp 2 (by omega)] at n2
  rw [hgp 3 (by omega)] at n3
  rw [show gt fs 0=_ from hfs 0 (by omega),show gt fs 1=_ from hfs 1 (by omega),show gt fs 2=_ from hfs 2 (by omega),show gt fs 3=_ from hfs 3 (by omega)] at hp
  simp only [List.mem_cons,List.not_mem_nil,or_false] at hp
  rcases hp with rfl|rfl|rfl|rfl
  ·exact ⟨n0.x,n0.y⟩
  ·exact ⟨n1.x,n1.y⟩
  ·exact ⟨n2.x,n2.y⟩
  ·exact ⟨n3.x,n3.y⟩
 have nt:∀p∈ts,nr2 p:=fun p hp=>by
  rw [os4 htl] at hp
  have n0:=hnr _ (bD (ms:=ps) (i:=((0:Nat):Int)) ⟨by omega,by omega⟩)
  have n1:=hnr _ (bD (ms:=ps) (i:=((1:Nat):Int)) ⟨by omega,by omega⟩)
  have n2:=hnr _ (bD (ms:=ps) (i:=((2:Nat):Int)) ⟨by omega,by omega⟩)
  have n3:=hnr _ (bD (ms:=ps) (i:=((3:Nat):Int)) ⟨by omega,by omega⟩)
  rw [hgp 0 (by omega)] at n0
  rw [hgp 1 (by omega)] at n1
  rw [hgp 2 (by omega)] at n2
  rw [hgp 3 (by omega)] at n3
  rw [show gt ts 0=_ from hts 0 (by omega),show gt ts 1=_ from hts 1 (by omega),show gt ts 2=_ from hts 2 (by omega),show gt ts 3=_ from hts 3 (by omega)] at hp
  simp only [List.mem_cons,List.not_mem_nil,or_false] at hp
  rcases hp with rfl|rfl|rfl|rfl
  ·exact ⟨n0.u,n0.v⟩
  ·exact ⟨n1.u,n1.v⟩
  ·exact ⟨n2.u,n2.v⟩
  ·exact ⟨n3.u,n3.v⟩
 have cf:(⟨hg2 (gt fs 0),hg2 (gt fs 1),hg2 (gt fs 2),hg2 (gt fs 3)⟩:P4 Int)=l4 ps:=by rw [show hg2 (gt fs 0)=_ from ef 0 (by omega),show hg2 (gt fs 1)=_ from ef 1 (by omega),show hg2 (gt fs 2)=_ from ef 2 (by omega),show hg2 (gt fs 3)=_ from ef 3 (by omega)];rfl
 have ct:(⟨hg2 (gt ts 0),hg2 (gt ts 1),hg2 (gt ts 2),hg2 (gt ts 3)⟩:P4 Int)=m4 ps:=by rw [show hg2 (gt ts 0)=_ from et 0 (by omega),show hg2 (gt ts 1)=_ from et 1 (by omega),show hg2 (gt ts 2)=_ from et 2 (by omega),show hg2 (gt ts 3)=_ from et 3 (by omega)];rfl
 have hC1:=fun M0 I0=>aOZ (X:=X) (w0:=w0) (M0:=M0) (I0:=I0) (ps:=fs) hfl nf
 have hC2:=fun M0 I0=>aOZ (X:=X) (w0:=w0) (M0:=M0) (I0:=I0) (ps:=ts) htl nt
 rw [cf] at hC1
 rw [ct] at hC2
 clear hfs hts hgp ef et nf nt cf ct hin
 repeat refine aB ?_
 (apply bI;exact eY;exact rfl;exact aA;exact AtsZ.all (by rw [fH,hfl]);exact rfl;exact rfl)
 repeat refine aB ?_
 refine dK rfl (hC1 _ _) ?_
 by_cases c1:colP (l4 ps)
 ·rw [bJ c1]
  repeat refine aB ?_
  refine fB (M':=M0) (I':=I0) aF aD ?_
  refine gH [4,5] (by first|exact .inl rfl|exact .inr rfl) rfl rfl rfl _ _ aF aD (⟨rfl,by unfold aCF;rw [if_pos (show colP (l4 ps)∨colP (m4 ps) from .inl c1)];exact ⟨rfl,_,rfl⟩⟩)
 rw [bE c1]
 repeat refine aB ?_
 (apply bI;exact eY;exact rfl;exact aA;exact AtsZ.all (by rw [fH,htl]);exact rfl;exact rfl)
 repeat refine aB ?_
 refine dK rfl (hC2 _ _) ?_
 by_cases c2:colP (m4 ps)
 ·rw [bJ c2]
  repeat refine aB ?_
  refine fB (M':=M0) (I':=I0) aF aD ?_
  refine gH [4,5] (by first|exact .inl rfl|exact .inr rfl) rfl rfl rfl _ _ aF aD (⟨rfl,by unfold aCF;rw [if_pos (show colP (l4 ps)∨colP (m4 ps) from .inr c2)];exact ⟨rfl,_,rfl⟩⟩)
 rw [bE c2]
 refine yN (M':= .row qa rows.length ca (recs eL rows) 70 1::M0) (I':=dX rows 31::I0) aF aD ?_
 refine aUE (k:=31) List.mem_cons_self ?_
 obtain ⟨zv,hz1,hz9,hzf,hzn⟩:=aSC hpl4 c1 c2
 have hpP:aCF ps=some (aRN (sG zv)):=by unfold aCF;rw [if_neg (fun h=>h.elim c1 c2),hzn]
 rw [hpP]
 have hdim:(⟨qa,ca,rows⟩:MX).dim 8 9:=⟨by show rows.length=8;omega,fun r hr=>by
  have h1:r.q∈hA ps:=by rw [←hrq];exact List.mem_map_of_mem hr
  obtain ⟨s,_,h2⟩:=List.mem_flatMap.1 h1
  have h3:r.q.length=9:=by
   simp only [List.mem_cons,List.not_mem_nil,or_false] at h2
   rcases h2 with h2|h2 <;>rw [h2] <;>rfl
  rw [←h3]
  exact (List.length_map _).symm⟩
 have hN:=fun M0 I0 h=>aRJ (X:=X) (w0:=w0) (M0:=M0) (I0:=I0) (a:=⟨qa,ca,rows⟩) (R:=8) (C:=9) (k0:=31) (Nat.le_trans kb9 (by decide)) (by omega) (by omega) hdim (by show (xY (rows.map RL.q) 9).length=1;rw [hrq,hz1];rfl) h
 unfold NlO at hN
 have hW0:=fun M0 I0=>lF (X:=X) (w0:=w0) (M0:=M0) (I0:=I0) (x:=0) (by decide) (k:=nV) (by simp)
 repeat refine aB ?_
 (refine aQ rfl (hN _ _ aA) ?_;rintro _ _ _ ⟨qo,co,b,c0,es,tl,rfl,hne,hel,hcc,rfl,rfl⟩;refine aL ?_)
 have hqz:qs es=zv:=by
  have h1:xY (rows.map RL.q) 9=[qs es]:=hne
  rw [hrq,hz1] at h1
  exact (List.cons.inj h1).1.symm
 refine cK (φ:=aU es nV) (Hv.allMono (k:=kb 31 9) aA kb9) ?_
 obtain ⟨r0,hr0⟩:∃r0:RL,(⟨some ⟨b,0,none⟩,c0,es⟩:RL)=r0:=⟨_,rfl⟩
 have r0p:r0.p=some ⟨b,0,none⟩:=by rw [←hr0]
 have r0l:r0.es.length=9:=by rw [←hr0];exact hel
 have r0c:r0.c=c0:=by rw [←hr0]
 rw [hr0]
 have h1l:([r0]:List RL).length=1:=rfl
 repeat refine aB ?_
 rw [r0p,r0l,r0c]
 repeat refine aB ?_
 (refine aQ rfl (hW0 _ _) ?_;rintro _ _ _ ⟨rfl,e0,rfl,he0,rfl⟩;refine aL ?_)
 refine dS (fun b21=>?_)
 repeat refine aB ?_
 refine rY (M':= .blk b21 (eR e0) 77:: .blk b (recs eR es++tl) 77::M0) (I':=bW e0 nV::aU es nV::I0) aF aD ?_
 refine lV [20,21,123,124] rfl (fun k G M I=>∃(i:Nat) (e:RE),i≤9∧k=9 - i∧e.q=rX ((qs es).take i)∧G=[(125, .int .i64 i)]∧M= .blk b21 (eR e) 77:: .blk b (recs eR es++tl) 77::M0∧I=bW e nV::aU es nV::I0) (9) (⟨0,e0,by omega,rfl,he0,rfl,rfl,rfl⟩) ?_
 rintro kk G M I ⟨i,e,hi,rfl,he,rfl,rfl,rfl⟩
 by_cases hii:i < 9
 ·obtain ⟨x,hx⟩:∃x,gt es (i:Int)=x:=⟨_,rfl⟩
  have htk:(qs es).take (i+1)=(qs es).take i++[x.q]:=by
   have hl9:i < (qs es).length:=by simp [qs];omega
   rw [←List.take_append_getElem hl9,←hx,fE (by omega)]
   simp [qs]
  have hS:=fun M0 I0 h=>rQ (X:=X) (w0:=w0) (M0:=M0) (I0:=I0) (e:=e) (k:=nV) (by decide) h
  refine bH (φ:=bW x nV) (by rw [←hx];exact Hv.all aA ⟨by omega,by omega⟩ (Nat.le_refl _)) ?_
  repeat (first|(refine aB ?_)|(refine bM ?_;apply bI;exact eY;exact rfl;exact aA;exact AtsZ.app (AtsZ.r iC);exact rfl;exact rfl))
  repeat refine aB ?_
  rw [hx]
  refine dS (fun b23=>?_)
  repeat refine aB ?_
  refine dK rfl (hS _ _ (Hv.mem aA)) ?_
  by_cases h0:e.q=0
  ·have hs0:e.q.num.sign=0:=Int.sign_eq_zero_iff_zero.2 (Rat.num_eq_zero.2 h0)
   repeat refine aB ?_
   refine fB (M':= .blk b21 (eR x) 77:: .blk b (recs eR es++tl) 77::M0) (I':=bW x nV::aU es nV::I0) aF aD ?_
   refine gJ (9 - (i+1)) (⟨i+1,x,by omega,rfl,by rw [htk,aBG,←he,if_pos h0],rfl,rfl,rfl⟩)
  ·have hs0:¬e.q.num.sign=0:=fun h=>h0 (Rat.num_eq_zero.1 (Int.sign_eq_zero_iff_zero.1 h))
   repeat refine aB ?_
   refine fB (M':= .blk b21 (eR e) 77:: .blk b (recs eR es++tl) 77::M0) (I':=bW e nV::aU es nV::I0) aF aD ?_
   refine gJ (9 - (i+1)) (⟨i+1,e,by omega,rfl,by rw [htk,aBG,←he,if_neg h0],rfl,rfl,rfl⟩)
 obtain rfl:i=9:=by omega
 have hF:e.q=rX zv:=by
  rw [he,hqz,List.take_of_length_le (by omega)]
 rw [←hF] at hzf
 repeat refine aB ?_
 refine bH (φ:=aU es (nV+nV)) (Hv.allMono (k:=nV) aA (by decide)) ?_
 refine rY (M':= .blk b21 (eR e) 77:: .blk b (recs eR es++tl) 77::M0) (I':=aU es (nV+nV)::bW e nV::aU es nV::I0) aF aD ?_
 refine lV [20,21,135] rfl (fun k G M I=>∃(i:Nat) (es2:List RE),i≤9∧k=9 - i∧es2.length=9∧(∀t:Nat,t < i→(gt es2 (t:Int)).q=(gt es (t:Int)).q / e.q)∧(∀t:Nat,i≤t→t < 9→gt es2 (t:Int)=gt es (t:Int))∧G=[(136, .int .i64 i)]∧M= .blk b21 (eR e) 77:: .blk b (recs eR es2++tl) 77::M0∧I=aU es2 (nV+nV)::bW e nV::aU es nV::I0) (9) (⟨0,es,by omega,rfl,hel,fun t ht=>absurd ht (by omega),fun t _ _=>rfl,rfl,rfl,rfl⟩) ?_
 rintro kk G M I ⟨i,es2,hi,rfl,hel2,hlo,hhi,rfl,rfl,rfl⟩
 by_cases hii:i < 9
 ·obtain ⟨x,hx⟩:∃x,gt es2 (i:Int)=x:=⟨_,rfl⟩
  have hx2:gt es (i:Int)=x:=by rw [←hhi i (Nat.le_refl _) hii,hx]
  have hD:=fun M0 I0 h1 h2=>aBQ (X:=X) (w0:=w0) (M0:=M0) (I0:=I0) (a:=x) (b:=e) (k:=nV) (m:=nV) (by decide) hzf h1 h2
  unfold RQc at hD
  refine bH (φ:=bW x nV) (by rw [←hx2];exact Hv.all (es:=es) (k:=nV) aA ⟨by omega,by omega⟩ (Nat.le_refl _)) ?_
  repeat refine aB ?_
  (repeat refine aG ?_);refine bA 1 [0,1,2,3,4,5,6,7,8,9,10,11,12] [1,1,1,1,1,0,0,0,0,0,1,0,0] mixed (by kernel_rfl) ?_
  repeat (first|(refine aB ?_)|(refine bM ?_;apply bI;exact eY;exact rfl;exact aA;exact AtsZ.app (AtsZ.r iC);exact rfl;exact rfl))
  repeat refine aB ?_
  rw [hx]
  repeat refine aB ?_
  (refine aQ rfl (hD _ _ (Hv.mem aA) (Hv.mem aA)) ?_;rintro _ _ _ ⟨rfl,y,rfl,hy,rfl⟩;refine aL ?_)
  repeat refine yXh ?_
  refine fO (vs:=eR y) rfl rfl rfl (Ones.one y) jL (StAts.app (StAts.r (enc:=eR) (ms:=es2) (i:=(i:Int)) y ⟨by omega,by omega⟩ rfl)) rfl rfl ⟨okF,?_⟩
  refine cK (φ:=aU (st es2 (i:Int) y) (nV+nV)) (Hv.stR aA aA) ?_
  repeat refine aB ?_
  refine gJ (9 - (i+1)) (⟨i+1,st es2 (i:Int) y,by omega,rfl,by rw [nY];exact hel2,fun t ht=>by
   rw [oW (by omega) (by omega)]
   by_cases e2:t=i
   ·subst e2
    rw [if_pos rfl,hy,hx2]
   ·rw [if_neg e2]
    exact hlo t (by omega),fun t ht h9=>by
   rw [oW (by omega) (by omega),if_neg (by omega)]
   exact hhi t (by omega) h9,rfl,rfl,rfl⟩)
 obtain rfl:i=9:=by omega
 have hq2:qs es2=sG zv:=by
  apply rJ
  ·rw [List.length_map,hel2];unfold sG;rw [List.length_map,hz9]
  ·intro t ht
   have ht9:t < 9:=by rw [List.length_map] at ht;omega
   rw [iM (by omega),hlo t ht9,aNJ (by omega),←hqz,iM (by omega),hqz,hF]
 refine rY (M':= .blk b (recs eR es2++tl) 77::M0) (I':=aU es2 (nV+nV)::I0) aF aD ?_
 refine aZC (k:=nV+nV) (c:=c0) (by omega) aA ?_
 obtain ⟨r,hr⟩:∃r:RL,r=⟨some ⟨b,0,none⟩,c0,es2⟩:=⟨_,rfl⟩
 have hrl:r.es.length=9:=by rw [hr];exact hel2
 have hrc:r.c=c0:=by rw [hr]
 have hrp:r.p=some ⟨b,0,none⟩:=by rw [hr]
 have hrq2:r.q=sG zv:=by rw [hr];exact hq2
 rw [←hr]
 repeat refine aB ?_
 (repeat refine aG ?_);refine qQ (M0) (iQ r (nV+nV)::I0) [0,1,2,3,4,5,6,7,8] [1,0,1,0,1,0,0,0,0] mixed ?_
 repeat refine aB ?_
 rw [←hrp,←hrc]
 rw [←hrc] at hcc
 (refine aC rfl (fun _=>pU (e:=77) (sz:=4) 0 3 3 rfl (.inl ⟨rfl,rfl⟩) (.inr ⟨_,_,_,rfl,rfl,rfl⟩) (by omega) (by omega) rfl) rfl rfl ?_)
 repeat refine aB ?_
 (refine aC rfl (fun _=>pU (e:=77) (sz:=4) 3 6 3 rfl (.inr ⟨_,_,_,rfl,rfl,rfl⟩) (.inr ⟨_,_,_,rfl,rfl,rfl⟩) (by omega) (by omega) rfl) rfl rfl ?_)
 repeat refine aB ?_
 (refine aC rfl (fun _=>pU (e:=77) (sz:=4) 6 9 3 rfl (.inr ⟨_,_,_,rfl,rfl,rfl⟩) (.inl ⟨rfl,rfl⟩) (by omega) (by omega) rfl) rfl rfl ?_)
 have s0:(r.sub 0 3).es.length=3:=by show ((r.es.take 3).drop 0).length=3;rw [List.length_drop,List.length_take];omega
 have s1:(r.sub 3 6).es.length=3:=by show ((r.es.take 6).drop 3).length=3;rw [List.length_drop,List.length_take];omega
 have s2:(r.sub 6 9).es.length=3:=by show ((r.es.take 9).drop 6).length=3;rw [List.length_drop,List.length_take];omega
 have u0:Value.slice (wL r.p r.c 0 4) 3 (r.c - 0)=lv (r.sub 0 3):=by show _=Value.slice _ (r.sub 0 3).es.length _;rw [s0];rfl
 have u1:Value.slice (wL r.p r.c 3 4) 3 (r.c - 3)=lv (r.sub 3 6):=by show _=Value.slice _ (r.sub 3 6).es.length _;rw [s1];rfl
 have u2:Value.slice (wL r.p r.c 6 4) 3 (r.c - 6)=lv (r.sub 6 9):=by show _=Value.slice _ (r.sub 6 9).es.length _;rw [s2];rfl
 rw [u0,u1,u2]
 refine cK (φ:=iQ (r.sub 0 3) (nV+nV)) (Hv.subL aA (by omega) (by omega)) ?_
 refine cK (φ:=iQ (r.sub 3 6) (nV+nV)) (Hv.subL aA (by omega) (by omega)) ?_
 refine cK (φ:=iQ (r.sub 6 9) (nV+nV)) (Hv.subL aA (by omega) (by omega)) ?_
 refine cK (φ:=dX [r.sub 0 3,r.sub 3 6,r.sub 6 9] (nV+nV)) (Hv.threeL aA aA aA) ?_
 refine gX (cs:=recs eL [r.sub 0 3,r.sub 3 6,r.sub 6 9]) ([lv (r.sub 0 3),lv (r.sub 3 6),lv (r.sub 6 9)]) rfl (fun bm=>?_)
 refine aI .here ?_
 refine cK (φ:=iB ⟨some ⟨bm,0,none⟩,3,[r.sub 0 3,r.sub 3 6,r.sub 6 9]⟩ (nV+nV)) (Hv.mkX (b:=bm) (rows:=[r.sub 0 3,r.sub 3 6,r.sub 6 9]) aA aA) ?_
 repeat refine aB ?_
 refine fB (M':=M0) (I':=iB ⟨some ⟨bm,0,none⟩,3,[r.sub 0 3,r.sub 3 6,r.sub 6 9]⟩ (nV+nV)::I0) aF aD ?_
 refine gH [4,5] (by first|exact .inl rfl|exact .inr rfl) rfl rfl rfl _ _ aF aD (⟨rfl,⟨some ⟨bm,0,none⟩,3,[r.sub 0 3,r.sub 3 6,r.sub 6 9]⟩,rfl,by show [(r.sub 0 3).q,(r.sub 3 6).q,(r.sub 6 9).q]=_;rw [RL.sub_q,RL.sub_q,RL.sub_q,hrq2];exact aNU (by unfold sG;rw [List.length_map,hz9]),⟨rfl,fun x hx=>by
  simp only [List.mem_cons,List.not_mem_nil,or_false] at hx
  rcases hx with rfl|rfl|rfl <;>assumption⟩,rfl⟩)
end
theorem Hv.app2 {I:List aM} {a b:List RE} {k:Nat} (h1:aU a k∈I) (h2:aU b k∈I):Hv I (aU (a++b) k):=⟨fun X w hw=>⟨fun e he=>by
 rcases List.mem_append.1 he with h|h
 ·exact (hw _ h1:AllR a k X w).go e h
 ·exact (hw _ h2:AllR b k X w).go e h⟩⟩
theorem Hv.xrow1 {I:List aM} {m:MX} {k:Nat} {i:Int} (h:iB m k∈I) (hi:0≤i∧i < m.rows.length):Hv I (aU (gt m.rows i).es k):=⟨fun X w hw=>⟨((hw _ h:IsX m k X w).row _ (bD hi)).el⟩⟩
theorem aOW {α:Type} [Inhabited α] {a b:List α} {j:Nat} (h:j < a.length):gt (a++b) (j:Int)=gt a (j:Int):=by
 rw [dP (by rw [List.length_append];omega),List.getElem_append_left h];exact (dP h).symm
theorem aYN {α:Type} [Inhabited α] {a b:List α} {j:Nat} (h:a.length≤j) (h2:j < a.length+b.length):gt (a++b) (j:Int)=gt b ((j - a.length:Nat):Int):=by
 rw [dP (by rw [List.length_append];omega),List.getElem_append_right h];exact (dP (by omega)).symm
def besM (R C D:Nat) (A B:Mt):Mt:=xC R (C+D) (fun i j=>if j < C then at2 A i j else at2 B i (j - C))
theorem bBW {C:Nat} {A:Mt} {b x:List Rat} (hx:x=b):besM C C 1 A (xC C 1 (fun i _=>x.getD i 0))=uV C C A b:=by
 subst hx
 unfold besM uV
 refine xR (fun i j hi hj=>?_)
 by_cases e:j < C
 ·rw [if_pos e,if_pos e]
 ·rw [if_neg e,if_neg e,tF hi (by omega)]
theorem bEX {C:Nat} {A:Mt} {b:List Rat} (h:dt C (at2 A)≠0):∃(E:Mt) (pv:List Nat),eP (uV C C A b) (C+1)=(E,pv)∧eP (uV C C A b) C=(E,pv)∧pv.length=C∧∀t,t < C→pv.getD t 0 < C:=by
 obtain ⟨hdE,s,hr⟩:=iJ (A:=uV C C A b) (R:=C) (C:=C+1) aRD C (by omega)
 obtain ⟨E,pv,he⟩:∃E pv,eP (uV C C A b) C=(E,pv):=⟨_,_,rfl⟩
 rw [he] at hr hdE
 have hl:pv.length=C:=by
  rw [hr.iff (by omega),jM (g:=at2 A) (fun i j hi hj=>aIL hi hj)]
  exact h
 exact ⟨E,pv,aBA he hdE.1 hl 1,he,hl,fun t ht=>hr.piv_lt (by show t < pv.length;omega)⟩
def SolR (l:List Rat) (k:Nat) (M0:List Ent) (I0:List aM) (v:Value) (M:List Ent) (I:List aM):Prop:=M0=M∧∃r:RL,v= .tuple #[lv r, .bool true]∧r.q=l∧I=iQ r k::I0
section
variable {X:List Nat} {w0:World} {M0:List Ent} {I0:List aM}
theorem aMQ {a b:MX} {R C D u:Nat} (hR:1≤R∧R≤64) (hC:1≤C∧C≤64) (hD:1≤D∧D≤64) (da:a.dim R C) (db:b.dim R D) (ha:iB a u∈I0) (hb:iB b u∈I0):
  CD Tryz.prog 143 [mv a,mv b] X w0 M0 I0 (XQ (besM R C D a.q b.q) R (C+D) u M0 I0):=by
 have hl:=da.1
 have hl2:=db.1
 refine uL (φ:=(∀r∈a.rows,Cap r.p r.es.length r.c)∧∀r∈b.rows,Cap r.p r.es.length r.c) (fun w hw=>⟨fun r hr=>((((hw.imm _ ha).2:IsX a u _ w)).row r hr).cap,fun r hr=>((((hw.imm _ hb).2:IsX b u _ w)).row r hr).cap⟩) (fun hcap=>?_)
 refine aX (φ:=aH (a).p (recs eL (a).rows)) (Hv.xsl aA) ?_
 refine aX (φ:=aH (b).p (recs eL (b).rows)) (Hv.xsl aA) ?_
 refine aN Tryz.func143 rfl Tryz.ntmps143 rfl ?_
 repeat refine aB ?_
 (refine gX (cs:=recs eL []) ([]) rfl (fun bo=>?_);refine gF (mm:=0) 1 .here rfl (by omega) ?_)
 repeat refine aB ?_
 refine bH (φ:=dX [] u) Hv.nilL ?_
 refine bX [0,1] rfl (fun k G M I=>∃(i:Nat) (rows:List RL) (q:Option Addr) (c:Nat),i≤R∧k=R - i∧rows.length=i∧(∀r∈rows,r.es.length=C+D)∧(∀t,t < i→(gt rows (t:Int)).es=(gt a.rows (t:Int)).es++(gt b.rows (t:Int)).es)∧G=[(5, .slice q rows.length c),(6, .int .i64 i)]∧M= .row q rows.length c (recs eL rows) 70 1::M0∧I=dX rows u::aH b.p (recs eL b.rows)::aH a.p (recs eL a.rows)::I0) (R) _ _ _ dE aF aD (⟨0,[],_,_,by omega,rfl,rfl,fun r hr=>by simp at hr,fun t ht=>by omega,rfl,rfl,rfl⟩) ?_
 rintro kk G M I ⟨i,rows,q,c,hi,rfl,hrl,hrc,hre,rfl,rfl,rfl⟩
 by_cases hiR:i < R
 ·have hra:=da.row hiR
  have hrb:=db.row hiR
  have hcpa:=(hcap.1 _ (bD (ms:=a.rows) (i:=(i:Int)) (by omega))).2
  have hcpb:=(hcap.2 _ (bD (ms:=b.rows) (i:=(i:Int)) (by omega))).2
  refine bH (φ:=aH (gt (a).rows (i:Int)).p (recs eR (gt (a).rows (i:Int)).es)) (Hv.xrsl aA (by omega)) ?_
  refine bH (φ:=aH (gt (b).rows (i:Int)).p (recs eR (gt (b).rows (i:Int)).es)) (Hv.xrsl aA (by omega)) ?_
  refine bH (φ:=aU (gt a.rows (i:Int)).es u) (Hv.xrow1 (m:=a) aA (by omega)) ?_
  refine bH (φ:=aU (gt b.rows (i:Int)).es u) (Hv.xrow1 (m:=b) aA (by omega)) ?_
  refine bH (φ:=aU ((gt a.rows (i:Int)).es++(gt b.rows (i:Int)).es) u) (Hv.app2 aA aA) ?_
  repeat refine aB ?_
  (repeat refine aG ?_);refine qQ (M0) (aU ((gt a.rows (i:Int)).es++(gt b.rows (i:Int)).es) u::aU (gt b.rows (i:Int)).es u::aU (gt a.rows (i:Int)).es u::aH (gt b.rows (i:Int)).p (recs eR (gt b.rows (i:Int)).es)::aH (gt a.rows (i:Int)).p (recs eR (gt a.rows (i:Int)).es)::dX rows u::aH b.p (recs eL b.rows)::aH a.p (recs eL a.rows)::I0) [0,2,3,4,5,7,8,9,10,1,6,11,12,13,14] [4,5,5,5,4,5,5,5,4,0,0,0,0,0,0] mixed ?_
  repeat refine aB ?_
  (refine gX (cs:=recs eR []) ([]) rfl (fun bl=>?_);refine gF (mm:=0) 4 .here rfl (by omega) ?_)
  repeat refine aB ?_
  (refine iE (enc:=eR) (xs:=[]) (ys:=(gt a.rows (i:Int)).es) 0 rfl rfl rfl (Src.imm aA hcpa) (by decide) rfl (by rw [List.length_nil];omega) (by rw [List.length_nil];omega) rfl rfl ?_;intro q1 c1;refine ⟨OkD.any (SubP.drop (SubP.drop SubP.refl)) aD,?_⟩)
  rw [List.nil_append]
  repeat refine aB ?_
  (refine iE (enc:=eR) (xs:=(gt a.rows (i:Int)).es) (ys:=(gt b.rows (i:Int)).es) 0 rfl rfl rfl (Src.imm aA hcpb) (by decide) rfl (by omega) (by omega) rfl rfl ?_;intro q2 c2;refine ⟨OkD.any (SubP.drop (SubP.drop SubP.refl)) aD,?_⟩)
  refine vX (M':= .row q rows.length c (recs eL rows) 70 1::M0) (fun _ hw=>Mem.toL hw aA) ?_
  refine gX (cs:=recs eL [(⟨q2,c2,(gt a.rows (i:Int)).es++(gt b.rows (i:Int)).es⟩:RL)]) ([lv (⟨q2,c2,(gt a.rows (i:Int)).es++(gt b.rows (i:Int)).es⟩:RL)]) rfl (fun bb=>?_)
  refine wB (ys:=[(⟨q2,c2,(gt a.rows (i:Int)).es++(gt b.rows (i:Int)).es⟩:RL)]) 1 rfl rfl rfl (fun q3 c3=>?_)
  repeat refine aB ?_
  refine dF (φ:=dX (rows++[(⟨q2,c2,(gt a.rows (i:Int)).es++(gt b.rows (i:Int)).es⟩:RL)]) u) (Hv.snocL aA aA) ?_
  refine gJ (R - (i+1)) (⟨i+1,rows++[(⟨q2,c2,(gt a.rows (i:Int)).es++(gt b.rows (i:Int)).es⟩:RL)],q3,c3,by omega,rfl,by simp;omega,fun r hr=>?_,fun t ht=>?_,rfl,rfl,rfl⟩)
  ·rcases List.mem_append.1 hr with h|h
   ·exact hrc r h
   ·rw [List.mem_singleton.1 h];simp;omega
  ·by_cases e1:t < i
   ·have:gt (rows++[(⟨q2,c2,(gt a.rows (i:Int)).es++(gt b.rows (i:Int)).es⟩:RL)]) (t:Int)=gt rows (t:Int):=aOW (by omega)
    rw [this];exact hre t e1
   ·obtain rfl:t=i:=by omega
    have:gt (rows++[(⟨q2,c2,(gt a.rows (t:Int)).es++(gt b.rows (t:Int)).es⟩:RL)]) (t:Int)=⟨q2,c2,(gt a.rows (t:Int)).es++(gt b.rows (t:Int)).es⟩:=wU (A:=rows) (B:=[]) (by omega)
    rw [this]
 ·obtain rfl:i=R:=by omega
  repeat refine aB ?_
  refine aDZ (k:=u) aA ?_
  have hdim:(⟨q,c,rows⟩:MX).dim i (C+D):=⟨hrl,hrc⟩
  refine iA rfl rfl (⟨rfl,⟨q,c,rows⟩,rfl,?_,hdim,rfl⟩)
  rw [hdim.mk]
  unfold besM
  refine xR (fun t j ht hj=>?_)
  have hrt:=hre t ht
  have hat:at2 (⟨q,c,rows⟩:MX).q t j=(gt (gt rows (t:Int)).es (j:Int)).q:=qP (m:=⟨q,c,rows⟩) (by show t < rows.length;omega) (by show j < (gt rows (t:Int)).es.length;rw [hrt,List.length_append,da.row ht,db.row ht];exact hj)
  rw [hat,hrt]
  have hla:=da.row ht
  have hlb:=db.row ht
  by_cases e:j < C
  ·rw [if_pos e,qP (m:=a) (by omega) (by omega),aOW (by omega)]
  ·rw [if_neg e,qP (m:=b) (by omega) (by omega),aYN (by omega) (by omega),hla]
end
def SolG (A:Mt) (C:Nat) (b:List Rat) (K:Nat) (M0:List Ent) (I0:List aM) (v:Value) (M:List Ent) (I:List aM):Prop:=M0=M∧((dt C (at2 A)=0∧I0=I∧v= .tuple #[.slice none 0 0, .bool false])∨∃r:RL,v= .tuple #[lv r, .bool true]∧r.es.length=C∧(dt C (at2 A)≠0→r.q=aCN C C A b)∧I=iQ r K::I0)
section
variable {X:List Nat} {w0:World} {M0:List Ent} {I0:List aM}
theorem aNQ {a:MX} {b:RL} {C u:Nat} (hC:1≤C∧C≤60) (hb:kb u (C+1)≤20000000000) (da:a.dim C C) (hl:b.es.length=C) (ha:iB a u∈I0) (hbb:iQ b u∈I0):
  CD Tryz.prog 71 [mv a,lv b] X w0 M0 I0 (SolG a.q C b.q (kb u (C+1)) M0 I0):=by
 have lR:=da.1
 have lC:(gt a.rows 0).es.length=C:=da.row (i:=0) (by omega)
 have hZ:∀M0 I0,CD Tryz.prog 146 [.int .i64 1, .int .i64 (C:Int)] X w0 M0 I0 (MsP 1 C (fun _ _=>0) 0 M0 I0):=fun M0 I0=>aKF (X:=X) (w0:=w0) (M0:=M0) (I0:=I0) (R:=1) (C:=C) (by omega) (by omega)
 have hCo:=fun M0 I0 h=>aSF (X:=X) (w0:=w0) (M0:=M0) (I0:=I0) (x:=b) (n:=C) (k0:=u) (by omega) hl h
 have hBe:=fun (y:MX) (hy:y.dim C 1) M0 I0 h1 h2=>aMQ (X:=X) (w0:=w0) (M0:=M0) (I0:=I0) (a:=a) (b:=y) (R:=C) (C:=C) (D:=1) (u:=u) (by omega) (by omega) (by omega) da hy h1 h2
 have hEc:=fun (y:MX) (hy:y.dim C (C+1)) M0 I0 h1=>aJJ (X:=X) (w0:=w0) (M0:=M0) (I0:=I0) (a:=y) (R:=C) (C:=C+1) (k0:=u) hb (by omega) (by omega) hy h1
 obtain ⟨_,s,hrd⟩:=iJ (A:=uV C C a.q b.q) (R:=C) (C:=C+1) aRD (C+1) (by omega)
 obtain ⟨E,pv,hrC1⟩:∃E pv,eP (uV C C a.q b.q) (C+1)=(E,pv):=⟨_,_,rfl⟩
 rw [hrC1] at hrd
 have hreg:dt C (at2 a.q)≠0→eP (uV C C a.q b.q) C=(E,pv)∧C ∉ pv:=fun hdt=>by
  obtain ⟨E',pv',h1,h2,h3,h4⟩:=bEX (b:=b.q) hdt
  rw [hrC1] at h1
  obtain ⟨rfl,rfl⟩:E=E'∧pv=pv':=by injection h1 with x y;exact ⟨x,y⟩
  exact ⟨h2,fun h=>by
   obtain ⟨t,ht,e⟩:=jQ.1 h
   have:=h4 t (by omega)
   omega⟩
 have hz:(zs pv).length=pv.length:=by simp
 have hidx:∀r:Nat,r < pv.length→pv.idxOf (pv.getD r 0)=r:=fun r h=>hrd.idx h
 have hlen:pv.length≤C:=hrd.len
 have hpv:∀t:Nat,t < pv.length→pv.getD t 0 < C+1:=fun t h=>hrd.piv_lt h
 generalize hK:kb u (C+1)=K at*
 refine aX (φ:=aH (a).p (recs eL (a).rows)) (Hv.xsl aA) ?_
 refine aN Tryz.func71 rfl Tryz.ntmps71 rfl ?_
 repeat refine aB ?_
 rw [lC]
 repeat refine aB ?_
 (refine aQ rfl (hCo _ _ aA) ?_;rintro _ _ _ ⟨rfl,y,rfl,hy,hyd,rfl⟩;refine aL ?_)
 (refine aQ rfl (hBe y hyd _ _ aA aA) ?_;rintro _ _ _ ⟨rfl,z,rfl,hzq,hzd,rfl⟩;refine aL ?_)
 (refine aQ rfl (hEc z hzd _ _ aA) ?_;rintro _ _ _ ⟨rfl,m,pv2,q,c,rfl,hm,hd,rfl⟩;refine aL ?_)
 have hz1:z.q=uV C C a.q b.q:=by rw [hzq,hy];exact bBW rfl
 rw [hz1,hrC1] at hm
 obtain ⟨rfl,rfl⟩:E=m.q∧pv=pv2:=by injection hm with h1 h2;exact ⟨h1,h2⟩
 have hHs:=fun M0 I0 h=>aPF (X:=X) (w0:=w0) (M0:=M0) (I0:=I0) (p:=q) (l:=zs pv) (t:=pv.length) (c:=c) (x:=(C:Int)) hz (by omega) h
 have mR:=hd.1
 refine cK (φ:=aH (m).p (recs eL (m).rows)) (Hv.xsl aA) ?_
 by_cases hno:C∈pv
 ·rw [bJ (aIV.2 hno)] at hHs
  repeat refine aB ?_
  refine dK rfl (hHs _ _ aA) ?_
  repeat refine aB ?_
  refine fB (M':=M0) (I':=I0) aF aD ?_
  refine tyS [4,5] rfl rfl (⟨rfl, .inl ⟨Classical.byContradiction (fun h=>(hreg h).2 hno),rfl,rfl⟩⟩)
 rw [bE (fun h=>hno (aIV.1 h))] at hHs
 have hpC:∀t:Nat,t < pv.length→pv.getD t 0 < C:=fun t ht=>by
  have h1:=hpv t ht
  have h2:pv.getD t 0≠C:=fun e=>hno (jQ.2 ⟨t,ht,e⟩)
  omega
 repeat refine aB ?_
 refine dK rfl (hHs _ _ aA) ?_
 repeat refine aB ?_
 (refine aQ rfl (hZ _ _) ?_;rintro _ _ _ ⟨bz,cz,tlz,rz,rfl,hcz,hsz,hpz,rfl,rfl⟩;refine aL ?_)
 obtain ⟨r0,rfl⟩:∃r0,rz=[r0]:=by
  have:=hsz.len
  match rz,this with
  |[x],_=>exact ⟨x,rfl⟩
 have hcol:=hsz.col r0 (by simp)
 have hp0:∀t:Nat,t < C→(gt r0.es (t:Int)).q=0:=fun t ht=>hpz 0 t (by omega) ht
 refine cK (φ:=aU r0.es 0) (Hv.allS1 aA) ?_
 simp only [List.map_cons,List.map_nil,List.cons_append,List.nil_append]
 obtain ⟨hel,hcv⟩:=hcol
 have hg1:gt [r0] 0=r0:=rfl
 repeat refine aB ?_
 rw [hel]
 repeat refine aB ?_
 refine bH (φ:=aU r0.es K) (Hv.allMono (k:=0) aA (Nat.zero_le _)) ?_
 refine rY (M':= .blk r0.b (recs eR r0.es++r0.tl) 77::M0) (I':=aU r0.es K::aH m.p (recs eL m.rows)::pvI q pv::iB m K::I0) aF aD ?_
 refine lV [6,7,8,9] rfl (fun k G M I=>∃(r:Nat) (es2:List RE),r≤pv.length∧k=pv.length - r∧es2.length=C∧(∀t:Nat,t < C→(gt es2 (t:Int)).q=if t∈pv∧pv.idxOf t < r then at2 m.q (pv.idxOf t) C else 0)∧G=[(10, .int .i64 r)]∧M= .blk r0.b (recs eR es2++r0.tl) 77::M0∧I=aU es2 K::aH m.p (recs eL m.rows)::pvI q pv::iB m K::I0) (pv.length) (⟨0,r0.es,by omega,by omega,hel,fun t ht=>by rw [if_neg (by omega)];exact hp0 t ht,rfl,rfl,rfl⟩) ?_
 rintro kk G M I ⟨r,es2,hr2,rfl,hel2,heq2,rfl,rfl,rfl⟩
 by_cases hrp:r < pv.length
 ·have hgz:=bCJ hrp
  have hpr:=hpC r (by omega)
  have hmr:=hd.row (i:=r) (by omega)
  have hat:=qP (m:=m) (i:=r) (j:=C) (by omega) (by omega)
  refine bH (φ:=aH (gt (m).rows (r:Int)).p (recs eR (gt (m).rows (r:Int)).es)) (Hv.xrsl aA (by omega)) ?_
  repeat refine aB ?_
  (repeat refine aG ?_);refine bA 0 [0,1,2,3,4,5,6,7,8,9,10,11,12,13] [0,0,0,0,0,0,0,0,0,0,0,0,0,0] mixed (by kernel_rfl) ?_
  repeat refine yXh ?_
  rw [hgz]
  repeat refine yXh ?_
  obtain ⟨e2,he2⟩:∃e2,gt (gt m.rows (r:Int)).es (C:Int)=e2:=⟨_,rfl⟩
  have hv2:∀I,iB m K∈I→Hv I (bW e2 K):=fun I h=>by rw [←he2];exact Hv.xel h (by omega) (by omega)
  rw [he2] at hat ⊢
  refine fO (vs:=eR e2) rfl rfl rfl (Ones.one e2) jL (StAts.app (StAts.r (enc:=eR) (ms:=es2) (i:=((pv.getD r 0:Nat):Int)) e2 (by omega) rfl)) rfl rfl ⟨okF,?_⟩
  refine cK (φ:=bW e2 K) (hv2 _ aA) ?_
  refine cK (φ:=aU (st es2 ((pv.getD r 0:Nat):Int) e2) K) (Hv.stR aA aA) ?_
  repeat refine aB ?_
  refine gJ (pv.length - (r+1)) (⟨r+1,st es2 ((pv.getD r 0:Nat):Int) e2,by omega,rfl,by rw [dI];exact hel2,fun t ht=>?_,rfl,rfl,rfl⟩)
  rw [wQ (by omega)]
  by_cases e1:t=pv.getD r 0
  ·subst e1
   rw [if_pos rfl,if_pos ⟨jQ.2 ⟨r,hrp,rfl⟩,by rw [hidx r hrp];omega⟩,hidx r hrp,hat]
  ·rw [if_neg e1,heq2 t ht]
   by_cases e2:t∈pv
   ·have e3:pv.idxOf t≠r:=fun e=>e1 (by rw [←e];exact (Red.idx_lt e2).2.symm)
    by_cases e4:pv.idxOf t < r
    ·rw [if_pos ⟨e2,e4⟩,if_pos ⟨e2,by omega⟩]
    ·rw [if_neg (show ¬(t∈pv∧pv.idxOf t < r) from fun h=>e4 h.2),if_neg (show ¬(t∈pv∧pv.idxOf t < r+1) from fun h=>by have:=h.2;omega)]
   ·rw [if_neg (show ¬(t∈pv∧pv.idxOf t < r) from fun h=>e2 h.1),if_neg (show ¬(t∈pv∧pv.idxOf t < r+1) from fun h=>e2 h.1)]
 ·obtain rfl:r=pv.length:=by omega
  have hV:dt C (at2 a.q)≠0→qs es2=aCN C C a.q b.q:=fun hdt=>by
   have hsol:∀c:Nat,c < C→(aCN C C a.q b.q).getD c 0=if c∈pv then at2 m.q (pv.idxOf c) C else 0:=fun c hc=>by
    unfold aCN
    rw [(hreg hdt).1]
    simp [List.getD,hc,aWP]
   apply rJ
   ·rw [List.length_map,hel2];simp [aCN]
   ·intro t ht
    have ht':t < C:=by simpa [hel2] using ht
    rw [iM (by omega),heq2 t ht',hsol t ht']
    by_cases e2:t∈pv
    ·rw [if_pos ⟨e2,(Red.idx_lt e2).1⟩,if_pos e2]
    ·rw [if_neg (fun h=>e2 h.1),if_neg e2]
  repeat refine aB ?_
  refine yK (fun _ hw=>Mem.blkT (es:=es2) (k:=K) (c:=r0.c) (by omega) hw aA) ?_
  have hvv:Value.slice (some ⟨r0.b,0,none⟩) C r0.c=lv (⟨some ⟨r0.b,0,none⟩,r0.c,es2⟩:RL):=by show _=Value.slice _ es2.length _;rw [hel2]
  rw [hvv]
  refine tyS [4,5] rfl rfl (⟨rfl, .inr ⟨⟨some ⟨r0.b,0,none⟩,r0.c,es2⟩,rfl,hel2,hV,rfl⟩⟩)
end
def aLL (l:List Int):Prop:=∀i,i < l.length→0 < i→gt l ((i - 1:Nat):Int) < gt l (i:Int)
instance (l:List Int):Decidable (aLL l):=by unfold aLL;exact inferInstance
def aNV (n:Nat) (l:List Int):Prop:=∃x∈l,x < 0∨(n:Int)≤x
instance (n:Nat) (l:List Int):Decidable (aNV n l):=by unfold aNV;exact inferInstance
def uB (n:Nat) (l:List Int):Int:=if ¬aLL l then 5 else if aNV n l then 6 else 0
theorem aIF {n:Nat} {l:List Int} (h:uB n l=0):∀x∈l,0≤x∧x < n:=fun x hx=>by
 unfold uB at h
 by_cases h1:aLL l
 ·rw [if_neg (fun h=>h h1)] at h
  by_cases h2:aNV n l
  ·rw [if_pos h2] at h;omega
  ·by_cases e:x < 0∨(n:Int)≤x
   ·exact absurd ⟨x,hx,e⟩ h2
   ·omega
 ·rw [if_pos h1] at h;omega
section
variable {X:List Nat} {w0:World} {M0 M1 M2:List Ent} {I0:List aM}
theorem bDY {q:Option Addr} {l:List Int} {n c:Nat} (hl:l.length=n) (hn:n≤1000) (hq:aH q (recs eZ l)∈I0):
  CD Tryz.prog 135 [.slice q n c] X w0 M0 I0 (fun v M I=>M0=M∧I0=I∧v= .bool (B (aLL l))):=by
 refine aS Tryz.func135 rfl Tryz.ntmps135 rfl ?_
 repeat refine aB ?_
 refine lV [0,5] rfl (fun k G M I=>∃i:Nat,i≤n∧k=n - i∧(∀j:Nat,j < i→0 < j→gt l ((j - 1:Nat):Int) < gt l (j:Int))∧G=[(6, .int .i64 i)]∧M0=M∧I0=I) (n) (⟨0,by omega,rfl,fun j hj=>by omega,rfl,rfl,rfl⟩) ?_
 rintro kk G M I ⟨i,hi,rfl,hP,rfl,rfl,rfl⟩
 by_cases hin:i < n
 ·by_cases hi0:0 < i
  ·have ei:((i - 1:Nat):Int)=(i:Int) - 1:=by omega
   by_cases hlt:gt l ((i:Int) - 1) < gt l (i:Int)
   ·repeat refine aB ?_
    (repeat refine aG ?_);refine dJ [0,1,2,3,4,5,6,7,8,9,10,11,12,13] [0,0,0,0,0,0,0,0,0,0,0,0,0,0] mixed (by kernel_rfl) ?_
    repeat refine aB ?_
    refine gJ (n - (i+1)) (⟨i+1,by omega,rfl,fun j hj h0=>?_,rfl,rfl,rfl⟩)
    by_cases e:j=i
    ·subst e;rw [ei];exact hlt
    ·exact hP j (by omega) h0
   ·repeat refine aB ?_
    (repeat refine aG ?_);refine dJ [0,1,2,3,4,5,6,7,8,9,10,11,12,13] [0,0,0,0,0,0,0,0,0,0,0,0,0,0] mixed (by kernel_rfl) ?_
    repeat refine aB ?_
    refine aP (by first|exact .inl rfl|exact .inr rfl) rfl rfl _ _ aF aD (⟨rfl,rfl,congrArg Value.bool (bE (fun h=>hlt (by have:=h i (by omega) hi0;rwa [ei] at this))).symm⟩)
  ·obtain rfl:i=0:=by omega
   repeat refine aB ?_
   (repeat refine aG ?_);refine dJ [0,1,2,3,4,5,6,7,8,9,10,11,12,13] [0,0,0,0,0,0,0,0,0,0,0,0,0,0] mixed (by kernel_rfl) ?_
   repeat refine aB ?_
   refine gJ (n - (0+1)) (⟨0+1,by omega,rfl,fun j hj h0=>by omega,rfl,rfl,rfl⟩)
 ·repeat refine aB ?_
  refine iA rfl rfl (⟨rfl,rfl,congrArg Value.bool (bJ (fun i hi h0=>hP i (by omega) h0)).symm⟩)
theorem bBJ {b:Nat} {q:Option Addr} {n c:Nat} {x:Int} (hn:(n:Int)≤9223372036854775807) (hb:aH (some ⟨b,0,none⟩) [.slice q n c]∈I0):
  CD Tryz.prog 137 [.int .i64 x, .pointer (some ⟨b,0,none⟩)] X w0 M0 I0 (fun v M I=>M0=M∧I0=I∧v= .bool (B (x < 0∨(n:Int)≤x))):=by
 refine aN Tryz.func137 rfl Tryz.ntmps137 rfl ?_
 by_cases h0:x < 0
 ·repeat refine aB ?_
  refine iA rfl rfl (⟨rfl,rfl,congrArg Value.bool (bJ (.inl h0)).symm⟩)
 ·repeat refine aB ?_
  refine iA rfl rfl (⟨rfl,rfl,congrArg Value.bool (iG ⟨fun h=> .inr h,fun h=>by omega⟩)⟩)
theorem aDT {q qs:Option Addr} {l:List Q4} {smp:List Int} {n c ns cs:Nat} (hl:l.length=n) (hn:(n:Int)≤9223372036854775807) (hsl:smp.length=ns) (hns:ns≤1000) (hqs:aH qs (recs eZ smp)∈I0):
  CD Tryz.prog 67 [.slice q n c, .slice qs ns cs] X w0 M0 I0 (fun v M I=>M0=M∧I0=I∧v= .int .i64 (uB n smp)):=by
 have hA:=fun M0 I0 h=>bDY (X:=X) (w0:=w0) (M0:=M0) (I0:=I0) (q:=qs) (l:=smp) (n:=ns) (c:=cs) hsl hns h
 subst hsl
 have hH:=fun b M0 I0 h1 h2=>bBD (X:=X) (w0:=w0) (M0:=M0) (I0:=I0) (p:=qs) (a:=smp) (c:=cs) (g:=137) (fs:=#[]) (cs:=#[.pointer (some ⟨b,0,none⟩)]) (fun x=>x < 0∨(n:Int)≤x) (by omega) h1 (fun i _=>bBJ (b:=b) (q:=q) (n:=n) (c:=c) hn h2)
 refine aN Tryz.func67 rfl Tryz.ntmps67 rfl ?_
 refine iH ?_
 (refine pX rfl rfl rfl ?_;intro b2;refine aL ?_)
 by_cases ha:aLL smp
 ·rw [bJ ha] at hA
  by_cases ho:aNV n smp
  ·rw [show uB n smp=6 by unfold uB;rw [if_neg (fun h=>h ha),if_pos ho]]
   repeat refine aB ?_
   refine dK rfl (hA _ _ aA) ?_
   repeat refine aB ?_
   refine dK rfl (hH b2 _ _ aA aA) ?_
   rw [bJ (show ∃x∈smp,x < 0∨(n:Int)≤x from ho)]
   repeat refine aB ?_
   refine fB (M':=M0) (I':=I0) aF aD ?_
   refine iA rfl rfl (⟨rfl,rfl,rfl⟩)
  ·rw [show uB n smp=0 by unfold uB;rw [if_neg (fun h=>h ha),if_neg ho]]
   repeat refine aB ?_
   refine dK rfl (hA _ _ aA) ?_
   repeat refine aB ?_
   refine dK rfl (hH b2 _ _ aA aA) ?_
   rw [bE (show ¬∃x∈smp,x < 0∨(n:Int)≤x from ho)]
   repeat refine aB ?_
   refine fB (M':=M0) (I':=I0) aF aD ?_
   refine iA rfl rfl (⟨rfl,rfl,rfl⟩)
 ·rw [bE ha] at hA
  rw [show uB n smp=5 by unfold uB;rw [if_pos ha]]
  repeat refine aB ?_
  refine dK rfl (hA _ _ aA) ?_
  repeat refine aB ?_
  refine fB (M':=M0) (I':=I0) aF aD ?_
  refine iA rfl rfl (⟨rfl,rfl,rfl⟩)
theorem aOM {q:Option Addr} {l:List Int} {n m c:Nat} (hl:l.length=n) (hn:n≤1000) (hq:aH q (recs eZ l)∈I0):
  CD Tryz.prog 22 [.slice q n c, .int .i64 (m:Int)] X w0 M0 I0 (fun v M I=>M0=M∧I0=I∧v= .int .i64 (uB m l)):=by
 refine aN Tryz.func22 rfl Tryz.ntmps22 rfl ?_
 repeat refine aB ?_
 refine lV [0,1] rfl (fun k G M I=>∃i:Nat,1≤i∧(i≤n∨i=1)∧k=n - i∧(∀j:Nat,j < i→0 < j→gt l ((j - 1:Nat):Int) < gt l (j:Int))∧G=[(5, .int .i64 i)]∧M0=M∧I0=I) (n - 1) (⟨1,by omega, .inr rfl,rfl,fun j hj h0=>by omega,rfl,rfl,rfl⟩) ?_
 rintro kk G M I ⟨i,hi1,hi,rfl,hP,rfl,rfl,rfl⟩
 have ei:((i - 1:Nat):Int)=(i:Int) - 1:=by omega
 by_cases hin:i < n
 ·by_cases hlt:gt l ((i:Int) - 1) < gt l (i:Int)
  ·repeat refine aB ?_
   (repeat refine aG ?_);refine dJ [0,1,2,3,4,5,6,7,8,9] [0,0,0,0,0,0,0,0,0,0] mixed (by kernel_rfl) ?_
   repeat refine aB ?_
   refine gJ (n - (i+1)) (⟨i+1,by omega, .inl (by omega),rfl,fun j hj h0=>?_,rfl,rfl,rfl⟩)
   by_cases e:j=i
   ·subst e;rw [ei];exact hlt
   ·exact hP j (by omega) h0
  ·repeat refine aB ?_
   (repeat refine aG ?_);refine dJ [0,1,2,3,4,5,6,7,8,9] [0,0,0,0,0,0,0,0,0,0] mixed (by kernel_rfl) ?_
   repeat refine aB ?_
   refine aP (by first|exact .inl rfl|exact .inr rfl) rfl rfl _ _ aF aD (⟨rfl,rfl,by unfold uB;rw [if_pos (show ¬aLL l from fun h=>hlt (by have:=h i (by omega) (by omega);rwa [ei] at this))]⟩)
 have ha:aLL l:=fun j hj h0=>hP j (by omega) h0
 repeat refine aB ?_
 refine lV [1,24,25] rfl (fun k G M I=>∃t:Nat,t≤n∧k=n - t∧(∀j:Nat,j < t→0≤gt l (j:Int)∧gt l (j:Int) < m)∧G=[(26, .int .i64 t)]∧M0=M∧I0=I) (n) (⟨0,by omega,rfl,fun j hj=>by omega,rfl,rfl,rfl⟩) ?_
 rintro kk G M I ⟨t,ht,rfl,hQ,rfl,rfl,rfl⟩
 by_cases htn:t < n
 ·have hmem:=bD (ms:=l) (i:=(t:Int)) (by omega)
  by_cases h0:gt l (t:Int) < 0
  ·repeat refine aB ?_
   refine aP (by first|exact .inl rfl|exact .inr rfl) rfl rfl _ _ aF aD (⟨rfl,rfl,by unfold uB;rw [if_neg (fun h=>h ha),if_pos (show aNV m l from ⟨_,hmem, .inl h0⟩)]⟩)
  ·by_cases h1:(m:Int)≤gt l (t:Int)
   ·repeat refine aB ?_
    refine aP (by first|exact .inl rfl|exact .inr rfl) rfl rfl _ _ aF aD (⟨rfl,rfl,by unfold uB;rw [if_neg (fun h=>h ha),if_pos (show aNV m l from ⟨_,hmem, .inr h1⟩)]⟩)
   ·repeat refine aB ?_
    refine gJ (n - (t+1)) (⟨t+1,by omega,rfl,fun j hj=>?_,rfl,rfl,rfl⟩)
    by_cases e:j=t
    ·subst e;omega
    ·exact hQ j (by omega)
 ·repeat refine aB ?_
  refine iA rfl rfl (⟨rfl,rfl,?_⟩)
  unfold uB
  rw [if_neg (fun h=>h ha),if_neg]
  rintro ⟨x,hx,h⟩
  obtain ⟨j,hj,rfl⟩:=List.mem_iff_getElem.1 hx
  have:=hQ j (by omega)
  rw [fE hj] at this
  omega
end
end Go.Proofs.YtmmmfphealhapaaGreat

/- Chapter 29's law: equations. -/
import Derived.Test.YtmmmfphealhapaaGreatZsbe
import Derived.Test.YtmmmfphealhapaaGreatZsbf
import Derived.Test.YtmmmfphealhapaaGreatZsba
import Derived.Test.YtmmmfphealhapaaGreatZsaz
import Derived.Test.YtmmmfphealhapaaGreatZsaq
import Derived.Test.YtmmmfphealhapaaGreatZsau
import Derived.Test.YtmmmfphealhapaaGreatZsar
import Derived.Test.YtmmmfphealhapaaGreatZsav
set_option linter.unusedSimpArgs false
set_option linter.unusedVariables false
set_option maxRecDepth 100000
set_option maxHeartbeats 4000000
namespace Go.Proofs.YtmmmfphealhapaaGreat
open Go Go.Fx
section
variable {X:List Nat} {w0:World} {M0 M1 M2:List Ent} {I0:List aM}
def yX (x:Int):Prop:=(-9223372036854775808≤x∧x≤9223372036854775807)∧x.natAbs≤2 ^ 16
theorem aIC {b9 b10 m t:Nat} {x1 x2:List Int} {d1 d2:Int} {I:List aM} (h1:aH (some ⟨b9,0,none⟩) (recs eZ x1)∈I) (h2:aH (some ⟨b10,0,none⟩) (recs eZ x2)∈I) (l1:x1.length=m) (l2:x2.length=m) (hx1:∀z∈x1,yX z) (hx2:∀z∈x2,yX z) (hd1:yX d1) (hd2:yX d2) (ht:t < 2):
  ∃(bt:Nat) (xs:List Int) (d:Int),[Value.slice (some ⟨b9,0,none⟩) m m, .slice (some ⟨b10,0,none⟩) m m][t]?=some (.slice (some ⟨bt,0,none⟩) m m)∧aH (some ⟨bt,0,none⟩) (recs eZ xs)∈I∧xs.length=m∧(∀z∈xs,yX z)∧(recs eZ [d1,d2])[0+(t:Int).toNat*1]?=some (Value.int .i64 d)∧yX d∧[cz x1,cz x2].take (t+1)=[cz x1,cz x2].take t++[cz xs]∧[(d1:Rat),(d2:Rat)].take (t+1)=[(d1:Rat),(d2:Rat)].take t++[(d:Rat)]:=by
 rcases (show t=0∨t=1 by omega) with rfl|rfl
 ·exact ⟨b9,x1,d1,rfl,h1,l1,hx1,rfl,hd1,rfl,rfl⟩
 ·exact ⟨b10,x2,d2,rfl,h2,l2,hx2,rfl,hd2,rfl,rfl⟩
theorem aFK {kd:Nat} {q qs_:Option Addr} {l:List Q4} {smp:List Int} {n c ns cs_:Nat} (hk:kd≤2) (hl:l.length=n) (hn:n≤64) (hs:∀s∈l,s.near) (hsl:smp.length=ns) (hns:ns≤64) (hin:∀x∈smp,0≤x∧x < n) (hq:aH q (recs iL l)∈I0) (hqs:aH qs_ (recs eZ smp)∈I0):
  CD Tryz.prog 70 [.int .i64 (kd:Int), .slice q n c, .slice qs_ ns cs_] X w0 M0 I0 (fun v M I=>M0=M∧∃(A:MX) (b:RL),v= .tuple #[mv A,lv b]∧A.q=tN kd (bV l smp)∧b.q=dsB kd (bV l smp)∧I=iQ b 16::iB A 16::I0):=by
 refine aX (φ:=aH q (recs iL l)) (Hv.mem hq) (aX (φ:=aH qs_ (recs eZ smp)) (Hv.mem (List.mem_cons_of_mem _ hqs)) ?_)
 refine gG Tryz.func70 rfl Tryz.ntmps70 rfl ?_
 repeat refine aB ?_
 refine iN 77 4 ?_
 refine iN 70 1 ?_
 refine bH (φ:=aU [] 16) Hv.nilR ?_
 refine bH (φ:=dX [] 16) Hv.nilL ?_
 refine lV [0,1,22,23] rfl (fun k G M I=>∃(i:Nat) (rows:List RL) (bs:List RE) (qa qb:Option Addr) (ca cb:Nat),i≤ns∧k=ns - i∧rows.map RL.q=tN kd (bV l (smp.take i))∧qs bs=dsB kd (bV l (smp.take i))∧G=[(8, .slice qa rows.length ca),(9, .slice qb bs.length cb),(24, .int .i64 i)]∧M= .row qa rows.length ca (recs eL rows) 70 1:: .row qb bs.length cb (recs eR bs) 77 4::M0∧I=dX rows 16::aU bs 16::aH qs_ (recs eZ smp)::aH q (recs iL l)::I0) (ns) (⟨0,[],[],none,none,0,0,by omega,rfl,rfl,rfl,rfl,rfl,rfl⟩) ?_
 rintro kk G M I ⟨i,rows,bs,qa,qb,ca,cb,hi,rfl,hrq,hbq,rfl,rfl,rfl⟩
 have hpl:(bV l (smp.take i)).length=i:=by rw [pR,List.length_take];omega
 have hlr:rows.length=2*i:=by have:=congrArg List.length hrq;rw [List.length_map,xB,hpl] at this;omega
 have hlb:bs.length=2*i:=by have:=congrArg List.length hbq;rw [show (qs bs).length=bs.length from List.length_map ..,vK,hpl] at this;omega
 by_cases hii:i < ns
 ·have hzm:=hin _ (bD (ms:=smp) (i:=(i:Int)) (by omega))
  have ht:bV l (smp.take (i+1))=bV l (smp.take i)++[gt l (gt smp (i:Int))]:=by rw [←rT,gtQ (by omega)];exact congrArg (bV l) (List.take_append_getElem (by omega)).symm
  obtain ⟨z,hz⟩:∃z,gt smp (i:Int)=z:=⟨_,rfl⟩
  rw [hz] at hzm ht
  have hmem:=bD (ms:=l) (i:=z) (by omega)
  obtain ⟨s,hss⟩:∃s,gt l z=s:=⟨_,rfl⟩
  rw [hss] at hmem ht
  obtain ⟨n1,n2,n3,n4⟩:=hs s hmem
  repeat refine aB ?_
  rw [hz]
  repeat refine aB ?_
  rw [hss]
  refine dS (fun b12=>?_)
  repeat refine aB ?_
  (repeat refine aG ?_);refine dJ [0,1,2,3,4,5,6,7] [0,0,0,0,0,0,0,0] mixed (by kernel_rfl) ?_
  repeat refine aB ?_
  refine dS (fun b15=>?_)
  repeat refine aB ?_
  (refine aC rfl (fun _=>dL (vals:=[.int .i64 s.u, .int .i64 s.v]) (cells:=recs eZ [s.u,s.v]) rfl ?hpl rfl ?hz) rfl rfl ?_;(case hpl=>exact (by intro v hv;repeat (first|exact absurd hv (List.not_mem_nil)|(rcases List.mem_cons.1 hv with rfl|hv; · rfl))));(case hz=>rfl))
  refine dS (fun b16=>?_)
  repeat refine aB ?_
  rcases (show kd=0∨kd=1∨kd=2 by omega) with h0|h0|h0
  ·obtain rfl:kd=0:=by omega
   repeat refine aB ?_
   refine gX (cs:=recs eZ [1,0]) ([.int .i64 (1), .int .i64 (0)]) rfl (fun b9=>?_)
   refine aI .here ?_
   repeat refine aB ?_
   refine gX (cs:=recs eZ [0,1]) ([.int .i64 (0), .int .i64 (1)]) rfl (fun b10=>?_)
   refine aI .here ?_
   (refine aC rfl (fun _=>dL (vals:=[.slice (some ⟨b9,0,none⟩) 2 2, .slice (some ⟨b10,0,none⟩) 2 2]) (cells:=[.slice (some ⟨b9,0,none⟩) 2 2, .slice (some ⟨b10,0,none⟩) 2 2]) rfl ?hpl rfl ?hz) rfl rfl ?_;(case hpl=>exact (by intro v hv;repeat (first|exact absurd hv (List.not_mem_nil)|(rcases List.mem_cons.1 hv with rfl|hv; · rfl))));(case hz=>rfl))
   repeat refine aB ?_
   (refine aC rfl (fun _=>dL (vals:=[.int .i64 (s.u - s.x), .int .i64 (s.v - s.y)]) (cells:=recs eZ [s.u - s.x,s.v - s.y]) rfl ?hpl rfl ?hz) rfl rfl ?_;(case hpl=>exact (by intro v hv;repeat (first|exact absurd hv (List.not_mem_nil)|(rcases List.mem_cons.1 hv with rfl|hv; · rfl))));(case hz=>rfl))
   repeat refine aB ?_
   have hb1:∀z∈([1,0]:List Int),yX z:=by unfold yX;rw [e16];intro z hz;simp only [List.mem_cons,List.not_mem_nil,or_false] at hz;omega
   have hb2:∀z∈([0,1]:List Int),yX z:=by unfold yX;rw [e16];intro z hz;simp only [List.mem_cons,List.not_mem_nil,or_false] at hz;omega
   have hd1:yX (s.u - s.x):=by unfold yX;rw [e16];omega
   have hd2:yX (s.v - s.y):=by unfold yX;rw [e16];omega
   have hA2:tN 0 (bV l (smp.take (i+1)))=tN 0 (bV l (smp.take i))++[cz ([1,0]),cz ([0,1])]:=by rw [ht,tO];rfl
   have hB2:dsB 0 (bV l (smp.take (i+1)))=dsB 0 (bV l (smp.take i))++[((s.u - s.x:Int):Rat),((s.v - s.y:Int):Rat)]:=by rw [ht,uT];rfl
   obtain ⟨X1,hX1⟩:∃X1:List Int,X1=[1,0]:=⟨_,rfl⟩
   obtain ⟨X2,hX2⟩:∃X2:List Int,X2=[0,1]:=⟨_,rfl⟩
   obtain ⟨D1,hD1⟩:∃D1:Int,D1=s.u - s.x:=⟨_,rfl⟩
   obtain ⟨D2,hD2⟩:∃D2:Int,D2=s.v - s.y:=⟨_,rfl⟩
   have hl1:X1.length=2:=by rw [hX1];rfl
   have hl2:X2.length=2:=by rw [hX2];rfl
   rw [←hX1] at hb1 hA2
   rw [←hX2] at hb2 hA2
   rw [←hD1] at hd1 hB2
   rw [←hD2] at hd2 hB2
   rw [←hX1,←hX2,←hD1,←hD2]
   refine rY (M':= .blk b16 (recs eZ [D1,D2]) 197:: .row qa rows.length ca (recs eL rows) 70 1:: .row qb bs.length cb (recs eR bs) 77 4::M0) (I':=aH (some ⟨b10,0,none⟩) (recs eZ X2)::aH (some ⟨b9,0,none⟩) (recs eZ X1)::dX rows 16::aU bs 16::aH qs_ (recs eZ smp)::aH q (recs iL l)::I0) aF aD ?_
   refine lV [0,1,16,22,23,24,79] rfl (fun k G M I=>∃(t:Nat) (rows1:List RL) (bs1:List RE) (qa1 qb1:Option Addr) (ca1 cb1:Nat),t≤2∧k=2 - t∧rows1.map RL.q=tN 0 (bV l (smp.take i))++[cz X1,cz X2].take t∧qs bs1=dsB 0 (bV l (smp.take i))++[(D1:Rat),(D2:Rat)].take t∧G=[(8, .slice qa1 rows1.length ca1),(9, .slice qb1 bs1.length cb1),(80, .int .i64 t)]∧M= .blk b16 (recs eZ [D1,D2]) 197:: .row qa1 rows1.length ca1 (recs eL rows1) 70 1:: .row qb1 bs1.length cb1 (recs eR bs1) 77 4::M0∧I=dX rows1 16::aU bs1 16::aH (some ⟨b10,0,none⟩) (recs eZ X2)::aH (some ⟨b9,0,none⟩) (recs eZ X1)::aH qs_ (recs eZ smp)::aH q (recs iL l)::I0) (2) (⟨0,rows,bs,qa,qb,ca,cb,by omega,rfl,by rw [hrq];simp,by rw [hbq];simp,rfl,rfl,rfl⟩) ?_
   rintro kk G M I ⟨t,rows1,bs1,qa1,qb1,ca1,cb1,ht2,rfl,hrq1,hbq1,rfl,rfl,rfl⟩
   have hlr1:rows1.length=2*i+t:=by have:=congrArg List.length hrq1;rw [List.length_map,List.length_append,xB,hpl,List.length_take] at this;simp at this;omega
   have hlb1:bs1.length=2*i+t:=by have:=congrArg List.length hbq1;rw [show (qs bs1).length=bs1.length from List.length_map ..,List.length_append,vK,hpl,List.length_take] at this;simp at this;omega
   by_cases ht3:t < 2
   ·obtain ⟨bt,xs,d,hv,hf,hxl,hxb,hgd,hdb,hA3,hB3⟩:=aIC (I:=dX rows1 16::aU bs1 16::aH (some ⟨b10,0,none⟩) (recs eZ X2)::aH (some ⟨b9,0,none⟩) (recs eZ X1)::aH qs_ (recs eZ smp)::aH q (recs iL l)::I0) (b9:=b9) (b10:=b10) (by simp) (by simp) hl1 hl2 hb1 hb2 hd1 hd2 ht3
    refine bH (φ:=aH (some ⟨bt,0,none⟩) (recs eZ xs)) (Hv.mem hf) ?_
    have hWd:=fun M0 I0=>lF (X:=X) (w0:=w0) (M0:=M0) (I0:=I0) (x:=d) hdb.1 (k:=16) hdb.2
    repeat refine aB ?_
    (refine aC rfl (fun _=>vB (cs:=[.slice (some ⟨b9,0,none⟩) 2 2, .slice (some ⟨b10,0,none⟩) 2 2]) rfl rfl ⟨by omega,by show (t:Int) < ((2:Nat):Int);omega⟩ rfl hv) rfl rfl ?_)
    repeat refine aB ?_
    refine iN 77 4 ?_
    refine bH (φ:=aU [] 16) Hv.nilR ?_
    refine lV [0,1,16,17,22,23,24,79,80,84,85] rfl (fun k G M I=>∃(j:Nat) (es:List RE) (qe:Option Addr) (ce:Nat),j≤2∧k=2 - j∧es.length=j∧qs es=cz (xs.take j)∧G=[(8, .slice qa1 rows1.length ca1),(9, .slice qb1 bs1.length cb1),(19, .slice qe es.length ce),(86, .int .i64 j)]∧M= .row qe es.length ce (recs eR es) 77 4:: .blk b16 (recs eZ [D1,D2]) 197:: .row qa1 rows1.length ca1 (recs eL rows1) 70 1:: .row qb1 bs1.length cb1 (recs eR bs1) 77 4::M0∧I=aU es 16::aH (some ⟨bt,0,none⟩) (recs eZ xs)::dX rows1 16::aU bs1 16::aH (some ⟨b10,0,none⟩) (recs eZ X2)::aH (some ⟨b9,0,none⟩) (recs eZ X1)::aH qs_ (recs eZ smp)::aH q (recs iL l)::I0) (2) (⟨0,[],none,0,by omega,rfl,rfl,rfl,rfl,rfl,rfl⟩) ?_
    rintro kk G M I ⟨j,es,qe,ce,hj,rfl,hel,heq,rfl,rfl,rfl⟩
    by_cases hjm:j < 2
    ·have hx:=hxb _ (bD (ms:=xs) (i:=(j:Int)) (by omega))
     obtain ⟨x,hxx⟩:∃x,gt xs (j:Int)=x:=⟨_,rfl⟩
     rw [hxx] at hx
     have hW:=fun M0 I0=>lF (X:=X) (w0:=w0) (M0:=M0) (I0:=I0) (x:=x) hx.1 (k:=16) hx.2
     have htx:xs.take (j+1)=xs.take j++[x]:=by rw [←hxx,fE (by omega)];exact (List.take_append_getElem (by omega)).symm
     repeat refine aB ?_
     rw [hxx]
     repeat refine aB ?_
     (refine aQ rfl (hW _ _) ?_;rintro _ _ _ ⟨rfl,e,rfl,he,rfl⟩;refine aL ?_)
     refine gX (cs:=recs eR [e]) ([rv e]) rfl (fun b=>?_)
     refine wB (ys:=[e]) 1 rfl rfl rfl (fun q2 c3=>?_)
     repeat refine aB ?_
     refine dF (φ:=aU (es++[e]) 16) (Hv.snoc aA aA) ?_
     refine gJ (2 - (j+1)) (⟨j+1,es++[e],q2,c3,by omega,rfl,by simp [hel],?_,rfl,rfl,rfl⟩)
     rw [htx,yY,←heq]
     show (es++[e]).map RE.q=qs es++[(x:Rat)]
     rw [List.map_append,←he]
     rfl
    ·obtain rfl:j=2:=by omega
     rw [←hxl,List.take_length] at heq
     repeat refine aB ?_
     refine aID (k:=16) aA ?_
     (repeat refine aG ?_);refine nQ 5 (.blk b16 (recs eZ [D1,D2]) 197::M0) (iQ ⟨qe,ce,es⟩ 16::dX rows1 16::aU bs1 16::aH qs_ (recs eZ smp)::aH q (recs iL l)::I0) [0,1,4,5,6,7,2,3,8,9,10,11,12] [4,4,4,5,5,4,0,0,0,0,0,0,0] aF aD mixed (by kernel_rfl) ?_
     repeat refine aB ?_
     (apply gI (v:= .int .i64 d);exact eY;exact rfl;exact aA;exact At.mk hgd;exact rfl;exact rfl)
     repeat refine aB ?_
     refine gX (cs:=recs eL [⟨qe,ce,es⟩]) ([lv ⟨qe,ce,es⟩]) rfl (fun b17=>?_)
     refine wB (ys:=[⟨qe,ce,es⟩]) 2 rfl rfl rfl (fun qa2 ca2=>?_)
     (refine aQ rfl (hWd _ _) ?_;rintro _ _ _ ⟨rfl,e,rfl,he,rfl⟩;refine aL ?_)
     refine gX (cs:=recs eR [e]) ([rv e]) rfl (fun b18=>?_)
     refine wB (ys:=[e]) 4 rfl rfl rfl (fun qb2 cb2=>?_)
     repeat refine aB ?_
     refine dF (φ:=aU (bs1++[e]) 16) (Hv.snoc aA aA) ?_
     refine dF (φ:=dX (rows1++[(⟨qe,ce,es⟩:RL)]) 16) (Hv.snocL aA aA) ?_
     refine gJ (2 - (t+1)) (⟨t+1,rows1++[(⟨qe,ce,es⟩:RL)],bs1++[e],qa2,qb2,ca2,cb2,by omega,rfl,by rw [hA3,List.map_append,hrq1,List.append_assoc];show _++(_++[qs es])=_;rw [heq],by rw [hB3];show (bs1++[e]).map RE.q=_;rw [List.map_append,show bs1.map RE.q=qs bs1 from rfl,hbq1,List.append_assoc];show _++(_++[e.q])=_;rw [he],rfl,rfl,rfl⟩)
   ·obtain rfl:t=2:=by omega
    repeat refine aB ?_
    refine gJ (ns - (i+1)) (⟨i+1,rows1,bs1,qa1,qb1,ca1,cb1,by omega,rfl,by rw [hrq1,hA2];rfl,by rw [hbq1,hB2];rfl,rfl,rfl,rfl⟩)
  ·obtain rfl:kd=1:=by omega
   repeat refine aB ?_
   rw [Int.zero_sub]
   refine gX (cs:=recs eZ [s.x, -s.y,1,0]) ([.int .i64 (s.x), .int .i64 (-s.y), .int .i64 (1), .int .i64 (0)]) rfl (fun b9=>?_)
   refine aI .here ?_
   repeat refine aB ?_
   refine gX (cs:=recs eZ [s.y,s.x,0,1]) ([.int .i64 (s.y), .int .i64 (s.x), .int .i64 (0), .int .i64 (1)]) rfl (fun b10=>?_)
   refine aI .here ?_
   (refine aC rfl (fun _=>dL (vals:=[.slice (some ⟨b9,0,none⟩) 4 4, .slice (some ⟨b10,0,none⟩) 4 4]) (cells:=[.slice (some ⟨b9,0,none⟩) 4 4, .slice (some ⟨b10,0,none⟩) 4 4]) rfl ?hpl rfl ?hz) rfl rfl ?_;(case hpl=>exact (by intro v hv;repeat (first|exact absurd hv (List.not_mem_nil)|(rcases List.mem_cons.1 hv with rfl|hv; · rfl))));(case hz=>rfl))
   repeat refine aB ?_
   have hb1:∀z∈([s.x, -s.y,1,0]:List Int),yX z:=by unfold yX;rw [e16];intro z hz;simp only [List.mem_cons,List.not_mem_nil,or_false] at hz;omega
   have hb2:∀z∈([s.y,s.x,0,1]:List Int),yX z:=by unfold yX;rw [e16];intro z hz;simp only [List.mem_cons,List.not_mem_nil,or_false] at hz;omega
   have hd1:yX (s.u):=by unfold yX;rw [e16];omega
   have hd2:yX (s.v):=by unfold yX;rw [e16];omega
   have hA2:tN 1 (bV l (smp.take (i+1)))=tN 1 (bV l (smp.take i))++[cz ([s.x, -s.y,1,0]),cz ([s.y,s.x,0,1])]:=by rw [ht,tO];rfl
   have hB2:dsB 1 (bV l (smp.take (i+1)))=dsB 1 (bV l (smp.take i))++[((s.u:Int):Rat),((s.v:Int):Rat)]:=by rw [ht,uT];rfl
   obtain ⟨X1,hX1⟩:∃X1:List Int,X1=[s.x, -s.y,1,0]:=⟨_,rfl⟩
   obtain ⟨X2,hX2⟩:∃X2:List Int,X2=[s.y,s.x,0,1]:=⟨_,rfl⟩
   obtain ⟨D1,hD1⟩:∃D1:Int,D1=s.u:=⟨_,rfl⟩
   obtain ⟨D2,hD2⟩:∃D2:Int,D2=s.v:=⟨_,rfl⟩
   have hl1:X1.length=4:=by rw [hX1];rfl
   have hl2:X2.length=4:=by rw [hX2];rfl
   rw [←hX1] at hb1 hA2
   rw [←hX2] at hb2 hA2
   rw [←hD1] at hd1 hB2
   rw [←hD2] at hd2 hB2
   rw [←hX1,←hX2,←hD1,←hD2]
   refine rY (M':= .blk b16 (recs eZ [D1,D2]) 197:: .row qa rows.length ca (recs eL rows) 70 1:: .row qb bs.length cb (recs eR bs) 77 4::M0) (I':=aH (some ⟨b10,0,none⟩) (recs eZ X2)::aH (some ⟨b9,0,none⟩) (recs eZ X1)::dX rows 16::aU bs 16::aH qs_ (recs eZ smp)::aH q (recs iL l)::I0) aF aD ?_
   refine lV [0,1,16,22,23,24,79] rfl (fun k G M I=>∃(t:Nat) (rows1:List RL) (bs1:List RE) (qa1 qb1:Option Addr) (ca1 cb1:Nat),t≤2∧k=2 - t∧rows1.map RL.q=tN 1 (bV l (smp.take i))++[cz X1,cz X2].take t∧qs bs1=dsB 1 (bV l (smp.take i))++[(D1:Rat),(D2:Rat)].take t∧G=[(8, .slice qa1 rows1.length ca1),(9, .slice qb1 bs1.length cb1),(80, .int .i64 t)]∧M= .blk b16 (recs eZ [D1,D2]) 197:: .row qa1 rows1.length ca1 (recs eL rows1) 70 1:: .row qb1 bs1.length cb1 (recs eR bs1) 77 4::M0∧I=dX rows1 16::aU bs1 16::aH (some ⟨b10,0,none⟩) (recs eZ X2)::aH (some ⟨b9,0,none⟩) (recs eZ X1)::aH qs_ (recs eZ smp)::aH q (recs iL l)::I0) (2) (⟨0,rows,bs,qa,qb,ca,cb,by omega,rfl,by rw [hrq];simp,by rw [hbq];simp,rfl,rfl,rfl⟩) ?_
   rintro kk G M I ⟨t,rows1,bs1,qa1,qb1,ca1,cb1,ht2,rfl,hrq1,hbq1,rfl,rfl,rfl⟩
   have hlr1:rows1.length=2*i+t:=by have:=congrArg List.length hrq1;rw [List.length_map,List.length_append,xB,hpl,List.length_take] at this;simp at this;omega
   have hlb1:bs1.length=2*i+t:=by have:=congrArg List.length hbq1;rw [show (qs bs1).length=bs1.length from List.length_map ..,List.length_append,vK,hpl,List.length_take] at this;simp at this;omega
   by_cases ht3:t < 2
   ·obtain ⟨bt,xs,d,hv,hf,hxl,hxb,hgd,hdb,hA3,hB3⟩:=aIC (I:=dX rows1 16::aU bs1 16::aH (some ⟨b10,0,none⟩) (recs eZ X2)::aH (some ⟨b9,0,none⟩) (recs eZ X1)::aH qs_ (recs eZ smp)::aH q (recs iL l)::I0) (b9:=b9) (b10:=b10) (by simp) (by simp) hl1 hl2 hb1 hb2 hd1 hd2 ht3
    refine bH (φ:=aH (some ⟨bt,0,none⟩) (recs eZ xs)) (Hv.mem hf) ?_
    have hWd:=fun M0 I0=>lF (X:=X) (w0:=w0) (M0:=M0) (I0:=I0) (x:=d) hdb.1 (k:=16) hdb.2
    repeat refine aB ?_
    (refine aC rfl (fun _=>vB (cs:=[.slice (some ⟨b9,0,none⟩) 4 4, .slice (some ⟨b10,0,none⟩) 4 4]) rfl rfl ⟨by omega,by show (t:Int) < ((2:Nat):Int);omega⟩ rfl hv) rfl rfl ?_)
    repeat refine aB ?_
    refine iN 77 4 ?_
    refine bH (φ:=aU [] 16) Hv.nilR ?_
    refine lV [0,1,16,17,22,23,24,79,80,84,85] rfl (fun k G M I=>∃(j:Nat) (es:List RE) (qe:Option Addr) (ce:Nat),j≤4∧k=4 - j∧es.length=j∧qs es=cz (xs.take j)∧G=[(8, .slice qa1 rows1.length ca1),(9, .slice qb1 bs1.length cb1),(19, .slice qe es.length ce),(86, .int .i64 j)]∧M= .row qe es.length ce (recs eR es) 77 4:: .blk b16 (recs eZ [D1,D2]) 197:: .row qa1 rows1.length ca1 (recs eL rows1) 70 1:: .row qb1 bs1.length cb1 (recs eR bs1) 77 4::M0∧I=aU es 16::aH (some ⟨bt,0,none⟩) (recs eZ xs)::dX rows1 16::aU bs1 16::aH (some ⟨b10,0,none⟩) (recs eZ X2)::aH (some ⟨b9,0,none⟩) (recs eZ X1)::aH qs_ (recs eZ smp)::aH q (recs iL l)::I0) (4) (⟨0,[],none,0,by omega,rfl,rfl,rfl,rfl,rfl,rfl⟩) ?_
    rintro kk G M I ⟨j,es,qe,ce,hj,rfl,hel,heq,rfl,rfl,rfl⟩
    by_cases hjm:j < 4
    ·have hx:=hxb _ (bD (ms:=xs) (i:=(j:Int)) (by omega))
     obtain ⟨x,hxx⟩:∃x,gt xs (j:Int)=x:=⟨_,rfl⟩
     rw [hxx] at hx
     have hW:=fun M0 I0=>lF (X:=X) (w0:=w0) (M0:=M0) (I0:=I0) (x:=x) hx.1 (k:=16) hx.2
     have htx:xs.take (j+1)=xs.take j++[x]:=by rw [←hxx,fE (by omega)];exact (List.take_append_getElem (by omega)).symm
     repeat refine aB ?_
     rw [hxx]
     repeat refine aB ?_
     (refine aQ rfl (hW _ _) ?_;rintro _ _ _ ⟨rfl,e,rfl,he,rfl⟩;refine aL ?_)
     refine gX (cs:=recs eR [e]) ([rv e]) rfl (fun b=>?_)
     refine wB (ys:=[e]) 1 rfl rfl rfl (fun q2 c3=>?_)
     repeat refine aB ?_
     refine dF (φ:=aU (es++[e]) 16) (Hv.snoc aA aA) ?_
     refine gJ (4 - (j+1)) (⟨j+1,es++[e],q2,c3,by omega,rfl,by simp [hel],?_,rfl,rfl,rfl⟩)
     rw [htx,yY,←heq]
     show (es++[e]).map RE.q=qs es++[(x:Rat)]
     rw [List.map_append,←he]
     rfl
    ·obtain rfl:j=4:=by omega
     rw [←hxl,List.take_length] at heq
     repeat refine aB ?_
     refine aID (k:=16) aA ?_
     (repeat refine aG ?_);refine nQ 5 (.blk b16 (recs eZ [D1,D2]) 197::M0) (iQ ⟨qe,ce,es⟩ 16::dX rows1 16::aU bs1 16::aH qs_ (recs eZ smp)::aH q (recs iL l)::I0) [0,1,4,5,6,7,2,3,8,9,10,11,12] [4,4,4,5,5,4,0,0,0,0,0,0,0] aF aD mixed (by kernel_rfl) ?_
     repeat refine aB ?_
     (apply gI (v:= .int .i64 d);exact eY;exact rfl;exact aA;exact At.mk hgd;exact rfl;exact rfl)
     repeat refine aB ?_
     refine gX (cs:=recs eL [⟨qe,ce,es⟩]) ([lv ⟨qe,ce,es⟩]) rfl (fun b17=>?_)
     refine wB (ys:=[⟨qe,ce,es⟩]) 2 rfl rfl rfl (fun qa2 ca2=>?_)
     (refine aQ rfl (hWd _ _) ?_;rintro _ _ _ ⟨rfl,e,rfl,he,rfl⟩;refine aL ?_)
     refine gX (cs:=recs eR [e]) ([rv e]) rfl (fun b18=>?_)
     refine wB (ys:=[e]) 4 rfl rfl rfl (fun qb2 cb2=>?_)
     repeat refine aB ?_
     refine dF (φ:=aU (bs1++[e]) 16) (Hv.snoc aA aA) ?_
     refine dF (φ:=dX (rows1++[(⟨qe,ce,es⟩:RL)]) 16) (Hv.snocL aA aA) ?_
     refine gJ (2 - (t+1)) (⟨t+1,rows1++[(⟨qe,ce,es⟩:RL)],bs1++[e],qa2,qb2,ca2,cb2,by omega,rfl,by rw [hA3,List.map_append,hrq1,List.append_assoc];show _++(_++[qs es])=_;rw [heq],by rw [hB3];show (bs1++[e]).map RE.q=_;rw [List.map_append,show bs1.map RE.q=qs bs1 from rfl,hbq1,List.append_assoc];show _++(_++[e.q])=_;rw [he],rfl,rfl,rfl⟩)
   ·obtain rfl:t=2:=by omega
    repeat refine aB ?_
    refine gJ (ns - (i+1)) (⟨i+1,rows1,bs1,qa1,qb1,ca1,cb1,by omega,rfl,by rw [hrq1,hA2];rfl,by rw [hbq1,hB2];rfl,rfl,rfl,rfl⟩)
  ·obtain rfl:kd=2:=by omega
   repeat refine aB ?_
   refine gX (cs:=recs eZ [s.x,s.y,1,0,0,0]) ([.int .i64 (s.x), .int .i64 (s.y), .int .i64 (1), .int .i64 (0), .int .i64 (0), .int .i64 (0)]) rfl (fun b9=>?_)
   refine aI .here ?_
   repeat refine aB ?_
   refine gX (cs:=recs eZ [0,0,0,s.x,s.y,1]) ([.int .i64 (0), .int .i64 (0), .int .i64 (0), .int .i64 (s.x), .int .i64 (s.y), .int .i64 (1)]) rfl (fun b10=>?_)
   refine aI .here ?_
   (refine aC rfl (fun _=>dL (vals:=[.slice (some ⟨b9,0,none⟩) 6 6, .slice (some ⟨b10,0,none⟩) 6 6]) (cells:=[.slice (some ⟨b9,0,none⟩) 6 6, .slice (some ⟨b10,0,none⟩) 6 6]) rfl ?hpl rfl ?hz) rfl rfl ?_;(case hpl=>exact (by intro v hv;repeat (first|exact absurd hv (List.not_mem_nil)|(rcases List.mem_cons.1 hv with rfl|hv; · rfl))));(case hz=>rfl))
   repeat refine aB ?_
   have hb1:∀z∈([s.x,s.y,1,0,0,0]:List Int),yX z:=by unfold yX;rw [e16];intro z hz;simp only [List.mem_cons,List.not_mem_nil,or_false] at hz;omega
   have hb2:∀z∈([0,0,0,s.x,s.y,1]:List Int),yX z:=by unfold yX;rw [e16];intro z hz;simp only [List.mem_cons,List.not_mem_nil,or_false] at hz;omega
   have hd1:yX (s.u):=by unfold yX;rw [e16];omega
   have hd2:yX (s.v):=by unfold yX;rw [e16];omega
   have hA2:tN 2 (bV l (smp.take (i+1)))=tN 2 (bV l (smp.take i))++[cz ([s.x,s.y,1,0,0,0]),cz ([0,0,0,s.x,s.y,1])]:=by rw [ht,tO];rfl
   have hB2:dsB 2 (bV l (smp.take (i+1)))=dsB 2 (bV l (smp.take i))++[((s.u:Int):Rat),((s.v:Int):Rat)]:=by rw [ht,uT];rfl
   obtain ⟨X1,hX1⟩:∃X1:List Int,X1=[s.x,s.y,1,0,0,0]:=⟨_,rfl⟩
   obtain ⟨X2,hX2⟩:∃X2:List Int,X2=[0,0,0,s.x,s.y,1]:=⟨_,rfl⟩
   obtain ⟨D1,hD1⟩:∃D1:Int,D1=s.u:=⟨_,rfl⟩
   obtain ⟨D2,hD2⟩:∃D2:Int,D2=s.v:=⟨_,rfl⟩
   have hl1:X1.length=6:=by rw [hX1];rfl
   have hl2:X2.length=6:=by rw [hX2];rfl
   rw [←hX1] at hb1 hA2
   rw [←hX2] at hb2 hA2
   rw [←hD1] at hd1 hB2
   rw [←hD2] at hd2 hB2
   rw [←hX1,←hX2,←hD1,←hD2]
   refine rY (M':= .blk b16 (recs eZ [D1,D2]) 197:: .row qa rows.length ca (recs eL rows) 70 1:: .row qb bs.length cb (recs eR bs) 77 4::M0) (I':=aH (some ⟨b10,0,none⟩) (recs eZ X2)::aH (some ⟨b9,0,none⟩) (recs eZ X1)::dX rows 16::aU bs 16::aH qs_ (recs eZ smp)::aH q (recs iL l)::I0) aF aD ?_
   refine lV [0,1,16,22,23,24,79] rfl (fun k G M I=>∃(t:Nat) (rows1:List RL) (bs1:List RE) (qa1 qb1:Option Addr) (ca1 cb1:Nat),t≤2∧k=2 - t∧rows1.map RL.q=tN 2 (bV l (smp.take i))++[cz X1,cz X2].take t∧qs bs1=dsB 2 (bV l (smp.take i))++[(D1:Rat),(D2:Rat)].take t∧G=[(8, .slice qa1 rows1.length ca1),(9, .slice qb1 bs1.length cb1),(80, .int .i64 t)]∧M= .blk b16 (recs eZ [D1,D2]) 197:: .row qa1 rows1.length ca1 (recs eL rows1) 70 1:: .row qb1 bs1.length cb1 (recs eR bs1) 77 4::M0∧I=dX rows1 16::aU bs1 16::aH (some ⟨b10,0,none⟩) (recs eZ X2)::aH (some ⟨b9,0,none⟩) (recs eZ X1)::aH qs_ (recs eZ smp)::aH q (recs iL l)::I0) (2) (⟨0,rows,bs,qa,qb,ca,cb,by omega,rfl,by rw [hrq];simp,by rw [hbq];simp,rfl,rfl,rfl⟩) ?_
   rintro kk G M I ⟨t,rows1,bs1,qa1,qb1,ca1,cb1,ht2,rfl,hrq1,hbq1,rfl,rfl,rfl⟩
   have hlr1:rows1.length=2*i+t:=by have:=congrArg List.length hrq1;rw [List.length_map,List.length_append,xB,hpl,List.length_take] at this;simp at this;omega
   have hlb1:bs1.length=2*i+t:=by have:=congrArg List.length hbq1;rw [show (qs bs1).length=bs1.length from List.length_map ..,List.length_append,vK,hpl,List.length_take] at this;simp at this;omega
   by_cases ht3:t < 2
   ·obtain ⟨bt,xs,d,hv,hf,hxl,hxb,hgd,hdb,hA3,hB3⟩:=aIC (I:=dX rows1 16::aU bs1 16::aH (some ⟨b10,0,none⟩) (recs eZ X2)::aH (some ⟨b9,0,none⟩) (recs eZ X1)::aH qs_ (recs eZ smp)::aH q (recs iL l)::I0) (b9:=b9) (b10:=b10) (by simp) (by simp) hl1 hl2 hb1 hb2 hd1 hd2 ht3
    refine bH (φ:=aH (some ⟨bt,0,none⟩) (recs eZ xs)) (Hv.mem hf) ?_
    have hWd:=fun M0 I0=>lF (X:=X) (w0:=w0) (M0:=M0) (I0:=I0) (x:=d) hdb.1 (k:=16) hdb.2
    repeat refine aB ?_
    (refine aC rfl (fun _=>vB (cs:=[.slice (some ⟨b9,0,none⟩) 6 6, .slice (some ⟨b10,0,none⟩) 6 6]) rfl rfl ⟨by omega,by show (t:Int) < ((2:Nat):Int);omega⟩ rfl hv) rfl rfl ?_)
    repeat refine aB ?_
    refine iN 77 4 ?_
    refine bH (φ:=aU [] 16) Hv.nilR ?_
    refine lV [0,1,16,17,22,23,24,79,80,84,85] rfl (fun k G M I=>∃(j:Nat) (es:List RE) (qe:Option Addr) (ce:Nat),j≤6∧k=6 - j∧es.length=j∧qs es=cz (xs.take j)∧G=[(8, .slice qa1 rows1.length ca1),(9, .slice qb1 bs1.length cb1),(19, .slice qe es.length ce),(86, .int .i64 j)]∧M= .row qe es.length ce (recs eR es) 77 4:: .blk b16 (recs eZ [D1,D2]) 197:: .row qa1 rows1.length ca1 (recs eL rows1) 70 1:: .row qb1 bs1.length cb1 (recs eR bs1) 77 4::M0∧I=aU es 16::aH (some ⟨bt,0,none⟩) (recs eZ xs)::dX rows1 16::aU bs1 16::aH (some ⟨b10,0,none⟩) (recs eZ X2)::aH (some ⟨b9,0,none⟩) (recs eZ X1)::aH qs_ (recs eZ smp)::aH q (recs iL l)::I0) (6) (⟨0,[],none,0,by omega,rfl,rfl,rfl,rfl,rfl,rfl⟩) ?_
    rintro kk G M I ⟨j,es,qe,ce,hj,rfl,hel,heq,rfl,rfl,rfl⟩
    by_cases hjm:j < 6
    ·have hx:=hxb _ (bD (ms:=xs) (i:=(j:Int)) (by omega))
     obtain ⟨x,hxx⟩:∃x,gt xs (j:Int)=x:=⟨_,rfl⟩
     rw [hxx] at hx
     have hW:=fun M0 I0=>lF (X:=X) (w0:=w0) (M0:=M0) (I0:=I0) (x:=x) hx.1 (k:=16) hx.2
     have htx:xs.take (j+1)=xs.take j++[x]:=by rw [←hxx,fE (by omega)];exact (List.take_append_getElem (by omega)).symm
     repeat refine aB ?_
     rw [hxx]
     repeat refine aB ?_
     (refine aQ rfl (hW _ _) ?_;rintro _ _ _ ⟨rfl,e,rfl,he,rfl⟩;refine aL ?_)
     refine gX (cs:=recs eR [e]) ([rv e]) rfl (fun b=>?_)
     refine wB (ys:=[e]) 1 rfl rfl rfl (fun q2 c3=>?_)
     repeat refine aB ?_
     refine dF (φ:=aU (es++[e]) 16) (Hv.snoc aA aA) ?_
     refine gJ (6 - (j+1)) (⟨j+1,es++[e],q2,c3,by omega,rfl,by simp [hel],?_,rfl,rfl,rfl⟩)
     rw [htx,yY,←heq]
     show (es++[e]).map RE.q=qs es++[(x:Rat)]
     rw [List.map_append,←he]
     rfl
    ·obtain rfl:j=6:=by omega
     rw [←hxl,List.take_length] at heq
     repeat refine aB ?_
     refine aID (k:=16) aA ?_
     (repeat refine aG ?_);refine nQ 5 (.blk b16 (recs eZ [D1,D2]) 197::M0) (iQ ⟨qe,ce,es⟩ 16::dX rows1 16::aU bs1 16::aH qs_ (recs eZ smp)::aH q (recs iL l)::I0) [0,1,4,5,6,7,2,3,8,9,10,11,12] [4,4,4,5,5,4,0,0,0,0,0,0,0] aF aD mixed (by kernel_rfl) ?_
     repeat refine aB ?_
     (apply gI (v:= .int .i64 d);exact eY;exact rfl;exact aA;exact At.mk hgd;exact rfl;exact rfl)
     repeat refine aB ?_
     refine gX (cs:=recs eL [⟨qe,ce,es⟩]) ([lv ⟨qe,ce,es⟩]) rfl (fun b17=>?_)
     refine wB (ys:=[⟨qe,ce,es⟩]) 2 rfl rfl rfl (fun qa2 ca2=>?_)
     (refine aQ rfl (hWd _ _) ?_;rintro _ _ _ ⟨rfl,e,rfl,he,rfl⟩;refine aL ?_)
     refine gX (cs:=recs eR [e]) ([rv e]) rfl (fun b18=>?_)
     refine wB (ys:=[e]) 4 rfl rfl rfl (fun qb2 cb2=>?_)
     repeat refine aB ?_
     refine dF (φ:=aU (bs1++[e]) 16) (Hv.snoc aA aA) ?_
     refine dF (φ:=dX (rows1++[(⟨qe,ce,es⟩:RL)]) 16) (Hv.snocL aA aA) ?_
     refine gJ (2 - (t+1)) (⟨t+1,rows1++[(⟨qe,ce,es⟩:RL)],bs1++[e],qa2,qb2,ca2,cb2,by omega,rfl,by rw [hA3,List.map_append,hrq1,List.append_assoc];show _++(_++[qs es])=_;rw [heq],by rw [hB3];show (bs1++[e]).map RE.q=_;rw [List.map_append,show bs1.map RE.q=qs bs1 from rfl,hbq1,List.append_assoc];show _++(_++[e.q])=_;rw [he],rfl,rfl,rfl⟩)
   ·obtain rfl:t=2:=by omega
    repeat refine aB ?_
    refine gJ (ns - (i+1)) (⟨i+1,rows1,bs1,qa1,qb1,ca1,cb1,by omega,rfl,by rw [hrq1,hA2];rfl,by rw [hbq1,hB2];rfl,rfl,rfl,rfl⟩)
 ·obtain rfl:i=ns:=by omega
  rw [←hsl,List.take_length] at hrq hbq
  repeat refine aB ?_
  refine aDZ (k:=16) aA ?_
  refine aIT (k:=16) aA ?_
  refine tyS [6,7] rfl rfl (⟨rfl,⟨qa,ca,rows⟩,⟨qb,cb,bs⟩,rfl,hrq,hbq,rfl⟩)
end
section
variable {X:List Nat} {w0:World} {M0 M1 M2:List Ent} {I0:List aM}
def ErrK (m:Mt) (s:Q4) (k:Nat) (M0:List Ent) (I0:List aM) (v:Value) (M:List Ent) (I:List aM):Prop:=
 M0=M∧if xU m 2 s=0 then I0=I∧v= .tuple #[zR, .int .i64 13] else ∃e:RE,v= .tuple #[rv e, .int .i64 0]∧e.q=aCM m s∧I=bW e k::I0
end
section
variable {X:List Nat} {w0:World} {M0 M1 M2:List Ent} {I0:List aM}
end
section
variable {X:List Nat} {w0:World} {M0 M1 M2:List Ent} {I0:List aM}
def NorR (R C:Nat) (A:Mt) (b:List Rat) (k:Nat) (M0:List Ent) (I0:List aM) (v:Value) (M:List Ent) (I:List aM):Prop:=
 M0=M∧if dt C (at2 (nrN R C A))=0 then I0=I∧v= .tuple #[.slice none 0 0, .bool false] else ∃r:RL,v= .tuple #[lv r, .bool true]∧r.q=lsX R C A b∧I=iQ r k::I0
end
/- ---------- IndexFunc, ContainsFunc of []fiducial/api.Rat ---------- -/
section
variable {X:List Nat} {w0:World} {M0:List Ent} {I0:List aM}
end
def zeroL (l:List Rat):Prop:=∀x∈l,x=0
instance (l:List Rat):Decidable (zeroL l):=inferInstanceAs (Decidable (∀x∈l,x=0))
def symM (A:Mt) (n:Nat):Prop:=∀i,i < n→∀j,j < i→at2 A i j=at2 A j i
instance (A:Mt) (n:Nat):Decidable (symM A n):=inferInstanceAs (Decidable (∀i,i < n→∀j,j < i→at2 A i j=at2 A j i))
def symC (A:Mt) (n:Nat):Int:=if symM A n then 0 else 11
section
variable {X:List Nat} {w0:World} {M0:List Ent} {I0:List aM}
end
end Go.Proofs.YtmmmfphealhapaaGreat
namespace Go.Proofs.YtmmmfphealhapaaGreat
def rsF (f:Nat→Nat→Rat):Nat→Nat→Nat→Rat
 |0=>f
 |k+1=>fun i j=>if k < i∧k≤j then rsF f k i j - rsF f k i k / rsF f k k k*rsF f k k j else rsF f k i j
def bk (f:Nat→Nat→Rat) (k:Nat):Nat→Nat→Rat:=fun a b=>rsF f k (a+k) (b+k)
def pvs (f:Nat→Nat→Rat):Nat→Rat
 |0=>1
 |k+1=>pvs f k*bk f k 0 0
def qf (f:Nat→Nat→Rat) (v:Nat→Rat) (n k:Nat):Rat:=sm (n - k) (fun a=>sm (n - k) (fun b=>bk f k a b*v (a+k)*v (b+k)))
def yk (f:Nat→Nat→Rat) (v:Nat→Rat) (n k:Nat):Rat:=v k+sm (n - (k+1)) (fun a=>bk f k (a+1) 0 / bk f k 0 0*v (a+(k+1)))
open Go Go.Fx
def qfr (A:Mt) (v:List Rat) (n:Nat):Rat:=sm n (fun t=>v.getD t 0*sm n (fun j=>at2 A t j*v.getD j 0))
section
variable {X:List Nat} {w0:World} {M0:List Ent} {I0:List aM}
theorem aIS {x y:RL} {u m:Nat} (hk:u+m+1≤100000000000) (lx:x.es.length≤1000) (ly:y.es.length≤1000) (hx:Hv I0 (iQ x u)) (hy:Hv I0 (iQ y m)):
  CD Tryz.prog 33 [lv x,lv y] X w0 M0 I0 (fun v M I=>M0=M∧I0=I∧v= .bool (B (x.q=y.q))):=by
 refine aXW hx (aXW (φ:=iQ y m) (hy.cons) ?_)
 refine aX (φ:=aH (x).p (recs eR (x).es)) (Hv.lsl aA) ?_
 refine aX (φ:=aH (y).p (recs eR (y).es)) (Hv.lsl aA) ?_
 by_cases hlen:x.es.length=y.es.length
 ·refine aN Tryz.func33 rfl Tryz.ntmps33 rfl ?_
  repeat refine aB ?_
  refine lV [0,1] rfl (fun k G M I=>∃i:Nat,i≤x.es.length∧k=x.es.length - i∧(∀j:Nat,j < i→(gt x.es (j:Int)).q=(gt y.es (j:Int)).q)∧G=[(5, .int .i64 i)]∧M0=M∧I=aH y.p (recs eR y.es)::aH x.p (recs eR x.es)::iQ y m::iQ x u::I0) (x.es.length) (⟨0,by omega,rfl,fun j hj=>by omega,rfl,rfl,rfl⟩) ?_
  rintro kk G M I ⟨i,hi,rfl,hs,rfl,rfl,rfl⟩
  by_cases hi2:i < x.es.length
  ·have hS:=fun M0 I0 h1 h2=>aTY (X:=X) (w0:=w0) (M0:=M0) (I0:=I0) (a:=gt x.es (i:Int)) (b:=gt y.es (i:Int)) (k:=u) (m:=m) (by omega) h1 h2
   by_cases he:(gt x.es (i:Int)).q=(gt y.es (i:Int)).q
   ·rw [bJ he] at hS
    repeat refine aB ?_
    (repeat refine aG ?_);refine bA 1 [0,1,2,3,4,5,6,7,8,9] [1,1,1,0,1,1,1,0,0,0] mixed (by kernel_rfl) ?_
    repeat refine aB ?_
    refine dK rfl (hS _ _ (Hv.lel aA (by omega)) (Hv.lel aA (by omega))) ?_
    repeat refine aB ?_
    refine gJ (x.es.length - (i+1)) (⟨i+1,by omega,rfl,fun j hj=>?_,rfl,rfl,rfl⟩)
    by_cases e:j=i
    ·subst e;exact he
    ·exact hs j (by omega)
   ·rw [bE he] at hS
    repeat refine aB ?_
    (repeat refine aG ?_);refine bA 1 [0,1,2,3,4,5,6,7,8,9] [1,1,1,0,1,1,1,0,0,0] mixed (by kernel_rfl) ?_
    repeat refine aB ?_
    refine dK rfl (hS _ _ (Hv.lel aA (by omega)) (Hv.lel aA (by omega))) ?_
    repeat refine aB ?_
    refine iA rfl rfl (⟨rfl,rfl,congrArg Value.bool (bE (fun e=>he (q_at e hi2))).symm⟩)
  ·repeat refine aB ?_
   refine iA rfl rfl (⟨rfl,rfl,congrArg Value.bool (bJ (q_ext hlen (fun j hj=>hs j (by omega)))).symm⟩)
 ·refine aN Tryz.func33 rfl Tryz.ntmps33 rfl ?_
  repeat refine aB ?_
  refine aP (by first|exact .inl rfl|exact .inr rfl) rfl rfl _ _ aF aD (⟨rfl,rfl,congrArg Value.bool (bE (fun e=>hlen (by have:=congrArg List.length e;simpa using this))).symm⟩)
theorem aFR {a b:MX} {n C k m:Nat} (hk:k+m+1≤100000000000) (hn:n≤64) (hC:C≤64) (da:a.dim n C) (db:b.dim n C) (ha:iB a k∈I0) (hb:iB b m∈I0):
  CD Tryz.prog 76 [mv a,mv b] X w0 M0 I0 (fun v M I=>M0=M∧I0=I∧v= .bool (B (a.q=b.q))):=by
 have la:=da.1
 have lb:=db.1
 refine aX (φ:=aH (a).p (recs eL (a).rows)) (Hv.xsl aA) ?_
 refine aX (φ:=aH (b).p (recs eL (b).rows)) (Hv.xsl aA) ?_
 refine aN Tryz.func76 rfl Tryz.ntmps76 rfl ?_
 repeat refine aB ?_
 refine lV [0,1] rfl (fun k G M I=>∃i:Nat,i≤n∧k=n - i∧(∀j:Nat,j < i→(gt a.rows (j:Int)).q=(gt b.rows (j:Int)).q)∧G=[(5, .int .i64 i)]∧M0=M∧I=aH b.p (recs eL b.rows)::aH a.p (recs eL a.rows)::I0) (n) (⟨0,by omega,rfl,fun j hj=>by omega,rfl,rfl,rfl⟩) ?_
 rintro kk G M I ⟨i,hi,rfl,hs,rfl,rfl,rfl⟩
 by_cases hi2:i < n
 ·have c1:=da.row (i:=i) (by omega)
  have c2:=db.row (i:=i) (by omega)
  have hS:=fun M0 I0 h1 h2=>aIS (X:=X) (w0:=w0) (M0:=M0) (I0:=I0) (x:=gt a.rows (i:Int)) (y:=gt b.rows (i:Int)) (u:=k) (m:=m) hk (by omega) (by omega) h1 h2
  by_cases he:(gt a.rows (i:Int)).q=(gt b.rows (i:Int)).q
  ·rw [bJ he] at hS
   repeat refine aB ?_
   (repeat refine aG ?_);refine bA 1 [0,1,2,3,4,5,6,7,8,9] [1,1,1,0,1,1,1,0,0,0] mixed (by kernel_rfl) ?_
   repeat refine aB ?_
   refine dK rfl (hS _ _ (Hv.xrow aA (by omega)) (Hv.xrow aA (by omega))) ?_
   repeat refine aB ?_
   refine gJ (n - (i+1)) (⟨i+1,by omega,rfl,fun j hj=>?_,rfl,rfl,rfl⟩)
   by_cases e:j=i
   ·subst e;exact he
   ·exact hs j (by omega)
  ·rw [bE he] at hS
   repeat refine aB ?_
   (repeat refine aG ?_);refine bA 1 [0,1,2,3,4,5,6,7,8,9] [1,1,1,0,1,1,1,0,0,0] mixed (by kernel_rfl) ?_
   repeat refine aB ?_
   refine dK rfl (hS _ _ (Hv.xrow aA (by omega)) (Hv.xrow aA (by omega))) ?_
   repeat refine aB ?_
   refine iA rfl rfl (⟨rfl,rfl,congrArg Value.bool (bE (fun e=>he (bET e (by omega)))).symm⟩)
 ·repeat refine aB ?_
  refine iA rfl rfl (⟨rfl,rfl,congrArg Value.bool (bJ (bCW (by omega) (fun j hj=>hs j (by omega)))).symm⟩)
end
theorem aRI {kd:Nat} {l:List Q4} (hk:kd≤3) (h:jH l=0):qI (kd:Int) l=0:=by
 unfold qI
 rw [if_pos h,if_pos (show kdP (kd:Int) from ⟨by omega,by omega⟩)]
section
variable {X:List Nat} {w0:World} {M0 M1 M2:List Ent} {I0:List aM}
def RefR (o:Option Mt) (k:Nat) (M0:List Ent) (I0:List aM) (v:Value) (M:List Ent) (I:List aM):Prop:=M0=M∧match o with
 |none=>I0=I∧v= .tuple #[.slice none 0 0, .int .i64 13]
 |some A=>∃m:MX,v= .tuple #[mv m, .int .i64 0]∧m.q=A∧m.dim 3 3∧I=iB m k::I0
end
theorem aTW {A:MX} {R C:Nat} (h:qG A.q R C):A.dim R C:=by
 have hl:A.rows.length=R:=by have:=h.1;simpa [MX.q] using this
 refine ⟨hl,fun r hr=>?_⟩
 obtain ⟨i,hi,rfl⟩:=List.mem_iff_getElem.1 hr
 have h2:=h.2 i (by omega)
 have e:rowAt A.q i=A.rows[i].q:=by simp [rowAt,MX.q,List.getD,hi]
 rw [e] at h2
 rwa [show (A.rows[i].q).length=A.rows[i].es.length from List.length_map ..] at h2
section
variable {X:List Nat} {w0:World} {M0 M1 M2:List Ent} {I0:List aM}
theorem aOB {x:Int}:CD Tryz.prog 18 [.int .i64 x] X w0 M0 I0 (fun v M I=>M0=M∧I0=I∧v= .bool (B (kdP x))):=by
 refine aS Tryz.func18 rfl Tryz.ntmps18 rfl ?_
 by_cases h0:0≤x
 ·repeat refine aB ?_
  refine iA rfl rfl (⟨rfl,rfl,congrArg Value.bool (iG ⟨fun h=>⟨h0,h⟩,fun h=>h.2⟩)⟩)
 ·repeat refine aB ?_
  refine iA rfl rfl (⟨rfl,rfl,congrArg Value.bool (bE (fun h=>h0 h.1)).symm⟩)
theorem aVD {a b:MX} {k m:Nat} (hk:k+m+1≤100000000000) (da:a.dim 3 3) (db:b.dim 3 3) (ha:iB a k∈I0) (hb:iB b m∈I0):
  CD Tryz.prog 24 [mv a,mv b] X w0 M0 I0 (fun v M I=>M0=M∧I0=I∧v= .bool (B (a.q=b.q))):=by
 have hS:=fun M0 I0 h1 h2=>aFR (X:=X) (w0:=w0) (M0:=M0) (I0:=I0) (a:=a) (b:=b) (n:=3) (C:=3) (k:=k) (m:=m) hk (by omega) (by omega) da db h1 h2
 refine aN Tryz.func24 rfl Tryz.ntmps24 rfl ?_
 repeat refine aB ?_
 refine dK rfl (hS _ _ aA aA) ?_
 repeat refine aB ?_
 refine iA rfl rfl (⟨rfl,rfl,rfl⟩)
end
end Go.Proofs.YtmmmfphealhapaaGreat

/- An array of scalars indexed. -/
import Derived.Test.YtmmmfphealhapaaGreatZtak
import Derived.Test.YtmmmfphealhapaaGreatZtar
import Derived.Test.YtmmmfphealhapaaGreatZtat
import Derived.Test.YtmmmfphealhapaaGreatZtao
import Derived.Test.YtmmmfphealhapaaGreatZtal
import Derived.Test.YtmmmfphealhapaaGreatZtan
import Derived.Test.YtmmmfphealhapaaGreatZtap
import Derived.Test.YtmmmfphealhapaaGreatZtam
set_option linter.unusedSimpArgs false
set_option linter.unusedVariables false
set_option maxRecDepth 100000
set_option maxHeartbeats 4000000
namespace Go.Fx
open Go
section
variable {P:Program} {n:Nat} {G:Env} {C:World→Prop} {ty:TypeId}
theorem wB {t e:TypeId} {sz len:Nat} {x ix:Operand} {cs:List Value} {v:Value} {k:IntKind} {i:Int} [ht:ArrTy P t len e sz] [he:ScalarTy P e] (hx:ev G x=some (.agg cs.toArray)) (hi:ev G ix=some (.int k i)) (h:0≤i∧i < len)
  (hs:sz=1) (hv:cs[i.toNat]?=some v):Const P n G (.index t x ix) ty C v:=by
 subst hs
 refine ⟨?_⟩
 intro st ha dst pos after guard w _
 have hu:=ht.und
 simp [execOp,Instr.index,ha.ev hx,ha.ev hi,asIntOf,eU hu,h.1,h.2,part,mK,run_sizeOf ht.size,hv]
end
end Go.Fx
namespace Go.Proofs.YtmmmfphealhapaaGreat
open Go Go.Fx
section
variable {X:List Nat} {w0:World} {M0 M1 M2:List Ent} {I0:List aL}
def zJ (x:Int):Prop:=(-9223372036854775808≤x∧x≤9223372036854775807)∧x.natAbs≤2 ^ 16
theorem aIV {b9 b10 m t:Nat} {x1 x2:List Int} {d1 d2:Int} {I:List aL} (h1:aI (some ⟨b9,0,none⟩) (recs eZ x1)∈I) (h2:aI (some ⟨b10,0,none⟩) (recs eZ x2)∈I) (l1:x1.length=m) (l2:x2.length=m) (hx1:∀z∈x1,zJ z) (hx2:∀z∈x2,zJ z) (hd1:zJ d1) (hd2:zJ d2) (ht:t < 2):
  ∃(bt:Nat) (xs:List Int) (d:Int),[Value.slice (some ⟨b9,0,none⟩) m m, .slice (some ⟨b10,0,none⟩) m m][t]?=some (.slice (some ⟨bt,0,none⟩) m m)∧aI (some ⟨bt,0,none⟩) (recs eZ xs)∈I∧xs.length=m∧(∀z∈xs,zJ z)∧(recs eZ [d1,d2])[0+(t:Int).toNat*1]?=some (Value.int .i64 d)∧zJ d∧[cz x1,cz x2].take (t+1)=[cz x1,cz x2].take t++[cz xs]∧[(d1:Rat),(d2:Rat)].take (t+1)=[(d1:Rat),(d2:Rat)].take t++[(d:Rat)]:=by
 rcases (show t=0∨t=1 by omega) with rfl|rfl
 ·exact ⟨b9,x1,d1,rfl,h1,l1,hx1,rfl,hd1,rfl,rfl⟩
 ·exact ⟨b10,x2,d2,rfl,h2,l2,hx2,rfl,hd2,rfl,rfl⟩
theorem aGK {kd:Nat} {q qs_:Option Addr} {l:List Q4} {smp:List Int} {n c ns cs_:Nat} (hk:kd≤2) (hl:l.length=n) (hn:n≤64) (hs:∀s∈l,s.near) (hsl:smp.length=ns) (hns:ns≤64) (hin:∀x∈smp,0≤x∧x < n) (hq:aI q (recs gX l)∈I0) (hqs:aI qs_ (recs eZ smp)∈I0):
  CD Tryz.prog 70 [.int .i64 (kd:Int), .slice q n c, .slice qs_ ns cs_] X w0 M0 I0 (fun v M I=>M0=M∧∃(A:MX) (b:RL),v= .tuple #[mv A,lv b]∧A.q=sP kd (bM l smp)∧b.q=zV kd (bM l smp)∧I=iN b 16::gI A 16::I0):=by
 refine aV (φ:=aI q (recs gX l)) (Hv.mem hq) (aV (φ:=aI qs_ (recs eZ smp)) (Hv.mem (List.mem_cons_of_mem _ hqs)) ?_)
 refine iC Tryz.func70 rfl Tryz.ntmps70 rfl ?_
 repeat refine aB ?_
 refine gZ 77 4 ?_
 refine gZ 70 1 ?_
 refine bG (φ:=aP [] 16) Hv.nilR ?_
 refine bG (φ:=dX [] 16) Hv.nilL ?_
 refine lX [0,1,22,23] rfl (fun k G M I=>∃(i:Nat) (rows:List RL) (bs:List RE) (qa qb:Option Addr) (ca cb:Nat),i≤ns∧k=ns - i∧rows.map RL.q=sP kd (bM l (smp.take i))∧qs bs=zV kd (bM l (smp.take i))∧G=[(8, .slice qa rows.length ca),(9, .slice qb bs.length cb),(24, .int .i64 i)]∧M= .row qa rows.length ca (recs eL rows) 70 1:: .row qb bs.length cb (recs eR bs) 77 4::M0∧I=dX rows 16::aP bs 16::aI qs_ (recs eZ smp)::aI q (recs gX l)::I0) (ns) (⟨0,[],[],none,none,0,0,by omega,rfl,rfl,rfl,rfl,rfl,rfl⟩) ?_
 rintro kk G M I ⟨i,rows,bs,qa,qb,ca,cb,hi,rfl,hrq,hbq,rfl,rfl,rfl⟩
 have hpl:(bM l (smp.take i)).length=i:=by rw [oC,List.length_take];omega
 have hlr:rows.length=2*i:=by have:=congrArg List.length hrq;rw [List.length_map,yA,hpl] at this;omega
 have hlb:bs.length=2*i:=by have:=congrArg List.length hbq;rw [show (qs bs).length=bs.length from List.length_map ..,wD,hpl] at this;omega
 by_cases hii:i < ns
 ·have hzm:=hin _ (bF (ms:=smp) (i:=(i:Int)) (by omega))
  have ht:bM l (smp.take (i+1))=bM l (smp.take i)++[gt l (gt smp (i:Int))]:=by rw [←wE,gtQ (by omega)];exact congrArg (bM l) (List.take_append_getElem (by omega)).symm
  obtain ⟨z,hz⟩:∃z,gt smp (i:Int)=z:=⟨_,rfl⟩
  rw [hz] at hzm ht
  have hmem:=bF (ms:=l) (i:=z) (by omega)
  obtain ⟨s,hss⟩:∃s,gt l z=s:=⟨_,rfl⟩
  rw [hss] at hmem ht
  obtain ⟨n1,n2,n3,n4⟩:=hs s hmem
  repeat refine aB ?_
  rw [hz]
  repeat refine aB ?_
  rw [hss]
  refine cK (fun b12=>?_)
  repeat refine aB ?_
  (repeat refine aG ?_);refine eO [0,1,2,3,4,5,6,7] [0,0,0,0,0,0,0,0] mixed (by kernel_rfl) ?_
  repeat refine aB ?_
  refine cK (fun b15=>?_)
  repeat refine aB ?_
  (refine aD rfl (fun _=>dM (vals:=[.int .i64 s.u, .int .i64 s.v]) (cells:=recs eZ [s.u,s.v]) rfl ?hpl rfl ?hz) rfl rfl ?_;(case hpl=>exact (by intro v hv;repeat (first|exact absurd hv (List.not_mem_nil)|(rcases List.mem_cons.1 hv with rfl|hv; · rfl))));(case hz=>rfl))
  refine cK (fun b16=>?_)
  repeat refine aB ?_
  rcases (show kd=0∨kd=1∨kd=2 by omega) with h0|h0|h0
  ·obtain rfl:kd=0:=by omega
   repeat refine aB ?_
   refine gK (cs:=recs eZ [1,0]) ([.int .i64 (1), .int .i64 (0)]) rfl (fun b9=>?_)
   refine aH .here ?_
   repeat refine aB ?_
   refine gK (cs:=recs eZ [0,1]) ([.int .i64 (0), .int .i64 (1)]) rfl (fun b10=>?_)
   refine aH .here ?_
   (refine aD rfl (fun _=>dM (vals:=[.slice (some ⟨b9,0,none⟩) 2 2, .slice (some ⟨b10,0,none⟩) 2 2]) (cells:=[.slice (some ⟨b9,0,none⟩) 2 2, .slice (some ⟨b10,0,none⟩) 2 2]) rfl ?hpl rfl ?hz) rfl rfl ?_;(case hpl=>exact (by intro v hv;repeat (first|exact absurd hv (List.not_mem_nil)|(rcases List.mem_cons.1 hv with rfl|hv; · rfl))));(case hz=>rfl))
   repeat refine aB ?_
   (refine aD rfl (fun _=>dM (vals:=[.int .i64 (s.u - s.x), .int .i64 (s.v - s.y)]) (cells:=recs eZ [s.u - s.x,s.v - s.y]) rfl ?hpl rfl ?hz) rfl rfl ?_;(case hpl=>exact (by intro v hv;repeat (first|exact absurd hv (List.not_mem_nil)|(rcases List.mem_cons.1 hv with rfl|hv; · rfl))));(case hz=>rfl))
   repeat refine aB ?_
   have hb1:∀z∈([1,0]:List Int),zJ z:=by unfold zJ;rw [e16];intro z hz;simp only [List.mem_cons,List.not_mem_nil,or_false] at hz;omega
   have hb2:∀z∈([0,1]:List Int),zJ z:=by unfold zJ;rw [e16];intro z hz;simp only [List.mem_cons,List.not_mem_nil,or_false] at hz;omega
   have hd1:zJ (s.u - s.x):=by unfold zJ;rw [e16];omega
   have hd2:zJ (s.v - s.y):=by unfold zJ;rw [e16];omega
   have hA2:sP 0 (bM l (smp.take (i+1)))=sP 0 (bM l (smp.take i))++[cz ([1,0]),cz ([0,1])]:=by rw [ht,uO];rfl
   have hB2:zV 0 (bM l (smp.take (i+1)))=zV 0 (bM l (smp.take i))++[((s.u - s.x:Int):Rat),((s.v - s.y:Int):Rat)]:=by rw [ht,uY];rfl
   obtain ⟨X1,hX1⟩:∃X1:List Int,X1=[1,0]:=⟨_,rfl⟩
   obtain ⟨X2,hX2⟩:∃X2:List Int,X2=[0,1]:=⟨_,rfl⟩
   obtain ⟨D1,hD1⟩:∃D1:Int,D1=s.u - s.x:=⟨_,rfl⟩
   obtain ⟨D2,hD2⟩:∃D2:Int,D2=s.v - s.y:=⟨_,rfl⟩
   have hl1:X1.length=2:=by rw [hX1];rfl
   have hl2:X2.length=2:=by rw [hX2];rfl
   rw [←hX1] at hb1 hA2
   rw [←hX2] at hb2 hA2
   rw [←hD1] at hd1 hB2
   rw [←hD2] at hd2 hB2
   rw [←hX1,←hX2,←hD1,←hD2]
   refine rJ (M':= .blk b16 (recs eZ [D1,D2]) 197:: .row qa rows.length ca (recs eL rows) 70 1:: .row qb bs.length cb (recs eR bs) 77 4::M0) (I':=aI (some ⟨b10,0,none⟩) (recs eZ X2)::aI (some ⟨b9,0,none⟩) (recs eZ X1)::dX rows 16::aP bs 16::aI qs_ (recs eZ smp)::aI q (recs gX l)::I0) aF aC ?_
   refine lX [0,1,16,22,23,24,79] rfl (fun k G M I=>∃(t:Nat) (rows1:List RL) (bs1:List RE) (qa1 qb1:Option Addr) (ca1 cb1:Nat),t≤2∧k=2 - t∧rows1.map RL.q=sP 0 (bM l (smp.take i))++[cz X1,cz X2].take t∧qs bs1=zV 0 (bM l (smp.take i))++[(D1:Rat),(D2:Rat)].take t∧G=[(8, .slice qa1 rows1.length ca1),(9, .slice qb1 bs1.length cb1),(80, .int .i64 t)]∧M= .blk b16 (recs eZ [D1,D2]) 197:: .row qa1 rows1.length ca1 (recs eL rows1) 70 1:: .row qb1 bs1.length cb1 (recs eR bs1) 77 4::M0∧I=dX rows1 16::aP bs1 16::aI (some ⟨b10,0,none⟩) (recs eZ X2)::aI (some ⟨b9,0,none⟩) (recs eZ X1)::aI qs_ (recs eZ smp)::aI q (recs gX l)::I0) (2) (⟨0,rows,bs,qa,qb,ca,cb,by omega,rfl,by rw [hrq];simp,by rw [hbq];simp,rfl,rfl,rfl⟩) ?_
   rintro kk G M I ⟨t,rows1,bs1,qa1,qb1,ca1,cb1,ht2,rfl,hrq1,hbq1,rfl,rfl,rfl⟩
   have hlr1:rows1.length=2*i+t:=by have:=congrArg List.length hrq1;rw [List.length_map,List.length_append,yA,hpl,List.length_take] at this;simp at this;omega
   have hlb1:bs1.length=2*i+t:=by have:=congrArg List.length hbq1;rw [show (qs bs1).length=bs1.length from List.length_map ..,List.length_append,wD,hpl,List.length_take] at this;simp at this;omega
   by_cases ht3:t < 2
   ·obtain ⟨bt,xs,d,hv,hf,hxl,hxb,hgd,hdb,hA3,hB3⟩:=aIV (I:=dX rows1 16::aP bs1 16::aI (some ⟨b10,0,none⟩) (recs eZ X2)::aI (some ⟨b9,0,none⟩) (recs eZ X1)::aI qs_ (recs eZ smp)::aI q (recs gX l)::I0) (b9:=b9) (b10:=b10) (by simp) (by simp) hl1 hl2 hb1 hb2 hd1 hd2 ht3
    refine bG (φ:=aI (some ⟨bt,0,none⟩) (recs eZ xs)) (Hv.mem hf) ?_
    have hWd:=fun M0 I0=>iT (X:=X) (w0:=w0) (M0:=M0) (I0:=I0) (x:=d) hdb.1 (k:=16) hdb.2
    repeat refine aB ?_
    (refine aD rfl (fun _=>wB (cs:=[.slice (some ⟨b9,0,none⟩) 2 2, .slice (some ⟨b10,0,none⟩) 2 2]) rfl rfl ⟨by omega,by show (t:Int) < ((2:Nat):Int);omega⟩ rfl hv) rfl rfl ?_)
    repeat refine aB ?_
    refine gZ 77 4 ?_
    refine bG (φ:=aP [] 16) Hv.nilR ?_
    refine lX [0,1,16,17,22,23,24,79,80,84,85] rfl (fun k G M I=>∃(j:Nat) (es:List RE) (qe:Option Addr) (ce:Nat),j≤2∧k=2 - j∧es.length=j∧qs es=cz (xs.take j)∧G=[(8, .slice qa1 rows1.length ca1),(9, .slice qb1 bs1.length cb1),(19, .slice qe es.length ce),(86, .int .i64 j)]∧M= .row qe es.length ce (recs eR es) 77 4:: .blk b16 (recs eZ [D1,D2]) 197:: .row qa1 rows1.length ca1 (recs eL rows1) 70 1:: .row qb1 bs1.length cb1 (recs eR bs1) 77 4::M0∧I=aP es 16::aI (some ⟨bt,0,none⟩) (recs eZ xs)::dX rows1 16::aP bs1 16::aI (some ⟨b10,0,none⟩) (recs eZ X2)::aI (some ⟨b9,0,none⟩) (recs eZ X1)::aI qs_ (recs eZ smp)::aI q (recs gX l)::I0) (2) (⟨0,[],none,0,by omega,rfl,rfl,rfl,rfl,rfl,rfl⟩) ?_
    rintro kk G M I ⟨j,es,qe,ce,hj,rfl,hel,heq,rfl,rfl,rfl⟩
    by_cases hjm:j < 2
    ·have hx:=hxb _ (bF (ms:=xs) (i:=(j:Int)) (by omega))
     obtain ⟨x,hxx⟩:∃x,gt xs (j:Int)=x:=⟨_,rfl⟩
     rw [hxx] at hx
     have hW:=fun M0 I0=>iT (X:=X) (w0:=w0) (M0:=M0) (I0:=I0) (x:=x) hx.1 (k:=16) hx.2
     have htx:xs.take (j+1)=xs.take j++[x]:=by rw [←hxx,fH (by omega)];exact (List.take_append_getElem (by omega)).symm
     repeat refine aB ?_
     rw [hxx]
     repeat refine aB ?_
     refine fK rfl (hW _ _) (fun e he=>?_)
     refine gK (cs:=recs eR [e]) ([rv e]) rfl (fun b=>?_)
     refine wM (ys:=[e]) 1 rfl rfl rfl (fun q2 c3=>?_)
     repeat refine aB ?_
     refine dF (φ:=aP (es++[e]) 16) (Hv.snoc aA aA) ?_
     refine gL (2 - (j+1)) (⟨j+1,es++[e],q2,c3,by omega,rfl,by simp [hel],?_,rfl,rfl,rfl⟩)
     rw [htx,aAA,←heq]
     show (es++[e]).map RE.q=qs es++[(x:Rat)]
     rw [List.map_append,←he]
     rfl
    ·obtain rfl:j=2:=by omega
     rw [←hxl,List.take_length] at heq
     repeat refine aB ?_
     refine aJT (k:=16) aA ?_
     (repeat refine aG ?_);refine nV 5 (.blk b16 (recs eZ [D1,D2]) 197::M0) (iN ⟨qe,ce,es⟩ 16::dX rows1 16::aP bs1 16::aI qs_ (recs eZ smp)::aI q (recs gX l)::I0) [0,1,4,5,6,7,2,3,8,9,10,11,12] [4,4,4,5,5,4,0,0,0,0,0,0,0] aF aC mixed (by kernel_rfl) ?_
     repeat refine aB ?_
     (apply gM (v:= .int .i64 d);exact eX;exact rfl;exact aA;exact At.mk hgd;exact rfl;exact rfl)
     repeat refine aB ?_
     refine gK (cs:=recs eL [⟨qe,ce,es⟩]) ([lv ⟨qe,ce,es⟩]) rfl (fun b17=>?_)
     refine wM (ys:=[⟨qe,ce,es⟩]) 2 rfl rfl rfl (fun qa2 ca2=>?_)
     refine fK rfl (hWd _ _) (fun e he=>?_)
     refine gK (cs:=recs eR [e]) ([rv e]) rfl (fun b18=>?_)
     refine wM (ys:=[e]) 4 rfl rfl rfl (fun qb2 cb2=>?_)
     repeat refine aB ?_
     refine dF (φ:=aP (bs1++[e]) 16) (Hv.snoc aA aA) ?_
     refine dF (φ:=dX (rows1++[(⟨qe,ce,es⟩:RL)]) 16) (Hv.snocL aA aA) ?_
     refine gL (2 - (t+1)) (⟨t+1,rows1++[(⟨qe,ce,es⟩:RL)],bs1++[e],qa2,qb2,ca2,cb2,by omega,rfl,by rw [hA3,List.map_append,hrq1,List.append_assoc];show _++(_++[qs es])=_;rw [heq],by rw [hB3];show (bs1++[e]).map RE.q=_;rw [List.map_append,show bs1.map RE.q=qs bs1 from rfl,hbq1,List.append_assoc];show _++(_++[e.q])=_;rw [he],rfl,rfl,rfl⟩)
   ·obtain rfl:t=2:=by omega
    repeat refine aB ?_
    refine gL (ns - (i+1)) (⟨i+1,rows1,bs1,qa1,qb1,ca1,cb1,by omega,rfl,by rw [hrq1,hA2];rfl,by rw [hbq1,hB2];rfl,rfl,rfl,rfl⟩)
  ·obtain rfl:kd=1:=by omega
   repeat refine aB ?_
   rw [Int.zero_sub]
   refine gK (cs:=recs eZ [s.x, -s.y,1,0]) ([.int .i64 (s.x), .int .i64 (-s.y), .int .i64 (1), .int .i64 (0)]) rfl (fun b9=>?_)
   refine aH .here ?_
   repeat refine aB ?_
   refine gK (cs:=recs eZ [s.y,s.x,0,1]) ([.int .i64 (s.y), .int .i64 (s.x), .int .i64 (0), .int .i64 (1)]) rfl (fun b10=>?_)
   refine aH .here ?_
   (refine aD rfl (fun _=>dM (vals:=[.slice (some ⟨b9,0,none⟩) 4 4, .slice (some ⟨b10,0,none⟩) 4 4]) (cells:=[.slice (some ⟨b9,0,none⟩) 4 4, .slice (some ⟨b10,0,none⟩) 4 4]) rfl ?hpl rfl ?hz) rfl rfl ?_;(case hpl=>exact (by intro v hv;repeat (first|exact absurd hv (List.not_mem_nil)|(rcases List.mem_cons.1 hv with rfl|hv; · rfl))));(case hz=>rfl))
   repeat refine aB ?_
   have hb1:∀z∈([s.x, -s.y,1,0]:List Int),zJ z:=by unfold zJ;rw [e16];intro z hz;simp only [List.mem_cons,List.not_mem_nil,or_false] at hz;omega
   have hb2:∀z∈([s.y,s.x,0,1]:List Int),zJ z:=by unfold zJ;rw [e16];intro z hz;simp only [List.mem_cons,List.not_mem_nil,or_false] at hz;omega
   have hd1:zJ (s.u):=by unfold zJ;rw [e16];omega
   have hd2:zJ (s.v):=by unfold zJ;rw [e16];omega
   have hA2:sP 1 (bM l (smp.take (i+1)))=sP 1 (bM l (smp.take i))++[cz ([s.x, -s.y,1,0]),cz ([s.y,s.x,0,1])]:=by rw [ht,uO];rfl
   have hB2:zV 1 (bM l (smp.take (i+1)))=zV 1 (bM l (smp.take i))++[((s.u:Int):Rat),((s.v:Int):Rat)]:=by rw [ht,uY];rfl
   obtain ⟨X1,hX1⟩:∃X1:List Int,X1=[s.x, -s.y,1,0]:=⟨_,rfl⟩
   obtain ⟨X2,hX2⟩:∃X2:List Int,X2=[s.y,s.x,0,1]:=⟨_,rfl⟩
   obtain ⟨D1,hD1⟩:∃D1:Int,D1=s.u:=⟨_,rfl⟩
   obtain ⟨D2,hD2⟩:∃D2:Int,D2=s.v:=⟨_,rfl⟩
   have hl1:X1.length=4:=by rw [hX1];rfl
   have hl2:X2.length=4:=by rw [hX2];rfl
   rw [←hX1] at hb1 hA2
   rw [←hX2] at hb2 hA2
   rw [←hD1] at hd1 hB2
   rw [←hD2] at hd2 hB2
   rw [←hX1,←hX2,←hD1,←hD2]
   refine rJ (M':= .blk b16 (recs eZ [D1,D2]) 197:: .row qa rows.length ca (recs eL rows) 70 1:: .row qb bs.length cb (recs eR bs) 77 4::M0) (I':=aI (some ⟨b10,0,none⟩) (recs eZ X2)::aI (some ⟨b9,0,none⟩) (recs eZ X1)::dX rows 16::aP bs 16::aI qs_ (recs eZ smp)::aI q (recs gX l)::I0) aF aC ?_
   refine lX [0,1,16,22,23,24,79] rfl (fun k G M I=>∃(t:Nat) (rows1:List RL) (bs1:List RE) (qa1 qb1:Option Addr) (ca1 cb1:Nat),t≤2∧k=2 - t∧rows1.map RL.q=sP 1 (bM l (smp.take i))++[cz X1,cz X2].take t∧qs bs1=zV 1 (bM l (smp.take i))++[(D1:Rat),(D2:Rat)].take t∧G=[(8, .slice qa1 rows1.length ca1),(9, .slice qb1 bs1.length cb1),(80, .int .i64 t)]∧M= .blk b16 (recs eZ [D1,D2]) 197:: .row qa1 rows1.length ca1 (recs eL rows1) 70 1:: .row qb1 bs1.length cb1 (recs eR bs1) 77 4::M0∧I=dX rows1 16::aP bs1 16::aI (some ⟨b10,0,none⟩) (recs eZ X2)::aI (some ⟨b9,0,none⟩) (recs eZ X1)::aI qs_ (recs eZ smp)::aI q (recs gX l)::I0) (2) (⟨0,rows,bs,qa,qb,ca,cb,by omega,rfl,by rw [hrq];simp,by rw [hbq];simp,rfl,rfl,rfl⟩) ?_
   rintro kk G M I ⟨t,rows1,bs1,qa1,qb1,ca1,cb1,ht2,rfl,hrq1,hbq1,rfl,rfl,rfl⟩
   have hlr1:rows1.length=2*i+t:=by have:=congrArg List.length hrq1;rw [List.length_map,List.length_append,yA,hpl,List.length_take] at this;simp at this;omega
   have hlb1:bs1.length=2*i+t:=by have:=congrArg List.length hbq1;rw [show (qs bs1).length=bs1.length from List.length_map ..,List.length_append,wD,hpl,List.length_take] at this;simp at this;omega
   by_cases ht3:t < 2
   ·obtain ⟨bt,xs,d,hv,hf,hxl,hxb,hgd,hdb,hA3,hB3⟩:=aIV (I:=dX rows1 16::aP bs1 16::aI (some ⟨b10,0,none⟩) (recs eZ X2)::aI (some ⟨b9,0,none⟩) (recs eZ X1)::aI qs_ (recs eZ smp)::aI q (recs gX l)::I0) (b9:=b9) (b10:=b10) (by simp) (by simp) hl1 hl2 hb1 hb2 hd1 hd2 ht3
    refine bG (φ:=aI (some ⟨bt,0,none⟩) (recs eZ xs)) (Hv.mem hf) ?_
    have hWd:=fun M0 I0=>iT (X:=X) (w0:=w0) (M0:=M0) (I0:=I0) (x:=d) hdb.1 (k:=16) hdb.2
    repeat refine aB ?_
    (refine aD rfl (fun _=>wB (cs:=[.slice (some ⟨b9,0,none⟩) 4 4, .slice (some ⟨b10,0,none⟩) 4 4]) rfl rfl ⟨by omega,by show (t:Int) < ((2:Nat):Int);omega⟩ rfl hv) rfl rfl ?_)
    repeat refine aB ?_
    refine gZ 77 4 ?_
    refine bG (φ:=aP [] 16) Hv.nilR ?_
    refine lX [0,1,16,17,22,23,24,79,80,84,85] rfl (fun k G M I=>∃(j:Nat) (es:List RE) (qe:Option Addr) (ce:Nat),j≤4∧k=4 - j∧es.length=j∧qs es=cz (xs.take j)∧G=[(8, .slice qa1 rows1.length ca1),(9, .slice qb1 bs1.length cb1),(19, .slice qe es.length ce),(86, .int .i64 j)]∧M= .row qe es.length ce (recs eR es) 77 4:: .blk b16 (recs eZ [D1,D2]) 197:: .row qa1 rows1.length ca1 (recs eL rows1) 70 1:: .row qb1 bs1.length cb1 (recs eR bs1) 77 4::M0∧I=aP es 16::aI (some ⟨bt,0,none⟩) (recs eZ xs)::dX rows1 16::aP bs1 16::aI (some ⟨b10,0,none⟩) (recs eZ X2)::aI (some ⟨b9,0,none⟩) (recs eZ X1)::aI qs_ (recs eZ smp)::aI q (recs gX l)::I0) (4) (⟨0,[],none,0,by omega,rfl,rfl,rfl,rfl,rfl,rfl⟩) ?_
    rintro kk G M I ⟨j,es,qe,ce,hj,rfl,hel,heq,rfl,rfl,rfl⟩
    by_cases hjm:j < 4
    ·have hx:=hxb _ (bF (ms:=xs) (i:=(j:Int)) (by omega))
     obtain ⟨x,hxx⟩:∃x,gt xs (j:Int)=x:=⟨_,rfl⟩
     rw [hxx] at hx
     have hW:=fun M0 I0=>iT (X:=X) (w0:=w0) (M0:=M0) (I0:=I0) (x:=x) hx.1 (k:=16) hx.2
     have htx:xs.take (j+1)=xs.take j++[x]:=by rw [←hxx,fH (by omega)];exact (List.take_append_getElem (by omega)).symm
     repeat refine aB ?_
     rw [hxx]
     repeat refine aB ?_
     refine fK rfl (hW _ _) (fun e he=>?_)
     refine gK (cs:=recs eR [e]) ([rv e]) rfl (fun b=>?_)
     refine wM (ys:=[e]) 1 rfl rfl rfl (fun q2 c3=>?_)
     repeat refine aB ?_
     refine dF (φ:=aP (es++[e]) 16) (Hv.snoc aA aA) ?_
     refine gL (4 - (j+1)) (⟨j+1,es++[e],q2,c3,by omega,rfl,by simp [hel],?_,rfl,rfl,rfl⟩)
     rw [htx,aAA,←heq]
     show (es++[e]).map RE.q=qs es++[(x:Rat)]
     rw [List.map_append,←he]
     rfl
    ·obtain rfl:j=4:=by omega
     rw [←hxl,List.take_length] at heq
     repeat refine aB ?_
     refine aJT (k:=16) aA ?_
     (repeat refine aG ?_);refine nV 5 (.blk b16 (recs eZ [D1,D2]) 197::M0) (iN ⟨qe,ce,es⟩ 16::dX rows1 16::aP bs1 16::aI qs_ (recs eZ smp)::aI q (recs gX l)::I0) [0,1,4,5,6,7,2,3,8,9,10,11,12] [4,4,4,5,5,4,0,0,0,0,0,0,0] aF aC mixed (by kernel_rfl) ?_
     repeat refine aB ?_
     (apply gM (v:= .int .i64 d);exact eX;exact rfl;exact aA;exact At.mk hgd;exact rfl;exact rfl)
     repeat refine aB ?_
     refine gK (cs:=recs eL [⟨qe,ce,es⟩]) ([lv ⟨qe,ce,es⟩]) rfl (fun b17=>?_)
     refine wM (ys:=[⟨qe,ce,es⟩]) 2 rfl rfl rfl (fun qa2 ca2=>?_)
     refine fK rfl (hWd _ _) (fun e he=>?_)
     refine gK (cs:=recs eR [e]) ([rv e]) rfl (fun b18=>?_)
     refine wM (ys:=[e]) 4 rfl rfl rfl (fun qb2 cb2=>?_)
     repeat refine aB ?_
     refine dF (φ:=aP (bs1++[e]) 16) (Hv.snoc aA aA) ?_
     refine dF (φ:=dX (rows1++[(⟨qe,ce,es⟩:RL)]) 16) (Hv.snocL aA aA) ?_
     refine gL (2 - (t+1)) (⟨t+1,rows1++[(⟨qe,ce,es⟩:RL)],bs1++[e],qa2,qb2,ca2,cb2,by omega,rfl,by rw [hA3,List.map_append,hrq1,List.append_assoc];show _++(_++[qs es])=_;rw [heq],by rw [hB3];show (bs1++[e]).map RE.q=_;rw [List.map_append,show bs1.map RE.q=qs bs1 from rfl,hbq1,List.append_assoc];show _++(_++[e.q])=_;rw [he],rfl,rfl,rfl⟩)
   ·obtain rfl:t=2:=by omega
    repeat refine aB ?_
    refine gL (ns - (i+1)) (⟨i+1,rows1,bs1,qa1,qb1,ca1,cb1,by omega,rfl,by rw [hrq1,hA2];rfl,by rw [hbq1,hB2];rfl,rfl,rfl,rfl⟩)
  ·obtain rfl:kd=2:=by omega
   repeat refine aB ?_
   refine gK (cs:=recs eZ [s.x,s.y,1,0,0,0]) ([.int .i64 (s.x), .int .i64 (s.y), .int .i64 (1), .int .i64 (0), .int .i64 (0), .int .i64 (0)]) rfl (fun b9=>?_)
   refine aH .here ?_
   repeat refine aB ?_
   refine gK (cs:=recs eZ [0,0,0,s.x,s.y,1]) ([.int .i64 (0), .int .i64 (0), .int .i64 (0), .int .i64 (s.x), .int .i64 (s.y), .int .i64 (1)]) rfl (fun b10=>?_)
   refine aH .here ?_
   (refine aD rfl (fun _=>dM (vals:=[.slice (some ⟨b9,0,none⟩) 6 6, .slice (some ⟨b10,0,none⟩) 6 6]) (cells:=[.slice (some ⟨b9,0,none⟩) 6 6, .slice (some ⟨b10,0,none⟩) 6 6]) rfl ?hpl rfl ?hz) rfl rfl ?_;(case hpl=>exact (by intro v hv;repeat (first|exact absurd hv (List.not_mem_nil)|(rcases List.mem_cons.1 hv with rfl|hv; · rfl))));(case hz=>rfl))
   repeat refine aB ?_
   have hb1:∀z∈([s.x,s.y,1,0,0,0]:List Int),zJ z:=by unfold zJ;rw [e16];intro z hz;simp only [List.mem_cons,List.not_mem_nil,or_false] at hz;omega
   have hb2:∀z∈([0,0,0,s.x,s.y,1]:List Int),zJ z:=by unfold zJ;rw [e16];intro z hz;simp only [List.mem_cons,List.not_mem_nil,or_false] at hz;omega
   have hd1:zJ (s.u):=by unfold zJ;rw [e16];omega
   have hd2:zJ (s.v):=by unfold zJ;rw [e16];omega
   have hA2:sP 2 (bM l (smp.take (i+1)))=sP 2 (bM l (smp.take i))++[cz ([s.x,s.y,1,0,0,0]),cz ([0,0,0,s.x,s.y,1])]:=by rw [ht,uO];rfl
   have hB2:zV 2 (bM l (smp.take (i+1)))=zV 2 (bM l (smp.take i))++[((s.u:Int):Rat),((s.v:Int):Rat)]:=by rw [ht,uY];rfl
   obtain ⟨X1,hX1⟩:∃X1:List Int,X1=[s.x,s.y,1,0,0,0]:=⟨_,rfl⟩
   obtain ⟨X2,hX2⟩:∃X2:List Int,X2=[0,0,0,s.x,s.y,1]:=⟨_,rfl⟩
   obtain ⟨D1,hD1⟩:∃D1:Int,D1=s.u:=⟨_,rfl⟩
   obtain ⟨D2,hD2⟩:∃D2:Int,D2=s.v:=⟨_,rfl⟩
   have hl1:X1.length=6:=by rw [hX1];rfl
   have hl2:X2.length=6:=by rw [hX2];rfl
   rw [←hX1] at hb1 hA2
   rw [←hX2] at hb2 hA2
   rw [←hD1] at hd1 hB2
   rw [←hD2] at hd2 hB2
   rw [←hX1,←hX2,←hD1,←hD2]
   refine rJ (M':= .blk b16 (recs eZ [D1,D2]) 197:: .row qa rows.length ca (recs eL rows) 70 1:: .row qb bs.length cb (recs eR bs) 77 4::M0) (I':=aI (some ⟨b10,0,none⟩) (recs eZ X2)::aI (some ⟨b9,0,none⟩) (recs eZ X1)::dX rows 16::aP bs 16::aI qs_ (recs eZ smp)::aI q (recs gX l)::I0) aF aC ?_
   refine lX [0,1,16,22,23,24,79] rfl (fun k G M I=>∃(t:Nat) (rows1:List RL) (bs1:List RE) (qa1 qb1:Option Addr) (ca1 cb1:Nat),t≤2∧k=2 - t∧rows1.map RL.q=sP 2 (bM l (smp.take i))++[cz X1,cz X2].take t∧qs bs1=zV 2 (bM l (smp.take i))++[(D1:Rat),(D2:Rat)].take t∧G=[(8, .slice qa1 rows1.length ca1),(9, .slice qb1 bs1.length cb1),(80, .int .i64 t)]∧M= .blk b16 (recs eZ [D1,D2]) 197:: .row qa1 rows1.length ca1 (recs eL rows1) 70 1:: .row qb1 bs1.length cb1 (recs eR bs1) 77 4::M0∧I=dX rows1 16::aP bs1 16::aI (some ⟨b10,0,none⟩) (recs eZ X2)::aI (some ⟨b9,0,none⟩) (recs eZ X1)::aI qs_ (recs eZ smp)::aI q (recs gX l)::I0) (2) (⟨0,rows,bs,qa,qb,ca,cb,by omega,rfl,by rw [hrq];simp,by rw [hbq];simp,rfl,rfl,rfl⟩) ?_
   rintro kk G M I ⟨t,rows1,bs1,qa1,qb1,ca1,cb1,ht2,rfl,hrq1,hbq1,rfl,rfl,rfl⟩
   have hlr1:rows1.length=2*i+t:=by have:=congrArg List.length hrq1;rw [List.length_map,List.length_append,yA,hpl,List.length_take] at this;simp at this;omega
   have hlb1:bs1.length=2*i+t:=by have:=congrArg List.length hbq1;rw [show (qs bs1).length=bs1.length from List.length_map ..,List.length_append,wD,hpl,List.length_take] at this;simp at this;omega
   by_cases ht3:t < 2
   ·obtain ⟨bt,xs,d,hv,hf,hxl,hxb,hgd,hdb,hA3,hB3⟩:=aIV (I:=dX rows1 16::aP bs1 16::aI (some ⟨b10,0,none⟩) (recs eZ X2)::aI (some ⟨b9,0,none⟩) (recs eZ X1)::aI qs_ (recs eZ smp)::aI q (recs gX l)::I0) (b9:=b9) (b10:=b10) (by simp) (by simp) hl1 hl2 hb1 hb2 hd1 hd2 ht3
    refine bG (φ:=aI (some ⟨bt,0,none⟩) (recs eZ xs)) (Hv.mem hf) ?_
    have hWd:=fun M0 I0=>iT (X:=X) (w0:=w0) (M0:=M0) (I0:=I0) (x:=d) hdb.1 (k:=16) hdb.2
    repeat refine aB ?_
    (refine aD rfl (fun _=>wB (cs:=[.slice (some ⟨b9,0,none⟩) 6 6, .slice (some ⟨b10,0,none⟩) 6 6]) rfl rfl ⟨by omega,by show (t:Int) < ((2:Nat):Int);omega⟩ rfl hv) rfl rfl ?_)
    repeat refine aB ?_
    refine gZ 77 4 ?_
    refine bG (φ:=aP [] 16) Hv.nilR ?_
    refine lX [0,1,16,17,22,23,24,79,80,84,85] rfl (fun k G M I=>∃(j:Nat) (es:List RE) (qe:Option Addr) (ce:Nat),j≤6∧k=6 - j∧es.length=j∧qs es=cz (xs.take j)∧G=[(8, .slice qa1 rows1.length ca1),(9, .slice qb1 bs1.length cb1),(19, .slice qe es.length ce),(86, .int .i64 j)]∧M= .row qe es.length ce (recs eR es) 77 4:: .blk b16 (recs eZ [D1,D2]) 197:: .row qa1 rows1.length ca1 (recs eL rows1) 70 1:: .row qb1 bs1.length cb1 (recs eR bs1) 77 4::M0∧I=aP es 16::aI (some ⟨bt,0,none⟩) (recs eZ xs)::dX rows1 16::aP bs1 16::aI (some ⟨b10,0,none⟩) (recs eZ X2)::aI (some ⟨b9,0,none⟩) (recs eZ X1)::aI qs_ (recs eZ smp)::aI q (recs gX l)::I0) (6) (⟨0,[],none,0,by omega,rfl,rfl,rfl,rfl,rfl,rfl⟩) ?_
    rintro kk G M I ⟨j,es,qe,ce,hj,rfl,hel,heq,rfl,rfl,rfl⟩
    by_cases hjm:j < 6
    ·have hx:=hxb _ (bF (ms:=xs) (i:=(j:Int)) (by omega))
     obtain ⟨x,hxx⟩:∃x,gt xs (j:Int)=x:=⟨_,rfl⟩
     rw [hxx] at hx
     have hW:=fun M0 I0=>iT (X:=X) (w0:=w0) (M0:=M0) (I0:=I0) (x:=x) hx.1 (k:=16) hx.2
     have htx:xs.take (j+1)=xs.take j++[x]:=by rw [←hxx,fH (by omega)];exact (List.take_append_getElem (by omega)).symm
     repeat refine aB ?_
     rw [hxx]
     repeat refine aB ?_
     refine fK rfl (hW _ _) (fun e he=>?_)
     refine gK (cs:=recs eR [e]) ([rv e]) rfl (fun b=>?_)
     refine wM (ys:=[e]) 1 rfl rfl rfl (fun q2 c3=>?_)
     repeat refine aB ?_
     refine dF (φ:=aP (es++[e]) 16) (Hv.snoc aA aA) ?_
     refine gL (6 - (j+1)) (⟨j+1,es++[e],q2,c3,by omega,rfl,by simp [hel],?_,rfl,rfl,rfl⟩)
     rw [htx,aAA,←heq]
     show (es++[e]).map RE.q=qs es++[(x:Rat)]
     rw [List.map_append,←he]
     rfl
    ·obtain rfl:j=6:=by omega
     rw [←hxl,List.take_length] at heq
     repeat refine aB ?_
     refine aJT (k:=16) aA ?_
     (repeat refine aG ?_);refine nV 5 (.blk b16 (recs eZ [D1,D2]) 197::M0) (iN ⟨qe,ce,es⟩ 16::dX rows1 16::aP bs1 16::aI qs_ (recs eZ smp)::aI q (recs gX l)::I0) [0,1,4,5,6,7,2,3,8,9,10,11,12] [4,4,4,5,5,4,0,0,0,0,0,0,0] aF aC mixed (by kernel_rfl) ?_
     repeat refine aB ?_
     (apply gM (v:= .int .i64 d);exact eX;exact rfl;exact aA;exact At.mk hgd;exact rfl;exact rfl)
     repeat refine aB ?_
     refine gK (cs:=recs eL [⟨qe,ce,es⟩]) ([lv ⟨qe,ce,es⟩]) rfl (fun b17=>?_)
     refine wM (ys:=[⟨qe,ce,es⟩]) 2 rfl rfl rfl (fun qa2 ca2=>?_)
     refine fK rfl (hWd _ _) (fun e he=>?_)
     refine gK (cs:=recs eR [e]) ([rv e]) rfl (fun b18=>?_)
     refine wM (ys:=[e]) 4 rfl rfl rfl (fun qb2 cb2=>?_)
     repeat refine aB ?_
     refine dF (φ:=aP (bs1++[e]) 16) (Hv.snoc aA aA) ?_
     refine dF (φ:=dX (rows1++[(⟨qe,ce,es⟩:RL)]) 16) (Hv.snocL aA aA) ?_
     refine gL (2 - (t+1)) (⟨t+1,rows1++[(⟨qe,ce,es⟩:RL)],bs1++[e],qa2,qb2,ca2,cb2,by omega,rfl,by rw [hA3,List.map_append,hrq1,List.append_assoc];show _++(_++[qs es])=_;rw [heq],by rw [hB3];show (bs1++[e]).map RE.q=_;rw [List.map_append,show bs1.map RE.q=qs bs1 from rfl,hbq1,List.append_assoc];show _++(_++[e.q])=_;rw [he],rfl,rfl,rfl⟩)
   ·obtain rfl:t=2:=by omega
    repeat refine aB ?_
    refine gL (ns - (i+1)) (⟨i+1,rows1,bs1,qa1,qb1,ca1,cb1,by omega,rfl,by rw [hrq1,hA2];rfl,by rw [hbq1,hB2];rfl,rfl,rfl,rfl⟩)
 ·obtain rfl:i=ns:=by omega
  rw [←hsl,List.take_length] at hrq hbq
  repeat refine aB ?_
  refine aFF (k:=16) aA ?_
  refine aEK (k:=16) aA ?_
  refine tyS [6,7] rfl rfl (⟨rfl,⟨qa,ca,rows⟩,⟨qb,cb,bs⟩,rfl,hrq,hbq,rfl⟩)
end
def NlR (A:Mt) (C k:Nat) (M0:List Ent) (I0:List aL) (v:Value) (M:List Ent) (I:List aL):Prop:=
 M0=M∧∃m:MX,v=mv m∧m.q=yL A C∧(∀r∈m.rows,r.es.length=C)∧I=gI m k::I0
theorem Hv.allS1 {I:List aL} {r:MS} {k:Nat} (h:iG [r] k∈I):Hv I (aP r.es k):=⟨fun X w hw=>⟨(hw _ h:AllS [r] k X w).go r List.mem_cons_self⟩⟩
section
variable {X:List Nat} {w0:World} {M:List Ent} {I:List aL}
theorem Mem.blkT {w:World} {b k c:Nat} {es:List RE} {tl:List Value} {ty:TypeId} (hc:es.length≤c) (h:Mem X w0 (.blk b (recs eR es++tl) ty::M) I w) (ha:aP es k∈I):Mem X w0 M (iN ⟨some ⟨b,0,none⟩,c,es⟩ k::I) w:=by
 have h1:=h.freezeB .here
 refine (h1.add (φ:=iN ⟨some ⟨b,0,none⟩,c,es⟩ k) ⟨aNV (h1.sl (List.Mem.head _)),(((h1.imm _ (List.Mem.tail _ ha)).2:AllR es k _ w)).go,⟨hc, .inl (Ok.mk _ _)⟩⟩).inc (.of fun φ hφ=>?_)
 rcases List.mem_cons.1 hφ with rfl|hφ
 ·exact List.Mem.head _
 ·exact List.Mem.tail _ (List.Mem.tail _ hφ)
variable {P:Program} {n:Nat} {Q:Exit→Act→World→Prop} {G:Env}
theorem aZV {cd:Code} {b k c:Nat} {es:List RE} {tl:List Value} {ty:TypeId} (hc:es.length≤c) (ha:aP es k∈I) (h:TD P n cd Q G X w0 M (iN ⟨some ⟨b,0,none⟩,c,es⟩ k::I)):TD P n cd Q G X w0 (.blk b (recs eR es++tl) ty::M) I:=aEO (fun _ hw=>Mem.blkT hc hw ha) h
end
section
variable {X:List Nat} {w0:World} {M0:List Ent} {I0:List aL}
theorem aRI {p:Option Addr} {l:List Int} {t c:Nat} {x:Int} (hl:l.length=t) (ht:t≤100000) (hp:aI p (recs (eI .i64) l)∈I0):
  CD Tryz.prog 145 [.slice p t c, .int .i64 x] X w0 M0 I0 (fun v M I=>M0=M∧I0=I∧v= .bool (B (x∈l))):=by
 refine aM Tryz.func145 rfl Tryz.ntmps145 rfl ?_
 repeat (refine aB ?_)
 refine bX [0,1] rfl (fun k G M I=>∃i:Nat,i≤t∧k=t - i∧(∀j:Nat,j < i→gt l j≠x)∧G=[(5, .int .i64 i)]∧M0=M∧I0=I) (t) _ _ _ dB aF aC (⟨0,by omega,rfl,fun j hj=>by omega,rfl,rfl,rfl⟩) ?_
 rintro kk G M I ⟨i,hi,rfl,hs,rfl,rfl,rfl⟩
 by_cases h:i < t
 ·by_cases he:gt l i=x
  ·repeat (refine aB ?_)
   refine aU (by first|exact .inl rfl|exact .inr rfl) rfl rfl _ _ aF aC (⟨rfl,rfl,congrArg Value.bool (bK (by rw [←he];exact bF (by omega))).symm⟩)
  ·repeat (refine aB ?_)
   refine cO (t - (i+1)) _ _ _ (by first|omega|(simp only [List.length_append,List.length_cons,List.length_nil];omega)) dB aF aC (⟨i+1,by omega,rfl,fun j hj=>?_,rfl,rfl,rfl⟩)
   by_cases e:j=i
   ·subst e;exact he
   ·exact hs j (by omega)
 ·repeat (refine aB ?_)
  refine aU (by first|exact .inl rfl|exact .inr rfl) rfl rfl _ _ aF aC (⟨rfl,rfl,congrArg Value.bool (bH (fun h=>by {obtain ⟨j,hj,e⟩:=List.mem_iff_getElem.1 h;exact absurd (by rw [fH hj];exact e) (hs j (by omega))})).symm⟩)
end
theorem Hv.app2 {I:List aL} {a b:List RE} {k:Nat} (h1:aP a k∈I) (h2:aP b k∈I):Hv I (aP (a++b) k):=⟨fun X w hw=>⟨fun e he=>by
 rcases List.mem_append.1 he with h|h
 ·exact (hw _ h1:AllR a k X w).go e h
 ·exact (hw _ h2:AllR b k X w).go e h⟩⟩
theorem Hv.xrow1 {I:List aL} {m:MX} {k:Nat} {i:Int} (h:gI m k∈I) (hi:0≤i∧i < m.rows.length):Hv I (aP (gt m.rows i).es k):=⟨fun X w hw=>⟨((hw _ h:IsX m k X w).row _ (bF hi)).el⟩⟩
theorem aQK {α:Type} [Inhabited α] {a b:List α} {j:Nat} (h:j < a.length):gt (a++b) (j:Int)=gt a (j:Int):=by
 rw [dP (by rw [List.length_append];omega),List.getElem_append_left h];exact (dP h).symm
theorem bBR {α:Type} [Inhabited α] {a b:List α} {j:Nat} (h:a.length≤j) (h2:j < a.length+b.length):gt (a++b) (j:Int)=gt b ((j - a.length:Nat):Int):=by
 rw [dP (by rw [List.length_append];omega),List.getElem_append_right h];exact (dP (by omega)).symm
def besM (R C D:Nat) (A B:Mt):Mt:=xE R (C+D) (fun i j=>if j < C then at2 A i j else at2 B i (j - C))
theorem bAF {C:Nat} {A:Mt} {b x:List Rat} (hx:x=b):besM C C 1 A (xE C 1 (fun i _=>x.getD i 0))=uM C C A b:=by
 subst hx
 unfold besM uM
 refine xV (fun i j hi hj=>?_)
 by_cases e:j < C
 ·rw [if_pos e,if_pos e]
 ·rw [if_neg e,if_neg e,qY hi (by omega)]
theorem bEA {C:Nat} {A:Mt} {b:List Rat} (h:dt C (at2 A)≠0):∃(E:Mt) (pv:List Nat),eQ (uM C C A b) (C+1)=(E,pv)∧eQ (uM C C A b) C=(E,pv)∧pv.length=C∧∀t,t < C→pv.getD t 0 < C:=by
 obtain ⟨hdE,s,hr⟩:=iQ (A:=uM C C A b) (R:=C) (C:=C+1) aSF C (by omega)
 obtain ⟨E,pv,he⟩:∃E pv,eQ (uM C C A b) C=(E,pv):=⟨_,_,rfl⟩
 rw [he] at hr hdE
 have hl:pv.length=C:=by
  rw [hr.iff (by omega),jS (g:=at2 A) (fun i j hi hj=>aJP hi hj)]
  exact h
 exact ⟨E,pv,aBM he hdE.1 hl 1,he,hl,fun t ht=>hr.piv_lt (by show t < pv.length;omega)⟩
def SolR (l:List Rat) (k:Nat) (M0:List Ent) (I0:List aL) (v:Value) (M:List Ent) (I:List aL):Prop:=M0=M∧∃r:RL,v= .tuple #[lv r, .bool true]∧r.q=l∧I=iN r k::I0
section
variable {X:List Nat} {w0:World} {M0:List Ent} {I0:List aL}
theorem aOQ {a b:MX} {R C D u:Nat} (hR:1≤R∧R≤64) (hC:1≤C∧C≤64) (hD:1≤D∧D≤64) (da:a.dim R C) (db:b.dim R D) (ha:gI a u∈I0) (hb:gI b u∈I0):
  CD Tryz.prog 143 [mv a,mv b] X w0 M0 I0 (XQ (besM R C D a.q b.q) R (C+D) u M0 I0):=by
 have hl:=da.1
 have hl2:=db.1
 refine uW (φ:=(∀r∈a.rows,Cap r.p r.es.length r.c)∧∀r∈b.rows,Cap r.p r.es.length r.c) (fun w hw=>⟨fun r hr=>((((hw.imm _ ha).2:IsX a u _ w)).row r hr).cap,fun r hr=>((((hw.imm _ hb).2:IsX b u _ w)).row r hr).cap⟩) (fun hcap=>?_)
 refine aV (φ:=aI (a).p (recs eL (a).rows)) (Hv.xsl aA) ?_
 refine aV (φ:=aI (b).p (recs eL (b).rows)) (Hv.xsl aA) ?_
 refine aM Tryz.func143 rfl Tryz.ntmps143 rfl ?_
 repeat refine aB ?_
 (refine gK (cs:=recs eL []) ([]) rfl (fun bo=>?_);refine fM (mm:=0) 1 .here rfl (by omega) ?_)
 repeat refine aB ?_
 refine bG (φ:=dX [] u) Hv.nilL ?_
 refine bX [0,1] rfl (fun k G M I=>∃(i:Nat) (rows:List RL) (q:Option Addr) (c:Nat),i≤R∧k=R - i∧rows.length=i∧(∀r∈rows,r.es.length=C+D)∧(∀t,t < i→(gt rows (t:Int)).es=(gt a.rows (t:Int)).es++(gt b.rows (t:Int)).es)∧G=[(5, .slice q rows.length c),(6, .int .i64 i)]∧M= .row q rows.length c (recs eL rows) 70 1::M0∧I=dX rows u::aI b.p (recs eL b.rows)::aI a.p (recs eL a.rows)::I0) (R) _ _ _ dB aF aC (⟨0,[],_,_,by omega,rfl,rfl,fun r hr=>by simp at hr,fun t ht=>by omega,rfl,rfl,rfl⟩) ?_
 rintro kk G M I ⟨i,rows,q,c,hi,rfl,hrl,hrc,hre,rfl,rfl,rfl⟩
 by_cases hiR:i < R
 ·have hra:=da.row hiR
  have hrb:=db.row hiR
  have hcpa:=(hcap.1 _ (bF (ms:=a.rows) (i:=(i:Int)) (by omega))).2
  have hcpb:=(hcap.2 _ (bF (ms:=b.rows) (i:=(i:Int)) (by omega))).2
  refine bG (φ:=aI (gt (a).rows (i:Int)).p (recs eR (gt (a).rows (i:Int)).es)) (Hv.xrsl aA (by omega)) ?_
  refine bG (φ:=aI (gt (b).rows (i:Int)).p (recs eR (gt (b).rows (i:Int)).es)) (Hv.xrsl aA (by omega)) ?_
  refine bG (φ:=aP (gt a.rows (i:Int)).es u) (Hv.xrow1 (m:=a) aA (by omega)) ?_
  refine bG (φ:=aP (gt b.rows (i:Int)).es u) (Hv.xrow1 (m:=b) aA (by omega)) ?_
  refine bG (φ:=aP ((gt a.rows (i:Int)).es++(gt b.rows (i:Int)).es) u) (Hv.app2 aA aA) ?_
  repeat refine aB ?_
  (repeat refine aG ?_);refine pW (M0) (aP ((gt a.rows (i:Int)).es++(gt b.rows (i:Int)).es) u::aP (gt b.rows (i:Int)).es u::aP (gt a.rows (i:Int)).es u::aI (gt b.rows (i:Int)).p (recs eR (gt b.rows (i:Int)).es)::aI (gt a.rows (i:Int)).p (recs eR (gt a.rows (i:Int)).es)::dX rows u::aI b.p (recs eL b.rows)::aI a.p (recs eL a.rows)::I0) [0,2,3,4,5,7,8,9,10,1,6,11,12,13,14] [4,5,5,5,4,5,5,5,4,0,0,0,0,0,0] mixed ?_
  repeat refine aB ?_
  (refine gK (cs:=recs eR []) ([]) rfl (fun bl=>?_);refine fM (mm:=0) 4 .here rfl (by omega) ?_)
  repeat refine aB ?_
  (refine iB (enc:=eR) (xs:=[]) (ys:=(gt a.rows (i:Int)).es) 0 rfl rfl rfl (Src.imm aA hcpa) (by decide) rfl (by rw [List.length_nil];omega) (by rw [List.length_nil];omega) rfl rfl ?_;intro q1 c1;refine ⟨OkD.any (SubP.drop (SubP.drop SubP.refl)) aC,?_⟩)
  rw [List.nil_append]
  repeat refine aB ?_
  (refine iB (enc:=eR) (xs:=(gt a.rows (i:Int)).es) (ys:=(gt b.rows (i:Int)).es) 0 rfl rfl rfl (Src.imm aA hcpb) (by decide) rfl (by omega) (by omega) rfl rfl ?_;intro q2 c2;refine ⟨OkD.any (SubP.drop (SubP.drop SubP.refl)) aC,?_⟩)
  refine vQ (M':= .row q rows.length c (recs eL rows) 70 1::M0) (fun _ hw=>Mem.toL hw aA) ?_
  refine gK (cs:=recs eL [(⟨q2,c2,(gt a.rows (i:Int)).es++(gt b.rows (i:Int)).es⟩:RL)]) ([lv (⟨q2,c2,(gt a.rows (i:Int)).es++(gt b.rows (i:Int)).es⟩:RL)]) rfl (fun bb=>?_)
  refine wM (ys:=[(⟨q2,c2,(gt a.rows (i:Int)).es++(gt b.rows (i:Int)).es⟩:RL)]) 1 rfl rfl rfl (fun q3 c3=>?_)
  repeat refine aB ?_
  refine dF (φ:=dX (rows++[(⟨q2,c2,(gt a.rows (i:Int)).es++(gt b.rows (i:Int)).es⟩:RL)]) u) (Hv.snocL aA aA) ?_
  refine gL (R - (i+1)) (⟨i+1,rows++[(⟨q2,c2,(gt a.rows (i:Int)).es++(gt b.rows (i:Int)).es⟩:RL)],q3,c3,by omega,rfl,by simp;omega,fun r hr=>?_,fun t ht=>?_,rfl,rfl,rfl⟩)
  ·rcases List.mem_append.1 hr with h|h
   ·exact hrc r h
   ·rw [List.mem_singleton.1 h];simp;omega
  ·by_cases e1:t < i
   ·have:gt (rows++[(⟨q2,c2,(gt a.rows (i:Int)).es++(gt b.rows (i:Int)).es⟩:RL)]) (t:Int)=gt rows (t:Int):=aQK (by omega)
    rw [this];exact hre t e1
   ·obtain rfl:t=i:=by omega
    have:gt (rows++[(⟨q2,c2,(gt a.rows (t:Int)).es++(gt b.rows (t:Int)).es⟩:RL)]) (t:Int)=⟨q2,c2,(gt a.rows (t:Int)).es++(gt b.rows (t:Int)).es⟩:=xI (A:=rows) (B:=[]) (by omega)
    rw [this]
 ·obtain rfl:i=R:=by omega
  repeat refine aB ?_
  refine aFF (k:=u) aA ?_
  have hdim:(⟨q,c,rows⟩:MX).dim i (C+D):=⟨hrl,hrc⟩
  refine iR rfl rfl (⟨rfl,⟨q,c,rows⟩,rfl,?_,hdim,rfl⟩)
  rw [hdim.mk]
  unfold besM
  refine xV (fun t j ht hj=>?_)
  have hrt:=hre t ht
  have hat:at2 (⟨q,c,rows⟩:MX).q t j=(gt (gt rows (t:Int)).es (j:Int)).q:=oQ (m:=⟨q,c,rows⟩) (by show t < rows.length;omega) (by show j < (gt rows (t:Int)).es.length;rw [hrt,List.length_append,da.row ht,db.row ht];exact hj)
  rw [hat,hrt]
  have hla:=da.row ht
  have hlb:=db.row ht
  by_cases e:j < C
  ·rw [if_pos e,oQ (m:=a) (by omega) (by omega),aQK (by omega)]
  ·rw [if_neg e,oQ (m:=b) (by omega) (by omega),bBR (by omega) (by omega),hla]
end
theorem Hv.threeL {I:List aL} {a b c:RL} {k:Nat} (h1:iN a k∈I) (h2:iN b k∈I) (h3:iN c k∈I):Hv I (dX [a,b,c] k):=⟨fun X w hw=>⟨fun x hx=>by
 simp only [List.mem_cons,List.not_mem_nil,or_false] at hx
 rcases hx with rfl|rfl|rfl
 ·exact hw _ h1
 ·exact hw _ h2
 ·exact hw _ h3⟩⟩
section
variable {X:List Nat} {w0:World} {M0 M1 M2:List Ent} {I0:List aL}
abbrev l3 (b:Nat) (x y z:RE):RL:=⟨some ⟨b,0,none⟩,3,[x,y,z]⟩
theorem nS {P:Program} {n:Nat} {Q:Exit→Act→World→Prop} {G:Env} {M:List Ent} {I:List aL} {ops l:List Oper} {m:Fx.Mode} {b k:Nat} {x y z:RE} {ty:TypeId} (ha:aP [x,y,z] k∈I) (h:RD P n ops Q m l G X w0 M (iN (l3 b x y z) k::I)):RD P n ops Q m l G X w0 (.blk b (recs eR [x,y,z]) ty::M) I:=aRT ha h
theorem aTX {kd u:Nat} {x:RL} (hk:kd≤2) (hu:u≤100000000000) (hl:lG kd≤x.es.length) (hx:iN x u∈I0):CD Tryz.prog 73 [.int .i64 (kd:Int),lv x] X w0 M0 I0 (XQ (zA kd x.q) 3 3 u M0 I0):=by
 have hW0:=fun M0 I0=>iT (X:=X) (w0:=w0) (M0:=M0) (I0:=I0) (x:=0) (by decide) (k:=u) (by simp)
 have hW1:=fun M0 I0=>iT (X:=X) (w0:=w0) (M0:=M0) (I0:=I0) (x:=1) (by decide) (k:=u) (by show 1≤2 ^ u;exact Nat.one_le_two_pow)
 have hq:∀i:Nat,i < lG kd→x.q.getD i 0=(gt x.es (i:Int)).q:=fun i hi=>iK (by omega)
 refine aV (φ:=aI x.p (recs eR x.es)) (Hv.lsl hx) (aV (φ:=iN x u) (Hv.mem (List.mem_cons_of_mem _ hx)) ?_)
 refine aM Tryz.func73 rfl Tryz.ntmps73 rfl ?_
 repeat refine aB ?_
 refine fK rfl (hW0 _ _) (fun e0 he0=>?_)
 refine fK rfl (hW1 _ _) (fun e1 he1=>?_)
 refine cK (fun b5=>?_)
 refine cK (fun b6=>?_)
 repeat refine aB ?_
 refine gK (cs:=recs eR [e0,e0,e1]) ([rv e0,rv e0,rv e1]) rfl (fun b7=>?_)
 refine bQ (φ:=aP [e0,e0,e1] u) (Hv.three aA aA aA) ?_
 refine nS (k:=u) aA ?_
 rcases (show kd=0∨kd=1∨kd=2 by omega) with h0|h0|h0
 ·obtain rfl:kd=0:=h0
  have hl2:2≤x.es.length:=hl
  have q0:x.q.getD 0 0=(gt x.es 0).q:=hq 0 (by decide)
  have q1:x.q.getD 1 0=(gt x.es 1).q:=hq 1 (by decide)
  refine bQ (φ:=bL (gt x.es 0) u) (Hv.lel (r:=x) (k:=u) aA ⟨by omega,by omega⟩) ?_
  refine bQ (φ:=bL (gt x.es 1) u) (Hv.lel (r:=x) (k:=u) aA ⟨by omega,by omega⟩) ?_
  refine bQ (φ:=aP [e1,e0,gt x.es 0] u) (Hv.three aA aA aA) ?_
  refine bQ (φ:=aP [e0,e1,gt x.es 1] u) (Hv.three aA aA aA) ?_
  repeat refine aB ?_
  refine jQ (fun G M I=>∃(ba bb bc:Nat) (r1:RL) (r2:RL),[r1.q,r2.q,[0,0,1]]=zA 0 x.q∧r1.es.length=3∧r2.es.length=3∧G=[(4, .slice (some ⟨bc,0,none⟩) 3 3)]∧M= .blk bc (recs eL [r1,r2,l3 b7 e0 e0 e1]) 70::M0∧I=iN r2 u::iN r1 u::iN (l3 b7 e0 e0 e1) u::I0) ?_ ?_
  ·((repeat refine aG ?_);refine lU (.blk b6 (eR e1) 77:: .blk b5 (eR e0) 77::M0) (aP [e0,e1,gt x.es 1] u::aP [e1,e0,gt x.es 0] u::bL (gt x.es 0) u::bL (gt x.es 1) u::iN (l3 b7 e0 e0 e1) u::bL e1 u::bL e0 u::iN x u::aI x.p (recs eR x.es)::I0) mixed ?_)
   refine cB (fuel:=4) (listed':=#[true,true,true,true,true,false,true,true,true,true,true,false,true,false,false]) [0,1,2,3,4,6,7,8,9,10,12] [2,2,3,3,2,2,2,3,3,2,2] aF aC (by kernel_rfl) (by kernel_rfl) rfl rfl ?_
   repeat refine aB ?_
   refine aS (fuel:=3) (i:=5) (j:=11) (by kernel_rfl) ?_ ?_
   ·(refine gK (cs:=recs eR [e1,e0,gt x.es 0]) ([rv e1,rv e0,rv (gt x.es 0)]) rfl (fun ba=>?_);refine nS (k:=u) aA ?_)
    refine bE ?_
    refine aY [11,13,14] [0,0,0] aF aC (by kernel_rfl) (by kernel_rfl) rfl rfl ?_
    repeat refine aB ?_
    (refine gK (cs:=recs eR [e0,e1,gt x.es 1]) ([rv e0,rv e1,rv (gt x.es 1)]) rfl (fun bb=>?_);refine nS (k:=u) aA ?_)
    repeat refine aB ?_
    refine gK (cs:=recs eL [l3 ba e1 e0 (gt x.es 0),l3 bb e0 e1 (gt x.es 1),l3 b7 e0 e0 e1]) ([lv (l3 ba e1 e0 (gt x.es 0)),lv (l3 bb e0 e1 (gt x.es 1)),lv (l3 b7 e0 e0 e1)]) rfl (fun bc=>?_)
    repeat refine aB ?_
    (refine tV ⟨ba,bb,bc,l3 ba e1 e0 (gt x.es 0),l3 bb e0 e1 (gt x.es 1),by show [[e1.q,e0.q,(gt x.es 0).q],[e0.q,e1.q,(gt x.es 1).q],[0,0,1]]=_;unfold zA;rw [if_pos rfl];simp only [he0,he1,q0,q1];rfl,rfl,rfl,rfl,rfl,rfl⟩)
   ·(refine gK (cs:=recs eR [e0,e1,gt x.es 1]) ([rv e0,rv e1,rv (gt x.es 1)]) rfl (fun bb=>?_);refine nS (k:=u) aA ?_)
    refine bE ?_
    refine aY [5,13,14] [0,0,0] aF aC (by kernel_rfl) (by kernel_rfl) rfl rfl ?_
    repeat refine aB ?_
    (refine gK (cs:=recs eR [e1,e0,gt x.es 0]) ([rv e1,rv e0,rv (gt x.es 0)]) rfl (fun ba=>?_);refine nS (k:=u) aA ?_)
    repeat refine aB ?_
    refine gK (cs:=recs eL [l3 ba e1 e0 (gt x.es 0),l3 bb e0 e1 (gt x.es 1),l3 b7 e0 e0 e1]) ([lv (l3 ba e1 e0 (gt x.es 0)),lv (l3 bb e0 e1 (gt x.es 1)),lv (l3 b7 e0 e0 e1)]) rfl (fun bc=>?_)
    repeat refine aB ?_
    (refine tV ⟨ba,bb,bc,l3 ba e1 e0 (gt x.es 0),l3 bb e0 e1 (gt x.es 1),by show [[e1.q,e0.q,(gt x.es 0).q],[e0.q,e1.q,(gt x.es 1).q],[0,0,1]]=_;unfold zA;rw [if_pos rfl];simp only [he0,he1,q0,q1];rfl,rfl,rfl,rfl,rfl,rfl⟩)
  rintro G M I ⟨ba,bb,bc,r1,r2,hqq,hl1,hl2',rfl,rfl,rfl⟩
  refine bG (φ:=dX [r1,r2,l3 b7 e0 e0 e1] u) (Hv.threeL aA aA aA) ?_
  refine zT (C:=3) rfl (by omega) aA ?_
  repeat refine aB ?_
  refine fC (M':=M0) (I':=gI ⟨some ⟨bc,0,none⟩,3,[r1,r2,l3 b7 e0 e0 e1]⟩ u::I0) aF aC ?_
  refine aU (by first|exact .inl rfl|exact .inr rfl) rfl rfl _ _ aF aC (⟨rfl,⟨some ⟨bc,0,none⟩,3,[r1,r2,l3 b7 e0 e0 e1]⟩,rfl,by rw [←hqq];show [r1.q,r2.q,[e0.q,e0.q,e1.q]]=_;rw [he0,he1];rfl,⟨rfl,fun r hr=>by
   simp only [List.mem_cons,List.not_mem_nil,or_false] at hr
   rcases hr with rfl|rfl|rfl
   ·exact hl1
   ·exact hl2'
   ·rfl⟩,rfl⟩)
 ·obtain rfl:kd=1:=h0
  have hl2:4≤x.es.length:=hl
  have q0:x.q.getD 0 0=(gt x.es 0).q:=hq 0 (by decide)
  have q1:x.q.getD 1 0=(gt x.es 1).q:=hq 1 (by decide)
  have q2:x.q.getD 2 0=(gt x.es 2).q:=hq 2 (by decide)
  have q3:x.q.getD 3 0=(gt x.es 3).q:=hq 3 (by decide)
  refine bQ (φ:=bL (gt x.es 0) u) (Hv.lel (r:=x) (k:=u) aA ⟨by omega,by omega⟩) ?_
  refine bQ (φ:=bL (gt x.es 1) u) (Hv.lel (r:=x) (k:=u) aA ⟨by omega,by omega⟩) ?_
  refine bQ (φ:=bL (gt x.es 2) u) (Hv.lel (r:=x) (k:=u) aA ⟨by omega,by omega⟩) ?_
  refine bQ (φ:=bL (gt x.es 3) u) (Hv.lel (r:=x) (k:=u) aA ⟨by omega,by omega⟩) ?_
  have hN:=fun M0 I0 h=>zL (X:=X) (w0:=w0) (M0:=M0) (I0:=I0) (e:=gt x.es 1) (k:=u) (by omega) h
  refine bQ (φ:=aP [gt x.es 1,gt x.es 0,gt x.es 3] u) (Hv.three aA aA aA) ?_
  repeat refine aB ?_
  refine jQ (fun G M I=>∃(ba bb bc:Nat) (r1:RL) (r2:RL),[r1.q,r2.q,[0,0,1]]=zA 1 x.q∧r1.es.length=3∧r2.es.length=3∧G=[(4, .slice (some ⟨bc,0,none⟩) 3 3)]∧M= .blk bc (recs eL [r1,r2,l3 b7 e0 e0 e1]) 70::M0∧I=iN r2 u::iN r1 u::iN (l3 b7 e0 e0 e1) u::I0) ?_ ?_
  ·((repeat refine aG ?_);refine lU (.blk b6 (eR e1) 77:: .blk b5 (eR e0) 77::M0) (aP [gt x.es 1,gt x.es 0,gt x.es 3] u::bL (gt x.es 0) u::bL (gt x.es 1) u::bL (gt x.es 2) u::bL (gt x.es 3) u::iN (l3 b7 e0 e0 e1) u::bL e1 u::bL e0 u::iN x u::aI x.p (recs eR x.es)::I0) mixed ?_)
   refine cB (fuel:=5) (listed':=#[true,true,true,true,true,true,false,true,true,true,false,true,true,true,true,true,true,true,true,true,false,true,false,false]) [0,1,2,3,4,5,7,8,9,11,12,13,14,15,16,17,18,19,21] [4,4,3,4,4,3,4,4,3,4,4,3,4,4,3,4,4,3,3] aF aC (by kernel_rfl) (by kernel_rfl) rfl rfl ?_
   repeat refine aB ?_
   refine aS (fuel:=4) (i:=6) (j:=20) (by kernel_rfl) ?_ ?_
   ·((refine bD rfl (hN _ _ (Hv.mem aA)) ?_;rintro _ _ _ ⟨rfl,yn,rfl,hyn,rfl⟩;refine aN ?_);refine bQ (φ:=aP [gt x.es 0,yn,gt x.es 2] u) (Hv.three aA aA aA) ?_)
    refine bE ?_
    repeat refine aB ?_
    refine aS (fuel:=3) (i:=10) (j:=20) (by kernel_rfl) ?_ ?_
    ·(refine gK (cs:=recs eR [gt x.es 0,yn,gt x.es 2]) ([rv (gt x.es 0),rv yn,rv (gt x.es 2)]) rfl (fun ba=>?_);refine nS (k:=u) aA ?_)
     refine bE ?_
     refine aY [20,22,23] [0,0,0] aF aC (by kernel_rfl) (by kernel_rfl) rfl rfl ?_
     repeat refine aB ?_
     (refine gK (cs:=recs eR [gt x.es 1,gt x.es 0,gt x.es 3]) ([rv (gt x.es 1),rv (gt x.es 0),rv (gt x.es 3)]) rfl (fun bb=>?_);refine nS (k:=u) aA ?_)
     repeat refine aB ?_
     refine gK (cs:=recs eL [l3 ba (gt x.es 0) yn (gt x.es 2),l3 bb (gt x.es 1) (gt x.es 0) (gt x.es 3),l3 b7 e0 e0 e1]) ([lv (l3 ba (gt x.es 0) yn (gt x.es 2)),lv (l3 bb (gt x.es 1) (gt x.es 0) (gt x.es 3)),lv (l3 b7 e0 e0 e1)]) rfl (fun bc=>?_)
     repeat refine aB ?_
     (refine tV ⟨ba,bb,bc,l3 ba (gt x.es 0) yn (gt x.es 2),l3 bb (gt x.es 1) (gt x.es 0) (gt x.es 3),by show [[(gt x.es 0).q,yn.q,(gt x.es 2).q],[(gt x.es 1).q,(gt x.es 0).q,(gt x.es 3).q],[0,0,1]]=_;unfold zA;rw [if_neg (by decide),if_pos rfl];simp only [he0,he1,q0,q1,q2,q3,hyn],rfl,rfl,rfl,rfl,rfl⟩)
    ·(refine gK (cs:=recs eR [gt x.es 1,gt x.es 0,gt x.es 3]) ([rv (gt x.es 1),rv (gt x.es 0),rv (gt x.es 3)]) rfl (fun bb=>?_);refine nS (k:=u) aA ?_)
     refine bE ?_
     refine aY [10,22,23] [0,0,0] aF aC (by kernel_rfl) (by kernel_rfl) rfl rfl ?_
     repeat refine aB ?_
     (refine gK (cs:=recs eR [gt x.es 0,yn,gt x.es 2]) ([rv (gt x.es 0),rv yn,rv (gt x.es 2)]) rfl (fun ba=>?_);refine nS (k:=u) aA ?_)
     repeat refine aB ?_
     refine gK (cs:=recs eL [l3 ba (gt x.es 0) yn (gt x.es 2),l3 bb (gt x.es 1) (gt x.es 0) (gt x.es 3),l3 b7 e0 e0 e1]) ([lv (l3 ba (gt x.es 0) yn (gt x.es 2)),lv (l3 bb (gt x.es 1) (gt x.es 0) (gt x.es 3)),lv (l3 b7 e0 e0 e1)]) rfl (fun bc=>?_)
     repeat refine aB ?_
     (refine tV ⟨ba,bb,bc,l3 ba (gt x.es 0) yn (gt x.es 2),l3 bb (gt x.es 1) (gt x.es 0) (gt x.es 3),by show [[(gt x.es 0).q,yn.q,(gt x.es 2).q],[(gt x.es 1).q,(gt x.es 0).q,(gt x.es 3).q],[0,0,1]]=_;unfold zA;rw [if_neg (by decide),if_pos rfl];simp only [he0,he1,q0,q1,q2,q3,hyn],rfl,rfl,rfl,rfl,rfl⟩)
   ·(refine gK (cs:=recs eR [gt x.es 1,gt x.es 0,gt x.es 3]) ([rv (gt x.es 1),rv (gt x.es 0),rv (gt x.es 3)]) rfl (fun bb=>?_);refine nS (k:=u) aA ?_)
    refine bE ?_
    refine aY [6,10,22,23] [0,0,0,0] aF aC (by kernel_rfl) (by kernel_rfl) rfl rfl ?_
    repeat refine aB ?_
    ((refine bD rfl (hN _ _ (Hv.mem aA)) ?_;rintro _ _ _ ⟨rfl,yn,rfl,hyn,rfl⟩;refine aN ?_);refine bQ (φ:=aP [gt x.es 0,yn,gt x.es 2] u) (Hv.three aA aA aA) ?_)
    repeat refine aB ?_
    (refine gK (cs:=recs eR [gt x.es 0,yn,gt x.es 2]) ([rv (gt x.es 0),rv yn,rv (gt x.es 2)]) rfl (fun ba=>?_);refine nS (k:=u) aA ?_)
    repeat refine aB ?_
    refine gK (cs:=recs eL [l3 ba (gt x.es 0) yn (gt x.es 2),l3 bb (gt x.es 1) (gt x.es 0) (gt x.es 3),l3 b7 e0 e0 e1]) ([lv (l3 ba (gt x.es 0) yn (gt x.es 2)),lv (l3 bb (gt x.es 1) (gt x.es 0) (gt x.es 3)),lv (l3 b7 e0 e0 e1)]) rfl (fun bc=>?_)
    repeat refine aB ?_
    (refine tV ⟨ba,bb,bc,l3 ba (gt x.es 0) yn (gt x.es 2),l3 bb (gt x.es 1) (gt x.es 0) (gt x.es 3),by show [[(gt x.es 0).q,yn.q,(gt x.es 2).q],[(gt x.es 1).q,(gt x.es 0).q,(gt x.es 3).q],[0,0,1]]=_;unfold zA;rw [if_neg (by decide),if_pos rfl];simp only [he0,he1,q0,q1,q2,q3,hyn],rfl,rfl,rfl,rfl,rfl⟩)
  rintro G M I ⟨ba,bb,bc,r1,r2,hqq,hl1,hl2',rfl,rfl,rfl⟩
  refine bG (φ:=dX [r1,r2,l3 b7 e0 e0 e1] u) (Hv.threeL aA aA aA) ?_
  refine zT (C:=3) rfl (by omega) aA ?_
  repeat refine aB ?_
  refine fC (M':=M0) (I':=gI ⟨some ⟨bc,0,none⟩,3,[r1,r2,l3 b7 e0 e0 e1]⟩ u::I0) aF aC ?_
  refine aU (by first|exact .inl rfl|exact .inr rfl) rfl rfl _ _ aF aC (⟨rfl,⟨some ⟨bc,0,none⟩,3,[r1,r2,l3 b7 e0 e0 e1]⟩,rfl,by rw [←hqq];show [r1.q,r2.q,[e0.q,e0.q,e1.q]]=_;rw [he0,he1];rfl,⟨rfl,fun r hr=>by
   simp only [List.mem_cons,List.not_mem_nil,or_false] at hr
   rcases hr with rfl|rfl|rfl
   ·exact hl1
   ·exact hl2'
   ·rfl⟩,rfl⟩)
 ·obtain rfl:kd=2:=h0
  have hl2:6≤x.es.length:=hl
  have q0:x.q.getD 0 0=(gt x.es 0).q:=hq 0 (by decide)
  have q1:x.q.getD 1 0=(gt x.es 1).q:=hq 1 (by decide)
  have q2:x.q.getD 2 0=(gt x.es 2).q:=hq 2 (by decide)
  have q3:x.q.getD 3 0=(gt x.es 3).q:=hq 3 (by decide)
  have q4:x.q.getD 4 0=(gt x.es 4).q:=hq 4 (by decide)
  have q5:x.q.getD 5 0=(gt x.es 5).q:=hq 5 (by decide)
  refine bQ (φ:=bL (gt x.es 0) u) (Hv.lel (r:=x) (k:=u) aA ⟨by omega,by omega⟩) ?_
  refine bQ (φ:=bL (gt x.es 1) u) (Hv.lel (r:=x) (k:=u) aA ⟨by omega,by omega⟩) ?_
  refine bQ (φ:=bL (gt x.es 2) u) (Hv.lel (r:=x) (k:=u) aA ⟨by omega,by omega⟩) ?_
  refine bQ (φ:=bL (gt x.es 3) u) (Hv.lel (r:=x) (k:=u) aA ⟨by omega,by omega⟩) ?_
  refine bQ (φ:=bL (gt x.es 4) u) (Hv.lel (r:=x) (k:=u) aA ⟨by omega,by omega⟩) ?_
  refine bQ (φ:=bL (gt x.es 5) u) (Hv.lel (r:=x) (k:=u) aA ⟨by omega,by omega⟩) ?_
  refine bQ (φ:=aP [gt x.es 0,gt x.es 1,gt x.es 2] u) (Hv.three aA aA aA) ?_
  refine bQ (φ:=aP [gt x.es 3,gt x.es 4,gt x.es 5] u) (Hv.three aA aA aA) ?_
  repeat refine aB ?_
  refine jQ (fun G M I=>∃(ba bb bc:Nat) (r1:RL) (r2:RL),[r1.q,r2.q,[0,0,1]]=zA 2 x.q∧r1.es.length=3∧r2.es.length=3∧G=[(4, .slice (some ⟨bc,0,none⟩) 3 3)]∧M= .blk bc (recs eL [r1,r2,l3 b7 e0 e0 e1]) 70::M0∧I=iN r2 u::iN r1 u::iN (l3 b7 e0 e0 e1) u::I0) ?_ ?_
  ·((repeat refine aG ?_);refine lU (.blk b6 (eR e1) 77:: .blk b5 (eR e0) 77::M0) (aP [gt x.es 3,gt x.es 4,gt x.es 5] u::aP [gt x.es 0,gt x.es 1,gt x.es 2] u::bL (gt x.es 0) u::bL (gt x.es 1) u::bL (gt x.es 2) u::bL (gt x.es 3) u::bL (gt x.es 4) u::bL (gt x.es 5) u::iN (l3 b7 e0 e0 e1) u::bL e1 u::bL e0 u::iN x u::aI x.p (recs eR x.es)::I0) mixed ?_)
   refine cB (fuel:=4) (listed':=#[true,true,true,true,true,true,true,true,true,false,true,true,true,true,true,true,true,true,true,false,true,false,false]) [0,1,2,3,4,5,6,7,8,10,11,12,13,14,15,16,17,18,20] [3,3,2,3,3,2,3,3,2,3,3,2,3,3,2,3,3,2,2] aF aC (by kernel_rfl) (by kernel_rfl) rfl rfl ?_
   repeat refine aB ?_
   refine aS (fuel:=3) (i:=9) (j:=19) (by kernel_rfl) ?_ ?_
   ·(refine gK (cs:=recs eR [gt x.es 0,gt x.es 1,gt x.es 2]) ([rv (gt x.es 0),rv (gt x.es 1),rv (gt x.es 2)]) rfl (fun ba=>?_);refine nS (k:=u) aA ?_)
    refine bE ?_
    refine aY [19,21,22] [0,0,0] aF aC (by kernel_rfl) (by kernel_rfl) rfl rfl ?_
    repeat refine aB ?_
    (refine gK (cs:=recs eR [gt x.es 3,gt x.es 4,gt x.es 5]) ([rv (gt x.es 3),rv (gt x.es 4),rv (gt x.es 5)]) rfl (fun bb=>?_);refine nS (k:=u) aA ?_)
    repeat refine aB ?_
    refine gK (cs:=recs eL [l3 ba (gt x.es 0) (gt x.es 1) (gt x.es 2),l3 bb (gt x.es 3) (gt x.es 4) (gt x.es 5),l3 b7 e0 e0 e1]) ([lv (l3 ba (gt x.es 0) (gt x.es 1) (gt x.es 2)),lv (l3 bb (gt x.es 3) (gt x.es 4) (gt x.es 5)),lv (l3 b7 e0 e0 e1)]) rfl (fun bc=>?_)
    repeat refine aB ?_
    (refine tV ⟨ba,bb,bc,l3 ba (gt x.es 0) (gt x.es 1) (gt x.es 2),l3 bb (gt x.es 3) (gt x.es 4) (gt x.es 5),by show [[(gt x.es 0).q,(gt x.es 1).q,(gt x.es 2).q],[(gt x.es 3).q,(gt x.es 4).q,(gt x.es 5).q],[0,0,1]]=_;unfold zA;rw [if_neg (by decide),if_neg (by decide)];simp only [he0,he1,q0,q1,q2,q3,q4,q5],rfl,rfl,rfl,rfl,rfl⟩)
   ·(refine gK (cs:=recs eR [gt x.es 3,gt x.es 4,gt x.es 5]) ([rv (gt x.es 3),rv (gt x.es 4),rv (gt x.es 5)]) rfl (fun bb=>?_);refine nS (k:=u) aA ?_)
    refine bE ?_
    refine aY [9,21,22] [0,0,0] aF aC (by kernel_rfl) (by kernel_rfl) rfl rfl ?_
    repeat refine aB ?_
    (refine gK (cs:=recs eR [gt x.es 0,gt x.es 1,gt x.es 2]) ([rv (gt x.es 0),rv (gt x.es 1),rv (gt x.es 2)]) rfl (fun ba=>?_);refine nS (k:=u) aA ?_)
    repeat refine aB ?_
    refine gK (cs:=recs eL [l3 ba (gt x.es 0) (gt x.es 1) (gt x.es 2),l3 bb (gt x.es 3) (gt x.es 4) (gt x.es 5),l3 b7 e0 e0 e1]) ([lv (l3 ba (gt x.es 0) (gt x.es 1) (gt x.es 2)),lv (l3 bb (gt x.es 3) (gt x.es 4) (gt x.es 5)),lv (l3 b7 e0 e0 e1)]) rfl (fun bc=>?_)
    repeat refine aB ?_
    (refine tV ⟨ba,bb,bc,l3 ba (gt x.es 0) (gt x.es 1) (gt x.es 2),l3 bb (gt x.es 3) (gt x.es 4) (gt x.es 5),by show [[(gt x.es 0).q,(gt x.es 1).q,(gt x.es 2).q],[(gt x.es 3).q,(gt x.es 4).q,(gt x.es 5).q],[0,0,1]]=_;unfold zA;rw [if_neg (by decide),if_neg (by decide)];simp only [he0,he1,q0,q1,q2,q3,q4,q5],rfl,rfl,rfl,rfl,rfl⟩)
  rintro G M I ⟨ba,bb,bc,r1,r2,hqq,hl1,hl2',rfl,rfl,rfl⟩
  refine bG (φ:=dX [r1,r2,l3 b7 e0 e0 e1] u) (Hv.threeL aA aA aA) ?_
  refine zT (C:=3) rfl (by omega) aA ?_
  repeat refine aB ?_
  refine fC (M':=M0) (I':=gI ⟨some ⟨bc,0,none⟩,3,[r1,r2,l3 b7 e0 e0 e1]⟩ u::I0) aF aC ?_
  refine aU (by first|exact .inl rfl|exact .inr rfl) rfl rfl _ _ aF aC (⟨rfl,⟨some ⟨bc,0,none⟩,3,[r1,r2,l3 b7 e0 e0 e1]⟩,rfl,by rw [←hqq];show [r1.q,r2.q,[e0.q,e0.q,e1.q]]=_;rw [he0,he1];rfl,⟨rfl,fun r hr=>by
   simp only [List.mem_cons,List.not_mem_nil,or_false] at hr
   rcases hr with rfl|rfl|rfl
   ·exact hl1
   ·exact hl2'
   ·rfl⟩,rfl⟩)
end
section
variable {X:List Nat} {w0:World} {M0 M1 M2:List Ent} {I0:List aL}
def NorR (R C:Nat) (A:Mt) (b:List Rat) (k:Nat) (M0:List Ent) (I0:List aL) (v:Value) (M:List Ent) (I:List aL):Prop:=
 M0=M∧if dt C (at2 (nrN R C A))=0 then I0=I∧v= .tuple #[.slice none 0 0, .bool false] else ∃r:RL,v= .tuple #[lv r, .bool true]∧r.q=lsX R C A b∧I=iN r k::I0
end
/- ---------- IndexFunc, ContainsFunc of []fiducial/api.Rat ---------- -/
section
variable {X:List Nat} {w0:World} {M0:List Ent} {I0:List aL}
end
def zeroL (l:List Rat):Prop:=∀x∈l,x=0
instance (l:List Rat):Decidable (zeroL l):=inferInstanceAs (Decidable (∀x∈l,x=0))
def symM (A:Mt) (n:Nat):Prop:=∀i,i < n→∀j,j < i→at2 A i j=at2 A j i
instance (A:Mt) (n:Nat):Decidable (symM A n):=inferInstanceAs (Decidable (∀i,i < n→∀j,j < i→at2 A i j=at2 A j i))
def symC (A:Mt) (n:Nat):Int:=if symM A n then 0 else 11
section
variable {X:List Nat} {w0:World} {M0:List Ent} {I0:List aL}
end
end Go.Proofs.YtmmmfphealhapaaGreat
namespace Go.Proofs.YtmmmfphealhapaaGreat
def rsF (f:Nat→Nat→Rat):Nat→Nat→Nat→Rat
 |0=>f
 |k+1=>fun i j=>if k < i∧k≤j then rsF f k i j - rsF f k i k / rsF f k k k*rsF f k k j else rsF f k i j
def bk (f:Nat→Nat→Rat) (k:Nat):Nat→Nat→Rat:=fun a b=>rsF f k (a+k) (b+k)
def pvs (f:Nat→Nat→Rat):Nat→Rat
 |0=>1
 |k+1=>pvs f k*bk f k 0 0
def qf (f:Nat→Nat→Rat) (v:Nat→Rat) (n k:Nat):Rat:=sm (n - k) (fun a=>sm (n - k) (fun b=>bk f k a b*v (a+k)*v (b+k)))
def yk (f:Nat→Nat→Rat) (v:Nat→Rat) (n k:Nat):Rat:=v k+sm (n - (k+1)) (fun a=>bk f k (a+1) 0 / bk f k 0 0*v (a+(k+1)))
open Go Go.Fx
def qfr (A:Mt) (v:List Rat) (n:Nat):Rat:=sm n (fun t=>v.getD t 0*sm n (fun j=>at2 A t j*v.getD j 0))
section
variable {X:List Nat} {w0:World} {M0:List Ent} {I0:List aL}
theorem aJB {x y:RL} {u m:Nat} (hk:u+m+1≤100000000000) (lx:x.es.length≤1000) (ly:y.es.length≤1000) (hx:Hv I0 (iN x u)) (hy:Hv I0 (iN y m)):
  CD Tryz.prog 33 [lv x,lv y] X w0 M0 I0 (fun v M I=>M0=M∧I0=I∧v= .bool (B (x.q=y.q))):=by
 refine aVA hx (aVA (φ:=iN y m) (hy.cons) ?_)
 refine aV (φ:=aI (x).p (recs eR (x).es)) (Hv.lsl aA) ?_
 refine aV (φ:=aI (y).p (recs eR (y).es)) (Hv.lsl aA) ?_
 by_cases hlen:x.es.length=y.es.length
 ·refine aM Tryz.func33 rfl Tryz.ntmps33 rfl ?_
  repeat refine aB ?_
  refine lX [0,1] rfl (fun k G M I=>∃i:Nat,i≤x.es.length∧k=x.es.length - i∧(∀j:Nat,j < i→(gt x.es (j:Int)).q=(gt y.es (j:Int)).q)∧G=[(5, .int .i64 i)]∧M0=M∧I=aI y.p (recs eR y.es)::aI x.p (recs eR x.es)::iN y m::iN x u::I0) (x.es.length) (⟨0,by omega,rfl,fun j hj=>by omega,rfl,rfl,rfl⟩) ?_
  rintro kk G M I ⟨i,hi,rfl,hs,rfl,rfl,rfl⟩
  by_cases hi2:i < x.es.length
  ·have hS:=fun M0 I0 h1 h2=>aZE (X:=X) (w0:=w0) (M0:=M0) (I0:=I0) (a:=gt x.es (i:Int)) (b:=gt y.es (i:Int)) (k:=u) (m:=m) (by omega) h1 h2
   by_cases he:(gt x.es (i:Int)).q=(gt y.es (i:Int)).q
   ·rw [bK he] at hS
    repeat refine aB ?_
    (repeat refine aG ?_);refine aW 1 [0,1,2,3,4,5,6,7,8,9] [1,1,1,0,1,1,1,0,0,0] mixed (by kernel_rfl) ?_
    repeat refine aB ?_
    refine dH rfl (hS _ _ (Hv.lel aA (by omega)) (Hv.lel aA (by omega))) ?_
    repeat refine aB ?_
    refine gL (x.es.length - (i+1)) (⟨i+1,by omega,rfl,fun j hj=>?_,rfl,rfl,rfl⟩)
    by_cases e:j=i
    ·subst e;exact he
    ·exact hs j (by omega)
   ·rw [bH he] at hS
    repeat refine aB ?_
    (repeat refine aG ?_);refine aW 1 [0,1,2,3,4,5,6,7,8,9] [1,1,1,0,1,1,1,0,0,0] mixed (by kernel_rfl) ?_
    repeat refine aB ?_
    refine dH rfl (hS _ _ (Hv.lel aA (by omega)) (Hv.lel aA (by omega))) ?_
    repeat refine aB ?_
    refine iR rfl rfl (⟨rfl,rfl,congrArg Value.bool (bH (fun e=>he (q_at e hi2))).symm⟩)
  ·repeat refine aB ?_
   refine iR rfl rfl (⟨rfl,rfl,congrArg Value.bool (bK (q_ext hlen (fun j hj=>hs j (by omega)))).symm⟩)
 ·refine aM Tryz.func33 rfl Tryz.ntmps33 rfl ?_
  repeat refine aB ?_
  refine aU (by first|exact .inl rfl|exact .inr rfl) rfl rfl _ _ aF aC (⟨rfl,rfl,congrArg Value.bool (bH (fun e=>hlen (by have:=congrArg List.length e;simpa using this))).symm⟩)
theorem aGL {a b:MX} {n C k m:Nat} (hk:k+m+1≤100000000000) (hn:n≤64) (hC:C≤64) (da:a.dim n C) (db:b.dim n C) (ha:gI a k∈I0) (hb:gI b m∈I0):
  CD Tryz.prog 76 [mv a,mv b] X w0 M0 I0 (fun v M I=>M0=M∧I0=I∧v= .bool (B (a.q=b.q))):=by
 have la:=da.1
 have lb:=db.1
 refine aV (φ:=aI (a).p (recs eL (a).rows)) (Hv.xsl aA) ?_
 refine aV (φ:=aI (b).p (recs eL (b).rows)) (Hv.xsl aA) ?_
 refine aM Tryz.func76 rfl Tryz.ntmps76 rfl ?_
 repeat refine aB ?_
 refine lX [0,1] rfl (fun k G M I=>∃i:Nat,i≤n∧k=n - i∧(∀j:Nat,j < i→(gt a.rows (j:Int)).q=(gt b.rows (j:Int)).q)∧G=[(5, .int .i64 i)]∧M0=M∧I=aI b.p (recs eL b.rows)::aI a.p (recs eL a.rows)::I0) (n) (⟨0,by omega,rfl,fun j hj=>by omega,rfl,rfl,rfl⟩) ?_
 rintro kk G M I ⟨i,hi,rfl,hs,rfl,rfl,rfl⟩
 by_cases hi2:i < n
 ·have c1:=da.row (i:=i) (by omega)
  have c2:=db.row (i:=i) (by omega)
  have hS:=fun M0 I0 h1 h2=>aJB (X:=X) (w0:=w0) (M0:=M0) (I0:=I0) (x:=gt a.rows (i:Int)) (y:=gt b.rows (i:Int)) (u:=k) (m:=m) hk (by omega) (by omega) h1 h2
  by_cases he:(gt a.rows (i:Int)).q=(gt b.rows (i:Int)).q
  ·rw [bK he] at hS
   repeat refine aB ?_
   (repeat refine aG ?_);refine aW 1 [0,1,2,3,4,5,6,7,8,9] [1,1,1,0,1,1,1,0,0,0] mixed (by kernel_rfl) ?_
   repeat refine aB ?_
   refine dH rfl (hS _ _ (Hv.xrow aA (by omega)) (Hv.xrow aA (by omega))) ?_
   repeat refine aB ?_
   refine gL (n - (i+1)) (⟨i+1,by omega,rfl,fun j hj=>?_,rfl,rfl,rfl⟩)
   by_cases e:j=i
   ·subst e;exact he
   ·exact hs j (by omega)
  ·rw [bH he] at hS
   repeat refine aB ?_
   (repeat refine aG ?_);refine aW 1 [0,1,2,3,4,5,6,7,8,9] [1,1,1,0,1,1,1,0,0,0] mixed (by kernel_rfl) ?_
   repeat refine aB ?_
   refine dH rfl (hS _ _ (Hv.xrow aA (by omega)) (Hv.xrow aA (by omega))) ?_
   repeat refine aB ?_
   refine iR rfl rfl (⟨rfl,rfl,congrArg Value.bool (bH (fun e=>he (bEH e (by omega)))).symm⟩)
 ·repeat refine aB ?_
  refine iR rfl rfl (⟨rfl,rfl,congrArg Value.bool (bK (bFN (by omega) (fun j hj=>hs j (by omega)))).symm⟩)
end
section
variable {X:List Nat} {w0:World} {M0 M1 M2:List Ent} {I0:List aL}
def RefR (o:Option Mt) (k:Nat) (M0:List Ent) (I0:List aL) (v:Value) (M:List Ent) (I:List aL):Prop:=M0=M∧match o with
 |none=>I0=I∧v= .tuple #[.slice none 0 0, .int .i64 13]
 |some A=>∃m:MX,v= .tuple #[mv m, .int .i64 0]∧m.q=A∧m.dim 3 3∧I=gI m k::I0
end
theorem aWA {A:MX} {R C:Nat} (h:qM A.q R C):A.dim R C:=by
 have hl:A.rows.length=R:=by have:=h.1;simpa [MX.q] using this
 refine ⟨hl,fun r hr=>?_⟩
 obtain ⟨i,hi,rfl⟩:=List.mem_iff_getElem.1 hr
 have h2:=h.2 i (by omega)
 have e:rowAt A.q i=A.rows[i].q:=by simp [rowAt,MX.q,List.getD,hi]
 rw [e] at h2
 rwa [show (A.rows[i].q).length=A.rows[i].es.length from List.length_map ..] at h2
section
variable {X:List Nat} {w0:World} {M0 M1 M2:List Ent} {I0:List aL}
theorem aOJ {x:Int}:CD Tryz.prog 18 [.int .i64 x] X w0 M0 I0 (fun v M I=>M0=M∧I0=I∧v= .bool (B (kdP x))):=by
 refine aR Tryz.func18 rfl Tryz.ntmps18 rfl ?_
 by_cases h0:0≤x
 ·repeat refine aB ?_
  refine iR rfl rfl (⟨rfl,rfl,congrArg Value.bool (iZ ⟨fun h=>⟨h0,h⟩,fun h=>h.2⟩)⟩)
 ·repeat refine aB ?_
  refine iR rfl rfl (⟨rfl,rfl,congrArg Value.bool (bH (fun h=>h0 h.1)).symm⟩)
theorem aUN {a b:MX} {k m:Nat} (hk:k+m+1≤100000000000) (da:a.dim 3 3) (db:b.dim 3 3) (ha:gI a k∈I0) (hb:gI b m∈I0):
  CD Tryz.prog 24 [mv a,mv b] X w0 M0 I0 (fun v M I=>M0=M∧I0=I∧v= .bool (B (a.q=b.q))):=by
 have hS:=fun M0 I0 h1 h2=>aGL (X:=X) (w0:=w0) (M0:=M0) (I0:=I0) (a:=a) (b:=b) (n:=3) (C:=3) (k:=k) (m:=m) hk (by omega) (by omega) da db h1 h2
 refine aM Tryz.func24 rfl Tryz.ntmps24 rfl ?_
 repeat refine aB ?_
 refine dH rfl (hS _ _ aA aA) ?_
 repeat refine aB ?_
 refine iR rfl rfl (⟨rfl,rfl,rfl⟩)
end
section
variable {X:List Nat} {w0:World} {M0 M1 M2:List Ent} {I0:List aL}
end
open Go.ChangeShapes Go.WideShapes Go.RowKit Go.ChangeAt
section
variable {H:Type} {enc:TypeId × Value→H} {W:World}
theorem aYL {n:Nat} {cs:List Value} {y:DataW H × List MemPlace} (hl:cs.length=2) (h:DataW.trod enc Tryz.prog W 0 (fun _=>true) true n 28 cs=some y):∃a b:Int,cs=[.int .i64 a, .int .i64 b]:=by
 obtain ⟨xs,rfl,hx,_⟩:=aWB (k:= .i64) (m:=2) Tryz.underlying28 (by kernel_rfl) (by intro f hf;simp at hf;rcases hf with rfl|rfl <;>exact Tryz.underlying3) hl h
 obtain ⟨a,b,rfl⟩:=bFG hx
 exact ⟨a,b,rfl⟩
theorem bGA {n:Nat} {cs:List Value} {y:DataW H × List MemPlace} (h:DataW.trod enc Tryz.prog W 0 (fun _=>true) true n 30 cs=some y):∃s:Q4,cs=gX s∧True:=by
 obtain ⟨hl,n',z0,z1,h0,h1⟩:=aZH (t0:=28) (t1:=28) (m:=2) (k:=2) Tryz.underlying30 (by rfl) (by kernel_rfl) (by kernel_rfl) (by kernel_rfl) h
 obtain ⟨a,b,e0⟩:=aYL (by rw [List.length_take];omega) h0
 obtain ⟨c,d,e1⟩:=aYL (by rw [List.length_drop];omega) h1
 refine ⟨⟨a,b,c,d⟩,?_,trivial⟩
 rw [←List.take_append_drop 2 cs,e0,e1]
 rfl
theorem aWL {base:Nat} {v:Value} {d:DataW H} {p:List MemPlace} (hv:Value.okWide Tryz.prog W .any base 22 v) (h:DataW.Trod enc Tryz.prog W 0 (fun _=>true) true 22 v d p):∃(a:Option Addr) (ps:List Q4) (c:Nat),v= .slice a ps.length c∧Sl [] W a (recs gX ps)∧(ps.length:Int)≤9223372036854775807:=by
 obtain ⟨a,ms,c,e,s,m,l,k,_⟩:=aKH (en:=gX) (Pm:=fun _=>True) Tryz.underlying22 (fun r n y _ hy=>bGA hy) hv h
 exact ⟨a,ms,c,e,s,l⟩
end
open Go.ChangeShapes Go.WideShapes Go.RowKit Go.ChangeAt
abbrev eTk (kd t2 x y:Int) (ex tu:Bool):List Value:=[.int .i64 kd, .int .i64 t2, .int .i16 x, .int .i16 y, .bool ex, .bool tu]
theorem wf16 {x:Int} (h:(Lit.int .i16 x).wf=true): -32768≤x∧x≤32767:=by
 simp [Lit.wf] at h
 have h1:IntKind.i16.min= -32768:=by decide
 have h2:IntKind.i16.max=32767:=by decide
 rw [h1,h2] at h
 exact h
section
variable {H:Type} {enc:TypeId × Value→H} {W:World}
theorem aUC {base:Nat} {v:Value} {d:DataW H} {p:List MemPlace} (hv:Value.okWide Tryz.prog W .any base 66 v) (h:DataW.Trod enc Tryz.prog W 0 (fun _=>true) true 66 v d p):
  ∃(kd t2 x y:Int) (ex tu:Bool),v= .agg (eTk kd t2 x y ex tu).toArray∧(-32768≤x∧x≤32767)∧(-32768≤y∧y≤32767):=by
 obtain ⟨cs,rfl,hl,hrow,hf⟩:=aLR Tryz.underlying66 hv h
 have hl6:cs.length=6:=by rw [hl];kernel_rfl
 match cs,hl6 with
 |[c0,c1,c2,c3,c4,c5],_=>
  obtain ⟨n0,y0,h0⟩:=hf 0 _ rfl
  obtain ⟨n1,y1,h1⟩:=hf 1 _ rfl
  obtain ⟨n2,y2,h2⟩:=hf 2 _ rfl
  obtain ⟨n3,y3,h3⟩:=hf 3 _ rfl
  obtain ⟨n4,y4,h4⟩:=hf 4 _ rfl
  obtain ⟨n5,y5,h5⟩:=hf 5 _ rfl
  have e0:Tryz.prog.cellsOf 32=1:=by kernel_rfl
  have e1:Tryz.prog.cellsOf 3=1:=by kernel_rfl
  have e2:Tryz.prog.cellsOf 64=1:=by kernel_rfl
  have e3:Tryz.prog.cellsOf 4=1:=by kernel_rfl
  replace h0:DataW.trod enc Tryz.prog W 0 (fun _=>true) true n0 32 (([c0,c1,c2,c3,c4,c5].drop 0).take (Tryz.prog.cellsOf 32))=some y0:=h0
  replace h1:DataW.trod enc Tryz.prog W 0 (fun _=>true) true n1 3 (([c0,c1,c2,c3,c4,c5].drop 1).take (Tryz.prog.cellsOf 3))=some y1:=h1
  replace h2:DataW.trod enc Tryz.prog W 0 (fun _=>true) true n2 64 (([c0,c1,c2,c3,c4,c5].drop 2).take (Tryz.prog.cellsOf 64))=some y2:=h2
  replace h3:DataW.trod enc Tryz.prog W 0 (fun _=>true) true n3 64 (([c0,c1,c2,c3,c4,c5].drop 3).take (Tryz.prog.cellsOf 64))=some y3:=h3
  replace h4:DataW.trod enc Tryz.prog W 0 (fun _=>true) true n4 4 (([c0,c1,c2,c3,c4,c5].drop 4).take (Tryz.prog.cellsOf 4))=some y4:=h4
  replace h5:DataW.trod enc Tryz.prog W 0 (fun _=>true) true n5 4 (([c0,c1,c2,c3,c4,c5].drop 5).take (Tryz.prog.cellsOf 4))=some y5:=h5
  rw [e0] at h0
  rw [e1] at h1
  rw [e2] at h2 h3
  rw [e3] at h4 h5
  obtain ⟨x0,q0,_⟩:=zZ Tryz.underlying32 h0
  obtain ⟨x1,q1,_⟩:=zZ Tryz.underlying3 h1
  obtain ⟨x2,q2,w2⟩:=zZ Tryz.underlying64 h2
  obtain ⟨x3,q3,w3⟩:=zZ Tryz.underlying64 h3
  obtain ⟨b4,q4,_⟩:=DataW.trod_bool Tryz.underlying4 h4
  obtain ⟨b5,q5,_⟩:=DataW.trod_bool Tryz.underlying4 h5
  simp at q0 q1 q2 q3 q4 q5
  subst q0;subst q1;subst q2;subst q3;subst q4;subst q5
  exact ⟨x0,x1,x2,x3,b4,b5,rfl,wf16 w2,wf16 w3⟩
end
end Go.Proofs.YtmmmfphealhapaaGreat
namespace Go.Fx
def andZ (k:IntKind) (a b:Int):Int:=k.wrap ((BitVec.ofInt k.bits a &&& BitVec.ofInt k.bits b).toNat:Int)
section
variable {P:Program} {n:Nat} {G:Env} {ty:TypeId} {C:World→Prop}
end
end Go.Fx
namespace Go.Proofs.YtmmmfphealhapaaGreat
open Go Go.Fx
theorem aSJ {k:Nat} {l:List Q4} {A:Mt} (h:qQ k l=some A):aCV k l≠0∧A=zA k (rG k l)∧dt 3 (at2 A)≠0:=by
 unfold qQ at h
 by_cases h1:l=[]
 ·rw [if_pos h1] at h;cases h
 ·rw [if_neg h1] at h
  by_cases h2:aCV k l=0
  ·rw [if_pos h2] at h;cases h
  ·rw [if_neg h2] at h
   by_cases h3:dt 3 (at2 (zA k (rG k l)))=0
   ·rw [if_pos h3] at h;cases h
   ·rw [if_neg h3] at h
    cases h
    exact ⟨h2,rfl,h3⟩
section
variable {X:List Nat} {w0:World} {M0 M1 M2:List Ent} {I0:List aL}
end
end Go.Proofs.YtmmmfphealhapaaGreat

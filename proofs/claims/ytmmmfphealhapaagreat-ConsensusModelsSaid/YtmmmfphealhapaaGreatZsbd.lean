/- consensus.Densest. -/
import Derived.Test.YtmmmfphealhapaaGreatZsbb
import Derived.Test.YtmmmfphealhapaaGreatZsbc
import Derived.Test.YtmmmfphealhapaaGreatZsba
import Derived.Test.YtmmmfphealhapaaGreatZsaq
set_option linter.unusedSimpArgs false
set_option linter.unusedVariables false
set_option maxRecDepth 100000
set_option maxHeartbeats 4000000
namespace Go.Proofs.YtmmmfphealhapaaGreat
open Go Go.Fx
def rC (l:List Q4):List (Int × Int):=l.map (fun s=>(s.u - s.x,s.v - s.y))
def dxs (l:List Q4):List Int:=l.map (fun s=>s.u - s.x)
def dys (l:List Q4):List Int:=l.map (fun s=>s.v - s.y)
theorem aDP {l:List Q4} {s:Q4}:dxs (l++[s])=dxs l++[s.u - s.x]:=by simp [dxs]
theorem aEI {l:List Q4} {s:Q4}:dys (l++[s])=dys l++[s.v - s.y]:=by simp [dys]
theorem bAQ {l:List Q4}:(dxs l).length=l.length:=by simp [dxs]
theorem aZN {l:List Q4}:(dys l).length=l.length:=by simp [dys]
theorem aYC {l:List Q4}:(rC l).length=l.length:=by simp [rC]
theorem aZE {l:List Q4} {z:Int}:z∈dxs l↔∃d∈rC l,d.1=z:=by
 simp only [dxs,rC,List.mem_map]
 exact ⟨fun ⟨a,h,e⟩=>⟨_,⟨a,h,rfl⟩,e⟩,fun ⟨_,⟨a,h,rfl⟩,e⟩=>⟨a,h,e⟩⟩
theorem aQL {l:List Q4} {z:Int}:z∈dys l↔∃d∈rC l,d.2=z:=by
 simp only [dys,rC,List.mem_map]
 exact ⟨fun ⟨a,h,e⟩=>⟨_,⟨a,h,rfl⟩,e⟩,fun ⟨_,⟨a,h,rfl⟩,e⟩=>⟨a,h,e⟩⟩
theorem bDT {l:List Q4} {i:Nat} (h:i < l.length):gt (dxs l) (i:Int)=((rC l).getD i (0,0)).1∧gt (dys l) (i:Int)=((rC l).getD i (0,0)).2:=by
 constructor <;>simp [gt,dxs,dys,rC,List.getD,h]
theorem bDG {l:List Q4} (hs:∀s∈l,s.near):∀z∈dxs l, -65536≤z∧z≤65536:=fun z hz=>by
 obtain ⟨s,h,rfl⟩:=List.mem_map.1 hz
 obtain ⟨n1,n2,n3,n4⟩:=hs s h
 omega
theorem bEC {l:List Q4} (hs:∀s∈l,s.near):∀z∈dys l, -65536≤z∧z≤65536:=fun z hz=>by
 obtain ⟨s,h,rfl⟩:=List.mem_map.1 hz
 obtain ⟨n1,n2,n3,n4⟩:=hs s h
 omega
theorem aNP {l:List (Int × Int)} {t X Y:Int} {i:Nat} (h:i < l.length):(l.take (i+1)).countP (aFT t X Y)=(l.take i).countP (aFT t X Y)+(if aFT t X Y (l.getD i (0,0))=true then 1 else 0):=by
 have e:l.take (i+1)=l.take i++[l[i]]:=(List.take_append_getElem h).symm
 have e2:l.getD i (0,0)=l[i]:=by simp [List.getD,h]
 rw [e,e2,List.countP_append,List.countP_singleton]
def tolD (t:Int):Prop:=0≤t∧t≤32768
instance tolD.dec (x:Int):Decidable (tolD x):=inferInstanceAs (Decidable (0≤x∧x≤32768))
def densC (l:List Q4) (t:Int):Int:=if jH l=0 then (if tolD t then 0 else 2) else jH l
abbrev zP2:List Value:=[.int .i64 0, .int .i64 0]
section
variable {X:List Nat} {w0:World} {M0 M1 M2:List Ent} {I0:List aM}
theorem aYS {tol:Int} {q:Option Addr} {l:List Q4} {n c:Nat} (hl:l.length=n) (hn:n≤12) (hck:jH l=0) (ht:tolD tol) (hq:aH q (recs iL l)∈I0):
  CD Tryz.prog 66 [.slice q n c, .int .i64 tol] X w0 M0 I0 (fun v M I=>M0=M∧I0=I∧∃(X Y:Int) (N:Nat),(0 < N∧BestD (rC l) tol X Y N)∧v= .tuple #[.agg #[.int .i64 (X - tol), .int .i64 (Y - tol)], .int .i64 (N:Int), .int .i64 0]):=by
 have hK:=fun M0 I0 h=>xL (X:=X) (w0:=w0) (M0:=M0) (I0:=I0) (q:=q) (l:=l) (n:=n) (c:=c) hl (by omega) h
 rw [hck] at hK
 obtain ⟨⟨hn1,_⟩,hs⟩:=aDC hck
 rw [hl] at hn1
 obtain ⟨ht1,ht2⟩:=ht
 refine aX (φ:=aH q (recs iL l)) (Hv.mem hq) ?_
 refine aN Tryz.func66 rfl Tryz.ntmps66 rfl ?_
 refine iH ?_
 refine dS (fun b4=>?_)
 repeat refine aB ?_
 refine dK rfl (hK _ _ aA) ?_
 repeat refine aB ?_
 refine iN 3 1 ?_
 refine iN 3 1 ?_
 refine lV [1,4,37,38] rfl (fun k G M I=>∃(i:Nat) (xs ys:List Int) (qx qy:Option Addr) (cx cy:Nat),i≤n∧k=n - i∧xs=dxs (l.take i)∧ys=dys (l.take i)∧G=[(8, .slice qx xs.length cx),(9, .slice qy ys.length cy),(39, .int .i64 i)]∧M= .row qx xs.length cx (recs eZ xs) 3 1:: .row qy ys.length cy (recs eZ ys) 3 1:: .blk b4 zP2 28::M0∧I=aH q (recs iL l)::I0) (n) (⟨0,[],[],none,none,0,0,by omega,rfl,rfl,rfl,rfl,rfl,rfl⟩) ?_
 rintro kk G M I ⟨i,xs,ys,qx,qy,cx,cy,hi,rfl,hxs,hys,rfl,rfl,rfl⟩
 have hxl:xs.length=i:=by rw [hxs,bAQ,List.length_take];omega
 have hyl:ys.length=i:=by rw [hys,aZN,List.length_take];omega
 by_cases hin:i < n
 ·have hmem:=bD (ms:=l) (i:=(i:Int)) (by omega)
  have htk:l.take (i+1)=l.take i++[gt l (i:Int)]:=by rw [gtQ (by omega)];exact (List.take_append_getElem (by omega)).symm
  obtain ⟨s,hss⟩:∃s,gt l (i:Int)=s:=⟨_,rfl⟩
  rw [hss] at hmem htk
  obtain ⟨n1,n2,n3,n4⟩:=hs s hmem
  repeat refine aB ?_
  rw [hss]
  refine dS (fun b11=>?_)
  repeat refine aB ?_
  ((repeat refine aG ?_);refine pV (.blk b11 (iL s) 30::M0) (aH q (recs iL l)::I0) mixed ?_)
  refine dM (fuel:=6) (listed':=#[true,true,true,true,true,true,true,true,false,false,true,true,true,true,true,true,true,true,false,false,false,false]) [0,1,2,3,4,5,6,7,10,11,12,13,14,15,16,17] [3,4,4,4,4,4,4,3,3,4,4,4,4,4,4,3] aF aD (by kernel_rfl) (by kernel_rfl) rfl rfl ?_
  repeat refine aB ?_
  refine bB (fuel:=5) (i:=8) (j:=18) (by kernel_rfl) ?_ ?_
  ·refine gX (cs:=recs eZ [s.u - s.x]) ([.int .i64 (s.u - s.x)]) rfl (fun bx=>?_)
   refine bK ?_
   repeat refine aB ?_
   refine bB (fuel:=4) (i:=9) (j:=18) (by kernel_rfl) ?_ ?_
   ·(first|(refine iE (ys:=[s.u - s.x]) 2 rfl rfl rfl ?_ (by decide) rfl (by omega) (by omega) rfl rfl ?_;(· exact Src.blk aA);intro qx2 cx2;simp only [List.set_cons_succ,List.set_cons_zero];refine aL ?_)|(refine iE (ys:=[s.u - s.x]) 3 rfl rfl rfl ?_ (by decide) rfl (by omega) (by omega) rfl rfl ?_;(· exact Src.blk aA);intro qx2 cx2;simp only [List.set_cons_succ,List.set_cons_zero];refine aL ?_))
    refine bK ?_
    refine bL [18,19,20,21] [0,0,0,0] aF aD (by kernel_rfl) (by kernel_rfl) rfl rfl ?_
    repeat refine aB ?_
    refine gX (cs:=recs eZ [s.v - s.y]) ([.int .i64 (s.v - s.y)]) rfl (fun by2=>?_)
    repeat refine aB ?_
    (refine iE (ys:=[s.v - s.y]) 4 rfl rfl rfl ?_ (by decide) rfl (by omega) (by omega) rfl rfl ?_;(· exact Src.blk aA);intro qy2 cy2;simp only [List.set_cons_succ,List.set_cons_zero];refine aL ?_)
    repeat refine aB ?_
    refine gJ (n - (i+1)) (⟨i+1,xs++[s.u - s.x],ys++[s.v - s.y],qx2,qy2,cx2,cy2,by omega,rfl,by rw [htk,aDP,←hxs],by rw [htk,aEI,←hys],rfl,rfl,rfl⟩)
   ·refine gX (cs:=recs eZ [s.v - s.y]) ([.int .i64 (s.v - s.y)]) rfl (fun by2=>?_)
    refine bK ?_
    refine bL [9,19,20,21] [0,0,0,0] aF aD (by kernel_rfl) (by kernel_rfl) rfl rfl ?_
    repeat refine aB ?_
    (first|(refine iE (ys:=[s.u - s.x]) 2 rfl rfl rfl ?_ (by decide) rfl (by omega) (by omega) rfl rfl ?_;(· exact Src.blk aA);intro qx2 cx2;simp only [List.set_cons_succ,List.set_cons_zero];refine aL ?_)|(refine iE (ys:=[s.u - s.x]) 3 rfl rfl rfl ?_ (by decide) rfl (by omega) (by omega) rfl rfl ?_;(· exact Src.blk aA);intro qx2 cx2;simp only [List.set_cons_succ,List.set_cons_zero];refine aL ?_))
    repeat refine aB ?_
    (refine iE (ys:=[s.v - s.y]) 4 rfl rfl rfl ?_ (by decide) rfl (by omega) (by omega) rfl rfl ?_;(· exact Src.blk aA);intro qy2 cy2;simp only [List.set_cons_succ,List.set_cons_zero];refine aL ?_)
    repeat refine aB ?_
    refine gJ (n - (i+1)) (⟨i+1,xs++[s.u - s.x],ys++[s.v - s.y],qx2,qy2,cx2,cy2,by omega,rfl,by rw [htk,aDP,←hxs],by rw [htk,aEI,←hys],rfl,rfl,rfl⟩)
  ·refine gX (cs:=recs eZ [s.v - s.y]) ([.int .i64 (s.v - s.y)]) rfl (fun by2=>?_)
   refine bK ?_
   refine bL [8,9,19,20,21] [0,0,0,0,0] aF aD (by kernel_rfl) (by kernel_rfl) rfl rfl ?_
   repeat refine aB ?_
   refine gX (cs:=recs eZ [s.u - s.x]) ([.int .i64 (s.u - s.x)]) rfl (fun bx=>?_)
   repeat refine aB ?_
   (first|(refine iE (ys:=[s.u - s.x]) 2 rfl rfl rfl ?_ (by decide) rfl (by omega) (by omega) rfl rfl ?_;(· exact Src.blk aA);intro qx2 cx2;simp only [List.set_cons_succ,List.set_cons_zero];refine aL ?_)|(refine iE (ys:=[s.u - s.x]) 3 rfl rfl rfl ?_ (by decide) rfl (by omega) (by omega) rfl rfl ?_;(· exact Src.blk aA);intro qx2 cx2;simp only [List.set_cons_succ,List.set_cons_zero];refine aL ?_))
   repeat refine aB ?_
   (refine iE (ys:=[s.v - s.y]) 4 rfl rfl rfl ?_ (by decide) rfl (by omega) (by omega) rfl rfl ?_;(· exact Src.blk aA);intro qy2 cy2;simp only [List.set_cons_succ,List.set_cons_zero];refine aL ?_)
   repeat refine aB ?_
   refine gJ (n - (i+1)) (⟨i+1,xs++[s.u - s.x],ys++[s.v - s.y],qx2,qy2,cx2,cy2,by omega,rfl,by rw [htk,aDP,←hxs],by rw [htk,aEI,←hys],rfl,rfl,rfl⟩)
 ·obtain rfl:i=n:=by omega
  rw [←hl,List.take_length] at hxs hys
  have hxb:=bDG hs
  have hyb:=bEC hs
  rw [←hxs] at hxb
  rw [←hys] at hyb
  have hat:∀t:Nat,t < i→gt xs (t:Int)=((rC l).getD t (0,0)).1∧gt ys (t:Int)=((rC l).getD t (0,0)).2:=fun t ht=>by rw [hxs,hys];exact bDT (by omega)
  have hdl:(rC l).length=i:=by rw [aYC];exact hl
  obtain ⟨xl,hxl2⟩:∃z,mW (srt id xs)=z:=⟨_,rfl⟩
  obtain ⟨cl,hcl⟩:∃z,mW (srt id ys)=z:=⟨_,rfl⟩
  have hxa:aJI xl:=by rw [←hxl2];exact aIN (aHQ id xs)
  have hca:aJI cl:=by rw [←hcl];exact aIN (aHQ id ys)
  have hxm:∀z,z∈xl↔z∈xs:=fun z=>by rw [←hxl2,aCU];exact aCR id z _ xs rfl
  have hcm:∀z,z∈cl↔z∈ys:=fun z=>by rw [←hcl,aCU];exact aCR id z _ ys rfl
  have hxll:xl.length≤i:=by rw [←hxl2];exact Nat.le_trans (aHO _) (by rw [aAC];omega)
  have hcd:∀d∈rC l,d.2∈cl:=fun d hd=>(hcm _).2 (by rw [hys];exact aQL.2 ⟨d,hd,rfl⟩)
  have hl0:rC l≠[]:=fun e=>by rw [e] at hdl;simp at hdl;omega
  repeat refine aB ?_
  refine eX .here ?_
  refine eX .here ?_
  (refine aQ rfl (aFZ) ?_;rintro _ _ _ ⟨rfl,bvx,rfl,rfl⟩;refine aL ?_)
  repeat refine aB ?_
  (refine aQ rfl (aDO (q:=qx) (zs:=xs) (c:=cx) (b:=bvx) rfl (by omega) aA aA) ?_;rintro _ _ _ ⟨rfl,b12,c12,tx,rfl,hc12,rfl⟩;refine aL ?_)
  repeat refine aB ?_
  (refine aQ rfl (aFZ) ?_;rintro _ _ _ ⟨rfl,bvy,rfl,rfl⟩;refine aL ?_)
  repeat refine aB ?_
  (refine aQ rfl (aDO (q:=qy) (zs:=ys) (c:=cy) (b:=bvy) rfl (by omega) aA aA) ?_;rintro _ _ _ ⟨rfl,b13,c13,ty,rfl,hc13,rfl⟩;refine aL ?_)
  repeat refine aB ?_
  refine dS (fun b14=>?_)
  repeat refine aB ?_
  refine yN (M':= .blk b12 (recs eZ (srt id xs)++tx) 3:: .blk b13 (recs eZ (srt id ys)++ty) 3:: .blk b14 zP2 28:: .blk b4 zP2 28::M0) (I':=aH qy (recs eZ ys)::aH qx (recs eZ xs)::I0) aF aD ?_
  (refine aQ rfl (aEN (n:=xs.length) (c:=c12) (D:=srt id xs) (tl:=tx) (aAC id xs) (by omega) hc12) ?_;rintro _ _ _ ⟨rfl,rfl,rfl⟩;refine aL ?_)
  rw [hxl2]
  rw [show recs eZ (xl++List.replicate (xs.length - xl.length) 0)++tx=recs eZ xl++(recs eZ (List.replicate (xs.length - xl.length) 0)++tx) by rw [lQ,List.append_assoc]]
  refine aI .here ?_
  refine aYD (cs:=recs eZ xl) (tl:=recs eZ (List.replicate (xs.length - xl.length) 0)++tx) aA ?_
  repeat refine aB ?_
  refine rY (M':= .blk b13 (recs eZ (srt id ys)++ty) 3:: .blk b14 [.int .i64 0, .int .i64 0] 28:: .blk b4 zP2 28::M0) (I':=aH (some ⟨b12,0,none⟩) (recs eZ xl)::aH qy (recs eZ ys)::aH qx (recs eZ xs)::I0) aF aD ?_
  refine lV [1,4,8,9,13,14,71,72] rfl (fun k G M I=>∃(a:Nat) (E:List Int) (bx by_:Int) (most:Nat),a≤xl.length∧k=xl.length - a∧E.length=ys.length∧(∃z,mW E=cl++List.replicate z 0)∧most≤i∧BInv (rC l) tol (Vis xl cl a 0) (bx+tol) (by_+tol) most∧G=[(15, .int .i64 most),(73, .int .i64 a)]∧M= .blk b13 (recs eZ E++ty) 3:: .blk b14 [.int .i64 bx, .int .i64 by_] 28:: .blk b4 zP2 28::M0∧I=aH (some ⟨b12,0,none⟩) (recs eZ xl)::aH qy (recs eZ ys)::aH qx (recs eZ xs)::I0) (xl.length) (⟨0,srt id ys,0,0,0,by omega,rfl,aAC id ys,⟨0,by rw [hcl];simp⟩,by omega,aTC,rfl,rfl,rfl⟩) ?_
  rintro kk G M I ⟨a,E,bx,by_,most,ha,rfl,hE,⟨z,hz⟩,hmi,hB,rfl,rfl,rfl⟩
  by_cases hax:a < xl.length
  ·have hxx:=hxb _ ((hxm _).1 (bD (ms:=xl) (i:=(a:Int)) (by omega)))
   have hCl:(mW E).length≤ys.length:=by rw [←hE];exact aHO E
   repeat refine aB ?_
   (refine aQ rfl (aEN (n:=ys.length) (c:=c13) (D:=E) (tl:=ty) hE (by omega) hc13) ?_;rintro _ _ _ ⟨rfl,rfl,rfl⟩;refine aL ?_)
   obtain ⟨E2,hE2⟩:∃E2,mW E++List.replicate (ys.length - (mW E).length) 0=E2:=⟨_,rfl⟩
   have hE2l:E2.length=ys.length:=by rw [←hE2,List.length_append,List.length_replicate];omega
   have hE2c:E2=cl++List.replicate (z+(ys.length - (mW E).length)) 0:=by rw [←hE2,hz,List.append_assoc,List.replicate_append_replicate]
   have hE2z:∃z,mW E2=cl++List.replicate z 0:=by
    obtain ⟨z2,_,h⟩:=aAQ hca (z+(ys.length - (mW E).length))
    exact ⟨z2,by rw [hE2c];exact h⟩
   have hclE:cl.length≤(mW E).length:=by rw [hz,List.length_append];omega
   obtain ⟨m,hm⟩:∃m,(mW E).length=m:=⟨_,rfl⟩
   rw [hE2,hm]
   rw [hm] at hCl hclE
   clear hE2 hz hm
   have hE2g:∀j:Nat,j < m→(j < cl.length→gt E2 (j:Int)=gt cl (j:Int))∧(¬j < cl.length→gt E2 (j:Int)=0):=fun j hj=>by
    rw [hE2c,aXK]
    constructor
    ·intro h;rw [if_pos h]
    ·intro h
     rw [if_neg h]
     have hlt:j - cl.length < (List.replicate (z+(ys.length - (mW E).length)) (0:Int)).length:=by
      have:=congrArg List.length hE2c
      rw [List.length_append,List.length_replicate] at this
      rw [List.length_replicate];omega
     rw [fE hlt];simp
   repeat refine aB ?_
   refine lV [1,4,8,9,13,14,17,71,72,73,78,79] rfl (fun k G M I=>∃(j:Nat) (bx by_:Int) (most:Nat),j≤m∧k=m - j∧most≤i∧BInv (rC l) tol (Vis xl cl a j) (bx+tol) (by_+tol) most∧G=[(15, .int .i64 most),(80, .int .i64 j)]∧M= .blk b13 (recs eZ E2++ty) 3:: .blk b14 [.int .i64 bx, .int .i64 by_] 28:: .blk b4 zP2 28::M0∧I=aH (some ⟨b12,0,none⟩) (recs eZ xl)::aH qy (recs eZ ys)::aH qx (recs eZ xs)::I0) (m) (⟨0,bx,by_,most,by omega,rfl,hmi,hB,rfl,rfl,rfl⟩) ?_
   rintro kk G M I ⟨j,bx,by_,most,hj,rfl,hmi,hB,rfl,rfl,rfl⟩
   by_cases hjm:j < m
   ·have hg:=hE2g j hjm
    obtain ⟨x,hxe⟩:∃x,gt xl (a:Int)=x:=⟨_,rfl⟩
    obtain ⟨y,hye⟩:∃y,gt E2 (j:Int)=y:=⟨_,rfl⟩
    have hyy: -65536≤y∧y≤65536:=by
     by_cases h:j < cl.length
     ·rw [←hye,hg.1 h];exact hyb _ ((hcm _).1 (bD (ms:=cl) (i:=(j:Int)) (by omega)))
     ·rw [←hye,hg.2 h];omega
    rw [hye] at hg
    repeat refine aB ?_
    rw [hye,hxe]
    rw [hxe] at hxx
    repeat refine aB ?_
    refine lV [1,4,8,9,13,14,15,17,19,20,21,71,72,73,78,79,80,91] rfl (fun k G M I=>∃(t N:Nat),t≤i∧k=i - t∧N=((rC l).take t).countP (aFT tol x y)∧G=[(22, .int .i64 N),(92, .int .i64 t)]∧M= .blk b13 (recs eZ E2++ty) 3:: .blk b14 [.int .i64 bx, .int .i64 by_] 28:: .blk b4 zP2 28::M0∧I=aH (some ⟨b12,0,none⟩) (recs eZ xl)::aH qy (recs eZ ys)::aH qx (recs eZ xs)::I0) (i) (⟨0,0,by omega,rfl,rfl,rfl,rfl,rfl⟩) ?_
    rintro kk G M I ⟨t,N,ht,rfl,hN,rfl,rfl,rfl⟩
    have hNt:N≤t:=by rw [hN];exact Nat.le_trans List.countP_le_length (by rw [List.length_take];omega)
    by_cases hti:t < i
    ·obtain ⟨g1,g2⟩:=hat t hti
     have hcs:=aNP (t:=tol) (X:=x) (Y:=y) (l:=rC l) (i:=t) (by omega)
     rw [←hN] at hcs
     have d1:=hxb _ (bD (ms:=xs) (i:=(t:Int)) (by omega))
     have d2:=hyb _ (bD (ms:=ys) (i:=(t:Int)) (by omega))
     have hiff:aFT tol x y ((rC l).getD t (0,0))=true↔(x - tol - tol≤gt xs (t:Int)∧gt xs (t:Int)≤x)∧(y - tol - tol≤gt ys (t:Int)∧gt ys (t:Int)≤y):=by
      rw [g1,g2]
      simp only [aFT,decide_eq_true_eq]
      omega
     by_cases h1:x - tol - tol≤gt xs (t:Int)
     ·by_cases h2:gt xs (t:Int)≤x
      ·by_cases h3:y - tol - tol≤gt ys (t:Int)
       ·by_cases h4:gt ys (t:Int)≤y
        ·rw [if_pos (hiff.2 ⟨⟨h1,h2⟩,h3,h4⟩)] at hcs
         repeat refine aB ?_
         refine gJ (i - (t+1)) (⟨t+1,N+1,by omega,by omega,hcs.symm,rfl,rfl,rfl⟩)
        ·rw [if_neg (fun h=>h4 (hiff.1 h).2.2)] at hcs
         repeat refine aB ?_
         refine gJ (i - (t+1)) (⟨t+1,N,by omega,by omega,hcs.symm,rfl,rfl,rfl⟩)
       ·rw [if_neg (fun h=>h3 (hiff.1 h).2.1)] at hcs
        repeat refine aB ?_
        refine gJ (i - (t+1)) (⟨t+1,N,by omega,by omega,hcs.symm,rfl,rfl,rfl⟩)
      ·rw [if_neg (fun h=>h2 (hiff.1 h).1.2)] at hcs
       repeat refine aB ?_
       refine gJ (i - (t+1)) (⟨t+1,N,by omega,by omega,hcs.symm,rfl,rfl,rfl⟩)
     ·rw [if_neg (fun h=>h1 (hiff.1 h).1.1)] at hcs
      repeat refine aB ?_
      refine gJ (i - (t+1)) (⟨t+1,N,by omega,by omega,hcs.symm,rfl,rfl,rfl⟩)
    ·obtain rfl:t=i:=by omega
     rw [←hdl,List.take_length] at hN
     have hNc:N=sH (rC l) tol x y:=hN
     by_cases hgt:most < N
     ·have hB2:BInv (rC l) tol (Vis xl cl a (j+1)) (x - tol+tol) (y - tol+tol) N:=by
       rw [Int.sub_add_cancel,Int.sub_add_cancel]
       by_cases h:j < cl.length
       ·have:=(aJY hxa hca hB hax h).1
        rw [hxe,←hg.1 h,←hNc] at this
        exact this hgt
       ·have:=(aLF (by omega) hax hcd hB y).1
        rw [hxe,←hNc] at this
        omega
      repeat refine aB ?_
      (refine aC rfl (fun _=>tK (vals:=[.int .i64 (x - tol), .int .i64 (y - tol)]) (cells:=[.int .i64 (x - tol), .int .i64 (y - tol)]) rfl ?hpl rfl ?hz) rfl rfl ?_;(case hpl=>repeat (first|exact True.intro|refine ⟨rfl,?_⟩));(case hz=>rfl))
      repeat refine aB ?_
      refine gJ (m - (j+1)) (⟨j+1,x - tol,y - tol,N,by omega,rfl,by omega,hB2,rfl,rfl,rfl⟩)
     ·have hB2:BInv (rC l) tol (Vis xl cl a (j+1)) (bx+tol) (by_+tol) most:=by
       by_cases h:j < cl.length
       ·have:=(aJY hxa hca hB hax h).2
        rw [hxe,←hg.1 h,←hNc] at this
        exact this hgt
       ·exact (aLF (by omega) hax hcd hB y).2
      repeat refine aB ?_
      refine gJ (m - (j+1)) (⟨j+1,bx,by_,most,by omega,rfl,hmi,hB2,rfl,rfl,rfl⟩)
   ·obtain rfl:j=m:=by omega
    have hB2:=aTT hB hax hclE
    repeat refine aB ?_
    refine gJ (xl.length - (a+1)) (⟨a+1,E2,bx,by_,most,by omega,rfl,hE2l,hE2z,hmi,hB2,rfl,rfl,rfl⟩)
  ·obtain rfl:a=xl.length:=by omega
   have hend:=bBV hB (fun z=>by rw [hxm,hxs];exact aZE) (fun z=>by rw [hcm,hys];exact aQL) hl0 ht1
   repeat refine aB ?_
   refine fB (M':= .blk b4 [.int .i64 bx, .int .i64 by_] 28::M0) (I':=I0) aF aD ?_
   refine fF (rs:=[.cell 4 28, .tmp 5, .tmp 6]) (vs:=[.agg [.int .i64 bx, .int .i64 by_].toArray, .int .i64 most, .int .i64 0]) (.inl rfl) rfl (.cellN (cs:=[.int .i64 bx, .int .i64 by_]) inferInstance rfl aA rfl (.tmp rfl (.tmp rfl .nil))) rfl M0 I0 aF aD ⟨rfl,rfl,bx+tol,by_+tol,most,hend,by rw [Int.add_sub_cancel,Int.add_sub_cancel]⟩
end
structure PreP (n a:Nat) (pre:List Int):Prop where
 lt:∀x∈pre,0≤x∧x < n∧x < a
 asc:pre.Pairwise (· < ·)
theorem PreP.snoc {n a i:Nat} {pre:List Int} (h:PreP n a pre) (hai:a≤i) (hi:i < n):PreP n (i+1) (pre++[(i:Int)]):=by
 refine ⟨fun x hx=>?_,List.pairwise_append.2 ⟨h.asc,List.pairwise_singleton _ _,fun x hx y hy=>?_⟩⟩
 ·rcases List.mem_append.1 hx with hx|hx
  ·have:=h.lt x hx;omega
  ·rw [List.mem_singleton.1 hx];omega
 ·rw [List.mem_singleton.1 hy]
  have:=h.lt x hx;omega
theorem PreP.smp {n a:Nat} {pre:List Int} (h:PreP n a pre):SmpP n pre.length 0 pre:=⟨rfl,fun x hx=>by have:=h.lt x hx;omega,h.asc⟩
theorem aYL {vis:List (List Int)} {n k a m:Nat} {pre:List Int}:
  (vis++(aBD n k a m).map (fun l=>pre++l))++(cmb n k (a+m+1)).map (fun l=>(pre++[((a+m:Nat):Int)])++l)=vis++(aBD n k a (m+1)).map (fun l=>pre++l):=by
 rw [aGP,List.map_append,List.map_map,List.append_assoc]
 congr 2
 refine List.map_congr_left (fun l _=>?_)
 simp
section
variable {σ:Type} (en:σ→Ent) (im:σ→aM) [∀s,Fx.Good (im s)] (R:List (List Int)→σ→Prop)
variable {X:List Nat} {w0:World} {M0 M1:List Ent} {I0:List aM}
set_option linter.unusedSectionVars false in
theorem aZZ {n size b6 b4 b5 b3 b7:Nat} {g:FuncId} [FnOk Tryz.prog g] {fs cs:Array Value} (hn:n≤64) (hsz:size≤8)
  (f4:aH (some ⟨b4,0,none⟩) [.int .i64 (size:Int)]∈I0) (f3:aH (some ⟨b3,0,none⟩) [.int .i64 (n:Int)]∈I0) (f5:aH (some ⟨b5,0,none⟩) [.func (.func g) fs cs]∈I0)
  (f7:aH (some ⟨b7,0,none⟩) [.func (.func 105) #[] #[.pointer (some ⟨b6,0,none⟩), .pointer (some ⟨b4,0,none⟩), .pointer (some ⟨b5,0,none⟩), .pointer (some ⟨b3,0,none⟩), .pointer (some ⟨b7,0,none⟩)]]∈I0)
  (hV:∀(vis:List (List Int)) (s:σ) (l:List Int) (q:Option Addr) (c:Nat) (M2:List Ent),R vis s→SmpP n size 0 l→CD Tryz.prog g (fs.toList++[.slice q size c]++cs.toList) X w0 (.row q size c (recs eZ l) 3 1::en s::M2) (im s::I0)
   (fun _ M I=>∃s',R (vis++[l]) s'∧M= .row q size c (recs eZ l) 3 1::en s'::M2∧I=im s'::I0)):
  ∀(k a:Nat) (ai:Int) (pre:List Int) (vis:List (List Int)) (s:σ) (q:Option Addr) (c pl:Nat),ai=(a:Int)→pl=pre.length→pl+k=size→a≤n→PreP n a pre→R vis s→
   CD Tryz.prog 105 [.int .i64 ai, .pointer (some ⟨b6,0,none⟩), .pointer (some ⟨b4,0,none⟩), .pointer (some ⟨b5,0,none⟩), .pointer (some ⟨b3,0,none⟩), .pointer (some ⟨b7,0,none⟩)] X w0
    (.blk b6 [.slice q pl c] 31:: .row q pl c (recs eZ pre) 3 1::en s::M1) (im s::I0)
    (fun _ M I=>∃(s':σ) (q':Option Addr) (c':Nat),R (vis++(cmb n k a).map (fun l=>pre++l)) s'∧M= .blk b6 [.slice q' pl c'] 31:: .row q' pl c' (recs eZ pre) 3 1::en s'::M1∧I=im s'::I0):=by
 intro k
 induction k with
 |zero=>
  intro a ai pre vis s q c pl hai hpl hk han hp hR
  have hpz:pl=size:=by omega
  have hsm:SmpP n size 0 pre:=by rw [←hpz,hpl];exact hp.smp
  have hVs:=fun M2=>hV vis s pre q c M2 hR hsm
  rw [←hpz] at hVs f4
  have hfin:vis++[pre]=vis++(cmb n 0 a).map (fun l=>pre++l):=by simp [cmb]
  refine aPV Tryz.func105 rfl Tryz.ntmps105 rfl ?_
  repeat refine aB ?_
  refine yN (M':= .row q pl c (recs eZ pre) 3 1::en s:: .blk b6 [.slice q pl c] 31::M1) (I':=im s::I0) aF aD ?_
  (refine eQ rfl rfl (hVs _) rfl rfl rfl ?_;rintro _ _ _ ⟨s2,hR2,rfl,rfl⟩;refine aL ?_)
  repeat refine aB ?_
  refine fB (M':= .blk b6 [.slice q pl c] 31:: .row q pl c (recs eZ pre) 3 1::en s2::M1) (I':=im s2::I0) aF aD ?_
  refine nH (by first|exact .inl rfl|exact .inr rfl) rfl _ _ aF aD (⟨s2,q,c,by rw [←hfin];exact hR2,rfl,rfl⟩)
 |succ k0 ih=>
  intro a ai pre vis s q c pl hai hpl hk han hp hR
  subst hai
  subst hpl
  refine aPV Tryz.func105 rfl Tryz.ntmps105 rfl ?_
  repeat refine aB ?_
  refine lV [1,2,4,5] rfl (fun k G M I=>∃(m:Nat) (i:Int) (s:σ) (q:Option Addr) (c:Nat),m≤n - a∧i=((a+m:Nat):Int)∧k=n - a - m∧R (vis++(aBD n k0 a m).map (fun l=>pre++l)) s∧G=[(7, .int .i64 i)]∧M= .blk b6 [.slice q pre.length c] 31:: .row q pre.length c (recs eZ pre) 3 1::en s::M1∧I=im s::I0) (n - a) (⟨0,(a:Int),s,q,c,by omega,rfl,rfl,by rw [aRO];simpa using hR,rfl,rfl,rfl⟩) ?_
  rintro kk G M I ⟨m,i,s,q,c,hm,hi,rfl,hR,rfl,rfl,rfl⟩
  by_cases hlt:a+m+(k0+1)≤n
  ·have hih:=fun vis s q c hR=>ih (a+m+1) (i+1) (pre++[i]) vis s q c (pre++[i]).length (by omega) rfl (by simp;omega) (by omega) (by rw [hi];exact hp.snoc (by omega) (by omega)) hR
   have hl1:(pre++[i]).length=pre.length+1:=by simp
   repeat refine aB ?_
   refine gX (cs:=recs eZ [i]) ([.int .i64 i]) rfl (fun b9=>?_)
   refine wB (ys:=[i]) 2 rfl rfl rfl (fun q2 c2=>?_)
   repeat refine aB ?_
   refine yN (M':= .blk b6 [.slice q2 (pre++[i]).length c2] 31:: .row q2 (pre++[i]).length c2 (recs eZ (pre++[i])) 3 1::en s::M1) (I':=im s::I0) aF aD ?_
   (refine eQ rfl rfl (hih _ s q2 c2 hR) rfl rfl rfl ?_;rintro _ _ _ ⟨s2,q3,c3,hR2,rfl,rfl⟩;refine aL ?_)
   rw [hi,aYL] at hR2
   refine nG (φ:=∃b,q3=some ⟨b,0,none⟩∧(pre++[i]).length≤c3) (fun w hw=>Mem.rowA hw (List.Mem.tail _ (List.Mem.head _)) (by omega)) (fun hb=>?_)
   obtain ⟨b,rfl,hc3⟩:=hb
   repeat refine aB ?_
   (refine aC rfl (fun _=>qY pre.length rfl rfl (by omega) (by omega)) rfl rfl ?_)
   repeat refine aB ?_
   refine bDV (m':=pre.length) (.there .here) (by omega) ?_
   rw [show (recs eZ (pre++[i])).take (pre.length*1)=recs eZ pre by rw [lQ];exact List.take_left' (by rw [fH])]
   refine gJ (n - a - (m+1)) (⟨m+1,i+1,s2,some ⟨b,0,none⟩,c3,by omega,by omega,rfl,hR2,rfl,rfl,rfl⟩)
  ·have he:aBD n k0 a m=cmb n (k0+1) a:=aVH (by omega) hm
   rw [he] at hR
   repeat refine aB ?_
   refine nH (by first|exact .inl rfl|exact .inr rfl) rfl _ _ aF aD (⟨s,q,c,hR,rfl,rfl⟩)
theorem aOJ {n size:Nat} {g:FuncId} [FnOk Tryz.prog g] {fs cs:Array Value} (hn:n≤64) (hsz:size≤8) {s0:σ} (h0:R [] s0)
  (hV:∀(I1:List aM),(∀φ∈I0,φ∈I1)→∀(vis:List (List Int)) (s:σ) (l:List Int) (q:Option Addr) (c:Nat) (M2:List Ent),R vis s→SmpP n size 0 l→CD Tryz.prog g (fs.toList++[.slice q size c]++cs.toList) X w0 (.row q size c (recs eZ l) 3 1::en s::M2) (im s::I1)
   (fun _ M I=>∃s',R (vis++[l]) s'∧M= .row q size c (recs eZ l) 3 1::en s'::M2∧I=im s'::I1)):
  CD Tryz.prog 42 [.int .i64 (n:Int), .int .i64 (size:Int), .func (.func g) fs cs] X w0 (en s0::M1) (im s0::I0) (fun _ M I=>∃s',R (cmb n size 0) s'∧M=en s'::M1∧I=im s'::I0):=by
 refine gG Tryz.func42 rfl Tryz.ntmps42 rfl ?_
 refine iH ?_
 refine tyX rfl (fun b3=>?_)
 refine aI .here ?_
 refine tyX rfl (fun b4=>?_)
 refine aI .here ?_
 refine tyX rfl (fun b5=>?_)
 refine aI .here ?_
 repeat refine aB ?_
 (refine aUR size rfl rfl (by omega) (by omega) (by omega) rfl rfl ?_;intro bs;refine aL ?_)
 refine dS (fun b6=>?_)
 repeat refine aB ?_
 refine dS (fun b7=>?_)
 repeat refine aB ?_
 refine aI .here ?_
 refine yN (M':= .blk b6 [.slice (some ⟨bs,0,none⟩) 0 size] 31:: .row (some ⟨bs,0,none⟩) 0 size (recs eZ []) 3 1::en s0::M1) (I':=im s0::aH (some ⟨b7,0,none⟩) [.func (.func 105) #[] #[.pointer (some ⟨b6,0,none⟩), .pointer (some ⟨b4,0,none⟩), .pointer (some ⟨b5,0,none⟩), .pointer (some ⟨b3,0,none⟩), .pointer (some ⟨b7,0,none⟩)]]::aH (some ⟨b5,0,none⟩) [.func (.func g) fs cs]::aH (some ⟨b4,0,none⟩) [.int .i64 (size:Int)]::aH (some ⟨b3,0,none⟩) [.int .i64 (n:Int)]::I0) aF aD ?_
 (refine eQ rfl rfl (aZZ en im R (M1:=M1) hn hsz aA aA aA aA (hV _ (fun φ h=>by simp [h])) size 0 0 [] [] s0 (some ⟨bs,0,none⟩) size 0 rfl rfl (by omega) (by omega) ⟨fun x hx=>absurd hx List.not_mem_nil,List.Pairwise.nil⟩ h0) rfl rfl rfl ?_;rintro _ _ _ ⟨s2,q2,c2,hR2,rfl,rfl⟩;refine aL ?_)
 repeat refine aB ?_
 refine fB (M':=en s2::M1) (I':=im s2::I0) aF aD ?_
 refine nH (by first|exact .inl rfl|exact .inr rfl) rfl _ _ aF aD (⟨s2,by simpa using hR2,rfl,rfl⟩)
end
theorem e15:2 ^ 15=32768:=rfl
abbrev zRg:List Value:=[.bool false, .slice none 0 0, .bool false, .slice none 0 0]
abbrev kM (k:Nat):Nat:=24*k+321
section
variable {X:List Nat} {w0:World} {M0 M1:List Ent} {I0:List aM}
theorem aUZ {r:RL} {s:Q4} {b3 k:Nat} (hk:k≤10000000000) (hl:r.es.length=3) (hn:s.near) (hr:Hv I0 (iQ r k)) (hp:Hv I0 (aH (some ⟨b3,0,none⟩) (iL s))):
  CD Tryz.prog 190 [lv r, .pointer (some ⟨b3,0,none⟩)] X w0 M0 I0 (RQ (r.q.getD 0 0*(s.x:Rat)+r.q.getD 1 0*(s.y:Rat)+r.q.getD 2 0) (3*k+32) M0 I0):=by
 obtain ⟨n1,n2,n3,n4⟩:=hn
 have q0:r.q.getD 0 0=(gt r.es 0).q:=iM (by omega)
 have q1:r.q.getD 1 0=(gt r.es 1).q:=iM (by omega)
 have q2:r.q.getD 2 0=(gt r.es 2).q:=iM (by omega)
 have hWx:=fun M0 I0=>jG (X:=X) (w0:=w0) (M0:=M0) (I0:=I0) (x:=s.x) (by omega) (k:=15) (by rw [e15];omega)
 have hWy:=fun M0 I0=>jG (X:=X) (w0:=w0) (M0:=M0) (I0:=I0) (x:=s.y) (by omega) (k:=15) (by rw [e15];omega)
 have hM:=fun (a b:RE) M0 I0 h1 h2=>sQ (X:=X) (w0:=w0) (M0:=M0) (I0:=I0) (a:=a) (b:=b) (k:=k) (m:=15) (by omega) h1 h2
 have hA:=fun (a b:RE) M0 I0 h1 h2=>vV (X:=X) (w0:=w0) (M0:=M0) (I0:=I0) (a:=a) (b:=b) (k:=k+15) (m:=k+15) (by omega) h1 h2
 have hA2:=fun (a b:RE) M0 I0 h1 h2=>vV (X:=X) (w0:=w0) (M0:=M0) (I0:=I0) (a:=a) (b:=b) (k:=k+15+(k+15)+1) (m:=k) (by omega) h1 h2
 refine aX (φ:=iQ r k) hr (aX (φ:=aH (some ⟨b3,0,none⟩) (iL s)) hp.cons (aX (φ:=aH r.p (recs eR r.es)) (Hv.lsl (k:=k) aA) ?_))
 refine aN Tryz.func190 rfl Tryz.ntmps190 rfl ?_
 refine iH ?_
 refine dS (fun b4=>?_)
 repeat refine aB ?_
 (repeat refine aG ?_);refine qQ (M0) (aH r.p (recs eR r.es)::aH (some ⟨b3,0,none⟩) (iL s)::iQ r k::I0) [0,1,2,3,4,5,8,9,10,11,12,13,17,18,19,6,7,14,15,16,20,21] [6,6,5,6,6,5,6,6,5,6,6,5,6,6,5,0,0,0,0,0,0,0] mixed ?_
 repeat refine aB ?_
 (refine aQ rfl (hWx _ _) ?_;rintro _ _ _ ⟨rfl,ex,rfl,hex,rfl⟩;refine aL ?_)
 (refine aQ rfl (hM (gt r.es 0) ex _ _ (Hv.lel (r:=r) (k:=k) aA ⟨by omega,by omega⟩) (Hv.mem aA)) ?_;rintro _ _ _ ⟨rfl,f0,rfl,hf0,rfl⟩;refine aL ?_)
 (refine aQ rfl (hWy _ _) ?_;rintro _ _ _ ⟨rfl,ey,rfl,hey,rfl⟩;refine aL ?_)
 (refine aQ rfl (hM (gt r.es 1) ey _ _ (Hv.lel (r:=r) (k:=k) aA ⟨by omega,by omega⟩) (Hv.mem aA)) ?_;rintro _ _ _ ⟨rfl,f1,rfl,hf1,rfl⟩;refine aL ?_)
 (refine aQ rfl (hA f0 f1 _ _ (Hv.mem aA) (Hv.mem aA)) ?_;rintro _ _ _ ⟨rfl,f2,rfl,hf2,rfl⟩;refine aL ?_)
 (refine aQ rfl (hA2 f2 (gt r.es 2) _ _ (Hv.mem aA) (Hv.lel (r:=r) (k:=k) aA ⟨by omega,by omega⟩)) ?_;rintro _ _ _ ⟨rfl,f3,rfl,hf3,rfl⟩;refine aL ?_)
 repeat refine aB ?_
 have e9:k+15+(k+15)+1+k+1=3*k+32:=by omega
 rw [e9]
 refine aT (cs:=eR f3) (.inl rfl) rfl rfl aA rfl M0 (bW f3 (3*k+32)::I0) aF aD ⟨rfl,f3,rfl,by rw [hf3,hf2,hf1,hf0,hex,hey,q0,q1,q2],rfl⟩
def MisP (m:Mt) (s:Q4) (k:Nat) (M0:List Ent) (I0:List aM) (v:Value) (M:List Ent) (I:List aM):Prop:=
 M0=M∧if xU m 2 s=0 then I0=I∧v= .tuple #[zR, .bool false] else ∃e:RE,v= .tuple #[rv e, .bool true]∧e.q=aCM m s∧I=bW e (kM k)::I0
theorem aMS {m:MX} {i:Nat} (hi:i < m.rows.length) (j:Nat):at2 m.q i j=(gt m.rows (i:Int)).q.getD j 0:=by
 rw [gtQ hi];simp [at2,rowAt,MX.q,List.getD,hi]
theorem bBK {m:MX} {s:Q4} {k:Nat} (hk:k≤3000000000) (dm:m.dim 3 3) (hn:s.near) (hm:iB m k∈I0):
  CD Tryz.prog 110 [mv m,vQ4 s] X w0 M0 I0 (MisP m.q s k M0 I0):=by
 obtain ⟨n1,n2,n3,n4⟩:=hn
 have hR:=dm.1
 have hrow:∀i:Nat,i < 3→(gt m.rows (i:Int)).es.length=3:=fun i hi=>dm.2 _ (bD (by omega))
 have hrq:∀i:Nat,i < 3→(gt m.rows (i:Int)).q.getD 0 0*(s.x:Rat)+(gt m.rows (i:Int)).q.getD 1 0*(s.y:Rat)+(gt m.rows (i:Int)).q.getD 2 0=xU m.q i s:=fun i hi=>by
  unfold xU;rw [aMS (by omega),aMS (by omega),aMS (by omega)]
 have hAt:=fun (i:Nat) (b3:Nat) (hi:i < 3) M0 I0 h1 h2=>aUZ (X:=X) (w0:=w0) (M0:=M0) (I0:=I0) (r:=gt m.rows (i:Int)) (s:=s) (b3:=b3) (k:=k) (by omega) (hrow i hi) ⟨n1,n2,n3,n4⟩ h1 h2
 have hWu:=fun M0 I0=>jG (X:=X) (w0:=w0) (M0:=M0) (I0:=I0) (x:=s.u) (by omega) (k:=15) (by rw [e15];omega)
 have hWv:=fun M0 I0=>jG (X:=X) (w0:=w0) (M0:=M0) (I0:=I0) (x:=s.v) (by omega) (k:=15) (by rw [e15];omega)
 have hO:=fun (a b:RE) (h0:b.q≠0) M0 I0 h1 h2=>aUM (X:=X) (w0:=w0) (M0:=M0) (I0:=I0) (a:=a) (b:=b) (k:=3*k+32) (m:=3*k+32) (by omega) h0 h1 h2
 have hS:=fun (a b:RE) M0 I0 h1 h2=>aQM (X:=X) (w0:=w0) (M0:=M0) (I0:=I0) (a:=a) (b:=b) (k:=3*k+32+(3*k+32)) (m:=15) (by omega) h1 h2
 have hM:=fun (a:RE) M0 I0 h1=>sQ (X:=X) (w0:=w0) (M0:=M0) (I0:=I0) (a:=a) (b:=a) (k:=3*k+32+(3*k+32)+15+1) (m:=3*k+32+(3*k+32)+15+1) (by omega) h1 h1
 obtain ⟨K,hK⟩:∃K,3*k+32+(3*k+32)+15+1=K:=⟨_,rfl⟩
 rw [hK] at hM
 have hA:=fun (a b:RE) M0 I0 h1 h2=>vV (X:=X) (w0:=w0) (M0:=M0) (I0:=I0) (a:=a) (b:=b) (k:=K+K) (m:=K+K) (by omega) h1 h2
 refine aX (φ:=iB m k) (Hv.mem hm) (aX (φ:=aH m.p (recs eL m.rows)) (Hv.xsl (k:=k) aA) ?_)
 refine aN Tryz.func110 rfl Tryz.ntmps110 rfl ?_
 refine iH ?_
 refine gU rfl (fun b3=>?_)
 refine aI .here ?_
 refine dS (fun b4=>?_)
 repeat refine aB ?_
 (refine eQ rfl rfl (hAt 2 b3 (by omega) _ _ (Hv.xrow (m:=m) (k:=k) aA ⟨by omega,by omega⟩) (Hv.mem aA)) rfl rfl rfl ?_;rintro _ _ _ ⟨rfl,c,rfl,hc,rfl⟩;refine aL ?_)
 rw [hrq 2 (by omega)] at hc
 repeat refine aB ?_
 refine dS (fun b7=>?_)
 repeat refine aB ?_
 refine dK rfl (nD (e:=c) (k:=3*k+32) (by omega) (Hv.mem aA)) ?_
 by_cases h0:xU m.q 2 s=0
 ·have hs0:c.q.num.sign=0:=sgnQ.2 (by rw [hc];exact h0)
  rw [hs0]
  repeat refine aB ?_
  (refine aC rfl (fun _=>bF (pvs:=([]).zipIdx.map (fun p=>(p.2,p.1))) (cells:=zRg) rfl rfl) rfl rfl ?_)
  repeat refine aB ?_
  refine fB (M':= .blk b4 zRg 77::M0) (I':=I0) aF aD ?_
  refine fF (rs:=[.cell 4 77, .tmp 5]) (vs:=[zR, .bool false]) (.inl rfl) rfl (.cellN (cs:=zRg) inferInstance rfl aA rfl (.tmp rfl .nil)) rfl M0 I0 aF aD ⟨rfl,by rw [if_pos h0];exact ⟨rfl,rfl⟩⟩
 ·have hs0:¬c.q.num.sign=0:=fun e=>h0 (by rw [←hc];exact sgnQ.1 e)
  have hc0:c.q≠0:=by rw [hc];exact h0
  repeat refine aB ?_
  refine nJ (fun G M I=>∃(b8:Nat) (ex:RE),ex.q=misX m.q s∧G=[(0,mv m),(3, .pointer (some ⟨b3,0,none⟩)),(4, .pointer (some ⟨b4,0,none⟩)),(6, .func (.func 190) #[] #[.pointer (some ⟨b3,0,none⟩)]),(7, .pointer (some ⟨b7,0,none⟩)),(8, .pointer (some ⟨b8,0,none⟩))]∧M= .blk b8 (eR ex) 77:: .blk b7 (eR c) 77:: .blk b4 zRg 77::M0∧I=bW ex K::bW c (3*k+32)::aH (some ⟨b3,0,none⟩) (iL s)::aH m.p (recs eL m.rows)::iB m k::I0) ?_ ?_
  ·((repeat refine aG ?_);refine pV (.blk b7 (eR c) 77::M0) (bW c (3*k+32)::aH (some ⟨b3,0,none⟩) (iL s)::aH m.p (recs eL m.rows)::iB m k::I0) mixed ?_)
   refine dM (fuel:=6) (listed':=#[true,true,true,true,false,true,false,true,true,true,false,false,false,false]) [0,1,2,3,5,7,8,9] [4,5,5,4,4,5,5,4] aF aD (by kernel_rfl) (by kernel_rfl) rfl rfl ?_
   repeat refine aB ?_
   refine bB (fuel:=5) (i:=4) (j:=12) (by kernel_rfl) ?_ ?_
   ·(refine eQ rfl rfl (hAt 0 b3 (by omega) _ _ (Hv.xrow (m:=m) (k:=k) aA ⟨by omega,by omega⟩) (Hv.mem aA)) rfl rfl rfl ?_;rintro _ _ _ ⟨rfl,g0,rfl,hg0,rfl⟩;refine aL ?_)
    refine bK ?_
    repeat refine aB ?_
    refine bB (fuel:=4) (i:=6) (j:=12) (by kernel_rfl) ?_ ?_
    ·(refine aQ rfl (hO g0 c hc0 _ _ (Hv.mem aA) (Hv.mem aA)) ?_;rintro _ _ _ ⟨rfl,g1,rfl,hg1,rfl⟩;refine aL ?_)
     refine bK ?_
     repeat refine aB ?_
     refine bB (fuel:=3) (i:=10) (j:=12) (by kernel_rfl) ?_ ?_
     ·(refine aQ rfl (hWu _ _) ?_;rintro _ _ _ ⟨rfl,gu,rfl,hgu,rfl⟩;refine aL ?_)
      refine bK ?_
      repeat refine aB ?_
      refine bB (fuel:=2) (i:=11) (j:=12) (by kernel_rfl) ?_ ?_
      ·(refine aQ rfl (hS g1 gu _ _ (Hv.mem aA) (Hv.mem aA)) ?_;rintro _ _ _ ⟨rfl,g2,rfl,hg2,rfl⟩;refine aL ?_)
       refine bK ?_
       refine bL [12,13] [0,0] aF aD (by kernel_rfl) (by kernel_rfl) rfl rfl ?_
       repeat refine aB ?_
       refine dS (fun b8=>?_)
       repeat refine aB ?_
       (rw [hK];refine yA ⟨b8,g2,by rw [hg2,hg1,hg0,hgu,hrq 0 (by omega),hc];rfl,rfl,rfl,rfl⟩)
      ·refine dS (fun b8=>?_)
       refine bK ?_
       refine bL [11,13] [0,0] aF aD (by kernel_rfl) (by kernel_rfl) rfl rfl ?_
       repeat refine aB ?_
       (refine aQ rfl (hS g1 gu _ _ (Hv.mem aA) (Hv.mem aA)) ?_;rintro _ _ _ ⟨rfl,g2,rfl,hg2,rfl⟩;refine aL ?_)
       repeat refine aB ?_
       (rw [hK];refine yA ⟨b8,g2,by rw [hg2,hg1,hg0,hgu,hrq 0 (by omega),hc];rfl,rfl,rfl,rfl⟩)
     ·refine dS (fun b8=>?_)
      refine bK ?_
      refine bL [10,11,13] [0,0,0] aF aD (by kernel_rfl) (by kernel_rfl) rfl rfl ?_
      repeat refine aB ?_
      (refine aQ rfl (hWu _ _) ?_;rintro _ _ _ ⟨rfl,gu,rfl,hgu,rfl⟩;refine aL ?_)
      repeat refine aB ?_
      (refine aQ rfl (hS g1 gu _ _ (Hv.mem aA) (Hv.mem aA)) ?_;rintro _ _ _ ⟨rfl,g2,rfl,hg2,rfl⟩;refine aL ?_)
      repeat refine aB ?_
      (rw [hK];refine yA ⟨b8,g2,by rw [hg2,hg1,hg0,hgu,hrq 0 (by omega),hc];rfl,rfl,rfl,rfl⟩)
    ·refine dS (fun b8=>?_)
     refine bK ?_
     refine bL [6,10,11,13] [0,0,0,0] aF aD (by kernel_rfl) (by kernel_rfl) rfl rfl ?_
     repeat refine aB ?_
     (refine aQ rfl (hO g0 c hc0 _ _ (Hv.mem aA) (Hv.mem aA)) ?_;rintro _ _ _ ⟨rfl,g1,rfl,hg1,rfl⟩;refine aL ?_)
     repeat refine aB ?_
     (refine aQ rfl (hWu _ _) ?_;rintro _ _ _ ⟨rfl,gu,rfl,hgu,rfl⟩;refine aL ?_)
     repeat refine aB ?_
     (refine aQ rfl (hS g1 gu _ _ (Hv.mem aA) (Hv.mem aA)) ?_;rintro _ _ _ ⟨rfl,g2,rfl,hg2,rfl⟩;refine aL ?_)
     repeat refine aB ?_
     (rw [hK];refine yA ⟨b8,g2,by rw [hg2,hg1,hg0,hgu,hrq 0 (by omega),hc];rfl,rfl,rfl,rfl⟩)
   ·refine dS (fun b8=>?_)
    refine bK ?_
    refine bL [4,6,10,11,13] [0,0,0,0,0] aF aD (by kernel_rfl) (by kernel_rfl) rfl rfl ?_
    repeat refine aB ?_
    (refine eQ rfl rfl (hAt 0 b3 (by omega) _ _ (Hv.xrow (m:=m) (k:=k) aA ⟨by omega,by omega⟩) (Hv.mem aA)) rfl rfl rfl ?_;rintro _ _ _ ⟨rfl,g0,rfl,hg0,rfl⟩;refine aL ?_)
    repeat refine aB ?_
    (refine aQ rfl (hO g0 c hc0 _ _ (Hv.mem aA) (Hv.mem aA)) ?_;rintro _ _ _ ⟨rfl,g1,rfl,hg1,rfl⟩;refine aL ?_)
    repeat refine aB ?_
    (refine aQ rfl (hWu _ _) ?_;rintro _ _ _ ⟨rfl,gu,rfl,hgu,rfl⟩;refine aL ?_)
    repeat refine aB ?_
    (refine aQ rfl (hS g1 gu _ _ (Hv.mem aA) (Hv.mem aA)) ?_;rintro _ _ _ ⟨rfl,g2,rfl,hg2,rfl⟩;refine aL ?_)
    repeat refine aB ?_
    (rw [hK];refine yA ⟨b8,g2,by rw [hg2,hg1,hg0,hgu,hrq 0 (by omega),hc];rfl,rfl,rfl,rfl⟩)
  ·rintro G M I ⟨b8,ex,hex,rfl,rfl,rfl⟩
   refine aG ?_
   refine nJ (fun G M I=>∃(b9:Nat) (ey:RE),ey.q=misY m.q s∧G=[(4, .pointer (some ⟨b4,0,none⟩)),(8, .pointer (some ⟨b8,0,none⟩)),(9, .pointer (some ⟨b9,0,none⟩))]∧M= .blk b9 (eR ey) 77:: .blk b8 (eR ex) 77:: .blk b4 zRg 77::M0∧I=bW ey K::bW ex K::I0) ?_ ?_
   ·((repeat refine aG ?_);refine pV (.blk b7 (eR c) 77::M0) (bW ex K::bW c (3*k+32)::aH (some ⟨b3,0,none⟩) (iL s)::aH m.p (recs eL m.rows)::iB m k::I0) mixed ?_)
    refine dM (fuel:=6) (listed':=#[true,true,true,true,false,true,false,true,true,true,false,false,false,false]) [0,1,2,3,5,7,8,9] [4,5,5,4,4,5,5,4] aF aD (by kernel_rfl) (by kernel_rfl) rfl rfl ?_
    repeat refine aB ?_
    refine bB (fuel:=5) (i:=4) (j:=12) (by kernel_rfl) ?_ ?_
    ·(refine eQ rfl rfl (hAt 1 b3 (by omega) _ _ (Hv.xrow (m:=m) (k:=k) aA ⟨by omega,by omega⟩) (Hv.mem aA)) rfl rfl rfl ?_;rintro _ _ _ ⟨rfl,g0,rfl,hg0,rfl⟩;refine aL ?_)
     refine bK ?_
     repeat refine aB ?_
     refine bB (fuel:=4) (i:=6) (j:=12) (by kernel_rfl) ?_ ?_
     ·(refine aQ rfl (hO g0 c hc0 _ _ (Hv.mem aA) (Hv.mem aA)) ?_;rintro _ _ _ ⟨rfl,g1,rfl,hg1,rfl⟩;refine aL ?_)
      refine bK ?_
      repeat refine aB ?_
      refine bB (fuel:=3) (i:=10) (j:=12) (by kernel_rfl) ?_ ?_
      ·(refine aQ rfl (hWv _ _) ?_;rintro _ _ _ ⟨rfl,gu,rfl,hgu,rfl⟩;refine aL ?_)
       refine bK ?_
       repeat refine aB ?_
       refine bB (fuel:=2) (i:=11) (j:=12) (by kernel_rfl) ?_ ?_
       ·(refine aQ rfl (hS g1 gu _ _ (Hv.mem aA) (Hv.mem aA)) ?_;rintro _ _ _ ⟨rfl,g2,rfl,hg2,rfl⟩;refine aL ?_)
        refine bK ?_
        refine bL [12,13] [0,0] aF aD (by kernel_rfl) (by kernel_rfl) rfl rfl ?_
        repeat refine aB ?_
        refine dS (fun b9=>?_)
        repeat refine aB ?_
        (rw [hK];refine yA ⟨b9,g2,by rw [hg2,hg1,hg0,hgu,hrq 1 (by omega),hc];rfl,rfl,rfl,rfl⟩)
       ·refine dS (fun b9=>?_)
        refine bK ?_
        refine bL [11,13] [0,0] aF aD (by kernel_rfl) (by kernel_rfl) rfl rfl ?_
        repeat refine aB ?_
        (refine aQ rfl (hS g1 gu _ _ (Hv.mem aA) (Hv.mem aA)) ?_;rintro _ _ _ ⟨rfl,g2,rfl,hg2,rfl⟩;refine aL ?_)
        repeat refine aB ?_
        (rw [hK];refine yA ⟨b9,g2,by rw [hg2,hg1,hg0,hgu,hrq 1 (by omega),hc];rfl,rfl,rfl,rfl⟩)
      ·refine dS (fun b9=>?_)
       refine bK ?_
       refine bL [10,11,13] [0,0,0] aF aD (by kernel_rfl) (by kernel_rfl) rfl rfl ?_
       repeat refine aB ?_
       (refine aQ rfl (hWv _ _) ?_;rintro _ _ _ ⟨rfl,gu,rfl,hgu,rfl⟩;refine aL ?_)
       repeat refine aB ?_
       (refine aQ rfl (hS g1 gu _ _ (Hv.mem aA) (Hv.mem aA)) ?_;rintro _ _ _ ⟨rfl,g2,rfl,hg2,rfl⟩;refine aL ?_)
       repeat refine aB ?_
       (rw [hK];refine yA ⟨b9,g2,by rw [hg2,hg1,hg0,hgu,hrq 1 (by omega),hc];rfl,rfl,rfl,rfl⟩)
     ·refine dS (fun b9=>?_)
      refine bK ?_
      refine bL [6,10,11,13] [0,0,0,0] aF aD (by kernel_rfl) (by kernel_rfl) rfl rfl ?_
      repeat refine aB ?_
      (refine aQ rfl (hO g0 c hc0 _ _ (Hv.mem aA) (Hv.mem aA)) ?_;rintro _ _ _ ⟨rfl,g1,rfl,hg1,rfl⟩;refine aL ?_)
      repeat refine aB ?_
      (refine aQ rfl (hWv _ _) ?_;rintro _ _ _ ⟨rfl,gu,rfl,hgu,rfl⟩;refine aL ?_)
      repeat refine aB ?_
      (refine aQ rfl (hS g1 gu _ _ (Hv.mem aA) (Hv.mem aA)) ?_;rintro _ _ _ ⟨rfl,g2,rfl,hg2,rfl⟩;refine aL ?_)
      repeat refine aB ?_
      (rw [hK];refine yA ⟨b9,g2,by rw [hg2,hg1,hg0,hgu,hrq 1 (by omega),hc];rfl,rfl,rfl,rfl⟩)
    ·refine dS (fun b9=>?_)
     refine bK ?_
     refine bL [4,6,10,11,13] [0,0,0,0,0] aF aD (by kernel_rfl) (by kernel_rfl) rfl rfl ?_
     repeat refine aB ?_
     (refine eQ rfl rfl (hAt 1 b3 (by omega) _ _ (Hv.xrow (m:=m) (k:=k) aA ⟨by omega,by omega⟩) (Hv.mem aA)) rfl rfl rfl ?_;rintro _ _ _ ⟨rfl,g0,rfl,hg0,rfl⟩;refine aL ?_)
     repeat refine aB ?_
     (refine aQ rfl (hO g0 c hc0 _ _ (Hv.mem aA) (Hv.mem aA)) ?_;rintro _ _ _ ⟨rfl,g1,rfl,hg1,rfl⟩;refine aL ?_)
     repeat refine aB ?_
     (refine aQ rfl (hWv _ _) ?_;rintro _ _ _ ⟨rfl,gu,rfl,hgu,rfl⟩;refine aL ?_)
     repeat refine aB ?_
     (refine aQ rfl (hS g1 gu _ _ (Hv.mem aA) (Hv.mem aA)) ?_;rintro _ _ _ ⟨rfl,g2,rfl,hg2,rfl⟩;refine aL ?_)
     repeat refine aB ?_
     (rw [hK];refine yA ⟨b9,g2,by rw [hg2,hg1,hg0,hgu,hrq 1 (by omega),hc];rfl,rfl,rfl,rfl⟩)
   ·rintro G M I ⟨b9,ey,hey,rfl,rfl,rfl⟩
    (repeat refine aG ?_);refine qQ (.blk b9 (eR ey) 77:: .blk b8 (eR ex) 77::M0) (bW ey K::bW ex K::I0) [0,1,3,4,2,5,6,7,8] [2,2,2,2,0,0,0,0,0] mixed ?_
    repeat refine aB ?_
    (refine aQ rfl (hM ex _ _ (Hv.mem aA)) ?_;rintro _ _ _ ⟨rfl,f0,rfl,hf0,rfl⟩;refine aL ?_)
    (refine aQ rfl (hM ey _ _ (Hv.mem aA)) ?_;rintro _ _ _ ⟨rfl,f1,rfl,hf1,rfl⟩;refine aL ?_)
    (refine aQ rfl (hA f0 f1 _ _ (Hv.mem aA) (Hv.mem aA)) ?_;rintro _ _ _ ⟨rfl,f2,rfl,hf2,rfl⟩;refine aL ?_)
    repeat refine aB ?_
    have e9:K+K+(K+K)+1=kM k:=by show _=24*k+321;omega
    rw [e9]
    refine fF (rs:=[.cell 4 77, .tmp 5]) (vs:=[rv f2, .bool true]) (.inl rfl) rfl (.cellN (cs:=eR f2) inferInstance rfl aA rfl (.tmp rfl .nil)) rfl M0 (bW f2 (kM k)::I0) aF aD ⟨rfl,by rw [if_neg h0];exact ⟨f2,rfl,by rw [hf2,hf1,hf0,hex,hey];rfl,rfl⟩⟩
theorem aYV {m:MX} {q:Option Addr} {l:List Q4} {n c u:Nat} {tol:Int} (hk:u≤3000000000) (dm:m.dim 3 3) (hl:l.length=n) (hn:n≤64) (hs:∀s∈l,s.near) (ht:0≤tol∧tol≤1073741824) (hm:iB m u∈I0) (hq:aH q (recs iL l)∈I0):
  CD Tryz.prog 45 [mv m, .slice q n c, .int .i64 tol] X w0 M0 I0 (fun v M I=>M0=M∧∃(q':Option Addr) (c':Nat),v= .slice q' (mY m.q l tol).length c'∧I=aH q' (recs eZ (mY m.q l tol))::I0):=by
 have hWt:=fun M0 I0=>jG (X:=X) (w0:=w0) (M0:=M0) (I0:=I0) (x:=tol) (by omega) (k:=30) (by have:2 ^ 30=1073741824:=rfl;omega)
 refine aX (φ:=iB m u) (Hv.mem hm) (aX (φ:=aH q (recs iL l)) (Hv.mem (List.mem_cons_of_mem _ hq)) ?_)
 refine gG Tryz.func45 rfl Tryz.ntmps45 rfl ?_
 repeat refine aB ?_
 refine iN 3 1 ?_
 refine lV [0,2,12,13] rfl (fun k G M I=>∃(i:Nat) (zs:List Int) (qe:Option Addr) (ce:Nat),i≤n∧k=n - i∧zs=aMU m.q l tol i∧G=[(7, .slice qe zs.length ce),(14, .int .i64 i)]∧M= .row qe zs.length ce (recs eZ zs) 3 1::M0∧I=aH q (recs iL l)::iB m u::I0) (n) (⟨0,[],none,0,by omega,rfl,rfl,rfl,rfl,rfl⟩) ?_
 rintro kk G M I ⟨i,zs,qe,ce,hi,rfl,hzs,rfl,rfl,rfl⟩
 have hzl:zs.length≤i:=by rw [hzs];exact zC
 by_cases hin:i < n
 ·have hmem:=bD (ms:=l) (i:=(i:Int)) (by omega)
  obtain ⟨s,hss⟩:∃s,gt l (i:Int)=s:=⟨_,rfl⟩
  rw [hss] at hmem
  have hMs:=fun M0 I0 h=>bBK (X:=X) (w0:=w0) (M0:=M0) (I0:=I0) (m:=m) (s:=s) (k:=u) hk dm (hs s hmem) h
  unfold MisP at hMs
  have hst:aMU m.q l tol (i+1)=if okQ m.q tol s then zs++[(i:Int)] else zs:=by show (if okQ m.q tol (gt l (i:Int)) then _ else _)=_;rw [hss,hzs]
  repeat refine aB ?_
  rw [hss]
  refine dS (fun b9=>?_)
  repeat refine aB ?_
  by_cases h0:xU m.q 2 s=0
  ·simp only [if_pos h0] at hMs
   rw [if_neg (show ¬okQ m.q tol s from fun h=>h.1 h0)] at hst
   (refine aQ rfl (hMs _ _ aA) ?_;rintro _ _ _ ⟨rfl,rfl,rfl⟩;refine aL ?_)
   repeat refine aB ?_
   refine dS (fun b10=>?_)
   repeat refine aB ?_
   (repeat refine aG ?_);refine dJ [0,1,2,3,4,5,6,7] [2,0,1,1,0,0,0,0] mixed (by kernel_rfl) ?_
   repeat refine aB ?_
   refine gJ (n - (i+1)) (⟨i+1,zs,qe,ce,by omega,rfl,hst.symm,rfl,rfl,rfl⟩)
  ·simp only [if_neg h0] at hMs
   (refine aQ rfl (hMs _ _ aA) ?_;rintro _ _ _ ⟨rfl,e,rfl,he,rfl⟩;refine aL ?_)
   repeat refine aB ?_
   refine dS (fun b10=>?_)
   repeat refine aB ?_
   refine rY (M':= .blk b10 (eR e) 77:: .row qe zs.length ce (recs eZ zs) 3 1::M0) (I':=bW e (kM u)::aH q (recs iL l)::iB m u::I0) aF aD ?_
   (repeat refine aG ?_);refine qQ (.blk b10 (eR e) 77::M0) (bW e (kM u)::I0) [0,1,2,3,4,5,6,7] [2,0,1,1,0,0,0,0] mixed ?_
   repeat refine aB ?_
   (refine aQ rfl (hWt _ _) ?_;rintro _ _ _ ⟨rfl,et,rfl,het,rfl⟩;refine aL ?_)
   (refine bY rfl (aME (a:=e) (b:=et) (k:=kM u) (m:=30) (by show 24*u+321+30≤_;omega) (Hv.mem aA) (Hv.mem aA)) rfl rfl ?_;rintro _ _ _ ⟨rfl,rfl,rfl⟩;refine aL ?_)
   have hcp:aFI e.q et.q≤0↔aCM m.q s≤(tol:Rat):=by rw [aZJ,he,het]
   by_cases h1:aCM m.q s≤(tol:Rat)
   ·rw [if_pos (show okQ m.q tol s from ⟨h0,h1⟩)] at hst
    have h2:=hcp.2 h1
    repeat refine aB ?_
    refine gX (cs:=recs eZ [(i:Int)]) ([.int .i64 (i:Int)]) rfl (fun b=>?_)
    refine wB (ys:=[(i:Int)]) 2 rfl rfl rfl (fun q2 c3=>?_)
    repeat refine aB ?_
    refine gJ (n - (i+1)) (⟨i+1,zs++[(i:Int)],q2,c3,by omega,rfl,hst.symm,rfl,rfl,rfl⟩)
   ·rw [if_neg (show ¬okQ m.q tol s from fun h=>h1 h.2)] at hst
    have h2:¬aFI e.q et.q≤0:=fun h=>h1 (hcp.1 h)
    repeat refine aB ?_
    refine gJ (n - (i+1)) (⟨i+1,zs,qe,ce,by omega,rfl,hst.symm,rfl,rfl,rfl⟩)
 ·obtain rfl:i=n:=by omega
  have hz:zs=mY m.q l tol:=by rw [hzs];unfold mY;rw [hl]
  subst hz
  repeat refine aB ?_
  refine aEF .here ?_
  refine iA rfl rfl (⟨rfl,qe,ce,rfl,rfl⟩)
end
end Go.Proofs.YtmmmfphealhapaaGreat

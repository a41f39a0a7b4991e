/- TopMerged, walked: the way through. -/
import Derived.Test.YthhldplegmeolaaGreatZuaz
import Derived.Test.YthhldplegmeolaaGreatZuar
import Derived.Test.YthhldplegmeolaaGreatZuau
set_option linter.unusedSimpArgs false
set_option linter.unusedVariables false
set_option maxRecDepth 100000
set_option maxHeartbeats 4000000
namespace Go.Proofs.YthhldplegmeolaaGreat
open Go Go.Fx
theorem tm9 {w:Int} (h:0≤w∧w≤255):0≤w.tmod 9∧w.tmod 9≤8:=by
 rw [Int.tmod_eq_emod_of_nonneg h.1]
 omega
section
variable {X:List Nat} {w0:World} {M0:List Ent} {I0:List aN}
theorem aRU {m:LE} {R n i:Nat} {w:Int} (hw:0≤w∧w≤255) (f:m.fit R n) (hR:m.raw.rch) (hok:m.raw.few 8 4∧m.raw.code=0) (h7:R≤7) (hn4:n≤4) (hi:i < R) (hm:rV m.raw∈I0) (hE:eU m 30∈I0):CD Tryz.prog 3 [wM m, .int .i64 (i:Int), .int .u8 w] X w0 M0 I0 (fun v M I=>M0=M∧I0=I∧v= .bool true):=by
 have lR:=f.d.1.1
 have hll:=f.l
 have hr:=f.d.2.1
 have hri:=f.d.1.row hi
 have hC:=fun M0 I0 h=>wZ (X:=X) (w0:=w0) (M0:=M0) (I0:=I0) (m:=m.raw) hR h
 simp only [bV hok,yA] at hC
 have h9:=tm9 hw
 obtain ⟨z,hz⟩:∃z:Int,z=1+w.tmod 9:=⟨_,rfl⟩
 have hzb:1≤z∧z≤9:=by omega
 have hW:=fun M0 I0=>oO (X:=X) (w0:=w0) (M0:=M0) (I0:=I0) (x:=z) (by omega) (k:=4) (by omega)
 have hz0:0 < (z:Rat):=by
  have:((0:Int):Rat) < (z:Rat):=Rat.intCast_lt_intCast.2 (by omega)
  simpa using this
 refine aL (φ:=eU m 30) (Hv.mem hE) ?_
 refine aL (φ:=rV m.raw) (Hv.mem (List.Mem.tail _ hm)) ?_
 refine aL (φ:=gQ m.a 30) (Hv.lea aA) ?_
 refine aL (φ:=dL m.l 30) (Hv.lel' aA) ?_
 refine aL (φ:=aD (m.a).p (recs eL (m.a).rows)) (Hv.xsl aA) ?_
 refine aL (φ:=aD (m.l).p (recs eR (m.l).es)) (Hv.lsl aA) ?_
 refine aL (φ:=dL (gt m.a.rows (i:Int)) 30) (Hv.xrow (m:=m.a) aA (by omega)) ?_
 refine aL (φ:=bE (gt m.l.es (i:Int)) 30) (Hv.lel (r:=m.l) aA (by omega)) ?_
 refine iC Tryz.func3 rfl Tryz.ntmps3 rfl ?_
 refine fG ?_
 refine fQ rfl (fun b3=>?_)
 refine aG .here ?_
 repeat refine aC ?_
 refine dC rfl (wG) ?_
 repeat refine aC ?_
 (refine bA rfl (hC _ _ aA) ?_;rintro _ _ _ ⟨rfl,rfl,rfl⟩;refine aU ?_)
 repeat refine aC ?_
 rw [lR]
 repeat refine aC ?_
 refine pE (fun G M I=>∃(b7:Nat) (m2:LE) (we:RE),we.q=(z:Rat)∧Aug m m2 R (gt m.a.rows (i:Int)) (gt m.l.es (i:Int)) we∧G=[(1, .int .i64 i),(3, .pointer (some ⟨b3,0,none⟩)),(7, .pointer (some ⟨b7,0,none⟩)),(8, .int .i64 0)]∧M0=M∧I=aD (some ⟨b7,0,none⟩) [mv m2.a,lv m2.l,lv m2.p]::eU m2 30::aD (some ⟨b3,0,none⟩) [mv m.a,lv m.l,lv m.p]::bE (gt m.l.es (i:Int)) 30::dL (gt m.a.rows (i:Int)) 30::aD m.l.p (recs eR m.l.es)::aD m.a.p (recs eL m.a.rows)::dL m.l 30::gQ m.a 30::rV m.raw::eU m 30::I0) ?_ ?_
 ·((repeat refine aF ?_);refine pF (M0) (aD (some ⟨b3,0,none⟩) [mv m.a,lv m.l,lv m.p]::bE (gt m.l.es (i:Int)) 30::dL (gt m.a.rows (i:Int)) 30::aD m.l.p (recs eR m.l.es)::aD m.a.p (recs eL m.a.rows)::dL m.l 30::gQ m.a 30::rV m.raw::eU m 30::I0) mixed ?_)
  refine jT (fuel:=8) (listed':=#[true,true,true,true,true,true,true,true,true,true,true,true,true,true,true,false,false,false,false,false,false,false,false]) [0,1,2,3,4,5,6,7,8,9,10,11,12,13,14] [2,3,3,3,3,2,3,3,3,3,2,3,3,3,2] aK aJ (by kernel_rfl) (by kernel_rfl) rfl rfl ?_
  repeat refine aC ?_
  refine bW (fuel:=7) (i:=15) (j:=20) (by kernel_rfl) ?_ ?_
  ·(rw [←hz];(refine bA rfl (hW _ _) ?_;rintro _ _ _ ⟨rfl,we,rfl,hwe,rfl⟩;refine aU ?_);refine iA (φ:=bE we 30) (Hv.q (k:=4) aA (by omega)) ?_)
   refine bG ?_
   repeat refine aC ?_
   refine bW (fuel:=6) (i:=16) (j:=20) (by kernel_rfl) ?_ ?_
   ·(refine gD rfl (aDI (X:=X) (w0:=w0) (m:=m) (row:=(gt m.a.rows (i:Int))) (x:=gt m.l.es (i:Int)) (w:=we) (R:=R) (n:=n) (by omega) f hri (by rw [hwe];exact hz0) aA aA aA aA) rfl rfl ?_;rintro _ _ _ ⟨rfl,m2,rfl,hAug,rfl⟩;refine aU ?_)
    refine bG ?_
    refine bF [17,18,19,20,21,22] [1,1,2,0,0,0] aK aJ (by kernel_rfl) (by kernel_rfl) rfl rfl ?_
    repeat refine aC ?_
    refine dG (fun b7=>?_)
    repeat refine aC ?_
    refine fU (b:=b7) .here (iH _ _ _ cZ aK aJ ⟨b7,m2,we,hwe,hAug,rfl,rfl,rfl⟩)
   ·refine dG (fun b7=>?_)
    refine bG ?_
    refine bF [16,17,18,19,21,22] [0,0,0,1,0,0] aK aJ (by kernel_rfl) (by kernel_rfl) rfl rfl ?_
    repeat refine aC ?_
    (refine gD rfl (aDI (X:=X) (w0:=w0) (m:=m) (row:=(gt m.a.rows (i:Int))) (x:=gt m.l.es (i:Int)) (w:=we) (R:=R) (n:=n) (by omega) f hri (by rw [hwe];exact hz0) aA aA aA aA) rfl rfl ?_;rintro _ _ _ ⟨rfl,m2,rfl,hAug,rfl⟩;refine aU ?_)
    repeat refine aC ?_
    refine fU (b:=b7) .here (iH _ _ _ cZ aK aJ ⟨b7,m2,we,hwe,hAug,rfl,rfl,rfl⟩)
  ·refine dG (fun b7=>?_)
   refine bG ?_
   refine bF [15,16,17,18,19,21,22] [0,0,0,0,1,0,0] aK aJ (by kernel_rfl) (by kernel_rfl) rfl rfl ?_
   repeat refine aC ?_
   (rw [←hz];(refine bA rfl (hW _ _) ?_;rintro _ _ _ ⟨rfl,we,rfl,hwe,rfl⟩;refine aU ?_);refine iA (φ:=bE we 30) (Hv.q (k:=4) aA (by omega)) ?_)
   repeat refine aC ?_
   (refine gD rfl (aDI (X:=X) (w0:=w0) (m:=m) (row:=(gt m.a.rows (i:Int))) (x:=gt m.l.es (i:Int)) (w:=we) (R:=R) (n:=n) (by omega) f hri (by rw [hwe];exact hz0) aA aA aA aA) rfl rfl ?_;rintro _ _ _ ⟨rfl,m2,rfl,hAug,rfl⟩;refine aU ?_)
   repeat refine aC ?_
   refine fU (b:=b7) .here (iH _ _ _ cZ aK aJ ⟨b7,m2,we,hwe,hAug,rfl,rfl,rfl⟩)
 rintro G M I ⟨b7,m2,we,hwe,hAug,rfl,rfl,rfl⟩
 have hwp:0 < we.q:=by rw [hwe];exact hz0
 have f2:=hAug.fit f (by omega) hri hwp
 have hMg:=fun M0 I0 h=>aKG (X:=X) (w0:=w0) (M0:=M0) (I0:=I0) (m:=m2) (R:=R) (i:=i) (n:=n) hi f2 (by rw [hAug.old i hi,hAug.new]) h
 repeat refine aC ?_
 rw [lR]
 repeat refine aC ?_
 refine tyJ rfl (hMg _ _ aA) (fun m3 hMr=>?_)
 have f3:=hMr.fit f2 hi
 have l3:=hMr.len.1
 obtain ⟨qA,qP,qL,qN,qB⟩:=aFT f f2 f3 hi rfl hwp hAug hMr
 have hkb:kb (601*(R+1)) n≤20000000000:=Nat.le_trans (uT (k:=601*(R+1)) (k':=4808) (m:=n) (n:=4) (by omega) hn4) (by decide)
 have hkb3:kb (601*R) n≤20000000000:=Nat.le_trans (uT (k:=601*R) (k':=4808) (m:=n) (n:=4) (by omega) hn4) (by decide)
 have hS2:=fun M0 I0 h=>aCE (X:=X) (w0:=w0) (M0:=M0) (I0:=I0) (m:=m2) (R:=R+1) (n:=n) hkb f2 h
 have hS3:=fun M0 I0 h=>aCE (X:=X) (w0:=w0) (M0:=M0) (I0:=I0) (m:=m3) (R:=R) (n:=n) hkb3 f3 h
 rw [qN,qB] at hS2
 refine iA (φ:=eU m2 200) (Hv.leUp (k:=30) aA (by omega)) ?_
 repeat refine aC ?_
 refine dG (fun b9=>?_)
 repeat refine aC ?_
 refine aG .here ?_
 by_cases hk:rk (nN m3 R n) n=n
 ·simp only [if_pos hk] at hS2 hS3
  (refine bA rfl (hS2 _ _ aA) ?_;rintro _ _ _ ⟨rfl,x,rfl,hx,rfl⟩;refine aU ?_)
  repeat refine aC ?_
  (refine bA rfl (hS3 _ _ aA) ?_;rintro _ _ _ ⟨rfl,y,rfl,hy,rfl⟩;refine aU ?_)
  have hd3:=(aRH (A:=nN m3 R n) aCK).1 hk
  have hd2:dt n (at2 (nN m2 (R+1) n))≠0:=by rw [qN];exact hd3
  have hT2:=fun M0 I0 h=>aCD (X:=X) (w0:=w0) (M0:=M0) (I0:=I0) (m:=m2) (R:=R+1) (n:=n) (by omega) hn4 f2 hd2 h
  have hT3:=fun M0 I0 h=>aCD (X:=X) (w0:=w0) (M0:=M0) (I0:=I0) (m:=m3) (R:=R) (n:=n) (by omega) hn4 f3 hd3 h
  have hxl:x.es.length=n:=by
   have:=congrArg List.length hx
   simpa [aGW] using this
  have hyl:y.es.length=n:=by
   have:=congrArg List.length hy
   simpa [aGW] using this
  have hKb:kb (601*(R+1)) n≤2000000:=Nat.le_trans (uT (k:=601*(R+1)) (k':=4808) (m:=n) (n:=4) (by omega) hn4) (by decide)
  have hKb3:kb (601*R) n≤2000000:=Nat.le_trans (uT (k:=601*R) (k':=4808) (m:=n) (n:=4) (by omega) hn4) (by decide)
  have hSL:=fun M0 I0 h1 h2=>aDH (X:=X) (w0:=w0) (M0:=M0) (I0:=I0) (x:=x) (y:=y) (u:=kb (601*(R+1)) n) (m:=kb (601*R) n) (by omega) (by omega) (by omega) h1 h2
  rw [bV (hx.trans hy.symm)] at hSL
  generalize kb (601*(R+1)) n=K2 at*
  generalize kb (601*R) n=K3 at*
  repeat refine aC ?_
  (refine bA rfl (hT2 _ _ aA) ?_;rintro _ _ _ ⟨rfl,s2,p2,c2,bs2,rfl,hs2,hb2,rfl⟩;refine aU ?_)
  repeat refine aC ?_
  (refine bA rfl (hT3 _ _ aA) ?_;rintro _ _ _ ⟨rfl,s3,p3,c3,bs3,rfl,hs3,hb3,rfl⟩;refine aU ?_)
  have ls2:s2.es.length=R+1:=by
   have:=congrArg List.length hs2
   simpa using this
  have ls3:s3.es.length=R:=by
   have:=congrArg List.length hs3
   simpa using this
  have lb2:bs2.length=R+1:=by rw [hb2];simp
  have lb3:bs3.length=R:=by rw [hb3];simp
  repeat refine aC ?_
  rw [ls2,ls3,lR]
  repeat refine aC ?_
  refine dC rfl (hSL _ _ (Hv.mem aA) (Hv.mem aA)) ?_
  repeat refine aC ?_
  refine bN (φ:=aD s2.p (recs eR s2.es)) (Hv.lsl (k:=500000000) aA) ?_
  refine bN (φ:=aD s3.p (recs eR s3.es)) (Hv.lsl (k:=500000000) aA) ?_
  have h2s:=hs2
  have h2b:=hb2
  refine pU [1,13,14,16,17,149] rfl (fun k G M I=>∃t:Nat,t≤R∧k=R - t∧G=[(150, .int .i64 t)]∧M0=M∧I=aD s3.p (recs eR s3.es)::aD s2.p (recs eR s2.es)::aD p3 (recs eB bs3)::dL s3 500000000::aD p2 (recs eB bs2)::dL s2 500000000::I0) (R) (⟨0,by omega,rfl,rfl,rfl,rfl⟩) ?_
  rintro kk G M I ⟨t,ht,rfl,rfl,rfl,rfl⟩
  by_cases htR:t < R
  ·have gs2:(gt s2.es (t:Int)).q=stQ m2 (R+1) n t:=by
    rw [aFC (es:=s2.es) hs2 (by omega)]
    simp [List.getD,show t < R+1 by omega]
   have gs3:(gt s3.es (t:Int)).q=stQ m3 R n t:=by
    rw [aFC (es:=s3.es) hs3 (by omega)]
    simp [List.getD,htR]
   have gb2:gt bs2 (t:Int)=stB m2 (R+1) n t:=by
    rw [eY (by omega)]
    simp [hb2]
   have gb3:gt bs3 (t:Int)=stB m3 R n t:=by
    rw [eY (by omega)]
    simp [hb3]
   refine bN (φ:=bE (gt s2.es (t:Int)) 500000000) (Hv.lel (r:=s2) aA (by omega)) ?_
   refine bN (φ:=bE (gt s3.es (t:Int)) 500000000) (Hv.lel (r:=s3) aA (by omega)) ?_
   by_cases e:t=i
   ·repeat refine aC ?_
    (repeat refine aF ?_);refine tyW ([]) (aD s3.p (recs eR s3.es)::aD s2.p (recs eR s2.es)::aD p3 (recs eB bs3)::dL s3 500000000::aD p2 (recs eB bs2)::dL s2 500000000::I0) [0,1,2,3,4,5,6,7,8,9,10,11,12,13,14,15,16,17,18,19,20,21,22,23,24,25] [1,1,1,1,1,1,1,1,1,1,1,1,1,0,1,1,1,0,1,1,1,0,0,0,0,0] mixed ?_
    repeat refine aC ?_
    refine lN (R - (t+1)) (⟨t+1,by omega,rfl,rfl,rfl,rfl⟩)
   ·obtain ⟨q1,q2⟩:=aLG htR e ⟨qA,qP,qL,qN,qB⟩
    have hsq:(gt s2.es (t:Int)).q=(gt s3.es (t:Int)).q:=by rw [gs2,gs3,q1]
    have hbq:(!(gt bs2 (t:Int)==gt bs3 (t:Int)))=false:=by rw [gb2,gb3,q2];simp
    have hSm:=fun M0 I0 h1 h2=>zY (X:=X) (w0:=w0) (M0:=M0) (I0:=I0) (a:=gt s2.es (t:Int)) (b:=gt s3.es (t:Int)) (k:=500000000) (m:=500000000) (by omega) h1 h2
    rw [bV hsq] at hSm
    repeat refine aC ?_
    (repeat refine aF ?_);refine tyW ([]) (bE (gt s3.es (t:Int)) 500000000::bE (gt s2.es (t:Int)) 500000000::aD s3.p (recs eR s3.es)::aD s2.p (recs eR s2.es)::aD p3 (recs eB bs3)::dL s3 500000000::aD p2 (recs eB bs2)::dL s2 500000000::I0) [0,1,2,3,4,5,6,7,8,9,10,11,12,13,14,15,16,17,18,19,20,21,22,23,24,25] [1,1,1,1,1,1,1,1,1,1,1,1,1,0,1,1,1,0,1,1,1,0,0,0,0,0] mixed ?_
    repeat refine aC ?_
    rw [hbq]
    repeat refine aC ?_
    refine dC rfl (hSm _ _ (Hv.mem aA) (Hv.mem aA)) ?_
    repeat refine aC ?_
    refine lN (R - (t+1)) (⟨t+1,by omega,rfl,rfl,rfl,rfl⟩)
  ·repeat refine aC ?_
   refine iZ rfl rfl (⟨rfl,rfl,rfl⟩)
 ·simp only [if_neg hk] at hS2 hS3
  (refine bA rfl (hS2 _ _ aA) ?_;rintro _ _ _ ⟨rfl,rfl,rfl⟩;refine aU ?_)
  repeat refine aC ?_
  (refine bA rfl (hS3 _ _ aA) ?_;rintro _ _ _ ⟨rfl,rfl,rfl⟩;refine aU ?_)
  repeat refine aC ?_
  refine iZ rfl rfl (⟨rfl,rfl,rfl⟩)
end
theorem aRJ {x:Int} (h:(Lit.int .u8 x).wf=true):0≤x∧x≤255:=by
 simp only [Lit.wf,Bool.and_eq_true,decide_eq_true_eq] at h
 have h2:=h.1
 have h3:=h.2
 rw [show IntKind.u8.max=255 by decide] at h3
 rw [show IntKind.u8.min=0 by decide] at h2
 exact ⟨h2,h3⟩
section
variable {X:List Nat} {w0:World} {M0:List Ent} {I0:List aN}
theorem LTm {m:LW} {i w:Int} (hi: -9223372036854775808≤i∧i≤9223372036854775807) (hw:0≤w∧w≤255) (hR:m.rch) (hm:rV m∈I0):CD Tryz.prog 3 [vLW m, .int .i64 i, .int .u8 w] X w0 M0 I0 (fun v M I=>M0=M∧I0=I∧v= .bool true):=by
 refine gW (fun w hw=>Mem.fitLW hm hw) (fun hf=>?_)
 by_cases hok:m.few 8 4∧m.code=0
 ·obtain ⟨n,R,C,rfl,f,hRl,hCl⟩:=LW.num hf hok.2
  rw [yA]
  by_cases hr:R≤7∧0≤i∧i < R
  ·obtain ⟨h7,h0,h1⟩:=hr
   obtain ⟨t,rfl⟩:∃t:Nat,i=(t:Int):=⟨i.toNat,by omega⟩
   have hn4:C≤4:=by
    rw [hCl]
    exact (hok.1.2 _ (cB (by have:=f.d.2.1;omega))).1
   refine zU (φ:=eU n 30) (Hv.few hok.1 hm) ?_
   exact aRU (R:=R) (n:=C) (i:=t) (w:=w) hw f hR hok h7 hn4 (by omega) (List.Mem.tail _ hm) (List.Mem.head _)
  ·exact aRC hi f hR hok hr hm
 ·exact aQN hR hok hm
end
end Go.Proofs.YthhldplegmeolaaGreat
namespace Go.Proofs.YthhldplegmeolaaGreat
open Go Go.Fx
open Go.ChangeShapes Go.WideShapes Go.RowKit Go.ChangeAt
section
variable {H:Type} {enc:TypeId × Value→H} {P:Program} {W:World}
theorem aLR {tr t0 t1 t2:TypeId} {fr:Array Field} {m k l n:Nat} {cs:List Value} {y:DataW H × List MemPlace} (hr:P.underlying tr=some (.struct fr)) (hfr:fr.toList.map (fun f=>(f.offset,f.type))=[(0,t0),(m,t1),(m+k,t2)]) (cm:P.cellsOf t0=m) (ck:P.cellsOf t1=k) (cl:P.cellsOf t2=l) (c5:P.cellsOf tr=m+k+l) (h:DataW.trod enc P W 0 (fun _=>true) true n tr cs=some y) (hw:∀z∈y.1.weights P tr,z≤reachBytes):
  cs.length=m+k+l∧∃n' z0 z1 z2,DataW.trod enc P W 0 (fun _=>true) true n' t0 (cs.take m)=some z0∧DataW.trod enc P W 0 (fun _=>true) true n' t1 ((cs.drop m).take k)=some z1∧DataW.trod enc P W 0 (fun _=>true) true n' t2 (cs.drop (m+k))=some z2∧(∀z∈z0.1.weights P t0,z≤reachBytes)∧(∀z∈z1.1.weights P t1,z≤reachBytes)∧(∀z∈z2.1.weights P t2,z≤reachBytes):=by
 obtain ⟨zs,n',rfl,rfl,hl,hzl,hz⟩:=DataW.trod_struct hr h
 have hsz:fr.toList.length=3:=by have:=congrArg List.length hfr;simpa using this
 obtain ⟨f0,f1,f2,hfs⟩:∃f0 f1 f2,fr.toList=[f0,f1,f2]:=by
  match hh:fr.toList,hsz with
  |[a,b,c],_=>exact ⟨a,b,c,rfl⟩
 rw [hfs] at hfr
 simp only [List.map_cons,List.map_nil,List.cons.injEq,Prod.mk.injEq,and_true] at hfr
 obtain ⟨⟨o0,e0⟩,⟨o1,e1⟩,o2,e2⟩:=hfr
 rw [c5] at hl
 have hg0:fr[0]?=some f0:=by rw [←Array.getElem?_toList,hfs];rfl
 have hg1:fr[1]?=some f1:=by rw [←Array.getElem?_toList,hfs];rfl
 have hg2:fr[2]?=some f2:=by rw [←Array.getElem?_toList,hfs];rfl
 have h0:=hz 0 f0 hg0
 have h1:=hz 1 f1 hg1
 have h2:=hz 2 f2 hg2
 rw [o0,e0,cm] at h0
 rw [o1,e1,ck] at h1
 rw [o2,e2,cl] at h2
 have hz2:zs.length=3:=by rw [hzl];simpa using hsz
 obtain ⟨z0,z1,z2,rfl⟩:∃z0 z1 z2,zs=[z0,z1,z2]:=by
  match zs,hz2 with
  |[a,b,c],_=>exact ⟨a,b,c,rfl⟩
 simp only [List.drop_zero,List.getElem?_cons_zero,List.getElem?_cons_succ] at h0 h1 h2
 rw [List.take_of_length_le (l:=cs.drop (m+k)) (by simp;omega)] at h2
 have hww:∀x∈DataW.weights P t0 z0.1++(DataW.weights P t1 z1.1++DataW.weights P t2 z2.1),x≤reachBytes:=fun x hx=>hw x (by simp [DataW.weights,hr,hfs,DataW.weightsEach,e0,e1,e2];simpa using hx)
 exact ⟨hl,n',z0,z1,z2,h0,h1,h2,fun x hx=>hww x (List.mem_append.2 (.inl hx)),fun x hx=>hww x (List.mem_append.2 (.inr (List.mem_append.2 (.inl hx)))),fun x hx=>hww x (List.mem_append.2 (.inr (List.mem_append.2 (.inr hx))))⟩
end
section
variable {H:Type} {enc:TypeId × Value→H} {W:World}
theorem aLY {base:Nat} {v:Value} {d:DataW H} {p:List MemPlace} (hv:Value.okWide Tryz.prog W .any base 26 v) (h:DataW.Trod enc Tryz.prog W 0 (fun _=>true) true 26 v d p) (hw:∀x∈d.weights Tryz.prog 26,x≤reachBytes):
  ∃m:LW,v=vLW m∧IsLW m [] W∧m.rch:=by
 simp only [Value.okWide,Tryz.underlying26] at hv
 obtain ⟨cs,rfl,hsz,hrow⟩:=hv
 obtain ⟨fuel,hf⟩:=h
 obtain ⟨hl,n',z0,z1,z2,h0,h1,h2,hw0,hw1,hw2⟩:=aLR (t0:=23) (t1:=24) (t2:=24) (m:=1) (k:=1) (l:=1) Tryz.underlying26 (by rfl) (by kernel_rfl) (by kernel_rfl) (by kernel_rfl) (by kernel_rfl) (show DataW.trod enc Tryz.prog W 0 (fun _=>true) true fuel 26 cs.toList=some (d,p) from hf) hw
 obtain ⟨a,e0,i0,r0⟩:=aMM h0 hw0
 obtain ⟨l,e1,i1,r1⟩:=wR h1 hw1
 obtain ⟨q,e2,i2,r2⟩:=wR h2 hw2
 refine ⟨⟨a,l,q⟩,?_,⟨i0,i1,i2⟩,r0,r1,r2⟩
 have e:cs.toList=[mvW a,wE l,wE q]:=by
  rw [←List.take_append_drop 1 cs.toList,e0]
  have:cs.toList.drop 1=[wE l,wE q]:=by
   rw [←List.take_append_drop 1 (cs.toList.drop 1),e1,List.drop_drop,e2];rfl
  rw [this];rfl
 rw [show cs=cs.toList.toArray by simp,e]
end
end Go.Proofs.YthhldplegmeolaaGreat

/- reliability.open at the worked example. -/
import Derived.Test.YthhldplegmeolaaGreatZuay
import Derived.Test.YthhldplegmeolaaGreatZuar
import Derived.Test.YthhldplegmeolaaGreatZuae
import Derived.Test.YthhldplegmeolaaGreatZuag
import Derived.Test.YthhldplegmeolaaGreatZuat
import Derived.Test.YthhldplegmeolaaGreatZuau
set_option linter.unusedSimpArgs false
set_option linter.unusedVariables false
set_option maxRecDepth 100000
set_option maxHeartbeats 4000000
namespace Go.Proofs.YthhldplegmeolaaGreat
open Go Go.Fx
theorem aGA {x o p:Ent} {A B:List Ent}:(x::o::p::(A++B)).Perm (o::p::((A++[x])++B)):=by
 rw [List.append_assoc]
 exact (List.perm_middle (l₁:=o::p::A) (l₂:=B) (a:=x)).symm
theorem aSG:nZ [[r1],[r1],[r1]] 1=([[r1],[0],[0]],[0]):=by decide+kernel
section
variable {X:List Nat} {w0:World} {M0:List Ent} {I0:List aN}
theorem aOO {m:LE} (e:Exm m) (h:eU m 200∈I0):
  CD Tryz.prog 75 [wM m] X w0 M0 I0 (fun v M I=>M0=M∧∃(bm:Nat) (F:MX),v= .tuple #[pb bm, .int .i64 0]∧Fits F∧I=xO m bm F::I0):=by
 have lR:=e.f.d.1.1
 have hll:=e.f.l
 have hpl:=e.f.p
 have hC:=fun M0 I0 h=>mY (X:=X) (w0:=w0) (M0:=M0) (I0:=I0) (m:=m) (R:=3) (C:=1) (k:=200) (by omega) e.f h
 have hE:=fun M0 I0 h=>yV (X:=X) (w0:=w0) (M0:=M0) (I0:=I0) (a:=m.a) (R:=3) (C:=1) (k0:=200) (by decide) e.f.d h
 refine aL (φ:=eU m 200) (Hv.mem h) ?_
 refine aL (φ:=gQ m.a 200) (Hv.lea aA) ?_
 refine aL (φ:=dL m.l 200) (Hv.lel' aA) ?_
 refine aL (φ:=dL m.p 200) (Hv.lep aA) ?_
 refine aL (φ:=aD (m.a).p (recs eL (m.a).rows)) (Hv.xsl aA) ?_
 refine aL (φ:=aD (m.l).p (recs eR (m.l).es)) (Hv.lsl aA) ?_
 refine aL (φ:=aD (m.p).p (recs eR (m.p).es)) (Hv.lsl aA) ?_
 refine aV Tryz.func75 rfl Tryz.ntmps75 rfl ?_
 refine fG ?_
 refine fQ rfl (fun b1=>?_)
 refine aG .here ?_
 repeat refine aC ?_
 refine dC rfl (hC _ _ aA) ?_
 repeat refine aC ?_
 (refine aB rfl (fun _=>aY (pvs:=[(0,wM m)]) (cells:=[mv m.a,lv m.l,lv m.p, .slice none 0 0, .slice none 0 0, .slice none 0 0, .slice none 0 0]) rfl rfl) rfl rfl ?_)
 refine fQ rfl (fun bm=>?_)
 repeat refine aC ?_
 (refine bA rfl (hE _ _ aA) ?_;rintro _ _ _ ⟨rfl,E,pv,q,c,rfl,hred,hdE,rfl⟩;refine aU ?_)
 rw [e.A,aSG] at hred
 obtain rfl:[0]=pv:=(Prod.mk.inj hred).2
 repeat refine aC ?_
 rw [lR]
 (refine iD (3) rfl rfl (by omega) (by omega) (by omega) (by omega) (oF (enc:=eL) (by decide) (⟨none,0,[]⟩:RL) 3) rfl rfl ?_;intro bf;refine aU ?_)
 repeat refine aC ?_
 refine aKZ (M':= .blk bf (recs eL (List.replicate 3 (⟨none,0,[]⟩:RL))) 24:: .blk bm [mv m.a,lv m.l,lv m.p, .slice q 1 c, .slice none 0 0, .slice none 0 0, .slice (some ⟨bf,0,none⟩) 3 3] 101::M0) (I':=aD (some ⟨b1,0,none⟩) [mv m.a,lv m.l,lv m.p]::aD q (recs eZ [0])::aD m.p.p (recs eR m.p.es)::aD m.l.p (recs eR m.l.es)::aD m.a.p (recs eL m.a.rows)::dL m.p 200::dL m.l 200::gQ m.a 200::eU m 200::I0) SubP.refl aJ ?_
 refine bN (φ:=jY [] 0) Hv.nilS ?_
 refine pU [1,5,6,51] rfl (fun k G M I=>∃(i:Nat) (rows:List MS),i≤3∧k=3 - i∧Shp rows i 3∧Pw rows i 3 (fun _ _=>0)∧G=[(52, .int .i64 i)]∧M= .blk bf (recs eL (rows.map MS.l++List.replicate (3 - i) (⟨none,0,[]⟩:RL))) 24:: .blk bm [mv m.a,lv m.l,lv m.p, .slice q 1 c, .slice none 0 0, .slice none 0 0, .slice (some ⟨bf,0,none⟩) 3 3] 101::(rows.map gG++M0)∧I=jY rows 0::aD (some ⟨b1,0,none⟩) [mv m.a,lv m.l,lv m.p]::aD q (recs eZ [0])::aD m.p.p (recs eR m.p.es)::aD m.l.p (recs eR m.l.es)::aD m.a.p (recs eL m.a.rows)::dL m.p 200::dL m.l 200::gQ m.a 200::eU m 200::I0) (3) (⟨0,[],by omega,rfl,⟨rfl,fun r hr=>by simp at hr⟩,fun i j hi=>by omega,rfl,rfl,rfl⟩) ?_
 rintro kk G M I ⟨i,rows,hi,rfl,hs,hp,rfl,rfl,rfl⟩
 have hlen:=hs.len
 by_cases hi3:i < 3
 ·have hz2:=qM (n:=3 - i) (z:=(⟨none,0,[]⟩:RL)) (by omega)
  have hl2:((rows.map MS.l++(⟨none,0,[]⟩:RL)::List.replicate (3 - i - 1) (⟨none,0,[]⟩:RL)).length:Int)=3:=by simp;omega
  have hW:=fun M0 I0=>aBO (X:=X) (w0:=w0) (M0:=M0) (I0:=I0) (x:=0) (by decide)
  rw [hz2]
  repeat refine aC ?_
  (repeat refine aF ?_);refine aS 3 [0,1,2,3,4,7,5,6,8,9,10] [3,3,3,3,3,2,0,0,0,0,0] mixed (by kernel_rfl) ?_
  repeat refine aC ?_
  refine gT rfl (hW _ _) (fun e0 he0=>?_)
  repeat refine aC ?_
  refine nG (cs:=recs eR [e0]) ([rv e0]) rfl (fun bs=>?_)
  refine aG .here ?_
  (refine bA rfl (aQB (q:=some ⟨bs,0,none⟩) (e:=e0) (c:=1) aA (Ok.mk _ _)) ?_;rintro _ _ _ ⟨b,rfl,rfl,rfl⟩;refine aU ?_)
  repeat refine yXh ?_
  refine nS rfl rfl rfl mW (StAt.r1 (⟨some ⟨b,0,none⟩,3,[e0,e0,e0]⟩:RL) (by omega) rfl) rfl rfl ⟨okF,?_⟩
  rw [yO (by simp;omega)]
  repeat refine aC ?_
  refine bX (φ:=aX [e0,e0,e0] 0) ⟨fun X w hw=>⟨fun x hx=>by
   have h1:IsR e0 0 X w:=hw _ aA
   simp only [List.mem_cons,List.not_mem_nil,or_false,or_self] at hx
   rw [hx];exact h1⟩⟩ ?_
  refine bX (φ:=jY (rows++[(⟨b,3,[e0,e0,e0],[]⟩:MS)]) 0) (Hv.snocS aA (Hv.mem aA)) ?_
  rw [←List.append_nil (recs eR [e0,e0,e0])]
  have e9:rows.map MS.l++(⟨some ⟨b,0,none⟩,3,[e0,e0,e0]⟩:RL)::List.replicate (3 - i - 1) (⟨none,0,[]⟩:RL)=(rows++[(⟨b,3,[e0,e0,e0],[]⟩:MS)]).map MS.l++List.replicate (3 - (i+1)) (⟨none,0,[]⟩:RL):=by simp [MS.l,Nat.sub_sub]
  rw [e9]
  refine oC (M':= .blk bf (recs eL ((rows++[(⟨b,3,[e0,e0,e0],[]⟩:MS)]).map MS.l++List.replicate (3 - (i+1)) (⟨none,0,[]⟩:RL))) 24:: .blk bm [mv m.a,lv m.l,lv m.p, .slice q 1 c, .slice none 0 0, .slice none 0 0, .slice (some ⟨bf,0,none⟩) 3 3] 101::((rows++[(⟨b,3,[e0,e0,e0],[]⟩:MS)]).map gG++M0)) (by rw [List.map_append (f:=gG)];exact aGA) ?_
  refine lN (3 - (i+1)) (⟨i+1,rows++[(⟨b,3,[e0,e0,e0],[]⟩:MS)],by omega,rfl,⟨by simp [hlen],fun r hr=>?_⟩,fun i' j' h1' h2'=>?_,rfl,rfl,rfl⟩)
  ·rcases List.mem_append.1 hr with h|h
   ·exact hs.col r h
   ·rw [List.mem_singleton.1 h];exact ⟨rfl,Nat.le_refl 3⟩
  ·by_cases e1:i' < i
   ·have:gt (rows++[(⟨b,3,[e0,e0,e0],[]⟩:MS)]) (i':Int)=gt rows (i':Int):=uW (by omega)
    rw [this];exact hp i' j' e1 h2'
   ·have:gt (rows++[(⟨b,3,[e0,e0,e0],[]⟩:MS)]) (i':Int)=(⟨b,3,[e0,e0,e0],[]⟩:MS):=rJ (A:=rows) (B:=[]) (by omega)
    rw [this]
    show (gt [e0,e0,e0] (j':Int)).q=0
    have hm:=cB (ms:=[e0,e0,e0]) (i:=(j':Int)) ⟨by omega,by simp;omega⟩
    have:gt [e0,e0,e0] (j':Int)=e0:=by simpa using hm
    rw [this,he0];rfl
 obtain rfl:i=3:=by omega
 rw [Nat.sub_self,List.replicate_zero,List.append_nil,aIX]
 repeat refine aC ?_
 rw [lR]
 refine jM 24 1 ?_
 refine bN (φ:=lJ [] 200) Hv.nilL ?_
 refine pU [1,5,6,74,75] rfl (fun k G M I=>∃(t:Nat) (bs:List RL) (qa:Option Addr) (ca:Nat),t≤3∧k=3 - t∧bs.length=t∧(∀j:Nat,j < t→(gt bs (j:Int)).es=[gt (gt m.a.rows (j:Int)).es 0])∧G=[(76, .int .i64 t)]∧M= .row qa bs.length ca (recs eL bs) 24 1:: .blk bf (recs eS rows) 24:: .blk bm [mv m.a,lv m.l,lv m.p, .slice q 1 c, .slice qa bs.length ca, .slice none 0 0, .slice (some ⟨bf,0,none⟩) 3 3] 101::(rows.map gG++M0)∧I=lJ bs 200::jY rows 0::aD (some ⟨b1,0,none⟩) [mv m.a,lv m.l,lv m.p]::aD q (recs eZ [0])::aD m.p.p (recs eR m.p.es)::aD m.l.p (recs eR m.l.es)::aD m.a.p (recs eL m.a.rows)::dL m.p 200::dL m.l 200::gQ m.a 200::eU m 200::I0) (3) (⟨0,[],none,0,by omega,rfl,rfl,fun j hj=>by omega,rfl,rfl,rfl⟩) ?_
 rintro kk G M I ⟨t,bs,qa,ca,ht,rfl,hbl,hbe,rfl,rfl,rfl⟩
 by_cases htR:t < 3
 ·have hrt:=e.f.d.1.row htR
  refine bN (φ:=dL (gt m.a.rows (t:Int)) 200) (Hv.xrow (m:=m.a) aA (by omega)) ?_
  refine bN (φ:=aD (gt m.a.rows (t:Int)).p (recs eR (gt m.a.rows (t:Int)).es)) (Hv.lsl (k:=200) aA) ?_
  refine bN (φ:=bE (gt (gt m.a.rows (t:Int)).es 0) 200) (Hv.lel (r:=gt m.a.rows (t:Int)) aA (by omega)) ?_
  repeat refine aC ?_
  refine jM 36 4 ?_
  refine bN (φ:=aX [] 200) Hv.nilR ?_
  refine pU [1,5,6,9,74,75,76,83,84] rfl (fun k G M I=>∃(s:Nat) (es:List RE) (q1:Option Addr) (c1:Nat),s≤1∧k=1 - s∧es.length=s∧(s=1→es=[gt (gt m.a.rows (t:Int)).es 0])∧G=[(10, .slice q1 es.length c1),(85, .int .i64 s)]∧M= .row q1 es.length c1 (recs eR es) 36 4:: .row qa bs.length ca (recs eL bs) 24 1:: .blk bf (recs eS rows) 24:: .blk bm [mv m.a,lv m.l,lv m.p, .slice q 1 c, .slice qa bs.length ca, .slice none 0 0, .slice (some ⟨bf,0,none⟩) 3 3] 101::(rows.map gG++M0)∧I=aX es 200::bE (gt (gt m.a.rows (t:Int)).es 0) 200::aD (gt m.a.rows (t:Int)).p (recs eR (gt m.a.rows (t:Int)).es)::lJ bs 200::jY rows 0::aD (some ⟨b1,0,none⟩) [mv m.a,lv m.l,lv m.p]::aD q (recs eZ [0])::aD m.p.p (recs eR m.p.es)::aD m.l.p (recs eR m.l.es)::aD m.a.p (recs eL m.a.rows)::dL m.p 200::dL m.l 200::gQ m.a 200::eU m 200::I0) (1) (⟨0,[],none,0,by omega,rfl,rfl,fun h=>by omega,rfl,rfl,rfl⟩) ?_
  rintro kk G M I ⟨s,es,q1,c1,hs1,rfl,hel,hes,rfl,rfl,rfl⟩
  by_cases hs0:s < 1
  ·obtain rfl:s=0:=by omega
   obtain rfl:es=[]:=List.eq_nil_of_length_eq_zero hel
   repeat refine aC ?_
   refine nG (cs:=recs eR [gt (gt m.a.rows (t:Int)).es 0]) ([rv (gt (gt m.a.rows (t:Int)).es 0)]) rfl (fun bb=>?_)
   refine tyP (ys:=[gt (gt m.a.rows (t:Int)).es 0]) 1 rfl rfl rfl (fun q2 c2=>?_)
   repeat refine aC ?_
   refine bX (φ:=aX [gt (gt m.a.rows (t:Int)).es 0] 200) (Hv.snoc (es:=[]) aA aA) ?_
   refine lN (0) (⟨1,[gt (gt m.a.rows (t:Int)).es 0],q2,c2,by omega,rfl,rfl,fun _=>rfl,rfl,rfl,rfl⟩)
  ·obtain rfl:s=1:=by omega
   refine aSL (k:=200) aA ?_
   repeat refine aC ?_
   refine nG (cs:=recs eL [(⟨q1,c1,es⟩:RL)]) ([lv (⟨q1,c1,es⟩:RL)]) rfl (fun bb=>?_)
   refine tyP (ys:=[(⟨q1,c1,es⟩:RL)]) 1 rfl rfl rfl (fun q3 c3=>?_)
   repeat refine aC ?_
   refine bX (φ:=lJ (bs++[(⟨q1,c1,es⟩:RL)]) 200) (Hv.snocL aA aA) ?_
   refine lN (3 - (t+1)) (⟨t+1,bs++[(⟨q1,c1,es⟩:RL)],q3,c3,by omega,rfl,by simp;omega,fun j hj=>?_,rfl,rfl,rfl⟩)
   rw [nE hbl j hj]
   by_cases e1:j < t
   ·rw [if_pos e1];exact hbe j e1
   ·rw [if_neg e1,show j=t by omega];exact hes rfl
 obtain rfl:t=3:=by omega
 refine aCN (fun _ hw=>Mem.toX (k:=200) hw aA) ?_
 obtain ⟨B,hB⟩:∃B:MX,B=⟨qa,ca,bs⟩:=⟨_,rfl⟩
 have hBr:B.rows.length=3:=by rw [hB];exact hbl
 have hBm:(.slice qa bs.length ca:Value)=mv B:=by rw [hB]
 have hBe:∀j:Nat,j < 3→(gt B.rows (j:Int)).es=[gt (gt m.a.rows (j:Int)).es 0]:=by rw [hB];exact hbe
 have hBl:∀j:Nat,j < 3→(gt B.rows (j:Int)).es.length=1:=fun j hj=>by rw [hBe j hj];rfl
 have hg1:∀j:Nat,j < 3→(gt (gt m.a.rows (j:Int)).es 0).q=r1:=fun j hj=>by
  have h1:=nR (m:=m.a) (i:=j) (j:=0) (by omega) (by have:=e.f.d.1.row hj;omega)
  rw [e.A] at h1
  show (gt (gt m.a.rows (j:Int)).es ((0:Nat):Int)).q=r1
  rw [←h1]
  match j,hj with
  |0,_=>rfl
  |1,_=>rfl
  |2,_=>rfl
 have hBq:B.q=[[r1],[r1],[r1]]:=by
  have hd:B.dim 3 1:=⟨hBr,fun r hr=>by
   obtain ⟨j,hj,rfl⟩:=List.mem_iff_getElem.1 hr
   have:=hBl j (by omega)
   rwa [eY hj] at this⟩
  rw [hd.mk]
  have h2:∀i j,i < 3→j < 1→at2 B.q i j=(fun _ _=>r1) i j:=fun i j hi hj=>by
   obtain rfl:j=0:=by omega
   rw [nR (by omega) (by rw [hBl i hi];omega),hBe i hi]
   exact hg1 i hi
  rw [qH h2];rfl
 have hfit:LE.fit ⟨B,m.l,m.p⟩ 3 1:=⟨⟨⟨hBr,fun r hr=>by
   obtain ⟨j,hj,rfl⟩:=List.mem_iff_getElem.1 hr
   have:=hBl j (by have h9:j < B.rows.length:=hj;omega)
   rwa [eY hj] at this⟩,⟨by omega,by omega⟩,by omega,by omega⟩,by omega,hll,hpl,e.f.pos⟩
 have hNN:nN ⟨B,m.l,m.p⟩ 3 1=[[r3]]:=by
  unfold nN
  show aNB 3 1 B.q (fun t=>m.p.q.getD t 0)=_
  rw [hBq,e.P]
  decide+kernel
 rw [hBm,←hB]
 refine bN (φ:=eU ⟨B,m.l,m.p⟩ 200) (Hv.le3m aA aA aA) ?_
 have hNm:=fun M0 I0 h=>zQ (X:=X) (w0:=w0) (M0:=M0) (I0:=I0) (m:=⟨B,m.l,m.p⟩) (R:=3) (n:=1) hfit h
 repeat refine aC ?_
 (repeat refine aF ?_);refine dD [0,1,2,3,4,5,6,7,8,9,10,11,12,13,14,15,16] [1,1,1,1,1,1,1,1,0,0,0,0,0,0,0,0,0] mixed (by kernel_rfl) ?_
 repeat refine aC ?_
 (refine aB rfl (fun _=>aY (pvs:=[(0,mv B),(1,lv m.l),(2,lv m.p)]) (cells:=[mv B,lv m.l,lv m.p]) rfl rfl) rfl rfl ?_)
 (refine bA rfl (hNm _ _ aA) ?_;rintro _ _ _ ⟨rfl,x,y,rfl,hx,hy,dx,hyl,rfl⟩;refine aU ?_)
 rw [hNN] at hx
 repeat refine aC ?_
 have hI:=fun M0 I0 h=>vD (X:=X) (w0:=w0) (M0:=M0) (I0:=I0) (a:=x) (n:=1) (k0:=1803) (by decide) (by omega) ⟨dx,⟨by omega,by omega⟩,by omega,by omega⟩ h
 rw [hx] at hI
 simp only [if_neg (show ¬dt 1 (at2 [[r3]])=0 by decide+kernel)] at hI
 refine iA (φ:=gQ x 1803) (Hv.xm (k:=601*3) aA (by omega)) ?_
 (refine bA rfl (hI _ _ aA) ?_;rintro _ _ _ ⟨rfl,n,rfl,hn,dn,rfl⟩;refine aU ?_)
 repeat refine aC ?_
 refine bN (φ:=gQ n 7213) (Hv.xm (k:=kb 1803 1) aA (by decide)) ?_
 refine bN (φ:=aD (B).p (recs eL (B).rows)) (Hv.xsl aA) ?_
 repeat refine aC ?_
 rw [hBr]
 refine bN (φ:=jY rows 50000) (Hv.monoS (k:=0) aA (by omega)) ?_
 refine pU [5,6,133,134] rfl (fun k G M I=>∃(j:Nat) (rows3:List MS),j≤3∧k=3 - j∧Shp rows3 3 3∧Pw rows3 3 3 (fun _ b:Nat=>if b < j then r1 / r3 else 0)∧G=[(135, .int .i64 j)]∧M= .blk bf (recs eS rows3) 24:: .blk bm [mv m.a,lv m.l,lv m.p, .slice q 1 c,mv B,mv n, .slice (some ⟨bf,0,none⟩) 3 3] 101::(rows3.map gG++M0)∧I=jY rows3 50000::aD B.p (recs eL B.rows)::gQ n 7213::gQ B 200::aD (some ⟨b1,0,none⟩) [mv m.a,lv m.l,lv m.p]::aD q (recs eZ [0])::aD m.p.p (recs eR m.p.es)::aD m.l.p (recs eR m.l.es)::aD m.a.p (recs eL m.a.rows)::dL m.p 200::dL m.l 200::gQ m.a 200::eU m 200::I0) (3) (⟨0,rows,by omega,rfl,hs,fun a b ha hb=>by
  rw [hp a b ha hb];dsimp only;rw [if_neg (by omega)],rfl,rfl,rfl⟩) ?_
 rintro kk G M I ⟨j,rows3,hj,rfl,hs3,hp3,rfl,rfl,rfl⟩
 by_cases hj3:j < 3
 ·have hrj:=hBl j hj3
  refine bN (φ:=dL (gt B.rows (j:Int)) 200) (Hv.xrow (m:=B) aA (by omega)) ?_
  have hAp:=fun M0 I0 h1 h2=>wP (X:=X) (w0:=w0) (M0:=M0) (I0:=I0) (a:=n) (x:=gt B.rows (j:Int)) (R:=1) (C:=1) (k:=7213) (m:=200) (by omega) (by omega) ⟨dn,⟨by omega,by omega⟩,by omega,by omega⟩ hrj h1 h2
  repeat refine aC ?_
  (refine bA rfl (hAp _ _ aA aA) ?_;rintro _ _ _ ⟨rfl,z,rfl,hz,rfl⟩;refine aU ?_)
  have hzl:z.es.length=1:=by
   have:=congrArg List.length hz
   simpa using this
  have hzq:z.q.getD 0 0=r1 / r3:=by
   rw [hz,hn]
   show 0+at2 (uA 1 [[r3]]) 0 0*(gt B.rows (j:Int)).q.getD 0 0=_
   have h9:(gt B.rows (j:Int)).q.getD 0 0=r1:=by
    show (qs (gt B.rows (j:Int)).es).getD 0 0=r1
    rw [hBe j hj3]
    exact hg1 j hj3
   rw [h9]
   decide+kernel
  repeat refine aC ?_
  refine bN (φ:=dL z 7414) (Hv.lm (k:=1*(7213+200+1)) aA (by omega)) ?_
  refine pU [5,6,16,18,133,134,135,149] rfl (fun k G M I=>∃(i:Nat) (rows4:List MS),i≤3∧k=3 - i∧Shp rows4 3 3∧Pw rows4 3 3 (fun a b:Nat=>if b < j∨b=j∧a < i then r1 / r3 else 0)∧G=[(150, .int .i64 i)]∧M= .blk bf (recs eS rows4) 24:: .blk bm [mv m.a,lv m.l,lv m.p, .slice q 1 c,mv B,mv n, .slice (some ⟨bf,0,none⟩) 3 3] 101::(rows4.map gG++M0)∧I=jY rows4 50000::dL z 7414::aD B.p (recs eL B.rows)::gQ n 7213::gQ B 200::aD (some ⟨b1,0,none⟩) [mv m.a,lv m.l,lv m.p]::aD q (recs eZ [0])::aD m.p.p (recs eR m.p.es)::aD m.l.p (recs eR m.l.es)::aD m.a.p (recs eL m.a.rows)::dL m.p 200::dL m.l 200::gQ m.a 200::eU m 200::I0) (3) (⟨0,rows3,by omega,rfl,hs3,fun a b ha hb=>by
   rw [hp3 a b ha hb];dsimp only
   by_cases e1:b < j
   ·rw [if_pos e1,if_pos (.inl e1)]
   ·rw [if_neg e1,if_neg (by omega)],rfl,rfl,rfl⟩) ?_
  rintro kk G M I ⟨i,rows4,hi,rfl,hs4,hp4,rfl,rfl,rfl⟩
  have hlen4:=hs4.len
  by_cases hi3:i < 3
  ·have hrow4:=hs4.row hi3
   have hmr:=memS (rows:=rows4) (i:=i) (M1:=M0) (by omega)
   have hri:=hBl i hi3
   refine bN (φ:=dL (gt B.rows (i:Int)) 200) (Hv.xrow (m:=B) aA (by omega)) ?_
   have hD:=fun M0 I0 h1 h2=>aQE (X:=X) (w0:=w0) (M0:=M0) (I0:=I0) (a:=gt B.rows (i:Int)) (b:=z) (ka:=200) (kb:=7414) (n:=1) (by omega) (by omega) hri hzl h1 h2
   repeat refine aC ?_
   (repeat refine aF ?_);refine aS 1 [0,1,2,3,4,5,6,7,8,9,10,11,12,13,14,15,16,17,18] [1,1,1,1,1,1,1,1,1,1,1,1,1,1,0,0,0,0,0] mixed (by kernel_rfl) ?_
   repeat (first|(refine aC ?_)|(refine gF ?_;apply mE;exact iY;exact rfl;exact aA;exact AtsZ.app (AtsZ.r jE);exact rfl;exact rfl))
   repeat refine aC ?_
   refine gT rfl (hD _ _ (Hv.mem aA) (Hv.mem aA)) (fun e3 he3=>?_)
   repeat refine yXh ?_
   refine iG (vs:=eR e3) rfl rfl rfl (Ones.one e3) (aRQ (rows:=rows4) (i:=i) (r':=upR (gt rows4 (i:Int)) j e3) (by omega)) (StAts.app (StAts.r (enc:=eR) (ms:=(gt rows4 (i:Int)).es) (i:=(j:Int)) e3 (by omega) rfl)) rfl rfl ⟨okF,?_⟩
   rw [aHP]
   refine iA (φ:=bE e3 50000) (Hv.q (k:=1*(200+7414+1)) aA (by omega)) ?_
   refine iA (φ:=jY (upS rows4 i j e3) 50000) (Hv.upS hs4 hi3 aA aA) ?_
   rw [←aFH (i:=i) (j:=j) (e:=e3) hs4 hi3]
   repeat refine aC ?_
   have hv3:e3.q=r1 / r3:=by
    rw [he3]
    show 0+(gt B.rows (i:Int)).q.getD 0 0*z.q.getD 0 0=_
    have h9:(gt B.rows (i:Int)).q.getD 0 0=r1:=by
     show (qs (gt B.rows (i:Int)).es).getD 0 0=r1
     rw [hBe i hi3]
     exact hg1 i hi3
    rw [h9,hzq]
    decide+kernel
   refine lN (3 - (i+1)) (⟨i+1,upS rows4 i j e3,by omega,rfl,hs4.up hi3,hp4.up hs4 hi3 hj3 (fun a b ha hb=>?_),rfl,rfl,rfl⟩)
   by_cases e1:a=i∧b=j
   ·rw [if_pos e1,hv3,if_pos (.inr ⟨e1.2,by omega⟩)]
   ·rw [if_neg e1]
    by_cases e2:b < j∨b=j∧a < i
    ·rw [if_pos e2,if_pos (by omega)]
    ·rw [if_neg e2,if_neg (by omega)]
  ·obtain rfl:i=3:=by omega
   repeat refine aC ?_
   refine lN (3 - (j+1)) (⟨j+1,rows4,by omega,rfl,hs4,fun a b ha hb=>?_,rfl,rfl,rfl⟩)
   rw [hp4 a b ha hb];dsimp only
   by_cases e1:b < j+1
   ·rw [if_pos (by omega),if_pos e1]
   ·rw [if_neg (by omega),if_neg e1]
 ·obtain rfl:j=3:=by omega
  repeat refine aC ?_
  refine oC (M':= .blk bm [mv m.a,lv m.l,lv m.p, .slice q 1 c,mv B,mv n, .slice (some ⟨bf,0,none⟩) 3 3] 101:: .blk bf (recs eS rows3) 24::(rows3.map gG++M0)) (List.Perm.swap _ _ _) ?_
  refine fU .here ?_
  refine rU (fun _ hw=>aEX (k:=50000) (co:=3) (tlo:=[]) (rows:=rows3) (by rw [List.append_nil];exact hw) (fun r hr=>by have:=hs3.col r hr;omega) (by rw [hs3.len];omega) aA) ?_
  obtain ⟨fq,fd⟩:=q_xs (bo:=bf) (co:=3) hs3 hp3
  have hfv:(.slice (some ⟨bf,0,none⟩) 3 3:Value)=mv (MS.x bf 3 rows3):=by
   show _=Value.slice (some ⟨bf,0,none⟩) (rows3.map MS.l).length 3
   rw [List.length_map,hs3.len]
  rw [hfv]
  refine bX (φ:=xO m bm (MS.x bf 3 rows3)) ⟨fun X w hw=>⟨hw _ aA,hw _ aA,⟨q,c,B,n,hw _ aA⟩⟩⟩ ?_
  refine tyS [2,3] rfl rfl (⟨rfl,bm,MS.x bf 3 rows3,rfl,⟨fun a b ha hb=>?_,fd⟩,rfl⟩)
  have h1:=nR (m:=MS.x bf 3 rows3) (i:=a) (j:=b) (by rw [fd.1];exact ha) (by rw [fd.row ha];exact hb)
  rw [←h1,fq,sK ha hb,if_pos hb]
end
end Go.Proofs.YthhldplegmeolaaGreat
namespace Go.Fx
theorem wXn {p g:Prop} (h:g) (w:BoxP g→p:=by (intro hh;(first|refine aF ?_|refine fJ ?_|refine lQ ?_|refine jI ?_|refine iB ?_|refine gM ?_|refine jJ ?_|refine iW ?_|refine gY ?_|refine gV ?_|refine lY ?_|refine lV ?_|refine mD ?_|refine lU rfl ?_|refine bG ?_|(refine iT ?_;first|refine iV rfl rfl rfl ?_|(refine iQ rfl rfl ?_;refine fV rfl rfl rfl okD ?_)|refine iI rfl rfl (by omega) ?_|refine iK rfl rfl (by omega) ?_)|(refine cK ?_;refine aB rfl (fun _=>dP rfl) rfl rfl ?_)|refine aB rfl (fun _=>aZ rfl) rfl rfl ?_|(refine iP ?_;first|refine aB rfl (fun _=>bL rfl rfl w_) rfl rfl ?_|refine aB rfl (fun _=>bK rfl rfl w_) rfl rfl ?_|refine aB rfl (fun _=>fD rfl rfl w_) rfl rfl ?_|refine aB rfl (fun _=>fE rfl rfl (by omega) q_) rfl rfl ?_|refine aB rfl (fun _=>fC rfl rfl (by omega) rfl) rfl rfl ?_|refine aB rfl (fun _=>dS rfl rfl) rfl rfl ?_)|(refine cK ?_;first|refine aB rfl (fun _=>eD rfl w_) rfl rfl ?_)|(refine iU ?_;first|refine aB rfl (fun _=>dI rfl w_) rfl rfl ?_)|(refine iX ?_;first|refine aB rfl (fun _=>bM rfl) rfl rfl ?_|refine aB rfl (fun _=>dV rfl rfl) rfl rfl ?_|refine aB rfl (fun _=>dW rfl rfl) rfl rfl ?_|refine aB rfl (fun _=>dX rfl rfl rfl) rfl rfl ?_)|(refine iM ?_;first|refine iN rfl (by decide) rfl rfl ?_|refine kR rfl (by decide) rfl rfl ?_)|(refine iJ ?_;first|refine aB rfl (fun _=>dH rfl) rfl rfl ?_)|(refine iO ?_;first|refine kL rfl rfl jE rfl rfl ?_|refine kM vwX rfl rfl jE aQ kT rfl rfl ?_|refine kK vwX rfl rfl jE aQ kT rfl rfl ?_|refine aB rfl (fun _=>bZ rfl rfl jE) rfl rfl ?_)|(refine gF ?_;first|refine kQ vwX rfl aQ uB rfl rfl ?_|refine kS vwX rfl aQ uB rfl rfl ?_|refine kP vwX rfl aQ uB rfl rfl ?_|refine iL vwX rfl aQ uB rfl rfl ?_|refine nU vwX rfl aQ kX iE rfl rfl ?_|refine nV vwX rfl aQ kX iE rfl rfl ?_|refine nT vwX rfl aQ kX iE rfl rfl ?_|refine mK vwX rfl aQ kX iE rfl rfl ?_)|(refine iR ?_;first|refine aB rfl (fun _=>bY rfl rfl) rfl rfl ?_|refine aB rfl (fun _=>bQ rfl) rfl rfl ?_)|(refine kZ ?_;first|refine nS rfl rfl rfl pQ stC rfl rfl ⟨okD,?_⟩|refine iG rfl rfl iE xN pQ xP rfl rfl ⟨okD,?_⟩)|(refine jL ?_;first|refine dJ rfl ?_|refine cO rfl ?_|refine lX rfl (by omega) ?_|refine pM rfl (by omega) ?_));(repeat (first|refine aF ?_|refine fJ ?_|refine lQ ?_|refine jI ?_|refine iB ?_|refine gM ?_|refine jJ ?_|refine iW ?_|refine gY ?_|refine gV ?_|refine lY ?_|refine lV ?_|refine mD ?_|refine lU rfl ?_|refine bG ?_|(refine iT ?_;first|refine iV rfl rfl rfl ?_|(refine iQ rfl rfl ?_;refine fV rfl rfl rfl okD ?_)|refine iI rfl rfl (by omega) ?_|refine iK rfl rfl (by omega) ?_)|(refine cK ?_;refine aB rfl (fun _=>dP rfl) rfl rfl ?_)|refine aB rfl (fun _=>aZ rfl) rfl rfl ?_|(refine iP ?_;first|refine aB rfl (fun _=>bL rfl rfl w_) rfl rfl ?_|refine aB rfl (fun _=>bK rfl rfl w_) rfl rfl ?_|refine aB rfl (fun _=>fD rfl rfl w_) rfl rfl ?_|refine aB rfl (fun _=>fE rfl rfl (by omega) q_) rfl rfl ?_|refine aB rfl (fun _=>fC rfl rfl (by omega) rfl) rfl rfl ?_|refine aB rfl (fun _=>dS rfl rfl) rfl rfl ?_)|(refine cK ?_;first|refine aB rfl (fun _=>eD rfl w_) rfl rfl ?_)|(refine iU ?_;first|refine aB rfl (fun _=>dI rfl w_) rfl rfl ?_)|(refine iX ?_;first|refine aB rfl (fun _=>bM rfl) rfl rfl ?_|refine aB rfl (fun _=>dV rfl rfl) rfl rfl ?_|refine aB rfl (fun _=>dW rfl rfl) rfl rfl ?_|refine aB rfl (fun _=>dX rfl rfl rfl) rfl rfl ?_)|(refine iM ?_;first|refine iN rfl (by decide) rfl rfl ?_|refine kR rfl (by decide) rfl rfl ?_)|(refine iJ ?_;first|refine aB rfl (fun _=>dH rfl) rfl rfl ?_)|(refine iO ?_;first|refine kL rfl rfl jE rfl rfl ?_|refine kM vwX rfl rfl jE aQ kT rfl rfl ?_|refine kK vwX rfl rfl jE aQ kT rfl rfl ?_|refine aB rfl (fun _=>bZ rfl rfl jE) rfl rfl ?_)|(refine gF ?_;first|refine kQ vwX rfl aQ uB rfl rfl ?_|refine kS vwX rfl aQ uB rfl rfl ?_|refine kP vwX rfl aQ uB rfl rfl ?_|refine iL vwX rfl aQ uB rfl rfl ?_|refine nU vwX rfl aQ kX iE rfl rfl ?_|refine nV vwX rfl aQ kX iE rfl rfl ?_|refine nT vwX rfl aQ kX iE rfl rfl ?_|refine mK vwX rfl aQ kX iE rfl rfl ?_)|(refine iR ?_;first|refine aB rfl (fun _=>bY rfl rfl) rfl rfl ?_|refine aB rfl (fun _=>bQ rfl) rfl rfl ?_)|(refine kZ ?_;first|refine nS rfl rfl rfl pQ stC rfl rfl ⟨okD,?_⟩|refine iG rfl rfl iE xN pQ xP rfl rfl ⟨okD,?_⟩)|(refine jL ?_;first|refine dJ rfl ?_|refine cO rfl ?_|refine lX rfl (by omega) ?_|refine pM rfl (by omega) ?_)));exact hh.out)):p:=w ⟨h⟩
end Go.Fx
namespace Go.Proofs.YthhldplegmeolaaGreat
open Go Go.Fx
section
variable {X:List Nat} {w0:World} {M0:List Ent} {I0:List aN}
theorem aPH {p:Option Addr} {a:List Int} {c:Nat} {g:FuncId} [FnOk Tryz.prog g] {fs cs:Array Value} (pr:Int→Prop) [DecidablePred pr] (hn:(a.length:Int)≤9223372036854775807) (ha:aD p (recs (eI .i64) a)∈I0)
  (hg:∀i:Nat,i < a.length→CD Tryz.prog g (fs.toList++[.int .i64 (gt a i)]++cs.toList) X w0 M0 I0 (fun v M I=>M0=M∧I0=I∧v= .bool (B (pr (gt a i))))):
  CD Tryz.prog 121 [.slice p a.length c, .func (.func g) fs cs] X w0 M0 I0 (fun v M I=>M0=M∧I0=I∧∃r:Int,v= .int .i64 r∧((∃i:Nat,i < a.length∧r=i∧pr (gt a i)∧∀j:Nat,j < i→¬pr (gt a j))∨(r= -1∧∀j:Nat,j < a.length→¬pr (gt a j)))):=by
 refine dF Tryz.func121 rfl Tryz.ntmps121 rfl ?_
 repeat (refine wXn ?_)
 refine dK [0,1,7] rfl (fun k G M I=>∃i:Nat,i≤a.length∧k=a.length - i∧(∀j:Nat,j < i→¬pr (gt a j))∧G=[(8, .int .i64 i)]∧M=M0∧I=I0) (a.length) _ _ _ cZ bJ bI (⟨0,by omega,rfl,fun j hj=>by omega,rfl,rfl,rfl⟩) ?_
 rintro k G M I ⟨i,hi,rfl,hs,rfl,rfl,rfl⟩
 repeat' (first|refine wXn ?_|refine aI rfl (fun h=>?_) (fun h=>?_)|refine aH rfl rfl (fun h=>?_) (fun h=>?_)|fail)
 ·have hlt:i < a.length:=by omega
  (refine yT rfl rfl (hg i hlt) rfl rfl rfl ?_;rintro _ _ _ ⟨rfl,rfl,rfl⟩;refine ⟨okD,?_⟩)
  repeat' (first|refine wXn ?_|refine aI rfl (fun h=>?_) (fun h=>?_)|refine aH rfl rfl (fun h=>?_) (fun h=>?_)|fail)
  ·refine aT (by first|exact .inl rfl|exact .inr rfl) rfl rfl _ _ bJ bI (⟨rfl,rfl,_,rfl, .inl ⟨i,hlt,rfl,by assumption,hs⟩⟩)
  ·refine bR (a.length - (i+1)) _ _ _ (by first|omega|(simp only [List.length_append,List.length_cons,List.length_nil];omega)) cZ bJ bI (⟨i+1,by omega,rfl,fun j hj=>?_,rfl,rfl,rfl⟩)
   by_cases e:j=i
   ·subst e;assumption
   ·exact hs j (by omega)
 ·refine aT (by first|exact .inl rfl|exact .inr rfl) rfl rfl _ _ bJ bI (⟨rfl,rfl,_,rfl, .inr ⟨rfl,fun j hj=>hs j (by omega)⟩⟩)
theorem aIG {p:Option Addr} {a:List Int} {c:Nat} {g:FuncId} [FnOk Tryz.prog g] {fs cs:Array Value} (pr:Int→Prop) [DecidablePred pr] (hn:(a.length:Int)≤9223372036854775807) (ha:aD p (recs (eI .i64) a)∈I0)
  (hg:∀i:Nat,i < a.length→CD Tryz.prog g (fs.toList++[.int .i64 (gt a i)]++cs.toList) X w0 M0 I0 (fun v M I=>M0=M∧I0=I∧v= .bool (B (pr (gt a i))))):
  CD Tryz.prog 76 [.slice p a.length c, .func (.func g) fs cs] X w0 M0 I0 (fun v M I=>M0=M∧I0=I∧v= .bool (B (∃x∈a,pr x))):=by
 refine dF Tryz.func76 rfl Tryz.ntmps76 rfl ?_
 repeat (refine wXn ?_)
 (refine kI rfl (aPH pr hn ha hg) rfl rfl ?_;rintro _ _ _ ⟨rfl,rfl,r,rfl,h⟩;refine ⟨okD,?_⟩)
 repeat (refine wXn ?_)
 refine aT (by first|exact .inl rfl|exact .inr rfl) rfl rfl _ _ bJ bI (⟨rfl,rfl,congrArg Value.bool (gP ?_)⟩)
 rcases h with ⟨i,hi,rfl,hp,_⟩|⟨rfl,h⟩
 ·exact ⟨fun _=>⟨gt a i,by rw [eY hi];exact List.getElem_mem hi,hp⟩,fun _=>by omega⟩
 ·refine ⟨fun h=>by omega,?_⟩
  rintro ⟨x,hx,hp⟩
  obtain ⟨j,hj,rfl⟩:=List.mem_iff_getElem.1 hx
  exact absurd (by rw [eY hj];exact hp) (h j hj)
end
section
variable {X:List Nat} {w0:World} {M0:List Ent} {I0:List aN}
theorem aMP {m:LE} {b:Nat} (e:Exm m) (h:aD (some ⟨b,0,none⟩) [mv m.a,lv m.l,lv m.p]∈I0):CD Tryz.prog 77 [.int .i64 2,pb b] X w0 M0 I0 (fun v M I=>M0=M∧I0=I∧v= .bool (B False)):=by
 have lR:=e.f.d.1.1
 refine aP Tryz.func77 rfl Tryz.ntmps77 rfl ?_
 repeat refine aC ?_
 rw [lR]
 repeat refine aC ?_
 refine iZ rfl rfl (⟨rfl,rfl,?_⟩)
 exact congrArg Value.bool (gP ⟨fun h=>by omega,fun h=>h.elim⟩)
theorem aNY {m:LE} {F:MX} {b bm:Nat} (e:Exm m) (hF:Fits F) (hr:xO m bm F∈I0) (h:aD (some ⟨b,0,none⟩) [pb bm]∈I0):CD Tryz.prog 78 [.int .i64 2,pb b] X w0 M0 I0 (fun v M I=>M0=M∧I0=I∧v= .bool (B False)):=by
 have hR:=fun M0 I0 h=>aJG (X:=X) (w0:=w0) (M0:=M0) (I0:=I0) (m:=m) (F:=F) (bm:=bm) (i:=2) e hF (by omega) h
 have hS:=fun (x:RE) M0 I0 h=>jS (X:=X) (w0:=w0) (M0:=M0) (I0:=I0) (e:=x) (k:=50201) (by omega) h
 refine aP Tryz.func78 rfl Tryz.ntmps78 rfl ?_
 repeat refine aC ?_
 refine gT rfl (hR _ _ aA) (fun x hx=>?_)
 have hSx:=hS x
 rw [hx,show (r1 - r1 / r3).num.sign=1 by decide+kernel] at hSx
 repeat refine aC ?_
 (refine bA rfl (hSx _ _ (Hv.mem aA)) ?_;rintro _ _ _ ⟨rfl,rfl,rfl⟩;refine aU ?_)
 repeat refine aC ?_
 refine iZ rfl rfl (⟨rfl,rfl,?_⟩)
 exact congrArg Value.bool (gP ⟨fun h=>by omega,fun h=>h.elim⟩)
theorem aEF {m:LE} {q:Option Addr} {c:Nat} (e:Exm m) (h:eU m 200∈I0) (hq:aD q (recs (eI .i64) [2])∈I0):
  CD Tryz.prog 37 [wM m, .slice q 1 c] X w0 M0 I0 (fun v M I=>M0=M∧∃(bm:Nat) (F:MX),v= .tuple #[pb bm, .int .i64 0]∧Fits F∧I=xO m bm F::I0):=by
 have hO:=fun M0 I0 h=>aOO (X:=X) (w0:=w0) (M0:=M0) (I0:=I0) (m:=m) e h
 refine aP Tryz.func37 rfl Tryz.ntmps37 rfl ?_
 refine fG ?_
 refine fQ rfl (fun b2=>?_)
 refine aG .here ?_
 repeat refine aC ?_
 (refine bA rfl (hO _ _ aA) ?_;rintro _ _ _ ⟨rfl,bm,F,rfl,hF,rfl⟩;refine aU ?_)
 repeat refine aC ?_
 refine dG (fun b6=>?_)
 repeat refine aC ?_
 have h1:=fun M0 I0 h1 h2=>aIG (X:=X) (w0:=w0) (M0:=M0) (I0:=I0) (p:=q) (a:=[2]) (c:=c) (g:=77) (fs:=#[]) (cs:=#[pb b2]) (fun _=>False) (by decide) h1 (fun t ht=>by
  obtain rfl:t=0:=by simpa using ht
  exact aMP (X:=X) (w0:=w0) (M0:=M0) (I0:=I0) (m:=m) (b:=b2) e h2)
 rw [aW (show ¬∃x∈[(2:Int)],False from fun ⟨_,_,hx⟩=>hx)] at h1
 refine dC rfl (h1 _ _ aA aA) ?_
 repeat refine aC ?_
 refine aG .here ?_
 have h2:=fun M0 I0 h1 h2 h3=>aIG (X:=X) (w0:=w0) (M0:=M0) (I0:=I0) (p:=q) (a:=[2]) (c:=c) (g:=78) (fs:=#[]) (cs:=#[pb b6]) (fun _=>False) (by decide) h1 (fun t ht=>by
  obtain rfl:t=0:=by simpa using ht
  exact aNY (X:=X) (w0:=w0) (M0:=M0) (I0:=I0) (m:=m) (b:=b6) (bm:=bm) e hF h2 h3)
 rw [aW (show ¬∃x∈[(2:Int)],False from fun ⟨_,_,hx⟩=>hx)] at h2
 refine dC rfl (h2 _ _ aA aA aA) ?_
 repeat refine aC ?_
 refine tyS [4,5] rfl rfl (⟨rfl,bm,F,rfl,hF,rfl⟩)
theorem aKN {m:LE} (e:Exm m) (h:eU m 200∈I0):
  CD Tryz.prog 13 [wM m, .int .i64 2] X w0 M0 I0 (RQc (((-3:Int):Rat)) 300000 M0 I0):=by
 have hI:=fun M0 I0 q c h1 h2=>aEF (X:=X) (w0:=w0) (M0:=M0) (I0:=I0) (m:=m) (q:=q) (c:=c) e h1 h2
 refine aP Tryz.func13 rfl Tryz.ntmps13 rfl ?_
 refine fG ?_
 refine fQ rfl (fun b2=>?_)
 refine aG .here ?_
 refine dG (fun b4=>?_)
 repeat refine aC ?_
 refine nG (cs:=recs (eI .i64) [2]) ([.int .i64 2]) rfl (fun b11=>?_)
 refine aG .here ?_
 (refine bA rfl (hI _ _ (some ⟨b11,0,none⟩) 1 aA aA) ?_;rintro _ _ _ ⟨rfl,bm,F,rfl,hF,rfl⟩;refine aU ?_)
 have hRs:=fun M0 I0 h=>aKP (X:=X) (w0:=w0) (M0:=M0) (I0:=I0) (m:=m) (F:=F) (bm:=bm) e hF h
 have hRd:=fun M0 I0 h=>aJG (X:=X) (w0:=w0) (M0:=M0) (I0:=I0) (m:=m) (F:=F) (bm:=bm) (i:=2) e hF (by omega) h
 repeat refine aC ?_
 (repeat refine aF ?_);refine pF ([]) (xO m bm F::I0) mixed ?_
 refine jT (fuel:=6) (listed':=#[true,true,true,false,false,true,true,false,false,false,false]) [0,2,5,6,1] [2,3,2,2,0] aK aJ (by kernel_rfl) (by kernel_rfl) rfl rfl ?_
 repeat refine aC ?_
 (refine bA rfl (hRs _ _ aA) ?_;rintro _ _ _ ⟨rfl,r,rfl,hr,rfl⟩;refine aU ?_)
 have hrl:r.es.length=3:=by
  have:=congrArg List.length hr
  simpa using this
 refine iA (φ:=bE (gt r.es 2) 200000) (Hv.lel (r:=r) aA (by omega)) ?_
 refine iA (φ:=aD r.p (recs eR r.es)) (Hv.lsl (k:=200000) aA) ?_
 refine bG ?_
 refine aNG ([]) (aD r.p (recs eR r.es)::bE (gt r.es 2) 200000::xO m bm F::I0) aK aJ ?_
 refine bF [3,4,7,8,9,10] [2,1,0,0,0,0] aK aJ (by kernel_rfl) (by kernel_rfl) rfl rfl ?_
 repeat refine aC ?_
 refine gT rfl (hRd _ _ aA) (fun d hd=>?_)
 have hO:=fun M0 I0 h1 h2=>aNA (X:=X) (w0:=w0) (M0:=M0) (I0:=I0) (a:=gt r.es 2) (b:=d) (k:=200000) (m:=50201) (by omega) (by rw [hd];decide+kernel) h1 h2
 repeat refine aC ?_
 refine gT rfl (hO _ _ (Hv.mem aA) (Hv.mem aA)) (fun x hx=>?_)
 repeat refine aC ?_
 refine bX (φ:=bE x 300000) (Hv.q (k:=200000+50201) aA (by omega)) ?_
 refine gZ (rs:=[.cell 4 36, .tmp 5]) (vs:=[rv x, .int .i64 0]) (.inl rfl) rfl (.cellN (cs:=eR x) inferInstance rfl aA rfl (.tmp rfl .nil)) rfl M0 (bE x 300000::I0) aK aJ ⟨rfl,x,rfl,?_,rfl⟩
 have h9:=aFC (es:=r.es) hr (j:=2) (by omega)
 rw [hx,hd,show gt r.es (2:Int)=gt r.es ((2:Nat):Int) from rfl,h9]
 show (-r3+(0+r1 / r3*r0+r1 / r3*r0+r1 / r3*r3)) / (r1 - r1 / r3)=_
 decide+kernel
end
end Go.Proofs.YthhldplegmeolaaGreat
namespace Go.Proofs.YthhldplegmeolaaGreat
open Go Go.Fx
section
variable {X:List Nat} {w0:World} {M0:List Ent} {I0:List aN}
theorem aLU:CD Tryz.prog 14 [] X w0 M0 I0 (fun v M I=>M0=M∧∃m:LE,v=wM m∧Exm m∧I=eU m 2::I0):=by
 have hW1:=fun M0 I0=>oO (X:=X) (w0:=w0) (M0:=M0) (I0:=I0) (x:=1) (by decide) (k:=2) (by decide)
 refine aL (φ:=aX [] 2) Hv.nilR ?_
 refine aIN Tryz.func14 rfl Tryz.ntmps14 rfl ?_
 refine fG ?_
 refine dG (fun b0=>?_)
 repeat refine aC ?_
 (refine aB rfl (fun _=>aY (pvs:=([]).zipIdx.map (fun p=>(p.2,p.1))) (cells:=[.slice none 0 0, .slice none 0 0, .slice none 0 0]) rfl rfl) rfl rfl ?_)
 refine dG (fun b1=>?_)
 repeat refine aC ?_
 refine nG (cs:=recs (eI .i64) [(0:Int),0,3]) ([.int .i64 0, .int .i64 0, .int .i64 3]) rfl (fun bi=>?_)
 refine aG .here ?_
 obtain ⟨zl,hz,hzl⟩:∃zl:List Int,zl=[0,0,3]∧zl.length=3:=⟨_,rfl,rfl⟩
 rw [←hz]
 repeat refine aC ?_
 refine jM 36 4 ?_
 refine jM 36 4 ?_
 refine jM 24 1 ?_
 refine bN (φ:=lJ [] 2) Hv.nilL ?_
 refine pU [0,1,5,6] rfl (fun k G M I=>∃(t:Nat) (rows:List RL) (ls ps:List RE) (qa ql qp:Option Addr) (ca cl cp:Nat),t≤3∧k=3 - t∧(rows.length=t∧ls.length=t∧ps.length=t)∧(∀j:Nat,j < t→(gt rows (j:Int)).q=[r1])∧(∀j:Nat,j < t→(gt ls (j:Int)).q=((gt zl (j:Int):Int):Rat))∧(∀j:Nat,j < t→(gt ps (j:Int)).q=r1)∧G=[(7, .int .i64 t)]∧M= .row qa rows.length ca (recs eL rows) 24 1:: .row ql ls.length cl (recs eR ls) 36 4:: .row qp ps.length cp (recs eR ps) 36 4:: .blk b1 [.slice qa rows.length ca, .slice ql ls.length cl, .slice qp ps.length cp] 26:: .blk b0 [.slice none 0 0, .slice none 0 0, .slice none 0 0] 26::M0∧I=lJ rows 2::aX ls 2::aX ps 2::aD (some ⟨bi,0,none⟩) (recs (eI .i64) zl)::aX [] 2::I0) (3) (⟨0,[],[],[],none,none,none,0,0,0,by omega,rfl,⟨rfl,rfl,rfl⟩,fun j hj=>by omega,fun j hj=>by omega,fun j hj=>by omega,rfl,rfl,rfl⟩) ?_
 rintro kk G M I ⟨t,rows,ls,ps,qa,ql,qp,ca,cl,cp,ht,rfl,⟨hl1,hl2,hl3⟩,hv1,hv2,hv3,rfl,rfl,rfl⟩
 by_cases ht3:t < 3
 ·obtain ⟨x,hx⟩:∃x:Int,gt zl (t:Int)=x:=⟨_,rfl⟩
  have hxb:x.natAbs≤3∧ -9223372036854775808≤x∧x≤9223372036854775807:=by
   rw [←hx,hz]
   match t,ht3 with
   |0,_=>decide
   |1,_=>decide
   |2,_=>decide
  have hWx:=fun M0 I0=>oO (X:=X) (w0:=w0) (M0:=M0) (I0:=I0) (x:=x) hxb.2 (k:=2) (by omega)
  repeat refine aC ?_
  rw [hx]
  repeat refine aC ?_
  (repeat refine aF ?_);refine aS 3 [0,1,2,3,4,5,6,7] [4,3,0,0,0,0,0,0] mixed (by kernel_rfl) ?_
  repeat refine aC ?_
  refine gT rfl (hW1 _ _) (fun e1 he1=>?_)
  refine nG (cs:=recs eR [e1]) ([rv e1]) rfl (fun br=>?_)
  refine iA (φ:=aX [e1] 2) (Hv.snoc (es:=[]) aA aA) ?_
  refine aPZ (k:=2) aA ?_
  refine nG (cs:=recs eL [(⟨some ⟨br,0,none⟩,1,[e1]⟩:RL)]) ([lv (⟨some ⟨br,0,none⟩,1,[e1]⟩:RL)]) rfl (fun bb=>?_)
  refine tyP (ys:=[(⟨some ⟨br,0,none⟩,1,[e1]⟩:RL)]) 1 rfl rfl rfl (fun q2 c2=>?_)
  repeat refine aC ?_
  refine aKZ (M':= .row q2 (rows++[(⟨some ⟨br,0,none⟩,1,[e1]⟩:RL)]).length c2 (recs eL (rows++[(⟨some ⟨br,0,none⟩,1,[e1]⟩:RL)])) 24 1:: .row ql ls.length cl (recs eR ls) 36 4:: .row qp ps.length cp (recs eR ps) 36 4:: .blk b1 [.slice q2 (rows++[(⟨some ⟨br,0,none⟩,1,[e1]⟩:RL)]).length c2, .slice ql ls.length cl, .slice qp ps.length cp] 26:: .blk b0 [.slice none 0 0, .slice none 0 0, .slice none 0 0] 26::M0) (I':=lJ rows 2::dL (⟨some ⟨br,0,none⟩,1,[e1]⟩:RL) 2::aX ls 2::aX ps 2::aD (some ⟨bi,0,none⟩) (recs (eI .i64) zl)::aX [] 2::I0) (SubP.drop SubP.refl) aJ ?_
  refine bN (φ:=lJ (rows++[(⟨some ⟨br,0,none⟩,1,[e1]⟩:RL)]) 2) (Hv.snocL aA aA) ?_
  (repeat refine aF ?_);refine aAE 6 (.blk b1 [.slice q2 (rows++[(⟨some ⟨br,0,none⟩,1,[e1]⟩:RL)]).length c2, .slice ql ls.length cl, .slice qp ps.length cp] 26::[]) (I0) [0,1,2,6,7,3,4,5,11,8,9,10,12,13,14] [6,5,5,6,5,0,0,0,3,0,0,0,0,0,0] aK aJ mixed (by kernel_rfl) ?_
  repeat refine aC ?_
  refine gT rfl (hWx _ _) (fun e2 he2=>?_)
  repeat refine aC ?_
  refine nG (cs:=recs eR [e2]) ([rv e2]) rfl (fun b2=>?_)
  refine tyP (ys:=[e2]) 2 rfl rfl rfl (fun q3 c3=>?_)
  repeat refine aC ?_
  refine gT rfl (hW1 _ _) (fun e3 he3=>?_)
  repeat refine aC ?_
  refine nG (cs:=recs eR [e3]) ([rv e3]) rfl (fun b3=>?_)
  refine tyP (ys:=[e3]) 4 rfl rfl rfl (fun q4 c4=>?_)
  repeat refine aC ?_
  refine bX (φ:=aX (ls++[e2]) 2) (Hv.snoc aA aA) ?_
  refine bX (φ:=aX (ps++[e3]) 2) (Hv.snoc aA aA) ?_
  refine lN (3 - (t+1)) (⟨t+1,(rows++[(⟨some ⟨br,0,none⟩,1,[e1]⟩:RL)]),ls++[e2],ps++[e3],q2,q3,q4,c2,c3,c4,by omega,rfl,⟨by simp [hl1],by simp [hl2],by simp [hl3]⟩,fun j hj=>?_,fun j hj=>?_,fun j hj=>?_,rfl,rfl,rfl⟩)
  ·rw [nE hl1 j hj]
   by_cases e9:j < t
   ·rw [if_pos e9];exact hv1 j e9
   ·rw [if_neg e9];show [e1.q]=[r1];rw [he1]
  ·rw [nE hl2 j hj]
   by_cases e9:j < t
   ·rw [if_pos e9];exact hv2 j e9
   ·rw [if_neg e9,show j=t by omega,hx];exact he2
  ·rw [nE hl3 j hj]
   by_cases e9:j < t
   ·rw [if_pos e9];exact hv3 j e9
   ·rw [if_neg e9];exact he3
 ·obtain rfl:t=3:=by omega
  repeat refine aC ?_
  refine rU (fun _ hw=>Mem.toX (k:=2) hw aA) ?_
  refine sO (k:=2) aA ?_
  refine sO (k:=2) aA ?_
  refine bX (φ:=eU ⟨⟨qa,ca,rows⟩,⟨ql,cl,ls⟩,⟨qp,cp,ps⟩⟩ 2) (Hv.le3m aA aA aA) ?_
  have hAq:(⟨qa,ca,rows⟩:MX).q=[[r1],[r1],[r1]]:=by
   have:=aEC (a:=rows.map RL.q) (R:=3) (g:=fun _=>[r1]) (by simp [hl1]) (fun j hj=>by
    rw [eY (by simpa [hl1] using hj)]
    have h9:=hv1 j hj
    rw [eY (by omega)] at h9
    simpa using h9)
   exact this
  have hLq:(⟨ql,cl,ls⟩:RL).q=[r0,r0,r3]:=by
   apply jG
   ·show (ls.map RE.q).length=_;simp [hl2]
   ·intro j hj
    have hj':j < 3:=by simpa [hl2] using hj
    show (qs ls).getD j 0=_
    rw [bT (by omega),hv2 j hj',hz]
    match j,hj' with
    |0,_=>rfl
    |1,_=>rfl
    |2,_=>rfl
  have hPq:(⟨qp,cp,ps⟩:RL).q=[r1,r1,r1]:=by
   apply jG
   ·show (ps.map RE.q).length=_;simp [hl3]
   ·intro j hj
    have hj':j < 3:=by simpa [hl3] using hj
    show (qs ps).getD j 0=_
    rw [bT (by omega),hv3 j hj']
    match j,hj' with
    |0,_=>rfl
    |1,_=>rfl
    |2,_=>rfl
  have hrow:∀r∈rows,r.es.length=1:=fun r hr=>by
   obtain ⟨j,hj,rfl⟩:=List.mem_iff_getElem.1 hr
   have h9:=hv1 j (by omega)
   rw [eY hj] at h9
   have:=congrArg List.length h9
   simpa using this
  have hpos:∀x∈ps,0 < x.q:=fun x hx=>by
   obtain ⟨j,hj,rfl⟩:=List.mem_iff_getElem.1 hx
   have h9:=hv3 j (by omega)
   rw [eY hj] at h9
   rw [h9];decide+kernel
  refine aR (cs:=[.slice qa rows.length ca, .slice ql ls.length cl, .slice qp ps.length cp]) (.inl rfl) rfl rfl aA rfl M0 (eU ⟨⟨qa,ca,rows⟩,⟨ql,cl,ls⟩,⟨qp,cp,ps⟩⟩ 2::I0) aK aJ ⟨rfl,_,rfl,⟨⟨⟨⟨hl1,hrow⟩,⟨by omega,by omega⟩,by omega,by omega⟩,by omega,hl2,hl3,hpos⟩,hAq,hLq,hPq⟩,rfl⟩
end
end Go.Proofs.YthhldplegmeolaaGreat
namespace Go.Proofs.YthhldplegmeolaaGreat
open Go Go.Fx
def exN:Mt:=[[r3]]
theorem Exm.nn {m:LE} (e:Exm m):nN m 3 1=[[r3]]:=by
 unfold nN;rw [e.A,e.P];decide+kernel
theorem Exm.nb {m:LE} (e:Exm m):nB m 3 1=[r3]:=by
 unfold nB;rw [e.A,e.P,e.L];decide+kernel
theorem Exm.st {m:LE} (e:Exm m):stQ m 3 1 2=((6:Int):Rat):=by
 unfold stQ;rw [e.nn,e.nb,e.A,e.P,e.L];decide+kernel
theorem Exm.rr {m:LE} (e:Exm m):rS 1 (nN m 3 1) (at2 m.a.q 2) (m.p.q.getD 2 0)≠0:=by
 rw [e.nn,e.A,e.P];decide+kernel
section
variable {X:List Nat} {w0:World} {M0:List Ent} {I0:List aN}
theorem wG:CD Tryz.prog 4 [] X w0 M0 I0 (fun v M I=>M0=M∧I0=I∧v= .bool true):=by
 have hM:=fun M0 I0=>aLU (X:=X) (w0:=w0) (M0:=M0) (I0:=I0)
 have hA:=fun (m:LE) (e:Exm m) M0 I0 h=>aKN (X:=X) (w0:=w0) (M0:=M0) (I0:=I0) (m:=m) e h
 have hS:=fun (m:LE) (e:Exm m) M0 I0 h=>aOG (X:=X) (w0:=w0) (M0:=M0) (I0:=I0) (m:=m) (R:=3) (n:=1) (t:=2) (by omega) (by omega) (by omega) e.f (by rw [e.nn];decide+kernel) e.rr h
 have hW1:=fun M0 I0=>oO (X:=X) (w0:=w0) (M0:=M0) (I0:=I0) (x:= -3) (by decide) (k:=3) (by decide)
 have hW2:=fun M0 I0=>oO (X:=X) (w0:=w0) (M0:=M0) (I0:=I0) (x:=6) (by decide) (k:=3) (by decide)
 have hSm:=fun (a b:RE) (h:a.q=b.q) M0 I0 h1 h2=>zY (X:=X) (w0:=w0) (M0:=M0) (I0:=I0) (a:=a) (b:=b) (k:=500000000) (m:=3) (by omega) h1 h2
 refine aIN Tryz.func4 rfl Tryz.ntmps4 rfl ?_
 repeat refine aC ?_
 refine tyJ rfl (hM _ _) (fun m e=>?_)
 refine iA (φ:=eU m 200) (Hv.leUp (k:=2) aA (by omega)) ?_
 repeat refine aC ?_
 (refine bA rfl (hA m e _ _ aA) ?_;rintro _ _ _ ⟨rfl,x,rfl,hx,rfl⟩;refine aU ?_)
 repeat refine aC ?_
 refine dG (fun b1=>?_)
 repeat refine aC ?_
 refine aG .here ?_
 refine tyJ rfl (hM _ _) (fun m2 e2=>?_)
 refine iA (φ:=eU m2 200) (Hv.leUp (k:=2) aA (by omega)) ?_
 repeat refine aC ?_
 (refine bA rfl (hS m2 e2 _ _ aA) ?_;rintro _ _ _ ⟨rfl,y,rfl,hy,rfl⟩;refine aU ?_)
 repeat refine aC ?_
 refine dG (fun b3=>?_)
 repeat refine aC ?_
 refine vF .here ?_
 refine bN (φ:=bE x 500000000) (Hv.q (k:=300000) aA (by omega)) ?_
 (repeat refine aF ?_);refine tyW ([]) (bE x 500000000::aD (some ⟨b3,0,none⟩) (eR y)::bE y 500000000::aD (some ⟨b1,0,none⟩) (eR x)::I0) [0,1,2,3,4,5,6,7,8,9,10,11,12,13,14,15,16] [4,4,4,4,4,4,2,3,0,0,2,0,1,0,0,0,0] mixed ?_
 repeat refine aC ?_
 refine gT rfl (hW1 _ _) (fun o1 ho1=>?_)
 repeat refine aC ?_
 have hq1:x.q=o1.q:=by rw [hx,ho1]
 have hs1:=hSm x o1 hq1
 rw [bV hq1] at hs1
 (refine bA rfl (hs1 _ _ (Hv.mem aA) (Hv.mem aA)) ?_;rintro _ _ _ ⟨rfl,rfl,rfl⟩;refine aU ?_)
 repeat refine aC ?_
 refine gT rfl (hW2 _ _) (fun o2 ho2=>?_)
 repeat refine aC ?_
 have hq2:y.q=o2.q:=by rw [hy,ho2,e2.st]
 have hs2:=hSm y o2 hq2
 rw [bV hq2] at hs2
 (refine bA rfl (hs2 _ _ (Hv.mem aA) (Hv.mem aA)) ?_;rintro _ _ _ ⟨rfl,rfl,rfl⟩;refine aU ?_)
 repeat refine aC ?_
 refine iZ rfl rfl (⟨rfl,rfl,rfl⟩)
theorem wZ {m:LW} (hR:m.rch) (hm:rV m∈I0):CD Tryz.prog 5 [vLW m] X w0 M0 I0 (fun v M I=>M0=M∧I0=I∧v= .bool (B (m.few 8 4∧m.code=0))):=by
 obtain ⟨ra,rl,rp⟩:=hR
 have hla:=ra.1
 refine aL (φ:=pR m.a) (Hv.lwa hm) ?_
 refine aL (φ:=jN m.l) (Hv.lwl (List.Mem.tail _ hm)) ?_
 refine aL (φ:=jN m.p) (Hv.lwp (List.Mem.tail _ (List.Mem.tail _ hm))) ?_
 refine aL (φ:=aD m.a.p (recs uX m.a.rows)) (Hv.wmsl aA) ?_
 have hSl:=fun M0 I0 h=>yP (X:=X) (w0:=w0) (M0:=M0) (I0:=I0) (r:=m.l) (n:=8) (g:=6) ⟨by omega,by omega⟩ rl h
 have hSp:=fun M0 I0 h=>yP (X:=X) (w0:=w0) (M0:=M0) (I0:=I0) (r:=m.p) (n:=8) (g:=6) ⟨by omega,by omega⟩ rp h
 refine aV Tryz.func5 rfl Tryz.ntmps5 rfl ?_
 refine fG ?_
 refine fQ rfl (fun b1=>?_)
 refine aG .here ?_
 by_cases e1:m.a.rows.length≤8
 ·by_cases e2:m.l.shN 8 6
  ·rw [bV e2] at hSl
   by_cases e3:m.p.shN 8 6
   ·rw [bV e3] at hSp
    repeat refine aC ?_
    refine dC rfl (hSl _ _ aA) ?_
    repeat refine aC ?_
    refine dC rfl (hSp _ _ aA) ?_
    repeat refine aC ?_
    refine pU [1,22,23] rfl (fun k G M I=>∃i:Nat,i≤m.a.rows.length∧k=m.a.rows.length - i∧(∀j:Nat,j < i→(gt m.a.rows (j:Int)).shN 4 6)∧G=[(24, .int .i64 i)]∧M0=M∧I=aD (some ⟨b1,0,none⟩) [mvW m.a,wE m.l,wE m.p]::aD m.a.p (recs uX m.a.rows)::jN m.p::jN m.l::pR m.a::I0) (m.a.rows.length) (⟨0,by omega,rfl,fun j hj=>by omega,rfl,rfl,rfl⟩) ?_
    rintro kk G M I ⟨i,hi,rfl,hg,rfl,rfl,rfl⟩
    by_cases hin:i < m.a.rows.length
    ·have hS:=fun M0 I0 h=>yP (X:=X) (w0:=w0) (M0:=M0) (I0:=I0) (r:=gt m.a.rows (i:Int)) (n:=4) (g:=6) ⟨by omega,by omega⟩ (sH ra.2 hin) h
     refine bN (φ:=jN (gt m.a.rows (i:Int))) (Hv.wmrow aA (by omega)) ?_
     by_cases e:(gt m.a.rows (i:Int)).shN 4 6
     ·rw [bV e] at hS
      repeat refine aC ?_
      refine dC rfl (hS _ _ aA) ?_
      repeat refine aC ?_
      refine lN (m.a.rows.length - (i+1)) (⟨i+1,by omega,rfl,aDJ hg e,rfl,rfl,rfl⟩)
     ·rw [aW e] at hS
      repeat refine aC ?_
      refine dC rfl (hS _ _ aA) ?_
      repeat refine aC ?_
      refine iZ rfl rfl (⟨rfl,rfl,congrArg Value.bool (aW (fun h=>e (sH h.1.2 hin))).symm⟩)
    ·have hfew:m.few 8 4:=⟨⟨e1,e2,e3⟩,aDM hg (by omega)⟩
     have hCk:=fun M0 I0 h=>aBY (X:=X) (w0:=w0) (M0:=M0) (I0:=I0) (m:=m) (hfew.sml ⟨by omega,by omega⟩) h
     repeat refine aC ?_
     refine dC rfl (hCk _ _ aA) ?_
     repeat refine aC ?_
     refine iZ rfl rfl (⟨rfl,rfl,congrArg Value.bool (gP ⟨fun h=>⟨hfew,h⟩,fun h=>h.2⟩)⟩)
   ·rw [aW e3] at hSp
    repeat refine aC ?_
    refine dC rfl (hSl _ _ aA) ?_
    repeat refine aC ?_
    refine dC rfl (hSp _ _ aA) ?_
    repeat refine aC ?_
    refine iZ rfl rfl (⟨rfl,rfl,congrArg Value.bool (aW (fun h=>e3 h.1.1.2.2)).symm⟩)
  ·rw [aW e2] at hSl
   repeat refine aC ?_
   refine dC rfl (hSl _ _ aA) ?_
   repeat refine aC ?_
   refine iZ rfl rfl (⟨rfl,rfl,congrArg Value.bool (aW (fun h=>e2 h.1.1.2.1)).symm⟩)
 ·repeat refine aC ?_
  refine iZ rfl rfl (⟨rfl,rfl,congrArg Value.bool (aW (fun h=>e1 h.1.1.1)).symm⟩)
end
end Go.Proofs.YthhldplegmeolaaGreat
namespace Go.Proofs.YthhldplegmeolaaGreat
open Go Go.Fx
section
variable {X:List Nat} {w0:World} {M0:List Ent} {I0:List aN}
theorem aQN {m:LW} {i w:Int} (hR:m.rch) (hno:¬(m.few 8 4∧m.code=0)) (hm:rV m∈I0):CD Tryz.prog 3 [vLW m, .int .i64 i, .int .u8 w] X w0 M0 I0 (fun v M I=>M0=M∧I0=I∧v= .bool true):=by
 have hC:=fun M0 I0 h=>wZ (X:=X) (w0:=w0) (M0:=M0) (I0:=I0) (m:=m) hR h
 simp only [aW hno] at hC
 refine iC Tryz.func3 rfl Tryz.ntmps3 rfl ?_
 refine fG ?_
 refine fQ rfl (fun b3=>?_)
 refine aG .here ?_
 repeat refine aC ?_
 refine dC rfl (wG) ?_
 repeat refine aC ?_
 (refine bA rfl (hC _ _ aA) ?_;rintro _ _ _ ⟨rfl,rfl,rfl⟩;refine aU ?_)
 repeat refine aC ?_
 refine iZ rfl rfl (⟨rfl,rfl,rfl⟩)
theorem aRC {m:LE} {R n:Nat} {i w:Int} (hi: -9223372036854775808≤i∧i≤9223372036854775807) (f:m.fit R n) (hR:m.raw.rch) (hok:m.raw.few 8 4∧m.raw.code=0) (hno:¬(R≤7∧0≤i∧i < R)) (hm:rV m.raw∈I0):CD Tryz.prog 3 [wM m, .int .i64 i, .int .u8 w] X w0 M0 I0 (fun v M I=>M0=M∧I0=I∧v= .bool true):=by
 have lR:=f.d.1.1
 have hr:=f.d.2.1
 have hC:=fun M0 I0 h=>wZ (X:=X) (w0:=w0) (M0:=M0) (I0:=I0) (m:=m.raw) hR h
 simp only [bV hok,yA] at hC
 refine iC Tryz.func3 rfl Tryz.ntmps3 rfl ?_
 refine fG ?_
 refine fQ rfl (fun b3=>?_)
 refine aG .here ?_
 repeat refine aC ?_
 refine dC rfl (wG) ?_
 repeat refine aC ?_
 (refine bA rfl (hC _ _ aA) ?_;rintro _ _ _ ⟨rfl,rfl,rfl⟩;refine aU ?_)
 by_cases h7:R≤7
 ·by_cases h0:0≤i
  ·have h1:(R:Int)≤i:=by omega
   repeat refine aC ?_
   rw [lR]
   repeat refine aC ?_
   refine iZ rfl rfl (⟨rfl,rfl,rfl⟩)
  ·repeat refine aC ?_
   rw [lR]
   repeat refine aC ?_
   refine iZ rfl rfl (⟨rfl,rfl,rfl⟩)
 ·repeat refine aC ?_
  rw [lR]
  repeat refine aC ?_
  refine iZ rfl rfl (⟨rfl,rfl,rfl⟩)
end
end Go.Proofs.YthhldplegmeolaaGreat

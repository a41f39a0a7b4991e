/- normal: given, residuals, Residuals; snoop: solve. -/
import Derived.Test.YthhldplegmeolaaGreatZuav
import Derived.Test.YthhldplegmeolaaGreatZuar
import Derived.Lib.SliceRun
set_option linter.unusedSimpArgs false
set_option linter.unusedVariables false
set_option maxRecDepth 100000
set_option maxHeartbeats 4000000
namespace Go.Proofs.YthhldplegmeolaaGreat
open Go Go.Fx
instance:FnOk Tryz.prog 61:=⟨_,Tryz.func61,by kernel_rfl,by kernel_rfl⟩
section
variable {X:List Nat} {w0:World} {M0:List Ent} {I0:List aN}
theorem aKD {m:LE} {x:RL} {R n K:Nat} (hK:K≤20000000000) (f:m.fit R n) (hl:x.es.length=n) (h:eU m 200∈I0) (hx:dL x K∈I0):CD Tryz.prog 109 [wM m,lv x] X w0 M0 I0 (fun v M I=>M0=M∧I0=I∧v= .int .i64 0):=by
 have hn:=f.d.2.2
 have lC:=f.d.r0
 have hR:=f.d.2.1
 have lR:=f.d.1.1
 have hC:=fun M0 I0 h=>mY (X:=X) (w0:=w0) (M0:=M0) (I0:=I0) (m:=m) (R:=R) (C:=n) (k:=200) (by omega) f h
 refine gW (fun w hw=>Mem.lsml hx (by omega) hK hw) (fun sx=>?_)
 have hCa:=fun M0 I0 (b:Nat) (h1:aD (some ⟨b,0,none⟩) (recs uX [x.raw])∈I0) (h2:jN x.raw∈I0)=>tK (X:=X) (w0:=w0) (M0:=M0) (I0:=I0) (q:=some ⟨b,0,none⟩) (c:=1) (rows:=[x.raw]) (by show 1≤1000000000;omega) (fun r hr=>by rw [List.mem_singleton.1 hr];exact sx) h1 (fun i hi=>by
  obtain rfl:i=0:=by simpa using hi
  exact Hv.mem h2)
 rw [bV (show ∀r∈[x.raw],r.good from fun r hr=>by rw [List.mem_singleton.1 hr];exact RL.raw_good _)] at hCa
 refine aL (φ:=jN x.raw) (Hv.lraw hx (by omega)) ?_
 refine aL (φ:=gQ m.a 200) (Hv.lea (List.Mem.tail _ h)) ?_
 refine aL (φ:=aD (m.a).p (recs eL (m.a).rows)) (Hv.xsl aA) ?_
 refine aP Tryz.func109 rfl Tryz.ntmps109 rfl ?_
 refine fG ?_
 refine fQ rfl (fun b1=>?_)
 refine aG .here ?_
 repeat refine aC ?_
 refine dC rfl (hC _ _ aA) ?_
 repeat refine aC ?_
 refine nG (cs:=[lv x]) ([lv x]) rfl (fun b2=>?_)
 refine aG .here ?_
 refine iA (φ:=aD (some ⟨b2,0,none⟩) (recs uX [x.raw])) (by show Hv _ (aD (some ⟨b2,0,none⟩) [wE x.raw]);rw [uQ];exact Hv.mem aA) ?_
 refine dC rfl (hCa _ _ b2 aA aA) ?_
 repeat refine aC ?_
 rw [lC]
 repeat refine aC ?_
 refine iZ rfl rfl (⟨rfl,rfl,rfl⟩)
theorem aKJ {m:LE} {x:RL} {R n K:Nat} (hK:n*(200+K+1)+201≤100000000000) (f:m.fit R n) (hl:x.es.length=n) (h:eU m 200∈I0) (hx:dL x K∈I0):CD Tryz.prog 110 [wM m,lv x] X w0 M0 I0 (LQ (aHI m R n x.q) (n*(200+K+1)+201) M0 I0):=by
 have hn:=f.d.2.2
 have hR:=f.d.2.1
 have lR:=f.d.1.1
 have hll:=f.l
 refine aL (φ:=gQ m.a 200) (Hv.lea h) ?_
 refine aL (φ:=dL m.l 200) (Hv.lel' (List.Mem.tail _ h)) ?_
 refine aL (φ:=aD (m.a).p (recs eL (m.a).rows)) (Hv.xsl aA) ?_
 refine aL (φ:=aD (m.l).p (recs eR (m.l).es)) (Hv.lsl aA) ?_
 refine aP Tryz.func110 rfl Tryz.ntmps110 rfl ?_
 refine fG ?_
 refine fQ rfl (fun b1=>?_)
 refine aG .here ?_
 repeat refine aC ?_
 rw [lR]
 refine jM 36 4 ?_
 generalize hKK:n*(200+K+1)=KK at*
 refine bN (φ:=aX [] (KK+201)) Hv.nilR ?_
 refine pU [1,2,11,12] rfl (fun k G M I=>∃(t:Nat) (es:List RE) (q:Option Addr) (c:Nat),t≤R∧k=R - t∧es.length=t∧(∀j:Nat,j < t→(gt es (j:Int)).q=sm n (fun a=>at2 m.a.q j a*x.q.getD a 0) - m.l.q.getD j 0)∧G=[(5, .slice q es.length c),(13, .int .i64 t)]∧M= .row q es.length c (recs eR es) 36 4::M0∧I=aX es (KK+201)::aD (some ⟨b1,0,none⟩) [mv m.a,lv m.l,lv m.p]::aD m.l.p (recs eR m.l.es)::aD m.a.p (recs eL m.a.rows)::dL m.l 200::gQ m.a 200::I0) (R) (⟨0,[],none,0,by omega,rfl,rfl,fun j hj=>by omega,rfl,rfl,rfl⟩) ?_
 rintro kk G M I ⟨t,es,q,c,ht,rfl,hel,heq,rfl,rfl,rfl⟩
 by_cases htR:t < R
 ·have hrt:=f.d.1.row htR
  have hlq:=bT (es:=m.l.es) (j:=t) (by omega)
  refine bN (φ:=dL (gt m.a.rows (t:Int)) 200) (Hv.xrow (m:=m.a) aA (by omega)) ?_
  refine bN (φ:=bE (gt m.l.es (t:Int)) 200) (Hv.lel (r:=m.l) aA (by omega)) ?_
  have hD:=fun M0 I0 h1 h2=>aCU (X:=X) (w0:=w0) (M0:=M0) (I0:=I0) (a:=gt m.a.rows (t:Int)) (b:=x) (ka:=200) (kb:=K) (n:=n) (by omega) (by omega) hrt hl h1 h2
  rw [hKK] at hD
  have hS:=fun (e:RE) M0 I0 h1 h2=>yH (X:=X) (w0:=w0) (M0:=M0) (I0:=I0) (a:=e) (b:=gt m.l.es (t:Int)) (k:=KK) (m:=200) (by omega) h1 h2
  repeat refine aC ?_
  (refine bA rfl (hD _ _ (Hv.mem aA) (Hv.mem aA)) ?_;rintro _ _ _ ⟨rfl,e,rfl,he,rfl⟩;refine aU ?_)
  repeat refine aC ?_
  refine dG (fun b8=>?_)
  repeat refine aC ?_
  refine vF .here ?_
  (repeat refine aF ?_);refine tyW ([]) (aD (some ⟨b8,0,none⟩) (eR e)::aD (some ⟨b1,0,none⟩) [mv m.a,lv m.l,lv m.p]::aD m.l.p (recs eR m.l.es)::I0) [0,1,2,3,4,5,6,7,8,9,10] [2,2,3,3,3,3,2,0,0,0,0] mixed ?_
  repeat refine aC ?_
  have hSe:=hS e
  (refine bA rfl (hSe _ _ (Hv.mem aA) (Hv.mem aA)) ?_;rintro _ _ _ ⟨rfl,e2,rfl,he2,rfl⟩;refine aU ?_)
  refine nG (cs:=recs eR [e2]) ([rv e2]) rfl (fun bb=>?_)
  refine tyP (ys:=[e2]) 1 rfl rfl rfl (fun q2 c2=>?_)
  repeat refine aC ?_
  refine bX (φ:=aX (es++[e2]) (KK+201)) (Hv.snoc aA aA) ?_
  refine lN (R - (t+1)) (⟨t+1,es++[e2],q2,c2,by omega,rfl,by simp;omega,fun j hj=>?_,rfl,rfl,rfl⟩)
  by_cases e1:j < t
  ·have:gt (es++[e2]) (j:Int)=gt es (j:Int):=by rw [dM (by simp;omega),dM (by omega),List.getElem_append_left (by omega)]
   rw [this];exact heq j e1
  ·obtain rfl:j=t:=by omega
   have:gt (es++[e2]) (j:Int)=e2:=rJ (A:=es) (B:=[]) (by omega)
   rw [this,he2,he,hlq]
   congr 1
   exact bS (fun a ha=>by rw [bT (es:=(gt m.a.rows (j:Int)).es) (by omega),nR (by omega) (by omega)])
 ·obtain rfl:t=R:=by omega
  repeat refine aC ?_
  refine sO (k:=KK+201) aA ?_
  refine iZ rfl rfl (⟨rfl,⟨q,c,es⟩,rfl,?_,rfl⟩)
  apply jG
  ·show (es.map RE.q).length=_
   simp [aHI,hel]
  ·intro j hj
   have hj':j < t:=by simpa [hel] using hj
   show (qs es).getD j 0=_
   rw [bT (by omega),heq j hj']
   unfold aHI
   simp [List.getD,hj']
theorem aKY {m:LE} {x:RL} {R n K:Nat} (hK:n*(200+K+1)+201≤20000000000) (hK2:K≤20000000000) (f:m.fit R n) (hl:x.es.length=n) (h:eU m 200∈I0) (hx:dL x K∈I0):CD Tryz.prog 64 [wM m,lv x] X w0 M0 I0 (LQc (aHI m R n x.q) (n*(200+K+1)+201) M0 I0):=by
 have hG:=fun M0 I0 h1 h2=>aKD (X:=X) (w0:=w0) (M0:=M0) (I0:=I0) (m:=m) (x:=x) (R:=R) (n:=n) (K:=K) hK2 f hl h1 h2
 have hR:=fun M0 I0 h1 h2=>aKJ (X:=X) (w0:=w0) (M0:=M0) (I0:=I0) (m:=m) (x:=x) (R:=R) (n:=n) (K:=K) (by omega) f hl h1 h2
 generalize n*(200+K+1)+201=KK at*
 refine aP Tryz.func64 rfl Tryz.ntmps64 rfl ?_
 refine fG ?_
 refine fQ rfl (fun b1=>?_)
 refine aG .here ?_
 repeat refine aC ?_
 refine dC rfl (hG _ _ aA aA) ?_
 repeat refine aC ?_
 (refine bA rfl (hR _ _ aA aA) ?_;rintro _ _ _ ⟨rfl,r,rfl,hr,rfl⟩;refine aU ?_)
 repeat refine aC ?_
 refine tyS [4,5] rfl rfl (⟨rfl,r,rfl,hr,rfl⟩)
end
abbrev fSol (b c:Nat):Value:= .func (.func 65) #[] #[pb b,pb c]
abbrev aEE (m:LE) (q:MX) (v:RL) (b c:Nat):List Value:=[mv m.a,lv m.l,lv m.p,mv q,lv v,fSol b c]
structure IsSo (m:LE) (q:MX) (v:RL) (b c:Nat) (K J:Nat) (X:List Nat) (w:World):Prop where
 gm:IsLE m 200 X w
 gq:IsX q K X w
 gv:IsL v J X w
 gb:SlI (some ⟨b,0,none⟩) [mv q] X w
 gc:SlI (some ⟨c,0,none⟩) [mv m.a,lv m.l,lv m.p] X w
abbrev xR (m:LE) (q:MX) (v:RL) (b c:Nat) (K J:Nat):aN:=IsSo m q v b c K J
instance IsSo.gd (m:LE) (q:MX) (v:RL) (b c:Nat) (K J:Nat):Fx.Good (IsSo m q v b c K J):=⟨fun X Y w w' h he hY=>⟨Fx.Good.go (φ:=IsLE _ _) X Y w w' h.gm he hY,Fx.Good.go (φ:=IsX _ _) X Y w w' h.gq he hY,Fx.Good.go (φ:=IsL _ _) X Y w w' h.gv he hY,Fx.Good.go (φ:=SlI _ _) X Y w w' h.gb he hY,Fx.Good.go (φ:=SlI _ _) X Y w w' h.gc he hY⟩⟩
section
variable {I:List aN} {m:LE} {q:MX} {v:RL} {b c K J:Nat}
theorem Hv.som (h:xR m q v b c K J∈I):Hv I (eU m 200):=⟨fun X w hw=>(hw _ h:IsSo m q v b c K J X w).gm⟩
theorem Hv.soq (h:xR m q v b c K J∈I):Hv I (gQ q K):=⟨fun X w hw=>(hw _ h:IsSo m q v b c K J X w).gq⟩
theorem Hv.sov (h:xR m q v b c K J∈I):Hv I (dL v J):=⟨fun X w hw=>(hw _ h:IsSo m q v b c K J X w).gv⟩
theorem Hv.sob (h:xR m q v b c K J∈I):Hv I (aD (some ⟨b,0,none⟩) [mv q]):=⟨fun X w hw=>(hw _ h:IsSo m q v b c K J X w).gb⟩
theorem Hv.soc (h:xR m q v b c K J∈I):Hv I (aD (some ⟨c,0,none⟩) [mv m.a,lv m.l,lv m.p]):=⟨fun X w hw=>(hw _ h:IsSo m q v b c K J X w).gc⟩
theorem Hv.so (h1:eU m 200∈I) (h2:gQ q K∈I) (h3:dL v J∈I) (h4:aD (some ⟨b,0,none⟩) [mv q]∈I) (h5:aD (some ⟨c,0,none⟩) [mv m.a,lv m.l,lv m.p]∈I):Hv I (xR m q v b c K J):=⟨fun X w hw=>⟨hw _ h1,hw _ h2,hw _ h3,hw _ h4,hw _ h5⟩⟩
end
structure SoQ (m:LE) (R n:Nat) (q:MX) (v:RL):Prop where
 eq:q.q=uA n (nN m R n)
 d:q.dim n n
 ev:v.q=aHI m R n (solX n (nN m R n) (nB m R n))
theorem SoQ.len {m:LE} {R n:Nat} {q:MX} {v:RL} (h:SoQ m R n q v):v.es.length=R:=by
 have:=congrArg List.length h.ev
 simpa [aHI] using this
theorem SoQ.at {m:LE} {R n:Nat} {q:MX} {v:RL} (h:SoQ m R n q v) {t:Nat} (ht:t < R):(gt v.es (t:Int)).q=vS n (nN m R n) (nB m R n) (at2 m.a.q t) (m.l.q.getD t 0):=by
 rw [←bT (es:=v.es) (by have:=h.len;omega)]
 show v.q.getD t 0=_
 rw [h.ev]
 unfold aHI
 simp [List.getD,ht]
 rfl
theorem uT {k k' m n:Nat} (hk:k≤k') (h:m≤n):kb k m≤kb k' n:=by
 refine Nat.le_trans (yI k h) ?_
 clear h
 induction n with
 |zero=>exact hk
 |succ n ih=>show 4*kb k n+1≤4*kb k' n+1;omega
def hSo (R n:Nat):Nat:=n*(kb (601*R) n+601*R+1)
section
variable {X:List Nat} {w0:World} {M0:List Ent} {I0:List aN}
theorem aBT {m:LE} {R n J:Nat} (hR:R≤8) (hn4:n≤4) (hJ:J=n*(200+n*(kb (601*R) n+601*R+1)+1)+201) (f:m.fit R n) (hd:dt n (at2 (nN m R n))≠0) (h:eU m 200∈I0):
  CD Tryz.prog 32 [wM m, .slice none 0 0] X w0 M0 I0 (fun z M I=>M0=M∧∃(q:MX) (v:RL) (b c:Nat),z= .tuple #[.agg (aEE m q v b c).toArray, .int .i64 0]∧SoQ m R n q v∧I=xR m q v b c (kb (601*R) n) J::I0):=by
 subst hJ
 have hn:=f.d.2.2
 have hbb:kb (601*R) n≤2000000:=Nat.le_trans (uT (k:=601*R) (k':=4808) (m:=n) (n:=4) (by omega) hn4) (by decide)
 have hN:=fun M0 I0 h=>zQ (X:=X) (w0:=w0) (M0:=M0) (I0:=I0) (m:=m) (R:=R) (n:=n) f h
 have hW:=fun M0 I0 h=>yM (X:=X) (w0:=w0) (M0:=M0) (I0:=I0) (q:=none) (a:=[]) (c:=0) (g:=61) (fs:=#[]) (cs:=#[]) (fun (x:RW)=>False) (by decide) h (fun t ht=>absurd ht (by simp))
 rw [aW (show ¬∃x∈([]:List RW),False from fun ⟨x,hx,_⟩=>absurd hx (by simp))] at hW
 refine aL (φ:=aD none (recs eW ([]:List RW))) ⟨fun X w _=>⟨Sl.nil _ _ _⟩⟩ ?_
 generalize hKB:kb (601*R) n=KB at*
 generalize hK9:601*R=K9 at*
 refine aP Tryz.func32 rfl Tryz.ntmps32 rfl ?_
 refine fG ?_
 refine fQ rfl (fun b2=>?_)
 refine aG .here ?_
 refine dG (fun b4=>?_)
 repeat refine aC ?_
 (refine bA rfl (hN _ _ aA) ?_;rintro _ _ _ ⟨rfl,x,y,rfl,hx,hy,dx,hyl,rfl⟩;refine aU ?_)
 repeat refine aC ?_
 refine dC rfl (hW _ _ aA) ?_
 repeat refine aC ?_
 have hI:=fun M0 I0 h=>vD (X:=X) (w0:=w0) (M0:=M0) (I0:=I0) (a:=x) (n:=n) (k0:=K9) (by omega) (by omega) ⟨dx,⟨hn.1,by omega⟩,hn.1,by omega⟩ h
 rw [hx] at hI
 simp only [if_neg hd] at hI
 rw [hKB] at hI
 (refine bA rfl (hI _ _ aA) ?_;rintro _ _ _ ⟨rfl,q,rfl,hq,dq,rfl⟩;refine aU ?_)
 repeat refine aC ?_
 refine dG (fun b9=>?_)
 repeat refine aC ?_
 refine aG .here ?_
 have hA:=fun M0 I0 h1 h2=>wP (X:=X) (w0:=w0) (M0:=M0) (I0:=I0) (a:=q) (x:=y) (R:=n) (C:=n) (k:=KB) (m:=K9) (by omega) (by omega) ⟨dq,⟨hn.1,by omega⟩,hn.1,by omega⟩ hyl h1 h2
 (refine bA rfl (hA _ _ aA aA) ?_;rintro _ _ _ ⟨rfl,xx,rfl,hxx,rfl⟩;refine aU ?_)
 have hxl:xx.es.length=n:=by
  have:=congrArg List.length hxx
  simpa using this
 have hxq:xx.q=solX n (nN m R n) (nB m R n):=by rw [hxx,hq,hy];rfl
 have hm1:n*(KB+K9+1)≤4*2100000:=Nat.mul_le_mul hn4 (by omega)
 generalize hKX:n*(KB+K9+1)=KX at*
 have hm2:n*(200+KX+1)≤4*9000000:=Nat.mul_le_mul hn4 (by omega)
 repeat refine aC ?_
 have hRs:=fun M0 I0 h1 h2=>aKY (X:=X) (w0:=w0) (M0:=M0) (I0:=I0) (m:=m) (x:=xx) (R:=R) (n:=n) (K:=KX) (by omega) (by omega) f hxl h1 h2
 (refine bA rfl (hRs _ _ aA aA) ?_;rintro _ _ _ ⟨rfl,v,rfl,hv,rfl⟩;refine aU ?_)
 rw [hxq] at hv
 generalize n*(200+KX+1)+201=KJ at*
 repeat refine aC ?_
 (refine aB rfl (fun _=>aY (pvs:=[(0,wM m),(1,mv q),(2,lv v)]) (cells:=[mv m.a,lv m.l,lv m.p,mv q,lv v, .nilFunc]) rfl rfl) rfl rfl ?_)
 refine dG (fun b14=>?_)
 repeat refine aC ?_
 refine bX (φ:=xR m q v b9 b2 KB KJ) (Hv.so aA aA aA aA aA) ?_
 refine gZ (rs:=[.cell 4 67, .tmp 5]) (vs:=[.agg (aEE m q v b9 b2).toArray, .int .i64 0]) (.inl rfl) rfl (.cellN (cs:=aEE m q v b9 b2) inferInstance rfl aA rfl (.tmp rfl .nil)) rfl M0 (xR m q v b9 b2 KB KJ::I0) aK aJ ⟨rfl,q,v,b9,b2,rfl,⟨hq,dq,hv⟩,rfl⟩
end
end Go.Proofs.YthhldplegmeolaaGreat
namespace Go.Proofs.YthhldplegmeolaaGreat
open Go Go.Fx
section
variable {X:List Nat} {w0:World} {M0:List Ent} {I0:List aN}
theorem aNI {m:LE} {R n KB KJ b c t:Nat} {q:MX} {v:RL} (hn4:n≤4) (hKB:KB≤2000000) (f:m.fit R n) (hs:SoQ m R n q v) (ht:t < R) (h:xR m q v b c KB KJ∈I0):
  CD Tryz.prog 65 [.int .i64 (t:Int),pb b,pb c] X w0 M0 I0 (RQ (rS n (nN m R n) (at2 m.a.q t) (m.p.q.getD t 0)) 40000000 M0 I0):=by
 have hn:=f.d.2.2
 have hR:=f.d.2.1
 have lR:=f.d.1.1
 have hpl:=f.p
 have hrt:=f.d.1.row ht
 have hpq:=bT (es:=m.p.es) (j:=t) (by omega)
 have hm1:n*(KB+200+1)≤4*2000201:=Nat.mul_le_mul hn4 (by omega)
 have hm2:n*(200+n*(KB+200+1)+1)≤4*8001100:=Nat.mul_le_mul hn4 (by omega)
 refine aL (φ:=eU m 200) (Hv.som h) ?_
 refine aL (φ:=gQ q KB) (Hv.soq (List.Mem.tail _ h)) ?_
 refine aL (φ:=aD (some ⟨b,0,none⟩) [mv q]) (Hv.sob (List.Mem.tail _ (List.Mem.tail _ h))) ?_
 refine aL (φ:=aD (some ⟨c,0,none⟩) [mv m.a,lv m.l,lv m.p]) (Hv.soc (List.Mem.tail _ (List.Mem.tail _ (List.Mem.tail _ h)))) ?_
 refine aL (φ:=gQ m.a 200) (Hv.lea aA) ?_
 refine aL (φ:=dL m.p 200) (Hv.lep aA) ?_
 refine aL (φ:=dL (gt m.a.rows (t:Int)) 200) (Hv.xrow (m:=m.a) aA (by omega)) ?_
 refine aL (φ:=bE (gt m.p.es (t:Int)) 200) (Hv.lel (r:=m.p) aA (by omega)) ?_
 refine aL (φ:=aD (m.a).p (recs eL (m.a).rows)) (Hv.xsl aA) ?_
 refine aL (φ:=aD (m.p).p (recs eR (m.p).es)) (Hv.lsl aA) ?_
 have hA:=fun M0 I0 h1 h2=>wP (X:=X) (w0:=w0) (M0:=M0) (I0:=I0) (a:=q) (x:=gt m.a.rows (t:Int)) (R:=n) (C:=n) (k:=KB) (m:=200) (by omega) (by omega) ⟨hs.d,⟨hn.1,by omega⟩,hn.1,by omega⟩ hrt h1 h2
 refine iC Tryz.func65 rfl Tryz.ntmps65 rfl ?_
 refine fG ?_
 refine dG (fun b4=>?_)
 repeat refine aC ?_
 (repeat refine aF ?_);refine dD [0,1,2,3,4,5,6,7,8,9,10,11] [0,1,1,1,1,0,0,0,0,0,0,0] mixed (by kernel_rfl) ?_
 repeat refine aC ?_
 (refine bA rfl (hA _ _ aA aA) ?_;rintro _ _ _ ⟨rfl,z,rfl,hz,rfl⟩;refine aU ?_)
 have hzl:z.es.length=n:=by
  have:=congrArg List.length hz
  simpa using this
 have hzq:z.q=(List.range n).map (fun i=>sm n (fun j=>at2 (uA n (nN m R n)) i j*at2 m.a.q t j)):=by
  rw [hz,hs.eq]
  refine List.map_congr_left (fun i _=>bS (fun j hj=>?_))
  rw [bT (es:=(gt m.a.rows (t:Int)).es) (by omega),nR (by omega) (by omega)]
 generalize hK1:n*(KB+200+1)=K1 at*
 have hD:=fun M0 I0 h1 h2=>aCU (X:=X) (w0:=w0) (M0:=M0) (I0:=I0) (a:=gt m.a.rows (t:Int)) (b:=z) (ka:=200) (kb:=K1) (n:=n) (by omega) (by omega) hrt hzl h1 h2
 generalize hK2:n*(200+K1+1)=K2 at*
 repeat refine aC ?_
 (refine bA rfl (hD _ _ (Hv.mem aA) (Hv.mem aA)) ?_;rintro _ _ _ ⟨rfl,e,rfl,he,rfl⟩;refine aU ?_)
 repeat refine aC ?_
 refine dG (fun b7=>?_)
 repeat refine aC ?_
 refine vF .here ?_
 have hW:=fun M0 I0=>kU (X:=X) (w0:=w0) (M0:=M0) (I0:=I0) (x:=1) (by decide) (k:=0) (by decide)
 have hMu:=fun M0 I0 h1 h2=>jX (X:=X) (w0:=w0) (M0:=M0) (I0:=I0) (a:=gt m.p.es (t:Int)) (b:=e) (k:=200) (m:=K2) (by omega) h1 h2
 have hSu:=fun (x y:RE) M0 I0 h1 h2=>yH (X:=X) (w0:=w0) (M0:=M0) (I0:=I0) (a:=x) (b:=y) (k:=0) (m:=200+K2) (by omega) h1 h2
 (repeat refine aF ?_);refine tyW ([]) (aD (some ⟨b7,0,none⟩) (eR e)::aD (some ⟨c,0,none⟩) [mv m.a,lv m.l,lv m.p]::aD m.p.p (recs eR m.p.es)::I0) [1,2,3,4,5,6,0,7,8,9] [3,3,3,3,2,2,0,0,0,0] mixed ?_
 repeat refine aC ?_
 refine gT rfl (hW _ _) (fun o ho=>?_)
 repeat refine aC ?_
 refine gT rfl (hMu _ _ (Hv.mem aA) (Hv.mem aA)) (fun x1 hx1=>?_)
 repeat refine aC ?_
 refine gT rfl (hSu o x1 _ _ (Hv.mem aA) (Hv.mem aA)) (fun x2 hx2=>?_)
 repeat refine aC ?_
 refine bX (φ:=bE x2 40000000) (Hv.q (k:=0+(200+K2)+1) aA (by omega)) ?_
 refine aR (cs:=eR x2) (.inl rfl) rfl rfl aA rfl M0 (bE x2 40000000::I0) aK aJ ⟨rfl,x2,rfl,?_,rfl⟩
 rw [hx2,hx1,he,ho,←hpq]
 unfold rS aOC
 rw [hzq]
 congr 2
 unfold aOF
 refine bS (fun j hj=>?_)
 rw [show (gt m.a.rows (t:Int)).q.getD j 0=at2 m.a.q t j by rw [nR (by omega) (by omega)];exact bT (by omega)]
theorem aEG {m:LE} {R n KB KJ b c t:Nat} {q:MX} {v:RL} (hn4:n≤4) (hKB:KB≤2000000) (hKJ:KJ≤100000000) (f:m.fit R n) (hs:SoQ m R n q v) (ht:t < R) (h:xR m q v b c KB KJ∈I0):
  CD Tryz.prog 33 [.agg (aEE m q v b c).toArray, .int .i64 (t:Int)] X w0 M0 I0 (fun z M I=>if rS n (nN m R n) (at2 m.a.q t) (m.p.q.getD t 0)=0 then (M0=M∧I0=I∧z= .tuple #[zR, .bool false]) else (M0=M∧∃e:RE,z= .tuple #[rv e, .bool true]∧e.q=tS n (nN m R n) (nB m R n) (at2 m.a.q t) (m.p.q.getD t 0) (m.l.q.getD t 0)∧I=bE e 500000000::I0)):=by
 have hR:=f.d.2.1
 have hpl:=f.p
 have hvl:=hs.len
 have hva:=hs.at ht
 have hpq:=bT (es:=m.p.es) (j:=t) (by omega)
 have hC:=fun M0 I0 h=>aNI (X:=X) (w0:=w0) (M0:=M0) (I0:=I0) (m:=m) (R:=R) (n:=n) (KB:=KB) (KJ:=KJ) (b:=b) (c:=c) (t:=t) (q:=q) (v:=v) hn4 hKB f hs ht h
 refine aL (φ:=eU m 200) (Hv.som h) ?_
 refine aL (φ:=dL v KJ) (Hv.sov (List.Mem.tail _ h)) ?_
 refine aL (φ:=dL m.p 200) (Hv.lep aA) ?_
 refine aL (φ:=bE (gt v.es (t:Int)) KJ) (Hv.lel (r:=v) aA (by omega)) ?_
 refine aL (φ:=bE (gt m.p.es (t:Int)) 200) (Hv.lel (r:=m.p) aA (by omega)) ?_
 refine aL (φ:=aD (v).p (recs eR (v).es)) (Hv.lsl aA) ?_
 refine aL (φ:=aD (m.p).p (recs eR (m.p).es)) (Hv.lsl aA) ?_
 have hM1:=fun M0 I0 h1=>jX (X:=X) (w0:=w0) (M0:=M0) (I0:=I0) (a:=gt v.es (t:Int)) (b:=gt v.es (t:Int)) (k:=KJ) (m:=KJ) (by omega) h1 h1
 have hM2:=fun (x:RE) M0 I0 h1 h2=>jX (X:=X) (w0:=w0) (M0:=M0) (I0:=I0) (a:=gt m.p.es (t:Int)) (b:=x) (k:=200) (m:=KJ+KJ) (by omega) h1 h2
 have hD:=fun (x y:RE) M0 I0 h0 h1 h2=>rQ (X:=X) (w0:=w0) (M0:=M0) (I0:=I0) (a:=x) (b:=y) (k:=200+(KJ+KJ)) (m:=40000000) (by omega) h0 h1 h2
 have hD0:=fun (x y:RE) M0 I0 h0 h1 h2=>aEH (X:=X) (w0:=w0) (M0:=M0) (I0:=I0) (a:=x) (b:=y) (k:=200+(KJ+KJ)) (m:=40000000) (by omega) h0 h1 h2
 generalize hrr:rS n (nN m R n) (at2 m.a.q t) (m.p.q.getD t 0)=rr at*
 refine aP Tryz.func33 rfl Tryz.ntmps33 rfl ?_
 refine fG ?_
 refine fQ rfl (fun b2=>?_)
 refine aG .here ?_
 refine dG (fun b4=>?_)
 repeat refine aC ?_
 by_cases h0:rr=0
 ·simp only [if_pos h0]
  refine pE (fun G M I=>∃b6:Nat,G=[(4, .pointer (some ⟨b4,0,none⟩)),(6, .pointer (some ⟨b6,0,none⟩)),(7, .int .i64 14)]∧M= .blk b6 [.bool false, .slice none 0 0, .bool false, .slice none 0 0] 36:: .blk b4 [.bool false, .slice none 0 0, .bool false, .slice none 0 0] 36::M0∧I0=I) ?_ ?_
  ·((repeat refine aF ?_);refine pF (.blk b4 [.bool false, .slice none 0 0, .bool false, .slice none 0 0] 36::M0) (aD (some ⟨b2,0,none⟩) (aEE m q v b c)::aD m.p.p (recs eR m.p.es)::aD v.p (recs eR v.es)::bE (gt m.p.es (t:Int)) 200::bE (gt v.es (t:Int)) KJ::I0) mixed ?_)
   refine jT (fuel:=10) (listed':=#[true,true,true,true,true,true,true,true,true,true,true,true,true,true,true,true,false,false,true,true,true,false,false,false,false,false,false,false,false]) [0,1,2,3,4,5,6,7,8,9,10,11,12,13,14,15,18,19,20] [5,5,5,5,5,4,5,5,5,5,4,5,5,5,5,4,5,4,4] aK aJ (by kernel_rfl) (by kernel_rfl) rfl rfl ?_
   repeat refine aC ?_
   refine bW (fuel:=9) (i:=16) (j:=26) (by kernel_rfl) ?_ ?_
   ·refine gT rfl (hM1 _ _ (Hv.mem aA)) (fun e1 he1=>?_)
    refine bG ?_
    repeat refine aC ?_
    refine bW (fuel:=8) (i:=17) (j:=26) (by kernel_rfl) ?_ ?_
    ·refine gT rfl (hM2 e1 _ _ (Hv.mem aA) (Hv.mem aA)) (fun e2 he2=>?_)
     refine bG ?_
     repeat refine aC ?_
     refine bW (fuel:=7) (i:=21) (j:=26) (by kernel_rfl) ?_ ?_
     ·(refine fT rfl rfl (hC _ _ aA) rfl rfl rfl ?_;rintro _ _ _ ⟨rfl,r,rfl,hr,rfl⟩;refine aU ?_)
      refine bG ?_
      repeat refine aC ?_
      refine bW (fuel:=6) (i:=22) (j:=26) (by kernel_rfl) ?_ ?_
      ·refine dC rfl (hD0 e2 r _ _ (hr.trans h0) (Hv.mem aA) (Hv.mem aA)) ?_
       refine bG ?_
       refine bF [23,24,25,26,27,28] [1,1,2,0,0,0] aK aJ (by kernel_rfl) (by kernel_rfl) rfl rfl ?_
       repeat refine aC ?_
       refine dG (fun b6=>?_)
       repeat refine aC ?_
       refine tyE ⟨b6,rfl,rfl,rfl⟩
      ·refine dG (fun b6=>?_)
       refine bG ?_
       refine bF [22,23,24,25,27,28] [0,0,0,1,0,0] aK aJ (by kernel_rfl) (by kernel_rfl) rfl rfl ?_
       repeat refine aC ?_
       refine dC rfl (hD0 e2 r _ _ (hr.trans h0) (Hv.mem aA) (Hv.mem aA)) ?_
       repeat refine aC ?_
       refine tyE ⟨b6,rfl,rfl,rfl⟩
     ·refine dG (fun b6=>?_)
      refine bG ?_
      refine bF [21,22,23,24,25,27,28] [0,0,0,0,1,0,0] aK aJ (by kernel_rfl) (by kernel_rfl) rfl rfl ?_
      repeat refine aC ?_
      (refine fT rfl rfl (hC _ _ aA) rfl rfl rfl ?_;rintro _ _ _ ⟨rfl,r,rfl,hr,rfl⟩;refine aU ?_)
      repeat refine aC ?_
      refine dC rfl (hD0 e2 r _ _ (hr.trans h0) (Hv.mem aA) (Hv.mem aA)) ?_
      repeat refine aC ?_
      refine tyE ⟨b6,rfl,rfl,rfl⟩
    ·refine dG (fun b6=>?_)
     refine bG ?_
     refine bF [17,21,22,23,24,25,27,28] [0,0,0,0,0,1,0,0] aK aJ (by kernel_rfl) (by kernel_rfl) rfl rfl ?_
     repeat refine aC ?_
     refine gT rfl (hM2 e1 _ _ (Hv.mem aA) (Hv.mem aA)) (fun e2 he2=>?_)
     repeat refine aC ?_
     (refine fT rfl rfl (hC _ _ aA) rfl rfl rfl ?_;rintro _ _ _ ⟨rfl,r,rfl,hr,rfl⟩;refine aU ?_)
     repeat refine aC ?_
     refine dC rfl (hD0 e2 r _ _ (hr.trans h0) (Hv.mem aA) (Hv.mem aA)) ?_
     repeat refine aC ?_
     refine tyE ⟨b6,rfl,rfl,rfl⟩
   ·refine dG (fun b6=>?_)
    refine bG ?_
    refine bF [16,17,21,22,23,24,25,27,28] [0,0,0,0,0,0,1,0,0] aK aJ (by kernel_rfl) (by kernel_rfl) rfl rfl ?_
    repeat refine aC ?_
    refine gT rfl (hM1 _ _ (Hv.mem aA)) (fun e1 he1=>?_)
    repeat refine aC ?_
    refine gT rfl (hM2 e1 _ _ (Hv.mem aA) (Hv.mem aA)) (fun e2 he2=>?_)
    repeat refine aC ?_
    (refine fT rfl rfl (hC _ _ aA) rfl rfl rfl ?_;rintro _ _ _ ⟨rfl,r,rfl,hr,rfl⟩;refine aU ?_)
    repeat refine aC ?_
    refine dC rfl (hD0 e2 r _ _ (hr.trans h0) (Hv.mem aA) (Hv.mem aA)) ?_
    repeat refine aC ?_
    refine tyE ⟨b6,rfl,rfl,rfl⟩
  ·rintro G M I ⟨b6,rfl,rfl,rfl⟩
   repeat refine aC ?_
   refine gZ (rs:=[.cell 4 36, .tmp 5]) (vs:=[zR, .bool (B ((14:Int)=0))]) (.inl rfl) rfl (.cellN (cs:=[.bool false, .slice none 0 0, .bool false, .slice none 0 0]) inferInstance rfl aA rfl (.tmp rfl .nil)) rfl M0 I0 aK aJ ⟨rfl,rfl,by rw [aW (by decide)]⟩
 ·simp only [if_neg h0]
  refine pE (fun G M I=>∃(b6:Nat) (e:RE),e.q=tS n (nN m R n) (nB m R n) (at2 m.a.q t) (m.p.q.getD t 0) (m.l.q.getD t 0)∧G=[(4, .pointer (some ⟨b4,0,none⟩)),(6, .pointer (some ⟨b6,0,none⟩)),(7, .int .i64 0)]∧M= .blk b6 (eR e) 36:: .blk b4 [.bool false, .slice none 0 0, .bool false, .slice none 0 0] 36::M0∧I=bE e 500000000::I0) ?_ ?_
  ·((repeat refine aF ?_);refine pF (.blk b4 [.bool false, .slice none 0 0, .bool false, .slice none 0 0] 36::M0) (aD (some ⟨b2,0,none⟩) (aEE m q v b c)::aD m.p.p (recs eR m.p.es)::aD v.p (recs eR v.es)::bE (gt m.p.es (t:Int)) 200::bE (gt v.es (t:Int)) KJ::I0) mixed ?_)
   refine jT (fuel:=10) (listed':=#[true,true,true,true,true,true,true,true,true,true,true,true,true,true,true,true,false,false,true,true,true,false,false,false,false,false,false,false,false]) [0,1,2,3,4,5,6,7,8,9,10,11,12,13,14,15,18,19,20] [5,5,5,5,5,4,5,5,5,5,4,5,5,5,5,4,5,4,4] aK aJ (by kernel_rfl) (by kernel_rfl) rfl rfl ?_
   repeat refine aC ?_
   refine bW (fuel:=9) (i:=16) (j:=26) (by kernel_rfl) ?_ ?_
   ·refine gT rfl (hM1 _ _ (Hv.mem aA)) (fun e1 he1=>?_)
    refine bG ?_
    repeat refine aC ?_
    refine bW (fuel:=8) (i:=17) (j:=26) (by kernel_rfl) ?_ ?_
    ·refine gT rfl (hM2 e1 _ _ (Hv.mem aA) (Hv.mem aA)) (fun e2 he2=>?_)
     refine bG ?_
     repeat refine aC ?_
     refine bW (fuel:=7) (i:=21) (j:=26) (by kernel_rfl) ?_ ?_
     ·(refine fT rfl rfl (hC _ _ aA) rfl rfl rfl ?_;rintro _ _ _ ⟨rfl,r,rfl,hr,rfl⟩;refine aU ?_)
      refine bG ?_
      repeat refine aC ?_
      refine bW (fuel:=6) (i:=22) (j:=26) (by kernel_rfl) ?_ ?_
      ·(refine gD rfl (hD e2 r _ _ (by rw [hr];exact h0) (Hv.mem aA) (Hv.mem aA)) rfl rfl ?_;rintro _ _ _ ⟨rfl,x,rfl,hx,rfl⟩;refine aU ?_)
       refine bG ?_
       refine bF [23,24,25,26,27,28] [1,1,2,0,0,0] aK aJ (by kernel_rfl) (by kernel_rfl) rfl rfl ?_
       repeat refine aC ?_
       refine dG (fun b6=>?_)
       repeat refine aC ?_
       refine bX (φ:=bE x 500000000) (Hv.q (k:=200+(KJ+KJ)+40000000) aA (by omega)) (iH _ _ _ cZ aK aJ ⟨b6,x,by (rw [hx,he2,he1,hr];unfold tS;rw [hrr,if_neg h0,hpq,hva]),rfl,rfl,rfl⟩)
      ·refine dG (fun b6=>?_)
       refine bG ?_
       refine bF [22,23,24,25,27,28] [0,0,0,1,0,0] aK aJ (by kernel_rfl) (by kernel_rfl) rfl rfl ?_
       repeat refine aC ?_
       (refine gD rfl (hD e2 r _ _ (by rw [hr];exact h0) (Hv.mem aA) (Hv.mem aA)) rfl rfl ?_;rintro _ _ _ ⟨rfl,x,rfl,hx,rfl⟩;refine aU ?_)
       repeat refine aC ?_
       refine bX (φ:=bE x 500000000) (Hv.q (k:=200+(KJ+KJ)+40000000) aA (by omega)) (iH _ _ _ cZ aK aJ ⟨b6,x,by (rw [hx,he2,he1,hr];unfold tS;rw [hrr,if_neg h0,hpq,hva]),rfl,rfl,rfl⟩)
     ·refine dG (fun b6=>?_)
      refine bG ?_
      refine bF [21,22,23,24,25,27,28] [0,0,0,0,1,0,0] aK aJ (by kernel_rfl) (by kernel_rfl) rfl rfl ?_
      repeat refine aC ?_
      (refine fT rfl rfl (hC _ _ aA) rfl rfl rfl ?_;rintro _ _ _ ⟨rfl,r,rfl,hr,rfl⟩;refine aU ?_)
      repeat refine aC ?_
      (refine gD rfl (hD e2 r _ _ (by rw [hr];exact h0) (Hv.mem aA) (Hv.mem aA)) rfl rfl ?_;rintro _ _ _ ⟨rfl,x,rfl,hx,rfl⟩;refine aU ?_)
      repeat refine aC ?_
      refine bX (φ:=bE x 500000000) (Hv.q (k:=200+(KJ+KJ)+40000000) aA (by omega)) (iH _ _ _ cZ aK aJ ⟨b6,x,by (rw [hx,he2,he1,hr];unfold tS;rw [hrr,if_neg h0,hpq,hva]),rfl,rfl,rfl⟩)
    ·refine dG (fun b6=>?_)
     refine bG ?_
     refine bF [17,21,22,23,24,25,27,28] [0,0,0,0,0,1,0,0] aK aJ (by kernel_rfl) (by kernel_rfl) rfl rfl ?_
     repeat refine aC ?_
     refine gT rfl (hM2 e1 _ _ (Hv.mem aA) (Hv.mem aA)) (fun e2 he2=>?_)
     repeat refine aC ?_
     (refine fT rfl rfl (hC _ _ aA) rfl rfl rfl ?_;rintro _ _ _ ⟨rfl,r,rfl,hr,rfl⟩;refine aU ?_)
     repeat refine aC ?_
     (refine gD rfl (hD e2 r _ _ (by rw [hr];exact h0) (Hv.mem aA) (Hv.mem aA)) rfl rfl ?_;rintro _ _ _ ⟨rfl,x,rfl,hx,rfl⟩;refine aU ?_)
     repeat refine aC ?_
     refine bX (φ:=bE x 500000000) (Hv.q (k:=200+(KJ+KJ)+40000000) aA (by omega)) (iH _ _ _ cZ aK aJ ⟨b6,x,by (rw [hx,he2,he1,hr];unfold tS;rw [hrr,if_neg h0,hpq,hva]),rfl,rfl,rfl⟩)
   ·refine dG (fun b6=>?_)
    refine bG ?_
    refine bF [16,17,21,22,23,24,25,27,28] [0,0,0,0,0,0,1,0,0] aK aJ (by kernel_rfl) (by kernel_rfl) rfl rfl ?_
    repeat refine aC ?_
    refine gT rfl (hM1 _ _ (Hv.mem aA)) (fun e1 he1=>?_)
    repeat refine aC ?_
    refine gT rfl (hM2 e1 _ _ (Hv.mem aA) (Hv.mem aA)) (fun e2 he2=>?_)
    repeat refine aC ?_
    (refine fT rfl rfl (hC _ _ aA) rfl rfl rfl ?_;rintro _ _ _ ⟨rfl,r,rfl,hr,rfl⟩;refine aU ?_)
    repeat refine aC ?_
    (refine gD rfl (hD e2 r _ _ (by rw [hr];exact h0) (Hv.mem aA) (Hv.mem aA)) rfl rfl ?_;rintro _ _ _ ⟨rfl,x,rfl,hx,rfl⟩;refine aU ?_)
    repeat refine aC ?_
    refine bX (φ:=bE x 500000000) (Hv.q (k:=200+(KJ+KJ)+40000000) aA (by omega)) (iH _ _ _ cZ aK aJ ⟨b6,x,by (rw [hx,he2,he1,hr];unfold tS;rw [hrr,if_neg h0,hpq,hva]),rfl,rfl,rfl⟩)
  ·rintro G M I ⟨b6,e,he,rfl,rfl,rfl⟩
   repeat refine aC ?_
   refine gZ (rs:=[.cell 4 36, .tmp 5]) (vs:=[rv e, .bool (B ((0:Int)=0))]) (.inl rfl) rfl (.cellN (cs:=eR e) inferInstance rfl aA rfl (.tmp rfl .nil)) rfl M0 (bE e 500000000::I0) aK aJ ⟨rfl,e,by rw [bV rfl],he,rfl⟩
end
end Go.Proofs.YthhldplegmeolaaGreat
namespace Go.Proofs.YthhldplegmeolaaGreat
open Go Go.Fx
def stQ (m:LE) (R n t:Nat):Rat:=tS n (nN m R n) (nB m R n) (at2 m.a.q t) (m.p.q.getD t 0) (m.l.q.getD t 0)
def stB (m:LE) (R n t:Nat):Bool:=decide (rS n (nN m R n) (at2 m.a.q t) (m.p.q.getD t 0)≠0)
theorem nE {α:Type} [Inhabited α] {es:List α} {e:α} {t:Nat} (h:es.length=t) (j:Nat):j < t+1→gt (es++[e]) (j:Int)=if j < t then gt es (j:Int) else e:=fun hj=>by
 by_cases e1:j < t
 ·rw [if_pos e1,dM (by simp;omega),dM (by omega),List.getElem_append_left (by omega)]
 ·rw [if_neg e1]
  obtain rfl:j=t:=by omega
  exact rJ (A:=es) (B:=[]) (by omega)
theorem aEC {α:Type} [Inhabited α] {a:List α} {R:Nat} {g:Nat→α} (hl:a.length=R) (h:∀j:Nat,j < R→gt a (j:Int)=g j):a=(List.range R).map g:=by
 apply List.ext_getElem
 ·simp [hl]
 ·intro i h1 h2
  have:=h i (by omega)
  rw [eY h1] at this
  simpa using this
section
variable {X:List Nat} {w0:World} {M0:List Ent} {I0:List aN}
theorem aCD {m:LE} {R n:Nat} (hR:R≤8) (hn4:n≤4) (f:m.fit R n) (hd:dt n (at2 (nN m R n))≠0) (h:eU m 200∈I0):
  CD Tryz.prog 10 [wM m] X w0 M0 I0 (fun z M I=>M0=M∧∃(s:RL) (pb:Option Addr) (cb:Nat) (bs:List Bool),z= .tuple #[lv s, .slice pb bs.length cb, .int .i64 0]∧s.q=(List.range R).map (stQ m R n)∧bs=(List.range R).map (stB m R n)∧I=aD pb (recs eB bs)::dL s 500000000::I0):=by
 obtain ⟨J,hJ⟩:∃J,J=n*(200+n*(kb (601*R) n+601*R+1)+1)+201:=⟨_,rfl⟩
 have hKB:kb (601*R) n≤2000000:=Nat.le_trans (uT (k:=601*R) (k':=4808) (m:=n) (n:=4) (by omega) hn4) (by decide)
 have hm1:n*(kb (601*R) n+601*R+1)≤4*2100000:=Nat.mul_le_mul hn4 (by omega)
 have hm2:n*(200+n*(kb (601*R) n+601*R+1)+1)≤4*9000000:=Nat.mul_le_mul hn4 (by omega)
 have hS:=fun M0 I0 h=>aBT (X:=X) (w0:=w0) (M0:=M0) (I0:=I0) (m:=m) (R:=R) (n:=n) (J:=J) hR hn4 hJ f hd h
 have hJ2:J≤100000000:=by omega
 have lR:=f.d.1.1
 clear hJ hm1 hm2
 generalize kb (601*R) n=KB at*
 have hW:=fun M0 I0=>kU (X:=X) (w0:=w0) (M0:=M0) (I0:=I0) (x:=0) (by decide) (k:=0) (by decide)
 refine aL (φ:=gQ m.a 200) (Hv.lea h) ?_
 refine aV Tryz.func10 rfl Tryz.ntmps10 rfl ?_
 refine fG ?_
 refine fQ rfl (fun b1=>?_)
 refine aG .here ?_
 repeat refine aC ?_
 (refine bA rfl (hS _ _ aA) ?_;rintro _ _ _ ⟨rfl,q,v,b,c,rfl,hq,rfl⟩;refine aU ?_)
 repeat refine aC ?_
 refine dG (fun b5=>?_)
 repeat refine aC ?_
 rw [lR]
 refine vF .here ?_
 refine jM 4 1 ?_
 refine jM 36 4 ?_
 refine bN (φ:=aX [] 500000000) Hv.nilR ?_
 refine pU [5,22] rfl (fun k G M I=>∃(t:Nat) (es:List RE) (bs:List Bool) (q1 q2:Option Addr) (c1 c2:Nat),t≤R∧k=R - t∧es.length=t∧bs.length=t∧(∀j:Nat,j < t→(gt es (j:Int)).q=stQ m R n j)∧(∀j:Nat,j < t→gt bs (j:Int)=stB m R n j)∧G=[(7, .slice q1 es.length c1),(8, .slice q2 bs.length c2),(23, .int .i64 t)]∧M= .row q1 es.length c1 (recs eR es) 36 4:: .row q2 bs.length c2 (recs eB bs) 4 1::M0∧I=aX es 500000000::aD (some ⟨b5,0,none⟩) (aEE m q v b c)::xR m q v b c KB J::I0) (R) (⟨0,[],[],none,none,0,0,by omega,rfl,rfl,rfl,fun j hj=>by omega,fun j hj=>by omega,rfl,rfl,rfl⟩) ?_
 rintro kk G M I ⟨t,es,bs,q1,q2,c1,c2,ht,rfl,hel,hbl,heq,hbq,rfl,rfl,rfl⟩
 by_cases htR:t < R
 ·have hSt:=fun M0 I0 h=>aEG (X:=X) (w0:=w0) (M0:=M0) (I0:=I0) (m:=m) (R:=R) (n:=n) (KB:=KB) (KJ:=J) (b:=b) (c:=c) (t:=t) (q:=q) (v:=v) hn4 hKB hJ2 f hq htR h
  by_cases hr:rS n (nN m R n) (at2 m.a.q t) (m.p.q.getD t 0)=0
  ·have hqt:stQ m R n t=0:=by unfold stQ tS;rw [if_pos hr]
   have hbt:stB m R n t=false:=decide_eq_false (fun h=>h hr)
   simp only [if_pos hr] at hSt
   repeat refine aC ?_
   (refine bA rfl (hSt _ _ aA) ?_;rintro _ _ _ ⟨rfl,rfl,rfl⟩;refine aU ?_)
   repeat refine aC ?_
   refine dG (fun b10=>?_)
   repeat refine aC ?_
   refine gT rfl (hW _ _) (fun e he=>?_)
   repeat refine aC ?_
   refine nG (cs:=recs eR [e]) ([rv e]) rfl (fun bb=>?_)
   refine tyP (ys:=[e]) 2 rfl rfl rfl (fun q3 c3=>?_)
   repeat refine aC ?_
   refine nG (cs:=recs eB [false]) ([.bool false]) rfl (fun bc=>?_)
   refine tyP (ys:=[false]) 4 rfl rfl rfl (fun q4 c4=>?_)
   repeat refine aC ?_
   refine bX (φ:=bE e 500000000) (Hv.q (k:=0) aA (by omega)) ?_
   refine bX (φ:=aX (es++[e]) 500000000) (Hv.snoc aA aA) ?_
   refine lN (R - (t+1)) (⟨t+1,es++[e],bs++[false],q3,q4,c3,c4,by omega,rfl,by simp;omega,by simp;omega,fun j hj=>?_,fun j hj=>?_,rfl,rfl,rfl⟩)
   ·rw [nE hel j hj]
    by_cases e1:j < t
    ·rw [if_pos e1];exact heq j e1
    ·rw [if_neg e1,he,show j=t by omega,hqt];rfl
   ·rw [nE hbl j hj]
    by_cases e1:j < t
    ·rw [if_pos e1];exact hbq j e1
    ·rw [if_neg e1,show j=t by omega,hbt]
  ·have hbt:stB m R n t=true:=decide_eq_true hr
   simp only [if_neg hr] at hSt
   repeat refine aC ?_
   (refine bA rfl (hSt _ _ aA) ?_;rintro _ _ _ ⟨rfl,e,rfl,he,rfl⟩;refine aU ?_)
   repeat refine aC ?_
   refine dG (fun b10=>?_)
   repeat refine aC ?_
   refine nG (cs:=recs eR [e]) ([rv e]) rfl (fun bb=>?_)
   refine tyP (ys:=[e]) 2 rfl rfl rfl (fun q3 c3=>?_)
   repeat refine aC ?_
   refine nG (cs:=recs eB [true]) ([.bool true]) rfl (fun bc=>?_)
   refine tyP (ys:=[true]) 4 rfl rfl rfl (fun q4 c4=>?_)
   repeat refine aC ?_
   refine bX (φ:=aX (es++[e]) 500000000) (Hv.snoc aA aA) ?_
   refine lN (R - (t+1)) (⟨t+1,es++[e],bs++[true],q3,q4,c3,c4,by omega,rfl,by simp;omega,by simp;omega,fun j hj=>?_,fun j hj=>?_,rfl,rfl,rfl⟩)
   ·rw [nE hel j hj]
    by_cases e1:j < t
    ·rw [if_pos e1];exact heq j e1
    ·rw [if_neg e1,he,show j=t by omega];rfl
   ·rw [nE hbl j hj]
    by_cases e1:j < t
    ·rw [if_pos e1];exact hbq j e1
    ·rw [if_neg e1,show j=t by omega,hbt]
 ·obtain rfl:t=R:=by omega
  repeat refine aC ?_
  refine sO (k:=500000000) aA ?_
  refine zK .here ?_
  refine tyS [2,3,4] rfl rfl (⟨rfl,⟨q1,c1,es⟩,q2,c2,bs,rfl,?_,aEC hbl hbq,rfl⟩)
  apply jG
  ·show (es.map RE.q).length=_
   simp [hel]
  ·intro j hj
   have hj':j < t:=by simpa [hel] using hj
   show (qs es).getD j 0=_
   rw [bT (by omega),heq j hj']
   simp [List.getD,hj']
theorem aQH {m:LE} {q:MX} {v:RL} {b c t R:Nat} (hR:m.a.rows.length=R) (hb:R≤100) (ht:t < R):CD Tryz.prog 41 [.agg (aEE m q v b c).toArray, .int .i64 (t:Int)] X w0 M0 I0 (fun z M I=>M0=M∧I0=I∧z= .bool true):=by
 refine aP Tryz.func41 rfl Tryz.ntmps41 rfl ?_
 refine fG ?_
 refine fQ rfl (fun b2=>?_)
 refine aG .here ?_
 repeat refine aC ?_
 rw [hR]
 repeat refine aC ?_
 refine iZ rfl rfl (⟨rfl,rfl,congrArg Value.bool (bV (by omega))⟩)
theorem aOG {m:LE} {R n t:Nat} (hR:R≤8) (hn4:n≤4) (ht:t < R) (f:m.fit R n) (hd:dt n (at2 (nN m R n))≠0) (hr:rS n (nN m R n) (at2 m.a.q t) (m.p.q.getD t 0)≠0) (h:eU m 200∈I0):
  CD Tryz.prog 15 [wM m, .int .i64 (t:Int)] X w0 M0 I0 (RQc (stQ m R n t) 500000000 M0 I0):=by
 obtain ⟨J,hJ⟩:∃J,J=n*(200+n*(kb (601*R) n+601*R+1)+1)+201:=⟨_,rfl⟩
 have hKB:kb (601*R) n≤2000000:=Nat.le_trans (uT (k:=601*R) (k':=4808) (m:=n) (n:=4) (by omega) hn4) (by decide)
 have hm1:n*(kb (601*R) n+601*R+1)≤4*2100000:=Nat.mul_le_mul hn4 (by omega)
 have hm2:n*(200+n*(kb (601*R) n+601*R+1)+1)≤4*9000000:=Nat.mul_le_mul hn4 (by omega)
 have hS:=fun M0 I0 h=>aBT (X:=X) (w0:=w0) (M0:=M0) (I0:=I0) (m:=m) (R:=R) (n:=n) (J:=J) hR hn4 hJ f hd h
 have hJ2:J≤100000000:=by omega
 have lR:=f.d.1.1
 clear hJ hm1 hm2
 generalize kb (601*R) n=KB at*
 refine aP Tryz.func15 rfl Tryz.ntmps15 rfl ?_
 refine fG ?_
 refine fQ rfl (fun b2=>?_)
 refine aG .here ?_
 refine dG (fun b4=>?_)
 repeat refine aC ?_
 (refine bA rfl (hS _ _ aA) ?_;rintro _ _ _ ⟨rfl,q,v,b,c,rfl,hq,rfl⟩;refine aU ?_)
 repeat refine aC ?_
 refine dG (fun b6=>?_)
 repeat refine aC ?_
 have hSt:=fun M0 I0 h=>aEG (X:=X) (w0:=w0) (M0:=M0) (I0:=I0) (m:=m) (R:=R) (n:=n) (KB:=KB) (KJ:=J) (b:=b) (c:=c) (t:=t) (q:=q) (v:=v) hn4 hKB hJ2 f hq ht h
 simp only [if_neg hr] at hSt
 (refine bA rfl (aQH lR (by omega) ht) ?_;rintro _ _ _ ⟨rfl,rfl,rfl⟩;refine aU ?_)
 repeat refine aC ?_
 (refine bA rfl (hSt _ _ aA) ?_;rintro _ _ _ ⟨rfl,e,rfl,he,rfl⟩;refine aU ?_)
 repeat refine aC ?_
 refine dG (fun b8=>?_)
 repeat refine aC ?_
 refine gZ (rs:=[.cell 4 36, .tmp 5]) (vs:=[rv e, .int .i64 0]) (.inl rfl) rfl (.cellN (cs:=eR e) inferInstance rfl aA rfl (.tmp rfl .nil)) rfl M0 (bE e 500000000::I0) aK aJ ⟨rfl,e,rfl,he,rfl⟩
end
end Go.Proofs.YthhldplegmeolaaGreat
namespace Go.Fx
section
variable {P:Program} {n:Nat} {ops:List Oper} {Q:Exit→Act→World→Prop} {m:Mode} {G:Env} {w:World} {ty:TypeId} {pos:String} {af:Array Edge} {g:Option (Nat × Bool)} {l:List Oper} {X:List Nat} {w0:World} {M M':List Ent} {I:List aN}
theorem aNW {P:Program} {w:World} (t ty e:TypeId) (i:TypeInfo) (ht:P.underlying t=some (.slice e)) (hi:P.info? e=some i) (b:Addr) (sLen sCap:Nat) (a:Addr) (c:Nat) (hroom:sLen≤sCap):
  (Builtin.append_ #[t,t] ty #[.slice (some b) sLen sCap, .slice (some a) 0 c]).run P w= .ok (.slice (some b) sLen sCap) w:=by
 have hf:=run_firstCells_some (P:=P) w i.size 0 a 0 c [] (by simp) (by simp)
 simp [Builtin.append_,run_underlying ht,sizeOf,typeInfo,hi,Builtin.lenOf,hroom,hf,storeCells]
theorem aMA {s x:Operand} {t e:TypeId} {sz:Nat} {b a:Addr} {len c c':Nat} [ht:SliceTy P t e sz] (hs:ev G s=some (.slice (some b) len c)) (hx:ev G x=some (.slice (some a) 0 c')) (hroom:len≤c):
  Eff P n G (.call {callee:= .builtin .append,args:=#[s,x],argTypes:=#[t,t]}) ty w (fun v w'=>v= .slice (some b) len c∧w'=w):=by
 refine ⟨?_⟩
 intro st ha dst pos after guard
 obtain ⟨i,hi,hs2⟩:∃i,P.info? e=some i∧i.size=sz:=Option.map_eq_some_iff.1 ht.size
 have hr:=aNW (P:=P) (w:=w) t ty e i ht.und hi b len c a c' hroom
 refine pO (v:= .slice (some b) len c) (w':=w) ?_ ⟨_,⟨rfl,rfl⟩,rfl⟩
 simp [execOp,resolve,invoke,builtin,ha.ev hs,ha.ev hx,hr]
theorem xH {C:World→Prop} {ty t e:TypeId} {sz:Nat} {x y1 y2 y3:Operand} {a:Option Addr} {len c:Nat} {k1 k2 k3:IntKind} {i1 i2 i3:Int} (l h m k d:Nat) [ht:SliceTy P t e sz] (hx:ev G x=some (.slice a len c)) (g1:ev G y1=some (.int k1 i1)) (g2:ev G y2=some (.int k2 i2)) (g3:ev G y3=some (.int k3 i3))
  (e1:i1=(l:Int)) (e2:i2=(h:Int)) (e3:i3=(m:Int)) (h1:l≤h) (h2:h≤m) (h3:m≤c) (hk:h - l=k) (hd:m - l=d):
  Const P n G (.slice t x (some y1) (some y2) (some y3)) ty C (.slice (sJ a m l sz) k d):=by
 subst e1;subst e2;subst e3;subst hk;subst hd
 refine ⟨?_⟩
 intro st ha dst pos after guard w _
 simp [execOp,Instr.sliceAt,Instr.slice,ha.ev hx,eF ht.und,run_sizeOf ht.size,Instr.sliceBounds,Instr.sliceBound,asIntOf,ha.ev g1,ha.ev g2,ha.ev g3,h1,h2,h3,sJ]
theorem aGB (z:Array Value):Builtin.zeroCells z 1=z:=by
 apply Array.ext
 ·simp [Builtin.zeroCells]
 ·intro i h1 h2
  simp [Builtin.zeroCells,Nat.mod_eq_of_lt h2,h2]
theorem aGX {t e e':TypeId} {sz sz' by_ b o c:Nat} {z:List Value} {x:Operand} {cs:List Value} [ht:SliceTy P t e sz'] [hz:ElemTy P e sz by_ z] (hx:ev G x=some (.slice (some ⟨b,o,none⟩) 1 c)) (hB:Blk w b cs e') (ho:o+sz≤cs.length) (h1:∀u∈z,u.oneCell'=true):
  Eff P n G (.call {callee:= .builtin .clear,args:=#[x],argTypes:=#[t]}) ty w (fun _ w'=>Blk w' b (splice cs o z) e'∧Ext [b] w w'):=by
 refine ⟨?_⟩
 intro a ha dst pos after guard
 obtain ⟨i,v,hi,hs,hby,hzv,hcl⟩:=tT hz
 have hl:z.length=sz:=hz.len
 have hzr:(zeroValue e).run P w= .ok v w:=by simp [zeroValue,typeInfo,hi,hzv]
 have hst:=run_storeCells_at P b o e' z 0 cs.toArray w hB (by simpa [hl] using ho) h1
 simp only [Nat.add_zero] at hst
 refine pO (v:= .tuple #[]) (w':=w.setRow b (splice cs o z).toArray) ?_ ⟨_,⟨?_,Ext.setRow (by simp) _⟩,rfl⟩
 ·simp [execOp,resolve,invoke,builtin,ha.ev hx,Builtin.clear_,eF ht.und,hzr,hcl,aGB,hst,splice]
 ·exact setRow_heap w b _ _ _ _ hB
theorem aCC {t e e':TypeId} {sz sz' by_ b o c:Nat} {z:List Value} {x:Operand} {cs cs':List Value} [SliceTy P t e sz'] [ElemTy P e sz by_ z] (hx:ev G x=some (.slice (some ⟨b,o,none⟩) 1 c)) (hr:Rep (.blk b cs e') (.blk b cs' e') M M') (hs:splice cs o z=cs') (ho:o+sz≤cs.length) (h1:∀u∈z,u.oneCell'=true) (hg:lW ops G g=some true)
  (kk:OkD m X w0 M' I∧RD P n ops Q m.nextE l G X w0 M' I):RD P n ops Q m (⟨none, .call {callee:= .builtin .clear,args:=#[x],argTypes:=#[t]},ty,pos,af,g⟩::l) G X w0 M I:=
 wY (d:=none) (K:=fun _ M2 I2=>M2=M'∧I2=I) hg
  (fun w hw=>(aGX hx (hw.blk hr.mem) ho h1).mono (fun _ w' ⟨hB,hE⟩=>⟨_,_,⟨rfl,rfl⟩,hw.upd hr hE (fun b hb=> .inl hb) (by simp [Ent.blocks]) (by rw [hs] at hB;exact hB)⟩)) rfl rfl
  (fun _ _ _ ⟨hM,hI⟩=>by subst hM;subst hI;exact kk)
theorem aIL {d:Nat} {s x:Operand} {t e:TypeId} {sz:Nat} {b a:Addr} {len c c':Nat} [SliceTy P t e sz] (hs:ev G s=some (.slice (some b) len c)) (hx:ev G x=some (.slice (some a) 0 c')) (hroom:len≤c) (hg:lW ops G g=some true) (hd:Nat.ble (d+1) n=true)
  (kk:OkD m X w0 M I∧RD P n ops Q m.nextE l ((d, .slice (some b) len c)::G) X w0 M I):RD P n ops Q m (⟨some d, .call {callee:= .builtin .append,args:=#[s,x],argTypes:=#[t,t]},ty,pos,af,g⟩::l) G X w0 M I:=
 wY (d:=some d) (K:=fun v M2 I2=>v= .slice (some b) len c∧M2=M∧I2=I) hg
  (fun w hw=>(aMA hs hx hroom).mono (fun _ w' ⟨hv,hW⟩=>⟨_,_,⟨hv,rfl,rfl⟩,by subst hW;exact hw⟩)) rfl hd
  (fun _ _ _ ⟨hv,hM,hI⟩=>by subst hv;subst hM;subst hI;exact kk)
end
theorem aBV (a:Addr) (c l sz:Nat):∃a',sJ (some a) c l sz=some a':=by
 unfold sJ
 split
 ·exact ⟨_,rfl⟩
 ·exact ⟨_,rfl⟩
end Go.Fx
namespace Go.Proofs.YthhldplegmeolaaGreat
open Go Go.Fx
theorem aDP {α:Type} {enc:α→List Value} {sz n:Nat} [Sized enc sz] {es:List α} {e:α} {tl z:List Value} (hn:es.length=n) (hz:z.length=sz):splice (recs enc (es++[e])++tl) (n*sz) z=recs enc es++(z++tl):=by
 subst hn
 have h1:recs enc (es++[e])=recs enc es++enc e:=by rw [nL];simp [recs]
 have h2:(enc e).length=sz:=Sized.len e
 have h3:(recs enc es).length=es.length*sz:=fH es
 unfold splice
 rw [h1,hz,←h3]
 rw [List.drop_left' (show (recs enc es++enc e).length=(recs enc es).length+sz by rw [List.length_append,h2]),List.append_assoc (recs enc es),List.take_left,List.append_assoc]
theorem xY {b c j sz:Nat} (h:j < c):sJ (some ⟨b,0,none⟩) c j sz=some ⟨b,j*sz,none⟩:=by
 unfold sJ
 rw [if_neg (by omega)]
 simp [Addr.add]
 exact fun h=>h.symm
section
variable {X:List Nat} {w0:World} {M1:List Ent} {I0:List aN}
theorem aJI {b n c:Nat} {es:List RE} {e:RE} {tl:List Value} (hl:es.length=n) (hn:n≤1000) (hc:n+1≤c):
  CD Tryz.prog 55 [.slice (some ⟨b,0,none⟩) ((n+1:Nat)) c, .int .i64 (n:Int), .int .i64 ((n:Int)+1)] X w0 (.blk b (recs eR (es++[e])++tl) 36::M1) I0 (fun v M I=>v= .slice (some ⟨b,0,none⟩) n c∧∃tl',M= .blk b (recs eR es++tl') 36::M1∧I0=I):=by
 refine iC Tryz.func55 rfl Tryz.ntmps55 rfl ?_
 repeat refine aC ?_
 (refine aB rfl (fun _=>xH n (n+1) (n+1) 1 1 rfl rfl rfl rfl rfl (by omega) (by omega) (by omega) (by omega) (by omega) (by omega) (by omega)) rfl rfl ?_)
 obtain ⟨a1,ha1⟩:=aBV ⟨b,0,none⟩ c (n+1) 4
 repeat refine aC ?_
 (repeat refine aF ?_);refine dD [0,1,2,3,4,5,6,7] [1,1,0,1,1,0,0,0] mixed (by kernel_rfl) ?_
 repeat refine aC ?_
 (refine aB rfl (fun _=>kF n rfl rfl rfl (by omega)) rfl rfl ?_)
 repeat refine aC ?_
 (refine aB rfl (fun _=>jZ (n+1) (n+1) 0 rfl (.inr ⟨_,_,_,rfl,rfl,by omega⟩) (.inl ⟨rfl,rfl⟩) (by omega) (by omega) (by omega)) rfl rfl ?_)
 rw [ha1]
 refine aIL rfl rfl (by omega) rfl rfl ⟨okF,?_⟩
 repeat refine aC ?_
 (refine aB rfl (fun _=>jZ n (n+1) 1 rfl (.inr ⟨_,_,_,rfl,rfl,rfl⟩) (.inr ⟨_,_,_,rfl,rfl,by omega⟩) (by omega) (by omega) (by omega)) rfl rfl ?_)
 rw [xY (by omega)]
 refine aCC rfl .here (aDP hl rfl) (by rw [List.length_append,fH,List.length_append];simp;omega) (by simp [Value.oneCell']) rfl ⟨okF,?_⟩
 repeat refine aC ?_
 refine aT (by first|exact .inl rfl|exact .inr rfl) rfl rfl _ _ aK aJ (⟨rfl,_,rfl,rfl⟩)
theorem aPP {b n c:Nat} {es:List RL} {e:RL} {tl:List Value} (hl:es.length=n) (hn:n≤1000) (hc:n+1≤c):
  CD Tryz.prog 54 [.slice (some ⟨b,0,none⟩) ((n+1:Nat)) c, .int .i64 (n:Int), .int .i64 ((n:Int)+1)] X w0 (.blk b (recs eL (es++[e])++tl) 24::M1) I0 (fun v M I=>v= .slice (some ⟨b,0,none⟩) n c∧∃tl',M= .blk b (recs eL es++tl') 24::M1∧I0=I):=by
 refine iC Tryz.func54 rfl Tryz.ntmps54 rfl ?_
 repeat refine aC ?_
 (refine aB rfl (fun _=>xH n (n+1) (n+1) 1 1 rfl rfl rfl rfl rfl (by omega) (by omega) (by omega) (by omega) (by omega) (by omega) (by omega)) rfl rfl ?_)
 obtain ⟨a1,ha1⟩:=aBV ⟨b,0,none⟩ c (n+1) 1
 repeat refine aC ?_
 (repeat refine aF ?_);refine dD [0,1,2,3,4,5,6,7] [1,1,0,1,1,0,0,0] mixed (by kernel_rfl) ?_
 repeat refine aC ?_
 (refine aB rfl (fun _=>kF n rfl rfl rfl (by omega)) rfl rfl ?_)
 repeat refine aC ?_
 (refine aB rfl (fun _=>jZ (n+1) (n+1) 0 rfl (.inr ⟨_,_,_,rfl,rfl,by omega⟩) (.inl ⟨rfl,rfl⟩) (by omega) (by omega) (by omega)) rfl rfl ?_)
 rw [ha1]
 refine aIL rfl rfl (by omega) rfl rfl ⟨okF,?_⟩
 repeat refine aC ?_
 (refine aB rfl (fun _=>jZ n (n+1) 1 rfl (.inr ⟨_,_,_,rfl,rfl,rfl⟩) (.inr ⟨_,_,_,rfl,rfl,by omega⟩) (by omega) (by omega) (by omega)) rfl rfl ?_)
 rw [xY (by omega)]
 refine aCC rfl .here (aDP hl rfl) (by rw [List.length_append,fH,List.length_append];simp;omega) (by simp [Value.oneCell']) rfl ⟨okF,?_⟩
 repeat refine aC ?_
 refine aT (by first|exact .inl rfl|exact .inr rfl) rfl rfl _ _ aK aJ (⟨rfl,_,rfl,rfl⟩)
end
end Go.Proofs.YthhldplegmeolaaGreat

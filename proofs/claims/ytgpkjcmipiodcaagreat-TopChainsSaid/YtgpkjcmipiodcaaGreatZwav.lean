/- Matrices and lists of fractions that are only read: facts about memory; matrices as they c -/
import Derived.Test.YtgpkjcmipiodcaaGreatZwau
import Derived.Test.YtgpkjcmipiodcaaGreatZwaq
import Derived.Test.YtgpkjcmipiodcaaGreatZwar
import Derived.Test.YtgpkjcmipiodcaaGreatZwat
import Derived.Test.YtgpkjcmipiodcaaGreatZwan
import Derived.Test.YtgpkjcmipiodcaaGreatZwag
set_option linter.unusedSimpArgs false
set_option linter.unusedVariables false
set_option maxRecDepth 100000
set_option maxHeartbeats 4000000
namespace Go.Proofs.YtgpkjcmipiodcaaGreat
open Go Go.Fx
structure RL where
 p:Option Addr
 c:Nat
 es:List RE
instance:Inhabited RL:=⟨⟨none,0,[]⟩⟩
abbrev eL (r:RL):List Value:=[.slice r.p r.es.length r.c]
abbrev lv (r:RL):Value:= .slice r.p r.es.length r.c
instance:Sized eL 1:=⟨fun _=>rfl⟩
instance:Ones eL:=⟨fun m u hu=>by simp only [eL,List.mem_cons,List.not_mem_nil,or_false] at hu;subst hu;rfl⟩
structure IsL (r:RL) (k:Nat) (X:List Nat) (w:World):Prop where
 sl:Sl X w r.p (recs eR r.es)
 el:∀e∈r.es,IsR e k X w
 cap:Cap r.p r.es.length r.c
abbrev lK (r:RL) (k:Nat):aV:=IsL r k
instance (r:RL) (k:Nat):Fx.Good (IsL r k):=⟨fun X Y w w' h he hY=>⟨Sl.carry h.sl he hY,fun e hm=>Fx.Good.go (φ:=IsR _ _) X Y w w' (h.el e hm) he hY,h.cap⟩⟩
abbrev RL.q (r:RL):List Rat:=qs r.es
structure MX where
 p:Option Addr
 c:Nat
 rows:List RL
instance:Inhabited MX:=⟨⟨none,0,[]⟩⟩
abbrev eMX (m:MX):List Value:=[.slice m.p m.rows.length m.c]
abbrev mv (m:MX):Value:= .slice m.p m.rows.length m.c
instance:Sized eMX 1:=⟨fun _=>rfl⟩
instance:Ones eMX:=⟨fun m u hu=>by simp only [eMX,List.mem_cons,List.not_mem_nil,or_false] at hu;subst hu;rfl⟩
structure IsX (m:MX) (k:Nat) (X:List Nat) (w:World):Prop where
 sl:Sl X w m.p (recs eL m.rows)
 row:∀r∈m.rows,IsL r k X w
 cap:Cap m.p m.rows.length m.c
abbrev pW (m:MX) (k:Nat):aV:=IsX m k
instance (m:MX) (k:Nat):Fx.Good (IsX m k):=⟨fun X Y w w' h he hY=>⟨Sl.carry h.sl he hY,fun e hm=>Fx.Good.go (φ:=IsL _ _) X Y w w' (h.row e hm) he hY,h.cap⟩⟩
abbrev MX.q (m:MX):Mt:=m.rows.map RL.q
def MX.dim (m:MX) (R C:Nat):Prop:=m.rows.length=R∧∀r∈m.rows,r.es.length=C
theorem MX.dim.row {m:MX} {R C:Nat} (h:m.dim R C) {i:Nat} (hi:i < R):(gt m.rows (i:Int)).es.length=C:=h.2 _ (bJ ⟨by omega,by have:=h.1;omega⟩)
/- what follows from the facts -/
theorem Hv.xsl {I:List aV} {m:MX} {k:Nat} (h:pW m k∈I):Hv I (aI m.p (recs eL m.rows)):=⟨fun X w hw=>⟨(hw _ h:IsX m k X w).sl⟩⟩
theorem Hv.xrow {I:List aV} {m:MX} {k:Nat} {i:Int} (h:pW m k∈I) (hi:0≤i∧i < m.rows.length):Hv I (lK (gt m.rows i) k):=⟨fun X w hw=>(hw _ h:IsX m k X w).row _ (bJ hi)⟩
theorem Hv.xrsl {I:List aV} {m:MX} {k:Nat} {i:Int} (h:pW m k∈I) (hi:0≤i∧i < m.rows.length):Hv I (aI (gt m.rows i).p (recs eR (gt m.rows i).es)):=⟨fun X w hw=>⟨((hw _ h:IsX m k X w).row _ (bJ hi)).sl⟩⟩
theorem Hv.xel {I:List aV} {m:MX} {k:Nat} {i j:Int} (h:pW m k∈I) (hi:0≤i∧i < m.rows.length) (hj:0≤j∧j < (gt m.rows i).es.length):Hv I (cK (gt (gt m.rows i).es j) k):=⟨fun X w hw=>((hw _ h:IsX m k X w).row _ (bJ hi)).el _ (bJ hj)⟩
theorem Hv.lsl {I:List aV} {r:RL} {k:Nat} (h:lK r k∈I):Hv I (aI r.p (recs eR r.es)):=⟨fun X w hw=>⟨(hw _ h:IsL r k X w).sl⟩⟩
theorem Hv.lel {I:List aV} {r:RL} {k:Nat} {j:Int} (h:lK r k∈I) (hj:0≤j∧j < r.es.length):Hv I (cK (gt r.es j) k):=⟨fun X w hw=>(hw _ h:IsL r k X w).el _ (bJ hj)⟩
theorem IsL.mono {r:RL} {k m:Nat} {X:List Nat} {w:World} (h:IsL r k X w) (hk:k≤m):IsL r m X w:=⟨h.sl,fun e he=>(h.el e he).mono hk,h.cap⟩
theorem IsX.mono {x:MX} {k m:Nat} {X:List Nat} {w:World} (h:IsX x k X w) (hk:k≤m):IsX x m X w:=⟨h.sl,fun e he=>(h.row e he).mono hk,h.cap⟩
theorem Hv.lm {I:List aV} {r:RL} {k m:Nat} (h:lK r k∈I) (hk:k≤m):Hv I (lK r m):=⟨fun X w hw=>IsL.mono (hw _ h) hk⟩
theorem Hv.xm {I:List aV} {r:MX} {k m:Nat} (h:pW r k∈I) (hk:k≤m):Hv I (pW r m):=⟨fun X w hw=>IsX.mono (hw _ h) hk⟩
/- the posts -/
def XQ (A:Mt) (R C k:Nat) (M0:List Ent) (I0:List aV) (v:Value) (M:List Ent) (I:List aV):Prop:=M0=M∧∃m:MX,v=mv m∧m.q=A∧m.dim R C∧I=pW m k::I0
def XQc (A:Mt) (R C k:Nat) (M0:List Ent) (I0:List aV) (v:Value) (M:List Ent) (I:List aV):Prop:=M0=M∧∃m:MX,v= .tuple #[mv m, .int .i64 0]∧m.q=A∧m.dim R C∧I=pW m k::I0
def LQ (l:List Rat) (k:Nat) (M0:List Ent) (I0:List aV) (v:Value) (M:List Ent) (I:List aV):Prop:=M0=M∧∃r:RL,v=lv r∧r.q=l∧I=lK r k::I0
def LQc (l:List Rat) (k:Nat) (M0:List Ent) (I0:List aV) (v:Value) (M:List Ent) (I:List aV):Prop:=M0=M∧∃r:RL,v= .tuple #[lv r, .int .i64 0]∧r.q=l∧I=lK r k::I0
def yN (R C:Nat) (F:Nat→Nat→Rat):Mt:=(List.range R).map (fun i=>(List.range C).map (F i))
theorem oV {R C:Nat} {F:Nat→Nat→Rat} {i j:Nat} (hi:i < R) (hj:j < C):at2 (yN R C F) i j=F i j:=by
 unfold at2 rowAt yN
 simp [List.getD,hi,hj]
theorem aFI {R C:Nat} {F G:Nat→Nat→Rat} (h:∀i j,i < R→j < C→F i j=G i j):yN R C F=yN R C G:=by
 unfold yN
 apply List.map_congr_left
 intro i hi
 apply List.map_congr_left
 intro j hj
 exact h i j (List.mem_range.1 hi) (List.mem_range.1 hj)
theorem vG {m:MX} {i j:Nat} (hi:i < m.rows.length) (hj:j < (gt m.rows (i:Int)).es.length):at2 m.q i j=(gt (gt m.rows (i:Int)).es (j:Int)).q:=by
 rw [iH hi] at hj
 unfold at2 rowAt
 rw [iH hi,iH hj]
 simp [List.getD,hi,hj]
theorem MX.dim.mk {m:MX} {R C:Nat} (h:m.dim R C):m.q=yN R C (at2 m.q):=by
 apply List.ext_getElem
 ·simp [yN,h.1]
 ·intro i h1 h2
  have hi:i < m.rows.length:=by simpa using h1
  have hc:=h.2 _ (List.getElem_mem hi)
  apply List.ext_getElem
  ·simp [yN,hc]
  ·intro j h3 h4
   have hj:j < (m.rows[i]).es.length:=by simpa using h3
   simp only [yN,List.getElem_map,List.getElem_range]
   rw [vG hi (by rw [iH hi];exact hj),iH hi,iH hj]
/- a matrix made is a matrix that is read -/
def MR.l (r:MR):RL:=⟨some ⟨r.b,0,none⟩,r.es.length,r.es⟩
theorem aBH {X:List Nat} {w0 w:World} {k:Nat}:∀{rows:List MR} {M:List Ent} {I:List aV},Mem X w0 (rows.map gF++M) I w→(∀r∈rows,AllR r.es k (muts (rows.map gF++M)) w)→∃I',(∀φ∈I,φ∈I')∧(∀r∈rows,lK r.l k∈I')∧Mem X w0 M I' w
 |[],M,I,h,_=>⟨I,fun _ h=>h,fun r hr=>by simp at hr,h⟩
 |r::rows,M,I,h,ha=>by
  have h1:Mem X w0 (rows.map gF++M) (aI (some ⟨r.b,0,none⟩) (recs eR r.es)::I) w:=h.freezeB .here
  have hsub:∀y∈muts (rows.map gF++M),y∈muts ((r::rows).map gF++M):=fun y hy=>by simp [muts] at hy ⊢;right;exact hy
  have h2:IsL r.l k (muts (rows.map gF++M)) w:=by
   refine ⟨(h1.sl (List.Mem.head _)),fun e he=>?_,Nat.le_refl _, .inl (Ok.mk _ _)⟩
   exact Fx.Good.go (φ:=IsR _ _) _ _ w w ((ha r (List.Mem.head _)).go e he) (Ext.refl _ _) (fun y hy=> .inl (hsub y hy))
  obtain ⟨I',i1,i2,i3⟩:=aBH (h1.add (φ:=lK r.l k) h2) (fun s hs=>⟨fun e he=>Fx.Good.go (φ:=IsR _ _) _ _ w w ((ha s (List.Mem.tail _ hs)).go e he) (Ext.refl _ _) (fun y hy=> .inl (hsub y hy))⟩)
  refine ⟨I',fun φ hφ=>i1 φ (List.Mem.tail _ (List.Mem.tail _ hφ)),fun s hs=>?_,i3⟩
  rcases List.mem_cons.1 hs with rfl|hs
  ·exact i1 _ (List.Mem.head _)
  ·exact i2 s hs
def MR.x (bo:Nat) (rows:List MR):MX:=⟨some ⟨bo,0,none⟩,rows.length,rows.map MR.l⟩
theorem aZX (rows:List MR):recs eL (rows.map MR.l)=recs eM rows:=by
 induction rows with
 |nil=>rfl
 |cons x r ih=>
  have h1:recs eL ((x::r).map MR.l)=eL x.l++recs eL (r.map MR.l):=rfl
  have h2:recs eM (x::r)=eM x++recs eM r:=rfl
  rw [h1,h2,ih]
  rfl
theorem q_x (bo:Nat) (rows:List MR):(MR.x bo rows).q=mq rows:=by
 unfold MR.x
 simp [MX.q,MR.l,Function.comp_def]
theorem aMW {X:List Nat} {w0 w:World} {k bo:Nat} {rows:List MR} {M:List Ent} {I:List aV} (h:Mem X w0 (.blk bo (recs eM rows) 52::(rows.map gF++M)) I w) (ha:allM rows k∈I):Mem X w0 M (pW (MR.x bo rows) k::I) w:=by
 have h0:Mem X w0 (rows.map gF++M) (aI (some ⟨bo,0,none⟩) (recs eM rows)::I) w:=h.freezeB .here
 obtain ⟨I',i1,i2,i3⟩:=aBH (k:=k) h0 (fun r hr=>⟨fun e he=>((h0.imm _ (List.Mem.tail _ ha)).2:AllM rows k _ w).go r hr e he⟩)
 have h3:IsX (MR.x bo rows) k (muts M) w:=by
  refine ⟨?_,fun r hr=>?_,?_⟩
  ·rw [show (MR.x bo rows).rows=rows.map MR.l from rfl,aZX];exact i3.sl (i1 _ (List.Mem.head _))
  ·obtain ⟨s,hs,rfl⟩:=List.mem_map.1 hr
   exact (i3.imm _ (i2 s hs)).2
  ·show Cap (some ⟨bo,0,none⟩) (rows.map MR.l).length rows.length
   rw [List.length_map];exact ⟨Nat.le_refl _, .inl (Ok.mk _ _)⟩
 exact (i3.add (φ:=pW (MR.x bo rows) k) h3).inc (.of fun φ hφ=>by
  rcases List.mem_cons.1 hφ with rfl|hφ
  ·exact List.Mem.head _
  ·exact List.Mem.tail _ (i1 _ (List.Mem.tail _ hφ)))
section
variable {X:List Nat} {w0:World} {M0:List Ent} {I0:List aV}
theorem zD {g:FuncId} [FnOk Tryz.prog g] {fs cs:Array Value} {R C k0:Nat} (hR:R≤100) (hC:C≤200) (F:Nat→Nat→Rat)
  (hg:∀M I,(∀φ∈I0,φ∈I)→∀i j:Nat,i < R→j < C→CD Tryz.prog g (fs.toList++[.int .i64 (i:Int), .int .i64 (j:Int)]++cs.toList) X w0 M I (RQ (F i j) k0 M I)):
  CD Tryz.prog 98 [.int .i64 (R:Int), .int .i64 (C:Int), .func (.func g) fs cs] X w0 M0 I0 (XQ (yN R C F) R C k0 M0 I0):=by
 refine CD.post (aCY hR hC F hg) (fun v M I w h hw=>?_)
 obtain ⟨bo,rows,rfl,hl,hc,hF,rfl,rfl⟩:=h
 refine ⟨M0,pW (MR.x bo rows) k0::I0,⟨rfl,MR.x bo rows,?_,?_,⟨by simp [MR.x,hl],fun r hr=>?_⟩,rfl⟩,(aMW hw (List.Mem.head _)).inc (.of fun φ hφ=>by
  rcases List.mem_cons.1 hφ with rfl|hφ
  ·exact List.Mem.head _
  ·exact List.Mem.tail _ (List.Mem.tail _ hφ))⟩
 ·have e:(MR.x bo rows).rows.length=R:=by show (rows.map MR.l).length=R;rw [List.length_map,hl]
  have e2:(MR.x bo rows).c=R:=hl
  show _=Value.slice (MR.x bo rows).p (MR.x bo rows).rows.length (MR.x bo rows).c
  rw [e,e2];rfl
 ·rw [q_x];exact hF
 ·obtain ⟨s,hs,rfl⟩:=List.mem_map.1 hr
  exact hc s hs
end
theorem RE.raw_eq {e f:RE} (h:e.raw=f.raw) (hq:e.q=f.q):e=f:=by
 cases e;cases f
 simp only at hq
 subst hq
 simp only [RE.raw,RW.mk.injEq] at h
 obtain ⟨_,h1,_,h2,_,h3,_,h4⟩:=h
 subst h1;subst h2;subst h3;subst h4;rfl
theorem Hv.fitR {I:List aV} {e:RE} {k m:Nat} (h:cK e k∈I) (ht:Ht m e.q):Hv I (cK e m):=⟨fun X w hw=>by
 have h1:IsR e k X w:=hw _ h
 exact ⟨h1.num.tight ht.1,h1.den.tight (by have:=ht.2;omega)⟩⟩
def yM (es:List RE) (n:Nat):List RW:=es.map RE.raw++List.replicate (n - es.length) zW
theorem aXQ {es:List RE} {n:Nat} (h:es.length≤n):(yM es n).length=n:=by simp [yM];omega
theorem sU {es:List RE} {n j:Nat} (h:j < es.length):gt (yM es n) (j:Int)=(gt es (j:Int)).raw:=by
 unfold yM
 rw [eU (by simp;omega),eU h,List.getElem_append_left (by simpa using h)]
 simp
theorem bAM {es:List RE} {n:Nat} (h:es.length < n) (e:RE):st (yM es n) (es.length:Int) e.raw=yM (es++[e]) n:=by
 unfold yM st
 rw [Int.toNat_natCast,List.set_append_right _ _ (by simp)]
 simp only [List.length_map,Nat.sub_self,List.map_append,List.map_cons,List.map_nil,List.length_append,List.length_cons,List.length_nil]
 rw [show n - es.length=(n - (es.length+1))+1 by omega,List.replicate_succ,List.set_cons_zero]
 simp
theorem wsl_0 (n:Nat):yM [] n=List.replicate n zW:=by simp [yM]
theorem TV.ex {N:Nat} {ks:List TK} {q:Rat} (h:TV N ks q):∃vs,Ev N ks vs∧0 < ks.length∧vs[ks.length - 1]?=some q:=by
 obtain ⟨vs,h1,h2⟩:=h
 have hl:=h1.len
 rw [List.getLast?_eq_getElem?] at h2
 have:=(List.getElem?_eq_some_iff.1 h2).1
 exact ⟨vs,h1,by omega,by rw [hl];exact h2⟩
section
variable {X:List Nat} {w0:World} {M0:List Ent} {I0:List aV}
theorem aIO {N cp n:Nat} {p:Option Addr} {ts:List TN} {q:Rat} {r:RL} (hn:ts.length=n) (hn2:n≤1000) (hv:TV N (ts.map TN.k) q) (hr:r.es.length=N) (hz:∀e∈r.es,e.q=0) (hp:aI p (recs vH ts)∈I0) (ha:allT ts∈I0) (hx:lK r 1000∈I0):
  CD Tryz.prog 85 [.slice p n cp,lv r] X w0 M0 I0 (RQ q 100000 M0 I0):=by
 obtain ⟨vs,hev,hn0,hlast⟩:=hv.ex
 rw [List.length_map,hn] at hn0 hlast
 have hvl:vs.length=n:=by rw [←hev.len,List.length_map,hn]
 refine bO (φ:=aI r.p (recs eR r.es)) (Hv.lsl hx) ?_
 refine aP Tryz.func85 rfl Tryz.ntmps85 rfl ?_
 refine fE ?_
 refine bG (fun b4=>?_)
 repeat refine aB ?_
 (refine lM (n) rfl rfl (by omega) (by omega) (by omega) (by omega) ((aAR (enc:=eW) (by decide) zW n).trans (by rw [←wsl_0])) rfl rfl ?_;intro b5;refine aL ?_)
 repeat refine aB ?_
 refine bD (φ:=bW [] 100000) ⟨fun X w _=>⟨fun e he=>absurd he List.not_mem_nil⟩⟩ ?_
 refine kS [0,1,4,5,11,12] rfl (fun k G M I=>∃(i:Nat) (es:List RE),es.length=i∧i≤n∧k=n - i∧es.map RE.q=vs.take i∧G=[(13, .int .i64 (i:Int))]∧M= .blk b5 (recs eW (yM es n)) 40:: .blk b4 (eW zW) 40::M0∧I=bW es 100000::aI r.p (recs eR r.es)::I0) (n) (⟨0,[],rfl,by omega,rfl,rfl,rfl,rfl,rfl⟩) ?_
 rintro kk G M I ⟨i,es,hie,hi,rfl,hq,rfl,rfl,rfl⟩
 have hwl:(yM es n).length=n:=aXQ (by omega)
 have hget:∀(j:Nat) (p:Rat),(vs.take i)[j]?=some p→j < i∧(gt es (j:Int)).q=p:=fun j p h=>by
  rw [←hq] at h
  have hj:j < es.length:=by have:=(List.getElem?_eq_some_iff.1 h).1;simpa using this
  rw [List.getElem?_map,List.getElem?_eq_getElem hj] at h
  rw [eU hj]
  exact ⟨by omega,by simpa using h⟩
 by_cases hin:i < n
 ·obtain ⟨t,ht⟩:∃t,gt ts (i:Int)=t:=⟨_,rfl⟩
  have htm:t∈ts:=by rw [←ht];exact bJ ⟨by omega,by omega⟩
  have htg:(ts.map TN.k)[i]?=some t.k:=by
   rw [List.getElem?_map,List.getElem?_eq_getElem (by omega),←eU (by omega),ht];rfl
  obtain ⟨v,hv1,hv2,hv3⟩:=hev.at htg
  have hnx:∀e:RE,e.q=v→(es++[e]).map RE.q=vs.take (i+1):=fun e he=>by
   rw [List.map_append,hq,List.take_add_one,hv1,List.map_cons,he];rfl
  have hst:=fun e:RE=>bAM (n:=n) (es:=es) (by omega) e
  rw [hie] at hst
  generalize hk:t.k=kk at hv2
  repeat refine aB ?_
  refine bG (fun b7=>?_)
  rw [ht]
  repeat refine aB ?_
  cases hv2 with
  |num z hz'=>
   have k1:t.k.op=0:=by rw [hk]
   have k2:t.k.n=z:=by rw [hk]
   refine xH (φ:=∃e:RE,t.r=e.raw∧e.q=(z:Rat)) (fun w hw=>by
    obtain ⟨e,h1,h2,_⟩:=((hw.imm (allT ts) (by first|exact List.mem_cons_of_mem _ (List.mem_cons_of_mem _ ha)|exact aA)).2:AllT ts _ w).go _ htm k1
    rw [k2] at h2
    exact ⟨e,h1,h2⟩) (fun ⟨e,he,heq⟩=>?_)
   refine bD (φ:=cK e 100000) ⟨fun X w hw=>by
    obtain ⟨f,h1,h2,h3⟩:=(hw (allT ts) (by first|exact List.mem_cons_of_mem _ (List.mem_cons_of_mem _ ha)|exact aA):AllT ts X w).go _ htm k1
    rw [k2] at h2
    rw [RE.raw_eq (he.symm.trans h1) (heq.trans h2.symm)]
    exact h3.mono (by omega)⟩ ?_
   repeat refine yXh ?_
   (refine fM (vs:=eW t.r) (cs':=recs eW (yM (es++[e]) n)) rfl rfl rfl nU iN (by rw [←hst e,←he];exact StAts.r t.r (by omega) rfl) rfl rfl ⟨okF,?_⟩)
   repeat refine aB ?_
   refine fF (φ:=bW (es++[e]) 100000) (Hv.snoc aA aA) ?_
   refine qZ (M':= .blk b5 (recs eW (yM (es++[e]) n)) 40:: .blk b4 (eW zW) 40::M0) (I':=bW (es++[e]) 100000::aI r.p (recs eR r.es)::I0) aG aF ?_
   refine iC (n - (i+1)) (⟨i+1,es++[e],by rw [List.length_append,hie];rfl,by omega,rfl,hnx _ heq,rfl,rfl,rfl⟩)
  |var j hj=>
   have k1:t.k.op=1:=by rw [hk]
   have k2:t.k.a=(j:Int):=by rw [hk]
   have hgm:=bJ (ms:=r.es) (i:=(j:Int)) ⟨by omega,by omega⟩
   refine bD (φ:=cK (gt r.es (j:Int)) 1000) (Hv.lel aA ⟨by omega,by omega⟩) ?_
   refine bD (φ:=cK (gt r.es (j:Int)) 100000) (Hv.q List.mem_cons_self (by omega)) ?_
   rw [←k2] at hgm ⊢
   repeat refine yXh ?_
   (refine fM (vs:=eR (gt r.es t.k.a)) (cs':=recs eW (yM (es++[(gt r.es t.k.a)]) n)) rfl rfl rfl nU iN (by rw [←hst (gt r.es t.k.a)];exact StAts.r ((gt r.es t.k.a)).raw (by omega) rfl) rfl rfl ⟨okF,?_⟩)
   repeat refine aB ?_
   refine fF (φ:=bW (es++[(gt r.es t.k.a)]) 100000) (Hv.snoc aA aA) ?_
   refine qZ (M':= .blk b5 (recs eW (yM (es++[(gt r.es t.k.a)]) n)) 40:: .blk b4 (eW zW) 40::M0) (I':=bW (es++[(gt r.es t.k.a)]) 100000::aI r.p (recs eR r.es)::I0) aG aF ?_
   refine iC (n - (i+1)) (⟨i+1,es++[(gt r.es t.k.a)],by rw [List.length_append,hie];rfl,by omega,rfl,hnx _ (hz _ hgm),rfl,rfl,rfl⟩)
  | @add ja jb a b hja hjb=>
   have k1:t.k.op=2:=by rw [hk]
   have k2:t.k.a=(ja:Int):=by rw [hk]
   have k3:t.k.b=(jb:Int):=by rw [hk]
   obtain ⟨hal,haq⟩:=hget ja a hja
   obtain ⟨hbl,hbq⟩:=hget jb b hjb
   have hwa:=sU (n:=n) (es:=es) (j:=ja) (by omega)
   have hwb:=sU (n:=n) (es:=es) (j:=jb) (by omega)
   refine bD (φ:=cK (gt es (ja:Int)) 100000) (Hv.all (k:=100000) aA ⟨by omega,by omega⟩ (Nat.le_refl _)) ?_
   refine bD (φ:=cK (gt es (jb:Int)) 100000) (Hv.all (k:=100000) aA ⟨by omega,by omega⟩ (Nat.le_refl _)) ?_
   obtain ⟨ea,hea⟩:∃e,gt es (ja:Int)=e:=⟨_,rfl⟩
   obtain ⟨eb,heb⟩:∃e,gt es (jb:Int)=e:=⟨_,rfl⟩
   rw [hea] at haq hwa ⊢
   rw [heb] at hbq hwb ⊢
   subst haq
   subst hbq
   rw [←k2] at hwa
   rw [←k3] at hwb
   repeat refine yXh ?_
   (repeat refine aJ ?_);refine kT 1 (.blk b7 (vH t) 192:: .blk b5 (recs eW (yM es n)) 40::[]) ([]) [0,1,2,3,4,5,6,7,8,9,10,11,12,13,14] [1,1,1,1,1,1,0,1,1,1,1,0,0,0,0] aG aF mixed (by kernel_rfl) ?_
   repeat refine yXh ?_
   rw [hwa,hwb]
   refine iG rfl (uL (a:=ea) (b:=eb) (k:=100000) (m:=100000) (by decide) (Hv.mem aA) (Hv.mem aA)) (fun e he=>?_)
   refine fH (φ:=cK e 100000) (Hv.fitR aA (by rw [he];exact hv3)) ?_
   repeat refine yXh ?_
   (refine fM (vs:=eR e) (cs':=recs eW (yM (es++[e]) n)) rfl rfl rfl nU iN (by rw [←hst e];exact StAts.r (e).raw (by omega) rfl) rfl rfl ⟨okF,?_⟩)
   repeat refine aB ?_
   refine fF (φ:=bW (es++[e]) 100000) (Hv.snoc aA aA) ?_
   refine qZ (M':= .blk b5 (recs eW (yM (es++[e]) n)) 40:: .blk b4 (eW zW) 40::M0) (I':=bW (es++[e]) 100000::aI r.p (recs eR r.es)::I0) aG aF ?_
   refine iC (n - (i+1)) (⟨i+1,es++[e],by rw [List.length_append,hie];rfl,by omega,rfl,hnx _ he,rfl,rfl,rfl⟩)
  | @sub ja jb a b hja hjb=>
   have k1:t.k.op=3:=by rw [hk]
   have k2:t.k.a=(ja:Int):=by rw [hk]
   have k3:t.k.b=(jb:Int):=by rw [hk]
   obtain ⟨hal,haq⟩:=hget ja a hja
   obtain ⟨hbl,hbq⟩:=hget jb b hjb
   have hwa:=sU (n:=n) (es:=es) (j:=ja) (by omega)
   have hwb:=sU (n:=n) (es:=es) (j:=jb) (by omega)
   refine bD (φ:=cK (gt es (ja:Int)) 100000) (Hv.all (k:=100000) aA ⟨by omega,by omega⟩ (Nat.le_refl _)) ?_
   refine bD (φ:=cK (gt es (jb:Int)) 100000) (Hv.all (k:=100000) aA ⟨by omega,by omega⟩ (Nat.le_refl _)) ?_
   obtain ⟨ea,hea⟩:∃e,gt es (ja:Int)=e:=⟨_,rfl⟩
   obtain ⟨eb,heb⟩:∃e,gt es (jb:Int)=e:=⟨_,rfl⟩
   rw [hea] at haq hwa ⊢
   rw [heb] at hbq hwb ⊢
   subst haq
   subst hbq
   rw [←k2] at hwa
   rw [←k3] at hwb
   repeat refine yXh ?_
   (repeat refine aJ ?_);refine kT 1 (.blk b7 (vH t) 192:: .blk b5 (recs eW (yM es n)) 40::[]) ([]) [0,1,2,3,4,5,6,7,8,9,10,11,12,13,14] [1,1,1,1,1,1,0,1,1,1,1,0,0,0,0] aG aF mixed (by kernel_rfl) ?_
   repeat refine yXh ?_
   rw [hwa,hwb]
   refine iG rfl (zB (a:=ea) (b:=eb) (k:=100000) (m:=100000) (by decide) (Hv.mem aA) (Hv.mem aA)) (fun e he=>?_)
   refine fH (φ:=cK e 100000) (Hv.fitR aA (by rw [he];exact hv3)) ?_
   repeat refine yXh ?_
   (refine fM (vs:=eR e) (cs':=recs eW (yM (es++[e]) n)) rfl rfl rfl nU iN (by rw [←hst e];exact StAts.r (e).raw (by omega) rfl) rfl rfl ⟨okF,?_⟩)
   repeat refine aB ?_
   refine fF (φ:=bW (es++[e]) 100000) (Hv.snoc aA aA) ?_
   refine qZ (M':= .blk b5 (recs eW (yM (es++[e]) n)) 40:: .blk b4 (eW zW) 40::M0) (I':=bW (es++[e]) 100000::aI r.p (recs eR r.es)::I0) aG aF ?_
   refine iC (n - (i+1)) (⟨i+1,es++[e],by rw [List.length_append,hie];rfl,by omega,rfl,hnx _ he,rfl,rfl,rfl⟩)
  | @mul ja jb a b hja hjb=>
   have k1:t.k.op=4:=by rw [hk]
   have k2:t.k.a=(ja:Int):=by rw [hk]
   have k3:t.k.b=(jb:Int):=by rw [hk]
   obtain ⟨hal,haq⟩:=hget ja a hja
   obtain ⟨hbl,hbq⟩:=hget jb b hjb
   have hwa:=sU (n:=n) (es:=es) (j:=ja) (by omega)
   have hwb:=sU (n:=n) (es:=es) (j:=jb) (by omega)
   refine bD (φ:=cK (gt es (ja:Int)) 100000) (Hv.all (k:=100000) aA ⟨by omega,by omega⟩ (Nat.le_refl _)) ?_
   refine bD (φ:=cK (gt es (jb:Int)) 100000) (Hv.all (k:=100000) aA ⟨by omega,by omega⟩ (Nat.le_refl _)) ?_
   obtain ⟨ea,hea⟩:∃e,gt es (ja:Int)=e:=⟨_,rfl⟩
   obtain ⟨eb,heb⟩:∃e,gt es (jb:Int)=e:=⟨_,rfl⟩
   rw [hea] at haq hwa ⊢
   rw [heb] at hbq hwb ⊢
   subst haq
   subst hbq
   rw [←k2] at hwa
   rw [←k3] at hwb
   repeat refine yXh ?_
   (repeat refine aJ ?_);refine kT 1 (.blk b7 (vH t) 192:: .blk b5 (recs eW (yM es n)) 40::[]) ([]) [0,1,2,3,4,5,6,7,8,9,10,11,12,13,14] [1,1,1,1,1,1,0,1,1,1,1,0,0,0,0] aG aF mixed (by kernel_rfl) ?_
   repeat refine yXh ?_
   rw [hwa,hwb]
   refine iG rfl (iV (a:=ea) (b:=eb) (k:=100000) (m:=100000) (by decide) (Hv.mem aA) (Hv.mem aA)) (fun e he=>?_)
   refine fH (φ:=cK e 100000) (Hv.fitR aA (by rw [he];exact hv3)) ?_
   repeat refine yXh ?_
   (refine fM (vs:=eR e) (cs':=recs eW (yM (es++[e]) n)) rfl rfl rfl nU iN (by rw [←hst e];exact StAts.r (e).raw (by omega) rfl) rfl rfl ⟨okF,?_⟩)
   repeat refine aB ?_
   refine fF (φ:=bW (es++[e]) 100000) (Hv.snoc aA aA) ?_
   refine qZ (M':= .blk b5 (recs eW (yM (es++[e]) n)) 40:: .blk b4 (eW zW) 40::M0) (I':=bW (es++[e]) 100000::aI r.p (recs eR r.es)::I0) aG aF ?_
   refine iC (n - (i+1)) (⟨i+1,es++[e],by rw [List.length_append,hie];rfl,by omega,rfl,hnx _ he,rfl,rfl,rfl⟩)
  | @div ja jb a b hja hjb h0=>
   have k1:t.k.op=5:=by rw [hk]
   have k2:t.k.a=(ja:Int):=by rw [hk]
   have k3:t.k.b=(jb:Int):=by rw [hk]
   obtain ⟨hal,haq⟩:=hget ja a hja
   obtain ⟨hbl,hbq⟩:=hget jb b hjb
   have hwa:=sU (n:=n) (es:=es) (j:=ja) (by omega)
   have hwb:=sU (n:=n) (es:=es) (j:=jb) (by omega)
   refine bD (φ:=cK (gt es (ja:Int)) 100000) (Hv.all (k:=100000) aA ⟨by omega,by omega⟩ (Nat.le_refl _)) ?_
   refine bD (φ:=cK (gt es (jb:Int)) 100000) (Hv.all (k:=100000) aA ⟨by omega,by omega⟩ (Nat.le_refl _)) ?_
   obtain ⟨ea,hea⟩:∃e,gt es (ja:Int)=e:=⟨_,rfl⟩
   obtain ⟨eb,heb⟩:∃e,gt es (jb:Int)=e:=⟨_,rfl⟩
   rw [hea] at haq hwa ⊢
   rw [heb] at hbq hwb ⊢
   subst haq
   subst hbq
   rw [←k2] at hwa
   rw [←k3] at hwb
   repeat refine yXh ?_
   (repeat refine aJ ?_);refine kT 1 (.blk b7 (vH t) 192:: .blk b5 (recs eW (yM es n)) 40::[]) ([]) [0,1,2,3,4,5,6,7,8,9,10,11,12,13,14,15,16,17] [1,1,1,1,1,1,0,1,1,1,1,0,0,0,0,1,0,0] aG aF mixed (by kernel_rfl) ?_
   repeat refine yXh ?_
   rw [hwa,hwb]
   (refine aU rfl (lI (a:=ea) (b:=eb) (k:=100000) (m:=100000) (by decide) h0 (Hv.mem aA) (Hv.mem aA)) ?_;rintro _ _ _ ⟨rfl,e,rfl,he,rfl⟩;refine aL ?_)
   refine fH (φ:=cK e 100000) (Hv.fitR aA (by rw [he];exact hv3)) ?_
   repeat refine yXh ?_
   (refine fM (vs:=eR e) (cs':=recs eW (yM (es++[e]) n)) rfl rfl rfl nU iN (by rw [←hst e];exact StAts.r (e).raw (by omega) rfl) rfl rfl ⟨okF,?_⟩)
   repeat refine aB ?_
   refine fF (φ:=bW (es++[e]) 100000) (Hv.snoc aA aA) ?_
   refine qZ (M':= .blk b5 (recs eW (yM (es++[e]) n)) 40:: .blk b4 (eW zW) 40::M0) (I':=bW (es++[e]) 100000::aI r.p (recs eR r.es)::I0) aG aF ?_
   refine iC (n - (i+1)) (⟨i+1,es++[e],by rw [List.length_append,hie];rfl,by omega,rfl,hnx _ he,rfl,rfl,rfl⟩)
  | @sqr ja a hja=>
   have k1:t.k.op=7:=by rw [hk]
   have k2:t.k.a=(ja:Int):=by rw [hk]
   obtain ⟨hal,haq⟩:=hget ja a hja
   have hwa:=sU (n:=n) (es:=es) (j:=ja) (by omega)
   refine bD (φ:=cK (gt es (ja:Int)) 100000) (Hv.all (k:=100000) aA ⟨by omega,by omega⟩ (Nat.le_refl _)) ?_
   obtain ⟨ea,hea⟩:∃e,gt es (ja:Int)=e:=⟨_,rfl⟩
   rw [hea] at haq hwa ⊢
   subst haq
   rw [←k2] at hwa
   repeat refine yXh ?_
   (repeat refine aJ ?_);refine kT 1 (.blk b7 (vH t) 192:: .blk b5 (recs eW (yM es n)) 40::[]) ([]) [0,1,2,3,4,5,6,7,8,9,10,11,12,13,14] [1,1,1,1,1,1,0,1,1,1,1,0,0,0,0] aG aF mixed (by kernel_rfl) ?_
   repeat refine yXh ?_
   rw [hwa]
   refine iG rfl (iV (a:=ea) (b:=ea) (k:=100000) (m:=100000) (by decide) (Hv.mem aA) (Hv.mem aA)) (fun e he=>?_)
   refine fH (φ:=cK e 100000) (Hv.fitR aA (by rw [he];exact hv3)) ?_
   repeat refine yXh ?_
   (refine fM (vs:=eR e) (cs':=recs eW (yM (es++[e]) n)) rfl rfl rfl nU iN (by rw [←hst e];exact StAts.r (e).raw (by omega) rfl) rfl rfl ⟨okF,?_⟩)
   repeat refine aB ?_
   refine fF (φ:=bW (es++[e]) 100000) (Hv.snoc aA aA) ?_
   refine qZ (M':= .blk b5 (recs eW (yM (es++[e]) n)) 40:: .blk b4 (eW zW) 40::M0) (I':=bW (es++[e]) 100000::aI r.p (recs eR r.es)::I0) aG aF ?_
   refine iC (n - (i+1)) (⟨i+1,es++[e],by rw [List.length_append,hie];rfl,by omega,rfl,hnx _ he,rfl,rfl,rfl⟩)
 ·obtain rfl:i=n:=by omega
  have hgn:=hget (i - 1) q (by rw [List.getElem?_take,if_pos (by omega)];exact hlast)
  have hwn:=sU (n:=i) (es:=es) (j:=i - 1) (by omega)
  rw [show (((i - 1:Nat)):Int)=(i:Int) - 1 by omega] at hgn hwn
  refine bD (φ:=cK (gt es ((i:Int) - 1)) 100000) (Hv.all (k:=100000) aA ⟨by omega,by omega⟩ (Nat.le_refl _)) ?_
  obtain ⟨e,he⟩:∃e,gt es ((i:Int) - 1)=e:=⟨_,rfl⟩
  rw [he] at hgn hwn ⊢
  repeat refine yXh ?_
  rw [hwn]
  (refine fM (vs:=eR e) (cs:=eW zW) (cs':=eR e) rfl rfl rfl nU iN (.all rfl) rfl rfl ⟨okF,?_⟩)
  repeat refine aB ?_
  refine bA (cs:=eR e) (.inl rfl) rfl rfl aA rfl M0 (cK e 100000::I0) aG aF ⟨rfl,e,rfl,hgn.2,rfl⟩
end
end Go.Proofs.YtgpkjcmipiodcaaGreat
namespace Go.Proofs.YtgpkjcmipiodcaaGreat
open Go Go.Fx
structure WL where
 p:Option Addr
 c:Nat
 es:List RW
instance:Inhabited WL:=⟨⟨none,0,[]⟩⟩
abbrev eWL (r:WL):List Value:=[.slice r.p r.es.length r.c]
abbrev lvW (r:WL):Value:= .slice r.p r.es.length r.c
instance:Sized eWL 1:=⟨fun _=>rfl⟩
instance:Ones eWL:=⟨fun m u hu=>by simp only [eWL,List.mem_cons,List.not_mem_nil,or_false] at hu;subst hu;rfl⟩
structure IsWL (r:WL) (X:List Nat) (w:World):Prop where
 sl:Sl X w r.p (recs eW r.es)
 el:∀e∈r.es,IsW e X w
 cap:Cap r.p r.es.length r.c
abbrev aPS (r:WL):aV:=IsWL r
instance (r:WL):Fx.Good (IsWL r):=⟨fun X Y w w' h he hY=>⟨Sl.carry h.sl he hY,fun e hm=>Fx.Good.go (φ:=IsW _) X Y w w' (h.el e hm) he hY,h.cap⟩⟩
structure WM where
 p:Option Addr
 c:Nat
 rows:List WL
instance:Inhabited WM:=⟨⟨none,0,[]⟩⟩
abbrev eWM (m:WM):List Value:=[.slice m.p m.rows.length m.c]
abbrev mvW (m:WM):Value:= .slice m.p m.rows.length m.c
instance:Sized eWM 1:=⟨fun _=>rfl⟩
instance:Ones eWM:=⟨fun m u hu=>by simp only [eWM,List.mem_cons,List.not_mem_nil,or_false] at hu;subst hu;rfl⟩
structure IsWM (m:WM) (X:List Nat) (w:World):Prop where
 sl:Sl X w m.p (recs eWL m.rows)
 row:∀r∈m.rows,IsWL r X w
 cap:Cap m.p m.rows.length m.c
abbrev vJ (m:WM):aV:=IsWM m
instance (m:WM):Fx.Good (IsWM m):=⟨fun X Y w w' h he hY=>⟨Sl.carry h.sl he hY,fun e hm=>Fx.Good.go (φ:=IsWL _) X Y w w' (h.row e hm) he hY,h.cap⟩⟩
structure AllWM (ms:List WM) (X:List Nat) (w:World):Prop where
 go:∀m∈ms,IsWM m X w
abbrev aIX (ms:List WM):aV:=AllWM ms
instance (ms:List WM):Fx.Good (AllWM ms):=⟨fun X Y w w' h he hY=>⟨fun m hm=>Fx.Good.go (φ:=IsWM _) X Y w w' (h.go m hm) he hY⟩⟩
theorem Hv.wlsl {I:List aV} {r:WL} (h:aPS r∈I):Hv I (aI r.p (recs eW r.es)):=⟨fun X w hw=>⟨(hw _ h:IsWL r X w).sl⟩⟩
theorem Hv.wlel {I:List aV} {r:WL} {j:Int} (h:aPS r∈I) (hj:0≤j∧j < r.es.length):Hv I (isW (gt r.es j)):=⟨fun X w hw=>(hw _ h:IsWL r X w).el _ (bJ hj)⟩
theorem Hv.wmsl {I:List aV} {m:WM} (h:vJ m∈I):Hv I (aI m.p (recs eWL m.rows)):=⟨fun X w hw=>⟨(hw _ h:IsWM m X w).sl⟩⟩
theorem Hv.wmrow {I:List aV} {m:WM} {i:Int} (h:vJ m∈I) (hi:0≤i∧i < m.rows.length):Hv I (aPS (gt m.rows i)):=⟨fun X w hw=>(hw _ h:IsWM m X w).row _ (bJ hi)⟩
theorem Hv.wmAt {I:List aV} {ms:List WM} {i:Int} (h:aIX ms∈I) (hi:0≤i∧i < ms.length):Hv I (vJ (gt ms i)):=⟨fun X w hw=>(hw _ h:AllWM ms X w).go _ (bJ hi)⟩
theorem Hv.wm2 {I:List aV} {a b:WM} (h1:vJ a∈I) (h2:vJ b∈I):Hv I (aIX [a,b]):=⟨fun X w hw=>⟨fun p hp=>by
 simp only [List.mem_cons,List.not_mem_nil,or_false] at hp
 rcases hp with rfl|rfl
 ·exact hw _ h1
 ·exact hw _ h2⟩⟩
/- short numbers, canonical ones, matrices -/
def RW.brief (r:RW):Prop:=r.g1.length≤1∧r.g2.length≤1∧(r.g1.length=0∨gt r.g1 0 < 100000)∧(r.g2.length=0∨gt r.g2 0≤100)
instance (r:RW):Decidable r.brief:=by unfold RW.brief;exact inferInstance
def RW.sml (r:RW):Prop:=r.g1.length≤1000000000∧r.g2.length≤1000000000
def WL.sht (r:WL):Prop:=r.es.length≤6∧∀e∈r.es,e.brief
instance (r:WL):Decidable r.sht:=by unfold WL.sht;exact inferInstance
def WL.sml (r:WL):Prop:=r.es.length≤1000000000∧∀e∈r.es,e.sml
def WL.good (r:WL):Prop:=∀e∈r.es,e.good
instance (r:WL):Decidable r.good:=by unfold WL.good;exact inferInstance
def WM.sht (m:WM):Prop:=m.rows.length≤6∧∀r∈m.rows,r.sht
instance (m:WM):Decidable m.sht:=by unfold WM.sht;exact inferInstance
def WM.sml (m:WM):Prop:=m.rows.length≤1000000000∧∀r∈m.rows,r.sml
def WM.ok (m:WM):Prop:=(1≤m.rows.length∧m.rows.length≤64∧1≤(gt m.rows 0).es.length∧(gt m.rows 0).es.length≤64)∧∀r∈m.rows,r.es.length=(gt m.rows 0).es.length∧r.good
instance (m:WM):Decidable m.ok:=by unfold WM.ok;exact inferInstance
/- of canonical numbers -/
def RL.raw (r:RL):WL:=⟨r.p,r.c,r.es.map RE.raw⟩
def MX.raw (m:MX):WM:=⟨m.p,m.c,m.rows.map RL.raw⟩
theorem aKP (es:List RE):recs eW (es.map RE.raw)=recs eR es:=by
 induction es with
 |nil=>rfl
 |cons x r ih=>
  have h1:recs eW ((x::r).map RE.raw)=eW x.raw++recs eW (r.map RE.raw):=rfl
  have h2:recs eR (x::r)=eR x++recs eR r:=rfl
  rw [h1,h2,ih];rfl
theorem aPF (rows:List RL):recs eWL (rows.map RL.raw)=recs eL rows:=by
 induction rows with
 |nil=>rfl
 |cons x r ih=>
  have h1:recs eWL ((x::r).map RL.raw)=eWL x.raw++recs eWL (r.map RL.raw):=rfl
  have h2:recs eL (x::r)=eL x++recs eL r:=rfl
  rw [h1,h2,ih]
  show [Value.slice x.p (x.es.map RE.raw).length x.c]++_=[Value.slice x.p x.es.length x.c]++_
  rw [List.length_map]
theorem aCU (m:MX):mvW m.raw=mv m:=by show Value.slice m.p (m.rows.map RL.raw).length m.c=_;rw [List.length_map]
theorem RL.raw_good (r:RL):r.raw.good:=fun e he=>by
 obtain ⟨x,_,rfl⟩:=List.mem_map.1 he
 exact x.raw_good
theorem IsL.raw {r:RL} {k:Nat} {X:List Nat} {w:World} (hk:k≤1000000000000) (h:IsL r k X w):IsWL r.raw X w:=
 ⟨by show Sl X w r.p (recs eW (r.es.map RE.raw));rw [aKP];exact h.sl,fun e he=>by obtain ⟨x,hx,rfl⟩:=List.mem_map.1 he;exact RE.fit hk (h.el x hx),by show Cap r.p (r.es.map RE.raw).length r.c;rw [List.length_map];exact h.cap⟩
theorem IsX.raw {m:MX} {k:Nat} {X:List Nat} {w:World} (hk:k≤1000000000000) (h:IsX m k X w):IsWM m.raw X w:=
 ⟨by show Sl X w m.p (recs eWL (m.rows.map RL.raw));rw [aPF];exact h.sl,fun e he=>by obtain ⟨x,hx,rfl⟩:=List.mem_map.1 he;exact IsL.raw hk (h.row x hx),by show Cap m.p (m.rows.map RL.raw).length m.c;rw [List.length_map];exact h.cap⟩
theorem IsR.sml {e:RE} {k:Nat} {X:List Nat} {w:World} (hk:k≤20000000000) (h:IsR e k X w):e.raw.sml:=by
 have a:=dX (IsI.le h.num)
 have b:=dX (IsI.le h.den)
 constructor
 ·show (gr e.q.num.natAbs).length≤_;omega
 ·show (gr (e.q.den:Int).natAbs).length≤_;omega
theorem Hv.xraw {I:List aV} {m:MX} {k:Nat} (h:pW m k∈I) (hk:k≤20000000000):Hv I (vJ m.raw):=⟨fun X w hw=>IsX.raw (by omega) (hw _ h)⟩
theorem qW {α β:Type} [Inhabited α] [Inhabited β] {l:List α} {f:α→β} {i:Int} (h:0≤i∧i < l.length):gt (l.map f) i=f (gt l i):=by
 obtain ⟨n,rfl⟩:∃n:Nat,i=n:=⟨i.toNat,by omega⟩
 rw [iH (by simpa using h.2),iH (by omega)]
 simp
theorem bBG {m:MX} {R C:Nat} (h:m.dim R C) (hR:1≤R∧R≤64) (hC:1≤C∧C≤64):m.raw.ok:=by
 have e:m.raw.rows=m.rows.map RL.raw:=rfl
 have h0:=h.1
 have hl:∀r∈m.rows,r.raw.es.length=C:=fun r hr=>by rw [show r.raw.es=r.es.map RE.raw from rfl,List.length_map];exact h.2 r hr
 unfold WM.ok
 rw [e,List.length_map,qW (by omega),hl _ (bJ (by omega))]
 refine ⟨by omega,fun r hr=>?_⟩
 obtain ⟨s,hs,rfl⟩:=List.mem_map.1 hr
 exact ⟨hl s hs,s.raw_good⟩
end Go.Proofs.YtgpkjcmipiodcaaGreat
namespace Go.Proofs.YtgpkjcmipiodcaaGreat
open Go Go.Fx
/- ---------- IndexFunc, ContainsFunc of []fiducial/api.Rat ---------- -/
section
variable {X:List Nat} {w0:World} {M0:List Ent} {I0:List aV}
theorem aRU {q:Option Addr} {a:List RW} {c:Nat} {g:FuncId} [FnOk Tryz.prog g] {fs cs:Array Value} (pr:RW→Prop) [DecidablePred pr] (hn:(a.length:Int)≤9223372036854775807) (ha:aI q (recs eW a)∈I0)
  (hg:∀i:Nat,i < a.length→CD Tryz.prog g (fs.toList++[wv (gt a i)]++cs.toList) X w0 M0 I0 (fun v M I=>M0=M∧I0=I∧v= .bool (B (pr (gt a i))))):
  CD Tryz.prog 136 [.slice q a.length c, .func (.func g) fs cs] X w0 M0 I0 (fun v M I=>M0=M∧I0=I∧∃r:Int,v= .int .i64 r∧((∃i:Nat,i < a.length∧r=i∧pr (gt a i)∧∀j:Nat,j < i→¬pr (gt a j))∨(r= -1∧∀j:Nat,j < a.length→¬pr (gt a j)))):=by
 refine aP Tryz.func136 rfl Tryz.ntmps136 rfl ?_
 repeat refine aB ?_
 refine kS [0,1,7] rfl (fun k G M I=>∃i:Nat,i≤a.length∧k=a.length - i∧(∀j:Nat,j < i→¬pr (gt a j))∧G=[(8, .int .i64 i)]∧M=M0∧I=I0) (a.length) (⟨0,by omega,rfl,fun j hj=>by omega,rfl,rfl,rfl⟩) ?_
 rintro k G M I ⟨i,hi,rfl,hs,rfl,rfl,rfl⟩
 repeat' (first|refine aB ?_|refine aQ rfl (fun h=>?_) (fun h=>?_)|refine aR rfl rfl (fun h=>?_) (fun h=>?_)|fail)
 ·have hlt:i < a.length:=by omega
  (refine bI rfl rfl (hg i hlt) rfl rfl rfl ?_;rintro _ _ _ ⟨rfl,rfl,rfl⟩;refine aL ?_)
  repeat' (first|refine aB ?_|refine aQ rfl (fun h=>?_) (fun h=>?_)|refine aR rfl rfl (fun h=>?_) (fun h=>?_)|fail)
  ·refine aH (by first|exact .inl rfl|exact .inr rfl) rfl rfl _ _ aG aF (⟨rfl,rfl,_,rfl, .inl ⟨i,hlt,rfl,by assumption,hs⟩⟩)
  ·refine iC (a.length - (i+1)) (⟨i+1,by omega,rfl,fun j hj=>?_,rfl,rfl,rfl⟩)
   by_cases e:j=i
   ·subst e;assumption
   ·exact hs j (by omega)
 ·refine aH (by first|exact .inl rfl|exact .inr rfl) rfl rfl _ _ aG aF (⟨rfl,rfl,_,rfl, .inr ⟨rfl,fun j hj=>hs j (by omega)⟩⟩)
theorem aSK {q:Option Addr} {a:List RW} {c:Nat} {g:FuncId} [FnOk Tryz.prog g] {fs cs:Array Value} (pr:RW→Prop) [DecidablePred pr] (hn:(a.length:Int)≤9223372036854775807) (ha:aI q (recs eW a)∈I0)
  (hg:∀i:Nat,i < a.length→CD Tryz.prog g (fs.toList++[wv (gt a i)]++cs.toList) X w0 M0 I0 (fun v M I=>M0=M∧I0=I∧v= .bool (B (pr (gt a i))))):
  CD Tryz.prog 80 [.slice q a.length c, .func (.func g) fs cs] X w0 M0 I0 (fun v M I=>M0=M∧I0=I∧v= .bool (B (∃x∈a,pr x))):=by
 refine aP Tryz.func80 rfl Tryz.ntmps80 rfl ?_
 repeat refine aB ?_
 (refine aU rfl (aRU pr hn ha hg) ?_;rintro _ _ _ ⟨rfl,rfl,r,rfl,h⟩;refine aL ?_)
 repeat refine aB ?_
 refine gD rfl rfl (⟨rfl,rfl,congrArg Value.bool (gU ?_)⟩)
 rcases h with ⟨i,hi,rfl,hp,_⟩|⟨rfl,h⟩
 ·exact ⟨fun _=>⟨gt a i,by rw [eU hi];exact List.getElem_mem hi,hp⟩,fun _=>by omega⟩
 ·refine ⟨fun h=>by omega,?_⟩
  rintro ⟨x,hx,hp⟩
  obtain ⟨j,hj,rfl⟩:=List.mem_iff_getElem.1 hx
  exact absurd (by rw [eU hj];exact hp) (h j hj)
end
/- ---------- IndexFunc, ContainsFunc of fiducial/api.Matrix ---------- -/
section
variable {X:List Nat} {w0:World} {M0:List Ent} {I0:List aV}
theorem aUI {q:Option Addr} {a:List WL} {c:Nat} {g:FuncId} [FnOk Tryz.prog g] {fs cs:Array Value} (pr:WL→Prop) [DecidablePred pr] (hn:(a.length:Int)≤9223372036854775807) (ha:aI q (recs eWL a)∈I0)
  (hg:∀i:Nat,i < a.length→CD Tryz.prog g (fs.toList++[lvW (gt a i)]++cs.toList) X w0 M0 I0 (fun v M I=>M0=M∧I0=I∧v= .bool (B (pr (gt a i))))):
  CD Tryz.prog 197 [.slice q a.length c, .func (.func g) fs cs] X w0 M0 I0 (fun v M I=>M0=M∧I0=I∧∃r:Int,v= .int .i64 r∧((∃i:Nat,i < a.length∧r=i∧pr (gt a i)∧∀j:Nat,j < i→¬pr (gt a j))∨(r= -1∧∀j:Nat,j < a.length→¬pr (gt a j)))):=by
 refine aP Tryz.func197 rfl Tryz.ntmps197 rfl ?_
 repeat refine aB ?_
 refine kS [0,1,7] rfl (fun k G M I=>∃i:Nat,i≤a.length∧k=a.length - i∧(∀j:Nat,j < i→¬pr (gt a j))∧G=[(8, .int .i64 i)]∧M=M0∧I=I0) (a.length) (⟨0,by omega,rfl,fun j hj=>by omega,rfl,rfl,rfl⟩) ?_
 rintro k G M I ⟨i,hi,rfl,hs,rfl,rfl,rfl⟩
 repeat' (first|refine aB ?_|refine aQ rfl (fun h=>?_) (fun h=>?_)|refine aR rfl rfl (fun h=>?_) (fun h=>?_)|fail)
 ·have hlt:i < a.length:=by omega
  (refine bI rfl rfl (hg i hlt) rfl rfl rfl ?_;rintro _ _ _ ⟨rfl,rfl,rfl⟩;refine aL ?_)
  repeat' (first|refine aB ?_|refine aQ rfl (fun h=>?_) (fun h=>?_)|refine aR rfl rfl (fun h=>?_) (fun h=>?_)|fail)
  ·refine aH (by first|exact .inl rfl|exact .inr rfl) rfl rfl _ _ aG aF (⟨rfl,rfl,_,rfl, .inl ⟨i,hlt,rfl,by assumption,hs⟩⟩)
  ·refine iC (a.length - (i+1)) (⟨i+1,by omega,rfl,fun j hj=>?_,rfl,rfl,rfl⟩)
   by_cases e:j=i
   ·subst e;assumption
   ·exact hs j (by omega)
 ·refine aH (by first|exact .inl rfl|exact .inr rfl) rfl rfl _ _ aG aF (⟨rfl,rfl,_,rfl, .inr ⟨rfl,fun j hj=>hs j (by omega)⟩⟩)
theorem aJU {q:Option Addr} {a:List WL} {c:Nat} {g:FuncId} [FnOk Tryz.prog g] {fs cs:Array Value} (pr:WL→Prop) [DecidablePred pr] (hn:(a.length:Int)≤9223372036854775807) (ha:aI q (recs eWL a)∈I0)
  (hg:∀i:Nat,i < a.length→CD Tryz.prog g (fs.toList++[lvW (gt a i)]++cs.toList) X w0 M0 I0 (fun v M I=>M0=M∧I0=I∧v= .bool (B (pr (gt a i))))):
  CD Tryz.prog 156 [.slice q a.length c, .func (.func g) fs cs] X w0 M0 I0 (fun v M I=>M0=M∧I0=I∧v= .bool (B (∃x∈a,pr x))):=by
 refine aP Tryz.func156 rfl Tryz.ntmps156 rfl ?_
 repeat refine aB ?_
 (refine aU rfl (aUI pr hn ha hg) ?_;rintro _ _ _ ⟨rfl,rfl,r,rfl,h⟩;refine aL ?_)
 repeat refine aB ?_
 refine gD rfl rfl (⟨rfl,rfl,congrArg Value.bool (gU ?_)⟩)
 rcases h with ⟨i,hi,rfl,hp,_⟩|⟨rfl,h⟩
 ·exact ⟨fun _=>⟨gt a i,by rw [eU hi];exact List.getElem_mem hi,hp⟩,fun _=>by omega⟩
 ·refine ⟨fun h=>by omega,?_⟩
  rintro ⟨x,hx,hp⟩
  obtain ⟨j,hj,rfl⟩:=List.mem_iff_getElem.1 hx
  exact absurd (by rw [eU hj];exact hp) (h j hj)
end
section
variable {X:List Nat} {w0:World} {M0:List Ent} {I0:List aV}
theorem aEU {r:RW} (hs:r.sml) (hw:Hv I0 (isW r)):CD Tryz.prog 198 [wv r] X w0 M0 I0 (fun v M I=>M0=M∧I0=I∧v= .bool (B (¬r.good))):=by
 refine aZ Tryz.func198 rfl Tryz.ntmps198 rfl ?_
 refine fE ?_
 refine fG rfl (fun b=>?_)
 repeat refine aB ?_
 refine dP rfl (aOR (r:=r) hs hw) ?_
 repeat refine aB ?_
 refine gD rfl rfl (⟨rfl,rfl,rfl⟩)
theorem aER {r:WL} (hs:r.sml) (hw:aPS r∈I0):CD Tryz.prog 158 [lvW r] X w0 M0 I0 (fun v M I=>M0=M∧I0=I∧v= .bool (B r.good)):=by
 refine bO (φ:=aI r.p (recs eW r.es)) (Hv.wlsl hw) ?_
 have hl:=hs.1
 refine aZ Tryz.func158 rfl Tryz.ntmps158 rfl ?_
 repeat refine aB ?_
 refine dP rfl (aSK (g:=198) (fs:=#[]) (cs:=#[]) (fun (x:RW)=>¬x.good) (by omega) (List.Mem.head _) (fun i hi=>aEU (hs.2 _ (bJ (by omega))) (Hv.wlel (List.Mem.tail _ hw) (by omega)))) ?_
 repeat refine aB ?_
 refine gD rfl rfl (⟨rfl,rfl,congrArg Value.bool (gU ?_)⟩)
 exact ⟨fun e x hx=>Decidable.of_not_not (fun hn=>e ⟨x,hx,hn⟩),fun e ⟨x,hx,hn⟩=>hn (e x hx)⟩
end
end Go.Proofs.YtgpkjcmipiodcaaGreat
namespace Go.Proofs.YtgpkjcmipiodcaaGreat
open Go Go.Fx
def WM.code (m:WM):Int:=if m.ok then 0 else 1
def aVK (ms:List WM):Int:=if ∀m∈ms,m.ok then 0 else 1
def bothC (a b:WM):Int:=if a.ok∧b.ok then (if a.rows.length=b.rows.length∧(gt a.rows 0).es.length=(gt b.rows 0).es.length then 0 else 4) else 1
def sqC (a:WM):Int:=if a.ok then (if a.rows.length=(gt a.rows 0).es.length then 0 else 4) else 1
section
variable {P:Program} {n:Nat} {Q:Exit→Act→World→Prop} {G:Env} {X:List Nat} {w0:World} {M M':List Ent} {I I':List aV} {ops l:List Oper} {m:Fx.Mode} {ty:TypeId} {pos:String} {af:Array Edge} {g:Option (Nat × Bool)}
theorem rA {d:Nat} {t:TypeId} {x:Operand} {q:Option Addr} {len c:Nat} (hx:ev G x=some (.slice q len c)) (hg:nX ops G g=some true) (hd:Nat.ble (d+1) n=true)
  (k:∀b,OkD m X w0 (.blk b [.slice q len c] t::M) I∧RD P n ops Q m.nextE l ((d, .pointer (some ⟨b,0,none⟩))::G) X w0 M (aI (some ⟨b,0,none⟩) [.slice q len c]::I)):
  RD P n ops Q m (⟨some d, .box t x,ty,pos,af,g⟩::l) G X w0 M I:=aHW hx hg hd (fun b=>⟨(k b).1,aC .here (k b).2⟩)
end
section
variable {X:List Nat} {w0:World} {M0:List Ent} {I0:List aV}
theorem aGG {m:WM} {b:Nat} {r:WL} (hR:1≤m.rows.length) (hs:r.sml) (h:Hv I0 (aPS r)) (hm:vJ m∈I0) (hb:aI (some ⟨b,0,none⟩) [.slice m.p m.rows.length m.c]∈I0):
  CD Tryz.prog 157 [lvW r, .pointer (some ⟨b,0,none⟩)] X w0 M0 I0 (fun v M I=>M0=M∧I0=I∧v= .bool (B (¬(r.es.length=(gt m.rows 0).es.length∧r.good)))):=by
 refine bO (φ:=aPS r) h ?_
 refine bO (φ:=aI m.p (recs eWL m.rows)) (Hv.wmsl (List.Mem.tail _ hm)) ?_
 by_cases he:r.es.length=(gt m.rows 0).es.length
 ·have hq:B (¬r.good)=B (¬(r.es.length=(gt m.rows 0).es.length∧r.good)):=gU (not_congr ⟨fun h=>⟨he,h⟩,fun h=>h.2⟩)
  refine aP Tryz.func157 rfl Tryz.ntmps157 rfl ?_
  repeat refine aB ?_
  refine dP rfl (aER (r:=r) hs aA) ?_
  repeat refine aB ?_
  refine gD rfl rfl (⟨rfl,rfl,congrArg Value.bool hq⟩)
 ·have hn:¬(r.es.length=(gt m.rows 0).es.length∧r.good):=fun e=>he e.1
  have hq:B (¬(r.es.length=(gt m.rows 0).es.length∧r.good))=true:=cB hn
  refine aP Tryz.func157 rfl Tryz.ntmps157 rfl ?_
  repeat refine aB ?_
  refine gD rfl rfl (⟨rfl,rfl,congrArg Value.bool hq.symm⟩)
theorem WM.code_ok {m:WM} (h:m.ok):m.code=0:=if_pos h
theorem WM.code_no {m:WM} (h:¬m.ok):m.code=1:=if_neg h
theorem aCV {m:WM} (hs:m.sml) (hm:vJ m∈I0):CD Tryz.prog 106 [mvW m] X w0 M0 I0 (fun v M I=>M0=M∧I0=I∧v= .int .i64 m.code):=by
 refine bO (φ:=aI m.p (recs eWL m.rows)) (Hv.wmsl hm) ?_
 have hl:=hs.1
 by_cases hsh:1≤m.rows.length∧m.rows.length≤64∧1≤(gt m.rows 0).es.length∧(gt m.rows 0).es.length≤64
 ·obtain ⟨s1,s2,s3,s4⟩:=hsh
  by_cases hall:∃r∈m.rows,¬(r.es.length=(gt m.rows 0).es.length∧r.good)
  ·have hno:¬m.ok:=fun e=>by obtain ⟨r,hr,hn⟩:=hall;exact hn (e.2 r hr)
   rw [WM.code_no hno]
   refine aZ Tryz.func106 rfl Tryz.ntmps106 rfl ?_
   refine fE ?_
   (refine rA rfl rfl rfl ?_;intro b;refine aL ?_)
   repeat refine aB ?_
   refine dP rfl (aJU (g:=157) (fs:=#[]) (cs:=#[.pointer (some ⟨b,0,none⟩)]) (fun (r:WL)=>¬(r.es.length=(gt m.rows 0).es.length∧r.good)) (by omega) aA (fun i hi=>aGG (m:=m) (b:=b) s1 (hs.2 _ (bJ (by omega))) (Hv.wmrow aA (by omega)) aA aA)) ?_
   rw [cB hall]
   repeat refine aB ?_
   refine gD rfl rfl (⟨rfl,rfl,rfl⟩)
  ·have hok:m.ok:=⟨⟨s1,s2,s3,s4⟩,fun r hr=>Decidable.of_not_not (fun hn=>hall ⟨r,hr,hn⟩)⟩
   rw [WM.code_ok hok]
   refine aZ Tryz.func106 rfl Tryz.ntmps106 rfl ?_
   refine fE ?_
   (refine rA rfl rfl rfl ?_;intro b;refine aL ?_)
   repeat refine aB ?_
   refine dP rfl (aJU (g:=157) (fs:=#[]) (cs:=#[.pointer (some ⟨b,0,none⟩)]) (fun (r:WL)=>¬(r.es.length=(gt m.rows 0).es.length∧r.good)) (by omega) aA (fun i hi=>aGG (m:=m) (b:=b) s1 (hs.2 _ (bJ (by omega))) (Hv.wmrow aA (by omega)) aA aA)) ?_
   rw [bF hall]
   repeat refine aB ?_
   refine gD rfl rfl (⟨rfl,rfl,rfl⟩)
 ·have hno:¬m.ok:=fun e=>hsh e.1
  rw [WM.code_no hno]
  refine aZ Tryz.func106 rfl Tryz.ntmps106 rfl ?_
  refine fE ?_
  (refine rA rfl rfl rfl ?_;intro b;refine aL ?_)
  by_cases c1:1≤m.rows.length
  ·by_cases c2:m.rows.length≤64
   ·by_cases c3:1≤(gt m.rows 0).es.length
    ·repeat refine aB ?_
     refine gD rfl rfl (⟨rfl,rfl,rfl⟩)
    ·repeat refine aB ?_
     refine gD rfl rfl (⟨rfl,rfl,rfl⟩)
   ·repeat refine aB ?_
    refine gD rfl rfl (⟨rfl,rfl,rfl⟩)
  ·repeat refine aB ?_
   refine gD rfl rfl (⟨rfl,rfl,rfl⟩)
theorem aIP {ms:List WM} (h:∀m∈ms,m.ok):aVK ms=0:=if_pos h
theorem aTJ {ms:List WM} (h:¬∀m∈ms,m.ok):aVK ms=1:=if_neg h
theorem aTQ {q:Option Addr} {c:Nat} {ms:List WM} (hl:ms.length≤1000) (hs:∀m∈ms,m.sml) (hq:aI q (recs eWM ms)∈I0) (hw:aIX ms∈I0):CD Tryz.prog 102 [.slice q ms.length c] X w0 M0 I0 (fun v M I=>M0=M∧I0=I∧v= .int .i64 (aVK ms)):=by
 refine aZ Tryz.func102 rfl Tryz.ntmps102 rfl ?_
 repeat refine aB ?_
 refine kS [6,7] rfl (fun k G M I=>∃i:Nat,i≤ms.length∧k=ms.length - i∧(∀j:Nat,j < i→(gt ms j).ok)∧G=[(8, .int .i64 i)]∧M0=M∧I0=I) (ms.length) (⟨0,by omega,rfl,fun j hj=>by omega,rfl,rfl,rfl⟩) ?_
 rintro k G M I ⟨i,hi,rfl,hg,rfl,rfl,rfl⟩
 by_cases hi2:i < ms.length
 ·have hC:=fun M0 I0 h=>aCV (X:=X) (w0:=w0) (M0:=M0) (I0:=I0) (m:=gt ms (i:Int)) (hs _ (bJ (by omega))) h
  refine bD (φ:=vJ (gt ms (i:Int))) (Hv.wmAt hw (by omega)) ?_
  by_cases hok:(gt ms (i:Int)).ok
  ·rw [WM.code_ok hok] at hC
   repeat refine aB ?_
   refine dP rfl (hC _ _ aA) ?_
   repeat refine aB ?_
   refine iC (ms.length - (i+1)) (⟨i+1,by omega,rfl,fun j hj=>?_,rfl,rfl,rfl⟩)
   by_cases e:j=i
   ·subst e;exact hok
   ·exact hg j (by omega)
  ·rw [WM.code_no hok] at hC
   repeat refine aB ?_
   refine dP rfl (hC _ _ aA) ?_
   repeat refine aB ?_
   refine gD rfl rfl (⟨rfl,rfl,congrArg (Value.int .i64) (aTJ (fun e=>hok (e _ (bJ (by omega))))).symm⟩)
 ·repeat refine aB ?_
  refine gD rfl rfl (⟨rfl,rfl,congrArg (Value.int .i64) (aIP (fun m hm=>?_)).symm⟩)
  obtain ⟨j,hj,rfl⟩:=List.mem_iff_getElem.1 hm
  have:=hg j (by omega)
  rwa [eU hj] at this
theorem aFV {a:WM} (sa:a.sml) (ha:vJ a∈I0):CD Tryz.prog 96 [mvW a] X w0 M0 I0 (fun v M I=>M0=M∧I0=I∧v= .int .i64 (sqC a)):=by
 have hC:=fun M0 I0 h1=>aCV (X:=X) (w0:=w0) (M0:=M0) (I0:=I0) (m:=a) sa h1
 unfold sqC
 by_cases hok:a.ok
 ·rw [WM.code_ok hok] at hC
  rw [if_pos hok]
  obtain ⟨a1,a2,a3,a4⟩:=hok.1
  refine bO (φ:=aI a.p (recs eWL a.rows)) (Hv.wmsl ha) ?_
  refine aZ Tryz.func96 rfl Tryz.ntmps96 rfl ?_
  repeat refine aB ?_
  refine dP rfl (hC _ _ aA) ?_
  by_cases e1:a.rows.length=(gt a.rows 0).es.length
  ·rw [if_pos e1]
   repeat refine aB ?_
   refine gD rfl rfl (⟨rfl,rfl,rfl⟩)
  ·rw [if_neg e1]
   repeat refine aB ?_
   refine gD rfl rfl (⟨rfl,rfl,rfl⟩)
 ·rw [WM.code_no hok] at hC
  rw [if_neg hok]
  refine aZ Tryz.func96 rfl Tryz.ntmps96 rfl ?_
  repeat refine aB ?_
  refine dP rfl (hC _ _ aA) ?_
  repeat refine aB ?_
  refine gD rfl rfl (⟨rfl,rfl,rfl⟩)
end
end Go.Proofs.YtgpkjcmipiodcaaGreat
namespace Go.Proofs.YtgpkjcmipiodcaaGreat
open Go Go.Fx
structure AllL (rows:List RL) (k:Nat) (X:List Nat) (w:World):Prop where
 go:∀r∈rows,IsL r k X w
abbrev vP (rows:List RL) (k:Nat):aV:=AllL rows k
instance (rows:List RL) (k:Nat):Fx.Good (AllL rows k):=⟨fun X Y w w' h he hY=>⟨fun r hm=>Fx.Good.go (φ:=IsL _ _) X Y w w' (h.go r hm) he hY⟩⟩
theorem Hv.nilL {I:List aV} {k:Nat}:Hv I (vP [] k):=⟨fun X w _=>⟨fun x hx=>by simp at hx⟩⟩
theorem Hv.snocL {I:List aV} {rows:List RL} {r:RL} {k:Nat} (h1:vP rows k∈I) (h2:lK r k∈I):Hv I (vP (rows++[r]) k):=⟨fun X w hw=>⟨fun x hx=>by
 rcases List.mem_append.1 hx with hx|hx
 ·exact (hw _ h1:AllL rows k X w).go x hx
 ·rw [List.mem_singleton.1 hx];exact hw _ h2⟩⟩
section
variable {X:List Nat} {w0:World} {M:List Ent} {I:List aV}
theorem Mem.toL {w:World} {q:Option Addr} {c k:Nat} {es:List RE} {ty:TypeId} {sz:Nat} (h:Mem X w0 (.row q es.length c (recs eR es) ty sz::M) I w) (ha:bW es k∈I):Mem X w0 M (lK ⟨q,c,es⟩ k::I) w:=by
 have ho:=h.rowS List.mem_cons_self
 have hc:=h.rowLe List.mem_cons_self
 have h1:=h.freezeR .here
 refine (h1.add (φ:=lK ⟨q,c,es⟩ k) ⟨(h1.sl (List.Mem.head _)),(((h1.imm _ (List.Mem.tail _ ha)).2:AllR es k _ w)).go,⟨hc,ho.2.imp id And.right⟩⟩).inc (.of fun φ hφ=>?_)
 rcases List.mem_cons.1 hφ with rfl|hφ
 ·exact List.Mem.head _
 ·exact List.Mem.tail _ (List.Mem.tail _ hφ)
theorem Mem.toX {w:World} {q:Option Addr} {c k:Nat} {rows:List RL} {ty:TypeId} {sz:Nat} (h:Mem X w0 (.row q rows.length c (recs eL rows) ty sz::M) I w) (ha:vP rows k∈I):Mem X w0 M (pW ⟨q,c,rows⟩ k::I) w:=by
 have ho:=h.rowS List.mem_cons_self
 have hc:=h.rowLe List.mem_cons_self
 have h1:=h.freezeR .here
 refine (h1.add (φ:=pW ⟨q,c,rows⟩ k) ⟨(h1.sl (List.Mem.head _)),(((h1.imm _ (List.Mem.tail _ ha)).2:AllL rows k _ w)).go,⟨hc,ho.2.imp id And.right⟩⟩).inc (.of fun φ hφ=>?_)
 rcases List.mem_cons.1 hφ with rfl|hφ
 ·exact List.Mem.head _
 ·exact List.Mem.tail _ (List.Mem.tail _ hφ)
variable {P:Program} {n:Nat} {Q:Exit→Act→World→Prop} {G:Env}
theorem aGQ {ops l:List Oper} {m:Fx.Mode} {q:Option Addr} {c k:Nat} {es:List RE} {ty:TypeId} {sz:Nat} (ha:bW es k∈I) (h:RD P n ops Q m l G X w0 M (lK ⟨q,c,es⟩ k::I)):RD P n ops Q m l G X w0 (.row q es.length c (recs eR es) ty sz::M) I:=xU (fun _ hw=>Mem.toL hw ha) h
theorem aTK {ex:Exit} {q:Option Addr} {c k:Nat} {es:List RE} {ty:TypeId} {sz:Nat} (ha:bW es k∈I) (h:ND n Q ex G X w0 M (lK ⟨q,c,es⟩ k::I)):ND n Q ex G X w0 (.row q es.length c (recs eR es) ty sz::M) I:=aBR (fun _ hw=>Mem.toL hw ha) h
theorem aSS {ex:Exit} {q:Option Addr} {c k:Nat} {rows:List RL} {ty:TypeId} {sz:Nat} (ha:vP rows k∈I) (h:ND n Q ex G X w0 M (pW ⟨q,c,rows⟩ k::I)):ND n Q ex G X w0 (.row q rows.length c (recs eL rows) ty sz::M) I:=aBR (fun _ hw=>Mem.toX hw ha) h
theorem aMH {ops l:List Oper} {m:Fx.Mode} {q:Option Addr} {c k:Nat} {rows:List RL} {ty:TypeId} {sz:Nat} (ha:vP rows k∈I) (h:RD P n ops Q m l G X w0 M (pW ⟨q,c,rows⟩ k::I)):RD P n ops Q m l G X w0 (.row q rows.length c (recs eL rows) ty sz::M) I:=xU (fun _ hw=>Mem.toX hw ha) h
end
end Go.Proofs.YtgpkjcmipiodcaaGreat

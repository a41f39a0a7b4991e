/- matrix: Echelon, Rank, Null. -/
import Derived.Test.YthhldplegmeolaaGreatZuas
import Derived.Test.YthhldplegmeolaaGreatZuar
import Derived.Test.YthhldplegmeolaaGreatZuap
import Derived.Test.YthhldplegmeolaaGreatZuae
import Derived.Test.YthhldplegmeolaaGreatZuaf
import Derived.Test.YthhldplegmeolaaGreatZuao
set_option linter.unusedSimpArgs false
set_option linter.unusedVariables false
set_option maxRecDepth 100000
set_option maxHeartbeats 4000000
namespace Go.Proofs.YthhldplegmeolaaGreat
open Go Go.Fx
abbrev pvI (q:Option Addr) (pv:List Nat):aN:=aD q (recs eZ (zs pv))
def EchP (A:Mt) (R C k:Nat) (M0:List Ent) (I0:List aN) (v:Value) (M:List Ent) (I:List aN):Prop:=
 M0=M∧∃(m:MX) (pv:List Nat) (q:Option Addr) (c:Nat),v= .tuple #[mv m, .slice q pv.length c, .int .i64 0]∧nZ A C=(m.q,pv)∧m.dim R C∧I=pvI q pv::gQ m k::I0
def NlP (A:Mt) (C k:Nat) (M0:List Ent) (I0:List aN) (v:Value) (M:List Ent) (I:List aN):Prop:=
 M0=M∧∃m:MX,v= .tuple #[mv m, .int .i64 0]∧m.q=aRE A C∧(∀r∈m.rows,r.es.length=C)∧I=gQ m k::I0
theorem gt_zs {pv:List Nat} {r:Nat} (h:r < pv.length):gt (zs pv) (r:Int)=((pv.getD r 0:Nat):Int):=by
 rw [dM (by simpa using h)]
 rw [oI h]
 simp
theorem aPE {a:MX} {R C:Nat} (h:a.dim R C):vQ a.q R C:=⟨by simp [h.1],fun i hi=>by
 rw [aIQ (by have:=h.1;omega)];simp [h.row hi]⟩
section
variable {X:List Nat} {w0:World} {M:List Ent} {I:List aN}
theorem Mem.blkL {w:World} {b k:Nat} {es:List RE} {ty:TypeId} (h:Mem X w0 (.blk b (recs eR es) ty::M) I w) (ha:aX es k∈I):Mem X w0 M (dL ⟨some ⟨b,0,none⟩,es.length,es⟩ k::I) w:=by
 have h1:=h.freezeB .here
 refine (h1.add (φ:=dL ⟨some ⟨b,0,none⟩,es.length,es⟩ k) ⟨(h1.sl (List.Mem.head _)),(((h1.imm _ (List.Mem.tail _ ha)).2:AllR es k _ w)).go,⟨Nat.le_refl _, .inl (Ok.mk _ _)⟩⟩).inc (.of fun φ hφ=>?_)
 rcases List.mem_cons.1 hφ with rfl|hφ
 ·exact List.Mem.head _
 ·exact List.Mem.tail _ (List.Mem.tail _ hφ)
variable {P:Program} {n:Nat} {Q:Exit→Act→World→Prop} {G:Env}
theorem aPZ {ops l:List Oper} {m:Fx.Mode} {b k:Nat} {es:List RE} {ty:TypeId} (ha:aX es k∈I) (h:RD P n ops Q m l G X w0 M (dL ⟨some ⟨b,0,none⟩,es.length,es⟩ k::I)):RD P n ops Q m l G X w0 (.blk b (recs eR es) ty::M) I:=mO (fun _ hw=>Mem.blkL hw ha) h
theorem aQS {ex:Exit} {b k:Nat} {es:List RE} {ty:TypeId} (ha:aX es k∈I) (h:ND n Q ex G X w0 M (dL ⟨some ⟨b,0,none⟩,es.length,es⟩ k::I)):ND n Q ex G X w0 (.blk b (recs eR es) ty::M) I:=rU (fun _ hw=>Mem.blkL hw ha) h
end
section
variable {X:List Nat} {w0:World} {M0:List Ent} {I0:List aN}
/- reduce, and what it changed is only read from now on -/
theorem aAD {bo R C n k0:Nat} {rows:List MR} {M1:List Ent} (hR:rows.length=R) (hRb:R≤100) (hCb:C≤200) (hC:∀r∈rows,r.es.length=C) (hn:n≤C) (hk:kb k0 n≤50000000000) (hA:allM rows k0∈I0)
  (hM:M0= .blk bo (recs eM rows) 24::(rows.map eQ++M1)):
  CD Tryz.prog 102 [.slice (some ⟨bo,0,none⟩) R R, .int .i64 (n:Int)] X w0 M0 I0 (fun v M I=>M1=M∧∃(x:MX) (pv:List Nat) (q:Option Addr) (c:Nat),v= .slice q pv.length c∧x.p=some ⟨bo,0,none⟩∧x.c=R∧x.dim R C∧nZ (mq rows) n=(x.q,pv)∧pv.length≤R∧I=pvI q pv::gQ x (kb k0 n)::I0):=by
 refine CD.post (aBC hR hRb hCb hC hn hk hA hM) (fun v M I w h hw=>?_)
 obtain ⟨rows2,pv,q,c,rfl,hl,hc,hred,hpv,rfl,rfl⟩:=h
 have h1:Mem X w0 (.blk bo (recs eM rows2) 24::(rows2.map eQ++M1)) (pvI q pv::allM rows2 (kb k0 n)::I0) w:=hw.freezeR .here
 have h2:=aCG (k:=kb k0 n) h1 (List.Mem.tail _ (List.Mem.head _))
 refine ⟨M1,pvI q pv::gQ (MR.x bo rows2) (kb k0 n)::I0,⟨rfl,MR.x bo rows2,pv,q,c,rfl,rfl,hl,⟨?_,fun r hr=>?_⟩,by rw [q_x];exact hred,hpv,rfl⟩,h2.inc (.of fun φ hφ=>?_)⟩
 ·show (rows2.map MR.l).length=R;rw [List.length_map,hl]
 ·obtain ⟨s,hs,rfl⟩:=List.mem_map.1 hr
  exact hc s hs
 ·rcases List.mem_cons.1 hφ with rfl|hφ
  ·exact List.Mem.tail _ (List.Mem.head _)
  ·rcases List.mem_cons.1 hφ with rfl|hφ
   ·exact List.Mem.head _
   ·exact List.Mem.tail _ (List.Mem.tail _ (List.Mem.tail _ hφ))
/- a matrix made is only read from now on -/
theorem yV {a:MX} {R C k0:Nat} (hb:kb k0 C≤20000000000) (da:a.fit R C) (ha:gQ a k0∈I0):CD Tryz.prog 97 [mv a] X w0 M0 I0 (EchP a.q R C (kb k0 C) M0 I0):=by
 have hk0:k0≤20000000000:=Nat.le_trans (yI k0 (Nat.zero_le C)) hb
 obtain ⟨r1,r2⟩:=da.2.1
 obtain ⟨c1,c2⟩:=da.2.2
 have hC:=fun M0 I0 h1=>aJQ (X:=X) (w0:=w0) (M0:=M0) (I0:=I0) (a:=a) (k:=k0) (by omega) da h1
 refine aV Tryz.func97 rfl Tryz.ntmps97 rfl ?_
 repeat refine aC ?_
 refine dC rfl (hC _ _ aA) ?_
 repeat refine aC ?_
 (refine bA rfl (aFW da aA) ?_;rintro _ _ _ ⟨bo,rows0,rfl,hl0,hc0,hq0,rfl,rfl⟩;refine aU ?_)
 have lC:(gt rows0 0).es.length=C:=hc0 _ (cB (by omega))
 have hmq0:mq rows0=a.q:=by rw [da.1.mk];exact hq0
 repeat refine aC ?_
 rw [lC]
 have hRd:=fun I0 h=>aAD (X:=X) (w0:=w0) (M0:= .blk bo (recs eM rows0) 24::(rows0.map eQ++M0)) (I0:=I0) (bo:=bo) (R:=R) (C:=C) (n:=C) (k0:=k0) (rows:=rows0) (M1:=M0) hl0 (by omega) (by omega) hc0 (by omega) (by omega) h rfl
 (refine bA rfl (hRd _ aA) ?_;rintro _ _ _ ⟨rfl,x,pv,q,c,rfl,xp,xc,xd,hred,hpv,rfl⟩;refine aU ?_)
 rw [hmq0] at hred
 repeat refine aC ?_
 refine tyS [2,3,4] rfl rfl (⟨rfl,x,pv,q,c,?_,hred,xd,rfl⟩)
 show _=Value.tuple #[.slice x.p x.rows.length x.c,_,_]
 rw [xd.1,xp,xc]
theorem aPS {a:MX} {R C k0:Nat} (hb:kb k0 C≤20000000000) (da:a.fit R C) (ha:gQ a k0∈I0):CD Tryz.prog 58 [mv a] X w0 M0 I0 (fun v M I=>M0=M∧I0=I∧v= .tuple #[.int .i64 ((rk a.q C:Nat):Int), .int .i64 0]):=by
 have hE:=fun M0 I0 h=>yV (X:=X) (w0:=w0) (M0:=M0) (I0:=I0) (a:=a) (k0:=k0) hb da h
 refine aV Tryz.func58 rfl Tryz.ntmps58 rfl ?_
 repeat refine aC ?_
 (refine bA rfl (hE _ _ aA) ?_;rintro _ _ _ ⟨rfl,m,pv,q,c,rfl,hm,hd,rfl⟩;refine aU ?_)
 repeat refine aC ?_
 refine lH [2,3] (by first|exact .inl rfl|exact .inr rfl) rfl rfl rfl _ _ aK aJ (⟨rfl,rfl,by unfold rk;rw [hm]⟩)
end
def hD (k:Nat):Nat→Nat
 |0=>k
 |n+1=>(n+2)*(k+hD k n+1)
section
variable {X:List Nat} {w0:World} {M0:List Ent} {I0:List aN}
end
end Go.Proofs.YthhldplegmeolaaGreat
namespace Go.Proofs.YthhldplegmeolaaGreat
open Go Go.Fx
structure MS where
 b:Nat
 c:Nat
 es:List RE
 tl:List Value
instance:Inhabited MS:=⟨⟨0,0,[],[]⟩⟩
abbrev eS (r:MS):List Value:=[.slice (some ⟨r.b,0,none⟩) r.es.length r.c]
instance:Sized eS 1:=⟨fun _=>rfl⟩
instance:Ones eS:=⟨fun m u hu=>by simp only [eS,List.mem_cons,List.not_mem_nil,or_false] at hu;subst hu;rfl⟩
abbrev gG (r:MS):Ent:= .blk r.b (recs eR r.es++r.tl) 36
structure AllS (rows:List MS) (k:Nat) (X:List Nat) (w:World):Prop where
 go:∀r∈rows,∀e∈r.es,IsR e k X w
abbrev jY (rows:List MS) (k:Nat):aN:=AllS rows k
instance (rows:List MS) (k:Nat):Fx.Good (AllS rows k):=⟨fun X Y w w' h he hY=>⟨fun r hr e hm=>Fx.Good.go (φ:=IsR _ _) X Y w w' (h.go r hr e hm) he hY⟩⟩
theorem Hv.nilS {I:List aN} {k:Nat}:Hv I (jY [] k):=⟨fun X w _=>⟨fun x hx=>by simp at hx⟩⟩
theorem Hv.snocS {I:List aN} {rows:List MS} {r:MS} {k:Nat} (h1:jY rows k∈I) (h2:Hv I (aX r.es k)):Hv I (jY (rows++[r]) k):=⟨fun X w hw=>⟨fun x hx=>by
 rcases List.mem_append.1 hx with hx|hx
 ·exact (hw _ h1:AllS rows k X w).go x hx
 ·rw [List.mem_singleton.1 hx];exact (h2.go X w hw).go⟩⟩
theorem Hv.monoS {I:List aN} {rows:List MS} {k m:Nat} (h:jY rows k∈I) (hk:k≤m):Hv I (jY rows m):=⟨fun X w hw=>⟨fun r hr e he=>((hw _ h:AllS rows k X w).go r hr e he).mono hk⟩⟩
def Pw (rows:List MS) (R C:Nat) (V:Nat→Nat→Rat):Prop:=∀i j:Nat,i < R→j < C→(gt (gt rows (i:Int)).es (j:Int)).q=V i j
structure Shp (rows:List MS) (R C:Nat):Prop where
 len:rows.length=R
 col:∀r∈rows,r.es.length=C∧C≤r.c
abbrev upR (r:MS) (j:Nat) (e:RE):MS:=⟨r.b,r.c,st r.es (j:Int) e,r.tl⟩
def upS (rows:List MS) (i j:Nat) (e:RE):List MS:=rows.set i ⟨(gt rows (i:Int)).b,(gt rows (i:Int)).c,st (gt rows (i:Int)).es (j:Int) e,(gt rows (i:Int)).tl⟩
theorem aHP {rows:List MS} {i j:Nat} {e:RE}:rows.set i (upR (gt rows (i:Int)) j e)=upS rows i j e:=rfl
theorem Shp.row {rows:List MS} {R C:Nat} (h:Shp rows R C) {i:Nat} (hi:i < R):(gt rows (i:Int)).es.length=C:=(h.col _ (cB (by have:=h.len;omega))).1
theorem Shp.up {rows:List MS} {R C i j:Nat} {e:RE} (h:Shp rows R C) (hi:i < R):Shp (upS rows i j e) R C:=⟨by unfold upS;rw [List.length_set];exact h.len,fun r hr=>by
 rcases List.mem_or_eq_of_mem_set hr with hr|hr
 ·exact h.col r hr
 ·subst hr
  have:=h.col _ (cB (ms:=rows) (i:=(i:Int)) (by have:=h.len;omega))
  exact ⟨by show (st _ _ _).length=C;rw [bP];exact this.1,this.2⟩⟩
theorem aGD {rows:List MS} {R C i j t:Nat} {e:RE} (h:Shp rows R C) (hi:i < R) (ht:t < R):gt (upS rows i j e) (t:Int)=if t=i then ⟨(gt rows (i:Int)).b,(gt rows (i:Int)).c,st (gt rows (i:Int)).es (j:Int) e,(gt rows (i:Int)).tl⟩ else gt rows (t:Int):=by
 have hl:=h.len
 unfold upS
 rw [dM (by rw [List.length_set];omega)]
 by_cases e1:t=i
 ·subst e1;simp
 ·rw [List.getElem_set_ne (fun e=>e1 e.symm),if_neg e1]
  exact (dM (by omega)).symm
theorem Pw.up {rows:List MS} {R C i j:Nat} {e:RE} {V V':Nat→Nat→Rat} (hp:Pw rows R C V) (h:Shp rows R C) (hi:i < R) (hj:j < C) (hV:∀a b,a < R→b < C→V' a b=if a=i∧b=j then e.q else V a b):Pw (upS rows i j e) R C V':=fun a b ha hb=>by
 rw [aGD h hi ha,hV a b ha hb]
 by_cases e1:a=i
 ·subst e1
  rw [if_pos rfl]
  show (gt (st (gt rows (a:Int)).es (j:Int) e) (b:Int)).q=_
  rw [oN (by rw [h.row ha];exact hj)]
  by_cases e2:b=j
  ·rw [if_pos e2,if_pos ⟨rfl,e2⟩]
  ·rw [if_neg e2,if_neg (fun x=>e2 x.2)];exact hp a b ha hb
 ·rw [if_neg e1,if_neg (fun x=>e1 x.1)];exact hp a b ha hb
theorem aFH {rows:List MS} {R C i j:Nat} {e:RE} (h:Shp rows R C) (hi:i < R):recs eS (upS rows i j e)=recs eS rows:=by
 have hl:=h.len
 unfold upS
 rw [←jP (enc:=eS) rows i _ (by omega)]
 have e1:eS ⟨(gt rows (i:Int)).b,(gt rows (i:Int)).c,st (gt rows (i:Int)).es (j:Int) e,(gt rows (i:Int)).tl⟩=eS (gt rows (i:Int)):=by simp [eS,bP]
 rw [e1,jP (enc:=eS) rows i _ (by omega),dM (by omega),List.set_getElem_self]
theorem Hv.upS {I:List aN} {rows:List MS} {R C i j k:Nat} {e:RE} (h:Shp rows R C) (hi:i < R) (h1:jY rows k∈I) (h2:bE e k∈I):Hv I (jY (upS rows i j e) k):=⟨fun X w hw=>⟨fun r hr x hx=>by
 have ha:=(hw _ h1:AllS rows k X w).go
 rcases List.mem_or_eq_of_mem_set hr with hr|hr
 ·exact ha r hr x hx
 ·subst hr
  rcases List.mem_or_eq_of_mem_set hx with hx|hx
  ·exact ha _ (cB (by have:=h.len;omega)) x hx
  ·rw [hx];exact hw _ h2⟩⟩
theorem aRL {M1:List Ent} {r':MS}:∀{rows:List MS} {i:Nat} (h:i < rows.length),Rep (gG rows[i]) (gG r') (rows.map gG++M1) ((rows.set i r').map gG++M1)
 |[],_,h=>by simp at h
 |x::r,0,_=> .here
 |x::r,i+1,h=> .there (aRL (rows:=r) (i:=i) (by simpa using h))
theorem repS {M1:List Ent} {r':MS} {rows:List MS} {i:Nat} (h:i < rows.length) {A:Ent}:Rep (gG (gt rows (i:Int))) (gG r') (A::(rows.map gG++M1)) (A::((rows.set i r').map gG++M1)):=by
 rw [dM h]
 exact .there (aRL h)
theorem aRQ {M1:List Ent} {r':MS} {rows:List MS} {i:Nat} (h:i < rows.length) {A B:Ent}:Rep (gG (gt rows (i:Int))) (gG r') (A::B::(rows.map gG++M1)) (A::B::((rows.set i r').map gG++M1)):= .there (repS h)
def MsP (R C:Nat) (V:Nat→Nat→Rat) (k:Nat) (M0:List Ent) (I0:List aN) (v:Value) (M:List Ent) (I:List aN):Prop:=
 ∃(bo co:Nat) (tlo:List Value) (rows:List MS),v= .slice (some ⟨bo,0,none⟩) R co∧R≤co∧Shp rows R C∧Pw rows R C V∧M= .blk bo (recs eS rows++tlo) 24::(rows.map gG++M0)∧I=jY rows k::I0
def MS.l (r:MS):RL:=⟨some ⟨r.b,0,none⟩,r.c,r.es⟩
def MS.x (bo co:Nat) (rows:List MS):MX:=⟨some ⟨bo,0,none⟩,co,rows.map MS.l⟩
theorem aIX (rows:List MS):recs eL (rows.map MS.l)=recs eS rows:=by
 induction rows with
 |nil=>rfl
 |cons x r ih=>
  have h1:recs eL ((x::r).map MS.l)=eL x.l++recs eL (r.map MS.l):=rfl
  have h2:recs eS (x::r)=eS x++recs eS r:=rfl
  rw [h1,h2,ih];rfl
theorem zH {X:List Nat} {w:World} {a:Option Addr} {cs tl:List Value} (h:Sl X w a (cs++tl)):Sl X w a cs:=by
 have:=h.take cs.length
 rwa [List.take_left'] at this
 rfl
theorem vU {X:List Nat} {w0 w:World} {k:Nat}:∀{rows:List MS} {M:List Ent} {I:List aN},Mem X w0 (rows.map gG++M) I w→(∀r∈rows,r.es.length≤r.c)→(∀r∈rows,AllR r.es k (muts (rows.map gG++M)) w)→∃I',(∀φ∈I,φ∈I')∧(∀r∈rows,dL r.l k∈I')∧Mem X w0 M I' w
 |[],M,I,h,_,_=>⟨I,fun _ h=>h,fun r hr=>by simp at hr,h⟩
 |r::rows,M,I,h,hc,ha=>by
  have h1:Mem X w0 (rows.map gG++M) (aD (some ⟨r.b,0,none⟩) (recs eR r.es++r.tl)::I) w:=h.freezeB .here
  have hsub:∀y∈muts (rows.map gG++M),y∈muts ((r::rows).map gG++M):=fun y hy=>by simp [muts] at hy ⊢;right;exact hy
  have h2:IsL r.l k (muts (rows.map gG++M)) w:=by
   refine ⟨zH (h1.sl (List.Mem.head _)),fun e he=>?_,hc r (List.Mem.head _), .inl (Ok.mk _ _)⟩
   exact Fx.Good.go (φ:=IsR _ _) _ _ w w ((ha r (List.Mem.head _)).go e he) (Ext.refl _ _) (fun y hy=> .inl (hsub y hy))
  obtain ⟨I',i1,i2,i3⟩:=vU (h1.add (φ:=dL r.l k) h2) (fun s hs=>hc s (List.Mem.tail _ hs)) (fun s hs=>⟨fun e he=>Fx.Good.go (φ:=IsR _ _) _ _ w w ((ha s (List.Mem.tail _ hs)).go e he) (Ext.refl _ _) (fun y hy=> .inl (hsub y hy))⟩)
  refine ⟨I',fun φ hφ=>i1 φ (List.Mem.tail _ (List.Mem.tail _ hφ)),fun s hs=>?_,i3⟩
  rcases List.mem_cons.1 hs with rfl|hs
  ·exact i1 _ (List.Mem.head _)
  ·exact i2 s hs
theorem aEX {X:List Nat} {w0 w:World} {k bo co:Nat} {tlo:List Value} {rows:List MS} {M:List Ent} {I:List aN} (h:Mem X w0 (.blk bo (recs eS rows++tlo) 24::(rows.map gG++M)) I w) (hc:∀r∈rows,r.es.length≤r.c) (hco:rows.length≤co) (ha:jY rows k∈I):Mem X w0 M (gQ (MS.x bo co rows) k::I) w:=by
 have h0:Mem X w0 (rows.map gG++M) (aD (some ⟨bo,0,none⟩) (recs eS rows++tlo)::I) w:=h.freezeB .here
 obtain ⟨I',i1,i2,i3⟩:=vU (k:=k) h0 hc (fun r hr=>⟨fun e he=>((h0.imm _ (List.Mem.tail _ ha)).2:AllS rows k _ w).go r hr e he⟩)
 have h3:IsX (MS.x bo co rows) k (muts M) w:=by
  refine ⟨?_,fun r hr=>?_,?_⟩
  ·rw [show (MS.x bo co rows).rows=rows.map MS.l from rfl,aIX];exact zH (i3.sl (i1 _ (List.Mem.head _)))
  ·obtain ⟨s,hs,rfl⟩:=List.mem_map.1 hr
   exact (i3.imm _ (i2 s hs)).2
  ·show Cap (some ⟨bo,0,none⟩) (rows.map MS.l).length co
   rw [List.length_map];exact ⟨hco, .inl (Ok.mk _ _)⟩
 exact (i3.add (φ:=gQ (MS.x bo co rows) k) h3).inc (.of fun φ hφ=>by
  rcases List.mem_cons.1 hφ with rfl|hφ
  ·exact List.Mem.head _
  ·exact List.Mem.tail _ (i1 _ (List.Mem.tail _ hφ)))
theorem q_xs {rows:List MS} {R C bo co:Nat} {V:Nat→Nat→Rat} (h:Shp rows R C) (hp:Pw rows R C V):(MS.x bo co rows).q=xU R C V∧(MS.x bo co rows).dim R C:=by
 have hd:(MS.x bo co rows).dim R C:=⟨by show (rows.map MS.l).length=R;rw [List.length_map];exact h.len,fun r hr=>by
  obtain ⟨s,hs,rfl⟩:=List.mem_map.1 hr
  exact (h.col s hs).1⟩
 refine ⟨?_,hd⟩
 rw [hd.mk]
 refine qH (fun i j hi hj=>?_)
 have hl:=hd.1
 have hg:gt (MS.x bo co rows).rows (i:Int)=(gt rows (i:Int)).l:=wL (by have:=h.len;omega)
 rw [nR (by omega) (by rw [hg];show j < (gt rows (i:Int)).es.length;rw [h.row hi];exact hj),hg]
 exact hp i j hi hj
section
variable {X:List Nat} {w0:World} {M0:List Ent} {I0:List aN}
end
end Go.Proofs.YthhldplegmeolaaGreat
namespace Go.Proofs.YthhldplegmeolaaGreat
open Go Go.Fx
section
variable {X:List Nat} {w0:World} {M0:List Ent} {I0:List aN}
end
end Go.Proofs.YthhldplegmeolaaGreat
namespace Go.Proofs.YthhldplegmeolaaGreat
open Go Go.Fx
theorem Hv.elS {I:List aN} {rows:List MS} {i j:Int} {k m:Nat} (h:jY rows k∈I) (hi:0≤i∧i < rows.length) (hj:0≤j∧j < (gt rows i).es.length) (hk:k≤m):Hv I (bE (gt (gt rows i).es j) m):=
 ⟨fun X w hw=>((hw _ h:AllS rows k X w).go _ (cB hi) _ (cB hj)).mono hk⟩
theorem memS {rows:List MS} {i:Nat} {M1:List Ent} (h:i < rows.length):gG (gt rows (i:Int))∈rows.map gG++M1:=List.mem_append_left _ (List.mem_map.2 ⟨_,cB (by omega),rfl⟩)
theorem repS3 {M1:List Ent} {r':MS} {rows:List MS} {i:Nat} (h:i < rows.length) {A B C:Ent}:Rep (gG (gt rows (i:Int))) (gG r') (A::B::C::(rows.map gG++M1)) (A::B::C::((rows.set i r').map gG++M1)):= .there (aRQ h)
theorem aKX {rows:List MS} {R C i j t:Nat} {e:RE} (h:Shp rows R C) (hi:i < R) (ht:t < R) (hne:t≠i):gt (upS rows i j e) (t:Int)=gt rows (t:Int):=by rw [aGD h hi ht,if_neg hne]
def rEchO (A:Mt) (R C k:Nat) (M0:List Ent) (I0:List aN) (v:Value) (M:List Ent) (I:List aN):Prop:=
 ∃(bo co:Nat) (tlo:List Value) (rows:List MS) (E:Mt) (pv:List Nat) (q:Option Addr) (c:Nat),v= .tuple #[.slice (some ⟨bo,0,none⟩) R co, .slice q pv.length c]∧R≤co∧Shp rows R C∧nZ A C=(E,pv)∧Pw rows R C (at2 E)∧
  M= .row q pv.length c (recs eZ (zs pv)) 3 1:: .blk bo (recs eS rows++tlo) 24::(rows.map gG++M0)∧I=jY rows k::I0
def rEchP (A:Mt) (R C k:Nat) (M0:List Ent) (I0:List aN) (v:Value) (M:List Ent) (I:List aN):Prop:=
 M0=M∧∃(m:MX) (pv:List Nat) (q:Option Addr) (c:Nat),v= .tuple #[mv m, .slice q pv.length c]∧nZ A C=(m.q,pv)∧m.dim R C∧I=pvI q pv::gQ m k::I0
section
variable {X:List Nat} {w0:World} {M0:List Ent} {I0:List aN}
end
end Go.Proofs.YthhldplegmeolaaGreat
namespace Go.Proofs.YthhldplegmeolaaGreat
open Go Go.Fx
def NlR (A:Mt) (C k:Nat) (M0:List Ent) (I0:List aN) (v:Value) (M:List Ent) (I:List aN):Prop:=
 M0=M∧∃m:MX,v=mv m∧m.q=aRE A C∧(∀r∈m.rows,r.es.length=C)∧I=gQ m k::I0
section
variable {X:List Nat} {w0:World} {M:List Ent} {I:List aN}
theorem Mem.blkT {w:World} {b k c:Nat} {es:List RE} {tl:List Value} {ty:TypeId} (hc:es.length≤c) (h:Mem X w0 (.blk b (recs eR es++tl) ty::M) I w) (ha:aX es k∈I):Mem X w0 M (dL ⟨some ⟨b,0,none⟩,c,es⟩ k::I) w:=by
 have h1:=h.freezeB .here
 refine (h1.add (φ:=dL ⟨some ⟨b,0,none⟩,c,es⟩ k) ⟨zH (h1.sl (List.Mem.head _)),(((h1.imm _ (List.Mem.tail _ ha)).2:AllR es k _ w)).go,⟨hc, .inl (Ok.mk _ _)⟩⟩).inc (.of fun φ hφ=>?_)
 rcases List.mem_cons.1 hφ with rfl|hφ
 ·exact List.Mem.head _
 ·exact List.Mem.tail _ (List.Mem.tail _ hφ)
variable {P:Program} {n:Nat} {Q:Exit→Act→World→Prop} {G:Env}
end
section
variable {X:List Nat} {w0:World} {M0:List Ent} {I0:List aN}
end
end Go.Proofs.YthhldplegmeolaaGreat
namespace Go.Proofs.YthhldplegmeolaaGreat
open Go Go.Fx
def bes1 (R C:Nat) (A:Mt) (b:List Rat):Mt:=xU R (C+1) (fun i j=>if j < C then at2 A i j else b.getD i 0)
def besU (R C:Nat) (A:Mt) (b:List Rat):Mt:=xU R (C+1+R) (fun i j=>if j < C then at2 A i j else if j=C then b.getD i 0 else oD i (j - (C+1)))
theorem dimK {R C:Nat} {F:Nat→Nat→Rat}:vQ (xU R C F) R C:=⟨by simp [xU],fun i hi=>by simp [xU,rowAt,List.getD,hi]⟩
def aOP (R C:Nat) (f:Nat→Nat→Rat) (pv:List Nat):Prop:=∀i∈List.range R,pv.length≤i→f i C=0
instance (R C:Nat) (f:Nat→Nat→Rat) (pv:List Nat):Decidable (aOP R C f pv):=by unfold aOP;exact inferInstance
theorem aAB {R C:Nat} {f:Nat→Nat→Rat} {pv:List Nat}:aOP R C f pv↔aOX R C f pv:=⟨fun h i h1 h2=>h i (List.mem_range.2 h2) h1,fun h i h1 h2=>h i h2 (List.mem_range.1 h1)⟩
def zM (R C:Nat) (A:Mt) (b:List Rat):Prop:=aOP R C (at2 (nZ (bes1 R C A b) C).1) (nZ (bes1 R C A b) C).2
instance (R C:Nat) (A:Mt) (b:List Rat):Decidable (zM R C A b):=by unfold zM;exact inferInstance
def aGW (R C:Nat) (A:Mt) (b:List Rat):List Rat:=(List.range C).map (aDW (at2 (nZ (bes1 R C A b) C).1) (nZ (bes1 R C A b) C).2 C)
theorem aOM {R C:Nat} {A:Mt} {b:List Rat} {i j:Nat} (hi:i < R) (hj:j < C):at2 (bes1 R C A b) i j=at2 A i j:=by unfold bes1;rw [sK hi (by omega),if_pos hj]
theorem aMC {R C:Nat} {A:Mt} {b:List Rat} {i:Nat} (hi:i < R):at2 (bes1 R C A b) i C=b.getD i 0:=by unfold bes1;rw [sK hi (by omega),if_neg (by omega)]
theorem aMO {R C:Nat} {A:Mt} {b:List Rat}:zM R C A b↔∃x:Nat→Rat,∀i,i < R→sm C (fun j=>at2 A i j*x j)=b.getD i 0:=by
 obtain ⟨_,s,hr⟩:=oK (A:=bes1 R C A b) (R:=R) (C:=C+1) dimK C (by omega)
 unfold zM
 rw [aAB,hr.sol_iff (by omega)]
 constructor
 ·rintro ⟨x,hx⟩;exact ⟨x,fun i hi=>by rw [←aMC (A:=A) (C:=C) hi,←hx i hi];exact bS (fun j hj=>by rw [aOM hi hj])⟩
 ·rintro ⟨x,hx⟩;exact ⟨x,fun i hi=>by rw [aMC hi,←hx i hi];exact bS (fun j hj=>by rw [aOM hi hj])⟩
/- the wider matrix tells the same -/
theorem aSE {rows:List RL} {R p i:Nat} (hR:rows.length=R) (h:p+i < R):gt ((rows.take R).drop p) (i:Int)=gt rows ((p+i:Nat):Int):=by
 rw [dM (by simp;omega),dM (by omega)]
 simp
section
variable {X:List Nat} {w0:World} {M0:List Ent} {I0:List aN}
theorem aHB {x:RL} {p k i:Nat} {j:Int} (hi:i < x.es.length) (hx:dL x k∈I0) (fx:aD (some ⟨p,0,none⟩) [.slice x.p x.es.length x.c]∈I0):
  CD Tryz.prog 137 [.int .i64 (i:Int), .int .i64 j,pb p] X w0 M0 I0 (RQ (x.q.getD i 0) k M0 I0):=by
 have e0:x.q.getD i 0=(gt x.es (i:Int)).q:=bT hi
 rw [e0]
 refine aL (φ:=aD (x).p (recs eR (x).es)) (Hv.lsl aA) ?_
 refine iC Tryz.func137 rfl Tryz.ntmps137 rfl ?_
 refine fG ?_
 refine dG (fun br=>?_)
 repeat refine aC ?_
 refine bX (φ:=bE (gt x.es (i:Int)) k) (Hv.lel aA (by omega)) ?_
 refine aR (cs:=eR (gt x.es (i:Int))) (.inl rfl) rfl rfl aA rfl M0 (bE (gt x.es (i:Int)) k::I0) aK aJ ⟨rfl,_,rfl,rfl,rfl⟩
theorem aKV {x:RL} {n k:Nat} (hn:n≤100) (hl:x.es.length=n) (hx:dL x k∈I0):CD Tryz.prog 101 [lv x] X w0 M0 I0 (XQ (xU n 1 (fun i _=>x.q.getD i 0)) n 1 k M0 I0):=by
 refine aV Tryz.func101 rfl Tryz.ntmps101 rfl ?_
 refine fG ?_
 (refine nY rfl rfl rfl ?_;intro p1;refine aU ?_)
 repeat refine aC ?_
 have hg:=fun M I (hI:∀φ∈aD (some ⟨p1,0,none⟩) [.slice x.p x.es.length x.c]::I0,φ∈I) (i j:Nat) (hi:i < x.es.length) (hj:j < 1)=>aHB (X:=X) (w0:=w0) (M0:=M) (I0:=I) (x:=x) (p:=p1) (k:=k) (i:=i) (j:=(j:Int)) hi (hI _ aA) (hI _ aA)
 (refine bA rfl (zN (R:=x.es.length) (C:=1) (g:=137) (fs:=#[]) (cs:=#[pb p1]) (k0:=k) (by omega) (by omega) (fun i _=>x.q.getD i 0) hg) ?_;rintro _ _ _ ⟨rfl,y,rfl,hy,hd,rfl⟩;refine aU ?_)
 rw [hl] at hy hd
 repeat refine aC ?_
 refine iZ rfl rfl (⟨rfl,y,rfl,hy,hd,rfl⟩)
theorem aLB {m:WM} {p:Nat} (hb:aD (some ⟨p,0,none⟩) [.slice m.p m.rows.length m.c]∈I0):
  CD Tryz.prog 99 [pb p] X w0 M0 I0 (fun v M I=>M0=M∧I0=I∧v= .int .i64 (m.rows.length:Int)):=by
 refine aV Tryz.func99 rfl Tryz.ntmps99 rfl ?_
 repeat refine aC ?_
 refine iZ rfl rfl (⟨rfl,rfl,rfl⟩)
theorem aNN {a:MX} {b:RL} {R C k0:Nat} (hb:kb k0 C≤20000000000) (hC:C≤60) (da:a.fit R C) (hl:b.es.length=R) (ha:gQ a k0∈I0) (hbb:dL b k0∈I0):
  CD Tryz.prog 59 [mv a,lv b] X w0 M0 I0 (fun v M I=>if zM R C a.q b.q then LQc (aGW R C a.q b.q) (kb k0 C) M0 I0 v M I else (M0=M∧I0=I∧v= .tuple #[.slice none 0 0, .int .i64 6])):=by
 have hk0:k0≤20000000000:=Nat.le_trans (yI k0 (Nat.zero_le C)) hb
 obtain ⟨r1,r2⟩:=da.2.1
 obtain ⟨c1,c2⟩:=da.2.2
 refine gW (fun w hw=>Mem.xsml ha da (by omega) hw) (fun sa=>gW (fun w hw=>Mem.lsml hbb (by omega) (by omega) hw) (fun sx=>?_))
 have hC0:=fun p M0 I0 h1 h2 h3=>aIV (X:=X) (w0:=w0) (M0:=M0) (I0:=I0) (a:=a.raw) (x:=b.raw) (n:=R) (g:=99) (fs:=#[]) (cs:=#[pb p]) sa sx h1 h2 (fun _=>by have:=aLB (X:=X) (w0:=w0) (M0:=M0) (I0:=I0) (m:=a.raw) (p:=p) h3;rw [MX.raw_rows,da.1.1] at this;exact this)
 have e0:aAY a.raw b.raw R=0:=by
  unfold aAY
  rw [if_pos da.ok,if_pos b.raw_good,if_pos (by show (b.es.map RE.raw).length=R;rw [List.length_map];exact hl)]
 rw [e0,aAC,uQ] at hC0
 have lR:=da.1.1
 have lC:=da.r0
 refine aL (φ:=pR a.raw) (Hv.xraw ha (by omega)) ?_
 refine aL (φ:=jN b.raw) (Hv.lraw (List.Mem.tail _ hbb) (by omega)) ?_
 refine aL (φ:=aD (a).p (recs eL (a).rows)) (Hv.xsl aA) ?_
 refine aP Tryz.func59 rfl Tryz.ntmps59 rfl ?_
 refine fG ?_
 (refine nY rfl rfl rfl ?_;intro p1;refine aU ?_)
 repeat refine aC ?_
 refine iA (φ:=aD (some ⟨p1,0,none⟩) [.slice a.raw.p a.raw.rows.length a.raw.c]) (by rw [MX.raw_rows];exact Hv.mem aA) ?_
 refine dC rfl (hC0 p1 _ _ aA aA aA) ?_
 refine RD_w (M':=M0) (I':=aD (some ⟨p1,0,none⟩) [.slice a.p a.rows.length a.c]::aD a.p (recs eL a.rows)::I0) SubP.refl aJ ?_
 repeat refine aC ?_
 rw [lC]
 (repeat refine aF ?_);refine dD [0,1,2,3,4] [1,1,0,0,0] mixed (by kernel_rfl) ?_
 repeat refine aC ?_
 (refine bA rfl (aKV (n:=R) (by omega) hl aA) ?_;rintro _ _ _ ⟨rfl,y,rfl,hy,hyd,rfl⟩;refine aU ?_)
 (refine bA rfl (aBZ da (b:=y) (D:=1) ⟨hyd,⟨r1,r2⟩,by omega,by omega⟩ aA aA) ?_;rintro _ _ _ ⟨bo,rows0,rfl,hl0,hc0,hq0,rfl,rfl⟩;refine ⟨OkD.any (SubP.drop (lI SubP.refl)) aJ,?_⟩)
 repeat refine aC ?_
 have hB:mq rows0=bes1 R C a.q b.q:=by
  unfold bes1
  refine Eq.trans hq0 ?_
  refine qH (R:=R) (C:=C+1) (fun i j hi hj=>?_)
  by_cases e:j < C
  ·rw [if_pos e,if_pos e]
  ·rw [if_neg e,if_neg e,hy,sK hi (by omega)]
 have hRd:=fun I0 h=>aAD (X:=X) (w0:=w0) (M0:= .blk bo (recs eM rows0) 24::(rows0.map eQ++M0)) (I0:=I0) (bo:=bo) (R:=R) (C:=C+1) (n:=C) (k0:=k0) (rows:=rows0) (M1:=M0) hl0 (by omega) (by omega) hc0 (by omega) (by omega) h rfl
 (refine bA rfl (hRd _ aA) ?_;rintro _ _ _ ⟨rfl,m,pv,q,c,rfl,mp,mc,md,hred,hpv,rfl⟩;refine aU ?_)
 rw [hB] at hred
 have hS:zM R C a.q b.q↔aOP R C (at2 m.q) pv:=by unfold zM;rw [hred]
 have hL:aGW R C a.q b.q=(List.range C).map (aDW (at2 m.q) pv C):=by unfold aGW;rw [hred]
 obtain ⟨_,s,hr⟩:=oK (A:=bes1 R C a.q b.q) (R:=R) (C:=C+1) dimK C (by omega)
 rw [hred] at hr
 have hpi:∀r:Nat,r < pv.length→pv.getD r 0 < C:=fun r h=>hr.piv_lt h
 have hidx:∀r:Nat,r < pv.length→pv.idxOf (pv.getD r 0)=r:=fun r h=>hr.idx h
 clear hr hred hB hRd
 have mR:=md.1
 have hz:(zs pv).length=pv.length:=by simp
 generalize hK:kb k0 C=K at*
 refine iA (φ:=aD (some ⟨bo,0,none⟩) (recs eL m.rows)) (by rw [←mp];exact Hv.xsl aA) ?_
 repeat refine aC ?_
 (refine aB rfl (fun _=>jZ (e:=24) (sz:=1) pv.length R (R - pv.length) rfl (.inr ⟨_,_,_,rfl,rfl,rfl⟩) (.inl ⟨rfl,rfl⟩) (by omega) (by omega) rfl) rfl rfl ?_)
 refine aIR R pv.length R (enc:=eL) (ms:=m.rows) aA (by omega) ?_
 have hcl:((m.rows.take R).drop pv.length).length=R - pv.length:=by simp;omega
 generalize hcr:(m.rows.take R).drop pv.length=cr at*
 have hcg:∀i:Nat,pv.length+i < R→gt cr (i:Int)=gt m.rows ((pv.length+i:Nat):Int):=fun i hi=>by rw [←hcr];exact aSE mR hi
 generalize hca:sJ (some ⟨bo,0,none⟩) R pv.length 1=ca at*
 repeat refine aC ?_
 refine pU [7,8,9,37,38] rfl (fun k G M I=>∃i:Nat,i≤R - pv.length∧k=R - pv.length - i∧(∀t:Nat,pv.length≤t→t < pv.length+i→at2 m.q t C=0)∧G=[(39, .int .i64 i)]∧M0=M∧I=aD ca (recs eL cr)::aD (some ⟨bo,0,none⟩) (recs eL m.rows)::pvI q pv::gQ m K::I0) (R - pv.length) (⟨0,by omega,rfl,fun t h1 h2=>by omega,rfl,rfl,rfl⟩) ?_
 rintro kk G M I ⟨i,hi,rfl,hz0,rfl,rfl,rfl⟩
 by_cases hiR:i < R - pv.length
 ·have hg:=hcg i (by omega)
  have hmr:=md.row (i:=pv.length+i) (by omega)
  have hat:=nR (m:=m) (i:=pv.length+i) (j:=C) (by omega) (by omega)
  have hlc:(gt cr (i:Int)).es.length=C+1:=by rw [hg];exact hmr
  refine bN (φ:=aD (gt cr (i:Int)).p (recs eR (gt cr (i:Int)).es)) (by rw [hg];exact Hv.xrsl aA (by omega)) ?_
  refine bN (φ:=bE (gt (gt cr (i:Int)).es (C:Int)) K) (by rw [hg];exact Hv.xel aA (by omega) (by omega)) ?_
  have hSg:=fun M0 I0 h=>jS (X:=X) (w0:=w0) (M0:=M0) (I0:=I0) (e:=gt (gt cr (i:Int)).es (C:Int)) (k:=K) (by omega) h
  rw [←hg] at hat
  by_cases h0:(gt (gt cr (i:Int)).es (C:Int)).q=0
  ·rw [(oW _).2 h0] at hSg
   repeat refine aC ?_
   refine dC rfl (hSg _ _ (Hv.mem aA)) ?_
   repeat refine aC ?_
   refine lN (R - pv.length - (i+1)) (⟨i+1,by omega,rfl,fun t h1 h2=>?_,rfl,rfl,rfl⟩)
   by_cases e:t=pv.length+i
   ·rw [e,hat];exact h0
   ·exact hz0 t h1 (by omega)
  ·have hs1:¬(gt (gt cr (i:Int)).es (C:Int)).q.num.sign=0:=fun h=>h0 ((oW _).1 h)
   generalize (gt (gt cr (i:Int)).es (C:Int)).q.num.sign=sg1 at*
   have hno:¬zM R C a.q b.q:=fun h=>h0 (by rw [←hat];exact aAB.1 (hS.1 h) _ (by omega) (by omega))
   simp only [if_neg hno]
   repeat refine aC ?_
   refine dC rfl (hSg _ _ (Hv.mem aA)) ?_
   repeat refine aC ?_
   refine tyS [4,5] rfl rfl (⟨rfl,rfl,rfl⟩)
 ·obtain rfl:i=R - pv.length:=by omega
  have hyes:zM R C a.q b.q:=hS.2 (aAB.2 (fun t h1 h2=>hz0 t h1 (by omega)))
  simp only [if_pos hyes]
  have hW:=fun M0 I0=>kU (X:=X) (w0:=w0) (M0:=M0) (I0:=I0) (x:=0) (by decide) (k:=0) (by decide)
  repeat refine aC ?_
  (refine iD (C) rfl rfl (by omega) (by omega) (by omega) (by omega) (oF (enc:=e4) (by decide) z4 C) rfl rfl ?_;intro bi;refine aU ?_)
  repeat refine aC ?_
  refine bN (φ:=aX [] K) Hv.nilR ?_
  refine pU [7,8,9,12,53] rfl (fun k G M I=>∃(x:Nat) (es:List RE),x≤C∧k=C - x∧es.length=x∧(∀t:Nat,t < x→(gt es (t:Int)).q=0)∧G=[(54, .int .i64 x)]∧M= .blk bi (recs e4 (es.map t4++List.replicate (C - x) z4)) 36::M0∧I=aX es K::aD (some ⟨bo,0,none⟩) (recs eL m.rows)::pvI q pv::gQ m K::I0) (C) (⟨0,[],by omega,by omega,rfl,fun t ht=>by omega,rfl,rfl,rfl⟩) ?_
  rintro kk G M I ⟨x,es,hx,rfl,hel,heq,rfl,rfl,rfl⟩
  by_cases hxC:x < C
  ·have hz2:=qM (n:=C - x) (z:=z4) (by omega)
   have hl2:((es.map t4++z4::List.replicate (C - x - 1) z4).length:Int)=C:=by simp;omega
   rw [hz2]
   repeat refine aC ?_
   refine gT rfl (hW _ _) (fun e he=>?_)
   repeat refine yXh ?_
   refine iG (vs:=eR e) rfl rfl rfl (Ones.one e) mW (StAts.r (t4 e) (by omega) rfl) rfl rfl ⟨okF,?_⟩
   rw [yO (by simp;omega)]
   repeat refine aC ?_
   refine bX (φ:=bE e K) (Hv.q (k:=0) aA (by omega)) ?_
   refine bX (φ:=aX (es++[e]) K) (Hv.snoc aA aA) ?_
   have e9:es.map t4++t4 e::List.replicate (C - x - 1) z4=(es++[e]).map t4++List.replicate (C - (x+1)) z4:=by simp [Nat.sub_sub]
   rw [e9]
   refine lN (C - (x+1)) (⟨x+1,es++[e],by omega,rfl,by simp;omega,fun t ht=>?_,rfl,rfl,rfl⟩)
   by_cases e1:t < x
   ·have:gt (es++[e]) (t:Int)=gt es (t:Int):=by rw [dM (by simp;omega),dM (by omega),List.getElem_append_left (by omega)]
    rw [this];exact heq t e1
   ·have:gt (es++[e]) (t:Int)=e:=rJ (A:=es) (B:=[]) (by omega)
    rw [this,he];rfl
  ·obtain rfl:x=C:=by omega
   rw [Nat.sub_self,List.replicate_zero,List.append_nil,aDC]
   repeat refine aC ?_
   refine pU [7,8,12,62,63] rfl (fun k G M I=>∃(r:Nat) (es2:List RE),r≤pv.length∧k=pv.length - r∧es2.length=x∧(∀t:Nat,t < x→(gt es2 (t:Int)).q=if t∈pv∧pv.idxOf t < r then at2 m.q (pv.idxOf t) x else 0)∧G=[(64, .int .i64 r)]∧M= .blk bi (recs eR es2) 36::M0∧I=aX es2 K::aD (some ⟨bo,0,none⟩) (recs eL m.rows)::pvI q pv::gQ m K::I0) (pv.length) (⟨0,es,by omega,by omega,hel,fun t ht=>by rw [if_neg (by omega)];exact heq t ht,rfl,rfl,rfl⟩) ?_
   rintro kk G M I ⟨r,es2,hr2,rfl,hel2,heq2,rfl,rfl,rfl⟩
   by_cases hrp:r < pv.length
   ·have hgz:=gt_zs hrp
    have hpr:=hpi r hrp
    have hmr:=md.row (i:=r) (by omega)
    have hat:=nR (m:=m) (i:=r) (j:=x) (by omega) (by omega)
    refine bN (φ:=aD (gt (m).rows (r:Int)).p (recs eR (gt (m).rows (r:Int)).es)) (Hv.xrsl aA (by omega)) ?_
    repeat refine aC ?_
    rw [hgz]
    repeat refine aC ?_
    refine bX (φ:=bE (gt (gt m.rows (r:Int)).es (x:Int)) K) (Hv.xel aA (by omega) (by omega)) ?_
    refine bX (φ:=aX (st es2 ((pv.getD r 0:Nat):Int) (gt (gt m.rows (r:Int)).es (x:Int))) K) (Hv.stR aA aA) ?_
    refine lN (pv.length - (r+1)) (⟨r+1,st es2 ((pv.getD r 0:Nat):Int) (gt (gt m.rows (r:Int)).es (x:Int)),by omega,rfl,by rw [bP];exact hel2,fun t ht=>?_,rfl,rfl,rfl⟩)
    rw [oN (by omega)]
    by_cases e1:t=pv.getD r 0
    ·subst e1
     rw [if_pos rfl,if_pos ⟨pY.2 ⟨r,hrp,rfl⟩,by rw [hidx r hrp];omega⟩,hidx r hrp,hat]
    ·rw [if_neg e1,heq2 t ht]
     by_cases e2:t∈pv
     ·have e3:pv.idxOf t≠r:=fun e=>e1 (by rw [←e];exact (Red.idx_lt e2).2.symm)
      by_cases e4:pv.idxOf t < r
      ·rw [if_pos ⟨e2,e4⟩,if_pos ⟨e2,by omega⟩]
      ·rw [if_neg (show ¬(t∈pv∧pv.idxOf t < r) from fun h=>e4 h.2),if_neg (show ¬(t∈pv∧pv.idxOf t < r+1) from fun h=>by have:=h.2;omega)]
     ·rw [if_neg (show ¬(t∈pv∧pv.idxOf t < r) from fun h=>e2 h.1),if_neg (show ¬(t∈pv∧pv.idxOf t < r+1) from fun h=>e2 h.1)]
   ·obtain rfl:r=pv.length:=by omega
    repeat refine aC ?_
    refine aQS (k:=K) aA ?_
    refine lH [4,5] (by first|exact .inl rfl|exact .inr rfl) rfl rfl rfl _ _ aK aJ (⟨rfl,⟨some ⟨bi,0,none⟩,es2.length,es2⟩,by show _=Value.tuple #[.slice (some ⟨bi,0,none⟩) es2.length es2.length, .int .i64 0];rw [hel2],?_,rfl⟩)
    rw [hL]
    apply jG
    ·simp [hel2]
    ·intro t ht
     have ht':t < x:=by simpa [hel2] using ht
     show (qs es2).getD t 0=_
     rw [bT (by omega),heq2 t ht']
     have:((List.range x).map (aDW (at2 m.q) pv x)).getD t 0=aDW (at2 m.q) pv x t:=by simp [List.getD,ht']
     rw [this]
     unfold aDW
     by_cases e2:t∈pv
     ·rw [if_pos ⟨e2,(Red.idx_lt e2).1⟩,if_pos e2]
     ·rw [if_neg (fun h=>e2 h.1),if_neg e2]
end
end Go.Proofs.YthhldplegmeolaaGreat
namespace Go.Fx
section
variable {P:Program} {n:Nat} {ops:List Oper} {Q:Exit→Act→World→Prop} {m:Mode} {G:Env} {w:World} {ty:TypeId} {pos:String} {af:Array Edge} {g:Option (Nat × Bool)} {l:List Oper} {X:List Nat} {w0:World} {M M':List Ent} {I:List aN}
end
end Go.Fx
namespace Go.Fx
section
variable {P:Program} {n:Nat} {ops:List Oper} {Q:Exit→Act→World→Prop} {m:Mode} {G:Env} {l:List Oper} {X:List Nat} {w0:World} {M M':List Ent} {I:List aN}
end
end Go.Fx
namespace Go.Proofs.YthhldplegmeolaaGreat
open Go Go.Fx
section
variable {X:List Nat} {w0:World} {M0:List Ent} {I0:List aN}
def catQ (ls:List RL):List Rat:=ls.flatMap RL.q
def shpC (m:WM) (x:WL):Int:=if x.good∧∀r∈m.rows,r.good then (if m.rows.length=3∧∀r∈m.rows,r.es.length=4 then 0 else 4) else 1
end
structure CE where
 a:RE
 b:PE
instance:Inhabited CE:=⟨⟨default,default⟩⟩
abbrev eC (c:CE):List Value:=[.bool (B (c.a.q.num < 0)), .slice c.a.p1 (gr c.a.q.num.natAbs).length c.a.c1, .bool (B ((c.a.q.den:Int) < 0)), .slice c.a.p2 (gr (c.a.q.den:Int).natAbs).length c.a.c2, .bool (B (c.b.x.q.num < 0)), .slice c.b.x.p1 (gr c.b.x.q.num.natAbs).length c.b.x.c1, .bool (B ((c.b.x.q.den:Int) < 0)), .slice c.b.x.p2 (gr (c.b.x.q.den:Int).natAbs).length c.b.x.c2, .bool (B (c.b.y.q.num < 0)), .slice c.b.y.p1 (gr c.b.y.q.num.natAbs).length c.b.y.c1, .bool (B ((c.b.y.q.den:Int) < 0)), .slice c.b.y.p2 (gr (c.b.y.q.den:Int).natAbs).length c.b.y.c2]
instance:Sized eC 12:=⟨fun _=>rfl⟩
abbrev cv (c:CE):Value:= .agg (eC c).toArray
section
variable {X:List Nat} {w0:World} {M0:List Ent} {I0:List aN}
end
end Go.Proofs.YthhldplegmeolaaGreat
namespace Go.Proofs.YthhldplegmeolaaGreat
open Go Go.Fx
abbrev zP:Value:= .agg #[.bool false, .slice none 0 0, .bool false, .slice none 0 0, .bool false, .slice none 0 0, .bool false, .slice none 0 0]
abbrev zPc:List Value:=[.bool false, .slice none 0 0, .bool false, .slice none 0 0, .bool false, .slice none 0 0, .bool false, .slice none 0 0]
section
variable {X:List Nat} {w0:World} {M0:List Ent} {I0:List aN}
end
end Go.Proofs.YthhldplegmeolaaGreat
namespace Go.Proofs.YthhldplegmeolaaGreat
open Go Go.Fx
abbrev zRc:List Value:=[.bool false, .slice none 0 0, .bool false, .slice none 0 0]
section
variable {X:List Nat} {w0:World} {M0:List Ent} {I0:List aN}
end
end Go.Proofs.YthhldplegmeolaaGreat
namespace Go.Proofs.YthhldplegmeolaaGreat
open Go Go.Fx
def prV (A:Mt) (a b c:Rat) (i:Nat):Rat:=sm 4 (fun t=>at2 A i t*[a,b,c,1].getD t 0)
section
variable {X:List Nat} {w0:World} {M0:List Ent} {I0:List aN}
end
end Go.Proofs.YthhldplegmeolaaGreat
namespace Go.Fx
section
variable {P:Program} {ops:Array Oper} {Q:Exit→Act→World→Prop} {Cs Cs':Nat→World→Prop}
theorem aGJ {i:Nat} {a:Act} {w:World} {K K':Act→World→Prop} (h:∀a w,K a w→K' a w) (hh:wpOp P ops QF i K a w):wpOp P ops QF i K' a w:=by
 unfold wpOp at*
 split
 ·exact h _ _ (by simpa [*] using hh)
 ·rename_i o ho
  simp only [ho] at hh
  split
  ·rename_i hw
   simp only [hw,if_true] at hh
   rcases hh with hh|⟨_,_,_,hf⟩
   ·exact .inl (Oper.wp_mono h hh)
   ·exact hf.elim
  ·rename_i hw;simp only [hw] at hh;exact h _ _ hh
theorem xK (hC:∀s w,Cs s w→Cs' s w):∀(fuel k:Nat) (listed:Array Bool) (a:Act) (w:World),mV P ops Q Cs fuel k listed a w→mV P ops Q Cs' fuel k listed a w
 |0,_,_,_,_,h=>h
 |fuel+1,_,_,_,_,h=>⟨h.1,fun i hi=>aGJ (fun a w h=>⟨hC _ _ h.1,xK hC fuel _ _ a w h.2⟩) (h.2 i hi)⟩
end
section
variable {P:Program} {n:Nat} {Q:Exit→Act→World→Prop} {G:Env} {X:List Nat} {w0:World} {M M1 M2:List Ent} {I I1 I2:List aN} {l:List Oper}
theorem aNG (M2:List Ent) (I2:List aN) {fuel k:Nat} {listed:Array Bool} (hM:SubP M2 M1) (hI:Inc I2 I1)
  (h:ND n (Rest P l Q (wV X w0 M2 I2) fuel k listed) .normal G X w0 M I):ND n (Rest P l Q (wV X w0 M1 I1) fuel k listed) .normal G X w0 M I:=
 ⟨fun w hw=>⟨fun a ha=>xK (fun _ _ h=>h.weak hM hI) _ _ _ _ _ ((h.go w hw).go a ha)⟩⟩
end
section
variable {P:Program} {n:Nat} {ops l:List Oper} {Q:Exit→Act→World→Prop} {m:Mode} {G:Env} {ty:TypeId} {pos:String} {af:Array Edge} {g:Option (Nat × Bool)} {X:List Nat} {w0:World} {M M':List Ent} {I:List aN}
/- a store into a row that may still grow -/
end
section
variable {P:Program} {n:Nat} {ops l:List Oper} {Q Q' Q1 Q2:Exit→Act→World→Prop} {m:Mode} {G:Env} {X:List Nat} {w0:World} {M M':List Ent} {I:List aN}
/- a cut from within a region that a test follows -/
end
end Go.Fx
namespace Go.Proofs.YthhldplegmeolaaGreat
open Go Go.Fx
abbrev zT3:List Value:=[.bool false, .slice none 0 0, .bool false, .slice none 0 0, .bool false, .slice none 0 0, .bool false, .slice none 0 0, .bool false, .slice none 0 0, .bool false, .slice none 0 0]
def ctrOk (N:Mt):Prop:=N.length=1∧at2 N 0 3≠0
instance ctrOk.dec (N:Mt):Decidable (ctrOk N):=by unfold ctrOk;exact inferInstance
section
variable {X:List Nat} {w0:World} {M0:List Ent} {I0:List aN}
end
def plD (p0 p1 p2:V2) (s0 s1 s2:Rat):Rat:=(cnB (p0.sub p1) s0 s1).crs (cnB (p2.sub p1) s2 s1)
def plZ (p0 p1 p2:V2) (s0 s1 s2:Rat):V2:=mtZ (cnA s0 s1) (cnA s2 s1) (cnB (p0.sub p1) s0 s1) (cnB (p2.sub p1) s2 s1)
def plC (p0 p1 p2:V2) (s0 s1 s2:Rat):V2:=mtC (cnA s0 s1) (cnA s2 s1) (cnB (p0.sub p1) s0 s1) (cnB (p2.sub p1) s2 s1)
def plA (p0 p1 p2:V2) (s0 s1 s2:Rat):V2:=p1.add (plC p0 p1 p2 s0 s1 s2)
def plF (p0 p1 p2:V2) (s0 s1 s2:Rat):V2:=((plC p0 p1 p2 s0 s1 s2).scl (-1)).sub ((((plC p0 p1 p2 s0 s1 s2).scl (-1)).sd).scl s1)
structure AllP (ps:List PE) (k:Nat) (X:List Nat) (w:World):Prop where
 go:∀p∈ps,IsP p k X w
abbrev allP (ps:List PE) (k:Nat):aN:=AllP ps k
instance (ps:List PE) (k:Nat):Fx.Good (AllP ps k):=⟨fun X Y w w' h he hY=>⟨fun r hm=>Fx.Good.go (φ:=IsP _ _) X Y w w' (h.go r hm) he hY⟩⟩
section
variable {X:List Nat} {w0:World} {M0:List Ent} {I0:List aN}
end
end Go.Proofs.YthhldplegmeolaaGreat
namespace Go.Proofs.YthhldplegmeolaaGreat
open Go Go.Fx
section
variable {X:List Nat} {w0:World} {M0:List Ent} {I0:List aN}
end
end Go.Proofs.YthhldplegmeolaaGreat
namespace Go.Fx
open Go.ChangeShapes Go.WideShapes Go.RowKit Go.ChangeAt
section
variable {H:Type} {enc:TypeId × Value→H} {P:Program} {W:World}
theorem aDZ {sz:Nat}:∀(rows:List (List Value)) (k:Nat) (v:Value),(∀r∈rows,r.length=sz)→rows.flatten[k]?=some v→∃i row,rows[i]?=some row∧i*sz≤k∧row[k - i*sz]?=some v
 |[],k,v,_,h=>by simp at h
 |r::rows,k,v,hr,h=>by
  rw [List.flatten_cons] at h
  have hl:=hr r (by simp)
  by_cases hk:k < r.length
  ·rw [List.getElem?_append_left hk] at h
   exact ⟨0,r,by simp,by omega,by simpa using h⟩
  ·rw [List.getElem?_append_right (by omega)] at h
   obtain ⟨i,row,h1,h2,h3⟩:=aDZ rows _ v (fun r' hr'=>hr r' (by simp [hr'])) h
   refine ⟨i+1,row,by simpa using h1,by rw [Nat.add_mul];omega,?_⟩
   rw [←h3]
   congr 1
   rw [Nat.add_mul];omega
theorem aRB {t:TypeId} {k:IntKind} {n:Nat} {cs:List Value} {y:DataW H × List MemPlace} (ht:P.underlying t=some (.int k)) (h:DataW.trod enc P W 0 (fun _=>true) true n t cs=some y):∃x:Int,cs=[.int k x]∧(Lit.int k x).wf=true:=by
 obtain ⟨m,h1,_,h2⟩:=DataW.trod_int ht h
 exact ⟨m,h1,h2⟩
end
end Go.Fx
namespace Go.Proofs.YthhldplegmeolaaGreat
open Go Go.Fx
open Go.ChangeShapes Go.WideShapes Go.RowKit Go.ChangeAt
def RW.reach (r:RW):Prop:=r.g1.length≤35184372088832∧r.g2.length≤35184372088832
section
variable {H:Type} {enc:TypeId × Value→H} {P:Program} {W:World}
end
end Go.Proofs.YthhldplegmeolaaGreat
namespace Go.Proofs.YthhldplegmeolaaGreat
open Go Go.Fx
section
variable {X:List Nat} {w0:World} {M0:List Ent} {I0:List aN}
theorem aGH {r:RW} (h:r.reach):CD Tryz.prog 42 [wv r] X w0 M0 I0 (fun v M I=>M0=M∧I0=I∧v= .int .i64 (r.g1.length+r.g2.length)):=by
 obtain ⟨h1,h2⟩:=h
 refine aV Tryz.func42 rfl Tryz.ntmps42 rfl ?_
 refine fG ?_
 refine fQ rfl (fun b1=>?_)
 repeat refine aC ?_
 refine iZ rfl rfl (⟨rfl,rfl,rfl⟩)
end
end Go.Proofs.YthhldplegmeolaaGreat
namespace Go.Proofs.YthhldplegmeolaaGreat
open Go Go.Fx
def PW.reach (p:PW):Prop:=p.x.reach∧p.y.reach
def PW.dig (p:PW):Nat:=p.x.g1.length+p.x.g2.length+(p.y.g1.length+p.y.g2.length)
section
variable {X:List Nat} {w0:World} {M0:List Ent} {I0:List aN}
end
end Go.Proofs.YthhldplegmeolaaGreat
namespace Go.Proofs.YthhldplegmeolaaGreat
open Go Go.Fx
def dstep (A:Mt) (j x:Nat):Mt:=(swp A j x).mapIdx (fun i row=>if i≤j then row else if row.getD j 0=0 then row else nJ j (row.getD j 0 / at2 (swp A j x) j j) (rowAt (swp A j x) j) row)
def blkF (A:Mt) (j:Nat):Nat→Nat→Rat:=fun i k=>at2 A (i+j) (k+j)
end Go.Proofs.YthhldplegmeolaaGreat
namespace Go.Proofs.YthhldplegmeolaaGreat
open Go Go.Fx
/- regions that draw: some reads see all up to a first effect, others what stays up to a second one -/
section
variable {P:Program} {n:Nat} {Q:Exit→Act→World→Prop} {G:Env} {X:List Nat} {w0:World} {M M' M1 Ms:List Ent} {I I' I1 Is:List aN}
def CsL (J1 J2:Nat) (X:List Nat) (w0:World) (M:List Ent) (I:List aN) (Ms:List Ent) (Is:List aN):Nat→World→Prop:=fun s w=>(s≤J1→Mem X w0 M I w)∧(s≤J2→Mem X w0 Ms Is w)
end
section
variable {X:List Nat} {w0:World} {M0:List Ent} {I0:List aN}
abbrev zRm:List Value:=[.bool false, .slice none 0 0, .bool false, .slice none 0 0]
end
end Go.Proofs.YthhldplegmeolaaGreat
namespace Go.Proofs.YthhldplegmeolaaGreat
open Go Go.Fx
/- ---------- IndexFunc, ContainsFunc of []fiducial/api.Rat ---------- -/
section
variable {X:List Nat} {w0:World} {M0:List Ent} {I0:List aN}
end
def aRN (l:List Rat):Prop:=∀x∈l,x=0
instance (l:List Rat):Decidable (aRN l):=inferInstanceAs (Decidable (∀x∈l,x=0))
def symM (A:Mt) (n:Nat):Prop:=∀i,i < n→∀j,j < i→at2 A i j=at2 A j i
instance (A:Mt) (n:Nat):Decidable (symM A n):=inferInstanceAs (Decidable (∀i,i < n→∀j,j < i→at2 A i j=at2 A j i))
def symC (A:Mt) (n:Nat):Int:=if symM A n then 0 else 11
section
variable {X:List Nat} {w0:World} {M0:List Ent} {I0:List aN}
end
end Go.Proofs.YthhldplegmeolaaGreat
namespace Go.Proofs.YthhldplegmeolaaGreat
open Go Go.Fx
section
variable {X:List Nat} {w0:World} {M0:List Ent} {I0:List aN}
end
end Go.Proofs.YthhldplegmeolaaGreat

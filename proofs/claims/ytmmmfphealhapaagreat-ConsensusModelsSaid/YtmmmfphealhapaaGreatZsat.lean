/- Matrices that the document builds and then writes into: rows with room behind them. -/
import Derived.Test.YtmmmfphealhapaaGreatZsar
import Derived.Test.YtmmmfphealhapaaGreatZsas
import Derived.Test.YtmmmfphealhapaaGreatZsaq
set_option linter.unusedSimpArgs false
set_option linter.unusedVariables false
set_option maxRecDepth 100000
set_option maxHeartbeats 4000000
namespace Go.Proofs.YtmmmfphealhapaaGreat
open Go Go.Fx
structure MS where
 b:Nat
 c:Nat
 es:List RE
 tl:List Value
instance:Inhabited MS:=⟨⟨0,0,[],[]⟩⟩
abbrev eS (r:MS):List Value:=[.slice (some ⟨r.b,0,none⟩) r.es.length r.c]
instance:Sized eS 1:=⟨fun _=>rfl⟩
instance:Ones eS:=⟨fun m u hu=>by simp only [eS,List.mem_cons,List.not_mem_nil,or_false] at hu;subst hu;rfl⟩
abbrev iZ (r:MS):Ent:= .blk r.b (recs eR r.es++r.tl) 77
structure AllS (rows:List MS) (k:Nat) (X:List Nat) (w:World):Prop where
 go:∀r∈rows,∀e∈r.es,IsR e k X w
abbrev iR (rows:List MS) (k:Nat):aM:=AllS rows k
instance (rows:List MS) (k:Nat):Fx.Good (AllS rows k):=⟨fun X Y w w' h he hY=>⟨fun r hr e hm=>Fx.Good.go (φ:=IsR _ _) X Y w w' (h.go r hr e hm) he hY⟩⟩
theorem Hv.nilS {I:List aM} {k:Nat}:Hv I (iR [] k):=⟨fun X w _=>⟨fun x hx=>by simp at hx⟩⟩
theorem Hv.snocS {I:List aM} {rows:List MS} {r:MS} {k:Nat} (h1:iR rows k∈I) (h2:Hv I (aU r.es k)):Hv I (iR (rows++[r]) k):=⟨fun X w hw=>⟨fun x hx=>by
 rcases List.mem_append.1 hx with hx|hx
 ·exact (hw _ h1:AllS rows k X w).go x hx
 ·rw [List.mem_singleton.1 hx];exact (h2.go X w hw).go⟩⟩
theorem Hv.monoS {I:List aM} {rows:List MS} {k m:Nat} (h:iR rows k∈I) (hk:k≤m):Hv I (iR rows m):=⟨fun X w hw=>⟨fun r hr e he=>((hw _ h:AllS rows k X w).go r hr e he).mono hk⟩⟩
def Pw (rows:List MS) (R C:Nat) (V:Nat→Nat→Rat):Prop:=∀i j:Nat,i < R→j < C→(gt (gt rows (i:Int)).es (j:Int)).q=V i j
structure Shp (rows:List MS) (R C:Nat):Prop where
 len:rows.length=R
 col:∀r∈rows,r.es.length=C∧C≤r.c
abbrev upR (r:MS) (j:Nat) (e:RE):MS:=⟨r.b,r.c,st r.es (j:Int) e,r.tl⟩
def upS (rows:List MS) (i j:Nat) (e:RE):List MS:=rows.set i ⟨(gt rows (i:Int)).b,(gt rows (i:Int)).c,st (gt rows (i:Int)).es (j:Int) e,(gt rows (i:Int)).tl⟩
theorem aPK {rows:List MS} {i j:Nat} {e:RE}:rows.set i (upR (gt rows (i:Int)) j e)=upS rows i j e:=rfl
theorem Shp.row {rows:List MS} {R C:Nat} (h:Shp rows R C) {i:Nat} (hi:i < R):(gt rows (i:Int)).es.length=C:=(h.col _ (bD (by have:=h.len;omega))).1
theorem Shp.up {rows:List MS} {R C i j:Nat} {e:RE} (h:Shp rows R C) (hi:i < R):Shp (upS rows i j e) R C:=⟨by unfold upS;rw [List.length_set];exact h.len,fun r hr=>by
 rcases List.mem_or_eq_of_mem_set hr with hr|hr
 ·exact h.col r hr
 ·subst hr
  have:=h.col _ (bD (ms:=rows) (i:=(i:Int)) (by have:=h.len;omega))
  exact ⟨by show (st _ _ _).length=C;rw [dI];exact this.1,this.2⟩⟩
theorem aTP {rows:List MS} {R C i j t:Nat} {e:RE} (h:Shp rows R C) (hi:i < R) (ht:t < R):gt (upS rows i j e) (t:Int)=if t=i then ⟨(gt rows (i:Int)).b,(gt rows (i:Int)).c,st (gt rows (i:Int)).es (j:Int) e,(gt rows (i:Int)).tl⟩ else gt rows (t:Int):=by
 have hl:=h.len
 unfold upS
 rw [dP (by rw [List.length_set];omega)]
 by_cases e1:t=i
 ·subst e1;simp
 ·rw [List.getElem_set_ne (fun e=>e1 e.symm),if_neg e1]
  exact (dP (by omega)).symm
theorem aMA {rows:List MS} {R C i j:Nat} {e:RE} (h:Shp rows R C) (hi:i < R):recs eS (upS rows i j e)=recs eS rows:=by
 have hl:=h.len
 unfold upS
 rw [←qE (enc:=eS) rows i _ (by omega)]
 have e1:eS ⟨(gt rows (i:Int)).b,(gt rows (i:Int)).c,st (gt rows (i:Int)).es (j:Int) e,(gt rows (i:Int)).tl⟩=eS (gt rows (i:Int)):=by simp [eS,dI]
 rw [e1,qE (enc:=eS) rows i _ (by omega),dP (by omega),List.set_getElem_self]
theorem Hv.upS {I:List aM} {rows:List MS} {R C i j k:Nat} {e:RE} (h:Shp rows R C) (hi:i < R) (h1:iR rows k∈I) (h2:bW e k∈I):Hv I (iR (upS rows i j e) k):=⟨fun X w hw=>⟨fun r hr x hx=>by
 have ha:=(hw _ h1:AllS rows k X w).go
 rcases List.mem_or_eq_of_mem_set hr with hr|hr
 ·exact ha r hr x hx
 ·subst hr
  rcases List.mem_or_eq_of_mem_set hx with hx|hx
  ·exact ha _ (bD (by have:=h.len;omega)) x hx
  ·rw [hx];exact hw _ h2⟩⟩
theorem bCC {M1:List Ent} {r':MS}:∀{rows:List MS} {i:Nat} (h:i < rows.length),Rep (iZ rows[i]) (iZ r') (rows.map iZ++M1) ((rows.set i r').map iZ++M1)
 |[],_,h=>by simp at h
 |x::r,0,_=> .here
 |x::r,i+1,h=> .there (bCC (rows:=r) (i:=i) (by simpa using h))
theorem repS {M1:List Ent} {r':MS} {rows:List MS} {i:Nat} (h:i < rows.length) {A:Ent}:Rep (iZ (gt rows (i:Int))) (iZ r') (A::(rows.map iZ++M1)) (A::((rows.set i r').map iZ++M1)):=by
 rw [dP h]
 exact .there (bCC h)
theorem repS2 {M1:List Ent} {r':MS} {rows:List MS} {i:Nat} (h:i < rows.length) {A B:Ent}:Rep (iZ (gt rows (i:Int))) (iZ r') (A::B::(rows.map iZ++M1)) (A::B::((rows.set i r').map iZ++M1)):= .there (repS h)
def MsP (R C:Nat) (V:Nat→Nat→Rat) (k:Nat) (M0:List Ent) (I0:List aM) (v:Value) (M:List Ent) (I:List aM):Prop:=
 ∃(bo co:Nat) (tlo:List Value) (rows:List MS),v= .slice (some ⟨bo,0,none⟩) R co∧R≤co∧Shp rows R C∧Pw rows R C V∧M= .blk bo (recs eS rows++tlo) 70::(rows.map iZ++M0)∧I=iR rows k::I0
def MS.l (r:MS):RL:=⟨some ⟨r.b,0,none⟩,r.c,r.es⟩
def MS.x (bo co:Nat) (rows:List MS):MX:=⟨some ⟨bo,0,none⟩,co,rows.map MS.l⟩
theorem bAY (rows:List MS):recs eL (rows.map MS.l)=recs eS rows:=by
 induction rows with
 |nil=>rfl
 |cons x r ih=>
  have h1:recs eL ((x::r).map MS.l)=eL x.l++recs eL (r.map MS.l):=rfl
  have h2:recs eS (x::r)=eS x++recs eS r:=rfl
  rw [h1,h2,ih];rfl
theorem aNZ {X:List Nat} {w:World} {a:Option Addr} {cs tl:List Value} (h:Sl X w a (cs++tl)):Sl X w a cs:=by
 have:=h.take cs.length
 rwa [List.take_left'] at this
 rfl
theorem aAI {X:List Nat} {w0 w:World} {k:Nat}:∀{rows:List MS} {M:List Ent} {I:List aM},Mem X w0 (rows.map iZ++M) I w→(∀r∈rows,r.es.length≤r.c)→(∀r∈rows,AllR r.es k (muts (rows.map iZ++M)) w)→∃I',(∀φ∈I,φ∈I')∧(∀r∈rows,iQ r.l k∈I')∧Mem X w0 M I' w
 |[],M,I,h,_,_=>⟨I,fun _ h=>h,fun r hr=>by simp at hr,h⟩
 |r::rows,M,I,h,hc,ha=>by
  have h1:Mem X w0 (rows.map iZ++M) (aH (some ⟨r.b,0,none⟩) (recs eR r.es++r.tl)::I) w:=h.freezeB .here
  have hsub:∀y∈muts (rows.map iZ++M),y∈muts ((r::rows).map iZ++M):=fun y hy=>by simp [muts] at hy ⊢;right;exact hy
  have h2:IsL r.l k (muts (rows.map iZ++M)) w:=by
   refine ⟨aNZ (h1.sl (List.Mem.head _)),fun e he=>?_,hc r (List.Mem.head _), .inl (Ok.mk _ _)⟩
   exact Fx.Good.go (φ:=IsR _ _) _ _ w w ((ha r (List.Mem.head _)).go e he) (Ext.refl _ _) (fun y hy=> .inl (hsub y hy))
  obtain ⟨I',i1,i2,i3⟩:=aAI (h1.add (φ:=iQ r.l k) h2) (fun s hs=>hc s (List.Mem.tail _ hs)) (fun s hs=>⟨fun e he=>Fx.Good.go (φ:=IsR _ _) _ _ w w ((ha s (List.Mem.tail _ hs)).go e he) (Ext.refl _ _) (fun y hy=> .inl (hsub y hy))⟩)
  refine ⟨I',fun φ hφ=>i1 φ (List.Mem.tail _ (List.Mem.tail _ hφ)),fun s hs=>?_,i3⟩
  rcases List.mem_cons.1 hs with rfl|hs
  ·exact i1 _ (List.Mem.head _)
  ·exact i2 s hs
theorem aUO {X:List Nat} {w0 w:World} {k bo co:Nat} {tlo:List Value} {rows:List MS} {M:List Ent} {I:List aM} (h:Mem X w0 (.blk bo (recs eS rows++tlo) 70::(rows.map iZ++M)) I w) (hc:∀r∈rows,r.es.length≤r.c) (hco:rows.length≤co) (ha:iR rows k∈I):Mem X w0 M (iB (MS.x bo co rows) k::I) w:=by
 have h0:Mem X w0 (rows.map iZ++M) (aH (some ⟨bo,0,none⟩) (recs eS rows++tlo)::I) w:=h.freezeB .here
 obtain ⟨I',i1,i2,i3⟩:=aAI (k:=k) h0 hc (fun r hr=>⟨fun e he=>((h0.imm _ (List.Mem.tail _ ha)).2:AllS rows k _ w).go r hr e he⟩)
 have h3:IsX (MS.x bo co rows) k (muts M) w:=by
  refine ⟨?_,fun r hr=>?_,?_⟩
  ·rw [show (MS.x bo co rows).rows=rows.map MS.l from rfl,bAY];exact aNZ (i3.sl (i1 _ (List.Mem.head _)))
  ·obtain ⟨s,hs,rfl⟩:=List.mem_map.1 hr
   exact (i3.imm _ (i2 s hs)).2
  ·show Cap (some ⟨bo,0,none⟩) (rows.map MS.l).length co
   rw [List.length_map];exact ⟨hco, .inl (Ok.mk _ _)⟩
 exact (i3.add (φ:=iB (MS.x bo co rows) k) h3).inc (.of fun φ hφ=>by
  rcases List.mem_cons.1 hφ with rfl|hφ
  ·exact List.Mem.head _
  ·exact List.Mem.tail _ (i1 _ (List.Mem.tail _ hφ)))
theorem q_xs {rows:List MS} {R C bo co:Nat} {V:Nat→Nat→Rat} (h:Shp rows R C) (hp:Pw rows R C V):(MS.x bo co rows).q=xC R C V∧(MS.x bo co rows).dim R C:=by
 have hd:(MS.x bo co rows).dim R C:=⟨by show (rows.map MS.l).length=R;rw [List.length_map];exact h.len,fun r hr=>by
  obtain ⟨s,hs,rfl⟩:=List.mem_map.1 hr
  exact (h.col s hs).1⟩
 refine ⟨?_,hd⟩
 rw [hd.mk]
 refine xR (fun i j hi hj=>?_)
 have hl:=hd.1
 have hg:gt (MS.x bo co rows).rows (i:Int)=(gt rows (i:Int)).l:=aJB (by have:=h.len;omega)
 rw [qP (by omega) (by rw [hg];show j < (gt rows (i:Int)).es.length;rw [h.row hi];exact hj),hg]
 exact hp i j hi hj
section
variable {X:List Nat} {w0:World} {M0:List Ent} {I0:List aM}
theorem aKF {R C:Nat} (hR:1≤R∧R≤100) (hC:1≤C∧C≤100):CD Tryz.prog 146 [.int .i64 (R:Int), .int .i64 (C:Int)] X w0 M0 I0 (MsP R C (fun _ _=>0) 0 M0 I0):=by
 have hW:=fun M0 I0=>xA (X:=X) (w0:=w0) (M0:=M0) (I0:=I0) (x:=0) (by decide)
 refine aN Tryz.func146 rfl Tryz.ntmps146 rfl ?_
 repeat refine aB ?_
 (refine gX (cs:=recs eS []) ([]) rfl (fun bo=>?_);refine gF (mm:=0) 1 .here rfl (by omega) ?_)
 repeat refine aB ?_
 refine bH (φ:=iR [] 0) Hv.nilS ?_
 refine bX [0,1] rfl (fun k G M I=>∃(i:Nat) (rows:List MS) (q:Option Addr) (c:Nat),i≤R∧k=R - i∧Shp rows i C∧Pw rows i C (fun _ _=>0)∧G=[(5, .slice q rows.length c),(6, .int .i64 i)]∧M= .row q rows.length c (recs eS rows) 70 1::(rows.map iZ++M0)∧I=iR rows 0::I0) (R) _ _ _ dE aF aD (⟨0,[],_,_,by omega,rfl,⟨rfl,fun r hr=>by simp at hr⟩,fun i j hi=>by omega,rfl,rfl,rfl⟩) ?_
 rintro kk G M I ⟨i,rows,q,c,hi,rfl,hs,hp,rfl,rfl,rfl⟩
 have hlen:=hs.len
 by_cases hiR:i < R
 ·repeat refine aB ?_
  (refine gX (cs:=recs eR []) ([]) rfl (fun bl=>?_);refine gF (mm:=0) 4 .here rfl (by omega) ?_)
  repeat refine aB ?_
  refine bH (φ:=aU [] 0) Hv.nilR ?_
  refine bX [0,1,5,6] rfl (fun k G M I=>∃(j:Nat) (es:List RE) (ql:Option Addr) (cl:Nat),j≤C∧k=C - j∧es.length=j∧(∀e∈es,e.q=0)∧G=[(7, .slice ql es.length cl),(8, .int .i64 j)]∧M= .row ql es.length cl (recs eR es) 77 4:: .row q rows.length c (recs eS rows) 70 1::(rows.map iZ++M0)∧I=aU es 0::iR rows 0::I0) (C) _ _ _ dE aF aD (⟨0,[],_,_,by omega,rfl,rfl,by simp,rfl,rfl,rfl⟩) ?_
  rintro kk G M I ⟨j,es,ql,cl,hj,rfl,hel,heq,rfl,rfl,rfl⟩
  by_cases hjC:j < C
  ·repeat refine aB ?_
   (refine aQ rfl (hW _ _) ?_;rintro _ _ _ ⟨rfl,e,rfl,he,rfl⟩;refine aL ?_)
   refine gX (cs:=recs eR [e]) ([rv e]) rfl (fun b=>?_)
   refine wB (ys:=[e]) 1 rfl rfl rfl (fun q2 c2=>?_)
   repeat refine aB ?_
   refine dF (φ:=aU (es++[e]) 0) (Hv.snoc aA aA) ?_
   refine gJ (C - (j+1)) (⟨j+1,es++[e],q2,c2,by omega,rfl,by simp;omega,fun x hx=>?_,rfl,rfl,rfl⟩)
   rcases List.mem_append.1 hx with h|h
   ·exact heq x h
   ·rw [List.mem_singleton.1 h,he];rfl
  ·obtain rfl:j=C:=by omega
   repeat refine aB ?_
   refine aBI (fun h0 h1 h2=>by omega) (fun b tl h1 h2=>?_)
   subst h1
   refine gX (cs:=recs eS [(⟨b,cl,es,tl⟩:MS)]) ([.slice (some ⟨b,0,none⟩) es.length cl]) rfl (fun bb=>?_)
   refine wB (ys:=[(⟨b,cl,es,tl⟩:MS)]) 2 rfl rfl rfl (fun q2 c2=>?_)
   repeat refine aB ?_
   refine dF (φ:=iR (rows++[(⟨b,cl,es,tl⟩:MS)]) 0) (Hv.snocS aA (Hv.mem aA)) ?_
   refine fB (M':= .blk b (recs eR es++tl) 77:: .row q2 (rows++[(⟨b,cl,es,tl⟩:MS)]).length c2 (recs eS (rows++[(⟨b,cl,es,tl⟩:MS)])) 70 1::(rows.map iZ++M0)) (I':=iR (rows++[(⟨b,cl,es,tl⟩:MS)]) 0::I0) (SubP.drop SubP.refl) aD ?_
   refine uZ (M':= .row q2 (rows++[(⟨b,cl,es,tl⟩:MS)]).length c2 (recs eS (rows++[(⟨b,cl,es,tl⟩:MS)])) 70 1::((rows++[(⟨b,cl,es,tl⟩:MS)]).map iZ++M0)) (by rw [List.map_append (f:=iZ)];exact aAW) ?_
   refine gJ (R - (i+1)) (⟨i+1,rows++[(⟨b,cl,es,tl⟩:MS)],q2,c2,by omega,rfl,⟨by simp [hlen],fun r hr=>?_⟩,fun i' j' h1' h2'=>?_,rfl,rfl,rfl⟩)
   ·rcases List.mem_append.1 hr with h|h
    ·exact hs.col r h
    ·rw [List.mem_singleton.1 h];exact ⟨hel,by show j≤cl;omega⟩
   ·by_cases e1:i' < i
    ·have:gt (rows++[(⟨b,cl,es,tl⟩:MS)]) (i':Int)=gt rows (i':Int):=by rw [dP (by simp;omega),dP (by omega),List.getElem_append_left (by omega)]
     rw [this];exact hp i' j' e1 h2'
    ·have:gt (rows++[(⟨b,cl,es,tl⟩:MS)]) (i':Int)=⟨b,cl,es,tl⟩:=wU (A:=rows) (B:=[]) (by omega)
     rw [this]
     exact heq _ (bD (by show (0:Int)≤_∧_ < (es.length:Int);omega))
 ·obtain rfl:i=R:=by omega
  repeat refine aB ?_
  refine aGR (fun h0 h1 h2=>by omega) (fun b tl h1 h2=>?_)
  subst h1
  refine aP (by first|exact .inl rfl|exact .inr rfl) rfl rfl _ _ aF aD (⟨b,c,tl,rows,by rw [hlen],by omega,hs,hp,rfl,rfl⟩)
end
section
variable {X:List Nat} {w0:World} {M0:List Ent} {I0:List aM}
theorem aUD {a:MX} {R C k0:Nat} (hR:1≤R∧R≤100) (hC:1≤C∧C≤100) (da:a.dim R C) (ha:iB a k0∈I0):CD Tryz.prog 212 [mv a] X w0 M0 I0 (MsP R C (at2 a.q) k0 M0 I0):=by
 have hl:=da.1
 refine uL (φ:=∀r∈a.rows,Cap r.p r.es.length r.c) (fun w hw r hr=>((((hw.imm _ ha).2:IsX a k0 _ w)).row r hr).cap) (fun hcap=>?_)
 refine aX (φ:=aH (a).p (recs eL (a).rows)) (Hv.xsl aA) ?_
 refine aS Tryz.func212 rfl Tryz.ntmps212 rfl ?_
 repeat refine aB ?_
 (refine gX (cs:=recs eS []) ([]) rfl (fun bo=>?_);refine gF (mm:=0) 1 .here rfl (by omega) ?_)
 repeat refine aB ?_
 refine bH (φ:=iR [] k0) Hv.nilS ?_
 refine bX [0] rfl (fun k G M I=>∃(i:Nat) (rows:List MS) (q:Option Addr) (c:Nat),i≤R∧k=R - i∧Shp rows i C∧Pw rows i C (at2 a.q)∧G=[(3, .slice q rows.length c),(4, .int .i64 i)]∧M= .row q rows.length c (recs eS rows) 70 1::(rows.map iZ++M0)∧I=iR rows k0::aH a.p (recs eL a.rows)::I0) (R) _ _ _ dE aF aD (⟨0,[],_,_,by omega,rfl,⟨rfl,fun r hr=>by simp at hr⟩,fun i j hi=>by omega,rfl,rfl,rfl⟩) ?_
 rintro kk G M I ⟨i,rows,q,c,hi,rfl,hs,hp,rfl,rfl,rfl⟩
 have hlen:=hs.len
 by_cases hiR:i < R
 ·have hrow:=da.row hiR
  have hcp:=(hcap _ (bD (ms:=a.rows) (i:=(i:Int)) (by omega))).2
  refine bH (φ:=aH (gt (a).rows (i:Int)).p (recs eR (gt (a).rows (i:Int)).es)) (Hv.xrsl aA (by omega)) ?_
  refine bH (φ:=aU (gt a.rows (i:Int)).es k0) ⟨fun X w hw=>⟨((hw _ (by exact aA):IsX a k0 X w).row _ (bD (by omega))).el⟩⟩ ?_
  repeat refine aB ?_
  (refine gX (cs:=recs eR []) ([]) rfl (fun bl=>?_);refine gF (mm:=0) 4 .here rfl (by omega) ?_)
  repeat refine aB ?_
  (refine iE (enc:=eR) (xs:=[]) (ys:=(gt a.rows (i:Int)).es) 0 rfl rfl rfl (Src.imm aA hcp) (by decide) rfl (by rw [List.length_nil];omega) (by rw [List.length_nil];omega) rfl rfl ?_;intro q1 c1;refine aL ?_)
  rw [List.nil_append]
  refine aBI (fun h0 h1 h2=>by omega) (fun b tl h1 h2=>?_)
  subst h1
  refine gX (cs:=recs eS [(⟨b,c1,(gt a.rows (i:Int)).es,tl⟩:MS)]) ([.slice (some ⟨b,0,none⟩) (gt a.rows (i:Int)).es.length c1]) rfl (fun bb=>?_)
  refine wB (ys:=[(⟨b,c1,(gt a.rows (i:Int)).es,tl⟩:MS)]) 2 rfl rfl rfl (fun q2 c2=>?_)
  repeat refine aB ?_
  refine dF (φ:=iR (rows++[(⟨b,c1,(gt a.rows (i:Int)).es,tl⟩:MS)]) k0) (Hv.snocS aA (Hv.mem aA)) ?_
  refine fB (M':= .blk b (recs eR (gt a.rows (i:Int)).es++tl) 77:: .row q2 (rows++[(⟨b,c1,(gt a.rows (i:Int)).es,tl⟩:MS)]).length c2 (recs eS (rows++[(⟨b,c1,(gt a.rows (i:Int)).es,tl⟩:MS)])) 70 1::(rows.map iZ++M0)) (I':=iR (rows++[(⟨b,c1,(gt a.rows (i:Int)).es,tl⟩:MS)]) k0::aH a.p (recs eL a.rows)::I0) (SubP.drop SubP.refl) aD ?_
  refine uZ (M':= .row q2 (rows++[(⟨b,c1,(gt a.rows (i:Int)).es,tl⟩:MS)]).length c2 (recs eS (rows++[(⟨b,c1,(gt a.rows (i:Int)).es,tl⟩:MS)])) 70 1::((rows++[(⟨b,c1,(gt a.rows (i:Int)).es,tl⟩:MS)]).map iZ++M0)) (by rw [List.map_append (f:=iZ)];exact aAW) ?_
  refine gJ (R - (i+1)) (⟨i+1,rows++[(⟨b,c1,(gt a.rows (i:Int)).es,tl⟩:MS)],q2,c2,by omega,rfl,⟨by simp [hlen],fun r hr=>?_⟩,fun i' j' h1' h2'=>?_,rfl,rfl,rfl⟩)
  ·rcases List.mem_append.1 hr with h|h
   ·exact hs.col r h
   ·rw [List.mem_singleton.1 h];exact ⟨hrow,by show C≤c1;omega⟩
  ·by_cases e1:i' < i
   ·have:gt (rows++[(⟨b,c1,(gt a.rows (i:Int)).es,tl⟩:MS)]) (i':Int)=gt rows (i':Int):=by rw [dP (by simp;omega),List.getElem_append_left (by omega)];exact (dP (by omega)).symm
    rw [this];exact hp i' j' e1 h2'
   ·have:gt (rows++[(⟨b,c1,(gt a.rows (i:Int)).es,tl⟩:MS)]) (i':Int)=⟨b,c1,(gt a.rows (i:Int)).es,tl⟩:=wU (A:=rows) (B:=[]) (by omega)
    rw [this]
    obtain rfl:i'=i:=by omega
    exact (qP (m:=a) (by omega) (by omega)).symm
 ·obtain rfl:i=R:=by omega
  repeat refine aB ?_
  refine aGR (fun h0 h1 h2=>by omega) (fun b tl h1 h2=>?_)
  subst h1
  refine aP (by first|exact .inl rfl|exact .inr rfl) rfl rfl _ _ aF aD (⟨b,c,tl,rows,by rw [hlen],by omega,hs,hp,rfl,rfl⟩)
end
theorem aUB {A:Mt} {R r j x:Nat} (hl:A.length=R) (hr:r≤x) (hx:x < R) (hz:∀i,r≤i→i < x→at2 A i j=0) (hn:at2 A x j≠0):lN A j (R - r) r=x:=by
 obtain ⟨f1,f2,f3⟩:=aAD (A:=A) (j:=j) (R - r) r (by omega)
 have f4:=yP (A:=A) (j:=j) (R - r) r (by omega)
 generalize lN A j (R - r) r=y at*
 rcases Nat.lt_trichotomy y x with h|h|h
 ·exact absurd (hz y f1 h) (f3 (by omega))
 ·exact h
 ·exact absurd (f4 x hr h) hn
theorem aXR {A:Mt} {R r j:Nat} (hl:A.length=R) (hr:r≤R) (hz:∀i,r≤i→i < R→at2 A i j=0):lN A j (R - r) r=R:=by
 obtain ⟨f1,f2,f3⟩:=aAD (A:=A) (j:=j) (R - r) r (by omega)
 generalize lN A j (R - r) r=y at*
 rcases Nat.lt_or_ge y R with h|h
 ·exact absurd (hz y f1 h) (f3 (by omega))
 ·omega
theorem aXI {A E:Mt} {pv:List Nat} {R j x:Nat} (h:eP A j=(E,pv)) (hl:E.length=R) (hr:pv.length≤x) (hx:x < R) (hz:∀i,pv.length≤i→i < x→at2 E i j=0) (hn:at2 E x j≠0):eP A (j+1)=(vW E pv.length j x,pv++[j]):=by
 rw [uJ,h]
 unfold aNK
 simp only
 rw [hl,aUB hl hr hx hz hn,if_pos hx]
theorem aPE {A E:Mt} {pv:List Nat} {R j:Nat} (h:eP A j=(E,pv)) (hl:E.length=R) (hr:pv.length≤R) (hz:∀i,pv.length≤i→i < R→at2 E i j=0):eP A (j+1)=(E,pv):=by
 rw [uJ,h]
 unfold aNK
 simp only
 rw [hl,aXR hl hr hz,if_neg (by omega)]
theorem aBA {A E:Mt} {pv:List Nat} {R j:Nat} (h:eP A j=(E,pv)) (hl:E.length=R) (hr:pv.length=R):∀d,eP A (j+d)=(E,pv)
 |0=>h
 |d+1=>by
  have:=aBA h hl hr d
  rw [←Nat.add_assoc]
  exact aPE this hl (by omega) (fun i h1 h2=>by omega)
theorem aUH {E:Mt} {R C:Nat} (h:qG E R C):E=xC R C (at2 E):=by
 apply List.ext_getElem
 ·simp [xC,h.1]
 ·intro i h1 h2
  have hi:i < R:=by rw [←h.1];exact h1
  have hrow:rowAt E i=E[i]:=by simp [rowAt,List.getD,h1]
  have hc:=h.2 i hi
  rw [hrow] at hc
  apply List.ext_getElem
  ·simp [xC,hc]
  ·intro j h3 h4
   simp only [xC,List.getElem_map,List.getElem_range]
   unfold at2
   rw [hrow]
   simp [List.getD,h3]
theorem aMT {α:Type} [Inhabited α] {rows:List α} {r k:Nat} (hr:r < rows.length) (hk:k < rows.length):(st (st rows (r:Int) (gt rows (k:Int))) (k:Int) (gt rows (r:Int))).Perm rows:=by
 unfold st
 simp only [Int.toNat_natCast]
 by_cases h:r=k
 ·subst h
  rw [dP hr,List.set_getElem_self,List.set_getElem_self]
 ·have hr':r < ((rows.set r (gt rows (k:Int))).set k (gt rows (r:Int))).length:=by simpa using hr
  have hk':k < ((rows.set r (gt rows (k:Int))).set k (gt rows (r:Int))).length:=by simpa using hk
  have h1:=qC _ r k hr' hk' h
  have h2:=qC rows r k hr hk h
  have e:jS ((rows.set r (gt rows (k:Int))).set k (gt rows (r:Int))) r k=jS rows r k:=by
   have h3:=rM (rows.set r (gt rows (k:Int))) k r (gt rows (r:Int)) (Ne.symm h)
   have h4:=rM rows r k (gt rows (k:Int)) h
   have c:∀l:List α,jS l k r=jS l r k:=fun l=>by unfold jS;rw [Nat.max_comm,Nat.min_comm]
   rw [c,c,h4] at h3
   exact h3
  rw [e] at h1
  have g1:((rows.set r (gt rows (k:Int))).set k (gt rows (r:Int)))[r]'hr'=rows[k]:=by
   rw [List.getElem_set_ne (Ne.symm h),List.getElem_set_self,dP hk]
  have g2:((rows.set r (gt rows (k:Int))).set k (gt rows (r:Int)))[k]'hk'=rows[r]:=by
   rw [List.getElem_set_self,dP hr]
  rw [g1,g2] at h1
  exact (h1.trans (List.Perm.swap _ _ _)).trans h2.symm
theorem aXS {α:Type} [Inhabited α] {rows:List α} {r k t:Nat} (hr:r < rows.length) (hk:k < rows.length):gt (st (st rows (r:Int) (gt rows (k:Int))) (k:Int) (gt rows (r:Int))) (t:Int)=gt rows ((tr r k t:Nat):Int):=by
 rw [aKX _ (by rw [dI];omega) (by omega),aKX _ (by omega) (by omega)]
 simp only [tr]
 by_cases e1:t=k
 ·subst e1
  rw [if_pos rfl]
  by_cases e2:t=r
  ·rw [if_pos e2,e2]
  ·rw [if_neg e2,if_pos rfl]
 ·rw [if_neg (by omega)]
  by_cases e2:t=r
  ·rw [if_pos (by omega),if_pos e2]
  ·rw [if_neg (by omega),if_neg e2,if_neg e1]
theorem Hv.elS {I:List aM} {rows:List MS} {i j:Int} {k m:Nat} (h:iR rows k∈I) (hi:0≤i∧i < rows.length) (hj:0≤j∧j < (gt rows i).es.length) (hk:k≤m):Hv I (bW (gt (gt rows i).es j) m):=
 ⟨fun X w hw=>((hw _ h:AllS rows k X w).go _ (bD hi) _ (bD hj)).mono hk⟩
theorem Hv.permS {I:List aM} {rows rows':List MS} {k:Nat} (h:iR rows k∈I) (hp:rows'.Perm rows):Hv I (iR rows' k):=⟨fun X w hw=>⟨fun r hr=>(hw _ h:AllS rows k X w).go r (hp.mem_iff.1 hr)⟩⟩
theorem aTH {rows:List MS} {i:Nat} {M1:List Ent} (h:i < rows.length):iZ (gt rows (i:Int))∈rows.map iZ++M1:=List.mem_append_left _ (List.mem_map.2 ⟨_,bD (by omega),rfl⟩)
theorem bCE {M1:List Ent} {r':MS} {rows:List MS} {i:Nat} (h:i < rows.length) {A B C:Ent}:Rep (iZ (gt rows (i:Int))) (iZ r') (A::B::C::(rows.map iZ++M1)) (A::B::C::((rows.set i r').map iZ++M1)):= .there (repS2 h)
theorem aHD {rows:List MS} {R C i j t:Nat} {e:RE} (h:Shp rows R C) (hi:i < R) (ht:t < R) (hne:t≠i):gt (upS rows i j e) (t:Int)=gt rows (t:Int):=by rw [aTP h hi ht,if_neg hne]
theorem xJ {rows:List MS} {R C i j c:Nat} {e:RE} (h:Shp rows R C) (hi:i < R) (hj:j < C):gt (gt (upS rows i j e) (i:Int)).es (c:Int)=if c=j then e else gt (gt rows (i:Int)).es (c:Int):=by
 rw [aTP h hi hi,if_pos rfl]
 show gt (st (gt rows (i:Int)).es (j:Int) e) (c:Int)=_
 rw [wQ (by rw [h.row hi];exact hj)]
def rEchO (A:Mt) (R C k:Nat) (M0:List Ent) (I0:List aM) (v:Value) (M:List Ent) (I:List aM):Prop:=
 ∃(bo co:Nat) (tlo:List Value) (rows:List MS) (E:Mt) (pv:List Nat) (q:Option Addr) (c:Nat),v= .tuple #[.slice (some ⟨bo,0,none⟩) R co, .slice q pv.length c]∧R≤co∧Shp rows R C∧eP A C=(E,pv)∧Pw rows R C (at2 E)∧
  M= .row q pv.length c (recs eZ (zs pv)) 3 1:: .blk bo (recs eS rows++tlo) 70::(rows.map iZ++M0)∧I=iR rows k::I0
def rEchP (A:Mt) (R C k:Nat) (M0:List Ent) (I0:List aM) (v:Value) (M:List Ent) (I:List aM):Prop:=
 M0=M∧∃(m:MX) (pv:List Nat) (q:Option Addr) (c:Nat),v= .tuple #[mv m, .slice q pv.length c]∧eP A C=(m.q,pv)∧m.dim R C∧I=pvI q pv::iB m k::I0
section
variable {X:List Nat} {w0:World} {M0:List Ent} {I0:List aM}
theorem aVC {a:MX} {R C k0:Nat} (hb:kb k0 C≤20000000000) (hR:1≤R∧R≤100) (hC:1≤C∧C≤100) (da:a.dim R C) (ha:iB a k0∈I0):CD Tryz.prog 142 [mv a] X w0 M0 I0 (rEchO a.q R C (kb k0 C) M0 I0):=by
 have lR:=da.1
 have lC:(gt a.rows 0).es.length=C:=da.row (i:=0) (by omega)
 have hdim:=aIO da
 have hCo:=fun M0 I0 h=>aUD (X:=X) (w0:=w0) (M0:=M0) (I0:=I0) (a:=a) (k0:=k0) hR hC da h
 refine aX (φ:=aH (a).p (recs eL (a).rows)) (Hv.xsl aA) ?_
 refine aS Tryz.func142 rfl Tryz.ntmps142 rfl ?_
 repeat (first|(refine aB ?_)|(refine bM ?_;apply bI;exact eY;exact rfl;exact aA;exact AtsZ.app (AtsZ.r iC);exact rfl;exact rfl))
 repeat refine aB ?_
 (refine aQ rfl (hCo _ _ aA) ?_;rintro _ _ _ ⟨bo,co,tlo,rows0,rfl,hco,hs0,hp0,rfl,rfl⟩;refine aL ?_)
 clear hCo
 repeat (first|(refine aB ?_)|(refine bM ?_;apply bI;exact eY;exact rfl;exact aA;exact AtsZ.app (AtsZ.r iC);exact rfl;exact rfl))
 repeat refine aB ?_
 (refine gX (cs:=recs eZ []) ([]) rfl (fun bp=>?_);refine gF (mm:=0) 1 .here rfl (by omega) ?_)
 repeat (first|(refine aB ?_)|(refine bM ?_;apply bI;exact eY;exact rfl;exact aA;exact AtsZ.app (AtsZ.r iC);exact rfl;exact rfl))
 repeat refine aB ?_
 refine bX [0,4] rfl (fun k G M I=>∃(j r:Nat) (rows:List MS) (E:Mt) (pv:List Nat) (q:Option Addr) (c:Nat),j≤C∧k=C - j∧pv.length=r∧eP a.q j=(E,pv)∧r≤R∧r≤j∧Shp rows R C∧Pw rows R C (at2 E)∧G=[(5, .slice q r c),(6, .int .i64 j)]∧M= .row q r c (recs eZ (zs pv)) 3 1:: .blk bo (recs eS rows++tlo) 70::(rows.map iZ++M0)∧I=iR rows (kb k0 j)::aH a.p (recs eL a.rows)::I0) (C) _ _ _ dE aF aD (⟨0,0,rows0,a.q,[],_,_,by omega,rfl,rfl,rfl,by omega,by omega,hs0,hp0,rfl,rfl,rfl⟩) ?_
 rintro kk G M I ⟨j,r,rows,E,pv,q,c,hj,rfl,hr,hred,hpR,hpj,hs,hp,rfl,rfl,rfl⟩
 obtain ⟨hdE,s,hRd⟩:=iJ hdim j hj
 rw [hred] at hdE hRd
 simp only at hdE hRd
 have hEl:=hdE.1
 have hlen:=hs.len
 have hzl:(zs pv).length=r:=by simp [hr]
 by_cases hjC:j < C
 ·by_cases hrR:r < R
  ·have hkj:kb k0 (j+1)≤20000000000:=Nat.le_trans (sM k0 (by omega)) hb
   have hkj1:kb k0 (j+1)=4*kb k0 j+1:=rfl
   obtain ⟨kj,hkj0⟩:∃x,kb k0 j=x:=⟨_,rfl⟩
   rw [hkj0] at hkj1 ⊢
   repeat (first|(refine aB ?_)|(refine bM ?_;apply bI;exact eY;exact rfl;exact aA;exact AtsZ.app (AtsZ.r iC);exact rfl;exact rfl))
   repeat refine aB ?_
   refine lV [0,4,5,6,7] rfl (fun k G M I=>∃(x:Nat) (a1:Int),r≤x∧x≤R∧k=R - x∧((a1= -1∧∀i:Nat,r≤i→i < x→at2 E i j=0)∨(a1+1=x∧r < x∧at2 E (x - 1) j≠0∧∀i:Nat,r≤i→i < x - 1→at2 E i j=0))∧G=[(8, .int .i64 a1),(9, .int .i64 x)]∧M= .row q r c (recs eZ (zs pv)) 3 1:: .blk bo (recs eS rows++tlo) 70::(rows.map iZ++M0)∧I=iR rows kj::aH a.p (recs eL a.rows)::I0) (R - r) (⟨r, -1,by omega,by omega,rfl, .inl ⟨rfl,fun i h1 h2=>by omega⟩,rfl,rfl,rfl⟩) ?_
   rintro kk G M I ⟨x,a1,hrx,hxR,rfl,hcase,rfl,rfl,rfl⟩
   rcases hcase with ⟨rfl,hz⟩|⟨ha1,hrx2,hn,hz⟩
   ·by_cases hx:x < R
    ·have hrow:=hs.row hx
     have hmx:=aTH (rows:=rows) (i:=x) (M1:=M0) (by omega)
     have hat:=hp x j hx hjC
     have hSg:=fun M0 I0 h=>rQ (X:=X) (w0:=w0) (M0:=M0) (I0:=I0) (e:=gt (gt rows (x:Int)).es (j:Int)) (k:=kj) (by omega) h
     refine bH (φ:=bW (gt (gt rows (x:Int)).es (j:Int)) kj) (Hv.elS (k:=kj) aA (by omega) (by omega) (Nat.le_refl _)) ?_
     by_cases h0:at2 E x j=0
     ·rw [←hat] at h0
      rw [(nO _).2 h0] at hSg
      repeat (first|(refine aB ?_)|(refine bM ?_;apply bI;exact eY;exact rfl;exact aA;exact AtsZ.app (AtsZ.r iC);exact rfl;exact rfl))
      repeat refine aB ?_
      refine dK rfl (hSg _ _ (Hv.mem aA)) ?_
      repeat (first|(refine aB ?_)|(refine bM ?_;apply bI;exact eY;exact rfl;exact aA;exact AtsZ.app (AtsZ.r iC);exact rfl;exact rfl))
      repeat refine aB ?_
      refine gJ (R - (x+1)) (⟨x+1, -1,by omega,by omega,rfl, .inl ⟨rfl,fun i h1 h2=>?_⟩,rfl,rfl,rfl⟩)
      by_cases e:i=x
      ·subst e;rw [←hat];exact h0
      ·exact hz i h1 (by omega)
     ·have h0':=h0
      rw [←hat] at h0'
      have hs1:¬(gt (gt rows (x:Int)).es (j:Int)).q.num.sign=0:=fun h=>h0' ((nO _).1 h)
      generalize (gt (gt rows (x:Int)).es (j:Int)).q.num.sign=sg1 at*
      repeat (first|(refine aB ?_)|(refine bM ?_;apply bI;exact eY;exact rfl;exact aA;exact AtsZ.app (AtsZ.r iC);exact rfl;exact rfl))
      repeat refine aB ?_
      refine dK rfl (hSg _ _ (Hv.mem aA)) ?_
      repeat (first|(refine aB ?_)|(refine bM ?_;apply bI;exact eY;exact rfl;exact aA;exact AtsZ.app (AtsZ.r iC);exact rfl;exact rfl))
      repeat refine aB ?_
      refine gJ (R - (x+1)) (⟨x+1,(x:Int),by omega,by omega,rfl, .inr ⟨by omega,by omega,by rw [Nat.add_sub_cancel];exact h0,fun i h1 h2=>hz i h1 (by omega)⟩,rfl,rfl,rfl⟩)
    ·obtain rfl:x=R:=by omega
     repeat (first|(refine aB ?_)|(refine bM ?_;apply bI;exact eY;exact rfl;exact aA;exact AtsZ.app (AtsZ.r iC);exact rfl;exact rfl))
     repeat refine aB ?_
     refine dF (φ:=iR rows (kb k0 (j+1))) (Hv.monoS (k:=kj) aA (by omega)) ?_
     refine gJ (C - (j+1)) (⟨j+1,r,rows,E,pv,q,c,by omega,rfl,hr,aPE hred hEl (by omega) (fun i h1 h2=>hz i (by omega) h2),hpR,by omega,hs,hp,rfl,rfl,rfl⟩)
   ·obtain ⟨y,rfl⟩:∃y,x=y+1:=⟨x - 1,by omega⟩
    rw [Nat.add_sub_cancel] at hn hz
    obtain rfl:a1=(y:Int):=by omega
    have hyR:y < R:=by omega
    rcases Nat.lt_or_ge (y+1) R with hy1|hy1 <;>(
     repeat (first|(refine aB ?_)|(refine bM ?_;apply bI;exact eY;exact rfl;exact aA;exact AtsZ.app (AtsZ.r iC);exact rfl;exact rfl))
     repeat refine aB ?_
     (repeat refine aG ?_);refine bA 0 [0,1,2,3,4,5,6,7,8,9,10,11,12,13,14,15] [0,0,1,1,0,0,0,0,1,1,1,0,0,0,0,0] mixed (by kernel_rfl) ?_
     repeat refine yXh ?_
     refine mX rfl rfl rfl jL (StAt.app (StAt.r1 (gt rows (y:Int)) (by omega) rfl)) rfl rfl ⟨okF,?_⟩
     repeat refine yXh ?_
     refine mX rfl rfl rfl jL (StAt.app (StAt.r1 (gt rows (r:Int)) (by rw [dI];omega) rfl)) rfl rfl ⟨okF,?_⟩
     obtain ⟨rows2,hrows2⟩:∃rows2,rows2=st (st rows (r:Int) (gt rows (y:Int))) (y:Int) (gt rows (r:Int)):=⟨_,rfl⟩
     have hsp:=aMT (rows:=rows) (r:=r) (k:=y) (by omega) (by omega)
     have hgs:∀t:Nat,gt rows2 (t:Int)=gt rows ((tr r y t:Nat):Int):=fun t=>by rw [hrows2];exact aXS (by omega) (by omega)
     rw [←hrows2] at hsp ⊢
     have hs2:Shp rows2 R C:=⟨by rw [hsp.length_eq];exact hlen,fun r hr=>hs.col r (hsp.mem_iff.1 hr)⟩
     have hp2:∀t b:Nat,t < R→b < C→(gt (gt rows2 (t:Int)).es (b:Int)).q=at2 E (tr r y t) b:=fun t b ht hb=>by rw [hgs];exact hp _ b (zY hrR hyR ht) hb
     clear hrows2
     refine zS (M':= .row q r c (recs eZ (zs pv)) 3 1:: .blk bo (recs eS rows2++tlo) 70::(rows2.map iZ++M0)) (List.Perm.cons _ (List.Perm.cons _ ((hsp.symm.map iZ).append_right M0))) ?_
     refine cK (φ:=iR rows2 kj) (Hv.permS (k:=kj) aA hsp) ?_
     have hlen2:=hs2.len
     have hrow2:=hs2.row hrR
     have hmr:=aTH (rows:=rows2) (i:=r) (M1:=M0) (by omega)
     have htr:tr r y r=y:=by simp [tr]
     have hpq:=hp2 r j hrR hjC
     rw [htr] at hpq
     obtain ⟨p,hpp⟩:∃p,gt (gt rows2 (r:Int)).es (j:Int)=p:=⟨_,rfl⟩
     repeat (first|(refine aB ?_)|(refine bM ?_;apply bI;exact eY;exact rfl;exact aA;exact AtsZ.app (AtsZ.r iC);exact rfl;exact rfl))
     repeat refine aB ?_
     refine dS (fun b10=>?_)
     repeat (first|(refine aB ?_)|(refine bM ?_;apply bI;exact eY;exact rfl;exact aA;exact AtsZ.app (AtsZ.r iC);exact rfl;exact rfl))
     repeat refine aB ?_
     refine bH (φ:=bW (gt (gt rows2 (r:Int)).es (j:Int)) kj) (Hv.elS (k:=kj) aA (by omega) (by omega) (Nat.le_refl _)) ?_
     rw [hpp] at hpq ⊢
     have hp0:p.q≠0:=by rw [hpq];exact hn
     refine bH (φ:=iR rows2 (kj+kj)) (Hv.monoS (k:=kj) aA (by omega)) ?_
     clear hmr
     refine rY (M':= .blk b10 (eR p) 77:: .row q r c (recs eZ (zs pv)) 3 1:: .blk bo (recs eS rows2++tlo) 70::(rows2.map iZ++M0)) (I':=iR rows2 (kj+kj)::bW p kj::iR rows2 kj::aH a.p (recs eL a.rows)::I0) SubP.refl aD ?_
     refine lV [0,4,5,6,7,10] rfl (fun k G M I=>∃(x:Nat) (rows3:List MS),x≤C∧k=C - x∧Shp rows3 R C∧(∀t:Nat,t < R→t≠r→gt rows3 (t:Int)=gt rows2 (t:Int))∧(∀b:Nat,x≤b→gt (gt rows3 (r:Int)).es (b:Int)=gt (gt rows2 (r:Int)).es (b:Int))∧(∀b:Nat,b < x→(gt (gt rows3 (r:Int)).es (b:Int)).q=(gt (gt rows2 (r:Int)).es (b:Int)).q / p.q)∧G=[(11, .int .i64 x)]∧M= .blk b10 (eR p) 77:: .row q r c (recs eZ (zs pv)) 3 1:: .blk bo (recs eS rows3++tlo) 70::(rows3.map iZ++M0)∧I=iR rows3 (kj+kj)::bW p kj::iR rows2 kj::aH a.p (recs eL a.rows)::I0) (C) (⟨0,rows2,by omega,rfl,hs2,fun _ _ _=>rfl,fun _ _=>rfl,fun b hb=>by omega,rfl,rfl,rfl⟩) ?_
     rintro kk G M I ⟨x,rows3,hx,rfl,hs3,hk3,hk3r,hd3,rfl,rfl,rfl⟩
     have hlen3:=hs3.len
     have hrow3:=hs3.row hrR
     by_cases hxC:x < C
     ·have hmr:=aTH (rows:=rows3) (i:=r) (M1:=M0) (by omega)
      have hge:=hk3r x (Nat.le_refl _)
      have hve:∀I,iR rows2 kj∈I→Hv I (bW (gt (gt rows3 (r:Int)).es (x:Int)) kj):=fun I h=>by rw [hge];exact Hv.elS h (by omega) (by omega) (Nat.le_refl _)
      repeat (first|(refine aB ?_)|(refine bM ?_;apply bI;exact eY;exact rfl;exact aA;exact AtsZ.app (AtsZ.r iC);exact rfl;exact rfl))
      repeat refine aB ?_
      (repeat refine aG ?_);refine bA 1 [0,1,2,3,4,5,6,7,8,9,10,11,12,13,14,15,16,17,18] [1,1,1,1,1,1,1,1,1,1,1,0,0,0,0,0,1,0,0] mixed (by kernel_rfl) ?_
      repeat (first|(refine aB ?_)|(refine bM ?_;apply bI;exact eY;exact rfl;exact aA;exact AtsZ.app (AtsZ.r iC);exact rfl;exact rfl))
      repeat refine aB ?_
      (refine aQ rfl (aBQ (k:=kj) (m:=kj) (by omega) hp0 (hve _ aA) (Hv.mem aA)) ?_;rintro _ _ _ ⟨rfl,e,rfl,he,rfl⟩;refine aL ?_)
      repeat refine yXh ?_
      refine fO (vs:=eR e) rfl rfl rfl (Ones.one e) (bCE (rows:=rows3) (i:=r) (r':=upR (gt rows3 (r:Int)) x e) (by omega)) (StAts.app (StAts.r (enc:=eR) (ms:=(gt rows3 (r:Int)).es) (i:=(x:Int)) e (by omega) rfl)) rfl rfl ⟨okF,?_⟩
      rw [aPK]
      refine cK (φ:=iR (upS rows3 r x e) (kj+kj)) (Hv.upS hs3 hrR aA aA) ?_
      rw [←aMA (i:=r) (j:=x) (e:=e) hs3 hrR]
      repeat (first|(refine aB ?_)|(refine bM ?_;apply bI;exact eY;exact rfl;exact aA;exact AtsZ.app (AtsZ.r iC);exact rfl;exact rfl))
      repeat refine aB ?_
      refine gJ (C - (x+1)) (⟨x+1,upS rows3 r x e,by omega,rfl,hs3.up hrR,fun t ht hne=>?_,fun b hb=>?_,fun b hb=>?_,rfl,rfl,rfl⟩)
      ·rw [aHD hs3 hrR ht hne];exact hk3 t ht hne
      ·rw [xJ hs3 hrR hxC,if_neg (by omega)];exact hk3r b (by omega)
      ·rw [xJ hs3 hrR hxC]
       by_cases e1:b=x
       ·subst e1;rw [if_pos rfl,he,hge]
       ·rw [if_neg e1];exact hd3 b (by omega)
     ·obtain rfl:x=C:=by omega
      repeat (first|(refine aB ?_)|(refine bM ?_;apply bI;exact eY;exact rfl;exact aA;exact AtsZ.app (AtsZ.r iC);exact rfl;exact rfl))
      repeat refine aB ?_
      refine bH (φ:=iR rows3 (4*kj+1)) (Hv.monoS (k:=kj+kj) aA (by omega)) ?_
      refine rY (M':= .row q r c (recs eZ (zs pv)) 3 1:: .blk bo (recs eS rows3++tlo) 70::(rows3.map iZ++M0)) (I':=iR rows3 (4*kj+1)::iR rows3 (kj+kj)::iR rows2 kj::aH a.p (recs eL a.rows)::I0) (SubP.drop SubP.refl) aD ?_
      refine lV [0,4,5,6,7] rfl (fun k G M I=>∃(i:Nat) (rows4:List MS),i≤R∧k=R - i∧Shp rows4 R x∧(∀t:Nat,t < R→(i≤t∨t=r)→gt rows4 (t:Int)=gt rows3 (t:Int))∧(∀t b:Nat,t < i→t≠r→b < x→(gt (gt rows4 (t:Int)).es (b:Int)).q=(gt (gt rows2 (t:Int)).es (b:Int)).q - (gt (gt rows2 (t:Int)).es (j:Int)).q*(gt (gt rows3 (r:Int)).es (b:Int)).q)∧G=[(12, .int .i64 i)]∧M= .row q r c (recs eZ (zs pv)) 3 1:: .blk bo (recs eS rows4++tlo) 70::(rows4.map iZ++M0)∧I=iR rows4 (4*kj+1)::iR rows3 (kj+kj)::iR rows2 kj::aH a.p (recs eL a.rows)::I0) (R) (⟨0,rows3,by omega,rfl,hs3,fun _ _ _=>rfl,fun t b ht=>by omega,rfl,rfl,rfl⟩) ?_
      rintro kk G M I ⟨i,rows4,hi,rfl,hs4,hk4,hd4,rfl,rfl,rfl⟩
      have hlen4:=hs4.len
      by_cases hiR:i < R
      ·have hrow4:=hs4.row hiR
       have hmi:=aTH (rows:=rows4) (i:=i) (M1:=M0) (by omega)
       have hg4:=hk4 i hiR (.inl (Nat.le_refl _))
       by_cases hir:i=r
       ·repeat (first|(refine aB ?_)|(refine bM ?_;apply bI;exact eY;exact rfl;exact aA;exact AtsZ.app (AtsZ.r iC);exact rfl;exact rfl))
        repeat refine aB ?_
        refine dS (fun b13=>?_)
        repeat (first|(refine aB ?_)|(refine bM ?_;apply bI;exact eY;exact rfl;exact aA;exact AtsZ.app (AtsZ.r iC);exact rfl;exact rfl))
        repeat refine aB ?_
        refine gJ (R - (i+1)) (⟨i+1,rows4,by omega,rfl,hs4,fun t ht h=>hk4 t ht (by omega),fun t b ht hne hb=>hd4 t b (by omega) hne hb,rfl,rfl,rfl⟩)
       ·have hg3:=hk3 i hiR hir
        have hg2:gt rows4 (i:Int)=gt rows2 (i:Int):=hg4.trans hg3
        have hrow2i:=hs2.row hiR
        obtain ⟨f,hf⟩:∃f,gt (gt rows4 (i:Int)).es (j:Int)=f:=⟨_,rfl⟩
        have hf2:gt (gt rows2 (i:Int)).es (j:Int)=f:=by rw [←hg2];exact hf
        have hSg:=fun M0 I0 h=>rQ (X:=X) (w0:=w0) (M0:=M0) (I0:=I0) (e:=f) (k:=kj) (by omega) h
        by_cases h0:f.q=0
        ·rw [(nO _).2 h0] at hSg
         repeat (first|(refine aB ?_)|(refine bM ?_;apply bI;exact eY;exact rfl;exact aA;exact AtsZ.app (AtsZ.r iC);exact rfl;exact rfl))
         repeat refine aB ?_
         refine dS (fun b13=>?_)
         rw [hf]
         repeat (first|(refine aB ?_)|(refine bM ?_;apply bI;exact eY;exact rfl;exact aA;exact AtsZ.app (AtsZ.r iC);exact rfl;exact rfl))
         repeat refine aB ?_
         refine cK (φ:=bW f kj) (by rw [←hf2];exact Hv.elS (k:=kj) aA (by omega) (by omega) (Nat.le_refl _)) ?_
         refine dK rfl (hSg _ _ (Hv.mem aA)) ?_
         repeat (first|(refine aB ?_)|(refine bM ?_;apply bI;exact eY;exact rfl;exact aA;exact AtsZ.app (AtsZ.r iC);exact rfl;exact rfl))
         repeat refine aB ?_
         refine gJ (R - (i+1)) (⟨i+1,rows4,by omega,rfl,hs4,fun t ht h=>hk4 t ht (by omega),fun t b ht hne hb=>?_,rfl,rfl,rfl⟩)
         by_cases e:t=i
         ·subst e;rw [hg2,hf2,h0];grind
         ·exact hd4 t b (by omega) hne hb
        ·have hs1:¬f.q.num.sign=0:=fun h=>h0 ((nO _).1 h)
         generalize f.q.num.sign=sg1 at*
         repeat (first|(refine aB ?_)|(refine bM ?_;apply bI;exact eY;exact rfl;exact aA;exact AtsZ.app (AtsZ.r iC);exact rfl;exact rfl))
         repeat refine aB ?_
         refine dS (fun b13=>?_)
         rw [hf]
         repeat (first|(refine aB ?_)|(refine bM ?_;apply bI;exact eY;exact rfl;exact aA;exact AtsZ.app (AtsZ.r iC);exact rfl;exact rfl))
         repeat refine aB ?_
         refine cK (φ:=bW f kj) (by rw [←hf2];exact Hv.elS (k:=kj) aA (by omega) (by omega) (Nat.le_refl _)) ?_
         refine dK rfl (hSg _ _ (Hv.mem aA)) ?_
         repeat (first|(refine aB ?_)|(refine bM ?_;apply bI;exact eY;exact rfl;exact aA;exact AtsZ.app (AtsZ.r iC);exact rfl;exact rfl))
         repeat refine aB ?_
         clear hmi
         refine lV [0,4,5,6,7,12,13] rfl (fun k G M I=>∃(z:Nat) (rows5:List MS),z≤x∧k=x - z∧Shp rows5 R x∧(∀t:Nat,t < R→t≠i→gt rows5 (t:Int)=gt rows4 (t:Int))∧(∀b:Nat,z≤b→gt (gt rows5 (i:Int)).es (b:Int)=gt (gt rows2 (i:Int)).es (b:Int))∧(∀b:Nat,b < z→(gt (gt rows5 (i:Int)).es (b:Int)).q=(gt (gt rows2 (i:Int)).es (b:Int)).q - f.q*(gt (gt rows3 (r:Int)).es (b:Int)).q)∧G=[(14, .int .i64 z)]∧M= .blk b13 (eR f) 77:: .row q r c (recs eZ (zs pv)) 3 1:: .blk bo (recs eS rows5++tlo) 70::(rows5.map iZ++M0)∧I=iR rows5 (4*kj+1)::bW f kj::iR rows3 (kj+kj)::iR rows2 kj::aH a.p (recs eL a.rows)::I0) (x) (⟨0,rows4,by omega,rfl,hs4,fun _ _ _=>rfl,fun b _=>by rw [hg2],fun b hb=>by omega,rfl,rfl,rfl⟩) ?_
         rintro kk G M I ⟨z,rows5,hz5,rfl,hs5,hk5,hk5i,hd5,rfl,rfl,rfl⟩
         have hlen5:=hs5.len
         have hrow5:=hs5.row hiR
         by_cases hzC:z < x
         ·have hrow5r:=hs5.row hrR
          have hmi:=aTH (rows:=rows5) (i:=i) (M1:=M0) (by omega)
          have hmr:=aTH (rows:=rows5) (i:=r) (M1:=M0) (by omega)
          have hge:=hk5i z (Nat.le_refl _)
          have hgr:gt rows5 (r:Int)=gt rows3 (r:Int):=by rw [hk5 r hrR (Ne.symm hir)];exact hk4 r hrR (.inr rfl)
          have hve:∀I,iR rows2 kj∈I→Hv I (bW (gt (gt rows5 (i:Int)).es (z:Int)) kj):=fun I h=>by rw [hge];exact Hv.elS h (by omega) (by omega) (Nat.le_refl _)
          have hvr:∀I,iR rows3 (kj+kj)∈I→Hv I (bW (gt (gt rows5 (r:Int)).es (z:Int)) (kj+kj)):=fun I h=>by rw [hgr];exact Hv.elS h (by omega) (by omega) (Nat.le_refl _)
          repeat (first|(refine aB ?_)|(refine bM ?_;apply bI;exact eY;exact rfl;exact aA;exact AtsZ.app (AtsZ.r iC);exact rfl;exact rfl))
          repeat refine aB ?_
          (repeat refine aG ?_);refine bA 2 [0,1,2,3,4,5,6,7,8,9,10,11,12,13,14,15,16,17,18,19,20,21,22,23] [2,2,2,2,2,2,2,2,2,2,2,1,1,2,2,2,2,2,2,1,0,0,0,0] mixed (by kernel_rfl) ?_
          repeat (first|(refine aB ?_)|(refine bM ?_;apply bI;exact eY;exact rfl;exact aA;exact AtsZ.app (AtsZ.r iC);exact rfl;exact rfl))
          repeat refine aB ?_
          (refine aQ rfl (wE (k:=kj) (m:=kj+kj) (by omega) (Hv.mem aA) (hvr _ aA)) ?_;rintro _ _ _ ⟨rfl,e1,rfl,he1,rfl⟩;refine aL ?_)
          (refine aQ rfl (aKJ (k:=kj) (m:=kj+(kj+kj)) (by omega) (hve _ aA) (Hv.mem aA)) ?_;rintro _ _ _ ⟨rfl,e,rfl,he,rfl⟩;refine aL ?_)
          repeat refine yXh ?_
          refine fO (vs:=eR e) rfl rfl rfl (Ones.one e) (bCE (rows:=rows5) (i:=i) (r':=upR (gt rows5 (i:Int)) z e) (by omega)) (StAts.app (StAts.r (enc:=eR) (ms:=(gt rows5 (i:Int)).es) (i:=(z:Int)) e (by omega) rfl)) rfl rfl ⟨okF,?_⟩
          rw [aPK]
          refine cK (φ:=bW e (4*kj+1)) (Hv.q (k:=kj+(kj+(kj+kj))+1) aA (by omega)) ?_
          refine cK (φ:=iR (upS rows5 i z e) (4*kj+1)) (Hv.upS hs5 hiR aA aA) ?_
          rw [←aMA (i:=i) (j:=z) (e:=e) hs5 hiR]
          repeat (first|(refine aB ?_)|(refine bM ?_;apply bI;exact eY;exact rfl;exact aA;exact AtsZ.app (AtsZ.r iC);exact rfl;exact rfl))
          repeat refine aB ?_
          refine gJ (x - (z+1)) (⟨z+1,upS rows5 i z e,by omega,rfl,hs5.up hiR,fun t ht hne=>?_,fun b hb=>?_,fun b hb=>?_,rfl,rfl,rfl⟩)
          ·rw [aHD hs5 hiR ht hne];exact hk5 t ht hne
          ·rw [xJ hs5 hiR hzC,if_neg (by omega)];exact hk5i b (by omega)
          ·rw [xJ hs5 hiR hzC]
           by_cases e2:b=z
           ·subst e2;rw [if_pos rfl,he,he1,hge,hgr]
           ·rw [if_neg e2];exact hd5 b (by omega)
         ·obtain rfl:z=x:=by omega
          repeat (first|(refine aB ?_)|(refine bM ?_;apply bI;exact eY;exact rfl;exact aA;exact AtsZ.app (AtsZ.r iC);exact rfl;exact rfl))
          repeat refine aB ?_
          refine gJ (R - (i+1)) (⟨i+1,rows5,by omega,rfl,hs5,fun t ht h=>?_,fun t b ht hne hb=>?_,rfl,rfl,rfl⟩)
          ·rw [hk5 t ht (by omega)];exact hk4 t ht (by omega)
          ·by_cases e:t=i
           ·subst e;rw [hd5 b hb,hf2]
           ·rw [hk5 t (by omega) e];exact hd4 t b (by omega) hne hb
      ·obtain rfl:i=R:=by omega
       have e1:recs eZ (zs pv)++recs eZ [(j:Int)]=recs eZ (zs (pv++[j])):=by rw [←lQ];exact congrArg (recs eZ) (List.map_append (f:=fun (x:Nat)=>(x:Int)) (l₁:=pv) (l₂:=[j])).symm
       have hst:=aJM (A:=E) (R:=i) (C:=x) (r:=r) (j:=j) (x:=y) hdE hrR hyR hjC (fun b hb=>hRd.zero y b (by omega) hyR hb)
       have hPw:Pw rows4 i x (at2 (vW E r j y)):=fun t b ht hb=>by
        rw [hst t b ht hb]
        simp only [elm,htr]
        have h3:=hd3 b hb
        have h2r:=hp2 r b hrR hb
        rw [htr] at h2r
        by_cases e:t=r
        ·rw [if_pos e,e,hk4 r hrR (.inr rfl),h3,h2r,hpq];grind
        ·rw [if_neg e,hd4 t b ht e hb,hp2 t b ht hb,hp2 t j ht hjC,h3,h2r,hpq];grind
       repeat (first|(refine aB ?_)|(refine bM ?_;apply bI;exact eY;exact rfl;exact aA;exact AtsZ.app (AtsZ.r iC);exact rfl;exact rfl))
       repeat refine aB ?_
       refine gX (cs:=recs eZ [(j:Int)]) ([.int .i64 (j:Int)]) rfl (fun b3=>?_)
       refine aNI (len:=1) (news:=recs eZ [(j:Int)]) 1 rfl rfl rfl (Src.blk aA) (by decide) rfl (uD (enc:=eZ) [(j:Int)]) (by omega) (by omega) rfl rfl ?_
       intro a2 c3
       refine aL ?_
       rw [e1]
       repeat (first|(refine aB ?_)|(refine bM ?_;apply bI;exact eY;exact rfl;exact aA;exact AtsZ.app (AtsZ.r iC);exact rfl;exact rfl))
       repeat refine aB ?_
       refine dF (φ:=iR rows4 (kb k0 (j+1))) (Hv.monoS (k:=4*kj+1) aA (by omega)) ?_
       refine gJ (x - (j+1)) (⟨j+1,r+1,rows4,vW E r j y,pv++[j],a2,c3,by omega,rfl,by simp [hr],?_,by omega,by omega,hs4,hPw,rfl,rfl,rfl⟩)
       have:=aXI (x:=y) hred hEl (by omega) hyR (fun t h1 h2=>hz t (by omega) h2) hn
       rwa [hr] at this)
  ·obtain rfl:r=R:=by omega
   have hfull:eP a.q C=(E,pv):=by
    have:=aBA hred hEl hr (C - j)
    rwa [show j+(C - j)=C by omega] at this
   repeat (first|(refine aB ?_)|(refine bM ?_;apply bI;exact eY;exact rfl;exact aA;exact AtsZ.app (AtsZ.r iC);exact rfl;exact rfl))
   repeat refine aB ?_
   refine dF (φ:=iR rows (kb k0 C)) (Hv.monoS (k:=kb k0 j) aA (sM k0 hj)) ?_
   refine gH [2,3] (by first|exact .inl rfl|exact .inr rfl) rfl rfl rfl _ _ aF aD (⟨bo,co,tlo,rows,E,pv,q,c,by rw [hr],hco,hs,hfull,hp,by rw [hr],rfl⟩)
 ·obtain rfl:j=C:=by omega
  repeat (first|(refine aB ?_)|(refine bM ?_;apply bI;exact eY;exact rfl;exact aA;exact AtsZ.app (AtsZ.r iC);exact rfl;exact rfl))
  repeat refine aB ?_
  refine gH [2,3] (by first|exact .inl rfl|exact .inr rfl) rfl rfl rfl _ _ aF aD (⟨bo,co,tlo,rows,E,pv,q,c,by rw [hr],hco,hs,hred,hp,by rw [hr],rfl⟩)
theorem aJJ {a:MX} {R C k0:Nat} (hb:kb k0 C≤20000000000) (hR:1≤R∧R≤100) (hC:1≤C∧C≤100) (da:a.dim R C) (ha:iB a k0∈I0):CD Tryz.prog 142 [mv a] X w0 M0 I0 (rEchP a.q R C (kb k0 C) M0 I0):=by
 refine CD.post (aVC hb hR hC da ha) (fun v M I w h hw=>?_)
 obtain ⟨bo,co,tlo,rows,E,pv,q,c,rfl,hco,hs,hred,hp,rfl,rfl⟩:=h
 obtain ⟨hdE,_⟩:=iJ (aIO da) C (Nat.le_refl _)
 rw [hred] at hdE
 obtain ⟨hq,hd⟩:=q_xs (bo:=bo) (co:=co) hs hp
 have h1:Mem X w0 (.blk bo (recs eS rows++tlo) 70::(rows.map iZ++M0)) (pvI q pv::iR rows (kb k0 C)::I0) w:=hw.freezeR .here
 have h2:=aUO (co:=co) (k:=kb k0 C) h1 (fun r hr=>by have:=hs.col r hr;omega) (by have:=hs.len;omega) (List.Mem.tail _ (List.Mem.head _))
 refine ⟨M0,pvI q pv::iB (MS.x bo co rows) (kb k0 C)::I0,⟨rfl,MS.x bo co rows,pv,q,c,?_,by rw [hq,←aUH hdE];exact hred,hd,rfl⟩,h2.inc (.of fun φ hφ=>?_)⟩
 ·have e1:=hd.1
  show _=Value.tuple #[.slice (MS.x bo co rows).p (MS.x bo co rows).rows.length (MS.x bo co rows).c,_]
  rw [e1];rfl
 ·rcases List.mem_cons.1 hφ with rfl|hφ
  ·exact List.Mem.tail _ (List.Mem.head _)
  ·rcases List.mem_cons.1 hφ with rfl|hφ
   ·exact List.Mem.head _
   ·exact List.Mem.tail _ (List.Mem.tail _ (List.Mem.tail _ hφ))
theorem aWB {a:MX} {R C k0:Nat} (hb:kb k0 C≤20000000000) (hR:1≤R∧R≤100) (hC:1≤C∧C≤100) (da:a.dim R C) (ha:iB a k0∈I0):CD Tryz.prog 72 [mv a] X w0 M0 I0 (fun v M I=>M0=M∧I0=I∧v= .int .i64 ((rk a.q C:Nat):Int)):=by
 have hE:=fun M0 I0 h=>aJJ (X:=X) (w0:=w0) (M0:=M0) (I0:=I0) (a:=a) (k0:=k0) hb hR hC da h
 refine aS Tryz.func72 rfl Tryz.ntmps72 rfl ?_
 repeat refine aB ?_
 (refine aQ rfl (hE _ _ aA) ?_;rintro _ _ _ ⟨rfl,m,pv,q,c,rfl,hm,hd,rfl⟩;refine aL ?_)
 repeat refine aB ?_
 refine aP (by first|exact .inl rfl|exact .inr rfl) rfl rfl _ _ aF aD (⟨rfl,rfl,by unfold rk;rw [hm]⟩)
end
def NlR (A:Mt) (C k:Nat) (M0:List Ent) (I0:List aM) (v:Value) (M:List Ent) (I:List aM):Prop:=
 M0=M∧∃m:MX,v=mv m∧m.q=xY A C∧(∀r∈m.rows,r.es.length=C)∧I=iB m k::I0
theorem Hv.allS1 {I:List aM} {r:MS} {k:Nat} (h:iR [r] k∈I):Hv I (aU r.es k):=⟨fun X w hw=>⟨(hw _ h:AllS [r] k X w).go r List.mem_cons_self⟩⟩
section
variable {X:List Nat} {w0:World} {M:List Ent} {I:List aM}
theorem Mem.blkT {w:World} {b k c:Nat} {es:List RE} {tl:List Value} {ty:TypeId} (hc:es.length≤c) (h:Mem X w0 (.blk b (recs eR es++tl) ty::M) I w) (ha:aU es k∈I):Mem X w0 M (iQ ⟨some ⟨b,0,none⟩,c,es⟩ k::I) w:=by
 have h1:=h.freezeB .here
 refine (h1.add (φ:=iQ ⟨some ⟨b,0,none⟩,c,es⟩ k) ⟨aNZ (h1.sl (List.Mem.head _)),(((h1.imm _ (List.Mem.tail _ ha)).2:AllR es k _ w)).go,⟨hc, .inl (Ok.mk _ _)⟩⟩).inc (.of fun φ hφ=>?_)
 rcases List.mem_cons.1 hφ with rfl|hφ
 ·exact List.Mem.head _
 ·exact List.Mem.tail _ (List.Mem.tail _ hφ)
variable {P:Program} {n:Nat} {Q:Exit→Act→World→Prop} {G:Env}
theorem aZC {cd:Code} {b k c:Nat} {es:List RE} {tl:List Value} {ty:TypeId} (hc:es.length≤c) (ha:aU es k∈I) (h:TD P n cd Q G X w0 M (iQ ⟨some ⟨b,0,none⟩,c,es⟩ k::I)):TD P n cd Q G X w0 (.blk b (recs eR es++tl) ty::M) I:=aFP (fun _ hw=>Mem.blkT hc hw ha) h
end
section
variable {X:List Nat} {w0:World} {M0:List Ent} {I0:List aM}
theorem aPF {p:Option Addr} {l:List Int} {t c:Nat} {x:Int} (hl:l.length=t) (ht:t≤100000) (hp:aH p (recs (eI .i64) l)∈I0):
  CD Tryz.prog 145 [.slice p t c, .int .i64 x] X w0 M0 I0 (fun v M I=>M0=M∧I0=I∧v= .bool (B (x∈l))):=by
 refine aN Tryz.func145 rfl Tryz.ntmps145 rfl ?_
 repeat (refine aB ?_)
 refine bX [0,1] rfl (fun k G M I=>∃i:Nat,i≤t∧k=t - i∧(∀j:Nat,j < i→gt l j≠x)∧G=[(5, .int .i64 i)]∧M0=M∧I0=I) (t) _ _ _ dE aF aD (⟨0,by omega,rfl,fun j hj=>by omega,rfl,rfl,rfl⟩) ?_
 rintro kk G M I ⟨i,hi,rfl,hs,rfl,rfl,rfl⟩
 by_cases h:i < t
 ·by_cases he:gt l i=x
  ·repeat (refine aB ?_)
   refine aP (by first|exact .inl rfl|exact .inr rfl) rfl rfl _ _ aF aD (⟨rfl,rfl,congrArg Value.bool (bJ (by rw [←he];exact bD (by omega))).symm⟩)
  ·repeat (refine aB ?_)
   refine cB (t - (i+1)) _ _ _ (by first|omega|(simp only [List.length_append,List.length_cons,List.length_nil];omega)) dE aF aD (⟨i+1,by omega,rfl,fun j hj=>?_,rfl,rfl,rfl⟩)
   by_cases e:j=i
   ·subst e;exact he
   ·exact hs j (by omega)
 ·repeat (refine aB ?_)
  refine aP (by first|exact .inl rfl|exact .inr rfl) rfl rfl _ _ aF aD (⟨rfl,rfl,congrArg Value.bool (bE (fun h=>by {obtain ⟨j,hj,e⟩:=List.mem_iff_getElem.1 h;exact absurd (by rw [fE hj];exact e) (hs j (by omega))})).symm⟩)
end
end Go.Proofs.YtmmmfphealhapaaGreat

/- Models of numbers: few; the program's one, zero, canonical, combined, prove, Controlled. -/
import Derived.Test.YthhldplegmeolaaGreatZuau
import Derived.Test.YthhldplegmeolaaGreatZuat
import Derived.Test.YthhldplegmeolaaGreatZuar
set_option linter.unusedSimpArgs false
set_option linter.unusedVariables false
set_option maxRecDepth 100000
set_option maxHeartbeats 4000000
namespace Go.Proofs.YthhldplegmeolaaGreat
open Go Go.Fx
theorem zX {q:Rat}:0 < q.num↔0 < q:=by
 have h1:0≤q.num↔0≤q:=Rat.num_nonneg
 have h2:q.num=0↔q=0:=Rat.num_eq_zero
 constructor
 ·intro h
  have a:=h1.1 (by omega)
  have b:q≠0:=fun e=>by have:=h2.2 e;omega
  grind
 ·intro h
  have a:=h1.2 (by grind)
  have b:q.num≠0:=fun e=>by have:=h2.1 e;grind
  omega
def LW.few (m:LW) (R C:Nat):Prop:=(m.a.rows.length≤R∧m.l.shN R 6∧m.p.shN R 6)∧∀r∈m.a.rows,r.shN C 6
instance LW.decFew (m:LW) (R C:Nat):Decidable (m.few R C):=by unfold LW.few;exact inferInstance
structure LE where
 a:MX
 l:RL
 p:RL
abbrev wM (m:LE):Value:= .agg #[mv m.a,lv m.l,lv m.p]
def LE.raw (m:LE):LW:=⟨m.a.raw,m.l.raw,m.p.raw⟩
theorem yA (m:LE):vLW m.raw=wM m:=by
 show Value.agg #[mvW m.a.raw,wE m.l.raw,wE m.p.raw]=_
 rw [aAC,uQ,uQ]
structure IsLE (m:LE) (k:Nat) (X:List Nat) (w:World):Prop where
 a:IsX m.a k X w
 l:IsL m.l k X w
 p:IsL m.p k X w
abbrev eU (m:LE) (k:Nat):aN:=IsLE m k
instance LE.gd (m:LE) (k:Nat):Fx.Good (IsLE m k):=⟨fun X Y w w' h he hY=>⟨Fx.Good.go (φ:=IsX _ _) X Y w w' h.a he hY,Fx.Good.go (φ:=IsL _ _) X Y w w' h.l he hY,Fx.Good.go (φ:=IsL _ _) X Y w w' h.p he hY⟩⟩
theorem Hv.lea {I:List aN} {m:LE} {k:Nat} (h:eU m k∈I):Hv I (gQ m.a k):=⟨fun X w hw=>(hw _ h:IsLE m k X w).a⟩
theorem Hv.lel' {I:List aN} {m:LE} {k:Nat} (h:eU m k∈I):Hv I (dL m.l k):=⟨fun X w hw=>(hw _ h:IsLE m k X w).l⟩
theorem Hv.lep {I:List aN} {m:LE} {k:Nat} (h:eU m k∈I):Hv I (dL m.p k):=⟨fun X w hw=>(hw _ h:IsLE m k X w).p⟩
theorem Hv.leraw {I:List aN} {m:LE} {k:Nat} (h:eU m k∈I) (hk:k≤20000000000):Hv I (rV m.raw):=⟨fun X w hw=>by
 have:=(hw _ h:IsLE m k X w)
 exact ⟨IsX.raw (by omega) this.a,IsL.raw (by omega) this.l,IsL.raw (by omega) this.p⟩⟩
structure LE.fit (m:LE) (R C:Nat):Prop where
 d:m.a.fit R C
 c:C≤24
 l:m.l.es.length=R
 p:m.p.es.length=R
 pos:∀e∈m.p.es,0 < e.q
theorem LE.fit.code {m:LE} {R C:Nat} (h:m.fit R C):m.raw.code=0:=by
 have hok:=h.d.ok
 have hR:m.a.raw.rows.length=R:=by rw [MX.raw_rows];exact h.d.1.1
 have hC:(gt m.a.raw.rows 0).es.length=C:=MX.raw_c0 h.d
 refine LW.code_0 ⟨fun r hr=>(hok.2 r hr).2,RL.raw_good _,RL.raw_good _⟩ ⟨⟨hok.1.1,hok.1.2.1⟩,hok.1.2.2.1,?_⟩ ⟨fun r hr=>(hok.2 r hr).1,?_,?_⟩ (fun e he=>?_)
 ·show (gt m.a.raw.rows 0).es.length≤24;have:=h.c;omega
 ·show (m.l.es.map RE.raw).length=m.a.raw.rows.length;rw [List.length_map,h.l,hR]
 ·show (m.p.es.map RE.raw).length=m.a.raw.rows.length;rw [List.length_map,h.p,hR]
 ·obtain ⟨x,hx,rfl⟩:=List.mem_map.1 (show e∈m.p.es.map RE.raw from he)
  have e1:zI x.raw.n1 x.raw.g1=x.q.num:=sV _
  unfold RW.posi
  rw [e1]
  exact zX.2 (h.pos x hx)
theorem LW.num {m:LW} (hf:(∀r∈m.a.rows,∀e∈r.es,e.Fit)∧(∀e∈m.l.es,e.Fit)∧∀e∈m.p.es,e.Fit) (h:m.code=0):∃(n:LE) (R C:Nat),m=n.raw∧n.fit R C∧R=m.a.rows.length∧C=(gt m.a.rows 0).es.length:=by
 obtain ⟨⟨g1,g2,g3⟩,⟨⟨r1,r2⟩,c1,c2⟩,⟨h1,h2,h3⟩,hp⟩:=LW.code_ok h
 obtain ⟨a,l,p⟩:=m
 simp only at*
 obtain ⟨A,rfl,hA⟩:=aRY hf.1 ⟨⟨r1,r2,c1,by omega⟩,fun r hr=>⟨h1 r hr,g1 r hr⟩⟩
 obtain ⟨L,rfl,hL⟩:=aAU hf.2.1 g2
 obtain ⟨P,rfl,hP⟩:=aAU hf.2.2 g3
 refine ⟨⟨A,L,P⟩,_,_,rfl,⟨hA,c2,by rw [hL];exact h2,by rw [hP];exact h3,fun e he=>?_⟩,rfl,rfl⟩
 have:=hp e.raw (List.mem_map.2 ⟨e,he,rfl⟩)
 have e1:zI e.raw.n1 e.raw.g1=e.q.num:=sV _
 unfold RW.posi at this
 rw [e1] at this
 exact zX.1 this
theorem Mem.fitLW {X:List Nat} {w0 w:World} {M:List Ent} {I:List aN} {m:LW} (h:rV m∈I) (hw:Mem X w0 M I w):(∀r∈m.a.rows,∀e∈r.es,e.Fit)∧(∀e∈m.l.es,e.Fit)∧∀e∈m.p.es,e.Fit:=by
 have:=((hw.imm _ h).2:IsLW m _ w)
 exact ⟨fun r hr e he=>((this.a.row r hr).el e he).fit,fun e he=>(this.l.el e he).fit,fun e he=>(this.p.el e he).fit⟩
theorem LW.few.sml {m:LW} {R C:Nat} (hR:R≤1000∧C≤1000) (h:m.few R C):m.sml:=by
 obtain ⟨⟨h1,h2,h3⟩,h4⟩:=h
 exact ⟨⟨by omega,fun r hr=>⟨by have:=(h4 r hr).1;omega,fun e he=>(((h4 r hr).2 e he).2 (by omega)).sml⟩⟩,⟨by have:=h2.1;omega,fun e he=>((h2.2 e he).2 (by omega)).sml⟩,⟨by have:=h3.1;omega,fun e he=>((h3.2 e he).2 (by omega)).sml⟩⟩
theorem Hv.few {I:List aN} {m:LE} {R C:Nat} (hf:m.raw.few R C) (h:rV m.raw∈I):Hv I (eU m 30):=⟨fun X w hw=>by
 have hh:=(hw _ h:IsLW m.raw X w)
 obtain ⟨⟨h1,h2,h3⟩,h4⟩:=hf
 have lst:∀{r:RL} {n:Nat},r.raw.shN n 6→IsWL r.raw X w→IsL r 30 X w:=fun {r n} h0 hi=>⟨by have:=hi.sl;rw [show r.raw.es=r.es.map RE.raw from rfl,aEV] at this;exact this,fun e he=>aJX ((h0.2 e.raw (List.mem_map.2 ⟨e,he,rfl⟩)).2 (by omega)) (hi.el e.raw (List.mem_map.2 ⟨e,he,rfl⟩)),by have:=hi.cap;rw [show r.raw.es.length=r.es.length from by show (r.es.map RE.raw).length=_;rw [List.length_map]] at this;exact this⟩
 refine ⟨⟨by have:=hh.a.sl;rw [show m.raw.a.rows=m.a.rows.map RL.raw from rfl,aBQ] at this;exact this,fun r hr=>lst (h4 r.raw (List.mem_map.2 ⟨r,hr,rfl⟩)) (hh.a.row r.raw (List.mem_map.2 ⟨r,hr,rfl⟩)),by have:=hh.a.cap;rw [show m.raw.a.rows.length=m.a.rows.length from MX.raw_rows _] at this;exact this⟩,lst h2 hh.l,lst h3 hh.p⟩⟩
section
variable {X:List Nat} {w0:World} {M0:List Ent} {I0:List aN}
theorem mY {m:LE} {R C k:Nat} (hk:k≤20000000000) (f:m.fit R C) (h:eU m k∈I0):CD Tryz.prog 17 [wM m] X w0 M0 I0 (fun v M I=>M0=M∧I0=I∧v= .int .i64 0):=by
 have hR:=f.d.2.1
 have hC:=f.d.2.2
 refine gW (φ:=m.raw.sml) (fun w hw=>?_) (fun hs=>?_)
 ·have hh:=((hw.imm _ h).2:IsLE m k _ w)
  have lst:∀{r:RL},r.es.length≤1000000000→IsL r k (muts M0) w→r.raw.sml:=fun {r} hl hi=>⟨by show (r.es.map RE.raw).length≤_;rw [List.length_map];exact hl,fun e he=>by
   obtain ⟨x,hx,rfl⟩:=List.mem_map.1 (show e∈r.es.map RE.raw from he)
   exact (hi.el x hx).sml hk⟩
  refine ⟨⟨by rw [show m.raw.a.rows.length=m.a.rows.length from MX.raw_rows _,f.d.1.1];omega,fun r hr=>?_⟩,lst (by rw [f.l];omega) hh.l,lst (by rw [f.p];omega) hh.p⟩
  obtain ⟨x,hx,rfl⟩:=List.mem_map.1 (show r∈m.a.rows.map RL.raw from hr)
  exact lst (by rw [f.d.1.2 x hx];omega) (hh.a.row x hx)
 ·refine zU (φ:=rV m.raw) (Hv.leraw h hk) ?_
  have:=aBY (X:=X) (w0:=w0) (M0:=M0) (I0:=rV m.raw::I0) (m:=m.raw) hs (List.Mem.head _)
  rw [yA,f.code] at this
  exact this
end
def apL (R C:Nat) (A:Mt) (x:List Rat):List Rat:=(List.range R).map (fun i=>sm C (fun t=>at2 A i t*x.getD t 0))
def annP (R C:Nat) (A:Mt) (y:List Rat):Prop:=aRN (apL C R (trM R C A) y)
instance annP.dec (R C:Nat) (A:Mt) (y:List Rat):Decidable (annP R C A y):=by unfold annP;exact inferInstance
def ctlL (R C:Nat) (A:Mt):List Bool:=(List.range R).map (fun i=>B (ctl R C A i))
section
variable {X:List Nat} {w0:World} {M0:List Ent} {I0:List aN}
end
end Go.Proofs.YthhldplegmeolaaGreat
namespace Go.Proofs.YthhldplegmeolaaGreat
open Go Go.Fx
def aJS (R C:Nat) (A:Mt) (p l:Nat→Rat):List Rat:=(List.range C).map (fun a=>sm R (fun t=>p t*at2 A t a*l t))
theorem aIO {R i:Nat} {f g:Nat→Rat} {d:Rat} (hi:i < R) (h:∀t,t < R→g t=f t+if t=i then d else 0):sm R g=sm R f+d:=by
 rw [bS h,aCT,rH (n:=R) (p:=i) hi (fun t _ ht=>if_neg ht),if_pos rfl]
def aOC (C:Nat) (a:Nat→Rat) (b:List Rat):Rat:=sm C (fun j=>a j*b.getD j 0)
def solX (C:Nat) (N:Mt) (b:List Rat):List Rat:=apL C C (uA C N) b
def vS (C:Nat) (N:Mt) (b:List Rat) (row:Nat→Rat) (l:Rat):Rat:=aOC C row (solX C N b) - l
def rS (C:Nat) (N:Mt) (row:Nat→Rat) (p:Rat):Rat:=1 - p*aOC C row ((List.range C).map (fun i=>sm C (fun t=>at2 (uA C N) i t*row t)))
def tS (C:Nat) (N:Mt) (b:List Rat) (row:Nat→Rat) (p l:Rat):Rat:=if rS C N row p=0 then 0 else p*(vS C N b row l*vS C N b row l) / rS C N row p
structure Twice (R C i:Nat) (A B:Mt) (p q l m:Nat→Rat) (w:Rat):Prop where
 row:∀t,t < R→∀a,a < C→at2 B t a=at2 A t a
 last:∀a,a < C→at2 B R a=at2 A i a
 pe:∀t,t < R→q t=p t
 pw:q R=w
 le:∀t,t < R→m t=l t
 lw:m R=l i
theorem aKB {R C i:Nat} {A B D:Mt} {p q l m r:Nat→Rat} {w:Rat} (hi:i < R) (h:Twice R C i A B p q l m w) (hD:∀t,t < R→∀a,a < C→at2 D t a=at2 A t a) (hr:∀t,t < R→r t=p t+if t=i then w else 0):aNB (R+1) C B q=aNB R C D r:=by
 unfold aNB
 refine qH (fun a b ha hb=>?_)
 show sm R _+q R*at2 B R a*at2 B R b=_
 rw [h.pw,h.last a ha,h.last b hb,aIO (R:=R) (i:=i) (g:=fun k=>r k*at2 D k a*at2 D k b) (f:=fun k=>q k*at2 B k a*at2 B k b) (d:=w*at2 A i a*at2 A i b) hi (fun t ht=>?_)]
 rw [hr t ht,hD t ht a ha,hD t ht b hb,h.row t ht a ha,h.row t ht b hb,h.pe t ht]
 by_cases e:t=i
 ·subst e;rw [if_pos rfl,if_pos rfl];grind
 ·rw [if_neg e,if_neg e];grind
theorem aKM {R C i:Nat} {A B D:Mt} {p q l m r s:Nat→Rat} {w:Rat} (hi:i < R) (h:Twice R C i A B p q l m w) (hD:∀t,t < R→∀a,a < C→at2 D t a=at2 A t a) (hr:∀t,t < R→r t=p t+if t=i then w else 0) (hs:∀t,t < R→s t=l t):aJS (R+1) C B q m=aJS R C D r s:=by
 unfold aJS
 refine List.map_congr_left (fun a ha=>?_)
 have ha:=List.mem_range.1 ha
 show sm R _+q R*at2 B R a*m R=_
 rw [h.pw,h.last a ha,h.lw,aIO (R:=R) (i:=i) (g:=fun k=>r k*at2 D k a*s k) (f:=fun k=>q k*at2 B k a*m k) (d:=w*at2 A i a*l i) hi (fun t ht=>?_)]
 rw [hr t ht,hD t ht a ha,h.row t ht a ha,h.pe t ht,hs t ht,h.le t ht]
 by_cases e:t=i
 ·subst e;rw [if_pos rfl,if_pos rfl];grind
 ·rw [if_neg e,if_neg e];grind
theorem aRH {n:Nat} {A:Mt} (hA:vQ A n n):rk A n=n↔dt n (at2 A)≠0:=by
 obtain ⟨_,s,hr⟩:=oK hA n (Nat.le_refl _)
 exact hr.iff (Nat.le_refl _)
theorem aLX {C:Nat} {N:Mt} {b:List Rat} {r s:Nat→Rat} {p l:Rat} (h:∀j,j < C→r j=s j):rS C N r p=rS C N s p∧vS C N b r l=vS C N b s l∧tS C N b r p l=tS C N b s p l:=by
 have e1:∀x:List Rat,aOC C r x=aOC C s x:=fun x=>bS (fun j hj=>by rw [h j hj])
 have e2:(List.range C).map (fun i=>sm C (fun t=>at2 (uA C N) i t*r t))=(List.range C).map (fun i=>sm C (fun t=>at2 (uA C N) i t*s t)):=List.map_congr_left (fun i _=>bS (fun t ht=>by rw [h t ht]))
 have h1:rS C N r p=rS C N s p:=by unfold rS;rw [e1,e2]
 have h2:vS C N b r l=vS C N b s l:=by unfold vS;rw [e1]
 exact ⟨h1,h2,by unfold tS;rw [h1,h2]⟩
end Go.Proofs.YthhldplegmeolaaGreat
namespace Go.Proofs.YthhldplegmeolaaGreat
open Go Go.Fx
def prvP (R C:Nat) (A:Mt) (i:Nat) (ct:Bool) (y:List Rat):Prop:=if ct=true then y.length=R∧annP R C A y∧y.getD i 0=((1:Int):Rat) else y.length=C∧apL R C A y=unL R i
instance prvP.dec (R C:Nat) (A:Mt) (i:Nat) (ct:Bool) (y:List Rat):Decidable (prvP R C A i ct y):=by unfold prvP;exact inferInstance
theorem vF {P:Program} {n:Nat} {Q:Exit→Act→World→Prop} {G:Env} {X:List Nat} {w0:World} {M M':List Ent} {I:List aN} {c:Code} {b:Nat} {cs:List Value} {e:TypeId} (hr:Rem (.blk b cs e) M M') (h:TD P n c Q G X w0 M' (aD (some ⟨b,0,none⟩) cs::I)):TD P n c Q G X w0 M I:=aCN (fun _ hw=>hw.freezeB hr) h
section
variable {X:List Nat} {w0:World} {M0:List Ent} {I0:List aN}
end
end Go.Proofs.YthhldplegmeolaaGreat
namespace Go.Proofs.YthhldplegmeolaaGreat
open Go Go.Fx
structure V3 where
 x:Rat
 y:Rat
 z:Rat
def V3.dot (a b:V3):Rat:=a.x*b.x+a.y*b.y+a.z*b.z
def V3.sub (a b:V3):V3:=⟨a.x - b.x,a.y - b.y,a.z - b.z⟩
def V3.along (a:V3) (s:Rat) (b:V3):V3:=⟨a.x+s*b.x,a.y+s*b.y,a.z+s*b.z⟩
structure TE where
 x:RE
 y:RE
 z:RE
instance:Inhabited TE:=⟨⟨default,default,default⟩⟩
abbrev eT (p:TE):List Value:=recs eR [p.x,p.y,p.z]
abbrev tv (p:TE):Value:= .agg (recs eR [p.x,p.y,p.z]).toArray
instance:Sized eT 12:=⟨fun _=>rfl⟩
instance:Ones eT:=⟨fun m u hu=>aAH _ u hu⟩
def TE.v (p:TE):V3:=⟨p.x.q,p.y.q,p.z.q⟩
structure IsT (p:TE) (k:Nat) (X:List Nat) (w:World):Prop where
 x:IsR p.x k X w
 y:IsR p.y k X w
 z:IsR p.z k X w
abbrev isT (p:TE) (k:Nat):aN:=IsT p k
instance (p:TE) (k:Nat):Fx.Good (IsT p k):=⟨fun X Y w w' h he hY=>⟨Fx.Good.go (φ:=IsR _ _) X Y w w' h.x he hY,Fx.Good.go (φ:=IsR _ _) X Y w w' h.y he hY,Fx.Good.go (φ:=IsR _ _) X Y w w' h.z he hY⟩⟩
def TE.l (p:TE) (b:Nat):RL:=⟨some ⟨b,0,none⟩,3,[p.x,p.y,p.z]⟩
def TQ (q:V3) (k:Nat) (M0:List Ent) (I0:List aN) (v:Value) (M:List Ent) (I:List aN):Prop:=M0=M∧∃p:TE,v=tv p∧p.v=q∧I=isT p k::I0
section
variable {X:List Nat} {w0:World} {M0:List Ent} {I0:List aN}
theorem aCU {a b:RL} {ka kb n:Nat} (hn:n≤200) (hK:n*(ka+kb+1)≤100000000000) (la:a.es.length=n) (lb:b.es.length=n) (ha:Hv I0 (dL a ka)) (hb:Hv I0 (dL b kb)):
  CD Tryz.prog 66 [lv a,lv b] X w0 M0 I0 (RQc (aOF n a.q b.q) (n*(ka+kb+1)) M0 I0):=by
 have hW:=fun M0 I0=>kU (X:=X) (w0:=w0) (M0:=M0) (I0:=I0) (x:=0) (by decide) (k:=0) (by decide)
 refine aL (φ:=dL a ka) ha (aL (φ:=dL b kb) hb.cons ?_)
 refine aL (φ:=aD (a).p (recs eR (a).es)) (Hv.lsl aA) ?_
 refine aL (φ:=aD (b).p (recs eR (b).es)) (Hv.lsl aA) ?_
 refine aP Tryz.func66 rfl Tryz.ntmps66 rfl ?_
 refine fG ?_
 refine dG (fun b4=>?_)
 repeat refine aC ?_
 refine gT rfl (hW _ _) (fun e0 he0=>?_)
 repeat refine aC ?_
 refine dG (fun b6=>?_)
 repeat refine aC ?_
 clear hW
 refine pU [1,4,6,16,17] rfl (fun k G M I=>∃(t:Nat) (s:RE),t≤n∧k=n - t∧s.q=sm t (fun t=>a.q.getD t 0*b.q.getD t 0)∧G=[(18, .int .i64 t)]∧M= .blk b6 (eR s) 36:: .blk b4 [.bool false, .slice none 0 0, .bool false, .slice none 0 0] 36::M0∧I=bE s (t*(ka+kb+1))::aD b.p (recs eR b.es)::aD a.p (recs eR a.es)::dL b kb::dL a ka::I0) (n) (⟨0,e0,by omega,rfl,he0,rfl,rfl,by rw [Nat.zero_mul]⟩) ?_
 rintro kk G M I ⟨t,s,ht,rfl,hs,rfl,rfl,rfl⟩
 have hu:t*(ka+kb+1)≤100000000000:=Nat.le_trans (Nat.mul_le_mul_right _ ht) hK
 by_cases htn:t < n
 ·have hu2:(t+1)*(ka+kb+1)=t*(ka+kb+1)+(ka+kb)+1:=by rw [Nat.succ_mul];omega
  have hK2:(t+1)*(ka+kb+1)≤100000000000:=Nat.le_trans (Nat.mul_le_mul_right _ htn) hK
  have hq:sm (t+1) (fun t=>a.q.getD t 0*b.q.getD t 0)=s.q+(gt a.es (t:Int)).q*(gt b.es (t:Int)).q:=by
   simp only [sm]
   rw [hs,bT (by omega),bT (by omega)]
  generalize t*(ka+kb+1)=u at*
  repeat refine aC ?_
  refine dG (fun b8=>?_)
  repeat refine aC ?_
  (repeat refine aF ?_);refine aS 2 [0,1,2,3,4,5,6,7,8] [1,1,2,2,2,1,0,0,0] mixed (by kernel_rfl) ?_
  repeat refine aC ?_
  refine gT rfl (jX (k:=ka) (m:=kb) (by omega) (Hv.lel (r:=a) (k:=ka) aA (by omega)) (Hv.lel (r:=b) (k:=kb) aA (by omega))) (fun e2 he2=>?_)
  refine gT rfl (pJ (k:=u) (m:=ka+kb) (by omega) (Hv.mem aA) (Hv.mem aA)) (fun e3 he3=>?_)
  repeat refine aC ?_
  rw [←hu2]
  refine lN (n - (t+1)) (⟨t+1,e3,by omega,rfl,by rw [hq,he3,he2],rfl,rfl,rfl⟩)
 ·obtain rfl:t=n:=by omega
  repeat refine aC ?_
  refine gZ (rs:=[.cell 4 36, .tmp 5]) (vs:=[rv s, .int .i64 0]) (.inl rfl) rfl (.cellN (cs:=eR s) inferInstance rfl aA rfl (.tmp rfl .nil)) rfl M0 (bE s (t*(ka+kb+1))::I0) aK aJ ⟨rfl,s,rfl,hs,rfl⟩
end
end Go.Proofs.YthhldplegmeolaaGreat
namespace Go.Proofs.YthhldplegmeolaaGreat
open Go Go.Fx
def VA (V:Nat→Nat→Rat) (w:Rat) (r:Nat→Rat) (i j a b:Nat):Rat:=if a < i∨a=i∧b < j then V a b+w*r a*r b else V a b
section
variable {X:List Nat} {w0:World} {M0:List Ent} {I0:List aN}
theorem aKW {n:Nat} (hn:n≤100):CD Tryz.prog 56 [.int .i64 (n:Int)] X w0 M0 I0 (fun v M I=>∃(b:Nat) (es:List RE),v= .slice (some ⟨b,0,none⟩) es.length es.length∧es.length=n∧(∀e∈es,e.q=0)∧M= .blk b (recs eR es) 36::M0∧I=aX es 0::I0):=by
 have hW:=fun M0 I0=>kU (X:=X) (w0:=w0) (M0:=M0) (I0:=I0) (x:=0) (by decide) (k:=0) (by decide)
 refine aV Tryz.func56 rfl Tryz.ntmps56 rfl ?_
 repeat refine aC ?_
 (refine iD (n) rfl rfl (by omega) (by omega) (by omega) (by omega) (oF (enc:=e4) (by decide) z4 n) rfl rfl ?_;intro bi;refine aU ?_)
 repeat refine aC ?_
 refine bN (φ:=aX [] 0) Hv.nilR ?_
 refine pU [3,8] rfl (fun k G M I=>∃(x:Nat) (es:List RE),x≤n∧k=n - x∧es.length=x∧(∀e∈es,e.q=0)∧G=[(9, .int .i64 x)]∧M= .blk bi (recs e4 (es.map t4++List.replicate (n - x) z4)) 36::M0∧I=aX es 0::I0) (n) (⟨0,[],by omega,by omega,rfl,by simp,rfl,rfl,rfl⟩) ?_
 rintro kk G M I ⟨x,es,hx,rfl,hel,heq,rfl,rfl,rfl⟩
 by_cases hxC:x < n
 ·have hz2:=qM (n:=n - x) (z:=z4) (by omega)
  have hl2:((es.map t4++z4::List.replicate (n - x - 1) z4).length:Int)=n:=by simp;omega
  rw [hz2]
  repeat refine aC ?_
  refine gT rfl (hW _ _) (fun e he=>?_)
  repeat refine yXh ?_
  refine iG (vs:=eR e) rfl rfl rfl (Ones.one e) mW (StAts.r (t4 e) (by omega) rfl) rfl rfl ⟨okF,?_⟩
  rw [yO (by simp;omega)]
  repeat refine aC ?_
  refine bX (φ:=aX (es++[e]) 0) (Hv.snoc aA aA) ?_
  have e9:es.map t4++t4 e::List.replicate (n - x - 1) z4=(es++[e]).map t4++List.replicate (n - (x+1)) z4:=by simp [Nat.sub_sub]
  rw [e9]
  refine lN (n - (x+1)) (⟨x+1,es++[e],by omega,rfl,by simp;omega,fun z hz=>?_,rfl,rfl,rfl⟩)
  rcases List.mem_append.1 hz with h|h
  ·exact heq z h
  ·rw [List.mem_singleton.1 h,he];rfl
 ·obtain rfl:x=n:=by omega
  rw [Nat.sub_self,List.replicate_zero,List.append_nil,aDC]
  repeat refine aC ?_
  refine aT (by first|exact .inl rfl|exact .inr rfl) rfl rfl _ _ aK aJ (⟨bi,es,by rw [hel],hel,heq,rfl,rfl⟩)
theorem aPK {be br bo co n K:Nat} {tlo:List Value} {rows:List MS} {bes:List RE} {row:RL} {x w:RE} {V:Nat→Nat→Rat} {Y:Nat→Rat} {M1:List Ent} (hn:1≤n∧n≤24) (hK:K≤1000000) (hco:n≤co)
  (hs:Shp rows n n) (hp:Pw rows n n V) (hbl:bes.length=n) (hY:∀a:Nat,a < n→(gt bes (a:Int)).q=Y a) (hrl:row.es.length=n) (hA:jY rows K∈I0) (hB:aX bes K∈I0) (hr:dL row 200∈I0) (hx:bE x 200∈I0) (hw:bE w 200∈I0)
  (hM:M0= .blk be [.slice (some ⟨bo,0,none⟩) n co, .slice (some ⟨br,0,none⟩) n n] 63:: .blk br (recs eR bes) 36:: .blk bo (recs eS rows++tlo) 24::(rows.map gG++M1)):
  CD Tryz.prog 57 [pb be,lv row,rv x,rv w] X w0 M0 I0 (fun v M I=>∃(rows2:List MS) (bes2:List RE),v= .tuple #[]∧Shp rows2 n n∧Pw rows2 n n (fun a b=>V a b+w.q*row.q.getD a 0*row.q.getD b 0)∧bes2.length=n∧(∀a:Nat,a < n→(gt bes2 (a:Int)).q=Y a+w.q*row.q.getD a 0*x.q)∧
   M= .blk be [.slice (some ⟨bo,0,none⟩) n co, .slice (some ⟨br,0,none⟩) n n] 63:: .blk br (recs eR bes2) 36:: .blk bo (recs eS rows2++tlo) 24::(rows2.map gG++M1)∧I=aX bes2 (K+601)::jY rows2 (K+601)::I0):=by
 subst hM
 have hlen:=hs.len
 refine aL (φ:=aX bes (K+601)) (Hv.allMono hB (by omega)) ?_
 refine aL (φ:=jY rows (K+601)) (Hv.monoS (List.Mem.tail _ hA) (by omega)) ?_
 refine aL (φ:=aD row.p (recs eR row.es)) (Hv.lsl (List.Mem.tail _ (List.Mem.tail _ hr))) ?_
 refine tQ Tryz.func57 rfl Tryz.ntmps57 rfl ?_
 refine fG ?_
 refine fQ rfl (fun b6=>?_)
 refine aG .here ?_
 refine fQ rfl (fun b7=>?_)
 refine aG .here ?_
 repeat refine aC ?_
 rw [hrl]
 refine pU [0,1,6,7,13,14] rfl (fun k G M I=>∃(i:Nat) (rows1:List MS) (bes1:List RE),i≤n∧k=n - i∧Shp rows1 n n∧Pw rows1 n n (VA V w.q (fun a=>row.q.getD a 0) i 0)∧(∀a:Nat,i≤a→a < n→gt rows1 (a:Int)=gt rows (a:Int))∧bes1.length=n∧(∀a:Nat,a < n→(gt bes1 (a:Int)).q=if a < i then Y a+w.q*row.q.getD a 0*x.q else Y a)∧(∀a:Nat,i≤a→a < n→gt bes1 (a:Int)=gt bes (a:Int))∧G=[(15, .int .i64 i)]∧M= .blk be [.slice (some ⟨bo,0,none⟩) n co, .slice (some ⟨br,0,none⟩) n n] 63:: .blk br (recs eR bes1) 36:: .blk bo (recs eS rows1++tlo) 24::(rows1.map gG++M1)∧I=aX bes1 (K+601)::jY rows1 (K+601)::aD (some ⟨b7,0,none⟩) (eR w)::aD (some ⟨b6,0,none⟩) (eR x)::aD row.p (recs eR row.es)::I0) (n) (⟨0,rows,bes,by omega,rfl,hs,fun a b ha hb=>by
  rw [hp a b ha hb];unfold VA;rw [if_neg (by omega)],fun a _ _=>rfl,hbl,fun a ha=>by
  rw [if_neg (by omega)];exact hY a ha,fun a _ _=>rfl,rfl,rfl,rfl⟩) ?_
 rintro kk G M I ⟨i,rows1,bes1,hi,rfl,hs1,hp1,hk1,hbl1,hY1,hb1,rfl,rfl,rfl⟩
 by_cases hin:i < n
 ·have hQi:row.q.getD i 0=(gt row.es (i:Int)).q:=bT (by omega)
  have hlb:(bes1.length:Int)=n:=by omega
  have hM1:=fun M0 I0 h1 h2=>jX (X:=X) (w0:=w0) (M0:=M0) (I0:=I0) (a:=w) (b:=gt row.es (i:Int)) (k:=200) (m:=200) (by omega) h1 h2
  have hS1:=fun (e:RE) M0 I0 h=>jS (X:=X) (w0:=w0) (M0:=M0) (I0:=I0) (e:=e) (k:=400) (by omega) h
  refine bN (φ:=bE (gt row.es (i:Int)) 200) (Hv.lel aA (by omega)) ?_
  repeat refine aC ?_
  refine dG (fun b9=>?_)
  repeat refine aC ?_
  refine aG .here ?_
  refine gT rfl (hM1 _ _ (Hv.mem aA) (Hv.mem aA)) (fun w1 hw1=>?_)
  repeat refine aC ?_
  refine dG (fun b10=>?_)
  repeat refine aC ?_
  refine aG .here ?_
  have hSw:=hS1 w1
  rw [←hQi] at hw1
  by_cases hz:w1.q=0
  ·rw [(oW _).2 hz] at hSw
   repeat refine aC ?_
   (refine bA rfl (hSw _ _ (Hv.mem aA)) ?_;rintro _ _ _ ⟨rfl,rfl,rfl⟩;refine aU ?_)
   repeat refine aC ?_
   refine lN (n - (i+1)) (⟨i+1,rows1,bes1,by omega,rfl,hs1,fun a b ha hb=>?_,fun a h1 h2=>hk1 a (by omega) h2,hbl1,fun a ha=>?_,fun a h1 h2=>hb1 a (by omega) h2,rfl,rfl,rfl⟩)
   ·rw [hp1 a b ha hb]
    unfold VA
    by_cases e1:a < i
    ·rw [if_pos (.inl e1),if_pos (.inl (by omega))]
    ·rw [if_neg (by omega)]
     by_cases e2:a=i
     ·subst e2
      rw [if_pos (.inl (by omega)),←hw1,hz];grind
     ·rw [if_neg (by omega)]
   ·rw [hY1 a ha]
    by_cases e1:a < i
    ·rw [if_pos e1,if_pos (by omega)]
    ·rw [if_neg e1]
     by_cases e2:a=i
     ·subst e2
      rw [if_pos (by omega),←hw1,hz];grind
     ·rw [if_neg (by omega)]
  ·have hs0:¬w1.q.num.sign=0:=fun h=>hz ((oW _).1 h)
   generalize w1.q.num.sign=sg at*
   have hM2:=fun M0 I0 h1 h2=>jX (X:=X) (w0:=w0) (M0:=M0) (I0:=I0) (a:=w1) (b:=x) (k:=400) (m:=200) (by omega) h1 h2
   have hA2:=fun (y:RE) M0 I0 h1 h2=>pJ (X:=X) (w0:=w0) (M0:=M0) (I0:=I0) (a:=gt bes (i:Int)) (b:=y) (k:=K) (m:=600) (by omega) h1 h2
   refine iA (φ:=bE (gt bes (i:Int)) K) (Hv.all (k:=K) aA (by omega) (Nat.le_refl _)) ?_
   repeat refine aC ?_
   (refine bA rfl (hSw _ _ (Hv.mem aA)) ?_;rintro _ _ _ ⟨rfl,rfl,rfl⟩;refine aU ?_)
   repeat refine aC ?_
   (repeat refine aF ?_);refine aS 2 [0,1,2,3,4,5,6,7,8,9,10,11,12,13,14,15,16,17] [2,2,2,2,2,2,2,2,2,2,2,1,1,1,0,0,0,0] mixed (by kernel_rfl) ?_
   repeat refine aC ?_
   rw [hb1 i (by omega) hin]
   repeat refine aC ?_
   refine gT rfl (hM2 _ _ (Hv.mem aA) (Hv.mem aA)) (fun x1 hx1=>?_)
   repeat refine aC ?_
   have hAx:=hA2 x1
   (refine bA rfl (hAx _ _ (Hv.mem aA) (Hv.mem aA)) ?_;rintro _ _ _ ⟨rfl,e2,rfl,he2,rfl⟩;refine aU ?_)
   repeat refine yXh ?_
   refine iG (vs:=eR e2) rfl rfl rfl (Ones.one e2) mW (StAts.r (enc:=eR) (ms:=bes1) (i:=(i:Int)) e2 (by omega) rfl) rfl rfl ⟨okF,?_⟩
   repeat refine aC ?_
   refine bN (φ:=bE e2 (K+601)) (Hv.q (k:=K+600+1) aA (by omega)) ?_
   refine bN (φ:=aX (st bes1 (i:Int) e2) (K+601)) (Hv.stR aA aA) ?_
   rw [hrl]
   refine pU [0,1,6,7,8,10,13,14,15,43,44] rfl (fun k G M I=>∃(j:Nat) (rows2:List MS),j≤n∧k=n - j∧Shp rows2 n n∧Pw rows2 n n (VA V w.q (fun a=>row.q.getD a 0) i j)∧(∀a:Nat,i < a→a < n→gt rows2 (a:Int)=gt rows (a:Int))∧(∀b:Nat,j≤b→b < n→gt (gt rows2 (i:Int)).es (b:Int)=gt (gt rows (i:Int)).es (b:Int))∧G=[(45, .int .i64 j)]∧M= .blk be [.slice (some ⟨bo,0,none⟩) n co, .slice (some ⟨br,0,none⟩) n n] 63:: .blk br (recs eR (st bes1 (i:Int) e2)) 36:: .blk bo (recs eS rows2++tlo) 24::(rows2.map gG++M1)∧I=jY rows2 (K+601)::aX (st bes1 (i:Int) e2) (K+601)::aD (some ⟨b10,0,none⟩) (eR w1)::bE w1 400::aD (some ⟨b7,0,none⟩) (eR w)::aD (some ⟨b6,0,none⟩) (eR x)::aD row.p (recs eR row.es)::I0) (n) (⟨0,rows1,by omega,rfl,hs1,hp1,fun a h1 h2=>hk1 a (by omega) h2,fun b _ _=>by rw [hk1 i (Nat.le_refl i) hin],rfl,rfl,rfl⟩) ?_
   rintro kk G M I ⟨j,rows2,hj,rfl,hs2,hp2,hk2,hk2r,rfl,rfl,rfl⟩
   have hlen2:=hs2.len
   by_cases hjn:j < n
   ·have hrow2:=hs2.row hin
    have hrow0:=hs.row hin
    have hmr:=memS (rows:=rows2) (i:=i) (M1:=M1) (by omega)
    have hQj:row.q.getD j 0=(gt row.es (j:Int)).q:=bT (by omega)
    have hMj:=fun M0 I0 h1 h2=>jX (X:=X) (w0:=w0) (M0:=M0) (I0:=I0) (a:=w1) (b:=gt row.es (j:Int)) (k:=400) (m:=200) (by omega) h1 h2
    have hAj:=fun (y:RE) M0 I0 h1 h2=>pJ (X:=X) (w0:=w0) (M0:=M0) (I0:=I0) (a:=gt (gt rows (i:Int)).es (j:Int)) (b:=y) (k:=K) (m:=600) (by omega) h1 h2
    refine bN (φ:=bE (gt row.es (j:Int)) 200) (Hv.lel aA (by omega)) ?_
    refine bN (φ:=bE (gt (gt rows (i:Int)).es (j:Int)) K) (Hv.elS (rows:=rows) (k:=K) aA (by omega) (by omega) (Nat.le_refl _)) ?_
    repeat refine aC ?_
    refine dG (fun b12=>?_)
    repeat refine aC ?_
    refine vF .here ?_
    (repeat refine aF ?_);refine aS 2 [0,1,2,3,4,5,6,7,8,9,10,11,12,13,14,15,16,17,18,19,20,21,22,23] [2,2,2,2,2,2,2,2,2,2,2,2,2,2,2,2,2,1,1,1,0,0,0,0] mixed (by kernel_rfl) ?_
    repeat (first|(refine aC ?_)|(refine gF ?_;apply mE;exact iY;exact rfl;exact aA;exact AtsZ.app (AtsZ.r jE);exact rfl;exact rfl))
    repeat refine aC ?_
    rw [hk2r j (Nat.le_refl j) hjn]
    repeat (first|(refine aC ?_)|(refine gF ?_;apply mE;exact iY;exact rfl;exact aA;exact AtsZ.app (AtsZ.r jE);exact rfl;exact rfl))
    repeat refine aC ?_
    refine gT rfl (hMj _ _ (Hv.mem aA) (Hv.mem aA)) (fun x2 hx2=>?_)
    repeat refine aC ?_
    have hAx2:=hAj x2
    (refine bA rfl (hAx2 _ _ (Hv.mem aA) (Hv.mem aA)) ?_;rintro _ _ _ ⟨rfl,e3,rfl,he3,rfl⟩;refine aU ?_)
    repeat refine yXh ?_
    refine iG (vs:=eR e3) rfl rfl rfl (Ones.one e3) (repS3 (rows:=rows2) (i:=i) (r':=upR (gt rows2 (i:Int)) j e3) (by omega)) (StAts.app (StAts.r (enc:=eR) (ms:=(gt rows2 (i:Int)).es) (i:=(j:Int)) e3 (by omega) rfl)) rfl rfl ⟨okF,?_⟩
    rw [aHP]
    refine iA (φ:=bE e3 (K+601)) (Hv.q (k:=K+600+1) aA (by omega)) ?_
    refine iA (φ:=jY (upS rows2 i j e3) (K+601)) (Hv.upS hs2 hin aA aA) ?_
    rw [←aFH (i:=i) (j:=j) (e:=e3) hs2 hin]
    repeat refine aC ?_
    refine lN (n - (j+1)) (⟨j+1,upS rows2 i j e3,by omega,rfl,hs2.up hin,hp2.up hs2 hin hjn (fun a b ha hb=>?_),fun a h1 h2=>?_,fun b h1 h2=>?_,rfl,rfl,rfl⟩)
    ·unfold VA
     by_cases e1:a=i∧b=j
     ·obtain ⟨rfl,rfl⟩:=e1
      rw [if_pos (.inr ⟨rfl,by omega⟩),if_pos ⟨rfl,rfl⟩,he3,hx2,hw1,←hQj]
      have h1:=hp2 a b ha hb
      rw [hk2r b (Nat.le_refl b) hb] at h1
      rw [h1]
      unfold VA
      rw [if_neg (by omega)]
     ·rw [if_neg e1]
      by_cases e2:a < i∨a=i∧b < j
      ·rw [if_pos e2,if_pos (by omega)]
      ·rw [if_neg e2,if_neg (by omega)]
    ·rw [aKX hs2 hin h2 (by omega)];exact hk2 a h1 h2
    ·have:gt (gt (upS rows2 i j e3) (i:Int)).es (b:Int)=gt (gt rows2 (i:Int)).es (b:Int):=by
      rw [aGD hs2 hin hin,if_pos rfl]
      show gt (st (gt rows2 (i:Int)).es (j:Int) e3) (b:Int)=_
      rw [oN (by omega),if_neg (by omega)]
     rw [this];exact hk2r b (by omega) h2
   ·obtain rfl:j=n:=by omega
    repeat refine aC ?_
    refine lN (j - (i+1)) (⟨i+1,rows2,st bes1 (i:Int) e2,by omega,rfl,hs2,fun a b ha hb=>?_,fun a h1 h2=>hk2 a (by omega) h2,by rw [bP];exact hbl1,fun a ha=>?_,fun a h1 h2=>?_,rfl,rfl,rfl⟩)
    ·rw [hp2 a b ha hb]
     unfold VA
     by_cases e1:a < i∨a=i∧b < j
     ·rw [if_pos e1,if_pos (by omega)]
     ·rw [if_neg e1,if_neg (by omega)]
    ·rw [oN (by omega)]
     by_cases e1:a=i
     ·subst e1
      rw [if_pos rfl,if_pos (by omega),he2,hx1,hw1,←hY a hin]
     ·rw [if_neg e1,hY1 a ha]
      by_cases e2:a < i
      ·rw [if_pos e2,if_pos (by omega)]
      ·rw [if_neg e2,if_neg (by omega)]
    ·rw [oN (by omega),if_neg (by omega)];exact hb1 a (by omega) h2
 ·obtain rfl:i=n:=by omega
  repeat refine aC ?_
  refine aHQ (by first|exact .inl rfl|exact .inr rfl) rfl _ _ aK aJ (⟨rows1,bes1,rfl,hs1,fun a b ha hb=>by
   rw [hp1 a b ha hb];unfold VA;rw [if_pos (.inl ha)],hbl1,fun a ha=>by
   rw [hY1 a ha,if_pos ha],rfl,rfl⟩)
end
end Go.Proofs.YthhldplegmeolaaGreat
namespace Go.Proofs.YthhldplegmeolaaGreat
open Go Go.Fx
def sqG (m:LE) (R a b:Nat):Rat:=sm R (fun t=>m.p.q.getD t 0*at2 m.a.q t a*at2 m.a.q t b)
def rgG (m:LE) (R a:Nat):Rat:=sm R (fun t=>m.p.q.getD t 0*at2 m.a.q t a*m.l.q.getD t 0)
theorem aND {m:LE} {k a b:Nat}:sqG m (k+1) a b=sqG m k a b+m.p.q.getD k 0*at2 m.a.q k a*at2 m.a.q k b:=rfl
theorem aMF {m:LE} {k a:Nat}:rgG m (k+1) a=rgG m k a+m.p.q.getD k 0*at2 m.a.q k a*m.l.q.getD k 0:=rfl
def nN (m:LE) (R n:Nat):Mt:=aNB R n m.a.q (fun t=>m.p.q.getD t 0)
def nB (m:LE) (R n:Nat):List Rat:=aJS R n m.a.q (fun t=>m.p.q.getD t 0) (fun t=>m.l.q.getD t 0)
theorem aFX {x o p r:Ent} {A B:List Ent}:(x::o::p::r::(A++B)).Perm (o::p::r::((A++[x])++B)):=by
 rw [List.append_assoc]
 exact (List.perm_middle (l₁:=o::p::r::A) (l₂:=B) (a:=x)).symm
section
variable {X:List Nat} {w0:World} {M0:List Ent} {I0:List aN}
theorem aHK {m:LE} {R n:Nat} (f:m.fit R n) (h:eU m 200∈I0):
  CD Tryz.prog 30 [wM m] X w0 M0 I0 (fun v M I=>∃(bo co br:Nat) (tlo:List Value) (rows:List MS) (bes:List RE),v= .agg #[.slice (some ⟨bo,0,none⟩) n co, .slice (some ⟨br,0,none⟩) n n]∧n≤co∧Shp rows n n∧Pw rows n n (sqG m R)∧bes.length=n∧(∀a:Nat,a < n→(gt bes (a:Int)).q=rgG m R a)∧M= .blk br (recs eR bes) 36:: .blk bo (recs eS rows++tlo) 24::(rows.map gG++M0)∧I=aX bes (601*R)::jY rows (601*R)::I0):=by
 have lR:=f.d.1.1
 have lC:=f.d.r0
 have hll:=f.l
 have hpl:=f.p
 have hn24:=f.c
 obtain ⟨r1,r2⟩:=f.d.2.1
 obtain ⟨n1,n2⟩:=f.d.2.2
 have hZ:=fun M0 I0=>aKW (X:=X) (w0:=w0) (M0:=M0) (I0:=I0) (n:=n) (by omega)
 refine aL (φ:=gQ m.a 200) (Hv.lea h) ?_
 refine aL (φ:=dL m.l 200) (Hv.lel' (List.Mem.tail _ h)) ?_
 refine aL (φ:=dL m.p 200) (Hv.lep (List.Mem.tail _ (List.Mem.tail _ h))) ?_
 refine aL (φ:=aD (m.a).p (recs eL (m.a).rows)) (Hv.xsl aA) ?_
 refine aL (φ:=aD (m.l).p (recs eR (m.l).es)) (Hv.lsl aA) ?_
 refine aL (φ:=aD (m.p).p (recs eR (m.p).es)) (Hv.lsl aA) ?_
 refine aV Tryz.func30 rfl Tryz.ntmps30 rfl ?_
 refine fG ?_
 refine fQ rfl (fun b1=>?_)
 refine aG .here ?_
 refine dG (fun b2=>?_)
 repeat refine aC ?_
 rw [lC]
 repeat refine aC ?_
 (refine bA rfl (hZ _ _) ?_;rintro _ _ _ ⟨br,res,rfl,hrl,hrz,rfl,rfl⟩;refine aU ?_)
 rw [hrl]
 (refine aB rfl (fun _=>aY (pvs:=[(1, .slice (some ⟨br,0,none⟩) n n)]) (cells:=[.slice none 0 0, .slice (some ⟨br,0,none⟩) n n]) rfl rfl) rfl rfl ?_)
 refine dG (fun b4=>?_)
 repeat refine aC ?_
 refine jM 24 1 ?_
 refine bN (φ:=jY [] 0) Hv.nilS ?_
 refine pU [1,2,3,4,15] rfl (fun k G M I=>∃(i:Nat) (rows:List MS) (q:Option Addr) (c:Nat),i≤n∧k=n - i∧Shp rows i n∧Pw rows i n (fun _ _=>0)∧G=[(16, .int .i64 i)]∧M= .row q rows.length c (recs eS rows) 24 1:: .blk b4 [.slice q rows.length c, .slice (some ⟨br,0,none⟩) n n] 63:: .blk br (recs eR res) 36::(rows.map gG++ .blk b2 [.slice none 0 0, .slice none 0 0] 63::M0)∧I=jY rows 0::aX res 0::aD (some ⟨b1,0,none⟩) [mv m.a,lv m.l,lv m.p]::aD m.p.p (recs eR m.p.es)::aD m.l.p (recs eR m.l.es)::aD m.a.p (recs eL m.a.rows)::dL m.p 200::dL m.l 200::gQ m.a 200::I0) (n) (⟨0,[],none,0,by omega,rfl,⟨rfl,fun r hr=>by simp at hr⟩,fun i j hi=>by omega,rfl,rfl,rfl⟩) ?_
 rintro kk G M I ⟨i,rows,q,c,hi,rfl,hs,hp,rfl,rfl,rfl⟩
 have hlen:=hs.len
 by_cases hin:i < n
 ·repeat refine aC ?_
  (repeat refine aF ?_);refine aS 2 [0,1,2,3,4,5,6,7] [3,2,2,0,0,0,0,0] mixed (by kernel_rfl) ?_
  repeat refine aC ?_
  (refine bA rfl (hZ _ _) ?_;rintro _ _ _ ⟨b,es,rfl,hel,hez,rfl,rfl⟩;refine aU ?_)
  repeat refine aC ?_
  refine nG (cs:=recs eS [(⟨b,es.length,es,[]⟩:MS)]) ([.slice (some ⟨b,0,none⟩) es.length es.length]) rfl (fun bb=>?_)
  refine tyP (ys:=[(⟨b,es.length,es,[]⟩:MS)]) 2 rfl rfl rfl (fun q2 c2=>?_)
  repeat refine aC ?_
  refine bX (φ:=jY (rows++[(⟨b,es.length,es,[]⟩:MS)]) 0) (Hv.snocS aA (Hv.mem aA)) ?_
  rw [←List.append_nil (recs eR es)]
  refine ND_w (M':= .blk b (recs eR es++[]) 36:: .row q2 (rows++[(⟨b,es.length,es,[]⟩:MS)]).length c2 (recs eS (rows++[(⟨b,es.length,es,[]⟩:MS)])) 24 1:: .blk b4 [.slice q2 (rows++[(⟨b,es.length,es,[]⟩:MS)]).length c2, .slice (some ⟨br,0,none⟩) n n] 63:: .blk br (recs eR res) 36::(rows.map gG++(.blk b2 [.slice none 0 0, .slice none 0 0] 63::M0))) (I':=jY (rows++[(⟨b,es.length,es,[]⟩:MS)]) 0::aX res 0::aD (some ⟨b1,0,none⟩) [mv m.a,lv m.l,lv m.p]::aD m.p.p (recs eR m.p.es)::aD m.l.p (recs eR m.l.es)::aD m.a.p (recs eL m.a.rows)::dL m.p 200::dL m.l 200::gQ m.a 200::I0) (SubP.drop SubP.refl) aJ ?_
  refine oC (M':= .row q2 (rows++[(⟨b,es.length,es,[]⟩:MS)]).length c2 (recs eS (rows++[(⟨b,es.length,es,[]⟩:MS)])) 24 1:: .blk b4 [.slice q2 (rows++[(⟨b,es.length,es,[]⟩:MS)]).length c2, .slice (some ⟨br,0,none⟩) n n] 63:: .blk br (recs eR res) 36::((rows++[(⟨b,es.length,es,[]⟩:MS)]).map gG++(.blk b2 [.slice none 0 0, .slice none 0 0] 63::M0))) (by rw [List.map_append (f:=gG)];exact aFX) ?_
  refine lN (n - (i+1)) (⟨i+1,rows++[(⟨b,es.length,es,[]⟩:MS)],q2,c2,by omega,rfl,⟨by simp [hlen],fun r hr=>?_⟩,fun i' j' h1' h2'=>?_,rfl,rfl,rfl⟩)
  ·rcases List.mem_append.1 hr with h|h
   ·exact hs.col r h
   ·rw [List.mem_singleton.1 h];exact ⟨hel,by show n≤es.length;omega⟩
  ·by_cases e1:i' < i
   ·have:gt (rows++[(⟨b,es.length,es,[]⟩:MS)]) (i':Int)=gt rows (i':Int):=by rw [dM (by simp;omega),dM (by omega),List.getElem_append_left (by omega)]
    rw [this];exact hp i' j' e1 h2'
   ·have:gt (rows++[(⟨b,es.length,es,[]⟩:MS)]) (i':Int)=(⟨b,es.length,es,[]⟩:MS):=rJ (A:=rows) (B:=[]) (by omega)
    rw [this]
    exact hez _ (cB (by show (0:Int)≤_∧_ < (es.length:Int);omega))
 ·obtain rfl:i=n:=by omega
  refine aBJ (fun h0 h1 h2=>by omega) (fun bo tlo h1 h2=>?_)
  subst h1
  rw [hlen]
  refine nX (M':= .blk b4 [.slice (some ⟨bo,0,none⟩) i c, .slice (some ⟨br,0,none⟩) i i] 63:: .blk br (recs eR res) 36:: .blk bo (recs eS rows++tlo) 24::(rows.map gG++(.blk b2 [.slice none 0 0, .slice none 0 0] 63::M0))) (List.perm_middle (l₁:=[Ent.blk b4 [.slice (some ⟨bo,0,none⟩) i c, .slice (some ⟨br,0,none⟩) i i] 63,Ent.blk br (recs eR res) 36])).symm ?_
  repeat refine aC ?_
  rw [lR]
  refine bN (φ:=jY rows (601*0)) (Hv.monoS (k:=0) aA (Nat.zero_le _)) ?_
  refine bN (φ:=aX res (601*0)) (Hv.allMono (k:=0) aA (Nat.zero_le _)) ?_
  refine pU [1,2,4,27,28] rfl (fun k G M I=>∃(t:Nat) (rows:List MS) (bes:List RE),t≤R∧k=R - t∧Shp rows i i∧Pw rows i i (sqG m t)∧bes.length=i∧(∀a:Nat,a < i→(gt bes (a:Int)).q=rgG m t a)∧G=[(29, .int .i64 t)]∧M= .blk b4 [.slice (some ⟨bo,0,none⟩) i c, .slice (some ⟨br,0,none⟩) i i] 63:: .blk br (recs eR bes) 36:: .blk bo (recs eS rows++tlo) 24::(rows.map gG++(.blk b2 [.slice none 0 0, .slice none 0 0] 63::M0))∧I=aX bes (601*t)::jY rows (601*t)::aD (some ⟨b1,0,none⟩) [mv m.a,lv m.l,lv m.p]::aD m.p.p (recs eR m.p.es)::aD m.l.p (recs eR m.l.es)::aD m.a.p (recs eL m.a.rows)::dL m.p 200::dL m.l 200::gQ m.a 200::I0) (R) (⟨0,rows,res,by omega,rfl,hs,hp,hrl,fun a ha=>hrz _ (cB (by omega)),rfl,rfl,rfl⟩) ?_
  rintro kk G M I ⟨t,rows1,bes,ht,rfl,hs1,hp1,hbl,hY1,rfl,rfl,rfl⟩
  by_cases htR:t < R
  ·have hrt:=f.d.1.row htR
   have hat:=fun (j:Nat) (hj:j < i)=>nR (m:=m.a) (i:=t) (j:=j) (by omega) (by omega)
   have hpq:=bT (es:=m.p.es) (j:=t) (by omega)
   have hlq:=bT (es:=m.l.es) (j:=t) (by omega)
   refine bN (φ:=dL (gt m.a.rows (t:Int)) 200) (Hv.xrow (m:=m.a) aA (by omega)) ?_
   refine bN (φ:=bE (gt m.l.es (t:Int)) 200) (Hv.lel (r:=m.l) aA (by omega)) ?_
   refine bN (φ:=bE (gt m.p.es (t:Int)) 200) (Hv.lel (r:=m.p) aA (by omega)) ?_
   have hAd:=fun MM II h1 h2 h3 h4 h5 h6=>aPK (X:=X) (w0:=w0) (M0:=MM) (I0:=II) (be:=b4) (br:=br) (bo:=bo) (co:=c) (n:=i) (K:=601*t) (tlo:=tlo) (rows:=rows1) (bes:=bes) (row:=gt m.a.rows (t:Int)) (x:=gt m.l.es (t:Int)) (w:=gt m.p.es (t:Int)) (V:=sqG m t) (Y:=rgG m t) (M1:= .blk b2 [.slice none 0 0, .slice none 0 0] 63::M0) ⟨by omega,by omega⟩ (by omega) (by omega) hs1 hp1 hbl hY1 hrt h1 h2 h3 h4 h5 h6
   repeat refine aC ?_
   (repeat refine aF ?_);refine tyW ([]) (aD (some ⟨b1,0,none⟩) [mv m.a,lv m.l,lv m.p]::aD m.p.p (recs eR m.p.es)::aD m.l.p (recs eR m.l.es)::aD m.a.p (recs eL m.a.rows)::I0) [0,1,2,3,4,5,6,7,8,9,10,11] [0,1,1,1,1,0,1,1,1,1,0,0] mixed ?_
   repeat refine aC ?_
   (refine bA rfl (hAd _ _ aA aA aA aA aA rfl) ?_;rintro _ _ _ ⟨rows2,bes2,rfl,hs2,hp2,hbl2,hY2,rfl,rfl⟩;refine aU ?_)
   repeat refine aC ?_
   rw [show 601*t+601=601*(t+1) by omega]
   refine lN (R - (t+1)) (⟨t+1,rows2,bes2,by omega,rfl,hs2,fun a b ha hb=>?_,hbl2,fun a ha=>?_,rfl,rfl,rfl⟩)
   ·rw [hp2 a b ha hb,aND,hpq,hat a ha,hat b hb,←bT (es:=(gt m.a.rows (t:Int)).es) (by omega),←bT (es:=(gt m.a.rows (t:Int)).es) (by omega)]
   ·rw [hY2 a ha,aMF,hpq,hlq,hat a ha,←bT (es:=(gt m.a.rows (t:Int)).es) (by omega)]
  ·obtain rfl:t=R:=by omega
   refine nX (M':= .blk b4 [.slice (some ⟨bo,0,none⟩) i c, .slice (some ⟨br,0,none⟩) i i] 63:: .blk br (recs eR bes) 36:: .blk bo (recs eS rows1++tlo) 24:: .blk b2 [.slice none 0 0, .slice none 0 0] 63::(rows1.map gG++M0)) (List.Perm.cons _ (List.Perm.cons _ (List.Perm.cons _ List.perm_middle))) ?_
   repeat refine aC ?_
   refine aR (cs:=[.slice (some ⟨bo,0,none⟩) i c, .slice (some ⟨br,0,none⟩) i i]) (.inl rfl) rfl rfl aA rfl (.blk br (recs eR bes) 36:: .blk bo (recs eS rows1++tlo) 24::(rows1.map gG++M0)) (aX bes (601*t)::jY rows1 (601*t)::I0) aK aJ ⟨bo,c,br,tlo,rows1,bes,rfl,by omega,hs1,hp1,hbl,hY1,rfl,rfl⟩
def NrQ (m:LE) (R n K:Nat) (M0:List Ent) (I0:List aN) (v:MX→RL→Value) (z:Value) (M:List Ent) (I:List aN):Prop:=M0=M∧∃(x:MX) (y:RL),z=v x y∧x.q=nN m R n∧y.q=nB m R n∧x.dim n n∧y.es.length=n∧I=dL y K::gQ x K::I0
theorem aAX {m:LE} {R n:Nat} (f:m.fit R n) (h:eU m 200∈I0):CD Tryz.prog 30 [wM m] X w0 M0 I0 (NrQ m R n (601*R) M0 I0 (fun x y=> .agg #[mv x,lv y])):=by
 refine CD.post (aHK f h) (fun v M I w h hw=>?_)
 obtain ⟨bo,co,bb,tlo,rows,bes,rfl,hco,hs,hp,hbl,hY,rfl,rfl⟩:=h
 have h1:=Mem.blkL hw (List.Mem.head _)
 have h2:=aEX h1 (fun r hr=>by have:=hs.col r hr;omega) (by rw [hs.len];exact hco) (List.Mem.tail _ (List.Mem.tail _ (List.Mem.head _)))
 obtain ⟨q1,d1⟩:=q_xs (bo:=bo) (co:=co) hs hp
 refine ⟨M0,dL ⟨some ⟨bb,0,none⟩,bes.length,bes⟩ (601*R)::gQ (MS.x bo co rows) (601*R)::I0,⟨rfl,MS.x bo co rows,⟨some ⟨bb,0,none⟩,bes.length,bes⟩,?_,q1,?_,d1,hbl,rfl⟩,h2.inc (.of fun φ hφ=>?_)⟩
 ·have e1:(MS.x bo co rows).rows.length=n:=d1.1
  show _=Value.agg #[.slice (some ⟨bo,0,none⟩) (MS.x bo co rows).rows.length co, .slice (some ⟨bb,0,none⟩) bes.length bes.length]
  rw [e1,hbl]
 ·apply jG
  ·show (bes.map RE.q).length=_
   simp [nB,aJS,hbl]
  ·intro t ht
   have ht':t < n:=by simpa [hbl] using ht
   show (qs bes).getD t 0=_
   rw [bT (by omega),hY t ht']
   unfold nB aJS rgG
   simp [List.getD,ht']
 ·rcases List.mem_cons.1 hφ with rfl|hφ
  ·exact List.Mem.tail _ (List.Mem.head _)
  ·rcases List.mem_cons.1 hφ with rfl|hφ
   ·exact List.Mem.head _
   ·exact List.Mem.tail _ (List.Mem.tail _ (List.Mem.tail _ (List.Mem.tail _ hφ)))
end
end Go.Proofs.YthhldplegmeolaaGreat
namespace Go.Proofs.YthhldplegmeolaaGreat
open Go Go.Fx
theorem aSA {A:Mt} {R C:Nat} (hA:vQ A R C):rk A C≤C:=by
 obtain ⟨_,s,hr⟩:=oK hA C (Nat.le_refl _)
 have:=hr.free_len
 unfold rk
 omega
theorem aPO {n:Nat} {A:Mt} {b:List Rat} (hA:vQ A n n) (h:rk A n=n):zM n n A b:=by
 have hd:=(aRH hA).1 h
 refine aMO.2 ⟨fun j=>sm n (fun t=>at2 (uA n A) j t*b.getD t 0),fun i hi=>?_⟩
 have h1:=(aQK hd).1
 rw [bS (g:=fun j=>sm n (fun t=>at2 A i j*(at2 (uA n A) j t*b.getD t 0))) (fun j _=>sm_mul.symm),aHS]
 rw [bS (g:=fun t=>oD i t*b.getD t 0) (fun t ht=>by
  rw [←h1 i t hi ht]
  show _=sm n (fun j=>at2 A i j*at2 (uA n A) j t)*b.getD t 0
  rw [show ∀s:Rat,s*b.getD t 0=b.getD t 0*s from fun s=>by grind,←sm_mul]
  exact bS (fun j _=>by grind))]
 rw [rH (p:=i) hi (fun t _ ht=>by unfold oD;rw [if_neg (fun e=>ht e.symm)];grind)]
 unfold oD
 rw [if_pos rfl];grind
def aHI (m:LE) (R C:Nat) (x:List Rat):List Rat:=(List.range R).map (fun t=>sm C (fun j=>at2 m.a.q t j*x.getD j 0) - m.l.q.getD t 0)
section
variable {X:List Nat} {w0:World} {M0:List Ent} {I0:List aN}
theorem zQ {m:LE} {R n:Nat} (f:m.fit R n) (h:eU m 200∈I0):CD Tryz.prog 60 [wM m] X w0 M0 I0 (NrQ m R n (601*R) M0 I0 (fun x y=> .tuple #[mv x,lv y, .int .i64 0])):=by
 have hC:=fun M0 I0 h=>mY (X:=X) (w0:=w0) (M0:=M0) (I0:=I0) (m:=m) (R:=R) (C:=n) (k:=200) (by omega) f h
 refine aV Tryz.func60 rfl Tryz.ntmps60 rfl ?_
 refine fG ?_
 refine fQ rfl (fun b1=>?_)
 refine aG .here ?_
 repeat refine aC ?_
 refine dC rfl (hC _ _ aA) ?_
 repeat refine aC ?_
 (refine bA rfl (aAX f aA) ?_;rintro _ _ _ ⟨rfl,x,y,rfl,hx,hy,dx,hyl,rfl⟩;refine aU ?_)
 refine dG (fun b6=>?_)
 repeat refine aC ?_
 (repeat refine aF ?_);refine dD [0,1,2,3,4,5,6] [0,0,0,0,0,0,0] mixed (by kernel_rfl) ?_
 repeat refine aC ?_
 refine tyS [2,3,4] rfl rfl (⟨rfl,x,y,rfl,hx,hy,dx,hyl,rfl⟩)
theorem aHE {x:MX} {y:RL} {n K:Nat} (hb:kb K n≤20000000000) (hn:1≤n∧n≤24) (dx:x.dim n n) (hyl:y.es.length=n) (hx:gQ x K∈I0) (hy:dL y K∈I0):
  CD Tryz.prog 31 [mv x,lv y] X w0 M0 I0 (fun v M I=>if rk x.q n=n then LQc (aGW n n x.q y.q) (kb K n) M0 I0 v M I else (M0=M∧I0=I∧v= .tuple #[.slice none 0 0, .int .i64 14])):=by
 have dA:=aPE dx
 have hle:=aSA dA
 have fx:x.fit n n:=⟨dx,⟨hn.1,by omega⟩,hn.1,by omega⟩
 have lR:=dx.1
 have hRk:=fun M0 I0 h=>aPS (X:=X) (w0:=w0) (M0:=M0) (I0:=I0) (a:=x) (R:=n) (C:=n) (k0:=K) hb fx h
 by_cases hk:rk x.q n=n
 ·have hS:=fun M0 I0 h1 h2=>aNN (X:=X) (w0:=w0) (M0:=M0) (I0:=I0) (a:=x) (b:=y) (R:=n) (C:=n) (k0:=K) hb (by omega) fx hyl h1 h2
  simp only [if_pos (aPO (b:=y.q) dA hk)] at hS
  simp only [if_pos hk]
  generalize rk x.q n=r at*
  refine aP Tryz.func31 rfl Tryz.ntmps31 rfl ?_
  repeat refine aC ?_
  refine dC rfl (hRk _ _ aA) ?_
  repeat refine aC ?_
  (refine bA rfl (hS _ _ aA aA) ?_;rintro _ _ _ ⟨rfl,z,rfl,hz,rfl⟩;refine aU ?_)
  repeat refine aC ?_
  refine tyS [4,5] rfl rfl (⟨rfl,z,rfl,hz,rfl⟩)
 ·simp only [if_neg hk]
  generalize rk x.q n=r at*
  refine aP Tryz.func31 rfl Tryz.ntmps31 rfl ?_
  repeat refine aC ?_
  refine dC rfl (hRk _ _ aA) ?_
  repeat refine aC ?_
  refine tyS [4,5] rfl rfl (⟨rfl,rfl,rfl⟩)
theorem aCE {m:LE} {R n:Nat} (hb:kb (601*R) n≤20000000000) (f:m.fit R n) (h:eU m 200∈I0):CD Tryz.prog 9 [wM m] X w0 M0 I0 (fun v M I=>if rk (nN m R n) n=n then LQc (aGW n n (nN m R n) (nB m R n)) (kb (601*R) n) M0 I0 v M I else (M0=M∧I0=I∧v= .tuple #[.slice none 0 0, .int .i64 14])):=by
 have hn:=f.d.2.2
 have hn24:=f.c
 have hC:=fun M0 I0 h=>mY (X:=X) (w0:=w0) (M0:=M0) (I0:=I0) (m:=m) (R:=R) (C:=n) (k:=200) (by omega) f h
 refine aV Tryz.func9 rfl Tryz.ntmps9 rfl ?_
 refine fG ?_
 refine fQ rfl (fun b1=>?_)
 refine aG .here ?_
 repeat refine aC ?_
 refine dC rfl (hC _ _ aA) ?_
 repeat refine aC ?_
 (refine bA rfl (aAX f aA) ?_;rintro _ _ _ ⟨rfl,x,y,rfl,hx,hy,dx,hyl,rfl⟩;refine aU ?_)
 refine dG (fun b6=>?_)
 repeat refine aC ?_
 have hS:=fun M0 I0 h1 h2=>aHE (X:=X) (w0:=w0) (M0:=M0) (I0:=I0) (x:=x) (y:=y) (n:=n) (K:=601*R) hb ⟨hn.1,hn24⟩ dx hyl h1 h2
 rw [hx,hy] at hS
 by_cases hk:rk (nN m R n) n=n
 ·simp only [if_pos hk] at hS ⊢
  (refine bA rfl (hS _ _ aA aA) ?_;rintro _ _ _ ⟨rfl,z,rfl,hz,rfl⟩;refine aU ?_)
  repeat refine aC ?_
  refine tyS [2,3] rfl rfl (⟨rfl,z,rfl,hz,rfl⟩)
 ·simp only [if_neg hk] at hS ⊢
  (refine bA rfl (hS _ _ aA aA) ?_;rintro _ _ _ ⟨rfl,rfl,rfl⟩;refine aU ?_)
  repeat refine aC ?_
  refine tyS [2,3] rfl rfl (⟨rfl,rfl,rfl⟩)
end
end Go.Proofs.YthhldplegmeolaaGreat

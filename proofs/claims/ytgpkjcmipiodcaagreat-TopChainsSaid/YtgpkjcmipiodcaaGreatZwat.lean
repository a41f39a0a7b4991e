/- network: networks of images; depth, residual. -/
import Derived.Test.YtgpkjcmipiodcaaGreatZwas
import Derived.Test.YtgpkjcmipiodcaaGreatZwan
import Derived.Test.YtgpkjcmipiodcaaGreatZwaq
import Derived.Test.YtgpkjcmipiodcaaGreatZwam
set_option linter.unusedSimpArgs false
set_option linter.unusedVariables false
set_option maxRecDepth 100000
set_option maxHeartbeats 4000000
namespace Go.Proofs.YtgpkjcmipiodcaaGreat
open Go Go.Fx
abbrev C20 (n:Int):Prop:= -1048576≤n∧n≤1048576
structure StOk (s:ST):Prop where
 x:C20 s.x
 y:C20 s.y
 z:C20 s.z
 nz:s.q.nz
 fit:s.q.fit
 f:1≤s.f∧s.f≤1048576
 cx:C20 s.cx
 cy:C20 s.cy
structure P3.Ok (p:P3):Prop where
 x:C20 p.x
 y:C20 p.y
 z:C20 p.z
structure ObI (nS nP:Nat) (o:OB):Prop where
 k:o.k=0
 a:0≤o.a∧o.a < nS
 b:0≤o.b∧o.b < nP
 x:o.x=0
 v: -1099511627776≤o.v∧o.v≤1099511627776
 w: -1099511627776≤o.w∧o.w≤1099511627776
 g:1≤o.g∧o.g≤1048576
structure NImg (x:NX):Prop where
 d:x.d=3
 S:∀s∈x.S,StOk s
 P:∀p∈x.P,p.Ok
 O:∀o∈x.O,ObI x.S.length x.P.length o
 lS:x.S.length≤64
 lP:x.P.length≤256
 lO:x.O.length≤1024
theorem fit_b {q:Qn} (h:q.fit):uU q.a∧uU q.b∧uU q.c∧uU q.d:=by
 obtain ⟨⟨h1,h2⟩,h3,h4⟩:=h
 exact ⟨by omega,by omega,by omega,by omega⟩
theorem P3.Ok.co {p:P3} (h:p.Ok) (k:Int):uU (p.co k):=by
 have h1:=h.x
 have h2:=h.y
 have h3:=h.z
 unfold P3.co
 split
 ·omega
 ·split <;>omega
theorem NImg.st {x:NX} (h:NImg x) {i:Int} (hi:0≤i∧i < x.S.length):StOk (gt x.S i):=h.S _ (bJ hi)
theorem NImg.sp {x:NX} (h:NImg x) {i:Int} (hi:0≤i∧i < x.S.length):(gt x.S i).at.Ok:=⟨(h.st hi).x,(h.st hi).y,(h.st hi).z⟩
theorem NImg.pt {x:NX} (h:NImg x) {i:Int} (hi:0≤i∧i < x.P.length):(gt x.P i).Ok:=h.P _ (bJ hi)
def sD (x:NX) (o:OB):Rat:=drZ (gt x.S o.a).q (iJ x o 0) (iJ x o 1) (iJ x o 2)
def oN (x:NX) (o:OB) (r:Int):Rat:=
 if r=0 then ((gt x.S o.a).cx:Rat)+((gt x.S o.a).f:Rat)*drX (gt x.S o.a).q (iJ x o 0) (iJ x o 1) (iJ x o 2) / sD x o - (o.v:Rat)
 else ((gt x.S o.a).cy:Rat)+((gt x.S o.a).f:Rat)*drY (gt x.S o.a).q (iJ x o 0) (iJ x o 1) (iJ x o 2) / sD x o - (o.w:Rat)
section
variable {X:List Nat} {w0:World} {M1:List Ent} {I1:List aV} {N b bi bk:Nat} {x:NX} {ix:List (List Int × Int)} {a:Option Addr} {c' n:Nat} {o:OB}
theorem aHB {ts:List TN} (hT:TS N 0 (ts.map TN.k) []) (hN:NImg x) (ho:ObI x.S.length x.P.length o) (hx:IxOk ix x.S.length x.P.length N) (hS:aI x.pS (recs qU x.S)∈I1) (hP:aI x.pP (recs gP x.P)∈I1):
  CD Tryz.prog 139 [.pointer (some ⟨b,0,none⟩),obv o] X w0 (bM b bi bk x ix a c' ts M1) (allT ts::I1) (DQ N (gt x.S o.a).q (iJ x o 0) (iJ x o 1) (iJ x o 2) b bi bk x ix M1 I1):=
 aYH hT hN.d hx ho.a ho.b (fun ax _ _=>(hN.sp ho.a).co ax) (fun ax _ _=>(hN.pt ho.b).co ax) (fit_b (hN.st ho.a).fit) hS hP
theorem aRD {kn:Option Nat} (hN:NImg x) (ho:ObI x.S.length x.P.length o) (hx:IxOk ix x.S.length x.P.length N) (hS:aI x.pS (recs qU x.S)∈I1) (hP:aI x.pP (recs gP x.P)∈I1):
  CD Tryz.prog 86 [.pointer (some ⟨b,0,none⟩),obv o] X w0 (bZ b bi kn x ix a c' n M1) I1 (EQ' N (sD x o) b bi x ix M1 I1):=by
 refine aP Tryz.func86 rfl Tryz.ntmps86 rfl ?_
 refine fE ?_
 refine fG rfl (fun b3=>?_)
 refine aC (cs:=jU o) .here ?_
 repeat refine aB ?_
 (refine aU rfl (aAY) ?_;rintro _ _ _ ⟨bk2,rfl,rfl⟩;refine aL ?_)
 repeat refine aB ?_
 (refine aU rfl (aHB (TS.nil N) hN ho hx aA aA) ?_;rintro _ _ _ ⟨i1,i2,i3,a1,c1,ts1,rfl,t1,rfl,rfl⟩;refine aL ?_)
 repeat refine aB ?_
 (refine aU rfl (aAW t1 (i:=i3) (q:=sD x o) (h:=2000) (by simp [sD]) (by decide)) ?_;rintro _ _ _ ⟨bk3,a3,c3,n3,p,cp,us,rfl,hu,rfl,rfl⟩;refine aL ?_)
 repeat refine aB ?_
 refine gD rfl rfl (⟨bk3,a3,c3,n3,p,cp,us,rfl,hu,rfl,rfl⟩)
end
/- ---------- plain: the unknowns ---------- -/
def axN (w:Nat):Nat:=if w=0 then 6 else 3
def cnt (nS nP w:Nat):Nat:=if w=0 then nS else nP
def tri (w i a:Nat):List P3:=(List.range a).map (fun k:Nat=>(⟨(w:Int),(i:Int),(k:Int)⟩:P3))
def aBX (w i:Nat):List P3:=(List.range i).flatMap (fun j=>tri w j (axN w))
def unU (nS nP w:Nat):List P3:=(List.range w).flatMap (fun v=>aBX v (cnt nS nP v))
theorem aVE (w i a:Nat):tri w i (a+1)=tri w i a++[⟨(w:Int),(i:Int),(a:Int)⟩]:=by unfold tri;rw [List.range_succ,List.map_append];rfl
theorem aFQ (w i:Nat):aBX w (i+1)=aBX w i++tri w i (axN w):=by unfold aBX;rw [List.range_succ,List.flatMap_append];simp
theorem yS (nS nP w:Nat):unU nS nP (w+1)=unU nS nP w++aBX w (cnt nS nP w):=by unfold unU;rw [List.range_succ,List.flatMap_append];simp
theorem aOI (w i a:Nat):(tri w i a).length=a:=by simp [tri]
theorem wB (w:Nat):∀i,(aBX w i).length=i*axN w
 |0=>by simp [aBX]
 |i+1=>by rw [aFQ,List.length_append,wB w i,aOI,Nat.add_mul];omega
theorem aIE (nS nP:Nat):(unU nS nP 2).length=6*nS+3*nP:=by
 rw [yS,yS,List.length_append,List.length_append,wB,wB]
 simp [unU,axN,cnt];omega
theorem aWT {w i a:Nat} {p:P3}:p∈tri w i a↔∃k,k < a∧p=⟨(w:Int),(i:Int),(k:Int)⟩:=by
 unfold tri
 simp only [List.mem_map,List.mem_range]
 exact ⟨fun ⟨k,h,e⟩=>⟨k,h,e.symm⟩,fun ⟨k,h,e⟩=>⟨k,h,e.symm⟩⟩
theorem aNQ {nS nP w i k:Nat} (hw:w < 2) (hi:i < cnt nS nP w) (hk:k < axN w):(⟨(w:Int),(i:Int),(k:Int)⟩:P3)∈unU nS nP 2:=by
 unfold unU
 rw [List.mem_flatMap]
 refine ⟨w,List.mem_range.2 hw,?_⟩
 unfold aBX
 rw [List.mem_flatMap]
 exact ⟨i,List.mem_range.2 hi,aWT.2 ⟨k,hk,rfl⟩⟩
def axL (w:Nat):List Int:=(List.range (axN w)).map (fun k:Nat=>(k:Int))
theorem aHV (w:Nat):(axL w).length=axN w:=by simp [axL]
theorem aZW {w k:Nat} (h:k < axN w):gt (axL w) (k:Int)=(k:Int):=by
 rw [eU (by rw [aHV];exact h)];simp [axL]
section
variable {X:List Nat} {w0:World} {M0:List Ent} {I0:List aV}
theorem aJA {w:Nat} {d:Int} (hd:d=3) (hw:w < 2):CD Tryz.prog 123 [.int .i64 d, .int .i64 (w:Int)] X w0 M0 I0 (fun v M I=>M0=M∧∃b:Nat,v= .slice (some ⟨b,0,none⟩) (axN w) (axN w)∧I=aI (some ⟨b,0,none⟩) (recs (eI .i64) (axL w))::I0):=by
 subst hd
 obtain rfl|rfl:w=0∨w=1:=by omega
 ·refine aP Tryz.func123 rfl Tryz.ntmps123 rfl ?_
  repeat refine aB ?_
  refine lL (cs:=recs (eI .i64) (axL 0)) ([.int .i64 0, .int .i64 1, .int .i64 2, .int .i64 3, .int .i64 4, .int .i64 5]) rfl (fun b=>?_)
  repeat refine aB ?_
  refine iZ .here ?_
  refine gD rfl rfl (⟨rfl,b,rfl,rfl⟩)
 ·refine aP Tryz.func123 rfl Tryz.ntmps123 rfl ?_
  repeat refine aB ?_
  refine lL (cs:=recs (eI .i64) (axL 1)) ([.int .i64 0, .int .i64 1, .int .i64 2]) rfl (fun b=>?_)
  repeat refine aB ?_
  refine iZ .here ?_
  refine gD rfl rfl (⟨rfl,b,rfl,rfl⟩)
theorem aLQ {o:OB} {d:Int} (hd:d=3) (h:o.k=0):CD Tryz.prog 141 [.int .i64 d,obv o] X w0 M0 I0 (fun v M I=>M0=M∧I0=I∧v= .int .i64 2):=by
 refine aP Tryz.func141 rfl Tryz.ntmps141 rfl ?_
 refine fE ?_
 refine fG rfl (fun b3=>?_)
 refine aC (cs:=jU o) .here ?_
 repeat refine aB ?_
 refine gD rfl rfl (⟨rfl,rfl,rfl⟩)
theorem bAI {nS nP w:Nat} (h:w < 2):gt [(nS:Int),(nP:Int)] (w:Int)=(cnt nS nP w:Int):=by
 obtain rfl|rfl:w=0∨w=1:=by omega
 ·rfl
 ·rfl
theorem aRT {nS nP w:Nat} (hS:nS≤64) (hP:nP≤256) (hw:w≤2):(unU nS nP w).length≤1152:=by
 obtain rfl|rfl|rfl:w=0∨w=1∨w=2:=by omega
 ·simp [unU]
 ·rw [yS,List.length_append,wB];simp [unU,axN,cnt];omega
 ·rw [aIE];omega
theorem aZZ {nS nP w:Nat} (hS:nS≤64) (hP:nP≤256):cnt nS nP w≤256:=by unfold cnt;split <;>omega
theorem aUT (w:Nat):axN w≤6:=by unfold axN;split <;>omega
theorem aSO {x:NX} (hN:NImg x) (hO:aI x.pO (recs jU x.O)∈I0):
  CD Tryz.prog 82 [nxv x] X w0 M0 I0 (fun v M I=>M0=M∧∃(a:Option Addr) (c:Nat),v= .slice a (unU x.S.length x.P.length 2).length c∧I=aI a (recs gP (unU x.S.length x.P.length 2))::I0):=by
 have hd:=hN.d
 have lO:=hN.lO
 have lS:=hN.lS
 have lP:=hN.lP
 obtain ⟨m,hm⟩:∃m,x.O.length=m:=⟨_,rfl⟩
 have hA:=fun (w:Nat) M0 I0 hw=>aJA (X:=X) (w0:=w0) (M0:=M0) (I0:=I0) (w:=w) hd hw
 refine aZ Tryz.func82 rfl Tryz.ntmps82 rfl ?_
 refine fE ?_
 refine fG rfl (fun b1=>?_)
 refine aC (cs:=nO x) .here ?_
 repeat refine aB ?_
 (refine sM vB rfl rfl ?_;intro bf;refine aL ?_)
 repeat refine aB ?_
 rw [hm]
 refine kS [1,3,15,16] rfl (fun k G M I=>∃i:Nat,i≤m∧k=m - i∧G=[(17, .int .i64 i)]∧M= .obj bf (mV vB ([]:List (List Int × Bool)))::M0∧aI (some ⟨b1,0,none⟩) (nO x)::I0=I) (m) (⟨0,by omega,rfl,rfl,rfl,rfl⟩) ?_
 rintro kk G M I ⟨i,hi,rfl,rfl,rfl,rfl⟩
 by_cases him:i < m
 ·have hk:=(hN.O _ (bJ (ms:=x.O) (i:=(i:Int)) ⟨by omega,by omega⟩)).k
  repeat refine aB ?_
  refine bG (fun b5=>?_)
  repeat refine aB ?_
  refine iC (m - (i+1)) (⟨i+1,by omega,rfl,rfl,rfl,rfl⟩)
 ·obtain rfl:i=m:=by omega
  repeat refine aB ?_
  refine lL (cs:=recs (eI .i64) [(x.S.length:Int),(x.P.length:Int)]) ([.int .i64 (x.S.length:Int), .int .i64 (x.P.length:Int)]) rfl (fun b51=>?_)
  refine aC .here ?_
  repeat refine aB ?_
  refine pR 91 3 ?_
  refine kS [1,3,51,52] rfl (fun k G M I=>∃(a:Option Addr) (c w:Nat) (us:List P3),us=unU x.S.length x.P.length w∧w≤2∧k=2 - w∧G=[(6, .slice a us.length c),(53, .int .i64 (w:Int))]∧M= .row a us.length c (recs gP us) 91 3:: .obj bf (mV vB ([]:List (List Int × Bool)))::M0∧aI (some ⟨b51,0,none⟩) (recs (eI .i64) [(x.S.length:Int),(x.P.length:Int)])::aI (some ⟨b1,0,none⟩) (nO x)::I0=I) (2) (⟨none,0,0,[],rfl,by omega,rfl,rfl,rfl,rfl⟩) ?_
  rintro kk G M I ⟨a1,c1,w,us1,hu1,hw,rfl,rfl,rfl,rfl⟩
  by_cases hw2:w < 2
  ·have hcg:=bAI (nS:=x.S.length) (nP:=x.P.length) hw2
   have hus:=yS x.S.length x.P.length w
   obtain ⟨n,hn⟩:∃n,cnt x.S.length x.P.length w=n:=⟨_,rfl⟩
   have hnl:n≤256:=by rw [←hn];exact aZZ lS lP
   have hul:=aRT (w:=w) lS lP hw
   rw [hn] at hcg hus
   have hA1:=fun M0 I0=>hA w M0 I0 hw2
   obtain ⟨q,hq⟩:∃q,axN w=q:=⟨_,rfl⟩
   have hql:q≤6:=by rw [←hq];exact aUT w
   rw [hq] at hA1
   repeat refine aB ?_
   (apply jF;exact gQ;exact rfl;exact aA;exact At.r1 (enc:=eI .i64) (ms:=[(x.S.length:Int),(x.P.length:Int)]) ⟨by omega,by show (w:Int) < ((2:Nat):Int);omega⟩ rfl;exact rfl;exact rfl)
   rw [hcg]
   repeat refine aB ?_
   refine kS [1,3,7,51,52,53,58] rfl (fun k G M I=>∃(a:Option Addr) (c i:Nat) (us:List P3),us=unU x.S.length x.P.length w++aBX w i∧i≤n∧k=n - i∧G=[(6, .slice a us.length c),(59, .int .i64 (i:Int))]∧M= .row a us.length c (recs gP us) 91 3:: .obj bf (mV vB ([]:List (List Int × Bool)))::M0∧aI (some ⟨b51,0,none⟩) (recs (eI .i64) [(x.S.length:Int),(x.P.length:Int)])::aI (some ⟨b1,0,none⟩) (nO x)::I0=I) (n) (⟨a1,c1,0,us1,by rw [hu1];simp [aBX],by omega,rfl,rfl,rfl,rfl⟩) ?_
   rintro kk G M I ⟨a2,c2,i,us2,hu2,hi,rfl,rfl,rfl,rfl⟩
   by_cases hin:i < n
   ·have hbl:(aBX w i).length≤1536:=by rw [wB,hq];exact Nat.le_trans (Nat.mul_le_mul (show i≤256 by omega) hql) (by omega)
    repeat refine aB ?_
    (refine aU rfl (hA1 _ _) ?_;rintro _ _ _ ⟨rfl,bx,rfl,rfl⟩;refine aL ?_)
    repeat refine aB ?_
    refine kS [1,3,7,9,51,52,53,58,59,65,66] rfl (fun k G M I=>∃(a:Option Addr) (c t:Nat) (us:List P3),us=unU x.S.length x.P.length w++aBX w i++tri w i t∧t≤q∧k=q - t∧G=[(6, .slice a us.length c),(67, .int .i64 (t:Int))]∧M= .row a us.length c (recs gP us) 91 3:: .obj bf (mV vB ([]:List (List Int × Bool)))::M0∧aI (some ⟨bx,0,none⟩) (recs (eI .i64) (axL w))::aI (some ⟨b51,0,none⟩) (recs (eI .i64) [(x.S.length:Int),(x.P.length:Int)])::aI (some ⟨b1,0,none⟩) (nO x)::I0=I) (q) (⟨a2,c2,0,us2,by rw [hu2];simp [tri],by omega,rfl,rfl,rfl,rfl⟩) ?_
    rintro kk G M I ⟨a3,c3,t,us3,hu3,ht,rfl,rfl,rfl,rfl⟩
    by_cases htq:t < q
    ·have hxg:=aZW (w:=w) (k:=t) (by omega)
     have hxl:=aHV w
     have hll:us3.length≤3000:=by rw [hu3,List.length_append,List.length_append,aOI];omega
     repeat refine aB ?_
     rw [hxg]
     repeat refine aB ?_
     (refine aD rfl (fun _=>bH (vals:=[.int .i64 (w:Int), .int .i64 (i:Int), .int .i64 (t:Int)]) (cells:=[.int .i64 (w:Int), .int .i64 (i:Int), .int .i64 (t:Int)]) rfl ?hpl rfl ?hz) rfl rfl ?_;(case hpl=>exact (by intro v hv;repeat (first|exact absurd hv (List.not_mem_nil)|(rcases List.mem_cons.1 hv with rfl|hv; · rfl))));(case hz=>rfl))
     refine bG (fun b12=>?_)
     repeat refine aB ?_
     (refine aGJ (v:=false) (kk:=[(w:Int),(i:Int),(t:Int)]) (z:=false) (vf:=vB) (es:=[]) rfl rfl rfl rfl (fun p hp=>absurd hp List.not_mem_nil) aA rfl rfl ⟨okF,?_⟩)
     repeat refine aB ?_
     refine lL (cs:=recs gP [⟨(w:Int),(i:Int),(t:Int)⟩]) ([p3v ⟨(w:Int),(i:Int),(t:Int)⟩]) rfl (fun b13=>?_)
     refine tyP (ys:=[⟨(w:Int),(i:Int),(t:Int)⟩]) 2 rfl rfl rfl (fun a4 c4=>?_)
     repeat refine aB ?_
     refine iC (q - (t+1)) (⟨a4,c4,t+1,us3++[⟨(w:Int),(i:Int),(t:Int)⟩],by rw [hu3,aVE,←List.append_assoc],by omega,rfl,rfl,rfl,rfl⟩)
    ·obtain rfl:t=q:=by omega
     repeat refine aB ?_
     refine iC (n - (i+1)) (⟨a3,c3,i+1,us3,by rw [hu3,aFQ,hq,List.append_assoc],by omega,rfl,rfl,rfl,rfl⟩)
   ·obtain rfl:i=n:=by omega
    repeat refine aB ?_
    refine iC (2 - (w+1)) (⟨a2,c2,w+1,us2,by rw [hu2,hus],by omega,rfl,rfl,rfl,rfl⟩)
  ·obtain rfl:w=2:=by omega
   subst hu1
   repeat refine aB ?_
   refine uR .here ?_
   refine gD rfl rfl (⟨rfl,a1,c1,rfl,rfl⟩)
end
end Go.Proofs.YtgpkjcmipiodcaaGreat
namespace Go.Fx
section
variable {V:Type}
theorem aAN {es:List (List Int × V)} {k:List Int} {v:V} {p:List Int × V} (h:p∈qO es k v):p=(k,v)∨p∈es:=by
 unfold qO at h
 split at h
 ·rcases List.mem_or_eq_of_mem_set h with h|h
  ·exact .inr h
  ·exact .inl h
 ·rcases List.mem_append.1 h with h|h
  ·exact .inr h
  ·exact .inl (List.mem_singleton.1 h)
theorem aGH {es:List (List Int × V)} {k:List Int} {v:V}:∃p∈qO es k v,p.1=k:=by
 unfold qO
 split
 ·rename_i q hq
  obtain ⟨_,h⟩:=rP hq
  have hlt:=(List.getElem?_eq_some_iff.1 h).1
  rw [Nat.sub_zero] at hlt
  exact ⟨(k,v),List.mem_iff_getElem.2 ⟨q.1,by simpa using hlt,by simp⟩,rfl⟩
 ·exact ⟨(k,v),by simp,rfl⟩
theorem aOQ {es:List (List Int × V)} {k k':List Int} {v:V} (h:∃p∈es,p.1=k'):∃p∈qO es k v,p.1=k':=by
 by_cases e:k'=k
 ·subst e;exact aGH
 obtain ⟨p,hp,rfl⟩:=h
 unfold qO
 split
 ·rename_i q hq
  obtain ⟨_,h⟩:=rP hq
  rw [Nat.sub_zero] at h
  obtain ⟨j,hj,e2⟩:=List.mem_iff_getElem.1 hp
  have hne:q.1≠j:=fun e3=>by
   subst e3
   rw [List.getElem?_eq_getElem hj,e2] at h
   injection h with h
   exact e (by rw [h])
  refine ⟨p,List.mem_iff_getElem.2 ⟨j,by simpa using hj,?_⟩,rfl⟩
  rw [List.getElem_set_ne hne];exact e2
 ·exact ⟨p,List.mem_append_left _ hp,rfl⟩
theorem aDI {k:List Int}:∀{es:List (List Int × V)} {i:Nat},(∃p∈es,p.1=k)→∃q,iA es k i=some q
 |[],_,⟨p,hp,_⟩=>absurd hp List.not_mem_nil
 |p::r,i,⟨q,hq,e⟩=>by
  unfold iA
  by_cases h:k=p.1
  ·rw [if_pos h];exact ⟨_,rfl⟩
  ·rw [if_neg h]
   rcases List.mem_cons.1 hq with rfl|hq
   ·exact absurd e.symm h
   ·exact aDI ⟨q,hq,e⟩
end
end Go.Fx
namespace Go.Proofs.YtgpkjcmipiodcaaGreat
open Go Go.Fx
abbrev P3.key (p:P3):List Int:=[p.x,p.y,p.z]
structure IxUp (U:List P3) (n i:Nat) (ix:List (List Int × Int)):Prop where
 len:∀p∈ix,p.1.length=3
 val:∀p∈ix,∃k:Nat,p.2=(k:Int)∧k < n
 key:∀j:Nat,j < i→∃p∈ix,p.1=(gt U (j:Int)).key
theorem IxUp.new (U:List P3) (n:Nat):IxUp U n 0 []:=⟨fun p hp=>absurd hp List.not_mem_nil,fun p hp=>absurd hp List.not_mem_nil,fun j hj=>by omega⟩
theorem IxUp.up {U:List P3} {n i:Nat} {ix:List (List Int × Int)} (h:IxUp U n i ix) (hi:i < n):IxUp U n (i+1) (qO ix (gt U (i:Int)).key (i:Int)):=⟨fun p hp=>by
 rcases aAN hp with rfl|hp
 ·rfl
 ·exact h.len p hp,fun p hp=>by
 rcases aAN hp with rfl|hp
 ·exact ⟨i,rfl,hi⟩
 ·exact h.val p hp,fun j hj=>by
 by_cases e:j=i
 ·subst e;exact aGH
 ·exact aOQ (h.key j (by omega))⟩
theorem IxUp.look {U:List P3} {n:Nat} {ix:List (List Int × Int)} (h:IxUp U n U.length ix) {p:P3} (hp:p∈U):∃j k:Nat,iA ix p.key 0=some (j,(k:Int))∧k < n:=by
 obtain ⟨i,hi,e⟩:=List.mem_iff_getElem.1 hp
 have hk:=h.key i hi
 rw [eU hi,e] at hk
 obtain ⟨q,hq⟩:=aDI (i:=0) hk
 obtain ⟨_,hg⟩:=rP hq
 obtain ⟨k,h1,h2⟩:=h.val _ (List.mem_of_getElem? hg)
 simp only at h1
 exact ⟨q.1,k,by rw [hq,←h1],h2⟩
theorem IxUp.ok {nS nP:Nat} {ix:List (List Int × Int)} (h:IxUp (unU nS nP 2) (unU nS nP 2).length (unU nS nP 2).length ix):IxOk ix nS nP (6*nS+3*nP):=by
 have hl:=aIE nS nP
 refine ⟨h.len,fun i ax h0 h1 h2 h3=>?_,fun i ax h0 h1 h2 h3=>?_⟩
 ·have hm:=aNQ (nS:=nS) (nP:=nP) (w:=0) (i:=i.toNat) (k:=ax.toNat) (by decide) (by show i.toNat < nS;omega) (by show ax.toNat < 6;omega)
  obtain ⟨j,k,h4,h5⟩:=h.look hm
  rw [hl] at h5
  refine ⟨j,k,?_,h5⟩
  rw [←h4]
  show iA ix [0,i,ax] 0=iA ix [((0:Nat):Int),(i.toNat:Int),(ax.toNat:Int)] 0
  rw [Int.toNat_of_nonneg h0,Int.toNat_of_nonneg h2];rfl
 ·have hm:=aNQ (nS:=nS) (nP:=nP) (w:=1) (i:=i.toNat) (k:=ax.toNat) (by decide) (by show i.toNat < nP;omega) (by show ax.toNat < 3;omega)
  obtain ⟨j,k,h4,h5⟩:=h.look hm
  rw [hl] at h5
  refine ⟨j,k,?_,h5⟩
  rw [←h4]
  show iA ix [1,i,ax] 0=iA ix [((1:Nat):Int),(i.toNat:Int),(ax.toNat:Int)] 0
  rw [Int.toNat_of_nonneg h0,Int.toNat_of_nonneg h2];rfl
section
variable {X:List Nat} {w0:World} {M0:List Ent} {I0:List aV}
theorem aNX {x:NX} (hN:NImg x) (hO:aI x.pO (recs jU x.O)∈I0):
  CD Tryz.prog 83 [nxv x] X w0 M0 I0 (fun v M I=>∃(b bi:Nat) (ix:List (List Int × Int)),v= .pointer (some ⟨b,0,none⟩)∧IxOk ix x.S.length x.P.length (6*x.S.length+3*x.P.length)∧M=bZ b bi none x ix none 0 0 M0∧I0=I):=by
 have hul:=aRT (w:=2) hN.lS hN.lP (by decide)
 have hU:=fun M0 I0 h=>aSO (X:=X) (w0:=w0) (M0:=M0) (I0:=I0) (x:=x) hN h
 obtain ⟨U,hUe⟩:∃U,unU x.S.length x.P.length 2=U:=⟨_,rfl⟩
 have hfin:∀ix,IxUp U U.length U.length ix→IxOk ix x.S.length x.P.length (6*x.S.length+3*x.P.length):=fun ix h=>by subst hUe;exact h.ok
 rw [hUe] at hU hul
 obtain ⟨n,hn⟩:∃n,U.length=n:=⟨_,rfl⟩
 rw [hn] at hU hul hfin
 refine aZ Tryz.func83 rfl Tryz.ntmps83 rfl ?_
 refine fE ?_
 refine fG rfl (fun b1=>?_)
 refine aC (cs:=nO x) .here ?_
 repeat refine aB ?_
 (refine sM vZ rfl rfl ?_;intro bi;refine aL ?_)
 (refine aD rfl (fun _=>aK (pvs:=[(0,nxv x),(1, .map (some bi))]) (cells:=[.int .i64 x.d, .slice x.pS x.S.length x.cS, .slice x.pP x.P.length x.cP, .slice x.pO x.O.length x.cO, .map (some bi), .slice none 0 0, .map none]) rfl rfl) rfl rfl ?_)
 refine fG rfl (fun b=>?_)
 repeat refine aB ?_
 (refine aU rfl (hU _ _ aA) ?_;rintro _ _ _ ⟨rfl,a,c,rfl,rfl⟩;refine aL ?_)
 repeat refine aB ?_
 refine kS [3,11,12] rfl (fun k G M I=>∃(i:Nat) (ix:List (List Int × Int)),i≤n∧k=n - i∧IxUp U n i ix∧G=[(13, .int .i64 (i:Int))]∧M=bZ b bi none x ix none 0 0 M0∧aI a (recs gP U)::aI (some ⟨b1,0,none⟩) (nO x)::I0=I) (n) (⟨0,[],by omega,rfl,IxUp.new U n,rfl,rfl,rfl⟩) ?_
 rintro kk G M I ⟨i,ix,hi,rfl,hix,rfl,rfl,rfl⟩
 by_cases hin:i < n
 ·have hup:=hix.up hin
  obtain ⟨u,hu⟩:∃u,gt U (i:Int)=u:=⟨_,rfl⟩
  rw [hu] at hup
  repeat refine aB ?_
  refine bG (fun b5=>?_)
  rw [hu]
  repeat refine aB ?_
  (repeat refine aJ ?_);refine vT (.blk b5 (gP u) 91:: .blk b [.int .i64 x.d, .slice x.pS x.S.length x.cS, .slice x.pP x.P.length x.cP, .slice x.pO x.O.length x.cO, .map (some bi), .slice none 0 0, .map none] 189::[]) ([]) [0,1,2,3,4,5,6] [0,0,0,0,0,0,0] mixed ?_
  repeat refine aB ?_
  (refine zM (kk:=u.key) (v:=(i:Int)) (vf:=vZ) (zv:=vZ 0) (mm:=3) rfl rfl rfl rfl hix.len iN rfl rfl ⟨okF,?_⟩)
  repeat refine aB ?_
  refine qZ (M':=bZ b bi none x (qO ix u.key (i:Int)) none 0 0 M0) (I':=aI a (recs gP U)::aI (some ⟨b1,0,none⟩) (nO x)::I0) aG Inc.refl ?_
  refine bY (n - (i+1)) _ _ _ (by first|omega|(simp only [List.length_append,List.length_cons,List.length_nil];omega)) dS aG aF (⟨i+1,_,by omega,rfl,hup,rfl,rfl,rfl⟩)
 ·obtain rfl:i=n:=by omega
  repeat refine aB ?_
  refine qZ (M':=bZ b bi none x ix none 0 0 M0) (I':=I0) SubP.refl aF ?_
  refine gD rfl rfl (⟨b,bi,ix,rfl,hfin ix hix,rfl,rfl⟩)
end
section
variable {X:List Nat} {w0:World} {M1:List Ent} {I1:List aV} {N b bi bk:Nat} {x:NX} {ix:List (List Int × Int)} {a:Option Addr} {c' n:Nat} {o:OB}
theorem aTE {kn:Option Nat} (hN:NImg x) (ho:ObI x.S.length x.P.length o) (h0:sD x o≠0) (hx:IxOk ix x.S.length x.P.length N) (hS:aI x.pS (recs qU x.S)∈I1) (hP:aI x.pP (recs gP x.P)∈I1):
  CD Tryz.prog 142 [.pointer (some ⟨b,0,none⟩),obv o, .int .i64 0] X w0 (bZ b bi kn x ix a c' n M1) I1 (EQ' N (oN x o 0) b bi x ix M1 I1):=by
 have hk:=ho.k
 have ha:=ho.a
 have hw:=ho.v
 have hst:=hN.st ho.a
 obtain ⟨s,hs⟩:∃s,gt x.S o.a=s:=⟨_,rfl⟩
 rw [hs] at hst
 have hf:=hst.f
 have hc:=hst.cx
 refine iO Tryz.func142 rfl Tryz.ntmps142 rfl ?_
 refine fE ?_
 refine fG rfl (fun b4=>?_)
 refine aC (cs:=jU o) .here ?_
 repeat refine aB ?_
 (refine aU rfl (aAY) ?_;rintro _ _ _ ⟨bk2,rfl,rfl⟩;refine aL ?_)
 repeat refine aB ?_
 (repeat refine aJ ?_);refine vT (.blk b (bC x bi bk2 none 0 0) 189::[]) (aI (some ⟨b4,0,none⟩) (jU o)::I1) [0,1,2,3,4,5,6,7,8,9,10] [1,1,1,1,1,1,1,1,1,0,0] mixed ?_
 repeat refine aB ?_
 refine bG (fun b8=>?_)
 repeat refine aB ?_
 rw [hs]
 refine aC (cs:=qU s) .here ?_
 refine aBB (M':=bM b bi bk2 x ix none 0 [] M1) (I':=allT []::aI (some ⟨b8,0,none⟩) (qU s)::aI (some ⟨b4,0,none⟩) (jU o)::I1) SubP.refl aF ?_
 repeat refine aB ?_
 (refine aU rfl (aHB (TS.nil N) hN ho hx aA aA) ?_;rintro _ _ _ ⟨i1,i2,i3,a1,c1,ts1,rfl,t1,rfl,rfl⟩;refine aL ?_)
 repeat refine aB ?_
 (repeat refine aJ ?_);refine vT ([]) (aI (some ⟨b8,0,none⟩) (qU s)::[]) [0,1,2,3,4,5] [0,0,0,0,0,0] mixed ?_
 repeat refine aB ?_
 (refine aU rfl (wY (n:=s.f) t1 aA (by omega) (by decide) (by decide)) ?_;rintro _ _ _ ⟨j1,a2,c2,ts2,rfl,t2,rfl,rfl⟩;refine aL ?_)
 repeat refine aB ?_
 (refine aU rfl (aOA t2 aA aA h0 (by decide) (by decide)) ?_;rintro _ _ _ ⟨j2,a3,c3,ts3,rfl,t3,rfl,rfl⟩;refine aL ?_)
 repeat refine aB ?_
 (refine aU rfl (uV (n:=s.cx) t3 (by omega) (by decide)) ?_;rintro _ _ _ ⟨j3,a4,c4,ts4,rfl,t4,rfl,rfl⟩;refine aL ?_)
 repeat refine aB ?_
 (repeat refine aJ ?_);refine vT ([]) (aI (some ⟨b4,0,none⟩) (jU o)::[]) [0,1,2,3,5,6,7,8,4,9,10] [1,1,1,1,2,2,2,1,0,0,0] mixed ?_
 repeat refine aB ?_
 (refine aU rfl (mZ t4 aA aA (by decide) (by decide)) ?_;rintro _ _ _ ⟨j4,a5,c5,ts5,rfl,t5,rfl,rfl⟩;refine aL ?_)
 repeat refine aB ?_
 (refine aU rfl (aFS (n:=o.v) t5 aA (by omega) (by decide) (by decide)) ?_;rintro _ _ _ ⟨j5,a6,c6,ts6,rfl,t6,rfl,rfl⟩;refine aL ?_)
 repeat refine aB ?_
 have hq:oN x o 0=(s.cx:Rat)+(s.f:Rat)*drX (gt x.S o.a).q (iJ x o 0) (iJ x o 1) (iJ x o 2) / sD x o - (o.v:Rat):=by
  unfold oN
  rw [hs]
  rfl
 (refine aS rfl (aAW t6 (i:=j5) (q:=oN x o 0) (h:=_) (by rw [hq];exact List.mem_cons_self) (by decide)) rfl rfl ?_;rintro _ _ _ ⟨bk3,a7,c7,n3,p,cp,us,rfl,hu,rfl,rfl⟩;refine aL ?_)
 repeat refine aB ?_
 refine gD rfl rfl (⟨bk3,a7,c7,n3,p,cp,us,rfl,hu,rfl,rfl⟩)
theorem aTB {kn:Option Nat} (hN:NImg x) (ho:ObI x.S.length x.P.length o) (h0:sD x o≠0) (hx:IxOk ix x.S.length x.P.length N) (hS:aI x.pS (recs qU x.S)∈I1) (hP:aI x.pP (recs gP x.P)∈I1):
  CD Tryz.prog 142 [.pointer (some ⟨b,0,none⟩),obv o, .int .i64 1] X w0 (bZ b bi kn x ix a c' n M1) I1 (EQ' N (oN x o 1) b bi x ix M1 I1):=by
 have hk:=ho.k
 have ha:=ho.a
 have hw:=ho.w
 have hst:=hN.st ho.a
 obtain ⟨s,hs⟩:∃s,gt x.S o.a=s:=⟨_,rfl⟩
 rw [hs] at hst
 have hf:=hst.f
 have hc:=hst.cy
 refine iO Tryz.func142 rfl Tryz.ntmps142 rfl ?_
 refine fE ?_
 refine fG rfl (fun b4=>?_)
 refine aC (cs:=jU o) .here ?_
 repeat refine aB ?_
 (refine aU rfl (aAY) ?_;rintro _ _ _ ⟨bk2,rfl,rfl⟩;refine aL ?_)
 repeat refine aB ?_
 (repeat refine aJ ?_);refine vT (.blk b (bC x bi bk2 none 0 0) 189::[]) (aI (some ⟨b4,0,none⟩) (jU o)::I1) [0,1,2,3,4,5,6,7,8,9,10] [1,1,1,1,1,1,1,1,1,0,0] mixed ?_
 repeat refine aB ?_
 refine bG (fun b8=>?_)
 repeat refine aB ?_
 rw [hs]
 refine aC (cs:=qU s) .here ?_
 refine aBB (M':=bM b bi bk2 x ix none 0 [] M1) (I':=allT []::aI (some ⟨b8,0,none⟩) (qU s)::aI (some ⟨b4,0,none⟩) (jU o)::I1) SubP.refl aF ?_
 repeat refine aB ?_
 (refine aU rfl (aHB (TS.nil N) hN ho hx aA aA) ?_;rintro _ _ _ ⟨i1,i2,i3,a1,c1,ts1,rfl,t1,rfl,rfl⟩;refine aL ?_)
 repeat refine aB ?_
 (repeat refine aJ ?_);refine vT ([]) (aI (some ⟨b8,0,none⟩) (qU s)::[]) [0,1,2,3,4,5] [0,0,0,0,0,0] mixed ?_
 repeat refine aB ?_
 (repeat refine aJ ?_);refine vT ([]) (aI (some ⟨b8,0,none⟩) (qU s)::[]) [0,1,2,3,4,5] [0,0,0,0,0,0] mixed ?_
 repeat refine aB ?_
 (refine aU rfl (wY (n:=s.f) t1 aA (by omega) (by decide) (by decide)) ?_;rintro _ _ _ ⟨j1,a2,c2,ts2,rfl,t2,rfl,rfl⟩;refine aL ?_)
 repeat refine aB ?_
 (refine aU rfl (aOA t2 aA aA h0 (by decide) (by decide)) ?_;rintro _ _ _ ⟨j2,a3,c3,ts3,rfl,t3,rfl,rfl⟩;refine aL ?_)
 repeat refine aB ?_
 (refine aU rfl (uV (n:=s.cy) t3 (by omega) (by decide)) ?_;rintro _ _ _ ⟨j3,a4,c4,ts4,rfl,t4,rfl,rfl⟩;refine aL ?_)
 repeat refine aB ?_
 (repeat refine aJ ?_);refine vT ([]) (aI (some ⟨b4,0,none⟩) (jU o)::[]) [0,1,2,3,5,6,7,8,4,9,10] [1,1,1,1,2,2,2,1,0,0,0] mixed ?_
 repeat refine aB ?_
 (refine aU rfl (mZ t4 aA aA (by decide) (by decide)) ?_;rintro _ _ _ ⟨j4,a5,c5,ts5,rfl,t5,rfl,rfl⟩;refine aL ?_)
 repeat refine aB ?_
 (refine aU rfl (aFS (n:=o.w) t5 aA (by omega) (by decide) (by decide)) ?_;rintro _ _ _ ⟨j5,a6,c6,ts6,rfl,t6,rfl,rfl⟩;refine aL ?_)
 repeat refine aB ?_
 have hq:oN x o 1=(s.cy:Rat)+(s.f:Rat)*drY (gt x.S o.a).q (iJ x o 0) (iJ x o 1) (iJ x o 2) / sD x o - (o.w:Rat):=by
  unfold oN
  rw [hs]
  rfl
 (refine aS rfl (aAW t6 (i:=j5) (q:=oN x o 1) (h:=_) (by rw [hq];exact List.mem_cons_self) (by decide)) rfl rfl ?_;rintro _ _ _ ⟨bk3,a7,c7,n3,p,cp,us,rfl,hu,rfl,rfl⟩;refine aL ?_)
 repeat refine aB ?_
 refine gD rfl rfl (⟨bk3,a7,c7,n3,p,cp,us,rfl,hu,rfl,rfl⟩)
end
end Go.Proofs.YtgpkjcmipiodcaaGreat
namespace Go.Proofs.YtgpkjcmipiodcaaGreat
open Go Go.Fx
structure TM where
 p:Option Addr
 c:Nat
 us:List TN
 q:Rat
instance TM.inh:Inhabited TM:=⟨⟨none,0,[],0⟩⟩
abbrev eTM (t:TM):List Value:=[.slice t.p t.us.length t.c]
instance TM.szd:Sized eTM 1:=⟨fun _=>rfl⟩
instance TM.ones:Ones eTM:=⟨fun m u hu=>by simp only [eTM,List.mem_cons,List.not_mem_nil,or_false] at hu;subst hu;rfl⟩
structure AllM' (ts:List TM) (X:List Nat) (w:World):Prop where
 sl:∀t∈ts,Sl X w t.p (recs vH t.us)
 al:∀t∈ts,AllT t.us X w
abbrev allTM (ts:List TM):aV:=AllM' ts
instance allTM.gd (ts:List TM):Fx.Good (AllM' ts):=⟨fun X Y w w' h he hY=>⟨fun t ht=>Sl.carry (h.sl t ht) he hY,fun t ht=>Fx.Good.go (φ:=AllT _) X Y w w' (h.al t ht) he hY⟩⟩
theorem Hv.nilTM {I:List aV}:Hv I (allTM []):=⟨fun X w _=>⟨fun t ht=>absurd ht List.not_mem_nil,fun t ht=>absurd ht List.not_mem_nil⟩⟩
theorem Hv.snocTM {I:List aV} {ts:List TM} {t:TM} (h:allTM ts∈I) (h1:aI t.p (recs vH t.us)∈I) (h2:allT t.us∈I):Hv I (allTM (ts++[t])):=⟨fun X w hw=>⟨fun s hs=>by
 rcases List.mem_append.1 hs with hs|hs
 ·exact (hw _ h:AllM' ts X w).sl s hs
 ·rw [List.mem_singleton.1 hs];exact (hw _ h1:SlI _ _ X w).go,fun s hs=>by
 rcases List.mem_append.1 hs with hs|hs
 ·exact (hw _ h:AllM' ts X w).al s hs
 ·rw [List.mem_singleton.1 hs];exact hw _ h2⟩⟩
theorem Hv.atTMs {I:List aV} {ts:List TM} {i:Int} (h:allTM ts∈I) (hi:0≤i∧i < ts.length):Hv I (aI (gt ts i).p (recs vH (gt ts i).us)):=⟨fun X w hw=>⟨(hw _ h:AllM' ts X w).sl _ (bJ hi)⟩⟩
theorem Hv.atTMa {I:List aV} {ts:List TM} {i:Int} (h:allTM ts∈I) (hi:0≤i∧i < ts.length):Hv I (allT (gt ts i).us):=⟨fun X w hw=>(hw _ h:AllM' ts X w).al _ (bJ hi)⟩
structure TM.Ok (N:Nat) (t:TM):Prop where
 p:Fx.Ok t.p
 l:t.us.length≤1000
 v:TV N (t.us.map TN.k) t.q
def vM (x:NX) (os:List OB):List Rat:=os.flatMap (fun o=>[oN x o 0,oN x o 1])
theorem zF (x:NX) (os:List OB):(vM x os).length=2*os.length:=by
 unfold vM
 induction os with
 |nil=>rfl
 |cons o r ih=>rw [List.flatMap_cons,List.length_append,ih];simp;omega
theorem aPB {x:NX} {i:Nat} (h:i < x.O.length):vM x (x.O.take (i+1))=vM x (x.O.take i)++[oN x (gt x.O (i:Int)) 0,oN x (gt x.O (i:Int)) 1]:=by
 unfold vM
 rw [List.take_add_one,List.flatMap_append,List.getElem?_eq_getElem h,eU h];rfl
section
variable {X:List Nat} {w0:World} {M0:List Ent} {I0:List aV}
theorem aPR {x:NX} (hN:NImg x) (h0:∀o∈x.O,sD x o≠0) (hS:aI x.pS (recs qU x.S)∈I0) (hP:aI x.pP (recs gP x.P)∈I0) (hO:aI x.pO (recs jU x.O)∈I0):
  CD Tryz.prog 87 [nxv x] X w0 M0 I0 (fun v M I=>M0=M∧∃(a:Option Addr) (c:Nat) (ts:List TM),v= .slice a ts.length c∧(ts.map TM.q=vM x x.O∧∀t∈ts,t.Ok (6*x.S.length+3*x.P.length))∧I=aI a (recs eTM ts)::allTM ts::I0):=by
 have hd:=hN.d
 have lO:=hN.lO
 obtain ⟨N,hNe⟩:∃N,6*x.S.length+3*x.P.length=N:=⟨_,rfl⟩
 have hNB:=fun M0 I0 h=>aNX (X:=X) (w0:=w0) (M0:=M0) (I0:=I0) (x:=x) hN h
 rw [hNe] at hNB ⊢
 obtain ⟨m,hm⟩:∃m,x.O.length=m:=⟨_,rfl⟩
 have hfull:x.O.take m=x.O:=List.take_of_length_le (by omega)
 refine aZ Tryz.func87 rfl Tryz.ntmps87 rfl ?_
 refine fE ?_
 refine fG rfl (fun b1=>?_)
 refine aC (cs:=nO x) .here ?_
 repeat refine aB ?_
 (refine aU rfl (hNB _ _ aA) ?_;rintro _ _ _ ⟨b,bi,ix,rfl,hix,rfl,rfl⟩;refine aL ?_)
 repeat refine aB ?_
 rw [hm]
 refine pR 140 1 ?_
 refine bD (φ:=allTM []) Hv.nilTM ?_
 refine kS [1,3,11,12] rfl (fun k G M I=>∃(i:Nat) (kn:Option Nat) (a:Option Addr) (c n:Nat) (ra:Option Addr) (rc:Nat) (ts:List TM),i≤m∧k=m - i∧(ts.map TM.q=vM x (x.O.take i)∧∀t∈ts,t.Ok N)∧G=[(4, .slice ra ts.length rc),(13, .int .i64 (i:Int))]∧M=bZ b bi kn x ix a c n (.row ra ts.length rc (recs eTM ts) 140 1::M0)∧I=allTM ts::aI (some ⟨b1,0,none⟩) (nO x)::I0) (m) (⟨0,none,none,0,0,none,0,[],by omega,rfl,⟨rfl,fun t ht=>absurd ht List.not_mem_nil⟩,rfl,rfl,rfl⟩) ?_
 rintro kk G M I ⟨i,kn,a,c,n,ra,rc,ts,hi,rfl,⟨hq,hk⟩,rfl,rfl,rfl⟩
 by_cases him:i < m
 ·have hom:=bJ (ms:=x.O) (i:=(i:Int)) ⟨by omega,by omega⟩
  have hsn:=aPB (x:=x) (i:=i) (by omega)
  have htl:ts.length=2*i:=by
   have:=congrArg List.length hq
   rw [List.length_map,zF,List.length_take] at this;omega
  obtain ⟨o,ho⟩:∃o,gt x.O (i:Int)=o:=⟨_,rfl⟩
  rw [ho] at hom hsn
  have hoi:=hN.O o hom
  have hoz:=h0 o hom
  have hok:=hoi.k
  have hH:=fun M0 I0=>aLQ (X:=X) (w0:=w0) (M0:=M0) (I0:=I0) (o:=o) hd hok
  repeat refine aB ?_
  refine bG (fun b6=>?_)
  rw [ho]
  repeat refine aB ?_
  refine aC (cs:=jU o) .here ?_
  refine dP rfl (hH _ _) ?_
  repeat refine aB ?_
  refine aMQ (M':=bZ b bi kn x ix a c n (.row ra ts.length rc (recs eTM ts) 140 1::M0)) (I':=allTM ts::aI (some ⟨b6,0,none⟩) (jU o)::aI (some ⟨b1,0,none⟩) (nO x)::I0) SubP.refl aF ?_
  refine kS [1,3,6,11,12,13,20] rfl (fun k G M I=>∃(r:Nat) (kn:Option Nat) (a:Option Addr) (c n:Nat) (ra:Option Addr) (rc:Nat) (ts:List TM),r≤2∧k=2 - r∧(ts.map TM.q=vM x (x.O.take i)++[oN x o 0,oN x o 1].take r∧∀t∈ts,t.Ok N)∧G=[(4, .slice ra ts.length rc),(21, .int .i64 (r:Int))]∧M=bZ b bi kn x ix a c n (.row ra ts.length rc (recs eTM ts) 140 1::M0)∧I=allTM ts::aI (some ⟨b6,0,none⟩) (jU o)::aI (some ⟨b1,0,none⟩) (nO x)::I0) (2) (⟨0,kn,a,c,n,ra,rc,ts,by omega,rfl,⟨by rw [hq];simp,hk⟩,rfl,rfl,rfl⟩) ?_
  rintro kk G M I ⟨r,kn,a,c,n,ra,rc,ts,hr,rfl,⟨hq,hk⟩,rfl,rfl,rfl⟩
  have htl:ts.length≤2*i+2:=by
   have:=congrArg List.length hq
   rw [List.length_map,List.length_append,zF,List.length_take,List.length_take] at this;simp at this;omega
  have hstep:∀(t:TM),t.Ok N→∀t'∈ts++[t],t'.Ok N:=fun t ht t' ht'=>by
   rcases List.mem_append.1 ht' with h|h
   ·exact hk t' h
   ·rw [List.mem_singleton.1 h];exact ht
  obtain rfl|rfl|rfl:r=0∨r=1∨r=2:=by omega
  ·repeat refine aB ?_
   (refine aU rfl (aTE hN hoi hoz hix aA aA) ?_;rintro _ _ _ ⟨kn2,a2,c2,n2,p,cp,us,rfl,⟨hu1,hu2,hu3⟩,rfl,rfl⟩;refine aL ?_)
   refine lL (cs:=recs eTM [⟨p,cp,us,oN x o 0⟩]) ([.slice p us.length cp]) rfl (fun b29=>?_)
   refine fH (φ:=allTM (ts++[⟨p,cp,us,oN x o 0⟩])) (Hv.snocTM aA aA aA) ?_
   refine tyP (ys:=[⟨p,cp,us,oN x o 0⟩]) 3 rfl rfl rfl (fun a4 c4=>?_)
   repeat refine aB ?_
   refine qZ (M':=bZ b bi kn2 x ix a2 c2 n2 (.row a4 (ts++[(⟨p,cp,us,oN x o 0⟩:TM)]).length c4 (recs eTM (ts++[⟨p,cp,us,oN x o 0⟩])) 140 1::M0)) (I':=allTM (ts++[⟨p,cp,us,oN x o 0⟩])::aI (some ⟨b6,0,none⟩) (jU o)::aI (some ⟨b1,0,none⟩) (nO x)::I0) aG aF ?_
   refine bY (1) _ _ _ (by first|omega|(simp only [List.length_append,List.length_cons,List.length_nil];omega)) dS aG aF (⟨1,kn2,a2,c2,n2,a4,c4,_,by omega,rfl,⟨by rw [List.map_append,hq];simp,hstep _ ⟨hu1,hu2,hu3⟩⟩,rfl,rfl,rfl⟩)
  ·repeat refine aB ?_
   (refine aU rfl (aTB hN hoi hoz hix aA aA) ?_;rintro _ _ _ ⟨kn2,a2,c2,n2,p,cp,us,rfl,⟨hu1,hu2,hu3⟩,rfl,rfl⟩;refine aL ?_)
   refine lL (cs:=recs eTM [⟨p,cp,us,oN x o 1⟩]) ([.slice p us.length cp]) rfl (fun b29=>?_)
   refine fH (φ:=allTM (ts++[⟨p,cp,us,oN x o 1⟩])) (Hv.snocTM aA aA aA) ?_
   refine tyP (ys:=[⟨p,cp,us,oN x o 1⟩]) 3 rfl rfl rfl (fun a4 c4=>?_)
   repeat refine aB ?_
   refine qZ (M':=bZ b bi kn2 x ix a2 c2 n2 (.row a4 (ts++[(⟨p,cp,us,oN x o 1⟩:TM)]).length c4 (recs eTM (ts++[⟨p,cp,us,oN x o 1⟩])) 140 1::M0)) (I':=allTM (ts++[⟨p,cp,us,oN x o 1⟩])::aI (some ⟨b6,0,none⟩) (jU o)::aI (some ⟨b1,0,none⟩) (nO x)::I0) aG aF ?_
   refine bY (0) _ _ _ (by first|omega|(simp only [List.length_append,List.length_cons,List.length_nil];omega)) dS aG aF (⟨2,kn2,a2,c2,n2,a4,c4,_,by omega,rfl,⟨by rw [List.map_append,hq];simp,hstep _ ⟨hu1,hu2,hu3⟩⟩,rfl,rfl,rfl⟩)
  ·repeat refine aB ?_
   refine qZ (M':=bZ b bi kn x ix a c n (.row ra ts.length rc (recs eTM ts) 140 1::M0)) (I':=allTM ts::aI (some ⟨b1,0,none⟩) (nO x)::I0) SubP.refl aF ?_
   refine iC (m - (i+1)) (⟨i+1,kn,a,c,n,ra,rc,ts,by omega,rfl,⟨by rw [hq,hsn];rfl,hk⟩,rfl,rfl,rfl⟩)
 ·obtain rfl:i=m:=by omega
  rw [hfull] at hq
  repeat refine aB ?_
  refine uR (cs:=recs eTM ts) uB ?_
  refine qZ (M':=M0) (I':=aI ra (recs eTM ts)::allTM ts::I0) aG aF ?_
  refine gD rfl rfl (⟨rfl,ra,rc,ts,rfl,⟨hq,hk⟩,rfl⟩)
end
end Go.Proofs.YtgpkjcmipiodcaaGreat
namespace Go.Proofs.YtgpkjcmipiodcaaGreat
open Go Go.Fx
structure C4 where
 a:Value
 b:Value
 c:Value
 d:Value
abbrev e4 (x:C4):List Value:=[x.a,x.b,x.c,x.d]
instance:Inhabited C4:=⟨⟨.bool false, .slice none 0 0, .bool false, .slice none 0 0⟩⟩
instance:Sized e4 4:=⟨fun _=>rfl⟩
abbrev z4:C4:=⟨.bool false, .slice none 0 0, .bool false, .slice none 0 0⟩
abbrev t4 (e:RE):C4:=⟨.bool (B (e.q.num < 0)), .slice e.p1 (gr e.q.num.natAbs).length e.c1, .bool (B ((e.q.den:Int) < 0)), .slice e.p2 (gr (e.q.den:Int).natAbs).length e.c2⟩
theorem aXA (es:List RE):recs e4 (es.map t4)=recs eR es:=by
 induction es with
 |nil=>rfl
 |cons x r ih=>
  have h1:recs e4 ((x::r).map t4)=e4 (t4 x)++recs e4 (r.map t4):=rfl
  have h2:recs eR (x::r)=eR x++recs eR r:=rfl
  rw [h1,h2,ih]
structure HD where
 p:Option Addr
 n:Nat
 c:Nat
instance:Inhabited HD:=⟨⟨none,0,0⟩⟩
abbrev eH (h:HD):List Value:=[.slice h.p h.n h.c]
instance:Sized eH 1:=⟨fun _=>rfl⟩
structure MR where
 b:Nat
 es:List RE
instance:Inhabited MR:=⟨⟨0,[]⟩⟩
abbrev hdM (r:MR):HD:=⟨some ⟨r.b,0,none⟩,r.es.length,r.es.length⟩
abbrev eM (r:MR):List Value:=[.slice (some ⟨r.b,0,none⟩) r.es.length r.es.length]
instance:Sized eM 1:=⟨fun _=>rfl⟩
abbrev gF (r:MR):Ent:= .blk r.b (recs eR r.es) 40
theorem aUQ (rows:List MR):recs eH (rows.map hdM)=recs eM rows:=by
 induction rows with
 |nil=>rfl
 |cons x r ih=>
  have h1:recs eH ((x::r).map hdM)=eH (hdM x)++recs eH (r.map hdM):=rfl
  have h2:recs eM (x::r)=eM x++recs eM r:=rfl
  rw [h1,h2,ih]
structure AllM (rows:List MR) (k:Nat) (X:List Nat) (w:World):Prop where
 go:∀r∈rows,∀e∈r.es,IsR e k X w
abbrev allM (rows:List MR) (k:Nat):aV:=AllM rows k
instance (rows:List MR) (k:Nat):Fx.Good (AllM rows k):=⟨fun X Y w w' h he hY=>⟨fun r hr e hm=>Fx.Good.go (φ:=IsR _ _) X Y w w' (h.go r hr e hm) he hY⟩⟩
theorem Hv.snoc {I:List aV} {es:List RE} {e:RE} {k:Nat} (h1:bW es k∈I) (h2:cK e k∈I):Hv I (bW (es++[e]) k):=⟨fun X w hw=>⟨fun x hx=>by
 rcases List.mem_append.1 hx with hx|hx
 ·exact (hw _ h1:AllR es k X w).go x hx
 ·rw [List.mem_singleton.1 hx];exact hw _ h2⟩⟩
theorem Hv.nilR {I:List aV} {k:Nat}:Hv I (bW [] k):=⟨fun X w _=>⟨fun x hx=>by simp at hx⟩⟩
theorem Hv.nilM {I:List aV} {k:Nat}:Hv I (allM [] k):=⟨fun X w _=>⟨fun x hx=>by simp at hx⟩⟩
theorem Hv.snocM {I:List aV} {rows:List MR} {r:MR} {k:Nat} (h1:allM rows k∈I) (h2:bW r.es k∈I):Hv I (allM (rows++[r]) k):=⟨fun X w hw=>⟨fun x hx=>by
 rcases List.mem_append.1 hx with hx|hx
 ·exact (hw _ h1:AllM rows k X w).go x hx
 ·rw [List.mem_singleton.1 hx];exact (hw _ h2:AllR r.es k X w).go⟩⟩
theorem aZR {α:Type} [Inhabited α] {A B:List α} {x:α} {i:Int} (h:i=A.length):gt (A++x::B) i=x:=by
 subst h
 rw [eU (by simp)]
 simp
theorem aRV {α:Type} {A B:List α} {x y:α} {i:Int} (h:i=A.length):st (A++x::B) i y=A++y::B:=by
 subst h
 simp [st]
theorem aFA {α:Type} {n:Nat} {z:α} (h:0 < n):List.replicate n z=z::List.replicate (n - 1) z:=by
 obtain ⟨m,rfl⟩:∃m,n=m+1:=⟨n - 1,by omega⟩
 rfl
theorem aAR {α:Type} {enc:α→List Value} {sz:Nat} [h:Sized enc sz] (hsz:0 < sz) (zz:α) (mm:Nat):(madeCells (enc zz).toArray (mm*sz)).toList=recs enc (List.replicate mm zz):=by
 have hl:(enc zz).length=sz:=h.len zz
 apply List.ext_getElem
 ·rw [Array.length_toList,size_madeCells,fJ,List.length_replicate]
 ·intro i h1 h2
  rw [Array.length_toList,size_madeCells] at h1
  have hq:i / sz < mm:=by rw [Nat.div_lt_iff_lt_mul hsz];exact h1
  have hr:i % sz < sz:=Nat.mod_lt _ hsz
  have hv:(enc zz)[i % sz]?=some ((enc zz)[i % sz]'(by omega)):=List.getElem?_eq_getElem (by omega)
  have:=zV (enc:=enc) (List.replicate mm zz) (i / sz) (i % sz) zz _ (by rw [List.getElem?_replicate,if_pos hq]) hv
  rw [Nat.div_add_mod'] at this
  have h3:=(List.getElem?_eq_some_iff.1 this).2
  rw [h3]
  simp [madeCells,hl,hr]
def MkP (R C:Nat) (F:Nat→Nat→Rat) (k:Nat) (M0:List Ent) (I0:List aV) (v:Value) (M:List Ent) (I:List aV):Prop:=
 ∃(bo:Nat) (rows:List MR),v= .slice (some ⟨bo,0,none⟩) R R∧rows.length=R∧(∀r∈rows,r.es.length=C)∧(rows.map (fun r=>r.es.map (·.q))=(List.range R).map (fun i=>(List.range C).map (F i)))∧
  M= .blk bo (recs eM rows) 52::(rows.map gF++M0)∧I=allM rows k::I0
section
variable {P:Program} {n:Nat} {Q:Exit→Act→World→Prop} {G:Env} {X:List Nat} {w0:World} {M M':List Ent} {I:List aV}
theorem yQ {ex:Exit} (h:M.Perm M') (k:ND n Q ex G X w0 M' I):ND n Q ex G X w0 M I:=aBR (fun _ hw=>hw.perm h) k
theorem oD {c:Code} (h:M.Perm M') (k:TD P n c Q G X w0 M' I):TD P n c Q G X w0 M I:=mQ (fun _ hw=>hw.perm h) k
theorem aCO {ops l:List Oper} {m:Fx.Mode} (h:M.Perm M') (k:RD P n ops Q m l G X w0 M' I):RD P n ops Q m l G X w0 M I:=xU (fun _ hw=>hw.perm h) k
theorem aQP {x o:Ent} {A B:List Ent}:(x::o::(A++B)).Perm (o::((A++[x])++B)):=by
 refine (List.Perm.swap _ _ _).trans (List.Perm.cons _ ?_)
 rw [List.append_assoc]
 exact List.perm_middle.symm
end
section
variable {X:List Nat} {w0:World} {M0:List Ent} {I0:List aV}
theorem aCY {g:FuncId} [FnOk Tryz.prog g] {fs cs:Array Value} {R C k0:Nat} (hR:R≤100) (hC:C≤200) (F:Nat→Nat→Rat)
  (hg:∀M I,(∀φ∈I0,φ∈I)→∀i j:Nat,i < R→j < C→CD Tryz.prog g (fs.toList++[.int .i64 (i:Int), .int .i64 (j:Int)]++cs.toList) X w0 M I (RQ (F i j) k0 M I)):
  CD Tryz.prog 98 [.int .i64 (R:Int), .int .i64 (C:Int), .func (.func g) fs cs] X w0 M0 I0 (MkP R C F k0 M0 I0):=by
 refine iO Tryz.func98 rfl Tryz.ntmps98 rfl ?_
 repeat refine aW ?_
 (refine lM (R) rfl rfl (by omega) (by omega) (by omega) (by omega) (aAR (enc:=eH) (by decide) ⟨none,0,0⟩ R) rfl rfl ?_;intro bo;refine aL ?_)
 refine fH (φ:=allM [] k0) Hv.nilM ?_
 repeat refine aW ?_
 refine kS [1,2,7,13] rfl (fun k G M I=>∃(i:Nat) (rows:List MR),i≤R∧k=R - i∧rows.length=i∧(∀r∈rows,r.es.length=C)∧(rows.map (fun r=>r.es.map (·.q))=(List.range i).map (fun i=>(List.range C).map (F i)))∧G=[(14, .int .i64 i)]∧M= .blk bo (recs eH (rows.map hdM++List.replicate (R - i) ⟨none,0,0⟩)) 52::(rows.map gF++M0)∧I=allM rows k0::I0) (R) (⟨0,[],by omega,by omega,rfl,by simp,by simp,rfl,rfl,rfl⟩) ?_
 rintro k G M I ⟨i,rows,hi,rfl,hrl,hrc,hrF,rfl,rfl,rfl⟩
 by_cases hiR:i < R
 ·have hz:=aFA (n:=R - i) (z:=(⟨none,0,0⟩:HD)) (by omega)
  repeat refine aW ?_
  (refine lM (C) rfl rfl (by omega) (by omega) (by omega) (by omega) (aAR (enc:=e4) (by decide) z4 C) rfl rfl ?_;intro bi;refine aL ?_)
  rw [hz]
  have hlh0:((rows.map hdM++(⟨none,0,0⟩:HD)::List.replicate (R - i - 1) ⟨none,0,0⟩).length:Int)=R:=by simp;omega
  repeat refine yXf ?_
  refine oH rfl rfl rfl iN (StAt.r1 (⟨some ⟨bi,0,none⟩,C,C⟩:HD) (by omega) rfl) rfl rfl ⟨okF,?_⟩
  rw [aRV (by simp;omega)]
  obtain ⟨hs,hhs⟩:∃hs,hs=rows.map hdM++(⟨some ⟨bi,0,none⟩,C,C⟩:HD)::List.replicate (R - i - 1) ⟨none,0,0⟩:=⟨_,rfl⟩
  rw [←hhs]
  have hgh:gt hs (i:Int)=⟨some ⟨bi,0,none⟩,C,C⟩:=by rw [hhs];exact aZR (by simp;omega)
  have hlh:hs.length=R:=by rw [hhs];simp;omega
  have hgp:(gt hs (i:Int)).p=some ⟨bi,0,none⟩:=by rw [hgh]
  have hgn:(gt hs (i:Int)).n=C:=by rw [hgh]
  have hgc:(gt hs (i:Int)).c=C:=by rw [hgh]
  repeat refine aW ?_
  rw [hgp,hgn,hgc]
  refine bD (φ:=bW [] k0) Hv.nilR ?_
  refine kS [1,2,7,8,13,14,26] rfl (fun k G M I=>∃(j:Nat) (es:List RE),j≤C∧k=C - j∧es.length=j∧es.map (·.q)=(List.range j).map (F i)∧G=[(27, .int .i64 j)]∧M= .blk bi (recs e4 (es.map t4++List.replicate (C - j) z4)) 40:: .blk bo (recs eH hs) 52::(rows.map gF++M0)∧I=bW es k0::allM rows k0::I0) (C) (⟨0,[],by omega,by omega,rfl,rfl,rfl,rfl,rfl⟩) ?_
  rintro k G M I ⟨j,es,hj,rfl,hel,heF,rfl,rfl,rfl⟩
  by_cases hjC:j < C
  ·have hz2:=aFA (n:=C - j) (z:=z4) (by omega)
   rw [hz2]
   have hl2:((es.map t4++z4::List.replicate (C - j - 1) z4).length:Int)=C:=by simp;omega
   repeat refine aW ?_
   (repeat refine aJ ?_);refine aO 1 [0,1,2,3,4,5,6,7,8,9,10] [1,1,1,1,1,0,0,0,0,0,0] mixed (by kernel_rfl) ?_
   repeat refine aW ?_
   rw [hgp,hgn,hgc]
   (refine bI rfl rfl (hg _ _ (fun φ h=>List.Mem.tail _ (List.Mem.tail _ h)) i j hiR hjC) rfl rfl rfl ?_;rintro _ _ _ ⟨rfl,e,rfl,he,rfl⟩;refine aL ?_)
   repeat refine yXf ?_
   refine fM (vs:=eR e) rfl rfl rfl (Ones.one e) iN (StAts.r (t4 e) (by omega) rfl) rfl rfl ⟨okF,?_⟩
   rw [aRV (by simp;omega)]
   repeat refine aW ?_
   refine fF (φ:=bW (es++[e]) k0) (Hv.snoc aA aA) ?_
   have e9:es.map t4++t4 e::List.replicate (C - j - 1) z4=(es++[e]).map t4++List.replicate (C - (j+1)) z4:=by simp [Nat.sub_sub]
   rw [e9]
   refine iC (C - (j+1)) (⟨j+1,es++[e],by omega,rfl,by simp;omega,by simp [heF,List.range_succ,he],rfl,rfl,rfl⟩)
  ·obtain rfl:j=C:=by omega
   rw [Nat.sub_self,List.replicate_zero,List.append_nil,aXA]
   have e8:hs=(rows++[(⟨bi,es⟩:MR)]).map hdM++List.replicate (R - (i+1)) ⟨none,0,0⟩:=by rw [hhs];simp [hel,Nat.sub_sub]
   repeat refine aW ?_
   rw [e8]
   refine fF (φ:=allM (rows++[(⟨bi,es⟩:MR)]) k0) (Hv.snocM aA aA) ?_
   refine yQ (M':= .blk bo (recs eH ((rows++[(⟨bi,es⟩:MR)]).map hdM++List.replicate (R - (i+1)) ⟨none,0,0⟩)) 52::((rows++[(⟨bi,es⟩:MR)]).map gF++M0)) (by rw [List.map_append (f:=gF)];exact aQP) ?_
   refine iC (R - (i+1)) (⟨i+1,rows++[(⟨bi,es⟩:MR)],by omega,rfl,by simp;omega,fun r hr=>by rcases List.mem_append.1 hr with h|h;exact hrc r h;rw [List.mem_singleton.1 h];exact hel,by rw [List.map_append,hrF,List.range_succ,List.map_append];simp [heF],rfl,rfl,rfl⟩)
 ·obtain rfl:i=R:=by omega
  have hz:List.replicate (i - i) (⟨none,0,0⟩:HD)=[]:=by rw [Nat.sub_self];rfl
  rw [hz,List.append_nil,aUQ]
  repeat refine aW ?_
  refine gD rfl rfl (⟨bo,rows,rfl,hrl,hrc,hrF,rfl,rfl⟩)
end
end Go.Proofs.YtgpkjcmipiodcaaGreat

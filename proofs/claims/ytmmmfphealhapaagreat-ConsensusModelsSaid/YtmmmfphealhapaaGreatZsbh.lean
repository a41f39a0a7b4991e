/- The program's model of homographies. -/
import Derived.Test.YtmmmfphealhapaaGreatZsaz
import Derived.Test.YtmmmfphealhapaaGreatZsbc
import Derived.Test.YtmmmfphealhapaaGreatZsba
import Derived.Test.YtmmmfphealhapaaGreatZsaq
import Derived.Test.YtmmmfphealhapaaGreatZsao
import Derived.Test.YtmmmfphealhapaaGreatZsbe
import Derived.Test.YtmmmfphealhapaaGreatZsax
import Derived.Test.YtmmmfphealhapaaGreatZsbf
import Derived.Test.YtmmmfphealhapaaGreatZsbg
import Derived.Test.YtmmmfphealhapaaGreatZsav
set_option linter.unusedSimpArgs false
set_option linter.unusedVariables false
set_option maxRecDepth 100000
set_option maxHeartbeats 4000000
namespace Go.Proofs.YtmmmfphealhapaaGreat
open Go Go.Fx
theorem aQH:∀(l:List Int) (f:Nat),l.getD f 0≠0→(∀j,j < f→l.getD j 0=0)→rX (l.map (fun x:Int=>(x:Rat)))=((l.getD f 0:Int):Rat)
 |[],f,h,_=>absurd (by simp) h
 |x::r,0,h,_=>by
  have hx:x≠0:=h
  show (if ((x:Int):Rat)=0 then _ else ((x:Int):Rat))=_
  rw [if_neg (int_ne hx)]
  rfl
 |x::r,f+1,h,hz=>by
  have hx:x=0:=hz 0 (by omega)
  show (if ((x:Int):Rat)=0 then rX (r.map (fun x:Int=>(x:Rat))) else _)=_
  rw [if_pos (by rw [hx];rfl)]
  exact aQH r f h (fun j hj=>hz (j+1) (by omega))
def qH (h:HZ) (f i:Nat):Rat:=Rat.divInt (gt h.l (i:Int)).z (gt h.l (f:Int)).z
theorem xM {h:HZ} {i:Nat} (hi:i < 9):(gN h.m).getD i 0=(gt h.l (i:Int)).z:=by
 obtain rfl|rfl|rfl|rfl|rfl|rfl|rfl|rfl|rfl:i=0∨i=1∨i=2∨i=3∨i=4∨i=5∨i=6∨i=7∨i=8:=by omega
 all_goals rfl
theorem bDL {ps:List Q4} {h:HZ} {g:Int} {f:Nat} (hg:g≠0) (hm:(gN h.m).map (fun x=>x*g)=gN (sJ ps)) (hf:f < 9) (h0:(gt h.l (f:Int)).z≠0) (hz:∀j:Nat,j < f→(gt h.l (j:Int)).z=0):
  [[qH h f 0,qH h f 1,qH h f 2],[qH h f 3,qH h f 4,qH h f 5],[qH h f 6,qH h f 7,qH h f 8]]=aRN (sG (gN (oD (sJ ps)))):=by
 have e1:gN (oD (sJ ps))=((gN h.m).map (fun x:Int=>(x:Rat))).map (fun x=>(g:Rat)*x):=by
  show (gN (sJ ps)).map (fun x:Int=>(x:Rat))=_
  rw [←hm,List.map_map,List.map_map]
  refine List.map_congr_left (fun x _=>?_)
  show ((x*g:Int):Rat)=(g:Rat)*(x:Rat)
  rw [Rat.intCast_mul,Rat.mul_comm]
 have e2:=aQH (gN h.m) f (by rw [xM hf];exact h0) (fun j hj=>by rw [xM (by omega)];exact hz j hj)
 rw [xM hf] at e2
 rw [e1,aHB (int_ne hg)]
 unfold sG
 rw [e2]
 have e3:∀a:Int,Rat.divInt a (gt h.l (f:Int)).z=(a:Rat) / ((gt h.l (f:Int)).z:Rat):=fun a=>Rat.divInt_eq_div _ _
 unfold qH
 simp only [e3]
 rfl
abbrev zRL:RL:=⟨none,0,[]⟩
def rwH (h:HZ) (f r:Nat):List (List Rat):=(List.range r).map (fun a=>(List.range 3).map (fun b=>qH h f (3*a+b)))
theorem aXO {h:HZ} {f r:Nat}:rwH h f (r+1)=rwH h f r++[(List.range 3).map (fun b=>qH h f (3*r+b))]:=by unfold rwH;rw [show List.range (r+1)=List.range r++[r] from List.range_succ,List.map_append];rfl
section
variable {X:List Nat} {w0:World} {M0:List Ent} {I0:List aM}
theorem aNE {q qs_:Option Addr} {l:List Q4} {smp:List Int} {n c cs:Nat} (hl:l.length=n) (hn:n≤64) (hs:∀s∈l,s.near) (hsl:smp.length=4) (hin:∀x∈smp,0≤x∧x < n) (hq:aH q (recs iL l)∈I0) (hqs:aH qs_ (recs eZ smp)∈I0):
  CD Tryz.prog 44 [.int .i64 3, .slice q n c, .slice qs_ 4 cs] X w0 (M0) I0 (aCK (aCF (bV l smp)) kX (M0) I0):=by
 refine aX (φ:=aH q (recs iL l)) (Hv.mem hq) (aX (φ:=aH qs_ (recs eZ smp)) (Hv.mem (List.mem_cons_of_mem _ hqs)) ?_)
 refine gG Tryz.func44 rfl Tryz.ntmps44 rfl ?_
 repeat refine aB ?_
 refine iN 30 4 ?_
 refine lV [0,1,19,20] rfl (fun k G M I=>∃(i:Nat) (ps:List Q4) (qe:Option Addr) (ce:Nat),i≤4∧k=4 - i∧ps=bV l (smp.take i)∧G=[(8, .slice qe ps.length ce),(21, .int .i64 i)]∧M= .row qe ps.length ce (recs iL ps) 30 4::M0∧I=aH qs_ (recs eZ smp)::aH q (recs iL l)::I0) (4) (⟨0,[],none,0,by omega,rfl,rfl,rfl,rfl,rfl⟩) ?_
 rintro kk G M I ⟨i,ps,qe,ce,hi,rfl,hps,rfl,rfl,rfl⟩
 have hpl:ps.length=i:=by rw [hps,pR,List.length_take];omega
 by_cases hin2:i < 4
 ·have hz:=hin _ (bD (ms:=smp) (i:=(i:Int)) (by omega))
  have ht:smp.take (i+1)=smp.take i++[gt smp (i:Int)]:=by rw [gtQ (by omega)];exact (List.take_append_getElem (by omega)).symm
  repeat refine aB ?_
  refine gX (cs:=recs iL [gt l (gt smp (i:Int))]) ([vQ4 (gt l (gt smp (i:Int)))]) rfl (fun b=>?_)
  refine wB (ys:=[gt l (gt smp (i:Int))]) 1 rfl rfl rfl (fun q2 c2=>?_)
  repeat refine aB ?_
  refine gJ (4 - (i+1)) (⟨i+1,ps++[gt l (gt smp (i:Int))],q2,c2,by omega,rfl,by rw [ht,rT,←hps],rfl,rfl,rfl⟩)
 obtain rfl:i=4:=by omega
 rw [←hsl,List.take_length] at hps
 have hnr:=vL hs (by rw [hl];exact hin)
 rw [←hps] at hnr ⊢
 have hF:=fun M0 I0=>aUU (X:=X) (w0:=w0) (M0:=M0) (I0:=I0) (ps:=ps) hpl hnr
 unfold aWG at hF
 refine aGG (fun _ e _=>by omega) (fun b tl hqe hce=>?_)
 subst hqe
 rw [hpl]
 repeat refine aB ?_
 (refine aC rfl (fun _=>aOP rfl (by omega)) rfl rfl ?_)
 (apply bI;exact eY;exact rfl;exact aA;exact AtsZ.app (AtsZ.all (by rw [fH,hpl]));exact rfl;exact rfl)
 repeat refine aB ?_
 by_cases hc:colP (l4 ps)∨colP (m4 ps)
 ·have hp:aCF ps=none:=by unfold aCF;rw [if_pos hc]
  rw [hp]
  simp only [if_pos hc] at hF
  (refine aQ rfl (hF _ _) ?_;rintro _ _ _ ⟨rfl,rfl,rfl⟩;refine aL ?_)
  repeat refine aB ?_
  refine dS (fun b11=>?_)
  repeat refine aB ?_
  refine fB (M':=M0) (I':=I0) aF aD ?_
  refine gH [6,7] (by first|exact .inl rfl|exact .inr rfl) rfl rfl rfl _ _ aF aD (⟨rfl,rfl,_,rfl⟩)
 have hp:aCF ps=some (aRN (sG (gN (oD (sJ ps))))):=by unfold aCF;rw [if_neg hc]
 rw [hp]
 simp only [if_neg hc] at hF
 (refine aQ rfl (hF _ _) ?_;rintro _ _ _ ⟨rfl,h,g,rfl,hg0,hhm,_,rfl⟩;refine aL ?_)
 obtain ⟨hc1,hc2⟩:¬colP (l4 ps)∧¬colP (m4 ps):=⟨fun h=>hc (.inl h),fun h=>hc (.inr h)⟩
 have hnz:∃j:Nat,j < 9∧(gt h.l (j:Int)).z≠0:=Classical.byContradiction (fun hn=>by
  obtain ⟨x,hx,hx0⟩:=aPD hc1 hc2
  rw [←hhm] at hx
  obtain ⟨y,hy,rfl⟩:=List.mem_map.1 hx
  obtain ⟨j,hj,rfl⟩:=List.mem_iff_getElem.1 hy
  have hj9:j < 9:=hj
  refine hn ⟨j,hj9,fun e=>hx0 ?_⟩
  have h2:=xM (h:=h) hj9
  rw [e,List.getD_eq_getElem?_getD,List.getElem?_eq_getElem hj] at h2
  have h3:(gN h.m)[j]=0:=h2
  exact (congrArg (· *g) h3).trans (Int.zero_mul g))
 repeat refine aB ?_
 refine dS (fun b11=>?_)
 repeat refine aB ?_
 (refine aC rfl (fun _=>qW rfl) rfl rfl ?_)
 (refine aQ rfl (bCB (b:=b11) (es:=h.l) rfl aA hnz) ?_;rintro _ _ _ ⟨rfl,rfl,f,rfl,hf9,hf0,hfz⟩;refine aL ?_)
 repeat refine aB ?_
 (refine jI (3) rfl rfl (by omega) (by omega) (by omega) (by omega) (rR (enc:=eL) (by decide) zRL 3) rfl rfl ?_;intro bm;refine aL ?_)
 repeat refine aB ?_
 obtain ⟨zf,hzf⟩:∃zf,gt h.l (f:Int)=zf:=⟨_,rfl⟩
 rw [hzf] at hf0
 refine bH (φ:=oV (h.l.map some) 772) (Hv.hAll aA) ?_
 refine bH (φ:=jD zf 772) (Hv.oAt (os:=h.l.map some) (i:=(f:Int)) aA ⟨by omega,by show (f:Int) < ((9:Nat):Int);omega⟩ (by rw [wH ⟨by omega,by show (f:Int) < ((9:Nat):Int);omega⟩,hzf])) ?_
 refine bH (φ:=aU [] 772) Hv.nilR ?_
 refine bH (φ:=dX [] 772) Hv.nilL ?_
 refine iN 77 4 ?_
 refine lV [11,13,14,52] rfl (fun k G M I=>∃(r j:Nat) (dn:List RL) (cur:RL) (hdr:List RL),3*r+j≤9∧k=9 - (3*r+j)∧j < 3∧dn.length=r∧cur.es.length=j∧((hdr=dn++cur::List.replicate (2 - r) zRL∧r < 3)∨(hdr=dn∧r=3))∧dn.map RL.q=rwH h f r∧(∀x∈dn,x.es.length=3)∧qs cur.es=(List.range j).map (fun b=>qH h f (3*r+b))∧G=[(53, .int .i64 ((3*r+j:Nat):Int))]∧M= .row cur.p cur.es.length cur.c (recs eR cur.es) 77 4:: .blk bm (recs eL hdr) 70:: .blk b11 (vJ h) 44::M0∧I=aU cur.es 772::dX dn 772::jD zf 772::oV (h.l.map some) 772::I0) (9) (⟨0,0,[],zRL,List.replicate 3 zRL,by omega,rfl,by omega,rfl,rfl, .inl ⟨rfl,by omega⟩,rfl,fun x hx=>absurd hx List.not_mem_nil,rfl,rfl,rfl,rfl⟩) ?_
 rintro kk G M I ⟨r,j,dn,cur,hdr,hrj,rfl,hj3,hdl,hcl,hh,hdq,hd3,hcq,rfl,rfl,rfl⟩
 obtain ⟨i,hi⟩:∃i,3*r+j=i:=⟨_,rfl⟩
 rw [hi]
 by_cases hii:i < 9
 ·obtain ⟨hhd,hr3⟩:hdr=dn++cur::List.replicate (2 - r) zRL∧r < 3:=hh.elim id (fun h=>by omega)
  have hhl:hdr.length=3:=by rw [hhd];simp;omega
  have hgr:gt hdr (r:Int)=cur:=by rw [hhd];exact wU (by omega)
  obtain ⟨x,hx⟩:∃x,gt h.l (i:Int)=x:=⟨_,rfl⟩
  refine bH (φ:=jD x 772) (Hv.oAt (os:=h.l.map some) (i:=(i:Int)) aA ⟨by omega,by show (i:Int) < ((9:Nat):Int);omega⟩ (by rw [wH ⟨by omega,by show (i:Int) < ((9:Nat):Int);omega⟩,hx])) ?_
  have hN:=fun M0 I0 h1 h2=>aYP (X:=X) (w0:=w0) (M0:=M0) (I0:=I0) (x:=x) (y:=zf) (u:=772) (by omega) hf0 h1 h2
  unfold RQc at hN
  repeat refine aB ?_
  (refine aC rfl (fun _=>zJ (cs:=recs eN h.l) (vs:=eN x) (i:=(i:Int)) rfl rfl ⟨by omega,by omega⟩ (by rw [←hx];exact aGW ⟨by omega,by show (i:Int) < ((9:Nat):Int);omega⟩)) rfl rfl ?_)
  refine dS (fun b16=>?_)
  repeat refine aB ?_
  refine nJ (fun G M I=>∃(b17:Nat) (e:RE),e.q=Rat.divInt x.z zf.z∧G=[(11, .pointer (some ⟨b11,0,none⟩)),(13, .int .i64 (f:Int)),(14, .slice (some ⟨bm,0,none⟩) 3 3),(15, .int .i64 (i:Int)),(17, .pointer (some ⟨b17,0,none⟩)),(52,hv9 h),(53, .int .i64 (i:Int))]∧M= .blk b17 (eR e) 77:: .row cur.p cur.es.length cur.c (recs eR cur.es) 77 4:: .blk bm (recs eL hdr) 70:: .blk b11 (vJ h) 44::M0∧I=bW e 772::aU cur.es 772::dX dn 772::jD zf 772::oV (h.l.map some) 772::I0) ?_ ?_
  ·((repeat refine aG ?_);refine pV (.blk b16 (eN x) 42:: .row cur.p cur.es.length cur.c (recs eR cur.es) 77 4:: .blk bm (recs eL hdr) 70:: .blk b11 (vJ h) 44::M0) (jD x 772::aU cur.es 772::dX dn 772::jD zf 772::oV (h.l.map some) 772::I0) mixed ?_)
   refine dM (fuel:=7) (listed':=#[true,true,true,true,false,false,false,false,false,false,false]) [0,1,2,3] [1,2,2,1] aF aD (by kernel_rfl) (by kernel_rfl) rfl rfl ?_
   repeat refine aB ?_
   ((apply bI;exact eY;exact rfl;exact aA;exact AtsZ.o0 (enc:=eN) (sz:=2) (ms:=h.l) (i:=(f:Int)) ⟨by omega,by show (f:Int) < ((9:Nat):Int);omega⟩;exact rfl;exact rfl);rw [hzf])
   repeat refine aB ?_
   refine bB (fuel:=6) (i:=4) (j:=8) (by kernel_rfl) ?_ ?_
   ·(refine aQ rfl (hN _ _ aA aA) ?_;rintro _ _ _ ⟨rfl,e,rfl,he,rfl⟩;refine aL ?_)
    refine bK ?_
    refine bL [5,6,7,8,9,10] [1,1,2,0,0,0] aF aD (by kernel_rfl) (by kernel_rfl) rfl rfl ?_
    repeat refine aB ?_
    refine dS (fun b17=>?_)
    repeat refine aB ?_
    refine yA ⟨b17,e,he,rfl,rfl,rfl⟩
   ·refine dS (fun b17=>?_)
    refine bK ?_
    refine bL [4,5,6,7,9,10] [0,0,0,1,0,0] aF aD (by kernel_rfl) (by kernel_rfl) rfl rfl ?_
    repeat refine aB ?_
    (refine aQ rfl (hN _ _ aA aA) ?_;rintro _ _ _ ⟨rfl,e,rfl,he,rfl⟩;refine aL ?_)
    repeat refine aB ?_
    refine yA ⟨b17,e,he,rfl,rfl,rfl⟩
  rintro G M I ⟨b17,e,he,rfl,rfl,rfl⟩
  have hir:Int.tdiv (i:Int) 3=(r:Int):=by rw [Int.tdiv_eq_ediv_of_nonneg (by omega)];omega
  have hcq2:qs (cur.es++[e])=(List.range (j+1)).map (fun b=>qH h f (3*r+b)):=by
   show (cur.es++[e]).map RE.q=_
   rw [List.map_append,show cur.es.map RE.q=qs cur.es from rfl,hcq,List.range_succ,List.map_append]
   show _++[e.q]=_++[qH h f (3*r+j)]
   rw [he]
   unfold qH
   rw [hi,hx,hzf]
  (repeat refine aG ?_);refine nQ 2 (.blk b17 (eR e) 77:: .blk bm (recs eL hdr) 70:: .blk b11 (vJ h) 44::M0) (I0) [0,1,2,3,4,5,6,7,8,9,10,11,12] [2,2,2,2,2,2,2,1,1,0,0,0,0] aF aD mixed (by kernel_rfl) ?_
  repeat refine aB ?_
  rw [hir]
  repeat refine aB ?_
  rw [hgr]
  repeat refine aB ?_
  refine gX (cs:=recs eR [e]) ([rv e]) rfl (fun b18=>?_)
  refine wB (ys:=[e]) 2 rfl rfl rfl (fun q2 c3=>?_)
  repeat refine yXh ?_
  refine mX rfl rfl rfl jL (StAt.r1 (⟨q2,c3,cur.es++[e]⟩:RL) ⟨by omega,by omega⟩ rfl) rfl rfl ⟨okF,?_⟩
  rw [hhd,wR (by omega)]
  repeat refine aB ?_
  refine dF (φ:=aU (cur.es++[e]) 772) (Hv.snoc aA aA) ?_
  by_cases hj2:j < 2
  ·rw [show (i:Int)+1=((3*r+(j+1):Nat):Int) by omega]
   refine gJ (9 - (3*r+(j+1))) (⟨r,j+1,dn,⟨q2,c3,cur.es++[e]⟩,dn++(⟨q2,c3,cur.es++[e]⟩:RL)::List.replicate (2 - r) zRL,by omega,rfl,by omega,hdl,by simp [hcl], .inl ⟨rfl,hr3⟩,hdq,hd3,hcq2,rfl,rfl,rfl⟩)
  ·obtain rfl:j=2:=by omega
   rw [show (i:Int)+1=((3*(r+1)+0:Nat):Int) by omega]
   refine fB (M':= .row q2 (cur.es++[e]).length c3 (recs eR (cur.es++[e])) 77 4:: .blk bm (recs eL (dn++(⟨q2,c3,cur.es++[e]⟩:RL)::List.replicate (2 - r) zRL)) 70:: .blk b11 (vJ h) 44::M0) (I':=aU (cur.es++[e]) 772::dX dn 772::jD zf 772::oV (h.l.map some) 772::I0) aF aD ?_
   refine aIT (k:=772) aA ?_
   refine dF (φ:=dX (dn++[(⟨q2,c3,cur.es++[e]⟩:RL)]) 772) (Hv.snocL aA aA) ?_
   refine dF (φ:=aU [] 772) Hv.nilR ?_
   refine yK (fun _ hw=>hw.row0 77 4) ?_
   refine gJ (9 - (3*(r+1)+0)) (⟨r+1,0,dn++[(⟨q2,c3,cur.es++[e]⟩:RL)],zRL,dn++(⟨q2,c3,cur.es++[e]⟩:RL)::List.replicate (2 - r) zRL,by omega,rfl,by omega,by simp [hdl],rfl,by
    by_cases h2:r=2
    ·subst h2;exact .inr ⟨rfl,rfl⟩
    ·refine .inl ⟨?_,by omega⟩
     obtain ⟨d,hd⟩:∃d,2 - r=d+1:=⟨1 - r,by omega⟩
     rw [hd,show 2 - (r+1)=d by omega,List.append_assoc]
     rfl,by rw [List.map_append,hdq,aXO];show _++[qs (cur.es++[e])]=_;rw [hcq2],fun x hx=>by
    rcases List.mem_append.1 hx with h1|h1
    ·exact hd3 x h1
    ·rw [List.mem_singleton.1 h1];simp [hcl],rfl,rfl,rfl,rfl⟩)
 ·obtain ⟨rfl,hr⟩:hdr=dn∧r=3:=hh.elim (fun h=>by omega) id
  subst hr
  match hdr,hdl with
  |[d0,d1,d2],_=>
   refine rY (M':= .blk bm (recs eL [d0,d1,d2]) 70::M0) (I':=dX [d0,d1,d2] 772::I0) aF aD ?_
   refine aAJ (C:=3) rfl (by omega) aA ?_
   refine bH (φ:=iB ⟨some ⟨bm,0,none⟩,3,[d0,d1,d2]⟩ kX) (Hv.xm (k:=772) aA (by show 772≤103842564;omega)) ?_
   repeat refine aB ?_
   refine fB (M':=M0) (I':=iB ⟨some ⟨bm,0,none⟩,3,[d0,d1,d2]⟩ kX::I0) aF aD ?_
   refine gH [6,7] (by first|exact .inl rfl|exact .inr rfl) rfl rfl rfl _ _ aF aD (⟨rfl,⟨some ⟨bm,0,none⟩,3,[d0,d1,d2]⟩,rfl,by rw [show MX.q ⟨some ⟨bm,0,none⟩,3,[d0,d1,d2]⟩=[d0,d1,d2].map RL.q from rfl,hdq];exact bDL hg0 hhm hf9 (by rw [hzf];exact hf0) hfz,⟨rfl,hd3⟩,rfl⟩)
end
def aKU (kd:Nat) (l:List Q4) (smp:List Int):Option Mt:=if kd=3 then aCF (bV l smp) else qJ kd (bV l smp)
def SameB (o o':Option (List Int × List Int × Mt)):Prop:=(o=none∧o'=none)∨∃g g',o=some g∧o'=some g'∧g.1=g'.1∧g.2.1=g'.2.1
theorem bDZ {kd:Nat} (h:kd≤2):mI kd=2*(kd+1):=by
 obtain rfl|rfl|rfl:kd=0∨kd=1∨kd=2:=by omega
 all_goals rfl
def movQ (a b:Int) (ex tu:Bool) (s:Q4):Q4:=(if tu then turnQ else id) ((if ex then exchQ else id) (bCR a b s))
section
variable {X:List Nat} {w0:World} {M0:List Ent} {I0:List aM}
end
theorem aOD {kd:Nat}:kb 16 (mI kd+1)≤267605:=by
 have h:=sM 16 (m:=mI kd+1) (n:=7) (by have:=aNT kd;omega)
 exact Nat.le_trans h (by decide)
theorem bBF {kd:Nat}:kb 16 (mI kd)≤267605:=Nat.le_trans (sM 16 (by omega)) (aOD (kd:=kd))
theorem bCG {q:Rat}:q.num.sign=0↔q=0:=⟨fun h=>Rat.num_eq_zero.1 (Int.sign_eq_zero_iff_zero.1 h),fun h=>Int.sign_eq_zero_iff_zero.2 (Rat.num_eq_zero.2 h)⟩
def aBN (x:Int) (l:List Q4) (n:Nat) (smp:List Int):Int:=if qI x l≠0 then qI x l else if (smp.length:Int)≠x+1 then 4 else uB n smp
section
variable {X:List Nat} {w0:World} {M0:List Ent} {I0:List aM}
theorem aRK {kd:Nat} {q qs_:Option Addr} {l:List Q4} {smp:List Int} {n c ns cs_:Nat} (hk:kd≤3) (hl:l.length=n) (hn:n≤64) (hs:∀s∈l,s.near) (hsl:smp.length=ns) (hns:ns=kd+1) (hin:∀x∈smp,0≤x∧x < n) (hq:aH q (recs iL l)∈I0) (hqs:aH qs_ (recs eZ smp)∈I0):
  CD Tryz.prog 23 [.int .i64 (kd:Int), .slice q n c, .slice qs_ ns cs_] X w0 M0 I0 (aCK (aKU kd l smp) (nV+nV) M0 I0):=by
 refine aX (φ:=aH q (recs iL l)) (Hv.mem hq) (aX (φ:=aH qs_ (recs eZ smp)) (Hv.mem (List.mem_cons_of_mem _ hqs)) ?_)
 by_cases h3:kd=3
 ·subst h3
  obtain rfl:ns=4:=hns
  have hH:=fun M0 I0 h1 h2=>bBZ (X:=X) (w0:=w0) (M0:=M0) (I0:=I0) (q:=q) (qs_:=qs_) (l:=l) (smp:=smp) (n:=n) (c:=c) (cs_:=cs_) hl hn hs hsl hin h1 h2
  unfold aKU
  rw [if_pos rfl]
  unfold aCK at hH ⊢
  generalize aCF (bV l smp)=o at*
  refine gG Tryz.func23 rfl Tryz.ntmps23 rfl ?_
  rcases o with _|A
  ·repeat refine aB ?_
   (refine aQ rfl (hH _ _ aA aA) ?_;rintro _ _ _ ⟨rfl,rfl,u,rfl⟩;refine aL ?_)
   repeat refine aB ?_
   refine fB (M':=M0) (I':=I0) aF aD ?_
   refine tyS [6,7] rfl rfl (⟨rfl,rfl,u,rfl⟩)
  ·repeat refine aB ?_
   (refine aQ rfl (hH _ _ aA aA) ?_;rintro _ _ _ ⟨rfl,m,rfl,hmq,hmd,rfl⟩;refine aL ?_)
   repeat refine aB ?_
   refine fB (M':=M0) (I':=iB m (nV+nV)::I0) aF aD ?_
   refine tyS [6,7] rfl rfl (⟨rfl,m,rfl,hmq,hmd,rfl⟩)
 have hk2:kd≤2:=by omega
 unfold aKU
 rw [if_neg h3]
 have hpl:(bV l smp).length=kd+1:=by rw [pR,hsl,hns]
 have hpn:bV l smp≠[]:=fun e=>by rw [e] at hpl;cases hpl
 have hC2:2*(bV l smp).length=mI kd:=by rw [hpl,bDZ hk2]
 have hC:=aNT kd
 have hdA:=aPQ hC2
 have hdB:(dsB kd (bV l smp)).length=mI kd:=by rw [vK,hC2]
 have hfit:=bAM hC2
 have hEq:=fun M0 I0 h1 h2=>aFK (X:=X) (w0:=w0) (M0:=M0) (I0:=I0) (kd:=kd) (q:=q) (qs_:=qs_) (l:=l) (smp:=smp) (n:=n) (c:=c) (ns:=ns) (cs_:=cs_) hk2 hl hn hs hsl (by omega) hin h1 h2
 obtain ⟨K,hK⟩:∃K,kb 16 (mI kd+1)=K:=⟨_,rfl⟩
 have hK2:K≤267605:=by rw [←hK];exact aOD
 have hSv:=fun (A:MX) (b:RL) dA lb M0 I0 h1 h2=>aNQ (X:=X) (w0:=w0) (M0:=M0) (I0:=I0) (a:=A) (b:=b) (C:=mI kd) (u:=16) (by omega) (Nat.le_trans aOD (by decide)) dA lb h1 h2
 have hRk:=fun (A:MX) (dA:A.dim (mI kd) (mI kd)) M0 I0 h1=>aWB (X:=X) (w0:=w0) (M0:=M0) (I0:=I0) (a:=A) (R:=mI kd) (C:=mI kd) (k0:=16) (Nat.le_trans bBF (by decide)) (by omega) (by omega) dA h1
 have hSh:=fun (x:RL) (hx:x.es.length=mI kd) M0 I0 h=>aRP (X:=X) (w0:=w0) (M0:=M0) (I0:=I0) (kd:=kd) (u:=K) (x:=x) hk2 (by omega) (by omega) h
 have hh:hD K 3≤50000000000:=by show (2+2)*(K+(1+2)*(K+(0+2)*(K+K+1)+1)+1)≤_;omega
 have hDt:=fun (m:MX) (dm:m.dim 3 3) M0 I0 h=>aQS 3 (X:=X) (w0:=w0) (M0:=M0) (I0:=I0) (m:=m) (k0:=K) (by omega) (by omega) hh dm h
 have hSg:=fun (e:RE) M0 I0 h=>rQ (X:=X) (w0:=w0) (M0:=M0) (I0:=I0) (e:=e) (k:=hD K 3) (by omega) h
 rw [hK] at hSv
 unfold SolG at hSv
 refine gG Tryz.func23 rfl Tryz.ntmps23 rfl ?_
 repeat refine aB ?_
 (refine aQ rfl (hEq _ _ aA aA) ?_;rintro _ _ _ ⟨rfl,A,b,rfl,hAq,hbq,rfl⟩;refine aL ?_)
 have dA:A.dim (mI kd) (mI kd):=aTW (by rw [hAq];exact hdA)
 have lb:b.es.length=mI kd:=by rw [show b.es.length=b.q.length from (List.length_map ..).symm,hbq];exact hdB
 have lA:=dA.1
 have lA0:(gt A.rows 0).es.length=mI kd:=dA.row (i:=0) (by omega)
 have hSv2:=hSv A b dA lb
 rw [hAq,hbq] at hSv2
 refine cK (φ:=aH A.p (recs eL A.rows)) (Hv.xsl (k:=16) aA) ?_
 repeat refine aB ?_
 (refine aQ rfl (hSv2 _ _ aA aA) ?_;rintro _ _ _ ⟨rfl,(⟨hd0,rfl,rfl⟩|⟨x,rfl,hxl,hxq,rfl⟩)⟩)
 ·refine aL ?_
  have hr:rk (tN kd (bV l smp)) (mI kd) < mI kd:=by
   have h1:=aOA hdA
   have h2:rk (tN kd (bV l smp)) (mI kd)≠mI kd:=fun e=>(aLT hdA).1 e hd0
   omega
  rw [if_pos hr] at hfit
  have hp:qJ kd (bV l smp)=none:=by unfold qJ;rw [if_neg hpn,if_pos hfit]
  rw [hp]
  repeat refine aB ?_
  (repeat refine aG ?_);refine qQ (M0) (I0) [0,1,2,3,5,6,7,8,4,9,10] [1,1,0,0,1,1,1,1,0,0,0] mixed ?_
  repeat refine aB ?_
  refine fB (M':=M0) (I':=I0) aF aD ?_
  refine gH [6,7] (by first|exact .inl rfl|exact .inr rfl) rfl rfl rfl _ _ aF aD (⟨rfl,rfl,_,rfl⟩)
 refine aL ?_
 have hRk2:=hRk A dA
 rw [hAq] at hRk2
 repeat refine aB ?_
 by_cases hr:rk (tN kd (bV l smp)) (mI kd) < mI kd
 ·rw [if_pos hr] at hfit
  have hp:qJ kd (bV l smp)=none:=by unfold qJ;rw [if_neg hpn,if_pos hfit]
  rw [hp]
  generalize rk (tN kd (bV l smp)) (mI kd)=R at*
  (repeat refine aG ?_);refine qQ (M0) (aH A.p (recs eL A.rows)::iB A 16::I0) [0,1,2,3,5,6,7,8,4,9,10] [1,1,0,0,1,1,1,1,0,0,0] mixed ?_
  repeat refine aB ?_
  rw [lA0]
  repeat refine aB ?_
  (refine aQ rfl (hRk2 _ _ aA) ?_;rintro _ _ _ ⟨rfl,rfl,rfl⟩;refine aL ?_)
  repeat refine aB ?_
  refine fB (M':=M0) (I':=I0) aF aD ?_
  refine gH [6,7] (by first|exact .inl rfl|exact .inr rfl) rfl rfl rfl _ _ aF aD (⟨rfl,rfl,_,rfl⟩)
 rw [if_neg hr] at hfit
 obtain ⟨hf0,_,hfx⟩:=hfit
 have hdt:dt (mI kd) (at2 (tN kd (bV l smp)))≠0:=(aLT hdA).1 (by have:=aOA hdA;omega)
 have hxq2:x.q=zG kd (bV l smp):=(hxq hdt).trans hfx
 have hSh2:=hSh x hxl
 rw [hxq2] at hSh2
 unfold XQ at hSh2
 have hrr:¬((rk (tN kd (bV l smp)) (mI kd):Nat):Int) < ((mI kd:Nat):Int):=by omega
 (repeat refine aG ?_);refine qQ (M0) (aH A.p (recs eL A.rows)::iB A 16::I0) [0,1,2,3,5,6,7,8,4,9,10] [1,1,0,0,1,1,1,1,0,0,0] mixed ?_
 repeat refine aB ?_
 rw [lA0]
 repeat refine aB ?_
 (refine aQ rfl (hRk2 _ _ aA) ?_;rintro _ _ _ ⟨rfl,rfl,rfl⟩;refine aL ?_)
 generalize rk (tN kd (bV l smp)) (mI kd)=R at*
 repeat refine aB ?_
 (refine aQ rfl (hSh2 _ _ aA) ?_;rintro _ _ _ ⟨rfl,m,rfl,hmq,hmd,rfl⟩;refine aL ?_)
 have hDt2:=hDt m hmd
 rw [hmq] at hDt2
 repeat refine aB ?_
 (refine aQ rfl (hDt2 _ _ aA) ?_;rintro _ _ _ ⟨rfl,e,rfl,he,rfl⟩;refine aL ?_)
 refine dK rfl (hSg e _ _ (Hv.mem aA)) ?_
 by_cases hd3:dt 3 (at2 (frm kd (zG kd (bV l smp))))=0
 ·have hp:qJ kd (bV l smp)=none:=by unfold qJ;rw [if_neg hpn,if_neg hf0,if_pos hd3]
  rw [hp]
  have hs0:e.q.num.sign=0:=bCG.2 (he.trans hd3)
  repeat refine aB ?_
  refine fB (M':=M0) (I':=I0) aF aD ?_
  refine gH [6,7] (by first|exact .inl rfl|exact .inr rfl) rfl rfl rfl _ _ aF aD (⟨rfl,rfl,mv m,by rw [bE (fun h=>h hs0)]⟩)
 ·have hp:qJ kd (bV l smp)=some (frm kd (zG kd (bV l smp))):=by unfold qJ;rw [if_neg hpn,if_neg hf0,if_neg hd3]
  rw [hp]
  have hs0:¬e.q.num.sign=0:=fun h=>hd3 (he.symm.trans (bCG.1 h))
  repeat refine aB ?_
  refine dF (φ:=iB m (nV+nV)) (Hv.xm (k:=K) aA (Nat.le_trans hK2 (by decide))) ?_
  refine fB (M':=M0) (I':=iB m (nV+nV)::I0) aF aD ?_
  refine gH [6,7] (by first|exact .inl rfl|exact .inr rfl) rfl rfl rfl _ _ aF aD (⟨rfl,m,by rw [bJ hs0],hmq,hmd,rfl⟩)
theorem aTG {x:Int} {q qs_:Option Addr} {l:List Q4} {smp:List Int} {n c ns cs_:Nat} (hl:l.length=n) (hn:(n:Int)≤9223372036854775807) (hsl:smp.length=ns) (hns:ns≤1000) (hc:aBN x l n smp≠0) (hq:aH q (recs iL l)∈I0) (hqs:aH qs_ (recs eZ smp)∈I0):
  CD Tryz.prog 20 [.int .i64 x, .slice q n c, .slice qs_ ns cs_] X w0 M0 I0 (fun v M I=>M0=M∧I0=I∧v= .tuple #[.slice none 0 0, .int .i64 (aBN x l n smp)]):=by
 have hK:=fun M0 I0 h=>aAU (X:=X) (w0:=w0) (M0:=M0) (I0:=I0) (x:=x) (q:=q) (l:=l) (n:=n) (c:=c) hl hn h
 have hLs:=fun M0 I0 h=>aDT (X:=X) (w0:=w0) (M0:=M0) (I0:=I0) (q:=q) (qs:=qs_) (l:=l) (smp:=smp) (n:=n) (c:=c) (ns:=ns) (cs:=cs_) hl hn hsl hns h
 unfold aBN at hc ⊢
 rw [hsl] at hc ⊢
 by_cases h0:qI x l=0
 ·rw [if_neg (fun h=>h h0)] at hc ⊢
  rw [h0,if_pos rfl] at hK
  by_cases h1:(ns:Int)=x+1
  ·rw [if_neg (fun h=>h h1)] at hc ⊢
   generalize uB n smp=C at*
   refine gG Tryz.func20 rfl Tryz.ntmps20 rfl ?_
   repeat refine aB ?_
   refine dK rfl (hK _ _ aA) ?_
   repeat refine aB ?_
   refine dK rfl (hLs _ _ aA) ?_
   repeat refine aB ?_
   refine tyS [6,7] rfl rfl (⟨rfl,rfl,rfl⟩)
  ·rw [if_pos h1]
   refine gG Tryz.func20 rfl Tryz.ntmps20 rfl ?_
   repeat refine aB ?_
   refine dK rfl (hK _ _ aA) ?_
   repeat refine aB ?_
   refine tyS [6,7] rfl rfl (⟨rfl,rfl,rfl⟩)
 ·rw [if_pos h0]
  rw [if_neg h0] at hK
  generalize qI x l=C at*
  refine gG Tryz.func20 rfl Tryz.ntmps20 rfl ?_
  repeat refine aB ?_
  refine dK rfl (hK _ _ aA) ?_
  repeat refine aB ?_
  refine tyS [6,7] rfl rfl (⟨rfl,rfl,rfl⟩)
theorem aTN {kd:Nat} {q qs_:Option Addr} {l:List Q4} {smp:List Int} {n c ns cs_:Nat} (hk:kd≤3) (hl:l.length=n) (hn:n≤64) (hs:∀s∈l,s.near) (hc:jH l=0) (hsl:smp.length=ns) (hns:ns=kd+1) (hls:uB n smp=0) (hq:aH q (recs iL l)∈I0) (hqs:aH qs_ (recs eZ smp)∈I0):
  CD Tryz.prog 20 [.int .i64 (kd:Int), .slice q n c, .slice qs_ ns cs_] X w0 M0 I0 (RefR (aKU kd l smp) kX M0 I0):=by
 have hK:=fun M0 I0 h=>aAU (X:=X) (w0:=w0) (M0:=M0) (I0:=I0) (x:=(kd:Int)) (q:=q) (l:=l) (n:=n) (c:=c) hl (by omega) h
 rw [aRI hk hc,if_pos rfl] at hK
 have hLs:=fun M0 I0 h=>aDT (X:=X) (w0:=w0) (M0:=M0) (I0:=I0) (q:=q) (qs:=qs_) (l:=l) (smp:=smp) (n:=n) (c:=c) (ns:=ns) (cs:=cs_) hl (by omega) hsl (by omega) h
 rw [hls] at hLs
 have hM:∀M0 I0,aH q (recs iL l)∈I0→aH qs_ (recs eZ smp)∈I0→CD Tryz.prog 44 [.int .i64 (kd:Int), .slice q n c, .slice qs_ ns cs_] X w0 M0 I0 (aCK (aKU kd l smp) kX M0 I0):=fun M0 I0 h1 h2=>by
  unfold aKU
  by_cases h3:kd=3
  ·subst h3
   obtain rfl:ns=4:=hns
   rw [if_pos rfl]
   exact aNE hl hn hs hsl (aIF hls) h1 h2
  ·rw [if_neg h3]
   exact aSJ (by omega) hl hn hs hsl (by omega) (aIF hls) h1 h2
 unfold RefR
 unfold aCK at hM
 generalize aKU kd l smp=o at*
 refine gG Tryz.func20 rfl Tryz.ntmps20 rfl ?_
 repeat refine aB ?_
 refine dK rfl (hK _ _ aA) ?_
 repeat refine aB ?_
 refine dK rfl (hLs _ _ aA) ?_
 rcases o with _|A
 ·repeat refine aB ?_
  (refine aQ rfl (hM _ _ aA aA) ?_;rintro _ _ _ ⟨rfl,rfl,u,rfl⟩;refine aL ?_)
  repeat refine aB ?_
  refine tyS [6,7] rfl rfl (⟨rfl,rfl,rfl⟩)
 ·repeat refine aB ?_
  (refine aQ rfl (hM _ _ aA aA) ?_;rintro _ _ _ ⟨rfl,m,rfl,hmq,hmd,rfl⟩;refine aL ?_)
  repeat refine aB ?_
  refine tyS [6,7] rfl rfl (⟨rfl,m,rfl,hmq,hmd,rfl⟩)
theorem aXH {kd:Nat} (hk:kd≤3):CD Tryz.prog 19 [.int .i64 (kd:Int)] X w0 M0 I0 (fun v M I=>M0=M∧I0=I∧v= .int .i64 ((kd:Int)+1)):=by
 have hl4:([1,2,3,4]:List Int).length=4:=rfl
 have hg:gt ([1,2,3,4]:List Int) (kd:Int)=(kd:Int)+1:=by
  obtain rfl|rfl|rfl|rfl:kd=0∨kd=1∨kd=2∨kd=3:=by omega
  all_goals rfl
 refine aS Tryz.func19 rfl Tryz.ntmps19 rfl ?_
 repeat refine aB ?_
 refine gX (cs:=recs eZ [1,2,3,4]) ([.int .i64 1, .int .i64 2, .int .i64 3, .int .i64 4]) rfl (fun b=>?_)
 repeat refine aB ?_
 rw [hg]
 repeat refine aB ?_
 refine fB (M':=M0) (I':=I0) aF aD ?_
 refine iA rfl rfl (⟨rfl,rfl,rfl⟩)
end
section
variable {X:List Nat} {w0:World} {M0:List Ent} {I0:List aM}
theorem LMods {x:Int} {q qs_:Option Addr} {l:List Q4} {smp:List Int} {n c ns cs_:Nat} (hl:l.length=n) (hn:(n:Int)≤9223372036854775807) (hsl:smp.length=ns) (hns:(ns:Int)≤9223372036854775807) (hq:aH q (recs iL l)∈I0) (hqs:aH qs_ (recs eZ smp)∈I0):
  CD Tryz.prog 4 [.int .i64 x, .slice q n c, .slice qs_ ns cs_] X w0 M0 I0 (fun v M I=>M0=M∧I0=I∧v= .bool true):=by
 have hKn:=fun M0 I0=>aNB (X:=X) (w0:=w0) (M0:=M0) (I0:=I0)
 have hSz:=fun M0 I0=>aOY (X:=X) (w0:=w0) (M0:=M0) (I0:=I0) (x:=x)
 have hIk:=fun M0 I0=>aOB (X:=X) (w0:=w0) (M0:=M0) (I0:=I0) (x:=x)
 have hCk:=fun M0 I0 h=>xL (X:=X) (w0:=w0) (M0:=M0) (I0:=I0) (q:=q) (l:=l) (n:=n) (c:=c) hl hn h
 have hLc:=fun M0 I0 h=>aTF (X:=X) (w0:=w0) (M0:=M0) (I0:=I0) (q:=q) (l:=l) (n:=n) (c:=c) hl hn h
 refine aX (φ:=aH q (recs iL l)) (Hv.mem hq) (aX (φ:=aH qs_ (recs eZ smp)) (Hv.mem (List.mem_cons_of_mem _ hqs)) ?_)
 refine gG Tryz.func4 rfl Tryz.ntmps4 rfl ?_
 repeat refine aB ?_
 refine dK rfl (hKn _ _) ?_
 repeat refine aB ?_
 refine dK rfl (bBB) ?_
 by_cases h8:(n:Int)≤8
 case neg=>
  repeat refine aB ?_
  refine fB (M':=M0) (I':=I0) aF aD ?_
  refine iA rfl rfl (⟨rfl,rfl,rfl⟩)
 by_cases h10:10 < (ns:Int)
 ·repeat refine aB ?_
  refine fB (M':=M0) (I':=I0) aF aD ?_
  refine iA rfl rfl (⟨rfl,rfl,rfl⟩)
 have hMb:=fun (hc:aBN x l n smp≠0) M0 I0 h1 h2=>aTG (X:=X) (w0:=w0) (M0:=M0) (I0:=I0) (x:=x) (q:=q) (qs_:=qs_) (l:=l) (smp:=smp) (n:=n) (c:=c) (ns:=ns) (cs_:=cs_) hl hn hsl (by omega) hc h1 h2
 have hkC:qI x l=if jH l=0 then (if kdP x then 0 else 1) else jH l:=rfl
 have hLl:=fun M0 I0 h=>aOM (X:=X) (w0:=w0) (M0:=M0) (I0:=I0) (q:=qs_) (l:=smp) (n:=ns) (m:=n) (c:=cs_) hsl (by omega) h
 by_cases hk:kdP x
 case neg=>
  rw [if_neg hk,if_neg hk] at hSz
  rw [bE hk] at hIk
  rw [if_neg hk] at hkC
  have hmc:aBN x l n smp=if jH l=0 then 1 else jH l:=by
   unfold aBN
   rw [hkC]
   by_cases h:jH l=0
   ·rw [if_pos h,if_pos (by decide)]
   ·rw [if_neg h,if_pos h]
  have hmn:aBN x l n smp≠0:=by
   rw [hmc]
   by_cases h:jH l=0
   ·rw [if_pos h];decide
   ·rw [if_neg h];exact h
  have hMb2:=hMb hmn
  rw [hmc] at hMb2
  generalize jH l=D at*
  repeat refine aB ?_
  refine dK rfl (hSz _ _) ?_
  repeat refine aB ?_
  refine dK rfl (hIk _ _) ?_
  by_cases hD:D=0
  ·rw [if_pos hD] at hMb2
   repeat refine aB ?_
   (refine aQ rfl (hMb2 _ _ aA aA) ?_;rintro _ _ _ ⟨rfl,rfl,rfl⟩;refine aL ?_)
   repeat refine aB ?_
   refine dK rfl (hLc _ _ aA) ?_
   repeat refine aB ?_
   refine dK rfl (hCk _ _ aA) ?_
   repeat refine aB ?_
   refine dK rfl (hIk _ _) ?_
   repeat refine aB ?_
   refine fB (M':=M0) (I':=I0) aF aD ?_
   refine iA rfl rfl (⟨rfl,rfl,congrArg Value.bool (bJ rfl)⟩)
  ·rw [if_neg hD] at hMb2
   repeat refine aB ?_
   (refine aQ rfl (hMb2 _ _ aA aA) ?_;rintro _ _ _ ⟨rfl,rfl,rfl⟩;refine aL ?_)
   repeat refine aB ?_
   refine dK rfl (hLc _ _ aA) ?_
   repeat refine aB ?_
   refine dK rfl (hCk _ _ aA) ?_
   repeat refine aB ?_
   refine fB (M':=M0) (I':=I0) aF aD ?_
   refine iA rfl rfl (⟨rfl,rfl,congrArg Value.bool (bJ rfl)⟩)
 rw [if_pos hk,if_pos hk] at hSz
 rw [bJ hk] at hIk
 rw [if_pos hk] at hkC
 obtain ⟨kd,rfl⟩:∃kd:Nat,x=(kd:Int):=⟨x.toNat,by have:=hk.1;omega⟩
 have hk3:kd≤3:=by have:=hk.2;omega
 have hZs:=fun M0 I0=>aXH (X:=X) (w0:=w0) (M0:=M0) (I0:=I0) hk3
 repeat refine aB ?_
 refine dK rfl (hSz _ _) ?_
 repeat refine aB ?_
 refine dK rfl (hIk _ _) ?_
 repeat refine aB ?_
 refine dK rfl (hZs _ _) ?_
 by_cases hD:jH l=0
 case neg=>
  rw [if_neg hD] at hkC
  have hmc:aBN (kd:Int) l n smp=jH l:=by
   unfold aBN
   rw [hkC,if_pos hD]
  have hMb2:=hMb (by rw [hmc];exact hD)
  rw [hmc] at hMb2
  generalize jH l=D at*
  repeat refine aB ?_
  (refine aQ rfl (hMb2 _ _ aA aA) ?_;rintro _ _ _ ⟨rfl,rfl,rfl⟩;refine aL ?_)
  repeat refine aB ?_
  refine dK rfl (hLc _ _ aA) ?_
  repeat refine aB ?_
  refine dK rfl (hCk _ _ aA) ?_
  repeat refine aB ?_
  refine fB (M':=M0) (I':=I0) aF aD ?_
  refine iA rfl rfl (⟨rfl,rfl,congrArg Value.bool (bJ rfl)⟩)
 rw [if_pos hD] at hkC
 rw [hD] at hLc hCk
 by_cases hnk:(ns:Int)=(kd:Int)+1
 case neg=>
  have hmc:aBN (kd:Int) l n smp=4:=by
   unfold aBN
   rw [hkC,if_neg (fun h=>h rfl),hsl,if_pos hnk]
  have hMb2:=hMb (by rw [hmc];decide)
  rw [hmc] at hMb2
  repeat refine aB ?_
  (refine aQ rfl (hMb2 _ _ aA aA) ?_;rintro _ _ _ ⟨rfl,rfl,rfl⟩;refine aL ?_)
  repeat refine aB ?_
  refine dK rfl (hLc _ _ aA) ?_
  repeat refine aB ?_
  refine dK rfl (hCk _ _ aA) ?_
  repeat refine aB ?_
  refine dK rfl (hIk _ _) ?_
  repeat refine aB ?_
  refine dK rfl (hZs _ _) ?_
  repeat refine aB ?_
  refine fB (M':=M0) (I':=I0) aF aD ?_
  refine iA rfl rfl (⟨rfl,rfl,congrArg Value.bool (bJ rfl)⟩)
 by_cases hls:uB n smp=0
 case neg=>
  have hmc:aBN (kd:Int) l n smp=uB n smp:=by
   unfold aBN
   rw [hkC,if_neg (fun h=>h rfl),hsl,if_neg (fun h=>h hnk)]
  have hMb2:=hMb (by rw [hmc];exact hls)
  rw [hmc] at hMb2
  generalize uB n smp=C at*
  repeat refine aB ?_
  (refine aQ rfl (hMb2 _ _ aA aA) ?_;rintro _ _ _ ⟨rfl,rfl,rfl⟩;refine aL ?_)
  repeat refine aB ?_
  refine dK rfl (hLc _ _ aA) ?_
  repeat refine aB ?_
  refine dK rfl (hCk _ _ aA) ?_
  repeat refine aB ?_
  refine dK rfl (hIk _ _) ?_
  repeat refine aB ?_
  refine dK rfl (hZs _ _) ?_
  repeat refine aB ?_
  refine dK rfl (hLl _ _ aA) ?_
  repeat refine aB ?_
  refine fB (M':=M0) (I':=I0) aF aD ?_
  refine iA rfl rfl (⟨rfl,rfl,congrArg Value.bool (bJ rfl)⟩)
 rw [hls] at hLl
 obtain ⟨_,hs⟩:=aDC hD
 have hMd:=fun M0 I0 h1 h2=>aTN (X:=X) (w0:=w0) (M0:=M0) (I0:=I0) (kd:=kd) (q:=q) (qs_:=qs_) (l:=l) (smp:=smp) (n:=n) (c:=c) (ns:=ns) (cs_:=cs_) hk3 hl (by omega) hs hD hsl (by omega) hls h1 h2
 have hLm:=fun M0 I0 h1 h2=>aRK (X:=X) (w0:=w0) (M0:=M0) (I0:=I0) (kd:=kd) (q:=q) (qs_:=qs_) (l:=l) (smp:=smp) (n:=n) (c:=c) (ns:=ns) (cs_:=cs_) hk3 hl (by omega) hs hsl (by omega) (aIF hls) h1 h2
 unfold RefR at hMd
 unfold aCK at hLm
 generalize aKU kd l smp=o at*
 rcases o with _|A
 ·repeat refine aB ?_
  (refine aQ rfl (hMd _ _ aA aA) ?_;rintro _ _ _ ⟨rfl,rfl,rfl⟩;refine aL ?_)
  repeat refine aB ?_
  refine dK rfl (hLc _ _ aA) ?_
  repeat refine aB ?_
  refine dK rfl (hCk _ _ aA) ?_
  repeat refine aB ?_
  refine dK rfl (hIk _ _) ?_
  repeat refine aB ?_
  refine dK rfl (hZs _ _) ?_
  repeat refine aB ?_
  refine dK rfl (hLl _ _ aA) ?_
  repeat refine aB ?_
  (refine aQ rfl (hLm _ _ aA aA) ?_;rintro _ _ _ ⟨rfl,rfl,u,rfl⟩;refine aL ?_)
  repeat refine aB ?_
  refine fB (M':=M0) (I':=I0) aF aD ?_
  refine iA rfl rfl (⟨rfl,rfl,congrArg Value.bool (bJ rfl)⟩)
 ·repeat refine aB ?_
  (refine aQ rfl (hMd _ _ aA aA) ?_;rintro _ _ _ ⟨rfl,m,rfl,hmq,hmd,rfl⟩;refine aL ?_)
  repeat refine aB ?_
  refine dK rfl (hLc _ _ aA) ?_
  repeat refine aB ?_
  refine dK rfl (hCk _ _ aA) ?_
  repeat refine aB ?_
  refine dK rfl (hIk _ _) ?_
  repeat refine aB ?_
  refine dK rfl (hZs _ _) ?_
  repeat refine aB ?_
  refine dK rfl (hLl _ _ aA) ?_
  repeat refine aB ?_
  (refine aQ rfl (hLm _ _ aA aA) ?_;rintro _ _ _ ⟨rfl,m2,rfl,hmq2,hmd2,rfl⟩;refine aL ?_)
  have hSm:=fun M0 I0 h1 h2=>aVD (X:=X) (w0:=w0) (M0:=M0) (I0:=I0) (a:=m) (b:=m2) (k:=kX) (m:=nV+nV) (by decide) hmd hmd2 h1 h2
  rw [bJ (hmq.trans hmq2.symm)] at hSm
  repeat refine aB ?_
  refine dK rfl (hSm _ _ aA aA) ?_
  repeat refine aB ?_
  refine fB (M':=M0) (I':=I0) aF aD ?_
  refine iA rfl rfl (⟨rfl,rfl,rfl⟩)
end
open Go.ChangeShapes Go.WideShapes Go.RowKit Go.ChangeAt
section
variable {H:Type} {enc:TypeId × Value→H} {W:World}
theorem aXV {n:Nat} {cs:List Value} {y:DataW H × List MemPlace} (hl:cs.length=2) (h:DataW.trod enc Tryz.prog W 0 (fun _=>true) true n 28 cs=some y):∃a b:Int,cs=[.int .i64 a, .int .i64 b]:=by
 obtain ⟨xs,rfl,hx,_⟩:=aWT (k:= .i64) (m:=2) Tryz.underlying28 (by kernel_rfl) (by intro f hf;simp at hf;rcases hf with rfl|rfl <;>exact Tryz.underlying3) hl h
 obtain ⟨a,b,rfl⟩:=bEP hx
 exact ⟨a,b,rfl⟩
theorem bDC {n:Nat} {cs:List Value} {y:DataW H × List MemPlace} (h:DataW.trod enc Tryz.prog W 0 (fun _=>true) true n 30 cs=some y):∃s:Q4,cs=iL s∧True:=by
 obtain ⟨hl,n',z0,z1,h0,h1⟩:=aUX (t0:=28) (t1:=28) (m:=2) (k:=2) Tryz.underlying30 (by rfl) (by kernel_rfl) (by kernel_rfl) (by kernel_rfl) h
 obtain ⟨a,b,e0⟩:=aXV (by rw [List.length_take];omega) h0
 obtain ⟨c,d,e1⟩:=aXV (by rw [List.length_drop];omega) h1
 refine ⟨⟨a,b,c,d⟩,?_,trivial⟩
 rw [←List.take_append_drop 2 cs,e0,e1]
 rfl
theorem aWH {base:Nat} {v:Value} {d:DataW H} {p:List MemPlace} (hv:Value.okWide Tryz.prog W .any base 22 v) (h:DataW.Trod enc Tryz.prog W 0 (fun _=>true) true 22 v d p):∃(a:Option Addr) (ps:List Q4) (c:Nat),v= .slice a ps.length c∧Sl [] W a (recs iL ps)∧(ps.length:Int)≤9223372036854775807:=by
 obtain ⟨a,ms,c,e,s,m,l,k,_⟩:=aKW (en:=iL) (Pm:=fun _=>True) Tryz.underlying22 (fun r n y _ hy=>bDC hy) hv h
 exact ⟨a,ms,c,e,s,l⟩
end
end Go.Proofs.YtmmmfphealhapaaGreat

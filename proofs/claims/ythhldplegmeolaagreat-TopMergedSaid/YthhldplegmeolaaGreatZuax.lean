/- normal: copied, cut, Add. -/
import Derived.Test.YthhldplegmeolaaGreatZuaw
import Derived.Test.YthhldplegmeolaaGreatZuar
import Derived.Test.YthhldplegmeolaaGreatZuat
set_option linter.unusedSimpArgs false
set_option linter.unusedVariables false
set_option maxRecDepth 100000
set_option maxHeartbeats 4000000
namespace Go.Proofs.YthhldplegmeolaaGreat
open Go Go.Fx
/- ---------- Clone of []fiducial/api.Rat ---------- -/
section
variable {X:List Nat} {w0:World} {M0:List Ent} {I0:List aN}
theorem rP {q:Option Addr} {a:List RE} {c:Nat} (hn:(a.length:Int)*64≤140737488355328) (hok:Ok q∨(a.length=0∧c=0)) (ha:aD q (recs eR a)∈I0):
  CD Tryz.prog 21 [.slice q a.length c] X w0 M0 I0 (fun v M I=>I0=I∧∃q' c',v= .slice q' a.length c'∧M= .row q' a.length c' (recs eR a) 36 4::M0):=by
 refine aV Tryz.func21 rfl Tryz.ntmps21 rfl ?_
 repeat refine aC ?_
 refine aB rfl (fun _=>xG rfl) rfl rfl ?_
 cases q with
 |some ad=>
  repeat refine aC ?_
  refine nG (cs:=recs eR []) ([]) rfl (fun b1=>?_)
  repeat refine aC ?_
  refine rA (mm:=0) 4 mW rfl (by omega) ?_
  refine jC (xs:=[]) (ys:=a) 0 rfl rfl rfl (Src.imm aA hok) (by decide) rfl (by simp;omega) (by simp;omega) rfl rfl ?_
  intro a2 c2
  refine aU ?_
  repeat refine aC ?_
  refine aT (by first|exact .inl rfl|exact .inr rfl) rfl rfl _ _ aK aJ (⟨rfl,a2,c2,by simp,by simp⟩)
 |none=>
  obtain ⟨h0,rfl⟩:a.length=0∧c=0:=hok.resolve_left (fun h=>by obtain ⟨b,o,e⟩:=h.cases;cases e)
  have hnil:a=[]:=List.eq_nil_of_length_eq_zero h0
  subst hnil
  repeat refine aC ?_
  refine aJC 36 4 ?_
  refine iZ rfl rfl (⟨rfl,none,0,rfl,rfl⟩)
end
structure Cpy (m:LE) (rows:List RL):Prop where
 len:rows.length=m.a.rows.length
 row:∀t:Nat,t < m.a.rows.length→(gt rows (t:Int)).es=(gt m.a.rows (t:Int)).es
section
variable {X:List Nat} {w0:World} {M0:List Ent} {I0:List aN}
theorem zD {m:LE} {R n:Nat} (f:m.fit R n) (h:eU m 30∈I0):
  CD Tryz.prog 20 [wM m] X w0 M0 I0 (fun v M I=>∃(qa ql qp:Option Addr) (ca cl cp:Nat) (rows:List RL),v= .agg #[.slice qa rows.length ca, .slice ql m.l.es.length cl, .slice qp m.p.es.length cp]∧Cpy m rows∧M= .row qa rows.length ca (recs eL rows) 24 1:: .row qp m.p.es.length cp (recs eR m.p.es) 36 4:: .row ql m.l.es.length cl (recs eR m.l.es) 36 4::M0∧I=lJ rows 30::I0):=by
 have lR:=f.d.1.1
 have hll:=f.l
 have hpl:=f.p
 obtain ⟨r1,r2⟩:=f.d.2.1
 obtain ⟨n1,n2⟩:=f.d.2.2
 have hn24:=f.c
 refine gW (φ:=Cap m.l.p m.l.es.length m.l.c) (fun w hw=>((hw.imm _ h).2:IsLE m 30 _ w).l.cap) (fun kl=>gW (φ:=Cap m.p.p m.p.es.length m.p.c) (fun w hw=>((hw.imm _ h).2:IsLE m 30 _ w).p.cap) (fun kp=>gW (φ:=∀r∈m.a.rows,Cap r.p r.es.length r.c) (fun w hw r hr=>(((hw.imm _ h).2:IsLE m 30 _ w).a.row r hr).cap) (fun kr=>?_)))
 refine aL (φ:=gQ m.a 30) (Hv.lea h) ?_
 refine aL (φ:=dL m.l 30) (Hv.lel' (List.Mem.tail _ h)) ?_
 refine aL (φ:=dL m.p 30) (Hv.lep (List.Mem.tail _ (List.Mem.tail _ h))) ?_
 refine aL (φ:=aD (m.a).p (recs eL (m.a).rows)) (Hv.xsl aA) ?_
 refine aL (φ:=aD (m.l).p (recs eR (m.l).es)) (Hv.lsl aA) ?_
 refine aL (φ:=aD (m.p).p (recs eR (m.p).es)) (Hv.lsl aA) ?_
 have hCl:=fun M0 I0 (h:aD m.l.p (recs eR m.l.es)∈I0)=>rP (X:=X) (w0:=w0) (M0:=M0) (I0:=I0) (q:=m.l.p) (a:=m.l.es) (c:=m.l.c) (by omega) kl.2 h
 have hCp:=fun M0 I0 (h:aD m.p.p (recs eR m.p.es)∈I0)=>rP (X:=X) (w0:=w0) (M0:=M0) (I0:=I0) (q:=m.p.p) (a:=m.p.es) (c:=m.p.c) (by omega) kp.2 h
 refine aV Tryz.func20 rfl Tryz.ntmps20 rfl ?_
 refine fG ?_
 refine fQ rfl (fun b1=>?_)
 refine aG .here ?_
 refine dG (fun b2=>?_)
 refine bG ?_
 refine iW ?_
 refine aF ?_
 refine pE (fun G M I=>∃(b3:Nat) (ql qp:Option Addr) (cl cp:Nat),G=[(1, .pointer (some ⟨b1,0,none⟩)),(2, .pointer (some ⟨b2,0,none⟩)),(3, .pointer (some ⟨b3,0,none⟩))]∧M= .row qp m.p.es.length cp (recs eR m.p.es) 36 4:: .row ql m.l.es.length cl (recs eR m.l.es) 36 4:: .blk b3 [.slice none 0 0, .slice ql m.l.es.length cl, .slice qp m.p.es.length cp] 26:: .blk b2 [.slice none 0 0, .slice none 0 0, .slice none 0 0] 26::M0∧I=aD (some ⟨b1,0,none⟩) [mv m.a,lv m.l,lv m.p]::aD m.p.p (recs eR m.p.es)::aD m.l.p (recs eR m.l.es)::aD m.a.p (recs eL m.a.rows)::dL m.p 30::dL m.l 30::gQ m.a 30::I0) ?_ ?_
 ·((repeat refine aF ?_);refine pF (.blk b2 [.slice none 0 0, .slice none 0 0, .slice none 0 0] 26::M0) (aD (some ⟨b1,0,none⟩) [mv m.a,lv m.l,lv m.p]::aD m.p.p (recs eR m.p.es)::aD m.l.p (recs eR m.l.es)::aD m.a.p (recs eL m.a.rows)::dL m.p 30::dL m.l 30::gQ m.a 30::I0) mixed ?_)
  refine jT (fuel:=5) (listed':=#[true,true,false,true,true,false,false,false,false]) [0,1,3,4] [3,2,3,2] aK aJ (by kernel_rfl) (by kernel_rfl) rfl rfl ?_
  repeat refine aC ?_
  refine bW (fuel:=4) (i:=2) (j:=7) (by kernel_rfl) ?_ ?_
  ·(refine bA rfl (hCl _ _ aA) ?_;rintro _ _ _ ⟨rfl,ql,cl,rfl,rfl⟩;refine aU ?_)
   refine bG ?_
   repeat refine aC ?_
   refine bW (fuel:=3) (i:=5) (j:=7) (by kernel_rfl) ?_ ?_
   ·(refine bA rfl (hCp _ _ aA) ?_;rintro _ _ _ ⟨rfl,qp,cp,rfl,rfl⟩;refine aU ?_)
    refine bG ?_
    refine bF [6,7,8] [1,0,0] aK aJ (by kernel_rfl) (by kernel_rfl) rfl rfl ?_
    repeat refine aC ?_
    (refine aB rfl (fun _=>aY (pvs:=[(1, .slice ql m.l.es.length cl),(2, .slice qp m.p.es.length cp)]) (cells:=[.slice none 0 0, .slice ql m.l.es.length cl, .slice qp m.p.es.length cp]) rfl rfl) rfl rfl ?_)
    repeat refine aC ?_
    refine dG (fun b3=>?_)
    repeat refine aC ?_
    refine oC (M':= .row qp m.p.es.length cp (recs eR m.p.es) 36 4:: .row ql m.l.es.length cl (recs eR m.l.es) 36 4:: .blk b3 [.slice none 0 0, .slice ql m.l.es.length cl, .slice qp m.p.es.length cp] 26:: .blk b2 [.slice none 0 0, .slice none 0 0, .slice none 0 0] 26::M0) (by first|exact List.Perm.refl _|exact List.Perm.cons _ (List.Perm.swap _ _ _)|exact (List.perm_middle (l₁:=[_,_])).symm) (iH _ _ _ cZ aK aJ ⟨b3,ql,qp,cl,cp,rfl,rfl,rfl⟩)
   ·refine dG (fun b3=>?_)
    refine bG ?_
    refine bF [5,6,8] [0,0,0] aK aJ (by kernel_rfl) (by kernel_rfl) rfl rfl ?_
    repeat refine aC ?_
    (refine bA rfl (hCp _ _ aA) ?_;rintro _ _ _ ⟨rfl,qp,cp,rfl,rfl⟩;refine aU ?_)
    repeat refine aC ?_
    (refine aB rfl (fun _=>aY (pvs:=[(1, .slice ql m.l.es.length cl),(2, .slice qp m.p.es.length cp)]) (cells:=[.slice none 0 0, .slice ql m.l.es.length cl, .slice qp m.p.es.length cp]) rfl rfl) rfl rfl ?_)
    repeat refine aC ?_
    refine oC (M':= .row qp m.p.es.length cp (recs eR m.p.es) 36 4:: .row ql m.l.es.length cl (recs eR m.l.es) 36 4:: .blk b3 [.slice none 0 0, .slice ql m.l.es.length cl, .slice qp m.p.es.length cp] 26:: .blk b2 [.slice none 0 0, .slice none 0 0, .slice none 0 0] 26::M0) (by first|exact List.Perm.refl _|exact List.Perm.cons _ (List.Perm.swap _ _ _)|exact (List.perm_middle (l₁:=[_,_])).symm) (iH _ _ _ cZ aK aJ ⟨b3,ql,qp,cl,cp,rfl,rfl,rfl⟩)
  ·refine dG (fun b3=>?_)
   refine bG ?_
   refine bF [2,5,6,8] [0,0,0,0] aK aJ (by kernel_rfl) (by kernel_rfl) rfl rfl ?_
   repeat refine aC ?_
   (refine bA rfl (hCl _ _ aA) ?_;rintro _ _ _ ⟨rfl,ql,cl,rfl,rfl⟩;refine aU ?_)
   repeat refine aC ?_
   (refine bA rfl (hCp _ _ aA) ?_;rintro _ _ _ ⟨rfl,qp,cp,rfl,rfl⟩;refine aU ?_)
   repeat refine aC ?_
   (refine aB rfl (fun _=>aY (pvs:=[(1, .slice ql m.l.es.length cl),(2, .slice qp m.p.es.length cp)]) (cells:=[.slice none 0 0, .slice ql m.l.es.length cl, .slice qp m.p.es.length cp]) rfl rfl) rfl rfl ?_)
   repeat refine aC ?_
   refine oC (M':= .row qp m.p.es.length cp (recs eR m.p.es) 36 4:: .row ql m.l.es.length cl (recs eR m.l.es) 36 4:: .blk b3 [.slice none 0 0, .slice ql m.l.es.length cl, .slice qp m.p.es.length cp] 26:: .blk b2 [.slice none 0 0, .slice none 0 0, .slice none 0 0] 26::M0) (by first|exact List.Perm.refl _|exact List.Perm.cons _ (List.Perm.swap _ _ _)|exact (List.perm_middle (l₁:=[_,_])).symm) (iH _ _ _ cZ aK aJ ⟨b3,ql,qp,cl,cp,rfl,rfl,rfl⟩)
 rintro G M I ⟨b3,ql,qp,cl,cp,rfl,rfl,rfl⟩
 repeat refine aC ?_
 rw [lR]
 refine jM 24 1 ?_
 refine bN (φ:=lJ [] 30) Hv.nilL ?_
 refine pU [2,3,14,15] rfl (fun k G M I=>∃(t:Nat) (rows:List RL) (qa:Option Addr) (ca:Nat),t≤R∧k=R - t∧rows.length=t∧(∀j:Nat,j < t→(gt rows (j:Int)).es=(gt m.a.rows (j:Int)).es)∧G=[(16, .int .i64 t)]∧M= .row qa rows.length ca (recs eL rows) 24 1:: .row qp m.p.es.length cp (recs eR m.p.es) 36 4:: .row ql m.l.es.length cl (recs eR m.l.es) 36 4:: .blk b3 [.slice qa rows.length ca, .slice ql m.l.es.length cl, .slice qp m.p.es.length cp] 26:: .blk b2 [.slice none 0 0, .slice none 0 0, .slice none 0 0] 26::M0∧I=lJ rows 30::aD (some ⟨b1,0,none⟩) [mv m.a,lv m.l,lv m.p]::aD m.p.p (recs eR m.p.es)::aD m.l.p (recs eR m.l.es)::aD m.a.p (recs eL m.a.rows)::dL m.p 30::dL m.l 30::gQ m.a 30::I0) (R) (⟨0,[],none,0,by omega,rfl,rfl,fun j hj=>by omega,rfl,rfl,rfl⟩) ?_
 rintro kk G M I ⟨t,rows,qa,ca,ht,rfl,hrl,heq,rfl,rfl,rfl⟩
 by_cases htR:t < R
 ·have hrt:=f.d.1.row htR
  have hCr:=fun M0 I0 (h:aD (gt m.a.rows (t:Int)).p (recs eR (gt m.a.rows (t:Int)).es)∈I0)=>rP (X:=X) (w0:=w0) (M0:=M0) (I0:=I0) (q:=(gt m.a.rows (t:Int)).p) (a:=(gt m.a.rows (t:Int)).es) (c:=(gt m.a.rows (t:Int)).c) (by omega) (kr _ (cB (by omega))).2 h
  refine bN (φ:=dL (gt m.a.rows (t:Int)) 30) (Hv.xrow (m:=m.a) aA (by omega)) ?_
  refine bN (φ:=aX (gt m.a.rows (t:Int)).es 30) (Hv.lall (r:=gt m.a.rows (t:Int)) (k:=30) aA) ?_
  refine bN (φ:=aD (gt m.a.rows (t:Int)).p (recs eR (gt m.a.rows (t:Int)).es)) (Hv.lsl (k:=30) aA) ?_
  repeat refine aC ?_
  (repeat refine aF ?_);refine aS 2 [0,1,2,3,4,5,6,7] [3,2,2,0,0,0,0,0] mixed (by kernel_rfl) ?_
  repeat refine aC ?_
  (refine bA rfl (hCr _ _ aA) ?_;rintro _ _ _ ⟨rfl,q2,c2,rfl,rfl⟩;refine aU ?_)
  refine aLN (k:=30) aA ?_
  refine nG (cs:=recs eL [(⟨q2,c2,(gt m.a.rows (t:Int)).es⟩:RL)]) ([lv (⟨q2,c2,(gt m.a.rows (t:Int)).es⟩:RL)]) rfl (fun bb=>?_)
  refine tyP (ys:=[(⟨q2,c2,(gt m.a.rows (t:Int)).es⟩:RL)]) 1 rfl rfl rfl (fun q3 c3=>?_)
  repeat refine aC ?_
  refine bX (φ:=lJ (rows++[(⟨q2,c2,(gt m.a.rows (t:Int)).es⟩:RL)]) 30) (Hv.snocL aA aA) ?_
  refine lN (R - (t+1)) (⟨t+1,rows++[(⟨q2,c2,(gt m.a.rows (t:Int)).es⟩:RL)],q3,c3,by omega,rfl,by simp;omega,fun j hj=>?_,rfl,rfl,rfl⟩)
  rw [nE hrl j hj]
  by_cases e1:j < t
  ·rw [if_pos e1];exact heq j e1
  ·rw [if_neg e1,show j=t by omega]
 ·obtain rfl:t=R:=by omega
  repeat refine aC ?_
  refine aR (cs:=[.slice qa rows.length ca, .slice ql m.l.es.length cl, .slice qp m.p.es.length cp]) (.inl rfl) rfl rfl aA rfl (.row qa rows.length ca (recs eL rows) 24 1:: .row qp m.p.es.length cp (recs eR m.p.es) 36 4:: .row ql m.l.es.length cl (recs eR m.l.es) 36 4::M0) (lJ rows 30::I0) aK aJ ⟨qa,ql,qp,ca,cl,cp,rows,rfl,⟨by omega,fun j hj=>heq j (by omega)⟩,rfl,rfl⟩
end
theorem aDE {α:Type} {l:List α} {n:Nat} (h:l.length=n+1):∃(es:List α) (e:α),l=es++[e]∧es.length=n:=by
 have hne:l≠[]:=by intro e;rw [e] at h;simp at h
 exact ⟨l.dropLast,l.getLast hne,(List.dropLast_concat_getLast hne).symm,by simp [h]⟩
theorem uW {α:Type} [Inhabited α] {a b:List α} {j:Nat} (h:j < a.length):gt (a++b) (j:Int)=gt a (j:Int):=by
 rw [dM (by simp;omega),dM h,List.getElem_append_left h]
theorem Hv.lApp {I:List aN} {a b:List RL} {k:Nat} (h:lJ (a++b) k∈I):Hv I (lJ a k):=⟨fun X w hw=>⟨fun x hx=>(hw _ h:AllL (a++b) k X w).go x (List.mem_append_left _ hx)⟩⟩
section
variable {X:List Nat} {w0:World} {M0:List Ent} {I0:List aN}
theorem aPL {m:LE} {R n:Nat} (hR1:1≤R) (f:m.fit (R+1) n) (h:eU m 30∈I0):
  CD Tryz.prog 28 [wM m, .int .i64 (R:Int)] X w0 M0 I0 (fun v M I=>∃(ba bl bp ca cl cp:Nat) (ta tl tp:List Value) (rows:List RL) (ls ps:List RE) (l p:RE),v= .agg #[.slice (some ⟨ba,0,none⟩) R ca, .slice (some ⟨bl,0,none⟩) R cl, .slice (some ⟨bp,0,none⟩) R cp]∧(rows.length=R∧ls.length=R∧ps.length=R)∧(R≤ca∧R≤cl∧R≤cp)∧(∀t:Nat,t < R→(gt rows (t:Int)).es=(gt m.a.rows (t:Int)).es)∧m.l.es=ls++[l]∧m.p.es=ps++[p]∧M= .blk bp (recs eR ps++tp) 36:: .blk bl (recs eR ls++tl) 36:: .blk ba (recs eL rows++ta) 24::M0∧I=lJ rows 30::I0):=by
 have lR:=f.d.1.1
 have hll:=f.l
 have hpl:=f.p
 obtain ⟨r1,r2⟩:=f.d.2.1
 obtain ⟨ls,l,hL,hls⟩:=aDE hll
 obtain ⟨ps,p,hP,hps⟩:=aDE hpl
 have hC:=fun MM II h=>zD (X:=X) (w0:=w0) (M0:=MM) (I0:=II) (m:=m) (R:=R+1) (n:=n) f h
 rw [hL,hP] at hC
 refine aP Tryz.func28 rfl Tryz.ntmps28 rfl ?_
 refine fG ?_
 refine fQ rfl (fun b2=>?_)
 refine aG .here ?_
 refine dG (fun b4=>?_)
 repeat refine aC ?_
 (refine bA rfl (hC _ _ aA) ?_;rintro _ _ _ ⟨qa,ql,qp,ca,cl,cp,rws,rfl,hc,rfl,rfl⟩;refine aU ?_)
 obtain ⟨rows,r,hrw,hrl⟩:=aDE (hc.len.trans lR)
 have hcr:=hc.row
 subst hrw
 have hlA:(rows++[r]).length=R+1:=by simp;omega
 have hlL:(ls++[l]).length=R+1:=by simp;omega
 have hlP:(ps++[p]).length=R+1:=by simp;omega
 rw [hlA,hlL,hlP]
 refine wH (fun h0 h1 h2=>by omega) (fun ba ta h1 h2=>?_)
 subst h1
 refine yC (M':= .row qp (R+1) cp (recs eR (ps++[p])) 36 4:: .row ql (R+1) cl (recs eR (ls++[l])) 36 4:: .blk ba (recs eL (rows++[r])++ta) 24:: .blk b4 [.slice none 0 0, .slice none 0 0, .slice none 0 0] 26::M0) (List.perm_middle (l₁:=[_,_])).symm ?_
 refine wH (fun h0 h1 h2=>by omega) (fun bp tp h1 h3=>?_)
 subst h1
 refine yC (M':= .row ql (R+1) cl (recs eR (ls++[l])) 36 4:: .blk bp (recs eR (ps++[p])++tp) 36:: .blk ba (recs eL (rows++[r])++ta) 24:: .blk b4 [.slice none 0 0, .slice none 0 0, .slice none 0 0] 26::M0) (List.Perm.swap _ _ _) ?_
 refine wH (fun h0 h1 h2=>by omega) (fun bl tl h1 h4=>?_)
 subst h1
 refine dG (fun b5=>?_)
 repeat refine aC ?_
 have hDa:=fun II=>CD.pre (M:= .blk b5 [.slice (some ⟨ba,0,none⟩) (R+1) ca, .slice (some ⟨bl,0,none⟩) (R+1) cl, .slice (some ⟨bp,0,none⟩) (R+1) cp] 26:: .blk bl (recs eR (ls++[l])++tl) 36:: .blk bp (recs eR (ps++[p])++tp) 36:: .blk ba (recs eL (rows++[r])++ta) 24:: .blk b4 [.slice none 0 0, .slice none 0 0, .slice none 0 0] 26::M0) (I:=II) (fun _ hw=>hw.perm (List.perm_middle (l₁:=[_,_,_]))) (aPP (X:=X) (w0:=w0) (M1:= .blk b5 [.slice (some ⟨ba,0,none⟩) (R+1) ca, .slice (some ⟨bl,0,none⟩) (R+1) cl, .slice (some ⟨bp,0,none⟩) (R+1) cp] 26:: .blk bl (recs eR (ls++[l])++tl) 36:: .blk bp (recs eR (ps++[p])++tp) 36:: .blk b4 [.slice none 0 0, .slice none 0 0, .slice none 0 0] 26::M0) (I0:=II) (b:=ba) (n:=R) (c:=ca) (es:=rows) (e:=r) (tl:=ta) hrl (by omega) h2)
 (refine bA rfl (hDa _) ?_;rintro _ _ _ ⟨rfl,ta2,rfl,rfl⟩;refine aU ?_)
 repeat refine aC ?_
 have hDl:=fun II=>CD.pre (M:= .blk ba (recs eL rows++ta2) 24:: .blk b5 [.slice (some ⟨ba,0,none⟩) R ca, .slice (some ⟨bl,0,none⟩) (R+1) cl, .slice (some ⟨bp,0,none⟩) (R+1) cp] 26:: .blk bl (recs eR (ls++[l])++tl) 36:: .blk bp (recs eR (ps++[p])++tp) 36:: .blk b4 [.slice none 0 0, .slice none 0 0, .slice none 0 0] 26::M0) (I:=II) (fun _ hw=>hw.perm (List.perm_middle (l₁:=[_,_]))) (aJI (X:=X) (w0:=w0) (M1:= .blk ba (recs eL rows++ta2) 24:: .blk b5 [.slice (some ⟨ba,0,none⟩) R ca, .slice (some ⟨bl,0,none⟩) (R+1) cl, .slice (some ⟨bp,0,none⟩) (R+1) cp] 26:: .blk bp (recs eR (ps++[p])++tp) 36:: .blk b4 [.slice none 0 0, .slice none 0 0, .slice none 0 0] 26::M0) (I0:=II) (b:=bl) (n:=R) (c:=cl) (es:=ls) (e:=l) (tl:=tl) hls (by omega) h4)
 have hDp:=fun (tl2:List Value) II=>CD.pre (M:= .blk bl (recs eR ls++tl2) 36:: .blk ba (recs eL rows++ta2) 24:: .blk b5 [.slice (some ⟨ba,0,none⟩) R ca, .slice (some ⟨bl,0,none⟩) (R+1) cl, .slice (some ⟨bp,0,none⟩) (R+1) cp] 26:: .blk bp (recs eR (ps++[p])++tp) 36:: .blk b4 [.slice none 0 0, .slice none 0 0, .slice none 0 0] 26::M0) (I:=II) (fun _ hw=>hw.perm (List.perm_middle (l₁:=[_,_,_]))) (aJI (X:=X) (w0:=w0) (M1:= .blk bl (recs eR ls++tl2) 36:: .blk ba (recs eL rows++ta2) 24:: .blk b5 [.slice (some ⟨ba,0,none⟩) R ca, .slice (some ⟨bl,0,none⟩) (R+1) cl, .slice (some ⟨bp,0,none⟩) (R+1) cp] 26:: .blk b4 [.slice none 0 0, .slice none 0 0, .slice none 0 0] 26::M0) (I0:=II) (b:=bp) (n:=R) (c:=cp) (es:=ps) (e:=p) (tl:=tp) hps (by omega) h3)
 (repeat refine aF ?_);refine aAE 2 (.blk b5 [.slice (some ⟨ba,0,none⟩) R ca, .slice (some ⟨bl,0,none⟩) (R+1) cl, .slice (some ⟨bp,0,none⟩) (R+1) cp] 26::[]) (I0) [0,1,2,3,4,6,7,8,9,10,5,12,11,13,14,15] [2,1,1,2,1,2,1,2,3,2,0,1,0,0,0,0] aK aJ mixed (by kernel_rfl) ?_
 repeat refine aC ?_
 (refine bA rfl (hDl _) ?_;rintro _ _ _ ⟨rfl,tl2,rfl,rfl⟩;refine aU ?_)
 repeat refine aC ?_
 (refine bA rfl (hDp tl2 _) ?_;rintro _ _ _ ⟨rfl,tp2,rfl,rfl⟩;refine aU ?_)
 repeat refine aC ?_
 refine bX (φ:=lJ rows 30) (Hv.lApp (b:=[r]) aA) ?_
 refine aR (cs:=[.slice (some ⟨ba,0,none⟩) R ca, .slice (some ⟨bl,0,none⟩) R cl, .slice (some ⟨bp,0,none⟩) R cp]) (.inl rfl) rfl rfl aA rfl (.blk bp (recs eR ps++tp2) 36:: .blk bl (recs eR ls++tl2) 36:: .blk ba (recs eL rows++ta2) 24::M0) (lJ rows 30::I0) aK aJ ⟨ba,bl,bp,ca,cl,cp,ta2,tl2,tp2,rows,ls,ps,l,p,rfl,⟨hrl,hls,hps⟩,⟨by omega,by omega,by omega⟩,fun t ht=>?_,hL,hP,rfl,rfl⟩
 rw [←hcr t (by omega),uW (by omega)]
end
end Go.Proofs.YthhldplegmeolaaGreat
namespace Go.Proofs.YthhldplegmeolaaGreat
open Go Go.Fx
theorem lS {P:Program} {ops:Array Oper} {Q:Exit→Act→World→Prop} {Cs Cs':Nat→World→Prop}:∀(l:List Oper) (k:Nat) (ms:List Nat) (a:Act) (w:World),
  (∀s w',l.any (fun o=>dE o.op)=true→k≤s→Cs s w'→Cs' s w')→(∀s w',k < s→s≤k+l.countP (fun o=> !dE o.op)→Cs' s w'→Cs s w')→
  wpM P ops Q (.any Cs' k ms) l a w→wpM P ops Q (.any Cs k ms) l a w
 |[],_,_,_,_,_,_,h=>h
 |o::r,k,ms,a,w,hC,hK,h=>by
  cases hf:dE o.op with
  |true=>
   have hC':∀s w',k≤s→Cs s w'→Cs' s w':=fun s w' h1=>hC s w' (by simp [hf]) h1
   have hKr:∀s w',k < s→s≤k+r.countP (fun o=> !dE o.op)→Cs' s w'→Cs s w':=fun s w' h1 h2=>hK s w' h1 (by rw [List.countP_cons];omega)
   refine ⟨fun hw=>(h.1 hw).imp (fun ⟨h1,v,h2,h3⟩=>⟨h1,v,fun w' hc=>h2 w' (hC' _ w' (Nat.le_add_right _ _) hc),lS r k ms.tail _ w (fun s w' _ h2=>hC' s w' h2) hKr h3⟩) (fun ⟨h1,_⟩=>absurd h1 (by simp [hf])),fun hw=>?_⟩
   have:=h.2 hw
   simp only [Mode.held,Mode.skip,hf,cond_true] at this ⊢
   exact ⟨trivial,lS r k ms.tail _ w (fun s w' _ h2=>hC' s w' h2) hKr this.2⟩
  |false=>
   have hCr:∀s w',r.any (fun o=>dE o.op)=true→k+1≤s→Cs s w'→Cs' s w':=fun s w' h0 h1=>hC s w' (by rw [List.any_cons,h0,Bool.or_true]) (by omega)
   have hct:(o::r).countP (fun o=> !dE o.op)=r.countP (fun o=> !dE o.op)+1:=by rw [List.countP_cons];simp [hf]
   have hKr:∀s w',k+1 < s→s≤k+1+r.countP (fun o=> !dE o.op)→Cs' s w'→Cs s w':=fun s w' h1 h2=>hK s w' (by omega) (by omega)
   have hK1:∀w',Cs' (k+1) w'→Cs (k+1) w':=fun w'=>hK (k+1) w' (by omega) (by omega)
   refine ⟨fun hw=>(h.1 hw).imp (fun ⟨h1,_⟩=>absurd h1 (by simp [hf])) (fun ⟨h1,h2⟩=>⟨h1,Oper.wp_mono (fun a w' ⟨x,y⟩=>⟨hK1 w' x,lS r (k+1) ms.tail _ _ hCr hKr y⟩) h2⟩),fun hw=>?_⟩
   have:=h.2 hw
   simp only [Mode.held,Mode.skip,hf,cond_false] at this ⊢
   exact ⟨hK1 w this.1,lS r (k+1) ms.tail _ w hCr hKr this.2⟩
theorem aDO {l:List Oper} (h:l.all (fun o=>dE o.op)=true):l.countP (fun o=> !dE o.op)=0:=by
 rw [List.countP_eq_zero]
 intro o ho
 have:=List.all_eq_true.1 h o ho
 simp [this]
theorem aIU {l:List Oper} (h:l.all (fun o=> !dE o.op)=true):l.any (fun o=>dE o.op)=false:=by
 rw [List.any_eq_false]
 intro o ho
 have:=List.all_eq_true.1 h o ho
 intro hh
 simp [hh] at this
def CsT (K:Nat) (X:List Nat) (w0:World) (M1 M2:List Ent) (I1:List aN):Nat→World→Prop:=fun s w=>Mem X w0 M2 I1 w∧(s≤K→Mem X w0 M1 I1 w)
section
variable {P:Program} {n:Nat} {Q:Exit→Act→World→Prop} {G:Env} {X:List Nat} {w0:World} {M M1 M2:List Ent} {I I1:List aN} {l:List Oper} {K:Nat}
theorem CsT.up:∀s w,CsT K X w0 M1 M2 I1 s w→CsT K X w0 M1 M2 I1 (s+1) w:=fun _ _ h=>⟨h.1,fun hs=>h.2 (by omega)⟩
theorem aOV {id:Nat} (K:Nat) (M1 M2:List Ent) (I1:List aN) (hx:P.follows .mixedOrders=true) (h:ND n (Go.Fx.Rest P l Q (CsT K X w0 M1 M2 I1) l.length 0 (Array.replicate l.length false)) .normal G X w0 M I):TD P n (.region id l.toArray true) Q G X w0 M I:=
 ⟨fun w hw=>aMX (CsT K X w0 M1 M2 I1) hx (h.go w.drew hw.drew)⟩
theorem aHX {fuel fuel' k k1:Nat} {listed listed':Array Bool} (p ms:List Nat) (hc:k+vT l.toArray p=k1) (hp:(pick l p).all (fun o=>dE o.op)=true) (hM:SubP M M1) (hM2:SubP M M2) (hI:Inc I I1) (hs:Region.noSelect l.toArray=true) (hok:kW l.toArray p ms listed=some listed') (hf:fuel'=fuel+p.length) (hsz:listed.size=l.toArray.size) (hk:Nat.ble k K=true)
  (h:RD P n l (Go.Fx.Rest P l Q (CsT K X w0 M1 M2 I1) fuel k1 listed') (.any (CsJ K X w0 M1 I1) k ms) (pick l p) G X w0 M I):ND n (Go.Fx.Rest P l Q (CsT K X w0 M1 M2 I1) fuel' k listed) .normal G X w0 M I:=by
 subst hc
 exact ⟨fun w hw=>tY p ms CsT.up hs hok hf hsz ⟨hw.weak hM2 hI,fun _=>hw.weak hM hI⟩ ⟨fun a ha=>lS _ _ _ _ _ (fun s w' _ _ hc hs=>hc.2 hs) (fun s w' h1 h2 _=>by rw [aDO hp] at h2;omega) ((h.go w hw).go a ha)⟩⟩
theorem vC {fuel fuel' k k1:Nat} {listed listed':Array Bool} (p ms:List Nat) (hc:k+vT l.toArray p=k1) (hp:(pick l p).all (fun o=>dE o.op)=true) (hM:SubP M M1) (hM2:SubP M M2) (hI:Inc I I1) (hs:Region.noSelect l.toArray=true) (hok:kW l.toArray p ms listed=some listed') (hf:fuel'=fuel+p.length) (hsz:listed.size=l.toArray.size) (hk:Nat.ble k K=true)
  (h:RD P n l (Go.Fx.Rest P l Q (CsT K X w0 M1 M2 I1) fuel k1 listed') (.any (wV X w0 M2 I1) k ms) (pick l p) G X w0 M I):ND n (Go.Fx.Rest P l Q (CsT K X w0 M1 M2 I1) fuel' k listed) .normal G X w0 M I:=by
 subst hc
 exact ⟨fun w hw=>tY p ms CsT.up hs hok hf hsz ⟨hw.weak hM2 hI,fun _=>hw.weak hM hI⟩ ⟨fun a ha=>lS _ _ _ _ _ (fun s w' _ _ hc=>hc.1) (fun s w' h1 h2 _=>by rw [aDO hp] at h2;omega) ((h.go w hw).go a ha)⟩⟩
theorem CsT.of (h12:SubP M1 M2) {s:Nat} {w:World} (h:Mem X w0 M1 I1 w):CsT K X w0 M1 M2 I1 s w:=⟨h.weak h12 Inc.refl,fun _=>h⟩
theorem wB {fuel fuel' k k1:Nat} {listed listed':Array Bool} (p ms:List Nat) (hc:k+vT l.toArray p=k1) (hp:(pick l p).all (fun o=> !dE o.op)=true) (hM:SubP M M1) (h12:SubP M1 M2) (hI:Inc I I1) (hs:Region.noSelect l.toArray=true) (hok:kW l.toArray p ms listed=some listed') (hf:fuel'=fuel+p.length) (hsz:listed.size=l.toArray.size) (hk:Nat.ble (k+(pick l p).length) K=true)
  (h:RD P n l (Go.Fx.Rest P l Q (CsT K X w0 M1 M2 I1) fuel k1 listed') (.any (wV X w0 M1 I1) k ms) (pick l p) G X w0 M I):ND n (Go.Fx.Rest P l Q (CsT K X w0 M1 M2 I1) fuel' k listed) .normal G X w0 M I:=by
 subst hc
 exact ⟨fun w hw=>tY p ms CsT.up hs hok hf hsz (CsT.of h12 (hw.weak hM hI)) ⟨fun a ha=>lS _ _ _ _ _ (fun s w' h0=>by rw [aIU hp] at h0;cases h0) (fun s w' h1 h2 hm=>CsT.of h12 hm) ((h.go w hw).go a ha)⟩⟩
theorem aCX {fuel k:Nat} {listed:Array Bool} (p ms:List Nat) (hk:Nat.ble K k=true) (hM:SubP M M1) (hM2:SubP M M2) (hI:Inc I I1) (hs:Region.noSelect l.toArray=true) (hok:fM l.toArray p ms listed=true) (hf:fuel=p.length) (hsz:listed.size=l.toArray.size)
  (h:RD P n l Q (.any (wV X w0 M2 I1) k ms) (pick l p) G X w0 M I):ND n (Go.Fx.Rest P l Q (CsT K X w0 M1 M2 I1) fuel k listed) .normal G X w0 M I:=
 ⟨fun w hw=>aBS p ms CsT.up hs hok hf hsz ⟨hw.weak hM2 hI,fun _=>hw.weak hM hI⟩ ⟨fun a ha=>lS _ _ _ _ _ (fun s w' _ _ hc=>hc.1) (fun s w' h1 h2 hm=>⟨hm,fun hs=>by have:=Nat.le_of_ble_eq_true hk;omega⟩) ((h.go w hw).go a ha)⟩⟩
theorem aRF {k i k1:Nat} {R':Exit→Act→World→Prop} (he:(pick l [i]).all (fun o=> !dE o.op)=true) (h12:SubP M1 M2) {w:World} (h:R P n l R' (.any (wV X w0 M1 I1) k []) (pick l [i]) G w):R P n l R' (.any (CsT K X w0 M1 M2 I1) k []) (pick l [i]) G w:=
 ⟨fun a ha=>lS _ _ _ _ _ (fun s w' h0=>by rw [aIU he] at h0;cases h0) (fun s w' h1 h2 hm=>CsT.of h12 hm) (h.go a ha)⟩
theorem aDS {fuel k k1 i j:Nat} {listed:Array Bool} (hk:k+1=k1) (hK:Nat.ble k1 K=true) (h12:SubP M1 M2) (he:((pick l [i]).all (fun o=> !dE o.op) && (pick l [j]).all (fun o=> !dE o.op))=true) (hr:(Region.ready .any l.toArray listed==[i,j] && aEZ l.toArray i && aEZ l.toArray j)=true)
  (h1:RD P n l (Go.Fx.Rest P l Q (CsT K X w0 M1 M2 I1) fuel k1 (listed.setIfInBounds i true)) (.any (wV X w0 M1 I1) k []) (pick l [i]) G X w0 M I)
  (h2:RD P n l (Go.Fx.Rest P l Q (CsT K X w0 M1 M2 I1) fuel k1 (listed.setIfInBounds j true)) (.any (wV X w0 M1 I1) k []) (pick l [j]) G X w0 M I):ND n (Go.Fx.Rest P l Q (CsT K X w0 M1 M2 I1) (fuel+1) k listed) .normal G X w0 M I:=by
 subst hk
 simp only [Bool.and_eq_true] at he
 exact ⟨fun w hw=>yR hr (aRF (k1:=k) he.1 h12 (h1.go w hw)) (aRF (k1:=k) he.2 h12 (h2.go w hw))⟩
end
section
variable {P:Program} {n:Nat} {Q Q':Exit→Act→World→Prop} {G:Env} {X:List Nat} {w0:World} {M:List Ent} {I:List aN}
/- a cut from within a block -/
end
end Go.Proofs.YthhldplegmeolaaGreat
namespace Go.Proofs.YthhldplegmeolaaGreat
open Go Go.Fx
theorem Hv.l2q {I:List aN} {a b:RE} {c k:Nat} (h:aD (some ⟨c,0,none⟩) (recs eR [a,b])∈I) (h1:bE a k∈I) (h2:bE b k∈I):Hv I (dL ⟨some ⟨c,0,none⟩,2,[a,b]⟩ k):=⟨fun X w hw=>⟨(hw _ h:SlI _ _ X w).go,fun e he=>by
 have he:e∈[a,b]:=he
 simp only [List.mem_cons,List.not_mem_nil,or_false] at he
 rcases he with rfl|rfl
 ·exact hw _ h1
 ·exact hw _ h2,⟨Nat.le_refl 2, .inl (Ok.mk _ _)⟩⟩⟩
theorem Hv.le3m {I:List aN} {a:MX} {l p:RL} {k:Nat} (h1:gQ a k∈I) (h2:dL l k∈I) (h3:dL p k∈I):Hv I (eU ⟨a,l,p⟩ k):=⟨fun X w hw=>⟨hw _ h1,hw _ h2,hw _ h3⟩⟩
theorem perm4 {α:Type} {a b c d:α} {L:List α}:(a::b::c::d::L).Perm (d::c::a::b::L):=(List.perm_middle (l₁:=[a,b,c]) (a:=d) (l₂:=L)).trans (.cons d (List.perm_middle (l₁:=[a,b]) (a:=c) (l₂:=L)))
structure Aug (m m2:LE) (R:Nat) (row:RL) (x w:RE):Prop where
 len:m2.a.rows.length=R+1
 old:∀t:Nat,t < R→(gt m2.a.rows (t:Int)).es=(gt m.a.rows (t:Int)).es
 new:(gt m2.a.rows (R:Int)).es=row.es
 ls:m2.l.es=m.l.es++[x]
 ps:m2.p.es=m.p.es++[w]
section
variable {X:List Nat} {w0:World} {M0:List Ent} {I0:List aN}
theorem aDI {m:LE} {row:RL} {x w:RE} {R n:Nat} (hR:R≤60) (f:m.fit R n) (hrl:row.es.length=n) (hw0:0 < w.q) (h:eU m 30∈I0) (hr:dL row 30∈I0) (hx:bE x 30∈I0) (hw:bE w 30∈I0):
  CD Tryz.prog 6 [wM m,lv row,rv x,rv w] X w0 M0 I0 (fun v M I=>M0=M∧∃m2:LE,v= .tuple #[wM m2, .int .i64 0]∧Aug m m2 R row x w∧I=eU m2 30::I0):=by
 have lR:=f.d.1.1
 have lC:=f.d.r0
 have hll:=f.l
 have hpl:=f.p
 have hn24:=f.c
 obtain ⟨r1,r2⟩:=f.d.2.1
 obtain ⟨n1,n2⟩:=f.d.2.2
 have hs1:¬w.q.num.sign≤0:=fun h=>(aNU.1 h) (zX.2 hw0)
 have hC:=fun M0 I0 h=>mY (X:=X) (w0:=w0) (M0:=M0) (I0:=I0) (m:=m) (R:=R) (C:=n) (k:=30) (by omega) f h
 have hCp:=fun M0 I0 h=>zD (X:=X) (w0:=w0) (M0:=M0) (I0:=I0) (m:=m) (R:=R) (n:=n) f h
 have hSg:=fun M0 I0 h=>jS (X:=X) (w0:=w0) (M0:=M0) (I0:=I0) (e:=w) (k:=30) (by omega) h
 refine gW (φ:=Cap row.p row.es.length row.c) (fun w hw=>((hw.imm _ hr).2:IsL row 30 _ w).cap) (fun kr=>?_)
 refine gW (fun w hw=>Mem.lsml hr (by omega) (by omega) hw) (fun sr=>?_)
 refine aL (φ:=gQ m.a 30) (Hv.lea h) ?_
 refine aL (φ:=jN row.raw) (Hv.lraw (List.Mem.tail _ hr) (by omega)) ?_
 refine aL (φ:=aX row.es 30) (Hv.lall (List.Mem.tail _ (List.Mem.tail _ hr))) ?_
 refine aL (φ:=dL m.l 30) (Hv.lel' (List.Mem.tail _ (List.Mem.tail _ (List.Mem.tail _ h)))) ?_
 refine aL (φ:=dL m.p 30) (Hv.lep (List.Mem.tail _ (List.Mem.tail _ (List.Mem.tail _ (List.Mem.tail _ h))))) ?_
 refine aL (φ:=aX m.l.es 30) (Hv.lall (r:=m.l) (k:=30) aA) ?_
 refine aL (φ:=aX m.p.es 30) (Hv.lall (r:=m.p) (k:=30) aA) ?_
 refine aL (φ:=aD (m.a).p (recs eL (m.a).rows)) (Hv.xsl aA) ?_
 refine aL (φ:=aD (row).p (recs eR (row).es)) (Hv.lsl aA) ?_
 have hCr:=fun M0 I0 (h:aD row.p (recs eR row.es)∈I0)=>rP (X:=X) (w0:=w0) (M0:=M0) (I0:=I0) (q:=row.p) (a:=row.es) (c:=row.c) (by omega) kr.2 h
 generalize w.q.num.sign=sg at*
 refine tQ Tryz.func6 rfl Tryz.ntmps6 rfl ?_
 refine fG ?_
 refine fQ rfl (fun b4=>?_)
 refine aG .here ?_
 refine fQ rfl (fun b6=>?_)
 refine aG .here ?_
 refine fQ rfl (fun b7=>?_)
 refine aG .here ?_
 refine dG (fun b8=>?_)
 repeat refine aC ?_
 refine dC rfl (hC _ _ aA) ?_
 repeat refine aC ?_
 refine nG (cs:=recs eR [x,w]) ([rv x,rv w]) rfl (fun bv=>?_)
 refine aG .here ?_
 refine nG (cs:=[lv row,lv (⟨some ⟨bv,0,none⟩,2,[x,w]⟩:RL)]) ([lv row,lv (⟨some ⟨bv,0,none⟩,2,[x,w]⟩:RL)]) rfl (fun bw=>?_)
 refine aG .here ?_
 obtain ⟨q,hq⟩:∃q:RL,q=⟨some ⟨bv,0,none⟩,2,[x,w]⟩:=⟨_,rfl⟩
 rw [←hq]
 refine iA (φ:=dL q 30) (by rw [hq];exact Hv.l2q aA aA aA) ?_
 refine iA (φ:=jN q.raw) (Hv.lraw (r:=q) (k:=30) aA (by omega)) ?_
 refine iA (φ:=aD (some ⟨bw,0,none⟩) (recs uX [row.raw,q.raw])) (by show Hv _ (aD (some ⟨bw,0,none⟩) [wE row.raw,wE q.raw]);rw [uQ,uQ];exact Hv.mem aA) ?_
 refine nI (φ:=q.raw.sml) (fun w hw=>Mem.lsml (k:=30) aA (by rw [hq];show 2≤_;omega) (by omega) hw) (fun sq=>?_)
 have hCa:=fun M0 I0 h1 h2 h3=>tK (X:=X) (w0:=w0) (M0:=M0) (I0:=I0) (q:=some ⟨bw,0,none⟩) (c:=2) (rows:=[row.raw,q.raw]) (by show 2≤1000000000;omega) (fun r hr=>by
  rcases List.mem_cons.1 hr with rfl|hr
  ·exact sr
  ·rw [List.mem_singleton.1 hr];exact sq) h1 (Hv.wlTwo h2 h3)
 rw [bV (show ∀r∈[row.raw,q.raw],r.good from fun r hr=>by
  rcases List.mem_cons.1 hr with rfl|hr
  ·exact RL.raw_good _
  ·rw [List.mem_singleton.1 hr];exact RL.raw_good _)] at hCa
 refine dC rfl (hCa _ _ aA aA aA) ?_
 repeat refine aC ?_
 rw [lC]
 repeat refine aC ?_
 refine dC rfl (hSg _ _ (Hv.mem aA)) ?_
 repeat refine aC ?_
 (refine bA rfl (hCp _ _ aA) ?_;rintro _ _ _ ⟨qa,ql,qp,ca,cl,cp,rows,rfl,hc,rfl,rfl⟩;refine aU ?_)
 have hrl2:rows.length=R:=hc.len.trans lR
 refine dG (fun b11=>?_)
 repeat refine aC ?_
 (repeat refine aF ?_);refine aS 2 [0,1,2,3,4,5,6,7] [3,2,2,0,0,0,0,0] mixed (by kernel_rfl) ?_
 repeat refine aC ?_
 (refine bA rfl (hCr _ _ aA) ?_;rintro _ _ _ ⟨rfl,q2,c2,rfl,rfl⟩;refine aU ?_)
 refine aLN (k:=30) aA ?_
 refine nG (cs:=recs eL [(⟨q2,c2,row.es⟩:RL)]) ([lv (⟨q2,c2,row.es⟩:RL)]) rfl (fun bb=>?_)
 refine tyP (ys:=[(⟨q2,c2,row.es⟩:RL)]) 2 rfl rfl rfl (fun q3 c3=>?_)
 repeat refine aC ?_
 refine bN (φ:=lJ (rows++[(⟨q2,c2,row.es⟩:RL)]) 30) (Hv.snocL aA aA) ?_
 refine aKZ (M':= .blk b11 [.slice q3 (rows++[(⟨q2,c2,row.es⟩:RL)]).length c3, .slice ql m.l.es.length cl, .slice qp m.p.es.length cp] 26:: .row q3 (rows++[(⟨q2,c2,row.es⟩:RL)]).length c3 (recs eL (rows++[(⟨q2,c2,row.es⟩:RL)])) 24 1:: .row qp m.p.es.length cp (recs eR m.p.es) 36 4:: .row ql m.l.es.length cl (recs eR m.l.es) 36 4:: .blk b8 [.slice none 0 0, .slice none 0 0, .slice none 0 0] 26::M0) (I':=aD (some ⟨b7,0,none⟩) (eR w)::aD (some ⟨b6,0,none⟩) (eR x)::lJ (rows++[(⟨q2,c2,row.es⟩:RL)]) 30::aX m.l.es 30::aX m.p.es 30::bE x 30::bE w 30::I0) (SubP.drop SubP.refl) aJ ?_
 refine nX (M':= .row ql m.l.es.length cl (recs eR m.l.es) 36 4:: .row qp m.p.es.length cp (recs eR m.p.es) 36 4:: .blk b11 [.slice q3 (rows++[(⟨q2,c2,row.es⟩:RL)]).length c3, .slice ql m.l.es.length cl, .slice qp m.p.es.length cp] 26:: .row q3 (rows++[(⟨q2,c2,row.es⟩:RL)]).length c3 (recs eL (rows++[(⟨q2,c2,row.es⟩:RL)])) 24 1:: .blk b8 [.slice none 0 0, .slice none 0 0, .slice none 0 0] 26::M0) perm4 ?_
 refine pE (fun G M I=>∃(q4 q5:Option Addr) (c4 c5:Nat),G=[(8, .pointer (some ⟨b8,0,none⟩)),(11, .pointer (some ⟨b11,0,none⟩))]∧M= .row q4 (m.l.es++[x]).length c4 (recs eR (m.l.es++[x])) 36 4:: .row q5 (m.p.es++[w]).length c5 (recs eR (m.p.es++[w])) 36 4:: .blk b11 [.slice q3 (rows++[(⟨q2,c2,row.es⟩:RL)]).length c3, .slice q4 (m.l.es++[x]).length c4, .slice q5 (m.p.es++[w]).length c5] 26:: .row q3 (rows++[(⟨q2,c2,row.es⟩:RL)]).length c3 (recs eL (rows++[(⟨q2,c2,row.es⟩:RL)])) 24 1:: .blk b8 [.slice none 0 0, .slice none 0 0, .slice none 0 0] 26::M0∧I=aD (some ⟨b7,0,none⟩) (eR w)::aD (some ⟨b6,0,none⟩) (eR x)::lJ (rows++[(⟨q2,c2,row.es⟩:RL)]) 30::aX m.l.es 30::aX m.p.es 30::bE x 30::bE w 30::I0) ?_ ?_
 ·((repeat refine aF ?_);refine aOV 4 (.blk b11 [.slice q3 (rows++[(⟨q2,c2,row.es⟩:RL)]).length c3, .slice ql m.l.es.length cl, .slice qp m.p.es.length cp] 26:: .row q3 (rows++[(⟨q2,c2,row.es⟩:RL)]).length c3 (recs eL (rows++[(⟨q2,c2,row.es⟩:RL)])) 24 1:: .blk b8 [.slice none 0 0, .slice none 0 0, .slice none 0 0] 26::M0) (.row q3 (rows++[(⟨q2,c2,row.es⟩:RL)]).length c3 (recs eL (rows++[(⟨q2,c2,row.es⟩:RL)])) 24 1:: .blk b8 [.slice none 0 0, .slice none 0 0, .slice none 0 0] 26::M0) (aD (some ⟨b7,0,none⟩) (eR w)::aD (some ⟨b6,0,none⟩) (eR x)::lJ (rows++[(⟨q2,c2,row.es⟩:RL)]) 30::aX m.l.es 30::aX m.p.es 30::bE x 30::bE w 30::I0) mixed ?_)
  refine aHX (fuel:=12) (listed':=#[true,true,false,false,false,false,false,false,false,false,false,false,false,false]) (k1:=0) [0,1] [4,3] (by kernel_rfl) rfl aK aK aJ (by kernel_rfl) (by kernel_rfl) rfl rfl (by kernel_rfl) ?_
  repeat refine aC ?_
  refine vC (fuel:=11) (listed':=#[true,true,true,false,false,false,false,false,false,false,false,false,false,false]) (k1:=0) [2] [3] (by kernel_rfl) rfl aK aK aJ (by kernel_rfl) (by kernel_rfl) rfl rfl (by kernel_rfl) ?_
  repeat refine aC ?_
  refine aHX (fuel:=9) (listed':=#[true,true,true,false,false,true,true,false,false,false,false,false,false,false]) (k1:=0) [5,6] [4,3] (by kernel_rfl) rfl aK aK aJ (by kernel_rfl) (by kernel_rfl) rfl rfl (by kernel_rfl) ?_
  repeat refine aC ?_
  refine vC (fuel:=8) (listed':=#[true,true,true,false,false,true,true,true,false,false,false,false,false,false]) (k1:=0) [7] [4] (by kernel_rfl) rfl aK aK aJ (by kernel_rfl) (by kernel_rfl) rfl rfl (by kernel_rfl) ?_
  repeat refine aC ?_
  refine aDS (fuel:=7) (i:=3) (j:=8) (k1:=1) rfl rfl aK (by kernel_rfl) (by kernel_rfl) ?_ ?_
  ·(refine nG (cs:=recs eR [x]) ([rv x]) rfl (fun b14=>?_);refine aG .here ?_)
   refine bG ?_
   refine aDS (fuel:=6) (i:=4) (j:=8) (k1:=2) rfl rfl aK (by kernel_rfl) (by kernel_rfl) ?_ ?_
   ·(refine jC (ys:=[x]) 0 rfl rfl rfl ?_ (by decide) rfl (by omega) (by omega) rfl rfl ?_;(· exact Src.imm aA (.inl (Ok.mk _ _)));intro q4 c4;refine ⟨OkD.any (by first|exact SubP.drop (SubP.drop SubP.refl)|exact SubP.drop (SubP.drop (SubP.drop SubP.refl))|fail) aJ,?_⟩;first|(refine mO (M':= .row q4 (m.l.es++[x]).length c4 (recs eR (m.l.es++[x])) 36 4:: .row qp m.p.es.length cp (recs eR m.p.es) 36 4:: .blk b11 [.slice q3 (rows++[(⟨q2,c2,row.es⟩:RL)]).length c3, .slice ql m.l.es.length cl, .slice qp m.p.es.length cp] 26:: .row q3 (rows++[(⟨q2,c2,row.es⟩:RL)]).length c3 (recs eL (rows++[(⟨q2,c2,row.es⟩:RL)])) 24 1:: .blk b8 [.slice none 0 0, .slice none 0 0, .slice none 0 0] 26::M0) (fun _ hw=>hw) ?_)|(refine mO (M':= .row q4 (m.l.es++[x]).length c4 (recs eR (m.l.es++[x])) 36 4:: .row q5 (m.p.es++[w]).length c5 (recs eR (m.p.es++[w])) 36 4:: .blk b11 [.slice q3 (rows++[(⟨q2,c2,row.es⟩:RL)]).length c3, .slice ql m.l.es.length cl, .slice qp m.p.es.length cp] 26:: .row q3 (rows++[(⟨q2,c2,row.es⟩:RL)]).length c3 (recs eL (rows++[(⟨q2,c2,row.es⟩:RL)])) 24 1:: .blk b8 [.slice none 0 0, .slice none 0 0, .slice none 0 0] 26::M0) (fun _ hw=>hw) ?_))
    refine bG ?_
    refine vC (fuel:=5) (listed':=#[true,true,true,true,true,true,true,true,false,false,true,false,false,false]) (k1:=2) [10] [2] (by kernel_rfl) rfl aK aK aJ (by kernel_rfl) (by kernel_rfl) rfl rfl (by kernel_rfl) ?_
    repeat refine aC ?_
    refine wB (fuel:=3) (listed':=#[true,true,true,true,true,true,true,true,true,true,true,false,false,false]) (k1:=4) [8,9] [0,0] (by kernel_rfl) rfl aK aK aJ (by kernel_rfl) (by kernel_rfl) rfl rfl (by kernel_rfl) ?_
    repeat refine aC ?_
    (refine nG (cs:=recs eR [w]) ([rv w]) rfl (fun b15=>?_);refine aG .here ?_)
    repeat refine aC ?_
    (refine jC (ys:=[w]) 1 rfl rfl rfl ?_ (by decide) rfl (by omega) (by omega) rfl rfl ?_;(· exact Src.imm aA (.inl (Ok.mk _ _)));intro q5 c5;refine ⟨OkD.any (by first|exact SubP.drop (SubP.drop SubP.refl)|exact SubP.drop (SubP.drop (SubP.drop SubP.refl))|fail) aJ,?_⟩;first|(refine mO (M':= .row q4 (m.l.es++[x]).length c4 (recs eR (m.l.es++[x])) 36 4:: .row q5 (m.p.es++[w]).length c5 (recs eR (m.p.es++[w])) 36 4:: .blk b11 [.slice q3 (rows++[(⟨q2,c2,row.es⟩:RL)]).length c3, .slice ql m.l.es.length cl, .slice qp m.p.es.length cp] 26:: .row q3 (rows++[(⟨q2,c2,row.es⟩:RL)]).length c3 (recs eL (rows++[(⟨q2,c2,row.es⟩:RL)])) 24 1:: .blk b8 [.slice none 0 0, .slice none 0 0, .slice none 0 0] 26::M0) (fun _ hw=>hw) ?_)|(refine mO (M':= .row ql m.l.es.length cl (recs eR m.l.es) 36 4:: .row q5 (m.p.es++[w]).length c5 (recs eR (m.p.es++[w])) 36 4:: .blk b11 [.slice q3 (rows++[(⟨q2,c2,row.es⟩:RL)]).length c3, .slice ql m.l.es.length cl, .slice qp m.p.es.length cp] 26:: .row q3 (rows++[(⟨q2,c2,row.es⟩:RL)]).length c3 (recs eL (rows++[(⟨q2,c2,row.es⟩:RL)])) 24 1:: .blk b8 [.slice none 0 0, .slice none 0 0, .slice none 0 0] 26::M0) (fun _ hw=>hw) ?_))
    repeat refine aC ?_
    refine aCX [11,12,13] [0,0,0] rfl aK aK aJ (by kernel_rfl) (by kernel_rfl) rfl rfl ?_
    repeat refine aC ?_
    refine tyE ⟨q4,q5,c4,c5,rfl,rfl,rfl⟩
   ·(refine nG (cs:=recs eR [w]) ([rv w]) rfl (fun b15=>?_);refine aG .here ?_)
    refine bG ?_
    refine wB (fuel:=5) (listed':=#[true,true,true,true,true,true,true,true,true,false,false,false,false,false]) (k1:=3) [4] [0] (by kernel_rfl) rfl aK aK aJ (by kernel_rfl) (by kernel_rfl) rfl rfl (by kernel_rfl) ?_
    repeat refine aC ?_
    (refine jC (ys:=[x]) 0 rfl rfl rfl ?_ (by decide) rfl (by omega) (by omega) rfl rfl ?_;(· exact Src.imm aA (.inl (Ok.mk _ _)));intro q4 c4;refine ⟨OkD.any (by first|exact SubP.drop (SubP.drop SubP.refl)|exact SubP.drop (SubP.drop (SubP.drop SubP.refl))|fail) aJ,?_⟩;first|(refine mO (M':= .row q4 (m.l.es++[x]).length c4 (recs eR (m.l.es++[x])) 36 4:: .row qp m.p.es.length cp (recs eR m.p.es) 36 4:: .blk b11 [.slice q3 (rows++[(⟨q2,c2,row.es⟩:RL)]).length c3, .slice ql m.l.es.length cl, .slice qp m.p.es.length cp] 26:: .row q3 (rows++[(⟨q2,c2,row.es⟩:RL)]).length c3 (recs eL (rows++[(⟨q2,c2,row.es⟩:RL)])) 24 1:: .blk b8 [.slice none 0 0, .slice none 0 0, .slice none 0 0] 26::M0) (fun _ hw=>hw) ?_)|(refine mO (M':= .row q4 (m.l.es++[x]).length c4 (recs eR (m.l.es++[x])) 36 4:: .row q5 (m.p.es++[w]).length c5 (recs eR (m.p.es++[w])) 36 4:: .blk b11 [.slice q3 (rows++[(⟨q2,c2,row.es⟩:RL)]).length c3, .slice ql m.l.es.length cl, .slice qp m.p.es.length cp] 26:: .row q3 (rows++[(⟨q2,c2,row.es⟩:RL)]).length c3 (recs eL (rows++[(⟨q2,c2,row.es⟩:RL)])) 24 1:: .blk b8 [.slice none 0 0, .slice none 0 0, .slice none 0 0] 26::M0) (fun _ hw=>hw) ?_))
    repeat refine aC ?_
    refine vC (fuel:=4) (listed':=#[true,true,true,true,true,true,true,true,true,false,true,false,false,false]) (k1:=3) [10] [1] (by kernel_rfl) rfl aK aK aJ (by kernel_rfl) (by kernel_rfl) rfl rfl (by kernel_rfl) ?_
    repeat refine aC ?_
    refine wB (fuel:=3) (listed':=#[true,true,true,true,true,true,true,true,true,true,true,false,false,false]) (k1:=4) [9] [0] (by kernel_rfl) rfl aK aK aJ (by kernel_rfl) (by kernel_rfl) rfl rfl (by kernel_rfl) ?_
    repeat refine aC ?_
    (refine jC (ys:=[w]) 1 rfl rfl rfl ?_ (by decide) rfl (by omega) (by omega) rfl rfl ?_;(· exact Src.imm aA (.inl (Ok.mk _ _)));intro q5 c5;refine ⟨OkD.any (by first|exact SubP.drop (SubP.drop SubP.refl)|exact SubP.drop (SubP.drop (SubP.drop SubP.refl))|fail) aJ,?_⟩;first|(refine mO (M':= .row q4 (m.l.es++[x]).length c4 (recs eR (m.l.es++[x])) 36 4:: .row q5 (m.p.es++[w]).length c5 (recs eR (m.p.es++[w])) 36 4:: .blk b11 [.slice q3 (rows++[(⟨q2,c2,row.es⟩:RL)]).length c3, .slice ql m.l.es.length cl, .slice qp m.p.es.length cp] 26:: .row q3 (rows++[(⟨q2,c2,row.es⟩:RL)]).length c3 (recs eL (rows++[(⟨q2,c2,row.es⟩:RL)])) 24 1:: .blk b8 [.slice none 0 0, .slice none 0 0, .slice none 0 0] 26::M0) (fun _ hw=>hw) ?_)|(refine mO (M':= .row ql m.l.es.length cl (recs eR m.l.es) 36 4:: .row q5 (m.p.es++[w]).length c5 (recs eR (m.p.es++[w])) 36 4:: .blk b11 [.slice q3 (rows++[(⟨q2,c2,row.es⟩:RL)]).length c3, .slice ql m.l.es.length cl, .slice qp m.p.es.length cp] 26:: .row q3 (rows++[(⟨q2,c2,row.es⟩:RL)]).length c3 (recs eL (rows++[(⟨q2,c2,row.es⟩:RL)])) 24 1:: .blk b8 [.slice none 0 0, .slice none 0 0, .slice none 0 0] 26::M0) (fun _ hw=>hw) ?_))
    repeat refine aC ?_
    refine aCX [11,12,13] [0,0,0] rfl aK aK aJ (by kernel_rfl) (by kernel_rfl) rfl rfl ?_
    repeat refine aC ?_
    refine tyE ⟨q4,q5,c4,c5,rfl,rfl,rfl⟩
  ·(refine nG (cs:=recs eR [w]) ([rv w]) rfl (fun b15=>?_);refine aG .here ?_)
   refine bG ?_
   refine wB (fuel:=5) (listed':=#[true,true,true,true,true,true,true,true,true,false,false,false,false,false]) (k1:=3) [3,4] [0,0] (by kernel_rfl) rfl aK aK aJ (by kernel_rfl) (by kernel_rfl) rfl rfl (by kernel_rfl) ?_
   repeat refine aC ?_
   (refine nG (cs:=recs eR [x]) ([rv x]) rfl (fun b14=>?_);refine aG .here ?_)
   repeat refine aC ?_
   (refine jC (ys:=[x]) 0 rfl rfl rfl ?_ (by decide) rfl (by omega) (by omega) rfl rfl ?_;(· exact Src.imm aA (.inl (Ok.mk _ _)));intro q4 c4;refine ⟨OkD.any (by first|exact SubP.drop (SubP.drop SubP.refl)|exact SubP.drop (SubP.drop (SubP.drop SubP.refl))|fail) aJ,?_⟩;first|(refine mO (M':= .row q4 (m.l.es++[x]).length c4 (recs eR (m.l.es++[x])) 36 4:: .row qp m.p.es.length cp (recs eR m.p.es) 36 4:: .blk b11 [.slice q3 (rows++[(⟨q2,c2,row.es⟩:RL)]).length c3, .slice ql m.l.es.length cl, .slice qp m.p.es.length cp] 26:: .row q3 (rows++[(⟨q2,c2,row.es⟩:RL)]).length c3 (recs eL (rows++[(⟨q2,c2,row.es⟩:RL)])) 24 1:: .blk b8 [.slice none 0 0, .slice none 0 0, .slice none 0 0] 26::M0) (fun _ hw=>hw) ?_)|(refine mO (M':= .row q4 (m.l.es++[x]).length c4 (recs eR (m.l.es++[x])) 36 4:: .row q5 (m.p.es++[w]).length c5 (recs eR (m.p.es++[w])) 36 4:: .blk b11 [.slice q3 (rows++[(⟨q2,c2,row.es⟩:RL)]).length c3, .slice ql m.l.es.length cl, .slice qp m.p.es.length cp] 26:: .row q3 (rows++[(⟨q2,c2,row.es⟩:RL)]).length c3 (recs eL (rows++[(⟨q2,c2,row.es⟩:RL)])) 24 1:: .blk b8 [.slice none 0 0, .slice none 0 0, .slice none 0 0] 26::M0) (fun _ hw=>hw) ?_))
   repeat refine aC ?_
   refine vC (fuel:=4) (listed':=#[true,true,true,true,true,true,true,true,true,false,true,false,false,false]) (k1:=3) [10] [1] (by kernel_rfl) rfl aK aK aJ (by kernel_rfl) (by kernel_rfl) rfl rfl (by kernel_rfl) ?_
   repeat refine aC ?_
   refine wB (fuel:=3) (listed':=#[true,true,true,true,true,true,true,true,true,true,true,false,false,false]) (k1:=4) [9] [0] (by kernel_rfl) rfl aK aK aJ (by kernel_rfl) (by kernel_rfl) rfl rfl (by kernel_rfl) ?_
   repeat refine aC ?_
   (refine jC (ys:=[w]) 1 rfl rfl rfl ?_ (by decide) rfl (by omega) (by omega) rfl rfl ?_;(· exact Src.imm aA (.inl (Ok.mk _ _)));intro q5 c5;refine ⟨OkD.any (by first|exact SubP.drop (SubP.drop SubP.refl)|exact SubP.drop (SubP.drop (SubP.drop SubP.refl))|fail) aJ,?_⟩;first|(refine mO (M':= .row q4 (m.l.es++[x]).length c4 (recs eR (m.l.es++[x])) 36 4:: .row q5 (m.p.es++[w]).length c5 (recs eR (m.p.es++[w])) 36 4:: .blk b11 [.slice q3 (rows++[(⟨q2,c2,row.es⟩:RL)]).length c3, .slice ql m.l.es.length cl, .slice qp m.p.es.length cp] 26:: .row q3 (rows++[(⟨q2,c2,row.es⟩:RL)]).length c3 (recs eL (rows++[(⟨q2,c2,row.es⟩:RL)])) 24 1:: .blk b8 [.slice none 0 0, .slice none 0 0, .slice none 0 0] 26::M0) (fun _ hw=>hw) ?_)|(refine mO (M':= .row ql m.l.es.length cl (recs eR m.l.es) 36 4:: .row q5 (m.p.es++[w]).length c5 (recs eR (m.p.es++[w])) 36 4:: .blk b11 [.slice q3 (rows++[(⟨q2,c2,row.es⟩:RL)]).length c3, .slice ql m.l.es.length cl, .slice qp m.p.es.length cp] 26:: .row q3 (rows++[(⟨q2,c2,row.es⟩:RL)]).length c3 (recs eL (rows++[(⟨q2,c2,row.es⟩:RL)])) 24 1:: .blk b8 [.slice none 0 0, .slice none 0 0, .slice none 0 0] 26::M0) (fun _ hw=>hw) ?_))
   repeat refine aC ?_
   refine aCX [11,12,13] [0,0,0] rfl aK aK aJ (by kernel_rfl) (by kernel_rfl) rfl rfl ?_
   repeat refine aC ?_
   refine tyE ⟨q4,q5,c4,c5,rfl,rfl,rfl⟩
 rintro G M I ⟨q4,q5,c4,c5,rfl,rfl,rfl⟩
 have hgn:gt (rows++[(⟨q2,c2,row.es⟩:RL)]) (R:Int)=⟨q2,c2,row.es⟩:=rJ (A:=rows) (B:=[]) (by omega)
 refine bN (φ:=aX (m.l.es++[x]) 30) (Hv.snoc aA aA) ?_
 refine bN (φ:=aX (m.p.es++[w]) 30) (Hv.snoc aA aA) ?_
 repeat refine aC ?_
 refine sO (k:=30) aA ?_
 refine sO (k:=30) aA ?_
 refine fU .here ?_
 refine aSJ (k:=30) aA ?_
 refine bX (φ:=eU ⟨⟨q3,c3,rows++[(⟨q2,c2,row.es⟩:RL)]⟩,⟨q4,c4,m.l.es++[x]⟩,⟨q5,c5,m.p.es++[w]⟩⟩ 30) (Hv.le3m aA aA aA) ?_
 refine gZ (rs:=[.cell 8 26, .tmp 9]) (vs:=[wM ⟨⟨q3,c3,rows++[(⟨q2,c2,row.es⟩:RL)]⟩,⟨q4,c4,m.l.es++[x]⟩,⟨q5,c5,m.p.es++[w]⟩⟩, .int .i64 0]) (.inl rfl) rfl (.cellN (cs:=[.slice q3 (rows++[(⟨q2,c2,row.es⟩:RL)]).length c3, .slice q4 (m.l.es++[x]).length c4, .slice q5 (m.p.es++[w]).length c5]) inferInstance rfl aA rfl (.tmp rfl .nil)) rfl M0 (eU ⟨⟨q3,c3,rows++[(⟨q2,c2,row.es⟩:RL)]⟩,⟨q4,c4,m.l.es++[x]⟩,⟨q5,c5,m.p.es++[w]⟩⟩ 30::I0) aK aJ ⟨rfl,_,rfl,⟨by simp [hrl2],fun t ht=>?_,by rw [hgn],rfl,rfl⟩,rfl⟩
 show (gt (rows++[(⟨q2,c2,row.es⟩:RL)]) (t:Int)).es=_
 rw [uW (by omega)]
 exact hc.row t (by omega)
end
end Go.Proofs.YthhldplegmeolaaGreat
namespace Go.Proofs.YthhldplegmeolaaGreat
open Go Go.Fx
theorem aLH (p:Rat):xS p p=0:=by
 have h1:= @aPB p p
 have h2:= @aQY p p
 have h3:¬p < p:=by grind
 have h4:¬xS p p < 0:=fun h=>h3 (h1.1 h)
 have h5:¬0 < xS p p:=fun h=>h3 (h2.1 h)
 omega
section
variable {X:List Nat} {w0:World} {M M0:List Ent} {I I0:List aN}
theorem Mem.blkXt {w:World} {b k c:Nat} {rows:List RL} {tl:List Value} {ty:TypeId} (hc:rows.length≤c) (h:Mem X w0 (.blk b (recs eL rows++tl) ty::M) I w) (ha:lJ rows k∈I):Mem X w0 M (gQ ⟨some ⟨b,0,none⟩,c,rows⟩ k::I) w:=by
 have h1:=h.freezeB .here
 refine (h1.add (φ:=gQ ⟨some ⟨b,0,none⟩,c,rows⟩ k) ⟨zH (h1.sl (List.Mem.head _)),(((h1.imm _ (List.Mem.tail _ ha)).2:AllL rows k _ w)).go,⟨hc, .inl (Ok.mk _ _)⟩⟩).inc (.of fun φ hφ=>?_)
 rcases List.mem_cons.1 hφ with rfl|hφ
 ·exact List.Mem.head _
 ·exact List.Mem.tail _ (List.Mem.tail _ hφ)
theorem Hv.lMono {rows:List RL} {k j:Nat} (h:lJ rows k∈I) (hk:k≤j):Hv I (lJ rows j):=⟨fun X w hw=>⟨fun r hr=>((hw _ h:AllL rows k X w).go r hr).mono hk⟩⟩
theorem Hv.leUp {m:LE} {k j:Nat} (h:eU m k∈I) (hk:k≤j):Hv I (eU m j):=⟨fun X w hw=>by
 have h1:IsLE m k X w:=hw _ h
 exact ⟨h1.a.mono hk,h1.l.mono hk,h1.p.mono hk⟩⟩
theorem aGK {a b:RE} (h:a.q=b.q) (ha:Hv I0 (bE a 30)) (hb:Hv I0 (bE b 30)):CD Tryz.prog 24 [rv a,rv b] X w0 M0 I0 (fun v M I=>M0=M∧I0=I∧v= .bool true):=by
 have hC:=aEJ (X:=X) (w0:=w0) (M0:=M0) (I0:=I0) (a:=a) (b:=b) (k:=30) (m:=30) (by omega) ha hb
 rw [h,aLH] at hC
 refine aP Tryz.func24 rfl Tryz.ntmps24 rfl ?_
 refine fG ?_
 refine fQ rfl (fun b2=>?_)
 refine fQ rfl (fun b3=>?_)
 repeat refine aC ?_
 (refine bA rfl (CD.weak (M':=M0) (I':=I0) (SubP.drop (SubP.drop SubP.refl)) Inc.refl hC) ?_;rintro _ _ _ ⟨rfl,rfl,rfl⟩;refine aU ?_)
 repeat refine aC ?_
 refine iZ rfl rfl (⟨rfl,rfl,congrArg Value.bool (bV rfl)⟩)
theorem aPD {x y:RL} (hl:x.es.length≤1000) (he:x.es=y.es) (hx:dL x 30∈I0) (hy:dL y 30∈I0):
  CD Tryz.prog 23 [lv x,lv y, .func (.func 24) #[] #[]] X w0 M0 I0 (fun v M I=>M0=M∧I0=I∧v= .bool true):=by
 have hly:y.es.length=x.es.length:=by rw [he]
 refine aL (φ:=aD x.p (recs eR x.es)) (Hv.lsl hx) ?_
 refine aL (φ:=aD y.p (recs eR y.es)) (Hv.lsl (List.Mem.tail _ hy)) ?_
 refine iC Tryz.func23 rfl Tryz.ntmps23 rfl ?_
 repeat refine aC ?_
 refine pU [1,2,15,16] rfl (fun k G M I=>∃i:Nat,i≤x.es.length∧k=x.es.length - i∧G=[(17, .int .i64 i)]∧M0=M∧I=aD y.p (recs eR y.es)::aD x.p (recs eR x.es)::I0) (x.es.length) (⟨0,by omega,rfl,rfl,rfl,rfl⟩) ?_
 rintro kk G M I ⟨i,hi,rfl,rfl,rfl,rfl⟩
 by_cases hin:i < x.es.length
 ·have hg:=fun M0 I0 h1 h2=>aGK (X:=X) (w0:=w0) (M0:=M0) (I0:=I0) (a:=gt x.es (i:Int)) (b:=gt y.es (i:Int)) (by rw [he]) h1 h2
  refine bN (φ:=bE (gt x.es (i:Int)) 30) (Hv.lel (r:=x) aA (by omega)) ?_
  refine bN (φ:=bE (gt y.es (i:Int)) 30) (Hv.lel (r:=y) aA (by omega)) ?_
  repeat refine aC ?_
  refine dG (fun b8=>?_)
  repeat refine aC ?_
  refine dG (fun b9=>?_)
  repeat refine aC ?_
  (refine fT rfl rfl (hg _ _ (Hv.mem aA) (Hv.mem aA)) rfl rfl rfl ?_;rintro _ _ _ ⟨rfl,rfl,rfl⟩;refine aU ?_)
  repeat refine aC ?_
  refine lN (x.es.length - (i+1)) (⟨i+1,by omega,rfl,rfl,rfl,rfl⟩)
 ·repeat refine aC ?_
  refine iZ rfl rfl (⟨rfl,rfl,rfl⟩)
end
end Go.Proofs.YthhldplegmeolaaGreat

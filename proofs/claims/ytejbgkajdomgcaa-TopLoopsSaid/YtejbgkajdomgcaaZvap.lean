/- Forest: Reverse of the program's steps. -/
import Derived.Test.YtejbgkajdomgcaaZvao
import Derived.Test.YtejbgkajdomgcaaZvam
import Derived.Test.YtejbgkajdomgcaaZval
set_option linter.unusedSimpArgs false
set_option linter.unusedVariables false
set_option maxRecDepth 100000
set_option maxHeartbeats 4000000
namespace Go.Proofs.Ytejbgkajdomgcaa
open Go Go.Fx
def eS (c:Int × Bool):List Value:=[.int .i64 c.1, .bool c.2]
instance:Sized eS 2:=⟨fun _=>rfl⟩
instance:Ones eS:=⟨fun m u hu=>by simp [eS] at hu;rcases hu with rfl|rfl <;>rfl⟩
theorem aMQ {α:Type} [Inhabited α] (xs:List α) (j:Int) (h:0≤j∧j < xs.length):gt xs.reverse j=gt xs (xs.length - 1 - j):=by
 obtain ⟨k,rfl⟩:∃k:Nat,j=k:=⟨j.toNat,by omega⟩
 rw [show ((xs.length:Int) - 1 - (k:Int))=((xs.length - 1 - k:Nat):Int) by omega]
 rw [aP (by rw [List.length_reverse];omega),aP (by omega),List.getElem_reverse]
theorem aLB {α:Type} [Inhabited α] {xs ys:List α} (hl:ys.length=xs.length) (h:∀j:Int,0≤j→j < xs.length→gt ys j=gt xs (xs.length - 1 - j)):ys=xs.reverse:=by
 refine mV (by simpa using hl) (fun j hj=>?_)
 rw [h j (by omega) (by omega),aMQ xs j (by omega)]
section
variable {X:List Nat} {w0:World} {M0:List Ent} {I0:List aO}
theorem aBH {b n c:Nat} {xs:List (Int × Bool)} {tl:List Value} (hn:n=xs.length) (hn2:n≤1000):
  CD Try.prog 38 [.slice (some ⟨b,0,none⟩) n c] X w0 (.blk b (recs eS xs++tl) 64::M0) I0 (fun v M I=>M= .blk b (recs eS xs.reverse++tl) 64::M0∧I0=I∧v= .tuple #[]):=by
 subst hn
 refine aX Try.func38 rfl Try.ntmps38 rfl ?_
 repeat (refine gH ?_)
 refine aU [0] rfl (fun k G M I=>∃(i:Int) (j:Int) (ys:List (Int × Bool)),0≤i∧i+j=xs.length - 1∧ -1≤j∧k=(j - i+2).toNat∧ys.length=xs.length∧(∀q:Int,0≤q→q < xs.length→gt ys q=if q < i∨j < q then gt xs (xs.length - 1 - q) else gt xs q)∧G=[(2, .int .i64 i),(3, .int .i64 j)]∧M= .blk b (recs eS ys++tl) 64::M0∧I=I0) (((xs.length:Int)+1).toNat) _ _ _ aT aJ aI (⟨0,xs.length - 1,xs,by omega,by omega,by omega,by omega,rfl,fun q h1 h2=>by rw [if_neg (by omega)],rfl,rfl,rfl⟩) ?_
 rintro k G M I ⟨i,j,ys,hi,hij,hj,rfl,hl,hy,rfl,rfl,rfl⟩
 by_cases hlt:i < j
 ·repeat (refine gH ?_)
  (repeat refine aL ?_);refine lN [0,1,2,3,4,5,6,7,8,9,10,11,12,13,14,15] [0,0,1,1,0,0,0,0,1,1,1,0,0,0,0,0] mixed (by kernel_rfl) ?_
  repeat (refine gH ?_)
  refine aK ((j - 1 - (i+1)+2).toNat) _ _ _ (by first|omega|(simp only [List.length_append,List.length_cons,List.length_nil];omega)) aT aJ aI (⟨i+1,j - 1,_,by omega,by omega,by omega,rfl,by rw [aY,aY];exact hl,?_,rfl,rfl,rfl⟩)
  intro q h1 h2
  have vi:gt ys i=gt xs i:=by rw [hy i (by omega) (by omega)];exact if_neg (by omega)
  have vj:gt ys j=gt xs j:=by rw [hy j (by omega) (by omega)];exact if_neg (by omega)
  rw [gM _ (by rw [aY];omega) h1,gM _ (by omega) h1,vi,vj,hy q h1 h2]
  by_cases e1:q=j
  ·rw [if_pos e1,if_pos (show q < i+1∨j - 1 < q by omega)]
   congr 1;omega
  ·rw [if_neg e1]
   by_cases e2:q=i
   ·rw [if_pos e2,if_pos (show q < i+1∨j - 1 < q by omega)]
    congr 1;omega
   ·rw [if_neg e2]
    by_cases e3:q < i∨j < q
    ·rw [if_pos e3,if_pos (show q < i+1∨j - 1 < q by omega)]
    ·rw [if_neg e3,if_neg (show ¬(q < i+1∨j - 1 < q) by omega)]
 ·repeat (refine gH ?_)
  have:ys=xs.reverse:=by
   refine aLB hl (fun q h1 h2=>?_)
   rw [hy q h1 h2]
   by_cases e3:q < i∨j < q
   ·rw [if_pos e3]
   ·rw [if_neg e3];congr 1;omega
  subst this
  refine dH (by first|exact .inl rfl|exact .inr rfl) rfl _ _ aJ aI (⟨rfl,rfl,rfl⟩)
theorem yR {c:Nat}:CD Try.prog 38 [.slice none 0 c] X w0 M0 I0 (fun v M I=>M0=M∧I0=I∧v= .tuple #[]):=by
 refine aX Try.func38 rfl Try.ntmps38 rfl ?_
 repeat (refine gH ?_)
 refine aU [0] rfl (fun k G M I=>G=[(2, .int .i64 0),(3, .int .i64 (-1))]∧M=M0∧I=I0) (0) _ _ _ aT aJ aI (⟨rfl,rfl,rfl⟩) ?_
 rintro k G M I ⟨rfl,rfl,rfl⟩
 repeat (refine gH ?_)
 refine dH (by first|exact .inl rfl|exact .inr rfl) rfl _ _ aJ aI (⟨rfl,rfl,rfl⟩)
theorem yH {q:Option Addr} {c:Nat} {xs:List (Int × Bool)} (hn:xs.length≤1000):
  CD Try.prog 38 [.slice q xs.length c] X w0 (.row q xs.length c (recs eS xs) 64 2::M0) I0 (fun v M I=>M0=M∧I=aN q (recs eS xs.reverse)::I0∧v= .tuple #[]):=by
 refine aGP ?_ ?_
 ·rintro rfl h0 _ rfl
  have hnil:xs=[]:=List.eq_nil_of_length_eq_zero h0
  subst hnil
  exact (yR).post (fun v M1 I1 w h hw=>⟨M0,_,⟨rfl,rfl,h.2.2⟩,by
   obtain ⟨rfl,rfl,_⟩:=h
   exact hw.nilS none⟩)
 ·rintro b tl rfl hc
  exact (aBH rfl hn).post (fun v M1 I1 w h hw=>⟨M0,_,⟨rfl,rfl,h.2.2⟩,by
   obtain ⟨rfl,rfl,_⟩:=h
   have h1:=hw.freezeB .here
   exact (h1.takeI (List.Mem.head _)).inc (.cons (List.Mem.head _) (.of (fun φ hφ=>List.Mem.tail _ (List.Mem.tail _ hφ))))⟩)
end
def oD (c:Int × Bool):Int:=if c.2 then -c.1 - 1 else c.1+1
def Sn (n:Nat) (sn:List Bool) (x:Int):Prop:=(0≤x∧x < n)∧gt sn x=true
structure BI (ms:List LK) (T:List Int) (n:Nat) (u:Int) (sn:List Bool) (sp:List (Int × Bool)) (pt:Int→List Int):Prop where
 ln:sn.length=n
 lp:sp.length=n
 su:Sn n sn u
 p0:pt u=[]
 tr:∀x,Sn n sn x→Trail ms T (pt x) u x∧∀s∈pt x,Sn n sn (sa ms s)∧Sn n sn (sb ms s)
 pa:∀x,Sn n sn x→x≠u→0≤(gt sp x).1∧(gt sp x).1∈T∧sb ms (oD (gt sp x))=x∧Sn n sn (sa ms (oD (gt sp x)))∧pt x=pt (sa ms (oD (gt sp x)))++[oD (gt sp x)]
 le:∀x,Sn n sn x→(pt x).length+1≤cnt n (fun v=>gt sn v)
theorem Trail.snoc {ms:List LK} {T l:List Int} {u s:Int} (h:Trail ms T l u (sa ms s)) (hs:s≠0) (hk:sk s∈T) (hn:∀x∈l,sk x≠sk s):Trail ms T (l++[s]) u (sb ms s):=
 ⟨Trl.app.2 ⟨_,h.trl, .cons hs (.nil _)⟩,fun x hx=>by
  rcases List.mem_append.1 hx with h1|h1
  ·exact h.mem x h1
  ·rw [List.mem_singleton.1 h1];exact hk,by
  rw [List.map_append,List.nodup_append]
  refine ⟨h.nod,by simp,fun a ha b hb=>?_⟩
  obtain ⟨x,hx,rfl⟩:=List.mem_map.1 ha
  have hb2:b=sk s:=by simpa using hb
  rw [hb2]
  exact hn x hx⟩
theorem aOB {ms:List LK} {s:Int} (h:s≠0):sb ms (-s)=sa ms s:=by
 have h1:=wH (ms:=ms) (s:= -s) (by omega)
 rw [Int.neg_neg] at h1
 exact h1.symm
theorem aIS {c:Int × Bool} (h:0≤c.1):oD c≠0∧sk (oD c)=c.1:=by
 unfold oD
 split
 ·exact ⟨(bwd (ms:=[]) h).1,(bwd (ms:=[]) h).2.1⟩
 ·exact ⟨(fwd (ms:=[]) h).1,(fwd (ms:=[]) h).2.1⟩
theorem Sn.st {n:Nat} {sn:List Bool} {z x:Int} (hl:sn.length=n) (hz:0≤z∧z < n):Sn n (st sn z true) x↔x=z∨Sn n sn x:=by
 unfold Sn
 constructor
 ·rintro ⟨h1,h2⟩
  rw [gM _ (by omega) h1.1] at h2
  by_cases e:x=z
  ·exact .inl e
  ·rw [if_neg e] at h2;exact .inr ⟨h1,h2⟩
 ·rintro (rfl|⟨h1,h2⟩)
  ·exact ⟨hz,by rw [gM _ (by omega) hz.1,if_pos rfl]⟩
  ·refine ⟨h1,?_⟩
   rw [gM _ (by omega) h1.1]
   split
   ·rfl
   ·exact h2
def wW (pt:Int→List Int) (z:Int) (l:List Int) (v:Int):List Int:=if v=z then l else pt v
theorem BI.start {ms:List LK} {T:List Int} {n:Nat} {u:Int} {sp:List (Int × Bool)} (hu:0≤u∧u < n) (lp:sp.length=n):BI ms T n u (st (List.replicate n false) u true) sp (fun _=>[]):=by
 have hl:(List.replicate n false).length=n:=List.length_replicate
 have hS:∀x,Sn n (st (List.replicate n false) u true) x→x=u:=fun x hx=>by
  rcases (Sn.st hl hu).1 hx with h|h
  ·exact h
  ·have h1:=h.2
   obtain ⟨y,rfl⟩:∃y:Nat,x=y:=⟨x.toNat,by have:=h.1;omega⟩
   rw [aP (by have:=h.1;omega)] at h1
   simp at h1
 have hSu:Sn n (st (List.replicate n false) u true) u:=(Sn.st hl hu).2 (.inl rfl)
 refine ⟨by rw [aY,hl],lp,hSu,rfl,fun x hx=>?_,fun x hx hne=>absurd (hS x hx) hne,fun x hx=>?_⟩
 ·rw [hS x hx];exact ⟨Trail.same_end,fun s hs=>absurd hs (by simp)⟩
 ·have:=cnt_lt (n:=n) (p:=fun _=>false) (q:=fun v=>gt (Fx.st (List.replicate n false) u true) v) (fun x _ _ h=>absurd h (by simp)) hu.1 hu.2 rfl hSu.2
  simp only [List.length_nil]
  omega
theorem BI.add {ms:List LK} {T:List Int} {n:Nat} {u y z:Int} {c:Int × Bool} {sn:List Bool} {sp:List (Int × Bool)} {pt:Int→List Int} (h:BI ms T n u sn sp pt) (hc:0≤c.1) (hcT:c.1∈T) (hy:Sn n sn y) (hya:sa ms (oD c)=y) (hzb:sb ms (oD c)=z) (hz:0≤z∧z < n) (hnz:¬Sn n sn z):
  BI ms T n u (st sn z true) (st sp z c) (wW pt z (pt y++[oD c])):=by
 have hS:=fun x=>Sn.st (x:=x) h.ln hz
 obtain ⟨s0,s1⟩:=aIS hc
 have hne:∀x,Sn n sn x→x≠z:=fun x hx e=>hnz (e ▸ hx)
 have hcnt:cnt n (fun v=>gt sn v) < cnt n (fun v=>gt (Fx.st sn z true) v):=cnt_lt (fun x h0 hx hp=>((hS x).2 (.inr ⟨⟨h0,hx⟩,hp⟩)).2) hz.1 hz.2 (by
  cases e:gt sn z
  ·rfl
  ·exact absurd ⟨hz,e⟩ hnz) ((hS z).2 (.inl rfl)).2
 have hpy:wW pt z (pt y++[oD c]) y=pt y:=if_neg (hne y hy)
 refine ⟨by rw [aY,h.ln],by rw [aY,h.lp],(hS u).2 (.inr h.su),?_,fun x hx=>?_,fun x hx hxu=>?_,fun x hx=>?_⟩
 ·rw [wW,if_neg (hne u h.su)];exact h.p0
 ·rcases (hS x).1 hx with rfl|hx2
  ·rw [wW,if_pos rfl]
   have ht:=h.tr y hy
   refine ⟨?_,fun s hs=>?_⟩
   ·rw [←hzb]
    refine Trail.snoc (by rw [hya];exact ht.1) s0 (by rw [s1];exact hcT) (fun s' hs' e=>?_)
    have hss:=ht.2 s' hs'
    have hs0':s'≠0:=fun e0=>by
     obtain ⟨l1,l2,e3⟩:=List.append_of_mem hs'
     have h5:=ht.1.trl
     rw [e3] at h5
     obtain ⟨w,_,h6⟩:=Trl.app.1 h5
     exact h6.inv.1 e0
    rcases aBX e hs0' s0 with e1|e1
    ·rw [e1,hzb] at hss;exact hnz hss.2
    ·rw [e1,wH s0,hzb] at hss;exact hnz hss.1
   ·rcases List.mem_append.1 hs with h1|h1
    ·exact ⟨(hS _).2 (.inr (ht.2 s h1).1),(hS _).2 (.inr (ht.2 s h1).2)⟩
    ·rw [List.mem_singleton.1 h1,hya,hzb]
     exact ⟨(hS _).2 (.inr hy),(hS _).2 (.inl rfl)⟩
  ·rw [wW,if_neg (hne x hx2)]
   exact ⟨(h.tr x hx2).1,fun s hs=>⟨(hS _).2 (.inr ((h.tr x hx2).2 s hs).1),(hS _).2 (.inr ((h.tr x hx2).2 s hs).2)⟩⟩
 ·rcases (hS x).1 hx with rfl|hx2
  ·rw [gM _ (by rw [h.lp];exact hz) hz.1,if_pos rfl]
   refine ⟨hc,hcT,hzb,?_,?_⟩
   ·rw [hya];exact (hS _).2 (.inr hy)
   ·rw [hya,hpy,wW,if_pos rfl]
  ·rw [gM _ (by rw [h.lp];exact hz) hx2.1.1,if_neg (hne x hx2)]
   obtain ⟨g1,g2,g3,g4,g5⟩:=h.pa x hx2 hxu
   refine ⟨g1,g2,g3,(hS _).2 (.inr g4),?_⟩
   rw [wW,wW,if_neg (hne x hx2),if_neg (hne _ g4)]
   exact g5
 ·rcases (hS x).1 hx with rfl|hx2
  ·have:=h.le y hy
   rw [wW,if_pos rfl,List.length_append,List.length_singleton]
   omega
  ·have:=h.le x hx2
   rw [wW,if_neg (hne x hx2)]
   omega
def Dn (ms:List LK) (n:Nat) (sn:List Bool) (T:List Int) (x:Int):Prop:=∀k∈T,((gt ms k).a=x→Sn n sn (gt ms k).b)∧((gt ms k).b=x→Sn n sn (gt ms k).a)
theorem BI.closed {ms:List LK} {T:List Int} {n:Nat} {u:Int} {sn:List Bool} {sp:List (Int × Bool)} {pt:Int→List Int} (h:BI ms T n u sn sp pt) (hd:∀x,Sn n sn x→Dn ms n sn T x) {v:Int} (hv:¬Sn n sn v) (l:List Int):¬Trail ms T l u v:=fun ht=>by
 have key:∀x y,Con (es ms T) x y→(Sn n sn x↔Sn n sn y):=fun x y hc=>by
  induction hc with
  |refl x=>exact Iff.rfl
  | @link a b hab=>
   obtain ⟨k,hk,e⟩:=List.mem_map.1 hab
   have e1:(gt ms k).a=a:=congrArg Prod.fst e
   have e2:(gt ms k).b=b:=congrArg Prod.snd e
   constructor
   ·intro hx;have:=(hd a hx k hk).1 e1;rwa [e2] at this
   ·intro hx;have:=(hd b hx k hk).2 e2;rwa [e1] at this
  |symm _ ih=>exact ih.symm
  |trans _ _ ih1 ih2=>exact ih1.trans ih2
 exact hv ((key u v ht.con).1 h.su)
theorem BI.grow {ms:List LK} {T:List Int} {n:Nat} {u y z:Int} {sn:List Bool} {sp:List (Int × Bool)} {pt:Int→List Int} {Q:List Int} {K0 len i:Nat} (h:BI ms T n u sn sp pt) (hz:0≤z∧z < n) (hnz:¬Sn n sn z) (hQ:Q.length=len) (hys:Sn n sn y) (hQs:∀x∈Q,Sn n sn x)
  (hdn:∀x,Sn n sn x→x∈Q∨x=y∨Dn ms n sn T x) (hpd:∀j:Nat,j < i→((gt ms (gt T j)).a=y→Sn n sn (gt ms (gt T j)).b)∧((gt ms (gt T j)).b=y→Sn n sn (gt ms (gt T j)).a)) (hle:len+(n - cnt n (fun v=>gt sn v))+1≤K0)
  (hl:((gt ms (gt T i)).a=y→Sn n (Fx.st sn z true) (gt ms (gt T i)).b)∧((gt ms (gt T i)).b=y→Sn n (Fx.st sn z true) (gt ms (gt T i)).a)):
  (Q++[z]).length=len+1∧Sn n (Fx.st sn z true) y∧(∀x∈Q++[z],Sn n (Fx.st sn z true) x)∧(∀x,Sn n (Fx.st sn z true) x→x∈Q++[z]∨x=y∨Dn ms n (Fx.st sn z true) T x)∧
  (∀j:Nat,j < i+1→((gt ms (gt T j)).a=y→Sn n (Fx.st sn z true) (gt ms (gt T j)).b)∧((gt ms (gt T j)).b=y→Sn n (Fx.st sn z true) (gt ms (gt T j)).a))∧len+1+(n - cnt n (fun v=>gt (Fx.st sn z true) v))+1≤K0:=by
 have hS:=fun x=>Sn.st (x:=x) h.ln hz
 have hm:∀x,Sn n sn x→Sn n (Fx.st sn z true) x:=fun x hx=>(hS x).2 (.inr hx)
 have hcnt:cnt n (fun v=>gt sn v) < cnt n (fun v=>gt (Fx.st sn z true) v):=cnt_lt (fun x h0 hx hp=>(hm x ⟨⟨h0,hx⟩,hp⟩).2) hz.1 hz.2 (by
  cases e:gt sn z
  ·rfl
  ·exact absurd ⟨hz,e⟩ hnz) ((hS z).2 (.inl rfl)).2
 have hcn:=aBZ n (fun v=>gt (Fx.st sn z true) v)
 refine ⟨by rw [List.length_append,hQ];rfl,hm y hys,fun x hx=>?_,fun x hx=>?_,fun j hj=>?_,by omega⟩
 ·rcases List.mem_append.1 hx with h1|h1
  ·exact hm x (hQs x h1)
  ·rw [List.mem_singleton.1 h1];exact (hS z).2 (.inl rfl)
 ·rcases (hS x).1 hx with rfl|h1
  ·exact .inl (by simp)
  ·rcases hdn x h1 with h2|h2|h2
   ·exact .inl (by simp [h2])
   ·exact .inr (.inl h2)
   ·exact .inr (.inr (fun k hk=>⟨fun e=>hm _ ((h2 k hk).1 e),fun e=>hm _ ((h2 k hk).2 e)⟩))
 ·by_cases e:j=i
  ·subst e;exact hl
  ·have:=hpd j (by omega)
   exact ⟨fun e=>hm _ (this.1 e),fun e=>hm _ (this.2 e)⟩
end Go.Proofs.Ytejbgkajdomgcaa
namespace Go.Proofs.Ytejbgkajdomgcaa
open Go Go.Fx
theorem qJ {α:Type} {enc:α→List Value} {sz:Nat} [h:Sized enc sz] (hsz:0 < sz) (zz:α) (mm:Nat):(madeCells (enc zz).toArray (mm*sz)).toList=recs enc (List.replicate mm zz):=by
 have hl:(enc zz).length=sz:=h.len zz
 apply List.ext_getElem
 ·rw [Array.length_toList,size_madeCells,fZ,List.length_replicate]
 ·intro i h1 h2
  rw [Array.length_toList,size_madeCells] at h1
  have hq:i / sz < mm:=by rw [Nat.div_lt_iff_lt_mul hsz];exact h1
  have hr:i % sz < sz:=Nat.mod_lt _ hsz
  have hv:(enc zz)[i % sz]?=some ((enc zz)[i % sz]'(by omega)):=List.getElem?_eq_getElem (by omega)
  have:=qX (enc:=enc) (List.replicate mm zz) (i / sz) (i % sz) zz _ (by rw [List.getElem?_replicate,if_pos hq]) hv
  rw [Nat.div_add_mod'] at this
  have h3:=(List.getElem?_eq_some_iff.1 this).2
  rw [h3]
  simp [madeCells,hl,hr]
theorem aOV {P:Program} {n:Nat} {Q:Exit→Act→World→Prop} {G:Env} {X:List Nat} {w0:World} {M:List Ent} {I:List aO} {ops l:List Oper} {m:Fx.Mode} {ty:TypeId} {pos:String} {af:Array Edge} {g:Option (Nat × Bool)} {d:Nat} {t e:TypeId} {sz:Nat} {x ix:Operand} {b o len c:Nat} {k':IntKind} {i:Int} [SliceTy P t e sz] (hx:ev G x=some (.slice (some ⟨b,o,none⟩) len c)) (hi:ev G ix=some (.int k' i)) (h:0≤i∧i < len) (hg:iY ops G g=some true)
  (hd:Nat.ble (d+1) n=true) (k:RD P n ops Q m.next l ((d, .pointer (some ⟨b,o+i.toNat*sz,none⟩))::G) X w0 M I):RD P n ops Q m (⟨some d, .indexAddr t x ix,ty,pos,af,g⟩::l) G X w0 M I:=
 aC hg (fun _=>by
  have:=lJ (n:=n) (ty:=ty) (P:=P) (G:=G) (t:=t) (e:=e) (sz:=sz) hx hi h (Ok.mk b o) (C:=fun _=>True)
  refine ⟨fun a ha dst pos after guard w _=>?_⟩
  have h2:=this.go a ha dst pos after guard w True.intro
  simpa [pt,bl,of] using h2) rfl hd k
section
variable {X:List Nat} {w0:World} {M0:List Ent} {I0:List aO}
theorem aJI {p q:Option Addr} {n m c t ct:Nat} {ms:List LK} {T:List Int} {u v:Int} (hn:n≤256) (hm:ms.length=m) (hm2:m≤1024) (hg:Gd ms n) (hT:T.length=t) (ht:t≤1000) (hr:uH m T) (hu:0≤u∧u < n) (hv:0≤v∧v < n) (hp:aN p (recs eK ms)∈I0) (hq:aN q (recs (eI .i64) T)∈I0):
  CD Try.prog 21 [gv n p m c, .slice q t ct, .int .i64 u, .int .i64 v] X w0 M0 I0 (fun r M I=>M0=M∧∃(q2:Option Addr) (c2:Nat) (l:List (Int × Bool)) (f:Bool),r= .tuple #[.slice q2 l.length c2, .bool f]∧Stp ms T u v (l.map oD) f∧(∀x∈l,0≤x.1)∧I=aN q2 (recs eS l)::I0):=by
 refine aEM Try.func21 rfl Try.ntmps21 rfl ?_
 refine lU ?_
 refine rF rfl (fun b4=>?_)
 refine aF .here ?_
 repeat refine aD ?_
 refine aJE ?_
 by_cases huv:u=v
 ·subst huv
  repeat refine aD ?_
  refine aCX ?_
  refine rC none ?_
  refine eY [8,9] (by first|exact .inl rfl|exact .inr rfl) rfl rfl rfl _ _ bN bR (⟨rfl,none,0,[],true,rfl,Stp.of Trail.same_end,by simp,rfl⟩)
 repeat refine aD ?_
 (refine iW (n) rfl rfl (by omega) (by omega) (by omega) (by omega) (qJ (enc:=eS) (by decide) ((0:Int),false) _) rfl rfl ?_;intro b10;refine cK ?_)
 repeat refine aD ?_
 (refine iW (n) rfl rfl (by omega) (by omega) (by omega) (by omega) (aFN _) rfl rfl ?_;intro b11;refine cK ?_)
 have hl1:(List.replicate n false).length=n:=List.length_replicate
 repeat refine aD ?_
 refine uU (cs:=recs (eI .i64) [u]) ([.int .i64 u]) rfl (fun b12=>?_)
 refine aC rfl (fun _=>aM rfl) rfl rfl ?_
 refine gG ?_
 refine eT ?_
 refine aL ?_
 refine dY ?_
 refine eT ?_
 refine aL ?_
 have hb0:=BI.start (ms:=ms) (T:=T) hu (sp:=List.replicate n ((0:Int),false)) List.length_replicate
 refine yQ (fun G M I=>∃(sn:List Bool) (sp:List (Int × Bool)) (pt:Int→List Int),BI ms T n u sn sp pt∧(Sn n sn v∨∀l,¬Trail ms T l u v)∧G=[(2, .int .i64 u),(3, .int .i64 v),(4, .pointer (some ⟨b4,0,none⟩)),(10, .slice (some ⟨b10,0,none⟩) n n),(11, .slice (some ⟨b11,0,none⟩) n n)]∧M= .blk b11 (recs eB sn) 4:: .blk b10 (recs eS sp) 64::M0∧I=aN (some ⟨b4,0,none⟩) [.int .i64 n, .slice p m c]::I0) ?_ ?_
 ·refine dN ?_
  refine aU [1,2,3,4,10,11] rfl (fun k G M I=>∃(sn:List Bool) (sp:List (Int × Bool)) (pt:Int→List Int) (bq off len c2:Nat) (qc:List Value) (Q:List Int),BI ms T n u sn sp pt∧Q.length=len∧(∀x∈Q,Sn n sn x)∧(∀x,Sn n sn x→x∈Q∨Dn ms n sn T x)∧k=len+(n - cnt n (fun v=>gt sn v))∧len+(n - cnt n (fun v=>gt sn v))≤n∧off+c2≤qc.length∧len≤c2∧(qc.drop off).take len=recs (eI .i64) Q∧G=[(12, .slice (some ⟨bq,off,none⟩) len c2)]∧M= .blk bq qc 3:: .blk b11 (recs eB sn) 4:: .blk b10 (recs eS sp) 64::M0∧I=aN (some ⟨b4,0,none⟩) [.int .i64 n, .slice p m c]::I0) (1+(n - cnt n (fun v=>gt (st (List.replicate n false) u true) v))) _ _ _ aT bN bR (⟨_,_,_,b12,0,1,1,_,[u],hb0,rfl,fun x hx=>by rw [List.mem_singleton.1 hx];exact hb0.su,fun x hx=> .inl (by rcases (Sn.st hl1 hu).1 hx with h|h; · {exact List.mem_singleton.2 h}; · {exact absurd h.2 (by rw [aNP h.1];decide)}),rfl,by {have:=hb0.le u hb0.su;have:=aBZ n (fun v=>gt (st (List.replicate n false) u true) v);omega},by simp [recs,eI],by decide,rfl,rfl,rfl,rfl⟩) ?_
  rintro kk G M I ⟨sn,sp,pt,bq,off,len,c2,qc,Q,hbi,hQ,hQs,hdn,rfl,hkn,hoc,hlc,hqc,rfl,rfl,rfl⟩
  have hln:=hbi.ln
  have hlp:=hbi.lp
  by_cases hl0:len=0
  ·have hQn:Q=[]:=List.eq_nil_of_length_eq_zero (by omega)
   subst hQn
   have hres:Sn n sn v∨∀l,¬Trail ms T l u v:=by
    by_cases h:Sn n sn v
    ·exact .inl h
    ·exact .inr (fun l=>hbi.closed (fun x hx=>(hdn x hx).resolve_left (by simp)) h l)
   repeat refine aD ?_
   refine tyE ⟨sn,sp,pt,hbi,hres,rfl,rfl,rfl⟩
  obtain ⟨y,Q',rfl⟩:∃y Q',Q=y::Q':=by
   cases Q with
   |nil=>exact absurd hQ.symm (by simpa using hl0)
   |cons y Q'=>exact ⟨y,Q',rfl⟩
  have hq0:qc[off+(0:Int).toNat*1]?=some (.int .i64 y):=by
   have:=congrArg (fun l:List Value=>l[0]?) hqc
   simp only [List.getElem?_take,List.getElem?_drop] at this
   rw [if_pos (by omega)] at this
   simpa [recs,eI] using this
  obtain ⟨off',hcut,hoc',hqc'⟩:∃off':Nat,aCU (some ⟨bq,off,none⟩) c2 1 1=some ⟨bq,off',none⟩∧off'+(c2 - 1)≤qc.length∧(qc.drop off').take (len - 1)=recs (eI .i64) Q':=by
   unfold aCU
   by_cases hc1:c2=1
   ·refine ⟨off,by rw [if_pos hc1],by omega,?_⟩
    have:Q'=[]:=List.eq_nil_of_length_eq_zero (by simp at hQ;omega)
    subst this
    rw [show len - 1=0 by omega,List.take_zero]
    rfl
   ·refine ⟨off+1,by rw [if_neg hc1];simp [add_lit],by omega,?_⟩
    rw [←List.drop_drop]
    have h2:((qc.drop off).take len).drop 1=(recs (eI .i64) (y::Q')).drop 1:=by rw [hqc]
    rw [List.drop_take] at h2
    exact h2
  repeat refine aD ?_
  refine aOV rfl rfl (by omega) rfl rfl ?_
  refine iA (by first|exact View.seq|exact View.any|exact View.one rfl) rfl aG (At.mk hq0) rfl rfl ?_
  repeat refine aD ?_
  refine aC rfl (fun _=>wZ (e:=3) (sz:=1) 1 len (len - 1) rfl (.inr ⟨_,_,_,rfl,rfl,rfl⟩) (.inl ⟨rfl,rfl⟩) (by omega) (by omega) rfl) rfl rfl ?_
  rw [hcut]
  obtain ⟨K0,hK0⟩:∃K,len+(n - cnt n (fun v=>gt sn v))=K:=⟨_,rfl⟩
  have hle0:len - 1+(n - cnt n (fun v=>gt sn v))+1≤K0:=by omega
  have hlQ:Q'.length=len - 1:=by simp at hQ;omega
  have hys:Sn n sn y:=hQs y (by simp)
  have hQs':∀x∈Q',Sn n sn x:=fun x hx=>hQs x (by simp [hx])
  have hdn':∀x,Sn n sn x→x∈Q'∨x=y∨Dn ms n sn T x:=fun x hx=>by
   rcases hdn x hx with h|h
   ·rcases List.mem_cons.1 h with h|h
    ·exact .inr (.inl h)
    ·exact .inl h
   ·exact .inr (.inr h)
  rw [hK0] at hkn ⊢
  repeat refine aD ?_
  refine qU [1,2,3,4,10,11,13,44,45] rfl (fun k G M I=>∃(i:Nat) (sn:List Bool) (sp:List (Int × Bool)) (pt:Int→List Int) (bq off len c2:Nat) (qc:List Value) (Q:List Int),i≤t∧k=t - i∧BI ms T n u sn sp pt∧Q.length=len∧Sn n sn y∧(∀x∈Q,Sn n sn x)∧(∀x,Sn n sn x→x∈Q∨x=y∨Dn ms n sn T x)∧(∀j:Nat,j < i→((gt ms (gt T j)).a=y→Sn n sn (gt ms (gt T j)).b)∧((gt ms (gt T j)).b=y→Sn n sn (gt ms (gt T j)).a))∧len+(n - cnt n (fun v=>gt sn v))+1≤K0∧off+c2≤qc.length∧len≤c2∧(qc.drop off).take len=recs (eI .i64) Q∧G=[(12, .slice (some ⟨bq,off,none⟩) len c2),(46, .int .i64 i)]∧M= .blk bq qc 3:: .blk b11 (recs eB sn) 4:: .blk b10 (recs eS sp) 64::M0∧I=aN (some ⟨b4,0,none⟩) [.int .i64 n, .slice p m c]::I0) (t) (⟨0,sn,sp,pt,bq,off',len - 1,c2 - 1,qc,Q',by omega,rfl,hbi,hlQ,hys,hQs',hdn',fun j hj=>by omega,hle0,hoc',by omega,hqc',rfl,rfl,rfl⟩) ?_
  clear hbi hlQ hys hQs' hdn' hle0 hoc' hqc' hoc hlc hqc hQ hQs hdn hcut hq0 hl0 hln hlp hK0 hb0
  rintro kk G M I ⟨i,sn,sp,pt,bq,off,len,c2,qc,Q,hi,rfl,hbi,hQ,hys,hQs,hdn,hpd,hle,hoc,hlc,hqc,rfl,rfl,rfl⟩
  have hln:=hbi.ln
  have hlp:=hbi.lp
  have hes:(eS (gt T (i:Int),false)).length=2:=rfl
  by_cases hit:i < t
  rotate_left
  ·obtain rfl:i=t:=by omega
   have hdn2:∀x,Sn n sn x→x∈Q∨Dn ms n sn T x:=fun x hx=>by
    rcases hdn x hx with h|h|h
    ·exact .inl h
    ·subst h
     exact .inr (fun k hk=>by
      obtain ⟨j,hj,rfl⟩:=List.mem_iff_getElem.1 hk
      have:=hpd j (by omega)
      rwa [aP hj] at this)
    ·exact .inr h
   repeat refine aD ?_
   refine mI (len+(n - cnt n (fun v=>gt sn v))) (⟨sn,sp,pt,bq,off,len,c2,qc,Q,hbi,hQ,hQs,hdn2,rfl,by omega,hoc,hlc,hqc,rfl,rfl,rfl⟩)
  have hz1:=aNS hr (j:=i) (by omega)
  have hzT:gt T (i:Int)∈T:=by rw [aP (by omega)];exact List.getElem_mem _
  obtain ⟨z,hz⟩:∃z,gt T (i:Int)=z:=⟨_,rfl⟩
  have hpz:=fun h1 j (hj:j < i+1)=>(by
   by_cases e:j=i
   ·subst e;rw [hz];exact h1
   ·exact hpd j (by omega):((gt ms (gt T (j:Int))).a=y→Sn n sn (gt ms (gt T (j:Int))).b)∧((gt ms (gt T (j:Int))).b=y→Sn n sn (gt ms (gt T (j:Int))).a))
  rw [hz] at hz1 hzT hes
  have hA:=hg.a z hz1.1 (by omega)
  have hB:=hg.b z hz1.1 (by omega)
  repeat refine aD ?_
  rw [hz]
  repeat refine aD ?_
  refine iL (fun b16=>?_)
  repeat refine aD ?_
  (refine aC rfl (fun _=>aZ (pvs:=([.int .i64 z]).zipIdx.map (fun p=>(p.2,p.1))) (cells:=eS (z,false)) rfl rfl) rfl rfl ?_)
  repeat refine aD ?_
  refine iL (fun b18=>?_)
  by_cases hay:(gt ms z).a=y
  ·have hfw:=fwd (ms:=ms) hz1.1
   have hstp:oD (z,false)=z+1:=rfl
   have hEr:=hB
   by_cases hse:gt sn (gt ms z).b=true
   ·have hSE:Sn n sn (gt ms z).b:=⟨hEr,hse⟩
    repeat refine aD ?_
    rw [hse]
    repeat refine aD ?_
    refine mI (t - (i+1)) (⟨i+1,sn,sp,pt,bq,off,len,c2,qc,Q,by omega,rfl,hbi,hQ,hys,hQs,hdn,hpz ⟨fun _=>hSE,fun e=>by rw [hay];exact hys⟩,hle,hoc,hlc,hqc,rfl,rfl,rfl⟩)
   have hse2:gt sn (gt ms z).b=false:=by simpa using hse
   have hnz:¬Sn n sn (gt ms z).b:=fun h=>hse h.2
   have hSz:=(Sn.st (x:=(gt ms z).b) hbi.ln hEr).2 (.inl rfl)
   have hbi2:=hbi.add (c:=(z,false)) (y:=y) (z:=(gt ms z).b) hz1.1 hzT hys (by rw [hstp,hfw.2.2.1];exact hay) (by rw [hstp,hfw.2.2.2]) hEr hnz
   have hgr:=hbi.grow (z:=(gt ms z).b) hEr hnz hQ hys hQs hdn hpd hle (by rw [hz];exact ⟨fun _=>hSz,fun e=>(Sn.st hbi.ln hEr).2 (.inr (by rw [hay];exact hys))⟩)
   repeat refine aD ?_
   rw [hse2]
   repeat refine aD ?_
   (repeat refine aL ?_);refine tyW (.blk b18 (eS (z,false)) 64::M0) (aN (some ⟨b4,0,none⟩) [.int .i64 n, .slice p m c]::I0) [0,1,2,3,4,5,6,7,8] [0,0,1,1,1,0,0,0,0] mixed ?_
   by_cases hEv:(gt ms z).b=v
   ·repeat refine aD ?_
    refine jQ _ _ _ aT bN bR ⟨_,_,_,hbi2, .inl (by rw [←hEv];exact hSz),rfl,rfl,rfl⟩
   repeat refine aD ?_
   refine uU (cs:=[.int .i64 (gt ms z).b]) ([.int .i64 (gt ms z).b]) rfl (fun b20=>?_)
   (refine aEN 3 rfl rfl rfl aG rfl hoc hlc (by omega) (by omega) rfl rfl ?_;intro bq2 off2 c3 qc2 hoc2 hlc2 hqc2;refine cK ?_)
   rw [hqc] at hqc2
   repeat refine aD ?_
   refine aK (t - (i+1)) _ _ _ (by first|omega|(simp only [List.length_append,List.length_cons,List.length_nil];omega)) aT bN bR (⟨i+1,_,_,_,bq2,off2,len+1,c3,qc2,Q++[(gt ms z).b],by omega,rfl,hbi2,hgr.1,hgr.2.1,hgr.2.2.1,hgr.2.2.2.1,hgr.2.2.2.2.1,hgr.2.2.2.2.2,hoc2,hlc2,by rw [hqc2,mM];rfl,rfl,rfl,rfl⟩)
  by_cases hby:(gt ms z).b=y
  ·rw [show eS (z,false)=[Value.int .i64 z,Value.bool false] from rfl]
   have hfw:=bwd (ms:=ms) hz1.1
   have hstp:oD (z,true)= -z - 1:=rfl
   have hEr:=hA
   by_cases hse:gt sn (gt ms z).a=true
   ·have hSE:Sn n sn (gt ms z).a:=⟨hEr,hse⟩
    repeat refine aD ?_
    rw [hse]
    repeat refine aD ?_
    refine mI (t - (i+1)) (⟨i+1,sn,sp,pt,bq,off,len,c2,qc,Q,by omega,rfl,hbi,hQ,hys,hQs,hdn,hpz ⟨fun e=>absurd e hay,fun _=>hSE⟩,hle,hoc,hlc,hqc,rfl,rfl,rfl⟩)
   have hse2:gt sn (gt ms z).a=false:=by simpa using hse
   have hnz:¬Sn n sn (gt ms z).a:=fun h=>hse h.2
   have hSz:=(Sn.st (x:=(gt ms z).a) hbi.ln hEr).2 (.inl rfl)
   have hbi2:=hbi.add (c:=(z,true)) (y:=y) (z:=(gt ms z).a) hz1.1 hzT hys (by rw [hstp,hfw.2.2.1];exact hby) (by rw [hstp,hfw.2.2.2]) hEr hnz
   have hgr:=hbi.grow (z:=(gt ms z).a) hEr hnz hQ hys hQs hdn hpd hle (by rw [hz];exact ⟨fun e=>absurd e hay,fun _=>hSz⟩)
   repeat refine aD ?_
   rw [hse2]
   rw [show ([Value.int .i64 z,Value.bool true]:List Value)=eS (z,true) from rfl]
   repeat refine aD ?_
   (repeat refine aL ?_);refine tyW (.blk b18 (eS (z,true)) 64::M0) (aN (some ⟨b4,0,none⟩) [.int .i64 n, .slice p m c]::I0) [0,1,2,3,4,5,6,7,8] [0,0,1,1,1,0,0,0,0] mixed ?_
   by_cases hEv:(gt ms z).a=v
   ·repeat refine aD ?_
    refine jQ _ _ _ aT bN bR ⟨_,_,_,hbi2, .inl (by rw [←hEv];exact hSz),rfl,rfl,rfl⟩
   repeat refine aD ?_
   refine uU (cs:=[.int .i64 (gt ms z).a]) ([.int .i64 (gt ms z).a]) rfl (fun b20=>?_)
   (refine aEN 3 rfl rfl rfl aG rfl hoc hlc (by omega) (by omega) rfl rfl ?_;intro bq2 off2 c3 qc2 hoc2 hlc2 hqc2;refine cK ?_)
   rw [hqc] at hqc2
   repeat refine aD ?_
   refine aK (t - (i+1)) _ _ _ (by first|omega|(simp only [List.length_append,List.length_cons,List.length_nil];omega)) aT bN bR (⟨i+1,_,_,_,bq2,off2,len+1,c3,qc2,Q++[(gt ms z).a],by omega,rfl,hbi2,hgr.1,hgr.2.1,hgr.2.2.1,hgr.2.2.2.1,hgr.2.2.2.2.1,hgr.2.2.2.2.2,hoc2,hlc2,by rw [hqc2,mM];rfl,rfl,rfl,rfl⟩)
  repeat refine aD ?_
  refine mI (t - (i+1)) (⟨i+1,sn,sp,pt,bq,off,len,c2,qc,Q,by omega,rfl,hbi,hQ,hys,hQs,hdn,hpz ⟨fun h=>absurd h hay,fun h=>absurd h hby⟩,hle,hoc,hlc,hqc,rfl,rfl,rfl⟩)
 clear hb0
 rintro G M I ⟨sn,sp,pt,hbi,hres,rfl,rfl,rfl⟩
 have hln:=hbi.ln
 have hlp:=hbi.lp
 by_cases hsv:gt sn v=true
 rotate_left
 ·have hsv2:gt sn v=false:=by simpa using hsv
  have hno:=hres.resolve_left (fun h=>hsv h.2)
  repeat refine aD ?_
  rw [hsv2]
  repeat refine aD ?_
  refine aCX ?_
  refine rC none ?_
  refine eY [8,9] (by first|exact .inl rfl|exact .inr rfl) rfl rfl rfl _ _ bN bR (⟨rfl,none,0,[],false,rfl,⟨fun h=>absurd h (by decide),fun _=>⟨rfl,hno⟩⟩,by simp,rfl⟩)
 have hSv:Sn n sn v:=⟨hv,hsv⟩
 repeat refine aD ?_
 rw [hsv]
 repeat refine aD ?_
 refine pG 64 2 ?_
 have hpn:(pt v).length≤n:=by
  have h1:=hbi.le v hSv
  have h2:=aBZ n (fun v=>gt sn v)
  omega
 refine qU [2,4,10] rfl (fun k G M I=>∃(x:Int) (q2:Option Addr) (c2:Nat) (l:List (Int × Bool)),Sn n sn x∧pt v=pt x++l.reverse.map oD∧(∀e∈l,0≤e.1)∧l.length+(pt x).length≤n∧k=(pt x).length∧G=[(19, .slice q2 l.length c2),(20, .int .i64 x)]∧M= .row q2 l.length c2 (recs eS l) 64 2:: .blk b11 (recs eB sn) 4:: .blk b10 (recs eS sp) 64::M0∧I=aN (some ⟨b4,0,none⟩) [.int .i64 n, .slice p m c]::I0) ((pt v).length) (⟨v,none,0,[],hSv,(List.append_nil _).symm,fun _ h=>absurd h List.not_mem_nil,by rw [List.length_nil];omega,rfl,rfl,rfl,rfl⟩) ?_
 rintro kk G M I ⟨x,q2,c2,l,hx,hpv,hl0,hln2,rfl,rfl,rfl,rfl⟩
 by_cases hxu:x=u
 ·subst hxu
  rw [hbi.p0,List.nil_append] at hpv
  have hst:Stp ms T x v (l.reverse.map oD) true:=Stp.of (by rw [←hpv];exact (hbi.tr v hSv).1)
  repeat refine aD ?_
  (refine dS rfl (yH (by omega)) ?_;rintro _ _ _ ⟨rfl,rfl,rfl⟩;refine cK ?_)
  repeat refine aD ?_
  refine aCX ?_
  refine eY [8,9] (by first|exact .inl rfl|exact .inr rfl) rfl rfl rfl _ _ bN bR (⟨rfl,q2,c2,l.reverse,true,by rw [List.length_reverse],hst,fun x hx=>hl0 x (List.mem_reverse.1 hx),rfl⟩)
 obtain ⟨s0,s1,s2,s3,s4⟩:=hbi.pa x hx hxu
 have s5:=hr _ s1
 obtain ⟨e,he⟩:∃e,gt sp x=e:=⟨_,rfl⟩
 rw [he] at s0 s1 s2 s3 s4 s5
 have hA:=hg.a e.1 s0 (by omega)
 have hB:=hg.b e.1 s0 (by omega)
 have hxn:=hx.1
 have hpl:(pt x).length=(pt (sa ms (oD e))).length+1:=by rw [s4,List.length_append];rfl
 have hpv2:pt v=pt (sa ms (oD e))++(l++[e]).reverse.map oD:=by rw [hpv,s4];simp
 have hl2:∀e'∈l++[e],0≤e'.1:=fun e' h'=>by
  rcases List.mem_append.1 h' with h1|h1
  ·exact hl0 e' h1
  ·rw [List.mem_singleton.1 h1];exact s0
 by_cases hb:e.2=true
 ·have hsa:sa ms (oD e)=(gt ms e.1).b:=by unfold oD;rw [if_pos hb];exact (bwd (ms:=ms) s0).2.2.1
  rw [hsa] at s3 hpl hpv2
  repeat refine aD ?_
  rw [he]
  repeat refine aD ?_
  refine iL (fun b21=>?_)
  repeat refine aD ?_
  refine uU (cs:=recs eS [e]) ([.agg (eS e).toArray]) rfl (fun b22=>?_)
  refine tyP (ys:=[e]) 2 rfl rfl rfl (fun a2 c3=>?_)
  rw [show eS e=[Value.int .i64 e.1,Value.bool e.2] from rfl]
  refine RD_w (M':= .blk b21 [.int .i64 e.1, .bool e.2] 64:: .row a2 (l++[e]).length c3 (recs eS (l++[e])) 64 2:: .blk b11 (recs eB sn) 4:: .blk b10 (recs eS sp) 64::M0) bN Inc.refl ?_
  repeat refine aD ?_
  rw [hb]
  repeat refine aD ?_
  refine mI ((pt (gt ms e.1).b).length) (⟨(gt ms e.1).b,a2,c3,l++[e],s3,hpv2,hl2,by rw [List.length_append,List.length_singleton];omega,rfl,rfl,rfl,rfl⟩)
 have hb2:e.2=false:=by simpa using hb
 have hsa:sa ms (oD e)=(gt ms e.1).a:=by unfold oD;rw [if_neg hb];exact (fwd (ms:=ms) s0).2.2.1
 rw [hsa] at s3 hpl hpv2
 repeat refine aD ?_
 rw [he]
 repeat refine aD ?_
 refine iL (fun b21=>?_)
 repeat refine aD ?_
 refine uU (cs:=recs eS [e]) ([.agg (eS e).toArray]) rfl (fun b22=>?_)
 refine tyP (ys:=[e]) 2 rfl rfl rfl (fun a2 c3=>?_)
 rw [show eS e=[Value.int .i64 e.1,Value.bool e.2] from rfl]
 refine RD_w (M':= .blk b21 [.int .i64 e.1, .bool e.2] 64:: .row a2 (l++[e]).length c3 (recs eS (l++[e])) 64 2:: .blk b11 (recs eB sn) 4:: .blk b10 (recs eS sp) 64::M0) bN Inc.refl ?_
 repeat refine aD ?_
 rw [hb2]
 repeat refine aD ?_
 refine mI ((pt (gt ms e.1).a).length) (⟨(gt ms e.1).a,a2,c3,l++[e],s3,hpv2,hl2,by rw [List.length_append,List.length_singleton];omega,rfl,rfl,rfl,rfl⟩)
end
end Go.Proofs.Ytejbgkajdomgcaa
namespace Go.Proofs.Ytejbgkajdomgcaa
open Go Go.Fx
theorem Stp.both {ms:List LK} {T l l':List Int} {u v:Int} {f f':Bool} (hf:Fst [] (es ms T)) (h:Stp ms T u v l f) (h':Stp ms T u v l' f'):f=f'∧l=l':=by
 cases f with
 |true=>
  cases f' with
  |true=>exact ⟨rfl,Trail.uniq hf (h.yes rfl) (h'.yes rfl)⟩
  |false=>exact absurd (h.yes rfl) ((h'.no rfl).2 l)
 |false=>
  cases f' with
  |true=>exact absurd (h'.yes rfl) ((h.no rfl).2 l')
  |false=>exact ⟨rfl,by rw [(h.no rfl).1,(h'.no rfl).1]⟩
theorem aGA {α:Type} [DecidableEq α] (l:List Int) (f:Int→α) (h:¬(l.map f).Nodup):∃x s y t z,l=x++s::(y++t::z)∧f s=f t:=by
 induction l with
 |nil=>exact absurd List.nodup_nil h
 |cons s l ih=>
  by_cases hs:f s∈l.map f
  ·obtain ⟨t,ht,e⟩:=List.mem_map.1 hs
   obtain ⟨y,z,rfl⟩:=List.append_of_mem ht
   exact ⟨[],s,y,t,z,rfl,e.symm⟩
  ·obtain ⟨x,s2,y,t,z,rfl,e⟩:=ih (fun hn=>h (by rw [List.map_cons,List.nodup_cons];exact ⟨hs,hn⟩))
   exact ⟨s::x,s2,y,t,z,rfl,e⟩
theorem Trl.short {ms:List LK} {T:List Int} (n:Nat):∀(l:List Int) (u v:Int),l.length≤n→Trl ms l u v→(∀s∈l,sk s∈T)→∃l',Trail ms T l' u v:=by
 induction n with
 |zero=>
  intro l u v hl h hT
  have:l=[]:=List.eq_nil_of_length_eq_zero (by omega)
  subst this
  exact ⟨[],h,fun _ h=>absurd h (by simp),List.nodup_nil⟩
 |succ n ih=>
  intro l u v hl h hT
  by_cases hn:(l.map sk).Nodup
  ·exact ⟨l,h,hT,hn⟩
  ·obtain ⟨x,s,y,t,z,rfl,e⟩:=aGA l sk hn
   obtain ⟨w,h1,h2⟩:=Trl.app.1 h
   obtain ⟨hs0,rfl,h3⟩:=h2.inv
   obtain ⟨w2,h4,h5⟩:=Trl.app.1 h3
   obtain ⟨ht0,rfl,h6⟩:=h5.inv
   rcases aBX e hs0 ht0 with e1|e1
   ·subst e1
    refine ih (x++s::z) u v (by simp at hl ⊢;omega) (Trl.app.2 ⟨_,h1, .cons hs0 h6⟩) (fun s' hs'=>hT s' ?_)
    simp at hs' ⊢
    rcases hs' with h|h|h
    ·exact .inl h
    ·exact .inr (.inl h)
    ·exact .inr (.inr (.inr (.inr h)))
   ·have e2:sb ms t=sa ms s:=by rw [e1,wH ht0]
    rw [e2] at h6
    refine ih (x++z) u v (by simp at hl ⊢;omega) (Trl.app.2 ⟨_,h1,h6⟩) (fun s' hs'=>hT s' ?_)
    simp at hs' ⊢
    rcases hs' with h|h
    ·exact .inl h
    ·exact .inr (.inr (.inr (.inr h)))
theorem Con.trl {ms:List LK} {T:List Int} (hr:∀k∈T,0≤k) {u v:Int} (h:Con (es ms T) u v):∃l,Trl ms l u v∧∀s∈l,sk s∈T:=by
 have rev:∀l u v,Trl ms l u v→(∀s∈l,sk s∈T)→∃l',Trl ms l' v u∧∀s∈l',sk s∈T:=by
  intro l
  induction l with
  |nil=>intro u v h _;have:=h.nil_inv;subst this;exact ⟨[], .nil _,fun _ h=>absurd h (by simp)⟩
  |cons s l ih=>
   intro u v h hT
   obtain ⟨h0,rfl,h1⟩:=h.inv
   obtain ⟨l',h2,h3⟩:=ih _ _ h1 (fun x hx=>hT x (by simp [hx]))
   refine ⟨l'++[-s],Trl.app.2 ⟨_,h2,?_⟩,fun x hx=>?_⟩
   ·have:=Trl.cons (ms:=ms) (s:= -s) (l:=[]) (by omega) (.nil _)
    rwa [wH h0,aOB h0] at this
   ·rcases List.mem_append.1 hx with h|h
    ·exact h3 x h
    ·rw [List.mem_singleton.1 h]
     have:=hT s (by simp)
     have e:sk (-s)=sk s:=by unfold sk;split <;>split <;>omega
     rwa [e]
 induction h with
 |refl x=>exact ⟨[], .nil _,fun _ h=>absurd h (by simp)⟩
 | @link a b hab=>
  obtain ⟨k,hk,e⟩:=List.mem_map.1 hab
  have e1:(gt ms k).a=a:=congrArg Prod.fst e
  have e2:(gt ms k).b=b:=congrArg Prod.snd e
  obtain ⟨f0,f1,f2,f3⟩:=fwd (ms:=ms) (hr k hk)
  have:=Trl.cons (ms:=ms) (s:=k+1) (l:=[]) f0 (.nil _)
  rw [f2,f3,e1,e2] at this
  exact ⟨[k+1],this,fun x hx=>by rw [List.mem_singleton.1 hx,f1];exact hk⟩
 |symm _ ih=>obtain ⟨l,h1,h2⟩:=ih;exact rev l _ _ h1 h2
 |trans _ _ ih1 ih2=>
  obtain ⟨l1,h1,h2⟩:=ih1
  obtain ⟨l2,h3,h4⟩:=ih2
  exact ⟨l1++l2,Trl.app.2 ⟨_,h1,h3⟩,fun s hs=>(List.mem_append.1 hs).elim (h2 s) (h4 s)⟩
def bal (ms:List LK) (l:List Int) (x:Int):Int:=wQ (l.map (fun s=>(if sb ms s=x then 1 else 0) - (if sa ms s=x then 1 else 0)))
end Go.Proofs.Ytejbgkajdomgcaa
namespace Go.Proofs.Ytejbgkajdomgcaa
open Go Go.Fx
section
variable {X:List Nat} {w0:World} {M0:List Ent} {I0:List aO}
theorem aFY {p q:Option Addr} {n m c t ct:Nat} {ms:List LK} {T l0:List Int} {u v:Int} (hn:n≤256) (hm:ms.length=m) (hm2:m≤1024) (hg:Gd ms n) (hT:T.length=t) (ht:t≤1000) (hr:uH m T) (hf:Fst [] (es ms T)) (h0:Trail ms T l0 u v) (hu:0≤u∧u < n) (hv:0≤v∧v < n) (hp:aN p (recs eK ms)∈I0) (hq:aN q (recs (eI .i64) T)∈I0):
  CD Try.prog 21 [gv n p m c, .slice q t ct, .int .i64 u, .int .i64 v] X w0 M0 I0 (fun r M I=>M0=M∧∃(q2:Option Addr) (c2:Nat) (l:List (Int × Bool)),r= .tuple #[.slice q2 l.length c2, .bool true]∧l.map oD=l0∧(∀x∈l,0≤x.1)∧I=aN q2 (recs eS l)::I0):=
 CD.mono (aJI hn hm hm2 hg hT ht hr hu hv hp hq) (fun r M I h=>by
  obtain ⟨h1,q2,c2,l,f,rfl,h2,h3,h4⟩:=h
  obtain ⟨rfl,h5⟩:=h2.both hf (Stp.of h0)
  exact ⟨h1,q2,c2,l,rfl,h5,h3,h4⟩)
end
end Go.Proofs.Ytejbgkajdomgcaa
namespace Go.Proofs.Ytejbgkajdomgcaa
open Go Go.Fx
theorem nS:∀(a b:List Int),a.Nodup→(∀x∈a,x∈b)→a.length≤b.length
 |[],_,_,_=>Nat.zero_le _
 |x::a,b,h,hs=>by
  rw [List.nodup_cons] at h
  have h1:=List.length_erase_of_mem (hs x (by simp))
  have h2:=nS a (b.erase x) h.2 (fun y hy=>by
   refine (List.mem_erase_of_ne (fun e=>?_)).2 (hs y (by simp [hy]))
   subst e;exact h.1 hy)
  have h3:0 < b.length:=List.length_pos_of_mem (hs x (by simp))
  rw [List.length_cons]
  omega
theorem Trail.len {ms:List LK} {T l:List Int} {u v:Int} (h:Trail ms T l u v):l.length≤T.length:=by
 have:=nS (l.map sk) T h.nod (fun x hx=>by
  obtain ⟨s,hs,rfl⟩:=List.mem_map.1 hx
  exact h.mem s hs)
 rwa [List.length_map] at this
section
variable {X:List Nat} {w0:World} {M0:List Ent} {I0:List aO}
end
end Go.Proofs.Ytejbgkajdomgcaa
namespace Go.Proofs.Ytejbgkajdomgcaa
open Go Go.Fx
theorem aCK {l:List Int} (h:asc l) {i j:Int} (hi:0≤i) (hij:i < j) (hj:j < l.length):gt l i < gt l j:=by
 obtain ⟨a,rfl⟩:∃a:Nat,i=a:=⟨i.toNat,by omega⟩
 obtain ⟨b,rfl⟩:∃b:Nat,j=b:=⟨j.toNat,by omega⟩
 rw [aP (by omega),aP (by omega)]
 exact List.pairwise_iff_getElem.1 h a b (by omega) (by omega) (by omega)
structure CY where
 p:Option Addr
 c:Nat
 es:List Int
instance:Inhabited CY:=⟨⟨none,0,[]⟩⟩
abbrev eC (r:CY):List Value:=[.slice r.p r.es.length r.c]
instance:Sized eC 1:=⟨fun _=>rfl⟩
instance:Ones eC:=⟨fun m u hu=>by simp only [eC,List.mem_cons,List.not_mem_nil,or_false] at hu;subst hu;rfl⟩
structure AllC (rows:List CY) (X:List Nat) (w:World):Prop where
 go:∀r∈rows,Sl X w r.p (recs (eI .i64) r.es)
abbrev yU (rows:List CY):aO:=AllC rows
instance (rows:List CY):Fx.Good (AllC rows):=⟨fun X Y w w' h he hY=>⟨fun r hr=>Sl.carry (h.go r hr) he hY⟩⟩
structure Hv (I:List aO) (φ:aO):Prop where
 go:∀(X:List Nat) (w:World),(∀ψ∈I,ψ X w)→φ X w
theorem Hv.cnil {I:List aO}:Hv I (yU []):=⟨fun _ _ _=>⟨fun r hr=>absurd hr List.not_mem_nil⟩⟩
theorem Hv.cat {I:List aO} {rows:List CY} {i:Int} (h:yU rows∈I) (hi:0≤i∧i < rows.length):Hv I (aN (gt rows i).p (recs (eI .i64) (gt rows i).es)):=⟨fun X w hw=>⟨(hw _ h:AllC rows X w).go _ (eO hi)⟩⟩
theorem Hv.csnoc {I:List aO} {rows:List CY} {r:CY} (h:yU rows∈I) (hr:aN r.p (recs (eI .i64) r.es)∈I):Hv I (yU (rows++[r])):=⟨fun X w hw=>⟨fun x hx=>by
 rcases List.mem_append.1 hx with h1|h1
 ·exact (hw _ h:AllC rows X w).go x h1
 ·rw [List.mem_singleton.1 h1];exact (hw _ hr:SlI _ _ X w).go⟩⟩
section
variable {P:Program} {n:Nat} {Q:Exit→Act→World→Prop} {G:Env} {X:List Nat} {w0:World} {M M':List Ent} {I I':List aO}
theorem Mem.hv {w:World} {φ:aO} [Fx.Good φ] (h:Hv I φ) (hw:Mem X w0 M I w):Mem X w0 M (φ::I) w:=hw.add (φ:=φ) (h.go _ _ (fun ψ hm=>(hw.imm ψ hm).2))
theorem aEH {c:Code} {φ:aO} [Fx.Good φ] (h:Hv I φ) (k:TD P n c Q G X w0 M (φ::I)):TD P n c Q G X w0 M I:=aGY (fun _ hw=>Mem.hv h hw) k
theorem aJC {ops l:List Oper} {m:Fx.Mode} {φ:aO} [Fx.Good φ] (h:Hv I φ) (k:RD P n ops Q m l G X w0 M (φ::I)):RD P n ops Q m l G X w0 M I:=aJO (fun _ hw=>Mem.hv h hw) k
theorem ND_hv {ex:Exit} {φ:aO} [Fx.Good φ] (h:Hv I φ) (k:ND n Q ex G X w0 M (φ::I)):ND n Q ex G X w0 M I:=zO (fun _ hw=>Mem.hv h hw) k
end
section
variable {X:List Nat} {w0:World} {M0:List Ent} {I0:List aO}
theorem aLM {x:Int}:CD Try.prog 49 [.int .i64 x] X w0 M0 I0 (fun v M I=>M0=M∧I0=I∧v= .bool false):=by
 refine eZ Try.func49 rfl Try.ntmps49 rfl ?_
 repeat refine aD ?_
 refine lL rfl rfl (⟨rfl,rfl,congrArg Value.bool (bQ (by omega))⟩)
theorem aMY {x:Int}:CD Try.prog 37 [.int .i64 x] X w0 M0 I0 (fun v M I=>M0=M∧I0=I∧v= .bool false):=by
 refine eZ Try.func37 rfl Try.ntmps37 rfl ?_
 repeat refine aD ?_
 refine lL rfl rfl (⟨rfl,rfl,congrArg Value.bool (bQ (by omega))⟩)
theorem aNC {x y:Int}:CD Try.prog 36 [.int .i64 x, .int .i64 y] X w0 M0 I0 (fun v M I=>M0=M∧I0=I∧v= .bool (B (x < y))):=by
 refine bO Try.func36 rfl Try.ntmps36 rfl ?_
 repeat refine aD ?_
 refine iM rfl (aLM) ?_
 repeat refine aD ?_
 refine lL rfl rfl (⟨rfl,rfl,rfl⟩)
theorem uG {p:Option Addr} {T:List Int} {t c:Nat} {x:Int} (hT:T.length=t) (ht:t≤1000) (ha:asc T) (hp:aN p (recs (eI .i64) T)∈I0):
  CD Try.prog 20 [.slice p t c, .int .i64 x] X w0 M0 I0 (fun v M I=>M0=M∧I0=I∧∃(r:Int) (f:Bool),v= .tuple #[.int .i64 r, .bool f]∧(f=true↔x∈T)):=by
 refine bO Try.func20 rfl Try.ntmps20 rfl ?_
 repeat refine aD ?_
 refine qU [0,1,6] rfl (fun k G M I=>∃(i j:Int),0≤i∧i≤j∧j≤t∧k=(j - i).toNat∧(∀q:Int,0≤q→q < i→gt T q < x)∧(∀q:Int,j≤q→q < t→x≤gt T q)∧G=[(7, .int .i64 i),(8, .int .i64 j)]∧M0=M∧I0=I) (t) (⟨0,t,by omega,by omega,by omega,by omega,fun q h1 h2=>by omega,fun q h1 h2=>by omega,rfl,rfl,rfl⟩) ?_
 rintro kk G M I ⟨i,j,hi,hij,hj,rfl,h1,h2,rfl,rfl,rfl⟩
 by_cases hlt:i < j
 ·repeat refine aD ?_
  refine iM rfl (aNC) ?_
  by_cases hx:gt T ((i+j) / 2) < x
  ·rw [dX hx]
   repeat refine aD ?_
   refine mI ((j - ((i+j) / 2+1)).toNat) (⟨(i+j) / 2+1,j,by omega,by omega,by omega,rfl,fun q h3 h4=>?_,h2,rfl,rfl,rfl⟩)
   by_cases e:q=(i+j) / 2
   ·rw [e];exact hx
   ·have:=aCK ha h3 (show q < (i+j) / 2 by omega) (by omega)
    omega
  ·rw [bQ hx]
   repeat refine aD ?_
   refine mI (((i+j) / 2 - i).toNat) (⟨i,(i+j) / 2,by omega,by omega,by omega,rfl,h1,fun q h3 h4=>?_,rfl,rfl,rfl⟩)
   by_cases e:q=(i+j) / 2
   ·rw [e];omega
   ·have:=aCK ha (show 0≤(i+j) / 2 by omega) (show (i+j) / 2 < q by omega) (by omega)
    omega
 ·obtain rfl:i=j:=by omega
  by_cases hit:i < t
  ·by_cases hx:gt T i=x
   ·repeat refine aD ?_
    refine eY [4,5] (by first|exact .inl rfl|exact .inr rfl) rfl rfl rfl _ _ bN bR (⟨rfl,rfl,_,_,rfl,⟨fun _=>hx ▸ eO ⟨hi,by omega⟩,fun _=>rfl⟩⟩)
   ·repeat refine aD ?_
    refine iM rfl (aMY) ?_
    repeat refine aD ?_
    refine eY [4,5] (by first|exact .inl rfl|exact .inr rfl) rfl rfl rfl _ _ bN bR (⟨rfl,rfl,_,_,rfl,⟨fun h=>absurd h (by decide),fun h=>?_⟩⟩)
    obtain ⟨q,hq,rfl⟩:=List.mem_iff_getElem.1 h
    rw [←aP hq] at hx h1 h2
    by_cases e1:(q:Int) < i
    ·have:=h1 q (by omega) e1
     omega
    ·by_cases e2:(q:Int)=i
     ·rw [e2] at hx;exact absurd rfl hx
     ·have h3:=aCK ha hi (show i < q by omega) (by omega)
      have h4:=h2 i (by omega) (by omega)
      omega
  ·repeat refine aD ?_
   refine eY [4,5] (by first|exact .inl rfl|exact .inr rfl) rfl rfl rfl _ _ bN bR (⟨rfl,rfl,_,_,rfl,⟨fun h=>absurd h (by decide),fun h=>?_⟩⟩)
   obtain ⟨q,hq,rfl⟩:=List.mem_iff_getElem.1 h
   rw [←aP hq] at h1
   have:=h1 q (by omega) (by omega)
   omega
end
end Go.Proofs.Ytejbgkajdomgcaa

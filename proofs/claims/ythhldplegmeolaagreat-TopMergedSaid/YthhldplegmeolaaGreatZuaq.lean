/- matrix.reduce Matrices and lists of fractions that are only read: facts about memory; matr -/
import Derived.Test.YthhldplegmeolaaGreatZuap
import Derived.Test.YthhldplegmeolaaGreatZual
import Derived.Test.YthhldplegmeolaaGreatZuao
set_option linter.unusedSimpArgs false
set_option linter.unusedVariables false
set_option maxRecDepth 100000
set_option maxHeartbeats 4000000
namespace Go.Proofs.YthhldplegmeolaaGreat
open Go Go.Fx
def kb (k:Nat):Nat→Nat
 |0=>k
 |n+1=>4*kb k n+1
theorem yI (k:Nat) {m n:Nat} (h:m≤n):kb k m≤kb k n:=by
 induction n with
 | zero => obtain rfl : m = 0 := by omega
           exact Nat.le_refl _
 |succ n ih=>
  by_cases e:m=n+1
  ·subst e;exact Nat.le_refl _
  ·have:=ih (by omega)
   show kb k m≤4*kb k n+1
   omega
abbrev zs (pv:List Nat):List Int:=pv.map (fun (x:Nat)=>(x:Int))
abbrev eZ:Int→List Value:=eI .i64
theorem aLM {rows:List MR} {i:Nat} (h:i < rows.length) {A B:Ent} {M1:List Ent}:(A::B::(rows.map eQ++M1)).Perm (eQ (gt rows (i:Int))::A::B::((rows.eraseIdx i).map eQ++M1)):=by
 have h1:(rows.map eQ).Perm (eQ (gt rows (i:Int))::(rows.eraseIdx i).map eQ):=by
  have:=(nC rows i h).map eQ
  rwa [List.map_cons,←dM h] at this
 have h2:(rows.map eQ++M1).Perm (eQ (gt rows (i:Int))::((rows.eraseIdx i).map eQ++M1)):=h1.append_right M1
 exact ((List.Perm.cons _ (List.Perm.cons _ h2)).trans (List.Perm.cons _ (List.Perm.swap _ _ _))).trans (List.Perm.swap _ _ _)
theorem foc2 {rows:List MR} {i j:Nat} (hi:i < rows.length) (hj:j < rows.length) (hij:i≠j) {A B:Ent} {M1:List Ent}:(A::B::(rows.map eQ++M1)).Perm (eQ (gt rows (i:Int))::eQ (gt rows (j:Int))::A::B::((mH rows i j).map eQ++M1)):=by
 have h1:(rows.map eQ).Perm (eQ (gt rows (i:Int))::eQ (gt rows (j:Int))::(mH rows i j).map eQ):=by
  have:=(sG rows i j hi hj hij).map eQ
  rwa [List.map_cons,List.map_cons,←dM hi,←dM hj] at this
 have h2:(rows.map eQ++M1).Perm (eQ (gt rows (i:Int))::eQ (gt rows (j:Int))::((mH rows i j).map eQ++M1)):=h1.append_right M1
 refine (List.Perm.cons _ (List.Perm.cons _ h2)).trans ?_
 generalize eQ (gt rows (i:Int))=x
 generalize eQ (gt rows (j:Int))=y
 generalize (mH rows i j).map eQ++M1=r
 have e1:(A::B::x::y::r).Perm (x::A::B::y::r):=(List.Perm.cons _ (List.Perm.swap _ _ _)).trans (List.Perm.swap _ _ _)
 have e2:(A::B::y::r).Perm (y::A::B::r):=(List.Perm.cons _ (List.Perm.swap _ _ _)).trans (List.Perm.swap _ _ _)
 exact e1.trans (List.Perm.cons _ e2)
theorem swap_perm {rows:List MR} {r k:Nat} (hr:r < rows.length) (hk:k < rows.length):(st (st rows (r:Int) (gt rows (k:Int))) (k:Int) (gt rows (r:Int))).Perm rows:=by
 unfold st
 simp only [Int.toNat_natCast]
 by_cases h:r=k
 ·subst h
  rw [dM hr,List.set_getElem_self,List.set_getElem_self]
 ·have hr':r < ((rows.set r (gt rows (k:Int))).set k (gt rows (r:Int))).length:=by simpa using hr
  have hk':k < ((rows.set r (gt rows (k:Int))).set k (gt rows (r:Int))).length:=by simpa using hk
  have h1:=sG _ r k hr' hk' h
  have h2:=sG rows r k hr hk h
  have e:mH ((rows.set r (gt rows (k:Int))).set k (gt rows (r:Int))) r k=mH rows r k:=by
   have h3:=wU (rows.set r (gt rows (k:Int))) k r (gt rows (r:Int)) (Ne.symm h)
   have h4:=wU rows r k (gt rows (k:Int)) h
   have c:∀l:List MR,mH l k r=mH l r k:=fun l=>by unfold mH;rw [Nat.max_comm,Nat.min_comm]
   rw [c,c,h4] at h3
   exact h3
  rw [e] at h1
  have g1:((rows.set r (gt rows (k:Int))).set k (gt rows (r:Int)))[r]'hr'=rows[k]:=by
   rw [List.getElem_set_ne (Ne.symm h),List.getElem_set_self,dM hk]
  have g2:((rows.set r (gt rows (k:Int))).set k (gt rows (r:Int)))[k]'hk'=rows[r]:=by
   rw [List.getElem_set_self,dM hr]
  rw [g1,g2] at h1
  exact (h1.trans (List.Perm.swap _ _ _)).trans h2.symm
theorem Hv.elM {I:List aN} {rows:List MR} {i j:Int} {k m:Nat} (h:allM rows k∈I) (hi:0≤i∧i < rows.length) (hj:0≤j∧j < (gt rows i).es.length) (hk:k≤m):Hv I (bE (gt (gt rows i).es j) m):=
 ⟨fun X w hw=>((hw _ h:AllM rows k X w).go _ (cB hi) _ (cB hj)).mono hk⟩
theorem Hv.rowMm {I:List aN} {rows:List MR} {i:Int} {k m:Nat} (h:allM rows k∈I) (hi:0≤i∧i < rows.length) (hk:k≤m):Hv I (aX (gt rows i).es m):=⟨fun X w hw=>⟨fun e he=>((hw _ h:AllM rows k X w).go _ (cB hi) e he).mono hk⟩⟩
theorem Hv.permM {I:List aN} {rows rows':List MR} {k:Nat} (h:allM rows k∈I) (hp:rows'.Perm rows):Hv I (allM rows' k):=⟨fun X w hw=>⟨fun r hr=>(hw _ h:AllM rows k X w).go r (hp.mem_iff.1 hr)⟩⟩
theorem Hv.setM {I:List aN} {rows:List MR} {i:Nat} {b:Nat} {es:List RE} {k m K:Nat} (h:allM rows k∈I) (h2:aX es m∈I) (hk:k≤K) (hm:m≤K):Hv I (allM (rows.set i ⟨b,es⟩) K):=⟨fun X w hw=>⟨fun r hr e he=>by
 rcases List.mem_or_eq_of_mem_set hr with hr|hr
 ·exact ((hw _ h:AllM rows k X w).go r hr e he).mono hk
 ·subst hr;exact ((hw _ h2:AllR es m X w).go e he).mono hm⟩⟩
theorem Hv.monoM {I:List aN} {rows:List MR} {k m:Nat} (h:allM rows k∈I) (hk:k≤m):Hv I (allM rows m):=⟨fun X w hw=>⟨fun r hr e he=>((hw _ h:AllM rows k X w).go r hr e he).mono hk⟩⟩
theorem jG {a b:List Rat} (hl:a.length=b.length) (h:∀t:Nat,t < a.length→a.getD t 0=b.getD t 0):a=b:=by
 apply List.ext_getElem hl
 intro t h1 h2
 have:=h t h1
 simpa [List.getD,h1,h2] using this
theorem aNK {er e1:List RE} {κ:Rat} {j C:Nat} (h1:e1.length=C) (hr:er.length=C) (hd:∀t:Nat,t < C→(gt e1 (t:Int)).q=if t < j then (gt er (t:Int)).q else κ*(gt er (t:Int)).q):qs e1=gJ j κ (qs er):=by
 apply jG
 ·simp [gJ,h1,hr]
 ·intro t ht
  have ht':t < C:=by simpa [h1] using ht
  rw [bT (by omega),hd t ht']
  unfold gJ
  rw [dM (show t < er.length by omega)]
  simp [List.getD,show t < er.length by omega]
theorem aQJ {rows4 rows3:List MR} {R r j br:Nat} {e1:List RE} (h4:rows4.length=R) (h3:rows3.length=R) (hr:r < R) (hg4:(gt rows4 (r:Int)).es=e1) (hg3:gt rows3 (r:Int)=⟨br,e1⟩)
  (hd:∀t:Nat,t < R→t≠r→qs (gt rows4 (t:Int)).es=if at2 (mq rows3) t j=0 then qs (gt rows3 (t:Int)).es else nJ j (at2 (mq rows3) t j) (qs e1) (qs (gt rows3 (t:Int)).es)):
  mq rows4=tL (mq rows3) r j (qs e1):=by
 unfold tL
 apply List.ext_getElem
 ·simp [h4,h3]
 ·intro t h1 h2
  have ht:t < R:=by simpa [h4] using h1
  have e4:(mq rows4)[t]=qs (gt rows4 (t:Int)).es:=by rw [dM (by omega)];simp
  have e3:(mq rows3)[t]'(by simp;omega)=qs (gt rows3 (t:Int)).es:=by rw [dM (by omega)];simp
  have ea:at2 (mq rows3) t j=(qs (gt rows3 (t:Int)).es).getD j 0:=by unfold at2;rw [rZ (by omega)]
  rw [e4,List.getElem_mapIdx,e3]
  by_cases htr:t=r
  ·subst htr
   rw [if_pos rfl,hg4,hg3]
  ·rw [if_neg htr,hd t ht htr,ea]
theorem aRT {es ps e1:List RE} {κ:Rat} {j C:Nat} (h1:e1.length=C) (hr:es.length=C) (hp:ps.length=C) (hd:∀t:Nat,t < C→(gt e1 (t:Int)).q=if t < j then (gt es (t:Int)).q else (gt es (t:Int)).q - κ*(gt ps (t:Int)).q):qs e1=nJ j κ (qs ps) (qs es):=by
 apply jG
 ·simp [nJ,h1,hr]
 ·intro t ht
  have ht':t < C:=by simpa [h1] using ht
  rw [bT (by omega),hd t ht']
  unfold nJ
  rw [dM (show t < es.length by omega),dM (show t < ps.length by omega)]
  simp [List.getD,show t < es.length by omega,show t < ps.length by omega]
section
variable {X:List Nat} {w0:World} {M0:List Ent} {I0:List aN}
def RdP (bo R C:Nat) (A:Mt) (n K:Nat) (M1:List Ent) (I0:List aN) (v:Value) (M:List Ent) (I:List aN):Prop:=
 ∃(rows:List MR) (pv:List Nat) (q:Option Addr) (c:Nat),v= .slice q pv.length c∧rows.length=R∧(∀r∈rows,r.es.length=C)∧nZ A n=(mq rows,pv)∧pv.length≤R∧
  M= .row q pv.length c (recs eZ (zs pv)) 3 1:: .blk bo (recs eM rows) 24::(rows.map eQ++M1)∧I=allM rows K::I0
theorem aBC {bo R C n k0:Nat} {rows:List MR} {M1:List Ent} (hR:rows.length=R) (hRb:R≤100) (hCb:C≤200) (hC:∀r∈rows,r.es.length=C) (hn:n≤C) (hk:kb k0 n≤50000000000) (hA:allM rows k0∈I0)
  (hM:M0= .blk bo (recs eM rows) 24::(rows.map eQ++M1)):
  CD Tryz.prog 102 [.slice (some ⟨bo,0,none⟩) R R, .int .i64 (n:Int)] X w0 M0 I0 (RdP bo R C (mq rows) n (kb k0 n) M1 I0):=by
 subst hM
 refine aP Tryz.func102 rfl Tryz.ntmps102 rfl ?_
 repeat' (first|refine aM ?_|refine aI rfl (fun h=>?_) (fun h=>?_)|refine aH rfl rfl (fun h=>?_) (fun h=>?_)|fail)
 refine jM 3 1 ?_
 refine bN (φ:=allM rows (kb k0 0)) (Hv.mem hA) ?_
 refine pU [0,12] rfl (fun k G M I=>∃(j r:Nat) (rows1:List MR) (pv:List Nat) (q:Option Addr) (c:Nat),j≤n∧k=n - j∧pv.length=r∧rows1.length=R∧(∀r∈rows1,r.es.length=C)∧nZ (mq rows) j=(mq rows1,pv)∧r≤R∧r≤j∧G=[(5, .slice q r c),(13, .int .i64 j)]∧M= .row q r c (recs eZ (zs pv)) 3 1:: .blk bo (recs eM rows1) 24::(rows1.map eQ++M1)∧I=allM rows1 (kb k0 j)::I0) (n) (⟨0,0,rows,[],none,0,by omega,rfl,rfl,hR,hC,rfl,by omega,by omega,rfl,rfl,rfl⟩) ?_
 rintro k G M I ⟨j,r,rows1,pv,q,c,hj,rfl,hr,hl1,hC1,hred,hpv,hpj,rfl,rfl,rfl⟩
 by_cases hjn:j < n
 ·have hzl:(zs pv).length=r:=by simp [hr]
  have hkj:kb k0 (j+1)≤50000000000:=Nat.le_trans (yI k0 (by omega)) hk
  have hkj1:kb k0 (j+1)=4*kb k0 j+1:=rfl
  obtain ⟨kj,hkj0⟩:∃x,kb k0 j=x:=⟨_,rfl⟩
  rw [hkj0] at hkj1 ⊢
  have hCg:∀x:Nat,x < R→(gt rows1 (x:Int)).es.length=C:=fun x hx=>hC1 _ (cB (by omega))
  repeat' (first|refine aM ?_|refine aI rfl (fun h=>?_) (fun h=>?_)|refine aH rfl rfl (fun h=>?_) (fun h=>?_)|fail)
  refine pU [0,5,6,7,12,13] rfl (fun k G M I=>∃(x:Nat),r≤x∧x≤R∧k=R - x∧lZ (mq rows1) j (R - x) x=lZ (mq rows1) j (R - r) r∧G=[(8, .int .i64 x)]∧M= .row q r c (recs eZ (zs pv)) 3 1:: .blk bo (recs eM rows1) 24::(rows1.map eQ++M1)∧I=allM rows1 kj::I0) (R - r) (⟨r,by omega,by omega,by omega,rfl,rfl,rfl,rfl⟩) ?_
  rintro k G M I ⟨x,hrx,hxR,rfl,hfx,rfl,rfl,rfl⟩
  have hlen1:(mq rows1).length=R:=by simp [hl1]
  by_cases hx:x < R∧at2 (mq rows1) x j=0
  ·obtain ⟨hx1,hx2⟩:=hx
   have hlx:=hCg x hx1
   have hat:=aDG (rows:=rows1) (i:=x) (j:=j) (by omega) (by omega)
   rw [hat] at hx2
   have hS:=jS (X:=X) (w0:=w0) (M0:= .blk (gt rows1 (x:Int)).b (recs eR (gt rows1 (x:Int)).es) 36:: .row q r c (recs eZ (zs pv)) 3 1:: .blk bo (recs eM rows1) 24::((rows1.eraseIdx x).map eQ++M1)) (I0:=allM rows1 kj::I0) (e:=gt (gt rows1 (x:Int)).es (j:Int)) (k:=kj) (by omega) (Hv.elM (List.Mem.head _) (by omega) (by omega) (Nat.le_refl _))
   rw [(oW _).2 hx2] at hS
   refine nX (aLM (rows:=rows1) (i:=x) (by omega)) ?_
   repeat' (first|refine aM ?_|refine aI rfl (fun h=>?_) (fun h=>?_)|refine aH rfl rfl (fun h=>?_) (fun h=>?_)|fail)
   (refine bA rfl (hS) ?_;rintro _ _ _ ⟨rfl,rfl,rfl⟩;refine aU ?_)
   repeat' (first|refine aM ?_|refine aI rfl (fun h=>?_) (fun h=>?_)|refine aH rfl rfl (fun h=>?_) (fun h=>?_)|fail)
   refine oC (aLM (rows:=rows1) (i:=x) (by omega)).symm ?_
   refine lN (R - (x+1)) (⟨x+1,by omega,by omega,rfl,?_,rfl,rfl,rfl⟩)
   rw [←hfx]
   obtain ⟨f,hf⟩:∃f,R - x=f+1:=⟨R - x - 1,by omega⟩
   rw [hf,show R - (x+1)=f by omega]
   conv=>rhs;unfold lZ
   rw [if_pos ⟨by omega,by rw [hat];exact hx2⟩]
  ·have hfx2:lZ (mq rows1) j (R - r) r=x:=by
    rw [←hfx]
    cases hf:R - x with
    |zero=>rfl
    |succ f=>
     unfold lZ
     rw [if_neg (fun h=>hx ⟨by omega,h.2⟩)]
   by_cases hxR2:x < R
   ·have hx2:at2 (mq rows1) x j≠0:=fun h=>hx ⟨hxR2,h⟩
    have hlx:=hCg x hxR2
    have hat:=aDG (rows:=rows1) (i:=x) (j:=j) (by omega) (by omega)
    rw [hat] at hx2
    have hS:=jS (X:=X) (w0:=w0) (M0:= .blk (gt rows1 (x:Int)).b (recs eR (gt rows1 (x:Int)).es) 36:: .row q r c (recs eZ (zs pv)) 3 1:: .blk bo (recs eM rows1) 24::((rows1.eraseIdx x).map eQ++M1)) (I0:=allM rows1 kj::I0) (e:=gt (gt rows1 (x:Int)).es (j:Int)) (k:=kj) (by omega) (Hv.elM (List.Mem.head _) (by omega) (by omega) (Nat.le_refl _))
    have hs0:¬(gt (gt rows1 (x:Int)).es (j:Int)).q.num.sign=0:=fun h=>hx2 ((oW _).1 h)
    generalize (gt (gt rows1 (x:Int)).es (j:Int)).q.num.sign=sg at*
    refine nX (aLM (rows:=rows1) (i:=x) (by omega)) ?_
    repeat' (first|refine aM ?_|refine aI rfl (fun h=>?_) (fun h=>?_)|refine aH rfl rfl (fun h=>?_) (fun h=>?_)|fail)
    (refine bA rfl (hS) ?_;rintro _ _ _ ⟨rfl,rfl,rfl⟩;refine aU ?_)
    clear hS
    repeat' (first|refine aM ?_|refine aI rfl (fun h=>?_) (fun h=>?_)|refine aH rfl rfl (fun h=>?_) (fun h=>?_)|fail)
    refine nX (aLM (rows:=rows1) (i:=x) (by omega)).symm ?_
    have hrR:r < R:=by omega
    (repeat refine aF ?_);refine aS 0 [0,1,2,3,4,5,6,7,8,9,10,11,12,13,14,15] [0,0,1,1,0,0,0,0,1,1,1,0,0,0,0,0] mixed (by kernel_rfl) ?_
    repeat refine yXf ?_
    refine nS rfl rfl rfl mW (StAt.r1 (gt rows1 (x:Int)) (by omega) rfl) rfl rfl ⟨okF,?_⟩
    repeat refine yXf ?_
    refine nS rfl rfl rfl mW (StAt.r1 (gt rows1 (r:Int)) (by rw [bP];omega) rfl) rfl rfl ⟨okF,?_⟩
    obtain ⟨rows2,hrows2⟩:∃rows2,rows2=st (st rows1 (r:Int) (gt rows1 (x:Int))) (x:Int) (gt rows1 (r:Int)):=⟨_,rfl⟩
    have hsp:=swap_perm (rows:=rows1) (r:=r) (k:=x) (by omega) (by omega)
    rw [←hrows2] at hsp ⊢
    have hl2:rows2.length=R:=by rw [hsp.length_eq];exact hl1
    have hC2:∀r∈rows2,r.es.length=C:=fun r hr=>hC1 r (hsp.mem_iff.1 hr)
    have hmq2:mq rows2=swp (mq rows1) r x:=by
     rw [hrows2]
     unfold st swp
     simp only [Int.toNat_natCast]
     rw [aGL,aGL,rZ (by omega),rZ (by omega)]
    have hpiv:(gt (gt rows2 (r:Int)).es (j:Int)).q≠0:=by
     have e:gt rows2 (r:Int)=gt rows1 (x:Int):=by
      rw [hrows2,aLW _ (by rw [bP];omega) (by omega),aLW _ (by omega) (by omega)]
      by_cases hxr:r=x
      ·subst hxr;rw [if_pos rfl]
      ·rw [if_neg (by omega),if_pos rfl]
     rw [e];exact hx2
    have hlr:(gt rows2 (r:Int)).es.length=C:=hC2 _ (cB (by omega))
    clear hrows2 hs0 hx2
    refine yC (M':= .row q r c (recs eZ (zs pv)) 3 1:: .blk bo (recs eM rows2) 24::(rows2.map eQ++M1)) (List.Perm.cons _ (List.Perm.cons _ ((hsp.symm.map eQ).append_right M1))) ?_
    refine iA (φ:=allM rows2 kj) (Hv.permM (List.Mem.head _) hsp) ?_
    repeat' (first|refine aM ?_|refine aI rfl (fun h=>?_) (fun h=>?_)|refine aH rfl rfl (fun h=>?_) (fun h=>?_)|fail)
    refine nX (aLM (rows:=rows2) (i:=r) (by omega)) ?_
    refine pE (fun G M I=>∃(b9:Nat) (e9:RE),e9.q=1 / (gt (gt rows2 (r:Int)).es (j:Int)).q∧G=[(0, .slice (some ⟨bo,0,none⟩) R R),(5, .slice q r c),(6, .int .i64 (j:Int)),(7, .int .i64 (r:Int)),(9, .pointer (some ⟨b9,0,none⟩)),(12, .int .i64 (n:Int)),(13, .int .i64 (j:Int))]∧M= .blk b9 (eR e9) 36:: .blk (gt rows2 (r:Int)).b (recs eR (gt rows2 (r:Int)).es) 36:: .row q r c (recs eZ (zs pv)) 3 1:: .blk bo (recs eM rows2) 24::((rows2.eraseIdx r).map eQ++M1)∧I=bE e9 (0+kj)::allM rows2 kj::I0) ?_ ?_
    ·have hW:=fun M0 I0=>kU (X:=X) (w0:=w0) (M0:=M0) (I0:=I0) (x:=1) (by decide) (k:=0) (by decide)
     have hEl:Hv (allM rows2 kj::allM rows1 kj::I0) (bE (gt (gt rows2 (r:Int)).es (j:Int)) kj):=Hv.elM (List.Mem.head _) (by omega) (by omega) (Nat.le_refl _)
     have hQ:=fun (e1:RE) M0 I0 h1 h2=>aFG (X:=X) (w0:=w0) (M0:=M0) (I0:=I0) (a:=e1) (b:=gt (gt rows2 (r:Int)).es (j:Int)) (k:=0) (m:=kj) (by omega) hpiv h1 h2
     ((repeat refine aF ?_);refine pF (.blk (gt rows2 (r:Int)).b (recs eR (gt rows2 (r:Int)).es) 36:: .row q r c (recs eZ (zs pv)) 3 1:: .blk bo (recs eM rows2) 24::((rows2.eraseIdx r).map eQ++M1)) (allM rows2 kj::I0) mixed ?_)
     refine jT (fuel:=4) (listed':=#[false,true,true,true,true,true,true,true,false,false,false]) [1,2,3,4,5,6,7] [3,3,3,3,3,3,2] aK aJ (by kernel_rfl) (by kernel_rfl) rfl rfl ?_
     repeat' (first|refine aM ?_|refine aI rfl (fun h=>?_) (fun h=>?_)|refine aH rfl rfl (fun h=>?_) (fun h=>?_)|fail)
     refine bW (fuel:=3) (i:=0) (j:=9) (by kernel_rfl) ?_ ?_
     ·refine gT rfl (hW _ _) (fun e1 he1=>?_)
      repeat' (first|refine aM ?_|refine aI rfl (fun h=>?_) (fun h=>?_)|refine aH rfl rfl (fun h=>?_) (fun h=>?_)|fail)
      refine bW (fuel:=2) (i:=8) (j:=9) (by kernel_rfl) ?_ ?_
      ·refine gT rfl (hQ e1 _ _ (Hv.mem (List.Mem.head _)) hEl.cons) (fun e9 he9=>?_)
       repeat' (first|refine aM ?_|refine aI rfl (fun h=>?_) (fun h=>?_)|refine aH rfl rfl (fun h=>?_) (fun h=>?_)|fail)
       refine bF [9,10] [0,0] aK aJ (by kernel_rfl) (by kernel_rfl) rfl rfl ?_
       refine dG (fun b9=>?_)
       repeat' (first|refine aM ?_|refine aI rfl (fun h=>?_) (fun h=>?_)|refine aH rfl rfl (fun h=>?_) (fun h=>?_)|fail)
       refine tyE ⟨b9,e9,by rw [he9,he1];rfl,rfl,rfl,rfl⟩
      ·refine dG (fun b9=>?_)
       repeat' (first|refine aM ?_|refine aI rfl (fun h=>?_) (fun h=>?_)|refine aH rfl rfl (fun h=>?_) (fun h=>?_)|fail)
       refine bF [8,10] [0,0] aK aJ (by kernel_rfl) (by kernel_rfl) rfl rfl ?_
       refine gT rfl (hQ e1 _ _ (Hv.mem (List.Mem.head _)) hEl.cons) (fun e9 he9=>?_)
       repeat' (first|refine aM ?_|refine aI rfl (fun h=>?_) (fun h=>?_)|refine aH rfl rfl (fun h=>?_) (fun h=>?_)|fail)
       refine tyE ⟨b9,e9,by rw [he9,he1];rfl,rfl,rfl,rfl⟩
     ·refine dG (fun b9=>?_)
      repeat' (first|refine aM ?_|refine aI rfl (fun h=>?_) (fun h=>?_)|refine aH rfl rfl (fun h=>?_) (fun h=>?_)|fail)
      refine bF [0,8,10] [0,0,0] aK aJ (by kernel_rfl) (by kernel_rfl) rfl rfl ?_
      refine gT rfl (hW _ _) (fun e1 he1=>?_)
      refine gT rfl (hQ e1 _ _ (Hv.mem (List.Mem.head _)) hEl.cons) (fun e9 he9=>?_)
      repeat' (first|refine aM ?_|refine aI rfl (fun h=>?_) (fun h=>?_)|refine aH rfl rfl (fun h=>?_) (fun h=>?_)|fail)
      refine tyE ⟨b9,e9,by rw [he9,he1];rfl,rfl,rfl,rfl⟩
    ·rintro G M I ⟨b9,e9,he9,rfl,rfl,rfl⟩
     obtain ⟨er,her⟩:∃e,(gt rows2 (r:Int)).es=e:=⟨_,rfl⟩
     rw [her]
     rw [her] at hlr hpiv he9
     refine bN (φ:=aX er (kj+kj)) (by rw [←her];exact Hv.rowMm (List.Mem.tail _ (List.Mem.head _)) (by omega) (by omega)) ?_
     repeat' (first|refine aM ?_|refine aI rfl (fun h=>?_) (fun h=>?_)|refine aH rfl rfl (fun h=>?_) (fun h=>?_)|fail)
     refine pU [0,5,6,7,9,12,13] rfl (fun k G M I=>∃(c2:Nat) (e1:List RE),j≤c2∧c2≤C∧k=C - c2∧e1.length=C∧(∀t:Nat,c2≤t→gt e1 (t:Int)=gt er (t:Int))∧(∀t:Nat,t < c2→(gt e1 (t:Int)).q=if t < j then (gt er (t:Int)).q else e9.q*(gt er (t:Int)).q)∧G=[(10, .int .i64 c2)]∧M= .blk b9 (eR e9) 36:: .blk (gt rows2 (r:Int)).b (recs eR e1) 36:: .row q r c (recs eZ (zs pv)) 3 1:: .blk bo (recs eM rows2) 24::((rows2.eraseIdx r).map eQ++M1)∧I=aX e1 (kj+kj)::bE e9 (0+kj)::allM rows2 kj::I0) (C - j) (⟨j,er,by omega,by omega,rfl,hlr,fun _ _=>rfl,fun t ht=>by rw [if_pos ht],rfl,rfl,rfl⟩) ?_
     rintro k G M I ⟨c2,e1,hc1,hc2,rfl,hel,hkeep,hdone,rfl,rfl,rfl⟩
     have hlr2:(gt rows2 (r:Int)).es.length=C:=by rw [her];exact hlr
     by_cases hcC:c2 < C
     ·have hgc:gt e1 (c2:Int)=gt er (c2:Int):=hkeep c2 (Nat.le_refl _)
      have hve:Hv (aX e1 (kj+kj)::bE e9 (0+kj)::allM rows2 kj::I0) (bE (gt e1 (c2:Int)) kj):=by rw [hgc,←her];exact Hv.elM (List.Mem.tail _ (List.Mem.tail _ (List.Mem.head _))) (by omega) (by omega) (Nat.le_refl _)
      have hQ:=fun M0=>jX (X:=X) (w0:=w0) (M0:=M0) (a:=e9) (b:=gt e1 (c2:Int)) (k:=0+kj) (m:=kj) (by omega) (Hv.mem (List.Mem.tail _ (List.Mem.head _))) hve
      rw [show 0+kj+kj=kj+kj by omega] at hQ
      repeat' (first|refine aM ?_|refine aI rfl (fun h=>?_) (fun h=>?_)|refine aH rfl rfl (fun h=>?_) (fun h=>?_)|fail)
      (repeat refine aF ?_);refine aS 1 [0,1,2,3,4,5,6,7,8,9,10,11,12,13,14,15] [1,1,1,1,1,0,1,1,1,1,1,1,0,0,0,0] mixed (by kernel_rfl) ?_
      repeat' (first|refine aM ?_|refine aI rfl (fun h=>?_) (fun h=>?_)|refine aH rfl rfl (fun h=>?_) (fun h=>?_)|fail)
      refine gT rfl (hQ _) (fun e2 he2=>?_)
      repeat refine yXf ?_
      refine iG (vs:=eR e2) rfl rfl rfl (Ones.one e2) mW (StAts.r e2 (by omega) rfl) rfl rfl ⟨okF,?_⟩
      repeat' (first|refine aM ?_|refine aI rfl (fun h=>?_) (fun h=>?_)|refine aH rfl rfl (fun h=>?_) (fun h=>?_)|fail)
      refine bX (φ:=aX (st e1 (c2:Int) e2) (kj+kj)) (Hv.stR aA aA) ?_
      refine lN (C - (c2+1)) (⟨c2+1,st e1 (c2:Int) e2,by omega,by omega,rfl,by rw [bP];exact hel,fun t ht=>by rw [oN (by omega),if_neg (by omega)];exact hkeep t (by omega),fun t ht=>?_,rfl,rfl,rfl⟩)
      rw [oN (by omega)]
      by_cases htj:t=c2
      ·subst htj
       rw [if_pos rfl,if_neg (by omega),he2,hgc]
      ·rw [if_neg htj];exact hdone t (by omega)
     ·obtain rfl:c2=C:=by omega
      have hpr:qs e1=gJ j (1 / at2 (mq rows2) r j) (rowAt (mq rows2) r):=by
       rw [aDG (by omega) (by omega),rZ (by omega),her,←he9]
       exact aNK hel hlr hdone
      obtain ⟨rows3,hrows3⟩:∃rows3,rows3=rows2.set r ⟨(gt rows2 (r:Int)).b,e1⟩:=⟨_,rfl⟩
      have hl3:rows3.length=R:=by rw [hrows3,List.length_set];exact hl2
      have hg3:gt rows3 (r:Int)=⟨(gt rows2 (r:Int)).b,e1⟩:=by rw [hrows3,dM (by simpa using (show r < rows2.length by omega))];simp
      have hh3:recs eM rows2=recs eM rows3:=by rw [hrows3];exact (xJ (by omega) (by rw [her,hlr,hel])).symm
      have he3:rows2.eraseIdx r=rows3.eraseIdx r:=by rw [hrows3,aAL]
      have hmq3:mq rows3=(mq rows2).set r (qs e1):=by rw [hrows3];exact aGL
      have hk3:∀t:Nat,t < R→t≠r→gt rows3 (t:Int)=gt rows2 (t:Int):=fun t ht htr=>by
       rw [hrows3,dM (by simpa using (show t < rows2.length by omega)),List.getElem_set_ne (Ne.symm htr)];exact (dM (by omega)).symm
      have hC3:∀t:Nat,t < R→(gt rows3 (t:Int)).es.length=c2:=fun t ht=>by
       by_cases htr:t=r
       ·subst htr;rw [hg3];exact hel
       ·rw [hk3 t ht htr];exact hC2 _ (cB (by omega))
      rw [hh3,he3]
      refine bN (φ:=allM rows3 (4*kj+1)) (by rw [hrows3];exact Hv.setM (k:=kj) (m:=kj+kj) aA aA (by omega) (by omega)) ?_
      refine aKZ (M':= .blk (gt rows2 (r:Int)).b (recs eR e1) 36:: .row q r c (recs eZ (zs pv)) 3 1:: .blk bo (recs eM rows3) 24::((rows3.eraseIdx r).map eQ++M1)) (I':=allM rows3 (4*kj+1)::aX e1 (kj+kj)::allM rows2 kj::I0) aK aJ ?_
      refine nX (M':= .row q r c (recs eZ (zs pv)) 3 1:: .blk bo (recs eM rows3) 24::(rows3.map eQ++M1)) (by have:=aLM (rows:=rows3) (i:=r) (by omega) (A:= .row q r c (recs eZ (zs pv)) 3 1) (B:= .blk bo (recs eM rows3) 24) (M1:=M1);rw [hg3] at this;exact this.symm) ?_
      clear hkeep hdone hh3 he3 hrows3
      have hlr3:(gt rows3 (r:Int)).es.length=c2:=hC3 r (by omega)
      repeat' (first|refine aM ?_|refine aI rfl (fun h=>?_) (fun h=>?_)|refine aH rfl rfl (fun h=>?_) (fun h=>?_)|fail)
      refine pU [0,5,6,7,12,13,89] rfl (fun k G M I=>∃(i:Nat) (rows4:List MR),i≤R∧k=R - i∧rows4.length=R∧(∀t:Nat,t < R→(gt rows4 (t:Int)).es.length=c2)∧(∀t:Nat,i≤t→t < R→gt rows4 (t:Int)=gt rows3 (t:Int))∧gt rows4 (r:Int)=⟨(gt rows2 (r:Int)).b,e1⟩∧(∀t:Nat,t < i→t≠r→qs (gt rows4 (t:Int)).es=if at2 (mq rows3) t j=0 then qs (gt rows3 (t:Int)).es else nJ j (at2 (mq rows3) t j) (qs e1) (qs (gt rows3 (t:Int)).es))∧G=[(90, .int .i64 i)]∧M= .row q r c (recs eZ (zs pv)) 3 1:: .blk bo (recs eM rows4) 24::(rows4.map eQ++M1)∧I=allM rows4 (4*kj+1)::aX e1 (kj+kj)::allM rows2 kj::I0) (R) (⟨0,rows3,by omega,by omega,hl3,hC3,fun _ _ _=>rfl,hg3,fun t ht=>by omega,rfl,rfl,rfl⟩) ?_
      rintro k G M I ⟨i,rows4,hi,rfl,hl4,hC4,hrest,hg4,hdone4,rfl,rfl,rfl⟩
      by_cases hiR:i < R
      ·have hgi:=hrest i (Nat.le_refl _) hiR
       by_cases hir:i=r
       ·subst hir
        repeat' (first|refine aM ?_|refine aI rfl (fun h=>?_) (fun h=>?_)|refine aH rfl rfl (fun h=>?_) (fun h=>?_)|fail)
        refine lN (R - (i+1)) (⟨i+1,rows4,by omega,rfl,hl4,hC4,fun t ht=>hrest t (by omega),hg4,fun t ht htr=>hdone4 t (by omega) htr,rfl,rfl,rfl⟩)
       ·have hlx:=hC4 i hiR
        have hgi2:gt rows4 (i:Int)=gt rows2 (i:Int):=by rw [hgi];exact hk3 i hiR hir
        have hat:at2 (mq rows3) i j=(gt (gt rows4 (i:Int)).es (j:Int)).q:=by rw [hgi];rw [hgi] at hlx;exact aDG (by omega) (by omega)
        have hlr4:(gt rows4 (r:Int)).es.length=c2:=hC4 r (by omega)
        have hlx0:=hlx
        have hEl:Hv (allM rows4 (4*kj+1)::aX e1 (kj+kj)::allM rows2 kj::I0) (bE (gt (gt rows4 (i:Int)).es (j:Int)) kj):=by rw [hgi2];exact Hv.elM (List.Mem.tail _ (List.Mem.tail _ (List.Mem.head _))) (by omega) (by rw [←hgi2];omega) (Nat.le_refl _)
        have hRw:Hv (allM rows4 (4*kj+1)::aX e1 (kj+kj)::allM rows2 kj::I0) (aX (gt rows4 (i:Int)).es kj):=by rw [hgi2];exact Hv.rowMm (List.Mem.tail _ (List.Mem.tail _ (List.Mem.head _))) (by omega) (Nat.le_refl _)
        have hRr:Hv (allM rows4 (4*kj+1)::aX e1 (kj+kj)::allM rows2 kj::I0) (aX (gt rows4 (r:Int)).es (kj+kj)):=by rw [hg4];exact Hv.mem (List.Mem.tail _ (List.Mem.head _))
        have hfoc:=foc2 (rows:=rows4) (i:=i) (j:=r) (by omega) (by omega) hir (A:= .row q r c (recs eZ (zs pv)) 3 1) (B:= .blk bo (recs eM rows4) 24) (M1:=M1)
        have hS:=fun M0=>jS (X:=X) (w0:=w0) (M0:=M0) (e:=gt (gt rows4 (i:Int)).es (j:Int)) (k:=kj) (by omega) hEl
        refine nX hfoc ?_
        by_cases hx0:(gt (gt rows4 (i:Int)).es (j:Int)).q=0
        ·rw [(oW _).2 hx0] at hS
         repeat' (first|refine aM ?_|refine aI rfl (fun h=>?_) (fun h=>?_)|refine aH rfl rfl (fun h=>?_) (fun h=>?_)|fail)
         refine dC rfl (hS _) ?_
         repeat' (first|refine aM ?_|refine aI rfl (fun h=>?_) (fun h=>?_)|refine aH rfl rfl (fun h=>?_) (fun h=>?_)|fail)
         refine oC hfoc.symm ?_
         refine lN (R - (i+1)) (⟨i+1,rows4,by omega,rfl,hl4,hC4,fun t ht=>hrest t (by omega),hg4,fun t ht htr=>?_,rfl,rfl,rfl⟩)
         by_cases hti:t=i
         ·subst hti
          rw [hat,if_pos hx0,hgi]
         ·exact hdone4 t (by omega) htr
        ·have hs0:¬(gt (gt rows4 (i:Int)).es (j:Int)).q.num.sign=0:=fun h=>hx0 ((oW _).1 h)
         have hSb:=fun M0 I0 h1 h2 h3=>aEN (X:=X) (w0:=w0) (M0:=M0) (I0:=I0) (b1:=(gt rows4 (i:Int)).b) (b2:=(gt rows4 (r:Int)).b) (es:=(gt rows4 (i:Int)).es) (os:=(gt rows4 (r:Int)).es) (κ:=gt (gt rows4 (i:Int)).es (j:Int)) (kz:=kj) (h:=kj+kj) (m:=kj) (fr:=j) (n:=c2) (M1:= .row q r c (recs eZ (zs pv)) 3 1:: .blk bo (recs eM rows4) 24::((mH rows4 i r).map eQ++M1)) (by omega) (by omega) hlx hlr4 (by omega) h1 h2 h3
         have hK:kj+(kj+(kj+kj))+1=4*kj+1:=by omega
         rw [hK] at hSb
         generalize (gt (gt rows4 (i:Int)).es (j:Int)).q.num.sign=sg at*
         repeat' (first|refine aM ?_|refine aI rfl (fun h=>?_) (fun h=>?_)|refine aH rfl rfl (fun h=>?_) (fun h=>?_)|fail)
         refine dC rfl (hS _) ?_
         repeat' (first|refine aM ?_|refine aI rfl (fun h=>?_) (fun h=>?_)|refine aH rfl rfl (fun h=>?_) (fun h=>?_)|fail)
         (repeat refine aF ?_);refine aBN 1 (.blk bo (recs eM rows4) 24::((mH rows4 i r).map eQ++M1)) (allM rows4 (4*kj+1)::aX e1 (kj+kj)::allM rows2 kj::I0) [0,1,2,3,4,5,6,7,8,9,10,11,12,13,14,15,16] [1,1,1,0,1,1,1,0,1,1,1,1,1,1,0,0,0] aK aJ mixed (by kernel_rfl) ?_
         repeat' (first|refine aM ?_|refine aI rfl (fun h=>?_) (fun h=>?_)|refine aH rfl rfl (fun h=>?_) (fun h=>?_)|fail)
         rw [hlx0,hlr4]
         refine iA (φ:=aX (gt rows4 (i:Int)).es kj) hRw ?_
         refine iA (φ:=bE (gt (gt rows4 (i:Int)).es (j:Int)) kj) hEl.cons ?_
         refine iA (φ:=aX (gt rows4 (r:Int)).es (kj+kj)) hRr.cons.cons ?_
         (refine kI rfl (hSb _ _ (List.Mem.tail _ (List.Mem.tail _ (List.Mem.head _))) (List.Mem.head _) (List.Mem.tail _ (List.Mem.head _)) rfl) rfl rfl ?_;rintro _ _ _ ⟨rfl,e5,hl5,hd5,rfl,rfl⟩;refine aU ?_)
         obtain ⟨rows5,hrows5⟩:∃rows5,rows5=rows4.set i ⟨(gt rows4 (i:Int)).b,e5⟩:=⟨_,rfl⟩
         have hl5':rows5.length=R:=by rw [hrows5,List.length_set];exact hl4
         have hh5:recs eM rows4=recs eM rows5:=by rw [hrows5];exact (xJ (by omega) (by rw [hlx0,hl5])).symm
         have hr5:mH rows4 i r=mH rows5 i r:=by rw [hrows5,wU _ _ _ _ hir]
         have hg5i:gt rows5 (i:Int)=⟨(gt rows4 (i:Int)).b,e5⟩:=by rw [hrows5,dM (by simpa using (show i < rows4.length by omega))];simp
         have hg5o:∀t:Nat,t < R→t≠i→gt rows5 (t:Int)=gt rows4 (t:Int):=fun t ht hti=>by
          rw [hrows5,dM (by simpa using (show t < rows4.length by omega)),List.getElem_set_ne (Ne.symm hti)];exact (dM (by omega)).symm
         have hf5:=foc2 (rows:=rows5) (i:=i) (j:=r) (by omega) (by omega) hir (A:= .row q r c (recs eZ (zs pv)) 3 1) (B:= .blk bo (recs eM rows5) 24) (M1:=M1)
         rw [hg5i,hg5o r (by omega) (Ne.symm hir)] at hf5
         rw [hh5,hr5]
         refine yC hf5.symm ?_
         refine iA (φ:=allM rows5 (4*kj+1)) (by rw [hrows5];exact Hv.setM (k:=4*kj+1) (m:=4*kj+1) aA aA (by omega) (by omega)) ?_
         repeat' (first|refine aM ?_|refine aI rfl (fun h=>?_) (fun h=>?_)|refine aH rfl rfl (fun h=>?_) (fun h=>?_)|fail)
         refine lN (R - (i+1)) (⟨i+1,rows5,by omega,rfl,hl5',fun t ht=>?_,fun t ht htR=>?_,?_,fun t ht htr=>?_,rfl,rfl,rfl⟩)
         ·by_cases hti:t=i
          ·subst hti;rw [hg5i];exact hl5
          ·rw [hg5o t ht hti];exact hC4 t ht
         ·rw [hg5o t htR (by omega)];exact hrest t (by omega) htR
         ·rw [hg5o r (by omega) (Ne.symm hir)];exact hg4
         ·by_cases hti:t=i
          ·subst hti
           rw [hg5i,hat,if_neg hx0,←hgi]
           rw [hg4] at hd5
           exact aRT hl5 hlx hel hd5
          ·rw [hg5o t (by omega) hti];exact hdone4 t (by omega) htr
      ·obtain rfl:i=R:=by omega
       have hmq4:mq rows4=vW (mq rows1) r j x:=by
        unfold vW
        rw [←hmq2,←hpr,←hmq3]
        exact aQJ hl4 hl3 (by omega) (by rw [hg4]) hg3 hdone4
       have e1:recs eZ (zs pv)++recs eZ [(j:Int)]=recs eZ (zs (pv++[j])):=by rw [←nL];exact congrArg (recs eZ) (List.map_append (f:=fun (x:Nat)=>(x:Int)) (l₁:=pv) (l₂:=[j])).symm
       repeat' (first|refine aM ?_|refine aI rfl (fun h=>?_) (fun h=>?_)|refine aH rfl rfl (fun h=>?_) (fun h=>?_)|fail)
       refine nG (cs:=recs eZ [(j:Int)]) ([.int .i64 (j:Int)]) rfl (fun b3=>?_)
       refine aON (len:=1) (news:=recs eZ [(j:Int)]) 1 rfl rfl rfl (Src.blk aA) (by decide) rfl (aAH (enc:=eZ) [(j:Int)]) (by omega) (by omega) rfl rfl ?_
       intro a2 c3
       refine aU ?_
       rw [e1]
       repeat' (first|refine aM ?_|refine aI rfl (fun h=>?_) (fun h=>?_)|refine aH rfl rfl (fun h=>?_) (fun h=>?_)|fail)
       refine bX (φ:=allM rows4 (kb k0 (j+1))) (Hv.monoM (List.Mem.head _) (by omega)) ?_
       refine lN (n - (j+1)) (⟨j+1,r+1,rows4,pv++[j],a2,c3,by omega,rfl,by simp [hr],hl4,fun s hs=>?_,?_,by omega,by omega,rfl,rfl,rfl⟩)
       ·obtain ⟨t,ht,rfl⟩:=List.mem_iff_getElem.1 hs
        have:=hC4 t (by omega)
        rwa [dM ht] at this
       ·rw [wS,hred]
        unfold aOK
        rw [hlen1,hr,hfx2,if_pos hxR2,hmq4]
   ·obtain rfl:x=R:=by omega
    repeat' (first|refine aM ?_|refine aI rfl (fun h=>?_) (fun h=>?_)|refine aH rfl rfl (fun h=>?_) (fun h=>?_)|fail)
    refine bX (φ:=allM rows1 (kb k0 (j+1))) (Hv.monoM (List.Mem.head _) (by omega)) ?_
    refine lN (n - (j+1)) (⟨j+1,r,rows1,pv,q,c,by omega,rfl,hr,hl1,hC1,?_,hpv,by omega,rfl,rfl,rfl⟩)
    rw [wS,hred]
    unfold aOK
    rw [hlen1,hr,hfx2,if_neg (by omega)]
 ·obtain rfl:j=n:=by omega
  repeat' (first|refine aM ?_|refine aI rfl (fun h=>?_) (fun h=>?_)|refine aH rfl rfl (fun h=>?_) (fun h=>?_)|fail)
  subst hr
  refine iZ rfl rfl (⟨rows1,pv,q,c,rfl,hl1,hC1,hred,hpv,rfl,rfl⟩)
end
structure RL where
 p:Option Addr
 c:Nat
 es:List RE
instance:Inhabited RL:=⟨⟨none,0,[]⟩⟩
abbrev eL (r:RL):List Value:=[.slice r.p r.es.length r.c]
abbrev lv (r:RL):Value:= .slice r.p r.es.length r.c
instance:Sized eL 1:=⟨fun _=>rfl⟩
instance:Ones eL:=⟨fun m u hu=>by simp only [eL,List.mem_cons,List.not_mem_nil,or_false] at hu;subst hu;rfl⟩
structure IsL (r:RL) (k:Nat) (X:List Nat) (w:World):Prop where
 sl:Sl X w r.p (recs eR r.es)
 el:∀e∈r.es,IsR e k X w
 cap:Cap r.p r.es.length r.c
abbrev dL (r:RL) (k:Nat):aN:=IsL r k
instance (r:RL) (k:Nat):Fx.Good (IsL r k):=⟨fun X Y w w' h he hY=>⟨Sl.carry h.sl he hY,fun e hm=>Fx.Good.go (φ:=IsR _ _) X Y w w' (h.el e hm) he hY,h.cap⟩⟩
abbrev RL.q (r:RL):List Rat:=qs r.es
structure MX where
 p:Option Addr
 c:Nat
 rows:List RL
instance:Inhabited MX:=⟨⟨none,0,[]⟩⟩
abbrev eMX (m:MX):List Value:=[.slice m.p m.rows.length m.c]
abbrev mv (m:MX):Value:= .slice m.p m.rows.length m.c
instance:Sized eMX 1:=⟨fun _=>rfl⟩
instance:Ones eMX:=⟨fun m u hu=>by simp only [eMX,List.mem_cons,List.not_mem_nil,or_false] at hu;subst hu;rfl⟩
structure IsX (m:MX) (k:Nat) (X:List Nat) (w:World):Prop where
 sl:Sl X w m.p (recs eL m.rows)
 row:∀r∈m.rows,IsL r k X w
 cap:Cap m.p m.rows.length m.c
abbrev gQ (m:MX) (k:Nat):aN:=IsX m k
instance (m:MX) (k:Nat):Fx.Good (IsX m k):=⟨fun X Y w w' h he hY=>⟨Sl.carry h.sl he hY,fun e hm=>Fx.Good.go (φ:=IsL _ _) X Y w w' (h.row e hm) he hY,h.cap⟩⟩
abbrev MX.q (m:MX):Mt:=m.rows.map RL.q
def MX.dim (m:MX) (R C:Nat):Prop:=m.rows.length=R∧∀r∈m.rows,r.es.length=C
theorem MX.dim.row {m:MX} {R C:Nat} (h:m.dim R C) {i:Nat} (hi:i < R):(gt m.rows (i:Int)).es.length=C:=h.2 _ (cB ⟨by omega,by have:=h.1;omega⟩)
/- what follows from the facts -/
theorem Hv.xsl {I:List aN} {m:MX} {k:Nat} (h:gQ m k∈I):Hv I (aD m.p (recs eL m.rows)):=⟨fun X w hw=>⟨(hw _ h:IsX m k X w).sl⟩⟩
theorem Hv.xrow {I:List aN} {m:MX} {k:Nat} {i:Int} (h:gQ m k∈I) (hi:0≤i∧i < m.rows.length):Hv I (dL (gt m.rows i) k):=⟨fun X w hw=>(hw _ h:IsX m k X w).row _ (cB hi)⟩
theorem Hv.xrsl {I:List aN} {m:MX} {k:Nat} {i:Int} (h:gQ m k∈I) (hi:0≤i∧i < m.rows.length):Hv I (aD (gt m.rows i).p (recs eR (gt m.rows i).es)):=⟨fun X w hw=>⟨((hw _ h:IsX m k X w).row _ (cB hi)).sl⟩⟩
theorem Hv.xel {I:List aN} {m:MX} {k:Nat} {i j:Int} (h:gQ m k∈I) (hi:0≤i∧i < m.rows.length) (hj:0≤j∧j < (gt m.rows i).es.length):Hv I (bE (gt (gt m.rows i).es j) k):=⟨fun X w hw=>((hw _ h:IsX m k X w).row _ (cB hi)).el _ (cB hj)⟩
theorem Hv.lsl {I:List aN} {r:RL} {k:Nat} (h:dL r k∈I):Hv I (aD r.p (recs eR r.es)):=⟨fun X w hw=>⟨(hw _ h:IsL r k X w).sl⟩⟩
theorem Hv.lel {I:List aN} {r:RL} {k:Nat} {j:Int} (h:dL r k∈I) (hj:0≤j∧j < r.es.length):Hv I (bE (gt r.es j) k):=⟨fun X w hw=>(hw _ h:IsL r k X w).el _ (cB hj)⟩
theorem Hv.lall {I:List aN} {r:RL} {k:Nat} (h:dL r k∈I):Hv I (aX r.es k):=⟨fun X w hw=>⟨(hw _ h:IsL r k X w).el⟩⟩
theorem IsL.mono {r:RL} {k m:Nat} {X:List Nat} {w:World} (h:IsL r k X w) (hk:k≤m):IsL r m X w:=⟨h.sl,fun e he=>(h.el e he).mono hk,h.cap⟩
theorem IsX.mono {x:MX} {k m:Nat} {X:List Nat} {w:World} (h:IsX x k X w) (hk:k≤m):IsX x m X w:=⟨h.sl,fun e he=>(h.row e he).mono hk,h.cap⟩
theorem Hv.lm {I:List aN} {r:RL} {k m:Nat} (h:dL r k∈I) (hk:k≤m):Hv I (dL r m):=⟨fun X w hw=>IsL.mono (hw _ h) hk⟩
theorem Hv.xm {I:List aN} {r:MX} {k m:Nat} (h:gQ r k∈I) (hk:k≤m):Hv I (gQ r m):=⟨fun X w hw=>IsX.mono (hw _ h) hk⟩
/- the posts -/
def XQ (A:Mt) (R C k:Nat) (M0:List Ent) (I0:List aN) (v:Value) (M:List Ent) (I:List aN):Prop:=M0=M∧∃m:MX,v=mv m∧m.q=A∧m.dim R C∧I=gQ m k::I0
def XQc (A:Mt) (R C k:Nat) (M0:List Ent) (I0:List aN) (v:Value) (M:List Ent) (I:List aN):Prop:=M0=M∧∃m:MX,v= .tuple #[mv m, .int .i64 0]∧m.q=A∧m.dim R C∧I=gQ m k::I0
def LQ (l:List Rat) (k:Nat) (M0:List Ent) (I0:List aN) (v:Value) (M:List Ent) (I:List aN):Prop:=M0=M∧∃r:RL,v=lv r∧r.q=l∧I=dL r k::I0
def LQc (l:List Rat) (k:Nat) (M0:List Ent) (I0:List aN) (v:Value) (M:List Ent) (I:List aN):Prop:=M0=M∧∃r:RL,v= .tuple #[lv r, .int .i64 0]∧r.q=l∧I=dL r k::I0
def xU (R C:Nat) (F:Nat→Nat→Rat):Mt:=(List.range R).map (fun i=>(List.range C).map (F i))
theorem sK {R C:Nat} {F:Nat→Nat→Rat} {i j:Nat} (hi:i < R) (hj:j < C):at2 (xU R C F) i j=F i j:=by
 unfold at2 rowAt xU
 simp [List.getD,hi,hj]
theorem qH {R C:Nat} {F G:Nat→Nat→Rat} (h:∀i j,i < R→j < C→F i j=G i j):xU R C F=xU R C G:=by
 unfold xU
 apply List.map_congr_left
 intro i hi
 apply List.map_congr_left
 intro j hj
 exact h i j (List.mem_range.1 hi) (List.mem_range.1 hj)
theorem nR {m:MX} {i j:Nat} (hi:i < m.rows.length) (hj:j < (gt m.rows (i:Int)).es.length):at2 m.q i j=(gt (gt m.rows (i:Int)).es (j:Int)).q:=by
 rw [dM hi] at hj
 unfold at2 rowAt
 rw [dM hi,dM hj]
 simp [List.getD,hi,hj]
theorem MX.dim.mk {m:MX} {R C:Nat} (h:m.dim R C):m.q=xU R C (at2 m.q):=by
 apply List.ext_getElem
 ·simp [xU,h.1]
 ·intro i h1 h2
  have hi:i < m.rows.length:=by simpa using h1
  have hc:=h.2 _ (List.getElem_mem hi)
  apply List.ext_getElem
  ·simp [xU,hc]
  ·intro j h3 h4
   have hj:j < (m.rows[i]).es.length:=by simpa using h3
   simp only [xU,List.getElem_map,List.getElem_range]
   rw [nR hi (by rw [dM hi];exact hj),dM hi,dM hj]
/- a matrix made is a matrix that is read -/
def MR.l (r:MR):RL:=⟨some ⟨r.b,0,none⟩,r.es.length,r.es⟩
theorem xE {X:List Nat} {w0 w:World} {k:Nat}:∀{rows:List MR} {M:List Ent} {I:List aN},Mem X w0 (rows.map eQ++M) I w→(∀r∈rows,AllR r.es k (muts (rows.map eQ++M)) w)→∃I',(∀φ∈I,φ∈I')∧(∀r∈rows,dL r.l k∈I')∧Mem X w0 M I' w
 |[],M,I,h,_=>⟨I,fun _ h=>h,fun r hr=>by simp at hr,h⟩
 |r::rows,M,I,h,ha=>by
  have h1:Mem X w0 (rows.map eQ++M) (aD (some ⟨r.b,0,none⟩) (recs eR r.es)::I) w:=h.freezeB .here
  have hsub:∀y∈muts (rows.map eQ++M),y∈muts ((r::rows).map eQ++M):=fun y hy=>by simp [muts] at hy ⊢;right;exact hy
  have h2:IsL r.l k (muts (rows.map eQ++M)) w:=by
   refine ⟨(h1.sl (List.Mem.head _)),fun e he=>?_,Nat.le_refl _, .inl (Ok.mk _ _)⟩
   exact Fx.Good.go (φ:=IsR _ _) _ _ w w ((ha r (List.Mem.head _)).go e he) (Ext.refl _ _) (fun y hy=> .inl (hsub y hy))
  obtain ⟨I',i1,i2,i3⟩:=xE (h1.add (φ:=dL r.l k) h2) (fun s hs=>⟨fun e he=>Fx.Good.go (φ:=IsR _ _) _ _ w w ((ha s (List.Mem.tail _ hs)).go e he) (Ext.refl _ _) (fun y hy=> .inl (hsub y hy))⟩)
  refine ⟨I',fun φ hφ=>i1 φ (List.Mem.tail _ (List.Mem.tail _ hφ)),fun s hs=>?_,i3⟩
  rcases List.mem_cons.1 hs with rfl|hs
  ·exact i1 _ (List.Mem.head _)
  ·exact i2 s hs
def MR.x (bo:Nat) (rows:List MR):MX:=⟨some ⟨bo,0,none⟩,rows.length,rows.map MR.l⟩
theorem aRS (rows:List MR):recs eL (rows.map MR.l)=recs eM rows:=by
 induction rows with
 |nil=>rfl
 |cons x r ih=>
  have h1:recs eL ((x::r).map MR.l)=eL x.l++recs eL (r.map MR.l):=rfl
  have h2:recs eM (x::r)=eM x++recs eM r:=rfl
  rw [h1,h2,ih]
  rfl
theorem q_x (bo:Nat) (rows:List MR):(MR.x bo rows).q=mq rows:=by
 unfold MR.x
 simp [MX.q,MR.l,Function.comp_def]
theorem aCG {X:List Nat} {w0 w:World} {k bo:Nat} {rows:List MR} {M:List Ent} {I:List aN} (h:Mem X w0 (.blk bo (recs eM rows) 24::(rows.map eQ++M)) I w) (ha:allM rows k∈I):Mem X w0 M (gQ (MR.x bo rows) k::I) w:=by
 have h0:Mem X w0 (rows.map eQ++M) (aD (some ⟨bo,0,none⟩) (recs eM rows)::I) w:=h.freezeB .here
 obtain ⟨I',i1,i2,i3⟩:=xE (k:=k) h0 (fun r hr=>⟨fun e he=>((h0.imm _ (List.Mem.tail _ ha)).2:AllM rows k _ w).go r hr e he⟩)
 have h3:IsX (MR.x bo rows) k (muts M) w:=by
  refine ⟨?_,fun r hr=>?_,?_⟩
  ·rw [show (MR.x bo rows).rows=rows.map MR.l from rfl,aRS];exact i3.sl (i1 _ (List.Mem.head _))
  ·obtain ⟨s,hs,rfl⟩:=List.mem_map.1 hr
   exact (i3.imm _ (i2 s hs)).2
  ·show Cap (some ⟨bo,0,none⟩) (rows.map MR.l).length rows.length
   rw [List.length_map];exact ⟨Nat.le_refl _, .inl (Ok.mk _ _)⟩
 exact (i3.add (φ:=gQ (MR.x bo rows) k) h3).inc (.of fun φ hφ=>by
  rcases List.mem_cons.1 hφ with rfl|hφ
  ·exact List.Mem.head _
  ·exact List.Mem.tail _ (i1 _ (List.Mem.tail _ hφ)))
section
variable {X:List Nat} {w0:World} {M0:List Ent} {I0:List aN}
theorem zN {g:FuncId} [FnOk Tryz.prog g] {fs cs:Array Value} {R C k0:Nat} (hR:R≤100) (hC:C≤200) (F:Nat→Nat→Rat)
  (hg:∀M I,(∀φ∈I0,φ∈I)→∀i j:Nat,i < R→j < C→CD Tryz.prog g (fs.toList++[.int .i64 (i:Int), .int .i64 (j:Int)]++cs.toList) X w0 M I (RQ (F i j) k0 M I)):
  CD Tryz.prog 104 [.int .i64 (R:Int), .int .i64 (C:Int), .func (.func g) fs cs] X w0 M0 I0 (XQ (xU R C F) R C k0 M0 I0):=by
 refine CD.post (zT hR hC F hg) (fun v M I w h hw=>?_)
 obtain ⟨bo,rows,rfl,hl,hc,hF,rfl,rfl⟩:=h
 refine ⟨M0,gQ (MR.x bo rows) k0::I0,⟨rfl,MR.x bo rows,?_,?_,⟨by simp [MR.x,hl],fun r hr=>?_⟩,rfl⟩,(aCG hw (List.Mem.head _)).inc (.of fun φ hφ=>by
  rcases List.mem_cons.1 hφ with rfl|hφ
  ·exact List.Mem.head _
  ·exact List.Mem.tail _ (List.Mem.tail _ hφ))⟩
 ·have e:(MR.x bo rows).rows.length=R:=by show (rows.map MR.l).length=R;rw [List.length_map,hl]
  have e2:(MR.x bo rows).c=R:=hl
  show _=Value.slice (MR.x bo rows).p (MR.x bo rows).rows.length (MR.x bo rows).c
  rw [e,e2];rfl
 ·rw [q_x];exact hF
 ·obtain ⟨s,hs,rfl⟩:=List.mem_map.1 hr
  exact hc s hs
end
end Go.Proofs.YthhldplegmeolaaGreat
namespace Go.Proofs.YthhldplegmeolaaGreat
open Go Go.Fx
structure WL where
 p:Option Addr
 c:Nat
 es:List RW
instance:Inhabited WL:=⟨⟨none,0,[]⟩⟩
abbrev uX (r:WL):List Value:=[.slice r.p r.es.length r.c]
abbrev wE (r:WL):Value:= .slice r.p r.es.length r.c
instance:Sized uX 1:=⟨fun _=>rfl⟩
instance:Ones uX:=⟨fun m u hu=>by simp only [uX,List.mem_cons,List.not_mem_nil,or_false] at hu;subst hu;rfl⟩
structure IsWL (r:WL) (X:List Nat) (w:World):Prop where
 sl:Sl X w r.p (recs eW r.es)
 el:∀e∈r.es,IsW e X w
 cap:Cap r.p r.es.length r.c
abbrev jN (r:WL):aN:=IsWL r
instance (r:WL):Fx.Good (IsWL r):=⟨fun X Y w w' h he hY=>⟨Sl.carry h.sl he hY,fun e hm=>Fx.Good.go (φ:=IsW _) X Y w w' (h.el e hm) he hY,h.cap⟩⟩
structure WM where
 p:Option Addr
 c:Nat
 rows:List WL
instance:Inhabited WM:=⟨⟨none,0,[]⟩⟩
abbrev eWM (m:WM):List Value:=[.slice m.p m.rows.length m.c]
abbrev mvW (m:WM):Value:= .slice m.p m.rows.length m.c
instance:Sized eWM 1:=⟨fun _=>rfl⟩
instance:Ones eWM:=⟨fun m u hu=>by simp only [eWM,List.mem_cons,List.not_mem_nil,or_false] at hu;subst hu;rfl⟩
structure IsWM (m:WM) (X:List Nat) (w:World):Prop where
 sl:Sl X w m.p (recs uX m.rows)
 row:∀r∈m.rows,IsWL r X w
 cap:Cap m.p m.rows.length m.c
abbrev pR (m:WM):aN:=IsWM m
instance (m:WM):Fx.Good (IsWM m):=⟨fun X Y w w' h he hY=>⟨Sl.carry h.sl he hY,fun e hm=>Fx.Good.go (φ:=IsWL _) X Y w w' (h.row e hm) he hY,h.cap⟩⟩
structure AllWM (ms:List WM) (X:List Nat) (w:World):Prop where
 go:∀m∈ms,IsWM m X w
abbrev allWM (ms:List WM):aN:=AllWM ms
instance (ms:List WM):Fx.Good (AllWM ms):=⟨fun X Y w w' h he hY=>⟨fun m hm=>Fx.Good.go (φ:=IsWM _) X Y w w' (h.go m hm) he hY⟩⟩
theorem Hv.wlsl {I:List aN} {r:WL} (h:jN r∈I):Hv I (aD r.p (recs eW r.es)):=⟨fun X w hw=>⟨(hw _ h:IsWL r X w).sl⟩⟩
theorem Hv.wlel {I:List aN} {r:WL} {j:Int} (h:jN r∈I) (hj:0≤j∧j < r.es.length):Hv I (isW (gt r.es j)):=⟨fun X w hw=>(hw _ h:IsWL r X w).el _ (cB hj)⟩
theorem Hv.wmsl {I:List aN} {m:WM} (h:pR m∈I):Hv I (aD m.p (recs uX m.rows)):=⟨fun X w hw=>⟨(hw _ h:IsWM m X w).sl⟩⟩
theorem Hv.wmrow {I:List aN} {m:WM} {i:Int} (h:pR m∈I) (hi:0≤i∧i < m.rows.length):Hv I (jN (gt m.rows i)):=⟨fun X w hw=>(hw _ h:IsWM m X w).row _ (cB hi)⟩
/- short numbers, canonical ones, matrices -/
def RW.brief (r:RW):Prop:=r.g1.length≤1∧r.g2.length≤1∧(r.g1.length=0∨gt r.g1 0 < 100000)∧(r.g2.length=0∨gt r.g2 0≤100)
instance (r:RW):Decidable r.brief:=by unfold RW.brief;exact inferInstance
def RW.sml (r:RW):Prop:=r.g1.length≤1000000000∧r.g2.length≤1000000000
def WL.sht (r:WL):Prop:=r.es.length≤6∧∀e∈r.es,e.brief
instance (r:WL):Decidable r.sht:=by unfold WL.sht;exact inferInstance
def WL.sml (r:WL):Prop:=r.es.length≤1000000000∧∀e∈r.es,e.sml
def WL.good (r:WL):Prop:=∀e∈r.es,e.good
instance (r:WL):Decidable r.good:=by unfold WL.good;exact inferInstance
def WM.sht (m:WM):Prop:=m.rows.length≤6∧∀r∈m.rows,r.sht
instance (m:WM):Decidable m.sht:=by unfold WM.sht;exact inferInstance
def WM.sml (m:WM):Prop:=m.rows.length≤1000000000∧∀r∈m.rows,r.sml
def WM.ok (m:WM):Prop:=(1≤m.rows.length∧m.rows.length≤64∧1≤(gt m.rows 0).es.length∧(gt m.rows 0).es.length≤64)∧∀r∈m.rows,r.es.length=(gt m.rows 0).es.length∧r.good
instance (m:WM):Decidable m.ok:=by unfold WM.ok;exact inferInstance
theorem RW.brief.sml {r:RW} (h:r.brief):r.sml:=⟨by have:=h.1;omega,by have:=h.2.1;omega⟩
/- of canonical numbers -/
def RL.raw (r:RL):WL:=⟨r.p,r.c,r.es.map RE.raw⟩
def MX.raw (m:MX):WM:=⟨m.p,m.c,m.rows.map RL.raw⟩
theorem aEV (es:List RE):recs eW (es.map RE.raw)=recs eR es:=by
 induction es with
 |nil=>rfl
 |cons x r ih=>
  have h1:recs eW ((x::r).map RE.raw)=eW x.raw++recs eW (r.map RE.raw):=rfl
  have h2:recs eR (x::r)=eR x++recs eR r:=rfl
  rw [h1,h2,ih];rfl
theorem aBQ (rows:List RL):recs uX (rows.map RL.raw)=recs eL rows:=by
 induction rows with
 |nil=>rfl
 |cons x r ih=>
  have h1:recs uX ((x::r).map RL.raw)=uX x.raw++recs uX (r.map RL.raw):=rfl
  have h2:recs eL (x::r)=eL x++recs eL r:=rfl
  rw [h1,h2,ih]
  show [Value.slice x.p (x.es.map RE.raw).length x.c]++_=[Value.slice x.p x.es.length x.c]++_
  rw [List.length_map]
theorem uQ (r:RL):wE r.raw=lv r:=by show Value.slice r.p (r.es.map RE.raw).length r.c=_;rw [List.length_map]
theorem aAC (m:MX):mvW m.raw=mv m:=by show Value.slice m.p (m.rows.map RL.raw).length m.c=_;rw [List.length_map]
theorem RL.raw_good (r:RL):r.raw.good:=fun e he=>by
 obtain ⟨x,_,rfl⟩:=List.mem_map.1 he
 exact x.raw_good
theorem IsL.raw {r:RL} {k:Nat} {X:List Nat} {w:World} (hk:k≤1000000000000) (h:IsL r k X w):IsWL r.raw X w:=
 ⟨by show Sl X w r.p (recs eW (r.es.map RE.raw));rw [aEV];exact h.sl,fun e he=>by obtain ⟨x,hx,rfl⟩:=List.mem_map.1 he;exact RE.fit hk (h.el x hx),by show Cap r.p (r.es.map RE.raw).length r.c;rw [List.length_map];exact h.cap⟩
theorem IsX.raw {m:MX} {k:Nat} {X:List Nat} {w:World} (hk:k≤1000000000000) (h:IsX m k X w):IsWM m.raw X w:=
 ⟨by show Sl X w m.p (recs uX (m.rows.map RL.raw));rw [aBQ];exact h.sl,fun e he=>by obtain ⟨x,hx,rfl⟩:=List.mem_map.1 he;exact IsL.raw hk (h.row x hx),by show Cap m.p (m.rows.map RL.raw).length m.c;rw [List.length_map];exact h.cap⟩
theorem IsR.sml {e:RE} {k:Nat} {X:List Nat} {w:World} (hk:k≤20000000000) (h:IsR e k X w):e.raw.sml:=by
 have a:=dB (IsI.le h.num)
 have b:=dB (IsI.le h.den)
 constructor
 ·show (gr e.q.num.natAbs).length≤_;omega
 ·show (gr (e.q.den:Int).natAbs).length≤_;omega
theorem Hv.lraw {I:List aN} {r:RL} {k:Nat} (h:dL r k∈I) (hk:k≤20000000000):Hv I (jN r.raw):=⟨fun X w hw=>IsL.raw (by omega) (hw _ h)⟩
theorem Hv.xraw {I:List aN} {m:MX} {k:Nat} (h:gQ m k∈I) (hk:k≤20000000000):Hv I (pR m.raw):=⟨fun X w hw=>IsX.raw (by omega) (hw _ h)⟩
theorem WL.good_raw {r:WL} (hf:∀e∈r.es,e.Fit) (h:r.good):∃l:RL,r=l.raw:=by
 obtain ⟨p,c,es⟩:=r
 have:∃xs:List RE,es=xs.map RE.raw:=by
  have hf':∀e∈es,e.Fit:=hf
  have h':∀e∈es,e.good:=h
  clear h hf
  induction es with
  |nil=>exact ⟨[],rfl⟩
  |cons x es ih=>
   obtain ⟨xs,rfl⟩:=ih (fun e he=>hf' e (List.Mem.tail _ he)) (fun e he=>h' e (List.Mem.tail _ he))
   obtain ⟨e,rfl⟩:=RW.good_raw (hf' x (List.Mem.head _)) (h' x (List.Mem.head _))
   exact ⟨e::xs,rfl⟩
 obtain ⟨xs,rfl⟩:=this
 exact ⟨⟨p,c,xs⟩,rfl⟩
theorem WM.good_raw {m:WM} (hf:∀r∈m.rows,∀e∈r.es,e.Fit) (h:∀r∈m.rows,r.good):∃x:MX,m=x.raw:=by
 obtain ⟨p,c,rows⟩:=m
 have:∃xs:List RL,rows=xs.map RL.raw:=by
  have hf':∀r∈rows,∀e∈r.es,e.Fit:=hf
  have h':∀r∈rows,r.good:=h
  clear h hf
  induction rows with
  |nil=>exact ⟨[],rfl⟩
  |cons x es ih=>
   obtain ⟨xs,rfl⟩:=ih (fun e he=>hf' e (List.Mem.tail _ he)) (fun e he=>h' e (List.Mem.tail _ he))
   obtain ⟨e,rfl⟩:=WL.good_raw (hf' x (List.Mem.head _)) (h' x (List.Mem.head _))
   exact ⟨e::xs,rfl⟩
 obtain ⟨xs,rfl⟩:=this
 exact ⟨⟨p,c,xs⟩,rfl⟩
theorem aJX {e:RE} (h:e.raw.brief) {X:List Nat} {w:World} (hw:IsW e.raw X w):IsR e 30 X w:=by
 refine RE.isR_raw hw ?_ ?_
 ·have:=h.1;omega
 ·have:=h.2.1;omega
theorem wL {α β:Type} [Inhabited α] [Inhabited β] {l:List α} {f:α→β} {i:Int} (h:0≤i∧i < l.length):gt (l.map f) i=f (gt l i):=by
 obtain ⟨n,rfl⟩:∃n:Nat,i=n:=⟨i.toNat,by omega⟩
 rw [dM (by simpa using h.2),dM (by omega)]
 simp
theorem aRR {m:MX} (h:m.raw.ok):m.dim m.rows.length (gt m.rows 0).es.length∧1≤m.rows.length∧m.rows.length≤64∧1≤(gt m.rows 0).es.length∧(gt m.rows 0).es.length≤64:=by
 have e:m.raw.rows=m.rows.map RL.raw:=rfl
 unfold WM.ok at h
 rw [e,List.length_map] at h
 obtain ⟨⟨h1,h2,h3,h4⟩,h5⟩:=h
 rw [wL (by omega)] at h3 h4 h5
 have e2:(gt m.rows 0).raw.es.length=(gt m.rows 0).es.length:=by show ((gt m.rows 0).es.map RE.raw).length=_;rw [List.length_map]
 rw [e2] at h3 h4 h5
 refine ⟨⟨rfl,fun r hr=>?_⟩,h1,h2,h3,h4⟩
 have:=(h5 r.raw (List.mem_map.2 ⟨r,hr,rfl⟩)).1
 rwa [show r.raw.es=r.es.map RE.raw from rfl,List.length_map] at this
theorem aSZ {m:MX} {R C:Nat} (h:m.dim R C) (hR:1≤R∧R≤64) (hC:1≤C∧C≤64):m.raw.ok:=by
 have e:m.raw.rows=m.rows.map RL.raw:=rfl
 have h0:=h.1
 have hl:∀r∈m.rows,r.raw.es.length=C:=fun r hr=>by rw [show r.raw.es=r.es.map RE.raw from rfl,List.length_map];exact h.2 r hr
 unfold WM.ok
 rw [e,List.length_map,wL (by omega),hl _ (cB (by omega))]
 refine ⟨by omega,fun r hr=>?_⟩
 obtain ⟨s,hs,rfl⟩:=List.mem_map.1 hr
 exact ⟨hl s hs,s.raw_good⟩
end Go.Proofs.YthhldplegmeolaaGreat

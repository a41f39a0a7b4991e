/- matrix.reduce Fractions as they come in: whatever bits, canonical or not. -/
import Derived.Test.YtmmmfphealhapaaGreatZtaj
import Derived.Test.YtmmmfphealhapaaGreatZtah
set_option linter.unusedSimpArgs false
set_option linter.unusedVariables false
set_option maxRecDepth 100000
set_option maxHeartbeats 4000000
namespace Go.Proofs.YtmmmfphealhapaaGreat
open Go Go.Fx
def kb (k:Nat):Nat→Nat
 |0=>k
 |n+1=>4*kb k n+1
theorem tL (k:Nat) {m n:Nat} (h:m≤n):kb k m≤kb k n:=by
 induction n with
 | zero => obtain rfl : m = 0 := by omega
           exact Nat.le_refl _
 |succ n ih=>
  by_cases e:m=n+1
  ·subst e;exact Nat.le_refl _
  ·have:=ih (by omega)
   show kb k m≤4*kb k n+1
   omega
abbrev zs (pv:List Nat):List Int:=pv.map (fun (x:Nat)=>(x:Int))
abbrev eZ:Int→List Value:=eI .i64
theorem aCS {rows:List MR} {i:Nat} (h:i < rows.length) {A B:Ent} {M1:List Ent}:(A::B::(rows.map fZ++M1)).Perm (fZ (gt rows (i:Int))::A::B::((rows.eraseIdx i).map fZ++M1)):=by
 have h1:(rows.map fZ).Perm (fZ (gt rows (i:Int))::(rows.eraseIdx i).map fZ):=by
  have:=(qC rows i h).map fZ
  rwa [List.map_cons,←dP h] at this
 have h2:(rows.map fZ++M1).Perm (fZ (gt rows (i:Int))::((rows.eraseIdx i).map fZ++M1)):=h1.append_right M1
 exact ((List.Perm.cons _ (List.Perm.cons _ h2)).trans (List.Perm.cons _ (List.Perm.swap _ _ _))).trans (List.Perm.swap _ _ _)
theorem foc2 {rows:List MR} {i j:Nat} (hi:i < rows.length) (hj:j < rows.length) (hij:i≠j) {A B:Ent} {M1:List Ent}:(A::B::(rows.map fZ++M1)).Perm (fZ (gt rows (i:Int))::fZ (gt rows (j:Int))::A::B::((jX rows i j).map fZ++M1)):=by
 have h1:(rows.map fZ).Perm (fZ (gt rows (i:Int))::fZ (gt rows (j:Int))::(jX rows i j).map fZ):=by
  have:=(qU rows i j hi hj hij).map fZ
  rwa [List.map_cons,List.map_cons,←dP hi,←dP hj] at this
 have h2:(rows.map fZ++M1).Perm (fZ (gt rows (i:Int))::fZ (gt rows (j:Int))::((jX rows i j).map fZ++M1)):=h1.append_right M1
 refine (List.Perm.cons _ (List.Perm.cons _ h2)).trans ?_
 generalize fZ (gt rows (i:Int))=x
 generalize fZ (gt rows (j:Int))=y
 generalize (jX rows i j).map fZ++M1=r
 have e1:(A::B::x::y::r).Perm (x::A::B::y::r):=(List.Perm.cons _ (List.Perm.swap _ _ _)).trans (List.Perm.swap _ _ _)
 have e2:(A::B::y::r).Perm (y::A::B::r):=(List.Perm.cons _ (List.Perm.swap _ _ _)).trans (List.Perm.swap _ _ _)
 exact e1.trans (List.Perm.cons _ e2)
theorem swap_perm {rows:List MR} {r k:Nat} (hr:r < rows.length) (hk:k < rows.length):(st (st rows (r:Int) (gt rows (k:Int))) (k:Int) (gt rows (r:Int))).Perm rows:=by
 unfold st
 simp only [Int.toNat_natCast]
 by_cases h:r=k
 ·subst h
  rw [dP hr,List.set_getElem_self,List.set_getElem_self]
 ·have hr':r < ((rows.set r (gt rows (k:Int))).set k (gt rows (r:Int))).length:=by simpa using hr
  have hk':k < ((rows.set r (gt rows (k:Int))).set k (gt rows (r:Int))).length:=by simpa using hk
  have h1:=qU _ r k hr' hk' h
  have h2:=qU rows r k hr hk h
  have e:jX ((rows.set r (gt rows (k:Int))).set k (gt rows (r:Int))) r k=jX rows r k:=by
   have h3:=rW (rows.set r (gt rows (k:Int))) k r (gt rows (r:Int)) (Ne.symm h)
   have h4:=rW rows r k (gt rows (k:Int)) h
   have c:∀l:List MR,jX l k r=jX l r k:=fun l=>by unfold jX;rw [Nat.max_comm,Nat.min_comm]
   rw [c,c,h4] at h3
   exact h3
  rw [e] at h1
  have g1:((rows.set r (gt rows (k:Int))).set k (gt rows (r:Int)))[r]'hr'=rows[k]:=by
   rw [List.getElem_set_ne (Ne.symm h),List.getElem_set_self,dP hk]
  have g2:((rows.set r (gt rows (k:Int))).set k (gt rows (r:Int)))[k]'hk'=rows[r]:=by
   rw [List.getElem_set_self,dP hr]
  rw [g1,g2] at h1
  exact (h1.trans (List.Perm.swap _ _ _)).trans h2.symm
theorem Hv.elM {I:List aL} {rows:List MR} {i j:Int} {k m:Nat} (h:allM rows k∈I) (hi:0≤i∧i < rows.length) (hj:0≤j∧j < (gt rows i).es.length) (hk:k≤m):Hv I (bL (gt (gt rows i).es j) m):=
 ⟨fun X w hw=>((hw _ h:AllM rows k X w).go _ (bF hi) _ (bF hj)).mono hk⟩
theorem Hv.rowMm {I:List aL} {rows:List MR} {i:Int} {k m:Nat} (h:allM rows k∈I) (hi:0≤i∧i < rows.length) (hk:k≤m):Hv I (aP (gt rows i).es m):=⟨fun X w hw=>⟨fun e he=>((hw _ h:AllM rows k X w).go _ (bF hi) e he).mono hk⟩⟩
theorem Hv.permM {I:List aL} {rows rows':List MR} {k:Nat} (h:allM rows k∈I) (hp:rows'.Perm rows):Hv I (allM rows' k):=⟨fun X w hw=>⟨fun r hr=>(hw _ h:AllM rows k X w).go r (hp.mem_iff.1 hr)⟩⟩
theorem Hv.setM {I:List aL} {rows:List MR} {i:Nat} {b:Nat} {es:List RE} {k m K:Nat} (h:allM rows k∈I) (h2:aP es m∈I) (hk:k≤K) (hm:m≤K):Hv I (allM (rows.set i ⟨b,es⟩) K):=⟨fun X w hw=>⟨fun r hr e he=>by
 rcases List.mem_or_eq_of_mem_set hr with hr|hr
 ·exact ((hw _ h:AllM rows k X w).go r hr e he).mono hk
 ·subst hr;exact ((hw _ h2:AllR es m X w).go e he).mono hm⟩⟩
theorem Hv.monoM {I:List aL} {rows:List MR} {k m:Nat} (h:allM rows k∈I) (hk:k≤m):Hv I (allM rows m):=⟨fun X w hw=>⟨fun r hr e he=>((hw _ h:AllM rows k X w).go r hr e he).mono hk⟩⟩
theorem rR {a b:List Rat} (hl:a.length=b.length) (h:∀t:Nat,t < a.length→a.getD t 0=b.getD t 0):a=b:=by
 apply List.ext_getElem hl
 intro t h1 h2
 have:=h t h1
 simpa [List.getD,h1,h2] using this
theorem aXH {er e1:List RE} {κ:Rat} {j C:Nat} (h1:e1.length=C) (hr:er.length=C) (hd:∀t:Nat,t < C→(gt e1 (t:Int)).q=if t < j then (gt er (t:Int)).q else κ*(gt er (t:Int)).q):qs e1=jC j κ (qs er):=by
 apply rR
 ·simp [jC,h1,hr]
 ·intro t ht
  have ht':t < C:=by simpa [h1] using ht
  rw [iK (by omega),hd t ht']
  unfold jC
  rw [dP (show t < er.length by omega)]
  simp [List.getD,show t < er.length by omega]
theorem bCN {rows4 rows3:List MR} {R r j br:Nat} {e1:List RE} (h4:rows4.length=R) (h3:rows3.length=R) (hr:r < R) (hg4:(gt rows4 (r:Int)).es=e1) (hg3:gt rows3 (r:Int)=⟨br,e1⟩)
  (hd:∀t:Nat,t < R→t≠r→qs (gt rows4 (t:Int)).es=if at2 (mq rows3) t j=0 then qs (gt rows3 (t:Int)).es else kS j (at2 (mq rows3) t j) (qs e1) (qs (gt rows3 (t:Int)).es)):
  mq rows4=xS (mq rows3) r j (qs e1):=by
 unfold xS
 apply List.ext_getElem
 ·simp [h4,h3]
 ·intro t h1 h2
  have ht:t < R:=by simpa [h4] using h1
  have e4:(mq rows4)[t]=qs (gt rows4 (t:Int)).es:=by rw [dP (by omega)];simp
  have e3:(mq rows3)[t]'(by simp;omega)=qs (gt rows3 (t:Int)).es:=by rw [dP (by omega)];simp
  have ea:at2 (mq rows3) t j=(qs (gt rows3 (t:Int)).es).getD j 0:=by unfold at2;rw [nE (by omega)]
  rw [e4,List.getElem_mapIdx,e3]
  by_cases htr:t=r
  ·subst htr
   rw [if_pos rfl,hg4,hg3]
  ·rw [if_neg htr,hd t ht htr,ea]
theorem aYY {es ps e1:List RE} {κ:Rat} {j C:Nat} (h1:e1.length=C) (hr:es.length=C) (hp:ps.length=C) (hd:∀t:Nat,t < C→(gt e1 (t:Int)).q=if t < j then (gt es (t:Int)).q else (gt es (t:Int)).q - κ*(gt ps (t:Int)).q):qs e1=kS j κ (qs ps) (qs es):=by
 apply rR
 ·simp [kS,h1,hr]
 ·intro t ht
  have ht':t < C:=by simpa [h1] using ht
  rw [iK (by omega),hd t ht']
  unfold kS
  rw [dP (show t < es.length by omega),dP (show t < ps.length by omega)]
  simp [List.getD,show t < es.length by omega,show t < ps.length by omega]
section
variable {X:List Nat} {w0:World} {M0:List Ent} {I0:List aL}
def RdP (bo R C:Nat) (A:Mt) (n K:Nat) (M1:List Ent) (I0:List aL) (v:Value) (M:List Ent) (I:List aL):Prop:=
 ∃(rows:List MR) (pv:List Nat) (q:Option Addr) (c:Nat),v= .slice q pv.length c∧rows.length=R∧(∀r∈rows,r.es.length=C)∧eQ A n=(mq rows,pv)∧pv.length≤R∧
  M= .row q pv.length c (recs eZ (zs pv)) 3 1:: .blk bo (recs eM rows) 70::(rows.map fZ++M1)∧I=allM rows K::I0
theorem aSM {bo R C n k0:Nat} {rows:List MR} {M1:List Ent} (hR:rows.length=R) (hRb:R≤100) (hCb:C≤200) (hC:∀r∈rows,r.es.length=C) (hn:n≤C) (hk:kb k0 n≤50000000000) (hA:allM rows k0∈I0)
  (hM:M0= .blk bo (recs eM rows) 70::(rows.map fZ++M1)):
  CD Tryz.prog 235 [.slice (some ⟨bo,0,none⟩) R R, .int .i64 (n:Int)] X w0 M0 I0 (RdP bo R C (mq rows) n (kb k0 n) M1 I0):=by
 subst hM
 refine aM Tryz.func235 rfl Tryz.ntmps235 rfl ?_
 repeat' (first|refine aQ ?_|refine aJ rfl (fun h=>?_) (fun h=>?_)|refine aK rfl rfl (fun h=>?_) (fun h=>?_)|fail)
 refine gZ 3 1 ?_
 refine bG (φ:=allM rows (kb k0 0)) (Hv.mem hA) ?_
 refine lX [0,12] rfl (fun k G M I=>∃(j r:Nat) (rows1:List MR) (pv:List Nat) (q:Option Addr) (c:Nat),j≤n∧k=n - j∧pv.length=r∧rows1.length=R∧(∀r∈rows1,r.es.length=C)∧eQ (mq rows) j=(mq rows1,pv)∧r≤R∧r≤j∧G=[(5, .slice q r c),(13, .int .i64 j)]∧M= .row q r c (recs eZ (zs pv)) 3 1:: .blk bo (recs eM rows1) 70::(rows1.map fZ++M1)∧I=allM rows1 (kb k0 j)::I0) (n) (⟨0,0,rows,[],none,0,by omega,rfl,rfl,hR,hC,rfl,by omega,by omega,rfl,rfl,rfl⟩) ?_
 rintro k G M I ⟨j,r,rows1,pv,q,c,hj,rfl,hr,hl1,hC1,hred,hpv,hpj,rfl,rfl,rfl⟩
 by_cases hjn:j < n
 ·have hzl:(zs pv).length=r:=by simp [hr]
  have hkj:kb k0 (j+1)≤50000000000:=Nat.le_trans (tL k0 (by omega)) hk
  have hkj1:kb k0 (j+1)=4*kb k0 j+1:=rfl
  obtain ⟨kj,hkj0⟩:∃x,kb k0 j=x:=⟨_,rfl⟩
  rw [hkj0] at hkj1 ⊢
  have hCg:∀x:Nat,x < R→(gt rows1 (x:Int)).es.length=C:=fun x hx=>hC1 _ (bF (by omega))
  repeat' (first|refine aQ ?_|refine aJ rfl (fun h=>?_) (fun h=>?_)|refine aK rfl rfl (fun h=>?_) (fun h=>?_)|fail)
  refine lX [0,5,6,7,12,13] rfl (fun k G M I=>∃(x:Nat),r≤x∧x≤R∧k=R - x∧mG (mq rows1) j (R - x) x=mG (mq rows1) j (R - r) r∧G=[(8, .int .i64 x)]∧M= .row q r c (recs eZ (zs pv)) 3 1:: .blk bo (recs eM rows1) 70::(rows1.map fZ++M1)∧I=allM rows1 kj::I0) (R - r) (⟨r,by omega,by omega,by omega,rfl,rfl,rfl,rfl⟩) ?_
  rintro k G M I ⟨x,hrx,hxR,rfl,hfx,rfl,rfl,rfl⟩
  have hlen1:(mq rows1).length=R:=by simp [hl1]
  by_cases hx:x < R∧at2 (mq rows1) x j=0
  ·obtain ⟨hx1,hx2⟩:=hx
   have hlx:=hCg x hx1
   have hat:=yQ (rows:=rows1) (i:=x) (j:=j) (by omega) (by omega)
   rw [hat] at hx2
   have hS:=nM (X:=X) (w0:=w0) (M0:= .blk (gt rows1 (x:Int)).b (recs eR (gt rows1 (x:Int)).es) 77:: .row q r c (recs eZ (zs pv)) 3 1:: .blk bo (recs eM rows1) 70::((rows1.eraseIdx x).map fZ++M1)) (I0:=allM rows1 kj::I0) (e:=gt (gt rows1 (x:Int)).es (j:Int)) (k:=kj) (by omega) (Hv.elM (List.Mem.head _) (by omega) (by omega) (Nat.le_refl _))
   rw [(nW _).2 hx2] at hS
   refine nR (aCS (rows:=rows1) (i:=x) (by omega)) ?_
   repeat' (first|refine aQ ?_|refine aJ rfl (fun h=>?_) (fun h=>?_)|refine aK rfl rfl (fun h=>?_) (fun h=>?_)|fail)
   (refine bD rfl (hS) ?_;rintro _ _ _ ⟨rfl,rfl,rfl⟩;refine aN ?_)
   repeat' (first|refine aQ ?_|refine aJ rfl (fun h=>?_) (fun h=>?_)|refine aK rfl rfl (fun h=>?_) (fun h=>?_)|fail)
   refine vS (aCS (rows:=rows1) (i:=x) (by omega)).symm ?_
   refine gL (R - (x+1)) (⟨x+1,by omega,by omega,rfl,?_,rfl,rfl,rfl⟩)
   rw [←hfx]
   obtain ⟨f,hf⟩:∃f,R - x=f+1:=⟨R - x - 1,by omega⟩
   rw [hf,show R - (x+1)=f by omega]
   conv=>rhs;unfold mG
   rw [if_pos ⟨by omega,by rw [hat];exact hx2⟩]
  ·have hfx2:mG (mq rows1) j (R - r) r=x:=by
    rw [←hfx]
    cases hf:R - x with
    |zero=>rfl
    |succ f=>
     unfold mG
     rw [if_neg (fun h=>hx ⟨by omega,h.2⟩)]
   by_cases hxR2:x < R
   ·have hx2:at2 (mq rows1) x j≠0:=fun h=>hx ⟨hxR2,h⟩
    have hlx:=hCg x hxR2
    have hat:=yQ (rows:=rows1) (i:=x) (j:=j) (by omega) (by omega)
    rw [hat] at hx2
    have hS:=nM (X:=X) (w0:=w0) (M0:= .blk (gt rows1 (x:Int)).b (recs eR (gt rows1 (x:Int)).es) 77:: .row q r c (recs eZ (zs pv)) 3 1:: .blk bo (recs eM rows1) 70::((rows1.eraseIdx x).map fZ++M1)) (I0:=allM rows1 kj::I0) (e:=gt (gt rows1 (x:Int)).es (j:Int)) (k:=kj) (by omega) (Hv.elM (List.Mem.head _) (by omega) (by omega) (Nat.le_refl _))
    have hs0:¬(gt (gt rows1 (x:Int)).es (j:Int)).q.num.sign=0:=fun h=>hx2 ((nW _).1 h)
    generalize (gt (gt rows1 (x:Int)).es (j:Int)).q.num.sign=sg at*
    refine nR (aCS (rows:=rows1) (i:=x) (by omega)) ?_
    repeat' (first|refine aQ ?_|refine aJ rfl (fun h=>?_) (fun h=>?_)|refine aK rfl rfl (fun h=>?_) (fun h=>?_)|fail)
    (refine bD rfl (hS) ?_;rintro _ _ _ ⟨rfl,rfl,rfl⟩;refine aN ?_)
    clear hS
    repeat' (first|refine aQ ?_|refine aJ rfl (fun h=>?_) (fun h=>?_)|refine aK rfl rfl (fun h=>?_) (fun h=>?_)|fail)
    refine nR (aCS (rows:=rows1) (i:=x) (by omega)).symm ?_
    have hrR:r < R:=by omega
    (repeat refine aG ?_);refine aW 0 [0,1,2,3,4,5,6,7,8,9,10,11,12,13,14,15] [0,0,1,1,0,0,0,0,1,1,1,0,0,0,0,0] mixed (by kernel_rfl) ?_
    repeat refine yXf ?_
    refine nH rfl rfl rfl jJ (StAt.r1 (gt rows1 (x:Int)) (by omega) rfl) rfl rfl ⟨okF,?_⟩
    repeat refine yXf ?_
    refine nH rfl rfl rfl jJ (StAt.r1 (gt rows1 (r:Int)) (by rw [dK];omega) rfl) rfl rfl ⟨okF,?_⟩
    obtain ⟨rows2,hrows2⟩:∃rows2,rows2=st (st rows1 (r:Int) (gt rows1 (x:Int))) (x:Int) (gt rows1 (r:Int)):=⟨_,rfl⟩
    have hsp:=swap_perm (rows:=rows1) (r:=r) (k:=x) (by omega) (by omega)
    rw [←hrows2] at hsp ⊢
    have hl2:rows2.length=R:=by rw [hsp.length_eq];exact hl1
    have hC2:∀r∈rows2,r.es.length=C:=fun r hr=>hC1 r (hsp.mem_iff.1 hr)
    have hmq2:mq rows2=swp (mq rows1) r x:=by
     rw [hrows2]
     unfold st swp
     simp only [Int.toNat_natCast]
     rw [aET,aET,nE (by omega),nE (by omega)]
    have hpiv:(gt (gt rows2 (r:Int)).es (j:Int)).q≠0:=by
     have e:gt rows2 (r:Int)=gt rows1 (x:Int):=by
      rw [hrows2,aKQ _ (by rw [dK];omega) (by omega),aKQ _ (by omega) (by omega)]
      by_cases hxr:r=x
      ·subst hxr;rw [if_pos rfl]
      ·rw [if_neg (by omega),if_pos rfl]
     rw [e];exact hx2
    have hlr:(gt rows2 (r:Int)).es.length=C:=hC2 _ (bF (by omega))
    clear hrows2 hs0 hx2
    refine zU (M':= .row q r c (recs eZ (zs pv)) 3 1:: .blk bo (recs eM rows2) 70::(rows2.map fZ++M1)) (List.Perm.cons _ (List.Perm.cons _ ((hsp.symm.map fZ).append_right M1))) ?_
    refine bQ (φ:=allM rows2 kj) (Hv.permM (List.Mem.head _) hsp) ?_
    repeat' (first|refine aQ ?_|refine aJ rfl (fun h=>?_) (fun h=>?_)|refine aK rfl rfl (fun h=>?_) (fun h=>?_)|fail)
    refine nR (aCS (rows:=rows2) (i:=r) (by omega)) ?_
    refine jQ (fun G M I=>∃(b9:Nat) (e9:RE),e9.q=1 / (gt (gt rows2 (r:Int)).es (j:Int)).q∧G=[(0, .slice (some ⟨bo,0,none⟩) R R),(5, .slice q r c),(6, .int .i64 (j:Int)),(7, .int .i64 (r:Int)),(9, .pointer (some ⟨b9,0,none⟩)),(12, .int .i64 (n:Int)),(13, .int .i64 (j:Int))]∧M= .blk b9 (eR e9) 77:: .blk (gt rows2 (r:Int)).b (recs eR (gt rows2 (r:Int)).es) 77:: .row q r c (recs eZ (zs pv)) 3 1:: .blk bo (recs eM rows2) 70::((rows2.eraseIdx r).map fZ++M1)∧I=bL e9 (0+kj)::allM rows2 kj::I0) ?_ ?_
    ·have hW:=fun M0 I0=>vF (X:=X) (w0:=w0) (M0:=M0) (I0:=I0) (x:=1) (by decide) (k:=0) (by decide)
     have hEl:Hv (allM rows2 kj::allM rows1 kj::I0) (bL (gt (gt rows2 (r:Int)).es (j:Int)) kj):=Hv.elM (List.Mem.head _) (by omega) (by omega) (Nat.le_refl _)
     have hQ:=fun (e1:RE) M0 I0 h1 h2=>aCF (X:=X) (w0:=w0) (M0:=M0) (I0:=I0) (a:=e1) (b:=gt (gt rows2 (r:Int)).es (j:Int)) (k:=0) (m:=kj) (by omega) hpiv h1 h2
     ((repeat refine aG ?_);refine lU (.blk (gt rows2 (r:Int)).b (recs eR (gt rows2 (r:Int)).es) 77:: .row q r c (recs eZ (zs pv)) 3 1:: .blk bo (recs eM rows2) 70::((rows2.eraseIdx r).map fZ++M1)) (allM rows2 kj::I0) mixed ?_)
     refine cB (fuel:=4) (listed':=#[false,true,true,true,true,true,true,true,false,false,false]) [1,2,3,4,5,6,7] [3,3,3,3,3,3,2] aF aC (by kernel_rfl) (by kernel_rfl) rfl rfl ?_
     repeat' (first|refine aQ ?_|refine aJ rfl (fun h=>?_) (fun h=>?_)|refine aK rfl rfl (fun h=>?_) (fun h=>?_)|fail)
     refine aS (fuel:=3) (i:=0) (j:=9) (by kernel_rfl) ?_ ?_
     ·refine fK rfl (hW _ _) (fun e1 he1=>?_)
      repeat' (first|refine aQ ?_|refine aJ rfl (fun h=>?_) (fun h=>?_)|refine aK rfl rfl (fun h=>?_) (fun h=>?_)|fail)
      refine aS (fuel:=2) (i:=8) (j:=9) (by kernel_rfl) ?_ ?_
      ·refine fK rfl (hQ e1 _ _ (Hv.mem (List.Mem.head _)) hEl.cons) (fun e9 he9=>?_)
       repeat' (first|refine aQ ?_|refine aJ rfl (fun h=>?_) (fun h=>?_)|refine aK rfl rfl (fun h=>?_) (fun h=>?_)|fail)
       refine aY [9,10] [0,0] aF aC (by kernel_rfl) (by kernel_rfl) rfl rfl ?_
       refine cK (fun b9=>?_)
       repeat' (first|refine aQ ?_|refine aJ rfl (fun h=>?_) (fun h=>?_)|refine aK rfl rfl (fun h=>?_) (fun h=>?_)|fail)
       refine tV ⟨b9,e9,by rw [he9,he1];rfl,rfl,rfl,rfl⟩
      ·refine cK (fun b9=>?_)
       repeat' (first|refine aQ ?_|refine aJ rfl (fun h=>?_) (fun h=>?_)|refine aK rfl rfl (fun h=>?_) (fun h=>?_)|fail)
       refine aY [8,10] [0,0] aF aC (by kernel_rfl) (by kernel_rfl) rfl rfl ?_
       refine fK rfl (hQ e1 _ _ (Hv.mem (List.Mem.head _)) hEl.cons) (fun e9 he9=>?_)
       repeat' (first|refine aQ ?_|refine aJ rfl (fun h=>?_) (fun h=>?_)|refine aK rfl rfl (fun h=>?_) (fun h=>?_)|fail)
       refine tV ⟨b9,e9,by rw [he9,he1];rfl,rfl,rfl,rfl⟩
     ·refine cK (fun b9=>?_)
      repeat' (first|refine aQ ?_|refine aJ rfl (fun h=>?_) (fun h=>?_)|refine aK rfl rfl (fun h=>?_) (fun h=>?_)|fail)
      refine aY [0,8,10] [0,0,0] aF aC (by kernel_rfl) (by kernel_rfl) rfl rfl ?_
      refine fK rfl (hW _ _) (fun e1 he1=>?_)
      refine fK rfl (hQ e1 _ _ (Hv.mem (List.Mem.head _)) hEl.cons) (fun e9 he9=>?_)
      repeat' (first|refine aQ ?_|refine aJ rfl (fun h=>?_) (fun h=>?_)|refine aK rfl rfl (fun h=>?_) (fun h=>?_)|fail)
      refine tV ⟨b9,e9,by rw [he9,he1];rfl,rfl,rfl,rfl⟩
    ·rintro G M I ⟨b9,e9,he9,rfl,rfl,rfl⟩
     obtain ⟨er,her⟩:∃e,(gt rows2 (r:Int)).es=e:=⟨_,rfl⟩
     rw [her]
     rw [her] at hlr hpiv he9
     refine bG (φ:=aP er (kj+kj)) (by rw [←her];exact Hv.rowMm (List.Mem.tail _ (List.Mem.head _)) (by omega) (by omega)) ?_
     repeat' (first|refine aQ ?_|refine aJ rfl (fun h=>?_) (fun h=>?_)|refine aK rfl rfl (fun h=>?_) (fun h=>?_)|fail)
     refine lX [0,5,6,7,9,12,13] rfl (fun k G M I=>∃(c2:Nat) (e1:List RE),j≤c2∧c2≤C∧k=C - c2∧e1.length=C∧(∀t:Nat,c2≤t→gt e1 (t:Int)=gt er (t:Int))∧(∀t:Nat,t < c2→(gt e1 (t:Int)).q=if t < j then (gt er (t:Int)).q else e9.q*(gt er (t:Int)).q)∧G=[(10, .int .i64 c2)]∧M= .blk b9 (eR e9) 77:: .blk (gt rows2 (r:Int)).b (recs eR e1) 77:: .row q r c (recs eZ (zs pv)) 3 1:: .blk bo (recs eM rows2) 70::((rows2.eraseIdx r).map fZ++M1)∧I=aP e1 (kj+kj)::bL e9 (0+kj)::allM rows2 kj::I0) (C - j) (⟨j,er,by omega,by omega,rfl,hlr,fun _ _=>rfl,fun t ht=>by rw [if_pos ht],rfl,rfl,rfl⟩) ?_
     rintro k G M I ⟨c2,e1,hc1,hc2,rfl,hel,hkeep,hdone,rfl,rfl,rfl⟩
     have hlr2:(gt rows2 (r:Int)).es.length=C:=by rw [her];exact hlr
     by_cases hcC:c2 < C
     ·have hgc:gt e1 (c2:Int)=gt er (c2:Int):=hkeep c2 (Nat.le_refl _)
      have hve:Hv (aP e1 (kj+kj)::bL e9 (0+kj)::allM rows2 kj::I0) (bL (gt e1 (c2:Int)) kj):=by rw [hgc,←her];exact Hv.elM (List.Mem.tail _ (List.Mem.tail _ (List.Mem.head _))) (by omega) (by omega) (Nat.le_refl _)
      have hQ:=fun M0=>tK (X:=X) (w0:=w0) (M0:=M0) (a:=e9) (b:=gt e1 (c2:Int)) (k:=0+kj) (m:=kj) (by omega) (Hv.mem (List.Mem.tail _ (List.Mem.head _))) hve
      rw [show 0+kj+kj=kj+kj by omega] at hQ
      repeat' (first|refine aQ ?_|refine aJ rfl (fun h=>?_) (fun h=>?_)|refine aK rfl rfl (fun h=>?_) (fun h=>?_)|fail)
      (repeat refine aG ?_);refine aW 1 [0,1,2,3,4,5,6,7,8,9,10,11,12,13,14,15] [1,1,1,1,1,0,1,1,1,1,1,1,0,0,0,0] mixed (by kernel_rfl) ?_
      repeat' (first|refine aQ ?_|refine aJ rfl (fun h=>?_) (fun h=>?_)|refine aK rfl rfl (fun h=>?_) (fun h=>?_)|fail)
      refine fK rfl (hQ _) (fun e2 he2=>?_)
      repeat refine yXf ?_
      refine fJ (vs:=eR e2) rfl rfl rfl (Ones.one e2) jJ (StAts.r e2 (by omega) rfl) rfl rfl ⟨okF,?_⟩
      repeat' (first|refine aQ ?_|refine aJ rfl (fun h=>?_) (fun h=>?_)|refine aK rfl rfl (fun h=>?_) (fun h=>?_)|fail)
      refine dF (φ:=aP (st e1 (c2:Int) e2) (kj+kj)) (Hv.stR aA aA) ?_
      refine gL (C - (c2+1)) (⟨c2+1,st e1 (c2:Int) e2,by omega,by omega,rfl,by rw [dK];exact hel,fun t ht=>by rw [vJ (by omega),if_neg (by omega)];exact hkeep t (by omega),fun t ht=>?_,rfl,rfl,rfl⟩)
      rw [vJ (by omega)]
      by_cases htj:t=c2
      ·subst htj
       rw [if_pos rfl,if_neg (by omega),he2,hgc]
      ·rw [if_neg htj];exact hdone t (by omega)
     ·obtain rfl:c2=C:=by omega
      have hpr:qs e1=jC j (1 / at2 (mq rows2) r j) (rowAt (mq rows2) r):=by
       rw [yQ (by omega) (by omega),nE (by omega),her,←he9]
       exact aXH hel hlr hdone
      obtain ⟨rows3,hrows3⟩:∃rows3,rows3=rows2.set r ⟨(gt rows2 (r:Int)).b,e1⟩:=⟨_,rfl⟩
      have hl3:rows3.length=R:=by rw [hrows3,List.length_set];exact hl2
      have hg3:gt rows3 (r:Int)=⟨(gt rows2 (r:Int)).b,e1⟩:=by rw [hrows3,dP (by simpa using (show r < rows2.length by omega))];simp
      have hh3:recs eM rows2=recs eM rows3:=by rw [hrows3];exact (xL (by omega) (by rw [her,hlr,hel])).symm
      have he3:rows2.eraseIdx r=rows3.eraseIdx r:=by rw [hrows3,aGB]
      have hmq3:mq rows3=(mq rows2).set r (qs e1):=by rw [hrows3];exact aET
      have hk3:∀t:Nat,t < R→t≠r→gt rows3 (t:Int)=gt rows2 (t:Int):=fun t ht htr=>by
       rw [hrows3,dP (by simpa using (show t < rows2.length by omega)),List.getElem_set_ne (Ne.symm htr)];exact (dP (by omega)).symm
      have hC3:∀t:Nat,t < R→(gt rows3 (t:Int)).es.length=c2:=fun t ht=>by
       by_cases htr:t=r
       ·subst htr;rw [hg3];exact hel
       ·rw [hk3 t ht htr];exact hC2 _ (bF (by omega))
      rw [hh3,he3]
      refine bG (φ:=allM rows3 (4*kj+1)) (by rw [hrows3];exact Hv.setM (k:=kj) (m:=kj+kj) aA aA (by omega) (by omega)) ?_
      refine rJ (M':= .blk (gt rows2 (r:Int)).b (recs eR e1) 77:: .row q r c (recs eZ (zs pv)) 3 1:: .blk bo (recs eM rows3) 70::((rows3.eraseIdx r).map fZ++M1)) (I':=allM rows3 (4*kj+1)::aP e1 (kj+kj)::allM rows2 kj::I0) aF aC ?_
      refine nR (M':= .row q r c (recs eZ (zs pv)) 3 1:: .blk bo (recs eM rows3) 70::(rows3.map fZ++M1)) (by have:=aCS (rows:=rows3) (i:=r) (by omega) (A:= .row q r c (recs eZ (zs pv)) 3 1) (B:= .blk bo (recs eM rows3) 70) (M1:=M1);rw [hg3] at this;exact this.symm) ?_
      clear hkeep hdone hh3 he3 hrows3
      have hlr3:(gt rows3 (r:Int)).es.length=c2:=hC3 r (by omega)
      repeat' (first|refine aQ ?_|refine aJ rfl (fun h=>?_) (fun h=>?_)|refine aK rfl rfl (fun h=>?_) (fun h=>?_)|fail)
      refine lX [0,5,6,7,12,13,89] rfl (fun k G M I=>∃(i:Nat) (rows4:List MR),i≤R∧k=R - i∧rows4.length=R∧(∀t:Nat,t < R→(gt rows4 (t:Int)).es.length=c2)∧(∀t:Nat,i≤t→t < R→gt rows4 (t:Int)=gt rows3 (t:Int))∧gt rows4 (r:Int)=⟨(gt rows2 (r:Int)).b,e1⟩∧(∀t:Nat,t < i→t≠r→qs (gt rows4 (t:Int)).es=if at2 (mq rows3) t j=0 then qs (gt rows3 (t:Int)).es else kS j (at2 (mq rows3) t j) (qs e1) (qs (gt rows3 (t:Int)).es))∧G=[(90, .int .i64 i)]∧M= .row q r c (recs eZ (zs pv)) 3 1:: .blk bo (recs eM rows4) 70::(rows4.map fZ++M1)∧I=allM rows4 (4*kj+1)::aP e1 (kj+kj)::allM rows2 kj::I0) (R) (⟨0,rows3,by omega,by omega,hl3,hC3,fun _ _ _=>rfl,hg3,fun t ht=>by omega,rfl,rfl,rfl⟩) ?_
      rintro k G M I ⟨i,rows4,hi,rfl,hl4,hC4,hrest,hg4,hdone4,rfl,rfl,rfl⟩
      by_cases hiR:i < R
      ·have hgi:=hrest i (Nat.le_refl _) hiR
       by_cases hir:i=r
       ·subst hir
        repeat' (first|refine aQ ?_|refine aJ rfl (fun h=>?_) (fun h=>?_)|refine aK rfl rfl (fun h=>?_) (fun h=>?_)|fail)
        refine gL (R - (i+1)) (⟨i+1,rows4,by omega,rfl,hl4,hC4,fun t ht=>hrest t (by omega),hg4,fun t ht htr=>hdone4 t (by omega) htr,rfl,rfl,rfl⟩)
       ·have hlx:=hC4 i hiR
        have hgi2:gt rows4 (i:Int)=gt rows2 (i:Int):=by rw [hgi];exact hk3 i hiR hir
        have hat:at2 (mq rows3) i j=(gt (gt rows4 (i:Int)).es (j:Int)).q:=by rw [hgi];rw [hgi] at hlx;exact yQ (by omega) (by omega)
        have hlr4:(gt rows4 (r:Int)).es.length=c2:=hC4 r (by omega)
        have hlx0:=hlx
        have hEl:Hv (allM rows4 (4*kj+1)::aP e1 (kj+kj)::allM rows2 kj::I0) (bL (gt (gt rows4 (i:Int)).es (j:Int)) kj):=by rw [hgi2];exact Hv.elM (List.Mem.tail _ (List.Mem.tail _ (List.Mem.head _))) (by omega) (by rw [←hgi2];omega) (Nat.le_refl _)
        have hRw:Hv (allM rows4 (4*kj+1)::aP e1 (kj+kj)::allM rows2 kj::I0) (aP (gt rows4 (i:Int)).es kj):=by rw [hgi2];exact Hv.rowMm (List.Mem.tail _ (List.Mem.tail _ (List.Mem.head _))) (by omega) (Nat.le_refl _)
        have hRr:Hv (allM rows4 (4*kj+1)::aP e1 (kj+kj)::allM rows2 kj::I0) (aP (gt rows4 (r:Int)).es (kj+kj)):=by rw [hg4];exact Hv.mem (List.Mem.tail _ (List.Mem.head _))
        have hfoc:=foc2 (rows:=rows4) (i:=i) (j:=r) (by omega) (by omega) hir (A:= .row q r c (recs eZ (zs pv)) 3 1) (B:= .blk bo (recs eM rows4) 70) (M1:=M1)
        have hS:=fun M0=>nM (X:=X) (w0:=w0) (M0:=M0) (e:=gt (gt rows4 (i:Int)).es (j:Int)) (k:=kj) (by omega) hEl
        refine nR hfoc ?_
        by_cases hx0:(gt (gt rows4 (i:Int)).es (j:Int)).q=0
        ·rw [(nW _).2 hx0] at hS
         repeat' (first|refine aQ ?_|refine aJ rfl (fun h=>?_) (fun h=>?_)|refine aK rfl rfl (fun h=>?_) (fun h=>?_)|fail)
         refine dH rfl (hS _) ?_
         repeat' (first|refine aQ ?_|refine aJ rfl (fun h=>?_) (fun h=>?_)|refine aK rfl rfl (fun h=>?_) (fun h=>?_)|fail)
         refine vS hfoc.symm ?_
         refine gL (R - (i+1)) (⟨i+1,rows4,by omega,rfl,hl4,hC4,fun t ht=>hrest t (by omega),hg4,fun t ht htr=>?_,rfl,rfl,rfl⟩)
         by_cases hti:t=i
         ·subst hti
          rw [hat,if_pos hx0,hgi]
         ·exact hdone4 t (by omega) htr
        ·have hs0:¬(gt (gt rows4 (i:Int)).es (j:Int)).q.num.sign=0:=fun h=>hx0 ((nW _).1 h)
         have hSb:=fun M0 I0 h1 h2 h3=>aCH (X:=X) (w0:=w0) (M0:=M0) (I0:=I0) (b1:=(gt rows4 (i:Int)).b) (b2:=(gt rows4 (r:Int)).b) (es:=(gt rows4 (i:Int)).es) (os:=(gt rows4 (r:Int)).es) (κ:=gt (gt rows4 (i:Int)).es (j:Int)) (kz:=kj) (h:=kj+kj) (m:=kj) (fr:=j) (n:=c2) (M1:= .row q r c (recs eZ (zs pv)) 3 1:: .blk bo (recs eM rows4) 70::((jX rows4 i r).map fZ++M1)) (by omega) (by omega) hlx hlr4 (by omega) h1 h2 h3
         have hK:kj+(kj+(kj+kj))+1=4*kj+1:=by omega
         rw [hK] at hSb
         generalize (gt (gt rows4 (i:Int)).es (j:Int)).q.num.sign=sg at*
         repeat' (first|refine aQ ?_|refine aJ rfl (fun h=>?_) (fun h=>?_)|refine aK rfl rfl (fun h=>?_) (fun h=>?_)|fail)
         refine dH rfl (hS _) ?_
         repeat' (first|refine aQ ?_|refine aJ rfl (fun h=>?_) (fun h=>?_)|refine aK rfl rfl (fun h=>?_) (fun h=>?_)|fail)
         (repeat refine aG ?_);refine nV 1 (.blk bo (recs eM rows4) 70::((jX rows4 i r).map fZ++M1)) (allM rows4 (4*kj+1)::aP e1 (kj+kj)::allM rows2 kj::I0) [0,1,2,3,4,5,6,7,8,9,10,11,12,13,14,15,16] [1,1,1,0,1,1,1,0,1,1,1,1,1,1,0,0,0] aF aC mixed (by kernel_rfl) ?_
         repeat' (first|refine aQ ?_|refine aJ rfl (fun h=>?_) (fun h=>?_)|refine aK rfl rfl (fun h=>?_) (fun h=>?_)|fail)
         rw [hlx0,hlr4]
         refine bQ (φ:=aP (gt rows4 (i:Int)).es kj) hRw ?_
         refine bQ (φ:=bL (gt (gt rows4 (i:Int)).es (j:Int)) kj) hEl.cons ?_
         refine bQ (φ:=aP (gt rows4 (r:Int)).es (kj+kj)) hRr.cons.cons ?_
         (refine kH rfl (hSb _ _ (List.Mem.tail _ (List.Mem.tail _ (List.Mem.head _))) (List.Mem.head _) (List.Mem.tail _ (List.Mem.head _)) rfl) rfl rfl ?_;rintro _ _ _ ⟨rfl,e5,hl5,hd5,rfl,rfl⟩;refine aN ?_)
         obtain ⟨rows5,hrows5⟩:∃rows5,rows5=rows4.set i ⟨(gt rows4 (i:Int)).b,e5⟩:=⟨_,rfl⟩
         have hl5':rows5.length=R:=by rw [hrows5,List.length_set];exact hl4
         have hh5:recs eM rows4=recs eM rows5:=by rw [hrows5];exact (xL (by omega) (by rw [hlx0,hl5])).symm
         have hr5:jX rows4 i r=jX rows5 i r:=by rw [hrows5,rW _ _ _ _ hir]
         have hg5i:gt rows5 (i:Int)=⟨(gt rows4 (i:Int)).b,e5⟩:=by rw [hrows5,dP (by simpa using (show i < rows4.length by omega))];simp
         have hg5o:∀t:Nat,t < R→t≠i→gt rows5 (t:Int)=gt rows4 (t:Int):=fun t ht hti=>by
          rw [hrows5,dP (by simpa using (show t < rows4.length by omega)),List.getElem_set_ne (Ne.symm hti)];exact (dP (by omega)).symm
         have hf5:=foc2 (rows:=rows5) (i:=i) (j:=r) (by omega) (by omega) hir (A:= .row q r c (recs eZ (zs pv)) 3 1) (B:= .blk bo (recs eM rows5) 70) (M1:=M1)
         rw [hg5i,hg5o r (by omega) (Ne.symm hir)] at hf5
         rw [hh5,hr5]
         refine zU hf5.symm ?_
         refine bQ (φ:=allM rows5 (4*kj+1)) (by rw [hrows5];exact Hv.setM (k:=4*kj+1) (m:=4*kj+1) aA aA (by omega) (by omega)) ?_
         repeat' (first|refine aQ ?_|refine aJ rfl (fun h=>?_) (fun h=>?_)|refine aK rfl rfl (fun h=>?_) (fun h=>?_)|fail)
         refine gL (R - (i+1)) (⟨i+1,rows5,by omega,rfl,hl5',fun t ht=>?_,fun t ht htR=>?_,?_,fun t ht htr=>?_,rfl,rfl,rfl⟩)
         ·by_cases hti:t=i
          ·subst hti;rw [hg5i];exact hl5
          ·rw [hg5o t ht hti];exact hC4 t ht
         ·rw [hg5o t htR (by omega)];exact hrest t (by omega) htR
         ·rw [hg5o r (by omega) (Ne.symm hir)];exact hg4
         ·by_cases hti:t=i
          ·subst hti
           rw [hg5i,hat,if_neg hx0,←hgi]
           rw [hg4] at hd5
           exact aYY hl5 hlx hel hd5
          ·rw [hg5o t (by omega) hti];exact hdone4 t (by omega) htr
      ·obtain rfl:i=R:=by omega
       have hmq4:mq rows4=wJ (mq rows1) r j x:=by
        unfold wJ
        rw [←hmq2,←hpr,←hmq3]
        exact bCN hl4 hl3 (by omega) (by rw [hg4]) hg3 hdone4
       have e1:recs eZ (zs pv)++recs eZ [(j:Int)]=recs eZ (zs (pv++[j])):=by rw [←lZ];exact congrArg (recs eZ) (List.map_append (f:=fun (x:Nat)=>(x:Int)) (l₁:=pv) (l₂:=[j])).symm
       repeat' (first|refine aQ ?_|refine aJ rfl (fun h=>?_) (fun h=>?_)|refine aK rfl rfl (fun h=>?_) (fun h=>?_)|fail)
       refine gK (cs:=recs eZ [(j:Int)]) ([.int .i64 (j:Int)]) rfl (fun b3=>?_)
       refine aNO (len:=1) (news:=recs eZ [(j:Int)]) 1 rfl rfl rfl (Src.blk aA) (by decide) rfl (uP (enc:=eZ) [(j:Int)]) (by omega) (by omega) rfl rfl ?_
       intro a2 c3
       refine aN ?_
       rw [e1]
       repeat' (first|refine aQ ?_|refine aJ rfl (fun h=>?_) (fun h=>?_)|refine aK rfl rfl (fun h=>?_) (fun h=>?_)|fail)
       refine dF (φ:=allM rows4 (kb k0 (j+1))) (Hv.monoM (List.Mem.head _) (by omega)) ?_
       refine gL (n - (j+1)) (⟨j+1,r+1,rows4,pv++[j],a2,c3,by omega,rfl,by simp [hr],hl4,fun s hs=>?_,?_,by omega,by omega,rfl,rfl,rfl⟩)
       ·obtain ⟨t,ht,rfl⟩:=List.mem_iff_getElem.1 hs
        have:=hC4 t (by omega)
        rwa [dP ht] at this
       ·rw [uH,hred]
        unfold aMU
        rw [hlen1,hr,hfx2,if_pos hxR2,hmq4]
   ·obtain rfl:x=R:=by omega
    repeat' (first|refine aQ ?_|refine aJ rfl (fun h=>?_) (fun h=>?_)|refine aK rfl rfl (fun h=>?_) (fun h=>?_)|fail)
    refine dF (φ:=allM rows1 (kb k0 (j+1))) (Hv.monoM (List.Mem.head _) (by omega)) ?_
    refine gL (n - (j+1)) (⟨j+1,r,rows1,pv,q,c,by omega,rfl,hr,hl1,hC1,?_,hpv,by omega,rfl,rfl,rfl⟩)
    rw [uH,hred]
    unfold aMU
    rw [hlen1,hr,hfx2,if_neg (by omega)]
 ·obtain rfl:j=n:=by omega
  repeat' (first|refine aQ ?_|refine aJ rfl (fun h=>?_) (fun h=>?_)|refine aK rfl rfl (fun h=>?_) (fun h=>?_)|fail)
  subst hr
  refine iR rfl rfl (⟨rows1,pv,q,c,rfl,hl1,hC1,hred,hpv,rfl,rfl⟩)
end
structure RW where
 n1:Bool
 p1:Option Addr
 g1:List Int
 c1:Nat
 n2:Bool
 p2:Option Addr
 g2:List Int
 c2:Nat
instance:Inhabited RW:=⟨⟨false,none,[],0,false,none,[],0⟩⟩
abbrev eW (r:RW):List Value:=[.bool r.n1, .slice r.p1 r.g1.length r.c1, .bool r.n2, .slice r.p2 r.g2.length r.c2]
abbrev wv (r:RW):Value:= .agg #[.bool r.n1, .slice r.p1 r.g1.length r.c1, .bool r.n2, .slice r.p2 r.g2.length r.c2]
instance:Sized eW 4:=⟨fun _=>rfl⟩
instance:Ones eW:=⟨fun m u hu=>by
 simp only [eW,List.mem_cons,List.not_mem_nil,or_false] at hu
 rcases hu with rfl|rfl|rfl|rfl <;>rfl⟩
abbrev Cap (p:Option Addr) (n c:Nat):Prop:=n≤c∧(Ok p∨(n=0∧c=0))
structure RW.Fit (r:RW):Prop where
 u1:∀x∈r.g1,0≤x
 u2:∀x∈r.g2,0≤x
 l1:(r.g1.length:Int)≤9223372036854775807
 l2:(r.g2.length:Int)≤9223372036854775807
 k1:Cap r.p1 r.g1.length r.c1
 k2:Cap r.p2 r.g2.length r.c2
structure IsW (r:RW) (X:List Nat) (w:World):Prop where
 fit:r.Fit
 s1:Sl X w r.p1 (recs eG r.g1)
 s2:Sl X w r.p2 (recs eG r.g2)
abbrev isW (r:RW):aL:=IsW r
instance (r:RW):Fx.Good (IsW r):=⟨fun X Y w w' h he hY=>⟨h.fit,Sl.carry h.s1 he hY,Sl.carry h.s2 he hY⟩⟩
def zI (n:Bool) (g:List Int):Int:=if n=true then -val g else val g
theorem aRQ {n:Bool} {g:List Int} (h:vM n g) (hu:∀x∈g,0≤x):B (zI n g < 0)=n∧gr (zI n g).natAbs=g:=by
 rcases h with ⟨rfl,rfl⟩|⟨h1,h2,h3⟩
 ·exact ⟨bH (by simp [zI,val]),by simp [zI,val,gQ]⟩
 ·have hd:Dig g:=fun x hx=>⟨hu x hx,by
   have:¬1000000000≤x:=fun e=>h3 ⟨x,hx,e⟩
   omega⟩
  have hc:Can g:=⟨hd,h2⟩
  have hp:0 < g.length:=by cases g with|nil=>exact absurd rfl h1|cons a l=>simp
  have hv:=aBN hc hp
  have hpp:=jD (g.length - 1)
  have ha:(zI n g).natAbs=(val g).toNat:=by unfold zI;split <;>omega
  refine ⟨?_,by rw [ha];exact (bDM hc).symm⟩
  cases n with
  |true=>exact bK (by simp only [zI,if_pos];omega)
  |false=>exact bH (by simp only [zI];rw [if_neg (by decide)];omega)
theorem aIJ (z:Int):zI (B (z < 0)) (gr z.natAbs)=z:=by
 unfold zI
 rw [cZ,tZ]
 by_cases h:z < 0
 ·rw [if_pos (by simpa using h)];omega
 ·rw [if_neg (by simpa using h)];omega
theorem bAH (n:Nat):(1000000000:Nat) ^ n≤2 ^ (30*n):=by
 rw [Nat.pow_mul]
 exact Nat.pow_le_pow_left (by decide) n
theorem bBL {z:Int}:z.natAbs≤2 ^ (30*(gr z.natAbs).length):=by
 have h1:=jW (bT z.natAbs)
 rw [cZ] at h1
 have h2:=bAH (gr z.natAbs).length
 have h3:((1000000000 ^ (gr z.natAbs).length:Nat):Int)=(1000000000:Int) ^ (gr z.natAbs).length:=by rw [Int.natCast_pow];rfl
 omega
def RW.good (r:RW):Prop:=vM r.n1 r.g1∧vM r.n2 r.g2∧0 < zI r.n2 r.g2∧Int.gcd (zI r.n1 r.g1) (zI r.n2 r.g2)=1
instance (r:RW):Decidable r.good:=by unfold RW.good;exact inferInstance
def RE.raw (e:RE):RW:=⟨B (e.q.num < 0),e.p1,gr e.q.num.natAbs,e.c1,B ((e.q.den:Int) < 0),e.p2,gr (e.q.den:Int).natAbs,e.c2⟩
theorem RE.raw_good (e:RE):e.raw.good:=by
 refine ⟨aCB _,aCB _,?_,?_⟩
 ·show 0 < zI (B ((e.q.den:Int) < 0)) (gr (e.q.den:Int).natAbs)
  rw [aIJ];have:=e.q.den_nz;omega
 ·show Int.gcd (zI (B (e.q.num < 0)) (gr e.q.num.natAbs)) (zI (B ((e.q.den:Int) < 0)) (gr (e.q.den:Int).natAbs))=1
  rw [aIJ,aIJ]
  exact e.q.reduced
theorem RE.fit {e:RE} {k:Nat} {X:List Nat} {w:World} (hk:k≤1000000000000) (h:IsR e k X w):IsW e.raw X w:=by
 obtain ⟨q,c,h1,h2,h3,h4⟩:=h.num.ex
 obtain ⟨q',c',i1,i2,i3,i4⟩:=h.den.ex
 simp only [iv,Value.agg.injEq,Array.mk.injEq,List.cons.injEq,Value.slice.injEq,and_true,true_and] at h1 i1
 obtain ⟨rfl,rfl⟩:=h1
 obtain ⟨rfl,rfl⟩:=i1
 have a1:=fV h3 hk
 have a2:=fV i3 hk
 exact ⟨⟨fun x hx=>(bT _ x hx).1,fun x hx=>(bT _ x hx).1,by show ((gr e.q.num.natAbs).length:Int)≤_;omega,by show ((gr (e.q.den:Int).natAbs).length:Int)≤_;omega,h2,i2⟩,h4,i4⟩
section
variable {X:List Nat} {w0:World} {M0:List Ent} {I0:List aL}
theorem aUM {P:Program} {f:FuncId} {vs:List Value} {K:Value→Prop} {r:RW} (h:Hv I0 (isW r)) (c:r.Fit→CD P f vs X w0 M0 (aI r.p1 (recs eG r.g1)::aI r.p2 (recs eG r.g2)::I0) (fun v M I=>M0=M∧aI r.p1 (recs eG r.g1)::aI r.p2 (recs eG r.g2)::I0=I∧K v)):
  CD P f vs X w0 M0 I0 (fun v M I=>M0=M∧I0=I∧K v):=⟨fun w hw=>by
 have hr:IsW r (muts M0) w:=h.go _ _ (fun ψ hm=>(hw.imm ψ hm).2)
 have hw':=(hw.add (φ:=aI r.p2 (recs eG r.g2)) ⟨hr.s2⟩).add (φ:=aI r.p1 (recs eG r.g1)) ⟨hr.s1⟩
 refine ((c hr.fit).go w hw').mono (fun _ _ h=>?_)
 obtain ⟨_,_,⟨rfl,rfl,h3⟩,hm⟩:=h
 exact ⟨_,_,⟨rfl,rfl,h3⟩,hm.inc (Inc.wk (Inc.wk Inc.refl))⟩⟩
theorem aHR {P:Program} {f:FuncId} {vs:List Value} {K:Value→Prop} {p:Option Addr} {c k:Nat} {z:Int} (hs:aI p (recs eG (gr z.natAbs))∈I0) (hc:Cap p (gr z.natAbs).length c) (hk:30*(gr z.natAbs).length≤k) (h:CD P f vs X w0 M0 (iA (vI p c z) z k::I0) (fun v M I=>M0=M∧iA (vI p c z) z k::I0=I∧K v)):
  CD P f vs X w0 M0 I0 (fun v M I=>M0=M∧I0=I∧K v):=⟨fun w hw=>by
 have hw':=aII hw hs hc (Nat.le_trans bBL (Nat.pow_le_pow_right (by decide) hk))
 refine (h.go w hw').mono (fun _ _ h=>?_)
 obtain ⟨_,_,⟨rfl,rfl,h3⟩,hm⟩:=h
 exact ⟨_,_,⟨rfl,rfl,h3⟩,hm.inc (Inc.wk Inc.refl)⟩⟩
theorem bCP (n:Nat):(gD (n:Int) 1=0)↔n=1:=by
 unfold gD
 split
 ·omega
 ·split <;>omega
theorem aNS {p1 p2:Option Addr} {c1 c2 k:Nat} {y z:Int} (hk:k≤500000000000) (h1:iA (vI p1 c1 y) y k∈I0) (h2:iA (vI p2 c2 z) z k∈I0):
  CD Tryz.prog 57 [.agg #[.bool (B (y < 0)), .slice p1 (gr y.natAbs).length c1, .bool (B (z < 0)), .slice p2 (gr z.natAbs).length c2]] X w0 M0 I0 (fun v M I=>M0=M∧I0=I∧v= .bool (B (0 < z∧Int.gcd y z=1))):=by
 have hV1:=fun M0 I0 h=>rY (X:=X) (w0:=w0) (M0:=M0) (I0:=I0) (u:=vI p1 c1 y) (z:=y) (k:=k) (by omega) h
 have hV2:=fun M0 I0 h=>rY (X:=X) (w0:=w0) (M0:=M0) (I0:=I0) (u:=vI p2 c2 z) (z:=z) (k:=k) (by omega) h
 have hS:=fun M0 I0=>qG (X:=X) (w0:=w0) (M0:=M0) (I0:=I0) (u:=vI p2 c2 z) (z:=z) (k:=k) (by omega)
 have hs:z.sign≤0↔¬0 < z:=by rw [←Int.sign_pos_iff];omega
 have hG:=fun M0 I0=>aIL (X:=X) (w0:=w0) (M0:=M0) (I0:=I0) (u:=vI p1 c1 y) (v:=vI p2 c2 z) (y:=y) (z:=z) (k0:=k) (m:=k) (by omega) (by omega)
 generalize hg:Int.gcd y z=g at*
 have hC:=fun u v M0 I0=>zF (X:=X) (w0:=w0) (M0:=M0) (I0:=I0) (u:=u) (v:=v) (y:=g) (z:=1) (k:=k+k) (m:=63) (by omega) (by omega)
 have hc:=bCP g
 generalize gD (g:Int) 1=cv at*
 generalize z.sign=sz at*
 refine aR Tryz.func57 rfl Tryz.ntmps57 rfl ?_
 refine gG ?_
 refine gN rfl (fun b=>?_)
 repeat refine aQ ?_
 refine dH rfl (hV1 _ _ aA) ?_
 repeat refine aQ ?_
 refine dH rfl (hV2 _ _ aA) ?_
 repeat refine aQ ?_
 refine dH rfl (hS _ _ aA) ?_
 repeat' (first|refine aQ ?_|refine aJ rfl (fun h=>?_) (fun h=>?_)|refine aK rfl rfl (fun h=>?_) (fun h=>?_)|fail)
 ·refine aU (by first|exact .inl rfl|exact .inr rfl) rfl rfl _ _ aF aC (⟨rfl,rfl,congrArg Value.bool (bH (fun e=>hs.1 (by assumption) e.1)).symm⟩)
 (refine bD rfl (hG _ _ aA aA) ?_;rintro _ _ _ ⟨rfl,rfl⟩;refine aN ?_)
 repeat refine aQ ?_
 (refine bD rfl (aFL (x:=1) (by decide)) ?_;rintro _ _ _ ⟨rfl,rfl⟩;refine aN ?_)
 refine dH rfl (hC _ _ _ _ aA aA) ?_
 repeat refine aQ ?_
 refine iR rfl rfl (⟨rfl,rfl,congrArg Value.bool (iZ ⟨fun e=>⟨by omega,hc.1 e⟩,fun e=>hc.2 e.2⟩)⟩)
theorem aST {r:RW} (hl:r.g1.length≤1000000000∧r.g2.length≤1000000000) (h:Hv I0 (isW r)):
  CD Tryz.prog 57 [wv r] X w0 M0 I0 (fun v M I=>M0=M∧I0=I∧v= .bool (B r.good)):=by
 refine aUM h (fun hf=>?_)
 obtain ⟨n1,p1,g1,c1,n2,p2,g2,c2⟩:=r
 simp only at hl
 by_cases k1:vM n1 g1
 ·by_cases k2:vM n2 g2
  ·obtain ⟨a1,a2⟩:=aRQ k1 hf.u1
   obtain ⟨b1,b2⟩:=aRQ k2 hf.u2
   have hg:(RW.mk n1 p1 g1 c1 n2 p2 g2 c2).good↔(0 < zI n2 g2∧Int.gcd (zI n1 g1) (zI n2 g2)=1):=⟨fun h=>h.2.2,fun h=>⟨k1,k2,h⟩⟩
   rw [iZ hg]
   generalize zI n1 g1=y at*
   generalize zI n2 g2=z at*
   subst a1;subst a2;subst b1;subst b2
   refine aHR (p:=p1) (c:=c1) (z:=y) (k:=30000000000) (List.Mem.head _) hf.k1 (by omega) ?_
   refine aHR (p:=p2) (c:=c2) (z:=z) (k:=30000000000) (List.Mem.tail _ (List.Mem.tail _ (List.Mem.head _))) hf.k2 (by omega) ?_
   exact aNS (by omega) (List.Mem.tail _ (List.Mem.head _)) (List.Mem.head _)
  ·have hg:¬(RW.mk n1 p1 g1 c1 n2 p2 g2 c2).good:=fun h=>k2 h.2.1
   rw [bH hg]
   have hV1:=fun M0 I0=>xB (X:=X) (w0:=w0) (M0:=M0) (I0:=I0) (neg:=n1) (q:=p1) (gs:=g1) (c:=c1) hf.l1
   have hV2:=fun M0 I0=>xB (X:=X) (w0:=w0) (M0:=M0) (I0:=I0) (neg:=n2) (q:=p2) (gs:=g2) (c:=c2) hf.l2
   rw [bK k1] at hV1
   rw [bH k2] at hV2
   refine aR Tryz.func57 rfl Tryz.ntmps57 rfl ?_
   refine gG ?_
   refine gN rfl (fun b=>?_)
   repeat refine aQ ?_
   refine dH rfl (hV1 _ _ aA) ?_
   repeat refine aQ ?_
   refine dH rfl (hV2 _ _ aA) ?_
   repeat refine aQ ?_
   refine iR rfl rfl (⟨rfl,rfl,rfl⟩)
 ·have hg:¬(RW.mk n1 p1 g1 c1 n2 p2 g2 c2).good:=fun h=>k1 h.1
  rw [bH hg]
  have hV1:=fun M0 I0=>xB (X:=X) (w0:=w0) (M0:=M0) (I0:=I0) (neg:=n1) (q:=p1) (gs:=g1) (c:=c1) hf.l1
  rw [bH k1] at hV1
  refine aR Tryz.func57 rfl Tryz.ntmps57 rfl ?_
  refine gG ?_
  refine gN rfl (fun b=>?_)
  repeat refine aQ ?_
  refine dH rfl (hV1 _ _ aA) ?_
  repeat refine aQ ?_
  refine iR rfl rfl (⟨rfl,rfl,rfl⟩)
end
structure RL where
 p:Option Addr
 c:Nat
 es:List RE
instance:Inhabited RL:=⟨⟨none,0,[]⟩⟩
abbrev eL (r:RL):List Value:=[.slice r.p r.es.length r.c]
abbrev lv (r:RL):Value:= .slice r.p r.es.length r.c
instance:Sized eL 1:=⟨fun _=>rfl⟩
instance:Ones eL:=⟨fun m u hu=>by simp only [eL,List.mem_cons,List.not_mem_nil,or_false] at hu;subst hu;rfl⟩
structure IsL (r:RL) (k:Nat) (X:List Nat) (w:World):Prop where
 sl:Sl X w r.p (recs eR r.es)
 el:∀e∈r.es,IsR e k X w
 cap:Cap r.p r.es.length r.c
abbrev iN (r:RL) (k:Nat):aL:=IsL r k
instance (r:RL) (k:Nat):Fx.Good (IsL r k):=⟨fun X Y w w' h he hY=>⟨Sl.carry h.sl he hY,fun e hm=>Fx.Good.go (φ:=IsR _ _) X Y w w' (h.el e hm) he hY,h.cap⟩⟩
abbrev RL.q (r:RL):List Rat:=qs r.es
structure MX where
 p:Option Addr
 c:Nat
 rows:List RL
instance:Inhabited MX:=⟨⟨none,0,[]⟩⟩
abbrev eMX (m:MX):List Value:=[.slice m.p m.rows.length m.c]
abbrev mv (m:MX):Value:= .slice m.p m.rows.length m.c
instance:Sized eMX 1:=⟨fun _=>rfl⟩
instance:Ones eMX:=⟨fun m u hu=>by simp only [eMX,List.mem_cons,List.not_mem_nil,or_false] at hu;subst hu;rfl⟩
structure IsX (m:MX) (k:Nat) (X:List Nat) (w:World):Prop where
 sl:Sl X w m.p (recs eL m.rows)
 row:∀r∈m.rows,IsL r k X w
 cap:Cap m.p m.rows.length m.c
abbrev gI (m:MX) (k:Nat):aL:=IsX m k
instance (m:MX) (k:Nat):Fx.Good (IsX m k):=⟨fun X Y w w' h he hY=>⟨Sl.carry h.sl he hY,fun e hm=>Fx.Good.go (φ:=IsL _ _) X Y w w' (h.row e hm) he hY,h.cap⟩⟩
abbrev MX.q (m:MX):Mt:=m.rows.map RL.q
def MX.dim (m:MX) (R C:Nat):Prop:=m.rows.length=R∧∀r∈m.rows,r.es.length=C
theorem MX.dim.row {m:MX} {R C:Nat} (h:m.dim R C) {i:Nat} (hi:i < R):(gt m.rows (i:Int)).es.length=C:=h.2 _ (bF ⟨by omega,by have:=h.1;omega⟩)
/- what follows from the facts -/
theorem Hv.xsl {I:List aL} {m:MX} {k:Nat} (h:gI m k∈I):Hv I (aI m.p (recs eL m.rows)):=⟨fun X w hw=>⟨(hw _ h:IsX m k X w).sl⟩⟩
theorem Hv.xrow {I:List aL} {m:MX} {k:Nat} {i:Int} (h:gI m k∈I) (hi:0≤i∧i < m.rows.length):Hv I (iN (gt m.rows i) k):=⟨fun X w hw=>(hw _ h:IsX m k X w).row _ (bF hi)⟩
theorem Hv.xrsl {I:List aL} {m:MX} {k:Nat} {i:Int} (h:gI m k∈I) (hi:0≤i∧i < m.rows.length):Hv I (aI (gt m.rows i).p (recs eR (gt m.rows i).es)):=⟨fun X w hw=>⟨((hw _ h:IsX m k X w).row _ (bF hi)).sl⟩⟩
theorem Hv.xel {I:List aL} {m:MX} {k:Nat} {i j:Int} (h:gI m k∈I) (hi:0≤i∧i < m.rows.length) (hj:0≤j∧j < (gt m.rows i).es.length):Hv I (bL (gt (gt m.rows i).es j) k):=⟨fun X w hw=>((hw _ h:IsX m k X w).row _ (bF hi)).el _ (bF hj)⟩
theorem Hv.lsl {I:List aL} {r:RL} {k:Nat} (h:iN r k∈I):Hv I (aI r.p (recs eR r.es)):=⟨fun X w hw=>⟨(hw _ h:IsL r k X w).sl⟩⟩
theorem Hv.lel {I:List aL} {r:RL} {k:Nat} {j:Int} (h:iN r k∈I) (hj:0≤j∧j < r.es.length):Hv I (bL (gt r.es j) k):=⟨fun X w hw=>(hw _ h:IsL r k X w).el _ (bF hj)⟩
theorem IsL.mono {r:RL} {k m:Nat} {X:List Nat} {w:World} (h:IsL r k X w) (hk:k≤m):IsL r m X w:=⟨h.sl,fun e he=>(h.el e he).mono hk,h.cap⟩
theorem IsX.mono {x:MX} {k m:Nat} {X:List Nat} {w:World} (h:IsX x k X w) (hk:k≤m):IsX x m X w:=⟨h.sl,fun e he=>(h.row e he).mono hk,h.cap⟩
theorem Hv.lm {I:List aL} {r:RL} {k m:Nat} (h:iN r k∈I) (hk:k≤m):Hv I (iN r m):=⟨fun X w hw=>IsL.mono (hw _ h) hk⟩
theorem Hv.xm {I:List aL} {r:MX} {k m:Nat} (h:gI r k∈I) (hk:k≤m):Hv I (gI r m):=⟨fun X w hw=>IsX.mono (hw _ h) hk⟩
/- the posts -/
def XQ (A:Mt) (R C k:Nat) (M0:List Ent) (I0:List aL) (v:Value) (M:List Ent) (I:List aL):Prop:=M0=M∧∃m:MX,v=mv m∧m.q=A∧m.dim R C∧I=gI m k::I0
def XQc (A:Mt) (R C k:Nat) (M0:List Ent) (I0:List aL) (v:Value) (M:List Ent) (I:List aL):Prop:=M0=M∧∃m:MX,v= .tuple #[mv m, .int .i64 0]∧m.q=A∧m.dim R C∧I=gI m k::I0
def LQ (l:List Rat) (k:Nat) (M0:List Ent) (I0:List aL) (v:Value) (M:List Ent) (I:List aL):Prop:=M0=M∧∃r:RL,v=lv r∧r.q=l∧I=iN r k::I0
def LQc (l:List Rat) (k:Nat) (M0:List Ent) (I0:List aL) (v:Value) (M:List Ent) (I:List aL):Prop:=M0=M∧∃r:RL,v= .tuple #[lv r, .int .i64 0]∧r.q=l∧I=iN r k::I0
def xE (R C:Nat) (F:Nat→Nat→Rat):Mt:=(List.range R).map (fun i=>(List.range C).map (F i))
theorem qY {R C:Nat} {F:Nat→Nat→Rat} {i j:Nat} (hi:i < R) (hj:j < C):at2 (xE R C F) i j=F i j:=by
 unfold at2 rowAt xE
 simp [List.getD,hi,hj]
theorem xV {R C:Nat} {F G:Nat→Nat→Rat} (h:∀i j,i < R→j < C→F i j=G i j):xE R C F=xE R C G:=by
 unfold xE
 apply List.map_congr_left
 intro i hi
 apply List.map_congr_left
 intro j hj
 exact h i j (List.mem_range.1 hi) (List.mem_range.1 hj)
theorem oQ {m:MX} {i j:Nat} (hi:i < m.rows.length) (hj:j < (gt m.rows (i:Int)).es.length):at2 m.q i j=(gt (gt m.rows (i:Int)).es (j:Int)).q:=by
 rw [dP hi] at hj
 unfold at2 rowAt
 rw [dP hi,dP hj]
 simp [List.getD,hi,hj]
theorem MX.dim.mk {m:MX} {R C:Nat} (h:m.dim R C):m.q=xE R C (at2 m.q):=by
 apply List.ext_getElem
 ·simp [xE,h.1]
 ·intro i h1 h2
  have hi:i < m.rows.length:=by simpa using h1
  have hc:=h.2 _ (List.getElem_mem hi)
  apply List.ext_getElem
  ·simp [xE,hc]
  ·intro j h3 h4
   have hj:j < (m.rows[i]).es.length:=by simpa using h3
   simp only [xE,List.getElem_map,List.getElem_range]
   rw [oQ hi (by rw [dP hi];exact hj),dP hi,dP hj]
/- a matrix made is a matrix that is read -/
def MR.l (r:MR):RL:=⟨some ⟨r.b,0,none⟩,r.es.length,r.es⟩
theorem aCG {X:List Nat} {w0 w:World} {k:Nat}:∀{rows:List MR} {M:List Ent} {I:List aL},Mem X w0 (rows.map fZ++M) I w→(∀r∈rows,AllR r.es k (muts (rows.map fZ++M)) w)→∃I',(∀φ∈I,φ∈I')∧(∀r∈rows,iN r.l k∈I')∧Mem X w0 M I' w
 |[],M,I,h,_=>⟨I,fun _ h=>h,fun r hr=>by simp at hr,h⟩
 |r::rows,M,I,h,ha=>by
  have h1:Mem X w0 (rows.map fZ++M) (aI (some ⟨r.b,0,none⟩) (recs eR r.es)::I) w:=h.freezeB .here
  have hsub:∀y∈muts (rows.map fZ++M),y∈muts ((r::rows).map fZ++M):=fun y hy=>by simp [muts] at hy ⊢;right;exact hy
  have h2:IsL r.l k (muts (rows.map fZ++M)) w:=by
   refine ⟨(h1.sl (List.Mem.head _)),fun e he=>?_,Nat.le_refl _, .inl (Ok.mk _ _)⟩
   exact Fx.Good.go (φ:=IsR _ _) _ _ w w ((ha r (List.Mem.head _)).go e he) (Ext.refl _ _) (fun y hy=> .inl (hsub y hy))
  obtain ⟨I',i1,i2,i3⟩:=aCG (h1.add (φ:=iN r.l k) h2) (fun s hs=>⟨fun e he=>Fx.Good.go (φ:=IsR _ _) _ _ w w ((ha s (List.Mem.tail _ hs)).go e he) (Ext.refl _ _) (fun y hy=> .inl (hsub y hy))⟩)
  refine ⟨I',fun φ hφ=>i1 φ (List.Mem.tail _ (List.Mem.tail _ hφ)),fun s hs=>?_,i3⟩
  rcases List.mem_cons.1 hs with rfl|hs
  ·exact i1 _ (List.Mem.head _)
  ·exact i2 s hs
def MR.x (bo:Nat) (rows:List MR):MX:=⟨some ⟨bo,0,none⟩,rows.length,rows.map MR.l⟩
theorem bES (rows:List MR):recs eL (rows.map MR.l)=recs eM rows:=by
 induction rows with
 |nil=>rfl
 |cons x r ih=>
  have h1:recs eL ((x::r).map MR.l)=eL x.l++recs eL (r.map MR.l):=rfl
  have h2:recs eM (x::r)=eM x++recs eM r:=rfl
  rw [h1,h2,ih]
  rfl
theorem q_x (bo:Nat) (rows:List MR):(MR.x bo rows).q=mq rows:=by
 unfold MR.x
 simp [MX.q,MR.l,Function.comp_def]
theorem aRR {X:List Nat} {w0 w:World} {k bo:Nat} {rows:List MR} {M:List Ent} {I:List aL} (h:Mem X w0 (.blk bo (recs eM rows) 70::(rows.map fZ++M)) I w) (ha:allM rows k∈I):Mem X w0 M (gI (MR.x bo rows) k::I) w:=by
 have h0:Mem X w0 (rows.map fZ++M) (aI (some ⟨bo,0,none⟩) (recs eM rows)::I) w:=h.freezeB .here
 obtain ⟨I',i1,i2,i3⟩:=aCG (k:=k) h0 (fun r hr=>⟨fun e he=>((h0.imm _ (List.Mem.tail _ ha)).2:AllM rows k _ w).go r hr e he⟩)
 have h3:IsX (MR.x bo rows) k (muts M) w:=by
  refine ⟨?_,fun r hr=>?_,?_⟩
  ·rw [show (MR.x bo rows).rows=rows.map MR.l from rfl,bES];exact i3.sl (i1 _ (List.Mem.head _))
  ·obtain ⟨s,hs,rfl⟩:=List.mem_map.1 hr
   exact (i3.imm _ (i2 s hs)).2
  ·show Cap (some ⟨bo,0,none⟩) (rows.map MR.l).length rows.length
   rw [List.length_map];exact ⟨Nat.le_refl _, .inl (Ok.mk _ _)⟩
 exact (i3.add (φ:=gI (MR.x bo rows) k) h3).inc (.of fun φ hφ=>by
  rcases List.mem_cons.1 hφ with rfl|hφ
  ·exact List.Mem.head _
  ·exact List.Mem.tail _ (i1 _ (List.Mem.tail _ hφ)))
section
variable {X:List Nat} {w0:World} {M0:List Ent} {I0:List aL}
theorem aKA {g:FuncId} [FnOk Tryz.prog g] {fs cs:Array Value} {R C k0:Nat} (hR:R≤100) (hC:C≤200) (F:Nat→Nat→Rat)
  (hg:∀M I,(∀φ∈I0,φ∈I)→∀i j:Nat,i < R→j < C→CD Tryz.prog g (fs.toList++[.int .i64 (i:Int), .int .i64 (j:Int)]++cs.toList) X w0 M I (RQ (F i j) k0 M I)):
  CD Tryz.prog 237 [.int .i64 (R:Int), .int .i64 (C:Int), .func (.func g) fs cs] X w0 M0 I0 (XQ (xE R C F) R C k0 M0 I0):=by
 refine CD.post (aFT hR hC F hg) (fun v M I w h hw=>?_)
 obtain ⟨bo,rows,rfl,hl,hc,hF,rfl,rfl⟩:=h
 refine ⟨M0,gI (MR.x bo rows) k0::I0,⟨rfl,MR.x bo rows,?_,?_,⟨by simp [MR.x,hl],fun r hr=>?_⟩,rfl⟩,(aRR hw (List.Mem.head _)).inc (.of fun φ hφ=>by
  rcases List.mem_cons.1 hφ with rfl|hφ
  ·exact List.Mem.head _
  ·exact List.Mem.tail _ (List.Mem.tail _ hφ))⟩
 ·have e:(MR.x bo rows).rows.length=R:=by show (rows.map MR.l).length=R;rw [List.length_map,hl]
  have e2:(MR.x bo rows).c=R:=hl
  show _=Value.slice (MR.x bo rows).p (MR.x bo rows).rows.length (MR.x bo rows).c
  rw [e,e2];rfl
 ·rw [q_x];exact hF
 ·obtain ⟨s,hs,rfl⟩:=List.mem_map.1 hr
  exact hc s hs
end
end Go.Proofs.YtmmmfphealhapaaGreat
namespace Go.Fx
section
variable {P:Program} {n:Nat} {G:Env} {ty:TypeId} {C:World→Prop}
theorem rF {t e:TypeId} {sz len b o:Nat} {x:Operand} [ht:ArrTy P t len e sz] (hx:ev G x=some (.pointer (some ⟨b,o,none⟩))):
  Const P n G (.slice t x none none none) ty C (.slice (some ⟨b,o,none⟩) len len):=by
 refine ⟨?_⟩
 intro st ha dst pos after guard w _
 by_cases h:len=0
 ·subst h
  simp [execOp,Instr.sliceAt,ha.ev hx,eU ht.und,run_sizeOf ht.size,Instr.sliceBounds,Instr.sureAddr]
 ·simp [execOp,Instr.sliceAt,ha.ev hx,eU ht.und,run_sizeOf ht.size,Instr.sliceBounds,Instr.sureAddr,h,add_lit]
theorem aOX {t e:TypeId} {sz len m c:Nat} {p:Option Addr} {x:Operand} [ht:ArrTy P t len e sz] (hx:ev G x=some (.slice p m c)) (hl:len≤m):
  Const P n G (.sliceToArrayPointer t x) ty C (.pointer p):=by
 refine ⟨?_⟩
 intro st ha dst pos after guard w _
 simp [execOp,Instr.arrayAt,ha.ev hx,eU ht.und,Nat.not_lt.2 hl]
theorem uC {t e:TypeId} {sz len sz' by_:Nat} {z:List Value} {parts:List (Nat × Operand)} {pvs:List (Nat × Value)} {cells:List Value} [ht:ArrTy P t len e sz] [hz:ElemTy P t sz' by_ z]
  (hp:parts.map (fun p=>(p.1,ev G p.2))=pvs.map (fun p=>(p.1,some p.2)))
  (hf:Instr.fill (fun i=>some (i*sz,sz)) z.toArray pvs=some cells.toArray):Const P n G (.build t parts.toArray) ty C (.agg cells.toArray):=by
 refine aCI hp fun w=>?_
 obtain ⟨i,hi,h3⟩:=Option.map_eq_some_iff.1 hz.info
 simp only [Prod.mk.injEq] at h3
 obtain ⟨h4,h5,h6⟩:=h3
 obtain ⟨v,hv,hc⟩:=Option.map_eq_some_iff.1 h6
 have hzv:(zeroValue t).run P w= .ok v w:=by simp [zeroValue,typeInfo,hi,hv]
 unfold Instr.build
 rw [Sem.run_bind,hzv,Result.andThen_ok,Sem.run_bind,eU ht.und,Result.andThen_ok]
 simp only [Sem.run_bind,run_sizeOf ht.size,Result.andThen_ok,hc,hf]
 rfl
theorem aAM {t e:TypeId} {sz len sz':Nat} {x ix:Operand} {cs vs:List Value} {k:IntKind} {i:Int} [ht:ArrTy P t len e sz] [he:AggTy P e sz'] (hx:ev G x=some (.agg cs.toArray)) (hi:ev G ix=some (.int k i)) (h:0≤i∧i < len)
  (hv:(cs.drop (i.toNat*sz)).take sz=vs):Const P n G (.index t x ix) ty C (.agg vs.toArray):=by
 refine ⟨?_⟩
 intro st ha dst pos after guard w _
 simp [execOp,Instr.index,ha.ev hx,ha.ev hi,asIntOf,eU ht.und,h.1,h.2,part,nJ,run_sizeOf ht.size,List.extract_eq_take_drop,hv]
end
def PlOk (place:Nat→Option (Nat × Nat)):Nat→Nat→List Value→Prop
 |_,_,[]=>True
 |k,off,v::r=>place k=some (off,v.cells.size)∧PlOk place (k+1) (off+v.cells.size) r
def oH (vals:List Value):List Value:=vals.flatMap (fun v=>v.cells.toList)
theorem aCJ (place:Nat→Option (Nat × Nat)):∀(vals:List Value) (k:Nat) (pre:List Value) (base:Array Value),base.size=pre.length+(oH vals).length→base.toList.take pre.length=pre→PlOk place k pre.length vals→
  Instr.fill place base ((vals.zipIdx k).map (fun p=>(p.2,p.1)))=some (pre++oH vals).toArray
 |[],k,pre,base,hb,ht,_=>by
  have:base.toList=pre:=by
   rw [←ht,List.take_of_length_le]
   simp [hb,oH]
  simp [Instr.fill,oH,←this]
 |v::r,k,pre,base,hb,ht,hc=>by
  obtain ⟨h1,h2⟩:=hc
  have hcl:oH (v::r)=v.cells.toList++oH r:=by simp [oH]
  have hcs:v.cells.toList.length=v.cells.size:=by simp
  have hlt:pre.length+v.cells.size≤base.size:=by
   rw [hb,hcl,List.length_append,hcs];omega
  simp only [List.zipIdx_cons,List.map_cons,Instr.fill,h1]
  have hno:¬(v.cells.size≠v.cells.size∨pre.length+v.cells.size>base.size):=by omega
  have hf:=aCN pre.length v.cells.toList base (by simp;omega)
  simp only [Array.toArray_toList] at hf
  simp only [Bool.or_eq_true,decide_eq_true_eq,hno,if_false,hf]
  rw [aCJ place r (k+1) (pre++v.cells.toList) _ ?_ ?_ (by rw [List.length_append,hcs];exact h2)]
  ·rw [hcl,List.append_assoc]
  ·simp only [List.size_toArray,List.length_append,List.length_take,List.length_drop,hcs,Array.length_toList]
   rw [hcl,List.length_append,hcs] at hb
   omega
  ·simp only [ht]
   rw [List.take_append_of_le_length (by simp),List.take_of_length_le (by simp)]
section
variable {P:Program} {n:Nat} {G:Env} {ty:TypeId} {C:World→Prop}
theorem qI {t:TypeId} {parts:List (Nat × Operand)} {vals cells:List Value} {places:List (Nat × Nat)} {z:List Value} [ht:StructTy P t places z]
  (hp:parts.map (fun p=>(p.1,ev G p.2))=vals.zipIdx.map (fun p=>(p.2,some p.1))) (hpl:PlOk (places.toArray[·]?) 0 0 vals) (hc:oH vals=cells) (hz:z.length=cells.length):
  Const P n G (.build t parts.toArray) ty C (.agg cells.toArray):=by
 refine bC (pvs:=vals.zipIdx.map (fun p=>(p.2,p.1))) (places:=places) (z:=z) (by rw [hp];simp) ?_
 have:=aCJ (places.toArray[·]?) vals 0 [] z.toArray (by simp [hc,hz]) (by simp) (by simpa using hpl)
 rw [hc] at this
 simpa using this
theorem dM {t e:TypeId} {sz len sz' by_:Nat} {z:List Value} {parts:List (Nat × Operand)} {vals cells:List Value} [ht:ArrTy P t len e sz] [hz:ElemTy P t sz' by_ z]
  (hp:parts.map (fun p=>(p.1,ev G p.2))=vals.zipIdx.map (fun p=>(p.2,some p.1))) (hs:∀v∈vals,v.cells.size=sz) (hc:oH vals=cells) (hl:z.length=vals.length*sz):
  Const P n G (.build t parts.toArray) ty C (.agg cells.toArray):=by
 refine uC (pvs:=vals.zipIdx.map (fun p=>(p.2,p.1))) (by rw [hp];simp) ?_
 have:=aES sz vals 0 [] z.toArray (by simp) (by simp [hl]) (by simp) hs
 have h2:vals.flatMap (fun v=>v.cells.toList)=cells:=hc
 rw [h2] at this
 simpa using this
end
theorem xQ {P:Program} {n:Nat} {G:Env} {ty:TypeId} {C:World→Prop} {t t':TypeId} {x y:Operand} {a b:Bool} [ht:BoolTy P t] (hx:ev G x=some (.bool a)) (hy:ev G y=some (.bool b)):
  Const P n G (.binOp .neq t x y t') ty C (.bool (!(a==b))):=by
 refine ⟨?_⟩
 intro s ha dst pos after guard w _
 have e1:(eqGuard .neq t x y (.bool a) (.bool b)).run P w= .ok () w:=rfl
 simp only [execOp,ha.ev hx,ha.ev hy,Sem.run_bind,e1,Result.andThen_ok,run_neq_bool _ t a b ht.und,Sem.run_pure]
theorem aGW {α:Type} [Inhabited α] {enc:α→List Value} {sz:Nat} [h:Sized enc sz] {ms:List α} {i:Int} (hi:0≤i∧i < ms.length):((recs enc ms).drop (i.toNat*sz)).take sz=enc (gt ms i):=by
 apply List.ext_getElem?
 intro j
 have hl:=h.len (gt ms i)
 rw [List.getElem?_take]
 by_cases hj:j < sz
 ·rw [if_pos hj,List.getElem?_drop,List.getElem?_eq_getElem (by omega:j < (enc (gt ms i)).length)]
  exact zP ms i.toNat j _ _ (aIS hi) (List.getElem?_eq_getElem (by omega))
 ·rw [if_neg hj,List.getElem?_eq_none (by omega)]
theorem AtsZ.n8 {cs:List Value} {o:Nat} {a b c d e f g h:Value} (h0:cs[o]?=some a) (h1:cs[o+1]?=some b) (h2:cs[o+2]?=some c) (h3:cs[o+3]?=some d) (h4:cs[o+4]?=some e) (h5:cs[o+5]?=some f) (h6:cs[o+6]?=some g) (h7:cs[o+7]?=some h):AtsZ cs o [a,b,c,d,e,f,g,h] 8:=⟨⟨fun j v hj=>by
 match j,hj with
 |0,hj=>simp at hj;subst hj;exact h0
 |1,hj=>simp at hj;subst hj;exact h1
 |2,hj=>simp at hj;subst hj;exact h2
 |3,hj=>simp at hj;subst hj;exact h3
 |4,hj=>simp at hj;subst hj;exact h4
 |5,hj=>simp at hj;subst hj;exact h5
 |6,hj=>simp at hj;subst hj;exact h6
 |7,hj=>simp at hj;subst hj;exact h7
 |j+8,hj=>simp at hj⟩,rfl⟩
theorem atY {cs vs:List Value} {o sz:Nat} (h:AtsZ cs o vs sz:=by first|(with_reducible refine AtsZ.r ?_;exact iH)|(with_reducible refine AtsZ.r2 ?_ ?_ ?_;exact iH;rfl;rfl)|(with_reducible refine AtsZ.r4 ?_ ?_ ?_ ?_ ?_;exact iH;rfl;rfl;rfl;rfl)|exact AtsZ.all rfl|exact AtsZ.n2 rfl rfl|exact AtsZ.n4 rfl rfl rfl rfl|exact AtsZ.n8 rfl rfl rfl rfl rfl rfl rfl rfl|(refine AtsZ.r ?_;exact iH)|(refine AtsZ.app ?_;refine AtsZ.r ?_;exact iH)):AtsZ cs o vs sz:=h
end Go.Fx
namespace Go.Proofs.YtmmmfphealhapaaGreat
open Go Go.Fx
structure WL where
 p:Option Addr
 c:Nat
 es:List RW
instance:Inhabited WL:=⟨⟨none,0,[]⟩⟩
abbrev eWL (r:WL):List Value:=[.slice r.p r.es.length r.c]
abbrev lvW (r:WL):Value:= .slice r.p r.es.length r.c
instance:Sized eWL 1:=⟨fun _=>rfl⟩
instance:Ones eWL:=⟨fun m u hu=>by simp only [eWL,List.mem_cons,List.not_mem_nil,or_false] at hu;subst hu;rfl⟩
structure IsWL (r:WL) (X:List Nat) (w:World):Prop where
 sl:Sl X w r.p (recs eW r.es)
 el:∀e∈r.es,IsW e X w
 cap:Cap r.p r.es.length r.c
abbrev aGD (r:WL):aL:=IsWL r
instance (r:WL):Fx.Good (IsWL r):=⟨fun X Y w w' h he hY=>⟨Sl.carry h.sl he hY,fun e hm=>Fx.Good.go (φ:=IsW _) X Y w w' (h.el e hm) he hY,h.cap⟩⟩
structure WM where
 p:Option Addr
 c:Nat
 rows:List WL
instance:Inhabited WM:=⟨⟨none,0,[]⟩⟩
abbrev eWM (m:WM):List Value:=[.slice m.p m.rows.length m.c]
abbrev mvW (m:WM):Value:= .slice m.p m.rows.length m.c
instance:Sized eWM 1:=⟨fun _=>rfl⟩
instance:Ones eWM:=⟨fun m u hu=>by simp only [eWM,List.mem_cons,List.not_mem_nil,or_false] at hu;subst hu;rfl⟩
structure IsWM (m:WM) (X:List Nat) (w:World):Prop where
 sl:Sl X w m.p (recs eWL m.rows)
 row:∀r∈m.rows,IsWL r X w
 cap:Cap m.p m.rows.length m.c
abbrev aDB (m:WM):aL:=IsWM m
instance (m:WM):Fx.Good (IsWM m):=⟨fun X Y w w' h he hY=>⟨Sl.carry h.sl he hY,fun e hm=>Fx.Good.go (φ:=IsWL _) X Y w w' (h.row e hm) he hY,h.cap⟩⟩
structure AllWM (ms:List WM) (X:List Nat) (w:World):Prop where
 go:∀m∈ms,IsWM m X w
abbrev allWM (ms:List WM):aL:=AllWM ms
instance (ms:List WM):Fx.Good (AllWM ms):=⟨fun X Y w w' h he hY=>⟨fun m hm=>Fx.Good.go (φ:=IsWM _) X Y w w' (h.go m hm) he hY⟩⟩
theorem Hv.wlsl {I:List aL} {r:WL} (h:aGD r∈I):Hv I (aI r.p (recs eW r.es)):=⟨fun X w hw=>⟨(hw _ h:IsWL r X w).sl⟩⟩
theorem Hv.wlel {I:List aL} {r:WL} {j:Int} (h:aGD r∈I) (hj:0≤j∧j < r.es.length):Hv I (isW (gt r.es j)):=⟨fun X w hw=>(hw _ h:IsWL r X w).el _ (bF hj)⟩
theorem Hv.wmsl {I:List aL} {m:WM} (h:aDB m∈I):Hv I (aI m.p (recs eWL m.rows)):=⟨fun X w hw=>⟨(hw _ h:IsWM m X w).sl⟩⟩
theorem Hv.wmrow {I:List aL} {m:WM} {i:Int} (h:aDB m∈I) (hi:0≤i∧i < m.rows.length):Hv I (aGD (gt m.rows i)):=⟨fun X w hw=>(hw _ h:IsWM m X w).row _ (bF hi)⟩
/- short numbers, canonical ones, matrices -/
def RW.brief (r:RW):Prop:=r.g1.length≤1∧r.g2.length≤1∧(r.g1.length=0∨gt r.g1 0 < 100000)∧(r.g2.length=0∨gt r.g2 0≤100)
instance (r:RW):Decidable r.brief:=by unfold RW.brief;exact inferInstance
def RW.sml (r:RW):Prop:=r.g1.length≤1000000000∧r.g2.length≤1000000000
def WL.sht (r:WL):Prop:=r.es.length≤6∧∀e∈r.es,e.brief
instance (r:WL):Decidable r.sht:=by unfold WL.sht;exact inferInstance
def WL.sml (r:WL):Prop:=r.es.length≤1000000000∧∀e∈r.es,e.sml
def WL.good (r:WL):Prop:=∀e∈r.es,e.good
instance (r:WL):Decidable r.good:=by unfold WL.good;exact inferInstance
def WM.sht (m:WM):Prop:=m.rows.length≤6∧∀r∈m.rows,r.sht
instance (m:WM):Decidable m.sht:=by unfold WM.sht;exact inferInstance
def WM.sml (m:WM):Prop:=m.rows.length≤1000000000∧∀r∈m.rows,r.sml
def WM.ok (m:WM):Prop:=(1≤m.rows.length∧m.rows.length≤64∧1≤(gt m.rows 0).es.length∧(gt m.rows 0).es.length≤64)∧∀r∈m.rows,r.es.length=(gt m.rows 0).es.length∧r.good
instance (m:WM):Decidable m.ok:=by unfold WM.ok;exact inferInstance
/- of canonical numbers -/
def RL.raw (r:RL):WL:=⟨r.p,r.c,r.es.map RE.raw⟩
def MX.raw (m:MX):WM:=⟨m.p,m.c,m.rows.map RL.raw⟩
theorem aXT (es:List RE):recs eW (es.map RE.raw)=recs eR es:=by
 induction es with
 |nil=>rfl
 |cons x r ih=>
  have h1:recs eW ((x::r).map RE.raw)=eW x.raw++recs eW (r.map RE.raw):=rfl
  have h2:recs eR (x::r)=eR x++recs eR r:=rfl
  rw [h1,h2,ih];rfl
theorem aTC (rows:List RL):recs eWL (rows.map RL.raw)=recs eL rows:=by
 induction rows with
 |nil=>rfl
 |cons x r ih=>
  have h1:recs eWL ((x::r).map RL.raw)=eWL x.raw++recs eWL (r.map RL.raw):=rfl
  have h2:recs eL (x::r)=eL x++recs eL r:=rfl
  rw [h1,h2,ih]
  show [Value.slice x.p (x.es.map RE.raw).length x.c]++_=[Value.slice x.p x.es.length x.c]++_
  rw [List.length_map]
theorem bEO (r:RL):lvW r.raw=lv r:=by show Value.slice r.p (r.es.map RE.raw).length r.c=_;rw [List.length_map]
theorem aOO (m:MX):mvW m.raw=mv m:=by show Value.slice m.p (m.rows.map RL.raw).length m.c=_;rw [List.length_map]
theorem RL.raw_good (r:RL):r.raw.good:=fun e he=>by
 obtain ⟨x,_,rfl⟩:=List.mem_map.1 he
 exact x.raw_good
theorem IsL.raw {r:RL} {k:Nat} {X:List Nat} {w:World} (hk:k≤1000000000000) (h:IsL r k X w):IsWL r.raw X w:=
 ⟨by show Sl X w r.p (recs eW (r.es.map RE.raw));rw [aXT];exact h.sl,fun e he=>by obtain ⟨x,hx,rfl⟩:=List.mem_map.1 he;exact RE.fit hk (h.el x hx),by show Cap r.p (r.es.map RE.raw).length r.c;rw [List.length_map];exact h.cap⟩
theorem IsX.raw {m:MX} {k:Nat} {X:List Nat} {w:World} (hk:k≤1000000000000) (h:IsX m k X w):IsWM m.raw X w:=
 ⟨by show Sl X w m.p (recs eWL (m.rows.map RL.raw));rw [aTC];exact h.sl,fun e he=>by obtain ⟨x,hx,rfl⟩:=List.mem_map.1 he;exact IsL.raw hk (h.row x hx),by show Cap m.p (m.rows.map RL.raw).length m.c;rw [List.length_map];exact h.cap⟩
theorem IsR.sml {e:RE} {k:Nat} {X:List Nat} {w:World} (hk:k≤20000000000) (h:IsR e k X w):e.raw.sml:=by
 have a:=eY (IsI.le h.num)
 have b:=eY (IsI.le h.den)
 constructor
 ·show (gr e.q.num.natAbs).length≤_;omega
 ·show (gr (e.q.den:Int).natAbs).length≤_;omega
theorem Hv.lraw {I:List aL} {r:RL} {k:Nat} (h:iN r k∈I) (hk:k≤20000000000):Hv I (aGD r.raw):=⟨fun X w hw=>IsL.raw (by omega) (hw _ h)⟩
theorem Hv.xraw {I:List aL} {m:MX} {k:Nat} (h:gI m k∈I) (hk:k≤20000000000):Hv I (aDB m.raw):=⟨fun X w hw=>IsX.raw (by omega) (hw _ h)⟩
theorem aID {α β:Type} [Inhabited α] [Inhabited β] {l:List α} {f:α→β} {i:Int} (h:0≤i∧i < l.length):gt (l.map f) i=f (gt l i):=by
 obtain ⟨n,rfl⟩:∃n:Nat,i=n:=⟨i.toNat,by omega⟩
 rw [dP (by simpa using h.2),dP (by omega)]
 simp
theorem bDU {m:MX} {R C:Nat} (h:m.dim R C) (hR:1≤R∧R≤64) (hC:1≤C∧C≤64):m.raw.ok:=by
 have e:m.raw.rows=m.rows.map RL.raw:=rfl
 have h0:=h.1
 have hl:∀r∈m.rows,r.raw.es.length=C:=fun r hr=>by rw [show r.raw.es=r.es.map RE.raw from rfl,List.length_map];exact h.2 r hr
 unfold WM.ok
 rw [e,List.length_map,aID (by omega),hl _ (bF (by omega))]
 refine ⟨by omega,fun r hr=>?_⟩
 obtain ⟨s,hs,rfl⟩:=List.mem_map.1 hr
 exact ⟨hl s hs,s.raw_good⟩
end Go.Proofs.YtmmmfphealhapaaGreat

/- matrix: unit, quotient, subtract Matrices: elimination as a function on lists; one or two  -/
import Derived.Test.YtgpkjcmipiodcaaGreatZwat
import Derived.Test.YtgpkjcmipiodcaaGreatZwam
import Derived.Test.YtgpkjcmipiodcaaGreatZwag
set_option linter.unusedSimpArgs false
set_option linter.unusedVariables false
set_option maxRecDepth 100000
set_option maxHeartbeats 4000000
namespace Go.Proofs.YtgpkjcmipiodcaaGreat
open Go Go.Fx
theorem sG (q:Rat):q.num.sign=0↔q=0:=⟨fun h=>Rat.num_eq_zero.1 (Int.sign_eq_zero_iff_zero.1 h),fun h=>by rw [h];rfl⟩
theorem Hv.stR {I:List aV} {es:List RE} {e:RE} {i:Int} {k:Nat} (h1:bW es k∈I) (h2:cK e k∈I):Hv I (bW (st es i e) k):=⟨fun X w hw=>⟨fun x hx=>by
 rcases List.mem_or_eq_of_mem_set hx with hx|hx
 ·exact (hw _ h1:AllR es k X w).go x hx
 ·rw [hx];exact hw _ h2⟩⟩
theorem aHF {es:List RE} {e:RE} {i t:Nat} (hi:i < es.length):gt (st es (i:Int) e) (t:Int)=if t=i then e else gt es (t:Int):=by
 rw [aBO e ⟨by omega,by omega⟩ (by omega)]
 by_cases h:t=i
 ·rw [if_pos h,if_pos (by omega)]
 ·rw [if_neg h,if_neg (by omega)]
section
variable {X:List Nat} {w0:World} {M0:List Ent} {I0:List aV}
theorem aWO {i j:Int}:CD Tryz.prog 99 [.int .i64 i, .int .i64 j] X w0 M0 I0 (RQ (if i=j then 1 else 0) 0 M0 I0):=by
 have h1:=fun M0 I0=>jA (X:=X) (w0:=w0) (M0:=M0) (I0:=I0) (x:=1) (by decide) (k:=0) (by decide)
 have h0:=fun M0 I0=>jA (X:=X) (w0:=w0) (M0:=M0) (I0:=I0) (x:=0) (by decide) (k:=0) (by decide)
 refine aP Tryz.func99 rfl Tryz.ntmps99 rfl ?_
 refine fE ?_
 refine bG (fun b2=>?_)
 by_cases h:i=j
 ·rw [if_pos h]
  repeat refine aW ?_
  refine iG rfl (h1 _ _) (fun e he=>?_)
  repeat refine aW ?_
  refine bA (cs:=eR e) (.inl rfl) rfl rfl aA rfl M0 (cK e 0::I0) aG aF ⟨rfl,e,rfl,he,rfl⟩
 ·rw [if_neg h]
  repeat refine aW ?_
  refine iG rfl (h0 _ _) (fun e he=>?_)
  repeat refine aW ?_
  refine bA (cs:=eR e) (.inl rfl) rfl rfl aA rfl M0 (cK e 0::I0) aG aF ⟨rfl,e,rfl,he,rfl⟩
theorem aBN {a b:RE} {k m:Nat} (hk:k+m≤500000000000) (hb0:b.q≠0) (ha:Hv I0 (cK a k)) (hb:Hv I0 (cK b m)):
  CD Tryz.prog 153 [rv a,rv b] X w0 M0 I0 (RQ (a.q / b.q) (k+m) M0 I0):=by
 refine aP Tryz.func153 rfl Tryz.ntmps153 rfl ?_
 refine fE ?_
 refine fG rfl (fun b1=>?_)
 refine fG rfl (fun b2=>?_)
 refine bG (fun b3=>?_)
 repeat refine aW ?_
 (refine aU rfl (lI hk hb0 ha hb) ?_;rintro _ _ _ ⟨rfl,e,rfl,he,rfl⟩;refine aL ?_)
 repeat refine aW ?_
 refine bG (fun b4=>?_)
 repeat refine aW ?_
 refine bA (cs:=eR e) (.inl rfl) rfl rfl aA rfl M0 (cK e (k+m)::I0) aG aF ⟨rfl,e,rfl,he,rfl⟩
theorem aBI {b1 b2:Nat} {es os:List RE} {κ:RE} {kz h m fr n:Nat} {M1:List Ent} (hn:n≤1000) (hK:kz+(m+h)+1≤400000000000) (hes:es.length=n) (hos:os.length=n) (hfr:fr≤n)
  (he:bW es kz∈I0) (ho:bW os h∈I0) (hκ:cK κ m∈I0) (hM:M0= .blk b1 (recs eR es) 40:: .blk b2 (recs eR os) 40::M1):
  CD Tryz.prog 154 [.slice (some ⟨b1,0,none⟩) n n, .slice (some ⟨b2,0,none⟩) n n,rv κ, .int .i64 (fr:Int)] X w0 M0 I0 (fun v M I=>v= .tuple #[]∧∃es':List RE,es'.length=n∧(∀t:Nat,t < n→(gt es' (t:Int)).q=if t < fr then (gt es (t:Int)).q else (gt es (t:Int)).q - κ.q*(gt os (t:Int)).q)∧M= .blk b1 (recs eR es') 40:: .blk b2 (recs eR os) 40::M1∧I=bW es' (kz+(m+h)+1)::I0):=by
 subst hM
 refine qN Tryz.func154 rfl Tryz.ntmps154 rfl ?_
 refine fE ?_
 refine fG rfl (fun bk=>?_)
 repeat refine aW ?_
 refine bD (φ:=bW es (kz+(m+h)+1)) (Hv.allMono he (by omega)) ?_
 refine kS [0,1,6] rfl (fun k G M I=>∃(j:Nat) (e1:List RE),fr≤j∧j≤n∧k=n - j∧e1.length=n∧(∀t:Nat,j≤t→gt e1 (t:Int)=gt es (t:Int))∧(∀t:Nat,t < j→(gt e1 (t:Int)).q=if t < fr then (gt es (t:Int)).q else (gt es (t:Int)).q - κ.q*(gt os (t:Int)).q)∧G=[(8, .int .i64 j)]∧M= .blk bk (eR κ) 40:: .blk b1 (recs eR e1) 40:: .blk b2 (recs eR os) 40::M1∧I=bW e1 (kz+(m+h)+1)::I0) (n - fr) (⟨fr,es,by omega,hfr,rfl,hes,fun _ _=>rfl,fun t ht=>by rw [if_pos ht],rfl,rfl,rfl⟩) ?_
 rintro kk G M I ⟨j,e1,hj1,hj,rfl,hel,hkeep,hdone,rfl,rfl,rfl⟩
 by_cases hjn:j < n
 ·have hgj:gt e1 (j:Int)=gt es (j:Int):=hkeep j (Nat.le_refl _)
  have hvj:Hv (bW e1 (kz+(m+h)+1)::I0) (cK (gt os (j:Int)) h):=(Hv.all (i:=(j:Int)) ho (by omega) (Nat.le_refl _)).cons
  have hve:Hv (bW e1 (kz+(m+h)+1)::I0) (cK (gt e1 (j:Int)) kz):=by rw [hgj];exact (Hv.all (i:=(j:Int)) he (by omega) (Nat.le_refl _)).cons
  have hvk:Hv (bW e1 (kz+(m+h)+1)::I0) (cK κ m):=(Hv.mem hκ).cons
  have hS:=kV (X:=X) (w0:=w0) (M0:= .blk bk (eR κ) 40:: .blk b1 (recs eR e1) 40:: .blk b2 (recs eR os) 40::M1) (e:=gt os (j:Int)) (k:=h) (by omega) hvj
  by_cases h0:(gt os (j:Int)).q=0
  ·rw [(sG _).2 h0] at hS
   repeat refine aW ?_
   (refine aU rfl (hS) ?_;rintro _ _ _ ⟨rfl,rfl,rfl⟩;refine aL ?_)
   repeat refine aW ?_
   refine iC (n - (j+1)) (⟨j+1,e1,by omega,by omega,rfl,hel,fun t ht=>hkeep t (by omega),fun t ht=>?_,rfl,rfl,rfl⟩)
   by_cases htj:t=j
   ·subst htj
    rw [if_neg (by omega),hgj,h0,Rat.mul_zero,Rat.sub_eq_add_neg,Rat.neg_zero,Rat.add_zero]
   ·exact hdone t (by omega)
  ·have hs0:¬(gt os (j:Int)).q.num.sign=0:=fun h=>h0 ((sG _).1 h)
   generalize (gt os (j:Int)).q.num.sign=sg at*
   repeat refine aW ?_
   (refine aU rfl (hS) ?_;rintro _ _ _ ⟨rfl,rfl,rfl⟩;refine aL ?_)
   repeat refine aW ?_
   (repeat refine aJ ?_);refine aO 2 [0,1,2,3,4,5,6,7,8,9,10,11,12,13,14] [2,2,2,2,2,1,1,2,2,2,1,0,0,0,0] mixed (by kernel_rfl) ?_
   repeat refine aW ?_
   refine iG rfl (iV (k:=m) (m:=h) (by omega) hvk hvj) (fun e2 he2=>?_)
   refine iG rfl (zB (k:=kz) (m:=m+h) (by omega) hve.cons (Hv.mem (List.Mem.head _))) (fun e3 he3=>?_)
   repeat refine yXf ?_
   refine fM (vs:=eR e3) rfl rfl rfl (Ones.one e3) iN (StAts.r e3 (by omega) rfl) rfl rfl ⟨okF,?_⟩
   repeat refine aW ?_
   refine fF (φ:=bW (st e1 (j:Int) e3) (kz+(m+h)+1)) (Hv.stR aA aA) ?_
   refine iC (n - (j+1)) (⟨j+1,st e1 (j:Int) e3,by omega,by omega,rfl,by rw [dB];exact hel,fun t ht=>?_,fun t ht=>?_,rfl,rfl,rfl⟩)
   ·rw [aHF (by omega),if_neg (by omega)];exact hkeep t (by omega)
   ·rw [aHF (by omega)]
    by_cases htj:t=j
    ·subst htj
     rw [if_pos rfl,if_neg (by omega),he3,he2,hgj]
    ·rw [if_neg htj];exact hdone t (by omega)
 ·obtain rfl:j=n:=by omega
  repeat refine aW ?_
  refine aOC (by first|exact .inl rfl|exact .inr rfl) rfl _ _ aG aF (⟨rfl,e1,hel,hdone,rfl,rfl⟩)
end
abbrev Mt:=List (List Rat)
def rowAt (A:Mt) (i:Nat):List Rat:=A.getD i []
def at2 (A:Mt) (i j:Nat):Rat:=(rowAt A i).getD j 0
def swp (A:Mt) (r k:Nat):Mt:=(A.set r (rowAt A k)).set k (rowAt A r)
def iX (j:Nat) (κ:Rat) (l:List Rat):List Rat:=l.mapIdx (fun c x=>if c < j then x else κ*x)
def kM (j:Nat) (κ:Rat) (p:List Rat) (l:List Rat):List Rat:=l.mapIdx (fun c x=>if c < j then x else x - κ*p.getD c 0)
def pV (A:Mt) (j:Nat):Nat→Nat→Nat
 |0,k=>k
 |f+1,k=>if k < A.length∧at2 A k j=0 then pV A j f (k+1) else k
def xI (A:Mt) (r j:Nat) (pr:List Rat):Mt:=A.mapIdx (fun i row=>if i=r then row else if row.getD j 0=0 then row else kM j (row.getD j 0) pr row)
def aAB (A:Mt) (r j k:Nat):Mt:=
 xI ((swp A r k).set r (iX j (1 / at2 (swp A r k) r j) (rowAt (swp A r k) r))) r j (iX j (1 / at2 (swp A r k) r j) (rowAt (swp A r k) r))
def aUG (s:Mt × List Nat) (j:Nat):Mt × List Nat:=
 if pV s.1 j (s.1.length - s.2.length) s.2.length < s.1.length then (aAB s.1 s.2.length j (pV s.1 j (s.1.length - s.2.length) s.2.length),s.2++[j]) else s
def aBT (A:Mt) (n:Nat):Mt × List Nat:=(List.range n).foldl aUG (A,[])
theorem aBC (A:Mt) (n:Nat):aBT A (n+1)=aUG (aBT A n) n:=by
 unfold aBT
 rw [List.range_succ,List.foldl_append]
 rfl
abbrev qs (es:List RE):List Rat:=es.map (·.q)
abbrev mq (rows:List MR):Mt:=rows.map (fun r=>qs r.es)
theorem iH {α:Type} [Inhabited α] {ms:List α} {i:Nat} (h:i < ms.length):gt ms (i:Int)=ms[i]:=eU h
theorem nV {rows:List MR} {i:Nat} (h:i < rows.length):rowAt (mq rows) i=qs (gt rows (i:Int)).es:=by
 unfold rowAt
 rw [iH h]
 simp [List.getD,h]
theorem oW {es:List RE} {j:Nat} (h:j < es.length):(qs es).getD j 0=(gt es (j:Int)).q:=by
 rw [iH h]
 simp [List.getD,h]
theorem yJ {rows:List MR} {i j:Nat} (h:i < rows.length) (hj:j < (gt rows (i:Int)).es.length):at2 (mq rows) i j=(gt (gt rows (i:Int)).es (j:Int)).q:=by
 unfold at2
 rw [nV h,oW hj]
theorem aEJ {rows:List MR} {i:Nat} {r:MR}:mq (rows.set i r)=(mq rows).set i (qs r.es):=by simp [List.map_set]
theorem aIM {A:Mt} {j:Nat}:∀(f k:Nat),k+f=A.length→k≤pV A j f k∧pV A j f k≤A.length∧(pV A j f k < A.length→at2 A (pV A j f k) j≠0)
 |0,k,h=>⟨Nat.le_refl _,by simp [pV];omega,fun h'=>by simp [pV] at h';omega⟩
 |f+1,k,h=>by
  unfold pV
  by_cases hc:k < A.length∧at2 A k j=0
  ·rw [if_pos hc]
   obtain ⟨h1,h2,h3⟩:=aIM (A:=A) (j:=j) f (k+1) (by omega)
   exact ⟨by omega,h2,h3⟩
  ·rw [if_neg hc]
   exact ⟨Nat.le_refl _,by omega,fun hk h0=>hc ⟨hk,h0⟩⟩
/- permutations -/
theorem qE {α:Type}:∀(l:List α) (i:Nat) (h:i < l.length),l.Perm (l[i]::l.eraseIdx i)
 |[],_,h=>by simp at h
 |x::r,0,_=>by simp
 |x::r,i+1,h=>by
  have ih:=qE r i (by simpa using h)
  simp only [List.getElem_cons_succ,List.eraseIdx_cons_succ]
  exact (List.Perm.cons _ ih).trans (List.Perm.swap _ _ _)
def mH {α:Type} (l:List α) (i j:Nat):List α:=(l.eraseIdx (max i j)).eraseIdx (min i j)
theorem vU {α:Type} (l:List α) (i j:Nat) (hi:i < l.length) (hj:j < l.length) (hij:i≠j):l.Perm (l[i]::l[j]::mH l i j):=by
 rcases Nat.lt_or_ge i j with h|h
 ·have e1:max i j=j:=by omega
  have e2:min i j=i:=by omega
  unfold mH
  rw [e1,e2]
  have h1:=qE l j hj
  have hl:i < (l.eraseIdx j).length:=by rw [List.length_eraseIdx_of_lt hj];omega
  have h2:=qE (l.eraseIdx j) i hl
  rw [List.getElem_eraseIdx_of_lt hl h] at h2
  exact (h1.trans (List.Perm.cons _ h2)).trans (List.Perm.swap _ _ _)
 ·have e1:max i j=i:=by omega
  have e2:min i j=j:=by omega
  unfold mH
  rw [e1,e2]
  have h1:=qE l i hi
  have hl:j < (l.eraseIdx i).length:=by rw [List.length_eraseIdx_of_lt hi];omega
  have h2:=qE (l.eraseIdx i) j hl
  rw [List.getElem_eraseIdx_of_lt hl (by omega)] at h2
  exact h1.trans (List.Perm.cons _ h2)
theorem xC {α:Type} (l:List α) (i j:Nat) (x:α) (hij:i≠j):mH (l.set i x) i j=mH l i j:=by
 unfold mH
 rcases Nat.lt_or_ge i j with h|h
 ·have e1:max i j=j:=by omega
  have e2:min i j=i:=by omega
  rw [e1,e2]
  apply List.ext_getElem?
  intro n
  simp only [List.getElem?_eraseIdx,List.getElem?_set]
  split <;>split <;>(try split) <;>first|rfl|omega
 ·have e1:max i j=i:=by omega
  rw [e1,List.eraseIdx_set_eq]
theorem aEN {α:Type} (l:List α) (i:Nat) (x:α):(l.set i x).eraseIdx i=l.eraseIdx i:=List.eraseIdx_set_eq ..
theorem wL {rows:List MR} {i:Nat} {es:List RE} (hi:i < rows.length) (hl:es.length=(gt rows (i:Int)).es.length):recs eM (rows.set i ⟨(gt rows (i:Int)).b,es⟩)=recs eM rows:=by
 have h1:=uE (enc:=eM) rows i ⟨(gt rows (i:Int)).b,es⟩ hi
 rw [←h1]
 have e:eM ⟨(gt rows (i:Int)).b,es⟩=eM (gt rows (i:Int)):=by simp [eM,hl]
 rw [e,uE (enc:=eM) rows i _ hi,iH hi,List.set_getElem_self]
end Go.Proofs.YtgpkjcmipiodcaaGreat
namespace Go.Proofs.YtgpkjcmipiodcaaGreat
open Go Go.Fx
def kb (k:Nat):Nat→Nat
 |0=>k
 |n+1=>4*kb k n+1
theorem aHR (k:Nat) {m n:Nat} (h:m≤n):kb k m≤kb k n:=by
 induction n with
 | zero => obtain rfl : m = 0 := by omega
           exact Nat.le_refl _
 |succ n ih=>
  by_cases e:m=n+1
  ·subst e;exact Nat.le_refl _
  ·have:=ih (by omega)
   show kb k m≤4*kb k n+1
   omega
abbrev zs (pv:List Nat):List Int:=pv.map (fun (x:Nat)=>(x:Int))
abbrev eZ:Int→List Value:=eI .i64
theorem aBU {rows:List MR} {i:Nat} (h:i < rows.length) {A B:Ent} {M1:List Ent}:(A::B::(rows.map gF++M1)).Perm (gF (gt rows (i:Int))::A::B::((rows.eraseIdx i).map gF++M1)):=by
 have h1:(rows.map gF).Perm (gF (gt rows (i:Int))::(rows.eraseIdx i).map gF):=by
  have:=(qE rows i h).map gF
  rwa [List.map_cons,←iH h] at this
 have h2:(rows.map gF++M1).Perm (gF (gt rows (i:Int))::((rows.eraseIdx i).map gF++M1)):=h1.append_right M1
 exact ((List.Perm.cons _ (List.Perm.cons _ h2)).trans (List.Perm.cons _ (List.Perm.swap _ _ _))).trans (List.Perm.swap _ _ _)
theorem foc2 {rows:List MR} {i j:Nat} (hi:i < rows.length) (hj:j < rows.length) (hij:i≠j) {A B:Ent} {M1:List Ent}:(A::B::(rows.map gF++M1)).Perm (gF (gt rows (i:Int))::gF (gt rows (j:Int))::A::B::((mH rows i j).map gF++M1)):=by
 have h1:(rows.map gF).Perm (gF (gt rows (i:Int))::gF (gt rows (j:Int))::(mH rows i j).map gF):=by
  have:=(vU rows i j hi hj hij).map gF
  rwa [List.map_cons,List.map_cons,←iH hi,←iH hj] at this
 have h2:(rows.map gF++M1).Perm (gF (gt rows (i:Int))::gF (gt rows (j:Int))::((mH rows i j).map gF++M1)):=h1.append_right M1
 refine (List.Perm.cons _ (List.Perm.cons _ h2)).trans ?_
 generalize gF (gt rows (i:Int))=x
 generalize gF (gt rows (j:Int))=y
 generalize (mH rows i j).map gF++M1=r
 have e1:(A::B::x::y::r).Perm (x::A::B::y::r):=(List.Perm.cons _ (List.Perm.swap _ _ _)).trans (List.Perm.swap _ _ _)
 have e2:(A::B::y::r).Perm (y::A::B::r):=(List.Perm.cons _ (List.Perm.swap _ _ _)).trans (List.Perm.swap _ _ _)
 exact e1.trans (List.Perm.cons _ e2)
theorem swap_perm {rows:List MR} {r k:Nat} (hr:r < rows.length) (hk:k < rows.length):(st (st rows (r:Int) (gt rows (k:Int))) (k:Int) (gt rows (r:Int))).Perm rows:=by
 unfold st
 simp only [Int.toNat_natCast]
 by_cases h:r=k
 ·subst h
  rw [iH hr,List.set_getElem_self,List.set_getElem_self]
 ·have hr':r < ((rows.set r (gt rows (k:Int))).set k (gt rows (r:Int))).length:=by simpa using hr
  have hk':k < ((rows.set r (gt rows (k:Int))).set k (gt rows (r:Int))).length:=by simpa using hk
  have h1:=vU _ r k hr' hk' h
  have h2:=vU rows r k hr hk h
  have e:mH ((rows.set r (gt rows (k:Int))).set k (gt rows (r:Int))) r k=mH rows r k:=by
   have h3:=xC (rows.set r (gt rows (k:Int))) k r (gt rows (r:Int)) (Ne.symm h)
   have h4:=xC rows r k (gt rows (k:Int)) h
   have c:∀l:List MR,mH l k r=mH l r k:=fun l=>by unfold mH;rw [Nat.max_comm,Nat.min_comm]
   rw [c,c,h4] at h3
   exact h3
  rw [e] at h1
  have g1:((rows.set r (gt rows (k:Int))).set k (gt rows (r:Int)))[r]'hr'=rows[k]:=by
   rw [List.getElem_set_ne (Ne.symm h),List.getElem_set_self,iH hk]
  have g2:((rows.set r (gt rows (k:Int))).set k (gt rows (r:Int)))[k]'hk'=rows[r]:=by
   rw [List.getElem_set_self,iH hr]
  rw [g1,g2] at h1
  exact (h1.trans (List.Perm.swap _ _ _)).trans h2.symm
theorem Hv.elM {I:List aV} {rows:List MR} {i j:Int} {k m:Nat} (h:allM rows k∈I) (hi:0≤i∧i < rows.length) (hj:0≤j∧j < (gt rows i).es.length) (hk:k≤m):Hv I (cK (gt (gt rows i).es j) m):=
 ⟨fun X w hw=>((hw _ h:AllM rows k X w).go _ (bJ hi) _ (bJ hj)).mono hk⟩
theorem Hv.rowMm {I:List aV} {rows:List MR} {i:Int} {k m:Nat} (h:allM rows k∈I) (hi:0≤i∧i < rows.length) (hk:k≤m):Hv I (bW (gt rows i).es m):=⟨fun X w hw=>⟨fun e he=>((hw _ h:AllM rows k X w).go _ (bJ hi) e he).mono hk⟩⟩
theorem Hv.permM {I:List aV} {rows rows':List MR} {k:Nat} (h:allM rows k∈I) (hp:rows'.Perm rows):Hv I (allM rows' k):=⟨fun X w hw=>⟨fun r hr=>(hw _ h:AllM rows k X w).go r (hp.mem_iff.1 hr)⟩⟩
theorem Hv.setM {I:List aV} {rows:List MR} {i:Nat} {b:Nat} {es:List RE} {k m K:Nat} (h:allM rows k∈I) (h2:bW es m∈I) (hk:k≤K) (hm:m≤K):Hv I (allM (rows.set i ⟨b,es⟩) K):=⟨fun X w hw=>⟨fun r hr e he=>by
 rcases List.mem_or_eq_of_mem_set hr with hr|hr
 ·exact ((hw _ h:AllM rows k X w).go r hr e he).mono hk
 ·subst hr;exact ((hw _ h2:AllR es m X w).go e he).mono hm⟩⟩
theorem Hv.monoM {I:List aV} {rows:List MR} {k m:Nat} (h:allM rows k∈I) (hk:k≤m):Hv I (allM rows m):=⟨fun X w hw=>⟨fun r hr e he=>((hw _ h:AllM rows k X w).go r hr e he).mono hk⟩⟩
theorem aAP {a b:List Rat} (hl:a.length=b.length) (h:∀t:Nat,t < a.length→a.getD t 0=b.getD t 0):a=b:=by
 apply List.ext_getElem hl
 intro t h1 h2
 have:=h t h1
 simpa [List.getD,h1,h2] using this
theorem aTP {er e1:List RE} {κ:Rat} {j C:Nat} (h1:e1.length=C) (hr:er.length=C) (hd:∀t:Nat,t < C→(gt e1 (t:Int)).q=if t < j then (gt er (t:Int)).q else κ*(gt er (t:Int)).q):qs e1=iX j κ (qs er):=by
 apply aAP
 ·simp [iX,h1,hr]
 ·intro t ht
  have ht':t < C:=by simpa [h1] using ht
  rw [oW (by omega),hd t ht']
  unfold iX
  rw [iH (show t < er.length by omega)]
  simp [List.getD,show t < er.length by omega]
theorem aWF {rows4 rows3:List MR} {R r j br:Nat} {e1:List RE} (h4:rows4.length=R) (h3:rows3.length=R) (hr:r < R) (hg4:(gt rows4 (r:Int)).es=e1) (hg3:gt rows3 (r:Int)=⟨br,e1⟩)
  (hd:∀t:Nat,t < R→t≠r→qs (gt rows4 (t:Int)).es=if at2 (mq rows3) t j=0 then qs (gt rows3 (t:Int)).es else kM j (at2 (mq rows3) t j) (qs e1) (qs (gt rows3 (t:Int)).es)):
  mq rows4=xI (mq rows3) r j (qs e1):=by
 unfold xI
 apply List.ext_getElem
 ·simp [h4,h3]
 ·intro t h1 h2
  have ht:t < R:=by simpa [h4] using h1
  have e4:(mq rows4)[t]=qs (gt rows4 (t:Int)).es:=by rw [iH (by omega)];simp
  have e3:(mq rows3)[t]'(by simp;omega)=qs (gt rows3 (t:Int)).es:=by rw [iH (by omega)];simp
  have ea:at2 (mq rows3) t j=(qs (gt rows3 (t:Int)).es).getD j 0:=by unfold at2;rw [nV (by omega)]
  rw [e4,List.getElem_mapIdx,e3]
  by_cases htr:t=r
  ·subst htr
   rw [if_pos rfl,hg4,hg3]
  ·rw [if_neg htr,hd t ht htr,ea]
theorem aSA {es ps e1:List RE} {κ:Rat} {j C:Nat} (h1:e1.length=C) (hr:es.length=C) (hp:ps.length=C) (hd:∀t:Nat,t < C→(gt e1 (t:Int)).q=if t < j then (gt es (t:Int)).q else (gt es (t:Int)).q - κ*(gt ps (t:Int)).q):qs e1=kM j κ (qs ps) (qs es):=by
 apply aAP
 ·simp [kM,h1,hr]
 ·intro t ht
  have ht':t < C:=by simpa [h1] using ht
  rw [oW (by omega),hd t ht']
  unfold kM
  rw [iH (show t < es.length by omega),iH (show t < ps.length by omega)]
  simp [List.getD,show t < es.length by omega,show t < ps.length by omega]
section
variable {X:List Nat} {w0:World} {M0:List Ent} {I0:List aV}
def RdP (bo R C:Nat) (A:Mt) (n K:Nat) (M1:List Ent) (I0:List aV) (v:Value) (M:List Ent) (I:List aV):Prop:=
 ∃(rows:List MR) (pv:List Nat) (q:Option Addr) (c:Nat),v= .slice q pv.length c∧rows.length=R∧(∀r∈rows,r.es.length=C)∧aBT A n=(mq rows,pv)∧pv.length≤R∧
  M= .row q pv.length c (recs eZ (zs pv)) 3 1:: .blk bo (recs eM rows) 52::(rows.map gF++M1)∧I=allM rows K::I0
theorem aOY {bo R C n k0:Nat} {rows:List MR} {M1:List Ent} (hR:rows.length=R) (hRb:R≤100) (hCb:C≤200) (hC:∀r∈rows,r.es.length=C) (hn:n≤C) (hk:kb k0 n≤50000000000) (hA:allM rows k0∈I0)
  (hM:M0= .blk bo (recs eM rows) 52::(rows.map gF++M1)):
  CD Tryz.prog 100 [.slice (some ⟨bo,0,none⟩) R R, .int .i64 (n:Int)] X w0 M0 I0 (RdP bo R C (mq rows) n (kb k0 n) M1 I0):=by
 subst hM
 refine aP Tryz.func100 rfl Tryz.ntmps100 rfl ?_
 repeat' (first|refine aW ?_|refine aQ rfl (fun h=>?_) (fun h=>?_)|refine aR rfl rfl (fun h=>?_) (fun h=>?_)|fail)
 refine pR 3 1 ?_
 refine bD (φ:=allM rows (kb k0 0)) (Hv.mem hA) ?_
 refine kS [0,12] rfl (fun k G M I=>∃(j r:Nat) (rows1:List MR) (pv:List Nat) (q:Option Addr) (c:Nat),j≤n∧k=n - j∧pv.length=r∧rows1.length=R∧(∀r∈rows1,r.es.length=C)∧aBT (mq rows) j=(mq rows1,pv)∧r≤R∧r≤j∧G=[(5, .slice q r c),(13, .int .i64 j)]∧M= .row q r c (recs eZ (zs pv)) 3 1:: .blk bo (recs eM rows1) 52::(rows1.map gF++M1)∧I=allM rows1 (kb k0 j)::I0) (n) (⟨0,0,rows,[],none,0,by omega,rfl,rfl,hR,hC,rfl,by omega,by omega,rfl,rfl,rfl⟩) ?_
 rintro k G M I ⟨j,r,rows1,pv,q,c,hj,rfl,hr,hl1,hC1,hred,hpv,hpj,rfl,rfl,rfl⟩
 by_cases hjn:j < n
 ·have hzl:(zs pv).length=r:=by simp [hr]
  have hkj:kb k0 (j+1)≤50000000000:=Nat.le_trans (aHR k0 (by omega)) hk
  have hkj1:kb k0 (j+1)=4*kb k0 j+1:=rfl
  obtain ⟨kj,hkj0⟩:∃x,kb k0 j=x:=⟨_,rfl⟩
  rw [hkj0] at hkj1 ⊢
  have hCg:∀x:Nat,x < R→(gt rows1 (x:Int)).es.length=C:=fun x hx=>hC1 _ (bJ (by omega))
  repeat' (first|refine aW ?_|refine aQ rfl (fun h=>?_) (fun h=>?_)|refine aR rfl rfl (fun h=>?_) (fun h=>?_)|fail)
  refine kS [0,5,6,7,12,13] rfl (fun k G M I=>∃(x:Nat),r≤x∧x≤R∧k=R - x∧pV (mq rows1) j (R - x) x=pV (mq rows1) j (R - r) r∧G=[(8, .int .i64 x)]∧M= .row q r c (recs eZ (zs pv)) 3 1:: .blk bo (recs eM rows1) 52::(rows1.map gF++M1)∧I=allM rows1 kj::I0) (R - r) (⟨r,by omega,by omega,by omega,rfl,rfl,rfl,rfl⟩) ?_
  rintro k G M I ⟨x,hrx,hxR,rfl,hfx,rfl,rfl,rfl⟩
  have hlen1:(mq rows1).length=R:=by simp [hl1]
  by_cases hx:x < R∧at2 (mq rows1) x j=0
  ·obtain ⟨hx1,hx2⟩:=hx
   have hlx:=hCg x hx1
   have hat:=yJ (rows:=rows1) (i:=x) (j:=j) (by omega) (by omega)
   rw [hat] at hx2
   have hS:=kV (X:=X) (w0:=w0) (M0:= .blk (gt rows1 (x:Int)).b (recs eR (gt rows1 (x:Int)).es) 40:: .row q r c (recs eZ (zs pv)) 3 1:: .blk bo (recs eM rows1) 52::((rows1.eraseIdx x).map gF++M1)) (I0:=allM rows1 kj::I0) (e:=gt (gt rows1 (x:Int)).es (j:Int)) (k:=kj) (by omega) (Hv.elM (List.Mem.head _) (by omega) (by omega) (Nat.le_refl _))
   rw [(sG _).2 hx2] at hS
   refine oD (aBU (rows:=rows1) (i:=x) (by omega)) ?_
   repeat' (first|refine aW ?_|refine aQ rfl (fun h=>?_) (fun h=>?_)|refine aR rfl rfl (fun h=>?_) (fun h=>?_)|fail)
   (refine aU rfl (hS) ?_;rintro _ _ _ ⟨rfl,rfl,rfl⟩;refine aL ?_)
   repeat' (first|refine aW ?_|refine aQ rfl (fun h=>?_) (fun h=>?_)|refine aR rfl rfl (fun h=>?_) (fun h=>?_)|fail)
   refine yQ (aBU (rows:=rows1) (i:=x) (by omega)).symm ?_
   refine iC (R - (x+1)) (⟨x+1,by omega,by omega,rfl,?_,rfl,rfl,rfl⟩)
   rw [←hfx]
   obtain ⟨f,hf⟩:∃f,R - x=f+1:=⟨R - x - 1,by omega⟩
   rw [hf,show R - (x+1)=f by omega]
   conv=>rhs;unfold pV
   rw [if_pos ⟨by omega,by rw [hat];exact hx2⟩]
  ·have hfx2:pV (mq rows1) j (R - r) r=x:=by
    rw [←hfx]
    cases hf:R - x with
    |zero=>rfl
    |succ f=>
     unfold pV
     rw [if_neg (fun h=>hx ⟨by omega,h.2⟩)]
   by_cases hxR2:x < R
   ·have hx2:at2 (mq rows1) x j≠0:=fun h=>hx ⟨hxR2,h⟩
    have hlx:=hCg x hxR2
    have hat:=yJ (rows:=rows1) (i:=x) (j:=j) (by omega) (by omega)
    rw [hat] at hx2
    have hS:=kV (X:=X) (w0:=w0) (M0:= .blk (gt rows1 (x:Int)).b (recs eR (gt rows1 (x:Int)).es) 40:: .row q r c (recs eZ (zs pv)) 3 1:: .blk bo (recs eM rows1) 52::((rows1.eraseIdx x).map gF++M1)) (I0:=allM rows1 kj::I0) (e:=gt (gt rows1 (x:Int)).es (j:Int)) (k:=kj) (by omega) (Hv.elM (List.Mem.head _) (by omega) (by omega) (Nat.le_refl _))
    have hs0:¬(gt (gt rows1 (x:Int)).es (j:Int)).q.num.sign=0:=fun h=>hx2 ((sG _).1 h)
    generalize (gt (gt rows1 (x:Int)).es (j:Int)).q.num.sign=sg at*
    refine oD (aBU (rows:=rows1) (i:=x) (by omega)) ?_
    repeat' (first|refine aW ?_|refine aQ rfl (fun h=>?_) (fun h=>?_)|refine aR rfl rfl (fun h=>?_) (fun h=>?_)|fail)
    (refine aU rfl (hS) ?_;rintro _ _ _ ⟨rfl,rfl,rfl⟩;refine aL ?_)
    clear hS
    repeat' (first|refine aW ?_|refine aQ rfl (fun h=>?_) (fun h=>?_)|refine aR rfl rfl (fun h=>?_) (fun h=>?_)|fail)
    refine oD (aBU (rows:=rows1) (i:=x) (by omega)).symm ?_
    have hrR:r < R:=by omega
    (repeat refine aJ ?_);refine aO 0 [0,1,2,3,4,5,6,7,8,9,10,11,12,13,14,15] [0,0,1,1,0,0,0,0,1,1,1,0,0,0,0,0] mixed (by kernel_rfl) ?_
    repeat refine yXf ?_
    refine oH rfl rfl rfl iN (StAt.r1 (gt rows1 (x:Int)) (by omega) rfl) rfl rfl ⟨okF,?_⟩
    repeat refine yXf ?_
    refine oH rfl rfl rfl iN (StAt.r1 (gt rows1 (r:Int)) (by rw [dB];omega) rfl) rfl rfl ⟨okF,?_⟩
    obtain ⟨rows2,hrows2⟩:∃rows2,rows2=st (st rows1 (r:Int) (gt rows1 (x:Int))) (x:Int) (gt rows1 (r:Int)):=⟨_,rfl⟩
    have hsp:=swap_perm (rows:=rows1) (r:=r) (k:=x) (by omega) (by omega)
    rw [←hrows2] at hsp ⊢
    have hl2:rows2.length=R:=by rw [hsp.length_eq];exact hl1
    have hC2:∀r∈rows2,r.es.length=C:=fun r hr=>hC1 r (hsp.mem_iff.1 hr)
    have hmq2:mq rows2=swp (mq rows1) r x:=by
     rw [hrows2]
     unfold st swp
     simp only [Int.toNat_natCast]
     rw [aEJ,aEJ,nV (by omega),nV (by omega)]
    have hpiv:(gt (gt rows2 (r:Int)).es (j:Int)).q≠0:=by
     have e:gt rows2 (r:Int)=gt rows1 (x:Int):=by
      rw [hrows2,aBO _ (by rw [dB];omega) (by omega),aBO _ (by omega) (by omega)]
      by_cases hxr:r=x
      ·subst hxr;rw [if_pos rfl]
      ·rw [if_neg (by omega),if_pos rfl]
     rw [e];exact hx2
    have hlr:(gt rows2 (r:Int)).es.length=C:=hC2 _ (bJ (by omega))
    clear hrows2 hs0 hx2
    refine aCO (M':= .row q r c (recs eZ (zs pv)) 3 1:: .blk bo (recs eM rows2) 52::(rows2.map gF++M1)) (List.Perm.cons _ (List.Perm.cons _ ((hsp.symm.map gF).append_right M1))) ?_
    refine fH (φ:=allM rows2 kj) (Hv.permM (List.Mem.head _) hsp) ?_
    repeat' (first|refine aW ?_|refine aQ rfl (fun h=>?_) (fun h=>?_)|refine aR rfl rfl (fun h=>?_) (fun h=>?_)|fail)
    refine oD (aBU (rows:=rows2) (i:=r) (by omega)) ?_
    refine kH (fun G M I=>∃(b9:Nat) (e9:RE),e9.q=1 / (gt (gt rows2 (r:Int)).es (j:Int)).q∧G=[(0, .slice (some ⟨bo,0,none⟩) R R),(5, .slice q r c),(6, .int .i64 (j:Int)),(7, .int .i64 (r:Int)),(9, .pointer (some ⟨b9,0,none⟩)),(12, .int .i64 (n:Int)),(13, .int .i64 (j:Int))]∧M= .blk b9 (eR e9) 40:: .blk (gt rows2 (r:Int)).b (recs eR (gt rows2 (r:Int)).es) 40:: .row q r c (recs eZ (zs pv)) 3 1:: .blk bo (recs eM rows2) 52::((rows2.eraseIdx r).map gF++M1)∧I=cK e9 (0+kj)::allM rows2 kj::I0) ?_ ?_
    ·have hW:=fun M0 I0=>jA (X:=X) (w0:=w0) (M0:=M0) (I0:=I0) (x:=1) (by decide) (k:=0) (by decide)
     have hEl:Hv (allM rows2 kj::allM rows1 kj::I0) (cK (gt (gt rows2 (r:Int)).es (j:Int)) kj):=Hv.elM (List.Mem.head _) (by omega) (by omega) (Nat.le_refl _)
     have hQ:=fun (e1:RE) M0 I0 h1 h2=>aBN (X:=X) (w0:=w0) (M0:=M0) (I0:=I0) (a:=e1) (b:=gt (gt rows2 (r:Int)).es (j:Int)) (k:=0) (m:=kj) (by omega) hpiv h1 h2
     ((repeat refine aJ ?_);refine lG (.blk (gt rows2 (r:Int)).b (recs eR (gt rows2 (r:Int)).es) 40:: .row q r c (recs eZ (zs pv)) 3 1:: .blk bo (recs eM rows2) 52::((rows2.eraseIdx r).map gF++M1)) (allM rows2 kj::I0) mixed ?_)
     refine dH (fuel:=4) (listed':=#[false,true,true,true,true,true,true,true,false,false,false]) [1,2,3,4,5,6,7] [3,3,3,3,3,3,2] aG aF (by kernel_rfl) (by kernel_rfl) rfl rfl ?_
     repeat' (first|refine aW ?_|refine aQ rfl (fun h=>?_) (fun h=>?_)|refine aR rfl rfl (fun h=>?_) (fun h=>?_)|fail)
     refine aN (fuel:=3) (i:=0) (j:=9) (by kernel_rfl) ?_ ?_
     ·refine iG rfl (hW _ _) (fun e1 he1=>?_)
      repeat' (first|refine aW ?_|refine aQ rfl (fun h=>?_) (fun h=>?_)|refine aR rfl rfl (fun h=>?_) (fun h=>?_)|fail)
      refine aN (fuel:=2) (i:=8) (j:=9) (by kernel_rfl) ?_ ?_
      ·refine iG rfl (hQ e1 _ _ (Hv.mem (List.Mem.head _)) hEl.cons) (fun e9 he9=>?_)
       repeat' (first|refine aW ?_|refine aQ rfl (fun h=>?_) (fun h=>?_)|refine aR rfl rfl (fun h=>?_) (fun h=>?_)|fail)
       refine aM [9,10] [0,0] aG aF (by kernel_rfl) (by kernel_rfl) rfl rfl ?_
       refine bG (fun b9=>?_)
       repeat' (first|refine aW ?_|refine aQ rfl (fun h=>?_) (fun h=>?_)|refine aR rfl rfl (fun h=>?_) (fun h=>?_)|fail)
       refine mR ⟨b9,e9,by rw [he9,he1];rfl,rfl,rfl,rfl⟩
      ·refine bG (fun b9=>?_)
       repeat' (first|refine aW ?_|refine aQ rfl (fun h=>?_) (fun h=>?_)|refine aR rfl rfl (fun h=>?_) (fun h=>?_)|fail)
       refine aM [8,10] [0,0] aG aF (by kernel_rfl) (by kernel_rfl) rfl rfl ?_
       refine iG rfl (hQ e1 _ _ (Hv.mem (List.Mem.head _)) hEl.cons) (fun e9 he9=>?_)
       repeat' (first|refine aW ?_|refine aQ rfl (fun h=>?_) (fun h=>?_)|refine aR rfl rfl (fun h=>?_) (fun h=>?_)|fail)
       refine mR ⟨b9,e9,by rw [he9,he1];rfl,rfl,rfl,rfl⟩
     ·refine bG (fun b9=>?_)
      repeat' (first|refine aW ?_|refine aQ rfl (fun h=>?_) (fun h=>?_)|refine aR rfl rfl (fun h=>?_) (fun h=>?_)|fail)
      refine aM [0,8,10] [0,0,0] aG aF (by kernel_rfl) (by kernel_rfl) rfl rfl ?_
      refine iG rfl (hW _ _) (fun e1 he1=>?_)
      refine iG rfl (hQ e1 _ _ (Hv.mem (List.Mem.head _)) hEl.cons) (fun e9 he9=>?_)
      repeat' (first|refine aW ?_|refine aQ rfl (fun h=>?_) (fun h=>?_)|refine aR rfl rfl (fun h=>?_) (fun h=>?_)|fail)
      refine mR ⟨b9,e9,by rw [he9,he1];rfl,rfl,rfl,rfl⟩
    ·rintro G M I ⟨b9,e9,he9,rfl,rfl,rfl⟩
     obtain ⟨er,her⟩:∃e,(gt rows2 (r:Int)).es=e:=⟨_,rfl⟩
     rw [her]
     rw [her] at hlr hpiv he9
     refine bD (φ:=bW er (kj+kj)) (by rw [←her];exact Hv.rowMm (List.Mem.tail _ (List.Mem.head _)) (by omega) (by omega)) ?_
     repeat' (first|refine aW ?_|refine aQ rfl (fun h=>?_) (fun h=>?_)|refine aR rfl rfl (fun h=>?_) (fun h=>?_)|fail)
     refine kS [0,5,6,7,9,12,13] rfl (fun k G M I=>∃(c2:Nat) (e1:List RE),j≤c2∧c2≤C∧k=C - c2∧e1.length=C∧(∀t:Nat,c2≤t→gt e1 (t:Int)=gt er (t:Int))∧(∀t:Nat,t < c2→(gt e1 (t:Int)).q=if t < j then (gt er (t:Int)).q else e9.q*(gt er (t:Int)).q)∧G=[(10, .int .i64 c2)]∧M= .blk b9 (eR e9) 40:: .blk (gt rows2 (r:Int)).b (recs eR e1) 40:: .row q r c (recs eZ (zs pv)) 3 1:: .blk bo (recs eM rows2) 52::((rows2.eraseIdx r).map gF++M1)∧I=bW e1 (kj+kj)::cK e9 (0+kj)::allM rows2 kj::I0) (C - j) (⟨j,er,by omega,by omega,rfl,hlr,fun _ _=>rfl,fun t ht=>by rw [if_pos ht],rfl,rfl,rfl⟩) ?_
     rintro k G M I ⟨c2,e1,hc1,hc2,rfl,hel,hkeep,hdone,rfl,rfl,rfl⟩
     have hlr2:(gt rows2 (r:Int)).es.length=C:=by rw [her];exact hlr
     by_cases hcC:c2 < C
     ·have hgc:gt e1 (c2:Int)=gt er (c2:Int):=hkeep c2 (Nat.le_refl _)
      have hve:Hv (bW e1 (kj+kj)::cK e9 (0+kj)::allM rows2 kj::I0) (cK (gt e1 (c2:Int)) kj):=by rw [hgc,←her];exact Hv.elM (List.Mem.tail _ (List.Mem.tail _ (List.Mem.head _))) (by omega) (by omega) (Nat.le_refl _)
      have hQ:=fun M0=>iV (X:=X) (w0:=w0) (M0:=M0) (a:=e9) (b:=gt e1 (c2:Int)) (k:=0+kj) (m:=kj) (by omega) (Hv.mem (List.Mem.tail _ (List.Mem.head _))) hve
      rw [show 0+kj+kj=kj+kj by omega] at hQ
      repeat' (first|refine aW ?_|refine aQ rfl (fun h=>?_) (fun h=>?_)|refine aR rfl rfl (fun h=>?_) (fun h=>?_)|fail)
      (repeat refine aJ ?_);refine aO 1 [0,1,2,3,4,5,6,7,8,9,10,11,12,13,14,15] [1,1,1,1,1,0,1,1,1,1,1,1,0,0,0,0] mixed (by kernel_rfl) ?_
      repeat' (first|refine aW ?_|refine aQ rfl (fun h=>?_) (fun h=>?_)|refine aR rfl rfl (fun h=>?_) (fun h=>?_)|fail)
      refine iG rfl (hQ _) (fun e2 he2=>?_)
      repeat refine yXf ?_
      refine fM (vs:=eR e2) rfl rfl rfl (Ones.one e2) iN (StAts.r e2 (by omega) rfl) rfl rfl ⟨okF,?_⟩
      repeat' (first|refine aW ?_|refine aQ rfl (fun h=>?_) (fun h=>?_)|refine aR rfl rfl (fun h=>?_) (fun h=>?_)|fail)
      refine fF (φ:=bW (st e1 (c2:Int) e2) (kj+kj)) (Hv.stR aA aA) ?_
      refine iC (C - (c2+1)) (⟨c2+1,st e1 (c2:Int) e2,by omega,by omega,rfl,by rw [dB];exact hel,fun t ht=>by rw [aHF (by omega),if_neg (by omega)];exact hkeep t (by omega),fun t ht=>?_,rfl,rfl,rfl⟩)
      rw [aHF (by omega)]
      by_cases htj:t=c2
      ·subst htj
       rw [if_pos rfl,if_neg (by omega),he2,hgc]
      ·rw [if_neg htj];exact hdone t (by omega)
     ·obtain rfl:c2=C:=by omega
      have hpr:qs e1=iX j (1 / at2 (mq rows2) r j) (rowAt (mq rows2) r):=by
       rw [yJ (by omega) (by omega),nV (by omega),her,←he9]
       exact aTP hel hlr hdone
      obtain ⟨rows3,hrows3⟩:∃rows3,rows3=rows2.set r ⟨(gt rows2 (r:Int)).b,e1⟩:=⟨_,rfl⟩
      have hl3:rows3.length=R:=by rw [hrows3,List.length_set];exact hl2
      have hg3:gt rows3 (r:Int)=⟨(gt rows2 (r:Int)).b,e1⟩:=by rw [hrows3,iH (by simpa using (show r < rows2.length by omega))];simp
      have hh3:recs eM rows2=recs eM rows3:=by rw [hrows3];exact (wL (by omega) (by rw [her,hlr,hel])).symm
      have he3:rows2.eraseIdx r=rows3.eraseIdx r:=by rw [hrows3,aEN]
      have hmq3:mq rows3=(mq rows2).set r (qs e1):=by rw [hrows3];exact aEJ
      have hk3:∀t:Nat,t < R→t≠r→gt rows3 (t:Int)=gt rows2 (t:Int):=fun t ht htr=>by
       rw [hrows3,iH (by simpa using (show t < rows2.length by omega)),List.getElem_set_ne (Ne.symm htr)];exact (iH (by omega)).symm
      have hC3:∀t:Nat,t < R→(gt rows3 (t:Int)).es.length=c2:=fun t ht=>by
       by_cases htr:t=r
       ·subst htr;rw [hg3];exact hel
       ·rw [hk3 t ht htr];exact hC2 _ (bJ (by omega))
      rw [hh3,he3]
      refine bD (φ:=allM rows3 (4*kj+1)) (by rw [hrows3];exact Hv.setM (k:=kj) (m:=kj+kj) aA aA (by omega) (by omega)) ?_
      refine aMQ (M':= .blk (gt rows2 (r:Int)).b (recs eR e1) 40:: .row q r c (recs eZ (zs pv)) 3 1:: .blk bo (recs eM rows3) 52::((rows3.eraseIdx r).map gF++M1)) (I':=allM rows3 (4*kj+1)::bW e1 (kj+kj)::allM rows2 kj::I0) aG aF ?_
      refine oD (M':= .row q r c (recs eZ (zs pv)) 3 1:: .blk bo (recs eM rows3) 52::(rows3.map gF++M1)) (by have:=aBU (rows:=rows3) (i:=r) (by omega) (A:= .row q r c (recs eZ (zs pv)) 3 1) (B:= .blk bo (recs eM rows3) 52) (M1:=M1);rw [hg3] at this;exact this.symm) ?_
      clear hkeep hdone hh3 he3 hrows3
      have hlr3:(gt rows3 (r:Int)).es.length=c2:=hC3 r (by omega)
      repeat' (first|refine aW ?_|refine aQ rfl (fun h=>?_) (fun h=>?_)|refine aR rfl rfl (fun h=>?_) (fun h=>?_)|fail)
      refine kS [0,5,6,7,12,13,89] rfl (fun k G M I=>∃(i:Nat) (rows4:List MR),i≤R∧k=R - i∧rows4.length=R∧(∀t:Nat,t < R→(gt rows4 (t:Int)).es.length=c2)∧(∀t:Nat,i≤t→t < R→gt rows4 (t:Int)=gt rows3 (t:Int))∧gt rows4 (r:Int)=⟨(gt rows2 (r:Int)).b,e1⟩∧(∀t:Nat,t < i→t≠r→qs (gt rows4 (t:Int)).es=if at2 (mq rows3) t j=0 then qs (gt rows3 (t:Int)).es else kM j (at2 (mq rows3) t j) (qs e1) (qs (gt rows3 (t:Int)).es))∧G=[(90, .int .i64 i)]∧M= .row q r c (recs eZ (zs pv)) 3 1:: .blk bo (recs eM rows4) 52::(rows4.map gF++M1)∧I=allM rows4 (4*kj+1)::bW e1 (kj+kj)::allM rows2 kj::I0) (R) (⟨0,rows3,by omega,by omega,hl3,hC3,fun _ _ _=>rfl,hg3,fun t ht=>by omega,rfl,rfl,rfl⟩) ?_
      rintro k G M I ⟨i,rows4,hi,rfl,hl4,hC4,hrest,hg4,hdone4,rfl,rfl,rfl⟩
      by_cases hiR:i < R
      ·have hgi:=hrest i (Nat.le_refl _) hiR
       by_cases hir:i=r
       ·subst hir
        repeat' (first|refine aW ?_|refine aQ rfl (fun h=>?_) (fun h=>?_)|refine aR rfl rfl (fun h=>?_) (fun h=>?_)|fail)
        refine iC (R - (i+1)) (⟨i+1,rows4,by omega,rfl,hl4,hC4,fun t ht=>hrest t (by omega),hg4,fun t ht htr=>hdone4 t (by omega) htr,rfl,rfl,rfl⟩)
       ·have hlx:=hC4 i hiR
        have hgi2:gt rows4 (i:Int)=gt rows2 (i:Int):=by rw [hgi];exact hk3 i hiR hir
        have hat:at2 (mq rows3) i j=(gt (gt rows4 (i:Int)).es (j:Int)).q:=by rw [hgi];rw [hgi] at hlx;exact yJ (by omega) (by omega)
        have hlr4:(gt rows4 (r:Int)).es.length=c2:=hC4 r (by omega)
        have hlx0:=hlx
        have hEl:Hv (allM rows4 (4*kj+1)::bW e1 (kj+kj)::allM rows2 kj::I0) (cK (gt (gt rows4 (i:Int)).es (j:Int)) kj):=by rw [hgi2];exact Hv.elM (List.Mem.tail _ (List.Mem.tail _ (List.Mem.head _))) (by omega) (by rw [←hgi2];omega) (Nat.le_refl _)
        have hRw:Hv (allM rows4 (4*kj+1)::bW e1 (kj+kj)::allM rows2 kj::I0) (bW (gt rows4 (i:Int)).es kj):=by rw [hgi2];exact Hv.rowMm (List.Mem.tail _ (List.Mem.tail _ (List.Mem.head _))) (by omega) (Nat.le_refl _)
        have hRr:Hv (allM rows4 (4*kj+1)::bW e1 (kj+kj)::allM rows2 kj::I0) (bW (gt rows4 (r:Int)).es (kj+kj)):=by rw [hg4];exact Hv.mem (List.Mem.tail _ (List.Mem.head _))
        have hfoc:=foc2 (rows:=rows4) (i:=i) (j:=r) (by omega) (by omega) hir (A:= .row q r c (recs eZ (zs pv)) 3 1) (B:= .blk bo (recs eM rows4) 52) (M1:=M1)
        have hS:=fun M0=>kV (X:=X) (w0:=w0) (M0:=M0) (e:=gt (gt rows4 (i:Int)).es (j:Int)) (k:=kj) (by omega) hEl
        refine oD hfoc ?_
        by_cases hx0:(gt (gt rows4 (i:Int)).es (j:Int)).q=0
        ·rw [(sG _).2 hx0] at hS
         repeat' (first|refine aW ?_|refine aQ rfl (fun h=>?_) (fun h=>?_)|refine aR rfl rfl (fun h=>?_) (fun h=>?_)|fail)
         refine dP rfl (hS _) ?_
         repeat' (first|refine aW ?_|refine aQ rfl (fun h=>?_) (fun h=>?_)|refine aR rfl rfl (fun h=>?_) (fun h=>?_)|fail)
         refine yQ hfoc.symm ?_
         refine iC (R - (i+1)) (⟨i+1,rows4,by omega,rfl,hl4,hC4,fun t ht=>hrest t (by omega),hg4,fun t ht htr=>?_,rfl,rfl,rfl⟩)
         by_cases hti:t=i
         ·subst hti
          rw [hat,if_pos hx0,hgi]
         ·exact hdone4 t (by omega) htr
        ·have hs0:¬(gt (gt rows4 (i:Int)).es (j:Int)).q.num.sign=0:=fun h=>hx0 ((sG _).1 h)
         have hSb:=fun M0 I0 h1 h2 h3=>aBI (X:=X) (w0:=w0) (M0:=M0) (I0:=I0) (b1:=(gt rows4 (i:Int)).b) (b2:=(gt rows4 (r:Int)).b) (es:=(gt rows4 (i:Int)).es) (os:=(gt rows4 (r:Int)).es) (κ:=gt (gt rows4 (i:Int)).es (j:Int)) (kz:=kj) (h:=kj+kj) (m:=kj) (fr:=j) (n:=c2) (M1:= .row q r c (recs eZ (zs pv)) 3 1:: .blk bo (recs eM rows4) 52::((mH rows4 i r).map gF++M1)) (by omega) (by omega) hlx hlr4 (by omega) h1 h2 h3
         have hK:kj+(kj+(kj+kj))+1=4*kj+1:=by omega
         rw [hK] at hSb
         generalize (gt (gt rows4 (i:Int)).es (j:Int)).q.num.sign=sg at*
         repeat' (first|refine aW ?_|refine aQ rfl (fun h=>?_) (fun h=>?_)|refine aR rfl rfl (fun h=>?_) (fun h=>?_)|fail)
         refine dP rfl (hS _) ?_
         repeat' (first|refine aW ?_|refine aQ rfl (fun h=>?_) (fun h=>?_)|refine aR rfl rfl (fun h=>?_) (fun h=>?_)|fail)
         (repeat refine aJ ?_);refine kT 1 (.blk bo (recs eM rows4) 52::((mH rows4 i r).map gF++M1)) (allM rows4 (4*kj+1)::bW e1 (kj+kj)::allM rows2 kj::I0) [0,1,2,3,4,5,6,7,8,9,10,11,12,13,14,15,16] [1,1,1,0,1,1,1,0,1,1,1,1,1,1,0,0,0] aG aF mixed (by kernel_rfl) ?_
         repeat' (first|refine aW ?_|refine aQ rfl (fun h=>?_) (fun h=>?_)|refine aR rfl rfl (fun h=>?_) (fun h=>?_)|fail)
         rw [hlx0,hlr4]
         refine fH (φ:=bW (gt rows4 (i:Int)).es kj) hRw ?_
         refine fH (φ:=cK (gt (gt rows4 (i:Int)).es (j:Int)) kj) hEl.cons ?_
         refine fH (φ:=bW (gt rows4 (r:Int)).es (kj+kj)) hRr.cons.cons ?_
         (refine lX rfl (hSb _ _ (List.Mem.tail _ (List.Mem.tail _ (List.Mem.head _))) (List.Mem.head _) (List.Mem.tail _ (List.Mem.head _)) rfl) rfl rfl ?_;rintro _ _ _ ⟨rfl,e5,hl5,hd5,rfl,rfl⟩;refine aL ?_)
         obtain ⟨rows5,hrows5⟩:∃rows5,rows5=rows4.set i ⟨(gt rows4 (i:Int)).b,e5⟩:=⟨_,rfl⟩
         have hl5':rows5.length=R:=by rw [hrows5,List.length_set];exact hl4
         have hh5:recs eM rows4=recs eM rows5:=by rw [hrows5];exact (wL (by omega) (by rw [hlx0,hl5])).symm
         have hr5:mH rows4 i r=mH rows5 i r:=by rw [hrows5,xC _ _ _ _ hir]
         have hg5i:gt rows5 (i:Int)=⟨(gt rows4 (i:Int)).b,e5⟩:=by rw [hrows5,iH (by simpa using (show i < rows4.length by omega))];simp
         have hg5o:∀t:Nat,t < R→t≠i→gt rows5 (t:Int)=gt rows4 (t:Int):=fun t ht hti=>by
          rw [hrows5,iH (by simpa using (show t < rows4.length by omega)),List.getElem_set_ne (Ne.symm hti)];exact (iH (by omega)).symm
         have hf5:=foc2 (rows:=rows5) (i:=i) (j:=r) (by omega) (by omega) hir (A:= .row q r c (recs eZ (zs pv)) 3 1) (B:= .blk bo (recs eM rows5) 52) (M1:=M1)
         rw [hg5i,hg5o r (by omega) (Ne.symm hir)] at hf5
         rw [hh5,hr5]
         refine aCO hf5.symm ?_
         refine fH (φ:=allM rows5 (4*kj+1)) (by rw [hrows5];exact Hv.setM (k:=4*kj+1) (m:=4*kj+1) aA aA (by omega) (by omega)) ?_
         repeat' (first|refine aW ?_|refine aQ rfl (fun h=>?_) (fun h=>?_)|refine aR rfl rfl (fun h=>?_) (fun h=>?_)|fail)
         refine iC (R - (i+1)) (⟨i+1,rows5,by omega,rfl,hl5',fun t ht=>?_,fun t ht htR=>?_,?_,fun t ht htr=>?_,rfl,rfl,rfl⟩)
         ·by_cases hti:t=i
          ·subst hti;rw [hg5i];exact hl5
          ·rw [hg5o t ht hti];exact hC4 t ht
         ·rw [hg5o t htR (by omega)];exact hrest t (by omega) htR
         ·rw [hg5o r (by omega) (Ne.symm hir)];exact hg4
         ·by_cases hti:t=i
          ·subst hti
           rw [hg5i,hat,if_neg hx0,←hgi]
           rw [hg4] at hd5
           exact aSA hl5 hlx hel hd5
          ·rw [hg5o t (by omega) hti];exact hdone4 t (by omega) htr
      ·obtain rfl:i=R:=by omega
       have hmq4:mq rows4=aAB (mq rows1) r j x:=by
        unfold aAB
        rw [←hmq2,←hpr,←hmq3]
        exact aWF hl4 hl3 (by omega) (by rw [hg4]) hg3 hdone4
       have e1:recs eZ (zs pv)++recs eZ [(j:Int)]=recs eZ (zs (pv++[j])):=by rw [←jO];exact congrArg (recs eZ) (List.map_append (f:=fun (x:Nat)=>(x:Int)) (l₁:=pv) (l₂:=[j])).symm
       repeat' (first|refine aW ?_|refine aQ rfl (fun h=>?_) (fun h=>?_)|refine aR rfl rfl (fun h=>?_) (fun h=>?_)|fail)
       refine lL (cs:=recs eZ [(j:Int)]) ([.int .i64 (j:Int)]) rfl (fun b3=>?_)
       refine aSQ (len:=1) (news:=recs eZ [(j:Int)]) 1 rfl rfl rfl (Src.blk aA) (by decide) rfl (wI (enc:=eZ) [(j:Int)]) (by omega) (by omega) rfl rfl ?_
       intro a2 c3
       refine aL ?_
       rw [e1]
       repeat' (first|refine aW ?_|refine aQ rfl (fun h=>?_) (fun h=>?_)|refine aR rfl rfl (fun h=>?_) (fun h=>?_)|fail)
       refine fF (φ:=allM rows4 (kb k0 (j+1))) (Hv.monoM (List.Mem.head _) (by omega)) ?_
       refine iC (n - (j+1)) (⟨j+1,r+1,rows4,pv++[j],a2,c3,by omega,rfl,by simp [hr],hl4,fun s hs=>?_,?_,by omega,by omega,rfl,rfl,rfl⟩)
       ·obtain ⟨t,ht,rfl⟩:=List.mem_iff_getElem.1 hs
        have:=hC4 t (by omega)
        rwa [iH ht] at this
       ·rw [aBC,hred]
        unfold aUG
        rw [hlen1,hr,hfx2,if_pos hxR2,hmq4]
   ·obtain rfl:x=R:=by omega
    repeat' (first|refine aW ?_|refine aQ rfl (fun h=>?_) (fun h=>?_)|refine aR rfl rfl (fun h=>?_) (fun h=>?_)|fail)
    refine fF (φ:=allM rows1 (kb k0 (j+1))) (Hv.monoM (List.Mem.head _) (by omega)) ?_
    refine iC (n - (j+1)) (⟨j+1,r,rows1,pv,q,c,by omega,rfl,hr,hl1,hC1,?_,hpv,by omega,rfl,rfl,rfl⟩)
    rw [aBC,hred]
    unfold aUG
    rw [hlen1,hr,hfx2,if_neg (by omega)]
 ·obtain rfl:j=n:=by omega
  repeat' (first|refine aW ?_|refine aQ rfl (fun h=>?_) (fun h=>?_)|refine aR rfl rfl (fun h=>?_) (fun h=>?_)|fail)
  subst hr
  refine gD rfl rfl (⟨rows1,pv,q,c,rfl,hl1,hC1,hred,hpv,rfl,rfl⟩)
end
end Go.Proofs.YtgpkjcmipiodcaaGreat

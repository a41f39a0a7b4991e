/- Chapter 29, plain: pairs, the maps that they determine, by how much a map misses a pair, s -/
import Derived.Test.YtmmmfphealhapaaGreatZsav
import Derived.Test.YtmmmfphealhapaaGreatZsas
import Derived.Test.YtmmmfphealhapaaGreatZsaq
import Derived.Test.YtmmmfphealhapaaGreatZsat
import Derived.Test.YtmmmfphealhapaaGreatZsau
set_option linter.unusedSimpArgs false
set_option linter.unusedVariables false
set_option maxRecDepth 100000
set_option maxHeartbeats 4000000
namespace Go.Proofs.YtmmmfphealhapaaGreat
open Go Go.Fx
structure Q4 where
 x:Int
 y:Int
 u:Int
 v:Int
instance Q4.inh:Inhabited Q4:=⟨⟨0,0,0,0⟩⟩
abbrev iL (s:Q4):List Value:=[.int .i64 s.x, .int .i64 s.y, .int .i64 s.u, .int .i64 s.v]
abbrev vQ4 (s:Q4):Value:= .agg (iL s).toArray
instance Q4.szd:Sized iL 4:=⟨fun _=>rfl⟩
def farC (a b:Int):Prop:=(a < -32768∨b < -32768)∨32768 < a∨32768 < b
instance farC.dec (a b:Int):Decidable (farC a b):=inferInstanceAs (Decidable ((a < -32768∨b < -32768)∨32768 < a∨32768 < b))
def Q4.far (s:Q4):Prop:=farC s.x s.y∨farC s.u s.v
instance Q4.far.dec (s:Q4):Decidable s.far:=inferInstanceAs (Decidable (farC s.x s.y∨farC s.u s.v))
def anyFar (l:List Q4):Prop:=∃s∈l,s.far
instance anyFar.dec (l:List Q4):Decidable (anyFar l):=inferInstanceAs (Decidable (∃s∈l,s.far))
def jH (l:List Q4):Int:=if l.length=0 then 1 else if 64 < l.length then 3 else if anyFar l then 2 else 0
structure Q4.near (s:Q4):Prop where
 x: -32768≤s.x∧s.x≤32768
 y: -32768≤s.y∧s.y≤32768
 u: -32768≤s.u∧s.u≤32768
 v: -32768≤s.v∧s.v≤32768
theorem Q4.near_of {s:Q4} (h:¬s.far):s.near:=by
 unfold Q4.far farC at h
 refine ⟨?_,?_,?_,?_⟩ <;>omega
theorem aDC {l:List Q4} (h:jH l=0):(1≤l.length∧l.length≤64)∧∀s∈l,s.near:=by
 unfold jH at h
 split at h
 ·omega
 ·split at h
  ·omega
  ·split at h
   ·omega
   ·rename_i h1 h2 h3
    exact ⟨by omega,fun s hs=>Q4.near_of (fun e=>h3 ⟨s,hs,e⟩)⟩
def cz (l:List Int):List Rat:=l.map (fun x:Int=>(x:Rat))
def dr1 (k:Nat) (s:Q4):List Int:=if k=0 then [1,0] else if k=1 then [s.x, -s.y,1,0] else [s.x,s.y,1,0,0,0]
def dr2 (k:Nat) (s:Q4):List Int:=if k=0 then [0,1] else if k=1 then [s.y,s.x,0,1] else [0,0,0,s.x,s.y,1]
def db1 (k:Nat) (s:Q4):Int:=if k=0 then s.u - s.x else s.u
def db2 (k:Nat) (s:Q4):Int:=if k=0 then s.v - s.y else s.v
def mI (k:Nat):Nat:=if k=0 then 2 else if k=1 then 4 else 6
def tN (k:Nat) (l:List Q4):Mt:=l.flatMap (fun s=>[cz (dr1 k s),cz (dr2 k s)])
def dsB (k:Nat) (l:List Q4):List Rat:=l.flatMap (fun s=>[(db1 k s:Rat),(db2 k s:Rat)])
def frm (k:Nat) (x:List Rat):Mt:=
 if k=0 then [[1,0,x.getD 0 0],[0,1,x.getD 1 0],[0,0,1]]
 else if k=1 then [[x.getD 0 0, -x.getD 1 0,x.getD 2 0],[x.getD 1 0,x.getD 0 0,x.getD 3 0],[0,0,1]]
 else [[x.getD 0 0,x.getD 1 0,x.getD 2 0],[x.getD 3 0,x.getD 4 0,x.getD 5 0],[0,0,1]]
def nrN (R C:Nat) (A:Mt):Mt:=xC C C (fun i j=>sm R (fun t=>at2 A t i*at2 A t j))
def nrB (R C:Nat) (A:Mt) (b:List Rat):List Rat:=(List.range C).map (fun i=>sm R (fun t=>at2 A t i*b.getD t 0))
def lsX (R C:Nat) (A:Mt) (b:List Rat):List Rat:=(List.range C).map (fun i=>sm C (fun t=>at2 (aEE C (nrN R C A)) i t*(nrB R C A b).getD t 0))
def zG (k:Nat) (l:List Q4):List Rat:=lsX (2*l.length) (mI k) (tN k l) (dsB k l)
def aLU (k:Nat) (l:List Q4):Rat:=dt (mI k) (at2 (nrN (2*l.length) (mI k) (tN k l)))
def qJ (k:Nat) (l:List Q4):Option Mt:=if l=[] then none else if aLU k l=0 then none else if dt 3 (at2 (frm k (zG k l)))=0 then none else some (frm k (zG k l))
def xU (m:Mt) (i:Nat) (s:Q4):Rat:=at2 m i 0*(s.x:Rat)+at2 m i 1*(s.y:Rat)+at2 m i 2
def misX (m:Mt) (s:Q4):Rat:=xU m 0 s / xU m 2 s - (s.u:Rat)
def misY (m:Mt) (s:Q4):Rat:=xU m 1 s / xU m 2 s - (s.v:Rat)
def aCM (m:Mt) (s:Q4):Rat:=misX m s*misX m s+misY m s*misY m s
def okQ (m:Mt) (tol:Int) (s:Q4):Prop:=xU m 2 s≠0∧aCM m s≤(tol:Rat)
instance okQ.dec (m:Mt) (tol:Int) (s:Q4):Decidable (okQ m tol s):=inferInstanceAs (Decidable (xU m 2 s≠0∧aCM m s≤(tol:Rat)))
def aMU (m:Mt) (l:List Q4) (tol:Int):Nat→List Int
 |0=>[]
 |n+1=>if okQ m tol (gt l (n:Int)) then aMU m l tol n++[(n:Int)] else aMU m l tol n
def mY (m:Mt) (l:List Q4) (tol:Int):List Int:=aMU m l tol l.length
theorem zC {m:Mt} {l:List Q4} {tol:Int}:∀{n:Nat},(aMU m l tol n).length≤n
 |0=>Nat.le_refl _
 |n+1=>by
  have ih:=zC (m:=m) (l:=l) (tol:=tol) (n:=n)
  unfold aMU
  split
  ·simp;exact ih
  ·omega
def bV (l:List Q4) (smp:List Int):List Q4:=smp.map (fun i=>gt l i)
def cmb (n:Nat):Nat→Nat→List (List Int)
 |0,_=>[[]]
 |k+1,a=>(List.range (n - a)).flatMap (fun j=>(cmb n k (a+j+1)).map (fun l=>((a+j:Nat):Int)::l))
def aBD (n k a m:Nat):List (List Int):=(List.range m).flatMap (fun j=>(cmb n k (a+j+1)).map (fun l=>((a+j:Nat):Int)::l))
theorem aDU {n k a:Nat}:cmb n (k+1) a=aBD n k a (n - a):=rfl
theorem aRO {n k a:Nat}:aBD n k a 0=[]:=rfl
theorem aGP {n k a m:Nat}:aBD n k a (m+1)=aBD n k a m++(cmb n k (a+m+1)).map (fun l=>((a+m:Nat):Int)::l):=by
 unfold aBD
 rw [List.range_succ,List.flatMap_append]
 simp
theorem aQW {n:Nat}:∀{k a:Nat},n < a+(k+1)→cmb n (k+1) a=[]
 |0,a,h=>by
  rw [aDU,show n - a=0 by omega];rfl
 |k+1,a,h=>by
  rw [aDU]
  unfold aBD
  rw [List.flatMap_eq_nil_iff]
  intro j hj
  rw [aQW (k:=k) (a:=a+j+1) (by omega)]
  rfl
theorem aVH {n k a m:Nat} (hm:n < a+m+(k+1)) (hle:m≤n - a):aBD n k a m=cmb n (k+1) a:=by
 rw [aDU]
 by_cases hna:n≤a
 ·rw [show n - a=0 by omega,show m=0 by omega]
 have h:∀d,aBD n k a (m+d)=aBD n k a m∨n < a+m+d:=by
  intro d
  induction d with
  |zero=>exact .inl rfl
  |succ d ih=>
   by_cases h:n < a+m+(d+1)
   ·exact .inr (by omega)
   rcases ih with ih|ih
   ·refine .inl ?_
    rw [←Nat.add_assoc,aGP,ih]
    cases k with
    |zero=>omega
    |succ k=>rw [aQW (by omega)];simp
   ·omega
 rcases h (n - a - m) with h|h
 ·rw [show n - a=m+(n - a - m) by omega,h]
 ·omega
structure SmpP (n k a:Nat) (l:List Int):Prop where
 len:l.length=k
 lt:∀x∈l,(a:Int)≤x∧x < n
 asc:l.Pairwise (· < ·)
def aHW (mdl:List Int→Option Mt) (inl:Mt→List Int) (o:Option (List Int × List Int × Mt)) (l:List Int):Option (List Int × List Int × Mt):=
 match mdl l with
 |none=>o
 |some m=>match o with
  |none=>some (l,inl m,m)
  |some f=>if f.2.1.length < (inl m).length then some (l,inl m,m) else o
def qO (mdl:List Int→Option Mt) (inl:Mt→List Int) (ls:List (List Int)):Option (List Int × List Int × Mt):=ls.foldl (aHW mdl inl) none
theorem yG {mdl:List Int→Option Mt} {inl:Mt→List Int} {ls:List (List Int)} {l:List Int}:qO mdl inl (ls++[l])=aHW mdl inl (qO mdl inl ls) l:=by
 unfold qO
 rw [List.foldl_append]
 rfl
theorem aDL {mdl:List Int→Option Mt} {inl:Mt→List Int}:∀(ls done:List (List Int)) (o:Option (List Int × List Int × Mt)),(∀f,o=some f→f.1∈done∧mdl f.1=some f.2.2∧f.2.1=inl f.2.2)→
  ∀f,ls.foldl (aHW mdl inl) o=some f→f.1∈done++ls∧mdl f.1=some f.2.2∧f.2.1=inl f.2.2
 |[],done,o,h,f,hf=>by
  obtain ⟨a,b,c⟩:=h f hf
  exact ⟨by simpa using a,b,c⟩
 |l::ls,done,o,h,f,hf=>by
  have:=aDL ls (done++[l]) (aHW mdl inl o l) (fun g hg=>by
   unfold aHW at hg
   split at hg
   ·obtain ⟨a,b,c⟩:=h g hg
    exact ⟨List.mem_append_left _ a,b,c⟩
   ·rename_i m hm
    split at hg
    ·injection hg with hg;subst hg;exact ⟨by simp,hm,rfl⟩
    ·split at hg
     ·injection hg with hg;subst hg;exact ⟨by simp,hm,rfl⟩
     ·obtain ⟨a,b,c⟩:=h g hg
      exact ⟨List.mem_append_left _ a,b,c⟩) f hf
  simpa using this
theorem aRR {mdl:List Int→Option Mt} {inl:Mt→List Int} {ls:List (List Int)} {f:List Int × List Int × Mt} (h:qO mdl inl ls=some f):f.1∈ls∧mdl f.1=some f.2.2∧f.2.1=inl f.2.2:=by
 have:=aDL (mdl:=mdl) (inl:=inl) ls [] none (fun f h=>by cases h) f h
 simpa using this
theorem bDR {R C:Nat} {A:Mt} {i j:Nat} (hi:i < C) (hj:j < C):at2 (nrN R C A) i j=sm R (fun t=>at2 A t i*at2 A t j):=tF hi hj
theorem bEE {R C:Nat} {A:Mt} {b:List Rat} {i:Nat} (hi:i < C):(nrB R C A b).getD i 0=sm R (fun t=>at2 A t i*b.getD t 0):=by simp [nrB,List.getD,hi]
theorem bCT {R C:Nat} {A:Mt} {b:List Rat} {i:Nat} (hi:i < C):(lsX R C A b).getD i 0=sm C (fun t=>at2 (aEE C (nrN R C A)) i t*(nrB R C A b).getD t 0):=by simp [lsX,List.getD,hi]
theorem bAC {R C:Nat} {A:Mt} {b:List Rat}:(lsX R C A b).length=C:=by simp [lsX]
theorem aKL {n:Nat} {f g:Nat→Nat→Rat} {x:Nat→Rat} {i:Nat}:sm n (fun j=>tC n f g i j*x j)=sm n (fun t=>f i t*sm n (fun j=>g t j*x j)):=by
 have e1:sm n (fun j=>tC n f g i j*x j)=sm n (fun j=>sm n (fun t=>f i t*g t j*x j)):=bC (fun j _=>by
  unfold tC
  rw [Rat.mul_comm,←jF]
  exact bC (fun t _=>by rw [Rat.mul_comm]))
 rw [e1,sU]
 exact bC (fun t _=>by
  rw [←jF]
  exact bC (fun j _=>by rw [Rat.mul_assoc]))
theorem aWE {n i:Nat} {x:Nat→Rat} (hi:i < n):sm n (fun j=>nU i j*x j)=x i:=by
 rw [pI hi (fun j _ h=>by simp [nU,Ne.symm h])]
 simp [nU]
theorem bES {R C:Nat} {A:Mt} {b:List Rat} (h:dt C (at2 (nrN R C A))≠0) {x:Nat→Rat} (hx:∀i,i < C→sm C (fun j=>at2 (nrN R C A) i j*x j)=(nrB R C A b).getD i 0):∀i,i < C→x i=(lsX R C A b).getD i 0:=by
 intro i hi
 rw [bCT hi,←aWE (x:=x) hi]
 have e:sm C (fun j=>nU i j*x j)=sm C (fun j=>tC C (at2 (aEE C (nrN R C A))) (at2 (nrN R C A)) i j*x j):=bC (fun j hj=>by rw [(aPI h).2 i j hi hj])
 rw [e,aKL]
 exact bC (fun t ht=>by rw [hx t ht])
theorem bDQ {R C:Nat} {A:Mt} {x:Nat→Rat} {i:Nat} (hi:i < C):sm C (fun j=>at2 (nrN R C A) i j*x j)=sm R (fun t=>at2 A t i*sm C (fun j=>at2 A t j*x j)):=by
 have e1:sm C (fun j=>at2 (nrN R C A) i j*x j)=sm C (fun j=>sm R (fun t=>at2 A t i*(at2 A t j*x j))):=bC (fun j hj=>by
  rw [bDR hi hj,Rat.mul_comm,←jF]
  exact bC (fun t _=>by rw [Rat.mul_comm,Rat.mul_assoc]))
 rw [e1,sU]
 exact bC (fun t _=>by rw [←jF])
theorem aSU {R C:Nat} {A:Mt} {b:List Rat} {x:Nat→Rat} (h:∀t,t < R→sm C (fun j=>at2 A t j*x j)=b.getD t 0):∀i,i < C→sm C (fun j=>at2 (nrN R C A) i j*x j)=(nrB R C A b).getD i 0:=by
 intro i hi
 rw [bDQ hi,bEE hi]
 exact bC (fun t ht=>by rw [h t ht])
def sqS (R C:Nat) (A:Mt) (b:List Rat) (x:Nat→Rat):Rat:=sm R (fun t=>(sm C (fun j=>at2 A t j*x j) - b.getD t 0)*(sm C (fun j=>at2 A t j*x j) - b.getD t 0))
theorem gtQ {α:Type} [Inhabited α] {l:List α} {i:Nat} (h:i < l.length):gt l (i:Int)=l[i]:=by simp [gt,List.getD,h]
theorem xB {k:Nat} {l:List Q4}:(tN k l).length=2*l.length:=by
 unfold tN
 induction l with
 |nil=>rfl
 |cons s r ih=>rw [List.flatMap_cons,List.length_append,ih];simp;omega
theorem aHV {k:Nat}:∀{l:List Q4} {i:Nat},i < l.length→rowAt (tN k l) (2*i)=cz (dr1 k (gt l (i:Int)))∧rowAt (tN k l) (2*i+1)=cz (dr2 k (gt l (i:Int)))
 |s::r,0,_=>⟨rfl,rfl⟩
 |s::r,i+1,h=>by
  have ih:=aHV (k:=k) (l:=r) (i:=i) (by simpa using h)
  have e1:gt (s::r) ((i+1:Nat):Int)=gt r (i:Int):=by rw [gtQ h,gtQ (by simpa using h)];rfl
  rw [e1,←ih.1,←ih.2]
  have e2:tN k (s::r)=cz (dr1 k s)::cz (dr2 k s)::tN k r:=rfl
  have e3:2*(i+1)=2*i+1+1:=by omega
  rw [e2,e3]
  exact ⟨rfl,rfl⟩
theorem aYF {k:Nat} {s:Q4}:(dr1 k s).length=mI k∧(dr2 k s).length=mI k:=by
 unfold dr1 dr2 mI
 split
 ·exact ⟨rfl,rfl⟩
 ·split <;>exact ⟨rfl,rfl⟩
theorem aYJ {l:List Int}:(cz l).length=l.length:=by simp [cz]
theorem aOV {k:Nat} {l:List Q4}:qG (tN k l) (2*l.length) (mI k):=⟨xB,fun i hi=>by
 obtain ⟨t,h|h⟩:∃t,i=2*t∨i=2*t+1:=⟨i / 2,by omega⟩
 ·rw [h,(aHV (by omega)).1,aYJ,aYF.1]
 ·rw [h,(aHV (by omega)).2,aYJ,aYF.2]⟩
theorem vK {k:Nat} {l:List Q4}:(dsB k l).length=2*l.length:=by
 unfold dsB
 induction l with
 |nil=>rfl
 |cons s r ih=>rw [List.flatMap_cons,List.length_append,ih];simp;omega
def totQ (m:Mt) (l:List Q4):Rat:=sm l.length (fun t=>aCM m (gt l (t:Int)))
def uV (R C:Nat) (A:Mt) (b:List Rat):Mt:=xC R (C+1) (fun i j=>if j < C then at2 A i j else b.getD i 0)
def besU (R C:Nat) (A:Mt) (b:List Rat):Mt:=xC R (C+1+R) (fun i j=>if j < C then at2 A i j else if j=C then b.getD i 0 else nU i (j - (C+1)))
theorem aRD {R C:Nat} {F:Nat→Nat→Rat}:qG (xC R C F) R C:=⟨by simp [xC],fun i hi=>by simp [xC,rowAt,List.getD,hi]⟩
def solB (R C:Nat) (f:Nat→Nat→Rat) (pv:List Nat):Prop:=∀i∈List.range R,pv.length≤i→f i C=0
instance (R C:Nat) (f:Nat→Nat→Rat) (pv:List Nat):Decidable (solB R C f pv):=by unfold solB;exact inferInstance
theorem aLP {R C:Nat} {f:Nat→Nat→Rat} {pv:List Nat}:solB R C f pv↔aXP R C f pv:=⟨fun h i h1 h2=>h i (List.mem_range.2 h2) h1,fun h i h1 h2=>h i h2 (List.mem_range.1 h1)⟩
def aHR (R C:Nat) (A:Mt) (b:List Rat):Prop:=solB R C (at2 (eP (uV R C A b) C).1) (eP (uV R C A b) C).2
instance (R C:Nat) (A:Mt) (b:List Rat):Decidable (aHR R C A b):=by unfold aHR;exact inferInstance
def aCN (R C:Nat) (A:Mt) (b:List Rat):List Rat:=(List.range C).map (aWP (at2 (eP (uV R C A b) C).1) (eP (uV R C A b) C).2 C)
theorem aIL {R C:Nat} {A:Mt} {b:List Rat} {i j:Nat} (hi:i < R) (hj:j < C):at2 (uV R C A b) i j=at2 A i j:=by unfold uV;rw [tF hi (by omega),if_pos hj]
theorem aOG {R C:Nat} {A:Mt} {b:List Rat} {i:Nat} (hi:i < R):at2 (uV R C A b) i C=b.getD i 0:=by unfold uV;rw [tF hi (by omega),if_neg (by omega)]
theorem aVQ {R C:Nat} {A:Mt} {b:List Rat}:aHR R C A b↔∃x:Nat→Rat,∀i,i < R→sm C (fun j=>at2 A i j*x j)=b.getD i 0:=by
 obtain ⟨_,s,hr⟩:=iJ (A:=uV R C A b) (R:=R) (C:=C+1) aRD C (by omega)
 unfold aHR
 rw [aLP,hr.sol_iff (by omega)]
 constructor
 ·rintro ⟨x,hx⟩;exact ⟨x,fun i hi=>by rw [←aOG (A:=A) (C:=C) hi,←hx i hi];exact bC (fun j hj=>by rw [aIL hi hj])⟩
 ·rintro ⟨x,hx⟩;exact ⟨x,fun i hi=>by rw [aOG hi,←hx i hi];exact bC (fun j hj=>by rw [aIL hi hj])⟩
theorem aZO {R C:Nat} {A:Mt} {b:List Rat} (h:aHR R C A b):∀i,i < R→sm C (fun j=>at2 A i j*(aCN R C A b).getD j 0)=b.getD i 0:=by
 obtain ⟨_,s,hr⟩:=iJ (A:=uV R C A b) (R:=R) (C:=C+1) aRD C (by omega)
 intro i hi
 have:=hr.sol_x (by omega) (aLP.1 h) i hi
 rw [aOG hi] at this
 rw [←this]
 refine bC (fun j hj=>?_)
 rw [aIL hi hj]
 unfold aCN
 simp [List.getD,hj]
/- the wider matrix tells the same -/
section
variable {X:List Nat} {w0:World} {M0:List Ent} {I0:List aM}
end
def unL (n i:Nat):List Rat:=(List.range n).map (nU i)
def rw1 (A:Mt) (C i:Nat) (z:Nat→Rat):Rat:=sm C (fun j=>at2 A i j*z j)
def ctl (R C:Nat) (A:Mt) (i:Nat):Prop:=¬aHR R C A (unL R i)
instance (R C:Nat) (A:Mt) (i:Nat):Decidable (ctl R C A i):=by unfold ctl;exact inferInstance
/- rows left out -/
def rowsM (A:Mt) (ix:List Nat):Mt:=ix.map (rowAt A)
def restI (R:Nat) (set:List Int):List Nat:=(List.range R).filter (fun i=>decide ((i:Int) ∉ set))
def und (R C:Nat) (A:Mt) (set:List Int):Prop:=rk (rowsM A (restI R set)) C < rk A C
instance (R C:Nat) (A:Mt) (set:List Int):Decidable (und R C A set):=by unfold und;exact inferInstance
/- the transposed matrix -/
def trM (R C:Nat) (A:Mt):Mt:=xC C R (fun i j=>at2 A j i)
/- certificates -/
/- weights: the normal matrix has the kernel of the design matrix -/
theorem sq_nn (x:Rat):0≤x*x:=by
 rcases Rat.le_total (a:=0) (b:=x) with h|h
 ·exact Rat.mul_nonneg h h
 ·have h2:0≤ -x:=by grind
  have:=Rat.mul_nonneg h2 h2
  grind
def aNA (R C:Nat) (A:Mt) (p:Nat→Rat):Mt:=xC C C (fun i j=>sm R (fun k=>p k*at2 A k i*at2 A k j))
theorem sm_nn {n:Nat} {f:Nat→Rat} (h:∀i,i < n→0≤f i):0≤sm n f∧(sm n f=0→∀i,i < n→f i=0):=by
 induction n with
 |zero=>exact ⟨(by show (0:Rat)≤0;decide),fun _ i hi=>by omega⟩
 |succ n ih=>
  obtain ⟨h1,h2⟩:=ih (fun i hi=>h i (by omega))
  have h3:=h n (by omega)
  have e:sm (n+1) f=sm n f+f n:=rfl
  rw [e]
  refine ⟨by grind,fun h0 i hi=>?_⟩
  have h4:sm n f=0:=by grind
  have h5:f n=0:=by grind
  by_cases e:i=n
  ·rw [e];exact h5
  ·exact h2 h4 i (by omega)
theorem aQN {R C:Nat} {A:Mt} {p:Nat→Rat} (hp:∀k,k < R→0 < p k) (z:Nat→Rat):Go.Proofs.YtmmmfphealhapaaGreat.ker C C (at2 (aNA R C A p)) z↔Go.Proofs.YtmmmfphealhapaaGreat.ker R C (at2 A) z:=by
 have e:∀i,i < C→sm C (fun j=>at2 (aNA R C A p) i j*z j)=sm R (fun k=>p k*at2 A k i*rw1 A C k z):=fun i hi=>by
  rw [bC (g:=fun j=>sm R (fun k=>p k*at2 A k i*(at2 A k j*z j))) (fun j hj=>by
   unfold aNA;rw [tF hi hj]
   have:∀s:Rat,s*z j=z j*s:=fun s=>by grind
   rw [this,←jF];exact bC (fun k _=>by grind)),sU]
  exact bC (fun k _=>by rw [jF];rfl)
 constructor
 ·intro h
  have h1:sm R (fun k=>p k*(rw1 A C k z*rw1 A C k z))=0:=by
   have h2:sm C (fun i=>z i*sm R (fun k=>p k*at2 A k i*rw1 A C k z))=0:=lJ (fun i hi=>by rw [←e i hi,h i hi];grind)
   rw [bC (g:=fun i=>sm R (fun k=>(p k*rw1 A C k z)*(at2 A k i*z i))) (fun i _=>by rw [←jF];exact bC (fun k _=>by grind)),sU] at h2
   rw [←h2]
   exact bC (fun k _=>by rw [jF];unfold rw1;grind)
  have h3:=(sm_nn (f:=fun k=>p k*(rw1 A C k z*rw1 A C k z)) (fun k hk=>Rat.mul_nonneg (Rat.le_of_lt (hp k hk)) (sq_nn _))).2 h1
  intro k hk
  have h4:=h3 k hk
  have h5:=hp k hk
  show rw1 A C k z=0
  rcases Rat.mul_eq_zero.1 h4 with h|h
  ·grind
  ·rcases Rat.mul_eq_zero.1 h with h|h <;>exact h
 ·intro h i hi
  rw [e i hi]
  exact lJ (fun k hk=>by have:rw1 A C k z=0:=h k hk;rw [this];grind)
theorem bEI {R C:Nat} {A:Mt} (hA:qG A R C) {p:Nat→Rat} (hp:∀k,k < R→0 < p k):rk (aNA R C A p) C=rk A C:=by
 obtain ⟨_,s,hr⟩:=iJ hA C (Nat.le_refl _)
 obtain ⟨_,s',hr'⟩:=iJ (A:=aNA R C A p) (R:=C) (C:=C) aRD C (Nat.le_refl _)
 exact Nat.le_antisymm (hr'.le hr (fun z hz=>(aQN hp z).2 hz)) (hr.le hr' (fun z hz=>(aQN hp z).1 hz))
/- the document's inverse: the pivots of the matrix with the unit matrix beside -/
theorem aOA {A:Mt} {R C:Nat} (hA:qG A R C):rk A C≤C:=by
 obtain ⟨_,s,hr⟩:=iJ hA C (Nat.le_refl _)
 have:=hr.free_len
 unfold rk
 omega
theorem aLT {A:Mt} {C:Nat} (hA:qG A C C):rk A C=C↔dt C (at2 A)≠0:=by
 obtain ⟨_,s,hr⟩:=iJ hA C (Nat.le_refl _)
 exact hr.iff (Nat.le_refl _)
theorem aQO {R C:Nat} {A:Mt}:qG (nrN R C A) C C:=aRD
theorem aVJ {R C:Nat} {A:Mt} (hA:qG A R C):rk (nrN R C A) C=rk A C:=by
 have e:nrN R C A=aNA R C A (fun _=>1):=by
  unfold nrN aNA
  congr 1
  funext i j
  exact bC (fun t _=>by rw [Rat.one_mul])
 rw [e]
 exact bEI hA (fun _ _=>by decide)
theorem bBG {C:Nat} {a b:List Rat} (ha:a.length=C) (hb:b.length=C) (h:∀i,i < C→a.getD i 0=b.getD i 0):a=b:=by
 apply List.ext_getElem (by rw [ha,hb])
 intro i h1 h2
 have:=h i (by omega)
 simpa [List.getD,h1,h2] using this
theorem solLn {R C:Nat} {A:Mt} {b:List Rat}:(aCN R C A b).length=C:=by simp [aCN]
theorem bBM {C:Nat} {A:Mt} {b:List Rat} (hA:qG A C C) (h:rk A C=C):dt C (at2 (nrN C C A))≠0∧aHR C C A b∧aCN C C A b=lsX C C A b:=by
 have hn:dt C (at2 (nrN C C A))≠0:=(aLT aQO).1 (by rw [aVJ hA];exact h)
 have hd:dt C (at2 A)≠0:=(aLT hA).1 h
 have hs:aHR C C A b:=aVQ.2 ⟨fun j=>sm C (fun t=>at2 (aEE C A) j t*b.getD t 0),fun i hi=>by
  rw [←aKL (f:=at2 A) (g:=at2 (aEE C A)) (x:=fun t=>b.getD t 0)]
  rw [bC (g:=fun j=>nU i j*b.getD j 0) (fun j hj=>by rw [(aPI hd).1 i j hi hj])]
  exact aWE hi⟩
 refine ⟨hn,hs,bBG solLn bAC (fun i hi=>?_)⟩
 exact bES (b:=b) (x:=fun j=>(aCN C C A b).getD j 0) hn (aSU (fun t ht=>aZO hs t ht)) i hi
theorem aPQ {k:Nat} {l:List Q4} (hl:2*l.length=mI k):qG (tN k l) (mI k) (mI k):=by
 have:=aOV (k:=k) (l:=l)
 rw [hl] at this
 exact this
theorem bAM {k:Nat} {l:List Q4} (hl:2*l.length=mI k):if rk (tN k l) (mI k) < mI k then aLU k l=0 else aLU k l≠0∧aHR (mI k) (mI k) (tN k l) (dsB k l)∧aCN (mI k) (mI k) (tN k l) (dsB k l)=zG k l:=by
 have hA:=aPQ hl
 have hle:=aOA hA
 have e1:aLU k l=dt (mI k) (at2 (nrN (mI k) (mI k) (tN k l))):=by unfold aLU;rw [hl]
 have e2:zG k l=lsX (mI k) (mI k) (tN k l) (dsB k l):=by unfold zG;rw [hl]
 rw [e1,e2]
 split
 ·rename_i h
  by_cases h0:dt (mI k) (at2 (nrN (mI k) (mI k) (tN k l)))=0
  ·exact h0
  ·have:=(aLT (A:=nrN (mI k) (mI k) (tN k l)) aQO).2 h0
   rw [aVJ hA] at this
   omega
 ·exact bBM hA (by omega)
abbrev Sp:=List (Nat × List Rat)
def sub1 (κ:Rat) (s l:List Rat):List Rat:=l.mapIdx (fun c x=>x - κ*s.getD c 0)
def rdS (p:Nat × List Rat) (l:List Rat):List Rat:=sub1 (l.getD p.1 0) p.2 l
def rdc (sp:Sp) (l:List Rat):List Rat:=sp.foldl (fun l p=>rdS p l) l
def fst0 (l:List Rat):Nat:=l.findIdx (fun x=>decide (x≠0))
def dvd (l:List Rat) (κ:Rat):List Rat:=l.map (fun x=>x / κ)
def adS (sp:Sp) (l:List Rat):Bool × Sp:=
 if fst0 (rdc sp l) < l.length then (true,sp++[(fst0 (rdc sp l),dvd (rdc sp l) ((rdc sp l).getD (fst0 (rdc sp l)) 0))]) else (false,sp)
def spn (A:Mt) (q:Nat→Bool):Nat→Sp × List Nat
 |0=>([],[])
 |k+1=>if q k then ((adS (spn A q k).1 (rowAt A k)).2,if (adS (spn A q k).1 (rowAt A k)).1 then (spn A q k).2++[k] else (spn A q k).2) else spn A q k
def spR (sp:Sp) (t:Nat):List Rat:=(sp.getD t (0,[])).2
def spP (sp:Sp) (t:Nat):Nat:=(sp.getD t (0,[])).1
structure SpI (C:Nat) (sp:Sp):Prop where
 len:∀t,t < sp.length→(spR sp t).length=C
 piv:∀t,t < sp.length→spP sp t < C
 one:∀t,t < sp.length→(spR sp t).getD (spP sp t) 0=1
 low:∀t u,u < t→t < sp.length→(spR sp t).getD (spP sp u) 0=0
def dotL (C:Nat) (l:List Rat) (z:Nat→Rat):Rat:=sm C (fun j=>l.getD j 0*z j)
def kerS (C:Nat) (sp:Sp) (z:Nat→Rat):Prop:=∀p∈sp,dotL C p.2 z=0
section
variable {A:Mt} {q:Nat→Bool} {R C:Nat}
end
/- rows that are independent: the rank is their number -/
def indR (K:Mt) (k C:Nat):Prop:=∀d:Nat→Rat,(∀j,j < C→sm k (fun i=>d i*at2 K i j)=0)→∀i,i < k→d i=0
def mtS (sp:Sp):Mt:=sp.map (·.2)
def F1 (k:Nat) (z:Nat→Rat) (s:Q4):Rat:=if k=0 then z 0 else if k=1 then (s.x:Rat)*z 0 - (s.y:Rat)*z 1+z 2 else (s.x:Rat)*z 0+(s.y:Rat)*z 1+z 2
def F2 (k:Nat) (z:Nat→Rat) (s:Q4):Rat:=if k=0 then z 1 else if k=1 then (s.y:Rat)*z 0+(s.x:Rat)*z 1+z 3 else (s.x:Rat)*z 3+(s.y:Rat)*z 4+z 5
def er1 (k:Nat) (z:Nat→Rat) (s:Q4):Rat:=F1 k z s - (db1 k s:Rat)
def er2 (k:Nat) (z:Nat→Rat) (s:Q4):Rat:=F2 k z s - (db2 k s:Rat)
def detF (k:Nat) (z:Nat→Rat):Rat:=if k=0 then 1 else if k=1 then z 0*z 0+z 1*z 1 else z 0*z 4 - z 1*z 3
structure MovL (k:Nat) (f:Q4→Q4) where
 T:(Nat→Rat)→(Nat→Rat)
 S:(Nat→Rat)→(Nat→Rat)
 U:(Nat→Rat)→(Nat→Rat)
 Tk:∀z s,F1 k z s=0∧F2 k z s=0→F1 k (T z) (f s)=0∧F2 k (T z) (f s)=0
 Sk:∀z s,F1 k z (f s)=0∧F2 k z (f s)=0→F1 k (S z) s=0∧F2 k (S z) s=0
 Tz:∀z,(∀j,j < mI k→T z j=0)→∀j,j < mI k→z j=0
 Sz:∀z,(∀j,j < mI k→S z j=0)→∀j,j < mI k→z j=0
 Ue:∀z s,er1 k z s=0∧er2 k z s=0→er1 k (U z) (f s)=0∧er2 k (U z) (f s)=0
 Um:∀z s,er1 k (U z) (f s)*er1 k (U z) (f s)+er2 k (U z) (f s)*er2 k (U z) (f s)=er1 k z s*er1 k z s+er2 k z s*er2 k z s
 Ud:∀z,detF k (U z)=0↔detF k z=0
structure Alike (mp mp':Option Mt) (f:Q4→Q4):Prop where
 none:mp= .none↔mp'= .none
 last:∀m m',mp=some m→mp'=some m'→∀s,xU m 2 s=0↔xU m' 2 (f s)=0
 mis:∀m m',mp=some m→mp'=some m'→∀s,xU m 2 s≠0→aCM m s=aCM m' (f s)
def bCR (a b:Int) (s:Q4):Q4:=⟨s.x,s.y,s.u+a,s.v+b⟩
def exchQ (s:Q4):Q4:=⟨s.y,s.x,s.v,s.u⟩
def turnQ (s:Q4):Q4:=⟨-s.y,s.x, -s.v,s.u⟩
def sf (l:List Rat) (j:Nat):Rat:=l.getD j 0
section
variable {a b:Int}
def idT (z:Nat→Rat):Nat→Rat:=z
def shU (k:Nat) (a b:Int) (z:Nat→Rat) (j:Nat):Rat:=if k=0 then (if j=0 then z 0+a else z 1+b) else if k=1 then (if j=0 then z 0 else if j=1 then z 1 else if j=2 then z 2+a else z 3+b) else (if j=0 then z 0 else if j=1 then z 1 else if j=2 then z 2+a else if j=3 then z 3 else if j=4 then z 4 else z 5+b)
def exT (k:Nat) (z:Nat→Rat) (j:Nat):Rat:=if k=0 then (if j=0 then z 1 else z 0) else if k=1 then (if j=0 then z 0 else if j=1 then -z 1 else if j=2 then z 3 else z 2) else (if j=0 then z 4 else if j=1 then z 3 else if j=2 then z 5 else if j=3 then z 1 else if j=4 then z 0 else z 2)
def tuT (k:Nat) (z:Nat→Rat) (j:Nat):Rat:=if k=0 then (if j=0 then -z 1 else z 0) else if k=1 then (if j=0 then z 0 else if j=1 then z 1 else if j=2 then -z 3 else z 2) else (if j=0 then z 4 else if j=1 then -z 3 else if j=2 then -z 5 else if j=3 then -z 1 else if j=4 then z 0 else z 2)
def tuS (k:Nat) (z:Nat→Rat) (j:Nat):Rat:=if k=0 then (if j=0 then z 1 else -z 0) else if k=1 then (if j=0 then z 0 else if j=1 then z 1 else if j=2 then z 3 else -z 2) else (if j=0 then z 4 else if j=1 then -z 3 else if j=2 then z 5 else if j=3 then -z 1 else if j=4 then z 0 else -z 2)
end
def hr1 (s:Q4):List Int:=[s.x,s.y,1,0,0,0, -s.u*s.x, -s.u*s.y, -s.u]
def hr2 (s:Q4):List Int:=[0,0,0,s.x,s.y,1, -s.v*s.x, -s.v*s.y, -s.v]
def hA (l:List Q4):Mt:=l.flatMap (fun s=>[cz (hr1 s),cz (hr2 s)])
theorem aMJ {l:List Q4}:(hA l).length=2*l.length:=by
 unfold hA
 induction l with
 |nil=>rfl
 |cons s r ih=>rw [List.flatMap_cons,List.length_append,ih];simp;omega
theorem aJK:∀{l:List Q4} {i:Nat},i < l.length→rowAt (hA l) (2*i)=cz (hr1 (gt l (i:Int)))∧rowAt (hA l) (2*i+1)=cz (hr2 (gt l (i:Int)))
 |s::r,0,_=>⟨rfl,rfl⟩
 |s::r,i+1,h=>by
  have ih:=aJK (l:=r) (i:=i) (by simpa using h)
  have e1:gt (s::r) ((i+1:Nat):Int)=gt r (i:Int):=by rw [gtQ h,gtQ (by simpa using h)];rfl
  rw [e1,←ih.1,←ih.2]
  have e2:hA (s::r)=cz (hr1 s)::cz (hr2 s)::hA r:=rfl
  have e3:2*(i+1)=2*i+1+1:=by omega
  rw [e2,e3]
  exact ⟨rfl,rfl⟩
theorem aWR {l:List Q4}:qG (hA l) (2*l.length) 9:=⟨aMJ,fun i hi=>by
 obtain ⟨t,h|h⟩:∃t,i=2*t∨i=2*t+1:=⟨i / 2,by omega⟩
 ·rw [h,(aJK (by omega)).1];rfl
 ·rw [h,(aJK (by omega)).2];rfl⟩
def ptF (s:Q4):T3 Int:=⟨s.x,s.y,1⟩
def ptT (s:Q4):T3 Int:=⟨s.u,s.v,1⟩
def ofH (z:Nat→Rat):M9 Rat:=⟨⟨z 0,z 1,z 2⟩,⟨z 3,z 4,z 5⟩,⟨z 6,z 7,z 8⟩⟩
theorem sm9h (f:Nat→Rat):sm 9 f=0+f 0+f 1+f 2+f 3+f 4+f 5+f 6+f 7+f 8:=rfl
theorem bEB {s:Q4} {z:Nat→Rat} (h1:sm 9 (fun j=>(cz (hr1 s)).getD j 0*z j)=0) (h2:sm 9 (fun j=>(cz (hr2 s)).getD j 0*z j)=0):
  (ofH z).app (jE (ptF s))=(jE (ptT s)).smul ((ofH z).z.dot (jE (ptF s))):=by
 have i0:((0:Int):Rat)=0:=rfl
 have i1:((1:Int):Rat)=1:=rfl
 rw [sm9h] at h1 h2
 have g1:0+(s.x:Rat)*z 0+(s.y:Rat)*z 1+((1:Int):Rat)*z 2+((0:Int):Rat)*z 3+((0:Int):Rat)*z 4+((0:Int):Rat)*z 5+((-s.u*s.x:Int):Rat)*z 6+((-s.u*s.y:Int):Rat)*z 7+((-s.u:Int):Rat)*z 8=0:=h1
 have g2:0+((0:Int):Rat)*z 0+((0:Int):Rat)*z 1+((0:Int):Rat)*z 2+(s.x:Rat)*z 3+(s.y:Rat)*z 4+((1:Int):Rat)*z 5+((-s.v*s.x:Int):Rat)*z 6+((-s.v*s.y:Int):Rat)*z 7+((-s.v:Int):Rat)*z 8=0:=h2
 rw [Rat.intCast_mul,Rat.intCast_mul,Rat.intCast_neg,i0,i1] at g1
 rw [Rat.intCast_mul,Rat.intCast_mul,Rat.intCast_neg,i0,i1] at g2
 apply T3.ext3
 ·show z 0*(s.x:Rat)+z 1*(s.y:Rat)+z 2*((1:Int):Rat)=(z 6*(s.x:Rat)+z 7*(s.y:Rat)+z 8*((1:Int):Rat))*(s.u:Rat)
  rw [i1];grind
 ·show z 3*(s.x:Rat)+z 4*(s.y:Rat)+z 5*((1:Int):Rat)=(z 6*(s.x:Rat)+z 7*(s.y:Rat)+z 8*((1:Int):Rat))*(s.v:Rat)
  rw [i1];grind
 ·show z 6*(s.x:Rat)+z 7*(s.y:Rat)+z 8*((1:Int):Rat)=(z 6*(s.x:Rat)+z 7*(s.y:Rat)+z 8*((1:Int):Rat))*((1:Int):Rat)
  rw [i1];grind
def rX:List Rat→Rat
 |[]=>0
 |x::r=>if x=0 then rX r else x
def sG (l:List Rat):List Rat:=l.map (fun x=>x / rX l)
theorem aHK {s:Rat} (hs:s≠0):∀l:List Rat,rX (l.map (fun x=>s*x))=s*rX l
 |[]=>by show (0:Rat)=s*0;grind
 |x::r=>by
  have ih:=aHK hs r
  show (if s*x=0 then rX (r.map (fun x=>s*x)) else s*x)=s*(if x=0 then rX r else x)
  by_cases h:x=0
  ·rw [if_pos h,if_pos (by rw [h];grind),ih]
  ·rw [if_neg h,if_neg (fun e=>(Rat.mul_eq_zero.1 e).elim hs h)]
theorem aOC {s x f:Rat} (hs:s≠0):s*x / (s*f)=x / f:=by
 by_cases hf:f=0
 ·subst hf
  have e1:s*(0:Rat)=0:=by grind
  rw [e1,Rat.div_def,Rat.div_def]
  have e2:(0:Rat)⁻¹=0:=by decide+kernel
  rw [e2];grind
 ·grind
theorem aHB {s:Rat} (hs:s≠0) (l:List Rat):sG (l.map (fun x=>s*x))=sG l:=by
 unfold sG
 rw [aHK hs,List.map_map]
 exact List.map_congr_left (fun x _=>aOC hs)
theorem bAH {l:List Rat}:rX l=0↔∀x∈l,x=0:=by
 induction l with
 |nil=>simp [rX]
 |cons x r ih=>
  show (if x=0 then rX r else x)=0↔_
  by_cases h:x=0
  ·rw [if_pos h,ih];simp [h]
  ·rw [if_neg h];simp [h]
def gN {α:Type} (m:M9 α):List α:=[m.x.a,m.x.b,m.x.c,m.y.a,m.y.b,m.y.c,m.z.a,m.z.b,m.z.c]
def aRN (l:List Rat):Mt:=[[l.getD 0 0,l.getD 1 0,l.getD 2 0],[l.getD 3 0,l.getD 4 0,l.getD 5 0],[l.getD 6 0,l.getD 7 0,l.getD 8 0]]
def l4 (ps:List Q4):P4 Int:=⟨ptF (gt ps 0),ptF (gt ps 1),ptF (gt ps 2),ptF (gt ps 3)⟩
def m4 (ps:List Q4):P4 Int:=⟨ptT (gt ps 0),ptT (gt ps 1),ptT (gt ps 2),ptT (gt ps 3)⟩
def colP (l:P4 Int):Prop:=l.k0=0∨l.k1=0∨l.k2=0∨l.k3=0
instance colP.dec (l:P4 Int):Decidable (colP l):=inferInstanceAs (Decidable (l.k0=0∨l.k1=0∨l.k2=0∨l.k3=0))
def sJ (ps:List Q4):M9 Int:=sO (l4 ps) (m4 ps)
def aCF (ps:List Q4):Option Mt:=if colP (l4 ps)∨colP (m4 ps) then none else some (aRN (sG (gN (oD (sJ ps)))))
theorem int_ne {z:Int} (h:z≠0):(z:Rat)≠0:=fun e=>h (by
 have:((z:Int):Rat)=((0:Int):Rat):=e
 exact Rat.intCast_inj.1 this)
theorem aCT {l:P4 Int} (h:¬colP l):(iO l).ok:=by
 unfold colP at h
 have hk:=bEU l
 refine ⟨?_,?_,?_,?_⟩
 ·rw [←hk.1];exact int_ne (fun e=>h (.inl e))
 ·rw [←hk.2.1];exact int_ne (fun e=>h (.inr (.inl e)))
 ·rw [←hk.2.2.1];exact int_ne (fun e=>h (.inr (.inr (.inl e))))
 ·rw [←hk.2.2.2];exact int_ne (fun e=>h (.inr (.inr (.inr e))))
theorem aBK {a b:Rat} (ha:a≠0) (hb:b≠0):a*b≠0:=fun e=>(Rat.mul_eq_zero.1 e).elim ha hb
theorem aZQ {ps:List Q4} (hl:¬colP (l4 ps)) (hm:¬colP (m4 ps)) {H:M9 Rat} {c0 c1 c2 c3:Rat} (h0:H.app (iO (l4 ps)).p=(iO (m4 ps)).p.smul c0) (h1:H.app (iO (l4 ps)).q=(iO (m4 ps)).q.smul c1)
  (h2:H.app (iO (l4 ps)).r=(iO (m4 ps)).r.smul c2) (h3:H.app (iO (l4 ps)).s=(iO (m4 ps)).s.smul c3) (hH:∃x∈gN H,x≠0):∃s:Rat,s≠0∧gN H=(gN (oD (sJ ps))).map (fun x=>s*x):=by
 have ol:=aCT hl
 have om:=aCT hm
 obtain ⟨e1,e2,e3⟩:=aSO ol om h0 h1 h2 h3
 unfold sJ
 rw [aGM]
 have hκ:=aBK (aBK (aBK om.h3 ol.h0) ol.h1) ol.h2
 generalize (iO (m4 ps)).k3*(iO (l4 ps)).k0*(iO (l4 ps)).k1*(iO (l4 ps)).k2=κ at*
 generalize sO (iO (l4 ps)) (iO (m4 ps))=G at*
 simp only [T3.smul,T3.mk.injEq] at e1 e2 e3
 obtain ⟨a1,a2,a3⟩:=e1
 obtain ⟨b1,b2,b3⟩:=e2
 obtain ⟨d1,d2,d3⟩:=e3
 have key:∀x g:Rat,κ*x=c3*g→x=c3 / κ*g:=by intro x g h;grind
 have hc:c3≠0:=by
  intro e
  obtain ⟨x,hx,hx0⟩:=hH
  apply hx0
  have z:∀y g:Rat,κ*y=c3*g→y=0:=by
   intro y g h
   have:κ*y=0:=by rw [h,e];grind
   exact (Rat.mul_eq_zero.1 this).resolve_left hκ
  simp only [gN,List.mem_cons,List.not_mem_nil,or_false] at hx
  rcases hx with rfl|rfl|rfl|rfl|rfl|rfl|rfl|rfl|rfl
  ·exact z _ _ a1
  ·exact z _ _ a2
  ·exact z _ _ a3
  ·exact z _ _ b1
  ·exact z _ _ b2
  ·exact z _ _ b3
  ·exact z _ _ d1
  ·exact z _ _ d2
  ·exact z _ _ d3
 refine ⟨c3 / κ,by grind,?_⟩
 simp only [gN,List.map]
 rw [key _ _ a1,key _ _ a2,key _ _ a3,key _ _ b1,key _ _ b2,key _ _ b3,key _ _ d1,key _ _ d2,key _ _ d3]
theorem aUQ {ps:List Q4} (h4:ps.length=4) (hl:¬colP (l4 ps)) (hm:¬colP (m4 ps)) {z:List Rat} (hz9:z.length=9) (hk:Go.Proofs.YtmmmfphealhapaaGreat.ker 8 9 (at2 (hA ps)) (fun j=>z.getD j 0)) (h0:∃x∈z,x≠0):sG z=sG (gN (oD (sJ ps))):=by
 have hap:∀t:Nat,t < 4→(ofH (fun j=>z.getD j 0)).app (jE (ptF (gt ps (t:Int))))=(jE (ptT (gt ps (t:Int)))).smul ((ofH (fun j=>z.getD j 0)).z.dot (jE (ptF (gt ps (t:Int))))):=fun t ht=>by
  have h1:=hk (2*t) (by omega)
  have h2:=hk (2*t+1) (by omega)
  have hA:=aJK (l:=ps) (i:=t) (by omega)
  unfold at2 at h1 h2
  rw [hA.1] at h1
  rw [hA.2] at h2
  exact bEB h1 h2
 have hf:gN (ofH (fun j=>z.getD j 0))=z:=by
  match z,hz9 with
  |[a,b,c,d,e,f,g,h,i],_=>rfl
 obtain ⟨s,hs,e⟩:=aZQ hl hm (H:=ofH (fun j=>z.getD j 0)) (hap 0 (by omega)) (hap 1 (by omega)) (hap 2 (by omega)) (hap 3 (by omega)) (by rw [hf];exact h0)
 rw [hf] at e
 rw [e,aHB hs]
theorem aPD {ps:List Q4} (hl:¬colP (l4 ps)) (hm:¬colP (m4 ps)):∃x∈gN (sJ ps),x≠0:=by
 apply Classical.byContradiction
 intro hn
 have hz:∀x∈gN (sJ ps),x=0:=fun x hx=>Classical.byContradiction (fun h=>hn ⟨x,hx,h⟩)
 have h1:=(aVM (iO (l4 ps)) (iO (m4 ps))).1
 rw [←aGM] at h1
 have h2:=congrArg T3.c h1
 have za:(sJ ps).z.a=0:=hz _ (by simp [gN])
 have zb:(sJ ps).z.b=0:=hz _ (by simp [gN])
 have zc:(sJ ps).z.c=0:=hz _ (by simp [gN])
 have e1:((oD (sJ ps)).app (iO (l4 ps)).p).c=0:=by
  show ((sJ ps).z.a:Rat)*_+((sJ ps).z.b:Rat)*_+((sJ ps).z.c:Rat)*_=0
  rw [za,zb,zc,show ((0:Int):Rat)=0 from rfl,Rat.zero_mul,Rat.zero_mul,Rat.zero_mul,Rat.add_zero,Rat.add_zero]
 have oL:=aCT hl
 have oM:=aCT hm
 have hK:=aBK (aBK (aBK oM.h0 oL.h1) oL.h2) oL.h3
 have e2:((iO (m4 ps)).p.smul ((iO (m4 ps)).k0*(iO (l4 ps)).k1*(iO (l4 ps)).k2*(iO (l4 ps)).k3)).c=(iO (m4 ps)).k0*(iO (l4 ps)).k1*(iO (l4 ps)).k2*(iO (l4 ps)).k3:=by
  show _ *((1:Int):Rat)=_
  rw [show ((1:Int):Rat)=1 from rfl,Rat.mul_one]
 exact hK (e2.symm.trans (h2.symm.trans e1))
def pF (s:Q4):T3 Rat:=jE (ptF s)
def pT (s:Q4):T3 Rat:=jE (ptT s)
def mOf (H:M9 Rat):Mt:=aRN (gN H)
structure HomM (f:Q4→Q4) where
 T:M9 Rat→M9 Rat
 ap:∀H s c,H.app (pF s)=(pT s).smul c→(T H).app (pF (f s))=(pT (f s)).smul c
 nz:∀H,(∀x∈gN (T H),x=0)→∀x∈gN H,x=0
 last:∀H s,(T H).z.dot (pF (f s))=H.z.dot (pF s)
 mis:∀H s,H.z.dot (pF s)≠0→aCM (mOf (T H)) (f s)=aCM (mOf H) s
 col:∀a b c d,(colP ⟨ptF (f a),ptF (f b),ptF (f c),ptF (f d)⟩↔colP ⟨ptF a,ptF b,ptF c,ptF d⟩)∧(colP ⟨ptT (f a),ptT (f b),ptT (f c),ptT (f d)⟩↔colP ⟨ptT a,ptT b,ptT c,ptT d⟩)
def shT (a b:Int) (H:M9 Rat):M9 Rat:=⟨H.x.add (H.z.smul (a:Rat)),H.y.add (H.z.smul (b:Rat)),H.z⟩
def exTH (H:M9 Rat):M9 Rat:=⟨⟨H.y.b,H.y.a,H.y.c⟩,⟨H.x.b,H.x.a,H.x.c⟩,⟨H.z.b,H.z.a,H.z.c⟩⟩
def tuTH (H:M9 Rat):M9 Rat:=⟨⟨H.y.b, -H.y.a, -H.y.c⟩,⟨-H.x.b,H.x.a,H.x.c⟩,⟨-H.z.b,H.z.a,H.z.c⟩⟩
def aCP:Nat→List Int→Nat
 |g,[]=>g
 |g,x::r=>aCP (Int.gcd g x) r
def aBM (l:List Int):Nat:=aCP 0 l
def tH:List Int→Int
 |[]=>0
 |x::r=>if x=0 then tH r else x
def dvL (l:List Int):Int:=if tH l < 0 then -(aBM l:Int) else (aBM l:Int)
def RedL (l:List Int):Prop:=aBM l=1∧0 < tH l
theorem aGZ:∀(l:List Int) (g:Nat) (x:Int),aCP g (l++[x])=Int.gcd (aCP g l) x
 |[],_,_=>rfl
 |y::r,g,x=>aGZ r (Int.gcd g y) x
theorem aRL (l:List Int) (x:Int):aBM (l++[x])=Int.gcd (aBM l) x:=aGZ l 0 x
theorem aBO:∀(l:List Int) (x:Int),tH (l++[x])=if tH l=0 then x else tH l
 |[],x=>by
  show (if x=0 then 0 else x)=if (0:Int)=0 then x else 0
  rw [if_pos rfl]
  by_cases h:x=0
  ·rw [if_pos h,h]
  ·rw [if_neg h]
 |y::r,x=>by
  have ih:=aBO r x
  show (if y=0 then tH (r++[x]) else y)=if (if y=0 then tH r else y)=0 then x else (if y=0 then tH r else y)
  by_cases h:y=0
  ·rw [if_pos h,if_pos h,ih]
  ·rw [if_neg h,if_neg h,if_neg h]
theorem aLN (a:Int):∀(l:List Int) (g:Nat),aCP (a.natAbs*g) (l.map (fun x=>a*x))=a.natAbs*aCP g l
 |[],_=>rfl
 |x::r,g=>by
  show aCP (Int.gcd ((a.natAbs*g:Nat):Int) (a*x)) _=a.natAbs*aCP (Int.gcd g x) r
  have e:Int.gcd ((a.natAbs*g:Nat):Int) (a*x)=a.natAbs*Int.gcd g x:=by
   unfold Int.gcd
   rw [Int.natAbs_mul,Int.natAbs_natCast,Int.natAbs_natCast,Nat.gcd_mul_left]
  rw [e]
  exact aLN a r _
theorem aYG (a:Int) (l:List Int):aBM (l.map (fun x=>a*x))=a.natAbs*aBM l:=by
 have:=aLN a l 0
 rwa [Nat.mul_zero] at this
theorem aLG {a:Int} (ha:a≠0):∀l:List Int,tH (l.map (fun x=>a*x))=a*tH l
 |[]=>by show (0:Int)=a*0;rw [Int.mul_zero]
 |x::r=>by
  have ih:=aLG ha r
  show (if a*x=0 then tH (r.map (fun x=>a*x)) else a*x)=a*(if x=0 then tH r else x)
  by_cases h:x=0
  ·rw [if_pos h,if_pos (by rw [h,Int.mul_zero]),ih]
  ·rw [if_neg h,if_neg (fun e=>(Int.mul_eq_zero.1 e).elim ha h)]
theorem aGB:∀{l:List Int},tH l=0↔∀x∈l,x=0
 |[]=>⟨fun _ x hx=>absurd hx List.not_mem_nil,fun _=>rfl⟩
 |y::r=>by
  have ih:=aGB (l:=r)
  show (if y=0 then tH r else y)=0↔_
  by_cases h:y=0
  ·rw [if_pos h,ih]
   exact ⟨fun h1 x hx=>(List.mem_cons.1 hx).elim (fun e=>e.trans h) (h1 x),fun h1 x hx=>h1 x (List.mem_cons_of_mem _ hx)⟩
  ·rw [if_neg h]
   exact ⟨fun e=>absurd e h,fun h1=>h1 y List.mem_cons_self⟩
theorem aGU:∀(l:List Int) (g:Nat),aCP g l=0↔g=0∧∀x∈l,x=0
 |[],g=>⟨fun h=>⟨h,fun x hx=>absurd hx List.not_mem_nil⟩,fun h=>h.1⟩
 |y::r,g=>by
  show aCP (Int.gcd g y) r=0↔_
  rw [aGU r,Int.gcd_eq_zero_iff]
  constructor
  ·rintro ⟨⟨h1,h2⟩,h3⟩
   exact ⟨by omega,fun x hx=>(List.mem_cons.1 hx).elim (fun e=>e.trans h2) (h3 x)⟩
  ·rintro ⟨h1,h2⟩
   exact ⟨⟨by omega,h2 y List.mem_cons_self⟩,fun x hx=>h2 x (List.mem_cons_of_mem _ hx)⟩
theorem aGQ {l:List Int}:aBM l=0↔∀x∈l,x=0:=by
 unfold aBM
 rw [aGU]
 exact ⟨fun h=>h.2,fun h=>⟨rfl,h⟩⟩
theorem aKS:∀(l:List Int) (g:Nat),((aCP g l:Nat):Int) ∣ (g:Int)∧∀x∈l,((aCP g l:Nat):Int) ∣ x
 |[],g=>⟨Int.dvd_refl _,fun x hx=>absurd hx List.not_mem_nil⟩
 |y::r,g=>by
  obtain ⟨h1,h2⟩:=aKS r (Int.gcd g y)
  refine ⟨Int.dvd_trans h1 (Int.gcd_dvd_left ..),fun x hx=>?_⟩
  rcases List.mem_cons.1 hx with e|e
  ·rw [e];exact Int.dvd_trans h1 (Int.gcd_dvd_right ..)
  ·exact h2 x e
theorem bAW {l:List Int} {x:Int} (h:x∈l):dvL l ∣ x:=by
 have h1:=(aKS l 0).2 x h
 unfold dvL
 split
 ·exact Int.neg_dvd.2 h1
 ·exact h1
theorem aXJ {l:List Int} (h:dvL l=0):∀x∈l,x=0:=aGQ.1 (by unfold dvL at h;split at h <;>omega)
theorem aPX (x:Int):x.sign < 0↔x < 0:=by
 rcases Int.lt_trichotomy x 0 with h|h|h
 ·rw [Int.sign_eq_neg_one_of_neg h];omega
 ·rw [h];decide
 ·rw [Int.sign_eq_one_of_pos h];omega
theorem bEQ {l q:List Int} (hnz:∃x∈l,x≠0) (h:q.map (fun x=>x*dvL l)=l):RedL q:=by
 have e0:(q.map (fun x=>dvL l*x))=l:=by rw [←h];exact List.map_congr_left (fun x _=>by rw [h,Int.mul_comm])
 have hg:aBM l≠0:=fun e=>by
  obtain ⟨x,hx,hx0⟩:=hnz
  exact hx0 (aGQ.1 e x hx)
 have hf:tH l≠0:=fun e=>by
  obtain ⟨x,hx,hx0⟩:=hnz
  exact hx0 (aGB.1 e x hx)
 have hd:(dvL l).natAbs=aBM l:=by unfold dvL;split <;>omega
 have hd0:dvL l≠0:=by omega
 have h1:=aYG (dvL l) q
 rw [e0,hd] at h1
 have h2:=aLG hd0 q
 rw [e0] at h2
 refine ⟨Nat.eq_of_mul_eq_mul_left (Nat.pos_of_ne_zero hg) (by omega),?_⟩
 have hs:(tH l < 0↔dvL l < 0):=by unfold dvL;split <;>omega
 by_cases hn:tH l < 0
 ·have:=hs.1 hn
  rw [h2] at hn
  exact Int.pos_of_mul_neg_right hn (by omega)
 ·have h3:¬dvL l < 0:=fun e=>hn (hs.2 e)
  have h4:0 < dvL l*tH q:=by omega
  exact Int.pos_of_mul_pos_right h4 (by omega)
end Go.Proofs.YtmmmfphealhapaaGreat

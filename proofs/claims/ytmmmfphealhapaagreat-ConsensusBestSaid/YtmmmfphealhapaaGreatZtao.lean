/- Kernels and systems, plain: the canonical basis of the kernel, what it spans; when a syste -/
import Derived.Test.YtmmmfphealhapaaGreatZtan
import Derived.Test.YtmmmfphealhapaaGreatZtam
import Derived.Test.YtmmmfphealhapaaGreatZtal
set_option linter.unusedSimpArgs false
set_option linter.unusedVariables false
set_option maxRecDepth 100000
set_option maxHeartbeats 4000000
namespace Go.Proofs.YtmmmfphealhapaaGreat
open Go Go.Fx
def aAQ (f:Nat→Nat→Rat) (pv:List Nat) (j c:Nat):Rat:=if c∈pv then - f (pv.idxOf c) j else if c=j then 1 else 0
def kV (pv:List Nat) (C:Nat):List Nat:=(List.range C).filter (fun j=>decide (j ∉ pv))
def lM (E:Mt) (pv:List Nat) (C j:Nat):List Rat:=(List.range C).map (aAQ (at2 E) pv j)
def aKL (E:Mt) (pv:List Nat) (C:Nat):Mt:=(kV pv C).map (lM E pv C)
def yL (A:Mt) (C:Nat):Mt:=aKL (eQ A C).1 (eQ A C).2 C
def rk (A:Mt) (C:Nat):Nat:=(eQ A C).2.length
theorem aAS {E:Mt} {pv:List Nat} {C j c:Nat} (h:c < C):(lM E pv C j).getD c 0=aAQ (at2 E) pv j c:=by simp [lM,List.getD,h]
theorem Red.idx {R C j:Nat} {f0 f:Nat→Nat→Rat} {pv:List Nat} {s:Rat} (h:Red R C j f0 f pv s) {t:Nat} (ht:t < pv.length):pv.idxOf (pv.getD t 0)=t:=by
 have hm:pv.getD t 0∈pv:=jT.2 ⟨t,ht,rfl⟩
 have h1:pv.idxOf (pv.getD t 0) < pv.length:=List.idxOf_lt_length_of_mem hm
 exact h.piv_inj h1 ht ((pY h1).trans (List.getElem_idxOf h1))
theorem Red.idx_lt {pv:List Nat} {c:Nat} (hm:c∈pv):pv.idxOf c < pv.length∧pv.getD (pv.idxOf c) 0=c:=by
 have h1:pv.idxOf c < pv.length:=List.idxOf_lt_length_of_mem hm
 exact ⟨h1,(pY h1).trans (List.getElem_idxOf h1)⟩
section
variable {R C:Nat} {f0 f:Nat→Nat→Rat} {pv:List Nat} {s:Rat}
theorem Red.null (h:Red R C C f0 f pv s) {j:Nat} (hj:j < C) (hp:j ∉ pv):Go.Proofs.YtmmmfphealhapaaGreat.ker R C f0 (aAQ f pv j):=by
 rw [h.kerE]
 intro t ht
 have hm:pv.getD t 0∈pv:=jT.2 ⟨t,ht,rfl⟩
 simp only [aAQ,if_pos hm,h.idx ht]
 rw [pX (p:=j) hj (fun c hc hne=>?_)]
 ·simp only [wK,aAQ,if_neg hp,if_true];grind
 ·simp only [wK,aAQ]
  by_cases e:c∈pv
  ·rw [if_pos e];grind
  ·rw [if_neg e,if_neg e,if_neg hne];grind
theorem Red.nodup (h:Red R C C f0 f pv s):pv.Nodup:=by
 rw [List.nodup_iff_pairwise_ne,List.pairwise_iff_getElem]
 intro i j hi hj hij e
 have:=h.piv_inj (t:=i) (u:=j) hi hj (by rw [pY hi,pY hj];exact e)
 omega
theorem aDU (p:Nat→Bool):∀l:List Nat,(l.filter p).length+(l.filter (fun x=> !p x)).length=l.length
 |[]=>rfl
 |x::l=>by
  have ih:=aDU p l
  rw [List.filter_cons,List.filter_cons,List.length_cons]
  cases p x <;>simp <;>omega
theorem Red.free_len (h:Red R C C f0 f pv s):(kV pv C).length+pv.length=C:=by
 have h1:((List.range C).filter (fun j=>decide (j ∉ pv))).length+((List.range C).filter (fun j=> !decide (j ∉ pv))).length=C:=by
  have:=aDU (fun j=>decide (j ∉ pv)) (List.range C)
  rw [List.length_range] at this;omega
 have h2:((List.range C).filter (fun j=> !decide (j ∉ pv))).length=pv.length:=by
  apply Nat.le_antisymm
  ·refine List.Nodup.length_le_of_subset (List.Pairwise.filter _ List.nodup_range) (fun x hx=>?_)
   have:=(List.mem_filter.1 hx).2
   simpa using this
  ·refine List.Nodup.length_le_of_subset h.nodup (fun x hx=>?_)
   obtain ⟨t,ht,rfl⟩:=jT.1 hx
   refine List.mem_filter.2 ⟨List.mem_range.2 (h.piv_lt ht),by simpa using hx⟩
 unfold kV
 omega
end
/- systems: the right side is the column C of a wider matrix -/
section
variable {R C W:Nat} {f0 f:Nat→Nat→Rat} {pv:List Nat} {s:Rat}
def aVL (f:Nat→Nat→Rat) (pv:List Nat) (C c:Nat):Rat:=if c∈pv then f (pv.idxOf c) C else 0
def aZF (R C:Nat) (f:Nat→Nat→Rat) (pv:List Nat):Prop:=∀i,pv.length≤i→i < R→f i C=0
def aKY (C:Nat) (x:Nat→Rat) (y:Rat):Nat→Rat:=fun j=>if j < C then x j else if j=C then y else 0
theorem aDC {C W:Nat} (hW:C < W) {g x:Nat→Rat} {y:Rat}:sm W (fun j=>g j*aKY C x y j)=sm C (fun j=>g j*x j)+g C*y:=by
 obtain ⟨d,rfl⟩:∃d,W=C+1+d:=⟨W - (C+1),by omega⟩
 rw [aAG]
 have h1:sm (C+1) (fun j=>g j*aKY C x y j)=sm C (fun j=>g j*x j)+g C*y:=by
  simp only [sm]
  rw [aZ (n:=C) (g:=fun j=>g j*x j) (fun j hj=>by simp only [aKY,if_pos hj])]
  simp only [aKY,Nat.lt_irrefl,if_false,if_true]
 have h2:sm d (fun k=>g (C+1+k)*aKY C x y (C+1+k))=0:=lV (fun k _=>by
  simp only [aKY,if_neg (show ¬C+1+k < C by omega),if_neg (show ¬C+1+k=C by omega)];grind)
 rw [h1,h2];grind
theorem Red.rowC (h:Red R W C f0 f pv s) {t:Nat} (ht:t < pv.length) (x:Nat→Rat):sm C (fun j=>f t j*x j)=x (pv.getD t 0)+sm C (fun j=>f t j*wK pv x j):=by
 have hR:=h.len
 have h1:sm C (fun j=>f t j*x j)=sm C (fun j=>(f t j*x j - f t j*wK pv x j)+f t j*wK pv x j):=aZ (fun j _=>by grind)
 rw [h1,aJI]
 congr 1
 rw [pX (p:=pv.getD t 0) (h.piv_lt ht) (fun j hj hne=>?_)]
 ·have hm:pv.getD t 0∈pv:=jT.2 ⟨t,ht,rfl⟩
  rw [h.unit t t ht (by omega)]
  simp only [wK,if_pos hm,oF,if_true];grind
 ·by_cases hm:j∈pv
  ·obtain ⟨u,hu,rfl⟩:=jT.1 hm
   have:t≠u:=fun e=>hne (by rw [e])
   rw [h.unit u t hu (by omega)]
   simp only [oF,if_neg this];grind
  ·simp only [wK,if_neg hm];grind
theorem Red.sol (h:Red R W C f0 f pv s) (hW:C < W) (x:Nat→Rat):(∀i,i < R→sm C (fun j=>f0 i j*x j)=f0 i C)↔(∀i,i < R→sm C (fun j=>f i j*x j)=f i C):=by
 have k0:Go.Proofs.YtmmmfphealhapaaGreat.ker R W f0 (aKY C x (-1))↔(∀i,i < R→sm C (fun j=>f0 i j*x j)=f0 i C):=by
  unfold Go.Proofs.YtmmmfphealhapaaGreat.ker
  constructor
  ·intro hk i hi;have:=hk i hi;rw [aDC hW] at this;grind
  ·intro hk i hi;have:=hk i hi;rw [aDC hW];grind
 have k1:Go.Proofs.YtmmmfphealhapaaGreat.ker R W f (aKY C x (-1))↔(∀i,i < R→sm C (fun j=>f i j*x j)=f i C):=by
  unfold Go.Proofs.YtmmmfphealhapaaGreat.ker
  constructor
  ·intro hk i hi;have:=hk i hi;rw [aDC hW] at this;grind
  ·intro hk i hi;have:=hk i hi;rw [aDC hW];grind
 exact (k0.symm.trans (h.ker _).symm).trans k1
theorem Red.sol_x (h:Red R W C f0 f pv s) (hW:C < W) (ok:aZF R C f pv):∀i,i < R→sm C (fun j=>f0 i j*aVL f pv C j)=f0 i C:=by
 rw [h.sol hW]
 intro i hi
 by_cases e:i < pv.length
 ·rw [h.rowC e]
  have hm:pv.getD i 0∈pv:=jT.2 ⟨i,e,rfl⟩
  rw [lV (fun j _=>by
   simp only [wK,aVL]
   by_cases hj:j∈pv
   ·rw [if_pos hj];grind
   ·rw [if_neg hj,if_neg hj];grind)]
  simp only [aVL,if_pos hm,h.idx e];grind
 ·rw [lV (fun j hj=>by rw [h.zero i j (by omega) hi hj];grind),ok i (by omega) hi]
theorem Red.sol_iff (h:Red R W C f0 f pv s) (hW:C < W):aZF R C f pv↔∃x:Nat→Rat,∀i,i < R→sm C (fun j=>f0 i j*x j)=f0 i C:=by
 constructor
 ·intro ok;exact ⟨_,h.sol_x hW ok⟩
 ·rintro ⟨x,hx⟩ i hp hi
  have:=(h.sol hW x).1 hx i hi
  rw [←this]
  exact lV (fun j hj=>by rw [h.zero i j hp hi hj];grind)
end
theorem bFV {R C:Nat} {A:Mt} {i j:Nat} (hi:i < C) (hj:j < C):at2 (nrN R C A) i j=sm R (fun t=>at2 A t i*at2 A t j):=qY hi hj
theorem bFC {R C:Nat} {A:Mt} {b:List Rat} {i:Nat} (hi:i < C):(nrB R C A b).getD i 0=sm R (fun t=>at2 A t i*b.getD t 0):=by simp [nrB,List.getD,hi]
theorem bFR {R C:Nat} {A:Mt} {b:List Rat} {i:Nat} (hi:i < C):(lsX R C A b).getD i 0=sm C (fun t=>at2 (aEJ C (nrN R C A)) i t*(nrB R C A b).getD t 0):=by simp [lsX,List.getD,hi]
theorem bCE {R C:Nat} {A:Mt} {b:List Rat}:(lsX R C A b).length=C:=by simp [lsX]
theorem aLU {n:Nat} {f g:Nat→Nat→Rat} {x:Nat→Rat} {i:Nat}:sm n (fun j=>tX n f g i j*x j)=sm n (fun t=>f i t*sm n (fun j=>g t j*x j)):=by
 have e1:sm n (fun j=>tX n f g i j*x j)=sm n (fun j=>sm n (fun t=>f i t*g t j*x j)):=aZ (fun j _=>by
  unfold tX
  rw [Rat.mul_comm,←jK]
  exact aZ (fun t _=>by rw [Rat.mul_comm]))
 rw [e1,sV]
 exact aZ (fun t _=>by
  rw [←jK]
  exact aZ (fun j _=>by rw [Rat.mul_assoc]))
theorem aVU {n i:Nat} {x:Nat→Rat} (hi:i < n):sm n (fun j=>oF i j*x j)=x i:=by
 rw [pX hi (fun j _ h=>by simp [oF,Ne.symm h])]
 simp [oF]
theorem bFB {R C:Nat} {A:Mt} {b:List Rat} (h:dt C (at2 (nrN R C A))≠0) {x:Nat→Rat} (hx:∀i,i < C→sm C (fun j=>at2 (nrN R C A) i j*x j)=(nrB R C A b).getD i 0):∀i,i < C→x i=(lsX R C A b).getD i 0:=by
 intro i hi
 rw [bFR hi,←aVU (x:=x) hi]
 have e:sm C (fun j=>oF i j*x j)=sm C (fun j=>tX C (at2 (aEJ C (nrN R C A))) (at2 (nrN R C A)) i j*x j):=aZ (fun j hj=>by rw [(aRO h).2 i j hi hj])
 rw [e,aLU]
 exact aZ (fun t ht=>by rw [hx t ht])
theorem bEX {R C:Nat} {A:Mt} {x:Nat→Rat} {i:Nat} (hi:i < C):sm C (fun j=>at2 (nrN R C A) i j*x j)=sm R (fun t=>at2 A t i*sm C (fun j=>at2 A t j*x j)):=by
 have e1:sm C (fun j=>at2 (nrN R C A) i j*x j)=sm C (fun j=>sm R (fun t=>at2 A t i*(at2 A t j*x j))):=aZ (fun j hj=>by
  rw [bFV hi hj,Rat.mul_comm,←jK]
  exact aZ (fun t _=>by rw [Rat.mul_comm,Rat.mul_assoc]))
 rw [e1,sV]
 exact aZ (fun t _=>by rw [←jK])
theorem aSV {R C:Nat} {A:Mt} {b:List Rat} {x:Nat→Rat} (h:∀t,t < R→sm C (fun j=>at2 A t j*x j)=b.getD t 0):∀i,i < C→sm C (fun j=>at2 (nrN R C A) i j*x j)=(nrB R C A b).getD i 0:=by
 intro i hi
 rw [bEX hi,bFC hi]
 exact aZ (fun t ht=>by rw [h t ht])
def sqS (R C:Nat) (A:Mt) (b:List Rat) (x:Nat→Rat):Rat:=sm R (fun t=>(sm C (fun j=>at2 A t j*x j) - b.getD t 0)*(sm C (fun j=>at2 A t j*x j) - b.getD t 0))
theorem gtQ {α:Type} [Inhabited α] {l:List α} {i:Nat} (h:i < l.length):gt l (i:Int)=l[i]:=by simp [gt,List.getD,h]
theorem yA {k:Nat} {l:List Q4}:(sP k l).length=2*l.length:=by
 unfold sP
 induction l with
 |nil=>rfl
 |cons s r ih=>rw [List.flatMap_cons,List.length_append,ih];simp;omega
theorem aDN {k:Nat}:∀{l:List Q4} {i:Nat},i < l.length→rowAt (sP k l) (2*i)=cz (dr1 k (gt l (i:Int)))∧rowAt (sP k l) (2*i+1)=cz (dr2 k (gt l (i:Int)))
 |s::r,0,_=>⟨rfl,rfl⟩
 |s::r,i+1,h=>by
  have ih:=aDN (k:=k) (l:=r) (i:=i) (by simpa using h)
  have e1:gt (s::r) ((i+1:Nat):Int)=gt r (i:Int):=by rw [gtQ h,gtQ (by simpa using h)];rfl
  rw [e1,←ih.1,←ih.2]
  have e2:sP k (s::r)=cz (dr1 k s)::cz (dr2 k s)::sP k r:=rfl
  have e3:2*(i+1)=2*i+1+1:=by omega
  rw [e2,e3]
  exact ⟨rfl,rfl⟩
theorem aQF {k:Nat}:∀{l:List Q4} {i:Nat},i < l.length→(zV k l).getD (2*i) 0=((db1 k (gt l (i:Int)):Int):Rat)∧(zV k l).getD (2*i+1) 0=((db2 k (gt l (i:Int)):Int):Rat)
 |s::r,0,_=>⟨rfl,rfl⟩
 |s::r,i+1,h=>by
  have ih:=aQF (k:=k) (l:=r) (i:=i) (by simpa using h)
  have e1:gt (s::r) ((i+1:Nat):Int)=gt r (i:Int):=by rw [gtQ h,gtQ (by simpa using h)];rfl
  rw [e1,←ih.1,←ih.2]
  have e2:zV k (s::r)=((db1 k s:Int):Rat)::((db2 k s:Int):Rat)::zV k r:=rfl
  have e3:2*(i+1)=2*i+1+1:=by omega
  rw [e2,e3]
  exact ⟨rfl,rfl⟩
theorem aYO {k:Nat} {s:Q4}:(dr1 k s).length=lG k∧(dr2 k s).length=lG k:=by
 unfold dr1 dr2 lG
 split
 ·exact ⟨rfl,rfl⟩
 ·split <;>exact ⟨rfl,rfl⟩
theorem aVB {l:List Int}:(cz l).length=l.length:=by simp [cz]
theorem aRG {k:Nat} {l:List Q4}:qM (sP k l) (2*l.length) (lG k):=⟨yA,fun i hi=>by
 obtain ⟨t,h|h⟩:∃t,i=2*t∨i=2*t+1:=⟨i / 2,by omega⟩
 ·rw [h,(aDN (by omega)).1,aVB,aYO.1]
 ·rw [h,(aDN (by omega)).2,aVB,aYO.2]⟩
theorem wD {k:Nat} {l:List Q4}:(zV k l).length=2*l.length:=by
 unfold zV
 induction l with
 |nil=>rfl
 |cons s r ih=>rw [List.flatMap_cons,List.length_append,ih];simp;omega
theorem aME {k:Nat} {x:List Rat} {s:Q4}:lL (zA k x) 2 s=1:=by
 unfold zA
 split
 ·show (0:Rat)*(s.x:Rat)+0*(s.y:Rat)+1=1
  grind
 ·split
  ·show (0:Rat)*(s.x:Rat)+0*(s.y:Rat)+1=1
   grind
  ·show (0:Rat)*(s.x:Rat)+0*(s.y:Rat)+1=1
   grind
theorem aHV:((0:Int):Rat)=0:=rfl
theorem aTB:((1:Int):Rat)=1:=rfl
theorem aQS {k:Nat} {x:List Rat} {s:Q4}:
  aNJ (zA k x) s=sm (lG k) (fun j=>(cz (dr1 k s)).getD j 0*x.getD j 0) - ((db1 k s:Int):Rat)∧aNH (zA k x) s=sm (lG k) (fun j=>(cz (dr2 k s)).getD j 0*x.getD j 0) - ((db2 k s:Int):Rat):=by
 unfold aNJ aNH
 rw [aME]
 unfold zA dr1 dr2 db1 db2 lG
 by_cases h0:k=0
 ·simp only [h0,if_true]
  rw [Rat.intCast_sub,Rat.intCast_sub]
  constructor
  ·show (1*(s.x:Rat)+0*(s.y:Rat)+x.getD 0 0) / 1 - (s.u:Rat)=(0+((1:Int):Rat)*x.getD 0 0+((0:Int):Rat)*x.getD 1 0) - ((s.u:Rat) - (s.x:Rat))
   rw [aHV,aTB];grind
  ·show (0*(s.x:Rat)+1*(s.y:Rat)+x.getD 1 0) / 1 - (s.v:Rat)=(0+((0:Int):Rat)*x.getD 0 0+((1:Int):Rat)*x.getD 1 0) - ((s.v:Rat) - (s.y:Rat))
   rw [aHV,aTB];grind
 ·by_cases h1:k=1
  ·simp only [h1,if_true,show ¬(1:Nat)=0 by omega,if_false]
   constructor
   ·show (x.getD 0 0*(s.x:Rat)+ -x.getD 1 0*(s.y:Rat)+x.getD 2 0) / 1 - (s.u:Rat)=(0+(s.x:Rat)*x.getD 0 0+((-s.y:Int):Rat)*x.getD 1 0+((1:Int):Rat)*x.getD 2 0+((0:Int):Rat)*x.getD 3 0) - (s.u:Rat)
    rw [aHV,aTB,Rat.intCast_neg];grind
   ·show (x.getD 1 0*(s.x:Rat)+x.getD 0 0*(s.y:Rat)+x.getD 3 0) / 1 - (s.v:Rat)=(0+(s.y:Rat)*x.getD 0 0+(s.x:Rat)*x.getD 1 0+((0:Int):Rat)*x.getD 2 0+((1:Int):Rat)*x.getD 3 0) - (s.v:Rat)
    rw [aHV,aTB];grind
  ·simp only [h0,h1,if_false]
   constructor
   ·show (x.getD 0 0*(s.x:Rat)+x.getD 1 0*(s.y:Rat)+x.getD 2 0) / 1 - (s.u:Rat)=(0+(s.x:Rat)*x.getD 0 0+(s.y:Rat)*x.getD 1 0+((1:Int):Rat)*x.getD 2 0+((0:Int):Rat)*x.getD 3 0+((0:Int):Rat)*x.getD 4 0+((0:Int):Rat)*x.getD 5 0) - (s.u:Rat)
    rw [aHV,aTB];grind
   ·show (x.getD 3 0*(s.x:Rat)+x.getD 4 0*(s.y:Rat)+x.getD 5 0) / 1 - (s.v:Rat)=(0+((0:Int):Rat)*x.getD 0 0+((0:Int):Rat)*x.getD 1 0+((0:Int):Rat)*x.getD 2 0+(s.x:Rat)*x.getD 3 0+(s.y:Rat)*x.getD 4 0+((1:Int):Rat)*x.getD 5 0) - (s.v:Rat)
    rw [aHV,aTB];grind
def totQ (m:Mt) (l:List Q4):Rat:=sm l.length (fun t=>tQ m (gt l (t:Int)))
abbrev pvI (q:Option Addr) (pv:List Nat):aL:=aI q (recs eZ (zs pv))
def EchP (A:Mt) (R C k:Nat) (M0:List Ent) (I0:List aL) (v:Value) (M:List Ent) (I:List aL):Prop:=
 M0=M∧∃(m:MX) (pv:List Nat) (q:Option Addr) (c:Nat),v= .tuple #[mv m, .slice q pv.length c, .int .i64 0]∧eQ A C=(m.q,pv)∧m.dim R C∧I=pvI q pv::gI m k::I0
def NlP (A:Mt) (C k:Nat) (M0:List Ent) (I0:List aL) (v:Value) (M:List Ent) (I:List aL):Prop:=
 M0=M∧∃m:MX,v= .tuple #[mv m, .int .i64 0]∧m.q=yL A C∧(∀r∈m.rows,r.es.length=C)∧I=gI m k::I0
theorem aIK {pv:List Nat} {j:Nat}:(j:Int)∈zs pv↔j∈pv:=by
 rw [List.mem_map]
 exact ⟨fun ⟨x, hx, e⟩ => by obtain rfl : x = j := by omega
                             exact hx,fun h=>⟨j,h,rfl⟩⟩
theorem bDN {pv:List Nat} {r:Nat} (h:r < pv.length):gt (zs pv) (r:Int)=((pv.getD r 0:Nat):Int):=by
 rw [dP (by simpa using h)]
 rw [pY h]
 simp
theorem wH {pv:List Nat} {j:Nat}:kV pv (j+1)=if j∈pv then kV pv j else kV pv j++[j]:=by
 unfold kV
 rw [List.range_succ,List.filter_append]
 by_cases h:j∈pv
 ·rw [if_pos h];simp [h]
 ·rw [if_neg h];simp [h]
theorem aIR {a:MX} {R C:Nat} (h:a.dim R C):qM a.q R C:=⟨by simp [h.1],fun i hi=>by
 rw [aDH (by have:=h.1;omega)];simp [h.row hi]⟩
theorem MX.dim.red {a:MX} {R C:Nat} (h:a.dim R C) {E:Mt} {pv:List Nat} (hr:eQ a.q C=(E,pv)):∃s,Red R C C (at2 a.q) (at2 E) pv s:=by
 obtain ⟨_,s,h2⟩:=iQ (aIR h) C (Nat.le_refl _)
 rw [hr] at h2
 exact ⟨s,h2⟩
section
variable {X:List Nat} {w0:World} {M:List Ent} {I:List aL}
theorem Mem.blkL {w:World} {b k:Nat} {es:List RE} {ty:TypeId} (h:Mem X w0 (.blk b (recs eR es) ty::M) I w) (ha:aP es k∈I):Mem X w0 M (iN ⟨some ⟨b,0,none⟩,es.length,es⟩ k::I) w:=by
 have h1:=h.freezeB .here
 refine (h1.add (φ:=iN ⟨some ⟨b,0,none⟩,es.length,es⟩ k) ⟨(h1.sl (List.Mem.head _)),(((h1.imm _ (List.Mem.tail _ ha)).2:AllR es k _ w)).go,⟨Nat.le_refl _, .inl (Ok.mk _ _)⟩⟩).inc (.of fun φ hφ=>?_)
 rcases List.mem_cons.1 hφ with rfl|hφ
 ·exact List.Mem.head _
 ·exact List.Mem.tail _ (List.Mem.tail _ hφ)
variable {P:Program} {n:Nat} {Q:Exit→Act→World→Prop} {G:Env}
theorem aRT {ops l:List Oper} {m:Fx.Mode} {b k:Nat} {es:List RE} {ty:TypeId} (ha:aP es k∈I) (h:RD P n ops Q m l G X w0 M (iN ⟨some ⟨b,0,none⟩,es.length,es⟩ k::I)):RD P n ops Q m l G X w0 (.blk b (recs eR es) ty::M) I:=vQ (fun _ hw=>Mem.blkL hw ha) h
theorem aRE {cd:Code} {b k:Nat} {es:List RE} {ty:TypeId} (ha:aP es k∈I) (h:TD P n cd Q G X w0 M (iN ⟨some ⟨b,0,none⟩,es.length,es⟩ k::I)):TD P n cd Q G X w0 (.blk b (recs eR es) ty::M) I:=aEO (fun _ hw=>Mem.blkL hw ha) h
end
section
variable {X:List Nat} {w0:World} {M0:List Ent} {I0:List aL}
/- reduce, and what it changed is only read from now on -/
/- a matrix made is only read from now on -/
end
def uM (R C:Nat) (A:Mt) (b:List Rat):Mt:=xE R (C+1) (fun i j=>if j < C then at2 A i j else b.getD i 0)
def besU (R C:Nat) (A:Mt) (b:List Rat):Mt:=xE R (C+1+R) (fun i j=>if j < C then at2 A i j else if j=C then b.getD i 0 else oF i (j - (C+1)))
theorem aSF {R C:Nat} {F:Nat→Nat→Rat}:qM (xE R C F) R C:=⟨by simp [xE],fun i hi=>by simp [xE,rowAt,List.getD,hi]⟩
def solB (R C:Nat) (f:Nat→Nat→Rat) (pv:List Nat):Prop:=∀i∈List.range R,pv.length≤i→f i C=0
instance (R C:Nat) (f:Nat→Nat→Rat) (pv:List Nat):Decidable (solB R C f pv):=by unfold solB;exact inferInstance
theorem aMD {R C:Nat} {f:Nat→Nat→Rat} {pv:List Nat}:solB R C f pv↔aZF R C f pv:=⟨fun h i h1 h2=>h i (List.mem_range.2 h2) h1,fun h i h1 h2=>h i h2 (List.mem_range.1 h1)⟩
def aJD (R C:Nat) (A:Mt) (b:List Rat):Prop:=solB R C (at2 (eQ (uM R C A b) C).1) (eQ (uM R C A b) C).2
instance (R C:Nat) (A:Mt) (b:List Rat):Decidable (aJD R C A b):=by unfold aJD;exact inferInstance
def aCT (R C:Nat) (A:Mt) (b:List Rat):List Rat:=(List.range C).map (aVL (at2 (eQ (uM R C A b) C).1) (eQ (uM R C A b) C).2 C)
theorem aJP {R C:Nat} {A:Mt} {b:List Rat} {i j:Nat} (hi:i < R) (hj:j < C):at2 (uM R C A b) i j=at2 A i j:=by unfold uM;rw [qY hi (by omega),if_pos hj]
theorem aOR {R C:Nat} {A:Mt} {b:List Rat} {i:Nat} (hi:i < R):at2 (uM R C A b) i C=b.getD i 0:=by unfold uM;rw [qY hi (by omega),if_neg (by omega)]
theorem aXL {R C:Nat} {A:Mt} {b:List Rat}:aJD R C A b↔∃x:Nat→Rat,∀i,i < R→sm C (fun j=>at2 A i j*x j)=b.getD i 0:=by
 obtain ⟨_,s,hr⟩:=iQ (A:=uM R C A b) (R:=R) (C:=C+1) aSF C (by omega)
 unfold aJD
 rw [aMD,hr.sol_iff (by omega)]
 constructor
 ·rintro ⟨x,hx⟩;exact ⟨x,fun i hi=>by rw [←aOR (A:=A) (C:=C) hi,←hx i hi];exact aZ (fun j hj=>by rw [aJP hi hj])⟩
 ·rintro ⟨x,hx⟩;exact ⟨x,fun i hi=>by rw [aOR hi,←hx i hi];exact aZ (fun j hj=>by rw [aJP hi hj])⟩
theorem aRH {R C:Nat} {A:Mt} {b:List Rat} (h:aJD R C A b):∀i,i < R→sm C (fun j=>at2 A i j*(aCT R C A b).getD j 0)=b.getD i 0:=by
 obtain ⟨_,s,hr⟩:=iQ (A:=uM R C A b) (R:=R) (C:=C+1) aSF C (by omega)
 intro i hi
 have:=hr.sol_x (by omega) (aMD.1 h) i hi
 rw [aOR hi] at this
 rw [←this]
 refine aZ (fun j hj=>?_)
 rw [aJP hi hj]
 unfold aCT
 simp [List.getD,hj]
/- the wider matrix tells the same -/
section
variable {X:List Nat} {w0:World} {M0:List Ent} {I0:List aL}
end
theorem aVK {A:Mt} {R r j x:Nat} (hl:A.length=R) (hr:r≤x) (hx:x < R) (hz:∀i,r≤i→i < x→at2 A i j=0) (hn:at2 A x j≠0):mG A j (R - r) r=x:=by
 obtain ⟨f1,f2,f3⟩:=aAV (A:=A) (j:=j) (R - r) r (by omega)
 have f4:=yX (A:=A) (j:=j) (R - r) r (by omega)
 generalize mG A j (R - r) r=y at*
 rcases Nat.lt_trichotomy y x with h|h|h
 ·exact absurd (hz y f1 h) (f3 (by omega))
 ·exact h
 ·exact absurd (f4 x hr h) hn
theorem aZR {A:Mt} {R r j:Nat} (hl:A.length=R) (hr:r≤R) (hz:∀i,r≤i→i < R→at2 A i j=0):mG A j (R - r) r=R:=by
 obtain ⟨f1,f2,f3⟩:=aAV (A:=A) (j:=j) (R - r) r (by omega)
 generalize mG A j (R - r) r=y at*
 rcases Nat.lt_or_ge y R with h|h
 ·exact absurd (hz y f1 h) (f3 (by omega))
 ·omega
theorem aYZ {A E:Mt} {pv:List Nat} {R j x:Nat} (h:eQ A j=(E,pv)) (hl:E.length=R) (hr:pv.length≤x) (hx:x < R) (hz:∀i,pv.length≤i→i < x→at2 E i j=0) (hn:at2 E x j≠0):eQ A (j+1)=(wJ E pv.length j x,pv++[j]):=by
 rw [uH,h]
 unfold aMU
 simp only
 rw [hl,aVK hl hr hx hz hn,if_pos hx]
theorem aPJ {A E:Mt} {pv:List Nat} {R j:Nat} (h:eQ A j=(E,pv)) (hl:E.length=R) (hr:pv.length≤R) (hz:∀i,pv.length≤i→i < R→at2 E i j=0):eQ A (j+1)=(E,pv):=by
 rw [uH,h]
 unfold aMU
 simp only
 rw [hl,aZR hl hr hz,if_neg (by omega)]
theorem aBM {A E:Mt} {pv:List Nat} {R j:Nat} (h:eQ A j=(E,pv)) (hl:E.length=R) (hr:pv.length=R):∀d,eQ A (j+d)=(E,pv)
 |0=>h
 |d+1=>by
  have:=aBM h hl hr d
  rw [←Nat.add_assoc]
  exact aPJ this hl (by omega) (fun i h1 h2=>by omega)
theorem aZK {E:Mt} {R C:Nat} (h:qM E R C):E=xE R C (at2 E):=by
 apply List.ext_getElem
 ·simp [xE,h.1]
 ·intro i h1 h2
  have hi:i < R:=by rw [←h.1];exact h1
  have hrow:rowAt E i=E[i]:=by simp [rowAt,List.getD,h1]
  have hc:=h.2 i hi
  rw [hrow] at hc
  apply List.ext_getElem
  ·simp [xE,hc]
  ·intro j h3 h4
   simp only [xE,List.getElem_map,List.getElem_range]
   unfold at2
   rw [hrow]
   simp [List.getD,h3]
theorem aPF {α:Type} [Inhabited α] {rows:List α} {r k:Nat} (hr:r < rows.length) (hk:k < rows.length):(st (st rows (r:Int) (gt rows (k:Int))) (k:Int) (gt rows (r:Int))).Perm rows:=by
 unfold st
 simp only [Int.toNat_natCast]
 by_cases h:r=k
 ·subst h
  rw [dP hr,List.set_getElem_self,List.set_getElem_self]
 ·have hr':r < ((rows.set r (gt rows (k:Int))).set k (gt rows (r:Int))).length:=by simpa using hr
  have hk':k < ((rows.set r (gt rows (k:Int))).set k (gt rows (r:Int))).length:=by simpa using hk
  have h1:=qU _ r k hr' hk' h
  have h2:=qU rows r k hr hk h
  have e:jX ((rows.set r (gt rows (k:Int))).set k (gt rows (r:Int))) r k=jX rows r k:=by
   have h3:=rW (rows.set r (gt rows (k:Int))) k r (gt rows (r:Int)) (Ne.symm h)
   have h4:=rW rows r k (gt rows (k:Int)) h
   have c:∀l:List α,jX l k r=jX l r k:=fun l=>by unfold jX;rw [Nat.max_comm,Nat.min_comm]
   rw [c,c,h4] at h3
   exact h3
  rw [e] at h1
  have g1:((rows.set r (gt rows (k:Int))).set k (gt rows (r:Int)))[r]'hr'=rows[k]:=by
   rw [List.getElem_set_ne (Ne.symm h),List.getElem_set_self,dP hk]
  have g2:((rows.set r (gt rows (k:Int))).set k (gt rows (r:Int)))[k]'hk'=rows[r]:=by
   rw [List.getElem_set_self,dP hr]
  rw [g1,g2] at h1
  exact (h1.trans (List.Perm.swap _ _ _)).trans h2.symm
theorem aWT {α:Type} [Inhabited α] {rows:List α} {r k t:Nat} (hr:r < rows.length) (hk:k < rows.length):gt (st (st rows (r:Int) (gt rows (k:Int))) (k:Int) (gt rows (r:Int))) (t:Int)=gt rows ((tr r k t:Nat):Int):=by
 rw [aKQ _ (by rw [dK];omega) (by omega),aKQ _ (by omega) (by omega)]
 simp only [tr]
 by_cases e1:t=k
 ·subst e1
  rw [if_pos rfl]
  by_cases e2:t=r
  ·rw [if_pos e2,e2]
  ·rw [if_neg e2,if_pos rfl]
 ·rw [if_neg (by omega)]
  by_cases e2:t=r
  ·rw [if_pos (by omega),if_pos e2]
  ·rw [if_neg (by omega),if_neg e2,if_neg e1]
theorem Hv.elS {I:List aL} {rows:List MS} {i j:Int} {k m:Nat} (h:iG rows k∈I) (hi:0≤i∧i < rows.length) (hj:0≤j∧j < (gt rows i).es.length) (hk:k≤m):Hv I (bL (gt (gt rows i).es j) m):=
 ⟨fun X w hw=>((hw _ h:AllS rows k X w).go _ (bF hi) _ (bF hj)).mono hk⟩
theorem Hv.permS {I:List aL} {rows rows':List MS} {k:Nat} (h:iG rows k∈I) (hp:rows'.Perm rows):Hv I (iG rows' k):=⟨fun X w hw=>⟨fun r hr=>(hw _ h:AllS rows k X w).go r (hp.mem_iff.1 hr)⟩⟩
theorem aTV {rows:List MS} {i:Nat} {M1:List Ent} (h:i < rows.length):iW (gt rows (i:Int))∈rows.map iW++M1:=List.mem_append_left _ (List.mem_map.2 ⟨_,bF (by omega),rfl⟩)
theorem bDL {M1:List Ent} {r':MS} {rows:List MS} {i:Nat} (h:i < rows.length) {A B C:Ent}:Rep (iW (gt rows (i:Int))) (iW r') (A::B::C::(rows.map iW++M1)) (A::B::C::((rows.set i r').map iW++M1)):= .there (bDK h)
theorem aHZ {rows:List MS} {R C i j t:Nat} {e:RE} (h:Shp rows R C) (hi:i < R) (ht:t < R) (hne:t≠i):gt (upS rows i j e) (t:Int)=gt rows (t:Int):=by rw [aNM h hi ht,if_neg hne]
theorem xR {rows:List MS} {R C i j c:Nat} {e:RE} (h:Shp rows R C) (hi:i < R) (hj:j < C):gt (gt (upS rows i j e) (i:Int)).es (c:Int)=if c=j then e else gt (gt rows (i:Int)).es (c:Int):=by
 rw [aNM h hi hi,if_pos rfl]
 show gt (st (gt rows (i:Int)).es (j:Int) e) (c:Int)=_
 rw [vJ (by rw [h.row hi];exact hj)]
def rEchO (A:Mt) (R C k:Nat) (M0:List Ent) (I0:List aL) (v:Value) (M:List Ent) (I:List aL):Prop:=
 ∃(bo co:Nat) (tlo:List Value) (rows:List MS) (E:Mt) (pv:List Nat) (q:Option Addr) (c:Nat),v= .tuple #[.slice (some ⟨bo,0,none⟩) R co, .slice q pv.length c]∧R≤co∧Shp rows R C∧eQ A C=(E,pv)∧Pw rows R C (at2 E)∧
  M= .row q pv.length c (recs eZ (zs pv)) 3 1:: .blk bo (recs eS rows++tlo) 70::(rows.map iW++M0)∧I=iG rows k::I0
def rEchP (A:Mt) (R C k:Nat) (M0:List Ent) (I0:List aL) (v:Value) (M:List Ent) (I:List aL):Prop:=
 M0=M∧∃(m:MX) (pv:List Nat) (q:Option Addr) (c:Nat),v= .tuple #[mv m, .slice q pv.length c]∧eQ A C=(m.q,pv)∧m.dim R C∧I=pvI q pv::gI m k::I0
section
variable {X:List Nat} {w0:World} {M0:List Ent} {I0:List aL}
theorem aXP {a:MX} {R C k0:Nat} (hb:kb k0 C≤20000000000) (hR:1≤R∧R≤100) (hC:1≤C∧C≤100) (da:a.dim R C) (ha:gI a k0∈I0):CD Tryz.prog 142 [mv a] X w0 M0 I0 (rEchO a.q R C (kb k0 C) M0 I0):=by
 have lR:=da.1
 have lC:(gt a.rows 0).es.length=C:=da.row (i:=0) (by omega)
 have hdim:=aIR da
 have hCo:=fun M0 I0 h=>aXF (X:=X) (w0:=w0) (M0:=M0) (I0:=I0) (a:=a) (k0:=k0) hR hC da h
 refine aV (φ:=aI (a).p (recs eL (a).rows)) (Hv.xsl aA) ?_
 refine aR Tryz.func142 rfl Tryz.ntmps142 rfl ?_
 repeat (first|(refine aB ?_)|(refine bN ?_;apply bJ;exact eX;exact rfl;exact aA;exact AtsZ.app (AtsZ.r iH);exact rfl;exact rfl))
 repeat refine aB ?_
 (refine bD rfl (hCo _ _ aA) ?_;rintro _ _ _ ⟨bo,co,tlo,rows0,rfl,hco,hs0,hp0,rfl,rfl⟩;refine aN ?_)
 clear hCo
 repeat (first|(refine aB ?_)|(refine bN ?_;apply bJ;exact eX;exact rfl;exact aA;exact AtsZ.app (AtsZ.r iH);exact rfl;exact rfl))
 repeat refine aB ?_
 (refine gK (cs:=recs eZ []) ([]) rfl (fun bp=>?_);refine fM (mm:=0) 1 .here rfl (by omega) ?_)
 repeat (first|(refine aB ?_)|(refine bN ?_;apply bJ;exact eX;exact rfl;exact aA;exact AtsZ.app (AtsZ.r iH);exact rfl;exact rfl))
 repeat refine aB ?_
 refine bX [0,4] rfl (fun k G M I=>∃(j r:Nat) (rows:List MS) (E:Mt) (pv:List Nat) (q:Option Addr) (c:Nat),j≤C∧k=C - j∧pv.length=r∧eQ a.q j=(E,pv)∧r≤R∧r≤j∧Shp rows R C∧Pw rows R C (at2 E)∧G=[(5, .slice q r c),(6, .int .i64 j)]∧M= .row q r c (recs eZ (zs pv)) 3 1:: .blk bo (recs eS rows++tlo) 70::(rows.map iW++M0)∧I=iG rows (kb k0 j)::aI a.p (recs eL a.rows)::I0) (C) _ _ _ dB aF aC (⟨0,0,rows0,a.q,[],_,_,by omega,rfl,rfl,rfl,by omega,by omega,hs0,hp0,rfl,rfl,rfl⟩) ?_
 rintro kk G M I ⟨j,r,rows,E,pv,q,c,hj,rfl,hr,hred,hpR,hpj,hs,hp,rfl,rfl,rfl⟩
 obtain ⟨hdE,s,hRd⟩:=iQ hdim j hj
 rw [hred] at hdE hRd
 simp only at hdE hRd
 have hEl:=hdE.1
 have hlen:=hs.len
 have hzl:(zs pv).length=r:=by simp [hr]
 by_cases hjC:j < C
 ·by_cases hrR:r < R
  ·have hkj:kb k0 (j+1)≤20000000000:=Nat.le_trans (tL k0 (by omega)) hb
   have hkj1:kb k0 (j+1)=4*kb k0 j+1:=rfl
   obtain ⟨kj,hkj0⟩:∃x,kb k0 j=x:=⟨_,rfl⟩
   rw [hkj0] at hkj1 ⊢
   repeat (first|(refine aB ?_)|(refine bN ?_;apply bJ;exact eX;exact rfl;exact aA;exact AtsZ.app (AtsZ.r iH);exact rfl;exact rfl))
   repeat refine aB ?_
   refine lX [0,4,5,6,7] rfl (fun k G M I=>∃(x:Nat) (a1:Int),r≤x∧x≤R∧k=R - x∧((a1= -1∧∀i:Nat,r≤i→i < x→at2 E i j=0)∨(a1+1=x∧r < x∧at2 E (x - 1) j≠0∧∀i:Nat,r≤i→i < x - 1→at2 E i j=0))∧G=[(8, .int .i64 a1),(9, .int .i64 x)]∧M= .row q r c (recs eZ (zs pv)) 3 1:: .blk bo (recs eS rows++tlo) 70::(rows.map iW++M0)∧I=iG rows kj::aI a.p (recs eL a.rows)::I0) (R - r) (⟨r, -1,by omega,by omega,rfl, .inl ⟨rfl,fun i h1 h2=>by omega⟩,rfl,rfl,rfl⟩) ?_
   rintro kk G M I ⟨x,a1,hrx,hxR,rfl,hcase,rfl,rfl,rfl⟩
   rcases hcase with ⟨rfl,hz⟩|⟨ha1,hrx2,hn,hz⟩
   ·by_cases hx:x < R
    ·have hrow:=hs.row hx
     have hmx:=aTV (rows:=rows) (i:=x) (M1:=M0) (by omega)
     have hat:=hp x j hx hjC
     have hSg:=fun M0 I0 h=>pV (X:=X) (w0:=w0) (M0:=M0) (I0:=I0) (e:=gt (gt rows (x:Int)).es (j:Int)) (k:=kj) (by omega) h
     refine bG (φ:=bL (gt (gt rows (x:Int)).es (j:Int)) kj) (Hv.elS (k:=kj) aA (by omega) (by omega) (Nat.le_refl _)) ?_
     by_cases h0:at2 E x j=0
     ·rw [←hat] at h0
      rw [(nW _).2 h0] at hSg
      repeat (first|(refine aB ?_)|(refine bN ?_;apply bJ;exact eX;exact rfl;exact aA;exact AtsZ.app (AtsZ.r iH);exact rfl;exact rfl))
      repeat refine aB ?_
      refine dH rfl (hSg _ _ (Hv.mem aA)) ?_
      repeat (first|(refine aB ?_)|(refine bN ?_;apply bJ;exact eX;exact rfl;exact aA;exact AtsZ.app (AtsZ.r iH);exact rfl;exact rfl))
      repeat refine aB ?_
      refine gL (R - (x+1)) (⟨x+1, -1,by omega,by omega,rfl, .inl ⟨rfl,fun i h1 h2=>?_⟩,rfl,rfl,rfl⟩)
      by_cases e:i=x
      ·subst e;rw [←hat];exact h0
      ·exact hz i h1 (by omega)
     ·have h0':=h0
      rw [←hat] at h0'
      have hs1:¬(gt (gt rows (x:Int)).es (j:Int)).q.num.sign=0:=fun h=>h0' ((nW _).1 h)
      generalize (gt (gt rows (x:Int)).es (j:Int)).q.num.sign=sg1 at*
      repeat (first|(refine aB ?_)|(refine bN ?_;apply bJ;exact eX;exact rfl;exact aA;exact AtsZ.app (AtsZ.r iH);exact rfl;exact rfl))
      repeat refine aB ?_
      refine dH rfl (hSg _ _ (Hv.mem aA)) ?_
      repeat (first|(refine aB ?_)|(refine bN ?_;apply bJ;exact eX;exact rfl;exact aA;exact AtsZ.app (AtsZ.r iH);exact rfl;exact rfl))
      repeat refine aB ?_
      refine gL (R - (x+1)) (⟨x+1,(x:Int),by omega,by omega,rfl, .inr ⟨by omega,by omega,by rw [Nat.add_sub_cancel];exact h0,fun i h1 h2=>hz i h1 (by omega)⟩,rfl,rfl,rfl⟩)
    ·obtain rfl:x=R:=by omega
     repeat (first|(refine aB ?_)|(refine bN ?_;apply bJ;exact eX;exact rfl;exact aA;exact AtsZ.app (AtsZ.r iH);exact rfl;exact rfl))
     repeat refine aB ?_
     refine dF (φ:=iG rows (kb k0 (j+1))) (Hv.monoS (k:=kj) aA (by omega)) ?_
     refine gL (C - (j+1)) (⟨j+1,r,rows,E,pv,q,c,by omega,rfl,hr,aPJ hred hEl (by omega) (fun i h1 h2=>hz i (by omega) h2),hpR,by omega,hs,hp,rfl,rfl,rfl⟩)
   ·obtain ⟨y,rfl⟩:∃y,x=y+1:=⟨x - 1,by omega⟩
    rw [Nat.add_sub_cancel] at hn hz
    obtain rfl:a1=(y:Int):=by omega
    have hyR:y < R:=by omega
    rcases Nat.lt_or_ge (y+1) R with hy1|hy1 <;>(
     repeat (first|(refine aB ?_)|(refine bN ?_;apply bJ;exact eX;exact rfl;exact aA;exact AtsZ.app (AtsZ.r iH);exact rfl;exact rfl))
     repeat refine aB ?_
     (repeat refine aG ?_);refine aW 0 [0,1,2,3,4,5,6,7,8,9,10,11,12,13,14,15] [0,0,1,1,0,0,0,0,1,1,1,0,0,0,0,0] mixed (by kernel_rfl) ?_
     repeat refine yXh ?_
     refine nH rfl rfl rfl jJ (StAt.app (StAt.r1 (gt rows (y:Int)) (by omega) rfl)) rfl rfl ⟨okF,?_⟩
     repeat refine yXh ?_
     refine nH rfl rfl rfl jJ (StAt.app (StAt.r1 (gt rows (r:Int)) (by rw [dK];omega) rfl)) rfl rfl ⟨okF,?_⟩
     obtain ⟨rows2,hrows2⟩:∃rows2,rows2=st (st rows (r:Int) (gt rows (y:Int))) (y:Int) (gt rows (r:Int)):=⟨_,rfl⟩
     have hsp:=aPF (rows:=rows) (r:=r) (k:=y) (by omega) (by omega)
     have hgs:∀t:Nat,gt rows2 (t:Int)=gt rows ((tr r y t:Nat):Int):=fun t=>by rw [hrows2];exact aWT (by omega) (by omega)
     rw [←hrows2] at hsp ⊢
     have hs2:Shp rows2 R C:=⟨by rw [hsp.length_eq];exact hlen,fun r hr=>hs.col r (hsp.mem_iff.1 hr)⟩
     have hp2:∀t b:Nat,t < R→b < C→(gt (gt rows2 (t:Int)).es (b:Int)).q=at2 E (tr r y t) b:=fun t b ht hb=>by rw [hgs];exact hp _ b (aAI hrR hyR ht) hb
     clear hrows2
     refine zU (M':= .row q r c (recs eZ (zs pv)) 3 1:: .blk bo (recs eS rows2++tlo) 70::(rows2.map iW++M0)) (List.Perm.cons _ (List.Perm.cons _ ((hsp.symm.map iW).append_right M0))) ?_
     refine bQ (φ:=iG rows2 kj) (Hv.permS (k:=kj) aA hsp) ?_
     have hlen2:=hs2.len
     have hrow2:=hs2.row hrR
     have hmr:=aTV (rows:=rows2) (i:=r) (M1:=M0) (by omega)
     have htr:tr r y r=y:=by simp [tr]
     have hpq:=hp2 r j hrR hjC
     rw [htr] at hpq
     obtain ⟨p,hpp⟩:∃p,gt (gt rows2 (r:Int)).es (j:Int)=p:=⟨_,rfl⟩
     repeat (first|(refine aB ?_)|(refine bN ?_;apply bJ;exact eX;exact rfl;exact aA;exact AtsZ.app (AtsZ.r iH);exact rfl;exact rfl))
     repeat refine aB ?_
     refine cK (fun b10=>?_)
     repeat (first|(refine aB ?_)|(refine bN ?_;apply bJ;exact eX;exact rfl;exact aA;exact AtsZ.app (AtsZ.r iH);exact rfl;exact rfl))
     repeat refine aB ?_
     refine bG (φ:=bL (gt (gt rows2 (r:Int)).es (j:Int)) kj) (Hv.elS (k:=kj) aA (by omega) (by omega) (Nat.le_refl _)) ?_
     rw [hpp] at hpq ⊢
     have hp0:p.q≠0:=by rw [hpq];exact hn
     refine bG (φ:=iG rows2 (kj+kj)) (Hv.monoS (k:=kj) aA (by omega)) ?_
     clear hmr
     refine rJ (M':= .blk b10 (eR p) 77:: .row q r c (recs eZ (zs pv)) 3 1:: .blk bo (recs eS rows2++tlo) 70::(rows2.map iW++M0)) (I':=iG rows2 (kj+kj)::bL p kj::iG rows2 kj::aI a.p (recs eL a.rows)::I0) SubP.refl aC ?_
     refine lX [0,4,5,6,7,10] rfl (fun k G M I=>∃(x:Nat) (rows3:List MS),x≤C∧k=C - x∧Shp rows3 R C∧(∀t:Nat,t < R→t≠r→gt rows3 (t:Int)=gt rows2 (t:Int))∧(∀b:Nat,x≤b→gt (gt rows3 (r:Int)).es (b:Int)=gt (gt rows2 (r:Int)).es (b:Int))∧(∀b:Nat,b < x→(gt (gt rows3 (r:Int)).es (b:Int)).q=(gt (gt rows2 (r:Int)).es (b:Int)).q / p.q)∧G=[(11, .int .i64 x)]∧M= .blk b10 (eR p) 77:: .row q r c (recs eZ (zs pv)) 3 1:: .blk bo (recs eS rows3++tlo) 70::(rows3.map iW++M0)∧I=iG rows3 (kj+kj)::bL p kj::iG rows2 kj::aI a.p (recs eL a.rows)::I0) (C) (⟨0,rows2,by omega,rfl,hs2,fun _ _ _=>rfl,fun _ _=>rfl,fun b hb=>by omega,rfl,rfl,rfl⟩) ?_
     rintro kk G M I ⟨x,rows3,hx,rfl,hs3,hk3,hk3r,hd3,rfl,rfl,rfl⟩
     have hlen3:=hs3.len
     have hrow3:=hs3.row hrR
     by_cases hxC:x < C
     ·have hmr:=aTV (rows:=rows3) (i:=r) (M1:=M0) (by omega)
      have hge:=hk3r x (Nat.le_refl _)
      have hve:∀I,iG rows2 kj∈I→Hv I (bL (gt (gt rows3 (r:Int)).es (x:Int)) kj):=fun I h=>by rw [hge];exact Hv.elS h (by omega) (by omega) (Nat.le_refl _)
      repeat (first|(refine aB ?_)|(refine bN ?_;apply bJ;exact eX;exact rfl;exact aA;exact AtsZ.app (AtsZ.r iH);exact rfl;exact rfl))
      repeat refine aB ?_
      (repeat refine aG ?_);refine aW 1 [0,1,2,3,4,5,6,7,8,9,10,11,12,13,14,15,16,17,18] [1,1,1,1,1,1,1,1,1,1,1,0,0,0,0,0,1,0,0] mixed (by kernel_rfl) ?_
      repeat (first|(refine aB ?_)|(refine bN ?_;apply bJ;exact eX;exact rfl;exact aA;exact AtsZ.app (AtsZ.r iH);exact rfl;exact rfl))
      repeat refine aB ?_
      (refine bD rfl (wQ (k:=kj) (m:=kj) (by omega) hp0 (hve _ aA) (Hv.mem aA)) ?_;rintro _ _ _ ⟨rfl,e,rfl,he,rfl⟩;refine aN ?_)
      repeat refine yXh ?_
      refine fJ (vs:=eR e) rfl rfl rfl (Ones.one e) (bDL (rows:=rows3) (i:=r) (r':=upR (gt rows3 (r:Int)) x e) (by omega)) (StAts.app (StAts.r (enc:=eR) (ms:=(gt rows3 (r:Int)).es) (i:=(x:Int)) e (by omega) rfl)) rfl rfl ⟨okF,?_⟩
      rw [aIT]
      refine bQ (φ:=iG (upS rows3 r x e) (kj+kj)) (Hv.upS hs3 hrR aA aA) ?_
      rw [←aFB (i:=r) (j:=x) (e:=e) hs3 hrR]
      repeat (first|(refine aB ?_)|(refine bN ?_;apply bJ;exact eX;exact rfl;exact aA;exact AtsZ.app (AtsZ.r iH);exact rfl;exact rfl))
      repeat refine aB ?_
      refine gL (C - (x+1)) (⟨x+1,upS rows3 r x e,by omega,rfl,hs3.up hrR,fun t ht hne=>?_,fun b hb=>?_,fun b hb=>?_,rfl,rfl,rfl⟩)
      ·rw [aHZ hs3 hrR ht hne];exact hk3 t ht hne
      ·rw [xR hs3 hrR hxC,if_neg (by omega)];exact hk3r b (by omega)
      ·rw [xR hs3 hrR hxC]
       by_cases e1:b=x
       ·subst e1;rw [if_pos rfl,he,hge]
       ·rw [if_neg e1];exact hd3 b (by omega)
     ·obtain rfl:x=C:=by omega
      repeat (first|(refine aB ?_)|(refine bN ?_;apply bJ;exact eX;exact rfl;exact aA;exact AtsZ.app (AtsZ.r iH);exact rfl;exact rfl))
      repeat refine aB ?_
      refine bG (φ:=iG rows3 (4*kj+1)) (Hv.monoS (k:=kj+kj) aA (by omega)) ?_
      refine rJ (M':= .row q r c (recs eZ (zs pv)) 3 1:: .blk bo (recs eS rows3++tlo) 70::(rows3.map iW++M0)) (I':=iG rows3 (4*kj+1)::iG rows3 (kj+kj)::iG rows2 kj::aI a.p (recs eL a.rows)::I0) (SubP.drop SubP.refl) aC ?_
      refine lX [0,4,5,6,7] rfl (fun k G M I=>∃(i:Nat) (rows4:List MS),i≤R∧k=R - i∧Shp rows4 R x∧(∀t:Nat,t < R→(i≤t∨t=r)→gt rows4 (t:Int)=gt rows3 (t:Int))∧(∀t b:Nat,t < i→t≠r→b < x→(gt (gt rows4 (t:Int)).es (b:Int)).q=(gt (gt rows2 (t:Int)).es (b:Int)).q - (gt (gt rows2 (t:Int)).es (j:Int)).q*(gt (gt rows3 (r:Int)).es (b:Int)).q)∧G=[(12, .int .i64 i)]∧M= .row q r c (recs eZ (zs pv)) 3 1:: .blk bo (recs eS rows4++tlo) 70::(rows4.map iW++M0)∧I=iG rows4 (4*kj+1)::iG rows3 (kj+kj)::iG rows2 kj::aI a.p (recs eL a.rows)::I0) (R) (⟨0,rows3,by omega,rfl,hs3,fun _ _ _=>rfl,fun t b ht=>by omega,rfl,rfl,rfl⟩) ?_
      rintro kk G M I ⟨i,rows4,hi,rfl,hs4,hk4,hd4,rfl,rfl,rfl⟩
      have hlen4:=hs4.len
      by_cases hiR:i < R
      ·have hrow4:=hs4.row hiR
       have hmi:=aTV (rows:=rows4) (i:=i) (M1:=M0) (by omega)
       have hg4:=hk4 i hiR (.inl (Nat.le_refl _))
       by_cases hir:i=r
       ·repeat (first|(refine aB ?_)|(refine bN ?_;apply bJ;exact eX;exact rfl;exact aA;exact AtsZ.app (AtsZ.r iH);exact rfl;exact rfl))
        repeat refine aB ?_
        refine cK (fun b13=>?_)
        repeat (first|(refine aB ?_)|(refine bN ?_;apply bJ;exact eX;exact rfl;exact aA;exact AtsZ.app (AtsZ.r iH);exact rfl;exact rfl))
        repeat refine aB ?_
        refine gL (R - (i+1)) (⟨i+1,rows4,by omega,rfl,hs4,fun t ht h=>hk4 t ht (by omega),fun t b ht hne hb=>hd4 t b (by omega) hne hb,rfl,rfl,rfl⟩)
       ·have hg3:=hk3 i hiR hir
        have hg2:gt rows4 (i:Int)=gt rows2 (i:Int):=hg4.trans hg3
        have hrow2i:=hs2.row hiR
        obtain ⟨f,hf⟩:∃f,gt (gt rows4 (i:Int)).es (j:Int)=f:=⟨_,rfl⟩
        have hf2:gt (gt rows2 (i:Int)).es (j:Int)=f:=by rw [←hg2];exact hf
        have hSg:=fun M0 I0 h=>pV (X:=X) (w0:=w0) (M0:=M0) (I0:=I0) (e:=f) (k:=kj) (by omega) h
        by_cases h0:f.q=0
        ·rw [(nW _).2 h0] at hSg
         repeat (first|(refine aB ?_)|(refine bN ?_;apply bJ;exact eX;exact rfl;exact aA;exact AtsZ.app (AtsZ.r iH);exact rfl;exact rfl))
         repeat refine aB ?_
         refine cK (fun b13=>?_)
         rw [hf]
         repeat (first|(refine aB ?_)|(refine bN ?_;apply bJ;exact eX;exact rfl;exact aA;exact AtsZ.app (AtsZ.r iH);exact rfl;exact rfl))
         repeat refine aB ?_
         refine bQ (φ:=bL f kj) (by rw [←hf2];exact Hv.elS (k:=kj) aA (by omega) (by omega) (Nat.le_refl _)) ?_
         refine dH rfl (hSg _ _ (Hv.mem aA)) ?_
         repeat (first|(refine aB ?_)|(refine bN ?_;apply bJ;exact eX;exact rfl;exact aA;exact AtsZ.app (AtsZ.r iH);exact rfl;exact rfl))
         repeat refine aB ?_
         refine gL (R - (i+1)) (⟨i+1,rows4,by omega,rfl,hs4,fun t ht h=>hk4 t ht (by omega),fun t b ht hne hb=>?_,rfl,rfl,rfl⟩)
         by_cases e:t=i
         ·subst e;rw [hg2,hf2,h0];grind
         ·exact hd4 t b (by omega) hne hb
        ·have hs1:¬f.q.num.sign=0:=fun h=>h0 ((nW _).1 h)
         generalize f.q.num.sign=sg1 at*
         repeat (first|(refine aB ?_)|(refine bN ?_;apply bJ;exact eX;exact rfl;exact aA;exact AtsZ.app (AtsZ.r iH);exact rfl;exact rfl))
         repeat refine aB ?_
         refine cK (fun b13=>?_)
         rw [hf]
         repeat (first|(refine aB ?_)|(refine bN ?_;apply bJ;exact eX;exact rfl;exact aA;exact AtsZ.app (AtsZ.r iH);exact rfl;exact rfl))
         repeat refine aB ?_
         refine bQ (φ:=bL f kj) (by rw [←hf2];exact Hv.elS (k:=kj) aA (by omega) (by omega) (Nat.le_refl _)) ?_
         refine dH rfl (hSg _ _ (Hv.mem aA)) ?_
         repeat (first|(refine aB ?_)|(refine bN ?_;apply bJ;exact eX;exact rfl;exact aA;exact AtsZ.app (AtsZ.r iH);exact rfl;exact rfl))
         repeat refine aB ?_
         clear hmi
         refine lX [0,4,5,6,7,12,13] rfl (fun k G M I=>∃(z:Nat) (rows5:List MS),z≤x∧k=x - z∧Shp rows5 R x∧(∀t:Nat,t < R→t≠i→gt rows5 (t:Int)=gt rows4 (t:Int))∧(∀b:Nat,z≤b→gt (gt rows5 (i:Int)).es (b:Int)=gt (gt rows2 (i:Int)).es (b:Int))∧(∀b:Nat,b < z→(gt (gt rows5 (i:Int)).es (b:Int)).q=(gt (gt rows2 (i:Int)).es (b:Int)).q - f.q*(gt (gt rows3 (r:Int)).es (b:Int)).q)∧G=[(14, .int .i64 z)]∧M= .blk b13 (eR f) 77:: .row q r c (recs eZ (zs pv)) 3 1:: .blk bo (recs eS rows5++tlo) 70::(rows5.map iW++M0)∧I=iG rows5 (4*kj+1)::bL f kj::iG rows3 (kj+kj)::iG rows2 kj::aI a.p (recs eL a.rows)::I0) (x) (⟨0,rows4,by omega,rfl,hs4,fun _ _ _=>rfl,fun b _=>by rw [hg2],fun b hb=>by omega,rfl,rfl,rfl⟩) ?_
         rintro kk G M I ⟨z,rows5,hz5,rfl,hs5,hk5,hk5i,hd5,rfl,rfl,rfl⟩
         have hlen5:=hs5.len
         have hrow5:=hs5.row hiR
         by_cases hzC:z < x
         ·have hrow5r:=hs5.row hrR
          have hmi:=aTV (rows:=rows5) (i:=i) (M1:=M0) (by omega)
          have hmr:=aTV (rows:=rows5) (i:=r) (M1:=M0) (by omega)
          have hge:=hk5i z (Nat.le_refl _)
          have hgr:gt rows5 (r:Int)=gt rows3 (r:Int):=by rw [hk5 r hrR (Ne.symm hir)];exact hk4 r hrR (.inr rfl)
          have hve:∀I,iG rows2 kj∈I→Hv I (bL (gt (gt rows5 (i:Int)).es (z:Int)) kj):=fun I h=>by rw [hge];exact Hv.elS h (by omega) (by omega) (Nat.le_refl _)
          have hvr:∀I,iG rows3 (kj+kj)∈I→Hv I (bL (gt (gt rows5 (r:Int)).es (z:Int)) (kj+kj)):=fun I h=>by rw [hgr];exact Hv.elS h (by omega) (by omega) (Nat.le_refl _)
          repeat (first|(refine aB ?_)|(refine bN ?_;apply bJ;exact eX;exact rfl;exact aA;exact AtsZ.app (AtsZ.r iH);exact rfl;exact rfl))
          repeat refine aB ?_
          (repeat refine aG ?_);refine aW 2 [0,1,2,3,4,5,6,7,8,9,10,11,12,13,14,15,16,17,18,19,20,21,22,23] [2,2,2,2,2,2,2,2,2,2,2,1,1,2,2,2,2,2,2,1,0,0,0,0] mixed (by kernel_rfl) ?_
          repeat (first|(refine aB ?_)|(refine bN ?_;apply bJ;exact eX;exact rfl;exact aA;exact AtsZ.app (AtsZ.r iH);exact rfl;exact rfl))
          repeat refine aB ?_
          refine fK rfl (sN (k:=kj) (m:=kj+kj) (by omega) (Hv.mem aA) (hvr _ aA)) (fun e1 he1=>?_)
          refine fK rfl (aEB (k:=kj) (m:=kj+(kj+kj)) (by omega) (hve _ aA) (Hv.mem aA)) (fun e he=>?_)
          repeat refine yXh ?_
          refine fJ (vs:=eR e) rfl rfl rfl (Ones.one e) (bDL (rows:=rows5) (i:=i) (r':=upR (gt rows5 (i:Int)) z e) (by omega)) (StAts.app (StAts.r (enc:=eR) (ms:=(gt rows5 (i:Int)).es) (i:=(z:Int)) e (by omega) rfl)) rfl rfl ⟨okF,?_⟩
          rw [aIT]
          refine bQ (φ:=bL e (4*kj+1)) (Hv.q (k:=kj+(kj+(kj+kj))+1) aA (by omega)) ?_
          refine bQ (φ:=iG (upS rows5 i z e) (4*kj+1)) (Hv.upS hs5 hiR aA aA) ?_
          rw [←aFB (i:=i) (j:=z) (e:=e) hs5 hiR]
          repeat (first|(refine aB ?_)|(refine bN ?_;apply bJ;exact eX;exact rfl;exact aA;exact AtsZ.app (AtsZ.r iH);exact rfl;exact rfl))
          repeat refine aB ?_
          refine gL (x - (z+1)) (⟨z+1,upS rows5 i z e,by omega,rfl,hs5.up hiR,fun t ht hne=>?_,fun b hb=>?_,fun b hb=>?_,rfl,rfl,rfl⟩)
          ·rw [aHZ hs5 hiR ht hne];exact hk5 t ht hne
          ·rw [xR hs5 hiR hzC,if_neg (by omega)];exact hk5i b (by omega)
          ·rw [xR hs5 hiR hzC]
           by_cases e2:b=z
           ·subst e2;rw [if_pos rfl,he,he1,hge,hgr]
           ·rw [if_neg e2];exact hd5 b (by omega)
         ·obtain rfl:z=x:=by omega
          repeat (first|(refine aB ?_)|(refine bN ?_;apply bJ;exact eX;exact rfl;exact aA;exact AtsZ.app (AtsZ.r iH);exact rfl;exact rfl))
          repeat refine aB ?_
          refine gL (R - (i+1)) (⟨i+1,rows5,by omega,rfl,hs5,fun t ht h=>?_,fun t b ht hne hb=>?_,rfl,rfl,rfl⟩)
          ·rw [hk5 t ht (by omega)];exact hk4 t ht (by omega)
          ·by_cases e:t=i
           ·subst e;rw [hd5 b hb,hf2]
           ·rw [hk5 t (by omega) e];exact hd4 t b (by omega) hne hb
      ·obtain rfl:i=R:=by omega
       have e1:recs eZ (zs pv)++recs eZ [(j:Int)]=recs eZ (zs (pv++[j])):=by rw [←lZ];exact congrArg (recs eZ) (List.map_append (f:=fun (x:Nat)=>(x:Int)) (l₁:=pv) (l₂:=[j])).symm
       have hst:=aKW (A:=E) (R:=i) (C:=x) (r:=r) (j:=j) (x:=y) hdE hrR hyR hjC (fun b hb=>hRd.zero y b (by omega) hyR hb)
       have hPw:Pw rows4 i x (at2 (wJ E r j y)):=fun t b ht hb=>by
        rw [hst t b ht hb]
        simp only [elm,htr]
        have h3:=hd3 b hb
        have h2r:=hp2 r b hrR hb
        rw [htr] at h2r
        by_cases e:t=r
        ·rw [if_pos e,e,hk4 r hrR (.inr rfl),h3,h2r,hpq];grind
        ·rw [if_neg e,hd4 t b ht e hb,hp2 t b ht hb,hp2 t j ht hjC,h3,h2r,hpq];grind
       repeat (first|(refine aB ?_)|(refine bN ?_;apply bJ;exact eX;exact rfl;exact aA;exact AtsZ.app (AtsZ.r iH);exact rfl;exact rfl))
       repeat refine aB ?_
       refine gK (cs:=recs eZ [(j:Int)]) ([.int .i64 (j:Int)]) rfl (fun b3=>?_)
       refine aNO (len:=1) (news:=recs eZ [(j:Int)]) 1 rfl rfl rfl (Src.blk aA) (by decide) rfl (uP (enc:=eZ) [(j:Int)]) (by omega) (by omega) rfl rfl ?_
       intro a2 c3
       refine aN ?_
       rw [e1]
       repeat (first|(refine aB ?_)|(refine bN ?_;apply bJ;exact eX;exact rfl;exact aA;exact AtsZ.app (AtsZ.r iH);exact rfl;exact rfl))
       repeat refine aB ?_
       refine dF (φ:=iG rows4 (kb k0 (j+1))) (Hv.monoS (k:=4*kj+1) aA (by omega)) ?_
       refine gL (x - (j+1)) (⟨j+1,r+1,rows4,wJ E r j y,pv++[j],a2,c3,by omega,rfl,by simp [hr],?_,by omega,by omega,hs4,hPw,rfl,rfl,rfl⟩)
       have:=aYZ (x:=y) hred hEl (by omega) hyR (fun t h1 h2=>hz t (by omega) h2) hn
       rwa [hr] at this)
  ·obtain rfl:r=R:=by omega
   have hfull:eQ a.q C=(E,pv):=by
    have:=aBM hred hEl hr (C - j)
    rwa [show j+(C - j)=C by omega] at this
   repeat (first|(refine aB ?_)|(refine bN ?_;apply bJ;exact eX;exact rfl;exact aA;exact AtsZ.app (AtsZ.r iH);exact rfl;exact rfl))
   repeat refine aB ?_
   refine dF (φ:=iG rows (kb k0 C)) (Hv.monoS (k:=kb k0 j) aA (tL k0 hj)) ?_
   refine gJ [2,3] (by first|exact .inl rfl|exact .inr rfl) rfl rfl rfl _ _ aF aC (⟨bo,co,tlo,rows,E,pv,q,c,by rw [hr],hco,hs,hfull,hp,by rw [hr],rfl⟩)
 ·obtain rfl:j=C:=by omega
  repeat (first|(refine aB ?_)|(refine bN ?_;apply bJ;exact eX;exact rfl;exact aA;exact AtsZ.app (AtsZ.r iH);exact rfl;exact rfl))
  repeat refine aB ?_
  refine gJ [2,3] (by first|exact .inl rfl|exact .inr rfl) rfl rfl rfl _ _ aF aC (⟨bo,co,tlo,rows,E,pv,q,c,by rw [hr],hco,hs,hred,hp,by rw [hr],rfl⟩)
theorem aJU {a:MX} {R C k0:Nat} (hb:kb k0 C≤20000000000) (hR:1≤R∧R≤100) (hC:1≤C∧C≤100) (da:a.dim R C) (ha:gI a k0∈I0):CD Tryz.prog 142 [mv a] X w0 M0 I0 (rEchP a.q R C (kb k0 C) M0 I0):=by
 refine CD.post (aXP hb hR hC da ha) (fun v M I w h hw=>?_)
 obtain ⟨bo,co,tlo,rows,E,pv,q,c,rfl,hco,hs,hred,hp,rfl,rfl⟩:=h
 obtain ⟨hdE,_⟩:=iQ (aIR da) C (Nat.le_refl _)
 rw [hred] at hdE
 obtain ⟨hq,hd⟩:=q_xs (bo:=bo) (co:=co) hs hp
 have h1:Mem X w0 (.blk bo (recs eS rows++tlo) 70::(rows.map iW++M0)) (pvI q pv::iG rows (kb k0 C)::I0) w:=hw.freezeR .here
 have h2:=aKV (co:=co) (k:=kb k0 C) h1 (fun r hr=>by have:=hs.col r hr;omega) (by have:=hs.len;omega) (List.Mem.tail _ (List.Mem.head _))
 refine ⟨M0,pvI q pv::gI (MS.x bo co rows) (kb k0 C)::I0,⟨rfl,MS.x bo co rows,pv,q,c,?_,by rw [hq,←aZK hdE];exact hred,hd,rfl⟩,h2.inc (.of fun φ hφ=>?_)⟩
 ·have e1:=hd.1
  show _=Value.tuple #[.slice (MS.x bo co rows).p (MS.x bo co rows).rows.length (MS.x bo co rows).c,_]
  rw [e1];rfl
 ·rcases List.mem_cons.1 hφ with rfl|hφ
  ·exact List.Mem.tail _ (List.Mem.head _)
  ·rcases List.mem_cons.1 hφ with rfl|hφ
   ·exact List.Mem.head _
   ·exact List.Mem.tail _ (List.Mem.tail _ (List.Mem.tail _ hφ))
theorem aXC {a:MX} {R C k0:Nat} (hb:kb k0 C≤20000000000) (hR:1≤R∧R≤100) (hC:1≤C∧C≤100) (da:a.dim R C) (ha:gI a k0∈I0):CD Tryz.prog 72 [mv a] X w0 M0 I0 (fun v M I=>M0=M∧I0=I∧v= .int .i64 ((rk a.q C:Nat):Int)):=by
 have hE:=fun M0 I0 h=>aJU (X:=X) (w0:=w0) (M0:=M0) (I0:=I0) (a:=a) (k0:=k0) hb hR hC da h
 refine aR Tryz.func72 rfl Tryz.ntmps72 rfl ?_
 repeat refine aB ?_
 (refine bD rfl (hE _ _ aA) ?_;rintro _ _ _ ⟨rfl,m,pv,q,c,rfl,hm,hd,rfl⟩;refine aN ?_)
 repeat refine aB ?_
 refine aU (by first|exact .inl rfl|exact .inr rfl) rfl rfl _ _ aF aC (⟨rfl,rfl,by unfold rk;rw [hm]⟩)
end
def unL (n i:Nat):List Rat:=(List.range n).map (oF i)
def rw1 (A:Mt) (C i:Nat) (z:Nat→Rat):Rat:=sm C (fun j=>at2 A i j*z j)
def ctl (R C:Nat) (A:Mt) (i:Nat):Prop:=¬aJD R C A (unL R i)
instance (R C:Nat) (A:Mt) (i:Nat):Decidable (ctl R C A i):=by unfold ctl;exact inferInstance
/- rows left out -/
def rowsM (A:Mt) (ix:List Nat):Mt:=ix.map (rowAt A)
def restI (R:Nat) (set:List Int):List Nat:=(List.range R).filter (fun i=>decide ((i:Int) ∉ set))
def und (R C:Nat) (A:Mt) (set:List Int):Prop:=rk (rowsM A (restI R set)) C < rk A C
instance (R C:Nat) (A:Mt) (set:List Int):Decidable (und R C A set):=by unfold und;exact inferInstance
/- the transposed matrix -/
def trM (R C:Nat) (A:Mt):Mt:=xE C R (fun i j=>at2 A j i)
/- certificates -/
/- weights: the normal matrix has the kernel of the design matrix -/
theorem sq_nn (x:Rat):0≤x*x:=by
 rcases Rat.le_total (a:=0) (b:=x) with h|h
 ·exact Rat.mul_nonneg h h
 ·have h2:0≤ -x:=by grind
  have:=Rat.mul_nonneg h2 h2
  grind
def aNT (R C:Nat) (A:Mt) (p:Nat→Rat):Mt:=xE C C (fun i j=>sm R (fun k=>p k*at2 A k i*at2 A k j))
theorem sm_nn {n:Nat} {f:Nat→Rat} (h:∀i,i < n→0≤f i):0≤sm n f∧(sm n f=0→∀i,i < n→f i=0):=by
 induction n with
 |zero=>exact ⟨(by show (0:Rat)≤0;decide),fun _ i hi=>by omega⟩
 |succ n ih=>
  obtain ⟨h1,h2⟩:=ih (fun i hi=>h i (by omega))
  have h3:=h n (by omega)
  have e:sm (n+1) f=sm n f+f n:=rfl
  rw [e]
  refine ⟨by grind,fun h0 i hi=>?_⟩
  have h4:sm n f=0:=by grind
  have h5:f n=0:=by grind
  by_cases e:i=n
  ·rw [e];exact h5
  ·exact h2 h4 i (by omega)
theorem aQV {R C:Nat} {A:Mt} {p:Nat→Rat} (hp:∀k,k < R→0 < p k) (z:Nat→Rat):Go.Proofs.YtmmmfphealhapaaGreat.ker C C (at2 (aNT R C A p)) z↔Go.Proofs.YtmmmfphealhapaaGreat.ker R C (at2 A) z:=by
 have e:∀i,i < C→sm C (fun j=>at2 (aNT R C A p) i j*z j)=sm R (fun k=>p k*at2 A k i*rw1 A C k z):=fun i hi=>by
  rw [aZ (g:=fun j=>sm R (fun k=>p k*at2 A k i*(at2 A k j*z j))) (fun j hj=>by
   unfold aNT;rw [qY hi hj]
   have:∀s:Rat,s*z j=z j*s:=fun s=>by grind
   rw [this,←jK];exact aZ (fun k _=>by grind)),sV]
  exact aZ (fun k _=>by rw [jK];rfl)
 constructor
 ·intro h
  have h1:sm R (fun k=>p k*(rw1 A C k z*rw1 A C k z))=0:=by
   have h2:sm C (fun i=>z i*sm R (fun k=>p k*at2 A k i*rw1 A C k z))=0:=lV (fun i hi=>by rw [←e i hi,h i hi];grind)
   rw [aZ (g:=fun i=>sm R (fun k=>(p k*rw1 A C k z)*(at2 A k i*z i))) (fun i _=>by rw [←jK];exact aZ (fun k _=>by grind)),sV] at h2
   rw [←h2]
   exact aZ (fun k _=>by rw [jK];unfold rw1;grind)
  have h3:=(sm_nn (f:=fun k=>p k*(rw1 A C k z*rw1 A C k z)) (fun k hk=>Rat.mul_nonneg (Rat.le_of_lt (hp k hk)) (sq_nn _))).2 h1
  intro k hk
  have h4:=h3 k hk
  have h5:=hp k hk
  show rw1 A C k z=0
  rcases Rat.mul_eq_zero.1 h4 with h|h
  ·grind
  ·rcases Rat.mul_eq_zero.1 h with h|h <;>exact h
 ·intro h i hi
  rw [e i hi]
  exact lV (fun k hk=>by have:rw1 A C k z=0:=h k hk;rw [this];grind)
theorem bEP {R C:Nat} {A:Mt} (hA:qM A R C) {p:Nat→Rat} (hp:∀k,k < R→0 < p k):rk (aNT R C A p) C=rk A C:=by
 obtain ⟨_,s,hr⟩:=iQ hA C (Nat.le_refl _)
 obtain ⟨_,s',hr'⟩:=iQ (A:=aNT R C A p) (R:=C) (C:=C) aSF C (Nat.le_refl _)
 exact Nat.le_antisymm (hr'.le hr (fun z hz=>(aQV hp z).2 hz)) (hr.le hr' (fun z hz=>(aQV hp z).1 hz))
/- the document's inverse: the pivots of the matrix with the unit matrix beside -/
theorem aPC {A:Mt} {R C:Nat} (hA:qM A R C):rk A C≤C:=by
 obtain ⟨_,s,hr⟩:=iQ hA C (Nat.le_refl _)
 have:=hr.free_len
 unfold rk
 omega
theorem aMF {A:Mt} {C:Nat} (hA:qM A C C):rk A C=C↔dt C (at2 A)≠0:=by
 obtain ⟨_,s,hr⟩:=iQ hA C (Nat.le_refl _)
 exact hr.iff (Nat.le_refl _)
theorem aRA {R C:Nat} {A:Mt}:qM (nrN R C A) C C:=aSF
theorem aYJ {R C:Nat} {A:Mt} (hA:qM A R C):rk (nrN R C A) C=rk A C:=by
 have e:nrN R C A=aNT R C A (fun _=>1):=by
  unfold nrN aNT
  congr 1
  funext i j
  exact aZ (fun t _=>by rw [Rat.one_mul])
 rw [e]
 exact bEP hA (fun _ _=>by decide)
theorem bCM {C:Nat} {a b:List Rat} (ha:a.length=C) (hb:b.length=C) (h:∀i,i < C→a.getD i 0=b.getD i 0):a=b:=by
 apply List.ext_getElem (by rw [ha,hb])
 intro i h1 h2
 have:=h i (by omega)
 simpa [List.getD,h1,h2] using this
theorem solLn {R C:Nat} {A:Mt} {b:List Rat}:(aCT R C A b).length=C:=by simp [aCT]
theorem bCI {C:Nat} {A:Mt} {b:List Rat} (hA:qM A C C) (h:rk A C=C):dt C (at2 (nrN C C A))≠0∧aJD C C A b∧aCT C C A b=lsX C C A b:=by
 have hn:dt C (at2 (nrN C C A))≠0:=(aMF aRA).1 (by rw [aYJ hA];exact h)
 have hd:dt C (at2 A)≠0:=(aMF hA).1 h
 have hs:aJD C C A b:=aXL.2 ⟨fun j=>sm C (fun t=>at2 (aEJ C A) j t*b.getD t 0),fun i hi=>by
  rw [←aLU (f:=at2 A) (g:=at2 (aEJ C A)) (x:=fun t=>b.getD t 0)]
  rw [aZ (g:=fun j=>oF i j*b.getD j 0) (fun j hj=>by rw [(aRO hd).1 i j hi hj])]
  exact aVU hi⟩
 refine ⟨hn,hs,bCM solLn bCE (fun i hi=>?_)⟩
 exact bFB (b:=b) (x:=fun j=>(aCT C C A b).getD j 0) hn (aSV (fun t ht=>aRH hs t ht)) i hi
theorem aRF {k:Nat} {l:List Q4} (hl:2*l.length=lG k):qM (sP k l) (lG k) (lG k):=by
 have:=aRG (k:=k) (l:=l)
 rw [hl] at this
 exact this
theorem aRD {k:Nat} {l:List Q4} (hl:2*l.length=lG k):if rk (sP k l) (lG k) < lG k then aCV k l=0 else aCV k l≠0∧aJD (lG k) (lG k) (sP k l) (zV k l)∧aCT (lG k) (lG k) (sP k l) (zV k l)=rG k l:=by
 have hA:=aRF hl
 have hle:=aPC hA
 have e1:aCV k l=dt (lG k) (at2 (nrN (lG k) (lG k) (sP k l))):=by unfold aCV;rw [hl]
 have e2:rG k l=lsX (lG k) (lG k) (sP k l) (zV k l):=by unfold rG;rw [hl]
 rw [e1,e2]
 split
 ·rename_i h
  by_cases h0:dt (lG k) (at2 (nrN (lG k) (lG k) (sP k l)))=0
  ·exact h0
  ·have:=(aMF (A:=nrN (lG k) (lG k) (sP k l)) aRA).2 h0
   rw [aYJ hA] at this
   omega
 ·exact bCI hA (by omega)
theorem aVS {k:Nat} {l:List Q4} (hl:2*l.length=lG k) (h:aCV k l≠0):∀i,i < lG k→sm (lG k) (fun j=>at2 (sP k l) i j*(rG k l).getD j 0)=(zV k l).getD i 0:=by
 have hf:=aRD hl
 split at hf
 ·exact absurd hf h
 ·intro i hi
  rw [←hf.2.2]
  exact aRH hf.2.1 i hi
theorem bBA {k:Nat} {l:List Q4} (hl:2*l.length=lG k) (h:aCV k l≠0) {t:Nat} (ht:t < l.length):tQ (zA k (rG k l)) (gt l (t:Int))=0:=by
 have h1:=aVS hl h (2*t) (by omega)
 have h2:=aVS hl h (2*t+1) (by omega)
 have hA:=aDN (k:=k) ht
 have hB:=aQF (k:=k) ht
 rw [hB.1] at h1
 rw [hB.2] at h2
 unfold tQ
 rw [(aQS (k:=k) (x:=rG k l) (s:=gt l (t:Int))).1,(aQS (k:=k) (x:=rG k l) (s:=gt l (t:Int))).2]
 have e1:sm (lG k) (fun j=>at2 (sP k l) (2*t) j*(rG k l).getD j 0)=sm (lG k) (fun j=>(cz (dr1 k (gt l (t:Int)))).getD j 0*(rG k l).getD j 0):=aZ (fun j _=>by unfold at2;rw [hA.1])
 have e2:sm (lG k) (fun j=>at2 (sP k l) (2*t+1) j*(rG k l).getD j 0)=sm (lG k) (fun j=>(cz (dr2 k (gt l (t:Int)))).getD j 0*(rG k l).getD j 0):=aZ (fun j _=>by unfold at2;rw [hA.2])
 rw [←e1,←e2,h1,h2]
 grind
section
variable {X:List Nat} {w0:World} {M0 M1:List Ent} {I0:List aL}
theorem aAA (l:List Int) (x:Int):cz (l++[x])=cz l++[(x:Rat)]:=by simp [cz]
theorem xX {r:Int} {q:Option Addr} {xs:List Int} {n c pa pb:Nat} {qa qb:Option Addr} {ca cb u:Nat} {rows:List RL} {bs:List RE} (hl:xs.length=n) (hn:n≤100) (hlr:rows.length≤1000∧bs.length≤1000)
  (hb:∀x∈xs,(-9223372036854775808≤x∧x≤9223372036854775807)∧x.natAbs≤2 ^ u) (hr:(-9223372036854775808≤r∧r≤9223372036854775807)∧r.natAbs≤2 ^ u) (hq:aI q (recs eZ xs)∈I0) (ha:dX rows u∈I0) (hbb:aP bs u∈I0):
  CD Tryz.prog 247 [.int .i64 r, .slice q n c, .pointer (some ⟨pa,0,none⟩), .pointer (some ⟨pb,0,none⟩)] X w0
   (.row qa rows.length ca (recs eL rows) 70 1:: .row qb bs.length cb (recs eR bs) 77 4:: .blk pb [.slice qb bs.length cb] 70:: .blk pa [.slice qa rows.length ca] 34::M1) I0
   (fun _ M I=>∃(qa' qb':Option Addr) (ca' cb':Nat) (x:RL) (e:RE),x.q=cz xs∧e.q=(r:Rat)∧
    M= .row qa' (rows++[x]).length ca' (recs eL (rows++[x])) 70 1:: .row qb' (bs++[e]).length cb' (recs eR (bs++[e])) 77 4:: .blk pb [.slice qb' (bs++[e]).length cb'] 70:: .blk pa [.slice qa' (rows++[x]).length ca'] 34::M1∧I=dX (rows++[x]) u::aP (bs++[e]) u::I0):=by
 refine aV (φ:=aI q (recs eZ xs)) (Hv.mem hq) (aV (φ:=dX rows u) (Hv.mem (List.mem_cons_of_mem _ ha)) (aV (φ:=aP bs u) (Hv.mem (List.mem_cons_of_mem _ (List.mem_cons_of_mem _ hbb))) ?_))
 have hWr:=fun M0 I0=>jL (X:=X) (w0:=w0) (M0:=M0) (I0:=I0) (x:=r) hr.1 (k:=u) hr.2
 refine zW Tryz.func247 rfl Tryz.ntmps247 rfl ?_
 repeat refine aB ?_
 refine gZ 77 4 ?_
 refine bG (φ:=aP [] u) Hv.nilR ?_
 refine lX [0,2,3,9,10] rfl (fun k G M I=>∃(i:Nat) (es:List RE) (qe:Option Addr) (ce:Nat),i≤n∧k=n - i∧es.length=i∧qs es=cz (xs.take i)∧G=[(6, .slice qe es.length ce),(11, .int .i64 i)]∧M= .row qe es.length ce (recs eR es) 77 4:: .row qa rows.length ca (recs eL rows) 70 1:: .row qb bs.length cb (recs eR bs) 77 4:: .blk pb [.slice qb bs.length cb] 70:: .blk pa [.slice qa rows.length ca] 34::M1∧I=aP es u::aP bs u::dX rows u::aI q (recs eZ xs)::I0) (n) (⟨0,[],none,0,by omega,rfl,rfl,rfl,rfl,rfl,rfl⟩) ?_
 rintro kk G M I ⟨i,es,qe,ce,hi,rfl,hel,heq,rfl,rfl,rfl⟩
 by_cases hin:i < n
 ·have hx:=hb _ (bF (ms:=xs) (i:=(i:Int)) (by omega))
  obtain ⟨x,hxx⟩:∃x,gt xs (i:Int)=x:=⟨_,rfl⟩
  rw [hxx] at hx
  have hW:=fun M0 I0=>jL (X:=X) (w0:=w0) (M0:=M0) (I0:=I0) (x:=x) hx.1 (k:=u) hx.2
  have ht:xs.take (i+1)=xs.take i++[x]:=by rw [←hxx,fH (by omega)];exact (List.take_append_getElem (by omega)).symm
  repeat refine aB ?_
  rw [hxx]
  refine fK rfl (hW _ _) (fun e he=>?_)
  refine gK (cs:=recs eR [e]) ([rv e]) rfl (fun b=>?_)
  refine wM (ys:=[e]) 1 rfl rfl rfl (fun q2 c3=>?_)
  repeat refine aB ?_
  refine dF (φ:=aP (es++[e]) u) (Hv.snoc aA aA) ?_
  refine gL (n - (i+1)) (⟨i+1,es++[e],q2,c3,by omega,rfl,by simp [hel],?_,rfl,rfl,rfl⟩)
  rw [ht,aAA,←heq]
  show (es++[e]).map RE.q=qs es++[(x:Rat)]
  rw [List.map_append,←he]
  rfl
 ·obtain rfl:i=n:=by omega
  rw [←hl,List.take_length] at heq
  repeat refine aB ?_
  refine aJT (k:=u) aA ?_
  (repeat refine aG ?_);refine nV 5 (.blk pb [.slice qb bs.length cb] 70:: .blk pa [.slice qa rows.length ca] 34::M1) (iN ⟨qe,ce,es⟩ u::aP bs u::dX rows u::aI q (recs eZ xs)::I0) [0,1,4,5,2,3,6,7,8,9,10] [4,4,5,5,0,0,0,0,0,0,0] aF aC mixed (by kernel_rfl) ?_
  repeat refine aB ?_
  refine gK (cs:=recs eL [⟨qe,ce,es⟩]) ([lv ⟨qe,ce,es⟩]) rfl (fun b7=>?_)
  refine wM (ys:=[⟨qe,ce,es⟩]) 1 rfl rfl rfl (fun qa2 ca2=>?_)
  refine fK rfl (hWr _ _) (fun e he=>?_)
  refine gK (cs:=recs eR [e]) ([rv e]) rfl (fun b8=>?_)
  refine wM (ys:=[e]) 3 rfl rfl rfl (fun qb2 cb2=>?_)
  repeat refine aB ?_
  refine dF (φ:=aP (bs++[e]) u) (Hv.snoc aA aA) ?_
  refine dF (φ:=dX (rows++[(⟨qe,ce,es⟩:RL)]) u) (Hv.snocL aA aA) ?_
  refine jH (by first|exact .inl rfl|exact .inr rfl) rfl _ _ aF aC (⟨qa2,qb2,ca2,cb2,⟨qe,ce,es⟩,e,heq,he,rfl,rfl⟩)
theorem uO {k:Nat} {l:List Q4} {s:Q4}:sP k (l++[s])=sP k l++[cz (dr1 k s),cz (dr2 k s)]:=by simp [sP]
theorem uY {k:Nat} {l:List Q4} {s:Q4}:zV k (l++[s])=zV k l++[(db1 k s:Rat),(db2 k s:Rat)]:=by simp [zV]
theorem e16:2 ^ 16=65536:=rfl
theorem aSI {kd:Nat} {q:Option Addr} {l:List Q4} {n c:Nat} (hk:kd≤2) (hl:l.length=n) (hn:n≤64) (hs:∀s∈l,s.near) (hq:aI q (recs gX l)∈I0):
  CD Tryz.prog 186 [.int .i64 (kd:Int), .slice q n c] X w0 M0 I0 (fun v M I=>M0=M∧∃(A:MX) (b:RL),v= .tuple #[mv A,lv b]∧A.q=sP kd l∧b.q=zV kd l∧I=iN b 16::gI A 16::I0):=by
 refine aV (φ:=aI q (recs gX l)) (Hv.mem hq) ?_
 refine aM Tryz.func186 rfl Tryz.ntmps186 rfl ?_
 refine gG ?_
 refine cK (fun pa=>?_)
 refine cK (fun pb=>?_)
 repeat refine aB ?_
 refine gZ 77 4 ?_
 refine gZ 70 1 ?_
 refine bG (φ:=aP [] 16) Hv.nilR ?_
 refine bG (φ:=dX [] 16) Hv.nilL ?_
 refine lX [0,4,5,6,14,15] rfl (fun k G M I=>∃(i:Nat) (rows:List RL) (bs:List RE) (qa qb:Option Addr) (ca cb:Nat),i≤n∧k=n - i∧rows.map RL.q=sP kd (l.take i)∧qs bs=zV kd (l.take i)∧G=[(16, .int .i64 i)]∧M= .row qa rows.length ca (recs eL rows) 70 1:: .row qb bs.length cb (recs eR bs) 77 4:: .blk pb [.slice qb bs.length cb] 70:: .blk pa [.slice qa rows.length ca] 34::M0∧I=dX rows 16::aP bs 16::aI q (recs gX l)::I0) (n) (⟨0,[],[],none,none,0,0,by omega,rfl,rfl,rfl,rfl,rfl,rfl⟩) ?_
 rintro kk G M I ⟨i,rows,bs,qa,qb,ca,cb,hi,rfl,hrq,hbq,rfl,rfl,rfl⟩
 have hlr:rows.length=2*i:=by have:=congrArg List.length hrq;rw [List.length_map,yA,List.length_take] at this;omega
 have hlb:bs.length=2*i:=by have:=congrArg List.length hbq;rw [show (qs bs).length=bs.length from List.length_map ..,wD,List.length_take] at this;omega
 by_cases hin:i < n
 ·have hmem:=bF (ms:=l) (i:=(i:Int)) (by omega)
  have ht:l.take (i+1)=l.take i++[gt l (i:Int)]:=by rw [gtQ (by omega)];exact (List.take_append_getElem (by omega)).symm
  obtain ⟨s,hss⟩:∃s,gt l (i:Int)=s:=⟨_,rfl⟩
  rw [hss] at hmem ht
  obtain ⟨n1,n2,n3,n4⟩:=hs s hmem
  repeat refine aB ?_
  rw [hss]
  refine cK (fun b8=>?_)
  repeat refine aB ?_
  (repeat refine aG ?_);refine eO [0,1,2,3,4,5,6,7,8,9,10,11,12,13,14,15] [0,0,0,0,0,0,0,0,0,0,0,0,0,0,0,0] mixed (by kernel_rfl) ?_
  repeat refine aB ?_
  rcases (show kd=0∨kd=1∨kd=2 by omega) with h0|h0|h0
  ·obtain rfl:kd=0:=by omega
   have hr1:(-9223372036854775808≤s.u - s.x∧s.u - s.x≤9223372036854775807)∧(s.u - s.x).natAbs≤2 ^ 16:=by rw [e16];omega
   have hr2:(-9223372036854775808≤s.v - s.y∧s.v - s.y≤9223372036854775807)∧(s.v - s.y).natAbs≤2 ^ 16:=by rw [e16];omega
   have hx1:∀z∈[1,0],(-9223372036854775808≤z∧z≤9223372036854775807)∧z.natAbs≤2 ^ 16:=by rw [e16];intro z hz;simp only [List.mem_cons,List.not_mem_nil,or_false] at hz;omega
   have hx2:∀z∈[0,1],(-9223372036854775808≤z∧z≤9223372036854775807)∧z.natAbs≤2 ^ 16:=by rw [e16];intro z hz;simp only [List.mem_cons,List.not_mem_nil,or_false] at hz;omega
   repeat refine aB ?_
   refine gK (cs:=recs eZ [1,0]) ([.int .i64 (1), .int .i64 (0)]) rfl (fun b9=>?_)
   refine aH .here ?_
   refine wO (M':= .row qa rows.length ca (recs eL rows) 70 1:: .row qb bs.length cb (recs eR bs) 77 4:: .blk pb [.slice qb bs.length cb] 70:: .blk pa [.slice qa rows.length ca] 34::M0) (I':=aI (some ⟨b9,0,none⟩) (recs eZ [1,0])::dX rows 16::aP bs 16::aI q (recs gX l)::I0) aF aC ?_
   (refine dJ rfl rfl (xX (u:=16) (q:=some ⟨b9,0,none⟩) (xs:=[1,0]) (n:=2) (c:=2) (rows:=rows) (bs:=bs) (r:=s.u - s.x) rfl (by omega) ⟨by omega,by omega⟩ hx1 hr1 aA aA aA) rfl rfl rfl ?_;rintro _ _ _ ⟨qa1,qb1,ca1,cb1,x1,y1,hxq1,hyq1,rfl,rfl⟩;refine aN ?_)
   repeat refine aB ?_
   refine gK (cs:=recs eZ [0,1]) ([.int .i64 (0), .int .i64 (1)]) rfl (fun b10=>?_)
   refine aH .here ?_
   refine wO (M':= .row qa1 (rows++[x1]).length ca1 (recs eL (rows++[x1])) 70 1:: .row qb1 (bs++[y1]).length cb1 (recs eR (bs++[y1])) 77 4:: .blk pb [.slice qb1 (bs++[y1]).length cb1] 70:: .blk pa [.slice qa1 (rows++[x1]).length ca1] 34::M0) (I':=aI (some ⟨b10,0,none⟩) (recs eZ [0,1])::dX (rows++[x1]) 16::aP (bs++[y1]) 16::aI q (recs gX l)::I0) aF aC ?_
   (refine dJ rfl rfl (xX (u:=16) (q:=some ⟨b10,0,none⟩) (xs:=[0,1]) (n:=2) (c:=2) (rows:=rows++[x1]) (bs:=bs++[y1]) (r:=s.v - s.y) rfl (by omega) ⟨by simp;omega,by simp;omega⟩ hx2 hr2 aA aA aA) rfl rfl rfl ?_;rintro _ _ _ ⟨qa2,qb2,ca2,cb2,x2,y2,hxq2,hyq2,rfl,rfl⟩;refine aN ?_)
   repeat refine aB ?_
   refine gL (n - (i+1)) (⟨i+1,rows++[x1]++[x2],bs++[y1]++[y2],qa2,qb2,ca2,cb2,by omega,rfl,by rw [ht,uO,←hrq,List.map_append,List.map_append,List.append_assoc];show _++[x1.q,x2.q]=_;rw [hxq1,hxq2];rfl,by rw [ht,uY,←hbq];show (bs++[y1]++[y2]).map RE.q=_;rw [List.map_append,List.map_append,List.append_assoc];show _++[y1.q,y2.q]=_;rw [hyq1,hyq2];rfl,rfl,rfl,rfl⟩)
  ·obtain rfl:kd=1:=by omega
   have hr1:(-9223372036854775808≤s.u∧s.u≤9223372036854775807)∧(s.u).natAbs≤2 ^ 16:=by rw [e16];omega
   have hr2:(-9223372036854775808≤s.v∧s.v≤9223372036854775807)∧(s.v).natAbs≤2 ^ 16:=by rw [e16];omega
   have hx1:∀z∈[s.x, -s.y,1,0],(-9223372036854775808≤z∧z≤9223372036854775807)∧z.natAbs≤2 ^ 16:=by rw [e16];intro z hz;simp only [List.mem_cons,List.not_mem_nil,or_false] at hz;omega
   have hx2:∀z∈[s.y,s.x,0,1],(-9223372036854775808≤z∧z≤9223372036854775807)∧z.natAbs≤2 ^ 16:=by rw [e16];intro z hz;simp only [List.mem_cons,List.not_mem_nil,or_false] at hz;omega
   repeat refine aB ?_
   rw [Int.zero_sub]
   refine gK (cs:=recs eZ [s.x, -s.y,1,0]) ([.int .i64 (s.x), .int .i64 (-s.y), .int .i64 (1), .int .i64 (0)]) rfl (fun b9=>?_)
   refine aH .here ?_
   refine wO (M':= .row qa rows.length ca (recs eL rows) 70 1:: .row qb bs.length cb (recs eR bs) 77 4:: .blk pb [.slice qb bs.length cb] 70:: .blk pa [.slice qa rows.length ca] 34::M0) (I':=aI (some ⟨b9,0,none⟩) (recs eZ [s.x, -s.y,1,0])::dX rows 16::aP bs 16::aI q (recs gX l)::I0) aF aC ?_
   (refine dJ rfl rfl (xX (u:=16) (q:=some ⟨b9,0,none⟩) (xs:=[s.x, -s.y,1,0]) (n:=4) (c:=4) (rows:=rows) (bs:=bs) (r:=s.u) rfl (by omega) ⟨by omega,by omega⟩ hx1 hr1 aA aA aA) rfl rfl rfl ?_;rintro _ _ _ ⟨qa1,qb1,ca1,cb1,x1,y1,hxq1,hyq1,rfl,rfl⟩;refine aN ?_)
   repeat refine aB ?_
   refine gK (cs:=recs eZ [s.y,s.x,0,1]) ([.int .i64 (s.y), .int .i64 (s.x), .int .i64 (0), .int .i64 (1)]) rfl (fun b10=>?_)
   refine aH .here ?_
   refine wO (M':= .row qa1 (rows++[x1]).length ca1 (recs eL (rows++[x1])) 70 1:: .row qb1 (bs++[y1]).length cb1 (recs eR (bs++[y1])) 77 4:: .blk pb [.slice qb1 (bs++[y1]).length cb1] 70:: .blk pa [.slice qa1 (rows++[x1]).length ca1] 34::M0) (I':=aI (some ⟨b10,0,none⟩) (recs eZ [s.y,s.x,0,1])::dX (rows++[x1]) 16::aP (bs++[y1]) 16::aI q (recs gX l)::I0) aF aC ?_
   (refine dJ rfl rfl (xX (u:=16) (q:=some ⟨b10,0,none⟩) (xs:=[s.y,s.x,0,1]) (n:=4) (c:=4) (rows:=rows++[x1]) (bs:=bs++[y1]) (r:=s.v) rfl (by omega) ⟨by simp;omega,by simp;omega⟩ hx2 hr2 aA aA aA) rfl rfl rfl ?_;rintro _ _ _ ⟨qa2,qb2,ca2,cb2,x2,y2,hxq2,hyq2,rfl,rfl⟩;refine aN ?_)
   repeat refine aB ?_
   refine gL (n - (i+1)) (⟨i+1,rows++[x1]++[x2],bs++[y1]++[y2],qa2,qb2,ca2,cb2,by omega,rfl,by rw [ht,uO,←hrq,List.map_append,List.map_append,List.append_assoc];show _++[x1.q,x2.q]=_;rw [hxq1,hxq2];rfl,by rw [ht,uY,←hbq];show (bs++[y1]++[y2]).map RE.q=_;rw [List.map_append,List.map_append,List.append_assoc];show _++[y1.q,y2.q]=_;rw [hyq1,hyq2];rfl,rfl,rfl,rfl⟩)
  ·obtain rfl:kd=2:=by omega
   have hr1:(-9223372036854775808≤s.u∧s.u≤9223372036854775807)∧(s.u).natAbs≤2 ^ 16:=by rw [e16];omega
   have hr2:(-9223372036854775808≤s.v∧s.v≤9223372036854775807)∧(s.v).natAbs≤2 ^ 16:=by rw [e16];omega
   have hx1:∀z∈[s.x,s.y,1,0,0,0],(-9223372036854775808≤z∧z≤9223372036854775807)∧z.natAbs≤2 ^ 16:=by rw [e16];intro z hz;simp only [List.mem_cons,List.not_mem_nil,or_false] at hz;omega
   have hx2:∀z∈[0,0,0,s.x,s.y,1],(-9223372036854775808≤z∧z≤9223372036854775807)∧z.natAbs≤2 ^ 16:=by rw [e16];intro z hz;simp only [List.mem_cons,List.not_mem_nil,or_false] at hz;omega
   repeat refine aB ?_
   refine gK (cs:=recs eZ [s.x,s.y,1,0,0,0]) ([.int .i64 (s.x), .int .i64 (s.y), .int .i64 (1), .int .i64 (0), .int .i64 (0), .int .i64 (0)]) rfl (fun b9=>?_)
   refine aH .here ?_
   refine wO (M':= .row qa rows.length ca (recs eL rows) 70 1:: .row qb bs.length cb (recs eR bs) 77 4:: .blk pb [.slice qb bs.length cb] 70:: .blk pa [.slice qa rows.length ca] 34::M0) (I':=aI (some ⟨b9,0,none⟩) (recs eZ [s.x,s.y,1,0,0,0])::dX rows 16::aP bs 16::aI q (recs gX l)::I0) aF aC ?_
   (refine dJ rfl rfl (xX (u:=16) (q:=some ⟨b9,0,none⟩) (xs:=[s.x,s.y,1,0,0,0]) (n:=6) (c:=6) (rows:=rows) (bs:=bs) (r:=s.u) rfl (by omega) ⟨by omega,by omega⟩ hx1 hr1 aA aA aA) rfl rfl rfl ?_;rintro _ _ _ ⟨qa1,qb1,ca1,cb1,x1,y1,hxq1,hyq1,rfl,rfl⟩;refine aN ?_)
   repeat refine aB ?_
   refine gK (cs:=recs eZ [0,0,0,s.x,s.y,1]) ([.int .i64 (0), .int .i64 (0), .int .i64 (0), .int .i64 (s.x), .int .i64 (s.y), .int .i64 (1)]) rfl (fun b10=>?_)
   refine aH .here ?_
   refine wO (M':= .row qa1 (rows++[x1]).length ca1 (recs eL (rows++[x1])) 70 1:: .row qb1 (bs++[y1]).length cb1 (recs eR (bs++[y1])) 77 4:: .blk pb [.slice qb1 (bs++[y1]).length cb1] 70:: .blk pa [.slice qa1 (rows++[x1]).length ca1] 34::M0) (I':=aI (some ⟨b10,0,none⟩) (recs eZ [0,0,0,s.x,s.y,1])::dX (rows++[x1]) 16::aP (bs++[y1]) 16::aI q (recs gX l)::I0) aF aC ?_
   (refine dJ rfl rfl (xX (u:=16) (q:=some ⟨b10,0,none⟩) (xs:=[0,0,0,s.x,s.y,1]) (n:=6) (c:=6) (rows:=rows++[x1]) (bs:=bs++[y1]) (r:=s.v) rfl (by omega) ⟨by simp;omega,by simp;omega⟩ hx2 hr2 aA aA aA) rfl rfl rfl ?_;rintro _ _ _ ⟨qa2,qb2,ca2,cb2,x2,y2,hxq2,hyq2,rfl,rfl⟩;refine aN ?_)
   repeat refine aB ?_
   refine gL (n - (i+1)) (⟨i+1,rows++[x1]++[x2],bs++[y1]++[y2],qa2,qb2,ca2,cb2,by omega,rfl,by rw [ht,uO,←hrq,List.map_append,List.map_append,List.append_assoc];show _++[x1.q,x2.q]=_;rw [hxq1,hxq2];rfl,by rw [ht,uY,←hbq];show (bs++[y1]++[y2]).map RE.q=_;rw [List.map_append,List.map_append,List.append_assoc];show _++[y1.q,y2.q]=_;rw [hyq1,hyq2];rfl,rfl,rfl,rfl⟩)
 ·obtain rfl:i=n:=by omega
  rw [←hl,List.take_length] at hrq hbq
  repeat refine aB ?_
  (repeat refine aG ?_);refine nV 1 (.blk pb [.slice qb bs.length cb] 70::M0) (I0) [0,1,2,3] [0,1,0,0] aF aC mixed (by kernel_rfl) ?_
  repeat refine aB ?_
  refine aFF (k:=16) aA ?_
  refine aEK (k:=16) aA ?_
  refine dW (rs:=[.cell 4 34, .cell 5 70]) (vs:=[mv ⟨qa,ca,rows⟩,lv ⟨qb,cb,bs⟩]) (.inl rfl) rfl (.cell inferInstance rfl aA (.cell inferInstance rfl aA .nil)) rfl M0 (iN ⟨qb,cb,bs⟩ 16::gI ⟨qa,ca,rows⟩ 16::I0) aF aC ⟨rfl,⟨qa,ca,rows⟩,⟨qb,cb,bs⟩,rfl,hrq,hbq,rfl⟩
end
end Go.Proofs.YtmmmfphealhapaaGreat

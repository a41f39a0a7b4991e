/- Elimination, plain: what a step does to products, determinants, solutions; the reduced for -/
import Derived.Test.YthhldplegmeolaaGreatZuar
import Derived.Test.YthhldplegmeolaaGreatZuap
set_option linter.unusedSimpArgs false
set_option linter.unusedVariables false
set_option maxRecDepth 100000
set_option maxHeartbeats 4000000
namespace Go.Proofs.YthhldplegmeolaaGreat
def sQ (n:Nat) (f g:Nat→Nat→Rat):Nat→Nat→Rat:=fun i j=>sm n (fun k=>f i k*g k j)
def oD (i j:Nat):Rat:=if i=j then 1 else 0
theorem uN {n:Nat} {f f' g g':Nat→Nat→Rat} {i j:Nat} (h1:∀k,k < n→f i k=f' i k) (h2:∀k,k < n→g k j=g' k j):sQ n f g i j=sQ n f' g' i j:=bS (fun k hk=>by rw [h1 k hk,h2 k hk])
theorem aFE {n:Nat} {f:Nat→Nat→Rat} {i j:Nat} (hj:j < n):sQ n f oD i j=f i j:=by
 unfold sQ
 rw [rH hj (fun k _ hne=>by simp only [oD];rw [if_neg hne];grind)]
 simp only [oD,if_true];grind
theorem aRP (r k a:Nat):tr r k (tr r k a)=a:=by
 simp only [tr]
 repeat' split
 all_goals omega
theorem aII {n r k:Nat} {κ:Rat} {c:Nat→Rat} {f g:Nat→Nat→Rat}:sQ n (elm r k κ c f) g=elm r k κ c (sQ n f g):=by
 funext a b
 simp only [sQ,elm]
 by_cases e:a=r
 ·simp only [if_pos e]
  rw [←sm_mul]
  exact bS (fun i _=>by grind)
 ·simp only [if_neg e]
  have h1:∀i,(f (tr r k a) i - c a*(κ*f (tr r k r) i))*g i b=1*(f (tr r k a) i*g i b)+(- (c a*κ))*(f (tr r k r) i*g i b):=fun i=>by grind
  simp only [h1]
  rw [aGP];grind
def ker (R C:Nat) (f:Nat→Nat→Rat) (z:Nat→Rat):Prop:=∀i,i < R→sm C (fun j=>f i j*z j)=0
theorem aKA {R C:Nat} {f g:Nat→Nat→Rat} {z:Nat→Rat} (h:∀a b,a < R→b < C→f a b=g a b):ker R C f z↔ker R C g z:=by
 unfold ker
 constructor
 ·intro hk i hi;rw [←hk i hi];exact bS (fun j hj=>by rw [h i j hi hj])
 ·intro hk i hi;rw [←hk i hi];exact bS (fun j hj=>by rw [h i j hi hj])
theorem aPI {R C r k:Nat} {κ:Rat} {c:Nat→Rat} {f:Nat→Nat→Rat} {z:Nat→Rat} (hr:r < R) (hk:k < R) (hκ:κ≠0):ker R C (elm r k κ c f) z↔ker R C f z:=by
 obtain ⟨φ,hφ⟩:∃φ:Nat→Rat,φ=fun i=>sm C (fun j=>f i j*z j):=⟨_,rfl⟩
 have h1:∀a,sm C (fun j=>elm r k κ c f a j*z j)=if a=r then κ*φ (tr r k r) else φ (tr r k a) - c a*(κ*φ (tr r k r)):=fun a=>by
  have:=congrFun (congrFun (aII (n:=C) (r:=r) (k:=k) (κ:=κ) (c:=c) (f:=f) (g:=fun j _=>z j)) a) 0
  simp only [sQ] at this
  rw [this,hφ];rfl
 unfold ker
 constructor
 ·intro hz
  have h0:φ (tr r k r)=0:=by
   have:=hz r hr
   rw [h1,if_pos rfl] at this
   rcases Rat.mul_eq_zero.1 this with e|e
   ·exact absurd e hκ
   ·exact e
  intro i hi
  have hφi:sm C (fun j=>f i j*z j)=φ i:=by rw [hφ]
  rw [hφi]
  by_cases e:tr r k i=r
  ·have:i=tr r k r:=by have:=aRP r k i;rw [e] at this;exact this.symm
   rw [this];exact h0
  ·have:=hz (tr r k i) (zW hr hk hi)
   rw [h1,if_neg e,aRP,h0] at this
   grind
 ·intro hz i hi
  have hφ0:∀i,i < R→φ i=0:=fun i hi=>by rw [hφ];exact hz i hi
  rw [h1,hφ0 _ (zW hr hk hr),hφ0 _ (zW hr hk hi)]
  split <;>grind
structure Red (R C j:Nat) (f0 f:Nat→Nat→Rat) (pv:List Nat) (s:Rat):Prop where
 hs:s≠0
 det:∀m g,m≤C→dt R (sQ m f g)=s*dt R (sQ m f0 g)
 ker:∀z,ker R C f z↔ker R C f0 z
 len:pv.length≤R
 inc:∀t,t < pv.length→pv.getD t 0 < j∧t≤pv.getD t 0∧∀u,u < t→pv.getD u 0 < pv.getD t 0
 unit:∀t i,t < pv.length→i < R→f i (pv.getD t 0)=oD i t
 zero:∀i b,pv.length≤i→i < R→b < j→f i b=0
theorem Red.start {R C:Nat} {f:Nat→Nat→Rat}:Red R C 0 f f [] 1:=
 ⟨by decide,fun m g _=>by grind,fun z=>Iff.rfl,by simp,fun t ht=>by simp at ht,fun t i ht=>by simp at ht,fun i b _ _ hb=>by omega⟩
theorem Red.none {R C j:Nat} {f0 f:Nat→Nat→Rat} {pv:List Nat} {s:Rat} (h:Red R C j f0 f pv s) (hz:∀i,pv.length≤i→i < R→f i j=0):Red R C (j+1) f0 f pv s:=
 ⟨h.hs,h.det,h.ker,h.len,fun t ht=>⟨by have:=(h.inc t ht).1;omega,(h.inc t ht).2⟩,h.unit,fun i b hi hR hb=>by
  by_cases e:b=j
  ·subst e;exact hz i hi hR
  ·exact h.zero i b hi hR (by omega)⟩
theorem Red.step {R C j x:Nat} {f0 f f':Nat→Nat→Rat} {pv:List Nat} {s:Rat} (h:Red R C j f0 f pv s) (hj:j < C) (hx:pv.length≤x) (hxR:x < R) (hn:f x j≠0)
  (hf:∀a b,a < R→b < C→f' a b=elm pv.length x (1 / f x j) (fun a=>f (tr pv.length x a) j) f a b):Red R C (j+1) f0 f' (pv++[j]) (esg pv.length x*(1 / f x j)*s):=by
 obtain ⟨r,hr⟩:∃r,r=pv.length:=⟨_,rfl⟩
 rw [←hr] at hf hx ⊢
 obtain ⟨κ,hκ⟩:∃κ,κ=1 / f x j:=⟨_,rfl⟩
 have hκ1:κ*f x j=1:=by rw [hκ];grind
 have hκ0:κ≠0:=fun e=>by rw [e] at hκ1;grind
 rw [←hκ] at hf ⊢
 have hrR:r < R:=by omega
 have hes:esg r x≠0:=by unfold esg;split <;>decide
 have htr:tr r x r=x:=by simp [tr]
 have hf1:∀b,b < C→f' r b=κ*f x b:=fun b hb=>by rw [hf r b hrR hb];simp only [elm,if_true,htr]
 have hf2:∀a b,a < R→b < C→a≠r→f' a b=f (tr r x a) b - f (tr r x a) j*(κ*f x b):=fun a b ha hb hne=>by rw [hf a b ha hb];simp only [elm,if_neg hne,htr]
 have hcol:∀i,i < R→f' i j=oD i r:=fun i hi=>by
  by_cases e:i=r
  ·subst e;rw [hf1 j hj,hκ1];simp [oD]
  ·rw [hf2 i j hi hj e,hκ1];simp only [oD,if_neg e];grind
 have hxz:∀b,b < j→f x b=0:=fun b hb=>h.zero x b (by omega) hxR hb
 have hlow:∀i b,i < R→b < j→i≠r→f' i b=f (tr r x i) b:=fun i b hi hb hne=>by
  rw [hf2 i b hi (by omega) hne,hxz b hb];grind
 refine ⟨fun e=>?_,fun m g hm=>?_,fun z=>?_,?_,fun t ht=>?_,fun t i ht hi=>?_,fun i b hi hR hb=>?_⟩
 ·rcases Rat.mul_eq_zero.1 e with e|e
  ·rcases Rat.mul_eq_zero.1 e with e|e
   ·exact hes e
   ·exact hκ0 e
  ·exact h.hs e
 ·have h1:dt R (sQ m f' g)=dt R (sQ m (elm r x κ (fun a=>f (tr r x a) j) f) g):=jO (fun i k hi _=>uN (fun t ht=>hf i t hi (by omega)) (fun _ _=>rfl))
  rw [h1,aII,aST hrR hxR,h.det m g hm]
  grind
 ·exact (aKA hf).trans ((aPI hrR hxR hκ0).trans (h.ker z))
 ·simp;omega
 ·have hl:(pv++[j]).length=r+1:=by simp [hr]
  by_cases e:t=r
  ·subst e
   have e1:(pv++[j]).getD t 0=j:=by simp [List.getD,hr]
   rw [e1]
   refine ⟨by omega,?_,fun u hu=>?_⟩
   ·by_cases e0:t=0
    ·omega
    ·have:=h.inc (t - 1) (by omega);omega
   ·have e2:(pv++[j]).getD u 0=pv.getD u 0:=by simp [List.getD,List.getElem?_append_left (show u < pv.length by omega)]
    rw [e2];exact (h.inc u (by omega)).1
  ·have ht':t < pv.length:=by omega
   have e2:∀u,u≤t→(pv++[j]).getD u 0=pv.getD u 0:=fun u hu=>by simp [List.getD,List.getElem?_append_left (show u < pv.length by omega)]
   obtain ⟨a1,a2,a3⟩:=h.inc t ht'
   rw [e2 t (Nat.le_refl _)]
   exact ⟨by omega,a2,fun u hu=>by rw [e2 u (by omega)];exact a3 u hu⟩
 ·have hl:(pv++[j]).length=r+1:=by simp [hr]
  by_cases e:t=r
  ·subst e
   have e1:(pv++[j]).getD t 0=j:=by simp [List.getD,hr]
   rw [e1];exact hcol i hi
  ·have ht':t < pv.length:=by omega
   have e2:(pv++[j]).getD t 0=pv.getD t 0:=by simp [List.getD,List.getElem?_append_left ht']
   have hp:=(h.inc t ht').1
   rw [e2]
   by_cases er:i=r
   ·subst er
    rw [hf1 _ (by omega),hxz _ hp]
    simp only [oD,if_neg (fun e':i=t=>e e'.symm)];grind
   ·rw [hlow i _ hi hp er,h.unit t _ ht' (zW hrR hxR hi)]
    have:tr r x i=t↔i=t:=by
     simp only [tr,if_neg er]
     split <;>omega
    simp only [oD]
    by_cases e3:i=t
    ·rw [if_pos e3,if_pos (this.2 e3)]
    ·rw [if_neg e3,if_neg (fun e'=>e3 (this.1 e'))]
 ·have hl:(pv++[j]).length=r+1:=by simp [hr]
  rw [hl] at hi
  by_cases e:b=j
  ·subst e;rw [hcol i hR];simp only [oD,if_neg (show ¬i=r by omega)]
  ·rw [hlow i b hR (by omega) (by omega)]
   refine h.zero _ b ?_ (zW hrR hxR hR) (by omega)
   simp only [tr];rw [←hr]
   repeat' split
   all_goals omega
theorem Red.full {n C:Nat} {f0 f:Nat→Nat→Rat} {pv:List Nat} {s:Rat} (h:Red n C n f0 f pv s) (hl:pv.length=n):∀i t,i < n→t < n→f i t=oD i t:=by
 intro i t hi ht
 have hp:∀d t,t+d+1=n→pv.getD t 0=t:=by
  intro d
  induction d with
  |zero=>intro t he;have:=h.inc t (by omega);omega
  |succ d ih=>
   intro t he
   have h1:=ih (t+1) (by omega)
   have h2:=h.inc (t+1) (by omega)
   have h3:=h2.2.2 t (by omega)
   have h4:=h.inc t (by omega)
   omega
 have:=h.unit t i (by omega) hi
 rwa [hp (n - t - 1) t (by omega)] at this
theorem Red.short {n C:Nat} {f0 f:Nat→Nat→Rat} {pv:List Nat} {s:Rat} (h:Red n C n f0 f pv s) (hl:pv.length < n):∀t,t < n→f (n - 1) t=0:=fun t ht=>h.zero (n - 1) t (by omega) (by omega) ht
theorem aNX:∀{n:Nat},dt n oD=1
 |0=>rfl
 |n+1=>by
  rw [aLO (fun i hi _=>by simp only [oD];rw [if_neg (by omega)])]
  have:(fun i k=>oD (i+1) (k+1))=oD:=by funext i k;simp [oD]
  rw [this,aNX]
  simp only [oD,if_true];grind
theorem Red.dt {n C:Nat} {f0 f:Nat→Nat→Rat} {pv:List Nat} {s:Rat} (h:Red n C n f0 f pv s) (hC:n≤C):dt n f=s*dt n f0:=by
 have:=h.det n oD hC
 rwa [jO (fun i j _ hj=>aFE hj),jO (f:=sQ n f0 oD) (fun i j _ hj=>aFE hj)] at this
theorem Red.iff {n C:Nat} {f0 f:Nat→Nat→Rat} {pv:List Nat} {s:Rat} (h:Red n C n f0 f pv s) (hC:n≤C):pv.length=n↔Go.Proofs.YthhldplegmeolaaGreat.dt n f0≠0:=by
 have h1:=h.dt hC
 constructor
 ·intro hl e
  rw [jO (h.full hl),aNX,e] at h1
  grind
 ·intro hne
  by_cases hl:pv.length < n
  ·rw [aQR (i:=n - 1) (by omega) (h.short hl)] at h1
   rcases Rat.mul_eq_zero.1 h1.symm with e|e
   ·exact absurd e h.hs
   ·exact absurd e hne
  ·have:=h.len;omega
theorem zO {n m:Nat} {f:Nat→Rat}:sm (n+m) f=sm n f+sm m (fun k=>f (n+k)):=by
 induction m with
 |zero=>simp only [sm,Nat.add_zero];grind
 |succ m ih=>rw [←Nat.add_assoc];simp only [sm];rw [ih];grind
theorem Red.inv {n:Nat} {a f0 f:Nat→Nat→Rat} {pv:List Nat} {s:Rat} (h:Red n (n+n) n f0 f pv s) (hl:pv.length=n) (h1:∀i j,i < n→j < n→f0 i j=a i j) (h2:∀i j,i < n→j < n→f0 i (n+j)=oD i j):
  (∀i j,i < n→j < n→sQ n a (fun i j=>f i (n+j)) i j=oD i j)∧(∀i j,i < n→j < n→sQ n (fun i j=>f i (n+j)) a i j=oD i j):=by
 have hf:=h.full hl
 have k0:∀(x y:Nat→Rat),Go.Proofs.YthhldplegmeolaaGreat.ker n (n+n) f0 (fun t=>if t < n then x t else y (t - n))↔∀i,i < n→sm n (fun k=>a i k*x k)+y i=0:=fun x y=>by
  unfold Go.Proofs.YthhldplegmeolaaGreat.ker
  have e:∀i,i < n→sm (n+n) (fun j=>f0 i j*(if j < n then x j else y (j - n)))=sm n (fun k=>a i k*x k)+y i:=fun i hi=>by
   rw [zO,bS (n:=n) (f:=fun j=>f0 i j*(if j < n then x j else y (j - n))) (g:=fun k=>a i k*x k) (fun k hk=>by rw [h1 i k hi hk,if_pos hk])]
   rw [rH (f:=fun k=>f0 i (n+k)*(if n+k < n then x (n+k) else y (n+k - n))) hi (fun k hk hne=>by rw [h2 i k hi hk];simp only [oD];rw [if_neg (fun e=>hne e.symm)];grind)]
   rw [h2 i i hi hi,if_neg (by omega),Nat.add_sub_cancel_left];simp only [oD,if_true];grind
  exact ⟨fun hk i hi=>by rw [←e i hi];exact hk i hi,fun hk i hi=>by rw [e i hi];exact hk i hi⟩
 have k1:∀(x y:Nat→Rat),Go.Proofs.YthhldplegmeolaaGreat.ker n (n+n) f (fun t=>if t < n then x t else y (t - n))↔∀i,i < n→x i+sm n (fun k=>f i (n+k)*y k)=0:=fun x y=>by
  unfold Go.Proofs.YthhldplegmeolaaGreat.ker
  have e:∀i,i < n→sm (n+n) (fun j=>f i j*(if j < n then x j else y (j - n)))=x i+sm n (fun k=>f i (n+k)*y k):=fun i hi=>by
   rw [zO,bS (n:=n) (f:=fun k=>f i (n+k)*(if n+k < n then x (n+k) else y (n+k - n))) (g:=fun k=>f i (n+k)*y k) (fun k _=>by rw [if_neg (by omega),Nat.add_sub_cancel_left])]
   rw [rH (f:=fun j=>f i j*(if j < n then x j else y (j - n))) hi (fun k hk hne=>by rw [hf i k hi hk];simp only [oD];rw [if_neg (fun e=>hne e.symm)];grind)]
   rw [hf i i hi hi,if_pos hi];simp only [oD,if_true];grind
  exact ⟨fun hk i hi=>by rw [←e i hi];exact hk i hi,fun hk i hi=>by rw [e i hi];exact hk i hi⟩
 have kk:∀(x y:Nat→Rat),(∀i,i < n→x i+sm n (fun k=>f i (n+k)*y k)=0)↔∀i,i < n→sm n (fun k=>a i k*x k)+y i=0:=fun x y=>(k1 x y).symm.trans ((h.ker _).trans (k0 x y))
 have neg:∀(g:Nat→Nat→Rat) (x:Nat→Rat) i,sm n (fun k=>g i k*(-1*x k))= -1*sm n (fun k=>g i k*x k):=fun g x i=>by
  rw [←sm_mul];exact bS (fun k _=>by grind)
 constructor
 ·intro i j hi hj
  -- x = - column j of the inverse, y = the unit vector
  have:=(kk (fun t=> -1*f t (n+j)) (fun t=>oD t j)).1 (fun t ht=>by
   rw [rH hj (fun k _ hne=>by simp only [oD];rw [if_neg hne];grind)]
   simp only [oD,if_true];grind) i hi
  rw [neg a (fun t=>f t (n+j))] at this
  show sm n (fun k=>a i k*f k (n+j))=oD i j
  grind
 ·intro i j hi hj
  have:=(kk (fun t=>oD t j) (fun t=> -1*a t j)).2 (fun t ht=>by
   rw [rH hj (fun k _ hne=>by simp only [oD];rw [if_neg hne];grind)]
   simp only [oD,if_true];grind) i hi
  rw [neg (fun i k=>f i (n+k)) (fun t=>a t j)] at this
  show sm n (fun k=>f i (n+k)*a k j)=oD i j
  grind
end Go.Proofs.YthhldplegmeolaaGreat
namespace Go.Proofs.YthhldplegmeolaaGreat
open Go Go.Fx
abbrev pb (b:Nat):Value:= .pointer (some ⟨b,0,none⟩)
abbrev bxX (b:Nat) (m:MX):aN:=aD (some ⟨b,0,none⟩) [.slice m.p m.rows.length m.c]
def aOF (n:Nat) (x y:List Rat):Rat:=sm n (fun t=>x.getD t 0*y.getD t 0)
theorem aIQ {m:MX} {i:Nat} (hi:i < m.rows.length):rowAt m.q i=(gt m.rows (i:Int)).q:=by
 unfold rowAt
 rw [dM hi]
 simp [List.getD,hi]
section
variable {X:List Nat} {w0:World} {M0:List Ent} {I0:List aN}
theorem aGU {a:MX} {p k i j:Nat} (hi:i < a.rows.length) (hj:j < (gt a.rows (i:Int)).es.length)
  (ha:gQ a k∈I0) (fa:bxX p a∈I0):
  CD Tryz.prog 160 [.int .i64 (i:Int), .int .i64 (j:Int),pb p] X w0 M0 I0 (RQ (at2 a.q i j) k M0 I0):=by
 rw [nR hi hj]
 refine aL (φ:=aD (a).p (recs eL (a).rows)) (Hv.xsl aA) ?_
 refine aL (φ:=aD (gt (a).rows (i:Int)).p (recs eR (gt (a).rows (i:Int)).es)) (Hv.xrsl aA (by omega)) ?_
 refine iC Tryz.func160 rfl Tryz.ntmps160 rfl ?_
 refine fG ?_
 refine dG (fun br=>?_)
 repeat refine aC ?_
 refine bX (φ:=bE (gt (gt a.rows (i:Int)).es (j:Int)) k) (Hv.xel aA (by omega) (by omega)) ?_
 refine aR (cs:=eR (gt (gt a.rows (i:Int)).es (j:Int))) (.inl rfl) rfl rfl aA rfl M0 (bE (gt (gt a.rows (i:Int)).es (j:Int)) k::I0) aK aJ ⟨rfl,_,rfl,rfl,rfl⟩
theorem aHL {a b:MX} {p q k m i j C:Nat} (hC:(gt a.rows 0).es.length=C) (hR:1≤a.rows.length) (hi:i < a.rows.length) (hj:(gt a.rows (i:Int)).es.length=C) (hi2:i < b.rows.length) (hj2:j < C+(gt b.rows (i:Int)).es.length) (hB:(gt b.rows (i:Int)).es.length≤200) (hk:k≤m) (hCC:C≤200)
  (ha:gQ a k∈I0) (hb:gQ b m∈I0) (fa:bxX p a∈I0) (fb:bxX q b∈I0):
  CD Tryz.prog 136 [.int .i64 (i:Int), .int .i64 (j:Int),pb p,pb q] X w0 M0 I0 (RQ (if j < C then at2 a.q i j else at2 b.q i (j - C)) m M0 I0):=by
 by_cases hjC:j < C
 ·rw [if_pos hjC,nR hi (by omega)]
  refine aL (φ:=aD (a).p (recs eL (a).rows)) (Hv.xsl aA) ?_
  refine aL (φ:=aD (gt (a).rows (i:Int)).p (recs eR (gt (a).rows (i:Int)).es)) (Hv.xrsl aA (by omega)) ?_
  refine tQ Tryz.func136 rfl Tryz.ntmps136 rfl ?_
  refine fG ?_
  refine dG (fun br=>?_)
  repeat refine aC ?_
  refine bX (φ:=bE (gt (gt a.rows (i:Int)).es (j:Int)) k) (Hv.xel aA (by omega) (by omega)) ?_
  refine bX (φ:=bE (gt (gt a.rows (i:Int)).es (j:Int)) m) (Hv.q (k:=k) (List.Mem.head _) hk) ?_
  refine aR (cs:=eR (gt (gt a.rows (i:Int)).es (j:Int))) (.inl rfl) rfl rfl aA rfl M0 (bE (gt (gt a.rows (i:Int)).es (j:Int)) m::I0) aK aJ ⟨rfl,_,rfl,rfl,rfl⟩
 ·obtain ⟨u,rfl⟩:∃u,j=C+u:=⟨j - C,by omega⟩
  rw [if_neg hjC,Nat.add_sub_cancel_left,nR hi2 (by omega)]
  have eu:((C+u:Nat):Int) - ((gt a.rows 0).es.length:Int)=(u:Int):=by omega
  refine aL (φ:=aD (a).p (recs eL (a).rows)) (Hv.xsl aA) ?_
  refine aL (φ:=aD (b).p (recs eL (b).rows)) (Hv.xsl aA) ?_
  refine aL (φ:=aD (gt (b).rows (i:Int)).p (recs eR (gt (b).rows (i:Int)).es)) (Hv.xrsl aA (by omega)) ?_
  refine tQ Tryz.func136 rfl Tryz.ntmps136 rfl ?_
  refine fG ?_
  refine dG (fun br=>?_)
  repeat refine aC ?_
  (repeat refine aF ?_);refine aS 0 [0,1,2,3,4,5,6,7,8,9,10,11,12] [0,0,0,0,0,0,0,0,0,0,0,0,0] mixed (by kernel_rfl) ?_
  repeat refine aC ?_
  rw [eu]
  repeat refine aC ?_
  refine bX (φ:=bE (gt (gt b.rows (i:Int)).es (u:Int)) m) (Hv.xel aA (by omega) (by omega)) ?_
  refine aR (cs:=eR (gt (gt b.rows (i:Int)).es (u:Int))) (.inl rfl) rfl rfl aA rfl M0 (bE (gt (gt b.rows (i:Int)).es (u:Int)) m::I0) aK aJ ⟨rfl,_,rfl,rfl,rfl⟩
theorem aDX {a:MX} {p q k i j n:Nat} (hi:i < a.rows.length) (hj:n+j < (gt a.rows (i:Int)).es.length) (hn:n≤100) (hjj:j≤100)
  (ha:gQ a k∈I0) (fa:bxX p a∈I0) (fn:aD (some ⟨q,0,none⟩) [.int .i64 (n:Int)]∈I0):
  CD Tryz.prog 106 [.int .i64 (i:Int), .int .i64 (j:Int),pb p,pb q] X w0 M0 I0 (RQ (at2 a.q i (n+j)) k M0 I0):=by
 rw [nR hi hj]
 have eu:(n:Int)+(j:Int)=((n+j:Nat):Int):=by omega
 refine aL (φ:=aD (a).p (recs eL (a).rows)) (Hv.xsl aA) ?_
 refine aL (φ:=aD (gt (a).rows (i:Int)).p (recs eR (gt (a).rows (i:Int)).es)) (Hv.xrsl aA (by omega)) ?_
 refine tQ Tryz.func106 rfl Tryz.ntmps106 rfl ?_
 refine fG ?_
 refine dG (fun br=>?_)
 repeat refine aC ?_
 (repeat refine aF ?_);refine aS 0 [0,1,2,3,4,5,6,7,8,9] [0,0,0,0,0,0,0,0,0,0] mixed (by kernel_rfl) ?_
 repeat refine aC ?_
 rw [eu]
 repeat refine aC ?_
 refine bX (φ:=bE (gt (gt a.rows (i:Int)).es ((n+j:Nat):Int)) k) (Hv.xel aA (by omega) (by omega)) ?_
 refine aR (cs:=eR (gt (gt a.rows (i:Int)).es ((n+j:Nat):Int))) (.inl rfl) rfl rfl aA rfl M0 (bE (gt (gt a.rows (i:Int)).es ((n+j:Nat):Int)) k::I0) aK aJ ⟨rfl,_,rfl,rfl,rfl⟩
theorem aRX {a b:RL} {ka kb n:Nat} (hn:n≤200) (hK:n*(ka+kb+1)≤100000000000) (la:a.es.length=n) (lb:b.es.length=n) (ha:dL a ka∈I0) (hb:dL b kb∈I0):
  CD Tryz.prog 140 [lv a,lv b] X w0 M0 I0 (RQ (aOF n a.q b.q) (n*(ka+kb+1)) M0 I0):=by
 refine aL (φ:=aD (a).p (recs eR (a).es)) (Hv.lsl aA) ?_
 refine aL (φ:=aD (b).p (recs eR (b).es)) (Hv.lsl aA) ?_
 have hW:=fun M0 I0=>kU (X:=X) (w0:=w0) (M0:=M0) (I0:=I0) (x:=0) (by decide) (k:=0) (by decide)
 refine aP Tryz.func140 rfl Tryz.ntmps140 rfl ?_
 refine fG ?_
 refine dG (fun b4=>?_)
 repeat refine aC ?_
 refine gT rfl (hW _ _) (fun e0 he0=>?_)
 repeat refine aC ?_
 refine dG (fun b5=>?_)
 repeat refine aC ?_
 refine pU [1,4,5,9,10] rfl (fun k G M I=>∃(t:Nat) (s:RE),t≤n∧k=n - t∧s.q=sm t (fun t=>a.q.getD t 0*b.q.getD t 0)∧G=[(11, .int .i64 t)]∧M= .blk b5 (eR s) 36:: .blk b4 [.bool false, .slice none 0 0, .bool false, .slice none 0 0] 36::M0∧I=bE s (t*(ka+kb+1))::aD b.p (recs eR b.es)::aD a.p (recs eR a.es)::I0) (n) (⟨0,e0,by omega,rfl,he0,rfl,rfl,by rw [Nat.zero_mul]⟩) ?_
 rintro kk G M I ⟨t,s,ht,rfl,hs,rfl,rfl,rfl⟩
 have hu:t*(ka+kb+1)≤100000000000:=Nat.le_trans (Nat.mul_le_mul_right _ ht) hK
 by_cases htn:t < n
 ·have hu2:(t+1)*(ka+kb+1)=t*(ka+kb+1)+(ka+kb)+1:=by rw [Nat.succ_mul];omega
  have hK2:(t+1)*(ka+kb+1)≤100000000000:=Nat.le_trans (Nat.mul_le_mul_right _ htn) hK
  have hva:Hv (bE s (t*(ka+kb+1))::aD b.p (recs eR b.es)::aD a.p (recs eR a.es)::I0) (bE (gt a.es (t:Int)) ka):=Hv.lel aA (by omega)
  have hvb:Hv (bE s (t*(ka+kb+1))::aD b.p (recs eR b.es)::aD a.p (recs eR a.es)::I0) (bE (gt b.es (t:Int)) kb):=Hv.lel aA (by omega)
  have hS1:=fun M0=>jS (X:=X) (w0:=w0) (M0:=M0) (e:=gt a.es (t:Int)) (k:=ka) (by omega) hva
  have hS2:=fun M0=>jS (X:=X) (w0:=w0) (M0:=M0) (e:=gt b.es (t:Int)) (k:=kb) (by omega) hvb
  have hq:sm (t+1) (fun t=>a.q.getD t 0*b.q.getD t 0)=s.q+(gt a.es (t:Int)).q*(gt b.es (t:Int)).q:=by
   simp only [sm]
   rw [hs,bT (by omega),bT (by omega)]
  generalize t*(ka+kb+1)=u at*
  by_cases h1:(gt a.es (t:Int)).q=0
  ·rw [(oW _).2 h1] at hS1
   repeat refine aC ?_
   refine dG (fun b7=>?_)
   repeat refine aC ?_
   refine dC rfl (hS1 _) ?_
   repeat refine aC ?_
   refine bX (φ:=bE s ((t+1)*(ka+kb+1))) (Hv.q (k:=u) aA (by omega)) ?_
   refine lN (n - (t+1)) (⟨t+1,s,by omega,rfl,by rw [hq,h1];grind,rfl,rfl,rfl⟩)
  ·have hs1:¬(gt a.es (t:Int)).q.num.sign=0:=fun h=>h1 ((oW _).1 h)
   generalize (gt a.es (t:Int)).q.num.sign=sg1 at*
   by_cases h2:(gt b.es (t:Int)).q=0
   ·rw [(oW _).2 h2] at hS2
    repeat refine aC ?_
    refine dG (fun b7=>?_)
    repeat refine aC ?_
    refine dC rfl (hS1 _) ?_
    repeat refine aC ?_
    refine dC rfl (hS2 _) ?_
    repeat refine aC ?_
    refine bX (φ:=bE s ((t+1)*(ka+kb+1))) (Hv.q (k:=u) aA (by omega)) ?_
    refine lN (n - (t+1)) (⟨t+1,s,by omega,rfl,by rw [hq,h2];grind,rfl,rfl,rfl⟩)
   ·have hs2:¬(gt b.es (t:Int)).q.num.sign=0:=fun h=>h2 ((oW _).1 h)
    generalize (gt b.es (t:Int)).q.num.sign=sg2 at*
    repeat refine aC ?_
    refine dG (fun b7=>?_)
    repeat refine aC ?_
    refine dC rfl (hS1 _) ?_
    repeat refine aC ?_
    refine dC rfl (hS2 _) ?_
    repeat refine aC ?_
    (repeat refine aF ?_);refine aS 2 [0,1,2,3,4,5,6,7,8] [1,1,2,2,2,1,0,0,0] mixed (by kernel_rfl) ?_
    repeat refine aC ?_
    refine gT rfl (jX (k:=ka) (m:=kb) (by omega) hva hvb) (fun e2 he2=>?_)
    refine gT rfl (pJ (k:=u) (m:=ka+kb) (by omega) (Hv.mem aA) (Hv.mem aA)) (fun e3 he3=>?_)
    repeat refine aC ?_
    rw [←hu2]
    refine lN (n - (t+1)) (⟨t+1,e3,by omega,rfl,by rw [hq,he3,he2],rfl,rfl,rfl⟩)
 ·obtain rfl:t=n:=by omega
  repeat refine aC ?_
  refine aR (cs:=eR s) (.inl rfl) rfl rfl aA rfl M0 (bE s (t*(ka+kb+1))::I0) aK aJ ⟨rfl,s,rfl,hs,rfl⟩
end
end Go.Proofs.YthhldplegmeolaaGreat
namespace Go.Proofs.YthhldplegmeolaaGreat
open Go Go.Fx
theorem aPF {i j:Nat}:oD i j=if (i:Int)=(j:Int) then (1:Rat) else 0:=by
 unfold oD
 by_cases e:i=j
 ·rw [if_pos e,if_pos (by omega)]
 ·rw [if_neg e,if_neg (by omega)]
theorem lI {M M':List Ent} (h:SubP M M'):∀{xs:List Ent},SubP (xs++M) M'
 |[]=>h
 |_::_=> .drop (lI h)
def MX.fit (m:MX) (R C:Nat):Prop:=m.dim R C∧(1≤R∧R≤64)∧(1≤C∧C≤64)
theorem MX.fit.r0 {m:MX} {R C:Nat} (h:m.fit R C):(gt m.rows 0).es.length=C:=by
 have:=h.1.row (i:=0) (by have:=h.2.1;omega)
 exact this
theorem MX.fit.ok {m:MX} {R C:Nat} (h:m.fit R C):m.raw.ok:=aSZ h.1 h.2.1 h.2.2
theorem MX.raw_rows (m:MX):m.raw.rows.length=m.rows.length:=by show (m.rows.map RL.raw).length=_;rw [List.length_map]
theorem MX.raw_c0 {m:MX} {R C:Nat} (h:m.fit R C):(gt m.raw.rows 0).es.length=C:=by
 have e:m.raw.rows=m.rows.map RL.raw:=rfl
 rw [e,wL (by have:=h.1.1;have:=h.2.1;omega)]
 show ((gt m.rows 0).es.map RE.raw).length=C
 rw [List.length_map];exact h.r0
section
variable {P:Program} {f:FuncId} {vs:List Value} {X:List Nat} {w0:World} {M:List Ent} {I:List aN}
theorem gW {K:Value→List Ent→List aN→Prop} {φ:Prop} (h:∀w,Mem X w0 M I w→φ) (k:φ→CD P f vs X w0 M I K):CD P f vs X w0 M I K:=⟨fun w hw=>(k (h w hw)).go w hw⟩
theorem zU {K:Value→Prop} {φ:aN} [Fx.Good φ] (h:Hv I φ) (c:CD P f vs X w0 M (φ::I) (fun v M' I'=>M=M'∧φ::I=I'∧K v)):CD P f vs X w0 M I (fun v M' I'=>M=M'∧I=I'∧K v):=
 ⟨fun w hw=>(c.go w (Mem.hv h hw)).mono (fun _ _ ⟨M',I',⟨e1,e2,hk⟩,h2⟩=>by subst e1;subst e2;exact ⟨M,I,⟨rfl,rfl,hk⟩,h2.inc (.of fun φ hφ=>List.Mem.tail _ hφ)⟩)⟩
theorem Mem.xsml {w:World} {m:MX} {R C k:Nat} (hm:gQ m k∈I) (hd:m.fit R C) (hk:k≤20000000000) (hw:Mem X w0 M I w):m.raw.sml:=by
 have h:IsX m k (muts M) w:=(hw.imm _ hm).2
 refine ⟨by rw [m.raw_rows,hd.1.1];have:=hd.2.1;omega,fun r hr=>?_⟩
 obtain ⟨s,hs,rfl⟩:=List.mem_map.1 hr
 refine ⟨by show (s.es.map RE.raw).length≤_;rw [List.length_map,hd.1.2 s hs];have:=hd.2.2;omega,fun e he=>?_⟩
 obtain ⟨x,hx,rfl⟩:=List.mem_map.1 he
 exact IsR.sml hk ((h.row s hs).el x hx)
theorem Mem.lsml {w:World} {r:RL} {k:Nat} (hm:dL r k∈I) (hl:r.es.length≤1000000000) (hk:k≤20000000000) (hw:Mem X w0 M I w):r.raw.sml:=by
 have h:IsL r k (muts M) w:=(hw.imm _ hm).2
 refine ⟨by show (r.es.map RE.raw).length≤_;rw [List.length_map];exact hl,fun e he=>?_⟩
 obtain ⟨x,hx,rfl⟩:=List.mem_map.1 he
 exact IsR.sml hk (h.el x hx)
end
section
variable {X:List Nat} {w0:World} {M0:List Ent} {I0:List aN}
theorem aJQ {a:MX} {R C k:Nat} (hk:k≤20000000000) (da:a.fit R C) (ha:gQ a k∈I0):CD Tryz.prog 133 [mv a] X w0 M0 I0 (fun v M I=>M0=M∧I0=I∧v= .int .i64 0):=by
 refine gW (fun w hw=>Mem.xsml ha da hk hw) (fun sa=>?_)
 refine zU (φ:=pR a.raw) (Hv.xraw ha hk) ?_
 have:=yY (X:=X) (w0:=w0) (M0:=M0) (I0:=pR a.raw::I0) (m:=a.raw) sa (List.Mem.head _)
 rw [WM.code_ok da.ok,aAC] at this
 exact this
theorem aFW {a:MX} {R C k:Nat} (da:a.fit R C) (ha:gQ a k∈I0):CD Tryz.prog 134 [mv a] X w0 M0 I0 (MkP R C (at2 a.q) k M0 I0):=by
 have lR:=da.1.1
 have lC:=da.r0
 obtain ⟨r1,r2⟩:=da.2.1
 obtain ⟨c1,c2⟩:=da.2.2
 refine aL (φ:=aD (a).p (recs eL (a).rows)) (Hv.xsl aA) ?_
 refine aV Tryz.func134 rfl Tryz.ntmps134 rfl ?_
 refine fG ?_
 (refine nY rfl rfl rfl ?_;intro p1;refine aU ?_)
 repeat refine aC ?_
 (repeat refine aF ?_);refine dD [0,1,2,3,4,5,6,7,8] [1,0,1,1,1,0,0,0,0] mixed (by kernel_rfl) ?_
 repeat refine aC ?_
 have hg:=fun M I (hI:∀φ∈aD (some ⟨p1,0,none⟩) [.slice a.p a.rows.length a.c]::aD a.p (recs eL a.rows)::I0,φ∈I) (i j:Nat) (hi:i < a.rows.length) (hj:j < (gt a.rows 0).es.length)=>aGU (X:=X) (w0:=w0) (M0:=M) (I0:=I) (a:=a) (p:=p1) (k:=k) (i:=i) (j:=j) (by omega) (by rw [da.1.row (by omega)];omega) (hI _ aA) (hI _ aA)
 (refine bA rfl (zT (R:=a.rows.length) (C:=(gt a.rows 0).es.length) (g:=160) (fs:=#[]) (cs:=#[pb p1]) (k0:=k) (by omega) (by omega) (at2 a.q) hg) ?_;rintro _ _ _ ⟨bo,rows,rfl,h1,h2,h3,rfl,rfl⟩;refine ⟨OkD.any (SubP.drop (lI SubP.refl)) aJ,?_⟩)
 rw [lR] at h1
 rw [lC] at h2
 rw [lR,lC] at h3
 have e1:(a.rows.length:Int)=R:=by omega
 repeat refine aC ?_
 refine aT (by first|exact .inl rfl|exact .inr rfl) rfl rfl _ _ aK aJ (⟨bo,rows,by rw [lR],h1,h2,h3,rfl,rfl⟩)
theorem aBZ {a b:MX} {R C D k:Nat} (da:a.fit R C) (db:b.fit R D) (ha:gQ a k∈I0) (hb:gQ b k∈I0):CD Tryz.prog 100 [mv a,mv b] X w0 M0 I0 (MkP R (C+D) (fun i j=>if j < C then at2 a.q i j else at2 b.q i (j - C)) k M0 I0):=by
 have lR:=da.1.1
 have lR2:=db.1.1
 have lC:=da.r0
 have lD:=db.r0
 obtain ⟨r1,r2⟩:=da.2.1
 obtain ⟨c1,c2⟩:=da.2.2
 obtain ⟨d1,d2⟩:=db.2.2
 refine aL (φ:=aD (a).p (recs eL (a).rows)) (Hv.xsl aA) ?_
 refine aL (φ:=aD (b).p (recs eL (b).rows)) (Hv.xsl aA) ?_
 refine aP Tryz.func100 rfl Tryz.ntmps100 rfl ?_
 refine fG ?_
 (refine nY rfl rfl rfl ?_;intro p1;refine aU ?_)
 (refine nY rfl rfl rfl ?_;intro p2;refine aU ?_)
 repeat refine aC ?_
 (repeat refine aF ?_);refine dD [0,1,2,3,4,5,6,7,8,9,10,11,12,13] [1,0,1,1,1,1,1,1,1,1,0,0,0,0] mixed (by kernel_rfl) ?_
 repeat refine aC ?_
 rw [show ((gt a.rows 0).es.length:Int)+((gt b.rows 0).es.length:Int)=(((gt a.rows 0).es.length+(gt b.rows 0).es.length:Nat):Int) by omega]
 have hg:=fun M I (hI:∀φ∈aD (some ⟨p2,0,none⟩) [.slice b.p b.rows.length b.c]::aD (some ⟨p1,0,none⟩) [.slice a.p a.rows.length a.c]::aD b.p (recs eL b.rows)::aD a.p (recs eL a.rows)::I0,φ∈I) (i j:Nat) (hi:i < a.rows.length) (hj:j < (gt a.rows 0).es.length+(gt b.rows 0).es.length)=>aHL (X:=X) (w0:=w0) (M0:=M) (I0:=I) (a:=a) (b:=b) (p:=p1) (q:=p2) (k:=k) (m:=k) (i:=i) (j:=j) (C:=C) lC (by omega) (by omega) (da.1.row (by omega)) (by omega) (by rw [db.1.row (by omega)];omega) (by rw [db.1.row (by omega)];omega) (Nat.le_refl _) (by omega) (hI _ aA) (hI _ aA) (hI _ aA) (hI _ aA)
 (refine bA rfl (zT (R:=a.rows.length) (C:=(gt a.rows 0).es.length+(gt b.rows 0).es.length) (g:=136) (fs:=#[]) (cs:=#[pb p1,pb p2]) (k0:=k) (by omega) (by omega) (fun i j=>if j < C then at2 a.q i j else at2 b.q i (j - C)) hg) ?_;rintro _ _ _ ⟨bo,rows,rfl,h1,h2,h3,rfl,rfl⟩;refine ⟨OkD.any (SubP.drop (lI SubP.refl)) aJ,?_⟩)
 rw [lR] at h1
 rw [lC,lD] at h2
 rw [lR,lC,lD] at h3
 repeat refine aC ?_
 refine aT (by first|exact .inl rfl|exact .inr rfl) rfl rfl _ _ aK aJ (⟨bo,rows,by rw [lR],h1,h2,h3,rfl,rfl⟩)
end
end Go.Proofs.YthhldplegmeolaaGreat
namespace Go.Proofs.YthhldplegmeolaaGreat
open Go Go.Fx
def mulC (a b:WM):Int:=if a.ok∧b.ok then (if (gt a.rows 0).es.length=b.rows.length then 0 else 4) else 1
def aAY (a:WM) (x:WL) (n:Nat):Int:=if a.ok then (if x.good then (if x.es.length=n then 0 else 4) else 1) else 1
section
variable {X:List Nat} {w0:World} {M0:List Ent} {I0:List aN}
theorem aFY {a:MX} {x:RL} {R C k m:Nat} (hk:k≤1000000000) (hm:m≤500000000) (hR:R≤100) (hCC:C≤64) (da:a.dim R C) (hl:x.es.length=C) (ha:gQ a k∈I0) (hx:dL x m∈I0):
  CD Tryz.prog 108 [mv a,lv x] X w0 M0 I0 (LQ ((List.range R).map (fun i=>sm C (fun t=>at2 a.q i t*x.q.getD t 0))) (C*(k+m+1)) M0 I0):=by
 have lR:=da.1
 have hKK:C*(k+m+1)≤100000000000:=Nat.le_trans (Nat.mul_le_mul hCC (show k+m+1≤1500000001 by omega)) (by decide)
 generalize hKe:C*(k+m+1)=K at*
 refine aL (φ:=aD (a).p (recs eL (a).rows)) (Hv.xsl aA) ?_
 refine aP Tryz.func108 rfl Tryz.ntmps108 rfl ?_
 repeat refine aC ?_
 refine jM 36 4 ?_
 refine bN (φ:=aX [] K) Hv.nilR ?_
 refine pU [1,8,9] rfl (fun k G M I=>∃(i:Nat) (es:List RE) (q:Option Addr) (c:Nat),i≤R∧k=R - i∧es.length=i∧qs es=(List.range i).map (fun i=>sm C (fun t=>at2 a.q i t*x.q.getD t 0))∧G=[(5, .slice q es.length c),(10, .int .i64 i)]∧M= .row q es.length c (recs eR es) 36 4::M0∧I=aX es K::aD a.p (recs eL a.rows)::I0) (R) (⟨0,[],none,0,by omega,rfl,rfl,rfl,rfl,rfl,rfl⟩) ?_
 rintro kk G M I ⟨i,es,q,c,hi,rfl,hel,heq,rfl,rfl,rfl⟩
 by_cases hiR:i < R
 ·refine bN (φ:=dL (gt (a).rows (i:Int)) k) (Hv.xrow aA (by omega)) ?_
  repeat refine aC ?_
  refine gT rfl (aRX (ka:=k) (kb:=m) (n:=C) (by omega) (by omega) (da.row hiR) hl aA aA) (fun e he=>?_)
  refine nG (cs:=recs eR [e]) ([rv e]) rfl (fun b=>?_)
  refine tyP (ys:=[e]) 1 rfl rfl rfl (fun q2 c2=>?_)
  rw [hKe]
  repeat refine aC ?_
  refine bX (φ:=aX (es++[e]) K) (Hv.snoc aA aA) ?_
  refine lN (R - (i+1)) (⟨i+1,es++[e],q2,c2,by omega,rfl,by simp;omega,?_,rfl,rfl,rfl⟩)
  rw [List.range_succ,List.map_append,←heq]
  have e1:sm C (fun t=>at2 a.q i t*x.q.getD t 0)=aOF C (gt a.rows (i:Int)).q x.q:=by rw [←aIQ (by omega)];rfl
  show (es++[e]).map RE.q=qs es++[sm C (fun t=>at2 a.q i t*x.q.getD t 0)]
  rw [List.map_append,e1,←he]
  rfl
 ·obtain rfl:i=R:=by omega
  repeat refine aC ?_
  refine sO aA ?_
  refine iZ rfl rfl (⟨rfl,⟨q,c,es⟩,rfl,heq,rfl⟩)
theorem aJO {m:WM} {p:Nat} (hR:1≤m.rows.length) (hm:pR m∈I0) (hb:aD (some ⟨p,0,none⟩) [.slice m.p m.rows.length m.c]∈I0):
  CD Tryz.prog 107 [pb p] X w0 M0 I0 (fun v M I=>M0=M∧I0=I∧v= .int .i64 ((gt m.rows 0).es.length:Int)):=by
 refine aL (φ:=aD m.p (recs uX m.rows)) (Hv.wmsl hm) ?_
 refine aV Tryz.func107 rfl Tryz.ntmps107 rfl ?_
 repeat refine aC ?_
 refine iZ rfl rfl (⟨rfl,rfl,rfl⟩)
theorem aIV {a:WM} {x:WL} {n:Nat} {g:FuncId} [FnOk Tryz.prog g] {fs cs:Array Value} (sa:a.sml) (sx:x.sml) (ha:pR a∈I0) (hx:jN x∈I0)
  (hg:a.ok→CD Tryz.prog g (fs.toList++[]++cs.toList) X w0 M0 I0 (fun v M I=>M0=M∧I0=I∧v= .int .i64 (n:Int))):
  CD Tryz.prog 98 [mvW a,wE x, .func (.func g) fs cs] X w0 M0 I0 (fun v M I=>M0=M∧I0=I∧v= .int .i64 (aAY a x n)):=by
 have hC:=fun M0 I0 h1=>yY (X:=X) (w0:=w0) (M0:=M0) (I0:=I0) (m:=a) sa h1
 have hV:=fun M0 I0 h1=>uF (X:=X) (w0:=w0) (M0:=M0) (I0:=I0) (r:=x) sx h1
 unfold aAY
 by_cases hok:a.ok
 ·rw [WM.code_ok hok] at hC
  rw [if_pos hok]
  by_cases hgx:x.good
  ·rw [bV hgx] at hV
   rw [if_pos hgx]
   have hg':=hg hok
   by_cases hn:x.es.length=n
   ·rw [if_pos hn]
    refine iC Tryz.func98 rfl Tryz.ntmps98 rfl ?_
    repeat refine aC ?_
    refine dC rfl (hC _ _ aA) ?_
    repeat refine aC ?_
    refine dC rfl (hV _ _ aA) ?_
    repeat refine aC ?_
    (refine fT rfl rfl (hg') rfl rfl rfl ?_;rintro _ _ _ ⟨rfl,rfl,rfl⟩;refine aU ?_)
    repeat refine aC ?_
    refine iZ rfl rfl (⟨rfl,rfl,rfl⟩)
   ·rw [if_neg hn]
    refine iC Tryz.func98 rfl Tryz.ntmps98 rfl ?_
    repeat refine aC ?_
    refine dC rfl (hC _ _ aA) ?_
    repeat refine aC ?_
    refine dC rfl (hV _ _ aA) ?_
    repeat refine aC ?_
    (refine fT rfl rfl (hg') rfl rfl rfl ?_;rintro _ _ _ ⟨rfl,rfl,rfl⟩;refine aU ?_)
    repeat refine aC ?_
    refine iZ rfl rfl (⟨rfl,rfl,rfl⟩)
  ·rw [aW hgx] at hV
   rw [if_neg hgx]
   refine iC Tryz.func98 rfl Tryz.ntmps98 rfl ?_
   repeat refine aC ?_
   refine dC rfl (hC _ _ aA) ?_
   repeat refine aC ?_
   refine dC rfl (hV _ _ aA) ?_
   repeat refine aC ?_
   refine iZ rfl rfl (⟨rfl,rfl,rfl⟩)
 ·rw [WM.code_no hok] at hC
  rw [if_neg hok]
  refine iC Tryz.func98 rfl Tryz.ntmps98 rfl ?_
  repeat refine aC ?_
  refine dC rfl (hC _ _ aA) ?_
  repeat refine aC ?_
  refine iZ rfl rfl (⟨rfl,rfl,rfl⟩)
theorem wP {a:MX} {x:RL} {R C k m:Nat} (hk:k≤1000000000) (hm:m≤500000000) (da:a.fit R C) (hl:x.es.length=C) (ha:gQ a k∈I0) (hx:dL x m∈I0):CD Tryz.prog 63 [mv a,lv x] X w0 M0 I0 (LQc ((List.range R).map (fun i=>sm C (fun t=>at2 a.q i t*x.q.getD t 0))) (C*(k+m+1)) M0 I0):=by
 obtain ⟨r1,r2⟩:=da.2.1
 obtain ⟨c1,c2⟩:=da.2.2
 refine gW (fun w hw=>Mem.xsml ha da (by omega) hw) (fun sa=>gW (fun w hw=>Mem.lsml hx (by omega) (by omega) hw) (fun sx=>?_))
 have hC:=fun p M0 I0 h1 h2 h3=>aIV (X:=X) (w0:=w0) (M0:=M0) (I0:=I0) (a:=a.raw) (x:=x.raw) (n:=C) (g:=107) (fs:=#[]) (cs:=#[pb p]) sa sx h1 h2 (fun hok=>by have:=aJO (X:=X) (w0:=w0) (M0:=M0) (I0:=I0) (p:=p) hok.1.1 h1 h3;rw [MX.raw_c0 da] at this;exact this)
 have e0:aAY a.raw x.raw C=0:=by
  unfold aAY
  rw [if_pos da.ok,if_pos x.raw_good,if_pos (by show (x.es.map RE.raw).length=C;rw [List.length_map];exact hl)]
 rw [e0,aAC,uQ] at hC
 have hA:=fun M0 I0 h1 h2=>aFY (X:=X) (w0:=w0) (M0:=M0) (I0:=I0) (a:=a) (x:=x) (R:=R) (C:=C) (k:=k) (m:=m) hk hm (by omega) (by omega) da.1 hl h1 h2
 refine aL (φ:=pR a.raw) (Hv.xraw ha (by omega)) ?_
 refine aL (φ:=jN x.raw) (Hv.lraw (List.Mem.tail _ hx) (by omega)) ?_
 refine aP Tryz.func63 rfl Tryz.ntmps63 rfl ?_
 refine fG ?_
 (refine nY rfl rfl rfl ?_;intro p1;refine aU ?_)
 repeat refine aC ?_
 refine iA (φ:=aD (some ⟨p1,0,none⟩) [.slice a.raw.p a.raw.rows.length a.raw.c]) (by rw [MX.raw_rows];exact Hv.mem aA) ?_
 refine dC rfl (hC p1 _ _ aA aA aA) ?_
 refine RD_w (M':=M0) (I':=aD (some ⟨p1,0,none⟩) [.slice a.p a.rows.length a.c]::jN x.raw::pR a.raw::I0) SubP.refl aJ ?_
 repeat refine aC ?_
 (refine bA rfl (hA _ _ aA aA) ?_;rintro _ _ _ ⟨rfl,y,rfl,hy,rfl⟩;refine aU ?_)
 repeat refine aC ?_
 refine tyS [4,5] rfl rfl (⟨rfl,y,rfl,hy,rfl⟩)
end
end Go.Proofs.YthhldplegmeolaaGreat
namespace Go.Proofs.YthhldplegmeolaaGreat
open Go Go.Fx
def vQ (A:Mt) (R C:Nat):Prop:=A.length=R∧∀i,i < R→(rowAt A i).length=C
theorem rowAt_set {A:Mt} {i a:Nat} {l:List Rat} (hi:i < A.length):rowAt (A.set i l) a=if a=i then l else rowAt A a:=by
 unfold rowAt
 simp only [List.getD,List.getElem?_set]
 by_cases e:a=i
 ·subst e;simp [hi]
 ·have e':¬i=a:=fun h=>e h.symm
  simp [e,e']
theorem aJT {A:Mt} {a:Nat} {f:Nat→List Rat→List Rat} (h:a < A.length):rowAt (A.mapIdx f) a=f a (rowAt A a):=by
 simp [rowAt,List.getD,h]
theorem tJ {A:Mt} {R C r k a:Nat} (h:vQ A R C) (hr:r < R) (hk:k < R):rowAt (swp A r k) a=rowAt A (tr r k a):=by
 unfold swp
 rw [rowAt_set (by rw [List.length_set,h.1];exact hk),rowAt_set (by rw [h.1];exact hr)]
 simp only [tr]
 by_cases e1:a=k
 ·subst e1
  rw [if_pos rfl]
  by_cases e2:a=r
  ·rw [if_pos e2,e2]
  ·rw [if_neg e2,if_pos rfl]
 ·rw [if_neg e1,if_neg e1]
  by_cases e2:a=r
  ·rw [if_pos e2,if_pos e2]
  ·rw [if_neg e2,if_neg e2]
theorem aJA {A:Mt} {R C r k:Nat} (h:vQ A R C) (hr:r < R) (hk:k < R):vQ (swp A r k) R C:=
 ⟨by unfold swp;rw [List.length_set,List.length_set];exact h.1,fun i hi=>by rw [tJ h hr hk];exact h.2 _ (zW hr hk hi)⟩
theorem xD {l:List Rat} {f:Nat→Rat→Rat} {c:Nat} (h:c < l.length):(l.mapIdx f).getD c 0=f c (l.getD c 0):=by
 simp [List.getD,h]
theorem yJ {B:Mt} {r j a:Nat} {pr:List Rat} (h:a < B.length):rowAt (tL B r j pr) a=if a=r then rowAt B a else if (rowAt B a).getD j 0=0 then rowAt B a else nJ j ((rowAt B a).getD j 0) pr (rowAt B a):=by
 unfold tL
 rw [aJT h]
theorem aLS {A:Mt} {R C r j x:Nat} (h:vQ A R C) (hr:r < R) (hx:x < R):vQ (vW A r j x) R C:=by
 have hs:=aJA (r:=r) (k:=x) h hr hx
 unfold vW
 refine ⟨by unfold tL;rw [List.length_mapIdx,List.length_set];exact hs.1,fun i hi=>?_⟩
 have hb:rowAt ((swp A r x).set r (gJ j (1 / at2 (swp A r x) r j) (rowAt (swp A r x) r))) i=if i=r then gJ j (1 / at2 (swp A r x) r j) (rowAt (swp A r x) r) else rowAt (swp A r x) i:=rowAt_set (by rw [hs.1];exact hr)
 rw [yJ (by rw [List.length_set,hs.1];exact hi),hb]
 by_cases e:i=r
 ·rw [if_pos e,if_pos e];simp only [gJ,List.length_mapIdx];exact hs.2 r hr
 ·rw [if_neg e,if_neg e]
  split
  ·exact hs.2 i hi
  ·simp only [nJ,List.length_mapIdx];exact hs.2 i hi
theorem aMY {A:Mt} {R C r j x:Nat} (h:vQ A R C) (hr:r < R) (hx:x < R) (hj:j < C) (hz:∀b,b < j→at2 A x b=0):∀a b,a < R→b < C→
  at2 (vW A r j x) a b=elm r x (1 / at2 A x j) (fun a=>at2 A (tr r x a) j) (at2 A) a b:=by
 intro a b ha hb
 have hs:=aJA (r:=r) (k:=x) h hr hx
 have hat:∀i c,at2 (swp A r x) i c=at2 A (tr r x i) c:=fun i c=>by unfold at2;rw [tJ h hr hx]
 have htr:tr r x r=x:=by simp [tr]
 have hrow:(rowAt (swp A r x) r)=rowAt A x:=by rw [tJ h hr hx,htr]
 have hκ:at2 (swp A r x) r j=at2 A x j:=by rw [hat,htr]
 obtain ⟨κ,hk⟩:∃κ,κ=1 / at2 A x j:=⟨_,rfl⟩
 rw [←hk]
 have hpr:∀c,c < C→(gJ j κ (rowAt A x)).getD c 0=κ*at2 A x c:=fun c hc=>by
  unfold gJ
  rw [xD (by rw [h.2 x hx];exact hc)]
  by_cases e:c < j
  ·rw [if_pos e]
   have:=hz c e
   rw [this]
   unfold at2 at this
   rw [this];grind
  ·rw [if_neg e];rfl
 have e1:at2 (vW A r j x) a b=(rowAt (vW A r j x) a).getD b 0:=rfl
 rw [e1]
 unfold vW
 rw [hκ,hrow,←hk]
 have hbb:rowAt ((swp A r x).set r (gJ j κ (rowAt A x))) a=if a=r then gJ j κ (rowAt A x) else rowAt (swp A r x) a:=rowAt_set (by rw [hs.1];exact hr)
 rw [yJ (by rw [List.length_set,hs.1];exact ha),hbb]
 simp only [elm,htr]
 by_cases e:a=r
 ·rw [if_pos e,if_pos e,if_pos e];exact hpr b hb
 ·rw [if_neg e,if_neg e,if_neg e,tJ h hr hx]
  have hc:(rowAt A (tr r x a)).getD j 0=at2 A (tr r x a) j:=rfl
  rw [hc]
  by_cases e0:at2 A (tr r x a) j=0
  ·rw [if_pos e0,e0]
   show at2 A (tr r x a) b=_
   grind
  ·rw [if_neg e0]
   unfold nJ
   rw [xD (by rw [h.2 _ (zW hr hx ha)];exact hb)]
   show (if b < j then at2 A (tr r x a) b else at2 A (tr r x a) b - _)=_
   by_cases ej:b < j
   ·rw [if_pos ej,hz b ej];grind
   ·rw [if_neg ej,hpr b hb]
theorem zA {A:Mt} {j:Nat}:∀(f k:Nat),k+f=A.length→∀i,k≤i→i < lZ A j f k→at2 A i j=0
 |0,k,_,i,h1,h2=>by simp [lZ] at h2;omega
 |f+1,k,h,i,h1,h2=>by
  unfold lZ at h2
  by_cases hc:k < A.length∧at2 A k j=0
  ·rw [if_pos hc] at h2
   by_cases e:i=k
   ·subst e;exact hc.2
   ·exact zA f (k+1) (by omega) i (by omega) h2
  ·rw [if_neg hc] at h2;omega
theorem oK {A:Mt} {R C:Nat} (h:vQ A R C):∀n,n≤C→vQ (nZ A n).1 R C∧∃s,Red R C n (at2 A) (at2 (nZ A n).1) (nZ A n).2 s
 |0,_=>⟨h,1,Red.start⟩
 |n+1,hn=>by
  obtain ⟨hd,s,hr⟩:=oK h n (by omega)
  rw [wS]
  generalize nZ A n=st at hd hr
  obtain ⟨B,pv⟩:=st
  simp only at hd hr
  have hlen:=hr.len
  obtain ⟨f1,f2,f3⟩:=aFL (A:=B) (j:=n) (B.length - pv.length) pv.length (by rw [hd.1];omega)
  have f4:=zA (A:=B) (j:=n) (B.length - pv.length) pv.length (by rw [hd.1];omega)
  unfold aOK
  simp only
  generalize lZ B n (B.length - pv.length) pv.length=x at f1 f2 f3 f4
  by_cases hx:x < B.length
  ·rw [if_pos hx]
   rw [hd.1] at hx
   refine ⟨aLS hd (by omega) hx,_,hr.step (x:=x) (by omega) f1 hx (f3 (by rw [hd.1];exact hx)) (aMY hd (by omega) hx (by omega) (fun b hb=>hr.zero x b f1 hx hb))⟩
  ·rw [if_neg hx]
   exact ⟨hd,s,hr.none (fun i h1 h2=>f4 i h1 (by rw [hd.1] at hx;omega))⟩
end Go.Proofs.YthhldplegmeolaaGreat
namespace Go.Proofs.YthhldplegmeolaaGreat
open Go Go.Fx
def aKS (pv:List Nat) (z:Nat→Rat):Nat→Rat:=fun j=>if j∈pv then 0 else z j
theorem oI {pv:List Nat} {i:Nat} (h:i < pv.length):pv.getD i 0=pv[i]:=by simp [List.getD,h]
theorem pY {pv:List Nat} {j:Nat}:j∈pv↔∃t,t < pv.length∧pv.getD t 0=j:=by
 rw [List.mem_iff_getElem]
 constructor
 ·rintro ⟨t,ht,e⟩;exact ⟨t,ht,by simp [List.getD,ht,e]⟩
 ·rintro ⟨t,ht,e⟩;exact ⟨t,ht,by simpa [List.getD,ht] using e⟩
theorem Red.piv_lt {R C j:Nat} {f0 f:Nat→Nat→Rat} {pv:List Nat} {s:Rat} (h:Red R C j f0 f pv s) {t:Nat} (ht:t < pv.length):pv.getD t 0 < j:=(h.inc t ht).1
theorem Red.piv_inj {R C j:Nat} {f0 f:Nat→Nat→Rat} {pv:List Nat} {s:Rat} (h:Red R C j f0 f pv s) {t u:Nat} (ht:t < pv.length) (hu:u < pv.length) (e:pv.getD t 0=pv.getD u 0):t=u:=by
 rcases Nat.lt_trichotomy t u with l|l|l
 ·have:=(h.inc u hu).2.2 t l;omega
 ·exact l
 ·have:=(h.inc t ht).2.2 u l;omega
section
variable {R C R':Nat} {f0 f g0 g:Nat→Nat→Rat} {pv qv:List Nat} {s s':Rat}
end
end Go.Proofs.YthhldplegmeolaaGreat
namespace Go.Proofs.YthhldplegmeolaaGreat
open Go Go.Fx
def nullF (f:Nat→Nat→Rat) (pv:List Nat) (j c:Nat):Rat:=if c∈pv then - f (pv.idxOf c) j else if c=j then 1 else 0
def aLP (pv:List Nat) (C:Nat):List Nat:=(List.range C).filter (fun j=>decide (j ∉ pv))
def nullV (E:Mt) (pv:List Nat) (C j:Nat):List Rat:=(List.range C).map (nullF (at2 E) pv j)
def nullM (E:Mt) (pv:List Nat) (C:Nat):Mt:=(aLP pv C).map (nullV E pv C)
def aRE (A:Mt) (C:Nat):Mt:=nullM (nZ A C).1 (nZ A C).2 C
def rk (A:Mt) (C:Nat):Nat:=(nZ A C).2.length
theorem Red.idx {R C j:Nat} {f0 f:Nat→Nat→Rat} {pv:List Nat} {s:Rat} (h:Red R C j f0 f pv s) {t:Nat} (ht:t < pv.length):pv.idxOf (pv.getD t 0)=t:=by
 have hm:pv.getD t 0∈pv:=pY.2 ⟨t,ht,rfl⟩
 have h1:pv.idxOf (pv.getD t 0) < pv.length:=List.idxOf_lt_length_of_mem hm
 exact h.piv_inj h1 ht ((oI h1).trans (List.getElem_idxOf h1))
theorem Red.idx_lt {pv:List Nat} {c:Nat} (hm:c∈pv):pv.idxOf c < pv.length∧pv.getD (pv.idxOf c) 0=c:=by
 have h1:pv.idxOf c < pv.length:=List.idxOf_lt_length_of_mem hm
 exact ⟨h1,(oI h1).trans (List.getElem_idxOf h1)⟩
section
variable {R C:Nat} {f0 f:Nat→Nat→Rat} {pv:List Nat} {s:Rat}
theorem Red.nodup (h:Red R C C f0 f pv s):pv.Nodup:=by
 rw [List.nodup_iff_pairwise_ne,List.pairwise_iff_getElem]
 intro i j hi hj hij e
 have:=h.piv_inj (t:=i) (u:=j) hi hj (by rw [oI hi,oI hj];exact e)
 omega
theorem zS (p:Nat→Bool):∀l:List Nat,(l.filter p).length+(l.filter (fun x=> !p x)).length=l.length
 |[]=>rfl
 |x::l=>by
  have ih:=zS p l
  rw [List.filter_cons,List.filter_cons,List.length_cons]
  cases p x <;>simp <;>omega
theorem Red.free_len (h:Red R C C f0 f pv s):(aLP pv C).length+pv.length=C:=by
 have h1:((List.range C).filter (fun j=>decide (j ∉ pv))).length+((List.range C).filter (fun j=> !decide (j ∉ pv))).length=C:=by
  have:=zS (fun j=>decide (j ∉ pv)) (List.range C)
  rw [List.length_range] at this;omega
 have h2:((List.range C).filter (fun j=> !decide (j ∉ pv))).length=pv.length:=by
  apply Nat.le_antisymm
  ·refine List.Nodup.length_le_of_subset (List.Pairwise.filter _ List.nodup_range) (fun x hx=>?_)
   have:=(List.mem_filter.1 hx).2
   simpa using this
  ·refine List.Nodup.length_le_of_subset h.nodup (fun x hx=>?_)
   obtain ⟨t,ht,rfl⟩:=pY.1 hx
   refine List.mem_filter.2 ⟨List.mem_range.2 (h.piv_lt ht),by simpa using hx⟩
 unfold aLP
 omega
end
/- systems: the right side is the column C of a wider matrix -/
section
variable {R C W:Nat} {f0 f:Nat→Nat→Rat} {pv:List Nat} {s:Rat}
def aDW (f:Nat→Nat→Rat) (pv:List Nat) (C c:Nat):Rat:=if c∈pv then f (pv.idxOf c) C else 0
def aOX (R C:Nat) (f:Nat→Nat→Rat) (pv:List Nat):Prop:=∀i,pv.length≤i→i < R→f i C=0
def aDU (C:Nat) (x:Nat→Rat) (y:Rat):Nat→Rat:=fun j=>if j < C then x j else if j=C then y else 0
theorem xZ {C W:Nat} (hW:C < W) {g x:Nat→Rat} {y:Rat}:sm W (fun j=>g j*aDU C x y j)=sm C (fun j=>g j*x j)+g C*y:=by
 obtain ⟨d,rfl⟩:∃d,W=C+1+d:=⟨W - (C+1),by omega⟩
 rw [zO]
 have h1:sm (C+1) (fun j=>g j*aDU C x y j)=sm C (fun j=>g j*x j)+g C*y:=by
  simp only [sm]
  rw [bS (n:=C) (g:=fun j=>g j*x j) (fun j hj=>by simp only [aDU,if_pos hj])]
  simp only [aDU,Nat.lt_irrefl,if_false,if_true]
 have h2:sm d (fun k=>g (C+1+k)*aDU C x y (C+1+k))=0:=rE (fun k _=>by
  simp only [aDU,if_neg (show ¬C+1+k < C by omega),if_neg (show ¬C+1+k=C by omega)];grind)
 rw [h1,h2];grind
theorem Red.rowC (h:Red R W C f0 f pv s) {t:Nat} (ht:t < pv.length) (x:Nat→Rat):sm C (fun j=>f t j*x j)=x (pv.getD t 0)+sm C (fun j=>f t j*aKS pv x j):=by
 have hR:=h.len
 have h1:sm C (fun j=>f t j*x j)=sm C (fun j=>(f t j*x j - f t j*aKS pv x j)+f t j*aKS pv x j):=bS (fun j _=>by grind)
 rw [h1,aCT]
 congr 1
 rw [rH (p:=pv.getD t 0) (h.piv_lt ht) (fun j hj hne=>?_)]
 ·have hm:pv.getD t 0∈pv:=pY.2 ⟨t,ht,rfl⟩
  rw [h.unit t t ht (by omega)]
  simp only [aKS,if_pos hm,oD,if_true];grind
 ·by_cases hm:j∈pv
  ·obtain ⟨u,hu,rfl⟩:=pY.1 hm
   have:t≠u:=fun e=>hne (by rw [e])
   rw [h.unit u t hu (by omega)]
   simp only [oD,if_neg this];grind
  ·simp only [aKS,if_neg hm];grind
theorem Red.sol (h:Red R W C f0 f pv s) (hW:C < W) (x:Nat→Rat):(∀i,i < R→sm C (fun j=>f0 i j*x j)=f0 i C)↔(∀i,i < R→sm C (fun j=>f i j*x j)=f i C):=by
 have k0:Go.Proofs.YthhldplegmeolaaGreat.ker R W f0 (aDU C x (-1))↔(∀i,i < R→sm C (fun j=>f0 i j*x j)=f0 i C):=by
  unfold Go.Proofs.YthhldplegmeolaaGreat.ker
  constructor
  ·intro hk i hi;have:=hk i hi;rw [xZ hW] at this;grind
  ·intro hk i hi;have:=hk i hi;rw [xZ hW];grind
 have k1:Go.Proofs.YthhldplegmeolaaGreat.ker R W f (aDU C x (-1))↔(∀i,i < R→sm C (fun j=>f i j*x j)=f i C):=by
  unfold Go.Proofs.YthhldplegmeolaaGreat.ker
  constructor
  ·intro hk i hi;have:=hk i hi;rw [xZ hW] at this;grind
  ·intro hk i hi;have:=hk i hi;rw [xZ hW];grind
 exact (k0.symm.trans (h.ker _).symm).trans k1
theorem Red.sol_x (h:Red R W C f0 f pv s) (hW:C < W) (ok:aOX R C f pv):∀i,i < R→sm C (fun j=>f0 i j*aDW f pv C j)=f0 i C:=by
 rw [h.sol hW]
 intro i hi
 by_cases e:i < pv.length
 ·rw [h.rowC e]
  have hm:pv.getD i 0∈pv:=pY.2 ⟨i,e,rfl⟩
  rw [rE (fun j _=>by
   simp only [aKS,aDW]
   by_cases hj:j∈pv
   ·rw [if_pos hj];grind
   ·rw [if_neg hj,if_neg hj];grind)]
  simp only [aDW,if_pos hm,h.idx e];grind
 ·rw [rE (fun j hj=>by rw [h.zero i j (by omega) hi hj];grind),ok i (by omega) hi]
theorem Red.sol_iff (h:Red R W C f0 f pv s) (hW:C < W):aOX R C f pv↔∃x:Nat→Rat,∀i,i < R→sm C (fun j=>f0 i j*x j)=f0 i C:=by
 constructor
 ·intro ok;exact ⟨_,h.sol_x hW ok⟩
 ·rintro ⟨x,hx⟩ i hp hi
  have:=(h.sol hW x).1 hx i hi
  rw [←this]
  exact rE (fun j hj=>by rw [h.zero i j hp hi hj];grind)
end
end Go.Proofs.YthhldplegmeolaaGreat

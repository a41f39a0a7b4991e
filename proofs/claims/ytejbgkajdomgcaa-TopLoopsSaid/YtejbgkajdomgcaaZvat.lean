/- TopLoops, plain: forests in another order, how many cycles, walks. -/
import Derived.Test.YtejbgkajdomgcaaZvas
import Derived.Test.YtejbgkajdomgcaaZvao
import Derived.Test.YtejbgkajdomgcaaZval
set_option linter.unusedSimpArgs false
set_option linter.unusedVariables false
set_option maxRecDepth 100000
set_option maxHeartbeats 4000000
namespace Go.Proofs.Ytejbgkajdomgcaa
open Go Go.Fx
theorem aAK {E:List (Int × Int)} {e:Int × Int} {x y:Int}:Con (E++[e]) x y↔(lo E x=lo E y∨(lo E x=lo E e.1∨lo E x=lo E e.2)∧(lo E y=lo E e.1∨lo E y=lo E e.2)):=by
 rw [←lo_iff,mJ,xA]
theorem Fst.swap {E F:List (Int × Int)} {a b:Int × Int} (h:Fst E (a::b::F)):Fst E (b::a::F):=by
 obtain ⟨h1,h2,h3⟩:=h
 rw [aAK] at h2
 rw [←lo_iff] at h1
 refine ⟨fun hc=>h2 (.inl (lo_iff.2 hc)),fun hc=>?_,h3.anti (fun e he=>?_)⟩
 ·rw [aAK] at hc
  rcases hc with hc|⟨c1,c2⟩
  ·exact h1 hc
  ·apply h2
   rcases c1 with c1|c1 <;>rcases c2 with c2|c2
   ·exact absurd (c1.trans c2.symm) h1
   ·exact .inr ⟨.inl c1.symm, .inr c2.symm⟩
   ·exact .inr ⟨.inr c2.symm, .inl c1.symm⟩
   ·exact absurd (c1.trans c2.symm) h1
 ·simp only [List.mem_append,List.mem_singleton] at he ⊢
  rcases he with (he|he)|he
  ·exact .inl (.inl he)
  ·exact .inr he
  ·exact .inl (.inr he)
theorem Fst.perm {F F':List (Int × Int)} (hp:F.Perm F'):∀{E:List (Int × Int)},Fst E F→Fst E F':=by
 induction hp with
 |nil=>exact fun h=>h
 |cons a _ ih=>exact fun h=>⟨h.1,ih h.2⟩
 |swap a b l=>exact fun h=>Fst.swap h
 |trans _ _ ih1 ih2=>exact fun h=>ih2 (ih1 h)
theorem aIK (ms:List LK):fA ms (kt ms)=0:=by
 have h:Fst [] (es ms (kt ms)):=Fst.perm ((aDR ms).symm.map (pr ms)) (aCP ms (sN ms))
 unfold fA
 rw [if_neg (fun h'=>h' (aCT ms)),if_neg (fun h'=>h' (aCD ms)),if_neg (fun h'=>h' h)]
theorem aNQ (ms:List LK):spn ms (kt ms):=(aDQ (aCT ms)).2 (fun _ _=>aOF)
theorem aEI (tr:Int→List Int) (T:List Int):∀m:Nat,(zD tr T m).length+((rg m).filter (fun k=>decide (k∈T))).length=m
 |0=>rfl
 |m+1=>by
  have ih:=aEI tr T m
  have hr:rg (m+1)=rg m++[(m:Int)]:=by unfold rg;rw [List.range_succ,List.map_append];rfl
  rw [hr,List.filter_append,List.length_append]
  unfold zD
  by_cases h:(m:Int)∈T
  ·rw [if_pos h]
   simp only [List.filter_cons,List.filter_nil,h,decide_true,if_true,List.length_singleton]
   omega
  ·rw [if_neg h,List.length_append,List.length_singleton]
   simp only [List.filter_cons,List.filter_nil,h,decide_false,Bool.false_eq_true,if_false,List.length_nil]
   omega
theorem aFK {tr:Int→List Int} {T:List Int} {m:Nat} (hr:uH m T) (ha:asc T):(zD tr T m).length+T.length=m:=by
 have h:=aEI tr T m
 have hn:T.Nodup:=List.Pairwise.imp (fun {a b} h (e:a=b)=>by omega) ha
 have hp:((rg m).filter (fun k=>decide (k∈T))).Perm T:=(List.perm_ext_iff_of_nodup ((aNJ m).filter _) hn).2 (fun k=>by
  rw [List.mem_filter]
  exact ⟨fun h=>of_decide_eq_true h.2,fun h=>⟨jI.2 (hr k h),decide_eq_true h⟩⟩)
 rw [hp.length_eq] at h
 exact h
def lC (s:Int):Int:=if 0 < s then s - 1 else s
theorem aOP {m:Nat} {s:Int} (h0:s≠0) (h:sk s < m): -(m:Int)≤lC s∧lC s < m:=by
 unfold sk at h
 unfold lC
 by_cases hs:0 < s
 ·rw [if_pos hs];rw [if_neg (by omega)] at h;omega
 ·rw [if_neg hs];rw [if_pos (by omega)] at h;omega
theorem sZ {s:Int} (h0:s≠0):(0 < s∧lC s=s - 1∧sk s=s - 1)∨(s < 0∧lC s=s∧sk s= -1 - s):=by
 unfold lC sk
 by_cases hs:0 < s
 ·exact .inl ⟨hs,by rw [if_pos hs],by rw [if_neg (by omega)]⟩
 ·exact .inr ⟨by omega,by rw [if_neg hs],by rw [if_pos (by omega)];omega⟩
theorem aKM {E:List RX} {s:Int} (h0:s≠0) (hn:∀k:Int,0≤k→k < E.length→(oF E k).nz) (h:sk s < E.length):Qn.rel (txk E (lC s)) (tst (oF E) s):=by
 unfold txk tst
 rcases sZ h0 with ⟨h1,h2,h3⟩|⟨h1,h2,h3⟩
 ·rw [h2,h3,if_pos (by omega),if_pos h1]
  exact Qn.rel.refl _
 ·rw [h3] at h
  rw [h2,h3,if_neg (by omega),if_neg (by omega)]
  exact Qn.prm_rel (Qn.nz_cnj (hn (-1 - s) (by omega) h))
theorem aJL {E:List RX} (hn:∀k:Int,0≤k→k < E.length→(oF E k).nz):∀(l:List Int) (q q':Qn),(∀s∈l,s≠0∧sk s < E.length)→Qn.rel q q'→Qn.rel (aw E q (l.map lC)) (wlk (oF E) q' l)
 |[],q,q',_,h=>h
 |s::l,q,q',hl,h=>by
  obtain ⟨h0,h1⟩:=hl s (by simp)
  exact aJL hn l _ _ (fun x hx=>hl x (by simp [hx])) ((aKM h0 hn h1).mul h)
theorem aNU {E:List RX} {s:Int} (h0:s≠0) (h:sk s < E.length):xfr E (lC s)=sa (lks E) s∧xto E (lC s)=sb (lks E) s:=by
 unfold xfr xto sa sb
 rcases sZ h0 with ⟨h1,h2,h3⟩|⟨h1,h2,h3⟩
 ·rw [h3] at h
  have c1:0≤s - 1:=by omega
  rw [h2,h3,if_pos c1,if_pos c1,if_pos h1,if_pos h1,mW ⟨by omega,h⟩]
  exact ⟨rfl,rfl⟩
 ·rw [h3] at h
  have c1:¬0≤s:=by omega
  have c2:¬0 < s:=by omega
  rw [h2,h3,if_neg c1,if_neg c1,if_neg c2,if_neg c2,mW ⟨by omega,h⟩]
  exact ⟨rfl,rfl⟩
theorem zW {ms:List LK}:∀{l:List Int} {u v:Int},Trl ms l u v→l≠[]→sa ms (gt l 0)=u∧sb ms (gt l ((l.length:Int) - 1))=v∧∀i:Nat,i+1 < l.length→sa ms (gt l ((i+1:Nat):Int))=sb ms (gt l (i:Int))
 |[],_,_,_,h=>absurd rfl h
 |s::l,u,v,ht,_=>by
  obtain ⟨h1,h2,h3⟩:=ht.inv
  refine ⟨h2.symm,?_,fun i hi=>?_⟩
  ·match l,h3 with
   |[],h3=>exact h3.nil_inv
   |t::l,h3=>
    have:=(zW h3 (by simp)).2.1
    rw [←this]
    simp only [List.length_cons]
    rw [show (((l.length+1+1:Nat):Int) - 1)=((l.length+1:Nat):Int) by omega,show (((l.length+1:Nat):Int) - 1)=((l.length:Nat):Int) by omega]
    rfl
  ·match l,h3,hi with
   |t::l,h3,hi=>
    match i with
    |0=>exact (zW h3 (by simp)).1
    |i+1=>exact (zW h3 (by simp)).2.2 i (by simpa using hi)
theorem aKD {E:List RX} {l:List Int} {u:Int} (ht:Trl (lks E) l u u) (hl:∀s∈l,s≠0∧sk s < E.length) (i:Nat) (hi:i < l.length):xfr E (gt (l.map lC) i)=xto E (gt (l.map lC) (if i=0 then (l.length:Int) - 1 else (i:Int) - 1)):=by
 have hne:l≠[]:=fun e=>by rw [e] at hi;exact absurd hi (by simp)
 obtain ⟨h1,h2,h3⟩:=zW ht hne
 have hx:∀j:Nat,j < l.length→xfr E (gt (l.map lC) j)=sa (lks E) (gt l j)∧xto E (gt (l.map lC) j)=sb (lks E) (gt l j):=fun j hj=>by
  obtain ⟨g0,g1⟩:=hl _ (eO (ms:=l) (i:=(j:Int)) ⟨by omega,by omega⟩)
  rw [aHZ ⟨by omega,by omega⟩]
  exact aNU g0 g1
 by_cases h0:i=0
 ·subst h0
  rw [if_pos rfl,show ((l.length:Int) - 1)=((l.length - 1:Nat):Int) by omega,(hx 0 hi).1,(hx (l.length - 1) (by omega)).2]
  rw [show ((l.length:Int) - 1)=((l.length - 1:Nat):Int) by omega] at h2
  exact h1.trans h2.symm
 ·rw [if_neg h0,show ((i:Int) - 1)=((i - 1:Nat):Int) by omega,(hx i hi).1,(hx (i - 1) (by omega)).2]
  have:=h3 (i - 1) (by omega)
  rwa [show i - 1+1=i by omega] at this
theorem uR {tr:Int→List Int} {T:List Int} {c:List Int}:∀{m:Nat},c∈zD tr T m↔∃z:Int,0≤z∧z < m∧z ∉ T∧c=(z+1)::tr z
 |0=>⟨fun h=>absurd h List.not_mem_nil,fun ⟨z,h0,h1,_⟩=>by omega⟩
 |m+1=>by
  unfold zD
  by_cases h:(m:Int)∈T
  ·rw [if_pos h,uR (m:=m)]
   exact ⟨fun ⟨z,h0,h1,h2,h3⟩=>⟨z,h0,by omega,h2,h3⟩,fun ⟨z,h0,h1,h2,h3⟩=>⟨z,h0,by
    by_cases e:z=m
    ·rw [e] at h2;exact absurd h h2
    ·omega,h2,h3⟩⟩
  ·rw [if_neg h,List.mem_append,uR (m:=m),List.mem_singleton]
   constructor
   ·rintro (⟨z,h0,h1,h2,h3⟩|e)
    ·exact ⟨z,h0,by omega,h2,h3⟩
    ·exact ⟨m,by omega,by omega,h,e⟩
   ·rintro ⟨z,h0,h1,h2,h3⟩
    by_cases e:z=m
    ·exact .inr (by rw [h3,e])
    ·exact .inl ⟨z,h0,by omega,h2,h3⟩
theorem aIG {ms:List LK}:∀{l:List Int} {u v:Int},Trl ms l u v→∀s∈l,s≠0
 |[],_,_,_,s,h=>absurd h List.not_mem_nil
 |t::l,_,_,ht,s,h=>by
  obtain ⟨h1,_,h3⟩:=ht.inv
  rcases List.mem_cons.1 h with rfl|h
  ·exact h1
  ·exact aIG h3 s h
theorem aFG {ms:List LK} {T l:List Int} {u v:Int} (h:Trail ms T l u v):l.length≤T.length:=by
 have:=nS (l.map sk) T h.nod (fun x hx=>by
  obtain ⟨s,hs,rfl⟩:=List.mem_map.1 hx
  exact h.mem s hs)
 rwa [List.length_map] at this
theorem aJY {E:List RX} {m:Nat} {T T2:List Int} {tr:Int→List Int} {S:Int→Qn} {rows:List CY} {al cl:Bool} (hm:E.length=m) (hn:∀k:Int,0≤k→k < E.length→(oF E k).nz) (hR:uH m T) (hF:Fst [] (es (lks E) T)) (hsp:spn (lks E) T) (htr:Trs (lks E) T tr) (hrows:rows.map CY.es=zD tr T m) (hT2:TrOk E m T2) (hS:∀x,(S x).nz) (hag:∀k∈T2,oL (lks E) (oF E) S k)
  (hal:al=true↔∀z:Nat,z < m→oL (lks E) (oF E) S z) (hcl:cl=true↔∀j:Nat,j < rows.length→Qn.rel (wlk (oF E) Qn.one (gt rows (j:Int)).es) Qn.one):al=cl:=by
 have hlm:(lks E).length=m:=by rw [mP,hm]
 have hR':uH (lks E).length T:=by rw [hlm];exact hR
 have key:=aGC (ms:=lks E) (tq:=oF E) (T:=T) (T':=T2) (tr:=tr) (S:=S) (fun k h0 h1=>hn k h0 (by rw [mP] at h1;exact h1)) hF hR' (fun z h0 h1=>aEA hR' hsp h0 h1) (fun z h0 h1=>⟨(htr.go z h0 h1).trl,(htr.go z h0 h1).mem⟩) (fun k hk=>by rw [hlm];exact hT2.r k hk) (fun z h0 h1=>by
  rw [hlm] at h1
  obtain ⟨a,rfl⟩:∃a:Nat,z=a:=⟨z.toNat,by omega⟩
  exact hT2.s a (by omega)) hS hag
 rw [hlm] at key
 have h1:(∀z:Nat,z < m→oL (lks E) (oF E) S z)↔∀k:Int,0≤k→k < m→oL (lks E) (oF E) S k:=⟨fun h k h0 h1=>by
  obtain ⟨a,rfl⟩:∃a:Nat,k=a:=⟨k.toNat,by omega⟩
  exact h a (by omega),fun h z hz=>h z (by omega) (by omega)⟩
 have h2:(∀j:Nat,j < rows.length→Qn.rel (wlk (oF E) Qn.one (gt rows (j:Int)).es) Qn.one)↔∀z:Int,0≤z→z < m→z ∉ T→Qn.rel (wlk (oF E) Qn.one ((z+1)::tr z)) Qn.one:=by
  constructor
  ·intro h z h0 h1 hz
   have hc:(z+1)::tr z∈rows.map CY.es:=by rw [hrows];exact uR.2 ⟨z,h0,h1,hz,rfl⟩
   obtain ⟨r,hr,e⟩:=List.mem_map.1 hc
   obtain ⟨j,hj,rfl⟩:=List.mem_iff_getElem.1 hr
   have:=h j hj
   rw [aP hj] at this
   rwa [e] at this
  ·intro h j hj
   have hc:(gt rows (j:Int)).es∈zD tr T m:=by rw [←hrows];exact List.mem_map_of_mem (eO ⟨by omega,by omega⟩)
   obtain ⟨z,h0,h1,hz,e⟩:=uR.1 hc
   rw [e];exact h z h0 h1 hz
 have hb:al=true↔cl=true:=by rw [hal,hcl,h1,h2];exact key
 cases al <;>cases cl <;>simp_all
end Go.Proofs.Ytejbgkajdomgcaa
namespace Go.Fx
open Go
section
variable {P:Program} {n:Nat} {G:Env} {C:World→Prop} {ty:TypeId}
def mx2 (a b:Int):Int:=if a < b then b else a
def mn2 (a b:Int):Int:=if b < a then b else a
theorem aBT {x y z u:Operand} {k:IntKind} {a b c d:Int} {at_:Array TypeId} (hx:ev G x=some (.int k a)) (hy:ev G y=some (.int k b)) (hz:ev G z=some (.int k c)) (hu:ev G u=some (.int k d)):
  Const P n G (.call {callee:= .builtin .max,args:=#[x,y,z,u],argTypes:=at_}) ty C (.int k (mx2 (mx2 (mx2 a b) c) d)):=by
 unfold mx2
 refine ⟨?_⟩
 intro s ha dst pos after guard w _
 simp [execOp,resolve,invoke,builtin,Builtin.max_,Builtin.max2,ha.ev hx,ha.ev hy,ha.ev hz,ha.ev hu]
theorem aCJ {x y z u:Operand} {k:IntKind} {a b c d:Int} {at_:Array TypeId} (hx:ev G x=some (.int k a)) (hy:ev G y=some (.int k b)) (hz:ev G z=some (.int k c)) (hu:ev G u=some (.int k d)):
  Const P n G (.call {callee:= .builtin .min,args:=#[x,y,z,u],argTypes:=at_}) ty C (.int k (mn2 (mn2 (mn2 a b) c) d)):=by
 unfold mn2
 refine ⟨?_⟩
 intro s ha dst pos after guard w _
 simp [execOp,resolve,invoke,builtin,Builtin.min_,Builtin.min2,ha.ev hx,ha.ev hy,ha.ev hz,ha.ev hu]
end
end Go.Fx
namespace Go.Proofs.Ytejbgkajdomgcaa
open Go Go.Fx
section
variable {X:List Nat} {w0:World} {M0:List Ent} {I0:List aO}
theorem aKV {p q:Option Addr} {n:Int} {E:List RX} {ls:List Int} {m c t ct:Nat} (hm:E.length=m) (hm2:(m:Int)≤9223372036854775807) (ht:ls.length=t) (ht2:(t:Int)≤9223372036854775807) (hp:aN p (recs eX E)∈I0) (hq:aN q (recs (eI .i64) ls)∈I0):
  CD Try.prog 3 [.int .i64 n, .slice p m c, .slice q t ct] X w0 M0 I0 (fun v M I=>M0=M∧I0=I∧v= .bool true):=by
 subst ht
 have hL:=fun M0 I0=>aFE (X:=X) (w0:=w0) (M0:=M0) (I0:=I0)
 have hC:=fun M0 I0 h=>sV (X:=X) (w0:=w0) (M0:=M0) (I0:=I0) (p:=p) (n:=n) (es:=E) (m:=m) (c:=c) hm hm2 h
 refine uM Try.func3 rfl Try.ntmps3 rfl ?_
 refine lU ?_
 repeat refine aD ?_
 refine iM rfl (hL _ _) ?_
 by_cases h1:8 < n
 ·repeat refine aD ?_
  refine lL rfl rfl (⟨rfl,rfl,rfl⟩)
 by_cases h2:16 < m
 ·repeat refine aD ?_
  refine lL rfl rfl (⟨rfl,rfl,rfl⟩)
 by_cases h3:16 < ls.length
 ·repeat refine aD ?_
  refine lL rfl rfl (⟨rfl,rfl,rfl⟩)
 by_cases h4:kZ n E=0
 rotate_left
 ·generalize kZ n E=z at hC h4
  repeat refine aD ?_
  refine iM rfl (hC _ _ aG) ?_
  repeat refine aD ?_
  refine lL rfl rfl (⟨rfl,rfl,rfl⟩)
 obtain ⟨hn,hm6,he⟩:=yO h4
 rw [h4] at hC
 repeat refine aD ?_
 refine iM rfl (hC _ _ aG) ?_
 repeat refine aD ?_
 refine qU [0,1,2,44,45] rfl (fun k G M I=>∃i:Nat,i≤m∧k=m - i∧G=[(46, .int .i64 i)]∧M0=M∧I0=I) (m) (⟨0,by omega,rfl,rfl,rfl,rfl⟩) ?_
 rintro kk G M I ⟨i,hi,rfl,rfl,rfl,rfl⟩
 by_cases hii:i < m
 ·repeat refine aD ?_
  refine iL (fun b8=>?_)
  repeat refine aD ?_
  refine aF (cs:=eX (gt E i)) .here ?_
  generalize gt E (i:Int)=x
  repeat refine aD ?_
  refine iL (fun b9=>?_)
  repeat refine aD ?_
  refine aF (cs:=eQ x.q) .here ?_
  repeat refine aD ?_
  refine aC rfl (fun _=>aBT rfl rfl rfl rfl) rfl rfl ?_
  generalize mx2 (mx2 (mx2 x.q.a x.q.b) x.q.c) x.q.d=mx
  by_cases hmx:100 < mx
  ·repeat refine aD ?_
   refine lL rfl rfl (⟨rfl,rfl,rfl⟩)
  repeat refine aD ?_
  refine aC rfl (fun _=>aCJ rfl rfl rfl rfl) rfl rfl ?_
  generalize mn2 (mn2 (mn2 x.q.a x.q.b) x.q.c) x.q.d=mn
  by_cases hmn:mn < -100
  ·repeat refine aD ?_
   refine lL rfl rfl (⟨rfl,rfl,rfl⟩)
  repeat refine aD ?_
  refine mI (m - (i+1)) (⟨i+1,by omega,rfl,rfl,rfl,rfl⟩)
 ·obtain rfl:m=i:=by omega
  obtain ⟨n,rfl⟩:∃n':Nat,n=n':=⟨n.toNat,by omega⟩
  have hG:=fun M0 I0 h=>xZ (X:=X) (w0:=w0) (M0:=M0) (I0:=I0) (p:=p) (N:=n) (E:=E) (m:=m) (c:=c) hm (by omega) h
  have hgd:Gd (lks E) n:=⟨fun k h0 h1=>by
   rw [mP] at h1
   rw [mW ⟨h0,h1⟩];exact (he _ (eO ⟨h0,h1⟩)).r.1,fun k h0 h1=>by
   rw [mP] at h1
   rw [mW ⟨h0,h1⟩];exact (he _ (eO ⟨h0,h1⟩)).r.2,fun k h0 h1=>by
   rw [mP] at h1
   unfold wt;rw [mW ⟨h0,h1⟩];show (0:Int).natAbs≤_;decide⟩
  have hlm:(lks E).length=m:=by rw [mP,hm]
  repeat refine aD ?_
  (refine dS rfl (hG _ _ aG) ?_;rintro _ _ _ ⟨pg,cg,rfl,rfl,rfl⟩;refine cK ?_)
  refine iL (fun b10=>?_)
  repeat refine aD ?_
  refine aF (cs:=[.int .i64 n, .slice pg m cg]) .here ?_
  repeat refine aD ?_
  have hT:=fun M0 I0 h1 h2=>zS (X:=X) (w0:=w0) (M0:=M0) (I0:=I0) (p:=pg) (q:=q) (n:=n) (ms:=lks E) (ls:=ls) (m:=m) (c:=cg) (t:=ls.length) (ct:=ct) (by omega) hlm (by omega) hgd rfl (by omega) h1 h2
  have hK:=fun M0 I0 h=>aHL (X:=X) (w0:=w0) (M0:=M0) (I0:=I0) (p:=pg) (n:=n) (ms:=lks E) (m:=m) (c:=cg) (by omega) hlm (by omega) hgd h
  have hcc:rJ (lks E) ls=0→fA (lks E) ls=0∧spn (lks E) ls:=fun h=>by
   unfold rJ at h
   by_cases c1:fA (lks E) ls=0
   ·rw [if_neg (fun h'=>h' c1)] at h
    by_cases c2:spn (lks E) ls
    ·exact ⟨c1,c2⟩
    ·rw [if_pos c2] at h;exact absurd h (by decide)
   ·rw [if_pos c1] at h;exact absurd h c1
  generalize rJ (lks E) ls=z at hT hcc
  refine iM rfl (hT _ _ aG aG) ?_
  refine aES (fun G M I=>∃(q':Option Addr) (ct':Nat) (T:List Int),fA (lks E) T=0∧spn (lks E) T∧G=[(0, .int .i64 n),(1, .slice p m c),(2, .slice q' T.length ct'),(10, .pointer (some ⟨b10,0,none⟩))]∧M0=M∧I=aN q' (recs (eI .i64) T)::aN (some ⟨b10,0,none⟩) [.int .i64 n, .slice pg m cg]::aN pg (recs eK (lks E))::I0) ?_ ?_
  ·by_cases hz:z=0
   ·obtain ⟨c1,c2⟩:=hcc hz
    repeat refine aD ?_
    refine ND_hv (φ:=aN q (recs (eI .i64) ls)) (Hv.mem aG) ?_
    refine tyE ⟨q,ct,ls,c1,c2,rfl,rfl,rfl⟩
   ·repeat refine aD ?_
    (refine dS rfl (hK _ _ aG) ?_;rintro _ _ _ ⟨rfl,qk,ck,rfl,hck,rfl⟩;refine cK ?_)
    repeat refine aD ?_
    refine tyE ⟨qk,ck,kt (lks E),aIK _,aNQ _,rfl,rfl,rfl⟩
  ·rintro G M I ⟨q',ct',T,hfc,hsp,rfl,rfl,rfl⟩
   obtain ⟨hR,hasc,hF⟩:=wB hfc
   obtain ⟨tr,htr⟩:=aOU hR hsp
   have hTm:=aFK (tr:=tr) hR hasc
   rw [hlm] at hTm
   have hCy:=fun M0 I0 h1 h2=>yC (X:=X) (w0:=w0) (M0:=M0) (I0:=I0) (p:=pg) (q:=q') (n:=n) (ms:=lks E) (ls:=T) (tr:=tr) (m:=m) (c:=cg) (t:=T.length) (ct:=ct') (by omega) hlm (by omega) hgd rfl (by omega) hfc hsp htr h1 h2
   have hCo:=fun M0 I0 h=>vK (fun _=>True) (X:=X) (w0:=w0) (M0:=M0) (I0:=I0) (p:=p) (n:=n) (m:=m) (c:=c) (E:=E) hm (by omega) h4 h
   repeat refine aD ?_
   (refine dS rfl (hCy _ _ aG aG) ?_;rintro _ _ _ ⟨rfl,q2,c2,rows,rfl,hrows,rfl⟩;refine cK ?_)
   have hrl:rows.length+T.length=m:=by rw [←hTm,←hrows,List.length_map]
   repeat refine aD ?_
   (refine dS rfl (hCo _ _ aG) ?_;rintro _ _ _ ⟨rfl,rfl,hcn⟩;refine cK ?_)
   rcases hcn with ⟨rfl,_⟩|⟨al,T2,S,rfl,hT2,hS,hag,hal⟩
   ·repeat refine aD ?_
    refine lL rfl rfl (⟨rfl,rfl,congrArg Value.bool (dX rfl)⟩)
   ·have hnq:∀k:Int,0≤k→k < E.length→(oF E k).nz:=fun k h0 h1=>(he _ (eO ⟨h0,h1⟩)).nz
    repeat refine aD ?_
    refine qU [0,1,15,118,119] rfl (fun k G M I=>∃(i:Nat) (cl:Bool),i≤rows.length∧k=rows.length - i∧(cl=true↔∀j:Nat,j < i→Qn.rel (wlk (oF E) Qn.one (gt rows (j:Int)).es) Qn.one)∧G=[(16, .bool cl),(120, .int .i64 i)]∧M0=M∧I=aN q2 (recs eC rows)::yU rows::I0) (rows.length) (⟨0,true,by omega,rfl,⟨fun _ j hj=>by omega,fun _=>rfl⟩,rfl,rfl,rfl⟩) ?_
    rintro kk G M I ⟨i,cl,hi,rfl,hcl,rfl,rfl,rfl⟩
    by_cases hii:i < rows.length
    ·obtain ⟨r,hr⟩:∃r,gt rows (i:Int)=r:=⟨_,rfl⟩
     have hrm:r.es∈zD tr T m:=by rw [←hrows,←hr];exact List.mem_map_of_mem (eO ⟨by omega,by omega⟩)
     obtain ⟨z,z0,z1,hz⟩:=aMI hrm
     obtain ⟨g1,g2,g3,g4⟩:=fwd (ms:=lks E) z0
     have htz:=htr.go z z0 (by rw [hlm];exact z1)
     have htl:Trl (lks E) r.es (gt (lks E) z).a (gt (lks E) z).a:=by
      rw [hz,←g3]
      refine .cons g1 ?_
      rw [g4,g3];exact htz.trl
     have hrs:∀s∈r.es,s≠0∧sk s < E.length:=fun s hs=>by
      refine ⟨aIG htl s hs,?_⟩
      rw [hz] at hs
      rcases List.mem_cons.1 hs with rfl|hs
      ·rw [g2,hm];exact z1
      ·have:=(hR _ (htz.mem s hs)).2;rw [hlm] at this;rw [hm];exact this
     have hlen:r.es.length≤256:=by
      have:=aFG htz
      rw [hz,List.length_cons];omega
     refine aEH (φ:=aN r.p (recs (eI .i64) r.es)) (by rw [←hr];exact Hv.cat aG ⟨by omega,by omega⟩) ?_
     repeat refine aD ?_
     rw [hr]
     repeat refine aD ?_
     refine uU (cs:=recs (eI .i64) []) ([]) rfl (fun b19=>?_)
     repeat refine aD ?_
     refine aHG (mm:=0) 1 qE rfl (by omega) ?_
     refine aU [0,1,15,16,118,119,120,125,126] rfl (fun k G M I=>∃(j:Nat) (a:Option Addr) (c':Nat) (ks:List Int),j≤r.es.length∧k=r.es.length - j∧ks=(r.es.take j).map lC∧G=[(19, .slice a ks.length c'),(127, .int .i64 j)]∧M= .row a ks.length c' (recs (eI .i64) ks) 3 1::M0∧I=aN r.p (recs (eI .i64) r.es)::aN q2 (recs eC rows)::yU rows::I0) (r.es.length) _ _ _ aT bN bR (⟨0,_,_,[],by omega,rfl,rfl,rfl,rfl,rfl⟩) ?_
     rintro kk G M I ⟨j,a,c',ks,hj,rfl,hks,rfl,rfl,rfl⟩
     have hkl:ks.length=j:=by rw [hks,List.length_map,List.length_take];omega
     by_cases hjj:j < r.es.length
     ·obtain ⟨s,hgs⟩:∃s,gt r.es (j:Int)=s:=⟨_,rfl⟩
      have hsr:=hrs s (by rw [←hgs];exact eO ⟨by omega,by omega⟩)
      have hscs:=sZ hsr.1
      have hnx:ks++[lC s]=(r.es.take (j+1)).map lC:=by rw [hks,gD hjj,hgs,List.map_append];rfl
      by_cases hsp2:0 < s
      ·have hst:lC s=s - 1:=by unfold lC;rw [if_pos hsp2]
       rw [hst] at hnx
       repeat refine aD ?_
       rw [hgs]
       repeat refine aD ?_
       refine uU (cs:=recs (eI .i64) [s - 1]) ([.int .i64 (s - 1)]) rfl (fun b23=>?_)
       refine tyP (ys:=[s - 1]) 1 rfl rfl rfl (fun a2 c9=>?_)
       repeat refine aD ?_
       refine mI (r.es.length - (j+1)) (⟨j+1,a2,c9,ks++[s - 1],by omega,rfl,hnx,rfl,rfl,rfl⟩)
      ·have hst:lC s=s:=by unfold lC;rw [if_neg hsp2]
       rw [hst] at hnx
       repeat refine aD ?_
       rw [hgs]
       repeat refine aD ?_
       refine uU (cs:=recs (eI .i64) [s]) ([.int .i64 s]) rfl (fun b23=>?_)
       refine tyP (ys:=[s]) 1 rfl rfl rfl (fun a2 c9=>?_)
       repeat refine aD ?_
       refine mI (r.es.length - (j+1)) (⟨j+1,a2,c9,ks++[s],by omega,rfl,hnx,rfl,rfl,rfl⟩)
     ·obtain hje:j=r.es.length:=by omega
      have hkw:ks=r.es.map lC:=by rw [hks,hje,List.take_length]
      subst hkw
      have hml:((r.es.map lC).length:Int)=r.es.length:=by rw [List.length_map]
      have hAr:=fun M0 I0 h1 h2=>aBY (X:=X) (w0:=w0) (M0:=M0) (I0:=I0) (p:=p) (q:=a) (n:=(n:Int)) (es:=E) (ks:=r.es.map lC) (m:=m) (c:=c) (l:=(r.es.map lC).length) (c2:=c') hm (by omega) rfl (by rw [List.length_map];exact hlen) h4 (fun i hi=>by
       rw [List.length_map] at hi
       rw [aHZ ⟨by omega,by omega⟩,←hm]
       obtain ⟨q1,q2⟩:=hrs _ (eO (ms:=r.es) (i:=(i:Int)) ⟨by omega,by omega⟩)
       exact aOP q1 q2) (fun i hi=>by
       rw [hml]
       exact aKD htl hrs i (by rwa [List.length_map] at hi)) h1 h2
      repeat refine aD ?_
      refine kF (cs:=recs (eI .i64) (r.es.map lC)) .here ?_
      (refine dS rfl (hAr _ _ aG aG) ?_;rintro _ _ _ ⟨rfl,rfl,rq,zz,rfl,hzz⟩;refine cK ?_)
      rcases hzz with rfl|⟨rfl,rn,rf,rr⟩
      ·repeat refine aD ?_
       refine iL (fun b22=>?_)
       repeat refine aD ?_
       refine lL rfl rfl (⟨rfl,rfl,rfl⟩)
      ·have hw:=rr.trans (aJL hnq r.es Qn.one Qn.one hrs (Qn.rel.refl _))
       have hiff:=(Qn.prm_iff rn Qn.nz_one).trans ⟨fun h=>hw.symm.trans h,fun h=>hw.trans h⟩
       have hSm:=fun M0 I0=>aBJ (X:=X) (w0:=w0) (M0:=M0) (I0:=I0) (p:=rq) (q:=Qn.one) rn rf Qn.nz_one (by decide)
       cases cl with
       |true=>
        repeat refine aD ?_
        refine iL (fun b22=>?_)
        repeat refine aD ?_
        (refine aC rfl (fun _=>aZ (pvs:=[(0, .int .i64 1)]) (cells:=eQ Qn.one) rfl rfl) rfl rfl ?_)
        repeat refine aD ?_
        refine iM rfl (hSm _ _) ?_
        repeat refine aD ?_
        refine mI (rows.length - (i+1)) (⟨i+1,B (Qn.prm rq=Qn.prm Qn.one),by omega,rfl,?_,rfl,rfl,rfl⟩)
        constructor
        ·intro hb y hy
         have hb2:Qn.prm rq=Qn.prm Qn.one:=by
          by_cases hh:Qn.prm rq=Qn.prm Qn.one
          ·exact hh
          ·rw [bQ hh] at hb;exact absurd hb (by decide)
         by_cases e:y=i
         ·subst e;rw [hr];exact hiff.1 hb2
         ·exact hcl.1 rfl y (by omega)
        ·intro hall
         have:=hall i (by omega)
         rw [hr] at this
         exact dX (hiff.2 this)
       |false=>
        repeat refine aD ?_
        refine iL (fun b22=>?_)
        repeat refine aD ?_
        refine mI (rows.length - (i+1)) (⟨i+1,false,by omega,rfl,⟨fun h=>absurd h (by decide),fun h=>hcl.2 (fun y hy=>h y (by omega))⟩,rfl,rfl,rfl⟩)
    ·obtain hie:i=rows.length:=by omega
     rw [hie] at hcl
     have hsame:=aJY hm hnq (by rw [←hlm];exact hR) hF hsp htr hrows hT2 hS hag hal hcl
     repeat refine aD ?_
     refine bF (by first|exact .inl rfl|exact .inr rfl) rfl rfl _ _ bN bR (⟨rfl,rfl,by rw [hsame];cases cl <;>rfl⟩)
end
section
variable {P:Program} {H:Type} {enc:TypeId × Value→H} {W:World}
theorem aIL {tr t0 t1 t2:TypeId} {fr:Array Field} {m k l n:Nat} {cs:List Value} {y:DataW H × List MemPlace} (hr:P.underlying tr=some (.struct fr)) (hfr:fr.toList.map (fun f=>(f.offset,f.type))=[(0,t0),(m,t1),(m+k,t2)]) (cm:P.cellsOf t0=m) (ck:P.cellsOf t1=k) (cl:P.cellsOf t2=l) (c5:P.cellsOf tr=m+k+l) (h:DataW.trod enc P W 0 (fun _=>true) true n tr cs=some y):
  cs.length=m+k+l∧∃n' z0 z1 z2,DataW.trod enc P W 0 (fun _=>true) true n' t0 (cs.take m)=some z0∧DataW.trod enc P W 0 (fun _=>true) true n' t1 ((cs.drop m).take k)=some z1∧DataW.trod enc P W 0 (fun _=>true) true n' t2 (cs.drop (m+k))=some z2:=by
 obtain ⟨zs,n',rfl,rfl,hl,hzl,hz⟩:=DataW.trod_struct hr h
 have hsz:fr.toList.length=3:=by have:=congrArg List.length hfr;simpa using this
 obtain ⟨f0,f1,f2,hfs⟩:∃f0 f1 f2,fr.toList=[f0,f1,f2]:=by
  match hh:fr.toList,hsz with
  |[a,b,c],_=>exact ⟨a,b,c,rfl⟩
 rw [hfs] at hfr
 simp only [List.map_cons,List.map_nil,List.cons.injEq,Prod.mk.injEq,and_true] at hfr
 obtain ⟨⟨o0,e0⟩,⟨o1,e1⟩,o2,e2⟩:=hfr
 rw [c5] at hl
 have hg0:fr[0]?=some f0:=by rw [←Array.getElem?_toList,hfs];rfl
 have hg1:fr[1]?=some f1:=by rw [←Array.getElem?_toList,hfs];rfl
 have hg2:fr[2]?=some f2:=by rw [←Array.getElem?_toList,hfs];rfl
 have h0:=hz 0 f0 hg0
 have h1:=hz 1 f1 hg1
 have h2:=hz 2 f2 hg2
 rw [o0,e0,cm] at h0
 rw [o1,e1,ck] at h1
 rw [o2,e2,cl] at h2
 have hz2:zs.length=3:=by rw [hzl];simpa using hsz
 obtain ⟨z0,z1,z2,rfl⟩:∃z0 z1 z2,zs=[z0,z1,z2]:=by
  match zs,hz2 with
  |[a,b,c],_=>exact ⟨a,b,c,rfl⟩
 simp only [List.drop_zero,List.getElem?_cons_zero,List.getElem?_cons_succ] at h0 h1 h2
 rw [List.take_of_length_le (l:=cs.drop (m+k)) (by simp;omega)] at h2
 exact ⟨hl,n',z0,z1,z2,h0,h1,h2⟩
end
section
variable {H:Type} {enc:TypeId × Value→H} {W:World}
end
section
variable {H:Type} {enc:TypeId × Value→H} {W:World}
theorem dec_Q {n:Nat} {cs:List Value} {y:DataW H × List MemPlace} (hl:cs.length=4) (h:DataW.trod enc Try.prog W 0 (fun _=>true) true n 28 cs=some y):∃q:Qn,cs=eQ q:=by
 obtain ⟨xs,rfl,hx,_⟩:=aHK (k:= .i64) (m:=4) Try.underlying28 (by kernel_rfl) (by intro f hf;simp at hf;rcases hf with rfl|rfl|rfl|rfl <;>exact Try.underlying3) hl h
 match xs,hx with
 |[a,b,c,d],_=>exact ⟨⟨a,b,c,d⟩,rfl⟩
theorem dec_X (r:List Value) (n:Nat) (y:DataW H × List MemPlace) (hl:r.length=Try.prog.cellsOf 30) (h:DataW.trod enc Try.prog W 0 (fun _=>true) true n 30 r=some y):∃m:RX,r=eX m∧True:=by
 obtain ⟨hl6,n',z0,z1,z2,h0,h1,h2⟩:=aIL (t0:=3) (t1:=3) (t2:=28) (m:=1) (k:=1) (l:=4) Try.underlying30 (by kernel_rfl) (by kernel_rfl) (by kernel_rfl) (by kernel_rfl) (by kernel_rfl) h
 obtain ⟨a,ha,_⟩:=zF Try.underlying3 h0
 obtain ⟨b,hb,_⟩:=zF Try.underlying3 h1
 obtain ⟨q,hq⟩:=dec_Q (by simp;omega) h2
 refine ⟨⟨a,b,q⟩,?_,trivial⟩
 have e1:r=r.take 1++((r.drop 1).take 1++r.drop (1+1)):=by
  rw [show r.drop (1+1)=(r.drop 1).drop 1 by rw [List.drop_drop],List.take_append_drop,List.take_append_drop]
 rw [e1,ha,hb,hq]
 rfl
theorem aKR {base:Nat} {v:Value} {d:DataW H} {p:List MemPlace} (hv:Value.okWide Try.prog W .any base 22 v) (h:DataW.Trod enc Try.prog W 0 (fun _=>true) true 22 v d p):
  ∃(a:Option Addr) (E:List RX) (c:Nat),v= .slice a E.length c∧Sl [] W a (recs eX E)∧(E.length:Int)≤9223372036854775807:=by
 obtain ⟨a,E,c,rfl,hs,_,hn,_,_⟩:=aAT (en:=eX) (Pm:=fun _=>True) Try.underlying22 (fun r n y=>dec_X r n y) hv h
 exact ⟨a,E,c,rfl,hs,hn⟩
end
end Go.Proofs.Ytejbgkajdomgcaa

/- crs: dot, less, cross. -/
import Derived.Test.YtgpkjcmipiodcaaGreatZwbc
import Derived.Test.YtgpkjcmipiodcaaGreatZwan
import Derived.Test.YtgpkjcmipiodcaaGreatZwal
import Derived.Test.YtgpkjcmipiodcaaGreatZwak
import Derived.Test.YtgpkjcmipiodcaaGreatZwba
set_option linter.unusedSimpArgs false
set_option linter.unusedVariables false
set_option maxRecDepth 100000
set_option maxHeartbeats 4000000
namespace Go.Proofs.YtgpkjcmipiodcaaGreat
open Go Go.Fx
abbrev zRv:List Value:=[.bool false, .slice none 0 0, .bool false, .slice none 0 0]
section
variable {X:List Nat} {w0:World} {M0 M1:List Ent} {I0:List aV}
theorem qJ {a b:TE} {k m:Nat} (hk:3*(k+m+1)≤100000000000) (ha:Hv I0 (gN a k)) (hb:Hv I0 (gN b m)):
  CD Tryz.prog 42 [tv a,tv b] X w0 M0 I0 (RQ (a.v.dot b.v) (3*(k+m+1)) M0 I0):=by
 refine bO (φ:=gN a k) ha (bO (φ:=gN b m) hb.cons ?_)
 have hD:=fun (x y:Nat) M0 I0 h1 h2=>aNK (X:=X) (w0:=w0) (M0:=M0) (I0:=I0) (a:=a.l x) (b:=b.l y) (ka:=k) (kb:=m) (n:=3) (by omega) hk rfl rfl h1 h2
 refine aP Tryz.func42 rfl Tryz.ntmps42 rfl ?_
 refine fE ?_
 refine fG rfl (fun b2=>?_)
 refine aC .here ?_
 refine fG rfl (fun b3=>?_)
 refine aC .here ?_
 refine bG (fun b4=>?_)
 repeat refine aB ?_
 refine bD (φ:=lK (a.l b2) k) (Hv.tl (Hv.mem (φ:=gN a k) aA) aA) ?_
 refine bD (φ:=lK (b.l b3) m) (Hv.tl (Hv.mem (φ:=gN b m) aA) aA) ?_
 refine kH (fun G M I=>∃(b5:Nat) (e:RE),e.q=a.v.dot b.v∧G=[(4, .pointer (some ⟨b4,0,none⟩)),(5, .pointer (some ⟨b5,0,none⟩))]∧M= .blk b5 (eR e) 40:: .blk b4 zRv 40::M0∧I=cK e (3*(k+m+1))::I0) ?_ ?_
 ·((repeat refine aJ ?_);refine lG (M0) (lK (b.l b3) m::lK (a.l b2) k::I0) mixed ?_)
  refine dH (fuel:=7) (listed':=#[true,true,false,false,false,false,false,false,false]) [0,1] [1,1] aG aF (by kernel_rfl) (by kernel_rfl) rfl rfl ?_
  repeat refine aB ?_
  (refine aD rfl (fun _=>eF rfl) rfl rfl ?_)
  repeat refine aB ?_
  (refine aD rfl (fun _=>eF rfl) rfl rfl ?_)
  repeat refine aB ?_
  refine aN (fuel:=6) (i:=2) (j:=6) (by kernel_rfl) ?_ ?_
  ·(refine aU rfl (hD b2 b3 _ _ (Hv.mem aA) (Hv.mem aA)) ?_;rintro _ _ _ ⟨rfl,e,rfl,he,rfl⟩;refine aL ?_)
   refine aT ?_
   refine aM [3,4,5,6,7,8] [1,1,2,0,0,0] aG aF (by kernel_rfl) (by kernel_rfl) rfl rfl ?_
   repeat refine aB ?_
   refine bG (fun b5=>?_)
   repeat refine aB ?_
   refine mR ⟨b5,e,by rw [he];exact dot3,rfl,rfl,rfl⟩
  ·refine bG (fun b5=>?_)
   refine aT ?_
   refine aM [2,3,4,5,7,8] [0,0,0,1,0,0] aG aF (by kernel_rfl) (by kernel_rfl) rfl rfl ?_
   repeat refine aB ?_
   (refine aU rfl (hD b2 b3 _ _ (Hv.mem aA) (Hv.mem aA)) ?_;rintro _ _ _ ⟨rfl,e,rfl,he,rfl⟩;refine aL ?_)
   repeat refine aB ?_
   refine mR ⟨b5,e,by rw [he];exact dot3,rfl,rfl,rfl⟩
 ·rintro G M I ⟨b5,e,he,rfl,rfl,rfl⟩
  repeat refine aB ?_
  refine bA (cs:=eR e) (.inl rfl) rfl rfl aA rfl M0 (cK e (3*(k+m+1))::I0) aG aF ⟨rfl,e,rfl,he,rfl⟩
theorem dD {a b:TE} {ka kb K:Nat} (hka:ka≤100000000) (hkb:kb≤100000000) (hK:ka+kb+1=K) (ha:Hv I0 (gN a ka)) (hb:Hv I0 (gN b kb)):
  CD Tryz.prog 39 [tv a,tv b] X w0 M0 I0 (TQ (a.v.sub b.v) K M0 I0):=by
 refine bO (φ:=gN a ka) ha (bO (φ:=gN b kb) hb.cons ?_)
 refine aP Tryz.func39 rfl Tryz.ntmps39 rfl ?_
 refine fE ?_
 refine fG rfl (fun b2=>?_)
 refine fG rfl (fun b3=>?_)
 refine aC (cs:=eT b) .here ?_
 refine bG (fun b4=>?_)
 repeat refine aB ?_
 refine bD (φ:=bW [a.x,a.y,a.z] K) (Hv.r3v ((Hv.tx (Hv.mem (φ:=gN a ka) aA)).upR (by omega)) ((Hv.ty (Hv.mem (φ:=gN a ka) aA)).upR (by omega)) ((Hv.tz (Hv.mem (φ:=gN a ka) aA)).upR (by omega))) ?_
 refine kS [2,3,4] rfl (fun k G M I=>∃(i:Nat) (ms:List RE),i≤3∧k=3 - i∧(ms.length=3∧(∀j:Nat,j < 3→i≤j→gt ms (j:Int)=gt [a.x,a.y,a.z] (j:Int))∧∀j:Nat,j < i→(gt ms (j:Int)).q=(gt [a.x,a.y,a.z] (j:Int)).q - (gt [b.x,b.y,b.z] (j:Int)).q)∧G=[(6, .int .i64 (i:Int))]∧M= .blk b4 (recs eW [default,default,default]) 45:: .blk b2 (recs eR ms) 45::M0∧bW ms K::aI (some ⟨b3,0,none⟩) (eT b)::gN b kb::gN a ka::I0=I) (3) (⟨0,[a.x,a.y,a.z],by omega,rfl,⟨rfl,fun _ _ _=>rfl,fun _ h=>absurd h (by omega)⟩,rfl,rfl,rfl⟩) ?_
 rintro kk G M I ⟨i,ms,hi,rfl,⟨hml,hm1,hm2⟩,rfl,rfl,rfl⟩
 by_cases hi3:i < 3
 ·have hmi:=hm1 i hi3 (Nat.le_refl _)
  have hbl:([b.x,b.y,b.z]:List RE).length=3:=rfl
  refine bD (φ:=cK (gt [a.x,a.y,a.z] (i:Int)) ka) (Hv.tg (Hv.mem (φ:=gN a ka) aA) hi3) ?_
  refine bD (φ:=cK (gt [b.x,b.y,b.z] (i:Int)) kb) (Hv.tg (Hv.mem (φ:=gN b kb) aA) hi3) ?_
  repeat refine aB ?_
  (repeat refine aJ ?_);refine aO 1 [0,1,2,3,4,5,6,7,8,9] [1,1,1,0,1,1,0,0,0,0] mixed (by kernel_rfl) ?_
  repeat refine aB ?_
  (apply mE;exact gQ;exact rfl;exact aA;exact AtsZ.v0 jH;exact rfl;exact rfl)
  rw [hmi]
  repeat refine aB ?_
  (apply bL;exact gQ;exact rfl;exact aA;exact AtsZ.v0 jH;exact rfl;exact rfl)
  repeat refine aB ?_
  refine iG rfl (zB (k:=ka) (m:=kb) (by omega) (Hv.mem aA) (Hv.mem aA)) (fun e3 he3=>?_)
  rw [hK]
  repeat refine aB ?_
  (refine fM (vs:=eR e3) (cs:=recs eR ms) (cs':=recs eR (st ms (i:Int) e3)) rfl rfl rfl nU iN (StAts.v0 (by omega)) rfl rfl ⟨okF,?_⟩)
  repeat refine aB ?_
  refine fF (φ:=bW (st ms (i:Int) e3) K) (Hv.stR aA aA) ?_
  refine iC (3 - (i+1)) (⟨i+1,st ms (i:Int) e3,by omega,rfl,⟨by rw [dB];exact hml,fun j hj hij=>?_,fun j hj=>?_⟩,rfl,rfl,rfl⟩)
  ·rw [wJ (by omega) (by omega),if_neg (by omega)]
   exact hm1 j hj (by omega)
  ·rw [wJ (by omega) (by omega)]
   by_cases e:j=i
   ·subst e;rw [if_pos rfl,he3]
   ·rw [if_neg e];exact hm2 j (by omega)
 obtain rfl:i=3:=by omega
 obtain ⟨x,y,z,rfl⟩:=len3 hml
 repeat refine aB ?_
 refine fF (φ:=gN ⟨x,y,z⟩ K) (Hv.t3 (p:=⟨x,y,z⟩) aA) ?_
 have e0:x.q=a.x.q - b.x.q:=hm2 0 (by omega)
 have e1:y.q=a.y.q - b.y.q:=hm2 1 (by omega)
 have e2:z.q=a.z.q - b.z.q:=hm2 2 (by omega)
 refine bA (cs:=recs eR [x,y,z]) (.inl rfl) rfl rfl aA rfl M0 (gN ⟨x,y,z⟩ K::I0) aG aF ⟨rfl,⟨x,y,z⟩,rfl,?_,rfl⟩
 show (⟨x.q,y.q,z.q⟩:V3)=_
 rw [e0,e1,e2]
 rfl
theorem aFP {a b:TE} {ka kb K:Nat} (hka:ka≤100000000) (hkb:kb≤100000000) (hK:ka+kb+(ka+kb)+1=K) (ha:Hv I0 (gN a ka)) (hb:Hv I0 (gN b kb)):
  CD Tryz.prog 40 [tv a,tv b] X w0 M0 I0 (TQ (a.v.crs b.v) K M0 I0):=by
 refine bO (φ:=gN a ka) ha (bO (φ:=gN b kb) hb.cons ?_)
 refine aP Tryz.func40 rfl Tryz.ntmps40 rfl ?_
 refine fE ?_
 refine fG rfl (fun b2=>?_)
 refine aC (cs:=eT a) .here ?_
 refine fG rfl (fun b3=>?_)
 refine aC (cs:=eT b) .here ?_
 refine bG (fun b4=>?_)
 repeat refine aB ?_
 refine bG (fun b5=>?_)
 refine fH (φ:=bW [] K) Hv.nilR ?_
 repeat refine aB ?_
 refine kS [2,3,4,5] rfl (fun k G M I=>∃(i:Nat) (ws:List RW) (es:List RE),i≤3∧k=3 - i∧VC ws es i (fun i=>(gt [a.x,a.y,a.z] (((i+1) % 3:Nat):Int)).q*(gt [b.x,b.y,b.z] (((i+2) % 3:Nat):Int)).q - (gt [a.x,a.y,a.z] (((i+2) % 3:Nat):Int)).q*(gt [b.x,b.y,b.z] (((i+1) % 3:Nat):Int)).q)∧G=[(9, .int .i64 (i:Int))]∧M= .blk b5 (recs eW ws) 45:: .blk b4 (recs eW [default,default,default]) 45::M0∧bW es K::aI (some ⟨b3,0,none⟩) (eT b)::aI (some ⟨b2,0,none⟩) (eT a)::gN b kb::gN a ka::I0=I) (3) (⟨0,[default,default,default],[],by omega,rfl,VC.zero _,rfl,rfl,rfl⟩) ?_
 rintro kk G M I ⟨i,ws,es,hi,rfl,hv,rfl,rfl,rfl⟩
 by_cases hi3:i < 3
 ·obtain ⟨j,hj⟩:∃j,(i+1) % 3=j:=⟨_,rfl⟩
  obtain ⟨t,ht⟩:∃t,(i+2) % 3=t:=⟨_,rfl⟩
  repeat refine aB ?_
  rw [show ((i:Int)+1).tmod 3=(j:Int) by rw [Int.tmod_eq_emod_of_nonneg (by omega)];omega,show ((i:Int)+2).tmod 3=(t:Int) by rw [Int.tmod_eq_emod_of_nonneg (by omega)];omega]
  have hj3:j < 3:=by omega
  have ht3:t < 3:=by omega
  have hlw:=hv.lw
  have hal:([a.x,a.y,a.z]:List RE).length=3:=rfl
  have hbl:([b.x,b.y,b.z]:List RE).length=3:=rfl
  refine bD (φ:=cK (gt [a.x,a.y,a.z] (j:Int)) ka) (Hv.tg (Hv.mem (φ:=gN a ka) aA) hj3) ?_
  refine bD (φ:=cK (gt [a.x,a.y,a.z] (t:Int)) ka) (Hv.tg (Hv.mem (φ:=gN a ka) aA) ht3) ?_
  refine bD (φ:=cK (gt [b.x,b.y,b.z] (j:Int)) kb) (Hv.tg (Hv.mem (φ:=gN b kb) aA) hj3) ?_
  refine bD (φ:=cK (gt [b.x,b.y,b.z] (t:Int)) kb) (Hv.tg (Hv.mem (φ:=gN b kb) aA) ht3) ?_
  (repeat refine aJ ?_);refine aO 3 [0,1,2,3,4,5,6,8,9,10,11,12,13,7,14,15,16,17] [3,3,3,2,3,3,2,3,3,2,3,3,2,0,0,0,0,0] mixed (by kernel_rfl) ?_
  repeat refine aB ?_
  (apply bL;exact gQ;exact rfl;exact aA;exact AtsZ.v0 jH;exact rfl;exact rfl)
  repeat refine aB ?_
  (apply bL;exact gQ;exact rfl;exact aA;exact AtsZ.v0 jH;exact rfl;exact rfl)
  repeat refine aB ?_
  (apply bL;exact gQ;exact rfl;exact aA;exact AtsZ.v0 jH;exact rfl;exact rfl)
  repeat refine aB ?_
  (apply bL;exact gQ;exact rfl;exact aA;exact AtsZ.v0 jH;exact rfl;exact rfl)
  repeat refine aB ?_
  refine iG rfl (iV (k:=ka) (m:=kb) (by omega) (Hv.mem aA) (Hv.mem aA)) (fun e1 he1=>?_)
  refine iG rfl (iV (k:=ka) (m:=kb) (by omega) (Hv.mem aA) (Hv.mem aA)) (fun e2 he2=>?_)
  refine iG rfl (zB (k:=ka+kb) (m:=ka+kb) (by omega) (Hv.mem aA) (Hv.mem aA)) (fun e3 he3=>?_)
  rw [hK]
  repeat refine aB ?_
  (refine fM (vs:=eR e3) (cs:=recs eW ws) (cs':=recs eW (st ws (i:Int) e3.raw)) rfl rfl rfl nU iN (StAts.w0 (by omega)) rfl rfl ⟨okF,?_⟩)
  repeat refine aB ?_
  refine fF (φ:=bW (es++[e3]) K) (Hv.snoc aA aA) ?_
  refine iC (3 - (i+1)) (⟨i+1,st ws (i:Int) e3.raw,es++[e3],by omega,rfl,hv.step hi3 (by rw [he3,he2,he1,hj,ht]),rfl,rfl,rfl⟩)
 obtain rfl:i=3:=by omega
 obtain ⟨r,hr1,hr2,rfl⟩:=hv.done
 rw [hr1]
 repeat refine aB ?_
 refine fF (φ:=gN r K) (Hv.t3 aA) ?_
 refine bA (cs:=eT r) (.inl rfl) rfl rfl aA rfl M0 (gN r K::I0) aG aF ⟨rfl,r,rfl,by rw [hr2];rfl,rfl⟩
end
theorem aQW {N r:Nat} (h0:0 < r) (h:r≤(r+N / r) / 2):r*r≤N:=by
 have h1:r≤N / r:=by omega
 have h2:=Nat.mul_le_mul_left r h1
 have h3:=Nat.mul_div_le N r
 omega
theorem aVX {N r:Nat} (h0:0 < r) (hN:0 < N):N < ((r+N / r) / 2+1)*((r+N / r) / 2+1)∧0 < (r+N / r) / 2:=by
 have h1:N < r*(N / r+1):=by
  have:=Nat.lt_mul_div_succ N h0
  exact this
 generalize hm:N / r=m at*
 have h2:r+m+1≤2*((r+m) / 2+1):=by omega
 have h3:0 < (r+m) / 2:=by
  rcases Nat.lt_or_ge 1 (r+m) with h|h
  ·omega
  ·obtain rfl:r=1:=by omega
   obtain rfl:m=0:=by omega
   omega
 refine ⟨?_,h3⟩
 generalize (r+m) / 2=x at*
 have h4:=Nat.mul_le_mul h2 h2
 have h5:4*(r*(m+1))≤(r+m+1)*(r+m+1):=by
  rcases Nat.le_total r (m+1) with h|h
  ·obtain ⟨t,ht⟩:=Nat.le.dest h
   have:r+m+1=2*r+t:=by omega
   rw [this,←ht]
   have:(2*r+t)*(2*r+t)=4*(r*(r+t))+t*t:=by grind
   omega
  ·obtain ⟨t,ht⟩:=Nat.le.dest h
   have:r+m+1=2*(m+1)+t:=by omega
   rw [this,←ht]
   have:(2*(m+1)+t)*(2*(m+1)+t)=4*((m+1+t)*(m+1))+t*t:=by grind
   omega
 have h6:2*(x+1)*(2*(x+1))=4*((x+1)*(x+1)):=by grind
 omega
theorem aTF {n r:Nat} (h1:r*r≤n*n) (h2:n*n < (r+1)*(r+1)):r=n:=by
 have a:=Nat.mul_self_le_mul_self_iff.1 h1
 have b:=Nat.mul_self_lt_mul_self_iff.1 h2
 omega
theorem gr_b9 (h:Nat):List.replicate h (0:Int)++[1]=gr (1000000000 ^ h):=bAQ ⟨Dig.snoc (Dig.zeros h) (by decide),Top.snoc.2 (by decide)⟩ (by
 rw [val_append,xA,List.length_replicate,show val [1]=1 from rfl,Int.zero_add,Int.mul_one,Int.natCast_pow]
 rfl)
section
variable {X:List Nat} {w0:World} {M0:List Ent} {I0:List aV}
theorem aUO {u:Value} {z:Int} {k0:Nat} (hk:k0≤10000000000) (h0:0 < z) (hu:iB u z k0∈I0):
  CD Tryz.prog 93 [u] X w0 M0 I0 (fun v M I=>M0=M∧∃(t:Nat) (v1:Value),t*t≤z.natAbs∧z.natAbs < (t+1)*(t+1)∧v= .tuple #[v1, .int .i64 0]∧I=iB v1 (t:Int) k0::I0):=by
 refine dC hu (fun q cq e hc hy=>?_)
 subst e
 obtain ⟨N,hN⟩:∃N,z.natAbs=N:=⟨_,rfl⟩
 obtain ⟨L,hL⟩:∃L,(gr N).length=L:=⟨_,rfl⟩
 have hNp:0 < N:=by omega
 have hL0:0 < L:=by rw [←hL];exact List.length_pos_iff.2 (fun e=>by have:=nD.1 e;omega)
 have hLk:L≤k0 / 29+1:=by rw [←hL];exact dX (by rw [←hN];exact hy)
 have hNL:N < 1000000000 ^ L:=by
  have:=jG (bK N)
  rw [bT,hL] at this
  have h2:((1000000000 ^ L:Nat):Int)=(1000000000:Int) ^ L:=by rw [Int.natCast_pow];rfl
  rw [←h2] at this
  omega
 obtain ⟨h,hh⟩:∃h,(L+1) / 2=h:=⟨_,rfl⟩
 obtain ⟨R0,hR0⟩:∃R0,1000000000 ^ h=R0:=⟨_,rfl⟩
 have hRL:(gr R0).length≤h+1:=by
  refine lQ ?_
  rw [←hR0]
  exact Nat.pow_lt_pow_right (by decide) (by omega)
 have hRs:N < (R0+1)*(R0+1):=by
  have h1:N < 1000000000 ^ (h+h):=Nat.lt_of_lt_of_le hNL (Nat.pow_le_pow_right (by decide) (by omega))
  rw [Nat.pow_add,hR0] at h1
  have h2:=Nat.mul_le_mul (Nat.le_succ R0) (Nat.le_succ R0)
  exact Nat.lt_of_lt_of_le h1 h2
 have hRp:0 < R0:=by rw [←hR0];exact Nat.pow_pos (by decide)
 have hsum:∀r,r≤R0→(gr (r+N / r)).length≤L+2:=fun r hr=>by
  refine lQ ?_
  have h1:R0≤1000000000 ^ L:=by rw [←hR0];exact Nat.pow_le_pow_right (by decide) (by omega)
  have h2:=Nat.div_le_self N r
  rw [Nat.pow_add]
  have h3:0 < 1000000000 ^ L:=Nat.pow_pos (by decide)
  generalize 1000000000 ^ L=P at*
  omega
 unfold iv
 refine eD Tryz.func93 rfl Tryz.ntmps93 rfl ?_
 refine fE ?_
 refine tyX rfl (fun b1=>?_)
 refine aC .here ?_
 refine bG (fun b2=>?_)
 repeat refine iI ?_
 refine dP rfl (iF (c:=cq) hy (by omega) aY) ?_
 rw [hN] at hc hy ⊢
 repeat refine iI ?_
 rw [hL,show ((L:Int)+1).tdiv 2=(h:Int) by rw [Int.tdiv_eq_ediv_of_nonneg (by omega)];omega]
 (refine lM (h) rfl rfl (by omega) (by omega) (by omega) (by omega) (nT _ _) rfl rfl ?_;intro bo;refine ⟨okK,?_⟩)
 obtain ⟨zs,hzs⟩:∃zs,List.replicate h (0:Int)=zs:=⟨_,rfl⟩
 have hzl:zs.length=h:=by rw [←hzs,List.length_replicate]
 have hz1:zs++[1]=gr R0:=by rw [←hzs,gr_b9,hR0]
 rw [hzs,←hzl]
 repeat refine iI ?_
 refine lL (cs:=recs eG [(1:Int)]) ([.int .u32 1]) rfl (fun b24=>?_)
 refine jC (mm:=zs.length) 1 (.there .here) (by rw [fJ]) (by omega) ?_
 (refine oO (ys:=[(1:Int)]) 1 rfl rfl rfl ?_ (by decide) rfl (by omega) (by omega) rfl rfl ?_;(· first|exact Src.blk aY|exact Src.row aY|exact Src.imm aY (by first|assumption|exact .inl (Ok.mk _ _)));intro a2 c2;refine aL ?_)
 rw [hz1]
 refine aBB (M':= .row a2 (gr R0).length c2 (recs eG (gr R0)) 181 1:: .blk b2 [.bool false, .slice none 0 0] 38::M0) (I':=aI q (recs eG (gr N))::I0) bX bV ?_
 refine qK (fun w hw=>And.intro (hw.rowLe (List.Mem.head _)) ((hw.rowS (List.Mem.head _)).2.imp id And.right)) (fun hc'=>?_)
 refine gW .here ?_
 repeat refine iI ?_
 refine eO [2,4] rfl (fun k G M I=>∃(r:Nat) (pr:Option Addr) (cr:Nat),k=r∧0 < r∧r≤R0∧N < (r+1)*(r+1)∧rR pr r cr∧G=[(5, .slice pr (gr r).length cr)]∧M= .blk b2 [.bool false, .slice none 0 0] 38::M0∧aI pr (recs eG (gr r))::aI q (recs eG (gr N))::I0=I) (R0) _ _ _ dS bX bV (⟨R0,a2,c2,rfl,hRp,Nat.le_refl _,hRs,hc',rfl,rfl,rfl⟩) ?_
 rintro kk G M I ⟨r,pr,cr,rfl,hr0,hrR,hrs,oc,rfl,rfl,rfl⟩
 have hlr:(gr kk).length≤h+1:=Nat.le_trans (fK hrR) hRL
 have hls:=hsum kk hrR
 have hlq:(gr (N / kk)).length≤L:=by rw [←hL];exact fK (Nat.div_le_self N kk)
 have hO:=fun M0 I0=>aHJ (X:=X) (w0:=w0) (M0:=M0) (I0:=I0) (p:=q) (q:=pr) (m:=N) (n:=kk) (cp:=cq) (cq:=cr) (by omega) (by omega) hr0 hc
 rw [hL] at hO
 have hP:=fun p1 c1 M0 I0=>aHO (X:=X) (w0:=w0) (M0:=M0) (I0:=I0) (p:=pr) (q:=p1) (m:=kk) (n:=N / kk) (cp:=cr) (cq:=c1) (by omega) (by omega)
 have hS:=fun p1 c1 M0 I0=>aEH (X:=X) (w0:=w0) (M0:=M0) (I0:=I0) (q:=p1) (n:=kk+N / kk) (c:=c1) (d:=2) (by omega) (by decide)
 repeat refine iI ?_
 (refine aU rfl (hO _ _ aY aY) ?_;rintro _ _ _ ⟨rfl,p1,c1,p2,c2',o1,o2,rfl,rfl⟩;refine aL ?_)
 repeat refine iI ?_
 (refine aU rfl (hP p1 c1 _ _ aY aY) ?_;rintro _ _ _ ⟨rfl,p3,c3,rfl,o3,rfl⟩;refine aL ?_)
 (refine aU rfl (hS p3 c3 _ _ aY) ?_;rintro _ _ _ ⟨rfl,p4,c4,o4,k4,rfl,rfl⟩;refine aL ?_)
 repeat refine iI ?_
 obtain ⟨nx,hnx⟩:∃nx,(kk+N / kk) / 2=nx:=⟨_,rfl⟩
 have hgo:=aVX hr0 hNp
 have hst:=aQW (N:=N) hr0
 rw [hnx] at hgo hst o4 ⊢
 have hln:(gr nx).length≤L+2:=Nat.le_trans (fK (by omega)) hls
 refine dP rfl (uQ (p:=p4) (q:=pr) (m:=nx) (n:=kk) (cp:=c4) (cq:=cr) (by omega) (by omega) aY aY) ?_
 by_cases hge:kk≤nx
 ·have hcv:0≤fP nx kk:=by unfold fP;rw [if_neg (by omega)];split <;>omega
  generalize fP nx kk=cv at hcv
  have hsq:=hst hge
  have hkN:kk≤2 ^ k0:=Nat.le_trans (Nat.le_trans (Nat.le_mul_of_pos_right kk hr0) hsq) hy
  have hMd:=fun M0 I0=>lW (X:=X) (w0:=w0) (M0:=M0) (I0:=I0) (p:=False) (q:=pr) (n:=kk) (c:=cr) (k:=k0) (by omega) oc hkN
  simp only [bF (show ¬False from id)] at hMd
  have hsg:sg False kk=(kk:Int):=by unfold sg;rw [if_neg (fun h=>h)]
  repeat refine iI ?_
  (refine lX rfl (hMd _ _ aY) rfl rfl ?_;rintro _ _ _ ⟨rfl,rfl⟩;refine ⟨okK,?_⟩;refine aX (List.Mem.head _) (fun q2 c2 e__ hc2 hz2=>?_);subst e__)
  unfold iv
  repeat refine iI ?_
  rw [hsg]
  refine dI (rs:=[.cell 2 38, .tmp 3]) (vs:=[.agg #[.bool (B ((kk:Int) < 0)), .slice q2 (gr (kk:Int).natAbs).length c2], .int .i64 0]) (.inl rfl) rfl (.cellN (cs:=[.bool (B ((kk:Int) < 0)), .slice q2 (gr (kk:Int).natAbs).length c2]) inferInstance rfl aY rfl (.tmp rfl .nil)) rfl M0 (iB (.agg #[.bool (B ((kk:Int) < 0)), .slice q2 (gr (kk:Int).natAbs).length c2]) (kk:Int) k0::I0) bX bV ⟨rfl,kk,_,hsq,hrs,rfl,rfl⟩
 ·have hcv:fP nx kk < 0:=by unfold fP;rw [if_pos (by omega)];decide
  generalize fP nx kk=cv at hcv
  repeat refine iI ?_
  refine bY (nx) _ _ _ (by first|omega|(simp only [List.length_append,List.length_cons,List.length_nil];omega)) dS bX bV (⟨nx,p4,c4,rfl,hgo.2,by omega,hgo.1,⟨o4, .inl k4⟩,rfl,rfl,rfl⟩)
end
end Go.Proofs.YtgpkjcmipiodcaaGreat
namespace Go.Proofs.YtgpkjcmipiodcaaGreat
open Go Go.Fx
theorem Hv.rnum {I:List aV} {x:RE} {k:Nat} (h:Hv I (cK x k)):Hv I (qH ⟨x.q.num,x.p1,x.c1⟩ k):=⟨fun X w hw=>(h.go X w hw).num⟩
theorem Hv.rden {I:List aV} {x:RE} {k:Nat} (h:Hv I (cK x k)):Hv I (qH ⟨(x.q.den:Int),x.p2,x.c2⟩ k):=⟨fun X w hw=>(h.go X w hw).den⟩
section
variable {X:List Nat} {w0:World} {M0 M1:List Ent} {I0:List aV}
theorem aZC {a:ZE} {k:Nat} (hk:k≤10000000000) (h0:0 < a.z) (ha:qH a k∈I0):CD Tryz.prog 93 [nv a] X w0 M0 I0 (fun v M I=>M0=M∧∃r:ZE,(∃t:Nat,r.z=t∧t*t≤a.z.natAbs∧a.z.natAbs < (t+1)*(t+1))∧v= .tuple #[nv r, .int .i64 0]∧I=qH r k::I0):=
 (aUO hk h0 ha).post (fun v M I w h hw=>by
  obtain ⟨rfl,t,v1,h1,h2,rfl,rfl⟩:=h
  have h3:IsI v1 (t:Int) k (muts M0) w:=(hw.imm _ (List.Mem.head _)).2
  obtain ⟨q,c,rfl,_⟩:=h3.ex
  exact ⟨M0,_,⟨rfl,⟨t,q,c⟩,⟨t,rfl,h1,h2⟩,rfl,rfl⟩,hw⟩)
theorem aTU {x:RE} {k n:Nat} (hk:k≤1000000000) (hn:0 < n) (hx:x.q=((n*n:Nat):Rat)) (hr:Hv I0 (cK x k)):
  CD Tryz.prog 44 [rv x] X w0 M0 I0 (fun v M I=>M0=M∧∃e:RE,v= .tuple #[rv e, .bool true]∧e.q=(n:Rat)∧I=cK e k::I0):=by
 refine bO (φ:=cK x k) hr ?_
 have hnum:x.q.num=((n*n:Nat):Int):=by rw [hx];exact Rat.num_natCast _
 have hden:x.q.den=1:=by rw [hx];exact Rat.den_natCast _
 have hnn:0 < n*n:=Nat.mul_pos hn hn
 refine aZ Tryz.func44 rfl Tryz.ntmps44 rfl ?_
 refine fE ?_
 refine fG rfl (fun b1=>?_)
 refine aC (cs:=eR x) .here ?_
 refine bG (fun b2=>?_)
 repeat refine aB ?_
 refine dP rfl (kV (e:=x) (k:=k) (by omega) (Hv.mem aA)) ?_
 rw [show x.q.num.sign=1 from Int.sign_eq_one_of_pos (by omega)]
 repeat refine aB ?_
 refine fH (φ:=qH ⟨x.q.num,x.p1,x.c1⟩ k) (Hv.rnum (Hv.mem aA)) ?_
 refine fH (φ:=qH ⟨(x.q.den:Int),x.p2,x.c2⟩ k) (Hv.rden (Hv.mem aA)) ?_
 repeat refine aB ?_
 (refine aS rfl (aZC (a:=⟨x.q.num,x.p1,x.c1⟩) (k:=k) (by omega) (by show 0 < x.q.num;omega) aA) rfl rfl ?_;rintro _ _ _ ⟨rfl,r1,⟨t1,ht1,ha1,hb1⟩,rfl,rfl⟩;refine aL ?_)
 repeat refine aB ?_
 have e1:r1.z=(n:Int):=by
  have hh:x.q.num.natAbs=n*n:=by omega
  have h1:t1=n:=aTF (by rw [←hh];exact ha1) (by rw [←hh];exact hb1)
  rw [ht1,h1]
 refine bG (fun b4=>?_)
 repeat refine aB ?_
 (refine aS rfl (aZC (a:=⟨(x.q.den:Int),x.p2,x.c2⟩) (k:=k) (by omega) (by show (0:Int) < (x.q.den:Int);omega) aA) rfl rfl ?_;rintro _ _ _ ⟨rfl,r2,⟨t2,ht2,ha2,hb2⟩,rfl,rfl⟩;refine aL ?_)
 have e2:r2.z=1:=by
  have hh:(x.q.den:Int).natAbs=1*1:=by omega
  have h1:t2=1:=aTF (by rw [←hh];exact ha2) (by rw [←hh];exact hb2)
  rw [ht2,h1];rfl
 repeat refine aB ?_
 refine bG (fun b6=>?_)
 repeat refine aB ?_
 (refine aS rfl (aOK (x:=r1) (y:=r2) (u:=k) (by omega) (by rw [e2];decide) aA aA) rfl rfl ?_;rintro _ _ _ ⟨rfl,e,rfl,he,rfl⟩;refine aL ?_)
 have heq:e.q=(n:Rat):=by rw [he,e1,e2,Rat.divInt_eq_div];show ((n:Int):Rat) / ((1:Int):Rat)=(n:Rat);have h1:((n:Int):Rat)=(n:Rat):=rfl;have h2:((1:Int):Rat)=1:=rfl;rw [h1,h2];grind
 repeat refine aB ?_
 refine bG (fun b8=>?_)
 repeat refine aB ?_
 (repeat refine aJ ?_);refine aO 2 [0,1,2,4,3,5,6,7,8] [2,2,2,2,0,0,1,0,0] mixed (by kernel_rfl) ?_
 repeat refine aB ?_
 refine iG rfl (iV (a:=e) (b:=e) (k:=k) (m:=k) (by omega) (Hv.mem aA) (Hv.mem aA)) (fun s hs=>?_)
 refine dP rfl (oM (a:=s) (b:=x) (k:=k+k) (m:=k) (by omega) (Hv.mem aA) (Hv.mem aA)) ?_
 rw [show aDX s.q x.q=0 by rw [hs,heq,hx,Rat.natCast_mul];exact vF.2 rfl]
 repeat refine aB ?_
 refine dI (rs:=[.cell 2 40, .tmp 3]) (vs:=[rv e, .bool (B ((0:Int)=0))]) (.inl rfl) rfl (.cellN (cs:=eR e) inferInstance rfl aA rfl (.tmp rfl .nil)) rfl M0 (cK e k::I0) aG aF ⟨rfl,e,by rw [cB (p:=(0:Int)=0) rfl],heq,rfl⟩
end
end Go.Proofs.YtgpkjcmipiodcaaGreat
namespace Go.Proofs.YtgpkjcmipiodcaaGreat
open Go Go.Fx
def V3.nth (v:V3) (j:Nat):Rat:=if j=0 then v.x else if j=1 then v.y else v.z
def frF (u v:V3) (k:Rat) (i j:Nat):Rat:=(frm u v k i).nth j
theorem bAZ {u v w:TE} (hw:w.v=u.v.crs v.v) (k:Rat) {i:Nat} (hi:i < 3):[k*(gt [u.x,u.y,u.z] (i:Int)).q,k*(gt [v.x,v.y,v.z] (i:Int)).q,k*k*(gt [w.x,w.y,w.z] (i:Int)).q]=(List.range 3).map (frF u.v v.v k i):=by
 have e:(List.range 3).map (frF u.v v.v k i)=[(frm u.v v.v k i).x,(frm u.v v.v k i).y,(frm u.v v.v k i).z]:=rfl
 rw [e]
 unfold frm
 rw [←hw]
 rcases i with _|_|_|i
 ·rfl
 ·rfl
 ·rfl
 ·omega
section
variable {X:List Nat} {w0:World} {M0 M1:List Ent} {I0:List aV}
theorem aFD {u v:TE} {s:RE} {ku ks KK:Nat} (hku:ku≤100000000) (hks:ks≤100000000) (hs0:s.q≠0) (hK:ks+ks+(ku+ku+(ku+ku)+1)=KK) (hu:Hv I0 (gN u ku)) (hv:Hv I0 (gN v ku)) (hs:Hv I0 (cK s ks)):
  CD Tryz.prog 48 [tv u,tv v,rv s] X w0 M0 I0 (XQ (yN 3 3 (frF u.v v.v (1 / s.q))) 3 3 KK M0 I0):=by
 refine bO (φ:=gN u ku) hu (bO (φ:=gN v ku) hv.cons (bO (φ:=cK s ks) hs.cons.cons ?_))
 have hW:=fun M0 I0=>jA (X:=X) (w0:=w0) (M0:=M0) (I0:=I0) (x:=1) (by decide) (k:=0) (by decide)
 refine iO Tryz.func48 rfl Tryz.ntmps48 rfl ?_
 refine fE ?_
 refine fG rfl (fun b3=>?_)
 refine aC (cs:=eT u) .here ?_
 refine fG rfl (fun b4=>?_)
 refine aC (cs:=eT v) .here ?_
 refine fG rfl (fun b5=>?_)
 refine aC (cs:=eR s) .here ?_
 repeat refine aB ?_
 (refine aU rfl (aFP (a:=u) (b:=v) (ka:=ku) (kb:=ku) (K:=ku+ku+(ku+ku)+1) hku hku rfl (Hv.mem aA) (Hv.mem aA)) ?_;rintro _ _ _ ⟨rfl,w,rfl,hw,rfl⟩;refine aL ?_)
 obtain ⟨kw,hkw⟩:∃kw,ku+ku+(ku+ku)+1=kw:=⟨_,rfl⟩
 rw [hkw] at hK ⊢
 refine bG (fun b7=>?_)
 repeat refine aB ?_
 refine mQ (fun _ hw=>hw.freezeB (cs:=eT w) .here) ?_
 refine kH (fun G M I=>∃(b8:Nat) (e:RE),e.q=1 / s.q∧G=[(3, .pointer (some ⟨b3,0,none⟩)),(4, .pointer (some ⟨b4,0,none⟩)),(7, .pointer (some ⟨b7,0,none⟩)),(8, .pointer (some ⟨b8,0,none⟩))]∧M= .blk b8 (eR e) 40::M0∧cK e (0+ks)::aI (some ⟨b7,0,none⟩) (eT w)::gN w kw::aI (some ⟨b4,0,none⟩) (eT v)::aI (some ⟨b3,0,none⟩) (eT u)::gN v ku::gN u ku::I0=I) ?_ ?_
 ·((repeat refine aJ ?_);refine lG (M0) (aI (some ⟨b5,0,none⟩) (eR s)::cK s ks::I0) mixed ?_)
  refine dH (fuel:=8) (listed':=#[false,true,false,false,false,false,false,false,false]) [1] [2] aG aF (by kernel_rfl) (by kernel_rfl) rfl rfl ?_
  repeat refine aB ?_
  refine aN (fuel:=7) (i:=0) (j:=6) (by kernel_rfl) ?_ ?_
  ·refine iG rfl (hW _ _) (fun e0 he0=>?_)
   refine aT ?_
   repeat refine aB ?_
   refine aN (fuel:=6) (i:=2) (j:=6) (by kernel_rfl) ?_ ?_
   ·(refine aU rfl (lI (a:=e0) (b:=s) (k:=0) (m:=ks) (by omega) hs0 (Hv.mem aA) (Hv.mem aA)) ?_;rintro _ _ _ ⟨rfl,e,rfl,he,rfl⟩;refine aL ?_)
    refine aT ?_
    refine aM [3,4,5,6,7,8] [1,1,2,0,0,0] aG aF (by kernel_rfl) (by kernel_rfl) rfl rfl ?_
    repeat refine aB ?_
    refine bG (fun b8=>?_)
    repeat refine aB ?_
    refine mR ⟨b8,e,by rw [he,he0];rfl,rfl,rfl,rfl⟩
   ·refine bG (fun b8=>?_)
    refine aT ?_
    refine aM [2,3,4,5,7,8] [0,0,0,1,0,0] aG aF (by kernel_rfl) (by kernel_rfl) rfl rfl ?_
    repeat refine aB ?_
    (refine aU rfl (lI (a:=e0) (b:=s) (k:=0) (m:=ks) (by omega) hs0 (Hv.mem aA) (Hv.mem aA)) ?_;rintro _ _ _ ⟨rfl,e,rfl,he,rfl⟩;refine aL ?_)
    repeat refine aB ?_
    refine mR ⟨b8,e,by rw [he,he0];rfl,rfl,rfl,rfl⟩
  ·refine bG (fun b8=>?_)
   refine aT ?_
   refine aM [0,2,3,4,5,7,8] [0,0,0,0,1,0,0] aG aF (by kernel_rfl) (by kernel_rfl) rfl rfl ?_
   repeat refine aB ?_
   refine iG rfl (hW _ _) (fun e0 he0=>?_)
   repeat refine aB ?_
   (refine aU rfl (lI (a:=e0) (b:=s) (k:=0) (m:=ks) (by omega) hs0 (Hv.mem aA) (Hv.mem aA)) ?_;rintro _ _ _ ⟨rfl,e,rfl,he,rfl⟩;refine aL ?_)
   repeat refine aB ?_
   refine mR ⟨b8,e,by rw [he,he0];rfl,rfl,rfl,rfl⟩
 rintro G M I ⟨b8,e,he,rfl,rfl,rfl⟩
 rw [Nat.zero_add,←he]
 refine mQ (fun _ hw=>hw.freezeB (cs:=eR e) .here) ?_
 repeat refine aB ?_
 refine pR 52 1 ?_
 refine bD (φ:=vP [] KK) Hv.nilL ?_
 refine kS [3,4,7,8] rfl (fun k G M I=>∃(i:Nat) (rows:List RL) (qa:Option Addr) (ca:Nat),i≤3∧k=3 - i∧rows.length=i∧rows.map RL.q=(List.range i).map (fun i=>(List.range 3).map (frF u.v v.v e.q i))∧(∀r∈rows,r.es.length=3)∧G=[(10, .slice qa rows.length ca),(21, .int .i64 (i:Int))]∧M= .row qa rows.length ca (recs eL rows) 52 1::M0∧vP rows KK::aI (some ⟨b8,0,none⟩) (eR e)::cK e ks::aI (some ⟨b7,0,none⟩) (eT w)::gN w kw::aI (some ⟨b4,0,none⟩) (eT v)::aI (some ⟨b3,0,none⟩) (eT u)::gN v ku::gN u ku::I0=I) (3) (⟨0,[],none,0,by omega,rfl,rfl,rfl,fun r hr=>absurd hr List.not_mem_nil,rfl,rfl,rfl⟩) ?_
 rintro kk G M I ⟨i,rows,qa,ca,hi,rfl,hrl,hrq,hr3,rfl,rfl,rfl⟩
 by_cases hi3:i < 3
 ·have hfr:=bAZ hw e.q hi3
  have hul:([u.x,u.y,u.z]:List RE).length=3:=rfl
  have hvl:([v.x,v.y,v.z]:List RE).length=3:=rfl
  have hwl:([w.x,w.y,w.z]:List RE).length=3:=rfl
  refine bD (φ:=cK (gt [u.x,u.y,u.z] (i:Int)) ku) (Hv.tg (Hv.mem (φ:=gN u ku) aA) hi3) ?_
  refine bD (φ:=cK (gt [v.x,v.y,v.z] (i:Int)) ku) (Hv.tg (Hv.mem (φ:=gN v ku) aA) hi3) ?_
  refine bD (φ:=cK (gt [w.x,w.y,w.z] (i:Int)) kw) (Hv.tg (Hv.mem (φ:=gN w kw) aA) hi3) ?_
  repeat refine aB ?_
  (repeat refine aJ ?_);refine aO 6 [0,1,2,3,4,6,7,8,9,11,12,14,15,16,5,10,13,17,18,19,20,21] [6,6,7,7,6,6,7,7,6,6,6,7,7,6,0,0,0,0,0,0,0,0] mixed (by kernel_rfl) ?_
  repeat refine aB ?_
  (apply bL;exact gQ;exact rfl;exact aA;exact AtsZ.v0 jH;exact rfl;exact rfl)
  repeat refine aB ?_
  (apply bL;exact gQ;exact rfl;exact aA;exact AtsZ.v0 jH;exact rfl;exact rfl)
  repeat refine aB ?_
  (apply bL;exact gQ;exact rfl;exact aA;exact AtsZ.v0 jH;exact rfl;exact rfl)
  repeat refine aB ?_
  refine iG rfl (iV (k:=ks) (m:=ku) (by omega) (Hv.mem aA) (Hv.mem aA)) (fun x0 hx0=>?_)
  refine iG rfl (iV (k:=ks) (m:=ku) (by omega) (Hv.mem aA) (Hv.mem aA)) (fun x1 hx1=>?_)
  refine iG rfl (iV (k:=ks) (m:=ks) (by omega) (Hv.mem aA) (Hv.mem aA)) (fun x2 hx2=>?_)
  refine iG rfl (iV (k:=ks+ks) (m:=kw) (by omega) (Hv.mem aA) (Hv.mem aA)) (fun x3 hx3=>?_)
  refine lL (cs:=recs eR [x0,x1,x3]) ([rv x0,rv x1,rv x3]) rfl (fun b42=>?_)
  refine fH (φ:=bW [x0,x1,x3] KK) (Hv.r3v (Hv.q (k:=ks+ku) aA (by omega)) (Hv.q (k:=ks+ku) aA (by omega)) (Hv.q (k:=ks+ks+kw) aA (by omega))) ?_
  refine jC (mm:=3) 4 .here rfl (by omega) ?_
  refine aGQ (es:=[x0,x1,x3]) (k:=KK) aA ?_
  refine lL (cs:=recs eL [⟨some ⟨b42,0,none⟩,3,[x0,x1,x3]⟩]) ([lv ⟨some ⟨b42,0,none⟩,3,[x0,x1,x3]⟩]) rfl (fun b77=>?_)
  refine tyP (ys:=[(⟨some ⟨b42,0,none⟩,3,[x0,x1,x3]⟩:RL)]) 1 rfl rfl rfl (fun qa2 ca2=>?_)
  repeat refine aB ?_
  refine fF (φ:=vP (rows++[(⟨some ⟨b42,0,none⟩,3,[x0,x1,x3]⟩:RL)]) KK) (Hv.snocL aA aA) ?_
  refine iC (3 - (i+1)) (⟨i+1,rows++[⟨some ⟨b42,0,none⟩,3,[x0,x1,x3]⟩],qa2,ca2,by omega,rfl,by simp [hrl],?_,fun r hr=>?_,rfl,rfl,rfl⟩)
  ·have e':List.range (i+1)=List.range i++[i]:=List.range_succ
   rw [e',List.map_append,List.map_append,hrq]
   show _++[[x0.q,x1.q,x3.q]]=_
   rw [hx0,hx1,hx3,hx2,hfr]
   rfl
  ·rcases List.mem_append.1 hr with h|h
   ·exact hr3 r h
   ·rw [List.mem_singleton.1 h];rfl
 obtain rfl:i=3:=by omega
 repeat refine aB ?_
 refine aSS (k:=KK) aA ?_
 refine gD rfl rfl (⟨rfl,⟨qa,ca,rows⟩,rfl,hrq,⟨hrl,hr3⟩,rfl⟩)
end
end Go.Proofs.YtgpkjcmipiodcaaGreat
namespace Go.Proofs.YtgpkjcmipiodcaaGreat
open Go Go.Fx
section
variable {X:List Nat} {w0:World} {M0 M1:List Ent} {I0:List aV}
theorem aPK {es:List ZE} {kx:Nat} (hkx:kx≤10000000) (hl:es.length=4) (hnz:(tF es).nz) (hsm:∀t:Nat,t < 4→(gt (iQ (Qn.prm (tF es))) (t:Int)).natAbs < 1000000000000000000) (he:∀x∈es,qH x kx∈I0):CD Tryz.prog 125 [.agg (recs eN es).toArray] X w0 M0 I0 (fun v M I=>M0=M∧I0=I∧v=yT (tF es)):=by
 have hgz:Qn.gs (tF es)≠0:=Qn.gs_nz hnz
 refine aZ Tryz.func125 rfl Tryz.ntmps125 rfl ?_
 refine fE ?_
 refine fG rfl (fun b1=>?_)
 refine aC (cs:=recs eN es) .here ?_
 refine bG (fun b2=>?_)
 repeat refine aB ?_
 refine bG (fun b4=>?_)
 refine bG (fun b5=>?_)
 repeat refine aB ?_
 rw [show ([.bool false, .slice none 0 0]:List Value)=eN xP from eN_zero.symm]
 refine fH (φ:=qH xP 0) Hv.z0 (fH (φ:=qH xP kx) Hv.z0 ?_)
 (apply bL;exact gQ;exact rfl;exact aA;exact AtsZ.all (by rw [fJ,hl]);exact rfl;exact rfl)
 repeat refine aB ?_
 refine kS [1,2,4,5,16] rfl (fun k G M I=>∃(i:Nat) (g x1:ZE),i≤4∧k=4 - i∧g.z=gI (fun t=>(gt es (t:Int)).z) i∧x1.z=fI (fun t=>(gt es (t:Int)).z) i∧G=[(17, .int .i64 i)]∧M= .blk b5 (eN x1) 38:: .blk b4 (eN g) 38:: .blk b2 zQ 28::M0∧I=qH x1 kx::qH g (kx*i)::aI (some ⟨b1,0,none⟩) (recs eN es)::I0) (4) (⟨0,xP,xP,by omega,rfl,rfl,rfl,rfl,rfl,rfl⟩) ?_
 rintro kk G M I ⟨i,g,x1,hi,rfl,hg,hx1,rfl,rfl,rfl⟩
 by_cases hii:i < 4
 ·obtain ⟨x,hx⟩:∃x,gt es (i:Int)=x:=⟨_,rfl⟩
  have hxm:x∈es:=by rw [←hx];exact bJ ⟨by omega,by omega⟩
  refine bD (φ:=qH x kx) (Hv.mem (List.mem_cons_of_mem _ (List.mem_cons_of_mem _ (List.mem_cons_of_mem _ (he x hxm))))) ?_
  have hki:kx*i≤kx*4:=Nat.mul_le_mul_left _ hi
  have hG:=fun M0 I0 h1 h2=>NGcd (X:=X) (w0:=w0) (M0:=M0) (I0:=I0) (a:=g) (b:=x) (k:=kx*i) (m:=kx) (by omega) (by omega) h1 h2
  have hS:=fun M0 I0 h1=>oC (X:=X) (w0:=w0) (M0:=M0) (I0:=I0) (u:=nv x1) (z:=x1.z) (k:=kx) (by omega) h1
  repeat refine aB ?_
  (refine aD rfl (fun _=>jN (cs:=recs eN es) (vs:=eN x) (i:=(i:Int)) rfl rfl ⟨by omega,by omega⟩ (by rw [←hx];exact oK ⟨by omega,by omega⟩)) rfl rfl ?_)
  refine bG (fun b7=>?_)
  repeat refine aB ?_
  (refine aU rfl (hG _ _ aA aA) ?_;rintro _ _ _ ⟨rfl,g2,rfl,hg2,rfl⟩;refine aL ?_)
  repeat refine aB ?_
  refine dP rfl (hS _ _ aA) ?_
  have hg3:g2.z=gI (fun t=>(gt es (t:Int)).z) (i+1):=by rw [hg2,hg,←hx];rfl
  by_cases hs:x1.z=0
  ·rw [show x1.z.sign=0 by rw [hs];rfl]
   repeat refine aB ?_
   refine iC (4 - (i+1)) (⟨i+1,g2,x,by omega,rfl,hg3,by show _=if fI _ i=0 then (gt es (i:Int)).z else fI _ i;rw [if_pos (hx1.symm.trans hs),hx],rfl,rfl,rfl⟩)
  ·have hsn:x1.z.sign≠0:=fun h=>hs (Int.sign_eq_zero_iff_zero.1 h)
   generalize x1.z.sign=sg at hsn
   repeat refine aB ?_
   refine iC (4 - (i+1)) (⟨i+1,g2,x1,by omega,rfl,hg3,by show _=if fI _ i=0 then (gt es (i:Int)).z else fI _ i;rw [if_neg (fun h=>hs (hx1.trans h))];exact hx1,rfl,rfl,rfl⟩)
 ·obtain rfl:i=4:=by omega
  rw [aZH] at hg
  rw [aNY] at hx1
  have hSg:=fun M0 I0 h1=>oC (X:=X) (w0:=w0) (M0:=M0) (I0:=I0) (u:=nv x1) (z:=x1.z) (k:=kx) (by omega) h1
  have hN:=fun M0 I0 h1=>NNeg (X:=X) (w0:=w0) (M0:=M0) (I0:=I0) (a:=g) (k:=kx*4) (by omega) h1
  repeat refine aB ?_
  refine dP rfl (hSg _ _ aA) ?_
  refine aHH (fun G M I=>∃gg:ZE,gg.z=Qn.gs (tF es)∧G=[(1, .pointer (some ⟨b1,0,none⟩)),(2, .pointer (some ⟨b2,0,none⟩)),(4, .pointer (some ⟨b4,0,none⟩))]∧M= .blk b5 (eN x1) 38:: .blk b4 (eN gg) 38:: .blk b2 zQ 28::M0∧I=qH gg (kx*4)::aI (some ⟨b1,0,none⟩) (recs eN es)::I0) ?_ ?_
  ·by_cases hs:x1.z < 0
   ·rw [Int.sign_eq_neg_one_of_neg hs]
    repeat refine aB ?_
    (refine aU rfl (hN _ _ aA) ?_;rintro _ _ _ ⟨rfl,g2,rfl,hg2,rfl⟩;refine aL ?_)
    repeat refine aB ?_
    refine mR ⟨g2,by rw [hg2,hg];unfold Qn.gs;rw [if_pos (by rw [←hx1];exact hs)],rfl,rfl,rfl⟩
   ·have hsg:¬x1.z.sign < 0:=fun h=>hs (Int.sign_neg_iff.1 h)
    generalize x1.z.sign=sg at hsg
    repeat refine aB ?_
    refine mR ⟨g,by rw [hg];unfold Qn.gs;rw [if_neg (by rw [←hx1];exact hs)],rfl,rfl,rfl⟩
  ·rintro G M I ⟨gg,hgg,rfl,rfl,rfl⟩
   repeat refine aB ?_
   refine bG (fun b8=>?_)
   repeat refine aB ?_
   (apply bL;exact gQ;exact rfl;exact aA;exact AtsZ.all (by rw [fJ,hl]);exact rfl;exact rfl)
   repeat refine aB ?_
   refine kS [2,4,8,33] rfl (fun k G M I=>∃(i:Nat) (out:List Int),i≤4∧k=4 - i∧out.length=4∧(∀j:Nat,j < i→gt out (j:Int)=gt (iQ (Qn.prm (tF es))) (j:Int)∧(gt (iQ (Qn.prm (tF es))) (j:Int)).natAbs≤1048576)∧G=[(34, .int .i64 i)]∧M= .blk b8 (recs (eI .i64) out) 123:: .blk b5 (eN x1) 38:: .blk b4 (eN gg) 38:: .blk b2 zQ 28::M0∧I=qH gg (kx*4)::aI (some ⟨b1,0,none⟩) (recs eN es)::I0) (4) (⟨0,[0,0,0,0],by omega,rfl,rfl,fun j hj=>by omega,rfl,rfl,rfl⟩) ?_
   rintro kk G M I ⟨i,out,hi,rfl,hol,ho,rfl,rfl,rfl⟩
   by_cases hii:i < 4
   ·obtain ⟨x,hx⟩:∃x,gt es (i:Int)=x:=⟨_,rfl⟩
    have hxm:x∈es:=by rw [←hx];exact bJ ⟨by omega,by omega⟩
    obtain ⟨hd,hp⟩:=aUH es hnz hii
    have hf:=Int.fdiv_eq_ediv_of_dvd hd
    have hsl:((gt es (i:Int)).z / Qn.gs (tF es)).natAbs < 1000000000000000000:=by rw [←hp];exact hsm i hii
    rw [hx] at hd hp hf hsl
    refine bD (φ:=qH x kx) (Hv.mem (List.mem_cons_of_mem _ (List.mem_cons_of_mem _ (he x hxm)))) ?_
    have hD:=fun M0 I0 h1 h2=>NDiv (X:=X) (w0:=w0) (M0:=M0) (I0:=I0) (a:=x) (b:=gg) (k:=kx) (m:=kx*4) (by omega) (by omega) (by rw [hgg];exact hgz) h1 h2
    have hS:=fun (q:ZE) M0 I0 hq h1=>aIQ (X:=X) (w0:=w0) (M0:=M0) (I0:=I0) (u:=nv q) (z:=q.z) (k:=kx) hq (by omega) h1
    repeat refine aB ?_
    (refine aD rfl (fun _=>jN (cs:=recs eN es) (vs:=eN x) (i:=(i:Int)) rfl rfl ⟨by omega,by omega⟩ (by rw [←hx];exact oK ⟨by omega,by omega⟩)) rfl rfl ?_)
    refine bG (fun b10=>?_)
    repeat refine aB ?_
    (refine aU rfl (hD _ _ aA aA) ?_;rintro _ _ _ ⟨rfl,q,r,rfl,hq,rfl⟩;refine aL ?_)
    have hqs:q.z=x.z / Qn.gs (tF es):=by rw [hq,hgg,hf]
    repeat refine aB ?_
    refine bG (fun b11=>?_)
    refine bG (fun b12=>?_)
    repeat refine aB ?_
    (refine aS rfl (hS q _ _ (by rw [hqs];exact hsl) aA) rfl rfl ?_;rintro _ _ _ ⟨rfl,rfl,rfl⟩;refine aL ?_)
    have hno:¬q.z.natAbs≤1048576→yT (tF es)= .tuple #[qv Qn.zero, .int .i64 3]:=fun h=>by
     unfold yT
     rw [if_neg (fun hf=>h (by rw [hqs,←hp];exact aAH.2 hf i hii))]
    by_cases h1:q.z < -1048576
    ·repeat refine aB ?_
     (refine aD rfl (fun _=>aK (pvs:=([]).zipIdx.map (fun p=>(p.2,p.1))) (cells:=zQ) rfl rfl) rfl rfl ?_)
     repeat refine aB ?_
     refine dI (rs:=[.cell 2 28, .tmp 3]) (vs:=[qv Qn.zero, .int .i64 3]) (.inl rfl) rfl (.cellN (cs:=eQ Qn.zero) inferInstance rfl aA rfl (.tmp rfl .nil)) rfl M0 I0 aG aF ⟨rfl,rfl,(hno (by omega)).symm⟩
    by_cases h2:1048576 < q.z
    ·repeat refine aB ?_
     (refine aD rfl (fun _=>aK (pvs:=([]).zipIdx.map (fun p=>(p.2,p.1))) (cells:=zQ) rfl rfl) rfl rfl ?_)
     repeat refine aB ?_
     refine dI (rs:=[.cell 2 28, .tmp 3]) (vs:=[qv Qn.zero, .int .i64 3]) (.inl rfl) rfl (.cellN (cs:=eQ Qn.zero) inferInstance rfl aA rfl (.tmp rfl .nil)) rfl M0 I0 aG aF ⟨rfl,rfl,(hno (by omega)).symm⟩
    repeat refine yXh ?_
    refine oH rfl rfl rfl iN (StAt.o1 (enc:=eI .i64) q.z ⟨by omega,by omega⟩ rfl) rfl rfl ⟨okF,?_⟩
    repeat refine aB ?_
    refine iC (4 - (i+1)) (⟨i+1,st out (i:Int) q.z,by omega,rfl,by rw [dB];exact hol,fun t ht=>?_,rfl,rfl,rfl⟩)
    rw [aBO _ ⟨by omega,by omega⟩ (by omega)]
    by_cases e:t=i
    ·subst e
     rw [if_pos rfl,hqs,hp]
     exact ⟨rfl,by rw [←hqs];omega⟩
    ·rw [if_neg (by omega)]
     exact ho t (by omega)
   ·obtain rfl:i=4:=by omega
    have hfit:(Qn.prm (tF es)).fit:=aAH.1 (fun j hj=>(ho j hj).2)
    have hq:=aYX hol (fun j hj=>(ho j hj).1)
    have hv:yT (tF es)= .tuple #[qv (Qn.prm (tF es)), .int .i64 0]:=by unfold yT;rw [if_pos hfit]
    obtain ⟨y0,y1,y2,y3,rfl⟩:∃y0 y1 y2 y3,out=[y0,y1,y2,y3]:=by
     match out,hol with
     |[a,b,c,d],_=>exact ⟨a,b,c,d,rfl⟩
    replace hq:Qn.prm (tF es)=⟨y0,y1,y2,y3⟩:=hq
    repeat refine aB ?_
    (refine aD rfl (fun _=>dK (vals:=eQ ⟨y0,y1,y2,y3⟩) (cells:=eQ ⟨y0,y1,y2,y3⟩) rfl ?hpl rfl ?hz) rfl rfl ?_;(case hpl=>repeat (first|exact True.intro|refine ⟨rfl,?_⟩));(case hz=>rfl))
    repeat refine aB ?_
    refine dI (rs:=[.cell 2 28, .tmp 3]) (vs:=[qv ⟨y0,y1,y2,y3⟩, .int .i64 0]) (.inl rfl) rfl (.cellN (cs:=eQ ⟨y0,y1,y2,y3⟩) inferInstance rfl aA rfl (.tmp rfl .nil)) rfl M0 I0 aG aF ⟨rfl,rfl,by rw [hv,hq]⟩
end
end Go.Proofs.YtgpkjcmipiodcaaGreat
namespace Go.Proofs.YtgpkjcmipiodcaaGreat
open Go Go.Fx
structure AllN (es:List ZE) (k:Nat) (X:List Nat) (w:World):Prop where
 go:∀e∈es,IsI (nv e) e.z k X w
abbrev aLF (es:List ZE) (k:Nat):aV:=AllN es k
instance (es:List ZE) (k:Nat):Fx.Good (AllN es k):=⟨fun X Y w w' h he hY=>⟨fun e hm=>Fx.Good.go (φ:=IsI _ _ _) X Y w w' (h.go e hm) he hY⟩⟩
theorem Hv.stN {I:List aV} {es:List ZE} {e:ZE} {i:Int} {k:Nat} (h1:aLF es k∈I) (h2:qH e k∈I):Hv I (aLF (st es i e) k):=⟨fun X w hw=>⟨fun x hx=>by
 have h3:AllN es k X w:=hw _ h1
 have h4:IsI (nv e) e.z k X w:=hw _ h2
 unfold st at hx
 rcases List.mem_or_eq_of_mem_set hx with h|h
 ·exact h3.go x h
 ·rw [h];exact h4⟩⟩
theorem Hv.elN {I:List aV} {es:List ZE} {e:ZE} {k:Nat} (h1:aLF es k∈I) (h:e∈es):Hv I (qH e k):=⟨fun X w hw=>(hw _ h1:AllN es k X w).go e h⟩
theorem Hv.zerosN {I:List aV} {k:Nat}:Hv I (aLF [xP,xP,xP,xP] k):=⟨fun X w hw=>⟨fun x hx=>by
 simp only [List.mem_cons,List.not_mem_nil,or_false,or_self] at hx
 subst hx
 exact (Hv.z0 (k:=k)).go X w hw⟩⟩
theorem aVD:recs eN [xP,xP,xP,xP]=[.bool false, .slice none 0 0, .bool false, .slice none 0 0, .bool false, .slice none 0 0, .bool false, .slice none 0 0]:=by
 show eN xP++(eN xP++(eN xP++(eN xP++[])))=_
 rw [eN_zero];rfl
theorem len4 {α:Type} {l:List α} (h:l.length=4):∃a b c d,l=[a,b,c,d]:=by
 match l,h with
 |[a,b,c,d],_=>exact ⟨a,b,c,d,rfl⟩
theorem aSY (e:Rat):e*(e.den:Rat)=(e.num:Rat):=by
 have hd:(e.den:Rat)≠0:=by
  have:=e.den_nz
  exact_mod_cast this
 have h0:=Rat.num_divInt_den e
 rw [Rat.divInt_eq_div] at h0
 have h1:((e.den:Int):Rat)=(e.den:Rat):=rfl
 rw [h1] at h0
 obtain ⟨n,hn⟩:∃n:Rat,(e.num:Rat)=n:=⟨_,rfl⟩
 obtain ⟨d,hdd⟩:∃d:Rat,(e.den:Rat)=d:=⟨_,rfl⟩
 rw [hn,hdd] at h0
 rw [hn,hdd]
 rw [hdd] at hd
 rw [←h0]
 grind
theorem aCB {e:Rat} {o q:Int} (h:(o:Rat)=e*q):(e.den:Int)*o=e.num*q:=by
 have hd:(e.den:Rat)≠0:=by
  have:=e.den_nz
  exact_mod_cast this
 have h1:e*(e.den:Rat)=(e.num:Rat):=aSY e
 have h2:(e.den:Rat)*(o:Rat)=(e.num:Rat)*q:=by rw [h,←h1];grind
 have h3:(((e.den:Int)*o:Int):Rat)=((e.num*q:Int):Rat):=by
  rw [Rat.intCast_mul,Rat.intCast_mul]
  exact h2
 exact Rat.intCast_inj.1 h3
theorem aYS {os:List ZE} {q:Qn} {e:Rat} (he:e≠0) (hq:q.nz) (h:∀t:Nat,t < 4→((gt os (t:Int)).z:Rat)=e*((gt (iQ q) (t:Int):Int):Rat)):(tF os).nz∧Qn.prm (tF os)=Qn.prm q:=by
 have h0:=aCB (h 0 (by omega))
 have h1:=aCB (h 1 (by omega))
 have h2:=aCB (h 2 (by omega))
 have h3:=aCB (h 3 (by omega))
 have hd:(e.den:Int)≠0:=by have:=e.den_nz;omega
 have hn:e.num≠0:=fun h=>he (Rat.num_eq_zero.1 h)
 have e1:Qn.smul (e.den:Int) (tF os)=Qn.smul e.num q:=Qn.ext4 h0 h1 h2 h3
 have hnz:(tF os).nz:=fun hz=>by
  have h5:=Qn.nz_smul hn hq
  rw [←e1,hz] at h5
  exact h5 (Qn.ext4 (Int.mul_zero _) (Int.mul_zero _) (Int.mul_zero _) (Int.mul_zero _))
 exact ⟨hnz,(Qn.prm_iff hnz hq).2 ⟨_,_,hd,hn,e1⟩⟩
theorem iQ_b {q:Qn} (hf:q.fit) {t:Nat} (ht:t < 4):(gt (iQ q) (t:Int)).natAbs < 1000000000000000000:=by
 obtain ⟨⟨f1,f2⟩,f3,f4⟩:=hf
 rcases t with _|_|_|_|t
 ·show q.a.natAbs < _;omega
 ·show q.b.natAbs < _;omega
 ·show q.c.natAbs < _;omega
 ·show q.d.natAbs < _;omega
 ·omega
section
variable {X:List Nat} {w0:World} {M0 M1:List Ent} {I0:List aV}
theorem aUU {es:List RE} {kb:Nat} (hk:kb≤100000000) (hl:es.length=4) (he:Hv I0 (bW es kb)):CD Tryz.prog 111 [.agg (recs eR es).toArray] X w0 M0 I0 (fun v M I=>M0=M∧I0=I∧v= .bool (B (∃t:Nat,t < 4∧(gt es (t:Int)).q≠0))):=by
 refine bO (φ:=bW es kb) he ?_
 refine aZ Tryz.func111 rfl Tryz.ntmps111 rfl ?_
 refine fE ?_
 refine fG rfl (fun b1=>?_)
 refine aC (cs:=recs eR es) .here ?_
 repeat refine aB ?_
 (apply bL;exact gQ;exact rfl;exact aA;exact AtsZ.all (by rw [fJ,hl]);exact rfl;exact rfl)
 repeat refine aB ?_
 refine kS [5] rfl (fun k G M I=>∃i:Nat,i≤4∧k=4 - i∧(∀j:Nat,j < i→(gt es (j:Int)).q=0)∧G=[(6, .int .i64 (i:Int))]∧M0=M∧bW es kb::I0=I) (4) (⟨0,by omega,rfl,fun j hj=>absurd hj (by omega),rfl,rfl,rfl⟩) ?_
 rintro kk G M I ⟨i,hi,rfl,hz,rfl,rfl,rfl⟩
 by_cases hi4:i < 4
 ·obtain ⟨x,hx⟩:∃x,gt es (i:Int)=x:=⟨_,rfl⟩
  refine bD (φ:=cK x kb) (by rw [←hx];exact Hv.all (k:=kb) aA (by omega) (Nat.le_refl _)) ?_
  have hS:=fun M0 I0 h=>kV (X:=X) (w0:=w0) (M0:=M0) (I0:=I0) (e:=x) (k:=kb) (by omega) h
  repeat refine aB ?_
  (refine aD rfl (fun _=>jN (cs:=recs eR es) (vs:=eR x) (i:=(i:Int)) rfl rfl ⟨by omega,by omega⟩ (by rw [←hx];exact oK ⟨by omega,by omega⟩)) rfl rfl ?_)
  refine bG (fun b4=>?_)
  repeat refine aB ?_
  refine dP rfl (hS _ _ (Hv.mem aA)) ?_
  by_cases h0:x.q=0
  ·rw [show x.q.num.sign=0 by rw [h0];rfl]
   repeat refine aB ?_
   refine iC (4 - (i+1)) (⟨i+1,by omega,rfl,fun j hj=>?_,rfl,rfl,rfl⟩)
   by_cases e:j=i
   ·subst e;rw [hx];exact h0
   ·exact hz j (by omega)
  ·have hs:x.q.num.sign≠0:=fun h=>h0 (Rat.num_eq_zero.1 (Int.sign_eq_zero_iff_zero.1 h))
   generalize x.q.num.sign=sg at hs
   repeat refine aB ?_
   refine aH (by first|exact .inl rfl|exact .inr rfl) rfl rfl _ _ aG aF (⟨rfl,rfl,by rw [cB (p:=∃t:Nat,t < 4∧(gt es (t:Int)).q≠0) ⟨i,hi4,by rw [hx];exact h0⟩]⟩)
 obtain rfl:i=4:=by omega
 repeat refine aB ?_
 refine aH (by first|exact .inl rfl|exact .inr rfl) rfl rfl _ _ aG aF (⟨rfl,rfl,by rw [bF (p:=∃t:Nat,t < 4∧(gt es (t:Int)).q≠0) (fun ⟨t,ht,h⟩=>h (hz t ht))]⟩)
theorem aQX {es:List RE} {q:Qn} {c:Rat} {kb:Nat} (hk:kb≤1000000) (hl:es.length=4) (hc:c≠0) (hz:q.nz) (hf:(Qn.prm q).fit) (hq:∀t:Nat,t < 4→(gt es (t:Int)).q=c*((gt (iQ q) (t:Int):Int):Rat)) (he:Hv I0 (bW es kb)):
  CD Tryz.prog 112 [.agg (recs eR es).toArray] X w0 M0 I0 (fun v M I=>M0=M∧I0=I∧v= .tuple #[qv (Qn.prm q), .int .i64 0]):=by
 refine bO (φ:=bW es kb) he ?_
 refine aZ Tryz.func112 rfl Tryz.ntmps112 rfl ?_
 refine fE ?_
 refine fG rfl (fun b1=>?_)
 refine aC (cs:=recs eR es) .here ?_
 refine bG (fun b2=>?_)
 repeat refine aB ?_
 (refine aU rfl (NOf (x:=1) (by decide)) ?_;rintro _ _ _ ⟨rfl,d0,rfl,hd0,rfl⟩;refine aL ?_)
 refine bG (fun b4=>?_)
 repeat refine aB ?_
 (apply bL;exact gQ;exact rfl;exact aA;exact AtsZ.all (by rw [fJ,hl]);exact rfl;exact rfl)
 repeat refine aB ?_
 have hd1:d0.z≠0:=by rw [hd0];decide
 refine bD (φ:=qH d0 (63+0*kb)) (Hv.mem (by rw [Nat.zero_mul];exact List.mem_cons_self)) ?_
 refine kS [1,2,4,14] rfl (fun k G M I=>∃(i:Nat) (d:ZE),i≤4∧k=4 - i∧d.z≠0∧(∀j:Nat,j < i→((gt es (j:Int)).q.den:Int) ∣ d.z)∧G=[(15, .int .i64 (i:Int))]∧M= .blk b4 (eN d) 38:: .blk b2 zQ 28::M0∧qH d (63+i*kb)::aI (some ⟨b1,0,none⟩) (recs eR es)::bW es kb::I0=I) (4) (⟨0,d0,by omega,rfl,hd1,fun j hj=>absurd hj (by omega),rfl,rfl,rfl⟩) ?_
 rintro kk G M I ⟨i,d,hi,rfl,hdz,hdv,rfl,rfl,rfl⟩
 by_cases hi4:i < 4
 ·obtain ⟨x,hx⟩:∃x,gt es (i:Int)=x:=⟨_,rfl⟩
  have hki:i*kb≤4*kb:=Nat.mul_le_mul_right _ hi
  refine bD (φ:=cK x kb) (by rw [←hx];exact Hv.all (k:=kb) aA (by omega) (Nat.le_refl _)) ?_
  refine bD (φ:=qH ⟨(x.q.den:Int),x.p2,x.c2⟩ kb) (Hv.rden (Hv.mem aA)) ?_
  repeat refine aB ?_
  (refine aD rfl (fun _=>jN (cs:=recs eR es) (vs:=eR x) (i:=(i:Int)) rfl rfl ⟨by omega,by omega⟩ (by rw [←hx];exact oK ⟨by omega,by omega⟩)) rfl rfl ?_)
  refine bG (fun b6=>?_)
  repeat refine aB ?_
  (refine aU rfl (uMul (a:=d) (b:=⟨(x.q.den:Int),x.p2,x.c2⟩) (k:=63+i*kb) (m:=kb) (by omega) aA aA) ?_;rintro _ _ _ ⟨rfl,d',rfl,hd',rfl⟩;refine aL ?_)
  rw [show 63+i*kb+kb=63+(i+1)*kb by rw [Nat.succ_mul];omega]
  repeat refine aB ?_
  have hd':d'.z=d.z*(x.q.den:Int):=hd'
  have hxd:(x.q.den:Int)≠0:=by have:=x.q.den_nz;omega
  refine iC (4 - (i+1)) (⟨i+1,d',by omega,rfl,by rw [hd'];exact Int.mul_ne_zero hdz hxd,fun j hj=>?_,rfl,rfl,rfl⟩)
  rw [hd']
  by_cases e:j=i
  ·subst e;rw [hx];exact Int.dvd_mul_left _ _
  ·exact Int.dvd_mul_of_dvd_left (hdv j (by omega))
 obtain rfl:i=4:=by omega
 obtain ⟨kd,hkd⟩:∃kd,63+4*kb=kd:=⟨_,rfl⟩
 rw [hkd]
 repeat refine aB ?_
 refine bG (fun b7=>?_)
 repeat refine aB ?_
 (apply bL;exact gQ;exact rfl;exact aA;exact AtsZ.all (by rw [fJ,hl]);exact rfl;exact rfl)
 repeat refine aB ?_
 refine mQ (fun _ hw=>hw.freezeB (cs:=eN d) (.there .here)) ?_
 obtain ⟨KO,hKO⟩:∃KO,kb+kd=KO:=⟨_,rfl⟩
 refine bD (φ:=aLF [xP,xP,xP,xP] KO) Hv.zerosN ?_
 refine kS [2,4,7,23] rfl (fun k G M I=>∃(i:Nat) (os:List ZE),i≤4∧k=4 - i∧(os.length=4∧∀j:Nat,j < i→((gt os (j:Int)).z:Rat)=(d.z:Rat)*(gt es (j:Int)).q)∧G=[(24, .int .i64 (i:Int))]∧M= .blk b7 (recs eN os) 171:: .blk b2 zQ 28::M0∧aLF os KO::aI (some ⟨b4,0,none⟩) (eN d)::qH d kd::bW es kb::I0=I) (4) (⟨0,[xP,xP,xP,xP],by omega,rfl,⟨rfl,fun j hj=>absurd hj (by omega)⟩,rfl,by rw [aVD],rfl⟩) ?_
 rintro kk G M I ⟨i,os,hi,rfl,⟨hol,ho⟩,rfl,rfl,rfl⟩
 by_cases hi4:i < 4
 ·obtain ⟨x,hx⟩:∃x,gt es (i:Int)=x:=⟨_,rfl⟩
  have hxd:=hdv i hi4
  rw [hx] at hxd
  have hx0:(x.q.den:Int)≠0:=by have:=x.q.den_nz;omega
  refine bD (φ:=cK x kb) (by rw [←hx];exact Hv.all (k:=kb) aA (by omega) (Nat.le_refl _)) ?_
  refine bD (φ:=qH ⟨(x.q.den:Int),x.p2,x.c2⟩ kb) (Hv.rden (Hv.mem aA)) ?_
  refine bD (φ:=qH ⟨x.q.num,x.p1,x.c1⟩ kb) (Hv.rnum (Hv.mem aA)) ?_
  repeat refine aB ?_
  (refine aD rfl (fun _=>jN (cs:=recs eR es) (vs:=eR x) (i:=(i:Int)) rfl rfl ⟨by omega,by omega⟩ (by rw [←hx];exact oK ⟨by omega,by omega⟩)) rfl rfl ?_)
  refine bG (fun b9=>?_)
  repeat refine aB ?_
  (refine aU rfl (NDiv (a:=d) (b:=⟨(x.q.den:Int),x.p2,x.c2⟩) (k:=kd) (m:=kb) (by omega) (by omega) hx0 aA aA) ?_;rintro _ _ _ ⟨rfl,q1,r1,rfl,hq1,rfl⟩;refine aL ?_)
  repeat refine aB ?_
  refine bG (fun b10=>?_)
  refine bG (fun b11=>?_)
  repeat refine aB ?_
  (refine aU rfl (uMul (a:=⟨x.q.num,x.p1,x.c1⟩) (b:=q1) (k:=kb) (m:=kd) (by omega) aA aA) ?_;rintro _ _ _ ⟨rfl,o,rfl,hO,rfl⟩;refine aL ?_)
  rw [hKO]
  repeat refine aB ?_
  (refine fM (vs:=eN o) (cs:=recs eN os) (cs':=recs eN (st os (i:Int) o)) rfl rfl rfl nU iN (by rw [Nat.zero_add];exact StAts.r o ⟨by omega,by omega⟩ rfl) rfl rfl ⟨okF,?_⟩)
  repeat refine aB ?_
  refine fF (φ:=aLF (st os (i:Int) o) KO) (Hv.stN aA aA) ?_
  refine iC (4 - (i+1)) (⟨i+1,st os (i:Int) o,by omega,rfl,⟨by rw [dB];exact hol,fun j hj=>?_⟩,rfl,rfl,rfl⟩)
  rw [wJ (by omega) (by omega)]
  by_cases e:j=i
  ·subst e
   rw [if_pos rfl,hx]
   have hO:o.z=x.q.num*q1.z:=hO
   have hq1:q1.z=d.z / (x.q.den:Int):=by rw [hq1];exact Int.fdiv_eq_ediv_of_dvd hxd
   obtain ⟨m,hm⟩:=hxd
   rw [hm,Int.mul_ediv_cancel_left _ hx0] at hq1
   rw [hO,hq1,hm,Rat.intCast_mul,Rat.intCast_mul,←aSY x.q]
   have h1:((x.q.den:Int):Rat)=(x.q.den:Rat):=rfl
   rw [h1]
   grind
  ·rw [if_neg e];exact ho j (by omega)
 obtain rfl:i=4:=by omega
 have hdr:(d.z:Rat)≠0:=by exact_mod_cast hdz
 obtain ⟨hnz,hprm⟩:=aYS (os:=os) (q:=q) (e:=(d.z:Rat)*c) (fun h=>(Rat.mul_eq_zero.1 h).elim hdr hc) hz (fun t ht=>by rw [ho t ht,hq t ht];grind)
 have hprv:yT (tF os)= .tuple #[qv (Qn.prm q), .int .i64 0]:=by unfold yT;rw [hprm,if_pos hf]
 have hsm:∀t:Nat,t < 4→(gt (iQ (Qn.prm (tF os))) (t:Int)).natAbs < 1000000000000000000:=fun t ht=>by rw [hprm];exact iQ_b hf ht
 clear ho hprm
 obtain ⟨o0,o1,o2,o3,rfl⟩:=len4 hol
 refine bD (φ:=qH o0 KO) (Hv.elN aA (by simp)) ?_
 refine bD (φ:=qH o1 KO) (Hv.elN (es:=[o0,o1,o2,o3]) aA (by simp)) ?_
 refine bD (φ:=qH o2 KO) (Hv.elN (es:=[o0,o1,o2,o3]) aA (by simp)) ?_
 refine bD (φ:=qH o3 KO) (Hv.elN (es:=[o0,o1,o2,o3]) aA (by simp)) ?_
 have hPr:=fun M0 I0 h=>aPK (X:=X) (w0:=w0) (M0:=M0) (I0:=I0) (es:=[o0,o1,o2,o3]) (kx:=KO) (by omega) rfl hnz hsm h
 rw [hprv] at hPr
 repeat refine aB ?_
 (refine aS rfl (hPr _ _ (fun x hx=>by
  simp only [List.mem_cons,List.not_mem_nil,or_false] at hx
  rcases hx with rfl|rfl|rfl|rfl
  ·exact aA
  ·exact aA
  ·exact aA
  ·exact aA)) rfl rfl ?_;rintro _ _ _ ⟨rfl,rfl,rfl⟩;refine aL ?_)
 repeat refine aB ?_
 refine dI (rs:=[.cell 2 28, .tmp 3]) (vs:=[qv (Qn.prm q), .int .i64 0]) (.inl rfl) rfl (.cellN (cs:=eQ (Qn.prm q)) inferInstance rfl aA rfl (.tmp rfl .nil)) rfl M0 I0 aG aF ⟨rfl,rfl,rfl⟩
end
end Go.Proofs.YtgpkjcmipiodcaaGreat

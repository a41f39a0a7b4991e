/- TopChains, plain: the moved network is in front where the other is, and has its residuals. -/
import Derived.Test.YtgpkjcmipiodcaaGreatZwbb
import Derived.Test.YtgpkjcmipiodcaaGreatZwax
set_option linter.unusedSimpArgs false
set_option linter.unusedVariables false
set_option maxRecDepth 100000
set_option maxHeartbeats 4000000
namespace Go.Proofs.YtgpkjcmipiodcaaGreat
open Go Go.Fx
def vQ (x:NX) (q:Qn) (s:P3) (pS:Option Addr) (cS:Nat) (pP:Option Addr) (cP:Nat) (pO:Option Addr) (cO:Nat):NX:=⟨x.d,pS,x.S.map (iT q s),cS,pP,x.P.map (fun p=>jI q p s),cP,pO,x.O,cO⟩
theorem FCk.img {x:NX} (h:FCk x) (hd:x.d=3) (him:∀o∈x.O,o.k=0):NImg x:=⟨hd,h.S,h.P,fun o ho=>h.O o ho (him o ho),h.lS,h.lP,h.lO⟩
section
variable {x:NX} {q:Qn} {s:P3} {pS pP pO:Option Addr} {cS cP cO:Nat}
theorem aXE (hN:NImg x) (hm:MvOk x q s):NImg (vQ x q s pS cS pP cP pO cO):=by
 refine ⟨hN.d,fun t ht=>?_,fun p hp=>?_,fun o ho=>?_,?_,?_,hN.lO⟩
 ·obtain ⟨u,hu,rfl⟩:=List.mem_map.1 (show t∈x.S.map (iT q s) from ht)
  have h1:=hN.S u hu
  obtain ⟨h2,h3⟩:=hm.S u hu
  exact ⟨h3.x,h3.y,h3.z,Qn.prm_nz (Qn.nz_mul hm.nz h1.nz),h2,h1.f,h1.cx,h1.cy⟩
 ·obtain ⟨u,hu,rfl⟩:=List.mem_map.1 (show p∈x.P.map (fun p=>jI q p s) from hp)
  exact hm.P u hu
 ·have h:=hN.O o ho
  have e1:(vQ x q s pS cS pP cP pO cO).S.length=x.S.length:=List.length_map ..
  have e2:(vQ x q s pS cS pP cP pO cO).P.length=x.P.length:=List.length_map ..
  rw [e1,e2];exact h
 ·show (x.S.map (iT q s)).length≤64;rw [List.length_map];exact hN.lS
 ·show (x.P.map (fun p=>jI q p s)).length≤256;rw [List.length_map];exact hN.lP
theorem aNB (hN:NImg x) (hm:MvOk x q s) {o:OB} (ho:o∈x.O):∃k:Rat,0 < k∧
  drX (gt (vQ x q s pS cS pP cP pO cO).S o.a).q (iJ (vQ x q s pS cS pP cP pO cO) o 0) (iJ (vQ x q s pS cS pP cP pO cO) o 1) (iJ (vQ x q s pS cS pP cP pO cO) o 2)=k*drX (gt x.S o.a).q (iJ x o 0) (iJ x o 1) (iJ x o 2)∧
  drY (gt (vQ x q s pS cS pP cP pO cO).S o.a).q (iJ (vQ x q s pS cS pP cP pO cO) o 0) (iJ (vQ x q s pS cS pP cP pO cO) o 1) (iJ (vQ x q s pS cS pP cP pO cO) o 2)=k*drY (gt x.S o.a).q (iJ x o 0) (iJ x o 1) (iJ x o 2)∧
  sD (vQ x q s pS cS pP cP pO cO) o=k*sD x o∧gt (vQ x q s pS cS pP cP pO cO).S o.a=iT q s (gt x.S o.a):=by
 have hob:=hN.O o ho
 obtain ⟨i,hi⟩:∃i:Nat,o.a=(i:Int):=⟨o.a.toNat,by have:=hob.a;omega⟩
 obtain ⟨j,hj⟩:∃j:Nat,o.b=(j:Int):=⟨o.b.toNat,by have:=hob.b;omega⟩
 have eS:gt (vQ x q s pS cS pP cP pO cO).S o.a=iT q s (gt x.S o.a):=by
  show gt (x.S.map (iT q s)) o.a=_
  exact qW (by have:=hob.a;omega)
 have eP:gt (vQ x q s pS cS pP cP pO cO).P o.b=jI q (gt x.P o.b) s:=by
  show gt (x.P.map (fun p=>jI q p s)) o.b=_
  exact qW (f:=fun p=>jI q p s) (by have:=hob.b;omega)
 have hst:=hN.st ⟨hob.a.1,hob.a.2⟩
 obtain ⟨k,hk,hkd⟩:=dr_mv hm.nz hst.nz
 have d0:(⟨iJ (vQ x q s pS cS pP cP pO cO) o 0,iJ (vQ x q s pS cS pP cP pO cO) o 1,iJ (vQ x q s pS cS pP cP pO cO) o 2⟩:V3)=q.app ⟨iJ x o 0,iJ x o 1,iJ x o 2⟩:=by
  have h1:(⟨iJ x o 0,iJ x o 1,iJ x o 2⟩:V3)=(gt x.P o.b).v.sub (gt x.S o.a).at.v:=rfl
  have h2:(⟨iJ (vQ x q s pS cS pP cP pO cO) o 0,iJ (vQ x q s pS cS pP cP pO cO) o 1,iJ (vQ x q s pS cS pP cP pO cO) o 2⟩:V3)=(gt (vQ x q s pS cS pP cP pO cO).P o.b).v.sub (gt (vQ x q s pS cS pP cP pO cO).S o.a).at.v:=rfl
  rw [h1,h2,eS,eP,aHZ,aGK]
  have h3:(iT q s (gt x.S o.a)).at.v=(q.app (gt x.S o.a).at.v).add s.v:=aGK q _ s
  rw [h3]
  apply V3.ext <;>simp only [V3.sub,V3.add] <;>grind
 have dx:=congrArg V3.x d0
 have dy:=congrArg V3.y d0
 have dz:=congrArg V3.z d0
 dsimp only at dx dy dz
 have eq:(iT q s (gt x.S o.a)).q=Qn.prm (Qn.mul q (gt x.S o.a).q):=rfl
 obtain ⟨k1,k2,k3⟩:=hkd ⟨iJ x o 0,iJ x o 1,iJ x o 2⟩
 refine ⟨k,hk,?_,?_,?_,eS⟩
 ·rw [eS,eq,dx,dy,dz];exact k1
 ·rw [eS,eq,dx,dy,dz];exact k2
 ·unfold sD
  rw [eS,eq,dx,dy,dz];exact k3
theorem aYM {k d:Rat} (hk:0 < k):k*d≤0↔d≤0:=by
 constructor
 ·intro h
  refine Rat.not_lt.1 (fun hd=>?_)
  have:=Rat.mul_pos hk hd
  exact absurd h (Rat.not_le.2 this)
 ·intro h
  refine Rat.not_lt.1 (fun hd=>?_)
  have h2:0≤ -d:=by rw [Rat.le_iff_sub_nonneg] at h ⊢;grind
  have:=Rat.mul_nonneg (Rat.le_of_lt hk) h2
  have h3:k* -d= -(k*d):=by grind
  rw [h3] at this
  rw [Rat.lt_iff_sub_pos] at hd
  rw [Rat.le_iff_sub_nonneg] at this
  have h4:=Rat.not_lt.2 this
  grind
theorem aRC (hN:NImg x) (hm:MvOk x q s):frnt (vQ x q s pS cS pP cP pO cO)↔frnt x:=by
 unfold frnt
 have h:∀o∈x.O,(sD (vQ x q s pS cS pP cP pO cO) o≤0↔sD x o≤0):=fun o ho=>by
  obtain ⟨k,hk,_,_,h3,_⟩:=aNB (pS:=pS) (cS:=cS) (pP:=pP) (cP:=cP) (pO:=pO) (cO:=cO) hN hm ho
  rw [h3]
  exact aYM hk
 exact not_congr ⟨fun ⟨o,ho,h1⟩=>⟨o,ho,(h o ho).1 h1⟩,fun ⟨o,ho,h1⟩=>⟨o,ho,(h o ho).2 h1⟩⟩
theorem aXC (hN:NImg x) (hm:MvOk x q s) (hf:frnt x):vM (vQ x q s pS cS pP cP pO cO) x.O=vM x x.O:=by
 have h:∀o∈x.O,∀r,oN (vQ x q s pS cS pP cP pO cO) o r=oN x o r:=fun o ho r=>by
  obtain ⟨k,hk,h1,h2,h3,h4⟩:=aNB (pS:=pS) (cS:=cS) (pP:=pP) (cP:=cP) (pO:=pO) (cO:=cO) hN hm ho
  have hd:sD x o≠0:=fun h=>hf ⟨o,ho,by rw [h];exact Rat.le_refl⟩
  have hk0:k≠0:=fun h=>by rw [h] at hk;exact absurd hk (by decide)
  unfold oN
  rw [h1,h2,h3,h4]
  have e1:(iT q s (gt x.S o.a)).cx=(gt x.S o.a).cx:=rfl
  have e2:(iT q s (gt x.S o.a)).cy=(gt x.S o.a).cy:=rfl
  have e3:(iT q s (gt x.S o.a)).f=(gt x.S o.a).f:=rfl
  rw [e1,e2,e3]
  generalize sD x o=d at*
  split
  ·grind
  ·grind
 have e:∀l:List OB,(∀o∈l,o∈x.O)→vM (vQ x q s pS cS pP cP pO cO) l=vM x l:=fun l=>by
  induction l with
  |nil=>intro _;rfl
  |cons o l ih=>
   intro hl
   have h1:=ih (fun o ho=>hl o (List.mem_cons_of_mem _ ho))
   unfold vM at h1 ⊢
   rw [List.flatMap_cons,List.flatMap_cons,h1,h o (hl o List.mem_cons_self),h o (hl o List.mem_cons_self)]
 exact e x.O (fun o ho=>ho)
end
end Go.Proofs.YtgpkjcmipiodcaaGreat

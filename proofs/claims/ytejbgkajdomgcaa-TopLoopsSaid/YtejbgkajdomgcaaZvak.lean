/- integer: Of Quotients rounded down, fractions in lowest terms, division group by group fro -/
import Derived.Test.YtejbgkajdomgcaaZvaj
import Derived.Test.YtejbgkajdomgcaaZvai
import Derived.Test.YtejbgkajdomgcaaZvaf
import Derived.Test.YtejbgkajdomgcaaZvag
import Derived.Test.YtejbgkajdomgcaaZvac
set_option linter.unusedSimpArgs false
set_option linter.unusedVariables false
set_option maxRecDepth 100000
set_option maxHeartbeats 4000000
namespace Go.Proofs.Ytejbgkajdomgcaa
open Go Go.Fx
theorem aJT {x:Int} (h: -9223372036854775808≤x∧x < 0):IntKind.u64.wrap x=x+18446744073709551616:=by
 simp [IntKind.wrap,IntKind.bits,IntKind.signed];omega
section
variable {X:List Nat} {w0:World} {M0:List Ent} {I0:List aO}
theorem Of_ok {x:Int} (hx:0≤x∧x≤9223372036854775807):CD Try.prog 52 [.int .i64 x] X w0 M0 I0 (fun v M I=>M0=M∧I=qR v x 63::I0):=by
 obtain ⟨n,rfl⟩:∃n:Nat,x=(n:Int):=⟨x.toNat,by omega⟩
 have hn:n≤2 ^ 63:=by omega
 have hsg:((n:Nat):Int)=sg False n:=by unfold sg;rw [if_neg (fun h=>h)]
 refine aX Try.func52 rfl Try.ntmps52 rfl ?_
 refine lU ?_
 refine iL (fun b=>?_)
 repeat refine gQ ?_
 (refine dS rfl (mZ (n:=n) (by omega)) ?_;rintro _ _ _ ⟨rfl,q',c',rfl,hc',rfl⟩;refine cK ?_)
 have hMd:=fun M0 I0=>lH (X:=X) (w0:=w0) (M0:=M0) (I0:=I0) (p:=((n:Nat):Int) < 0) (q:=q') (c:=c') (k:=63) (by have:=dJ hn;omega) hc' hn
 have hs2:sg (((n:Nat):Int) < 0) n=(n:Int):=by unfold sg;rw [if_neg (by omega)]
 simp only [hs2] at hMd
 (refine bZ rfl (hMd _ _ aH) rfl rfl ?_;rintro _ _ _ ⟨rfl,rfl⟩;refine ⟨okK,?_⟩;refine jR (List.Mem.head _) (fun q2 c2 e__ hc2 hz2=>?_);subst e__)
 unfold iv
 repeat refine gQ ?_
 refine kT (cs:=[.bool (B (((n:Nat):Int) < 0)), .slice q2 (gr ((n:Nat):Int).natAbs).length c2]) (.inl rfl) rfl rfl aH rfl _ _ aJ aI ⟨rfl,rfl⟩
end
theorem lQ {y z q r:Int} (h:y=z*q+r) (hr:(0≤r∧r < z)∨(z < r∧r≤0)):y.fdiv z=q∧y.fmod z=r:=by
 have pos:∀{y z q r:Int},y=z*q+r→0≤r→r < z→y.fdiv z=q∧y.fmod z=r:=by
  intro y z q r h h0 h1
  have:=(Int.ediv_emod_unique (a:=y) (b:=z) (r:=r) (q:=q) (by omega)).2 ⟨by omega,h0,h1⟩
  rw [Int.fdiv_eq_ediv_of_nonneg _ (by omega),Int.fmod_eq_emod_of_nonneg _ (by omega)]
  exact this
 rcases hr with ⟨h0,h1⟩|⟨h0,h1⟩
 ·exact pos h h0 h1
 ·have h2:=pos (y:= -y) (z:= -z) (q:=q) (r:= -r) (by rw [Int.neg_mul];omega) (by omega) (by omega)
  rw [Int.neg_fdiv_neg,Int.neg_fmod_neg] at h2
  exact ⟨h2.1,by omega⟩
theorem aHR {y z:Int} (hz:z≠0):
  (¬(y < 0↔z < 0)→y.natAbs % z.natAbs≠0→y.fdiv z= -((y.natAbs / z.natAbs+1:Nat):Int)∧y.fmod z=if z < 0 then -((z.natAbs - y.natAbs % z.natAbs:Nat):Int) else ((z.natAbs - y.natAbs % z.natAbs:Nat):Int))∧
  (((y < 0↔z < 0)∨y.natAbs % z.natAbs=0)→y.fdiv z=(if ¬(y < 0↔z < 0) then -((y.natAbs / z.natAbs:Nat):Int) else ((y.natAbs / z.natAbs:Nat):Int))∧y.fmod z=if z < 0 then -((y.natAbs % z.natAbs:Nat):Int) else ((y.natAbs % z.natAbs:Nat):Int)):=by
 have hlt:=Nat.mod_lt y.natAbs (show z.natAbs>0 by omega)
 have hab:(y.natAbs:Int)=(z.natAbs:Int)*((y.natAbs / z.natAbs:Nat):Int)+((y.natAbs % z.natAbs:Nat):Int):=by
  rw [←Int.natCast_mul,←Int.natCast_add,Nat.div_add_mod]
 generalize hQ:y.natAbs / z.natAbs=Q at*
 generalize hR:y.natAbs % z.natAbs=R at*
 generalize hb:z.natAbs=b at*
 generalize hp:(b:Int)*(Q:Int)=p at*
 constructor
 ·intro hs hR0
  by_cases hz0:z < 0
  ·have hy:¬y < 0:=fun h=>hs ⟨fun _=>hz0,fun _=>h⟩
   have e:z= -(b:Int):=by omega
   rw [if_pos hz0]
   refine lQ ?_ (.inr ⟨by omega,by omega⟩)
   rw [e,Int.neg_mul,Int.mul_neg,Int.neg_neg,Int.natCast_add,Int.mul_add,hp];omega
  ·have hy:y < 0:=by rcases Classical.em (y < 0) with h|h;exact h;exact absurd ⟨fun h'=>absurd h' h,fun h'=>absurd h' hz0⟩ hs
   have e:z=(b:Int):=by omega
   rw [if_neg hz0]
   refine lQ ?_ (.inl ⟨by omega,by omega⟩)
   rw [e,Int.mul_neg,Int.natCast_add,Int.mul_add,hp];omega
 ·intro hs
  by_cases hd:(y < 0↔z < 0)
  ·rw [if_neg (fun h=>h hd)]
   by_cases hz0:z < 0
   ·have hy:=hd.2 hz0
    have e:z= -(b:Int):=by omega
    rw [if_pos hz0]
    refine lQ ?_ (.inr ⟨by omega,by omega⟩)
    rw [e,Int.neg_mul,hp];omega
   ·have hy:¬y < 0:=fun h=>hz0 (hd.1 h)
    have e:z=(b:Int):=by omega
    rw [if_neg hz0]
    refine lQ ?_ (.inl ⟨by omega,by omega⟩)
    rw [e,hp];omega
  ·have hR0:=hs.resolve_left hd
   rw [if_pos hd]
   by_cases hz0:z < 0
   ·have hy:¬y < 0:=fun h=>hd ⟨fun _=>hz0,fun _=>h⟩
    have e:z= -(b:Int):=by omega
    rw [if_pos hz0]
    refine lQ ?_ (.inr ⟨by omega,by omega⟩)
    rw [e,Int.neg_mul,Int.mul_neg,Int.neg_neg,hp];omega
   ·have hy:y < 0:=by rcases Classical.em (y < 0) with h|h;exact h;exact absurd ⟨fun h'=>absurd h' h,fun h'=>absurd h' hz0⟩ hd
    have e:z=(b:Int):=by omega
    rw [if_neg hz0]
    refine lQ ?_ (.inl ⟨by omega,by omega⟩)
    rw [e,Int.mul_neg,hp];omega
end Go.Proofs.Ytejbgkajdomgcaa
namespace Go.Fx
theorem uX {p g:Prop} (h:g) (w:BoxP g→p:=by (intro hh;(first|refine aL ?_|refine dC ?_|refine jV ?_|refine gV ?_|refine dY ?_|refine dN ?_|refine gW ?_|refine eT ?_|refine eH ?_|refine eP ?_|refine jT ?_|refine jK ?_|refine jH ?_|refine jP rfl ?_|refine gG ?_|(refine fG ?_;first|refine fC rfl rfl rfl ?_|(refine fU rfl rfl ?_;refine dM rfl rfl rfl okF ?_)|refine fF rfl rfl (by omega) ?_|refine fE rfl rfl (by omega) ?_)|(refine bD ?_;refine aC rfl (fun _=>bV rfl) rfl rfl ?_)|refine aC rfl (fun _=>aM rfl) rfl rfl ?_|(refine fV ?_;first|refine aC rfl (fun _=>aR rfl rfl wF) rfl rfl ?_|refine aC rfl (fun _=>aS rfl rfl wF) rfl rfl ?_|refine aC rfl (fun _=>cZ rfl rfl wF) rfl rfl ?_|refine aC rfl (fun _=>dB rfl rfl (by omega) qF) rfl rfl ?_|refine aC rfl (fun _=>dA rfl rfl (by omega) rfl) rfl rfl ?_|refine aC rfl (fun _=>bW rfl rfl) rfl rfl ?_|refine aC rfl (fun _=>dK rfl rfl) rfl rfl ?_|refine aC rfl (fun _=>dI rfl rfl) rfl rfl ?_)|(refine bD ?_;first|refine aC rfl (fun _=>bY rfl wF) rfl rfl ?_)|(refine fQ ?_;first|refine aC rfl (fun _=>bM rfl wF) rfl rfl ?_)|(refine fO ?_;first|refine aC rfl (fun _=>aQ rfl) rfl rfl ?_|refine aC rfl (fun _=>bS rfl rfl) rfl rfl ?_|refine aC rfl (fun _=>bT rfl rfl) rfl rfl ?_|refine aC rfl (fun _=>bX rfl rfl rfl) rfl rfl ?_)|(refine fP ?_;first|refine fB rfl (by decide) rfl rfl ?_|refine iN rfl (by decide) rfl rfl ?_)|(refine fJ ?_;first|refine aC rfl (fun _=>bH rfl) rfl rfl ?_)|(refine fH ?_;first|refine iR rfl rfl gP rfl rfl ?_|refine iP jE rfl rfl gP aG iX rfl rfl ?_|refine iO jE rfl rfl gP aG iX rfl rfl ?_|refine aC rfl (fun _=>bA rfl rfl gP) rfl rfl ?_)|(refine fT ?_;first|refine iU jE rfl aG uO rfl rfl ?_|refine iT jE rfl aG uO rfl rfl ?_|refine iA jE rfl aG uO rfl rfl ?_|refine fD jE rfl aG uO rfl rfl ?_|refine pE jE rfl aG atZ rfl rfl ?_|refine pU jE rfl aG atZ rfl rfl ?_|refine pR jE rfl aG atZ rfl rfl ?_|refine kX jE rfl aG atZ rfl rfl ?_)|(refine fK ?_;first|refine aC rfl (fun _=>bC rfl rfl) rfl rfl ?_|refine aC rfl (fun _=>bB rfl) rfl rfl ?_)|(refine gT ?_;first|refine lZ rfl rfl rfl qE stC rfl rfl ⟨okF,?_⟩|refine iE rfl rfl dE rQ qE qW rfl rfl ⟨okF,?_⟩)|(refine gU ?_;first|refine bK rfl ?_|refine bE rfl ?_|refine jM rfl (by omega) ?_|refine mO rfl (by omega) ?_));(repeat (first|refine aL ?_|refine dC ?_|refine jV ?_|refine gV ?_|refine dY ?_|refine dN ?_|refine gW ?_|refine eT ?_|refine eH ?_|refine eP ?_|refine jT ?_|refine jK ?_|refine jH ?_|refine jP rfl ?_|refine gG ?_|(refine fG ?_;first|refine fC rfl rfl rfl ?_|(refine fU rfl rfl ?_;refine dM rfl rfl rfl okF ?_)|refine fF rfl rfl (by omega) ?_|refine fE rfl rfl (by omega) ?_)|(refine bD ?_;refine aC rfl (fun _=>bV rfl) rfl rfl ?_)|refine aC rfl (fun _=>aM rfl) rfl rfl ?_|(refine fV ?_;first|refine aC rfl (fun _=>aR rfl rfl wF) rfl rfl ?_|refine aC rfl (fun _=>aS rfl rfl wF) rfl rfl ?_|refine aC rfl (fun _=>cZ rfl rfl wF) rfl rfl ?_|refine aC rfl (fun _=>dB rfl rfl (by omega) qF) rfl rfl ?_|refine aC rfl (fun _=>dA rfl rfl (by omega) rfl) rfl rfl ?_|refine aC rfl (fun _=>bW rfl rfl) rfl rfl ?_|refine aC rfl (fun _=>dK rfl rfl) rfl rfl ?_|refine aC rfl (fun _=>dI rfl rfl) rfl rfl ?_)|(refine bD ?_;first|refine aC rfl (fun _=>bY rfl wF) rfl rfl ?_)|(refine fQ ?_;first|refine aC rfl (fun _=>bM rfl wF) rfl rfl ?_)|(refine fO ?_;first|refine aC rfl (fun _=>aQ rfl) rfl rfl ?_|refine aC rfl (fun _=>bS rfl rfl) rfl rfl ?_|refine aC rfl (fun _=>bT rfl rfl) rfl rfl ?_|refine aC rfl (fun _=>bX rfl rfl rfl) rfl rfl ?_)|(refine fP ?_;first|refine fB rfl (by decide) rfl rfl ?_|refine iN rfl (by decide) rfl rfl ?_)|(refine fJ ?_;first|refine aC rfl (fun _=>bH rfl) rfl rfl ?_)|(refine fH ?_;first|refine iR rfl rfl gP rfl rfl ?_|refine iP jE rfl rfl gP aG iX rfl rfl ?_|refine iO jE rfl rfl gP aG iX rfl rfl ?_|refine aC rfl (fun _=>bA rfl rfl gP) rfl rfl ?_)|(refine fT ?_;first|refine iU jE rfl aG uO rfl rfl ?_|refine iT jE rfl aG uO rfl rfl ?_|refine iA jE rfl aG uO rfl rfl ?_|refine fD jE rfl aG uO rfl rfl ?_|refine pE jE rfl aG atZ rfl rfl ?_|refine pU jE rfl aG atZ rfl rfl ?_|refine pR jE rfl aG atZ rfl rfl ?_|refine kX jE rfl aG atZ rfl rfl ?_)|(refine fK ?_;first|refine aC rfl (fun _=>bC rfl rfl) rfl rfl ?_|refine aC rfl (fun _=>bB rfl) rfl rfl ?_)|(refine gT ?_;first|refine lZ rfl rfl rfl qE stC rfl rfl ⟨okF,?_⟩|refine iE rfl rfl dE rQ qE qW rfl rfl ⟨okF,?_⟩)|(refine gU ?_;first|refine bK rfl ?_|refine bE rfl ?_|refine jM rfl (by omega) ?_|refine mO rfl (by omega) ?_)));exact hh.out)):p:=w ⟨h⟩
end Go.Fx
namespace Go.Proofs.Ytejbgkajdomgcaa
open Go Go.Fx
theorem wT {a b k:Nat} (h:a≤2 ^ k):a / b≤2 ^ k:=Nat.le_trans (Nat.div_le_self _ _) h
section
variable {X:List Nat} {w0:World} {M0:List Ent} {I0:List aO}
def DvP (s t:Int) (k m:Nat) (M0:List Ent) (I0:List aO) (v:Value) (M:List Ent) (I:List aO):Prop:=M0=M∧∃v1 v2,v= .tuple #[v1,v2, .int .i64 0]∧I=qR v2 t m::qR v1 s k::I0
theorem aIX {y z s t:Int} {q q':Option Addr} {a b Q R k m cq cq':Nat} (hb0:¬(gr b).length=0) (hA1:¬(gr R).length=0) (hA2:¬(y < 0↔z < 0)) (hg1:gr 1=[1])
  (h1:∀M0 I0,aN q (recs eG (gr a))∈I0→CD Try.prog 78 [.agg #[.bool (B (y < 0)), .slice q (gr a).length cq]] X w0 M0 I0 (fun v M I=>M0=M∧I0=I∧v= .slice q (gr a).length cq))
  (h2:∀M0 I0,aN q' (recs eG (gr b))∈I0→CD Try.prog 78 [.agg #[.bool (B (z < 0)), .slice q' (gr b).length cq']] X w0 M0 I0 (fun v M I=>M0=M∧I0=I∧v= .slice q' (gr b).length cq'))
  (hO:∀M0 I0,aN q (recs eG (gr a))∈I0→aN q' (recs eG (gr b))∈I0→CD Try.prog 80 [.slice q (gr a).length cq, .slice q' (gr b).length cq'] X w0 M0 I0 (QrP Q R M0 I0))
  (hC:∀p2 c2,uE p2 R c2→∀M0 I0,aN p2 (recs eG (gr R))∈I0→CD Try.prog 81 [.slice p2 (gr R).length c2] X w0 M0 I0 (fun v M I=>I0=I∧∃q' c',v= .slice q' (gr R).length c'∧M= .row q' (gr R).length c' (recs eG (gr R)) 113 1::M0))
  (hP:∀p1 c1 p2 M0 I0,aN p1 (recs eG (gr Q))∈I0→aN p2 (recs eG [1])∈I0→CD Try.prog 82 [.slice p1 (gr Q).length c1, .slice p2 1 1] X w0 M0 I0 (GrP (Q+1) M0 I0))
  (hMi:∀p3 c3 M0 I0,aN q' (recs eG (gr b))∈I0→aN p3 (recs eG (gr R))∈I0→CD Try.prog 83 [.slice q' (gr b).length cq', .slice p3 (gr R).length c3] X w0 M0 I0 (GrP (b - R) M0 I0))
  (hM1:∀p4 c4,uE p4 (Q+1) c4→∀M0 I0,aN p4 (recs eG (gr (Q+1)))∈I0→CD Try.prog 70 [.bool (B (¬(y < 0↔z < 0))), .slice p4 (gr (Q+1)).length c4] X w0 M0 I0 (fun v M I=>M0=M∧I=qR v s k::I0))
  (hM2:∀p4 c4,uE p4 (b - R) c4→∀M0 I0,aN p4 (recs eG (gr (b - R)))∈I0→CD Try.prog 70 [.bool (B (z < 0)), .slice p4 (gr (b - R)).length c4] X w0 M0 I0 (fun v M I=>M0=M∧I=qR v t m::I0))
  (hq:aN q (recs eG (gr a))∈I0) (hq':aN q' (recs eG (gr b))∈I0):
  CD Try.prog 68 [.agg #[.bool (B (y < 0)), .slice q (gr a).length cq], .agg #[.bool (B (z < 0)), .slice q' (gr b).length cq']] X w0 M0 I0 (DvP s t k m M0 I0):=by
 refine bO Try.func68 rfl Try.ntmps68 rfl ?_
 refine lU ?_
 refine rF rfl (fun b1=>?_)
 refine rF rfl (fun b2=>?_)
 refine iL (fun b3=>?_)
 refine iL (fun b4=>?_)
 repeat refine uX ?_
 (repeat refine aL ?_);refine kG 4 [0,2,1,3,4,5] [1,1,0,0,0,0] mixed (by kernel_rfl) ?_
 repeat' (first|refine uX ?_|refine bG rfl (fun h=>?_) (fun h=>?_)|refine bI rfl rfl (fun h=>?_) (fun h=>?_)|fail)
 refine iM rfl (h1 _ _ aG) ?_
 repeat' (first|refine uX ?_|refine bG rfl (fun h=>?_) (fun h=>?_)|refine bI rfl rfl (fun h=>?_) (fun h=>?_)|fail)
 refine iM rfl (h2 _ _ aG) ?_
 repeat' (first|refine uX ?_|refine bG rfl (fun h=>?_) (fun h=>?_)|refine bI rfl rfl (fun h=>?_) (fun h=>?_)|fail)
 (refine dS rfl (hO _ _ aG aG) ?_;rintro _ _ _ ⟨rfl,p1,c1,p2,c2,ho1,ho2,rfl,rfl⟩;refine cK ?_)
 repeat' (first|refine uX ?_|refine bG rfl (fun h=>?_) (fun h=>?_)|refine bI rfl rfl (fun h=>?_) (fun h=>?_)|fail)
 (refine dS rfl (hC p2 c2 ho2 _ _ aG) ?_;rintro _ _ _ ⟨rfl,p3,c3,rfl,rfl⟩;refine cK ?_)
 refine kF rP ?_
 repeat' (first|refine uX ?_|refine bG rfl (fun h=>?_) (fun h=>?_)|refine bI rfl rfl (fun h=>?_) (fun h=>?_)|fail)
 refine uU (cs:=recs eG [1]) ([.int .u32 1]) rfl (fun b5=>?_)
 refine aF rP ?_
 (refine dS rfl (hP p1 c1 (some ⟨b5,0,none⟩) _ _ aG aG) ?_;rintro _ _ _ ⟨rfl,p4,c4,rfl,hc4,rfl⟩;refine cK ?_)
 repeat' (first|refine uX ?_|refine bG rfl (fun h=>?_) (fun h=>?_)|refine bI rfl rfl (fun h=>?_) (fun h=>?_)|fail)
 (refine dS rfl (hMi p3 c3 _ _ aG aG) ?_;rintro _ _ _ ⟨rfl,p5,c5,rfl,hc5,rfl⟩;refine cK ?_)
 repeat refine uX ?_
 (repeat refine aL ?_);refine tyW (.blk b2 [.bool (B (z < 0)), .slice q' (gr b).length cq'] 100:: .blk b1 [.bool (B (y < 0)), .slice q (gr a).length cq] 100::M0) (I0) [0,1,2,3,4,5,7,8,9,6,10,11,12,13] [2,2,2,2,1,1,3,2,2,0,0,0,0,0] mixed ?_
 repeat' (first|refine uX ?_|refine bG rfl (fun h=>?_) (fun h=>?_)|refine bI rfl rfl (fun h=>?_) (fun h=>?_)|fail)
 (refine dS rfl (hM1 p4 c4 hc4 _ _ aG) ?_;rintro _ _ _ ⟨rfl,rfl⟩;refine cK ?_;refine jR (List.Mem.head _) (fun q6 c6 e__ hc6 hz6=>?_);subst e__)
 repeat' (first|refine uX ?_|refine bG rfl (fun h=>?_) (fun h=>?_)|refine bI rfl rfl (fun h=>?_) (fun h=>?_)|fail)
 (refine dS rfl (hM2 p5 c5 hc5 _ _ aG) ?_;rintro _ _ _ ⟨rfl,rfl⟩;refine cK ?_;refine jR (List.Mem.head _) (fun q7 c7 e__ hc7 hz7=>?_);subst e__)
 unfold iv
 repeat' (first|refine uX ?_|refine bG rfl (fun h=>?_) (fun h=>?_)|refine bI rfl rfl (fun h=>?_) (fun h=>?_)|fail)
 refine eD (rs:=[.cell 4 100, .cell 5 100, .tmp 6]) (.inl rfl) rfl (.cellN inferInstance rfl aG rfl (.cellN inferInstance rfl aG rfl (.tmp rfl .nil))) rfl M0 (qR (.agg #[.bool (B (t < 0)), .slice q7 (gr t.natAbs).length c7]) t m::qR (.agg #[.bool (B (s < 0)), .slice q6 (gr s.natAbs).length c6]) s k::I0) bN bR ⟨rfl,_,_,rfl,rfl⟩
theorem aJV {y z s t:Int} {q q':Option Addr} {a b Q R k m cq cq':Nat} (hb0:¬(gr b).length=0) (hA:(gr R).length=0∨(y < 0↔z < 0))
  (h1:∀M0 I0,aN q (recs eG (gr a))∈I0→CD Try.prog 78 [.agg #[.bool (B (y < 0)), .slice q (gr a).length cq]] X w0 M0 I0 (fun v M I=>M0=M∧I0=I∧v= .slice q (gr a).length cq))
  (h2:∀M0 I0,aN q' (recs eG (gr b))∈I0→CD Try.prog 78 [.agg #[.bool (B (z < 0)), .slice q' (gr b).length cq']] X w0 M0 I0 (fun v M I=>M0=M∧I0=I∧v= .slice q' (gr b).length cq'))
  (hO:∀M0 I0,aN q (recs eG (gr a))∈I0→aN q' (recs eG (gr b))∈I0→CD Try.prog 80 [.slice q (gr a).length cq, .slice q' (gr b).length cq'] X w0 M0 I0 (QrP Q R M0 I0))
  (hC:∀p2 c2,uE p2 R c2→∀M0 I0,aN p2 (recs eG (gr R))∈I0→CD Try.prog 81 [.slice p2 (gr R).length c2] X w0 M0 I0 (fun v M I=>I0=I∧∃q' c',v= .slice q' (gr R).length c'∧M= .row q' (gr R).length c' (recs eG (gr R)) 113 1::M0))
  (hM1:∀p4 c4,uE p4 Q c4→∀M0 I0,aN p4 (recs eG (gr Q))∈I0→CD Try.prog 70 [.bool (B (¬(y < 0↔z < 0))), .slice p4 (gr Q).length c4] X w0 M0 I0 (fun v M I=>M0=M∧I=qR v s k::I0))
  (hM2:∀p4 c4,uE p4 R c4→∀M0 I0,aN p4 (recs eG (gr R))∈I0→CD Try.prog 70 [.bool (B (z < 0)), .slice p4 (gr R).length c4] X w0 M0 I0 (fun v M I=>M0=M∧I=qR v t m::I0))
  (hq:aN q (recs eG (gr a))∈I0) (hq':aN q' (recs eG (gr b))∈I0):
  CD Try.prog 68 [.agg #[.bool (B (y < 0)), .slice q (gr a).length cq], .agg #[.bool (B (z < 0)), .slice q' (gr b).length cq']] X w0 M0 I0 (DvP s t k m M0 I0):=by
 refine bO Try.func68 rfl Try.ntmps68 rfl ?_
 refine lU ?_
 refine rF rfl (fun b1=>?_)
 refine rF rfl (fun b2=>?_)
 refine iL (fun b3=>?_)
 refine iL (fun b4=>?_)
 repeat refine uX ?_
 (repeat refine aL ?_);refine kG 4 [0,2,1,3,4,5] [1,1,0,0,0,0] mixed (by kernel_rfl) ?_
 repeat' (first|refine uX ?_|refine bG rfl (fun h=>?_) (fun h=>?_)|refine bI rfl rfl (fun h=>?_) (fun h=>?_)|fail)
 refine iM rfl (h1 _ _ aG) ?_
 repeat' (first|refine uX ?_|refine bG rfl (fun h=>?_) (fun h=>?_)|refine bI rfl rfl (fun h=>?_) (fun h=>?_)|fail)
 refine iM rfl (h2 _ _ aG) ?_
 repeat' (first|refine uX ?_|refine bG rfl (fun h=>?_) (fun h=>?_)|refine bI rfl rfl (fun h=>?_) (fun h=>?_)|fail)
 (refine dS rfl (hO _ _ aG aG) ?_;rintro _ _ _ ⟨rfl,p1,c1,p2,c2,ho1,ho2,rfl,rfl⟩;refine cK ?_)
 repeat' (first|refine uX ?_|refine bG rfl (fun h=>?_) (fun h=>?_)|refine bI rfl rfl (fun h=>?_) (fun h=>?_)|fail)
 (refine dS rfl (hC p2 c2 ho2 _ _ aG) ?_;rintro _ _ _ ⟨rfl,p3,c3,rfl,rfl⟩;refine cK ?_)
 refine qZ (fun w hw=>And.intro (hw.rowLe (List.Mem.head _)) ((hw.rowS (List.Mem.head _)).2.imp id And.right)) (fun ho3=>?_)
 refine kF rP ?_
 repeat' (first|refine uX ?_|refine bG rfl (fun h=>?_) (fun h=>?_)|refine bI rfl rfl (fun h=>?_) (fun h=>?_)|fail)
 all_goals
  ((repeat refine aL ?_);refine tyW (.blk b2 [.bool (B (z < 0)), .slice q' (gr b).length cq'] 100:: .blk b1 [.bool (B (y < 0)), .slice q (gr a).length cq] 100::M0) (I0) [0,1,2,3,4,5,7,8,9,6,10,11,12,13] [2,2,2,2,1,1,3,2,2,0,0,0,0,0] mixed ?_)
  repeat' (first|refine uX ?_|refine bG rfl (fun h=>?_) (fun h=>?_)|refine bI rfl rfl (fun h=>?_) (fun h=>?_)|fail)
  (refine dS rfl (hM1 p1 c1 ho1 _ _ aG) ?_;rintro _ _ _ ⟨rfl,rfl⟩;refine cK ?_;refine jR (List.Mem.head _) (fun q6 c6 e__ hc6 hz6=>?_);subst e__)
  repeat' (first|refine uX ?_|refine bG rfl (fun h=>?_) (fun h=>?_)|refine bI rfl rfl (fun h=>?_) (fun h=>?_)|fail)
  (refine dS rfl (hM2 p3 c3 ho3 _ _ aG) ?_;rintro _ _ _ ⟨rfl,rfl⟩;refine cK ?_;refine jR (List.Mem.head _) (fun q7 c7 e__ hc7 hz7=>?_);subst e__)
  unfold iv
  repeat' (first|refine uX ?_|refine bG rfl (fun h=>?_) (fun h=>?_)|refine bI rfl rfl (fun h=>?_) (fun h=>?_)|fail)
  refine eD (rs:=[.cell 4 100, .cell 5 100, .tmp 6]) (.inl rfl) rfl (.cellN inferInstance rfl aG rfl (.cellN inferInstance rfl aG rfl (.tmp rfl .nil))) rfl M0 (qR (.agg #[.bool (B (t < 0)), .slice q7 (gr t.natAbs).length c7]) t m::qR (.agg #[.bool (B (s < 0)), .slice q6 (gr s.natAbs).length c6]) s k::I0) bN bR ⟨rfl,_,_,rfl,rfl⟩
theorem aGJ {u v:Value} {y z:Int} {k m:Nat} (hk:k≤1000000000000) (hm:m≤1000000000000) (hz0:z≠0) (hu:qR u y k∈I0) (hv:qR v z m∈I0):
  CD Try.prog 68 [u,v] X w0 M0 I0 (DvP (y.fdiv z) (y.fmod z) k m M0 I0):=by
 refine nU hu (fun q cq e hc hy=>?_)
 subst e
 refine nU (List.Mem.tail _ hv) (fun q' cq' e hc' hz=>?_)
 subst e
 have hly:=dJ hy
 have hlz:=dJ hz
 have hfd:=aHR (y:=y) hz0
 have hz1:0 < z.natAbs:=by omega
 have hmod:=Nat.mod_lt y.natAbs hz1
 have hqb:y.natAbs / z.natAbs≤2 ^ k:=wT hy
 have hrb:y.natAbs % z.natAbs≤2 ^ m:=by omega
 have hlq:=dJ hqb
 have hlr:=dJ hrb
 have hlz1:¬(gr z.natAbs).length=0:=fun e=>by have:=oW.1 (List.eq_nil_of_length_eq_zero e);omega
 have hg1:gr 1=[1]:=qK (f:=1) (by decide) (by decide)
 have hr0:(gr (y.natAbs % z.natAbs)).length=0↔y.natAbs % z.natAbs=0:=by rw [List.length_eq_zero_iff,oW]
 refine CD.post (K:=DvP (y.fdiv z) (y.fmod z) k m M0 (aN q' (recs eG (gr z.natAbs))::aN q (recs eG (gr y.natAbs))::I0)) ?_ (fun v M I w h hw=>?_)
 case refine_2=>
  obtain ⟨e1,v1,v2,e2,e3⟩:=h
  subst e1;subst e3
  exact ⟨_,_,⟨rfl,v1,v2,e2,rfl⟩,hw.inc (Inc.cons (by simp) (Inc.cons (by simp) (Inc.wk (Inc.wk (Inc.wk (Inc.wk Inc.refl))))))⟩
 have hG1:=fun M0 I0 h=>kD (X:=X) (w0:=w0) (M0:=M0) (I0:=I0) (c:=cq) (q:=q) (z:=y) hy (by omega) h
 have hG2:=fun M0 I0 h=>kD (X:=X) (w0:=w0) (M0:=M0) (I0:=I0) (c:=cq') (q:=q') (z:=z) hz (by omega) h
 have hO:=fun M0 I0=>aEJ (X:=X) (w0:=w0) (M0:=M0) (I0:=I0) (p:=q) (q:=q') (m:=y.natAbs) (n:=z.natAbs) (cp:=cq) (cq:=cq') (by omega) (by omega) hz1 hc
 have hCl:=fun p2 c2 (ho2:uE p2 (y.natAbs % z.natAbs) c2) M0 I0 h=>tO (X:=X) (w0:=w0) (M0:=M0) (I0:=I0) (q:=p2) (a:=gr (y.natAbs % z.natAbs)) (c:=c2) (by omega) ho2.2 h
 unfold iv at hG1 hG2 ⊢
 by_cases hA:(gr (y.natAbs % z.natAbs)).length=0∨(y < 0↔z < 0)
 ·obtain ⟨e1,e2⟩:=hfd.2 (hA.elim (fun h=> .inr (hr0.1 h)) .inl)
  have s1:sg (¬(y < 0↔z < 0)) (y.natAbs / z.natAbs)=y.fdiv z:=by rw [e1];rfl
  have s2:sg (z < 0) (y.natAbs % z.natAbs)=y.fmod z:=by rw [e2];rfl
  have hM1:=fun p4 c4 (h4:uE p4 (y.natAbs / z.natAbs) c4) M0 I0 h=>lH (X:=X) (w0:=w0) (M0:=M0) (I0:=I0) (p:=¬(y < 0↔z < 0)) (k:=k) (by omega) h4 hqb h
  have hM2:=fun p4 c4 (h4:uE p4 (y.natAbs % z.natAbs) c4) M0 I0 h=>lH (X:=X) (w0:=w0) (M0:=M0) (I0:=I0) (p:=z < 0) (k:=m) (by omega) h4 hrb h
  rw [s1] at hM1
  rw [s2] at hM2
  exact aJV hlz1 hA hG1 hG2 hO hCl hM1 hM2 (by simp) (by simp)
 ·have hA1:¬(gr (y.natAbs % z.natAbs)).length=0:=fun h=>hA (.inl h)
  have hA2:¬(y < 0↔z < 0):=fun h=>hA (.inr h)
  have hAr:y.natAbs % z.natAbs≠0:=fun h=>hA1 (hr0.2 h)
  obtain ⟨e1,e2⟩:=hfd.1 hA2 hAr
  have hab:=Nat.div_add_mod y.natAbs z.natAbs
  have hbQ:y.natAbs / z.natAbs≤z.natAbs*(y.natAbs / z.natAbs):=Nat.le_mul_of_pos_left _ hz1
  have hQ1:y.natAbs / z.natAbs+1≤2 ^ k:=by omega
  have hR1:z.natAbs - y.natAbs % z.natAbs≤2 ^ m:=by omega
  have hlQ1:=dJ hQ1
  have hlR1:=dJ hR1
  have s1:sg (¬(y < 0↔z < 0)) (y.natAbs / z.natAbs+1)=y.fdiv z:=by rw [e1];unfold sg;rw [if_pos hA2]
  have s2:sg (z < 0) (z.natAbs - y.natAbs % z.natAbs)=y.fmod z:=by rw [e2];rfl
  have hM1:=fun p4 c4 (h4:uE p4 (y.natAbs / z.natAbs+1) c4) M0 I0 h=>lH (X:=X) (w0:=w0) (M0:=M0) (I0:=I0) (p:=¬(y < 0↔z < 0)) (k:=k) (by omega) h4 hQ1 h
  have hM2:=fun p4 c4 (h4:uE p4 (z.natAbs - y.natAbs % z.natAbs) c4) M0 I0 h=>lH (X:=X) (w0:=w0) (M0:=M0) (I0:=I0) (p:=z < 0) (k:=m) (by omega) h4 hR1 h
  rw [s1] at hM1
  rw [s2] at hM2
  have hP:=fun p1 c1 p2 M0 I0=>aKQ (X:=X) (w0:=w0) (M0:=M0) (I0:=I0) (p:=p1) (q:=p2) (m:=y.natAbs / z.natAbs) (n:=1) (cp:=c1) (cq:=1) (by omega) (by rw [hg1];simp)
  simp only [hg1] at hP
  have hMi:=fun p3 c3 M0 I0=>aJF (X:=X) (w0:=w0) (M0:=M0) (I0:=I0) (p:=q') (q:=p3) (m:=z.natAbs) (n:=y.natAbs % z.natAbs) (cp:=cq') (cq:=c3) (by omega) (by omega)
  exact aIX hlz1 hA1 hA2 hg1 hG1 hG2 hO hCl hP hMi hM1 hM2 (by simp) (by simp)
end
theorem aFV {n:Nat} (h:0 < n∧n≤9223372036854775808):IntKind.u64.wrap (0 - (-(n:Int)+18446744073709551616))=n:=by
 simp [IntKind.wrap,IntKind.bits,IntKind.signed];omega
section
variable {X:List Nat} {w0:World} {M0:List Ent} {I0:List aO}
theorem aNW {n:Nat} (hx:0 < n∧n≤9223372036854775808):CD Try.prog 52 [.int .i64 (-(n:Int))] X w0 M0 I0 (fun v M I=>M0=M∧I=qR v (-(n:Int)) 63::I0):=by
 have hn:n≤2 ^ 63:=by omega
 have hlt:(-(n:Int)) < 0:=by omega
 have hMd:=fun (q':Option Addr) (c':Nat) (hc':uE q' n c') M0 I0=>lH (X:=X) (w0:=w0) (M0:=M0) (I0:=I0) (p:=(-(n:Int)) < 0) (q:=q') (c:=c') (k:=63) (by have:=dJ hn;omega) hc' hn
 have hs2:sg ((-(n:Int)) < 0) n= -(n:Int):=by unfold sg;rw [if_pos hlt]
 rw [hs2] at hMd
 refine eZ Try.func52 rfl Try.ntmps52 rfl ?_
 refine lU ?_
 refine iL (fun b=>?_)
 repeat refine uX ?_
 refine aC rfl (fun _=>bM rfl (aJT (by omega))) rfl rfl ?_
 repeat refine uX ?_
 refine aC rfl (fun _=>bY rfl (aFV hx)) rfl rfl ?_
 repeat refine uX ?_
 (refine dS rfl (mZ (n:=n) (by omega)) ?_;rintro _ _ _ ⟨rfl,q',c',rfl,hc',rfl⟩;refine cK ?_)
 (refine dS rfl (hMd q' c' hc' _ _ aG) ?_;rintro _ _ _ ⟨rfl,rfl⟩;refine cK ?_;refine jR (List.Mem.head _) (fun q2 c2 e__ hc2 hz2=>?_);subst e__)
 unfold iv
 repeat refine uX ?_
 refine kT (cs:=[.bool (B (-(n:Int) < 0)), .slice q2 (gr (-(n:Int)).natAbs).length c2]) (.inl rfl) rfl rfl aG rfl _ _ bN bR ⟨rfl,rfl⟩
theorem aPI {x:Int} (hx: -9223372036854775808≤x∧x≤9223372036854775807):CD Try.prog 52 [.int .i64 x] X w0 M0 I0 (fun v M I=>M0=M∧I=qR v x 63::I0):=by
 by_cases h:x < 0
 ·obtain ⟨n,rfl⟩:∃n:Nat,x= -(n:Int):=⟨x.natAbs,by omega⟩
  exact aNW (by omega)
 ·exact Of_ok (by omega)
end
end Go.Proofs.Ytejbgkajdomgcaa
namespace Go.Proofs.Ytejbgkajdomgcaa
structure Qn where
 a:Int
 b:Int
 c:Int
 d:Int
deriving DecidableEq
instance Qn.inh:Inhabited Qn:=⟨⟨0,0,0,0⟩⟩
theorem Qn.ext4 {p q:Qn} (h1:p.a=q.a) (h2:p.b=q.b) (h3:p.c=q.c) (h4:p.d=q.d):p=q:=by
 cases p;cases q;simp only at*;subst h1;subst h2;subst h3;subst h4;rfl
def Qn.zero:Qn:=⟨0,0,0,0⟩
def Qn.one:Qn:=⟨1,0,0,0⟩
def Qn.mul (p q:Qn):Qn:=⟨p.a*q.a - p.b*q.b - p.c*q.c - p.d*q.d,p.a*q.b+p.b*q.a+p.c*q.d - p.d*q.c,p.a*q.c - p.b*q.d+p.c*q.a+p.d*q.b,p.a*q.d+p.b*q.c - p.c*q.b+p.d*q.a⟩
def Qn.cnj (q:Qn):Qn:=⟨q.a, -q.b, -q.c, -q.d⟩
def Qn.smul (s:Int) (q:Qn):Qn:=⟨s*q.a,s*q.b,s*q.c,s*q.d⟩
def Qn.nz (q:Qn):Prop:=q≠Qn.zero
def Qn.nrm (q:Qn):Int:=q.a*q.a+q.b*q.b+q.c*q.c+q.d*q.d
def Qn.rel (p q:Qn):Prop:=∃s t:Int,s≠0∧t≠0∧Qn.smul s p=Qn.smul t q
namespace Qn
theorem aBU {q:Qn}:q.nz↔¬(q.a=0∧q.b=0∧q.c=0∧q.d=0):=by
 constructor
 ·intro h ⟨h1,h2,h3,h4⟩;exact h (ext4 h1 h2 h3 h4)
 ·intro h e;subst e;exact h ⟨rfl,rfl,rfl,rfl⟩
theorem mul_assoc (p q r:Qn):mul (mul p q) r=mul p (mul q r):=by
 apply ext4 <;>simp only [mul] <;>grind
theorem mul_one (p:Qn):mul p one=p:=by apply ext4 <;>simp only [mul,one] <;>grind
theorem one_mul (p:Qn):mul one p=p:=by apply ext4 <;>simp only [mul,one] <;>grind
theorem aKF (q:Qn):mul (cnj q) q=smul (nrm q) one:=by apply ext4 <;>simp only [mul,one,cnj,smul,nrm] <;>grind
theorem aME (q:Qn):mul q (cnj q)=smul (nrm q) one:=by apply ext4 <;>simp only [mul,one,cnj,smul,nrm] <;>grind
theorem aAM (s:Int) (p q:Qn):mul (smul s p) q=smul s (mul p q):=by apply ext4 <;>simp only [mul,smul] <;>grind
theorem aBN (s:Int) (p q:Qn):mul p (smul s q)=smul s (mul p q):=by apply ext4 <;>simp only [mul,smul] <;>grind
theorem lS (s t:Int) (p:Qn):smul s (smul t p)=smul (s*t) p:=by apply ext4 <;>simp only [smul] <;>grind
theorem aBO (p:Qn):smul 1 p=p:=by apply ext4 <;>simp only [smul] <;>grind
theorem aMD (p q:Qn):nrm (mul p q)=nrm p*nrm q:=by simp only [mul,nrm];grind
theorem qC (x:Int):0≤x*x:=by
 rcases Int.le_total 0 x with h|h
 ·exact Int.mul_nonneg h h
 ·have:=Int.mul_nonneg (show 0≤ -x by omega) (show 0≤ -x by omega);rwa [Int.neg_mul_neg] at this
theorem tL {q:Qn}:q.nz↔nrm q≠0:=by
 rw [aBU]
 have h1:=qC q.a
 have h2:=qC q.b
 have h3:=qC q.c
 have h4:=qC q.d
 constructor
 ·intro h e
  unfold nrm at e
  have z:∀x:Int,x*x=0→x=0:=fun x hx=>by rcases Int.mul_eq_zero.1 hx with h|h <;>exact h
  exact h ⟨z _ (by omega),z _ (by omega),z _ (by omega),z _ (by omega)⟩
 ·intro h e
  obtain ⟨e1,e2,e3,e4⟩:=e
  exact h (by unfold nrm;rw [e1,e2,e3,e4];rfl)
theorem nz_mul {p q:Qn} (hp:p.nz) (hq:q.nz):(mul p q).nz:=by
 rw [tL,aMD]
 exact Int.mul_ne_zero (tL.1 hp) (tL.1 hq)
theorem nz_cnj {q:Qn} (h:q.nz):(cnj q).nz:=by
 rw [tL] at h ⊢
 have:nrm (cnj q)=nrm q:=by simp only [nrm,cnj];grind
 rwa [this]
theorem nz_one:one.nz:=by unfold nz;decide
theorem rel.refl (p:Qn):rel p p:=⟨1,1,by decide,by decide,rfl⟩
theorem rel.symm {p q:Qn} (h:rel p q):rel q p:=by
 obtain ⟨s,t,hs,ht,e⟩:=h
 exact ⟨t,s,ht,hs,e.symm⟩
theorem rel.trans {p q r:Qn} (h:rel p q) (h2:rel q r):rel p r:=by
 obtain ⟨s,t,hs,ht,e⟩:=h
 obtain ⟨u,v,hu,hv,e2⟩:=h2
 refine ⟨u*s,t*v,Int.mul_ne_zero hu hs,Int.mul_ne_zero ht hv,?_⟩
 rw [←lS,e,lS,Int.mul_comm u t,←lS,e2,lS]
theorem rel.mul {p q p' q':Qn} (h:rel p p') (h2:rel q q'):rel (mul p q) (mul p' q'):=by
 obtain ⟨s,t,hs,ht,e⟩:=h
 obtain ⟨u,v,hu,hv,e2⟩:=h2
 refine ⟨s*u,t*v,Int.mul_ne_zero hs hu,Int.mul_ne_zero ht hv,?_⟩
 rw [←lS,←aBN,←aAM,e,e2,aBN,aAM,lS,Int.mul_comm v t]
theorem aBR {s:Int} {p:Qn} (hs:s≠0):rel (smul s p) p:=⟨1,s,by decide,hs,by rw [aBO]⟩
theorem rel_cm {q:Qn} (h:q.nz):rel (Qn.mul (Qn.cnj q) q) one:=by rw [aKF];exact aBR (tL.1 h)
theorem aCY {q:Qn} (h:q.nz):rel (Qn.mul q (Qn.cnj q)) one:=by rw [aME];exact aBR (tL.1 h)
theorem rel.canL {p q r:Qn} (hp:p.nz) (h:rel (Qn.mul p q) (Qn.mul p r)):rel q r:=by
 have h1:=(rel.refl (Qn.cnj p)).mul h
 rw [←mul_assoc,←mul_assoc] at h1
 have e:∀x,rel (Qn.mul (Qn.mul (Qn.cnj p) p) x) x:=fun x=>by
  have:=(rel_cm hp).mul (rel.refl x)
  rwa [one_mul] at this
 exact (e q).symm.trans (h1.trans (e r))
def agr (t f g:Qn):Prop:=rel (mul g t) f
theorem agr_btw {t f g:Qn} (hg:g.nz):rel t (mul (Qn.cnj g) f)↔agr t f g:=by
 unfold agr
 constructor
 ·intro h
  have:=(rel.refl g).mul h
  rw [←mul_assoc] at this
  refine this.trans ?_
  have e:=(aCY hg).mul (rel.refl f)
  rwa [one_mul] at e
 ·intro h
  refine rel.canL hg (h.trans ?_)
  rw [←mul_assoc]
  have e:=(aCY hg).mul (rel.refl f)
  rw [one_mul] at e
  exact e.symm
theorem agr_back {t f g:Qn} (ht:t.nz) (h:agr t f g):agr (Qn.cnj t) g f:=by
 unfold agr at h ⊢
 have h1:=h.mul (rel.refl (Qn.cnj t))
 rw [mul_assoc] at h1
 have e:=(rel.refl g).mul (aCY ht)
 rw [mul_one] at e
 exact h1.symm.trans e
theorem agr_left {t f g:Qn} (u:Qn) (h:agr t f g):agr t (mul u f) (mul u g):=by
 unfold agr at h ⊢
 rw [mul_assoc]
 exact (rel.refl u).mul h
/- the canonical quaternion -/
def g4 (q:Qn):Nat:=Nat.gcd (Nat.gcd (Nat.gcd q.a.natAbs q.b.natAbs) q.c.natAbs) q.d.natAbs
def lead (q:Qn):Int:=if q.a≠0 then q.a else if q.b≠0 then q.b else if q.c≠0 then q.c else q.d
def gs (q:Qn):Int:=if lead q < 0 then -(g4 q:Int) else (g4 q:Int)
def prm (q:Qn):Qn:=⟨q.a / gs q,q.b / gs q,q.c / gs q,q.d / gs q⟩
theorem aJR (q:Qn):(g4 q:Int) ∣ q.a∧(g4 q:Int) ∣ q.b∧(g4 q:Int) ∣ q.c∧(g4 q:Int) ∣ q.d:=by
 unfold g4
 refine ⟨?_,?_,?_,?_⟩ <;>rw [Int.ofNat_dvd_left]
 ·exact Nat.dvd_trans (Nat.dvd_trans (Nat.gcd_dvd_left _ _) (Nat.gcd_dvd_left _ _)) (Nat.gcd_dvd_left _ _)
 ·exact Nat.dvd_trans (Nat.dvd_trans (Nat.gcd_dvd_left _ _) (Nat.gcd_dvd_left _ _)) (Nat.gcd_dvd_right _ _)
 ·exact Nat.dvd_trans (Nat.gcd_dvd_left _ _) (Nat.gcd_dvd_right _ _)
 ·exact Nat.gcd_dvd_right _ _
theorem g4_nz {q:Qn} (h:q.nz):g4 q≠0:=by
 rw [aBU] at h
 intro e
 obtain ⟨h1,h2,h3,h4⟩:=aJR q
 rw [e] at h1 h2 h3 h4
 exact h ⟨Int.zero_dvd.1 h1,Int.zero_dvd.1 h2,Int.zero_dvd.1 h3,Int.zero_dvd.1 h4⟩
theorem aLQ {q:Qn} (h:q.nz):lead q≠0:=by
 rw [aBU] at h
 unfold lead
 by_cases h1:q.a=0
 ·rw [if_neg (by omega)]
  by_cases h2:q.b=0
  ·rw [if_neg (by omega)]
   by_cases h3:q.c=0
   ·rw [if_neg (by omega)];omega
   ·rw [if_pos h3];exact h3
  ·rw [if_pos h2];exact h2
 ·rw [if_pos h1];exact h1
theorem gs_nz {q:Qn} (h:q.nz):gs q≠0:=by
 have:=g4_nz h
 unfold gs
 by_cases e:lead q < 0
 ·rw [if_pos e];omega
 ·rw [if_neg e];omega
theorem gs_dvd (q:Qn):gs q ∣ q.a∧gs q ∣ q.b∧gs q ∣ q.c∧gs q ∣ q.d:=by
 obtain ⟨h1,h2,h3,h4⟩:=aJR q
 unfold gs
 by_cases e:lead q < 0
 ·rw [if_pos e];exact ⟨Int.neg_dvd.2 h1,Int.neg_dvd.2 h2,Int.neg_dvd.2 h3,Int.neg_dvd.2 h4⟩
 ·rw [if_neg e];exact ⟨h1,h2,h3,h4⟩
theorem aHI (q:Qn):smul (gs q) (prm q)=q:=by
 obtain ⟨h1,h2,h3,h4⟩:=gs_dvd q
 exact ext4 (Int.mul_ediv_cancel' h1) (Int.mul_ediv_cancel' h2) (Int.mul_ediv_cancel' h3) (Int.mul_ediv_cancel' h4)
theorem prm_rel {q:Qn} (h:q.nz):rel (prm q) q:=⟨gs q,1,gs_nz h,by decide,by rw [aHI,aBO]⟩
theorem prm_nz {q:Qn} (h:q.nz):(prm q).nz:=by
 intro e
 have:=aHI q
 rw [e] at this
 exact h (by rw [←this];simp [smul,zero])
theorem aLG (s:Int) (q:Qn):g4 (smul s q)=s.natAbs*g4 q:=by
 unfold g4 smul
 simp only [Int.natAbs_mul,Nat.gcd_mul_left]
theorem aEX {s:Int} (q:Qn) (hs:s≠0):lead (smul s q)=s*lead q:=by
 have z:∀x:Int,s*x≠0↔x≠0:=fun x=>⟨fun h e=>h (by rw [e,Int.mul_zero]),fun h=>Int.mul_ne_zero hs h⟩
 unfold lead smul
 simp only [z]
 by_cases h1:q.a≠0
 ·rw [if_pos h1,if_pos h1]
 ·rw [if_neg h1,if_neg h1]
  by_cases h2:q.b≠0
  ·rw [if_pos h2,if_pos h2]
  ·rw [if_neg h2,if_neg h2]
   by_cases h3:q.c≠0
   ·rw [if_pos h3,if_pos h3]
   ·rw [if_neg h3,if_neg h3]
theorem aMP {s:Int} {q:Qn} (hs:s≠0) (h:q.nz):gs (smul s q)=s*gs q:=by
 have hl:=aLQ h
 unfold gs
 rw [aEX q hs,aLG,Int.natCast_mul]
 rcases Int.lt_or_gt_of_ne hs with h1|h1 <;>rcases Int.lt_or_gt_of_ne hl with h2|h2
 ·rw [if_neg (by have:=Int.mul_pos_of_neg_of_neg h1 h2;omega),if_pos h2,show ((s.natAbs:Nat):Int)= -s by omega];grind
 ·rw [if_pos (Int.mul_neg_of_neg_of_pos h1 h2),if_neg (by omega),show ((s.natAbs:Nat):Int)= -s by omega];grind
 ·rw [if_pos (Int.mul_neg_of_pos_of_neg h1 h2),if_pos h2,show ((s.natAbs:Nat):Int)=s by omega];grind
 ·rw [if_neg (by have:=Int.mul_pos h1 h2;omega),if_neg (by omega),show ((s.natAbs:Nat):Int)=s by omega]
theorem aAD {s:Int} {q:Qn} (hs:s≠0) (h:q.nz):prm (smul s q)=prm q:=by
 have e:=aMP hs h
 have hg:=gs_nz h
 have z:∀x:Int,gs q ∣ x→s*x / gs (smul s q)=x / gs q:=fun x hx=>by
  rw [e]
  obtain ⟨y,rfl⟩:=hx
  rw [Int.mul_ediv_cancel_left _ hg,←Int.mul_assoc,Int.mul_ediv_cancel_left _ (Int.mul_ne_zero hs hg)]
 obtain ⟨h1,h2,h3,h4⟩:=gs_dvd q
 exact ext4 (z _ h1) (z _ h2) (z _ h3) (z _ h4)
theorem prm_iff {p q:Qn} (hp:p.nz) (hq:q.nz):prm p=prm q↔rel p q:=by
 constructor
 ·intro h
  have:=(prm_rel hp).symm
  rw [h] at this
  exact this.trans (prm_rel hq)
 ·rintro ⟨s,t,hs,ht,e⟩
  rw [←aAD hs hp,e,aAD ht hq]
end Qn
end Go.Proofs.Ytejbgkajdomgcaa
namespace Go.Fx
def Rest (P:Program) (l:List Oper) (Q:Exit→Act→World→Prop) (Cs:Nat→World→Prop) (fuel k:Nat) (listed:Array Bool):Exit→Act→World→Prop
 | .normal,a,w=>lV P l.toArray Q Cs fuel k listed a w
 |_,_,_=>False
section
variable {P:Program} {n:Nat} {Q:Exit→Act→World→Prop} {G:Env} {w:World} {l:List Oper} {Cs:Nat→World→Prop}
theorem aFL {fuel fuel' k:Nat} {listed listed':Array Bool} (p ms:List Nat) (hm:∀s w,Cs s w→Cs (s+1) w) (hs:Region.noSelect l.toArray=true) (hok:lY l.toArray p ms listed=some listed') (hf:fuel'=fuel+p.length) (hsz:listed.size=l.toArray.size) (hC:Cs k w)
  (h:R P n l (Rest P l Q Cs fuel (k+vE l.toArray p) listed') (.any Cs k ms) (pick l p) G w):N n (Rest P l Q Cs fuel' k listed) .normal G w:=⟨fun a ha=>by
 subst hf
 exact lW hm hs p ms k listed a w hC hsz hok (fun _ _ _ _ hq=>hq) (h.go a ha)⟩
theorem aGI {fuel k:Nat} {listed:Array Bool} (p ms:List Nat) (hm:∀s w,Cs s w→Cs (s+1) w) (hs:Region.noSelect l.toArray=true) (hok:dG l.toArray p ms listed=true) (hf:fuel=p.length) (hsz:listed.size=l.toArray.size) (hC:Cs k w)
  (h:R P n l Q (.any Cs k ms) (pick l p) G w):N n (Rest P l Q Cs fuel k listed) .normal G w:=⟨fun a ha=>by
 subst hf
 exact eU hm hs p ms k listed a w hC hsz hok (h.go a ha)⟩
theorem aBE {fuel k i:Nat} {listed:Array Bool} {o:Oper} {a:Act} (hi:l.toArray[i]?=some o) (hk:dP o.op=false)
  (h:wpM P l.toArray (Rest P l Q Cs fuel (k+1) (listed.setIfInBounds i true)) (.any Cs k []) (pick l [i]) a w):
  wpOp P l.toArray QF i (fun a' w'=>Cs (k+eAt l.toArray i) w'∧lV P l.toArray Q Cs fuel (k+eAt l.toArray i) (listed.setIfInBounds i true) a' w') a w:=by
 have hg:nth l i=o:=zJ l i o (by simpa using hi)
 simp only [pick,hg] at h
 rw [rG hi hk]
 unfold wpOp
 simp only [hi]
 by_cases hw:Region.wanted o (yielded l.toArray a.tmps)=true
 ·rw [if_pos hw]
  rcases h.1 hw with ⟨hk2,_⟩|⟨_,hk2⟩
  ·rw [hk] at hk2;cases hk2
  ·exact .inl (Oper.wp_mono (fun a' w' ⟨h1,h2⟩=>⟨h1,h2⟩) hk2)
 ·rw [if_neg hw]
  obtain ⟨hh1,hh2⟩:=h.2 (by simpa using hw)
  simp only [Mode.held,hk,cond_false] at hh1
  exact ⟨hh1,hh2⟩
def aGT (ops:Array Oper) (i:Nat):Bool:=
 match ops[i]? with
 |some o=> !dP o.op
 |none=>false
theorem aBW {fuel k i j:Nat} {listed:Array Bool} (hr:(Region.ready .any l.toArray listed==[i,j] && aGT l.toArray i && aGT l.toArray j)=true)
  (h1:R P n l (Rest P l Q Cs fuel (k+1) (listed.setIfInBounds i true)) (.any Cs k []) (pick l [i]) G w)
  (h2:R P n l (Rest P l Q Cs fuel (k+1) (listed.setIfInBounds j true)) (.any Cs k []) (pick l [j]) G w):N n (Rest P l Q Cs (fuel+1) k listed) .normal G w:=⟨fun a ha=>by
 simp only [Bool.and_eq_true,beq_iff_eq] at hr
 obtain ⟨⟨hr,e1⟩,e2⟩:=hr
 have get:∀x,aGT l.toArray x=true→∃o,l.toArray[x]?=some o∧dP o.op=false:=fun x hx=>by
  unfold aGT at hx
  cases ho:l.toArray[x]? with
  |none=>simp [ho] at hx
  |some o=>simp [ho] at hx;exact ⟨o,rfl,hx⟩
 obtain ⟨o1,ho1,hk1⟩:=get i e1
 obtain ⟨o2,ho2,hk2⟩:=get j e2
 refine ⟨fun h0=>(by rw [hr] at h0;cases h0),fun x hx=>?_⟩
 rw [hr] at hx
 simp only [List.mem_cons,List.not_mem_nil,or_false] at hx
 rcases hx with rfl|rfl
 ·exact aBE ho1 hk1 (h1.go a ha)
 ·exact aBE ho2 hk2 (h2.go a ha)⟩
theorem aPF {id:Nat} (Cs:Nat→World→Prop) (hx:P.follows .mixedOrders=true) (h:N n (Rest P l Q Cs l.length 0 (Array.replicate l.length false)) .normal G w.drew):T P n (.region id l.toArray true) Q G w:=⟨fun a ha=>by
 refine wp_region_any hx ?_
 have:=h.go a ha
 have e:l.toArray.size=l.length:=by simp
 rw [e]
 exact mD _ _ _ _ _ this⟩
end
section
variable {P:Program} {n:Nat} {Q:Exit→Act→World→Prop} {G:Env} {X:List Nat} {w0:World} {M M1:List Ent} {I I1:List aO} {l:List Oper}
theorem aDJ {id:Nat} (M1:List Ent) (I1:List aO) (hx:P.follows .mixedOrders=true) (h:ND n (Rest P l Q (yP X w0 M1 I1) l.length 0 (Array.replicate l.length false)) .normal G X w0 M I):TD P n (.region id l.toArray true) Q G X w0 M I:=
 ⟨fun w hw=>aPF (yP X w0 M1 I1) hx (h.go w.drew hw.drew)⟩
theorem vZ {fuel fuel' k:Nat} {listed listed':Array Bool} (p ms:List Nat) (hM:SubP M M1) (hI:Inc I I1) (hs:Region.noSelect l.toArray=true) (hok:lY l.toArray p ms listed=some listed') (hf:fuel'=fuel+p.length) (hsz:listed.size=l.toArray.size)
  (h:RD P n l (Rest P l Q (yP X w0 M1 I1) fuel (k+vE l.toArray p) listed') (.any (yP X w0 M1 I1) k ms) (pick l p) G X w0 M I):ND n (Rest P l Q (yP X w0 M1 I1) fuel' k listed) .normal G X w0 M I:=
 ⟨fun w hw=>aFL p ms (fun _ _ h=>h) hs hok hf hsz (hw.weak hM hI) (h.go w hw)⟩
theorem oG {fuel k:Nat} {listed:Array Bool} (p ms:List Nat) (hM:SubP M M1) (hI:Inc I I1) (hs:Region.noSelect l.toArray=true) (hok:dG l.toArray p ms listed=true) (hf:fuel=p.length) (hsz:listed.size=l.toArray.size)
  (h:RD P n l Q (.any (yP X w0 M1 I1) k ms) (pick l p) G X w0 M I):ND n (Rest P l Q (yP X w0 M1 I1) fuel k listed) .normal G X w0 M I:=
 ⟨fun w hw=>aGI p ms (fun _ _ h=>h) hs hok hf hsz (hw.weak hM hI) (h.go w hw)⟩
theorem tY {fuel k i j:Nat} {listed:Array Bool} (hr:(Region.ready .any l.toArray listed==[i,j] && aGT l.toArray i && aGT l.toArray j)=true)
  (h1:RD P n l (Rest P l Q (yP X w0 M1 I1) fuel (k+1) (listed.setIfInBounds i true)) (.any (yP X w0 M1 I1) k []) (pick l [i]) G X w0 M I)
  (h2:RD P n l (Rest P l Q (yP X w0 M1 I1) fuel (k+1) (listed.setIfInBounds j true)) (.any (yP X w0 M1 I1) k []) (pick l [j]) G X w0 M I):ND n (Rest P l Q (yP X w0 M1 I1) (fuel+1) k listed) .normal G X w0 M I:=
 ⟨fun w hw=>aBW hr (h1.go w hw) (h2.go w hw)⟩
end
end Go.Fx
namespace Go.Fx
section
variable {P:Program} {n:Nat} {G:Env} {ty:TypeId} {C:World→Prop}
theorem aGN {t e:TypeId} {sz len sz' by_:Nat} {z:List Value} {parts:List (Nat × Operand)} {pvs:List (Nat × Value)} {cells:List Value} [ht:ArrTy P t len e sz] [hz:ElemTy P t sz' by_ z]
  (hp:parts.map (fun p=>(p.1,ev G p.2))=pvs.map (fun p=>(p.1,some p.2)))
  (hf:Instr.fill (fun i=>some (i*sz,sz)) z.toArray pvs=some cells.toArray):Const P n G (.build t parts.toArray) ty C (.agg cells.toArray):=by
 refine uC hp fun w=>?_
 obtain ⟨i,hi,h3⟩:=Option.map_eq_some_iff.1 hz.info
 simp only [Prod.mk.injEq] at h3
 obtain ⟨h4,h5,h6⟩:=h3
 obtain ⟨v,hv,hc⟩:=Option.map_eq_some_iff.1 h6
 have hzv:(zeroValue t).run P w= .ok v w:=by simp [zeroValue,typeInfo,hi,hv]
 unfold Instr.build
 rw [Sem.run_bind,hzv,Result.andThen_ok,Sem.run_bind,bL ht.und,Result.andThen_ok]
 simp only [Sem.run_bind,run_sizeOf ht.size,Result.andThen_ok,hc,hf]
 rfl
theorem rD {t e:TypeId} {sz len sz':Nat} {x ix:Operand} {cs vs:List Value} {k:IntKind} {i:Int} [ht:ArrTy P t len e sz] [he:AggTy P e sz'] (hx:ev G x=some (.agg cs.toArray)) (hi:ev G ix=some (.int k i)) (h:0≤i∧i < len)
  (hv:(cs.drop (i.toNat*sz)).take sz=vs):Const P n G (.index t x ix) ty C (.agg vs.toArray):=by
 refine ⟨?_⟩
 intro st ha dst pos after guard w _
 simp [execOp,Instr.index,ha.ev hx,ha.ev hi,asIntOf,bL ht.und,h.1,h.2,part,iZ,run_sizeOf ht.size,List.extract_eq_take_drop,hv]
end
def PlOk (place:Nat→Option (Nat × Nat)):Nat→Nat→List Value→Prop
 |_,_,[]=>True
 |k,off,v::r=>place k=some (off,v.cells.size)∧PlOk place (k+1) (off+v.cells.size) r
def jW (vals:List Value):List Value:=vals.flatMap (fun v=>v.cells.toList)
theorem uB (place:Nat→Option (Nat × Nat)):∀(vals:List Value) (k:Nat) (pre:List Value) (base:Array Value),base.size=pre.length+(jW vals).length→base.toList.take pre.length=pre→PlOk place k pre.length vals→
  Instr.fill place base ((vals.zipIdx k).map (fun p=>(p.2,p.1)))=some (pre++jW vals).toArray
 |[],k,pre,base,hb,ht,_=>by
  have:base.toList=pre:=by
   rw [←ht,List.take_of_length_le]
   simp [hb,jW]
  simp [Instr.fill,jW,←this]
 |v::r,k,pre,base,hb,ht,hc=>by
  obtain ⟨h1,h2⟩:=hc
  have hcl:jW (v::r)=v.cells.toList++jW r:=by simp [jW]
  have hcs:v.cells.toList.length=v.cells.size:=by simp
  have hlt:pre.length+v.cells.size≤base.size:=by
   rw [hb,hcl,List.length_append,hcs];omega
  simp only [List.zipIdx_cons,List.map_cons,Instr.fill,h1]
  have hno:¬(v.cells.size≠v.cells.size∨pre.length+v.cells.size>base.size):=by omega
  have hf:=uD pre.length v.cells.toList base (by simp;omega)
  simp only [Array.toArray_toList] at hf
  simp only [Bool.or_eq_true,decide_eq_true_eq,hno,if_false,hf]
  rw [uB place r (k+1) (pre++v.cells.toList) _ ?_ ?_ (by rw [List.length_append,hcs];exact h2)]
  ·rw [hcl,List.append_assoc]
  ·simp only [List.size_toArray,List.length_append,List.length_take,List.length_drop,hcs,Array.length_toList]
   rw [hcl,List.length_append,hcs] at hb
   omega
  ·simp only [ht]
   rw [List.take_append_of_le_length (by simp),List.take_of_length_le (by simp)]
section
variable {P:Program} {n:Nat} {G:Env} {ty:TypeId} {C:World→Prop}
theorem kV {t:TypeId} {parts:List (Nat × Operand)} {vals cells:List Value} {places:List (Nat × Nat)} {z:List Value} [ht:StructTy P t places z]
  (hp:parts.map (fun p=>(p.1,ev G p.2))=vals.zipIdx.map (fun p=>(p.2,some p.1))) (hpl:PlOk (places.toArray[·]?) 0 0 vals) (hc:jW vals=cells) (hz:z.length=cells.length):
  Const P n G (.build t parts.toArray) ty C (.agg cells.toArray):=by
 refine aZ (pvs:=vals.zipIdx.map (fun p=>(p.2,p.1))) (places:=places) (z:=z) (by rw [hp];simp) ?_
 have:=uB (places.toArray[·]?) vals 0 [] z.toArray (by simp [hc,hz]) (by simp) (by simpa using hpl)
 rw [hc] at this
 simpa using this
theorem uY {t e:TypeId} {sz len sz' by_:Nat} {z:List Value} {parts:List (Nat × Operand)} {vals cells:List Value} [ht:ArrTy P t len e sz] [hz:ElemTy P t sz' by_ z]
  (hp:parts.map (fun p=>(p.1,ev G p.2))=vals.zipIdx.map (fun p=>(p.2,some p.1))) (hs:∀v∈vals,v.cells.size=sz) (hc:jW vals=cells) (hl:z.length=vals.length*sz):
  Const P n G (.build t parts.toArray) ty C (.agg cells.toArray):=by
 refine aGN (pvs:=vals.zipIdx.map (fun p=>(p.2,p.1))) (by rw [hp];simp) ?_
 have:=vL sz vals 0 [] z.toArray (by simp) (by simp [hl]) (by simp) hs
 have h2:vals.flatMap (fun v=>v.cells.toList)=cells:=hc
 rw [h2] at this
 simpa using this
end
theorem qB {P:Program} {n:Nat} {G:Env} {ty:TypeId} {C:World→Prop} {t t':TypeId} {x y:Operand} {a b:Bool} [ht:BoolTy P t] (hx:ev G x=some (.bool a)) (hy:ev G y=some (.bool b)):
  Const P n G (.binOp .neq t x y t') ty C (.bool (!(a==b))):=by
 refine ⟨?_⟩
 intro s ha dst pos after guard w _
 have e1:(eqGuard .neq t x y (.bool a) (.bool b)).run P w= .ok () w:=rfl
 simp only [execOp,ha.ev hx,ha.ev hy,Sem.run_bind,e1,Result.andThen_ok,run_neq_bool _ t a b ht.und,Sem.run_pure]
theorem yA {α:Type} [Inhabited α] {enc:α→List Value} {sz:Nat} [h:Sized enc sz] {ms:List α} {i:Int} (hi:0≤i∧i < ms.length):((recs enc ms).drop (i.toNat*sz)).take sz=enc (gt ms i):=by
 apply List.ext_getElem?
 intro j
 have hl:=h.len (gt ms i)
 rw [List.getElem?_take]
 by_cases hj:j < sz
 ·rw [if_pos hj,List.getElem?_drop,List.getElem?_eq_getElem (by omega:j < (enc (gt ms i)).length)]
  exact qX ms i.toNat j _ _ (uP hi) (List.getElem?_eq_getElem (by omega))
 ·rw [if_neg hj,List.getElem?_eq_none (by omega)]
theorem AtsZ.n8 {cs:List Value} {o:Nat} {a b c d e f g h:Value} (h0:cs[o]?=some a) (h1:cs[o+1]?=some b) (h2:cs[o+2]?=some c) (h3:cs[o+3]?=some d) (h4:cs[o+4]?=some e) (h5:cs[o+5]?=some f) (h6:cs[o+6]?=some g) (h7:cs[o+7]?=some h):AtsZ cs o [a,b,c,d,e,f,g,h] 8:=⟨⟨fun j v hj=>by
 match j,hj with
 |0,hj=>simp at hj;subst hj;exact h0
 |1,hj=>simp at hj;subst hj;exact h1
 |2,hj=>simp at hj;subst hj;exact h2
 |3,hj=>simp at hj;subst hj;exact h3
 |4,hj=>simp at hj;subst hj;exact h4
 |5,hj=>simp at hj;subst hj;exact h5
 |6,hj=>simp at hj;subst hj;exact h6
 |7,hj=>simp at hj;subst hj;exact h7
 |j+8,hj=>simp at hj⟩,rfl⟩
theorem atY {cs vs:List Value} {o sz:Nat} (h:AtsZ cs o vs sz:=by first|(with_reducible refine AtsZ.r ?_;exact gP)|(with_reducible refine AtsZ.r2 ?_ ?_ ?_;exact gP;rfl;rfl)|(with_reducible refine AtsZ.r4 ?_ ?_ ?_ ?_ ?_;exact gP;rfl;rfl;rfl;rfl)|exact AtsZ.all rfl|exact AtsZ.n2 rfl rfl|exact AtsZ.n4 rfl rfl rfl rfl|exact AtsZ.n8 rfl rfl rfl rfl rfl rfl rfl rfl|(refine AtsZ.r ?_;exact gP)|(refine AtsZ.app ?_;refine AtsZ.r ?_;exact gP)):AtsZ cs o vs sz:=h
end Go.Fx
namespace Go.Fx
open Go
section
variable {P:Program} {n:Nat} {G:Env} {C:World→Prop} {ty:TypeId}
theorem zR {t e:TypeId} {sz len:Nat} {x ix:Operand} {cs:List Value} {v:Value} {k:IntKind} {i:Int} [ht:ArrTy P t len e sz] [he:ScalarTy P e] (hx:ev G x=some (.agg cs.toArray)) (hi:ev G ix=some (.int k i)) (h:0≤i∧i < len)
  (hs:sz=1) (hv:cs[i.toNat]?=some v):Const P n G (.index t x ix) ty C v:=by
 subst hs
 refine ⟨?_⟩
 intro st ha dst pos after guard w _
 have hu:=ht.und
 simp [execOp,Instr.index,ha.ev hx,ha.ev hi,asIntOf,bL hu,h.1,h.2,part,gL,run_sizeOf ht.size,hv]
end
end Go.Fx

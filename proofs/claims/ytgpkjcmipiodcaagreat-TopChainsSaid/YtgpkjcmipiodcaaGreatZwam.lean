/- Quotients rounded down, fractions in lowest terms, division group by group from below. -/
import Derived.Test.YtgpkjcmipiodcaaGreatZwaf
import Derived.Test.YtgpkjcmipiodcaaGreatZwah
import Derived.Test.YtgpkjcmipiodcaaGreatZwal
import Derived.Test.YtgpkjcmipiodcaaGreatZwac
import Derived.Test.YtgpkjcmipiodcaaGreatZwag
set_option linter.unusedSimpArgs false
set_option linter.unusedVariables false
set_option maxRecDepth 100000
set_option maxHeartbeats 4000000
namespace Go.Proofs.YtgpkjcmipiodcaaGreat
open Go Go.Fx
theorem qC {y z q r:Int} (h:y=z*q+r) (hr:(0≤r∧r < z)∨(z < r∧r≤0)):y.fdiv z=q∧y.fmod z=r:=by
 have pos:∀{y z q r:Int},y=z*q+r→0≤r→r < z→y.fdiv z=q∧y.fmod z=r:=by
  intro y z q r h h0 h1
  have:=(Int.ediv_emod_unique (a:=y) (b:=z) (r:=r) (q:=q) (by omega)).2 ⟨by omega,h0,h1⟩
  rw [Int.fdiv_eq_ediv_of_nonneg _ (by omega),Int.fmod_eq_emod_of_nonneg _ (by omega)]
  exact this
 rcases hr with ⟨h0,h1⟩|⟨h0,h1⟩
 ·exact pos h h0 h1
 ·have h2:=pos (y:= -y) (z:= -z) (q:=q) (r:= -r) (by rw [Int.neg_mul];omega) (by omega) (by omega)
  rw [Int.neg_fdiv_neg,Int.neg_fmod_neg] at h2
  exact ⟨h2.1,by omega⟩
theorem aAC {y z:Int} (hz:z≠0):
  (¬(y < 0↔z < 0)→y.natAbs % z.natAbs≠0→y.fdiv z= -((y.natAbs / z.natAbs+1:Nat):Int)∧y.fmod z=if z < 0 then -((z.natAbs - y.natAbs % z.natAbs:Nat):Int) else ((z.natAbs - y.natAbs % z.natAbs:Nat):Int))∧
  (((y < 0↔z < 0)∨y.natAbs % z.natAbs=0)→y.fdiv z=(if ¬(y < 0↔z < 0) then -((y.natAbs / z.natAbs:Nat):Int) else ((y.natAbs / z.natAbs:Nat):Int))∧y.fmod z=if z < 0 then -((y.natAbs % z.natAbs:Nat):Int) else ((y.natAbs % z.natAbs:Nat):Int)):=by
 have hlt:=Nat.mod_lt y.natAbs (show z.natAbs>0 by omega)
 have hab:(y.natAbs:Int)=(z.natAbs:Int)*((y.natAbs / z.natAbs:Nat):Int)+((y.natAbs % z.natAbs:Nat):Int):=by
  rw [←Int.natCast_mul,←Int.natCast_add,Nat.div_add_mod]
 generalize hQ:y.natAbs / z.natAbs=Q at*
 generalize hR:y.natAbs % z.natAbs=R at*
 generalize hb:z.natAbs=b at*
 generalize hp:(b:Int)*(Q:Int)=p at*
 constructor
 ·intro hs hR0
  by_cases hz0:z < 0
  ·have hy:¬y < 0:=fun h=>hs ⟨fun _=>hz0,fun _=>h⟩
   have e:z= -(b:Int):=by omega
   rw [if_pos hz0]
   refine qC ?_ (.inr ⟨by omega,by omega⟩)
   rw [e,Int.neg_mul,Int.mul_neg,Int.neg_neg,Int.natCast_add,Int.mul_add,hp];omega
  ·have hy:y < 0:=by rcases Classical.em (y < 0) with h|h;exact h;exact absurd ⟨fun h'=>absurd h' h,fun h'=>absurd h' hz0⟩ hs
   have e:z=(b:Int):=by omega
   rw [if_neg hz0]
   refine qC ?_ (.inl ⟨by omega,by omega⟩)
   rw [e,Int.mul_neg,Int.natCast_add,Int.mul_add,hp];omega
 ·intro hs
  by_cases hd:(y < 0↔z < 0)
  ·rw [if_neg (fun h=>h hd)]
   by_cases hz0:z < 0
   ·have hy:=hd.2 hz0
    have e:z= -(b:Int):=by omega
    rw [if_pos hz0]
    refine qC ?_ (.inr ⟨by omega,by omega⟩)
    rw [e,Int.neg_mul,hp];omega
   ·have hy:¬y < 0:=fun h=>hz0 (hd.1 h)
    have e:z=(b:Int):=by omega
    rw [if_neg hz0]
    refine qC ?_ (.inl ⟨by omega,by omega⟩)
    rw [e,hp];omega
  ·have hR0:=hs.resolve_left hd
   rw [if_pos hd]
   by_cases hz0:z < 0
   ·have hy:¬y < 0:=fun h=>hd ⟨fun _=>hz0,fun _=>h⟩
    have e:z= -(b:Int):=by omega
    rw [if_pos hz0]
    refine qC ?_ (.inr ⟨by omega,by omega⟩)
    rw [e,Int.neg_mul,Int.mul_neg,Int.neg_neg,hp];omega
   ·have hy:y < 0:=by rcases Classical.em (y < 0) with h|h;exact h;exact absurd ⟨fun h'=>absurd h' h,fun h'=>absurd h' hz0⟩ hd
    have e:z=(b:Int):=by omega
    rw [if_neg hz0]
    refine qC ?_ (.inl ⟨by omega,by omega⟩)
    rw [e,Int.mul_neg,hp];omega
theorem xZ {n d:Int} (hd:d≠0):∃m:Int,m≠0∧n=(Rat.divInt n d).num*m∧d=(Rat.divInt n d).den*m∧(Int.gcd n d:Int)=(m.natAbs:Int)∧(m < 0↔d < 0):=by
 obtain ⟨m,hm,h1,h2⟩:=Rat.divInt_num_den (n:=n) (d:=d) (n':=(Rat.divInt n d).num) (d':=(Rat.divInt n d).den) (z':=(Rat.divInt n d).den_nz) (c:=(Rat.divInt n d).reduced) hd rfl
 refine ⟨m,hm,h1,h2,?_,?_⟩
 ·have hc:=(Rat.divInt n d).reduced
  have key:∀(a:Int) (b:Nat),Nat.gcd a.natAbs b=1→Int.gcd (a*m) ((b:Int)*m)=m.natAbs:=by
   intro a b h
   rw [Int.gcd_eq_natAbs_gcd_natAbs,Int.natAbs_mul,Int.natAbs_mul,Int.natAbs_natCast,Nat.gcd_mul_right,h,Nat.one_mul]
  have h3:=key _ _ hc
  rw [←h1,←h2] at h3
  have this:=h3
  rw [this]
 ·have hp:(0:Int) < (Rat.divInt n d).den:=by have:=(Rat.divInt n d).den_nz;omega
  constructor
  ·intro h;rw [h2];exact Int.mul_neg_of_pos_of_neg hp h
  ·intro h
   rcases Int.lt_trichotomy m 0 with h'|h'|h'
   ·exact h'
   ·exact absurd h' hm
   ·have:=Int.mul_pos hp h';omega
theorem aIF {q m:Int} (hm:m≠0):(q*m).fdiv m=q:=by
 refine (qC (y:=q*m) (z:=m) (q:=q) (r:=0) (by rw [Int.mul_comm];omega) ?_).1
 omega
theorem aOP {n d g:Int} (hd:d≠0) (hg:g=if d < 0 then -(Int.gcd n d:Int) else (Int.gcd n d:Int)):n.fdiv g=(Rat.divInt n d).num∧d.fdiv g=((Rat.divInt n d).den:Int)∧g≠0:=by
 obtain ⟨m,hm,h1,h2,h3,h4⟩:=xZ (n:=n) hd
 have e:g=m:=by
  rw [hg,h3]
  by_cases h:d < 0
  ·rw [if_pos h];have:=h4.2 h;omega
  ·rw [if_neg h];have:¬m < 0:=fun h'=>h (h4.1 h');omega
 rw [e]
 refine ⟨?_,?_,hm⟩
 ·exact (congrArg (fun x=>Int.fdiv x m) h1).trans (aIF hm)
 ·exact (congrArg (fun x=>Int.fdiv x m) h2).trans (aIF hm)
theorem aDG {n d:Int}:Rat.divInt (-n) (-d)=Rat.divInt n d:=Rat.neg_divInt_neg n d
theorem aNE (q:Rat):Int.gcd q.num q.den=1:=by
 rw [Int.gcd_eq_natAbs_gcd_natAbs,Int.natAbs_natCast]
 exact q.reduced
theorem bAO (p q:Rat):p=q↔p.num*q.den=q.num*p.den:=by
 constructor
 ·rintro rfl;rfl
 ·intro h
  rw [←Rat.num_divInt_den p,←Rat.num_divInt_den q]
  refine (Rat.divInt_eq_divInt_iff (by have:=p.den_nz;omega) (by have:=q.den_nz;omega)).2 h
theorem aQS {R b g top low P b1 bl:Nat} (hR:R=top*P+low) (hb:b=b1*P+bl) (hl:low < P) (hbl:bl < P) (hg:g=top / (b1+1)):g*b≤R:=by
 have h1:g*(b1+1)≤top:=by rw [hg];exact Nat.div_mul_le_self _ _
 have h2:b≤(b1+1)*P:=by rw [hb,Nat.add_mul];omega
 have h3:g*b≤g*((b1+1)*P):=Nat.mul_le_mul_left _ h2
 have h4:g*((b1+1)*P)≤top*P:=by rw [←Nat.mul_assoc];exact Nat.mul_le_mul_right _ h1
 omega
end Go.Proofs.YtgpkjcmipiodcaaGreat
namespace Go.Fx
theorem aW {p g:Prop} (h:g) (w:BoxP g→p:=by (intro hh;(first|refine aJ ?_|refine iD ?_|refine pK ?_|refine mF ?_|refine jM ?_|refine jE ?_|refine lV ?_|refine lJ ?_|refine jP ?_|refine jL ?_|refine oZ ?_|refine oU ?_|refine pU ?_|refine oP rfl ?_|refine aT ?_|(refine jZ ?_;first|refine kE rfl rfl rfl ?_|(refine kR rfl rfl ?_;refine iU rfl rfl rfl okF ?_)|refine kQ rfl rfl (by omega) ?_|refine kG rfl rfl (by omega) ?_)|(refine dY ?_;refine aD rfl (fun _=>fU rfl) rfl rfl ?_)|refine aD rfl (fun _=>bP rfl) rfl rfl ?_|(refine kL ?_;first|refine aD rfl (fun _=>dF rfl rfl wF) rfl rfl ?_|refine aD rfl (fun _=>dG rfl rfl wF) rfl rfl ?_|refine aD rfl (fun _=>gZ rfl rfl wF) rfl rfl ?_|refine aD rfl (fun _=>gX rfl rfl (by omega) qF) rfl rfl ?_|refine aD rfl (fun _=>gY rfl rfl (by omega) rfl) rfl rfl ?_|refine aD rfl (fun _=>fZ rfl rfl) rfl rfl ?_|refine aD rfl (fun _=>gV rfl rfl) rfl rfl ?_|refine aD rfl (fun _=>gT rfl rfl) rfl rfl ?_)|(refine dY ?_;first|refine aD rfl (fun _=>gJ rfl wF) rfl rfl ?_)|(refine jW ?_;first|refine aD rfl (fun _=>fB rfl wF) rfl rfl ?_)|(refine jV ?_;first|refine aD rfl (fun _=>dE rfl) rfl rfl ?_|refine aD rfl (fun _=>fQ rfl rfl) rfl rfl ?_|refine aD rfl (fun _=>fT rfl rfl) rfl rfl ?_|refine aD rfl (fun _=>fV rfl rfl rfl) rfl rfl ?_)|(refine kK ?_;first|refine jY rfl (by decide) rfl rfl ?_|refine nJ rfl (by decide) rfl rfl ?_)|(refine kD ?_;first|refine aD rfl (fun _=>fA rfl) rfl rfl ?_)|(refine kF ?_;first|refine nE rfl rfl jH rfl rfl ?_|refine nK gQ rfl rfl jH aA nQ rfl rfl ?_|refine nI gQ rfl rfl jH aA nQ rfl rfl ?_|refine aD rfl (fun _=>dV rfl rfl jH) rfl rfl ?_)|(refine kI ?_;first|refine nH gQ rfl aA vS rfl rfl ?_|refine nG gQ rfl aA vS rfl rfl ?_|refine kX gQ rfl aA vS rfl rfl ?_|refine jF gQ rfl aA vS rfl rfl ?_|refine qL gQ rfl aA atZ rfl rfl ?_|refine sI gQ rfl aA atZ rfl rfl ?_|refine mE gQ rfl aA atZ rfl rfl ?_|refine bL gQ rfl aA atZ rfl rfl ?_)|(refine jX ?_;first|refine aD rfl (fun _=>dW rfl rfl) rfl rfl ?_|refine aD rfl (fun _=>dJ rfl) rfl rfl ?_)|(refine oF ?_;first|refine oH rfl rfl rfl iN stC rfl rfl ⟨okF,?_⟩|refine fM rfl rfl jR nU iN aBS rfl rfl ⟨okF,?_⟩)|(refine mD ?_;first|refine fD rfl ?_|refine dZ rfl ?_|refine oQ rfl (by omega) ?_|refine sJ rfl (by omega) ?_));(repeat (first|refine aJ ?_|refine iD ?_|refine pK ?_|refine mF ?_|refine jM ?_|refine jE ?_|refine lV ?_|refine lJ ?_|refine jP ?_|refine jL ?_|refine oZ ?_|refine oU ?_|refine pU ?_|refine oP rfl ?_|refine aT ?_|(refine jZ ?_;first|refine kE rfl rfl rfl ?_|(refine kR rfl rfl ?_;refine iU rfl rfl rfl okF ?_)|refine kQ rfl rfl (by omega) ?_|refine kG rfl rfl (by omega) ?_)|(refine dY ?_;refine aD rfl (fun _=>fU rfl) rfl rfl ?_)|refine aD rfl (fun _=>bP rfl) rfl rfl ?_|(refine kL ?_;first|refine aD rfl (fun _=>dF rfl rfl wF) rfl rfl ?_|refine aD rfl (fun _=>dG rfl rfl wF) rfl rfl ?_|refine aD rfl (fun _=>gZ rfl rfl wF) rfl rfl ?_|refine aD rfl (fun _=>gX rfl rfl (by omega) qF) rfl rfl ?_|refine aD rfl (fun _=>gY rfl rfl (by omega) rfl) rfl rfl ?_|refine aD rfl (fun _=>fZ rfl rfl) rfl rfl ?_|refine aD rfl (fun _=>gV rfl rfl) rfl rfl ?_|refine aD rfl (fun _=>gT rfl rfl) rfl rfl ?_)|(refine dY ?_;first|refine aD rfl (fun _=>gJ rfl wF) rfl rfl ?_)|(refine jW ?_;first|refine aD rfl (fun _=>fB rfl wF) rfl rfl ?_)|(refine jV ?_;first|refine aD rfl (fun _=>dE rfl) rfl rfl ?_|refine aD rfl (fun _=>fQ rfl rfl) rfl rfl ?_|refine aD rfl (fun _=>fT rfl rfl) rfl rfl ?_|refine aD rfl (fun _=>fV rfl rfl rfl) rfl rfl ?_)|(refine kK ?_;first|refine jY rfl (by decide) rfl rfl ?_|refine nJ rfl (by decide) rfl rfl ?_)|(refine kD ?_;first|refine aD rfl (fun _=>fA rfl) rfl rfl ?_)|(refine kF ?_;first|refine nE rfl rfl jH rfl rfl ?_|refine nK gQ rfl rfl jH aA nQ rfl rfl ?_|refine nI gQ rfl rfl jH aA nQ rfl rfl ?_|refine aD rfl (fun _=>dV rfl rfl jH) rfl rfl ?_)|(refine kI ?_;first|refine nH gQ rfl aA vS rfl rfl ?_|refine nG gQ rfl aA vS rfl rfl ?_|refine kX gQ rfl aA vS rfl rfl ?_|refine jF gQ rfl aA vS rfl rfl ?_|refine qL gQ rfl aA atZ rfl rfl ?_|refine sI gQ rfl aA atZ rfl rfl ?_|refine mE gQ rfl aA atZ rfl rfl ?_|refine bL gQ rfl aA atZ rfl rfl ?_)|(refine jX ?_;first|refine aD rfl (fun _=>dW rfl rfl) rfl rfl ?_|refine aD rfl (fun _=>dJ rfl) rfl rfl ?_)|(refine oF ?_;first|refine oH rfl rfl rfl iN stC rfl rfl ⟨okF,?_⟩|refine fM rfl rfl jR nU iN aBS rfl rfl ⟨okF,?_⟩)|(refine mD ?_;first|refine fD rfl ?_|refine dZ rfl ?_|refine oQ rfl (by omega) ?_|refine sJ rfl (by omega) ?_)));exact hh.out)):p:=w ⟨h⟩
theorem yXf {p g:Prop} (h:g) (w:BoxP g→p:=by (intro hh;(first|refine aJ ?_|refine iD ?_|refine pK ?_|refine mF ?_|refine jM ?_|refine jE ?_|refine lV ?_|refine lJ ?_|refine jP ?_|refine jL ?_|refine oZ ?_|refine oU ?_|refine pU ?_|refine oP rfl ?_|refine aT ?_|(refine jZ ?_;first|refine kE rfl rfl rfl ?_|(refine kR rfl rfl ?_;refine iU rfl rfl rfl okF ?_)|refine kQ rfl rfl (by omega) ?_|refine kG rfl rfl (by omega) ?_)|(refine dY ?_;refine aD rfl (fun _=>fU rfl) rfl rfl ?_)|refine aD rfl (fun _=>bP rfl) rfl rfl ?_|(refine kL ?_;first|refine aD rfl (fun _=>dF rfl rfl wF) rfl rfl ?_|refine aD rfl (fun _=>dG rfl rfl wF) rfl rfl ?_|refine aD rfl (fun _=>gZ rfl rfl wF) rfl rfl ?_|refine aD rfl (fun _=>gX rfl rfl (by omega) qF) rfl rfl ?_|refine aD rfl (fun _=>gY rfl rfl (by omega) rfl) rfl rfl ?_|refine aD rfl (fun _=>fZ rfl rfl) rfl rfl ?_|refine aD rfl (fun _=>gV rfl rfl) rfl rfl ?_|refine aD rfl (fun _=>gT rfl rfl) rfl rfl ?_)|(refine dY ?_;first|refine aD rfl (fun _=>gJ rfl wF) rfl rfl ?_)|(refine jW ?_;first|refine aD rfl (fun _=>fB rfl wF) rfl rfl ?_)|(refine jV ?_;first|refine aD rfl (fun _=>dE rfl) rfl rfl ?_|refine aD rfl (fun _=>fQ rfl rfl) rfl rfl ?_|refine aD rfl (fun _=>fT rfl rfl) rfl rfl ?_|refine aD rfl (fun _=>fV rfl rfl rfl) rfl rfl ?_)|(refine kK ?_;first|refine jY rfl (by decide) rfl rfl ?_|refine nJ rfl (by decide) rfl rfl ?_)|(refine kD ?_;first|refine aD rfl (fun _=>fA rfl) rfl rfl ?_)|(refine kF ?_;first|refine nE rfl rfl jH rfl rfl ?_|refine nK gQ rfl rfl jH aA nQ rfl rfl ?_|refine nI gQ rfl rfl jH aA nQ rfl rfl ?_|refine aD rfl (fun _=>dV rfl rfl jH) rfl rfl ?_)|(refine kI ?_;first|refine nH gQ rfl aA vS rfl rfl ?_|refine nG gQ rfl aA vS rfl rfl ?_|refine kX gQ rfl aA vS rfl rfl ?_|refine jF gQ rfl aA vS rfl rfl ?_|refine qL gQ rfl aA atZ rfl rfl ?_|refine sI gQ rfl aA atZ rfl rfl ?_|refine mE gQ rfl aA atZ rfl rfl ?_|refine bL gQ rfl aA atZ rfl rfl ?_)|(refine jX ?_;first|refine aD rfl (fun _=>dW rfl rfl) rfl rfl ?_|refine aD rfl (fun _=>dJ rfl) rfl rfl ?_)|(refine mD ?_;first|refine fD rfl ?_|refine dZ rfl ?_|refine oQ rfl (by omega) ?_|refine sJ rfl (by omega) ?_));(repeat (first|refine aJ ?_|refine iD ?_|refine pK ?_|refine mF ?_|refine jM ?_|refine jE ?_|refine lV ?_|refine lJ ?_|refine jP ?_|refine jL ?_|refine oZ ?_|refine oU ?_|refine pU ?_|refine oP rfl ?_|refine aT ?_|(refine jZ ?_;first|refine kE rfl rfl rfl ?_|(refine kR rfl rfl ?_;refine iU rfl rfl rfl okF ?_)|refine kQ rfl rfl (by omega) ?_|refine kG rfl rfl (by omega) ?_)|(refine dY ?_;refine aD rfl (fun _=>fU rfl) rfl rfl ?_)|refine aD rfl (fun _=>bP rfl) rfl rfl ?_|(refine kL ?_;first|refine aD rfl (fun _=>dF rfl rfl wF) rfl rfl ?_|refine aD rfl (fun _=>dG rfl rfl wF) rfl rfl ?_|refine aD rfl (fun _=>gZ rfl rfl wF) rfl rfl ?_|refine aD rfl (fun _=>gX rfl rfl (by omega) qF) rfl rfl ?_|refine aD rfl (fun _=>gY rfl rfl (by omega) rfl) rfl rfl ?_|refine aD rfl (fun _=>fZ rfl rfl) rfl rfl ?_|refine aD rfl (fun _=>gV rfl rfl) rfl rfl ?_|refine aD rfl (fun _=>gT rfl rfl) rfl rfl ?_)|(refine dY ?_;first|refine aD rfl (fun _=>gJ rfl wF) rfl rfl ?_)|(refine jW ?_;first|refine aD rfl (fun _=>fB rfl wF) rfl rfl ?_)|(refine jV ?_;first|refine aD rfl (fun _=>dE rfl) rfl rfl ?_|refine aD rfl (fun _=>fQ rfl rfl) rfl rfl ?_|refine aD rfl (fun _=>fT rfl rfl) rfl rfl ?_|refine aD rfl (fun _=>fV rfl rfl rfl) rfl rfl ?_)|(refine kK ?_;first|refine jY rfl (by decide) rfl rfl ?_|refine nJ rfl (by decide) rfl rfl ?_)|(refine kD ?_;first|refine aD rfl (fun _=>fA rfl) rfl rfl ?_)|(refine kF ?_;first|refine nE rfl rfl jH rfl rfl ?_|refine nK gQ rfl rfl jH aA nQ rfl rfl ?_|refine nI gQ rfl rfl jH aA nQ rfl rfl ?_|refine aD rfl (fun _=>dV rfl rfl jH) rfl rfl ?_)|(refine kI ?_;first|refine nH gQ rfl aA vS rfl rfl ?_|refine nG gQ rfl aA vS rfl rfl ?_|refine kX gQ rfl aA vS rfl rfl ?_|refine jF gQ rfl aA vS rfl rfl ?_|refine qL gQ rfl aA atZ rfl rfl ?_|refine sI gQ rfl aA atZ rfl rfl ?_|refine mE gQ rfl aA atZ rfl rfl ?_|refine bL gQ rfl aA atZ rfl rfl ?_)|(refine jX ?_;first|refine aD rfl (fun _=>dW rfl rfl) rfl rfl ?_|refine aD rfl (fun _=>dJ rfl) rfl rfl ?_)|(refine mD ?_;first|refine fD rfl ?_|refine dZ rfl ?_|refine oQ rfl (by omega) ?_|refine sJ rfl (by omega) ?_)));exact hh.out)):p:=w ⟨h⟩
end Go.Fx
namespace Go.Proofs.YtgpkjcmipiodcaaGreat
open Go Go.Fx
theorem xV {a b k:Nat} (h:a≤2 ^ k):a / b≤2 ^ k:=Nat.le_trans (Nat.div_le_self _ _) h
section
variable {X:List Nat} {w0:World} {M0:List Ent} {I0:List aV}
def DvP (s t:Int) (k m:Nat) (M0:List Ent) (I0:List aV) (v:Value) (M:List Ent) (I:List aV):Prop:=M0=M∧∃v1 v2,v= .tuple #[v1,v2, .int .i64 0]∧I=iB v2 t m::iB v1 s k::I0
theorem aRO {y z s t:Int} {q q':Option Addr} {a b Q R k m cq cq':Nat} (hb0:¬(gr b).length=0) (hA1:¬(gr R).length=0) (hA2:¬(y < 0↔z < 0)) (hg1:gr 1=[1])
  (h1:∀M0 I0,aI q (recs eG (gr a))∈I0→CD Tryz.prog 129 [.agg #[.bool (B (y < 0)), .slice q (gr a).length cq]] X w0 M0 I0 (fun v M I=>M0=M∧I0=I∧v= .slice q (gr a).length cq))
  (h2:∀M0 I0,aI q' (recs eG (gr b))∈I0→CD Tryz.prog 129 [.agg #[.bool (B (z < 0)), .slice q' (gr b).length cq']] X w0 M0 I0 (fun v M I=>M0=M∧I0=I∧v= .slice q' (gr b).length cq'))
  (hO:∀M0 I0,aI q (recs eG (gr a))∈I0→aI q' (recs eG (gr b))∈I0→CD Tryz.prog 146 [.slice q (gr a).length cq, .slice q' (gr b).length cq'] X w0 M0 I0 (QrP Q R M0 I0))
  (hC:∀p2 c2,rR p2 R c2→∀M0 I0,aI p2 (recs eG (gr R))∈I0→CD Tryz.prog 176 [.slice p2 (gr R).length c2] X w0 M0 I0 (fun v M I=>I0=I∧∃q' c',v= .slice q' (gr R).length c'∧M= .row q' (gr R).length c' (recs eG (gr R)) 181 1::M0))
  (hP:∀p1 c1 p2 M0 I0,aI p1 (recs eG (gr Q))∈I0→aI p2 (recs eG [1])∈I0→CD Tryz.prog 148 [.slice p1 (gr Q).length c1, .slice p2 1 1] X w0 M0 I0 (GrP (Q+1) M0 I0))
  (hMi:∀p3 c3 M0 I0,aI q' (recs eG (gr b))∈I0→aI p3 (recs eG (gr R))∈I0→CD Tryz.prog 171 [.slice q' (gr b).length cq', .slice p3 (gr R).length c3] X w0 M0 I0 (GrP (b - R) M0 I0))
  (hM1:∀p4 c4,rR p4 (Q+1) c4→∀M0 I0,aI p4 (recs eG (gr (Q+1)))∈I0→CD Tryz.prog 126 [.bool (B (¬(y < 0↔z < 0))), .slice p4 (gr (Q+1)).length c4] X w0 M0 I0 (fun v M I=>M0=M∧I=iB v s k::I0))
  (hM2:∀p4 c4,rR p4 (b - R) c4→∀M0 I0,aI p4 (recs eG (gr (b - R)))∈I0→CD Tryz.prog 126 [.bool (B (z < 0)), .slice p4 (gr (b - R)).length c4] X w0 M0 I0 (fun v M I=>M0=M∧I=iB v t m::I0))
  (hq:aI q (recs eG (gr a))∈I0) (hq':aI q' (recs eG (gr b))∈I0):
  CD Tryz.prog 145 [.agg #[.bool (B (y < 0)), .slice q (gr a).length cq], .agg #[.bool (B (z < 0)), .slice q' (gr b).length cq']] X w0 M0 I0 (DvP s t k m M0 I0):=by
 refine aP Tryz.func145 rfl Tryz.ntmps145 rfl ?_
 refine fE ?_
 refine fG rfl (fun b1=>?_)
 refine fG rfl (fun b2=>?_)
 refine bG (fun b3=>?_)
 refine bG (fun b4=>?_)
 repeat refine aW ?_
 (repeat refine aJ ?_);refine aO 4 [0,2,1,3,4,5] [1,1,0,0,0,0] mixed (by kernel_rfl) ?_
 repeat' (first|refine aW ?_|refine aQ rfl (fun h=>?_) (fun h=>?_)|refine aR rfl rfl (fun h=>?_) (fun h=>?_)|fail)
 refine dP rfl (h1 _ _ aA) ?_
 repeat' (first|refine aW ?_|refine aQ rfl (fun h=>?_) (fun h=>?_)|refine aR rfl rfl (fun h=>?_) (fun h=>?_)|fail)
 refine dP rfl (h2 _ _ aA) ?_
 repeat' (first|refine aW ?_|refine aQ rfl (fun h=>?_) (fun h=>?_)|refine aR rfl rfl (fun h=>?_) (fun h=>?_)|fail)
 (refine aU rfl (hO _ _ aA aA) ?_;rintro _ _ _ ⟨rfl,p1,c1,p2,c2,ho1,ho2,rfl,rfl⟩;refine aL ?_)
 repeat' (first|refine aW ?_|refine aQ rfl (fun h=>?_) (fun h=>?_)|refine aR rfl rfl (fun h=>?_) (fun h=>?_)|fail)
 (refine aU rfl (hC p2 c2 ho2 _ _ aA) ?_;rintro _ _ _ ⟨rfl,p3,c3,rfl,rfl⟩;refine aL ?_)
 refine gW uB ?_
 repeat' (first|refine aW ?_|refine aQ rfl (fun h=>?_) (fun h=>?_)|refine aR rfl rfl (fun h=>?_) (fun h=>?_)|fail)
 refine lL (cs:=recs eG [1]) ([.int .u32 1]) rfl (fun b5=>?_)
 refine aC uB ?_
 (refine aU rfl (hP p1 c1 (some ⟨b5,0,none⟩) _ _ aA aA) ?_;rintro _ _ _ ⟨rfl,p4,c4,rfl,hc4,rfl⟩;refine aL ?_)
 repeat' (first|refine aW ?_|refine aQ rfl (fun h=>?_) (fun h=>?_)|refine aR rfl rfl (fun h=>?_) (fun h=>?_)|fail)
 (refine aU rfl (hMi p3 c3 _ _ aA aA) ?_;rintro _ _ _ ⟨rfl,p5,c5,rfl,hc5,rfl⟩;refine aL ?_)
 repeat refine aW ?_
 (repeat refine aJ ?_);refine vT (.blk b2 [.bool (B (z < 0)), .slice q' (gr b).length cq'] 38:: .blk b1 [.bool (B (y < 0)), .slice q (gr a).length cq] 38::M0) (I0) [0,1,2,3,4,5,7,8,9,6,10,11,12,13] [2,2,2,2,1,1,3,2,2,0,0,0,0,0] mixed ?_
 repeat' (first|refine aW ?_|refine aQ rfl (fun h=>?_) (fun h=>?_)|refine aR rfl rfl (fun h=>?_) (fun h=>?_)|fail)
 (refine aU rfl (hM1 p4 c4 hc4 _ _ aA) ?_;rintro _ _ _ ⟨rfl,rfl⟩;refine aL ?_;refine aX (List.Mem.head _) (fun q6 c6 e__ hc6 hz6=>?_);subst e__)
 repeat' (first|refine aW ?_|refine aQ rfl (fun h=>?_) (fun h=>?_)|refine aR rfl rfl (fun h=>?_) (fun h=>?_)|fail)
 (refine aU rfl (hM2 p5 c5 hc5 _ _ aA) ?_;rintro _ _ _ ⟨rfl,rfl⟩;refine aL ?_;refine aX (List.Mem.head _) (fun q7 c7 e__ hc7 hz7=>?_);subst e__)
 unfold iv
 repeat' (first|refine aW ?_|refine aQ rfl (fun h=>?_) (fun h=>?_)|refine aR rfl rfl (fun h=>?_) (fun h=>?_)|fail)
 refine dI (rs:=[.cell 4 38, .cell 5 38, .tmp 6]) (.inl rfl) rfl (.cellN inferInstance rfl aA rfl (.cellN inferInstance rfl aA rfl (.tmp rfl .nil))) rfl M0 (iB (.agg #[.bool (B (t < 0)), .slice q7 (gr t.natAbs).length c7]) t m::iB (.agg #[.bool (B (s < 0)), .slice q6 (gr s.natAbs).length c6]) s k::I0) aG aF ⟨rfl,_,_,rfl,rfl⟩
theorem aSC {y z s t:Int} {q q':Option Addr} {a b Q R k m cq cq':Nat} (hb0:¬(gr b).length=0) (hA:(gr R).length=0∨(y < 0↔z < 0))
  (h1:∀M0 I0,aI q (recs eG (gr a))∈I0→CD Tryz.prog 129 [.agg #[.bool (B (y < 0)), .slice q (gr a).length cq]] X w0 M0 I0 (fun v M I=>M0=M∧I0=I∧v= .slice q (gr a).length cq))
  (h2:∀M0 I0,aI q' (recs eG (gr b))∈I0→CD Tryz.prog 129 [.agg #[.bool (B (z < 0)), .slice q' (gr b).length cq']] X w0 M0 I0 (fun v M I=>M0=M∧I0=I∧v= .slice q' (gr b).length cq'))
  (hO:∀M0 I0,aI q (recs eG (gr a))∈I0→aI q' (recs eG (gr b))∈I0→CD Tryz.prog 146 [.slice q (gr a).length cq, .slice q' (gr b).length cq'] X w0 M0 I0 (QrP Q R M0 I0))
  (hC:∀p2 c2,rR p2 R c2→∀M0 I0,aI p2 (recs eG (gr R))∈I0→CD Tryz.prog 176 [.slice p2 (gr R).length c2] X w0 M0 I0 (fun v M I=>I0=I∧∃q' c',v= .slice q' (gr R).length c'∧M= .row q' (gr R).length c' (recs eG (gr R)) 181 1::M0))
  (hM1:∀p4 c4,rR p4 Q c4→∀M0 I0,aI p4 (recs eG (gr Q))∈I0→CD Tryz.prog 126 [.bool (B (¬(y < 0↔z < 0))), .slice p4 (gr Q).length c4] X w0 M0 I0 (fun v M I=>M0=M∧I=iB v s k::I0))
  (hM2:∀p4 c4,rR p4 R c4→∀M0 I0,aI p4 (recs eG (gr R))∈I0→CD Tryz.prog 126 [.bool (B (z < 0)), .slice p4 (gr R).length c4] X w0 M0 I0 (fun v M I=>M0=M∧I=iB v t m::I0))
  (hq:aI q (recs eG (gr a))∈I0) (hq':aI q' (recs eG (gr b))∈I0):
  CD Tryz.prog 145 [.agg #[.bool (B (y < 0)), .slice q (gr a).length cq], .agg #[.bool (B (z < 0)), .slice q' (gr b).length cq']] X w0 M0 I0 (DvP s t k m M0 I0):=by
 refine aP Tryz.func145 rfl Tryz.ntmps145 rfl ?_
 refine fE ?_
 refine fG rfl (fun b1=>?_)
 refine fG rfl (fun b2=>?_)
 refine bG (fun b3=>?_)
 refine bG (fun b4=>?_)
 repeat refine aW ?_
 (repeat refine aJ ?_);refine aO 4 [0,2,1,3,4,5] [1,1,0,0,0,0] mixed (by kernel_rfl) ?_
 repeat' (first|refine aW ?_|refine aQ rfl (fun h=>?_) (fun h=>?_)|refine aR rfl rfl (fun h=>?_) (fun h=>?_)|fail)
 refine dP rfl (h1 _ _ aA) ?_
 repeat' (first|refine aW ?_|refine aQ rfl (fun h=>?_) (fun h=>?_)|refine aR rfl rfl (fun h=>?_) (fun h=>?_)|fail)
 refine dP rfl (h2 _ _ aA) ?_
 repeat' (first|refine aW ?_|refine aQ rfl (fun h=>?_) (fun h=>?_)|refine aR rfl rfl (fun h=>?_) (fun h=>?_)|fail)
 (refine aU rfl (hO _ _ aA aA) ?_;rintro _ _ _ ⟨rfl,p1,c1,p2,c2,ho1,ho2,rfl,rfl⟩;refine aL ?_)
 repeat' (first|refine aW ?_|refine aQ rfl (fun h=>?_) (fun h=>?_)|refine aR rfl rfl (fun h=>?_) (fun h=>?_)|fail)
 (refine aU rfl (hC p2 c2 ho2 _ _ aA) ?_;rintro _ _ _ ⟨rfl,p3,c3,rfl,rfl⟩;refine aL ?_)
 refine qK (fun w hw=>And.intro (hw.rowLe (List.Mem.head _)) ((hw.rowS (List.Mem.head _)).2.imp id And.right)) (fun ho3=>?_)
 refine gW uB ?_
 repeat' (first|refine aW ?_|refine aQ rfl (fun h=>?_) (fun h=>?_)|refine aR rfl rfl (fun h=>?_) (fun h=>?_)|fail)
 all_goals
  ((repeat refine aJ ?_);refine vT (.blk b2 [.bool (B (z < 0)), .slice q' (gr b).length cq'] 38:: .blk b1 [.bool (B (y < 0)), .slice q (gr a).length cq] 38::M0) (I0) [0,1,2,3,4,5,7,8,9,6,10,11,12,13] [2,2,2,2,1,1,3,2,2,0,0,0,0,0] mixed ?_)
  repeat' (first|refine aW ?_|refine aQ rfl (fun h=>?_) (fun h=>?_)|refine aR rfl rfl (fun h=>?_) (fun h=>?_)|fail)
  (refine aU rfl (hM1 p1 c1 ho1 _ _ aA) ?_;rintro _ _ _ ⟨rfl,rfl⟩;refine aL ?_;refine aX (List.Mem.head _) (fun q6 c6 e__ hc6 hz6=>?_);subst e__)
  repeat' (first|refine aW ?_|refine aQ rfl (fun h=>?_) (fun h=>?_)|refine aR rfl rfl (fun h=>?_) (fun h=>?_)|fail)
  (refine aU rfl (hM2 p3 c3 ho3 _ _ aA) ?_;rintro _ _ _ ⟨rfl,rfl⟩;refine aL ?_;refine aX (List.Mem.head _) (fun q7 c7 e__ hc7 hz7=>?_);subst e__)
  unfold iv
  repeat' (first|refine aW ?_|refine aQ rfl (fun h=>?_) (fun h=>?_)|refine aR rfl rfl (fun h=>?_) (fun h=>?_)|fail)
  refine dI (rs:=[.cell 4 38, .cell 5 38, .tmp 6]) (.inl rfl) rfl (.cellN inferInstance rfl aA rfl (.cellN inferInstance rfl aA rfl (.tmp rfl .nil))) rfl M0 (iB (.agg #[.bool (B (t < 0)), .slice q7 (gr t.natAbs).length c7]) t m::iB (.agg #[.bool (B (s < 0)), .slice q6 (gr s.natAbs).length c6]) s k::I0) aG aF ⟨rfl,_,_,rfl,rfl⟩
theorem aAX {u v:Value} {y z:Int} {k m:Nat} (hk:k≤1000000000000) (hm:m≤1000000000000) (hz0:z≠0) (hu:iB u y k∈I0) (hv:iB v z m∈I0):
  CD Tryz.prog 145 [u,v] X w0 M0 I0 (DvP (y.fdiv z) (y.fmod z) k m M0 I0):=by
 refine dC hu (fun q cq e hc hy=>?_)
 subst e
 refine dC (List.Mem.tail _ hv) (fun q' cq' e hc' hz=>?_)
 subst e
 have hly:=dX hy
 have hlz:=dX hz
 have hfd:=aAC (y:=y) hz0
 have hz1:0 < z.natAbs:=by omega
 have hmod:=Nat.mod_lt y.natAbs hz1
 have hqb:y.natAbs / z.natAbs≤2 ^ k:=xV hy
 have hrb:y.natAbs % z.natAbs≤2 ^ m:=by omega
 have hlq:=dX hqb
 have hlr:=dX hrb
 have hlz1:¬(gr z.natAbs).length=0:=fun e=>by have:=nD.1 (List.eq_nil_of_length_eq_zero e);omega
 have hg1:gr 1=[1]:=vX (f:=1) (by decide) (by decide)
 have hr0:(gr (y.natAbs % z.natAbs)).length=0↔y.natAbs % z.natAbs=0:=by rw [List.length_eq_zero_iff,nD]
 refine CD.post (K:=DvP (y.fdiv z) (y.fmod z) k m M0 (aI q' (recs eG (gr z.natAbs))::aI q (recs eG (gr y.natAbs))::I0)) ?_ (fun v M I w h hw=>?_)
 case refine_2=>
  obtain ⟨e1,v1,v2,e2,e3⟩:=h
  subst e1;subst e3
  exact ⟨_,_,⟨rfl,v1,v2,e2,rfl⟩,hw.inc (Inc.cons (by simp) (Inc.cons (by simp) (Inc.wk (Inc.wk (Inc.wk (Inc.wk Inc.refl))))))⟩
 have hG1:=fun M0 I0 h=>iF (X:=X) (w0:=w0) (M0:=M0) (I0:=I0) (c:=cq) (q:=q) (z:=y) hy (by omega) h
 have hG2:=fun M0 I0 h=>iF (X:=X) (w0:=w0) (M0:=M0) (I0:=I0) (c:=cq') (q:=q') (z:=z) hz (by omega) h
 have hO:=fun M0 I0=>aHJ (X:=X) (w0:=w0) (M0:=M0) (I0:=I0) (p:=q) (q:=q') (m:=y.natAbs) (n:=z.natAbs) (cp:=cq) (cq:=cq') (by omega) (by omega) hz1 hc
 have hCl:=fun p2 c2 (ho2:rR p2 (y.natAbs % z.natAbs) c2) M0 I0 h=>aAQ (X:=X) (w0:=w0) (M0:=M0) (I0:=I0) (q:=p2) (a:=gr (y.natAbs % z.natAbs)) (c:=c2) (by omega) ho2.2 h
 unfold iv at hG1 hG2 ⊢
 by_cases hA:(gr (y.natAbs % z.natAbs)).length=0∨(y < 0↔z < 0)
 ·obtain ⟨e1,e2⟩:=hfd.2 (hA.elim (fun h=> .inr (hr0.1 h)) .inl)
  have s1:sg (¬(y < 0↔z < 0)) (y.natAbs / z.natAbs)=y.fdiv z:=by rw [e1];rfl
  have s2:sg (z < 0) (y.natAbs % z.natAbs)=y.fmod z:=by rw [e2];rfl
  have hM1:=fun p4 c4 (h4:rR p4 (y.natAbs / z.natAbs) c4) M0 I0 h=>lW (X:=X) (w0:=w0) (M0:=M0) (I0:=I0) (p:=¬(y < 0↔z < 0)) (k:=k) (by omega) h4 hqb h
  have hM2:=fun p4 c4 (h4:rR p4 (y.natAbs % z.natAbs) c4) M0 I0 h=>lW (X:=X) (w0:=w0) (M0:=M0) (I0:=I0) (p:=z < 0) (k:=m) (by omega) h4 hrb h
  rw [s1] at hM1
  rw [s2] at hM2
  exact aSC hlz1 hA hG1 hG2 hO hCl hM1 hM2 (by simp) (by simp)
 ·have hA1:¬(gr (y.natAbs % z.natAbs)).length=0:=fun h=>hA (.inl h)
  have hA2:¬(y < 0↔z < 0):=fun h=>hA (.inr h)
  have hAr:y.natAbs % z.natAbs≠0:=fun h=>hA1 (hr0.2 h)
  obtain ⟨e1,e2⟩:=hfd.1 hA2 hAr
  have hab:=Nat.div_add_mod y.natAbs z.natAbs
  have hbQ:y.natAbs / z.natAbs≤z.natAbs*(y.natAbs / z.natAbs):=Nat.le_mul_of_pos_left _ hz1
  have hQ1:y.natAbs / z.natAbs+1≤2 ^ k:=by omega
  have hR1:z.natAbs - y.natAbs % z.natAbs≤2 ^ m:=by omega
  have hlQ1:=dX hQ1
  have hlR1:=dX hR1
  have s1:sg (¬(y < 0↔z < 0)) (y.natAbs / z.natAbs+1)=y.fdiv z:=by rw [e1];unfold sg;rw [if_pos hA2]
  have s2:sg (z < 0) (z.natAbs - y.natAbs % z.natAbs)=y.fmod z:=by rw [e2];rfl
  have hM1:=fun p4 c4 (h4:rR p4 (y.natAbs / z.natAbs+1) c4) M0 I0 h=>lW (X:=X) (w0:=w0) (M0:=M0) (I0:=I0) (p:=¬(y < 0↔z < 0)) (k:=k) (by omega) h4 hQ1 h
  have hM2:=fun p4 c4 (h4:rR p4 (z.natAbs - y.natAbs % z.natAbs) c4) M0 I0 h=>lW (X:=X) (w0:=w0) (M0:=M0) (I0:=I0) (p:=z < 0) (k:=m) (by omega) h4 hR1 h
  rw [s1] at hM1
  rw [s2] at hM2
  have hP:=fun p1 c1 p2 M0 I0=>aHO (X:=X) (w0:=w0) (M0:=M0) (I0:=I0) (p:=p1) (q:=p2) (m:=y.natAbs / z.natAbs) (n:=1) (cp:=c1) (cq:=1) (by omega) (by rw [hg1];simp)
  simp only [hg1] at hP
  have hMi:=fun p3 c3 M0 I0=>aEG (X:=X) (w0:=w0) (M0:=M0) (I0:=I0) (p:=q') (q:=p3) (m:=z.natAbs) (n:=y.natAbs % z.natAbs) (cp:=cq') (cq:=c3) (by omega) (by omega)
  exact aRO hlz1 hA1 hA2 hg1 hG1 hG2 hO hCl hP hMi hM1 hM2 (by simp) (by simp)
end
theorem aQU {n:Nat} (h:0 < n∧n≤9223372036854775808):IntKind.u64.wrap (0 - (-(n:Int)+18446744073709551616))=n:=by
 simp [IntKind.wrap,IntKind.bits,IntKind.signed];omega
section
variable {X:List Nat} {w0:World} {M0:List Ent} {I0:List aV}
theorem bAJ {n:Nat} (hx:0 < n∧n≤9223372036854775808):CD Tryz.prog 71 [.int .i64 (-(n:Int))] X w0 M0 I0 (fun v M I=>M0=M∧I=iB v (-(n:Int)) 63::I0):=by
 have hn:n≤2 ^ 63:=by omega
 have hlt:(-(n:Int)) < 0:=by omega
 have hMd:=fun (q':Option Addr) (c':Nat) (hc':rR q' n c') M0 I0=>lW (X:=X) (w0:=w0) (M0:=M0) (I0:=I0) (p:=(-(n:Int)) < 0) (q:=q') (c:=c') (k:=63) (by have:=dX hn;omega) hc' hn
 have hs2:sg ((-(n:Int)) < 0) n= -(n:Int):=by unfold sg;rw [if_pos hlt]
 rw [hs2] at hMd
 refine aZ Tryz.func71 rfl Tryz.ntmps71 rfl ?_
 refine fE ?_
 refine bG (fun b=>?_)
 repeat refine aW ?_
 refine aD rfl (fun _=>fB rfl (aJV (by omega))) rfl rfl ?_
 repeat refine aW ?_
 refine aD rfl (fun _=>gJ rfl (aQU hx)) rfl rfl ?_
 repeat refine aW ?_
 (refine aU rfl (tY (n:=n) (by omega)) ?_;rintro _ _ _ ⟨rfl,q',c',rfl,hc',rfl⟩;refine aL ?_)
 (refine aU rfl (hMd q' c' hc' _ _ aA) ?_;rintro _ _ _ ⟨rfl,rfl⟩;refine aL ?_;refine aX (List.Mem.head _) (fun q2 c2 e__ hc2 hz2=>?_);subst e__)
 unfold iv
 repeat refine aW ?_
 refine bA (cs:=[.bool (B (-(n:Int) < 0)), .slice q2 (gr (-(n:Int)).natAbs).length c2]) (.inl rfl) rfl rfl aA rfl _ _ aG aF ⟨rfl,rfl⟩
theorem aEC {x:Int} (hx: -9223372036854775808≤x∧x≤9223372036854775807):CD Tryz.prog 71 [.int .i64 x] X w0 M0 I0 (fun v M I=>M0=M∧I=iB v x 63::I0):=by
 by_cases h:x < 0
 ·obtain ⟨n,rfl⟩:∃n:Nat,x= -(n:Int):=⟨x.natAbs,by omega⟩
  exact bAJ (by omega)
 ·exact Of_ok (by omega)
end
end Go.Proofs.YtgpkjcmipiodcaaGreat
namespace Go.Proofs.YtgpkjcmipiodcaaGreat
structure Qn where
 a:Int
 b:Int
 c:Int
 d:Int
deriving DecidableEq
instance Qn.inh:Inhabited Qn:=⟨⟨0,0,0,0⟩⟩
theorem Qn.ext4 {p q:Qn} (h1:p.a=q.a) (h2:p.b=q.b) (h3:p.c=q.c) (h4:p.d=q.d):p=q:=by
 cases p;cases q;simp only at*;subst h1;subst h2;subst h3;subst h4;rfl
def Qn.zero:Qn:=⟨0,0,0,0⟩
def Qn.one:Qn:=⟨1,0,0,0⟩
def Qn.mul (p q:Qn):Qn:=⟨p.a*q.a - p.b*q.b - p.c*q.c - p.d*q.d,p.a*q.b+p.b*q.a+p.c*q.d - p.d*q.c,p.a*q.c - p.b*q.d+p.c*q.a+p.d*q.b,p.a*q.d+p.b*q.c - p.c*q.b+p.d*q.a⟩
def Qn.cnj (q:Qn):Qn:=⟨q.a, -q.b, -q.c, -q.d⟩
def Qn.smul (s:Int) (q:Qn):Qn:=⟨s*q.a,s*q.b,s*q.c,s*q.d⟩
def Qn.nz (q:Qn):Prop:=q≠Qn.zero
def Qn.nrm (q:Qn):Int:=q.a*q.a+q.b*q.b+q.c*q.c+q.d*q.d
def Qn.rel (p q:Qn):Prop:=∃s t:Int,s≠0∧t≠0∧Qn.smul s p=Qn.smul t q
namespace Qn
theorem nz_iff {q:Qn}:q.nz↔¬(q.a=0∧q.b=0∧q.c=0∧q.d=0):=by
 constructor
 ·intro h ⟨h1,h2,h3,h4⟩;exact h (ext4 h1 h2 h3 h4)
 ·intro h e;subst e;exact h ⟨rfl,rfl,rfl,rfl⟩
theorem wV (s t:Int) (p:Qn):smul s (smul t p)=smul (s*t) p:=by apply ext4 <;>simp only [smul] <;>grind
theorem aUM (p:Qn):smul 1 p=p:=by apply ext4 <;>simp only [smul] <;>grind
theorem aNV (p q:Qn):nrm (mul p q)=nrm p*nrm q:=by simp only [mul,nrm];grind
theorem sq_nonneg (x:Int):0≤x*x:=by
 rcases Int.le_total 0 x with h|h
 ·exact Int.mul_nonneg h h
 ·have:=Int.mul_nonneg (show 0≤ -x by omega) (show 0≤ -x by omega);rwa [Int.neg_mul_neg] at this
theorem nrm_nz {q:Qn}:q.nz↔nrm q≠0:=by
 rw [nz_iff]
 have h1:=sq_nonneg q.a
 have h2:=sq_nonneg q.b
 have h3:=sq_nonneg q.c
 have h4:=sq_nonneg q.d
 constructor
 ·intro h e
  unfold nrm at e
  have z:∀x:Int,x*x=0→x=0:=fun x hx=>by rcases Int.mul_eq_zero.1 hx with h|h <;>exact h
  exact h ⟨z _ (by omega),z _ (by omega),z _ (by omega),z _ (by omega)⟩
 ·intro h e
  obtain ⟨e1,e2,e3,e4⟩:=e
  exact h (by unfold nrm;rw [e1,e2,e3,e4];rfl)
theorem nz_mul {p q:Qn} (hp:p.nz) (hq:q.nz):(mul p q).nz:=by
 rw [nrm_nz,aNV]
 exact Int.mul_ne_zero (nrm_nz.1 hp) (nrm_nz.1 hq)
theorem nz_smul {s:Int} {q:Qn} (hs:s≠0) (h:q.nz):(smul s q).nz:=by
 rw [nz_iff] at h ⊢
 rintro ⟨h1,h2,h3,h4⟩
 have z:∀x:Int,s*x=0→x=0:=fun x hx=>(Int.mul_eq_zero.1 hx).resolve_left hs
 exact h ⟨z _ h1,z _ h2,z _ h3,z _ h4⟩
theorem rel.symm {p q:Qn} (h:rel p q):rel q p:=by
 obtain ⟨s,t,hs,ht,e⟩:=h
 exact ⟨t,s,ht,hs,e.symm⟩
theorem rel.trans {p q r:Qn} (h:rel p q) (h2:rel q r):rel p r:=by
 obtain ⟨s,t,hs,ht,e⟩:=h
 obtain ⟨u,v,hu,hv,e2⟩:=h2
 refine ⟨u*s,t*v,Int.mul_ne_zero hu hs,Int.mul_ne_zero ht hv,?_⟩
 rw [←wV,e,wV,Int.mul_comm u t,←wV,e2,wV]
def agr (t f g:Qn):Prop:=rel (mul g t) f
/- the canonical quaternion -/
def g4 (q:Qn):Nat:=Nat.gcd (Nat.gcd (Nat.gcd q.a.natAbs q.b.natAbs) q.c.natAbs) q.d.natAbs
def lead (q:Qn):Int:=if q.a≠0 then q.a else if q.b≠0 then q.b else if q.c≠0 then q.c else q.d
def gs (q:Qn):Int:=if lead q < 0 then -(g4 q:Int) else (g4 q:Int)
def prm (q:Qn):Qn:=⟨q.a / gs q,q.b / gs q,q.c / gs q,q.d / gs q⟩
theorem aSH (q:Qn):(g4 q:Int) ∣ q.a∧(g4 q:Int) ∣ q.b∧(g4 q:Int) ∣ q.c∧(g4 q:Int) ∣ q.d:=by
 unfold g4
 refine ⟨?_,?_,?_,?_⟩ <;>rw [Int.ofNat_dvd_left]
 ·exact Nat.dvd_trans (Nat.dvd_trans (Nat.gcd_dvd_left _ _) (Nat.gcd_dvd_left _ _)) (Nat.gcd_dvd_left _ _)
 ·exact Nat.dvd_trans (Nat.dvd_trans (Nat.gcd_dvd_left _ _) (Nat.gcd_dvd_left _ _)) (Nat.gcd_dvd_right _ _)
 ·exact Nat.dvd_trans (Nat.gcd_dvd_left _ _) (Nat.gcd_dvd_right _ _)
 ·exact Nat.gcd_dvd_right _ _
theorem g4_nz {q:Qn} (h:q.nz):g4 q≠0:=by
 rw [nz_iff] at h
 intro e
 obtain ⟨h1,h2,h3,h4⟩:=aSH q
 rw [e] at h1 h2 h3 h4
 exact h ⟨Int.zero_dvd.1 h1,Int.zero_dvd.1 h2,Int.zero_dvd.1 h3,Int.zero_dvd.1 h4⟩
theorem aYE {q:Qn} (h:q.nz):lead q≠0:=by
 rw [nz_iff] at h
 unfold lead
 by_cases h1:q.a=0
 ·rw [if_neg (by omega)]
  by_cases h2:q.b=0
  ·rw [if_neg (by omega)]
   by_cases h3:q.c=0
   ·rw [if_neg (by omega)];omega
   ·rw [if_pos h3];exact h3
  ·rw [if_pos h2];exact h2
 ·rw [if_pos h1];exact h1
theorem gs_nz {q:Qn} (h:q.nz):gs q≠0:=by
 have:=g4_nz h
 unfold gs
 by_cases e:lead q < 0
 ·rw [if_pos e];omega
 ·rw [if_neg e];omega
theorem gs_dvd (q:Qn):gs q ∣ q.a∧gs q ∣ q.b∧gs q ∣ q.c∧gs q ∣ q.d:=by
 obtain ⟨h1,h2,h3,h4⟩:=aSH q
 unfold gs
 by_cases e:lead q < 0
 ·rw [if_pos e];exact ⟨Int.neg_dvd.2 h1,Int.neg_dvd.2 h2,Int.neg_dvd.2 h3,Int.neg_dvd.2 h4⟩
 ·rw [if_neg e];exact ⟨h1,h2,h3,h4⟩
theorem gs_prm (q:Qn):smul (gs q) (prm q)=q:=by
 obtain ⟨h1,h2,h3,h4⟩:=gs_dvd q
 exact ext4 (Int.mul_ediv_cancel' h1) (Int.mul_ediv_cancel' h2) (Int.mul_ediv_cancel' h3) (Int.mul_ediv_cancel' h4)
theorem aNP {q:Qn} (h:q.nz):rel (prm q) q:=⟨gs q,1,gs_nz h,by decide,by rw [gs_prm,aUM]⟩
theorem prm_nz {q:Qn} (h:q.nz):(prm q).nz:=by
 intro e
 have:=gs_prm q
 rw [e] at this
 exact h (by rw [←this];simp [smul,zero])
theorem aXG (s:Int) (q:Qn):g4 (smul s q)=s.natAbs*g4 q:=by
 unfold g4 smul
 simp only [Int.natAbs_mul,Nat.gcd_mul_left]
theorem aQZ {s:Int} (q:Qn) (hs:s≠0):lead (smul s q)=s*lead q:=by
 have z:∀x:Int,s*x≠0↔x≠0:=fun x=>⟨fun h e=>h (by rw [e,Int.mul_zero]),fun h=>Int.mul_ne_zero hs h⟩
 unfold lead smul
 simp only [z]
 by_cases h1:q.a≠0
 ·rw [if_pos h1,if_pos h1]
 ·rw [if_neg h1,if_neg h1]
  by_cases h2:q.b≠0
  ·rw [if_pos h2,if_pos h2]
  ·rw [if_neg h2,if_neg h2]
   by_cases h3:q.c≠0
   ·rw [if_pos h3,if_pos h3]
   ·rw [if_neg h3,if_neg h3]
theorem aXN {s:Int} {q:Qn} (hs:s≠0) (h:q.nz):gs (smul s q)=s*gs q:=by
 have hl:=aYE h
 unfold gs
 rw [aQZ q hs,aXG,Int.natCast_mul]
 rcases Int.lt_or_gt_of_ne hs with h1|h1 <;>rcases Int.lt_or_gt_of_ne hl with h2|h2
 ·rw [if_neg (by have:=Int.mul_pos_of_neg_of_neg h1 h2;omega),if_pos h2,show ((s.natAbs:Nat):Int)= -s by omega];grind
 ·rw [if_pos (Int.mul_neg_of_neg_of_pos h1 h2),if_neg (by omega),show ((s.natAbs:Nat):Int)= -s by omega];grind
 ·rw [if_pos (Int.mul_neg_of_pos_of_neg h1 h2),if_pos h2,show ((s.natAbs:Nat):Int)=s by omega];grind
 ·rw [if_neg (by have:=Int.mul_pos h1 h2;omega),if_neg (by omega),show ((s.natAbs:Nat):Int)=s by omega]
theorem aIV {s:Int} {q:Qn} (hs:s≠0) (h:q.nz):prm (smul s q)=prm q:=by
 have e:=aXN hs h
 have hg:=gs_nz h
 have z:∀x:Int,gs q ∣ x→s*x / gs (smul s q)=x / gs q:=fun x hx=>by
  rw [e]
  obtain ⟨y,rfl⟩:=hx
  rw [Int.mul_ediv_cancel_left _ hg,←Int.mul_assoc,Int.mul_ediv_cancel_left _ (Int.mul_ne_zero hs hg)]
 obtain ⟨h1,h2,h3,h4⟩:=gs_dvd q
 exact ext4 (z _ h1) (z _ h2) (z _ h3) (z _ h4)
theorem prm_iff {p q:Qn} (hp:p.nz) (hq:q.nz):prm p=prm q↔rel p q:=by
 constructor
 ·intro h
  have:=(aNP hp).symm
  rw [h] at this
  exact this.trans (aNP hq)
 ·rintro ⟨s,t,hs,ht,e⟩
  rw [←aIV hs hp,e,aIV ht hq]
end Qn
end Go.Proofs.YtgpkjcmipiodcaaGreat
namespace Go.Fx
open Go
section
variable {P:Program} {n:Nat} {G:Env} {C:World→Prop} {ty:TypeId}
theorem rF {t e:TypeId} {sz len:Nat} {x ix:Operand} {cs:List Value} {v:Value} {k:IntKind} {i:Int} [ht:ArrTy P t len e sz] [he:ScalarTy P e] (hx:ev G x=some (.agg cs.toArray)) (hi:ev G ix=some (.int k i)) (h:0≤i∧i < len)
  (hs:sz=1) (hv:cs[i.toNat]?=some v):Const P n G (.index t x ix) ty C v:=by
 subst hs
 refine ⟨?_⟩
 intro st ha dst pos after guard w _
 have hu:=ht.und
 simp [execOp,Instr.index,ha.ev hx,ha.ev hi,asIntOf,dM hu,h.1,h.2,part,kZ,run_sizeOf ht.size,hv]
end
end Go.Fx

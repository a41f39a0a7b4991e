/- Quotients rounded down, fractions in lowest terms, division group by group from below. -/
import Derived.Test.YtmmmfphealhapaaGreatZtad
import Derived.Test.YtmmmfphealhapaaGreatProg
import Derived.Test.YtmmmfphealhapaaGreatZtab
import Derived.KernelRfl
set_option linter.unusedSimpArgs false
set_option linter.unusedVariables false
set_option maxRecDepth 100000
set_option maxHeartbeats 4000000
namespace Go.Proofs.YtmmmfphealhapaaGreat
open Go Go.Fx
theorem pO {y z q r:Int} (h:y=z*q+r) (hr:(0≤r∧r < z)∨(z < r∧r≤0)):y.fdiv z=q∧y.fmod z=r:=by
 have pos:∀{y z q r:Int},y=z*q+r→0≤r→r < z→y.fdiv z=q∧y.fmod z=r:=by
  intro y z q r h h0 h1
  have:=(Int.ediv_emod_unique (a:=y) (b:=z) (r:=r) (q:=q) (by omega)).2 ⟨by omega,h0,h1⟩
  rw [Int.fdiv_eq_ediv_of_nonneg _ (by omega),Int.fmod_eq_emod_of_nonneg _ (by omega)]
  exact this
 rcases hr with ⟨h0,h1⟩|⟨h0,h1⟩
 ·exact pos h h0 h1
 ·have h2:=pos (y:= -y) (z:= -z) (q:=q) (r:= -r) (by rw [Int.neg_mul];omega) (by omega) (by omega)
  rw [Int.neg_fdiv_neg,Int.neg_fmod_neg] at h2
  exact ⟨h2.1,by omega⟩
theorem aAW {y z:Int} (hz:z≠0):
  (¬(y < 0↔z < 0)→y.natAbs % z.natAbs≠0→y.fdiv z= -((y.natAbs / z.natAbs+1:Nat):Int)∧y.fmod z=if z < 0 then -((z.natAbs - y.natAbs % z.natAbs:Nat):Int) else ((z.natAbs - y.natAbs % z.natAbs:Nat):Int))∧
  (((y < 0↔z < 0)∨y.natAbs % z.natAbs=0)→y.fdiv z=(if ¬(y < 0↔z < 0) then -((y.natAbs / z.natAbs:Nat):Int) else ((y.natAbs / z.natAbs:Nat):Int))∧y.fmod z=if z < 0 then -((y.natAbs % z.natAbs:Nat):Int) else ((y.natAbs % z.natAbs:Nat):Int)):=by
 have hlt:=Nat.mod_lt y.natAbs (show z.natAbs>0 by omega)
 have hab:(y.natAbs:Int)=(z.natAbs:Int)*((y.natAbs / z.natAbs:Nat):Int)+((y.natAbs % z.natAbs:Nat):Int):=by
  rw [←Int.natCast_mul,←Int.natCast_add,Nat.div_add_mod]
 generalize hQ:y.natAbs / z.natAbs=Q at*
 generalize hR:y.natAbs % z.natAbs=R at*
 generalize hb:z.natAbs=b at*
 generalize hp:(b:Int)*(Q:Int)=p at*
 constructor
 ·intro hs hR0
  by_cases hz0:z < 0
  ·have hy:¬y < 0:=fun h=>hs ⟨fun _=>hz0,fun _=>h⟩
   have e:z= -(b:Int):=by omega
   rw [if_pos hz0]
   refine pO ?_ (.inr ⟨by omega,by omega⟩)
   rw [e,Int.neg_mul,Int.mul_neg,Int.neg_neg,Int.natCast_add,Int.mul_add,hp];omega
  ·have hy:y < 0:=by rcases Classical.em (y < 0) with h|h;exact h;exact absurd ⟨fun h'=>absurd h' h,fun h'=>absurd h' hz0⟩ hs
   have e:z=(b:Int):=by omega
   rw [if_neg hz0]
   refine pO ?_ (.inl ⟨by omega,by omega⟩)
   rw [e,Int.mul_neg,Int.natCast_add,Int.mul_add,hp];omega
 ·intro hs
  by_cases hd:(y < 0↔z < 0)
  ·rw [if_neg (fun h=>h hd)]
   by_cases hz0:z < 0
   ·have hy:=hd.2 hz0
    have e:z= -(b:Int):=by omega
    rw [if_pos hz0]
    refine pO ?_ (.inr ⟨by omega,by omega⟩)
    rw [e,Int.neg_mul,hp];omega
   ·have hy:¬y < 0:=fun h=>hz0 (hd.1 h)
    have e:z=(b:Int):=by omega
    rw [if_neg hz0]
    refine pO ?_ (.inl ⟨by omega,by omega⟩)
    rw [e,hp];omega
  ·have hR0:=hs.resolve_left hd
   rw [if_pos hd]
   by_cases hz0:z < 0
   ·have hy:¬y < 0:=fun h=>hd ⟨fun _=>hz0,fun _=>h⟩
    have e:z= -(b:Int):=by omega
    rw [if_pos hz0]
    refine pO ?_ (.inr ⟨by omega,by omega⟩)
    rw [e,Int.neg_mul,Int.mul_neg,Int.neg_neg,hp];omega
   ·have hy:y < 0:=by rcases Classical.em (y < 0) with h|h;exact h;exact absurd ⟨fun h'=>absurd h' h,fun h'=>absurd h' hz0⟩ hd
    have e:z=(b:Int):=by omega
    rw [if_neg hz0]
    refine pO ?_ (.inl ⟨by omega,by omega⟩)
    rw [e,Int.mul_neg,hp];omega
theorem yK {n d:Int} (hd:d≠0):∃m:Int,m≠0∧n=(Rat.divInt n d).num*m∧d=(Rat.divInt n d).den*m∧(Int.gcd n d:Int)=(m.natAbs:Int)∧(m < 0↔d < 0):=by
 obtain ⟨m,hm,h1,h2⟩:=Rat.divInt_num_den (n:=n) (d:=d) (n':=(Rat.divInt n d).num) (d':=(Rat.divInt n d).den) (z':=(Rat.divInt n d).den_nz) (c:=(Rat.divInt n d).reduced) hd rfl
 refine ⟨m,hm,h1,h2,?_,?_⟩
 ·have hc:=(Rat.divInt n d).reduced
  have key:∀(a:Int) (b:Nat),Nat.gcd a.natAbs b=1→Int.gcd (a*m) ((b:Int)*m)=m.natAbs:=by
   intro a b h
   rw [Int.gcd_eq_natAbs_gcd_natAbs,Int.natAbs_mul,Int.natAbs_mul,Int.natAbs_natCast,Nat.gcd_mul_right,h,Nat.one_mul]
  have h3:=key _ _ hc
  rw [←h1,←h2] at h3
  have this:=h3
  rw [this]
 ·have hp:(0:Int) < (Rat.divInt n d).den:=by have:=(Rat.divInt n d).den_nz;omega
  constructor
  ·intro h;rw [h2];exact Int.mul_neg_of_pos_of_neg hp h
  ·intro h
   rcases Int.lt_trichotomy m 0 with h'|h'|h'
   ·exact h'
   ·exact absurd h' hm
   ·have:=Int.mul_pos hp h';omega
theorem aKF {q m:Int} (hm:m≠0):(q*m).fdiv m=q:=by
 refine (pO (y:=q*m) (z:=m) (q:=q) (r:=0) (by rw [Int.mul_comm];omega) ?_).1
 omega
theorem aPZ {n d g:Int} (hd:d≠0) (hg:g=if d < 0 then -(Int.gcd n d:Int) else (Int.gcd n d:Int)):n.fdiv g=(Rat.divInt n d).num∧d.fdiv g=((Rat.divInt n d).den:Int)∧g≠0:=by
 obtain ⟨m,hm,h1,h2,h3,h4⟩:=yK (n:=n) hd
 have e:g=m:=by
  rw [hg,h3]
  by_cases h:d < 0
  ·rw [if_pos h];have:=h4.2 h;omega
  ·rw [if_neg h];have:¬m < 0:=fun h'=>h (h4.1 h');omega
 rw [e]
 refine ⟨?_,?_,hm⟩
 ·exact (congrArg (fun x=>Int.fdiv x m) h1).trans (aKF hm)
 ·exact (congrArg (fun x=>Int.fdiv x m) h2).trans (aKF hm)
theorem aDQ {n d:Int}:Rat.divInt (-n) (-d)=Rat.divInt n d:=Rat.neg_divInt_neg n d
theorem aPT (q:Rat):Int.gcd q.num q.den=1:=by
 rw [Int.gcd_eq_natAbs_gcd_natAbs,Int.natAbs_natCast]
 exact q.reduced
theorem bFP (p q:Rat):p < q↔p.num*q.den < q.num*p.den:=Rat.lt_iff p q
theorem bEV (p q:Rat):p=q↔p.num*q.den=q.num*p.den:=by
 constructor
 ·rintro rfl;rfl
 ·intro h
  rw [←Rat.num_divInt_den p,←Rat.num_divInt_den q]
  refine (Rat.divInt_eq_divInt_iff (by have:=p.den_nz;omega) (by have:=q.den_nz;omega)).2 h
theorem aTS {R b g top low P b1 bl:Nat} (hR:R=top*P+low) (hb:b=b1*P+bl) (hl:low < P) (hbl:bl < P) (hg:g=top / (b1+1)):g*b≤R:=by
 have h1:g*(b1+1)≤top:=by rw [hg];exact Nat.div_mul_le_self _ _
 have h2:b≤(b1+1)*P:=by rw [hb,Nat.add_mul];omega
 have h3:g*b≤g*((b1+1)*P):=Nat.mul_le_mul_left _ h2
 have h4:g*((b1+1)*P)≤top*P:=by rw [←Nat.mul_assoc];exact Nat.mul_le_mul_right _ h1
 omega
instance:IntTy Tryz.prog 2 .i64:=⟨Tryz.underlying2⟩
instance:ScalarTy Tryz.prog 3:=⟨⟨_,Tryz.underlying3,(by intro _ h;cases h),(by intro _ _ h;cases h)⟩,by kernel_rfl⟩
instance:IntTy Tryz.prog 3 .i64:=⟨Tryz.underlying3⟩
instance:ElemTy Tryz.prog 3 1 8 [.int .i64 0]:=⟨by kernel_rfl,rfl⟩
instance:ScalarTy Tryz.prog 4:=⟨⟨_,Tryz.underlying4,(by intro _ h;cases h),(by intro _ _ h;cases h)⟩,by kernel_rfl⟩
instance:BoolTy Tryz.prog 4:=⟨Tryz.underlying4⟩
instance:IntTy Tryz.prog 5 .u8:=⟨Tryz.underlying5⟩
instance:StrTy Tryz.prog 9:=⟨Tryz.underlying9⟩
instance:ScalarTy Tryz.prog 22:=⟨⟨_,Tryz.underlying22,(by intro _ h;cases h),(by intro _ _ h;cases h)⟩,by kernel_rfl⟩
instance:SliceTy Tryz.prog 22 30 4:=⟨Tryz.underlying22,by kernel_rfl⟩
instance:AggTy Tryz.prog 28 2:=⟨.inl ⟨_,Tryz.underlying28⟩,by kernel_rfl⟩
instance:StructTy Tryz.prog 28 [(0,1),(1,1)] [.int .i64 0, .int .i64 0]:=⟨⟨_,Tryz.underlying28,by kernel_rfl⟩,by kernel_rfl⟩
instance:FieldAt Tryz.prog 28 0 0 3 1:=⟨⟨_,_,Tryz.underlying28,rfl,rfl,rfl⟩,by kernel_rfl⟩
instance:FieldAt Tryz.prog 28 1 1 3 1:=⟨⟨_,_,Tryz.underlying28,rfl,rfl,rfl⟩,by kernel_rfl⟩
instance:IntStruct Tryz.prog 28 2:=⟨by kernel_rfl,by kernel_rfl,by kernel_rfl,by kernel_rfl⟩
instance:ElemTy Tryz.prog 28 2 16 [.int .i64 0, .int .i64 0]:=⟨by kernel_rfl,rfl⟩
instance:AggTy Tryz.prog 30 4:=⟨.inl ⟨_,Tryz.underlying30⟩,by kernel_rfl⟩
instance:StructTy Tryz.prog 30 [(0,2),(2,2)] [.int .i64 0, .int .i64 0, .int .i64 0, .int .i64 0]:=⟨⟨_,Tryz.underlying30,by kernel_rfl⟩,by kernel_rfl⟩
instance:FieldAt Tryz.prog 30 0 0 28 2:=⟨⟨_,_,Tryz.underlying30,rfl,rfl,rfl⟩,by kernel_rfl⟩
instance:FieldAt Tryz.prog 30 1 2 28 2:=⟨⟨_,_,Tryz.underlying30,rfl,rfl,rfl⟩,by kernel_rfl⟩
instance:ElemTy Tryz.prog 30 4 32 [.int .i64 0, .int .i64 0, .int .i64 0, .int .i64 0]:=⟨by kernel_rfl,rfl⟩
instance:ScalarTy Tryz.prog 31:=⟨⟨_,Tryz.underlying31,(by intro _ h;cases h),(by intro _ _ h;cases h)⟩,by kernel_rfl⟩
instance:SliceTy Tryz.prog 31 3 1:=⟨Tryz.underlying31,by kernel_rfl⟩
instance:ElemTy Tryz.prog 31 1 24 [.slice none 0 0]:=⟨by kernel_rfl,rfl⟩
instance:ScalarTy Tryz.prog 32:=⟨⟨_,Tryz.underlying32,(by intro _ h;cases h),(by intro _ _ h;cases h)⟩,by kernel_rfl⟩
instance:SliceTy Tryz.prog 33 70 1:=⟨Tryz.underlying33,by kernel_rfl⟩
instance:ScalarTy Tryz.prog 34:=⟨⟨_,Tryz.underlying34,(by intro _ h;cases h),(by intro _ _ h;cases h)⟩,by kernel_rfl⟩
instance:SliceTy Tryz.prog 34 70 1:=⟨Tryz.underlying34,by kernel_rfl⟩
instance:ElemTy Tryz.prog 34 1 24 [.slice none 0 0]:=⟨by kernel_rfl,rfl⟩
instance:AggTy Tryz.prog 36 4:=⟨.inl ⟨_,Tryz.underlying36⟩,by kernel_rfl⟩
instance:StructTy Tryz.prog 36 [(0,1),(1,1),(2,1),(3,1)] [.int .i64 0, .slice none 0 0, .slice none 0 0, .slice none 0 0]:=⟨⟨_,Tryz.underlying36,by kernel_rfl⟩,by kernel_rfl⟩
instance:FieldAt Tryz.prog 36 0 0 32 1:=⟨⟨_,_,Tryz.underlying36,rfl,rfl,rfl⟩,by kernel_rfl⟩
instance:FieldAt Tryz.prog 36 1 1 31 1:=⟨⟨_,_,Tryz.underlying36,rfl,rfl,rfl⟩,by kernel_rfl⟩
instance:FieldAt Tryz.prog 36 2 2 31 1:=⟨⟨_,_,Tryz.underlying36,rfl,rfl,rfl⟩,by kernel_rfl⟩
instance:FieldAt Tryz.prog 36 3 3 34 1:=⟨⟨_,_,Tryz.underlying36,rfl,rfl,rfl⟩,by kernel_rfl⟩
instance:ElemTy Tryz.prog 36 4 80 [.int .i64 0, .slice none 0 0, .slice none 0 0, .slice none 0 0]:=⟨by kernel_rfl,rfl⟩
instance:AggTy Tryz.prog 39 16:=⟨.inr ⟨_,_,Tryz.underlying39⟩,by kernel_rfl⟩
instance:ArrTy Tryz.prog 39 4 30 4:=⟨Tryz.underlying39,by kernel_rfl⟩
instance:ScalarTy Tryz.prog 40:=⟨⟨_,Tryz.underlying40,(by intro _ h;cases h),(by intro _ _ h;cases h)⟩,by kernel_rfl⟩
instance:SliceTy Tryz.prog 40 121 1:=⟨Tryz.underlying40,by kernel_rfl⟩
instance:AggTy Tryz.prog 42 2:=⟨.inl ⟨_,Tryz.underlying42⟩,by kernel_rfl⟩
instance:StructTy Tryz.prog 42 [(0,1),(1,1)] [.bool false, .slice none 0 0]:=⟨⟨_,Tryz.underlying42,by kernel_rfl⟩,by kernel_rfl⟩
instance:FieldAt Tryz.prog 42 0 0 4 1:=⟨⟨_,_,Tryz.underlying42,rfl,rfl,rfl⟩,by kernel_rfl⟩
instance:FieldAt Tryz.prog 42 1 1 40 1:=⟨⟨_,_,Tryz.underlying42,rfl,rfl,rfl⟩,by kernel_rfl⟩
instance:ElemTy Tryz.prog 42 2 32 [.bool false, .slice none 0 0]:=⟨by kernel_rfl,rfl⟩
instance:AggTy Tryz.prog 44 18:=⟨.inr ⟨_,_,Tryz.underlying44⟩,by kernel_rfl⟩
instance:ArrTy Tryz.prog 44 9 42 2:=⟨Tryz.underlying44,by kernel_rfl⟩
instance:ElemTy Tryz.prog 44 18 288 [.bool false, .slice none 0 0, .bool false, .slice none 0 0, .bool false, .slice none 0 0, .bool false, .slice none 0 0, .bool false, .slice none 0 0, .bool false, .slice none 0 0, .bool false, .slice none 0 0, .bool false, .slice none 0 0, .bool false, .slice none 0 0]:=⟨by kernel_rfl,rfl⟩
instance:FieldAt Tryz.prog 66 0 0 32 1:=⟨⟨_,_,Tryz.underlying66,rfl,rfl,rfl⟩,by kernel_rfl⟩
instance:FieldAt Tryz.prog 66 1 1 3 1:=⟨⟨_,_,Tryz.underlying66,rfl,rfl,rfl⟩,by kernel_rfl⟩
instance:ScalarTy Tryz.prog 70:=⟨⟨_,Tryz.underlying70,(by intro _ h;cases h),(by intro _ _ h;cases h)⟩,by kernel_rfl⟩
instance:SliceTy Tryz.prog 70 77 4:=⟨Tryz.underlying70,by kernel_rfl⟩
instance:ElemTy Tryz.prog 70 1 24 [.slice none 0 0]:=⟨by kernel_rfl,rfl⟩
instance:AggTy Tryz.prog 77 4:=⟨.inl ⟨_,Tryz.underlying77⟩,by kernel_rfl⟩
instance:StructTy Tryz.prog 77 [(0,2),(2,2)] [.bool false, .slice none 0 0, .bool false, .slice none 0 0]:=⟨⟨_,Tryz.underlying77,by kernel_rfl⟩,by kernel_rfl⟩
instance:FieldAt Tryz.prog 77 0 0 42 2:=⟨⟨_,_,Tryz.underlying77,rfl,rfl,rfl⟩,by kernel_rfl⟩
instance:FieldAt Tryz.prog 77 1 2 42 2:=⟨⟨_,_,Tryz.underlying77,rfl,rfl,rfl⟩,by kernel_rfl⟩
instance:ElemTy Tryz.prog 77 4 64 [.bool false, .slice none 0 0, .bool false, .slice none 0 0]:=⟨by kernel_rfl,rfl⟩
instance:ScalarTy Tryz.prog 98:=⟨⟨_,Tryz.underlying98,(by intro _ h;cases h),(by intro _ _ h;cases h)⟩,by kernel_rfl⟩
instance:AggTy Tryz.prog 100 6:=⟨.inr ⟨_,_,Tryz.underlying100⟩,by kernel_rfl⟩
instance:ArrTy Tryz.prog 100 3 42 2:=⟨Tryz.underlying100,by kernel_rfl⟩
instance:ElemTy Tryz.prog 100 6 96 [.bool false, .slice none 0 0, .bool false, .slice none 0 0, .bool false, .slice none 0 0]:=⟨by kernel_rfl,rfl⟩
instance:AggTy Tryz.prog 101 24:=⟨.inr ⟨_,_,Tryz.underlying101⟩,by kernel_rfl⟩
instance:ArrTy Tryz.prog 101 4 100 6:=⟨Tryz.underlying101,by kernel_rfl⟩
instance:ElemTy Tryz.prog 101 24 384 [.bool false, .slice none 0 0, .bool false, .slice none 0 0, .bool false, .slice none 0 0, .bool false, .slice none 0 0, .bool false, .slice none 0 0, .bool false, .slice none 0 0, .bool false, .slice none 0 0, .bool false, .slice none 0 0, .bool false, .slice none 0 0, .bool false, .slice none 0 0, .bool false, .slice none 0 0, .bool false, .slice none 0 0]:=⟨by kernel_rfl,rfl⟩
instance:ScalarTy Tryz.prog 121:=⟨⟨_,Tryz.underlying121,(by intro _ h;cases h),(by intro _ _ h;cases h)⟩,by kernel_rfl⟩
instance:IntTy Tryz.prog 121 .u32:=⟨Tryz.underlying121⟩
instance:ElemTy Tryz.prog 121 1 4 [.int .u32 0]:=⟨by kernel_rfl,rfl⟩
instance:ScalarTy Tryz.prog 156:=⟨⟨_,Tryz.underlying156,(by intro _ h;cases h),(by intro _ _ h;cases h)⟩,by kernel_rfl⟩
instance:ElemTy Tryz.prog 156 1 8 [.nilFunc]:=⟨by kernel_rfl,rfl⟩
instance:SliceTy Tryz.prog 159 42 2:=⟨Tryz.underlying159,by kernel_rfl⟩
instance:AggTy Tryz.prog 163 8:=⟨.inr ⟨_,_,Tryz.underlying163⟩,by kernel_rfl⟩
instance:ArrTy Tryz.prog 163 4 42 2:=⟨Tryz.underlying163,by kernel_rfl⟩
instance:ElemTy Tryz.prog 163 8 128 [.bool false, .slice none 0 0, .bool false, .slice none 0 0, .bool false, .slice none 0 0, .bool false, .slice none 0 0]:=⟨by kernel_rfl,rfl⟩
instance:ArrTy Tryz.prog 164 3 100 6:=⟨Tryz.underlying164,by kernel_rfl⟩
instance:ElemTy Tryz.prog 164 18 288 [.bool false, .slice none 0 0, .bool false, .slice none 0 0, .bool false, .slice none 0 0, .bool false, .slice none 0 0, .bool false, .slice none 0 0, .bool false, .slice none 0 0, .bool false, .slice none 0 0, .bool false, .slice none 0 0, .bool false, .slice none 0 0]:=⟨by kernel_rfl,rfl⟩
instance:StructTy Tryz.prog 172 [(0,4),(4,4)] [.bool false, .slice none 0 0, .bool false, .slice none 0 0, .bool false, .slice none 0 0, .bool false, .slice none 0 0]:=⟨⟨_,Tryz.underlying172,by kernel_rfl⟩,by kernel_rfl⟩
instance:FieldAt Tryz.prog 172 0 0 77 4:=⟨⟨_,_,Tryz.underlying172,rfl,rfl,rfl⟩,by kernel_rfl⟩
instance:FieldAt Tryz.prog 172 1 4 77 4:=⟨⟨_,_,Tryz.underlying172,rfl,rfl,rfl⟩,by kernel_rfl⟩
instance:ScalarTy Tryz.prog 176:=⟨⟨_,Tryz.underlying176,(by intro _ h;cases h),(by intro _ _ h;cases h)⟩,by kernel_rfl⟩
instance:IntTy Tryz.prog 176 .u64:=⟨Tryz.underlying176⟩
instance:AggTy Tryz.prog 192 8:=⟨.inr ⟨_,_,Tryz.underlying192⟩,by kernel_rfl⟩
instance:ArrTy Tryz.prog 192 4 28 2:=⟨Tryz.underlying192,by kernel_rfl⟩
instance:ElemTy Tryz.prog 192 8 64 [.int .i64 0, .int .i64 0, .int .i64 0, .int .i64 0, .int .i64 0, .int .i64 0, .int .i64 0, .int .i64 0]:=⟨by kernel_rfl,rfl⟩
instance:SliceTy Tryz.prog 193 31 1:=⟨Tryz.underlying193,by kernel_rfl⟩
instance:AggTy Tryz.prog 196 2:=⟨.inr ⟨_,_,Tryz.underlying196⟩,by kernel_rfl⟩
instance:ArrTy Tryz.prog 196 2 31 1:=⟨Tryz.underlying196,by kernel_rfl⟩
instance:ElemTy Tryz.prog 196 2 48 [.slice none 0 0, .slice none 0 0]:=⟨by kernel_rfl,rfl⟩
instance:AggTy Tryz.prog 197 2:=⟨.inr ⟨_,_,Tryz.underlying197⟩,by kernel_rfl⟩
instance:ArrTy Tryz.prog 197 2 3 1:=⟨Tryz.underlying197,by kernel_rfl⟩
instance:ElemTy Tryz.prog 197 2 16 [.int .i64 0, .int .i64 0]:=⟨by kernel_rfl,rfl⟩
instance:ScalarTy Tryz.prog 206:=⟨⟨_,Tryz.underlying206,(by intro _ h;cases h),(by intro _ _ h;cases h)⟩,by kernel_rfl⟩
instance:ElemTy Tryz.prog 206 1 8 [.nilFunc]:=⟨by kernel_rfl,rfl⟩
instance:ArrTy Tryz.prog 261 3 77 4:=⟨Tryz.underlying261,by kernel_rfl⟩
instance:ElemTy Tryz.prog 261 12 192 [.bool false, .slice none 0 0, .bool false, .slice none 0 0, .bool false, .slice none 0 0, .bool false, .slice none 0 0, .bool false, .slice none 0 0, .bool false, .slice none 0 0]:=⟨by kernel_rfl,rfl⟩
instance:IntTy Tryz.prog 271 .u64:=⟨Tryz.underlying271⟩
instance:SliceTy Tryz.prog 273 28 2:=⟨Tryz.underlying273,by kernel_rfl⟩
instance:FnOk Tryz.prog 5:=⟨_,Tryz.func5,by kernel_rfl,by kernel_rfl⟩
instance:FnOk Tryz.prog 8:=⟨_,Tryz.func8,by kernel_rfl,by kernel_rfl⟩
instance:FnOk Tryz.prog 9:=⟨_,Tryz.func9,by kernel_rfl,by kernel_rfl⟩
instance:FnOk Tryz.prog 10:=⟨_,Tryz.func10,by kernel_rfl,by kernel_rfl⟩
instance:FnOk Tryz.prog 14:=⟨_,Tryz.func14,by kernel_rfl,by kernel_rfl⟩
instance:FnOk Tryz.prog 15:=⟨_,Tryz.func15,by kernel_rfl,by kernel_rfl⟩
instance:FnOk Tryz.prog 16:=⟨_,Tryz.func16,by kernel_rfl,by kernel_rfl⟩
instance:FnOk Tryz.prog 17:=⟨_,Tryz.func17,by kernel_rfl,by kernel_rfl⟩
instance:FnOk Tryz.prog 18:=⟨_,Tryz.func18,by kernel_rfl,by kernel_rfl⟩
instance:FnOk Tryz.prog 19:=⟨_,Tryz.func19,by kernel_rfl,by kernel_rfl⟩
instance:FnOk Tryz.prog 21:=⟨_,Tryz.func21,by kernel_rfl,by kernel_rfl⟩
instance:FnOk Tryz.prog 23:=⟨_,Tryz.func23,by kernel_rfl,by kernel_rfl⟩
instance:FnOk Tryz.prog 24:=⟨_,Tryz.func24,by kernel_rfl,by kernel_rfl⟩
instance:FnOk Tryz.prog 25:=⟨_,Tryz.func25,by kernel_rfl,by kernel_rfl⟩
instance:FnOk Tryz.prog 29:=⟨_,Tryz.func29,by kernel_rfl,by kernel_rfl⟩
instance:FnOk Tryz.prog 33:=⟨_,Tryz.func33,by kernel_rfl,by kernel_rfl⟩
instance:FnOk Tryz.prog 34:=⟨_,Tryz.func34,by kernel_rfl,by kernel_rfl⟩
instance:FnOk Tryz.prog 37:=⟨_,Tryz.func37,by kernel_rfl,by kernel_rfl⟩
instance:FnOk Tryz.prog 38:=⟨_,Tryz.func38,by kernel_rfl,by kernel_rfl⟩
instance:FnOk Tryz.prog 39:=⟨_,Tryz.func39,by kernel_rfl,by kernel_rfl⟩
instance:FnOk Tryz.prog 40:=⟨_,Tryz.func40,by kernel_rfl,by kernel_rfl⟩
instance:FnOk Tryz.prog 41:=⟨_,Tryz.func41,by kernel_rfl,by kernel_rfl⟩
instance:FnOk Tryz.prog 42:=⟨_,Tryz.func42,by kernel_rfl,by kernel_rfl⟩
instance:FnOk Tryz.prog 43:=⟨_,Tryz.func43,by kernel_rfl,by kernel_rfl⟩
instance:FnOk Tryz.prog 44:=⟨_,Tryz.func44,by kernel_rfl,by kernel_rfl⟩
instance:FnOk Tryz.prog 45:=⟨_,Tryz.func45,by kernel_rfl,by kernel_rfl⟩
instance:FnOk Tryz.prog 46:=⟨_,Tryz.func46,by kernel_rfl,by kernel_rfl⟩
instance:FnOk Tryz.prog 47:=⟨_,Tryz.func47,by kernel_rfl,by kernel_rfl⟩
instance:FnOk Tryz.prog 48:=⟨_,Tryz.func48,by kernel_rfl,by kernel_rfl⟩
instance:FnOk Tryz.prog 49:=⟨_,Tryz.func49,by kernel_rfl,by kernel_rfl⟩
instance:FnOk Tryz.prog 50:=⟨_,Tryz.func50,by kernel_rfl,by kernel_rfl⟩
instance:FnOk Tryz.prog 51:=⟨_,Tryz.func51,by kernel_rfl,by kernel_rfl⟩
instance:FnOk Tryz.prog 52:=⟨_,Tryz.func52,by kernel_rfl,by kernel_rfl⟩
instance:FnOk Tryz.prog 53:=⟨_,Tryz.func53,by kernel_rfl,by kernel_rfl⟩
instance:FnOk Tryz.prog 54:=⟨_,Tryz.func54,by kernel_rfl,by kernel_rfl⟩
instance:FnOk Tryz.prog 56:=⟨_,Tryz.func56,by kernel_rfl,by kernel_rfl⟩
instance:FnOk Tryz.prog 57:=⟨_,Tryz.func57,by kernel_rfl,by kernel_rfl⟩
instance:FnOk Tryz.prog 58:=⟨_,Tryz.func58,by kernel_rfl,by kernel_rfl⟩
instance:FnOk Tryz.prog 59:=⟨_,Tryz.func59,by kernel_rfl,by kernel_rfl⟩
instance:FnOk Tryz.prog 60:=⟨_,Tryz.func60,by kernel_rfl,by kernel_rfl⟩
instance:FnOk Tryz.prog 61:=⟨_,Tryz.func61,by kernel_rfl,by kernel_rfl⟩
instance:FnOk Tryz.prog 62:=⟨_,Tryz.func62,by kernel_rfl,by kernel_rfl⟩
instance:FnOk Tryz.prog 63:=⟨_,Tryz.func63,by kernel_rfl,by kernel_rfl⟩
instance:FnOk Tryz.prog 65:=⟨_,Tryz.func65,by kernel_rfl,by kernel_rfl⟩
instance:FnOk Tryz.prog 66:=⟨_,Tryz.func66,by kernel_rfl,by kernel_rfl⟩
instance:FnOk Tryz.prog 68:=⟨_,Tryz.func68,by kernel_rfl,by kernel_rfl⟩
instance:FnOk Tryz.prog 69:=⟨_,Tryz.func69,by kernel_rfl,by kernel_rfl⟩
instance:FnOk Tryz.prog 70:=⟨_,Tryz.func70,by kernel_rfl,by kernel_rfl⟩
instance:FnOk Tryz.prog 71:=⟨_,Tryz.func71,by kernel_rfl,by kernel_rfl⟩
instance:FnOk Tryz.prog 72:=⟨_,Tryz.func72,by kernel_rfl,by kernel_rfl⟩
instance:FnOk Tryz.prog 73:=⟨_,Tryz.func73,by kernel_rfl,by kernel_rfl⟩
instance:FnOk Tryz.prog 74:=⟨_,Tryz.func74,by kernel_rfl,by kernel_rfl⟩
instance:FnOk Tryz.prog 75:=⟨_,Tryz.func75,by kernel_rfl,by kernel_rfl⟩
instance:FnOk Tryz.prog 76:=⟨_,Tryz.func76,by kernel_rfl,by kernel_rfl⟩
instance:FnOk Tryz.prog 77:=⟨_,Tryz.func77,by kernel_rfl,by kernel_rfl⟩
instance:FnOk Tryz.prog 78:=⟨_,Tryz.func78,by kernel_rfl,by kernel_rfl⟩
instance:FnOk Tryz.prog 79:=⟨_,Tryz.func79,by kernel_rfl,by kernel_rfl⟩
instance:FnOk Tryz.prog 86:=⟨_,Tryz.func86,by kernel_rfl,by kernel_rfl⟩
instance:FnOk Tryz.prog 89:=⟨_,Tryz.func89,by kernel_rfl,by kernel_rfl⟩
instance:FnOk Tryz.prog 92:=⟨_,Tryz.func92,by kernel_rfl,by kernel_rfl⟩
instance:FnOk Tryz.prog 93:=⟨_,Tryz.func93,by kernel_rfl,by kernel_rfl⟩
instance:FnOk Tryz.prog 94:=⟨_,Tryz.func94,by kernel_rfl,by kernel_rfl⟩
instance:FnOk Tryz.prog 96:=⟨_,Tryz.func96,by kernel_rfl,by kernel_rfl⟩
instance:FnOk Tryz.prog 101:=⟨_,Tryz.func101,by kernel_rfl,by kernel_rfl⟩
instance:FnOk Tryz.prog 102:=⟨_,Tryz.func102,by kernel_rfl,by kernel_rfl⟩
instance:FnOk Tryz.prog 104:=⟨_,Tryz.func104,by kernel_rfl,by kernel_rfl⟩
instance:FnOk Tryz.prog 105:=⟨_,Tryz.func105,by kernel_rfl,by kernel_rfl⟩
instance:FnOk Tryz.prog 106:=⟨_,Tryz.func106,by kernel_rfl,by kernel_rfl⟩
instance:FnOk Tryz.prog 107:=⟨_,Tryz.func107,by kernel_rfl,by kernel_rfl⟩
instance:FnOk Tryz.prog 108:=⟨_,Tryz.func108,by kernel_rfl,by kernel_rfl⟩
instance:FnOk Tryz.prog 109:=⟨_,Tryz.func109,by kernel_rfl,by kernel_rfl⟩
instance:FnOk Tryz.prog 110:=⟨_,Tryz.func110,by kernel_rfl,by kernel_rfl⟩
instance:FnOk Tryz.prog 111:=⟨_,Tryz.func111,by kernel_rfl,by kernel_rfl⟩
instance:FnOk Tryz.prog 112:=⟨_,Tryz.func112,by kernel_rfl,by kernel_rfl⟩
instance:FnOk Tryz.prog 113:=⟨_,Tryz.func113,by kernel_rfl,by kernel_rfl⟩
instance:FnOk Tryz.prog 114:=⟨_,Tryz.func114,by kernel_rfl,by kernel_rfl⟩
instance:FnOk Tryz.prog 115:=⟨_,Tryz.func115,by kernel_rfl,by kernel_rfl⟩
instance:FnOk Tryz.prog 116:=⟨_,Tryz.func116,by kernel_rfl,by kernel_rfl⟩
instance:FnOk Tryz.prog 118:=⟨_,Tryz.func118,by kernel_rfl,by kernel_rfl⟩
instance:FnOk Tryz.prog 119:=⟨_,Tryz.func119,by kernel_rfl,by kernel_rfl⟩
instance:FnOk Tryz.prog 120:=⟨_,Tryz.func120,by kernel_rfl,by kernel_rfl⟩
instance:FnOk Tryz.prog 121:=⟨_,Tryz.func121,by kernel_rfl,by kernel_rfl⟩
instance:FnOk Tryz.prog 122:=⟨_,Tryz.func122,by kernel_rfl,by kernel_rfl⟩
instance:FnOk Tryz.prog 123:=⟨_,Tryz.func123,by kernel_rfl,by kernel_rfl⟩
instance:FnOk Tryz.prog 124:=⟨_,Tryz.func124,by kernel_rfl,by kernel_rfl⟩
instance:FnOk Tryz.prog 125:=⟨_,Tryz.func125,by kernel_rfl,by kernel_rfl⟩
instance:FnOk Tryz.prog 126:=⟨_,Tryz.func126,by kernel_rfl,by kernel_rfl⟩
instance:FnOk Tryz.prog 127:=⟨_,Tryz.func127,by kernel_rfl,by kernel_rfl⟩
instance:FnOk Tryz.prog 128:=⟨_,Tryz.func128,by kernel_rfl,by kernel_rfl⟩
instance:FnOk Tryz.prog 129:=⟨_,Tryz.func129,by kernel_rfl,by kernel_rfl⟩
instance:FnOk Tryz.prog 130:=⟨_,Tryz.func130,by kernel_rfl,by kernel_rfl⟩
instance:FnOk Tryz.prog 131:=⟨_,Tryz.func131,by kernel_rfl,by kernel_rfl⟩
instance:FnOk Tryz.prog 132:=⟨_,Tryz.func132,by kernel_rfl,by kernel_rfl⟩
instance:FnOk Tryz.prog 133:=⟨_,Tryz.func133,by kernel_rfl,by kernel_rfl⟩
instance:FnOk Tryz.prog 134:=⟨_,Tryz.func134,by kernel_rfl,by kernel_rfl⟩
instance:FnOk Tryz.prog 138:=⟨_,Tryz.func138,by kernel_rfl,by kernel_rfl⟩
instance:FnOk Tryz.prog 139:=⟨_,Tryz.func139,by kernel_rfl,by kernel_rfl⟩
instance:FnOk Tryz.prog 140:=⟨_,Tryz.func140,by kernel_rfl,by kernel_rfl⟩
instance:FnOk Tryz.prog 141:=⟨_,Tryz.func141,by kernel_rfl,by kernel_rfl⟩
instance:FnOk Tryz.prog 142:=⟨_,Tryz.func142,by kernel_rfl,by kernel_rfl⟩
instance:FnOk Tryz.prog 143:=⟨_,Tryz.func143,by kernel_rfl,by kernel_rfl⟩
instance:FnOk Tryz.prog 144:=⟨_,Tryz.func144,by kernel_rfl,by kernel_rfl⟩
instance:FnOk Tryz.prog 145:=⟨_,Tryz.func145,by kernel_rfl,by kernel_rfl⟩
instance:FnOk Tryz.prog 146:=⟨_,Tryz.func146,by kernel_rfl,by kernel_rfl⟩
instance:FnOk Tryz.prog 147:=⟨_,Tryz.func147,by kernel_rfl,by kernel_rfl⟩
instance:FnOk Tryz.prog 148:=⟨_,Tryz.func148,by kernel_rfl,by kernel_rfl⟩
instance:FnOk Tryz.prog 149:=⟨_,Tryz.func149,by kernel_rfl,by kernel_rfl⟩
instance:FnOk Tryz.prog 150:=⟨_,Tryz.func150,by kernel_rfl,by kernel_rfl⟩
instance:FnOk Tryz.prog 151:=⟨_,Tryz.func151,by kernel_rfl,by kernel_rfl⟩
instance:FnOk Tryz.prog 152:=⟨_,Tryz.func152,by kernel_rfl,by kernel_rfl⟩
instance:FnOk Tryz.prog 153:=⟨_,Tryz.func153,by kernel_rfl,by kernel_rfl⟩
instance:FnOk Tryz.prog 154:=⟨_,Tryz.func154,by kernel_rfl,by kernel_rfl⟩
instance:FnOk Tryz.prog 155:=⟨_,Tryz.func155,by kernel_rfl,by kernel_rfl⟩
instance:FnOk Tryz.prog 163:=⟨_,Tryz.func163,by kernel_rfl,by kernel_rfl⟩
instance:FnOk Tryz.prog 165:=⟨_,Tryz.func165,by kernel_rfl,by kernel_rfl⟩
instance:FnOk Tryz.prog 166:=⟨_,Tryz.func166,by kernel_rfl,by kernel_rfl⟩
instance:FnOk Tryz.prog 167:=⟨_,Tryz.func167,by kernel_rfl,by kernel_rfl⟩
instance:FnOk Tryz.prog 168:=⟨_,Tryz.func168,by kernel_rfl,by kernel_rfl⟩
instance:FnOk Tryz.prog 177:=⟨_,Tryz.func177,by kernel_rfl,by kernel_rfl⟩
instance:FnOk Tryz.prog 178:=⟨_,Tryz.func178,by kernel_rfl,by kernel_rfl⟩
instance:FnOk Tryz.prog 182:=⟨_,Tryz.func182,by kernel_rfl,by kernel_rfl⟩
instance:FnOk Tryz.prog 183:=⟨_,Tryz.func183,by kernel_rfl,by kernel_rfl⟩
instance:FnOk Tryz.prog 184:=⟨_,Tryz.func184,by kernel_rfl,by kernel_rfl⟩
instance:FnOk Tryz.prog 186:=⟨_,Tryz.func186,by kernel_rfl,by kernel_rfl⟩
instance:FnOk Tryz.prog 187:=⟨_,Tryz.func187,by kernel_rfl,by kernel_rfl⟩
instance:FnOk Tryz.prog 188:=⟨_,Tryz.func188,by kernel_rfl,by kernel_rfl⟩
instance:FnOk Tryz.prog 189:=⟨_,Tryz.func189,by kernel_rfl,by kernel_rfl⟩
instance:FnOk Tryz.prog 190:=⟨_,Tryz.func190,by kernel_rfl,by kernel_rfl⟩
instance:FnOk Tryz.prog 191:=⟨_,Tryz.func191,by kernel_rfl,by kernel_rfl⟩
instance:FnOk Tryz.prog 192:=⟨_,Tryz.func192,by kernel_rfl,by kernel_rfl⟩
instance:FnOk Tryz.prog 193:=⟨_,Tryz.func193,by kernel_rfl,by kernel_rfl⟩
instance:FnOk Tryz.prog 194:=⟨_,Tryz.func194,by kernel_rfl,by kernel_rfl⟩
instance:FnOk Tryz.prog 195:=⟨_,Tryz.func195,by kernel_rfl,by kernel_rfl⟩
instance:FnOk Tryz.prog 196:=⟨_,Tryz.func196,by kernel_rfl,by kernel_rfl⟩
instance:FnOk Tryz.prog 197:=⟨_,Tryz.func197,by kernel_rfl,by kernel_rfl⟩
instance:FnOk Tryz.prog 198:=⟨_,Tryz.func198,by kernel_rfl,by kernel_rfl⟩
instance:FnOk Tryz.prog 199:=⟨_,Tryz.func199,by kernel_rfl,by kernel_rfl⟩
instance:FnOk Tryz.prog 200:=⟨_,Tryz.func200,by kernel_rfl,by kernel_rfl⟩
instance:FnOk Tryz.prog 201:=⟨_,Tryz.func201,by kernel_rfl,by kernel_rfl⟩
instance:FnOk Tryz.prog 202:=⟨_,Tryz.func202,by kernel_rfl,by kernel_rfl⟩
instance:FnOk Tryz.prog 203:=⟨_,Tryz.func203,by kernel_rfl,by kernel_rfl⟩
instance:FnOk Tryz.prog 204:=⟨_,Tryz.func204,by kernel_rfl,by kernel_rfl⟩
instance:FnOk Tryz.prog 205:=⟨_,Tryz.func205,by kernel_rfl,by kernel_rfl⟩
instance:FnOk Tryz.prog 206:=⟨_,Tryz.func206,by kernel_rfl,by kernel_rfl⟩
instance:FnOk Tryz.prog 207:=⟨_,Tryz.func207,by kernel_rfl,by kernel_rfl⟩
instance:FnOk Tryz.prog 209:=⟨_,Tryz.func209,by kernel_rfl,by kernel_rfl⟩
instance:FnOk Tryz.prog 210:=⟨_,Tryz.func210,by kernel_rfl,by kernel_rfl⟩
instance:FnOk Tryz.prog 211:=⟨_,Tryz.func211,by kernel_rfl,by kernel_rfl⟩
instance:FnOk Tryz.prog 212:=⟨_,Tryz.func212,by kernel_rfl,by kernel_rfl⟩
instance:FnOk Tryz.prog 213:=⟨_,Tryz.func213,by kernel_rfl,by kernel_rfl⟩
instance:FnOk Tryz.prog 214:=⟨_,Tryz.func214,by kernel_rfl,by kernel_rfl⟩
instance:FnOk Tryz.prog 215:=⟨_,Tryz.func215,by kernel_rfl,by kernel_rfl⟩
instance:FnOk Tryz.prog 216:=⟨_,Tryz.func216,by kernel_rfl,by kernel_rfl⟩
instance:FnOk Tryz.prog 217:=⟨_,Tryz.func217,by kernel_rfl,by kernel_rfl⟩
instance:FnOk Tryz.prog 218:=⟨_,Tryz.func218,by kernel_rfl,by kernel_rfl⟩
instance:FnOk Tryz.prog 226:=⟨_,Tryz.func226,by kernel_rfl,by kernel_rfl⟩
instance:FnOk Tryz.prog 227:=⟨_,Tryz.func227,by kernel_rfl,by kernel_rfl⟩
instance:FnOk Tryz.prog 228:=⟨_,Tryz.func228,by kernel_rfl,by kernel_rfl⟩
instance:FnOk Tryz.prog 229:=⟨_,Tryz.func229,by kernel_rfl,by kernel_rfl⟩
instance:FnOk Tryz.prog 231:=⟨_,Tryz.func231,by kernel_rfl,by kernel_rfl⟩
instance:FnOk Tryz.prog 233:=⟨_,Tryz.func233,by kernel_rfl,by kernel_rfl⟩
instance:FnOk Tryz.prog 235:=⟨_,Tryz.func235,by kernel_rfl,by kernel_rfl⟩
instance:FnOk Tryz.prog 236:=⟨_,Tryz.func236,by kernel_rfl,by kernel_rfl⟩
instance:FnOk Tryz.prog 237:=⟨_,Tryz.func237,by kernel_rfl,by kernel_rfl⟩
instance:FnOk Tryz.prog 238:=⟨_,Tryz.func238,by kernel_rfl,by kernel_rfl⟩
instance:FnOk Tryz.prog 239:=⟨_,Tryz.func239,by kernel_rfl,by kernel_rfl⟩
instance:FnOk Tryz.prog 240:=⟨_,Tryz.func240,by kernel_rfl,by kernel_rfl⟩
instance:FnOk Tryz.prog 241:=⟨_,Tryz.func241,by kernel_rfl,by kernel_rfl⟩
instance:FnOk Tryz.prog 244:=⟨_,Tryz.func244,by kernel_rfl,by kernel_rfl⟩
instance:FnOk Tryz.prog 245:=⟨_,Tryz.func245,by kernel_rfl,by kernel_rfl⟩
instance:FnOk Tryz.prog 246:=⟨_,Tryz.func246,by kernel_rfl,by kernel_rfl⟩
instance:FnOk Tryz.prog 247:=⟨_,Tryz.func247,by kernel_rfl,by kernel_rfl⟩
instance:FnOk Tryz.prog 248:=⟨_,Tryz.func248,by kernel_rfl,by kernel_rfl⟩
instance:FnOk Tryz.prog 249:=⟨_,Tryz.func249,by kernel_rfl,by kernel_rfl⟩
instance:FnOk Tryz.prog 250:=⟨_,Tryz.func250,by kernel_rfl,by kernel_rfl⟩
instance:FnOk Tryz.prog 251:=⟨_,Tryz.func251,by kernel_rfl,by kernel_rfl⟩
instance:FnOk Tryz.prog 252:=⟨_,Tryz.func252,by kernel_rfl,by kernel_rfl⟩
instance:FnOk Tryz.prog 253:=⟨_,Tryz.func253,by kernel_rfl,by kernel_rfl⟩
instance:FnOk Tryz.prog 254:=⟨_,Tryz.func254,by kernel_rfl,by kernel_rfl⟩
instance:FnOk Tryz.prog 255:=⟨_,Tryz.func255,by kernel_rfl,by kernel_rfl⟩
instance:FnOk Tryz.prog 256:=⟨_,Tryz.func256,by kernel_rfl,by kernel_rfl⟩
instance:FnOk Tryz.prog 257:=⟨_,Tryz.func257,by kernel_rfl,by kernel_rfl⟩
instance:FnOk Tryz.prog 258:=⟨_,Tryz.func258,by kernel_rfl,by kernel_rfl⟩
instance:FnOk Tryz.prog 259:=⟨_,Tryz.func259,by kernel_rfl,by kernel_rfl⟩
instance:FnOk Tryz.prog 260:=⟨_,Tryz.func260,by kernel_rfl,by kernel_rfl⟩
instance:FnOk Tryz.prog 261:=⟨_,Tryz.func261,by kernel_rfl,by kernel_rfl⟩
instance:FnOk Tryz.prog 262:=⟨_,Tryz.func262,by kernel_rfl,by kernel_rfl⟩
instance:FnOk Tryz.prog 263:=⟨_,Tryz.func263,by kernel_rfl,by kernel_rfl⟩
instance:FnOk Tryz.prog 264:=⟨_,Tryz.func264,by kernel_rfl,by kernel_rfl⟩
instance:FnOk Tryz.prog 267:=⟨_,Tryz.func267,by kernel_rfl,by kernel_rfl⟩
instance:FnOk Tryz.prog 268:=⟨_,Tryz.func268,by kernel_rfl,by kernel_rfl⟩
instance:FnOk Tryz.prog 269:=⟨_,Tryz.func269,by kernel_rfl,by kernel_rfl⟩
instance:FnOk Tryz.prog 270:=⟨_,Tryz.func270,by kernel_rfl,by kernel_rfl⟩
instance:FnOk Tryz.prog 272:=⟨_,Tryz.func272,by kernel_rfl,by kernel_rfl⟩
instance:FnOk Tryz.prog 273:=⟨_,Tryz.func273,by kernel_rfl,by kernel_rfl⟩
instance:FnOk Tryz.prog 274:=⟨_,Tryz.func274,by kernel_rfl,by kernel_rfl⟩
instance:FnOk Tryz.prog 275:=⟨_,Tryz.func275,by kernel_rfl,by kernel_rfl⟩
instance:FnOk Tryz.prog 276:=⟨_,Tryz.func276,by kernel_rfl,by kernel_rfl⟩
instance:FnOk Tryz.prog 277:=⟨_,Tryz.func277,by kernel_rfl,by kernel_rfl⟩
instance:FnOk Tryz.prog 278:=⟨_,Tryz.func278,by kernel_rfl,by kernel_rfl⟩
instance:FnOk Tryz.prog 279:=⟨_,Tryz.func279,by kernel_rfl,by kernel_rfl⟩
instance:FnOk Tryz.prog 280:=⟨_,Tryz.func280,by kernel_rfl,by kernel_rfl⟩
instance:FnOk Tryz.prog 281:=⟨_,Tryz.func281,by kernel_rfl,by kernel_rfl⟩
instance:FnOk Tryz.prog 287:=⟨_,Tryz.func287,by kernel_rfl,by kernel_rfl⟩
instance:FnOk Tryz.prog 291:=⟨_,Tryz.func291,by kernel_rfl,by kernel_rfl⟩
instance:FnOk Tryz.prog 292:=⟨_,Tryz.func292,by kernel_rfl,by kernel_rfl⟩
instance:FnOk Tryz.prog 294:=⟨_,Tryz.func294,by kernel_rfl,by kernel_rfl⟩
instance:FnOk Tryz.prog 295:=⟨_,Tryz.func295,by kernel_rfl,by kernel_rfl⟩
instance:FnOk Tryz.prog 296:=⟨_,Tryz.func296,by kernel_rfl,by kernel_rfl⟩
instance:FnOk Tryz.prog 297:=⟨_,Tryz.func297,by kernel_rfl,by kernel_rfl⟩
instance:FnOk Tryz.prog 305:=⟨_,Tryz.func305,by kernel_rfl,by kernel_rfl⟩
theorem mixed:Tryz.prog.follows .mixedOrders=true:=by kernel_rfl
end Go.Proofs.YtmmmfphealhapaaGreat
namespace Go.Fx
structure BoxP (g:Prop):Prop where
 out:g
section
variable {P:Program} {n:Nat} {Q:Exit→Act→World→Prop} {G:Env} {X:List Nat} {w0:World} {M:List Ent} {I:List aL} {ops l:List Oper} {m:Mode} {c:Code} {e:Exit}
structure Br (b:Bool) (p q:Prop):Prop where
 y:b=true→p
 n:b=false→q
theorem Br.dec {p:Prop} [Decidable p]:Br (B p) p (¬p):=⟨fun h=>Decidable.byContradiction (fun hn=>by rw [bH hn] at h;cases h),fun h hp=>by rw [bK hp] at h;cases h⟩
theorem Br.raw {b:Bool}:Br b (b=true) (b=false):=⟨id,id⟩
theorem Br.lit:Br true True False:=⟨fun _=>True.intro,fun h=>by cases h⟩
theorem Br.lit2:Br false False True:=⟨fun h=>(by cases h),fun _=>True.intro⟩
theorem aJ {c:Operand} {x y:Code} {b:Bool} {p q:Prop} (hc:ev G c=some (.bool b)) (h1:p→TD P n x Q G X w0 M I) (h2:q→TD P n y Q G X w0 M I) (hb:Br b p q:=by first|exact Br.dec|exact Br.raw|fail):TD P n (.cond c x y) Q G X w0 M I:=
 bCU hc (fun e=>h1 (hb.y e)) (fun e=>h2 (hb.n e))
theorem aK {op:Op} {ty:TypeId} {pos:String} {af:Array Edge} {d:Option Nat} {b:Bool} {p q:Prop} {g:Nat × Bool} {t:Nat} (hj:qZ ops g.1=some t) (hv:lk G t=some (.bool b))
  (h1:p→RD P n ops Q m (⟨d,op,ty,pos,af,some g⟩::l) ((t, .bool true)::G) X w0 M I) (h2:q→RD P n ops Q m (⟨d,op,ty,pos,af,some g⟩::l) ((t, .bool false)::G) X w0 M I) (hb:Br b p q:=by first|exact Br.dec|((fail_if_success exact Br.lit);(fail_if_success exact Br.lit2);exact Br.raw)|fail):
  RD P n ops Q m (⟨d,op,ty,pos,af,some g⟩::l) G X w0 M I:=bBF hj hv (fun e=>h1 (hb.y e)) (fun e=>h2 (hb.n e))
end
end Go.Fx
namespace Go.Fx
theorem lT {p g:Prop} (h:g) (w:BoxP g→p:=by (intro hh;(first|refine aG ?_|refine iE ?_|refine oW ?_|refine lK ?_|refine jP ?_|refine jE ?_|refine lS ?_|refine jU ?_|refine jN ?_|refine jM ?_|refine pG ?_|refine pI ?_|refine oU ?_|refine oJ rfl ?_|refine bE ?_|(refine kK ?_;first|refine kD rfl rfl rfl ?_|(refine kL rfl rfl ?_;refine iV rfl rfl rfl okJ ?_)|refine kP rfl rfl (by omega) ?_|refine kT rfl rfl (by omega) ?_)|(refine eP ?_;refine aD rfl (fun _=>fQ rfl) rfl rfl ?_)|refine aD rfl (fun _=>bP rfl) rfl rfl ?_|(refine kQ ?_;first|refine aD rfl (fun _=>dC rfl rfl w_) rfl rfl ?_|refine aD rfl (fun _=>dD rfl rfl w_) rfl rfl ?_|refine aD rfl (fun _=>gW rfl rfl w_) rfl rfl ?_|refine aD rfl (fun _=>gU rfl rfl (by omega) q_) rfl rfl ?_|refine aD rfl (fun _=>gV rfl rfl (by omega) rfl) rfl rfl ?_|refine aD rfl (fun _=>fO rfl rfl) rfl rfl ?_|refine aD rfl (fun _=>gP rfl rfl) rfl rfl ?_|refine aD rfl (fun _=>gT rfl rfl) rfl rfl ?_)|(refine eP ?_;first|refine aD rfl (fun _=>gH rfl w_) rfl rfl ?_)|(refine kU ?_;first|refine aD rfl (fun _=>fE rfl w_) rfl rfl ?_)|(refine kF ?_;first|refine aD rfl (fun _=>dE rfl) rfl rfl ?_|refine aD rfl (fun _=>fT rfl rfl) rfl rfl ?_|refine aD rfl (fun _=>fP rfl rfl) rfl rfl ?_|refine aD rfl (fun _=>fU rfl rfl rfl) rfl rfl ?_)|(refine kE ?_;first|refine jZ rfl (by decide) rfl rfl ?_|refine nA rfl (by decide) rfl rfl ?_)|(refine kI ?_;first|refine aD rfl (fun _=>fB rfl) rfl rfl ?_)|(refine kR ?_;first|refine mV rfl rfl iH rfl rfl ?_|refine mZ vwJ rfl rfl iH bA nD rfl rfl ?_|refine mY vwJ rfl rfl iH bA nD rfl rfl ?_|refine aD rfl (fun _=>dZ rfl rfl iH) rfl rfl ?_)|(refine bN ?_;first|refine mX vwJ rfl bA yG rfl rfl ?_|refine mW vwJ rfl bA yG rfl rfl ?_|refine gM vwJ rfl bA yG rfl rfl ?_|refine jY vwJ rfl bA yG rfl rfl ?_|refine rA vwJ rfl bA nN jV rfl rfl ?_|refine rO vwJ rfl bA nN jV rfl rfl ?_|refine rE vwJ rfl bA nN jV rfl rfl ?_|refine oV vwJ rfl bA nN jV rfl rfl ?_)|(refine kG ?_;first|refine aD rfl (fun _=>eF rfl rfl) rfl rfl ?_|refine aD rfl (fun _=>dI rfl) rfl rfl ?_)|(refine nO ?_;first|refine nH rfl rfl rfl tO stC rfl rfl ⟨okJ,?_⟩|refine fJ rfl rfl jV aCU tO aCQ rfl rfl ⟨okJ,?_⟩)|(refine lW ?_;first|refine fF rfl ?_|refine dV rfl ?_|refine pE rfl (by omega) ?_|refine tC rfl (by omega) ?_));(repeat (first|refine aG ?_|refine iE ?_|refine oW ?_|refine lK ?_|refine jP ?_|refine jE ?_|refine lS ?_|refine jU ?_|refine jN ?_|refine jM ?_|refine pG ?_|refine pI ?_|refine oU ?_|refine oJ rfl ?_|refine bE ?_|(refine kK ?_;first|refine kD rfl rfl rfl ?_|(refine kL rfl rfl ?_;refine iV rfl rfl rfl okJ ?_)|refine kP rfl rfl (by omega) ?_|refine kT rfl rfl (by omega) ?_)|(refine eP ?_;refine aD rfl (fun _=>fQ rfl) rfl rfl ?_)|refine aD rfl (fun _=>bP rfl) rfl rfl ?_|(refine kQ ?_;first|refine aD rfl (fun _=>dC rfl rfl w_) rfl rfl ?_|refine aD rfl (fun _=>dD rfl rfl w_) rfl rfl ?_|refine aD rfl (fun _=>gW rfl rfl w_) rfl rfl ?_|refine aD rfl (fun _=>gU rfl rfl (by omega) q_) rfl rfl ?_|refine aD rfl (fun _=>gV rfl rfl (by omega) rfl) rfl rfl ?_|refine aD rfl (fun _=>fO rfl rfl) rfl rfl ?_|refine aD rfl (fun _=>gP rfl rfl) rfl rfl ?_|refine aD rfl (fun _=>gT rfl rfl) rfl rfl ?_)|(refine eP ?_;first|refine aD rfl (fun _=>gH rfl w_) rfl rfl ?_)|(refine kU ?_;first|refine aD rfl (fun _=>fE rfl w_) rfl rfl ?_)|(refine kF ?_;first|refine aD rfl (fun _=>dE rfl) rfl rfl ?_|refine aD rfl (fun _=>fT rfl rfl) rfl rfl ?_|refine aD rfl (fun _=>fP rfl rfl) rfl rfl ?_|refine aD rfl (fun _=>fU rfl rfl rfl) rfl rfl ?_)|(refine kE ?_;first|refine jZ rfl (by decide) rfl rfl ?_|refine nA rfl (by decide) rfl rfl ?_)|(refine kI ?_;first|refine aD rfl (fun _=>fB rfl) rfl rfl ?_)|(refine kR ?_;first|refine mV rfl rfl iH rfl rfl ?_|refine mZ vwJ rfl rfl iH bA nD rfl rfl ?_|refine mY vwJ rfl rfl iH bA nD rfl rfl ?_|refine aD rfl (fun _=>dZ rfl rfl iH) rfl rfl ?_)|(refine bN ?_;first|refine mX vwJ rfl bA yG rfl rfl ?_|refine mW vwJ rfl bA yG rfl rfl ?_|refine gM vwJ rfl bA yG rfl rfl ?_|refine jY vwJ rfl bA yG rfl rfl ?_|refine rA vwJ rfl bA nN jV rfl rfl ?_|refine rO vwJ rfl bA nN jV rfl rfl ?_|refine rE vwJ rfl bA nN jV rfl rfl ?_|refine oV vwJ rfl bA nN jV rfl rfl ?_)|(refine kG ?_;first|refine aD rfl (fun _=>eF rfl rfl) rfl rfl ?_|refine aD rfl (fun _=>dI rfl) rfl rfl ?_)|(refine nO ?_;first|refine nH rfl rfl rfl tO stC rfl rfl ⟨okJ,?_⟩|refine fJ rfl rfl jV aCU tO aCQ rfl rfl ⟨okJ,?_⟩)|(refine lW ?_;first|refine fF rfl ?_|refine dV rfl ?_|refine pE rfl (by omega) ?_|refine tC rfl (by omega) ?_)));exact hh.out)):p:=w ⟨h⟩
end Go.Fx
namespace Go.Proofs.YtmmmfphealhapaaGreat
open Go Go.Fx
abbrev eG:Int→List Value:=eI .u32
theorem yF (l:List Int) (i:Nat):gt l (i:Int)=l.getD i 0:=aJF l i
theorem aRM {l:List Int} {i:Int} (h:(l.length:Int)≤i):gt l i=0:=by
 unfold gt
 simp [List.getD,show l.length≤i.toNat by omega]
theorem sJ (l:List Int) (i:Nat) (x:Int):st l (i:Int) x=l.set i x:=rfl
theorem Dig.gt {l:List Int} (h:Dig l) (i:Int):0≤gt l i∧gt l i < 1000000000:=h.getD i.toNat
section
variable {X:List Nat} {w0:World} {M0:List Ent} {I0:List aL}
theorem aRP {q:Option Addr} {l:List Int} {n c:Nat} {i:Int} (hn:n=l.length) (hi:0≤i) (hl:aI q (recs eG l)∈I0):
  CD Tryz.prog 203 [.slice q n c, .int .i64 i] X w0 M0 I0 (fun v M I=>M0=M∧I0=I∧v= .int .u32 (gt l i)):=by
 subst hn
 refine dY Tryz.func203 rfl Tryz.ntmps203 rfl ?_
 repeat' (first|refine lT ?_|refine aJ rfl (fun h=>?_) (fun h=>?_)|refine aK rfl rfl (fun h=>?_) (fun h=>?_)|fail)
 ·refine aU (by first|exact .inl rfl|exact .inr rfl) rfl rfl _ _ bY bW (⟨rfl,rfl,rfl⟩)
 ·refine aU (by first|exact .inl rfl|exact .inr rfl) rfl rfl _ _ bY bW (⟨rfl,rfl,by rw [aRM (by omega)]⟩)
theorem tH {q:Option Addr} {l:List Int} {n c:Nat} (hn:n=l.length) (h63:n≤1000000000000) (hc:l.length≤c) (hl:aI q (recs eG l)∈I0):
  CD Tryz.prog 200 [.slice q n c] X w0 M0 I0 (fun v M I=>M0=M∧I=aI q (recs eG (gF l))::I0∧v= .slice q (gF l).length c):=by
 subst hn
 refine dY Tryz.func200 rfl Tryz.ntmps200 rfl ?_
 refine aDK (φ:=0 < l.length→Ok q) (fun w hw h=>(hw.sl hl).ok (by rw [fG];omega)) (fun hq=>?_)
 repeat refine lT ?_
 refine bX [] rfl (fun k G M I=>∃m:Nat,m≤l.length∧k=m∧gF (l.take m)=gF l∧G=[(0, .slice q m c)]∧M0=M∧I0=I) (l.length) _ _ _ dB bY bW (⟨l.length,by omega,rfl,by rw [List.take_length],rfl,rfl,rfl⟩) ?_
 rintro k G M I ⟨m,hm,rfl,ht,rfl,rfl,rfl⟩
 repeat' (first|refine lT ?_|refine aJ rfl (fun h=>?_) (fun h=>?_)|refine aK rfl rfl (fun h=>?_) (fun h=>?_)|fail)
 ·obtain ⟨b,o,rfl⟩:=(hq (by omega)).cases
  refine aD rfl (fun _=>rH (k - 1) rfl rfl (by omega) (by omega)) rfl rfl ?_
  repeat refine lT ?_
  have h1:=h
  refine cO (k - 1) _ _ _ (by first|omega|(simp only [List.length_append,List.length_cons,List.length_nil];omega)) dB bY bW (⟨k - 1,by omega,rfl,?_,rfl,rfl,rfl⟩)
  rw [←ht]
  obtain ⟨j,rfl⟩:∃j,k=j+1:=⟨k - 1,by omega⟩
  have hj:j < l.length:=by omega
  have e0:gt l (j:Int)=0:=by
   have e:((j+1:Nat):Int) - 1=j:=by omega
   rw [e] at h1
   exact h1
  rw [fH hj] at e0
  rw [List.take_succ_eq_append_getElem hj,e0,yU]
  rfl
 ·have h1:=h
  have htop:Top (l.take k):=by
   obtain ⟨j,rfl⟩:∃j,k=j+1:=⟨k - 1,by omega⟩
   have hj:j < l.length:=by omega
   rw [List.take_succ_eq_append_getElem hj,Top.snoc,←fH hj]
   have e:((j+1:Nat):Int) - 1=j:=by omega
   rw [e] at h1
   exact h1
  have e1:gF l=l.take k:=by rw [←ht,aFE htop]
  refine yO (fun w hw=>hw.takeI (cs:=recs eG (gF l)) (tl:=recs eG (l.drop k)) (by rw [e1,←lZ,List.take_append_drop];exact hl)) ?_
  refine aU (by first|exact .inl rfl|exact .inr rfl) rfl rfl _ _ bY bW (⟨rfl,rfl,by rw [e1];simp;omega⟩)
 ·have h0:k=0:=by omega
  subst h0
  have e1:gF l=[]:=by rw [←ht];rfl
  rw [e1]
  refine aIW q ?_
  refine aU (by first|exact .inl rfl|exact .inr rfl) rfl rfl _ _ bY bW (⟨rfl,rfl,rfl⟩)
def GrP (n:Nat) (M0:List Ent) (I0:List aL) (v:Value) (M:List Ent) (I:List aL):Prop:=M0=M∧∃q c,v= .slice q (gr n).length c∧((gr n).length≤c∧(Ok q∨((gr n).length=0∧c=0)))∧I=aI q (recs eG (gr n))::I0
theorem aPP {p q:Option Addr} {m n cp cq:Nat} (hm:(gr m).length≤100000000000) (hn:(gr n).length≤100000000000) (hp:aI p (recs eG (gr m))∈I0) (hq:aI q (recs eG (gr n))∈I0):
  CD Tryz.prog 129 [.slice p (gr m).length cp, .slice q (gr n).length cq] X w0 M0 I0 (GrP (m+n) M0 I0):=by
 have da:=bT m
 have db:=bT n
 have va:=cZ m
 have vb:=cZ n
 generalize ha:gr m=a at*
 generalize hb:gr n=b at*
 obtain ⟨N,hN⟩:∃N:Nat,N=max a.length b.length+1:=⟨_,rfl⟩
 refine dY Tryz.func129 rfl Tryz.ntmps129 rfl ?_
 repeat refine lT ?_
 (refine jO (N) rfl rfl (by omega) (by omega) (by omega) (by omega) (nI _ _) rfl rfl ?_;intro bo;refine ⟨okJ,?_⟩)
 repeat refine lT ?_
 refine bX [0,1,5,17] rfl (fun k G M I=>∃(i:Nat) (o:List Int) (cr:Int),i≤N∧k=N - i∧o.length=N∧Dig (o.take i)∧(0≤cr∧cr≤1)∧val (o.take i)+1000000000 ^ i*cr=val (a.take i)+val (b.take i)∧G=[(6, .int .u32 cr),(18, .int .i64 i)]∧M= .blk bo (recs eG o) 121::M0∧I0=I) (N) _ _ _ dB bY bW (⟨0,_,0,by omega,by omega,by simp,by simp [Dig],by omega,by simp [val],rfl,rfl,rfl⟩) ?_
 rintro k G M I ⟨i,o,cr,hi,rfl,ho,hd,hcr,hv,rfl,rfl,rfl⟩
 repeat' (first|refine lT ?_|refine aJ rfl (fun h=>?_) (fun h=>?_)|refine aK rfl rfl (fun h=>?_) (fun h=>?_)|fail)
 ·refine dH rfl (aRP (i:=i) rfl (by omega) hp) ?_
  have d1:=da.gt i
  have d2:=db.gt i
  repeat refine lT ?_
  refine dH rfl (aRP (i:=i) rfl (by omega) hq) ?_
  repeat' (first|refine lT ?_|refine aJ rfl (fun h=>?_) (fun h=>?_)|refine aK rfl rfl (fun h=>?_) (fun h=>?_)|fail)
  ·refine cO (N - (i+1)) _ _ _ (by first|omega|(simp only [List.length_append,List.length_cons,List.length_nil];omega)) dB bY bW (⟨i+1,_,1,by omega,rfl,by rw [dK];exact ho,?_,by omega,?_,rfl,rfl,rfl⟩)
   ·rw [sJ,jB _ _ _ (by omega)];exact hd.snoc (by omega)
   ·exact aLF hv (by omega) (s:=gt a i+gt b i+cr) rfl (by omega)
  ·refine cO (N - (i+1)) _ _ _ (by first|omega|(simp only [List.length_append,List.length_cons,List.length_nil];omega)) dB bY bW (⟨i+1,_,0,by omega,rfl,by rw [dK];exact ho,?_,by omega,?_,rfl,rfl,rfl⟩)
   ·rw [sJ,jB _ _ _ (by omega)];exact hd.snoc (by omega)
   ·exact aLF hv (by omega) (s:=gt a i+gt b i+cr) rfl (by omega)
 ·have hiN:i=N:=by omega
  subst hiN
  rw [List.take_of_length_le (show o.length≤i by omega)] at hv hd
  rw [List.take_of_length_le (show a.length≤i by omega),List.take_of_length_le (show b.length≤i by omega),va,vb] at hv
  have hcr0:cr=0:=by
   have h1:=jW da
   have h2:=jW db
   have h3:=nT (show a.length≤i - 1 by omega)
   have h4:=nT (show b.length≤i - 1 by omega)
   have h5:(1000000000:Int) ^ i=1000000000 ^ (i - 1)*1000000000:=by
    rw [←Int.pow_succ];congr 1;omega
   have h6:=jD (i - 1)
   have h7:=bS hd
   by_cases c:cr=0
   ·exact c
   ·have:cr=1:=by omega
    subst this
    omega
  subst hcr0
  have hg:gF o=gr (m+n):=oG hd (by omega)
  refine aH yZ ?_
  (refine bD rfl (tH (l:=o) (c:=i) ho.symm (by omega) (by omega) bA) ?_;rintro _ _ _ ⟨rfl,rfl,rfl⟩;refine aN ?_)
  repeat refine lT ?_
  rw [hg]
  refine aU (by first|exact .inl rfl|exact .inr rfl) rfl rfl _ _ bY bW (⟨rfl,_,_,rfl,⟨by rw [←hg];have:=xU o;obtain ⟨k,h1,h2,_⟩:=this;rw [h2];simp;omega, .inl (Ok.mk _ _)⟩,rfl⟩)
end
section
variable {X:List Nat} {w0:World} {M0:List Ent} {I0:List aL}
theorem aAZ {o:List Int}:(gF o).length≤o.length:=by
 obtain ⟨k,h1,h2,_⟩:=xU o
 rw [h2];simp;omega
theorem aDP {p q:Option Addr} {m n cp cq:Nat} (hm:(gr m).length≤100000000000) (hle:n≤m) (hp:aI p (recs eG (gr m))∈I0) (hq:aI q (recs eG (gr n))∈I0):
  CD Tryz.prog 130 [.slice p (gr m).length cp, .slice q (gr n).length cq] X w0 M0 I0 (GrP (m - n) M0 I0):=by
 have da:=bT m
 have db:=bT n
 have va:=cZ m
 have vb:=cZ n
 have hln:=gY hle
 generalize ha:gr m=a at*
 generalize hb:gr n=b at*
 refine dY Tryz.func130 rfl Tryz.ntmps130 rfl ?_
 repeat refine lT ?_
 (refine jO (a.length) rfl rfl (by omega) (by omega) (by omega) (by omega) (nI _ _) rfl rfl ?_;intro bo;refine ⟨okJ,?_⟩)
 repeat refine lT ?_
 refine bX [0,1,5,13] rfl (fun k G M I=>∃(i:Nat) (o:List Int) (cr:Int),i≤a.length∧k=a.length - i∧o.length=a.length∧Dig (o.take i)∧(0≤cr∧cr≤1)∧val (o.take i) - 1000000000 ^ i*cr=val (a.take i) - val (b.take i)∧G=[(6, .int .u32 cr),(14, .int .i64 i)]∧M= .blk bo (recs eG o) 121::M0∧I0=I) (a.length) _ _ _ dB bY bW (⟨0,_,0,by omega,by omega,by simp,by simp [Dig],by omega,by simp [val],rfl,rfl,rfl⟩) ?_
 rintro k G M I ⟨i,o,cr,hi,rfl,ho,hd,hcr,hv,rfl,rfl,rfl⟩
 repeat' (first|refine lT ?_|refine aJ rfl (fun h=>?_) (fun h=>?_)|refine aK rfl rfl (fun h=>?_) (fun h=>?_)|fail)
 ·refine dH rfl (aRP (i:=i) rfl (by omega) hq) ?_
  have d1:=da.gt i
  have d2:=db.gt i
  repeat' (first|refine lT ?_|refine aJ rfl (fun h=>?_) (fun h=>?_)|refine aK rfl rfl (fun h=>?_) (fun h=>?_)|fail)
  ·refine cO (a.length - (i+1)) _ _ _ (by first|omega|(simp only [List.length_append,List.length_cons,List.length_nil];omega)) dB bY bW (⟨i+1,_,1,by omega,rfl,by rw [dK];exact ho,?_,by omega,?_,rfl,rfl,rfl⟩)
   ·rw [sJ,jB _ _ _ (by omega)];exact hd.snoc (by omega)
   ·exact aMR hv (by omega) (show gt a i+1000000000 - (gt b i+cr) - 1000000000*1=gt a i - gt b i - cr by omega)
  ·refine cO (a.length - (i+1)) _ _ _ (by first|omega|(simp only [List.length_append,List.length_cons,List.length_nil];omega)) dB bY bW (⟨i+1,_,0,by omega,rfl,by rw [dK];exact ho,?_,by omega,?_,rfl,rfl,rfl⟩)
   ·rw [sJ,jB _ _ _ (by omega)];exact hd.snoc (by omega)
   ·exact aMR hv (by omega) (show gt a i - (gt b i+cr) - 1000000000*0=gt a i - gt b i - cr by omega)
 ·have hiN:i=a.length:=by omega
  subst hiN
  rw [List.take_of_length_le (show o.length≤a.length by omega)] at hv hd
  rw [List.take_length,List.take_of_length_le hln,va,vb] at hv
  have hcr0:cr=0:=by
   have h1:=jW hd
   have h7:=bS hd
   rw [ho] at h1
   by_cases c:cr=0
   ·exact c
   ·have:cr=1:=by omega
    subst this
    omega
  subst hcr0
  have hg:gF o=gr (m - n):=oG hd (by omega)
  refine aH yZ ?_
  (refine bD rfl (tH (l:=o) (c:=a.length) ho.symm (by omega) (by omega) bA) ?_;rintro _ _ _ ⟨rfl,rfl,rfl⟩;refine aN ?_)
  repeat refine lT ?_
  have hle2:=aAZ (o:=o)
  rw [hg] at hle2 ⊢
  refine aU (by first|exact .inl rfl|exact .inr rfl) rfl rfl _ _ bY bW (⟨rfl,_,_,rfl,⟨by omega, .inl (Ok.mk _ _)⟩,rfl⟩)
theorem uB {n:Nat} (hn:n≤18446744073709551615):CD Tryz.prog 124 [.int .u64 n] X w0 M0 I0 (GrP n M0 I0):=by
 refine dY Tryz.func124 rfl Tryz.ntmps124 rfl ?_
 repeat refine lT ?_
 refine gZ 121 1 ?_
 refine bX [] rfl (fun k G M I=>∃(m:Nat) (a:Option Addr) (c':Nat) (xs:List Int),m≤n∧k=m∧(0 < m→xs.length≤2 - (gr m).length+1)∧xs++gr m=gr n∧xs.length≤3∧G=[(0, .int .u64 m),(3, .slice a xs.length c')]∧M= .row a xs.length c' (recs eG xs) 121 1::M0∧I0=I) (n) _ _ _ dB bY bW (⟨n,none,0,[],by omega,rfl,by simp,by simp,by simp,rfl,rfl,rfl⟩) ?_
 rintro k G M I ⟨m,a,c',xs,hm,rfl,_,hxs,hx3,rfl,rfl,rfl⟩
 have h3:(gr n).length≤3:=rT (by omega)
 have h4:xs.length+(gr k).length≤3:=by rw [←hxs] at h3;simpa using h3
 repeat' (first|refine lT ?_|refine aJ rfl (fun h=>?_) (fun h=>?_)|refine aK rfl rfl (fun h=>?_) (fun h=>?_)|fail)
 ·have hk:k≠0:=by omega
  have e1:((k:Int)).tmod 1000000000=((k % 1000000000:Nat):Int):=by rw [Int.tmod_eq_emod_of_nonneg (by omega)];omega
  have e2:((k:Int)).tdiv 1000000000=((k / 1000000000:Nat):Int):=by rw [Int.tdiv_eq_ediv_of_nonneg (by omega)];omega
  rw [e1]
  have hgk:=xH hk
  have h5:(gr k).length=(gr (k / 1000000000)).length+1:=by rw [hgk];simp
  repeat refine lT ?_
  refine gK (cs:=recs eG [((k % 1000000000:Nat):Int)]) ([.int .u32 ((k % 1000000000:Nat):Int)]) rfl (fun b2=>?_)
  (refine iB (ys:=[((k % 1000000000:Nat):Int)]) 1 rfl rfl rfl ?_ (by decide) rfl (by omega) (by omega) rfl rfl ?_;(· first|exact Src.blk bA|exact Src.row bA|exact Src.imm bA (by first|assumption|exact .inl (Ok.mk _ _)));intro a2 c2;refine aN ?_)
  repeat refine lT ?_
  rw [e2]
  refine cO (k / 1000000000) _ _ _ (by first|omega|(simp only [List.length_append,List.length_cons,List.length_nil];omega)) dB bY bW (⟨k / 1000000000,a2,c2,_,by omega,rfl,by intro _;simp;omega,by rw [List.append_assoc];rw [hgk] at hxs;exact hxs,by simp;omega,rfl,rfl,rfl⟩)
 ·have h0:k=0:=by omega
  subst h0
  rw [gQ,List.append_nil] at hxs
  subst hxs
  refine bDD (fun w hw=>And.intro (hw.rowLe (List.Mem.head _)) ((hw.rowS (List.Mem.head _)).2.imp id And.right)) (fun hc=>?_)
  refine vL yZ ?_
  refine aU (by first|exact .inl rfl|exact .inr rfl) rfl rfl _ _ bY bW (⟨rfl,_,_,rfl,hc,rfl⟩)
end
theorem iF (l:List Int) (i j:Nat) (x:Int):st l ((i:Int)+(j:Int)) x=l.set (i+j) x:=by
 unfold st
 congr 1
theorem aBJ (l:List Int) (i j:Nat):gt l ((i:Int)+(j:Int))=l.getD (i+j) 0:=yF l (i+j)
theorem mJ {l:List Int} {i j:Nat} (x:Int) (h:i≠j):(l.set i x).getD j 0=l.getD j 0:=by
 simp [List.getD,List.getElem?_set_ne h]
section
variable {X:List Nat} {w0:World} {M0:List Ent} {I0:List aL}
theorem aZJ {p q:Option Addr} {m n cp cq:Nat} (hm:(gr m).length≤100000000000) (hn:(gr n).length≤100000000000) (hp:aI p (recs eG (gr m))∈I0) (hq:aI q (recs eG (gr n))∈I0):
  CD Tryz.prog 125 [.slice p (gr m).length cp, .slice q (gr n).length cq] X w0 M0 I0 (GrP (m*n) M0 I0):=by
 have da:=bT m
 have db:=bT n
 have va:=cZ m
 have vb:=cZ n
 generalize ha:gr m=a at*
 generalize hb:gr n=b at*
 refine dY Tryz.func125 rfl Tryz.ntmps125 rfl ?_
 repeat refine lT ?_
 (refine jO (a.length+b.length) rfl rfl (by omega) (by omega) (by omega) (by omega) (nI _ _) rfl rfl ?_;intro bo;refine ⟨okJ,?_⟩)
 repeat refine lT ?_
 refine bX [1,5,18,19] rfl (fun k G M I=>∃(i:Nat) (o:List Int),i≤a.length∧k=a.length - i∧o.length=a.length+b.length∧Dig o∧val o=val (a.take i)*val b∧(∀j:Nat,i+b.length≤j→o.getD j 0=0)∧G=[(20, .int .i64 i)]∧M= .blk bo (recs eG o) 121::M0∧I0=I) (a.length) _ _ _ dB bY bW (⟨0,_,by omega,by omega,by simp,Dig.zeros _,by rw [aBW];simp [val],fun j _=>by simp [List.getD,List.getElem?_replicate];split <;>rfl,rfl,rfl,rfl⟩) ?_
 rintro k G M I ⟨i,o,hi,rfl,ho,hd,hv,hz,rfl,rfl,rfl⟩
 repeat' (first|refine lT ?_|refine aJ rfl (fun h=>?_) (fun h=>?_)|refine aK rfl rfl (fun h=>?_) (fun h=>?_)|fail)
 ·have hia:i < a.length:=by omega
  have d1:=da.gt i
  refine bX [1,5,6,7,18,19,20,25,26] rfl (fun k G M I=>∃(j:Nat) (u:List Int) (c:Int),j≤b.length∧k=b.length - j∧u.length=a.length+b.length∧Dig u∧(0≤c∧c < 1000000000)∧val u+1000000000 ^ (i+j)*c=val (a.take i)*val b+1000000000 ^ i*(gt a i*val (b.take j))∧(∀j:Nat,i+b.length≤j→u.getD j 0=0)∧G=[(8, .int .u64 c),(27, .int .i64 j)]∧M= .blk bo (recs eG u) 121::M0∧I0=I) (b.length) _ _ _ dB bY bW (⟨0,o,0,by omega,by omega,ho,hd,by omega,by simp [val,hv],hz,rfl,rfl,rfl⟩) ?_
  rintro k G M I ⟨j,u,c,hj,rfl,hu,hdu,hc,hvu,hzu,rfl,rfl,rfl⟩
  have d2:=db.gt j
  have d3:=hdu.gt ((i:Int)+j)
  have d4:=vB d1 d2 d3 hc
  have e1:(gt u ((i:Int)+j)+gt a i*gt b j+c).tmod 1000000000=(gt u ((i:Int)+j)+gt a i*gt b j+c) % 1000000000:=Int.tmod_eq_emod_of_nonneg d4.2.1.1
  have e2:(gt u ((i:Int)+j)+gt a i*gt b j+c).tdiv 1000000000=(gt u ((i:Int)+j)+gt a i*gt b j+c) / 1000000000:=Int.tdiv_eq_ediv_of_nonneg d4.2.1.1
  repeat' (first|refine lT ?_|refine aJ rfl (fun h=>?_) (fun h=>?_)|refine aK rfl rfl (fun h=>?_) (fun h=>?_)|fail)
  ·have hst:=aNL (o:=u) (b:=b) (j:=j) hvu (by omega)
   rw [e1,e2]
   refine cO (b.length - (j+1)) _ _ _ (by first|omega|(simp only [List.length_append,List.length_cons,List.length_nil];omega)) dB bY bW (⟨j+1,_,_,by omega,rfl,by rw [dK];exact hu,?_,d4.2.2,?_,?_,rfl,rfl,rfl⟩)
   ·rw [iF];exact hdu.set _ (by omega)
   ·rw [iF,aBJ,yF,yF]
    rw [yF] at hst
    exact hst
   ·intro t ht
    rw [iF,mJ _ (by omega)]
    exact hzu t ht
  ·have hjb:j=b.length:=by omega
   subst hjb
   have hst:=aJH (o:=u) (b:=b) hvu (by omega) (hzu _ (Nat.le_refl _))
   repeat refine lT ?_
   refine cO (a.length - (i+1)) _ _ _ (by first|omega|(simp only [List.length_append,List.length_cons,List.length_nil];omega)) dB bY bW (⟨i+1,_,by omega,rfl,by rw [dK];exact hu,?_,?_,?_,rfl,rfl,rfl⟩)
   ·rw [iF];exact hdu.set _ hc
   ·rw [iF,hst,bV,yF]
    rw [Int.add_mul,Int.mul_assoc]
   ·intro t ht
    rw [iF,mJ _ (by omega)]
    exact hzu t (by omega)
 ·have hiN:i=a.length:=by omega
  subst hiN
  rw [List.take_length,va,vb] at hv
  have hg:gF o=gr (m*n):=oG hd (by rw [hv,Int.natCast_mul])
  refine aH yZ ?_
  (refine bD rfl (tH (l:=o) (c:=a.length+b.length) ho.symm (by omega) (by omega) bA) ?_;rintro _ _ _ ⟨rfl,rfl,rfl⟩;refine aN ?_)
  repeat refine lT ?_
  have hle2:=aAZ (o:=o)
  rw [hg] at hle2 ⊢
  refine aU (by first|exact .inl rfl|exact .inr rfl) rfl rfl _ _ bY bW (⟨rfl,_,_,rfl,⟨by omega, .inl (Ok.mk _ _)⟩,rfl⟩)
end
theorem aUX {w:World} {base b:Nat} {e:TypeId} {sz m c:Nat} {cs:List Value} (h:Blk w b cs e) (hb:base≤b) (hl:cs.length=c*sz) (hmc:m≤c) (hm:c≤9223372036854775807):w.ownsRow base e sz (.slice (some ⟨b,0,none⟩) m c) m (cs.take (m*sz)):=
 ⟨by rw [List.length_take,hl,Nat.min_eq_left (Nat.mul_le_mul_right _ hmc)], .inr ⟨b,c,cs.toArray,rfl,hb,h,hmc,by simpa [maxLen] using hm,by simpa using hl,by simp⟩⟩
theorem _root_.Go.Fx.Mem.toRowT {X:List Nat} {w0 w:World} {M M':List Ent} {I:List aL} {b m c:Nat} {cs:List Value} {e:TypeId} (sz:Nat) (h:Mem X w0 M I w) (hr:Rep (.blk b cs e) (.row (some ⟨b,0,none⟩) m c (cs.take (m*sz)) e sz) M M') (hl:cs.length=c*sz) (hmc:m≤c) (hm:c≤9223372036854775807):Mem X w0 M' I w:=by
 have hb:Blk w b cs e:=h.ent _ hr.mem
 exact h.upd hr (Ext.refl _ _) (fun b hb=> .inl hb) (by simp [Ent.blocks]) (aUX hb (Nat.zero_le _) hl hmc hm)
theorem _root_.Go.Fx.Mem.imm0 {X:List Nat} {w0 w:World} {M:List Ent} {I:List aL} (h:Mem X w0 M I w):Mem [] w [] [] w:=⟨Ext.refl _ _,fun _ h=>absurd h (by simp [muts]),by simp [muts],fun _ h=>absurd h (by simp),fun _ h=>absurd h (by simp)⟩
theorem aFQ (l:List Int) (k:Nat):(recs eG l).take k=recs eG (l.take k):=by
 rw [lQ,lQ,List.map_take]
section
variable {X:List Nat} {w0:World} {M0:List Ent} {I0:List aL}
theorem aGV {p q:Option Addr} {m n cp cq:Nat} (hm:(gr m).length≤100000000000) (hn:(gr n).length≤100000000000) (hp:aI p (recs eG (gr m))∈I0) (hq:aI q (recs eG (gr n))∈I0):
  CD Tryz.prog 125 [.slice p (gr m).length cp, .slice q (gr n).length cq] X w0 M0 I0 (fun v M I=>∃b c,v= .slice (some ⟨b,0,none⟩) (gr (m*n)).length c∧(gr (m*n)).length≤c∧M= .row (some ⟨b,0,none⟩) (gr (m*n)).length c (recs eG (gr (m*n))) 121 1::M0∧I0=I):=by
 have da:=bT m
 have db:=bT n
 have va:=cZ m
 have vb:=cZ n
 generalize ha:gr m=a at*
 generalize hb:gr n=b at*
 refine dY Tryz.func125 rfl Tryz.ntmps125 rfl ?_
 repeat refine lT ?_
 (refine jO (a.length+b.length) rfl rfl (by omega) (by omega) (by omega) (by omega) (nI _ _) rfl rfl ?_;intro bo;refine ⟨okJ,?_⟩)
 repeat refine lT ?_
 refine bX [1,5,18,19] rfl (fun k G M I=>∃(i:Nat) (o:List Int),i≤a.length∧k=a.length - i∧o.length=a.length+b.length∧Dig o∧val o=val (a.take i)*val b∧(∀j:Nat,i+b.length≤j→o.getD j 0=0)∧G=[(20, .int .i64 i)]∧M= .blk bo (recs eG o) 121::M0∧I0=I) (a.length) _ _ _ dB bY bW (⟨0,_,by omega,by omega,by simp,Dig.zeros _,by rw [aBW];simp [val],fun j _=>by simp [List.getD,List.getElem?_replicate];split <;>rfl,rfl,rfl,rfl⟩) ?_
 rintro k G M I ⟨i,o,hi,rfl,ho,hd,hv,hz,rfl,rfl,rfl⟩
 repeat' (first|refine lT ?_|refine aJ rfl (fun h=>?_) (fun h=>?_)|refine aK rfl rfl (fun h=>?_) (fun h=>?_)|fail)
 ·have hia:i < a.length:=by omega
  have d1:=da.gt i
  refine bX [1,5,6,7,18,19,20,25,26] rfl (fun k G M I=>∃(j:Nat) (u:List Int) (c:Int),j≤b.length∧k=b.length - j∧u.length=a.length+b.length∧Dig u∧(0≤c∧c < 1000000000)∧val u+1000000000 ^ (i+j)*c=val (a.take i)*val b+1000000000 ^ i*(gt a i*val (b.take j))∧(∀j:Nat,i+b.length≤j→u.getD j 0=0)∧G=[(8, .int .u64 c),(27, .int .i64 j)]∧M= .blk bo (recs eG u) 121::M0∧I0=I) (b.length) _ _ _ dB bY bW (⟨0,o,0,by omega,by omega,ho,hd,by omega,by simp [val,hv],hz,rfl,rfl,rfl⟩) ?_
  rintro k G M I ⟨j,u,c,hj,rfl,hu,hdu,hc,hvu,hzu,rfl,rfl,rfl⟩
  have d2:=db.gt j
  have d3:=hdu.gt ((i:Int)+j)
  have d4:=vB d1 d2 d3 hc
  have e1:(gt u ((i:Int)+j)+gt a i*gt b j+c).tmod 1000000000=(gt u ((i:Int)+j)+gt a i*gt b j+c) % 1000000000:=Int.tmod_eq_emod_of_nonneg d4.2.1.1
  have e2:(gt u ((i:Int)+j)+gt a i*gt b j+c).tdiv 1000000000=(gt u ((i:Int)+j)+gt a i*gt b j+c) / 1000000000:=Int.tdiv_eq_ediv_of_nonneg d4.2.1.1
  repeat' (first|refine lT ?_|refine aJ rfl (fun h=>?_) (fun h=>?_)|refine aK rfl rfl (fun h=>?_) (fun h=>?_)|fail)
  ·have hst:=aNL (o:=u) (b:=b) (j:=j) hvu (by omega)
   rw [e1,e2]
   refine cO (b.length - (j+1)) _ _ _ (by first|omega|(simp only [List.length_append,List.length_cons,List.length_nil];omega)) dB bY bW (⟨j+1,_,_,by omega,rfl,by rw [dK];exact hu,?_,d4.2.2,?_,?_,rfl,rfl,rfl⟩)
   ·rw [iF];exact hdu.set _ (by omega)
   ·rw [iF,aBJ,yF,yF]
    rw [yF] at hst
    exact hst
   ·intro t ht
    rw [iF,mJ _ (by omega)]
    exact hzu t ht
  ·have hjb:j=b.length:=by omega
   subst hjb
   have hst:=aJH (o:=u) (b:=b) hvu (by omega) (hzu _ (Nat.le_refl _))
   repeat refine lT ?_
   refine cO (a.length - (i+1)) _ _ _ (by first|omega|(simp only [List.length_append,List.length_cons,List.length_nil];omega)) dB bY bW (⟨i+1,_,by omega,rfl,by rw [dK];exact hu,?_,?_,?_,rfl,rfl,rfl⟩)
   ·rw [iF];exact hdu.set _ hc
   ·rw [iF,hst,bV,yF]
    rw [Int.add_mul,Int.mul_assoc]
   ·intro t ht
    rw [iF,mJ _ (by omega)]
    exact hzu t (by omega)
 ·have hiN:i=a.length:=by omega
  subst hiN
  rw [List.take_length,va,vb] at hv
  have hg:gF o=gr (m*n):=oG hd (by rw [hv,Int.natCast_mul])
  (refine bD rfl (CD.lend [aI (some ⟨bo,0,none⟩) (recs eG o)] (fun w hw=>Mem.lendB (b:=bo) (e:=121) bA hw hw.imm0) (fun W=>(tH (X:=[]) (w0:=W) (M0:=[]) (I0:=[aI (some ⟨bo,0,none⟩) (recs eG o)]) (l:=o) (c:=a.length+b.length) ho.symm (by omega) (by omega) bA).mono (fun _ _ _ h=>h.2.2))) ?_;rintro _ _ _ ⟨rfl,rfl,rfl⟩;refine aN ?_)
  repeat refine lT ?_
  have hle2:=aAZ (o:=o)
  obtain ⟨kk,hk1,hk2,_⟩:=xU o
  have hlk:(gr (m*n)).length=kk:=by rw [←hg,hk2,List.length_take];omega
  rw [hg] at hle2 ⊢
  refine yO (I':=I0) (M':= .row (some ⟨bo,0,none⟩) (gr (m*n)).length (a.length+b.length) (recs eG (gr (m*n))) 121 1::M0) (fun w hw=>?_) ?_
  ·refine hw.toRowT (b:=bo) (e:=121) (cs:=recs eG o) (c:=a.length+b.length) (m:=(gr (m*n)).length) 1 ?_ (by rw [lQ,List.length_map];omega) (by omega) (by omega)
   have e:(recs eG o).take ((gr (m*n)).length*1)=recs eG (gr (m*n)):=by rw [hlk,Nat.mul_one,←hg,hk2,aFQ]
   rw [e]
   exact tO
  ·refine aU (by first|exact .inl rfl|exact .inr rfl) rfl rfl _ _ bY bW (⟨_,_,rfl,by omega,rfl,rfl⟩)
end
end Go.Proofs.YtmmmfphealhapaaGreat
namespace Go.Fx
def aHD (P:Program) (tmps:Array Value) (w:World):List ResultVar→List Value→Prop
 |[],[]=>True
 | .tmp t::r,v::vs=>tmps.getD t undef=v∧aHD P tmps w r vs
 | .cell a t::r,v::vs=>(do loadVar t (←asAddr (tmps.getD a undef)):Sem Value).run P w= .ok v w∧aHD P tmps w r vs
 |_,_=>False
theorem zK (P:Program) (tmps:Array Value) (w:World):∀(rs:List ResultVar) (vs:List Value),aHD P tmps w rs vs→(rs.toArray.mapM fun
  |ResultVar.tmp t=>(pure (tmps.getD t undef):Sem Value)
  |ResultVar.cell a t=>do loadVar t (←asAddr (tmps.getD a undef))).run P w=Result.ok vs.toArray w:=by
 intro rs vs h
 rw [List.mapM_toArray]
 simp only [Sem.run_map]
 have:∀(l:List ResultVar) (vs:List Value),aHD P tmps w l vs→(List.mapM (m:=Sem) (fun
  |ResultVar.tmp t=>(pure (tmps.getD t undef):Sem Value)
  |ResultVar.cell a t=>do loadVar t (←asAddr (tmps.getD a undef))) l).run P w=Result.ok vs w:=by
  intro l
  induction l with
  |nil=>intro vs h;cases vs with
   |nil=>rfl
   |cons v vs=>exact h.elim
  |cons r l ih=>
   intro vs h
   cases vs with
   |nil=>cases r <;>exact h.elim
   |cons v vs=>
    cases r with
    |tmp t=>
     obtain ⟨h1,h2⟩:=h
     simp only [List.mapM_cons,Sem.run_bind,Sem.run_pure,Result.andThen_ok,ih vs h2,h1]
    |cell a t=>
     obtain ⟨h1,h2⟩:=h
     simp only [List.mapM_cons,Sem.run_bind] at h1 ⊢
     rw [h1]
     simp only [Result.andThen_ok,Sem.run_bind,ih vs h2,Sem.run_pure]
 rw [this rs vs h]
 rfl
theorem aHX {P:Program} {a:Tmp} {t:TypeId} {tmps:Array Value} {w:World} {b:Nat} {v:Value} {e:TypeId} [ht:ScalarTy P t] (hb:tmps.getD a undef= .pointer (some ⟨b,0,none⟩)) (hB:Blk w b [v] e):
  (do loadVar t (←asAddr (tmps.getD a undef)):Sem Value).run P w= .ok v w:=by
 have hc:=hB.cell (o:=0) rfl
 have hb':tmps[a]?.getD undef= .pointer (some ⟨b,0,none⟩):=by simpa using hb
 simp [hb',asAddr,loadVar,mK,hc]
theorem aUH {P:Program} {a:Tmp} {t:TypeId} {sz:Nat} {tmps:Array Value} {w:World} {b:Nat} {cs:List Value} {e:TypeId} [ht:AggTy P t sz] (hb:tmps.getD a undef= .pointer (some ⟨b,0,none⟩)) (hB:Blk w b cs e) (hl:cs.length=sz):
  (do loadVar t (←asAddr (tmps.getD a undef)):Sem Value).run P w= .ok (.agg cs.toArray) w:=by
 have:=run_loadCellsFrom (P:=P) cs (hB.row0) sz 0 #[] (by omega) rfl
 have hb':tmps[a]?.getD undef= .pointer (some ⟨b,0,none⟩):=by simpa using hb
 simp [hb',asAddr,loadVar,nJ,run_sizeOf ht.size,loadCells,this]
section
variable {P:Program} {n:Nat} {G:Env} {X:List Nat} {w0:World} {M M':List Ent} {I I':List aL}
inductive RsD (P:Program) (G:Env) (M:List Ent):List ResultVar→List Value→Prop
 |nil:RsD P G M [] []
 |tmp {t:Nat} {v:Value} {r:List ResultVar} {vs:List Value} (h:lk G t=some v) (k:RsD P G M r vs):RsD P G M (.tmp t::r) (v::vs)
 |cell {a:Nat} {t:TypeId} {b:Nat} {v:Value} {e:TypeId} {r:List ResultVar} {vs:List Value} (ht:ScalarTy P t) (h:lk G a=some (.pointer (some ⟨b,0,none⟩))) (hm: .blk b [v] e∈M) (k:RsD P G M r vs):RsD P G M (.cell a t::r) (v::vs)
 |cellN {a:Nat} {t:TypeId} {sz b:Nat} {cs:List Value} {e:TypeId} {r:List ResultVar} {vs:List Value} (ht:AggTy P t sz) (h:lk G a=some (.pointer (some ⟨b,0,none⟩))) (hm: .blk b cs e∈M) (hl:cs.length=sz) (k:RsD P G M r vs):RsD P G M (.cell a t::r) (.agg cs.toArray::vs)
theorem RsD.ok {a:Act} {w:World} (ha:Has n G a) (hw:Mem X w0 M I w) {rs:List ResultVar} {vs:List Value} (h:RsD P G M rs vs):aHD P a.tmps w rs vs:=by
 induction h with
 |nil=>trivial
 |tmp h _ ih=>exact ⟨by simp [ha.get _ _ h],ih⟩
 |cell ht h hm _ ih=>exact ⟨aHX (by simp [ha.get _ _ h]) (hw.blk hm),ih⟩
 |cellN ht h hm hl _ ih=>exact ⟨aUH (by simp [ha.get _ _ h]) (hw.blk hm) hl,ih⟩
theorem dW {fn:Func} {K:Value→List Ent→List aL→Prop} {rs:List ResultVar} {vs:List Value} {ex:Exit} (he:ex= .ret∨ex= .normal) (hr:fn.results=rs.toArray) (hv:RsD P G M rs vs) (hl:Nat.beq vs.length 1=false) (M':List Ent) (I':List aL) (hM:SubP M M') (hI:Inc I I') (h:K (.tuple vs.toArray) M' I'):
  ND n (Body P fn (KB K X w0)) ex G X w0 M I:=⟨fun w hw=>⟨fun a ha=>by
 unfold Body
 have e1:=zK P a.tmps w rs vs (hv.ok ha hw)
 have e2:(results fn a.tmps).run P w= .ok (.tuple vs.toArray) w:=by
  have hne:¬vs.length=1:=by intro e;simp [e] at hl
  unfold results
  rw [hr,Sem.run_bind]
  refine (congrArg (fun r=>Result.andThen r fun a w'=>Sem.run P (pure (if h:a.size=1 then a[0] else Value.tuple a)) w') e1).trans ?_
  simp [hne]
 rcases he with rfl|rfl <;>exact ⟨ha.defers,_,e2,_,rfl,M',I',h,hw.weak hM hI⟩⟩⟩
theorem bBP {fn:Func} {K:Value→List Ent→List aL→Prop} {ex:Exit} {a:Tmp} {t:TypeId} {b:Nat} {v:Value} {e:TypeId} [ScalarTy P t] (he:ex= .ret∨ex= .normal) (hr:fn.results=#[.cell a t]) (hv:lk G a=some (.pointer (some ⟨b,0,none⟩))) (hm: .blk b [v] e∈M) (M':List Ent) (I':List aL) (hM:SubP M M') (hI:Inc I I') (h:K v M' I'):
  ND n (Body P fn (KB K X w0)) ex G X w0 M I:=⟨fun w hw=>⟨fun act ha=>by
 unfold Body
 have e1:act.tmps.getD a undef= .pointer (some ⟨b,0,none⟩):=by simp [ha.get a _ hv]
 have e2:=aFW (P:=P) (t:=t) hr e1 (hw.blk hm)
 rcases he with rfl|rfl <;>exact ⟨ha.defers,_,e2,_,rfl,M',I',h,hw.weak hM hI⟩⟩⟩
end
end Go.Fx

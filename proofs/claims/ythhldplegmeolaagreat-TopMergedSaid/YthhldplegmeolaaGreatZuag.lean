/- Quotients rounded down, fractions in lowest terms, division group by group from below. -/
import Derived.Test.YthhldplegmeolaaGreatZuaf
import Derived.Test.YthhldplegmeolaaGreatProg
import Derived.Test.YthhldplegmeolaaGreatZuac
import Derived.KernelRfl
import Derived.Test.YthhldplegmeolaaGreatZuae
set_option linter.unusedSimpArgs false
set_option linter.unusedVariables false
set_option maxRecDepth 100000
set_option maxHeartbeats 4000000
namespace Go.Proofs.YthhldplegmeolaaGreat
open Go Go.Fx
theorem mM {y z q r:Int} (h:y=z*q+r) (hr:(0≤r∧r < z)∨(z < r∧r≤0)):y.fdiv z=q∧y.fmod z=r:=by
 have pos:∀{y z q r:Int},y=z*q+r→0≤r→r < z→y.fdiv z=q∧y.fmod z=r:=by
  intro y z q r h h0 h1
  have:=(Int.ediv_emod_unique (a:=y) (b:=z) (r:=r) (q:=q) (by omega)).2 ⟨by omega,h0,h1⟩
  rw [Int.fdiv_eq_ediv_of_nonneg _ (by omega),Int.fmod_eq_emod_of_nonneg _ (by omega)]
  exact this
 rcases hr with ⟨h0,h1⟩|⟨h0,h1⟩
 ·exact pos h h0 h1
 ·have h2:=pos (y:= -y) (z:= -z) (q:=q) (r:= -r) (by rw [Int.neg_mul];omega) (by omega) (by omega)
  rw [Int.neg_fdiv_neg,Int.neg_fmod_neg] at h2
  exact ⟨h2.1,by omega⟩
theorem vP {y z:Int} (hz:z≠0):
  (¬(y < 0↔z < 0)→y.natAbs % z.natAbs≠0→y.fdiv z= -((y.natAbs / z.natAbs+1:Nat):Int)∧y.fmod z=if z < 0 then -((z.natAbs - y.natAbs % z.natAbs:Nat):Int) else ((z.natAbs - y.natAbs % z.natAbs:Nat):Int))∧
  (((y < 0↔z < 0)∨y.natAbs % z.natAbs=0)→y.fdiv z=(if ¬(y < 0↔z < 0) then -((y.natAbs / z.natAbs:Nat):Int) else ((y.natAbs / z.natAbs:Nat):Int))∧y.fmod z=if z < 0 then -((y.natAbs % z.natAbs:Nat):Int) else ((y.natAbs % z.natAbs:Nat):Int)):=by
 have hlt:=Nat.mod_lt y.natAbs (show z.natAbs>0 by omega)
 have hab:(y.natAbs:Int)=(z.natAbs:Int)*((y.natAbs / z.natAbs:Nat):Int)+((y.natAbs % z.natAbs:Nat):Int):=by
  rw [←Int.natCast_mul,←Int.natCast_add,Nat.div_add_mod]
 generalize hQ:y.natAbs / z.natAbs=Q at*
 generalize hR:y.natAbs % z.natAbs=R at*
 generalize hb:z.natAbs=b at*
 generalize hp:(b:Int)*(Q:Int)=p at*
 constructor
 ·intro hs hR0
  by_cases hz0:z < 0
  ·have hy:¬y < 0:=fun h=>hs ⟨fun _=>hz0,fun _=>h⟩
   have e:z= -(b:Int):=by omega
   rw [if_pos hz0]
   refine mM ?_ (.inr ⟨by omega,by omega⟩)
   rw [e,Int.neg_mul,Int.mul_neg,Int.neg_neg,Int.natCast_add,Int.mul_add,hp];omega
  ·have hy:y < 0:=by rcases Classical.em (y < 0) with h|h;exact h;exact absurd ⟨fun h'=>absurd h' h,fun h'=>absurd h' hz0⟩ hs
   have e:z=(b:Int):=by omega
   rw [if_neg hz0]
   refine mM ?_ (.inl ⟨by omega,by omega⟩)
   rw [e,Int.mul_neg,Int.natCast_add,Int.mul_add,hp];omega
 ·intro hs
  by_cases hd:(y < 0↔z < 0)
  ·rw [if_neg (fun h=>h hd)]
   by_cases hz0:z < 0
   ·have hy:=hd.2 hz0
    have e:z= -(b:Int):=by omega
    rw [if_pos hz0]
    refine mM ?_ (.inr ⟨by omega,by omega⟩)
    rw [e,Int.neg_mul,hp];omega
   ·have hy:¬y < 0:=fun h=>hz0 (hd.1 h)
    have e:z=(b:Int):=by omega
    rw [if_neg hz0]
    refine mM ?_ (.inl ⟨by omega,by omega⟩)
    rw [e,hp];omega
  ·have hR0:=hs.resolve_left hd
   rw [if_pos hd]
   by_cases hz0:z < 0
   ·have hy:¬y < 0:=fun h=>hd ⟨fun _=>hz0,fun _=>h⟩
    have e:z= -(b:Int):=by omega
    rw [if_pos hz0]
    refine mM ?_ (.inr ⟨by omega,by omega⟩)
    rw [e,Int.neg_mul,Int.mul_neg,Int.neg_neg,hp];omega
   ·have hy:y < 0:=by rcases Classical.em (y < 0) with h|h;exact h;exact absurd ⟨fun h'=>absurd h' h,fun h'=>absurd h' hz0⟩ hd
    have e:z=(b:Int):=by omega
    rw [if_neg hz0]
    refine mM ?_ (.inl ⟨by omega,by omega⟩)
    rw [e,Int.mul_neg,hp];omega
theorem uG {n d:Int} (hd:d≠0):∃m:Int,m≠0∧n=(Rat.divInt n d).num*m∧d=(Rat.divInt n d).den*m∧(Int.gcd n d:Int)=(m.natAbs:Int)∧(m < 0↔d < 0):=by
 obtain ⟨m,hm,h1,h2⟩:=Rat.divInt_num_den (n:=n) (d:=d) (n':=(Rat.divInt n d).num) (d':=(Rat.divInt n d).den) (z':=(Rat.divInt n d).den_nz) (c:=(Rat.divInt n d).reduced) hd rfl
 refine ⟨m,hm,h1,h2,?_,?_⟩
 ·have hc:=(Rat.divInt n d).reduced
  have key:∀(a:Int) (b:Nat),Nat.gcd a.natAbs b=1→Int.gcd (a*m) ((b:Int)*m)=m.natAbs:=by
   intro a b h
   rw [Int.gcd_eq_natAbs_gcd_natAbs,Int.natAbs_mul,Int.natAbs_mul,Int.natAbs_natCast,Nat.gcd_mul_right,h,Nat.one_mul]
  have h3:=key _ _ hc
  rw [←h1,←h2] at h3
  have this:=h3
  rw [this]
 ·have hp:(0:Int) < (Rat.divInt n d).den:=by have:=(Rat.divInt n d).den_nz;omega
  constructor
  ·intro h;rw [h2];exact Int.mul_neg_of_pos_of_neg hp h
  ·intro h
   rcases Int.lt_trichotomy m 0 with h'|h'|h'
   ·exact h'
   ·exact absurd h' hm
   ·have:=Int.mul_pos hp h';omega
theorem aEA {q m:Int} (hm:m≠0):(q*m).fdiv m=q:=by
 refine (mM (y:=q*m) (z:=m) (q:=q) (r:=0) (by rw [Int.mul_comm];omega) ?_).1
 omega
theorem aIP {n d g:Int} (hd:d≠0) (hg:g=if d < 0 then -(Int.gcd n d:Int) else (Int.gcd n d:Int)):n.fdiv g=(Rat.divInt n d).num∧d.fdiv g=((Rat.divInt n d).den:Int)∧g≠0:=by
 obtain ⟨m,hm,h1,h2,h3,h4⟩:=uG (n:=n) hd
 have e:g=m:=by
  rw [hg,h3]
  by_cases h:d < 0
  ·rw [if_pos h];have:=h4.2 h;omega
  ·rw [if_neg h];have:¬m < 0:=fun h'=>h (h4.1 h');omega
 rw [e]
 refine ⟨?_,?_,hm⟩
 ·exact (congrArg (fun x=>Int.fdiv x m) h1).trans (aEA hm)
 ·exact (congrArg (fun x=>Int.fdiv x m) h2).trans (aEA hm)
theorem yZ {n d:Int}:Rat.divInt (-n) (-d)=Rat.divInt n d:=Rat.neg_divInt_neg n d
theorem aHR (q:Rat):Int.gcd q.num q.den=1:=by
 rw [Int.gcd_eq_natAbs_gcd_natAbs,Int.natAbs_natCast]
 exact q.reduced
theorem aMN (p q:Rat):p < q↔p.num*q.den < q.num*p.den:=Rat.lt_iff p q
theorem aSY (p q:Rat):p=q↔p.num*q.den=q.num*p.den:=by
 constructor
 ·rintro rfl;rfl
 ·intro h
  rw [←Rat.num_divInt_den p,←Rat.num_divInt_den q]
  refine (Rat.divInt_eq_divInt_iff (by have:=p.den_nz;omega) (by have:=q.den_nz;omega)).2 h
theorem aJR {R b g top low P b1 bl:Nat} (hR:R=top*P+low) (hb:b=b1*P+bl) (hl:low < P) (hbl:bl < P) (hg:g=top / (b1+1)):g*b≤R:=by
 have h1:g*(b1+1)≤top:=by rw [hg];exact Nat.div_mul_le_self _ _
 have h2:b≤(b1+1)*P:=by rw [hb,Nat.add_mul];omega
 have h3:g*b≤g*((b1+1)*P):=Nat.mul_le_mul_left _ h2
 have h4:g*((b1+1)*P)≤top*P:=by rw [←Nat.mul_assoc];exact Nat.mul_le_mul_right _ h1
 omega
instance:IntTy Tryz.prog 2 .i64:=⟨Tryz.underlying2⟩
instance:ScalarTy Tryz.prog 3:=⟨⟨_,Tryz.underlying3,(by intro _ h;cases h),(by intro _ _ h;cases h)⟩,by kernel_rfl⟩
instance:IntTy Tryz.prog 3 .i64:=⟨Tryz.underlying3⟩
instance:ElemTy Tryz.prog 3 1 8 [.int .i64 0]:=⟨by kernel_rfl,rfl⟩
instance:ScalarTy Tryz.prog 4:=⟨⟨_,Tryz.underlying4,(by intro _ h;cases h),(by intro _ _ h;cases h)⟩,by kernel_rfl⟩
instance:BoolTy Tryz.prog 4:=⟨Tryz.underlying4⟩
instance:ElemTy Tryz.prog 4 1 1 [.bool false]:=⟨by kernel_rfl,rfl⟩
instance:IntTy Tryz.prog 5 .u8:=⟨Tryz.underlying5⟩
instance:SliceTy Tryz.prog 22 24 1:=⟨Tryz.underlying22,by kernel_rfl⟩
instance:ScalarTy Tryz.prog 23:=⟨⟨_,Tryz.underlying23,(by intro _ h;cases h),(by intro _ _ h;cases h)⟩,by kernel_rfl⟩
instance:SliceTy Tryz.prog 23 24 1:=⟨Tryz.underlying23,by kernel_rfl⟩
instance:ElemTy Tryz.prog 23 1 24 [.slice none 0 0]:=⟨by kernel_rfl,rfl⟩
instance:ScalarTy Tryz.prog 24:=⟨⟨_,Tryz.underlying24,(by intro _ h;cases h),(by intro _ _ h;cases h)⟩,by kernel_rfl⟩
instance:SliceTy Tryz.prog 24 36 4:=⟨Tryz.underlying24,by kernel_rfl⟩
instance:ElemTy Tryz.prog 24 1 24 [.slice none 0 0]:=⟨by kernel_rfl,rfl⟩
instance:AggTy Tryz.prog 26 3:=⟨.inl ⟨_,Tryz.underlying26⟩,by kernel_rfl⟩
instance:StructTy Tryz.prog 26 [(0,1),(1,1),(2,1)] [.slice none 0 0, .slice none 0 0, .slice none 0 0]:=⟨⟨_,Tryz.underlying26,by kernel_rfl⟩,by kernel_rfl⟩
instance:FieldAt Tryz.prog 26 0 0 23 1:=⟨⟨_,_,Tryz.underlying26,rfl,rfl,rfl⟩,by kernel_rfl⟩
instance:FieldAt Tryz.prog 26 1 1 24 1:=⟨⟨_,_,Tryz.underlying26,rfl,rfl,rfl⟩,by kernel_rfl⟩
instance:FieldAt Tryz.prog 26 2 2 24 1:=⟨⟨_,_,Tryz.underlying26,rfl,rfl,rfl⟩,by kernel_rfl⟩
instance:ElemTy Tryz.prog 26 3 72 [.slice none 0 0, .slice none 0 0, .slice none 0 0]:=⟨by kernel_rfl,rfl⟩
instance:ScalarTy Tryz.prog 32:=⟨⟨_,Tryz.underlying32,(by intro _ h;cases h),(by intro _ _ h;cases h)⟩,by kernel_rfl⟩
instance:SliceTy Tryz.prog 32 103 1:=⟨Tryz.underlying32,by kernel_rfl⟩
instance:AggTy Tryz.prog 34 2:=⟨.inl ⟨_,Tryz.underlying34⟩,by kernel_rfl⟩
instance:StructTy Tryz.prog 34 [(0,1),(1,1)] [.bool false, .slice none 0 0]:=⟨⟨_,Tryz.underlying34,by kernel_rfl⟩,by kernel_rfl⟩
instance:FieldAt Tryz.prog 34 0 0 4 1:=⟨⟨_,_,Tryz.underlying34,rfl,rfl,rfl⟩,by kernel_rfl⟩
instance:FieldAt Tryz.prog 34 1 1 32 1:=⟨⟨_,_,Tryz.underlying34,rfl,rfl,rfl⟩,by kernel_rfl⟩
instance:ElemTy Tryz.prog 34 2 32 [.bool false, .slice none 0 0]:=⟨by kernel_rfl,rfl⟩
instance:AggTy Tryz.prog 36 4:=⟨.inl ⟨_,Tryz.underlying36⟩,by kernel_rfl⟩
instance:StructTy Tryz.prog 36 [(0,2),(2,2)] [.bool false, .slice none 0 0, .bool false, .slice none 0 0]:=⟨⟨_,Tryz.underlying36,by kernel_rfl⟩,by kernel_rfl⟩
instance:FieldAt Tryz.prog 36 0 0 34 2:=⟨⟨_,_,Tryz.underlying36,rfl,rfl,rfl⟩,by kernel_rfl⟩
instance:FieldAt Tryz.prog 36 1 2 34 2:=⟨⟨_,_,Tryz.underlying36,rfl,rfl,rfl⟩,by kernel_rfl⟩
instance:ElemTy Tryz.prog 36 4 64 [.bool false, .slice none 0 0, .bool false, .slice none 0 0]:=⟨by kernel_rfl,rfl⟩
instance:ScalarTy Tryz.prog 37:=⟨⟨_,Tryz.underlying37,(by intro _ h;cases h),(by intro _ _ h;cases h)⟩,by kernel_rfl⟩
instance:SliceTy Tryz.prog 41 4 1:=⟨Tryz.underlying41,by kernel_rfl⟩
instance:AggTy Tryz.prog 63 2:=⟨.inl ⟨_,Tryz.underlying63⟩,by kernel_rfl⟩
instance:StructTy Tryz.prog 63 [(0,1),(1,1)] [.slice none 0 0, .slice none 0 0]:=⟨⟨_,Tryz.underlying63,by kernel_rfl⟩,by kernel_rfl⟩
instance:FieldAt Tryz.prog 63 0 0 23 1:=⟨⟨_,_,Tryz.underlying63,rfl,rfl,rfl⟩,by kernel_rfl⟩
instance:FieldAt Tryz.prog 63 1 1 24 1:=⟨⟨_,_,Tryz.underlying63,rfl,rfl,rfl⟩,by kernel_rfl⟩
instance:ElemTy Tryz.prog 63 2 48 [.slice none 0 0, .slice none 0 0]:=⟨by kernel_rfl,rfl⟩
instance:AggTy Tryz.prog 67 6:=⟨.inl ⟨_,Tryz.underlying67⟩,by kernel_rfl⟩
instance:StructTy Tryz.prog 67 [(0,3),(3,1),(4,1),(5,1)] [.slice none 0 0, .slice none 0 0, .slice none 0 0, .slice none 0 0, .slice none 0 0, .nilFunc]:=⟨⟨_,Tryz.underlying67,by kernel_rfl⟩,by kernel_rfl⟩
instance:FieldAt Tryz.prog 67 0 0 26 3:=⟨⟨_,_,Tryz.underlying67,rfl,rfl,rfl⟩,by kernel_rfl⟩
instance:FieldAt Tryz.prog 67 2 4 24 1:=⟨⟨_,_,Tryz.underlying67,rfl,rfl,rfl⟩,by kernel_rfl⟩
instance:FieldAt Tryz.prog 67 3 5 37 1:=⟨⟨_,_,Tryz.underlying67,rfl,rfl,rfl⟩,by kernel_rfl⟩
instance:ElemTy Tryz.prog 67 6 128 [.slice none 0 0, .slice none 0 0, .slice none 0 0, .slice none 0 0, .slice none 0 0, .nilFunc]:=⟨by kernel_rfl,rfl⟩
instance:ScalarTy Tryz.prog 73:=⟨⟨_,Tryz.underlying73,(by intro _ h;cases h),(by intro _ _ h;cases h)⟩,by kernel_rfl⟩
instance:ElemTy Tryz.prog 73 1 8 [.pointer none]:=⟨by kernel_rfl,rfl⟩
instance:ScalarTy Tryz.prog 77:=⟨⟨_,Tryz.underlying77,(by intro _ h;cases h),(by intro _ _ h;cases h)⟩,by kernel_rfl⟩
instance:SliceTy Tryz.prog 77 3 1:=⟨Tryz.underlying77,by kernel_rfl⟩
instance:StructTy Tryz.prog 101 [(0,3),(3,1),(4,1),(5,1),(6,1)] [.slice none 0 0, .slice none 0 0, .slice none 0 0, .slice none 0 0, .slice none 0 0, .slice none 0 0, .slice none 0 0]:=⟨⟨_,Tryz.underlying101,by kernel_rfl⟩,by kernel_rfl⟩
instance:FieldAt Tryz.prog 101 0 0 26 3:=⟨⟨_,_,Tryz.underlying101,rfl,rfl,rfl⟩,by kernel_rfl⟩
instance:FieldAt Tryz.prog 101 1 3 77 1:=⟨⟨_,_,Tryz.underlying101,rfl,rfl,rfl⟩,by kernel_rfl⟩
instance:FieldAt Tryz.prog 101 2 4 23 1:=⟨⟨_,_,Tryz.underlying101,rfl,rfl,rfl⟩,by kernel_rfl⟩
instance:FieldAt Tryz.prog 101 3 5 23 1:=⟨⟨_,_,Tryz.underlying101,rfl,rfl,rfl⟩,by kernel_rfl⟩
instance:FieldAt Tryz.prog 101 4 6 23 1:=⟨⟨_,_,Tryz.underlying101,rfl,rfl,rfl⟩,by kernel_rfl⟩
instance:ScalarTy Tryz.prog 103:=⟨⟨_,Tryz.underlying103,(by intro _ h;cases h),(by intro _ _ h;cases h)⟩,by kernel_rfl⟩
instance:IntTy Tryz.prog 103 .u32:=⟨Tryz.underlying103⟩
instance:ElemTy Tryz.prog 103 1 4 [.int .u32 0]:=⟨by kernel_rfl,rfl⟩
instance:ScalarTy Tryz.prog 106:=⟨⟨_,Tryz.underlying106,(by intro _ h;cases h),(by intro _ _ h;cases h)⟩,by kernel_rfl⟩
instance:IntTy Tryz.prog 106 .u64:=⟨Tryz.underlying106⟩
instance:IntTy Tryz.prog 152 .u64:=⟨Tryz.underlying152⟩
instance:FnOk Tryz.prog 3:=⟨_,Tryz.func3,by kernel_rfl,by kernel_rfl⟩
instance:FnOk Tryz.prog 4:=⟨_,Tryz.func4,by kernel_rfl,by kernel_rfl⟩
instance:FnOk Tryz.prog 5:=⟨_,Tryz.func5,by kernel_rfl,by kernel_rfl⟩
instance:FnOk Tryz.prog 6:=⟨_,Tryz.func6,by kernel_rfl,by kernel_rfl⟩
instance:FnOk Tryz.prog 7:=⟨_,Tryz.func7,by kernel_rfl,by kernel_rfl⟩
instance:FnOk Tryz.prog 8:=⟨_,Tryz.func8,by kernel_rfl,by kernel_rfl⟩
instance:FnOk Tryz.prog 9:=⟨_,Tryz.func9,by kernel_rfl,by kernel_rfl⟩
instance:FnOk Tryz.prog 10:=⟨_,Tryz.func10,by kernel_rfl,by kernel_rfl⟩
instance:FnOk Tryz.prog 11:=⟨_,Tryz.func11,by kernel_rfl,by kernel_rfl⟩
instance:FnOk Tryz.prog 12:=⟨_,Tryz.func12,by kernel_rfl,by kernel_rfl⟩
instance:FnOk Tryz.prog 13:=⟨_,Tryz.func13,by kernel_rfl,by kernel_rfl⟩
instance:FnOk Tryz.prog 14:=⟨_,Tryz.func14,by kernel_rfl,by kernel_rfl⟩
instance:FnOk Tryz.prog 15:=⟨_,Tryz.func15,by kernel_rfl,by kernel_rfl⟩
instance:FnOk Tryz.prog 16:=⟨_,Tryz.func16,by kernel_rfl,by kernel_rfl⟩
instance:FnOk Tryz.prog 17:=⟨_,Tryz.func17,by kernel_rfl,by kernel_rfl⟩
instance:FnOk Tryz.prog 18:=⟨_,Tryz.func18,by kernel_rfl,by kernel_rfl⟩
instance:FnOk Tryz.prog 19:=⟨_,Tryz.func19,by kernel_rfl,by kernel_rfl⟩
instance:FnOk Tryz.prog 20:=⟨_,Tryz.func20,by kernel_rfl,by kernel_rfl⟩
instance:FnOk Tryz.prog 21:=⟨_,Tryz.func21,by kernel_rfl,by kernel_rfl⟩
instance:FnOk Tryz.prog 22:=⟨_,Tryz.func22,by kernel_rfl,by kernel_rfl⟩
instance:FnOk Tryz.prog 23:=⟨_,Tryz.func23,by kernel_rfl,by kernel_rfl⟩
instance:FnOk Tryz.prog 24:=⟨_,Tryz.func24,by kernel_rfl,by kernel_rfl⟩
instance:FnOk Tryz.prog 25:=⟨_,Tryz.func25,by kernel_rfl,by kernel_rfl⟩
instance:FnOk Tryz.prog 26:=⟨_,Tryz.func26,by kernel_rfl,by kernel_rfl⟩
instance:FnOk Tryz.prog 27:=⟨_,Tryz.func27,by kernel_rfl,by kernel_rfl⟩
instance:FnOk Tryz.prog 28:=⟨_,Tryz.func28,by kernel_rfl,by kernel_rfl⟩
instance:FnOk Tryz.prog 29:=⟨_,Tryz.func29,by kernel_rfl,by kernel_rfl⟩
instance:FnOk Tryz.prog 30:=⟨_,Tryz.func30,by kernel_rfl,by kernel_rfl⟩
instance:FnOk Tryz.prog 31:=⟨_,Tryz.func31,by kernel_rfl,by kernel_rfl⟩
instance:FnOk Tryz.prog 32:=⟨_,Tryz.func32,by kernel_rfl,by kernel_rfl⟩
instance:FnOk Tryz.prog 33:=⟨_,Tryz.func33,by kernel_rfl,by kernel_rfl⟩
instance:FnOk Tryz.prog 34:=⟨_,Tryz.func34,by kernel_rfl,by kernel_rfl⟩
instance:FnOk Tryz.prog 35:=⟨_,Tryz.func35,by kernel_rfl,by kernel_rfl⟩
instance:FnOk Tryz.prog 36:=⟨_,Tryz.func36,by kernel_rfl,by kernel_rfl⟩
instance:FnOk Tryz.prog 37:=⟨_,Tryz.func37,by kernel_rfl,by kernel_rfl⟩
instance:FnOk Tryz.prog 38:=⟨_,Tryz.func38,by kernel_rfl,by kernel_rfl⟩
instance:FnOk Tryz.prog 39:=⟨_,Tryz.func39,by kernel_rfl,by kernel_rfl⟩
instance:FnOk Tryz.prog 40:=⟨_,Tryz.func40,by kernel_rfl,by kernel_rfl⟩
instance:FnOk Tryz.prog 41:=⟨_,Tryz.func41,by kernel_rfl,by kernel_rfl⟩
instance:FnOk Tryz.prog 42:=⟨_,Tryz.func42,by kernel_rfl,by kernel_rfl⟩
instance:FnOk Tryz.prog 43:=⟨_,Tryz.func43,by kernel_rfl,by kernel_rfl⟩
instance:FnOk Tryz.prog 44:=⟨_,Tryz.func44,by kernel_rfl,by kernel_rfl⟩
instance:FnOk Tryz.prog 45:=⟨_,Tryz.func45,by kernel_rfl,by kernel_rfl⟩
instance:FnOk Tryz.prog 46:=⟨_,Tryz.func46,by kernel_rfl,by kernel_rfl⟩
instance:FnOk Tryz.prog 47:=⟨_,Tryz.func47,by kernel_rfl,by kernel_rfl⟩
instance:FnOk Tryz.prog 48:=⟨_,Tryz.func48,by kernel_rfl,by kernel_rfl⟩
instance:FnOk Tryz.prog 49:=⟨_,Tryz.func49,by kernel_rfl,by kernel_rfl⟩
instance:FnOk Tryz.prog 50:=⟨_,Tryz.func50,by kernel_rfl,by kernel_rfl⟩
instance:FnOk Tryz.prog 51:=⟨_,Tryz.func51,by kernel_rfl,by kernel_rfl⟩
instance:FnOk Tryz.prog 52:=⟨_,Tryz.func52,by kernel_rfl,by kernel_rfl⟩
instance:FnOk Tryz.prog 53:=⟨_,Tryz.func53,by kernel_rfl,by kernel_rfl⟩
instance:FnOk Tryz.prog 54:=⟨_,Tryz.func54,by kernel_rfl,by kernel_rfl⟩
instance:FnOk Tryz.prog 55:=⟨_,Tryz.func55,by kernel_rfl,by kernel_rfl⟩
instance:FnOk Tryz.prog 56:=⟨_,Tryz.func56,by kernel_rfl,by kernel_rfl⟩
instance:FnOk Tryz.prog 57:=⟨_,Tryz.func57,by kernel_rfl,by kernel_rfl⟩
instance:FnOk Tryz.prog 58:=⟨_,Tryz.func58,by kernel_rfl,by kernel_rfl⟩
instance:FnOk Tryz.prog 59:=⟨_,Tryz.func59,by kernel_rfl,by kernel_rfl⟩
instance:FnOk Tryz.prog 60:=⟨_,Tryz.func60,by kernel_rfl,by kernel_rfl⟩
instance:FnOk Tryz.prog 62:=⟨_,Tryz.func62,by kernel_rfl,by kernel_rfl⟩
instance:FnOk Tryz.prog 63:=⟨_,Tryz.func63,by kernel_rfl,by kernel_rfl⟩
instance:FnOk Tryz.prog 64:=⟨_,Tryz.func64,by kernel_rfl,by kernel_rfl⟩
instance:FnOk Tryz.prog 65:=⟨_,Tryz.func65,by kernel_rfl,by kernel_rfl⟩
instance:FnOk Tryz.prog 66:=⟨_,Tryz.func66,by kernel_rfl,by kernel_rfl⟩
instance:FnOk Tryz.prog 67:=⟨_,Tryz.func67,by kernel_rfl,by kernel_rfl⟩
instance:FnOk Tryz.prog 68:=⟨_,Tryz.func68,by kernel_rfl,by kernel_rfl⟩
instance:FnOk Tryz.prog 69:=⟨_,Tryz.func69,by kernel_rfl,by kernel_rfl⟩
instance:FnOk Tryz.prog 70:=⟨_,Tryz.func70,by kernel_rfl,by kernel_rfl⟩
instance:FnOk Tryz.prog 71:=⟨_,Tryz.func71,by kernel_rfl,by kernel_rfl⟩
instance:FnOk Tryz.prog 72:=⟨_,Tryz.func72,by kernel_rfl,by kernel_rfl⟩
instance:FnOk Tryz.prog 73:=⟨_,Tryz.func73,by kernel_rfl,by kernel_rfl⟩
instance:FnOk Tryz.prog 74:=⟨_,Tryz.func74,by kernel_rfl,by kernel_rfl⟩
instance:FnOk Tryz.prog 75:=⟨_,Tryz.func75,by kernel_rfl,by kernel_rfl⟩
instance:FnOk Tryz.prog 76:=⟨_,Tryz.func76,by kernel_rfl,by kernel_rfl⟩
instance:FnOk Tryz.prog 77:=⟨_,Tryz.func77,by kernel_rfl,by kernel_rfl⟩
instance:FnOk Tryz.prog 78:=⟨_,Tryz.func78,by kernel_rfl,by kernel_rfl⟩
instance:FnOk Tryz.prog 79:=⟨_,Tryz.func79,by kernel_rfl,by kernel_rfl⟩
instance:FnOk Tryz.prog 80:=⟨_,Tryz.func80,by kernel_rfl,by kernel_rfl⟩
instance:FnOk Tryz.prog 81:=⟨_,Tryz.func81,by kernel_rfl,by kernel_rfl⟩
instance:FnOk Tryz.prog 82:=⟨_,Tryz.func82,by kernel_rfl,by kernel_rfl⟩
instance:FnOk Tryz.prog 83:=⟨_,Tryz.func83,by kernel_rfl,by kernel_rfl⟩
instance:FnOk Tryz.prog 84:=⟨_,Tryz.func84,by kernel_rfl,by kernel_rfl⟩
instance:FnOk Tryz.prog 85:=⟨_,Tryz.func85,by kernel_rfl,by kernel_rfl⟩
instance:FnOk Tryz.prog 86:=⟨_,Tryz.func86,by kernel_rfl,by kernel_rfl⟩
instance:FnOk Tryz.prog 87:=⟨_,Tryz.func87,by kernel_rfl,by kernel_rfl⟩
instance:FnOk Tryz.prog 88:=⟨_,Tryz.func88,by kernel_rfl,by kernel_rfl⟩
instance:FnOk Tryz.prog 89:=⟨_,Tryz.func89,by kernel_rfl,by kernel_rfl⟩
instance:FnOk Tryz.prog 90:=⟨_,Tryz.func90,by kernel_rfl,by kernel_rfl⟩
instance:FnOk Tryz.prog 91:=⟨_,Tryz.func91,by kernel_rfl,by kernel_rfl⟩
instance:FnOk Tryz.prog 92:=⟨_,Tryz.func92,by kernel_rfl,by kernel_rfl⟩
instance:FnOk Tryz.prog 93:=⟨_,Tryz.func93,by kernel_rfl,by kernel_rfl⟩
instance:FnOk Tryz.prog 94:=⟨_,Tryz.func94,by kernel_rfl,by kernel_rfl⟩
instance:FnOk Tryz.prog 95:=⟨_,Tryz.func95,by kernel_rfl,by kernel_rfl⟩
instance:FnOk Tryz.prog 96:=⟨_,Tryz.func96,by kernel_rfl,by kernel_rfl⟩
instance:FnOk Tryz.prog 97:=⟨_,Tryz.func97,by kernel_rfl,by kernel_rfl⟩
instance:FnOk Tryz.prog 98:=⟨_,Tryz.func98,by kernel_rfl,by kernel_rfl⟩
instance:FnOk Tryz.prog 99:=⟨_,Tryz.func99,by kernel_rfl,by kernel_rfl⟩
instance:FnOk Tryz.prog 100:=⟨_,Tryz.func100,by kernel_rfl,by kernel_rfl⟩
instance:FnOk Tryz.prog 101:=⟨_,Tryz.func101,by kernel_rfl,by kernel_rfl⟩
instance:FnOk Tryz.prog 102:=⟨_,Tryz.func102,by kernel_rfl,by kernel_rfl⟩
instance:FnOk Tryz.prog 103:=⟨_,Tryz.func103,by kernel_rfl,by kernel_rfl⟩
instance:FnOk Tryz.prog 104:=⟨_,Tryz.func104,by kernel_rfl,by kernel_rfl⟩
instance:FnOk Tryz.prog 105:=⟨_,Tryz.func105,by kernel_rfl,by kernel_rfl⟩
instance:FnOk Tryz.prog 106:=⟨_,Tryz.func106,by kernel_rfl,by kernel_rfl⟩
instance:FnOk Tryz.prog 107:=⟨_,Tryz.func107,by kernel_rfl,by kernel_rfl⟩
instance:FnOk Tryz.prog 108:=⟨_,Tryz.func108,by kernel_rfl,by kernel_rfl⟩
instance:FnOk Tryz.prog 109:=⟨_,Tryz.func109,by kernel_rfl,by kernel_rfl⟩
instance:FnOk Tryz.prog 110:=⟨_,Tryz.func110,by kernel_rfl,by kernel_rfl⟩
instance:FnOk Tryz.prog 111:=⟨_,Tryz.func111,by kernel_rfl,by kernel_rfl⟩
instance:FnOk Tryz.prog 112:=⟨_,Tryz.func112,by kernel_rfl,by kernel_rfl⟩
instance:FnOk Tryz.prog 113:=⟨_,Tryz.func113,by kernel_rfl,by kernel_rfl⟩
instance:FnOk Tryz.prog 114:=⟨_,Tryz.func114,by kernel_rfl,by kernel_rfl⟩
instance:FnOk Tryz.prog 115:=⟨_,Tryz.func115,by kernel_rfl,by kernel_rfl⟩
instance:FnOk Tryz.prog 116:=⟨_,Tryz.func116,by kernel_rfl,by kernel_rfl⟩
instance:FnOk Tryz.prog 117:=⟨_,Tryz.func117,by kernel_rfl,by kernel_rfl⟩
instance:FnOk Tryz.prog 118:=⟨_,Tryz.func118,by kernel_rfl,by kernel_rfl⟩
instance:FnOk Tryz.prog 119:=⟨_,Tryz.func119,by kernel_rfl,by kernel_rfl⟩
instance:FnOk Tryz.prog 120:=⟨_,Tryz.func120,by kernel_rfl,by kernel_rfl⟩
instance:FnOk Tryz.prog 121:=⟨_,Tryz.func121,by kernel_rfl,by kernel_rfl⟩
instance:FnOk Tryz.prog 122:=⟨_,Tryz.func122,by kernel_rfl,by kernel_rfl⟩
instance:FnOk Tryz.prog 123:=⟨_,Tryz.func123,by kernel_rfl,by kernel_rfl⟩
instance:FnOk Tryz.prog 124:=⟨_,Tryz.func124,by kernel_rfl,by kernel_rfl⟩
instance:FnOk Tryz.prog 125:=⟨_,Tryz.func125,by kernel_rfl,by kernel_rfl⟩
instance:FnOk Tryz.prog 126:=⟨_,Tryz.func126,by kernel_rfl,by kernel_rfl⟩
instance:FnOk Tryz.prog 127:=⟨_,Tryz.func127,by kernel_rfl,by kernel_rfl⟩
instance:FnOk Tryz.prog 128:=⟨_,Tryz.func128,by kernel_rfl,by kernel_rfl⟩
instance:FnOk Tryz.prog 129:=⟨_,Tryz.func129,by kernel_rfl,by kernel_rfl⟩
instance:FnOk Tryz.prog 130:=⟨_,Tryz.func130,by kernel_rfl,by kernel_rfl⟩
instance:FnOk Tryz.prog 131:=⟨_,Tryz.func131,by kernel_rfl,by kernel_rfl⟩
instance:FnOk Tryz.prog 132:=⟨_,Tryz.func132,by kernel_rfl,by kernel_rfl⟩
instance:FnOk Tryz.prog 133:=⟨_,Tryz.func133,by kernel_rfl,by kernel_rfl⟩
instance:FnOk Tryz.prog 134:=⟨_,Tryz.func134,by kernel_rfl,by kernel_rfl⟩
instance:FnOk Tryz.prog 135:=⟨_,Tryz.func135,by kernel_rfl,by kernel_rfl⟩
instance:FnOk Tryz.prog 136:=⟨_,Tryz.func136,by kernel_rfl,by kernel_rfl⟩
instance:FnOk Tryz.prog 137:=⟨_,Tryz.func137,by kernel_rfl,by kernel_rfl⟩
instance:FnOk Tryz.prog 138:=⟨_,Tryz.func138,by kernel_rfl,by kernel_rfl⟩
instance:FnOk Tryz.prog 139:=⟨_,Tryz.func139,by kernel_rfl,by kernel_rfl⟩
instance:FnOk Tryz.prog 140:=⟨_,Tryz.func140,by kernel_rfl,by kernel_rfl⟩
instance:FnOk Tryz.prog 141:=⟨_,Tryz.func141,by kernel_rfl,by kernel_rfl⟩
instance:FnOk Tryz.prog 142:=⟨_,Tryz.func142,by kernel_rfl,by kernel_rfl⟩
instance:FnOk Tryz.prog 143:=⟨_,Tryz.func143,by kernel_rfl,by kernel_rfl⟩
instance:FnOk Tryz.prog 144:=⟨_,Tryz.func144,by kernel_rfl,by kernel_rfl⟩
instance:FnOk Tryz.prog 145:=⟨_,Tryz.func145,by kernel_rfl,by kernel_rfl⟩
instance:FnOk Tryz.prog 146:=⟨_,Tryz.func146,by kernel_rfl,by kernel_rfl⟩
instance:FnOk Tryz.prog 147:=⟨_,Tryz.func147,by kernel_rfl,by kernel_rfl⟩
instance:FnOk Tryz.prog 148:=⟨_,Tryz.func148,by kernel_rfl,by kernel_rfl⟩
instance:FnOk Tryz.prog 149:=⟨_,Tryz.func149,by kernel_rfl,by kernel_rfl⟩
instance:FnOk Tryz.prog 150:=⟨_,Tryz.func150,by kernel_rfl,by kernel_rfl⟩
instance:FnOk Tryz.prog 151:=⟨_,Tryz.func151,by kernel_rfl,by kernel_rfl⟩
instance:FnOk Tryz.prog 152:=⟨_,Tryz.func152,by kernel_rfl,by kernel_rfl⟩
instance:FnOk Tryz.prog 153:=⟨_,Tryz.func153,by kernel_rfl,by kernel_rfl⟩
instance:FnOk Tryz.prog 154:=⟨_,Tryz.func154,by kernel_rfl,by kernel_rfl⟩
instance:FnOk Tryz.prog 155:=⟨_,Tryz.func155,by kernel_rfl,by kernel_rfl⟩
instance:FnOk Tryz.prog 156:=⟨_,Tryz.func156,by kernel_rfl,by kernel_rfl⟩
instance:FnOk Tryz.prog 157:=⟨_,Tryz.func157,by kernel_rfl,by kernel_rfl⟩
instance:FnOk Tryz.prog 158:=⟨_,Tryz.func158,by kernel_rfl,by kernel_rfl⟩
instance:FnOk Tryz.prog 159:=⟨_,Tryz.func159,by kernel_rfl,by kernel_rfl⟩
instance:FnOk Tryz.prog 160:=⟨_,Tryz.func160,by kernel_rfl,by kernel_rfl⟩
instance:FnOk Tryz.prog 161:=⟨_,Tryz.func161,by kernel_rfl,by kernel_rfl⟩
instance:FnOk Tryz.prog 162:=⟨_,Tryz.func162,by kernel_rfl,by kernel_rfl⟩
instance:FnOk Tryz.prog 163:=⟨_,Tryz.func163,by kernel_rfl,by kernel_rfl⟩
instance:FnOk Tryz.prog 165:=⟨_,Tryz.func165,by kernel_rfl,by kernel_rfl⟩
instance:FnOk Tryz.prog 166:=⟨_,Tryz.func166,by kernel_rfl,by kernel_rfl⟩
theorem mixed:Tryz.prog.follows .mixedOrders=true:=by kernel_rfl
end Go.Proofs.YthhldplegmeolaaGreat
namespace Go.Fx
structure BoxP (g:Prop):Prop where
 out:g
section
variable {P:Program} {n:Nat} {Q:Exit→Act→World→Prop} {G:Env} {X:List Nat} {w0:World} {M:List Ent} {I:List aN} {ops l:List Oper} {m:Mode} {c:Code} {e:Exit}
structure Br (b:Bool) (p q:Prop):Prop where
 y:b=true→p
 n:b=false→q
theorem Br.dec {p:Prop} [Decidable p]:Br (B p) p (¬p):=⟨fun h=>Decidable.byContradiction (fun hn=>by rw [aW hn] at h;cases h),fun h hp=>by rw [bV hp] at h;cases h⟩
theorem Br.raw {b:Bool}:Br b (b=true) (b=false):=⟨id,id⟩
theorem Br.lit:Br true True False:=⟨fun _=>True.intro,fun h=>by cases h⟩
theorem Br.lit2:Br false False True:=⟨fun h=>(by cases h),fun _=>True.intro⟩
theorem aI {c:Operand} {x y:Code} {b:Bool} {p q:Prop} (hc:ev G c=some (.bool b)) (h1:p→TD P n x Q G X w0 M I) (h2:q→TD P n y Q G X w0 M I) (hb:Br b p q:=by first|exact Br.dec|exact Br.raw|fail):TD P n (.cond c x y) Q G X w0 M I:=
 aQI hc (fun e=>h1 (hb.y e)) (fun e=>h2 (hb.n e))
theorem aH {op:Op} {ty:TypeId} {pos:String} {af:Array Edge} {d:Option Nat} {b:Bool} {p q:Prop} {g:Nat × Bool} {t:Nat} (hj:nQ ops g.1=some t) (hv:lk G t=some (.bool b))
  (h1:p→RD P n ops Q m (⟨d,op,ty,pos,af,some g⟩::l) ((t, .bool true)::G) X w0 M I) (h2:q→RD P n ops Q m (⟨d,op,ty,pos,af,some g⟩::l) ((t, .bool false)::G) X w0 M I) (hb:Br b p q:=by first|exact Br.dec|((fail_if_success exact Br.lit);(fail_if_success exact Br.lit2);exact Br.raw)|fail):
  RD P n ops Q m (⟨d,op,ty,pos,af,some g⟩::l) G X w0 M I:=aQZ hj hv (fun e=>h1 (hb.y e)) (fun e=>h2 (hb.n e))
end
end Go.Fx
namespace Go.Fx
theorem jK {p g:Prop} (h:g) (w:BoxP g→p:=by (intro hh;(first|refine aF ?_|refine fJ ?_|refine lQ ?_|refine jI ?_|refine iB ?_|refine gM ?_|refine jJ ?_|refine iW ?_|refine gY ?_|refine gV ?_|refine lY ?_|refine lV ?_|refine mD ?_|refine lU rfl ?_|refine bG ?_|(refine iT ?_;first|refine iV rfl rfl rfl ?_|(refine iQ rfl rfl ?_;refine fV rfl rfl rfl okJ ?_)|refine iI rfl rfl (by omega) ?_|refine iK rfl rfl (by omega) ?_)|(refine cK ?_;refine aB rfl (fun _=>dP rfl) rfl rfl ?_)|refine aB rfl (fun _=>aZ rfl) rfl rfl ?_|(refine iP ?_;first|refine aB rfl (fun _=>bL rfl rfl w_) rfl rfl ?_|refine aB rfl (fun _=>bK rfl rfl w_) rfl rfl ?_|refine aB rfl (fun _=>fD rfl rfl w_) rfl rfl ?_|refine aB rfl (fun _=>fE rfl rfl (by omega) q_) rfl rfl ?_|refine aB rfl (fun _=>fC rfl rfl (by omega) rfl) rfl rfl ?_|refine aB rfl (fun _=>dS rfl rfl) rfl rfl ?_|refine aB rfl (fun _=>eX rfl rfl) rfl rfl ?_|refine aB rfl (fun _=>fA rfl rfl) rfl rfl ?_)|(refine cK ?_;first|refine aB rfl (fun _=>eD rfl w_) rfl rfl ?_)|(refine iU ?_;first|refine aB rfl (fun _=>dI rfl w_) rfl rfl ?_)|(refine iX ?_;first|refine aB rfl (fun _=>bM rfl) rfl rfl ?_|refine aB rfl (fun _=>dV rfl rfl) rfl rfl ?_|refine aB rfl (fun _=>dW rfl rfl) rfl rfl ?_|refine aB rfl (fun _=>dX rfl rfl rfl) rfl rfl ?_)|(refine iM ?_;first|refine iN rfl (by decide) rfl rfl ?_|refine kR rfl (by decide) rfl rfl ?_)|(refine iJ ?_;first|refine aB rfl (fun _=>dH rfl) rfl rfl ?_)|(refine iO ?_;first|refine kL rfl rfl jE rfl rfl ?_|refine kM vwJ rfl rfl jE aQ kT rfl rfl ?_|refine kK vwJ rfl rfl jE aQ kT rfl rfl ?_|refine aB rfl (fun _=>bZ rfl rfl jE) rfl rfl ?_)|(refine gF ?_;first|refine kQ vwJ rfl aQ uB rfl rfl ?_|refine kS vwJ rfl aQ uB rfl rfl ?_|refine kP vwJ rfl aQ uB rfl rfl ?_|refine iL vwJ rfl aQ uB rfl rfl ?_|refine nU vwJ rfl aQ kX iE rfl rfl ?_|refine nV vwJ rfl aQ kX iE rfl rfl ?_|refine nT vwJ rfl aQ kX iE rfl rfl ?_|refine mK vwJ rfl aQ kX iE rfl rfl ?_)|(refine iR ?_;first|refine aB rfl (fun _=>bY rfl rfl) rfl rfl ?_|refine aB rfl (fun _=>bQ rfl) rfl rfl ?_)|(refine kZ ?_;first|refine nS rfl rfl rfl pQ stC rfl rfl ⟨okJ,?_⟩|refine iG rfl rfl iE xN pQ xP rfl rfl ⟨okJ,?_⟩)|(refine jL ?_;first|refine dJ rfl ?_|refine cO rfl ?_|refine lX rfl (by omega) ?_|refine pM rfl (by omega) ?_));(repeat (first|refine aF ?_|refine fJ ?_|refine lQ ?_|refine jI ?_|refine iB ?_|refine gM ?_|refine jJ ?_|refine iW ?_|refine gY ?_|refine gV ?_|refine lY ?_|refine lV ?_|refine mD ?_|refine lU rfl ?_|refine bG ?_|(refine iT ?_;first|refine iV rfl rfl rfl ?_|(refine iQ rfl rfl ?_;refine fV rfl rfl rfl okJ ?_)|refine iI rfl rfl (by omega) ?_|refine iK rfl rfl (by omega) ?_)|(refine cK ?_;refine aB rfl (fun _=>dP rfl) rfl rfl ?_)|refine aB rfl (fun _=>aZ rfl) rfl rfl ?_|(refine iP ?_;first|refine aB rfl (fun _=>bL rfl rfl w_) rfl rfl ?_|refine aB rfl (fun _=>bK rfl rfl w_) rfl rfl ?_|refine aB rfl (fun _=>fD rfl rfl w_) rfl rfl ?_|refine aB rfl (fun _=>fE rfl rfl (by omega) q_) rfl rfl ?_|refine aB rfl (fun _=>fC rfl rfl (by omega) rfl) rfl rfl ?_|refine aB rfl (fun _=>dS rfl rfl) rfl rfl ?_|refine aB rfl (fun _=>eX rfl rfl) rfl rfl ?_|refine aB rfl (fun _=>fA rfl rfl) rfl rfl ?_)|(refine cK ?_;first|refine aB rfl (fun _=>eD rfl w_) rfl rfl ?_)|(refine iU ?_;first|refine aB rfl (fun _=>dI rfl w_) rfl rfl ?_)|(refine iX ?_;first|refine aB rfl (fun _=>bM rfl) rfl rfl ?_|refine aB rfl (fun _=>dV rfl rfl) rfl rfl ?_|refine aB rfl (fun _=>dW rfl rfl) rfl rfl ?_|refine aB rfl (fun _=>dX rfl rfl rfl) rfl rfl ?_)|(refine iM ?_;first|refine iN rfl (by decide) rfl rfl ?_|refine kR rfl (by decide) rfl rfl ?_)|(refine iJ ?_;first|refine aB rfl (fun _=>dH rfl) rfl rfl ?_)|(refine iO ?_;first|refine kL rfl rfl jE rfl rfl ?_|refine kM vwJ rfl rfl jE aQ kT rfl rfl ?_|refine kK vwJ rfl rfl jE aQ kT rfl rfl ?_|refine aB rfl (fun _=>bZ rfl rfl jE) rfl rfl ?_)|(refine gF ?_;first|refine kQ vwJ rfl aQ uB rfl rfl ?_|refine kS vwJ rfl aQ uB rfl rfl ?_|refine kP vwJ rfl aQ uB rfl rfl ?_|refine iL vwJ rfl aQ uB rfl rfl ?_|refine nU vwJ rfl aQ kX iE rfl rfl ?_|refine nV vwJ rfl aQ kX iE rfl rfl ?_|refine nT vwJ rfl aQ kX iE rfl rfl ?_|refine mK vwJ rfl aQ kX iE rfl rfl ?_)|(refine iR ?_;first|refine aB rfl (fun _=>bY rfl rfl) rfl rfl ?_|refine aB rfl (fun _=>bQ rfl) rfl rfl ?_)|(refine kZ ?_;first|refine nS rfl rfl rfl pQ stC rfl rfl ⟨okJ,?_⟩|refine iG rfl rfl iE xN pQ xP rfl rfl ⟨okJ,?_⟩)|(refine jL ?_;first|refine dJ rfl ?_|refine cO rfl ?_|refine lX rfl (by omega) ?_|refine pM rfl (by omega) ?_)));exact hh.out)):p:=w ⟨h⟩
end Go.Fx
namespace Go.Proofs.YthhldplegmeolaaGreat
open Go Go.Fx
abbrev eG:Int→List Value:=eI .u32
theorem tZ (l:List Int) (i:Nat):gt l (i:Int)=l.getD i 0:=aSI l i
theorem aHZ {l:List Int} {i:Int} (h:(l.length:Int)≤i):gt l i=0:=by
 unfold gt
 simp [List.getD,show l.length≤i.toNat by omega]
theorem oL (l:List Int) (i:Nat) (x:Int):st l (i:Int) x=l.set i x:=rfl
theorem Dig.gt {l:List Int} (h:Dig l) (i:Int):0≤gt l i∧gt l i < 1000000000:=h.getD i.toNat
section
variable {X:List Nat} {w0:World} {M0:List Ent} {I0:List aN}
theorem aIC {q:Option Addr} {l:List Int} {n c:Nat} {i:Int} (hn:n=l.length) (hi:0≤i) (hl:aD q (recs eG l)∈I0):
  CD Tryz.prog 157 [.slice q n c, .int .i64 i] X w0 M0 I0 (fun v M I=>M0=M∧I0=I∧v= .int .u32 (gt l i)):=by
 subst hn
 refine dF Tryz.func157 rfl Tryz.ntmps157 rfl ?_
 repeat' (first|refine jK ?_|refine aI rfl (fun h=>?_) (fun h=>?_)|refine aH rfl rfl (fun h=>?_) (fun h=>?_)|fail)
 ·refine aT (by first|exact .inl rfl|exact .inr rfl) rfl rfl _ _ bJ bI (⟨rfl,rfl,rfl⟩)
 ·refine aT (by first|exact .inl rfl|exact .inr rfl) rfl rfl _ _ bJ bI (⟨rfl,rfl,by rw [aHZ (by omega)]⟩)
theorem pK {q:Option Addr} {l:List Int} {n c:Nat} (hn:n=l.length) (h63:n≤1000000000000) (hc:l.length≤c) (hl:aD q (recs eG l)∈I0):
  CD Tryz.prog 130 [.slice q n c] X w0 M0 I0 (fun v M I=>M0=M∧I=aD q (recs eG (dZ l))::I0∧v= .slice q (dZ l).length c):=by
 subst hn
 refine dF Tryz.func130 rfl Tryz.ntmps130 rfl ?_
 refine yD (φ:=0 < l.length→Ok q) (fun w hw h=>(hw.sl hl).ok (by rw [fH];omega)) (fun hq=>?_)
 repeat refine jK ?_
 refine dK [] rfl (fun k G M I=>∃m:Nat,m≤l.length∧k=m∧dZ (l.take m)=dZ l∧G=[(0, .slice q m c)]∧M0=M∧I0=I) (l.length) _ _ _ cZ bJ bI (⟨l.length,by omega,rfl,by rw [List.take_length],rfl,rfl,rfl⟩) ?_
 rintro k G M I ⟨m,hm,rfl,ht,rfl,rfl,rfl⟩
 repeat' (first|refine jK ?_|refine aI rfl (fun h=>?_) (fun h=>?_)|refine aH rfl rfl (fun h=>?_) (fun h=>?_)|fail)
 ·obtain ⟨b,o,rfl⟩:=(hq (by omega)).cases
  refine aB rfl (fun _=>kF (k - 1) rfl rfl (by omega) (by omega)) rfl rfl ?_
  repeat refine jK ?_
  have h1:=h
  refine bR (k - 1) _ _ _ (by first|omega|(simp only [List.length_append,List.length_cons,List.length_nil];omega)) cZ bJ bI (⟨k - 1,by omega,rfl,?_,rfl,rfl,rfl⟩)
  rw [←ht]
  obtain ⟨j,rfl⟩:∃j,k=j+1:=⟨k - 1,by omega⟩
  have hj:j < l.length:=by omega
  have e0:gt l (j:Int)=0:=by
   have e:((j+1:Nat):Int) - 1=j:=by omega
   rw [e] at h1
   exact h1
  rw [eY hj] at e0
  rw [List.take_succ_eq_append_getElem hj,e0,uS]
  rfl
 ·have h1:=h
  have htop:Top (l.take k):=by
   obtain ⟨j,rfl⟩:∃j,k=j+1:=⟨k - 1,by omega⟩
   have hj:j < l.length:=by omega
   rw [List.take_succ_eq_append_getElem hj,Top.snoc,←eY hj]
   have e:((j+1:Nat):Int) - 1=j:=by omega
   rw [e] at h1
   exact h1
  have e1:dZ l=l.take k:=by rw [←ht,yL htop]
  refine rU (fun w hw=>hw.takeI (cs:=recs eG (dZ l)) (tl:=recs eG (l.drop k)) (by rw [e1,←nL,List.take_append_drop];exact hl)) ?_
  refine aT (by first|exact .inl rfl|exact .inr rfl) rfl rfl _ _ bJ bI (⟨rfl,rfl,by rw [e1];simp;omega⟩)
 ·have h0:k=0:=by omega
  subst h0
  have e1:dZ l=[]:=by rw [←ht];rfl
  rw [e1]
  refine aDK q ?_
  refine aT (by first|exact .inl rfl|exact .inr rfl) rfl rfl _ _ bJ bI (⟨rfl,rfl,rfl⟩)
def GrP (n:Nat) (M0:List Ent) (I0:List aN) (v:Value) (M:List Ent) (I:List aN):Prop:=M0=M∧∃q c,v= .slice q (gr n).length c∧((gr n).length≤c∧(Ok q∨((gr n).length=0∧c=0)))∧I=aD q (recs eG (gr n))::I0
theorem aIT {p q:Option Addr} {m n cp cq:Nat} (hm:(gr m).length≤100000000000) (hn:(gr n).length≤100000000000) (hp:aD p (recs eG (gr m))∈I0) (hq:aD q (recs eG (gr n))∈I0):
  CD Tryz.prog 131 [.slice p (gr m).length cp, .slice q (gr n).length cq] X w0 M0 I0 (GrP (m+n) M0 I0):=by
 have da:=bC m
 have db:=bC n
 have va:=bH m
 have vb:=bH n
 generalize ha:gr m=a at*
 generalize hb:gr n=b at*
 obtain ⟨N,hN⟩:∃N:Nat,N=max a.length b.length+1:=⟨_,rfl⟩
 refine dF Tryz.func131 rfl Tryz.ntmps131 rfl ?_
 repeat refine jK ?_
 (refine iD (N) rfl rfl (by omega) (by omega) (by omega) (by omega) (mG _ _) rfl rfl ?_;intro bo;refine ⟨okJ,?_⟩)
 repeat refine jK ?_
 refine dK [0,1,5,17] rfl (fun k G M I=>∃(i:Nat) (o:List Int) (cr:Int),i≤N∧k=N - i∧o.length=N∧Dig (o.take i)∧(0≤cr∧cr≤1)∧val (o.take i)+1000000000 ^ i*cr=val (a.take i)+val (b.take i)∧G=[(6, .int .u32 cr),(18, .int .i64 i)]∧M= .blk bo (recs eG o) 103::M0∧I0=I) (N) _ _ _ cZ bJ bI (⟨0,_,0,by omega,by omega,by simp,by simp [Dig],by omega,by simp [val],rfl,rfl,rfl⟩) ?_
 rintro k G M I ⟨i,o,cr,hi,rfl,ho,hd,hcr,hv,rfl,rfl,rfl⟩
 repeat' (first|refine jK ?_|refine aI rfl (fun h=>?_) (fun h=>?_)|refine aH rfl rfl (fun h=>?_) (fun h=>?_)|fail)
 ·refine dC rfl (aIC (i:=i) rfl (by omega) hp) ?_
  have d1:=da.gt i
  have d2:=db.gt i
  repeat refine jK ?_
  refine dC rfl (aIC (i:=i) rfl (by omega) hq) ?_
  repeat' (first|refine jK ?_|refine aI rfl (fun h=>?_) (fun h=>?_)|refine aH rfl rfl (fun h=>?_) (fun h=>?_)|fail)
  ·refine bR (N - (i+1)) _ _ _ (by first|omega|(simp only [List.length_append,List.length_cons,List.length_nil];omega)) cZ bJ bI (⟨i+1,_,1,by omega,rfl,by rw [bP];exact ho,?_,by omega,?_,rfl,rfl,rfl⟩)
   ·rw [oL,gI _ _ _ (by omega)];exact hd.snoc (by omega)
   ·exact aDR hv (by omega) (s:=gt a i+gt b i+cr) rfl (by omega)
  ·refine bR (N - (i+1)) _ _ _ (by first|omega|(simp only [List.length_append,List.length_cons,List.length_nil];omega)) cZ bJ bI (⟨i+1,_,0,by omega,rfl,by rw [bP];exact ho,?_,by omega,?_,rfl,rfl,rfl⟩)
   ·rw [oL,gI _ _ _ (by omega)];exact hd.snoc (by omega)
   ·exact aDR hv (by omega) (s:=gt a i+gt b i+cr) rfl (by omega)
 ·have hiN:i=N:=by omega
  subst hiN
  rw [List.take_of_length_le (show o.length≤i by omega)] at hv hd
  rw [List.take_of_length_le (show a.length≤i by omega),List.take_of_length_le (show b.length≤i by omega),va,vb] at hv
  have hcr0:cr=0:=by
   have h1:=iF da
   have h2:=iF db
   have h3:=lM (show a.length≤i - 1 by omega)
   have h4:=lM (show b.length≤i - 1 by omega)
   have h5:(1000000000:Int) ^ i=1000000000 ^ (i - 1)*1000000000:=by
    rw [←Int.pow_succ];congr 1;omega
   have h6:=gL (i - 1)
   have h7:=bB hd
   by_cases c:cr=0
   ·exact c
   ·have:cr=1:=by omega
    subst this
    omega
  subst hcr0
  have hg:dZ o=gr (m+n):=lT hd (by omega)
  refine aG uV ?_
  (refine bA rfl (pK (l:=o) (c:=i) ho.symm (by omega) (by omega) aQ) ?_;rintro _ _ _ ⟨rfl,rfl,rfl⟩;refine aU ?_)
  repeat refine jK ?_
  rw [hg]
  refine aT (by first|exact .inl rfl|exact .inr rfl) rfl rfl _ _ bJ bI (⟨rfl,_,_,rfl,⟨by rw [←hg];have:=tH o;obtain ⟨k,h1,h2,_⟩:=this;rw [h2];simp;omega, .inl (Ok.mk _ _)⟩,rfl⟩)
end
section
variable {X:List Nat} {w0:World} {M0:List Ent} {I0:List aN}
theorem vG {o:List Int}:(dZ o).length≤o.length:=by
 obtain ⟨k,h1,h2,_⟩:=tH o
 rw [h2];simp;omega
theorem zL {p q:Option Addr} {m n cp cq:Nat} (hm:(gr m).length≤100000000000) (hle:n≤m) (hp:aD p (recs eG (gr m))∈I0) (hq:aD q (recs eG (gr n))∈I0):
  CD Tryz.prog 132 [.slice p (gr m).length cp, .slice q (gr n).length cq] X w0 M0 I0 (GrP (m - n) M0 I0):=by
 have da:=bC m
 have db:=bC n
 have va:=bH m
 have vb:=bH n
 have hln:=fF hle
 generalize ha:gr m=a at*
 generalize hb:gr n=b at*
 refine dF Tryz.func132 rfl Tryz.ntmps132 rfl ?_
 repeat refine jK ?_
 (refine iD (a.length) rfl rfl (by omega) (by omega) (by omega) (by omega) (mG _ _) rfl rfl ?_;intro bo;refine ⟨okJ,?_⟩)
 repeat refine jK ?_
 refine dK [0,1,5,13] rfl (fun k G M I=>∃(i:Nat) (o:List Int) (cr:Int),i≤a.length∧k=a.length - i∧o.length=a.length∧Dig (o.take i)∧(0≤cr∧cr≤1)∧val (o.take i) - 1000000000 ^ i*cr=val (a.take i) - val (b.take i)∧G=[(6, .int .u32 cr),(14, .int .i64 i)]∧M= .blk bo (recs eG o) 103::M0∧I0=I) (a.length) _ _ _ cZ bJ bI (⟨0,_,0,by omega,by omega,by simp,by simp [Dig],by omega,by simp [val],rfl,rfl,rfl⟩) ?_
 rintro k G M I ⟨i,o,cr,hi,rfl,ho,hd,hcr,hv,rfl,rfl,rfl⟩
 repeat' (first|refine jK ?_|refine aI rfl (fun h=>?_) (fun h=>?_)|refine aH rfl rfl (fun h=>?_) (fun h=>?_)|fail)
 ·refine dC rfl (aIC (i:=i) rfl (by omega) hq) ?_
  have d1:=da.gt i
  have d2:=db.gt i
  repeat' (first|refine jK ?_|refine aI rfl (fun h=>?_) (fun h=>?_)|refine aH rfl rfl (fun h=>?_) (fun h=>?_)|fail)
  ·refine bR (a.length - (i+1)) _ _ _ (by first|omega|(simp only [List.length_append,List.length_cons,List.length_nil];omega)) cZ bJ bI (⟨i+1,_,1,by omega,rfl,by rw [bP];exact ho,?_,by omega,?_,rfl,rfl,rfl⟩)
   ·rw [oL,gI _ _ _ (by omega)];exact hd.snoc (by omega)
   ·exact aFF hv (by omega) (show gt a i+1000000000 - (gt b i+cr) - 1000000000*1=gt a i - gt b i - cr by omega)
  ·refine bR (a.length - (i+1)) _ _ _ (by first|omega|(simp only [List.length_append,List.length_cons,List.length_nil];omega)) cZ bJ bI (⟨i+1,_,0,by omega,rfl,by rw [bP];exact ho,?_,by omega,?_,rfl,rfl,rfl⟩)
   ·rw [oL,gI _ _ _ (by omega)];exact hd.snoc (by omega)
   ·exact aFF hv (by omega) (show gt a i - (gt b i+cr) - 1000000000*0=gt a i - gt b i - cr by omega)
 ·have hiN:i=a.length:=by omega
  subst hiN
  rw [List.take_of_length_le (show o.length≤a.length by omega)] at hv hd
  rw [List.take_length,List.take_of_length_le hln,va,vb] at hv
  have hcr0:cr=0:=by
   have h1:=iF hd
   have h7:=bB hd
   rw [ho] at h1
   by_cases c:cr=0
   ·exact c
   ·have:cr=1:=by omega
    subst this
    omega
  subst hcr0
  have hg:dZ o=gr (m - n):=lT hd (by omega)
  refine aG uV ?_
  (refine bA rfl (pK (l:=o) (c:=a.length) ho.symm (by omega) (by omega) aQ) ?_;rintro _ _ _ ⟨rfl,rfl,rfl⟩;refine aU ?_)
  repeat refine jK ?_
  have hle2:=vG (o:=o)
  rw [hg] at hle2 ⊢
  refine aT (by first|exact .inl rfl|exact .inr rfl) rfl rfl _ _ bJ bI (⟨rfl,_,_,rfl,⟨by omega, .inl (Ok.mk _ _)⟩,rfl⟩)
theorem qI {n:Nat} (hn:n≤18446744073709551615):CD Tryz.prog 111 [.int .u64 n] X w0 M0 I0 (GrP n M0 I0):=by
 refine dF Tryz.func111 rfl Tryz.ntmps111 rfl ?_
 repeat refine jK ?_
 refine jM 103 1 ?_
 refine dK [] rfl (fun k G M I=>∃(m:Nat) (a:Option Addr) (c':Nat) (xs:List Int),m≤n∧k=m∧(0 < m→xs.length≤2 - (gr m).length+1)∧xs++gr m=gr n∧xs.length≤3∧G=[(0, .int .u64 m),(3, .slice a xs.length c')]∧M= .row a xs.length c' (recs eG xs) 103 1::M0∧I0=I) (n) _ _ _ cZ bJ bI (⟨n,none,0,[],by omega,rfl,by simp,by simp,by simp,rfl,rfl,rfl⟩) ?_
 rintro k G M I ⟨m,a,c',xs,hm,rfl,_,hxs,hx3,rfl,rfl,rfl⟩
 have h3:(gr n).length≤3:=oG (by omega)
 have h4:xs.length+(gr k).length≤3:=by rw [←hxs] at h3;simpa using h3
 repeat' (first|refine jK ?_|refine aI rfl (fun h=>?_) (fun h=>?_)|refine aH rfl rfl (fun h=>?_) (fun h=>?_)|fail)
 ·have hk:k≠0:=by omega
  have e1:((k:Int)).tmod 1000000000=((k % 1000000000:Nat):Int):=by rw [Int.tmod_eq_emod_of_nonneg (by omega)];omega
  have e2:((k:Int)).tdiv 1000000000=((k / 1000000000:Nat):Int):=by rw [Int.tdiv_eq_ediv_of_nonneg (by omega)];omega
  rw [e1]
  have hgk:=rY hk
  have h5:(gr k).length=(gr (k / 1000000000)).length+1:=by rw [hgk];simp
  repeat refine jK ?_
  refine nG (cs:=recs eG [((k % 1000000000:Nat):Int)]) ([.int .u32 ((k % 1000000000:Nat):Int)]) rfl (fun b2=>?_)
  (refine jC (ys:=[((k % 1000000000:Nat):Int)]) 1 rfl rfl rfl ?_ (by decide) rfl (by omega) (by omega) rfl rfl ?_;(· first|exact Src.blk aQ|exact Src.row aQ|exact Src.imm aQ (by first|assumption|exact .inl (Ok.mk _ _)));intro a2 c2;refine aU ?_)
  repeat refine jK ?_
  rw [e2]
  refine bR (k / 1000000000) _ _ _ (by first|omega|(simp only [List.length_append,List.length_cons,List.length_nil];omega)) cZ bJ bI (⟨k / 1000000000,a2,c2,_,by omega,rfl,by intro _;simp;omega,by rw [List.append_assoc];rw [hgk] at hxs;exact hxs,by simp;omega,rfl,rfl,rfl⟩)
 ·have h0:k=0:=by omega
  subst h0
  rw [fB,List.append_nil] at hxs
  subst hxs
  refine aQW (fun w hw=>And.intro (hw.rowLe (List.Mem.head _)) ((hw.rowS (List.Mem.head _)).2.imp id And.right)) (fun hc=>?_)
  refine zK uV ?_
  refine aT (by first|exact .inl rfl|exact .inr rfl) rfl rfl _ _ bJ bI (⟨rfl,_,_,rfl,hc,rfl⟩)
end
end Go.Proofs.YthhldplegmeolaaGreat
namespace Go.Proofs.YthhldplegmeolaaGreat
open Go Go.Fx
theorem fI (l:List Int) (i j:Nat) (x:Int):st l ((i:Int)+(j:Int)) x=l.set (i+j) x:=by
 unfold st
 congr 1
theorem wJ (l:List Int) (i j:Nat):gt l ((i:Int)+(j:Int))=l.getD (i+j) 0:=tZ l (i+j)
theorem jW {l:List Int} {i j:Nat} (x:Int) (h:i≠j):(l.set i x).getD j 0=l.getD j 0:=by
 simp [List.getD,List.getElem?_set_ne h]
section
variable {X:List Nat} {w0:World} {M0:List Ent} {I0:List aN}
theorem aMJ {p q:Option Addr} {m n cp cq:Nat} (hm:(gr m).length≤100000000000) (hn:(gr n).length≤100000000000) (hp:aD p (recs eG (gr m))∈I0) (hq:aD q (recs eG (gr n))∈I0):
  CD Tryz.prog 93 [.slice p (gr m).length cp, .slice q (gr n).length cq] X w0 M0 I0 (GrP (m*n) M0 I0):=by
 have da:=bC m
 have db:=bC n
 have va:=bH m
 have vb:=bH n
 generalize ha:gr m=a at*
 generalize hb:gr n=b at*
 refine dF Tryz.func93 rfl Tryz.ntmps93 rfl ?_
 repeat refine jK ?_
 (refine iD (a.length+b.length) rfl rfl (by omega) (by omega) (by omega) (by omega) (mG _ _) rfl rfl ?_;intro bo;refine ⟨okJ,?_⟩)
 repeat refine jK ?_
 refine dK [1,5,18,19] rfl (fun k G M I=>∃(i:Nat) (o:List Int),i≤a.length∧k=a.length - i∧o.length=a.length+b.length∧Dig o∧val o=val (a.take i)*val b∧(∀j:Nat,i+b.length≤j→o.getD j 0=0)∧G=[(20, .int .i64 i)]∧M= .blk bo (recs eG o) 103::M0∧I0=I) (a.length) _ _ _ cZ bJ bI (⟨0,_,by omega,by omega,by simp,Dig.zeros _,by rw [wK];simp [val],fun j _=>by simp [List.getD,List.getElem?_replicate];split <;>rfl,rfl,rfl,rfl⟩) ?_
 rintro k G M I ⟨i,o,hi,rfl,ho,hd,hv,hz,rfl,rfl,rfl⟩
 repeat' (first|refine jK ?_|refine aI rfl (fun h=>?_) (fun h=>?_)|refine aH rfl rfl (fun h=>?_) (fun h=>?_)|fail)
 ·have hia:i < a.length:=by omega
  have d1:=da.gt i
  refine dK [1,5,6,7,18,19,20,25,26] rfl (fun k G M I=>∃(j:Nat) (u:List Int) (c:Int),j≤b.length∧k=b.length - j∧u.length=a.length+b.length∧Dig u∧(0≤c∧c < 1000000000)∧val u+1000000000 ^ (i+j)*c=val (a.take i)*val b+1000000000 ^ i*(gt a i*val (b.take j))∧(∀j:Nat,i+b.length≤j→u.getD j 0=0)∧G=[(8, .int .u64 c),(27, .int .i64 j)]∧M= .blk bo (recs eG u) 103::M0∧I0=I) (b.length) _ _ _ cZ bJ bI (⟨0,o,0,by omega,by omega,ho,hd,by omega,by simp [val,hv],hz,rfl,rfl,rfl⟩) ?_
  rintro k G M I ⟨j,u,c,hj,rfl,hu,hdu,hc,hvu,hzu,rfl,rfl,rfl⟩
  have d2:=db.gt j
  have d3:=hdu.gt ((i:Int)+j)
  have d4:=qV d1 d2 d3 hc
  have e1:(gt u ((i:Int)+j)+gt a i*gt b j+c).tmod 1000000000=(gt u ((i:Int)+j)+gt a i*gt b j+c) % 1000000000:=Int.tmod_eq_emod_of_nonneg d4.2.1.1
  have e2:(gt u ((i:Int)+j)+gt a i*gt b j+c).tdiv 1000000000=(gt u ((i:Int)+j)+gt a i*gt b j+c) / 1000000000:=Int.tdiv_eq_ediv_of_nonneg d4.2.1.1
  repeat' (first|refine jK ?_|refine aI rfl (fun h=>?_) (fun h=>?_)|refine aH rfl rfl (fun h=>?_) (fun h=>?_)|fail)
  ·have hst:=aGR (o:=u) (b:=b) (j:=j) hvu (by omega)
   rw [e1,e2]
   refine bR (b.length - (j+1)) _ _ _ (by first|omega|(simp only [List.length_append,List.length_cons,List.length_nil];omega)) cZ bJ bI (⟨j+1,_,_,by omega,rfl,by rw [bP];exact hu,?_,d4.2.2,?_,?_,rfl,rfl,rfl⟩)
   ·rw [fI];exact hdu.set _ (by omega)
   ·rw [fI,wJ,tZ,tZ]
    rw [tZ] at hst
    exact hst
   ·intro t ht
    rw [fI,jW _ (by omega)]
    exact hzu t ht
  ·have hjb:j=b.length:=by omega
   subst hjb
   have hst:=aCM (o:=u) (b:=b) hvu (by omega) (hzu _ (Nat.le_refl _))
   repeat refine jK ?_
   refine bR (a.length - (i+1)) _ _ _ (by first|omega|(simp only [List.length_append,List.length_cons,List.length_nil];omega)) cZ bJ bI (⟨i+1,_,by omega,rfl,by rw [bP];exact hu,?_,?_,?_,rfl,rfl,rfl⟩)
   ·rw [fI];exact hdu.set _ hc
   ·rw [fI,hst,bD,tZ]
    rw [Int.add_mul,Int.mul_assoc]
   ·intro t ht
    rw [fI,jW _ (by omega)]
    exact hzu t (by omega)
 ·have hiN:i=a.length:=by omega
  subst hiN
  rw [List.take_length,va,vb] at hv
  have hg:dZ o=gr (m*n):=lT hd (by rw [hv,Int.natCast_mul])
  refine aG uV ?_
  (refine bA rfl (pK (l:=o) (c:=a.length+b.length) ho.symm (by omega) (by omega) aQ) ?_;rintro _ _ _ ⟨rfl,rfl,rfl⟩;refine aU ?_)
  repeat refine jK ?_
  have hle2:=vG (o:=o)
  rw [hg] at hle2 ⊢
  refine aT (by first|exact .inl rfl|exact .inr rfl) rfl rfl _ _ bJ bI (⟨rfl,_,_,rfl,⟨by omega, .inl (Ok.mk _ _)⟩,rfl⟩)
end
end Go.Proofs.YthhldplegmeolaaGreat

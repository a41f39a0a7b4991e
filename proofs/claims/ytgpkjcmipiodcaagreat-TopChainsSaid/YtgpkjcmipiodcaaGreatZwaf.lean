/- The side conditions of the walk, quicker: shapes first. -/
import Derived.Test.YtgpkjcmipiodcaaGreatZwae
import Derived.Test.YtgpkjcmipiodcaaGreatZwab
import Derived.ChangeSame
import Derived.Carry
import Derived.WalkKit
import Derived.ProofKit
import Derived.OpenShut
set_option linter.unusedSimpArgs false
set_option linter.unusedVariables false
set_option maxRecDepth 100000
set_option maxHeartbeats 4000000
namespace Go.Fx
section
variable {P:Program} {n:Nat} {Q:Exit→Act→World→Prop} {G G':Env} {X:List Nat} {w0:World} {M M' M1:List Ent} {I I' I1:List aV} {m:Mode} {a b x y0 y1 y2 y3 y4 y5 y6 y7 y8 y9:Ent} {φ:aV} {cs cs' vs:List Value} {o sz:Nat} {v:Value} {α:Type} {aa:α} {ll:List α}
theorem SubP.c0 (k:SubP M M'):SubP (x::M) (x::M'):= .cons .here k
theorem SubP.c1 (k:SubP (y0::M) M'):SubP (y0::x::M) (x::M'):= .cons (.there .here) k
theorem SubP.c2 (k:SubP (y0::y1::M) M'):SubP (y0::y1::x::M) (x::M'):= .cons (.there (.there .here)) k
theorem SubP.c3 (k:SubP (y0::y1::y2::M) M'):SubP (y0::y1::y2::x::M) (x::M'):= .cons (.there (.there (.there .here))) k
theorem SubP.c4 (k:SubP (y0::y1::y2::y3::M) M'):SubP (y0::y1::y2::y3::x::M) (x::M'):= .cons (.there (.there (.there (.there .here)))) k
theorem SubP.c5 (k:SubP (y0::y1::y2::y3::y4::M) M'):SubP (y0::y1::y2::y3::y4::x::M) (x::M'):= .cons (.there (.there (.there (.there (.there .here))))) k
theorem SubP.c6 (k:SubP (y0::y1::y2::y3::y4::y5::M) M'):SubP (y0::y1::y2::y3::y4::y5::x::M) (x::M'):= .cons (.there (.there (.there (.there (.there (.there .here)))))) k
theorem SubP.c7 (k:SubP (y0::y1::y2::y3::y4::y5::y6::M) M'):SubP (y0::y1::y2::y3::y4::y5::y6::x::M) (x::M'):= .cons (.there (.there (.there (.there (.there (.there (.there .here))))))) k
theorem SubP.c8 (k:SubP (y0::y1::y2::y3::y4::y5::y6::y7::M) M'):SubP (y0::y1::y2::y3::y4::y5::y6::y7::x::M) (x::M'):= .cons (.there (.there (.there (.there (.there (.there (.there (.there .here)))))))) k
theorem aA (h:aa∈ll:=by first|((repeat (first|with_reducible exact List.mem_cons_self|with_reducible assumption|with_reducible refine List.mem_cons_of_mem _ ?_));done)|(repeat (first|exact List.Mem.head _|assumption|refine List.Mem.tail _ ?_))):aa∈ll:=h
theorem aG (h:SubP M M':=by first|((repeat (first|with_reducible exact SubP.refl|with_reducible exact SubP.nil|with_reducible refine SubP.c0 ?_|with_reducible refine SubP.c1 ?_|with_reducible refine SubP.c2 ?_|with_reducible refine SubP.c3 ?_|with_reducible refine SubP.c4 ?_|with_reducible refine SubP.c5 ?_|with_reducible refine SubP.c6 ?_|with_reducible refine SubP.c7 ?_|with_reducible refine SubP.c8 ?_|with_reducible refine SubP.drop ?_));done)|(repeat (first|exact SubP.refl|exact SubP.nil|refine SubP.c0 ?_|refine SubP.c1 ?_|refine SubP.c2 ?_|refine SubP.c3 ?_|refine SubP.c4 ?_|refine SubP.c5 ?_|refine SubP.c6 ?_|refine SubP.c7 ?_|refine SubP.c8 ?_|refine SubP.drop ?_))):SubP M M':=h
theorem aF (h:Inc I I':=by first|((repeat (first|with_reducible exact Inc.refl|with_reducible exact Inc.nil|(with_reducible refine Inc.cons ?_ ?_;(repeat (first|with_reducible exact List.mem_cons_self|with_reducible assumption|with_reducible refine List.mem_cons_of_mem _ ?_)))|with_reducible refine Inc.wk ?_));done)|(repeat (first|exact Inc.refl|exact Inc.nil|(refine Inc.cons ?_ ?_;(repeat (first|exact List.Mem.head _|assumption|refine List.Mem.tail _ ?_)))|refine Inc.wk ?_))):Inc I I':=h
theorem uB (h:Rem a M M':=by first|with_reducible exact .here|with_reducible exact .there .here|with_reducible exact .there (.there .here)|with_reducible exact .there (.there (.there .here))|with_reducible exact .there (.there (.there (.there .here)))|with_reducible exact .there (.there (.there (.there (.there .here))))|with_reducible exact .there (.there (.there (.there (.there (.there .here)))))|with_reducible exact .there (.there (.there (.there (.there (.there (.there .here))))))|exact yI):Rem a M M':=h
theorem iN (h:Rep a b M M':=by first|with_reducible exact .here|with_reducible exact .there .here|with_reducible exact .there (.there .here)|with_reducible exact .there (.there (.there .here))|with_reducible exact .there (.there (.there (.there .here)))|with_reducible exact .there (.there (.there (.there (.there .here))))|with_reducible exact .there (.there (.there (.there (.there (.there .here)))))|with_reducible exact .there (.there (.there (.there (.there (.there (.there .here))))))|with_reducible assumption|exact sQ):Rep a b M M':=h
theorem okF (h:OkD m X w0 M I:=by first|with_reducible exact OkD.seq|with_reducible exact OkD.one|(with_reducible refine OkD.any ?_ ?_;exact aG;exact aF)|exact OkD.seq|exact OkD.one|(refine OkD.any ?_ ?_;exact aG;exact aF)|exact OkD.uptoN (by decide)|(refine OkD.uptoY ?_ ?_;exact aG;exact aF)|exact OkD.kN (by decide)|(refine OkD.kY ?_ ?_;exact aG;exact aF)):OkD m X w0 M I:=h
theorem gQ (h:View m X w0 M I M1 I1:=by first|exact View.seq|exact View.any|exact View.one rfl|exact View.upto (by decide)|exact View.k0 rfl|exact View.kJ (by decide)):View m X w0 M I M1 I1:=h
theorem vS (h:At cs o v:=by first|(with_reducible refine At.r1 ?_ ?_;exact jH;rfl)|(with_reducible refine At.r2 ?_ ?_;exact jH;rfl)|exact At.mk rfl|exact xQ):At cs o v:=h
variable {x' y':Int} {kk:IntKind}
theorem wF (h:kk.wrap x'=y':=by first|(with_reducible refine wrap_i64 ?_;first|omega|with_reducible assumption)|(with_reducible refine wrap_u64 ?_;first|omega|with_reducible assumption)|(with_reducible refine wrap_u32 ?_;first|omega|with_reducible assumption)|(with_reducible refine wrap_u8 ?_;omega)):kk.wrap x'=y':=h
theorem qF (h:kk.wrap x'=y':=by first|(with_reducible refine aOH ?_;omega)|(with_reducible refine aNJ ?_ ?_;omega;omega)):kk.wrap x'=y':=h
end
/- loads of parts -/
structure AtsZ (cs:List Value) (o:Nat) (vs:List Value) (sz:Nat):Prop where
 ats:Ats cs o vs
 len:vs.length=sz
theorem AtsZ.all {cs:List Value} {sz:Nat} (h:cs.length=sz):AtsZ cs 0 cs sz:=⟨Ats.all,h⟩
theorem AtsZ.r {α:Type} [Inhabited α] {enc:α→List Value} {sz:Nat} [hz:Sized enc sz] {ms:List α} {i:Int} (hi:0≤i∧i < ms.length):AtsZ (recs enc ms) (i.toNat*sz) (enc (gt ms i)) sz:=⟨Ats.r hi,hz.len _⟩
theorem AtsZ.app {cs tl vs:List Value} {o sz:Nat} (h:AtsZ cs o vs sz):AtsZ (cs++tl) o vs sz:=⟨Ats.app h.ats,h.len⟩
theorem Ats.of2 {cs:List Value} {o:Nat} {a b:Value} (h0:cs[o]?=some a) (h1:cs[o+1]?=some b):Ats cs o [a,b]:=⟨fun j v hj=>by
 match j,hj with
 |0,hj=>simp at hj;subst hj;exact h0
 |1,hj=>simp at hj;subst hj;exact h1
 |j+2,hj=>simp at hj⟩
theorem Ats.of4 {cs:List Value} {o:Nat} {a b c d:Value} (h0:cs[o]?=some a) (h1:cs[o+1]?=some b) (h2:cs[o+2]?=some c) (h3:cs[o+3]?=some d):Ats cs o [a,b,c,d]:=⟨fun j v hj=>by
 match j,hj with
 |0,hj=>simp at hj;subst hj;exact h0
 |1,hj=>simp at hj;subst hj;exact h1
 |2,hj=>simp at hj;subst hj;exact h2
 |3,hj=>simp at hj;subst hj;exact h3
 |j+4,hj=>simp at hj⟩
theorem AtsZ.n2 {cs:List Value} {o:Nat} {a b:Value} (h0:cs[o]?=some a) (h1:cs[o+1]?=some b):AtsZ cs o [a,b] 2:=⟨Ats.of2 h0 h1,rfl⟩
theorem AtsZ.n4 {cs:List Value} {o:Nat} {a b c d:Value} (h0:cs[o]?=some a) (h1:cs[o+1]?=some b) (h2:cs[o+2]?=some c) (h3:cs[o+3]?=some d):AtsZ cs o [a,b,c,d] 4:=⟨Ats.of4 h0 h1 h2 h3,rfl⟩
theorem AtsZ.r2 {α:Type} [Inhabited α] {enc:α→List Value} {sz:Nat} [Sized enc sz] {ms:List α} {i:Int} {j:Nat} {a b:Value} (hi:0≤i∧i < ms.length) (h0:(enc (gt ms i))[j]?=some a) (h1:(enc (gt ms i))[j+1]?=some b):AtsZ (recs enc ms) (i.toNat*sz+j) [a,b] 2:=⟨Ats.of2 (mX hi h0) (mX hi h1),rfl⟩
theorem AtsZ.r4 {α:Type} [Inhabited α] {enc:α→List Value} {sz:Nat} [Sized enc sz] {ms:List α} {i:Int} {j:Nat} {a b c d:Value} (hi:0≤i∧i < ms.length) (h0:(enc (gt ms i))[j]?=some a) (h1:(enc (gt ms i))[j+1]?=some b) (h2:(enc (gt ms i))[j+2]?=some c) (h3:(enc (gt ms i))[j+3]?=some d):AtsZ (recs enc ms) (i.toNat*sz+j) [a,b,c,d] 4:=⟨Ats.of4 (mX hi h0) (mX hi h1) (mX hi h2) (mX hi h3),rfl⟩
theorem atZ {cs vs:List Value} {o sz:Nat} (h:AtsZ cs o vs sz:=by first|(with_reducible refine AtsZ.r ?_;exact jH)|(with_reducible refine AtsZ.r2 ?_ ?_ ?_;exact jH;rfl;rfl)|(with_reducible refine AtsZ.r4 ?_ ?_ ?_ ?_ ?_;exact jH;rfl;rfl;rfl;rfl)|exact AtsZ.all rfl|exact AtsZ.n2 rfl rfl|exact AtsZ.n4 rfl rfl rfl rfl|(refine AtsZ.r ?_;exact jH)|(refine AtsZ.app ?_;refine AtsZ.r ?_;exact jH)):AtsZ cs o vs sz:=h
section
variable {P:Program} {n:Nat} {Q:Exit→Act→World→Prop} {G:Env} {X:List Nat} {w0:World} {M M1:List Ent} {I I1:List aV}
variable {ops l:List Oper} {m:Mode} {ty:TypeId} {pos:String} {af:Array Edge} {g:Option (Nat × Bool)}
theorem mE {d:Nat} {t:TypeId} {sz:Nat} {x:Operand} {b o:Nat} {cs vs:List Value} {e:TypeId} [AggTy P t sz] (hv:View m X w0 M I M1 I1) (hx:ev G x=some (.pointer (some ⟨b,o,none⟩))) (hm: .blk b cs e∈M1) (hc:AtsZ cs o vs sz) (hg:nX ops G g=some true)
  (hd:Nat.ble (d+1) n=true) (k:RD P n ops Q m.next l ((d, .agg vs.toArray)::G) X w0 M I):RD P n ops Q m (⟨some d, .load t x,ty,pos,af,g⟩::l) G X w0 M I:=rD hv hx hm hc.ats hc.len hg hd k
theorem qL {d:Nat} {t:TypeId} {sz:Nat} {x:Operand} {a:Option Addr} {o:Nat} {cs vs:List Value} [AggTy P t sz] (hv:View m X w0 M I M1 I1) (hx:ev G x=some (.pointer (some (pt a o)))) (hm:aI a cs∈I1) (hc:AtsZ cs o vs sz) (hg:nX ops G g=some true)
  (hd:Nat.ble (d+1) n=true) (k:RD P n ops Q m.next l ((d, .agg vs.toArray)::G) X w0 M I):RD P n ops Q m (⟨some d, .load t x,ty,pos,af,g⟩::l) G X w0 M I:=rE hv hx hm hc.ats hc.len hg hd k
theorem sI {d:Nat} {t:TypeId} {sz sz':Nat} {x:Operand} {a:Option Addr} {o mm c:Nat} {cs vs:List Value} {e:TypeId} [AggTy P t sz] (hv:View m X w0 M I M1 I1) (hx:ev G x=some (.pointer (some (pt a o)))) (hm: .row a mm c cs e sz'∈M1) (hc:AtsZ cs o vs sz) (hg:nX ops G g=some true)
  (hd:Nat.ble (d+1) n=true) (k:RD P n ops Q m.next l ((d, .agg vs.toArray)::G) X w0 M I):RD P n ops Q m (⟨some d, .load t x,ty,pos,af,g⟩::l) G X w0 M I:=rC hv hx hm hc.ats hc.len hg hd k
theorem bL {d:Nat} {t:TypeId} {sz:Nat} {x:Operand} {b o:Nat} {cs vs:List Value} [AggTy P t sz] (hv:View m X w0 M I M1 I1) (hx:ev G x=some (.pointer (some ⟨b,o,none⟩))) (hm:aI (some ⟨b,0,none⟩) cs∈I1) (hc:AtsZ cs o vs sz) (hg:nX ops G g=some true)
  (hd:Nat.ble (d+1) n=true) (k:RD P n ops Q m.next l ((d, .agg vs.toArray)::G) X w0 M I):RD P n ops Q m (⟨some d, .load t x,ty,pos,af,g⟩::l) G X w0 M I:=pQ hv hx hm hc.ats hc.len hg hd k
end
end Go.Fx
namespace Go.Fx
open Go
section
variable {P:Program} {n:Nat} {Q:Exit→Act→World→Prop} {G:Env} {X:List Nat} {w0:World} {M:List Ent} {I:List aV} {ops l:List Oper} {m:Mode} {ty:TypeId} {pos:String} {af:Array Edge} {g:Option (Nat × Bool)}
theorem aL {p:Prop} (h:p) (o:OkD m X w0 M I:=by exact okF):OkD m X w0 M I∧p:=⟨o,h⟩
theorem aU {d:Nat} {f:FuncId} {xs:List Operand} {vs:List Value} {at_:Array TypeId} {K:Value→List Ent→List aV→Prop} [FnOk P f] (hx:evs G xs=some vs) (hc:CD P f vs X w0 M I K) (k:∀v M' I',K v M' I'→OkD m X w0 M' I'∧RD P n ops Q m.nextE l ((d,v)::G) X w0 M' I') (hg:nX ops G g=some true:=by rfl) (hd:Nat.ble (d+1) n=true:=by rfl):
  RD P n ops Q m (⟨some d, .call {callee:= .value (.func f),args:=xs.toArray,argTypes:=at_},ty,pos,af,g⟩::l) G X w0 M I:=aS hx hc hg hd k
theorem bG {d:Nat} {t:TypeId} {sz by_:Nat} {z:List Value} [ElemTy P t sz by_ z] (k:∀b,RD P n ops Q m.nextE l ((d, .pointer (some ⟨b,0,none⟩))::G) X w0 (.blk b z t::M) I) (o:∀b,OkD m X w0 (.blk b z t::M) I:=by intro _;exact okF) (hg:nX ops G g=some true:=by rfl) (hd:Nat.ble (d+1) n=true:=by rfl):
  RD P n ops Q m (⟨some d, .alloc t,ty,pos,af,g⟩::l) G X w0 M I:=bB hg hd (fun b=>⟨o b,k b⟩)
theorem fG {d:Nat} {t:TypeId} {x:Operand} {vs:List Value} (hx:ev G x=some (.agg vs.toArray)) (k:∀b,RD P n ops Q m.nextE l ((d, .pointer (some ⟨b,0,none⟩))::G) X w0 (.blk b vs t::M) I) (o:∀b,OkD m X w0 (.blk b vs t::M) I:=by intro _;exact okF) (hg:nX ops G g=some true:=by rfl) (hd:Nat.ble (d+1) n=true:=by rfl):
  RD P n ops Q m (⟨some d, .box t x,ty,pos,af,g⟩::l) G X w0 M I:=aWA hx hg hd (fun b=>⟨o b,k b⟩)
theorem tyX {d:Nat} {t:TypeId} {x:Operand} {v:Value} (hx:ev G x=some v) (k:∀b,RD P n ops Q m.nextE l ((d, .pointer (some ⟨b,0,none⟩))::G) X w0 (.blk b v.cells.toList t::M) I) (o:∀b,OkD m X w0 (.blk b v.cells.toList t::M) I:=by intro _;exact okF) (hg:nX ops G g=some true:=by rfl) (hd:Nat.ble (d+1) n=true:=by rfl):
  RD P n ops Q m (⟨some d, .box t x,ty,pos,af,g⟩::l) G X w0 M I:=aHW hx hg hd (fun b=>⟨o b,k b⟩)
theorem dP {d:Nat} {f:FuncId} {xs:List Operand} {vs:List Value} {at_:Array TypeId} {u:Value} [FnOk P f] (hx:evs G xs=some vs) (hc:CD P f vs X w0 M I (fun v M' I'=>M=M'∧I=I'∧v=u)) (k:RD P n ops Q m.nextE l ((d,u)::G) X w0 M I) (o:OkD m X w0 M I:=by exact okF) (hg:nX ops G g=some true:=by rfl) (hd:Nat.ble (d+1) n=true:=by rfl):
  RD P n ops Q m (⟨some d, .call {callee:= .value (.func f),args:=xs.toArray,argTypes:=at_},ty,pos,af,g⟩::l) G X w0 M I:=aS hx hc hg hd (by rintro _ _ _ ⟨rfl,rfl,rfl⟩;exact ⟨o,k⟩)
theorem tyJ {α:Type} {F:α→Value} {q:α→Prop} {φ:α→aV} {d:Nat} {f:FuncId} {xs:List Operand} {vs:List Value} {at_:Array TypeId} [FnOk P f] (hx:evs G xs=some vs) (hc:CD P f vs X w0 M I (fun v M' I'=>M=M'∧∃x,v=F x∧q x∧I'=φ x::I)) (k:∀x,q x→RD P n ops Q m.nextE l ((d,F x)::G) X w0 M (φ x::I)) (o:∀x,OkD m X w0 M (φ x::I):=by intro _;exact okF) (hg:nX ops G g=some true:=by rfl) (hd:Nat.ble (d+1) n=true:=by rfl):
  RD P n ops Q m (⟨some d, .call {callee:= .value (.func f),args:=xs.toArray,argTypes:=at_},ty,pos,af,g⟩::l) G X w0 M I:=aS hx hc hg hd (by rintro _ _ _ ⟨rfl,x,rfl,h,rfl⟩;exact ⟨o x,k x h⟩)
theorem fE {id:Nat} {l:List Oper} {y:Code} (h:RD P n l (Then (y.wp P Q) Q) .seq l G X w0 M I):TD P n (.seq (.region id l.toArray false) y) Q G X w0 M I:=aJ (iD h)
theorem lL {d:Nat} {t e:TypeId} {sz sz' by_ len:Nat} {z:List Value} {parts:List (Nat × Operand)} (vals:List Value) {cs:List Value} [SliceTy P t e sz'] [ElemTy P e sz by_ z]
  (hp:parts.map (fun p=>(p.1,ev G p.2))=(vals.zipIdx).map (fun p=>(p.2,some p.1)))
  (k:∀b,RD P n ops Q m.nextE l ((d, .slice (some ⟨b,0,none⟩) len len)::G) X w0 (.blk b cs e::M) I) (o:∀b,OkD m X w0 (.blk b cs e::M) I:=by intro _;exact okF)
  (hl:vals.length=len:=by rfl) (hc:∀v∈vals,v.cells.size=sz:=by intro v hv;repeat (first|exact absurd hv (List.not_mem_nil)|(rcases List.mem_cons.1 hv with rfl|hv; · rfl))) (hb:len*sz≤16777216:=by omega) (hcs:vals.flatMap (fun v=>v.cells.toList)=cs:=by rfl) (hg:nX ops G g=some true:=by rfl) (hd:Nat.ble (d+1) n=true:=by rfl):
  RD P n ops Q m (⟨some d, .buildSlice t len parts.toArray,ty,pos,af,g⟩::l) G X w0 M I:=aYA vals hp hl hc hb hcs hg hd (fun b=>⟨o b,k b⟩)
theorem tyP {α:Type} {enc:α→List Value} [Ones enc] {d:Nat} {s x:Operand} {t e:TypeId} {sz sz' by_:Nat} [Sized enc sz] {z:List Value} {a a':Option Addr} {c len c':Nat} {xs ys:List α} [SliceTy P t e sz'] [ElemTy P e sz by_ z]
  (kk:Nat) (hs:ev G s=some (.slice a xs.length c)) (hx:ev G x=some (.slice a' len c')) (hm:M[kk]?=some (.row a xs.length c (recs enc xs) e sz))
  (k:∀a2 c2,RD P n ops Q m.nextE l ((d, .slice a2 (xs++ys).length c2)::G) X w0 (M.set kk (.row a2 (xs++ys).length c2 (recs enc (xs++ys)) e sz)) I) (o:∀a2 c2,OkD m X w0 (M.set kk (.row a2 (xs++ys).length c2 (recs enc (xs++ys)) e sz)) I:=by intro _ _;exact okF)
  (hsrc:Src M I a' len c' (recs enc ys):=by first|exact Src.blk aA|exact Src.row aA|exact Src.imm aA (by first|assumption|exact .inl (Ok.mk _ _))) (hsz:0 < sz:=by decide) (hl:ys.length=len:=by rfl) (hb:(xs.length+len)*by_≤140737488355328:=by omega) (h63:xs.length+len≤9223372036854775807:=by omega) (hg:nX ops G g=some true:=by rfl) (hd:Nat.ble (d+1) n=true:=by rfl):
  RD P n ops Q m (⟨some d, .call {callee:= .builtin .append,args:=#[s,x],argTypes:=#[t,t]},ty,pos,af,g⟩::l) G X w0 M I:=oO kk hs hx hm hsrc hsz hl hb h63 hg hd (fun a c=>⟨o a c,k a c⟩)
theorem iC {J:Nat→Env→List Ent→List aV→Prop} {K G1:Env} {M':List Ent} {I':List aV} {k:Nat} (k':Nat) (h:J k' G1 M' I') (hlt:k' < k:=by first|omega|(simp only [List.length_append,List.length_cons,List.length_nil];omega)) (s:Sub G (G1++K):=by exact dS) (hM:SubP M M':=by exact aG) (hI:Inc I I':=by exact aF):ND n (Then (aIA n J K X w0 k) Q) .normal G X w0 M I:=bY k' G1 M' I' hlt s hM hI h
theorem kS {c:Code} (ts:List Nat) {K:Env} (hK:aDM G ts=some K) (J:Nat→Env→List Ent→List aV→Prop) (k:Nat) {G1:Env} {M':List Ent} {I':List aV} (h0:J k G1 M' I')
  (round:∀k G1 M' I',J k G1 M' I'→TD P n c (Then (aIA n J K X w0 k) Q) (G1++K) X w0 M' I') (s:Sub G G1:=by exact dS) (hM:SubP M M':=by exact aG) (hI:Inc I I':=by exact aF):TD P n (.loop c) Q G X w0 M I:=eO ts hK J k G1 M' I' s hM hI h0 round
theorem gD {fn:Func} {K:Value→List Ent→List aV→Prop} {t:Nat} {v:Value} {e:Exit} {M':List Ent} {I':List aV} (hr:fn.results=#[.tmp t]) (hv:lk G t=some v) (h:K v M' I') (he:e= .ret∨e= .normal:=by first|exact .inl rfl|exact .inr rfl) (hM:SubP M M':=by exact aG) (hI:Inc I I':=by exact aF):
  ND n (Body P fn (KB K X w0)) e G X w0 M I:=aH he hr hv M' I' hM hI h
theorem tyS {fn:Func} {K:Value→List Ent→List aV→Prop} (ts:List Nat) {vs:List Value} {e:Exit} {M':List Ent} {I':List aV} (hr:fn.results=(ts.map ResultVar.tmp).toArray) (hv:lks G ts=some vs) (h:K (.tuple vs.toArray) M' I') (he:e= .ret∨e= .normal:=by first|exact .inl rfl|exact .inr rfl) (hl:Nat.beq vs.length 1=false:=by rfl) (hM:SubP M M':=by exact aG) (hI:Inc I I':=by exact aF):
  ND n (Body P fn (KB K X w0)) e G X w0 M I:=pI ts he hr hv hl M' I' hM hI h
theorem vT {id:Nat} {l:List Oper} (Ms:List Ent) (Is:List aV) (p ms:List Nat) (hx:P.follows .mixedOrders=true) (h:RD P n l Q (.any (vL X w0 Ms Is) 0 ms) (pick l p) G X w0 M I) (hp:(Region.noSelect l.toArray && iP l.toArray p ms (Array.replicate l.length false) && p.length==l.length)=true:=by kernel_rfl) (hM:SubP M Ms:=by exact aG) (hI:Inc I Is:=by exact aF):TD P n (.region id l.toArray true) Q G X w0 M I:=aQD Ms Is p ms hM hI hx hp h
theorem mR {J:Env→List Ent→List aV→Prop} {G':Env} {M':List Ent} {I':List aV} (h:J G' M' I') (s:Sub G G':=by exact dS) (hM:SubP M M':=by exact aG) (hI:Inc I I':=by exact aF):ND n (Then (aPQ n J X w0) Q) .normal G X w0 M I:=lU G' M' I' s hM hI h
end
end Go.Fx
namespace Go.Fx
open Go.ChangeShapes Go.WideShapes Go.RowKit
end Go.Fx
namespace Go.Fx
open Go.ChangeShapes Go.WideShapes Go.RowKit Go.ChangeAt
section
variable {H:Type} {enc:TypeId × Value→H} {P:Program} {W:World}
theorem zG (hl:laidOutB P=true) {W':World} (hB:Below W.heap.size W W'):∀(ts:List TypeId) (vs:List Value) (ds:List (DataW H)) (p:List MemPlace),(∀t∈ts,P.readableRec t=true∧t < P.types.size)→
  (∀x∈p,x.block < W.heap.size)→DataW.TrodAll enc P W 0 (fun _=>true) true ts vs ds p→DataW.TrodAll enc P W' 0 (fun b=>decide (b < W.heap.size)) true ts vs ds p
 |[],_,_,_,_,_,h=>by
  obtain ⟨rfl,rfl,rfl⟩:=trodAll_nil h
  exact trodAll_mk0
 |t::ts,_,_,_,hr,hp,h=>by
  obtain ⟨v,vs',d,ds',p',q',rfl,rfl,rfl,h1,h2⟩:=trodAll_cons h
  have hr0:=hr t (by simp)
  exact trodAll_cons_mk (Below.trod hl hr0.1 hr0.2 h1 hB (fun x hx=>hp x (List.mem_append.2 (.inl hx)))) (zG hl hB ts vs' ds' q' (fun u hu=>hr u (by simp [hu])) (fun x hx=>hp x (List.mem_append.2 (.inr hx))) h2)
end
end Go.Fx
namespace Go.Proofs.YtgpkjcmipiodcaaGreat
open Go Go.Fx
abbrev BB:Int:=1000000000
def val:List Int→Int
 |[]=>0
 |g::r=>g+1000000000*val r
def Dig (l:List Int):Prop:=∀x∈l,0≤x∧x < 1000000000
theorem Dig.cons {x:Int} {l:List Int}:Dig (x::l)↔(0≤x∧x < 1000000000)∧Dig l:=by simp [Dig]
theorem Dig.nil:Dig []:=by simp [Dig]
theorem Dig.app {a b:List Int}:Dig (a++b)↔Dig a∧Dig b:=by
 simp only [Dig,List.mem_append]
 exact ⟨fun h=>⟨fun x hx=>h x (.inl hx),fun x hx=>h x (.inr hx)⟩,fun h x hx=>hx.elim (h.1 x) (h.2 x)⟩
theorem val_append (a b:List Int):val (a++b)=val a+1000000000 ^ a.length*val b:=by
 induction a with
 |nil=>simp [val]
 |cons x r ih=>simp only [List.cons_append,val,ih,List.length_cons,Int.pow_succ];grind
theorem bQ {l:List Int} (h:Dig l):0≤val l:=by
 induction l with
 |nil=>simp [val]
 |cons x r ih=>rw [Dig.cons] at h;have:=ih h.2;simp only [val];omega
theorem jG {l:List Int} (h:Dig l):val l < 1000000000 ^ l.length:=by
 induction l with
 |nil=>simp [val]
 |cons x r ih=>
  rw [Dig.cons] at h
  have:=ih h.2
  simp only [val,List.length_cons,Int.pow_succ]
  omega
theorem jD (n:Nat):(0:Int) < 1000000000 ^ n:=Int.pow_pos (by decide)
theorem oG {m n:Nat} (h:m≤n):(1000000000:Int) ^ m≤1000000000 ^ n:=by
 obtain ⟨k,rfl⟩:=Nat.le.dest h
 rw [Int.pow_add]
 have h1:=jD m
 have h2:=jD k
 have:(1000000000:Int) ^ m*1≤1000000000 ^ m*1000000000 ^ k:=Int.mul_le_mul_of_nonneg_left (by omega) (by omega)
 omega
theorem aNM:∀{a b:List Int},Dig a→Dig b→a.length=b.length→val a=val b→a=b
 |[],[],_,_,_,_=>rfl
 |[],_::_,_,_,h,_=>by simp at h
 |_::_,[],_,_,h,_=>by simp at h
 |x::r,y::s,ha,hb,hl,h=>by
  rw [Dig.cons] at ha hb
  simp only [val] at h
  have hxy:x=y:=by omega
  have:=aNM ha.2 hb.2 (by simpa using hl) (by omega)
  rw [hxy,this]
def Top (l:List Int):Prop:=l.getLastD 1≠0
instance (l:List Int):Decidable (Top l):=by unfold Top;exact inferInstance
def Can (l:List Int):Prop:=Dig l∧Top l
theorem Top.cons {x y:Int} {r:List Int}:Top (x::y::r)↔Top (y::r):=by simp [Top]
theorem Top.snoc {l:List Int} {x:Int}:Top (l++[x])↔x≠0:=by simp [Top]
theorem aAU {l:List Int} (h:Can l) (hl:0 < l.length):1000000000 ^ (l.length - 1)≤val l:=by
 rcases List.eq_nil_or_concat l with rfl|⟨r,x,e⟩
 ·simp at hl
 ·rw [List.concat_eq_append] at e
  subst e
  obtain ⟨hd,ht⟩:=h
  rw [Dig.app] at hd
  rw [Top.snoc] at ht
  have h1:=bQ hd.1
  have h2:=hd.2 x (by simp)
  simp only [val_append,val,List.length_append,List.length_singleton,Nat.add_sub_cancel]
  have h3:=jD r.length
  have:1000000000 ^ r.length*1≤1000000000 ^ r.length*(x+1000000000*0):=Int.mul_le_mul_of_nonneg_left (by omega) (by omega)
  omega
theorem Can.len_le {a b:List Int} (ha:Can a) (hb:Dig b) (h:val a≤val b):a.length≤b.length:=by
 by_cases h0:a.length=0
 ·omega
 ·have h1:=aAU ha (by omega)
  have h2:=jG hb
  by_cases hlt:b.length≤a.length - 1
  ·have:=oG hlt
   omega
  ·omega
theorem Can.inj {a b:List Int} (ha:Can a) (hb:Can b) (h:val a=val b):a=b:=
 aNM ha.1 hb.1 (Nat.le_antisymm (ha.len_le hb.1 (by omega)) (hb.len_le ha.1 (by omega))) h
def gr:Nat→List Int
 |0=>[]
 |n+1=>(((n+1) % 1000000000:Nat):Int)::gr ((n+1) / 1000000000)
termination_by n=>n
decreasing_by omega
theorem fO:gr 0=[]:=by unfold gr;rfl
theorem wQ {n:Nat} (h:n≠0):gr n=((n % 1000000000:Nat):Int)::gr (n / 1000000000):=by
 cases n with
 |zero=>exact absurd rfl h
 |succ n=>rw [gr]
theorem bK:∀n,Dig (gr n):=by
 intro n
 induction n using Nat.strongRecOn with
 |_ n ih=>
  by_cases h:n=0
  ·subst h;rw [fO];exact Dig.nil
  ·rw [wQ h,Dig.cons]
   exact ⟨by omega,ih _ (by omega)⟩
theorem bT:∀n:Nat,val (gr n)=n:=by
 intro n
 induction n using Nat.strongRecOn with
 |_ n ih=>
  by_cases h:n=0
  ·subst h;rw [fO];rfl
  ·rw [wQ h]
   simp only [val]
   rw [ih _ (by omega)]
   omega
theorem nD {n:Nat}:gr n=[]↔n=0:=by
 constructor
 ·intro h
  have:=bT n
  rw [h] at this
  simp [val] at this
  omega
 ·rintro rfl;exact fO
theorem aDF:∀n,Top (gr n):=by
 intro n
 induction n using Nat.strongRecOn with
 |_ n ih=>
  by_cases h:n=0
  ·subst h;rw [fO];decide
  ·rw [wQ h]
   by_cases h2:n / 1000000000=0
   ·rw [h2,fO]
    simp only [Top,List.getLastD_cons,List.getLastD_nil]
    omega
   ·rw [wQ h2,Top.cons,←wQ h2]
    exact ih _ (by omega)
theorem wT (n:Nat):Can (gr n):=⟨bK n,aDF n⟩
theorem aTX {l:List Int} (h:Can l):l=gr (val l).toNat:=by
 refine h.inj (wT _) ?_
 rw [bT]
 have:=bQ h.1
 omega
theorem bAQ {l:List Int} {n:Nat} (h:Can l) (e:val l=n):l=gr n:=by
 rw [aTX h,e,Int.toNat_natCast]
theorem lQ {n k:Nat} (h:n < 1000000000 ^ k):(gr n).length≤k:=by
 by_cases h0:(gr n).length=0
 ·omega
 ·have h1:=aAU (wT n) (by omega)
  rw [bT] at h1
  by_cases hlt:k≤(gr n).length - 1
  ·have h2:=oG hlt
   have h3:(n:Int) < ((1000000000 ^ k:Nat):Int):=Int.ofNat_lt.2 h
   rw [Int.natCast_pow,show ((1000000000:Nat):Int)=1000000000 from rfl] at h3
   omega
  ·omega
theorem fK {m n:Nat} (h:m≤n):(gr m).length≤(gr n).length:=(wT m).len_le (bK n) (by rw [bT,bT];omega)
def gH:List Int→List Int
 |[]=>[]
 |x::r=>if gH r=[]∧x=0 then [] else x::gH r
theorem aKR:∀l,val (gH l)=val l
 |[]=>rfl
 |x::r=>by
  have:=aKR r
  unfold gH
  split
  ·rename_i h
   rw [h.1] at this
   simp only [val] at this ⊢
   omega
  ·simp only [val,this]
theorem aJW:∀{l},Dig l→Dig (gH l)
 |[],_=>Dig.nil
 |x::r,h=>by
  rw [Dig.cons] at h
  unfold gH
  split
  ·exact Dig.nil
  ·rw [Dig.cons];exact ⟨h.1,aJW h.2⟩
theorem aKA:∀l,Top (gH l)
 |[]=>by decide
 |x::r=>by
  have ih:=aKA r
  unfold gH
  split
  ·decide
  ·rename_i h
   cases ht:gH r with
   |nil=>
    rw [ht] at h
    simp only [Top,List.getLastD_cons,List.getLastD_nil]
    exact fun hx=>h ⟨rfl,hx⟩
   |cons y s=>rw [Top.cons,←ht];exact ih
theorem aWK {l:List Int} (h:Dig l):gH l=gr (val l).toNat:=by
 have:=aTX (l:=gH l) ⟨aJW h,aKA l⟩
 rwa [aKR] at this
theorem pE {l:List Int} {n:Nat} (h:Dig l) (e:val l=n):gH l=gr n:=by
 rw [aWK h,e,Int.toNat_natCast]
theorem yB:∀l,gH (l++[0])=gH l
 |[]=>by decide
 |x::r=>by
  have:=yB r
  simp only [List.cons_append,gH,this]
theorem aCR {l:List Int} (h:Top l):gH l=l:=by
 induction l with
 |nil=>rfl
 |cons x r ih=>
  unfold gH
  cases r with
  |nil=>
   simp only [Top,List.getLastD_cons,List.getLastD_nil] at h
   rw [if_neg (fun hh=>h hh.2)]
   rfl
  |cons y s=>
   rw [Top.cons] at h
   rw [ih h,if_neg (by simp)]
theorem xB:∀l,∃k,k≤l.length∧gH l=l.take k∧(∀i,k≤i→l.getD i 0=0)
 |[]=>⟨0,by simp,rfl,by simp⟩
 |x::r=>by
  obtain ⟨k,hk,he,hz⟩:=xB r
  unfold gH
  split
  ·rename_i h
   refine ⟨0,by simp,rfl,fun i _=>?_⟩
   cases i with
   |zero=>simpa using h.2
   |succ i=>
    have hr:r.take k=[]:=by rw [←he];exact h.1
    have:k=0∨r=[]:=by simpa [List.take_eq_nil_iff] using hr
    rcases this with rfl|rfl
    ·simpa using hz i (by omega)
    ·simp
  ·refine ⟨k+1,by simp;omega,by rw [he];rfl,fun i hi=>?_⟩
   cases i with
   |zero=>omega
   |succ i=>simpa using hz i (by omega)
/- places: read, written -/
theorem bR (l:List Int) (i:Nat):val (l.take (i+1))=val (l.take i)+1000000000 ^ i*l.getD i 0:=by
 induction l generalizing i with
 |nil=>simp [val]
 |cons x r ih=>
  cases i with
  |zero=>simp [val]
  |succ i=>
   have:=ih i
   simp only [List.take_succ_cons,val,this,List.getD_cons_succ,Int.pow_succ]
   grind
theorem uJ (l:List Int) (i:Nat) (h:i < l.length):val (l.drop i)=l.getD i 0+1000000000*val (l.drop (i+1)):=by
 rw [List.drop_eq_getElem_cons h]
 simp [val,List.getD,h]
theorem kW (l:List Int) (i:Nat) (h:i≤l.length):val l=val (l.take i)+1000000000 ^ i*val (l.drop i):=by
 have e:=val_append (l.take i) (l.drop i)
 rw [List.take_append_drop,List.length_take,Nat.min_eq_left h] at e
 exact e
theorem aCG (l:List Int) (i:Nat) (x:Int) (h:i < l.length):val (l.set i x)=val l+1000000000 ^ i*(x - l.getD i 0):=by
 induction l generalizing i with
 |nil=>simp at h
 |cons y r ih=>
  cases i with
  |zero=>simp [val];omega
  |succ i=>
   have:=ih i (by simpa using h)
   simp only [List.set_cons_succ,val,this,List.getD_cons_succ,Int.pow_succ]
   grind
theorem iW (l:List Int) (i:Nat) (x:Int) (h:i < l.length):(l.set i x).take (i+1)=l.take i++[x]:=by
 apply List.ext_getElem?
 intro j
 by_cases h1:j < i
 ·rw [List.getElem?_take,if_pos (by omega),List.getElem?_set_ne (by omega),List.getElem?_append_left (by simp;omega),List.getElem?_take,if_pos h1]
 ·by_cases h2:j=i
  ·subst h2
   rw [List.getElem?_take,if_pos (by omega),List.getElem?_set_self h,List.getElem?_append_right (by simp;omega)]
   simp [Nat.min_eq_left (Nat.le_of_lt h)]
  ·rw [List.getElem?_take,if_neg (by omega),List.getElem?_append_right (by simp;omega)]
   simp only [List.length_take]
   rw [List.getElem?_eq_none (by simp;omega)]
theorem drop_set (l:List Int) (i:Nat) (x:Int) (h:i < l.length):(l.set i x).drop i=x::l.drop (i+1):=by
 apply List.ext_getElem?
 intro j
 cases j with
 |zero=>simp [h]
 |succ j=>
  rw [List.getElem?_drop,List.getElem?_set_ne (by omega),List.getElem?_cons_succ,List.getElem?_drop]
  congr 1
  omega
theorem Dig.getD {l:List Int} (h:Dig l) (i:Nat):0≤l.getD i 0∧l.getD i 0 < 1000000000:=by
 by_cases hi:i < l.length
 ·have:l.getD i 0=l[i]:=by simp [List.getD,hi]
  rw [this]
  exact h _ (List.getElem_mem hi)
 ·have:l.getD i 0=0:=by simp [List.getD,Nat.le_of_not_lt hi]
  rw [this]
  decide
theorem Dig.take {l:List Int} (h:Dig l) (i:Nat):Dig (l.take i):=fun x hx=>h x (List.mem_of_mem_take hx)
theorem Dig.drop {l:List Int} (h:Dig l) (i:Nat):Dig (l.drop i):=fun x hx=>h x (List.mem_of_mem_drop hx)
theorem Dig.set {l:List Int} (h:Dig l) (i:Nat) {x:Int} (hx:0≤x∧x < 1000000000):Dig (l.set i x):=fun y hy=>by
 rcases List.mem_or_eq_of_mem_set hy with hy|rfl
 ·exact h y hy
 ·exact hx
theorem Dig.snoc {l:List Int} (h:Dig l) {x:Int} (hx:0≤x∧x < 1000000000):Dig (l++[x]):=Dig.app.2 ⟨h,by rw [Dig.cons];exact ⟨hx,Dig.nil⟩⟩
theorem Dig.zeros (n:Nat):Dig (List.replicate n 0):=fun x hx=>by
 rw [List.eq_of_mem_replicate hx];decide
theorem xA (n:Nat):val (List.replicate n 0)=0:=by
 induction n with
 |zero=>rfl
 |succ n ih=>simp only [List.replicate_succ,val,ih];rfl
theorem iK {l:List Int} (h:Dig l) (i:Nat):val (l.take i) < 1000000000 ^ i:=by
 have h1:=jG (h.take i)
 have h2:=oG (show (l.take i).length≤i by simp;omega)
 omega
theorem aJK {a b o:List Int} {i:Nat} {c s:Int} (hv:val (o.take i)+1000000000 ^ i*c=val (a.take i)+val (b.take i)) (hi:i < o.length) {s' c':Int} (hs:s=a.getD i 0+b.getD i 0+c) (he:s'+1000000000*c'=s):
  val ((o.set i s').take (i+1))+1000000000 ^ (i+1)*c'=val (a.take (i+1))+val (b.take (i+1)):=by
 rw [iW o i s' hi,val_append,bR,bR]
 simp only [List.length_take,Nat.min_eq_left (Nat.le_of_lt hi),val,Int.pow_succ]
 grind
theorem aIL {a b o:List Int} {i:Nat} {c:Int} (hv:val (o.take i) - 1000000000 ^ i*c=val (a.take i) - val (b.take i)) (hi:i < o.length) {s' c':Int} (he:s' - 1000000000*c'=a.getD i 0 - b.getD i 0 - c):
  val ((o.set i s').take (i+1)) - 1000000000 ^ (i+1)*c'=val (a.take (i+1)) - val (b.take (i+1)):=by
 rw [iW o i s' hi,val_append,bR,bR]
 simp only [List.length_take,Nat.min_eq_left (Nat.le_of_lt hi),val,Int.pow_succ]
 grind
theorem uI {p q o c:Int} (hp:0≤p∧p < 1000000000) (hq:0≤q∧q < 1000000000) (ho:0≤o∧o < 1000000000) (hc:0≤c∧c < 1000000000):
  (0≤p*q∧p*q≤999999998000000001)∧(0≤o+p*q+c∧o+p*q+c≤999999999999999999)∧(0≤(o+p*q+c) / 1000000000∧(o+p*q+c) / 1000000000 < 1000000000):=by
 have h0:0≤p*q:=Int.mul_nonneg hp.1 hq.1
 have h1:p*q≤999999999*999999999:=Int.mul_le_mul (by omega) (by omega) hq.1 (by omega)
 refine ⟨by omega,by omega,by omega⟩
theorem aLW {o b:List Int} {i j:Nat} {p c S:Int} (hv:val o+1000000000 ^ (i+j)*c=S+1000000000 ^ i*(p*val (b.take j))) (hij:i+j < o.length):
  val (o.set (i+j) ((o.getD (i+j) 0+p*b.getD j 0+c) % 1000000000))+1000000000 ^ (i+(j+1))*((o.getD (i+j) 0+p*b.getD j 0+c) / 1000000000)=S+1000000000 ^ i*(p*val (b.take (j+1))):=by
 rw [aCG o _ _ hij,bR]
 have e:(o.getD (i+j) 0+p*b.getD j 0+c)=(o.getD (i+j) 0+p*b.getD j 0+c) % 1000000000+1000000000*((o.getD (i+j) 0+p*b.getD j 0+c) / 1000000000):=by omega
 generalize (o.getD (i+j) 0+p*b.getD j 0+c) % 1000000000=s at*
 generalize (o.getD (i+j) 0+p*b.getD j 0+c) / 1000000000=t at*
 have e1:(1000000000:Int) ^ (i+(j+1))=1000000000 ^ (i+j)*1000000000:=by rw [←Nat.add_assoc,Int.pow_succ]
 have e2:(1000000000:Int) ^ (i+j)=1000000000 ^ i*1000000000 ^ j:=Int.pow_add _ _ _
 rw [e1,e2]
 rw [e2] at hv
 clear e1 e2
 generalize (1000000000:Int) ^ i=A at*
 generalize (1000000000:Int) ^ j=D at*
 generalize o.getD (i+j) 0=u at*
 generalize b.getD j 0=v at*
 generalize val o=x at*
 generalize val (b.take j)=y at*
 clear hij
 grind
theorem aIB {o b:List Int} {i:Nat} {p c S:Int} (hv:val o+1000000000 ^ (i+b.length)*c=S+1000000000 ^ i*(p*val (b.take b.length))) (hij:i+b.length < o.length) (hz:o.getD (i+b.length) 0=0):
  val (o.set (i+b.length) c)=S+1000000000 ^ i*(p*val b):=by
 rw [aCG o _ _ hij,hz,Int.sub_zero,hv,List.take_length]
theorem aEW {r g d:Int} (hd:0 < d) (hd2:d≤1000000000) (hr:0≤r∧r < d) (hg:0≤g∧g < 1000000000):
  (0≤r*1000000000∧r*1000000000+g≤999999999999999999)∧(0≤(r*1000000000+g) / d∧(r*1000000000+g) / d < 1000000000)∧(0≤(r*1000000000+g) % d∧(r*1000000000+g) % d < d):=by
 have h1:(r*1000000000+g) / d < 1000000000:=by
  rw [Int.ediv_lt_iff_lt_mul hd]
  have:(r+1)*1000000000≤d*1000000000:=Int.mul_le_mul_of_nonneg_right (by omega) (by omega)
  have e:(1000000000:Int)*d=d*1000000000:=Int.mul_comm _ _
  omega
 have h2:0≤(r*1000000000+g) / d:=Int.ediv_nonneg (by omega) (by omega)
 have h3:=Int.emod_nonneg (r*1000000000+g) (show d≠0 by omega)
 have h4:=Int.emod_lt_of_pos (r*1000000000+g) hd
 exact ⟨by omega,by omega,by omega⟩
theorem aIS {a q:List Int} {i:Nat} {d r:Int} (hia:i < a.length) (hiq:i < q.length) (hv:val (a.drop (i+1))=d*val (q.drop (i+1))+r):
  val (a.drop i)=d*val ((q.set i ((r*1000000000+a.getD i 0) / d)).drop i)+(r*1000000000+a.getD i 0) % d:=by
 rw [uJ a i hia,drop_set q i _ hiq,hv]
 have e:=Int.mul_ediv_add_emod (r*1000000000+a.getD i 0) d
 simp only [val]
 generalize (r*1000000000+a.getD i 0) / d=s at*
 generalize (r*1000000000+a.getD i 0) % d=t at*
 grind
/- comparing -/
theorem aGP {a b:List Int} (ha:Can a) (hb:Can b) (h:a.length < b.length):val a < val b:=by
 by_cases c:val b≤val a
 ·have:=hb.len_le ha.1 c;omega
 ·omega
theorem aVI {a b:List Int} {i:Nat} (ha:Dig a) (hb:Dig b) (hl:a.length=b.length) (hi:i < a.length) (hs:a.drop (i+1)=b.drop (i+1)) (hlt:a.getD i 0 < b.getD i 0):val a < val b:=by
 have e1:=kW a i (by omega)
 have e2:=kW b i (by omega)
 rw [uJ a i hi] at e1
 rw [uJ b i (by omega),←hs] at e2
 have h1:=iK ha i
 have h2:=bQ (hb.take i)
 have h3:1000000000 ^ i*(a.getD i 0+1)≤1000000000 ^ i*b.getD i 0:=Int.mul_le_mul_of_nonneg_left (by omega) (Int.le_of_lt (jD i))
 generalize (1000000000:Int) ^ i=A at*
 generalize val (a.drop (i+1))=D at*
 rw [Int.mul_add] at e1 e2 h3
 omega
theorem aUC {a b:List Int} {i:Nat} (hl:a.length=b.length) (hi:i < a.length) (he:a.getD i 0=b.getD i 0) (hs:a.drop (i+1)=b.drop (i+1)):a.drop i=b.drop i:=by
 rw [List.drop_eq_getElem_cons hi,List.drop_eq_getElem_cons (show i < b.length by omega),hs]
 simp [List.getD,hi,show i < b.length by omega] at he
 rw [he]
end Go.Proofs.YtgpkjcmipiodcaaGreat
namespace Go.Proofs.YtgpkjcmipiodcaaGreat
open Go Go.Fx
theorem jB (l:List Int) (i j:Nat):(l.drop i).getD j 0=l.getD (i+j) 0:=by
 simp [List.getD,List.getElem?_drop]
theorem nM {a b c:Int} (hc:0 < c) (h:a*c < b*c):a < b:=by
 by_cases hh:b≤a
 ·have:=Int.mul_le_mul_of_nonneg_right hh (Int.le_of_lt hc);omega
 ·omega
theorem wR {l:List Int} {k:Nat} (hd:Dig l) (h:val l < 1000000000 ^ (k+1)):val l=val (l.take k)+1000000000 ^ k*l.getD k 0:=by
 have e:=bR l k
 by_cases hl:k+1≤l.length
 ·have e2:=kW l (k+1) hl
  have h3:=bQ (hd.take (k+1))
  have h5:=bQ (hd.drop (k+1))
  by_cases h0:val (l.drop (k+1))=0
  ·rw [h0] at e2
   omega
  ·have:1000000000 ^ (k+1)*1≤1000000000 ^ (k+1)*val (l.drop (k+1)):=Int.mul_le_mul_of_nonneg_left (by omega) (Int.le_of_lt (jD _))
   omega
 ·rw [List.take_of_length_le (show l.length≤k+1 by omega)] at e
  exact e
section
variable {T V t1 t0 t2 v1 v0 P g r:Int}
structure Knu (T V P t2 t1 t0 v1 v0:Int):Prop where
 hP:1≤P
 ht:(t2*1000000000*1000000000+t1*1000000000+t0)*P≤T∧T < (t2*1000000000*1000000000+t1*1000000000+t0+1)*P
 hv:(v1*1000000000+v0)*P≤V∧V < (v1*1000000000+v0+1)*P
 d2:0≤t2∧t2 < 1000000000
 d1:0≤t1∧t1 < 1000000000
 d0:0≤t0∧t0 < 1000000000
 e1:1≤v1∧v1 < 1000000000
 e0:0≤v0∧v0 < 1000000000
 lt:T < 1000000000*V
 T0:0≤T
theorem Knu.V0 (h:Knu T V P t2 t1 t0 v1 v0):1000000000*P≤V:=by
 have:1000000000*P≤(v1*1000000000+v0)*P:=Int.mul_le_mul_of_nonneg_right (by have:=h.e1;have:=h.e0;omega) (by have:=h.hP;omega)
 have:=h.hv
 omega
theorem Knu.T2 (h:Knu T V P t2 t1 t0 v1 v0):t2*1000000000+t1 < 1000000000*(v1+1):=by
 have hP:=h.hP
 have h1:=h.ht.1
 have h2:=h.hv.2
 have h3:=h.lt
 have e0:=h.e0
 have d0:=h.d0
 have d1:=h.d1
 have:(t2*1000000000*1000000000+t1*1000000000+t0)*P < (1000000000*(v1*1000000000+v0+1))*P:=by
  have e:(1000000000*(v1*1000000000+v0+1))*P=1000000000*((v1*1000000000+v0+1)*P):=Int.mul_assoc _ _ _
  omega
 have:=nM (by omega) this
 omega
def GeQ (T V g:Int):Prop:=T < (g+1)*V
theorem Knu.start (h:Knu T V P t2 t1 t0 v1 v0) (hg:g*v1+r=t2*1000000000+t1) (hr:r < v1):GeQ T V g:=by
 have hP:=h.hP
 have h1:=h.ht.2
 have h2:=h.hv.1
 have e0:=h.e0
 have e1:=h.e1
 have d0:=h.d0
 have d1:=h.d1
 have d2:=h.d2
 have hg0:0≤g+1:=by
  by_cases c:0≤g+1
  ·exact c
  ·have:(g+1)*v1≤(-1)*v1:=Int.mul_le_mul_of_nonneg_right (by omega) (by omega)
   rw [Int.add_mul] at this
   omega
 have k1:(g+1)*((v1*1000000000+v0)*P)≤(g+1)*V:=Int.mul_le_mul_of_nonneg_left h2 hg0
 have k2:(t2*1000000000*1000000000+t1*1000000000+t0+1)*P≤((g+1)*(v1*1000000000+v0))*P:=by
  refine Int.mul_le_mul_of_nonneg_right ?_ (by omega)
  have k3:0≤(g+1)*v0:=Int.mul_nonneg hg0 e0.1
  have k4:(g+1)*(v1*1000000000+v0)=(g*v1)*1000000000+v1*1000000000+(g+1)*v0:=by grind
  omega
 unfold GeQ
 have k5:((g+1)*(v1*1000000000+v0))*P=(g+1)*((v1*1000000000+v0)*P):=Int.mul_assoc _ _ _
 omega
theorem Knu.less (h:Knu T V P t2 t1 t0 v1 v0) (hg:g*v1+r=t2*1000000000+t1) (hq:GeQ T V g) (hc:1000000000≤g∨r*1000000000+t0 < g*v0):GeQ T V (g - 1):=by
 have hP:=h.hP
 have e0:=h.e0
 unfold GeQ
 have e:g - 1+1=g:=by omega
 rw [e]
 rcases hc with hc|hc
 ·have hV:=h.V0
  have:1000000000*V≤g*V:=Int.mul_le_mul_of_nonneg_right hc (by omega)
  have:=h.lt
  omega
 ·have hg0:0≤g:=by
   by_cases c:0≤g
   ·exact c
   ·exfalso
    have hV:=h.V0
    have:(g+1)*V≤0*V:=Int.mul_le_mul_of_nonneg_right (by omega) (by omega)
    have:=h.T0
    unfold GeQ at hq
    omega
  have k1:g*((v1*1000000000+v0)*P)≤g*V:=Int.mul_le_mul_of_nonneg_left h.hv.1 hg0
  have k2:(t2*1000000000*1000000000+t1*1000000000+t0+1)*P≤(g*(v1*1000000000+v0))*P:=by
   refine Int.mul_le_mul_of_nonneg_right ?_ (by omega)
   have k4:g*(v1*1000000000+v0)=(g*v1)*1000000000+g*v0:=by grind
   omega
  have k5:(g*(v1*1000000000+v0))*P=g*((v1*1000000000+v0)*P):=Int.mul_assoc _ _ _
  have:=h.ht.2
  omega
theorem Knu.done (h:Knu T V P t2 t1 t0 v1 v0) (hg:g*v1+r=t2*1000000000+t1) (hg0:0≤g) (hgB:g < 1000000000) (hc:1000000000≤r∨g*v0≤r*1000000000+t0):g*V≤T+V:=by
 have hP:=h.hP
 have e0:=h.e0
 have d0:=h.d0
 have k1:g*V≤g*((v1*1000000000+v0+1)*P):=Int.mul_le_mul_of_nonneg_left (by have:=h.hv.2;omega) hg0
 have k5:g*((v1*1000000000+v0+1)*P)=(g*(v1*1000000000+v0)+g)*P:=by grind
 have k4:g*(v1*1000000000+v0)=(g*v1)*1000000000+g*v0:=by grind
 have k6:g*v0≤g*999999999:=Int.mul_le_mul_of_nonneg_left (by omega) hg0
 have k7:(g*(v1*1000000000+v0)+g)*P≤(t2*1000000000*1000000000+t1*1000000000+t0+1000000000)*P:=by
  refine Int.mul_le_mul_of_nonneg_right ?_ (by omega)
  rcases hc with hc|hc <;>omega
 have k8:(t2*1000000000*1000000000+t1*1000000000+t0+1000000000)*P=(t2*1000000000*1000000000+t1*1000000000+t0)*P+1000000000*P:=Int.add_mul _ _ _
 have:=h.V0
 have:=h.ht.1
 omega
end
theorem bAX {u v:List Int} {n:Nat} (hu:Dig u) (hv:Dig v) (hn:2≤n) (hl:v.length=n) (htop:1≤v.getD (n - 1) 0) (hlt:val u < 1000000000*val v):
  Knu (val u) (val v) (1000000000 ^ (n - 2)) (u.getD n 0) (u.getD (n - 1) 0) (u.getD (n - 2) 0) (v.getD (n - 1) 0) (v.getD (n - 2) 0):=by
 obtain ⟨k,rfl⟩:∃k,n=k+2:=⟨n - 2,by omega⟩
 simp only [show k+2 - 1=k+1 from rfl,show k+2 - 2=k from rfl] at*
 have hvlt:=jG hv
 rw [hl] at hvlt
 have e3:=wR (k:=k+2) hu (by rw [Int.pow_succ];omega)
 have e4:=wR (k:=k+1) hv (by omega)
 rw [bR,bR] at e3
 rw [bR] at e4
 have p:=jD k
 have l1:=iK hu k
 have l2:=iK hv k
 have m1:=bQ (hu.take k)
 have m2:=bQ (hv.take k)
 have q1:(1000000000:Int) ^ (k+1)=1000000000 ^ k*1000000000:=Int.pow_succ _ _
 have q2:(1000000000:Int) ^ (k+2)=1000000000 ^ k*1000000000*1000000000:=by rw [Int.pow_succ,Int.pow_succ]
 rw [q1,q2] at e3
 rw [q1] at e4
 refine ⟨by omega,?_,?_,hu.getD _,hu.getD _,hu.getD _,⟨htop,(hv.getD _).2⟩,hv.getD _,hlt,bQ hu⟩
 ·generalize (1000000000:Int) ^ k=A at*
  generalize u.getD (k+2) 0=a at*
  generalize u.getD (k+1) 0=b at*
  generalize u.getD k 0=c at*
  have:val u=val (u.take k)+(a*1000000000*1000000000+b*1000000000+c)*A:=by rw [e3];grind
  constructor
  ·omega
  ·rw [Int.add_mul];omega
 ·generalize (1000000000:Int) ^ k=A at*
  generalize v.getD (k+1) 0=b at*
  generalize v.getD k 0=c at*
  have:val v=val (v.take k)+(b*1000000000+c)*A:=by rw [e4];grind
  constructor
  ·omega
  ·rw [Int.add_mul];omega
theorem aQG {o U v:List Int} {j i:Nat} {g b c d d' b':Int} (hv:val ((o.drop j).take i)+g*val (v.take i)=val ((U.drop j).take i)+1000000000 ^ i*(b+c)) (hi:j+i < o.length) (hs:(o.drop (j+i))=U.drop (j+i)) (hd:d=U.getD (j+i) 0 - b - (g*v.getD i 0+c) % 1000000000) (he:d'=d+1000000000*b'):
  val (((o.set (j+i) d').drop j).take (i+1))+g*val (v.take (i+1))=val ((U.drop j).take (i+1))+1000000000 ^ (i+1)*(b'+(g*v.getD i 0+c) / 1000000000)∧(o.set (j+i) d').drop (j+(i+1))=U.drop (j+(i+1)):=by
 constructor
 ·have e1:(o.set (j+i) d').drop j=(o.drop j).set i d':=by
   rw [List.drop_set]
   rw [if_neg (by omega)]
   congr 1
   omega
  have hl:i < (o.drop j).length:=by simp;omega
  rw [e1,iW _ i d' hl,val_append,bR,bR (U.drop j),jB]
  simp only [List.length_take,Nat.min_eq_left (Nat.le_of_lt hl),val,Int.pow_succ]
  have e2:g*v.getD i 0+c=(g*v.getD i 0+c) % 1000000000+1000000000*((g*v.getD i 0+c) / 1000000000):=by omega
  generalize (g*v.getD i 0+c) % 1000000000=s at*
  generalize (g*v.getD i 0+c) / 1000000000=t at*
  generalize (1000000000:Int) ^ i=A at*
  generalize v.getD i 0=x at*
  generalize U.getD (j+i) 0=y at*
  generalize val ((o.drop j).take i)=z at*
  generalize val ((U.drop j).take i)=z2 at*
  generalize val (v.take i)=z3 at*
  clear e1 hl hs hi
  subst hd he
  grind
 ·have e:((o.set (j+i) d').drop (j+(i+1)))=o.drop (j+i+1):=by
   rw [←Nat.add_assoc,List.drop_set,if_pos (by omega)]
  rw [e,←Nat.add_assoc]
  have h1:o.drop (j+i+1)=(o.drop (j+i)).drop 1:=by rw [List.drop_drop]
  have h2:U.drop (j+i+1)=(U.drop (j+i)).drop 1:=by rw [List.drop_drop]
  rw [h1,h2,hs]
end Go.Proofs.YtgpkjcmipiodcaaGreat
namespace Go.Proofs.YtgpkjcmipiodcaaGreat
open Go Go.Fx
def Ht (k:Nat) (q:Rat):Prop:=q.num.natAbs≤2 ^ k∧q.den≤2 ^ k
instance (k:Nat) (q:Rat):Decidable (Ht k q):=by unfold Ht;exact inferInstance
theorem Ht.mono {k m:Nat} {q:Rat} (h:Ht k q) (hk:k≤m):Ht m q:=by
 have:=Nat.pow_le_pow_right (show 0 < 2 by omega) hk
 exact ⟨Nat.le_trans h.1 this,Nat.le_trans h.2 this⟩
theorem Ht.divInt {k:Nat} {n d:Int} (hn:n.natAbs≤2 ^ k) (hd:d.natAbs≤2 ^ k):Ht k (Rat.divInt n d):=by
 by_cases h0:d=0
 ·subst h0
  rw [Rat.divInt_zero]
  exact ⟨by simp,by simpa using Nat.one_le_two_pow⟩
 ·obtain ⟨m,hm,h1,h2⟩:=Rat.divInt_num_den (n:=n) (d:=d) (n':=(Rat.divInt n d).num) (d':=(Rat.divInt n d).den) (z':=(Rat.divInt n d).den_nz) (c:=(Rat.divInt n d).reduced) h0 rfl
  have hm1:1≤m.natAbs:=by omega
  constructor
  ·have:n.natAbs=(Rat.divInt n d).num.natAbs*m.natAbs:=by rw [←Int.natAbs_mul,←h1]
   have:=Nat.le_mul_of_pos_right (Rat.divInt n d).num.natAbs hm1
   omega
  ·have:d.natAbs=(Rat.divInt n d).den*m.natAbs:=by
    have:=congrArg Int.natAbs h2
    rw [Int.natAbs_mul,Int.natAbs_natCast] at this
    exact this
   have:=Nat.le_mul_of_pos_right (Rat.divInt n d).den hm1
   omega
theorem uT (p q:Rat):p+q=Rat.divInt (p.num*q.den+q.num*p.den) (p.den*q.den):=by
 have:=Rat.divInt_add_divInt p.num q.num (d₁:=p.den) (d₂:=q.den) (by have:=p.den_nz;omega) (by have:=q.den_nz;omega)
 rw [Rat.num_divInt_den,Rat.num_divInt_den] at this
 exact this
theorem aDC (p q:Rat):p*q=Rat.divInt (p.num*q.num) (p.den*q.den):=by
 have:=Rat.divInt_mul_divInt p.num q.num (d₁:=p.den) (d₂:=q.den)
 rw [Rat.num_divInt_den,Rat.num_divInt_den] at this
 exact this
theorem aDT (p q:Rat):p / q=Rat.divInt (p.num*q.den) (p.den*q.num):=by
 rw [Rat.div_def,Rat.inv_def]
 have:=Rat.divInt_mul_divInt p.num q.den (d₁:=p.den) (d₂:=q.num)
 rw [Rat.num_divInt_den] at this
 exact this
theorem jJ {a b k m:Nat} (ha:a≤2 ^ k) (hb:b≤2 ^ m):a*b≤2 ^ (k+m):=by
 rw [Nat.pow_add]
 exact Nat.mul_le_mul ha hb
theorem Ht.add {k m:Nat} {p q:Rat} (hp:Ht k p) (hq:Ht m q):Ht (k+m+1) (p+q):=by
 rw [uT]
 have h1:=jJ hp.1 hq.2
 have h2:=jJ hq.1 hp.2
 have h3:=jJ hp.2 hq.2
 rw [Nat.add_comm m k] at h2
 have e:2 ^ (k+m+1)=2*2 ^ (k+m):=by rw [Nat.pow_succ];omega
 refine Ht.divInt ?_ ?_
 ·have:=Int.natAbs_add_le (p.num*q.den) (q.num*p.den)
  rw [Int.natAbs_mul,Int.natAbs_mul,Int.natAbs_natCast,Int.natAbs_natCast] at this
  omega
 ·rw [Int.natAbs_mul,Int.natAbs_natCast,Int.natAbs_natCast]
  omega
theorem Ht.mul {k m:Nat} {p q:Rat} (hp:Ht k p) (hq:Ht m q):Ht (k+m) (p*q):=by
 rw [aDC]
 refine Ht.divInt ?_ ?_
 ·rw [Int.natAbs_mul];exact jJ hp.1 hq.1
 ·rw [Int.natAbs_mul,Int.natAbs_natCast,Int.natAbs_natCast];exact jJ hp.2 hq.2
theorem Ht.div {k m:Nat} {p q:Rat} (hp:Ht k p) (hq:Ht m q):Ht (k+m) (p / q):=by
 rw [aDT]
 refine Ht.divInt ?_ ?_
 ·rw [Int.natAbs_mul,Int.natAbs_natCast];exact jJ hp.1 hq.2
 ·rw [Int.natAbs_mul,Int.natAbs_natCast];exact jJ hp.2 hq.1
theorem Ht.neg {k:Nat} {p:Rat} (hp:Ht k p):Ht k (-p):=by
 unfold Ht
 rw [Rat.neg_num,Rat.neg_den,Int.natAbs_neg]
 exact hp
theorem Ht.sub {k m:Nat} {p q:Rat} (hp:Ht k p) (hq:Ht m q):Ht (k+m+1) (p - q):=by
 rw [Rat.sub_eq_add_neg]
 exact hp.add hq.neg
theorem Ht.int {k:Nat} {n:Int} (h:n.natAbs≤2 ^ k):Ht k (n:Rat):=by
 unfold Ht
 rw [Rat.num_intCast,Rat.den_intCast]
 exact ⟨h,Nat.one_le_two_pow⟩
theorem dX {n k:Nat} (h:n≤2 ^ k):(gr n).length≤k / 29+1:=by
 refine lQ ?_
 have h1:2 ^ k < 2 ^ (29*(k / 29+1)):=Nat.pow_lt_pow_right (by omega) (by omega)
 have h2:(2:Nat) ^ (29*(k / 29+1))≤1000000000 ^ (k / 29+1):=by
  rw [Nat.pow_mul]
  exact Nat.pow_le_pow_left (by decide) _
 omega
theorem aJI (q:Rat):q.num.sign=if q < 0 then -1 else if q=0 then 0 else 1:=by
 by_cases h1:q < 0
 ·rw [if_pos h1]
  have:q.num < 0:=by
   by_cases c:0≤q.num
   ·exact absurd h1 (Rat.not_lt.2 (Rat.num_nonneg.1 c))
   ·omega
  exact Int.sign_eq_neg_one_of_neg this
 ·rw [if_neg h1]
  by_cases h2:q=0
  ·subst h2;rfl
  ·rw [if_neg h2]
   have h3:0≤q.num:=Rat.num_nonneg.2 (Rat.not_lt.1 h1)
   have h4:q.num≠0:=fun h=>h2 (Rat.num_eq_zero.1 h)
   exact Int.sign_eq_one_of_pos (by omega)
end Go.Proofs.YtgpkjcmipiodcaaGreat

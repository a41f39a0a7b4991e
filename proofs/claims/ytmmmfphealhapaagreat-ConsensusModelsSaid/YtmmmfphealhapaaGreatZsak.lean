/- Fractions in memory: records, facts, what follows from facts. -/
import Derived.Test.YtmmmfphealhapaaGreatZsae
import Derived.Test.YtmmmfphealhapaaGreatZsaj
import Derived.Test.YtmmmfphealhapaaGreatZsah
import Derived.Test.YtmmmfphealhapaaGreatZsaf
set_option linter.unusedSimpArgs false
set_option linter.unusedVariables false
set_option maxRecDepth 100000
set_option maxHeartbeats 4000000
namespace Go.Proofs.YtmmmfphealhapaaGreat
open Go Go.Fx
abbrev vI (q:Option Addr) (c:Nat) (z:Int):Value:= .agg #[.bool (B (z < 0)), .slice q (gr z.natAbs).length c]
structure RE where
 q:Rat
 p1:Option Addr
 c1:Nat
 p2:Option Addr
 c2:Nat
instance:Inhabited RE:=⟨⟨0,none,0,none,0⟩⟩
abbrev eR (e:RE):List Value:=[.bool (B (e.q.num < 0)), .slice e.p1 (gr e.q.num.natAbs).length e.c1, .bool (B ((e.q.den:Int) < 0)), .slice e.p2 (gr (e.q.den:Int).natAbs).length e.c2]
abbrev rv (e:RE):Value:= .agg #[.bool (B (e.q.num < 0)), .slice e.p1 (gr e.q.num.natAbs).length e.c1, .bool (B ((e.q.den:Int) < 0)), .slice e.p2 (gr (e.q.den:Int).natAbs).length e.c2]
instance:Sized eR 4:=⟨fun _=>rfl⟩
instance:Ones eR:=⟨fun m u hu=>by
 simp only [eR,List.mem_cons,List.not_mem_nil,or_false] at hu
 rcases hu with rfl|rfl|rfl|rfl <;>rfl⟩
structure IsR (e:RE) (k:Nat) (X:List Nat) (w:World):Prop where
 num:IsI (vI e.p1 e.c1 e.q.num) e.q.num k X w
 den:IsI (vI e.p2 e.c2 e.q.den) e.q.den k X w
abbrev bW (e:RE) (k:Nat):aM:=IsR e k
instance (e:RE) (k:Nat):Fx.Good (IsR e k):=⟨fun X Y w w' h he hY=>⟨Fx.Good.go (φ:=IsI _ _ _) X Y w w' h.num he hY,Fx.Good.go (φ:=IsI _ _ _) X Y w w' h.den he hY⟩⟩
theorem IsR.mono {e:RE} {k m:Nat} {X:List Nat} {w:World} (h:IsR e k X w) (hk:k≤m):IsR e m X w:=⟨h.num.mono hk,h.den.mono hk⟩
theorem IsI.le {u:Value} {z:Int} {k:Nat} {X:List Nat} {w:World} (h:IsI u z k X w):z.natAbs≤2 ^ k:=by
 obtain ⟨q,c,h1,h2,h3,h4⟩:=h.ex
 exact h3
structure AllR (es:List RE) (k:Nat) (X:List Nat) (w:World):Prop where
 go:∀e∈es,IsR e k X w
abbrev aU (es:List RE) (k:Nat):aM:=AllR es k
instance (es:List RE) (k:Nat):Fx.Good (AllR es k):=⟨fun X Y w w' h he hY=>⟨fun e hm=>Fx.Good.go (φ:=IsR _ _) X Y w w' (h.go e hm) he hY⟩⟩
theorem AllR.mono {es:List RE} {k m:Nat} {X:List Nat} {w:World} (h:AllR es k X w) (hk:k≤m):AllR es m X w:=⟨fun e he=>(h.go e he).mono hk⟩
structure Hv (I:List aM) (φ:aM):Prop where
 go:∀(X:List Nat) (w:World),(∀ψ∈I,ψ X w)→φ X w
theorem Hv.mem {I:List aM} {φ:aM} (h:φ∈I):Hv I φ:=⟨fun _ _ hw=>hw φ h⟩
theorem Hv.q {I:List aM} {e:RE} {k m:Nat} (h:bW e k∈I) (hk:k≤m):Hv I (bW e m):=⟨fun X w hw=>IsR.mono (hw _ h) hk⟩
theorem bD {α:Type} [Inhabited α] {ms:List α} {i:Int} (h:0≤i∧i < ms.length):gt ms i∈ms:=List.mem_of_getElem? (aIY h)
theorem Hv.all {I:List aM} {es:List RE} {k m:Nat} {i:Int} (h:aU es k∈I) (hi:0≤i∧i < es.length) (hk:k≤m):Hv I (bW (gt es i) m):=⟨fun X w hw=>((hw _ h:AllR es k X w).go _ (bD hi)).mono hk⟩
theorem Hv.inc {I I':List aM} {φ:aM} (h:Hv I φ) (hs:∀ψ∈I,ψ∈I'):Hv I' φ:=⟨fun X w hw=>h.go X w (fun ψ hm=>hw ψ (hs ψ hm))⟩
theorem Hv.cons {I:List aM} {φ ψ:aM} (h:Hv I φ):Hv (ψ::I) φ:=h.inc (fun _ hm=>List.mem_cons_of_mem _ hm)
theorem Hv.allMono {I:List aM} {es:List RE} {k m:Nat} (h:aU es k∈I) (hk:k≤m):Hv I (aU es m):=⟨fun X w hw=>AllR.mono (hw _ h) hk⟩
section
variable {P:Program} {n:Nat} {Q:Exit→Act→World→Prop} {G:Env} {X:List Nat} {w0:World} {M M':List Ent} {I I':List aM}
theorem Mem.hv {w:World} {φ:aM} [Fx.Good φ] (h:Hv I φ) (hw:Mem X w0 M I w):Mem X w0 M (φ::I) w:=hw.add (φ:=φ) (h.go _ _ (fun ψ hm=>(hw.imm ψ hm).2))
theorem aX {f:FuncId} {vs:List Value} {K:Value→List Ent→List aM→Prop} {φ:aM} [Fx.Good φ] (h:Hv I φ) (k:CD P f vs X w0 M (φ::I) K):CD P f vs X w0 M I K:=⟨fun w hw=>k.go w (Mem.hv h hw)⟩
theorem bH {c:Code} {φ:aM} [Fx.Good φ] (h:Hv I φ) (k:TD P n c Q G X w0 M (φ::I)):TD P n c Q G X w0 M I:=aFP (fun _ hw=>Mem.hv h hw) k
theorem cK {ops l:List Oper} {m:Fx.Mode} {φ:aM} [Fx.Good φ] (h:Hv I φ) (k:RD P n ops Q m l G X w0 M (φ::I)):RD P n ops Q m l G X w0 M I:=vX (fun _ hw=>Mem.hv h hw) k
theorem dF {ex:Exit} {φ:aM} [Fx.Good φ] (h:Hv I φ) (k:ND n Q ex G X w0 M (φ::I)):ND n Q ex G X w0 M I:=yK (fun _ hw=>Mem.hv h hw) k
theorem bCK {w:World} {e:RE} {k:Nat} (h:Hv I (bW e k)) (hw:Mem X w0 M I w):Mem X w0 M (gW (vI e.p1 e.c1 e.q.num) e.q.num k::gW (vI e.p2 e.c2 e.q.den) e.q.den k::I) w:=by
 have hr:IsR e k (muts M) w:=h.go _ _ (fun ψ hm=>(hw.imm ψ hm).2)
 exact (hw.add (φ:=gW (vI e.p2 e.c2 e.q.den) e.q.den k) hr.den).add (φ:=gW (vI e.p1 e.c1 e.q.num) e.q.num k) hr.num
theorem aEX {f:FuncId} {vs:List Value} {K:Value→List Ent→List aM→Prop} {e:RE} {k:Nat} (h:Hv I (bW e k)) (c:CD P f vs X w0 M (gW (vI e.p1 e.c1 e.q.num) e.q.num k::gW (vI e.p2 e.c2 e.q.den) e.q.den k::I) K):CD P f vs X w0 M I K:=⟨fun w hw=>c.go w (bCK h hw)⟩
theorem gY {ops l:List Oper} {m:Fx.Mode} {e:RE} {k:Nat} (h:Hv I (bW e k)) (c:RD P n ops Q m l G X w0 M (gW (vI e.p1 e.c1 e.q.num) e.q.num k::gW (vI e.p2 e.c2 e.q.den) e.q.den k::I)):RD P n ops Q m l G X w0 M I:=vX (fun _ hw=>bCK h hw) c
theorem bER {w:World} {q:Rat} {k k1 k2:Nat} {p1 p2:Option Addr} {c1 c2:Nat} (h1:gW (vI p1 c1 q.num) q.num k1∈I) (h2:gW (vI p2 c2 q.den) q.den k2∈I) (hk1:k1≤k) (hk2:k2≤k) (hw:Mem X w0 M I w):Mem X w0 M (bW ⟨q,p1,c1,p2,c2⟩ k::I) w:=
 hw.add (φ:=bW ⟨q,p1,c1,p2,c2⟩ k) ⟨IsI.mono (hw.imm _ h1).2 hk1,IsI.mono (hw.imm _ h2).2 hk2⟩
theorem mG {ex:Exit} {q:Rat} {k k1 k2:Nat} {p1 p2:Option Addr} {c1 c2:Nat} (h1:gW (vI p1 c1 q.num) q.num k1∈I) (h2:gW (vI p2 c2 q.den) q.den k2∈I) (hk1:k1≤k) (hk2:k2≤k) (h:ND n Q ex G X w0 M (bW ⟨q,p1,c1,p2,c2⟩ k::I)):ND n Q ex G X w0 M I:=yK (fun _ hw=>bER h1 h2 hk1 hk2 hw) h
theorem monoI {w:World} {u:Value} {z:Int} {k m:Nat} (h:gW u z k∈I) (hk:k≤m) (hw:Mem X w0 M I w):Mem X w0 M (gW u z m::I) w:=hw.add (φ:=gW u z m) (IsI.mono (hw.imm _ h).2 hk)
theorem aJP {ops l:List Oper} {m:Fx.Mode} {u:Value} {z:Int} {k k2:Nat} (h:gW u z k∈I) (hk:k≤k2) (c:RD P n ops Q m l G X w0 M (gW u z k2::I)):RD P n ops Q m l G X w0 M I:=vX (fun _ hw=>monoI h hk hw) c
theorem IsI.tight {u:Value} {z:Int} {k m:Nat} {X:List Nat} {w:World} (h:IsI u z k X w) (hk:z.natAbs≤2 ^ m):IsI u z m X w:=by
 obtain ⟨q,c,h1,h2,h3,h4⟩:=h.ex
 exact ⟨q,c,h1,h2,hk,h4⟩
theorem nP {ops l:List Oper} {m:Fx.Mode} {u:Value} {z:Int} {k k2:Nat} (h:gW u z k∈I) (hk:z.natAbs≤2 ^ k2) (c:RD P n ops Q m l G X w0 M (gW u z k2::I)):RD P n ops Q m l G X w0 M I:=vX (fun _ hw=>hw.add (φ:=gW u z k2) (IsI.tight (hw.imm _ h).2 hk)) c
end
def RQ (q:Rat) (k:Nat) (M0:List Ent) (I0:List aM) (v:Value) (M:List Ent) (I:List aM):Prop:=M0=M∧∃e:RE,v=rv e∧e.q=q∧I=bW e k::I0
def RQc (q:Rat) (k:Nat) (M0:List Ent) (I0:List aM) (v:Value) (M:List Ent) (I:List aM):Prop:=M0=M∧∃e:RE,v= .tuple #[rv e, .int .i64 0]∧e.q=q∧I=bW e k::I0
end Go.Proofs.YtmmmfphealhapaaGreat
namespace Go.Fx
section
variable {P:Program} {n:Nat} {Q Q':Exit→Act→World→Prop} {G:Env} {X:List Nat} {w0:World} {M M':List Ent} {I I':List aM}
variable {ops l:List Oper} {m:Mode} {op:Op} {ty:TypeId} {pos:String} {af:Array Edge} {g:Option (Nat × Bool)}
theorem Eff.boxA {w:World} {t:TypeId} {x:Operand} {vs:List Value} (hx:ev G x=some (.agg vs.toArray)):Eff P n G (.box t x) ty w (fun v w'=>∃b,w.heap.size≤b∧v= .pointer (some ⟨b,0,none⟩)∧Blk w' b vs t∧Ext [] w w'):=by
 have h:=aPM (P:=P) (n:=n) (ty:=ty) (w:=w) (t:=t) hx
 refine h.mono (fun v w' ⟨b,hb,hp,hB,hE,_⟩=>⟨b,by omega,hp,?_,hE⟩)
 simpa [Value.cells] using hB
theorem bBR {d:Nat} {t:TypeId} {x:Operand} {vs:List Value} (hx:ev G x=some (.agg vs.toArray)) (hg:oQ ops G g=some true) (hd:Nat.ble (d+1) n=true)
  (k:∀b,OkD m X w0 (.blk b vs t::M) I∧RD P n ops Q m.nextE l ((d, .pointer (some ⟨b,0,none⟩))::G) X w0 (.blk b vs t::M) I):
  RD P n ops Q m (⟨some d, .box t x,ty,pos,af,g⟩::l) G X w0 M I:=
 aCC (d:=some d) (K:=fun v' M' I'=>∃b,v'= .pointer (some ⟨b,0,none⟩)∧M'= .blk b vs t::M∧I'=I) hg
  (fun w hw=>(Eff.boxA hx).mono (fun _ w' ⟨b,hb,hp,hB,hE⟩=>⟨_,_,⟨b,hp,rfl,rfl⟩,hw.push hE (by simp [Ent.blocks,hb]) (by simp [Ent.blocks]) hB⟩)) rfl hd
  (fun _ _ _ ⟨b,hp,hM,hI⟩=>by subst hp;subst hM;subst hI;exact k b)
theorem bY {d:Nat} {f:FuncId} {xs:List Operand} {vs:List Value} {at_:Array TypeId} {K:Value→List Ent→List aM→Prop} [FnOk P f] (hx:evs G xs=some vs) (hc:CD P f vs X w0 M I K)
  (hg:oQ ops G g=some true) (hd:Nat.ble (d+1) n=true) (k:∀v M' I',K v M' I'→OkD m X w0 M' I'∧RD P n ops Q m.nextE l ((d,v)::G) X w0 M' I'):
  RD P n ops Q m (⟨some d, .call {callee:= .value (.func f),args:=xs.toArray,argTypes:=at_},ty,pos,af,g⟩::l) G X w0 M I:=
 aO (d:=some d) hx hc hg hd k
theorem eQ {d:Nat} {h:Operand} {f:FuncId} {fs cs:Array Value} {xs:List Operand} {vs:List Value} {at_:Array TypeId} {K:Value→List Ent→List aM→Prop} [FnOk P f] (hh:ev G h=some (.func (.func f) fs cs)) (hx:evs G xs=some vs)
  (hc:CD P f (fs.toList++vs++cs.toList) X w0 M I K)
  (hg:oQ ops G g=some true) (hf:iI (.call {callee:= .value h,args:=xs.toArray,argTypes:=at_})=false) (hd:Nat.ble (d+1) n=true) (k:∀v M' I',K v M' I'→OkD m X w0 M' I'∧RD P n ops Q m.nextE l ((d,v)::G) X w0 M' I'):
  RD P n ops Q m (⟨some d, .call {callee:= .value h,args:=xs.toArray,argTypes:=at_},ty,pos,af,g⟩::l) G X w0 M I:=
 aEO (d:=some d) hh hx hc hg hf hd k
section
variable {f:FuncId} {fn:Func} {c:Code} {K:Value→List Ent→List aM→Prop} {v0 v1 v2 v3 v4 v5 v6:Value}
theorem aQY (hf:P.funcs[f]?=some fn) (hb:fn.body=some c) (hn:fn.ntmps=n) (hl:Nat.ble 0 n=true) (h:TD P n c (Body P fn (KB K X w0)) [] X w0 M I):CD P f [] X w0 M I K:=dV hf hb hn hl h
theorem aS (hf:P.funcs[f]?=some fn) (hb:fn.body=some c) (hn:fn.ntmps=n) (hl:Nat.ble 1 n=true) (h:TD P n c (Body P fn (KB K X w0)) [(0,v0)] X w0 M I):CD P f [v0] X w0 M I K:=dV hf hb hn hl h
theorem aN (hf:P.funcs[f]?=some fn) (hb:fn.body=some c) (hn:fn.ntmps=n) (hl:Nat.ble 2 n=true) (h:TD P n c (Body P fn (KB K X w0)) [(0,v0),(1,v1)] X w0 M I):CD P f [v0,v1] X w0 M I K:=dV hf hb hn hl h
theorem gG (hf:P.funcs[f]?=some fn) (hb:fn.body=some c) (hn:fn.ntmps=n) (hl:Nat.ble 3 n=true) (h:TD P n c (Body P fn (KB K X w0)) [(0,v0),(1,v1),(2,v2)] X w0 M I):CD P f [v0,v1,v2] X w0 M I K:=dV hf hb hn hl h
theorem aAH (hf:P.funcs[f]?=some fn) (hb:fn.body=some c) (hn:fn.ntmps=n) (hl:Nat.ble 4 n=true) (h:TD P n c (Body P fn (KB K X w0)) [(0,v0),(1,v1),(2,v2),(3,v3)] X w0 M I):CD P f [v0,v1,v2,v3] X w0 M I K:=dV hf hb hn hl h
theorem aZW (hf:P.funcs[f]?=some fn) (hb:fn.body=some c) (hn:fn.ntmps=n) (hl:Nat.ble 5 n=true) (h:TD P n c (Body P fn (KB K X w0)) [(0,v0),(1,v1),(2,v2),(3,v3),(4,v4)] X w0 M I):CD P f [v0,v1,v2,v3,v4] X w0 M I K:=dV hf hb hn hl h
theorem aPV (hf:P.funcs[f]?=some fn) (hb:fn.body=some c) (hn:fn.ntmps=n) (hl:Nat.ble 6 n=true) (h:TD P n c (Body P fn (KB K X w0)) [(0,v0),(1,v1),(2,v2),(3,v3),(4,v4),(5,v5)] X w0 M I):CD P f [v0,v1,v2,v3,v4,v5] X w0 M I K:=dV hf hb hn hl h
end
end
end Go.Fx
namespace Go.Fx
section
variable {P:Program} {n:Nat} {Q:Exit→Act→World→Prop} {G G':Env} {X:List Nat} {w0:World} {M M' M1:List Ent} {I I' I1:List aM} {m:Mode} {a b x y0 y1 y2 y3 y4 y5 y6 y7 y8 y9:Ent} {φ:aM} {cs cs' vs:List Value} {o sz:Nat} {v:Value} {α:Type} {aa:α} {ll:List α}
theorem SubP.c0 (k:SubP M M'):SubP (x::M) (x::M'):= .cons .here k
theorem SubP.c1 (k:SubP (y0::M) M'):SubP (y0::x::M) (x::M'):= .cons (.there .here) k
theorem SubP.c2 (k:SubP (y0::y1::M) M'):SubP (y0::y1::x::M) (x::M'):= .cons (.there (.there .here)) k
theorem SubP.c3 (k:SubP (y0::y1::y2::M) M'):SubP (y0::y1::y2::x::M) (x::M'):= .cons (.there (.there (.there .here))) k
theorem SubP.c4 (k:SubP (y0::y1::y2::y3::M) M'):SubP (y0::y1::y2::y3::x::M) (x::M'):= .cons (.there (.there (.there (.there .here)))) k
theorem SubP.c5 (k:SubP (y0::y1::y2::y3::y4::M) M'):SubP (y0::y1::y2::y3::y4::x::M) (x::M'):= .cons (.there (.there (.there (.there (.there .here))))) k
theorem SubP.c6 (k:SubP (y0::y1::y2::y3::y4::y5::M) M'):SubP (y0::y1::y2::y3::y4::y5::x::M) (x::M'):= .cons (.there (.there (.there (.there (.there (.there .here)))))) k
theorem SubP.c7 (k:SubP (y0::y1::y2::y3::y4::y5::y6::M) M'):SubP (y0::y1::y2::y3::y4::y5::y6::x::M) (x::M'):= .cons (.there (.there (.there (.there (.there (.there (.there .here))))))) k
theorem SubP.c8 (k:SubP (y0::y1::y2::y3::y4::y5::y6::y7::M) M'):SubP (y0::y1::y2::y3::y4::y5::y6::y7::x::M) (x::M'):= .cons (.there (.there (.there (.there (.there (.there (.there (.there .here)))))))) k
theorem aA (h:aa∈ll:=by first|((repeat (first|with_reducible exact List.mem_cons_self|with_reducible assumption|with_reducible refine List.mem_cons_of_mem _ ?_));done)|(repeat (first|exact List.Mem.head _|assumption|refine List.Mem.tail _ ?_))):aa∈ll:=h
theorem aF (h:SubP M M':=by first|((repeat (first|with_reducible exact SubP.refl|with_reducible exact SubP.nil|with_reducible refine SubP.c0 ?_|with_reducible refine SubP.c1 ?_|with_reducible refine SubP.c2 ?_|with_reducible refine SubP.c3 ?_|with_reducible refine SubP.c4 ?_|with_reducible refine SubP.c5 ?_|with_reducible refine SubP.c6 ?_|with_reducible refine SubP.c7 ?_|with_reducible refine SubP.c8 ?_|with_reducible refine SubP.drop ?_));done)|(repeat (first|exact SubP.refl|exact SubP.nil|refine SubP.c0 ?_|refine SubP.c1 ?_|refine SubP.c2 ?_|refine SubP.c3 ?_|refine SubP.c4 ?_|refine SubP.c5 ?_|refine SubP.c6 ?_|refine SubP.c7 ?_|refine SubP.c8 ?_|refine SubP.drop ?_))):SubP M M':=h
theorem aD (h:Inc I I':=by first|((repeat (first|with_reducible exact Inc.refl|with_reducible exact Inc.nil|(with_reducible refine Inc.cons ?_ ?_;(repeat (first|with_reducible exact List.mem_cons_self|with_reducible assumption|with_reducible refine List.mem_cons_of_mem _ ?_)))|with_reducible refine Inc.wk ?_));done)|(repeat (first|exact Inc.refl|exact Inc.nil|(refine Inc.cons ?_ ?_;(repeat (first|exact List.Mem.head _|assumption|refine List.Mem.tail _ ?_)))|refine Inc.wk ?_))):Inc I I':=h
theorem xW (h:Rem a M M':=by first|with_reducible exact .here|with_reducible exact .there .here|with_reducible exact .there (.there .here)|with_reducible exact .there (.there (.there .here))|with_reducible exact .there (.there (.there (.there .here)))|with_reducible exact .there (.there (.there (.there (.there .here))))|with_reducible exact .there (.there (.there (.there (.there (.there .here)))))|with_reducible exact .there (.there (.there (.there (.there (.there (.there .here))))))|exact yM):Rem a M M':=h
theorem jL (h:Rep a b M M':=by first|with_reducible exact .here|with_reducible exact .there .here|with_reducible exact .there (.there .here)|with_reducible exact .there (.there (.there .here))|with_reducible exact .there (.there (.there (.there .here)))|with_reducible exact .there (.there (.there (.there (.there .here))))|with_reducible exact .there (.there (.there (.there (.there (.there .here)))))|with_reducible exact .there (.there (.there (.there (.there (.there (.there .here))))))|with_reducible assumption|exact tJ):Rep a b M M':=h
theorem okF (h:OkD m X w0 M I:=by first|with_reducible exact OkD.seq|with_reducible exact OkD.one|(with_reducible refine OkD.any ?_ ?_;exact aF;exact aD)|exact OkD.seq|exact OkD.one|(refine OkD.any ?_ ?_;exact aF;exact aD)|exact OkD.uptoN (by decide)|(refine OkD.uptoY ?_ ?_;exact aF;exact aD)|exact OkD.kN (by decide)|(refine OkD.kY ?_ ?_;exact aF;exact aD)):OkD m X w0 M I:=h
theorem eY (h:View m X w0 M I M1 I1:=by first|exact View.seq|exact View.any|exact View.one rfl|exact View.upto (by decide)|exact View.k0 rfl|exact View.kJ (by decide)):View m X w0 M I M1 I1:=h
theorem wC (h:At cs o v:=by first|(with_reducible refine At.r1 ?_ ?_;exact iC;rfl)|(with_reducible refine At.r2 ?_ ?_;exact iC;rfl)|exact At.mk rfl|exact xX):At cs o v:=h
variable {x' y':Int} {kk:IntKind}
theorem wF (h:kk.wrap x'=y':=by first|(with_reducible refine wrap_i64 ?_;first|omega|with_reducible assumption)|(with_reducible refine wrap_u64 ?_;first|omega|with_reducible assumption)|(with_reducible refine wrap_u32 ?_;first|omega|with_reducible assumption)|(with_reducible refine wrap_u8 ?_;omega)):kk.wrap x'=y':=h
theorem qF (h:kk.wrap x'=y':=by first|(with_reducible refine aPW ?_;omega)|(with_reducible refine aQU ?_ ?_;omega;omega)):kk.wrap x'=y':=h
end
/- loads of parts -/
structure AtsZ (cs:List Value) (o:Nat) (vs:List Value) (sz:Nat):Prop where
 ats:Ats cs o vs
 len:vs.length=sz
theorem AtsZ.all {cs:List Value} {sz:Nat} (h:cs.length=sz):AtsZ cs 0 cs sz:=⟨Ats.all,h⟩
theorem AtsZ.r {α:Type} [Inhabited α] {enc:α→List Value} {sz:Nat} [hz:Sized enc sz] {ms:List α} {i:Int} (hi:0≤i∧i < ms.length):AtsZ (recs enc ms) (i.toNat*sz) (enc (gt ms i)) sz:=⟨Ats.r hi,hz.len _⟩
theorem AtsZ.app {cs tl vs:List Value} {o sz:Nat} (h:AtsZ cs o vs sz):AtsZ (cs++tl) o vs sz:=⟨Ats.app h.ats,h.len⟩
theorem Ats.of2 {cs:List Value} {o:Nat} {a b:Value} (h0:cs[o]?=some a) (h1:cs[o+1]?=some b):Ats cs o [a,b]:=⟨fun j v hj=>by
 match j,hj with
 |0,hj=>simp at hj;subst hj;exact h0
 |1,hj=>simp at hj;subst hj;exact h1
 |j+2,hj=>simp at hj⟩
theorem Ats.of4 {cs:List Value} {o:Nat} {a b c d:Value} (h0:cs[o]?=some a) (h1:cs[o+1]?=some b) (h2:cs[o+2]?=some c) (h3:cs[o+3]?=some d):Ats cs o [a,b,c,d]:=⟨fun j v hj=>by
 match j,hj with
 |0,hj=>simp at hj;subst hj;exact h0
 |1,hj=>simp at hj;subst hj;exact h1
 |2,hj=>simp at hj;subst hj;exact h2
 |3,hj=>simp at hj;subst hj;exact h3
 |j+4,hj=>simp at hj⟩
theorem AtsZ.n2 {cs:List Value} {o:Nat} {a b:Value} (h0:cs[o]?=some a) (h1:cs[o+1]?=some b):AtsZ cs o [a,b] 2:=⟨Ats.of2 h0 h1,rfl⟩
theorem AtsZ.n4 {cs:List Value} {o:Nat} {a b c d:Value} (h0:cs[o]?=some a) (h1:cs[o+1]?=some b) (h2:cs[o+2]?=some c) (h3:cs[o+3]?=some d):AtsZ cs o [a,b,c,d] 4:=⟨Ats.of4 h0 h1 h2 h3,rfl⟩
theorem AtsZ.r2 {α:Type} [Inhabited α] {enc:α→List Value} {sz:Nat} [Sized enc sz] {ms:List α} {i:Int} {j:Nat} {a b:Value} (hi:0≤i∧i < ms.length) (h0:(enc (gt ms i))[j]?=some a) (h1:(enc (gt ms i))[j+1]?=some b):AtsZ (recs enc ms) (i.toNat*sz+j) [a,b] 2:=⟨Ats.of2 (qA hi h0) (qA hi h1),rfl⟩
theorem AtsZ.r4 {α:Type} [Inhabited α] {enc:α→List Value} {sz:Nat} [Sized enc sz] {ms:List α} {i:Int} {j:Nat} {a b c d:Value} (hi:0≤i∧i < ms.length) (h0:(enc (gt ms i))[j]?=some a) (h1:(enc (gt ms i))[j+1]?=some b) (h2:(enc (gt ms i))[j+2]?=some c) (h3:(enc (gt ms i))[j+3]?=some d):AtsZ (recs enc ms) (i.toNat*sz+j) [a,b,c,d] 4:=⟨Ats.of4 (qA hi h0) (qA hi h1) (qA hi h2) (qA hi h3),rfl⟩
theorem atZ {cs vs:List Value} {o sz:Nat} (h:AtsZ cs o vs sz:=by first|(with_reducible refine AtsZ.r ?_;exact iC)|(with_reducible refine AtsZ.r2 ?_ ?_ ?_;exact iC;rfl;rfl)|(with_reducible refine AtsZ.r4 ?_ ?_ ?_ ?_ ?_;exact iC;rfl;rfl;rfl;rfl)|exact AtsZ.all rfl|exact AtsZ.n2 rfl rfl|exact AtsZ.n4 rfl rfl rfl rfl|(refine AtsZ.r ?_;exact iC)|(refine AtsZ.app ?_;refine AtsZ.r ?_;exact iC)):AtsZ cs o vs sz:=h
section
variable {P:Program} {n:Nat} {Q:Exit→Act→World→Prop} {G:Env} {X:List Nat} {w0:World} {M M1:List Ent} {I I1:List aM}
variable {ops l:List Oper} {m:Mode} {ty:TypeId} {pos:String} {af:Array Edge} {g:Option (Nat × Bool)}
theorem bI {d:Nat} {t:TypeId} {sz:Nat} {x:Operand} {b o:Nat} {cs vs:List Value} {e:TypeId} [AggTy P t sz] (hv:View m X w0 M I M1 I1) (hx:ev G x=some (.pointer (some ⟨b,o,none⟩))) (hm: .blk b cs e∈M1) (hc:AtsZ cs o vs sz) (hg:oQ ops G g=some true)
  (hd:Nat.ble (d+1) n=true) (k:RD P n ops Q m.next l ((d, .agg vs.toArray)::G) X w0 M I):RD P n ops Q m (⟨some d, .load t x,ty,pos,af,g⟩::l) G X w0 M I:=qX hv hx hm hc.ats hc.len hg hd k
theorem pY {d:Nat} {t:TypeId} {sz:Nat} {x:Operand} {a:Option Addr} {o:Nat} {cs vs:List Value} [AggTy P t sz] (hv:View m X w0 M I M1 I1) (hx:ev G x=some (.pointer (some (pt a o)))) (hm:aH a cs∈I1) (hc:AtsZ cs o vs sz) (hg:oQ ops G g=some true)
  (hd:Nat.ble (d+1) n=true) (k:RD P n ops Q m.next l ((d, .agg vs.toArray)::G) X w0 M I):RD P n ops Q m (⟨some d, .load t x,ty,pos,af,g⟩::l) G X w0 M I:=qV hv hx hm hc.ats hc.len hg hd k
theorem sW {d:Nat} {t:TypeId} {sz sz':Nat} {x:Operand} {a:Option Addr} {o mm c:Nat} {cs vs:List Value} {e:TypeId} [AggTy P t sz] (hv:View m X w0 M I M1 I1) (hx:ev G x=some (.pointer (some (pt a o)))) (hm: .row a mm c cs e sz'∈M1) (hc:AtsZ cs o vs sz) (hg:oQ ops G g=some true)
  (hd:Nat.ble (d+1) n=true) (k:RD P n ops Q m.next l ((d, .agg vs.toArray)::G) X w0 M I):RD P n ops Q m (⟨some d, .load t x,ty,pos,af,g⟩::l) G X w0 M I:=rA hv hx hm hc.ats hc.len hg hd k
theorem dW {d:Nat} {t:TypeId} {sz:Nat} {x:Operand} {b o:Nat} {cs vs:List Value} [AggTy P t sz] (hv:View m X w0 M I M1 I1) (hx:ev G x=some (.pointer (some ⟨b,o,none⟩))) (hm:aH (some ⟨b,0,none⟩) cs∈I1) (hc:AtsZ cs o vs sz) (hg:oQ ops G g=some true)
  (hd:Nat.ble (d+1) n=true) (k:RD P n ops Q m.next l ((d, .agg vs.toArray)::G) X w0 M I):RD P n ops Q m (⟨some d, .load t x,ty,pos,af,g⟩::l) G X w0 M I:=nX hv hx hm hc.ats hc.len hg hd k
end
end Go.Fx
namespace Go.Fx
open Go
section
variable {P:Program} {n:Nat} {Q:Exit→Act→World→Prop} {G:Env} {X:List Nat} {w0:World} {M:List Ent} {I:List aM} {ops l:List Oper} {m:Mode} {ty:TypeId} {pos:String} {af:Array Edge} {g:Option (Nat × Bool)}
theorem aL {p:Prop} (h:p) (o:OkD m X w0 M I:=by exact okF):OkD m X w0 M I∧p:=⟨o,h⟩
theorem aQ {d:Nat} {f:FuncId} {xs:List Operand} {vs:List Value} {at_:Array TypeId} {K:Value→List Ent→List aM→Prop} [FnOk P f] (hx:evs G xs=some vs) (hc:CD P f vs X w0 M I K) (k:∀v M' I',K v M' I'→OkD m X w0 M' I'∧RD P n ops Q m.nextE l ((d,v)::G) X w0 M' I') (hg:oQ ops G g=some true:=by rfl) (hd:Nat.ble (d+1) n=true:=by rfl):
  RD P n ops Q m (⟨some d, .call {callee:= .value (.func f),args:=xs.toArray,argTypes:=at_},ty,pos,af,g⟩::l) G X w0 M I:=bY hx hc hg hd k
theorem dS {d:Nat} {t:TypeId} {sz by_:Nat} {z:List Value} [ElemTy P t sz by_ z] (k:∀b,RD P n ops Q m.nextE l ((d, .pointer (some ⟨b,0,none⟩))::G) X w0 (.blk b z t::M) I) (o:∀b,OkD m X w0 (.blk b z t::M) I:=by intro _;exact okF) (hg:oQ ops G g=some true:=by rfl) (hd:Nat.ble (d+1) n=true:=by rfl):
  RD P n ops Q m (⟨some d, .alloc t,ty,pos,af,g⟩::l) G X w0 M I:=aV hg hd (fun b=>⟨o b,k b⟩)
theorem gU {d:Nat} {t:TypeId} {x:Operand} {vs:List Value} (hx:ev G x=some (.agg vs.toArray)) (k:∀b,RD P n ops Q m.nextE l ((d, .pointer (some ⟨b,0,none⟩))::G) X w0 (.blk b vs t::M) I) (o:∀b,OkD m X w0 (.blk b vs t::M) I:=by intro _;exact okF) (hg:oQ ops G g=some true:=by rfl) (hd:Nat.ble (d+1) n=true:=by rfl):
  RD P n ops Q m (⟨some d, .box t x,ty,pos,af,g⟩::l) G X w0 M I:=bBR hx hg hd (fun b=>⟨o b,k b⟩)
theorem tyX {d:Nat} {t:TypeId} {x:Operand} {v:Value} (hx:ev G x=some v) (k:∀b,RD P n ops Q m.nextE l ((d, .pointer (some ⟨b,0,none⟩))::G) X w0 (.blk b v.cells.toList t::M) I) (o:∀b,OkD m X w0 (.blk b v.cells.toList t::M) I:=by intro _;exact okF) (hg:oQ ops G g=some true:=by rfl) (hd:Nat.ble (d+1) n=true:=by rfl):
  RD P n ops Q m (⟨some d, .box t x,ty,pos,af,g⟩::l) G X w0 M I:=nN hx hg hd (fun b=>⟨o b,k b⟩)
theorem dK {d:Nat} {f:FuncId} {xs:List Operand} {vs:List Value} {at_:Array TypeId} {u:Value} [FnOk P f] (hx:evs G xs=some vs) (hc:CD P f vs X w0 M I (fun v M' I'=>M=M'∧I=I'∧v=u)) (k:RD P n ops Q m.nextE l ((d,u)::G) X w0 M I) (o:OkD m X w0 M I:=by exact okF) (hg:oQ ops G g=some true:=by rfl) (hd:Nat.ble (d+1) n=true:=by rfl):
  RD P n ops Q m (⟨some d, .call {callee:= .value (.func f),args:=xs.toArray,argTypes:=at_},ty,pos,af,g⟩::l) G X w0 M I:=bY hx hc hg hd (by rintro _ _ _ ⟨rfl,rfl,rfl⟩;exact ⟨o,k⟩)
theorem tyJ {α:Type} {F:α→Value} {q:α→Prop} {φ:α→aM} {d:Nat} {f:FuncId} {xs:List Operand} {vs:List Value} {at_:Array TypeId} [FnOk P f] (hx:evs G xs=some vs) (hc:CD P f vs X w0 M I (fun v M' I'=>M=M'∧∃x,v=F x∧q x∧I'=φ x::I)) (k:∀x,q x→RD P n ops Q m.nextE l ((d,F x)::G) X w0 M (φ x::I)) (o:∀x,OkD m X w0 M (φ x::I):=by intro _;exact okF) (hg:oQ ops G g=some true:=by rfl) (hd:Nat.ble (d+1) n=true:=by rfl):
  RD P n ops Q m (⟨some d, .call {callee:= .value (.func f),args:=xs.toArray,argTypes:=at_},ty,pos,af,g⟩::l) G X w0 M I:=bY hx hc hg hd (by rintro _ _ _ ⟨rfl,x,rfl,h,rfl⟩;exact ⟨o x,k x h⟩)
theorem iH {id:Nat} {l:List Oper} {y:Code} (h:RD P n l (Then (y.wp P Q) Q) .seq l G X w0 M I):TD P n (.seq (.region id l.toArray false) y) Q G X w0 M I:=aG (dB h)
theorem gX {d:Nat} {t e:TypeId} {sz sz' by_ len:Nat} {z:List Value} {parts:List (Nat × Operand)} (vals:List Value) {cs:List Value} [SliceTy P t e sz'] [ElemTy P e sz by_ z]
  (hp:parts.map (fun p=>(p.1,ev G p.2))=(vals.zipIdx).map (fun p=>(p.2,some p.1)))
  (k:∀b,RD P n ops Q m.nextE l ((d, .slice (some ⟨b,0,none⟩) len len)::G) X w0 (.blk b cs e::M) I) (o:∀b,OkD m X w0 (.blk b cs e::M) I:=by intro _;exact okF)
  (hl:vals.length=len:=by rfl) (hc:∀v∈vals,v.cells.size=sz:=by intro v hv;repeat (first|exact absurd hv (List.not_mem_nil)|(rcases List.mem_cons.1 hv with rfl|hv; · rfl))) (hb:len*sz≤16777216:=by omega) (hcs:vals.flatMap (fun v=>v.cells.toList)=cs:=by rfl) (hg:oQ ops G g=some true:=by rfl) (hd:Nat.ble (d+1) n=true:=by rfl):
  RD P n ops Q m (⟨some d, .buildSlice t len parts.toArray,ty,pos,af,g⟩::l) G X w0 M I:=vO vals hp hl hc hb hcs hg hd (fun b=>⟨o b,k b⟩)
theorem wB {α:Type} {enc:α→List Value} [Ones enc] {d:Nat} {s x:Operand} {t e:TypeId} {sz sz' by_:Nat} [Sized enc sz] {z:List Value} {a a':Option Addr} {c len c':Nat} {xs ys:List α} [SliceTy P t e sz'] [ElemTy P e sz by_ z]
  (kk:Nat) (hs:ev G s=some (.slice a xs.length c)) (hx:ev G x=some (.slice a' len c')) (hm:M[kk]?=some (.row a xs.length c (recs enc xs) e sz))
  (k:∀a2 c2,RD P n ops Q m.nextE l ((d, .slice a2 (xs++ys).length c2)::G) X w0 (M.set kk (.row a2 (xs++ys).length c2 (recs enc (xs++ys)) e sz)) I) (o:∀a2 c2,OkD m X w0 (M.set kk (.row a2 (xs++ys).length c2 (recs enc (xs++ys)) e sz)) I:=by intro _ _;exact okF)
  (hsrc:Src M I a' len c' (recs enc ys):=by first|exact Src.blk aA|exact Src.row aA|exact Src.imm aA (by first|assumption|exact .inl (Ok.mk _ _))) (hsz:0 < sz:=by decide) (hl:ys.length=len:=by rfl) (hb:(xs.length+len)*by_≤140737488355328:=by omega) (h63:xs.length+len≤9223372036854775807:=by omega) (hg:oQ ops G g=some true:=by rfl) (hd:Nat.ble (d+1) n=true:=by rfl):
  RD P n ops Q m (⟨some d, .call {callee:= .builtin .append,args:=#[s,x],argTypes:=#[t,t]},ty,pos,af,g⟩::l) G X w0 M I:=iE kk hs hx hm hsrc hsz hl hb h63 hg hd (fun a c=>⟨o a c,k a c⟩)
theorem gJ {J:Nat→Env→List Ent→List aM→Prop} {K G1:Env} {M':List Ent} {I':List aM} {k:Nat} (k':Nat) (h:J k' G1 M' I') (hlt:k' < k:=by first|omega|(simp only [List.length_append,List.length_cons,List.length_nil];omega)) (s:Sub G (G1++K):=by exact dE) (hM:SubP M M':=by exact aF) (hI:Inc I I':=by exact aD):ND n (Then (aIM n J K X w0 k) Q) .normal G X w0 M I:=cB k' G1 M' I' hlt s hM hI h
theorem lV {c:Code} (ts:List Nat) {K:Env} (hK:aEK G ts=some K) (J:Nat→Env→List Ent→List aM→Prop) (k:Nat) {G1:Env} {M':List Ent} {I':List aM} (h0:J k G1 M' I')
  (round:∀k G1 M' I',J k G1 M' I'→TD P n c (Then (aIM n J K X w0 k) Q) (G1++K) X w0 M' I') (s:Sub G G1:=by exact dE) (hM:SubP M M':=by exact aF) (hI:Inc I I':=by exact aD):TD P n (.loop c) Q G X w0 M I:=bX ts hK J k G1 M' I' s hM hI h0 round
theorem iA {fn:Func} {K:Value→List Ent→List aM→Prop} {t:Nat} {v:Value} {e:Exit} {M':List Ent} {I':List aM} (hr:fn.results=#[.tmp t]) (hv:lk G t=some v) (h:K v M' I') (he:e= .ret∨e= .normal:=by first|exact .inl rfl|exact .inr rfl) (hM:SubP M M':=by exact aF) (hI:Inc I I':=by exact aD):
  ND n (Body P fn (KB K X w0)) e G X w0 M I:=aP he hr hv M' I' hM hI h
theorem tyS {fn:Func} {K:Value→List Ent→List aM→Prop} (ts:List Nat) {vs:List Value} {e:Exit} {M':List Ent} {I':List aM} (hr:fn.results=(ts.map ResultVar.tmp).toArray) (hv:lks G ts=some vs) (h:K (.tuple vs.toArray) M' I') (he:e= .ret∨e= .normal:=by first|exact .inl rfl|exact .inr rfl) (hl:Nat.beq vs.length 1=false:=by rfl) (hM:SubP M M':=by exact aF) (hI:Inc I I':=by exact aD):
  ND n (Body P fn (KB K X w0)) e G X w0 M I:=gH ts he hr hv hl M' I' hM hI h
theorem qQ {id:Nat} {l:List Oper} (Ms:List Ent) (Is:List aM) (p ms:List Nat) (hx:P.follows .mixedOrders=true) (h:RD P n l Q (.any (vZ X w0 Ms Is) 0 ms) (pick l p) G X w0 M I) (hp:(Region.noSelect l.toArray && iD l.toArray p ms (Array.replicate l.length false) && p.length==l.length)=true:=by kernel_rfl) (hM:SubP M Ms:=by exact aF) (hI:Inc I Is:=by exact aD):TD P n (.region id l.toArray true) Q G X w0 M I:=aRQ Ms Is p ms hM hI hx hp h
theorem yA {J:Env→List Ent→List aM→Prop} {G':Env} {M':List Ent} {I':List aM} (h:J G' M' I') (s:Sub G G':=by exact dE) (hM:SubP M M':=by exact aF) (hI:Inc I I':=by exact aD):ND n (Then (CutD n J X w0) Q) .normal G X w0 M I:=aHN G' M' I' s hM hI h
end
end Go.Fx
namespace Go.Fx
theorem aR {p g:Prop} (h:g) (w:BoxP g→p:=by (intro hh;(first|refine aG ?_|refine dB ?_|refine oN ?_|refine lL ?_|refine jK ?_|refine jB ?_|refine lI ?_|refine kV ?_|refine jP ?_|refine jO ?_|refine oJ ?_|refine oI ?_|refine oU ?_|refine nZ rfl ?_|refine bK ?_|(refine jU ?_;first|refine kD rfl rfl rfl ?_|(refine jT rfl rfl ?_;refine iT rfl rfl rfl okF ?_)|refine jZ rfl rfl (by omega) ?_|refine jX rfl rfl (by omega) ?_)|(refine eO ?_;refine aC rfl (fun _=>fM rfl) rfl rfl ?_)|refine aC rfl (fun _=>bN rfl) rfl rfl ?_|(refine jY ?_;first|refine aC rfl (fun _=>dD rfl rfl wF) rfl rfl ?_|refine aC rfl (fun _=>dC rfl rfl wF) rfl rfl ?_|refine aC rfl (fun _=>gQ rfl rfl wF) rfl rfl ?_|refine aC rfl (fun _=>gT rfl rfl (by omega) qF) rfl rfl ?_|refine aC rfl (fun _=>gP rfl rfl (by omega) rfl) rfl rfl ?_|refine aC rfl (fun _=>fJ rfl rfl) rfl rfl ?_|refine aC rfl (fun _=>gM rfl rfl) rfl rfl ?_|refine aC rfl (fun _=>gK rfl rfl) rfl rfl ?_)|(refine eO ?_;first|refine aC rfl (fun _=>gD rfl wF) rfl rfl ?_)|(refine jW ?_;first|refine aC rfl (fun _=>fD rfl wF) rfl rfl ?_)|(refine jV ?_;first|refine aC rfl (fun _=>cZ rfl) rfl rfl ?_|refine aC rfl (fun _=>fK rfl rfl) rfl rfl ?_|refine aC rfl (fun _=>fP rfl rfl) rfl rfl ?_|refine aC rfl (fun _=>fQ rfl rfl rfl) rfl rfl ?_)|(refine kG ?_;first|refine kI rfl (by decide) rfl rfl ?_|refine mM rfl (by decide) rfl rfl ?_)|(refine kH ?_;first|refine aC rfl (fun _=>fC rfl) rfl rfl ?_)|(refine kL ?_;first|refine mQ rfl rfl iC rfl rfl ?_|refine mO eY rfl rfl iC aA mU rfl rfl ?_|refine mJ eY rfl rfl iC aA mU rfl rfl ?_|refine aC rfl (fun _=>dZ rfl rfl iC) rfl rfl ?_)|(refine bM ?_;first|refine mK eY rfl aA wC rfl rfl ?_|refine mP eY rfl aA wC rfl rfl ?_|refine gI eY rfl aA wC rfl rfl ?_|refine kK eY rfl aA wC rfl rfl ?_|refine pY eY rfl aA atZ rfl rfl ?_|refine sW eY rfl aA atZ rfl rfl ?_|refine bI eY rfl aA atZ rfl rfl ?_|refine dW eY rfl aA atZ rfl rfl ?_)|(refine kF ?_;first|refine aC rfl (fun _=>dY rfl rfl) rfl rfl ?_|refine aC rfl (fun _=>dG rfl) rfl rfl ?_)|(refine nI ?_;first|refine mX rfl rfl rfl jL stC rfl rfl ⟨okF,?_⟩|refine fO rfl rfl jN aCG jL aCL rfl rfl ⟨okF,?_⟩)|(refine lH ?_;first|refine fG rfl ?_|refine eF rfl ?_|refine oK rfl (by omega) ?_|refine sP rfl (by omega) ?_));(repeat (first|refine aG ?_|refine dB ?_|refine oN ?_|refine lL ?_|refine jK ?_|refine jB ?_|refine lI ?_|refine kV ?_|refine jP ?_|refine jO ?_|refine oJ ?_|refine oI ?_|refine oU ?_|refine nZ rfl ?_|refine bK ?_|(refine jU ?_;first|refine kD rfl rfl rfl ?_|(refine jT rfl rfl ?_;refine iT rfl rfl rfl okF ?_)|refine jZ rfl rfl (by omega) ?_|refine jX rfl rfl (by omega) ?_)|(refine eO ?_;refine aC rfl (fun _=>fM rfl) rfl rfl ?_)|refine aC rfl (fun _=>bN rfl) rfl rfl ?_|(refine jY ?_;first|refine aC rfl (fun _=>dD rfl rfl wF) rfl rfl ?_|refine aC rfl (fun _=>dC rfl rfl wF) rfl rfl ?_|refine aC rfl (fun _=>gQ rfl rfl wF) rfl rfl ?_|refine aC rfl (fun _=>gT rfl rfl (by omega) qF) rfl rfl ?_|refine aC rfl (fun _=>gP rfl rfl (by omega) rfl) rfl rfl ?_|refine aC rfl (fun _=>fJ rfl rfl) rfl rfl ?_|refine aC rfl (fun _=>gM rfl rfl) rfl rfl ?_|refine aC rfl (fun _=>gK rfl rfl) rfl rfl ?_)|(refine eO ?_;first|refine aC rfl (fun _=>gD rfl wF) rfl rfl ?_)|(refine jW ?_;first|refine aC rfl (fun _=>fD rfl wF) rfl rfl ?_)|(refine jV ?_;first|refine aC rfl (fun _=>cZ rfl) rfl rfl ?_|refine aC rfl (fun _=>fK rfl rfl) rfl rfl ?_|refine aC rfl (fun _=>fP rfl rfl) rfl rfl ?_|refine aC rfl (fun _=>fQ rfl rfl rfl) rfl rfl ?_)|(refine kG ?_;first|refine kI rfl (by decide) rfl rfl ?_|refine mM rfl (by decide) rfl rfl ?_)|(refine kH ?_;first|refine aC rfl (fun _=>fC rfl) rfl rfl ?_)|(refine kL ?_;first|refine mQ rfl rfl iC rfl rfl ?_|refine mO eY rfl rfl iC aA mU rfl rfl ?_|refine mJ eY rfl rfl iC aA mU rfl rfl ?_|refine aC rfl (fun _=>dZ rfl rfl iC) rfl rfl ?_)|(refine bM ?_;first|refine mK eY rfl aA wC rfl rfl ?_|refine mP eY rfl aA wC rfl rfl ?_|refine gI eY rfl aA wC rfl rfl ?_|refine kK eY rfl aA wC rfl rfl ?_|refine pY eY rfl aA atZ rfl rfl ?_|refine sW eY rfl aA atZ rfl rfl ?_|refine bI eY rfl aA atZ rfl rfl ?_|refine dW eY rfl aA atZ rfl rfl ?_)|(refine kF ?_;first|refine aC rfl (fun _=>dY rfl rfl) rfl rfl ?_|refine aC rfl (fun _=>dG rfl) rfl rfl ?_)|(refine nI ?_;first|refine mX rfl rfl rfl jL stC rfl rfl ⟨okF,?_⟩|refine fO rfl rfl jN aCG jL aCL rfl rfl ⟨okF,?_⟩)|(refine lH ?_;first|refine fG rfl ?_|refine eF rfl ?_|refine oK rfl (by omega) ?_|refine sP rfl (by omega) ?_)));exact hh.out)):p:=w ⟨h⟩
theorem yXf {p g:Prop} (h:g) (w:BoxP g→p:=by (intro hh;(first|refine aG ?_|refine dB ?_|refine oN ?_|refine lL ?_|refine jK ?_|refine jB ?_|refine lI ?_|refine kV ?_|refine jP ?_|refine jO ?_|refine oJ ?_|refine oI ?_|refine oU ?_|refine nZ rfl ?_|refine bK ?_|(refine jU ?_;first|refine kD rfl rfl rfl ?_|(refine jT rfl rfl ?_;refine iT rfl rfl rfl okF ?_)|refine jZ rfl rfl (by omega) ?_|refine jX rfl rfl (by omega) ?_)|(refine eO ?_;refine aC rfl (fun _=>fM rfl) rfl rfl ?_)|refine aC rfl (fun _=>bN rfl) rfl rfl ?_|(refine jY ?_;first|refine aC rfl (fun _=>dD rfl rfl wF) rfl rfl ?_|refine aC rfl (fun _=>dC rfl rfl wF) rfl rfl ?_|refine aC rfl (fun _=>gQ rfl rfl wF) rfl rfl ?_|refine aC rfl (fun _=>gT rfl rfl (by omega) qF) rfl rfl ?_|refine aC rfl (fun _=>gP rfl rfl (by omega) rfl) rfl rfl ?_|refine aC rfl (fun _=>fJ rfl rfl) rfl rfl ?_|refine aC rfl (fun _=>gM rfl rfl) rfl rfl ?_|refine aC rfl (fun _=>gK rfl rfl) rfl rfl ?_)|(refine eO ?_;first|refine aC rfl (fun _=>gD rfl wF) rfl rfl ?_)|(refine jW ?_;first|refine aC rfl (fun _=>fD rfl wF) rfl rfl ?_)|(refine jV ?_;first|refine aC rfl (fun _=>cZ rfl) rfl rfl ?_|refine aC rfl (fun _=>fK rfl rfl) rfl rfl ?_|refine aC rfl (fun _=>fP rfl rfl) rfl rfl ?_|refine aC rfl (fun _=>fQ rfl rfl rfl) rfl rfl ?_)|(refine kG ?_;first|refine kI rfl (by decide) rfl rfl ?_|refine mM rfl (by decide) rfl rfl ?_)|(refine kH ?_;first|refine aC rfl (fun _=>fC rfl) rfl rfl ?_)|(refine kL ?_;first|refine mQ rfl rfl iC rfl rfl ?_|refine mO eY rfl rfl iC aA mU rfl rfl ?_|refine mJ eY rfl rfl iC aA mU rfl rfl ?_|refine aC rfl (fun _=>dZ rfl rfl iC) rfl rfl ?_)|(refine bM ?_;first|refine mK eY rfl aA wC rfl rfl ?_|refine mP eY rfl aA wC rfl rfl ?_|refine gI eY rfl aA wC rfl rfl ?_|refine kK eY rfl aA wC rfl rfl ?_|refine pY eY rfl aA atZ rfl rfl ?_|refine sW eY rfl aA atZ rfl rfl ?_|refine bI eY rfl aA atZ rfl rfl ?_|refine dW eY rfl aA atZ rfl rfl ?_)|(refine kF ?_;first|refine aC rfl (fun _=>dY rfl rfl) rfl rfl ?_|refine aC rfl (fun _=>dG rfl) rfl rfl ?_)|(refine lH ?_;first|refine fG rfl ?_|refine eF rfl ?_|refine oK rfl (by omega) ?_|refine sP rfl (by omega) ?_));(repeat (first|refine aG ?_|refine dB ?_|refine oN ?_|refine lL ?_|refine jK ?_|refine jB ?_|refine lI ?_|refine kV ?_|refine jP ?_|refine jO ?_|refine oJ ?_|refine oI ?_|refine oU ?_|refine nZ rfl ?_|refine bK ?_|(refine jU ?_;first|refine kD rfl rfl rfl ?_|(refine jT rfl rfl ?_;refine iT rfl rfl rfl okF ?_)|refine jZ rfl rfl (by omega) ?_|refine jX rfl rfl (by omega) ?_)|(refine eO ?_;refine aC rfl (fun _=>fM rfl) rfl rfl ?_)|refine aC rfl (fun _=>bN rfl) rfl rfl ?_|(refine jY ?_;first|refine aC rfl (fun _=>dD rfl rfl wF) rfl rfl ?_|refine aC rfl (fun _=>dC rfl rfl wF) rfl rfl ?_|refine aC rfl (fun _=>gQ rfl rfl wF) rfl rfl ?_|refine aC rfl (fun _=>gT rfl rfl (by omega) qF) rfl rfl ?_|refine aC rfl (fun _=>gP rfl rfl (by omega) rfl) rfl rfl ?_|refine aC rfl (fun _=>fJ rfl rfl) rfl rfl ?_|refine aC rfl (fun _=>gM rfl rfl) rfl rfl ?_|refine aC rfl (fun _=>gK rfl rfl) rfl rfl ?_)|(refine eO ?_;first|refine aC rfl (fun _=>gD rfl wF) rfl rfl ?_)|(refine jW ?_;first|refine aC rfl (fun _=>fD rfl wF) rfl rfl ?_)|(refine jV ?_;first|refine aC rfl (fun _=>cZ rfl) rfl rfl ?_|refine aC rfl (fun _=>fK rfl rfl) rfl rfl ?_|refine aC rfl (fun _=>fP rfl rfl) rfl rfl ?_|refine aC rfl (fun _=>fQ rfl rfl rfl) rfl rfl ?_)|(refine kG ?_;first|refine kI rfl (by decide) rfl rfl ?_|refine mM rfl (by decide) rfl rfl ?_)|(refine kH ?_;first|refine aC rfl (fun _=>fC rfl) rfl rfl ?_)|(refine kL ?_;first|refine mQ rfl rfl iC rfl rfl ?_|refine mO eY rfl rfl iC aA mU rfl rfl ?_|refine mJ eY rfl rfl iC aA mU rfl rfl ?_|refine aC rfl (fun _=>dZ rfl rfl iC) rfl rfl ?_)|(refine bM ?_;first|refine mK eY rfl aA wC rfl rfl ?_|refine mP eY rfl aA wC rfl rfl ?_|refine gI eY rfl aA wC rfl rfl ?_|refine kK eY rfl aA wC rfl rfl ?_|refine pY eY rfl aA atZ rfl rfl ?_|refine sW eY rfl aA atZ rfl rfl ?_|refine bI eY rfl aA atZ rfl rfl ?_|refine dW eY rfl aA atZ rfl rfl ?_)|(refine kF ?_;first|refine aC rfl (fun _=>dY rfl rfl) rfl rfl ?_|refine aC rfl (fun _=>dG rfl) rfl rfl ?_)|(refine lH ?_;first|refine fG rfl ?_|refine eF rfl ?_|refine oK rfl (by omega) ?_|refine sP rfl (by omega) ?_)));exact hh.out)):p:=w ⟨h⟩
end Go.Fx

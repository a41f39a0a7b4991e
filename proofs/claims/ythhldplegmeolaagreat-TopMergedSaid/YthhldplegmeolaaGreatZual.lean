/- Fractions in memory: records, facts, what follows from facts. -/
import Derived.Test.YthhldplegmeolaaGreatZuag
import Derived.Test.YthhldplegmeolaaGreatZuak
import Derived.Test.YthhldplegmeolaaGreatZuaf
set_option linter.unusedSimpArgs false
set_option linter.unusedVariables false
set_option maxRecDepth 100000
set_option maxHeartbeats 4000000
namespace Go.Proofs.YthhldplegmeolaaGreat
open Go Go.Fx
abbrev vI (q:Option Addr) (c:Nat) (z:Int):Value:= .agg #[.bool (B (z < 0)), .slice q (gr z.natAbs).length c]
structure RE where
 q:Rat
 p1:Option Addr
 c1:Nat
 p2:Option Addr
 c2:Nat
instance:Inhabited RE:=⟨⟨0,none,0,none,0⟩⟩
abbrev eR (e:RE):List Value:=[.bool (B (e.q.num < 0)), .slice e.p1 (gr e.q.num.natAbs).length e.c1, .bool (B ((e.q.den:Int) < 0)), .slice e.p2 (gr (e.q.den:Int).natAbs).length e.c2]
abbrev rv (e:RE):Value:= .agg #[.bool (B (e.q.num < 0)), .slice e.p1 (gr e.q.num.natAbs).length e.c1, .bool (B ((e.q.den:Int) < 0)), .slice e.p2 (gr (e.q.den:Int).natAbs).length e.c2]
instance:Sized eR 4:=⟨fun _=>rfl⟩
instance:Ones eR:=⟨fun m u hu=>by
 simp only [eR,List.mem_cons,List.not_mem_nil,or_false] at hu
 rcases hu with rfl|rfl|rfl|rfl <;>rfl⟩
structure IsR (e:RE) (k:Nat) (X:List Nat) (w:World):Prop where
 num:IsI (vI e.p1 e.c1 e.q.num) e.q.num k X w
 den:IsI (vI e.p2 e.c2 e.q.den) e.q.den k X w
abbrev bE (e:RE) (k:Nat):aN:=IsR e k
instance (e:RE) (k:Nat):Fx.Good (IsR e k):=⟨fun X Y w w' h he hY=>⟨Fx.Good.go (φ:=IsI _ _ _) X Y w w' h.num he hY,Fx.Good.go (φ:=IsI _ _ _) X Y w w' h.den he hY⟩⟩
theorem IsR.mono {e:RE} {k m:Nat} {X:List Nat} {w:World} (h:IsR e k X w) (hk:k≤m):IsR e m X w:=⟨h.num.mono hk,h.den.mono hk⟩
theorem IsI.le {u:Value} {z:Int} {k:Nat} {X:List Nat} {w:World} (h:IsI u z k X w):z.natAbs≤2 ^ k:=by
 obtain ⟨q,c,h1,h2,h3,h4⟩:=h.ex
 exact h3
structure AllR (es:List RE) (k:Nat) (X:List Nat) (w:World):Prop where
 go:∀e∈es,IsR e k X w
abbrev aX (es:List RE) (k:Nat):aN:=AllR es k
instance (es:List RE) (k:Nat):Fx.Good (AllR es k):=⟨fun X Y w w' h he hY=>⟨fun e hm=>Fx.Good.go (φ:=IsR _ _) X Y w w' (h.go e hm) he hY⟩⟩
theorem AllR.mono {es:List RE} {k m:Nat} {X:List Nat} {w:World} (h:AllR es k X w) (hk:k≤m):AllR es m X w:=⟨fun e he=>(h.go e he).mono hk⟩
structure Hv (I:List aN) (φ:aN):Prop where
 go:∀(X:List Nat) (w:World),(∀ψ∈I,ψ X w)→φ X w
theorem Hv.mem {I:List aN} {φ:aN} (h:φ∈I):Hv I φ:=⟨fun _ _ hw=>hw φ h⟩
theorem Hv.q {I:List aN} {e:RE} {k m:Nat} (h:bE e k∈I) (hk:k≤m):Hv I (bE e m):=⟨fun X w hw=>IsR.mono (hw _ h) hk⟩
theorem cB {α:Type} [Inhabited α] {ms:List α} {i:Int} (h:0≤i∧i < ms.length):gt ms i∈ms:=List.mem_of_getElem? (aHV h)
theorem Hv.all {I:List aN} {es:List RE} {k m:Nat} {i:Int} (h:aX es k∈I) (hi:0≤i∧i < es.length) (hk:k≤m):Hv I (bE (gt es i) m):=⟨fun X w hw=>((hw _ h:AllR es k X w).go _ (cB hi)).mono hk⟩
theorem Hv.inc {I I':List aN} {φ:aN} (h:Hv I φ) (hs:∀ψ∈I,ψ∈I'):Hv I' φ:=⟨fun X w hw=>h.go X w (fun ψ hm=>hw ψ (hs ψ hm))⟩
theorem Hv.cons {I:List aN} {φ ψ:aN} (h:Hv I φ):Hv (ψ::I) φ:=h.inc (fun _ hm=>List.mem_cons_of_mem _ hm)
theorem Hv.allMono {I:List aN} {es:List RE} {k m:Nat} (h:aX es k∈I) (hk:k≤m):Hv I (aX es m):=⟨fun X w hw=>AllR.mono (hw _ h) hk⟩
section
variable {P:Program} {n:Nat} {Q:Exit→Act→World→Prop} {G:Env} {X:List Nat} {w0:World} {M M':List Ent} {I I':List aN}
theorem Mem.hv {w:World} {φ:aN} [Fx.Good φ] (h:Hv I φ) (hw:Mem X w0 M I w):Mem X w0 M (φ::I) w:=hw.add (φ:=φ) (h.go _ _ (fun ψ hm=>(hw.imm ψ hm).2))
theorem aL {f:FuncId} {vs:List Value} {K:Value→List Ent→List aN→Prop} {φ:aN} [Fx.Good φ] (h:Hv I φ) (k:CD P f vs X w0 M (φ::I) K):CD P f vs X w0 M I K:=⟨fun w hw=>k.go w (Mem.hv h hw)⟩
theorem bN {c:Code} {φ:aN} [Fx.Good φ] (h:Hv I φ) (k:TD P n c Q G X w0 M (φ::I)):TD P n c Q G X w0 M I:=aCN (fun _ hw=>Mem.hv h hw) k
theorem iA {ops l:List Oper} {m:Fx.Mode} {φ:aN} [Fx.Good φ] (h:Hv I φ) (k:RD P n ops Q m l G X w0 M (φ::I)):RD P n ops Q m l G X w0 M I:=mO (fun _ hw=>Mem.hv h hw) k
theorem bX {ex:Exit} {φ:aN} [Fx.Good φ] (h:Hv I φ) (k:ND n Q ex G X w0 M (φ::I)):ND n Q ex G X w0 M I:=rU (fun _ hw=>Mem.hv h hw) k
theorem aRM {w:World} {e:RE} {k:Nat} (h:Hv I (bE e k)) (hw:Mem X w0 M I w):Mem X w0 M (fP (vI e.p1 e.c1 e.q.num) e.q.num k::fP (vI e.p2 e.c2 e.q.den) e.q.den k::I) w:=by
 have hr:IsR e k (muts M) w:=h.go _ _ (fun ψ hm=>(hw.imm ψ hm).2)
 exact (hw.add (φ:=fP (vI e.p2 e.c2 e.q.den) e.q.den k) hr.den).add (φ:=fP (vI e.p1 e.c1 e.q.num) e.q.num k) hr.num
theorem aAF {f:FuncId} {vs:List Value} {K:Value→List Ent→List aN→Prop} {e:RE} {k:Nat} (h:Hv I (bE e k)) (c:CD P f vs X w0 M (fP (vI e.p1 e.c1 e.q.num) e.q.num k::fP (vI e.p2 e.c2 e.q.den) e.q.den k::I) K):CD P f vs X w0 M I K:=⟨fun w hw=>c.go w (aRM h hw)⟩
theorem gK {ops l:List Oper} {m:Fx.Mode} {e:RE} {k:Nat} (h:Hv I (bE e k)) (c:RD P n ops Q m l G X w0 M (fP (vI e.p1 e.c1 e.q.num) e.q.num k::fP (vI e.p2 e.c2 e.q.den) e.q.den k::I)):RD P n ops Q m l G X w0 M I:=mO (fun _ hw=>aRM h hw) c
theorem aRZ {w:World} {q:Rat} {k k1 k2:Nat} {p1 p2:Option Addr} {c1 c2:Nat} (h1:fP (vI p1 c1 q.num) q.num k1∈I) (h2:fP (vI p2 c2 q.den) q.den k2∈I) (hk1:k1≤k) (hk2:k2≤k) (hw:Mem X w0 M I w):Mem X w0 M (bE ⟨q,p1,c1,p2,c2⟩ k::I) w:=
 hw.add (φ:=bE ⟨q,p1,c1,p2,c2⟩ k) ⟨IsI.mono (hw.imm _ h1).2 hk1,IsI.mono (hw.imm _ h2).2 hk2⟩
theorem jU {ex:Exit} {q:Rat} {k k1 k2:Nat} {p1 p2:Option Addr} {c1 c2:Nat} (h1:fP (vI p1 c1 q.num) q.num k1∈I) (h2:fP (vI p2 c2 q.den) q.den k2∈I) (hk1:k1≤k) (hk2:k2≤k) (h:ND n Q ex G X w0 M (bE ⟨q,p1,c1,p2,c2⟩ k::I)):ND n Q ex G X w0 M I:=rU (fun _ hw=>aRZ h1 h2 hk1 hk2 hw) h
theorem monoI {w:World} {u:Value} {z:Int} {k m:Nat} (h:fP u z k∈I) (hk:k≤m) (hw:Mem X w0 M I w):Mem X w0 M (fP u z m::I) w:=hw.add (φ:=fP u z m) (IsI.mono (hw.imm _ h).2 hk)
theorem aFR {ops l:List Oper} {m:Fx.Mode} {u:Value} {z:Int} {k k2:Nat} (h:fP u z k∈I) (hk:k≤k2) (c:RD P n ops Q m l G X w0 M (fP u z k2::I)):RD P n ops Q m l G X w0 M I:=mO (fun _ hw=>monoI h hk hw) c
theorem IsI.tight {u:Value} {z:Int} {k m:Nat} {X:List Nat} {w:World} (h:IsI u z k X w) (hk:z.natAbs≤2 ^ m):IsI u z m X w:=by
 obtain ⟨q,c,h1,h2,h3,h4⟩:=h.ex
 exact ⟨q,c,h1,h2,hk,h4⟩
theorem lL {ops l:List Oper} {m:Fx.Mode} {u:Value} {z:Int} {k k2:Nat} (h:fP u z k∈I) (hk:z.natAbs≤2 ^ k2) (c:RD P n ops Q m l G X w0 M (fP u z k2::I)):RD P n ops Q m l G X w0 M I:=mO (fun _ hw=>hw.add (φ:=fP u z k2) (IsI.tight (hw.imm _ h).2 hk)) c
end
def RQ (q:Rat) (k:Nat) (M0:List Ent) (I0:List aN) (v:Value) (M:List Ent) (I:List aN):Prop:=M0=M∧∃e:RE,v=rv e∧e.q=q∧I=bE e k::I0
def RQc (q:Rat) (k:Nat) (M0:List Ent) (I0:List aN) (v:Value) (M:List Ent) (I:List aN):Prop:=M0=M∧∃e:RE,v= .tuple #[rv e, .int .i64 0]∧e.q=q∧I=bE e k::I0
theorem gT {P:Program} {n:Nat} {Q:Exit→Act→World→Prop} {G:Env} {X:List Nat} {w0:World} {M:List Ent} {I:List aN} {ops l:List Oper} {m:Fx.Mode} {ty:TypeId} {pos:String} {af:Array Edge} {g:Option (Nat × Bool)} {z:Rat} {j d:Nat} {f:FuncId} {xs:List Operand} {vs:List Value} {at_:Array TypeId} [FnOk P f] (hx:evs G xs=some vs) (hc:CD P f vs X w0 M I (RQ z j M I)) (k:∀e:RE,e.q=z→RD P n ops Q m.nextE l ((d,rv e)::G) X w0 M (bE e j::I)) (o:∀e,OkD m X w0 M (bE e j::I):=by intro _;exact okF) (hg:lW ops G g=some true:=by rfl) (hd:Nat.ble (d+1) n=true:=by rfl):
  RD P n ops Q m (⟨some d, .call {callee:= .value (.func f),args:=xs.toArray,argTypes:=at_},ty,pos,af,g⟩::l) G X w0 M I:=gD hx hc hg hd (by rintro _ _ _ ⟨rfl,e,rfl,h,rfl⟩;exact ⟨o e,k e h⟩)
end Go.Proofs.YthhldplegmeolaaGreat
namespace Go.Fx
theorem aM {p g:Prop} (h:g) (w:BoxP g→p:=by (intro hh;(first|refine aF ?_|refine fJ ?_|refine lQ ?_|refine jI ?_|refine iB ?_|refine gM ?_|refine jJ ?_|refine iW ?_|refine gY ?_|refine gV ?_|refine lY ?_|refine lV ?_|refine mD ?_|refine lU rfl ?_|refine bG ?_|(refine iT ?_;first|refine iV rfl rfl rfl ?_|(refine iQ rfl rfl ?_;refine fV rfl rfl rfl okF ?_)|refine iI rfl rfl (by omega) ?_|refine iK rfl rfl (by omega) ?_)|(refine cK ?_;refine aB rfl (fun _=>dP rfl) rfl rfl ?_)|refine aB rfl (fun _=>aZ rfl) rfl rfl ?_|(refine iP ?_;first|refine aB rfl (fun _=>bL rfl rfl wF) rfl rfl ?_|refine aB rfl (fun _=>bK rfl rfl wF) rfl rfl ?_|refine aB rfl (fun _=>fD rfl rfl wF) rfl rfl ?_|refine aB rfl (fun _=>fE rfl rfl (by omega) qF) rfl rfl ?_|refine aB rfl (fun _=>fC rfl rfl (by omega) rfl) rfl rfl ?_|refine aB rfl (fun _=>dS rfl rfl) rfl rfl ?_|refine aB rfl (fun _=>eX rfl rfl) rfl rfl ?_|refine aB rfl (fun _=>fA rfl rfl) rfl rfl ?_)|(refine cK ?_;first|refine aB rfl (fun _=>eD rfl wF) rfl rfl ?_)|(refine iU ?_;first|refine aB rfl (fun _=>dI rfl wF) rfl rfl ?_)|(refine iX ?_;first|refine aB rfl (fun _=>bM rfl) rfl rfl ?_|refine aB rfl (fun _=>dV rfl rfl) rfl rfl ?_|refine aB rfl (fun _=>dW rfl rfl) rfl rfl ?_|refine aB rfl (fun _=>dX rfl rfl rfl) rfl rfl ?_)|(refine iM ?_;first|refine iN rfl (by decide) rfl rfl ?_|refine kR rfl (by decide) rfl rfl ?_)|(refine iJ ?_;first|refine aB rfl (fun _=>dH rfl) rfl rfl ?_)|(refine iO ?_;first|refine kL rfl rfl jE rfl rfl ?_|refine kM iY rfl rfl jE aA kT rfl rfl ?_|refine kK iY rfl rfl jE aA kT rfl rfl ?_|refine aB rfl (fun _=>bZ rfl rfl jE) rfl rfl ?_)|(refine gF ?_;first|refine kQ iY rfl aA uE rfl rfl ?_|refine kS iY rfl aA uE rfl rfl ?_|refine kP iY rfl aA uE rfl rfl ?_|refine iL iY rfl aA uE rfl rfl ?_|refine pG iY rfl aA atZ rfl rfl ?_|refine oZ iY rfl aA atZ rfl rfl ?_|refine mE iY rfl aA atZ rfl rfl ?_|refine nM iY rfl aA atZ rfl rfl ?_)|(refine iR ?_;first|refine aB rfl (fun _=>bY rfl rfl) rfl rfl ?_|refine aB rfl (fun _=>bQ rfl) rfl rfl ?_)|(refine kZ ?_;first|refine nS rfl rfl rfl mW stC rfl rfl ⟨okF,?_⟩|refine iG rfl rfl iE xN mW xP rfl rfl ⟨okF,?_⟩)|(refine jL ?_;first|refine dJ rfl ?_|refine cO rfl ?_|refine lX rfl (by omega) ?_|refine pM rfl (by omega) ?_));(repeat (first|refine aF ?_|refine fJ ?_|refine lQ ?_|refine jI ?_|refine iB ?_|refine gM ?_|refine jJ ?_|refine iW ?_|refine gY ?_|refine gV ?_|refine lY ?_|refine lV ?_|refine mD ?_|refine lU rfl ?_|refine bG ?_|(refine iT ?_;first|refine iV rfl rfl rfl ?_|(refine iQ rfl rfl ?_;refine fV rfl rfl rfl okF ?_)|refine iI rfl rfl (by omega) ?_|refine iK rfl rfl (by omega) ?_)|(refine cK ?_;refine aB rfl (fun _=>dP rfl) rfl rfl ?_)|refine aB rfl (fun _=>aZ rfl) rfl rfl ?_|(refine iP ?_;first|refine aB rfl (fun _=>bL rfl rfl wF) rfl rfl ?_|refine aB rfl (fun _=>bK rfl rfl wF) rfl rfl ?_|refine aB rfl (fun _=>fD rfl rfl wF) rfl rfl ?_|refine aB rfl (fun _=>fE rfl rfl (by omega) qF) rfl rfl ?_|refine aB rfl (fun _=>fC rfl rfl (by omega) rfl) rfl rfl ?_|refine aB rfl (fun _=>dS rfl rfl) rfl rfl ?_|refine aB rfl (fun _=>eX rfl rfl) rfl rfl ?_|refine aB rfl (fun _=>fA rfl rfl) rfl rfl ?_)|(refine cK ?_;first|refine aB rfl (fun _=>eD rfl wF) rfl rfl ?_)|(refine iU ?_;first|refine aB rfl (fun _=>dI rfl wF) rfl rfl ?_)|(refine iX ?_;first|refine aB rfl (fun _=>bM rfl) rfl rfl ?_|refine aB rfl (fun _=>dV rfl rfl) rfl rfl ?_|refine aB rfl (fun _=>dW rfl rfl) rfl rfl ?_|refine aB rfl (fun _=>dX rfl rfl rfl) rfl rfl ?_)|(refine iM ?_;first|refine iN rfl (by decide) rfl rfl ?_|refine kR rfl (by decide) rfl rfl ?_)|(refine iJ ?_;first|refine aB rfl (fun _=>dH rfl) rfl rfl ?_)|(refine iO ?_;first|refine kL rfl rfl jE rfl rfl ?_|refine kM iY rfl rfl jE aA kT rfl rfl ?_|refine kK iY rfl rfl jE aA kT rfl rfl ?_|refine aB rfl (fun _=>bZ rfl rfl jE) rfl rfl ?_)|(refine gF ?_;first|refine kQ iY rfl aA uE rfl rfl ?_|refine kS iY rfl aA uE rfl rfl ?_|refine kP iY rfl aA uE rfl rfl ?_|refine iL iY rfl aA uE rfl rfl ?_|refine pG iY rfl aA atZ rfl rfl ?_|refine oZ iY rfl aA atZ rfl rfl ?_|refine mE iY rfl aA atZ rfl rfl ?_|refine nM iY rfl aA atZ rfl rfl ?_)|(refine iR ?_;first|refine aB rfl (fun _=>bY rfl rfl) rfl rfl ?_|refine aB rfl (fun _=>bQ rfl) rfl rfl ?_)|(refine kZ ?_;first|refine nS rfl rfl rfl mW stC rfl rfl ⟨okF,?_⟩|refine iG rfl rfl iE xN mW xP rfl rfl ⟨okF,?_⟩)|(refine jL ?_;first|refine dJ rfl ?_|refine cO rfl ?_|refine lX rfl (by omega) ?_|refine pM rfl (by omega) ?_)));exact hh.out)):p:=w ⟨h⟩
theorem yXf {p g:Prop} (h:g) (w:BoxP g→p:=by (intro hh;(first|refine aF ?_|refine fJ ?_|refine lQ ?_|refine jI ?_|refine iB ?_|refine gM ?_|refine jJ ?_|refine iW ?_|refine gY ?_|refine gV ?_|refine lY ?_|refine lV ?_|refine mD ?_|refine lU rfl ?_|refine bG ?_|(refine iT ?_;first|refine iV rfl rfl rfl ?_|(refine iQ rfl rfl ?_;refine fV rfl rfl rfl okF ?_)|refine iI rfl rfl (by omega) ?_|refine iK rfl rfl (by omega) ?_)|(refine cK ?_;refine aB rfl (fun _=>dP rfl) rfl rfl ?_)|refine aB rfl (fun _=>aZ rfl) rfl rfl ?_|(refine iP ?_;first|refine aB rfl (fun _=>bL rfl rfl wF) rfl rfl ?_|refine aB rfl (fun _=>bK rfl rfl wF) rfl rfl ?_|refine aB rfl (fun _=>fD rfl rfl wF) rfl rfl ?_|refine aB rfl (fun _=>fE rfl rfl (by omega) qF) rfl rfl ?_|refine aB rfl (fun _=>fC rfl rfl (by omega) rfl) rfl rfl ?_|refine aB rfl (fun _=>dS rfl rfl) rfl rfl ?_|refine aB rfl (fun _=>eX rfl rfl) rfl rfl ?_|refine aB rfl (fun _=>fA rfl rfl) rfl rfl ?_)|(refine cK ?_;first|refine aB rfl (fun _=>eD rfl wF) rfl rfl ?_)|(refine iU ?_;first|refine aB rfl (fun _=>dI rfl wF) rfl rfl ?_)|(refine iX ?_;first|refine aB rfl (fun _=>bM rfl) rfl rfl ?_|refine aB rfl (fun _=>dV rfl rfl) rfl rfl ?_|refine aB rfl (fun _=>dW rfl rfl) rfl rfl ?_|refine aB rfl (fun _=>dX rfl rfl rfl) rfl rfl ?_)|(refine iM ?_;first|refine iN rfl (by decide) rfl rfl ?_|refine kR rfl (by decide) rfl rfl ?_)|(refine iJ ?_;first|refine aB rfl (fun _=>dH rfl) rfl rfl ?_)|(refine iO ?_;first|refine kL rfl rfl jE rfl rfl ?_|refine kM iY rfl rfl jE aA kT rfl rfl ?_|refine kK iY rfl rfl jE aA kT rfl rfl ?_|refine aB rfl (fun _=>bZ rfl rfl jE) rfl rfl ?_)|(refine gF ?_;first|refine kQ iY rfl aA uE rfl rfl ?_|refine kS iY rfl aA uE rfl rfl ?_|refine kP iY rfl aA uE rfl rfl ?_|refine iL iY rfl aA uE rfl rfl ?_|refine pG iY rfl aA atZ rfl rfl ?_|refine oZ iY rfl aA atZ rfl rfl ?_|refine mE iY rfl aA atZ rfl rfl ?_|refine nM iY rfl aA atZ rfl rfl ?_)|(refine iR ?_;first|refine aB rfl (fun _=>bY rfl rfl) rfl rfl ?_|refine aB rfl (fun _=>bQ rfl) rfl rfl ?_)|(refine jL ?_;first|refine dJ rfl ?_|refine cO rfl ?_|refine lX rfl (by omega) ?_|refine pM rfl (by omega) ?_));(repeat (first|refine aF ?_|refine fJ ?_|refine lQ ?_|refine jI ?_|refine iB ?_|refine gM ?_|refine jJ ?_|refine iW ?_|refine gY ?_|refine gV ?_|refine lY ?_|refine lV ?_|refine mD ?_|refine lU rfl ?_|refine bG ?_|(refine iT ?_;first|refine iV rfl rfl rfl ?_|(refine iQ rfl rfl ?_;refine fV rfl rfl rfl okF ?_)|refine iI rfl rfl (by omega) ?_|refine iK rfl rfl (by omega) ?_)|(refine cK ?_;refine aB rfl (fun _=>dP rfl) rfl rfl ?_)|refine aB rfl (fun _=>aZ rfl) rfl rfl ?_|(refine iP ?_;first|refine aB rfl (fun _=>bL rfl rfl wF) rfl rfl ?_|refine aB rfl (fun _=>bK rfl rfl wF) rfl rfl ?_|refine aB rfl (fun _=>fD rfl rfl wF) rfl rfl ?_|refine aB rfl (fun _=>fE rfl rfl (by omega) qF) rfl rfl ?_|refine aB rfl (fun _=>fC rfl rfl (by omega) rfl) rfl rfl ?_|refine aB rfl (fun _=>dS rfl rfl) rfl rfl ?_|refine aB rfl (fun _=>eX rfl rfl) rfl rfl ?_|refine aB rfl (fun _=>fA rfl rfl) rfl rfl ?_)|(refine cK ?_;first|refine aB rfl (fun _=>eD rfl wF) rfl rfl ?_)|(refine iU ?_;first|refine aB rfl (fun _=>dI rfl wF) rfl rfl ?_)|(refine iX ?_;first|refine aB rfl (fun _=>bM rfl) rfl rfl ?_|refine aB rfl (fun _=>dV rfl rfl) rfl rfl ?_|refine aB rfl (fun _=>dW rfl rfl) rfl rfl ?_|refine aB rfl (fun _=>dX rfl rfl rfl) rfl rfl ?_)|(refine iM ?_;first|refine iN rfl (by decide) rfl rfl ?_|refine kR rfl (by decide) rfl rfl ?_)|(refine iJ ?_;first|refine aB rfl (fun _=>dH rfl) rfl rfl ?_)|(refine iO ?_;first|refine kL rfl rfl jE rfl rfl ?_|refine kM iY rfl rfl jE aA kT rfl rfl ?_|refine kK iY rfl rfl jE aA kT rfl rfl ?_|refine aB rfl (fun _=>bZ rfl rfl jE) rfl rfl ?_)|(refine gF ?_;first|refine kQ iY rfl aA uE rfl rfl ?_|refine kS iY rfl aA uE rfl rfl ?_|refine kP iY rfl aA uE rfl rfl ?_|refine iL iY rfl aA uE rfl rfl ?_|refine pG iY rfl aA atZ rfl rfl ?_|refine oZ iY rfl aA atZ rfl rfl ?_|refine mE iY rfl aA atZ rfl rfl ?_|refine nM iY rfl aA atZ rfl rfl ?_)|(refine iR ?_;first|refine aB rfl (fun _=>bY rfl rfl) rfl rfl ?_|refine aB rfl (fun _=>bQ rfl) rfl rfl ?_)|(refine jL ?_;first|refine dJ rfl ?_|refine cO rfl ?_|refine lX rfl (by omega) ?_|refine pM rfl (by omega) ?_)));exact hh.out)):p:=w ⟨h⟩
end Go.Fx
namespace Go.Proofs.YthhldplegmeolaaGreat
open Go Go.Fx
theorem uD {a b k:Nat} (h:a≤2 ^ k):a / b≤2 ^ k:=Nat.le_trans (Nat.div_le_self _ _) h
section
variable {X:List Nat} {w0:World} {M0:List Ent} {I0:List aN}
def DvP (s t:Int) (k m:Nat) (M0:List Ent) (I0:List aN) (v:Value) (M:List Ent) (I:List aN):Prop:=M0=M∧∃v1 v2,v= .tuple #[v1,v2, .int .i64 0]∧I=fP v2 t m::fP v1 s k::I0
theorem aNF {y z s t:Int} {q q':Option Addr} {a b Q R k m cq cq':Nat} (hb0:¬(gr b).length=0) (hA1:¬(gr R).length=0) (hA2:¬(y < 0↔z < 0)) (hg1:gr 1=[1])
  (h1:∀M0 I0,aD q (recs eG (gr a))∈I0→CD Tryz.prog 87 [.agg #[.bool (B (y < 0)), .slice q (gr a).length cq]] X w0 M0 I0 (fun v M I=>M0=M∧I0=I∧v= .slice q (gr a).length cq))
  (h2:∀M0 I0,aD q' (recs eG (gr b))∈I0→CD Tryz.prog 87 [.agg #[.bool (B (z < 0)), .slice q' (gr b).length cq']] X w0 M0 I0 (fun v M I=>M0=M∧I0=I∧v= .slice q' (gr b).length cq'))
  (hO:∀M0 I0,aD q (recs eG (gr a))∈I0→aD q' (recs eG (gr b))∈I0→CD Tryz.prog 125 [.slice q (gr a).length cq, .slice q' (gr b).length cq'] X w0 M0 I0 (QrP Q R M0 I0))
  (hC:∀p2 c2,oP p2 R c2→∀M0 I0,aD p2 (recs eG (gr R))∈I0→CD Tryz.prog 126 [.slice p2 (gr R).length c2] X w0 M0 I0 (fun v M I=>I0=I∧∃q' c',v= .slice q' (gr R).length c'∧M= .row q' (gr R).length c' (recs eG (gr R)) 103 1::M0))
  (hP:∀p1 c1 p2 M0 I0,aD p1 (recs eG (gr Q))∈I0→aD p2 (recs eG [1])∈I0→CD Tryz.prog 131 [.slice p1 (gr Q).length c1, .slice p2 1 1] X w0 M0 I0 (GrP (Q+1) M0 I0))
  (hMi:∀p3 c3 M0 I0,aD q' (recs eG (gr b))∈I0→aD p3 (recs eG (gr R))∈I0→CD Tryz.prog 132 [.slice q' (gr b).length cq', .slice p3 (gr R).length c3] X w0 M0 I0 (GrP (b - R) M0 I0))
  (hM1:∀p4 c4,oP p4 (Q+1) c4→∀M0 I0,aD p4 (recs eG (gr (Q+1)))∈I0→CD Tryz.prog 92 [.bool (B (¬(y < 0↔z < 0))), .slice p4 (gr (Q+1)).length c4] X w0 M0 I0 (fun v M I=>M0=M∧I=fP v s k::I0))
  (hM2:∀p4 c4,oP p4 (b - R) c4→∀M0 I0,aD p4 (recs eG (gr (b - R)))∈I0→CD Tryz.prog 92 [.bool (B (z < 0)), .slice p4 (gr (b - R)).length c4] X w0 M0 I0 (fun v M I=>M0=M∧I=fP v t m::I0))
  (hq:aD q (recs eG (gr a))∈I0) (hq':aD q' (recs eG (gr b))∈I0):
  CD Tryz.prog 95 [.agg #[.bool (B (y < 0)), .slice q (gr a).length cq], .agg #[.bool (B (z < 0)), .slice q' (gr b).length cq']] X w0 M0 I0 (DvP s t k m M0 I0):=by
 refine aP Tryz.func95 rfl Tryz.ntmps95 rfl ?_
 refine fG ?_
 refine fQ rfl (fun b1=>?_)
 refine fQ rfl (fun b2=>?_)
 refine dG (fun b3=>?_)
 refine dG (fun b4=>?_)
 repeat refine aM ?_
 (repeat refine aF ?_);refine aS 4 [0,2,1,3,4,5] [1,1,0,0,0,0] mixed (by kernel_rfl) ?_
 repeat' (first|refine aM ?_|refine aI rfl (fun h=>?_) (fun h=>?_)|refine aH rfl rfl (fun h=>?_) (fun h=>?_)|fail)
 refine dC rfl (h1 _ _ aA) ?_
 repeat' (first|refine aM ?_|refine aI rfl (fun h=>?_) (fun h=>?_)|refine aH rfl rfl (fun h=>?_) (fun h=>?_)|fail)
 refine dC rfl (h2 _ _ aA) ?_
 repeat' (first|refine aM ?_|refine aI rfl (fun h=>?_) (fun h=>?_)|refine aH rfl rfl (fun h=>?_) (fun h=>?_)|fail)
 (refine bA rfl (hO _ _ aA aA) ?_;rintro _ _ _ ⟨rfl,p1,c1,p2,c2,ho1,ho2,rfl,rfl⟩;refine aU ?_)
 repeat' (first|refine aM ?_|refine aI rfl (fun h=>?_) (fun h=>?_)|refine aH rfl rfl (fun h=>?_) (fun h=>?_)|fail)
 (refine bA rfl (hC p2 c2 ho2 _ _ aA) ?_;rintro _ _ _ ⟨rfl,p3,c3,rfl,rfl⟩;refine aU ?_)
 refine fK uC ?_
 repeat' (first|refine aM ?_|refine aI rfl (fun h=>?_) (fun h=>?_)|refine aH rfl rfl (fun h=>?_) (fun h=>?_)|fail)
 refine nG (cs:=recs eG [1]) ([.int .u32 1]) rfl (fun b5=>?_)
 refine aG uC ?_
 (refine bA rfl (hP p1 c1 (some ⟨b5,0,none⟩) _ _ aA aA) ?_;rintro _ _ _ ⟨rfl,p4,c4,rfl,hc4,rfl⟩;refine aU ?_)
 repeat' (first|refine aM ?_|refine aI rfl (fun h=>?_) (fun h=>?_)|refine aH rfl rfl (fun h=>?_) (fun h=>?_)|fail)
 (refine bA rfl (hMi p3 c3 _ _ aA aA) ?_;rintro _ _ _ ⟨rfl,p5,c5,rfl,hc5,rfl⟩;refine aU ?_)
 repeat refine aM ?_
 (repeat refine aF ?_);refine tyW (.blk b2 [.bool (B (z < 0)), .slice q' (gr b).length cq'] 34:: .blk b1 [.bool (B (y < 0)), .slice q (gr a).length cq] 34::M0) (I0) [0,1,2,3,4,5,7,8,9,6,10,11,12,13] [2,2,2,2,1,1,3,2,2,0,0,0,0,0] mixed ?_
 repeat' (first|refine aM ?_|refine aI rfl (fun h=>?_) (fun h=>?_)|refine aH rfl rfl (fun h=>?_) (fun h=>?_)|fail)
 (refine bA rfl (hM1 p4 c4 hc4 _ _ aA) ?_;rintro _ _ _ ⟨rfl,rfl⟩;refine aU ?_;refine aO (List.Mem.head _) (fun q6 c6 e__ hc6 hz6=>?_);subst e__)
 repeat' (first|refine aM ?_|refine aI rfl (fun h=>?_) (fun h=>?_)|refine aH rfl rfl (fun h=>?_) (fun h=>?_)|fail)
 (refine bA rfl (hM2 p5 c5 hc5 _ _ aA) ?_;rintro _ _ _ ⟨rfl,rfl⟩;refine aU ?_;refine aO (List.Mem.head _) (fun q7 c7 e__ hc7 hz7=>?_);subst e__)
 unfold iv
 repeat' (first|refine aM ?_|refine aI rfl (fun h=>?_) (fun h=>?_)|refine aH rfl rfl (fun h=>?_) (fun h=>?_)|fail)
 refine gZ (rs:=[.cell 4 34, .cell 5 34, .tmp 6]) (.inl rfl) rfl (.cellN inferInstance rfl aA rfl (.cellN inferInstance rfl aA rfl (.tmp rfl .nil))) rfl M0 (fP (.agg #[.bool (B (t < 0)), .slice q7 (gr t.natAbs).length c7]) t m::fP (.agg #[.bool (B (s < 0)), .slice q6 (gr s.natAbs).length c6]) s k::I0) aK aJ ⟨rfl,_,_,rfl,rfl⟩
theorem aNR {y z s t:Int} {q q':Option Addr} {a b Q R k m cq cq':Nat} (hb0:¬(gr b).length=0) (hA:(gr R).length=0∨(y < 0↔z < 0))
  (h1:∀M0 I0,aD q (recs eG (gr a))∈I0→CD Tryz.prog 87 [.agg #[.bool (B (y < 0)), .slice q (gr a).length cq]] X w0 M0 I0 (fun v M I=>M0=M∧I0=I∧v= .slice q (gr a).length cq))
  (h2:∀M0 I0,aD q' (recs eG (gr b))∈I0→CD Tryz.prog 87 [.agg #[.bool (B (z < 0)), .slice q' (gr b).length cq']] X w0 M0 I0 (fun v M I=>M0=M∧I0=I∧v= .slice q' (gr b).length cq'))
  (hO:∀M0 I0,aD q (recs eG (gr a))∈I0→aD q' (recs eG (gr b))∈I0→CD Tryz.prog 125 [.slice q (gr a).length cq, .slice q' (gr b).length cq'] X w0 M0 I0 (QrP Q R M0 I0))
  (hC:∀p2 c2,oP p2 R c2→∀M0 I0,aD p2 (recs eG (gr R))∈I0→CD Tryz.prog 126 [.slice p2 (gr R).length c2] X w0 M0 I0 (fun v M I=>I0=I∧∃q' c',v= .slice q' (gr R).length c'∧M= .row q' (gr R).length c' (recs eG (gr R)) 103 1::M0))
  (hM1:∀p4 c4,oP p4 Q c4→∀M0 I0,aD p4 (recs eG (gr Q))∈I0→CD Tryz.prog 92 [.bool (B (¬(y < 0↔z < 0))), .slice p4 (gr Q).length c4] X w0 M0 I0 (fun v M I=>M0=M∧I=fP v s k::I0))
  (hM2:∀p4 c4,oP p4 R c4→∀M0 I0,aD p4 (recs eG (gr R))∈I0→CD Tryz.prog 92 [.bool (B (z < 0)), .slice p4 (gr R).length c4] X w0 M0 I0 (fun v M I=>M0=M∧I=fP v t m::I0))
  (hq:aD q (recs eG (gr a))∈I0) (hq':aD q' (recs eG (gr b))∈I0):
  CD Tryz.prog 95 [.agg #[.bool (B (y < 0)), .slice q (gr a).length cq], .agg #[.bool (B (z < 0)), .slice q' (gr b).length cq']] X w0 M0 I0 (DvP s t k m M0 I0):=by
 refine aP Tryz.func95 rfl Tryz.ntmps95 rfl ?_
 refine fG ?_
 refine fQ rfl (fun b1=>?_)
 refine fQ rfl (fun b2=>?_)
 refine dG (fun b3=>?_)
 refine dG (fun b4=>?_)
 repeat refine aM ?_
 (repeat refine aF ?_);refine aS 4 [0,2,1,3,4,5] [1,1,0,0,0,0] mixed (by kernel_rfl) ?_
 repeat' (first|refine aM ?_|refine aI rfl (fun h=>?_) (fun h=>?_)|refine aH rfl rfl (fun h=>?_) (fun h=>?_)|fail)
 refine dC rfl (h1 _ _ aA) ?_
 repeat' (first|refine aM ?_|refine aI rfl (fun h=>?_) (fun h=>?_)|refine aH rfl rfl (fun h=>?_) (fun h=>?_)|fail)
 refine dC rfl (h2 _ _ aA) ?_
 repeat' (first|refine aM ?_|refine aI rfl (fun h=>?_) (fun h=>?_)|refine aH rfl rfl (fun h=>?_) (fun h=>?_)|fail)
 (refine bA rfl (hO _ _ aA aA) ?_;rintro _ _ _ ⟨rfl,p1,c1,p2,c2,ho1,ho2,rfl,rfl⟩;refine aU ?_)
 repeat' (first|refine aM ?_|refine aI rfl (fun h=>?_) (fun h=>?_)|refine aH rfl rfl (fun h=>?_) (fun h=>?_)|fail)
 (refine bA rfl (hC p2 c2 ho2 _ _ aA) ?_;rintro _ _ _ ⟨rfl,p3,c3,rfl,rfl⟩;refine aU ?_)
 refine nI (fun w hw=>And.intro (hw.rowLe (List.Mem.head _)) ((hw.rowS (List.Mem.head _)).2.imp id And.right)) (fun ho3=>?_)
 refine fK uC ?_
 repeat' (first|refine aM ?_|refine aI rfl (fun h=>?_) (fun h=>?_)|refine aH rfl rfl (fun h=>?_) (fun h=>?_)|fail)
 all_goals
  ((repeat refine aF ?_);refine tyW (.blk b2 [.bool (B (z < 0)), .slice q' (gr b).length cq'] 34:: .blk b1 [.bool (B (y < 0)), .slice q (gr a).length cq] 34::M0) (I0) [0,1,2,3,4,5,7,8,9,6,10,11,12,13] [2,2,2,2,1,1,3,2,2,0,0,0,0,0] mixed ?_)
  repeat' (first|refine aM ?_|refine aI rfl (fun h=>?_) (fun h=>?_)|refine aH rfl rfl (fun h=>?_) (fun h=>?_)|fail)
  (refine bA rfl (hM1 p1 c1 ho1 _ _ aA) ?_;rintro _ _ _ ⟨rfl,rfl⟩;refine aU ?_;refine aO (List.Mem.head _) (fun q6 c6 e__ hc6 hz6=>?_);subst e__)
  repeat' (first|refine aM ?_|refine aI rfl (fun h=>?_) (fun h=>?_)|refine aH rfl rfl (fun h=>?_) (fun h=>?_)|fail)
  (refine bA rfl (hM2 p3 c3 ho3 _ _ aA) ?_;rintro _ _ _ ⟨rfl,rfl⟩;refine aU ?_;refine aO (List.Mem.head _) (fun q7 c7 e__ hc7 hz7=>?_);subst e__)
  unfold iv
  repeat' (first|refine aM ?_|refine aI rfl (fun h=>?_) (fun h=>?_)|refine aH rfl rfl (fun h=>?_) (fun h=>?_)|fail)
  refine gZ (rs:=[.cell 4 34, .cell 5 34, .tmp 6]) (.inl rfl) rfl (.cellN inferInstance rfl aA rfl (.cellN inferInstance rfl aA rfl (.tmp rfl .nil))) rfl M0 (fP (.agg #[.bool (B (t < 0)), .slice q7 (gr t.natAbs).length c7]) t m::fP (.agg #[.bool (B (s < 0)), .slice q6 (gr s.natAbs).length c6]) s k::I0) aK aJ ⟨rfl,_,_,rfl,rfl⟩
theorem aBH {u v:Value} {y z:Int} {k m:Nat} (hk:k≤1000000000000) (hm:m≤1000000000000) (hz0:z≠0) (hu:fP u y k∈I0) (hv:fP v z m∈I0):
  CD Tryz.prog 95 [u,v] X w0 M0 I0 (DvP (y.fdiv z) (y.fmod z) k m M0 I0):=by
 refine bO hu (fun q cq e hc hy=>?_)
 subst e
 refine bO (List.Mem.tail _ hv) (fun q' cq' e hc' hz=>?_)
 subst e
 have hly:=dB hy
 have hlz:=dB hz
 have hfd:=vP (y:=y) hz0
 have hz1:0 < z.natAbs:=by omega
 have hmod:=Nat.mod_lt y.natAbs hz1
 have hqb:y.natAbs / z.natAbs≤2 ^ k:=uD hy
 have hrb:y.natAbs % z.natAbs≤2 ^ m:=by omega
 have hlq:=dB hqb
 have hlr:=dB hrb
 have hlz1:¬(gr z.natAbs).length=0:=fun e=>by have:=mZ.1 (List.eq_nil_of_length_eq_zero e);omega
 have hg1:gr 1=[1]:=rX (f:=1) (by decide) (by decide)
 have hr0:(gr (y.natAbs % z.natAbs)).length=0↔y.natAbs % z.natAbs=0:=by rw [List.length_eq_zero_iff,mZ]
 refine CD.post (K:=DvP (y.fdiv z) (y.fmod z) k m M0 (aD q' (recs eG (gr z.natAbs))::aD q (recs eG (gr y.natAbs))::I0)) ?_ (fun v M I w h hw=>?_)
 case refine_2=>
  obtain ⟨e1,v1,v2,e2,e3⟩:=h
  subst e1;subst e3
  exact ⟨_,_,⟨rfl,v1,v2,e2,rfl⟩,hw.inc (Inc.cons (by simp) (Inc.cons (by simp) (Inc.wk (Inc.wk (Inc.wk (Inc.wk Inc.refl))))))⟩
 have hG1:=fun M0 I0 h=>gU (X:=X) (w0:=w0) (M0:=M0) (I0:=I0) (c:=cq) (q:=q) (z:=y) hy (by omega) h
 have hG2:=fun M0 I0 h=>gU (X:=X) (w0:=w0) (M0:=M0) (I0:=I0) (c:=cq') (q:=q') (z:=z) hz (by omega) h
 have hO:=fun M0 I0=>aHY (X:=X) (w0:=w0) (M0:=M0) (I0:=I0) (p:=q) (q:=q') (m:=y.natAbs) (n:=z.natAbs) (cp:=cq) (cq:=cq') (by omega) (by omega) hz1 hc
 have hCl:=fun p2 c2 (ho2:oP p2 (y.natAbs % z.natAbs) c2) M0 I0 h=>xA (X:=X) (w0:=w0) (M0:=M0) (I0:=I0) (q:=p2) (a:=gr (y.natAbs % z.natAbs)) (c:=c2) (by omega) ho2.2 h
 unfold iv at hG1 hG2 ⊢
 by_cases hA:(gr (y.natAbs % z.natAbs)).length=0∨(y < 0↔z < 0)
 ·obtain ⟨e1,e2⟩:=hfd.2 (hA.elim (fun h=> .inr (hr0.1 h)) .inl)
  have s1:sg (¬(y < 0↔z < 0)) (y.natAbs / z.natAbs)=y.fdiv z:=by rw [e1];rfl
  have s2:sg (z < 0) (y.natAbs % z.natAbs)=y.fmod z:=by rw [e2];rfl
  have hM1:=fun p4 c4 (h4:oP p4 (y.natAbs / z.natAbs) c4) M0 I0 h=>kH (X:=X) (w0:=w0) (M0:=M0) (I0:=I0) (p:=¬(y < 0↔z < 0)) (k:=k) (by omega) h4 hqb h
  have hM2:=fun p4 c4 (h4:oP p4 (y.natAbs % z.natAbs) c4) M0 I0 h=>kH (X:=X) (w0:=w0) (M0:=M0) (I0:=I0) (p:=z < 0) (k:=m) (by omega) h4 hrb h
  rw [s1] at hM1
  rw [s2] at hM2
  exact aNR hlz1 hA hG1 hG2 hO hCl hM1 hM2 (by simp) (by simp)
 ·have hA1:¬(gr (y.natAbs % z.natAbs)).length=0:=fun h=>hA (.inl h)
  have hA2:¬(y < 0↔z < 0):=fun h=>hA (.inr h)
  have hAr:y.natAbs % z.natAbs≠0:=fun h=>hA1 (hr0.2 h)
  obtain ⟨e1,e2⟩:=hfd.1 hA2 hAr
  have hab:=Nat.div_add_mod y.natAbs z.natAbs
  have hbQ:y.natAbs / z.natAbs≤z.natAbs*(y.natAbs / z.natAbs):=Nat.le_mul_of_pos_left _ hz1
  have hQ1:y.natAbs / z.natAbs+1≤2 ^ k:=by omega
  have hR1:z.natAbs - y.natAbs % z.natAbs≤2 ^ m:=by omega
  have hlQ1:=dB hQ1
  have hlR1:=dB hR1
  have s1:sg (¬(y < 0↔z < 0)) (y.natAbs / z.natAbs+1)=y.fdiv z:=by rw [e1];unfold sg;rw [if_pos hA2]
  have s2:sg (z < 0) (z.natAbs - y.natAbs % z.natAbs)=y.fmod z:=by rw [e2];rfl
  have hM1:=fun p4 c4 (h4:oP p4 (y.natAbs / z.natAbs+1) c4) M0 I0 h=>kH (X:=X) (w0:=w0) (M0:=M0) (I0:=I0) (p:=¬(y < 0↔z < 0)) (k:=k) (by omega) h4 hQ1 h
  have hM2:=fun p4 c4 (h4:oP p4 (z.natAbs - y.natAbs % z.natAbs) c4) M0 I0 h=>kH (X:=X) (w0:=w0) (M0:=M0) (I0:=I0) (p:=z < 0) (k:=m) (by omega) h4 hR1 h
  rw [s1] at hM1
  rw [s2] at hM2
  have hP:=fun p1 c1 p2 M0 I0=>aIT (X:=X) (w0:=w0) (M0:=M0) (I0:=I0) (p:=p1) (q:=p2) (m:=y.natAbs / z.natAbs) (n:=1) (cp:=c1) (cq:=1) (by omega) (by rw [hg1];simp)
  simp only [hg1] at hP
  have hMi:=fun p3 c3 M0 I0=>zL (X:=X) (w0:=w0) (M0:=M0) (I0:=I0) (p:=q') (q:=p3) (m:=z.natAbs) (n:=y.natAbs % z.natAbs) (cp:=cq') (cq:=c3) (by omega) (by omega)
  exact aNF hlz1 hA1 hA2 hg1 hG1 hG2 hO hCl hP hMi hM1 hM2 (by simp) (by simp)
end
theorem aKO {n:Nat} (h:0 < n∧n≤9223372036854775808):IntKind.u64.wrap (0 - (-(n:Int)+18446744073709551616))=n:=by
 simp [IntKind.wrap,IntKind.bits,IntKind.signed];omega
section
variable {X:List Nat} {w0:World} {M0:List Ent} {I0:List aN}
theorem aTE {n:Nat} (hx:0 < n∧n≤9223372036854775808):CD Tryz.prog 68 [.int .i64 (-(n:Int))] X w0 M0 I0 (fun v M I=>M0=M∧I=fP v (-(n:Int)) 63::I0):=by
 have hn:n≤2 ^ 63:=by omega
 have hlt:(-(n:Int)) < 0:=by omega
 have hMd:=fun (q':Option Addr) (c':Nat) (hc':oP q' n c') M0 I0=>kH (X:=X) (w0:=w0) (M0:=M0) (I0:=I0) (p:=(-(n:Int)) < 0) (q:=q') (c:=c') (k:=63) (by have:=dB hn;omega) hc' hn
 have hs2:sg ((-(n:Int)) < 0) n= -(n:Int):=by unfold sg;rw [if_pos hlt]
 rw [hs2] at hMd
 refine aV Tryz.func68 rfl Tryz.ntmps68 rfl ?_
 refine fG ?_
 refine dG (fun b=>?_)
 repeat refine aM ?_
 refine aB rfl (fun _=>dI rfl (aEY (by omega))) rfl rfl ?_
 repeat refine aM ?_
 refine aB rfl (fun _=>eD rfl (aKO hx)) rfl rfl ?_
 repeat refine aM ?_
 (refine bA rfl (qI (n:=n) (by omega)) ?_;rintro _ _ _ ⟨rfl,q',c',rfl,hc',rfl⟩;refine aU ?_)
 (refine bA rfl (hMd q' c' hc' _ _ aA) ?_;rintro _ _ _ ⟨rfl,rfl⟩;refine aU ?_;refine aO (List.Mem.head _) (fun q2 c2 e__ hc2 hz2=>?_);subst e__)
 unfold iv
 repeat refine aM ?_
 refine aR (cs:=[.bool (B (-(n:Int) < 0)), .slice q2 (gr (-(n:Int)).natAbs).length c2]) (.inl rfl) rfl rfl aA rfl _ _ aK aJ ⟨rfl,rfl⟩
theorem aCY {x:Int} (hx: -9223372036854775808≤x∧x≤9223372036854775807):CD Tryz.prog 68 [.int .i64 x] X w0 M0 I0 (fun v M I=>M0=M∧I=fP v x 63::I0):=by
 by_cases h:x < 0
 ·obtain ⟨n,rfl⟩:∃n:Nat,x= -(n:Int):=⟨x.natAbs,by omega⟩
  exact aTE (by omega)
 ·exact Of_ok (by omega)
end
end Go.Proofs.YthhldplegmeolaaGreat
namespace Go.Proofs.YthhldplegmeolaaGreat
open Go Go.Fx
section
variable {X:List Nat} {w0:World} {M0:List Ent} {I0:List aN}
theorem tN {u:Value} {z:Int} {k:Nat} (hk:k≤1000000000000) (hu:fP u z k∈I0):
  CD Tryz.prog 85 [u] X w0 M0 I0 (fun v M I=>M0=M∧I0=I∧v= .bool true):=by
 refine CD.post (K:=fun v M I=>M0=M∧(∃q,aD q (recs eG (gr z.natAbs))::I0=I)∧v= .bool true) (bO hu (fun q c e hc hz=>?_)) (fun v M I w h hw=>?_)
 case refine_2=>
  obtain ⟨e1,⟨q,e2⟩,e3⟩:=h
  subst e1;subst e2
  exact ⟨_,_,⟨rfl,rfl,e3⟩,hw.inc (Inc.wk Inc.refl)⟩
 subst e
 have hl:=eO hz hk
 refine (sS (neg:=B (z < 0)) (gs:=gr z.natAbs) (by omega) (List.Mem.head _)).mono (fun v M I h=>⟨h.1,⟨q,h.2.1⟩,?_⟩)
 rw [h.2.2]
 exact congrArg Value.bool (bV (wW z))
theorem uL {u v:Value} {n d:Int} {k:Nat} (hk:k≤500000000000) (hd0:d≠0) (hu:fP u n k∈I0) (hv:fP v d k∈I0):
  CD Tryz.prog 52 [u,v] X w0 M0 I0 (RQ (Rat.divInt n d) k M0 I0):=by
 have hS:=fun M0 I0=>oU (X:=X) (w0:=w0) (M0:=M0) (I0:=I0) (u:=v) (z:=d) (k:=k) (by omega)
 refine bO hu (fun q cq e hc hy=>?_)
 subst e
 refine bO (List.Mem.tail _ hv) (fun q' cq' e hc' hz=>?_)
 subst e
 obtain ⟨r,hr⟩:∃r,r=Rat.divInt n d:=⟨_,rfl⟩
 have key:∀n' d':Int,0 < d'→Rat.divInt n' d'=Rat.divInt n d→(∀u v M0 I0,fP u n' k∈I0→fP v (Int.gcd n' d':Int) (k+k)∈I0→CD Tryz.prog 95 [u,v] X w0 M0 I0 (DvP r.num (n'.fmod (Int.gcd n' d')) k (k+k) M0 I0))∧(∀u v M0 I0,fP u d' k∈I0→fP v (Int.gcd n' d':Int) (k+k)∈I0→CD Tryz.prog 95 [u,v] X w0 M0 I0 (DvP r.den (d'.fmod (Int.gcd n' d')) k (k+k) M0 I0)):=by
  intro n' d' hd' he
  obtain ⟨e1,e2,e3⟩:=aIP (n:=n') (d:=d') (g:=(Int.gcd n' d':Int)) (by omega) (by rw [if_neg (by omega)])
  rw [he,←hr] at e1 e2
  refine ⟨fun u v M0 I0 h1 h2=>?_,fun u v M0 I0 h1 h2=>?_⟩
  ·have:=aBH (X:=X) (w0:=w0) (M0:=M0) (I0:=I0) (k:=k) (m:=k+k) (by omega) (by omega) e3 h1 h2
   rwa [e1] at this
  ·have:=aBH (X:=X) (w0:=w0) (M0:=M0) (I0:=I0) (k:=k) (m:=k+k) (by omega) (by omega) e3 h1 h2
   rwa [e2] at this
 rw [←hr]
 have hN:=fun u z M0 I0=>aGS (X:=X) (w0:=w0) (M0:=M0) (I0:=I0) (u:=u) (z:=z) (k:=k) (by omega)
 have hG:=fun u v n' d' M0 I0=>aHJ (X:=X) (w0:=w0) (M0:=M0) (I0:=I0) (u:=u) (v:=v) (y:=n') (z:=d') (k0:=k) (m:=k) (by omega) (by omega)
 by_cases hneg:d < 0
 ·have hs:d.sign= -1:=Int.sign_eq_neg_one_of_neg hneg
  obtain ⟨hD1,hD2⟩:=key (-n) (-d) (by omega) yZ
  rw [hs] at hS
  clear key
  obtain ⟨g,hg⟩:∃g:Int,g=(Int.gcd (-n) (-d):Int):=⟨_,rfl⟩
  rw [←hg] at hD1 hD2
  have hG:=fun u v=>hG u v (-n) (-d)
  rw [←hg] at hG
  obtain ⟨n1,hn1⟩:∃g:Int,g= -n:=⟨_,rfl⟩
  obtain ⟨d1,hd1⟩:∃g:Int,g= -d:=⟨_,rfl⟩
  have hN1:=fun u=>hN u n
  have hN2:=fun u=>hN u d
  rw [←hn1] at hN1 hD1 hG
  rw [←hd1] at hN2 hD2 hG
  unfold iv at*
  refine aP Tryz.func52 rfl Tryz.ntmps52 rfl ?_
  refine fG ?_
  refine fQ rfl (fun b=>?_)
  refine fQ rfl (fun b2=>?_)
  refine dG (fun b4=>?_)
  repeat refine aM ?_
  refine dC rfl (hS _ _ aA) ?_
  repeat refine aM ?_
  (repeat refine aF ?_);refine aS 2 [0,2,1,3,4,5] [1,2,0,0,0,0] mixed (by kernel_rfl) ?_
  repeat refine aM ?_
  (refine bA rfl (hN1 _ _ _ aA) ?_;rintro _ _ _ ⟨rfl,rfl⟩;refine aU ?_;refine aO (List.Mem.head _) (fun q1 c1 e__ hc1 hz1=>?_);subst e__)
  repeat refine aM ?_
  (refine bA rfl (hN2 _ _ _ aA) ?_;rintro _ _ _ ⟨rfl,rfl⟩;refine aU ?_;refine aO (List.Mem.head _) (fun q2 c2 e__ hc2 hz2=>?_);subst e__)
  unfold iv
  repeat refine aM ?_
  (refine bA rfl (hG _ _ _ _ aA aA) ?_;rintro _ _ _ ⟨rfl,rfl⟩;refine aU ?_;refine aO (List.Mem.head _) (fun q3 c3 e__ hc3 hz3=>?_);subst e__)
  unfold iv
  repeat refine aM ?_
  refine dG (fun b5=>?_)
  repeat refine aM ?_
  (refine bA rfl (hD1 _ _ _ _ aA aA) ?_;rintro _ _ _ ⟨rfl,v1,v2,rfl,rfl⟩;refine aU ?_)
  refine aO (u:=v1) aA (fun q4 c4 e4 hc4 hz4=>?_)
  subst e4
  unfold iv
  repeat refine aM ?_
  (refine bA rfl (hD2 _ _ _ _ aA aA) ?_;rintro _ _ _ ⟨rfl,v3,v4,rfl,rfl⟩;refine aU ?_)
  refine aO (u:=v3) aA (fun q5 c5 e5 hc5 hz5=>?_)
  subst e5
  unfold iv
  repeat refine aM ?_
  (refine aB rfl (fun _=>aY (pvs:=([vI q4 c4 r.num,vI q5 c5 r.den]).zipIdx.map (fun p=>(p.2,p.1))) (cells:=eR ⟨r,q4,c4,q5,c5⟩) rfl rfl) rfl rfl ?_)
  repeat refine aM ?_
  refine jU (q:=r) (k:=k) (p1:=q4) (c1:=c4) (p2:=q5) (c2:=c5) aA aA (Nat.le_refl _) (Nat.le_refl _) ?_
  refine aR (cs:=eR ⟨r,q4,c4,q5,c5⟩) (.inl rfl) rfl rfl aA rfl M0 (bE ⟨r,q4,c4,q5,c5⟩ k::I0) aK aJ ⟨rfl,⟨r,q4,c4,q5,c5⟩,rfl,rfl,rfl⟩
 ·have hs:d.sign=1:=Int.sign_eq_one_of_pos (by omega)
  obtain ⟨hD1,hD2⟩:=key n d (by omega) rfl
  rw [hs] at hS
  clear key hN
  obtain ⟨g,hg⟩:∃g:Int,g=(Int.gcd n d:Int):=⟨_,rfl⟩
  rw [←hg] at hD1 hD2
  have hG:=fun u v=>hG u v n d
  rw [←hg] at hG
  unfold iv at*
  refine aP Tryz.func52 rfl Tryz.ntmps52 rfl ?_
  refine fG ?_
  refine fQ rfl (fun b=>?_)
  refine fQ rfl (fun b2=>?_)
  refine dG (fun b4=>?_)
  repeat refine aM ?_
  refine dC rfl (hS _ _ aA) ?_
  repeat refine aM ?_
  (refine bA rfl (hG _ _ _ _ aA aA) ?_;rintro _ _ _ ⟨rfl,rfl⟩;refine aU ?_;refine aO (List.Mem.head _) (fun q3 c3 e__ hc3 hz3=>?_);subst e__)
  unfold iv
  repeat refine aM ?_
  refine dG (fun b5=>?_)
  repeat refine aM ?_
  (refine bA rfl (hD1 _ _ _ _ aA aA) ?_;rintro _ _ _ ⟨rfl,v1,v2,rfl,rfl⟩;refine aU ?_)
  refine aO (u:=v1) aA (fun q4 c4 e4 hc4 hz4=>?_)
  subst e4
  unfold iv
  repeat refine aM ?_
  (refine bA rfl (hD2 _ _ _ _ aA aA) ?_;rintro _ _ _ ⟨rfl,v3,v4,rfl,rfl⟩;refine aU ?_)
  refine aO (u:=v3) aA (fun q5 c5 e5 hc5 hz5=>?_)
  subst e5
  unfold iv
  repeat refine aM ?_
  (refine aB rfl (fun _=>aY (pvs:=([vI q4 c4 r.num,vI q5 c5 r.den]).zipIdx.map (fun p=>(p.2,p.1))) (cells:=eR ⟨r,q4,c4,q5,c5⟩) rfl rfl) rfl rfl ?_)
  repeat refine aM ?_
  refine jU (q:=r) (k:=k) (p1:=q4) (c1:=c4) (p2:=q5) (c2:=c5) aA aA (Nat.le_refl _) (Nat.le_refl _) ?_
  refine aR (cs:=eR ⟨r,q4,c4,q5,c5⟩) (.inl rfl) rfl rfl aA rfl M0 (bE ⟨r,q4,c4,q5,c5⟩ k::I0) aK aJ ⟨rfl,⟨r,q4,c4,q5,c5⟩,rfl,rfl,rfl⟩
theorem aJZ {e:RE} {k:Nat} (hk:k≤500000000000) (he:Hv I0 (bE e k)):
  CD Tryz.prog 46 [rv e] X w0 M0 I0 (fun v M I=>M0=M∧I0=I∧v= .bool true):=by
 refine CD.post (K:=fun v M I=>M0=M∧fP (vI e.p1 e.c1 e.q.num) e.q.num k::fP (vI e.p2 e.c2 e.q.den) e.q.den k::I0=I∧v= .bool true) (aAF he ?_) (fun v M I w h hw=>?_)
 case refine_2=>
  obtain ⟨e1,e2,e3⟩:=h
  subst e1;subst e2
  exact ⟨_,_,⟨rfl,rfl,e3⟩,hw.inc (Inc.wk (Inc.wk Inc.refl))⟩
 have hV1:=fun M0 I0 h=>tN (X:=X) (w0:=w0) (M0:=M0) (I0:=I0) (u:=vI e.p1 e.c1 e.q.num) (z:=e.q.num) (k:=k) (by omega) h
 have hV2:=fun M0 I0 h=>tN (X:=X) (w0:=w0) (M0:=M0) (I0:=I0) (u:=vI e.p2 e.c2 e.q.den) (z:=e.q.den) (k:=k) (by omega) h
 have hS:=fun M0 I0=>oU (X:=X) (w0:=w0) (M0:=M0) (I0:=I0) (u:=vI e.p2 e.c2 e.q.den) (z:=e.q.den) (k:=k) (by omega)
 have hs:((e.q.den:Int)).sign=1:=Int.sign_eq_one_of_pos (by have:=e.q.den_nz;omega)
 rw [hs] at hS
 have hG:=fun M0 I0=>aHJ (X:=X) (w0:=w0) (M0:=M0) (I0:=I0) (u:=vI e.p1 e.c1 e.q.num) (v:=vI e.p2 e.c2 e.q.den) (y:=e.q.num) (z:=e.q.den) (k0:=k) (m:=k) (by omega) (by omega)
 rw [aHR] at hG
 have hC:=fun u v M0 I0=>uU (X:=X) (w0:=w0) (M0:=M0) (I0:=I0) (u:=u) (v:=v) (y:=1) (z:=1) (k:=k+k) (m:=63) (by omega) (by omega)
 have hc:dY 1 1=0:=by decide
 rw [hc] at hC
 refine aV Tryz.func46 rfl Tryz.ntmps46 rfl ?_
 refine fG ?_
 refine fQ rfl (fun b=>?_)
 repeat refine aM ?_
 refine dC rfl (hV1 _ _ aA) ?_
 repeat refine aM ?_
 refine dC rfl (hV2 _ _ aA) ?_
 repeat refine aM ?_
 refine dC rfl (hS _ _ aA) ?_
 repeat refine aM ?_
 (refine bA rfl (hG _ _ aA aA) ?_;rintro _ _ _ ⟨rfl,rfl⟩;refine aU ?_)
 repeat refine aM ?_
 (refine bA rfl (aCY (x:=1) (by decide)) ?_;rintro _ _ _ ⟨rfl,rfl⟩;refine aU ?_)
 refine dC rfl (hC _ _ _ _ aA aA) ?_
 repeat refine aM ?_
 refine aT (by first|exact .inl rfl|exact .inr rfl) rfl rfl _ _ aK aJ (⟨rfl,rfl,congrArg Value.bool (bV (by decide))⟩)
end
end Go.Proofs.YthhldplegmeolaaGreat
namespace Go.Proofs.YthhldplegmeolaaGreat
open Go Go.Fx
section
variable {X:List Nat} {w0:World} {M0:List Ent} {I0:List aN}
theorem aLA {f:FuncId} {vs:List Value} {e:RE} {k m:Nat} {q:Rat} {P:Program} (h:Hv I0 (bE e k)) (c:CD P f vs X w0 M0 (fP (vI e.p1 e.c1 e.q.num) e.q.num k::fP (vI e.p2 e.c2 e.q.den) e.q.den k::I0) (RQ q m M0 (fP (vI e.p1 e.c1 e.q.num) e.q.num k::fP (vI e.p2 e.c2 e.q.den) e.q.den k::I0))):CD P f vs X w0 M0 I0 (RQ q m M0 I0):=
 CD.post (aAF h c) (fun v M I w ⟨e1,e2,h2,h3,h4⟩ hw=>by
  subst e1;subst h4
  exact ⟨_,_,⟨rfl,e2,h2,h3,rfl⟩,hw.inc (Inc.cons (List.Mem.head _) (Inc.wk (Inc.wk (Inc.wk Inc.refl))))⟩)
theorem aJL {e:RE} {k:Nat} (hk:k≤500000000000) (he:Hv I0 (bE e k)):
  CD Tryz.prog 88 [rv e] X w0 M0 I0 (RQ e.q k M0 I0):=by
 refine aLA he ?_
 have hN:=fun z u M0 I0=>aGS (X:=X) (w0:=w0) (M0:=M0) (I0:=I0) (u:=u) (z:=z) (k:=k) (by omega)
 have h1:=hN (-e.q.num)
 have h2:=hN (-(e.q.den:Int))
 rw [Int.neg_neg] at h1 h2
 refine aV Tryz.func88 rfl Tryz.ntmps88 rfl ?_
 refine fG ?_
 refine fQ rfl (fun b=>?_)
 refine dG (fun b2=>?_)
 repeat refine aM ?_
 (repeat refine aF ?_);refine aS 3 [0,1,4,5,2,3,6,7,8,9] [4,3,4,3,0,0,0,0,0,0] mixed (by kernel_rfl) ?_
 repeat refine aM ?_
 (refine bA rfl (hN e.q.num _ _ _ aA) ?_;rintro _ _ _ ⟨rfl,rfl⟩;refine aU ?_)
 (refine bA rfl (h1 _ _ _ aA) ?_;rintro _ _ _ ⟨rfl,rfl⟩;refine aU ?_)
 refine aO (z:=e.q.num) (List.Mem.head _) (fun q3 c3 e3 hc3 hz3=>?_)
 subst e3
 unfold iv
 repeat refine aM ?_
 (refine bA rfl (hN e.q.den _ _ _ aA) ?_;rintro _ _ _ ⟨rfl,rfl⟩;refine aU ?_)
 (refine bA rfl (h2 _ _ _ aA) ?_;rintro _ _ _ ⟨rfl,rfl⟩;refine aU ?_)
 refine aO (z:=(e.q.den:Int)) (List.Mem.head _) (fun q4 c4 e4 hc4 hz4=>?_)
 subst e4
 unfold iv
 (refine aB rfl (fun _=>aY (pvs:=([vI q3 c3 e.q.num,vI q4 c4 e.q.den]).zipIdx.map (fun p=>(p.2,p.1))) (cells:=eR ⟨e.q,q3,c3,q4,c4⟩) rfl rfl) rfl rfl ?_)
 repeat refine aM ?_
 refine jU (q:=e.q) (k:=k) (p1:=q3) (c1:=c3) (p2:=q4) (c2:=c4) aA aA (Nat.le_refl _) (Nat.le_refl _) ?_
 refine aR (cs:=eR ⟨e.q,q3,c3,q4,c4⟩) (.inl rfl) rfl rfl aA rfl M0 (bE ⟨e.q,q3,c3,q4,c4⟩ k::_) aK aJ ⟨rfl,⟨e.q,q3,c3,q4,c4⟩,rfl,rfl,rfl⟩
theorem jF {e:RE} {k:Nat} (hk:k≤500000000000) (he:Hv I0 (bE e k)):
  CD Tryz.prog 48 [rv e] X w0 M0 I0 (RQ e.q k M0 I0):=by
 refine aV Tryz.func48 rfl Tryz.ntmps48 rfl ?_
 refine fG ?_
 refine fQ rfl (fun b=>?_)
 refine dG (fun b2=>?_)
 repeat refine aM ?_
 refine dC rfl (aJZ hk he) ?_
 repeat refine aM ?_
 refine gT rfl (aJL hk he) (fun e2 he2=>?_)
 repeat refine aM ?_
 refine aR (cs:=eR e2) (.inl rfl) rfl rfl aA rfl M0 (bE e2 k::I0) aK aJ ⟨rfl,e2,rfl,he2,rfl⟩
theorem kU {x:Int} (hx: -9223372036854775808≤x∧x≤9223372036854775807) {k:Nat} (hk:x.natAbs≤2 ^ k):
  CD Tryz.prog 34 [.int .i64 x] X w0 M0 I0 (RQ (x:Rat) k M0 I0):=by
 have hn:((x:Rat)).num=x:=Rat.num_intCast x
 have hd:(((x:Rat)).den:Int)=1:=by rw [Rat.den_intCast];rfl
 have h1:(1:Int).natAbs≤2 ^ k:=Nat.one_le_two_pow
 obtain ⟨q,hq⟩:∃q:Rat,q=(x:Rat):=⟨_,rfl⟩
 rw [←hq] at hn hd ⊢
 refine aV Tryz.func34 rfl Tryz.ntmps34 rfl ?_
 refine fG ?_
 refine dG (fun b2=>?_)
 repeat refine aM ?_
 (refine bA rfl (aCY hx) ?_;rintro _ _ _ ⟨rfl,rfl⟩;refine aU ?_;refine aO (List.Mem.head _) (fun q3 c3 e__ hc3 hz3=>?_);subst e__)
 unfold iv
 refine lL (k2:=k) (z:=x) (List.Mem.tail _ (List.Mem.head _)) hk ?_
 (refine bA rfl (aCY (x:=1) (by decide)) ?_;rintro _ _ _ ⟨rfl,rfl⟩;refine aU ?_;refine aO (List.Mem.head _) (fun q4 c4 e__ hc4 hz4=>?_);subst e__)
 unfold iv
 refine lL (k2:=k) (z:=1) (List.Mem.tail _ (List.Mem.head _)) h1 ?_
 rw [←hn,←hd]
 (refine aB rfl (fun _=>aY (pvs:=([vI q3 c3 q.num,vI q4 c4 q.den]).zipIdx.map (fun p=>(p.2,p.1))) (cells:=eR ⟨q,q3,c3,q4,c4⟩) rfl rfl) rfl rfl ?_)
 repeat refine aM ?_
 refine jU (q:=q) (k:=k) (p1:=q3) (c1:=c3) (p2:=q4) (c2:=c4) aA aA (Nat.le_refl _) (Nat.le_refl _) ?_
 refine aR (cs:=eR ⟨q,q3,c3,q4,c4⟩) (.inl rfl) rfl rfl aA rfl M0 (bE ⟨q,q3,c3,q4,c4⟩ k::I0) aK aJ ⟨rfl,⟨q,q3,c3,q4,c4⟩,rfl,rfl,rfl⟩
theorem jS {e:RE} {k:Nat} (hk:k≤500000000000) (he:Hv I0 (bE e k)):
  CD Tryz.prog 19 [rv e] X w0 M0 I0 (fun v M I=>M0=M∧I0=I∧v= .int .i64 e.q.num.sign):=by
 refine aV Tryz.func19 rfl Tryz.ntmps19 rfl ?_
 refine fG ?_
 refine fQ rfl (fun b=>?_)
 repeat refine aM ?_
 refine gT rfl (jF hk he) (fun e2 he2=>?_)
 refine aB rfl (fun _=>bQ rfl) rfl rfl ?_
 refine gK (e:=e2) (k:=k) (Hv.mem (List.Mem.head _)) ?_
 refine dC rfl (oU (z:=e2.q.num) (k:=k) (by omega) aA) ?_
 rw [he2]
 repeat refine aM ?_
 refine iZ rfl rfl (⟨rfl,rfl,rfl⟩)
theorem aIH {e:RE} {k:Nat} (hk:k≤500000000000) (he:Hv I0 (bE e k)):
  CD Tryz.prog 79 [rv e] X w0 M0 I0 (RQ (-e.q) k M0 I0):=by
 refine aV Tryz.func79 rfl Tryz.ntmps79 rfl ?_
 refine fG ?_
 refine fQ rfl (fun b=>?_)
 refine dG (fun b2=>?_)
 repeat refine aM ?_
 refine gT rfl (jF hk he) (fun e2 he2=>?_)
 refine gK (e:=e2) (k:=k) (Hv.mem (List.Mem.head _)) ?_
 rw [←he2]
 have hN:=fun M0 I0=>aGS (X:=X) (w0:=w0) (M0:=M0) (I0:=I0) (u:=vI e2.p1 e2.c1 e2.q.num) (z:=e2.q.num) (k:=k) (by omega)
 rw [←Rat.neg_num] at hN
 have hd:((e2.q.den:Int))=((-e2.q).den:Int):=by rw [Rat.neg_den]
 repeat refine aM ?_
 (repeat refine aF ?_);refine aS 1 [0,1,3,4,2,5,6] [1,0,1,1,0,0,0] mixed (by kernel_rfl) ?_
 repeat refine aM ?_
 (refine bA rfl (hN _ _ aA) ?_;rintro _ _ _ ⟨rfl,rfl⟩;refine aU ?_;refine aO (List.Mem.head _) (fun q3 c3 e__ hc3 hz3=>?_);subst e__)
 unfold iv
 rw [hd]
 (refine aB rfl (fun _=>aY (pvs:=([vI q3 c3 (-e2.q).num,vI e2.p2 e2.c2 (-e2.q).den]).zipIdx.map (fun p=>(p.2,p.1))) (cells:=eR ⟨-e2.q,q3,c3,e2.p2,e2.c2⟩) rfl rfl) rfl rfl ?_)
 repeat refine aM ?_
 refine jU (q:= -e2.q) (k:=k) (p1:=q3) (c1:=c3) (p2:=e2.p2) (c2:=e2.c2) aA aA (Nat.le_refl _) (Nat.le_refl _) ?_
 refine aR (cs:=eR ⟨-e2.q,q3,c3,e2.p2,e2.c2⟩) (.inl rfl) rfl rfl aA rfl M0 (bE ⟨-e2.q,q3,c3,e2.p2,e2.c2⟩ k::I0) aK aJ ⟨rfl,⟨-e2.q,q3,c3,e2.p2,e2.c2⟩,rfl,rfl,rfl⟩
end
end Go.Proofs.YthhldplegmeolaaGreat

/- The symbolic heap, continued: regions with stores behind all reads, cells with a tail, row -/
import Derived.Test.YtgpkjcmipiodcaaGreatZwad
import Derived.Scope
import Derived.OrdersIn
import Derived.RangeFuncCalls
import Derived.RangeFuncWrites
import Derived.RangeFuncBound
import Derived.Below
set_option linter.unusedSimpArgs false
set_option linter.unusedVariables false
set_option maxRecDepth 100000
set_option maxHeartbeats 4000000
namespace Go.Fx
def Cs1 (X:List Nat) (w0:World) (M:List Ent) (I:List aV):Nat→World→Prop
 |0,w=>Mem X w0 M I w
 |_+1,_=>True
section
variable {P:Program} {n:Nat} {Q Q':Exit→Act→World→Prop} {G:Env} {X:List Nat} {w0:World} {M M' M1:List Ent} {I I' I1:List aV}
theorem View.one {k:Nat} {ms:List Nat} (h:k+ms.headD 0=0):View (.any (Cs1 X w0 M1 I1) k ms) X w0 M I M1 I1:=⟨fun w w' _ hc=>by
 have hc':Cs1 X w0 M1 I1 (k+ms.headD 0) w':=hc
 rw [h] at hc'
 exact hc'⟩
theorem OkD.one {k:Nat} {ms:List Nat}:OkD (.any (Cs1 X w0 M1 I1) k ms) X w0 M I:=⟨fun _ _=>True.intro⟩
/- cells with a tail -/
theorem At.app {cs tl:List Value} {o:Nat} {v:Value} (h:At cs o v):At (cs++tl) o v:=⟨by
 have:=h.get
 rw [List.getElem?_append_left (List.getElem?_eq_some_iff.1 this).1];exact this⟩
theorem Ats.app {cs tl vs:List Value} {o:Nat} (h:Ats cs o vs):Ats (cs++tl) o vs:=⟨fun j v hj=>by
 have:=h.get j v hj
 rw [List.getElem?_append_left (List.getElem?_eq_some_iff.1 this).1];exact this⟩
theorem StAt.app {cs cs' tl:List Value} {o:Nat} {v:Value} (h:StAt cs o v cs'):StAt (cs++tl) o v (cs'++tl):=by
 obtain ⟨h1,h2⟩:=h.out
 exact ⟨by rw [List.set_append_left _ _ h2,h1],by rw [List.length_append];omega⟩
theorem StAts.app {cs cs' tl vs:List Value} {o:Nat} (h:StAts cs o vs cs'):StAts (cs++tl) o vs (cs'++tl):=by
 obtain ⟨h1,h2⟩:=h.out
 refine ⟨?_,by rw [List.length_append];omega⟩
 unfold splice at*
 rw [List.take_append_of_le_length (by omega),List.drop_append_of_le_length (by omega),←h1]
 simp
theorem Mem.rowBlk {w:World} {a:Option Addr} {mm c:Nat} {cs:List Value} {e:TypeId} {sz:Nat} (h:Mem X w0 (.row a mm c cs e sz::M) I w):(a=none∧mm=0∧cs=[])∨∃b tl,a=some ⟨b,0,none⟩∧mm≤c∧Mem X w0 (.blk b (cs++tl) e::M) I w:=by
 have ho:w.ownsRow 0 e sz (.slice a mm c) mm cs:=h.ent _ List.mem_cons_self
 rcases ho.2 with ⟨h1,h2⟩|⟨g,cap,cur,hv,_,hg,hmc,_,hsz,htake⟩
 ·injection h1 with e1 e2 e3
  exact .inl ⟨e1,h2,List.eq_nil_of_length_eq_zero (by rw [ho.1,h2];simp)⟩
 ·injection hv with e1 e2 e3
  subst e1;subst e3
  refine .inr ⟨g,cur.toList.drop (mm*sz),rfl,hmc,?_⟩
  have hcs:cs++cur.toList.drop (mm*sz)=cur.toList:=by rw [←htake,List.take_append_drop]
  rw [hcs]
  refine h.upd (en:= .row (some ⟨g,0,none⟩) mm c cs e sz) (en':= .blk g cur.toList e) .here (Ext.refl _ _) (fun b hb=> .inl (by simpa [Ent.blocks] using hb)) (by simp [Ent.blocks]) ?_
  show Blk w g cur.toList e
  simpa [Blk] using hg
theorem aRB {c':Code} {a:Option Addr} {mm c:Nat} {cs:List Value} {e:TypeId} {sz:Nat} (h0:a=none→mm=0→cs=[]→TD P n c' Q G X w0 (.row a mm c cs e sz::M) I) (h1:∀b tl,a=some ⟨b,0,none⟩→mm≤c→TD P n c' Q G X w0 (.blk b (cs++tl) e::M) I):TD P n c' Q G X w0 (.row a mm c cs e sz::M) I:=
 ⟨fun w hw=>by
  rcases hw.rowBlk with ⟨e1,e2,e3⟩|⟨b,tl,e1,e2,hm⟩
  ·exact (h0 e1 e2 e3).go w hw
  ·exact (h1 b tl e1 e2).go w hm⟩
theorem aQH {ops l:List Oper} {m:Mode} {a:Option Addr} {mm c:Nat} {cs:List Value} {e:TypeId} {sz:Nat} (h0:a=none→mm=0→cs=[]→RD P n ops Q m l G X w0 (.row a mm c cs e sz::M) I) (h1:∀b tl,a=some ⟨b,0,none⟩→mm≤c→RD P n ops Q m l G X w0 (.blk b (cs++tl) e::M) I):RD P n ops Q m l G X w0 (.row a mm c cs e sz::M) I:=
 ⟨fun w hw=>by
  rcases hw.rowBlk with ⟨e1,e2,e3⟩|⟨b,tl,e1,e2,hm⟩
  ·exact (h0 e1 e2 e3).go w hw
  ·exact (h1 b tl e1 e2).go w hm⟩
theorem Mem.takeI {w:World} {a:Option Addr} {cs tl:List Value} (h:Mem X w0 M I w) (hm:aI a (cs++tl)∈I):Mem X w0 M (aI a cs::I) w:=
 h.add (φ:=aI a cs) ⟨by
  have:=(h.sl hm).take cs.length
  rwa [List.take_left] at this⟩
theorem aIW {ops l:List Oper} {m:Mode} {a:Option Addr} {cs tl:List Value} (hm:aI a (cs++tl)∈I) (h:RD P n ops Q m l G X w0 M (aI a cs::I)):RD P n ops Q m l G X w0 M I:=xU (fun _ hw=>hw.takeI hm) h
theorem aOE {φ:Prop} {ex:Exit} (h:∀w,Mem X w0 M I w→φ) (k:φ→ND n Q ex G X w0 M I):ND n Q ex G X w0 M I:=⟨fun w hw=>(k (h w hw)).go w hw⟩
theorem xH {φ:Prop} {c:Code} (h:∀w,Mem X w0 M I w→φ) (k:φ→TD P n c Q G X w0 M I):TD P n c Q G X w0 M I:=⟨fun w hw=>(k (h w hw)).go w hw⟩
theorem qK {φ:Prop} {ops l:List Oper} {m:Mode} (h:∀w,Mem X w0 M I w→φ) (k:φ→RD P n ops Q m l G X w0 M I):RD P n ops Q m l G X w0 M I:=⟨fun w hw=>(k (h w hw)).go w hw⟩
theorem CD.sub {f:FuncId} {vs:List Value} {K:Value→List Ent→List aV→Prop} (hM:SubP M M') (h:CD P f vs X w0 M' I K):CD P f vs X w0 M I K:=h.weak hM .refl
theorem fZ {C:World→Prop} {ty:TypeId} {t t':TypeId} {x y:Operand} {k k':IntKind} {a:Int} (hx:ev G x=some (.int k a)) (hy:ev G y=some (.int k' 1)):Const P n G (.binOp .shr t x y t') ty C (.int k (a / 2)):=by
 refine aJB hx hy (by omega) (.inr ⟨rfl,?_⟩)
 have:min ((1:Int).toNat) k.bits=1:=by cases k <;>decide
 rw [this,Int.fdiv_eq_ediv_of_nonneg _ (by decide)]
 rfl
theorem fU {C:World→Prop} {ty:TypeId} {t:TypeId} {x:Operand} {p:Prop} [Decidable p] (hx:ev G x=some (.bool (B p))):Const P n G (.unOp .not t x) ty C (.bool (B (¬p))):=by
 have:=bP (P:=P) (n:=n) (G:=G) (ty:=ty) (C:=C) (op:= .unOp .not t x) (v:= .bool (!(B p))) (by simp [aBK,hx])
 rwa [show (!(B p))=B (¬p) by rw [rZ,rZ];simp] at this
theorem jF {ops l:List Oper} {m:Mode} {ty:TypeId} {pos:String} {af:Array Edge} {g:Option (Nat × Bool)} {d:Nat} {t:TypeId} {x:Operand} {b o:Nat} {cs:List Value} {v:Value} [ScalarTy P t] (hv:View m X w0 M I M1 I1) (hx:ev G x=some (.pointer (some ⟨b,o,none⟩))) (hm:aI (some ⟨b,0,none⟩) cs∈I1) (hc:At cs o v) (hg:nX ops G g=some true)
  (hd:Nat.ble (d+1) n=true) (k:RD P n ops Q m.next l ((d,v)::G) X w0 M I):RD P n ops Q m (⟨some d, .load t x,ty,pos,af,g⟩::l) G X w0 M I:=
 aEP hv hg (fun w hw=>uM hx (fun w' e=>by
  subst e
  have:=(hw.sl hm).cell hc.get
  simpa [pt,bl,of] using this)) rfl hd k
theorem pQ {ops l:List Oper} {m:Mode} {ty:TypeId} {pos:String} {af:Array Edge} {g:Option (Nat × Bool)} {d:Nat} {t:TypeId} {sz:Nat} {x:Operand} {b o:Nat} {cs vs:List Value} [AggTy P t sz] (hv:View m X w0 M I M1 I1) (hx:ev G x=some (.pointer (some ⟨b,o,none⟩))) (hm:aI (some ⟨b,0,none⟩) cs∈I1) (hc:Ats cs o vs) (hl:vs.length=sz) (hg:nX ops G g=some true)
  (hd:Nat.ble (d+1) n=true) (k:RD P n ops Q m.next l ((d, .agg vs.toArray)::G) X w0 M I):RD P n ops Q m (⟨some d, .load t x,ty,pos,af,g⟩::l) G X w0 M I:=
 aEP hv hg (fun w hw=>sH hx hl (fun w' e=>by
  subst e
  have:=Sl.rowAt (hw.sl hm) o vs hc.get
  simpa [bl,of] using this)) rfl hd k
end
end Go.Fx
namespace Go.Fx
section
variable {P:Program} {n:Nat} {Q Q':Exit→Act→World→Prop} {G:Env} {X:List Nat} {w0:World} {M M' M1:List Ent} {I I' I1:List aV}
theorem aQD {id:Nat} {l:List Oper} (Ms:List Ent) (Is:List aV) (p ms:List Nat) (hM:SubP M Ms) (hI:Inc I Is) (hx:P.follows .mixedOrders=true)
  (hp:(Region.noSelect l.toArray && iP l.toArray p ms (Array.replicate l.length false) && p.length==l.length)=true)
  (h:RD P n l Q (.any (vL X w0 Ms Is) 0 ms) (pick l p) G X w0 M I):TD P n (.region id l.toArray true) Q G X w0 M I:=
 xE (vL X w0 Ms Is) p ms hx (fun _ _ h=>h) hp (fun _ h=>h.weak hM hI) h
/- slices from the start -/
theorem uP {C:World→Prop} {ty t e:TypeId} {sz:Nat} {x y:Operand} {b o len c:Nat} {k:IntKind} {i:Int} (h:Nat) [ht:SliceTy P t e sz] (hx:ev G x=some (.slice (some ⟨b,o,none⟩) len c)) (hy:ev G y=some (.int k i)) (hi:i=h) (h2:h≤c):
  Const P n G (.slice t x none (some y) none) ty C (.slice (some ⟨b,o,none⟩) h c):=by
 subst hi
 refine ⟨?_⟩
 intro st ha dst pos after guard w _
 by_cases h0:c=0
 ·have hh:h=0:=by omega
  simp [execOp,Instr.sliceAt,Instr.slice,ha.ev hx,dM ht.und,run_sizeOf ht.size,Instr.sliceBounds,Instr.sliceBound,asIntOf,ha.ev hy,h0,hh]
 ·simp [execOp,Instr.sliceAt,Instr.slice,ha.ev hx,dM ht.und,run_sizeOf ht.size,Instr.sliceBounds,Instr.sliceBound,asIntOf,ha.ev hy,h2,h0,add_lit]
end
end Go.Fx
namespace Go.Fx
@[irreducible] def NoG (Q:Exit→Act→World→Prop):Exit→Act→World→Prop:=Exit.noGoto Q
section
variable {P:Program} {n:Nat} {Q Q':Exit→Act→World→Prop} {G:Env} {X:List Nat} {w0:World} {M M' M1:List Ent} {I I' I1:List aV}
theorem aES {fn:Func} {a:Tmp} {t:TypeId} {sz:Nat} {tmps:Array Value} {w:World} {b:Nat} {cs:List Value} {e:TypeId} [ht:AggTy P t sz] (h:fn.results=#[.cell a t]) (hb:tmps.getD a undef= .pointer (some ⟨b,0,none⟩)) (hB:Blk w b cs e) (hl:cs.length=sz):
  (results fn tmps).run P w= .ok (.agg cs.toArray) w:=by
 have:=run_loadCellsFrom (P:=P) cs (hB.row0) sz 0 #[] (by omega) rfl
 have hb':tmps[a]?.getD undef= .pointer (some ⟨b,0,none⟩):=by simpa using hb
 simp [results,h,hb',asAddr,loadVar,jS,run_sizeOf ht.size,loadCells,this]
theorem aEM {fn:Func} {a:Tmp} {t:TypeId} {tmps:Array Value} {w:World} {b:Nat} {v:Value} {e:TypeId} [ht:ScalarTy P t] (h:fn.results=#[.cell a t]) (hb:tmps.getD a undef= .pointer (some ⟨b,0,none⟩)) (hB:Blk w b [v] e):
  (results fn tmps).run P w= .ok v w:=by
 have hc:=hB.cell (o:=0) rfl
 have hb':tmps[a]?.getD undef= .pointer (some ⟨b,0,none⟩):=by simpa using hb
 simp [results,h,hb',asAddr,loadVar,kZ,hc]
theorem bA {fn:Func} {K:Value→List Ent→List aV→Prop} {ex:Exit} {a:Tmp} {t:TypeId} {sz b:Nat} {cs:List Value} {e:TypeId} [AggTy P t sz] (he:ex= .ret∨ex= .normal) (hr:fn.results=#[.cell a t]) (hv:lk G a=some (.pointer (some ⟨b,0,none⟩))) (hm: .blk b cs e∈M) (hl:cs.length=sz) (M':List Ent) (I':List aV) (hM:SubP M M') (hI:Inc I I') (h:K (.agg cs.toArray) M' I'):
  ND n (Body P fn (KB K X w0)) ex G X w0 M I:=⟨fun w hw=>⟨fun act ha=>by
 unfold Body
 have e1:act.tmps.getD a undef= .pointer (some ⟨b,0,none⟩):=by simp [ha.get a _ hv]
 have e2:=aES (P:=P) (t:=t) hr e1 (hw.blk hm) hl
 rcases he with rfl|rfl <;>exact ⟨ha.defers,_,e2,_,rfl,M',I',h,hw.weak hM hI⟩⟩⟩
theorem aGB {C:World→Prop} {ty t t':TypeId} {x y:Operand} {α:Type} {enc:α→List Value} {ints:α→List Int} {a b:α} {m:Nat} [ht:IntStruct P t m] (he:∀u,enc u=sW (ints u)) (hinj:∀u v,ints u=ints v→u=v) (hl:∀u,(ints u).length=m) (hd:Decidable (a=b)) (hx:ev G x=some (.agg (enc a).toArray)) (hy:ev G y=some (.agg (enc b).toArray)):
  Const P n G (.binOp .eql t x y t') ty C (.bool (@B (a=b) hd)):=by
 rw [he] at hx hy
 have:=aQL (t:=t) (P:=P) (n:=n) (G:=G) (ty:=ty) (C:=C) (t':=t') hx hy (hl a) (hl b)
 rwa [gU (show ints a=ints b↔a=b from ⟨hinj a b,fun h=>by rw [h]⟩)] at this
end
end Go.Fx
namespace Go.Fx
section
variable {P:Program} {n:Nat} {Q:Exit→Act→World→Prop} {G G':Env} {X:List Nat} {w0:World} {M M' M1:List Ent} {I I' I1:List aV} {m:Mode} {a b:Ent} {φ:aV} {cs cs' vs:List Value} {o sz:Nat} {v:Value} {x y:Int} {kk:IntKind} {α:Type} {aa:α} {ll:List α}
theorem bX (h:SubP M M':=by repeat (first|exact SubP.refl|exact SubP.nil|refine SubP.cons (by first|exact .here|exact .there .here|exact .there (.there .here)|exact .there (.there (.there .here))|exact .there (.there (.there (.there .here)))|exact .there (.there (.there (.there (.there .here))))|exact .there (.there (.there (.there (.there (.there .here)))))|exact .there (.there (.there (.there (.there (.there (.there .here))))))|exact .there (.there (.there (.there (.there (.there (.there (.there .here)))))))) ?_|refine SubP.drop ?_)):SubP M M':=h
theorem bV (h:Inc I I':=by repeat (first|exact Inc.refl|exact Inc.nil|refine Inc.cons (by repeat (first|exact List.Mem.head _|assumption|refine List.Mem.tail _ ?_)) ?_|refine Inc.wk ?_)):Inc I I':=h
theorem sQ (h:Rep a b M M':=by first|exact .here|exact .there .here|exact .there (.there .here)|exact .there (.there (.there .here))|exact .there (.there (.there (.there .here)))|exact .there (.there (.there (.there (.there .here))))|exact .there (.there (.there (.there (.there (.there .here)))))|exact .there (.there (.there (.there (.there (.there (.there .here))))))|exact .there (.there (.there (.there (.there (.there (.there (.there .here)))))))|assumption):Rep a b M M':=h
theorem yI (h:Rem a M M':=by first|exact .here|exact .there .here|exact .there (.there .here)|exact .there (.there (.there .here))|exact .there (.there (.there (.there .here)))|exact .there (.there (.there (.there (.there .here))))|exact .there (.there (.there (.there (.there (.there .here)))))|exact .there (.there (.there (.there (.there (.there (.there .here))))))|exact .there (.there (.there (.there (.there (.there (.there (.there .here)))))))):Rem a M M':=h
theorem aY (h:aa∈ll:=by repeat (first|exact List.Mem.head _|assumption|refine List.Mem.tail _ ?_)):aa∈ll:=h
theorem okD (h:OkD m X w0 M I:=by first|exact OkD.seq|exact OkD.one|exact OkD.any (by repeat (first|exact SubP.refl|exact SubP.nil|refine SubP.cons (by first|exact .here|exact .there .here|exact .there (.there .here)|exact .there (.there (.there .here))|exact .there (.there (.there (.there .here)))|exact .there (.there (.there (.there (.there .here))))|exact .there (.there (.there (.there (.there (.there .here)))))|exact .there (.there (.there (.there (.there (.there (.there .here))))))|exact .there (.there (.there (.there (.there (.there (.there (.there .here)))))))) ?_|refine SubP.drop ?_)) (by repeat (first|exact Inc.refl|exact Inc.nil|refine Inc.cons (by repeat (first|exact List.Mem.head _|assumption|refine List.Mem.tail _ ?_)) ?_|refine Inc.wk ?_))):OkD m X w0 M I:=h
theorem vwX (h:View m X w0 M I M1 I1:=by first|exact View.seq|exact View.any|exact View.one rfl):View m X w0 M I M1 I1:=h
theorem xQ (h:At cs o v:=by first|exact At.r1 (by first|omega|(simp only [dB,List.length_replicate,List.length_append];omega)) rfl|exact At.r2 (by first|omega|(simp only [dB,List.length_replicate,List.length_append];omega)) rfl|exact At.mk rfl|exact At.app (At.r1 (by first|omega|(simp only [dB,List.length_replicate,List.length_append];omega)) rfl)|exact At.app (At.r2 (by first|omega|(simp only [dB,List.length_replicate,List.length_append];omega)) rfl)):At cs o v:=h
theorem nL (h:Ats cs o vs:=by first|exact Ats.r (by first|omega|(simp only [dB,List.length_replicate,List.length_append];omega))|exact Ats.all|exact Ats.app (Ats.r (by first|omega|(simp only [dB,List.length_replicate,List.length_append];omega)))|exact Ats.lit rfl):Ats cs o vs:=h
theorem stC (h:StAt cs o v cs':=by first|exact StAt.r1 _ (by first|omega|(simp only [dB,List.length_replicate,List.length_append];omega)) rfl|exact StAt.app (StAt.r1 _ (by first|omega|(simp only [dB,List.length_replicate,List.length_append];omega)) rfl)|exact StAt.mk (by first|(dsimp only [List.set];done)|(dsimp only [List.set];rfl)) (by simp)):StAt cs o v cs':=h
theorem aBS (h:StAts cs o vs cs':=by first|exact StAts.r _ (by first|omega|(simp only [dB,List.length_replicate,List.length_append];omega)) rfl|exact StAts.app (StAts.r _ (by first|omega|(simp only [dB,List.length_replicate,List.length_append];omega)) rfl)|exact StAts.all (by first|rfl|simp)):StAts cs o vs cs':=h
theorem nQ (h:0 < cs.length:=by rw [fJ];omega):0 < cs.length:=h
theorem jR (h:vs.length=sz:=by first|rfl|exact Sized.len _):vs.length=sz:=h
theorem nU (h:∀u∈vs,u.oneCell'=true:=by first|exact Ones.one _|(intro u hu;repeat (first|exact absurd hu (List.not_mem_nil)|(rcases List.mem_cons.1 hu with rfl|hu; · rfl)))):∀u∈vs,u.oneCell'=true:=h
theorem dS (h:Sub G G':=by repeat (first|exact Sub.nil|refine Sub.cons rfl rfl ?_)):Sub G G':=h
theorem jH (h:0≤x∧x < y:=by first|omega|(simp only [dB,List.length_replicate,List.length_append];omega)):0≤x∧x < y:=h
theorem w_ (h:kk.wrap x=y:=by first|exact wrap_i64 (by first|omega|assumption)|exact wrap_u64 (by first|omega|assumption)|exact wrap_u32 (by first|omega|assumption)|exact wrap_u8 (by omega)):kk.wrap x=y:=h
theorem q_ (h:kk.wrap x=y:=by first|exact aOH (by omega)|exact aNJ (by omega) (by omega)):kk.wrap x=y:=h
end
end Go.Fx
namespace Go.Fx
def CsJ (J:Nat) (X:List Nat) (w0:World) (M:List Ent) (I:List aV):Nat→World→Prop:=fun s w=>s≤J→Mem X w0 M I w
section
variable {P:Program} {n:Nat} {Q Q':Exit→Act→World→Prop} {G:Env} {X:List Nat} {w0:World} {M M' M1:List Ent} {I I' I1:List aV}
theorem aO {id:Nat} {l:List Oper} (J:Nat) (p ms:List Nat) (hx:P.follows .mixedOrders=true)
  (hp:(Region.noSelect l.toArray && iP l.toArray p ms (Array.replicate l.length false) && p.length==l.length)=true)
  (h:RD P n l Q (.any (CsJ J X w0 M I) 0 ms) (pick l p) G X w0 M I):TD P n (.region id l.toArray true) Q G X w0 M I:=
 xE (CsJ J X w0 M I) p ms hx (fun s w h hs=>h (by omega)) hp (fun _ h _=>h) h
theorem View.upto {J k:Nat} {ms:List Nat} (h:k+ms.headD 0≤J):View (.any (CsJ J X w0 M1 I1) k ms) X w0 M I M1 I1:=⟨fun w w' _ hc=>by
 have hc':CsJ J X w0 M1 I1 (k+ms.headD 0) w':=hc
 exact hc' h⟩
theorem OkD.uptoN {J k:Nat} {ms:List Nat} (h:J≤k):OkD (.any (CsJ J X w0 M1 I1) k ms) X w0 M I:=⟨fun w _=>by
 show CsJ J X w0 M1 I1 (k+1) w
 intro hs
 omega⟩
theorem OkD.uptoY {J k:Nat} {ms:List Nat} (hM:SubP M M1) (hI:Inc I I1):OkD (.any (CsJ J X w0 M1 I1) k ms) X w0 M I:=⟨fun w hw=>by
 show CsJ J X w0 M1 I1 (k+1) w
 exact fun _=>hw.weak hM hI⟩
theorem vwJ {m:Mode} (h:View m X w0 M I M1 I1:=by first|exact View.seq|exact View.any|exact View.one rfl|exact View.upto (by decide)):View m X w0 M I M1 I1:=h
theorem okJ {m:Mode} (h:OkD m X w0 M I:=by first|exact OkD.seq|exact OkD.one|exact OkD.any bX bV|exact OkD.uptoN (by decide)|exact OkD.uptoY bX bV):OkD m X w0 M I:=h
/- lending: what a function owns, lent to a callee that only reads -/
theorem Mem.lendB {w:World} {b:Nat} {cs:List Value} {e:TypeId} {I2:List aV} (hm: .blk b cs e∈M) (hw:Mem X w0 M I w) (h:Mem [] w [] I2 w):Mem [] w [] (aI (some ⟨b,0,none⟩) cs::I2) w:=
 h.add (φ:=aI (some ⟨b,0,none⟩) cs) ⟨Blk.sl (X:=muts []) (hw.blk hm) (by simp [muts]) 0 (fun j v hj=>by simpa using hj)⟩
theorem CD.lend {f:FuncId} {vs:List Value} {K:Value→Prop} (I2:List aV) (hI:∀w,Mem X w0 M I w→Mem [] w [] I2 w) (hc:∀W,CD P f vs [] W [] I2 (fun v _ _=>K v)):CD P f vs X w0 M I (fun v M' I'=>M=M'∧I=I'∧K v):=
 ⟨fun w hw=>((hc w).go w (hI w hw)).mono (fun _ _ ⟨_,_,hk,hm⟩=>⟨M,I,⟨rfl,rfl,hk⟩,hw.call hm.ext⟩)⟩
theorem CD.val {f:FuncId} {vs:List Value} {K:Value→Prop} (h:CD P f vs X w0 M I (fun v M' I'=>M=M'∧I=I'∧K v)):CD P f vs X w0 M I (fun v _ _=>K v):=h.mono (fun _ _ _ h=>h.2.2)
end
end Go.Fx
namespace Go.Fx
section
variable {α:Type} {enc:α→List Value} {sz:Nat}
theorem aGD [h:Sized enc sz]:∀(ms:List α) (l:Nat),recs enc (ms.drop l)=(recs enc ms).drop (l*sz)
 |ms,0=>by simp
 |[],l+1=>by simp [recs]
 |m::r,l+1=>by
  have e:recs enc (m::r)=enc m++recs enc r:=rfl
  have h1:(l+1)*sz=(enc m).length+l*sz:=by rw [h.len,Nat.add_mul];omega
  rw [List.drop_succ_cons,aGD r l,e,h1,List.drop_append,List.drop_of_length_le (show (enc m).length≤(enc m).length+l*sz by omega)]
  simp
theorem aFE [h:Sized enc sz]:∀(ms:List α) (l:Nat),recs enc (ms.take l)=(recs enc ms).take (l*sz)
 |ms,0=>by simp [recs]
 |[],l+1=>by simp [recs]
 |m::r,l+1=>by
  have e:recs enc (m::r)=enc m++recs enc r:=rfl
  have e2:recs enc ((m::r).take (l+1))=enc m++recs enc (r.take l):=rfl
  have h1:(l+1)*sz=(enc m).length+l*sz:=by rw [h.len,Nat.add_mul];omega
  rw [e2,aFE r l,e,h1,List.take_append,List.take_of_length_le (show (enc m).length≤(enc m).length+l*sz by omega)]
  simp
end
section
variable {P:Program} {n:Nat} {Q Q':Exit→Act→World→Prop} {G:Env} {X:List Nat} {w0:World} {M M' M1:List Ent} {I I' I1:List aV}
theorem Mem.cutI {α:Type} {enc:α→List Value} {sz:Nat} [hz:Sized enc sz] {w:World} {a:Option Addr} {ms:List α} (c l m:Nat) (h:Mem X w0 M I w) (hm:aI a (recs enc ms)∈I) (hc:ms.length≤c):Mem X w0 M (aI (aET a c l sz) (recs enc ((ms.take m).drop l))::I) w:=
 h.add (φ:=aI _ _) ⟨by
  rw [aGD,aFE]
  exact (h.sl hm).cut c l (m*sz) sz (by rw [fJ];exact Nat.mul_le_mul_right _ hc)⟩
theorem aYR {α:Type} {enc:α→List Value} {sz:Nat} [hz:Sized enc sz] {ops l:List Oper} {m:Mode} {a:Option Addr} {ms:List α} (c lo hi:Nat) (hm:aI a (recs enc ms)∈I) (hc:ms.length≤c) (h:RD P n ops Q m l G X w0 M (aI (aET a c lo sz) (recs enc ((ms.take hi).drop lo))::I)):RD P n ops Q m l G X w0 M I:=xU (fun _ hw=>hw.cutI c lo hi hm hc) h
theorem aFK {C:World→Prop} {ty t e:TypeId} {sz:Nat} {x:Operand} {lo hi:Option Operand} {a:Option Addr} {len c:Nat} (l h k:Nat) [ht:SliceTy P t e sz] (hx:ev G x=some (.slice a len c))
  (hl:(lo=none∧l=0)∨∃y k i,lo=some y∧ev G y=some (.int k i)∧i=(l:Int)) (hh:(hi=none∧h=len)∨∃y k i,hi=some y∧ev G y=some (.int k i)∧i=(h:Int)) (h1:l≤h) (h2:h≤c) (hk:h - l=k):
  Const P n G (.slice t x lo hi none) ty C (.slice (aET a c l sz) k (c - l)):=by
 subst hk
 exact aIY hx (hl.imp id (fun ⟨y,k,i,h1,h2,h3⟩=>⟨y,k,h1,by rw [←h3];exact h2⟩)) (hh.imp id (fun ⟨y,k,i,h1,h2,h3⟩=>⟨y,k,h1,by rw [←h3];exact h2⟩)) h1 h2
theorem aCE {ex:Exit} (e:TypeId) (sz:Nat) (h:ND n Q ex G X w0 (.row none 0 0 [] e sz::M) I):ND n Q ex G X w0 M I:=aBR (fun _ hw=>hw.row0 e sz) h
theorem jC {ops l:List Oper} {m:Mode} {b mm:Nat} {cs:List Value} {e:TypeId} (sz:Nat) (hr:Rep (.blk b cs e) (.row (some ⟨b,0,none⟩) mm mm cs e sz) M M') (hl:cs.length=mm*sz) (hm:mm≤9223372036854775807) (h:RD P n ops Q m l G X w0 M' I):RD P n ops Q m l G X w0 M I:=xU (fun _ hw=>hw.toRow sz hr hl hm) h
theorem CD.post {f:FuncId} {vs:List Value} {K K':Value→List Ent→List aV→Prop} (h:CD P f vs X w0 M I K) (hk:∀v M1 I1 w,K v M1 I1→Mem X w0 M1 I1 w→∃M2 I2,K' v M2 I2∧Mem X w0 M2 I2 w):CD P f vs X w0 M I K':=
 ⟨fun w hw=>(h.go w hw).mono (fun _ _ ⟨_,_,h1,h2⟩=>hk _ _ _ _ h1 h2)⟩
theorem CD.pre {f:FuncId} {vs:List Value} {K:Value→List Ent→List aV→Prop} (hM:∀w,Mem X w0 M I w→Mem X w0 M' I' w) (h:CD P f vs X w0 M' I' K):CD P f vs X w0 M I K:=⟨fun w hw=>h.go w (hM w hw)⟩
/- two operations that change the world, in either order -/
theorem gT {C:World→Prop} {ty t t':TypeId} {x y:Operand} {p q:Prop} [Decidable p] [Decidable q] [ht:BoolTy P t] (hx:ev G x=some (.bool (B p))) (hy:ev G y=some (.bool (B q))):
  Const P n G (.binOp .neq t x y t') ty C (.bool (B (¬(p↔q)))):=by
 refine ⟨?_⟩
 intro s ha dst pos after guard w _
 have h:(!(B p==B q))=B (¬(p↔q)):=by
  rw [rZ,rZ,rZ]
  by_cases hp:p <;>by_cases hq:q <;>simp [hp,hq]
 have e1:(eqGuard .neq t x y (.bool (B p)) (.bool (B q))).run P w= .ok () w:=rfl
 simp only [execOp,ha.ev hx,ha.ev hy,Sem.run_bind,e1,Result.andThen_ok,run_neq_bool _ t (B p) (B q) ht.und,Sem.run_pure,h]
theorem Mem.rowLe {w:World} {a:Option Addr} {m c:Nat} {cs:List Value} {e:TypeId} {sz:Nat} (h:Mem X w0 M I w) (hm: .row a m c cs e sz∈M):m≤c:=by
 have ho:w.ownsRow 0 e sz (.slice a m c) m cs:=h.ent _ hm
 obtain ⟨a',c',hv,_,_,hle⟩:=aGW ho
 injection hv with e1 e2 e3
 subst e3
 exact hle
end
end Go.Fx
namespace Go.Fx
open Go
section
variable {P:Program} {l0 n:Nat} {Q:Exit→Act→World→Prop} {ops:Array Oper}
theorem opIn {o:Oper} {a:Act} {w:World} {K:Act→World→Prop} (hd:∀c,o.op≠ .defer c) (h:o.wp P a w K Q):o.wpIn (Fence.wide.inRound l0) n P a w K Q:=by
 unfold Oper.wpIn
 refine ⟨fun _ _=>trivial,?_⟩
 rw [Fence.inRound_round,Oper.semAt_eq _ _ _ hd]
 unfold Oper.wp at h
 generalize (execOp a.eval o).run P w=r at h ⊢
 cases r with
 |ok x w'=>
  cases x with
  |enter f args=>exact ⟨fun h=>by simp [Fence.wide,Fence.inRound] at h,CallsIn.inRound l0 (callsIn_wide.2 h)⟩
  |row row args=>exact ⟨fun h=>by simp [Fence.wide,Fence.inRound] at h,fun c cs _=>let ⟨v,w',r,s⟩:=h c cs;⟨v,w',r,stepsIn_wide.2 s⟩⟩
  |_=>first|exact h|exact h.elim
 |halt x w'=>cases x <;>first|exact h|exact h.elim
def wU (o:Oper):Bool:=match o.op with| .defer _=>false|_=>true
theorem aLS {o:Oper} (h:wU o=true):∀c,o.op≠ .defer c:=fun c e=>by simp [wU,e] at h
theorem aNA {md:Region.Mode} (hd:∀(i:Nat) o,ops[i]?=some o→wU o=true) (hq:¬LetsOut Q):∀(fuel:Nat) (listed:Array Bool) (a:Act) (w:World),wpAny P md ops Q fuel listed a w→wpAnyIn (Fence.wide.inRound l0) n P md ops Q fuel listed a w
 |0,_,_,_,h=>h
 |fuel+1,listed,a,w,h=>by
  refine ⟨h.1,fun i hi=>?_⟩
  have h1:=h.2 i hi
  unfold wpOp at h1
  unfold wpOpIn
  cases ho:ops[i]? with
  |none=>rw [ho] at h1;exact aNA hd hq fuel _ _ _ h1
  |some o=>
   simp only [ho] at h1 ⊢
   split
   ·rename_i hw
    rw [if_pos hw] at h1
    rcases h1 with h1|h1
    ·exact Oper.wpIn_mono (fun a w=>aNA hd hq fuel _ a w) (opIn (aLS (hd i o ho)) h1)
    ·exact absurd h1.2 hq
   ·rename_i hw
    rw [if_neg hw] at h1
    exact ⟨fun _ _=>trivial,aNA hd hq fuel _ _ _ h1⟩
theorem aHE {id:Nat} {l:List Oper} {p ms:List Nat} {a:Act} {w:World} {Cs:Nat→World→Prop} (hx:P.follows .mixedOrders=true) (hm:∀s w,Cs s w→Cs (s+1) w)
  (hp:(Region.noSelect l.toArray && iP l.toArray p ms (Array.replicate l.length false) && p.length==l.length)=true) (hd:l.all wU=true) (hq:¬LetsOut Q) (hC:Cs 0 w.drew)
  (h:wpM P l.toArray Q (.any Cs 0 ms) (pick l p) a w.drew):(Code.region id l.toArray true).wpIn (Fence.wide.inRound l0) n P Q a w:=by
 simp only [Bool.and_eq_true,beq_iff_eq] at hp
 obtain ⟨⟨h1,h2⟩,h3⟩:=hp
 refine wpIn_region_any hx ?_
 have:=jQ hm h1 p ms 0 _ a w.drew hC (by simp) h2 h
 rw [h3] at this
 refine aNA (fun i o ho=>List.all_eq_true.1 hd o (List.mem_of_getElem? (by simpa using ho))) hq _ _ _ _ ?_
 simpa using rQ _ _ _ _ _ this
end
section
variable {P:Program} {l0 k n:Nat} {Q Q':Exit→Act→World→Prop} {G:Env} {X:List Nat} {w0:World} {M M' M1:List Ent} {I I' I1:List aV} {a:Act} {w:World}
theorem aQA {id:Nat} {l:List Oper} (ha:Has n G a) (hw:Mem X w0 M I w) (hq:¬LetsOut Q) (Cs:Nat→World→Prop) (p ms:List Nat) (hx:P.follows .mixedOrders=true) (hm:∀s w,Cs s w→Cs (s+1) w)
  (hp:(Region.noSelect l.toArray && iP l.toArray p ms (Array.replicate l.length false) && p.length==l.length)=true) (hd:l.all wU=true) (hC:∀w,Mem X w0 M I w→Cs 0 w)
  (h:RD P n l Q (.any Cs 0 ms) (pick l p) G X w0 M I):(Code.region id l.toArray true).wpIn (Fence.wide.inRound l0) k P Q a w:=
 aHE hx hm hp hd hq (hC _ hw.drew) ((h.go w.drew hw.drew).go a ha)
theorem aLY {id:Nat} {l:List Oper} (ha:Has n G a) (hw:Mem X w0 M I w) (hq:¬LetsOut Q) (J:Nat) (Ms:List Ent) (Is:List aV) (p ms:List Nat) (hM:SubP M Ms) (hI:Inc I Is) (hx:P.follows .mixedOrders=true)
  (hp:(Region.noSelect l.toArray && iP l.toArray p ms (Array.replicate l.length false) && p.length==l.length)=true) (hd:l.all wU=true)
  (h:RD P n l Q (.any (CsJ J X w0 Ms Is) 0 ms) (pick l p) G X w0 M I):(Code.region id l.toArray true).wpIn (Fence.wide.inRound l0) k P Q a w:=
 aQA ha hw hq (CsJ J X w0 Ms Is) p ms hx (fun s w h hs=>h (by omega)) hp hd (fun _ h _=>h.weak hM hI) h
end
/- what is read with no sF sees all, other reads see what stays -/
def CsK (J:Nat) (X:List Nat) (w0:World) (M Ms:List Ent) (I Is:List aV):Nat→World→Prop:=fun s w=>(s=0→Mem X w0 M I w)∧(s≤J→Mem X w0 Ms Is w)
section
variable {X:List Nat} {w0:World} {M M' M1 Ms:List Ent} {I I' I1 Is:List aV}
theorem View.k0 {J k:Nat} {ms:List Nat} (h:k+ms.headD 0=0):View (.any (CsK J X w0 M1 Ms I1 Is) k ms) X w0 M I M1 I1:=⟨fun w w' _ hc=>by
 have hc':CsK J X w0 M1 Ms I1 Is (k+ms.headD 0) w':=hc
 exact hc'.1 h⟩
theorem View.kJ {J k:Nat} {ms:List Nat} (h:k+ms.headD 0≤J):View (.any (CsK J X w0 M1 Ms I1 Is) k ms) X w0 M I Ms Is:=⟨fun w w' _ hc=>by
 have hc':CsK J X w0 M1 Ms I1 Is (k+ms.headD 0) w':=hc
 exact hc'.2 h⟩
theorem OkD.kN {J k:Nat} {ms:List Nat} (h:J≤k):OkD (.any (CsK J X w0 M1 Ms I1 Is) k ms) X w0 M I:=⟨fun w _=>by
 show CsK J X w0 M1 Ms I1 Is (k+1) w
 exact ⟨fun h=>by omega,fun h=>by omega⟩⟩
theorem OkD.kY {J k:Nat} {ms:List Nat} (hM:SubP M Ms) (hI:Inc I Is):OkD (.any (CsK J X w0 M1 Ms I1 Is) k ms) X w0 M I:=⟨fun w hw=>by
 show CsK J X w0 M1 Ms I1 Is (k+1) w
 exact ⟨fun h=>by omega,fun _=>hw.weak hM hI⟩⟩
theorem uK {m:Mode} (h:View m X w0 M I M1 I1:=by first|exact View.seq|exact View.any|exact View.one rfl|exact View.upto (by decide)|exact View.k0 rfl|exact View.kJ (by decide)):View m X w0 M I M1 I1:=h
theorem okK {m:Mode} (h:OkD m X w0 M I:=by first|exact OkD.seq|exact OkD.one|exact OkD.any bX bV|exact OkD.uptoN (by decide)|exact OkD.uptoY bX bV|exact OkD.kN (by decide)|exact OkD.kY bX bV):OkD m X w0 M I:=h
theorem aYV {J:Nat} {w:World} (hM:SubP M Ms) (hI:Inc I Is) (h:Mem X w0 M I w):CsK J X w0 M Ms I Is 0 w:=⟨fun _=>h,fun _=>h.weak hM hI⟩
theorem aZG {J:Nat} (s:Nat) (w:World) (h:CsK J X w0 M Ms I Is s w):CsK J X w0 M Ms I Is (s+1) w:=⟨fun h=>by omega,fun hs=>h.2 (by omega)⟩
theorem kT {P:Program} {n:Nat} {Q:Exit→Act→World→Prop} {G:Env} {id:Nat} {l:List Oper} (J:Nat) (Ms:List Ent) (Is:List aV) (p ms:List Nat) (hM:SubP M Ms) (hI:Inc I Is) (hx:P.follows .mixedOrders=true)
  (hp:(Region.noSelect l.toArray && iP l.toArray p ms (Array.replicate l.length false) && p.length==l.length)=true)
  (h:RD P n l Q (.any (CsK J X w0 M Ms I Is) 0 ms) (pick l p) G X w0 M I):TD P n (.region id l.toArray true) Q G X w0 M I:=
 xE (CsK J X w0 M Ms I Is) p ms hx aZG hp (fun _ h=>aYV hM hI h) h
end
/- the same behind deferred calls -/
def aBV (Ds:List Deferred) (a:Act):Act:={a with defers:=a.defers++Ds}
section
variable {P:Program} {Ds:List Deferred} {Q:Exit→Act→World→Prop} {ops:Array Oper}
theorem uF (a:Act) (d:Option Tmp) (v:Value):(aBV Ds a).put d v=aBV Ds (a.put d v):=by cases d <;>rfl
theorem aFM (a:Act):(aBV Ds a).eval=a.eval:=by funext x;cases x <;>rfl
theorem aFG (h:LetsOut (fun e a w=>Q e (aBV Ds a) w)):LetsOut Q:=let ⟨a,w,h⟩:=h;⟨_,w,h⟩
theorem aWJ {o:Oper} {a:Act} {w:World} {K:Act→World→Prop} (h:o.wp P a w (fun a w=>K (aBV Ds a) w) (fun e a w=>Q e (aBV Ds a) w)):o.wp P (aBV Ds a) w K Q:=by
 unfold Oper.wp at h ⊢
 rw [aFM]
 generalize (execOp a.eval o).run P w=r at h ⊢
 cases r with
 |ok x w'=>
  cases x with
  |value v=>simp only [Oper.upon] at h ⊢;rw [uF];exact h
  |skip=>simp only [Oper.upon] at h ⊢;rw [uF];exact h
  |defer d=>simp only [Oper.upon] at h ⊢;exact (uF (Ds:=Ds) {a with defers:=d::a.defers} o.dst undef) ▸ h
  |enter f args=>
   simp only [Oper.upon] at h ⊢
   refine Calls.mono h (fun e w2 he=>?_)
   cases e with
   |returned v=>simp only at he ⊢;rw [uF];exact he
   |panicked c=>exact he
   |outgrown=>exact aFG he
  |row row args=>
   simp only [Oper.upon] at h ⊢
   refine Rows.mono h (fun v w2 he=>?_)
   rw [uF];exact he
  |_=>exact h.elim
 |halt x w'=>cases x <;>first|exact h|exact h.elim
theorem aAD {md:Region.Mode}:∀(fuel:Nat) (listed:Array Bool) (a:Act) (w:World),wpAny P md ops (fun e a w=>Q e (aBV Ds a) w) fuel listed a w→wpAny P md ops Q fuel listed (aBV Ds a) w
 |0,_,_,_,h=>h
 |fuel+1,listed,a,w,h=>by
  refine ⟨h.1,fun i hi=>?_⟩
  have h1:=h.2 i hi
  unfold wpOp at h1 ⊢
  cases ho:ops[i]? with
  |none=>simp only [ho] at h1;exact aAD fuel _ _ _ h1
  |some o=>
   simp only [ho] at h1 ⊢
   by_cases hw:Region.wanted o (yielded ops a.tmps)=true
   ·rw [if_pos hw] at h1
    rw [if_pos (show Region.wanted o (yielded ops (aBV Ds a).tmps)=true from hw)]
    rcases h1 with h1|h1
    ·exact .inl (Oper.wp_mono (fun a w=>id) (aWJ (Oper.wp_mono (fun a w=>aAD fuel _ a w) h1)))
    ·refine .inr ⟨?_,aFG h1.2⟩
     have:=h1.1
     unfold Oper.asks at this ⊢
     rw [aFM]
     exact this
   ·rw [if_neg hw] at h1
    rw [if_neg (show ¬Region.wanted o (yielded ops (aBV Ds a).tmps)=true from hw),uF]
    exact aAD fuel _ _ _ h1
end
section
variable {P:Program} {k n:Nat} {Q Q':Exit→Act→World→Prop} {G:Env} {X:List Nat} {w0:World} {M M' M1:List Ent} {I I' I1:List aV} {a:Act} {w:World}
theorem aMA {id:Nat} {l:List Oper} {tmps:Array Value} {Ds:List Deferred} (ha:Has n G ⟨tmps,[]⟩) (hw:Mem X w0 M I w) (J:Nat) (Ms:List Ent) (Is:List aV) (p ms:List Nat) (hM:SubP M Ms) (hI:Inc I Is) (hx:P.follows .mixedOrders=true)
  (hp:(Region.noSelect l.toArray && iP l.toArray p ms (Array.replicate l.length false) && p.length==l.length)=true)
  (h:RD P n l (fun e a w=>Q e (aBV Ds a) w) (.any (CsK J X w0 M Ms I Is) 0 ms) (pick l p) G X w0 M I):(Code.region id l.toArray true).wpIn Fence.wide k P Q ⟨tmps,Ds⟩ w:=by
 simp only [Bool.and_eq_true,beq_iff_eq] at hp
 obtain ⟨⟨h1,h2⟩,h3⟩:=hp
 refine wpIn_wide.2 (wp_region_any hx ?_)
 refine aAD (Ds:=Ds) _ _ ⟨tmps,[]⟩ _ ?_
 have hC:CsK J X w0 M Ms I Is 0 w.drew:=aYV hM hI hw.drew
 have:=jQ aZG h1 p ms 0 _ _ w.drew hC (by simp) h2 ((h.go w.drew hw.drew).go _ ha)
 rw [h3] at this
 simpa using rQ _ _ _ _ _ this
end
theorem Has.cons {n:Nat} {G:Env} {a:Act} {t:Nat} {v:Value} (h:Has n G a) (ht:a.tmps[t]?=some v):Has n ((t,v)::G) a:=
 ⟨h.size,h.defers,fun s u hs=>by
  unfold lk at hs
  cases e:Nat.beq t s with
  |true=>rw [e] at hs;have:=Nat.eq_of_beq_eq_true e;subst this;exact ht.trans hs
  |false=>rw [e] at hs;exact h.get s u hs⟩
theorem Has.nil {n:Nat} {a:Act} (h:a.tmps.size=n) (hd:a.defers=[]):Has n [] a:=⟨h,hd,fun _ _ h=>by cases h⟩
theorem uW {X:List Nat} {n:Nat} {A B:World} (h:Ext X A B) (hx:∀k∈X,n≤k) (hn:n≤A.heap.size):RowKit.Below n A B:=
 ⟨h.os,h.tape,h.output,h.size,fun k hk=>h.block k (by omega) (fun hm=>by have:=hx k hm;omega)⟩
theorem aID {X:List Nat} {n:Nat} {A B:World} (h:Ext X A B) (hx:∀k∈X,k < n):KeepsFrom n A B:=
 ⟨h.size,fun k o hk ho _=>(h.block k (Array.getElem?_eq_some_iff.1 ho).1 (fun hm=>by have:=hx k hm;omega)).trans ho⟩
end Go.Fx
namespace Go.Fx
section
variable {P:Program} {n:Nat} {Q Q':Exit→Act→World→Prop} {G:Env} {X:List Nat} {w0:World} {M M':List Ent} {I I':List aV}
variable {ops l:List Oper} {m:Mode} {op:Op} {ty:TypeId} {pos:String} {af:Array Edge} {g:Option (Nat × Bool)}
theorem Eff.boxA {w:World} {t:TypeId} {x:Operand} {vs:List Value} (hx:ev G x=some (.agg vs.toArray)):Eff P n G (.box t x) ty w (fun v w'=>∃b,w.heap.size≤b∧v= .pointer (some ⟨b,0,none⟩)∧Blk w' b vs t∧Ext [] w w'):=by
 have h:=aMZ (P:=P) (n:=n) (ty:=ty) (w:=w) (t:=t) hx
 refine h.mono (fun v w' ⟨b,hb,hp,hB,hE,_⟩=>⟨b,by omega,hp,?_,hE⟩)
 simpa [Value.cells] using hB
theorem aWA {d:Nat} {t:TypeId} {x:Operand} {vs:List Value} (hx:ev G x=some (.agg vs.toArray)) (hg:nX ops G g=some true) (hd:Nat.ble (d+1) n=true)
  (k:∀b,OkD m X w0 (.blk b vs t::M) I∧RD P n ops Q m.nextE l ((d, .pointer (some ⟨b,0,none⟩))::G) X w0 (.blk b vs t::M) I):
  RD P n ops Q m (⟨some d, .box t x,ty,pos,af,g⟩::l) G X w0 M I:=
 aAL (d:=some d) (K:=fun v' M' I'=>∃b,v'= .pointer (some ⟨b,0,none⟩)∧M'= .blk b vs t::M∧I'=I) hg
  (fun w hw=>(Eff.boxA hx).mono (fun _ w' ⟨b,hb,hp,hB,hE⟩=>⟨_,_,⟨b,hp,rfl,rfl⟩,hw.push hE (by simp [Ent.blocks,hb]) (by simp [Ent.blocks]) hB⟩)) rfl hd
  (fun _ _ _ ⟨b,hp,hM,hI⟩=>by subst hp;subst hM;subst hI;exact k b)
theorem aS {d:Nat} {f:FuncId} {xs:List Operand} {vs:List Value} {at_:Array TypeId} {K:Value→List Ent→List aV→Prop} [FnOk P f] (hx:evs G xs=some vs) (hc:CD P f vs X w0 M I K)
  (hg:nX ops G g=some true) (hd:Nat.ble (d+1) n=true) (k:∀v M' I',K v M' I'→OkD m X w0 M' I'∧RD P n ops Q m.nextE l ((d,v)::G) X w0 M' I'):
  RD P n ops Q m (⟨some d, .call {callee:= .value (.func f),args:=xs.toArray,argTypes:=at_},ty,pos,af,g⟩::l) G X w0 M I:=
 lX (d:=some d) hx hc hg hd k
theorem bI {d:Nat} {h:Operand} {f:FuncId} {fs cs:Array Value} {xs:List Operand} {vs:List Value} {at_:Array TypeId} {K:Value→List Ent→List aV→Prop} [FnOk P f] (hh:ev G h=some (.func (.func f) fs cs)) (hx:evs G xs=some vs)
  (hc:CD P f (fs.toList++vs++cs.toList) X w0 M I K)
  (hg:nX ops G g=some true) (hf:iM (.call {callee:= .value h,args:=xs.toArray,argTypes:=at_})=false) (hd:Nat.ble (d+1) n=true) (k:∀v M' I',K v M' I'→OkD m X w0 M' I'∧RD P n ops Q m.nextE l ((d,v)::G) X w0 M' I'):
  RD P n ops Q m (⟨some d, .call {callee:= .value h,args:=xs.toArray,argTypes:=at_},ty,pos,af,g⟩::l) G X w0 M I:=
 aCX (d:=some d) hh hx hc hg hf hd k
section
variable {f:FuncId} {fn:Func} {c:Code} {K:Value→List Ent→List aV→Prop} {v0 v1 v2 v3 v4 v5 v6:Value}
theorem aMT (hf:P.funcs[f]?=some fn) (hb:fn.body=some c) (hn:fn.ntmps=n) (hl:Nat.ble 0 n=true) (h:TD P n c (Body P fn (KB K X w0)) [] X w0 M I):CD P f [] X w0 M I K:=eD hf hb hn hl h
theorem aZ (hf:P.funcs[f]?=some fn) (hb:fn.body=some c) (hn:fn.ntmps=n) (hl:Nat.ble 1 n=true) (h:TD P n c (Body P fn (KB K X w0)) [(0,v0)] X w0 M I):CD P f [v0] X w0 M I K:=eD hf hb hn hl h
theorem aP (hf:P.funcs[f]?=some fn) (hb:fn.body=some c) (hn:fn.ntmps=n) (hl:Nat.ble 2 n=true) (h:TD P n c (Body P fn (KB K X w0)) [(0,v0),(1,v1)] X w0 M I):CD P f [v0,v1] X w0 M I K:=eD hf hb hn hl h
theorem iO (hf:P.funcs[f]?=some fn) (hb:fn.body=some c) (hn:fn.ntmps=n) (hl:Nat.ble 3 n=true) (h:TD P n c (Body P fn (KB K X w0)) [(0,v0),(1,v1),(2,v2)] X w0 M I):CD P f [v0,v1,v2] X w0 M I K:=eD hf hb hn hl h
theorem qN (hf:P.funcs[f]?=some fn) (hb:fn.body=some c) (hn:fn.ntmps=n) (hl:Nat.ble 4 n=true) (h:TD P n c (Body P fn (KB K X w0)) [(0,v0),(1,v1),(2,v2),(3,v3)] X w0 M I):CD P f [v0,v1,v2,v3] X w0 M I K:=eD hf hb hn hl h
end
end
end Go.Fx

/- The symbolic heap, continued: regions with stores behind all reads, cells with a tail, row -/
import Derived.Test.YtmmmfphealhapaaGreatZsad
import Derived.Scope
set_option linter.unusedSimpArgs false
set_option linter.unusedVariables false
set_option maxRecDepth 100000
set_option maxHeartbeats 4000000
namespace Go.Fx
def Cs1 (X:List Nat) (w0:World) (M:List Ent) (I:List aM):Nat→World→Prop
 |0,w=>Mem X w0 M I w
 |_+1,_=>True
section
variable {P:Program} {n:Nat} {Q Q':Exit→Act→World→Prop} {G:Env} {X:List Nat} {w0:World} {M M' M1:List Ent} {I I' I1:List aM}
theorem aRF {id:Nat} {l:List Oper} (p ms:List Nat) (hx:P.follows .mixedOrders=true)
  (hp:(Region.noSelect l.toArray && iD l.toArray p ms (Array.replicate l.length false) && p.length==l.length)=true)
  (h:RD P n l Q (.any (Cs1 X w0 M I) 0 ms) (pick l p) G X w0 M I):TD P n (.region id l.toArray true) Q G X w0 M I:=
 tV (Cs1 X w0 M I) p ms hx (fun _ _ _=>True.intro) hp (fun _ h=>h) h
theorem View.one {k:Nat} {ms:List Nat} (h:k+ms.headD 0=0):View (.any (Cs1 X w0 M1 I1) k ms) X w0 M I M1 I1:=⟨fun w w' _ hc=>by
 have hc':Cs1 X w0 M1 I1 (k+ms.headD 0) w':=hc
 rw [h] at hc'
 exact hc'⟩
theorem OkD.one {k:Nat} {ms:List Nat}:OkD (.any (Cs1 X w0 M1 I1) k ms) X w0 M I:=⟨fun _ _=>True.intro⟩
/- cells with a tail -/
theorem At.app {cs tl:List Value} {o:Nat} {v:Value} (h:At cs o v):At (cs++tl) o v:=⟨by
 have:=h.get
 rw [List.getElem?_append_left (List.getElem?_eq_some_iff.1 this).1];exact this⟩
theorem Ats.app {cs tl vs:List Value} {o:Nat} (h:Ats cs o vs):Ats (cs++tl) o vs:=⟨fun j v hj=>by
 have:=h.get j v hj
 rw [List.getElem?_append_left (List.getElem?_eq_some_iff.1 this).1];exact this⟩
theorem StAt.app {cs cs' tl:List Value} {o:Nat} {v:Value} (h:StAt cs o v cs'):StAt (cs++tl) o v (cs'++tl):=by
 obtain ⟨h1,h2⟩:=h.out
 exact ⟨by rw [List.set_append_left _ _ h2,h1],by rw [List.length_append];omega⟩
theorem StAts.app {cs cs' tl vs:List Value} {o:Nat} (h:StAts cs o vs cs'):StAts (cs++tl) o vs (cs'++tl):=by
 obtain ⟨h1,h2⟩:=h.out
 refine ⟨?_,by rw [List.length_append];omega⟩
 unfold splice at*
 rw [List.take_append_of_le_length (by omega),List.drop_append_of_le_length (by omega),←h1]
 simp
theorem Mem.rowBlk {w:World} {a:Option Addr} {mm c:Nat} {cs:List Value} {e:TypeId} {sz:Nat} (h:Mem X w0 (.row a mm c cs e sz::M) I w):(a=none∧mm=0∧cs=[])∨∃b tl,a=some ⟨b,0,none⟩∧mm≤c∧Mem X w0 (.blk b (cs++tl) e::M) I w:=by
 have ho:w.ownsRow 0 e sz (.slice a mm c) mm cs:=h.ent _ List.mem_cons_self
 rcases ho.2 with ⟨h1,h2⟩|⟨g,cap,cur,hv,_,hg,hmc,_,hsz,htake⟩
 ·injection h1 with e1 e2 e3
  exact .inl ⟨e1,h2,List.eq_nil_of_length_eq_zero (by rw [ho.1,h2];simp)⟩
 ·injection hv with e1 e2 e3
  subst e1;subst e3
  refine .inr ⟨g,cur.toList.drop (mm*sz),rfl,hmc,?_⟩
  have hcs:cs++cur.toList.drop (mm*sz)=cur.toList:=by rw [←htake,List.take_append_drop]
  rw [hcs]
  refine h.upd (en:= .row (some ⟨g,0,none⟩) mm c cs e sz) (en':= .blk g cur.toList e) .here (Ext.refl _ _) (fun b hb=> .inl (by simpa [Ent.blocks] using hb)) (by simp [Ent.blocks]) ?_
  show Blk w g cur.toList e
  simpa [Blk] using hg
theorem aGG {c':Code} {a:Option Addr} {mm c:Nat} {cs:List Value} {e:TypeId} {sz:Nat} (h0:a=none→mm=0→cs=[]→TD P n c' Q G X w0 (.row a mm c cs e sz::M) I) (h1:∀b tl,a=some ⟨b,0,none⟩→mm≤c→TD P n c' Q G X w0 (.blk b (cs++tl) e::M) I):TD P n c' Q G X w0 (.row a mm c cs e sz::M) I:=
 ⟨fun w hw=>by
  rcases hw.rowBlk with ⟨e1,e2,e3⟩|⟨b,tl,e1,e2,hm⟩
  ·exact (h0 e1 e2 e3).go w hw
  ·exact (h1 b tl e1 e2).go w hm⟩
theorem aBI {ops l:List Oper} {m:Mode} {a:Option Addr} {mm c:Nat} {cs:List Value} {e:TypeId} {sz:Nat} (h0:a=none→mm=0→cs=[]→RD P n ops Q m l G X w0 (.row a mm c cs e sz::M) I) (h1:∀b tl,a=some ⟨b,0,none⟩→mm≤c→RD P n ops Q m l G X w0 (.blk b (cs++tl) e::M) I):RD P n ops Q m l G X w0 (.row a mm c cs e sz::M) I:=
 ⟨fun w hw=>by
  rcases hw.rowBlk with ⟨e1,e2,e3⟩|⟨b,tl,e1,e2,hm⟩
  ·exact (h0 e1 e2 e3).go w hw
  ·exact (h1 b tl e1 e2).go w hm⟩
theorem Mem.takeI {w:World} {a:Option Addr} {cs tl:List Value} (h:Mem X w0 M I w) (hm:aH a (cs++tl)∈I):Mem X w0 M (aH a cs::I) w:=
 h.add (φ:=aH a cs) ⟨by
  have:=(h.sl hm).take cs.length
  rwa [List.take_left] at this⟩
theorem aYD {ops l:List Oper} {m:Mode} {a:Option Addr} {cs tl:List Value} (hm:aH a (cs++tl)∈I) (h:RD P n ops Q m l G X w0 M (aH a cs::I)):RD P n ops Q m l G X w0 M I:=vX (fun _ hw=>hw.takeI hm) h
theorem aZI {φ:Prop} {ex:Exit} (h:∀w,Mem X w0 M I w→φ) (k:φ→ND n Q ex G X w0 M I):ND n Q ex G X w0 M I:=⟨fun w hw=>(k (h w hw)).go w hw⟩
theorem aCV {φ:Prop} {c:Code} (h:∀w,Mem X w0 M I w→φ) (k:φ→TD P n c Q G X w0 M I):TD P n c Q G X w0 M I:=⟨fun w hw=>(k (h w hw)).go w hw⟩
theorem nG {φ:Prop} {ops l:List Oper} {m:Mode} (h:∀w,Mem X w0 M I w→φ) (k:φ→RD P n ops Q m l G X w0 M I):RD P n ops Q m l G X w0 M I:=⟨fun w hw=>(k (h w hw)).go w hw⟩
theorem CD.sub {f:FuncId} {vs:List Value} {K:Value→List Ent→List aM→Prop} (hM:SubP M M') (h:CD P f vs X w0 M' I K):CD P f vs X w0 M I K:=h.weak hM .refl
theorem fJ {C:World→Prop} {ty:TypeId} {t t':TypeId} {x y:Operand} {k k':IntKind} {a:Int} (hx:ev G x=some (.int k a)) (hy:ev G y=some (.int k' 1)):Const P n G (.binOp .shr t x y t') ty C (.int k (a / 2)):=by
 refine aMC hx hy (by omega) (.inr ⟨rfl,?_⟩)
 have:min ((1:Int).toNat) k.bits=1:=by cases k <;>decide
 rw [this,Int.fdiv_eq_ediv_of_nonneg _ (by decide)]
 rfl
theorem fM {C:World→Prop} {ty:TypeId} {t:TypeId} {x:Operand} {p:Prop} [Decidable p] (hx:ev G x=some (.bool (B p))):Const P n G (.unOp .not t x) ty C (.bool (B (¬p))):=by
 have:=bN (P:=P) (n:=n) (G:=G) (ty:=ty) (C:=C) (op:= .unOp .not t x) (v:= .bool (!(B p))) (by simp [aBP,hx])
 rwa [show (!(B p))=B (¬p) by rw [sZ,sZ];simp] at this
theorem kK {ops l:List Oper} {m:Mode} {ty:TypeId} {pos:String} {af:Array Edge} {g:Option (Nat × Bool)} {d:Nat} {t:TypeId} {x:Operand} {b o:Nat} {cs:List Value} {v:Value} [ScalarTy P t] (hv:View m X w0 M I M1 I1) (hx:ev G x=some (.pointer (some ⟨b,o,none⟩))) (hm:aH (some ⟨b,0,none⟩) cs∈I1) (hc:At cs o v) (hg:oQ ops G g=some true)
  (hd:Nat.ble (d+1) n=true) (k:RD P n ops Q m.next l ((d,v)::G) X w0 M I):RD P n ops Q m (⟨some d, .load t x,ty,pos,af,g⟩::l) G X w0 M I:=
 aFL hv hg (fun w hw=>vM hx (fun w' e=>by
  subst e
  have:=(hw.sl hm).cell hc.get
  simpa [pt,bl,of] using this)) rfl hd k
theorem nX {ops l:List Oper} {m:Mode} {ty:TypeId} {pos:String} {af:Array Edge} {g:Option (Nat × Bool)} {d:Nat} {t:TypeId} {sz:Nat} {x:Operand} {b o:Nat} {cs vs:List Value} [AggTy P t sz] (hv:View m X w0 M I M1 I1) (hx:ev G x=some (.pointer (some ⟨b,o,none⟩))) (hm:aH (some ⟨b,0,none⟩) cs∈I1) (hc:Ats cs o vs) (hl:vs.length=sz) (hg:oQ ops G g=some true)
  (hd:Nat.ble (d+1) n=true) (k:RD P n ops Q m.next l ((d, .agg vs.toArray)::G) X w0 M I):RD P n ops Q m (⟨some d, .load t x,ty,pos,af,g⟩::l) G X w0 M I:=
 aFL hv hg (fun w hw=>sV hx hl (fun w' e=>by
  subst e
  have:=Sl.rowAt (hw.sl hm) o vs hc.get
  simpa [bl,of] using this)) rfl hd k
end
end Go.Fx
namespace Go.Fx
section
variable {P:Program} {n:Nat} {Q Q':Exit→Act→World→Prop} {G:Env} {X:List Nat} {w0:World} {M M' M1:List Ent} {I I' I1:List aM}
theorem aRQ {id:Nat} {l:List Oper} (Ms:List Ent) (Is:List aM) (p ms:List Nat) (hM:SubP M Ms) (hI:Inc I Is) (hx:P.follows .mixedOrders=true)
  (hp:(Region.noSelect l.toArray && iD l.toArray p ms (Array.replicate l.length false) && p.length==l.length)=true)
  (h:RD P n l Q (.any (vZ X w0 Ms Is) 0 ms) (pick l p) G X w0 M I):TD P n (.region id l.toArray true) Q G X w0 M I:=
 tV (vZ X w0 Ms Is) p ms hx (fun _ _ h=>h) hp (fun _ h=>h.weak hM hI) h
/- slices from the start -/
theorem qY {C:World→Prop} {ty t e:TypeId} {sz:Nat} {x y:Operand} {b o len c:Nat} {k:IntKind} {i:Int} (h:Nat) [ht:SliceTy P t e sz] (hx:ev G x=some (.slice (some ⟨b,o,none⟩) len c)) (hy:ev G y=some (.int k i)) (hi:i=h) (h2:h≤c):
  Const P n G (.slice t x none (some y) none) ty C (.slice (some ⟨b,o,none⟩) h c):=by
 subst hi
 refine ⟨?_⟩
 intro st ha dst pos after guard w _
 by_cases h0:c=0
 ·have hh:h=0:=by omega
  simp [execOp,Instr.sliceAt,Instr.slice,ha.ev hx,eU ht.und,run_sizeOf ht.size,Instr.sliceBounds,Instr.sliceBound,asIntOf,ha.ev hy,h0,hh]
 ·simp [execOp,Instr.sliceAt,Instr.slice,ha.ev hx,eU ht.und,run_sizeOf ht.size,Instr.sliceBounds,Instr.sliceBound,asIntOf,ha.ev hy,h2,h0,add_lit]
theorem Mem.rowC {w:World} {mm c:Nat} {cs:List Value} {e:TypeId} {sz:Nat} (h:Mem X w0 (.row none mm c cs e sz::M) I w):c=0:=by
 have ho:w.ownsRow 0 e sz (.slice none mm c) mm cs:=h.ent _ List.mem_cons_self
 rcases ho.2 with ⟨h1,h2⟩|⟨g,cap,cur,hv,_⟩
 ·injection h1
 ·injection hv with e1;cases e1
end
end Go.Fx
namespace Go.Fx
@[irreducible] def NoG (Q:Exit→Act→World→Prop):Exit→Act→World→Prop:=Exit.noGoto Q
section
variable {P:Program} {n:Nat} {Q Q':Exit→Act→World→Prop} {G:Env} {X:List Nat} {w0:World} {M M' M1:List Ent} {I I' I1:List aM}
theorem aFU {fn:Func} {a:Tmp} {t:TypeId} {sz:Nat} {tmps:Array Value} {w:World} {b:Nat} {cs:List Value} {e:TypeId} [ht:AggTy P t sz] (h:fn.results=#[.cell a t]) (hb:tmps.getD a undef= .pointer (some ⟨b,0,none⟩)) (hB:Blk w b cs e) (hl:cs.length=sz):
  (results fn tmps).run P w= .ok (.agg cs.toArray) w:=by
 have:=run_loadCellsFrom (P:=P) cs (hB.row0) sz 0 #[] (by omega) rfl
 have hb':tmps[a]?.getD undef= .pointer (some ⟨b,0,none⟩):=by simpa using hb
 simp [results,h,hb',asAddr,loadVar,nA,run_sizeOf ht.size,loadCells,this]
theorem aFV {fn:Func} {a:Tmp} {t:TypeId} {tmps:Array Value} {w:World} {b:Nat} {v:Value} {e:TypeId} [ht:ScalarTy P t] (h:fn.results=#[.cell a t]) (hb:tmps.getD a undef= .pointer (some ⟨b,0,none⟩)) (hB:Blk w b [v] e):
  (results fn tmps).run P w= .ok v w:=by
 have hc:=hB.cell (o:=0) rfl
 have hb':tmps[a]?.getD undef= .pointer (some ⟨b,0,none⟩):=by simpa using hb
 simp [results,h,hb',asAddr,loadVar,mH,hc]
theorem aT {fn:Func} {K:Value→List Ent→List aM→Prop} {ex:Exit} {a:Tmp} {t:TypeId} {sz b:Nat} {cs:List Value} {e:TypeId} [AggTy P t sz] (he:ex= .ret∨ex= .normal) (hr:fn.results=#[.cell a t]) (hv:lk G a=some (.pointer (some ⟨b,0,none⟩))) (hm: .blk b cs e∈M) (hl:cs.length=sz) (M':List Ent) (I':List aM) (hM:SubP M M') (hI:Inc I I') (h:K (.agg cs.toArray) M' I'):
  ND n (Body P fn (KB K X w0)) ex G X w0 M I:=⟨fun w hw=>⟨fun act ha=>by
 unfold Body
 have e1:act.tmps.getD a undef= .pointer (some ⟨b,0,none⟩):=by simp [ha.get a _ hv]
 have e2:=aFU (P:=P) (t:=t) hr e1 (hw.blk hm) hl
 rcases he with rfl|rfl <;>exact ⟨ha.defers,_,e2,_,rfl,M',I',h,hw.weak hM hI⟩⟩⟩
end
end Go.Fx
namespace Go.Fx
section
variable {P:Program} {n:Nat} {Q:Exit→Act→World→Prop} {G G':Env} {X:List Nat} {w0:World} {M M' M1:List Ent} {I I' I1:List aM} {m:Mode} {a b:Ent} {φ:aM} {cs cs' vs:List Value} {o sz:Nat} {v:Value} {x y:Int} {kk:IntKind} {α:Type} {aa:α} {ll:List α}
theorem bQ (h:SubP M M':=by repeat (first|exact SubP.refl|exact SubP.nil|refine SubP.cons (by first|exact .here|exact .there .here|exact .there (.there .here)|exact .there (.there (.there .here))|exact .there (.there (.there (.there .here)))|exact .there (.there (.there (.there (.there .here))))|exact .there (.there (.there (.there (.there (.there .here)))))|exact .there (.there (.there (.there (.there (.there (.there .here))))))|exact .there (.there (.there (.there (.there (.there (.there (.there .here)))))))) ?_|refine SubP.drop ?_)):SubP M M':=h
theorem bP (h:Inc I I':=by repeat (first|exact Inc.refl|exact Inc.nil|refine Inc.cons (by repeat (first|exact List.Mem.head _|assumption|refine List.Mem.tail _ ?_)) ?_|refine Inc.wk ?_)):Inc I I':=h
theorem tJ (h:Rep a b M M':=by first|exact .here|exact .there .here|exact .there (.there .here)|exact .there (.there (.there .here))|exact .there (.there (.there (.there .here)))|exact .there (.there (.there (.there (.there .here))))|exact .there (.there (.there (.there (.there (.there .here)))))|exact .there (.there (.there (.there (.there (.there (.there .here))))))|exact .there (.there (.there (.there (.there (.there (.there (.there .here)))))))|assumption):Rep a b M M':=h
theorem yM (h:Rem a M M':=by first|exact .here|exact .there .here|exact .there (.there .here)|exact .there (.there (.there .here))|exact .there (.there (.there (.there .here)))|exact .there (.there (.there (.there (.there .here))))|exact .there (.there (.there (.there (.there (.there .here)))))|exact .there (.there (.there (.there (.there (.there (.there .here))))))|exact .there (.there (.there (.there (.there (.there (.there (.there .here)))))))):Rem a M M':=h
theorem aZ (h:aa∈ll:=by repeat (first|exact List.Mem.head _|assumption|refine List.Mem.tail _ ?_)):aa∈ll:=h
theorem okD (h:OkD m X w0 M I:=by first|exact OkD.seq|exact OkD.one|exact OkD.any (by repeat (first|exact SubP.refl|exact SubP.nil|refine SubP.cons (by first|exact .here|exact .there .here|exact .there (.there .here)|exact .there (.there (.there .here))|exact .there (.there (.there (.there .here)))|exact .there (.there (.there (.there (.there .here))))|exact .there (.there (.there (.there (.there (.there .here)))))|exact .there (.there (.there (.there (.there (.there (.there .here))))))|exact .there (.there (.there (.there (.there (.there (.there (.there .here)))))))) ?_|refine SubP.drop ?_)) (by repeat (first|exact Inc.refl|exact Inc.nil|refine Inc.cons (by repeat (first|exact List.Mem.head _|assumption|refine List.Mem.tail _ ?_)) ?_|refine Inc.wk ?_))):OkD m X w0 M I:=h
theorem vwX (h:View m X w0 M I M1 I1:=by first|exact View.seq|exact View.any|exact View.one rfl):View m X w0 M I M1 I1:=h
theorem xX (h:At cs o v:=by first|exact At.r1 (by first|omega|(simp only [dI,List.length_replicate,List.length_append];omega)) rfl|exact At.r2 (by first|omega|(simp only [dI,List.length_replicate,List.length_append];omega)) rfl|exact At.mk rfl|exact At.app (At.r1 (by first|omega|(simp only [dI,List.length_replicate,List.length_append];omega)) rfl)|exact At.app (At.r2 (by first|omega|(simp only [dI,List.length_replicate,List.length_append];omega)) rfl)):At cs o v:=h
theorem nE (h:Ats cs o vs:=by first|exact Ats.r (by first|omega|(simp only [dI,List.length_replicate,List.length_append];omega))|exact Ats.all|exact Ats.app (Ats.r (by first|omega|(simp only [dI,List.length_replicate,List.length_append];omega)))|exact Ats.lit rfl):Ats cs o vs:=h
theorem stC (h:StAt cs o v cs':=by first|exact StAt.r1 _ (by first|omega|(simp only [dI,List.length_replicate,List.length_append];omega)) rfl|exact StAt.app (StAt.r1 _ (by first|omega|(simp only [dI,List.length_replicate,List.length_append];omega)) rfl)|exact StAt.mk (by first|(dsimp only [List.set];done)|(dsimp only [List.set];rfl)) (by simp)):StAt cs o v cs':=h
theorem aCL (h:StAts cs o vs cs':=by first|exact StAts.r _ (by first|omega|(simp only [dI,List.length_replicate,List.length_append];omega)) rfl|exact StAts.app (StAts.r _ (by first|omega|(simp only [dI,List.length_replicate,List.length_append];omega)) rfl)|exact StAts.all (by first|rfl|simp)):StAts cs o vs cs':=h
theorem mU (h:0 < cs.length:=by rw [fH];omega):0 < cs.length:=h
theorem jN (h:vs.length=sz:=by first|rfl|exact Sized.len _):vs.length=sz:=h
theorem aCG (h:∀u∈vs,u.oneCell'=true:=by first|exact Ones.one _|(intro u hu;repeat (first|exact absurd hu (List.not_mem_nil)|(rcases List.mem_cons.1 hu with rfl|hu; · rfl)))):∀u∈vs,u.oneCell'=true:=h
theorem dE (h:Sub G G':=by repeat (first|exact Sub.nil|refine Sub.cons rfl rfl ?_)):Sub G G':=h
theorem iC (h:0≤x∧x < y:=by first|omega|(simp only [dI,List.length_replicate,List.length_append];omega)):0≤x∧x < y:=h
theorem w_ (h:kk.wrap x=y:=by first|exact wrap_i64 (by first|omega|assumption)|exact wrap_u64 (by first|omega|assumption)|exact wrap_u32 (by first|omega|assumption)|exact wrap_u8 (by omega)):kk.wrap x=y:=h
theorem q_ (h:kk.wrap x=y:=by first|exact aPW (by omega)|exact aQU (by omega) (by omega)):kk.wrap x=y:=h
end
end Go.Fx
namespace Go.Proofs.YtmmmfphealhapaaGreat
open Go Go.Fx
abbrev BB:Int:=1000000000
def val:List Int→Int
 |[]=>0
 |g::r=>g+1000000000*val r
def Dig (l:List Int):Prop:=∀x∈l,0≤x∧x < 1000000000
theorem Dig.cons {x:Int} {l:List Int}:Dig (x::l)↔(0≤x∧x < 1000000000)∧Dig l:=by simp [Dig]
theorem Dig.nil:Dig []:=by simp [Dig]
theorem Dig.app {a b:List Int}:Dig (a++b)↔Dig a∧Dig b:=by
 simp only [Dig,List.mem_append]
 exact ⟨fun h=>⟨fun x hx=>h x (.inl hx),fun x hx=>h x (.inr hx)⟩,fun h x hx=>hx.elim (h.1 x) (h.2 x)⟩
theorem val_append (a b:List Int):val (a++b)=val a+1000000000 ^ a.length*val b:=by
 induction a with
 |nil=>simp [val]
 |cons x r ih=>simp only [List.cons_append,val,ih,List.length_cons,Int.pow_succ];grind
theorem bS {l:List Int} (h:Dig l):0≤val l:=by
 induction l with
 |nil=>simp [val]
 |cons x r ih=>rw [Dig.cons] at h;have:=ih h.2;simp only [val];omega
theorem jR {l:List Int} (h:Dig l):val l < 1000000000 ^ l.length:=by
 induction l with
 |nil=>simp [val]
 |cons x r ih=>
  rw [Dig.cons] at h
  have:=ih h.2
  simp only [val,List.length_cons,Int.pow_succ]
  omega
theorem jC (n:Nat):(0:Int) < 1000000000 ^ n:=Int.pow_pos (by decide)
theorem nR {m n:Nat} (h:m≤n):(1000000000:Int) ^ m≤1000000000 ^ n:=by
 obtain ⟨k,rfl⟩:=Nat.le.dest h
 rw [Int.pow_add]
 have h1:=jC m
 have h2:=jC k
 have:(1000000000:Int) ^ m*1≤1000000000 ^ m*1000000000 ^ k:=Int.mul_le_mul_of_nonneg_left (by omega) (by omega)
 omega
theorem aQV:∀{a b:List Int},Dig a→Dig b→a.length=b.length→val a=val b→a=b
 |[],[],_,_,_,_=>rfl
 |[],_::_,_,_,h,_=>by simp at h
 |_::_,[],_,_,h,_=>by simp at h
 |x::r,y::s,ha,hb,hl,h=>by
  rw [Dig.cons] at ha hb
  simp only [val] at h
  have hxy:x=y:=by omega
  have:=aQV ha.2 hb.2 (by simpa using hl) (by omega)
  rw [hxy,this]
def Top (l:List Int):Prop:=l.getLastD 1≠0
instance (l:List Int):Decidable (Top l):=by unfold Top;exact inferInstance
def Can (l:List Int):Prop:=Dig l∧Top l
theorem Top.cons {x y:Int} {r:List Int}:Top (x::y::r)↔Top (y::r):=by simp [Top]
theorem Top.snoc {l:List Int} {x:Int}:Top (l++[x])↔x≠0:=by simp [Top]
theorem aAY {l:List Int} (h:Can l) (hl:0 < l.length):1000000000 ^ (l.length - 1)≤val l:=by
 rcases List.eq_nil_or_concat l with rfl|⟨r,x,e⟩
 ·simp at hl
 ·rw [List.concat_eq_append] at e
  subst e
  obtain ⟨hd,ht⟩:=h
  rw [Dig.app] at hd
  rw [Top.snoc] at ht
  have h1:=bS hd.1
  have h2:=hd.2 x (by simp)
  simp only [val_append,val,List.length_append,List.length_singleton,Nat.add_sub_cancel]
  have h3:=jC r.length
  have:1000000000 ^ r.length*1≤1000000000 ^ r.length*(x+1000000000*0):=Int.mul_le_mul_of_nonneg_left (by omega) (by omega)
  omega
theorem Can.len_le {a b:List Int} (ha:Can a) (hb:Dig b) (h:val a≤val b):a.length≤b.length:=by
 by_cases h0:a.length=0
 ·omega
 ·have h1:=aAY ha (by omega)
  have h2:=jR hb
  by_cases hlt:b.length≤a.length - 1
  ·have:=nR hlt
   omega
  ·omega
theorem Can.inj {a b:List Int} (ha:Can a) (hb:Can b) (h:val a=val b):a=b:=
 aQV ha.1 hb.1 (Nat.le_antisymm (ha.len_le hb.1 (by omega)) (hb.len_le ha.1 (by omega))) h
def gr:Nat→List Int
 |0=>[]
 |n+1=>(((n+1) % 1000000000:Nat):Int)::gr ((n+1) / 1000000000)
termination_by n=>n
decreasing_by omega
theorem gL:gr 0=[]:=by unfold gr;rfl
theorem wG {n:Nat} (h:n≠0):gr n=((n % 1000000000:Nat):Int)::gr (n / 1000000000):=by
 cases n with
 |zero=>exact absurd rfl h
 |succ n=>rw [gr]
theorem bR:∀n,Dig (gr n):=by
 intro n
 induction n using Nat.strongRecOn with
 |_ n ih=>
  by_cases h:n=0
  ·subst h;rw [gL];exact Dig.nil
  ·rw [wG h,Dig.cons]
   exact ⟨by omega,ih _ (by omega)⟩
theorem cO:∀n:Nat,val (gr n)=n:=by
 intro n
 induction n using Nat.strongRecOn with
 |_ n ih=>
  by_cases h:n=0
  ·subst h;rw [gL];rfl
  ·rw [wG h]
   simp only [val]
   rw [ih _ (by omega)]
   omega
theorem oO {n:Nat}:gr n=[]↔n=0:=by
 constructor
 ·intro h
  have:=cO n
  rw [h] at this
  simp [val] at this
  omega
 ·rintro rfl;exact gL
theorem aDI:∀n,Top (gr n):=by
 intro n
 induction n using Nat.strongRecOn with
 |_ n ih=>
  by_cases h:n=0
  ·subst h;rw [gL];decide
  ·rw [wG h]
   by_cases h2:n / 1000000000=0
   ·rw [h2,gL]
    simp only [Top,List.getLastD_cons,List.getLastD_nil]
    omega
   ·rw [wG h2,Top.cons,←wG h2]
    exact ih _ (by omega)
theorem wX (n:Nat):Can (gr n):=⟨bR n,aDI n⟩
theorem bCL {l:List Int} (h:Can l):l=gr (val l).toNat:=by
 refine h.inj (wX _) ?_
 rw [cO]
 have:=bS h.1
 omega
theorem rF {n k:Nat} (h:n < 1000000000 ^ k):(gr n).length≤k:=by
 by_cases h0:(gr n).length=0
 ·omega
 ·have h1:=aAY (wX n) (by omega)
  rw [cO] at h1
  by_cases hlt:k≤(gr n).length - 1
  ·have h2:=nR hlt
   have h3:(n:Int) < ((1000000000 ^ k:Nat):Int):=Int.ofNat_lt.2 h
   rw [Int.natCast_pow,show ((1000000000:Nat):Int)=1000000000 from rfl] at h3
   omega
  ·omega
theorem gV {m n:Nat} (h:m≤n):(gr m).length≤(gr n).length:=(wX m).len_le (bR n) (by rw [cO,cO];omega)
def fZ:List Int→List Int
 |[]=>[]
 |x::r=>if fZ r=[]∧x=0 then [] else x::fZ r
theorem aKT:∀l,val (fZ l)=val l
 |[]=>rfl
 |x::r=>by
  have:=aKT r
  unfold fZ
  split
  ·rename_i h
   rw [h.1] at this
   simp only [val] at this ⊢
   omega
  ·simp only [val,this]
theorem aMD:∀{l},Dig l→Dig (fZ l)
 |[],_=>Dig.nil
 |x::r,h=>by
  rw [Dig.cons] at h
  unfold fZ
  split
  ·exact Dig.nil
  ·rw [Dig.cons];exact ⟨h.1,aMD h.2⟩
theorem aLJ:∀l,Top (fZ l)
 |[]=>by decide
 |x::r=>by
  have ih:=aLJ r
  unfold fZ
  split
  ·decide
  ·rename_i h
   cases ht:fZ r with
   |nil=>
    rw [ht] at h
    simp only [Top,List.getLastD_cons,List.getLastD_nil]
    exact fun hx=>h ⟨rfl,hx⟩
   |cons y s=>rw [Top.cons,←ht];exact ih
theorem bBO {l:List Int} (h:Dig l):fZ l=gr (val l).toNat:=by
 have:=bCL (l:=fZ l) ⟨aMD h,aLJ l⟩
 rwa [aKT] at this
theorem nW {l:List Int} {n:Nat} (h:Dig l) (e:val l=n):fZ l=gr n:=by
 rw [bBO h,e,Int.toNat_natCast]
theorem yR:∀l,fZ (l++[0])=fZ l
 |[]=>by decide
 |x::r=>by
  have:=yR r
  simp only [List.cons_append,fZ,this]
theorem aEY {l:List Int} (h:Top l):fZ l=l:=by
 induction l with
 |nil=>rfl
 |cons x r ih=>
  unfold fZ
  cases r with
  |nil=>
   simp only [Top,List.getLastD_cons,List.getLastD_nil] at h
   rw [if_neg (fun hh=>h hh.2)]
   rfl
  |cons y s=>
   rw [Top.cons] at h
   rw [ih h,if_neg (by simp)]
theorem xP:∀l,∃k,k≤l.length∧fZ l=l.take k∧(∀i,k≤i→l.getD i 0=0)
 |[]=>⟨0,by simp,rfl,by simp⟩
 |x::r=>by
  obtain ⟨k,hk,he,hz⟩:=xP r
  unfold fZ
  split
  ·rename_i h
   refine ⟨0,by simp,rfl,fun i _=>?_⟩
   cases i with
   |zero=>simpa using h.2
   |succ i=>
    have hr:r.take k=[]:=by rw [←he];exact h.1
    have:k=0∨r=[]:=by simpa [List.take_eq_nil_iff] using hr
    rcases this with rfl|rfl
    ·simpa using hz i (by omega)
    ·simp
  ·refine ⟨k+1,by simp;omega,by rw [he];rfl,fun i hi=>?_⟩
   cases i with
   |zero=>omega
   |succ i=>simpa using hz i (by omega)
/- places: read, written -/
theorem bT (l:List Int) (i:Nat):val (l.take (i+1))=val (l.take i)+1000000000 ^ i*l.getD i 0:=by
 induction l generalizing i with
 |nil=>simp [val]
 |cons x r ih=>
  cases i with
  |zero=>simp [val]
  |succ i=>
   have:=ih i
   simp only [List.take_succ_cons,val,this,List.getD_cons_succ,Int.pow_succ]
   grind
theorem uU (l:List Int) (i:Nat) (h:i < l.length):val (l.drop i)=l.getD i 0+1000000000*val (l.drop (i+1)):=by
 rw [List.drop_eq_getElem_cons h]
 simp [val,List.getD,h]
theorem kP (l:List Int) (i:Nat) (h:i≤l.length):val l=val (l.take i)+1000000000 ^ i*val (l.drop i):=by
 have e:=val_append (l.take i) (l.drop i)
 rw [List.take_append_drop,List.length_take,Nat.min_eq_left h] at e
 exact e
theorem aCY (l:List Int) (i:Nat) (x:Int) (h:i < l.length):val (l.set i x)=val l+1000000000 ^ i*(x - l.getD i 0):=by
 induction l generalizing i with
 |nil=>simp at h
 |cons y r ih=>
  cases i with
  |zero=>simp [val];omega
  |succ i=>
   have:=ih i (by simpa using h)
   simp only [List.set_cons_succ,val,this,List.getD_cons_succ,Int.pow_succ]
   grind
theorem iX (l:List Int) (i:Nat) (x:Int) (h:i < l.length):(l.set i x).take (i+1)=l.take i++[x]:=by
 apply List.ext_getElem?
 intro j
 by_cases h1:j < i
 ·rw [List.getElem?_take,if_pos (by omega),List.getElem?_set_ne (by omega),List.getElem?_append_left (by simp;omega),List.getElem?_take,if_pos h1]
 ·by_cases h2:j=i
  ·subst h2
   rw [List.getElem?_take,if_pos (by omega),List.getElem?_set_self h,List.getElem?_append_right (by simp;omega)]
   simp [Nat.min_eq_left (Nat.le_of_lt h)]
  ·rw [List.getElem?_take,if_neg (by omega),List.getElem?_append_right (by simp;omega)]
   simp only [List.length_take]
   rw [List.getElem?_eq_none (by simp;omega)]
theorem drop_set (l:List Int) (i:Nat) (x:Int) (h:i < l.length):(l.set i x).drop i=x::l.drop (i+1):=by
 apply List.ext_getElem?
 intro j
 cases j with
 |zero=>simp [h]
 |succ j=>
  rw [List.getElem?_drop,List.getElem?_set_ne (by omega),List.getElem?_cons_succ,List.getElem?_drop]
  congr 1
  omega
theorem Dig.getD {l:List Int} (h:Dig l) (i:Nat):0≤l.getD i 0∧l.getD i 0 < 1000000000:=by
 by_cases hi:i < l.length
 ·have:l.getD i 0=l[i]:=by simp [List.getD,hi]
  rw [this]
  exact h _ (List.getElem_mem hi)
 ·have:l.getD i 0=0:=by simp [List.getD,Nat.le_of_not_lt hi]
  rw [this]
  decide
theorem Dig.take {l:List Int} (h:Dig l) (i:Nat):Dig (l.take i):=fun x hx=>h x (List.mem_of_mem_take hx)
theorem Dig.drop {l:List Int} (h:Dig l) (i:Nat):Dig (l.drop i):=fun x hx=>h x (List.mem_of_mem_drop hx)
theorem Dig.set {l:List Int} (h:Dig l) (i:Nat) {x:Int} (hx:0≤x∧x < 1000000000):Dig (l.set i x):=fun y hy=>by
 rcases List.mem_or_eq_of_mem_set hy with hy|rfl
 ·exact h y hy
 ·exact hx
theorem Dig.snoc {l:List Int} (h:Dig l) {x:Int} (hx:0≤x∧x < 1000000000):Dig (l++[x]):=Dig.app.2 ⟨h,by rw [Dig.cons];exact ⟨hx,Dig.nil⟩⟩
theorem Dig.zeros (n:Nat):Dig (List.replicate n 0):=fun x hx=>by
 rw [List.eq_of_mem_replicate hx];decide
theorem aBH (n:Nat):val (List.replicate n 0)=0:=by
 induction n with
 |zero=>rfl
 |succ n ih=>simp only [List.replicate_succ,val,ih];rfl
theorem iK {l:List Int} (h:Dig l) (i:Nat):val (l.take i) < 1000000000 ^ i:=by
 have h1:=jR (h.take i)
 have h2:=nR (show (l.take i).length≤i by simp;omega)
 omega
theorem aKR {a b o:List Int} {i:Nat} {c s:Int} (hv:val (o.take i)+1000000000 ^ i*c=val (a.take i)+val (b.take i)) (hi:i < o.length) {s' c':Int} (hs:s=a.getD i 0+b.getD i 0+c) (he:s'+1000000000*c'=s):
  val ((o.set i s').take (i+1))+1000000000 ^ (i+1)*c'=val (a.take (i+1))+val (b.take (i+1)):=by
 rw [iX o i s' hi,val_append,bT,bT]
 simp only [List.length_take,Nat.min_eq_left (Nat.le_of_lt hi),val,Int.pow_succ]
 grind
theorem aKP {a b o:List Int} {i:Nat} {c:Int} (hv:val (o.take i) - 1000000000 ^ i*c=val (a.take i) - val (b.take i)) (hi:i < o.length) {s' c':Int} (he:s' - 1000000000*c'=a.getD i 0 - b.getD i 0 - c):
  val ((o.set i s').take (i+1)) - 1000000000 ^ (i+1)*c'=val (a.take (i+1)) - val (b.take (i+1)):=by
 rw [iX o i s' hi,val_append,bT,bT]
 simp only [List.length_take,Nat.min_eq_left (Nat.le_of_lt hi),val,Int.pow_succ]
 grind
theorem tY {p q o c:Int} (hp:0≤p∧p < 1000000000) (hq:0≤q∧q < 1000000000) (ho:0≤o∧o < 1000000000) (hc:0≤c∧c < 1000000000):
  (0≤p*q∧p*q≤999999998000000001)∧(0≤o+p*q+c∧o+p*q+c≤999999999999999999)∧(0≤(o+p*q+c) / 1000000000∧(o+p*q+c) / 1000000000 < 1000000000):=by
 have h0:0≤p*q:=Int.mul_nonneg hp.1 hq.1
 have h1:p*q≤999999999*999999999:=Int.mul_le_mul (by omega) (by omega) hq.1 (by omega)
 refine ⟨by omega,by omega,by omega⟩
theorem aNH {o b:List Int} {i j:Nat} {p c S:Int} (hv:val o+1000000000 ^ (i+j)*c=S+1000000000 ^ i*(p*val (b.take j))) (hij:i+j < o.length):
  val (o.set (i+j) ((o.getD (i+j) 0+p*b.getD j 0+c) % 1000000000))+1000000000 ^ (i+(j+1))*((o.getD (i+j) 0+p*b.getD j 0+c) / 1000000000)=S+1000000000 ^ i*(p*val (b.take (j+1))):=by
 rw [aCY o _ _ hij,bT]
 have e:(o.getD (i+j) 0+p*b.getD j 0+c)=(o.getD (i+j) 0+p*b.getD j 0+c) % 1000000000+1000000000*((o.getD (i+j) 0+p*b.getD j 0+c) / 1000000000):=by omega
 generalize (o.getD (i+j) 0+p*b.getD j 0+c) % 1000000000=s at*
 generalize (o.getD (i+j) 0+p*b.getD j 0+c) / 1000000000=t at*
 have e1:(1000000000:Int) ^ (i+(j+1))=1000000000 ^ (i+j)*1000000000:=by rw [←Nat.add_assoc,Int.pow_succ]
 have e2:(1000000000:Int) ^ (i+j)=1000000000 ^ i*1000000000 ^ j:=Int.pow_add _ _ _
 rw [e1,e2]
 rw [e2] at hv
 clear e1 e2
 generalize (1000000000:Int) ^ i=A at*
 generalize (1000000000:Int) ^ j=D at*
 generalize o.getD (i+j) 0=u at*
 generalize b.getD j 0=v at*
 generalize val o=x at*
 generalize val (b.take j)=y at*
 clear hij
 grind
theorem aIH {o b:List Int} {i:Nat} {p c S:Int} (hv:val o+1000000000 ^ (i+b.length)*c=S+1000000000 ^ i*(p*val (b.take b.length))) (hij:i+b.length < o.length) (hz:o.getD (i+b.length) 0=0):
  val (o.set (i+b.length) c)=S+1000000000 ^ i*(p*val b):=by
 rw [aCY o _ _ hij,hz,Int.sub_zero,hv,List.take_length]
theorem aGL {r g d:Int} (hd:0 < d) (hd2:d≤1000000000) (hr:0≤r∧r < d) (hg:0≤g∧g < 1000000000):
  (0≤r*1000000000∧r*1000000000+g≤999999999999999999)∧(0≤(r*1000000000+g) / d∧(r*1000000000+g) / d < 1000000000)∧(0≤(r*1000000000+g) % d∧(r*1000000000+g) % d < d):=by
 have h1:(r*1000000000+g) / d < 1000000000:=by
  rw [Int.ediv_lt_iff_lt_mul hd]
  have:(r+1)*1000000000≤d*1000000000:=Int.mul_le_mul_of_nonneg_right (by omega) (by omega)
  have e:(1000000000:Int)*d=d*1000000000:=Int.mul_comm _ _
  omega
 have h2:0≤(r*1000000000+g) / d:=Int.ediv_nonneg (by omega) (by omega)
 have h3:=Int.emod_nonneg (r*1000000000+g) (show d≠0 by omega)
 have h4:=Int.emod_lt_of_pos (r*1000000000+g) hd
 exact ⟨by omega,by omega,by omega⟩
theorem aKA {a q:List Int} {i:Nat} {d r:Int} (hia:i < a.length) (hiq:i < q.length) (hv:val (a.drop (i+1))=d*val (q.drop (i+1))+r):
  val (a.drop i)=d*val ((q.set i ((r*1000000000+a.getD i 0) / d)).drop i)+(r*1000000000+a.getD i 0) % d:=by
 rw [uU a i hia,drop_set q i _ hiq,hv]
 have e:=Int.mul_ediv_add_emod (r*1000000000+a.getD i 0) d
 simp only [val]
 generalize (r*1000000000+a.getD i 0) / d=s at*
 generalize (r*1000000000+a.getD i 0) % d=t at*
 grind
/- comparing -/
theorem aIQ {a b:List Int} (ha:Can a) (hb:Can b) (h:a.length < b.length):val a < val b:=by
 by_cases c:val b≤val a
 ·have:=hb.len_le ha.1 c;omega
 ·omega
theorem aVE {a b:List Int} {i:Nat} (ha:Dig a) (hb:Dig b) (hl:a.length=b.length) (hi:i < a.length) (hs:a.drop (i+1)=b.drop (i+1)) (hlt:a.getD i 0 < b.getD i 0):val a < val b:=by
 have e1:=kP a i (by omega)
 have e2:=kP b i (by omega)
 rw [uU a i hi] at e1
 rw [uU b i (by omega),←hs] at e2
 have h1:=iK ha i
 have h2:=bS (hb.take i)
 have h3:1000000000 ^ i*(a.getD i 0+1)≤1000000000 ^ i*b.getD i 0:=Int.mul_le_mul_of_nonneg_left (by omega) (Int.le_of_lt (jC i))
 generalize (1000000000:Int) ^ i=A at*
 generalize val (a.drop (i+1))=D at*
 rw [Int.mul_add] at e1 e2 h3
 omega
theorem aXY {a b:List Int} {i:Nat} (hl:a.length=b.length) (hi:i < a.length) (he:a.getD i 0=b.getD i 0) (hs:a.drop (i+1)=b.drop (i+1)):a.drop i=b.drop i:=by
 rw [List.drop_eq_getElem_cons hi,List.drop_eq_getElem_cons (show i < b.length by omega),hs]
 simp [List.getD,hi,show i < b.length by omega] at he
 rw [he]
theorem jA (l:List Int) (i j:Nat):(l.drop i).getD j 0=l.getD (i+j) 0:=by
 simp [List.getD,List.getElem?_drop]
theorem mZ {a b c:Int} (hc:0 < c) (h:a*c < b*c):a < b:=by
 by_cases hh:b≤a
 ·have:=Int.mul_le_mul_of_nonneg_right hh (Int.le_of_lt hc);omega
 ·omega
theorem wW {l:List Int} {k:Nat} (hd:Dig l) (h:val l < 1000000000 ^ (k+1)):val l=val (l.take k)+1000000000 ^ k*l.getD k 0:=by
 have e:=bT l k
 by_cases hl:k+1≤l.length
 ·have e2:=kP l (k+1) hl
  have h3:=bS (hd.take (k+1))
  have h5:=bS (hd.drop (k+1))
  by_cases h0:val (l.drop (k+1))=0
  ·rw [h0] at e2
   omega
  ·have:1000000000 ^ (k+1)*1≤1000000000 ^ (k+1)*val (l.drop (k+1)):=Int.mul_le_mul_of_nonneg_left (by omega) (Int.le_of_lt (jC _))
   omega
 ·rw [List.take_of_length_le (show l.length≤k+1 by omega)] at e
  exact e
section
variable {T V t1 t0 t2 v1 v0 P g r:Int}
structure Knu (T V P t2 t1 t0 v1 v0:Int):Prop where
 hP:1≤P
 ht:(t2*1000000000*1000000000+t1*1000000000+t0)*P≤T∧T < (t2*1000000000*1000000000+t1*1000000000+t0+1)*P
 hv:(v1*1000000000+v0)*P≤V∧V < (v1*1000000000+v0+1)*P
 d2:0≤t2∧t2 < 1000000000
 d1:0≤t1∧t1 < 1000000000
 d0:0≤t0∧t0 < 1000000000
 e1:1≤v1∧v1 < 1000000000
 e0:0≤v0∧v0 < 1000000000
 lt:T < 1000000000*V
 T0:0≤T
theorem Knu.V0 (h:Knu T V P t2 t1 t0 v1 v0):1000000000*P≤V:=by
 have:1000000000*P≤(v1*1000000000+v0)*P:=Int.mul_le_mul_of_nonneg_right (by have:=h.e1;have:=h.e0;omega) (by have:=h.hP;omega)
 have:=h.hv
 omega
theorem Knu.T2 (h:Knu T V P t2 t1 t0 v1 v0):t2*1000000000+t1 < 1000000000*(v1+1):=by
 have hP:=h.hP
 have h1:=h.ht.1
 have h2:=h.hv.2
 have h3:=h.lt
 have e0:=h.e0
 have d0:=h.d0
 have d1:=h.d1
 have:(t2*1000000000*1000000000+t1*1000000000+t0)*P < (1000000000*(v1*1000000000+v0+1))*P:=by
  have e:(1000000000*(v1*1000000000+v0+1))*P=1000000000*((v1*1000000000+v0+1)*P):=Int.mul_assoc _ _ _
  omega
 have:=mZ (by omega) this
 omega
def GeQ (T V g:Int):Prop:=T < (g+1)*V
theorem Knu.start (h:Knu T V P t2 t1 t0 v1 v0) (hg:g*v1+r=t2*1000000000+t1) (hr:r < v1):GeQ T V g:=by
 have hP:=h.hP
 have h1:=h.ht.2
 have h2:=h.hv.1
 have e0:=h.e0
 have e1:=h.e1
 have d0:=h.d0
 have d1:=h.d1
 have d2:=h.d2
 have hg0:0≤g+1:=by
  by_cases c:0≤g+1
  ·exact c
  ·have:(g+1)*v1≤(-1)*v1:=Int.mul_le_mul_of_nonneg_right (by omega) (by omega)
   rw [Int.add_mul] at this
   omega
 have k1:(g+1)*((v1*1000000000+v0)*P)≤(g+1)*V:=Int.mul_le_mul_of_nonneg_left h2 hg0
 have k2:(t2*1000000000*1000000000+t1*1000000000+t0+1)*P≤((g+1)*(v1*1000000000+v0))*P:=by
  refine Int.mul_le_mul_of_nonneg_right ?_ (by omega)
  have k3:0≤(g+1)*v0:=Int.mul_nonneg hg0 e0.1
  have k4:(g+1)*(v1*1000000000+v0)=(g*v1)*1000000000+v1*1000000000+(g+1)*v0:=by grind
  omega
 unfold GeQ
 have k5:((g+1)*(v1*1000000000+v0))*P=(g+1)*((v1*1000000000+v0)*P):=Int.mul_assoc _ _ _
 omega
theorem Knu.less (h:Knu T V P t2 t1 t0 v1 v0) (hg:g*v1+r=t2*1000000000+t1) (hq:GeQ T V g) (hc:1000000000≤g∨r*1000000000+t0 < g*v0):GeQ T V (g - 1):=by
 have hP:=h.hP
 have e0:=h.e0
 unfold GeQ
 have e:g - 1+1=g:=by omega
 rw [e]
 rcases hc with hc|hc
 ·have hV:=h.V0
  have:1000000000*V≤g*V:=Int.mul_le_mul_of_nonneg_right hc (by omega)
  have:=h.lt
  omega
 ·have hg0:0≤g:=by
   by_cases c:0≤g
   ·exact c
   ·exfalso
    have hV:=h.V0
    have:(g+1)*V≤0*V:=Int.mul_le_mul_of_nonneg_right (by omega) (by omega)
    have:=h.T0
    unfold GeQ at hq
    omega
  have k1:g*((v1*1000000000+v0)*P)≤g*V:=Int.mul_le_mul_of_nonneg_left h.hv.1 hg0
  have k2:(t2*1000000000*1000000000+t1*1000000000+t0+1)*P≤(g*(v1*1000000000+v0))*P:=by
   refine Int.mul_le_mul_of_nonneg_right ?_ (by omega)
   have k4:g*(v1*1000000000+v0)=(g*v1)*1000000000+g*v0:=by grind
   omega
  have k5:(g*(v1*1000000000+v0))*P=g*((v1*1000000000+v0)*P):=Int.mul_assoc _ _ _
  have:=h.ht.2
  omega
theorem Knu.done (h:Knu T V P t2 t1 t0 v1 v0) (hg:g*v1+r=t2*1000000000+t1) (hg0:0≤g) (hgB:g < 1000000000) (hc:1000000000≤r∨g*v0≤r*1000000000+t0):g*V≤T+V:=by
 have hP:=h.hP
 have e0:=h.e0
 have d0:=h.d0
 have k1:g*V≤g*((v1*1000000000+v0+1)*P):=Int.mul_le_mul_of_nonneg_left (by have:=h.hv.2;omega) hg0
 have k5:g*((v1*1000000000+v0+1)*P)=(g*(v1*1000000000+v0)+g)*P:=by grind
 have k4:g*(v1*1000000000+v0)=(g*v1)*1000000000+g*v0:=by grind
 have k6:g*v0≤g*999999999:=Int.mul_le_mul_of_nonneg_left (by omega) hg0
 have k7:(g*(v1*1000000000+v0)+g)*P≤(t2*1000000000*1000000000+t1*1000000000+t0+1000000000)*P:=by
  refine Int.mul_le_mul_of_nonneg_right ?_ (by omega)
  rcases hc with hc|hc <;>omega
 have k8:(t2*1000000000*1000000000+t1*1000000000+t0+1000000000)*P=(t2*1000000000*1000000000+t1*1000000000+t0)*P+1000000000*P:=Int.add_mul _ _ _
 have:=h.V0
 have:=h.ht.1
 omega
end
theorem bDB {u v:List Int} {n:Nat} (hu:Dig u) (hv:Dig v) (hn:2≤n) (hl:v.length=n) (htop:1≤v.getD (n - 1) 0) (hlt:val u < 1000000000*val v):
  Knu (val u) (val v) (1000000000 ^ (n - 2)) (u.getD n 0) (u.getD (n - 1) 0) (u.getD (n - 2) 0) (v.getD (n - 1) 0) (v.getD (n - 2) 0):=by
 obtain ⟨k,rfl⟩:∃k,n=k+2:=⟨n - 2,by omega⟩
 simp only [show k+2 - 1=k+1 from rfl,show k+2 - 2=k from rfl] at*
 have hvlt:=jR hv
 rw [hl] at hvlt
 have e3:=wW (k:=k+2) hu (by rw [Int.pow_succ];omega)
 have e4:=wW (k:=k+1) hv (by omega)
 rw [bT,bT] at e3
 rw [bT] at e4
 have p:=jC k
 have l1:=iK hu k
 have l2:=iK hv k
 have m1:=bS (hu.take k)
 have m2:=bS (hv.take k)
 have q1:(1000000000:Int) ^ (k+1)=1000000000 ^ k*1000000000:=Int.pow_succ _ _
 have q2:(1000000000:Int) ^ (k+2)=1000000000 ^ k*1000000000*1000000000:=by rw [Int.pow_succ,Int.pow_succ]
 rw [q1,q2] at e3
 rw [q1] at e4
 refine ⟨by omega,?_,?_,hu.getD _,hu.getD _,hu.getD _,⟨htop,(hv.getD _).2⟩,hv.getD _,hlt,bS hu⟩
 ·generalize (1000000000:Int) ^ k=A at*
  generalize u.getD (k+2) 0=a at*
  generalize u.getD (k+1) 0=b at*
  generalize u.getD k 0=c at*
  have:val u=val (u.take k)+(a*1000000000*1000000000+b*1000000000+c)*A:=by rw [e3];grind
  constructor
  ·omega
  ·rw [Int.add_mul];omega
 ·generalize (1000000000:Int) ^ k=A at*
  generalize v.getD (k+1) 0=b at*
  generalize v.getD k 0=c at*
  have:val v=val (v.take k)+(b*1000000000+c)*A:=by rw [e4];grind
  constructor
  ·omega
  ·rw [Int.add_mul];omega
theorem aSH {o U v:List Int} {j i:Nat} {g b c d d' b':Int} (hv:val ((o.drop j).take i)+g*val (v.take i)=val ((U.drop j).take i)+1000000000 ^ i*(b+c)) (hi:j+i < o.length) (hs:(o.drop (j+i))=U.drop (j+i)) (hd:d=U.getD (j+i) 0 - b - (g*v.getD i 0+c) % 1000000000) (he:d'=d+1000000000*b'):
  val (((o.set (j+i) d').drop j).take (i+1))+g*val (v.take (i+1))=val ((U.drop j).take (i+1))+1000000000 ^ (i+1)*(b'+(g*v.getD i 0+c) / 1000000000)∧(o.set (j+i) d').drop (j+(i+1))=U.drop (j+(i+1)):=by
 constructor
 ·have e1:(o.set (j+i) d').drop j=(o.drop j).set i d':=by
   rw [List.drop_set]
   rw [if_neg (by omega)]
   congr 1
   omega
  have hl:i < (o.drop j).length:=by simp;omega
  rw [e1,iX _ i d' hl,val_append,bT,bT (U.drop j),jA]
  simp only [List.length_take,Nat.min_eq_left (Nat.le_of_lt hl),val,Int.pow_succ]
  have e2:g*v.getD i 0+c=(g*v.getD i 0+c) % 1000000000+1000000000*((g*v.getD i 0+c) / 1000000000):=by omega
  generalize (g*v.getD i 0+c) % 1000000000=s at*
  generalize (g*v.getD i 0+c) / 1000000000=t at*
  generalize (1000000000:Int) ^ i=A at*
  generalize v.getD i 0=x at*
  generalize U.getD (j+i) 0=y at*
  generalize val ((o.drop j).take i)=z at*
  generalize val ((U.drop j).take i)=z2 at*
  generalize val (v.take i)=z3 at*
  clear e1 hl hs hi
  subst hd he
  grind
 ·have e:((o.set (j+i) d').drop (j+(i+1)))=o.drop (j+i+1):=by
   rw [←Nat.add_assoc,List.drop_set,if_pos (by omega)]
  rw [e,←Nat.add_assoc]
  have h1:o.drop (j+i+1)=(o.drop (j+i)).drop 1:=by rw [List.drop_drop]
  have h2:U.drop (j+i+1)=(U.drop (j+i)).drop 1:=by rw [List.drop_drop]
  rw [h1,h2,hs]
def Ht (k:Nat) (q:Rat):Prop:=q.num.natAbs≤2 ^ k∧q.den≤2 ^ k
instance (k:Nat) (q:Rat):Decidable (Ht k q):=by unfold Ht;exact inferInstance
theorem yU (p q:Rat):p+q=Rat.divInt (p.num*q.den+q.num*p.den) (p.den*q.den):=by
 have:=Rat.divInt_add_divInt p.num q.num (d₁:=p.den) (d₂:=q.den) (by have:=p.den_nz;omega) (by have:=q.den_nz;omega)
 rw [Rat.num_divInt_den,Rat.num_divInt_den] at this
 exact this
theorem aFB (p q:Rat):p*q=Rat.divInt (p.num*q.num) (p.den*q.den):=by
 have:=Rat.divInt_mul_divInt p.num q.num (d₁:=p.den) (d₂:=q.den)
 rw [Rat.num_divInt_den,Rat.num_divInt_den] at this
 exact this
theorem aDJ (p q:Rat):p / q=Rat.divInt (p.num*q.den) (p.den*q.num):=by
 rw [Rat.div_def,Rat.inv_def]
 have:=Rat.divInt_mul_divInt p.num q.den (d₁:=p.den) (d₂:=q.num)
 rw [Rat.num_divInt_den] at this
 exact this
theorem aBU {a b k m:Nat} (ha:a≤2 ^ k) (hb:b≤2 ^ m):a*b≤2 ^ (k+m):=by
 rw [Nat.pow_add]
 exact Nat.mul_le_mul ha hb
theorem fA {n k:Nat} (h:n≤2 ^ k):(gr n).length≤k / 29+1:=by
 refine rF ?_
 have h1:2 ^ k < 2 ^ (29*(k / 29+1)):=Nat.pow_lt_pow_right (by omega) (by omega)
 have h2:(2:Nat) ^ (29*(k / 29+1))≤1000000000 ^ (k / 29+1):=by
  rw [Nat.pow_mul]
  exact Nat.pow_le_pow_left (by decide) _
 omega
theorem pG {y z q r:Int} (h:y=z*q+r) (hr:(0≤r∧r < z)∨(z < r∧r≤0)):y.fdiv z=q∧y.fmod z=r:=by
 have pos:∀{y z q r:Int},y=z*q+r→0≤r→r < z→y.fdiv z=q∧y.fmod z=r:=by
  intro y z q r h h0 h1
  have:=(Int.ediv_emod_unique (a:=y) (b:=z) (r:=r) (q:=q) (by omega)).2 ⟨by omega,h0,h1⟩
  rw [Int.fdiv_eq_ediv_of_nonneg _ (by omega),Int.fmod_eq_emod_of_nonneg _ (by omega)]
  exact this
 rcases hr with ⟨h0,h1⟩|⟨h0,h1⟩
 ·exact pos h h0 h1
 ·have h2:=pos (y:= -y) (z:= -z) (q:=q) (r:= -r) (by rw [Int.neg_mul];omega) (by omega) (by omega)
  rw [Int.neg_fdiv_neg,Int.neg_fmod_neg] at h2
  exact ⟨h2.1,by omega⟩
theorem aAN {y z:Int} (hz:z≠0):
  (¬(y < 0↔z < 0)→y.natAbs % z.natAbs≠0→y.fdiv z= -((y.natAbs / z.natAbs+1:Nat):Int)∧y.fmod z=if z < 0 then -((z.natAbs - y.natAbs % z.natAbs:Nat):Int) else ((z.natAbs - y.natAbs % z.natAbs:Nat):Int))∧
  (((y < 0↔z < 0)∨y.natAbs % z.natAbs=0)→y.fdiv z=(if ¬(y < 0↔z < 0) then -((y.natAbs / z.natAbs:Nat):Int) else ((y.natAbs / z.natAbs:Nat):Int))∧y.fmod z=if z < 0 then -((y.natAbs % z.natAbs:Nat):Int) else ((y.natAbs % z.natAbs:Nat):Int)):=by
 have hlt:=Nat.mod_lt y.natAbs (show z.natAbs>0 by omega)
 have hab:(y.natAbs:Int)=(z.natAbs:Int)*((y.natAbs / z.natAbs:Nat):Int)+((y.natAbs % z.natAbs:Nat):Int):=by
  rw [←Int.natCast_mul,←Int.natCast_add,Nat.div_add_mod]
 generalize hQ:y.natAbs / z.natAbs=Q at*
 generalize hR:y.natAbs % z.natAbs=R at*
 generalize hb:z.natAbs=b at*
 generalize hp:(b:Int)*(Q:Int)=p at*
 constructor
 ·intro hs hR0
  by_cases hz0:z < 0
  ·have hy:¬y < 0:=fun h=>hs ⟨fun _=>hz0,fun _=>h⟩
   have e:z= -(b:Int):=by omega
   rw [if_pos hz0]
   refine pG ?_ (.inr ⟨by omega,by omega⟩)
   rw [e,Int.neg_mul,Int.mul_neg,Int.neg_neg,Int.natCast_add,Int.mul_add,hp];omega
  ·have hy:y < 0:=by rcases Classical.em (y < 0) with h|h;exact h;exact absurd ⟨fun h'=>absurd h' h,fun h'=>absurd h' hz0⟩ hs
   have e:z=(b:Int):=by omega
   rw [if_neg hz0]
   refine pG ?_ (.inl ⟨by omega,by omega⟩)
   rw [e,Int.mul_neg,Int.natCast_add,Int.mul_add,hp];omega
 ·intro hs
  by_cases hd:(y < 0↔z < 0)
  ·rw [if_neg (fun h=>h hd)]
   by_cases hz0:z < 0
   ·have hy:=hd.2 hz0
    have e:z= -(b:Int):=by omega
    rw [if_pos hz0]
    refine pG ?_ (.inr ⟨by omega,by omega⟩)
    rw [e,Int.neg_mul,hp];omega
   ·have hy:¬y < 0:=fun h=>hz0 (hd.1 h)
    have e:z=(b:Int):=by omega
    rw [if_neg hz0]
    refine pG ?_ (.inl ⟨by omega,by omega⟩)
    rw [e,hp];omega
  ·have hR0:=hs.resolve_left hd
   rw [if_pos hd]
   by_cases hz0:z < 0
   ·have hy:¬y < 0:=fun h=>hd ⟨fun _=>hz0,fun _=>h⟩
    have e:z= -(b:Int):=by omega
    rw [if_pos hz0]
    refine pG ?_ (.inr ⟨by omega,by omega⟩)
    rw [e,Int.neg_mul,Int.mul_neg,Int.neg_neg,hp];omega
   ·have hy:y < 0:=by rcases Classical.em (y < 0) with h|h;exact h;exact absurd ⟨fun h'=>absurd h' h,fun h'=>absurd h' hz0⟩ hd
    have e:z=(b:Int):=by omega
    rw [if_neg hz0]
    refine pG ?_ (.inl ⟨by omega,by omega⟩)
    rw [e,Int.mul_neg,hp];omega
theorem yB {n d:Int} (hd:d≠0):∃m:Int,m≠0∧n=(Rat.divInt n d).num*m∧d=(Rat.divInt n d).den*m∧(Int.gcd n d:Int)=(m.natAbs:Int)∧(m < 0↔d < 0):=by
 obtain ⟨m,hm,h1,h2⟩:=Rat.divInt_num_den (n:=n) (d:=d) (n':=(Rat.divInt n d).num) (d':=(Rat.divInt n d).den) (z':=(Rat.divInt n d).den_nz) (c:=(Rat.divInt n d).reduced) hd rfl
 refine ⟨m,hm,h1,h2,?_,?_⟩
 ·have hc:=(Rat.divInt n d).reduced
  have key:∀(a:Int) (b:Nat),Nat.gcd a.natAbs b=1→Int.gcd (a*m) ((b:Int)*m)=m.natAbs:=by
   intro a b h
   rw [Int.gcd_eq_natAbs_gcd_natAbs,Int.natAbs_mul,Int.natAbs_mul,Int.natAbs_natCast,Nat.gcd_mul_right,h,Nat.one_mul]
  have h3:=key _ _ hc
  rw [←h1,←h2] at h3
  have this:=h3
  rw [this]
 ·have hp:(0:Int) < (Rat.divInt n d).den:=by have:=(Rat.divInt n d).den_nz;omega
  constructor
  ·intro h;rw [h2];exact Int.mul_neg_of_pos_of_neg hp h
  ·intro h
   rcases Int.lt_trichotomy m 0 with h'|h'|h'
   ·exact h'
   ·exact absurd h' hm
   ·have:=Int.mul_pos hp h';omega
theorem aKM {q m:Int} (hm:m≠0):(q*m).fdiv m=q:=by
 refine (pG (y:=q*m) (z:=m) (q:=q) (r:=0) (by rw [Int.mul_comm];omega) ?_).1
 omega
theorem aQK {n d g:Int} (hd:d≠0) (hg:g=if d < 0 then -(Int.gcd n d:Int) else (Int.gcd n d:Int)):n.fdiv g=(Rat.divInt n d).num∧d.fdiv g=((Rat.divInt n d).den:Int)∧g≠0:=by
 obtain ⟨m,hm,h1,h2,h3,h4⟩:=yB (n:=n) hd
 have e:g=m:=by
  rw [hg,h3]
  by_cases h:d < 0
  ·rw [if_pos h];have:=h4.2 h;omega
  ·rw [if_neg h];have:¬m < 0:=fun h'=>h (h4.1 h');omega
 rw [e]
 refine ⟨?_,?_,hm⟩
 ·exact (congrArg (fun x=>Int.fdiv x m) h1).trans (aKM hm)
 ·exact (congrArg (fun x=>Int.fdiv x m) h2).trans (aKM hm)
theorem aFE {n d:Int}:Rat.divInt (-n) (-d)=Rat.divInt n d:=Rat.neg_divInt_neg n d
theorem aPU (q:Rat):Int.gcd q.num q.den=1:=by
 rw [Int.gcd_eq_natAbs_gcd_natAbs,Int.natAbs_natCast]
 exact q.reduced
theorem bCY (p q:Rat):p < q↔p.num*q.den < q.num*p.den:=Rat.lt_iff p q
theorem bDH (p q:Rat):p=q↔p.num*q.den=q.num*p.den:=by
 constructor
 ·rintro rfl;rfl
 ·intro h
  rw [←Rat.num_divInt_den p,←Rat.num_divInt_den q]
  refine (Rat.divInt_eq_divInt_iff (by have:=p.den_nz;omega) (by have:=q.den_nz;omega)).2 h
theorem aRM {R b g top low P b1 bl:Nat} (hR:R=top*P+low) (hb:b=b1*P+bl) (hl:low < P) (hbl:bl < P) (hg:g=top / (b1+1)):g*b≤R:=by
 have h1:g*(b1+1)≤top:=by rw [hg];exact Nat.div_mul_le_self _ _
 have h2:b≤(b1+1)*P:=by rw [hb,Nat.add_mul];omega
 have h3:g*b≤g*((b1+1)*P):=Nat.mul_le_mul_left _ h2
 have h4:g*((b1+1)*P)≤top*P:=by rw [←Nat.mul_assoc];exact Nat.mul_le_mul_right _ h1
 omega
end Go.Proofs.YtmmmfphealhapaaGreat
namespace Go.Fx
def CsJ (J:Nat) (X:List Nat) (w0:World) (M:List Ent) (I:List aM):Nat→World→Prop:=fun s w=>s≤J→Mem X w0 M I w
section
variable {P:Program} {n:Nat} {Q Q':Exit→Act→World→Prop} {G:Env} {X:List Nat} {w0:World} {M M' M1:List Ent} {I I' I1:List aM}
theorem bA {id:Nat} {l:List Oper} (J:Nat) (p ms:List Nat) (hx:P.follows .mixedOrders=true)
  (hp:(Region.noSelect l.toArray && iD l.toArray p ms (Array.replicate l.length false) && p.length==l.length)=true)
  (h:RD P n l Q (.any (CsJ J X w0 M I) 0 ms) (pick l p) G X w0 M I):TD P n (.region id l.toArray true) Q G X w0 M I:=
 tV (CsJ J X w0 M I) p ms hx (fun s w h hs=>h (by omega)) hp (fun _ h _=>h) h
theorem View.upto {J k:Nat} {ms:List Nat} (h:k+ms.headD 0≤J):View (.any (CsJ J X w0 M1 I1) k ms) X w0 M I M1 I1:=⟨fun w w' _ hc=>by
 have hc':CsJ J X w0 M1 I1 (k+ms.headD 0) w':=hc
 exact hc' h⟩
theorem OkD.uptoN {J k:Nat} {ms:List Nat} (h:J≤k):OkD (.any (CsJ J X w0 M1 I1) k ms) X w0 M I:=⟨fun w _=>by
 show CsJ J X w0 M1 I1 (k+1) w
 intro hs
 omega⟩
theorem OkD.uptoY {J k:Nat} {ms:List Nat} (hM:SubP M M1) (hI:Inc I I1):OkD (.any (CsJ J X w0 M1 I1) k ms) X w0 M I:=⟨fun w hw=>by
 show CsJ J X w0 M1 I1 (k+1) w
 exact fun _=>hw.weak hM hI⟩
theorem vwJ {m:Mode} (h:View m X w0 M I M1 I1:=by first|exact View.seq|exact View.any|exact View.one rfl|exact View.upto (by decide)):View m X w0 M I M1 I1:=h
theorem qL {m:Mode} (h:OkD m X w0 M I:=by first|exact OkD.seq|exact OkD.one|exact OkD.any bQ bP|exact OkD.uptoN (by decide)|exact OkD.uptoY bQ bP):OkD m X w0 M I:=h
/- lending: what a function owns, lent to a callee that only reads -/
theorem Mem.lendB {w:World} {b:Nat} {cs:List Value} {e:TypeId} {I2:List aM} (hm: .blk b cs e∈M) (hw:Mem X w0 M I w) (h:Mem [] w [] I2 w):Mem [] w [] (aH (some ⟨b,0,none⟩) cs::I2) w:=
 h.add (φ:=aH (some ⟨b,0,none⟩) cs) ⟨Blk.sl (X:=muts []) (hw.blk hm) (by simp [muts]) 0 (fun j v hj=>by simpa using hj)⟩
theorem CD.lend {f:FuncId} {vs:List Value} {K:Value→Prop} (I2:List aM) (hI:∀w,Mem X w0 M I w→Mem [] w [] I2 w) (hc:∀W,CD P f vs [] W [] I2 (fun v _ _=>K v)):CD P f vs X w0 M I (fun v M' I'=>M=M'∧I=I'∧K v):=
 ⟨fun w hw=>((hc w).go w (hI w hw)).mono (fun _ _ ⟨_,_,hk,hm⟩=>⟨M,I,⟨rfl,rfl,hk⟩,hw.call hm.ext⟩)⟩
theorem CD.val {f:FuncId} {vs:List Value} {K:Value→Prop} (h:CD P f vs X w0 M I (fun v M' I'=>M=M'∧I=I'∧K v)):CD P f vs X w0 M I (fun v _ _=>K v):=h.mono (fun _ _ _ h=>h.2.2)
end
end Go.Fx

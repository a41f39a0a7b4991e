/- Arrays: sliced, built, read by an index; loads of eight and twelve cells. -/
import Derived.Test.YtmmmfphealhapaaGreatZsao
import Derived.Test.YtmmmfphealhapaaGreatZsap
import Derived.Test.YtmmmfphealhapaaGreatZsaf
set_option linter.unusedSimpArgs false
set_option linter.unusedVariables false
set_option maxRecDepth 100000
set_option maxHeartbeats 4000000
namespace Go.Fx
section
variable {P:Program} {n:Nat} {G:Env} {ty:TypeId} {C:World→Prop}
theorem qW {t e:TypeId} {sz len b o:Nat} {x:Operand} [ht:ArrTy P t len e sz] (hx:ev G x=some (.pointer (some ⟨b,o,none⟩))):
  Const P n G (.slice t x none none none) ty C (.slice (some ⟨b,o,none⟩) len len):=by
 refine ⟨?_⟩
 intro st ha dst pos after guard w _
 by_cases h:len=0
 ·subst h
  simp [execOp,Instr.sliceAt,ha.ev hx,eU ht.und,run_sizeOf ht.size,Instr.sliceBounds,Instr.sureAddr]
 ·simp [execOp,Instr.sliceAt,ha.ev hx,eU ht.und,run_sizeOf ht.size,Instr.sliceBounds,Instr.sureAddr,h,add_lit]
theorem aOP {t e:TypeId} {sz len m c:Nat} {p:Option Addr} {x:Operand} [ht:ArrTy P t len e sz] (hx:ev G x=some (.slice p m c)) (hl:len≤m):
  Const P n G (.sliceToArrayPointer t x) ty C (.pointer p):=by
 refine ⟨?_⟩
 intro st ha dst pos after guard w _
 simp [execOp,Instr.arrayAt,ha.ev hx,eU ht.und,Nat.not_lt.2 hl]
theorem tT {t e:TypeId} {sz len sz' by_:Nat} {z:List Value} {parts:List (Nat × Operand)} {pvs:List (Nat × Value)} {cells:List Value} [ht:ArrTy P t len e sz] [hz:ElemTy P t sz' by_ z]
  (hp:parts.map (fun p=>(p.1,ev G p.2))=pvs.map (fun p=>(p.1,some p.2)))
  (hf:Instr.fill (fun i=>some (i*sz,sz)) z.toArray pvs=some cells.toArray):Const P n G (.build t parts.toArray) ty C (.agg cells.toArray):=by
 refine aBT hp fun w=>?_
 obtain ⟨i,hi,h3⟩:=Option.map_eq_some_iff.1 hz.info
 simp only [Prod.mk.injEq] at h3
 obtain ⟨h4,h5,h6⟩:=h3
 obtain ⟨v,hv,hc⟩:=Option.map_eq_some_iff.1 h6
 have hzv:(zeroValue t).run P w= .ok v w:=by simp [zeroValue,typeInfo,hi,hv]
 unfold Instr.build
 rw [Sem.run_bind,hzv,Result.andThen_ok,Sem.run_bind,eU ht.und,Result.andThen_ok]
 simp only [Sem.run_bind,run_sizeOf ht.size,Result.andThen_ok,hc,hf]
 rfl
theorem zJ {t e:TypeId} {sz len sz':Nat} {x ix:Operand} {cs vs:List Value} {k:IntKind} {i:Int} [ht:ArrTy P t len e sz] [he:AggTy P e sz'] (hx:ev G x=some (.agg cs.toArray)) (hi:ev G ix=some (.int k i)) (h:0≤i∧i < len)
  (hv:(cs.drop (i.toNat*sz)).take sz=vs):Const P n G (.index t x ix) ty C (.agg vs.toArray):=by
 refine ⟨?_⟩
 intro st ha dst pos after guard w _
 simp [execOp,Instr.index,ha.ev hx,ha.ev hi,asIntOf,eU ht.und,h.1,h.2,part,nA,run_sizeOf ht.size,List.extract_eq_take_drop,hv]
end
def PlOk (place:Nat→Option (Nat × Nat)):Nat→Nat→List Value→Prop
 |_,_,[]=>True
 |k,off,v::r=>place k=some (off,v.cells.size)∧PlOk place (k+1) (off+v.cells.size) r
def oC (vals:List Value):List Value:=vals.flatMap (fun v=>v.cells.toList)
theorem aBV (place:Nat→Option (Nat × Nat)):∀(vals:List Value) (k:Nat) (pre:List Value) (base:Array Value),base.size=pre.length+(oC vals).length→base.toList.take pre.length=pre→PlOk place k pre.length vals→
  Instr.fill place base ((vals.zipIdx k).map (fun p=>(p.2,p.1)))=some (pre++oC vals).toArray
 |[],k,pre,base,hb,ht,_=>by
  have:base.toList=pre:=by
   rw [←ht,List.take_of_length_le]
   simp [hb,oC]
  simp [Instr.fill,oC,←this]
 |v::r,k,pre,base,hb,ht,hc=>by
  obtain ⟨h1,h2⟩:=hc
  have hcl:oC (v::r)=v.cells.toList++oC r:=by simp [oC]
  have hcs:v.cells.toList.length=v.cells.size:=by simp
  have hlt:pre.length+v.cells.size≤base.size:=by
   rw [hb,hcl,List.length_append,hcs];omega
  simp only [List.zipIdx_cons,List.map_cons,Instr.fill,h1]
  have hno:¬(v.cells.size≠v.cells.size∨pre.length+v.cells.size>base.size):=by omega
  have hf:=aBS pre.length v.cells.toList base (by simp;omega)
  simp only [Array.toArray_toList] at hf
  simp only [Bool.or_eq_true,decide_eq_true_eq,hno,if_false,hf]
  rw [aBV place r (k+1) (pre++v.cells.toList) _ ?_ ?_ (by rw [List.length_append,hcs];exact h2)]
  ·rw [hcl,List.append_assoc]
  ·simp only [List.size_toArray,List.length_append,List.length_take,List.length_drop,hcs,Array.length_toList]
   rw [hcl,List.length_append,hcs] at hb
   omega
  ·simp only [ht]
   rw [List.take_append_of_le_length (by simp),List.take_of_length_le (by simp)]
section
variable {P:Program} {n:Nat} {G:Env} {ty:TypeId} {C:World→Prop}
theorem tK {t:TypeId} {parts:List (Nat × Operand)} {vals cells:List Value} {places:List (Nat × Nat)} {z:List Value} [ht:StructTy P t places z]
  (hp:parts.map (fun p=>(p.1,ev G p.2))=vals.zipIdx.map (fun p=>(p.2,some p.1))) (hpl:PlOk (places.toArray[·]?) 0 0 vals) (hc:oC vals=cells) (hz:z.length=cells.length):
  Const P n G (.build t parts.toArray) ty C (.agg cells.toArray):=by
 refine bF (pvs:=vals.zipIdx.map (fun p=>(p.2,p.1))) (places:=places) (z:=z) (by rw [hp];simp) ?_
 have:=aBV (places.toArray[·]?) vals 0 [] z.toArray (by simp [hc,hz]) (by simp) (by simpa using hpl)
 rw [hc] at this
 simpa using this
theorem dL {t e:TypeId} {sz len sz' by_:Nat} {z:List Value} {parts:List (Nat × Operand)} {vals cells:List Value} [ht:ArrTy P t len e sz] [hz:ElemTy P t sz' by_ z]
  (hp:parts.map (fun p=>(p.1,ev G p.2))=vals.zipIdx.map (fun p=>(p.2,some p.1))) (hs:∀v∈vals,v.cells.size=sz) (hc:oC vals=cells) (hl:z.length=vals.length*sz):
  Const P n G (.build t parts.toArray) ty C (.agg cells.toArray):=by
 refine tT (pvs:=vals.zipIdx.map (fun p=>(p.2,p.1))) (by rw [hp];simp) ?_
 have:=aDE sz vals 0 [] z.toArray (by simp) (by simp [hl]) (by simp) hs
 have h2:vals.flatMap (fun v=>v.cells.toList)=cells:=hc
 rw [h2] at this
 simpa using this
end
theorem xI {P:Program} {n:Nat} {G:Env} {ty:TypeId} {C:World→Prop} {t t':TypeId} {x y:Operand} {a b:Bool} [ht:BoolTy P t] (hx:ev G x=some (.bool a)) (hy:ev G y=some (.bool b)):
  Const P n G (.binOp .neq t x y t') ty C (.bool (!(a==b))):=by
 refine ⟨?_⟩
 intro s ha dst pos after guard w _
 have e1:(eqGuard .neq t x y (.bool a) (.bool b)).run P w= .ok () w:=rfl
 simp only [execOp,ha.ev hx,ha.ev hy,Sem.run_bind,e1,Result.andThen_ok,run_neq_bool _ t a b ht.und,Sem.run_pure]
theorem aGW {α:Type} [Inhabited α] {enc:α→List Value} {sz:Nat} [h:Sized enc sz] {ms:List α} {i:Int} (hi:0≤i∧i < ms.length):((recs enc ms).drop (i.toNat*sz)).take sz=enc (gt ms i):=by
 apply List.ext_getElem?
 intro j
 have hl:=h.len (gt ms i)
 rw [List.getElem?_take]
 by_cases hj:j < sz
 ·rw [if_pos hj,List.getElem?_drop,List.getElem?_eq_getElem (by omega:j < (enc (gt ms i)).length)]
  exact zX ms i.toNat j _ _ (aIY hi) (List.getElem?_eq_getElem (by omega))
 ·rw [if_neg hj,List.getElem?_eq_none (by omega)]
theorem AtsZ.n8 {cs:List Value} {o:Nat} {a b c d e f g h:Value} (h0:cs[o]?=some a) (h1:cs[o+1]?=some b) (h2:cs[o+2]?=some c) (h3:cs[o+3]?=some d) (h4:cs[o+4]?=some e) (h5:cs[o+5]?=some f) (h6:cs[o+6]?=some g) (h7:cs[o+7]?=some h):AtsZ cs o [a,b,c,d,e,f,g,h] 8:=⟨⟨fun j v hj=>by
 match j,hj with
 |0,hj=>simp at hj;subst hj;exact h0
 |1,hj=>simp at hj;subst hj;exact h1
 |2,hj=>simp at hj;subst hj;exact h2
 |3,hj=>simp at hj;subst hj;exact h3
 |4,hj=>simp at hj;subst hj;exact h4
 |5,hj=>simp at hj;subst hj;exact h5
 |6,hj=>simp at hj;subst hj;exact h6
 |7,hj=>simp at hj;subst hj;exact h7
 |j+8,hj=>simp at hj⟩,rfl⟩
theorem atY {cs vs:List Value} {o sz:Nat} (h:AtsZ cs o vs sz:=by first|(with_reducible refine AtsZ.r ?_;exact iC)|(with_reducible refine AtsZ.r2 ?_ ?_ ?_;exact iC;rfl;rfl)|(with_reducible refine AtsZ.r4 ?_ ?_ ?_ ?_ ?_;exact iC;rfl;rfl;rfl;rfl)|exact AtsZ.all rfl|exact AtsZ.n2 rfl rfl|exact AtsZ.n4 rfl rfl rfl rfl|exact AtsZ.n8 rfl rfl rfl rfl rfl rfl rfl rfl|(refine AtsZ.r ?_;exact iC)|(refine AtsZ.app ?_;refine AtsZ.r ?_;exact iC)):AtsZ cs o vs sz:=h
end Go.Fx
namespace Go.Proofs.YtmmmfphealhapaaGreat
open Go Go.Fx
structure WL where
 p:Option Addr
 c:Nat
 es:List RW
instance:Inhabited WL:=⟨⟨none,0,[]⟩⟩
abbrev eWL (r:WL):List Value:=[.slice r.p r.es.length r.c]
abbrev lvW (r:WL):Value:= .slice r.p r.es.length r.c
instance:Sized eWL 1:=⟨fun _=>rfl⟩
instance:Ones eWL:=⟨fun m u hu=>by simp only [eWL,List.mem_cons,List.not_mem_nil,or_false] at hu;subst hu;rfl⟩
structure IsWL (r:WL) (X:List Nat) (w:World):Prop where
 sl:Sl X w r.p (recs eW r.es)
 el:∀e∈r.es,IsW e X w
 cap:Cap r.p r.es.length r.c
abbrev aFW (r:WL):aM:=IsWL r
instance (r:WL):Fx.Good (IsWL r):=⟨fun X Y w w' h he hY=>⟨Sl.carry h.sl he hY,fun e hm=>Fx.Good.go (φ:=IsW _) X Y w w' (h.el e hm) he hY,h.cap⟩⟩
structure WM where
 p:Option Addr
 c:Nat
 rows:List WL
instance:Inhabited WM:=⟨⟨none,0,[]⟩⟩
abbrev eWM (m:WM):List Value:=[.slice m.p m.rows.length m.c]
abbrev mvW (m:WM):Value:= .slice m.p m.rows.length m.c
instance:Sized eWM 1:=⟨fun _=>rfl⟩
instance:Ones eWM:=⟨fun m u hu=>by simp only [eWM,List.mem_cons,List.not_mem_nil,or_false] at hu;subst hu;rfl⟩
structure IsWM (m:WM) (X:List Nat) (w:World):Prop where
 sl:Sl X w m.p (recs eWL m.rows)
 row:∀r∈m.rows,IsWL r X w
 cap:Cap m.p m.rows.length m.c
abbrev aCJ (m:WM):aM:=IsWM m
instance (m:WM):Fx.Good (IsWM m):=⟨fun X Y w w' h he hY=>⟨Sl.carry h.sl he hY,fun e hm=>Fx.Good.go (φ:=IsWL _) X Y w w' (h.row e hm) he hY,h.cap⟩⟩
structure AllWM (ms:List WM) (X:List Nat) (w:World):Prop where
 go:∀m∈ms,IsWM m X w
abbrev allWM (ms:List WM):aM:=AllWM ms
instance (ms:List WM):Fx.Good (AllWM ms):=⟨fun X Y w w' h he hY=>⟨fun m hm=>Fx.Good.go (φ:=IsWM _) X Y w w' (h.go m hm) he hY⟩⟩
theorem Hv.wlsl {I:List aM} {r:WL} (h:aFW r∈I):Hv I (aH r.p (recs eW r.es)):=⟨fun X w hw=>⟨(hw _ h:IsWL r X w).sl⟩⟩
theorem Hv.wlel {I:List aM} {r:WL} {j:Int} (h:aFW r∈I) (hj:0≤j∧j < r.es.length):Hv I (isW (gt r.es j)):=⟨fun X w hw=>(hw _ h:IsWL r X w).el _ (bD hj)⟩
theorem Hv.wmsl {I:List aM} {m:WM} (h:aCJ m∈I):Hv I (aH m.p (recs eWL m.rows)):=⟨fun X w hw=>⟨(hw _ h:IsWM m X w).sl⟩⟩
theorem Hv.wmrow {I:List aM} {m:WM} {i:Int} (h:aCJ m∈I) (hi:0≤i∧i < m.rows.length):Hv I (aFW (gt m.rows i)):=⟨fun X w hw=>(hw _ h:IsWM m X w).row _ (bD hi)⟩
/- short numbers, canonical ones, matrices -/
def RW.brief (r:RW):Prop:=r.g1.length≤1∧r.g2.length≤1∧(r.g1.length=0∨gt r.g1 0 < 100000)∧(r.g2.length=0∨gt r.g2 0≤100)
instance (r:RW):Decidable r.brief:=by unfold RW.brief;exact inferInstance
def RW.sml (r:RW):Prop:=r.g1.length≤1000000000∧r.g2.length≤1000000000
def WL.sht (r:WL):Prop:=r.es.length≤6∧∀e∈r.es,e.brief
instance (r:WL):Decidable r.sht:=by unfold WL.sht;exact inferInstance
def WL.sml (r:WL):Prop:=r.es.length≤1000000000∧∀e∈r.es,e.sml
def WL.good (r:WL):Prop:=∀e∈r.es,e.good
instance (r:WL):Decidable r.good:=by unfold WL.good;exact inferInstance
def WM.sht (m:WM):Prop:=m.rows.length≤6∧∀r∈m.rows,r.sht
instance (m:WM):Decidable m.sht:=by unfold WM.sht;exact inferInstance
def WM.sml (m:WM):Prop:=m.rows.length≤1000000000∧∀r∈m.rows,r.sml
def WM.ok (m:WM):Prop:=(1≤m.rows.length∧m.rows.length≤64∧1≤(gt m.rows 0).es.length∧(gt m.rows 0).es.length≤64)∧∀r∈m.rows,r.es.length=(gt m.rows 0).es.length∧r.good
instance (m:WM):Decidable m.ok:=by unfold WM.ok;exact inferInstance
/- of canonical numbers -/
def RL.raw (r:RL):WL:=⟨r.p,r.c,r.es.map RE.raw⟩
def MX.raw (m:MX):WM:=⟨m.p,m.c,m.rows.map RL.raw⟩
theorem aXN (es:List RE):recs eW (es.map RE.raw)=recs eR es:=by
 induction es with
 |nil=>rfl
 |cons x r ih=>
  have h1:recs eW ((x::r).map RE.raw)=eW x.raw++recs eW (r.map RE.raw):=rfl
  have h2:recs eR (x::r)=eR x++recs eR r:=rfl
  rw [h1,h2,ih];rfl
theorem aSK (rows:List RL):recs eWL (rows.map RL.raw)=recs eL rows:=by
 induction rows with
 |nil=>rfl
 |cons x r ih=>
  have h1:recs eWL ((x::r).map RL.raw)=eWL x.raw++recs eWL (r.map RL.raw):=rfl
  have h2:recs eL (x::r)=eL x++recs eL r:=rfl
  rw [h1,h2,ih]
  show [Value.slice x.p (x.es.map RE.raw).length x.c]++_=[Value.slice x.p x.es.length x.c]++_
  rw [List.length_map]
theorem bEF (r:RL):lvW r.raw=lv r:=by show Value.slice r.p (r.es.map RE.raw).length r.c=_;rw [List.length_map]
theorem aOK (m:MX):mvW m.raw=mv m:=by show Value.slice m.p (m.rows.map RL.raw).length m.c=_;rw [List.length_map]
theorem RL.raw_good (r:RL):r.raw.good:=fun e he=>by
 obtain ⟨x,_,rfl⟩:=List.mem_map.1 he
 exact x.raw_good
theorem IsL.raw {r:RL} {k:Nat} {X:List Nat} {w:World} (hk:k≤1000000000000) (h:IsL r k X w):IsWL r.raw X w:=
 ⟨by show Sl X w r.p (recs eW (r.es.map RE.raw));rw [aXN];exact h.sl,fun e he=>by obtain ⟨x,hx,rfl⟩:=List.mem_map.1 he;exact RE.fit hk (h.el x hx),by show Cap r.p (r.es.map RE.raw).length r.c;rw [List.length_map];exact h.cap⟩
theorem IsX.raw {m:MX} {k:Nat} {X:List Nat} {w:World} (hk:k≤1000000000000) (h:IsX m k X w):IsWM m.raw X w:=
 ⟨by show Sl X w m.p (recs eWL (m.rows.map RL.raw));rw [aSK];exact h.sl,fun e he=>by obtain ⟨x,hx,rfl⟩:=List.mem_map.1 he;exact IsL.raw hk (h.row x hx),by show Cap m.p (m.rows.map RL.raw).length m.c;rw [List.length_map];exact h.cap⟩
theorem IsR.sml {e:RE} {k:Nat} {X:List Nat} {w:World} (hk:k≤20000000000) (h:IsR e k X w):e.raw.sml:=by
 have a:=fA (IsI.le h.num)
 have b:=fA (IsI.le h.den)
 constructor
 ·show (gr e.q.num.natAbs).length≤_;omega
 ·show (gr (e.q.den:Int).natAbs).length≤_;omega
theorem Hv.lraw {I:List aM} {r:RL} {k:Nat} (h:iQ r k∈I) (hk:k≤20000000000):Hv I (aFW r.raw):=⟨fun X w hw=>IsL.raw (by omega) (hw _ h)⟩
theorem Hv.xraw {I:List aM} {m:MX} {k:Nat} (h:iB m k∈I) (hk:k≤20000000000):Hv I (aCJ m.raw):=⟨fun X w hw=>IsX.raw (by omega) (hw _ h)⟩
theorem aJB {α β:Type} [Inhabited α] [Inhabited β] {l:List α} {f:α→β} {i:Int} (h:0≤i∧i < l.length):gt (l.map f) i=f (gt l i):=by
 obtain ⟨n,rfl⟩:∃n:Nat,i=n:=⟨i.toNat,by omega⟩
 rw [dP (by simpa using h.2),dP (by omega)]
 simp
theorem bED {m:MX} {R C:Nat} (h:m.dim R C) (hR:1≤R∧R≤64) (hC:1≤C∧C≤64):m.raw.ok:=by
 have e:m.raw.rows=m.rows.map RL.raw:=rfl
 have h0:=h.1
 have hl:∀r∈m.rows,r.raw.es.length=C:=fun r hr=>by rw [show r.raw.es=r.es.map RE.raw from rfl,List.length_map];exact h.2 r hr
 unfold WM.ok
 rw [e,List.length_map,aJB (by omega),hl _ (bD (by omega))]
 refine ⟨by omega,fun r hr=>?_⟩
 obtain ⟨s,hs,rfl⟩:=List.mem_map.1 hr
 exact ⟨hl s hs,s.raw_good⟩
end Go.Proofs.YtmmmfphealhapaaGreat
namespace Go.Fx
theorem aB {p g:Prop} (h:g) (w:BoxP g→p:=by (intro hh;(first|refine aG ?_|refine dB ?_|refine oN ?_|refine lL ?_|refine jK ?_|refine jB ?_|refine lI ?_|refine kV ?_|refine jP ?_|refine jO ?_|refine oJ ?_|refine oI ?_|refine oU ?_|refine nZ rfl ?_|refine bK ?_|(refine jU ?_;first|refine kD rfl rfl rfl ?_|(refine jT rfl rfl ?_;refine iT rfl rfl rfl okF ?_)|refine jZ rfl rfl (by omega) ?_|refine jX rfl rfl (by omega) ?_)|(refine eO ?_;refine aC rfl (fun _=>fM rfl) rfl rfl ?_)|refine aC rfl (fun _=>bN rfl) rfl rfl ?_|(refine jY ?_;first|refine aC rfl (fun _=>dD rfl rfl wF) rfl rfl ?_|refine aC rfl (fun _=>dC rfl rfl wF) rfl rfl ?_|refine aC rfl (fun _=>gQ rfl rfl wF) rfl rfl ?_|refine aC rfl (fun _=>gT rfl rfl (by omega) qF) rfl rfl ?_|refine aC rfl (fun _=>gP rfl rfl (by omega) rfl) rfl rfl ?_|refine aC rfl (fun _=>fJ rfl rfl) rfl rfl ?_|refine aC rfl (fun _=>gM rfl rfl) rfl rfl ?_|refine aC rfl (fun _=>gK rfl rfl) rfl rfl ?_|refine aC rfl (fun _=>uO rfl rfl) rfl rfl ?_|refine aC rfl (fun _=>xI rfl rfl) rfl rfl ?_)|(refine eO ?_;first|refine aC rfl (fun _=>gD rfl wF) rfl rfl ?_)|(refine jW ?_;first|refine aC rfl (fun _=>fD rfl wF) rfl rfl ?_)|(refine jV ?_;first|refine aC rfl (fun _=>cZ rfl) rfl rfl ?_|refine aC rfl (fun _=>fK rfl rfl) rfl rfl ?_|refine aC rfl (fun _=>fP rfl rfl) rfl rfl ?_|refine aC rfl (fun _=>fQ rfl rfl rfl) rfl rfl ?_)|(refine kG ?_;first|refine kI rfl (by decide) rfl rfl ?_|refine mM rfl (by decide) rfl rfl ?_)|(refine kH ?_;first|refine aC rfl (fun _=>fC rfl) rfl rfl ?_)|(refine kL ?_;first|refine mQ rfl rfl iC rfl rfl ?_|refine mO eY rfl rfl iC aA mU rfl rfl ?_|refine mJ eY rfl rfl iC aA mU rfl rfl ?_|refine aC rfl (fun _=>dZ rfl rfl iC) rfl rfl ?_)|(refine bM ?_;first|(apply bI;exact eY;exact rfl;(focus ((repeat (first|with_reducible exact List.mem_cons_self|with_reducible assumption|with_reducible refine List.mem_cons_of_mem _ ?_));done));exact atY;exact rfl;exact rfl)|(apply dW;exact eY;exact rfl;(focus ((repeat (first|with_reducible exact List.mem_cons_self|with_reducible assumption|with_reducible refine List.mem_cons_of_mem _ ?_));done));exact atY;exact rfl;exact rfl)|(apply pY;exact eY;exact rfl;(focus ((repeat (first|with_reducible exact List.mem_cons_self|with_reducible assumption|with_reducible refine List.mem_cons_of_mem _ ?_));done));exact atY;exact rfl;exact rfl)|(apply sW;exact eY;exact rfl;(focus ((repeat (first|with_reducible exact List.mem_cons_self|with_reducible assumption|with_reducible refine List.mem_cons_of_mem _ ?_));done));exact atY;exact rfl;exact rfl)|(apply gI;exact eY;exact rfl;(focus ((repeat (first|with_reducible exact List.mem_cons_self|with_reducible assumption|with_reducible refine List.mem_cons_of_mem _ ?_));done));exact wC;exact rfl;exact rfl)|(apply kK;exact eY;exact rfl;(focus ((repeat (first|with_reducible exact List.mem_cons_self|with_reducible assumption|with_reducible refine List.mem_cons_of_mem _ ?_));done));exact wC;exact rfl;exact rfl)|(apply mK;exact eY;exact rfl;(focus ((repeat (first|with_reducible exact List.mem_cons_self|with_reducible assumption|with_reducible refine List.mem_cons_of_mem _ ?_));done));exact wC;exact rfl;exact rfl)|(apply mP;exact eY;exact rfl;(focus ((repeat (first|with_reducible exact List.mem_cons_self|with_reducible assumption|with_reducible refine List.mem_cons_of_mem _ ?_));done));exact wC;exact rfl;exact rfl))|(refine kF ?_;first|refine aC rfl (fun _=>dY rfl rfl) rfl rfl ?_|refine aC rfl (fun _=>dG rfl) rfl rfl ?_)|(refine nI ?_;first|refine mX rfl rfl rfl jL stC rfl rfl ⟨okF,?_⟩|refine fO rfl rfl jN aCG jL aCL rfl rfl ⟨okF,?_⟩)|(refine lH ?_;first|refine fG rfl ?_|refine eF rfl ?_|refine oK rfl (by omega) ?_|refine sP rfl (by omega) ?_));(repeat (first|refine aG ?_|refine dB ?_|refine oN ?_|refine lL ?_|refine jK ?_|refine jB ?_|refine lI ?_|refine kV ?_|refine jP ?_|refine jO ?_|refine oJ ?_|refine oI ?_|refine oU ?_|refine nZ rfl ?_|refine bK ?_|(refine jU ?_;first|refine kD rfl rfl rfl ?_|(refine jT rfl rfl ?_;refine iT rfl rfl rfl okF ?_)|refine jZ rfl rfl (by omega) ?_|refine jX rfl rfl (by omega) ?_)|(refine eO ?_;refine aC rfl (fun _=>fM rfl) rfl rfl ?_)|refine aC rfl (fun _=>bN rfl) rfl rfl ?_|(refine jY ?_;first|refine aC rfl (fun _=>dD rfl rfl wF) rfl rfl ?_|refine aC rfl (fun _=>dC rfl rfl wF) rfl rfl ?_|refine aC rfl (fun _=>gQ rfl rfl wF) rfl rfl ?_|refine aC rfl (fun _=>gT rfl rfl (by omega) qF) rfl rfl ?_|refine aC rfl (fun _=>gP rfl rfl (by omega) rfl) rfl rfl ?_|refine aC rfl (fun _=>fJ rfl rfl) rfl rfl ?_|refine aC rfl (fun _=>gM rfl rfl) rfl rfl ?_|refine aC rfl (fun _=>gK rfl rfl) rfl rfl ?_|refine aC rfl (fun _=>uO rfl rfl) rfl rfl ?_|refine aC rfl (fun _=>xI rfl rfl) rfl rfl ?_)|(refine eO ?_;first|refine aC rfl (fun _=>gD rfl wF) rfl rfl ?_)|(refine jW ?_;first|refine aC rfl (fun _=>fD rfl wF) rfl rfl ?_)|(refine jV ?_;first|refine aC rfl (fun _=>cZ rfl) rfl rfl ?_|refine aC rfl (fun _=>fK rfl rfl) rfl rfl ?_|refine aC rfl (fun _=>fP rfl rfl) rfl rfl ?_|refine aC rfl (fun _=>fQ rfl rfl rfl) rfl rfl ?_)|(refine kG ?_;first|refine kI rfl (by decide) rfl rfl ?_|refine mM rfl (by decide) rfl rfl ?_)|(refine kH ?_;first|refine aC rfl (fun _=>fC rfl) rfl rfl ?_)|(refine kL ?_;first|refine mQ rfl rfl iC rfl rfl ?_|refine mO eY rfl rfl iC aA mU rfl rfl ?_|refine mJ eY rfl rfl iC aA mU rfl rfl ?_|refine aC rfl (fun _=>dZ rfl rfl iC) rfl rfl ?_)|(refine bM ?_;first|(apply bI;exact eY;exact rfl;(focus ((repeat (first|with_reducible exact List.mem_cons_self|with_reducible assumption|with_reducible refine List.mem_cons_of_mem _ ?_));done));exact atY;exact rfl;exact rfl)|(apply dW;exact eY;exact rfl;(focus ((repeat (first|with_reducible exact List.mem_cons_self|with_reducible assumption|with_reducible refine List.mem_cons_of_mem _ ?_));done));exact atY;exact rfl;exact rfl)|(apply pY;exact eY;exact rfl;(focus ((repeat (first|with_reducible exact List.mem_cons_self|with_reducible assumption|with_reducible refine List.mem_cons_of_mem _ ?_));done));exact atY;exact rfl;exact rfl)|(apply sW;exact eY;exact rfl;(focus ((repeat (first|with_reducible exact List.mem_cons_self|with_reducible assumption|with_reducible refine List.mem_cons_of_mem _ ?_));done));exact atY;exact rfl;exact rfl)|(apply gI;exact eY;exact rfl;(focus ((repeat (first|with_reducible exact List.mem_cons_self|with_reducible assumption|with_reducible refine List.mem_cons_of_mem _ ?_));done));exact wC;exact rfl;exact rfl)|(apply kK;exact eY;exact rfl;(focus ((repeat (first|with_reducible exact List.mem_cons_self|with_reducible assumption|with_reducible refine List.mem_cons_of_mem _ ?_));done));exact wC;exact rfl;exact rfl)|(apply mK;exact eY;exact rfl;(focus ((repeat (first|with_reducible exact List.mem_cons_self|with_reducible assumption|with_reducible refine List.mem_cons_of_mem _ ?_));done));exact wC;exact rfl;exact rfl)|(apply mP;exact eY;exact rfl;(focus ((repeat (first|with_reducible exact List.mem_cons_self|with_reducible assumption|with_reducible refine List.mem_cons_of_mem _ ?_));done));exact wC;exact rfl;exact rfl))|(refine kF ?_;first|refine aC rfl (fun _=>dY rfl rfl) rfl rfl ?_|refine aC rfl (fun _=>dG rfl) rfl rfl ?_)|(refine nI ?_;first|refine mX rfl rfl rfl jL stC rfl rfl ⟨okF,?_⟩|refine fO rfl rfl jN aCG jL aCL rfl rfl ⟨okF,?_⟩)|(refine lH ?_;first|refine fG rfl ?_|refine eF rfl ?_|refine oK rfl (by omega) ?_|refine sP rfl (by omega) ?_)));exact hh.out)):p:=w ⟨h⟩
theorem yXh {p g:Prop} (h:g) (w:BoxP g→p:=by (intro hh;(first|refine aG ?_|refine dB ?_|refine oN ?_|refine lL ?_|refine jK ?_|refine jB ?_|refine lI ?_|refine kV ?_|refine jP ?_|refine jO ?_|refine oJ ?_|refine oI ?_|refine oU ?_|refine nZ rfl ?_|refine bK ?_|(refine jU ?_;first|refine kD rfl rfl rfl ?_|(refine jT rfl rfl ?_;refine iT rfl rfl rfl okF ?_)|refine jZ rfl rfl (by omega) ?_|refine jX rfl rfl (by omega) ?_)|(refine eO ?_;refine aC rfl (fun _=>fM rfl) rfl rfl ?_)|refine aC rfl (fun _=>bN rfl) rfl rfl ?_|(refine jY ?_;first|refine aC rfl (fun _=>dD rfl rfl wF) rfl rfl ?_|refine aC rfl (fun _=>dC rfl rfl wF) rfl rfl ?_|refine aC rfl (fun _=>gQ rfl rfl wF) rfl rfl ?_|refine aC rfl (fun _=>gT rfl rfl (by omega) qF) rfl rfl ?_|refine aC rfl (fun _=>gP rfl rfl (by omega) rfl) rfl rfl ?_|refine aC rfl (fun _=>fJ rfl rfl) rfl rfl ?_|refine aC rfl (fun _=>gM rfl rfl) rfl rfl ?_|refine aC rfl (fun _=>gK rfl rfl) rfl rfl ?_|refine aC rfl (fun _=>uO rfl rfl) rfl rfl ?_|refine aC rfl (fun _=>xI rfl rfl) rfl rfl ?_)|(refine eO ?_;first|refine aC rfl (fun _=>gD rfl wF) rfl rfl ?_)|(refine jW ?_;first|refine aC rfl (fun _=>fD rfl wF) rfl rfl ?_)|(refine jV ?_;first|refine aC rfl (fun _=>cZ rfl) rfl rfl ?_|refine aC rfl (fun _=>fK rfl rfl) rfl rfl ?_|refine aC rfl (fun _=>fP rfl rfl) rfl rfl ?_|refine aC rfl (fun _=>fQ rfl rfl rfl) rfl rfl ?_)|(refine kG ?_;first|refine kI rfl (by decide) rfl rfl ?_|refine mM rfl (by decide) rfl rfl ?_)|(refine kH ?_;first|refine aC rfl (fun _=>fC rfl) rfl rfl ?_)|(refine kL ?_;first|refine mQ rfl rfl iC rfl rfl ?_|refine mO eY rfl rfl iC aA mU rfl rfl ?_|refine mJ eY rfl rfl iC aA mU rfl rfl ?_|refine aC rfl (fun _=>dZ rfl rfl iC) rfl rfl ?_)|(refine bM ?_;first|(apply bI;exact eY;exact rfl;(focus ((repeat (first|with_reducible exact List.mem_cons_self|with_reducible assumption|with_reducible refine List.mem_cons_of_mem _ ?_));done));exact atY;exact rfl;exact rfl)|(apply dW;exact eY;exact rfl;(focus ((repeat (first|with_reducible exact List.mem_cons_self|with_reducible assumption|with_reducible refine List.mem_cons_of_mem _ ?_));done));exact atY;exact rfl;exact rfl)|(apply pY;exact eY;exact rfl;(focus ((repeat (first|with_reducible exact List.mem_cons_self|with_reducible assumption|with_reducible refine List.mem_cons_of_mem _ ?_));done));exact atY;exact rfl;exact rfl)|(apply sW;exact eY;exact rfl;(focus ((repeat (first|with_reducible exact List.mem_cons_self|with_reducible assumption|with_reducible refine List.mem_cons_of_mem _ ?_));done));exact atY;exact rfl;exact rfl)|(apply gI;exact eY;exact rfl;(focus ((repeat (first|with_reducible exact List.mem_cons_self|with_reducible assumption|with_reducible refine List.mem_cons_of_mem _ ?_));done));exact wC;exact rfl;exact rfl)|(apply kK;exact eY;exact rfl;(focus ((repeat (first|with_reducible exact List.mem_cons_self|with_reducible assumption|with_reducible refine List.mem_cons_of_mem _ ?_));done));exact wC;exact rfl;exact rfl)|(apply mK;exact eY;exact rfl;(focus ((repeat (first|with_reducible exact List.mem_cons_self|with_reducible assumption|with_reducible refine List.mem_cons_of_mem _ ?_));done));exact wC;exact rfl;exact rfl)|(apply mP;exact eY;exact rfl;(focus ((repeat (first|with_reducible exact List.mem_cons_self|with_reducible assumption|with_reducible refine List.mem_cons_of_mem _ ?_));done));exact wC;exact rfl;exact rfl))|(refine kF ?_;first|refine aC rfl (fun _=>dY rfl rfl) rfl rfl ?_|refine aC rfl (fun _=>dG rfl) rfl rfl ?_)|(refine lH ?_;first|refine fG rfl ?_|refine eF rfl ?_|refine oK rfl (by omega) ?_|refine sP rfl (by omega) ?_));(repeat (first|refine aG ?_|refine dB ?_|refine oN ?_|refine lL ?_|refine jK ?_|refine jB ?_|refine lI ?_|refine kV ?_|refine jP ?_|refine jO ?_|refine oJ ?_|refine oI ?_|refine oU ?_|refine nZ rfl ?_|refine bK ?_|(refine jU ?_;first|refine kD rfl rfl rfl ?_|(refine jT rfl rfl ?_;refine iT rfl rfl rfl okF ?_)|refine jZ rfl rfl (by omega) ?_|refine jX rfl rfl (by omega) ?_)|(refine eO ?_;refine aC rfl (fun _=>fM rfl) rfl rfl ?_)|refine aC rfl (fun _=>bN rfl) rfl rfl ?_|(refine jY ?_;first|refine aC rfl (fun _=>dD rfl rfl wF) rfl rfl ?_|refine aC rfl (fun _=>dC rfl rfl wF) rfl rfl ?_|refine aC rfl (fun _=>gQ rfl rfl wF) rfl rfl ?_|refine aC rfl (fun _=>gT rfl rfl (by omega) qF) rfl rfl ?_|refine aC rfl (fun _=>gP rfl rfl (by omega) rfl) rfl rfl ?_|refine aC rfl (fun _=>fJ rfl rfl) rfl rfl ?_|refine aC rfl (fun _=>gM rfl rfl) rfl rfl ?_|refine aC rfl (fun _=>gK rfl rfl) rfl rfl ?_|refine aC rfl (fun _=>uO rfl rfl) rfl rfl ?_|refine aC rfl (fun _=>xI rfl rfl) rfl rfl ?_)|(refine eO ?_;first|refine aC rfl (fun _=>gD rfl wF) rfl rfl ?_)|(refine jW ?_;first|refine aC rfl (fun _=>fD rfl wF) rfl rfl ?_)|(refine jV ?_;first|refine aC rfl (fun _=>cZ rfl) rfl rfl ?_|refine aC rfl (fun _=>fK rfl rfl) rfl rfl ?_|refine aC rfl (fun _=>fP rfl rfl) rfl rfl ?_|refine aC rfl (fun _=>fQ rfl rfl rfl) rfl rfl ?_)|(refine kG ?_;first|refine kI rfl (by decide) rfl rfl ?_|refine mM rfl (by decide) rfl rfl ?_)|(refine kH ?_;first|refine aC rfl (fun _=>fC rfl) rfl rfl ?_)|(refine kL ?_;first|refine mQ rfl rfl iC rfl rfl ?_|refine mO eY rfl rfl iC aA mU rfl rfl ?_|refine mJ eY rfl rfl iC aA mU rfl rfl ?_|refine aC rfl (fun _=>dZ rfl rfl iC) rfl rfl ?_)|(refine bM ?_;first|(apply bI;exact eY;exact rfl;(focus ((repeat (first|with_reducible exact List.mem_cons_self|with_reducible assumption|with_reducible refine List.mem_cons_of_mem _ ?_));done));exact atY;exact rfl;exact rfl)|(apply dW;exact eY;exact rfl;(focus ((repeat (first|with_reducible exact List.mem_cons_self|with_reducible assumption|with_reducible refine List.mem_cons_of_mem _ ?_));done));exact atY;exact rfl;exact rfl)|(apply pY;exact eY;exact rfl;(focus ((repeat (first|with_reducible exact List.mem_cons_self|with_reducible assumption|with_reducible refine List.mem_cons_of_mem _ ?_));done));exact atY;exact rfl;exact rfl)|(apply sW;exact eY;exact rfl;(focus ((repeat (first|with_reducible exact List.mem_cons_self|with_reducible assumption|with_reducible refine List.mem_cons_of_mem _ ?_));done));exact atY;exact rfl;exact rfl)|(apply gI;exact eY;exact rfl;(focus ((repeat (first|with_reducible exact List.mem_cons_self|with_reducible assumption|with_reducible refine List.mem_cons_of_mem _ ?_));done));exact wC;exact rfl;exact rfl)|(apply kK;exact eY;exact rfl;(focus ((repeat (first|with_reducible exact List.mem_cons_self|with_reducible assumption|with_reducible refine List.mem_cons_of_mem _ ?_));done));exact wC;exact rfl;exact rfl)|(apply mK;exact eY;exact rfl;(focus ((repeat (first|with_reducible exact List.mem_cons_self|with_reducible assumption|with_reducible refine List.mem_cons_of_mem _ ?_));done));exact wC;exact rfl;exact rfl)|(apply mP;exact eY;exact rfl;(focus ((repeat (first|with_reducible exact List.mem_cons_self|with_reducible assumption|with_reducible refine List.mem_cons_of_mem _ ?_));done));exact wC;exact rfl;exact rfl))|(refine kF ?_;first|refine aC rfl (fun _=>dY rfl rfl) rfl rfl ?_|refine aC rfl (fun _=>dG rfl) rfl rfl ?_)|(refine lH ?_;first|refine fG rfl ?_|refine eF rfl ?_|refine oK rfl (by omega) ?_|refine sP rfl (by omega) ?_)));exact hh.out)):p:=w ⟨h⟩
end Go.Fx
namespace Go.Proofs.YtmmmfphealhapaaGreat
open Go Go.Fx
/- ---------- IndexFunc, ContainsFunc of []fiducial/api.Rat ---------- -/
section
variable {X:List Nat} {w0:World} {M0:List Ent} {I0:List aM}
theorem aVO {q:Option Addr} {a:List RW} {c:Nat} {g:FuncId} [FnOk Tryz.prog g] {fs cs:Array Value} (pr:RW→Prop) [DecidablePred pr] (hn:(a.length:Int)≤9223372036854775807) (ha:aH q (recs eW a)∈I0)
  (hg:∀i:Nat,i < a.length→CD Tryz.prog g (fs.toList++[wv (gt a i)]++cs.toList) X w0 M0 I0 (fun v M I=>M0=M∧I0=I∧v= .bool (B (pr (gt a i))))):
  CD Tryz.prog 226 [.slice q a.length c, .func (.func g) fs cs] X w0 M0 I0 (fun v M I=>M0=M∧I0=I∧∃r:Int,v= .int .i64 r∧((∃i:Nat,i < a.length∧r=i∧pr (gt a i)∧∀j:Nat,j < i→¬pr (gt a j))∨(r= -1∧∀j:Nat,j < a.length→¬pr (gt a j)))):=by
 refine aN Tryz.func226 rfl Tryz.ntmps226 rfl ?_
 repeat refine aB ?_
 refine lV [0,1,7] rfl (fun k G M I=>∃i:Nat,i≤a.length∧k=a.length - i∧(∀j:Nat,j < i→¬pr (gt a j))∧G=[(8, .int .i64 i)]∧M=M0∧I=I0) (a.length) (⟨0,by omega,rfl,fun j hj=>by omega,rfl,rfl,rfl⟩) ?_
 rintro k G M I ⟨i,hi,rfl,hs,rfl,rfl,rfl⟩
 repeat' (first|refine aB ?_|refine aK rfl (fun h=>?_) (fun h=>?_)|refine aJ rfl rfl (fun h=>?_) (fun h=>?_)|fail)
 ·have hlt:i < a.length:=by omega
  (refine eQ rfl rfl (hg i hlt) rfl rfl rfl ?_;rintro _ _ _ ⟨rfl,rfl,rfl⟩;refine aL ?_)
  repeat' (first|refine aB ?_|refine aK rfl (fun h=>?_) (fun h=>?_)|refine aJ rfl rfl (fun h=>?_) (fun h=>?_)|fail)
  ·refine aP (by first|exact .inl rfl|exact .inr rfl) rfl rfl _ _ aF aD (⟨rfl,rfl,_,rfl, .inl ⟨i,hlt,rfl,by assumption,hs⟩⟩)
  ·refine gJ (a.length - (i+1)) (⟨i+1,by omega,rfl,fun j hj=>?_,rfl,rfl,rfl⟩)
   by_cases e:j=i
   ·subst e;assumption
   ·exact hs j (by omega)
 ·refine aP (by first|exact .inl rfl|exact .inr rfl) rfl rfl _ _ aF aD (⟨rfl,rfl,_,rfl, .inr ⟨rfl,fun j hj=>hs j (by omega)⟩⟩)
theorem aVI {q:Option Addr} {a:List RW} {c:Nat} {g:FuncId} [FnOk Tryz.prog g] {fs cs:Array Value} (pr:RW→Prop) [DecidablePred pr] (hn:(a.length:Int)≤9223372036854775807) (ha:aH q (recs eW a)∈I0)
  (hg:∀i:Nat,i < a.length→CD Tryz.prog g (fs.toList++[wv (gt a i)]++cs.toList) X w0 M0 I0 (fun v M I=>M0=M∧I0=I∧v= .bool (B (pr (gt a i))))):
  CD Tryz.prog 163 [.slice q a.length c, .func (.func g) fs cs] X w0 M0 I0 (fun v M I=>M0=M∧I0=I∧v= .bool (B (∃x∈a,pr x))):=by
 refine aN Tryz.func163 rfl Tryz.ntmps163 rfl ?_
 repeat refine aB ?_
 (refine aQ rfl (aVO pr hn ha hg) ?_;rintro _ _ _ ⟨rfl,rfl,r,rfl,h⟩;refine aL ?_)
 repeat refine aB ?_
 refine iA rfl rfl (⟨rfl,rfl,congrArg Value.bool (iG ?_)⟩)
 rcases h with ⟨i,hi,rfl,hp,_⟩|⟨rfl,h⟩
 ·exact ⟨fun _=>⟨gt a i,by rw [fE hi];exact List.getElem_mem hi,hp⟩,fun _=>by omega⟩
 ·refine ⟨fun h=>by omega,?_⟩
  rintro ⟨x,hx,hp⟩
  obtain ⟨j,hj,rfl⟩:=List.mem_iff_getElem.1 hx
  exact absurd (by rw [fE hj];exact hp) (h j hj)
end
/- ---------- IndexFunc, ContainsFunc of fiducial/api.Matrix ---------- -/
section
variable {X:List Nat} {w0:World} {M0:List Ent} {I0:List aM}
theorem aTX {q:Option Addr} {a:List WL} {c:Nat} {g:FuncId} [FnOk Tryz.prog g] {fs cs:Array Value} (pr:WL→Prop) [DecidablePred pr] (hn:(a.length:Int)≤9223372036854775807) (ha:aH q (recs eWL a)∈I0)
  (hg:∀i:Nat,i < a.length→CD Tryz.prog g (fs.toList++[lvW (gt a i)]++cs.toList) X w0 M0 I0 (fun v M I=>M0=M∧I0=I∧v= .bool (B (pr (gt a i))))):
  CD Tryz.prog 305 [.slice q a.length c, .func (.func g) fs cs] X w0 M0 I0 (fun v M I=>M0=M∧I0=I∧∃r:Int,v= .int .i64 r∧((∃i:Nat,i < a.length∧r=i∧pr (gt a i)∧∀j:Nat,j < i→¬pr (gt a j))∨(r= -1∧∀j:Nat,j < a.length→¬pr (gt a j)))):=by
 refine aN Tryz.func305 rfl Tryz.ntmps305 rfl ?_
 repeat refine aB ?_
 refine lV [0,1,7] rfl (fun k G M I=>∃i:Nat,i≤a.length∧k=a.length - i∧(∀j:Nat,j < i→¬pr (gt a j))∧G=[(8, .int .i64 i)]∧M=M0∧I=I0) (a.length) (⟨0,by omega,rfl,fun j hj=>by omega,rfl,rfl,rfl⟩) ?_
 rintro k G M I ⟨i,hi,rfl,hs,rfl,rfl,rfl⟩
 repeat' (first|refine aB ?_|refine aK rfl (fun h=>?_) (fun h=>?_)|refine aJ rfl rfl (fun h=>?_) (fun h=>?_)|fail)
 ·have hlt:i < a.length:=by omega
  (refine eQ rfl rfl (hg i hlt) rfl rfl rfl ?_;rintro _ _ _ ⟨rfl,rfl,rfl⟩;refine aL ?_)
  repeat' (first|refine aB ?_|refine aK rfl (fun h=>?_) (fun h=>?_)|refine aJ rfl rfl (fun h=>?_) (fun h=>?_)|fail)
  ·refine aP (by first|exact .inl rfl|exact .inr rfl) rfl rfl _ _ aF aD (⟨rfl,rfl,_,rfl, .inl ⟨i,hlt,rfl,by assumption,hs⟩⟩)
  ·refine gJ (a.length - (i+1)) (⟨i+1,by omega,rfl,fun j hj=>?_,rfl,rfl,rfl⟩)
   by_cases e:j=i
   ·subst e;assumption
   ·exact hs j (by omega)
 ·refine aP (by first|exact .inl rfl|exact .inr rfl) rfl rfl _ _ aF aD (⟨rfl,rfl,_,rfl, .inr ⟨rfl,fun j hj=>hs j (by omega)⟩⟩)
theorem aLX {q:Option Addr} {a:List WL} {c:Nat} {g:FuncId} [FnOk Tryz.prog g] {fs cs:Array Value} (pr:WL→Prop) [DecidablePred pr] (hn:(a.length:Int)≤9223372036854775807) (ha:aH q (recs eWL a)∈I0)
  (hg:∀i:Nat,i < a.length→CD Tryz.prog g (fs.toList++[lvW (gt a i)]++cs.toList) X w0 M0 I0 (fun v M I=>M0=M∧I0=I∧v= .bool (B (pr (gt a i))))):
  CD Tryz.prog 294 [.slice q a.length c, .func (.func g) fs cs] X w0 M0 I0 (fun v M I=>M0=M∧I0=I∧v= .bool (B (∃x∈a,pr x))):=by
 refine aN Tryz.func294 rfl Tryz.ntmps294 rfl ?_
 repeat refine aB ?_
 (refine aQ rfl (aTX pr hn ha hg) ?_;rintro _ _ _ ⟨rfl,rfl,r,rfl,h⟩;refine aL ?_)
 repeat refine aB ?_
 refine iA rfl rfl (⟨rfl,rfl,congrArg Value.bool (iG ?_)⟩)
 rcases h with ⟨i,hi,rfl,hp,_⟩|⟨rfl,h⟩
 ·exact ⟨fun _=>⟨gt a i,by rw [fE hi];exact List.getElem_mem hi,hp⟩,fun _=>by omega⟩
 ·refine ⟨fun h=>by omega,?_⟩
  rintro ⟨x,hx,hp⟩
  obtain ⟨j,hj,rfl⟩:=List.mem_iff_getElem.1 hx
  exact absurd (by rw [fE hj];exact hp) (h j hj)
end
section
variable {X:List Nat} {w0:World} {M0:List Ent} {I0:List aM}
theorem aFH {r:RW} (hs:r.sml) (hw:Hv I0 (isW r)):CD Tryz.prog 297 [wv r] X w0 M0 I0 (fun v M I=>M0=M∧I0=I∧v= .bool (B (¬r.good))):=by
 refine aS Tryz.func297 rfl Tryz.ntmps297 rfl ?_
 refine iH ?_
 refine gU rfl (fun b=>?_)
 repeat refine aB ?_
 refine dK rfl (aSM (r:=r) hs hw) ?_
 repeat refine aB ?_
 refine iA rfl rfl (⟨rfl,rfl,rfl⟩)
theorem yF {r:WL} (hs:r.sml) (hw:aFW r∈I0):CD Tryz.prog 269 [lvW r] X w0 M0 I0 (fun v M I=>M0=M∧I0=I∧v= .bool (B r.good)):=by
 refine aX (φ:=aH r.p (recs eW r.es)) (Hv.wlsl hw) ?_
 have hl:=hs.1
 refine aS Tryz.func269 rfl Tryz.ntmps269 rfl ?_
 repeat refine aB ?_
 refine dK rfl (aVI (g:=297) (fs:=#[]) (cs:=#[]) (fun (x:RW)=>¬x.good) (by omega) (List.Mem.head _) (fun i hi=>aFH (hs.2 _ (bD (by omega))) (Hv.wlel (List.Mem.tail _ hw) (by omega)))) ?_
 repeat refine aB ?_
 refine iA rfl rfl (⟨rfl,rfl,congrArg Value.bool (iG ?_)⟩)
 exact ⟨fun e x hx=>Decidable.of_not_not (fun hn=>e ⟨x,hx,hn⟩),fun e ⟨x,hx,hn⟩=>hn (e x hx)⟩
end
def WM.code (m:WM):Int:=if m.ok then 0 else 1
def codeL (ms:List WM):Int:=if ∀m∈ms,m.ok then 0 else 1
def bothC (a b:WM):Int:=if a.ok∧b.ok then (if a.rows.length=b.rows.length∧(gt a.rows 0).es.length=(gt b.rows 0).es.length then 0 else 4) else 1
def sqC (a:WM):Int:=if a.ok then (if a.rows.length=(gt a.rows 0).es.length then 0 else 4) else 1
section
variable {P:Program} {n:Nat} {Q:Exit→Act→World→Prop} {G:Env} {X:List Nat} {w0:World} {M M':List Ent} {I I':List aM} {ops l:List Oper} {m:Fx.Mode} {ty:TypeId} {pos:String} {af:Array Edge} {g:Option (Nat × Bool)}
theorem pX {d:Nat} {t:TypeId} {x:Operand} {q:Option Addr} {len c:Nat} (hx:ev G x=some (.slice q len c)) (hg:oQ ops G g=some true) (hd:Nat.ble (d+1) n=true)
  (k:∀b,OkD m X w0 (.blk b [.slice q len c] t::M) I∧RD P n ops Q m.nextE l ((d, .pointer (some ⟨b,0,none⟩))::G) X w0 M (aH (some ⟨b,0,none⟩) [.slice q len c]::I)):
  RD P n ops Q m (⟨some d, .box t x,ty,pos,af,g⟩::l) G X w0 M I:=nN hx hg hd (fun b=>⟨(k b).1,aI .here (k b).2⟩)
end
section
variable {X:List Nat} {w0:World} {M0:List Ent} {I0:List aM}
theorem aHI {m:WM} {b:Nat} {r:WL} (hR:1≤m.rows.length) (hs:r.sml) (h:Hv I0 (aFW r)) (hm:aCJ m∈I0) (hb:aH (some ⟨b,0,none⟩) [.slice m.p m.rows.length m.c]∈I0):
  CD Tryz.prog 295 [lvW r, .pointer (some ⟨b,0,none⟩)] X w0 M0 I0 (fun v M I=>M0=M∧I0=I∧v= .bool (B (¬(r.es.length=(gt m.rows 0).es.length∧r.good)))):=by
 refine aX (φ:=aFW r) h ?_
 refine aX (φ:=aH m.p (recs eWL m.rows)) (Hv.wmsl (List.Mem.tail _ hm)) ?_
 by_cases he:r.es.length=(gt m.rows 0).es.length
 ·have hq:B (¬r.good)=B (¬(r.es.length=(gt m.rows 0).es.length∧r.good)):=iG (not_congr ⟨fun h=>⟨he,h⟩,fun h=>h.2⟩)
  refine aN Tryz.func295 rfl Tryz.ntmps295 rfl ?_
  repeat refine aB ?_
  refine dK rfl (yF (r:=r) hs aA) ?_
  repeat refine aB ?_
  refine iA rfl rfl (⟨rfl,rfl,congrArg Value.bool hq⟩)
 ·have hn:¬(r.es.length=(gt m.rows 0).es.length∧r.good):=fun e=>he e.1
  have hq:B (¬(r.es.length=(gt m.rows 0).es.length∧r.good))=true:=bJ hn
  refine aN Tryz.func295 rfl Tryz.ntmps295 rfl ?_
  repeat refine aB ?_
  refine iA rfl rfl (⟨rfl,rfl,congrArg Value.bool hq.symm⟩)
theorem WM.code_ok {m:WM} (h:m.ok):m.code=0:=if_pos h
theorem WM.code_no {m:WM} (h:¬m.ok):m.code=1:=if_neg h
theorem aLI {m:WM} (hs:m.sml) (hm:aCJ m∈I0):CD Tryz.prog 267 [mvW m] X w0 M0 I0 (fun v M I=>M0=M∧I0=I∧v= .int .i64 m.code):=by
 refine aX (φ:=aH m.p (recs eWL m.rows)) (Hv.wmsl hm) ?_
 have hl:=hs.1
 by_cases hsh:1≤m.rows.length∧m.rows.length≤64∧1≤(gt m.rows 0).es.length∧(gt m.rows 0).es.length≤64
 ·obtain ⟨s1,s2,s3,s4⟩:=hsh
  by_cases hall:∃r∈m.rows,¬(r.es.length=(gt m.rows 0).es.length∧r.good)
  ·have hno:¬m.ok:=fun e=>by obtain ⟨r,hr,hn⟩:=hall;exact hn (e.2 r hr)
   rw [WM.code_no hno]
   refine aS Tryz.func267 rfl Tryz.ntmps267 rfl ?_
   refine iH ?_
   (refine pX rfl rfl rfl ?_;intro b;refine aL ?_)
   repeat refine aB ?_
   refine dK rfl (aLX (g:=295) (fs:=#[]) (cs:=#[.pointer (some ⟨b,0,none⟩)]) (fun (r:WL)=>¬(r.es.length=(gt m.rows 0).es.length∧r.good)) (by omega) aA (fun i hi=>aHI (m:=m) (b:=b) s1 (hs.2 _ (bD (by omega))) (Hv.wmrow aA (by omega)) aA aA)) ?_
   rw [bJ hall]
   repeat refine aB ?_
   refine iA rfl rfl (⟨rfl,rfl,rfl⟩)
  ·have hok:m.ok:=⟨⟨s1,s2,s3,s4⟩,fun r hr=>Decidable.of_not_not (fun hn=>hall ⟨r,hr,hn⟩)⟩
   rw [WM.code_ok hok]
   refine aS Tryz.func267 rfl Tryz.ntmps267 rfl ?_
   refine iH ?_
   (refine pX rfl rfl rfl ?_;intro b;refine aL ?_)
   repeat refine aB ?_
   refine dK rfl (aLX (g:=295) (fs:=#[]) (cs:=#[.pointer (some ⟨b,0,none⟩)]) (fun (r:WL)=>¬(r.es.length=(gt m.rows 0).es.length∧r.good)) (by omega) aA (fun i hi=>aHI (m:=m) (b:=b) s1 (hs.2 _ (bD (by omega))) (Hv.wmrow aA (by omega)) aA aA)) ?_
   rw [bE hall]
   repeat refine aB ?_
   refine iA rfl rfl (⟨rfl,rfl,rfl⟩)
 ·have hno:¬m.ok:=fun e=>hsh e.1
  rw [WM.code_no hno]
  refine aS Tryz.func267 rfl Tryz.ntmps267 rfl ?_
  refine iH ?_
  (refine pX rfl rfl rfl ?_;intro b;refine aL ?_)
  by_cases c1:1≤m.rows.length
  ·by_cases c2:m.rows.length≤64
   ·by_cases c3:1≤(gt m.rows 0).es.length
    ·repeat refine aB ?_
     refine iA rfl rfl (⟨rfl,rfl,rfl⟩)
    ·repeat refine aB ?_
     refine iA rfl rfl (⟨rfl,rfl,rfl⟩)
   ·repeat refine aB ?_
    refine iA rfl rfl (⟨rfl,rfl,rfl⟩)
  ·repeat refine aB ?_
   refine iA rfl rfl (⟨rfl,rfl,rfl⟩)
theorem aGN {a:WM} (sa:a.sml) (ha:aCJ a∈I0):CD Tryz.prog 236 [mvW a] X w0 M0 I0 (fun v M I=>M0=M∧I0=I∧v= .int .i64 (sqC a)):=by
 have hC:=fun M0 I0 h1=>aLI (X:=X) (w0:=w0) (M0:=M0) (I0:=I0) (m:=a) sa h1
 unfold sqC
 by_cases hok:a.ok
 ·rw [WM.code_ok hok] at hC
  rw [if_pos hok]
  obtain ⟨a1,a2,a3,a4⟩:=hok.1
  refine aX (φ:=aH a.p (recs eWL a.rows)) (Hv.wmsl ha) ?_
  refine aS Tryz.func236 rfl Tryz.ntmps236 rfl ?_
  repeat refine aB ?_
  refine dK rfl (hC _ _ aA) ?_
  by_cases e1:a.rows.length=(gt a.rows 0).es.length
  ·rw [if_pos e1]
   repeat refine aB ?_
   refine iA rfl rfl (⟨rfl,rfl,rfl⟩)
  ·rw [if_neg e1]
   repeat refine aB ?_
   refine iA rfl rfl (⟨rfl,rfl,rfl⟩)
 ·rw [WM.code_no hok] at hC
  rw [if_neg hok]
  refine aS Tryz.func236 rfl Tryz.ntmps236 rfl ?_
  repeat refine aB ?_
  refine dK rfl (hC _ _ aA) ?_
  repeat refine aB ?_
  refine iA rfl rfl (⟨rfl,rfl,rfl⟩)
end
structure AllL (rows:List RL) (k:Nat) (X:List Nat) (w:World):Prop where
 go:∀r∈rows,IsL r k X w
abbrev dX (rows:List RL) (k:Nat):aM:=AllL rows k
instance (rows:List RL) (k:Nat):Fx.Good (AllL rows k):=⟨fun X Y w w' h he hY=>⟨fun r hm=>Fx.Good.go (φ:=IsL _ _) X Y w w' (h.go r hm) he hY⟩⟩
theorem Hv.nilL {I:List aM} {k:Nat}:Hv I (dX [] k):=⟨fun X w _=>⟨fun x hx=>by simp at hx⟩⟩
theorem Hv.snocL {I:List aM} {rows:List RL} {r:RL} {k:Nat} (h1:dX rows k∈I) (h2:iQ r k∈I):Hv I (dX (rows++[r]) k):=⟨fun X w hw=>⟨fun x hx=>by
 rcases List.mem_append.1 hx with hx|hx
 ·exact (hw _ h1:AllL rows k X w).go x hx
 ·rw [List.mem_singleton.1 hx];exact hw _ h2⟩⟩
section
variable {X:List Nat} {w0:World} {M:List Ent} {I:List aM}
theorem Mem.toL {w:World} {q:Option Addr} {c k:Nat} {es:List RE} {ty:TypeId} {sz:Nat} (h:Mem X w0 (.row q es.length c (recs eR es) ty sz::M) I w) (ha:aU es k∈I):Mem X w0 M (iQ ⟨q,c,es⟩ k::I) w:=by
 have ho:=h.rowS List.mem_cons_self
 have hc:=h.rowLe List.mem_cons_self
 have h1:=h.freezeR .here
 refine (h1.add (φ:=iQ ⟨q,c,es⟩ k) ⟨(h1.sl (List.Mem.head _)),(((h1.imm _ (List.Mem.tail _ ha)).2:AllR es k _ w)).go,⟨hc,ho.2.imp id And.right⟩⟩).inc (.of fun φ hφ=>?_)
 rcases List.mem_cons.1 hφ with rfl|hφ
 ·exact List.Mem.head _
 ·exact List.Mem.tail _ (List.Mem.tail _ hφ)
theorem Mem.toX {w:World} {q:Option Addr} {c k:Nat} {rows:List RL} {ty:TypeId} {sz:Nat} (h:Mem X w0 (.row q rows.length c (recs eL rows) ty sz::M) I w) (ha:dX rows k∈I):Mem X w0 M (iB ⟨q,c,rows⟩ k::I) w:=by
 have ho:=h.rowS List.mem_cons_self
 have hc:=h.rowLe List.mem_cons_self
 have h1:=h.freezeR .here
 refine (h1.add (φ:=iB ⟨q,c,rows⟩ k) ⟨(h1.sl (List.Mem.head _)),(((h1.imm _ (List.Mem.tail _ ha)).2:AllL rows k _ w)).go,⟨hc,ho.2.imp id And.right⟩⟩).inc (.of fun φ hφ=>?_)
 rcases List.mem_cons.1 hφ with rfl|hφ
 ·exact List.Mem.head _
 ·exact List.Mem.tail _ (List.Mem.tail _ hφ)
variable {P:Program} {n:Nat} {Q:Exit→Act→World→Prop} {G:Env}
theorem aHM {ops l:List Oper} {m:Fx.Mode} {q:Option Addr} {c k:Nat} {es:List RE} {ty:TypeId} {sz:Nat} (ha:aU es k∈I) (h:RD P n ops Q m l G X w0 M (iQ ⟨q,c,es⟩ k::I)):RD P n ops Q m l G X w0 (.row q es.length c (recs eR es) ty sz::M) I:=vX (fun _ hw=>Mem.toL hw ha) h
theorem aID {cd:Code} {q:Option Addr} {c k:Nat} {es:List RE} {ty:TypeId} {sz:Nat} (ha:aU es k∈I) (h:TD P n cd Q G X w0 M (iQ ⟨q,c,es⟩ k::I)):TD P n cd Q G X w0 (.row q es.length c (recs eR es) ty sz::M) I:=aFP (fun _ hw=>Mem.toL hw ha) h
theorem aIT {ex:Exit} {q:Option Addr} {c k:Nat} {es:List RE} {ty:TypeId} {sz:Nat} (ha:aU es k∈I) (h:ND n Q ex G X w0 M (iQ ⟨q,c,es⟩ k::I)):ND n Q ex G X w0 (.row q es.length c (recs eR es) ty sz::M) I:=yK (fun _ hw=>Mem.toL hw ha) h
theorem aDZ {ex:Exit} {q:Option Addr} {c k:Nat} {rows:List RL} {ty:TypeId} {sz:Nat} (ha:dX rows k∈I) (h:ND n Q ex G X w0 M (iB ⟨q,c,rows⟩ k::I)):ND n Q ex G X w0 (.row q rows.length c (recs eL rows) ty sz::M) I:=yK (fun _ hw=>Mem.toX hw ha) h
theorem aUE {ops l:List Oper} {m:Fx.Mode} {q:Option Addr} {c k:Nat} {rows:List RL} {ty:TypeId} {sz:Nat} (ha:dX rows k∈I) (h:RD P n ops Q m l G X w0 M (iB ⟨q,c,rows⟩ k::I)):RD P n ops Q m l G X w0 (.row q rows.length c (recs eL rows) ty sz::M) I:=vX (fun _ hw=>Mem.toX hw ha) h
end
theorem aXX {rows:List RL} {r:RL}:(rows++[r]).map RL.q=rows.map RL.q++[r.q]:=by simp
end Go.Proofs.YtmmmfphealhapaaGreat

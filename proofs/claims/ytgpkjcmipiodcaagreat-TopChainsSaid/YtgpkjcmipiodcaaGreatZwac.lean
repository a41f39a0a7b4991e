/- Memory of the call's own: new blocks, stores, make, append, copy. -/
import Derived.Test.YtgpkjcmipiodcaaGreatZwab
import Derived.Laws.CopyRow
import Derived.Laws.MakeOwn
import Derived.Laws.OwnMore
import Derived.Laws.StructEq
import Derived.Laws.Small
set_option linter.unusedSimpArgs false
set_option linter.unusedVariables false
set_option maxRecDepth 100000
set_option maxHeartbeats 4000000
namespace Go.Fx
def Blk (w:World) (b:Nat) (cs:List Value) (e:TypeId):Prop:=w.heap[b]?=some (.cells cs.toArray e (0,0))
theorem Blk.lt {w:World} {b:Nat} {cs:List Value} {e:TypeId} (h:Blk w b cs e):b < w.heap.size:=(Array.getElem?_eq_some_iff.1 h).1
theorem Blk.ext {X:List Nat} {w w':World} {b:Nat} {cs:List Value} {e:TypeId} (h:Blk w b cs e) (he:Ext X w w') (hx:b ∉ X):Blk w' b cs e:=
 (he.block b h.lt hx).trans h
theorem Blk.cell {w:World} {b:Nat} {cs:List Value} {e:TypeId} (h:Blk w b cs e) {o:Nat} {v:Value} (hv:cs[o]?=some v):w.cell? ⟨b,o,none⟩=some v:=by
 unfold Blk at h
 simp [World.cell?,h,hv]
theorem Blk.row {w:World} {b:Nat} {cs:List Value} {e:TypeId} (h:Blk w b cs e) {o:Nat} {vs:List Value} (hv:∀j v,vs[j]?=some v→cs[o+j]?=some v):Row w b o vs:=fun j v hj=>h.cell (hv j v hj)
theorem Blk.row0 {w:World} {b:Nat} {cs:List Value} {e:TypeId} (h:Blk w b cs e):Row w b 0 cs:=fun j v hj=>h.cell (by simpa using hj)
theorem Blk.sl {X:List Nat} {w:World} {b:Nat} {cs xs:List Value} {e:TypeId} (h:Blk w b cs e) (hx:b ∉ X) (o:Nat) (hv:∀j v,xs[j]?=some v→cs[o+j]?=some v):Sl X w (some ⟨b,o,none⟩) xs:=fun j v hj=>
 ⟨Ok.mk b o,by simpa [bl] using hx,by simpa [pt,bl,of] using h.cell (hv j v hj)⟩
theorem Row.ext {X:List Nat} {w w':World} {b o:Nat} {vs:List Value} (h:Row w b o vs) (he:Ext X w w') (hx:b ∉ X):Row w' b o vs:=fun j v hj=>he.cell (h j v hj) hx
theorem Ext.lt {X:List Nat} {w w':World} (h:Ext X w w') {b:Nat} (hb:b < w.heap.size):b < w'.heap.size:=Nat.lt_of_lt_of_le hb h.size
theorem Ext.setRow {X:List Nat} {w:World} {b:Nat} (hb:b∈X) (cs:Array Value):Ext X w (w.setRow b cs):=
 ⟨rfl,rfl,rfl,by simp,fun k _ hx=>setRow_other w b k cs (fun e=>hx (e ▸ hb))⟩
theorem Ext.grown {X:List Nat} {w w':World} {row:Option Nat} (h:w.grownBy w' row) (hr:∀k,row=some k→k∈X):Ext X w w':=
 ⟨h.os,h.tape,h.output,h.size,fun k hk hx=>h.block k hk (fun e=>hx (hr k e.symm))⟩
theorem zX {P:Program} {e:TypeId} {sz by_:Nat} {z:List Value} (h:ElemTy P e sz by_ z):∃i v,P.info? e=some i∧i.size=sz∧i.bytes=by_∧i.zero=some v∧v.cells=z.toArray:=by
 obtain ⟨i,hi,hh⟩:=Option.map_eq_some_iff.1 h.info
 simp only [Prod.mk.injEq] at hh
 obtain ⟨h1,h2,h3⟩:=hh
 obtain ⟨v,hv,hc⟩:=Option.map_eq_some_iff.1 h3
 exact ⟨i,v,hi,h1,h2,hv,hc⟩
section
variable {P:Program} {n:Nat} {G:Env} {ty:TypeId} {w:World}
theorem uO {o:Oper} {a:Act} {v:Value} {w':World} {K:Act→World→Prop} (h:(execOp a.eval o).run P w= .ok (.value v) w') (hk:K (a.put o.dst v) w'):o.wp P a w K QF:=by
 unfold Oper.wp;rw [h];exact hk
theorem aTH {o:Oper} {a:Act} {w':World} {K:Act→World→Prop} (h:(execOp a.eval o).run P w= .ok .skip w') (hk:K (a.put o.dst undef) w'):o.wp P a w K QF:=by
 unfold Oper.wp;rw [h];exact hk
theorem Eff_alloc {t:TypeId} {sz by_:Nat} {z:List Value} [ht:ElemTy P t sz by_ z]:
  Eff P n G (.alloc t) ty w (fun v w'=>∃b,b=w.heap.size∧v= .pointer (some ⟨b,0,none⟩)∧Blk w' b z t∧Ext [] w w'∧b < w'.heap.size):=by
 refine ⟨?_⟩
 intro a ha dst pos after guard
 obtain ⟨i,v,hi,_,_,hz,hc⟩:=zX ht
 refine uO (v:= .pointer (some ⟨w.heap.size,0,none⟩)) (w':=w.alloc (.cells z.toArray t)) ?_ ⟨_,⟨_,rfl,rfl,?_,Ext.alloc _ _ _,by simp⟩,rfl⟩
 ·simp [execOp,Instr.alloc,zeroValue,typeInfo,hi,hz,newVar,newRow,hc]
 ·exact heap_alloc_new w _
theorem aMZ {t:TypeId} {x:Operand} {v:Value} (hx:ev G x=some v):
  Eff P n G (.box t x) ty w (fun p w'=>∃b,b=w.heap.size∧p= .pointer (some ⟨b,0,none⟩)∧Blk w' b v.cells.toList t∧Ext [] w w'∧b < w'.heap.size):=by
 refine ⟨?_⟩
 intro a ha dst pos after guard
 refine uO (v:= .pointer (some ⟨w.heap.size,0,none⟩)) (w':=w.alloc (.cells v.cells t)) ?_ ⟨_,⟨_,rfl,rfl,?_,Ext.alloc _ _ _,by simp⟩,rfl⟩
 ·simp [execOp,Instr.box,newVar,newRow,ha.ev hx]
 ·simpa [Blk] using heap_alloc_new w _
def splice (cs:List Value) (o:Nat) (vs:List Value):List Value:=cs.take o++vs++cs.drop (o+vs.length)
theorem aLN {cs vs:List Value} (h:vs.length=cs.length):splice cs 0 vs=vs:=by simp [splice,h]
theorem aDD {cs:List Value} {o:Nat} (h:o < cs.length) (v:Value):splice cs o [v]=cs.set o v:=by
 simp [splice,List.set_eq_take_append_cons_drop,h]
theorem aEZ {t:TypeId} {sz:Nat} {x y:Operand} {b o:Nat} {v:Value} {vs cs:List Value} {e:TypeId} (hsz:(P.info? t).map (·.size)=some sz)
  (hx:ev G x=some (.pointer (some ⟨b,o,none⟩))) (hy:ev G y=some v) (hv:v.cells=vs.toArray) (hl:vs.length=sz) (h1:∀u∈vs,u.oneCell'=true) (hB:Blk w b cs e) (ho:o+vs.length≤cs.length):
  Eff P n G (.store t x y) ty w (fun u w'=>u=undef∧Blk w' b (splice cs o vs) e∧Ext [b] w w'):=by
 refine ⟨?_⟩
 intro a ha dst pos after guard
 have hst:=run_storeCells_at P b o e vs 0 cs.toArray w hB (by simpa using ho) h1
 refine aTH (w':=w.setRow b (splice cs o vs).toArray) ?_ ⟨_,⟨rfl,?_,Ext.setRow (by simp) _⟩,rfl⟩
 ·simp only [Nat.add_zero] at hst
  simp [execOp,Instr.storeAt,Instr.sureAddr,ha.ev hx,ha.ev hy,storeVar,run_sizeOf hsz,hv,hl,hst,splice]
 ·exact setRow_heap w b _ _ _ _ hB
theorem aMO {t:TypeId} {x y:Operand} {b o:Nat} {v:Value} {cs:List Value} {e:TypeId} [ht:ScalarTy P t]
  (hx:ev G x=some (.pointer (some ⟨b,o,none⟩))) (hy:ev G y=some v) (h1:v.oneCell'=true) (hB:Blk w b cs e) (ho:o < cs.length):
  Eff P n G (.store t x y) ty w (fun u w'=>u=undef∧Blk w' b (cs.set o v) e∧Ext [b] w w'):=by
 have hv:v.cells=#[v]:=by cases v <;>first|rfl|simp [Value.oneCell'] at h1
 have:=aEZ (n:=n) (G:=G) (ty:=ty) (vs:=[v]) ht.size hx hy hv rfl (by simpa using h1) hB (by simp only [List.length_cons,List.length_nil];omega)
 rw [aDD ho] at this
 exact this
theorem aMG {t:TypeId} {sz:Nat} {x y:Operand} {b o:Nat} {vs cs:List Value} {e:TypeId} [ht:AggTy P t sz]
  (hx:ev G x=some (.pointer (some ⟨b,o,none⟩))) (hy:ev G y=some (.agg vs.toArray)) (hl:vs.length=sz) (h1:∀u∈vs,u.oneCell'=true) (hB:Blk w b cs e) (ho:o+vs.length≤cs.length):
  Eff P n G (.store t x y) ty w (fun u w'=>u=undef∧Blk w' b (splice cs o vs) e∧Ext [b] w w'):=
 aEZ ht.size hx hy rfl hl h1 hB ho
theorem aSV {t e:TypeId} {sz sz' by_:Nat} {z:List Value} {l c:Operand} {k k':IntKind} {m:Nat} [ht:SliceTy P t e sz'] [hz:ElemTy P e sz by_ z]
  (hl:ev G l=some (.int k (m:Int))) (hc:ev G c=some (.int k' (m:Int))) (hb:(by_:Int)*(m:Int)≤281474976710656) (hm:(m:Int)≤9223372036854775807):
  Eff P n G (.makeSlice t l c) ty w (fun v w'=>∃b,b=w.heap.size∧v= .slice (some ⟨b,0,none⟩) m m∧Blk w' b (madeCells z.toArray (m*sz)).toList e∧Ext [] w w'∧b < w'.heap.size):=by
 refine ⟨?_⟩
 intro a ha dst pos after guard
 obtain ⟨i,v,hi,hs,hby,hzv,hcl⟩:=zX hz
 have hr:=run_make (P:=P) w t e i v ht.und hi hzv k k' m m (by omega) (by omega) (by rw [hby];exact hb) hm
 refine uO (v:= .slice (some ⟨w.heap.size,0,none⟩) m m) (w':=w.alloc (.cells (madeCells z.toArray (m*sz)) e)) ?_ ⟨_,⟨_,rfl,rfl,?_,Ext.alloc _ _ _,by simp⟩,rfl⟩
 ·simp only [Int.toNat_natCast,hs,hcl] at hr
  simp [execOp,ha.ev hl,ha.ev hc,hr]
 ·simpa [Blk] using heap_alloc_new w _
theorem aEO (z:Value) (m:Nat):(madeCells [z].toArray m).toList=List.replicate m z:=by
 apply List.ext_getElem
 ·simp [madeCells]
 ·intro i h1 h2
  simp [madeCells] at h1 ⊢
  simp [Nat.mod_one]
theorem aXI {t e:TypeId} {sz sz' by_ len:Nat} {z cells:List Value} {parts:List (Nat × Operand)} {pvs:List (Nat × Value)} [ht:SliceTy P t e sz'] [hz:ElemTy P e sz by_ z]
  (hp:parts.map (fun p=>(p.1,ev G p.2))=pvs.map (fun p=>(p.1,some p.2)))
  (hf:Instr.fill (fun i=>some (i*sz,sz)) (madeCells z.toArray (len*sz)) pvs=some cells.toArray) (hb:len*sz≤16777216):
  Eff P n G (.buildSlice t len parts.toArray) ty w (fun v w'=>∃b,b=w.heap.size∧v= .slice (some ⟨b,0,none⟩) len len∧Blk w' b cells e∧Ext [] w w'∧b < w'.heap.size):=by
 refine ⟨?_⟩
 intro a ha dst pos after guard
 obtain ⟨i,v,hi,hs,hby,hzv,hcl⟩:=zX hz
 have hmap:parts.map (fun p=>(p.1,a.eval p.2))=pvs:=by
  clear hf
  induction parts generalizing pvs with
  |nil=>cases pvs with
   |nil=>rfl
   |cons _ _=>simp at hp
  |cons q r ih=>
   cases pvs with
   |nil=>simp at hp
   |cons q' r'=>
    simp only [List.map_cons,List.cons.injEq,Prod.mk.injEq] at hp
    obtain ⟨⟨h1,h2⟩,h3⟩:=hp
    simp only [List.map_cons,ih h3,ha.ev h2,h1]
 have hsz:(P.info? e).map (·.size)=some sz:=by simp [hi,hs]
 have hrun:(Instr.buildSlice t len pvs.toArray).run P w= .ok (.slice (some ⟨w.heap.size,0,none⟩) len len) (w.alloc (.cells cells.toArray e)):=by
  unfold Instr.buildSlice
  simp only [Sem.run_bind,dM ht.und,Result.andThen_ok,run_sizeOf hsz]
  have hnot:¬(len*sz>2 ^ 24):=by simpa using hb
  rw [if_neg hnot]
  by_cases h0:len*sz=0
  ·have hf':Instr.fill (fun i=>some (i*sz,sz)) ((Array.range (len*sz)).map (fun x=>(#[]:Array Value)[x % (#[]:Array Value).size]!)) pvs=some cells.toArray:=by
    rw [h0] at hf ⊢
    have e1:madeCells z.toArray 0=#[]:=by simp [madeCells]
    rw [e1] at hf
    have e2:∀f:Nat→Value,(Array.range 0).map f=#[]:=fun f=>Array.eq_empty_of_size_eq_zero (by simp)
    rw [e2]
    exact hf
   simp only [h0,if_true,Sem.run_bind,Sem.run_pure,Result.andThen_ok]
   rw [h0] at hf'
   rw [hf']
   rfl
  ·rw [if_neg h0]
   have hzz:(zeroValue e).run P w= .ok v w:=by simp [zeroValue,typeInfo,hi,hzv]
   simp only [Sem.run_bind,Sem.run_pure,Result.andThen_ok,hzz,hcl]
   have hf':Instr.fill (fun i=>some (i*sz,sz)) ((Array.range (len*sz)).map (fun x=>z.toArray[x % z.toArray.size]!)) pvs=some cells.toArray:=hf
   rw [hf']
   rfl
 refine uO (v:= .slice (some ⟨w.heap.size,0,none⟩) len len) (w':=w.alloc (.cells cells.toArray e)) ?_ ⟨_,⟨_,rfl,rfl,heap_alloc_new w _,Ext.alloc _ _ _,by simp⟩,rfl⟩
 simp [execOp,hmap,hrun]
theorem aJR (off:Nat):∀(xs:List Value) (s:Nat) (base:Array Value) (t:Nat),off+s+xs.length≤base.size→
  ((xs.zipIdx s).foldl (fun cs (p:Value × Nat)=>cs.setIfInBounds (off+p.2) p.1) base)[t]?=if off+s≤t∧t < off+s+xs.length then xs[t - (off+s)]? else base[t]?
 |[],s,base,t,_=>by simp;omega
 |x::r,s,base,t,hl=>by
  simp only [List.zipIdx_cons,List.foldl_cons]
  rw [aJR off r (s+1) _ t (by simp at hl ⊢;omega)]
  simp only [List.length_cons] at hl ⊢
  by_cases h1:off+(s+1)≤t∧t < off+(s+1)+r.length
  ·rw [if_pos h1,if_pos (by omega)]
   have:t - (off+s)=(t - (off+(s+1)))+1:=by omega
   rw [this];simp
  ·rw [if_neg h1]
   by_cases h2:t=off+s
   ·subst h2
    rw [if_pos (by omega)]
    simp [show off+s < base.size by omega]
   ·rw [if_neg (by omega),Array.getElem?_setIfInBounds_ne (by omega)]
theorem aBG (off:Nat) (xs:List Value) (base:Array Value) (h:off+xs.length≤base.size):
  (xs.toArray.zipIdx.foldl (fun cs (p:Value × Nat)=>cs.setIfInBounds (off+p.2) p.1) base)=(base.toList.take off++xs++base.toList.drop (off+xs.length)).toArray:=by
 apply Array.ext_getElem?
 intro t
 have:=aJR off xs 0 base t (by simpa using h)
 have e:xs.toArray.zipIdx.foldl (fun cs (p:Value × Nat)=>cs.setIfInBounds (off+p.2) p.1) base=(xs.zipIdx 0).foldl (fun cs (p:Value × Nat)=>cs.setIfInBounds (off+p.2) p.1) base:=by
  rw [←Array.foldl_toList];simp
 rw [e,this]
 simp only [Nat.add_zero,List.getElem?_toArray]
 by_cases h1:off≤t∧t < off+xs.length
 ·rw [if_pos h1,List.append_assoc,List.getElem?_append_right (by simp;omega),List.getElem?_append_left (by simp;omega)]
  congr 1
  simp;omega
 ·rw [if_neg h1]
  by_cases h2:t < off
  ·rw [List.append_assoc,List.getElem?_append_left (by simp;omega),List.getElem?_take,if_pos h2]
   simp
  ·rw [List.getElem?_append_right (by simp;omega)]
   simp only [List.length_append,List.length_take,Array.length_toList,List.getElem?_drop,Array.getElem?_toList]
   congr 1
   omega
theorem aDZ (sz:Nat):∀(vals:List Value) (k:Nat) (pre:List Value) (base:Array Value),pre.length=k*sz→base.size=(k+vals.length)*sz→base.toList.take (k*sz)=pre→(∀v∈vals,v.cells.size=sz)→
  Instr.fill (fun i=>some (i*sz,sz)) base ((vals.zipIdx k).map (fun p=>(p.2,p.1)))=some (pre++vals.flatMap (fun v=>v.cells.toList)).toArray
 |[],k,pre,base,_,hb,ht,_=>by
  have:base.toList=pre:=by
   rw [←ht,List.take_of_length_le]
   simp [hb]
  simp [Instr.fill,←this]
 |v::r,k,pre,base,hp,hb,ht,hc=>by
  have hv:=hc v (by simp)
  have hlt:k*sz+sz≤base.size:=by
   rw [hb]
   have:k+(v::r).length=(k+1)+r.length:=by simp;omega
   rw [this,Nat.add_mul,Nat.add_mul]
   omega
  simp only [List.zipIdx_cons,List.map_cons,Instr.fill]
  have hno:¬(v.cells.size≠sz∨k*sz+v.cells.size>base.size):=by
   rw [hv];omega
  have hf:=aBG (k*sz) v.cells.toList base (by simp [hv];omega)
  simp only [Array.toArray_toList] at hf
  have hno2:(decide (v.cells.size≠sz)||decide (k*sz+v.cells.size>base.size))=false:=by simp [hv];omega
  simp only [Bool.or_eq_true,decide_eq_true_eq,hno,if_false,hf]
  rw [aDZ sz r (k+1) (pre++v.cells.toList) _ (by simp [hp,hv,Nat.add_mul]) ?_ ?_ (fun u hu=>hc u (by simp [hu]))]
  ·simp
  ·simp only [List.size_toArray,List.length_append,List.length_take,List.length_drop,Array.length_toList,hv]
   simp only [List.length_cons] at hb
   have:(k+1+r.length)*sz=(k+(r.length+1))*sz:=by congr 1;omega
   rw [this,←hb]
   omega
  ·simp only [ht]
   rw [List.take_append_of_le_length (by simp [hp,hv,Nat.add_mul])]
   rw [List.take_of_length_le (by simp [hp,hv,Nat.add_mul])]
theorem aSB {t e:TypeId} {sz sz' by_ len:Nat} {z:List Value} {parts:List (Nat × Operand)} {vals:List Value} [ht:SliceTy P t e sz'] [hz:ElemTy P e sz by_ z]
  (hp:parts.map (fun p=>(p.1,ev G p.2))=(vals.zipIdx).map (fun p=>(p.2,some p.1))) (hl:vals.length=len) (hc:∀v∈vals,v.cells.size=sz) (hb:len*sz≤16777216):
  Eff P n G (.buildSlice t len parts.toArray) ty w (fun v w'=>∃b,b=w.heap.size∧v= .slice (some ⟨b,0,none⟩) len len∧Blk w' b (vals.flatMap (fun v=>v.cells.toList)) e∧Ext [] w w'∧b < w'.heap.size):=by
 refine aXI (pvs:=(vals.zipIdx).map (fun p=>(p.2,p.1))) (by rw [hp];simp) ?_ hb
 have:=aDZ sz vals 0 [] (madeCells z.toArray (len*sz)) (by simp) (by simp [madeCells,hl]) (by simp) hc
 simpa using this
theorem aBM {C:World→Prop} {t:TypeId} {parts:List (Nat × Operand)} {pvs:List (Nat × Value)} {cells:List Value}
  (hp:parts.map (fun p=>(p.1,ev G p.2))=pvs.map (fun p=>(p.1,some p.2)))
  (hf:∀w,(Instr.build t pvs.toArray).run P w= .ok (.agg cells.toArray) w):Const P n G (.build t parts.toArray) ty C (.agg cells.toArray):=by
 refine ⟨?_⟩
 intro a ha dst pos after guard w _
 have hmap:parts.map (fun p=>(p.1,a.eval p.2))=pvs:=by
  clear hf
  induction parts generalizing pvs with
  |nil=>cases pvs with
   |nil=>rfl
   |cons _ _=>simp at hp
  |cons q r ih=>
   cases pvs with
   |nil=>simp at hp
   |cons q' r'=>
    simp only [List.map_cons,List.cons.injEq,Prod.mk.injEq] at hp
    obtain ⟨⟨h1,h2⟩,h3⟩:=hp
    simp only [List.map_cons,ih h3,ha.ev h2,h1]
 have h:=hf w
 simp [execOp,hmap,h]
theorem run_places {P:Program} {w:World}:∀(fs:List Field) (places:List (Nat × Nat)),fs.map (fun f=>(f.offset,(P.info? f.type).map (·.size)))=places.map (fun p=>(p.1,some p.2))→
  (fs.mapM (m:=Sem) (fun f=>do pure (f.offset,←sizeOf f.type))).run P w= .ok places w
 |[],[],_=>rfl
 |[],_::_,h=>by simp at h
 |_::_,[],h=>by simp at h
 |f::fs,p::ps,h=>by
  simp only [List.map_cons,List.cons.injEq,Prod.mk.injEq] at h
  obtain ⟨⟨h1,h2⟩,h3⟩:=h
  have ih:=run_places (w:=w) fs ps h3
  simp only [List.mapM_cons,Sem.run_bind,run_sizeOf h2,Result.andThen_ok,Sem.run_pure,ih,h1]
theorem aK {C:World→Prop} {t:TypeId} {parts:List (Nat × Operand)} {pvs:List (Nat × Value)} {cells:List Value} {places:List (Nat × Nat)} {z:List Value} [ht:StructTy P t places z]
  (hp:parts.map (fun p=>(p.1,ev G p.2))=pvs.map (fun p=>(p.1,some p.2)))
  (hf:Instr.fill (places.toArray[·]?) z.toArray pvs=some cells.toArray):Const P n G (.build t parts.toArray) ty C (.agg cells.toArray):=by
 refine aBM hp fun w=>?_
 obtain ⟨fs,h1,h2⟩:=ht.und
 obtain ⟨i,hi,h3⟩:=Option.map_eq_some_iff.1 ht.zero
 obtain ⟨v,hv,hc⟩:=Option.map_eq_some_iff.1 h3
 have hz:(zeroValue t).run P w= .ok v w:=by simp [zeroValue,typeInfo,hi,hv]
 have hm:=run_places (P:=P) (w:=w) fs.toList places h2
 have hm2:(fs.mapM (m:=Sem) (fun f=>do pure (f.offset,←sizeOf f.type))).run P w= .ok places.toArray w:=by
  have:fs=fs.toList.toArray:=by simp
  rw [this,List.mapM_toArray]
  simp only [Sem.run_map,hm,Result.andThen_ok]
 unfold Instr.build
 rw [Sem.run_bind,hz,Result.andThen_ok,Sem.run_bind,dM h1,Result.andThen_ok]
 show ((Array.mapM (m:=Sem) _ fs)>>=_).run P w=_
 rw [Sem.run_bind]
 refine (congrArg (fun r=>Result.andThen r _) hm2).trans ?_
 simp only [Result.andThen_ok,hc,hf]
 rfl
theorem aAG {t e:TypeId} {i:TypeInfo} {z:Value} {base:Nat} (ht:P.underlying t=some (.slice e)) (hi:P.info? e=some i) (hz:i.zero=some z) (hsz:0 < i.size)
  (v:Value) (m:Nat) (xs:List Value) (hown:w.ownsRow base e i.size v m xs) (a:Addr) (l c:Nat) (news:List Value) (hl:news.length=l*i.size) (hnews:∀j u,news[j]?=some u→w.cell? (a.add j)=some u) (h1:∀u∈news,u.oneCell'=true)
  (h63:m+l≤9223372036854775807) (hby:(m+l)*i.bytes≤140737488355328) {v':Value} {w':World} (hr:(Builtin.append_ #[t,t] ty #[v, .slice (some a) l c]).run P w= .ok v' w'):
  v'.ownBlock=v.ownBlock∨v'.ownBlock=some w.heap.size:=by
 rcases hown.2 with ⟨rfl,rfl⟩|⟨g,cap,cur,rfl,_,hg,hmc,_,hcs,htake⟩
 ·by_cases h0:l=0
  ·subst h0
   have hn:news=[]:=List.eq_nil_of_length_eq_zero (by simpa using hl)
   subst hn
   have hx:(Builtin.append_ #[t,t] ty #[.slice none 0 0, .slice (some a) 0 c]).run P w= .ok (.slice none 0 0) w:=by
    simp [Builtin.append_,dM ht,sizeOf,typeInfo,hi,Builtin.lenOf,Builtin.firstCells,loadCells,loadCellsFrom]
   rw [hx] at hr
   injection hr with e1 e2
   subst e1
   exact .inl rfl
  ·have hx:=run_append_nil (P:=P) w t ty e i z ht hi hz a l c news hl hnews (by omega) (by omega) (by have hb:=hby;simp only [Nat.zero_add] at hb;omega)
   rw [hx] at hr
   injection hr with e1 e2
   subst e1
   exact .inr rfl
 ·by_cases hroom:m+l≤cap
  ·have hfit:m*i.size+news.length≤cur.size:=by rw [hl,hcs,←Nat.add_mul];exact Nat.mul_le_mul_right _ hroom
   have hx:=run_append_room (P:=P) w t ty e i ht hi g m cap cur hg a l c news hl hnews h1 hroom hfit
   rw [hx] at hr
   injection hr with e1 e2
   subst e1
   exact .inl rfl
  ·have holds:∀j u,xs[j]?=some u→w.cell? ((⟨g,0,none⟩:Addr).add j)=some u:=hown.cells (g:=g) rfl
   have hx:=run_append_grow (P:=P) w t ty e i z ht hi hz ⟨g,0,none⟩ m cap xs hown.1 holds a l c news hl hnews (by omega) (by omega) (growslice_fits (by omega) hby)
   rw [hx] at hr
   injection hr with e1 e2
   subst e1
   exact .inr rfl
theorem aLI {s x:Operand} {t e:TypeId} {sz sz' by_:Nat} {z:List Value} {v:Value} {m l c base:Nat} {xs news:List Value} {a':Option Addr} {X:List Nat} [ht:SliceTy P t e sz'] [hz:ElemTy P e sz by_ z]
  (hs:ev G s=some v) (hx:ev G x=some (.slice a' l c)) (hown:w.ownsRow base e sz v m xs) (hsz:0 < sz)
  (hok:Ok a'∨(l=0∧c=0)) (hnews:Sl X w a' news) (hl:news.length=l*sz) (h1:∀u∈news,u.oneCell'=true) (hb:(m+l)*by_≤140737488355328) (h63:m+l≤9223372036854775807) (hbase:base≤w.heap.size):
  Eff P n G (.call {callee:= .builtin .append,args:=#[s,x],argTypes:=#[t,t]}) ty w
   (fun v' w'=>w'.ownsRow base e sz v' (m+l) (xs++news)∧w.grownBy w' v.ownBlock∧base≤w'.heap.size∧(v'.ownBlock=v.ownBlock∨v'.ownBlock=some w.heap.size)):=by
 refine ⟨?_⟩
 intro a ha dst pos after guard
 obtain ⟨i,vz,hi,hs2,hby,hzv,hcl⟩:=zX hz
 have hok2:Ok a'∨(∃ad,a'=some ad∧l=0)∨(a'=none∧l=0∧c=0):=by
  rcases hok with h|⟨h1,h2⟩
  ·exact .inl h
  ·cases a' with
   |none=>exact .inr (.inr ⟨rfl,h1,h2⟩)
   |some ad=>exact .inr (.inl ⟨ad,rfl,h1⟩)
 rcases hok2 with hok|⟨ad,rfl,rfl⟩|⟨rfl,rfl,rfl⟩
 ·obtain ⟨b,o,rfl⟩:=hok.cases
  obtain ⟨v',w',hr,h2,h3,_⟩:=run_append_own (P:=P) w base t ty e i vz sz by_ ht.und hi hzv hs2 hby (by simp [hcl,hz.len]) hsz v m xs hown ⟨b,o,none⟩ l c news hl
   (fun j u hj=>by rw [add_lit];exact (hnews j u hj).2.2) h1 (by simpa [maxLen] using h63) hb hbase
  have hblk:=aAG (ty:=ty) ht.und hi hzv (by omega) v m xs (by rw [hs2];exact hown) ⟨b,o,none⟩ l c news (by rw [hs2];exact hl) (fun j u hj=>by rw [add_lit];exact (hnews j u hj).2.2) h1 h63 (by rw [hby];exact hb) hr
  refine uO (v:=v') (w':=w') ?_ ⟨_,⟨h2,h3,Nat.le_trans hbase h3.size,hblk⟩,rfl⟩
  simp [execOp,resolve,invoke,builtin,ha.ev hs,ha.ev hx,hr]
 ·have hn:news=[]:=List.eq_nil_of_length_eq_zero (by simpa using hl)
  subst hn
  obtain ⟨v',w',hr,h2,h3,_⟩:=run_append_own (P:=P) w base t ty e i vz sz by_ ht.und hi hzv hs2 hby (by simp [hcl,hz.len]) hsz v m xs hown ad 0 c [] hl
   (fun j u hj=>by simp at hj) h1 (by simpa [maxLen] using h63) hb hbase
  have hblk:=aAG (ty:=ty) ht.und hi hzv (by omega) v m xs (by rw [hs2];exact hown) ad 0 c [] (by rw [hs2];exact hl) (fun j u hj=>by simp at hj) h1 h63 (by rw [hby];exact hb) hr
  refine uO (v:=v') (w':=w') ?_ ⟨_,⟨h2,h3,Nat.le_trans hbase h3.size,hblk⟩,rfl⟩
  simp [execOp,resolve,invoke,builtin,ha.ev hs,ha.ev hx,hr]
 ·have hn:news=[]:=List.eq_nil_of_length_eq_zero (by simpa using hl)
  subst hn
  have hr:=run_append_owned_none (P:=P) (w:=w) base t ty e i sz ht.und hi v m xs hown
  refine uO (v:=v) (w':=w) ?_ ⟨_,⟨by simpa using hown,⟨rfl,rfl,rfl,Nat.le_refl _,fun _ _ _=>rfl⟩,hbase, .inl rfl⟩,rfl⟩
  simp [execOp,resolve,invoke,builtin,ha.ev hs,ha.ev hx,hr]
end
theorem aGW {w:World} {base:Nat} {e:TypeId} {sz:Nat} {v:Value} {m:Nat} {xs:List Value} (h:w.ownsRow base e sz v m xs):
  ∃a c,v= .slice a m c∧(∀X:List Nat,(∀k,v.ownBlock=some k→k ∉ X)→Sl X w a xs)∧(Ok a∨(a=none∧m=0∧c=0))∧m≤c:=by
 rcases h.2 with ⟨rfl,rfl⟩|⟨g,cap,cur,rfl,_,hg,hmc,_,_,htake⟩
 ·have:xs=[]:=List.eq_nil_of_length_eq_zero (by simpa using h.1)
  subst this
  exact ⟨none,0,rfl,fun X _=>Sl.nil _ _ _, .inr ⟨rfl,rfl,rfl⟩,Nat.le_refl _⟩
 ·refine ⟨some ⟨g,0,none⟩,cap,rfl,fun X hX=>?_, .inl (Ok.mk _ _),hmc⟩
  refine Blk.sl (b:=g) (cs:=cur.toList) (e:=e) (by simpa [Blk] using hg) (hX g rfl) 0 (fun j u hj=>?_)
  rw [←htake,List.getElem?_take] at hj
  split at hj
  ·simpa using hj
  ·cases hj
theorem aYP (w:World) (base:Nat) (e:TypeId) (sz:Nat):w.ownsRow base e sz (.slice none 0 0) 0 []:=World.ownsRow_nil w base e sz
theorem aXS {w:World} {base b:Nat} {e:TypeId} {sz m:Nat} {cs:List Value} (h:Blk w b cs e) (hb:base≤b) (hl:cs.length=m*sz) (hm:m≤9223372036854775807):w.ownsRow base e sz (.slice (some ⟨b,0,none⟩) m m) m cs:=
 ⟨hl, .inr ⟨b,m,cs.toArray,rfl,hb,h,Nat.le_refl _,by simpa [maxLen] using hm,by simpa using hl,by simp [←hl]⟩⟩
theorem aZK {w:World} {base:Nat} {e:TypeId} {sz:Nat} {v:Value} {m:Nat} {xs:List Value} (h:w.ownsRow base e sz v m xs):∀k,v.ownBlock=some k→base≤k∧k < w.heap.size:=h.lt
theorem aXF {X:List Nat} {w w':World} {base:Nat} {e:TypeId} {sz:Nat} {v:Value} {m:Nat} {xs:List Value} (h:w.ownsRow base e sz v m xs) (he:Ext X w w') (hx:∀k,v.ownBlock=some k→k ∉ X):w'.ownsRow base e sz v m xs:=by
 refine ⟨h.1,?_⟩
 rcases h.2 with hn|⟨g,cap,cur,rfl,hb,hg,rest⟩
 ·exact .inl hn
 ·refine .inr ⟨g,cap,cur,rfl,hb,?_,rest⟩
  rw [he.block g (Array.getElem?_eq_some_iff.1 hg).1 (hx g rfl)]
  exact hg
theorem Ext.step {X Y:List Nat} {w0 w w':World} (h:Ext X w0 w) (hg:Ext Y w w') (hb:∀k∈Y,k∈X∨w0.heap.size≤k):Ext X w0 w':=
 ⟨hg.os.trans h.os,hg.tape.trans h.tape,hg.output.trans h.output,Nat.le_trans h.size hg.size,fun k hk hx=>by
  rw [hg.block k (Nat.lt_of_lt_of_le hk h.size) (fun hy=>by rcases hb k hy with h1|h1 <;>first|exact hx h1|omega)]
  exact h.block k hk hx⟩
theorem Sl.carry {X Y:List Nat} {w w':World} {a:Option Addr} {cs:List Value} (h:Sl X w a cs) (he:Ext X w w') (hY:∀k∈Y,k∈X∨w.heap.size≤k):Sl Y w' a cs:=by
 have h1:Sl (X++Y) w a cs:=h.more (fun k hk=>by
  rcases List.mem_append.1 hk with hk|hk
  ·exact .inl hk
  ·exact hY k hk)
 exact (h1.mono (he.weaken (fun k hk=>List.mem_append_left _ hk))).less (fun k hk=>List.mem_append_right _ hk)
end Go.Fx
namespace Go.Fx
def yU:Option TypeDesc→Bool
 |some (.int .i64)=>true
 |_=>false
theorem aJE {d:Option TypeDesc} (h:yU d=true):d=some (.int .i64):=by
 unfold yU at h
 split at h
 ·rfl
 ·cases h
class IntStruct (P:Program) (t:TypeId) (m:outParam Nat):Prop where
 und:P.underlying t=some (.struct (P.fieldsOf t))
 held:P.stoodInHeld t=false
 guard:P.eqGuardType P.depth t=false
 fields:(P.fieldsOf t).toList.map (fun f=>(f.name== "_",f.offset,yU (P.underlying f.type)))=(List.range m).map (fun k=>(false,k,true))
def sW (xs:List Int):List Value:=xs.map (Value.int .i64)
section
variable {P:Program} {n:Nat} {G:Env} {ty:TypeId} {C:World→Prop}
theorem yZ (d:Nat) (w:World):∀(fs:List Field) (k:Nat) (xs ys:List Int),(∀j f,fs[j]?=some f→(f.name== "_")=false∧f.offset=k+j∧P.underlying f.type=some (.int .i64))→
  k+fs.length=xs.length→k+fs.length=ys.length→
  (Op.eqFields (d+1) (sW xs).toArray (sW ys).toArray fs).run P w= .ok (decide (xs.drop k=ys.drop k)) w
 |[],k,xs,ys,_,hx,hy=>by
  have h1:xs.drop k=[]:=List.drop_eq_nil_of_le (by simp at hx;omega)
  have h2:ys.drop k=[]:=List.drop_eq_nil_of_le (by simp at hy;omega)
  simp [Op.eqFields,h1,h2]
 |f::fs,k,xs,ys,hf,hx,hy=>by
  obtain ⟨h1,h2,h3⟩:=hf 0 f rfl
  have h1':f.name≠ "_":=by simpa using h1
  simp only [List.length_cons] at hx hy
  have hxk:k < xs.length:=by omega
  have hyk:k < ys.length:=by omega
  have hag:(isAgg f.type).run P w= .ok false w:=by simp [isAgg,dM h3]
  have px:(part f.type (sW xs).toArray f.offset).run P w= .ok (.int .i64 xs[k]) w:=by
   simp [part,hag,h2,sW,hxk]
  have py:(part f.type (sW ys).toArray f.offset).run P w= .ok (.int .i64 ys[k]) w:=by
   simp [part,hag,h2,sW,hyk]
  have ih:=yZ d w fs (k+1) xs ys (fun j g hj=>by
   obtain ⟨g1,g2,g3⟩:=hf (j+1) g (by simpa using hj)
   exact ⟨g1,by omega,g3⟩) (by omega) (by omega)
  have hrq:=run_equalIn_int (P:=P) w d f.type .i64 .i64 xs[k] ys[k] h3
  simp only [Op.eqFields,if_pos h1',Sem.run_bind,px,py,Result.andThen_ok,hrq]
  have ex:=List.drop_eq_getElem_cons hxk
  have ey:=List.drop_eq_getElem_cons hyk
  have hiff:(xs.drop k=ys.drop k)↔(xs[k]=ys[k]∧xs.drop (k+1)=ys.drop (k+1)):=by
   constructor
   ·intro h
    rw [ex,ey] at h
    injection h with h1 h2
    exact ⟨h1,h2⟩
   ·rintro ⟨h1,h2⟩
    rw [ex,ey,h1,h2]
  by_cases he:xs[k]=ys[k]
  ·simp [he,ih,hiff]
  ·simp [he,hiff]
theorem aEE {t:TypeId} {m:Nat} [ht:IntStruct P t m] (xs ys:List Int) (hx:xs.length=m) (hy:ys.length=m) (w:World) (op:BinOp) (x y:Operand):
  (eqGuard op t x y (.agg (sW xs).toArray) (.agg (sW ys).toArray)).run P w= .ok () w∧(Op.equalIn 10000 t (.agg (sW xs).toArray) (.agg (sW ys).toArray)).run P w= .ok (decide (xs=ys)) w:=by
 refine ⟨run_eqGuard_agg w op t x y _ _ ht.guard,?_⟩
 rw [show (10000:Nat)=9999+1 from rfl,run_equalIn_struct w 9999 t _ _ ht.und ht.held]
 have hlen:(P.fieldsOf t).toList.length=m:=by
  have:=congrArg List.length ht.fields
  simpa using this
 have:=yZ (P:=P) 9998 w (P.fieldsOf t).toList 0 xs ys (fun j f hj=>by
  have hh:((P.fieldsOf t).toList.map (fun f=>(f.name== "_",f.offset,yU (P.underlying f.type))))[j]?=some (f.name== "_",f.offset,yU (P.underlying f.type)):=by simp [List.getElem?_map,hj]
  rw [ht.fields,List.getElem?_map] at hh
  obtain ⟨a,ha,hq⟩:=Option.map_eq_some_iff.1 hh
  have hja:a=j:=by
   obtain ⟨_,h2⟩:=List.getElem?_eq_some_iff.1 ha
   rw [List.getElem_range] at h2
   exact h2.symm
  subst hja
  have e1:false=(f.name== "_"):=congrArg (fun p=>p.1) hq
  have e2:a=f.offset:=congrArg (fun p=>p.2.1) hq
  have e3:true=yU (P.underlying f.type):=congrArg (fun p=>p.2.2) hq
  exact ⟨e1.symm,by omega,aJE e3.symm⟩) (by omega) (by omega)
 simpa using this
theorem aQL {t t':TypeId} {x y:Operand} {xs ys:List Int} {m:Nat} [ht:IntStruct P t m] (hx:ev G x=some (.agg (sW xs).toArray)) (hy:ev G y=some (.agg (sW ys).toArray)) (h1:xs.length=m) (h2:ys.length=m):
  Const P n G (.binOp .eql t x y t') ty C (.bool (B (xs=ys))):=by
 refine ⟨?_⟩
 intro s ha dst pos after guard w _
 obtain ⟨e1,e2⟩:=aEE (P:=P) (t:=t) xs ys h1 h2 w .eql x y
 simp only [execOp,ha.ev hx,ha.ev hy,Sem.run_bind,e1,Result.andThen_ok,run_eql_struct,e2,Sem.run_pure,rZ]
end
def stg (X:List Nat) (w0:World):Nat→World→Prop
 |0=>Ext [] w0
 |_+1=>Ext X w0
theorem Blk.at {w:World} {b:Nat} {cs:List Value} {e:TypeId} (h:Blk w b cs e) {i:Nat} {v:Value} (hv:cs[i]?=some v):w.cell? (pt (some ⟨b,0,none⟩) (i*1))=some v:=by
 simpa [pt,bl,of] using h.cell hv
/- a slice against nil -/
theorem aPX {P:Program} {t e:TypeId} {sz:Nat} [ht:SliceTy P t e sz] (d:Nat) (a:Option Addr) (l c:Nat) (w:World):(Op.equalIn (d+1) t (.slice a l c) (.slice none 0 0)).run P w= .ok a.isNone w:=by
 cases a <;>simp [Op.equalIn,dM ht.und]
theorem aOX {P:Program} {t e:TypeId} {sz:Nat} [ht:SliceTy P t e sz] (op:BinOp) (x y:Operand) (a:Option Addr) (l c:Nat) (w:World):
  (eqGuard op t x y (.slice a l c) (.slice none 0 0)).run P w= .ok () w∧(Op.equal t (.slice a l c) (.slice none 0 0)).run P w= .ok a.isNone w:=by
 refine ⟨?_,?_⟩
 ·cases op <;>rfl
 ·exact aPX (P:=P) (t:=t) 9999 a l c w
theorem wN {P:Program} {n:Nat} {G:Env} {ty:TypeId} {C:World→Prop} {t t' e:TypeId} {sz:Nat} {x:Operand} {a:Option Addr} {l c:Nat} [ht:SliceTy P t e sz] (hx:ev G x=some (.slice a l c)):
  Const P n G (.binOp .eql t x (.const (.slice none 0 0)) t') ty C (.bool a.isNone):=by
 refine ⟨?_⟩
 intro s ha dst pos after guard w _
 obtain ⟨e1,e2⟩:=aOX (P:=P) (t:=t) .eql x (.const (.slice none 0 0)) a l c w
 have hc:s.eval (.const (.slice none 0 0))= .slice none 0 0:=rfl
 simp only [execOp,ha.ev hx,hc,Sem.run_bind,e1,Result.andThen_ok,binOp,e2,Sem.run_pure]
theorem gU {p q:Prop} [Decidable p] [Decidable q] (h:p↔q):B p=B q:=by rw [rZ,rZ];exact decide_eq_decide.2 h
def New (w0 w:World) (a:Option Addr) (cs:List Value):Prop:=∀X:List Nat,(∀x∈X,x < w0.heap.size)→Sl X w a cs
theorem New.mono {w0 w w':World} {a:Option Addr} {cs:List Value} (h:New w0 w a cs) (he:Ext [] w w'):New w0 w' a cs:=fun X hX j v hj=>by
 obtain ⟨h1,h2,h3⟩:=h X hX j v hj
 exact ⟨h1,h2,he.cell h3 (by simp)⟩
theorem Sl.rowAt {X:List Nat} {w:World} {a:Option Addr} {cs:List Value} (h:Sl X w a cs) (o:Nat) (vs:List Value) (hv:∀j v,vs[j]?=some v→cs[o+j]?=some v):Row w (bl a) (of a+o) vs:=fun j v hj=>by
 have:=(h _ v (hv j v hj)).2.2
 simpa [pt,Nat.add_assoc] using this
end Go.Fx
namespace Go.Fx
section
variable {P:Program} {n:Nat} {G:Env} {ty:TypeId} {C:World→Prop}
end
end Go.Fx
namespace Go.Fx
section
variable {P:Program} {n:Nat} {G:Env} {ty:TypeId} {C:World→Prop}
theorem uD {t t':TypeId} {x y:Operand} {a b:Bool} [ht:BoolTy P t] (hx:ev G x=some (.bool a)) (hy:ev G y=some (.bool b)):
  Const P n G (.binOp .eql t x y t') ty C (.bool (a==b)):=by
 refine ⟨?_⟩
 intro s ha dst pos after guard w _
 have e1:(eqGuard .eql t x y (.bool a) (.bool b)).run P w= .ok () w:=rfl
 simp only [execOp,ha.ev hx,ha.ev hy,Sem.run_bind,e1,Result.andThen_ok,run_eql_bool _ t a b ht.und,Sem.run_pure]
theorem gV {t t':TypeId} {x y:Operand} {p q:Prop} [Decidable p] [Decidable q] [ht:BoolTy P t] (hx:ev G x=some (.bool (B p))) (hy:ev G y=some (.bool (B q))):
  Const P n G (.binOp .eql t x y t') ty C (.bool (B (p↔q))):=by
 have:=uD (P:=P) (n:=n) (ty:=ty) (C:=C) (t:=t) (t':=t') hx hy
 have e:(B p==B q)=B (p↔q):=by
  rw [rZ,rZ,rZ]
  by_cases hp:p <;>by_cases hq:q <;>simp [hp,hq]
 rwa [e] at this
end
end Go.Fx

/- integer: Small at two groups Arguments, opened: slices of records, structs with slices. -/
import Derived.Test.YtejbgkajdomgcaaZvah
import Derived.Test.YtejbgkajdomgcaaZvaf
import Derived.Test.YtejbgkajdomgcaaZvae
import Derived.Test.YtejbgkajdomgcaaZvag
set_option linter.unusedSimpArgs false
set_option linter.unusedVariables false
set_option maxRecDepth 100000
set_option maxHeartbeats 4000000
namespace Go.Proofs.Ytejbgkajdomgcaa
open Go Go.Fx Go.RowKit Go.Shelf
attribute [local go_sem] Oper.semAt_some
theorem yJ {W:World} {B:Nat} {u v:Value} {t:TypeId} (h:W.heap[B]?=some (.cells #[u,v] t (0,0))):W.cell? ⟨B,0,none⟩=some u∧W.cell? ⟨B,1,none⟩=some v:=by
 constructor <;>simp [World.cell?,h]
theorem aHP {n m:Nat} {A B:World} (h:Below n A B) (hm:m≤n):Below m A B:=⟨h.os,h.tape,h.output,h.size,fun k hk=>h.block k (by omega)⟩
theorem vX {w:World} {o:Obj} {k:Nat} (h:k < w.heap.size):(w.alloc o).heap[k]?=w.heap[k]?:=((Below.refl w.heap.size w).alloc (Nat.le_refl _) o).block k h
theorem aPB (w:World) (A B C:Obj):(((w.alloc A).alloc B).alloc C).heap[w.heap.size]?=some A∧(((w.alloc A).alloc B).alloc C).heap[w.heap.size+1]?=some B∧(((w.alloc A).alloc B).alloc C).heap[w.heap.size+1+1]?=some C:=by
 have e1:=World.alloc_heap_new w A
 have e2:=World.alloc_heap_new (w.alloc A) B
 have e3:=World.alloc_heap_new ((w.alloc A).alloc B) C
 simp only [World.size_alloc] at e2 e3
 refine ⟨?_,?_,e3⟩
 ·rw [vX (by simp only [World.size_alloc];omega),vX (by simp only [World.size_alloc];omega)];exact e1
 ·rw [vX (by simp only [World.size_alloc];omega)];exact e2
theorem qL {P:Program} {fn:Func} {a b:Tmp} {t s:TypeId} {tmps:Array Value} {w:World} {p q:Nat} {u v:Value} [ht:ScalarTy P t] [hs:ScalarTy P s] (h:fn.results=#[.cell a t, .cell b s]) (hp:tmps.getD a undef= .pointer (some ⟨p,0,none⟩)) (hq:tmps.getD b undef= .pointer (some ⟨q,0,none⟩)) (hc:w.cell? ⟨p,0,none⟩=some u) (hd:w.cell? ⟨q,0,none⟩=some v):
  (results fn tmps).run P w= .ok (.tuple #[u,v]) w:=by
 have hp':tmps[a]?.getD undef= .pointer (some ⟨p,0,none⟩):=by simpa using hp
 have hq':tmps[b]?.getD undef= .pointer (some ⟨q,0,none⟩):=by simpa using hq
 simp [results,h,hp',hq',asAddr,loadVar,gL,hc,hd]
theorem tQ {w W:World} {p q D:Nat} {o u v:Value} {o':Obj} (hB:Below w.heap.size w W) (hp:w.heap.size≤p) (hq:w.heap.size≤q) (hpq:p≠q) (hD:p < D∧q < D) (cp:W.cell? ⟨p,0,none⟩=some o) (cq:∃o2,W.cell? ⟨q,0,none⟩=some o2) (hK:W.heap[D]?=some (.deferred (some []))):
  ((W.setCell ⟨p,0,none⟩ u).setCell ⟨q,0,none⟩ v).heap[D]?=some (.deferred (some []))∧
  (((W.setCell ⟨p,0,none⟩ u).setCell ⟨q,0,none⟩ v).putObj D o').cell? ⟨p,0,none⟩=some u∧
  (((W.setCell ⟨p,0,none⟩ u).setCell ⟨q,0,none⟩ v).putObj D o').cell? ⟨q,0,none⟩=some v∧
  Below w.heap.size w (((W.setCell ⟨p,0,none⟩ u).setCell ⟨q,0,none⟩ v).putObj D o'):=by
 have hK1:(W.setCell ⟨p,0,none⟩ u).heap[D]?=some (.deferred (some [])):=(Below.heap_setCell W _ _ D (by simp;omega)).trans hK
 have hK2:((W.setCell ⟨p,0,none⟩ u).setCell ⟨q,0,none⟩ v).heap[D]?=some (.deferred (some [])):=(Below.heap_setCell _ _ _ D (by simp;omega)).trans hK1
 obtain ⟨o2,cq⟩:=cq
 have e1:((W.setCell ⟨p,0,none⟩ u).setCell ⟨q,0,none⟩ v).cell? ⟨p,0,none⟩=some u:=(World.cell?_setCell_other _ _ _ _ (by simp <;>omega)).trans (World.cell?_setCell_same' _ _ _ (by rw [cp];rfl))
 have e2:((W.setCell ⟨p,0,none⟩ u).setCell ⟨q,0,none⟩ v).cell? ⟨q,0,none⟩=some v:=World.cell?_setCell_same' _ _ _ (by rw [World.cell?_setCell_other _ _ _ _ (by simp <;>omega),cq];rfl)
 refine ⟨hK2,cell_kept e1 (grownBy_putObj' _ D _) (fun r e=>by cases e;exact ⟨_,hK2,rfl⟩),cell_kept e2 (grownBy_putObj' _ D _) (fun r e=>by cases e;exact ⟨_,hK2,rfl⟩),?_⟩
 exact ((hB.setCell (p:=⟨p,0,none⟩) hp _).setCell (p:=⟨q,0,none⟩) hq _).trans (belowK_b (w:=w) (Nat.le_refl _) _ D _ _ (by omega) hK2 rfl rfl)
theorem aHT (a:Option Addr) (cap:Nat) (ng:Bool) (zs:List Int) (z:Int) (w:World) (hz:zs.length≤2) (hI:Sl [] w a (recs eG zs)) (hlt:0 < zs.length→∀b,a.map (·.block)=some b→b < w.heap.size)
  (hN:∀(x:Dg zs) (pre:List (Dg zs)),pre.length < zs.length→¬(IntKind.u64.wrap ((IntKind.u64.wrap (9223372036854775808 - IntKind.u64.wrap (zs[x.1]?.getD 0))).tdiv 1000000000) < uK zs pre))
  (hV1:ng=true→0 < zs.length→wrap64 (IntKind.u64.wrap (-(uK zs (nO zs zs.length))))=z) (hV2:(0 < zs.length→ng=false)→wrap64 (uK zs (nO zs zs.length))=z) (hV3:(uK zs (nO zs zs.length)==9223372036854775808)=false)
  (hG:∀W,Below w.heap.size w W→CallsIn Fence.wide 4 Try.prog 78 #[.agg #[.bool ng, .slice a zs.length cap]] W (fun e W'=>e= .returned (.slice a zs.length cap)∧Below W.heap.size W W')):
  CallsIn Fence.wide 5 Try.prog 69 #[.agg #[.bool ng, .slice a zs.length cap]] w fun e w'=>e= .returned (.tuple #[.int .i64 z, .bool true])∧Below w.heap.size w w':=by
 refine callsIn_of_wp_marks Try.func69 rfl trivial ?_ rfl
 simp only [Try.ntmps69,List.size_toArray,List.length_cons,List.length_nil,Nat.reduceAdd,Nat.reduceSub,Array.replicate_succ,Array.replicate_zero,List.push_toArray,List.append_toArray,List.nil_append,List.cons_append]
 have hz':¬(3 < (zs.length:Int)):=by omega
 gi_wp2_with (refine ⟨trivial,?_⟩;first|(gi_at_call 78;refine (hG _ ((((Below.refl _ w).alloc (Nat.le_refl _) _).alloc (by simp) _).alloc (by simp;omega) _)).mono ?_;rintro e w1 ⟨rfl,hB1⟩)|(gi_at_call 84;refine (rE Fence.wide _ trivial rfl _ _ _ _).mono ?_;rintro e w2 ⟨rfl,rfl⟩))
 simp only [World.size_alloc] at hB1
 have hS1:w.heap.size+1+1+1≤w1.heap.size:=by have:=hB1.size;simpa using this
 obtain ⟨o0,o1,o2⟩:=aPB w (.cells #[.bool ng, .slice a zs.length cap] 100) (.cells #[.int .i64 0] 3) (.cells #[.bool false] 4)
 have c0:=yJ ((hB1.block _ (by omega)).trans o0)
 have c1:=mU ((hB1.block _ (by omega)).trans o1)
 have c2:=mU ((hB1.block _ (by omega)).trans o2)
 have hs:=iD w1 (.int .u64 0) 115
 have hb:=iD (w1.alloc (.cells #[.int .u64 0] 115)) (.slice a zs.length cap) 98
 rw [World.size_alloc] at hb
 have hB0:Below w.heap.size w w1:=((((Below.refl _ w).alloc (Nat.le_refl _) _).alloc (by simp) _).alloc (by simp;omega) _).trans (aHP hB1 (by omega))
 have hBl:Below w.heap.size w ((w1.alloc (.cells #[.int .u64 0] 115)).alloc (.cells #[.slice a zs.length cap] 98)):=(hB0.alloc (by omega) _).alloc (by simp;omega) _
 have hI2:=Sl.mono hI (Ext.of_below hBl)
 refine wpIn_rangeFunc_ownG rfl (by decide) (gf:=93) (lb:=#[.pointer (some ⟨w1.heap.size+1,0,none⟩)]) rfl trivial (enters_of Try.func93 (by kernel_rfl) rfl)
  (sJ Fence.wide (5 - 1) trivial rfl (by decide) (w1.heap.size+1) w.heap.size a cap zs (by omega) _ (by simp) (by simp;omega) hb.1 hI2 hlt) KpB.trans (aDY (by simp;omega)) (Below.refl _ _) (fun _=>rfl)
  (fun pre W=>(((W.cell? ⟨w1.heap.size,0,none⟩=some (.int .u64 (uK zs pre))∧W.frozen? ⟨w1.heap.size,0,none⟩=false)∧(W.cell? ⟨w.heap.size+1,0,none⟩=some (.int .i64 0)∧W.frozen? ⟨w.heap.size+1,0,none⟩=false))∧((W.cell? ⟨w.heap.size+1+1,0,none⟩=some (.bool false)∧W.frozen? ⟨w.heap.size+1+1,0,none⟩=false)∧W.cell? ⟨w.heap.size,0,none⟩=some (.bool ng)))∧Below w.heap.size w W)
  (fun _ _ _=>False)
  ?hI (fun _ _ _ _ _ hs _ _=>hs) ?h0 ?a1 ?assign ?body ?done ?stop
 case hI=>exact OwnFrom.and (Own.from (fun s A B row hs hg hr=>⟨⟨⟨cell_kept hs.1.1.1 hg hr,(frozen_kept hs.1.1.1 hg hr).trans hs.1.1.2⟩,cell_kept hs.1.2.1 hg hr,(frozen_kept hs.1.2.1 hg hr).trans hs.1.2.2⟩,⟨cell_kept hs.2.1.1 hg hr,(frozen_kept hs.2.1.1 hg hr).trans hs.2.1.2⟩,cell_kept hs.2.2 hg hr⟩) _) (ownFrom_below (Nat.le_refl _) (by simp;omega))
 case h0=>exact ⟨⟨⟨⟨bJ _ hs.1,cO _ hs.1 hs.2⟩,bJ _ (bJ _ c1.1),cO _ (bJ _ c1.1) (cO _ c1.1 c1.2)⟩,⟨bJ _ (bJ _ c2.1),cO _ (bJ _ c2.1) (cO _ c2.1 c2.2)⟩,bJ _ (bJ _ c0.1)⟩,hBl⟩
 case assign=>
  intro l x W K hK
  dsimp only [dgE]
  gi_wp2
  exact hK
 case body=>
  rintro l pre x W ⟨⟨⟨⟨hc,hf⟩,hc1,hf1⟩,⟨hc2,hf2⟩,hc0⟩,hB⟩ hpl
  have hn:=hN x pre hpl
  gi_wp2
  ·refine ⟨(KeepsOthers.setCell _ _ _).from _,⟨(Below.refl w.heap.size W).setCell (p:=⟨w1.heap.size,0,none⟩) (by simp;omega) _,fun v hv=>(World.cell?_setCell_other _ _ _ _ (by simp)).trans hv⟩,⟨⟨⟨?_,by rw [World.frozen?_setCell];exact hf⟩,(World.cell?_setCell_other _ _ _ _ (by simp <;>omega)).trans hc1,by rw [World.frozen?_setCell];exact hf1⟩,⟨(World.cell?_setCell_other _ _ _ _ (by simp <;>omega)).trans hc2,by rw [World.frozen?_setCell];exact hf2⟩,(World.cell?_setCell_other _ _ _ _ (by simp <;>omega)).trans hc0⟩,hB.setCell (p:=⟨w1.heap.size,0,none⟩) (by simp;omega) _⟩
   rw [aAE]
   exact World.cell?_setCell_same' _ _ _ (by rw [hc];rfl)
 case done=>
  rintro D ys W hD rfl ⟨⟨⟨⟨hc,hf⟩,hc1,hf1⟩,⟨hc2,hf2⟩,hc0⟩,hB⟩ hK
  have hD':w1.heap.size+1+1≤D:=by simpa using hD
  gi_wp2
  ·rename_i h0 h1
   rw [←hV1 h1 h0]
   obtain ⟨g1,g2,g3,g4⟩:=tQ hB (by omega) (by omega) (by omega) (by omega) hc1 ⟨_,hc2⟩ hK
   exact ⟨by simp, .inl ⟨_,_,rfl,run_takeDeferred g1,_,qL rfl rfl rfl g2 g3,rfl,g4⟩⟩
  ·rename_i h0 h1
   rw [←hV2 (fun _=>h1)]
   obtain ⟨g1,g2,g3,g4⟩:=tQ hB (by omega) (by omega) (by omega) (by omega) hc1 ⟨_,hc2⟩ hK
   exact ⟨by simp, .inl ⟨_,_,rfl,run_takeDeferred g1,_,qL rfl rfl rfl g2 g3,rfl,g4⟩⟩
  ·rename_i h0
   rw [←hV2 (fun h=>absurd h h0)]
   obtain ⟨g1,g2,g3,g4⟩:=tQ hB (by omega) (by omega) (by omega) (by omega) hc1 ⟨_,hc2⟩ hK
   exact ⟨by simp, .inl ⟨_,_,rfl,run_takeDeferred g1,_,qL rfl rfl rfl g2 g3,rfl,g4⟩⟩
 case stop=>
  rintro D c pre W _ _ h _
  exact h.elim
end Go.Proofs.Ytejbgkajdomgcaa
namespace Go.Fx
open Go.ChangeShapes Go.WideShapes Go.RowKit Go.ChangeAt
section
variable {H:Type} {enc:TypeId × Value→H} {P:Program} {W:World}
theorem aAH {sz:Nat}:∀(rows:List (List Value)) (k:Nat) (v:Value),(∀r∈rows,r.length=sz)→rows.flatten[k]?=some v→∃i row,rows[i]?=some row∧i*sz≤k∧row[k - i*sz]?=some v
 |[],k,v,_,h=>by simp at h
 |r::rows,k,v,hr,h=>by
  rw [List.flatten_cons] at h
  have hl:=hr r (by simp)
  by_cases hk:k < r.length
  ·rw [List.getElem?_append_left hk] at h
   exact ⟨0,r,by simp,by omega,by simpa using h⟩
  ·rw [List.getElem?_append_right (by omega)] at h
   obtain ⟨i,row,h1,h2,h3⟩:=aAH rows _ v (fun r' hr'=>hr r' (by simp [hr'])) h
   refine ⟨i+1,row,by simpa using h1,by rw [Nat.add_mul];omega,?_⟩
   rw [←h3]
   congr 1
   rw [Nat.add_mul];omega
theorem aGM {base fuel:Nat} {t e:TypeId} {v:Value} {x:DataW H × List MemPlace} (ht:P.underlying t=some (.slice e)) (hv:Value.okWide P W .any base t v) (h:DataW.trod enc P W 0 (fun _=>true) true fuel t v.cells.toList=some x):
  ∃(a:Option Addr) (len c:Nat),v= .slice a len c∧(len:Int)≤9223372036854775807∧len≤c∧(Ok a∨(a=none∧len=0∧c=0))∧
   ∃rows:List (List Value),rows.length=len∧(∀r∈rows,r.length=P.cellsOf e∧∃n y,DataW.trod enc P W 0 (fun _=>true) true n e r=some y)∧Sl [] W a rows.flatten:=by
 obtain ⟨a,len,c,rfl⟩:=okWide_slice ht hv
 obtain ⟨h1,h2,h3⟩:=aBL ht hv
 refine ⟨a,len,c,rfl,h1,h2,h3,?_⟩
 rcases DataW.trod_slice ht h with ⟨hcs,_⟩|⟨a',len',cap',elems,rest,n,_,hcs,_,_,_,_,hlen,hel,_,_⟩
 ·simp [Value.cells] at hcs
  obtain ⟨rfl,rfl,rfl⟩:=hcs
  exact ⟨[],rfl,by simp,Sl.nil _ _ _⟩
 ·simp [Value.cells] at hcs
  obtain ⟨rfl,rfl,rfl⟩:=hcs
  have hok:Ok (some a'):=h3.resolve_right (by simp)
  have each:∀i,i < len→∃cs y,W.cells? 0 (a'.add (i*P.cellsOf e)) (P.cellsOf e)=some cs∧DataW.trod enc P W 0 (fun _=>true) true n e cs=some y:=fun i hi=>by
   have:=hel i hi
   rw [List.getElem?_eq_getElem (by omega),Option.bind_eq_some_iff] at this
   obtain ⟨cs,h1,h2⟩:=this
   exact ⟨cs,_,h1,h2⟩
  refine ⟨(List.range len).map (fun i=>(W.cells? 0 (a'.add (i*P.cellsOf e)) (P.cellsOf e)).getD []),by simp,?_,?_⟩
  ·intro r hr
   obtain ⟨i,hi,rfl⟩:=List.mem_map.1 hr
   obtain ⟨cs,y,h4,h5⟩:=each i (by simpa using hi)
   rw [h4]
   exact ⟨(World.cells?_some h4).2.1,n,y,h5⟩
  ·intro j v hj
   have hall:∀r∈(List.range len).map (fun i=>(W.cells? 0 (a'.add (i*P.cellsOf e)) (P.cellsOf e)).getD []),r.length=P.cellsOf e:=by
    intro r hr
    obtain ⟨i,hi,rfl⟩:=List.mem_map.1 hr
    obtain ⟨cs,y,h4,h5⟩:=each i (by simpa using hi)
    rw [h4]
    exact (World.cells?_some h4).2.1
   obtain ⟨i,row,h4,h5,h6⟩:=aAH _ j v hall hj
   rw [List.getElem?_map] at h4
   obtain ⟨i',hi',rfl⟩:=Option.map_eq_some_iff.1 h4
   have hii:i'=i∧i < len:=by
    obtain ⟨q1,q2⟩:=List.getElem?_eq_some_iff.1 hi'
    rw [List.getElem_range] at q2
    exact ⟨q2.symm,by simpa using q1⟩
   obtain ⟨rfl,hil⟩:=hii
   obtain ⟨cs,y,h7,h8⟩:=each i' hil
   rw [h7] at h6
   simp only [Option.getD_some] at h6
   obtain ⟨_,hl,hc⟩:=World.cells?_some h7
   have hlt:j - i'*P.cellsOf e < P.cellsOf e:=by
    have:=(List.getElem?_eq_some_iff.1 h6).1
    omega
   have hcell:=hc _ hlt
   rw [h6] at hcell
   refine ⟨hok,by simp,?_⟩
   obtain ⟨b,o,eq⟩:=hok.cases
   injection eq with eq
   subst eq
   rw [add_lit,add_lit] at hcell
   rw [←hcell]
   simp only [pt,bl,of,Option.getD_some]
   congr 2
   omega
theorem aAT {α:Type} {en:α→List Value} {Pm:α→Prop} {base:Nat} {t e:TypeId} {v:Value} {d:DataW H} {p:List MemPlace} (ht:P.underlying t=some (.slice e)) (hdec:∀(r:List Value) n y,r.length=P.cellsOf e→DataW.trod enc P W 0 (fun _=>true) true n e r=some y→∃m,r=en m∧Pm m)
  (hv:Value.okWide P W .any base t v) (h:DataW.Trod enc P W 0 (fun _=>true) true t v d p):
  ∃(a:Option Addr) (ms:List α) (c:Nat),v= .slice a ms.length c∧Sl [] W a (recs en ms)∧(∀m∈ms,Pm m)∧(ms.length:Int)≤9223372036854775807∧ms.length≤c∧(Ok a∨(a=none∧ms.length=0∧c=0)):=by
 obtain ⟨fuel,hf⟩:=h
 obtain ⟨a,len,c,rfl,h1,h2,h3,rows,hl,hr,hs⟩:=aGM ht hv hf
 have key:∀rows:List (List Value),(∀r∈rows,r.length=P.cellsOf e∧∃n y,DataW.trod enc P W 0 (fun _=>true) true n e r=some y)→∃ms:List α,rows=ms.map en∧∀m∈ms,Pm m:=by
  intro rows
  induction rows with
  |nil=>intro _;exact ⟨[],rfl,by simp⟩
  |cons r rows ih=>
   intro hr
   obtain ⟨hrl,n,y,hy⟩:=hr r (by simp)
   obtain ⟨m,rfl,hm⟩:=hdec r n y hrl hy
   obtain ⟨ms,rfl,hms⟩:=ih (fun r' hr'=>hr r' (by simp [hr']))
   exact ⟨m::ms,rfl,fun m' hm'=>by
    rcases List.mem_cons.1 hm' with rfl|hm'
    ·exact hm
    ·exact hms m' hm'⟩
 obtain ⟨ms,rfl,hms⟩:=key rows hr
 have hlen:ms.length=len:=by simpa using hl
 subst hlen
 refine ⟨a,ms,c,rfl,?_,hms,h1,h2,h3⟩
 rw [←List.flatMap_def] at hs
 exact hs
theorem zF {t:TypeId} {k:IntKind} {n:Nat} {cs:List Value} {y:DataW H × List MemPlace} (ht:P.underlying t=some (.int k)) (h:DataW.trod enc P W 0 (fun _=>true) true n t cs=some y):∃x:Int,cs=[.int k x]∧(Lit.int k x).wf=true:=by
 obtain ⟨m,h1,_,h2⟩:=DataW.trod_int ht h
 exact ⟨m,h1,h2⟩
theorem aHK {t:TypeId} {k:IntKind} {m n:Nat} {cs:List Value} {y:DataW H × List MemPlace} {fs:Array Field} (ht:P.underlying t=some (.struct fs)) (hf:fs.toList.map (fun (f:Field)=>(f.offset,P.cellsOf f.type))=(List.range m).map (fun i=>(i,1))) (hk:∀f∈fs.toList,P.underlying f.type=some (.int k)) (hl:cs.length=m)
  (h:DataW.trod enc P W 0 (fun _=>true) true n t cs=some y):∃xs:List Int,cs=xs.map (Value.int k)∧xs.length=m∧∀x∈xs,(Lit.int k x).wf=true:=by
 obtain ⟨zs,n',rfl,_,_,hzl,hz⟩:=DataW.trod_struct ht h
 have each:∀i,i < m→∃x:Int,cs[i]?=some (.int k x)∧(Lit.int k x).wf=true:=fun i hi=>by
  have hsz:fs.toList.length=m:=by have:=congrArg List.length hf;simpa using this
  obtain ⟨f,hfi⟩:∃f,fs.toList[i]?=some f:=⟨_,List.getElem?_eq_getElem (by omega)⟩
  have hoff:(f.offset,P.cellsOf f.type)=(i,1):=by
   have:(fs.toList.map (fun f=>(f.offset,P.cellsOf f.type)))[i]?=some (f.offset,P.cellsOf f.type):=by rw [List.getElem?_map,hfi];rfl
   rw [hf,List.getElem?_map,List.getElem?_range hi] at this
   simpa using this.symm
  injection hoff with ho hc
  have hf2:fs[i]?=some f:=by simpa using hfi
  have:=hz i f hf2
  rw [List.getElem?_eq_getElem (by rw [hzl];exact (Array.getElem?_eq_some_iff.1 hf2).1),ho,hc] at this
  obtain ⟨x,hx,hw⟩:=zF (hk f (List.mem_of_getElem? hfi)) this
  refine ⟨x,?_,hw⟩
  have:((cs.drop i).take 1)[0]?=some (.int k x):=by rw [hx];rfl
  rw [List.getElem?_take,if_pos (by omega),List.getElem?_drop] at this
  simpa using this
 refine ⟨cs.map (fun v=>match v with| .int _ x=>x|_=>0),?_,by simpa using hl,?_⟩
 ·apply List.ext_getElem
  ·simp
  ·intro i h1 h2
   obtain ⟨x,hx,_⟩:=each i (by omega)
   have:cs[i]= .int k x:=by
    have:=(List.getElem?_eq_some_iff.1 hx).2
    exact this
   simp [this]
 ·intro x hx
  obtain ⟨v,hv,rfl⟩:=List.mem_map.1 hx
  obtain ⟨i,hi,rfl⟩:=List.mem_iff_getElem.1 hv
  obtain ⟨y,hy,hw⟩:=each i (by omega)
  have:cs[i]= .int k y:=(List.getElem?_eq_some_iff.1 hy).2
  rw [this]
  exact hw
theorem Mem.startS {W:World} {I:List aO} {a:Option Addr} {cs:List Value} (h:Mem [] W [] I W) (hs:Sl [] W a cs):Mem [] W [] (aN a cs::I) W:=h.add (φ:=aN a cs) ⟨hs⟩
end
end Go.Fx
namespace Go.Proofs.Ytejbgkajdomgcaa
open Go Go.Fx Go.RowKit Go.Shelf
theorem aOG {n:Nat} (hl:(gr n).length≤2):uK (gr n) (nO (gr n) (gr n).length)=n:=by
 have hd:=dF n
 have hv:=dR n
 revert hl hd hv
 generalize gr n=zs
 intro hl hd hv
 rw [←hv]
 match zs,hl,hd with
 |[],_,_=>simp [nO,uK,val]
 |[x],_,hd=>
  have:=hd x (by simp)
  have e:uK [x] (nO [x] [x].length)=wdS 0 x:=rfl
  rw [e,oC (by omega) this]
  simp [val]
 |[x,y],_,hd=>
  have h1:=hd x (by simp)
  have h2:=hd y (by simp)
  have e:uK [x,y] (nO [x,y] [x,y].length)=wdS (wdS 0 y) x:=rfl
  rw [e,oC (by omega) h2,oC (by omega) h1]
  simp only [val]
  omega
theorem aLF {zs:List Int} (hd:Dig zs) {pre:List (Dg zs)} (h:pre.length≤1):0≤uK zs pre∧uK zs pre < 1000000000:=by
 match pre,h with
 |[],_=>exact ⟨by simp [uK],by simp [uK]⟩
 |[x],_=>
  have h1:=hd (zs[x.1]?.getD 0) (by rw [List.getElem?_eq_getElem x.2];exact List.getElem_mem x.2)
  have e:uK zs [x]=wdS 0 (zs[x.1]?.getD 0):=rfl
  rw [e,oC (by omega) h1];omega
 |_::_::_,h=>simp at h
theorem aOE {zs:List Int} (hd:Dig zs) (hl:zs.length≤2) (x:Dg zs) (pre:List (Dg zs)) (h:pre.length < zs.length):¬(IntKind.u64.wrap ((IntKind.u64.wrap (9223372036854775808 - IntKind.u64.wrap (zs[x.1]?.getD 0))).tdiv 1000000000) < uK zs pre):=by
 have h1:=hd (zs[x.1]?.getD 0) (by rw [List.getElem?_eq_getElem x.2];exact List.getElem_mem x.2)
 have h2:=aLF hd (pre:=pre) (by omega)
 generalize uK zs pre=s at*
 generalize zs[x.1]?.getD 0=d at*
 rw [wrap_u64 (n:=d) (by omega),wrap_u64 (n:=9223372036854775808 - d) (by omega),Int.tdiv_eq_ediv_of_nonneg (by omega),wrap_u64 (by omega)]
 omega
section
variable {X:List Nat} {w0:World} {M0:List Ent} {I0:List aO}
theorem aJM {u:Value} {z:Int} {k:Nat} (hz:z.natAbs < 1000000000000000000) (hk:k≤1000000000000) (hu:qR u z k∈I0):CD Try.prog 69 [u] X w0 M0 I0 (fun v M I=>M0=M∧I0=I∧v= .tuple #[.int .i64 z, .bool true]):=by
 refine ⟨fun w hw=>?_⟩
 obtain ⟨q,c,rfl,hc,h3,h4⟩:=((hw.imm _ hu).2).ex
 have hl:(gr z.natAbs).length≤2:=pF (by omega)
 have hs:Sl [] w q (recs eG (gr z.natAbs)):=h4.less (by simp)
 have hv:=aOG hl
 have h0:¬0 < (gr z.natAbs).length→z=0:=fun h=>by
  have:=(oW (n:=z.natAbs)).1 (List.length_eq_zero_iff.1 (by omega));omega
 refine Calls.mono (callsIn_wide.1 (aHT q c (B (z < 0)) (gr z.natAbs) z w hl hs (aAU hs) (fun x pre h=>aOE (dF _) hl x pre h) ?_ ?_ ?_ ?_)) ?_
 ·intro hn _
  rw [hv]
  have:z < 0:=by by_cases h:z < 0;exact h;rw [bQ h] at hn;exact absurd hn (by decide)
  simp only [IntKind.wrap,IntKind.bits,IntKind.signed,Bool.false_and,Bool.false_eq_true,if_false,wrap64]
  omega
 ·intro hn
  rw [hv]
  have:0≤z:=by
   by_cases h:0 < (gr z.natAbs).length
   ·by_cases h':z < 0
    ·have:=hn h;rw [dX h'] at this;exact absurd this (by decide)
    ·omega
   ·have:=h0 h;omega
  simp only [wrap64]
  omega
 ·rw [hv];simp;omega
 ·intro W hB
  have hm:=(Mem.start W).startS (Sl.mono hs (Ext.of_below hB))
  refine callsIn_wide.2 (Calls.mono ((kD (X:=[]) (w0:=W) (M0:=[]) (q:=q) (c:=c) h3 hk List.mem_cons_self).go W hm) ?_)
  rintro e W' ⟨v,rfl,M',I',⟨rfl,rfl,rfl⟩,hw'⟩
  exact ⟨rfl,hw'.ext.below⟩
 ·rintro e w' ⟨rfl,hB⟩
  exact ⟨_,rfl,M0,I0,⟨rfl,rfl,rfl⟩,hw.call (Ext.of_below hB)⟩
end
end Go.Proofs.Ytejbgkajdomgcaa
namespace Go.Proofs.Ytejbgkajdomgcaa
open Go Go.Fx
theorem aIW {w:World} {base b:Nat} {e:TypeId} {sz m c:Nat} {cs:List Value} (h:Blk w b cs e) (hb:base≤b) (hl:cs.length=c*sz) (hmc:m≤c) (hm:c≤9223372036854775807):w.ownsRow base e sz (.slice (some ⟨b,0,none⟩) m c) m (cs.take (m*sz)):=
 ⟨by rw [List.length_take,hl,Nat.min_eq_left (Nat.mul_le_mul_right _ hmc)], .inr ⟨b,c,cs.toArray,rfl,hb,h,hmc,by simpa [maxLen] using hm,by simpa using hl,by simp⟩⟩
theorem _root_.Go.Fx.Mem.toRowT {X:List Nat} {w0 w:World} {M M':List Ent} {I:List aO} {b m c:Nat} {cs:List Value} {e:TypeId} (sz:Nat) (h:Mem X w0 M I w) (hr:Rep (.blk b cs e) (.row (some ⟨b,0,none⟩) m c (cs.take (m*sz)) e sz) M M') (hl:cs.length=c*sz) (hmc:m≤c) (hm:c≤9223372036854775807):Mem X w0 M' I w:=by
 have hb:Blk w b cs e:=h.ent _ hr.mem
 exact h.upd hr (Ext.refl _ _) (fun b hb=> .inl hb) (by simp [Ent.blocks]) (aIW hb (Nat.zero_le _) hl hmc hm)
theorem _root_.Go.Fx.Mem.imm0 {X:List Nat} {w0 w:World} {M:List Ent} {I:List aO} (h:Mem X w0 M I w):Mem [] w [] [] w:=⟨Ext.refl _ _,fun _ h=>absurd h (by simp [muts]),by simp [muts],fun _ h=>absurd h (by simp),fun _ h=>absurd h (by simp)⟩
theorem wE (l:List Int) (k:Nat):(recs eG l).take k=recs eG (l.take k):=by
 rw [kP,kP,List.map_take]
section
variable {X:List Nat} {w0:World} {M0:List Ent} {I0:List aO}
theorem xG {p q:Option Addr} {m n cp cq:Nat} (hm:(gr m).length≤100000000000) (hn:(gr n).length≤100000000000) (hp:aN p (recs eG (gr m))∈I0) (hq:aN q (recs eG (gr n))∈I0):
  CD Try.prog 98 [.slice p (gr m).length cp, .slice q (gr n).length cq] X w0 M0 I0 (fun v M I=>∃b c,v= .slice (some ⟨b,0,none⟩) (gr (m*n)).length c∧(gr (m*n)).length≤c∧M= .row (some ⟨b,0,none⟩) (gr (m*n)).length c (recs eG (gr (m*n))) 113 1::M0∧I0=I):=by
 have da:=dF m
 have db:=dF n
 have va:=dR m
 have vb:=dR n
 generalize ha:gr m=a at*
 generalize hb:gr n=b at*
 refine aX Try.func98 rfl Try.ntmps98 rfl ?_
 repeat refine jY ?_
 (refine iW (a.length+b.length) rfl rfl (by omega) (by omega) (by omega) (by omega) (lT _ _) rfl rfl ?_;intro bo;refine ⟨okJ,?_⟩)
 repeat refine jY ?_
 refine aU [1,5,18,19] rfl (fun k G M I=>∃(i:Nat) (o:List Int),i≤a.length∧k=a.length - i∧o.length=a.length+b.length∧Dig o∧val o=val (a.take i)*val b∧(∀j:Nat,i+b.length≤j→o.getD j 0=0)∧G=[(20, .int .i64 i)]∧M= .blk bo (recs eG o) 113::M0∧I0=I) (a.length) _ _ _ aT aJ aI (⟨0,_,by omega,by omega,by simp,Dig.zeros _,by rw [aGB];simp [val],fun j _=>by simp [List.getD,List.getElem?_replicate];split <;>rfl,rfl,rfl,rfl⟩) ?_
 rintro k G M I ⟨i,o,hi,rfl,ho,hd,hv,hz,rfl,rfl,rfl⟩
 repeat' (first|refine jY ?_|refine bG rfl (fun h=>?_) (fun h=>?_)|refine bI rfl rfl (fun h=>?_) (fun h=>?_)|fail)
 ·have hia:i < a.length:=by omega
  have d1:=da.gt i
  refine aU [1,5,6,7,18,19,20,25,26] rfl (fun k G M I=>∃(j:Nat) (u:List Int) (c:Int),j≤b.length∧k=b.length - j∧u.length=a.length+b.length∧Dig u∧(0≤c∧c < 1000000000)∧val u+1000000000 ^ (i+j)*c=val (a.take i)*val b+1000000000 ^ i*(gt a i*val (b.take j))∧(∀j:Nat,i+b.length≤j→u.getD j 0=0)∧G=[(8, .int .u64 c),(27, .int .i64 j)]∧M= .blk bo (recs eG u) 113::M0∧I0=I) (b.length) _ _ _ aT aJ aI (⟨0,o,0,by omega,by omega,ho,hd,by omega,by simp [val,hv],hz,rfl,rfl,rfl⟩) ?_
  rintro k G M I ⟨j,u,c,hj,rfl,hu,hdu,hc,hvu,hzu,rfl,rfl,rfl⟩
  have d2:=db.gt j
  have d3:=hdu.gt ((i:Int)+j)
  have d4:=xV d1 d2 d3 hc
  have e1:(gt u ((i:Int)+j)+gt a i*gt b j+c).tmod 1000000000=(gt u ((i:Int)+j)+gt a i*gt b j+c) % 1000000000:=Int.tmod_eq_emod_of_nonneg d4.2.1.1
  have e2:(gt u ((i:Int)+j)+gt a i*gt b j+c).tdiv 1000000000=(gt u ((i:Int)+j)+gt a i*gt b j+c) / 1000000000:=Int.tdiv_eq_ediv_of_nonneg d4.2.1.1
  repeat' (first|refine jY ?_|refine bG rfl (fun h=>?_) (fun h=>?_)|refine bI rfl rfl (fun h=>?_) (fun h=>?_)|fail)
  ·have hst:=aPD (o:=u) (b:=b) (j:=j) hvu (by omega)
   rw [e1,e2]
   refine aK (b.length - (j+1)) _ _ _ (by first|omega|(simp only [List.length_append,List.length_cons,List.length_nil];omega)) aT aJ aI (⟨j+1,_,_,by omega,rfl,by rw [aY];exact hu,?_,d4.2.2,?_,?_,rfl,rfl,rfl⟩)
   ·rw [jC];exact hdu.set _ (by omega)
   ·rw [jC,vD,gtD,gtD]
    rw [gtD] at hst
    exact hst
   ·intro t ht
    rw [jC,rY _ (by omega)]
    exact hzu t ht
  ·have hjb:j=b.length:=by omega
   subst hjb
   have hst:=aLW (o:=u) (b:=b) hvu (by omega) (hzu _ (Nat.le_refl _))
   repeat refine jY ?_
   refine aK (a.length - (i+1)) _ _ _ (by first|omega|(simp only [List.length_append,List.length_cons,List.length_nil];omega)) aT aJ aI (⟨i+1,_,by omega,rfl,by rw [aY];exact hu,?_,?_,?_,rfl,rfl,rfl⟩)
   ·rw [jC];exact hdu.set _ hc
   ·rw [jC,hst,aW,gtD]
    rw [Int.add_mul,Int.mul_assoc]
   ·intro t ht
    rw [jC,rY _ (by omega)]
    exact hzu t (by omega)
 ·have hiN:i=a.length:=by omega
  subst hiN
  rw [List.take_length,va,vb] at hv
  have hg:dD o=gr (m*n):=mG hd (by rw [hv,Int.natCast_mul])
  (refine dS rfl (CD.lend [aN (some ⟨bo,0,none⟩) (recs eG o)] (fun w hw=>Mem.lendB (b:=bo) (e:=113) aH hw hw.imm0) (fun W=>(oI (X:=[]) (w0:=W) (M0:=[]) (I0:=[aN (some ⟨bo,0,none⟩) (recs eG o)]) (l:=o) (c:=a.length+b.length) ho.symm (by omega) (by omega) aH).mono (fun _ _ _ h=>h.2.2))) ?_;rintro _ _ _ ⟨rfl,rfl,rfl⟩;refine cK ?_)
  repeat refine jY ?_
  have hle2:=uV (o:=o)
  obtain ⟨kk,hk1,hk2,_⟩:=pI o
  have hlk:(gr (m*n)).length=kk:=by rw [←hg,hk2,List.length_take];omega
  rw [hg] at hle2 ⊢
  refine zO (I':=I0) (M':= .row (some ⟨bo,0,none⟩) (gr (m*n)).length (a.length+b.length) (recs eG (gr (m*n))) 113 1::M0) (fun w hw=>?_) ?_
  ·refine hw.toRowT (b:=bo) (e:=113) (cs:=recs eG o) (c:=a.length+b.length) (m:=(gr (m*n)).length) 1 ?_ (by rw [kP,List.length_map];omega) (by omega) (by omega)
   have e:(recs eG o).take ((gr (m*n)).length*1)=recs eG (gr (m*n)):=by rw [hlk,Nat.mul_one,←hg,hk2,wE]
   rw [e]
   exact mH
  ·refine bF (by first|exact .inl rfl|exact .inr rfl) rfl rfl _ _ aJ aI (⟨_,_,rfl,by omega,rfl,rfl⟩)
end
end Go.Proofs.Ytejbgkajdomgcaa
namespace Go.Fx
theorem gQ {p g:Prop} (h:g) (w:BoxP g→p:=by (intro hh;(first|refine aL ?_|refine dC ?_|refine jV ?_|refine gV ?_|refine dY ?_|refine dN ?_|refine gW ?_|refine eT ?_|refine eH ?_|refine eP ?_|refine jT ?_|refine jK ?_|refine jH ?_|refine jP rfl ?_|refine gG ?_|(refine fG ?_;first|refine fC rfl rfl rfl ?_|(refine fU rfl rfl ?_;refine dM rfl rfl rfl okK ?_)|refine fF rfl rfl (by omega) ?_|refine fE rfl rfl (by omega) ?_)|(refine bD ?_;refine aC rfl (fun _=>bV rfl) rfl rfl ?_)|refine aC rfl (fun _=>aM rfl) rfl rfl ?_|(refine fV ?_;first|refine aC rfl (fun _=>aR rfl rfl w_) rfl rfl ?_|refine aC rfl (fun _=>aS rfl rfl w_) rfl rfl ?_|refine aC rfl (fun _=>cZ rfl rfl w_) rfl rfl ?_|refine aC rfl (fun _=>dB rfl rfl (by omega) q_) rfl rfl ?_|refine aC rfl (fun _=>dA rfl rfl (by omega) rfl) rfl rfl ?_|refine aC rfl (fun _=>bW rfl rfl) rfl rfl ?_|refine aC rfl (fun _=>dK rfl rfl) rfl rfl ?_|refine aC rfl (fun _=>dI rfl rfl) rfl rfl ?_)|(refine bD ?_;first|refine aC rfl (fun _=>bY rfl w_) rfl rfl ?_)|(refine fQ ?_;first|refine aC rfl (fun _=>bM rfl w_) rfl rfl ?_)|(refine fO ?_;first|refine aC rfl (fun _=>aQ rfl) rfl rfl ?_|refine aC rfl (fun _=>bS rfl rfl) rfl rfl ?_|refine aC rfl (fun _=>bT rfl rfl) rfl rfl ?_|refine aC rfl (fun _=>bX rfl rfl rfl) rfl rfl ?_)|(refine fP ?_;first|refine fB rfl (by decide) rfl rfl ?_|refine iN rfl (by decide) rfl rfl ?_)|(refine fJ ?_;first|refine aC rfl (fun _=>bH rfl) rfl rfl ?_)|(refine fH ?_;first|refine iR rfl rfl gP rfl rfl ?_|refine iP nY rfl rfl gP aH iX rfl rfl ?_|refine iO nY rfl rfl gP aH iX rfl rfl ?_|refine aC rfl (fun _=>bA rfl rfl gP) rfl rfl ?_)|(refine fT ?_;first|refine iU nY rfl aH nA rfl rfl ?_|refine iT nY rfl aH nA rfl rfl ?_|refine iA nY rfl aH nA rfl rfl ?_|refine fD nY rfl aH nA rfl rfl ?_|refine jN nY rfl aH gJ dE rfl rfl ?_|refine jX nY rfl aH gJ dE rfl rfl ?_|refine jS nY rfl aH gJ dE rfl rfl ?_|refine gY nY rfl aH gJ dE rfl rfl ?_)|(refine fK ?_;first|refine aC rfl (fun _=>bC rfl rfl) rfl rfl ?_|refine aC rfl (fun _=>bB rfl) rfl rfl ?_)|(refine gT ?_;first|refine lZ rfl rfl rfl mH stC rfl rfl ⟨okK,?_⟩|refine iE rfl rfl dE rQ mH qW rfl rfl ⟨okK,?_⟩)|(refine gU ?_;first|refine bK rfl ?_|refine bE rfl ?_|refine jM rfl (by omega) ?_|refine mO rfl (by omega) ?_));(repeat (first|refine aL ?_|refine dC ?_|refine jV ?_|refine gV ?_|refine dY ?_|refine dN ?_|refine gW ?_|refine eT ?_|refine eH ?_|refine eP ?_|refine jT ?_|refine jK ?_|refine jH ?_|refine jP rfl ?_|refine gG ?_|(refine fG ?_;first|refine fC rfl rfl rfl ?_|(refine fU rfl rfl ?_;refine dM rfl rfl rfl okK ?_)|refine fF rfl rfl (by omega) ?_|refine fE rfl rfl (by omega) ?_)|(refine bD ?_;refine aC rfl (fun _=>bV rfl) rfl rfl ?_)|refine aC rfl (fun _=>aM rfl) rfl rfl ?_|(refine fV ?_;first|refine aC rfl (fun _=>aR rfl rfl w_) rfl rfl ?_|refine aC rfl (fun _=>aS rfl rfl w_) rfl rfl ?_|refine aC rfl (fun _=>cZ rfl rfl w_) rfl rfl ?_|refine aC rfl (fun _=>dB rfl rfl (by omega) q_) rfl rfl ?_|refine aC rfl (fun _=>dA rfl rfl (by omega) rfl) rfl rfl ?_|refine aC rfl (fun _=>bW rfl rfl) rfl rfl ?_|refine aC rfl (fun _=>dK rfl rfl) rfl rfl ?_|refine aC rfl (fun _=>dI rfl rfl) rfl rfl ?_)|(refine bD ?_;first|refine aC rfl (fun _=>bY rfl w_) rfl rfl ?_)|(refine fQ ?_;first|refine aC rfl (fun _=>bM rfl w_) rfl rfl ?_)|(refine fO ?_;first|refine aC rfl (fun _=>aQ rfl) rfl rfl ?_|refine aC rfl (fun _=>bS rfl rfl) rfl rfl ?_|refine aC rfl (fun _=>bT rfl rfl) rfl rfl ?_|refine aC rfl (fun _=>bX rfl rfl rfl) rfl rfl ?_)|(refine fP ?_;first|refine fB rfl (by decide) rfl rfl ?_|refine iN rfl (by decide) rfl rfl ?_)|(refine fJ ?_;first|refine aC rfl (fun _=>bH rfl) rfl rfl ?_)|(refine fH ?_;first|refine iR rfl rfl gP rfl rfl ?_|refine iP nY rfl rfl gP aH iX rfl rfl ?_|refine iO nY rfl rfl gP aH iX rfl rfl ?_|refine aC rfl (fun _=>bA rfl rfl gP) rfl rfl ?_)|(refine fT ?_;first|refine iU nY rfl aH nA rfl rfl ?_|refine iT nY rfl aH nA rfl rfl ?_|refine iA nY rfl aH nA rfl rfl ?_|refine fD nY rfl aH nA rfl rfl ?_|refine jN nY rfl aH gJ dE rfl rfl ?_|refine jX nY rfl aH gJ dE rfl rfl ?_|refine jS nY rfl aH gJ dE rfl rfl ?_|refine gY nY rfl aH gJ dE rfl rfl ?_)|(refine fK ?_;first|refine aC rfl (fun _=>bC rfl rfl) rfl rfl ?_|refine aC rfl (fun _=>bB rfl) rfl rfl ?_)|(refine gT ?_;first|refine lZ rfl rfl rfl mH stC rfl rfl ⟨okK,?_⟩|refine iE rfl rfl dE rQ mH qW rfl rfl ⟨okK,?_⟩)|(refine gU ?_;first|refine bK rfl ?_|refine bE rfl ?_|refine jM rfl (by omega) ?_|refine mO rfl (by omega) ?_)));exact hh.out)):p:=w ⟨h⟩
end Go.Fx
namespace Go.Proofs.Ytejbgkajdomgcaa
open Go Go.Fx Go.RowKit Go.Shelf
attribute [local go_sem] Oper.semAt_some
theorem aHW (w:World) (m:Nat) (hm:m≤100000000000):(Instr.makeSlice 98 (.int .i64 (m:Int)) (.int .i64 (m:Int))).run Try.prog w= .ok (.slice (some ⟨w.heap.size,0,none⟩) m m) (w.alloc (.cells (madeCells #[.int .u32 0] m) 113)):=by
 have ht:SliceTy Try.prog 98 113 1:=inferInstance
 have hz:ElemTy Try.prog 113 1 4 [.int .u32 0]:=inferInstance
 obtain ⟨i,v,hi,hs,hby,hzv,hcl⟩:=pO hz
 have hr:=run_make (P:=Try.prog) w 98 113 i v ht.und hi hzv .i64 .i64 m m (by omega) (by omega) (by rw [hby];omega) (by omega)
 simpa only [Int.toNat_natCast,hs,hcl,Nat.mul_one] using hr
theorem aEY {P:Program} {fn:Func} {tmps:Array Value} {w:World} {rs:List ResultVar} {vs:List Value} (hr:fn.results=rs.toArray) (hv:xE P tmps w rs vs) (hl:Nat.beq vs.length 1=false):(results fn tmps).run P w= .ok (.tuple vs.toArray) w:=by
 have e1:=rH P tmps w rs vs hv
 have hne:¬vs.length=1:=by intro e;simp [e] at hl
 unfold results
 rw [hr,Sem.run_bind]
 refine (congrArg (fun r=>Result.andThen r fun a w'=>Sem.run P (pure (if h:a.size=1 then a[0] else Value.tuple a)) w') e1).trans ?_
 simp [hne]
def shS (d:Int) (st:List Int × Int) (i:Nat) (g:Int):List Int × Int:=(st.1.set i ((st.2*1000000000+g).tdiv d),(st.2*1000000000+g).tmod d)
def sW (zs:List Int) (d:Int) (pre:List (Dg zs)):List Int × Int:=pre.foldl (fun st x=>shS d st x.1 (zs[x.1]?.getD 0)) (List.replicate zs.length 0,0)
theorem aBI (zs:List Int) (d:Int) (pre:List (Dg zs)) (x:Dg zs):sW zs d (pre++[x])=shS d (sW zs d pre) x.1 (zs[x.1]?.getD 0):=by simp [sW]
theorem aPR {d:Int} {st:List Int × Int} {i:Nat} {g:Int} (hd:0 < d∧d < 1000000000) (hr:0≤st.2∧st.2 < d) (hg:0≤g∧g < 1000000000):(shS d st i g).1.length=st.1.length∧0≤(shS d st i g).2∧(shS d st i g).2 < d:=by
 unfold shS
 refine ⟨by simp,?_⟩
 simp only
 rw [Int.tmod_eq_emod_of_nonneg (by omega)]
 exact ⟨Int.emod_nonneg _ (by omega),Int.emod_lt_of_pos _ hd.1⟩
theorem zG {zs:List Int} {d:Int} (hd:0 < d∧d < 1000000000) (hz:Dig zs) (pre:List (Dg zs)):(sW zs d pre).1.length=zs.length∧0≤(sW zs d pre).2∧(sW zs d pre).2 < d:=by
 unfold sW
 generalize hs:(List.replicate zs.length (0:Int),(0:Int))=st
 have h0:st.1.length=zs.length∧0≤st.2∧st.2 < d:=by subst hs;simp;exact hd.1
 clear hs
 induction pre generalizing st with
 |nil=>exact h0
 |cons x r ih=>
  rw [List.foldl_cons]
  refine ih _ ?_
  have:=aPR (i:=x.1) (g:=zs[x.1]?.getD 0) hd h0.2 (by have:=hz.getD x.1;simpa using this)
  exact ⟨this.1.trans h0.1,this.2⟩
theorem nR {A B:World} {row:Option Nat} {b n:Nat} {cs:List Value} {e:TypeId} (h:Blk A b cs e) (hb:b < n) (hg:A.grownBy B row) (hr:∀j,row=some j→n≤j):Blk B b cs e:=
 (hg.block b h.lt (fun e=>by have:=hr b e.symm;omega)).trans h
structure ShI (s len:Nat) (d:Int) (st:List Int × Int) (W:World):Prop where
 b0:Blk W s [.int .u32 d] 113
 b1:Blk W (s+1) [.slice (some ⟨s+1+1,0,none⟩) len len] 98
 b2:Blk W (s+1+1) (recs eG st.1) 113
 b3:Blk W (s+1+1+1) [.int .u64 st.2] 115
theorem ShI.mem {s len:Nat} {d:Int} {st:List Int × Int} {W:World} (h:ShI s len d st W):
  Mem [s,s+1,s+1+1,s+1+1+1] W [.blk s [.int .u32 d] 113, .blk (s+1) [.slice (some ⟨s+1+1,0,none⟩) len len] 98, .blk (s+1+1) (recs eG st.1) 113, .blk (s+1+1+1) [.int .u64 st.2] 115] [] W:=by
 refine ⟨Ext.refl _ _,?_,?_,?_,fun _ h=>by cases h⟩
 ·intro b hb
  simp [muts,Ent.blocks] at hb
  simp;omega
 ·simp [muts,Ent.blocks]
  omega
 ·intro e he
  simp only [List.mem_cons,List.not_mem_nil,or_false] at he
  rcases he with rfl|rfl|rfl|rfl
  ·exact h.b0
  ·exact h.b1
  ·exact h.b2
  ·exact h.b3
theorem ShI.of {s len:Nat} {d:Int} {st:List Int × Int} {W0 W:World} {X:List Nat} {I:List aO} (h:Mem X W0 [.blk s [.int .u32 d] 113, .blk (s+1) [.slice (some ⟨s+1+1,0,none⟩) len len] 98, .blk (s+1+1) (recs eG st.1) 113, .blk (s+1+1+1) [.int .u64 st.2] 115] I W):ShI s len d st W:=
 ⟨h.blk (by simp),h.blk (by simp),h.blk (by simp),h.blk (by simp)⟩
theorem aHD (a:Option Addr) (cap:Nat) (zs:List Int) (d:Int) (w:World) (hz:zs.length≤100000000000) (hD':Dig zs) (hd:0 < d∧d < 1000000000) (hI:Sl [] w a (recs eG zs)):
  CallsIn Fence.wide 5 Try.prog 90 #[.slice a zs.length cap, .int .u32 d] w fun e w'=>∃b c',e= .returned (.tuple #[.slice (some ⟨b,0,none⟩) (dD (sW zs d (nO zs zs.length)).1).length c', .int .u32 (sW zs d (nO zs zs.length)).2])∧Below w.heap.size w w'∧(dD (sW zs d (nO zs zs.length)).1).length≤c'∧w.heap.size≤b∧Sl [] w' (some ⟨b,0,none⟩) (recs eG (dD (sW zs d (nO zs zs.length)).1)):=by
 refine callsIn_of_wp_marks Try.func90 rfl trivial ?_ rfl
 simp only [Try.ntmps90,List.size_toArray,List.length_cons,List.length_nil,Nat.reduceAdd,Nat.reduceSub,Array.replicate_succ,Array.replicate_zero,List.push_toArray,List.append_toArray,List.nil_append,List.cons_append]
 gi_wp2_with (refine ⟨trivial,?_⟩;gi_at_call 84;refine (rE Fence.wide _ trivial rfl _ _ _ _).mono ?_;rintro e w' ⟨rfl,rfl⟩)
 rw [aHW _ _ (by omega)]
 gi_wp2_with (refine ⟨trivial,?_⟩;gi_at_call 84;refine (rE Fence.wide _ trivial rfl _ _ _ _).mono ?_;rintro e w' ⟨rfl,rfl⟩)
 generalize hW0:((((w.alloc (.cells #[.int .u32 d] 113)).alloc (.cells #[.slice (some ⟨w.heap.size+1+1,0,none⟩) zs.length zs.length] 98)).alloc (.cells (madeCells #[.int .u32 0] zs.length) 113)).alloc (.cells #[.int .u64 0] 115)).alloc (.cells #[.slice a zs.length cap] 98)=W0
 have hBl:Below w.heap.size w W0:=by
  subst hW0
  exact (((((Below.refl _ w).alloc (Nat.le_refl _) _).alloc (by simp) _).alloc (by simp;omega) _).alloc (by simp;omega) _).alloc (by simp;omega) _
 have hsz:W0.heap.size=w.heap.size+1+1+1+1+1:=by subst hW0;simp
 have hSh:ShI w.heap.size zs.length d (sW zs d []) W0:=by
  subst hW0
  refine ⟨?_,?_,?_,?_⟩
  ·exact (heap_alloc_old _ _ (h:=by simp <;>omega)).trans ((heap_alloc_old _ _ (h:=by simp <;>omega)).trans ((heap_alloc_old _ _ (h:=by simp <;>omega)).trans ((heap_alloc_old _ _ (h:=by simp)).trans (heap_alloc_new _ _))))
  ·have:=heap_alloc_new (w.alloc (.cells #[.int .u32 d] 113)) (.cells #[.slice (some ⟨w.heap.size+1+1,0,none⟩) zs.length zs.length] 98)
   rw [World.size_alloc] at this
   exact (heap_alloc_old _ _ (h:=by simp <;>omega)).trans ((heap_alloc_old _ _ (h:=by simp <;>omega)).trans ((heap_alloc_old _ _ (h:=by simp)).trans this))
  ·have:=heap_alloc_new ((w.alloc (.cells #[.int .u32 d] 113)).alloc (.cells #[.slice (some ⟨w.heap.size+1+1,0,none⟩) zs.length zs.length] 98)) (.cells (madeCells #[.int .u32 0] zs.length) 113)
   simp only [World.size_alloc] at this
   refine (heap_alloc_old _ _ (h:=by simp <;>omega)).trans ((heap_alloc_old _ _ (h:=by simp)).trans (this.trans ?_))
   have e:(madeCells #[.int .u32 0] zs.length)=(recs eG (List.replicate zs.length 0)).toArray:=by
    have:=lT .u32 zs.length
    rw [Nat.mul_one] at this
    rw [←this]
   rw [e]
   rfl
  ·have:=heap_alloc_new (((w.alloc (.cells #[.int .u32 d] 113)).alloc (.cells #[.slice (some ⟨w.heap.size+1+1,0,none⟩) zs.length zs.length] 98)).alloc (.cells (madeCells #[.int .u32 0] zs.length) 113)) (.cells #[.int .u64 0] 115)
   simp only [World.size_alloc] at this
   exact (heap_alloc_old _ _ (h:=by simp)).trans this
 have hb:W0.cell? ⟨w.heap.size+1+1+1+1,0,none⟩=some (.slice a zs.length cap):=by
  subst hW0
  have:=(iD ((((w.alloc (.cells #[.int .u32 d] 113)).alloc (.cells #[.slice (some ⟨w.heap.size+1+1,0,none⟩) zs.length zs.length] 98)).alloc (.cells (madeCells #[.int .u32 0] zs.length) 113)).alloc (.cells #[.int .u64 0] 115)) (.slice a zs.length cap) 98).1
  simpa only [World.size_alloc] using this
 have hI2:=Sl.mono hI (Ext.of_below hBl)
 refine wpIn_rangeFunc_ownG rfl (by decide) (gf:=93) (lb:=#[.pointer (some ⟨w.heap.size+1+1+1+1,0,none⟩)]) rfl trivial (enters_of Try.func93 (by kernel_rfl) rfl)
  (sJ Fence.wide (5 - 1) trivial rfl (by decide) (w.heap.size+1+1+1+1) w.heap.size a cap zs (by omega) _ (by omega) (by omega) hb hI2 (aAU hI)) KpB.trans (aDY (by omega)) (Below.refl _ _) (fun _=>rfl)
  (fun pre W=>ShI w.heap.size zs.length d (sW zs d pre) W∧Below w.heap.size w W)
  (fun _ _ _=>False)
  (OwnFrom.and (fun pre A B row hs hg hr=>⟨nR hs.b0 (by omega) hg (fun j e=>(hr j e).1),nR hs.b1 (by omega) hg (fun j e=>(hr j e).1),nR hs.b2 (by omega) hg (fun j e=>(hr j e).1),nR hs.b3 (by omega) hg (fun j e=>(hr j e).1)⟩) (ownFrom_below (Nat.le_refl _) (by omega)))
  (fun _ _ _ _ _ hs _ _=>hs) ⟨hSh,hBl⟩ ?a1 ?assign ?body ?done ?stop
 case assign=>
  intro l x W K hK
  dsimp only [dgE]
  gi_wp2
  exact hK
 case body=>
  rintro l pre x W ⟨hS,hB⟩ hpl
  have hx:=x.2
  have hgx:0≤zs[x.1]?.getD 0∧zs[x.1]?.getD 0 < 1000000000:=by have:=hD'.getD x.1;simpa using this
  have hst:=zG hd hD' pre
  have hc3:=hS.b3.cell (o:=0) rfl
  gi_wp2
  have ev:IntKind.u64.wrap ((sW zs d pre).snd*1000000000+IntKind.u64.wrap zs[x.val])=(sW zs d pre).snd*1000000000+zs[x.1]?.getD 0:=by
   have e:zs[x.1]=zs[x.1]?.getD 0:=by simp [hx]
   rw [e,wrap_u64 (n:=zs[x.1]?.getD 0) (by omega),wrap_u64 (by omega)]
  rw [ev]
  obtain ⟨o,ho⟩:∃o,(sW zs d pre).1=o:=⟨_,rfl⟩
  obtain ⟨r,hr⟩:∃r,(sW zs d pre).2=r:=⟨_,rfl⟩
  have hM:=hS.mem
  rw [hr] at hst ⊢
  rw [ho] at hst
  rw [ho,hr] at hM
  have hsn:=aBI zs d pre x
  unfold shS at hsn
  rw [ho,hr] at hsn
  have hV:0≤r*1000000000+zs[x.1]?.getD 0:=by omega
  have hq1:(r*1000000000+zs[x.1]?.getD 0).tdiv d=(r*1000000000+zs[x.1]?.getD 0) / d:=Int.tdiv_eq_ediv_of_nonneg hV
  have hq2:(r*1000000000+zs[x.1]?.getD 0) / d < 1000000000:=by
   apply Int.ediv_lt_of_lt_mul hd.1
   have:(r+1)*1000000000≤d*1000000000:=Int.mul_le_mul_of_nonneg_right (by omega) (by omega)
   omega
  have hq3:0≤(r*1000000000+zs[x.1]?.getD 0) / d:=Int.ediv_nonneg hV (by omega)
  have hm1:(r*1000000000+zs[x.1]?.getD 0).tmod d=(r*1000000000+zs[x.1]?.getD 0) % d:=Int.tmod_eq_emod_of_nonneg hV
  have hm2:=Int.emod_lt_of_pos (r*1000000000+zs[x.1]?.getD 0) hd.1
  have hm3:=Int.emod_nonneg (r*1000000000+zs[x.1]?.getD 0) (show d≠0 by omega)
  refine aDC (Has.cons (t:=3) (v:= .pointer (some ⟨w.heap.size,0,none⟩)) (Has.cons (t:=4) (v:= .pointer (some ⟨w.heap.size+1,0,none⟩)) (Has.cons (t:=6) (v:= .pointer (some ⟨w.heap.size+1+1+1,0,none⟩)) (Has.cons (t:=7) (v:= .int .i64 (x.1:Int)) (Has.cons (t:=9) (v:= .int .u64 (r*1000000000+zs[x.1]?.getD 0)) (Has.nil (n:=38) rfl rfl) rfl) rfl) rfl) rfl) rfl) (hM) (by rintro ⟨a,w,h⟩;exact h) 1 ([.blk w.heap.size [.int .u32 d] 113, .blk (w.heap.size+1) [.slice (some ⟨w.heap.size+1+1,0,none⟩) zs.length zs.length] 98]) ([]) [0,1,2,3,4,5,6,7,8,9,10,11,12,13] [0,0,0,0,0,0,0,1,1,1,1,0,0,0] aJ aI mixed (by kernel_rfl) (by kernel_rfl) ?_
  repeat refine gQ ?_
  refine ⟨fun W' hm=>⟨fun act ha=>?_⟩⟩
  refine ⟨yI hm.ext (fun k hk=>?_),⟨nZ hm.ext (fun k hk=>?_) (by have:=hB.size;omega),fun v hv=>hm.ext.cell hv ?_⟩,⟨?_,?_⟩⟩
  ·simp at hk;omega
  ·simp at hk;omega
  ·simp;omega
  ·rw [hsn]
   exact ShI.of hm
  ·exact hB.trans (nZ hm.ext (fun k hk=>by simp at hk;omega) (by have:=hB.size;omega))
 case done=>
  rintro D ys W hD rfl ⟨hS,hB⟩ hK
  have hst:=zG hd hD' (nO zs zs.length)
  obtain ⟨o,ho⟩:∃o,(sW zs d (nO zs zs.length)).1=o:=⟨_,rfl⟩
  obtain ⟨r,hr⟩:∃r,(sW zs d (nO zs zs.length)).2=r:=⟨_,rfl⟩
  have hM:=hS.mem
  rw [hr,ho] at hst
  rw [ho,hr] at hM
  have hM2:=hM.freezeB (b:=w.heap.size+1+1) (cs:=recs eG o) (e:=113) (M':=[.blk w.heap.size [.int .u32 d] 113, .blk (w.heap.size+1) [.slice (some ⟨w.heap.size+1+1,0,none⟩) zs.length zs.length] 98, .blk (w.heap.size+1+1+1) [.int .u64 r] 115]) uJ
  gi_wp2
  refine aCH (Has.cons (t:=4) (v:= .pointer (some ⟨w.heap.size+1,0,none⟩)) (Has.cons (t:=6) (v:= .pointer (some ⟨w.heap.size+1+1+1,0,none⟩)) (Has.nil (n:=38) rfl rfl) rfl) rfl) (hM2) 2 ([.blk (w.heap.size+1+1+1) [.int .u64 r] 115]) ([]) [0,2,3,1,4,5] [0,2,2,0,0,0] aJ aI mixed (by kernel_rfl) ?_
  repeat refine gQ ?_
  (refine dS rfl (oI (l:=o) (n:=zs.length) (c:=zs.length) (q:=some ⟨w.heap.size+1+1,0,none⟩) hst.1.symm (by omega) (by omega) aH) ?_;rintro _ _ _ ⟨rfl,rfl,rfl⟩;refine cK ?_)
  repeat refine gQ ?_
  refine ⟨fun W' hm=>⟨fun act ha=>?_⟩⟩
  obtain ⟨tm,df⟩:=act
  have hdf:df=[]:=ha.defers
  subst hdf
  rename_i Q1 K1 hKK
  refine hKK _ _ (wpIn_ret ?_)
  have hX:∀k∈[w.heap.size,w.heap.size+1,w.heap.size+1+1,w.heap.size+1+1+1],w.heap.size≤k∧k < D:=fun k hk=>by simp at hk;omega
  have hK2:W'.heap[D]?=some (.deferred (some [])):=(hm.ext.block D (Array.getElem?_eq_some_iff.1 hK).1 (fun hk=>by have:=hX D hk;omega)).trans hK
  refine ⟨by simp, .inl ⟨_,_,rfl,run_takeDeferred hK2,?_⟩⟩
  have hg:W'.grownBy (W'.putObj D (.deferred none)) (some D):=grownBy_putObj' W' D _
  have hb1:Blk (W'.putObj D (.deferred none)) (w.heap.size+1) [.slice (some ⟨w.heap.size+1+1,0,none⟩) (dD o).length zs.length] 98:=nR (n:=D) (hm.blk (by simp)) (by omega) hg (fun j e=>by cases e;exact Nat.le_refl _)
  have hBf:Below w.heap.size w (W'.putObj D (.deferred none)):=(hB.trans (nZ hm.ext (fun k hk=>(hX k hk).1) (by have:=hB.size;omega))).trans (belowK_b (w:=w) (Nat.le_refl _) _ D _ _ (by omega) hK2 rfl rfl)
  refine ⟨_,aEY (tmps:=tm) (rs:=[.cell 4 98, .tmp 5]) (vs:=[.slice (some ⟨w.heap.size+1+1,0,none⟩) (dD o).length zs.length, .int .u32 r]) rfl ⟨xR (by simp [ha.get 4 _ rfl]) hb1,by simp [ha.get 5 _ rfl],trivial⟩ rfl,?_⟩
  rw [ho,hr]
  refine ⟨_,_,rfl,hBf,?_,?_,?_⟩
  ·have:=uV (o:=o);omega
  ·omega
  ·intro j v hj
   obtain ⟨h1,_,h3⟩:=(hm.sl (a:=some ⟨w.heap.size+1+1,0,none⟩) (cs:=recs eG (dD o)) (by simp)) j v hj
   exact ⟨h1,by simp,cell_kept h3 hg (fun r e=>by cases e;exact ⟨_,hK2,rfl⟩)⟩
 case stop=>
  rintro D c pre W _ _ h _
  exact h.elim
theorem aDV {zs:List Int} {d:Int} (hd:0 < d∧d < 1000000000) (hz:Dig zs):∀k,k≤zs.length→val (zs.drop (zs.length - k))=d*val ((sW zs d (nO zs k)).1.drop (zs.length - k))+(sW zs d (nO zs k)).2∧Dig (sW zs d (nO zs k)).1
 |0,_=>by
  have e:(sW zs d (nO zs 0))=(List.replicate zs.length 0,0):=rfl
  rw [e]
  simp [val]
  exact Dig.zeros _
 |k+1,hk=>by
  obtain ⟨h1,h2⟩:=aDV hd hz k (by omega)
  obtain ⟨l1,l2,l3⟩:=zG hd hz (nO zs k)
  rw [nM (by omega),aBI]
  have e:zs.length - k=zs.length - (k+1)+1:=by omega
  have e2:zs.length - 1 - k=zs.length - (k+1):=by omega
  simp only [e2]
  rw [e] at h1
  have hg:zs[zs.length - (k+1)]?.getD 0=zs.getD (zs.length - (k+1)) 0:=by simp
  have hgd:=hz.getD (zs.length - (k+1))
  have hsm:=aGU hd.1 (by omega) ⟨l2,l3⟩ hgd
  have h3:=aGZ (a:=zs) (q:=(sW zs d (nO zs k)).1) (i:=zs.length - (k+1)) (d:=d) (r:=(sW zs d (nO zs k)).2) (by omega) (by omega) h1
  unfold shS
  rw [hg,Int.tdiv_eq_ediv_of_nonneg (by omega),Int.tmod_eq_emod_of_nonneg (by omega)]
  exact ⟨h3,h2.set _ hsm.2.1⟩
section
variable {X:List Nat} {w0:World} {M0:List Ent} {I0:List aO}
theorem zZ {q:Option Addr} {n c d:Nat} (hn:(gr n).length≤100000000000) (hd:0 < d∧d < 1000000000) (hq:aN q (recs eG (gr n))∈I0):
  CD Try.prog 90 [.slice q (gr n).length c, .int .u32 d] X w0 M0 I0 (fun v M I=>M0=M∧∃p c',(gr (n / d)).length≤c'∧Ok p∧v= .tuple #[.slice p (gr (n / d)).length c', .int .u32 ((n % d:Nat):Int)]∧I=aN p (recs eG (gr (n / d)))::I0):=by
 have hd':0 < (d:Int)∧(d:Int) < 1000000000:=by omega
 obtain ⟨h1,h2⟩:=aDV hd' (dF n) (gr n).length (Nat.le_refl _)
 obtain ⟨l1,l2,l3⟩:=zG hd' (dF n) (nO (gr n) (gr n).length)
 rw [Nat.sub_self,List.drop_zero,List.drop_zero,dR] at h1
 have hv0:=aV h2
 have e1:val (sW (gr n) d (nO (gr n) (gr n).length)).1=((n / d:Nat):Int):=by
  rw [Int.natCast_ediv,h1,Int.add_comm,Int.add_mul_ediv_left _ _ (by omega),Int.ediv_eq_zero_of_lt l2 l3]
  omega
 have e2:(sW (gr n) d (nO (gr n) (gr n).length)).2=((n % d:Nat):Int):=by
  rw [Int.natCast_emod,h1,Int.add_comm,Int.add_mul_emod_self_left,Int.emod_eq_of_lt l2 l3]
 have e3:=mG h2 e1
 have hs:=fun (w:World) (hI:Sl [] w q (recs eG (gr n)))=>aHD q c (gr n) d w hn (dF n) hd' hI
 rw [e3,e2] at hs
 refine ⟨fun w hw=>Calls.mono (callsIn_wide.1 (hs w ((hw.sl hq).less (by simp)))) ?_⟩
 rintro e w' ⟨b,c',rfl,hB,hle,hb,hS⟩
 refine ⟨_,rfl,_,_,⟨rfl,_,c',hle,Ok.mk _ _,rfl,rfl⟩,hw.new (Ext.of_below hB) (fun Y hY j v hj=>?_)⟩
 obtain ⟨h1,_,h3⟩:=hS j v hj
 exact ⟨h1,fun hm=>by have:=hY b hm;omega,h3⟩
end
end Go.Proofs.Ytejbgkajdomgcaa

/- integer: short division integer: long division, plain -/
import Derived.Test.YthhldplegmeolaaGreatZuai
import Derived.Test.YthhldplegmeolaaGreatZuaf
import Derived.Test.YthhldplegmeolaaGreatZuah
set_option linter.unusedSimpArgs false
set_option linter.unusedVariables false
set_option maxRecDepth 100000
set_option maxHeartbeats 4000000
namespace Go.Proofs.YthhldplegmeolaaGreat
open Go Go.Fx Go.RowKit Go.Shelf
attribute [local go_sem] Oper.semAt_some
theorem aOB (w:World) (m:Nat) (hm:m≤100000000000):(Instr.makeSlice 32 (.int .i64 (m:Int)) (.int .i64 (m:Int))).run Tryz.prog w= .ok (.slice (some ⟨w.heap.size,0,none⟩) m m) (w.alloc (.cells (madeCells #[.int .u32 0] m) 103)):=by
 have ht:SliceTy Tryz.prog 32 103 1:=inferInstance
 have hz:ElemTy Tryz.prog 103 1 4 [.int .u32 0]:=inferInstance
 obtain ⟨i,v,hi,hs,hby,hzv,hcl⟩:=tT hz
 have hr:=run_make (P:=Tryz.prog) w 32 103 i v ht.und hi hzv .i64 .i64 m m (by omega) (by omega) (by rw [hby];omega) (by omega)
 simpa only [Int.toNat_natCast,hs,hcl,Nat.mul_one] using hr
theorem aLK {P:Program} {fn:Func} {tmps:Array Value} {w:World} {rs:List ResultVar} {vs:List Value} (hr:fn.results=rs.toArray) (hv:aBW P tmps w rs vs) (hl:Nat.beq vs.length 1=false):(results fn tmps).run P w= .ok (.tuple vs.toArray) w:=by
 have e1:=wD P tmps w rs vs hv
 have hne:¬vs.length=1:=by intro e;simp [e] at hl
 unfold results
 rw [hr,Sem.run_bind]
 refine (congrArg (fun r=>Result.andThen r fun a w'=>Sem.run P (pure (if h:a.size=1 then a[0] else Value.tuple a)) w') e1).trans ?_
 simp [hne]
def shS (d:Int) (st:List Int × Int) (i:Nat) (g:Int):List Int × Int:=(st.1.set i ((st.2*1000000000+g).tdiv d),(st.2*1000000000+g).tmod d)
def wX (zs:List Int) (d:Int) (pre:List (Dg zs)):List Int × Int:=pre.foldl (fun st x=>shS d st x.1 (zs[x.1]?.getD 0)) (List.replicate zs.length 0,0)
theorem aEW (zs:List Int) (d:Int) (pre:List (Dg zs)) (x:Dg zs):wX zs d (pre++[x])=shS d (wX zs d pre) x.1 (zs[x.1]?.getD 0):=by simp [wX]
theorem aSH {d:Int} {st:List Int × Int} {i:Nat} {g:Int} (hd:0 < d∧d < 1000000000) (hr:0≤st.2∧st.2 < d) (hg:0≤g∧g < 1000000000):(shS d st i g).1.length=st.1.length∧0≤(shS d st i g).2∧(shS d st i g).2 < d:=by
 unfold shS
 refine ⟨by simp,?_⟩
 simp only
 rw [Int.tmod_eq_emod_of_nonneg (by omega)]
 exact ⟨Int.emod_nonneg _ (by omega),Int.emod_lt_of_pos _ hd.1⟩
theorem aCR {zs:List Int} {d:Int} (hd:0 < d∧d < 1000000000) (hz:Dig zs) (pre:List (Dg zs)):(wX zs d pre).1.length=zs.length∧0≤(wX zs d pre).2∧(wX zs d pre).2 < d:=by
 unfold wX
 generalize hs:(List.replicate zs.length (0:Int),(0:Int))=st
 have h0:st.1.length=zs.length∧0≤st.2∧st.2 < d:=by subst hs;simp;exact hd.1
 clear hs
 induction pre generalizing st with
 |nil=>exact h0
 |cons x r ih=>
  rw [List.foldl_cons]
  refine ih _ ?_
  have:=aSH (i:=x.1) (g:=zs[x.1]?.getD 0) hd h0.2 (by have:=hz.getD x.1;simpa using this)
  exact ⟨this.1.trans h0.1,this.2⟩
theorem qZ {A B:World} {row:Option Nat} {b n:Nat} {cs:List Value} {e:TypeId} (h:Blk A b cs e) (hb:b < n) (hg:A.grownBy B row) (hr:∀j,row=some j→n≤j):Blk B b cs e:=
 (hg.block b h.lt (fun e=>by have:=hr b e.symm;omega)).trans h
structure ShI (s len:Nat) (d:Int) (st:List Int × Int) (W:World):Prop where
 b0:Blk W s [.int .u32 d] 103
 b1:Blk W (s+1) [.slice (some ⟨s+1+1,0,none⟩) len len] 32
 b2:Blk W (s+1+1) (recs eG st.1) 103
 b3:Blk W (s+1+1+1) [.int .u64 st.2] 106
theorem ShI.mem {s len:Nat} {d:Int} {st:List Int × Int} {W:World} (h:ShI s len d st W):
  Mem [s,s+1,s+1+1,s+1+1+1] W [.blk s [.int .u32 d] 103, .blk (s+1) [.slice (some ⟨s+1+1,0,none⟩) len len] 32, .blk (s+1+1) (recs eG st.1) 103, .blk (s+1+1+1) [.int .u64 st.2] 106] [] W:=by
 refine ⟨Ext.refl _ _,?_,?_,?_,fun _ h=>by cases h⟩
 ·intro b hb
  simp [muts,Ent.blocks] at hb
  simp;omega
 ·simp [muts,Ent.blocks]
  omega
 ·intro e he
  simp only [List.mem_cons,List.not_mem_nil,or_false] at he
  rcases he with rfl|rfl|rfl|rfl
  ·exact h.b0
  ·exact h.b1
  ·exact h.b2
  ·exact h.b3
theorem ShI.of {s len:Nat} {d:Int} {st:List Int × Int} {W0 W:World} {X:List Nat} {I:List aN} (h:Mem X W0 [.blk s [.int .u32 d] 103, .blk (s+1) [.slice (some ⟨s+1+1,0,none⟩) len len] 32, .blk (s+1+1) (recs eG st.1) 103, .blk (s+1+1+1) [.int .u64 st.2] 106] I W):ShI s len d st W:=
 ⟨h.blk (by simp),h.blk (by simp),h.blk (by simp),h.blk (by simp)⟩
theorem aOQ (a:Option Addr) (cap:Nat) (zs:List Int) (d:Int) (w:World) (hz:zs.length≤100000000000) (hD':Dig zs) (hd:0 < d∧d < 1000000000) (hI:Sl [] w a (recs eG zs)):
  CallsIn Fence.wide 5 Tryz.prog 153 #[.slice a zs.length cap, .int .u32 d] w fun e w'=>∃b c',e= .returned (.tuple #[.slice (some ⟨b,0,none⟩) (dZ (wX zs d (tV zs zs.length)).1).length c', .int .u32 (wX zs d (tV zs zs.length)).2])∧Below w.heap.size w w'∧(dZ (wX zs d (tV zs zs.length)).1).length≤c'∧w.heap.size≤b∧Sl [] w' (some ⟨b,0,none⟩) (recs eG (dZ (wX zs d (tV zs zs.length)).1)):=by
 refine callsIn_of_wp_marks Tryz.func153 rfl trivial ?_ rfl
 simp only [Tryz.ntmps153,List.size_toArray,List.length_cons,List.length_nil,Nat.reduceAdd,Nat.reduceSub,Array.replicate_succ,Array.replicate_zero,List.push_toArray,List.append_toArray,List.nil_append,List.cons_append]
 gi_wp2_with (refine ⟨trivial,?_⟩;gi_at_call 128;refine (yG Fence.wide _ trivial rfl _ _ _ _).mono ?_;rintro e w' ⟨rfl,rfl⟩)
 rw [aOB _ _ (by omega)]
 gi_wp2_with (refine ⟨trivial,?_⟩;gi_at_call 128;refine (yG Fence.wide _ trivial rfl _ _ _ _).mono ?_;rintro e w' ⟨rfl,rfl⟩)
 generalize hW0:((((w.alloc (.cells #[.int .u32 d] 103)).alloc (.cells #[.slice (some ⟨w.heap.size+1+1,0,none⟩) zs.length zs.length] 32)).alloc (.cells (madeCells #[.int .u32 0] zs.length) 103)).alloc (.cells #[.int .u64 0] 106)).alloc (.cells #[.slice a zs.length cap] 32)=W0
 have hBl:Below w.heap.size w W0:=by
  subst hW0
  exact (((((Below.refl _ w).alloc (Nat.le_refl _) _).alloc (by simp) _).alloc (by simp;omega) _).alloc (by simp;omega) _).alloc (by simp;omega) _
 have hsz:W0.heap.size=w.heap.size+1+1+1+1+1:=by subst hW0;simp
 have hSh:ShI w.heap.size zs.length d (wX zs d []) W0:=by
  subst hW0
  refine ⟨?_,?_,?_,?_⟩
  ·exact (heap_alloc_old _ _ (h:=by simp <;>omega)).trans ((heap_alloc_old _ _ (h:=by simp <;>omega)).trans ((heap_alloc_old _ _ (h:=by simp <;>omega)).trans ((heap_alloc_old _ _ (h:=by simp)).trans (heap_alloc_new _ _))))
  ·have:=heap_alloc_new (w.alloc (.cells #[.int .u32 d] 103)) (.cells #[.slice (some ⟨w.heap.size+1+1,0,none⟩) zs.length zs.length] 32)
   rw [World.size_alloc] at this
   exact (heap_alloc_old _ _ (h:=by simp <;>omega)).trans ((heap_alloc_old _ _ (h:=by simp <;>omega)).trans ((heap_alloc_old _ _ (h:=by simp)).trans this))
  ·have:=heap_alloc_new ((w.alloc (.cells #[.int .u32 d] 103)).alloc (.cells #[.slice (some ⟨w.heap.size+1+1,0,none⟩) zs.length zs.length] 32)) (.cells (madeCells #[.int .u32 0] zs.length) 103)
   simp only [World.size_alloc] at this
   refine (heap_alloc_old _ _ (h:=by simp <;>omega)).trans ((heap_alloc_old _ _ (h:=by simp)).trans (this.trans ?_))
   have e:(madeCells #[.int .u32 0] zs.length)=(recs eG (List.replicate zs.length 0)).toArray:=by
    have:=mG .u32 zs.length
    rw [Nat.mul_one] at this
    rw [←this]
   rw [e]
   rfl
  ·have:=heap_alloc_new (((w.alloc (.cells #[.int .u32 d] 103)).alloc (.cells #[.slice (some ⟨w.heap.size+1+1,0,none⟩) zs.length zs.length] 32)).alloc (.cells (madeCells #[.int .u32 0] zs.length) 103)) (.cells #[.int .u64 0] 106)
   simp only [World.size_alloc] at this
   exact (heap_alloc_old _ _ (h:=by simp)).trans this
 have hb:W0.cell? ⟨w.heap.size+1+1+1+1,0,none⟩=some (.slice a zs.length cap):=by
  subst hW0
  have:=(mP ((((w.alloc (.cells #[.int .u32 d] 103)).alloc (.cells #[.slice (some ⟨w.heap.size+1+1,0,none⟩) zs.length zs.length] 32)).alloc (.cells (madeCells #[.int .u32 0] zs.length) 103)).alloc (.cells #[.int .u64 0] 106)) (.slice a zs.length cap) 32).1
  simpa only [World.size_alloc] using this
 have hI2:=Sl.mono hI (Ext.of_below hBl)
 refine wpIn_rangeFunc_ownG rfl (by decide) (gf:=155) (lb:=#[.pointer (some ⟨w.heap.size+1+1+1+1,0,none⟩)]) rfl trivial (enters_of Tryz.func155 (by kernel_rfl) rfl)
  (aAG Fence.wide (5 - 1) trivial rfl (by decide) (w.heap.size+1+1+1+1) w.heap.size a cap zs (by omega) _ (by omega) (by omega) hb hI2 (aIM hI)) KpB.trans (aNV (by omega)) (Below.refl _ _) (fun _=>rfl)
  (fun pre W=>ShI w.heap.size zs.length d (wX zs d pre) W∧Below w.heap.size w W)
  (fun _ _ _=>False)
  (OwnFrom.and (fun pre A B row hs hg hr=>⟨qZ hs.b0 (by omega) hg (fun j e=>(hr j e).1),qZ hs.b1 (by omega) hg (fun j e=>(hr j e).1),qZ hs.b2 (by omega) hg (fun j e=>(hr j e).1),qZ hs.b3 (by omega) hg (fun j e=>(hr j e).1)⟩) (ownFrom_below (Nat.le_refl _) (by omega)))
  (fun _ _ _ _ _ hs _ _=>hs) ⟨hSh,hBl⟩ ?a1 ?assign ?body ?done ?stop
 case assign=>
  intro l x W K hK
  dsimp only [dgE]
  gi_wp2
  exact hK
 case body=>
  rintro l pre x W ⟨hS,hB⟩ hpl
  have hx:=x.2
  have hgx:0≤zs[x.1]?.getD 0∧zs[x.1]?.getD 0 < 1000000000:=by have:=hD'.getD x.1;simpa using this
  have hst:=aCR hd hD' pre
  have hc3:=hS.b3.cell (o:=0) rfl
  gi_wp2
  have ev:IntKind.u64.wrap ((wX zs d pre).snd*1000000000+IntKind.u64.wrap zs[x.val])=(wX zs d pre).snd*1000000000+zs[x.1]?.getD 0:=by
   have e:zs[x.1]=zs[x.1]?.getD 0:=by simp [hx]
   rw [e,wrap_u64 (n:=zs[x.1]?.getD 0) (by omega),wrap_u64 (by omega)]
  rw [ev]
  obtain ⟨o,ho⟩:∃o,(wX zs d pre).1=o:=⟨_,rfl⟩
  obtain ⟨r,hr⟩:∃r,(wX zs d pre).2=r:=⟨_,rfl⟩
  have hM:=hS.mem
  rw [hr] at hst ⊢
  rw [ho] at hst
  rw [ho,hr] at hM
  have hsn:=aEW zs d pre x
  unfold shS at hsn
  rw [ho,hr] at hsn
  have hV:0≤r*1000000000+zs[x.1]?.getD 0:=by omega
  have hq1:(r*1000000000+zs[x.1]?.getD 0).tdiv d=(r*1000000000+zs[x.1]?.getD 0) / d:=Int.tdiv_eq_ediv_of_nonneg hV
  have hq2:(r*1000000000+zs[x.1]?.getD 0) / d < 1000000000:=by
   apply Int.ediv_lt_of_lt_mul hd.1
   have:(r+1)*1000000000≤d*1000000000:=Int.mul_le_mul_of_nonneg_right (by omega) (by omega)
   omega
  have hq3:0≤(r*1000000000+zs[x.1]?.getD 0) / d:=Int.ediv_nonneg hV (by omega)
  have hm1:(r*1000000000+zs[x.1]?.getD 0).tmod d=(r*1000000000+zs[x.1]?.getD 0) % d:=Int.tmod_eq_emod_of_nonneg hV
  have hm2:=Int.emod_lt_of_pos (r*1000000000+zs[x.1]?.getD 0) hd.1
  have hm3:=Int.emod_nonneg (r*1000000000+zs[x.1]?.getD 0) (show d≠0 by omega)
  refine aHM (Has.cons (t:=3) (v:= .pointer (some ⟨w.heap.size,0,none⟩)) (Has.cons (t:=4) (v:= .pointer (some ⟨w.heap.size+1,0,none⟩)) (Has.cons (t:=6) (v:= .pointer (some ⟨w.heap.size+1+1+1,0,none⟩)) (Has.cons (t:=7) (v:= .int .i64 (x.1:Int)) (Has.cons (t:=9) (v:= .int .u64 (r*1000000000+zs[x.1]?.getD 0)) (Has.nil (n:=38) rfl rfl) rfl) rfl) rfl) rfl) rfl) (hM) (by rintro ⟨a,w,h⟩;exact h) 1 ([.blk w.heap.size [.int .u32 d] 103, .blk (w.heap.size+1) [.slice (some ⟨w.heap.size+1+1,0,none⟩) zs.length zs.length] 32]) ([]) [0,1,2,3,4,5,6,7,8,9,10,11,12,13] [0,0,0,0,0,0,0,1,1,1,1,0,0,0] bJ bI mixed (by kernel_rfl) (by kernel_rfl) ?_
  repeat refine gH ?_
  refine ⟨fun W' hm=>⟨fun act ha=>?_⟩⟩
  refine ⟨aDB hm.ext (fun k hk=>?_),⟨rM hm.ext (fun k hk=>?_) (by have:=hB.size;omega),fun v hv=>hm.ext.cell hv ?_⟩,⟨?_,?_⟩⟩
  ·simp at hk;omega
  ·simp at hk;omega
  ·simp;omega
  ·rw [hsn]
   exact ShI.of hm
  ·exact hB.trans (rM hm.ext (fun k hk=>by simp at hk;omega) (by have:=hB.size;omega))
 case done=>
  rintro D ys W hD rfl ⟨hS,hB⟩ hK
  have hst:=aCR hd hD' (tV zs zs.length)
  obtain ⟨o,ho⟩:∃o,(wX zs d (tV zs zs.length)).1=o:=⟨_,rfl⟩
  obtain ⟨r,hr⟩:∃r,(wX zs d (tV zs zs.length)).2=r:=⟨_,rfl⟩
  have hM:=hS.mem
  rw [hr,ho] at hst
  rw [ho,hr] at hM
  have hM2:=hM.freezeB (b:=w.heap.size+1+1) (cs:=recs eG o) (e:=103) (M':=[.blk w.heap.size [.int .u32 d] 103, .blk (w.heap.size+1) [.slice (some ⟨w.heap.size+1+1,0,none⟩) zs.length zs.length] 32, .blk (w.heap.size+1+1+1) [.int .u64 r] 106]) uV
  gi_wp2
  refine aFV (Has.cons (t:=4) (v:= .pointer (some ⟨w.heap.size+1,0,none⟩)) (Has.cons (t:=6) (v:= .pointer (some ⟨w.heap.size+1+1+1,0,none⟩)) (Has.nil (n:=38) rfl rfl) rfl) rfl) (hM2) 2 ([.blk (w.heap.size+1+1+1) [.int .u64 r] 106]) ([]) [0,2,3,1,4,5] [0,2,2,0,0,0] bJ bI mixed (by kernel_rfl) ?_
  repeat refine gH ?_
  (refine bA rfl (pK (l:=o) (n:=zs.length) (c:=zs.length) (q:=some ⟨w.heap.size+1+1,0,none⟩) hst.1.symm (by omega) (by omega) aQ) ?_;rintro _ _ _ ⟨rfl,rfl,rfl⟩;refine aU ?_)
  repeat refine gH ?_
  refine ⟨fun W' hm=>⟨fun act ha=>?_⟩⟩
  obtain ⟨tm,df⟩:=act
  have hdf:df=[]:=ha.defers
  subst hdf
  rename_i Q1 K1 hKK
  refine hKK _ _ (wpIn_ret ?_)
  have hX:∀k∈[w.heap.size,w.heap.size+1,w.heap.size+1+1,w.heap.size+1+1+1],w.heap.size≤k∧k < D:=fun k hk=>by simp at hk;omega
  have hK2:W'.heap[D]?=some (.deferred (some [])):=(hm.ext.block D (Array.getElem?_eq_some_iff.1 hK).1 (fun hk=>by have:=hX D hk;omega)).trans hK
  refine ⟨by simp, .inl ⟨_,_,rfl,run_takeDeferred hK2,?_⟩⟩
  have hg:W'.grownBy (W'.putObj D (.deferred none)) (some D):=grownBy_putObj' W' D _
  have hb1:Blk (W'.putObj D (.deferred none)) (w.heap.size+1) [.slice (some ⟨w.heap.size+1+1,0,none⟩) (dZ o).length zs.length] 32:=qZ (n:=D) (hm.blk (by simp)) (by omega) hg (fun j e=>by cases e;exact Nat.le_refl _)
  have hBf:Below w.heap.size w (W'.putObj D (.deferred none)):=(hB.trans (rM hm.ext (fun k hk=>(hX k hk).1) (by have:=hB.size;omega))).trans (belowK_b (w:=w) (Nat.le_refl _) _ D _ _ (by omega) hK2 rfl rfl)
  refine ⟨_,aLK (tmps:=tm) (rs:=[.cell 4 32, .tmp 5]) (vs:=[.slice (some ⟨w.heap.size+1+1,0,none⟩) (dZ o).length zs.length, .int .u32 r]) rfl ⟨aAV (by simp [ha.get 4 _ rfl]) hb1,by simp [ha.get 5 _ rfl],trivial⟩ rfl,?_⟩
  rw [ho,hr]
  refine ⟨_,_,rfl,hBf,?_,?_,?_⟩
  ·have:=vG (o:=o);omega
  ·omega
  ·intro j v hj
   obtain ⟨h1,_,h3⟩:=(hm.sl (a:=some ⟨w.heap.size+1+1,0,none⟩) (cs:=recs eG (dZ o)) (by simp)) j v hj
   exact ⟨h1,by simp,cell_kept h3 hg (fun r e=>by cases e;exact ⟨_,hK2,rfl⟩)⟩
 case stop=>
  rintro D c pre W _ _ h _
  exact h.elim
theorem aHO {zs:List Int} {d:Int} (hd:0 < d∧d < 1000000000) (hz:Dig zs):∀k,k≤zs.length→val (zs.drop (zs.length - k))=d*val ((wX zs d (tV zs k)).1.drop (zs.length - k))+(wX zs d (tV zs k)).2∧Dig (wX zs d (tV zs k)).1
 |0,_=>by
  have e:(wX zs d (tV zs 0))=(List.replicate zs.length 0,0):=rfl
  rw [e]
  simp [val]
  exact Dig.zeros _
 |k+1,hk=>by
  obtain ⟨h1,h2⟩:=aHO hd hz k (by omega)
  obtain ⟨l1,l2,l3⟩:=aCR hd hz (tV zs k)
  rw [qX (by omega),aEW]
  have e:zs.length - k=zs.length - (k+1)+1:=by omega
  have e2:zs.length - 1 - k=zs.length - (k+1):=by omega
  simp only [e2]
  rw [e] at h1
  have hg:zs[zs.length - (k+1)]?.getD 0=zs.getD (zs.length - (k+1)) 0:=by simp
  have hgd:=hz.getD (zs.length - (k+1))
  have hsm:=aAS hd.1 (by omega) ⟨l2,l3⟩ hgd
  have h3:=aDT (a:=zs) (q:=(wX zs d (tV zs k)).1) (i:=zs.length - (k+1)) (d:=d) (r:=(wX zs d (tV zs k)).2) (by omega) (by omega) h1
  unfold shS
  rw [hg,Int.tdiv_eq_ediv_of_nonneg (by omega),Int.tmod_eq_emod_of_nonneg (by omega)]
  exact ⟨h3,h2.set _ hsm.2.1⟩
section
variable {X:List Nat} {w0:World} {M0:List Ent} {I0:List aN}
theorem aFO {q:Option Addr} {n c d:Nat} (hn:(gr n).length≤100000000000) (hd:0 < d∧d < 1000000000) (hq:aD q (recs eG (gr n))∈I0):
  CD Tryz.prog 153 [.slice q (gr n).length c, .int .u32 d] X w0 M0 I0 (fun v M I=>M0=M∧∃p c',(gr (n / d)).length≤c'∧Ok p∧v= .tuple #[.slice p (gr (n / d)).length c', .int .u32 ((n % d:Nat):Int)]∧I=aD p (recs eG (gr (n / d)))::I0):=by
 have hd':0 < (d:Int)∧(d:Int) < 1000000000:=by omega
 obtain ⟨h1,h2⟩:=aHO hd' (bC n) (gr n).length (Nat.le_refl _)
 obtain ⟨l1,l2,l3⟩:=aCR hd' (bC n) (tV (gr n) (gr n).length)
 rw [Nat.sub_self,List.drop_zero,List.drop_zero,bH] at h1
 have hv0:=bB h2
 have e1:val (wX (gr n) d (tV (gr n) (gr n).length)).1=((n / d:Nat):Int):=by
  rw [Int.natCast_ediv,h1,Int.add_comm,Int.add_mul_ediv_left _ _ (by omega),Int.ediv_eq_zero_of_lt l2 l3]
  omega
 have e2:(wX (gr n) d (tV (gr n) (gr n).length)).2=((n % d:Nat):Int):=by
  rw [Int.natCast_emod,h1,Int.add_comm,Int.add_mul_emod_self_left,Int.emod_eq_of_lt l2 l3]
 have e3:=lT h2 e1
 have hs:=fun (w:World) (hI:Sl [] w q (recs eG (gr n)))=>aOQ q c (gr n) d w hn (bC n) hd' hI
 rw [e3,e2] at hs
 refine ⟨fun w hw=>Calls.mono (callsIn_wide.1 (hs w ((hw.sl hq).less (by simp)))) ?_⟩
 rintro e w' ⟨b,c',rfl,hB,hle,hb,hS⟩
 refine ⟨_,rfl,_,_,⟨rfl,_,c',hle,Ok.mk _ _,rfl,rfl⟩,hw.new (Ext.of_below hB) (fun Y hY j v hj=>?_)⟩
 obtain ⟨h1,_,h3⟩:=hS j v hj
 exact ⟨h1,fun hm=>by have:=hY b hm;omega,h3⟩
end
end Go.Proofs.YthhldplegmeolaaGreat
namespace Go.Proofs.YthhldplegmeolaaGreat
open Go Go.Fx
theorem rX {f:Nat} (h0:0 < f) (h:f < 1000000000):gr f=[(f:Int)]:=by
 rw [rY (by omega),Nat.mod_eq_of_lt h,Nat.div_eq_of_lt h,fB]
theorem aDV {bt:Nat} (h:1≤bt∧bt < 1000000000):∃f:Nat,0 < f∧f < 1000000000∧(1000000000:Int).tdiv ((bt:Int)+1)=(f:Int):=
 ⟨1000000000 / (bt+1),Nat.div_pos (by omega) (by omega),Nat.lt_of_le_of_lt (Nat.div_le_div_left (show 2≤bt+1 by omega) (by decide)) (by decide),by
  rw [Int.tdiv_eq_ediv_of_nonneg (by decide),Int.natCast_ediv]
  rfl⟩
theorem qK {m f:Nat} (h0:0 < f) (h:f < 1000000000):(gr m).length≤(gr (m*f)).length∧(gr (m*f)).length≤(gr m).length+1:=by
 refine ⟨fF (Nat.le_mul_of_pos_right _ h0),oG ?_⟩
 have h1:=iF (bC m)
 rw [bH] at h1
 have h2:m < 1000000000 ^ (gr m).length:=Int.ofNat_lt.1 (by rw [Int.natCast_pow];exact h1)
 rw [Nat.pow_succ]
 exact Nat.lt_of_le_of_lt (Nat.mul_le_mul_left m (Nat.le_of_lt h)) (Nat.mul_lt_mul_of_pos_right h2 (by decide))
theorem _root_.Go.Fx.Mem.lendBT {X:List Nat} {w0 w:World} {M:List Ent} {I I2:List aN} {b:Nat} {cs tl:List Value} {e:TypeId} (hm: .blk b (cs++tl) e∈M) (hw:Mem X w0 M I w) (h:Mem [] w [] I2 w):Mem [] w [] (aD (some ⟨b,0,none⟩) cs::I2) w:=
 h.add (φ:=aD (some ⟨b,0,none⟩) cs) ⟨Blk.sl (X:=muts []) (hw.blk hm) (by simp [muts]) 0 (fun j v hj=>by rw [Nat.zero_add,List.getElem?_append_left (List.getElem?_eq_some_iff.1 hj).1];exact hj)⟩
theorem aLL {u v:List Int} (hv:Can v) (hn:2≤v.length) (hu:Dig u) (hl:v.length≤u.length):val ((u++[0]).drop (u.length+1 - v.length)) < val v:=by
 rw [List.drop_append_of_le_length (by omega),val_append]
 have h1:=iF (hu.drop (u.length+1 - v.length))
 have h2:=wN hv (by omega)
 have e:(u.drop (u.length+1 - v.length)).length=v.length - 1:=by simp;omega
 rw [e] at h1
 simp only [val]
 omega
theorem aMI {u v:List Int} {j:Nat} (dU:Dig u) (hv:Can v) (hn:2≤v.length) (hlt:val (u.drop (j+1)) < val v) (hj:j < u.length):
  Knu (val (u.drop j)) (val v) (1000000000 ^ (v.length - 2)) (gt u ((j:Int)+(v.length:Int))) (gt u ((j:Int)+(v.length:Int) - 1)) (gt u ((j:Int)+(v.length:Int) - 2)) (gt v ((v.length:Int) - 1)) (gt v ((v.length:Int) - 2)):=by
 have h1:val (u.drop j) < 1000000000*val v:=by
  rw [qQ u j hj]
  have:=dU.getD j
  omega
 have htop:1≤v.getD (v.length - 1) 0:=by
  have h:=hv.2
  have hd:=hv.1.getD (v.length - 1)
  unfold Top at h
  rw [yB (by omega),show (v.length:Int) - 1=((v.length - 1:Nat):Int) by omega,tZ] at h
  omega
 have:=aTD (u:=u.drop j) (v:=v) (n:=v.length) (dU.drop j) hv.1 hn rfl htop h1
 rw [gN,gN,gN] at this
 rw [show (j:Int)+(v.length:Int)=((j+v.length:Nat):Int) by omega,show ((j+v.length:Nat):Int) - 1=((j+(v.length - 1):Nat):Int) by omega,show ((j+v.length:Nat):Int) - 2=((j+(v.length - 2):Nat):Int) by omega,
  show (v.length:Int) - 1=((v.length - 1:Nat):Int) by omega,show (v.length:Int) - 2=((v.length - 2:Nat):Int) by omega,tZ,tZ,tZ,tZ,tZ]
 exact this
theorem knu_g {T V P t2 t1 t0 v1 v0 g r:Int} (h:Knu T V P t2 t1 t0 v1 v0) (hg:g*v1+r=t2*1000000000+t1) (hr:0≤r) (hg0:0≤g):g < 2000000000:=by
 have h2:=h.T2
 have h1:=h.e1
 rcases Int.lt_or_le g 2000000000 with h3|h3
 ·exact h3
 ·have:2000000000*v1≤g*v1:=Int.mul_le_mul_of_nonneg_right h3 (by omega)
  omega
theorem aSC {T V P t2 t1 t0 v1 v0 g r:Int} (h:Knu T V P t2 t1 t0 v1 v0) (hg:g*v1+r=t2*1000000000+t1) (hr:1000000000≤r):g < 1000000000:=by
 have h2:=h.T2
 have h1:=h.e1
 rcases Int.lt_or_le g 1000000000 with h3|h3
 ·exact h3
 ·have:1000000000*v1≤g*v1:=Int.mul_le_mul_of_nonneg_right h3 (by omega)
  omega
theorem aOD {u o v:List Int} {j:Nat} {g b c:Int} (dU:Dig u) (dO:Dig o) (hv:Can v) (hN:2≤v.length) (hj:j+v.length < u.length) (hol:o.length=u.length) (hT1:val (u.drop (j+1)) < val v) (h:val ((o.drop j).take v.length)+g*val v=val ((u.drop j).take v.length)+1000000000 ^ v.length*(b+c)) (hd:o.drop (j+v.length)=u.drop (j+v.length)) (hgq:val (u.drop j) < (g+1)*val v) (hgd:g*val v≤val (u.drop j)+val v):
  (gt o ((j:Int)+(v.length:Int)) - b - c=0∨(gt o ((j:Int)+(v.length:Int)) - b - c= -1∧g≠0))∧(val (u.drop j) - g*val v=val ((o.drop j).take v.length)+1000000000 ^ v.length*(gt o ((j:Int)+(v.length:Int)) - b - c))∧(∀y,val ((o.set (j+v.length) y).drop j)=val ((o.drop j).take v.length)+1000000000 ^ v.length*y):=by
 have hvl:=iF hv.1
 have hv1:1≤val v:=by
  have:=wN hv (by omega)
  have:=gL (v.length - 1)
  omega
 rw [wJ]
 have hA:=gL v.length
 have e0:=jB (u.drop j) v.length (by simp;omega)
 have e1:=qQ u (j+v.length) hj
 have e2:=jB (u.drop (j+1)) v.length (by simp;omega)
 have e3:=jB (o.drop j) v.length (by simp;omega)
 rw [List.drop_drop] at e0 e2 e3
 rw [show j+1+v.length=j+v.length+1 by omega] at e2
 have n1:=bB ((dU.drop (j+1)).take v.length)
 have n2:=bB (dU.drop (j+v.length+1))
 have n3:=bB ((dO.drop j).take v.length)
 have n4:=fO (dO.drop j) v.length
 have n5:=bB (dU.drop j)
 have hH:val (u.drop (j+v.length+1))=0:=by
  have:val (u.drop (j+v.length+1)) < 1:=kV hA (by
   rw [Int.mul_comm,Int.one_mul]
   omega)
  omega
 have hget:o.getD (j+v.length) 0=u.getD (j+v.length) 0:=by
  have:=congrArg (fun l=>l.getD 0 0) hd
  simpa only [gN,Nat.add_zero] using this
 rw [hget]
 rw [hd] at e3
 rw [hH] at e1
 have hset:∀y,(o.set (j+v.length) y).drop j=(o.drop j).set v.length y:=fun y=>by
  rw [List.drop_set,if_neg (by omega)]
  congr 1
  omega
 have hgo:(o.drop j).getD v.length 0=u.getD (j+v.length) 0:=by rw [gN,hget]
 have hvs:∀y,val ((o.set (j+v.length) y).drop j)=val (o.drop j)+1000000000 ^ v.length*(y - u.getD (j+v.length) 0):=fun y=>by rw [hset,xX _ _ _ (by simp;omega),hgo]
 generalize (1000000000:Int) ^ v.length=A at*
 generalize hud:u.getD (j+v.length) 0=ud at*
 have hD:val (u.drop j) - g*val v=val ((o.drop j).take v.length)+A*(ud - b - c):=by
  have k1:A*(ud - b - c)=A*ud - A*(b+c):=by grind
  have k2:A*val (u.drop (j+v.length))=A*ud:=by rw [e1];grind
  omega
 have k3:(g+1)*val v=g*val v+val v:=by rw [Int.add_mul,Int.one_mul]
 refine ⟨?_,hD,fun y=>?_⟩
 ·have x1:ud - b - c < 1:=kV hA (by rw [Int.mul_comm,Int.one_mul];omega)
  have x2: -2 < ud - b - c:=kV hA (by rw [Int.mul_comm (ud - b - c)];omega)
  by_cases hx:ud - b - c=0
  ·exact .inl hx
  ·refine .inr ⟨by omega,?_⟩
   rintro rfl
   have hm1:ud - b - c= -1:=by omega
   rw [hm1] at hD
   simp at hD
   omega
 ·rw [hvs]
  have k2:A*val (u.drop (j+v.length))=A*ud:=by rw [e1];grind
  have k4:A*(y - ud)=A*y - A*ud:=Int.mul_sub _ _ _
  omega
theorem aMB {n:Nat} (hn:1≤(gr n).length):∃bt:Nat,gt (gr n) (((gr n).length:Int) - 1)=(bt:Int)∧1≤bt∧bt < 1000000000:=by
 have hbt:=(bC n).gt (((gr n).length:Int) - 1)
 have htop:=zF n
 unfold Top at htop
 rw [yB (by omega)] at htop
 exact ⟨(gt (gr n) (((gr n).length:Int) - 1)).toNat,by omega,by omega,by omega⟩
theorem aBB {o u v:List Int} {j i:Nat} {g b c b2 y:Int} (dO:Dig o) (hvl:val ((o.drop j).take i)+g*val (v.take i)=val ((u.drop j).take i)+1000000000 ^ i*(b+c)) (hij:j+i < o.length) (htk:o.take j=u.take j) (hdr:o.drop (j+i)=u.drop (j+i))
  (hy:y=gt o ((i:Int)+(j:Int)) - b - (g*gt v i+c) % 1000000000+1000000000*b2) (hyr:0≤y∧y < 1000000000):
  Dig (st o ((i:Int)+(j:Int)) y)∧(st o ((i:Int)+(j:Int)) y).take j=u.take j∧(st o ((i:Int)+(j:Int)) y).drop (j+(i+1))=u.drop (j+(i+1))∧val (((st o ((i:Int)+(j:Int)) y).drop j).take (i+1))+g*val (v.take (i+1))=val ((u.drop j).take (i+1))+1000000000 ^ (i+1)*(b2+(g*gt v i+c) / 1000000000):=by
 have hget:o.getD (j+i) 0=u.getD (j+i) 0:=by
  have:=congrArg (fun l=>l.getD 0 0) hdr
  simpa only [gN,Nat.add_zero] using this
 rw [wJ,tZ,Nat.add_comm i j,hget] at hy
 have hm:=aLI (o:=o) (U:=u) (v:=v) (d':=y) (b':=b2) hvl hij hdr rfl hy
 rw [fI,Nat.add_comm i j,tZ]
 refine ⟨dO.set _ hyr,?_,hm.2,hm.1⟩
 rw [List.take_set_of_le (by omega)]
 exact htk
theorem aBI {u o qs v u0:List Int} {j:Nat} {g:Int} (hval:val u+1000000000 ^ (j+1)*(val v*val (qs.drop (j+1)))=val u0) (hj:j < u.length) (hjo:j < o.length) (hjq:j < qs.length) (htk:o.take j=u.take j) (hD:val (o.drop j)=val (u.drop j) - g*val v):
  val o+1000000000 ^ j*(val v*val ((st qs (j:Int) g).drop j))=val u0:=by
 have e1:=jB o j (by omega)
 have e2:=jB u j (by omega)
 rw [htk] at e1
 rw [oL,drop_set _ _ _ hjq]
 simp only [val,Int.pow_succ] at hval ⊢
 rw [hD] at e1
 generalize (1000000000:Int) ^ j=A at*
 grind
theorem aFM {o2 o1 v u:List Int} {j i:Nat} {c2 c3 y:Int} (dO:Dig o2) (hv:val ((o2.drop j).take i)+1000000000 ^ i*c2=val ((o1.drop j).take i)+val (v.take i)) (hij:j+i < o2.length) (htk:o2.take j=u.take j) (hdr:o2.drop (j+i)=o1.drop (j+i))
  (hy:y=gt o2 ((i:Int)+(j:Int))+gt v i+c2 - 1000000000*c3) (hyr:0≤y∧y < 1000000000):
  Dig (st o2 ((i:Int)+(j:Int)) y)∧(st o2 ((i:Int)+(j:Int)) y).take j=u.take j∧(st o2 ((i:Int)+(j:Int)) y).drop (j+(i+1))=o1.drop (j+(i+1))∧val (((st o2 ((i:Int)+(j:Int)) y).drop j).take (i+1))+1000000000 ^ (i+1)*c3=val ((o1.drop j).take (i+1))+val (v.take (i+1)):=by
 have hget:o2.getD (j+i) 0=o1.getD (j+i) 0:=by
  have:=congrArg (fun l=>l.getD 0 0) hdr
  simpa only [gN,Nat.add_zero] using this
 rw [wJ,tZ,Nat.add_comm i j,hget] at hy
 rw [fI,Nat.add_comm i j]
 have e1:(o2.set (j+i) y).drop j=(o2.drop j).set i y:=by
  rw [List.drop_set,if_neg (by omega)]
  congr 1
  omega
 have hl:i < (o2.drop j).length:=by simp;omega
 refine ⟨dO.set _ hyr,by rw [List.take_set_of_le (by omega)];exact htk,?_,?_⟩
 ·have e:((o2.set (j+i) y).drop (j+(i+1)))=o2.drop (j+i+1):=by
   rw [←Nat.add_assoc,List.drop_set,if_pos (by omega)]
  rw [e,←Nat.add_assoc]
  have h1:o2.drop (j+i+1)=(o2.drop (j+i)).drop 1:=by rw [List.drop_drop]
  have h2:o1.drop (j+i+1)=(o1.drop (j+i)).drop 1:=by rw [List.drop_drop]
  rw [h1,h2,hdr]
 ·rw [e1,gI _ i y hl,val_append,bD (o1.drop j),bD v,gN]
  simp only [List.length_take,Nat.min_eq_left (Nat.le_of_lt hl),val,Int.pow_succ]
  generalize (1000000000:Int) ^ i=A at*
  generalize v.getD i 0=x at*
  generalize o1.getD (j+i) 0=z at*
  generalize val ((o2.drop j).take i)=z1 at*
  generalize val ((o1.drop j).take i)=z2 at*
  generalize val (v.take i)=z3 at*
  clear e1 hl hdr hij
  subst hy
  grind
theorem aKF {o o1 o2 v:List Int} {j:Nat} {c2 T g:Int} (dO:Dig o) (dO2:Dig o2) (hv:Can v) (hj:j+v.length < o2.length) (hol:o.length=o2.length) (h1:o1=o.set (j+v.length) 999999999)
  (h:val ((o2.drop j).take v.length)+1000000000 ^ v.length*c2=val ((o1.drop j).take v.length)+val v) (hc:0≤c2∧c2≤1) (hdr:o2.drop (j+v.length)=o1.drop (j+v.length))
  (hD:T - g*val v=val ((o.drop j).take v.length)+1000000000 ^ v.length*(-1)) (hset:∀y,val ((o.set (j+v.length) y).drop j)=val ((o.drop j).take v.length)+1000000000 ^ v.length*y) (hhi:g*val v≤T+val v):
  c2=1∧gt o2 ((j:Int)+(v.length:Int))=999999999∧val ((o2.set (j+v.length) 0).drop j)=T - (g - 1)*val v∧T - (g - 1)*val v < val v∧0≤T - (g - 1)*val v:=by
 have hA:=gL v.length
 have n4:=fO (dO2.drop j) v.length
 have n3:=bB ((dO2.drop j).take v.length)
 have n5:=fO (dO.drop j) v.length
 have kg:(g - 1)*val v=g*val v - val v:=by rw [Int.sub_mul,Int.one_mul]
 have e1:(o1.drop j).take v.length=(o.drop j).take v.length:=by
  rw [h1,List.drop_set,if_neg (by omega),show j+v.length - j=v.length by omega,List.take_set_of_le (Nat.le_refl _)]
 have hget:o2.getD (j+v.length) 0=o1.getD (j+v.length) 0:=by
  have:=congrArg (fun l=>l.getD 0 0) hdr
  simpa only [gN,Nat.add_zero] using this
 have hg1:o1.getD (j+v.length) 0=999999999:=by
  rw [h1]
  simp [List.getD,List.getElem?_set_self (show j+v.length < o.length by omega)]
 have e2:=jB (o2.drop j) v.length (by simp;omega)
 have e3:=jB (o1.drop j) v.length (by rw [h1];simp;omega)
 rw [List.drop_drop] at e2 e3
 have e4:=hset 999999999
 rw [←h1] at e4
 have hvs:val ((o2.set (j+v.length) 0).drop j)=val (o2.drop j)+1000000000 ^ v.length*(0 - 999999999):=by
  have hs:(o2.set (j+v.length) 0).drop j=(o2.drop j).set v.length 0:=by
   rw [List.drop_set,if_neg (by omega),show j+v.length - j=v.length by omega]
  have hgo:(o2.drop j).getD v.length 0=999999999:=by rw [gN,hget,hg1]
  rw [hs,xX _ _ _ (by simp;omega),hgo]
 rw [e1] at h e3
 rw [hdr] at e2
 rw [wJ,hget,hg1]
 generalize (1000000000:Int) ^ v.length=A at*
 have hc1:c2=1:=by
  rcases Int.lt_or_le c2 1 with hlt|hge
  ·have:c2=0:=by omega
   subst this
   omega
  ·omega
 subst hc1
 exact ⟨rfl,rfl,by omega,by omega,by omega⟩
theorem aLJ {u v:List Int} (dU:Dig u) (hl:v.length≤u.length) (hlt:val u < val v) (hv:val v < 1000000000 ^ v.length):val (u.take v.length)=val u:=by
 have e:=jB u v.length hl
 have n1:=bB (dU.take v.length)
 have n2:=bB (dU.drop v.length)
 have hA:=gL v.length
 have:val (u.drop v.length) < 1:=kV hA (by rw [Int.mul_comm,Int.one_mul];omega)
 have h0:val (u.drop v.length)=0:=by omega
 rw [h0] at e
 omega
theorem aNM {u qs:List Int} {m n f:Nat} (dU:Dig u) (dQ:Dig qs) (h:val u+((n*f:Nat):Int)*val qs=((m*f:Nat):Int)) (hlt:val u < ((n*f:Nat):Int)) (hf:0 < f) (hn:0 < n*f):
  val u=(((m % n)*f:Nat):Int)∧val qs=((m / n:Nat):Int)∧True:=by
 have n1:=bB dU
 have n2:=bB dQ
 obtain ⟨a,ha⟩:∃a:Nat,val u=(a:Int):=⟨(val u).toNat,by omega⟩
 obtain ⟨b,hb⟩:∃b:Nat,val qs=(b:Int):=⟨(val qs).toNat,by omega⟩
 rw [ha,hb] at h
 rw [ha] at hlt
 have h':a+n*f*b=m*f:=by exact_mod_cast h
 have hlt':a < n*f:=by exact_mod_cast hlt
 have hq:m*f / (n*f)=b:=by rw [←h',Nat.add_mul_div_left _ _ hn,Nat.div_eq_of_lt hlt',Nat.zero_add]
 have hr:m*f % (n*f)=a:=by rw [←h',Nat.add_mul_mod_self_left,Nat.mod_eq_of_lt hlt']
 rw [Nat.mul_div_mul_right _ _ hf] at hq
 rw [Nat.mul_mod_mul_right] at hr
 exact ⟨by rw [ha,hr],by rw [hb,hq],trivial⟩
end Go.Proofs.YthhldplegmeolaaGreat

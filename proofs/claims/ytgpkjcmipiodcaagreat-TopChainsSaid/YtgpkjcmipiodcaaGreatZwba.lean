/- Vectors of space in memory; products of lists. -/
import Derived.Test.YtgpkjcmipiodcaaGreatZwaz
import Derived.Test.YtgpkjcmipiodcaaGreatZwan
import Derived.Test.YtgpkjcmipiodcaaGreatZwaj
import Derived.Test.YtgpkjcmipiodcaaGreatZwar
import Derived.Test.YtgpkjcmipiodcaaGreatZwaq
import Derived.Test.YtgpkjcmipiodcaaGreatZwaw
set_option linter.unusedSimpArgs false
set_option linter.unusedVariables false
set_option maxRecDepth 100000
set_option maxHeartbeats 4000000
namespace Go.Proofs.YtgpkjcmipiodcaaGreat
open Go Go.Fx
structure V3 where
 x:Rat
 y:Rat
 z:Rat
def V3.dot (a b:V3):Rat:=a.x*b.x+a.y*b.y+a.z*b.z
def V3.sub (a b:V3):V3:=⟨a.x - b.x,a.y - b.y,a.z - b.z⟩
def V3.along (a:V3) (s:Rat) (b:V3):V3:=⟨a.x+s*b.x,a.y+s*b.y,a.z+s*b.z⟩
structure TE where
 x:RE
 y:RE
 z:RE
instance:Inhabited TE:=⟨⟨default,default,default⟩⟩
abbrev eT (p:TE):List Value:=recs eR [p.x,p.y,p.z]
abbrev tv (p:TE):Value:= .agg (recs eR [p.x,p.y,p.z]).toArray
instance:Sized eT 12:=⟨fun _=>rfl⟩
instance:Ones eT:=⟨fun m u hu=>wI _ u hu⟩
def TE.v (p:TE):V3:=⟨p.x.q,p.y.q,p.z.q⟩
structure IsT (p:TE) (k:Nat) (X:List Nat) (w:World):Prop where
 x:IsR p.x k X w
 y:IsR p.y k X w
 z:IsR p.z k X w
abbrev gN (p:TE) (k:Nat):aV:=IsT p k
instance (p:TE) (k:Nat):Fx.Good (IsT p k):=⟨fun X Y w w' h he hY=>⟨Fx.Good.go (φ:=IsR _ _) X Y w w' h.x he hY,Fx.Good.go (φ:=IsR _ _) X Y w w' h.y he hY,Fx.Good.go (φ:=IsR _ _) X Y w w' h.z he hY⟩⟩
theorem Hv.tx {I:List aV} {p:TE} {k:Nat} (h:Hv I (gN p k)):Hv I (cK p.x k):=⟨fun X w hw=>(h.go X w hw).x⟩
theorem Hv.ty {I:List aV} {p:TE} {k:Nat} (h:Hv I (gN p k)):Hv I (cK p.y k):=⟨fun X w hw=>(h.go X w hw).y⟩
theorem Hv.tz {I:List aV} {p:TE} {k:Nat} (h:Hv I (gN p k)):Hv I (cK p.z k):=⟨fun X w hw=>(h.go X w hw).z⟩
theorem Hv.mkT {I:List aV} {a b c:RE} {k:Nat} (ha:Hv I (cK a k)) (hb:Hv I (cK b k)) (hc:Hv I (cK c k)):Hv I (gN ⟨a,b,c⟩ k):=⟨fun X w hw=>⟨ha.go X w hw,hb.go X w hw,hc.go X w hw⟩⟩
theorem Hv.upR {I:List aV} {a:RE} {k m:Nat} (ha:Hv I (cK a k)) (h:k≤m):Hv I (cK a m):=⟨fun X w hw=>(ha.go X w hw).mono h⟩
def TE.l (p:TE) (b:Nat):RL:=⟨some ⟨b,0,none⟩,3,[p.x,p.y,p.z]⟩
theorem Hv.tl {I:List aV} {p:TE} {b k:Nat} (h:Hv I (gN p k)) (hs:aI (some ⟨b,0,none⟩) (eT p)∈I):Hv I (lK (p.l b) k):=⟨fun X w hw=>⟨(hw _ hs:SlI _ _ X w).go,fun e he=>by
 have h1:=h.go X w hw
 have he:e∈[p.x,p.y,p.z]:=he
 simp only [List.mem_cons,List.not_mem_nil,or_false] at he
 rcases he with rfl|rfl|rfl
 ·exact h1.x
 ·exact h1.y
 ·exact h1.z,⟨Nat.le_refl 3, .inl (Ok.mk _ _)⟩⟩⟩
theorem dot3 {a b:TE} {x y:Nat}:aBQ 3 (a.l x).q (b.l y).q=a.v.dot b.v:=by
 show 0+a.x.q*b.x.q+a.y.q*b.y.q+a.z.q*b.z.q=a.x.q*b.x.q+a.y.q*b.y.q+a.z.q*b.z.q
 grind
def TQ (q:V3) (k:Nat) (M0:List Ent) (I0:List aV) (v:Value) (M:List Ent) (I:List aV):Prop:=M0=M∧∃p:TE,v=tv p∧p.v=q∧I=gN p k::I0
section
variable {X:List Nat} {w0:World} {M0:List Ent} {I0:List aV}
theorem aNK {a b:RL} {ka kb n:Nat} (hn:n≤200) (hK:n*(ka+kb+1)≤100000000000) (la:a.es.length=n) (lb:b.es.length=n) (ha:Hv I0 (lK a ka)) (hb:Hv I0 (lK b kb)):
  CD Tryz.prog 91 [lv a,lv b] X w0 M0 I0 (RQc (aBQ n a.q b.q) (n*(ka+kb+1)) M0 I0):=by
 have hW:=fun M0 I0=>jA (X:=X) (w0:=w0) (M0:=M0) (I0:=I0) (x:=0) (by decide) (k:=0) (by decide)
 refine bO (φ:=lK a ka) ha (bO (φ:=lK b kb) hb.cons ?_)
 refine bO (φ:=aI (a).p (recs eR (a).es)) (Hv.lsl aA) ?_
 refine bO (φ:=aI (b).p (recs eR (b).es)) (Hv.lsl aA) ?_
 refine aP Tryz.func91 rfl Tryz.ntmps91 rfl ?_
 refine fE ?_
 refine bG (fun b4=>?_)
 repeat refine aB ?_
 refine iG rfl (hW _ _) (fun e0 he0=>?_)
 repeat refine aB ?_
 refine bG (fun b6=>?_)
 repeat refine aB ?_
 clear hW
 refine kS [1,4,6,16,17] rfl (fun k G M I=>∃(t:Nat) (s:RE),t≤n∧k=n - t∧s.q=sm t (fun t=>a.q.getD t 0*b.q.getD t 0)∧G=[(18, .int .i64 t)]∧M= .blk b6 (eR s) 40:: .blk b4 [.bool false, .slice none 0 0, .bool false, .slice none 0 0] 40::M0∧I=cK s (t*(ka+kb+1))::aI b.p (recs eR b.es)::aI a.p (recs eR a.es)::lK b kb::lK a ka::I0) (n) (⟨0,e0,by omega,rfl,he0,rfl,rfl,by rw [Nat.zero_mul]⟩) ?_
 rintro kk G M I ⟨t,s,ht,rfl,hs,rfl,rfl,rfl⟩
 have hu:t*(ka+kb+1)≤100000000000:=Nat.le_trans (Nat.mul_le_mul_right _ ht) hK
 by_cases htn:t < n
 ·have hu2:(t+1)*(ka+kb+1)=t*(ka+kb+1)+(ka+kb)+1:=by rw [Nat.succ_mul];omega
  have hK2:(t+1)*(ka+kb+1)≤100000000000:=Nat.le_trans (Nat.mul_le_mul_right _ htn) hK
  have hq:sm (t+1) (fun t=>a.q.getD t 0*b.q.getD t 0)=s.q+(gt a.es (t:Int)).q*(gt b.es (t:Int)).q:=by
   simp only [sm]
   rw [hs,oW (by omega),oW (by omega)]
  generalize t*(ka+kb+1)=u at*
  repeat refine aB ?_
  refine bG (fun b8=>?_)
  repeat refine aB ?_
  (repeat refine aJ ?_);refine aO 2 [0,1,2,3,4,5,6,7,8] [1,1,2,2,2,1,0,0,0] mixed (by kernel_rfl) ?_
  repeat refine aB ?_
  refine iG rfl (iV (k:=ka) (m:=kb) (by omega) (Hv.lel (r:=a) (k:=ka) aA (by omega)) (Hv.lel (r:=b) (k:=kb) aA (by omega))) (fun e2 he2=>?_)
  refine iG rfl (uL (k:=u) (m:=ka+kb) (by omega) (Hv.mem aA) (Hv.mem aA)) (fun e3 he3=>?_)
  repeat refine aB ?_
  rw [←hu2]
  refine iC (n - (t+1)) (⟨t+1,e3,by omega,rfl,by rw [hq,he3,he2],rfl,rfl,rfl⟩)
 ·obtain rfl:t=n:=by omega
  repeat refine aB ?_
  refine dI (rs:=[.cell 4 40, .tmp 5]) (vs:=[rv s, .int .i64 0]) (.inl rfl) rfl (.cellN (cs:=eR s) inferInstance rfl aA rfl (.tmp rfl .nil)) rfl M0 (cK s (t*(ka+kb+1))::I0) aG aF ⟨rfl,s,rfl,hs,rfl⟩
end
end Go.Proofs.YtgpkjcmipiodcaaGreat
namespace Go.Proofs.YtgpkjcmipiodcaaGreat
open Go Go.Fx Go.RowKit Go.Shelf
attribute [local go_sem] Oper.semAt_some
def hvF (zs:List Int) (pre:List (Dg zs)):Int:=pre.foldl (fun s x=>s*1000000000+zs[x.1]?.getD 0) 0
theorem zA (zs:List Int) (pre:List (Dg zs)) (x:Dg zs):hvF zs (pre++[x])=hvF zs pre*1000000000+zs[x.1]?.getD 0:=by simp [hvF]
theorem aPY {zs:List Int} {k:Nat} (h:k < zs.length):val (zs.drop k)=zs[k]?.getD 0+1000000000*val (zs.drop (k+1)):=by
 rw [List.drop_eq_getElem_cons h]
 simp [val,h]
theorem aSP {zs:List Int}:∀k,k≤zs.length→hvF zs (sV zs k)=val (zs.drop (zs.length - k))
 |0,_=>by simp [sV,hvF,val]
 |k+1,hk=>by
  rw [rX (by omega),zA,aSP k (by omega)]
  have h:=aPY (zs:=zs) (k:=zs.length - (k+1)) (by omega)
  rw [show zs.length - (k+1)+1=zs.length - k by omega] at h
  rw [h]
  show _+zs[zs.length - 1 - k]?.getD 0=_
  rw [show zs.length - 1 - k=zs.length - (k+1) by omega]
  omega
theorem bAB {s g:Int} (hs:0≤s) (hg:0≤g∧g < 1000000000) (h:¬(IntKind.u64.wrap ((IntKind.u64.wrap (9223372036854775808 - IntKind.u64.wrap g)).tdiv 1000000000) < s)):wdS s g=s*1000000000+g∧s*1000000000+g≤9223372036854775808:=by
 rw [wrap_u64 (n:=g) (by omega),wrap_u64 (n:=9223372036854775808 - g) (by omega),Int.tdiv_eq_ediv_of_nonneg (by omega),wrap_u64 (by omega)] at h
 have h1:s*1000000000+g≤9223372036854775808:=by omega
 refine ⟨?_,h1⟩
 unfold wdS
 rw [wrap_u64 (n:=s*1000000000) (by omega),wrap_u64 (n:=g) (by omega),wrap_u64 (by omega)]
def Wd (zs:List Int) (pre:List (Dg zs)):Prop:=wdF zs pre=hvF zs pre∧0≤hvF zs pre∧hvF zs pre≤9223372036854775808
theorem Wd.nil (zs:List Int):Wd zs []:=⟨rfl,by simp [hvF],by simp [hvF]⟩
theorem Wd.snoc {zs:List Int} {pre:List (Dg zs)} {x:Dg zs} (hd:Dig zs) (h:Wd zs pre) (hn:¬(IntKind.u64.wrap ((IntKind.u64.wrap (9223372036854775808 - IntKind.u64.wrap (zs[x.1]?.getD 0))).tdiv 1000000000) < wdF zs pre)):Wd zs (pre++[x]):=by
 obtain ⟨h1,h2,h3⟩:=h
 have hg:=hd (zs[x.1]?.getD 0) (by rw [List.getElem?_eq_getElem x.2];exact List.getElem_mem x.2)
 rw [h1] at hn
 obtain ⟨e1,e2⟩:=bAB h2 hg hn
 refine ⟨by rw [zK,zA,h1,e1],by rw [zA];omega,by rw [zA];exact e2⟩
theorem aPN (a:Option Addr) (cap:Nat) (ng:Bool) (zs:List Int) (z:Int) (w:World) (hz:zs.length≤3) (hd:Dig zs) (hI:Sl [] w a (recs eG zs)) (hlt:0 < zs.length→∀b,a.map (·.block)=some b→b < w.heap.size)
  (hV1:ng=true→z= - val zs) (hV2:ng=false→z=val zs) (hV3:zs.length=0→z=0)
  (hG:∀W,Below w.heap.size w W→CallsIn Fence.wide 4 Tryz.prog 129 #[.agg #[.bool ng, .slice a zs.length cap]] W (fun e W'=>e= .returned (.slice a zs.length cap)∧Below W.heap.size W W')):
  CallsIn Fence.wide 5 Tryz.prog 75 #[.agg #[.bool ng, .slice a zs.length cap]] w fun e w'=>(∃(n:Int) (b:Bool),e= .returned (.tuple #[.int .i64 n, .bool b])∧(b=true→n=z))∧Below w.heap.size w w':=by
 refine callsIn_of_wp_marks Tryz.func75 rfl trivial ?_ rfl
 simp only [Tryz.ntmps75,List.size_toArray,List.length_cons,List.length_nil,Nat.reduceAdd,Nat.reduceSub,Array.replicate_succ,Array.replicate_zero,List.push_toArray,List.append_toArray,List.nil_append,List.cons_append]
 have hend:=aSP (zs:=zs) zs.length (Nat.le_refl _)
 rw [Nat.sub_self,List.drop_zero] at hend
 have hz':¬(3 < (zs.length:Int)):=by omega
 gi_wp2_with (refine ⟨trivial,?_⟩;first|(gi_at_call 129;refine (hG _ ((((Below.refl _ w).alloc (Nat.le_refl _) _).alloc (by simp) _).alloc (by simp;omega) _)).mono ?_;rintro e w1 ⟨rfl,hB1⟩)|(gi_at_call 131;refine (xL Fence.wide _ trivial rfl _ _ _ _).mono ?_;rintro e w2 ⟨rfl,rfl⟩))
 simp only [World.size_alloc] at hB1
 have hS1:w.heap.size+1+1+1≤w1.heap.size:=by have:=hB1.size;simpa using this
 obtain ⟨o0,o1,o2⟩:=aUF w (.cells #[.bool ng, .slice a zs.length cap] 38) (.cells #[.int .i64 0] 3) (.cells #[.bool false] 4)
 have c0:=zJ ((hB1.block _ (by omega)).trans o0)
 have c1:=nN ((hB1.block _ (by omega)).trans o1)
 have c2:=nN ((hB1.block _ (by omega)).trans o2)
 have hs:=jT w1 (.int .u64 0) 172
 have hb:=jT (w1.alloc (.cells #[.int .u64 0] 172)) (.slice a zs.length cap) 36
 rw [World.size_alloc] at hb
 have hB0:Below w.heap.size w w1:=((((Below.refl _ w).alloc (Nat.le_refl _) _).alloc (by simp) _).alloc (by simp;omega) _).trans (aIR hB1 (by omega))
 have hBl:Below w.heap.size w ((w1.alloc (.cells #[.int .u64 0] 172)).alloc (.cells #[.slice a zs.length cap] 36)):=(hB0.alloc (by omega) _).alloc (by simp;omega) _
 have hI2:=Sl.mono hI (Ext.of_below hBl)
 refine wpIn_rangeFunc_ownG rfl (by decide) (gf:=172) (lb:=#[.pointer (some ⟨w1.heap.size+1,0,none⟩)]) rfl trivial (enters_of Tryz.func172 (by kernel_rfl) rfl)
  (wP Fence.wide (5 - 1) trivial rfl (by decide) (w1.heap.size+1) w.heap.size a cap zs (by omega) _ (by simp) (by simp;omega) hb.1 hI2 hlt) KpB.trans (aKM (by simp;omega)) (Below.refl _ _) (fun _=>rfl)
  (fun pre W=>(((W.cell? ⟨w1.heap.size,0,none⟩=some (.int .u64 (wdF zs pre))∧W.frozen? ⟨w1.heap.size,0,none⟩=false)∧(W.cell? ⟨w.heap.size+1,0,none⟩=some (.int .i64 0)∧W.frozen? ⟨w.heap.size+1,0,none⟩=false))∧((W.cell? ⟨w.heap.size+1+1,0,none⟩=some (.bool false)∧W.frozen? ⟨w.heap.size+1+1,0,none⟩=false)∧W.cell? ⟨w.heap.size,0,none⟩=some (.bool ng)))∧(Wd zs pre∧Below w.heap.size w W))
  (fun c _ W=>(c= .ret∧W.cell? ⟨w.heap.size+1,0,none⟩=some (.int .i64 0)∧W.cell? ⟨w.heap.size+1+1,0,none⟩=some (.bool false))∧Below w.heap.size w W)
  ?hI ?hIx ?h0 ?a1 ?assign ?body ?done ?stop
 case hI=>exact OwnFrom.and (Own.from (fun s A B row hs hg hr=>⟨⟨⟨cell_kept hs.1.1.1 hg hr,(frozen_kept hs.1.1.1 hg hr).trans hs.1.1.2⟩,cell_kept hs.1.2.1 hg hr,(frozen_kept hs.1.2.1 hg hr).trans hs.1.2.2⟩,⟨cell_kept hs.2.1.1 hg hr,(frozen_kept hs.2.1.1 hg hr).trans hs.2.1.2⟩,cell_kept hs.2.2 hg hr⟩) _) (OwnFrom.and (fun _ _ _ _ hs _ _=>hs) (ownFrom_below (Nat.le_refl _) (by simp;omega)))
 case hIx=>exact fun c=>OwnFrom.and (Own.from (fun s A B row hs hg hr=>⟨hs.1,cell_kept hs.2.1 hg hr,cell_kept hs.2.2 hg hr⟩) _) (ownFrom_below (Nat.le_refl _) (by simp;omega))
 case h0=>exact ⟨⟨⟨⟨bN _ hs.1,dL _ hs.1 hs.2⟩,bN _ (bN _ c1.1),dL _ (bN _ c1.1) (dL _ c1.1 c1.2)⟩,⟨bN _ (bN _ c2.1),dL _ (bN _ c2.1) (dL _ c2.1 c2.2)⟩,bN _ (bN _ c0.1)⟩,Wd.nil zs,hBl⟩
 case assign=>
  intro l x W K hK
  dsimp only [dgE]
  gi_wp2
  exact hK
 case body=>
  rintro l pre x W ⟨⟨⟨⟨hc,hf⟩,hc1,hf1⟩,⟨hc2,hf2⟩,hc0⟩,hW,hB⟩ hpl
  gi_wp2
  ·rename_i hyes
   refine ⟨((KeepsOthers.setCell _ _ _).from _).trans ((KeepsOthers.setCell _ _ _).from _),⟨rfl,?_,?_⟩,(hB.setCell (p:=⟨w.heap.size+1,0,none⟩) (by simp) _).setCell (p:=⟨w.heap.size+1+1,0,none⟩) (by simp;omega) _⟩
   ·rw [World.cell?_setCell_other _ _ _ _ (by simp)]
    exact World.cell?_setCell_same' _ _ _ (by rw [hc1];rfl)
   ·exact World.cell?_setCell_same' _ _ _ (by rw [World.cell?_setCell_other _ _ _ _ (by simp),hc2];rfl)
  ·rename_i hno
   have hN:¬(IntKind.u64.wrap ((IntKind.u64.wrap (9223372036854775808 - IntKind.u64.wrap (zs[x.1]?.getD 0))).tdiv 1000000000) < wdF zs pre):=by simpa using hno
   refine ⟨(KeepsOthers.setCell _ _ _).from _,⟨(Below.refl w.heap.size W).setCell (p:=⟨w1.heap.size,0,none⟩) (by simp;omega) _,fun v hv=>(World.cell?_setCell_other _ _ _ _ (by simp)).trans hv⟩,⟨⟨⟨?_,by rw [World.frozen?_setCell];exact hf⟩,(World.cell?_setCell_other _ _ _ _ (by simp <;>omega)).trans hc1,by rw [World.frozen?_setCell];exact hf1⟩,⟨(World.cell?_setCell_other _ _ _ _ (by simp <;>omega)).trans hc2,by rw [World.frozen?_setCell];exact hf2⟩,(World.cell?_setCell_other _ _ _ _ (by simp <;>omega)).trans hc0⟩,hW.snoc hd hN,hB.setCell (p:=⟨w1.heap.size,0,none⟩) (by simp;omega) _⟩
   rw [zK]
   exact World.cell?_setCell_same' _ _ _ (by rw [hc];rfl)
 case done=>
  rintro D ys W hD rfl ⟨⟨⟨⟨hc,hf⟩,hc1,hf1⟩,⟨hc2,hf2⟩,hc0⟩,⟨hW1,hW2,hW3⟩,hB⟩ hK
  have hD':w1.heap.size+1+1≤D:=by simpa using hD
  rw [hend] at hW1 hW2 hW3
  rw [hW1] at hc
  gi_wp2
  ·rename_i h0 h1
   obtain ⟨g1,g2,g3,g4⟩:=oJ hB (by omega) (by omega) (by omega) (by omega) hc1 ⟨_,hc2⟩ hK
   exact ⟨by simp, .inl ⟨_,_,rfl,run_takeDeferred g1,_,lH rfl rfl rfl g2 g3,⟨_,_,rfl,fun _=>by
    rw [hV1 h1]
    have:0 < val zs∨val zs=0:=by omega
    simp only [IntKind.wrap,IntKind.bits,IntKind.signed,Bool.false_and,Bool.false_eq_true,if_false,wrap64]
    omega⟩,g4⟩⟩
  ·rename_i h0 h1 h2
   obtain ⟨g1,g2,g3,g4⟩:=oJ hB (by omega) (by omega) (by omega) (by omega) hc1 ⟨_,hc2⟩ hK
   exact ⟨by simp, .inl ⟨_,_,rfl,run_takeDeferred g1,_,lH rfl rfl rfl g2 g3,⟨_,_,rfl,fun h=>absurd h (by decide)⟩,g4⟩⟩
  ·rename_i h0 h1 h2
   obtain ⟨g1,g2,g3,g4⟩:=oJ hB (by omega) (by omega) (by omega) (by omega) hc1 ⟨_,hc2⟩ hK
   exact ⟨by simp, .inl ⟨_,_,rfl,run_takeDeferred g1,_,lH rfl rfl rfl g2 g3,⟨_,_,rfl,fun _=>by
    rw [hV2 (by simpa using h1)]
    have h3:val zs≠9223372036854775808:=by simpa using h2
    simp only [wrap64]
    omega⟩,g4⟩⟩
  ·rename_i h0 h1
   obtain ⟨g1,g2,g3,g4⟩:=oJ hB (by omega) (by omega) (by omega) (by omega) hc1 ⟨_,hc2⟩ hK
   exact ⟨by simp, .inl ⟨_,_,rfl,run_takeDeferred g1,_,lH rfl rfl rfl g2 g3,⟨_,_,rfl,fun h=>absurd h (by decide)⟩,g4⟩⟩
  ·rename_i h0 h1
   obtain ⟨g1,g2,g3,g4⟩:=oJ hB (by omega) (by omega) (by omega) (by omega) hc1 ⟨_,hc2⟩ hK
   exact ⟨by simp, .inl ⟨_,_,rfl,run_takeDeferred g1,_,lH rfl rfl rfl g2 g3,⟨_,_,rfl,fun _=>by
    have h3:zs=[]:=List.eq_nil_of_length_eq_zero (by omega)
    rw [hV3 (by omega),h3]
    simp [val,wrap64]⟩,g4⟩⟩
 case stop=>
  rintro D c pre W hD ⟨k,hk,rfl⟩ ⟨⟨rfl,hc1,hc2⟩,hB⟩ hK
  gi_wp2
  have hD':w1.heap.size+1+1≤D:=by simpa using hD
  refine ⟨by simp, .inl ⟨_,_,rfl,run_takeDeferred hK,?_⟩⟩
  refine ⟨_,lH rfl rfl rfl (cell_kept hc1 (grownBy_putObj' _ D _) (fun r e=>by cases e;exact ⟨_,hK,rfl⟩)) (cell_kept hc2 (grownBy_putObj' _ D _) (fun r e=>by cases e;exact ⟨_,hK,rfl⟩)),⟨_,_,rfl,fun h=>absurd h (by decide)⟩,?_⟩
  exact hB.trans (belowK_b (w:=w) (Nat.le_refl _) W D _ _ (by omega) hK rfl rfl)
section
variable {X:List Nat} {w0:World} {M0:List Ent} {I0:List aV}
theorem aOT {u:Value} {z:Int} {k:Nat} (hz:z.natAbs < 1000000000000000000000000000) (hk:k≤1000000000000) (hu:iB u z k∈I0):CD Tryz.prog 75 [u] X w0 M0 I0 (fun v M I=>M0=M∧I0=I∧∃(n:Int) (b:Bool),v= .tuple #[.int .i64 n, .bool b]∧(b=true→n=z)):=by
 refine ⟨fun w hw=>?_⟩
 obtain ⟨q,c,rfl,hc,h3,h4⟩:=((hw.imm _ hu).2).ex
 have hl:(gr z.natAbs).length≤3:=lQ (by omega)
 have hs:Sl [] w q (recs eG (gr z.natAbs)):=h4.less (by simp)
 have hv:=bT z.natAbs
 refine Calls.mono (callsIn_wide.1 (aPN q c (B (z < 0)) (gr z.natAbs) z w hl (bK _) hs (aGF hs) ?_ ?_ ?_ ?_)) ?_
 ·intro hn
  rw [hv]
  have:z < 0:=by
   by_cases h:z < 0
   ·exact h
   ·rw [bF h] at hn;exact absurd hn (by decide)
  omega
 ·intro hn
  rw [hv]
  have:0≤z:=by
   by_cases h':z < 0
   ·rw [cB h'] at hn;exact absurd hn (by decide)
   ·omega
  omega
 ·intro h
  have:=(nD (n:=z.natAbs)).1 (List.length_eq_zero_iff.1 h)
  omega
 ·intro W hB
  have hm:=(Mem.start W).startS (Sl.mono hs (Ext.of_below hB))
  refine callsIn_wide.2 (Calls.mono ((iF (X:=[]) (w0:=W) (M0:=[]) (q:=q) (c:=c) h3 hk List.mem_cons_self).go W hm) ?_)
  rintro e W' ⟨v,rfl,M',I',⟨rfl,rfl,rfl⟩,hw'⟩
  exact ⟨rfl,hw'.ext.below⟩
 ·rintro e w' ⟨⟨n,b,rfl,hb⟩,hB⟩
  exact ⟨_,rfl,M0,I0,⟨rfl,rfl,n,b,rfl,hb⟩,hw.call (Ext.of_below hB)⟩
end
end Go.Proofs.YtgpkjcmipiodcaaGreat
namespace Go.Proofs.YtgpkjcmipiodcaaGreat
open Go Go.Fx
abbrev xP:ZE:=⟨0,none,0⟩
theorem eN_zero:eN xP=zN:=by
 show [Value.bool (B ((0:Int) < 0)),Value.slice none (gr (0:Int).natAbs).length 0]=_
 rw [bF (by decide),show (0:Int).natAbs=0 from rfl,fO]
 rfl
theorem isZero {k:Nat} {X:List Nat} {w:World}:IsI (nv xP) 0 k X w:=⟨none,0,rfl,⟨by rw [show (0:Int).natAbs=0 from rfl,fO];exact Nat.le_refl _, .inr ⟨by rw [show (0:Int).natAbs=0 from rfl,fO];rfl,rfl⟩⟩,Nat.zero_le _,fun j v hj=>by rw [show (0:Int).natAbs=0 from rfl,fO] at hj;simp [recs] at hj⟩
theorem Hv.z0 {I:List aV} {k:Nat}:Hv I (qH xP k):=⟨fun X w _=>isZero⟩
theorem StAt.o1 {α:Type} {enc:α→List Value} [hz:Sized enc 1] {ms:List α} {i:Int} {v:Value} (mm:α) (hi:0≤i∧i < ms.length) (hv:[v]=enc mm):StAt (recs enc ms) (0+i.toNat*1) v (recs enc (st ms i mm)):=by rw [Nat.zero_add];exact StAt.r1 mm hi hv
def gI (f:Nat→Int):Nat→Int
 |0=>0
 |n+1=>(Int.gcd (gI f n) (f n):Nat)
def fI (f:Nat→Int):Nat→Int
 |0=>0
 |n+1=>if fI f n=0 then f n else fI f n
def tF (es:List ZE):Qn:=⟨(gt es 0).z,(gt es 1).z,(gt es 2).z,(gt es 3).z⟩
theorem aZH (es:List ZE):gI (fun t=>(gt es (t:Int)).z) 4=(Qn.g4 (tF es):Nat):=by
 show ((Int.gcd ((Int.gcd ((Int.gcd ((Int.gcd 0 (gt es 0).z:Nat):Int) (gt es 1).z:Nat):Int) (gt es 2).z:Nat):Int) (gt es 3).z:Nat):Int)=_
 simp only [Int.gcd,Int.natAbs_natCast,Int.natAbs_zero,Nat.gcd_zero_left]
 rfl
theorem aNY (es:List ZE):fI (fun t=>(gt es (t:Int)).z) 4=Qn.lead (tF es):=by
 unfold Qn.lead tF
 simp only [fI,if_true]
 by_cases h1:(gt es 0).z=0
 ·by_cases h2:(gt es 1).z=0
  ·by_cases h3:(gt es 2).z=0
   ·simp [h1,h2,h3]
   ·simp [h1,h2,h3]
  ·simp [h1,h2]
 ·simp [h1]
theorem aUH (es:List ZE) (h:(tF es).nz) {t:Nat} (ht:t < 4):Qn.gs (tF es) ∣ (gt es (t:Int)).z∧gt (iQ (Qn.prm (tF es))) (t:Int)=(gt es (t:Int)).z / Qn.gs (tF es):=by
 obtain ⟨h1,h2,h3,h4⟩:=Qn.gs_dvd (tF es)
 obtain rfl|rfl|rfl|rfl:t=0∨t=1∨t=2∨t=3:=by omega
 ·exact ⟨h1,rfl⟩
 ·exact ⟨h2,rfl⟩
 ·exact ⟨h3,rfl⟩
 ·exact ⟨h4,rfl⟩
theorem aMI {x g:Int} (hg:g≠0) (hd:g ∣ x) (hx:x.natAbs < 1000000000000000000):x.fdiv g=x / g∧(x / g).natAbs < 1000000000000000000:=by
 obtain ⟨c,rfl⟩:=hd
 rw [Int.mul_ediv_cancel_left _ hg,Int.mul_fdiv_cancel_left _ hg]
 refine ⟨rfl,?_⟩
 rw [Int.natAbs_mul] at hx
 have:1≤g.natAbs:=by omega
 have:=Nat.mul_le_mul_right c.natAbs this
 omega
theorem aYX {l:List Int} {q:Qn} (hl:l.length=4) (h:∀j:Nat,j < 4→gt l (j:Int)=gt (iQ q) (j:Int)):q=⟨gt l 0,gt l 1,gt l 2,gt l 3⟩:=
 Qn.ext4 (h 0 (by decide)).symm (h 1 (by decide)).symm (h 2 (by decide)).symm (h 3 (by decide)).symm
section
variable {X:List Nat} {w0:World} {M0:List Ent} {I0:List aV}
theorem NNeg {a:ZE} {k:Nat} (hk:k≤400000000000) (ha:qH a k∈I0):CD Tryz.prog 144 [nv a] X w0 M0 I0 (NQ (-a.z) k M0 I0):=CD.nq (aHL (by omega) ha)
theorem NGcd {a b:ZE} {k m:Nat} (hk:k≤400000000000) (hm:m≤400000000000) (ha:qH a k∈I0) (hb:qH b m∈I0):CD Tryz.prog 133 [nv a,nv b] X w0 M0 I0 (NQ (Int.gcd a.z b.z) (k+m) M0 I0):=CD.nq (aGT (by omega) (by omega) ha hb)
theorem NDiv {a b:ZE} {k m:Nat} (hk:k≤400000000000) (hm:m≤400000000000) (h0:b.z≠0) (ha:qH a k∈I0) (hb:qH b m∈I0):CD Tryz.prog 145 [nv a,nv b] X w0 M0 I0 (fun v M I=>M0=M∧∃q r:ZE,v= .tuple #[nv q,nv r, .int .i64 0]∧q.z=a.z.fdiv b.z∧I=qH q k::I0):=
 (aAX (by omega) (by omega) h0 ha hb).post (fun v M I w h hw=>by
  obtain ⟨rfl,v1,v2,rfl,rfl⟩:=h
  have h1:IsI v1 (a.z.fdiv b.z) k (muts M0) w:=(hw.imm _ (List.Mem.tail _ (List.Mem.head _))).2
  have h2:IsI v2 (a.z.fmod b.z) m (muts M0) w:=(hw.imm _ (List.Mem.head _)).2
  obtain ⟨q,c,rfl,_⟩:=h1.ex
  obtain ⟨q2,c2,rfl,_⟩:=h2.ex
  exact ⟨M0,_,⟨rfl,⟨_,q,c⟩,⟨_,q2,c2⟩,rfl,rfl,rfl⟩,hw.inc (Inc.wk Inc.refl)⟩)
def yT (q:Qn):Value:=if (Qn.prm q).fit then .tuple #[qv (Qn.prm q), .int .i64 0] else .tuple #[qv Qn.zero, .int .i64 3]
theorem aTZ {es:List ZE} (hl:es.length=4) (hnz:(tF es).nz) (hsm:∀t:Nat,t < 4→(gt es (t:Int)).z.natAbs < 1000000000000000000) (he:∀x∈es,qH x 63∈I0):CD Tryz.prog 125 [.agg (recs eN es).toArray] X w0 M0 I0 (fun v M I=>M0=M∧I0=I∧v=yT (tF es)):=by
 have hgz:Qn.gs (tF es)≠0:=Qn.gs_nz hnz
 refine aZ Tryz.func125 rfl Tryz.ntmps125 rfl ?_
 refine fE ?_
 refine fG rfl (fun b1=>?_)
 refine aC (cs:=recs eN es) .here ?_
 refine bG (fun b2=>?_)
 repeat refine aB ?_
 refine bG (fun b4=>?_)
 refine bG (fun b5=>?_)
 repeat refine aB ?_
 rw [show ([.bool false, .slice none 0 0]:List Value)=eN xP from eN_zero.symm]
 refine fH (φ:=qH xP 0) Hv.z0 (fH (φ:=qH xP 63) Hv.z0 ?_)
 (apply bL;exact gQ;exact rfl;exact aA;exact AtsZ.all (by rw [fJ,hl]);exact rfl;exact rfl)
 repeat refine aB ?_
 refine kS [1,2,4,5,16] rfl (fun k G M I=>∃(i:Nat) (g x1:ZE),i≤4∧k=4 - i∧g.z=gI (fun t=>(gt es (t:Int)).z) i∧x1.z=fI (fun t=>(gt es (t:Int)).z) i∧G=[(17, .int .i64 i)]∧M= .blk b5 (eN x1) 38:: .blk b4 (eN g) 38:: .blk b2 zQ 28::M0∧I=qH x1 63::qH g (63*i)::aI (some ⟨b1,0,none⟩) (recs eN es)::I0) (4) (⟨0,xP,xP,by omega,rfl,rfl,rfl,rfl,rfl,rfl⟩) ?_
 rintro kk G M I ⟨i,g,x1,hi,rfl,hg,hx1,rfl,rfl,rfl⟩
 by_cases hii:i < 4
 ·obtain ⟨x,hx⟩:∃x,gt es (i:Int)=x:=⟨_,rfl⟩
  have hxm:x∈es:=by rw [←hx];exact bJ ⟨by omega,by omega⟩
  refine bD (φ:=qH x 63) (Hv.mem (List.mem_cons_of_mem _ (List.mem_cons_of_mem _ (List.mem_cons_of_mem _ (he x hxm))))) ?_
  have hG:=fun M0 I0 h1 h2=>NGcd (X:=X) (w0:=w0) (M0:=M0) (I0:=I0) (a:=g) (b:=x) (k:=63*i) (m:=63) (by omega) (by omega) h1 h2
  have hS:=fun M0 I0 h1=>oC (X:=X) (w0:=w0) (M0:=M0) (I0:=I0) (u:=nv x1) (z:=x1.z) (k:=63) (by omega) h1
  repeat refine aB ?_
  (refine aD rfl (fun _=>jN (cs:=recs eN es) (vs:=eN x) (i:=(i:Int)) rfl rfl ⟨by omega,by omega⟩ (by rw [←hx];exact oK ⟨by omega,by omega⟩)) rfl rfl ?_)
  refine bG (fun b7=>?_)
  repeat refine aB ?_
  (refine aU rfl (hG _ _ aA aA) ?_;rintro _ _ _ ⟨rfl,g2,rfl,hg2,rfl⟩;refine aL ?_)
  repeat refine aB ?_
  refine dP rfl (hS _ _ aA) ?_
  have hg3:g2.z=gI (fun t=>(gt es (t:Int)).z) (i+1):=by rw [hg2,hg,←hx];rfl
  by_cases hs:x1.z=0
  ·rw [show x1.z.sign=0 by rw [hs];rfl]
   repeat refine aB ?_
   refine iC (4 - (i+1)) (⟨i+1,g2,x,by omega,rfl,hg3,by show _=if fI _ i=0 then (gt es (i:Int)).z else fI _ i;rw [if_pos (hx1.symm.trans hs),hx],rfl,rfl,rfl⟩)
  ·have hsn:x1.z.sign≠0:=fun h=>hs (Int.sign_eq_zero_iff_zero.1 h)
   generalize x1.z.sign=sg at hsn
   repeat refine aB ?_
   refine iC (4 - (i+1)) (⟨i+1,g2,x1,by omega,rfl,hg3,by show _=if fI _ i=0 then (gt es (i:Int)).z else fI _ i;rw [if_neg (fun h=>hs (hx1.trans h))];exact hx1,rfl,rfl,rfl⟩)
 ·obtain rfl:i=4:=by omega
  rw [aZH] at hg
  rw [aNY] at hx1
  have hSg:=fun M0 I0 h1=>oC (X:=X) (w0:=w0) (M0:=M0) (I0:=I0) (u:=nv x1) (z:=x1.z) (k:=63) (by omega) h1
  have hN:=fun M0 I0 h1=>NNeg (X:=X) (w0:=w0) (M0:=M0) (I0:=I0) (a:=g) (k:=63*4) (by omega) h1
  repeat refine aB ?_
  refine dP rfl (hSg _ _ aA) ?_
  refine aHH (fun G M I=>∃gg:ZE,gg.z=Qn.gs (tF es)∧G=[(1, .pointer (some ⟨b1,0,none⟩)),(2, .pointer (some ⟨b2,0,none⟩)),(4, .pointer (some ⟨b4,0,none⟩))]∧M= .blk b5 (eN x1) 38:: .blk b4 (eN gg) 38:: .blk b2 zQ 28::M0∧I=qH gg 252::aI (some ⟨b1,0,none⟩) (recs eN es)::I0) ?_ ?_
  ·by_cases hs:x1.z < 0
   ·rw [Int.sign_eq_neg_one_of_neg hs]
    repeat refine aB ?_
    (refine aU rfl (hN _ _ aA) ?_;rintro _ _ _ ⟨rfl,g2,rfl,hg2,rfl⟩;refine aL ?_)
    repeat refine aB ?_
    refine mR ⟨g2,by rw [hg2,hg];unfold Qn.gs;rw [if_pos (by rw [←hx1];exact hs)],rfl,rfl,rfl⟩
   ·have hsg:¬x1.z.sign < 0:=fun h=>hs (Int.sign_neg_iff.1 h)
    generalize x1.z.sign=sg at hsg
    repeat refine aB ?_
    refine mR ⟨g,by rw [hg];unfold Qn.gs;rw [if_neg (by rw [←hx1];exact hs)],rfl,rfl,rfl⟩
  ·rintro G M I ⟨gg,hgg,rfl,rfl,rfl⟩
   repeat refine aB ?_
   refine bG (fun b8=>?_)
   repeat refine aB ?_
   (apply bL;exact gQ;exact rfl;exact aA;exact AtsZ.all (by rw [fJ,hl]);exact rfl;exact rfl)
   repeat refine aB ?_
   refine kS [2,4,8,33] rfl (fun k G M I=>∃(i:Nat) (out:List Int),i≤4∧k=4 - i∧out.length=4∧(∀j:Nat,j < i→gt out (j:Int)=gt (iQ (Qn.prm (tF es))) (j:Int)∧(gt (iQ (Qn.prm (tF es))) (j:Int)).natAbs≤1048576)∧G=[(34, .int .i64 i)]∧M= .blk b8 (recs (eI .i64) out) 123:: .blk b5 (eN x1) 38:: .blk b4 (eN gg) 38:: .blk b2 zQ 28::M0∧I=qH gg 252::aI (some ⟨b1,0,none⟩) (recs eN es)::I0) (4) (⟨0,[0,0,0,0],by omega,rfl,rfl,fun j hj=>by omega,rfl,rfl,rfl⟩) ?_
   rintro kk G M I ⟨i,out,hi,rfl,hol,ho,rfl,rfl,rfl⟩
   by_cases hii:i < 4
   ·obtain ⟨x,hx⟩:∃x,gt es (i:Int)=x:=⟨_,rfl⟩
    have hxm:x∈es:=by rw [←hx];exact bJ ⟨by omega,by omega⟩
    obtain ⟨hd,hp⟩:=aUH es hnz hii
    obtain ⟨hf,hsl⟩:=aMI hgz hd (hsm i hii)
    rw [hx] at hd hp hf hsl
    refine bD (φ:=qH x 63) (Hv.mem (List.mem_cons_of_mem _ (List.mem_cons_of_mem _ (he x hxm)))) ?_
    have hD:=fun M0 I0 h1 h2=>NDiv (X:=X) (w0:=w0) (M0:=M0) (I0:=I0) (a:=x) (b:=gg) (k:=63) (m:=252) (by omega) (by omega) (by rw [hgg];exact hgz) h1 h2
    have hS:=fun (q:ZE) M0 I0 hq h1=>aIQ (X:=X) (w0:=w0) (M0:=M0) (I0:=I0) (u:=nv q) (z:=q.z) (k:=63) hq (by omega) h1
    repeat refine aB ?_
    (refine aD rfl (fun _=>jN (cs:=recs eN es) (vs:=eN x) (i:=(i:Int)) rfl rfl ⟨by omega,by omega⟩ (by rw [←hx];exact oK ⟨by omega,by omega⟩)) rfl rfl ?_)
    refine bG (fun b10=>?_)
    repeat refine aB ?_
    (refine aU rfl (hD _ _ aA aA) ?_;rintro _ _ _ ⟨rfl,q,r,rfl,hq,rfl⟩;refine aL ?_)
    have hqs:q.z=x.z / Qn.gs (tF es):=by rw [hq,hgg,hf]
    repeat refine aB ?_
    refine bG (fun b11=>?_)
    refine bG (fun b12=>?_)
    repeat refine aB ?_
    (refine aS rfl (hS q _ _ (by rw [hqs];exact hsl) aA) rfl rfl ?_;rintro _ _ _ ⟨rfl,rfl,rfl⟩;refine aL ?_)
    have hno:¬q.z.natAbs≤1048576→yT (tF es)= .tuple #[qv Qn.zero, .int .i64 3]:=fun h=>by
     unfold yT
     rw [if_neg (fun hf=>h (by rw [hqs,←hp];exact aAH.2 hf i hii))]
    by_cases h1:q.z < -1048576
    ·repeat refine aB ?_
     (refine aD rfl (fun _=>aK (pvs:=([]).zipIdx.map (fun p=>(p.2,p.1))) (cells:=zQ) rfl rfl) rfl rfl ?_)
     repeat refine aB ?_
     refine dI (rs:=[.cell 2 28, .tmp 3]) (vs:=[qv Qn.zero, .int .i64 3]) (.inl rfl) rfl (.cellN (cs:=eQ Qn.zero) inferInstance rfl aA rfl (.tmp rfl .nil)) rfl M0 I0 aG aF ⟨rfl,rfl,(hno (by omega)).symm⟩
    by_cases h2:1048576 < q.z
    ·repeat refine aB ?_
     (refine aD rfl (fun _=>aK (pvs:=([]).zipIdx.map (fun p=>(p.2,p.1))) (cells:=zQ) rfl rfl) rfl rfl ?_)
     repeat refine aB ?_
     refine dI (rs:=[.cell 2 28, .tmp 3]) (vs:=[qv Qn.zero, .int .i64 3]) (.inl rfl) rfl (.cellN (cs:=eQ Qn.zero) inferInstance rfl aA rfl (.tmp rfl .nil)) rfl M0 I0 aG aF ⟨rfl,rfl,(hno (by omega)).symm⟩
    repeat refine yXh ?_
    refine oH rfl rfl rfl iN (StAt.o1 (enc:=eI .i64) q.z ⟨by omega,by omega⟩ rfl) rfl rfl ⟨okF,?_⟩
    repeat refine aB ?_
    refine iC (4 - (i+1)) (⟨i+1,st out (i:Int) q.z,by omega,rfl,by rw [dB];exact hol,fun t ht=>?_,rfl,rfl,rfl⟩)
    rw [aBO _ ⟨by omega,by omega⟩ (by omega)]
    by_cases e:t=i
    ·subst e
     rw [if_pos rfl,hqs,hp]
     exact ⟨rfl,by rw [←hqs];omega⟩
    ·rw [if_neg (by omega)]
     exact ho t (by omega)
   ·obtain rfl:i=4:=by omega
    have hfit:(Qn.prm (tF es)).fit:=aAH.1 (fun j hj=>(ho j hj).2)
    have hq:=aYX hol (fun j hj=>(ho j hj).1)
    have hv:yT (tF es)= .tuple #[qv (Qn.prm (tF es)), .int .i64 0]:=by unfold yT;rw [if_pos hfit]
    obtain ⟨y0,y1,y2,y3,rfl⟩:∃y0 y1 y2 y3,out=[y0,y1,y2,y3]:=by
     match out,hol with
     |[a,b,c,d],_=>exact ⟨a,b,c,d,rfl⟩
    replace hq:Qn.prm (tF es)=⟨y0,y1,y2,y3⟩:=hq
    repeat refine aB ?_
    (refine aD rfl (fun _=>dK (vals:=eQ ⟨y0,y1,y2,y3⟩) (cells:=eQ ⟨y0,y1,y2,y3⟩) rfl ?hpl rfl ?hz) rfl rfl ?_;(case hpl=>repeat (first|exact True.intro|refine ⟨rfl,?_⟩));(case hz=>rfl))
    repeat refine aB ?_
    refine dI (rs:=[.cell 2 28, .tmp 3]) (vs:=[qv ⟨y0,y1,y2,y3⟩, .int .i64 0]) (.inl rfl) rfl (.cellN (cs:=eQ ⟨y0,y1,y2,y3⟩) inferInstance rfl aA rfl (.tmp rfl .nil)) rfl M0 I0 aG aF ⟨rfl,rfl,by rw [hv,hq]⟩
end
end Go.Proofs.YtgpkjcmipiodcaaGreat
namespace Go.Proofs.YtgpkjcmipiodcaaGreat
open Go Go.Fx
def prW (q:Qn):Qn:=if (Qn.prm q).fit then Qn.prm q else Qn.zero
def prE (q:Qn):Int:=if (Qn.prm q).fit then 0 else 3
theorem aZO (q:Qn):yT q= .tuple #[qv (prW q), .int .i64 (prE q)]:=by
 unfold yT prW prE
 by_cases h:(Qn.prm q).fit
 ·rw [if_pos h,if_pos h,if_pos h]
 ·rw [if_neg h,if_neg h,if_neg h]
theorem aUK {q:Qn} (h:prE q=0):(Qn.prm q).fit∧prW q=Qn.prm q:=by
 unfold prE at h
 by_cases hf:(Qn.prm q).fit
 ·exact ⟨hf,by unfold prW;rw [if_pos hf]⟩
 ·rw [if_neg hf] at h;exact absurd h (by decide)
theorem aMB (q:Qn):prE q=0∨prE q=3:=by
 unfold prE
 by_cases hf:(Qn.prm q).fit
 ·rw [if_pos hf];exact .inl rfl
 ·rw [if_neg hf];exact .inr rfl
theorem aHT {x g:Int} (hg:g≠0) (hd:g ∣ x) {m:Nat} (hx:x.natAbs≤m):(x / g).natAbs≤m:=by
 obtain ⟨c,rfl⟩:=hd
 rw [Int.mul_ediv_cancel_left _ hg]
 rw [Int.natAbs_mul] at hx
 have:1≤g.natAbs:=by omega
 have:=Nat.mul_le_mul_right c.natAbs this
 omega
theorem aOL {q:Qn} (h:q.nz) (hf:q.fit):(Qn.prm q).fit:=by
 obtain ⟨h1,h2,h3,h4⟩:=Qn.gs_dvd q
 have hg:=Qn.gs_nz h
 obtain ⟨⟨f1,f2⟩,f3,f4⟩:=hf
 exact ⟨⟨aHT hg h1 f1,aHT hg h2 f2⟩,aHT hg h3 f3,aHT hg h4 f4⟩
theorem aXY {q:Qn} (h:q.nz) (hf:q.fit):prW q=Qn.prm q∧prE q=0:=by
 unfold prW prE
 rw [if_pos (aOL h hf),if_pos (aOL h hf)];exact ⟨rfl,rfl⟩
theorem cZ {x y:Int} (hx:x.natAbs≤1048576) (hy:y.natAbs≤1048576): -1099511627776≤x*y∧x*y≤1099511627776:=by
 have h:=Nat.mul_le_mul hx hy
 rw [←Int.natAbs_mul] at h
 omega
section
variable {X:List Nat} {w0:World} {M0:List Ent} {I0:List aV}
theorem aXT {a b c d:Int} (ha:a.natAbs < 1000000000000000000) (hb:b.natAbs < 1000000000000000000) (hc:c.natAbs < 1000000000000000000) (hd:d.natAbs < 1000000000000000000) (hnz:(⟨a,b,c,d⟩:Qn).nz):
  CD Tryz.prog 70 [.int .i64 a, .int .i64 b, .int .i64 c, .int .i64 d] X w0 M0 I0 (fun v M I=>M0=M∧I0=I∧v= .tuple #[qv (prW ⟨a,b,c,d⟩), .int .i64 (prE ⟨a,b,c,d⟩)]):=by
 have hO:=fun (x:Int) M0 I0 (hx: -9223372036854775808≤x∧x≤9223372036854775807)=>NOf (X:=X) (w0:=w0) (M0:=M0) (I0:=I0) (x:=x) hx
 refine qN Tryz.func70 rfl Tryz.ntmps70 rfl ?_
 refine fE ?_
 refine bG (fun b8=>?_)
 repeat refine aB ?_
 (refine aU rfl (hO a _ _ (by omega)) ?_;rintro _ _ _ ⟨rfl,e0,rfl,h0,rfl⟩;refine aL ?_)
 repeat refine aB ?_
 (refine aU rfl (hO b _ _ (by omega)) ?_;rintro _ _ _ ⟨rfl,e1,rfl,h1,rfl⟩;refine aL ?_)
 repeat refine aB ?_
 (refine aU rfl (hO c _ _ (by omega)) ?_;rintro _ _ _ ⟨rfl,e2,rfl,h2,rfl⟩;refine aL ?_)
 repeat refine aB ?_
 (refine aU rfl (hO d _ _ (by omega)) ?_;rintro _ _ _ ⟨rfl,e3,rfl,h3,rfl⟩;refine aL ?_)
 (refine aD rfl (fun _=>bH (vals:=[nv e0,nv e1,nv e2,nv e3]) (cells:=recs eN [e0,e1,e2,e3]) rfl ?hpl rfl ?hz) rfl rfl ?_;(case hpl=>exact (by intro v hv;repeat (first|exact absurd hv (List.not_mem_nil)|(rcases List.mem_cons.1 hv with rfl|hv; · rfl))));(case hz=>rfl))
 have hes:tF [e0,e1,e2,e3]=⟨a,b,c,d⟩:=Qn.ext4 h0 h1 h2 h3
 (refine aS rfl (aTZ (es:=[e0,e1,e2,e3]) rfl (by rw [hes];exact hnz) (fun t ht=>by
  obtain rfl|rfl|rfl|rfl:t=0∨t=1∨t=2∨t=3:=by omega
  ·show e0.z.natAbs < _;rw [h0];exact ha
  ·show e1.z.natAbs < _;rw [h1];exact hb
  ·show e2.z.natAbs < _;rw [h2];exact hc
  ·show e3.z.natAbs < _;rw [h3];exact hd) (fun x hx=>by
  simp only [List.mem_cons,List.not_mem_nil,or_false] at hx
  rcases hx with rfl|rfl|rfl|rfl <;>simp)) rfl rfl ?_;rintro _ _ _ ⟨rfl,rfl,rfl⟩;refine aL ?_)
 rw [hes,aZO]
 repeat refine aB ?_
 refine dI (rs:=[.cell 8 28, .tmp 9]) (vs:=[qv (prW ⟨a,b,c,d⟩), .int .i64 (prE ⟨a,b,c,d⟩)]) (.inl rfl) rfl (.cellN (cs:=eQ (prW ⟨a,b,c,d⟩)) inferInstance rfl aA rfl (.tmp rfl .nil)) rfl M0 I0 aG aF ⟨rfl,rfl,rfl⟩
theorem aNU {p q:Qn} (hn:p.nz) (hf:p.fit) (hn2:q.nz) (hf2:q.fit):CD Tryz.prog 29 [qv p,qv q] X w0 M0 I0 (fun v M I=>M0=M∧I0=I∧v= .tuple #[qv (prW (Qn.mul p q)), .int .i64 (prE (Qn.mul p q))]):=by
 have hC:=fun (b:Nat) M0 I0 h=>aIZ (X:=X) (w0:=w0) (M0:=M0) (I0:=I0) (p:=some ⟨b,0,none⟩) (c:=2) (l:=[p,q]) (m:=2) rfl (by decide) h
 have hcs:qV [p,q]=0:=by
  unfold qV qV qV
  rw [if_pos (yP hn hf),if_pos (yP hn2 hf2)]
 rw [hcs] at hC
 obtain ⟨⟨f1,f2⟩,f3,f4⟩:=hf
 obtain ⟨⟨g1,g2⟩,g3,g4⟩:=hf2
 have b11:=cZ f1 g1
 have b12:=cZ f1 g2
 have b13:=cZ f1 g3
 have b14:=cZ f1 g4
 have b21:=cZ f2 g1
 have b22:=cZ f2 g2
 have b23:=cZ f2 g3
 have b24:=cZ f2 g4
 have b31:=cZ f3 g1
 have b32:=cZ f3 g2
 have b33:=cZ f3 g3
 have b34:=cZ f3 g4
 have b41:=cZ f4 g1
 have b42:=cZ f4 g2
 have b43:=cZ f4 g3
 have b44:=cZ f4 g4
 have hR:=fun M0 I0=>aXT (X:=X) (w0:=w0) (M0:=M0) (I0:=I0) (a:=(Qn.mul p q).a) (b:=(Qn.mul p q).b) (c:=(Qn.mul p q).c) (d:=(Qn.mul p q).d) (by show (p.a*q.a - p.b*q.b - p.c*q.c - p.d*q.d).natAbs < _;omega) (by show (p.a*q.b+p.b*q.a+p.c*q.d - p.d*q.c).natAbs < _;omega) (by show (p.a*q.c - p.b*q.d+p.c*q.a+p.d*q.b).natAbs < _;omega) (by show (p.a*q.d+p.b*q.c - p.c*q.b+p.d*q.a).natAbs < _;omega) (Qn.nz_mul hn hn2)
 refine aP Tryz.func29 rfl Tryz.ntmps29 rfl ?_
 refine fE ?_
 refine fG rfl (fun b2=>?_)
 refine aC (cs:=eQ p) .here ?_
 refine fG rfl (fun b3=>?_)
 refine aC (cs:=eQ q) .here ?_
 refine bG (fun b4=>?_)
 repeat refine aB ?_
 refine lL (cs:=recs eQ [p,q]) ([qv p,qv q]) rfl (fun b9=>?_)
 refine aC (cs:=recs eQ [p,q]) .here ?_
 refine dP rfl (hC b9 _ _ aA) ?_
 repeat refine aB ?_
 refine dP rfl (hR _ _) ?_
 repeat refine aB ?_
 refine dI (rs:=[.cell 4 28, .tmp 5]) (vs:=[qv (prW (Qn.mul p q)), .int .i64 (prE (Qn.mul p q))]) (.inl rfl) rfl (.cellN (cs:=eQ (prW (Qn.mul p q))) inferInstance rfl aA rfl (.tmp rfl .nil)) rfl M0 I0 aG aF ⟨rfl,rfl,rfl⟩
end
end Go.Proofs.YtgpkjcmipiodcaaGreat
namespace Go.Proofs.YtgpkjcmipiodcaaGreat
open Go Go.Fx
theorem At.o2 {ms:List Int} {i j:Nat} (h:3*i+j < ms.length):At (recs (eI .i64) ms) (0+(i:Int).toNat*3+(j:Int).toNat*1) (.int .i64 (gt ms ((3*i+j:Nat):Int))):=by
 have h1:At (recs (eI .i64) ms) (((3*i+j:Nat):Int).toNat*1) (.int .i64 (gt ms ((3*i+j:Nat):Int))):=At.r1 (enc:=eI .i64) ⟨by omega,by omega⟩ rfl
 have e:0+(i:Int).toNat*3+(j:Int).toNat*1=((3*i+j:Nat):Int).toNat*1:=by omega
 rw [e];exact h1
def mtL (q:Qn):List Int:=[q.a*q.a+q.b*q.b - q.c*q.c - q.d*q.d,2*(q.b*q.c - q.a*q.d),2*(q.b*q.d+q.a*q.c),2*(q.b*q.c+q.a*q.d),q.a*q.a - q.b*q.b+q.c*q.c - q.d*q.d,2*(q.c*q.d - q.a*q.b),2*(q.b*q.d - q.a*q.c),2*(q.c*q.d+q.a*q.b),q.a*q.a - q.b*q.b - q.c*q.c+q.d*q.d]
def mvS (q:Qn) (p s:P3) (i:Nat):Nat→Int
 |0=>s.co i
 |j+1=>mvS q p s i j+gt (mtL q) ((3*i+j:Nat):Int)*p.co j
def jI (q:Qn) (p s:P3):P3:=⟨mvS q p s 0 3,mvS q p s 1 3,mvS q p s 2 3⟩
theorem aYY {q:Qn} (hf:q.fit):∀z∈mtL q, -4398046511104≤z∧z≤4398046511104:=by
 obtain ⟨⟨f1,f2⟩,f3,f4⟩:=hf
 have h1:=cZ f1 f1
 have h2:=cZ f2 f2
 have h3:=cZ f3 f3
 have h4:=cZ f4 f4
 have h5:=cZ f2 f3
 have h6:=cZ f1 f4
 have h7:=cZ f2 f4
 have h8:=cZ f1 f3
 have h9:=cZ f3 f4
 have h10:=cZ f1 f2
 intro z hz
 simp only [mtL,List.mem_cons,List.not_mem_nil,or_false] at hz
 rcases hz with rfl|rfl|rfl|rfl|rfl|rfl|rfl|rfl|rfl <;>omega
theorem P3.Ok.co20 {p:P3} (h:p.Ok) (k:Int):C20 (p.co k):=by
 have h1:=h.x
 have h2:=h.y
 have h3:=h.z
 unfold P3.co
 split
 ·omega
 ·split <;>omega
theorem bAU {x y:Int} (hx: -4398046511104≤x∧x≤4398046511104) (hy:C20 y): -4611686018427387904≤x*y∧x*y≤4611686018427387904:=by
 have h:=Nat.mul_le_mul (show x.natAbs≤4398046511104 by omega) (show y.natAbs≤1048576 by omega)
 rw [←Int.natAbs_mul] at h
 omega
theorem aZA {q:Qn} {p s:P3} (hf:q.fit) (hp:p.Ok) (hs:∀k,uU (s.co k)) {i:Nat} (hi:i < 3):∀j,j≤3→(mvS q p s i j).natAbs≤9223372036854775808+j*4611686018427387904
 |0,_=>by have:=hs i;simp only [mvS];omega
 |j+1,hj=>by
  have h1:=aZA hf hp hs hi j (by omega)
  have h2:=bAU (aYY hf _ (bJ (ms:=mtL q) (i:=((3*i+j:Nat):Int)) ⟨by omega,by show ((3*i+j:Nat):Int) < ((9:Nat):Int);omega⟩)) (hp.co20 j)
  simp only [mvS]
  omega
section
variable {X:List Nat} {w0:World} {M0 M1:List Ent} {I0:List aV}
theorem uMul {a b:ZE} {k m:Nat} (hk:k+m≤1000000000000) (ha:qH a k∈I0) (hb:qH b m∈I0):CD Tryz.prog 74 [nv a,nv b] X w0 M0 I0 (NQ (a.z*b.z) (k+m) M0 I0):=CD.nq (sZ hk ha hb)
theorem uAdd {a b:ZE} {k c:Nat} (hc:c≤1000000000000) (hk:k+1≤c) (ha:qH a k∈I0) (hb:qH b k∈I0):CD Tryz.prog 73 [nv a,nv b] X w0 M0 I0 (NQ (a.z+b.z) c M0 I0):=CD.nq (aUL (by omega) (by omega) hc (by have:=Nat.pow_le_pow_right (show 0 < 2 by omega) hk;rw [Nat.pow_succ] at this;omega) ha hb)
theorem aCT {q:Qn} {p s:P3} (hf:q.fit) (hp:p.Ok) (hs:∀k,uU (s.co k)):
  CD Tryz.prog 30 [qv q,p3v p,p3v s] X w0 M0 I0 (fun v M I=>M0=M∧I0=I∧∃(r:P3) (b:Bool),v= .tuple #[p3v r, .bool b]∧(b=true→r=jI q p s∧r.Ok)):=by
 have hmb:=aYY hf
 have hvb:=fun (i:Nat) (hi:i < 3)=>aZA hf hp hs hi 3 (Nat.le_refl _)
 obtain ⟨⟨f1,f2⟩,f3,f4⟩:=hf
 have h1:=cZ f1 f1
 have h2:=cZ f2 f2
 have h3:=cZ f3 f3
 have h4:=cZ f4 f4
 have h5:=cZ f2 f3
 have h6:=cZ f1 f4
 have h7:=cZ f2 f4
 have h8:=cZ f1 f3
 have h9:=cZ f3 f4
 have h10:=cZ f1 f2
 have hC:=fun (p:P3) (k:Int) M0 I0 hk=>aMF (X:=X) (w0:=w0) (M0:=M0) (I0:=I0) (p:=p) (k:=k) hk
 refine iO Tryz.func30 rfl Tryz.ntmps30 rfl ?_
 refine fE ?_
 refine fG rfl (fun b3=>?_)
 refine aC (cs:=eQ q) .here ?_
 refine fG rfl (fun b4=>?_)
 refine aC (cs:=gP p) .here ?_
 refine fG rfl (fun b5=>?_)
 refine aC (cs:=gP s) .here ?_
 refine bG (fun b6=>?_)
 repeat refine aB ?_
 (refine aD rfl (fun _=>bH (vals:=[.int .i64 (q.a*q.a+q.b*q.b - q.c*q.c - q.d*q.d), .int .i64 (2*(q.b*q.c - q.a*q.d)), .int .i64 (2*(q.b*q.d+q.a*q.c))]) (cells:=[.int .i64 (q.a*q.a+q.b*q.b - q.c*q.c - q.d*q.d), .int .i64 (2*(q.b*q.c - q.a*q.d)), .int .i64 (2*(q.b*q.d+q.a*q.c))]) rfl ?hpl rfl ?hz) rfl rfl ?_;(case hpl=>exact (by intro v hv;repeat (first|exact absurd hv (List.not_mem_nil)|(rcases List.mem_cons.1 hv with rfl|hv; · rfl))));(case hz=>rfl))
 repeat refine aB ?_
 (refine aD rfl (fun _=>bH (vals:=[.int .i64 (2*(q.b*q.c+q.a*q.d)), .int .i64 (q.a*q.a - q.b*q.b+q.c*q.c - q.d*q.d), .int .i64 (2*(q.c*q.d - q.a*q.b))]) (cells:=[.int .i64 (2*(q.b*q.c+q.a*q.d)), .int .i64 (q.a*q.a - q.b*q.b+q.c*q.c - q.d*q.d), .int .i64 (2*(q.c*q.d - q.a*q.b))]) rfl ?hpl rfl ?hz) rfl rfl ?_;(case hpl=>exact (by intro v hv;repeat (first|exact absurd hv (List.not_mem_nil)|(rcases List.mem_cons.1 hv with rfl|hv; · rfl))));(case hz=>rfl))
 repeat refine aB ?_
 (refine aD rfl (fun _=>bH (vals:=[.int .i64 (2*(q.b*q.d - q.a*q.c)), .int .i64 (2*(q.c*q.d+q.a*q.b)), .int .i64 (q.a*q.a - q.b*q.b - q.c*q.c+q.d*q.d)]) (cells:=[.int .i64 (2*(q.b*q.d - q.a*q.c)), .int .i64 (2*(q.c*q.d+q.a*q.b)), .int .i64 (q.a*q.a - q.b*q.b - q.c*q.c+q.d*q.d)]) rfl ?hpl rfl ?hz) rfl rfl ?_;(case hpl=>exact (by intro v hv;repeat (first|exact absurd hv (List.not_mem_nil)|(rcases List.mem_cons.1 hv with rfl|hv; · rfl))));(case hz=>rfl))
 (refine aD rfl (fun _=>bH (vals:=[.agg #[.int .i64 (q.a*q.a+q.b*q.b - q.c*q.c - q.d*q.d), .int .i64 (2*(q.b*q.c - q.a*q.d)), .int .i64 (2*(q.b*q.d+q.a*q.c))], .agg #[.int .i64 (2*(q.b*q.c+q.a*q.d)), .int .i64 (q.a*q.a - q.b*q.b+q.c*q.c - q.d*q.d), .int .i64 (2*(q.c*q.d - q.a*q.b))], .agg #[.int .i64 (2*(q.b*q.d - q.a*q.c)), .int .i64 (2*(q.c*q.d+q.a*q.b)), .int .i64 (q.a*q.a - q.b*q.b - q.c*q.c+q.d*q.d)]]) (cells:=recs (eI .i64) (mtL q)) rfl ?hpl rfl ?hz) rfl rfl ?_;(case hpl=>exact (by intro v hv;repeat (first|exact absurd hv (List.not_mem_nil)|(rcases List.mem_cons.1 hv with rfl|hv; · rfl))));(case hz=>rfl))
 refine bG (fun b8=>?_)
 repeat refine aB ?_
 refine aC (cs:=recs (eI .i64) (mtL q)) .here ?_
 refine bG (fun b9=>?_)
 repeat refine aB ?_
 have hml:(mtL q).length=9:=rfl
 clear h1 h2 h3 h4 h5 h6 h7 h8 h9 h10
 obtain ⟨ms,hms⟩:∃ms,mtL q=ms:=⟨_,rfl⟩
 have hst:∀i j,mvS q p s i (j+1)=mvS q p s i j+gt ms ((3*i+j:Nat):Int)*p.co j:=fun i j=>by rw [←hms];rfl
 rw [hms] at hml hmb ⊢
 refine kS [4,5,6,8,9] rfl (fun k G M I=>∃(i:Nat) (ok:Bool) (vs:List Int),i≤3∧k=3 - i∧(vs.length=3∧(ok=true→∀j:Nat,j < i→gt vs (j:Int)=mvS q p s j 3∧C20 (gt vs (j:Int))))∧G=[(10, .bool ok),(161, .int .i64 (i:Int))]∧M= .blk b9 (recs (eI .i64) vs) 91:: .blk b6 (gP ⟨0,0,0⟩) 31::M0∧aI (some ⟨b8,0,none⟩) (recs (eI .i64) ms)::aI (some ⟨b5,0,none⟩) (gP s)::aI (some ⟨b4,0,none⟩) (gP p)::aI (some ⟨b3,0,none⟩) (eQ q)::I0=I) (3) (⟨0,true,[0,0,0],by omega,rfl,⟨rfl,fun _ j hj=>by omega⟩,rfl,rfl,rfl⟩) ?_
 rintro kk G M I ⟨i,ok,vs,hi,rfl,⟨hvl,hvs⟩,rfl,rfl,rfl⟩
 by_cases hi3:i < 3
 ·have hsi:=hs i
  have hb3:=hvb i hi3
  repeat refine aB ?_
  refine dP rfl (hC s i _ _ ⟨by omega,by omega⟩) ?_
  (refine aU rfl (NOf hsi) ?_;rintro _ _ _ ⟨rfl,e0,rfl,he0,rfl⟩;refine aL ?_)
  refine bG (fun b12=>?_)
  repeat refine aB ?_
  refine bD (φ:=qH e0 127) ⟨fun X w hw=>IsI.mono (hw (qH e0 63) List.mem_cons_self) (by omega)⟩ ?_
  refine kS [4,5,6,8,9,10,11,12,161] rfl (fun k G M I=>∃(j:Nat) (e:ZE),j≤3∧k=3 - j∧e.z=mvS q p s i j∧G=[(168, .int .i64 (j:Int))]∧M= .blk b12 (eN e) 38:: .blk b9 (recs (eI .i64) vs) 91:: .blk b6 (gP ⟨0,0,0⟩) 31::M0∧I=qH e (127+j)::aI (some ⟨b8,0,none⟩) (recs (eI .i64) ms)::aI (some ⟨b5,0,none⟩) (gP s)::aI (some ⟨b4,0,none⟩) (gP p)::aI (some ⟨b3,0,none⟩) (eQ q)::I0) (3) (⟨0,e0,by omega,rfl,he0,rfl,rfl,rfl⟩) ?_
  rintro kk G M I ⟨j,e,hj,rfl,he,rfl,rfl,rfl⟩
  by_cases hj3:j < 3
  ·have hmz:=hmb _ (bJ (ms:=ms) (i:=((3*i+j:Nat):Int)) ⟨by omega,by omega⟩)
   have hpz:=hp.co20 (j:Int)
   have hnx:=hst i j
   obtain ⟨z,hz⟩:∃z,gt ms ((3*i+j:Nat):Int)=z:=⟨_,rfl⟩
   rw [hz] at hmz hnx
   repeat refine aB ?_
   (repeat refine aJ ?_);refine kT 5 (.blk b12 (eN e) 38::[]) (aI (some ⟨b8,0,none⟩) (recs (eI .i64) ms)::aI (some ⟨b4,0,none⟩) (gP p)::[]) [0,1,2,3,4,5,7,8,6,9,10,11,12,13] [4,5,5,5,5,4,4,4,0,0,0,0,0,0] aG aF mixed (by kernel_rfl) ?_
   repeat refine aB ?_
   (apply jF;exact gQ;exact rfl;exact aA;exact At.o2 (ms:=ms) (i:=i) (j:=j) (by omega);exact rfl;exact rfl)
   rw [hz]
   repeat refine aB ?_
   (refine aU rfl (NOf (x:=z) (by omega)) ?_;rintro _ _ _ ⟨rfl,e1,rfl,he1,rfl⟩;refine aL ?_)
   repeat refine aB ?_
   refine dP rfl (hC p j _ _ ⟨by omega,by omega⟩) ?_
   (refine aU rfl (NOf (x:=p.co j) (by omega)) ?_;rintro _ _ _ ⟨rfl,e2,rfl,he2,rfl⟩;refine aL ?_)
   (refine aU rfl (uMul (a:=e1) (b:=e2) (k:=63) (m:=63) (by decide) aA aA) ?_;rintro _ _ _ ⟨rfl,e3,rfl,he3,rfl⟩;refine aL ?_)
   refine aED (k2:=127+j) (u:=nv e3) (z:=e3.z) (k:=126) aA (by omega) ?_
   (refine aU rfl (uAdd (a:=e) (b:=e3) (k:=127+j) (c:=127+(j+1)) (by omega) (by omega) aA aA) ?_;rintro _ _ _ ⟨rfl,e4,rfl,he4,rfl⟩;refine aL ?_)
   repeat refine aB ?_
   refine qZ (M':= .blk b12 (eN e4) 38:: .blk b9 (recs (eI .i64) vs) 91:: .blk b6 (gP ⟨0,0,0⟩) 31::M0) (I':=qH e4 (127+(j+1))::aI (some ⟨b8,0,none⟩) (recs (eI .i64) ms)::aI (some ⟨b5,0,none⟩) (gP s)::aI (some ⟨b4,0,none⟩) (gP p)::aI (some ⟨b3,0,none⟩) (eQ q)::I0) SubP.refl aF ?_
   refine iC (3 - (j+1)) (⟨j+1,e4,by omega,rfl,by rw [he4,he,he3,he1,he2,hnx],rfl,rfl,rfl⟩)
  ·obtain rfl:j=3:=by omega
   have hb3':e.z.natAbs < 1000000000000000000000000000:=by rw [he];omega
   repeat refine aB ?_
   (refine aU rfl (aOT (u:=nv e) (z:=e.z) (k:=127+3) hb3' (by decide) aA) ?_;rintro _ _ _ ⟨rfl,rfl,n,b,rfl,hnb⟩;refine aL ?_)
   repeat refine yXh ?_
   (refine oH (v:= .int .i64 n) (cs':=recs (eI .i64) (st vs (i:Int) n)) rfl rfl rfl iN (by rw [Nat.zero_add];exact StAt.r0 n ⟨by omega,by omega⟩ (by decide) rfl) rfl rfl ⟨okF,?_⟩)
   have hold:∀j:Nat,j < i→gt (st vs (i:Int) n) (j:Int)=gt vs (j:Int):=fun j hj=>by rw [aBO n ⟨by omega,by omega⟩ (by omega),if_neg (by omega)]
   have hnew:gt (st vs (i:Int) n) (i:Int)=n:=by rw [aBO n ⟨by omega,by omega⟩ (by omega),if_pos rfl]
   by_cases hok:ok=true∧b=true
   ·obtain ⟨rfl,rfl⟩:=hok
    have hn:=hnb rfl
    rw [he] at hn
    repeat refine aB ?_
    refine lL (cs:=recs (eI .i64) [n]) ([.int .i64 n]) rfl (fun b20=>?_)
    refine aC .here ?_
    refine dP rfl (zH (lim:=1048576) (by decide) rfl (by decide) aA) ?_
    by_cases hfar:farL 1048576 [n]
    ·rw [cB hfar]
     repeat refine aB ?_
     refine qZ (M':= .blk b9 (recs (eI .i64) (st vs (i:Int) n)) 91:: .blk b6 (gP ⟨0,0,0⟩) 31::M0) (I':=aI (some ⟨b8,0,none⟩) (recs (eI .i64) ms)::aI (some ⟨b5,0,none⟩) (gP s)::aI (some ⟨b4,0,none⟩) (gP p)::aI (some ⟨b3,0,none⟩) (eQ q)::I0) aG aF ?_
     refine iC (3 - (i+1)) (⟨i+1,false,st vs (i:Int) n,by omega,rfl,⟨by rw [dB];exact hvl,fun h=>absurd h (by decide)⟩,rfl,rfl,rfl⟩)
    ·rw [bF hfar]
     repeat refine aB ?_
     refine qZ (M':= .blk b9 (recs (eI .i64) (st vs (i:Int) n)) 91:: .blk b6 (gP ⟨0,0,0⟩) 31::M0) (I':=aI (some ⟨b8,0,none⟩) (recs (eI .i64) ms)::aI (some ⟨b5,0,none⟩) (gP s)::aI (some ⟨b4,0,none⟩) (gP p)::aI (some ⟨b3,0,none⟩) (eQ q)::I0) aG aF ?_
     refine iC (3 - (i+1)) (⟨i+1,true,st vs (i:Int) n,by omega,rfl,⟨by rw [dB];exact hvl,fun _ j hj=>?_⟩,rfl,rfl,rfl⟩)
     by_cases hji:j=i
     ·subst hji
      rw [hnew]
      exact ⟨hn,by
       have h1:¬(n < -1048576∨1048576 < n):=fun h=>hfar ⟨n,by simp,h⟩
       omega⟩
     ·rw [hold j (by omega)]
      exact hvs rfl j (by omega)
   ·have hcs:(ok=false)∨(ok=true∧b=false):=by cases ok <;>cases b <;>simp_all
    rcases hcs with rfl|⟨rfl,rfl⟩
    ·repeat refine aB ?_
     refine qZ (M':= .blk b9 (recs (eI .i64) (st vs (i:Int) n)) 91:: .blk b6 (gP ⟨0,0,0⟩) 31::M0) (I':=aI (some ⟨b8,0,none⟩) (recs (eI .i64) ms)::aI (some ⟨b5,0,none⟩) (gP s)::aI (some ⟨b4,0,none⟩) (gP p)::aI (some ⟨b3,0,none⟩) (eQ q)::I0) aG aF ?_
     refine iC (3 - (i+1)) (⟨i+1,false,st vs (i:Int) n,by omega,rfl,⟨by rw [dB];exact hvl,fun h=>absurd h (by decide)⟩,rfl,rfl,rfl⟩)
    ·repeat refine aB ?_
     refine qZ (M':= .blk b9 (recs (eI .i64) (st vs (i:Int) n)) 91:: .blk b6 (gP ⟨0,0,0⟩) 31::M0) (I':=aI (some ⟨b8,0,none⟩) (recs (eI .i64) ms)::aI (some ⟨b5,0,none⟩) (gP s)::aI (some ⟨b4,0,none⟩) (gP p)::aI (some ⟨b3,0,none⟩) (eQ q)::I0) aG aF ?_
     refine iC (3 - (i+1)) (⟨i+1,false,st vs (i:Int) n,by omega,rfl,⟨by rw [dB];exact hvl,fun h=>absurd h (by decide)⟩,rfl,rfl,rfl⟩)
 ·obtain rfl:i=3:=by omega
  match vs,hvl,hvs with
  |[v0,v1,v2],_,hvs=>
   repeat refine aB ?_
   (refine aD rfl (fun _=>dK (vals:=[.int .i64 v0, .int .i64 v1, .int .i64 v2]) (cells:=gP ⟨v0,v1,v2⟩) rfl ?hpl rfl ?hz) rfl rfl ?_;(case hpl=>repeat (first|exact True.intro|refine ⟨rfl,?_⟩));(case hz=>rfl))
   repeat refine aB ?_
   refine dI (rs:=[.cell 6 31, .tmp 7]) (vs:=[p3v ⟨v0,v1,v2⟩, .bool ok]) (.inl rfl) rfl (.cellN (cs:=gP ⟨v0,v1,v2⟩) inferInstance rfl aA rfl (.tmp rfl .nil)) rfl M0 I0 aG aF ⟨rfl,rfl,⟨v0,v1,v2⟩,ok,rfl,fun h=>?_⟩
   have g0:=hvs h 0 (by decide)
   have g1:=hvs h 1 (by decide)
   have g2:=hvs h 2 (by decide)
   refine ⟨?_,⟨g0.2,g1.2,g2.2⟩⟩
   unfold jI
   rw [←g0.1,←g1.1,←g2.1]
   rfl
end
end Go.Proofs.YtgpkjcmipiodcaaGreat

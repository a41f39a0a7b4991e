/- integer: times, whose result is owned The walk, kept once. -/
import Derived.Test.YtgpkjcmipiodcaaGreatZwai
import Derived.Test.YtgpkjcmipiodcaaGreatZwah
import Derived.Test.YtgpkjcmipiodcaaGreatZwaf
import Derived.Test.YtgpkjcmipiodcaaGreatZwae
import Derived.Test.YtgpkjcmipiodcaaGreatZwaj
set_option linter.unusedSimpArgs false
set_option linter.unusedVariables false
set_option maxRecDepth 100000
set_option maxHeartbeats 4000000
namespace Go.Proofs.YtgpkjcmipiodcaaGreat
open Go Go.Fx
theorem aVH {w:World} {base b:Nat} {e:TypeId} {sz m c:Nat} {cs:List Value} (h:Blk w b cs e) (hb:base≤b) (hl:cs.length=c*sz) (hmc:m≤c) (hm:c≤9223372036854775807):w.ownsRow base e sz (.slice (some ⟨b,0,none⟩) m c) m (cs.take (m*sz)):=
 ⟨by rw [List.length_take,hl,Nat.min_eq_left (Nat.mul_le_mul_right _ hmc)], .inr ⟨b,c,cs.toArray,rfl,hb,h,hmc,by simpa [maxLen] using hm,by simpa using hl,by simp⟩⟩
theorem _root_.Go.Fx.Mem.toRowT {X:List Nat} {w0 w:World} {M M':List Ent} {I:List aV} {b m c:Nat} {cs:List Value} {e:TypeId} (sz:Nat) (h:Mem X w0 M I w) (hr:Rep (.blk b cs e) (.row (some ⟨b,0,none⟩) m c (cs.take (m*sz)) e sz) M M') (hl:cs.length=c*sz) (hmc:m≤c) (hm:c≤9223372036854775807):Mem X w0 M' I w:=by
 have hb:Blk w b cs e:=h.ent _ hr.mem
 exact h.upd hr (Ext.refl _ _) (fun b hb=> .inl hb) (by simp [Ent.blocks]) (aVH hb (Nat.zero_le _) hl hmc hm)
theorem _root_.Go.Fx.Mem.imm0 {X:List Nat} {w0 w:World} {M:List Ent} {I:List aV} (h:Mem X w0 M I w):Mem [] w [] [] w:=⟨Ext.refl _ _,fun _ h=>absurd h (by simp [muts]),by simp [muts],fun _ h=>absurd h (by simp),fun _ h=>absurd h (by simp)⟩
theorem aDN (l:List Int) (k:Nat):(recs eG l).take k=recs eG (l.take k):=by
 rw [rJ,rJ,List.map_take]
section
variable {X:List Nat} {w0:World} {M0:List Ent} {I0:List aV}
theorem aGA {p q:Option Addr} {m n cp cq:Nat} (hm:(gr m).length≤100000000000) (hn:(gr n).length≤100000000000) (hp:aI p (recs eG (gr m))∈I0) (hq:aI q (recs eG (gr n))∈I0):
  CD Tryz.prog 130 [.slice p (gr m).length cp, .slice q (gr n).length cq] X w0 M0 I0 (fun v M I=>∃b c,v= .slice (some ⟨b,0,none⟩) (gr (m*n)).length c∧(gr (m*n)).length≤c∧M= .row (some ⟨b,0,none⟩) (gr (m*n)).length c (recs eG (gr (m*n))) 181 1::M0∧I0=I):=by
 have da:=bK m
 have db:=bK n
 have va:=bT m
 have vb:=bT n
 generalize ha:gr m=a at*
 generalize hb:gr n=b at*
 refine eD Tryz.func130 rfl Tryz.ntmps130 rfl ?_
 repeat refine lY ?_
 (refine lM (a.length+b.length) rfl rfl (by omega) (by omega) (by omega) (by omega) (nT _ _) rfl rfl ?_;intro bo;refine ⟨okJ,?_⟩)
 repeat refine lY ?_
 refine eO [1,5,18,19] rfl (fun k G M I=>∃(i:Nat) (o:List Int),i≤a.length∧k=a.length - i∧o.length=a.length+b.length∧Dig o∧val o=val (a.take i)*val b∧(∀j:Nat,i+b.length≤j→o.getD j 0=0)∧G=[(20, .int .i64 i)]∧M= .blk bo (recs eG o) 181::M0∧I0=I) (a.length) _ _ _ dS bX bV (⟨0,_,by omega,by omega,by simp,Dig.zeros _,by rw [xA];simp [val],fun j _=>by simp [List.getD,List.getElem?_replicate];split <;>rfl,rfl,rfl,rfl⟩) ?_
 rintro k G M I ⟨i,o,hi,rfl,ho,hd,hv,hz,rfl,rfl,rfl⟩
 repeat' (first|refine lY ?_|refine aQ rfl (fun h=>?_) (fun h=>?_)|refine aR rfl rfl (fun h=>?_) (fun h=>?_)|fail)
 ·have hia:i < a.length:=by omega
  have d1:=da.gt i
  refine eO [1,5,6,7,18,19,20,25,26] rfl (fun k G M I=>∃(j:Nat) (u:List Int) (c:Int),j≤b.length∧k=b.length - j∧u.length=a.length+b.length∧Dig u∧(0≤c∧c < 1000000000)∧val u+1000000000 ^ (i+j)*c=val (a.take i)*val b+1000000000 ^ i*(gt a i*val (b.take j))∧(∀j:Nat,i+b.length≤j→u.getD j 0=0)∧G=[(8, .int .u64 c),(27, .int .i64 j)]∧M= .blk bo (recs eG u) 181::M0∧I0=I) (b.length) _ _ _ dS bX bV (⟨0,o,0,by omega,by omega,ho,hd,by omega,by simp [val,hv],hz,rfl,rfl,rfl⟩) ?_
  rintro k G M I ⟨j,u,c,hj,rfl,hu,hdu,hc,hvu,hzu,rfl,rfl,rfl⟩
  have d2:=db.gt j
  have d3:=hdu.gt ((i:Int)+j)
  have d4:=uI d1 d2 d3 hc
  have e1:(gt u ((i:Int)+j)+gt a i*gt b j+c).tmod 1000000000=(gt u ((i:Int)+j)+gt a i*gt b j+c) % 1000000000:=Int.tmod_eq_emod_of_nonneg d4.2.1.1
  have e2:(gt u ((i:Int)+j)+gt a i*gt b j+c).tdiv 1000000000=(gt u ((i:Int)+j)+gt a i*gt b j+c) / 1000000000:=Int.tdiv_eq_ediv_of_nonneg d4.2.1.1
  repeat' (first|refine lY ?_|refine aQ rfl (fun h=>?_) (fun h=>?_)|refine aR rfl rfl (fun h=>?_) (fun h=>?_)|fail)
  ·have hst:=aLW (o:=u) (b:=b) (j:=j) hvu (by omega)
   rw [e1,e2]
   refine bY (b.length - (j+1)) _ _ _ (by first|omega|(simp only [List.length_append,List.length_cons,List.length_nil];omega)) dS bX bV (⟨j+1,_,_,by omega,rfl,by rw [dB];exact hu,?_,d4.2.2,?_,?_,rfl,rfl,rfl⟩)
   ·rw [iE];exact hdu.set _ (by omega)
   ·rw [iE,aBA,xR,xR]
    rw [xR] at hst
    exact hst
   ·intro t ht
    rw [iE,mW _ (by omega)]
    exact hzu t ht
  ·have hjb:j=b.length:=by omega
   subst hjb
   have hst:=aIB (o:=u) (b:=b) hvu (by omega) (hzu _ (Nat.le_refl _))
   repeat refine lY ?_
   refine bY (a.length - (i+1)) _ _ _ (by first|omega|(simp only [List.length_append,List.length_cons,List.length_nil];omega)) dS bX bV (⟨i+1,_,by omega,rfl,by rw [dB];exact hu,?_,?_,?_,rfl,rfl,rfl⟩)
   ·rw [iE];exact hdu.set _ hc
   ·rw [iE,hst,bR,xR]
    rw [Int.add_mul,Int.mul_assoc]
   ·intro t ht
    rw [iE,mW _ (by omega)]
    exact hzu t (by omega)
 ·have hiN:i=a.length:=by omega
  subst hiN
  rw [List.take_length,va,vb] at hv
  have hg:gH o=gr (m*n):=pE hd (by rw [hv,Int.natCast_mul])
  (refine aU rfl (CD.lend [aI (some ⟨bo,0,none⟩) (recs eG o)] (fun w hw=>Mem.lendB (b:=bo) (e:=181) aY hw hw.imm0) (fun W=>(sN (X:=[]) (w0:=W) (M0:=[]) (I0:=[aI (some ⟨bo,0,none⟩) (recs eG o)]) (l:=o) (c:=a.length+b.length) ho.symm (by omega) (by omega) aY).mono (fun _ _ _ h=>h.2.2))) ?_;rintro _ _ _ ⟨rfl,rfl,rfl⟩;refine aL ?_)
  repeat refine lY ?_
  have hle2:=yR (o:=o)
  obtain ⟨kk,hk1,hk2,_⟩:=xB o
  have hlk:(gr (m*n)).length=kk:=by rw [←hg,hk2,List.length_take];omega
  rw [hg] at hle2 ⊢
  refine aBR (I':=I0) (M':= .row (some ⟨bo,0,none⟩) (gr (m*n)).length (a.length+b.length) (recs eG (gr (m*n))) 181 1::M0) (fun w hw=>?_) ?_
  ·refine hw.toRowT (b:=bo) (e:=181) (cs:=recs eG o) (c:=a.length+b.length) (m:=(gr (m*n)).length) 1 ?_ (by rw [rJ,List.length_map];omega) (by omega) (by omega)
   have e:(recs eG o).take ((gr (m*n)).length*1)=recs eG (gr (m*n)):=by rw [hlk,Nat.mul_one,←hg,hk2,aDN]
   rw [e]
   exact sQ
  ·refine aH (by first|exact .inl rfl|exact .inr rfl) rfl rfl _ _ bX bV (⟨_,_,rfl,by omega,rfl,rfl⟩)
end
end Go.Proofs.YtgpkjcmipiodcaaGreat
namespace Go.Fx
theorem iI {p g:Prop} (h:g) (w:BoxP g→p:=by (intro hh;(first|refine aJ ?_|refine iD ?_|refine pK ?_|refine mF ?_|refine jM ?_|refine jE ?_|refine lV ?_|refine lJ ?_|refine jP ?_|refine jL ?_|refine oZ ?_|refine oU ?_|refine pU ?_|refine oP rfl ?_|refine aT ?_|(refine jZ ?_;first|refine kE rfl rfl rfl ?_|(refine kR rfl rfl ?_;refine iU rfl rfl rfl okK ?_)|refine kQ rfl rfl (by omega) ?_|refine kG rfl rfl (by omega) ?_)|(refine dY ?_;refine aD rfl (fun _=>fU rfl) rfl rfl ?_)|refine aD rfl (fun _=>bP rfl) rfl rfl ?_|(refine kL ?_;first|refine aD rfl (fun _=>dF rfl rfl w_) rfl rfl ?_|refine aD rfl (fun _=>dG rfl rfl w_) rfl rfl ?_|refine aD rfl (fun _=>gZ rfl rfl w_) rfl rfl ?_|refine aD rfl (fun _=>gX rfl rfl (by omega) q_) rfl rfl ?_|refine aD rfl (fun _=>gY rfl rfl (by omega) rfl) rfl rfl ?_|refine aD rfl (fun _=>fZ rfl rfl) rfl rfl ?_|refine aD rfl (fun _=>gV rfl rfl) rfl rfl ?_|refine aD rfl (fun _=>gT rfl rfl) rfl rfl ?_)|(refine dY ?_;first|refine aD rfl (fun _=>gJ rfl w_) rfl rfl ?_)|(refine jW ?_;first|refine aD rfl (fun _=>fB rfl w_) rfl rfl ?_)|(refine jV ?_;first|refine aD rfl (fun _=>dE rfl) rfl rfl ?_|refine aD rfl (fun _=>fQ rfl rfl) rfl rfl ?_|refine aD rfl (fun _=>fT rfl rfl) rfl rfl ?_|refine aD rfl (fun _=>fV rfl rfl rfl) rfl rfl ?_)|(refine kK ?_;first|refine jY rfl (by decide) rfl rfl ?_|refine nJ rfl (by decide) rfl rfl ?_)|(refine kD ?_;first|refine aD rfl (fun _=>fA rfl) rfl rfl ?_)|(refine kF ?_;first|refine nE rfl rfl jH rfl rfl ?_|refine nK uK rfl rfl jH aY nQ rfl rfl ?_|refine nI uK rfl rfl jH aY nQ rfl rfl ?_|refine aD rfl (fun _=>dV rfl rfl jH) rfl rfl ?_)|(refine kI ?_;first|refine nH uK rfl aY xQ rfl rfl ?_|refine nG uK rfl aY xQ rfl rfl ?_|refine kX uK rfl aY xQ rfl rfl ?_|refine jF uK rfl aY xQ rfl rfl ?_|refine rE uK rfl aY nL jR rfl rfl ?_|refine rC uK rfl aY nL jR rfl rfl ?_|refine rD uK rfl aY nL jR rfl rfl ?_|refine pQ uK rfl aY nL jR rfl rfl ?_)|(refine jX ?_;first|refine aD rfl (fun _=>dW rfl rfl) rfl rfl ?_|refine aD rfl (fun _=>dJ rfl) rfl rfl ?_)|(refine oF ?_;first|refine oH rfl rfl rfl sQ stC rfl rfl ⟨okK,?_⟩|refine fM rfl rfl jR nU sQ aBS rfl rfl ⟨okK,?_⟩)|(refine mD ?_;first|refine fD rfl ?_|refine dZ rfl ?_|refine oQ rfl (by omega) ?_|refine sJ rfl (by omega) ?_));(repeat (first|refine aJ ?_|refine iD ?_|refine pK ?_|refine mF ?_|refine jM ?_|refine jE ?_|refine lV ?_|refine lJ ?_|refine jP ?_|refine jL ?_|refine oZ ?_|refine oU ?_|refine pU ?_|refine oP rfl ?_|refine aT ?_|(refine jZ ?_;first|refine kE rfl rfl rfl ?_|(refine kR rfl rfl ?_;refine iU rfl rfl rfl okK ?_)|refine kQ rfl rfl (by omega) ?_|refine kG rfl rfl (by omega) ?_)|(refine dY ?_;refine aD rfl (fun _=>fU rfl) rfl rfl ?_)|refine aD rfl (fun _=>bP rfl) rfl rfl ?_|(refine kL ?_;first|refine aD rfl (fun _=>dF rfl rfl w_) rfl rfl ?_|refine aD rfl (fun _=>dG rfl rfl w_) rfl rfl ?_|refine aD rfl (fun _=>gZ rfl rfl w_) rfl rfl ?_|refine aD rfl (fun _=>gX rfl rfl (by omega) q_) rfl rfl ?_|refine aD rfl (fun _=>gY rfl rfl (by omega) rfl) rfl rfl ?_|refine aD rfl (fun _=>fZ rfl rfl) rfl rfl ?_|refine aD rfl (fun _=>gV rfl rfl) rfl rfl ?_|refine aD rfl (fun _=>gT rfl rfl) rfl rfl ?_)|(refine dY ?_;first|refine aD rfl (fun _=>gJ rfl w_) rfl rfl ?_)|(refine jW ?_;first|refine aD rfl (fun _=>fB rfl w_) rfl rfl ?_)|(refine jV ?_;first|refine aD rfl (fun _=>dE rfl) rfl rfl ?_|refine aD rfl (fun _=>fQ rfl rfl) rfl rfl ?_|refine aD rfl (fun _=>fT rfl rfl) rfl rfl ?_|refine aD rfl (fun _=>fV rfl rfl rfl) rfl rfl ?_)|(refine kK ?_;first|refine jY rfl (by decide) rfl rfl ?_|refine nJ rfl (by decide) rfl rfl ?_)|(refine kD ?_;first|refine aD rfl (fun _=>fA rfl) rfl rfl ?_)|(refine kF ?_;first|refine nE rfl rfl jH rfl rfl ?_|refine nK uK rfl rfl jH aY nQ rfl rfl ?_|refine nI uK rfl rfl jH aY nQ rfl rfl ?_|refine aD rfl (fun _=>dV rfl rfl jH) rfl rfl ?_)|(refine kI ?_;first|refine nH uK rfl aY xQ rfl rfl ?_|refine nG uK rfl aY xQ rfl rfl ?_|refine kX uK rfl aY xQ rfl rfl ?_|refine jF uK rfl aY xQ rfl rfl ?_|refine rE uK rfl aY nL jR rfl rfl ?_|refine rC uK rfl aY nL jR rfl rfl ?_|refine rD uK rfl aY nL jR rfl rfl ?_|refine pQ uK rfl aY nL jR rfl rfl ?_)|(refine jX ?_;first|refine aD rfl (fun _=>dW rfl rfl) rfl rfl ?_|refine aD rfl (fun _=>dJ rfl) rfl rfl ?_)|(refine oF ?_;first|refine oH rfl rfl rfl sQ stC rfl rfl ⟨okK,?_⟩|refine fM rfl rfl jR nU sQ aBS rfl rfl ⟨okK,?_⟩)|(refine mD ?_;first|refine fD rfl ?_|refine dZ rfl ?_|refine oQ rfl (by omega) ?_|refine sJ rfl (by omega) ?_)));exact hh.out)):p:=w ⟨h⟩
end Go.Fx
namespace Go.Proofs.YtgpkjcmipiodcaaGreat
open Go Go.Fx Go.RowKit Go.Shelf
attribute [local go_sem] Oper.semAt_some
theorem aSD (w:World) (m:Nat) (hm:m≤100000000000):(Instr.makeSlice 36 (.int .i64 (m:Int)) (.int .i64 (m:Int))).run Tryz.prog w= .ok (.slice (some ⟨w.heap.size,0,none⟩) m m) (w.alloc (.cells (madeCells #[.int .u32 0] m) 181)):=by
 have ht:SliceTy Tryz.prog 36 181 1:=inferInstance
 have hz:ElemTy Tryz.prog 181 1 4 [.int .u32 0]:=inferInstance
 obtain ⟨i,v,hi,hs,hby,hzv,hcl⟩:=zX hz
 have hr:=run_make (P:=Tryz.prog) w 36 181 i v ht.und hi hzv .i64 .i64 m m (by omega) (by omega) (by rw [hby];omega) (by omega)
 simpa only [Int.toNat_natCast,hs,hcl,Nat.mul_one] using hr
theorem aQV {P:Program} {fn:Func} {tmps:Array Value} {w:World} {rs:List ResultVar} {vs:List Value} (hr:fn.results=rs.toArray) (hv:aFZ P tmps w rs vs) (hl:Nat.beq vs.length 1=false):(results fn tmps).run P w= .ok (.tuple vs.toArray) w:=by
 have e1:=zZ P tmps w rs vs hv
 have hne:¬vs.length=1:=by intro e;simp [e] at hl
 unfold results
 rw [hr,Sem.run_bind]
 refine (congrArg (fun r=>Result.andThen r fun a w'=>Sem.run P (pure (if h:a.size=1 then a[0] else Value.tuple a)) w') e1).trans ?_
 simp [hne]
def shS (d:Int) (st:List Int × Int) (i:Nat) (g:Int):List Int × Int:=(st.1.set i ((st.2*1000000000+g).tdiv d),(st.2*1000000000+g).tmod d)
def shF (zs:List Int) (d:Int) (pre:List (Dg zs)):List Int × Int:=pre.foldl (fun st x=>shS d st x.1 (zs[x.1]?.getD 0)) (List.replicate zs.length 0,0)
theorem aKD (zs:List Int) (d:Int) (pre:List (Dg zs)) (x:Dg zs):shF zs d (pre++[x])=shS d (shF zs d pre) x.1 (zs[x.1]?.getD 0):=by simp [shF]
theorem bAE {d:Int} {st:List Int × Int} {i:Nat} {g:Int} (hd:0 < d∧d < 1000000000) (hr:0≤st.2∧st.2 < d) (hg:0≤g∧g < 1000000000):(shS d st i g).1.length=st.1.length∧0≤(shS d st i g).2∧(shS d st i g).2 < d:=by
 unfold shS
 refine ⟨by simp,?_⟩
 simp only
 rw [Int.tmod_eq_emod_of_nonneg (by omega)]
 exact ⟨Int.emod_nonneg _ (by omega),Int.emod_lt_of_pos _ hd.1⟩
theorem aHS {zs:List Int} {d:Int} (hd:0 < d∧d < 1000000000) (hz:Dig zs) (pre:List (Dg zs)):(shF zs d pre).1.length=zs.length∧0≤(shF zs d pre).2∧(shF zs d pre).2 < d:=by
 unfold shF
 generalize hs:(List.replicate zs.length (0:Int),(0:Int))=st
 have h0:st.1.length=zs.length∧0≤st.2∧st.2 < d:=by subst hs;simp;exact hd.1
 clear hs
 induction pre generalizing st with
 |nil=>exact h0
 |cons x r ih=>
  rw [List.foldl_cons]
  refine ih _ ?_
  have:=bAE (i:=x.1) (g:=zs[x.1]?.getD 0) hd h0.2 (by have:=hz.getD x.1;simpa using this)
  exact ⟨this.1.trans h0.1,this.2⟩
theorem tV {A B:World} {row:Option Nat} {b n:Nat} {cs:List Value} {e:TypeId} (h:Blk A b cs e) (hb:b < n) (hg:A.grownBy B row) (hr:∀j,row=some j→n≤j):Blk B b cs e:=
 (hg.block b h.lt (fun e=>by have:=hr b e.symm;omega)).trans h
structure ShI (s len:Nat) (d:Int) (st:List Int × Int) (W:World):Prop where
 b0:Blk W s [.int .u32 d] 181
 b1:Blk W (s+1) [.slice (some ⟨s+1+1,0,none⟩) len len] 36
 b2:Blk W (s+1+1) (recs eG st.1) 181
 b3:Blk W (s+1+1+1) [.int .u64 st.2] 172
theorem ShI.mem {s len:Nat} {d:Int} {st:List Int × Int} {W:World} (h:ShI s len d st W):
  Mem [s,s+1,s+1+1,s+1+1+1] W [.blk s [.int .u32 d] 181, .blk (s+1) [.slice (some ⟨s+1+1,0,none⟩) len len] 36, .blk (s+1+1) (recs eG st.1) 181, .blk (s+1+1+1) [.int .u64 st.2] 172] [] W:=by
 refine ⟨Ext.refl _ _,?_,?_,?_,fun _ h=>by cases h⟩
 ·intro b hb
  simp [muts,Ent.blocks] at hb
  simp;omega
 ·simp [muts,Ent.blocks]
  omega
 ·intro e he
  simp only [List.mem_cons,List.not_mem_nil,or_false] at he
  rcases he with rfl|rfl|rfl|rfl
  ·exact h.b0
  ·exact h.b1
  ·exact h.b2
  ·exact h.b3
theorem ShI.of {s len:Nat} {d:Int} {st:List Int × Int} {W0 W:World} {X:List Nat} {I:List aV} (h:Mem X W0 [.blk s [.int .u32 d] 181, .blk (s+1) [.slice (some ⟨s+1+1,0,none⟩) len len] 36, .blk (s+1+1) (recs eG st.1) 181, .blk (s+1+1+1) [.int .u64 st.2] 172] I W):ShI s len d st W:=
 ⟨h.blk (by simp),h.blk (by simp),h.blk (by simp),h.blk (by simp)⟩
theorem aRZ (a:Option Addr) (cap:Nat) (zs:List Int) (d:Int) (w:World) (hz:zs.length≤100000000000) (hD':Dig zs) (hd:0 < d∧d < 1000000000) (hI:Sl [] w a (recs eG zs)):
  CallsIn Fence.wide 5 Tryz.prog 147 #[.slice a zs.length cap, .int .u32 d] w fun e w'=>∃b c',e= .returned (.tuple #[.slice (some ⟨b,0,none⟩) (gH (shF zs d (sV zs zs.length)).1).length c', .int .u32 (shF zs d (sV zs zs.length)).2])∧Below w.heap.size w w'∧(gH (shF zs d (sV zs zs.length)).1).length≤c'∧w.heap.size≤b∧Sl [] w' (some ⟨b,0,none⟩) (recs eG (gH (shF zs d (sV zs zs.length)).1)):=by
 refine callsIn_of_wp_marks Tryz.func147 rfl trivial ?_ rfl
 simp only [Tryz.ntmps147,List.size_toArray,List.length_cons,List.length_nil,Nat.reduceAdd,Nat.reduceSub,Array.replicate_succ,Array.replicate_zero,List.push_toArray,List.append_toArray,List.nil_append,List.cons_append]
 gi_wp2_with (refine ⟨trivial,?_⟩;gi_at_call 131;refine (xL Fence.wide _ trivial rfl _ _ _ _).mono ?_;rintro e w' ⟨rfl,rfl⟩)
 rw [aSD _ _ (by omega)]
 gi_wp2_with (refine ⟨trivial,?_⟩;gi_at_call 131;refine (xL Fence.wide _ trivial rfl _ _ _ _).mono ?_;rintro e w' ⟨rfl,rfl⟩)
 generalize hW0:((((w.alloc (.cells #[.int .u32 d] 181)).alloc (.cells #[.slice (some ⟨w.heap.size+1+1,0,none⟩) zs.length zs.length] 36)).alloc (.cells (madeCells #[.int .u32 0] zs.length) 181)).alloc (.cells #[.int .u64 0] 172)).alloc (.cells #[.slice a zs.length cap] 36)=W0
 have hBl:Below w.heap.size w W0:=by
  subst hW0
  exact (((((Below.refl _ w).alloc (Nat.le_refl _) _).alloc (by simp) _).alloc (by simp;omega) _).alloc (by simp;omega) _).alloc (by simp;omega) _
 have hsz:W0.heap.size=w.heap.size+1+1+1+1+1:=by subst hW0;simp
 have hSh:ShI w.heap.size zs.length d (shF zs d []) W0:=by
  subst hW0
  refine ⟨?_,?_,?_,?_⟩
  ·exact (heap_alloc_old _ _ (h:=by simp <;>omega)).trans ((heap_alloc_old _ _ (h:=by simp <;>omega)).trans ((heap_alloc_old _ _ (h:=by simp <;>omega)).trans ((heap_alloc_old _ _ (h:=by simp)).trans (heap_alloc_new _ _))))
  ·have:=heap_alloc_new (w.alloc (.cells #[.int .u32 d] 181)) (.cells #[.slice (some ⟨w.heap.size+1+1,0,none⟩) zs.length zs.length] 36)
   rw [World.size_alloc] at this
   exact (heap_alloc_old _ _ (h:=by simp <;>omega)).trans ((heap_alloc_old _ _ (h:=by simp <;>omega)).trans ((heap_alloc_old _ _ (h:=by simp)).trans this))
  ·have:=heap_alloc_new ((w.alloc (.cells #[.int .u32 d] 181)).alloc (.cells #[.slice (some ⟨w.heap.size+1+1,0,none⟩) zs.length zs.length] 36)) (.cells (madeCells #[.int .u32 0] zs.length) 181)
   simp only [World.size_alloc] at this
   refine (heap_alloc_old _ _ (h:=by simp <;>omega)).trans ((heap_alloc_old _ _ (h:=by simp)).trans (this.trans ?_))
   have e:(madeCells #[.int .u32 0] zs.length)=(recs eG (List.replicate zs.length 0)).toArray:=by
    have:=nT .u32 zs.length
    rw [Nat.mul_one] at this
    rw [←this]
   rw [e]
   rfl
  ·have:=heap_alloc_new (((w.alloc (.cells #[.int .u32 d] 181)).alloc (.cells #[.slice (some ⟨w.heap.size+1+1,0,none⟩) zs.length zs.length] 36)).alloc (.cells (madeCells #[.int .u32 0] zs.length) 181)) (.cells #[.int .u64 0] 172)
   simp only [World.size_alloc] at this
   exact (heap_alloc_old _ _ (h:=by simp)).trans this
 have hb:W0.cell? ⟨w.heap.size+1+1+1+1,0,none⟩=some (.slice a zs.length cap):=by
  subst hW0
  have:=(jT ((((w.alloc (.cells #[.int .u32 d] 181)).alloc (.cells #[.slice (some ⟨w.heap.size+1+1,0,none⟩) zs.length zs.length] 36)).alloc (.cells (madeCells #[.int .u32 0] zs.length) 181)).alloc (.cells #[.int .u64 0] 172)) (.slice a zs.length cap) 36).1
  simpa only [World.size_alloc] using this
 have hI2:=Sl.mono hI (Ext.of_below hBl)
 refine wpIn_rangeFunc_ownG rfl (by decide) (gf:=172) (lb:=#[.pointer (some ⟨w.heap.size+1+1+1+1,0,none⟩)]) rfl trivial (enters_of Tryz.func172 (by kernel_rfl) rfl)
  (wP Fence.wide (5 - 1) trivial rfl (by decide) (w.heap.size+1+1+1+1) w.heap.size a cap zs (by omega) _ (by omega) (by omega) hb hI2 (aGF hI)) KpB.trans (aKM (by omega)) (Below.refl _ _) (fun _=>rfl)
  (fun pre W=>ShI w.heap.size zs.length d (shF zs d pre) W∧Below w.heap.size w W)
  (fun _ _ _=>False)
  (OwnFrom.and (fun pre A B row hs hg hr=>⟨tV hs.b0 (by omega) hg (fun j e=>(hr j e).1),tV hs.b1 (by omega) hg (fun j e=>(hr j e).1),tV hs.b2 (by omega) hg (fun j e=>(hr j e).1),tV hs.b3 (by omega) hg (fun j e=>(hr j e).1)⟩) (ownFrom_below (Nat.le_refl _) (by omega)))
  (fun _ _ _ _ _ hs _ _=>hs) ⟨hSh,hBl⟩ ?a1 ?assign ?body ?done ?stop
 case assign=>
  intro l x W K hK
  dsimp only [dgE]
  gi_wp2
  exact hK
 case body=>
  rintro l pre x W ⟨hS,hB⟩ hpl
  have hx:=x.2
  have hgx:0≤zs[x.1]?.getD 0∧zs[x.1]?.getD 0 < 1000000000:=by have:=hD'.getD x.1;simpa using this
  have hst:=aHS hd hD' pre
  have hc3:=hS.b3.cell (o:=0) rfl
  gi_wp2
  have ev:IntKind.u64.wrap ((shF zs d pre).snd*1000000000+IntKind.u64.wrap zs[x.val])=(shF zs d pre).snd*1000000000+zs[x.1]?.getD 0:=by
   have e:zs[x.1]=zs[x.1]?.getD 0:=by simp [hx]
   rw [e,wrap_u64 (n:=zs[x.1]?.getD 0) (by omega),wrap_u64 (by omega)]
  rw [ev]
  obtain ⟨o,ho⟩:∃o,(shF zs d pre).1=o:=⟨_,rfl⟩
  obtain ⟨r,hr⟩:∃r,(shF zs d pre).2=r:=⟨_,rfl⟩
  have hM:=hS.mem
  rw [hr] at hst ⊢
  rw [ho] at hst
  rw [ho,hr] at hM
  have hsn:=aKD zs d pre x
  unfold shS at hsn
  rw [ho,hr] at hsn
  have hV:0≤r*1000000000+zs[x.1]?.getD 0:=by omega
  have hq1:(r*1000000000+zs[x.1]?.getD 0).tdiv d=(r*1000000000+zs[x.1]?.getD 0) / d:=Int.tdiv_eq_ediv_of_nonneg hV
  have hq2:(r*1000000000+zs[x.1]?.getD 0) / d < 1000000000:=by
   apply Int.ediv_lt_of_lt_mul hd.1
   have:(r+1)*1000000000≤d*1000000000:=Int.mul_le_mul_of_nonneg_right (by omega) (by omega)
   omega
  have hq3:0≤(r*1000000000+zs[x.1]?.getD 0) / d:=Int.ediv_nonneg hV (by omega)
  have hm1:(r*1000000000+zs[x.1]?.getD 0).tmod d=(r*1000000000+zs[x.1]?.getD 0) % d:=Int.tmod_eq_emod_of_nonneg hV
  have hm2:=Int.emod_lt_of_pos (r*1000000000+zs[x.1]?.getD 0) hd.1
  have hm3:=Int.emod_nonneg (r*1000000000+zs[x.1]?.getD 0) (show d≠0 by omega)
  refine aLY (Has.cons (t:=3) (v:= .pointer (some ⟨w.heap.size,0,none⟩)) (Has.cons (t:=4) (v:= .pointer (some ⟨w.heap.size+1,0,none⟩)) (Has.cons (t:=6) (v:= .pointer (some ⟨w.heap.size+1+1+1,0,none⟩)) (Has.cons (t:=7) (v:= .int .i64 (x.1:Int)) (Has.cons (t:=9) (v:= .int .u64 (r*1000000000+zs[x.1]?.getD 0)) (Has.nil (n:=38) rfl rfl) rfl) rfl) rfl) rfl) rfl) (hM) (by rintro ⟨a,w,h⟩;exact h) 1 ([.blk w.heap.size [.int .u32 d] 181, .blk (w.heap.size+1) [.slice (some ⟨w.heap.size+1+1,0,none⟩) zs.length zs.length] 36]) ([]) [0,1,2,3,4,5,6,7,8,9,10,11,12,13] [0,0,0,0,0,0,0,1,1,1,1,0,0,0] bX bV mixed (by kernel_rfl) (by kernel_rfl) ?_
  repeat refine iI ?_
  refine ⟨fun W' hm=>⟨fun act ha=>?_⟩⟩
  refine ⟨aID hm.ext (fun k hk=>?_),⟨uW hm.ext (fun k hk=>?_) (by have:=hB.size;omega),fun v hv=>hm.ext.cell hv ?_⟩,⟨?_,?_⟩⟩
  ·simp at hk;omega
  ·simp at hk;omega
  ·simp;omega
  ·rw [hsn]
   exact ShI.of hm
  ·exact hB.trans (uW hm.ext (fun k hk=>by simp at hk;omega) (by have:=hB.size;omega))
 case done=>
  rintro D ys W hD rfl ⟨hS,hB⟩ hK
  have hst:=aHS hd hD' (sV zs zs.length)
  obtain ⟨o,ho⟩:∃o,(shF zs d (sV zs zs.length)).1=o:=⟨_,rfl⟩
  obtain ⟨r,hr⟩:∃r,(shF zs d (sV zs zs.length)).2=r:=⟨_,rfl⟩
  have hM:=hS.mem
  rw [hr,ho] at hst
  rw [ho,hr] at hM
  have hM2:=hM.freezeB (b:=w.heap.size+1+1) (cs:=recs eG o) (e:=181) (M':=[.blk w.heap.size [.int .u32 d] 181, .blk (w.heap.size+1) [.slice (some ⟨w.heap.size+1+1,0,none⟩) zs.length zs.length] 36, .blk (w.heap.size+1+1+1) [.int .u64 r] 172]) yI
  gi_wp2
  refine aMA (Has.cons (t:=4) (v:= .pointer (some ⟨w.heap.size+1,0,none⟩)) (Has.cons (t:=6) (v:= .pointer (some ⟨w.heap.size+1+1+1,0,none⟩)) (Has.nil (n:=38) rfl rfl) rfl) rfl) (hM2) 2 ([.blk (w.heap.size+1+1+1) [.int .u64 r] 172]) ([]) [0,2,3,1,4,5] [0,2,2,0,0,0] bX bV mixed (by kernel_rfl) ?_
  repeat refine iI ?_
  (refine aU rfl (sN (l:=o) (n:=zs.length) (c:=zs.length) (q:=some ⟨w.heap.size+1+1,0,none⟩) hst.1.symm (by omega) (by omega) aY) ?_;rintro _ _ _ ⟨rfl,rfl,rfl⟩;refine aL ?_)
  repeat refine iI ?_
  refine ⟨fun W' hm=>⟨fun act ha=>?_⟩⟩
  obtain ⟨tm,df⟩:=act
  have hdf:df=[]:=ha.defers
  subst hdf
  rename_i Q1 K1 hKK
  refine hKK _ _ (wpIn_ret ?_)
  have hX:∀k∈[w.heap.size,w.heap.size+1,w.heap.size+1+1,w.heap.size+1+1+1],w.heap.size≤k∧k < D:=fun k hk=>by simp at hk;omega
  have hK2:W'.heap[D]?=some (.deferred (some [])):=(hm.ext.block D (Array.getElem?_eq_some_iff.1 hK).1 (fun hk=>by have:=hX D hk;omega)).trans hK
  refine ⟨by simp, .inl ⟨_,_,rfl,run_takeDeferred hK2,?_⟩⟩
  have hg:W'.grownBy (W'.putObj D (.deferred none)) (some D):=grownBy_putObj' W' D _
  have hb1:Blk (W'.putObj D (.deferred none)) (w.heap.size+1) [.slice (some ⟨w.heap.size+1+1,0,none⟩) (gH o).length zs.length] 36:=tV (n:=D) (hm.blk (by simp)) (by omega) hg (fun j e=>by cases e;exact Nat.le_refl _)
  have hBf:Below w.heap.size w (W'.putObj D (.deferred none)):=(hB.trans (uW hm.ext (fun k hk=>(hX k hk).1) (by have:=hB.size;omega))).trans (belowK_b (w:=w) (Nat.le_refl _) _ D _ _ (by omega) hK2 rfl rfl)
  refine ⟨_,aQV (tmps:=tm) (rs:=[.cell 4 36, .tmp 5]) (vs:=[.slice (some ⟨w.heap.size+1+1,0,none⟩) (gH o).length zs.length, .int .u32 r]) rfl ⟨aFU (by simp [ha.get 4 _ rfl]) hb1,by simp [ha.get 5 _ rfl],trivial⟩ rfl,?_⟩
  rw [ho,hr]
  refine ⟨_,_,rfl,hBf,?_,?_,?_⟩
  ·have:=yR (o:=o);omega
  ·omega
  ·intro j v hj
   obtain ⟨h1,_,h3⟩:=(hm.sl (a:=some ⟨w.heap.size+1+1,0,none⟩) (cs:=recs eG (gH o)) (by simp)) j v hj
   exact ⟨h1,by simp,cell_kept h3 hg (fun r e=>by cases e;exact ⟨_,hK2,rfl⟩)⟩
 case stop=>
  rintro D c pre W _ _ h _
  exact h.elim
theorem aOD {zs:List Int} {d:Int} (hd:0 < d∧d < 1000000000) (hz:Dig zs):∀k,k≤zs.length→val (zs.drop (zs.length - k))=d*val ((shF zs d (sV zs k)).1.drop (zs.length - k))+(shF zs d (sV zs k)).2∧Dig (shF zs d (sV zs k)).1
 |0,_=>by
  have e:(shF zs d (sV zs 0))=(List.replicate zs.length 0,0):=rfl
  rw [e]
  simp [val]
  exact Dig.zeros _
 |k+1,hk=>by
  obtain ⟨h1,h2⟩:=aOD hd hz k (by omega)
  obtain ⟨l1,l2,l3⟩:=aHS hd hz (sV zs k)
  rw [rX (by omega),aKD]
  have e:zs.length - k=zs.length - (k+1)+1:=by omega
  have e2:zs.length - 1 - k=zs.length - (k+1):=by omega
  simp only [e2]
  rw [e] at h1
  have hg:zs[zs.length - (k+1)]?.getD 0=zs.getD (zs.length - (k+1)) 0:=by simp
  have hgd:=hz.getD (zs.length - (k+1))
  have hsm:=aEW hd.1 (by omega) ⟨l2,l3⟩ hgd
  have h3:=aIS (a:=zs) (q:=(shF zs d (sV zs k)).1) (i:=zs.length - (k+1)) (d:=d) (r:=(shF zs d (sV zs k)).2) (by omega) (by omega) h1
  unfold shS
  rw [hg,Int.tdiv_eq_ediv_of_nonneg (by omega),Int.tmod_eq_emod_of_nonneg (by omega)]
  exact ⟨h3,h2.set _ hsm.2.1⟩
section
variable {X:List Nat} {w0:World} {M0:List Ent} {I0:List aV}
theorem aEH {q:Option Addr} {n c d:Nat} (hn:(gr n).length≤100000000000) (hd:0 < d∧d < 1000000000) (hq:aI q (recs eG (gr n))∈I0):
  CD Tryz.prog 147 [.slice q (gr n).length c, .int .u32 d] X w0 M0 I0 (fun v M I=>M0=M∧∃p c',(gr (n / d)).length≤c'∧Ok p∧v= .tuple #[.slice p (gr (n / d)).length c', .int .u32 ((n % d:Nat):Int)]∧I=aI p (recs eG (gr (n / d)))::I0):=by
 have hd':0 < (d:Int)∧(d:Int) < 1000000000:=by omega
 obtain ⟨h1,h2⟩:=aOD hd' (bK n) (gr n).length (Nat.le_refl _)
 obtain ⟨l1,l2,l3⟩:=aHS hd' (bK n) (sV (gr n) (gr n).length)
 rw [Nat.sub_self,List.drop_zero,List.drop_zero,bT] at h1
 have hv0:=bQ h2
 have e1:val (shF (gr n) d (sV (gr n) (gr n).length)).1=((n / d:Nat):Int):=by
  rw [Int.natCast_ediv,h1,Int.add_comm,Int.add_mul_ediv_left _ _ (by omega),Int.ediv_eq_zero_of_lt l2 l3]
  omega
 have e2:(shF (gr n) d (sV (gr n) (gr n).length)).2=((n % d:Nat):Int):=by
  rw [Int.natCast_emod,h1,Int.add_comm,Int.add_mul_emod_self_left,Int.emod_eq_of_lt l2 l3]
 have e3:=pE h2 e1
 have hs:=fun (w:World) (hI:Sl [] w q (recs eG (gr n)))=>aRZ q c (gr n) d w hn (bK n) hd' hI
 rw [e3,e2] at hs
 refine ⟨fun w hw=>Calls.mono (callsIn_wide.1 (hs w ((hw.sl hq).less (by simp)))) ?_⟩
 rintro e w' ⟨b,c',rfl,hB,hle,hb,hS⟩
 refine ⟨_,rfl,_,_,⟨rfl,_,c',hle,Ok.mk _ _,rfl,rfl⟩,hw.new (Ext.of_below hB) (fun Y hY j v hj=>?_)⟩
 obtain ⟨h1,_,h3⟩:=hS j v hj
 exact ⟨h1,fun hm=>by have:=hY b hm;omega,h3⟩
end
end Go.Proofs.YtgpkjcmipiodcaaGreat
namespace Go.Proofs.YtgpkjcmipiodcaaGreat
open Go Go.Fx
theorem vX {f:Nat} (h0:0 < f) (h:f < 1000000000):gr f=[(f:Int)]:=by
 rw [wQ (by omega),Nat.mod_eq_of_lt h,Nat.div_eq_of_lt h,fO]
theorem aJP {bt:Nat} (h:1≤bt∧bt < 1000000000):∃f:Nat,0 < f∧f < 1000000000∧(1000000000:Int).tdiv ((bt:Int)+1)=(f:Int):=
 ⟨1000000000 / (bt+1),Nat.div_pos (by omega) (by omega),Nat.lt_of_le_of_lt (Nat.div_le_div_left (show 2≤bt+1 by omega) (by decide)) (by decide),by
  rw [Int.tdiv_eq_ediv_of_nonneg (by decide),Int.natCast_ediv]
  rfl⟩
theorem tL {m f:Nat} (h0:0 < f) (h:f < 1000000000):(gr m).length≤(gr (m*f)).length∧(gr (m*f)).length≤(gr m).length+1:=by
 refine ⟨fK (Nat.le_mul_of_pos_right _ h0),lQ ?_⟩
 have h1:=jG (bK m)
 rw [bT] at h1
 have h2:m < 1000000000 ^ (gr m).length:=Int.ofNat_lt.1 (by rw [Int.natCast_pow];exact h1)
 rw [Nat.pow_succ]
 exact Nat.lt_of_le_of_lt (Nat.mul_le_mul_left m (Nat.le_of_lt h)) (Nat.mul_lt_mul_of_pos_right h2 (by decide))
theorem _root_.Go.Fx.Mem.lendBT {X:List Nat} {w0 w:World} {M:List Ent} {I I2:List aV} {b:Nat} {cs tl:List Value} {e:TypeId} (hm: .blk b (cs++tl) e∈M) (hw:Mem X w0 M I w) (h:Mem [] w [] I2 w):Mem [] w [] (aI (some ⟨b,0,none⟩) cs::I2) w:=
 h.add (φ:=aI (some ⟨b,0,none⟩) cs) ⟨Blk.sl (X:=muts []) (hw.blk hm) (by simp [muts]) 0 (fun j v hj=>by rw [Nat.zero_add,List.getElem?_append_left (List.getElem?_eq_some_iff.1 hj).1];exact hj)⟩
theorem aRJ {u v:List Int} (hv:Can v) (hn:2≤v.length) (hu:Dig u) (hl:v.length≤u.length):val ((u++[0]).drop (u.length+1 - v.length)) < val v:=by
 rw [List.drop_append_of_le_length (by omega),val_append]
 have h1:=jG (hu.drop (u.length+1 - v.length))
 have h2:=aAU hv (by omega)
 have e:(u.drop (u.length+1 - v.length)).length=v.length - 1:=by simp;omega
 rw [e] at h1
 simp only [val]
 omega
theorem aSG {u v:List Int} {j:Nat} (dU:Dig u) (hv:Can v) (hn:2≤v.length) (hlt:val (u.drop (j+1)) < val v) (hj:j < u.length):
  Knu (val (u.drop j)) (val v) (1000000000 ^ (v.length - 2)) (gt u ((j:Int)+(v.length:Int))) (gt u ((j:Int)+(v.length:Int) - 1)) (gt u ((j:Int)+(v.length:Int) - 2)) (gt v ((v.length:Int) - 1)) (gt v ((v.length:Int) - 2)):=by
 have h1:val (u.drop j) < 1000000000*val v:=by
  rw [uJ u j hj]
  have:=dU.getD j
  omega
 have htop:1≤v.getD (v.length - 1) 0:=by
  have h:=hv.2
  have hd:=hv.1.getD (v.length - 1)
  unfold Top at h
  rw [aCH (by omega),show (v.length:Int) - 1=((v.length - 1:Nat):Int) by omega,xR] at h
  omega
 have:=bAX (u:=u.drop j) (v:=v) (n:=v.length) (dU.drop j) hv.1 hn rfl htop h1
 rw [jB,jB,jB] at this
 rw [show (j:Int)+(v.length:Int)=((j+v.length:Nat):Int) by omega,show ((j+v.length:Nat):Int) - 1=((j+(v.length - 1):Nat):Int) by omega,show ((j+v.length:Nat):Int) - 2=((j+(v.length - 2):Nat):Int) by omega,
  show (v.length:Int) - 1=((v.length - 1:Nat):Int) by omega,show (v.length:Int) - 2=((v.length - 2:Nat):Int) by omega,xR,xR,xR,xR,xR]
 exact this
theorem knu_g {T V P t2 t1 t0 v1 v0 g r:Int} (h:Knu T V P t2 t1 t0 v1 v0) (hg:g*v1+r=t2*1000000000+t1) (hr:0≤r) (hg0:0≤g):g < 2000000000:=by
 have h2:=h.T2
 have h1:=h.e1
 rcases Int.lt_or_le g 2000000000 with h3|h3
 ·exact h3
 ·have:2000000000*v1≤g*v1:=Int.mul_le_mul_of_nonneg_right h3 (by omega)
  omega
theorem bAD {T V P t2 t1 t0 v1 v0 g r:Int} (h:Knu T V P t2 t1 t0 v1 v0) (hg:g*v1+r=t2*1000000000+t1) (hr:1000000000≤r):g < 1000000000:=by
 have h2:=h.T2
 have h1:=h.e1
 rcases Int.lt_or_le g 1000000000 with h3|h3
 ·exact h3
 ·have:1000000000*v1≤g*v1:=Int.mul_le_mul_of_nonneg_right h3 (by omega)
  omega
theorem aVL {u o v:List Int} {j:Nat} {g b c:Int} (dU:Dig u) (dO:Dig o) (hv:Can v) (hN:2≤v.length) (hj:j+v.length < u.length) (hol:o.length=u.length) (hT1:val (u.drop (j+1)) < val v) (h:val ((o.drop j).take v.length)+g*val v=val ((u.drop j).take v.length)+1000000000 ^ v.length*(b+c)) (hd:o.drop (j+v.length)=u.drop (j+v.length)) (hgq:val (u.drop j) < (g+1)*val v) (hgd:g*val v≤val (u.drop j)+val v):
  (gt o ((j:Int)+(v.length:Int)) - b - c=0∨(gt o ((j:Int)+(v.length:Int)) - b - c= -1∧g≠0))∧(val (u.drop j) - g*val v=val ((o.drop j).take v.length)+1000000000 ^ v.length*(gt o ((j:Int)+(v.length:Int)) - b - c))∧(∀y,val ((o.set (j+v.length) y).drop j)=val ((o.drop j).take v.length)+1000000000 ^ v.length*y):=by
 have hvl:=jG hv.1
 have hv1:1≤val v:=by
  have:=aAU hv (by omega)
  have:=jD (v.length - 1)
  omega
 rw [aBA]
 have hA:=jD v.length
 have e0:=kW (u.drop j) v.length (by simp;omega)
 have e1:=uJ u (j+v.length) hj
 have e2:=kW (u.drop (j+1)) v.length (by simp;omega)
 have e3:=kW (o.drop j) v.length (by simp;omega)
 rw [List.drop_drop] at e0 e2 e3
 rw [show j+1+v.length=j+v.length+1 by omega] at e2
 have n1:=bQ ((dU.drop (j+1)).take v.length)
 have n2:=bQ (dU.drop (j+v.length+1))
 have n3:=bQ ((dO.drop j).take v.length)
 have n4:=iK (dO.drop j) v.length
 have n5:=bQ (dU.drop j)
 have hH:val (u.drop (j+v.length+1))=0:=by
  have:val (u.drop (j+v.length+1)) < 1:=nM hA (by
   rw [Int.mul_comm,Int.one_mul]
   omega)
  omega
 have hget:o.getD (j+v.length) 0=u.getD (j+v.length) 0:=by
  have:=congrArg (fun l=>l.getD 0 0) hd
  simpa only [jB,Nat.add_zero] using this
 rw [hget]
 rw [hd] at e3
 rw [hH] at e1
 have hset:∀y,(o.set (j+v.length) y).drop j=(o.drop j).set v.length y:=fun y=>by
  rw [List.drop_set,if_neg (by omega)]
  congr 1
  omega
 have hgo:(o.drop j).getD v.length 0=u.getD (j+v.length) 0:=by rw [jB,hget]
 have hvs:∀y,val ((o.set (j+v.length) y).drop j)=val (o.drop j)+1000000000 ^ v.length*(y - u.getD (j+v.length) 0):=fun y=>by rw [hset,aCG _ _ _ (by simp;omega),hgo]
 generalize (1000000000:Int) ^ v.length=A at*
 generalize hud:u.getD (j+v.length) 0=ud at*
 have hD:val (u.drop j) - g*val v=val ((o.drop j).take v.length)+A*(ud - b - c):=by
  have k1:A*(ud - b - c)=A*ud - A*(b+c):=by grind
  have k2:A*val (u.drop (j+v.length))=A*ud:=by rw [e1];grind
  omega
 have k3:(g+1)*val v=g*val v+val v:=by rw [Int.add_mul,Int.one_mul]
 refine ⟨?_,hD,fun y=>?_⟩
 ·have x1:ud - b - c < 1:=nM hA (by rw [Int.mul_comm,Int.one_mul];omega)
  have x2: -2 < ud - b - c:=nM hA (by rw [Int.mul_comm (ud - b - c)];omega)
  by_cases hx:ud - b - c=0
  ·exact .inl hx
  ·refine .inr ⟨by omega,?_⟩
   rintro rfl
   have hm1:ud - b - c= -1:=by omega
   rw [hm1] at hD
   simp at hD
   omega
 ·rw [hvs]
  have k2:A*val (u.drop (j+v.length))=A*ud:=by rw [e1];grind
  have k4:A*(y - ud)=A*y - A*ud:=Int.mul_sub _ _ _
  omega
theorem aSL {n:Nat} (hn:1≤(gr n).length):∃bt:Nat,gt (gr n) (((gr n).length:Int) - 1)=(bt:Int)∧1≤bt∧bt < 1000000000:=by
 have hbt:=(bK n).gt (((gr n).length:Int) - 1)
 have htop:=aDF n
 unfold Top at htop
 rw [aCH (by omega)] at htop
 exact ⟨(gt (gr n) (((gr n).length:Int) - 1)).toNat,by omega,by omega,by omega⟩
theorem aFX {o u v:List Int} {j i:Nat} {g b c b2 y:Int} (dO:Dig o) (hvl:val ((o.drop j).take i)+g*val (v.take i)=val ((u.drop j).take i)+1000000000 ^ i*(b+c)) (hij:j+i < o.length) (htk:o.take j=u.take j) (hdr:o.drop (j+i)=u.drop (j+i))
  (hy:y=gt o ((i:Int)+(j:Int)) - b - (g*gt v i+c) % 1000000000+1000000000*b2) (hyr:0≤y∧y < 1000000000):
  Dig (st o ((i:Int)+(j:Int)) y)∧(st o ((i:Int)+(j:Int)) y).take j=u.take j∧(st o ((i:Int)+(j:Int)) y).drop (j+(i+1))=u.drop (j+(i+1))∧val (((st o ((i:Int)+(j:Int)) y).drop j).take (i+1))+g*val (v.take (i+1))=val ((u.drop j).take (i+1))+1000000000 ^ (i+1)*(b2+(g*gt v i+c) / 1000000000):=by
 have hget:o.getD (j+i) 0=u.getD (j+i) 0:=by
  have:=congrArg (fun l=>l.getD 0 0) hdr
  simpa only [jB,Nat.add_zero] using this
 rw [aBA,xR,Nat.add_comm i j,hget] at hy
 have hm:=aQG (o:=o) (U:=u) (v:=v) (d':=y) (b':=b2) hvl hij hdr rfl hy
 rw [iE,Nat.add_comm i j,xR]
 refine ⟨dO.set _ hyr,?_,hm.2,hm.1⟩
 rw [List.take_set_of_le (by omega)]
 exact htk
theorem aGE {u o qs v u0:List Int} {j:Nat} {g:Int} (hval:val u+1000000000 ^ (j+1)*(val v*val (qs.drop (j+1)))=val u0) (hj:j < u.length) (hjo:j < o.length) (hjq:j < qs.length) (htk:o.take j=u.take j) (hD:val (o.drop j)=val (u.drop j) - g*val v):
  val o+1000000000 ^ j*(val v*val ((st qs (j:Int) g).drop j))=val u0:=by
 have e1:=kW o j (by omega)
 have e2:=kW u j (by omega)
 rw [htk] at e1
 rw [rY,drop_set _ _ _ hjq]
 simp only [val,Int.pow_succ] at hval ⊢
 rw [hD] at e1
 generalize (1000000000:Int) ^ j=A at*
 grind
theorem aKJ {o2 o1 v u:List Int} {j i:Nat} {c2 c3 y:Int} (dO:Dig o2) (hv:val ((o2.drop j).take i)+1000000000 ^ i*c2=val ((o1.drop j).take i)+val (v.take i)) (hij:j+i < o2.length) (htk:o2.take j=u.take j) (hdr:o2.drop (j+i)=o1.drop (j+i))
  (hy:y=gt o2 ((i:Int)+(j:Int))+gt v i+c2 - 1000000000*c3) (hyr:0≤y∧y < 1000000000):
  Dig (st o2 ((i:Int)+(j:Int)) y)∧(st o2 ((i:Int)+(j:Int)) y).take j=u.take j∧(st o2 ((i:Int)+(j:Int)) y).drop (j+(i+1))=o1.drop (j+(i+1))∧val (((st o2 ((i:Int)+(j:Int)) y).drop j).take (i+1))+1000000000 ^ (i+1)*c3=val ((o1.drop j).take (i+1))+val (v.take (i+1)):=by
 have hget:o2.getD (j+i) 0=o1.getD (j+i) 0:=by
  have:=congrArg (fun l=>l.getD 0 0) hdr
  simpa only [jB,Nat.add_zero] using this
 rw [aBA,xR,Nat.add_comm i j,hget] at hy
 rw [iE,Nat.add_comm i j]
 have e1:(o2.set (j+i) y).drop j=(o2.drop j).set i y:=by
  rw [List.drop_set,if_neg (by omega)]
  congr 1
  omega
 have hl:i < (o2.drop j).length:=by simp;omega
 refine ⟨dO.set _ hyr,by rw [List.take_set_of_le (by omega)];exact htk,?_,?_⟩
 ·have e:((o2.set (j+i) y).drop (j+(i+1)))=o2.drop (j+i+1):=by
   rw [←Nat.add_assoc,List.drop_set,if_pos (by omega)]
  rw [e,←Nat.add_assoc]
  have h1:o2.drop (j+i+1)=(o2.drop (j+i)).drop 1:=by rw [List.drop_drop]
  have h2:o1.drop (j+i+1)=(o1.drop (j+i)).drop 1:=by rw [List.drop_drop]
  rw [h1,h2,hdr]
 ·rw [e1,iW _ i y hl,val_append,bR (o1.drop j),bR v,jB]
  simp only [List.length_take,Nat.min_eq_left (Nat.le_of_lt hl),val,Int.pow_succ]
  generalize (1000000000:Int) ^ i=A at*
  generalize v.getD i 0=x at*
  generalize o1.getD (j+i) 0=z at*
  generalize val ((o2.drop j).take i)=z1 at*
  generalize val ((o1.drop j).take i)=z2 at*
  generalize val (v.take i)=z3 at*
  clear e1 hl hdr hij
  subst hy
  grind
theorem aRG {o o1 o2 v:List Int} {j:Nat} {c2 T g:Int} (dO:Dig o) (dO2:Dig o2) (hv:Can v) (hj:j+v.length < o2.length) (hol:o.length=o2.length) (h1:o1=o.set (j+v.length) 999999999)
  (h:val ((o2.drop j).take v.length)+1000000000 ^ v.length*c2=val ((o1.drop j).take v.length)+val v) (hc:0≤c2∧c2≤1) (hdr:o2.drop (j+v.length)=o1.drop (j+v.length))
  (hD:T - g*val v=val ((o.drop j).take v.length)+1000000000 ^ v.length*(-1)) (hset:∀y,val ((o.set (j+v.length) y).drop j)=val ((o.drop j).take v.length)+1000000000 ^ v.length*y) (hhi:g*val v≤T+val v):
  c2=1∧gt o2 ((j:Int)+(v.length:Int))=999999999∧val ((o2.set (j+v.length) 0).drop j)=T - (g - 1)*val v∧T - (g - 1)*val v < val v∧0≤T - (g - 1)*val v:=by
 have hA:=jD v.length
 have n4:=iK (dO2.drop j) v.length
 have n3:=bQ ((dO2.drop j).take v.length)
 have n5:=iK (dO.drop j) v.length
 have kg:(g - 1)*val v=g*val v - val v:=by rw [Int.sub_mul,Int.one_mul]
 have e1:(o1.drop j).take v.length=(o.drop j).take v.length:=by
  rw [h1,List.drop_set,if_neg (by omega),show j+v.length - j=v.length by omega,List.take_set_of_le (Nat.le_refl _)]
 have hget:o2.getD (j+v.length) 0=o1.getD (j+v.length) 0:=by
  have:=congrArg (fun l=>l.getD 0 0) hdr
  simpa only [jB,Nat.add_zero] using this
 have hg1:o1.getD (j+v.length) 0=999999999:=by
  rw [h1]
  simp [List.getD,List.getElem?_set_self (show j+v.length < o.length by omega)]
 have e2:=kW (o2.drop j) v.length (by simp;omega)
 have e3:=kW (o1.drop j) v.length (by rw [h1];simp;omega)
 rw [List.drop_drop] at e2 e3
 have e4:=hset 999999999
 rw [←h1] at e4
 have hvs:val ((o2.set (j+v.length) 0).drop j)=val (o2.drop j)+1000000000 ^ v.length*(0 - 999999999):=by
  have hs:(o2.set (j+v.length) 0).drop j=(o2.drop j).set v.length 0:=by
   rw [List.drop_set,if_neg (by omega),show j+v.length - j=v.length by omega]
  have hgo:(o2.drop j).getD v.length 0=999999999:=by rw [jB,hget,hg1]
  rw [hs,aCG _ _ _ (by simp;omega),hgo]
 rw [e1] at h e3
 rw [hdr] at e2
 rw [aBA,hget,hg1]
 generalize (1000000000:Int) ^ v.length=A at*
 have hc1:c2=1:=by
  rcases Int.lt_or_le c2 1 with hlt|hge
  ·have:c2=0:=by omega
   subst this
   omega
  ·omega
 subst hc1
 exact ⟨rfl,rfl,by omega,by omega,by omega⟩
theorem aQR {u v:List Int} (dU:Dig u) (hl:v.length≤u.length) (hlt:val u < val v) (hv:val v < 1000000000 ^ v.length):val (u.take v.length)=val u:=by
 have e:=kW u v.length hl
 have n1:=bQ (dU.take v.length)
 have n2:=bQ (dU.drop v.length)
 have hA:=jD v.length
 have:val (u.drop v.length) < 1:=nM hA (by rw [Int.mul_comm,Int.one_mul];omega)
 have h0:val (u.drop v.length)=0:=by omega
 rw [h0] at e
 omega
theorem aSM {u qs:List Int} {m n f:Nat} (dU:Dig u) (dQ:Dig qs) (h:val u+((n*f:Nat):Int)*val qs=((m*f:Nat):Int)) (hlt:val u < ((n*f:Nat):Int)) (hf:0 < f) (hn:0 < n*f):
  val u=(((m % n)*f:Nat):Int)∧val qs=((m / n:Nat):Int)∧True:=by
 have n1:=bQ dU
 have n2:=bQ dQ
 obtain ⟨a,ha⟩:∃a:Nat,val u=(a:Int):=⟨(val u).toNat,by omega⟩
 obtain ⟨b,hb⟩:∃b:Nat,val qs=(b:Int):=⟨(val qs).toNat,by omega⟩
 rw [ha,hb] at h
 rw [ha] at hlt
 have h':a+n*f*b=m*f:=by exact_mod_cast h
 have hlt':a < n*f:=by exact_mod_cast hlt
 have hq:m*f / (n*f)=b:=by rw [←h',Nat.add_mul_div_left _ _ hn,Nat.div_eq_of_lt hlt',Nat.zero_add]
 have hr:m*f % (n*f)=a:=by rw [←h',Nat.add_mul_mod_self_left,Nat.mod_eq_of_lt hlt']
 rw [Nat.mul_div_mul_right _ _ hf] at hq
 rw [Nat.mul_mod_mul_right] at hr
 exact ⟨by rw [ha,hr],by rw [hb,hq],trivial⟩
end Go.Proofs.YtgpkjcmipiodcaaGreat

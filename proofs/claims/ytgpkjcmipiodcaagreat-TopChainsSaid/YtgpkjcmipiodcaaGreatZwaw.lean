/- network: residuals, front. -/
import Derived.Test.YtgpkjcmipiodcaaGreatZwat
import Derived.Test.YtgpkjcmipiodcaaGreatZwav
import Derived.Test.YtgpkjcmipiodcaaGreatZwan
import Derived.Test.YtgpkjcmipiodcaaGreatZwae
import Derived.Test.YtgpkjcmipiodcaaGreatZwah
set_option linter.unusedSimpArgs false
set_option linter.unusedVariables false
set_option maxRecDepth 100000
set_option maxHeartbeats 4000000
namespace Go.Proofs.YtgpkjcmipiodcaaGreat
open Go Go.Fx
section
variable {X:List Nat} {w0:World} {M0:List Ent} {I0:List aV}
theorem aVG {x:NX} {r:RL} (hN:NImg x) (h0:∀o∈x.O,sD x o≠0) (hr:r.es.length=6*x.S.length+3*x.P.length) (hz:∀e∈r.es,e.q=0) (hx:lK r 1000∈I0) (hS:aI x.pS (recs qU x.S)∈I0) (hP:aI x.pP (recs gP x.P)∈I0) (hO:aI x.pO (recs jU x.O)∈I0):
  CD Tryz.prog 38 [nxv x,lv r] X w0 M0 I0 (LQ (vM x x.O) 100000 M0 I0):=by
 have lO:=hN.lO
 have hT:=fun M0 I0 h1 h2 h3=>aPR (X:=X) (w0:=w0) (M0:=M0) (I0:=I0) (x:=x) hN h0 h1 h2 h3
 obtain ⟨N,hNe⟩:∃N,6*x.S.length+3*x.P.length=N:=⟨_,rfl⟩
 have hrl:=zF x x.O
 obtain ⟨L,hL⟩:∃L,vM x x.O=L:=⟨_,rfl⟩
 rw [hNe] at hT hr
 rw [hL] at hT hrl ⊢
 refine aP Tryz.func38 rfl Tryz.ntmps38 rfl ?_
 refine fE ?_
 refine fG rfl (fun b2=>?_)
 refine aC (cs:=nO x) .here ?_
 repeat refine aB ?_
 (refine aU rfl (hT _ _ aA aA aA) ?_;rintro _ _ _ ⟨rfl,a,c,ts,rfl,⟨hq,hk⟩,rfl⟩;refine aL ?_)
 have htl:ts.length=L.length:=by rw [←hq,List.length_map]
 obtain ⟨n,hn⟩:∃n,ts.length=n:=⟨_,rfl⟩
 rw [hn] at htl
 repeat refine aB ?_
 rw [hn]
 refine pR 40 4 ?_
 refine bD (φ:=bW [] 100000) ⟨fun X w _=>⟨fun e he=>absurd he List.not_mem_nil⟩⟩ ?_
 refine kS [1,9,10] rfl (fun k G M I=>∃(i:Nat) (ra:Option Addr) (rc:Nat) (es:List RE),i≤n∧k=n - i∧(es.length=i∧es.map RE.q=L.take i)∧G=[(5, .slice ra es.length rc),(11, .int .i64 (i:Int))]∧M= .row ra es.length rc (recs eR es) 40 4::M0∧I=bW es 100000::aI a (recs eTM ts)::allTM ts::aI (some ⟨b2,0,none⟩) (nO x)::I0) (n) (⟨0,none,0,[],by omega,rfl,⟨rfl,rfl⟩,rfl,rfl,rfl⟩) ?_
 rintro kk G M I ⟨i,ra,rc,es,hi,rfl,⟨hel,heq⟩,rfl,rfl,rfl⟩
 by_cases hin:i < n
 ·have htm:=hk _ (bJ (ms:=ts) (i:=(i:Int)) ⟨by omega,by omega⟩)
  have htq:L.take (i+1)=L.take i++[(gt ts (i:Int)).q]:=by
   rw [List.take_add_one,←hq,List.getElem?_map,List.getElem?_eq_getElem (by omega),eU (by omega)];rfl
  refine bD (φ:=aI (gt ts (i:Int)).p (recs vH (gt ts (i:Int)).us)) (Hv.atTMs aA ⟨by omega,by omega⟩) ?_
  refine bD (φ:=allT (gt ts (i:Int)).us) (Hv.atTMa aA ⟨by omega,by omega⟩) ?_
  obtain ⟨t,ht⟩:∃t,gt ts (i:Int)=t:=⟨_,rfl⟩
  rw [ht] at htm htq ⊢
  have hV:=fun M0 I0 h1 h2 h3=>aIO (X:=X) (w0:=w0) (M0:=M0) (I0:=I0) (N:=N) (cp:=t.c) (p:=t.p) (ts:=t.us) (q:=t.q) (r:=r) rfl htm.l htm.v hr hz h1 h2 h3
  repeat refine aB ?_
  rw [ht]
  repeat refine aB ?_
  refine iG rfl (hV _ _ aA aA aA) (fun e he=>?_)
  refine lL (cs:=recs eR [e]) ([rv e]) rfl (fun b19=>?_)
  refine tyP (ys:=[e]) 1 rfl rfl rfl (fun a4 c4=>?_)
  repeat refine aB ?_
  refine fF (φ:=bW (es++[e]) 100000) (Hv.snoc aA aA) ?_
  refine qZ (M':= .row a4 (es++[e]).length c4 (recs eR (es++[e])) 40 4::M0) (I':=bW (es++[e]) 100000::aI a (recs eTM ts)::allTM ts::aI (some ⟨b2,0,none⟩) (nO x)::I0) aG aF ?_
  refine iC (n - (i+1)) (⟨i+1,a4,c4,es++[e],by omega,rfl,⟨by rw [List.length_append,hel];rfl,by rw [List.map_append,heq,htq,List.map_cons,he];rfl⟩,rfl,rfl,rfl⟩)
 ·obtain rfl:i=n:=by omega
  repeat refine aB ?_
  refine aTK (k:=100000) aA ?_
  refine qZ (M':=M0) (I':=lK ⟨ra,rc,es⟩ 100000::I0) aG aF ?_
  refine aH (by first|exact .inl rfl|exact .inr rfl) rfl rfl _ _ aG aF (⟨rfl,⟨ra,rc,es⟩,rfl,by show es.map RE.q=L;rw [heq,List.take_of_length_le (by omega)],rfl⟩)
/- ---------- functions that look through observations ---------- -/
theorem aVW {p:Option Addr} {os:List OB} {m c:Nat} {g:FuncId} [FnOk Tryz.prog g] {fs cs:Array Value} (pr:OB→Prop) [DecidablePred pr] (Inv:List Ent→Prop) (hm:os.length=m) (hn:m≤100000) (ha:aI p (recs jU os)∈I0) (h0:Inv M0)
  (hg:∀M,Inv M→∀i:Nat,i < m→CD Tryz.prog g (fs.toList++[obv (gt os (i:Int))]++cs.toList) X w0 M I0 (fun v M' I'=>v= .bool (B (pr (gt os (i:Int))))∧Inv M'∧I0=I')):
  CD Tryz.prog 68 [.slice p m c, .func (.func g) fs cs] X w0 M0 I0 (fun v M I=>Inv M∧I0=I∧∃r:Int,v= .int .i64 r∧((∃i:Nat,i < m∧r=i∧pr (gt os (i:Int)))∨(r= -1∧∀j:Nat,j < m→¬pr (gt os (j:Int))))):=by
 refine aP Tryz.func68 rfl Tryz.ntmps68 rfl ?_
 repeat refine aB ?_
 refine kS [0,1,7] rfl (fun k G M I=>∃i:Nat,i≤m∧k=m - i∧(∀j:Nat,j < i→¬pr (gt os (j:Int)))∧Inv M∧G=[(8, .int .i64 i)]∧I0=I) (m) (⟨0,by omega,rfl,fun j hj=>by omega,h0,rfl,rfl⟩) ?_
 rintro kk G M I ⟨i,hi,rfl,hs,hM,rfl,rfl⟩
 by_cases him:i < m
 ·repeat refine aB ?_
  (refine bI rfl rfl (hg M hM i him) rfl rfl rfl ?_;rintro _ _ _ ⟨rfl,hM2,rfl⟩;refine aL ?_)
  by_cases hp:pr (gt os (i:Int))
  ·rw [cB hp]
   repeat refine aB ?_
   refine gD rfl rfl (⟨hM2,rfl,i,rfl, .inl ⟨i,him,rfl,hp⟩⟩)
  ·rw [bF hp]
   repeat refine aB ?_
   refine iC (m - (i+1)) (⟨i+1,by omega,rfl,fun j hj=>?_,hM2,rfl,rfl⟩)
   by_cases e:j=i
   ·subst e;exact hp
   ·exact hs j (by omega)
 ·obtain rfl:i=m:=by omega
  repeat refine aB ?_
  refine gD rfl rfl (⟨hM,rfl, -1,rfl, .inr ⟨rfl,hs⟩⟩)
theorem aKF {p:Option Addr} {os:List OB} {m c:Nat} {g:FuncId} [FnOk Tryz.prog g] {fs cs:Array Value} (pr:OB→Prop) [DecidablePred pr] (Inv:List Ent→Prop) (hm:os.length=m) (hn:m≤100000) (ha:aI p (recs jU os)∈I0) (h0:Inv M0)
  (hg:∀M,Inv M→∀i:Nat,i < m→CD Tryz.prog g (fs.toList++[obv (gt os (i:Int))]++cs.toList) X w0 M I0 (fun v M' I'=>v= .bool (B (pr (gt os (i:Int))))∧Inv M'∧I0=I')):
  CD Tryz.prog 26 [.slice p m c, .func (.func g) fs cs] X w0 M0 I0 (fun v M I=>Inv M∧I0=I∧v= .bool (B (∃o∈os,pr o))):=by
 refine aP Tryz.func26 rfl Tryz.ntmps26 rfl ?_
 repeat refine aB ?_
 (refine aU rfl (aVW pr Inv hm hn ha h0 hg) ?_;rintro _ _ _ ⟨hM,rfl,r,rfl,h⟩;refine aL ?_)
 repeat refine aB ?_
 refine gD rfl rfl (⟨hM,rfl,congrArg Value.bool (gU ?_)⟩)
 rcases h with ⟨i,hi,rfl,hp⟩|⟨rfl,h⟩
 ·exact ⟨fun _=>⟨_,bJ ⟨by omega,by omega⟩,hp⟩,fun _=>by omega⟩
 ·refine ⟨fun h=>by omega,?_⟩
  rintro ⟨x,hx,hp⟩
  obtain ⟨j,hj,rfl⟩:=List.mem_iff_getElem.1 hx
  exact absurd (by rw [eU hj];exact hp) (h j (by omega))
end
theorem bAY (q:Rat):q.num.sign≤0↔q≤0:=by
 rw [aJI]
 by_cases h1:q < 0
 ·rw [if_pos h1];exact ⟨fun _=>Rat.le_of_lt h1,fun _=>by decide⟩
 ·rw [if_neg h1]
  by_cases h2:q=0
  ·rw [if_pos h2,h2];exact ⟨fun _=>Rat.le_refl,fun _=>by decide⟩
  ·rw [if_neg h2]
   exact ⟨fun h=>absurd h (by decide),fun h=>absurd (Rat.le_antisymm h (Rat.not_lt.1 h1)) h2⟩
def frnt (x:NX):Prop:=¬∃o∈x.O,sD x o≤0
instance frnt.dec (x:NX):Decidable (frnt x):=by unfold frnt;exact inferInstance
section
variable {X:List Nat} {w0:World} {M0 M1:List Ent} {I0:List aV}
theorem aVV {x:NX} {r:RL} {N b bi b5 b3 c n:Nat} {kn:Option Nat} {ix:List (List Int × Int)} {a:Option Addr} {o:OB} (hN:NImg x) (ho:ObI x.S.length x.P.length o) (hix:IxOk ix x.S.length x.P.length N) (hr:r.es.length=N) (hz:∀e∈r.es,e.q=0)
  (hx:lK r 1000∈I0) (hS:aI x.pS (recs qU x.S)∈I0) (hP:aI x.pP (recs gP x.P)∈I0) (h5:aI (some ⟨b5,0,none⟩) [.pointer (some ⟨b,0,none⟩)]∈I0) (h3:aI (some ⟨b3,0,none⟩) (eL r)∈I0):
  CD Tryz.prog 84 [obv o, .pointer (some ⟨b5,0,none⟩), .pointer (some ⟨b3,0,none⟩)] X w0 (bZ b bi kn x ix a c n M1) I0 (fun v M I=>v= .bool (B (sD x o≤0))∧(∃(kn:Option Nat) (a:Option Addr) (c n:Nat),M=bZ b bi kn x ix a c n M1)∧I0=I):=by
 have hk:=ho.k
 refine iO Tryz.func84 rfl Tryz.ntmps84 rfl ?_
 refine fE ?_
 refine fG rfl (fun b4=>?_)
 refine aC (cs:=jU o) .here ?_
 repeat refine aB ?_
 (repeat refine aJ ?_);refine vT ([]) (aI (some ⟨b4,0,none⟩) (jU o)::aI (some ⟨b5,0,none⟩) [.pointer (some ⟨b,0,none⟩)]::aI (some ⟨b3,0,none⟩) (eL r)::[]) [0,1,2,3,4,5,7,6,8,9,10,11,12] [3,3,3,0,2,2,2,0,0,0,0,0,0] mixed ?_
 repeat refine aB ?_
 (refine aU rfl (aRD hN ho hix aA aA) ?_;rintro _ _ _ ⟨kn2,a2,c2,n2,p,cp,us,rfl,⟨hu1,hu2,hu3⟩,rfl,rfl⟩;refine aL ?_)
 repeat refine aB ?_
 refine iG rfl (aIO (r:=r) rfl hu2 hu3 hr hz aA aA aA) (fun e he=>?_)
 repeat refine aB ?_
 refine dP rfl (kV (e:=e) (k:=100000) (by decide) (Hv.mem aA)) ?_
 repeat refine aB ?_
 refine qZ (M':=bZ b bi kn2 x ix a2 c2 n2 M1) (I':=I0) SubP.refl aF ?_
 refine aH (by first|exact .inl rfl|exact .inr rfl) rfl rfl _ _ aG aF (⟨congrArg Value.bool (gU (by rw [he];exact bAY _)),⟨kn2,a2,c2,n2,rfl⟩,rfl⟩)
theorem aPI {x:NX} {r:RL} (hN:NImg x) (hr:r.es.length=6*x.S.length+3*x.P.length) (hz:∀e∈r.es,e.q=0) (hx:lK r 1000∈I0) (hS:aI x.pS (recs qU x.S)∈I0) (hP:aI x.pP (recs gP x.P)∈I0) (hO:aI x.pO (recs jU x.O)∈I0):
  CD Tryz.prog 37 [nxv x,lv r] X w0 M0 I0 (fun v M I=>M0=M∧I0=I∧v= .bool (B (frnt x))):=by
 have lO:=hN.lO
 have hNB:=fun M0 I0 h=>aNX (X:=X) (w0:=w0) (M0:=M0) (I0:=I0) (x:=x) hN h
 obtain ⟨N,hNe⟩:∃N,6*x.S.length+3*x.P.length=N:=⟨_,rfl⟩
 rw [hNe] at hNB hr
 refine aP Tryz.func37 rfl Tryz.ntmps37 rfl ?_
 refine fE ?_
 refine fG rfl (fun b2=>?_)
 refine aC (cs:=nO x) .here ?_
 (refine rA rfl rfl rfl ?_;intro b3;refine aL ?_)
 repeat refine aB ?_
 (refine aU rfl (hNB _ _ aA) ?_;rintro _ _ _ ⟨b,bi,ix,rfl,hix,rfl,rfl⟩;refine aL ?_)
 refine bG (fun b5=>?_)
 repeat refine aB ?_
 refine aC (cs:=[.pointer (some ⟨b,0,none⟩)]) .here ?_
 (refine aS rfl (aKF (fun o=>sD x o≤0) (fun M=>∃(kn:Option Nat) (a:Option Addr) (c n:Nat),M=bZ b bi kn x ix a c n M0) rfl (by omega) aA ⟨none,none,0,0,rfl⟩ (fun M hM i hi=>by
  obtain ⟨kn,a,c,n,rfl⟩:=hM
  exact aVV hN (hN.O _ (bJ ⟨by omega,by omega⟩)) hix hr hz aA aA aA aA aA)) rfl rfl ?_;rintro _ _ _ ⟨⟨kn,a,c,n,rfl⟩,rfl,rfl⟩;refine aL ?_)
 repeat refine aB ?_
 refine qZ (M':=M0) (I':=I0) aG aF ?_
 refine gD rfl rfl (⟨rfl,rfl,congrArg Value.bool (gU Iff.rfl)⟩)
end
end Go.Proofs.YtgpkjcmipiodcaaGreat
namespace Go.Fx
theorem wXn {p g:Prop} (h:g) (w:BoxP g→p:=by (intro hh;(first|refine aJ ?_|refine iD ?_|refine pK ?_|refine mF ?_|refine jM ?_|refine jE ?_|refine lV ?_|refine lJ ?_|refine jP ?_|refine jL ?_|refine oZ ?_|refine oU ?_|refine pU ?_|refine oP rfl ?_|refine aT ?_|(refine jZ ?_;first|refine kE rfl rfl rfl ?_|(refine kR rfl rfl ?_;refine iU rfl rfl rfl okD ?_)|refine kQ rfl rfl (by omega) ?_|refine kG rfl rfl (by omega) ?_)|(refine dY ?_;refine aD rfl (fun _=>fU rfl) rfl rfl ?_)|refine aD rfl (fun _=>bP rfl) rfl rfl ?_|(refine kL ?_;first|refine aD rfl (fun _=>dF rfl rfl w_) rfl rfl ?_|refine aD rfl (fun _=>dG rfl rfl w_) rfl rfl ?_|refine aD rfl (fun _=>gZ rfl rfl w_) rfl rfl ?_|refine aD rfl (fun _=>gX rfl rfl (by omega) q_) rfl rfl ?_|refine aD rfl (fun _=>gY rfl rfl (by omega) rfl) rfl rfl ?_|refine aD rfl (fun _=>fZ rfl rfl) rfl rfl ?_)|(refine dY ?_;first|refine aD rfl (fun _=>gJ rfl w_) rfl rfl ?_)|(refine jW ?_;first|refine aD rfl (fun _=>fB rfl w_) rfl rfl ?_)|(refine jV ?_;first|refine aD rfl (fun _=>dE rfl) rfl rfl ?_|refine aD rfl (fun _=>fQ rfl rfl) rfl rfl ?_|refine aD rfl (fun _=>fT rfl rfl) rfl rfl ?_|refine aD rfl (fun _=>fV rfl rfl rfl) rfl rfl ?_)|(refine kK ?_;first|refine jY rfl (by decide) rfl rfl ?_|refine nJ rfl (by decide) rfl rfl ?_)|(refine kD ?_;first|refine aD rfl (fun _=>fA rfl) rfl rfl ?_)|(refine kF ?_;first|refine nE rfl rfl jH rfl rfl ?_|refine nK vwX rfl rfl jH aY nQ rfl rfl ?_|refine nI vwX rfl rfl jH aY nQ rfl rfl ?_|refine aD rfl (fun _=>dV rfl rfl jH) rfl rfl ?_)|(refine kI ?_;first|refine nH vwX rfl aY xQ rfl rfl ?_|refine nG vwX rfl aY xQ rfl rfl ?_|refine kX vwX rfl aY xQ rfl rfl ?_|refine jF vwX rfl aY xQ rfl rfl ?_|refine rE vwX rfl aY nL jR rfl rfl ?_|refine rC vwX rfl aY nL jR rfl rfl ?_|refine rD vwX rfl aY nL jR rfl rfl ?_|refine pQ vwX rfl aY nL jR rfl rfl ?_)|(refine jX ?_;first|refine aD rfl (fun _=>dW rfl rfl) rfl rfl ?_|refine aD rfl (fun _=>dJ rfl) rfl rfl ?_)|(refine oF ?_;first|refine oH rfl rfl rfl sQ stC rfl rfl ⟨okD,?_⟩|refine fM rfl rfl jR nU sQ aBS rfl rfl ⟨okD,?_⟩)|(refine mD ?_;first|refine fD rfl ?_|refine dZ rfl ?_|refine oQ rfl (by omega) ?_|refine sJ rfl (by omega) ?_));(repeat (first|refine aJ ?_|refine iD ?_|refine pK ?_|refine mF ?_|refine jM ?_|refine jE ?_|refine lV ?_|refine lJ ?_|refine jP ?_|refine jL ?_|refine oZ ?_|refine oU ?_|refine pU ?_|refine oP rfl ?_|refine aT ?_|(refine jZ ?_;first|refine kE rfl rfl rfl ?_|(refine kR rfl rfl ?_;refine iU rfl rfl rfl okD ?_)|refine kQ rfl rfl (by omega) ?_|refine kG rfl rfl (by omega) ?_)|(refine dY ?_;refine aD rfl (fun _=>fU rfl) rfl rfl ?_)|refine aD rfl (fun _=>bP rfl) rfl rfl ?_|(refine kL ?_;first|refine aD rfl (fun _=>dF rfl rfl w_) rfl rfl ?_|refine aD rfl (fun _=>dG rfl rfl w_) rfl rfl ?_|refine aD rfl (fun _=>gZ rfl rfl w_) rfl rfl ?_|refine aD rfl (fun _=>gX rfl rfl (by omega) q_) rfl rfl ?_|refine aD rfl (fun _=>gY rfl rfl (by omega) rfl) rfl rfl ?_|refine aD rfl (fun _=>fZ rfl rfl) rfl rfl ?_)|(refine dY ?_;first|refine aD rfl (fun _=>gJ rfl w_) rfl rfl ?_)|(refine jW ?_;first|refine aD rfl (fun _=>fB rfl w_) rfl rfl ?_)|(refine jV ?_;first|refine aD rfl (fun _=>dE rfl) rfl rfl ?_|refine aD rfl (fun _=>fQ rfl rfl) rfl rfl ?_|refine aD rfl (fun _=>fT rfl rfl) rfl rfl ?_|refine aD rfl (fun _=>fV rfl rfl rfl) rfl rfl ?_)|(refine kK ?_;first|refine jY rfl (by decide) rfl rfl ?_|refine nJ rfl (by decide) rfl rfl ?_)|(refine kD ?_;first|refine aD rfl (fun _=>fA rfl) rfl rfl ?_)|(refine kF ?_;first|refine nE rfl rfl jH rfl rfl ?_|refine nK vwX rfl rfl jH aY nQ rfl rfl ?_|refine nI vwX rfl rfl jH aY nQ rfl rfl ?_|refine aD rfl (fun _=>dV rfl rfl jH) rfl rfl ?_)|(refine kI ?_;first|refine nH vwX rfl aY xQ rfl rfl ?_|refine nG vwX rfl aY xQ rfl rfl ?_|refine kX vwX rfl aY xQ rfl rfl ?_|refine jF vwX rfl aY xQ rfl rfl ?_|refine rE vwX rfl aY nL jR rfl rfl ?_|refine rC vwX rfl aY nL jR rfl rfl ?_|refine rD vwX rfl aY nL jR rfl rfl ?_|refine pQ vwX rfl aY nL jR rfl rfl ?_)|(refine jX ?_;first|refine aD rfl (fun _=>dW rfl rfl) rfl rfl ?_|refine aD rfl (fun _=>dJ rfl) rfl rfl ?_)|(refine oF ?_;first|refine oH rfl rfl rfl sQ stC rfl rfl ⟨okD,?_⟩|refine fM rfl rfl jR nU sQ aBS rfl rfl ⟨okD,?_⟩)|(refine mD ?_;first|refine fD rfl ?_|refine dZ rfl ?_|refine oQ rfl (by omega) ?_|refine sJ rfl (by omega) ?_)));exact hh.out)):p:=w ⟨h⟩
end Go.Fx
namespace Go.Proofs.YtgpkjcmipiodcaaGreat
open Go Go.Fx
section
variable {X:List Nat} {w0:World} {M0:List Ent} {I0:List aV}
theorem aWX {p:Option Addr} {a:List Int} {c:Nat} {g:FuncId} [FnOk Tryz.prog g] {fs cs:Array Value} (pr:Int→Prop) [DecidablePred pr] (hn:(a.length:Int)≤9223372036854775807) (ha:aI p (recs (eI .i64) a)∈I0)
  (hg:∀i:Nat,i < a.length→CD Tryz.prog g (fs.toList++[.int .i64 (gt a i)]++cs.toList) X w0 M0 I0 (fun v M I=>M0=M∧I0=I∧v= .bool (B (pr (gt a i))))):
  CD Tryz.prog 122 [.slice p a.length c, .func (.func g) fs cs] X w0 M0 I0 (fun v M I=>M0=M∧I0=I∧∃r:Int,v= .int .i64 r∧((∃i:Nat,i < a.length∧r=i∧pr (gt a i)∧∀j:Nat,j < i→¬pr (gt a j))∨(r= -1∧∀j:Nat,j < a.length→¬pr (gt a j)))):=by
 refine eD Tryz.func122 rfl Tryz.ntmps122 rfl ?_
 repeat (refine wXn ?_)
 refine eO [0,1,7] rfl (fun k G M I=>∃i:Nat,i≤a.length∧k=a.length - i∧(∀j:Nat,j < i→¬pr (gt a j))∧G=[(8, .int .i64 i)]∧M=M0∧I=I0) (a.length) _ _ _ dS bX bV (⟨0,by omega,rfl,fun j hj=>by omega,rfl,rfl,rfl⟩) ?_
 rintro k G M I ⟨i,hi,rfl,hs,rfl,rfl,rfl⟩
 repeat' (first|refine wXn ?_|refine aQ rfl (fun h=>?_) (fun h=>?_)|refine aR rfl rfl (fun h=>?_) (fun h=>?_)|fail)
 ·have hlt:i < a.length:=by omega
  (refine aCX rfl rfl (hg i hlt) rfl rfl rfl ?_;rintro _ _ _ ⟨rfl,rfl,rfl⟩;refine ⟨okD,?_⟩)
  repeat' (first|refine wXn ?_|refine aQ rfl (fun h=>?_) (fun h=>?_)|refine aR rfl rfl (fun h=>?_) (fun h=>?_)|fail)
  ·refine aH (by first|exact .inl rfl|exact .inr rfl) rfl rfl _ _ bX bV (⟨rfl,rfl,_,rfl, .inl ⟨i,hlt,rfl,by assumption,hs⟩⟩)
  ·refine bY (a.length - (i+1)) _ _ _ (by first|omega|(simp only [List.length_append,List.length_cons,List.length_nil];omega)) dS bX bV (⟨i+1,by omega,rfl,fun j hj=>?_,rfl,rfl,rfl⟩)
   by_cases e:j=i
   ·subst e;assumption
   ·exact hs j (by omega)
 ·refine aH (by first|exact .inl rfl|exact .inr rfl) rfl rfl _ _ bX bV (⟨rfl,rfl,_,rfl, .inr ⟨rfl,fun j hj=>hs j (by omega)⟩⟩)
theorem aGN {p:Option Addr} {a:List Int} {c:Nat} {g:FuncId} [FnOk Tryz.prog g] {fs cs:Array Value} (pr:Int→Prop) [DecidablePred pr] (hn:(a.length:Int)≤9223372036854775807) (ha:aI p (recs (eI .i64) a)∈I0)
  (hg:∀i:Nat,i < a.length→CD Tryz.prog g (fs.toList++[.int .i64 (gt a i)]++cs.toList) X w0 M0 I0 (fun v M I=>M0=M∧I0=I∧v= .bool (B (pr (gt a i))))):
  CD Tryz.prog 61 [.slice p a.length c, .func (.func g) fs cs] X w0 M0 I0 (fun v M I=>M0=M∧I0=I∧v= .bool (B (∃x∈a,pr x))):=by
 refine eD Tryz.func61 rfl Tryz.ntmps61 rfl ?_
 repeat (refine wXn ?_)
 (refine lX rfl (aWX pr hn ha hg) rfl rfl ?_;rintro _ _ _ ⟨rfl,rfl,r,rfl,h⟩;refine ⟨okD,?_⟩)
 repeat (refine wXn ?_)
 refine aH (by first|exact .inl rfl|exact .inr rfl) rfl rfl _ _ bX bV (⟨rfl,rfl,congrArg Value.bool (gU ?_)⟩)
 rcases h with ⟨i,hi,rfl,hp,_⟩|⟨rfl,h⟩
 ·exact ⟨fun _=>⟨gt a i,by rw [eU hi];exact List.getElem_mem hi,hp⟩,fun _=>by omega⟩
 ·refine ⟨fun h=>by omega,?_⟩
  rintro ⟨x,hx,hp⟩
  obtain ⟨j,hj,rfl⟩:=List.mem_iff_getElem.1 hx
  exact absurd (by rw [eU hj];exact hp) (h j hj)
end
def farL (lim:Int) (l:List Int):Prop:=∃x∈l,x < -lim∨lim < x
instance farL.dec (lim:Int) (l:List Int):Decidable (farL lim l):=by unfold farL;exact inferInstance
section
variable {X:List Nat} {w0:World} {M0 M1:List Ent} {I0:List aV}
theorem aPG {p:Option Addr} {l:List Int} {t c:Nat} {x:Int} (hl:l.length=t) (ht:t≤100000) (hp:aI p (recs (eI .i64) l)∈I0):
  CD Tryz.prog 169 [.slice p t c, .int .i64 x] X w0 M0 I0 (fun v M I=>M0=M∧I0=I∧∃r:Int,v= .int .i64 r∧(0≤r↔x∈l)):=by
 refine aP Tryz.func169 rfl Tryz.ntmps169 rfl ?_
 repeat refine aB ?_
 refine kS [0,1,7] rfl (fun k G M I=>∃i:Nat,i≤t∧k=t - i∧(∀j:Nat,j < i→gt l j≠x)∧G=[(8, .int .i64 i)]∧M0=M∧I0=I) (t) (⟨0,by omega,rfl,fun j hj=>by omega,rfl,rfl,rfl⟩) ?_
 rintro kk G M I ⟨i,hi,rfl,hs,rfl,rfl,rfl⟩
 by_cases hit:i < t
 ·by_cases he:x=gt l (i:Int)
  ·repeat refine aB ?_
   refine aH (by first|exact .inl rfl|exact .inr rfl) rfl rfl _ _ aG aF (⟨rfl,rfl,(i:Int),rfl,⟨fun _=>by rw [he,eU (by omega)];exact List.getElem_mem _,fun _=>by omega⟩⟩)
  ·repeat refine aB ?_
   refine iC (t - (i+1)) (⟨i+1,by omega,rfl,fun j hj=>?_,rfl,rfl,rfl⟩)
   by_cases e:j=i
   ·subst e;exact fun h=>he h.symm
   ·exact hs j (by omega)
 ·repeat refine aB ?_
  refine aH (by first|exact .inl rfl|exact .inr rfl) rfl rfl _ _ aG aF (⟨rfl,rfl, -1,rfl,⟨fun h=>by omega,fun h=>by {obtain ⟨j,hj,e⟩:=List.mem_iff_getElem.1 h;exact absurd (by rw [eU hj];exact e) (hs j (by omega))}⟩⟩)
theorem aYG {p:Option Addr} {l:List Int} {t c:Nat} {x:Int} (hl:l.length=t) (ht:t≤100000) (hp:aI p (recs (eI .i64) l)∈I0):
  CD Tryz.prog 124 [.slice p t c, .int .i64 x] X w0 M0 I0 (fun v M I=>M0=M∧I0=I∧v= .bool (B (x∈l))):=by
 refine aP Tryz.func124 rfl Tryz.ntmps124 rfl ?_
 repeat refine aB ?_
 (refine aU rfl (aPG hl ht hp) ?_;rintro _ _ _ ⟨rfl,rfl,r,rfl,h⟩;refine aL ?_)
 repeat refine aB ?_
 refine gD rfl rfl (⟨rfl,rfl,congrArg Value.bool (gU h)⟩)
theorem aRM {lim z:Int} {b:Nat} (hl:0≤lim∧lim≤9000000000000000000) (hb:aI (some ⟨b,0,none⟩) [.int .i64 lim]∈I0):
  CD Tryz.prog 121 [.int .i64 z, .pointer (some ⟨b,0,none⟩)] X w0 M0 I0 (fun v M I=>M0=M∧I0=I∧v= .bool (B (z < -lim∨lim < z))):=by
 refine aP Tryz.func121 rfl Tryz.ntmps121 rfl ?_
 by_cases h1:z < -lim
 ·repeat refine aB ?_
  refine gD rfl rfl (⟨rfl,rfl,congrArg Value.bool (cB (.inl h1)).symm⟩)
 ·repeat refine aB ?_
  refine gD rfl rfl (⟨rfl,rfl,congrArg Value.bool (gU ⟨fun h=> .inr h,fun h=>by omega⟩)⟩)
theorem zH {lim:Int} {p:Option Addr} {l:List Int} {t c:Nat} (hl:0≤lim∧lim≤9000000000000000000) (ht:l.length=t) (ht2:t≤100) (hp:aI p (recs (eI .i64) l)∈I0):
  CD Tryz.prog 60 [.int .i64 lim, .slice p t c] X w0 M0 I0 (fun v M I=>M0=M∧I0=I∧v= .bool (B (farL lim l))):=by
 subst ht
 refine aP Tryz.func60 rfl Tryz.ntmps60 rfl ?_
 refine fE ?_
 (refine aXL rfl rfl rfl ?_;intro b2;refine aL ?_)
 refine aC (cs:=[.int .i64 lim]) .here ?_
 repeat refine aB ?_
 refine dP rfl (aGN (fun x=>x < -lim∨lim < x) (by omega) aA (fun i hi=>aRM hl aA)) ?_
 repeat refine aB ?_
 refine gD rfl rfl (⟨rfl,rfl,rfl⟩)
theorem aTC {s:ST} {d:Int} (hd:d=3) (hs:StOk s):
  CD Tryz.prog 59 [.int .i64 d,stv s] X w0 M0 I0 (fun v M I=>M0=M∧I0=I∧v= .int .i64 0):=by
 have hf:=hs.f
 have hfar:¬farL 1048576 [s.x,s.y,s.z,s.cx,s.cy]:=by
  have h1:=hs.x
  have h2:=hs.y
  have h3:=hs.z
  have h4:=hs.cx
  have h5:=hs.cy
  rintro ⟨x,hx,h⟩
  simp only [List.mem_cons,List.not_mem_nil,or_false] at hx
  rcases hx with rfl|rfl|rfl|rfl|rfl <;>omega
 have hC:=fun M0 I0=>xG (X:=X) (w0:=w0) (M0:=M0) (I0:=I0) (q:=s.q)
 rw [yP hs.nz hs.fit] at hC
 refine aP Tryz.func59 rfl Tryz.ntmps59 rfl ?_
 refine fE ?_
 refine fG rfl (fun b3=>?_)
 refine aC (cs:=qU s) .here ?_
 repeat refine aB ?_
 refine lL (cs:=recs (eI .i64) [s.x,s.y,s.z,s.cx,s.cy]) ([.int .i64 s.x, .int .i64 s.y, .int .i64 s.z, .int .i64 s.cx, .int .i64 s.cy]) rfl (fun b21=>?_)
 refine aC .here ?_
 refine dP rfl (zH (lim:=1048576) (by decide) rfl (by decide) aA) ?_
 rw [bF hfar]
 repeat refine aB ?_
 refine dP rfl (hC _ _) ?_
 repeat refine aB ?_
 refine gD rfl rfl (⟨rfl,rfl,rfl⟩)
theorem aWR {x:NX} {z:Int} {b:Nat} (hb:aI (some ⟨b,0,none⟩) (nO x)∈I0):
  CD Tryz.prog 63 [.int .i64 z, .pointer (some ⟨b,0,none⟩)] X w0 M0 I0 (fun v M I=>M0=M∧I0=I∧v= .bool (B (z < 0∨(x.S.length:Int)≤z))):=by
 refine aP Tryz.func63 rfl Tryz.ntmps63 rfl ?_
 by_cases h1:z < 0
 ·repeat refine aB ?_
  refine gD rfl rfl (⟨rfl,rfl,congrArg Value.bool (cB (.inl h1)).symm⟩)
 ·repeat refine aB ?_
  refine gD rfl rfl (⟨rfl,rfl,congrArg Value.bool (gU ⟨fun h=> .inr h,fun h=>by omega⟩)⟩)
theorem aWN {x:NX} {z:Int} {b:Nat} (hb:aI (some ⟨b,0,none⟩) (nO x)∈I0):
  CD Tryz.prog 65 [.int .i64 z, .pointer (some ⟨b,0,none⟩)] X w0 M0 I0 (fun v M I=>M0=M∧I0=I∧v= .bool (B (z < 0∨(x.P.length:Int)≤z))):=by
 refine aP Tryz.func65 rfl Tryz.ntmps65 rfl ?_
 by_cases h1:z < 0
 ·repeat refine aB ?_
  refine gD rfl rfl (⟨rfl,rfl,congrArg Value.bool (cB (.inl h1)).symm⟩)
 ·repeat refine aB ?_
  refine gD rfl rfl (⟨rfl,rfl,congrArg Value.bool (gU ⟨fun h=> .inr h,fun h=>by omega⟩)⟩)
end
end Go.Proofs.YtgpkjcmipiodcaaGreat
namespace Go.Proofs.YtgpkjcmipiodcaaGreat
open Go Go.Fx
def SLQ (o:OB) (z:Int) (M0:List Ent) (I0:List aV) (v:Value) (M:List Ent) (I:List aV):Prop:=
 M0=M∧∃(p:Option Addr) (c:Nat) (l:List Int),v= .slice p l.length c∧(l.length≤2∧(o.k=0→l=[z]))∧I=aI p (recs (eI .i64) l)::I0
section
variable {X:List Nat} {w0:World} {M0 M1:List Ent} {I0:List aV}
theorem aWM {o:OB}:CD Tryz.prog 62 [obv o] X w0 M0 I0 (SLQ o o.a M0 I0):=by
 refine aZ Tryz.func62 rfl Tryz.ntmps62 rfl ?_
 refine fE ?_
 refine fG rfl (fun b1=>?_)
 refine aC (cs:=jU o) .here ?_
 by_cases h:o.k=0∨o.k=2∨(o.k=4∧o.b= -1)
 ·rcases h with h|h|⟨h,h'⟩
  all_goals
   repeat refine aB ?_
   refine lL (cs:=recs (eI .i64) [o.a]) ([.int .i64 o.a]) rfl (fun b23=>?_)
   repeat refine aB ?_
   refine iZ .here ?_
   refine aH (by first|exact .inl rfl|exact .inr rfl) rfl rfl _ _ aG aF (⟨rfl,some ⟨b23,0,none⟩,1,[o.a],rfl,⟨by simp,fun _=>rfl⟩,rfl⟩)
 ·have h1:¬o.k=0:=fun e=>h (.inl e)
  have h2:¬o.k=2:=fun e=>h (.inr (.inl e))
  by_cases h3:o.k=4
  ·have h4:¬o.b= -1:=fun e=>h (.inr (.inr ⟨h3,e⟩))
   repeat refine aB ?_
   refine uY none ?_
   refine aH (by first|exact .inl rfl|exact .inr rfl) rfl rfl _ _ aG aF (⟨rfl,none,0,[],rfl,⟨by simp,fun e=>absurd e h1⟩,rfl⟩)
  ·repeat refine aB ?_
   refine uY none ?_
   refine aH (by first|exact .inl rfl|exact .inr rfl) rfl rfl _ _ aG aF (⟨rfl,none,0,[],rfl,⟨by simp,fun e=>absurd e h1⟩,rfl⟩)
theorem aVP {o:OB}:CD Tryz.prog 64 [obv o] X w0 M0 I0 (SLQ o o.b M0 I0):=by
 refine aZ Tryz.func64 rfl Tryz.ntmps64 rfl ?_
 refine fE ?_
 refine fG rfl (fun b1=>?_)
 refine aC (cs:=jU o) .here ?_
 by_cases h3:o.k=3
 ·repeat refine aB ?_
  refine lL (cs:=recs (eI .i64) [o.a,o.b]) ([.int .i64 o.a, .int .i64 o.b]) rfl (fun b23=>?_)
  repeat refine aB ?_
  refine iZ .here ?_
  refine aH (by first|exact .inl rfl|exact .inr rfl) rfl rfl _ _ aG aF (⟨rfl,some ⟨b23,0,none⟩,2,[o.a,o.b],rfl,⟨by simp,fun e=>by omega⟩,rfl⟩)
 by_cases h2:o.k=2
 ·repeat refine aB ?_
  refine uY none ?_
  refine aH (by first|exact .inl rfl|exact .inr rfl) rfl rfl _ _ aG aF (⟨rfl,none,0,[],rfl,⟨by simp,fun e=>by omega⟩,rfl⟩)
 by_cases h4:o.k=4
 ·by_cases hb:o.b= -1
  ·repeat refine aB ?_
   refine uY none ?_
   refine aH (by first|exact .inl rfl|exact .inr rfl) rfl rfl _ _ aG aF (⟨rfl,none,0,[],rfl,⟨by simp,fun e=>by omega⟩,rfl⟩)
  ·repeat refine aB ?_
   refine lL (cs:=recs (eI .i64) [o.b]) ([.int .i64 o.b]) rfl (fun b23=>?_)
   repeat refine aB ?_
   refine iZ .here ?_
   refine aH (by first|exact .inl rfl|exact .inr rfl) rfl rfl _ _ aG aF (⟨rfl,some ⟨b23,0,none⟩,1,[o.b],rfl,⟨by simp,fun _=>rfl⟩,rfl⟩)
 ·repeat refine aB ?_
  refine lL (cs:=recs (eI .i64) [o.b]) ([.int .i64 o.b]) rfl (fun b23=>?_)
  repeat refine aB ?_
  refine iZ .here ?_
  refine aH (by first|exact .inl rfl|exact .inr rfl) rfl rfl _ _ aG aF (⟨rfl,some ⟨b23,0,none⟩,1,[o.b],rfl,⟨by simp,fun _=>rfl⟩,rfl⟩)
theorem aVS {o:OB} {d:Int} (hd:d=3):CD Tryz.prog 66 [.int .i64 d,obv o] X w0 M0 I0 (fun v M I=>M0=M∧I0=I∧∃b:Bool,v= .bool b∧(o.k=0→o.x=0→b=false)):=by
 have hA:=fun (w:Nat) M0 I0 hw=>aJA (X:=X) (w0:=w0) (M0:=M0) (I0:=I0) (w:=w) hd hw
 have hA0:=fun M0 I0=>hA 0 M0 I0 (by decide)
 have hA1:=fun M0 I0=>hA 1 M0 I0 (by decide)
 have hH:=fun (w:Nat) (b:Nat) M0 I0 h=>aYG (X:=X) (w0:=w0) (M0:=M0) (I0:=I0) (p:=some ⟨b,0,none⟩) (l:=axL w) (t:=axN w) (c:=axN w) (x:=o.x) (aHV w) (by have:=aUT w;omega) h
 refine aP Tryz.func66 rfl Tryz.ntmps66 rfl ?_
 refine fE ?_
 refine fG rfl (fun b3=>?_)
 refine aC (cs:=jU o) .here ?_
 by_cases h0:o.k=0
 ·by_cases hw:o.w=0
  all_goals
   repeat refine aB ?_
   (refine aU rfl (hA1 _ _) ?_;rintro _ _ _ ⟨rfl,bx,rfl,rfl⟩;refine aL ?_)
   repeat refine aB ?_
   refine aH (by first|exact .inl rfl|exact .inr rfl) rfl rfl _ _ aG aF (⟨rfl,rfl,_,rfl,fun _ hx=>by rw [rZ];simp [hx]⟩)
 ·by_cases hw:o.w=0
  ·repeat refine aB ?_
   (refine aU rfl (hA1 _ _) ?_;rintro _ _ _ ⟨rfl,bx,rfl,rfl⟩;refine aL ?_)
   by_cases h1:o.k=1
   ·by_cases ha:o.a=0
    ·repeat refine aB ?_
     refine dP rfl (hH 1 bx _ _ aA) ?_
     repeat refine aB ?_
     refine aH (by first|exact .inl rfl|exact .inr rfl) rfl rfl _ _ aG aF (⟨rfl,rfl,_,rfl,fun e=>absurd e h0⟩)
    ·repeat refine aB ?_
     refine aH (by first|exact .inl rfl|exact .inr rfl) rfl rfl _ _ aG aF (⟨rfl,rfl,_,rfl,fun e=>absurd e h0⟩)
   by_cases h2:o.k=2
   ·by_cases hb:o.b=0
    ·repeat refine aB ?_
     refine dP rfl (hH 1 bx _ _ aA) ?_
     repeat refine aB ?_
     refine aH (by first|exact .inl rfl|exact .inr rfl) rfl rfl _ _ aG aF (⟨rfl,rfl,_,rfl,fun e=>absurd e h0⟩)
    ·repeat refine aB ?_
     refine aH (by first|exact .inl rfl|exact .inr rfl) rfl rfl _ _ aG aF (⟨rfl,rfl,_,rfl,fun e=>absurd e h0⟩)
   by_cases h3:o.k=3
   ·by_cases hx:o.x=0
    ·repeat refine aB ?_
     refine aH (by first|exact .inl rfl|exact .inr rfl) rfl rfl _ _ aG aF (⟨rfl,rfl,_,rfl,fun e=>absurd e h0⟩)
    ·repeat refine aB ?_
     refine aH (by first|exact .inl rfl|exact .inr rfl) rfl rfl _ _ aG aF (⟨rfl,rfl,_,rfl,fun e=>absurd e h0⟩)
   by_cases hv:o.v=0
   ·by_cases hb:o.b= -1
    ·repeat refine aB ?_
     (repeat refine aJ ?_);refine vT ([]) (aI (some ⟨b3,0,none⟩) (jU o)::[]) [0,2,3,1,4,5,6] [1,2,1,0,0,0,0] mixed ?_
     repeat refine aB ?_
     (refine aU rfl (hA0 _ _) ?_;rintro _ _ _ ⟨rfl,b9,rfl,rfl⟩;refine aL ?_)
     repeat refine aB ?_
     refine dP rfl (hH 0 b9 _ _ aA) ?_
     repeat refine aB ?_
     refine aH (by first|exact .inl rfl|exact .inr rfl) rfl rfl _ _ aG aF (⟨rfl,rfl,_,rfl,fun e=>absurd e h0⟩)
    ·by_cases ha:o.a=0
     ·repeat refine aB ?_
      refine dP rfl (hH 1 bx _ _ aA) ?_
      repeat refine aB ?_
      refine aH (by first|exact .inl rfl|exact .inr rfl) rfl rfl _ _ aG aF (⟨rfl,rfl,_,rfl,fun e=>absurd e h0⟩)
     ·repeat refine aB ?_
      refine aH (by first|exact .inl rfl|exact .inr rfl) rfl rfl _ _ aG aF (⟨rfl,rfl,_,rfl,fun e=>absurd e h0⟩)
   ·repeat refine aB ?_
    refine aH (by first|exact .inl rfl|exact .inr rfl) rfl rfl _ _ aG aF (⟨rfl,rfl,_,rfl,fun e=>absurd e h0⟩)
  ·repeat refine aB ?_
   refine aH (by first|exact .inl rfl|exact .inr rfl) rfl rfl _ _ aG aF (⟨rfl,rfl,_,rfl,fun e=>absurd e h0⟩)
end
end Go.Proofs.YtgpkjcmipiodcaaGreat
namespace Go.Proofs.YtgpkjcmipiodcaaGreat
open Go Go.Fx
structure NPre (x:NX):Prop where
 d:x.d=3
 S:∀s∈x.S,StOk s
 P:∀p∈x.P,p.Ok
 lS:x.S.length≤64
 lP:x.P.length≤256
 lO:x.O.length≤1024
theorem P3.Ok.near {p:P3} (h:p.Ok):¬farL 1048576 [p.x,p.y,p.z]:=by
 have h1:=h.x
 have h2:=h.y
 have h3:=h.z
 rintro ⟨x,hx,h⟩
 simp only [List.mem_cons,List.not_mem_nil,or_false] at hx
 rcases hx with rfl|rfl|rfl <;>omega
section
variable {X:List Nat} {w0:World} {M0 M1:List Ent} {I0:List aV}
theorem aEV {x:NX} (hN:NPre x) (hS:aI x.pS (recs qU x.S)∈I0) (hP:aI x.pP (recs gP x.P)∈I0) (hO:aI x.pO (recs jU x.O)∈I0):
  CD Tryz.prog 24 [nxv x] X w0 M0 I0 (fun v M I=>M0=M∧I0=I∧∃e:Int,v= .int .i64 e∧(NImg x→e=0)):=by
 have hd:=hN.d
 have lO:=hN.lO
 have lS:=hN.lS
 have lP:=hN.lP
 have hCS:=fun (s:ST) M0 I0 h=>aTC (X:=X) (w0:=w0) (M0:=M0) (I0:=I0) (s:=s) hd h
 have hOd:=fun (o:OB) M0 I0=>aVS (X:=X) (w0:=w0) (M0:=M0) (I0:=I0) (o:=o) hd
 obtain ⟨mS,hmS⟩:∃m,x.S.length=m:=⟨_,rfl⟩
 obtain ⟨mP,hmP⟩:∃m,x.P.length=m:=⟨_,rfl⟩
 obtain ⟨mO,hmO⟩:∃m,x.O.length=m:=⟨_,rfl⟩
 refine aZ Tryz.func24 rfl Tryz.ntmps24 rfl ?_
 refine fE ?_
 refine fG rfl (fun b1=>?_)
 refine aC (cs:=nO x) .here ?_
 repeat refine aB ?_
 rw [hmS]
 refine kS [1,38,39] rfl (fun k G M I=>∃i:Nat,i≤mS∧k=mS - i∧G=[(40, .int .i64 i)]∧M0=M∧aI (some ⟨b1,0,none⟩) (nO x)::I0=I) (mS) (⟨0,by omega,rfl,rfl,rfl,rfl⟩) ?_
 rintro kk G M I ⟨i,hi,rfl,rfl,rfl,rfl⟩
 by_cases him:i < mS
 ·have hs:=hN.S _ (bJ (ms:=x.S) (i:=(i:Int)) ⟨by omega,by omega⟩)
  obtain ⟨s,hse⟩:∃s,gt x.S (i:Int)=s:=⟨_,rfl⟩
  rw [hse] at hs
  repeat refine aB ?_
  refine bG (fun b4=>?_)
  rw [hse]
  repeat refine aB ?_
  refine dP rfl (hCS s _ _ hs) ?_
  repeat refine aB ?_
  refine iC (mS - (i+1)) (⟨i+1,by omega,rfl,rfl,rfl,rfl⟩)
 obtain rfl:i=mS:=by omega
 repeat refine aB ?_
 rw [hmP]
 refine kS [1,53,54] rfl (fun k G M I=>∃i:Nat,i≤mP∧k=mP - i∧G=[(55, .int .i64 i)]∧M0=M∧aI (some ⟨b1,0,none⟩) (nO x)::I0=I) (mP) (⟨0,by omega,rfl,rfl,rfl,rfl⟩) ?_
 clear him
 rintro kk G M I ⟨j,hj,rfl,rfl,rfl,rfl⟩
 by_cases hjm:j < mP
 ·have hs:=(hN.P _ (bJ (ms:=x.P) (i:=(j:Int)) ⟨by omega,by omega⟩)).near
  obtain ⟨p,hpe⟩:∃s,gt x.P (j:Int)=s:=⟨_,rfl⟩
  rw [hpe] at hs
  repeat refine aB ?_
  refine bG (fun b7=>?_)
  rw [hpe]
  repeat refine aB ?_
  refine lL (cs:=recs (eI .i64) [p.x,p.y,p.z]) ([.int .i64 p.x, .int .i64 p.y, .int .i64 p.z]) rfl (fun b65=>?_)
  refine aC .here ?_
  refine dP rfl (zH (lim:=1048576) (by decide) rfl (by decide) aA) ?_
  rw [bF hs]
  repeat refine aB ?_
  refine iC (mP - (j+1)) (⟨j+1,by omega,rfl,rfl,rfl,rfl⟩)
 obtain rfl:j=mP:=by omega
 repeat refine aB ?_
 (refine sM vB rfl rfl ?_;intro b8;refine aL ?_)
 repeat refine aB ?_
 rw [hmO]
 refine kS [1,8,78,79] rfl (fun k G M I=>∃(i:Nat) (es:List (List Int × Bool)),i≤mO∧k=mO - i∧(∀p∈es,p.1.length=3)∧G=[(80, .int .i64 i)]∧M= .obj b8 (mV vB es)::M0∧aI (some ⟨b1,0,none⟩) (nO x)::I0=I) (mO) (⟨0,[],by omega,rfl,fun p hp=>absurd hp List.not_mem_nil,rfl,rfl,rfl⟩) ?_
 clear hjm
 rintro kk G M I ⟨t,es,ht,rfl,hes,rfl,rfl,rfl⟩
 by_cases htm:t < mO
 ·have hom:=bJ (ms:=x.O) (i:=(t:Int)) ⟨by omega,by omega⟩
  obtain ⟨o,hoe⟩:∃s,gt x.O (t:Int)=s:=⟨_,rfl⟩
  rw [hoe] at hom
  repeat refine aB ?_
  refine bG (fun b10=>?_)
  rw [hoe]
  repeat refine aB ?_
  refine aC (cs:=jU o) .here ?_
  have him:NImg x→ObI x.S.length x.P.length o:=fun h=>h.O o hom
  by_cases k0:o.k < 0
  ·repeat refine aB ?_
   refine aH (by first|exact .inl rfl|exact .inr rfl) rfl rfl _ _ aG aF (⟨rfl,rfl,1,rfl,fun h=>by have:=(him h).k;omega⟩)
  by_cases k4:4 < o.k
  ·repeat refine aB ?_
   refine aH (by first|exact .inl rfl|exact .inr rfl) rfl rfl _ _ aG aF (⟨rfl,rfl,1,rfl,fun h=>by have:=(him h).k;omega⟩)
  repeat refine aB ?_
  (refine aU rfl (aWM (o:=o)) ?_;rintro _ _ _ ⟨rfl,p1,c1,l1,rfl,⟨hl1,he1⟩,rfl⟩;refine aL ?_)
  repeat refine aB ?_
  refine dP rfl (aGN (fun z=>z < 0∨(x.S.length:Int)≤z) (by omega) aA (fun i hi=>aWR aA)) ?_
  by_cases hq1:∃z∈l1,z < 0∨(x.S.length:Int)≤z
  ·rw [cB hq1]
   repeat refine aB ?_
   refine gD rfl rfl (⟨rfl,rfl,6,rfl,fun h=>by
    have hi:=him h
    rw [he1 hi.k] at hq1
    obtain ⟨z,hz,hz2⟩:=hq1
    rw [List.mem_singleton.1 hz] at hz2
    have:=hi.a
    omega⟩)
  rw [bF hq1]
  repeat refine aB ?_
  (refine aU rfl (aVP (o:=o)) ?_;rintro _ _ _ ⟨rfl,p2,c2,l2,rfl,⟨hl2,he2⟩,rfl⟩;refine aL ?_)
  repeat refine aB ?_
  refine dP rfl (aGN (fun z=>z < 0∨(x.P.length:Int)≤z) (by omega) aA (fun i hi=>aWN aA)) ?_
  by_cases hq2:∃z∈l2,z < 0∨(x.P.length:Int)≤z
  ·rw [cB hq2]
   repeat refine aB ?_
   refine gD rfl rfl (⟨rfl,rfl,6,rfl,fun h=>by
    have hi:=him h
    rw [he2 hi.k] at hq2
    obtain ⟨z,hz,hz2⟩:=hq2
    rw [List.mem_singleton.1 hz] at hz2
    have:=hi.b
    omega⟩)
  rw [bF hq2]
  repeat refine aB ?_
  (refine aU rfl (hOd o _ _) ?_;rintro _ _ _ ⟨rfl,rfl,bo,rfl,hbo⟩;refine aL ?_)
  cases bo with
  |true=>
   repeat refine aB ?_
   refine aH (by first|exact .inl rfl|exact .inr rfl) rfl rfl _ _ aG aF (⟨rfl,rfl,1,rfl,fun h=>absurd (hbo (him h).k (him h).x) (by decide)⟩)
  |false=>
   by_cases hk:o.k=4
   ·have hnI:NImg x→False:=fun h=>by have:=(him h).k;omega
    by_cases hg:o.g=0
    ·repeat refine aB ?_
     refine lL (cs:=recs (eI .i64) [o.v,o.w]) ([.int .i64 o.v, .int .i64 o.w]) rfl (fun b65=>?_)
     refine aC .here ?_
     refine dP rfl (zH (lim:=1099511627776) (by decide) rfl (by decide) aA) ?_
     by_cases hf:farL 1099511627776 [o.v,o.w]
     ·rw [cB hf]
      repeat refine aB ?_
      refine gD rfl rfl (⟨rfl,rfl,2,rfl,fun h=>absurd (hnI h) id⟩)
     ·rw [bF hf]
      repeat refine aB ?_
      (refine aD rfl (fun _=>aK (pvs:=[(0, .int .i64 o.a),(1, .int .i64 o.b),(2, .int .i64 o.x)]) (cells:=[.int .i64 o.a, .int .i64 o.b, .int .i64 o.x]) rfl rfl) rfl rfl ?_)
      refine bG (fun b12=>?_)
      repeat refine aB ?_
      obtain ⟨bb,hbb⟩:∃bb:Bool,((iA es [o.a,o.b,o.x] 0).map (·.2)).getD false=bb:=⟨_,rfl⟩
      (refine aGJ (v:=bb) (kk:=[o.a,o.b,o.x]) (z:=false) (vf:=vB) (es:=es) hbb rfl rfl rfl hes aA rfl rfl ⟨okF,?_⟩)
      cases bb with
      |true=>
       repeat refine aB ?_
       refine gD rfl rfl (⟨rfl,rfl,7,rfl,fun h=>absurd (hnI h) id⟩)
      |false=>
       repeat refine aB ?_
       (refine zM (kk:=[o.a,o.b,o.x]) (v:=true) (vf:=vB) (zv:=vB false) (mm:=3) rfl rfl rfl rfl hes iN rfl rfl ⟨okF,?_⟩)
       repeat refine aB ?_
       refine iC (mO - (t+1)) (⟨t+1,qO es [o.a,o.b,o.x] true,by omega,rfl,fun p hp=>by
        rcases aAN hp with rfl|hp
        ·rfl
        ·exact hes p hp,rfl,rfl,rfl⟩)
    ·rcases (show o.g < 1∨(¬o.g < 1∧1048576 < o.g)∨(¬o.g < 1∧¬1048576 < o.g) by omega) with hg1|⟨hg1,hg2⟩|⟨hg1,hg2⟩
     all_goals
      repeat refine aB ?_
      refine gD rfl rfl (⟨rfl,rfl,2,rfl,fun h=>absurd (hnI h) id⟩)
   ·by_cases hg:o.g < 1
    ·repeat refine aB ?_
     refine aH (by first|exact .inl rfl|exact .inr rfl) rfl rfl _ _ aG aF (⟨rfl,rfl,2,rfl,fun h=>by have:=(him h).g;omega⟩)
    by_cases hg2:1048576 < o.g
    ·repeat refine aB ?_
     refine aH (by first|exact .inl rfl|exact .inr rfl) rfl rfl _ _ aG aF (⟨rfl,rfl,2,rfl,fun h=>by have:=(him h).g;omega⟩)
    repeat refine aB ?_
    refine lL (cs:=recs (eI .i64) [o.v,o.w]) ([.int .i64 o.v, .int .i64 o.w]) rfl (fun b65=>?_)
    refine aC .here ?_
    refine dP rfl (zH (lim:=1099511627776) (by decide) rfl (by decide) aA) ?_
    by_cases hf:farL 1099511627776 [o.v,o.w]
    ·rw [cB hf]
     repeat refine aB ?_
     refine gD rfl rfl (⟨rfl,rfl,2,rfl,fun h=>by
      have h1:=(him h).v
      have h2:=(him h).w
      obtain ⟨z,hz,hz2⟩:=hf
      simp only [List.mem_cons,List.not_mem_nil,or_false] at hz
      rcases hz with rfl|rfl <;>omega⟩)
    ·rw [bF hf]
     repeat refine aB ?_
     refine iC (mO - (t+1)) (⟨t+1,es,by omega,rfl,hes,rfl,rfl,rfl⟩)
 ·obtain rfl:t=mO:=by omega
  repeat refine aB ?_
  refine gD rfl rfl (⟨rfl,rfl,0,rfl,fun _=>rfl⟩)
end
end Go.Proofs.YtgpkjcmipiodcaaGreat

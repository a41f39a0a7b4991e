/- network: direction. -/
import Derived.Test.YtgpkjcmipiodcaaGreatZwar
import Derived.Test.YtgpkjcmipiodcaaGreatZwan
set_option linter.unusedSimpArgs false
set_option linter.unusedVariables false
set_option maxRecDepth 100000
set_option maxHeartbeats 4000000
namespace Go.Proofs.YtgpkjcmipiodcaaGreat
open Go Go.Fx
def drX (q:Qn) (x y z:Rat):Rat:=((q.a:Rat)*q.a+(q.b:Rat)*q.b - (q.c:Rat)*q.c - (q.d:Rat)*q.d)*x+2*((q.b:Rat)*q.c+(q.a:Rat)*q.d)*y+2*((q.b:Rat)*q.d - (q.a:Rat)*q.c)*z
def drY (q:Qn) (x y z:Rat):Rat:=2*((q.b:Rat)*q.c - (q.a:Rat)*q.d)*x+((q.a:Rat)*q.a - (q.b:Rat)*q.b+(q.c:Rat)*q.c - (q.d:Rat)*q.d)*y+2*((q.c:Rat)*q.d+(q.a:Rat)*q.b)*z
def drZ (q:Qn) (x y z:Rat):Rat:=2*((q.b:Rat)*q.d+(q.a:Rat)*q.c)*x+2*((q.c:Rat)*q.d - (q.a:Rat)*q.b)*y+((q.a:Rat)*q.a - (q.b:Rat)*q.b - (q.c:Rat)*q.c+(q.d:Rat)*q.d)*z
def DQ (N:Nat) (q:Qn) (dx dy dz:Rat) (b bi bk:Nat) (x:NX) (ix:List (List Int × Int)) (M1:List Ent) (I1:List aV) (v:Value) (M:List Ent) (I:List aV):Prop:=
 ∃(i1 i2 i3:Nat) (a:Option Addr) (c':Nat) (ts:List TN),v= .tuple #[.int .i64 (i1:Int), .int .i64 (i2:Int), .int .i64 (i3:Int)]∧TS N 200 (ts.map TN.k) [⟨i1,drX q dx dy dz,2000⟩,⟨i2,drY q dx dy dz,2000⟩,⟨i3,drZ q dx dy dz,2000⟩]∧M=bM b bi bk x ix a c' ts M1∧I=allT ts::I1
abbrev tt:Bool:=true
abbrev ff:Bool:=false
abbrev iJ (x:NX) (o:OB) (k:Int):Rat:=((gt x.P o.b).co k:Rat) - ((gt x.S o.a).at.co k:Rat)
abbrev pY (d b:Nat):Nat × Value:=(d, .pointer (some ⟨b,0,none⟩))
abbrev qR (d i:Nat):Nat × Value:=(d, .int .i64 (i:Int))
abbrev rH (b:Nat):Ent:= .blk b [.int .i64 0] 3
abbrev dgC (b i:Nat):Ent:= .blk b [.int .i64 (i:Int)] 3
abbrev dgG (b2 b3 ia ib ic id:Nat):Env:=[pY 2 b2,pY 3 b3,qR 19 ia,qR 20 ib,qR 21 ic,qR 22 id]
abbrev xX (b:Nat) (o:OB) (b2 b3 ia ib ic id:Nat):Env:=pY 197 b::pY 200 b::pY 203 b::(198,obv o)::(201,obv o)::(204,obv o)::dgG b2 b3 ia ib ic id
abbrev wO (b b2 b3:Nat) (o:OB) (I1:List aV):List aV:=aI (some ⟨b2,0,none⟩) [.pointer (some ⟨b,0,none⟩)]::aI (some ⟨b3,0,none⟩) (jU o)::I1
abbrev vV (q:Qn) (ia ib ic id:Nat):List Pn:=[⟨ia,q.a,64⟩,⟨ib,q.b,64⟩,⟨ic,q.c,64⟩,⟨id,q.d,64⟩]
section
variable {X:List Nat} {w0:World} {M1:List Ent} {I1:List aV} {N b bi bk:Nat} {x:NX} {ix:List (List Int × Int)} {a:Option Addr} {c':Nat} {ts:List TN}
theorem aYH {o:OB} (hT:TS N 0 (ts.map TN.k) []) (hd:x.d=3) (hx:IxOk ix x.S.length x.P.length N) (hs:0≤o.a∧o.a < x.S.length) (hp:0≤o.b∧o.b < x.P.length)
  (hn:∀ax,0≤ax→ax < 3→uU ((gt x.S o.a).at.co ax)) (hm:∀ax,0≤ax→ax < 3→uU ((gt x.P o.b).co ax)) (hQ:uU (gt x.S o.a).q.a∧uU (gt x.S o.a).q.b∧uU (gt x.S o.a).q.c∧uU (gt x.S o.a).q.d)
  (hS:aI x.pS (recs qU x.S)∈I1) (hP:aI x.pP (recs gP x.P)∈I1):
  CD Tryz.prog 139 [.pointer (some ⟨b,0,none⟩),obv o] X w0 (bM b bi bk x ix a c' ts M1) (allT ts::I1) (DQ N (gt x.S o.a).q (iJ x o 0) (iJ x o 1) (iJ x o 2) b bi bk x ix M1 I1):=by
 obtain ⟨q,hq⟩:∃q,(gt x.S o.a).q=q:=⟨_,rfl⟩
 rw [hq] at hQ
 obtain ⟨qa,qb,qc,qd⟩:=hQ
 refine aP Tryz.func139 rfl Tryz.ntmps139 rfl ?_
 refine fE ?_
 (refine aYL rfl rfl rfl ?_;intro b2;refine aL ?_)
 refine aC (cs:=[.pointer (some ⟨b,0,none⟩)]) .here ?_
 refine fG rfl (fun b3=>?_)
 refine aC (cs:=jU o) .here ?_
 refine aBB (M':=bM b bi bk x ix a c' ts M1) (I':=allT ts::aI (some ⟨b2,0,none⟩) [.pointer (some ⟨b,0,none⟩)]::aI (some ⟨b3,0,none⟩) (jU o)::I1) SubP.refl aF ?_
 repeat refine aB ?_
 (repeat refine aJ ?_);refine vT (.blk b (bC x bi bk a c' ts.length) 189::[]) (aI (some ⟨b2,0,none⟩) [.pointer (some ⟨b,0,none⟩)]::aI (some ⟨b3,0,none⟩) (jU o)::I1) [0,1,2,3,4,5,6,7,8,9,10,11] [1,1,1,1,1,1,1,1,1,1,0,0] mixed ?_
 repeat refine aB ?_
 (apply qL;exact gQ;exact rfl;exact aA;exact AtsZ.r4 jH rfl rfl rfl rfl;exact rfl;exact rfl)
 repeat refine aB ?_
 refine bG (fun b7=>?_)
 repeat refine aB ?_
 rw [hq]
 refine aCD (cs:=eQ q) .here ?_
 refine aMQ (M':=bM b bi bk x ix a c' ts M1) (I':=allT ts::aI (some ⟨b7,0,none⟩) (eQ q)::aI (some ⟨b2,0,none⟩) [.pointer (some ⟨b,0,none⟩)]::aI (some ⟨b3,0,none⟩) (jU o)::I1) SubP.refl aF ?_
 repeat refine aB ?_
 (repeat refine aJ ?_);refine vT ([]) (aI (some ⟨b2,0,none⟩) [.pointer (some ⟨b,0,none⟩)]::aI (some ⟨b3,0,none⟩) (jU o)::[]) [0,1,2,4,5,6,8,9,10,3,7,11,12,13,14] [2,3,2,2,3,2,2,3,2,0,0,0,0,0,0] mixed ?_
 repeat refine aB ?_
 (refine aU rfl (aGX hT hx hs (ax:=3) (by decide) (by decide)) ?_;rintro _ _ _ ⟨iu,a0,c0,ts0,rfl,t0,rfl,rfl⟩;refine aL ?_)
 repeat refine aB ?_
 (refine aU rfl (aGX t0 hx hs (ax:=4) (by decide) (by decide)) ?_;rintro _ _ _ ⟨iv,a1,c1,ts1,rfl,t1,rfl,rfl⟩;refine aL ?_)
 repeat refine aB ?_
 (refine aU rfl (aGX t1 hx hs (ax:=5) (by decide) (by decide)) ?_;rintro _ _ _ ⟨iw,a2,c2,ts2,rfl,t2,rfl,rfl⟩;refine aL ?_)
 repeat refine aB ?_
 have t3:=t2.sub (d:=3) (L':=[⟨iu,0,0⟩,⟨iv,0,0⟩,⟨iw,0,0⟩]) (by decide) (by simp)
 clear t0 t1 t2 hT
 (refine aD rfl (fun _=>aK (pvs:=[(0, .bool true),(1, .int .i64 q.b),(2, .int .i64 (iu:Int))]) (cells:=tC ⟨true,q.b,(iu:Int)⟩) rfl rfl) rfl rfl ?_)
 repeat refine aB ?_
 (refine aD rfl (fun _=>aK (pvs:=[(0, .bool true),(1, .int .i64 q.c),(2, .int .i64 (iv:Int))]) (cells:=tC ⟨true,q.c,(iv:Int)⟩) rfl rfl) rfl rfl ?_)
 repeat refine aB ?_
 (refine aD rfl (fun _=>aK (pvs:=[(0, .bool true),(1, .int .i64 q.d),(2, .int .i64 (iw:Int))]) (cells:=tC ⟨true,q.d,(iw:Int)⟩) rfl rfl) rfl rfl ?_)
 repeat refine aB ?_
 refine lL (cs:=recs tC [⟨true,q.b,(iu:Int)⟩,⟨true,q.c,(iv:Int)⟩,⟨true,q.d,(iw:Int)⟩]) ([.agg (tC ⟨true,q.b,(iu:Int)⟩).toArray, .agg (tC ⟨true,q.c,(iv:Int)⟩).toArray, .agg (tC ⟨true,q.d,(iw:Int)⟩).toArray]) rfl (fun b8=>?_)
 refine aC (cs:=recs tC [⟨true,q.b,(iu:Int)⟩,⟨true,q.c,(iv:Int)⟩,⟨true,q.d,(iw:Int)⟩]) .here ?_
 refine aBB (M':=bM b bi bk x ix a2 c2 ts2 M1) (I':=allT ts2::aI (some ⟨b8,0,none⟩) (recs tC [⟨true,q.b,(iu:Int)⟩,⟨true,q.c,(iv:Int)⟩,⟨true,q.d,(iw:Int)⟩])::aI (some ⟨b7,0,none⟩) (eQ q)::aI (some ⟨b2,0,none⟩) [.pointer (some ⟨b,0,none⟩)]::aI (some ⟨b3,0,none⟩) (jU o)::I1) SubP.refl aF ?_
 (refine aS rfl (aCA (ps:=[⟨true,q.b,(iu:Int)⟩,⟨true,q.c,(iv:Int)⟩,⟨true,q.d,(iw:Int)⟩]) t3 qa rfl (by decide) (by decide) aA (by
  intro s hs
  simp only [List.mem_cons,List.not_mem_nil,or_false] at hs
  rcases hs with rfl|rfl|rfl
  ·exact ⟨by assumption,_,rfl,by simp⟩
  ·exact ⟨by assumption,_,rfl,by simp⟩
  ·exact ⟨by assumption,_,rfl,by simp⟩)) rfl rfl ?_;rintro _ _ _ ⟨ia,a3,c3,ts3,rfl,t4,rfl,rfl⟩;refine aL ?_)
 repeat refine aB ?_
 (refine aD rfl (fun _=>aK (pvs:=[(0, .bool false),(1, .int .i64 q.a),(2, .int .i64 (iu:Int))]) (cells:=tC ⟨false,q.a,(iu:Int)⟩) rfl rfl) rfl rfl ?_)
 repeat refine aB ?_
 (refine aD rfl (fun _=>aK (pvs:=[(0, .bool false),(1, .int .i64 q.c),(2, .int .i64 (iw:Int))]) (cells:=tC ⟨false,q.c,(iw:Int)⟩) rfl rfl) rfl rfl ?_)
 repeat refine aB ?_
 (refine aD rfl (fun _=>aK (pvs:=[(0, .bool true),(1, .int .i64 q.d),(2, .int .i64 (iv:Int))]) (cells:=tC ⟨true,q.d,(iv:Int)⟩) rfl rfl) rfl rfl ?_)
 repeat refine aB ?_
 refine lL (cs:=recs tC [⟨false,q.a,(iu:Int)⟩,⟨false,q.c,(iw:Int)⟩,⟨true,q.d,(iv:Int)⟩]) ([.agg (tC ⟨false,q.a,(iu:Int)⟩).toArray, .agg (tC ⟨false,q.c,(iw:Int)⟩).toArray, .agg (tC ⟨true,q.d,(iv:Int)⟩).toArray]) rfl (fun b9=>?_)
 refine aC (cs:=recs tC [⟨false,q.a,(iu:Int)⟩,⟨false,q.c,(iw:Int)⟩,⟨true,q.d,(iv:Int)⟩]) .here ?_
 refine aBB (M':=bM b bi bk x ix a3 c3 ts3 M1) (I':=allT ts3::aI (some ⟨b9,0,none⟩) (recs tC [⟨false,q.a,(iu:Int)⟩,⟨false,q.c,(iw:Int)⟩,⟨true,q.d,(iv:Int)⟩])::aI (some ⟨b7,0,none⟩) (eQ q)::aI (some ⟨b2,0,none⟩) [.pointer (some ⟨b,0,none⟩)]::aI (some ⟨b3,0,none⟩) (jU o)::I1) SubP.refl aF ?_
 (refine aS rfl (aCA (ps:=[⟨false,q.a,(iu:Int)⟩,⟨false,q.c,(iw:Int)⟩,⟨true,q.d,(iv:Int)⟩]) t4 qb rfl (by decide) (by decide) aA (by
  intro s hs
  simp only [List.mem_cons,List.not_mem_nil,or_false] at hs
  rcases hs with rfl|rfl|rfl
  ·exact ⟨by assumption,_,rfl,by simp⟩
  ·exact ⟨by assumption,_,rfl,by simp⟩
  ·exact ⟨by assumption,_,rfl,by simp⟩)) rfl rfl ?_;rintro _ _ _ ⟨ib,a4,c4,ts4,rfl,t5,rfl,rfl⟩;refine aL ?_)
 repeat refine aB ?_
 (refine aD rfl (fun _=>aK (pvs:=[(0, .bool false),(1, .int .i64 q.a),(2, .int .i64 (iv:Int))]) (cells:=tC ⟨false,q.a,(iv:Int)⟩) rfl rfl) rfl rfl ?_)
 repeat refine aB ?_
 (refine aD rfl (fun _=>aK (pvs:=[(0, .bool false),(1, .int .i64 q.d),(2, .int .i64 (iu:Int))]) (cells:=tC ⟨false,q.d,(iu:Int)⟩) rfl rfl) rfl rfl ?_)
 repeat refine aB ?_
 (refine aD rfl (fun _=>aK (pvs:=[(0, .bool true),(1, .int .i64 q.b),(2, .int .i64 (iw:Int))]) (cells:=tC ⟨true,q.b,(iw:Int)⟩) rfl rfl) rfl rfl ?_)
 repeat refine aB ?_
 refine lL (cs:=recs tC [⟨false,q.a,(iv:Int)⟩,⟨false,q.d,(iu:Int)⟩,⟨true,q.b,(iw:Int)⟩]) ([.agg (tC ⟨false,q.a,(iv:Int)⟩).toArray, .agg (tC ⟨false,q.d,(iu:Int)⟩).toArray, .agg (tC ⟨true,q.b,(iw:Int)⟩).toArray]) rfl (fun b10=>?_)
 refine aC (cs:=recs tC [⟨false,q.a,(iv:Int)⟩,⟨false,q.d,(iu:Int)⟩,⟨true,q.b,(iw:Int)⟩]) .here ?_
 refine aBB (M':=bM b bi bk x ix a4 c4 ts4 M1) (I':=allT ts4::aI (some ⟨b10,0,none⟩) (recs tC [⟨false,q.a,(iv:Int)⟩,⟨false,q.d,(iu:Int)⟩,⟨true,q.b,(iw:Int)⟩])::aI (some ⟨b7,0,none⟩) (eQ q)::aI (some ⟨b2,0,none⟩) [.pointer (some ⟨b,0,none⟩)]::aI (some ⟨b3,0,none⟩) (jU o)::I1) SubP.refl aF ?_
 (refine aS rfl (aCA (ps:=[⟨false,q.a,(iv:Int)⟩,⟨false,q.d,(iu:Int)⟩,⟨true,q.b,(iw:Int)⟩]) t5 qc rfl (by decide) (by decide) aA (by
  intro s hs
  simp only [List.mem_cons,List.not_mem_nil,or_false] at hs
  rcases hs with rfl|rfl|rfl
  ·exact ⟨by assumption,_,rfl,by simp⟩
  ·exact ⟨by assumption,_,rfl,by simp⟩
  ·exact ⟨by assumption,_,rfl,by simp⟩)) rfl rfl ?_;rintro _ _ _ ⟨ic,a5,c5,ts5,rfl,t6,rfl,rfl⟩;refine aL ?_)
 repeat refine aB ?_
 (refine aD rfl (fun _=>aK (pvs:=[(0, .bool false),(1, .int .i64 q.a),(2, .int .i64 (iw:Int))]) (cells:=tC ⟨false,q.a,(iw:Int)⟩) rfl rfl) rfl rfl ?_)
 repeat refine aB ?_
 (refine aD rfl (fun _=>aK (pvs:=[(0, .bool false),(1, .int .i64 q.b),(2, .int .i64 (iv:Int))]) (cells:=tC ⟨false,q.b,(iv:Int)⟩) rfl rfl) rfl rfl ?_)
 repeat refine aB ?_
 (refine aD rfl (fun _=>aK (pvs:=[(0, .bool true),(1, .int .i64 q.c),(2, .int .i64 (iu:Int))]) (cells:=tC ⟨true,q.c,(iu:Int)⟩) rfl rfl) rfl rfl ?_)
 repeat refine aB ?_
 refine lL (cs:=recs tC [⟨false,q.a,(iw:Int)⟩,⟨false,q.b,(iv:Int)⟩,⟨true,q.c,(iu:Int)⟩]) ([.agg (tC ⟨false,q.a,(iw:Int)⟩).toArray, .agg (tC ⟨false,q.b,(iv:Int)⟩).toArray, .agg (tC ⟨true,q.c,(iu:Int)⟩).toArray]) rfl (fun b11=>?_)
 refine aC (cs:=recs tC [⟨false,q.a,(iw:Int)⟩,⟨false,q.b,(iv:Int)⟩,⟨true,q.c,(iu:Int)⟩]) .here ?_
 refine aBB (M':=bM b bi bk x ix a5 c5 ts5 M1) (I':=allT ts5::aI (some ⟨b11,0,none⟩) (recs tC [⟨false,q.a,(iw:Int)⟩,⟨false,q.b,(iv:Int)⟩,⟨true,q.c,(iu:Int)⟩])::aI (some ⟨b7,0,none⟩) (eQ q)::aI (some ⟨b2,0,none⟩) [.pointer (some ⟨b,0,none⟩)]::aI (some ⟨b3,0,none⟩) (jU o)::I1) SubP.refl aF ?_
 (refine aS rfl (aCA (ps:=[⟨false,q.a,(iw:Int)⟩,⟨false,q.b,(iv:Int)⟩,⟨true,q.c,(iu:Int)⟩]) t6 qd rfl (by decide) (by decide) aA (by
  intro s hs
  simp only [List.mem_cons,List.not_mem_nil,or_false] at hs
  rcases hs with rfl|rfl|rfl
  ·exact ⟨by assumption,_,rfl,by simp⟩
  ·exact ⟨by assumption,_,rfl,by simp⟩
  ·exact ⟨by assumption,_,rfl,by simp⟩)) rfl rfl ?_;rintro _ _ _ ⟨id,a6,c6,ts6,rfl,t7,rfl,rfl⟩;refine aL ?_)
 repeat refine aB ?_
 have s0:=t7.sub (d:=43) (L':=vV q ia ib ic id) (by decide) (by simp [vV])
 clear t3 t4 t5 t6 t7
 refine aMQ (M':=bM b bi bk x ix a6 c6 ts6 M1) (I':=allT ts6::wO b b2 b3 o I1) SubP.refl aF ?_
 refine kH (fun G M I=>∃(p3 p4 p5 j1 j2 j3:Nat) (a:Option Addr) (c':Nat) (ts:List TN),TS N 64 (ts.map TN.k) (⟨j3,iJ x o 2,129⟩::⟨j2,iJ x o 1,129⟩::⟨j1,iJ x o 0,129⟩::vV q ia ib ic id)∧G=pY 23 p3::pY 24 p4::pY 25 p5::dgG b2 b3 ia ib ic id∧M=bM b bi bk x ix a c' ts (dgC p3 j1::dgC p4 j2::dgC p5 j3::M1)∧I=allT ts::wO b b2 b3 o I1) ?_ ?_
 ·(repeat refine aJ ?_)
  refine aSN ([]) (aI (some ⟨b2,0,none⟩) [.pointer (some ⟨b,0,none⟩)]::aI (some ⟨b3,0,none⟩) (jU o)::[]) mixed (fun R hR=>?_)
  have n3345:∀(p3 p4 p5 j1 j2 j3:Nat) (a:Option Addr) (c':Nat) (ts:List TN) (ht:TS N 64 (ts.map TN.k) (⟨j3,iJ x o 2,129⟩::⟨j2,iJ x o 1,129⟩::⟨j1,iJ x o 0,129⟩::vV q ia ib ic id)),ND 331 (R 3 6 #[tt,tt,tt,tt,tt,tt,tt,tt,tt,tt,tt,tt,ff,ff,ff]) .normal (qR 205 j3::qR 202 j2::qR 199 j1::pY 23 p3::pY 24 p4::pY 25 p5::xX b o b2 b3 ia ib ic id) X w0 (bM b bi bk x ix a c' ts (rH p3::rH p4::rH p5::M1)) (allT ts::wO b b2 b3 o I1):=by
   intro p3 p4 p5 j1 j2 j3 a c' ts ht
   rw [hR]
   refine aM [12,13,14] [0,0,0] aG aF (by kernel_rfl) (by kernel_rfl) rfl rfl ?_
   repeat refine aB ?_
   refine mR ⟨p3,p4,p5,j1,j2,j3,a,c',ts,ht,rfl,rfl,rfl⟩
  have n2345:∀(p3 p4 p5 j1 j2:Nat) (a:Option Addr) (c':Nat) (ts:List TN) (ht:TS N 57 (ts.map TN.k) (⟨j2,iJ x o 1,129⟩::⟨j1,iJ x o 0,129⟩::vV q ia ib ic id)),ND 331 (R 4 5 #[tt,tt,tt,tt,tt,tt,tt,tt,ff,tt,tt,tt,ff,ff,ff]) .normal (qR 202 j2::qR 199 j1::pY 23 p3::pY 24 p4::pY 25 p5::xX b o b2 b3 ia ib ic id) X w0 (bM b bi bk x ix a c' ts (rH p3::rH p4::rH p5::M1)) (allT ts::wO b b2 b3 o I1):=by
   intro p3 p4 p5 j1 j2 a c' ts ht
   rw [hR]
   exact dH (fuel:=3) (listed':=#[tt,tt,tt,tt,tt,tt,tt,tt,tt,tt,tt,tt,ff,ff,ff]) [8] [0] aG aF (by kernel_rfl) (by kernel_rfl) rfl rfl (aS rfl (bS ht hx hs hp (ax:=2) (by decide) (by decide) (hn 2 (by decide) (by decide)) (hm 2 (by decide) (by decide)) aA aA) rfl rfl (by rintro _ _ _ ⟨j3,a2,c2,ts2,rfl,ht2,rfl,rfl⟩;exact ⟨okF,bE hR (n3345 p3 p4 p5 j1 j2 j3 a2 c2 ts2 ht2)⟩))
  have n334:∀(p3 p4 j1 j2 j3:Nat) (a:Option Addr) (c':Nat) (ts:List TN) (ht:TS N 64 (ts.map TN.k) (⟨j3,iJ x o 2,129⟩::⟨j2,iJ x o 1,129⟩::⟨j1,iJ x o 0,129⟩::vV q ia ib ic id)),ND 331 (R 4 5 #[tt,tt,tt,tt,tt,tt,tt,tt,tt,tt,tt,ff,ff,ff,ff]) .normal (qR 205 j3::qR 202 j2::qR 199 j1::pY 23 p3::pY 24 p4::xX b o b2 b3 ia ib ic id) X w0 (bM b bi bk x ix a c' ts (rH p3::rH p4::M1)) (allT ts::wO b b2 b3 o I1):=by
   intro p3 p4 j1 j2 j3 a c' ts ht
   rw [hR]
   exact dH (fuel:=3) (listed':=#[tt,tt,tt,tt,tt,tt,tt,tt,tt,tt,tt,tt,ff,ff,ff]) [11] [0] aG aF (by kernel_rfl) (by kernel_rfl) rfl rfl (bB (d:=25) rfl rfl (fun p5=>⟨okF,bE hR (n3345 p3 p4 p5 j1 j2 j3 a c' ts ht)⟩))
  have n335:∀(p3 p5 j1 j2 j3:Nat) (a:Option Addr) (c':Nat) (ts:List TN) (ht:TS N 64 (ts.map TN.k) (⟨j3,iJ x o 2,129⟩::⟨j2,iJ x o 1,129⟩::⟨j1,iJ x o 0,129⟩::vV q ia ib ic id)),ND 331 (R 4 5 #[tt,tt,tt,tt,tt,tt,tt,tt,tt,tt,ff,tt,ff,ff,ff]) .normal (qR 205 j3::qR 202 j2::qR 199 j1::pY 23 p3::pY 25 p5::xX b o b2 b3 ia ib ic id) X w0 (bM b bi bk x ix a c' ts (rH p3::rH p5::M1)) (allT ts::wO b b2 b3 o I1):=by
   intro p3 p5 j1 j2 j3 a c' ts ht
   rw [hR]
   exact dH (fuel:=3) (listed':=#[tt,tt,tt,tt,tt,tt,tt,tt,tt,tt,tt,tt,ff,ff,ff]) [10] [0] aG aF (by kernel_rfl) (by kernel_rfl) rfl rfl (bB (d:=24) rfl rfl (fun p4=>⟨okF,bE hR (n3345 p3 p4 p5 j1 j2 j3 a c' ts ht)⟩))
  have n345:∀(p4 p5 j1 j2 j3:Nat) (a:Option Addr) (c':Nat) (ts:List TN) (ht:TS N 64 (ts.map TN.k) (⟨j3,iJ x o 2,129⟩::⟨j2,iJ x o 1,129⟩::⟨j1,iJ x o 0,129⟩::vV q ia ib ic id)),ND 331 (R 4 5 #[tt,tt,tt,tt,tt,tt,tt,tt,tt,ff,tt,tt,ff,ff,ff]) .normal (qR 205 j3::qR 202 j2::qR 199 j1::pY 24 p4::pY 25 p5::xX b o b2 b3 ia ib ic id) X w0 (bM b bi bk x ix a c' ts (rH p4::rH p5::M1)) (allT ts::wO b b2 b3 o I1):=by
   intro p4 p5 j1 j2 j3 a c' ts ht
   rw [hR]
   exact dH (fuel:=3) (listed':=#[tt,tt,tt,tt,tt,tt,tt,tt,tt,tt,tt,tt,ff,ff,ff]) [9] [0] aG aF (by kernel_rfl) (by kernel_rfl) rfl rfl (bB (d:=23) rfl rfl (fun p3=>⟨okF,bE hR (n3345 p3 p4 p5 j1 j2 j3 a c' ts ht)⟩))
  have n1345:∀(p3 p4 p5 j1:Nat) (a:Option Addr) (c':Nat) (ts:List TN) (ht:TS N 50 (ts.map TN.k) (⟨j1,iJ x o 0,129⟩::vV q ia ib ic id)),ND 331 (R 5 4 #[tt,tt,tt,tt,tt,ff,tt,tt,ff,tt,tt,tt,ff,ff,ff]) .normal (qR 199 j1::pY 23 p3::pY 24 p4::pY 25 p5::xX b o b2 b3 ia ib ic id) X w0 (bM b bi bk x ix a c' ts (rH p3::rH p4::rH p5::M1)) (allT ts::wO b b2 b3 o I1):=by
   intro p3 p4 p5 j1 a c' ts ht
   rw [hR]
   exact dH (fuel:=4) (listed':=#[tt,tt,tt,tt,tt,tt,tt,tt,ff,tt,tt,tt,ff,ff,ff]) [5] [0] aG aF (by kernel_rfl) (by kernel_rfl) rfl rfl (aS rfl (bS ht hx hs hp (ax:=1) (by decide) (by decide) (hn 1 (by decide) (by decide)) (hm 1 (by decide) (by decide)) aA aA) rfl rfl (by rintro _ _ _ ⟨j2,a2,c2,ts2,rfl,ht2,rfl,rfl⟩;exact ⟨okF,bE hR (n2345 p3 p4 p5 j1 j2 a2 c2 ts2 ht2)⟩))
  have n234:∀(p3 p4 j1 j2:Nat) (a:Option Addr) (c':Nat) (ts:List TN) (ht:TS N 57 (ts.map TN.k) (⟨j2,iJ x o 1,129⟩::⟨j1,iJ x o 0,129⟩::vV q ia ib ic id)),ND 331 (R 5 4 #[tt,tt,tt,tt,tt,tt,tt,tt,ff,tt,tt,ff,ff,ff,ff]) .normal (qR 202 j2::qR 199 j1::pY 23 p3::pY 24 p4::xX b o b2 b3 ia ib ic id) X w0 (bM b bi bk x ix a c' ts (rH p3::rH p4::M1)) (allT ts::wO b b2 b3 o I1):=by
   intro p3 p4 j1 j2 a c' ts ht
   rw [hR]
   exact aN (i:=8) (j:=11) (by kernel_rfl) (aS rfl (bS ht hx hs hp (ax:=2) (by decide) (by decide) (hn 2 (by decide) (by decide)) (hm 2 (by decide) (by decide)) aA aA) rfl rfl (by rintro _ _ _ ⟨j3,a2,c2,ts2,rfl,ht2,rfl,rfl⟩;exact ⟨okF,bE hR (n334 p3 p4 j1 j2 j3 a2 c2 ts2 ht2)⟩)) (bB (d:=25) rfl rfl (fun p5=>⟨okF,bE hR (n2345 p3 p4 p5 j1 j2 a c' ts ht)⟩))
  have n235:∀(p3 p5 j1 j2:Nat) (a:Option Addr) (c':Nat) (ts:List TN) (ht:TS N 57 (ts.map TN.k) (⟨j2,iJ x o 1,129⟩::⟨j1,iJ x o 0,129⟩::vV q ia ib ic id)),ND 331 (R 5 4 #[tt,tt,tt,tt,tt,tt,tt,tt,ff,tt,ff,tt,ff,ff,ff]) .normal (qR 202 j2::qR 199 j1::pY 23 p3::pY 25 p5::xX b o b2 b3 ia ib ic id) X w0 (bM b bi bk x ix a c' ts (rH p3::rH p5::M1)) (allT ts::wO b b2 b3 o I1):=by
   intro p3 p5 j1 j2 a c' ts ht
   rw [hR]
   exact aN (i:=8) (j:=10) (by kernel_rfl) (aS rfl (bS ht hx hs hp (ax:=2) (by decide) (by decide) (hn 2 (by decide) (by decide)) (hm 2 (by decide) (by decide)) aA aA) rfl rfl (by rintro _ _ _ ⟨j3,a2,c2,ts2,rfl,ht2,rfl,rfl⟩;exact ⟨okF,bE hR (n335 p3 p5 j1 j2 j3 a2 c2 ts2 ht2)⟩)) (bB (d:=24) rfl rfl (fun p4=>⟨okF,bE hR (n2345 p3 p4 p5 j1 j2 a c' ts ht)⟩))
  have n245:∀(p4 p5 j1 j2:Nat) (a:Option Addr) (c':Nat) (ts:List TN) (ht:TS N 57 (ts.map TN.k) (⟨j2,iJ x o 1,129⟩::⟨j1,iJ x o 0,129⟩::vV q ia ib ic id)),ND 331 (R 5 4 #[tt,tt,tt,tt,tt,tt,tt,tt,ff,ff,tt,tt,ff,ff,ff]) .normal (qR 202 j2::qR 199 j1::pY 24 p4::pY 25 p5::xX b o b2 b3 ia ib ic id) X w0 (bM b bi bk x ix a c' ts (rH p4::rH p5::M1)) (allT ts::wO b b2 b3 o I1):=by
   intro p4 p5 j1 j2 a c' ts ht
   rw [hR]
   exact aN (i:=8) (j:=9) (by kernel_rfl) (aS rfl (bS ht hx hs hp (ax:=2) (by decide) (by decide) (hn 2 (by decide) (by decide)) (hm 2 (by decide) (by decide)) aA aA) rfl rfl (by rintro _ _ _ ⟨j3,a2,c2,ts2,rfl,ht2,rfl,rfl⟩;exact ⟨okF,bE hR (n345 p4 p5 j1 j2 j3 a2 c2 ts2 ht2)⟩)) (bB (d:=23) rfl rfl (fun p3=>⟨okF,bE hR (n2345 p3 p4 p5 j1 j2 a c' ts ht)⟩))
  have n33:∀(p3 j1 j2 j3:Nat) (a:Option Addr) (c':Nat) (ts:List TN) (ht:TS N 64 (ts.map TN.k) (⟨j3,iJ x o 2,129⟩::⟨j2,iJ x o 1,129⟩::⟨j1,iJ x o 0,129⟩::vV q ia ib ic id)),ND 331 (R 5 4 #[tt,tt,tt,tt,tt,tt,tt,tt,tt,tt,ff,ff,ff,ff,ff]) .normal (qR 205 j3::qR 202 j2::qR 199 j1::pY 23 p3::xX b o b2 b3 ia ib ic id) X w0 (bM b bi bk x ix a c' ts (rH p3::M1)) (allT ts::wO b b2 b3 o I1):=by
   intro p3 j1 j2 j3 a c' ts ht
   rw [hR]
   exact aN (i:=10) (j:=11) (by kernel_rfl) (bB (d:=24) rfl rfl (fun p4=>⟨okF,bE hR (n334 p3 p4 j1 j2 j3 a c' ts ht)⟩)) (bB (d:=25) rfl rfl (fun p5=>⟨okF,bE hR (n335 p3 p5 j1 j2 j3 a c' ts ht)⟩))
  have n34:∀(p4 j1 j2 j3:Nat) (a:Option Addr) (c':Nat) (ts:List TN) (ht:TS N 64 (ts.map TN.k) (⟨j3,iJ x o 2,129⟩::⟨j2,iJ x o 1,129⟩::⟨j1,iJ x o 0,129⟩::vV q ia ib ic id)),ND 331 (R 5 4 #[tt,tt,tt,tt,tt,tt,tt,tt,tt,ff,tt,ff,ff,ff,ff]) .normal (qR 205 j3::qR 202 j2::qR 199 j1::pY 24 p4::xX b o b2 b3 ia ib ic id) X w0 (bM b bi bk x ix a c' ts (rH p4::M1)) (allT ts::wO b b2 b3 o I1):=by
   intro p4 j1 j2 j3 a c' ts ht
   rw [hR]
   exact aN (i:=9) (j:=11) (by kernel_rfl) (bB (d:=23) rfl rfl (fun p3=>⟨okF,bE hR (n334 p3 p4 j1 j2 j3 a c' ts ht)⟩)) (bB (d:=25) rfl rfl (fun p5=>⟨okF,bE hR (n345 p4 p5 j1 j2 j3 a c' ts ht)⟩))
  have n35:∀(p5 j1 j2 j3:Nat) (a:Option Addr) (c':Nat) (ts:List TN) (ht:TS N 64 (ts.map TN.k) (⟨j3,iJ x o 2,129⟩::⟨j2,iJ x o 1,129⟩::⟨j1,iJ x o 0,129⟩::vV q ia ib ic id)),ND 331 (R 5 4 #[tt,tt,tt,tt,tt,tt,tt,tt,tt,ff,ff,tt,ff,ff,ff]) .normal (qR 205 j3::qR 202 j2::qR 199 j1::pY 25 p5::xX b o b2 b3 ia ib ic id) X w0 (bM b bi bk x ix a c' ts (rH p5::M1)) (allT ts::wO b b2 b3 o I1):=by
   intro p5 j1 j2 j3 a c' ts ht
   rw [hR]
   exact aN (i:=9) (j:=10) (by kernel_rfl) (bB (d:=23) rfl rfl (fun p3=>⟨okF,bE hR (n335 p3 p5 j1 j2 j3 a c' ts ht)⟩)) (bB (d:=24) rfl rfl (fun p4=>⟨okF,bE hR (n345 p4 p5 j1 j2 j3 a c' ts ht)⟩))
  have n0345:∀(p3 p4 p5:Nat) (a:Option Addr) (c':Nat) (ts:List TN) (ht:TS N 43 (ts.map TN.k) (vV q ia ib ic id)),ND 331 (R 6 3 #[tt,tt,ff,tt,tt,ff,tt,tt,ff,tt,tt,tt,ff,ff,ff]) .normal (pY 23 p3::pY 24 p4::pY 25 p5::xX b o b2 b3 ia ib ic id) X w0 (bM b bi bk x ix a c' ts (rH p3::rH p4::rH p5::M1)) (allT ts::wO b b2 b3 o I1):=by
   intro p3 p4 p5 a c' ts ht
   rw [hR]
   exact dH (fuel:=5) (listed':=#[tt,tt,tt,tt,tt,ff,tt,tt,ff,tt,tt,tt,ff,ff,ff]) [2] [0] aG aF (by kernel_rfl) (by kernel_rfl) rfl rfl (aS rfl (bS ht hx hs hp (ax:=0) (by decide) (by decide) (hn 0 (by decide) (by decide)) (hm 0 (by decide) (by decide)) aA aA) rfl rfl (by rintro _ _ _ ⟨j1,a2,c2,ts2,rfl,ht2,rfl,rfl⟩;exact ⟨okF,bE hR (n1345 p3 p4 p5 j1 a2 c2 ts2 ht2)⟩))
  have n134:∀(p3 p4 j1:Nat) (a:Option Addr) (c':Nat) (ts:List TN) (ht:TS N 50 (ts.map TN.k) (⟨j1,iJ x o 0,129⟩::vV q ia ib ic id)),ND 331 (R 6 3 #[tt,tt,tt,tt,tt,ff,tt,tt,ff,tt,tt,ff,ff,ff,ff]) .normal (qR 199 j1::pY 23 p3::pY 24 p4::xX b o b2 b3 ia ib ic id) X w0 (bM b bi bk x ix a c' ts (rH p3::rH p4::M1)) (allT ts::wO b b2 b3 o I1):=by
   intro p3 p4 j1 a c' ts ht
   rw [hR]
   exact aN (i:=5) (j:=11) (by kernel_rfl) (aS rfl (bS ht hx hs hp (ax:=1) (by decide) (by decide) (hn 1 (by decide) (by decide)) (hm 1 (by decide) (by decide)) aA aA) rfl rfl (by rintro _ _ _ ⟨j2,a2,c2,ts2,rfl,ht2,rfl,rfl⟩;exact ⟨okF,bE hR (n234 p3 p4 j1 j2 a2 c2 ts2 ht2)⟩)) (bB (d:=25) rfl rfl (fun p5=>⟨okF,bE hR (n1345 p3 p4 p5 j1 a c' ts ht)⟩))
  have n135:∀(p3 p5 j1:Nat) (a:Option Addr) (c':Nat) (ts:List TN) (ht:TS N 50 (ts.map TN.k) (⟨j1,iJ x o 0,129⟩::vV q ia ib ic id)),ND 331 (R 6 3 #[tt,tt,tt,tt,tt,ff,tt,tt,ff,tt,ff,tt,ff,ff,ff]) .normal (qR 199 j1::pY 23 p3::pY 25 p5::xX b o b2 b3 ia ib ic id) X w0 (bM b bi bk x ix a c' ts (rH p3::rH p5::M1)) (allT ts::wO b b2 b3 o I1):=by
   intro p3 p5 j1 a c' ts ht
   rw [hR]
   exact aN (i:=5) (j:=10) (by kernel_rfl) (aS rfl (bS ht hx hs hp (ax:=1) (by decide) (by decide) (hn 1 (by decide) (by decide)) (hm 1 (by decide) (by decide)) aA aA) rfl rfl (by rintro _ _ _ ⟨j2,a2,c2,ts2,rfl,ht2,rfl,rfl⟩;exact ⟨okF,bE hR (n235 p3 p5 j1 j2 a2 c2 ts2 ht2)⟩)) (bB (d:=24) rfl rfl (fun p4=>⟨okF,bE hR (n1345 p3 p4 p5 j1 a c' ts ht)⟩))
  have n145:∀(p4 p5 j1:Nat) (a:Option Addr) (c':Nat) (ts:List TN) (ht:TS N 50 (ts.map TN.k) (⟨j1,iJ x o 0,129⟩::vV q ia ib ic id)),ND 331 (R 6 3 #[tt,tt,tt,tt,tt,ff,tt,tt,ff,ff,tt,tt,ff,ff,ff]) .normal (qR 199 j1::pY 24 p4::pY 25 p5::xX b o b2 b3 ia ib ic id) X w0 (bM b bi bk x ix a c' ts (rH p4::rH p5::M1)) (allT ts::wO b b2 b3 o I1):=by
   intro p4 p5 j1 a c' ts ht
   rw [hR]
   exact aN (i:=5) (j:=9) (by kernel_rfl) (aS rfl (bS ht hx hs hp (ax:=1) (by decide) (by decide) (hn 1 (by decide) (by decide)) (hm 1 (by decide) (by decide)) aA aA) rfl rfl (by rintro _ _ _ ⟨j2,a2,c2,ts2,rfl,ht2,rfl,rfl⟩;exact ⟨okF,bE hR (n245 p4 p5 j1 j2 a2 c2 ts2 ht2)⟩)) (bB (d:=23) rfl rfl (fun p3=>⟨okF,bE hR (n1345 p3 p4 p5 j1 a c' ts ht)⟩))
  have n23:∀(p3 j1 j2:Nat) (a:Option Addr) (c':Nat) (ts:List TN) (ht:TS N 57 (ts.map TN.k) (⟨j2,iJ x o 1,129⟩::⟨j1,iJ x o 0,129⟩::vV q ia ib ic id)),ND 331 (R 6 3 #[tt,tt,tt,tt,tt,tt,tt,tt,ff,tt,ff,ff,ff,ff,ff]) .normal (qR 202 j2::qR 199 j1::pY 23 p3::xX b o b2 b3 ia ib ic id) X w0 (bM b bi bk x ix a c' ts (rH p3::M1)) (allT ts::wO b b2 b3 o I1):=by
   intro p3 j1 j2 a c' ts ht
   rw [hR]
   exact fC (i:=8) (j:=10) (m:=11) (by kernel_rfl) (aS rfl (bS ht hx hs hp (ax:=2) (by decide) (by decide) (hn 2 (by decide) (by decide)) (hm 2 (by decide) (by decide)) aA aA) rfl rfl (by rintro _ _ _ ⟨j3,a2,c2,ts2,rfl,ht2,rfl,rfl⟩;exact ⟨okF,bE hR (n33 p3 j1 j2 j3 a2 c2 ts2 ht2)⟩)) (bB (d:=24) rfl rfl (fun p4=>⟨okF,bE hR (n234 p3 p4 j1 j2 a c' ts ht)⟩)) (bB (d:=25) rfl rfl (fun p5=>⟨okF,bE hR (n235 p3 p5 j1 j2 a c' ts ht)⟩))
  have n24:∀(p4 j1 j2:Nat) (a:Option Addr) (c':Nat) (ts:List TN) (ht:TS N 57 (ts.map TN.k) (⟨j2,iJ x o 1,129⟩::⟨j1,iJ x o 0,129⟩::vV q ia ib ic id)),ND 331 (R 6 3 #[tt,tt,tt,tt,tt,tt,tt,tt,ff,ff,tt,ff,ff,ff,ff]) .normal (qR 202 j2::qR 199 j1::pY 24 p4::xX b o b2 b3 ia ib ic id) X w0 (bM b bi bk x ix a c' ts (rH p4::M1)) (allT ts::wO b b2 b3 o I1):=by
   intro p4 j1 j2 a c' ts ht
   rw [hR]
   exact fC (i:=8) (j:=9) (m:=11) (by kernel_rfl) (aS rfl (bS ht hx hs hp (ax:=2) (by decide) (by decide) (hn 2 (by decide) (by decide)) (hm 2 (by decide) (by decide)) aA aA) rfl rfl (by rintro _ _ _ ⟨j3,a2,c2,ts2,rfl,ht2,rfl,rfl⟩;exact ⟨okF,bE hR (n34 p4 j1 j2 j3 a2 c2 ts2 ht2)⟩)) (bB (d:=23) rfl rfl (fun p3=>⟨okF,bE hR (n234 p3 p4 j1 j2 a c' ts ht)⟩)) (bB (d:=25) rfl rfl (fun p5=>⟨okF,bE hR (n245 p4 p5 j1 j2 a c' ts ht)⟩))
  have n25:∀(p5 j1 j2:Nat) (a:Option Addr) (c':Nat) (ts:List TN) (ht:TS N 57 (ts.map TN.k) (⟨j2,iJ x o 1,129⟩::⟨j1,iJ x o 0,129⟩::vV q ia ib ic id)),ND 331 (R 6 3 #[tt,tt,tt,tt,tt,tt,tt,tt,ff,ff,ff,tt,ff,ff,ff]) .normal (qR 202 j2::qR 199 j1::pY 25 p5::xX b o b2 b3 ia ib ic id) X w0 (bM b bi bk x ix a c' ts (rH p5::M1)) (allT ts::wO b b2 b3 o I1):=by
   intro p5 j1 j2 a c' ts ht
   rw [hR]
   exact fC (i:=8) (j:=9) (m:=10) (by kernel_rfl) (aS rfl (bS ht hx hs hp (ax:=2) (by decide) (by decide) (hn 2 (by decide) (by decide)) (hm 2 (by decide) (by decide)) aA aA) rfl rfl (by rintro _ _ _ ⟨j3,a2,c2,ts2,rfl,ht2,rfl,rfl⟩;exact ⟨okF,bE hR (n35 p5 j1 j2 j3 a2 c2 ts2 ht2)⟩)) (bB (d:=23) rfl rfl (fun p3=>⟨okF,bE hR (n235 p3 p5 j1 j2 a c' ts ht)⟩)) (bB (d:=24) rfl rfl (fun p4=>⟨okF,bE hR (n245 p4 p5 j1 j2 a c' ts ht)⟩))
  have n3:∀(j1 j2 j3:Nat) (a:Option Addr) (c':Nat) (ts:List TN) (ht:TS N 64 (ts.map TN.k) (⟨j3,iJ x o 2,129⟩::⟨j2,iJ x o 1,129⟩::⟨j1,iJ x o 0,129⟩::vV q ia ib ic id)),ND 331 (R 6 3 #[tt,tt,tt,tt,tt,tt,tt,tt,tt,ff,ff,ff,ff,ff,ff]) .normal (qR 205 j3::qR 202 j2::qR 199 j1::xX b o b2 b3 ia ib ic id) X w0 (bM b bi bk x ix a c' ts (M1)) (allT ts::wO b b2 b3 o I1):=by
   intro j1 j2 j3 a c' ts ht
   rw [hR]
   exact fC (i:=9) (j:=10) (m:=11) (by kernel_rfl) (bB (d:=23) rfl rfl (fun p3=>⟨okF,bE hR (n33 p3 j1 j2 j3 a c' ts ht)⟩)) (bB (d:=24) rfl rfl (fun p4=>⟨okF,bE hR (n34 p4 j1 j2 j3 a c' ts ht)⟩)) (bB (d:=25) rfl rfl (fun p5=>⟨okF,bE hR (n35 p5 j1 j2 j3 a c' ts ht)⟩))
  have n034:∀(p3 p4:Nat) (a:Option Addr) (c':Nat) (ts:List TN) (ht:TS N 43 (ts.map TN.k) (vV q ia ib ic id)),ND 331 (R 7 2 #[tt,tt,ff,tt,tt,ff,tt,tt,ff,tt,tt,ff,ff,ff,ff]) .normal (pY 23 p3::pY 24 p4::xX b o b2 b3 ia ib ic id) X w0 (bM b bi bk x ix a c' ts (rH p3::rH p4::M1)) (allT ts::wO b b2 b3 o I1):=by
   intro p3 p4 a c' ts ht
   rw [hR]
   exact aN (i:=2) (j:=11) (by kernel_rfl) (aS rfl (bS ht hx hs hp (ax:=0) (by decide) (by decide) (hn 0 (by decide) (by decide)) (hm 0 (by decide) (by decide)) aA aA) rfl rfl (by rintro _ _ _ ⟨j1,a2,c2,ts2,rfl,ht2,rfl,rfl⟩;exact ⟨okF,bE hR (n134 p3 p4 j1 a2 c2 ts2 ht2)⟩)) (bB (d:=25) rfl rfl (fun p5=>⟨okF,bE hR (n0345 p3 p4 p5 a c' ts ht)⟩))
  have n035:∀(p3 p5:Nat) (a:Option Addr) (c':Nat) (ts:List TN) (ht:TS N 43 (ts.map TN.k) (vV q ia ib ic id)),ND 331 (R 7 2 #[tt,tt,ff,tt,tt,ff,tt,tt,ff,tt,ff,tt,ff,ff,ff]) .normal (pY 23 p3::pY 25 p5::xX b o b2 b3 ia ib ic id) X w0 (bM b bi bk x ix a c' ts (rH p3::rH p5::M1)) (allT ts::wO b b2 b3 o I1):=by
   intro p3 p5 a c' ts ht
   rw [hR]
   exact aN (i:=2) (j:=10) (by kernel_rfl) (aS rfl (bS ht hx hs hp (ax:=0) (by decide) (by decide) (hn 0 (by decide) (by decide)) (hm 0 (by decide) (by decide)) aA aA) rfl rfl (by rintro _ _ _ ⟨j1,a2,c2,ts2,rfl,ht2,rfl,rfl⟩;exact ⟨okF,bE hR (n135 p3 p5 j1 a2 c2 ts2 ht2)⟩)) (bB (d:=24) rfl rfl (fun p4=>⟨okF,bE hR (n0345 p3 p4 p5 a c' ts ht)⟩))
  have n045:∀(p4 p5:Nat) (a:Option Addr) (c':Nat) (ts:List TN) (ht:TS N 43 (ts.map TN.k) (vV q ia ib ic id)),ND 331 (R 7 2 #[tt,tt,ff,tt,tt,ff,tt,tt,ff,ff,tt,tt,ff,ff,ff]) .normal (pY 24 p4::pY 25 p5::xX b o b2 b3 ia ib ic id) X w0 (bM b bi bk x ix a c' ts (rH p4::rH p5::M1)) (allT ts::wO b b2 b3 o I1):=by
   intro p4 p5 a c' ts ht
   rw [hR]
   exact aN (i:=2) (j:=9) (by kernel_rfl) (aS rfl (bS ht hx hs hp (ax:=0) (by decide) (by decide) (hn 0 (by decide) (by decide)) (hm 0 (by decide) (by decide)) aA aA) rfl rfl (by rintro _ _ _ ⟨j1,a2,c2,ts2,rfl,ht2,rfl,rfl⟩;exact ⟨okF,bE hR (n145 p4 p5 j1 a2 c2 ts2 ht2)⟩)) (bB (d:=23) rfl rfl (fun p3=>⟨okF,bE hR (n0345 p3 p4 p5 a c' ts ht)⟩))
  have n13:∀(p3 j1:Nat) (a:Option Addr) (c':Nat) (ts:List TN) (ht:TS N 50 (ts.map TN.k) (⟨j1,iJ x o 0,129⟩::vV q ia ib ic id)),ND 331 (R 7 2 #[tt,tt,tt,tt,tt,ff,tt,tt,ff,tt,ff,ff,ff,ff,ff]) .normal (qR 199 j1::pY 23 p3::xX b o b2 b3 ia ib ic id) X w0 (bM b bi bk x ix a c' ts (rH p3::M1)) (allT ts::wO b b2 b3 o I1):=by
   intro p3 j1 a c' ts ht
   rw [hR]
   exact fC (i:=5) (j:=10) (m:=11) (by kernel_rfl) (aS rfl (bS ht hx hs hp (ax:=1) (by decide) (by decide) (hn 1 (by decide) (by decide)) (hm 1 (by decide) (by decide)) aA aA) rfl rfl (by rintro _ _ _ ⟨j2,a2,c2,ts2,rfl,ht2,rfl,rfl⟩;exact ⟨okF,bE hR (n23 p3 j1 j2 a2 c2 ts2 ht2)⟩)) (bB (d:=24) rfl rfl (fun p4=>⟨okF,bE hR (n134 p3 p4 j1 a c' ts ht)⟩)) (bB (d:=25) rfl rfl (fun p5=>⟨okF,bE hR (n135 p3 p5 j1 a c' ts ht)⟩))
  have n14:∀(p4 j1:Nat) (a:Option Addr) (c':Nat) (ts:List TN) (ht:TS N 50 (ts.map TN.k) (⟨j1,iJ x o 0,129⟩::vV q ia ib ic id)),ND 331 (R 7 2 #[tt,tt,tt,tt,tt,ff,tt,tt,ff,ff,tt,ff,ff,ff,ff]) .normal (qR 199 j1::pY 24 p4::xX b o b2 b3 ia ib ic id) X w0 (bM b bi bk x ix a c' ts (rH p4::M1)) (allT ts::wO b b2 b3 o I1):=by
   intro p4 j1 a c' ts ht
   rw [hR]
   exact fC (i:=5) (j:=9) (m:=11) (by kernel_rfl) (aS rfl (bS ht hx hs hp (ax:=1) (by decide) (by decide) (hn 1 (by decide) (by decide)) (hm 1 (by decide) (by decide)) aA aA) rfl rfl (by rintro _ _ _ ⟨j2,a2,c2,ts2,rfl,ht2,rfl,rfl⟩;exact ⟨okF,bE hR (n24 p4 j1 j2 a2 c2 ts2 ht2)⟩)) (bB (d:=23) rfl rfl (fun p3=>⟨okF,bE hR (n134 p3 p4 j1 a c' ts ht)⟩)) (bB (d:=25) rfl rfl (fun p5=>⟨okF,bE hR (n145 p4 p5 j1 a c' ts ht)⟩))
  have n15:∀(p5 j1:Nat) (a:Option Addr) (c':Nat) (ts:List TN) (ht:TS N 50 (ts.map TN.k) (⟨j1,iJ x o 0,129⟩::vV q ia ib ic id)),ND 331 (R 7 2 #[tt,tt,tt,tt,tt,ff,tt,tt,ff,ff,ff,tt,ff,ff,ff]) .normal (qR 199 j1::pY 25 p5::xX b o b2 b3 ia ib ic id) X w0 (bM b bi bk x ix a c' ts (rH p5::M1)) (allT ts::wO b b2 b3 o I1):=by
   intro p5 j1 a c' ts ht
   rw [hR]
   exact fC (i:=5) (j:=9) (m:=10) (by kernel_rfl) (aS rfl (bS ht hx hs hp (ax:=1) (by decide) (by decide) (hn 1 (by decide) (by decide)) (hm 1 (by decide) (by decide)) aA aA) rfl rfl (by rintro _ _ _ ⟨j2,a2,c2,ts2,rfl,ht2,rfl,rfl⟩;exact ⟨okF,bE hR (n25 p5 j1 j2 a2 c2 ts2 ht2)⟩)) (bB (d:=23) rfl rfl (fun p3=>⟨okF,bE hR (n135 p3 p5 j1 a c' ts ht)⟩)) (bB (d:=24) rfl rfl (fun p4=>⟨okF,bE hR (n145 p4 p5 j1 a c' ts ht)⟩))
  have n2:∀(j1 j2:Nat) (a:Option Addr) (c':Nat) (ts:List TN) (ht:TS N 57 (ts.map TN.k) (⟨j2,iJ x o 1,129⟩::⟨j1,iJ x o 0,129⟩::vV q ia ib ic id)),ND 331 (R 7 2 #[tt,tt,tt,tt,tt,tt,tt,tt,ff,ff,ff,ff,ff,ff,ff]) .normal (qR 202 j2::qR 199 j1::xX b o b2 b3 ia ib ic id) X w0 (bM b bi bk x ix a c' ts (M1)) (allT ts::wO b b2 b3 o I1):=by
   intro j1 j2 a c' ts ht
   rw [hR]
   exact uS (i:=8) (j:=9) (m:=10) (o:=11) (by kernel_rfl) (aS rfl (bS ht hx hs hp (ax:=2) (by decide) (by decide) (hn 2 (by decide) (by decide)) (hm 2 (by decide) (by decide)) aA aA) rfl rfl (by rintro _ _ _ ⟨j3,a2,c2,ts2,rfl,ht2,rfl,rfl⟩;exact ⟨okF,bE hR (n3 j1 j2 j3 a2 c2 ts2 ht2)⟩)) (bB (d:=23) rfl rfl (fun p3=>⟨okF,bE hR (n23 p3 j1 j2 a c' ts ht)⟩)) (bB (d:=24) rfl rfl (fun p4=>⟨okF,bE hR (n24 p4 j1 j2 a c' ts ht)⟩)) (bB (d:=25) rfl rfl (fun p5=>⟨okF,bE hR (n25 p5 j1 j2 a c' ts ht)⟩))
  have n03:∀(p3:Nat) (a:Option Addr) (c':Nat) (ts:List TN) (ht:TS N 43 (ts.map TN.k) (vV q ia ib ic id)),ND 331 (R 8 1 #[tt,tt,ff,tt,tt,ff,tt,tt,ff,tt,ff,ff,ff,ff,ff]) .normal (pY 23 p3::xX b o b2 b3 ia ib ic id) X w0 (bM b bi bk x ix a c' ts (rH p3::M1)) (allT ts::wO b b2 b3 o I1):=by
   intro p3 a c' ts ht
   rw [hR]
   exact fC (i:=2) (j:=10) (m:=11) (by kernel_rfl) (aS rfl (bS ht hx hs hp (ax:=0) (by decide) (by decide) (hn 0 (by decide) (by decide)) (hm 0 (by decide) (by decide)) aA aA) rfl rfl (by rintro _ _ _ ⟨j1,a2,c2,ts2,rfl,ht2,rfl,rfl⟩;exact ⟨okF,bE hR (n13 p3 j1 a2 c2 ts2 ht2)⟩)) (bB (d:=24) rfl rfl (fun p4=>⟨okF,bE hR (n034 p3 p4 a c' ts ht)⟩)) (bB (d:=25) rfl rfl (fun p5=>⟨okF,bE hR (n035 p3 p5 a c' ts ht)⟩))
  have n04:∀(p4:Nat) (a:Option Addr) (c':Nat) (ts:List TN) (ht:TS N 43 (ts.map TN.k) (vV q ia ib ic id)),ND 331 (R 8 1 #[tt,tt,ff,tt,tt,ff,tt,tt,ff,ff,tt,ff,ff,ff,ff]) .normal (pY 24 p4::xX b o b2 b3 ia ib ic id) X w0 (bM b bi bk x ix a c' ts (rH p4::M1)) (allT ts::wO b b2 b3 o I1):=by
   intro p4 a c' ts ht
   rw [hR]
   exact fC (i:=2) (j:=9) (m:=11) (by kernel_rfl) (aS rfl (bS ht hx hs hp (ax:=0) (by decide) (by decide) (hn 0 (by decide) (by decide)) (hm 0 (by decide) (by decide)) aA aA) rfl rfl (by rintro _ _ _ ⟨j1,a2,c2,ts2,rfl,ht2,rfl,rfl⟩;exact ⟨okF,bE hR (n14 p4 j1 a2 c2 ts2 ht2)⟩)) (bB (d:=23) rfl rfl (fun p3=>⟨okF,bE hR (n034 p3 p4 a c' ts ht)⟩)) (bB (d:=25) rfl rfl (fun p5=>⟨okF,bE hR (n045 p4 p5 a c' ts ht)⟩))
  have n05:∀(p5:Nat) (a:Option Addr) (c':Nat) (ts:List TN) (ht:TS N 43 (ts.map TN.k) (vV q ia ib ic id)),ND 331 (R 8 1 #[tt,tt,ff,tt,tt,ff,tt,tt,ff,ff,ff,tt,ff,ff,ff]) .normal (pY 25 p5::xX b o b2 b3 ia ib ic id) X w0 (bM b bi bk x ix a c' ts (rH p5::M1)) (allT ts::wO b b2 b3 o I1):=by
   intro p5 a c' ts ht
   rw [hR]
   exact fC (i:=2) (j:=9) (m:=10) (by kernel_rfl) (aS rfl (bS ht hx hs hp (ax:=0) (by decide) (by decide) (hn 0 (by decide) (by decide)) (hm 0 (by decide) (by decide)) aA aA) rfl rfl (by rintro _ _ _ ⟨j1,a2,c2,ts2,rfl,ht2,rfl,rfl⟩;exact ⟨okF,bE hR (n15 p5 j1 a2 c2 ts2 ht2)⟩)) (bB (d:=23) rfl rfl (fun p3=>⟨okF,bE hR (n035 p3 p5 a c' ts ht)⟩)) (bB (d:=24) rfl rfl (fun p4=>⟨okF,bE hR (n045 p4 p5 a c' ts ht)⟩))
  have n1:∀(j1:Nat) (a:Option Addr) (c':Nat) (ts:List TN) (ht:TS N 50 (ts.map TN.k) (⟨j1,iJ x o 0,129⟩::vV q ia ib ic id)),ND 331 (R 8 1 #[tt,tt,tt,tt,tt,ff,tt,tt,ff,ff,ff,ff,ff,ff,ff]) .normal (qR 199 j1::xX b o b2 b3 ia ib ic id) X w0 (bM b bi bk x ix a c' ts (M1)) (allT ts::wO b b2 b3 o I1):=by
   intro j1 a c' ts ht
   rw [hR]
   exact uS (i:=5) (j:=9) (m:=10) (o:=11) (by kernel_rfl) (aS rfl (bS ht hx hs hp (ax:=1) (by decide) (by decide) (hn 1 (by decide) (by decide)) (hm 1 (by decide) (by decide)) aA aA) rfl rfl (by rintro _ _ _ ⟨j2,a2,c2,ts2,rfl,ht2,rfl,rfl⟩;exact ⟨okF,bE hR (n2 j1 j2 a2 c2 ts2 ht2)⟩)) (bB (d:=23) rfl rfl (fun p3=>⟨okF,bE hR (n13 p3 j1 a c' ts ht)⟩)) (bB (d:=24) rfl rfl (fun p4=>⟨okF,bE hR (n14 p4 j1 a c' ts ht)⟩)) (bB (d:=25) rfl rfl (fun p5=>⟨okF,bE hR (n15 p5 j1 a c' ts ht)⟩))
  have n0:∀(a:Option Addr) (c':Nat) (ts:List TN) (ht:TS N 43 (ts.map TN.k) (vV q ia ib ic id)),ND 331 (R 9 0 #[tt,tt,ff,tt,tt,ff,tt,tt,ff,ff,ff,ff,ff,ff,ff]) .normal (xX b o b2 b3 ia ib ic id) X w0 (bM b bi bk x ix a c' ts (M1)) (allT ts::wO b b2 b3 o I1):=by
   intro a c' ts ht
   rw [hR]
   exact uS (i:=2) (j:=9) (m:=10) (o:=11) (by kernel_rfl) (aS rfl (bS ht hx hs hp (ax:=0) (by decide) (by decide) (hn 0 (by decide) (by decide)) (hm 0 (by decide) (by decide)) aA aA) rfl rfl (by rintro _ _ _ ⟨j1,a2,c2,ts2,rfl,ht2,rfl,rfl⟩;exact ⟨okF,bE hR (n1 j1 a2 c2 ts2 ht2)⟩)) (bB (d:=23) rfl rfl (fun p3=>⟨okF,bE hR (n03 p3 a c' ts ht)⟩)) (bB (d:=24) rfl rfl (fun p4=>⟨okF,bE hR (n04 p4 a c' ts ht)⟩)) (bB (d:=25) rfl rfl (fun p5=>⟨okF,bE hR (n05 p5 a c' ts ht)⟩))
  show ND 331 (R 15 0 #[false,false,false,false,false,false,false,false,false,false,false,false,false,false,false]) .normal _ X w0 _ _
  rw [hR]
  refine dH (fuel:=9) (listed':=#[tt,tt,ff,tt,tt,ff,tt,tt,ff,ff,ff,ff,ff,ff,ff]) [0,1,3,4,6,7] [5,5,6,6,7,7] aG aF (by kernel_rfl) (by kernel_rfl) rfl rfl ?_
  repeat refine aB ?_
  rw [←hR]
  exact aOM dS aG aF (n0 _ _ _ s0)
 clear s0
 rintro G M I ⟨p3,p4,p5,j1,j2,j3,a0,c0,ts0,s1,rfl,rfl,rfl⟩
 refine aCD (b:=p3) (cs:=[.int .i64 (j1:Int)]) (e:=3) uB ?_
 refine aCD (b:=p4) (cs:=[.int .i64 (j2:Int)]) (e:=3) uB ?_
 refine aCD (b:=p5) (cs:=[.int .i64 (j3:Int)]) (e:=3) uB ?_
 refine aMQ (M':=bM b bi bk x ix a0 c0 ts0 M1) (I':=allT ts0::aI (some ⟨p3,0,none⟩) [.int .i64 (j1:Int)]::aI (some ⟨p4,0,none⟩) [.int .i64 (j2:Int)]::aI (some ⟨p5,0,none⟩) [.int .i64 (j3:Int)]::wO b b2 b3 o I1) SubP.refl aF ?_
 repeat refine aB ?_
 (repeat refine aJ ?_);refine vT ([]) (aI (some ⟨b2,0,none⟩) [.pointer (some ⟨b,0,none⟩)]::[]) [0,1,3,4,6,7,9,10,2,5,8,11,12,13,14,15] [3,3,3,3,3,3,3,3,0,0,0,0,0,0,0,0] mixed ?_
 repeat refine aB ?_
 (refine aU rfl (aCK s1 aA (by decide) (by decide)) ?_;rintro _ _ _ ⟨kaa,a1,c1,ts1,rfl,u1,rfl,rfl⟩;refine aL ?_)
 clear s1
 repeat refine aB ?_
 (refine aU rfl (aCK u1 aA (by decide) (by decide)) ?_;rintro _ _ _ ⟨kbb,a2,c2,ts2,rfl,u2,rfl,rfl⟩;refine aL ?_)
 clear u1
 repeat refine aB ?_
 (refine aU rfl (aCK u2 aA (by decide) (by decide)) ?_;rintro _ _ _ ⟨kcc,a3,c3,ts3,rfl,u3,rfl,rfl⟩;refine aL ?_)
 clear u2
 repeat refine aB ?_
 (refine aU rfl (aCK u3 aA (by decide) (by decide)) ?_;rintro _ _ _ ⟨kdd,a4,c4,ts4,rfl,u4,rfl,rfl⟩;refine aL ?_)
 clear u3
 repeat refine aB ?_
 (repeat refine aJ ?_);refine vT ([]) (aI (some ⟨b2,0,none⟩) [.pointer (some ⟨b,0,none⟩)]::[]) [0,1,2,3,4,5,7,9,11,12,13,14,15,17,18,19,23,24,25,26,27,29,30,31,6,8,10,16,20,21,22,28,32,33,34,35,36] [11,11,11,11,11,11,11,11,11,11,11,11,11,11,11,11,11,11,11,11,11,11,11,11,0,0,0,0,0,0,0,0,0,0,0,0,0] mixed ?_
 repeat refine aB ?_
 (refine aU rfl (mZ u4 aA aA (by decide) (by decide)) ?_;rintro _ _ _ ⟨f1,a5,c5,ts5,rfl,u5,rfl,rfl⟩;refine aL ?_)
 clear u4
 repeat refine aB ?_
 (refine aU rfl (nZ u5 aA aA (by decide) (by decide)) ?_;rintro _ _ _ ⟨f2,a6,c6,ts6,rfl,u6,rfl,rfl⟩;refine aL ?_)
 clear u5
 repeat refine aB ?_
 (refine aU rfl (nZ u6 aA aA (by decide) (by decide)) ?_;rintro _ _ _ ⟨f3,a7,c7,ts7,rfl,u7,rfl,rfl⟩;refine aL ?_)
 clear u6
 repeat refine aB ?_
 (refine aU rfl (kP u7 aA aA (by decide) (by decide)) ?_;rintro _ _ _ ⟨f4,a8,c8,ts8,rfl,u8,rfl,rfl⟩;refine aL ?_)
 clear u7
 repeat refine aB ?_
 (refine aU rfl (kP u8 aA aA (by decide) (by decide)) ?_;rintro _ _ _ ⟨f5,a9,c9,ts9,rfl,u9,rfl,rfl⟩;refine aL ?_)
 clear u8
 repeat refine aB ?_
 (refine aU rfl (mZ u9 aA aA (by decide) (by decide)) ?_;rintro _ _ _ ⟨f6,a10,c10,ts10,rfl,u10,rfl,rfl⟩;refine aL ?_)
 clear u9
 repeat refine aB ?_
 (refine bI rfl rfl (rM u10 aA (by decide) (by decide) aA) rfl rfl rfl ?_;rintro _ _ _ ⟨f7,a11,c11,ts11,rfl,u11,rfl,rfl⟩;refine aL ?_)
 clear u10
 repeat refine aB ?_
 (refine aU rfl (kP u11 aA aA (by decide) (by decide)) ?_;rintro _ _ _ ⟨f8,a12,c12,ts12,rfl,u12,rfl,rfl⟩;refine aL ?_)
 clear u11
 repeat refine aB ?_
 (refine aU rfl (kP u12 aA aA (by decide) (by decide)) ?_;rintro _ _ _ ⟨f9,a13,c13,ts13,rfl,u13,rfl,rfl⟩;refine aL ?_)
 clear u12
 repeat refine aB ?_
 (refine aU rfl (nZ u13 aA aA (by decide) (by decide)) ?_;rintro _ _ _ ⟨f10,a14,c14,ts14,rfl,u14,rfl,rfl⟩;refine aL ?_)
 clear u13
 repeat refine aB ?_
 (refine bI rfl rfl (rM u14 aA (by decide) (by decide) aA) rfl rfl rfl ?_;rintro _ _ _ ⟨f11,a15,c15,ts15,rfl,u15,rfl,rfl⟩;refine aL ?_)
 clear u14
 repeat refine aB ?_
 (refine bI rfl rfl (aIC (jx:=j1) (jy:=j2) (jz:=j3) u15 aA aA aA aA aA aA (by decide) (by decide) aA aA aA aA) rfl rfl rfl ?_;rintro _ _ _ ⟨r1,a16,c16,ts16,rfl,u16,rfl,rfl⟩;refine aL ?_)
 clear u15
 repeat refine aB ?_
 (repeat refine aJ ?_);refine vT ([]) (aI (some ⟨b2,0,none⟩) [.pointer (some ⟨b,0,none⟩)]::[]) [0,1,2,3,4,5,7,8,9,13,14,15,16,17,19,21,23,24,25,26,27,29,30,31,6,10,11,12,18,20,22,28,32,33,34,35,36] [11,11,11,11,11,11,11,11,11,11,11,11,11,11,11,11,11,11,11,11,11,11,11,11,0,0,0,0,0,0,0,0,0,0,0,0,0] mixed ?_
 repeat refine aB ?_
 (refine aU rfl (kP u16 aA aA (by decide) (by decide)) ?_;rintro _ _ _ ⟨g1,a17,c17,ts17,rfl,u17,rfl,rfl⟩;refine aL ?_)
 clear u16
 repeat refine aB ?_
 (refine aU rfl (kP u17 aA aA (by decide) (by decide)) ?_;rintro _ _ _ ⟨g2,a18,c18,ts18,rfl,u18,rfl,rfl⟩;refine aL ?_)
 clear u17
 repeat refine aB ?_
 (refine aU rfl (nZ u18 aA aA (by decide) (by decide)) ?_;rintro _ _ _ ⟨g3,a19,c19,ts19,rfl,u19,rfl,rfl⟩;refine aL ?_)
 clear u18
 repeat refine aB ?_
 (refine bI rfl rfl (rM u19 aA (by decide) (by decide) aA) rfl rfl rfl ?_;rintro _ _ _ ⟨g4,a20,c20,ts20,rfl,u20,rfl,rfl⟩;refine aL ?_)
 clear u19
 repeat refine aB ?_
 (refine aU rfl (nZ u20 aA aA (by decide) (by decide)) ?_;rintro _ _ _ ⟨g5,a21,c21,ts21,rfl,u21,rfl,rfl⟩;refine aL ?_)
 clear u20
 repeat refine aB ?_
 (refine aU rfl (mZ u21 aA aA (by decide) (by decide)) ?_;rintro _ _ _ ⟨g6,a22,c22,ts22,rfl,u22,rfl,rfl⟩;refine aL ?_)
 clear u21
 repeat refine aB ?_
 (refine aU rfl (nZ u22 aA aA (by decide) (by decide)) ?_;rintro _ _ _ ⟨g7,a23,c23,ts23,rfl,u23,rfl,rfl⟩;refine aL ?_)
 clear u22
 repeat refine aB ?_
 (refine aU rfl (kP u23 aA aA (by decide) (by decide)) ?_;rintro _ _ _ ⟨g8,a24,c24,ts24,rfl,u24,rfl,rfl⟩;refine aL ?_)
 clear u23
 repeat refine aB ?_
 (refine aU rfl (kP u24 aA aA (by decide) (by decide)) ?_;rintro _ _ _ ⟨g9,a25,c25,ts25,rfl,u25,rfl,rfl⟩;refine aL ?_)
 clear u24
 repeat refine aB ?_
 (refine aU rfl (mZ u25 aA aA (by decide) (by decide)) ?_;rintro _ _ _ ⟨g10,a26,c26,ts26,rfl,u26,rfl,rfl⟩;refine aL ?_)
 clear u25
 repeat refine aB ?_
 (refine bI rfl rfl (rM u26 aA (by decide) (by decide) aA) rfl rfl rfl ?_;rintro _ _ _ ⟨g11,a27,c27,ts27,rfl,u27,rfl,rfl⟩;refine aL ?_)
 clear u26
 repeat refine aB ?_
 (refine bI rfl rfl (aIC (jx:=j1) (jy:=j2) (jz:=j3) u27 aA aA aA aA aA aA (by decide) (by decide) aA aA aA aA) rfl rfl rfl ?_;rintro _ _ _ ⟨r2,a28,c28,ts28,rfl,u28,rfl,rfl⟩;refine aL ?_)
 clear u27
 repeat refine aB ?_
 (repeat refine aJ ?_);refine vT ([]) (aI (some ⟨b2,0,none⟩) [.pointer (some ⟨b,0,none⟩)]::[]) [0,1,2,3,4,5,7,8,9,13,14,15,16,17,19,20,21,25,26,27,28,29,31,33,6,10,11,12,18,22,23,24,30,32,34,35,36] [11,11,11,11,11,11,11,11,11,11,11,11,11,11,11,11,11,11,11,11,11,11,11,11,0,0,0,0,0,0,0,0,0,0,0,0,0] mixed ?_
 repeat refine aB ?_
 (refine aU rfl (kP u28 aA aA (by decide) (by decide)) ?_;rintro _ _ _ ⟨h1,a29,c29,ts29,rfl,u29,rfl,rfl⟩;refine aL ?_)
 clear u28
 repeat refine aB ?_
 (refine aU rfl (kP u29 aA aA (by decide) (by decide)) ?_;rintro _ _ _ ⟨h2,a30,c30,ts30,rfl,u30,rfl,rfl⟩;refine aL ?_)
 clear u29
 repeat refine aB ?_
 (refine aU rfl (mZ u30 aA aA (by decide) (by decide)) ?_;rintro _ _ _ ⟨h3,a31,c31,ts31,rfl,u31,rfl,rfl⟩;refine aL ?_)
 clear u30
 repeat refine aB ?_
 (refine bI rfl rfl (rM u31 aA (by decide) (by decide) aA) rfl rfl rfl ?_;rintro _ _ _ ⟨h4,a32,c32,ts32,rfl,u32,rfl,rfl⟩;refine aL ?_)
 clear u31
 repeat refine aB ?_
 (refine aU rfl (kP u32 aA aA (by decide) (by decide)) ?_;rintro _ _ _ ⟨h5,a33,c33,ts33,rfl,u33,rfl,rfl⟩;refine aL ?_)
 clear u32
 repeat refine aB ?_
 (refine aU rfl (kP u33 aA aA (by decide) (by decide)) ?_;rintro _ _ _ ⟨h6,a34,c34,ts34,rfl,u34,rfl,rfl⟩;refine aL ?_)
 clear u33
 repeat refine aB ?_
 (refine aU rfl (nZ u34 aA aA (by decide) (by decide)) ?_;rintro _ _ _ ⟨h7,a35,c35,ts35,rfl,u35,rfl,rfl⟩;refine aL ?_)
 clear u34
 repeat refine aB ?_
 (refine bI rfl rfl (rM u35 aA (by decide) (by decide) aA) rfl rfl rfl ?_;rintro _ _ _ ⟨h8,a36,c36,ts36,rfl,u36,rfl,rfl⟩;refine aL ?_)
 clear u35
 repeat refine aB ?_
 (refine aU rfl (nZ u36 aA aA (by decide) (by decide)) ?_;rintro _ _ _ ⟨h9,a37,c37,ts37,rfl,u37,rfl,rfl⟩;refine aL ?_)
 clear u36
 repeat refine aB ?_
 (refine aU rfl (nZ u37 aA aA (by decide) (by decide)) ?_;rintro _ _ _ ⟨h10,a38,c38,ts38,rfl,u38,rfl,rfl⟩;refine aL ?_)
 clear u37
 repeat refine aB ?_
 (refine aU rfl (mZ u38 aA aA (by decide) (by decide)) ?_;rintro _ _ _ ⟨h11,a39,c39,ts39,rfl,u39,rfl,rfl⟩;refine aL ?_)
 clear u38
 repeat refine aB ?_
 (refine bI rfl rfl (aIC (jx:=j1) (jy:=j2) (jz:=j3) u39 aA aA aA aA aA aA (by decide) (by decide) aA aA aA aA) rfl rfl rfl ?_;rintro _ _ _ ⟨r3,a40,c40,ts40,rfl,u40,rfl,rfl⟩;refine aL ?_)
 clear u39
 repeat refine aB ?_
 have v1:=u40.wm (i:=r1) (q':=drX q (iJ x o 0) (iJ x o 1) (iJ x o 2)) (h':=2000) aA rfl (by decide)
 have v2:=v1.wm (i:=r2) (q':=drY q (iJ x o 0) (iJ x o 1) (iJ x o 2)) (h':=2000) aA rfl (by decide)
 have v3:=v2.wm (i:=r3) (q':=drZ q (iJ x o 0) (iJ x o 1) (iJ x o 2)) (h':=2000) aA rfl (by decide)
 refine pI [4,5,6] (by first|exact .inl rfl|exact .inr rfl) rfl rfl rfl _ _ aG aF (⟨r1,r2,r3,a40,c40,ts40,rfl,v3.sub (by decide) (by
  intro p hp
  simp only [List.mem_cons,List.not_mem_nil,or_false] at hp
  rcases hp with rfl|rfl|rfl <;>simp),rfl,rfl⟩)
end
abbrev bZ (b bi:Nat) (kn:Option Nat) (x:NX) (ix:List (List Int × Int)) (a:Option Addr) (c n:Nat) (M1:List Ent):List Ent:= .blk b [.int .i64 x.d, .slice x.pS x.S.length x.cS, .slice x.pP x.P.length x.cP, .slice x.pO x.O.length x.cO, .map (some bi), .slice a n c, .map kn] 189:: .obj bi (mV vZ ix)::M1
/- ---------- Clone of fiducial/api.Term ---------- -/
section
variable {X:List Nat} {w0:World} {M0:List Ent} {I0:List aV}
theorem aMP {q:Option Addr} {a:List TN} {c:Nat} (hn:(a.length:Int)*88≤140737488355328) (hok:Ok q∨(a.length=0∧c=0)) (ha:aI q (recs vH a)∈I0):
  CD Tryz.prog 190 [.slice q a.length c] X w0 M0 I0 (fun v M I=>I0=I∧∃q' c',v= .slice q' a.length c'∧M= .row q' a.length c' (recs vH a) 192 7::M0):=by
 refine aZ Tryz.func190 rfl Tryz.ntmps190 rfl ?_
 repeat refine aB ?_
 refine aD rfl (fun _=>wN rfl) rfl rfl ?_
 cases q with
 |some ad=>
  repeat refine aB ?_
  refine lL (cs:=recs vH []) ([]) rfl (fun b1=>?_)
  repeat refine aB ?_
  refine jC (mm:=0) 7 iN rfl (by omega) ?_
  refine oO (xs:=[]) (ys:=a) 0 rfl rfl rfl (Src.imm aA hok) (by decide) rfl (by simp;omega) (by simp;omega) rfl rfl ?_
  intro a2 c2
  refine aL ?_
  repeat refine aB ?_
  refine aH (by first|exact .inl rfl|exact .inr rfl) rfl rfl _ _ aG aF (⟨rfl,a2,c2,by simp,by simp⟩)
 |none=>
  obtain ⟨h0,rfl⟩:a.length=0∧c=0:=hok.resolve_left (fun h=>by obtain ⟨b,o,e⟩:=h.cases;cases e)
  have hnil:a=[]:=List.eq_nil_of_length_eq_zero h0
  subst hnil
  repeat refine aB ?_
  refine aCE 192 7 ?_
  refine gD rfl rfl (⟨rfl,none,0,rfl,rfl⟩)
end
def EQ' (N:Nat) (q:Rat) (b bi:Nat) (x:NX) (ix:List (List Int × Int)) (M1:List Ent) (I1:List aV) (v:Value) (M:List Ent) (I:List aV):Prop:=
 ∃(kn:Option Nat) (a:Option Addr) (c n:Nat) (p:Option Addr) (cp:Nat) (us:List TN),v= .slice p us.length cp∧(Ok p∧us.length≤1000∧TV N (us.map TN.k) q)∧M=bZ b bi kn x ix a c n M1∧I=aI p (recs vH us)::allT us::I1
theorem AllT.take {ts:List TN} {X:List Nat} {w:World} (h:AllT ts X w) (n:Nat):AllT (ts.take n) X w:=⟨fun t ht=>h.go t (List.mem_of_mem_take ht)⟩
section
variable {X:List Nat} {w0:World} {M1:List Ent} {I1:List aV} {N c b bi bk:Nat} {x:NX} {ix:List (List Int × Int)} {a:Option Addr} {c' n:Nat} {ts:List TN} {L:List Pn}
theorem aAY {kn:Option Nat}:CD Tryz.prog 138 [.pointer (some ⟨b,0,none⟩)] X w0 (bZ b bi kn x ix a c' n M1) I1 (fun _ M I=>∃bk':Nat,M=bM b bi bk' x ix none 0 [] M1∧I=allT []::I1):=by
 refine aZ Tryz.func138 rfl Tryz.ntmps138 rfl ?_
 repeat refine aB ?_
 (refine sM vZ rfl rfl ?_;intro bk2;refine aL ?_)
 repeat refine aB ?_
 refine aCE 192 7 ?_
 refine fF (φ:=allT []) Hv.nilT ?_
 refine qZ (M':=bM b bi bk2 x ix none 0 [] M1) (I':=allT []::I1) aG Inc.refl ?_
 refine aOC (by first|exact .inl rfl|exact .inr rfl) rfl _ _ aG aF (⟨bk2,rfl,rfl⟩)
theorem aAW {i:Nat} {q:Rat} {h:Nat} (hT:TS N c (ts.map TN.k) L) (hi:⟨i,q,h⟩∈L) (hc:c≤1000):
  CD Tryz.prog 140 [.pointer (some ⟨b,0,none⟩), .int .i64 (i:Int)] X w0 (bM b bi bk x ix a c' ts M1) (allT ts::I1) (EQ' N q b bi x ix M1 I1):=by
 have hlen:ts.length≤c:=by have:=hT.1;simpa using this
 have hlt:i < ts.length:=by have:=hT.lt hi;simpa using this
 have hv:=hT.tv hi
 rw [←List.map_take] at hv
 obtain ⟨us,hus⟩:∃us,ts.take (i+1)=us:=⟨_,rfl⟩
 have hul:us.length=i+1:=by rw [←hus,List.length_take];omega
 have hsp:recs vH ts=recs vH us++recs vH (ts.drop (i+1)):=by rw [←jO,←hus,List.take_append_drop]
 rw [hus] at hv
 have hcl:=fun (p:Option Addr) (c:Nat) M0 I0 h1 h2=>aMP (X:=X) (w0:=w0) (M0:=M0) (I0:=I0) (q:=p) (a:=us) (c:=c) (by omega) h1 h2
 rw [hul] at hcl
 refine aP Tryz.func140 rfl Tryz.ntmps140 rfl ?_
 repeat refine aB ?_
 refine aQH (fun _ h0 _=>absurd h0 (by omega)) (fun bq tl e hle=>?_)
 subst e
 rw [hsp]
 refine aC (b:=bq) (cs:=recs vH us++recs vH (ts.drop (i+1))++tl) .here ?_
 refine aIW (a:=some ⟨bq,0,none⟩) (cs:=recs vH us++recs vH (ts.drop (i+1))) (tl:=tl) List.mem_cons_self ?_
 refine aIW (a:=some ⟨bq,0,none⟩) (cs:=recs vH us) (tl:=recs vH (ts.drop (i+1))) List.mem_cons_self ?_
 refine fH (φ:=allT us) ⟨fun X w hw=>by rw [←hus];exact AllT.take (hw (allT ts) (by simp)) _⟩ ?_
 refine aBB (M':=bZ b bi (some bk) x ix (some ⟨bq,0,none⟩) c' ts.length M1) (I':=aI (some ⟨bq,0,none⟩) (recs vH us)::allT us::I1) aG aF ?_
 (refine aD rfl (fun _=>uP (i+1) rfl rfl (by omega) (by omega)) rfl rfl ?_)
 (refine aU rfl (hcl _ _ _ _ (.inl (Ok.mk _ _)) aA) ?_;rintro _ _ _ ⟨rfl,q2,c2,rfl,rfl⟩;refine aL ?_)
 repeat refine aB ?_
 refine aOE (φ:=Ok q2) (fun w hw=>?_) (fun hok=>?_)
 ·rcases (hw.rowS List.mem_cons_self).2 with h|⟨h,_⟩
  ·exact h
  ·omega
 refine uR (cs:=recs vH us) .here ?_
 rw [←hul]
 refine qZ (M':=bZ b bi (some bk) x ix (some ⟨bq,0,none⟩) c' ts.length M1) (I':=aI q2 (recs vH us)::allT us::I1) aG aF ?_
 refine gD rfl rfl (⟨some bk,some ⟨bq,0,none⟩,c',ts.length,q2,c2,us,rfl,⟨hok,by omega,hv⟩,rfl,rfl⟩)
end
end Go.Proofs.YtgpkjcmipiodcaaGreat

/- Drawn regions that read a block's fields ahead of their stores: trees of orders in two sta -/
import Derived.Test.YtgpkjcmipiodcaaGreatZwaq
import Derived.Test.YtgpkjcmipiodcaaGreatZwag
import Derived.Test.YtgpkjcmipiodcaaGreatZwan
import Derived.Test.YtgpkjcmipiodcaaGreatZwam
import Derived.Test.YtgpkjcmipiodcaaGreatZwaf
set_option linter.unusedSimpArgs false
set_option linter.unusedVariables false
set_option maxRecDepth 100000
set_option maxHeartbeats 4000000
namespace Go.Proofs.YtgpkjcmipiodcaaGreat
open Go Go.Fx
def CsT (K:Nat) (X:List Nat) (w0:World) (M1 M2:List Ent) (I1:List aV):Nat→World→Prop:=fun s w=>Mem X w0 M2 I1 w∧(s≤K→Mem X w0 M1 I1 w)
section
variable {P:Program} {n:Nat} {Q:Exit→Act→World→Prop} {G:Env} {X:List Nat} {w0:World} {M M1 M2:List Ent} {I I1:List aV} {l:List Oper} {K:Nat}
end
section
variable {P:Program} {n:Nat} {Q Q':Exit→Act→World→Prop} {G:Env} {X:List Nat} {w0:World} {M:List Ent} {I:List aV}
/- a cut from within a block -/
end
instance arr3I:IntArr Tryz.prog 91 3:=⟨by
 obtain ⟨i,hi⟩:=Option.isSome_iff_exists.1 (show (Tryz.prog.info? 3).isSome=true by kernel_rfl)
 exact ⟨_,i,Tryz.underlying91,Tryz.underlying3,hi,by kernel_rfl⟩,by kernel_rfl⟩
instance arr3K:IntKey Tryz.prog 91 3:=IntKey.ofArr
instance keyK:IntKey Tryz.prog 240 4:=IntKey.ofStruct
instance nameK:IntKey Tryz.prog 122 3:=IntKey.ofStruct
theorem aZB:∃i,Tryz.prog.info? 3=some i∧i.zero=some (.int .i64 0):=Option.bind_eq_some_iff.1 (show (Tryz.prog.info? 3).bind (fun i=>i.zero)=some (.int .i64 0) by kernel_rfl)
theorem aZF:∃i,Tryz.prog.info? 4=some i∧i.zero=some (.bool false):=Option.bind_eq_some_iff.1 (show (Tryz.prog.info? 4).bind (fun i=>i.zero)=some (.bool false) by kernel_rfl)
instance knownM:GMapTy Tryz.prog 187 4 (.int .i64 0):=⟨_,_,Tryz.underlying187,keyK,aZB⟩
instance indexM:GMapTy Tryz.prog 186 3 (.int .i64 0):=⟨_,_,Tryz.underlying186,arr3K,aZB⟩
instance fixedM:GMapTy Tryz.prog 185 3 (.bool false):=⟨_,_,Tryz.underlying185,arr3K,aZF⟩
instance namesM:GMapTy Tryz.prog 117 3 (.bool false):=⟨_,_,Tryz.underlying117,nameK,aZF⟩
abbrev vZ:Int→Value:=fun x=> .int .i64 x
abbrev vB:Bool→Value:=fun x=> .bool x
structure P3 where
 x:Int
 y:Int
 z:Int
instance P3.inh:Inhabited P3:=⟨⟨0,0,0⟩⟩
abbrev gP (p:P3):List Value:=[.int .i64 p.x, .int .i64 p.y, .int .i64 p.z]
abbrev p3v (p:P3):Value:= .agg #[.int .i64 p.x, .int .i64 p.y, .int .i64 p.z]
instance P3.szd:Sized gP 3:=⟨fun _=>rfl⟩
instance P3.ones:Ones gP:=⟨fun m u hu=>by
 simp only [gP,List.mem_cons,List.not_mem_nil,or_false] at hu
 rcases hu with rfl|rfl|rfl <;>rfl⟩
structure ST where
 x:Int
 y:Int
 z:Int
 q:Qn
 f:Int
 cx:Int
 cy:Int
instance ST.inh:Inhabited ST:=⟨⟨0,0,0,Qn.zero,0,0,0⟩⟩
abbrev qU (s:ST):List Value:=[.int .i64 s.x, .int .i64 s.y, .int .i64 s.z, .int .i64 s.q.a, .int .i64 s.q.b, .int .i64 s.q.c, .int .i64 s.q.d, .int .i64 s.f, .int .i64 s.cx, .int .i64 s.cy]
abbrev stv (s:ST):Value:= .agg #[.int .i64 s.x, .int .i64 s.y, .int .i64 s.z, .int .i64 s.q.a, .int .i64 s.q.b, .int .i64 s.q.c, .int .i64 s.q.d, .int .i64 s.f, .int .i64 s.cx, .int .i64 s.cy]
instance ST.szd:Sized qU 10:=⟨fun _=>rfl⟩
instance ST.ones:Ones qU:=⟨fun m u hu=>by
 simp only [qU,List.mem_cons,List.not_mem_nil,or_false] at hu
 rcases hu with rfl|rfl|rfl|rfl|rfl|rfl|rfl|rfl|rfl|rfl <;>rfl⟩
structure OB where
 k:Int
 a:Int
 b:Int
 x:Int
 v:Int
 w:Int
 g:Int
instance OB.inh:Inhabited OB:=⟨⟨0,0,0,0,0,0,0⟩⟩
abbrev jU (o:OB):List Value:=[.int .i64 o.k, .int .i64 o.a, .int .i64 o.b, .int .i64 o.x, .int .i64 o.v, .int .i64 o.w, .int .i64 o.g]
abbrev obv (o:OB):Value:= .agg #[.int .i64 o.k, .int .i64 o.a, .int .i64 o.b, .int .i64 o.x, .int .i64 o.v, .int .i64 o.w, .int .i64 o.g]
instance OB.szd:Sized jU 7:=⟨fun _=>rfl⟩
instance OB.ones:Ones jU:=⟨fun m u hu=>by
 simp only [jU,List.mem_cons,List.not_mem_nil,or_false] at hu
 rcases hu with rfl|rfl|rfl|rfl|rfl|rfl|rfl <;>rfl⟩
structure NX where
 d:Int
 pS:Option Addr
 S:List ST
 cS:Nat
 pP:Option Addr
 P:List P3
 cP:Nat
 pO:Option Addr
 O:List OB
 cO:Nat
abbrev nO (x:NX):List Value:=[.int .i64 x.d, .slice x.pS x.S.length x.cS, .slice x.pP x.P.length x.cP, .slice x.pO x.O.length x.cO]
abbrev nxv (x:NX):Value:= .agg #[.int .i64 x.d, .slice x.pS x.S.length x.cS, .slice x.pP x.P.length x.cP, .slice x.pO x.O.length x.cO]
end Go.Proofs.YtgpkjcmipiodcaaGreat
namespace Go.Proofs.YtgpkjcmipiodcaaGreat
open Go Go.Fx
structure TN where
 k:TK
 r:RW
instance TN.inh:Inhabited TN:=⟨⟨⟨0,0,0,0⟩,⟨false,none,[],0,false,none,[],0⟩⟩⟩
abbrev zW:RW:=⟨false,none,[],0,false,none,[],0⟩
abbrev vH (t:TN):List Value:=[.int .i64 t.k.op, .int .i64 t.k.a, .int .i64 t.k.b, .bool t.r.n1, .slice t.r.p1 t.r.g1.length t.r.c1, .bool t.r.n2, .slice t.r.p2 t.r.g2.length t.r.c2]
instance TN.szd:Sized vH 7:=⟨fun _=>rfl⟩
instance TN.ones:Ones vH:=⟨fun m u hu=>by
 simp only [vH,List.mem_cons,List.not_mem_nil,or_false] at hu
 rcases hu with rfl|rfl|rfl|rfl|rfl|rfl|rfl <;>rfl⟩
structure AllT (ts:List TN) (X:List Nat) (w:World):Prop where
 go:∀t∈ts,t.k.op=0→∃e:RE,t.r=e.raw∧e.q=(t.k.n:Rat)∧IsR e 64 X w
abbrev allT (ts:List TN):aV:=AllT ts
instance allT.gd (ts:List TN):Fx.Good (AllT ts):=⟨fun X Y w w' h he hY=>⟨fun t ht h0=>by
 obtain ⟨e,h1,h2,h3⟩:=h.go t ht h0
 exact ⟨e,h1,h2,Fx.Good.go (φ:=IsR _ _) X Y w w' h3 he hY⟩⟩⟩
theorem Hv.nilT {I:List aV}:Hv I (allT []):=⟨fun X w _=>⟨fun t ht=>absurd ht List.not_mem_nil⟩⟩
theorem Hv.snocT {I:List aV} {ts:List TN} {t:TN} (h:allT ts∈I) (h0:t.k.op≠0):Hv I (allT (ts++[t])):=⟨fun X w hw=>⟨fun s hs h1=>by
 rcases List.mem_append.1 hs with hs|hs
 ·exact (hw _ h:AllT ts X w).go s hs h1
 ·rw [List.mem_singleton.1 hs] at h1;exact absurd h1 h0⟩⟩
theorem Hv.snocN {I:List aV} {ts:List TN} {e:RE} {a b n:Int} (h:allT ts∈I) (he:cK e 64∈I) (hq:e.q=(n:Rat)):Hv I (allT (ts++[⟨⟨0,a,b,n⟩,e.raw⟩])):=⟨fun X w hw=>⟨fun s hs h1=>by
 rcases List.mem_append.1 hs with hs|hs
 ·exact (hw _ h:AllT ts X w).go s hs h1
 ·rw [List.mem_singleton.1 hs];exact ⟨e,rfl,hq,hw _ he⟩⟩⟩
def kid (ts:List TN):List (List Int × Int):=ts.zipIdx.map (fun p=>(p.1.k.key,(p.2:Int)))
theorem aCN (ts:List TN):∀p∈kid ts,p.1.length=4:=fun p hp=>by
 obtain ⟨q,_,rfl⟩:=List.mem_map.1 hp
 rfl
theorem bAH (ts:List TN) (i:Nat):(kid ts)[i]?=(ts[i]?).map (fun t=>(t.k.key,(i:Int))):=by
 unfold kid
 rw [List.getElem?_map,List.getElem?_zipIdx]
 cases ts[i]? <;>simp
theorem aSE (ts:List TN) (t:TN):kid ts++[(t.k.key,(ts.length:Int))]=kid (ts++[t]):=by
 unfold kid
 rw [List.zipIdx_append,List.map_append];simp
theorem aRQ {ts:List TN} {k:List Int} {q:Nat × Int} (h:iA (kid ts) k 0=some q):q.2=(q.1:Int)∧∃t,ts[q.1]?=some t∧t.k.key=k:=by
 obtain ⟨_,h2⟩:=rP h
 rw [Nat.sub_zero,bAH] at h2
 obtain ⟨t,h3,h4⟩:=Option.map_eq_some_iff.1 h2
 injection h4 with h5 h6
 exact ⟨h6.symm,t,h3,h5⟩
abbrev bC (x:NX) (bi bk:Nat) (a:Option Addr) (c n:Nat):List Value:=[.int .i64 x.d, .slice x.pS x.S.length x.cS, .slice x.pP x.P.length x.cP, .slice x.pO x.O.length x.cO, .map (some bi), .slice a n c, .map (some bk)]
abbrev bM (b bi bk:Nat) (x:NX) (ix:List (List Int × Int)) (a:Option Addr) (c:Nat) (ts:List TN) (M1:List Ent):List Ent:=
 .row a ts.length c (recs vH ts) 192 7:: .blk b (bC x bi bk a c ts.length) 189:: .obj bk (mV vZ (kid ts)):: .obj bi (mV vZ ix)::M1
def BQ (N c:Nat) (L:List Pn) (q:Rat) (h:Nat) (b bi bk:Nat) (x:NX) (ix:List (List Int × Int)) (M1:List Ent) (I1:List aV) (v:Value) (M:List Ent) (I:List aV):Prop:=
 ∃(i:Nat) (a:Option Addr) (c':Nat) (ts:List TN),v= .int .i64 (i:Int)∧TS N c (ts.map TN.k) (⟨i,q,h⟩::L)∧M=bM b bi bk x ix a c' ts M1∧I=allT ts::I1
theorem Nw.range {N c:Nat} {ks:List TK} {L:List Pn} {k:TK} {q:Rat} {h:Nat} (t:TS N c ks L) (hn:Nw N L k q h) (h0:k.op=0):k=⟨0,0,0,k.n⟩∧(-9223372036854775808≤k.n∧k.n≤9223372036854775807):=by
 obtain ⟨_,vs,_,h3⟩:=t
 obtain ⟨_,h6⟩:=hn vs h3
 cases h6 with
 |num n h=>exact ⟨rfl,h⟩
 |var i h=>exact absurd (show _=(0:Int) from h0) (by simp)
 |add hi hj=>exact absurd (show _=(0:Int) from h0) (by simp)
 |sub hi hj=>exact absurd (show _=(0:Int) from h0) (by simp)
 |mul hi hj=>exact absurd (show _=(0:Int) from h0) (by simp)
 |div hi hj _=>exact absurd (show _=(0:Int) from h0) (by simp)
 |sqr hi=>exact absurd (show _=(0:Int) from h0) (by simp)
section
variable {X:List Nat} {w0:World} {M1:List Ent} {I1:List aV}
theorem pF {N c b bi bk:Nat} {x:NX} {ix:List (List Int × Int)} {a:Option Addr} {c':Nat} {ts:List TN} {L:List Pn} {k:TK} {q:Rat} {h:Nat} (hT:TS N c (ts.map TN.k) L) (hn:Nw N L k q h) (hh:h≤100000) (hc:c≤1000000):
  CD Tryz.prog 211 [.pointer (some ⟨b,0,none⟩), .agg #[.int .i64 k.op, .int .i64 k.a, .int .i64 k.b, .int .i64 k.n]] X w0 (bM b bi bk x ix a c' ts M1) (allT ts::I1) (BQ N (c+1) L q h b bi bk x ix M1 I1):=by
 have hlen:ts.length≤c:=by have:=hT.1;simpa using this
 have hW:=fun M0 I0 hx=>jA (X:=X) (w0:=w0) (M0:=M0) (I0:=I0) (x:=k.n) hx (k:=64) (by omega)
 refine aP Tryz.func211 rfl Tryz.ntmps211 rfl ?_
 refine fE ?_
 refine fG rfl (fun b3=>?_)
 refine aC (cs:=[.int .i64 k.op, .int .i64 k.a, .int .i64 k.b, .int .i64 k.n]) .here ?_
 repeat refine aB ?_
 (repeat refine aJ ?_);refine vT (.blk b (bC x bi bk a c' ts.length) 189::[]) (aI (some ⟨b3,0,none⟩) [.int .i64 k.op, .int .i64 k.a, .int .i64 k.b, .int .i64 k.n]::[]) [0,1,2,3,4,5,6,7,8,9,10] [1,1,1,0,0,0,0,0,0,0,0] mixed ?_
 repeat refine aB ?_
 rcases hl:iA (kid ts) k.key 0 with _|⟨j,v⟩
 ·(refine aQQ (kk:=k.key) (z:=0) (vf:=vZ) hl rfl rfl rfl (aCN ts) aA rfl rfl ⟨okF,?_⟩)
  repeat refine aB ?_
  (refine aD rfl (fun _=>aK (pvs:=[(0, .int .i64 k.op),(1, .int .i64 k.a),(2, .int .i64 k.b)]) (cells:=vH ⟨k,zW⟩) rfl rfl) rfl rfl ?_)
  refine bG (fun b7=>?_)
  repeat refine aB ?_
  have hP:=hT.push hn hh
  have hkn:=fun (t:TN) (ht:t.k=k)=>show (ts++[t]).map TN.k=ts.map TN.k++[k] by rw [List.map_append,←ht];rfl
  have hlm:(ts.map TN.k).length=ts.length:=List.length_map _
  have hmu:∀t:TN,t.k=k→qO (kid ts) k.key (ts.length:Int)=kid (ts++[t]):=fun t ht=>by
   unfold qO
   rw [hl,←aSE,ht]
  by_cases h0:k.op=0
  ·obtain ⟨hk,hr⟩:=hn.range hT h0
   repeat refine aB ?_
   refine iG rfl (hW _ _ hr) (fun e he=>?_)
   repeat refine aB ?_
   (refine fM (vs:=eR e) (cs':=vH ⟨k,e.raw⟩) rfl rfl rfl nU .here (.mk rfl (by simp)) rfl rfl ⟨okF,?_⟩)
   refine fH (φ:=allT (ts++[⟨k,e.raw⟩])) (by rw [hk];exact Hv.snocN aA aA he) ?_
   repeat refine aB ?_
   (repeat refine aJ ?_);refine kT 2 (.blk b7 (vH ⟨k,e.raw⟩) 192:: .blk b (bC x bi bk a c' ts.length) 189::[]) ([]) [0,1,2,3,4,5,6,7,8,9,10] [2,2,2,2,1,1,0,0,1,0,0] aG aF mixed (by kernel_rfl) ?_
   repeat refine aB ?_
   refine lL (cs:=recs vH [⟨k,e.raw⟩]) ([.agg (vH ⟨k,e.raw⟩).toArray]) rfl (fun b8=>?_)
   refine tyP (ys:=[⟨k,e.raw⟩]) 2 rfl rfl rfl (fun a2 c2=>?_)
   repeat refine aB ?_
   have hl1:(((ts++[⟨k,e.raw⟩]:List TN).length:Nat):Int) - 1=(ts.length:Int):=by rw [List.length_append];simp
   have hl2:(ts++[⟨k,e.raw⟩]:List TN).length≤1000001:=by rw [List.length_append];simp;omega
   (repeat refine aJ ?_);refine vT (.blk b (bC x bi bk a2 c2 (ts++[(⟨k,e.raw⟩:TN)]).length) 189::[]) (aI (some ⟨b3,0,none⟩) [.int .i64 k.op, .int .i64 k.a, .int .i64 k.b, .int .i64 k.n]::[]) [0,1,2,3,4,5,6,7,8,9,10,11] [0,0,0,0,0,0,0,0,0,0,0,0] mixed ?_
   repeat refine aB ?_
   rw [hl1]
   (refine zM (kk:=k.key) (v:=(ts.length:Int)) (vf:=vZ) (zv:=vZ 0) (mm:=4) rfl rfl rfl rfl (aCN ts) iN rfl rfl ⟨okF,?_⟩)
   rw [hmu ⟨k,e.raw⟩ rfl]
   repeat refine aB ?_
   rw [hl1]
   repeat refine aB ?_
   rw [hlm] at hP
   refine aH (by first|exact .inl rfl|exact .inr rfl) rfl rfl _ _ aG aF (⟨ts.length,a2,c2,ts++[⟨k,e.raw⟩],rfl,by rw [hkn ⟨k,e.raw⟩ rfl];exact hP,rfl,rfl⟩)
  ·refine bD (φ:=allT (ts++[⟨k,zW⟩])) (Hv.snocT aA h0) ?_
   repeat refine aB ?_
   (repeat refine aJ ?_);refine kT 2 (.blk b7 (vH ⟨k,zW⟩) 192:: .blk b (bC x bi bk a c' ts.length) 189::[]) ([]) [0,1,2,3,4,5,6,7,8,9,10] [2,2,2,2,1,1,0,0,1,0,0] aG aF mixed (by kernel_rfl) ?_
   repeat refine aB ?_
   refine lL (cs:=recs vH [⟨k,zW⟩]) ([.agg (vH ⟨k,zW⟩).toArray]) rfl (fun b8=>?_)
   refine tyP (ys:=[⟨k,zW⟩]) 2 rfl rfl rfl (fun a2 c2=>?_)
   repeat refine aB ?_
   have hl1:(((ts++[⟨k,zW⟩]:List TN).length:Nat):Int) - 1=(ts.length:Int):=by rw [List.length_append];simp
   have hl2:(ts++[⟨k,zW⟩]:List TN).length≤1000001:=by rw [List.length_append];simp;omega
   (repeat refine aJ ?_);refine vT (.blk b (bC x bi bk a2 c2 (ts++[(⟨k,zW⟩:TN)]).length) 189::[]) (aI (some ⟨b3,0,none⟩) [.int .i64 k.op, .int .i64 k.a, .int .i64 k.b, .int .i64 k.n]::[]) [0,1,2,3,4,5,6,7,8,9,10,11] [0,0,0,0,0,0,0,0,0,0,0,0] mixed ?_
   repeat refine aB ?_
   rw [hl1]
   (refine zM (kk:=k.key) (v:=(ts.length:Int)) (vf:=vZ) (zv:=vZ 0) (mm:=4) rfl rfl rfl rfl (aCN ts) iN rfl rfl ⟨okF,?_⟩)
   rw [hmu ⟨k,zW⟩ rfl]
   repeat refine aB ?_
   rw [hl1]
   repeat refine aB ?_
   rw [hlm] at hP
   refine aH (by first|exact .inl rfl|exact .inr rfl) rfl rfl _ _ aG aF (⟨ts.length,a2,c2,ts++[⟨k,zW⟩],rfl,by rw [hkn ⟨k,zW⟩ rfl];exact hP,rfl,rfl⟩)
 ·obtain ⟨hv,t,ht,htk⟩:=aRQ hl
  simp only at hv ht
  subst hv
  have hT2:=hT.old hn (i:=j) (by rw [List.getElem?_map,ht,←TK.key_inj htk];rfl)
  (refine xD (kk:=k.key) (z:=0) (vf:=vZ) hl rfl rfl rfl (aCN ts) aA rfl rfl ⟨okF,?_⟩)
  repeat refine aB ?_
  refine gD rfl rfl (⟨j,a,c',ts,rfl,hT2.sub (by omega) (fun _ h=>h),rfl,rfl⟩)
end
end Go.Proofs.YtgpkjcmipiodcaaGreat
namespace Go.Proofs.YtgpkjcmipiodcaaGreat
open Go Go.Fx
section
variable {X:List Nat} {w0:World} {M1:List Ent} {I1:List aV} {N c b bi bk:Nat} {x:NX} {ix:List (List Int × Int)} {a:Option Addr} {c':Nat} {ts:List TN} {L:List Pn}
theorem uV {n:Int} (hT:TS N c (ts.map TN.k) L) (hn: -9223372036854775808≤n∧n≤9223372036854775807) (hc:c≤1000000):
  CD Tryz.prog 186 [.pointer (some ⟨b,0,none⟩), .int .i64 n] X w0 (bM b bi bk x ix a c' ts M1) (allT ts::I1) (BQ N (c+1) L n 64 b bi bk x ix M1 I1):=by
 have hN:=pF (X:=X) (w0:=w0) (M1:=M1) (I1:=I1) (b:=b) (bi:=bi) (bk:=bk) (x:=x) (ix:=ix) (a:=a) (c':=c') hT (Nw.num (N:=N) (L:=L) n (h:=64) hn (by omega)) (by decide) hc
 refine aP Tryz.func186 rfl Tryz.ntmps186 rfl ?_
 repeat refine aB ?_
 (refine aD rfl (fun _=>aK (pvs:=[(0, .int .i64 0),(3, .int .i64 n)]) (cells:=[.int .i64 0, .int .i64 0, .int .i64 0, .int .i64 n]) rfl rfl) rfl rfl ?_)
 (refine aU rfl (hN) ?_;rintro _ _ _ ⟨i,a2,c2,ts2,rfl,h2,rfl,rfl⟩;refine aL ?_)
 repeat refine aB ?_
 refine gD rfl rfl (⟨i,a2,c2,ts2,rfl,h2,rfl,rfl⟩)
theorem mZ {i j:Nat} {p q:Rat} {h m:Nat} (hT:TS N c (ts.map TN.k) L) (hi:⟨i,p,h⟩∈L) (hj:⟨j,q,m⟩∈L) (hh:h+m+1≤100000) (hc:c≤1000000):
  CD Tryz.prog 187 [.pointer (some ⟨b,0,none⟩), .int .i64 (i:Int), .int .i64 (j:Int)] X w0 (bM b bi bk x ix a c' ts M1) (allT ts::I1) (BQ N (c+1) L (p+q) (h+m+1) b bi bk x ix M1 I1):=by
 have hN:=pF (X:=X) (w0:=w0) (M1:=M1) (I1:=I1) (b:=b) (bi:=bi) (bk:=bk) (x:=x) (ix:=ix) (a:=a) (c':=c') hT (Nw.add hi hj) hh hc
 refine iO Tryz.func187 rfl Tryz.ntmps187 rfl ?_
 repeat refine aB ?_
 (refine aD rfl (fun _=>aK (pvs:=[(0, .int .i64 2),(1, .int .i64 (i:Int)),(2, .int .i64 (j:Int))]) (cells:=[.int .i64 2, .int .i64 (i:Int), .int .i64 (j:Int), .int .i64 0]) rfl rfl) rfl rfl ?_)
 (refine aU rfl (hN) ?_;rintro _ _ _ ⟨i2,a2,c2,ts2,rfl,h2,rfl,rfl⟩;refine aL ?_)
 repeat refine aB ?_
 refine gD rfl rfl (⟨i2,a2,c2,ts2,rfl,h2,rfl,rfl⟩)
theorem nZ {i j:Nat} {p q:Rat} {h m:Nat} (hT:TS N c (ts.map TN.k) L) (hi:⟨i,p,h⟩∈L) (hj:⟨j,q,m⟩∈L) (hh:h+m+1≤100000) (hc:c≤1000000):
  CD Tryz.prog 182 [.pointer (some ⟨b,0,none⟩), .int .i64 (i:Int), .int .i64 (j:Int)] X w0 (bM b bi bk x ix a c' ts M1) (allT ts::I1) (BQ N (c+1) L (p - q) (h+m+1) b bi bk x ix M1 I1):=by
 have hN:=pF (X:=X) (w0:=w0) (M1:=M1) (I1:=I1) (b:=b) (bi:=bi) (bk:=bk) (x:=x) (ix:=ix) (a:=a) (c':=c') hT (Nw.sub hi hj) hh hc
 refine iO Tryz.func182 rfl Tryz.ntmps182 rfl ?_
 repeat refine aB ?_
 (refine aD rfl (fun _=>aK (pvs:=[(0, .int .i64 3),(1, .int .i64 (i:Int)),(2, .int .i64 (j:Int))]) (cells:=[.int .i64 3, .int .i64 (i:Int), .int .i64 (j:Int), .int .i64 0]) rfl rfl) rfl rfl ?_)
 (refine aU rfl (hN) ?_;rintro _ _ _ ⟨i2,a2,c2,ts2,rfl,h2,rfl,rfl⟩;refine aL ?_)
 repeat refine aB ?_
 refine gD rfl rfl (⟨i2,a2,c2,ts2,rfl,h2,rfl,rfl⟩)
theorem kP {i j:Nat} {p q:Rat} {h m:Nat} (hT:TS N c (ts.map TN.k) L) (hi:⟨i,p,h⟩∈L) (hj:⟨j,q,m⟩∈L) (hh:h+m≤100000) (hc:c≤1000000):
  CD Tryz.prog 185 [.pointer (some ⟨b,0,none⟩), .int .i64 (i:Int), .int .i64 (j:Int)] X w0 (bM b bi bk x ix a c' ts M1) (allT ts::I1) (BQ N (c+1) L (p*q) (h+m) b bi bk x ix M1 I1):=by
 have hN:=pF (X:=X) (w0:=w0) (M1:=M1) (I1:=I1) (b:=b) (bi:=bi) (bk:=bk) (x:=x) (ix:=ix) (a:=a) (c':=c') hT (Nw.mul hi hj) hh hc
 refine iO Tryz.func185 rfl Tryz.ntmps185 rfl ?_
 repeat refine aB ?_
 (refine aD rfl (fun _=>aK (pvs:=[(0, .int .i64 4),(1, .int .i64 (i:Int)),(2, .int .i64 (j:Int))]) (cells:=[.int .i64 4, .int .i64 (i:Int), .int .i64 (j:Int), .int .i64 0]) rfl rfl) rfl rfl ?_)
 (refine aU rfl (hN) ?_;rintro _ _ _ ⟨i2,a2,c2,ts2,rfl,h2,rfl,rfl⟩;refine aL ?_)
 repeat refine aB ?_
 refine gD rfl rfl (⟨i2,a2,c2,ts2,rfl,h2,rfl,rfl⟩)
theorem aOA {i j:Nat} {p q:Rat} {h m:Nat} (hT:TS N c (ts.map TN.k) L) (hi:⟨i,p,h⟩∈L) (hj:⟨j,q,m⟩∈L) (h0:q≠0) (hh:h+m≤100000) (hc:c≤1000000):
  CD Tryz.prog 191 [.pointer (some ⟨b,0,none⟩), .int .i64 (i:Int), .int .i64 (j:Int)] X w0 (bM b bi bk x ix a c' ts M1) (allT ts::I1) (BQ N (c+1) L (p / q) (h+m) b bi bk x ix M1 I1):=by
 have hN:=pF (X:=X) (w0:=w0) (M1:=M1) (I1:=I1) (b:=b) (bi:=bi) (bk:=bk) (x:=x) (ix:=ix) (a:=a) (c':=c') hT (Nw.div hi hj h0) hh hc
 refine iO Tryz.func191 rfl Tryz.ntmps191 rfl ?_
 repeat refine aB ?_
 (refine aD rfl (fun _=>aK (pvs:=[(0, .int .i64 5),(1, .int .i64 (i:Int)),(2, .int .i64 (j:Int))]) (cells:=[.int .i64 5, .int .i64 (i:Int), .int .i64 (j:Int), .int .i64 0]) rfl rfl) rfl rfl ?_)
 (refine aU rfl (hN) ?_;rintro _ _ _ ⟨i2,a2,c2,ts2,rfl,h2,rfl,rfl⟩;refine aL ?_)
 repeat refine aB ?_
 refine gD rfl rfl (⟨i2,a2,c2,ts2,rfl,h2,rfl,rfl⟩)
theorem aCK {i:Nat} {p:Rat} {h:Nat} (hT:TS N c (ts.map TN.k) L) (hi:⟨i,p,h⟩∈L) (hh:h+h≤100000) (hc:c≤1000000):
  CD Tryz.prog 183 [.pointer (some ⟨b,0,none⟩), .int .i64 (i:Int)] X w0 (bM b bi bk x ix a c' ts M1) (allT ts::I1) (BQ N (c+1) L (p*p) (h+h) b bi bk x ix M1 I1):=by
 have hN:=pF (X:=X) (w0:=w0) (M1:=M1) (I1:=I1) (b:=b) (bi:=bi) (bk:=bk) (x:=x) (ix:=ix) (a:=a) (c':=c') hT (Nw.sqr hi) hh hc
 refine aP Tryz.func183 rfl Tryz.ntmps183 rfl ?_
 repeat refine aB ?_
 (refine aD rfl (fun _=>aK (pvs:=[(0, .int .i64 7),(1, .int .i64 (i:Int))]) (cells:=[.int .i64 7, .int .i64 (i:Int), .int .i64 0, .int .i64 0]) rfl rfl) rfl rfl ?_)
 (refine aU rfl (hN) ?_;rintro _ _ _ ⟨i2,a2,c2,ts2,rfl,h2,rfl,rfl⟩;refine aL ?_)
 repeat refine aB ?_
 refine gD rfl rfl (⟨i2,a2,c2,ts2,rfl,h2,rfl,rfl⟩)
theorem wY {n:Int} {i:Nat} {p:Rat} {h:Nat} (hT:TS N c (ts.map TN.k) L) (hi:⟨i,p,h⟩∈L) (hn: -9223372036854775808≤n∧n≤9223372036854775807) (hh:64+h≤100000) (hc:c+1≤1000000):
  CD Tryz.prog 184 [.pointer (some ⟨b,0,none⟩), .int .i64 n, .int .i64 (i:Int)] X w0 (bM b bi bk x ix a c' ts M1) (allT ts::I1) (BQ N (c+2) L (n*p) (64+h) b bi bk x ix M1 I1):=by
 have hN:=uV (X:=X) (w0:=w0) (M1:=M1) (I1:=I1) (b:=b) (bi:=bi) (bk:=bk) (x:=x) (ix:=ix) (a:=a) (c':=c') hT hn (by omega)
 refine iO Tryz.func184 rfl Tryz.ntmps184 rfl ?_
 repeat refine aB ?_
 (refine aU rfl (hN) ?_;rintro _ _ _ ⟨i1,a1,c1,ts1,rfl,h1,rfl,rfl⟩;refine aL ?_)
 repeat refine aB ?_
 (refine aU rfl (kP h1 List.mem_cons_self (List.mem_cons_of_mem _ hi) hh hc) ?_;rintro _ _ _ ⟨i2,a2,c2,ts2,rfl,h2,rfl,rfl⟩;refine aL ?_)
 repeat refine aB ?_
 refine gD rfl rfl (⟨i2,a2,c2,ts2,rfl,h2.sub (Nat.le_refl _) (fun p hp=>by
  rcases List.mem_cons.1 hp with rfl|hp
  ·exact List.mem_cons_self
  ·exact List.mem_cons_of_mem _ (List.mem_cons_of_mem _ hp)),rfl,rfl⟩)
theorem aFS {n:Int} {i:Nat} {p:Rat} {h:Nat} (hT:TS N c (ts.map TN.k) L) (hi:⟨i,p,h⟩∈L) (hn: -9223372036854775808≤n∧n≤9223372036854775807) (hh:h+64+1≤100000) (hc:c+1≤1000000):
  CD Tryz.prog 192 [.pointer (some ⟨b,0,none⟩), .int .i64 (i:Int), .int .i64 n] X w0 (bM b bi bk x ix a c' ts M1) (allT ts::I1) (BQ N (c+2) L (p - n) (h+64+1) b bi bk x ix M1 I1):=by
 have hN:=uV (X:=X) (w0:=w0) (M1:=M1) (I1:=I1) (b:=b) (bi:=bi) (bk:=bk) (x:=x) (ix:=ix) (a:=a) (c':=c') hT hn (by omega)
 refine iO Tryz.func192 rfl Tryz.ntmps192 rfl ?_
 repeat refine aB ?_
 (refine aU rfl (hN) ?_;rintro _ _ _ ⟨i1,a1,c1,ts1,rfl,h1,rfl,rfl⟩;refine aL ?_)
 repeat refine aB ?_
 (refine aU rfl (nZ h1 (List.mem_cons_of_mem _ hi) List.mem_cons_self hh hc) ?_;rintro _ _ _ ⟨i2,a2,c2,ts2,rfl,h2,rfl,rfl⟩;refine aL ?_)
 repeat refine aB ?_
 refine gD rfl rfl (⟨i2,a2,c2,ts2,rfl,h2.sub (Nat.le_refl _) (fun p hp=>by
  rcases List.mem_cons.1 hp with rfl|hp
  ·exact List.mem_cons_self
  ·exact List.mem_cons_of_mem _ (List.mem_cons_of_mem _ hp)),rfl,rfl⟩)
end
end Go.Proofs.YtgpkjcmipiodcaaGreat
namespace Go.Proofs.YtgpkjcmipiodcaaGreat
open Go Go.Fx
def P3.co (p:P3) (k:Int):Int:=if k=0 then p.x else if k=1 then p.y else p.z
abbrev ST.at (s:ST):P3:=⟨s.x,s.y,s.z⟩
structure IxOk (ix:List (List Int × Int)) (nS nP N:Nat):Prop where
 len:∀p∈ix,p.1.length=3
 st:∀i ax:Int,0≤i→i < nS→0≤ax→ax < 6→∃j k:Nat,iA ix [0,i,ax] 0=some (j,(k:Int))∧k < N
 pt:∀i ax:Int,0≤i→i < nP→0≤ax→ax < 3→∃j k:Nat,iA ix [1,i,ax] 0=some (j,(k:Int))∧k < N
abbrev uU (n:Int):Prop:= -9223372036854775808≤n∧n≤9223372036854775807
section
variable {X:List Nat} {w0:World} {M0:List Ent} {I0:List aV}
theorem aMF {p:P3} {k:Int} (hk:0≤k∧k < 3):CD Tryz.prog 72 [p3v p, .int .i64 k] X w0 M0 I0 (fun v M I=>M0=M∧I0=I∧v= .int .i64 (p.co k)):=by
 have hv:([.int .i64 p.x, .int .i64 p.y, .int .i64 p.z]:List Value)[k.toNat]?=some (.int .i64 (p.co k)):=by
  obtain rfl|rfl|rfl:k=0∨k=1∨k=2:=by omega
  all_goals rfl
 refine aP Tryz.func72 rfl Tryz.ntmps72 rfl ?_
 refine fE ?_
 refine fG rfl (fun b2=>?_)
 refine aC (cs:=gP p) .here ?_
 repeat refine aB ?_
 (refine aD rfl (fun _=>bH (vals:=[.int .i64 p.x, .int .i64 p.y, .int .i64 p.z]) (cells:=[.int .i64 p.x, .int .i64 p.y, .int .i64 p.z]) rfl ?hpl rfl ?hz) rfl rfl ?_;(case hpl=>exact (by intro v hv;repeat (first|exact absurd hv (List.not_mem_nil)|(rcases List.mem_cons.1 hv with rfl|hv; · rfl))));(case hz=>rfl))
 repeat refine aB ?_
 (refine aD rfl (fun _=>rF (cs:=[.int .i64 p.x, .int .i64 p.y, .int .i64 p.z]) rfl rfl ⟨by omega,by show k < ((3:Nat):Int);omega⟩ rfl hv) rfl rfl ?_)
 repeat refine aB ?_
 refine gD rfl rfl (⟨rfl,rfl,rfl⟩)
end
section
variable {X:List Nat} {w0:World} {M1:List Ent} {I1:List aV} {N c b bi bk:Nat} {x:NX} {ix:List (List Int × Int)} {a:Option Addr} {c':Nat} {ts:List TN} {L:List Pn}
theorem aGX {i ax:Int} (hT:TS N c (ts.map TN.k) L) (hx:IxOk ix x.S.length x.P.length N) (hi:0≤i∧i < x.S.length) (ha:3≤ax∧ax < 6) (hc:c≤1000000):
  CD Tryz.prog 179 [.pointer (some ⟨b,0,none⟩), .int .i64 0, .int .i64 i, .int .i64 ax] X w0 (bM b bi bk x ix a c' ts M1) (allT ts::I1) (BQ N (c+1) L 0 0 b bi bk x ix M1 I1):=by
 obtain ⟨j,k,hl,hk⟩:=hx.st i ax hi.1 hi.2 (by omega) ha.2
 have hN:=pF (X:=X) (w0:=w0) (M1:=M1) (I1:=I1) (b:=b) (bi:=bi) (bk:=bk) (x:=x) (ix:=ix) (a:=a) (c':=c') hT (Nw.var (N:=N) (L:=L) k hk) (by decide) hc
 refine qN Tryz.func179 rfl Tryz.ntmps179 rfl ?_
 repeat refine aB ?_
 (refine aD rfl (fun _=>bH (vals:=[.int .i64 0, .int .i64 i, .int .i64 ax]) (cells:=[.int .i64 0, .int .i64 i, .int .i64 ax]) rfl ?hpl rfl ?hz) rfl rfl ?_;(case hpl=>exact (by intro v hv;repeat (first|exact absurd hv (List.not_mem_nil)|(rcases List.mem_cons.1 hv with rfl|hv; · rfl))));(case hz=>rfl))
 (refine xD (kk:=[0,i,ax]) (z:=0) (vf:=vZ) hl rfl rfl rfl hx.len aA rfl rfl ⟨okF,?_⟩)
 repeat refine aB ?_
 (refine aD rfl (fun _=>aK (pvs:=[(0, .int .i64 1),(1, .int .i64 (k:Int))]) (cells:=[.int .i64 1, .int .i64 (k:Int), .int .i64 0, .int .i64 0]) rfl rfl) rfl rfl ?_)
 (refine aU rfl (hN) ?_;rintro _ _ _ ⟨i2,a2,c2,ts2,rfl,h2,rfl,rfl⟩;refine aL ?_)
 repeat refine aB ?_
 refine gD rfl rfl (⟨i2,a2,c2,ts2,rfl,h2,rfl,rfl⟩)
theorem aYU {i ax:Int} (hT:TS N c (ts.map TN.k) L) (hx:IxOk ix x.S.length x.P.length N) (hi:0≤i∧i < x.S.length) (ha:0≤ax∧ax < 3) (hc:c≤1000) (hn:uU ((gt x.S i).at.co ax)) (hS:aI x.pS (recs qU x.S)∈I1):
  CD Tryz.prog 179 [.pointer (some ⟨b,0,none⟩), .int .i64 0, .int .i64 i, .int .i64 ax] X w0 (bM b bi bk x ix a c' ts M1) (allT ts::I1) (BQ N (c+3) L ((gt x.S i).at.co ax:Int) 64 b bi bk x ix M1 I1):=by
 obtain ⟨j,k,hl,hk⟩:=hx.st i ax hi.1 hi.2 ha.1 (by omega)
 have hC:=fun (p:P3) M0 I0=>aMF (X:=X) (w0:=w0) (M0:=M0) (I0:=I0) (p:=p) ha
 refine qN Tryz.func179 rfl Tryz.ntmps179 rfl ?_
 repeat refine aB ?_
 (refine aD rfl (fun _=>bH (vals:=[.int .i64 0, .int .i64 i, .int .i64 ax]) (cells:=[.int .i64 0, .int .i64 i, .int .i64 ax]) rfl ?hpl rfl ?hz) rfl rfl ?_;(case hpl=>exact (by intro v hv;repeat (first|exact absurd hv (List.not_mem_nil)|(rcases List.mem_cons.1 hv with rfl|hv; · rfl))));(case hz=>rfl))
 (refine xD (kk:=[0,i,ax]) (z:=0) (vf:=vZ) hl rfl rfl rfl hx.len aA rfl rfl ⟨okF,?_⟩)
 repeat refine aB ?_
 (apply qL;exact gQ;exact rfl;exact aA;exact AtsZ.r3 jH rfl rfl rfl;exact rfl;exact rfl)
 repeat refine aB ?_
 refine dP rfl (hC (gt x.S i).at _ _) ?_
 repeat refine aB ?_
 (refine aU rfl (uV hT hn (by omega)) ?_;rintro _ _ _ ⟨i1,a1,c1,ts1,rfl,h1,rfl,rfl⟩;refine aL ?_)
 repeat refine aB ?_
 (refine aD rfl (fun _=>aK (pvs:=[(0, .int .i64 1),(1, .int .i64 (k:Int))]) (cells:=[.int .i64 1, .int .i64 (k:Int), .int .i64 0, .int .i64 0]) rfl rfl) rfl rfl ?_)
 (refine aU rfl (pF (k:=⟨1,(k:Int),0,0⟩) h1 (Nw.var k hk) (by decide) (by omega)) ?_;rintro _ _ _ ⟨i2,a2,c2,ts2,rfl,h2,rfl,rfl⟩;refine aL ?_)
 repeat refine aB ?_
 (refine aU rfl (mZ h2 (List.mem_cons_of_mem _ List.mem_cons_self) List.mem_cons_self (by decide) (by omega)) ?_;rintro _ _ _ ⟨i3,a3,c3,ts3,rfl,h3,rfl,rfl⟩;refine aL ?_)
 repeat refine aB ?_
 refine gD rfl rfl (⟨i3,a3,c3,ts3,rfl,(h3.wk (h':=64) List.mem_cons_self (Rat.add_zero _) (Ht.int (by omega))).sub (Nat.le_refl _) (fun p hp=>by
  rcases List.mem_cons.1 hp with rfl|hp
  ·exact List.mem_cons_self
  ·exact List.mem_cons_of_mem _ (List.mem_cons_of_mem _ (List.mem_cons_of_mem _ (List.mem_cons_of_mem _ hp)))),rfl,rfl⟩)
theorem aYB {i ax:Int} (hT:TS N c (ts.map TN.k) L) (hx:IxOk ix x.S.length x.P.length N) (hi:0≤i∧i < x.P.length) (ha:0≤ax∧ax < 3) (hc:c≤1000) (hn:uU ((gt x.P i).co ax)) (hP:aI x.pP (recs gP x.P)∈I1):
  CD Tryz.prog 179 [.pointer (some ⟨b,0,none⟩), .int .i64 1, .int .i64 i, .int .i64 ax] X w0 (bM b bi bk x ix a c' ts M1) (allT ts::I1) (BQ N (c+3) L ((gt x.P i).co ax:Int) 64 b bi bk x ix M1 I1):=by
 obtain ⟨j,k,hl,hk⟩:=hx.pt i ax hi.1 hi.2 ha.1 (by omega)
 have hC:=fun (p:P3) M0 I0=>aMF (X:=X) (w0:=w0) (M0:=M0) (I0:=I0) (p:=p) ha
 refine qN Tryz.func179 rfl Tryz.ntmps179 rfl ?_
 repeat refine aB ?_
 (refine aD rfl (fun _=>bH (vals:=[.int .i64 1, .int .i64 i, .int .i64 ax]) (cells:=[.int .i64 1, .int .i64 i, .int .i64 ax]) rfl ?hpl rfl ?hz) rfl rfl ?_;(case hpl=>exact (by intro v hv;repeat (first|exact absurd hv (List.not_mem_nil)|(rcases List.mem_cons.1 hv with rfl|hv; · rfl))));(case hz=>rfl))
 (refine xD (kk:=[1,i,ax]) (z:=0) (vf:=vZ) hl rfl rfl rfl hx.len aA rfl rfl ⟨okF,?_⟩)
 repeat refine aB ?_
 refine dP rfl (hC (gt x.P i) _ _) ?_
 repeat refine aB ?_
 (refine aU rfl (uV hT hn (by omega)) ?_;rintro _ _ _ ⟨i1,a1,c1,ts1,rfl,h1,rfl,rfl⟩;refine aL ?_)
 repeat refine aB ?_
 (refine aD rfl (fun _=>aK (pvs:=[(0, .int .i64 1),(1, .int .i64 (k:Int))]) (cells:=[.int .i64 1, .int .i64 (k:Int), .int .i64 0, .int .i64 0]) rfl rfl) rfl rfl ?_)
 (refine aU rfl (pF (k:=⟨1,(k:Int),0,0⟩) h1 (Nw.var k hk) (by decide) (by omega)) ?_;rintro _ _ _ ⟨i2,a2,c2,ts2,rfl,h2,rfl,rfl⟩;refine aL ?_)
 repeat refine aB ?_
 (refine aU rfl (mZ h2 (List.mem_cons_of_mem _ List.mem_cons_self) List.mem_cons_self (by decide) (by omega)) ?_;rintro _ _ _ ⟨i3,a3,c3,ts3,rfl,h3,rfl,rfl⟩;refine aL ?_)
 repeat refine aB ?_
 refine gD rfl rfl (⟨i3,a3,c3,ts3,rfl,(h3.wk (h':=64) List.mem_cons_self (Rat.add_zero _) (Ht.int (by omega))).sub (Nat.le_refl _) (fun p hp=>by
  rcases List.mem_cons.1 hp with rfl|hp
  ·exact List.mem_cons_self
  ·exact List.mem_cons_of_mem _ (List.mem_cons_of_mem _ (List.mem_cons_of_mem _ (List.mem_cons_of_mem _ hp)))),rfl,rfl⟩)
end
end Go.Proofs.YtgpkjcmipiodcaaGreat
namespace Go.Proofs.YtgpkjcmipiodcaaGreat
open Go Go.Fx
structure SG where
 m:Bool
 n:Int
 a:Int
instance SG.inh:Inhabited SG:=⟨⟨false,0,0⟩⟩
abbrev tC (s:SG):List Value:=[.bool s.m, .int .i64 s.n, .int .i64 s.a]
instance SG.szd:Sized tC 3:=⟨fun _=>rfl⟩
instance SG.ones:Ones tC:=⟨fun m u hu=>by
 simp only [tC,List.mem_cons,List.not_mem_nil,or_false] at hu
 rcases hu with rfl|rfl|rfl <;>rfl⟩
section
variable {X:List Nat} {w0:World} {M1:List Ent} {I1:List aV} {N c b bi bk:Nat} {x:NX} {ix:List (List Int × Int)} {a:Option Addr} {c':Nat} {ts:List TN} {L:List Pn}
theorem aCA {n:Int} {p:Option Addr} {ps:List SG} {l cp:Nat} (hT:TS N c (ts.map TN.k) L) (hn:uU n) (hl:ps.length=l) (hl2:l≤10) (hc:c≤1000) (hp:aI p (recs tC ps)∈I1) (hz:∀s∈ps,uU s.n∧∃i:Nat,s.a=(i:Int)∧⟨i,0,0⟩∈L):
  CD Tryz.prog 180 [.pointer (some ⟨b,0,none⟩), .int .i64 n, .slice p l cp] X w0 (bM b bi bk x ix a c' ts M1) (allT ts::I1) (BQ N (c+1+3*l) L n 64 b bi bk x ix M1 I1):=by
 refine iO Tryz.func180 rfl Tryz.ntmps180 rfl ?_
 repeat refine aB ?_
 (refine aU rfl (uV hT hn (by omega)) ?_;rintro _ _ _ ⟨i1,a1,c1,ts1,rfl,h1,rfl,rfl⟩;refine aL ?_)
 repeat refine aB ?_
 refine kS [0,14,15] rfl (fun k G M I=>∃(i o:Nat) (a:Option Addr) (c':Nat) (ts:List TN),i≤l∧k=l - i∧TS N (c+1+3*i) (ts.map TN.k) (⟨o,(n:Rat),64⟩::L)∧G=[(7, .int .i64 (o:Int)),(16, .int .i64 (i:Int))]∧M=bM b bi bk x ix a c' ts M1∧I=allT ts::I1) (l) (⟨0,i1,a1,c1,ts1,by omega,rfl,h1,rfl,rfl,rfl⟩) ?_
 clear h1
 rintro kk G M I ⟨i,o,a1,c1,ts1,hi,rfl,h1,rfl,rfl,rfl⟩
 by_cases hil:i < l
 ·obtain ⟨hs1,j,hs2,hs3⟩:=hz _ (bJ (ms:=ps) (i:=(i:Int)) ⟨by omega,by omega⟩)
  obtain ⟨s,hs⟩:∃s,gt ps (i:Int)=s:=⟨_,rfl⟩
  rw [hs] at hs1 hs2
  obtain ⟨m,z,za⟩:=s
  simp only at hs1 hs2
  subst hs2
  have fin:∀{o2:Nat} {ts2:List TN} {q:Rat} {h:Nat} {m0:Pn},TS N (c+1+3*i+2+1) (ts2.map TN.k) (⟨o2,q,h⟩::m0::⟨o,(n:Rat),64⟩::L)→q=(n:Rat)→TS N (c+1+3*(i+1)) (ts2.map TN.k) (⟨o2,(n:Rat),64⟩::L):=fun h hq=>(h.wk (h':=64) List.mem_cons_self hq (Ht.int (by omega))).sub (by omega) (fun p hp=>by
   rcases List.mem_cons.1 hp with rfl|hp
   ·exact List.mem_cons_self
   ·exact List.mem_cons_of_mem _ (List.mem_cons_of_mem _ (List.mem_cons_of_mem _ (List.mem_cons_of_mem _ hp))))
  repeat refine aB ?_
  refine bG (fun b9=>?_)
  rw [hs]
  repeat refine aB ?_
  refine aC (cs:=tC ⟨m,z,(j:Int)⟩) .here ?_
  refine aBB (M':=bM b bi bk x ix a1 c1 ts1 M1) (I':=allT ts1::aI (some ⟨b9,0,none⟩) (tC ⟨m,z,(j:Int)⟩)::I1) SubP.refl aF ?_
  (refine aU rfl (wY h1 (List.mem_cons_of_mem _ hs3) hs1 (by decide) (by omega)) ?_;rintro _ _ _ ⟨i2,a2,c2,ts2,rfl,h2,rfl,rfl⟩;refine aL ?_)
  cases m with
  |true=>
   repeat refine aB ?_
   (refine aU rfl (nZ h2 (List.mem_cons_of_mem _ List.mem_cons_self) List.mem_cons_self (by decide) (by omega)) ?_;rintro _ _ _ ⟨i3,a3,c3,ts3,rfl,h3,rfl,rfl⟩;refine aL ?_)
   repeat refine aB ?_
   refine iC (l - (i+1)) (⟨i+1,i3,a3,c3,ts3,by omega,rfl,fin h3 (by grind),rfl,rfl,rfl⟩)
  |false=>
   repeat refine aB ?_
   (refine aU rfl (mZ h2 (List.mem_cons_of_mem _ List.mem_cons_self) List.mem_cons_self (by decide) (by omega)) ?_;rintro _ _ _ ⟨i3,a3,c3,ts3,rfl,h3,rfl,rfl⟩;refine aL ?_)
   repeat refine aB ?_
   refine iC (l - (i+1)) (⟨i+1,i3,a3,c3,ts3,by omega,rfl,fin h3 (by grind),rfl,rfl,rfl⟩)
 ·obtain rfl:i=l:=by omega
  repeat refine aB ?_
  refine gD rfl rfl (⟨o,a1,c1,ts1,rfl,h1,rfl,rfl⟩)
theorem bS {o:OB} {ax:Int} (hT:TS N c (ts.map TN.k) L) (hx:IxOk ix x.S.length x.P.length N) (hs:0≤o.a∧o.a < x.S.length) (hp:0≤o.b∧o.b < x.P.length) (ha:0≤ax∧ax < 3) (hc:c≤900) (hn:uU ((gt x.S o.a).at.co ax)) (hm:uU ((gt x.P o.b).co ax)) (hS:aI x.pS (recs qU x.S)∈I1) (hP:aI x.pP (recs gP x.P)∈I1):
  CD Tryz.prog 181 [.pointer (some ⟨b,0,none⟩),obv o, .int .i64 ax] X w0 (bM b bi bk x ix a c' ts M1) (allT ts::I1) (BQ N (c+7) L (((gt x.P o.b).co ax:Rat) - ((gt x.S o.a).at.co ax:Rat)) 129 b bi bk x ix M1 I1):=by
 refine iO Tryz.func181 rfl Tryz.ntmps181 rfl ?_
 refine fE ?_
 refine fG rfl (fun b4=>?_)
 refine aC (cs:=jU o) .here ?_
 refine aBB (M':=bM b bi bk x ix a c' ts M1) (I':=allT ts::aI (some ⟨b4,0,none⟩) (jU o)::I1) SubP.refl aF ?_
 repeat refine aB ?_
 (refine aU rfl (aYB hT hx hp ha (by omega) hm aA) ?_;rintro _ _ _ ⟨i1,a1,c1,ts1,rfl,h1,rfl,rfl⟩;refine aL ?_)
 repeat refine aB ?_
 (refine aU rfl (aYU h1 hx hs ha (by omega) hn aA) ?_;rintro _ _ _ ⟨i2,a2,c2,ts2,rfl,h2,rfl,rfl⟩;refine aL ?_)
 repeat refine aB ?_
 (refine aU rfl (nZ h2 (List.mem_cons_of_mem _ List.mem_cons_self) List.mem_cons_self (by decide) (by omega)) ?_;rintro _ _ _ ⟨i3,a3,c3,ts3,rfl,h3,rfl,rfl⟩;refine aL ?_)
 repeat refine aB ?_
 refine gD rfl rfl (⟨i3,a3,c3,ts3,rfl,h3.sub (Nat.le_refl _) (fun p hp=>by
  rcases List.mem_cons.1 hp with rfl|hp
  ·exact List.mem_cons_self
  ·exact List.mem_cons_of_mem _ (List.mem_cons_of_mem _ (List.mem_cons_of_mem _ hp))),rfl,rfl⟩)
theorem rM {b2 i:Nat} {p:Rat} {h:Nat} (hT:TS N c (ts.map TN.k) L) (hi:⟨i,p,h⟩∈L) (hh:64+h≤100000) (hc:c+1≤1000000) (h2:aI (some ⟨b2,0,none⟩) [.pointer (some ⟨b,0,none⟩)]∈I1):
  CD Tryz.prog 188 [.int .i64 (i:Int), .pointer (some ⟨b2,0,none⟩)] X w0 (bM b bi bk x ix a c' ts M1) (allT ts::I1) (BQ N (c+2) L (2*p) (64+h) b bi bk x ix M1 I1):=by
 refine aP Tryz.func188 rfl Tryz.ntmps188 rfl ?_
 repeat refine aB ?_
 (refine aU rfl (wY (n:=2) hT hi (by decide) hh hc) ?_;rintro _ _ _ ⟨i2,a2,c2,ts2,rfl,h2,rfl,rfl⟩;refine aL ?_)
 repeat refine aB ?_
 refine gD rfl rfl (⟨i2,a2,c2,ts2,rfl,h2,rfl,rfl⟩)
theorem aIC {b2 b3 b4 b5 ip iq ir jx jy jz:Nat} {p q r dx dy dz:Rat} {hp hq hr:Nat} (hT:TS N c (ts.map TN.k) L) (m1:⟨ip,p,hp⟩∈L) (m2:⟨iq,q,hq⟩∈L) (m3:⟨ir,r,hr⟩∈L) (m4:⟨jx,dx,129⟩∈L) (m5:⟨jy,dy,129⟩∈L) (m6:⟨jz,dz,129⟩∈L)
  (hh:hp+hq+hr≤90000) (hc:c+5≤1000000) (h2:aI (some ⟨b2,0,none⟩) [.pointer (some ⟨b,0,none⟩)]∈I1) (h3:aI (some ⟨b3,0,none⟩) [.int .i64 (jx:Int)]∈I1) (h4:aI (some ⟨b4,0,none⟩) [.int .i64 (jy:Int)]∈I1) (h5:aI (some ⟨b5,0,none⟩) [.int .i64 (jz:Int)]∈I1):
  CD Tryz.prog 189 [.int .i64 (ip:Int), .int .i64 (iq:Int), .int .i64 (ir:Int), .pointer (some ⟨b2,0,none⟩), .pointer (some ⟨b3,0,none⟩), .pointer (some ⟨b4,0,none⟩), .pointer (some ⟨b5,0,none⟩)] X w0 (bM b bi bk x ix a c' ts M1) (allT ts::I1) (BQ N (c+5) L (p*dx+q*dy+r*dz) (hp+129+(hq+129)+1+(hr+129)+1) b bi bk x ix M1 I1):=by
 refine aWY Tryz.func189 rfl Tryz.ntmps189 rfl ?_
 repeat refine aB ?_
 (repeat refine aJ ?_);refine vT ([]) (aI (some ⟨b2,0,none⟩) [.pointer (some ⟨b,0,none⟩)]::aI (some ⟨b3,0,none⟩) [.int .i64 (jx:Int)]::aI (some ⟨b4,0,none⟩) [.int .i64 (jy:Int)]::aI (some ⟨b5,0,none⟩) [.int .i64 (jz:Int)]::[]) [0,1,2,3,4,6,7,8,11,12,13,5,9,10,14,15,16] [4,4,4,4,4,4,4,4,4,4,4,0,0,0,0,0,0] mixed ?_
 repeat refine aB ?_
 (refine aU rfl (kP hT m1 m4 (by omega) (by omega)) ?_;rintro _ _ _ ⟨i1,a1,c1,ts1,rfl,h1,rfl,rfl⟩;refine aL ?_)
 repeat refine aB ?_
 (refine aU rfl (kP h1 (List.mem_cons_of_mem _ m2) (List.mem_cons_of_mem _ m5) (by omega) (by omega)) ?_;rintro _ _ _ ⟨i2,a2,c2,ts2,rfl,h2,rfl,rfl⟩;refine aL ?_)
 repeat refine aB ?_
 (refine aU rfl (mZ h2 (List.mem_cons_of_mem _ List.mem_cons_self) List.mem_cons_self (by omega) (by omega)) ?_;rintro _ _ _ ⟨i3,a3,c3,ts3,rfl,h3,rfl,rfl⟩;refine aL ?_)
 repeat refine aB ?_
 (refine aU rfl (kP h3 (List.mem_cons_of_mem _ (List.mem_cons_of_mem _ (List.mem_cons_of_mem _ m3))) (List.mem_cons_of_mem _ (List.mem_cons_of_mem _ (List.mem_cons_of_mem _ m6))) (by omega) (by omega)) ?_;rintro _ _ _ ⟨i4,a4,c4,ts4,rfl,h4,rfl,rfl⟩;refine aL ?_)
 repeat refine aB ?_
 (refine aU rfl (mZ h4 (List.mem_cons_of_mem _ List.mem_cons_self) List.mem_cons_self (by omega) (by omega)) ?_;rintro _ _ _ ⟨i5,a5,c5,ts5,rfl,h5,rfl,rfl⟩;refine aL ?_)
 repeat refine aB ?_
 refine gD rfl rfl (⟨i5,a5,c5,ts5,rfl,h5.sub (Nat.le_refl _) (fun p hp=>by
  rcases List.mem_cons.1 hp with rfl|hp
  ·exact List.mem_cons_self
  ·exact List.mem_cons_of_mem _ (List.mem_cons_of_mem _ (List.mem_cons_of_mem _ (List.mem_cons_of_mem _ (List.mem_cons_of_mem _ hp))))),rfl,rfl⟩)
end
end Go.Proofs.YtgpkjcmipiodcaaGreat
namespace Go.Fx
section
variable {P:Program} {n:Nat} {Q:Exit→Act→World→Prop} {G:Env} {X:List Nat} {w0:World} {M M1:List Ent} {I I1:List aV} {l:List Oper}
theorem aOM {e:Exit} {G':Env} {M':List Ent} {I':List aV} (s:Sub G G') (hM:SubP M M') (hI:Inc I I') (h:ND n Q e G' X w0 M' I'):ND n Q e G X w0 M I:=⟨fun w hw=>⟨fun a ha=>(h.go w (hw.weak hM hI)).go a (ha.sub s)⟩⟩
theorem bE {ops:List Oper} {m:Go.Fx.Mode} {G':Env} {M':List Ent} {I':List aV} {Cs:Nat→World→Prop} {R:Nat→Nat→Array Bool→Exit→Act→World→Prop} {f k:Nat} {ls:Array Bool} (hR:∀f k ls,R f k ls=Go.Fx.Rest P l Q Cs f k ls) (h:ND n (R f k ls) .normal G' X w0 M' I') (s:Sub G G':=by exact dS) (hM:SubP M M':=by exact aG) (hI:Inc I I':=by exact aF):RD P n ops (Go.Fx.Rest P l Q Cs f k ls) m [] G X w0 M I:=aT (by rw [←hR];exact aOM s hM hI h)
theorem aSN {id:Nat} (M1:List Ent) (I1:List aV) (hx:P.follows .mixedOrders=true) (h:∀R:Nat→Nat→Array Bool→Exit→Act→World→Prop,(∀f k ls,R f k ls=Go.Fx.Rest P l Q (vL X w0 M1 I1) f k ls)→ND n (R l.length 0 (Array.replicate l.length false)) .normal G X w0 M I):TD P n (.region id l.toArray true) Q G X w0 M I:=
 lG M1 I1 hx (h (fun f k ls=>Go.Fx.Rest P l Q (vL X w0 M1 I1) f k ls) (fun _ _ _=>rfl))
theorem uS {fuel k i j m o:Nat} {listed:Array Bool} (hr:(Region.ready .any l.toArray listed==[i,j,m,o] && tK l.toArray i && tK l.toArray j && tK l.toArray m && tK l.toArray o)=true)
  (h1:RD P n l (Go.Fx.Rest P l Q (vL X w0 M1 I1) fuel (k+1) (listed.setIfInBounds i true)) (.any (vL X w0 M1 I1) k []) (pick l [i]) G X w0 M I)
  (h2:RD P n l (Go.Fx.Rest P l Q (vL X w0 M1 I1) fuel (k+1) (listed.setIfInBounds j true)) (.any (vL X w0 M1 I1) k []) (pick l [j]) G X w0 M I)
  (h3:RD P n l (Go.Fx.Rest P l Q (vL X w0 M1 I1) fuel (k+1) (listed.setIfInBounds m true)) (.any (vL X w0 M1 I1) k []) (pick l [m]) G X w0 M I)
  (h4:RD P n l (Go.Fx.Rest P l Q (vL X w0 M1 I1) fuel (k+1) (listed.setIfInBounds o true)) (.any (vL X w0 M1 I1) k []) (pick l [o]) G X w0 M I):ND n (Go.Fx.Rest P l Q (vL X w0 M1 I1) (fuel+1) k listed) .normal G X w0 M I:=⟨fun w hw=>⟨fun a ha=>by
 simp only [Bool.and_eq_true,beq_iff_eq] at hr
 obtain ⟨⟨⟨⟨hr,e1⟩,e2⟩,e3⟩,e4⟩:=hr
 have get:∀x,tK l.toArray x=true→∃o,l.toArray[x]?=some o∧iM o.op=false:=fun x hx=>by
  unfold tK at hx
  cases ho:l.toArray[x]? with
  |none=>simp [ho] at hx
  |some o=>simp [ho] at hx;exact ⟨o,rfl,hx⟩
 obtain ⟨o1,ho1,hk1⟩:=get i e1
 obtain ⟨o2,ho2,hk2⟩:=get j e2
 obtain ⟨o3,ho3,hk3⟩:=get m e3
 obtain ⟨o4,ho4,hk4⟩:=get o e4
 refine ⟨fun h0=>(by rw [hr] at h0;cases h0),fun x hx=>?_⟩
 rw [hr] at hx
 simp only [List.mem_cons,List.not_mem_nil,or_false] at hx
 rcases hx with rfl|rfl|rfl|rfl
 ·exact pM ho1 hk1 ((h1.go w hw).go a ha)
 ·exact pM ho2 hk2 ((h2.go w hw).go a ha)
 ·exact pM ho3 hk3 ((h3.go w hw).go a ha)
 ·exact pM ho4 hk4 ((h4.go w hw).go a ha)⟩⟩
end
end Go.Fx

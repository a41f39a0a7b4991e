/- The reference's network: small, has, Axes, quaternion, point, station. -/
import Derived.Test.YtgpkjcmipiodcaaGreatZwaw
import Derived.Test.YtgpkjcmipiodcaaGreatZwan
import Derived.Test.YtgpkjcmipiodcaaGreatZwar
import Derived.Test.YtgpkjcmipiodcaaGreatZwaq
set_option linter.unusedSimpArgs false
set_option linter.unusedVariables false
set_option maxRecDepth 100000
set_option maxHeartbeats 4000000
namespace Go.Proofs.YtgpkjcmipiodcaaGreat
open Go Go.Fx
def IlQ (l:List Int) (M0:List Ent) (I0:List aV) (v:Value) (M:List Ent) (I:List aV):Prop:=M0=M∧∃p c,v= .slice p l.length c∧aI p (recs (eI .i64) l)::I0=I
def xS (d w:Int):List Int:=if d=2 then (if w=0 then [0,2,4] else [0,2]) else (if w=0 then [0,1,2,3,4,5] else [0,1,2])
section
variable {X:List Nat} {w0:World} {M0 M1:List Ent} {I0:List aV}
theorem aAT {p:Option Addr} {c:Nat} {l:List Int} {m:Int} (hm:0≤m∧m≤4611686018427387904) (hl:l.length≤1000) (h:aI p (recs (eI .i64) l)∈I0):
  CD Tryz.prog 22 [.slice p l.length c, .int .i64 m] X w0 M0 I0 (fun v M I=>M0=M∧I0=I∧v= .bool (B (∀x∈l, -m≤x∧x≤m))):=by
 obtain ⟨n,hn⟩:∃n,l.length=n:=⟨_,rfl⟩
 refine aP Tryz.func22 rfl Tryz.ntmps22 rfl ?_
 rw [hn]
 repeat refine aB ?_
 refine kS [0,1] rfl (fun k G M I=>∃i:Nat,i≤n∧k=n - i∧(∀j:Nat,j < i→ -m≤gt l (j:Int)∧gt l (j:Int)≤m)∧G=[(5, .int .i64 (i:Int))]∧M0=M∧I0=I) (n) (⟨0,by omega,rfl,fun j hj=>absurd hj (by omega),rfl,rfl,rfl⟩) ?_
 rintro kk G M I ⟨i,hi,rfl,hs,rfl,rfl,rfl⟩
 by_cases hin:i < n
 ·have hgm:=bJ (ms:=l) (i:=(i:Int)) ⟨by omega,by omega⟩
  obtain ⟨z,hz⟩:∃z,gt l (i:Int)=z:=⟨_,rfl⟩
  rw [hz] at hgm
  by_cases h1:z < -m
  ·repeat refine aB ?_
   rw [hz]
   repeat refine aB ?_
   refine aH (by first|exact .inl rfl|exact .inr rfl) rfl rfl _ _ aG aF (⟨rfl,rfl,by rw [bF (fun h=>by have:=h z hgm;omega)]⟩)
  by_cases h2:m < z
  ·repeat refine aB ?_
   rw [hz]
   repeat refine aB ?_
   refine aH (by first|exact .inl rfl|exact .inr rfl) rfl rfl _ _ aG aF (⟨rfl,rfl,by rw [bF (fun h=>by have:=h z hgm;omega)]⟩)
  ·repeat refine aB ?_
   rw [hz]
   repeat refine aB ?_
   refine iC (n - (i+1)) (⟨i+1,by omega,rfl,fun j hj=>?_,rfl,rfl,rfl⟩)
   by_cases e:j=i
   ·subst e;rw [hz];omega
   ·exact hs j (by omega)
 obtain rfl:i=n:=by omega
 repeat refine aB ?_
 refine aH (by first|exact .inl rfl|exact .inr rfl) rfl rfl _ _ aG aF (⟨rfl,rfl,by rw [cB (fun x hx=>by
  obtain ⟨j,hj,rfl⟩:=List.mem_iff_getElem.1 hx
  rw [←eU hj]
  exact hs j (by omega))]⟩)
theorem aXW {p:Option Addr} {c:Nat} {l:List Int} {m:Int} (hl:l.length≤1000) (h:aI p (recs (eI .i64) l)∈I0):
  CD Tryz.prog 57 [.slice p l.length c, .int .i64 m] X w0 M0 I0 (fun v M I=>M0=M∧I0=I∧∃b:Bool,v= .bool b):=by
 obtain ⟨n,hn⟩:∃n,l.length=n:=⟨_,rfl⟩
 refine aP Tryz.func57 rfl Tryz.ntmps57 rfl ?_
 rw [hn]
 repeat refine aB ?_
 refine kS [0,1] rfl (fun k G M I=>∃i:Nat,i≤n∧k=n - i∧G=[(5, .int .i64 (i:Int))]∧M0=M∧I0=I) (n) (⟨0,by omega,rfl,rfl,rfl,rfl⟩) ?_
 rintro kk G M I ⟨i,hi,rfl,rfl,rfl,rfl⟩
 by_cases hin:i < n
 ·obtain ⟨z,hz⟩:∃z,gt l (i:Int)=z:=⟨_,rfl⟩
  by_cases h1:z=m
  ·repeat refine aB ?_
   rw [hz]
   repeat refine aB ?_
   refine aH (by first|exact .inl rfl|exact .inr rfl) rfl rfl _ _ aG aF (⟨rfl,rfl,_,rfl⟩)
  ·repeat refine aB ?_
   rw [hz]
   repeat refine aB ?_
   refine iC (n - (i+1)) (⟨i+1,by omega,rfl,rfl,rfl,rfl⟩)
 obtain rfl:i=n:=by omega
 repeat refine aB ?_
 refine aH (by first|exact .inl rfl|exact .inr rfl) rfl rfl _ _ aG aF (⟨rfl,rfl,_,rfl⟩)
theorem aOW {i n:Int}:CD Tryz.prog 56 [.int .i64 i, .int .i64 n] X w0 M0 I0 (fun v M I=>M0=M∧I0=I∧v= .bool (B (0≤i∧i < n))):=by
 refine aP Tryz.func56 rfl Tryz.ntmps56 rfl ?_
 by_cases h:0≤i
 ·repeat refine aB ?_
  refine gD rfl rfl (⟨rfl,rfl,congrArg Value.bool (gU ⟨fun e=>⟨h,e⟩,fun e=>e.2⟩)⟩)
 ·repeat refine aB ?_
  refine aH (by first|exact .inl rfl|exact .inr rfl) rfl rfl _ _ aG aF (⟨rfl,rfl,by rw [bF (p:=0≤i∧i < n) (fun e=>h e.1)]⟩)
theorem aPH {q:Qn}:CD Tryz.prog 119 [qv q] X w0 M0 I0 (IlQ [q.a,q.b,q.c,q.d] M0 I0):=by
 refine aZ Tryz.func119 rfl Tryz.ntmps119 rfl ?_
 refine fE ?_
 refine fG rfl (fun b1=>?_)
 refine aC (cs:=eQ q) .here ?_
 repeat refine aB ?_
 refine lL (cs:=recs (eI .i64) [q.a,q.b,q.c,q.d]) ([.int .i64 q.a, .int .i64 q.b, .int .i64 q.c, .int .i64 q.d]) rfl (fun b23=>?_)
 repeat refine aB ?_
 refine iZ .here ?_
 refine gD rfl rfl (⟨rfl,some ⟨b23,0,none⟩,4,rfl,rfl⟩)
theorem aLO {q:Qn}:CD Tryz.prog 55 [qv q] X w0 M0 I0 (fun v M I=>M0=M∧I0=I∧∃e:Int,v= .int .i64 e∧(e=0→q.nz∧q.fit)):=by
 refine aZ Tryz.func55 rfl Tryz.ntmps55 rfl ?_
 refine fE ?_
 refine fG rfl (fun b1=>?_)
 refine aC (cs:=eQ q) .here ?_
 repeat refine aB ?_
 by_cases hz:q.a=0∧q.b=0∧q.c=0∧q.d=0
 ·obtain ⟨h1,h2,h3,h4⟩:=hz
  repeat refine aB ?_
  refine aH (by first|exact .inl rfl|exact .inr rfl) rfl rfl _ _ aG aF (⟨rfl,rfl,1,rfl,fun h=>absurd h (by decide)⟩)
 have hq:q.nz:=Qn.nz_iff.2 hz
 refine aHH (fun G M I=>G=[(1, .pointer (some ⟨b1,0,none⟩))]∧M0=M∧aI (some ⟨b1,0,none⟩) (eQ q)::I0=I) ?_ ?_
 ·by_cases h1:q.a=0
  ·by_cases h2:q.b=0
   ·by_cases h3:q.c=0
    ·have h4:q.d≠0:=fun h4=>hz ⟨h1,h2,h3,h4⟩
     repeat refine aB ?_
     exact lU _ _ _ dS aG aF ⟨rfl,rfl,rfl⟩
    ·repeat refine aB ?_
     exact lU _ _ _ dS aG aF ⟨rfl,rfl,rfl⟩
   ·repeat refine aB ?_
    exact lU _ _ _ dS aG aF ⟨rfl,rfl,rfl⟩
  ·repeat refine aB ?_
   exact lU _ _ _ dS aG aF ⟨rfl,rfl,rfl⟩
 rintro G M I ⟨rfl,rfl,rfl⟩
 repeat refine aB ?_
 (refine aU rfl (aPH) ?_;rintro _ _ _ ⟨rfl,p,c,rfl,rfl⟩;refine aL ?_)
 obtain ⟨l,hl⟩:∃l,[q.a,q.b,q.c,q.d]=l:=⟨_,rfl⟩
 have hll:l.length=4:=by rw [←hl];rfl
 rw [hl]
 repeat refine aB ?_
 refine kS [3] rfl (fun k G M I=>∃i:Nat,i≤4∧k=4 - i∧(∀j:Nat,j < i→ -1048576≤gt l (j:Int)∧gt l (j:Int)≤1048576)∧G=[(4, .int .i64 (i:Int))]∧M0=M∧aI p (recs (eI .i64) l)::aI (some ⟨b1,0,none⟩) (eQ q)::I0=I) (4) (⟨0,by omega,rfl,fun j hj=>absurd hj (by omega),rfl,rfl,rfl⟩) ?_
 rintro kk G M I ⟨i,hi,rfl,hs,rfl,rfl,rfl⟩
 by_cases hin:i < 4
 ·obtain ⟨z,hz⟩:∃z,gt l (i:Int)=z:=⟨_,rfl⟩
  by_cases h1:1048576 < z
  ·repeat refine aB ?_
   rw [hz]
   repeat refine aB ?_
   refine aH (by first|exact .inl rfl|exact .inr rfl) rfl rfl _ _ aG aF (⟨rfl,rfl,3,rfl,fun h=>absurd h (by decide)⟩)
  by_cases h2:z < -1048576
  ·repeat refine aB ?_
   rw [hz]
   repeat refine aB ?_
   refine aH (by first|exact .inl rfl|exact .inr rfl) rfl rfl _ _ aG aF (⟨rfl,rfl,3,rfl,fun h=>absurd h (by decide)⟩)
  ·repeat refine aB ?_
   rw [hz]
   repeat refine aB ?_
   refine iC (4 - (i+1)) (⟨i+1,by omega,rfl,fun j hj=>?_,rfl,rfl,rfl⟩)
   by_cases e:j=i
   ·subst e;rw [hz];omega
   ·exact hs j (by omega)
 obtain rfl:i=4:=by omega
 repeat refine aB ?_
 refine gD rfl rfl (⟨rfl,rfl,0,rfl,fun _=>⟨hq,by
  subst hl
  have h0: -1048576≤q.a∧q.a≤1048576:=hs 0 (by omega)
  have h1: -1048576≤q.b∧q.b≤1048576:=hs 1 (by omega)
  have h2: -1048576≤q.c∧q.c≤1048576:=hs 2 (by omega)
  have h3: -1048576≤q.d∧q.d≤1048576:=hs 3 (by omega)
  exact ⟨⟨by omega,by omega⟩,by omega,by omega⟩⟩⟩)
theorem aIG {d w:Int}:CD Tryz.prog 34 [.int .i64 d, .int .i64 w] X w0 M0 I0 (IlQ (xS d w) M0 I0):=by
 refine aP Tryz.func34 rfl Tryz.ntmps34 rfl ?_
 by_cases hd:d=2
 ·by_cases hw:w=0
  ·rw [show xS d w=[0,2,4] by unfold xS;rw [if_pos hd,if_pos hw]]
   repeat refine aB ?_
   refine lL (cs:=recs (eI .i64) [0,2,4]) ([.int .i64 0, .int .i64 2, .int .i64 4]) rfl (fun b23=>?_)
   repeat refine aB ?_
   refine iZ .here ?_
   refine gD rfl rfl (⟨rfl,some ⟨b23,0,none⟩,3,rfl,rfl⟩)
  ·rw [show xS d w=[0,2] by unfold xS;rw [if_pos hd,if_neg hw]]
   repeat refine aB ?_
   refine lL (cs:=recs (eI .i64) [0,2]) ([.int .i64 0, .int .i64 2]) rfl (fun b23=>?_)
   repeat refine aB ?_
   refine iZ .here ?_
   refine gD rfl rfl (⟨rfl,some ⟨b23,0,none⟩,2,rfl,rfl⟩)
 ·by_cases hw:w=0
  ·rw [show xS d w=[0,1,2,3,4,5] by unfold xS;rw [if_neg hd,if_pos hw]]
   repeat refine aB ?_
   refine lL (cs:=recs (eI .i64) [0,1,2,3,4,5]) ([.int .i64 0, .int .i64 1, .int .i64 2, .int .i64 3, .int .i64 4, .int .i64 5]) rfl (fun b23=>?_)
   repeat refine aB ?_
   refine iZ .here ?_
   refine gD rfl rfl (⟨rfl,some ⟨b23,0,none⟩,6,rfl,rfl⟩)
  ·rw [show xS d w=[0,1,2] by unfold xS;rw [if_neg hd,if_neg hw]]
   repeat refine aB ?_
   refine lL (cs:=recs (eI .i64) [0,1,2]) ([.int .i64 0, .int .i64 1, .int .i64 2]) rfl (fun b23=>?_)
   repeat refine aB ?_
   refine iZ .here ?_
   refine gD rfl rfl (⟨rfl,some ⟨b23,0,none⟩,3,rfl,rfl⟩)
theorem aPZ {d:Int} {p:P3}:CD Tryz.prog 19 [.int .i64 d,p3v p] X w0 M0 I0 (fun v M I=>M0=M∧I0=I∧∃e:Int,v= .int .i64 e∧(e=0→p.Ok)):=by
 refine aP Tryz.func19 rfl Tryz.ntmps19 rfl ?_
 refine fE ?_
 refine fG rfl (fun b1=>?_)
 refine aC (cs:=gP p) .here ?_
 repeat refine aB ?_
 refine lL (cs:=recs (eI .i64) [p.x,p.y,p.z]) ([.int .i64 p.x, .int .i64 p.y, .int .i64 p.z]) rfl (fun b23=>?_)
 refine aC .here ?_
 (refine aU rfl (aAT (l:=[p.x,p.y,p.z]) (m:=1048576) (by decide) (show 3≤1000 by omega) aA) ?_;rintro _ _ _ ⟨rfl,rfl,rfl⟩;refine aL ?_)
 by_cases hs:∀x∈[p.x,p.y,p.z], -1048576≤x∧x≤1048576
 ·rw [cB hs]
  have hok:p.Ok:=⟨hs _ (by simp),hs _ (by simp),hs _ (by simp)⟩
  clear hs
  by_cases hd:d=2
  ·by_cases hy:p.y=0
   ·repeat refine aB ?_
    refine gD rfl rfl (⟨rfl,rfl,0,rfl,fun _=>hok⟩)
   ·repeat refine aB ?_
    refine gD rfl rfl (⟨rfl,rfl,1,rfl,fun _=>hok⟩)
  ·repeat refine aB ?_
   refine gD rfl rfl (⟨rfl,rfl,0,rfl,fun _=>hok⟩)
 ·rw [bF hs]
  clear hs
  repeat refine aB ?_
  refine aH (by first|exact .inl rfl|exact .inr rfl) rfl rfl _ _ aG aF (⟨rfl,rfl,2,rfl,fun h=>absurd h (by decide)⟩)
theorem aKL {d:Int} {s:ST}:CD Tryz.prog 18 [.int .i64 d,stv s] X w0 M0 I0 (fun v M I=>M0=M∧I0=I∧∃e:Int,v= .int .i64 e∧(e=0→StOk s)):=by
 refine aP Tryz.func18 rfl Tryz.ntmps18 rfl ?_
 refine fE ?_
 refine fG rfl (fun b1=>?_)
 refine aC (cs:=qU s) .here ?_
 repeat refine aB ?_
 refine lL (cs:=recs (eI .i64) [s.x,s.y,s.z,s.cx,s.cy]) ([.int .i64 s.x, .int .i64 s.y, .int .i64 s.z, .int .i64 s.cx, .int .i64 s.cy]) rfl (fun b23=>?_)
 refine aC .here ?_
 (refine aU rfl (aAT (l:=[s.x,s.y,s.z,s.cx,s.cy]) (m:=1048576) (by decide) (show 5≤1000 by omega) aA) ?_;rintro _ _ _ ⟨rfl,rfl,rfl⟩;refine aL ?_)
 by_cases hs:∀x∈[s.x,s.y,s.z,s.cx,s.cy], -1048576≤x∧x≤1048576
 ·rw [cB hs]
  have o1:=hs s.x (by simp)
  have o2:=hs s.y (by simp)
  have o3:=hs s.z (by simp)
  have o4:=hs s.cx (by simp)
  have o5:=hs s.cy (by simp)
  clear hs
  by_cases hf:s.f < 1
  ·repeat refine aB ?_
   refine aH (by first|exact .inl rfl|exact .inr rfl) rfl rfl _ _ aG aF (⟨rfl,rfl,2,rfl,fun h=>absurd h (by decide)⟩)
  by_cases hf2:1048576 < s.f
  ·repeat refine aB ?_
   refine aH (by first|exact .inl rfl|exact .inr rfl) rfl rfl _ _ aG aF (⟨rfl,rfl,2,rfl,fun h=>absurd h (by decide)⟩)
  repeat refine aB ?_
  (refine aU rfl (aLO (q:=s.q)) ?_;rintro _ _ _ ⟨rfl,rfl,e,rfl,he⟩;refine aL ?_)
  by_cases h0:e=0
  ·subst h0
   have hok:StOk s:=⟨o1,o2,o3,(he rfl).1,(he rfl).2,⟨by omega,by omega⟩,o4,o5⟩
   by_cases hd:d=2
   ·by_cases c1:s.y=0
    ·by_cases c2:s.cy=0
     ·by_cases c3:s.q.b=0
      ·by_cases c4:s.q.d=0
       all_goals
        repeat refine aB ?_
        refine aH (by first|exact .inl rfl|exact .inr rfl) rfl rfl _ _ aG aF (⟨rfl,rfl,_,rfl,fun _=>hok⟩)
      ·repeat refine aB ?_
       refine aH (by first|exact .inl rfl|exact .inr rfl) rfl rfl _ _ aG aF (⟨rfl,rfl,_,rfl,fun _=>hok⟩)
     ·repeat refine aB ?_
      refine aH (by first|exact .inl rfl|exact .inr rfl) rfl rfl _ _ aG aF (⟨rfl,rfl,_,rfl,fun _=>hok⟩)
    ·repeat refine aB ?_
     refine aH (by first|exact .inl rfl|exact .inr rfl) rfl rfl _ _ aG aF (⟨rfl,rfl,_,rfl,fun _=>hok⟩)
   ·repeat refine aB ?_
    refine gD rfl rfl (⟨rfl,rfl,0,rfl,fun _=>hok⟩)
  ·repeat refine aB ?_
   refine gD rfl rfl (⟨rfl,rfl,e,rfl,fun h=>absurd h h0⟩)
 ·rw [bF hs]
  clear hs
  repeat refine aB ?_
  refine aH (by first|exact .inl rfl|exact .inr rfl) rfl rfl _ _ aG aF (⟨rfl,rfl,2,rfl,fun h=>absurd h (by decide)⟩)
end
end Go.Proofs.YtgpkjcmipiodcaaGreat
namespace Go.Fx
open Go
section
variable {P:Program}
def aLB (P:Program) (d:Nat) (f:Field) (xs ys:Array Value) (c:Bool):Prop:=∀w,∃a b:Value,(part f.type xs f.offset).run P w= .ok a w∧(part f.type ys f.offset).run P w= .ok b w∧(Op.equalIn d f.type a b).run P w= .ok c w
theorem xW (d:Nat) (xs ys:Array Value):∀fs:List Field,(∀f∈fs,(f.name== "_")=false∧∃c,aLB P d f xs ys c)→∃c,∀w,(Op.eqFields d xs ys fs).run P w= .ok c w
 |[],_=>⟨true,fun w=>by simp [Op.eqFields]⟩
 |f::fs,h=>by
  obtain ⟨c2,h2⟩:=xW d xs ys fs (fun g hg=>h g (List.mem_cons_of_mem _ hg))
  obtain ⟨h0,c1,h1⟩:=h f List.mem_cons_self
  have h1':f.name≠ "_":=by simpa using h0
  cases c1 with
  |false=>exact ⟨false,fun w=>by
    obtain ⟨a,b,e1,e2,e3⟩:=h1 w
    simp only [Op.eqFields,if_pos h1',Sem.run_bind,e1,e2,Result.andThen_ok,e3]
    simp⟩
  |true=>exact ⟨c2,fun w=>by
    obtain ⟨a,b,e1,e2,e3⟩:=h1 w
    simp only [Op.eqFields,if_pos h1',Sem.run_bind,e1,e2,Result.andThen_ok,e3]
    simp [h2 w]⟩
theorem rT {d:Nat} {f:Field} {xs ys:Array Value} {a b:Int} (hu:P.underlying f.type=some (.int .i64)) (hx:xs[f.offset]?=some (.int .i64 a)) (hy:ys[f.offset]?=some (.int .i64 b)):aLB P (d+1) f xs ys (decide (a=b)):=fun w=>by
 have hag:(isAgg f.type).run P w= .ok false w:=by simp [isAgg,dM hu]
 refine ⟨.int .i64 a, .int .i64 b,?_,?_,?_⟩
 ·simp [part,hag,hx]
 ·simp [part,hag,hy]
 ·rw [run_equalIn_int (P:=P) w d f.type .i64 .i64 a b hu];rfl
theorem aME {d m:Nat} {f:Field} {xs ys:Array Value} {us vs:List Int} [ha:AggTy P f.type m] [hi:IntArr P f.type m] (hx:xs.extract f.offset (f.offset+m)=(sW us).toArray) (hy:ys.extract f.offset (f.offset+m)=(sW vs).toArray) (lx:us.length=m) (ly:vs.length=m):aLB P (d+2) f xs ys (decide (us=vs)):=fun w=>by
 refine ⟨kv us,kv vs,?_,?_,?_⟩
 ·simp only [part,Sem.run_bind,jS,Result.andThen_ok,if_pos,run_sizeOf ha.size,hx];rfl
 ·simp only [part,Sem.run_bind,jS,Result.andThen_ok,if_pos,run_sizeOf ha.size,hy];rfl
 ·exact aGM d us vs lx ly w
end
end Go.Fx
namespace Go.Proofs.YtgpkjcmipiodcaaGreat
open Go Go.Fx
instance arr2I:IntArr Tryz.prog 71 2:=⟨by
 obtain ⟨i,hi⟩:=Option.isSome_iff_exists.1 (show (Tryz.prog.info? 3).isSome=true by kernel_rfl)
 exact ⟨_,i,Tryz.underlying71,Tryz.underlying3,hi,by kernel_rfl⟩,by kernel_rfl⟩
theorem obF:(Tryz.prog.fieldsOf 73).toList.map (fun f=>(f.name== "_",f.offset,f.type))=[(false,0,70),(false,1,3),(false,2,3),(false,3,3),(false,4,71),(false,6,3)]:=by kernel_rfl
theorem obU:Tryz.prog.underlying 73=some (.struct (Tryz.prog.fieldsOf 73)):=by kernel_rfl
theorem obH:Tryz.prog.stoodInHeld 73=false:=by kernel_rfl
theorem obG:Tryz.prog.eqGuardType Tryz.prog.depth 73=false:=by kernel_rfl
theorem aUY (o p:OB):∃c,∀w,(Op.equalIn 10000 73 (obv o) (obv p)).run Tryz.prog w= .ok c w:=by
 obtain ⟨c,hc⟩:=xW (P:=Tryz.prog) 9999 (jU o).toArray (jU p).toArray (Tryz.prog.fieldsOf 73).toList (fun f hf=>by
  have h:=List.mem_map_of_mem (f:=fun f:Field=>(f.name== "_",f.offset,f.type)) hf
  rw [obF] at h
  simp only [List.mem_cons,List.not_mem_nil,or_false,Prod.mk.injEq] at h
  have hI:=Tryz.underlying3
  have hK:=Tryz.underlying70
  rcases h with ⟨h1,h2,h3⟩|⟨h1,h2,h3⟩|⟨h1,h2,h3⟩|⟨h1,h2,h3⟩|⟨h1,h2,h3⟩|⟨h1,h2,h3⟩
  ·exact ⟨h1,_,rT (d:=9998) (by rw [h3];exact hK) (by rw [h2];rfl) (by rw [h2];rfl)⟩
  ·exact ⟨h1,_,rT (d:=9998) (by rw [h3];exact hI) (by rw [h2];rfl) (by rw [h2];rfl)⟩
  ·exact ⟨h1,_,rT (d:=9998) (by rw [h3];exact hI) (by rw [h2];rfl) (by rw [h2];rfl)⟩
  ·exact ⟨h1,_,rT (d:=9998) (by rw [h3];exact hI) (by rw [h2];rfl) (by rw [h2];rfl)⟩
  ·have i1:AggTy Tryz.prog f.type 2:=by rw [h3];exact inferInstance
   have i2:IntArr Tryz.prog f.type 2:=by rw [h3];exact inferInstance
   exact ⟨h1,_,aME (d:=9997) (m:=2) (us:=[o.v,o.w]) (vs:=[p.v,p.w]) (by rw [h2];rfl) (by rw [h2];rfl) rfl rfl⟩
  ·exact ⟨h1,_,rT (d:=9998) (by rw [h3];exact hI) (by rw [h2];rfl) (by rw [h2];rfl)⟩)
 refine ⟨c,fun w=>?_⟩
 rw [show (10000:Nat)=9999+1 from rfl,run_equalIn_struct w 9999 _ _ _ obU obH]
 exact hc w
theorem aLX (o p:OB):∃b:Bool,∀(n:Nat) (G:Env) (C:World→Prop) (ty t':TypeId) (x y:Operand),ev G x=some (obv o)→ev G y=some (obv p)→Const Tryz.prog n G (.binOp .eql 73 x y t') ty C (.bool b):=by
 obtain ⟨c,hc⟩:=aUY o p
 refine ⟨c,fun n G C ty t' x y hx hy=>⟨?_⟩⟩
 intro s ha dst pos after guard w _
 have e1:=run_eqGuard_agg (P:=Tryz.prog) w .eql 73 x y (jU o).toArray (jU p).toArray obG
 simp only [execOp,ha.ev hx,ha.ev hy,Sem.run_bind,e1,Result.andThen_ok,run_eql_struct,hc w,Sem.run_pure]
end Go.Proofs.YtgpkjcmipiodcaaGreat
namespace Go.Fx
theorem aDR {P:Program} {n:Nat} {ops l:List Oper} {Q1 Q2:Exit→Act→World→Prop} {m:Fx.Mode} {G:Env} {X:List Nat} {w0:World} {M:List Ent} {I:List aV} {c y:Code} (J:Env→List Ent→List aV→Prop) (h:RD P n ops (Then (c.wp P (Then (aPQ n J X w0) Q1)) Q2) m l G X w0 M I) (k:∀G' M' I',J G' M' I'→TD P n y Q1 G' X w0 M' I'):RD P n ops (Then ((Code.seq c y).wp P Q1) Q2) m l G X w0 M I:=
 ⟨fun w hw=>⟨fun a ha=>tT (fun a w q=>by
  unfold Then at q ⊢
  refine wp_seq ?_
  refine Code.wp_mono (fun e a w q=>?_) q
  cases e <;>first|exact q|(obtain ⟨G',⟨M',I',hJ,hm⟩,hh⟩:=q;exact ((k G' M' I' hJ).go w hm).go a hh)) l m a w ((h.go w hw).go a ha)⟩⟩
end Go.Fx
namespace Go.Proofs.YtgpkjcmipiodcaaGreat
open Go Go.Fx
section
variable {X:List Nat} {w0:World} {M0 M1:List Ent} {I0:List aV}
theorem aIN {x:NX} {o:OB}:CD Tryz.prog 20 [nxv x,obv o] X w0 M0 I0 (fun v M I=>M0=M∧I0=I∧∃b:Bool,v= .bool b∧(o.k=0→b=false→(0≤o.a∧o.a < x.S.length)∧(0≤o.b∧o.b < x.P.length))):=by
 have hI:=fun (i n:Int) M0 I0=>aOW (X:=X) (w0:=w0) (M0:=M0) (I0:=I0) (i:=i) (n:=n)
 refine aP Tryz.func20 rfl Tryz.ntmps20 rfl ?_
 refine fE ?_
 refine fG rfl (fun b2=>?_)
 refine aC (cs:=nO x) .here ?_
 refine fG rfl (fun b3=>?_)
 refine aC (cs:=jU o) .here ?_
 repeat refine aB ?_
 (repeat refine aJ ?_);refine vT ([]) (aI (some ⟨b2,0,none⟩) (nO x)::[]) [0,1,2,3,4,5,6,7] [0,0,0,0,0,0,0,0] mixed ?_
 by_cases k0:o.k=0
 ·repeat refine aB ?_
  (refine aU rfl (hI o.a x.S.length _ _) ?_;rintro _ _ _ ⟨rfl,rfl,rfl⟩;refine aL ?_)
  by_cases h1:0≤o.a∧o.a < x.S.length
  ·rw [cB h1]
   repeat refine aB ?_
   (refine aU rfl (hI o.b x.P.length _ _) ?_;rintro _ _ _ ⟨rfl,rfl,rfl⟩;refine aL ?_)
   by_cases h2:0≤o.b∧o.b < x.P.length
   ·rw [cB h2]
    repeat refine aB ?_
    refine gD rfl rfl (⟨rfl,rfl,false,rfl,fun _ _=>⟨h1,h2⟩⟩)
   ·rw [bF h2]
    repeat refine aB ?_
    refine aH (by first|exact .inl rfl|exact .inr rfl) rfl rfl _ _ aG aF (⟨rfl,rfl,true,rfl,fun _ h=>absurd h (by decide)⟩)
  ·rw [bF h1]
   repeat refine aB ?_
   refine aH (by first|exact .inl rfl|exact .inr rfl) rfl rfl _ _ aG aF (⟨rfl,rfl,true,rfl,fun _ h=>absurd h (by decide)⟩)
 by_cases k1:o.k=1
 ·repeat refine aB ?_
  (refine aU rfl (hI o.b x.P.length _ _) ?_;rintro _ _ _ ⟨rfl,rfl,rfl⟩;refine aL ?_)
  generalize B (0≤o.b∧o.b < x.P.length)=bb
  cases bb
  all_goals
   repeat refine aB ?_
   refine aH (by first|exact .inl rfl|exact .inr rfl) rfl rfl _ _ aG aF (⟨rfl,rfl,_,rfl,fun h=>absurd h k0⟩)
 by_cases k2:o.k=2
 ·repeat refine aB ?_
  (refine aU rfl (hI o.a x.S.length _ _) ?_;rintro _ _ _ ⟨rfl,rfl,rfl⟩;refine aL ?_)
  generalize B (0≤o.a∧o.a < x.S.length)=bb
  cases bb
  all_goals
   repeat refine aB ?_
   refine aH (by first|exact .inl rfl|exact .inr rfl) rfl rfl _ _ aG aF (⟨rfl,rfl,_,rfl,fun h=>absurd h k0⟩)
 by_cases k3:o.k=3
 ·repeat refine aB ?_
  (refine aU rfl (hI o.a x.P.length _ _) ?_;rintro _ _ _ ⟨rfl,rfl,rfl⟩;refine aL ?_)
  generalize B (0≤o.a∧o.a < x.P.length)=bb
  cases bb
  ·repeat refine aB ?_
   refine aH (by first|exact .inl rfl|exact .inr rfl) rfl rfl _ _ aG aF (⟨rfl,rfl,_,rfl,fun h=>absurd h k0⟩)
  ·repeat refine aB ?_
   (refine aU rfl (hI o.b x.P.length _ _) ?_;rintro _ _ _ ⟨rfl,rfl,rfl⟩;refine aL ?_)
   generalize B (0≤o.b∧o.b < x.P.length)=bb
   cases bb
   all_goals
    repeat refine aB ?_
    refine aH (by first|exact .inl rfl|exact .inr rfl) rfl rfl _ _ aG aF (⟨rfl,rfl,_,rfl,fun h=>absurd h k0⟩)
 by_cases kb:o.b= -1
 ·repeat refine aB ?_
  (refine aU rfl (hI o.a x.S.length _ _) ?_;rintro _ _ _ ⟨rfl,rfl,rfl⟩;refine aL ?_)
  generalize B (0≤o.a∧o.a < x.S.length)=bb
  cases bb
  all_goals
   repeat refine aB ?_
   refine aH (by first|exact .inl rfl|exact .inr rfl) rfl rfl _ _ aG aF (⟨rfl,rfl,_,rfl,fun h=>absurd h k0⟩)
 ·repeat refine aB ?_
  (refine aU rfl (hI o.b x.P.length _ _) ?_;rintro _ _ _ ⟨rfl,rfl,rfl⟩;refine aL ?_)
  generalize B (0≤o.b∧o.b < x.P.length)=bb
  cases bb
  all_goals
   repeat refine aB ?_
   refine aH (by first|exact .inl rfl|exact .inr rfl) rfl rfl _ _ aG aF (⟨rfl,rfl,_,rfl,fun h=>absurd h k0⟩)
theorem aXO {d:Int} {o:OB}:CD Tryz.prog 21 [.int .i64 d,obv o] X w0 M0 I0 (fun v M I=>M0=M∧I0=I∧∃b:Bool,v= .bool b∧(o.k=0→b=false→o.x=0)):=by
 have hA:=fun (w:Int) M0 I0=>aIG (X:=X) (w0:=w0) (M0:=M0) (I0:=I0) (d:=d) (w:=w)
 have hal:∀w,(xS d w).length≤1000:=fun w=>by unfold xS;split <;>split <;>decide
 have hH:=fun (w:Int) p c M0 I0 h=>aXW (X:=X) (w0:=w0) (M0:=M0) (I0:=I0) (p:=p) (c:=c) (l:=xS d w) (m:=o.x) (hal w) h
 refine aP Tryz.func21 rfl Tryz.ntmps21 rfl ?_
 refine fE ?_
 refine fG rfl (fun b3=>?_)
 refine aC (cs:=jU o) .here ?_
 refine aDR (fun G M I=>∃sec:Bool,G=[(0, .int .i64 d),(3, .pointer (some ⟨b3,0,none⟩)),(5, .bool sec)]∧M0=M∧aI (some ⟨b3,0,none⟩) (jU o)::I0=I) ?_ ?_
 ·by_cases h1:o.w=0
  ·repeat refine aB ?_
   exact lU _ _ _ dS aG aF ⟨_,rfl,rfl,rfl⟩
  by_cases h2:o.k=0
  ·by_cases h3:d=2
   all_goals
    repeat refine aB ?_
    exact lU _ _ _ dS aG aF ⟨_,rfl,rfl,rfl⟩
  ·repeat refine aB ?_
   exact lU _ _ _ dS aG aF ⟨_,rfl,rfl,rfl⟩
 rintro G M I ⟨sec,rfl,rfl,rfl⟩
 by_cases k0:o.k=0
 ·by_cases hx:o.x=0
  ·cases sec
   all_goals
    repeat refine aB ?_
    refine aH (by first|exact .inl rfl|exact .inr rfl) rfl rfl _ _ aG aF (⟨rfl,rfl,_,rfl,fun _ _=>hx⟩)
  ·repeat refine aB ?_
   refine aH (by first|exact .inl rfl|exact .inr rfl) rfl rfl _ _ aG aF (⟨rfl,rfl,true,rfl,fun _ h=>absurd h (by decide)⟩)
 by_cases k1:o.k=1
 ·skip
  repeat refine aB ?_
  (repeat refine aJ ?_);refine aO 2 [0,2,3,1,4,5,6,7,8,9,10,11,12,13,14] [1,2,1,0,0,0,0,0,0,0,0,0,0,0,0] mixed (by kernel_rfl) ?_
  repeat refine aB ?_
  (refine aU rfl (hA 1 _ _) ?_;rintro _ _ _ ⟨rfl,p,c,rfl,rfl⟩;refine aL ?_)
  repeat refine aB ?_
  (refine aU rfl (hH 1 p c _ _ aA) ?_;rintro _ _ _ ⟨rfl,rfl,bb,rfl⟩;refine aL ?_)
  cases bb
  ·skip
   repeat refine aB ?_
   refine aH (by first|exact .inl rfl|exact .inr rfl) rfl rfl _ _ aG aF (⟨rfl,rfl,_,rfl,fun h=>absurd h k0⟩)
  ·skip
   by_cases hoa:o.a=0
   ·skip
    cases sec
    all_goals
     repeat refine aB ?_
     refine aH (by first|exact .inl rfl|exact .inr rfl) rfl rfl _ _ aG aF (⟨rfl,rfl,_,rfl,fun h=>absurd h k0⟩)
   ·skip
    repeat refine aB ?_
    refine aH (by first|exact .inl rfl|exact .inr rfl) rfl rfl _ _ aG aF (⟨rfl,rfl,_,rfl,fun h=>absurd h k0⟩)
 by_cases k2:o.k=2
 ·skip
  repeat refine aB ?_
  (repeat refine aJ ?_);refine aO 2 [0,2,3,1,4,5,6,7,8,9,10,11,12,13,14] [1,2,1,0,0,0,0,0,0,0,0,0,0,0,0] mixed (by kernel_rfl) ?_
  repeat refine aB ?_
  (refine aU rfl (hA 1 _ _) ?_;rintro _ _ _ ⟨rfl,p,c,rfl,rfl⟩;refine aL ?_)
  repeat refine aB ?_
  (refine aU rfl (hH 1 p c _ _ aA) ?_;rintro _ _ _ ⟨rfl,rfl,bb,rfl⟩;refine aL ?_)
  cases bb
  ·skip
   repeat refine aB ?_
   refine aH (by first|exact .inl rfl|exact .inr rfl) rfl rfl _ _ aG aF (⟨rfl,rfl,_,rfl,fun h=>absurd h k0⟩)
  ·skip
   by_cases hob:o.b=0
   ·skip
    cases sec
    all_goals
     repeat refine aB ?_
     refine aH (by first|exact .inl rfl|exact .inr rfl) rfl rfl _ _ aG aF (⟨rfl,rfl,_,rfl,fun h=>absurd h k0⟩)
   ·skip
    repeat refine aB ?_
    refine aH (by first|exact .inl rfl|exact .inr rfl) rfl rfl _ _ aG aF (⟨rfl,rfl,_,rfl,fun h=>absurd h k0⟩)
 by_cases k3:o.k=3
 ·by_cases hx:o.x=0
  ·by_cases hab:o.a=o.b
   ·skip
    repeat refine aB ?_
    refine aH (by first|exact .inl rfl|exact .inr rfl) rfl rfl _ _ aG aF (⟨rfl,rfl,_,rfl,fun h=>absurd h k0⟩)
   ·cases sec
    all_goals
     repeat refine aB ?_
     refine aH (by first|exact .inl rfl|exact .inr rfl) rfl rfl _ _ aG aF (⟨rfl,rfl,_,rfl,fun h=>absurd h k0⟩)
  ·skip
   repeat refine aB ?_
   refine aH (by first|exact .inl rfl|exact .inr rfl) rfl rfl _ _ aG aF (⟨rfl,rfl,_,rfl,fun h=>absurd h k0⟩)
 by_cases kb:o.b= -1
 ·skip
  repeat refine aB ?_
  (repeat refine aJ ?_);refine aO 2 [0,2,3,1,4,5,6,7,8,9,10,11,12,13,14,15] [1,2,1,0,0,0,0,0,0,0,0,0,0,0,0,0] mixed (by kernel_rfl) ?_
  repeat refine aB ?_
  (refine aU rfl (hA 0 _ _) ?_;rintro _ _ _ ⟨rfl,p,c,rfl,rfl⟩;refine aL ?_)
  repeat refine aB ?_
  (refine aU rfl (hH 0 p c _ _ aA) ?_;rintro _ _ _ ⟨rfl,rfl,bb,rfl⟩;refine aL ?_)
  cases bb
  ·skip
   repeat refine aB ?_
   refine aH (by first|exact .inl rfl|exact .inr rfl) rfl rfl _ _ aG aF (⟨rfl,rfl,_,rfl,fun h=>absurd h k0⟩)
  ·skip
   by_cases hov:o.v=0
   ·skip
    cases sec
    all_goals
     repeat refine aB ?_
     refine aH (by first|exact .inl rfl|exact .inr rfl) rfl rfl _ _ aG aF (⟨rfl,rfl,_,rfl,fun h=>absurd h k0⟩)
   ·skip
    repeat refine aB ?_
    refine aH (by first|exact .inl rfl|exact .inr rfl) rfl rfl _ _ aG aF (⟨rfl,rfl,_,rfl,fun h=>absurd h k0⟩)
 ·skip
  repeat refine aB ?_
  (repeat refine aJ ?_);refine aO 2 [0,2,3,1,4,5,6,7,8,9,10,11,12,13,14,15,16,17,18,19,20] [1,2,1,0,0,0,0,0,0,0,0,0,0,0,0,0,0,0,0,0,0] mixed (by kernel_rfl) ?_
  repeat refine aB ?_
  (refine aU rfl (hA 1 _ _) ?_;rintro _ _ _ ⟨rfl,p,c,rfl,rfl⟩;refine aL ?_)
  repeat refine aB ?_
  (refine aU rfl (hH 1 p c _ _ aA) ?_;rintro _ _ _ ⟨rfl,rfl,bb,rfl⟩;refine aL ?_)
  cases bb
  ·skip
   repeat refine aB ?_
   refine aH (by first|exact .inl rfl|exact .inr rfl) rfl rfl _ _ aG aF (⟨rfl,rfl,_,rfl,fun h=>absurd h k0⟩)
  ·skip
   by_cases hoa:o.a=0
   ·skip
    by_cases hov:o.v=0
    ·skip
     cases sec
     all_goals
      repeat refine aB ?_
      refine aH (by first|exact .inl rfl|exact .inr rfl) rfl rfl _ _ aG aF (⟨rfl,rfl,_,rfl,fun h=>absurd h k0⟩)
    ·skip
     repeat refine aB ?_
     refine aH (by first|exact .inl rfl|exact .inr rfl) rfl rfl _ _ aG aF (⟨rfl,rfl,_,rfl,fun h=>absurd h k0⟩)
   ·skip
    repeat refine aB ?_
    refine aH (by first|exact .inl rfl|exact .inr rfl) rfl rfl _ _ aG aF (⟨rfl,rfl,_,rfl,fun h=>absurd h k0⟩)
end
structure FCk (x:NX):Prop where
 d:x.d=2∨x.d=3
 S:∀s∈x.S,StOk s
 P:∀p∈x.P,p.Ok
 O:∀o∈x.O,o.k=0→ObI x.S.length x.P.length o
 lS:x.S.length≤64
 lP:x.P.length≤256
 lO:x.O.length≤1024
section
variable {X:List Nat} {w0:World} {M0 M1:List Ent} {I0:List aV}
theorem aRI {x:NX} (hS:aI x.pS (recs qU x.S)∈I0) (hP:aI x.pP (recs gP x.P)∈I0) (hO:aI x.pO (recs jU x.O)∈I0):
  CD Tryz.prog 5 [nxv x] X w0 M0 I0 (fun v M I=>M0=M∧I0=I∧∃e:Int,v= .int .i64 e∧(e=0→FCk x)):=by
 have hSt:=fun (s:ST) M0 I0=>aKL (X:=X) (w0:=w0) (M0:=M0) (I0:=I0) (d:=x.d) (s:=s)
 have hPt:=fun (s:P3) M0 I0=>aPZ (X:=X) (w0:=w0) (M0:=M0) (I0:=I0) (d:=x.d) (p:=s)
 have hMi:=fun (o:OB) M0 I0=>aIN (X:=X) (w0:=w0) (M0:=M0) (I0:=I0) (x:=x) (o:=o)
 have hOd:=fun (o:OB) M0 I0=>aXO (X:=X) (w0:=w0) (M0:=M0) (I0:=I0) (d:=x.d) (o:=o)
 obtain ⟨mS,hmS⟩:∃m,x.S.length=m:=⟨_,rfl⟩
 obtain ⟨mP,hmP⟩:∃m,x.P.length=m:=⟨_,rfl⟩
 obtain ⟨mO,hmO⟩:∃m,x.O.length=m:=⟨_,rfl⟩
 refine aZ Tryz.func5 rfl Tryz.ntmps5 rfl ?_
 refine fE ?_
 refine fG rfl (fun b1=>?_)
 refine aC (cs:=nO x) .here ?_
 refine aDR (fun G M I=>(x.d=2∨x.d=3)∧G=[(1, .pointer (some ⟨b1,0,none⟩))]∧M0=M∧aI (some ⟨b1,0,none⟩) (nO x)::I0=I) ?_ ?_
 ·by_cases d2:x.d=2
  ·repeat refine aB ?_
   exact lU _ _ _ dS aG aF ⟨.inl d2,rfl,rfl,rfl⟩
  by_cases d3:x.d=3
  ·repeat refine aB ?_
   exact lU _ _ _ dS aG aF ⟨.inr d3,rfl,rfl,rfl⟩
  repeat refine aB ?_
  refine aH (by first|exact .inl rfl|exact .inr rfl) rfl rfl _ _ aG aF (⟨rfl,rfl,2,rfl,fun h=>absurd h (by decide)⟩)
 rintro G M I ⟨hd,rfl,rfl,rfl⟩
 by_cases lS:64 < mS
 ·repeat refine aB ?_
  rw [hmS]
  repeat refine aB ?_
  refine aH (by first|exact .inl rfl|exact .inr rfl) rfl rfl _ _ aG aF (⟨rfl,rfl,3,rfl,fun h=>absurd h (by decide)⟩)
 by_cases lP:256 < mP
 ·repeat refine aB ?_
  rw [hmS]
  repeat refine aB ?_
  rw [hmP]
  repeat refine aB ?_
  refine aH (by first|exact .inl rfl|exact .inr rfl) rfl rfl _ _ aG aF (⟨rfl,rfl,3,rfl,fun h=>absurd h (by decide)⟩)
 by_cases lO:1024 < mO
 ·repeat refine aB ?_
  rw [hmS]
  repeat refine aB ?_
  rw [hmP]
  repeat refine aB ?_
  rw [hmO]
  repeat refine aB ?_
  refine aH (by first|exact .inl rfl|exact .inr rfl) rfl rfl _ _ aG aF (⟨rfl,rfl,3,rfl,fun h=>absurd h (by decide)⟩)
 repeat refine aB ?_
 rw [hmS]
 repeat refine aB ?_
 rw [hmP]
 repeat refine aB ?_
 rw [hmO]
 repeat refine aB ?_
 refine kS [1] rfl (fun k G M I=>∃i:Nat,i≤mS∧k=mS - i∧(∀j:Nat,j < i→StOk (gt x.S (j:Int)))∧G=[(3, .int .i64 (i:Int))]∧M0=M∧aI (some ⟨b1,0,none⟩) (nO x)::I0=I) (mS) (⟨0,by omega,rfl,fun j hj=>absurd hj (by omega),rfl,rfl,rfl⟩) ?_
 rintro kk G M I ⟨i,hi,rfl,hs,rfl,rfl,rfl⟩
 by_cases him:i < mS
 ·obtain ⟨s,hse⟩:∃s,gt x.S (i:Int)=s:=⟨_,rfl⟩
  repeat refine aB ?_
  rw [hmS]
  repeat refine aB ?_
  (repeat refine aJ ?_);refine aO 1 [0,1,2,3,4,5,6,7,8] [1,0,1,1,1,1,0,0,0] mixed (by kernel_rfl) ?_
  repeat refine aB ?_
  rw [hse]
  (refine aU rfl (hSt s _ _) ?_;rintro _ _ _ ⟨rfl,rfl,e,rfl,he⟩;refine aL ?_)
  by_cases h0:e=0
  ·subst h0
   repeat refine aB ?_
   refine iC (mS - (i+1)) (⟨i+1,by omega,rfl,fun j hj=>?_,rfl,rfl,rfl⟩)
   by_cases e:j=i
   ·subst e;rw [hse];exact he rfl
   ·exact hs j (by omega)
  ·repeat refine aB ?_
   refine gD rfl rfl (⟨rfl,rfl,e,rfl,fun h=>absurd h h0⟩)
 obtain rfl:mS=i:=by omega
 repeat refine aB ?_
 rw [hmS]
 repeat refine aB ?_
 refine kS [1] rfl (fun k G M I=>∃i:Nat,i≤mP∧k=mP - i∧(∀j:Nat,j < i→(gt x.P (j:Int)).Ok)∧G=[(5, .int .i64 (i:Int))]∧M0=M∧aI (some ⟨b1,0,none⟩) (nO x)::I0=I) (mP) (⟨0,by omega,rfl,fun j hj=>absurd hj (by omega),rfl,rfl,rfl⟩) ?_
 clear him
 rintro kk G M I ⟨i,hi,rfl,hp,rfl,rfl,rfl⟩
 by_cases him:i < mP
 ·obtain ⟨s,hse⟩:∃s,gt x.P (i:Int)=s:=⟨_,rfl⟩
  repeat refine aB ?_
  rw [hmP]
  repeat refine aB ?_
  (repeat refine aJ ?_);refine aO 1 [0,1,2,3,4,5,6,7,8] [1,0,1,1,1,1,0,0,0] mixed (by kernel_rfl) ?_
  repeat refine aB ?_
  rw [hse]
  (refine aU rfl (hPt s _ _) ?_;rintro _ _ _ ⟨rfl,rfl,e,rfl,he⟩;refine aL ?_)
  by_cases h0:e=0
  ·subst h0
   repeat refine aB ?_
   refine iC (mP - (i+1)) (⟨i+1,by omega,rfl,fun j hj=>?_,rfl,rfl,rfl⟩)
   by_cases e:j=i
   ·subst e;rw [hse];exact he rfl
   ·exact hp j (by omega)
  ·repeat refine aB ?_
   refine gD rfl rfl (⟨rfl,rfl,e,rfl,fun h=>absurd h h0⟩)
 obtain rfl:mP=i:=by omega
 repeat refine aB ?_
 rw [hmP]
 repeat refine aB ?_
 refine kS [1] rfl (fun k G M I=>∃i:Nat,i≤mO∧k=mO - i∧(∀j:Nat,j < i→(gt x.O (j:Int)).k=0→ObI mS mP (gt x.O (j:Int)))∧G=[(7, .int .i64 (i:Int))]∧M0=M∧aI (some ⟨b1,0,none⟩) (nO x)::I0=I) (mO) (⟨0,by omega,rfl,fun j hj=>absurd hj (by omega),rfl,rfl,rfl⟩) ?_
 clear him
 rintro kk G M I ⟨i,hi,rfl,ho,rfl,rfl,rfl⟩
 by_cases him:i < mO
 ·obtain ⟨o,hoe⟩:∃s,gt x.O (i:Int)=s:=⟨_,rfl⟩
  repeat refine aB ?_
  rw [hmO]
  repeat refine aB ?_
  refine bG (fun b8=>?_)
  rw [hoe]
  repeat refine aB ?_
  refine aC (cs:=jU o) .here ?_
  by_cases k0:o.k < 0
  ·repeat refine aB ?_
   refine aH (by first|exact .inl rfl|exact .inr rfl) rfl rfl _ _ aG aF (⟨rfl,rfl,1,rfl,fun h=>absurd h (by decide)⟩)
  by_cases k4:4 < o.k
  ·repeat refine aB ?_
   refine aH (by first|exact .inl rfl|exact .inr rfl) rfl rfl _ _ aG aF (⟨rfl,rfl,1,rfl,fun h=>absurd h (by decide)⟩)
  repeat refine aB ?_
  (refine aU rfl (hMi o _ _) ?_;rintro _ _ _ ⟨rfl,rfl,bm,rfl,hbm⟩;refine aL ?_)
  cases bm
  rotate_left
  ·repeat refine aB ?_
   refine aH (by first|exact .inl rfl|exact .inr rfl) rfl rfl _ _ aG aF (⟨rfl,rfl,6,rfl,fun h=>absurd h (by decide)⟩)
  repeat refine aB ?_
  (refine aU rfl (hOd o _ _) ?_;rintro _ _ _ ⟨rfl,rfl,bo,rfl,hbo⟩;refine aL ?_)
  cases bo
  rotate_left
  ·repeat refine aB ?_
   refine aH (by first|exact .inl rfl|exact .inr rfl) rfl rfl _ _ aG aF (⟨rfl,rfl,1,rfl,fun h=>absurd h (by decide)⟩)
  repeat refine aB ?_
  refine lL (cs:=recs (eI .i64) [o.v,o.w]) ([.int .i64 o.v, .int .i64 o.w]) rfl (fun b23=>?_)
  refine aC .here ?_
  (refine aU rfl (aAT (l:=[o.v,o.w]) (m:=1099511627776) (by decide) (show 2≤1000 by omega) aA) ?_;rintro _ _ _ ⟨rfl,rfl,rfl⟩;refine aL ?_)
  by_cases hsm:∀x∈[o.v,o.w], -1099511627776≤x∧x≤1099511627776
  rotate_left
  ·rw [bF hsm]
   clear hsm
   repeat refine aB ?_
   refine aH (by first|exact .inl rfl|exact .inr rfl) rfl rfl _ _ aG aF (⟨rfl,rfl,2,rfl,fun h=>absurd h (by decide)⟩)
  rw [cB hsm]
  have hv:=hsm o.v (by simp)
  have hw:=hsm o.w (by simp)
  clear hsm
  by_cases hk:o.k=4
  ·by_cases hg:o.g=0
   ·repeat refine aB ?_
    refine kS [1,7,8] rfl (fun k G M I=>∃t:Nat,t≤i∧k=i - t∧G=[(9, .int .i64 (t:Int))]∧M0=M∧aI (some ⟨b8,0,none⟩) (jU o)::aI (some ⟨b1,0,none⟩) (nO x)::I0=I) (i) (⟨0,by omega,rfl,rfl,rfl,rfl⟩) ?_
    rintro kk G M I ⟨t,ht,rfl,rfl,rfl,rfl⟩
    by_cases hti:t < i
    ·obtain ⟨be,hbe⟩:=aLX (gt x.O (t:Int)) o
     repeat refine aB ?_
     (repeat refine aJ ?_);refine gG [0,1,2,3,4,5,6,7,8,9,10,11] [0,0,0,0,0,0,0,0,0,0,0,0] mixed (by kernel_rfl) ?_
     repeat refine aB ?_
     refine aD rfl (fun _=>hbe _ _ _ _ _ _ _ rfl rfl) rfl rfl ?_
     cases be
     ·repeat refine aB ?_
      refine iC (i - (t+1)) (⟨t+1,by omega,rfl,rfl,rfl,rfl⟩)
     ·repeat refine aB ?_
      refine aH (by first|exact .inl rfl|exact .inr rfl) rfl rfl _ _ aG aF (⟨rfl,rfl,7,rfl,fun h=>absurd h (by decide)⟩)
    obtain rfl:t=i:=by omega
    repeat refine aB ?_
    refine iC (mO - (t+1)) (⟨t+1,by omega,rfl,fun j hj=>?_,rfl,rfl,rfl⟩)
    by_cases e:j=t
    ·subst e
     rw [hoe]
     intro hz
     omega
    ·exact ho j (by omega)
   ·repeat refine aB ?_
    refine aH (by first|exact .inl rfl|exact .inr rfl) rfl rfl _ _ aG aF (⟨rfl,rfl,2,rfl,fun h=>absurd h (by decide)⟩)
  by_cases hg:o.g < 1
  ·repeat refine aB ?_
   refine aH (by first|exact .inl rfl|exact .inr rfl) rfl rfl _ _ aG aF (⟨rfl,rfl,2,rfl,fun h=>absurd h (by decide)⟩)
  by_cases hg:1048576 < o.g
  ·repeat refine aB ?_
   refine aH (by first|exact .inl rfl|exact .inr rfl) rfl rfl _ _ aG aF (⟨rfl,rfl,2,rfl,fun h=>absurd h (by decide)⟩)
  repeat refine aB ?_
  refine kS [1,7,8] rfl (fun k G M I=>∃t:Nat,t≤i∧k=i - t∧G=[(9, .int .i64 (t:Int))]∧M0=M∧aI (some ⟨b8,0,none⟩) (jU o)::aI (some ⟨b1,0,none⟩) (nO x)::I0=I) (i) (⟨0,by omega,rfl,rfl,rfl,rfl⟩) ?_
  rintro kk G M I ⟨t,ht,rfl,rfl,rfl,rfl⟩
  by_cases hti:t < i
  ·repeat refine aB ?_
   (repeat refine aJ ?_);refine gG [0,1,2,3,4,5,6,7,8,9,10,11] [0,0,0,0,0,0,0,0,0,0,0,0] mixed (by kernel_rfl) ?_
   repeat refine aB ?_
   refine iC (i - (t+1)) (⟨t+1,by omega,rfl,rfl,rfl,rfl⟩)
  obtain rfl:t=i:=by omega
  repeat refine aB ?_
  refine iC (mO - (t+1)) (⟨t+1,by omega,rfl,fun j hj=>?_,rfl,rfl,rfl⟩)
  by_cases e:j=t
  ·subst e
   rw [hoe]
   intro hz
   obtain ⟨ha,hb⟩:=hbm hz rfl
   exact ⟨hz,by rw [←hmS];exact ha,by rw [←hmP];exact hb,hbo hz rfl,hv,hw,by omega,by omega⟩
  ·exact ho j (by omega)
 obtain rfl:mO=i:=by omega
 repeat refine aB ?_
 refine gD rfl rfl (⟨rfl,rfl,0,rfl,fun _=>⟨hd,fun s hs'=>?_,fun p hp'=>?_,fun o ho'=>?_,by omega,by omega,by omega⟩⟩)
 ·obtain ⟨j,hj,rfl⟩:=List.mem_iff_getElem.1 hs'
  rw [←eU hj]
  exact hs j (by omega)
 ·obtain ⟨j,hj,rfl⟩:=List.mem_iff_getElem.1 hp'
  rw [←eU hj]
  exact hp j (by omega)
 ·obtain ⟨j,hj,rfl⟩:=List.mem_iff_getElem.1 ho'
  rw [←eU hj,hmS,hmP]
  exact ho j (by omega)
end
end Go.Proofs.YtgpkjcmipiodcaaGreat

/- Plain: the spanning forest of least weight. -/
import Derived.Test.YtejbgkajdomgcaaZval
import Derived.Test.YtejbgkajdomgcaaZvag
import Derived.Test.YtejbgkajdomgcaaZvae
import Derived.Test.YtejbgkajdomgcaaZvak
set_option linter.unusedSimpArgs false
set_option linter.unusedVariables false
set_option maxRecDepth 100000
set_option maxHeartbeats 4000000
namespace Go.Proofs.Ytejbgkajdomgcaa
open Go Go.Fx
structure LK where
 a:Int
 b:Int
 w:Int
instance:Inhabited LK:=⟨⟨0,0,0⟩⟩
def pr (ms:List LK) (k:Int):Int × Int:=((gt ms k).a,(gt ms k).b)
def es (ms:List LK) (l:List Int):List (Int × Int):=l.map (pr ms)
def wt (ms:List LK) (k:Int):Int:=(gt ms k).w
def rg (n:Nat):List Int:=(List.range n).map (fun i=>((i:Nat):Int))
theorem jI {n:Nat} {k:Int}:k∈rg n↔0≤k∧k < n:=by
 simp only [rg,List.mem_map,List.mem_range]
 exact ⟨fun ⟨i,h1,h2⟩=>by omega,fun h=>⟨k.toNat,by omega,by omega⟩⟩
theorem sU (n:Nat):(rg n).length=n:=by simp [rg]
theorem aDL (n:Nat):rg (n+1)=rg n++[(n:Int)]:=by simp [rg,List.range_succ]
theorem rg_pw (n:Nat):(rg n).Pairwise (· < ·):=by
 induction n with
 |zero=>exact List.Pairwise.nil
 |succ n ih=>
  rw [aDL,List.pairwise_append]
  exact ⟨ih,List.pairwise_singleton _ _,fun a ha b hb=>by
   rw [jI] at ha
   simp only [List.mem_cons,List.not_mem_nil,or_false] at hb
   omega⟩
theorem aFC {α:Type} {r:α→α→Prop} (ir:∀a,¬r a a) (asy:∀a b,r a b→¬r b a) {l l':List α} (h:l.Pairwise r) (h':l'.Pairwise r) (hm:∀x,x∈l↔x∈l'):l=l':=by
 induction l generalizing l' with
 |nil=>
  cases l' with
  |nil=>rfl
  |cons b l'=>exact absurd ((hm b).2 (by simp)) (by simp)
 |cons a l ih=>
  cases l' with
  |nil=>exact absurd ((hm a).1 (by simp)) (by simp)
  |cons b l'=>
   obtain ⟨h1,h2⟩:=List.pairwise_cons.1 h
   obtain ⟨h3,h4⟩:=List.pairwise_cons.1 h'
   have hab:a=b:=by
    rcases List.mem_cons.1 ((hm a).1 (by simp)) with e|e
    ·exact e
    ·rcases List.mem_cons.1 ((hm b).2 (by simp)) with e2|e2
     ·exact e2.symm
     ·exact absurd (h1 b e2) (asy _ _ (h3 a e))
   subst hab
   congr 1
   refine ih h2 h4 (fun x=>⟨fun hx=>?_,fun hx=>?_⟩)
   ·rcases List.mem_cons.1 ((hm x).1 (by simp [hx])) with e|e
    ·subst e;exact absurd (h1 x hx) (ir x)
    ·exact e
   ·rcases List.mem_cons.1 ((hm x).2 (by simp [hx])) with e|e
    ·subst e;exact absurd (h3 x hx) (ir x)
    ·exact e
def kl (ms:List LK) (a b:Int):Prop:=wt ms a < wt ms b∨wt ms a=wt ms b∧a < b
theorem kl_ir (ms:List LK) (a:Int):¬kl ms a a:=by unfold kl;omega
def kst (ms:List LK) (c:List Int) (k:Int):List Int:=if lo (es ms c) (pr ms k).1=lo (es ms c) (pr ms k).2 then c else c++[k]
def kr (ms:List LK) (l:List Int):List Int:=l.foldl (kst ms) []
theorem rU (ms:List LK) (l:List Int) (k:Int):kr ms (l++[k])=kst ms (kr ms l) k:=by simp [kr,List.foldl_append]
theorem lI (ms:List LK) (l:List Int) (k:Int):es ms (l++[k])=es ms l++[pr ms k]:=by simp [es]
theorem aJZ (ms:List LK) (l:List Int):(es ms l).length=l.length:=by simp [es]
theorem qP {ms:List LK} {l l':List Int} (h:∀k∈l,k∈l'):∀e∈es ms l,e∈es ms l':=fun e he=>by
 obtain ⟨k,hk,rfl⟩:=List.mem_map.1 he
 exact List.mem_map_of_mem (h k hk)
theorem vS {ms:List LK} {l:List Int} {k:Int} (h:k∈kr ms l):k∈l:=by
 induction l using lK with
 |h0=>exact h
 |h1 l a ih=>
  rw [rU] at h
  unfold kst at h
  split at h
  ·exact List.mem_append.2 (.inl (ih h))
  ·rcases List.mem_append.1 h with h|h
   ·exact List.mem_append.2 (.inl (ih h))
   ·exact List.mem_append.2 (.inr h)
theorem aPM {ms:List LK} {l:List Int} {x y:Int}:Con (es ms (kr ms l)) x y↔Con (es ms l) x y:=by
 constructor
 ·exact fun h=>h.sub (qP (fun k hk=>vS hk))
 ·induction l using lK generalizing x y with
  |h0=>exact id
  |h1 l a ih=>
   rw [rU]
   unfold kst
   intro h
   split
   ·rename_i he
    refine h.mono (fun e hm=>?_)
    rw [lI] at hm
    rcases List.mem_append.1 hm with hm|hm
    ·exact ih (.link hm)
    ·simp only [List.mem_cons,List.not_mem_nil,or_false] at hm
     subst hm
     exact lo_iff.1 he
   ·refine h.mono (fun e hm=>?_)
    rw [lI] at hm ⊢
    rcases List.mem_append.1 hm with hm|hm
    ·exact (ih (.link hm)).sub (fun d hd=>by simp [hd])
    ·exact .link (List.mem_append.2 (.inr hm))
theorem aCP (ms:List LK) (l:List Int):Fst [] (es ms (kr ms l)):=by
 induction l using lK with
 |h0=>trivial
 |h1 l a ih=>
  rw [rU]
  unfold kst
  split
  ·exact ih
  ·rename_i h
   rw [lI]
   exact Fst.snoc.2 ⟨ih,fun hc=>h (lo_iff.2 hc)⟩
theorem oM {ms:List LK} {l:List Int} (h:l.Nodup):(kr ms l).Nodup:=by
 induction l using lK with
 |h0=>exact List.nodup_nil
 |h1 l a ih=>
  rw [List.nodup_append] at h
  rw [rU]
  unfold kst
  split
  ·exact ih h.1
  ·rw [List.nodup_append]
   exact ⟨ih h.1,by simp,fun x hx y hy=>h.2.2 x (vS hx) y hy⟩
inductive Wk (ms:List LK) (S:Int→Prop):Nat→Int→Int→Prop
 |src {s:Int}:S s→Wk ms S 0 s 0
 |step {k:Nat} {u x i:Int}:Wk ms S k u x→0≤i→i < ms.length→(gt ms i).a=u→Wk ms S (k+1) (gt ms i).b (x+wt ms i)
structure Gd (ms:List LK) (n:Nat):Prop where
 a:∀k:Int,0≤k→k < ms.length→0≤(gt ms k).a∧(gt ms k).a < n
 b:∀k:Int,0≤k→k < ms.length→0≤(gt ms k).b∧(gt ms k).b < n
 w:∀k:Int,0≤k→k < ms.length→(wt ms k).natAbs≤1073741824
structure Fix (ms:List LK) (S:Int→Prop) (F:Int→Option Int):Prop where
 sound:∀v x,F v=some x→∃j,Wk ms S j v x
 src:∀s,S s→∃y,F s=some y∧y≤0
 closed:∀i:Int,0≤i→i < ms.length→∀x,F (gt ms i).a=some x→∃y,F (gt ms i).b=some y∧y≤x+wt ms i
structure Rnd (ms:List LK) (D D':Int→Option Int):Prop where
 dec:∀v x,D v=some x→∃y,D' v=some y∧y≤x
 prog:∀i:Int,0≤i→i < ms.length→∀x,D (gt ms i).a=some x→∃y,D' (gt ms i).b=some y∧y≤x+wt ms i
def Snd (ms:List LK) (S:Int→Prop) (T:Nat) (D:Int→Option Int):Prop:=∀v x,D v=some x→∃j,j≤T∧Wk ms S j v x
def Src (S:Int→Prop) (D:Int→Option Int):Prop:=∀s,S s→∃y,D s=some y∧y≤0
def gdF (F D:Int→Option Int) (v:Int):Bool:=decide (D v=F v)
def rcd (D:Int→Option Int) (v:Int):Bool:=(D v).isSome
def Pot (ms:List LK) (p:Int→Int):Prop:=∀i:Int,0≤i→i < ms.length→p (gt ms i).b≤p (gt ms i).a+wt ms i
def jst (ms:List LK) (D D':Int→Option Int) (i:Int) (v:Int):Option Int:=
 if v=(gt ms i).b then
  match D (gt ms i).a with
  |none=>D' v
  |some x=>match D' v with
   |none=>some (x+wt ms i)
   |some y=>some (if x+wt ms i < y then x+wt ms i else y)
 else D' v
def jr (ms:List LK) (D:Int→Option Int):Nat→Int→Option Int
 |0=>D
 |k+1=>jst ms D (jr ms D k) (k:Int)
def DK (ms:List LK) (D0:Int→Option Int):Nat→Int→Option Int
 |0=>D0
 |k+1=>jr ms (DK ms D0 k) ms.length
end Go.Proofs.Ytejbgkajdomgcaa
namespace Go.Proofs.Ytejbgkajdomgcaa
open Go Go.Fx
structure NS (ms:List LK) (n:Nat) (r:Nat) (i:Int) (T:Nat) (d ls:Int→Int) (ti rd:Int→Nat):Prop where
 idx:∀v:Int,0≤v→v < n→0 < rd v→(0≤ls v∧ls v < ms.length)∧(gt ms (ls v)).b=v
 inv:∀v:Int,0≤v→v < n→0 < rd v→d (gt ms (ls v)).a+wt ms (ls v)≤d v∧(ti v≤ti (gt ms (ls v)).a→d (gt ms (ls v)).a+wt ms (ls v) < d v)
 tim:∀v:Int,ti v≤T
 rnd:∀v:Int,0≤v→v < n→rd v≤rd (gt ms (ls v)).a+1∨rd v=0
 old:∀j:Int,0≤j→j < ms.length→∀q:Nat,q=(if j < i then r else r - 1)→0 < q→rd (gt ms j).a < q→d (gt ms j).b≤d (gt ms j).a+wt ms j
 max:∀v:Int,rd v≤r
def fset {α:Type} (f:Int→α) (z:Int) (x:α) (v:Int):α:=if v=z then x else f v
def bk (ms:List LK) (ls:Int→Int):Nat→Int→Int
 |0,v=>v
 |k+1,v=>(gt ms (ls (bk ms ls k v))).a
def bw (ms:List LK) (ls:Int→Int):Nat→Int→Int
 |0,_=>0
 |k+1,v=>bw ms ls k v+wt ms (ls (bk ms ls k v))
end Go.Proofs.Ytejbgkajdomgcaa
namespace Go.Proofs.Ytejbgkajdomgcaa
open Go Go.Fx
theorem mV {α:Type} [Inhabited α] {a b:List α} (hl:a.length=b.length) (h:∀j:Nat,j < a.length→gt a j=gt b j):a=b:=by
 apply List.ext_getElem hl
 intro j h1 h2
 have:=h j h1
 rwa [aP h1,aP h2] at this
section
variable {X:List Nat} {w0:World} {M0:List Ent} {I0:List aO}
end
end Go.Proofs.Ytejbgkajdomgcaa
namespace Go.Proofs.Ytejbgkajdomgcaa
open Go Go.Fx
theorem aEL {P:Program} {n:Nat} {Q:Exit→Act→World→Prop} {G:Env} {X:List Nat} {w0:World} {M:List Ent} {I:List aO} {ops l:List Oper} {m:Fx.Mode} {ty:TypeId} {pos:String} {af:Array Edge} {g:Option (Nat × Bool)} {d:Nat} {t:TypeId} {x:Operand} {q:Option Addr} {len c:Nat} (hx:ev G x=some (.slice q len c)) (hg:iY ops G g=some true) (hd:Nat.ble (d+1) n=true)
  (k:∀b,OkD m X w0 (.blk b [.slice q len c] t::M) I∧RD P n ops Q m.nextE l ((d, .pointer (some ⟨b,0,none⟩))::G) X w0 M (aN (some ⟨b,0,none⟩) [.slice q len c]::I)):
  RD P n ops Q m (⟨some d, .box t x,ty,pos,af,g⟩::l) G X w0 M I:=aJB hx hg hd (fun b=>⟨(k b).1,aF .here (k b).2⟩)
abbrev eK (l:LK):List Value:=[.int .i64 l.a, .int .i64 l.b, .int .i64 l.w]
instance:Sized eK 3:=⟨fun _=>rfl⟩
instance:Ones eK:=⟨fun m u hu=>by
 simp only [eK,List.mem_cons,List.not_mem_nil,or_false] at hu
 rcases hu with rfl|rfl|rfl <;>rfl⟩
abbrev gv (N:Int) (p:Option Addr) (m c:Nat):Value:= .agg #[.int .i64 N, .slice p m c]
def lok (N:Int) (l:LK):Prop:=(0≤l.a∧l.a < N)∧(0≤l.b∧l.b < N)∧(-1073741824≤l.w∧l.w≤1073741824)
instance (N:Int) (l:LK):Decidable (lok N l):=by unfold lok;exact inferInstance
theorem aNT {N:Int} {l:LK} (h:¬lok N l):l.a < 0∨(0≤l.a∧N≤l.a)∨(0≤l.a∧l.a < N∧l.b < 0)∨(0≤l.a∧l.a < N∧0≤l.b∧N≤l.b)∨(0≤l.a∧l.a < N∧0≤l.b∧l.b < N∧l.w < -1073741824)∨(0≤l.a∧l.a < N∧0≤l.b∧l.b < N∧ -1073741824≤l.w∧1073741824 < l.w):=by
 unfold lok at h
 omega
def qH (N:Int) (ms:List LK):Int:=if N < 0 then 1 else if 256 < N∨1024 < ms.length then 3 else if ∀l∈ms,lok N l then 0 else 2
theorem xC {N:Int} {ms:List LK} (h1:¬N < 0) (h2:¬(256 < N∨1024 < ms.length)) (h:∀j:Nat,j < ms.length→lok N (gt ms j)):qH N ms=0:=by
 unfold qH
 rw [if_neg h1,if_neg h2,if_pos]
 intro l hl
 obtain ⟨j,hj,rfl⟩:=List.mem_iff_getElem.1 hl
 have:=h j hj
 rwa [aP hj] at this
theorem aHQ {N:Int} {ms:List LK} (h1:¬N < 0) (h2:¬(256 < N∨1024 < ms.length)) {i:Nat} (hi:i < ms.length) (h:¬lok N (gt ms i)):qH N ms=2:=by
 unfold qH
 rw [if_neg h1,if_neg h2,if_neg]
 intro hh
 apply h
 rw [aP hi]
 exact hh _ (List.getElem_mem hi)
section
variable {X:List Nat} {w0:World} {M0:List Ent} {I0:List aO}
theorem sP {p:Option Addr} {N:Int} {ms:List LK} {m c:Nat} (hm:ms.length=m) (hn:(m:Int)≤9223372036854775807) (hp:aN p (recs eK ms)∈I0):
  CD Try.prog 15 [gv N p m c] X w0 M0 I0 (fun v M I=>M0=M∧I0=I∧v= .int .i64 (qH N ms)):=by
 refine eZ Try.func15 rfl Try.ntmps15 rfl ?_
 refine lU ?_
 refine rF rfl (fun b=>?_)
 refine aF .here ?_
 by_cases h1:N < 0
 ·repeat refine aD ?_
  refine lL rfl rfl (⟨rfl,rfl,congrArg _ (if_pos h1).symm⟩)
 by_cases h2:256 < N
 ·have hc:qH N ms=3:=by unfold qH;rw [if_neg h1,if_pos (.inl h2)]
  repeat refine aD ?_
  refine lL rfl rfl (⟨rfl,rfl,congrArg _ hc.symm⟩)
 by_cases h3:1024 < m
 ·have hc:qH N ms=3:=by unfold qH;rw [if_neg h1,if_pos (.inr (by omega))]
  repeat refine aD ?_
  refine lL rfl rfl (⟨rfl,rfl,congrArg _ hc.symm⟩)
 replace h2:¬(256 < N∨1024 < ms.length):=by omega
 repeat refine aD ?_
 refine qU [1,18,19] rfl (fun k G M I=>∃i:Nat,i≤m∧k=m - i∧(∀j:Nat,j < i→lok N (gt ms j))∧G=[(20, .int .i64 i)]∧M0=M∧I=aN (some ⟨b,0,none⟩) [.int .i64 N, .slice p m c]::I0) (m) (⟨0,by omega,rfl,fun j hj=>by omega,rfl,rfl,rfl⟩) ?_
 rintro kk G M I ⟨i,hi,rfl,hs,rfl,rfl,rfl⟩
 by_cases him:i < m
 ·repeat refine aD ?_
  refine iL (fun b4=>?_)
  repeat refine aD ?_
  refine aF .here ?_
  by_cases hl:lok N (gt ms i)
  ·obtain ⟨⟨q1,q2⟩,⟨q3,q4⟩,q5,q6⟩:=hl
   repeat refine aD ?_
   refine mI (m - (i+1)) (⟨i+1,by omega,rfl,fun j hj=>?_,rfl,rfl,rfl⟩)
   by_cases e:j=i
   ·subst e;exact ⟨⟨q1,q2⟩,⟨q3,q4⟩,q5,q6⟩
   ·exact hs j (by omega)
  ·have hc:=aHQ h1 h2 (by omega) hl
   rcases aNT hl with h|h|h|h|h|h
   all_goals
    repeat refine aD ?_
    refine lL rfl rfl (⟨rfl,rfl,congrArg _ hc.symm⟩)
 ·have hc:=xC h1 h2 (fun j hj=>hs j (by omega))
  repeat refine aD ?_
  refine lL rfl rfl (⟨rfl,rfl,congrArg _ hc.symm⟩)
end
end Go.Proofs.Ytejbgkajdomgcaa
namespace Go.Proofs.Ytejbgkajdomgcaa
open Go Go.Fx
def lb (f:Int→Int) (x:Int):Int:=((cnt (f x).toNat (fun y=>decide (f y=y)):Nat):Int)
def labs (n:Nat) (f:Int→Int):List Int:=(rg n).map (lb f)
theorem aNF {n:Nat} {x:Int} (h:0≤x∧x < n):gt (rg n) x=x:=by
 obtain ⟨y,rfl⟩:∃y:Nat,x=y:=⟨x.toNat,by omega⟩
 rw [aP (by rw [sU];omega)]
 simp [rg]
theorem aHZ {α β:Type} [Inhabited α] [Inhabited β] {g:α→β} {l:List α} {x:Int} (h:0≤x∧x < l.length):gt (l.map g) x=g (gt l x):=by
 obtain ⟨y,rfl⟩:∃y:Nat,x=y:=⟨x.toNat,by omega⟩
 rw [aP (by rw [List.length_map];omega),aP (by omega),List.getElem_map]
theorem eO {α:Type} [Inhabited α] {ms:List α} {i:Int} (h:0≤i∧i < ms.length):gt ms i∈ms:=by
 obtain ⟨y,rfl⟩:∃y:Nat,i=y:=⟨i.toNat,by omega⟩
 rw [aP (by omega)]
 exact List.getElem_mem _
theorem aEC {f:Int→Int} {e:Int × Int} (h:f e.1=f e.2):wN f e=f:=by
 funext x
 unfold wN
 rw [h]
 split <;>omega
theorem Rp.same {n:Nat} {u:List Int} {f:Int→Int} (h:Rp n u f) {e:Int × Int} (he:f e.1=f e.2):Rp n u (wN f e):=by rw [aEC he];exact h
theorem Gd.nds {ms:List LK} {n:Nat} (hg:Gd ms n) {l:List Int} (hl:∀k∈l,0≤k∧k < ms.length):Nds n (es ms l):=fun e he=>by
 obtain ⟨k,hk,rfl⟩:=List.mem_map.1 he
 have:=hl k hk
 exact ⟨hg.a k this.1 this.2,hg.b k this.1 this.2⟩
theorem aNE {ms:List LK} {l:List Int} {k:Int}:lo (es ms (l++[k]))=wN (lo (es ms l)) ((gt ms k).a,(gt ms k).b):=by
 rw [lI,mJ];rfl
end Go.Proofs.Ytejbgkajdomgcaa
namespace Go.Proofs.Ytejbgkajdomgcaa
open Go Go.Fx
section
variable {X:List Nat} {w0:World} {M0:List Ent} {I0:List aO}
theorem aDZ {n:Nat} (hn:n≤256):
  CD Try.prog 28 [.int .i64 n] X w0 M0 I0 (fun v M I=>I0=I∧∃b,v= .slice (some ⟨b,0,none⟩) n n∧M= .blk b (recs (eI .i64) (rg n)) 3::M0):=by
 refine eZ Try.func28 rfl Try.ntmps28 rfl ?_
 repeat refine aD ?_
 (refine iW (n) rfl rfl (by omega) (by omega) (by omega) (by omega) (lT _ _) rfl rfl ?_;intro b;refine cK ?_)
 repeat refine aD ?_
 refine aU [3,8] rfl (fun k G M I=>∃(i:Nat) (u:List Int),i≤n∧k=n - i∧u.length=n∧(∀j:Nat,j < i→gt u j=j)∧G=[(9, .int .i64 i)]∧M= .blk b (recs (eI .i64) u) 3::M0∧I0=I) (n) _ _ _ aT bN bR (⟨0,_,by omega,rfl,List.length_replicate,fun j hj=>by omega,rfl,rfl,rfl⟩) ?_
 rintro kk G M I ⟨i,u,hi,rfl,hl,hu,rfl,rfl,rfl⟩
 by_cases hin:i < n
 ·repeat refine aD ?_
  refine aK (n - (i+1)) _ _ _ (by first|omega|(simp only [List.length_append,List.length_cons,List.length_nil];omega)) aT bN bR (⟨i+1,_,by omega,rfl,by rw [aY,hl],fun j hj=>?_,rfl,rfl,rfl⟩)
  rw [gM _ (by omega) (by omega)]
  split
  ·omega
  ·exact hu j (by omega)
 ·obtain rfl:i=n:=by omega
  have hrg:u=rg i:=mV (by rw [sU,hl]) (fun j hj=>by rw [hu j (by omega),aNF (by omega)])
  subst hrg
  repeat refine aD ?_
  refine lL rfl rfl (⟨rfl,b,rfl,rfl⟩)
theorem sK {b n c:Nat} {u:List Int} {f:Int→Int} {x:Int} (hn:n≤256) (hu:Rp n u f) (hx:0≤x∧x < n):
  CD Try.prog 32 [.slice (some ⟨b,0,none⟩) n c, .int .i64 x] X w0 (.blk b (recs (eI .i64) u) 3::M0) I0 (fun v M I=>I0=I∧v= .int .i64 (f x)∧∃u',Rp n u' f∧M= .blk b (recs (eI .i64) u') 3::M0):=by
 refine bO Try.func32 rfl Try.ntmps32 rfl ?_
 repeat refine aD ?_
 refine qU [0] rfl (fun k G M I=>∃(i:Int) (u:List Int),0≤i∧i < n∧k=i.toNat∧f i=f x∧Rp n u f∧G=[(1, .int .i64 i)]∧M= .blk b (recs (eI .i64) u) 3::M0∧I0=I) (x.toNat) (⟨x,u,hx.1,hx.2,rfl,rfl,hu,rfl,rfl,rfl⟩) ?_
 clear hu
 rintro kk G M I ⟨i,u,h0,hi,rfl,hfi,hu,rfl,rfl,rfl⟩
 have hl:=hu.len
 have d1:=hu.dn i h0 hi
 have d2:=hu.dn (gt u i) d1.1 (by omega)
 by_cases he:gt u i=i
 ·have hfx:=hu.fx i h0 hi he
  repeat refine aD ?_
  refine bF (by first|exact .inl rfl|exact .inr rfl) rfl rfl _ _ bN bR (⟨rfl,by rw [←hfi,hfx],u,hu,rfl⟩)
 ·have hh:=hu.halve h0 hi
  have hl2:=hh.len
  have hg:gt (st u i (gt u (gt u i))) i=gt u (gt u i):=by rw [gM _ (by omega) h0,if_pos rfl]
  have hfu:=hu.up i h0 hi
  have hfu2:=hu.up (gt u i) d1.1 (by omega)
  repeat refine aD ?_
  rw [hg]
  refine aK ((gt u (gt u i)).toNat) _ _ _ (by first|omega|(simp only [List.length_append,List.length_cons,List.length_nil];omega)) aT bN bR (⟨gt u (gt u i),_,d2.1,by omega,rfl,by rw [hfu2,hfu,hfi],hh,rfl,rfl,rfl⟩)
theorem aAW {b n c:Nat} {u:List Int} {f:Int→Int} {x y:Int} (hn:n≤256) (hu:Rp n u f) (hx:0≤x∧x < n) (hy:0≤y∧y < n):
  CD Try.prog 29 [.slice (some ⟨b,0,none⟩) n c, .int .i64 x, .int .i64 y] X w0 (.blk b (recs (eI .i64) u) 3::M0) I0 (fun v M I=>I0=I∧v= .bool (B (f x≠f y))∧∃u',Rp n u' (wN f (x,y))∧M= .blk b (recs (eI .i64) u') 3::M0):=by
 refine uM Try.func29 rfl Try.ntmps29 rfl ?_
 repeat refine aD ?_
 (refine dS rfl (sK hn hu hx) ?_;rintro _ _ _ ⟨rfl,rfl,u1,hu1,rfl⟩;refine cK ?_)
 repeat refine aD ?_
 (refine dS rfl (sK hn hu1 hy) ?_;rintro _ _ _ ⟨rfl,rfl,u2,hu2,rfl⟩;refine cK ?_)
 have r1:=hu2.root hx.1 hx.2
 have r2:=hu2.root hy.1 hy.2
 have hl:=hu2.len
 by_cases he:f x=f y
 ·have hs:=hu2.same (e:=(x,y)) he
  repeat refine aD ?_
  refine lL rfl rfl (⟨rfl,congrArg Value.bool (bQ (fun h=>h he)).symm,u2,hs,rfl⟩)
 ·have hj:=hu2.join (e:=(x,y)) hx hy
  have hlj:=hj.len
  repeat refine aD ?_
  refine bF (by first|exact .inl rfl|exact .inr rfl) rfl rfl _ _ bN bR (⟨rfl,congrArg Value.bool (dX he).symm,_,hj,rfl⟩)
end
end Go.Proofs.Ytejbgkajdomgcaa
namespace Go.Proofs.Ytejbgkajdomgcaa
open Go Go.Fx
structure Lr (n:Nat) (E:List (Int × Int)) (l l':List Int) (ms:List LK) (ls:List Int) (j:Nat):Prop where
 len:l'.length=n
 lw:Lw n E (gt l')
 dec:∀x:Int,0≤x→x < n→gt l' x≤gt l x
 lk:∀i:Nat,i < j→gt l' (gt ms (gt ls i)).a≤gt l (gt ms (gt ls i)).b∧gt l' (gt ms (gt ls i)).b≤gt l (gt ms (gt ls i)).a
end Go.Proofs.Ytejbgkajdomgcaa
namespace Go.Proofs.Ytejbgkajdomgcaa
open Go Go.Fx
theorem Mem.rowLe {X:List Nat} {w0 w:World} {M:List Ent} {I:List aO} {a:Option Addr} {mm c:Nat} {cs:List Value} {e:TypeId} {sz:Nat} (h:Mem X w0 (.row a mm c cs e sz::M) I w):mm≤c:=by
 rcases h.rowBlk with ⟨_,h1,_⟩|⟨_,_,_,h1,_⟩
 ·omega
 ·exact h1
section
variable {X:List Nat} {w0:World} {M0:List Ent} {I0:List aO}
end
end Go.Proofs.Ytejbgkajdomgcaa
namespace Go.Proofs.Ytejbgkajdomgcaa
open Go Go.Fx
instance decCon (E:List (Int × Int)) (x y:Int):Decidable (Con E x y):=decidable_of_iff (lo E x=lo E y) lo_iff
instance decFst:(E F:List (Int × Int))→Decidable (Fst E F)
 |_,[]=> .isTrue trivial
 |E,e::F=>have:=decFst (E++[e]) F;inferInstanceAs (Decidable (_∧_))
def uH (m:Nat) (tree:List Int):Prop:=∀k∈tree,0≤k∧k < m
instance (m:Nat) (tree:List Int):Decidable (uH m tree):=inferInstanceAs (Decidable (∀k∈tree,_))
def asc (tree:List Int):Prop:=tree.Pairwise (· < ·)
instance (tree:List Int):Decidable (asc tree):=inferInstanceAs (Decidable (List.Pairwise _ _))
def fA (ms:List LK) (tree:List Int):Int:=if ¬uH ms.length tree then 2 else if ¬asc tree then 5 else if ¬Fst [] (es ms tree) then 11 else 0
theorem gD {α:Type} [Inhabited α] {l:List α} {j:Nat} (h:j < l.length):l.take (j+1)=l.take j++[gt l (j:Int)]:=by
 rw [List.take_succ_eq_append_getElem h,aP h]
theorem Fst.left {E F G:List (Int × Int)} (h:Fst E (F++G)):Fst E F:=by
 induction F generalizing E with
 |nil=>trivial
 |cons d F ih=>exact ⟨h.1,ih h.2⟩
theorem aPC (ms:List LK) (a b:List Int):es ms (a++b)=es ms a++es ms b:=by simp [es]
theorem aNL {l:List Int} (h:∀i:Nat,0 < i→i < l.length→gt l ((i:Int) - 1) < gt l i):asc l:=by
 induction l with
 |nil=>exact List.Pairwise.nil
 |cons a r ih=>
  cases r with
  |nil=>exact List.pairwise_singleton _ _
  |cons b r=>
   have h1:=ih (fun i h0 hi=>by
    have:=h (i+1) (by omega) (by rw [List.length_cons];omega)
    rw [show ((i+1:Nat):Int) - 1=((i:Nat):Int) by omega,aP (by rw [List.length_cons];omega),aP (by rw [List.length_cons];omega)] at this
    rw [aP hi,show (i:Int) - 1=((i - 1:Nat):Int) by omega,aP (by omega)]
    obtain ⟨j,rfl⟩:∃j,i=j+1:=⟨i - 1,by omega⟩
    simpa using this)
   have h2:=h 1 (by omega) (by simp)
   have h2:a < b:=h2
   refine List.Pairwise.cons (fun x hx=>?_) h1
   rcases List.mem_cons.1 hx with e|e
   ·omega
   ·have:=(List.pairwise_cons.1 h1).1 x e
    omega
theorem aPE {l:List Int} (h:asc l) {i:Nat} (h0:0 < i) (hi:i < l.length):gt l ((i:Int) - 1) < gt l i:=by
 rw [aP hi,show (i:Int) - 1=((i - 1:Nat):Int) by omega,aP (by omega)]
 exact List.pairwise_iff_getElem.1 h _ _ (by omega) hi (by omega)
theorem aDN {ms:List LK} {tree:List Int} {i:Nat} (hi:i < tree.length) (h:¬(0≤gt tree i∧gt tree i < ms.length)):fA ms tree=2:=if_pos (fun hr=>h (hr _ (eO ⟨by omega,by omega⟩)))
theorem aOM {m:Nat} {tree:List Int} (h:∀j:Nat,j < tree.length→0≤gt tree j∧gt tree j < m):uH m tree:=fun k hk=>by
 obtain ⟨j,hj,rfl⟩:=List.mem_iff_getElem.1 hk
 have:=h j hj
 rwa [aP hj] at this
theorem aLK {ms:List LK} {tree:List Int} (hr:uH ms.length tree) {i:Nat} (h0:0 < i) (hi:i < tree.length) (h:gt tree i≤gt tree ((i:Int) - 1)):fA ms tree=5:=by
 unfold fA
 rw [if_neg (fun hn=>hn hr),if_pos]
 intro ha
 have:=aPE ha h0 hi
 omega
theorem aIF {ms:List LK} {tree:List Int} (hr:uH ms.length tree) (ha:asc tree) {i:Nat} (hi:i < tree.length) (h:Con (es ms (tree.take i)) (gt ms (gt tree i)).a (gt ms (gt tree i)).b):fA ms tree=11:=by
 unfold fA
 rw [if_neg (fun hn=>hn hr),if_neg (fun hn=>hn ha),if_pos]
 intro hf
 rw [←List.take_append_drop (i+1) tree,aPC] at hf
 have h1:=hf.left
 rw [gD hi,lI] at h1
 exact (Fst.snoc.1 h1).2 h
theorem aKL {ms:List LK} {tree:List Int} (hr:uH ms.length tree) (ha:asc tree) (hf:Fst [] (es ms tree)):fA ms tree=0:=by
 unfold fA
 rw [if_neg (fun hn=>hn hr),if_neg (fun hn=>hn ha),if_neg (fun hn=>hn hf)]
theorem wB {ms:List LK} {tree:List Int} (h:fA ms tree=0):uH ms.length tree∧asc tree∧Fst [] (es ms tree):=by
 unfold fA at h
 split at h
 ·omega
 ·split at h
  ·omega
  ·split at h
   ·omega
   ·rename_i h1 h2 h3
    exact ⟨Decidable.of_not_not h1,Decidable.of_not_not h2,Decidable.of_not_not h3⟩
theorem aII {ms:List LK} {tree:List Int} {i:Nat} (hi:i < tree.length) (hf:Fst [] (es ms (tree.take i))) (h:¬Con (es ms (tree.take i)) (gt ms (gt tree i)).a (gt ms (gt tree i)).b):Fst [] (es ms (tree.take (i+1))):=by
 rw [gD hi,lI]
 exact Fst.snoc.2 ⟨hf,h⟩
def spn (ms:List LK) (tree:List Int):Prop:=∀l∈ms,lo (es ms tree) l.a=lo (es ms tree) l.b
instance (ms:List LK) (tree:List Int):Decidable (spn ms tree):=inferInstanceAs (Decidable (∀l∈ms,_))
theorem aDQ {ms:List LK} {tree:List Int} (hr:uH ms.length tree):spn ms tree↔∀x y,Con (es ms tree) x y↔Con (es ms (rg ms.length)) x y:=by
 constructor
 ·intro h x y
  refine ⟨fun hc=>hc.sub (qP (fun k hk=>jI.2 (hr k hk))),fun hc=>hc.mono (fun e he=>?_)⟩
  obtain ⟨k,hk,rfl⟩:=List.mem_map.1 he
  exact lo_iff.1 (h _ (eO (jI.1 hk)))
 ·intro h l hl
  obtain ⟨j,hj,rfl⟩:=List.mem_iff_getElem.1 hl
  refine lo_iff.2 ((h _ _).2 (.link ?_))
  have:pr ms (j:Int)∈es ms (rg ms.length):=List.mem_map_of_mem (jI.2 ⟨by omega,by omega⟩)
  unfold pr at this
  rwa [aP hj] at this
def nQ (ms:List LK) (l:List Int):Int:=wQ (l.map (wt ms))
theorem aFZ (l:List Int) (x:Int):wQ (l++[x])=wQ l+x:=by
 induction l with
 |nil=>simp [wQ]
 |cons y l ih=>rw [List.cons_append,wQ,wQ,ih];omega
theorem aGK (ms:List LK) (l:List Int) (k:Int):nQ ms (l++[k])=nQ ms l+wt ms k:=by
 rw [nQ,List.map_append,List.map_singleton,aFZ];rfl
theorem aCF {ms:List LK} {n:Nat} (hg:Gd ms n) {l:List Int} (h:uH ms.length l):(nQ ms l).natAbs≤l.length*1073741824:=by
 induction l with
 |nil=>simp [nQ,wQ]
 |cons k l ih=>
  have h1:=ih (fun x hx=>h x (by simp [hx]))
  have h2:=h k (by simp)
  have h3:=hg.w k h2.1 h2.2
  rw [nQ,List.map_cons,wQ,List.length_cons]
  unfold nQ at h1
  omega
end Go.Proofs.Ytejbgkajdomgcaa
namespace Go.Proofs.Ytejbgkajdomgcaa
open Go Go.Fx
section
variable {X:List Nat} {w0:World} {M0:List Ent} {I0:List aO}
theorem vT {p q:Option Addr} {n:Nat} {ms:List LK} {ls:List Int} {m c t ct:Nat} (hm:ms.length=m) (hm2:m≤1024) (hg:Gd ms n) (ht:ls.length=t) (ht2:t≤100000) (hls:uH m ls) (hp:aN p (recs eK ms)∈I0) (hq:aN q (recs (eI .i64) ls)∈I0):
  CD Try.prog 18 [gv n p m c, .slice q t ct] X w0 M0 I0 (fun v M I=>M0=M∧I0=I∧v= .int .i64 (nQ ms ls)):=by
 refine bO Try.func18 rfl Try.ntmps18 rfl ?_
 refine lU ?_
 refine rF rfl (fun b2=>?_)
 refine aF .here ?_
 repeat refine aD ?_
 refine qU [2,8,9] rfl (fun k G M I=>∃(i:Nat) (s:Int),i≤t∧k=t - i∧s=nQ ms (ls.take i)∧G=[(5, .int .i64 s),(10, .int .i64 i)]∧M0=M∧I=aN (some ⟨b2,0,none⟩) [.int .i64 n, .slice p m c]::I0) (t) (⟨0,0,by omega,rfl,rfl,rfl,rfl,rfl⟩) ?_
 rintro kk G M I ⟨i,s,hi,rfl,hs,rfl,rfl,rfl⟩
 by_cases hit:i < t
 ·have hr:0≤gt ls i∧gt ls i < m:=hls _ (eO ⟨by omega,by omega⟩)
  have hb:=aCF hg (l:=ls.take i) (by rw [hm];exact fun k hk=>hls k (List.mem_of_mem_take hk))
  have hw:=hg.w (gt ls i) hr.1 (by omega)
  rw [←hs,List.length_take] at hb
  have hn:=aGK ms (ls.take i) (gt ls i)
  rw [←gD (by omega),←hs] at hn
  unfold wt at hw hn
  have hb2:s.natAbs≤i*1073741824:=Nat.le_trans hb (Nat.mul_le_mul_right _ (by omega))
  have hb3:i*1073741824≤100000*1073741824:=Nat.mul_le_mul_right _ (by omega)
  repeat refine aD ?_
  refine aK (t - (i+1)) _ _ _ (by first|omega|(simp only [List.length_append,List.length_cons,List.length_nil];omega)) aT bN bR (⟨i+1,_,by omega,rfl,hn.symm,rfl,rfl,rfl⟩)
 ·obtain rfl:i=t:=by omega
  rw [List.take_of_length_le (by omega)] at hs
  repeat refine aD ?_
  refine bF (by first|exact .inl rfl|exact .inr rfl) rfl rfl _ _ bN bR (⟨rfl,rfl,by rw [hs]⟩)
end
end Go.Proofs.Ytejbgkajdomgcaa
namespace Go.Proofs.Ytejbgkajdomgcaa
open Go Go.Fx
section
variable {X:List Nat} {w0:World} {M0:List Ent} {I0:List aO}
end
end Go.Proofs.Ytejbgkajdomgcaa
namespace Go.Proofs.Ytejbgkajdomgcaa
open Go Go.Fx
section
variable {X:List Nat} {w0:World} {M0:List Ent} {I0:List aO}
theorem tX {p q:Option Addr} {n:Nat} {ms:List LK} {ls:List Int} {m c t ct:Nat} (hn:n≤256) (hm:ms.length=m) (hm2:m≤1024) (hg:Gd ms n) (ht:ls.length=t) (ht2:t≤100000) (hp:aN p (recs eK ms)∈I0) (hq:aN q (recs (eI .i64) ls)∈I0):
  CD Try.prog 16 [gv n p m c, .slice q t ct] X w0 M0 I0 (fun v M I=>(fA ms ls≠0∧M0=M∧I0=I∧v= .tuple #[.slice none 0 0, .int .i64 (fA ms ls)])∨
   (fA ms ls=0∧I0=I∧∃b u,v= .tuple #[.slice (some ⟨b,0,none⟩) n n, .int .i64 0]∧Rp n u (lo (es ms ls))∧M= .blk b (recs (eI .i64) u) 3::M0)):=by
 refine bO Try.func16 rfl Try.ntmps16 rfl ?_
 refine lU ?_
 refine rF rfl (fun b2=>?_)
 refine aF .here ?_
 repeat refine aD ?_
 refine qU [1,2,12,13] rfl (fun k G M I=>∃i:Nat,i≤t∧k=t - i∧(∀j:Nat,j < i→0≤gt ls j∧gt ls j < m)∧G=[(14, .int .i64 i)]∧M0=M∧I=aN (some ⟨b2,0,none⟩) [.int .i64 n, .slice p m c]::I0) (t) (⟨0,by omega,rfl,fun j hj=>by omega,rfl,rfl,rfl⟩) ?_
 rintro kk G M I ⟨i,hi,rfl,hs,rfl,rfl,rfl⟩
 by_cases hit:i < t
 ·by_cases h0:0≤gt ls i
  ·by_cases h1:gt ls i < m
   ·repeat refine aD ?_
    refine mI (t - (i+1)) (⟨i+1,by omega,rfl,fun j hj=>?_,rfl,rfl,rfl⟩)
    by_cases e:j=i
    ·subst e;exact ⟨h0,h1⟩
    ·exact hs j (by omega)
   ·have hc:=aDN (ms:=ms) (tree:=ls) (i:=i) (by omega) (fun h=>h1 (by have:=h.2;omega))
    repeat refine aD ?_
    refine eY [4,5] (by first|exact .inl rfl|exact .inr rfl) rfl rfl rfl _ _ bN bR (.inl ⟨by rw [hc];decide,rfl,rfl,by rw [hc]⟩)
  ·have hc:=aDN (ms:=ms) (tree:=ls) (i:=i) (by omega) (fun h=>h0 h.1)
   repeat refine aD ?_
   refine eY [4,5] (by first|exact .inl rfl|exact .inr rfl) rfl rfl rfl _ _ bN bR (.inl ⟨by rw [hc];decide,rfl,rfl,by rw [hc]⟩)
 have hr:uH m ls:=aOM (fun j hj=>hs j (by omega))
 have hr':uH ms.length ls:=by rw [hm];exact hr
 repeat refine aD ?_
 clear hs hi hit
 refine qU [1,2] rfl (fun k G M I=>∃i:Nat,1≤i∧(i≤t∨i=1)∧k=t - i∧(∀j:Nat,0 < j→j < i→gt ls ((j:Int) - 1) < gt ls j)∧G=[(8, .int .i64 i)]∧M0=M∧I=aN (some ⟨b2,0,none⟩) [.int .i64 n, .slice p m c]::I0) (t - 1) (⟨1,by omega, .inr rfl,rfl,fun j h0 hj=>by omega,rfl,rfl,rfl⟩) ?_
 rintro kk G M I ⟨i,h0,hi,rfl,hs,rfl,rfl,rfl⟩
 by_cases hit:i < t
 ·by_cases h1:gt ls ((i:Int) - 1) < gt ls i
  ·repeat refine aD ?_
   (repeat refine aL ?_);refine kG 0 [0,1,2,3,4,5,6,7,8,9] [0,0,0,0,0,0,0,0,0,0] mixed (by kernel_rfl) ?_
   repeat refine aD ?_
   refine mI (t - (i+1)) (⟨i+1,by omega, .inl (by omega),rfl,fun j hj0 hj=>?_,rfl,rfl,rfl⟩)
   by_cases e:j=i
   ·subst e;exact h1
   ·exact hs j hj0 (by omega)
  ·have hc:=aLK (ms:=ms) (tree:=ls) (i:=i) hr' (by omega) (by omega) (by omega)
   repeat refine aD ?_
   (repeat refine aL ?_);refine kG 0 [0,1,2,3,4,5,6,7,8,9] [0,0,0,0,0,0,0,0,0,0] mixed (by kernel_rfl) ?_
   repeat refine aD ?_
   refine eY [4,5] (by first|exact .inl rfl|exact .inr rfl) rfl rfl rfl _ _ bN bR (.inl ⟨by rw [hc];decide,rfl,rfl,by rw [hc]⟩)
 have ha:asc ls:=aNL (fun j h0 hj=>hs j h0 (by omega))
 repeat refine aD ?_
 clear hs hi hit
 (refine dS rfl (aDZ hn) ?_;rintro _ _ _ ⟨rfl,b,rfl,rfl⟩;refine cK ?_)
 repeat refine aD ?_
 refine qU [2,9,47,48] rfl (fun k G M I=>∃(i:Nat) (u:List Int),i≤t∧k=t - i∧Fst [] (es ms (ls.take i))∧Rp n u (lo (es ms (ls.take i)))∧G=[(49, .int .i64 i)]∧M= .blk b (recs (eI .i64) u) 3::M0∧I=aN (some ⟨b2,0,none⟩) [.int .i64 n, .slice p m c]::I0) (t) (⟨0,rg n,by omega,rfl,trivial,Rp.new n,rfl,rfl,rfl⟩) ?_
 rintro kk G M I ⟨i,u,hi,rfl,hf,hu,rfl,rfl,rfl⟩
 by_cases hit:i < t
 ·have hri:0≤gt ls i∧gt ls i < m:=hr _ (eO ⟨by omega,by omega⟩)
  have hA:=hg.a _ hri.1 (by omega)
  have hB:=hg.b _ hri.1 (by omega)
  have htk:=gD (l:=ls) (j:=i) (by omega)
  obtain ⟨x,hx⟩:∃x,gt ls (i:Int)=x:=⟨_,rfl⟩
  obtain ⟨y,hy⟩:∃y,(gt ms x).a=y:=⟨_,rfl⟩
  obtain ⟨z,hz⟩:∃z,(gt ms x).b=z:=⟨_,rfl⟩
  rw [hx] at hri htk
  rw [hx,hy] at hA
  rw [hx,hz] at hB
  have h11:=fun h=>aIF (ms:=ms) hr' ha (i:=i) (by omega) h
  have hnx:=fun h=>aII (ms:=ms) (tree:=ls) (i:=i) (by omega) hf h
  rw [hx,hy,hz] at h11 hnx
  have hj:=fun M0 I0=>aAW (X:=X) (w0:=w0) (M0:=M0) (I0:=I0) (b:=b) (c:=n) hn hu hA hB
  by_cases hc:lo (es ms (ls.take i)) y=lo (es ms (ls.take i)) z
  ·rw [bQ (fun h=>h hc)] at hj
   have hc2:=h11 (lo_iff.1 hc)
   repeat refine aD ?_
   rw [hx]
   (repeat refine aL ?_);refine tyW (M0) (aN (some ⟨b2,0,none⟩) [.int .i64 n, .slice p m c]::I0) [0,1,2,3,4,5,6,7,8,9,10,11,12,13,14] [0,1,1,1,1,1,0,1,1,1,1,1,0,0,0] mixed ?_
   repeat refine aD ?_
   rw [hy]
   repeat refine aD ?_
   rw [hz]
   (refine dS rfl (hj _ _) ?_;rintro _ _ _ ⟨rfl,rfl,u2,hu2,rfl⟩;refine cK ?_)
   repeat refine aD ?_
   refine eY [4,5] (by first|exact .inl rfl|exact .inr rfl) rfl rfl rfl _ _ bN bR (.inl ⟨by rw [hc2];decide,rfl,rfl,by rw [hc2]⟩)
  ·rw [dX hc] at hj
   repeat refine aD ?_
   rw [hx]
   (repeat refine aL ?_);refine tyW (M0) (aN (some ⟨b2,0,none⟩) [.int .i64 n, .slice p m c]::I0) [0,1,2,3,4,5,6,7,8,9,10,11,12,13,14] [0,1,1,1,1,1,0,1,1,1,1,1,0,0,0] mixed ?_
   repeat refine aD ?_
   rw [hy]
   repeat refine aD ?_
   rw [hz]
   (refine dS rfl (hj _ _) ?_;rintro _ _ _ ⟨rfl,rfl,u2,hu2,rfl⟩;refine cK ?_)
   repeat refine aD ?_
   refine mI (t - (i+1)) (⟨i+1,u2,by omega,rfl,hnx (fun h=>hc (lo_iff.2 h)),by rw [htk,aNE,hy,hz];exact hu2,rfl,rfl,rfl⟩)
 ·obtain rfl:i=t:=by omega
  rw [List.take_of_length_le (by omega)] at hf hu
  repeat refine aD ?_
  refine tyS [4,5] rfl rfl (.inr ⟨aKL hr' ha hf,rfl,b,u,rfl,hu,rfl⟩)
theorem vF {p q:Option Addr} {n:Nat} {ms:List LK} {ls:List Int} {m c t ct:Nat} (hn:n≤256) (hm:ms.length=m) (hm2:m≤1024) (hg:Gd ms n) (ht:ls.length=t) (ht2:t≤100000) (hc:fA ms ls=0) (hp:aN p (recs eK ms)∈I0) (hq:aN q (recs (eI .i64) ls)∈I0):
  CD Try.prog 16 [gv n p m c, .slice q t ct] X w0 M0 I0 (fun v M I=>I0=I∧∃b u,v= .tuple #[.slice (some ⟨b,0,none⟩) n n, .int .i64 0]∧Rp n u (lo (es ms ls))∧M= .blk b (recs (eI .i64) u) 3::M0):=
 CD.mono (tX hn hm hm2 hg ht ht2 hp hq) (fun v M I h=>by
  rcases h with h|h
  ·exact absurd hc h.1
  ·exact h.2)
theorem aBB {p q:Option Addr} {n:Nat} {ms:List LK} {ls:List Int} {m c t ct:Nat} (hn:n≤256) (hm:ms.length=m) (hm2:m≤1024) (hg:Gd ms n) (ht:ls.length=t) (ht2:t≤100000) (hc:fA ms ls≠0) (hp:aN p (recs eK ms)∈I0) (hq:aN q (recs (eI .i64) ls)∈I0):
  CD Try.prog 16 [gv n p m c, .slice q t ct] X w0 M0 I0 (fun v M I=>M0=M∧I0=I∧v= .tuple #[.slice none 0 0, .int .i64 (fA ms ls)]):=
 CD.mono (tX hn hm hm2 hg ht ht2 hp hq) (fun v M I h=>by
  rcases h with h|h
  ·exact h.2
  ·exact absurd h.1 hc)
theorem xJ {b n b3:Nat} {l:LK} {u:List Int} {f:Int→Int} (hn:n≤256) (hu:Rp n u f) (ha:0≤l.a∧l.a < n) (hb:0≤l.b∧l.b < n) (h3:aN (some ⟨b3,0,none⟩) [.slice (some ⟨b,0,none⟩) n n]∈I0):
  CD Try.prog 31 [.agg (eK l).toArray, .pointer (some ⟨b3,0,none⟩)] X w0 (.blk b (recs (eI .i64) u) 3::M0) I0 (fun v M I=>I0=I∧v= .bool (B (f l.a≠f l.b))∧∃u',Rp n u' f∧M= .blk b (recs (eI .i64) u') 3::M0):=by
 refine bO Try.func31 rfl Try.ntmps31 rfl ?_
 refine lU ?_
 refine rF rfl (fun b2=>?_)
 refine aF .here ?_
 repeat refine aD ?_
 (repeat refine aL ?_);refine tyW (M0) (aN (some ⟨b2,0,none⟩) (eK l)::I0) [0,1,2,4,5,6,3,7,8,9] [1,2,1,1,2,1,0,0,0,0] mixed ?_
 repeat refine aD ?_
 (refine dS rfl (sK hn hu ha) ?_;rintro _ _ _ ⟨rfl,rfl,u1,hu1,rfl⟩;refine cK ?_)
 (refine dS rfl (sK hn hu1 hb) ?_;rintro _ _ _ ⟨rfl,rfl,u2,hu2,rfl⟩;refine cK ?_)
 repeat refine aD ?_
 refine lL rfl rfl (⟨rfl,rfl,u2,hu2,rfl⟩)
theorem aFX {p:Option Addr} {b n b3 m c:Nat} {ms:List LK} {u:List Int} {f:Int→Int} (hn:n≤256) (hm:ms.length=m) (hm2:m≤1024) (hg:Gd ms n) (hu:Rp n u f) (hp:aN p (recs eK ms)∈I0) (h3:aN (some ⟨b3,0,none⟩) [.slice (some ⟨b,0,none⟩) n n]∈I0):
  CD Try.prog 45 [.slice p m c, .func (.func 31) #[] #[.pointer (some ⟨b3,0,none⟩)]] X w0 (.blk b (recs (eI .i64) u) 3::M0) I0 (fun v M I=>I0=I∧(∃r:Int,v= .int .i64 r∧((0≤r∧∃l∈ms,f l.a≠f l.b)∨(r= -1∧∀l∈ms,f l.a=f l.b)))∧∃u',Rp n u' f∧M= .blk b (recs (eI .i64) u') 3::M0):=by
 refine bO Try.func45 rfl Try.ntmps45 rfl ?_
 repeat refine aD ?_
 refine qU [0,1,7] rfl (fun k G M I=>∃(i:Nat) (u:List Int),i≤m∧k=m - i∧(∀j:Nat,j < i→f (gt ms j).a=f (gt ms j).b)∧Rp n u f∧G=[(8, .int .i64 i)]∧M= .blk b (recs (eI .i64) u) 3::M0∧I0=I) (m) (⟨0,u,by omega,rfl,fun j hj=>by omega,hu,rfl,rfl,rfl⟩) ?_
 clear hu
 rintro kk G M I ⟨i,u,hi,rfl,hs,hu,rfl,rfl,rfl⟩
 by_cases him:i < m
 ·have hA:=hg.a (i:Int) (by omega) (by omega)
  have hB:=hg.b (i:Int) (by omega) (by omega)
  by_cases he:f (gt ms i).a=f (gt ms i).b
  ·repeat refine aD ?_
   (refine pV rfl rfl (xJ (l:=gt ms i) hn hu hA hB aG) rfl rfl rfl ?_;rintro _ _ _ ⟨rfl,rfl,u2,hu2,rfl⟩;refine cK ?_)
   rw [bQ (fun h=>h he)]
   repeat refine aD ?_
   refine mI (m - (i+1)) (⟨i+1,u2,by omega,rfl,fun j hj=>?_,hu2,rfl,rfl,rfl⟩)
   by_cases e:j=i
   ·subst e;exact he
   ·exact hs j (by omega)
  ·repeat refine aD ?_
   (refine pV rfl rfl (xJ (l:=gt ms i) hn hu hA hB aG) rfl rfl rfl ?_;rintro _ _ _ ⟨rfl,rfl,u2,hu2,rfl⟩;refine cK ?_)
   rw [dX he]
   repeat refine aD ?_
   refine bF (by first|exact .inl rfl|exact .inr rfl) rfl rfl _ _ bN bR (⟨rfl,⟨_,rfl, .inl ⟨by omega,gt ms i,eO ⟨by omega,by omega⟩,he⟩⟩,u2,hu2,rfl⟩)
 ·repeat refine aD ?_
  refine bF (by first|exact .inl rfl|exact .inr rfl) rfl rfl _ _ bN bR (⟨rfl,⟨_,rfl, .inr ⟨rfl,fun l hl=>?_⟩⟩,u,hu,rfl⟩)
  obtain ⟨j,hj,rfl⟩:=List.mem_iff_getElem.1 hl
  have:=hs j (by omega)
  rwa [aP hj] at this
theorem aFW {p:Option Addr} {b n b3 m c:Nat} {ms:List LK} {u:List Int} {f:Int→Int} (hn:n≤256) (hm:ms.length=m) (hm2:m≤1024) (hg:Gd ms n) (hu:Rp n u f) (hp:aN p (recs eK ms)∈I0) (h3:aN (some ⟨b3,0,none⟩) [.slice (some ⟨b,0,none⟩) n n]∈I0):
  CD Try.prog 30 [.slice p m c, .func (.func 31) #[] #[.pointer (some ⟨b3,0,none⟩)]] X w0 (.blk b (recs (eI .i64) u) 3::M0) I0 (fun v M I=>I0=I∧v= .bool (B (¬∀l∈ms,f l.a=f l.b))∧∃u',Rp n u' f∧M= .blk b (recs (eI .i64) u') 3::M0):=by
 refine bO Try.func30 rfl Try.ntmps30 rfl ?_
 repeat refine aD ?_
 (refine dS rfl (aFX hn hm hm2 hg hu hp h3) ?_;rintro _ _ _ ⟨rfl,⟨r,rfl,hr⟩,u2,hu2,rfl⟩;refine cK ?_)
 repeat refine aD ?_
 refine lL rfl rfl (⟨rfl,congrArg Value.bool (qA ?_),u2,hu2,rfl⟩)
 rcases hr with ⟨h1,l,hl,h2⟩|⟨rfl,h1⟩
 ·exact ⟨fun _ h=>h2 (h l hl),fun _=>h1⟩
 ·exact ⟨fun h=>by omega,fun h=>absurd h1 h⟩
theorem rW {p:Option Addr} {b n m c:Nat} {ms:List LK} {u:List Int} {f:Int→Int} (hn:n≤256) (hm:ms.length=m) (hm2:m≤1024) (hg:Gd ms n) (hu:Rp n u f) (hp:aN p (recs eK ms)∈I0):
  CD Try.prog 17 [gv n p m c, .slice (some ⟨b,0,none⟩) n n] X w0 (.blk b (recs (eI .i64) u) 3::M0) I0 (fun v M I=>I0=I∧v= .bool (B (∀l∈ms,f l.a=f l.b))∧∃u',Rp n u' f∧M= .blk b (recs (eI .i64) u') 3::M0):=by
 refine bO Try.func17 rfl Try.ntmps17 rfl ?_
 refine lU ?_
 refine rF rfl (fun b2=>?_)
 refine aF .here ?_
 (refine aEL rfl rfl rfl ?_;intro b3;refine cK ?_)
 repeat refine aD ?_
 (refine dS rfl (aFW (b3:=b3) hn hm hm2 hg hu aG aG) ?_;rintro _ _ _ ⟨rfl,rfl,u2,hu2,rfl⟩;refine cK ?_)
 repeat refine aD ?_
 refine lL rfl rfl (⟨rfl,congrArg Value.bool (qA ⟨fun h=>Decidable.of_not_not h,fun h hn=>hn h⟩),u2,hu2,rfl⟩)
end
end Go.Proofs.Ytejbgkajdomgcaa
namespace Go.Fx
theorem gH {p g:Prop} (h:g) (w:BoxP g→p:=by (intro hh;(first|refine aL ?_|refine dC ?_|refine jV ?_|refine gV ?_|refine dY ?_|refine dN ?_|refine gW ?_|refine eT ?_|refine eH ?_|refine eP ?_|refine jT ?_|refine jK ?_|refine jH ?_|refine jP rfl ?_|refine gG ?_|(refine fG ?_;first|refine fC rfl rfl rfl ?_|(refine fU rfl rfl ?_;refine dM rfl rfl rfl okD ?_)|refine fF rfl rfl (by omega) ?_|refine fE rfl rfl (by omega) ?_)|(refine bD ?_;refine aC rfl (fun _=>bV rfl) rfl rfl ?_)|refine aC rfl (fun _=>aM rfl) rfl rfl ?_|(refine fV ?_;first|refine aC rfl (fun _=>aR rfl rfl w_) rfl rfl ?_|refine aC rfl (fun _=>aS rfl rfl w_) rfl rfl ?_|refine aC rfl (fun _=>cZ rfl rfl w_) rfl rfl ?_|refine aC rfl (fun _=>dB rfl rfl (by omega) q_) rfl rfl ?_|refine aC rfl (fun _=>dA rfl rfl (by omega) rfl) rfl rfl ?_|refine aC rfl (fun _=>bW rfl rfl) rfl rfl ?_)|(refine bD ?_;first|refine aC rfl (fun _=>bY rfl w_) rfl rfl ?_)|(refine fQ ?_;first|refine aC rfl (fun _=>bM rfl w_) rfl rfl ?_)|(refine fO ?_;first|refine aC rfl (fun _=>aQ rfl) rfl rfl ?_|refine aC rfl (fun _=>bS rfl rfl) rfl rfl ?_|refine aC rfl (fun _=>bT rfl rfl) rfl rfl ?_|refine aC rfl (fun _=>bX rfl rfl rfl) rfl rfl ?_)|(refine fP ?_;first|refine fB rfl (by decide) rfl rfl ?_|refine iN rfl (by decide) rfl rfl ?_)|(refine fJ ?_;first|refine aC rfl (fun _=>bH rfl) rfl rfl ?_)|(refine fH ?_;first|refine iR rfl rfl gP rfl rfl ?_|refine iP nW rfl rfl gP aH iX rfl rfl ?_|refine iO nW rfl rfl gP aH iX rfl rfl ?_|refine aC rfl (fun _=>bA rfl rfl gP) rfl rfl ?_)|(refine fT ?_;first|refine iU nW rfl aH nA rfl rfl ?_|refine iT nW rfl aH nA rfl rfl ?_|refine iA nW rfl aH nA rfl rfl ?_|refine fD nW rfl aH nA rfl rfl ?_|refine jN nW rfl aH gJ dE rfl rfl ?_|refine jX nW rfl aH gJ dE rfl rfl ?_|refine jS nW rfl aH gJ dE rfl rfl ?_|refine gY nW rfl aH gJ dE rfl rfl ?_)|(refine fK ?_;first|refine aC rfl (fun _=>bC rfl rfl) rfl rfl ?_|refine aC rfl (fun _=>bB rfl) rfl rfl ?_)|(refine gT ?_;first|refine lZ rfl rfl rfl mH stC rfl rfl ⟨okD,?_⟩|refine iE rfl rfl dE rQ mH qW rfl rfl ⟨okD,?_⟩)|(refine gU ?_;first|refine bK rfl ?_|refine bE rfl ?_|refine jM rfl (by omega) ?_|refine mO rfl (by omega) ?_));(repeat (first|refine aL ?_|refine dC ?_|refine jV ?_|refine gV ?_|refine dY ?_|refine dN ?_|refine gW ?_|refine eT ?_|refine eH ?_|refine eP ?_|refine jT ?_|refine jK ?_|refine jH ?_|refine jP rfl ?_|refine gG ?_|(refine fG ?_;first|refine fC rfl rfl rfl ?_|(refine fU rfl rfl ?_;refine dM rfl rfl rfl okD ?_)|refine fF rfl rfl (by omega) ?_|refine fE rfl rfl (by omega) ?_)|(refine bD ?_;refine aC rfl (fun _=>bV rfl) rfl rfl ?_)|refine aC rfl (fun _=>aM rfl) rfl rfl ?_|(refine fV ?_;first|refine aC rfl (fun _=>aR rfl rfl w_) rfl rfl ?_|refine aC rfl (fun _=>aS rfl rfl w_) rfl rfl ?_|refine aC rfl (fun _=>cZ rfl rfl w_) rfl rfl ?_|refine aC rfl (fun _=>dB rfl rfl (by omega) q_) rfl rfl ?_|refine aC rfl (fun _=>dA rfl rfl (by omega) rfl) rfl rfl ?_|refine aC rfl (fun _=>bW rfl rfl) rfl rfl ?_)|(refine bD ?_;first|refine aC rfl (fun _=>bY rfl w_) rfl rfl ?_)|(refine fQ ?_;first|refine aC rfl (fun _=>bM rfl w_) rfl rfl ?_)|(refine fO ?_;first|refine aC rfl (fun _=>aQ rfl) rfl rfl ?_|refine aC rfl (fun _=>bS rfl rfl) rfl rfl ?_|refine aC rfl (fun _=>bT rfl rfl) rfl rfl ?_|refine aC rfl (fun _=>bX rfl rfl rfl) rfl rfl ?_)|(refine fP ?_;first|refine fB rfl (by decide) rfl rfl ?_|refine iN rfl (by decide) rfl rfl ?_)|(refine fJ ?_;first|refine aC rfl (fun _=>bH rfl) rfl rfl ?_)|(refine fH ?_;first|refine iR rfl rfl gP rfl rfl ?_|refine iP nW rfl rfl gP aH iX rfl rfl ?_|refine iO nW rfl rfl gP aH iX rfl rfl ?_|refine aC rfl (fun _=>bA rfl rfl gP) rfl rfl ?_)|(refine fT ?_;first|refine iU nW rfl aH nA rfl rfl ?_|refine iT nW rfl aH nA rfl rfl ?_|refine iA nW rfl aH nA rfl rfl ?_|refine fD nW rfl aH nA rfl rfl ?_|refine jN nW rfl aH gJ dE rfl rfl ?_|refine jX nW rfl aH gJ dE rfl rfl ?_|refine jS nW rfl aH gJ dE rfl rfl ?_|refine gY nW rfl aH gJ dE rfl rfl ?_)|(refine fK ?_;first|refine aC rfl (fun _=>bC rfl rfl) rfl rfl ?_|refine aC rfl (fun _=>bB rfl) rfl rfl ?_)|(refine gT ?_;first|refine lZ rfl rfl rfl mH stC rfl rfl ⟨okD,?_⟩|refine iE rfl rfl dE rQ mH qW rfl rfl ⟨okD,?_⟩)|(refine gU ?_;first|refine bK rfl ?_|refine bE rfl ?_|refine jM rfl (by omega) ?_|refine mO rfl (by omega) ?_)));exact hh.out)):p:=w ⟨h⟩
end Go.Fx

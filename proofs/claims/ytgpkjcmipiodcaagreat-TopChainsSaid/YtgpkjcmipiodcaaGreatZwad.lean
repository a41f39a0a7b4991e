/- The symbolic heap: what a function owns, what it only reads; judgements that speak of no w -/
import Derived.Test.YtgpkjcmipiodcaaGreatZwac
set_option linter.unusedSimpArgs false
set_option linter.unusedVariables false
set_option maxRecDepth 100000
set_option maxHeartbeats 4000000
namespace Go.Fx
/- ---------- lists of records ---------- -/
def recs {α:Type} (enc:α→List Value) (ms:List α):List Value:=ms.flatMap enc
def gt {α:Type} [Inhabited α] (ms:List α) (i:Int):α:=ms.getD i.toNat default
def st {α:Type} (ms:List α) (i:Int) (m:α):List α:=ms.set i.toNat m
abbrev eI (k:IntKind):Int→List Value:=fun x=>[.int k x]
abbrev eB:Bool→List Value:=fun x=>[.bool x]
class Sized {α:Type} (enc:α→List Value) (sz:outParam Nat):Prop where
 len:∀m,(enc m).length=sz
instance (k:IntKind):Sized (eI k) 1:=⟨fun _=>rfl⟩
instance:Sized eB 1:=⟨fun _=>rfl⟩
section
variable {α:Type} {enc:α→List Value} {sz:Nat}
theorem fJ [h:Sized enc sz] (ms:List α):(recs enc ms).length=ms.length*sz:=by
 induction ms with
 |nil=>simp [recs]
 |cons m r ih=>
  have:recs enc (m::r)=enc m++recs enc r:=rfl
  rw [this,List.length_append,ih,h.len,List.length_cons,Nat.add_mul];omega
theorem jO (a b:List α):recs enc (a++b)=recs enc a++recs enc b:=by simp [recs]
theorem zV [h:Sized enc sz]:∀(ms:List α) (i j:Nat) (m:α) (v:Value),ms[i]?=some m→(enc m)[j]?=some v→(recs enc ms)[i*sz+j]?=some v
 |[],i,j,m,v,hi,_=>by simp at hi
 |x::r,0,j,m,v,hi,hj=>by
  have e:recs enc (x::r)=enc x++recs enc r:=rfl
  have hx:x=m:=by simpa using hi
  subst hx
  have hlt:=(List.getElem?_eq_some_iff.1 hj).1
  rw [e,Nat.zero_mul,Nat.zero_add,List.getElem?_append_left hlt]
  exact hj
 |x::r,i+1,j,m,v,hi,hj=>by
  have e:recs enc (x::r)=enc x++recs enc r:=rfl
  have ih:=zV r i j m v (by simpa using hi) hj
  rw [e,List.getElem?_append_right (by rw [h.len,Nat.add_mul];omega),h.len]
  rw [←ih]
  congr 1
  rw [Nat.add_mul];omega
theorem rJ (k:IntKind) (xs:List Int):recs (eI k) xs=xs.map (Value.int k):=by
 induction xs with
 |nil=>rfl
 |cons x r ih=>exact congrArg (Value.int k x:: ·) ih
theorem aHD [Inhabited α] {ms:List α} {i:Int} (h:0≤i∧i < ms.length):ms[i.toNat]?=some (gt ms i):=by
 have:i.toNat < ms.length:=by omega
 simp [gt,List.getD,this]
theorem bBB [Inhabited α] (ms:List α) (i:Nat):gt ms (i:Int)=ms.getD i default:=by simp [gt]
theorem eU [Inhabited α] {ms:List α} {i:Nat} (h:i < ms.length):gt ms (i:Int)=ms[i]:=by simp [gt,List.getD,h]
theorem mX [Inhabited α] [h:Sized enc sz] {ms:List α} {i:Int} (hi:0≤i∧i < ms.length) {j:Nat} {v:Value} (hv:(enc (gt ms i))[j]?=some v):(recs enc ms)[i.toNat*sz+j]?=some v:=
 zV ms i.toNat j _ v (aHD hi) hv
theorem uE [h:Sized enc sz]:∀(ms:List α) (i:Nat) (m:α),i < ms.length→splice (recs enc ms) (i*sz) (enc m)=recs enc (ms.set i m)
 |[],i,m,hi=>by simp at hi
 |x::r,0,m,_=>by
  have e:recs enc (x::r)=enc x++recs enc r:=rfl
  have hx:=h.len x
  have hm:=h.len m
  simp only [splice,e,Nat.zero_mul,Nat.zero_add,List.take_zero,List.nil_append,hm,List.set_cons_zero]
  rw [←hx,List.drop_left]
  rfl
 |x::r,i+1,m,hi=>by
  have e:recs enc (x::r)=enc x++recs enc r:=rfl
  have e2:recs enc ((x::r).set (i+1) m)=enc x++recs enc (r.set i m):=rfl
  have ih:=uE r i m (by simpa using hi)
  have hx:=h.len x
  rw [e2,←ih,e]
  simp only [splice]
  have h1:(i+1)*sz=(enc x).length+i*sz:=by rw [hx,Nat.add_mul];omega
  rw [h1,List.take_append,List.take_of_length_le (by omega)]
  have h2:(enc x).length+i*sz+(enc m).length=(enc x).length+(i*sz+(enc m).length):=by omega
  rw [h2,List.drop_append,List.drop_of_length_le (by omega)]
  simp
theorem dB (ms:List α) (i:Int) (m:α):(st ms i m).length=ms.length:=by simp [st]
theorem aBO [Inhabited α] {ms:List α} {i j:Int} (m:α) (hi:0≤i∧i < ms.length) (hj:0≤j):gt (st ms i m) j=if j=i then m else gt ms j:=by
 unfold gt st
 by_cases e:j=i
 ·subst e
  rw [if_pos rfl]
  have:j.toNat < ms.length:=by omega
  simp [List.getD,this]
 ·rw [if_neg e]
  have:i.toNat≠j.toNat:=by omega
  simp [List.getD,List.getElem?_set_ne this]
end
/- ---------- entries, facts ---------- -/
inductive Ent where
 |blk (b:Nat) (cs:List Value) (e:TypeId)
 |row (a:Option Addr) (m c:Nat) (cs:List Value) (e:TypeId) (sz:Nat)
 |obj (b:Nat) (o:Obj)
def Ent.blocks:Ent→List Nat
 | .blk b _ _=>[b]
 | .row (some a) _ _ _ _ _=>[a.block]
 | .row none _ _ _ _ _=>[]
 | .obj b _=>[b]
def Ent.ok (w:World):Ent→Prop
 | .blk b cs e=>Blk w b cs e
 | .row a m c cs e sz=>w.ownsRow 0 e sz (.slice a m c) m cs
 | .obj b o=>w.heap[b]?=some o
def muts (M:List Ent):List Nat:=M.flatMap Ent.blocks
theorem Ent.lt {w:World} {en:Ent} (h:en.ok w):∀b∈en.blocks,b < w.heap.size:=by
 intro b hb
 cases en with
 |blk b' cs e=>simp [Ent.blocks] at hb;subst hb;exact Blk.lt h
 |row a m c cs e sz=>
  cases a with
  |none=>simp [Ent.blocks] at hb
  |some a=>
   simp [Ent.blocks] at hb;subst hb
   exact (aZK (w:=w) (base:=0) (e:=e) (sz:=sz) (v:= .slice (some a) m c) (m:=m) (xs:=cs) h a.block rfl).2
 |obj b' o=>simp [Ent.blocks] at hb;subst hb;exact (Array.getElem?_eq_some_iff.1 h).1
theorem Ent.keep {w w':World} {X:List Nat} {en:Ent} (h:en.ok w) (he:Ext X w w') (hx:∀b∈en.blocks,b ∉ X):en.ok w':=by
 cases en with
 |blk b cs e=>exact Blk.ext h he (hx b (by simp [Ent.blocks]))
 |row a m c cs e sz=>
  refine aXF (v:= .slice a m c) h he (fun k hk=>?_)
  cases a with
  |none=>simp [Value.ownBlock] at hk
  |some a=>simp [Value.ownBlock] at hk;subst hk;exact hx _ (by simp [Ent.blocks])
 |obj b o=>
  have h':w.heap[b]?=some o:=h
  exact (he.block b (Array.getElem?_eq_some_iff.1 h').1 (hx b (by simp [Ent.blocks]))).trans h'
abbrev aV:=List Nat→World→Prop
class Good (φ:aV):Prop where
 go:∀X Y w w',φ X w→Ext X w w'→(∀y∈Y,y∈X∨w.heap.size≤y)→φ Y w'
structure SlI (a:Option Addr) (cs:List Value) (X:List Nat) (w:World):Prop where
 go:Sl X w a cs
abbrev aI (a:Option Addr) (cs:List Value):aV:=SlI a cs
instance (a:Option Addr) (cs:List Value):Good (SlI a cs):=⟨fun _ _ _ _ h he hY=>⟨Sl.carry h.go he hY⟩⟩
structure Mem (X:List Nat) (w0:World) (M:List Ent) (I:List aV) (w:World):Prop where
 ext:Ext X w0 w
 own:∀b∈muts M,b∈X∨w0.heap.size≤b
 nd:(muts M).Nodup
 ent:∀e∈M,e.ok w
 imm:∀φ∈I,Good φ∧φ (muts M) w
section
variable {X:List Nat} {w0 w w':World} {M M':List Ent} {I I':List aV}
theorem yY {en:Ent} (h:en∈M):∀b∈en.blocks,b∈muts M:=fun b hb=>List.mem_flatMap.2 ⟨en,h,hb⟩
theorem Mem.lt (h:Mem X w0 M I w):∀b∈muts M,b < w.heap.size:=fun b hb=>by
 obtain ⟨en,he,hb⟩:=List.mem_flatMap.1 hb
 exact Ent.lt (h.ent en he) b hb
theorem Mem.call (h:Mem X w0 M I w) (he:Ext [] w w'):Mem X w0 M I w':=
 ⟨h.ext.trans he.of_nil,h.own,h.nd,fun e hm=>Ent.keep (h.ent e hm) he (by simp),fun φ hp=>⟨(h.imm φ hp).1,(h.imm φ hp).1.go _ _ _ _ (h.imm φ hp).2 he.of_nil (fun y hy=> .inl hy)⟩⟩
theorem Mem.drew (h:Mem X w0 M I w):Mem X w0 M I w.drew:=h.call (Ext.drew _ _)
theorem Mem.push (h:Mem X w0 M I w) (he:Ext [] w w') {en:Ent} (hb:∀b∈en.blocks,w.heap.size≤b) (hn:en.blocks.Nodup) (ho:en.ok w'):Mem X w0 (en::M) I w':=by
 have h':=h.call he
 refine ⟨h'.ext,?_,?_,?_,fun φ hp=>⟨(h.imm φ hp).1,(h.imm φ hp).1.go _ _ _ _ (h.imm φ hp).2 he.of_nil ?_⟩⟩
 ·intro b hm
  rcases List.mem_append.1 hm with hm|hm
  ·exact .inr (Nat.le_trans h.ext.size (hb b hm))
  ·exact h.own b hm
 ·refine List.nodup_append.2 ⟨hn,h.nd,fun a ha b hb'=>?_⟩
  intro e
  subst e
  have:=hb a ha
  have:=h.lt a hb'
  omega
 ·intro e hm
  rcases List.mem_cons.1 hm with rfl|hm
  ·exact ho
  ·exact h'.ent e hm
 ·intro y hy
  rcases List.mem_append.1 hy with hy|hy
  ·exact .inr (hb y hy)
  ·exact .inl hy
theorem Mem.add (h:Mem X w0 M I w) {φ:aV} [hg:Good φ] (hp:φ (muts M) w):Mem X w0 M (φ::I) w:=
 ⟨h.ext,h.own,h.nd,h.ent,fun ψ hm=>by
  rcases List.mem_cons.1 hm with rfl|hm
  ·exact ⟨hg,hp⟩
  ·exact h.imm ψ hm⟩
inductive Rep (en en':Ent):List Ent→List Ent→Prop
 |here {M:List Ent}:Rep en en' (en::M) (en'::M)
 |there {x:Ent} {M M':List Ent} (h:Rep en en' M M'):Rep en en' (x::M) (x::M')
theorem Rep.split {en en':Ent} (h:Rep en en' M M'):∃A B,M=A++en::B∧M'=A++en'::B:=by
 induction h with
 |here=>exact ⟨[],_,rfl,rfl⟩
 |there _ ih=>
  obtain ⟨A,B,rfl,rfl⟩:=ih
  exact ⟨_::A,B,rfl,rfl⟩
theorem Rep.at {en en':Ent}:∀{M:List Ent} {k:Nat},M[k]?=some en→Rep en en' M (M.set k en')
 |[],_,h=>by simp at h
 |x::r,0,h=>by simp at h;subst h;exact .here
 |x::r,k+1,h=> .there (Rep.at (M:=r) (k:=k) (by simpa using h))
theorem Rep.mem {en en':Ent} (h:Rep en en' M M'):en∈M:=by
 obtain ⟨A,B,rfl,_⟩:=h.split
 simp
theorem mI (A B:List Ent) (en:Ent):muts (A++en::B)=muts A++(en.blocks++muts B):=by simp [muts]
theorem Mem.upd {en en':Ent} (h:Mem X w0 M I w) (hr:Rep en en' M M') (he:Ext en.blocks w w') (hb:∀b∈en'.blocks,b∈en.blocks∨w.heap.size≤b) (hn:en'.blocks.Nodup) (ho:en'.ok w'):Mem X w0 M' I w':=by
 obtain ⟨A,B,rfl,rfl⟩:=hr.split
 have hnd:=h.nd
 rw [mI] at hnd
 have h1:=List.nodup_append.1 hnd
 have h2:=List.nodup_append.1 h1.2.1
 have hown:∀b∈en.blocks,b∈X∨w0.heap.size≤b:=fun b hb=>h.own b (yY (by simp) b hb)
 have hmA:∀x∈A,x∈A++en::B:=fun x hx=>by simp [hx]
 have hmB:∀x∈B,x∈A++en::B:=fun x hx=>by simp [hx]
 have ltA:∀b∈muts A,b < w.heap.size:=fun b hb=>h.lt b (by rw [mI];simp [hb])
 have ltB:∀b∈muts B,b < w.heap.size:=fun b hb=>h.lt b (by rw [mI];simp [hb])
 refine ⟨h.ext.step he hown,?_,?_,?_,fun φ hp=>⟨(h.imm φ hp).1,(h.imm φ hp).1.go (muts (A++en::B)) _ w w' (h.imm φ hp).2 (he.weaken (fun k hk=>yY (by simp) k hk)) ?_⟩⟩
 ·intro b hm
  rw [mI] at hm
  rcases List.mem_append.1 hm with hm|hm
  ·exact h.own b (by rw [mI];simp [hm])
  ·rcases List.mem_append.1 hm with hm|hm
   ·rcases hb b hm with hb|hb
    ·exact hown b hb
    ·exact .inr (Nat.le_trans h.ext.size hb)
   ·exact h.own b (by rw [mI];simp [hm])
 ·rw [mI]
  refine List.nodup_append.2 ⟨h1.1,List.nodup_append.2 ⟨hn,h2.2.1,?_⟩,?_⟩
  ·intro a ha b hbB e
   subst e
   rcases hb a ha with hb|hb
   ·exact h2.2.2 a hb a hbB rfl
   ·have:=ltB a hbB;omega
  ·intro a ha b hbB e
   subst e
   rcases List.mem_append.1 hbB with hbB|hbB
   ·rcases hb a hbB with hb|hb
    ·exact h1.2.2 a ha a (by simp [hb]) rfl
    ·have:=ltA a ha;omega
   ·exact h1.2.2 a ha a (by simp [hbB]) rfl
 ·intro e hm
  rcases List.mem_append.1 hm with hm|hm
  ·refine Ent.keep (h.ent e (hmA e hm)) he (fun b hb hb2=>?_)
   exact h1.2.2 b (yY hm b hb) b (by simp [hb2]) rfl
  ·rcases List.mem_cons.1 hm with rfl|hm
   ·exact ho
   ·refine Ent.keep (h.ent e (hmB e hm)) he (fun b hb hb2=>?_)
    exact h2.2.2 b hb2 b (yY hm b hb) rfl
 ·intro y hy
  rw [mI] at hy ⊢
  rcases List.mem_append.1 hy with hy|hy
  ·exact .inl (by simp [hy])
  ·rcases List.mem_append.1 hy with hy|hy
   ·rcases hb y hy with hb|hb
    ·exact .inl (by simp [hb])
    ·exact .inr hb
   ·exact .inl (by simp [hy])
inductive Rem (en:Ent):List Ent→List Ent→Prop
 |here {M:List Ent}:Rem en (en::M) M
 |there {x:Ent} {M M':List Ent} (h:Rem en M M'):Rem en (x::M) (x::M')
theorem Rem.split {en:Ent} (h:Rem en M M'):∃A B,M=A++en::B∧M'=A++B:=by
 induction h with
 |here=>exact ⟨[],_,rfl,rfl⟩
 |there _ ih=>
  obtain ⟨A,B,rfl,rfl⟩:=ih
  exact ⟨_::A,B,rfl,rfl⟩
theorem Rem.perm {en:Ent} (h:Rem en M M'):M.Perm (en::M'):=by
 induction h with
 |here=>exact List.Perm.refl _
 |there _ ih=>exact (List.Perm.cons _ ih).trans (List.Perm.swap _ _ _)
inductive SubP:List Ent→List Ent→Prop
 |refl {M:List Ent}:SubP M M
 |nil {M:List Ent}:SubP M []
 |cons {x:Ent} {M M1 M':List Ent} (h:Rem x M M1) (k:SubP M1 M'):SubP M (x::M')
 |drop {x:Ent} {M M':List Ent} (k:SubP M M'):SubP (x::M) M'
theorem aFT (h:M.Perm M'):(muts M).Perm (muts M'):=h.flatMap_right _
theorem Mem.perm (h:Mem X w0 M I w) (hp:M.Perm M'):Mem X w0 M' I w:=by
 have hm:=aFT hp
 exact ⟨h.ext,fun b hb=>h.own b (hm.mem_iff.2 hb),hm.nodup_iff.1 h.nd,fun e he=>h.ent e (hp.mem_iff.2 he),fun φ hq=>⟨(h.imm φ hq).1,(h.imm φ hq).1.go _ _ _ _ (h.imm φ hq).2 (Ext.refl _ _) (fun y hy=> .inl (hm.mem_iff.2 hy))⟩⟩
theorem Mem.tail {x:Ent} (h:Mem X w0 (x::M) I w):Mem X w0 M I w:=
 ⟨h.ext,fun b hb=>h.own b (List.mem_append.2 (.inr hb)),(List.nodup_append.1 h.nd).2.1,fun e he=>h.ent e (List.mem_cons_of_mem _ he),fun φ hq=>⟨(h.imm φ hq).1,(h.imm φ hq).1.go _ _ _ _ (h.imm φ hq).2 (Ext.refl _ _) (fun y hy=> .inl (List.mem_append.2 (.inr hy)))⟩⟩
theorem Mem.empty (h:Mem X w0 M I w):Mem X w0 [] I w:=by
 induction M with
 |nil=>exact h
 |cons x M ih=>exact ih h.tail
theorem Mem.keep {x:Ent} (h:Mem X w0 (x::M) I w) (hh:∀I w,Mem X w0 M I w→Mem X w0 M' I w) (hs:∀y∈muts M',y∈muts M):Mem X w0 (x::M') I w:=by
 have ht:=hh _ _ h.tail
 have hnd:=List.nodup_append.1 h.nd
 refine ⟨h.ext,?_,List.nodup_append.2 ⟨hnd.1,ht.nd,fun a ha b hb=>hnd.2.2 a ha b (hs b hb)⟩,?_,fun φ hq=>⟨(h.imm φ hq).1,(h.imm φ hq).1.go _ _ _ _ (h.imm φ hq).2 (Ext.refl _ _) ?_⟩⟩
 ·intro b hb
  rcases List.mem_append.1 hb with hb|hb
  ·exact h.own b (List.mem_append.2 (.inl hb))
  ·exact ht.own b hb
 ·intro e he
  rcases List.mem_cons.1 he with rfl|he
  ·exact h.ent _ (by simp)
  ·exact ht.ent e he
 ·intro y hy
  rcases List.mem_append.1 hy with hy|hy
  ·exact .inl (List.mem_append.2 (.inl hy))
  ·exact .inl (List.mem_append.2 (.inr (hs y hy)))
theorem SubP.muts (h:SubP M M'):∀y∈muts M',y∈muts M:=by
 induction h with
 |refl=>exact fun y hy=>hy
 |nil=>intro y hy;simp [Fx.muts] at hy
 |cons hr _ ih=>
  intro y hy
  refine (aFT hr.perm).mem_iff.2 ?_
  rcases List.mem_append.1 hy with hy|hy
  ·exact List.mem_append.2 (.inl hy)
  ·exact List.mem_append.2 (.inr (ih y hy))
 |drop _ ih=>exact fun y hy=>List.mem_append.2 (.inr (ih y hy))
theorem Mem.sub (h:Mem X w0 M I w) (hs:SubP M M'):Mem X w0 M' I w:=by
 induction hs generalizing I w with
 |refl=>exact h
 |nil=>exact h.empty
 |cons hr k ih=>exact (h.perm hr.perm).keep (fun I w h=>ih h) k.muts
 |drop _ ih=>exact ih h.tail
inductive Inc (I:List aV):List aV→Prop
 |refl:Inc I I
 |nil:Inc I []
 |cons {φ:aV} {I':List aV} (h:φ∈I) (k:Inc I I'):Inc I (φ::I')
 |of {I':List aV} (h:∀φ∈I',φ∈I):Inc I I'
theorem Inc.mem (h:Inc I I'):∀φ∈I',φ∈I:=by
 induction h with
 |refl=>exact fun _ h=>h
 |nil=>intro φ h;simp at h
 |cons h _ ih=>
  intro φ hp
  rcases List.mem_cons.1 hp with rfl|hp
  ·exact h
  ·exact ih φ hp
 |of h=>exact h
theorem Inc.wk {φ:aV} (h:Inc I I'):Inc (φ::I) I':= .of (fun ψ hp=>List.mem_cons_of_mem _ (h.mem ψ hp))
theorem Mem.inc (h:Mem X w0 M I w) (hi:Inc I I'):Mem X w0 M I' w:=⟨h.ext,h.own,h.nd,h.ent,fun φ hp=>h.imm φ (hi.mem φ hp)⟩
theorem Mem.weak (h:Mem X w0 M I w) (hs:SubP M M') (hi:Inc I I'):Mem X w0 M' I' w:=(h.sub hs).inc hi
theorem Mem.freezeB {b:Nat} {cs:List Value} {e:TypeId} (h:Mem X w0 M I w) (hr:Rem (.blk b cs e) M M'):Mem X w0 M' (aI (some ⟨b,0,none⟩) cs::I) w:=by
 have hp:=h.perm hr.perm
 have hb:Blk w b cs e:=hp.ent _ List.mem_cons_self
 have hn:b ∉ muts M':=by
  have:=(List.nodup_append.1 hp.nd).2.2
  intro hm
  exact this b (by simp [Ent.blocks]) b hm rfl
 exact hp.tail.add (φ:=aI (some ⟨b,0,none⟩) cs) ⟨Blk.sl hb hn 0 (fun j v hj=>by simpa using hj)⟩
theorem Mem.freezeR {a:Option Addr} {m c:Nat} {cs:List Value} {e:TypeId} {sz:Nat} (h:Mem X w0 M I w) (hr:Rem (.row a m c cs e sz) M M'):Mem X w0 M' (aI a cs::I) w:=by
 have hp:=h.perm hr.perm
 have ho:w.ownsRow 0 e sz (.slice a m c) m cs:=hp.ent _ List.mem_cons_self
 obtain ⟨a',c',hv,hs,_,_⟩:=aGW ho
 injection hv with e1 e2 e3
 subst e1
 refine hp.tail.add (φ:=aI a cs) ⟨hs _ fun k hk hm=>?_⟩
 have:=(List.nodup_append.1 hp.nd).2.2
 cases a with
 |none=>simp [Value.ownBlock] at hk
 |some a=>simp [Value.ownBlock] at hk;subst hk;exact this a.block (by simp [Ent.blocks]) a.block hm rfl
theorem Mem.toRow {b m:Nat} {cs:List Value} {e:TypeId} (sz:Nat) (h:Mem X w0 M I w) (hr:Rep (.blk b cs e) (.row (some ⟨b,0,none⟩) m m cs e sz) M M') (hl:cs.length=m*sz) (hm:m≤9223372036854775807):Mem X w0 M' I w:=by
 have hb:Blk w b cs e:=h.ent _ hr.mem
 exact h.upd hr (Ext.refl _ _) (fun b hb=> .inl hb) (by simp [Ent.blocks]) (aXS hb (Nat.zero_le _) hl hm)
end
/- ---------- the judgements ---------- -/
structure TD (P:Program) (n:Nat) (c:Code) (Q:Exit→Act→World→Prop) (G:Env) (X:List Nat) (w0:World) (M:List Ent) (I:List aV):Prop where
 go:∀w,Mem X w0 M I w→T P n c Q G w
structure RD (P:Program) (n:Nat) (ops:List Oper) (Q:Exit→Act→World→Prop) (m:Mode) (l:List Oper) (G:Env) (X:List Nat) (w0:World) (M:List Ent) (I:List aV):Prop where
 go:∀w,Mem X w0 M I w→R P n ops Q m l G w
structure ND (n:Nat) (Q:Exit→Act→World→Prop) (e:Exit) (G:Env) (X:List Nat) (w0:World) (M:List Ent) (I:List aV):Prop where
 go:∀w,Mem X w0 M I w→N n Q e G w
structure CD (P:Program) (f:FuncId) (vs:List Value) (X:List Nat) (w0:World) (M:List Ent) (I:List aV) (K:Value→List Ent→List aV→Prop):Prop where
 go:∀w,Mem X w0 M I w→Ret P f vs w (fun v w'=>∃M' I',K v M' I'∧Mem X w0 M' I' w')
section
variable {P:Program} {n:Nat} {Q Q':Exit→Act→World→Prop} {G:Env} {X:List Nat} {w0:World} {M M' M1:List Ent} {I I' I1:List aV}
theorem aJ {x y:Code} (h:TD P n x (Then (y.wp P Q) Q) G X w0 M I):TD P n (.seq x y) Q G X w0 M I:=⟨fun w hw=>tH (h.go w hw)⟩
theorem mF (h:ND n Q .normal G X w0 M I):TD P n .skip Q G X w0 M I:=⟨fun w hw=>qD (h.go w hw)⟩
theorem jM {l:Nat} (h:ND n Q .normal G X w0 M I):TD P n (.label l) Q G X w0 M I:=⟨fun w hw=>nA (h.go w hw)⟩
theorem pK (h:ND n Q .ret G X w0 M I):TD P n .ret Q G X w0 M I:=⟨fun w hw=>tJ (h.go w hw)⟩
theorem lV {id:Nat} (h:ND n Q (.exit id) G X w0 M I):TD P n (.exit id) Q G X w0 M I:=⟨fun w hw=>qB (h.go w hw)⟩
theorem jE {id:Nat} {c:Code} (h:TD P n c (InB id Q) G X w0 M I):TD P n (.block id c) Q G X w0 M I:=⟨fun w hw=>mU (h.go w hw)⟩
theorem aWG {c:Operand} {x y:Code} {b:Bool} (hc:ev G c=some (.bool b)) (h1:b=true→TD P n x Q G X w0 M I) (h2:b=false→TD P n y Q G X w0 M I):TD P n (.cond c x y) Q G X w0 M I:=
 ⟨fun w hw=>aGU hc (fun e=>(h1 e).go w hw) (fun e=>(h2 e).go w hw)⟩
theorem fD {c:Operand} {x y:Code} (hc:ev G c=some (.bool true)) (h1:TD P n x Q G X w0 M I):TD P n (.cond c x y) Q G X w0 M I:=⟨fun w hw=>mG hc (h1.go w hw)⟩
theorem dZ {c:Operand} {x y:Code} (hc:ev G c=some (.bool false)) (h1:TD P n y Q G X w0 M I):TD P n (.cond c x y) Q G X w0 M I:=⟨fun w hw=>lF hc (h1.go w hw)⟩
theorem oQ {c:Operand} {x y:Code} {p:Prop} [Decidable p] (hc:ev G c=some (.bool (B p))) (hp:p) (h1:TD P n x Q G X w0 M I):TD P n (.cond c x y) Q G X w0 M I:=⟨fun w hw=>aDK hc hp (h1.go w hw)⟩
theorem sJ {c:Operand} {x y:Code} {p:Prop} [Decidable p] (hc:ev G c=some (.bool (B p))) (hp:¬p) (h1:TD P n y Q G X w0 M I):TD P n (.cond c x y) Q G X w0 M I:=⟨fun w hw=>aLE hc hp (h1.go w hw)⟩
theorem iD {id:Nat} {l:List Oper} (h:RD P n l Q .seq l G X w0 M I):TD P n (.region id l.toArray false) Q G X w0 M I:=⟨fun w hw=>kU (h.go w hw)⟩
def vL (X:List Nat) (w0:World) (M:List Ent) (I:List aV):Nat→World→Prop:=fun _ w=>Mem X w0 M I w
theorem gG {id:Nat} {l:List Oper} (p ms:List Nat) (hx:P.follows .mixedOrders=true)
  (hp:(Region.noSelect l.toArray && iP l.toArray p ms (Array.replicate l.length false) && p.length==l.length)=true)
  (h:RD P n l Q (.any (vL X w0 M I) 0 ms) (pick l p) G X w0 M I):TD P n (.region id l.toArray true) Q G X w0 M I:=
 ⟨fun w hw=>aMR (vL X w0 M I) p ms hx (fun _ _ h=>h) hp hw.drew (h.go w.drew hw.drew)⟩
structure Stages (X:List Nat) (w0:World) (Cs:Nat→World→Prop):Prop where
 up:∀s w,Cs s w→Cs (s+1) w
theorem xE {id:Nat} {l:List Oper} (Cs:Nat→World→Prop) (p ms:List Nat) (hx:P.follows .mixedOrders=true) (hm:∀s w,Cs s w→Cs (s+1) w)
  (hp:(Region.noSelect l.toArray && iP l.toArray p ms (Array.replicate l.length false) && p.length==l.length)=true) (hC:∀w,Mem X w0 M I w→Cs 0 w)
  (h:RD P n l Q (.any Cs 0 ms) (pick l p) G X w0 M I):TD P n (.region id l.toArray true) Q G X w0 M I:=
 ⟨fun w hw=>aMR Cs p ms hx hm hp (hC _ hw.drew) (h.go w.drew hw.drew)⟩
theorem aT {ops:List Oper} {m:Mode} (h:ND n Q .normal G X w0 M I):RD P n ops Q m [] G X w0 M I:=⟨fun w hw=>tN (h.go w hw)⟩
theorem lJ {y:Code} (h:TD P n y Q G X w0 M I):ND n (Then (y.wp P Q) Q') .normal G X w0 M I:=⟨fun w hw=>qA (h.go w hw)⟩
theorem jL {K:Act→World→Prop} {id:Nat} (h:ND n Q (.exit id) G X w0 M I):ND n (Then K Q) (.exit id) G X w0 M I:=⟨fun w hw=>nC (h.go w hw)⟩
theorem jP {K:Act→World→Prop} (h:ND n Q .ret G X w0 M I):ND n (Then K Q) .ret G X w0 M I:=⟨fun w hw=>mY (h.go w hw)⟩
theorem oZ {id:Nat} (h:ND n Q .normal G X w0 M I):ND n (InB id Q) .normal G X w0 M I:=⟨fun w hw=>uH (h.go w hw)⟩
theorem oU {id:Nat} (h:ND n Q .ret G X w0 M I):ND n (InB id Q) .ret G X w0 M I:=⟨fun w hw=>tO (h.go w hw)⟩
theorem pU {id:Nat} (h:ND n Q .normal G X w0 M I):ND n (InB id Q) (.exit id) G X w0 M I:=⟨fun w hw=>uG (h.go w hw)⟩
theorem oP {id id':Nat} (hne:Nat.beq id' id=false) (h:ND n Q (.exit id') G X w0 M I):ND n (InB id Q) (.exit id') G X w0 M I:=⟨fun w hw=>uA hne (h.go w hw)⟩
/- less -/
theorem aMQ {c:Code} (hM:SubP M M') (hI:Inc I I') (h:TD P n c Q G X w0 M' I'):TD P n c Q G X w0 M I:=⟨fun w hw=>h.go w (hw.weak hM hI)⟩
theorem aBB {ops l:List Oper} {m:Mode} (hM:SubP M M') (hI:Inc I I') (h:RD P n ops Q m l G X w0 M' I'):RD P n ops Q m l G X w0 M I:=⟨fun w hw=>h.go w (hw.weak hM hI)⟩
theorem qZ {e:Exit} (hM:SubP M M') (hI:Inc I I') (h:ND n Q e G X w0 M' I'):ND n Q e G X w0 M I:=⟨fun w hw=>h.go w (hw.weak hM hI)⟩
theorem aBR {e:Exit} (hM:∀w,Mem X w0 M I w→Mem X w0 M' I' w) (h:ND n Q e G X w0 M' I'):ND n Q e G X w0 M I:=⟨fun w hw=>h.go w (hM w hw)⟩
theorem mQ {c:Code} (hM:∀w,Mem X w0 M I w→Mem X w0 M' I' w) (h:TD P n c Q G X w0 M' I'):TD P n c Q G X w0 M I:=⟨fun w hw=>h.go w (hM w hw)⟩
theorem xU {ops l:List Oper} {m:Mode} (hM:∀w,Mem X w0 M I w→Mem X w0 M' I' w) (h:RD P n ops Q m l G X w0 M' I'):RD P n ops Q m l G X w0 M I:=⟨fun w hw=>h.go w (hM w hw)⟩
/- cut -/
def aPQ (n:Nat) (J:Env→List Ent→List aV→Prop) (X:List Nat) (w0:World):Act→World→Prop:=Cut n (fun G w=>∃M I,J G M I∧Mem X w0 M I w)
theorem aRP {x y:Code} (J:Env→List Ent→List aV→Prop) (h:TD P n x (Then (aPQ n J X w0) Q) G X w0 M I) (k:∀G' M' I',J G' M' I'→TD P n y Q G' X w0 M' I'):TD P n (.seq x y) Q G X w0 M I:=
 ⟨fun w hw=>T_cut _ (h.go w hw) (fun _ w' ⟨_,_,hJ,hm⟩=>(k _ _ _ hJ).go w' hm)⟩
theorem kH {x y:Code} (J:Env→List Ent→List aV→Prop) (h:TD P n x (Then (aPQ n J X w0) Q) G X w0 M I) (k:∀G' M' I',J G' M' I'→TD P n y Q' G' X w0 M' I'):TD P n x (Then (y.wp P Q') Q) G X w0 M I:=
 ⟨fun w hw=>bAF _ (h.go w hw) (fun _ w' ⟨_,_,hJ,hm⟩=>(k _ _ _ hJ).go w' hm)⟩
theorem lU {J:Env→List Ent→List aV→Prop} (G':Env) (M':List Ent) (I':List aV) (s:Sub G G') (hM:SubP M M') (hI:Inc I I') (h:J G' M' I'):ND n (Then (aPQ n J X w0) Q) .normal G X w0 M I:=
 ⟨fun _ hw=>N_cut G' s ⟨M',I',h,hw.weak hM hI⟩⟩
/- loops; K: the slots that the loop only reads -/
def aDM (G:Env):List Nat→Option Env
 |[]=>some []
 |t::r=>match lk G t with
  |some v=>(aDM G r).map ((t,v):: ·)
  |none=>none
def aIA (n:Nat) (J:Nat→Env→List Ent→List aV→Prop) (K:Env) (X:List Nat) (w0:World) (k:Nat):Act→World→Prop:=
 aST n (fun k G w=>∃G1 M I,G=G1++K∧J k G1 M I∧Mem X w0 M I w) k
theorem Sub.append:∀{A B:Env},Sub G A→Sub G B→Sub G (A++B)
 |[],_,_,h=>h
 |_::_,_, .cons h e k,hb=> .cons h e (Sub.append k hb)
theorem aFR:∀(ts:List Nat) (K:Env),aDM G ts=some K→Sub G K
 |[],K,h=>by simp [aDM] at h;subst h;exact .nil
 |t::r,K,h=>by
  simp only [aDM] at h
  cases hv:lk G t with
  |none=>simp [hv] at h
  |some v=>
   simp only [hv] at h
   cases hr:aDM G r with
   |none=>simp [hr] at h
   |some K'=>
    simp [hr] at h
    subst h
    exact .cons hv rfl (aFR r K' hr)
theorem eO {c:Code} (ts:List Nat) {K:Env} (hK:aDM G ts=some K) (J:Nat→Env→List Ent→List aV→Prop) (k:Nat) (G1:Env) (M':List Ent) (I':List aV) (s:Sub G G1) (hM:SubP M M') (hI:Inc I I') (h0:J k G1 M' I')
  (round:∀k G1 M' I',J k G1 M' I'→TD P n c (Then (aIA n J K X w0 k) Q) (G1++K) X w0 M' I'):TD P n (.loop c) Q G X w0 M I:=
 ⟨fun _ hw=>aZY (fun k G w=>∃G1 M I,G=G1++K∧J k G1 M I∧Mem X w0 M I w) k (G1++K) (Sub.append s (aFR ts K hK)) ⟨G1,M',I',rfl,h0,hw.weak hM hI⟩
  (fun k _ w' ⟨_,_,_,e,hJ,hm⟩=>by subst e;exact (round k _ _ _ hJ).go w' hm)⟩
theorem bY {J:Nat→Env→List Ent→List aV→Prop} {K:Env} {k:Nat} (k':Nat) (G1:Env) (M':List Ent) (I':List aV) (hlt:k' < k) (s:Sub G (G1++K)) (hM:SubP M M') (hI:Inc I I') (h:J k' G1 M' I'):ND n (Then (aIA n J K X w0 k) Q) .normal G X w0 M I:=
 ⟨fun _ hw=>aWH k' (G1++K) hlt s ⟨G1,M',I',rfl,h,hw.weak hM hI⟩⟩
/- ---------- single operations ---------- -/
variable {ops l:List Oper} {m:Mode} {op:Op} {ty:TypeId} {pos:String} {af:Array Edge} {g:Option (Nat × Bool)}
structure View (m:Mode) (X:List Nat) (w0:World) (M:List Ent) (I:List aV) (M1:List Ent) (I1:List aV):Prop where
 go:∀w w',Mem X w0 M I w→m.C w w'→Mem X w0 M1 I1 w'
theorem View.seq:View .seq X w0 M I M I:=⟨fun w w' h e=>by have:w'=w:=e;subst this;exact h⟩
theorem View.any {k:Nat} {ms:List Nat}:View (.any (vL X w0 M1 I1) k ms) X w0 M I M1 I1:=⟨fun _ _ _ h=>h⟩
structure OkD (m:Mode) (X:List Nat) (w0:World) (M:List Ent) (I:List aV):Prop where
 go:∀w,Mem X w0 M I w→m.ok w
theorem OkD.seq:OkD .seq X w0 M I:=⟨fun _ _=>True.intro⟩
theorem OkD.any {k:Nat} {ms:List Nat} (hM:SubP M M1) (hI:Inc I I1):OkD (.any (vL X w0 M1 I1) k ms) X w0 M I:=⟨fun _ hw=>hw.weak hM hI⟩
theorem aD {d:Nat} {v:Value} (hg:nX ops G g=some true) (hc:∀C,Const P n G op ty C v) (hf:iM op=true) (hd:Nat.ble (d+1) n=true) (k:RD P n ops Q m.next l ((d,v)::G) X w0 M I):
  RD P n ops Q m (⟨some d,op,ty,pos,af,g⟩::l) G X w0 M I:=⟨fun w hw=>iR hg (hc _) hf hd (k.go w hw)⟩
theorem aEP {d:Nat} {v:Value} (hv:View m X w0 M I M1 I1) (hg:nX ops G g=some true) (hc:∀w,Mem X w0 M1 I1 w→Const P n G op ty (fun w'=>w'=w) v) (hf:iM op=true) (hd:Nat.ble (d+1) n=true) (k:RD P n ops Q m.next l ((d,v)::G) X w0 M I):
  RD P n ops Q m (⟨some d,op,ty,pos,af,g⟩::l) G X w0 M I:=
 ⟨fun w hw=>iR hg ⟨fun a ha dst pos after guard w' hC=>(hc w' (hv.go w w' hw hC)).go a ha dst pos after guard w' rfl⟩ hf hd (k.go w hw)⟩
theorem kE {d:Nat} (hg:nX ops G g=some false) (hf:iM op=true) (hd:Nat.ble (d+1) n=true) (k:RD P n ops Q m.next l ((d,undef)::G) X w0 M I):
  RD P n ops Q m (⟨some d,op,ty,pos,af,g⟩::l) G X w0 M I:=⟨fun w hw=>qG hg hf hd (k.go w hw)⟩
theorem iU {d:Option Nat} (hg:nX ops G g=some false) (hf:iM op=false) (hd:fits d n=true) (hok:OkD m X w0 M I) (k:RD P n ops Q m.nextE l (put G d undef) X w0 M I):
  RD P n ops Q m (⟨d,op,ty,pos,af,g⟩::l) G X w0 M I:=⟨fun w hw=>aNN hg hf hd (hok.go w hw) (k.go w hw)⟩
theorem aRN {d:Option Nat} {p:Prop} [Decidable p] {g:Nat × Bool} {t:Nat} (hj:qY ops g.1=some t) (hv:lk G t=some (.bool (B p)))
  (h1:p→RD P n ops Q m (⟨d,op,ty,pos,af,some g⟩::l) ((t, .bool true)::G) X w0 M I) (h2:¬p→RD P n ops Q m (⟨d,op,ty,pos,af,some g⟩::l) ((t, .bool false)::G) X w0 M I):
  RD P n ops Q m (⟨d,op,ty,pos,af,some g⟩::l) G X w0 M I:=⟨fun w hw=>aAA hj hv (fun h=>(h1 h).go w hw) (fun h=>(h2 h).go w hw)⟩
theorem kQ {d:Option Nat} {p:Prop} [Decidable p] {g:Nat × Bool} {t:Nat} (hj:qY ops g.1=some t) (hv:lk G t=some (.bool (B p))) (hp:p)
  (h1:RD P n ops Q m (⟨d,op,ty,pos,af,some g⟩::l) ((t, .bool true)::G) X w0 M I):RD P n ops Q m (⟨d,op,ty,pos,af,some g⟩::l) G X w0 M I:=aRN hj hv (fun _=>h1) (fun h=>absurd hp h)
theorem kG {d:Option Nat} {p:Prop} [Decidable p] {g:Nat × Bool} {t:Nat} (hj:qY ops g.1=some t) (hv:lk G t=some (.bool (B p))) (hp:¬p)
  (h1:RD P n ops Q m (⟨d,op,ty,pos,af,some g⟩::l) ((t, .bool false)::G) X w0 M I):RD P n ops Q m (⟨d,op,ty,pos,af,some g⟩::l) G X w0 M I:=aRN hj hv (fun h=>absurd h hp) (fun _=>h1)
theorem bBH {d:Option Nat} {b:Bool} {g:Nat × Bool} {t:Nat} {w:World} (hj:qY ops g.1=some t) (hv:lk G t=some (.bool b))
  (h1:b=true→R P n ops Q m (⟨d,op,ty,pos,af,some g⟩::l) ((t, .bool true)::G) w) (h2:b=false→R P n ops Q m (⟨d,op,ty,pos,af,some g⟩::l) ((t, .bool false)::G) w):
  R P n ops Q m (⟨d,op,ty,pos,af,some g⟩::l) G w:=⟨fun a ha=>by
 cases b with
 |true=>exact (h1 rfl).go a (ha.same hv rfl)
 |false=>exact (h2 rfl).go a (ha.same hv rfl)⟩
theorem aXV {d:Option Nat} {b:Bool} {g:Nat × Bool} {t:Nat} (hj:qY ops g.1=some t) (hv:lk G t=some (.bool b))
  (h1:b=true→RD P n ops Q m (⟨d,op,ty,pos,af,some g⟩::l) ((t, .bool true)::G) X w0 M I) (h2:b=false→RD P n ops Q m (⟨d,op,ty,pos,af,some g⟩::l) ((t, .bool false)::G) X w0 M I):
  RD P n ops Q m (⟨d,op,ty,pos,af,some g⟩::l) G X w0 M I:=⟨fun w hw=>bBH hj hv (fun h=>(h1 h).go w hw) (fun h=>(h2 h).go w hw)⟩
theorem aAL {d:Option Nat} {K:Value→List Ent→List aV→Prop} (hg:nX ops G g=some true) (hc:∀w,Mem X w0 M I w→Eff P n G op ty w (fun v w'=>∃M' I',K v M' I'∧Mem X w0 M' I' w')) (hf:iM op=false) (hd:fits d n=true)
  (k:∀v M' I',K v M' I'→OkD m X w0 M' I'∧RD P n ops Q m.nextE l (put G d v) X w0 M' I'):RD P n ops Q m (⟨d,op,ty,pos,af,g⟩::l) G X w0 M I:=⟨fun w hw=>by
 cases d with
 |none=>exact R_ef0 hg (hc w hw) hf (fun v w' ⟨M',I',hK,hm⟩=>⟨(k v M' I' hK).1.go w' hm,(k v M' I' hK).2.go w' hm⟩)
 |some d=>exact aTG hg (hc w hw) hf hd (fun v w' ⟨M',I',hK,hm⟩=>⟨(k v M' I' hK).1.go w' hm,(k v M' I' hK).2.go w' hm⟩)⟩
theorem Eff.mono {w:World} {K K':Value→World→Prop} (h:Eff P n G op ty w K) (hk:∀v w',K v w'→K' v w'):Eff P n G op ty w K':=
 ⟨fun a ha dst pos after guard=>Oper.wp_mono (fun _ _ ⟨v,h1,h2⟩=>⟨v,hk _ _ h1,h2⟩) (h.go a ha dst pos after guard)⟩
/- which operation is next: looks alone -/
section
variable {d:Option Nat} {dd:Nat}
theorem kI {t:TypeId} {x:Operand} (h:RD P n ops Q m (⟨d, .load t x,ty,pos,af,g⟩::l) G X w0 M I):RD P n ops Q m (⟨d, .load t x,ty,pos,af,g⟩::l) G X w0 M I:=h
theorem kF {t:TypeId} {x y:Operand} (h:RD P n ops Q m (⟨d, .indexAddr t x y,ty,pos,af,g⟩::l) G X w0 M I):RD P n ops Q m (⟨d, .indexAddr t x y,ty,pos,af,g⟩::l) G X w0 M I:=h
theorem kD {x:Operand} (h:RD P n ops Q m (⟨d, .nilCheck x,ty,pos,af,g⟩::l) G X w0 M I):RD P n ops Q m (⟨d, .nilCheck x,ty,pos,af,g⟩::l) G X w0 M I:=h
theorem kK {t:TypeId} {x:Operand} {k:Nat} (h:RD P n ops Q m (⟨d, .fieldAddr t x k,ty,pos,af,g⟩::l) G X w0 M I):RD P n ops Q m (⟨d, .fieldAddr t x k,ty,pos,af,g⟩::l) G X w0 M I:=h
theorem jX {t:TypeId} {x:Operand} {k:Nat} (h:RD P n ops Q m (⟨d, .field t x k,ty,pos,af,g⟩::l) G X w0 M I):RD P n ops Q m (⟨d, .field t x k,ty,pos,af,g⟩::l) G X w0 M I:=h
theorem oF {t:TypeId} {x y:Operand} (h:RD P n ops Q m (⟨d, .store t x y,ty,pos,af,g⟩::l) G X w0 M I):RD P n ops Q m (⟨d, .store t x y,ty,pos,af,g⟩::l) G X w0 M I:=h
theorem kL {o:BinOp} {t t':TypeId} {x y:Operand} (h:RD P n ops Q m (⟨d, .binOp o t x y t',ty,pos,af,g⟩::l) G X w0 M I):RD P n ops Q m (⟨d, .binOp o t x y t',ty,pos,af,g⟩::l) G X w0 M I:=h
theorem dY {o:UnOp} {t:TypeId} {x:Operand} (h:RD P n ops Q m (⟨d, .unOp o t x,ty,pos,af,g⟩::l) G X w0 M I):RD P n ops Q m (⟨d, .unOp o t x,ty,pos,af,g⟩::l) G X w0 M I:=h
theorem jW {s t:TypeId} {x:Operand} (h:RD P n ops Q m (⟨d, .convert s t x,ty,pos,af,g⟩::l) G X w0 M I):RD P n ops Q m (⟨d, .convert s t x,ty,pos,af,g⟩::l) G X w0 M I:=h
theorem jV {c:Call} (h:RD P n ops Q m (⟨d, .call c,ty,pos,af,g⟩::l) G X w0 M I):RD P n ops Q m (⟨d, .call c,ty,pos,af,g⟩::l) G X w0 M I:=h
theorem jZ {op:Op} {g:Nat × Bool} (h:RD P n ops Q m (⟨d,op,ty,pos,af,some g⟩::l) G X w0 M I):RD P n ops Q m (⟨d,op,ty,pos,af,some g⟩::l) G X w0 M I:=h
theorem mD {c:Operand} {x y:Code} (h:TD P n (.cond c x y) Q G X w0 M I):TD P n (.cond c x y) Q G X w0 M I:=h
theorem kR (hg:nX ops G g=some false) (hf:iM op=false) (h:RD P n ops Q m (⟨d,op,ty,pos,af,g⟩::l) G X w0 M I):RD P n ops Q m (⟨d,op,ty,pos,af,g⟩::l) G X w0 M I:=h
end
/- calls -/
theorem lX {d:Option Nat} {f:FuncId} {xs:List Operand} {vs:List Value} {at_:Array TypeId} {K:Value→List Ent→List aV→Prop} [FnOk P f] (hx:evs G xs=some vs) (hc:CD P f vs X w0 M I K)
  (hg:nX ops G g=some true) (hd:fits d n=true) (k:∀v M' I',K v M' I'→OkD m X w0 M' I'∧RD P n ops Q m.nextE l (put G d v) X w0 M' I'):
  RD P n ops Q m (⟨d, .call {callee:= .value (.func f),args:=xs.toArray,argTypes:=at_},ty,pos,af,g⟩::l) G X w0 M I:=
 aAL hg (fun w hw=>wS hx (hc.go w hw)) rfl hd k
theorem aCX {d:Option Nat} {h:Operand} {f:FuncId} {fs cs:Array Value} {xs:List Operand} {vs:List Value} {at_:Array TypeId} {K:Value→List Ent→List aV→Prop} [FnOk P f] (hh:ev G h=some (.func (.func f) fs cs)) (hx:evs G xs=some vs)
  (hc:CD P f (fs.toList++vs++cs.toList) X w0 M I K)
  (hg:nX ops G g=some true) (hf:iM (.call {callee:= .value h,args:=xs.toArray,argTypes:=at_})=false) (hd:fits d n=true) (k:∀v M' I',K v M' I'→OkD m X w0 M' I'∧RD P n ops Q m.nextE l (put G d v) X w0 M' I'):
  RD P n ops Q m (⟨d, .call {callee:= .value h,args:=xs.toArray,argTypes:=at_},ty,pos,af,g⟩::l) G X w0 M I:=
 aAL hg (fun w hw=>aFY hh hx (hc.go w hw)) hf hd k
theorem CD.mono {f:FuncId} {vs:List Value} {K K':Value→List Ent→List aV→Prop} (h:CD P f vs X w0 M I K) (hk:∀v M I,K v M I→K' v M I):CD P f vs X w0 M I K':=
 ⟨fun w hw=>(h.go w hw).mono (fun _ _ ⟨M',I',h1,h2⟩=>⟨M',I',hk _ _ _ h1,h2⟩)⟩
theorem CD.weak {f:FuncId} {vs:List Value} {K:Value→List Ent→List aV→Prop} (hM:SubP M M') (hI:Inc I I') (h:CD P f vs X w0 M' I' K):CD P f vs X w0 M I K:=⟨fun w hw=>h.go w (hw.weak hM hI)⟩
theorem CD.same {f:FuncId} {vs:List Value} {K:Value→Prop} (h:∀w,Mem X w0 M I w→Ret P f vs w (fun v w'=>w=w'∧K v)):CD P f vs X w0 M I (fun v M' I'=>M=M'∧I=I'∧K v):=
 ⟨fun w hw=>(h w hw).mono (fun _ _ ⟨e,hk⟩=>by subst e;exact ⟨M,I,⟨rfl,rfl,hk⟩,hw⟩)⟩
theorem CD.ext {f:FuncId} {vs:List Value} {K:Value→Prop} (h:∀w,Mem X w0 M I w→Ret P f vs w (fun v w'=>Ext [] w w'∧K v)):CD P f vs X w0 M I (fun v M' I'=>M=M'∧I=I'∧K v):=
 ⟨fun w hw=>(h w hw).mono (fun _ _ ⟨e,hk⟩=>⟨M,I,⟨rfl,rfl,hk⟩,hw.call e⟩)⟩
theorem Mem.new {w w':World} {a:Option Addr} {cs:List Value} (h:Mem X w0 M I w) (he:Ext [] w w') (hn:New w w' a cs):Mem X w0 M (aI a cs::I) w':=
 (h.call he).add (φ:=aI a cs) ⟨hn _ (fun b hb=>h.lt b hb)⟩
def KB (K:Value→List Ent→List aV→Prop) (X:List Nat) (w0:World):Value→World→Prop:=fun v w'=>∃M' I',K v M' I'∧Mem X w0 M' I' w'
theorem eD {f:FuncId} {fn:Func} {c:Code} {vs:List Value} {K:Value→List Ent→List aV→Prop} (hf:P.funcs[f]?=some fn) (hb:fn.body=some c) (hn:fn.ntmps=n) (hl:Nat.ble vs.length n=true)
  (h:TD P n c (Body P fn (KB K X w0)) (aPJ vs 0) X w0 M I):CD P f vs X w0 M I K:=⟨fun w hw=>enter hf hb hn hl (h.go w hw)⟩
theorem aOC {fn:Func} {K:Value→List Ent→List aV→Prop} {e:Exit} (he:e= .ret∨e= .normal) (hr:fn.results=#[]) (M':List Ent) (I':List aV) (hM:SubP M M') (hI:Inc I I') (h:K (.tuple #[]) M' I'):
  ND n (Body P fn (KB K X w0)) e G X w0 M I:=⟨fun _ hw=>aZQ he hr ⟨M',I',h,hw.weak hM hI⟩⟩
theorem aH {fn:Func} {K:Value→List Ent→List aV→Prop} {t:Nat} {v:Value} {e:Exit} (he:e= .ret∨e= .normal) (hr:fn.results=#[.tmp t]) (hv:lk G t=some v) (M':List Ent) (I':List aV) (hM:SubP M M') (hI:Inc I I') (h:K v M' I'):
  ND n (Body P fn (KB K X w0)) e G X w0 M I:=⟨fun _ hw=>vC he hr hv ⟨M',I',h,hw.weak hM hI⟩⟩
theorem pI {fn:Func} {K:Value→List Ent→List aV→Prop} (ts:List Nat) {vs:List Value} {e:Exit} (he:e= .ret∨e= .normal) (hr:fn.results=(ts.map ResultVar.tmp).toArray) (hv:lks G ts=some vs) (hl:Nat.beq vs.length 1=false) (M':List Ent) (I':List aV) (hM:SubP M M') (hI:Inc I I') (h:K (.tuple vs.toArray) M' I'):
  ND n (Body P fn (KB K X w0)) e G X w0 M I:=⟨fun _ hw=>bAL (ts:=ts) he hr hv hl ⟨M',I',h,hw.weak hM hI⟩⟩
/- ---------- reading ---------- -/
inductive At (cs:List Value) (o:Nat) (v:Value):Prop
 |mk (h:cs[o]?=some v)
theorem At.get {cs:List Value} {o:Nat} {v:Value} (h:At cs o v):cs[o]?=some v:=by cases h;assumption
theorem At.r1 {α:Type} [Inhabited α] {enc:α→List Value} {sz:Nat} [Sized enc sz] {ms:List α} {i:Int} {v:Value} (hi:0≤i∧i < ms.length) (hv:(enc (gt ms i))[0]?=some v):At (recs enc ms) (i.toNat*sz) v:=⟨mX (j:=0) hi hv⟩
theorem At.r2 {α:Type} [Inhabited α] {enc:α→List Value} {sz:Nat} [Sized enc sz] {ms:List α} {i:Int} {j:Nat} {v:Value} (hi:0≤i∧i < ms.length) (hv:(enc (gt ms i))[j]?=some v):At (recs enc ms) (i.toNat*sz+j) v:=⟨mX hi hv⟩
inductive Ats (cs:List Value) (o:Nat) (vs:List Value):Prop
 |mk (h:∀j v,vs[j]?=some v→cs[o+j]?=some v)
theorem Ats.get {cs:List Value} {o:Nat} {vs:List Value} (h:Ats cs o vs):∀j v,vs[j]?=some v→cs[o+j]?=some v:=by cases h;assumption
theorem Ats.r {α:Type} [Inhabited α] {enc:α→List Value} {sz:Nat} [Sized enc sz] {ms:List α} {i:Int} (hi:0≤i∧i < ms.length):Ats (recs enc ms) (i.toNat*sz) (enc (gt ms i)):=⟨fun _ _ hv=>mX hi hv⟩
theorem Ats.all {cs:List Value}:Ats cs 0 cs:=⟨fun j v h=>by simpa using h⟩
theorem Ats.lit {cs vs:List Value} {o k:Nat} (h:(cs.drop o).take k=vs):Ats cs o vs:=⟨fun j v hj=>by
 subst h
 rw [List.getElem?_take] at hj
 split at hj
 ·rwa [List.getElem?_drop] at hj
 ·cases hj⟩
theorem Mem.blk {w:World} {b:Nat} {cs:List Value} {e:TypeId} (h:Mem X w0 M I w) (hm: .blk b cs e∈M):Blk w b cs e:=h.ent _ hm
theorem Mem.sl {w:World} {a:Option Addr} {cs:List Value} (h:Mem X w0 M I w) (hm:aI a cs∈I):Sl (muts M) w a cs:=((h.imm _ hm).2).go
theorem Mem.rowS {w:World} {a:Option Addr} {m c:Nat} {cs:List Value} {e:TypeId} {sz:Nat} (h:Mem X w0 M I w) (hm: .row a m c cs e sz∈M):Sl [] w a cs∧(Ok a∨(a=none∧m=0∧c=0)):=by
 have ho:w.ownsRow 0 e sz (.slice a m c) m cs:=h.ent _ hm
 obtain ⟨a',c',hv,hs,hok,_⟩:=aGW ho
 injection hv with e1 e2 e3
 subst e1;subst e3
 exact ⟨hs [] (fun _ _=>by simp),hok⟩
theorem kX {d:Nat} {t:TypeId} {x:Operand} {b o:Nat} {cs:List Value} {e:TypeId} {v:Value} [ScalarTy P t] (hv:View m X w0 M I M1 I1) (hx:ev G x=some (.pointer (some ⟨b,o,none⟩))) (hm: .blk b cs e∈M1) (hc:At cs o v) (hg:nX ops G g=some true)
  (hd:Nat.ble (d+1) n=true) (k:RD P n ops Q m.next l ((d,v)::G) X w0 M I):RD P n ops Q m (⟨some d, .load t x,ty,pos,af,g⟩::l) G X w0 M I:=
 aEP hv hg (fun w hw=>uM hx (fun w' e=>by subst e;exact (hw.blk hm).cell hc.get)) rfl hd k
theorem nH {d:Nat} {t:TypeId} {x:Operand} {a:Option Addr} {o:Nat} {cs:List Value} {v:Value} [ScalarTy P t] (hv:View m X w0 M I M1 I1) (hx:ev G x=some (.pointer (some (pt a o)))) (hm:aI a cs∈I1) (hc:At cs o v) (hg:nX ops G g=some true)
  (hd:Nat.ble (d+1) n=true) (k:RD P n ops Q m.next l ((d,v)::G) X w0 M I):RD P n ops Q m (⟨some d, .load t x,ty,pos,af,g⟩::l) G X w0 M I:=
 aEP hv hg (fun w hw=>uM hx (fun w' e=>by subst e;exact (hw.sl hm).cell hc.get)) rfl hd k
theorem nG {d:Nat} {t:TypeId} {x:Operand} {a:Option Addr} {o mm c:Nat} {cs:List Value} {e:TypeId} {sz:Nat} {v:Value} [ScalarTy P t] (hv:View m X w0 M I M1 I1) (hx:ev G x=some (.pointer (some (pt a o)))) (hm: .row a mm c cs e sz∈M1) (hc:At cs o v) (hg:nX ops G g=some true)
  (hd:Nat.ble (d+1) n=true) (k:RD P n ops Q m.next l ((d,v)::G) X w0 M I):RD P n ops Q m (⟨some d, .load t x,ty,pos,af,g⟩::l) G X w0 M I:=
 aEP hv hg (fun w hw=>uM hx (fun w' e=>by subst e;exact ((hw.rowS hm).1).cell hc.get)) rfl hd k
theorem rD {d:Nat} {t:TypeId} {sz:Nat} {x:Operand} {b o:Nat} {cs vs:List Value} {e:TypeId} [AggTy P t sz] (hv:View m X w0 M I M1 I1) (hx:ev G x=some (.pointer (some ⟨b,o,none⟩))) (hm: .blk b cs e∈M1) (hc:Ats cs o vs) (hl:vs.length=sz) (hg:nX ops G g=some true)
  (hd:Nat.ble (d+1) n=true) (k:RD P n ops Q m.next l ((d, .agg vs.toArray)::G) X w0 M I):RD P n ops Q m (⟨some d, .load t x,ty,pos,af,g⟩::l) G X w0 M I:=
 aEP hv hg (fun w hw=>sH hx hl (fun w' e=>by subst e;exact (hw.blk hm).row hc.get)) rfl hd k
theorem rE {d:Nat} {t:TypeId} {sz:Nat} {x:Operand} {a:Option Addr} {o:Nat} {cs vs:List Value} [AggTy P t sz] (hv:View m X w0 M I M1 I1) (hx:ev G x=some (.pointer (some (pt a o)))) (hm:aI a cs∈I1) (hc:Ats cs o vs) (hl:vs.length=sz) (hg:nX ops G g=some true)
  (hd:Nat.ble (d+1) n=true) (k:RD P n ops Q m.next l ((d, .agg vs.toArray)::G) X w0 M I):RD P n ops Q m (⟨some d, .load t x,ty,pos,af,g⟩::l) G X w0 M I:=
 aEP hv hg (fun w hw=>sH (b:=bl a) (o:=of a+o) hx hl (fun w' e=>by subst e;exact Sl.rowAt (hw.sl hm) o vs hc.get)) rfl hd k
theorem rC {d:Nat} {t:TypeId} {sz sz':Nat} {x:Operand} {a:Option Addr} {o mm c:Nat} {cs vs:List Value} {e:TypeId} [AggTy P t sz] (hv:View m X w0 M I M1 I1) (hx:ev G x=some (.pointer (some (pt a o)))) (hm: .row a mm c cs e sz'∈M1) (hc:Ats cs o vs) (hl:vs.length=sz) (hg:nX ops G g=some true)
  (hd:Nat.ble (d+1) n=true) (k:RD P n ops Q m.next l ((d, .agg vs.toArray)::G) X w0 M I):RD P n ops Q m (⟨some d, .load t x,ty,pos,af,g⟩::l) G X w0 M I:=
 aEP hv hg (fun w hw=>sH (b:=bl a) (o:=of a+o) hx hl (fun w' e=>by subst e;exact Sl.rowAt ((hw.rowS hm).1) o vs hc.get)) rfl hd k
/- addresses -/
theorem nE {d:Nat} {t e:TypeId} {sz:Nat} {x ix:Operand} {b len c:Nat} {k':IntKind} {i:Int} [SliceTy P t e sz] (hx:ev G x=some (.slice (some ⟨b,0,none⟩) len c)) (hi:ev G ix=some (.int k' i)) (h:0≤i∧i < len) (hg:nX ops G g=some true)
  (hd:Nat.ble (d+1) n=true) (k:RD P n ops Q m.next l ((d, .pointer (some ⟨b,i.toNat*sz,none⟩))::G) X w0 M I):RD P n ops Q m (⟨some d, .indexAddr t x ix,ty,pos,af,g⟩::l) G X w0 M I:=
 aD hg (fun _=>by
  have:=vE (n:=n) (ty:=ty) (P:=P) (G:=G) (t:=t) (e:=e) (sz:=sz) hx hi h (Ok.mk b 0) (C:=fun _=>True)
  refine ⟨fun a ha dst pos after guard w _=>?_⟩
  have h2:=this.go a ha dst pos after guard w True.intro
  simpa [pt,bl,of] using h2) rfl hd k
theorem nK {d:Nat} {t e:TypeId} {sz:Nat} {x ix:Operand} {a:Option Addr} {len c:Nat} {k':IntKind} {i:Int} {cs:List Value} [SliceTy P t e sz] (hv:View m X w0 M I M1 I1) (hx:ev G x=some (.slice a len c)) (hi:ev G ix=some (.int k' i)) (h:0≤i∧i < len) (hm:aI a cs∈I1) (hl:0 < cs.length) (hg:nX ops G g=some true)
  (hd:Nat.ble (d+1) n=true) (k:RD P n ops Q m.next l ((d, .pointer (some (pt a (i.toNat*sz))))::G) X w0 M I):RD P n ops Q m (⟨some d, .indexAddr t x ix,ty,pos,af,g⟩::l) G X w0 M I:=
 aEP hv hg (fun _ hw=>vE hx hi h ((hw.sl hm).ok hl)) rfl hd k
theorem nI {d:Nat} {t e e':TypeId} {sz sz':Nat} {x ix:Operand} {a:Option Addr} {mm len c c':Nat} {k':IntKind} {i:Int} {cs:List Value} [SliceTy P t e sz] (hv:View m X w0 M I M1 I1) (hx:ev G x=some (.slice a len c)) (hi:ev G ix=some (.int k' i)) (h:0≤i∧i < len) (hm: .row a mm c' cs e' sz'∈M1) (hl:0 < cs.length) (hg:nX ops G g=some true)
  (hd:Nat.ble (d+1) n=true) (k:RD P n ops Q m.next l ((d, .pointer (some (pt a (i.toNat*sz))))::G) X w0 M I):RD P n ops Q m (⟨some d, .indexAddr t x ix,ty,pos,af,g⟩::l) G X w0 M I:=
 aEP hv hg (fun _ hw=>vE hx hi h (((hw.rowS hm).1).ok hl)) rfl hd k
theorem nJ {d:Nat} {s ft:TypeId} {kk off sz:Nat} {x:Operand} {b o:Nat} [FieldAt P s kk off ft sz] (hx:ev G x=some (.pointer (some ⟨b,o,none⟩))) (hs:sz≠0) (hg:nX ops G g=some true)
  (hd:Nat.ble (d+1) n=true) (k:RD P n ops Q m.next l ((d, .pointer (some ⟨b,o+off,none⟩))::G) X w0 M I):RD P n ops Q m (⟨some d, .fieldAddr s x kk,ty,pos,af,g⟩::l) G X w0 M I:=
 aD hg (fun _=>zY hx hs) rfl hd k
theorem jY {d:Nat} {s ft:TypeId} {kk off sz:Nat} {x:Operand} {a:Option Addr} {o:Nat} [FieldAt P s kk off ft sz] (hx:ev G x=some (.pointer (some (pt a o)))) (hs:sz≠0) (hg:nX ops G g=some true)
  (hd:Nat.ble (d+1) n=true) (k:RD P n ops Q m.next l ((d, .pointer (some (pt a (o+off))))::G) X w0 M I):RD P n ops Q m (⟨some d, .fieldAddr s x kk,ty,pos,af,g⟩::l) G X w0 M I:=
 aD hg (fun _=>by
  have:=zY (P:=P) (n:=n) (G:=G) (ty:=ty) (C:=fun _=>True) (s:=s) (k:=kk) (off:=off) (b:=bl a) (o:=of a+o) hx hs
  refine ⟨fun a' ha dst pos after guard w _=>?_⟩
  have h2:=this.go a' ha dst pos after guard w True.intro
  rw [h2]
  simp [pt,Nat.add_assoc]) rfl hd k
/- ---------- memory of its own ---------- -/
theorem aHW {d:Nat} {t:TypeId} {x:Operand} {v:Value} (hx:ev G x=some v) (hg:nX ops G g=some true) (hd:Nat.ble (d+1) n=true)
  (k:∀b,OkD m X w0 (.blk b v.cells.toList t::M) I∧RD P n ops Q m.nextE l ((d, .pointer (some ⟨b,0,none⟩))::G) X w0 (.blk b v.cells.toList t::M) I):
  RD P n ops Q m (⟨some d, .box t x,ty,pos,af,g⟩::l) G X w0 M I:=
 aAL (d:=some d) (K:=fun v' M' I'=>∃b,v'= .pointer (some ⟨b,0,none⟩)∧M'= .blk b v.cells.toList t::M∧I'=I) hg
  (fun w hw=>(aMZ hx).mono (fun _ w' ⟨b,hb,hp,hB,hE,_⟩=>⟨_,_,⟨b,hp,rfl,rfl⟩,hw.push hE (by simp [Ent.blocks,hb]) (by simp [Ent.blocks]) hB⟩)) rfl hd
  (fun _ _ _ ⟨b,hp,hM,hI⟩=>by subst hp;subst hM;subst hI;exact k b)
theorem bB {d:Nat} {t:TypeId} {sz by_:Nat} {z:List Value} [ElemTy P t sz by_ z] (hg:nX ops G g=some true) (hd:Nat.ble (d+1) n=true)
  (k:∀b,OkD m X w0 (.blk b z t::M) I∧RD P n ops Q m.nextE l ((d, .pointer (some ⟨b,0,none⟩))::G) X w0 (.blk b z t::M) I):
  RD P n ops Q m (⟨some d, .alloc t,ty,pos,af,g⟩::l) G X w0 M I:=
 aAL (d:=some d) (K:=fun v' M' I'=>∃b,v'= .pointer (some ⟨b,0,none⟩)∧M'= .blk b z t::M∧I'=I) hg
  (fun w hw=>Eff_alloc.mono (fun _ w' ⟨b,hb,hp,hB,hE,_⟩=>⟨_,_,⟨b,hp,rfl,rfl⟩,hw.push hE (by simp [Ent.blocks,hb]) (by simp [Ent.blocks]) hB⟩)) rfl hd
  (fun _ _ _ ⟨b,hp,hM,hI⟩=>by subst hp;subst hM;subst hI;exact k b)
theorem aXM {d:Nat} {t e:TypeId} {sz sz' by_:Nat} {z:List Value} {lo co:Operand} {k1 k2:IntKind} (mm:Nat) {cs:List Value} [SliceTy P t e sz'] [ElemTy P e sz by_ z]
  (hl:ev G lo=some (.int k1 (mm:Int))) (hc:ev G co=some (.int k2 (mm:Int))) (hb:(by_:Int)*(mm:Int)≤281474976710656) (hm:(mm:Int)≤9223372036854775807) (hcs:(madeCells z.toArray (mm*sz)).toList=cs) (hg:nX ops G g=some true) (hd:Nat.ble (d+1) n=true)
  (k:∀b,OkD m X w0 (.blk b cs e::M) I∧RD P n ops Q m.nextE l ((d, .slice (some ⟨b,0,none⟩) mm mm)::G) X w0 (.blk b cs e::M) I):
  RD P n ops Q m (⟨some d, .makeSlice t lo co,ty,pos,af,g⟩::l) G X w0 M I:=
 aAL (d:=some d) (K:=fun v' M' I'=>∃b,v'= .slice (some ⟨b,0,none⟩) mm mm∧M'= .blk b cs e::M∧I'=I) hg
  (fun w hw=>(aSV (m:=mm) hl hc hb hm).mono (fun _ w' ⟨b,hb,hp,hB,hE,_⟩=>⟨_,_,⟨b,hp,rfl,rfl⟩,hw.push hE (by simp [Ent.blocks,hb]) (by simp [Ent.blocks]) (by rw [hcs] at hB;exact hB)⟩)) rfl hd
  (fun _ _ _ ⟨b,hp,hM,hI⟩=>by subst hp;subst hM;subst hI;exact k b)
theorem nT (k:IntKind) (mm:Nat):(madeCells [Value.int k 0].toArray (mm*1)).toList=recs (eI k) (List.replicate mm 0):=by
 rw [Nat.mul_one,aEO]
 induction mm with
 |zero=>rfl
 |succ m ih=>rw [List.replicate_succ,List.replicate_succ,ih];rfl
theorem aYA {d:Nat} {t e:TypeId} {sz sz' by_ len:Nat} {z:List Value} {parts:List (Nat × Operand)} (vals:List Value) {cs:List Value} [SliceTy P t e sz'] [ElemTy P e sz by_ z]
  (hp:parts.map (fun p=>(p.1,ev G p.2))=(vals.zipIdx).map (fun p=>(p.2,some p.1))) (hl:vals.length=len) (hc:∀v∈vals,v.cells.size=sz) (hb:len*sz≤16777216) (hcs:vals.flatMap (fun v=>v.cells.toList)=cs) (hg:nX ops G g=some true) (hd:Nat.ble (d+1) n=true)
  (k:∀b,OkD m X w0 (.blk b cs e::M) I∧RD P n ops Q m.nextE l ((d, .slice (some ⟨b,0,none⟩) len len)::G) X w0 (.blk b cs e::M) I):
  RD P n ops Q m (⟨some d, .buildSlice t len parts.toArray,ty,pos,af,g⟩::l) G X w0 M I:=
 aAL (d:=some d) (K:=fun v' M' I'=>∃b,v'= .slice (some ⟨b,0,none⟩) len len∧M'= .blk b cs e::M∧I'=I) hg
  (fun w hw=>(aSB (vals:=vals) hp hl hc hb).mono (fun _ w' ⟨b,hb,hp,hB,hE,_⟩=>⟨_,_,⟨b,hp,rfl,rfl⟩,hw.push hE (by simp [Ent.blocks,hb]) (by simp [Ent.blocks]) (by rw [hcs] at hB;exact hB)⟩)) rfl hd
  (fun _ _ _ ⟨b,hp,hM,hI⟩=>by subst hp;subst hM;subst hI;exact k b)
/- stores -/
inductive StAt (cs:List Value) (o:Nat) (v:Value) (cs':List Value):Prop
 |mk (h:cs.set o v=cs') (ho:o < cs.length)
theorem StAt.out {cs cs':List Value} {o:Nat} {v:Value} (h:StAt cs o v cs'):cs.set o v=cs'∧o < cs.length:=by cases h;exact ⟨by assumption,by assumption⟩
theorem StAt.r1 {α:Type} {enc:α→List Value} [hz:Sized enc 1] {ms:List α} {i:Int} {v:Value} (mm:α) (hi:0≤i∧i < ms.length) (hv:[v]=enc mm):StAt (recs enc ms) (i.toNat*1) v (recs enc (st ms i mm)):=by
 have hl:=fJ (enc:=enc) ms
 refine ⟨?_,by omega⟩
 have:=uE (enc:=enc) ms i.toNat mm (by omega)
 unfold st
 rw [←this,←hv,aDD (by omega)]
theorem aMK {cs:List Value} {o sz j:Nat} {v:Value} (h:o+sz≤cs.length) (hj:j < sz):splice cs o ((((cs.drop o).take sz)).set j v)=cs.set (o+j) v:=by
 have hlen:(((cs.drop o).take sz).set j v).length=sz:=by simp;omega
 apply List.ext_getElem?
 intro t
 unfold splice
 rw [hlen]
 by_cases h1:t < o
 ·rw [List.append_assoc,List.getElem?_append_left (by simp;omega),List.getElem?_take,if_pos h1,List.getElem?_set_ne (by omega)]
 ·by_cases h2:t < o+sz
  ·rw [List.append_assoc,List.getElem?_append_right (by simp;omega),List.getElem?_append_left (by rw [hlen];simp;omega)]
   have e:t - (List.take o cs).length=t - o:=by simp;omega
   rw [e]
   by_cases h3:t=o+j
   ·subst h3
    have:o+j - o=j:=by omega
    rw [this,List.getElem?_set_self (by simp;omega),List.getElem?_set_self (by omega)]
   ·rw [List.getElem?_set_ne (by omega),List.getElem?_set_ne (by omega),List.getElem?_take,if_pos (by omega),List.getElem?_drop]
    congr 1
    omega
  ·rw [List.getElem?_append_right (by simp;omega),List.getElem?_drop,List.getElem?_set_ne (by omega)]
   congr 1
   simp;omega
theorem aJM {α:Type} [Inhabited α] {enc:α→List Value} {sz:Nat} [hz:Sized enc sz] {ms:List α} {i:Int} (hi:0≤i∧i < ms.length):((recs enc ms).drop (i.toNat*sz)).take sz=enc (gt ms i):=by
 have hl:=fJ (enc:=enc) ms
 have hlt:i.toNat*sz+sz≤ms.length*sz:=by
  have:i.toNat+1≤ms.length:=by omega
  have:=Nat.mul_le_mul_right sz this
  rw [Nat.add_mul] at this;omega
 apply List.ext_getElem?
 intro t
 by_cases h:t < sz
 ·rw [List.getElem?_take,if_pos h,List.getElem?_drop]
  have hv:(enc (gt ms i))[t]?=some ((enc (gt ms i))[t]'(by rw [hz.len];exact h)):=by simp
  rw [hv]
  exact mX hi hv
 ·rw [List.getElem?_eq_none (by simp;omega),List.getElem?_eq_none (by rw [hz.len];omega)]
theorem StAt.r2 {α:Type} [Inhabited α] {enc:α→List Value} {sz:Nat} [hz:Sized enc sz] {ms:List α} {i:Int} {j:Nat} {v:Value} (mm:α) (hi:0≤i∧i < ms.length) (hj:j < sz) (hv:(enc (gt ms i)).set j v=enc mm):StAt (recs enc ms) (i.toNat*sz+j) v (recs enc (st ms i mm)):=by
 have hl:=fJ (enc:=enc) ms
 have hlt:i.toNat*sz+sz≤ms.length*sz:=by
  have:i.toNat+1≤ms.length:=by omega
  have:=Nat.mul_le_mul_right sz this
  rw [Nat.add_mul] at this;omega
 refine ⟨?_,by omega⟩
 have:=uE (enc:=enc) ms i.toNat mm (by omega)
 unfold st
 rw [←this,←hv,←aJM (enc:=enc) hi,aMK (by omega) hj]
theorem StAt.r0 {α:Type} [Inhabited α] {enc:α→List Value} {sz:Nat} [hz:Sized enc sz] {ms:List α} {i:Int} {v:Value} (mm:α) (hi:0≤i∧i < ms.length) (hj:0 < sz) (hv:(enc (gt ms i)).set 0 v=enc mm):StAt (recs enc ms) (i.toNat*sz) v (recs enc (st ms i mm)):=StAt.r2 (j:=0) mm hi hj hv
theorem oH {d:Option Nat} {t:TypeId} {x y:Operand} {b o:Nat} {v:Value} {cs cs':List Value} {e:TypeId} [ScalarTy P t] (hx:ev G x=some (.pointer (some ⟨b,o,none⟩))) (hy:ev G y=some v) (h1:v.oneCell'=true) (hr:Rep (.blk b cs e) (.blk b cs' e) M M') (hs:StAt cs o v cs') (hg:nX ops G g=some true) (hd:fits d n=true)
  (k:OkD m X w0 M' I∧RD P n ops Q m.nextE l (put G d undef) X w0 M' I):RD P n ops Q m (⟨d, .store t x y,ty,pos,af,g⟩::l) G X w0 M I:=
 aAL (K:=fun v' M2 I2=>v'=undef∧M2=M'∧I2=I) hg
  (fun w hw=>(aMO hx hy h1 (hw.blk hr.mem) hs.out.2).mono (fun _ w' ⟨hu,hB,hE⟩=>⟨_,_,⟨hu,rfl,rfl⟩,hw.upd hr hE (fun b hb=> .inl hb) (by simp [Ent.blocks]) (by rw [hs.out.1] at hB;exact hB)⟩)) rfl hd
  (fun _ _ _ ⟨hu,hM,hI⟩=>by subst hu;subst hM;subst hI;exact k)
inductive StAts (cs:List Value) (o:Nat) (vs:List Value) (cs':List Value):Prop
 |mk (h:splice cs o vs=cs') (ho:o+vs.length≤cs.length)
theorem StAts.out {cs cs':List Value} {o:Nat} {vs:List Value} (h:StAts cs o vs cs'):splice cs o vs=cs'∧o+vs.length≤cs.length:=by cases h;exact ⟨by assumption,by assumption⟩
theorem StAts.all {cs vs:List Value} (h:vs.length=cs.length):StAts cs 0 vs vs:=⟨aLN h,by omega⟩
theorem StAts.r {α:Type} {enc:α→List Value} {sz:Nat} [hz:Sized enc sz] {ms:List α} {i:Int} {vs:List Value} (mm:α) (hi:0≤i∧i < ms.length) (hv:vs=enc mm):StAts (recs enc ms) (i.toNat*sz) vs (recs enc (st ms i mm)):=by
 subst hv
 have hl:=fJ (enc:=enc) ms
 have hlt:i.toNat*sz+sz≤ms.length*sz:=by
  have:i.toNat+1≤ms.length:=by omega
  have:=Nat.mul_le_mul_right sz this
  rw [Nat.add_mul] at this;omega
 exact ⟨uE ms i.toNat mm (by omega),by rw [hz.len];omega⟩
theorem fM {d:Option Nat} {t:TypeId} {sz:Nat} {x y:Operand} {b o:Nat} {vs cs cs':List Value} {e:TypeId} [AggTy P t sz] (hx:ev G x=some (.pointer (some ⟨b,o,none⟩))) (hy:ev G y=some (.agg vs.toArray)) (hl:vs.length=sz) (h1:∀u∈vs,u.oneCell'=true) (hr:Rep (.blk b cs e) (.blk b cs' e) M M') (hs:StAts cs o vs cs') (hg:nX ops G g=some true) (hd:fits d n=true)
  (k:OkD m X w0 M' I∧RD P n ops Q m.nextE l (put G d undef) X w0 M' I):RD P n ops Q m (⟨d, .store t x y,ty,pos,af,g⟩::l) G X w0 M I:=
 aAL (K:=fun v' M2 I2=>v'=undef∧M2=M'∧I2=I) hg
  (fun w hw=>(aMG hx hy hl h1 (hw.blk hr.mem) hs.out.2).mono (fun _ w' ⟨hu,hB,hE⟩=>⟨_,_,⟨hu,rfl,rfl⟩,hw.upd hr hE (fun b hb=> .inl hb) (by simp [Ent.blocks]) (by rw [hs.out.1] at hB;exact hB)⟩)) rfl hd
  (fun _ _ _ ⟨hu,hM,hI⟩=>by subst hu;subst hM;subst hI;exact k)
/- append -/
structure Src (M:List Ent) (I:List aV) (a:Option Addr) (len c:Nat) (cs:List Value):Prop where
 go:∀(X:List Nat) (w0:World) w,Mem X w0 M I w→Sl [] w a cs∧(Ok a∨(len=0∧c=0))
theorem Src.blk {b len c:Nat} {cs:List Value} {e:TypeId} (h: .blk b cs e∈M):Src M I (some ⟨b,0,none⟩) len c cs:=⟨fun _ _ _ hw=>⟨Blk.sl (hw.blk h) (by simp) 0 (fun j v hj=>by simpa using hj), .inl (Ok.mk _ _)⟩⟩
theorem Src.imm {a:Option Addr} {len c:Nat} {cs:List Value} (h:aI a cs∈I) (hok:Ok a∨(len=0∧c=0)):Src M I a len c cs:=⟨fun _ _ _ hw=>⟨(hw.sl h).less (fun _ hk=>by simp at hk),hok⟩⟩
theorem Src.row {a:Option Addr} {len c:Nat} {cs:List Value} {e:TypeId} {sz:Nat} (h: .row a len c cs e sz∈M):Src M I a len c cs:=⟨fun _ _ _ hw=>⟨(hw.rowS h).1,(hw.rowS h).2.imp id (fun h=>h.2)⟩⟩
theorem aSQ {d:Nat} {s x:Operand} {t e:TypeId} {sz sz' by_:Nat} {z:List Value} {a a':Option Addr} {mm c len c':Nat} {cs news:List Value} [SliceTy P t e sz'] [ElemTy P e sz by_ z]
  (kk:Nat) (hs:ev G s=some (.slice a mm c)) (hx:ev G x=some (.slice a' len c')) (hm:M[kk]?=some (.row a mm c cs e sz)) (hsrc:Src M I a' len c' news) (hsz:0 < sz) (hl:news.length=len*sz) (h1:∀u∈news,u.oneCell'=true) (hb:(mm+len)*by_≤140737488355328) (h63:mm+len≤9223372036854775807) (hg:nX ops G g=some true) (hd:Nat.ble (d+1) n=true)
  (k:∀a2 c2,OkD m X w0 (M.set kk (.row a2 (mm+len) c2 (cs++news) e sz)) I∧RD P n ops Q m.nextE l ((d, .slice a2 (mm+len) c2)::G) X w0 (M.set kk (.row a2 (mm+len) c2 (cs++news) e sz)) I):
  RD P n ops Q m (⟨some d, .call {callee:= .builtin .append,args:=#[s,x],argTypes:=#[t,t]},ty,pos,af,g⟩::l) G X w0 M I:=
 aAL (d:=some d) (K:=fun v' M2 I2=>∃a2 c2,v'= .slice a2 (mm+len) c2∧M2=M.set kk (.row a2 (mm+len) c2 (cs++news) e sz)∧I2=I) hg
  (fun w hw=>by
   obtain ⟨hS,hok⟩:=hsrc.go X w0 w hw
   have hown:w.ownsRow 0 e sz (.slice a mm c) mm cs:=hw.ent _ (List.mem_of_getElem? hm)
   refine (aLI hs hx hown hsz hok hS hl h1 hb h63 (Nat.zero_le _)).mono ?_
   rintro v' w' ⟨hown',hg',_,hblk⟩
   obtain ⟨a2,c2,rfl,_,_,_⟩:=aGW hown'
   have hrep:Rep (.row a mm c cs e sz) (.row a2 (mm+len) c2 (cs++news) e sz) M (M.set kk (.row a2 (mm+len) c2 (cs++news) e sz)):=Rep.at hm
   refine ⟨M.set kk (.row a2 (mm+len) c2 (cs++news) e sz),I,⟨a2,c2,rfl,rfl,rfl⟩,hw.upd hrep ?_ ?_ ?_ hown'⟩
   ·cases a with
    |none=>exact Ext.grown hg' (fun k hk=>by simp [Value.ownBlock] at hk)
    |some a=>exact Ext.grown hg' (fun k hk=>by simp [Value.ownBlock] at hk;subst hk;simp [Ent.blocks])
   ·intro b hb
    cases a2 with
    |none=>simp [Ent.blocks] at hb
    |some a2=>
     simp [Ent.blocks] at hb
     subst hb
     rcases hblk with h|h
     ·cases a with
      |none=>simp [Value.ownBlock] at h
      |some a=>simp [Value.ownBlock] at h;exact .inl (by simp [Ent.blocks,h])
     ·simp [Value.ownBlock] at h
      exact .inr (by omega)
   ·cases a2 <;>simp [Ent.blocks]) rfl hd
  (fun _ _ _ ⟨a2,c2,hp,hM,hI⟩=>by subst hp;subst hM;subst hI;exact k a2 c2)
theorem Mem.row0 {w:World} (h:Mem X w0 M I w) (e:TypeId) (sz:Nat):Mem X w0 (.row none 0 0 [] e sz::M) I w:=
 h.push (Ext.refl _ _) (by simp [Ent.blocks]) (by simp [Ent.blocks]) (aYP w 0 e sz)
theorem pR {c:Code} (e:TypeId) (sz:Nat) (h:TD P n c Q G X w0 (.row none 0 0 [] e sz::M) I):TD P n c Q G X w0 M I:=mQ (fun _ hw=>hw.row0 e sz) h
theorem iZ {b:Nat} {cs:List Value} {e:TypeId} {ex:Exit} (hr:Rem (.blk b cs e) M M') (h:ND n Q ex G X w0 M' (aI (some ⟨b,0,none⟩) cs::I)):ND n Q ex G X w0 M I:=aBR (fun _ hw=>hw.freezeB hr) h
theorem uR {a:Option Addr} {mm c:Nat} {cs:List Value} {e:TypeId} {sz:Nat} {ex:Exit} (hr:Rem (.row a mm c cs e sz) M M') (h:ND n Q ex G X w0 M' (aI a cs::I)):ND n Q ex G X w0 M I:=aBR (fun _ hw=>hw.freezeR hr) h
theorem aC {b:Nat} {cs:List Value} {e:TypeId} (hr:Rem (.blk b cs e) M M') (h:RD P n ops Q m l G X w0 M' (aI (some ⟨b,0,none⟩) cs::I)):RD P n ops Q m l G X w0 M I:=xU (fun _ hw=>hw.freezeB hr) h
theorem gW {a:Option Addr} {mm c:Nat} {cs:List Value} {e:TypeId} {sz:Nat} (hr:Rem (.row a mm c cs e sz) M M') (h:RD P n ops Q m l G X w0 M' (aI a cs::I)):RD P n ops Q m l G X w0 M I:=xU (fun _ hw=>hw.freezeR hr) h
theorem Mem.nilS {w:World} (a:Option Addr) (h:Mem X w0 M I w):Mem X w0 M (aI a []::I) w:=h.add (φ:=aI a []) ⟨Sl.nil _ _ _⟩
theorem uY {ex:Exit} (a:Option Addr) (h:ND n Q ex G X w0 M (aI a []::I)):ND n Q ex G X w0 M I:=aBR (fun _ hw=>hw.nilS a) h
theorem Mem.start (W:World):Mem [] W [] [] W:=⟨Ext.refl _ _,by simp [muts],by simp [muts],by simp,by simp⟩
theorem CD.out {f:FuncId} {vs:List Value} {W:World} {u:Value} (h:CD P f vs [] W M I (fun v _ _=>v=u)) (hm:Mem [] W M I W):Ret P f vs W (fun v w'=>Ext [] W w'∧v=u):=
 (h.go W hm).mono (fun _ _ ⟨_,_,h1,h2⟩=>⟨h2.ext,h1⟩)
/- one-cell values -/
class Ones {α:Type} (enc:α→List Value):Prop where
 one:∀m,∀u∈enc m,u.oneCell'=true
instance (k:IntKind):Ones (eI k):=⟨fun m u hu=>by simp [eI] at hu;subst hu;rfl⟩
instance:Ones eB:=⟨fun m u hu=>by simp [eB] at hu;subst hu;rfl⟩
theorem wI {α:Type} {enc:α→List Value} [h:Ones enc] (ms:List α):∀u∈recs enc ms,u.oneCell'=true:=by
 intro u hu
 obtain ⟨m,_,hm⟩:=List.mem_flatMap.1 hu
 exact h.one m u hm
theorem oO {α:Type} {enc:α→List Value} [Ones enc] {d:Nat} {s x:Operand} {t e:TypeId} {sz sz' by_:Nat} [Sized enc sz] {z:List Value} {a a':Option Addr} {c len c':Nat} {xs ys:List α} [SliceTy P t e sz'] [ElemTy P e sz by_ z]
  (kk:Nat) (hs:ev G s=some (.slice a xs.length c)) (hx:ev G x=some (.slice a' len c')) (hm:M[kk]?=some (.row a xs.length c (recs enc xs) e sz)) (hsrc:Src M I a' len c' (recs enc ys)) (hsz:0 < sz) (hl:ys.length=len) (hb:(xs.length+len)*by_≤140737488355328) (h63:xs.length+len≤9223372036854775807) (hg:nX ops G g=some true) (hd:Nat.ble (d+1) n=true)
  (k:∀a2 c2,OkD m X w0 (M.set kk (.row a2 (xs++ys).length c2 (recs enc (xs++ys)) e sz)) I∧RD P n ops Q m.nextE l ((d, .slice a2 (xs++ys).length c2)::G) X w0 (M.set kk (.row a2 (xs++ys).length c2 (recs enc (xs++ys)) e sz)) I):
  RD P n ops Q m (⟨some d, .call {callee:= .builtin .append,args:=#[s,x],argTypes:=#[t,t]},ty,pos,af,g⟩::l) G X w0 M I:=by
 subst hl
 refine aSQ kk hs hx hm hsrc hsz (fJ ys) (wI ys) hb h63 hg hd ?_
 intro a2 c2
 have:=k a2 c2
 rw [List.length_append,jO] at this
 exact this
theorem Mem.ints {w:World} {k:IntKind} {a:Option Addr} {xs:List Int} (h:Mem X w0 M I w) (hm:aI a (recs (eI k) xs)∈I):Ints [] w k a xs:=by
 have:=(h.sl hm).less (Y:=[]) (fun _ hk=>by simp at hk)
 rw [rJ] at this
 exact this
theorem fQ {C:World→Prop} {x y:Operand} {k:IntKind} {a b:Int} {at_:Array TypeId} (hx:ev G x=some (.int k a)) (hy:ev G y=some (.int k b)):
  Const P n G (.call {callee:= .builtin .min,args:=#[x,y],argTypes:=at_}) ty C (.int k (min a b)):=by
 have:=aQY (P:=P) (n:=n) (ty:=ty) (C:=C) (at_:=at_) hx hy
 rwa [show (if b < a then b else a)=min a b by omega] at this
theorem fT {C:World→Prop} {x y:Operand} {k:IntKind} {a b:Int} {at_:Array TypeId} (hx:ev G x=some (.int k a)) (hy:ev G y=some (.int k b)):
  Const P n G (.call {callee:= .builtin .max,args:=#[x,y],argTypes:=at_}) ty C (.int k (max a b)):=by
 have:=aQC (P:=P) (n:=n) (ty:=ty) (C:=C) (at_:=at_) hx hy
 rwa [show (if a < b then b else a)=max a b by omega] at this
theorem fV {C:World→Prop} {x y z:Operand} {k:IntKind} {a b c:Int} {at_:Array TypeId} (hx:ev G x=some (.int k a)) (hy:ev G y=some (.int k b)) (hz:ev G z=some (.int k c)):
  Const P n G (.call {callee:= .builtin .min,args:=#[x,y,z],argTypes:=at_}) ty C (.int k (min (min a b) c)):=by
 have e:min (min a b) c=(if c < (if b < a then b else a) then c else (if b < a then b else a)):=by
  split <;>split <;>omega
 rw [e]
 refine ⟨?_⟩
 intro s ha dst pos after guard w _
 simp [execOp,resolve,invoke,builtin,Builtin.min_,Builtin.min2,ha.ev hx,ha.ev hy,ha.ev hz]
theorem aJX (a b:Int): -a.natAbs≤a.tdiv b∧a.tdiv b≤a.natAbs:=by
 have h:(a.tdiv b).natAbs≤a.natAbs:=by
  rw [Int.natAbs_tdiv]
  exact Nat.div_le_self _ _
 omega
theorem aOH {a b:Int} (h: -9223372036854775808 < a∧a≤9223372036854775807):IntKind.i64.wrap (a.tdiv b)=a.tdiv b:=by
 have:=aJX a b
 exact wrap_i64 ⟨by omega,by omega⟩
theorem aNJ {a b:Int} (h:0≤a∧a≤18446744073709551615) (hb:0≤b):IntKind.u64.wrap (a.tdiv b)=a.tdiv b:=by
 have h1:=aJX a b
 have h2:=Int.tdiv_nonneg h.1 hb
 exact wrap_u64 ⟨by omega,by omega⟩
theorem vW {c:Code} {b mm:Nat} {cs:List Value} {e:TypeId} (sz:Nat) (hr:Rep (.blk b cs e) (.row (some ⟨b,0,none⟩) mm mm cs e sz) M M') (hl:cs.length=mm*sz) (hm:mm≤9223372036854775807) (h:TD P n c Q G X w0 M' I):TD P n c Q G X w0 M I:=mQ (fun _ hw=>hw.toRow sz hr hl hm) h
theorem lM {d:Nat} {t e:TypeId} {sz sz' by_:Nat} {z:List Value} {lo co:Operand} {k1 k2:IntKind} (mm:Nat) {x1 x2:Int} {cs:List Value} [SliceTy P t e sz'] [ElemTy P e sz by_ z]
  (hl:ev G lo=some (.int k1 x1)) (hc:ev G co=some (.int k2 x2)) (e1:x1=mm) (e2:x2=mm) (hb:(by_:Int)*(mm:Int)≤281474976710656) (hm:(mm:Int)≤9223372036854775807) (hcs:(madeCells z.toArray (mm*sz)).toList=cs) (hg:nX ops G g=some true) (hd:Nat.ble (d+1) n=true)
  (k:∀b,OkD m X w0 (.blk b cs e::M) I∧RD P n ops Q m.nextE l ((d, .slice (some ⟨b,0,none⟩) mm mm)::G) X w0 (.blk b cs e::M) I):
  RD P n ops Q m (⟨some d, .makeSlice t lo co,ty,pos,af,g⟩::l) G X w0 M I:=by
 subst e1;subst e2
 exact aXM mm hl hc hb hm hcs hg hd k
end
end Go.Fx

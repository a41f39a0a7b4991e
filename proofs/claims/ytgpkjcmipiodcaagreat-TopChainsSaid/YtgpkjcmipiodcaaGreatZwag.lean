/- Terms: nodes and their values at a state of zeros. -/
import Derived.Test.YtgpkjcmipiodcaaGreatZwaf
import Derived.Test.YtgpkjcmipiodcaaGreatZwae
import Derived.WideKeyRuns
set_option linter.unusedSimpArgs false
set_option linter.unusedVariables false
set_option maxRecDepth 100000
set_option maxHeartbeats 4000000
namespace Go.Proofs.YtgpkjcmipiodcaaGreat
open Go Go.Fx
structure TK where
 op:Int
 a:Int
 b:Int
 n:Int
instance TK.inh:Inhabited TK:=⟨⟨0,0,0,0⟩⟩
def TK.key (k:TK):List Int:=[k.op,k.a,k.b,k.n]
theorem TK.key_inj {k m:TK} (h:k.key=m.key):k=m:=by
 cases k;cases m
 simp only [TK.key,List.cons.injEq,and_true] at h
 obtain ⟨h1,h2,h3,h4⟩:=h
 subst h1;subst h2;subst h3;subst h4;rfl
inductive Stp (N:Nat) (vs:List Rat):TK→Rat→Prop
 |num (n:Int) (h: -9223372036854775808≤n∧n≤9223372036854775807):Stp N vs ⟨0,0,0,n⟩ (n:Rat)
 |var (i:Nat) (h:i < N):Stp N vs ⟨1,(i:Int),0,0⟩ 0
 |add {i j:Nat} {p q:Rat} (hi:vs[i]?=some p) (hj:vs[j]?=some q):Stp N vs ⟨2,(i:Int),(j:Int),0⟩ (p+q)
 |sub {i j:Nat} {p q:Rat} (hi:vs[i]?=some p) (hj:vs[j]?=some q):Stp N vs ⟨3,(i:Int),(j:Int),0⟩ (p - q)
 |mul {i j:Nat} {p q:Rat} (hi:vs[i]?=some p) (hj:vs[j]?=some q):Stp N vs ⟨4,(i:Int),(j:Int),0⟩ (p*q)
 |div {i j:Nat} {p q:Rat} (hi:vs[i]?=some p) (hj:vs[j]?=some q) (h0:q≠0):Stp N vs ⟨5,(i:Int),(j:Int),0⟩ (p / q)
 |sqr {i:Nat} {p:Rat} (hi:vs[i]?=some p):Stp N vs ⟨7,(i:Int),0,0⟩ (p*p)
theorem Stp.mono {N:Nat} {vs ws:List Rat} {k:TK} {q:Rat} (h:Stp N vs k q) (hs:∀(i:Nat) (p:Rat),vs[i]?=some p→ws[i]?=some p):Stp N ws k q:=by
 cases h with
 |num n h=>exact .num n h
 |var i h=>exact .var i h
 |add hi hj=>exact .add (hs _ _ hi) (hs _ _ hj)
 |sub hi hj=>exact .sub (hs _ _ hi) (hs _ _ hj)
 |mul hi hj=>exact .mul (hs _ _ hi) (hs _ _ hj)
 |div hi hj h0=>exact .div (hs _ _ hi) (hs _ _ hj) h0
 |sqr hi=>exact .sqr (hs _ _ hi)
theorem Stp.uniq {N:Nat} {vs:List Rat} {k:TK} {p q:Rat} (h:Stp N vs k p) (h2:Stp N vs k q):p=q:=by
 cases h with
 |num n h=>cases h2 with|num _ _=>rfl
 |var i h=>generalize hx:((i:Nat):Int)=x at h2;cases h2 with|var _ _=>rfl
 | @add i j p q hi hj=>
  generalize hx:((i:Nat):Int)=x at h2;generalize hy:((j:Nat):Int)=y at h2
  cases h2 with
  | @add i' j' p' q' hi' hj' => obtain rfl : i = i' := by omega
                                obtain rfl:j=j':=by omega
                                rw [hi] at hi';rw [hj] at hj';cases hi';cases hj';rfl
 | @sub i j p q hi hj=>
  generalize hx:((i:Nat):Int)=x at h2;generalize hy:((j:Nat):Int)=y at h2
  cases h2 with
  | @sub i' j' p' q' hi' hj' => obtain rfl : i = i' := by omega
                                obtain rfl:j=j':=by omega
                                rw [hi] at hi';rw [hj] at hj';cases hi';cases hj';rfl
 | @mul i j p q hi hj=>
  generalize hx:((i:Nat):Int)=x at h2;generalize hy:((j:Nat):Int)=y at h2
  cases h2 with
  | @mul i' j' p' q' hi' hj' => obtain rfl : i = i' := by omega
                                obtain rfl:j=j':=by omega
                                rw [hi] at hi';rw [hj] at hj';cases hi';cases hj';rfl
 | @div i j p q hi hj h0=>
  generalize hx:((i:Nat):Int)=x at h2;generalize hy:((j:Nat):Int)=y at h2
  cases h2 with
  | @div i' j' p' q' hi' hj' h0' => obtain rfl : i = i' := by omega
                                    obtain rfl:j=j':=by omega
                                    rw [hi] at hi';rw [hj] at hj';cases hi';cases hj';rfl
 | @sqr i p hi=>
  generalize hx:((i:Nat):Int)=x at h2
  cases h2 with
  | @sqr i' p' hi' => obtain rfl : i = i' := by omega
                      rw [hi] at hi';cases hi';rfl
inductive Ev (N:Nat):List TK→List Rat→Prop
 |nil:Ev N [] []
 |snoc {ks:List TK} {vs:List Rat} {k:TK} {q:Rat} (h:Ev N ks vs) (s:Stp N vs k q) (ht:Ht 100000 q):Ev N (ks++[k]) (vs++[q])
theorem Ev.len {N:Nat} {ks:List TK} {vs:List Rat} (h:Ev N ks vs):ks.length=vs.length:=by
 induction h with
 |nil=>rfl
 |snoc _ _ _ ih=>simp [ih]
theorem Ev.at {N:Nat} {ks:List TK} {vs:List Rat} (h:Ev N ks vs):∀{i:Nat} {k:TK},ks[i]?=some k→∃q,vs[i]?=some q∧Stp N (vs.take i) k q∧Ht 100000 q:=by
 induction h with
 |nil=>intro i k hk;simp at hk
 | @snoc ks vs k q h s ht ih=>
  intro i k' hk
  have hl:=h.len
  by_cases hi:i < ks.length
  ·rw [List.getElem?_append_left hi] at hk
   obtain ⟨q',h1,h2,h3⟩:=ih hk
   refine ⟨q',by rw [List.getElem?_append_left (by omega)];exact h1,?_,h3⟩
   rw [List.take_append_of_le_length (by omega)];exact h2
  ·have hi':i=ks.length:=by
    have:=(List.getElem?_eq_some_iff.1 hk).1
    simp at this;omega
   subst hi'
   simp only [List.getElem?_concat_length,Option.some.injEq] at hk
   subst hk
   rw [hl]
   exact ⟨q,by simp,by simpa using s,ht⟩
theorem Ev.take {N:Nat} {ks:List TK} {vs:List Rat} (h:Ev N ks vs):∀(i:Nat),Ev N (ks.take i) (vs.take i):=by
 induction h with
 |nil=>intro i;simp;exact .nil
 | @snoc ks vs k q h s ht ih=>
  intro i
  have hl:=h.len
  by_cases hi:i≤ks.length
  ·rw [List.take_append_of_le_length hi,List.take_append_of_le_length (by omega)];exact ih i
  ·rw [List.take_of_length_le (by simp;omega),List.take_of_length_le (by simp;omega)]
   exact .snoc h s ht
structure Pn where
 i:Nat
 q:Rat
 h:Nat
def Pn.on (p:Pn) (vs:List Rat):Prop:=Ht p.h p.q∧vs[p.i]?=some p.q
def TS (N c:Nat) (ks:List TK) (L:List Pn):Prop:=ks.length≤c∧∃vs,Ev N ks vs∧∀p∈L,p.on vs
theorem TS.nil (N:Nat):TS N 0 [] []:=⟨Nat.le_refl _,[], .nil,fun p hp=>absurd hp List.not_mem_nil⟩
theorem TS.sub {N c d:Nat} {ks:List TK} {L L':List Pn} (h:TS N c ks L) (hc:c≤d) (hs:∀p∈L',p∈L):TS N d ks L':=by
 obtain ⟨h1,vs,h2,h3⟩:=h
 exact ⟨by omega,vs,h2,fun p hp=>h3 p (hs p hp)⟩
theorem TS.wk {N c:Nat} {ks:List TK} {L:List Pn} {i:Nat} {q:Rat} {h:Nat} (t:TS N c ks L) (hp:⟨i,q,h⟩∈L) {q':Rat} {h':Nat} (hq:q=q') (hh:Ht h' q'):TS N c ks (⟨i,q',h'⟩::L):=by
 obtain ⟨h1,vs,h2,h3⟩:=t
 subst hq
 refine ⟨h1,vs,h2,fun p hp'=>?_⟩
 rcases List.mem_cons.1 hp' with rfl|hp'
 ·exact ⟨hh,(h3 _ hp).2⟩
 ·exact h3 p hp'
theorem TS.wm {N c:Nat} {ks:List TK} {L:List Pn} {i:Nat} {q:Rat} {h:Nat} (t:TS N c ks L) (hp:⟨i,q,h⟩∈L) {q':Rat} {h':Nat} (hq:q=q') (hh:h≤h'):TS N c ks (⟨i,q',h'⟩::L):=
 t.wk hp hq (by
  obtain ⟨_,vs,_,h3⟩:=t
  subst hq
  exact (h3 _ hp).1.mono hh)
def Nw (N:Nat) (L:List Pn) (k:TK) (q:Rat) (h:Nat):Prop:=∀vs,(∀p∈L,p.on vs)→Ht h q∧Stp N vs k q
theorem Nw.num {N:Nat} {L:List Pn} (n:Int) {h:Nat} (hn: -9223372036854775808≤n∧n≤9223372036854775807) (hh:n.natAbs≤2 ^ h):Nw N L ⟨0,0,0,n⟩ n h:=fun _ _=>⟨Ht.int hh, .num n hn⟩
theorem Nw.var {N:Nat} {L:List Pn} (i:Nat) (h:i < N):Nw N L ⟨1,(i:Int),0,0⟩ 0 0:=fun _ _=>⟨by decide, .var i h⟩
section
variable {N:Nat} {L:List Pn} {i j:Nat} {p q:Rat} {h m:Nat}
theorem Nw.add (hi:⟨i,p,h⟩∈L) (hj:⟨j,q,m⟩∈L):Nw N L ⟨2,(i:Int),(j:Int),0⟩ (p+q) (h+m+1):=fun vs hv=>⟨(hv _ hi).1.add (hv _ hj).1, .add (hv _ hi).2 (hv _ hj).2⟩
theorem Nw.sub (hi:⟨i,p,h⟩∈L) (hj:⟨j,q,m⟩∈L):Nw N L ⟨3,(i:Int),(j:Int),0⟩ (p - q) (h+m+1):=fun vs hv=>⟨(hv _ hi).1.sub (hv _ hj).1, .sub (hv _ hi).2 (hv _ hj).2⟩
theorem Nw.mul (hi:⟨i,p,h⟩∈L) (hj:⟨j,q,m⟩∈L):Nw N L ⟨4,(i:Int),(j:Int),0⟩ (p*q) (h+m):=fun vs hv=>⟨(hv _ hi).1.mul (hv _ hj).1, .mul (hv _ hi).2 (hv _ hj).2⟩
theorem Nw.div (hi:⟨i,p,h⟩∈L) (hj:⟨j,q,m⟩∈L) (h0:q≠0):Nw N L ⟨5,(i:Int),(j:Int),0⟩ (p / q) (h+m):=fun vs hv=>⟨(hv _ hi).1.div (hv _ hj).1, .div (hv _ hi).2 (hv _ hj).2 h0⟩
theorem Nw.sqr (hi:⟨i,p,h⟩∈L):Nw N L ⟨7,(i:Int),0,0⟩ (p*p) (h+h):=fun vs hv=>⟨(hv _ hi).1.mul (hv _ hi).1, .sqr (hv _ hi).2⟩
end
theorem TS.push {N c:Nat} {ks:List TK} {L:List Pn} {k:TK} {q:Rat} {h:Nat} (t:TS N c ks L) (hn:Nw N L k q h) (hh:h≤100000):TS N (c+1) (ks++[k]) (⟨ks.length,q,h⟩::L):=by
 obtain ⟨h1,vs,h2,h3⟩:=t
 obtain ⟨h4,h6⟩:=hn vs h3
 refine ⟨by simp;omega,vs++[q], .snoc h2 h6 (h4.mono hh),fun p hp=>?_⟩
 rcases List.mem_cons.1 hp with rfl|hp
 ·exact ⟨h4,by show (vs++[q])[ks.length]?=_;rw [h2.len];simp⟩
 ·obtain ⟨h7,h8⟩:=h3 p hp
  exact ⟨h7,by rw [List.getElem?_append_left (List.getElem?_eq_some_iff.1 h8).1];exact h8⟩
theorem TS.old {N c:Nat} {ks:List TK} {L:List Pn} {k:TK} {q:Rat} {h i:Nat} (t:TS N c ks L) (hn:Nw N L k q h) (hk:ks[i]?=some k):TS N c ks (⟨i,q,h⟩::L):=by
 obtain ⟨h1,vs,h2,h3⟩:=t
 obtain ⟨h4,h6⟩:=hn vs h3
 obtain ⟨v,h7,h8,_⟩:=h2.at hk
 have hv:v=q:=Stp.uniq (h8.mono (fun i p hp=>by
  rw [List.getElem?_take] at hp
  split at hp
  ·exact hp
  ·cases hp)) h6
 refine ⟨h1,vs,h2,fun p hp=>?_⟩
 rcases List.mem_cons.1 hp with rfl|hp
 ·exact ⟨h4,by rw [←hv];exact h7⟩
 ·exact h3 p hp
theorem TS.lt {N c:Nat} {ks:List TK} {L:List Pn} {p:Pn} (t:TS N c ks L) (hp:p∈L):p.i < ks.length:=by
 obtain ⟨h1,vs,h2,h3⟩:=t
 rw [h2.len];exact (List.getElem?_eq_some_iff.1 (h3 p hp).2).1
def TV (N:Nat) (ks:List TK) (q:Rat):Prop:=∃vs,Ev N ks vs∧vs.getLast?=some q
theorem TS.tv {N c:Nat} {ks:List TK} {L:List Pn} {i:Nat} {q:Rat} {h:Nat} (t:TS N c ks L) (hp:⟨i,q,h⟩∈L):TV N (ks.take (i+1)) q:=by
 obtain ⟨h1,vs,h2,h3⟩:=t
 obtain ⟨_,h4⟩:=h3 _ hp
 refine ⟨vs.take (i+1),h2.take _,?_⟩
 have hlt:=(List.getElem?_eq_some_iff.1 h4).1
 simp only at hlt h4
 rw [List.getLast?_eq_getElem?,List.length_take,Nat.min_eq_left (by omega),List.getElem?_take]
 simpa using h4
end Go.Proofs.YtgpkjcmipiodcaaGreat
namespace Go.Fx
def Rest (P:Program) (l:List Oper) (Q:Exit→Act→World→Prop) (Cs:Nat→World→Prop) (fuel k:Nat) (listed:Array Bool):Exit→Act→World→Prop
 | .normal,a,w=>rW P l.toArray Q Cs fuel k listed a w
 |_,_,_=>False
section
variable {P:Program} {n:Nat} {Q:Exit→Act→World→Prop} {G:Env} {w:World} {l:List Oper} {Cs:Nat→World→Prop}
theorem aPV {fuel fuel' k:Nat} {listed listed':Array Bool} (p ms:List Nat) (hm:∀s w,Cs s w→Cs (s+1) w) (hs:Region.noSelect l.toArray=true) (hok:rV l.toArray p ms listed=some listed') (hf:fuel'=fuel+p.length) (hsz:listed.size=l.toArray.size) (hC:Cs k w)
  (h:R P n l (Rest P l Q Cs fuel (k+aDO l.toArray p) listed') (.any Cs k ms) (pick l p) G w):N n (Rest P l Q Cs fuel' k listed) .normal G w:=⟨fun a ha=>by
 subst hf
 exact rU hm hs p ms k listed a w hC hsz hok (fun _ _ _ _ hq=>hq) (h.go a ha)⟩
theorem aRK {fuel k:Nat} {listed:Array Bool} (p ms:List Nat) (hm:∀s w,Cs s w→Cs (s+1) w) (hs:Region.noSelect l.toArray=true) (hok:iP l.toArray p ms listed=true) (hf:fuel=p.length) (hsz:listed.size=l.toArray.size) (hC:Cs k w)
  (h:R P n l Q (.any Cs k ms) (pick l p) G w):N n (Rest P l Q Cs fuel k listed) .normal G w:=⟨fun a ha=>by
 subst hf
 exact jQ hm hs p ms k listed a w hC hsz hok (h.go a ha)⟩
theorem pM {fuel k i:Nat} {listed:Array Bool} {o:Oper} {a:Act} (hi:l.toArray[i]?=some o) (hk:iM o.op=false)
  (h:wpM P l.toArray (Rest P l Q Cs fuel (k+1) (listed.setIfInBounds i true)) (.any Cs k []) (pick l [i]) a w):
  wpOp P l.toArray QF i (fun a' w'=>Cs (k+eAt l.toArray i) w'∧rW P l.toArray Q Cs fuel (k+eAt l.toArray i) (listed.setIfInBounds i true) a' w') a w:=by
 have hg:nth l i=o:=aHQ l i o (by simpa using hi)
 simp only [pick,hg] at h
 rw [zL hi hk]
 unfold wpOp
 simp only [hi]
 by_cases hw:Region.wanted o (yielded l.toArray a.tmps)=true
 ·rw [if_pos hw]
  rcases h.1 hw with ⟨hk2,_⟩|⟨_,hk2⟩
  ·rw [hk] at hk2;cases hk2
  ·exact .inl (Oper.wp_mono (fun a' w' ⟨h1,h2⟩=>⟨h1,h2⟩) hk2)
 ·rw [if_neg hw]
  obtain ⟨hh1,hh2⟩:=h.2 (by simpa using hw)
  simp only [Mode.held,hk,cond_false] at hh1
  exact ⟨hh1,hh2⟩
def tK (ops:Array Oper) (i:Nat):Bool:=
 match ops[i]? with
 |some o=> !iM o.op
 |none=>false
theorem aMM {fuel k i j:Nat} {listed:Array Bool} (hr:(Region.ready .any l.toArray listed==[i,j] && tK l.toArray i && tK l.toArray j)=true)
  (h1:R P n l (Rest P l Q Cs fuel (k+1) (listed.setIfInBounds i true)) (.any Cs k []) (pick l [i]) G w)
  (h2:R P n l (Rest P l Q Cs fuel (k+1) (listed.setIfInBounds j true)) (.any Cs k []) (pick l [j]) G w):N n (Rest P l Q Cs (fuel+1) k listed) .normal G w:=⟨fun a ha=>by
 simp only [Bool.and_eq_true,beq_iff_eq] at hr
 obtain ⟨⟨hr,e1⟩,e2⟩:=hr
 have get:∀x,tK l.toArray x=true→∃o,l.toArray[x]?=some o∧iM o.op=false:=fun x hx=>by
  unfold tK at hx
  cases ho:l.toArray[x]? with
  |none=>simp [ho] at hx
  |some o=>simp [ho] at hx;exact ⟨o,rfl,hx⟩
 obtain ⟨o1,ho1,hk1⟩:=get i e1
 obtain ⟨o2,ho2,hk2⟩:=get j e2
 refine ⟨fun h0=>(by rw [hr] at h0;cases h0),fun x hx=>?_⟩
 rw [hr] at hx
 simp only [List.mem_cons,List.not_mem_nil,or_false] at hx
 rcases hx with rfl|rfl
 ·exact pM ho1 hk1 (h1.go a ha)
 ·exact pM ho2 hk2 (h2.go a ha)⟩
theorem aKG {fuel k i j m:Nat} {listed:Array Bool} (hr:(Region.ready .any l.toArray listed==[i,j,m] && tK l.toArray i && tK l.toArray j && tK l.toArray m)=true)
  (h1:R P n l (Rest P l Q Cs fuel (k+1) (listed.setIfInBounds i true)) (.any Cs k []) (pick l [i]) G w)
  (h2:R P n l (Rest P l Q Cs fuel (k+1) (listed.setIfInBounds j true)) (.any Cs k []) (pick l [j]) G w)
  (h3:R P n l (Rest P l Q Cs fuel (k+1) (listed.setIfInBounds m true)) (.any Cs k []) (pick l [m]) G w):N n (Rest P l Q Cs (fuel+1) k listed) .normal G w:=⟨fun a ha=>by
 simp only [Bool.and_eq_true,beq_iff_eq] at hr
 obtain ⟨⟨⟨hr,e1⟩,e2⟩,e3⟩:=hr
 have get:∀x,tK l.toArray x=true→∃o,l.toArray[x]?=some o∧iM o.op=false:=fun x hx=>by
  unfold tK at hx
  cases ho:l.toArray[x]? with
  |none=>simp [ho] at hx
  |some o=>simp [ho] at hx;exact ⟨o,rfl,hx⟩
 obtain ⟨o1,ho1,hk1⟩:=get i e1
 obtain ⟨o2,ho2,hk2⟩:=get j e2
 obtain ⟨o3,ho3,hk3⟩:=get m e3
 refine ⟨fun h0=>(by rw [hr] at h0;cases h0),fun x hx=>?_⟩
 rw [hr] at hx
 simp only [List.mem_cons,List.not_mem_nil,or_false] at hx
 rcases hx with rfl|rfl|rfl
 ·exact pM ho1 hk1 (h1.go a ha)
 ·exact pM ho2 hk2 (h2.go a ha)
 ·exact pM ho3 hk3 (h3.go a ha)⟩
theorem bAP {id:Nat} (Cs:Nat→World→Prop) (hx:P.follows .mixedOrders=true) (h:N n (Rest P l Q Cs l.length 0 (Array.replicate l.length false)) .normal G w.drew):T P n (.region id l.toArray true) Q G w:=⟨fun a ha=>by
 refine wp_region_any hx ?_
 have:=h.go a ha
 have e:l.toArray.size=l.length:=by simp
 rw [e]
 exact rQ _ _ _ _ _ this⟩
end
section
variable {P:Program} {n:Nat} {Q:Exit→Act→World→Prop} {G:Env} {X:List Nat} {w0:World} {M M1:List Ent} {I I1:List aV} {l:List Oper}
theorem lG {id:Nat} (M1:List Ent) (I1:List aV) (hx:P.follows .mixedOrders=true) (h:ND n (Rest P l Q (vL X w0 M1 I1) l.length 0 (Array.replicate l.length false)) .normal G X w0 M I):TD P n (.region id l.toArray true) Q G X w0 M I:=
 ⟨fun w hw=>bAP (vL X w0 M1 I1) hx (h.go w.drew hw.drew)⟩
theorem dH {fuel fuel' k:Nat} {listed listed':Array Bool} (p ms:List Nat) (hM:SubP M M1) (hI:Inc I I1) (hs:Region.noSelect l.toArray=true) (hok:rV l.toArray p ms listed=some listed') (hf:fuel'=fuel+p.length) (hsz:listed.size=l.toArray.size)
  (h:RD P n l (Rest P l Q (vL X w0 M1 I1) fuel (k+aDO l.toArray p) listed') (.any (vL X w0 M1 I1) k ms) (pick l p) G X w0 M I):ND n (Rest P l Q (vL X w0 M1 I1) fuel' k listed) .normal G X w0 M I:=
 ⟨fun w hw=>aPV p ms (fun _ _ h=>h) hs hok hf hsz (hw.weak hM hI) (h.go w hw)⟩
theorem aM {fuel k:Nat} {listed:Array Bool} (p ms:List Nat) (hM:SubP M M1) (hI:Inc I I1) (hs:Region.noSelect l.toArray=true) (hok:iP l.toArray p ms listed=true) (hf:fuel=p.length) (hsz:listed.size=l.toArray.size)
  (h:RD P n l Q (.any (vL X w0 M1 I1) k ms) (pick l p) G X w0 M I):ND n (Rest P l Q (vL X w0 M1 I1) fuel k listed) .normal G X w0 M I:=
 ⟨fun w hw=>aRK p ms (fun _ _ h=>h) hs hok hf hsz (hw.weak hM hI) (h.go w hw)⟩
theorem aN {fuel k i j:Nat} {listed:Array Bool} (hr:(Region.ready .any l.toArray listed==[i,j] && tK l.toArray i && tK l.toArray j)=true)
  (h1:RD P n l (Rest P l Q (vL X w0 M1 I1) fuel (k+1) (listed.setIfInBounds i true)) (.any (vL X w0 M1 I1) k []) (pick l [i]) G X w0 M I)
  (h2:RD P n l (Rest P l Q (vL X w0 M1 I1) fuel (k+1) (listed.setIfInBounds j true)) (.any (vL X w0 M1 I1) k []) (pick l [j]) G X w0 M I):ND n (Rest P l Q (vL X w0 M1 I1) (fuel+1) k listed) .normal G X w0 M I:=
 ⟨fun w hw=>aMM hr (h1.go w hw) (h2.go w hw)⟩
theorem fC {fuel k i j m:Nat} {listed:Array Bool} (hr:(Region.ready .any l.toArray listed==[i,j,m] && tK l.toArray i && tK l.toArray j && tK l.toArray m)=true)
  (h1:RD P n l (Rest P l Q (vL X w0 M1 I1) fuel (k+1) (listed.setIfInBounds i true)) (.any (vL X w0 M1 I1) k []) (pick l [i]) G X w0 M I)
  (h2:RD P n l (Rest P l Q (vL X w0 M1 I1) fuel (k+1) (listed.setIfInBounds j true)) (.any (vL X w0 M1 I1) k []) (pick l [j]) G X w0 M I)
  (h3:RD P n l (Rest P l Q (vL X w0 M1 I1) fuel (k+1) (listed.setIfInBounds m true)) (.any (vL X w0 M1 I1) k []) (pick l [m]) G X w0 M I):ND n (Rest P l Q (vL X w0 M1 I1) (fuel+1) k listed) .normal G X w0 M I:=
 ⟨fun w hw=>aKG hr (h1.go w hw) (h2.go w hw) (h3.go w hw)⟩
end
end Go.Fx
namespace Go.Fx
section
variable {P:Program} {n:Nat} {G:Env} {ty:TypeId} {C:World→Prop}
theorem eF {t e:TypeId} {sz len b o:Nat} {x:Operand} [ht:ArrTy P t len e sz] (hx:ev G x=some (.pointer (some ⟨b,o,none⟩))):
  Const P n G (.slice t x none none none) ty C (.slice (some ⟨b,o,none⟩) len len):=by
 refine ⟨?_⟩
 intro st ha dst pos after guard w _
 by_cases h:len=0
 ·subst h
  simp [execOp,Instr.sliceAt,ha.ev hx,dM ht.und,run_sizeOf ht.size,Instr.sliceBounds,Instr.sureAddr]
 ·simp [execOp,Instr.sliceAt,ha.ev hx,dM ht.und,run_sizeOf ht.size,Instr.sliceBounds,Instr.sureAddr,h,add_lit]
theorem aQF {t e:TypeId} {sz len sz' by_:Nat} {z:List Value} {parts:List (Nat × Operand)} {pvs:List (Nat × Value)} {cells:List Value} [ht:ArrTy P t len e sz] [hz:ElemTy P t sz' by_ z]
  (hp:parts.map (fun p=>(p.1,ev G p.2))=pvs.map (fun p=>(p.1,some p.2)))
  (hf:Instr.fill (fun i=>some (i*sz,sz)) z.toArray pvs=some cells.toArray):Const P n G (.build t parts.toArray) ty C (.agg cells.toArray):=by
 refine aBM hp fun w=>?_
 obtain ⟨i,hi,h3⟩:=Option.map_eq_some_iff.1 hz.info
 simp only [Prod.mk.injEq] at h3
 obtain ⟨h4,h5,h6⟩:=h3
 obtain ⟨v,hv,hc⟩:=Option.map_eq_some_iff.1 h6
 have hzv:(zeroValue t).run P w= .ok v w:=by simp [zeroValue,typeInfo,hi,hv]
 unfold Instr.build
 rw [Sem.run_bind,hzv,Result.andThen_ok,Sem.run_bind,dM ht.und,Result.andThen_ok]
 simp only [Sem.run_bind,run_sizeOf ht.size,Result.andThen_ok,hc,hf]
 rfl
theorem jN {t e:TypeId} {sz len sz':Nat} {x ix:Operand} {cs vs:List Value} {k:IntKind} {i:Int} [ht:ArrTy P t len e sz] [he:AggTy P e sz'] (hx:ev G x=some (.agg cs.toArray)) (hi:ev G ix=some (.int k i)) (h:0≤i∧i < len)
  (hv:(cs.drop (i.toNat*sz)).take sz=vs):Const P n G (.index t x ix) ty C (.agg vs.toArray):=by
 refine ⟨?_⟩
 intro st ha dst pos after guard w _
 simp [execOp,Instr.index,ha.ev hx,ha.ev hi,asIntOf,dM ht.und,h.1,h.2,part,jS,run_sizeOf ht.size,List.extract_eq_take_drop,hv]
end
def PlOk (place:Nat→Option (Nat × Nat)):Nat→Nat→List Value→Prop
 |_,_,[]=>True
 |k,off,v::r=>place k=some (off,v.cells.size)∧PlOk place (k+1) (off+v.cells.size) r
def pG (vals:List Value):List Value:=vals.flatMap (fun v=>v.cells.toList)
theorem aBJ (place:Nat→Option (Nat × Nat)):∀(vals:List Value) (k:Nat) (pre:List Value) (base:Array Value),base.size=pre.length+(pG vals).length→base.toList.take pre.length=pre→PlOk place k pre.length vals→
  Instr.fill place base ((vals.zipIdx k).map (fun p=>(p.2,p.1)))=some (pre++pG vals).toArray
 |[],k,pre,base,hb,ht,_=>by
  have:base.toList=pre:=by
   rw [←ht,List.take_of_length_le]
   simp [hb,pG]
  simp [Instr.fill,pG,←this]
 |v::r,k,pre,base,hb,ht,hc=>by
  obtain ⟨h1,h2⟩:=hc
  have hcl:pG (v::r)=v.cells.toList++pG r:=by simp [pG]
  have hcs:v.cells.toList.length=v.cells.size:=by simp
  have hlt:pre.length+v.cells.size≤base.size:=by
   rw [hb,hcl,List.length_append,hcs];omega
  simp only [List.zipIdx_cons,List.map_cons,Instr.fill,h1]
  have hno:¬(v.cells.size≠v.cells.size∨pre.length+v.cells.size>base.size):=by omega
  have hf:=aBG pre.length v.cells.toList base (by simp;omega)
  simp only [Array.toArray_toList] at hf
  simp only [Bool.or_eq_true,decide_eq_true_eq,hno,if_false,hf]
  rw [aBJ place r (k+1) (pre++v.cells.toList) _ ?_ ?_ (by rw [List.length_append,hcs];exact h2)]
  ·rw [hcl,List.append_assoc]
  ·simp only [List.size_toArray,List.length_append,List.length_take,List.length_drop,hcs,Array.length_toList]
   rw [hcl,List.length_append,hcs] at hb
   omega
  ·simp only [ht]
   rw [List.take_append_of_le_length (by simp),List.take_of_length_le (by simp)]
section
variable {P:Program} {n:Nat} {G:Env} {ty:TypeId} {C:World→Prop}
theorem dK {t:TypeId} {parts:List (Nat × Operand)} {vals cells:List Value} {places:List (Nat × Nat)} {z:List Value} [ht:StructTy P t places z]
  (hp:parts.map (fun p=>(p.1,ev G p.2))=vals.zipIdx.map (fun p=>(p.2,some p.1))) (hpl:PlOk (places.toArray[·]?) 0 0 vals) (hc:pG vals=cells) (hz:z.length=cells.length):
  Const P n G (.build t parts.toArray) ty C (.agg cells.toArray):=by
 refine aK (pvs:=vals.zipIdx.map (fun p=>(p.2,p.1))) (places:=places) (z:=z) (by rw [hp];simp) ?_
 have:=aBJ (places.toArray[·]?) vals 0 [] z.toArray (by simp [hc,hz]) (by simp) (by simpa using hpl)
 rw [hc] at this
 simpa using this
theorem bH {t e:TypeId} {sz len sz' by_:Nat} {z:List Value} {parts:List (Nat × Operand)} {vals cells:List Value} [ht:ArrTy P t len e sz] [hz:ElemTy P t sz' by_ z]
  (hp:parts.map (fun p=>(p.1,ev G p.2))=vals.zipIdx.map (fun p=>(p.2,some p.1))) (hs:∀v∈vals,v.cells.size=sz) (hc:pG vals=cells) (hl:z.length=vals.length*sz):
  Const P n G (.build t parts.toArray) ty C (.agg cells.toArray):=by
 refine aQF (pvs:=vals.zipIdx.map (fun p=>(p.2,p.1))) (by rw [hp];simp) ?_
 have:=aDZ sz vals 0 [] z.toArray (by simp) (by simp [hl]) (by simp) hs
 have h2:vals.flatMap (fun v=>v.cells.toList)=cells:=hc
 rw [h2] at this
 simpa using this
end
theorem xK {P:Program} {n:Nat} {G:Env} {ty:TypeId} {C:World→Prop} {t t':TypeId} {x y:Operand} {a b:Bool} [ht:BoolTy P t] (hx:ev G x=some (.bool a)) (hy:ev G y=some (.bool b)):
  Const P n G (.binOp .neq t x y t') ty C (.bool (!(a==b))):=by
 refine ⟨?_⟩
 intro s ha dst pos after guard w _
 have e1:(eqGuard .neq t x y (.bool a) (.bool b)).run P w= .ok () w:=rfl
 simp only [execOp,ha.ev hx,ha.ev hy,Sem.run_bind,e1,Result.andThen_ok,run_neq_bool _ t a b ht.und,Sem.run_pure]
theorem oK {α:Type} [Inhabited α] {enc:α→List Value} {sz:Nat} [h:Sized enc sz] {ms:List α} {i:Int} (hi:0≤i∧i < ms.length):((recs enc ms).drop (i.toNat*sz)).take sz=enc (gt ms i):=by
 apply List.ext_getElem?
 intro j
 have hl:=h.len (gt ms i)
 rw [List.getElem?_take]
 by_cases hj:j < sz
 ·rw [if_pos hj,List.getElem?_drop,List.getElem?_eq_getElem (by omega:j < (enc (gt ms i)).length)]
  exact zV ms i.toNat j _ _ (aHD hi) (List.getElem?_eq_getElem (by omega))
 ·rw [if_neg hj,List.getElem?_eq_none (by omega)]
theorem AtsZ.n8 {cs:List Value} {o:Nat} {a b c d e f g h:Value} (h0:cs[o]?=some a) (h1:cs[o+1]?=some b) (h2:cs[o+2]?=some c) (h3:cs[o+3]?=some d) (h4:cs[o+4]?=some e) (h5:cs[o+5]?=some f) (h6:cs[o+6]?=some g) (h7:cs[o+7]?=some h):AtsZ cs o [a,b,c,d,e,f,g,h] 8:=⟨⟨fun j v hj=>by
 match j,hj with
 |0,hj=>simp at hj;subst hj;exact h0
 |1,hj=>simp at hj;subst hj;exact h1
 |2,hj=>simp at hj;subst hj;exact h2
 |3,hj=>simp at hj;subst hj;exact h3
 |4,hj=>simp at hj;subst hj;exact h4
 |5,hj=>simp at hj;subst hj;exact h5
 |6,hj=>simp at hj;subst hj;exact h6
 |7,hj=>simp at hj;subst hj;exact h7
 |j+8,hj=>simp at hj⟩,rfl⟩
theorem atY {cs vs:List Value} {o sz:Nat} (h:AtsZ cs o vs sz:=by first|(with_reducible refine AtsZ.r ?_;exact jH)|(with_reducible refine AtsZ.r2 ?_ ?_ ?_;exact jH;rfl;rfl)|(with_reducible refine AtsZ.r4 ?_ ?_ ?_ ?_ ?_;exact jH;rfl;rfl;rfl;rfl)|exact AtsZ.all rfl|exact AtsZ.n2 rfl rfl|exact AtsZ.n4 rfl rfl rfl rfl|exact AtsZ.n8 rfl rfl rfl rfl rfl rfl rfl rfl|(refine AtsZ.r ?_;exact jH)|(refine AtsZ.app ?_;refine AtsZ.r ?_;exact jH)):AtsZ cs o vs sz:=h
end Go.Fx
namespace Go.Fx
def aZE:List (Int × Int)→Nat→List MapEntry
 |[],_=>[]
 |p::r,n=>⟨.int .i64 p.1, .int .i64 p.2,n⟩::aZE r (n+1)
def mapO (es:List (Int × Int)):Obj:= .map (aZE es 0).toArray es.length
def look:List (Int × Int)→Int→Nat→Option (Nat × Int)
 |[],_,_=>none
 |p::r,k,n=>if k=p.1 then some (n,p.2) else look r k (n+1)
def mapU (es:List (Int × Int)) (k v:Int):List (Int × Int):=match look es k 0 with|some q=>es.set q.1 (k,v)|none=>es++[(k,v)]
class MapTy (P:Program) (t:TypeId):Prop where
 go:∃k e,P.underlying t=some (.map k e)∧P.underlying k=some (.int .i64)∧∃i,P.info? e=some i∧i.zero=some (.int .i64 0)
section
variable {P:Program} {n:Nat} {G:Env} {ty:TypeId} {w:World}
theorem Ext.setObj {b:Nat} {o:Obj}:Ext [b] w {w with heap:=w.heap.setIfInBounds b o}:=⟨rfl,rfl,rfl,by simp,fun k hk hx=>by
 simp only [List.mem_singleton] at hx
 show (w.heap.setIfInBounds b o)[k]?=_
 rw [Array.getElem?_setIfInBounds_ne (fun e=>hx e.symm)]⟩
def itO (b:Nat) (es:List (Int × Int)) (seen:List Nat):Obj:= .mapIter (some b) es.length seen.toArray es.length
end
section
variable {P:Program} {n:Nat} {ops:List Oper} {Q:Exit→Act→World→Prop} {m:Mode} {G:Env} {ty:TypeId} {pos:String} {af:Array Edge} {g:Option (Nat × Bool)} {l:List Oper} {X:List Nat} {w0:World} {M M':List Ent} {M2:Nat→List Ent} {I:List aV}
theorem Mem.obj {w:World} {b:Nat} {o:Obj} (h:Mem X w0 M I w) (hm: .obj b o∈M):w.heap[b]?=some o:=h.ent _ hm
end
end Go.Fx
namespace Go.Fx
open Go
abbrev kv (xs:List Int):Value:= .agg (sW xs).toArray
class IntKey (P:Program) (t:TypeId) (m:outParam Nat):Prop where
 wide:(match P.underlying t with|some (.array _ _)|some (.struct _)=>true|_=>false)=true
 chk:∀(em:Bool) (xs:List Int) (w:World),xs.length=m→(Instr.checkKey em 10000 t (kv xs)).run P w= .ok () w
 eq:∀(xs ys:List Int) (w:World),xs.length=m→ys.length=m→(Op.equal t (kv xs) (kv ys)).run P w= .ok (decide (xs=ys)) w
 guard:P.eqGuardType P.depth t=false
section
variable {P:Program} {w:World}
theorem wZ {t:TypeId} {xs:List Int} {k:Nat} (h3:P.underlying t=some (.int .i64)) (hxk:k < xs.length):(part t (sW xs).toArray k).run P w= .ok (.int .i64 xs[k]) w:=by
 have hag:(isAgg t).run P w= .ok false w:=by simp [isAgg,dM h3]
 simp [part,hag,sW,hxk]
theorem aJZ {t:TypeId} (h3:P.underlying t=some (.int .i64)) (em:Bool) (n:Nat) (x:Int):(Instr.checkKey em (n+1) t (.int .i64 x)).run P w= .ok () w:=
 MapKept.run_checkKey h3 (by simp [MapKept.IsKey]) em n
theorem aKY {t:TypeId} {m:Nat} [ht:IntStruct P t m]:(P.fieldsOf t).toList.length=m∧∀(j:Nat) (f:Field),(P.fieldsOf t).toList[j]?=some f→(f.name== "_")=false∧f.offset=j∧P.underlying f.type=some (.int .i64):=by
 refine ⟨by have:=congrArg List.length ht.fields;simpa using this,fun j f hj=>?_⟩
 have hh:((P.fieldsOf t).toList.map (fun f=>(f.name== "_",f.offset,yU (P.underlying f.type))))[j]?=some (f.name== "_",f.offset,yU (P.underlying f.type)):=by simp [List.getElem?_map,hj]
 rw [ht.fields,List.getElem?_map] at hh
 obtain ⟨a,ha,hq⟩:=Option.map_eq_some_iff.1 hh
 have hja:a=j:=by
  obtain ⟨_,h2⟩:=List.getElem?_eq_some_iff.1 ha
  rw [List.getElem_range] at h2
  exact h2.symm
 subst hja
 have e1:false=(f.name== "_"):=congrArg (fun p=>p.1) hq
 have e2:a=f.offset:=congrArg (fun p=>p.2.1) hq
 have e3:true=yU (P.underlying f.type):=congrArg (fun p=>p.2.2) hq
 exact ⟨e1.symm,e2.symm,aJE e3.symm⟩
theorem IntKey.ofStruct {t:TypeId} {m:Nat} [ht:IntStruct P t m]:IntKey P t m where
 wide:=by rw [ht.und]
 chk:=fun em xs w hx=>by
  obtain ⟨h1,h2⟩:=aKY (P:=P) (t:=t)
  rw [show (10000:Nat)=9998+1+1 from rfl,Instr.checkKey]
  simp only [Sem.run_bind,dM ht.und,Result.andThen_ok]
  rw [←Array.forIn_toList]
  have h3:∀(j:Nat) (f:Field),(P.fieldsOf t).toList[j]?=some f→(f.name== "_")=false∧f.offset=0+j∧P.underlying f.type=some (.int .i64):=fun j f hj=>by obtain ⟨a,b,c⟩:=h2 j f hj;exact ⟨a,by omega,c⟩
  have h4:0+(P.fieldsOf t).toList.length=xs.length:=by omega
  generalize (P.fieldsOf t).toList=fs at h3 h4
  generalize 0=k at h3 h4
  clear h1 h2
  induction fs generalizing k with
  |nil=>simp
  |cons f fs ih=>
   obtain ⟨g1,g2,g3⟩:=h3 0 f rfl
   have h1':f.name≠ "_":=by simpa using g1
   simp only [List.length_cons] at h4
   have hxk:k < xs.length:=by omega
   have ih:=ih (k+1) (fun j g hj=>by
    obtain ⟨g1,g2,g3⟩:=h3 (j+1) g (by simpa using hj)
    exact ⟨g1,by omega,g3⟩) (by omega)
   have px:=wZ (P:=P) (w:=w) (xs:=xs) g3 hxk
   rw [Nat.add_zero] at g2
   simp only [List.forIn_cons,Sem.run_bind,if_pos h1',g2,px,Result.andThen_ok,aJZ g3,Sem.run_pure]
   exact ih
 eq:=fun xs ys w hx hy=>(aEE (P:=P) (t:=t) xs ys hx hy w .eql (.tmp 0) (.tmp 0)).2
 guard:=ht.guard
class IntArr (P:Program) (t:TypeId) (m:outParam Nat):Prop where
 und:∃e i,P.underlying t=some (.array m e)∧P.underlying e=some (.int .i64)∧P.info? e=some i∧P.cellsOf e=1
 guard:P.eqGuardType P.depth t=false
theorem wM (d:Nat) {e:TypeId} (he:P.underlying e=some (.int .i64)) (xs ys:List Int):∀(l k:Nat),k+l=xs.length→k+l=ys.length→
  (Op.eqItems (d+1) e 1 (sW xs).toArray (sW ys).toArray (List.range' k l)).run P w= .ok (decide (xs.drop k=ys.drop k)) w
 |0,k,hx,hy=>by
  have h1:xs.drop k=[]:=List.drop_eq_nil_of_le (by omega)
  have h2:ys.drop k=[]:=List.drop_eq_nil_of_le (by omega)
  simp [Op.eqItems,h1,h2]
 |l+1,k,hx,hy=>by
  have hxk:k < xs.length:=by omega
  have hyk:k < ys.length:=by omega
  have px:=wZ (P:=P) (w:=w) (xs:=xs) he hxk
  have py:=wZ (P:=P) (w:=w) (xs:=ys) he hyk
  have ih:=wM d he xs ys l (k+1) (by omega) (by omega)
  have hrq:=run_equalIn_int (P:=P) w d e .i64 .i64 xs[k] ys[k] he
  rw [List.range'_succ]
  simp only [Op.eqItems,Nat.mul_one,Sem.run_bind,px,py,Result.andThen_ok,hrq]
  have ex:=List.drop_eq_getElem_cons hxk
  have ey:=List.drop_eq_getElem_cons hyk
  have hiff:(xs.drop k=ys.drop k)↔(xs[k]=ys[k]∧xs.drop (k+1)=ys.drop (k+1)):=by
   constructor
   ·intro h
    rw [ex,ey] at h
    injection h with h1 h2
    exact ⟨h1,h2⟩
   ·rintro ⟨h1,h2⟩
    rw [ex,ey,h1,h2]
  by_cases he:xs[k]=ys[k]
  ·simp [he,ih,hiff]
  ·simp [he,hiff]
theorem aGM {t:TypeId} {m:Nat} [ht:IntArr P t m] (d:Nat) (xs ys:List Int) (hx:xs.length=m) (hy:ys.length=m) (w:World):(Op.equalIn (d+2) t (kv xs) (kv ys)).run P w= .ok (decide (xs=ys)) w:=by
 obtain ⟨e,i,h1,h2,h3,h4⟩:=ht.und
 rw [run_equalIn_array w (d+1) _ _ h1 h3,h4,List.range_eq_range']
 have:=wM (P:=P) (w:=w) d h2 xs ys m 0 (by omega) (by omega)
 simpa using this
theorem IntKey.ofArr {t:TypeId} {m:Nat} [ht:IntArr P t m]:IntKey P t m where
 wide:=by obtain ⟨e,i,h1,_⟩:=ht.und;rw [h1]
 chk:=fun em xs w hx=>by
  obtain ⟨e,i,h1,h2,h3,h4⟩:=ht.und
  have hs:(sizeOf e).run P w= .ok 1 w:=by rw [_root_.Go.run_sizeOf w h3,h4]
  rw [show (10000:Nat)=9998+1+1 from rfl,Instr.checkKey]
  simp only [Sem.run_bind,dM h1,Result.andThen_ok,Std.Legacy.Range.forIn_eq_forIn_range',Std.Legacy.Range.size,Nat.sub_zero,Nat.add_one_sub_one,Nat.div_one]
  have h5:0+m=xs.length:=by omega
  clear ht h1
  generalize m=l at h5
  generalize 0=k at h5
  induction l generalizing k with
  |zero=>simp
  |succ l ih=>
   have hxk:k < xs.length:=by omega
   have px:=wZ (P:=P) (w:=w) (xs:=xs) h2 hxk
   have ih:=ih (k+1) (by omega)
   rw [List.range'_succ]
   simp only [List.forIn_cons,Sem.run_bind,hs,Result.andThen_ok,Nat.mul_one,px,aJZ h2,Sem.run_pure]
   exact ih
 eq:=fun xs ys w hx hy=>aGM 9998 xs ys hx hy w
 guard:=ht.guard
/- ---------- the map ---------- -/
section
variable {V:Type}
def lZ (vf:V→Value):List (List Int × V)→Nat→List MapEntry
 |[],_=>[]
 |p::r,n=>⟨kv p.1,vf p.2,n⟩::lZ vf r (n+1)
def mV (vf:V→Value) (es:List (List Int × V)):Obj:= .map (lZ vf es 0).toArray es.length
def iA:List (List Int × V)→List Int→Nat→Option (Nat × V)
 |[],_,_=>none
 |p::r,k,n=>if k=p.1 then some (n,p.2) else iA r k (n+1)
def qO (es:List (List Int × V)) (k:List Int) (v:V):List (List Int × V):=match iA es k 0 with|some q=>es.set q.1 (k,v)|none=>es++[(k,v)]
theorem rP {k:List Int}:∀{es:List (List Int × V)} {i:Nat} {q:Nat × V},iA es k i=some q→i≤q.1∧es[q.1 - i]?=some (k,q.2)
 |[],_,_,h=>by simp [iA] at h
 |p::r,i,q,h=>by
  unfold iA at h
  by_cases e:k=p.1
  ·rw [if_pos e] at h
   simp at h;subst h
   simp [e]
  ·rw [if_neg e] at h
   obtain ⟨h1,h2⟩:=rP h
   refine ⟨by omega,?_⟩
   have:q.1 - i=(q.1 - (i+1))+1:=by omega
   rw [this,List.getElem?_cons_succ];exact h2
theorem aFB (vf:V→Value):∀(es:List (List Int × V)) (n j:Nat) (k:List Int) (v:V),(es[j]?).map Prod.fst=some k→(lZ vf es n).modify j (fun e=>⟨kv k,vf v,e.born⟩)=lZ vf (es.set j (k,v)) n
 |[],_,_,_,_,h=>by simp at h
 |p::r,n,0,k,v,h=>by simp [lZ]
 |p::r,n,j+1,k,v,h=>by
  simp only [lZ,List.set_cons_succ,List.modify_succ_cons]
  rw [aFB vf r (n+1) j k v (by simpa using h)]
theorem aDU (vf:V→Value):∀(es:List (List Int × V)) (n:Nat) (p:List Int × V),lZ vf es n++[⟨kv p.1,vf p.2,n+es.length⟩]=lZ vf (es++[p]) n
 |[],n,p=>rfl
 |q::r,n,p=>by
  have:=aDU vf r (n+1) p
  simp only [lZ,List.cons_append,List.length_cons]
  rw [←this,show n+1+r.length=n+(r.length+1) by omega]
theorem aFJ (vf:V→Value):∀(es:List (List Int × V)) (n i:Nat),(lZ vf es n)[i]?=(es[i]?).map (fun p=>(⟨kv p.1,vf p.2,n+i⟩:MapEntry))
 |[],_,_=>by simp [lZ]
 |p::r,n,0=>by simp [lZ]
 |p::r,n,i+1=>by
  simp only [lZ,List.getElem?_cons_succ]
  rw [aFJ vf r (n+1) i,show n+1+i=n+(i+1) by omega]
class GMapTy (P:Program) (t:TypeId) (m:outParam Nat) (z:outParam Value):Prop where
 go:∃k e,P.underlying t=some (.map k e)∧IntKey P k m∧∃i,P.info? e=some i∧i.zero=some z
theorem aAJ {k:TypeId} {m:Nat} (hk:IntKey P k m) (vf:V→Value) (x:List Int) (hx:x.length=m):∀(es:List (List Int × V)) (n i:Nat),(∀p∈es,p.1.length=m)→(Instr.findAsking k (kv x) (lZ vf es n) i).run P w= .ok ((iA es x i).map (fun p=>(p.1,vf p.2))) w
 |[],n,i,_=>by simp [lZ,Instr.findAsking,iA]
 |p::r,n,i,h=>by
  have ih:=aAJ hk vf x hx r (n+1) (i+1) (fun q hq=>h q (List.Mem.tail _ hq))
  simp only [lZ,Instr.findAsking,Sem.run_bind,hk.eq _ _ w hx (h p (List.Mem.head _)),Result.andThen_ok]
  by_cases e:x=p.1
  ·simp [e,iA]
  ·simp only [decide_eq_true_eq,e,if_false,iA]
   exact ih
theorem aKK {b:Nat} {vf:V→Value} {es:List (List Int × V)} (hb:w.heap[b]?=some (mV vf es)):(getObj b).run P w= .ok (.map (lZ vf es 0).toArray es.length) w:=by
 simp [getObj,Sem.run,hb,mV]
theorem aIU {b:Nat} {vf:V→Value} {es es':List (List Int × V)} (hb:w.heap[b]?=some (mV vf es)):(setObj b (mV vf es')).run P w= .ok () {w with heap:=w.heap.setIfInBounds b (mV vf es')}:=by
 simp [setObj,Sem.run,hb,mV]
theorem aJJ (x:List Int):Instr.sameBits 10000 (kv x) (kv x)=true:=by
 show Instr.sameBits (9999+1) (.agg _) (.agg _)=true
 simp only [Instr.sameBits,beq_self_eq_true,Bool.true_and,List.all_eq_true]
 intro p hp
 obtain ⟨i,hi,e⟩:=List.getElem_of_mem hp
 rw [List.getElem_zip] at e
 rw [←e]
 simp [sW,Instr.sameBits]
variable {n:Nat} {G:Env} {ty:TypeId}
theorem aHX {t:TypeId} (vf:V→Value):Eff P n G (.makeMap t none) ty w (fun v w'=>∃b,b=w.heap.size∧v= .map (some b)∧w'.heap[b]?=some (mV vf [])∧Ext [] w w'):=by
 refine ⟨?_⟩
 intro a ha dst pos after guard
 refine uO (v:= .map (some w.heap.size)) (w':=w.alloc (.map #[] 0)) ?_ ⟨_,⟨_,rfl,rfl,?_,Ext.alloc _ _ _⟩,rfl⟩
 ·have hrun:(Instr.makeMap t none).run P w= .ok (.map (some w.heap.size)) (w.alloc (.map #[] 0)):=rfl
  simp [execOp,hrun]
 ·exact heap_alloc_new w _
theorem aDS {t:TypeId} {x y z:Operand} {b m:Nat} {k:List Int} {v:V} {zv:Value} {vf:V→Value} {es:List (List Int × V)} [ht:GMapTy P t m zv] (hx:Fx.ev G x=some (.map (some b))) (hy:Fx.ev G y=some (kv k)) (hz:Fx.ev G z=some (vf v)) (hk:k.length=m) (hes:∀p∈es,p.1.length=m) (hb:w.heap[b]?=some (mV vf es)):
  Eff P n G (.mapUpdate t x y z) ty w (fun u w'=>u=undef∧w'.heap[b]?=some (mV vf (qO es k v))∧Ext [b] w w'):=by
 refine ⟨?_⟩
 intro a ha dst pos after guard
 obtain ⟨kt,e,h1,h2,_⟩:=ht.go
 have hlt:b < w.heap.size:=(Array.getElem?_eq_some_iff.1 hb).1
 refine aTH (w':={w with heap:=w.heap.setIfInBounds b (mV vf (qO es k v))}) ?_ ⟨_,⟨rfl,?_,Ext.setObj⟩,rfl⟩
 ·have hrun:(Instr.mapUpdate t (.map (some b)) (kv k) (vf v)).run P w= .ok () {w with heap:=w.heap.setIfInBounds b (mV vf (qO es k v))}:=by
   simp only [Instr.mapUpdate,Sem.run_bind,dM h1,Result.andThen_ok,aKK hb,h2.chk _ _ _ hk,run_findKey_eq w h2.wide,aAJ h2 vf k hk es 0 0 hes]
   cases hl:iA es k 0 with
   |none=>
    have e1:(lZ vf es 0).toArray.push ⟨kv k,vf v,es.length⟩=(lZ vf (es++[(k,v)]) 0).toArray:=by
     rw [←aDU];simp
    have e2:Obj.map (lZ vf (es++[(k,v)]) 0).toArray (es.length+1)=mV vf (es++[(k,v)]):=by simp [mV]
    simp only [Option.map_none,e1]
    rw [e2,aIU hb]
    simp [qO,hl]
   |some q=>
    obtain ⟨_,hg⟩:=rP hl
    simp only [Nat.sub_zero] at hg
    have hk0:(((lZ vf es 0).toArray[q.1]?).map (·.key)).getD (kv k)=kv k:=by
     rw [List.getElem?_toArray,aFJ,hg];rfl
    have hst:(Instr.keyThatStays (kv k) (kv k)).run P w= .ok (kv k) w:=by
     simp only [Instr.keyThatStays,aJJ,if_true,Sem.run_pure]
    have e1:(lZ vf es 0).toArray.modify q.1 (fun e=>{e with key:=kv k,val:=vf v})=(lZ vf (es.set q.1 (k,v)) 0).toArray:=by
     rw [←aFB vf es 0 q.1 k v (by rw [hg];rfl)]
     simp
    have e2:Obj.map (lZ vf (es.set q.1 (k,v)) 0).toArray es.length=mV vf (es.set q.1 (k,v)):=by simp [mV]
    simp only [Option.map_some,Sem.run_bind,hk0,hst,Result.andThen_ok,e1]
    rw [e2,aIU hb]
    simp [qO,hl]
  simp [execOp,ha.ev hx,ha.ev hy,ha.ev hz,hrun]
 ·show (w.heap.setIfInBounds b _)[b]?=_
  simp [hlt]
theorem aOU {t:TypeId} {b m:Nat} {k:List Int} {z:V} {vf:V→Value} {es:List (List Int × V)} [ht:GMapTy P t m (vf z)] (hk:k.length=m) (hes:∀p∈es,p.1.length=m) (hb:w.heap[b]?=some (mV vf es)) (ok:Bool):
  (Instr.lookup t (.map (some b)) (kv k) ok).run P w= .ok (if ok=true then .tuple #[vf (((iA es k 0).map (·.2)).getD z), .bool (iA es k 0).isSome] else vf (((iA es k 0).map (·.2)).getD z)) w:=by
 obtain ⟨kt,e,h1,h2,i,h3,h4⟩:=ht.go
 simp only [Instr.lookup,Sem.run_bind,dM h1,Result.andThen_ok,aKK hb,Sem.run_pure,h2.chk _ _ _ hk,run_findKey_eq w h2.wide,aAJ h2 vf k hk es 0 0 hes]
 cases hl:iA es k 0 with
 |none=>simp [zeroValue,typeInfo,h3,h4]
 |some q=>simp
end
end
end Go.Fx
namespace Go.Fx
section
variable {P:Program} {n:Nat} {ops:List Oper} {Q:Exit→Act→World→Prop} {m:Mode} {G:Env} {ty:TypeId} {pos:String} {af:Array Edge} {g:Option (Nat × Bool)} {l:List Oper} {X:List Nat} {w0 w:World} {M M':List Ent} {I:List aV} {V:Type}
theorem aJC {t:TypeId} {x y:Operand} {b mm:Nat} {k:List Int} {z:V} {vf:V→Value} {es:List (List Int × V)} {ok:Bool} [ht:GMapTy P t mm (vf z)] (hx:ev G x=some (.map (some b))) (hy:ev G y=some (kv k)) (hk:k.length=mm) (hes:∀p∈es,p.1.length=mm) (hb:w.heap[b]?=some (mV vf es)):
  Eff P n G (.lookup t x y ok) ty w (fun u w'=>u=(if ok=true then .tuple #[vf (((iA es k 0).map (·.2)).getD z), .bool (iA es k 0).isSome] else vf (((iA es k 0).map (·.2)).getD z))∧w'=w):=by
 refine ⟨?_⟩
 intro a ha dst pos after guard
 have hrun:=aOU (P:=P) (t:=t) (z:=z) hk hes hb ok
 refine uO (v:=_) (w':=w) ?_ ⟨_,⟨rfl,rfl⟩,rfl⟩
 simp only [execOp,ha.ev hx,ha.ev hy,Sem.run_bind,hrun,Result.andThen_ok,Sem.run_pure]
theorem sM {d:Nat} {t:TypeId} (vf:V→Value) (hg:nX ops G g=some true) (hd:Nat.ble (d+1) n=true)
  (k:∀b,OkD m X w0 (.obj b (mV vf [])::M) I∧RD P n ops Q m.nextE l ((d, .map (some b))::G) X w0 (.obj b (mV vf [])::M) I):
  RD P n ops Q m (⟨some d, .makeMap t none,ty,pos,af,g⟩::l) G X w0 M I:=
 aAL (d:=some d) (K:=fun v' M' I'=>∃b,v'= .map (some b)∧M'= .obj b (mV vf [])::M∧I'=I) hg
  (fun w hw=>(aHX vf).mono (fun _ w' ⟨b,hb,hp,hB,hE⟩=>⟨_,_,⟨b,hp,rfl,rfl⟩,hw.push hE (by simp [Ent.blocks,hb]) (by simp [Ent.blocks]) hB⟩)) rfl hd
  (fun _ _ _ ⟨b,hp,hM,hI⟩=>by subst hp;subst hM;subst hI;exact k b)
theorem zM {d:Option Nat} {t:TypeId} {x y z:Operand} {b mm:Nat} {kk:List Int} {v:V} {zv:Value} {vf:V→Value} {es:List (List Int × V)} [GMapTy P t mm zv] (hx:ev G x=some (.map (some b))) (hy:ev G y=some (kv kk)) (hz:ev G z=some (vf v)) (hk:kk.length=mm) (hes:∀p∈es,p.1.length=mm) (hr:Rep (.obj b (mV vf es)) (.obj b (mV vf (qO es kk v))) M M') (hg:nX ops G g=some true) (hd:fits d n=true)
  (k:OkD m X w0 M' I∧RD P n ops Q m.nextE l (put G d undef) X w0 M' I):RD P n ops Q m (⟨d, .mapUpdate t x y z,ty,pos,af,g⟩::l) G X w0 M I:=
 aAL (K:=fun v' M2 I2=>v'=undef∧M2=M'∧I2=I) hg
  (fun w hw=>(aDS hx hy hz hk hes (hw.obj hr.mem)).mono (fun _ w' ⟨hu,hB,hE⟩=>⟨_,_,⟨hu,rfl,rfl⟩,hw.upd hr hE (fun b hb=> .inl hb) (by simp [Ent.blocks]) hB⟩)) rfl hd
  (fun _ _ _ ⟨hu,hM,hI⟩=>by subst hu;subst hM;subst hI;exact k)
theorem aDE {d:Nat} {t:TypeId} {x y:Operand} {b mm:Nat} {kk:List Int} {z:V} {vf:V→Value} {es:List (List Int × V)} {ok:Bool} [GMapTy P t mm (vf z)] (hx:ev G x=some (.map (some b))) (hy:ev G y=some (kv kk)) (hk:kk.length=mm) (hes:∀p∈es,p.1.length=mm) (hm: .obj b (mV vf es)∈M) (hg:nX ops G g=some true) (hd:Nat.ble (d+1) n=true)
  (k:OkD m X w0 M I∧RD P n ops Q m.nextE l ((d,(if ok=true then .tuple #[vf (((iA es kk 0).map (·.2)).getD z), .bool (iA es kk 0).isSome] else vf (((iA es kk 0).map (·.2)).getD z)))::G) X w0 M I):
  RD P n ops Q m (⟨some d, .lookup t x y ok,ty,pos,af,g⟩::l) G X w0 M I:=
 aAL (d:=some d) (K:=fun v' M' I'=>v'=(if ok=true then .tuple #[vf (((iA es kk 0).map (·.2)).getD z), .bool (iA es kk 0).isSome] else vf (((iA es kk 0).map (·.2)).getD z))∧M'=M∧I'=I) hg
  (fun w hw=>(aJC hx hy hk hes (hw.obj hm)).mono (fun _ w' ⟨hu,hE⟩=>⟨_,_,⟨hu,rfl,rfl⟩,by rw [hE];exact hw⟩)) rfl hd
  (fun _ _ _ ⟨hu,hM,hI⟩=>by subst hu;subst hM;subst hI;exact k)
theorem xD {d:Nat} {t:TypeId} {x y:Operand} {b mm:Nat} {kk:List Int} {z v:V} {j:Nat} {vf:V→Value} {es:List (List Int × V)} [GMapTy P t mm (vf z)] (hr:iA es kk 0=some (j,v)) (hx:ev G x=some (.map (some b))) (hy:ev G y=some (kv kk)) (hk:kk.length=mm) (hes:∀p∈es,p.1.length=mm) (hm: .obj b (mV vf es)∈M) (hg:nX ops G g=some true) (hd:Nat.ble (d+1) n=true)
  (k:OkD m X w0 M I∧RD P n ops Q m.nextE l ((d, .tuple #[vf v, .bool true])::G) X w0 M I):
  RD P n ops Q m (⟨some d, .lookup t x y true,ty,pos,af,g⟩::l) G X w0 M I:=
 aDE (z:=z) (vf:=vf) hx hy hk hes hm hg hd (by rw [if_pos rfl,hr];exact k)
theorem aQQ {d:Nat} {t:TypeId} {x y:Operand} {b mm:Nat} {kk:List Int} {z:V} {vf:V→Value} {es:List (List Int × V)} [GMapTy P t mm (vf z)] (hr:iA es kk 0=none) (hx:ev G x=some (.map (some b))) (hy:ev G y=some (kv kk)) (hk:kk.length=mm) (hes:∀p∈es,p.1.length=mm) (hm: .obj b (mV vf es)∈M) (hg:nX ops G g=some true) (hd:Nat.ble (d+1) n=true)
  (k:OkD m X w0 M I∧RD P n ops Q m.nextE l ((d, .tuple #[vf z, .bool false])::G) X w0 M I):
  RD P n ops Q m (⟨some d, .lookup t x y true,ty,pos,af,g⟩::l) G X w0 M I:=
 aDE (z:=z) (vf:=vf) hx hy hk hes hm hg hd (by rw [if_pos rfl,hr];exact k)
theorem aGJ {d:Nat} {t:TypeId} {x y:Operand} {b mm:Nat} {kk:List Int} {z v:V} {vf:V→Value} {es:List (List Int × V)} [GMapTy P t mm (vf z)] (hr:((iA es kk 0).map (·.2)).getD z=v) (hx:ev G x=some (.map (some b))) (hy:ev G y=some (kv kk)) (hk:kk.length=mm) (hes:∀p∈es,p.1.length=mm) (hm: .obj b (mV vf es)∈M) (hg:nX ops G g=some true) (hd:Nat.ble (d+1) n=true)
  (k:OkD m X w0 M I∧RD P n ops Q m.nextE l ((d,vf v)::G) X w0 M I):
  RD P n ops Q m (⟨some d, .lookup t x y false,ty,pos,af,g⟩::l) G X w0 M I:=
 aDE (z:=z) (vf:=vf) hx hy hk hes hm hg hd (by rw [if_neg (by decide),hr];exact k)
theorem AtsZ.n3 {cs:List Value} {o:Nat} {a b c:Value} (h0:cs[o]?=some a) (h1:cs[o+1]?=some b) (h2:cs[o+2]?=some c):AtsZ cs o [a,b,c] 3:=⟨⟨fun j v hj=>by
 match j,hj with
 |0,hj=>simp at hj;subst hj;exact h0
 |1,hj=>simp at hj;subst hj;exact h1
 |2,hj=>simp at hj;subst hj;exact h2
 |j+3,hj=>simp at hj⟩,rfl⟩
theorem AtsZ.r3 {α:Type} [Inhabited α] {enc:α→List Value} {sz:Nat} [Sized enc sz] {ms:List α} {i:Int} {j:Nat} {a b c:Value} (hi:0≤i∧i < ms.length) (h0:(enc (gt ms i))[j]?=some a) (h1:(enc (gt ms i))[j+1]?=some b) (h2:(enc (gt ms i))[j+2]?=some c):AtsZ (recs enc ms) (i.toNat*sz+j) [a,b,c] 3:=⟨⟨fun t v hj=>by
 match t,hj with
 |0,hj=>simp at hj;subst hj;exact mX hi h0
 |1,hj=>simp at hj;subst hj;exact mX hi h1
 |2,hj=>simp at hj;subst hj;exact mX hi h2
 |t+3,hj=>simp at hj⟩,rfl⟩
theorem aWY {P:Program} {n:Nat} {f:FuncId} {fn:Func} {c:Code} {v0 v1 v2 v3 v4 v5 v6:Value} {X:List Nat} {w0:World} {M:List Ent} {I:List aV} {K:Value→List Ent→List aV→Prop} (hf:P.funcs[f]?=some fn) (hb:fn.body=some c) (hn:fn.ntmps=n) (hl:Nat.ble 7 n=true) (h:TD P n c (Body P fn (KB K X w0)) [(0,v0),(1,v1),(2,v2),(3,v3),(4,v4),(5,v5),(6,v6)] X w0 M I):CD P f [v0,v1,v2,v3,v4,v5,v6] X w0 M I K:=eD hf hb hn hl h
theorem aYL {d:Nat} {t:TypeId} {x:Operand} {q:Option Addr} (hx:ev G x=some (.pointer q)) (hg:nX ops G g=some true) (hd:Nat.ble (d+1) n=true)
  (k:∀b,OkD m X w0 (.blk b [.pointer q] t::M) I∧RD P n ops Q m.nextE l ((d, .pointer (some ⟨b,0,none⟩))::G) X w0 (.blk b [.pointer q] t::M) I):
  RD P n ops Q m (⟨some d, .box t x,ty,pos,af,g⟩::l) G X w0 M I:=aHW hx hg hd k
theorem aCD {c:Code} {b:Nat} {cs:List Value} {e:TypeId} (hr:Rem (.blk b cs e) M M') (h:TD P n c Q G X w0 M' (aI (some ⟨b,0,none⟩) cs::I)):TD P n c Q G X w0 M I:=mQ (fun _ hw=>hw.freezeB hr) h
theorem aXL {d:Nat} {t:TypeId} {x:Operand} {k':IntKind} {z:Int} (hx:ev G x=some (.int k' z)) (hg:nX ops G g=some true) (hd:Nat.ble (d+1) n=true)
  (k:∀b,OkD m X w0 (.blk b [.int k' z] t::M) I∧RD P n ops Q m.nextE l ((d, .pointer (some ⟨b,0,none⟩))::G) X w0 (.blk b [.int k' z] t::M) I):
  RD P n ops Q m (⟨some d, .box t x,ty,pos,af,g⟩::l) G X w0 M I:=aHW hx hg hd k
end
end Go.Fx

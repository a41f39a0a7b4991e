/- matrix.Inverse. -/
import Derived.Test.YthhldplegmeolaaGreatZuat
import Derived.Test.YthhldplegmeolaaGreatZuar
import Derived.Test.YthhldplegmeolaaGreatZuas
import Derived.Test.YthhldplegmeolaaGreatZuaq
import Derived.SizedLaws
set_option linter.unusedSimpArgs false
set_option linter.unusedVariables false
set_option maxRecDepth 100000
set_option maxHeartbeats 4000000
namespace Go.Proofs.YthhldplegmeolaaGreat
open Go Go.Fx
def xQ (n:Nat) (A:Mt):Mt:=xU n (n+n) (fun i j=>if j < n then at2 A i j else oD i (j - n))
def uA (n:Nat) (A:Mt):Mt:=xU n n (fun i j=>at2 (nZ (xQ n A) n).1 i (n+j))
theorem aCK {R C:Nat} {F:Nat→Nat→Rat}:vQ (xU R C F) R C:=⟨by simp [xU],fun i hi=>by simp [xU,rowAt,List.getD,hi]⟩
theorem aML {n:Nat} {A:Mt} {i j:Nat} (hi:i < n) (hj:j < n):at2 (xQ n A) i j=at2 A i j:=by
 unfold xQ
 rw [sK hi (by omega),if_pos hj]
theorem aTC {n:Nat} {A:Mt} {i j:Nat} (hi:i < n) (hj:j < n):at2 (xQ n A) i (n+j)=oD i j:=by
 unfold xQ
 rw [sK hi (by omega),if_neg (by omega),Nat.add_sub_cancel_left]
theorem aIE {n:Nat} {A:Mt}:(nZ (xQ n A) n).2.length=n↔dt n (at2 A)≠0:=by
 obtain ⟨_,s,hr⟩:=oK (A:=xQ n A) (R:=n) (C:=n+n) aCK n (by omega)
 rw [hr.iff (by omega),jO (f:=at2 (xQ n A)) (g:=at2 A) (fun i j hi hj=>aML hi hj)]
theorem aQK {n:Nat} {A:Mt} (h:dt n (at2 A)≠0):(∀i j,i < n→j < n→sQ n (at2 A) (at2 (uA n A)) i j=oD i j)∧(∀i j,i < n→j < n→sQ n (at2 (uA n A)) (at2 A) i j=oD i j):=by
 obtain ⟨_,s,hr⟩:=oK (A:=xQ n A) (R:=n) (C:=n+n) aCK n (by omega)
 obtain ⟨h1,h2⟩:=hr.inv (a:=at2 A) (aIE.2 h) (fun i j hi hj=>aML hi hj) (fun i j hi hj=>aTC hi hj)
 have e:∀i j,i < n→j < n→at2 (uA n A) i j=at2 (nZ (xQ n A) n).1 i (n+j):=fun i j hi hj=>by unfold uA;rw [sK hi hj]
 constructor
 ·intro i j hi hj
  rw [←h1 i j hi hj]
  exact uN (fun _ _=>rfl) (fun k hk=>e k j hk hj)
 ·intro i j hi hj
  rw [←h2 i j hi hj]
  exact uN (fun k hk=>e i k hi hk) (fun _ _=>rfl)
section
variable {X:List Nat} {w0:World} {M0:List Ent} {I0:List aN}
theorem vD {a:MX} {n k0:Nat} (hb:kb k0 n≤20000000000) (hk0:k0≤20000000000) (da:a.fit n n) (ha:gQ a k0∈I0):CD Tryz.prog 62 [mv a] X w0 M0 I0 (fun v M I=>if dt n (at2 a.q)=0 then (M0=M∧I0=I∧v= .tuple #[.slice none 0 0, .int .i64 14]) else XQc (uA n a.q) n n (kb k0 n) M0 I0 v M I):=by
 obtain ⟨n1,n2⟩:=da.2.1
 refine gW (fun w hw=>Mem.xsml ha da (by omega) hw) (fun sa=>?_)
 have hC:=fun M0 I0 h1=>aJP (X:=X) (w0:=w0) (M0:=M0) (I0:=I0) (a:=a.raw) sa h1
 have e0:sqC a.raw=0:=by
  unfold sqC
  rw [if_pos da.ok,a.raw_rows,MX.raw_c0 da,da.1.1,if_pos rfl]
 rw [e0,aAC] at hC
 have lR:=da.1.1
 refine aL (φ:=pR a.raw) (Hv.xraw ha (by omega)) ?_
 refine aV Tryz.func62 rfl Tryz.ntmps62 rfl ?_
 repeat refine aC ?_
 refine dC rfl (hC _ _ aA) ?_
 repeat refine aC ?_
 refine dG (fun b5=>?_)
 repeat refine aC ?_
 rw [lR]
 refine aG .here ?_
 repeat refine aC ?_
 (refine gD rfl (zN (R:=n) (C:=n) (g:=105) (fs:=#[]) (cs:=#[]) (k0:=0) (by omega) (by omega) oD (fun M I _ i j hi hj=>by have:=aPX (X:=X) (w0:=w0) (M0:=M) (I0:=I) (i:=(i:Int)) (j:=(j:Int));rw [←aPF] at this;exact this)) rfl rfl ?_;rintro _ _ _ ⟨rfl,u,rfl,hu,hud,rfl⟩;refine aU ?_)
 repeat refine aC ?_
 refine iA (φ:=gQ u k0) (Hv.xm (k:=0) aA (Nat.zero_le _)) ?_
 (refine bA rfl (aBZ da ⟨hud,⟨n1,n2⟩,n1,n2⟩ aA aA) ?_;rintro _ _ _ ⟨bo,rows0,rfl,hl0,hc0,hq0,rfl,rfl⟩;refine aU ?_)
 repeat refine aC ?_
 refine dG (fun b6=>?_)
 repeat refine aC ?_
 refine aCN (fun _ hw=>hw.freezeB .here) ?_
 have hB:mq rows0=xQ n a.q:=by
  unfold xQ
  refine Eq.trans hq0 ?_
  refine qH (R:=n) (C:=n+n) (fun i j hi hj=>?_)
  by_cases e:j < n
  ·rw [if_pos e,if_pos e]
  ·rw [if_neg e,if_neg e,hu,sK hi (by omega)]
 (repeat refine aF ?_);refine aBN 1 (M0) (aD (some ⟨b6,0,none⟩) [.slice (some ⟨bo,0,none⟩) n n]::aD (some ⟨b5,0,none⟩) [.int .i64 (n:Int)]::I0) [0,1,4,2,3,5] [0,0,1,0,0,0] (SubP.drop (lI SubP.refl)) aJ mixed (by kernel_rfl) ?_
 repeat refine aC ?_
 have hRd:=fun I0 h=>aBC (X:=X) (w0:=w0) (M0:= .blk bo (recs eM rows0) 24::(rows0.map eQ++M0)) (I0:=I0) (bo:=bo) (R:=n) (C:=n+n) (n:=n) (k0:=k0) (rows:=rows0) (M1:=M0) hl0 (by omega) (by omega) hc0 (by omega) (by omega) h rfl
 (refine bA rfl (hRd _ aA) ?_;rintro _ _ _ ⟨rows,pv,q,c,rfl,hl,hc,hred,hpv,rfl,rfl⟩;refine ⟨OkD.kY (SubP.drop (SubP.drop (lI SubP.refl))) aJ,?_⟩)
 rw [hB] at hred
 have hiff:pv.length=n↔dt n (at2 a.q)≠0:=by
  have:=aIE (n:=n) (A:=a.q)
  rw [hred] at this
  exact this
 by_cases hd0:dt n (at2 a.q)=0
 ·simp only [if_pos hd0]
  have hlt:pv.length < n:=by
   rcases Nat.lt_or_ge pv.length n with h|h
   ·exact h
   ·exact absurd hd0 (hiff.1 (by omega))
  repeat refine aC ?_
  refine lH [2,3] (.inl rfl) rfl rfl rfl M0 I0 (SubP.drop (SubP.drop (lI SubP.refl))) aJ ⟨rfl,rfl,rfl⟩
 ·simp only [if_neg hd0]
  have hlt:pv.length=n:=hiff.2 hd0
  repeat refine aC ?_
  refine RD_w (M':= .blk bo (recs eM rows) 24::(rows.map eQ++M0)) (I':=allM rows (kb k0 n)::aD (some ⟨b6,0,none⟩) [.slice (some ⟨bo,0,none⟩) n n]::aD (some ⟨b5,0,none⟩) [.int .i64 (n:Int)]::I0) (SubP.drop SubP.refl) aJ ?_
  refine mO (fun _ hw=>aCG hw (List.Mem.head _)) ?_
  refine iA (φ:=bxX b6 (MR.x bo rows)) (by show Hv _ (aD _ [.slice (some ⟨bo,0,none⟩) (rows.map MR.l).length rows.length]);rw [List.length_map,hl];exact Hv.mem aA) ?_
  have xl:(MR.x bo rows).rows.length=n:=by show (rows.map MR.l).length=n;rw [List.length_map,hl]
  have xc:∀i:Nat,i < n→(gt (MR.x bo rows).rows (i:Int)).es.length=n+n:=fun i hi=>by
   have:gt (MR.x bo rows).rows (i:Int)=(gt rows (i:Int)).l:=wL (by omega)
   rw [this];exact hc _ (cB (by omega))
  have hg:=fun M I (hI:∀φ∈bxX b6 (MR.x bo rows)::gQ (MR.x bo rows) (kb k0 n)::allM rows (kb k0 n)::aD (some ⟨b6,0,none⟩) [.slice (some ⟨bo,0,none⟩) n n]::aD (some ⟨b5,0,none⟩) [.int .i64 (n:Int)]::I0,φ∈I) (i j:Nat) (hi:i < n) (hj:j < n)=>aDX (X:=X) (w0:=w0) (M0:=M) (I0:=I) (a:=MR.x bo rows) (p:=b6) (q:=b5) (k:=kb k0 n) (i:=i) (j:=j) (n:=n) (by omega) (by rw [xc i hi];omega) (by omega) (by omega) (hI _ aA) (hI _ aA) (hI _ aA)
  (refine bA rfl (zN (R:=n) (C:=n) (g:=106) (fs:=#[]) (cs:=#[pb b6,pb b5]) (k0:=kb k0 n) (by omega) (by omega) (fun i j=>at2 (MR.x bo rows).q i (n+j)) hg) ?_;rintro _ _ _ ⟨rfl,x,rfl,hx,hd,rfl⟩;refine aU ?_)
  rw [q_x] at hx
  repeat refine aC ?_
  refine lH [2,3] (by first|exact .inl rfl|exact .inr rfl) rfl rfl rfl _ _ aK aJ (⟨rfl,x,rfl,by unfold uA;rw [hred];exact hx,hd,rfl⟩)
end
structure IL where
 p:Option Addr
 c:Nat
 xs:List Int
instance:Inhabited IL:=⟨⟨none,0,[]⟩⟩
abbrev eIL (r:IL):List Value:=[.slice r.p r.xs.length r.c]
abbrev ivL (r:IL):Value:= .slice r.p r.xs.length r.c
instance:Sized eIL 1:=⟨fun _=>rfl⟩
instance:Ones eIL:=⟨fun m u hu=>by simp only [eIL,List.mem_cons,List.not_mem_nil,or_false] at hu;subst hu;rfl⟩
/- ---------- IndexFunc, ContainsFunc of [][]int ---------- -/
section
variable {X:List Nat} {w0:World} {M0:List Ent} {I0:List aN}
end
theorem q_ext {x y:RL} (hl:x.es.length=y.es.length) (h:∀j:Nat,j < x.es.length→(gt x.es (j:Int)).q=(gt y.es (j:Int)).q):x.q=y.q:=by
 apply jG
 ·simp [hl]
 ·intro t ht
  have ht':t < x.es.length:=by simpa using ht
  rw [bT ht',bT (by omega)]
  exact h t ht'
theorem q_at {x y:RL} (h:x.q=y.q) {j:Nat} (hj:j < x.es.length):(gt x.es (j:Int)).q=(gt y.es (j:Int)).q:=by
 have hl:x.es.length=y.es.length:=by have:=congrArg List.length h;simpa using this
 rw [←bT hj,←bT (by omega)]
 exact congrArg (fun l=>List.getD l j 0) h
section
variable {X:List Nat} {w0:World} {M0:List Ent} {I0:List aN}
end
end Go.Proofs.YthhldplegmeolaaGreat
namespace Go.Proofs.YthhldplegmeolaaGreat
open Go Go.Fx
structure AllIL (rows:List IL) (X:List Nat) (w:World):Prop where
 go:∀r∈rows,Sl X w r.p (recs (eI .i64) r.xs)
abbrev allIL (rows:List IL):aN:=AllIL rows
instance (rows:List IL):Fx.Good (AllIL rows):=⟨fun X Y w w' h he hY=>⟨fun r hm=>Sl.carry (h.go r hm) he hY⟩⟩
abbrev bxI (b:Nat) (q:Option Addr) (n c:Nat):aN:=aD (some ⟨b,0,none⟩) [.slice q n c]
section
variable {X:List Nat} {w0:World} {M0:List Ent} {I0:List aN}
end
end Go.Proofs.YthhldplegmeolaaGreat
namespace Go.Proofs.YthhldplegmeolaaGreat
open Go Go.Fx
def kA:Mt:=[[((2:Int):Rat),((1:Int):Rat)],[((1:Int):Rat),((1:Int):Rat)]]
def kC:Mt:=[[((1:Int):Rat),((-1:Int):Rat)],[((-1:Int):Rat),((2:Int):Rat)]]
section
variable {X:List Nat} {w0:World} {M0:List Ent} {I0:List aN}
end
end Go.Proofs.YthhldplegmeolaaGreat
namespace Go.Proofs.YthhldplegmeolaaGreat
def rsF (f:Nat→Nat→Rat):Nat→Nat→Nat→Rat
 |0=>f
 |k+1=>fun i j=>if k < i∧k≤j then rsF f k i j - rsF f k i k / rsF f k k k*rsF f k k j else rsF f k i j
def bk (f:Nat→Nat→Rat) (k:Nat):Nat→Nat→Rat:=fun a b=>rsF f k (a+k) (b+k)
def pvs (f:Nat→Nat→Rat):Nat→Rat
 |0=>1
 |k+1=>pvs f k*bk f k 0 0
def qf (f:Nat→Nat→Rat) (v:Nat→Rat) (n k:Nat):Rat:=sm (n - k) (fun a=>sm (n - k) (fun b=>bk f k a b*v (a+k)*v (b+k)))
def yk (f:Nat→Nat→Rat) (v:Nat→Rat) (n k:Nat):Rat:=v k+sm (n - (k+1)) (fun a=>bk f k (a+1) 0 / bk f k 0 0*v (a+(k+1)))
end Go.Proofs.YthhldplegmeolaaGreat
namespace Go.Proofs.YthhldplegmeolaaGreat
open Go Go.Fx
def qfr (A:Mt) (v:List Rat) (n:Nat):Rat:=sm n (fun t=>v.getD t 0*sm n (fun j=>at2 A t j*v.getD j 0))
section
variable {X:List Nat} {w0:World} {M0:List Ent} {I0:List aN}
theorem aDH {x y:RL} {u m:Nat} (hk:u+m+1≤100000000000) (lx:x.es.length≤1000) (ly:y.es.length≤1000) (hx:Hv I0 (dL x u)) (hy:Hv I0 (dL y m)):
  CD Tryz.prog 11 [lv x,lv y] X w0 M0 I0 (fun v M I=>M0=M∧I0=I∧v= .bool (B (x.q=y.q))):=by
 refine zU hx (zU (φ:=dL y m) (hy.cons) ?_)
 refine aL (φ:=aD (x).p (recs eR (x).es)) (Hv.lsl aA) ?_
 refine aL (φ:=aD (y).p (recs eR (y).es)) (Hv.lsl aA) ?_
 by_cases hlen:x.es.length=y.es.length
 ·refine aP Tryz.func11 rfl Tryz.ntmps11 rfl ?_
  repeat refine aC ?_
  refine pU [0,1] rfl (fun k G M I=>∃i:Nat,i≤x.es.length∧k=x.es.length - i∧(∀j:Nat,j < i→(gt x.es (j:Int)).q=(gt y.es (j:Int)).q)∧G=[(5, .int .i64 i)]∧M0=M∧I=aD y.p (recs eR y.es)::aD x.p (recs eR x.es)::dL y m::dL x u::I0) (x.es.length) (⟨0,by omega,rfl,fun j hj=>by omega,rfl,rfl,rfl⟩) ?_
  rintro kk G M I ⟨i,hi,rfl,hs,rfl,rfl,rfl⟩
  by_cases hi2:i < x.es.length
  ·have hS:=fun M0 I0 h1 h2=>zY (X:=X) (w0:=w0) (M0:=M0) (I0:=I0) (a:=gt x.es (i:Int)) (b:=gt y.es (i:Int)) (k:=u) (m:=m) (by omega) h1 h2
   by_cases he:(gt x.es (i:Int)).q=(gt y.es (i:Int)).q
   ·rw [bV he] at hS
    repeat refine aC ?_
    (repeat refine aF ?_);refine aS 1 [0,1,2,3,4,5,6,7,8,9] [1,1,1,0,1,1,1,0,0,0] mixed (by kernel_rfl) ?_
    repeat refine aC ?_
    refine dC rfl (hS _ _ (Hv.lel aA (by omega)) (Hv.lel aA (by omega))) ?_
    repeat refine aC ?_
    refine lN (x.es.length - (i+1)) (⟨i+1,by omega,rfl,fun j hj=>?_,rfl,rfl,rfl⟩)
    by_cases e:j=i
    ·subst e;exact he
    ·exact hs j (by omega)
   ·rw [aW he] at hS
    repeat refine aC ?_
    (repeat refine aF ?_);refine aS 1 [0,1,2,3,4,5,6,7,8,9] [1,1,1,0,1,1,1,0,0,0] mixed (by kernel_rfl) ?_
    repeat refine aC ?_
    refine dC rfl (hS _ _ (Hv.lel aA (by omega)) (Hv.lel aA (by omega))) ?_
    repeat refine aC ?_
    refine iZ rfl rfl (⟨rfl,rfl,congrArg Value.bool (aW (fun e=>he (q_at e hi2))).symm⟩)
  ·repeat refine aC ?_
   refine iZ rfl rfl (⟨rfl,rfl,congrArg Value.bool (bV (q_ext hlen (fun j hj=>hs j (by omega)))).symm⟩)
 ·refine aP Tryz.func11 rfl Tryz.ntmps11 rfl ?_
  repeat refine aC ?_
  refine aT (by first|exact .inl rfl|exact .inr rfl) rfl rfl _ _ aK aJ (⟨rfl,rfl,congrArg Value.bool (aW (fun e=>hlen (by have:=congrArg List.length e;simpa using this))).symm⟩)
end
end Go.Proofs.YthhldplegmeolaaGreat
namespace Go.Proofs.YthhldplegmeolaaGreat
open Go Go.Fx
open Go.ChangeShapes Go.WideShapes Go.RowKit Go.ChangeAt
section
variable {H:Type} {enc:TypeId × Value→H} {P:Program} {W:World}
end
section
variable {H:Type} {enc:TypeId × Value→H} {W:World}
end
end Go.Proofs.YthhldplegmeolaaGreat
namespace Go.Proofs.YthhldplegmeolaaGreat
open Go Go.Fx
open Go.ChangeShapes Go.WideShapes Go.RowKit Go.ChangeAt
def WL.rch (r:WL):Prop:=r.es.length≤35184372088832∧∀e∈r.es,e.reach
def WM.rch (m:WM):Prop:=m.rows.length≤35184372088832∧∀r∈m.rows,r.rch
section
variable {H:Type} {enc:TypeId × Value→H} {P:Program} {W:World}
theorem rW {e:TypeId} {z:Nat}:∀{ds:List (DataW H)} {d:DataW H},d∈ds→z∈d.weights P e→z∈DataW.weightsAll P e ds
 |[],_,h,_=>by simp at h
 |x::r,d,h,hz=>by
  simp only [DataW.weightsAll,List.mem_append]
  rcases List.mem_cons.1 h with rfl|h
  ·exact .inl hz
  ·exact .inr (rW h hz)
theorem aLD {ts:List TypeId} {ds:List (DataW H)} (h:(DataW.weightsEach P ts ds).all (· ≤reachBytes)=true) {j:Nat} {t:TypeId} {d:DataW H} (ht:ts[j]?=some t) (hd:ds[j]?=some d):∀x∈d.weights P t,x≤reachBytes:=by
 induction ts generalizing ds j with
 |nil=>simp at ht
 |cons t' ts ih=>
  cases ds with
  |nil=>simp at hd
  |cons d' ds=>
   simp only [DataW.weightsEach,List.all_append,Bool.and_eq_true] at h
   cases j with
   |zero=>
    simp at ht hd
    subst ht;subst hd
    intro x hx
    exact of_decide_eq_true (List.all_eq_true.1 h.1 x hx)
   |succ j=>exact ih h.2 (by simpa using ht) (by simpa using hd)
theorem aKQ {fuel:Nat} {t e:TypeId} {cs:List Value} {x:DataW H × List MemPlace} (ht:P.underlying t=some (.slice e)) (hc:1≤P.cellsOf e) (h:DataW.trod enc P W 0 (fun _=>true) true fuel t cs=some x) (hw:∀z∈x.1.weights P t,z≤reachBytes):
  ∃(a:Option Addr) (len c:Nat),cs=[.slice a len c]∧(len:Int)≤9223372036854775807∧Cap a len c∧
   ∃rows:List (List Value),rows.length=len∧(∀r∈rows,r.length=P.cellsOf e∧∃n y,DataW.trod enc P W 0 (fun _=>true) true n e r=some y∧(∀z∈y.1.weights P e,z≤reachBytes))∧len*P.bytesOf e≤reachBytes∧Sl [] W a rows.flatten:=by
 rcases DataW.trod_slice ht h with ⟨hcs,_⟩|⟨a',len,c,elems,rest,n,_,hcs,hx,_,hlc,hcm,hlen,hel,hsp,_⟩
 ·exact ⟨none,0,0,hcs,by omega,⟨Nat.le_refl _, .inr ⟨rfl,rfl⟩⟩,[],rfl,by simp,by simp,Sl.nil _ _ _⟩
 ·have hm:maxLen=9223372036854775807:=by decide
  obtain ⟨hrl,hsp⟩:=hsp rfl
  subst hx
  have hwt:∀z∈(elems.length+rest.length)*P.bytesOf e::(DataW.weightsAll P e (elems.map (·.1))++DataW.weightsAll P e (rest.map (·.1))),z≤reachBytes:=fun z hz=>hw z (by simpa [DataW.weights,ht] using hz)
  have hwl:len*P.bytesOf e≤reachBytes:=Nat.le_trans (Nat.mul_le_mul_right _ (by omega)) (hwt _ List.mem_cons_self)
  have hwe:∀y∈elems,∀z∈y.1.weights P e,z≤reachBytes:=fun y hy z hz=>hwt z (List.mem_cons_of_mem _ (List.mem_append_left _ (rW (List.mem_map.2 ⟨y,hy,rfl⟩) hz)))
  have hspot:0 < c→Ok (some a'):=fun h0=>by
   have:∃v,W.cell? a'=some v:=by
    by_cases hl:0 < len
    ·have:=hel 0 hl
     rw [List.getElem?_eq_getElem (by omega),Option.bind_eq_some_iff] at this
     obtain ⟨cs',h1,_⟩:=this
     obtain ⟨_,hl2,hcell⟩:=World.cells?_some h1
     have:=hcell 0 (by omega)
     rw [List.getElem?_eq_getElem (by omega)] at this
     have e1:(a'.add (0*P.cellsOf e)).add 0=a':=by simp [Addr.add]
     rw [e1] at this
     exact ⟨_,this⟩
    ·have hl0:len=0:=by omega
     have:=hsp 0 (by omega)
     rw [List.getElem?_eq_getElem (by omega),Option.bind_eq_some_iff] at this
     obtain ⟨cs',h1,_⟩:=this
     obtain ⟨_,hl2,hcell⟩:=World.cells?_some h1
     have:=hcell 0 (by omega)
     rw [List.getElem?_eq_getElem (by omega)] at this
     have e1:(a'.add ((len+0)*P.cellsOf e)).add 0=a':=by simp [Addr.add,hl0]
     rw [e1] at this
     exact ⟨_,this⟩
   obtain ⟨v,hv⟩:=this
   unfold World.cell? at hv
   cases a' with
   |mk b o s=>
    have:s=none:=by
     cases s with
     |none=>rfl
     |some s=>split at hv <;>simp at hv
    subst this
    exact Ok.mk b o
  have hcap:Cap (some a') len c:=⟨hlc,by
   by_cases h0:0 < c
   ·exact .inl (hspot h0)
   ·exact .inr ⟨by omega,by omega⟩⟩
  refine ⟨some a',len,c,hcs,by omega,hcap,?_⟩
  have each:∀i,i < len→∃cs y,W.cells? 0 (a'.add (i*P.cellsOf e)) (P.cellsOf e)=some cs∧DataW.trod enc P W 0 (fun _=>true) true n e cs=some y∧y∈elems:=fun i hi=>by
   have:=hel i hi
   rw [List.getElem?_eq_getElem (by omega),Option.bind_eq_some_iff] at this
   obtain ⟨cs,h1,h2⟩:=this
   exact ⟨cs,_,h1,h2,List.getElem_mem _⟩
  refine ⟨(List.range len).map (fun i=>(W.cells? 0 (a'.add (i*P.cellsOf e)) (P.cellsOf e)).getD []),by simp,?_,hwl,?_⟩
  ·intro r hr
   obtain ⟨i,hi,rfl⟩:=List.mem_map.1 hr
   obtain ⟨cs,y,h4,h5,h6⟩:=each i (by simpa using hi)
   rw [h4]
   exact ⟨(World.cells?_some h4).2.1,n,y,h5,hwe y h6⟩
  ·intro j v hj
   have hall:∀r∈(List.range len).map (fun i=>(W.cells? 0 (a'.add (i*P.cellsOf e)) (P.cellsOf e)).getD []),r.length=P.cellsOf e:=by
    intro r hr
    obtain ⟨i,hi,rfl⟩:=List.mem_map.1 hr
    obtain ⟨cs,y,h4,h5,_⟩:=each i (by simpa using hi)
    rw [h4]
    exact (World.cells?_some h4).2.1
   obtain ⟨i,row,h4,h5,h6⟩:=aDZ _ j v hall hj
   rw [List.getElem?_map] at h4
   obtain ⟨i',hi',rfl⟩:=Option.map_eq_some_iff.1 h4
   have hii:i'=i∧i < len:=by
    obtain ⟨q1,q2⟩:=List.getElem?_eq_some_iff.1 hi'
    rw [List.getElem_range] at q2
    exact ⟨q2.symm,by simpa using q1⟩
   obtain ⟨rfl,hil⟩:=hii
   have hok:Ok (some a'):=hspot (by omega)
   obtain ⟨cs,y,h7,h8,_⟩:=each i' hil
   rw [h7] at h6
   simp only [Option.getD_some] at h6
   obtain ⟨_,hl,hc'⟩:=World.cells?_some h7
   have hlt:j - i'*P.cellsOf e < P.cellsOf e:=by
    have:=(List.getElem?_eq_some_iff.1 h6).1
    omega
   have hcell:=hc' _ hlt
   rw [h6] at hcell
   refine ⟨hok,by simp,?_⟩
   obtain ⟨b,o,eq⟩:=hok.cases
   injection eq with eq
   subst eq
   rw [add_lit,add_lit] at hcell
   rw [←hcell]
   simp only [pt,bl,of,Option.getD_some]
   congr 2
   omega
theorem uM {α:Type} {en:α→List Value} {Pm:α→Prop} {fuel:Nat} {t e:TypeId} {cs:List Value} {x:DataW H × List MemPlace} (ht:P.underlying t=some (.slice e)) (hc:1≤P.cellsOf e)
  (hdec:∀(r:List Value) n y,r.length=P.cellsOf e→DataW.trod enc P W 0 (fun _=>true) true n e r=some y→(∀z∈y.1.weights P e,z≤reachBytes)→∃m,r=en m∧Pm m) (h:DataW.trod enc P W 0 (fun _=>true) true fuel t cs=some x) (hw:∀z∈x.1.weights P t,z≤reachBytes):
  ∃(a:Option Addr) (ms:List α) (c:Nat),cs=[.slice a ms.length c]∧Sl [] W a (recs en ms)∧(∀m∈ms,Pm m)∧(ms.length:Int)≤9223372036854775807∧Cap a ms.length c∧ms.length*P.bytesOf e≤reachBytes:=by
 obtain ⟨a,len,c,rfl,h1,h3,rows,hl,hr,hwl,hs⟩:=aKQ ht hc h hw
 have key:∀rows:List (List Value),(∀r∈rows,r.length=P.cellsOf e∧∃n y,DataW.trod enc P W 0 (fun _=>true) true n e r=some y∧(∀z∈y.1.weights P e,z≤reachBytes))→∃ms:List α,rows=ms.map en∧∀m∈ms,Pm m:=by
  intro rows
  induction rows with
  |nil=>intro _;exact ⟨[],rfl,by simp⟩
  |cons r rows ih=>
   intro hr
   obtain ⟨hrl,n,y,hy,hwy⟩:=hr r (by simp)
   obtain ⟨m,rfl,hm⟩:=hdec r n y hrl hy hwy
   obtain ⟨ms,rfl,hms⟩:=ih (fun r' hr'=>hr r' (by simp [hr']))
   exact ⟨m::ms,rfl,fun m' hm'=>by
    rcases List.mem_cons.1 hm' with rfl|hm'
    ·exact hm
    ·exact hms m' hm'⟩
 obtain ⟨ms,rfl,hms⟩:=key rows hr
 have hlen:ms.length=len:=by simpa using hl
 subst hlen
 refine ⟨a,ms,c,rfl,?_,hms,h1,h3,hwl⟩
 rw [←List.flatMap_def] at hs
 exact hs
theorem aFJ {tr t0 t1:TypeId} {fr:Array Field} {m k n:Nat} {cs:List Value} {y:DataW H × List MemPlace} (hr:P.underlying tr=some (.struct fr)) (hfr:fr.toList.map (fun f=>(f.offset,f.type))=[(0,t0),(m,t1)]) (cm:P.cellsOf t0=m) (ck:P.cellsOf t1=k) (c5:P.cellsOf tr=m+k) (h:DataW.trod enc P W 0 (fun _=>true) true n tr cs=some y) (hw:∀z∈y.1.weights P tr,z≤reachBytes):
  cs.length=m+k∧∃n' z0 z1,DataW.trod enc P W 0 (fun _=>true) true n' t0 (cs.take m)=some z0∧DataW.trod enc P W 0 (fun _=>true) true n' t1 (cs.drop m)=some z1∧(∀z∈z0.1.weights P t0,z≤reachBytes)∧(∀z∈z1.1.weights P t1,z≤reachBytes):=by
 obtain ⟨zs,n',rfl,rfl,hl,hzl,hz⟩:=DataW.trod_struct hr h
 have hsz:fr.toList.length=2:=by have:=congrArg List.length hfr;simpa using this
 obtain ⟨f0,f1,hfs⟩:∃f0 f1,fr.toList=[f0,f1]:=by
  match hh:fr.toList,hsz with
  |[a,b],_=>exact ⟨a,b,rfl⟩
 rw [hfs] at hfr
 simp only [List.map_cons,List.map_nil,List.cons.injEq,Prod.mk.injEq,and_true] at hfr
 obtain ⟨⟨o0,e0⟩,o1,e1⟩:=hfr
 rw [c5] at hl
 have hg0:fr[0]?=some f0:=by rw [←Array.getElem?_toList,hfs];rfl
 have hg1:fr[1]?=some f1:=by rw [←Array.getElem?_toList,hfs];rfl
 have h0:=hz 0 f0 hg0
 have h1:=hz 1 f1 hg1
 rw [o0,e0,cm] at h0
 rw [o1,e1,ck] at h1
 have hz2:zs.length=2:=by rw [hzl];simpa using hsz
 obtain ⟨z0,z1,rfl⟩:∃z0 z1,zs=[z0,z1]:=by
  match zs,hz2 with
  |[a,b],_=>exact ⟨a,b,rfl⟩
 simp only [List.drop_zero,List.getElem?_cons_zero,List.getElem?_cons_succ] at h0 h1
 rw [List.take_of_length_le (l:=cs.drop m) (by simp;omega)] at h1
 have hww:∀x∈DataW.weights P t0 z0.1++DataW.weights P t1 z1.1,x≤reachBytes:=fun x hx=>hw x (by simp [DataW.weights,hr,hfs,DataW.weightsEach,e0,e1];simpa using hx)
 exact ⟨hl,n',z0,z1,h0,h1,fun x hx=>hww x (List.mem_append.2 (.inl hx)),fun x hx=>hww x (List.mem_append.2 (.inr hx))⟩
theorem aLV {t tb ts te:TypeId} {fs:Array Field} {n:Nat} {cs:List Value} {y:DataW H × List MemPlace} (ht:P.underlying t=some (.struct fs)) (hf:fs.toList.map (fun f=>(f.offset,f.type))=[(0,tb),(1,ts)]) (hb:P.underlying tb=some .bool) (hs:P.underlying ts=some (.slice te)) (he:P.underlying te=some (.int .u32))
  (c1:P.cellsOf tb=1) (c2:P.cellsOf ts=1) (c3:P.cellsOf te=1) (c4:P.cellsOf t=2) (hB:P.bytesOf te=4) (h:DataW.trod enc P W 0 (fun _=>true) true n t cs=some y) (hw:∀z∈y.1.weights P t,z≤reachBytes):
  ∃(nb:Bool) (a:Option Addr) (g:List Int) (c:Nat),cs=[.bool nb, .slice a g.length c]∧(∀x∈g,0≤x)∧Sl [] W a (recs eG g)∧Cap a g.length c∧(g.length:Int)≤9223372036854775807∧g.length≤35184372088832:=by
 obtain ⟨hl,n',z0,z1,h0,h1,hw0,hw1⟩:=aFJ ht hf c1 c2 c4 h hw
 obtain ⟨u0,u1,rfl⟩:∃u0 u1,cs=[u0,u1]:=by
  match cs,hl with
  |[a,b],_=>exact ⟨a,b,rfl⟩
 obtain ⟨nb,hnb,_⟩:=DataW.trod_bool hb h0
 simp at hnb
 subst hnb
 obtain ⟨a,g,c,e1,hsl,hg,hlen,hcap,hgl⟩:=uM (en:=eG) (Pm:=fun x=>0≤x) hs (by omega) (fun r n y hr hy _=>by
  obtain ⟨x,rfl,hw⟩:=aRB he hy
  refine ⟨x,rfl,?_⟩
  simp [Lit.wf] at hw
  have h32:IntKind.u32.min=0:=by decide
  rw [h32] at hw
  exact hw.1) h1 hw1
 simp at e1
 subst e1
 exact ⟨nb,a,g,c,rfl,hg,hsl,hcap,hlen,by rw [hB] at hgl;have:reachBytes=140737488351232:=rfl;omega⟩
theorem aSP {tr t tb ts te:TypeId} {fr fs:Array Field} {n:Nat} {cs:List Value} {y:DataW H × List MemPlace} (hr:P.underlying tr=some (.struct fr)) (hfr:fr.toList.map (fun f=>(f.offset,f.type))=[(0,t),(2,t)]) (ht:P.underlying t=some (.struct fs)) (hf:fs.toList.map (fun f=>(f.offset,f.type))=[(0,tb),(1,ts)]) (hb:P.underlying tb=some .bool) (hs:P.underlying ts=some (.slice te)) (he:P.underlying te=some (.int .u32))
  (c1:P.cellsOf tb=1) (c2:P.cellsOf ts=1) (c3:P.cellsOf te=1) (c4:P.cellsOf t=2) (c5:P.cellsOf tr=4) (hB:P.bytesOf te=4) (h:DataW.trod enc P W 0 (fun _=>true) true n tr cs=some y) (hw:∀z∈y.1.weights P tr,z≤reachBytes):
  ∃r:RW,cs=eW r∧IsW r [] W∧r.reach:=by
 obtain ⟨hl,n',z0,z1,h0,h1,hw0,hw1⟩:=aFJ hr hfr c4 c4 c5 h hw
 obtain ⟨n1,p1,g1,k1,e1,a1,a2,a3,a4,a5⟩:=aLV ht hf hb hs he c1 c2 c3 c4 hB h0 hw0
 obtain ⟨n2,p2,g2,k2,e2,b1,b2,b3,b4,b5⟩:=aLV ht hf hb hs he c1 c2 c3 c4 hB h1 hw1
 refine ⟨⟨n1,p1,g1,k1,n2,p2,g2,k2⟩,?_,⟨⟨a1,b1,a4,b4,a3,b3⟩,a2,b2⟩,a5,b5⟩
 rw [←List.take_append_drop 2 cs,e1,e2]
 rfl
end
section
variable {H:Type} {enc:TypeId × Value→H} {W:World}
theorem aOS {n:Nat} {cs:List Value} {y:DataW H × List MemPlace} (h:DataW.trod enc Tryz.prog W 0 (fun _=>true) true n 36 cs=some y) (hw:∀z∈y.1.weights Tryz.prog 36,z≤reachBytes):∃r:RW,cs=eW r∧IsW r [] W∧r.reach:=
 aSP (tb:=4) (ts:=32) (te:=103) (t:=34) (tr:=36) Tryz.underlying36 (by rfl) Tryz.underlying34 (by rfl) Tryz.underlying4 Tryz.underlying32 Tryz.underlying103 (by kernel_rfl) (by kernel_rfl) (by kernel_rfl) (by kernel_rfl) (by kernel_rfl) (by kernel_rfl) h hw
theorem wR {n:Nat} {cs:List Value} {y:DataW H × List MemPlace} (h:DataW.trod enc Tryz.prog W 0 (fun _=>true) true n 24 cs=some y) (hw:∀z∈y.1.weights Tryz.prog 24,z≤reachBytes):∃r:WL,cs=uX r∧IsWL r [] W∧r.rch:=by
 obtain ⟨a,ms,c,e,hs,hm,_,hc,hl⟩:=uM (en:=eW) (Pm:=fun r=>IsW r [] W∧r.reach) Tryz.underlying24 (by rw [show Tryz.prog.cellsOf 36=4 by kernel_rfl];decide) (fun r n y _ hy hw=>aOS hy hw) h hw
 rw [show Tryz.prog.bytesOf 36=64 by kernel_rfl] at hl
 have hr:reachBytes=140737488351232:=rfl
 exact ⟨⟨a,c,ms⟩,e,⟨hs,fun e he=>(hm e he).1,hc⟩,by show ms.length≤_;omega,fun e he=>(hm e he).2⟩
theorem aMM {n:Nat} {cs:List Value} {y:DataW H × List MemPlace} (h:DataW.trod enc Tryz.prog W 0 (fun _=>true) true n 23 cs=some y) (hw:∀z∈y.1.weights Tryz.prog 23,z≤reachBytes):∃r:WM,cs=eWM r∧IsWM r [] W∧r.rch:=by
 obtain ⟨a,ms,c,e,hs,hm,_,hc,hl⟩:=uM (en:=uX) (Pm:=fun r=>IsWL r [] W∧r.rch) Tryz.underlying23 (by rw [show Tryz.prog.cellsOf 24=1 by kernel_rfl];decide) (fun r n y _ hy hw=>wR hy hw) h hw
 rw [show Tryz.prog.bytesOf 24=24 by kernel_rfl] at hl
 have hr:reachBytes=140737488351232:=rfl
 exact ⟨⟨a,c,ms⟩,e,⟨hs,fun e he=>(hm e he).1,hc⟩,by show ms.length≤_;omega,fun e he=>(hm e he).2⟩
end
end Go.Proofs.YthhldplegmeolaaGreat
namespace Go.Proofs.YthhldplegmeolaaGreat
open Go Go.Fx
def RW.dig (r:RW):Nat:=r.g1.length+r.g2.length
def WL.shN (r:WL) (n g:Nat):Prop:=r.es.length≤n∧∀e∈r.es,e.dig≤g∧(g≤6→e.brief)
instance WL.decN (r:WL) (n g:Nat):Decidable (r.shN n g):=by unfold WL.shN;exact inferInstance
def WM.shN (m:WM) (n g:Nat):Prop:=m.rows.length≤n∧∀r∈m.rows,r.shN n g
instance WM.decN (m:WM) (n g:Nat):Decidable (m.shN n g):=by unfold WM.shN;exact inferInstance
instance WM.decG (m:WM):Decidable (∀r∈m.rows,r.good):=inferInstance
section
variable {X:List Nat} {w0:World} {M0:List Ent} {I0:List aN}
theorem yP {r:WL} {n g:Nat} (hn:n≤1000000∧g≤1000000) (hR:r.rch) (hw:jN r∈I0):CD Tryz.prog 16 [wE r, .int .i64 (n:Int), .int .i64 (g:Int)] X w0 M0 I0 (fun v M I=>M0=M∧I0=I∧v= .bool (B (r.shN n g))):=by
 refine aL (φ:=aD r.p (recs eW r.es)) (Hv.wlsl hw) ?_
 have hl:=hR.1
 refine iC Tryz.func16 rfl Tryz.ntmps16 rfl ?_
 repeat' (first|refine aC ?_|refine aI rfl (fun h=>?_) (fun h=>?_)|refine aH rfl rfl (fun h=>?_) (fun h=>?_)|fail)
 ·refine aT (by first|exact .inl rfl|exact .inr rfl) rfl rfl _ _ aK aJ (⟨rfl,rfl,congrArg Value.bool (aW (fun e=>by have:=e.1;omega)).symm⟩)
 refine pU [0,2] rfl (fun k G M I=>∃i:Nat,i≤r.es.length∧k=r.es.length - i∧(∀j:Nat,j < i→(gt r.es (j:Int)).dig≤g∧(g≤6→(gt r.es (j:Int)).brief))∧G=[(7, .int .i64 i)]∧M0=M∧I=aD r.p (recs eW r.es)::I0) (r.es.length) (⟨0,by omega,rfl,fun j hj=>by omega,rfl,rfl,rfl⟩) ?_
 rintro k G M I ⟨i,hi,rfl,hs,rfl,rfl,rfl⟩
 by_cases hi2:i < r.es.length
 ·have hr:=hR.2 _ (cB (ms:=r.es) (i:=(i:Int)) (by omega))
  have hD:=fun M0 I0=>aGH (X:=X) (w0:=w0) (M0:=M0) (I0:=I0) (r:=gt r.es (i:Int)) hr
  refine bN (φ:=isW (gt r.es (i:Int))) (Hv.wlel (List.Mem.tail _ hw) (by omega)) ?_
  have nxt:(gt r.es (i:Int)).dig≤g→(g≤6→(gt r.es (i:Int)).brief)→∀j:Nat,j < i+1→(gt r.es (j:Int)).dig≤g∧(g≤6→(gt r.es (j:Int)).brief):=fun h1 h2 j hj=>by
   by_cases e:j=i
   ·subst e;exact ⟨h1,h2⟩
   ·exact hs j (by omega)
  repeat refine aC ?_
  refine dC rfl (hD _ _) ?_
  by_cases hd:(gt r.es (i:Int)).dig≤g
  ·have hd2:¬(g:Int) < ((gt r.es (i:Int)).g1.length+(gt r.es (i:Int)).g2.length:Int):=by unfold RW.dig at hd;omega
   by_cases h6:g≤6
   ·repeat refine aC ?_
    refine dC rfl (aMR (r:=gt r.es (i:Int)) (Hv.mem aA)) ?_
    repeat' (first|refine aC ?_|refine aI rfl (fun h=>?_) (fun h=>?_)|refine aH rfl rfl (fun h=>?_) (fun h=>?_)|fail)
    ·have hb:¬(gt r.es (i:Int)).brief:=by assumption
     refine iZ rfl rfl (⟨rfl,rfl,congrArg Value.bool (aW (fun e=>hb ((e.2 _ (cB (by omega))).2 h6))).symm⟩)
    ·have hb:¬¬(gt r.es (i:Int)).brief:=by assumption
     refine lN (r.es.length - (i+1)) (⟨i+1,by omega,rfl,nxt hd (fun _=>Decidable.not_not.1 hb),rfl,rfl,rfl⟩)
   ·repeat refine aC ?_
    refine lN (r.es.length - (i+1)) (⟨i+1,by omega,rfl,nxt hd (fun h=>absurd h h6),rfl,rfl,rfl⟩)
  ·have hd2:(g:Int) < ((gt r.es (i:Int)).g1.length+(gt r.es (i:Int)).g2.length:Int):=by unfold RW.dig at hd;omega
   repeat refine aC ?_
   refine iZ rfl rfl (⟨rfl,rfl,congrArg Value.bool (aW (fun e=>hd (e.2 _ (cB (by omega))).1)).symm⟩)
 ·repeat refine aC ?_
  refine iZ rfl rfl (⟨rfl,rfl,congrArg Value.bool (bV ⟨by omega,fun e he=>?_⟩).symm⟩)
  obtain ⟨j,hj,rfl⟩:=List.mem_iff_getElem.1 he
  have:=hs j (by omega)
  rwa [eY hj] at this
end
end Go.Proofs.YthhldplegmeolaaGreat
namespace Go.Proofs.YthhldplegmeolaaGreat
open Go Go.Fx
structure LW where
 a:WM
 l:WL
 p:WL
instance LW.inh:Inhabited LW:=⟨⟨default,default,default⟩⟩
abbrev eLW (m:LW):List Value:=[mvW m.a,wE m.l,wE m.p]
abbrev vLW (m:LW):Value:= .agg #[mvW m.a,wE m.l,wE m.p]
structure IsLW (m:LW) (X:List Nat) (w:World):Prop where
 a:IsWM m.a X w
 l:IsWL m.l X w
 p:IsWL m.p X w
abbrev rV (m:LW):aN:=IsLW m
instance LW.gd (m:LW):Fx.Good (IsLW m):=⟨fun X Y w w' h he hY=>⟨Fx.Good.go (φ:=IsWM _) X Y w w' h.a he hY,Fx.Good.go (φ:=IsWL _) X Y w w' h.l he hY,Fx.Good.go (φ:=IsWL _) X Y w w' h.p he hY⟩⟩
theorem Hv.lwa {I:List aN} {m:LW} (h:rV m∈I):Hv I (pR m.a):=⟨fun X w hw=>(hw _ h:IsLW m X w).a⟩
theorem Hv.lwl {I:List aN} {m:LW} (h:rV m∈I):Hv I (jN m.l):=⟨fun X w hw=>(hw _ h:IsLW m X w).l⟩
theorem Hv.lwp {I:List aN} {m:LW} (h:rV m∈I):Hv I (jN m.p):=⟨fun X w hw=>(hw _ h:IsLW m X w).p⟩
def LW.sml (m:LW):Prop:=m.a.sml∧m.l.sml∧m.p.sml
def LW.rch (m:LW):Prop:=m.a.rch∧m.l.rch∧m.p.rch
def RW.posi (r:RW):Prop:=0 < zI r.n1 r.g1
instance RW.decPosi (r:RW):Decidable r.posi:=by unfold RW.posi;exact inferInstance
def LW.good (m:LW):Prop:=(∀r∈m.a.rows,r.good)∧m.l.good∧m.p.good
instance LW.decGood (m:LW):Decidable m.good:=by unfold LW.good;exact inferInstance
def LW.rng (m:LW):Prop:=(1≤m.a.rows.length∧m.a.rows.length≤64)∧1≤(gt m.a.rows 0).es.length∧(gt m.a.rows 0).es.length≤24
instance LW.decRng (m:LW):Decidable m.rng:=by unfold LW.rng;exact inferInstance
def LW.rect (m:LW):Prop:=(∀r∈m.a.rows,r.es.length=(gt m.a.rows 0).es.length)∧m.l.es.length=m.a.rows.length∧m.p.es.length=m.a.rows.length
instance LW.decRect (m:LW):Decidable m.rect:=by unfold LW.rect;exact inferInstance
def LW.poss (m:LW):Prop:=∀e∈m.p.es,e.posi
instance LW.decPoss (m:LW):Decidable m.poss:=by unfold LW.poss;exact inferInstance
def LW.code (m:LW):Int:=if m.good then (if m.rng then (if m.rect then (if m.poss then 0 else 2) else 4) else 3) else 1
theorem LW.code_1 {m:LW} (h:¬m.good):m.code=1:=if_neg h
theorem LW.code_3 {m:LW} (h:m.good) (h1:¬m.rng):m.code=3:=by unfold LW.code;rw [if_pos h,if_neg h1]
theorem LW.code_4 {m:LW} (h:m.good) (h1:m.rng) (h2:¬m.rect):m.code=4:=by unfold LW.code;rw [if_pos h,if_pos h1,if_neg h2]
theorem LW.code_2 {m:LW} (h:m.good) (h1:m.rng) (h2:m.rect) (h3:¬m.poss):m.code=2:=by unfold LW.code;rw [if_pos h,if_pos h1,if_pos h2,if_neg h3]
theorem LW.code_0 {m:LW} (h:m.good) (h1:m.rng) (h2:m.rect) (h3:m.poss):m.code=0:=by unfold LW.code;rw [if_pos h,if_pos h1,if_pos h2,if_pos h3]
theorem LW.code_ok {m:LW} (h:m.code=0):m.good∧m.rng∧m.rect∧m.poss:=by
 unfold LW.code at h
 by_cases h0:m.good
 ·by_cases h1:m.rng
  ·by_cases h2:m.rect
   ·by_cases h3:m.poss
    ·exact ⟨h0,h1,h2,h3⟩
    ·simp [h0,h1,h2,h3] at h
   ·simp [h0,h1,h2] at h
  ·simp [h0,h1] at h
 ·simp [h0] at h
theorem aDM {α:Type} [Inhabited α] {p:α→Prop} {l:List α} {n:Nat} (h:∀j:Nat,j < n→p (gt l (j:Int))) (hn:l.length≤n):∀a∈l,p a:=fun a ha=>by
 obtain ⟨j,hj,rfl⟩:=List.mem_iff_getElem.1 ha
 have:=h j (by omega)
 rwa [eY hj] at this
theorem sH {α:Type} [Inhabited α] {p:α→Prop} {l:List α} (h:∀a∈l,p a) {j:Nat} (hj:j < l.length):p (gt l (j:Int)):=h _ (cB (by omega))
theorem aDJ {p:Nat→Prop} {i:Nat} (h:∀j,j < i→p j) (hi:p i):∀j,j < i+1→p j:=fun j hj=>by
 by_cases e:j=i
 ·subst e;exact hi
 ·exact h j (by omega)
theorem aNU {z:Int}:z.sign≤0↔¬0 < z:=by rw [←Int.sign_pos_iff];omega
section
variable {X:List Nat} {w0:World} {M0:List Ent} {I0:List aN}
theorem aOJ {r:RW} (hs:r.sml) (hg:r.good) (hw:Hv I0 (isW r)):CD Tryz.prog 19 [wv r] X w0 M0 I0 (fun v M I=>M0=M∧I0=I∧v= .int .i64 (zI r.n1 r.g1).sign):=by
 refine aPV (φ:=r.Fit) (fun w hw'=>(hw.go _ _ (fun ψ hm=>(hw'.imm ψ hm).2):IsW r _ w).fit) (fun hf=>?_)
 obtain ⟨e,rfl⟩:=RW.good_raw hf hg
 have h:=jS (X:=X) (w0:=w0) (M0:=M0) (I0:=I0) (e:=e) (k:=30000000000) (by omega) (Hv.ofW hw (by have:=hs.1;omega) (by have:=hs.2;omega))
 have e1:zI e.raw.n1 e.raw.g1=e.q.num:=sV _
 rw [e1];exact h
theorem aHH {r:RW} (hs:r.sml) (hw:Hv I0 (isW r)):CD Tryz.prog 45 [wv r] X w0 M0 I0 (fun v M I=>M0=M∧I0=I∧v= .bool (B (¬r.good))):=by
 refine aV Tryz.func45 rfl Tryz.ntmps45 rfl ?_
 refine fG ?_
 refine fQ rfl (fun b=>?_)
 repeat refine aC ?_
 refine dC rfl (aCA (r:=r) hs hw) ?_
 repeat refine aC ?_
 refine iZ rfl rfl (⟨rfl,rfl,rfl⟩)
theorem tK {q:Option Addr} {c:Nat} {rows:List WL} (hl:rows.length≤1000000000) (hs:∀r∈rows,r.sml) (hq:aD q (recs uX rows)∈I0) (hr:∀i:Nat,i < rows.length→Hv I0 (jN (gt rows (i:Int)))):
  CD Tryz.prog 18 [.slice q rows.length c] X w0 M0 I0 (fun v M I=>M0=M∧I0=I∧v= .bool (B (∀r∈rows,r.good))):=by
 refine aV Tryz.func18 rfl Tryz.ntmps18 rfl ?_
 repeat refine aC ?_
 refine pU [5,6] rfl (fun k G M I=>∃i:Nat,i≤rows.length∧k=rows.length - i∧(∀j:Nat,j < i→(gt rows (j:Int)).good)∧G=[(7, .int .i64 i)]∧M0=M∧I0=I) (rows.length) (⟨0,by omega,rfl,fun j hj=>by omega,rfl,rfl,rfl⟩) ?_
 rintro kk G M I ⟨i,hi,rfl,hg,rfl,rfl,rfl⟩
 by_cases hin:i < rows.length
 ·obtain ⟨s1,s2⟩:=sH hs hin
  have hri:=hr i hin
  have hH:=fun M0 I0 (h1:aD (gt rows (i:Int)).p (recs eW (gt rows (i:Int)).es)∈I0) (h2:jN (gt rows (i:Int))∈I0)=>yM (X:=X) (w0:=w0) (M0:=M0) (I0:=I0) (q:=(gt rows (i:Int)).p) (a:=(gt rows (i:Int)).es) (c:=(gt rows (i:Int)).c) (g:=45) (fs:=#[]) (cs:=#[]) (fun (x:RW)=>¬x.good) (by omega) h1 (fun t ht=>aHH (s2 _ (cB (by omega))) (Hv.wlel h2 (by omega)))
  refine bN hri ?_
  refine bN (φ:=aD (gt rows (i:Int)).p (recs eW (gt rows (i:Int)).es)) (Hv.wlsl (List.Mem.head _)) ?_
  by_cases e:(gt rows (i:Int)).good
  ·rw [aW (show ¬∃x∈(gt rows (i:Int)).es,¬x.good from fun ⟨x,hx,hn⟩=>hn (e x hx))] at hH
   repeat refine aC ?_
   refine dC rfl (hH _ _ aA aA) ?_
   repeat refine aC ?_
   refine lN (rows.length - (i+1)) (⟨i+1,by omega,rfl,aDJ hg e,rfl,rfl,rfl⟩)
  ·rw [bV (show ∃x∈(gt rows (i:Int)).es,¬x.good from Classical.byContradiction (fun hn=>e (fun x hx=>Classical.byContradiction (fun h=>hn ⟨x,hx,h⟩))))] at hH
   repeat refine aC ?_
   refine dC rfl (hH _ _ aA aA) ?_
   repeat refine aC ?_
   refine iZ rfl rfl (⟨rfl,rfl,congrArg Value.bool (aW (fun h=>e (sH h hin))).symm⟩)
 ·repeat refine aC ?_
  refine iZ rfl rfl (⟨rfl,rfl,congrArg Value.bool (bV (aDM hg (by omega))).symm⟩)
theorem Hv.wlTwo {I:List aN} {a b:WL} (h1:jN a∈I) (h2:jN b∈I):∀i:Nat,i < [a,b].length→Hv I (jN (gt [a,b] (i:Int))):=fun i hi=>by
 match i,hi with
 |0,_=>exact Hv.mem h1
 |1,_=>exact Hv.mem h2
theorem aBY {m:LW} (sm:m.sml) (hm:rV m∈I0):CD Tryz.prog 17 [vLW m] X w0 M0 I0 (fun v M I=>M0=M∧I0=I∧v= .int .i64 m.code):=by
 obtain ⟨⟨sa,sar⟩,⟨sl,slr⟩,⟨sp,spr⟩⟩:=sm
 refine aL (φ:=pR m.a) (Hv.lwa hm) ?_
 refine aL (φ:=jN m.l) (Hv.lwl (List.Mem.tail _ hm)) ?_
 refine aL (φ:=jN m.p) (Hv.lwp (List.Mem.tail _ (List.Mem.tail _ hm))) ?_
 refine aL (φ:=aD m.a.p (recs uX m.a.rows)) (Hv.wmsl aA) ?_
 refine aL (φ:=aD m.p.p (recs eW m.p.es)) (Hv.wlsl aA) ?_
 have hCa:=fun M0 I0 (h1:aD m.a.p (recs uX m.a.rows)∈I0) (h2:pR m.a∈I0)=>tK (X:=X) (w0:=w0) (M0:=M0) (I0:=I0) (q:=m.a.p) (c:=m.a.c) (rows:=m.a.rows) (by omega) sar h1 (fun i hi=>Hv.wmrow h2 (by omega))
 have hCb:=fun M0 I0 (b:Nat) (h1:aD (some ⟨b,0,none⟩) (recs uX [m.l,m.p])∈I0) (h2:jN m.l∈I0) (h3:jN m.p∈I0)=>tK (X:=X) (w0:=w0) (M0:=M0) (I0:=I0) (q:=some ⟨b,0,none⟩) (c:=2) (rows:=[m.l,m.p]) (by show 2≤1000000000;omega) (fun r hr=>by
  rcases List.mem_cons.1 hr with rfl|hr
  ·exact ⟨sl,slr⟩
  ·rw [List.mem_singleton.1 hr];exact ⟨sp,spr⟩) h1 (Hv.wlTwo h2 h3)
 refine aV Tryz.func17 rfl Tryz.ntmps17 rfl ?_
 refine fG ?_
 refine fQ rfl (fun b1=>?_)
 refine aG .here ?_
 by_cases gA:∀r∈m.a.rows,r.good
 ·rw [bV gA] at hCa
  repeat refine aC ?_
  refine dC rfl (hCa _ _ aA aA) ?_
  repeat refine aC ?_
  refine nG (cs:=recs uX [m.l,m.p]) ([wE m.l,wE m.p]) rfl (fun b2=>?_)
  refine aG .here ?_
  by_cases gB:∀r∈[m.l,m.p],r.good
  ·rw [bV gB] at hCb
   have hg:m.good:=⟨gA,gB _ (List.Mem.head _),gB _ (List.Mem.tail _ (List.Mem.head _))⟩
   refine dC rfl (hCb _ _ b2 aA aA aA) ?_
   by_cases r1:1≤m.a.rows.length
   ·by_cases r2:m.a.rows.length≤64
    ·by_cases c1:1≤(gt m.a.rows 0).es.length
     ·by_cases c2:(gt m.a.rows 0).es.length≤24
      ·have hr:m.rng:=⟨⟨r1,r2⟩,c1,c2⟩
       repeat refine aC ?_
       refine pU [1,47,48] rfl (fun k G M I=>∃i:Nat,i≤m.a.rows.length∧k=m.a.rows.length - i∧(∀j:Nat,j < i→(gt m.a.rows (j:Int)).es.length=(gt m.a.rows 0).es.length)∧G=[(49, .int .i64 i)]∧M0=M∧I=aD (some ⟨b1,0,none⟩) [mvW m.a,wE m.l,wE m.p]::aD m.p.p (recs eW m.p.es)::aD m.a.p (recs uX m.a.rows)::jN m.p::jN m.l::pR m.a::I0) (m.a.rows.length) (⟨0,by omega,rfl,fun j hj=>by omega,rfl,rfl,rfl⟩) ?_
       rintro kk G M I ⟨i,hi,rfl,he,rfl,rfl,rfl⟩
       by_cases hin:i < m.a.rows.length
       ·by_cases e:(gt m.a.rows (i:Int)).es.length=(gt m.a.rows 0).es.length
        ·repeat refine aC ?_
         refine lN (m.a.rows.length - (i+1)) (⟨i+1,by omega,rfl,aDJ he e,rfl,rfl,rfl⟩)
        ·repeat refine aC ?_
         refine aT (by first|exact .inl rfl|exact .inr rfl) rfl rfl _ _ aK aJ (⟨rfl,rfl,by rw [LW.code_4 hg hr (fun h=>e (sH h.1 hin))]⟩)
       ·by_cases e1:m.l.es.length=m.a.rows.length
        ·by_cases e2:m.p.es.length=m.a.rows.length
         ·have hc:m.rect:=⟨aDM he (by omega),e1,e2⟩
          repeat refine aC ?_
          refine pU [79,80] rfl (fun k G M I=>∃i:Nat,i≤m.p.es.length∧k=m.p.es.length - i∧(∀j:Nat,j < i→(gt m.p.es (j:Int)).posi)∧G=[(81, .int .i64 i)]∧M0=M∧I=aD (some ⟨b1,0,none⟩) [mvW m.a,wE m.l,wE m.p]::aD m.p.p (recs eW m.p.es)::aD m.a.p (recs uX m.a.rows)::jN m.p::jN m.l::pR m.a::I0) (m.p.es.length) (⟨0,by omega,rfl,fun j hj=>by omega,rfl,rfl,rfl⟩) ?_
          rintro kk G M I ⟨i,hi,rfl,hp,rfl,rfl,rfl⟩
          by_cases hin:i < m.p.es.length
          ·have hS:=fun M0 I0 h=>aOJ (X:=X) (w0:=w0) (M0:=M0) (I0:=I0) (r:=gt m.p.es (i:Int)) (sH spr hin) (sH hg.2.2 hin) h
           have hsg:=aNU (z:=zI (gt m.p.es (i:Int)).n1 (gt m.p.es (i:Int)).g1)
           refine bN (φ:=isW (gt m.p.es (i:Int))) (Hv.wlel aA (by omega)) ?_
           generalize (zI (gt m.p.es (i:Int)).n1 (gt m.p.es (i:Int)).g1).sign=sg at*
           by_cases e:(gt m.p.es (i:Int)).posi
           ·have hs0:¬sg≤0:=fun h=>hsg.1 h e
            repeat refine aC ?_
            refine dG (fun b3=>?_)
            repeat refine aC ?_
            refine dC rfl (hS _ _ (Hv.mem aA)) ?_
            repeat refine aC ?_
            refine lN (m.p.es.length - (i+1)) (⟨i+1,by omega,rfl,aDJ hp e,rfl,rfl,rfl⟩)
           ·have hs0:sg≤0:=hsg.2 e
            repeat refine aC ?_
            refine dG (fun b3=>?_)
            repeat refine aC ?_
            refine dC rfl (hS _ _ (Hv.mem aA)) ?_
            repeat refine aC ?_
            refine aT (by first|exact .inl rfl|exact .inr rfl) rfl rfl _ _ aK aJ (⟨rfl,rfl,by rw [LW.code_2 hg hr hc (fun h=>e (sH h hin))]⟩)
          ·repeat refine aC ?_
           refine aT (by first|exact .inl rfl|exact .inr rfl) rfl rfl _ _ aK aJ (⟨rfl,rfl,by rw [LW.code_0 hg hr hc (aDM hp (by omega))]⟩)
         ·repeat refine aC ?_
          refine aT (by first|exact .inl rfl|exact .inr rfl) rfl rfl _ _ aK aJ (⟨rfl,rfl,by rw [LW.code_4 hg hr (fun h=>e2 h.2.2)]⟩)
        ·repeat refine aC ?_
         refine aT (by first|exact .inl rfl|exact .inr rfl) rfl rfl _ _ aK aJ (⟨rfl,rfl,by rw [LW.code_4 hg hr (fun h=>e1 h.2.1)]⟩)
      ·repeat refine aC ?_
       refine aT (by first|exact .inl rfl|exact .inr rfl) rfl rfl _ _ aK aJ (⟨rfl,rfl,by rw [LW.code_3 hg (fun h=>c2 h.2.2)]⟩)
     ·repeat refine aC ?_
      refine aT (by first|exact .inl rfl|exact .inr rfl) rfl rfl _ _ aK aJ (⟨rfl,rfl,by rw [LW.code_3 hg (fun h=>c1 h.2.1)]⟩)
    ·repeat refine aC ?_
     refine aT (by first|exact .inl rfl|exact .inr rfl) rfl rfl _ _ aK aJ (⟨rfl,rfl,by rw [LW.code_3 hg (fun h=>r2 h.1.2)]⟩)
   ·repeat refine aC ?_
    refine aT (by first|exact .inl rfl|exact .inr rfl) rfl rfl _ _ aK aJ (⟨rfl,rfl,by rw [LW.code_3 hg (fun h=>r1 h.1.1)]⟩)
  ·rw [aW gB] at hCb
   refine dC rfl (hCb _ _ b2 aA aA aA) ?_
   repeat refine aC ?_
   refine aT (by first|exact .inl rfl|exact .inr rfl) rfl rfl _ _ aK aJ (⟨rfl,rfl,by rw [LW.code_1 (fun h=>gB (fun r hr=>by
    rcases List.mem_cons.1 hr with rfl|hr
    ·exact h.2.1
    ·rw [List.mem_singleton.1 hr];exact h.2.2))]⟩)
 ·rw [aW gA] at hCa
  repeat refine aC ?_
  refine dC rfl (hCa _ _ aA aA) ?_
  repeat refine aC ?_
  refine aT (by first|exact .inl rfl|exact .inr rfl) rfl rfl _ _ aK aJ (⟨rfl,rfl,by rw [LW.code_1 (fun h=>gA h.1)]⟩)
end
end Go.Proofs.YthhldplegmeolaaGreat
namespace Go.Proofs.YthhldplegmeolaaGreat
open Go Go.Fx
def unL (n i:Nat):List Rat:=(List.range n).map (oD i)
def rw1 (A:Mt) (C i:Nat) (z:Nat→Rat):Rat:=sm C (fun j=>at2 A i j*z j)
def ctl (R C:Nat) (A:Mt) (i:Nat):Prop:=¬zM R C A (unL R i)
instance (R C:Nat) (A:Mt) (i:Nat):Decidable (ctl R C A i):=by unfold ctl;exact inferInstance
/- rows left out -/
def rowsM (A:Mt) (ix:List Nat):Mt:=ix.map (rowAt A)
def restI (R:Nat) (set:List Int):List Nat:=(List.range R).filter (fun i=>decide ((i:Int) ∉ set))
def und (R C:Nat) (A:Mt) (set:List Int):Prop:=rk (rowsM A (restI R set)) C < rk A C
instance (R C:Nat) (A:Mt) (set:List Int):Decidable (und R C A set):=by unfold und;exact inferInstance
/- the transposed matrix -/
def trM (R C:Nat) (A:Mt):Mt:=xU C R (fun i j=>at2 A j i)
/- certificates -/
/- weights: the normal matrix has the kernel of the design matrix -/
def aNB (R C:Nat) (A:Mt) (p:Nat→Rat):Mt:=xU C C (fun i j=>sm R (fun k=>p k*at2 A k i*at2 A k j))
/- the document's inverse: the pivots of the matrix with the unit matrix beside -/
end Go.Proofs.YthhldplegmeolaaGreat
namespace Go.Proofs.YthhldplegmeolaaGreat
open Go Go.Fx
section
variable {X:List Nat} {w0:World} {M0:List Ent} {I0:List aN}
end
end Go.Proofs.YthhldplegmeolaaGreat
namespace Go.Proofs.YthhldplegmeolaaGreat
open Go Go.Fx
theorem aRY {a:WM} (hf:∀r∈a.rows,∀e∈r.es,e.Fit) (h:a.ok):∃A:MX,a=A.raw∧A.fit a.rows.length (gt a.rows 0).es.length:=by
 obtain ⟨A,rfl⟩:=WM.good_raw hf (fun r hr=>(h.2 r hr).2)
 refine ⟨A,rfl,?_⟩
 obtain ⟨h1,h2,h3,h4,h5⟩:=aRR h
 have e:(gt A.raw.rows 0).es.length=(gt A.rows 0).es.length:=by
  rw [show A.raw.rows=A.rows.map RL.raw from rfl,wL (by omega)]
  show ((gt A.rows 0).es.map RE.raw).length=_
  rw [List.length_map]
 rw [A.raw_rows,e]
 exact ⟨h1,⟨h2,h3⟩,h4,h5⟩
theorem aAU {x:WL} (hf:∀e∈x.es,e.Fit) (h:x.good):∃A:RL,x=A.raw∧A.es.length=x.es.length:=by
 obtain ⟨A,rfl⟩:=WL.good_raw hf h
 exact ⟨A,rfl,by show A.es.length=(A.es.map RE.raw).length;rw [List.length_map]⟩
end Go.Proofs.YthhldplegmeolaaGreat

/- matrix.Inverse. -/
import Derived.Test.YtmmmfphealhapaaGreatZsau
import Derived.Test.YtmmmfphealhapaaGreatZsaq
import Derived.Test.YtmmmfphealhapaaGreatZsab
import Derived.Test.YtmmmfphealhapaaGreatZsae
import Derived.Test.YtmmmfphealhapaaGreatZsal
set_option linter.unusedSimpArgs false
set_option linter.unusedVariables false
set_option maxRecDepth 100000
set_option maxHeartbeats 4000000
namespace Go.Proofs.YtmmmfphealhapaaGreat
open Go Go.Fx
def aCB (n:Nat) (A:Mt):Mt:=xC n (n+n) (fun i j=>if j < n then at2 A i j else nU i (j - n))
def aEE (n:Nat) (A:Mt):Mt:=xC n n (fun i j=>at2 (eP (aCB n A) n).1 i (n+j))
theorem aQI {R C:Nat} {F:Nat→Nat→Rat}:qG (xC R C F) R C:=⟨by simp [xC],fun i hi=>by simp [xC,rowAt,List.getD,hi]⟩
theorem aWS {n:Nat} {A:Mt} {i j:Nat} (hi:i < n) (hj:j < n):at2 (aCB n A) i j=at2 A i j:=by
 unfold aCB
 rw [tF hi (by omega),if_pos hj]
theorem bDS {n:Nat} {A:Mt} {i j:Nat} (hi:i < n) (hj:j < n):at2 (aCB n A) i (n+j)=nU i j:=by
 unfold aCB
 rw [tF hi (by omega),if_neg (by omega),Nat.add_sub_cancel_left]
theorem aPG {n:Nat} {A:Mt}:(eP (aCB n A) n).2.length=n↔dt n (at2 A)≠0:=by
 obtain ⟨_,s,hr⟩:=iJ (A:=aCB n A) (R:=n) (C:=n+n) aQI n (by omega)
 rw [hr.iff (by omega),jM (f:=at2 (aCB n A)) (g:=at2 A) (fun i j hi hj=>aWS hi hj)]
theorem aPI {n:Nat} {A:Mt} (h:dt n (at2 A)≠0):(∀i j,i < n→j < n→tC n (at2 A) (at2 (aEE n A)) i j=nU i j)∧(∀i j,i < n→j < n→tC n (at2 (aEE n A)) (at2 A) i j=nU i j):=by
 obtain ⟨_,s,hr⟩:=iJ (A:=aCB n A) (R:=n) (C:=n+n) aQI n (by omega)
 obtain ⟨h1,h2⟩:=hr.inv (a:=at2 A) (aPG.2 h) (fun i j hi hj=>aWS hi hj) (fun i j hi hj=>bDS hi hj)
 have e:∀i j,i < n→j < n→at2 (aEE n A) i j=at2 (eP (aCB n A) n).1 i (n+j):=fun i j hi hj=>by unfold aEE;rw [tF hi hj]
 constructor
 ·intro i j hi hj
  rw [←h1 i j hi hj]
  exact yH (fun _ _=>rfl) (fun k hk=>e k j hk hj)
 ·intro i j hi hj
  rw [←h2 i j hi hj]
  exact yH (fun k hk=>e i k hi hk) (fun _ _=>rfl)
section
variable {X:List Nat} {w0:World} {M0:List Ent} {I0:List aM}
theorem aIJ {a:MX} {n k0:Nat} (hb:kb k0 n≤20000000000) (hk0:k0≤20000000000) (da:a.fit n n) (ha:iB a k0∈I0):CD Tryz.prog 177 [mv a] X w0 M0 I0 (fun v M I=>if dt n (at2 a.q)=0 then (M0=M∧I0=I∧v= .tuple #[.slice none 0 0, .int .i64 14]) else XQc (aEE n a.q) n n (kb k0 n) M0 I0 v M I):=by
 obtain ⟨n1,n2⟩:=da.2.1
 refine uL (fun w hw=>Mem.xsml ha da (by omega) hw) (fun sa=>?_)
 have hC:=fun M0 I0 h1=>aGN (X:=X) (w0:=w0) (M0:=M0) (I0:=I0) (a:=a.raw) sa h1
 have e0:sqC a.raw=0:=by
  unfold sqC
  rw [if_pos da.ok,a.raw_rows,MX.raw_c0 da,da.1.1,if_pos rfl]
 rw [e0,aOK] at hC
 have lR:=da.1.1
 refine aX (φ:=aCJ a.raw) (Hv.xraw ha (by omega)) ?_
 refine aS Tryz.func177 rfl Tryz.ntmps177 rfl ?_
 repeat refine aB ?_
 refine dK rfl (hC _ _ aA) ?_
 repeat refine aB ?_
 refine dS (fun b5=>?_)
 repeat refine aB ?_
 rw [lR]
 refine aI .here ?_
 repeat refine aB ?_
 (refine bY rfl (aKQ (R:=n) (C:=n) (g:=238) (fs:=#[]) (cs:=#[]) (k0:=0) (by omega) (by omega) nU (fun M I _ i j hi hj=>by have:=bBA (X:=X) (w0:=w0) (M0:=M) (I0:=I) (i:=(i:Int)) (j:=(j:Int));rw [←bBC] at this;exact this)) rfl rfl ?_;rintro _ _ _ ⟨rfl,u,rfl,hu,hud,rfl⟩;refine aL ?_)
 repeat refine aB ?_
 refine cK (φ:=iB u k0) (Hv.xm (k:=0) aA (Nat.zero_le _)) ?_
 (refine aQ rfl (aSP da ⟨hud,⟨n1,n2⟩,n1,n2⟩ aA aA) ?_;rintro _ _ _ ⟨bo,rows0,rfl,hl0,hc0,hq0,rfl,rfl⟩;refine aL ?_)
 repeat refine aB ?_
 refine dS (fun b6=>?_)
 repeat refine aB ?_
 refine aFP (fun _ hw=>hw.freezeB .here) ?_
 have hB:mq rows0=aCB n a.q:=by
  unfold aCB
  refine Eq.trans hq0 ?_
  refine xR (R:=n) (C:=n+n) (fun i j hi hj=>?_)
  by_cases e:j < n
  ·rw [if_pos e,if_pos e]
  ·rw [if_neg e,if_neg e,hu,tF hi (by omega)]
 (repeat refine aG ?_);refine nQ 1 (M0) (aH (some ⟨b6,0,none⟩) [.slice (some ⟨bo,0,none⟩) n n]::aH (some ⟨b5,0,none⟩) [.int .i64 (n:Int)]::I0) [0,1,4,2,3,5] [0,0,1,0,0,0] (SubP.drop (lM SubP.refl)) aD mixed (by kernel_rfl) ?_
 repeat refine aB ?_
 have hRd:=fun I0 h=>aTJ (X:=X) (w0:=w0) (M0:= .blk bo (recs eM rows0) 70::(rows0.map fU++M0)) (I0:=I0) (bo:=bo) (R:=n) (C:=n+n) (n:=n) (k0:=k0) (rows:=rows0) (M1:=M0) hl0 (by omega) (by omega) hc0 (by omega) (by omega) h rfl
 (refine aQ rfl (hRd _ aA) ?_;rintro _ _ _ ⟨rows,pv,q,c,rfl,hl,hc,hred,hpv,rfl,rfl⟩;refine ⟨OkD.kY (SubP.drop (SubP.drop (lM SubP.refl))) aD,?_⟩)
 rw [hB] at hred
 have hiff:pv.length=n↔dt n (at2 a.q)≠0:=by
  have:=aPG (n:=n) (A:=a.q)
  rw [hred] at this
  exact this
 by_cases hd0:dt n (at2 a.q)=0
 ·simp only [if_pos hd0]
  have hlt:pv.length < n:=by
   rcases Nat.lt_or_ge pv.length n with h|h
   ·exact h
   ·exact absurd hd0 (hiff.1 (by omega))
  repeat refine aB ?_
  refine gH [2,3] (.inl rfl) rfl rfl rfl M0 I0 (SubP.drop (SubP.drop (lM SubP.refl))) aD ⟨rfl,rfl,rfl⟩
 ·simp only [if_neg hd0]
  have hlt:pv.length=n:=hiff.2 hd0
  repeat refine aB ?_
  refine yN (M':= .blk bo (recs eM rows) 70::(rows.map fU++M0)) (I':=allM rows (kb k0 n)::aH (some ⟨b6,0,none⟩) [.slice (some ⟨bo,0,none⟩) n n]::aH (some ⟨b5,0,none⟩) [.int .i64 (n:Int)]::I0) (SubP.drop SubP.refl) aD ?_
  refine vX (fun _ hw=>aPZ hw (List.Mem.head _)) ?_
  refine cK (φ:=bxX b6 (MR.x bo rows)) (by show Hv _ (aH _ [.slice (some ⟨bo,0,none⟩) (rows.map MR.l).length rows.length]);rw [List.length_map,hl];exact Hv.mem aA) ?_
  have xl:(MR.x bo rows).rows.length=n:=by show (rows.map MR.l).length=n;rw [List.length_map,hl]
  have xc:∀i:Nat,i < n→(gt (MR.x bo rows).rows (i:Int)).es.length=n+n:=fun i hi=>by
   have:gt (MR.x bo rows).rows (i:Int)=(gt rows (i:Int)).l:=aJB (by omega)
   rw [this];exact hc _ (bD (by omega))
  have hg:=fun M I (hI:∀φ∈bxX b6 (MR.x bo rows)::iB (MR.x bo rows) (kb k0 n)::allM rows (kb k0 n)::aH (some ⟨b6,0,none⟩) [.slice (some ⟨bo,0,none⟩) n n]::aH (some ⟨b5,0,none⟩) [.int .i64 (n:Int)]::I0,φ∈I) (i j:Nat) (hi:i < n) (hj:j < n)=>aJV (X:=X) (w0:=w0) (M0:=M) (I0:=I) (a:=MR.x bo rows) (p:=b6) (q:=b5) (k:=kb k0 n) (i:=i) (j:=j) (n:=n) (by omega) (by rw [xc i hi];omega) (by omega) (by omega) (hI _ aA) (hI _ aA) (hI _ aA)
  (refine aQ rfl (aKQ (R:=n) (C:=n) (g:=239) (fs:=#[]) (cs:=#[pb b6,pb b5]) (k0:=kb k0 n) (by omega) (by omega) (fun i j=>at2 (MR.x bo rows).q i (n+j)) hg) ?_;rintro _ _ _ ⟨rfl,x,rfl,hx,hd,rfl⟩;refine aL ?_)
  rw [q_x] at hx
  repeat refine aB ?_
  refine gH [2,3] (by first|exact .inl rfl|exact .inr rfl) rfl rfl rfl _ _ aF aD (⟨rfl,x,rfl,by unfold aEE;rw [hred];exact hx,hd,rfl⟩)
end
structure IL where
 p:Option Addr
 c:Nat
 xs:List Int
instance:Inhabited IL:=⟨⟨none,0,[]⟩⟩
abbrev eIL (r:IL):List Value:=[.slice r.p r.xs.length r.c]
abbrev ivL (r:IL):Value:= .slice r.p r.xs.length r.c
instance:Sized eIL 1:=⟨fun _=>rfl⟩
instance:Ones eIL:=⟨fun m u hu=>by simp only [eIL,List.mem_cons,List.not_mem_nil,or_false] at hu;subst hu;rfl⟩
/- ---------- IndexFunc, ContainsFunc of [][]int ---------- -/
section
variable {X:List Nat} {w0:World} {M0:List Ent} {I0:List aM}
end
theorem q_ext {x y:RL} (hl:x.es.length=y.es.length) (h:∀j:Nat,j < x.es.length→(gt x.es (j:Int)).q=(gt y.es (j:Int)).q):x.q=y.q:=by
 apply rJ
 ·simp [hl]
 ·intro t ht
  have ht':t < x.es.length:=by simpa using ht
  rw [iM ht',iM (by omega)]
  exact h t ht'
theorem q_at {x y:RL} (h:x.q=y.q) {j:Nat} (hj:j < x.es.length):(gt x.es (j:Int)).q=(gt y.es (j:Int)).q:=by
 have hl:x.es.length=y.es.length:=by have:=congrArg List.length h;simpa using this
 rw [←iM hj,←iM (by omega)]
 exact congrArg (fun l=>List.getD l j 0) h
section
variable {X:List Nat} {w0:World} {M0:List Ent} {I0:List aM}
theorem bCW {a b:MX} (hl:a.rows.length=b.rows.length) (h:∀j:Nat,j < a.rows.length→(gt a.rows (j:Int)).q=(gt b.rows (j:Int)).q):a.q=b.q:=by
 apply List.ext_getElem
 ·simp [hl]
 ·intro j h1 h2
  have hj:j < a.rows.length:=by simpa using h1
  have:=h j hj
  rw [dP hj,dP (by omega)] at this
  simpa using this
theorem bET {a b:MX} (h:a.q=b.q) {j:Nat} (hj:j < a.rows.length):(gt a.rows (j:Int)).q=(gt b.rows (j:Int)).q:=by
 have hl:a.rows.length=b.rows.length:=by have:=congrArg List.length h;simpa using this
 rw [←aCW hj,←aCW (by omega),h]
end
structure AllIL (rows:List IL) (X:List Nat) (w:World):Prop where
 go:∀r∈rows,Sl X w r.p (recs (eI .i64) r.xs)
abbrev allIL (rows:List IL):aM:=AllIL rows
instance (rows:List IL):Fx.Good (AllIL rows):=⟨fun X Y w w' h he hY=>⟨fun r hm=>Sl.carry (h.go r hm) he hY⟩⟩
abbrev bxI (b:Nat) (q:Option Addr) (n c:Nat):aM:=aH (some ⟨b,0,none⟩) [.slice q n c]
section
variable {X:List Nat} {w0:World} {M0:List Ent} {I0:List aM}
end
def kA:Mt:=[[((2:Int):Rat),((1:Int):Rat)],[((1:Int):Rat),((1:Int):Rat)]]
def kC:Mt:=[[((1:Int):Rat),((-1:Int):Rat)],[((-1:Int):Rat),((2:Int):Rat)]]
section
variable {X:List Nat} {w0:World} {M0:List Ent} {I0:List aM}
end
end Go.Proofs.YtmmmfphealhapaaGreat
namespace Go.Fx
open Go.ChangeShapes Go.WideShapes Go.RowKit Go.ChangeAt
section
variable {H:Type} {enc:TypeId × Value→H} {P:Program} {W:World}
theorem aKK {sz:Nat}:∀(rows:List (List Value)) (k:Nat) (v:Value),(∀r∈rows,r.length=sz)→rows.flatten[k]?=some v→∃i row,rows[i]?=some row∧i*sz≤k∧row[k - i*sz]?=some v
 |[],k,v,_,h=>by simp at h
 |r::rows,k,v,hr,h=>by
  rw [List.flatten_cons] at h
  have hl:=hr r (by simp)
  by_cases hk:k < r.length
  ·rw [List.getElem?_append_left hk] at h
   exact ⟨0,r,by simp,by omega,by simpa using h⟩
  ·rw [List.getElem?_append_right (by omega)] at h
   obtain ⟨i,row,h1,h2,h3⟩:=aKK rows _ v (fun r' hr'=>hr r' (by simp [hr'])) h
   refine ⟨i+1,row,by simpa using h1,by rw [Nat.add_mul];omega,?_⟩
   rw [←h3]
   congr 1
   rw [Nat.add_mul];omega
theorem aTB {base fuel:Nat} {t e:TypeId} {v:Value} {x:DataW H × List MemPlace} (ht:P.underlying t=some (.slice e)) (hv:Value.okWide P W .any base t v) (h:DataW.trod enc P W 0 (fun _=>true) true fuel t v.cells.toList=some x):
  ∃(a:Option Addr) (len c:Nat),v= .slice a len c∧(len:Int)≤9223372036854775807∧len≤c∧(Ok a∨(a=none∧len=0∧c=0))∧
   ∃rows:List (List Value),rows.length=len∧(∀r∈rows,r.length=P.cellsOf e∧∃n y,DataW.trod enc P W 0 (fun _=>true) true n e r=some y)∧Sl [] W a rows.flatten:=by
 obtain ⟨a,len,c,rfl⟩:=okWide_slice ht hv
 obtain ⟨h1,h2,h3⟩:=aLW ht hv
 refine ⟨a,len,c,rfl,h1,h2,h3,?_⟩
 rcases DataW.trod_slice ht h with ⟨hcs,_⟩|⟨a',len',cap',elems,rest,n,_,hcs,_,_,_,_,hlen,hel,_,_⟩
 ·simp [Value.cells] at hcs
  obtain ⟨rfl,rfl,rfl⟩:=hcs
  exact ⟨[],rfl,by simp,Sl.nil _ _ _⟩
 ·simp [Value.cells] at hcs
  obtain ⟨rfl,rfl,rfl⟩:=hcs
  have hok:Ok (some a'):=h3.resolve_right (by simp)
  have each:∀i,i < len→∃cs y,W.cells? 0 (a'.add (i*P.cellsOf e)) (P.cellsOf e)=some cs∧DataW.trod enc P W 0 (fun _=>true) true n e cs=some y:=fun i hi=>by
   have:=hel i hi
   rw [List.getElem?_eq_getElem (by omega),Option.bind_eq_some_iff] at this
   obtain ⟨cs,h1,h2⟩:=this
   exact ⟨cs,_,h1,h2⟩
  refine ⟨(List.range len).map (fun i=>(W.cells? 0 (a'.add (i*P.cellsOf e)) (P.cellsOf e)).getD []),by simp,?_,?_⟩
  ·intro r hr
   obtain ⟨i,hi,rfl⟩:=List.mem_map.1 hr
   obtain ⟨cs,y,h4,h5⟩:=each i (by simpa using hi)
   rw [h4]
   exact ⟨(World.cells?_some h4).2.1,n,y,h5⟩
  ·intro j v hj
   have hall:∀r∈(List.range len).map (fun i=>(W.cells? 0 (a'.add (i*P.cellsOf e)) (P.cellsOf e)).getD []),r.length=P.cellsOf e:=by
    intro r hr
    obtain ⟨i,hi,rfl⟩:=List.mem_map.1 hr
    obtain ⟨cs,y,h4,h5⟩:=each i (by simpa using hi)
    rw [h4]
    exact (World.cells?_some h4).2.1
   obtain ⟨i,row,h4,h5,h6⟩:=aKK _ j v hall hj
   rw [List.getElem?_map] at h4
   obtain ⟨i',hi',rfl⟩:=Option.map_eq_some_iff.1 h4
   have hii:i'=i∧i < len:=by
    obtain ⟨q1,q2⟩:=List.getElem?_eq_some_iff.1 hi'
    rw [List.getElem_range] at q2
    exact ⟨q2.symm,by simpa using q1⟩
   obtain ⟨rfl,hil⟩:=hii
   obtain ⟨cs,y,h7,h8⟩:=each i' hil
   rw [h7] at h6
   simp only [Option.getD_some] at h6
   obtain ⟨_,hl,hc⟩:=World.cells?_some h7
   have hlt:j - i'*P.cellsOf e < P.cellsOf e:=by
    have:=(List.getElem?_eq_some_iff.1 h6).1
    omega
   have hcell:=hc _ hlt
   rw [h6] at hcell
   refine ⟨hok,by simp,?_⟩
   obtain ⟨b,o,eq⟩:=hok.cases
   injection eq with eq
   subst eq
   rw [add_lit,add_lit] at hcell
   rw [←hcell]
   simp only [pt,bl,of,Option.getD_some]
   congr 2
   omega
theorem aKW {α:Type} {en:α→List Value} {Pm:α→Prop} {base:Nat} {t e:TypeId} {v:Value} {d:DataW H} {p:List MemPlace} (ht:P.underlying t=some (.slice e)) (hdec:∀(r:List Value) n y,r.length=P.cellsOf e→DataW.trod enc P W 0 (fun _=>true) true n e r=some y→∃m,r=en m∧Pm m)
  (hv:Value.okWide P W .any base t v) (h:DataW.Trod enc P W 0 (fun _=>true) true t v d p):
  ∃(a:Option Addr) (ms:List α) (c:Nat),v= .slice a ms.length c∧Sl [] W a (recs en ms)∧(∀m∈ms,Pm m)∧(ms.length:Int)≤9223372036854775807∧ms.length≤c∧(Ok a∨(a=none∧ms.length=0∧c=0)):=by
 obtain ⟨fuel,hf⟩:=h
 obtain ⟨a,len,c,rfl,h1,h2,h3,rows,hl,hr,hs⟩:=aTB ht hv hf
 have key:∀rows:List (List Value),(∀r∈rows,r.length=P.cellsOf e∧∃n y,DataW.trod enc P W 0 (fun _=>true) true n e r=some y)→∃ms:List α,rows=ms.map en∧∀m∈ms,Pm m:=by
  intro rows
  induction rows with
  |nil=>intro _;exact ⟨[],rfl,by simp⟩
  |cons r rows ih=>
   intro hr
   obtain ⟨hrl,n,y,hy⟩:=hr r (by simp)
   obtain ⟨m,rfl,hm⟩:=hdec r n y hrl hy
   obtain ⟨ms,rfl,hms⟩:=ih (fun r' hr'=>hr r' (by simp [hr']))
   exact ⟨m::ms,rfl,fun m' hm'=>by
    rcases List.mem_cons.1 hm' with rfl|hm'
    ·exact hm
    ·exact hms m' hm'⟩
 obtain ⟨ms,rfl,hms⟩:=key rows hr
 have hlen:ms.length=len:=by simpa using hl
 subst hlen
 refine ⟨a,ms,c,rfl,?_,hms,h1,h2,h3⟩
 rw [←List.flatMap_def] at hs
 exact hs
theorem aZD {t:TypeId} {k:IntKind} {n:Nat} {cs:List Value} {y:DataW H × List MemPlace} (ht:P.underlying t=some (.int k)) (h:DataW.trod enc P W 0 (fun _=>true) true n t cs=some y):∃x:Int,cs=[.int k x]∧(Lit.int k x).wf=true:=by
 obtain ⟨m,h1,_,h2⟩:=DataW.trod_int ht h
 exact ⟨m,h1,h2⟩
theorem aWT {t:TypeId} {k:IntKind} {m n:Nat} {cs:List Value} {y:DataW H × List MemPlace} {fs:Array Field} (ht:P.underlying t=some (.struct fs)) (hf:fs.toList.map (fun (f:Field)=>(f.offset,P.cellsOf f.type))=(List.range m).map (fun i=>(i,1))) (hk:∀f∈fs.toList,P.underlying f.type=some (.int k)) (hl:cs.length=m)
  (h:DataW.trod enc P W 0 (fun _=>true) true n t cs=some y):∃xs:List Int,cs=xs.map (Value.int k)∧xs.length=m∧∀x∈xs,(Lit.int k x).wf=true:=by
 obtain ⟨zs,n',rfl,_,_,hzl,hz⟩:=DataW.trod_struct ht h
 have each:∀i,i < m→∃x:Int,cs[i]?=some (.int k x)∧(Lit.int k x).wf=true:=fun i hi=>by
  have hsz:fs.toList.length=m:=by have:=congrArg List.length hf;simpa using this
  obtain ⟨f,hfi⟩:∃f,fs.toList[i]?=some f:=⟨_,List.getElem?_eq_getElem (by omega)⟩
  have hoff:(f.offset,P.cellsOf f.type)=(i,1):=by
   have:(fs.toList.map (fun f=>(f.offset,P.cellsOf f.type)))[i]?=some (f.offset,P.cellsOf f.type):=by rw [List.getElem?_map,hfi];rfl
   rw [hf,List.getElem?_map,List.getElem?_range hi] at this
   simpa using this.symm
  injection hoff with ho hc
  have hf2:fs[i]?=some f:=by simpa using hfi
  have:=hz i f hf2
  rw [List.getElem?_eq_getElem (by rw [hzl];exact (Array.getElem?_eq_some_iff.1 hf2).1),ho,hc] at this
  obtain ⟨x,hx,hw⟩:=aZD (hk f (List.mem_of_getElem? hfi)) this
  refine ⟨x,?_,hw⟩
  have:((cs.drop i).take 1)[0]?=some (.int k x):=by rw [hx];rfl
  rw [List.getElem?_take,if_pos (by omega),List.getElem?_drop] at this
  simpa using this
 refine ⟨cs.map (fun v=>match v with| .int _ x=>x|_=>0),?_,by simpa using hl,?_⟩
 ·apply List.ext_getElem
  ·simp
  ·intro i h1 h2
   obtain ⟨x,hx,_⟩:=each i (by omega)
   have:cs[i]= .int k x:=by
    have:=(List.getElem?_eq_some_iff.1 hx).2
    exact this
   simp [this]
 ·intro x hx
  obtain ⟨v,hv,rfl⟩:=List.mem_map.1 hx
  obtain ⟨i,hi,rfl⟩:=List.mem_iff_getElem.1 hv
  obtain ⟨y,hy,hw⟩:=each i (by omega)
  have:cs[i]= .int k y:=(List.getElem?_eq_some_iff.1 hy).2
  rw [this]
  exact hw
theorem Mem.startS {W:World} {I:List aM} {a:Option Addr} {cs:List Value} (h:Mem [] W [] I W) (hs:Sl [] W a cs):Mem [] W [] (aH a cs::I) W:=h.add (φ:=aH a cs) ⟨hs⟩
end
end Go.Fx
namespace Go.Proofs.YtmmmfphealhapaaGreat
open Go Go.Fx
open Go.ChangeShapes Go.WideShapes Go.RowKit Go.ChangeAt
section
variable {H:Type} {enc:TypeId × Value→H} {P:Program} {W:World}
theorem aUX {tr t0 t1:TypeId} {fr:Array Field} {m k n:Nat} {cs:List Value} {y:DataW H × List MemPlace} (hr:P.underlying tr=some (.struct fr)) (hfr:fr.toList.map (fun f=>(f.offset,f.type))=[(0,t0),(m,t1)]) (cm:P.cellsOf t0=m) (ck:P.cellsOf t1=k) (c5:P.cellsOf tr=m+k) (h:DataW.trod enc P W 0 (fun _=>true) true n tr cs=some y):
  cs.length=m+k∧∃n' z0 z1,DataW.trod enc P W 0 (fun _=>true) true n' t0 (cs.take m)=some z0∧DataW.trod enc P W 0 (fun _=>true) true n' t1 (cs.drop m)=some z1:=by
 obtain ⟨zs,n',rfl,rfl,hl,hzl,hz⟩:=DataW.trod_struct hr h
 have hsz:fr.toList.length=2:=by have:=congrArg List.length hfr;simpa using this
 obtain ⟨f0,f1,hfs⟩:∃f0 f1,fr.toList=[f0,f1]:=by
  match hh:fr.toList,hsz with
  |[a,b],_=>exact ⟨a,b,rfl⟩
 rw [hfs] at hfr
 simp only [List.map_cons,List.map_nil,List.cons.injEq,Prod.mk.injEq,and_true] at hfr
 obtain ⟨⟨o0,e0⟩,o1,e1⟩:=hfr
 rw [c5] at hl
 have hg0:fr[0]?=some f0:=by rw [←Array.getElem?_toList,hfs];rfl
 have hg1:fr[1]?=some f1:=by rw [←Array.getElem?_toList,hfs];rfl
 have h0:=hz 0 f0 hg0
 have h1:=hz 1 f1 hg1
 rw [o0,e0,cm] at h0
 rw [o1,e1,ck] at h1
 have hz2:zs.length=2:=by rw [hzl];simpa using hsz
 obtain ⟨z0,z1,rfl⟩:∃z0 z1,zs=[z0,z1]:=by
  match zs,hz2 with
  |[a,b],_=>exact ⟨a,b,rfl⟩
 simp only [List.drop_zero,List.getElem?_cons_zero,List.getElem?_cons_succ] at h0 h1
 rw [List.take_of_length_le (l:=cs.drop m) (by simp;omega)] at h1
 exact ⟨hl,n',z0,z1,h0,h1⟩
end
section
variable {H:Type} {enc:TypeId × Value→H} {W:World}
end
end Go.Proofs.YtmmmfphealhapaaGreat
namespace Go.Proofs.YtmmmfphealhapaaGreat
open Go Go.Fx
structure ZE where
 z:Int
 p:Option Addr
 c:Nat
instance ZE.inh:Inhabited ZE:=⟨⟨0,none,0⟩⟩
abbrev eN (e:ZE):List Value:=[.bool (B (e.z < 0)), .slice e.p (gr e.z.natAbs).length e.c]
abbrev nv (e:ZE):Value:= .agg #[.bool (B (e.z < 0)), .slice e.p (gr e.z.natAbs).length e.c]
abbrev zN:List Value:=[.bool false, .slice none 0 0]
instance ZE.szd:Sized eN 2:=⟨fun _=>rfl⟩
instance ZE.ones:Ones eN:=⟨fun m u hu=>by
 simp only [eN,List.mem_cons,List.not_mem_nil,or_false] at hu
 rcases hu with rfl|rfl <;>rfl⟩
abbrev jD (e:ZE) (k:Nat):aM:=gW (nv e) e.z k
def wN:Option ZE→List Value
 |none=>zN
 |some e=>eN e
instance wN.szd:Sized wN 2:=⟨fun o=>by cases o <;>rfl⟩
instance wN.ones:Ones wN:=⟨fun m u hu=>by
 rcases m with _|e
 ·simp only [wN,zN,List.mem_cons,List.not_mem_nil,or_false] at hu
  rcases hu with rfl|rfl <;>rfl
 ·exact ZE.ones.one e u hu⟩
structure AllO (os:List (Option ZE)) (k:Nat) (X:List Nat) (w:World):Prop where
 go:∀e:ZE,some e∈os→IsI (nv e) e.z k X w
abbrev oV (os:List (Option ZE)) (k:Nat):aM:=AllO os k
instance (os:List (Option ZE)) (k:Nat):Fx.Good (AllO os k):=⟨fun X Y w w' h he hY=>⟨fun e hm=>Fx.Good.go (φ:=IsI _ _ _) X Y w w' (h.go e hm) he hY⟩⟩
theorem Hv.oNil {I:List aM} {n k:Nat}:Hv I (oV (List.replicate n none) k):=⟨fun X w _=>⟨fun e he=>by cases (List.mem_replicate.1 he).2⟩⟩
theorem Hv.oSet {I:List aM} {os:List (Option ZE)} {g:ZE} {k:Nat} {i:Int} (h:oV os k∈I) (hg:jD g k∈I):Hv I (oV (st os i (some g)) k):=⟨fun X w hw=>⟨fun e he=>by
 rcases List.mem_or_eq_of_mem_set he with h1|h1
 ·exact (hw _ h:AllO os k X w).go e h1
 ·cases h1
  exact hw _ hg⟩⟩
theorem Hv.oAt {I:List aM} {os:List (Option ZE)} {g:ZE} {k:Nat} {i:Int} (h:oV os k∈I) (hi:0≤i∧i < os.length) (he:gt os i=some g):Hv I (jD g k):=⟨fun X w hw=>(hw _ h:AllO os k X w).go g (by rw [←he];exact bD hi)⟩
theorem AtsZ.o0 {α:Type} [Inhabited α] {enc:α→List Value} {sz:Nat} [hz:Sized enc sz] {ms:List α} {i:Int} (hi:0≤i∧i < ms.length):AtsZ (recs enc ms) (0+i.toNat*sz) (enc (gt ms i)) sz:=by rw [Nat.zero_add];exact AtsZ.r hi
theorem StAts.o0 {α:Type} {enc:α→List Value} {sz:Nat} [hz:Sized enc sz] {ms:List α} {i:Int} {vs:List Value} (mm:α) (hi:0≤i∧i < ms.length) (hv:vs=enc mm):StAts (recs enc ms) (0+i.toNat*sz) vs (recs enc (st ms i mm)):=by rw [Nat.zero_add];exact StAts.r mm hi hv
theorem oW {α:Type} [Inhabited α] {os:List α} {g:α} {i j:Nat} (hi:i < os.length) (hj:j < os.length):gt (st os (i:Int) g) (j:Int)=if j=i then g else gt os (j:Int):=by
 rw [dP (by simp [st];omega),dP hj]
 simp only [st,Int.toNat_natCast,List.getElem_set]
 by_cases h:i=j
 ·rw [if_pos h,if_pos h.symm]
 ·rw [if_neg h,if_neg (fun e=>h e.symm)]
theorem nY {α:Type} {os:List α} {g:α} {i:Int}:(st os i g).length=os.length:=by simp [st]
theorem os3 {α:Type} [Inhabited α] {os:List α} (h:os.length=3):os=[gt os 0,gt os 1,gt os 2]:=by
 match os,h with
 |[a,b,c],_=>rfl
theorem Hv.nUp {I:List aM} {e:ZE} {k m:Nat} (h:Hv I (jD e k)) (hk:k≤m):Hv I (jD e m):=⟨fun X w hw=>(h.go X w hw).mono hk⟩
def NQ (z:Int) (k:Nat) (M0:List Ent) (I0:List aM) (v:Value) (M:List Ent) (I:List aM):Prop:=M0=M∧∃e:ZE,v=nv e∧e.z=z∧I=jD e k::I0
structure TZ where
 x:ZE
 y:ZE
 z:ZE
instance TZ.inh:Inhabited TZ:=⟨⟨default,default,default⟩⟩
def TZ.l (p:TZ):List ZE:=[p.x,p.y,p.z]
abbrev lW (p:TZ):List Value:=recs eN [p.x,p.y,p.z]
abbrev dH (p:TZ):Value:= .agg (recs eN [p.x,p.y,p.z]).toArray
instance TZ.szd:Sized lW 6:=⟨fun _=>rfl⟩
instance TZ.ones:Ones lW:=⟨fun m u hu=>uD _ u hu⟩
def TZ.t (p:TZ):T3 Int:=⟨p.x.z,p.y.z,p.z.z⟩
structure IsTZ (p:TZ) (k:Nat) (X:List Nat) (w:World):Prop where
 x:IsI (nv p.x) p.x.z k X w
 y:IsI (nv p.y) p.y.z k X w
 z:IsI (nv p.z) p.z.z k X w
abbrev aY (p:TZ) (k:Nat):aM:=IsTZ p k
instance (p:TZ) (k:Nat):Fx.Good (IsTZ p k):=⟨fun X Y w w' h he hY=>⟨Fx.Good.go (φ:=IsI _ _ _) X Y w w' h.x he hY,Fx.Good.go (φ:=IsI _ _ _) X Y w w' h.y he hY,Fx.Good.go (φ:=IsI _ _ _) X Y w w' h.z he hY⟩⟩
theorem Hv.zx {I:List aM} {p:TZ} {k:Nat} (h:aY p k∈I):Hv I (jD p.x k):=⟨fun X w hw=>(hw _ h:IsTZ p k X w).x⟩
theorem Hv.zy {I:List aM} {p:TZ} {k:Nat} (h:aY p k∈I):Hv I (jD p.y k):=⟨fun X w hw=>(hw _ h:IsTZ p k X w).y⟩
theorem Hv.zz {I:List aM} {p:TZ} {k:Nat} (h:aY p k∈I):Hv I (jD p.z k):=⟨fun X w hw=>(hw _ h:IsTZ p k X w).z⟩
theorem Hv.mkZ {I:List aM} {a b c:ZE} {k:Nat} (ha:jD a k∈I) (hb:jD b k∈I) (hc:jD c k∈I):Hv I (aY ⟨a,b,c⟩ k):=⟨fun X w hw=>⟨hw _ ha,hw _ hb,hw _ hc⟩⟩
theorem Hv.zAt {I:List aM} {p:TZ} {k:Nat} {i:Int} (h:aY p k∈I) (hi:0≤i∧i < 3):Hv I (jD (gt [p.x,p.y,p.z] i) k):=⟨fun X w hw=>by
 have h1:IsTZ p k X w:=hw _ h
 obtain rfl|rfl|rfl:i=0∨i=1∨i=2:=by omega
 ·exact h1.x
 ·exact h1.y
 ·exact h1.z⟩
def VQ (q:T3 Int) (k:Nat) (M0:List Ent) (I0:List aM) (v:Value) (M:List Ent) (I:List aM):Prop:=M0=M∧∃p:TZ,v=dH p∧p.t=q∧I=aY p k::I0
def sI (f:Nat→Int):Nat→Int
 |0=>0
 |n+1=>sI f n+f n
section
variable {X:List Nat} {w0:World} {M0:List Ent} {I0:List aM}
theorem CD.nq {f:FuncId} {vs:List Value} {z:Int} {k:Nat} (h:CD Tryz.prog f vs X w0 M0 I0 (fun v M I=>M0=M∧I=gW v z k::I0)):CD Tryz.prog f vs X w0 M0 I0 (NQ z k M0 I0):=
 h.post (fun v M I w h hw=>by
  obtain ⟨rfl,rfl⟩:=h
  have hi:IsI v z k (muts M0) w:=(hw.imm _ (List.Mem.head _)).2
  obtain ⟨q,c,rfl,_⟩:=hi.ex
  exact ⟨M0,_,⟨rfl,⟨z,q,c⟩,rfl,rfl,rfl⟩,hw⟩)
theorem aDM {k c:Nat} (h:k+1≤c):2 ^ k+2 ^ k≤2 ^ c:=Nat.le_trans (by rw [Nat.pow_succ];omega) (Nat.pow_le_pow_right (by decide) h:2 ^ (k+1)≤2 ^ c)
theorem NMul {a b:ZE} {k m:Nat} (hk:k+m≤1000000000000) (ha:jD a k∈I0) (hb:jD b m∈I0):CD Tryz.prog 59 [nv a,nv b] X w0 M0 I0 (NQ (a.z*b.z) (k+m) M0 I0):=CD.nq (tL hk ha hb)
theorem NAdd {a b:ZE} {k c:Nat} (hc:c≤1000000000000) (hk:k+1≤c) (ha:jD a k∈I0) (hb:jD b k∈I0):CD Tryz.prog 168 [nv a,nv b] X w0 M0 I0 (NQ (a.z+b.z) c M0 I0):=CD.nq (aVB (by omega) (by omega) hc (aDM hk) ha hb)
theorem NOf {x:Int} (hx: -9223372036854775808≤x∧x≤9223372036854775807):CD Tryz.prog 58 [.int .i64 x] X w0 M0 I0 (NQ x 63 M0 I0):=CD.nq (aFA hx)
theorem bDX {u v:Value} {y z:Int} {k m c:Nat} (hk:k≤1000000000000) (hm:m≤1000000000000) (hc0:c≤1000000000000) (hs:2 ^ k+2 ^ m≤2 ^ c) (hu:gW u y k∈I0) (hv:gW v z m∈I0):CD Tryz.prog 193 [u,v] X w0 M0 I0 (fun v M I=>M0=M∧I=gW v (y - z) c::I0):=by
 refine bZ hu (fun q cq e hc hy=>?_)
 subst e
 refine bZ (List.Mem.tail _ hv) (fun q' cq' e hc' hz=>?_)
 subst e
 have hl:=fT hy (by omega)
 have hl':=fT hz (by omega)
 unfold iv
 refine aN Tryz.func193 rfl Tryz.ntmps193 rfl ?_
 refine iH ?_
 refine gU rfl (fun b=>?_)
 refine gU rfl (fun b2=>?_)
 refine dS (fun b3=>?_)
 repeat refine aB ?_
 (repeat refine aG ?_);refine bA 3 [0,1,2,4,5,6,7,3,8,9,10] [3,2,2,3,3,2,2,0,0,0,0] mixed (by kernel_rfl) ?_
 repeat refine aB ?_
 refine dK rfl (iP (c:=cq) hy (by omega) aA) ?_
 repeat refine aB ?_
 refine dK rfl (iP (c:=cq') hz (by omega) aA) ?_
 repeat refine aB ?_
 have hyz:y.natAbs+z.natAbs≤2 ^ c:=Nat.le_trans (Nat.add_le_add hy hz) hs
 have hS:=fun M0 I0=>aVL (X:=X) (w0:=w0) (M0:=M0) (I0:=I0) (p:=q) (q:=q') (cp:=cq) (cq:=cq') (pn:=y < 0) (qn:=¬(z < 0)) (k:=c) (by omega) (by omega) hyz hc0
 rw [qU,aOR,←Int.sub_eq_add_neg] at hS
 (refine aQ rfl (hS _ _ aA aA) ?_;rintro _ _ _ ⟨rfl,rfl⟩;refine aL ?_;refine aW (List.Mem.head _) (fun q2 c2 e__ hc2 hz2=>?_);subst e__)
 unfold iv
 repeat refine aB ?_
 refine aT (cs:=[.bool (B (y - z < 0)), .slice q2 (gr (y - z).natAbs).length c2]) (.inl rfl) rfl rfl aA rfl _ _ aF aD ⟨rfl,rfl⟩
theorem NSub {a b:ZE} {k c:Nat} (hc:c≤1000000000000) (hk:k+1≤c) (ha:jD a k∈I0) (hb:jD b k∈I0):CD Tryz.prog 193 [nv a,nv b] X w0 M0 I0 (NQ (a.z - b.z) c M0 I0):=CD.nq (bDX (by omega) (by omega) hc (aDM hk) ha hb)
theorem aZL {q:Option Addr} {es:List ZE} {n c u:Nat} (hk:63≤u) (hk2:u+n≤400000000000) (hl:es.length=n) (hq:aH q (recs eN es)∈I0) (he:∀e∈es,jD e u∈I0):
  CD Tryz.prog 204 [.slice q n c] X w0 M0 I0 (NQ (sI (fun t=>(gt es (t:Int)).z) n) (u+n) M0 I0):=by
 have hO:=fun M0 I0=>NOf (X:=X) (w0:=w0) (M0:=M0) (I0:=I0) (x:=0) (by decide)
 refine aX (φ:=aH q (recs eN es)) (Hv.mem hq) ?_
 refine aS Tryz.func204 rfl Tryz.ntmps204 rfl ?_
 refine iH ?_
 refine dS (fun b2=>?_)
 repeat refine aB ?_
 (refine aQ rfl (hO _ _) ?_;rintro _ _ _ ⟨rfl,e0,rfl,he0,rfl⟩;refine aL ?_)
 refine dS (fun b3=>?_)
 repeat refine aB ?_
 refine bH (φ:=jD e0 (u+0)) (Hv.nUp (k:=63) (Hv.mem aA) (by omega)) ?_
 refine lV [2,3,7,8] rfl (fun k G M I=>∃(i:Nat) (s:ZE),i≤n∧k=n - i∧s.z=sI (fun t=>(gt es (t:Int)).z) i∧G=[(9, .int .i64 i)]∧M= .blk b3 (eN s) 42:: .blk b2 zN 42::M0∧I=jD s (u+i)::aH q (recs eN es)::I0) (n) (⟨0,e0,by omega,rfl,he0,rfl,rfl,rfl⟩) ?_
 rintro kk G M I ⟨i,s,hi,rfl,hs,rfl,rfl,rfl⟩
 by_cases hii:i < n
 ·have hmem:=bD (ms:=es) (i:=(i:Int)) (by omega)
  have hf:=he _ hmem
  obtain ⟨x,hx⟩:∃x,gt es (i:Int)=x:=⟨_,rfl⟩
  rw [hx] at hf
  have hA:=fun M0 I0 h1 h2=>NAdd (X:=X) (w0:=w0) (M0:=M0) (I0:=I0) (a:=s) (b:=x) (k:=u+i) (c:=u+(i+1)) (by omega) (by omega) h1 h2
  refine bH (φ:=jD x (u+i)) (Hv.nUp (k:=u) (Hv.mem (List.mem_cons_of_mem _ (List.mem_cons_of_mem _ hf))) (by omega)) ?_
  repeat refine aB ?_
  rw [hx]
  refine dS (fun b5=>?_)
  repeat refine aB ?_
  (refine aQ rfl (hA _ _ aA aA) ?_;rintro _ _ _ ⟨rfl,g,rfl,hg,rfl⟩;refine aL ?_)
  repeat refine aB ?_
  refine gJ (n - (i+1)) (⟨i+1,g,by omega,rfl,by rw [hg,hs];show _+_=sI _ i+(gt es (i:Int)).z;rw [hx],rfl,rfl,rfl⟩)
 ·obtain rfl:i=n:=by omega
  repeat refine aB ?_
  refine aT (cs:=eN s) (.inl rfl) rfl rfl aA rfl M0 (jD s (u+i)::I0) aF aD ⟨rfl,s,rfl,hs,rfl⟩
theorem aQJ {p q:TZ} {k m:Nat} (hk:63≤k+m) (hk2:k+m≤100000000000) (hp:aY p k∈I0) (hq:aY q m∈I0):CD Tryz.prog 131 [dH p,dH q] X w0 M0 I0 (NQ (p.t.dot q.t) (k+m+3) M0 I0):=by
 have hM:=fun (a b:ZE) M0 I0 h1 h2=>NMul (X:=X) (w0:=w0) (M0:=M0) (I0:=I0) (a:=a) (b:=b) (k:=k) (m:=m) (by omega) h1 h2
 have hS:=fun (b:Nat) (x y z:ZE) M0 I0 h1 h2=>aZL (X:=X) (w0:=w0) (M0:=M0) (I0:=I0) (q:=some ⟨b,0,none⟩) (es:=[x,y,z]) (n:=3) (c:=3) (u:=k+m) hk (by omega) rfl h1 h2
 refine aX (φ:=jD p.x k) (Hv.zx hp) (aX (φ:=jD p.y k) (Hv.zy (List.mem_cons_of_mem _ hp)) (aX (φ:=jD p.z k) (Hv.zz (List.mem_cons_of_mem _ (List.mem_cons_of_mem _ hp))) ?_))
 refine aX (φ:=jD q.x m) (Hv.zx (k:=m) (List.mem_cons_of_mem _ (List.mem_cons_of_mem _ (List.mem_cons_of_mem _ hq)))) (aX (φ:=jD q.y m) (Hv.zy (k:=m) (List.mem_cons_of_mem _ (List.mem_cons_of_mem _ (List.mem_cons_of_mem _ (List.mem_cons_of_mem _ hq))))) (aX (φ:=jD q.z m) (Hv.zz (k:=m) (List.mem_cons_of_mem _ (List.mem_cons_of_mem _ (List.mem_cons_of_mem _ (List.mem_cons_of_mem _ (List.mem_cons_of_mem _ hq)))))) ?_))
 refine aN Tryz.func131 rfl Tryz.ntmps131 rfl ?_
 refine iH ?_
 refine gU rfl (fun b2=>?_)
 refine aI (cs:=lW p) .here ?_
 refine gU rfl (fun b3=>?_)
 refine aI (cs:=lW q) .here ?_
 refine dS (fun b4=>?_)
 repeat refine aB ?_
 refine nJ (fun G M I=>∃(g:ZE),g.z=p.t.dot q.t∧G=[(4, .pointer (some ⟨b4,0,none⟩))]∧M= .blk b4 (eN g) 42::M0∧I=jD g (k+m+3)::I0) ?_ ?_
 ·(repeat refine aG ?_);refine qQ (M0) (aH (some ⟨b3,0,none⟩) (lW q)::aH (some ⟨b2,0,none⟩) (lW p)::I0) [0,1,2,3,5,6,7,8,10,11,12,13,4,9,14,15,16,17] [5,4,5,4,5,4,5,4,5,4,5,4,0,0,0,0,0,0] mixed ?_
  repeat refine aB ?_
  (refine aQ rfl (hM p.x q.x _ _ aA aA) ?_;rintro _ _ _ ⟨rfl,g0,rfl,hg0,rfl⟩;refine aL ?_)
  (refine aQ rfl (hM p.y q.y _ _ aA aA) ?_;rintro _ _ _ ⟨rfl,g1,rfl,hg1,rfl⟩;refine aL ?_)
  (refine aQ rfl (hM p.z q.z _ _ aA aA) ?_;rintro _ _ _ ⟨rfl,g2,rfl,hg2,rfl⟩;refine aL ?_)
  refine gX (cs:=recs eN [g0,g1,g2]) ([nv g0,nv g1,nv g2]) rfl (fun b=>?_)
  refine aI (cs:=recs eN [g0,g1,g2]) .here ?_
  (refine bY rfl (hS b g0 g1 g2 _ _ aA (fun e he=>by
   simp only [List.mem_cons,List.not_mem_nil,or_false] at he
   rcases he with rfl|rfl|rfl <;>simp)) rfl rfl ?_;rintro _ _ _ ⟨rfl,g,rfl,hg,rfl⟩;refine aL ?_)
  repeat refine aB ?_
  refine yA ⟨g,by rw [hg];show 0+g0.z+g1.z+g2.z=p.x.z*q.x.z+p.y.z*q.y.z+p.z.z*q.z.z;rw [hg0,hg1,hg2,Int.zero_add],rfl,rfl,rfl⟩
 rintro G M I ⟨g,hg,rfl,rfl,rfl⟩
 repeat refine aB ?_
 refine aT (cs:=eN g) (.inl rfl) rfl rfl aA rfl M0 (jD g (k+m+3)::I0) aF aD ⟨rfl,g,rfl,hg,rfl⟩
end
end Go.Proofs.YtmmmfphealhapaaGreat

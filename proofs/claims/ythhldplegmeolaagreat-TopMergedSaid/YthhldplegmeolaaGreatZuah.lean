/- integer: times, whose result is owned The symbolic heap, continued: results that lie in ce -/
import Derived.Test.YthhldplegmeolaaGreatZuag
import Derived.Test.YthhldplegmeolaaGreatZuaf
import Derived.Test.YthhldplegmeolaaGreatZuae
set_option linter.unusedSimpArgs false
set_option linter.unusedVariables false
set_option maxRecDepth 100000
set_option maxHeartbeats 4000000
namespace Go.Proofs.YthhldplegmeolaaGreat
open Go Go.Fx
theorem aOE {w:World} {base b:Nat} {e:TypeId} {sz m c:Nat} {cs:List Value} (h:Blk w b cs e) (hb:base≤b) (hl:cs.length=c*sz) (hmc:m≤c) (hm:c≤9223372036854775807):w.ownsRow base e sz (.slice (some ⟨b,0,none⟩) m c) m (cs.take (m*sz)):=
 ⟨by rw [List.length_take,hl,Nat.min_eq_left (Nat.mul_le_mul_right _ hmc)], .inr ⟨b,c,cs.toArray,rfl,hb,h,hmc,by simpa [maxLen] using hm,by simpa using hl,by simp⟩⟩
theorem _root_.Go.Fx.Mem.toRowT {X:List Nat} {w0 w:World} {M M':List Ent} {I:List aN} {b m c:Nat} {cs:List Value} {e:TypeId} (sz:Nat) (h:Mem X w0 M I w) (hr:Rep (.blk b cs e) (.row (some ⟨b,0,none⟩) m c (cs.take (m*sz)) e sz) M M') (hl:cs.length=c*sz) (hmc:m≤c) (hm:c≤9223372036854775807):Mem X w0 M' I w:=by
 have hb:Blk w b cs e:=h.ent _ hr.mem
 exact h.upd hr (Ext.refl _ _) (fun b hb=> .inl hb) (by simp [Ent.blocks]) (aOE hb (Nat.zero_le _) hl hmc hm)
theorem _root_.Go.Fx.Mem.imm0 {X:List Nat} {w0 w:World} {M:List Ent} {I:List aN} (h:Mem X w0 M I w):Mem [] w [] [] w:=⟨Ext.refl _ _,fun _ h=>absurd h (by simp [muts]),by simp [muts],fun _ h=>absurd h (by simp),fun _ h=>absurd h (by simp)⟩
theorem yX (l:List Int) (k:Nat):(recs eG l).take k=recs eG (l.take k):=by
 rw [oH,oH,List.map_take]
section
variable {X:List Nat} {w0:World} {M0:List Ent} {I0:List aN}
theorem aBP {p q:Option Addr} {m n cp cq:Nat} (hm:(gr m).length≤100000000000) (hn:(gr n).length≤100000000000) (hp:aD p (recs eG (gr m))∈I0) (hq:aD q (recs eG (gr n))∈I0):
  CD Tryz.prog 93 [.slice p (gr m).length cp, .slice q (gr n).length cq] X w0 M0 I0 (fun v M I=>∃b c,v= .slice (some ⟨b,0,none⟩) (gr (m*n)).length c∧(gr (m*n)).length≤c∧M= .row (some ⟨b,0,none⟩) (gr (m*n)).length c (recs eG (gr (m*n))) 103 1::M0∧I0=I):=by
 have da:=bC m
 have db:=bC n
 have va:=bH m
 have vb:=bH n
 generalize ha:gr m=a at*
 generalize hb:gr n=b at*
 refine dF Tryz.func93 rfl Tryz.ntmps93 rfl ?_
 repeat refine jK ?_
 (refine iD (a.length+b.length) rfl rfl (by omega) (by omega) (by omega) (by omega) (mG _ _) rfl rfl ?_;intro bo;refine ⟨okJ,?_⟩)
 repeat refine jK ?_
 refine dK [1,5,18,19] rfl (fun k G M I=>∃(i:Nat) (o:List Int),i≤a.length∧k=a.length - i∧o.length=a.length+b.length∧Dig o∧val o=val (a.take i)*val b∧(∀j:Nat,i+b.length≤j→o.getD j 0=0)∧G=[(20, .int .i64 i)]∧M= .blk bo (recs eG o) 103::M0∧I0=I) (a.length) _ _ _ cZ bJ bI (⟨0,_,by omega,by omega,by simp,Dig.zeros _,by rw [wK];simp [val],fun j _=>by simp [List.getD,List.getElem?_replicate];split <;>rfl,rfl,rfl,rfl⟩) ?_
 rintro k G M I ⟨i,o,hi,rfl,ho,hd,hv,hz,rfl,rfl,rfl⟩
 repeat' (first|refine jK ?_|refine aI rfl (fun h=>?_) (fun h=>?_)|refine aH rfl rfl (fun h=>?_) (fun h=>?_)|fail)
 ·have hia:i < a.length:=by omega
  have d1:=da.gt i
  refine dK [1,5,6,7,18,19,20,25,26] rfl (fun k G M I=>∃(j:Nat) (u:List Int) (c:Int),j≤b.length∧k=b.length - j∧u.length=a.length+b.length∧Dig u∧(0≤c∧c < 1000000000)∧val u+1000000000 ^ (i+j)*c=val (a.take i)*val b+1000000000 ^ i*(gt a i*val (b.take j))∧(∀j:Nat,i+b.length≤j→u.getD j 0=0)∧G=[(8, .int .u64 c),(27, .int .i64 j)]∧M= .blk bo (recs eG u) 103::M0∧I0=I) (b.length) _ _ _ cZ bJ bI (⟨0,o,0,by omega,by omega,ho,hd,by omega,by simp [val,hv],hz,rfl,rfl,rfl⟩) ?_
  rintro k G M I ⟨j,u,c,hj,rfl,hu,hdu,hc,hvu,hzu,rfl,rfl,rfl⟩
  have d2:=db.gt j
  have d3:=hdu.gt ((i:Int)+j)
  have d4:=qV d1 d2 d3 hc
  have e1:(gt u ((i:Int)+j)+gt a i*gt b j+c).tmod 1000000000=(gt u ((i:Int)+j)+gt a i*gt b j+c) % 1000000000:=Int.tmod_eq_emod_of_nonneg d4.2.1.1
  have e2:(gt u ((i:Int)+j)+gt a i*gt b j+c).tdiv 1000000000=(gt u ((i:Int)+j)+gt a i*gt b j+c) / 1000000000:=Int.tdiv_eq_ediv_of_nonneg d4.2.1.1
  repeat' (first|refine jK ?_|refine aI rfl (fun h=>?_) (fun h=>?_)|refine aH rfl rfl (fun h=>?_) (fun h=>?_)|fail)
  ·have hst:=aGR (o:=u) (b:=b) (j:=j) hvu (by omega)
   rw [e1,e2]
   refine bR (b.length - (j+1)) _ _ _ (by first|omega|(simp only [List.length_append,List.length_cons,List.length_nil];omega)) cZ bJ bI (⟨j+1,_,_,by omega,rfl,by rw [bP];exact hu,?_,d4.2.2,?_,?_,rfl,rfl,rfl⟩)
   ·rw [fI];exact hdu.set _ (by omega)
   ·rw [fI,wJ,tZ,tZ]
    rw [tZ] at hst
    exact hst
   ·intro t ht
    rw [fI,jW _ (by omega)]
    exact hzu t ht
  ·have hjb:j=b.length:=by omega
   subst hjb
   have hst:=aCM (o:=u) (b:=b) hvu (by omega) (hzu _ (Nat.le_refl _))
   repeat refine jK ?_
   refine bR (a.length - (i+1)) _ _ _ (by first|omega|(simp only [List.length_append,List.length_cons,List.length_nil];omega)) cZ bJ bI (⟨i+1,_,by omega,rfl,by rw [bP];exact hu,?_,?_,?_,rfl,rfl,rfl⟩)
   ·rw [fI];exact hdu.set _ hc
   ·rw [fI,hst,bD,tZ]
    rw [Int.add_mul,Int.mul_assoc]
   ·intro t ht
    rw [fI,jW _ (by omega)]
    exact hzu t (by omega)
 ·have hiN:i=a.length:=by omega
  subst hiN
  rw [List.take_length,va,vb] at hv
  have hg:dZ o=gr (m*n):=lT hd (by rw [hv,Int.natCast_mul])
  (refine bA rfl (CD.lend [aD (some ⟨bo,0,none⟩) (recs eG o)] (fun w hw=>Mem.lendB (b:=bo) (e:=103) aQ hw hw.imm0) (fun W=>(pK (X:=[]) (w0:=W) (M0:=[]) (I0:=[aD (some ⟨bo,0,none⟩) (recs eG o)]) (l:=o) (c:=a.length+b.length) ho.symm (by omega) (by omega) aQ).mono (fun _ _ _ h=>h.2.2))) ?_;rintro _ _ _ ⟨rfl,rfl,rfl⟩;refine aU ?_)
  repeat refine jK ?_
  have hle2:=vG (o:=o)
  obtain ⟨kk,hk1,hk2,_⟩:=tH o
  have hlk:(gr (m*n)).length=kk:=by rw [←hg,hk2,List.length_take];omega
  rw [hg] at hle2 ⊢
  refine rU (I':=I0) (M':= .row (some ⟨bo,0,none⟩) (gr (m*n)).length (a.length+b.length) (recs eG (gr (m*n))) 103 1::M0) (fun w hw=>?_) ?_
  ·refine hw.toRowT (b:=bo) (e:=103) (cs:=recs eG o) (c:=a.length+b.length) (m:=(gr (m*n)).length) 1 ?_ (by rw [oH,List.length_map];omega) (by omega) (by omega)
   have e:(recs eG o).take ((gr (m*n)).length*1)=recs eG (gr (m*n)):=by rw [hlk,Nat.mul_one,←hg,hk2,yX]
   rw [e]
   exact pQ
  ·refine aT (by first|exact .inl rfl|exact .inr rfl) rfl rfl _ _ bJ bI (⟨_,_,rfl,by omega,rfl,rfl⟩)
end
end Go.Proofs.YthhldplegmeolaaGreat
namespace Go.Fx
def aBW (P:Program) (tmps:Array Value) (w:World):List ResultVar→List Value→Prop
 |[],[]=>True
 | .tmp t::r,v::vs=>tmps.getD t undef=v∧aBW P tmps w r vs
 | .cell a t::r,v::vs=>(do loadVar t (←asAddr (tmps.getD a undef)):Sem Value).run P w= .ok v w∧aBW P tmps w r vs
 |_,_=>False
theorem wD (P:Program) (tmps:Array Value) (w:World):∀(rs:List ResultVar) (vs:List Value),aBW P tmps w rs vs→(rs.toArray.mapM fun
  |ResultVar.tmp t=>(pure (tmps.getD t undef):Sem Value)
  |ResultVar.cell a t=>do loadVar t (←asAddr (tmps.getD a undef))).run P w=Result.ok vs.toArray w:=by
 intro rs vs h
 rw [List.mapM_toArray]
 simp only [Sem.run_map]
 have:∀(l:List ResultVar) (vs:List Value),aBW P tmps w l vs→(List.mapM (m:=Sem) (fun
  |ResultVar.tmp t=>(pure (tmps.getD t undef):Sem Value)
  |ResultVar.cell a t=>do loadVar t (←asAddr (tmps.getD a undef))) l).run P w=Result.ok vs w:=by
  intro l
  induction l with
  |nil=>intro vs h;cases vs with
   |nil=>rfl
   |cons v vs=>exact h.elim
  |cons r l ih=>
   intro vs h
   cases vs with
   |nil=>cases r <;>exact h.elim
   |cons v vs=>
    cases r with
    |tmp t=>
     obtain ⟨h1,h2⟩:=h
     simp only [List.mapM_cons,Sem.run_bind,Sem.run_pure,Result.andThen_ok,ih vs h2,h1]
    |cell a t=>
     obtain ⟨h1,h2⟩:=h
     simp only [List.mapM_cons,Sem.run_bind] at h1 ⊢
     rw [h1]
     simp only [Result.andThen_ok,Sem.run_bind,ih vs h2,Sem.run_pure]
 rw [this rs vs h]
 rfl
theorem aAV {P:Program} {a:Tmp} {t:TypeId} {tmps:Array Value} {w:World} {b:Nat} {v:Value} {e:TypeId} [ht:ScalarTy P t] (hb:tmps.getD a undef= .pointer (some ⟨b,0,none⟩)) (hB:Blk w b [v] e):
  (do loadVar t (←asAddr (tmps.getD a undef)):Sem Value).run P w= .ok v w:=by
 have hc:=hB.cell (o:=0) rfl
 have hb':tmps[a]?.getD undef= .pointer (some ⟨b,0,none⟩):=by simpa using hb
 simp [hb',asAddr,loadVar,mJ,hc]
theorem aKC {P:Program} {a:Tmp} {t:TypeId} {sz:Nat} {tmps:Array Value} {w:World} {b:Nat} {cs:List Value} {e:TypeId} [ht:AggTy P t sz] (hb:tmps.getD a undef= .pointer (some ⟨b,0,none⟩)) (hB:Blk w b cs e) (hl:cs.length=sz):
  (do loadVar t (←asAddr (tmps.getD a undef)):Sem Value).run P w= .ok (.agg cs.toArray) w:=by
 have:=run_loadCellsFrom (P:=P) cs (hB.row0) sz 0 #[] (by omega) rfl
 have hb':tmps[a]?.getD undef= .pointer (some ⟨b,0,none⟩):=by simpa using hb
 simp [hb',asAddr,loadVar,nD,run_sizeOf ht.size,loadCells,this]
section
variable {P:Program} {n:Nat} {G:Env} {X:List Nat} {w0:World} {M M':List Ent} {I I':List aN}
inductive RsD (P:Program) (G:Env) (M:List Ent):List ResultVar→List Value→Prop
 |nil:RsD P G M [] []
 |tmp {t:Nat} {v:Value} {r:List ResultVar} {vs:List Value} (h:lk G t=some v) (k:RsD P G M r vs):RsD P G M (.tmp t::r) (v::vs)
 |cell {a:Nat} {t:TypeId} {b:Nat} {v:Value} {e:TypeId} {r:List ResultVar} {vs:List Value} (ht:ScalarTy P t) (h:lk G a=some (.pointer (some ⟨b,0,none⟩))) (hm: .blk b [v] e∈M) (k:RsD P G M r vs):RsD P G M (.cell a t::r) (v::vs)
 |cellN {a:Nat} {t:TypeId} {sz b:Nat} {cs:List Value} {e:TypeId} {r:List ResultVar} {vs:List Value} (ht:AggTy P t sz) (h:lk G a=some (.pointer (some ⟨b,0,none⟩))) (hm: .blk b cs e∈M) (hl:cs.length=sz) (k:RsD P G M r vs):RsD P G M (.cell a t::r) (.agg cs.toArray::vs)
theorem RsD.ok {a:Act} {w:World} (ha:Has n G a) (hw:Mem X w0 M I w) {rs:List ResultVar} {vs:List Value} (h:RsD P G M rs vs):aBW P a.tmps w rs vs:=by
 induction h with
 |nil=>trivial
 |tmp h _ ih=>exact ⟨by simp [ha.get _ _ h],ih⟩
 |cell ht h hm _ ih=>exact ⟨aAV (by simp [ha.get _ _ h]) (hw.blk hm),ih⟩
 |cellN ht h hm hl _ ih=>exact ⟨aKC (by simp [ha.get _ _ h]) (hw.blk hm) hl,ih⟩
theorem gZ {fn:Func} {K:Value→List Ent→List aN→Prop} {rs:List ResultVar} {vs:List Value} {ex:Exit} (he:ex= .ret∨ex= .normal) (hr:fn.results=rs.toArray) (hv:RsD P G M rs vs) (hl:Nat.beq vs.length 1=false) (M':List Ent) (I':List aN) (hM:SubP M M') (hI:Inc I I') (h:K (.tuple vs.toArray) M' I'):
  ND n (Body P fn (KB K X w0)) ex G X w0 M I:=⟨fun w hw=>⟨fun a ha=>by
 unfold Body
 have e1:=wD P a.tmps w rs vs (hv.ok ha hw)
 have e2:(results fn a.tmps).run P w= .ok (.tuple vs.toArray) w:=by
  have hne:¬vs.length=1:=by intro e;simp [e] at hl
  unfold results
  rw [hr,Sem.run_bind]
  refine (congrArg (fun r=>Result.andThen r fun a w'=>Sem.run P (pure (if h:a.size=1 then a[0] else Value.tuple a)) w') e1).trans ?_
  simp [hne]
 rcases he with rfl|rfl <;>exact ⟨ha.defers,_,e2,_,rfl,M',I',h,hw.weak hM hI⟩⟩⟩
theorem aOZ {fn:Func} {K:Value→List Ent→List aN→Prop} {ex:Exit} {a:Tmp} {t:TypeId} {b:Nat} {v:Value} {e:TypeId} [ScalarTy P t] (he:ex= .ret∨ex= .normal) (hr:fn.results=#[.cell a t]) (hv:lk G a=some (.pointer (some ⟨b,0,none⟩))) (hm: .blk b [v] e∈M) (M':List Ent) (I':List aN) (hM:SubP M M') (hI:Inc I I') (h:K v M' I'):
  ND n (Body P fn (KB K X w0)) ex G X w0 M I:=⟨fun w hw=>⟨fun act ha=>by
 unfold Body
 have e1:act.tmps.getD a undef= .pointer (some ⟨b,0,none⟩):=by simp [ha.get a _ hv]
 have e2:=aAP (P:=P) (t:=t) hr e1 (hw.blk hm)
 rcases he with rfl|rfl <;>exact ⟨ha.defers,_,e2,_,rfl,M',I',h,hw.weak hM hI⟩⟩⟩
end
end Go.Fx
namespace Go.Proofs.YthhldplegmeolaaGreat
open Go Go.Fx
def iv (q:Option Addr) (c:Nat) (z:Int):Value:= .agg #[.bool (B (z < 0)), .slice q (gr z.natAbs).length c]
abbrev oP (q:Option Addr) (n c:Nat):Prop:=(gr n).length≤c∧(Ok q∨((gr n).length=0∧c=0))
structure IsI (u:Value) (z:Int) (k:Nat) (X:List Nat) (w:World):Prop where
 ex:∃q c,u=iv q c z∧oP q z.natAbs c∧z.natAbs≤2 ^ k∧Sl X w q (recs eG (gr z.natAbs))
abbrev fP (u:Value) (z:Int) (k:Nat):aN:=IsI u z k
instance (u:Value) (z:Int) (k:Nat):Fx.Good (IsI u z k):=⟨fun X Y w w' h he hY=>by
 obtain ⟨q,c,h1,h2,h3,h4⟩:=h.ex
 exact ⟨q,c,h1,h2,h3,Sl.carry h4 he hY⟩⟩
def sg (p:Prop) [Decidable p] (n:Nat):Int:=if p then -(n:Int) else n
theorem aNC (p:Prop) [Decidable p] (n:Nat):(sg p n).natAbs=n:=by unfold sg;split <;>omega
theorem oV (z:Int):sg (z < 0) z.natAbs=z:=by unfold sg;split <;>omega
theorem aLQ (z:Int):sg (¬z < 0) z.natAbs= -z:=by unfold sg;split <;>omega
theorem sg_lt {p:Prop} [Decidable p] {n:Nat} (h:n≠0):sg p n < 0↔p:=by unfold sg;split <;>simp_all <;>omega
section
variable {P:Program} {n:Nat} {Q:Exit→Act→World→Prop} {G:Env} {X:List Nat} {w0:World} {M M':List Ent} {I I':List aN}
theorem bO {f:FuncId} {vs:List Value} {K:Value→List Ent→List aN→Prop} {u:Value} {z:Int} {k:Nat} (hu:fP u z k∈I)
  (h:∀q c,u=iv q c z→oP q z.natAbs c→z.natAbs≤2 ^ k→CD P f vs X w0 M (aD q (recs eG (gr z.natAbs))::I) K):CD P f vs X w0 M I K:=
 ⟨fun w hw=>by
  obtain ⟨q,c,h1,h2,h3,h4⟩:=((hw.imm _ hu).2).ex
  exact (h q c h1 h2 h3).go w (hw.add (φ:=aD q _) ⟨h4⟩)⟩
theorem aCP {w:World} {q:Option Addr} {c:Nat} {z:Int} {k:Nat} (hw:Mem X w0 M I w) (hm:aD q (recs eG (gr z.natAbs))∈I) (hc:oP q z.natAbs c) (hk:z.natAbs≤2 ^ k):Mem X w0 M (fP (iv q c z) z k::I) w:=
 hw.add (φ:=fP _ z k) ⟨q,c,rfl,hc,hk,hw.sl hm⟩
theorem aAT {ex:Exit} {q:Option Addr} {c:Nat} {z:Int} {k:Nat} (hm:aD q (recs eG (gr z.natAbs))∈I) (hc:oP q z.natAbs c) (hk:z.natAbs≤2 ^ k) (h:ND n Q ex G X w0 M (fP (iv q c z) z k::I)):ND n Q ex G X w0 M I:=rU (fun _ hw=>aCP hw hm hc hk) h
theorem sZ {ops l:List Oper} {m:Fx.Mode} {q:Option Addr} {c:Nat} {z:Int} {k:Nat} (hm:aD q (recs eG (gr z.natAbs))∈I) (hc:oP q z.natAbs c) (hk:z.natAbs≤2 ^ k) (h:RD P n ops Q m l G X w0 M (fP (iv q c z) z k::I)):RD P n ops Q m l G X w0 M I:=mO (fun _ hw=>aCP hw hm hc hk) h
theorem aO {ops l:List Oper} {m:Fx.Mode} {u:Value} {z:Int} {k:Nat} (hu:fP u z k∈I)
  (h:∀q c,u=iv q c z→oP q z.natAbs c→z.natAbs≤2 ^ k→RD P n ops Q m l G X w0 M (aD q (recs eG (gr z.natAbs))::I)):RD P n ops Q m l G X w0 M I:=
 ⟨fun w hw=>by
  obtain ⟨q,c,h1,h2,h3,h4⟩:=((hw.imm _ hu).2).ex
  exact (h q c h1 h2 h3).go w (hw.add (φ:=aD q _) ⟨h4⟩)⟩
theorem IsI.mono {u:Value} {z:Int} {k m:Nat} {X:List Nat} {w:World} (h:IsI u z k X w) (hk:k≤m):IsI u z m X w:=by
 obtain ⟨q,c,h1,h2,h3,h4⟩:=h.ex
 exact ⟨q,c,h1,h2,Nat.le_trans h3 (Nat.pow_le_pow_right (by decide) hk),h4⟩
end
theorem eO {n k:Nat} (h:n≤2 ^ k) (hk:k≤1000000000000):(gr n).length≤40000000000:=by
 have:=dB h
 omega
/- ---------- IndexFunc, ContainsFunc of []uint32 ---------- -/
section
variable {X:List Nat} {w0:World} {M0:List Ent} {I0:List aN}
theorem aRA {q:Option Addr} {a:List Int} {c:Nat} {g:FuncId} [FnOk Tryz.prog g] {fs cs:Array Value} (pr:Int→Prop) [DecidablePred pr] (hn:(a.length:Int)≤9223372036854775807) (ha:aD q (recs eG a)∈I0)
  (hg:∀i:Nat,i < a.length→CD Tryz.prog g (fs.toList++[Value.int .u32 (gt a i)]++cs.toList) X w0 M0 I0 (fun v M I=>M0=M∧I0=I∧v= .bool (B (pr (gt a i))))):
  CD Tryz.prog 152 [.slice q a.length c, .func (.func g) fs cs] X w0 M0 I0 (fun v M I=>M0=M∧I0=I∧∃r:Int,v= .int .i64 r∧((∃i:Nat,i < a.length∧r=i∧pr (gt a i)∧∀j:Nat,j < i→¬pr (gt a j))∨(r= -1∧∀j:Nat,j < a.length→¬pr (gt a j)))):=by
 refine dF Tryz.func152 rfl Tryz.ntmps152 rfl ?_
 repeat refine jK ?_
 refine dK [0,1,7] rfl (fun k G M I=>∃i:Nat,i≤a.length∧k=a.length - i∧(∀j:Nat,j < i→¬pr (gt a j))∧G=[(8, .int .i64 i)]∧M=M0∧I=I0) (a.length) _ _ _ cZ bJ bI (⟨0,by omega,rfl,fun j hj=>by omega,rfl,rfl,rfl⟩) ?_
 rintro k G M I ⟨i,hi,rfl,hs,rfl,rfl,rfl⟩
 repeat' (first|refine jK ?_|refine aI rfl (fun h=>?_) (fun h=>?_)|refine aH rfl rfl (fun h=>?_) (fun h=>?_)|fail)
 ·have hlt:i < a.length:=by omega
  (refine yT rfl rfl (hg i hlt) rfl rfl rfl ?_;rintro _ _ _ ⟨rfl,rfl,rfl⟩;refine ⟨okJ,?_⟩)
  repeat' (first|refine jK ?_|refine aI rfl (fun h=>?_) (fun h=>?_)|refine aH rfl rfl (fun h=>?_) (fun h=>?_)|fail)
  ·refine aT (by first|exact .inl rfl|exact .inr rfl) rfl rfl _ _ bJ bI (⟨rfl,rfl,_,rfl, .inl ⟨i,hlt,rfl,by assumption,hs⟩⟩)
  ·refine bR (a.length - (i+1)) _ _ _ (by first|omega|(simp only [List.length_append,List.length_cons,List.length_nil];omega)) cZ bJ bI (⟨i+1,by omega,rfl,fun j hj=>?_,rfl,rfl,rfl⟩)
   by_cases e:j=i
   ·subst e;assumption
   ·exact hs j (by omega)
 ·refine aT (by first|exact .inl rfl|exact .inr rfl) rfl rfl _ _ bJ bI (⟨rfl,rfl,_,rfl, .inr ⟨rfl,fun j hj=>hs j (by omega)⟩⟩)
theorem aQO {q:Option Addr} {a:List Int} {c:Nat} {g:FuncId} [FnOk Tryz.prog g] {fs cs:Array Value} (pr:Int→Prop) [DecidablePred pr] (hn:(a.length:Int)≤9223372036854775807) (ha:aD q (recs eG a)∈I0)
  (hg:∀i:Nat,i < a.length→CD Tryz.prog g (fs.toList++[Value.int .u32 (gt a i)]++cs.toList) X w0 M0 I0 (fun v M I=>M0=M∧I0=I∧v= .bool (B (pr (gt a i))))):
  CD Tryz.prog 122 [.slice q a.length c, .func (.func g) fs cs] X w0 M0 I0 (fun v M I=>M0=M∧I0=I∧v= .bool (B (∃x∈a,pr x))):=by
 refine dF Tryz.func122 rfl Tryz.ntmps122 rfl ?_
 repeat refine jK ?_
 (refine bA rfl (aRA pr hn ha hg) ?_;rintro _ _ _ ⟨rfl,rfl,r,rfl,h⟩;refine aU ?_)
 repeat refine jK ?_
 refine aT (by first|exact .inl rfl|exact .inr rfl) rfl rfl _ _ bJ bI (⟨rfl,rfl,congrArg Value.bool (gP ?_)⟩)
 rcases h with ⟨i,hi,rfl,hp,_⟩|⟨rfl,h⟩
 ·exact ⟨fun _=>⟨gt a i,by rw [eY hi];exact List.getElem_mem hi,hp⟩,fun _=>by omega⟩
 ·refine ⟨fun h=>by omega,?_⟩
  rintro ⟨x,hx,hp⟩
  obtain ⟨j,hj,rfl⟩:=List.mem_iff_getElem.1 hx
  exact absurd (by rw [eY hj];exact hp) (h j hj)
end
/- ---------- Clone of []uint32 ---------- -/
section
variable {X:List Nat} {w0:World} {M0:List Ent} {I0:List aN}
theorem xA {q:Option Addr} {a:List Int} {c:Nat} (hn:(a.length:Int)*4≤140737488355328) (hok:Ok q∨(a.length=0∧c=0)) (ha:aD q (recs eG a)∈I0):
  CD Tryz.prog 126 [.slice q a.length c] X w0 M0 I0 (fun v M I=>I0=I∧∃q' c',v= .slice q' a.length c'∧M= .row q' a.length c' (recs eG a) 103 1::M0):=by
 refine dF Tryz.func126 rfl Tryz.ntmps126 rfl ?_
 repeat refine jK ?_
 refine aB rfl (fun _=>xG rfl) rfl rfl ?_
 cases q with
 |some ad=>
  repeat refine jK ?_
  refine nG (cs:=recs eG []) ([]) rfl (fun b1=>?_)
  repeat refine jK ?_
  refine rA (mm:=0) 1 pQ rfl (by omega) ?_
  refine jC (xs:=[]) (ys:=a) 0 rfl rfl rfl (Src.imm aQ hok) (by decide) rfl (by simp;omega) (by simp;omega) rfl rfl ?_
  intro a2 c2
  refine ⟨okJ,?_⟩
  repeat refine jK ?_
  refine aT (by first|exact .inl rfl|exact .inr rfl) rfl rfl _ _ bJ bI (⟨rfl,a2,c2,by simp,by simp⟩)
 |none=>
  obtain ⟨h0,rfl⟩:a.length=0∧c=0:=hok.resolve_left (fun h=>by obtain ⟨b,o,e⟩:=h.cases;cases e)
  have hnil:a=[]:=List.eq_nil_of_length_eq_zero h0
  subst hnil
  repeat refine jK ?_
  refine aJC 103 1 ?_
  refine aT (by first|exact .inl rfl|exact .inr rfl) rfl rfl _ _ bJ bI (⟨rfl,none,0,rfl,rfl⟩)
end
section
variable {X:List Nat} {w0:World} {M0:List Ent} {I0:List aN}
theorem kH {p:Prop} [Decidable p] {q:Option Addr} {n c k:Nat} (hl:(gr n).length≤100000000000) (hc:oP q n c) (hk:n≤2 ^ k) (hq:aD q (recs eG (gr n))∈I0):
  CD Tryz.prog 92 [.bool (B p), .slice q (gr n).length c] X w0 M0 I0 (fun v M I=>M0=M∧I=fP v (sg p n) k::I0):=by
 refine dF Tryz.func92 rfl Tryz.ntmps92 rfl ?_
 refine fG ?_
 refine dG (fun b=>?_)
 repeat refine jK ?_
 (refine bA rfl (pK (l:=gr n) rfl (by omega) hc.1 hq) ?_;rintro _ _ _ ⟨rfl,rfl,rfl⟩;refine aU ?_)
 rw [yL (zF n)]
 by_cases h0:(gr n).length=0
 ·have hn:n=0:=mZ.1 (List.eq_nil_of_length_eq_zero h0)
  subst hn
  repeat refine jK ?_
  (refine aB rfl (fun _=>aY (pvs:=([]).zipIdx.map (fun p=>(p.2,p.1))) (cells:=[.bool false, .slice none 0 0]) rfl rfl) rfl rfl ?_)
  repeat refine jK ?_
  have hz:sg p 0=0:=by unfold sg;split <;>rfl
  rw [hz]
  have hg0:gr (0:Int).natAbs=[]:=fB
  refine aDK none ?_
  refine aAT (q:=none) (c:=0) (z:=0) (k:=k) (by rw [hg0];exact aQ) ⟨by rw [hg0];simp, .inr ⟨by rw [hg0];rfl,rfl⟩⟩ (by simp) ?_
  have hiv:iv none 0 0= .agg #[.bool false, .slice none 0 0]:=by unfold iv;rw [hg0,aW (by omega)];rfl
  rw [hiv]
  refine aR (cs:=[.bool false, .slice none 0 0]) (.inl rfl) rfl rfl aQ rfl _ _ bJ bI ⟨rfl,rfl⟩
 ·have hn:n≠0:=fun e=>h0 (by rw [e,fB];rfl)
  repeat refine jK ?_
  (refine aB rfl (fun _=>aY (pvs:=([.bool (B p), .slice q (gr n).length c]).zipIdx.map (fun p=>(p.2,p.1))) (cells:=[.bool (B p), .slice q (gr n).length c]) rfl rfl) rfl rfl ?_)
  repeat refine jK ?_
  have ha:=aNC p n
  refine aAT (q:=q) (c:=c) (z:=sg p n) (k:=k) (by rw [ha];exact aQ) (by rw [ha];exact hc) (by rw [ha];exact hk) ?_
  have hiv:iv q c (sg p n)= .agg #[.bool (B p), .slice q (gr n).length c]:=by unfold iv;rw [ha,gP (sg_lt hn)]
  rw [hiv]
  refine aR (cs:=[.bool (B p), .slice q (gr n).length c]) (.inl rfl) rfl rfl aQ rfl _ _ bJ bI ⟨rfl,rfl⟩
theorem aQU {x:Int}:CD Tryz.prog 123 [.int .u32 x] X w0 M0 I0 (fun v M I=>M0=M∧I0=I∧v= .bool (B (1000000000≤x))):=by
 refine dF Tryz.func123 rfl Tryz.ntmps123 rfl ?_
 repeat refine jK ?_
 refine aT (by first|exact .inl rfl|exact .inr rfl) rfl rfl _ _ bJ bI (⟨rfl,rfl,rfl⟩)
def rR (neg:Bool) (gs:List Int):Prop:=(gs=[]∧neg=false)∨(gs≠[]∧Top gs∧¬∃x∈gs,1000000000≤x)
instance (neg:Bool) (gs:List Int):Decidable (rR neg gs):=by unfold rR;exact inferInstance
theorem yB {gs:List Int} (h:0 < gs.length):gs.getLastD 1=gt gs ((gs.length:Int) - 1):=by
 rcases List.eq_nil_or_concat gs with rfl|⟨r,x,e⟩
 ·simp at h
 ·rw [List.concat_eq_append] at e
  subst e
  have e1:(((r++[x]).length:Int) - 1)=((r.length:Nat):Int):=by simp
  rw [e1,tZ]
  simp
theorem sS {neg:Bool} {q:Option Addr} {gs:List Int} {c:Nat} (hn:(gs.length:Int)≤9223372036854775807) (hq:aD q (recs eG gs)∈I0):
  CD Tryz.prog 85 [.agg #[.bool neg, .slice q gs.length c]] X w0 M0 I0 (fun v M I=>M0=M∧I0=I∧v= .bool (B (rR neg gs))):=by
 refine dF Tryz.func85 rfl Tryz.ntmps85 rfl ?_
 refine fG ?_
 refine tyX rfl (fun b=>?_)
 by_cases h0:gs.length=0
 ·have hg:gs=[]:=List.eq_nil_of_length_eq_zero h0
  subst hg
  repeat refine jK ?_
  refine aT (by first|exact .inl rfl|exact .inr rfl) rfl rfl _ _ bJ bI (⟨rfl,rfl,by rw [show (!neg)=B (rR neg []) by rw [pW];cases neg <;>simp [rR]]⟩)
 ·have hgs:gs≠[]:=fun e=>h0 (by rw [e];rfl)
  have hlast:=yB (gs:=gs) (by omega)
  repeat' (first|refine jK ?_|refine aI rfl (fun h=>?_) (fun h=>?_)|refine aH rfl rfl (fun h=>?_) (fun h=>?_)|fail)
  ·refine dC rfl (aQO (fun x=>1000000000≤x) hn hq (fun i hi=>aQU)) ?_
   repeat refine jK ?_
   refine aT (by first|exact .inl rfl|exact .inr rfl) rfl rfl _ _ bJ bI (⟨rfl,rfl,congrArg Value.bool (gP ?_)⟩)
   unfold rR Top
   rw [hlast]
   exact ⟨fun h=> .inr ⟨hgs,by assumption,h⟩,fun h=>h.elim (fun h=>absurd h.1 hgs) (fun h=>h.2.2)⟩
  ·refine aT (by first|exact .inl rfl|exact .inr rfl) rfl rfl _ _ bJ bI (⟨rfl,rfl,congrArg Value.bool (aW ?_).symm⟩)
   unfold rR Top
   rw [hlast]
   rintro (h|h)
   ·exact hgs h.1
   ·exact absurd h.2.1 (by assumption)
theorem wW (z:Int):rR (B (z < 0)) (gr z.natAbs):=by
 by_cases h:z.natAbs=0
 ·refine .inl ⟨by rw [h,fB],aW (by omega)⟩
 ·refine .inr ⟨fun e=>h (mZ.1 e),zF _,?_⟩
  rintro ⟨x,hx,h1⟩
  have:=bC z.natAbs x hx
  omega
theorem gU {q:Option Addr} {c k:Nat} {z:Int} (hz:z.natAbs≤2 ^ k) (hk:k≤1000000000000) (hq:aD q (recs eG (gr z.natAbs))∈I0):
  CD Tryz.prog 87 [iv q c z] X w0 M0 I0 (fun v M I=>M0=M∧I0=I∧v= .slice q (gr z.natAbs).length c):=by
 have hl:=eO hz hk
 unfold iv
 refine dF Tryz.func87 rfl Tryz.ntmps87 rfl ?_
 refine fG ?_
 refine tyX rfl (fun b=>?_)
 repeat refine jK ?_
 refine dC rfl (sS (neg:=B (z < 0)) (gs:=gr z.natAbs) (by omega) hq) ?_
 rw [bV (wW z)]
 repeat refine jK ?_
 refine aT (by first|exact .inl rfl|exact .inr rfl) rfl rfl _ _ bJ bI (⟨rfl,rfl,rfl⟩)
theorem oU {u:Value} {z:Int} {k:Nat} (hk:k≤1000000000000) (hu:fP u z k∈I0):CD Tryz.prog 47 [u] X w0 M0 I0 (fun v M I=>M0=M∧I0=I∧v= .int .i64 z.sign):=by
 refine bO hu (fun q c e hc hz=>?_)
 subst e
 unfold iv
 refine dF Tryz.func47 rfl Tryz.ntmps47 rfl ?_
 refine fG ?_
 refine tyX rfl (fun b=>?_)
 repeat refine jK ?_
 refine dC rfl (gU (c:=c) hz hk aQ) ?_
 have hnil:(gr z.natAbs).length=0↔z=0:=by
  rw [List.length_eq_zero_iff,mZ];omega
 by_cases h0:z=0
 ·have:=hnil.2 h0
  repeat refine jK ?_
  refine aT (by first|exact .inl rfl|exact .inr rfl) rfl rfl _ _ bJ bI (⟨rfl,rfl,by rw [h0];rfl⟩)
 ·have:¬(gr z.natAbs).length=0:=fun h=>h0 (hnil.1 h)
  repeat' (first|refine jK ?_|refine aI rfl (fun h=>?_) (fun h=>?_)|refine aH rfl rfl (fun h=>?_) (fun h=>?_)|fail)
  ·refine aT (by first|exact .inl rfl|exact .inr rfl) rfl rfl _ _ bJ bI (⟨rfl,rfl,by rw [Int.sign_eq_neg_one_of_neg (by assumption)]⟩)
  ·refine aT (by first|exact .inl rfl|exact .inr rfl) rfl rfl _ _ bJ bI (⟨rfl,rfl,by rw [Int.sign_eq_one_of_pos (by omega)]⟩)
theorem aGS {u:Value} {z:Int} {k:Nat} (hk:k≤1000000000000) (hu:fP u z k∈I0):CD Tryz.prog 94 [u] X w0 M0 I0 (fun v M I=>M0=M∧I=fP v (-z) k::I0):=by
 refine bO hu (fun q c e hc hz=>?_)
 subst e
 have hl:=eO hz hk
 unfold iv
 refine dF Tryz.func94 rfl Tryz.ntmps94 rfl ?_
 refine fG ?_
 refine tyX rfl (fun b=>?_)
 refine dG (fun b2=>?_)
 repeat refine jK ?_
 (repeat refine aF ?_);refine aS 3 [0,1,2,3,4,5,6,7] [3,3,2,2,0,0,0,0] mixed (by kernel_rfl) ?_
 repeat refine jK ?_
 refine dC rfl (gU (c:=c) hz hk aQ) ?_
 repeat refine jK ?_
 (refine bA rfl (xA (a:=gr z.natAbs) (by omega) hc.2 aQ) ?_;rintro _ _ _ ⟨rfl,q',c',rfl,rfl⟩;refine aU ?_)
 refine nI (fun w hw=>And.intro (hw.rowLe (List.Mem.head _)) ((hw.rowS (List.Mem.head _)).2.imp id And.right)) (fun hc'=>?_)
 refine fK uV ?_
 repeat refine jK ?_
 rw [←aLQ z]
 (refine kI rfl (kH (p:=¬z < 0) (k:=k) (by omega) hc' hz aQ) rfl rfl ?_;rintro _ _ _ ⟨rfl,rfl⟩;refine ⟨okJ,?_⟩;refine aO (List.Mem.head _) (fun q2 c2 e__ hc2 hz2=>?_);subst e__)
 unfold iv
 repeat refine jK ?_
 refine aR (cs:=[.bool (B (sg (¬z < 0) z.natAbs < 0)), .slice q2 (gr (sg (¬z < 0) z.natAbs).natAbs).length c2]) (.inl rfl) rfl rfl aQ rfl _ _ bJ bI ⟨rfl,rfl⟩
theorem rT {u v:Value} {y z:Int} {k m:Nat} (hk:k+m≤1000000000000) (hu:fP u y k∈I0) (hv:fP v z m∈I0):CD Tryz.prog 51 [u,v] X w0 M0 I0 (fun v M I=>M0=M∧I=fP v (y*z) (k+m)::I0):=by
 refine bO hu (fun q c e hc hy=>?_)
 subst e
 refine bO (List.Mem.tail _ hv) (fun q' c' e hc' hz=>?_)
 subst e
 have hl:=eO hy (by omega)
 have hl':=eO hz (by omega)
 unfold iv
 refine dF Tryz.func51 rfl Tryz.ntmps51 rfl ?_
 refine fG ?_
 refine tyX rfl (fun b=>?_)
 refine tyX rfl (fun b2=>?_)
 refine dG (fun b3=>?_)
 repeat refine jK ?_
 (repeat refine aF ?_);refine aS 4 [0,1,2,3,4,5,7,6,8,9,10,11] [4,4,4,4,3,3,3,0,0,0,0,0] mixed (by kernel_rfl) ?_
 repeat refine jK ?_
 refine dC rfl (gU (c:=c) hy (by omega) aQ) ?_
 repeat refine jK ?_
 refine dC rfl (gU (c:=c') hz (by omega) aQ) ?_
 repeat refine jK ?_
 (refine bA rfl (aMJ (by omega) (by omega) aQ aQ) ?_;rintro _ _ _ ⟨rfl,q3,c3,rfl,hc3,rfl⟩;refine aU ?_)
 have hyz:y.natAbs*z.natAbs≤2 ^ (k+m):=xI hy hz
 have hl3:=eO hyz (by omega)
 have hsg:sg (¬(y < 0↔z < 0)) (y.natAbs*z.natAbs)=y*z:=by
  unfold sg
  rw [Int.natCast_mul]
  by_cases h1:y < 0 <;>by_cases h2:z < 0 <;>simp only [h1,h2,not_true_eq_false,not_false_eq_true,iff_true,iff_false,if_true,if_false]
  ·rw [show (y.natAbs:Int)= -y by omega,show (z.natAbs:Int)= -z by omega,Int.neg_mul_neg]
  ·rw [show (y.natAbs:Int)= -y by omega,show (z.natAbs:Int)=z by omega,Int.neg_mul,Int.neg_neg]
  ·rw [show (y.natAbs:Int)=y by omega,show (z.natAbs:Int)= -z by omega,Int.mul_neg,Int.neg_neg]
  ·rw [show (y.natAbs:Int)=y by omega,show (z.natAbs:Int)=z by omega]
 rw [←hsg]
 (refine kI rfl (kH (p:=¬(y < 0↔z < 0)) (k:=k+m) (by omega) hc3 hyz aQ) rfl rfl ?_;rintro _ _ _ ⟨rfl,rfl⟩;refine ⟨okJ,?_⟩;refine aO (List.Mem.head _) (fun q2 c2 e__ hc2 hz2=>?_);subst e__)
 unfold iv
 repeat refine jK ?_
 refine aR (cs:=[.bool (B (sg (¬(y < 0↔z < 0)) (y.natAbs*z.natAbs) < 0)), .slice q2 (gr (sg (¬(y < 0↔z < 0)) (y.natAbs*z.natAbs)).natAbs).length c2]) (.inl rfl) rfl rfl aQ rfl _ _ bJ bI ⟨rfl,rfl⟩
end
end Go.Proofs.YthhldplegmeolaaGreat

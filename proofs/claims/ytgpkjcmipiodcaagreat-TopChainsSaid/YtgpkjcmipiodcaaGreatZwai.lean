/- integer: magnitudes: times The symbolic heap, continued: results that lie in cells. -/
import Derived.Test.YtgpkjcmipiodcaaGreatZwah
import Derived.Test.YtgpkjcmipiodcaaGreatZwaf
import Derived.Test.YtgpkjcmipiodcaaGreatZwae
set_option linter.unusedSimpArgs false
set_option linter.unusedVariables false
set_option maxRecDepth 100000
set_option maxHeartbeats 4000000
namespace Go.Proofs.YtgpkjcmipiodcaaGreat
open Go Go.Fx
theorem iE (l:List Int) (i j:Nat) (x:Int):st l ((i:Int)+(j:Int)) x=l.set (i+j) x:=by
 unfold st
 congr 1
theorem aBA (l:List Int) (i j:Nat):gt l ((i:Int)+(j:Int))=l.getD (i+j) 0:=xR l (i+j)
theorem mW {l:List Int} {i j:Nat} (x:Int) (h:i≠j):(l.set i x).getD j 0=l.getD j 0:=by
 simp [List.getD,List.getElem?_set_ne h]
section
variable {X:List Nat} {w0:World} {M0:List Ent} {I0:List aV}
theorem aUD {p q:Option Addr} {m n cp cq:Nat} (hm:(gr m).length≤100000000000) (hn:(gr n).length≤100000000000) (hp:aI p (recs eG (gr m))∈I0) (hq:aI q (recs eG (gr n))∈I0):
  CD Tryz.prog 130 [.slice p (gr m).length cp, .slice q (gr n).length cq] X w0 M0 I0 (GrP (m*n) M0 I0):=by
 have da:=bK m
 have db:=bK n
 have va:=bT m
 have vb:=bT n
 generalize ha:gr m=a at*
 generalize hb:gr n=b at*
 refine eD Tryz.func130 rfl Tryz.ntmps130 rfl ?_
 repeat refine lY ?_
 (refine lM (a.length+b.length) rfl rfl (by omega) (by omega) (by omega) (by omega) (nT _ _) rfl rfl ?_;intro bo;refine ⟨okJ,?_⟩)
 repeat refine lY ?_
 refine eO [1,5,18,19] rfl (fun k G M I=>∃(i:Nat) (o:List Int),i≤a.length∧k=a.length - i∧o.length=a.length+b.length∧Dig o∧val o=val (a.take i)*val b∧(∀j:Nat,i+b.length≤j→o.getD j 0=0)∧G=[(20, .int .i64 i)]∧M= .blk bo (recs eG o) 181::M0∧I0=I) (a.length) _ _ _ dS bX bV (⟨0,_,by omega,by omega,by simp,Dig.zeros _,by rw [xA];simp [val],fun j _=>by simp [List.getD,List.getElem?_replicate];split <;>rfl,rfl,rfl,rfl⟩) ?_
 rintro k G M I ⟨i,o,hi,rfl,ho,hd,hv,hz,rfl,rfl,rfl⟩
 repeat' (first|refine lY ?_|refine aQ rfl (fun h=>?_) (fun h=>?_)|refine aR rfl rfl (fun h=>?_) (fun h=>?_)|fail)
 ·have hia:i < a.length:=by omega
  have d1:=da.gt i
  refine eO [1,5,6,7,18,19,20,25,26] rfl (fun k G M I=>∃(j:Nat) (u:List Int) (c:Int),j≤b.length∧k=b.length - j∧u.length=a.length+b.length∧Dig u∧(0≤c∧c < 1000000000)∧val u+1000000000 ^ (i+j)*c=val (a.take i)*val b+1000000000 ^ i*(gt a i*val (b.take j))∧(∀j:Nat,i+b.length≤j→u.getD j 0=0)∧G=[(8, .int .u64 c),(27, .int .i64 j)]∧M= .blk bo (recs eG u) 181::M0∧I0=I) (b.length) _ _ _ dS bX bV (⟨0,o,0,by omega,by omega,ho,hd,by omega,by simp [val,hv],hz,rfl,rfl,rfl⟩) ?_
  rintro k G M I ⟨j,u,c,hj,rfl,hu,hdu,hc,hvu,hzu,rfl,rfl,rfl⟩
  have d2:=db.gt j
  have d3:=hdu.gt ((i:Int)+j)
  have d4:=uI d1 d2 d3 hc
  have e1:(gt u ((i:Int)+j)+gt a i*gt b j+c).tmod 1000000000=(gt u ((i:Int)+j)+gt a i*gt b j+c) % 1000000000:=Int.tmod_eq_emod_of_nonneg d4.2.1.1
  have e2:(gt u ((i:Int)+j)+gt a i*gt b j+c).tdiv 1000000000=(gt u ((i:Int)+j)+gt a i*gt b j+c) / 1000000000:=Int.tdiv_eq_ediv_of_nonneg d4.2.1.1
  repeat' (first|refine lY ?_|refine aQ rfl (fun h=>?_) (fun h=>?_)|refine aR rfl rfl (fun h=>?_) (fun h=>?_)|fail)
  ·have hst:=aLW (o:=u) (b:=b) (j:=j) hvu (by omega)
   rw [e1,e2]
   refine bY (b.length - (j+1)) _ _ _ (by first|omega|(simp only [List.length_append,List.length_cons,List.length_nil];omega)) dS bX bV (⟨j+1,_,_,by omega,rfl,by rw [dB];exact hu,?_,d4.2.2,?_,?_,rfl,rfl,rfl⟩)
   ·rw [iE];exact hdu.set _ (by omega)
   ·rw [iE,aBA,xR,xR]
    rw [xR] at hst
    exact hst
   ·intro t ht
    rw [iE,mW _ (by omega)]
    exact hzu t ht
  ·have hjb:j=b.length:=by omega
   subst hjb
   have hst:=aIB (o:=u) (b:=b) hvu (by omega) (hzu _ (Nat.le_refl _))
   repeat refine lY ?_
   refine bY (a.length - (i+1)) _ _ _ (by first|omega|(simp only [List.length_append,List.length_cons,List.length_nil];omega)) dS bX bV (⟨i+1,_,by omega,rfl,by rw [dB];exact hu,?_,?_,?_,rfl,rfl,rfl⟩)
   ·rw [iE];exact hdu.set _ hc
   ·rw [iE,hst,bR,xR]
    rw [Int.add_mul,Int.mul_assoc]
   ·intro t ht
    rw [iE,mW _ (by omega)]
    exact hzu t (by omega)
 ·have hiN:i=a.length:=by omega
  subst hiN
  rw [List.take_length,va,vb] at hv
  have hg:gH o=gr (m*n):=pE hd (by rw [hv,Int.natCast_mul])
  refine aC yI ?_
  (refine aU rfl (sN (l:=o) (c:=a.length+b.length) ho.symm (by omega) (by omega) aY) ?_;rintro _ _ _ ⟨rfl,rfl,rfl⟩;refine aL ?_)
  repeat refine lY ?_
  have hle2:=yR (o:=o)
  rw [hg] at hle2 ⊢
  refine aH (by first|exact .inl rfl|exact .inr rfl) rfl rfl _ _ bX bV (⟨rfl,_,_,rfl,⟨by omega, .inl (Ok.mk _ _)⟩,rfl⟩)
end
end Go.Proofs.YtgpkjcmipiodcaaGreat
namespace Go.Fx
def aFZ (P:Program) (tmps:Array Value) (w:World):List ResultVar→List Value→Prop
 |[],[]=>True
 | .tmp t::r,v::vs=>tmps.getD t undef=v∧aFZ P tmps w r vs
 | .cell a t::r,v::vs=>(do loadVar t (←asAddr (tmps.getD a undef)):Sem Value).run P w= .ok v w∧aFZ P tmps w r vs
 |_,_=>False
theorem zZ (P:Program) (tmps:Array Value) (w:World):∀(rs:List ResultVar) (vs:List Value),aFZ P tmps w rs vs→(rs.toArray.mapM fun
  |ResultVar.tmp t=>(pure (tmps.getD t undef):Sem Value)
  |ResultVar.cell a t=>do loadVar t (←asAddr (tmps.getD a undef))).run P w=Result.ok vs.toArray w:=by
 intro rs vs h
 rw [List.mapM_toArray]
 simp only [Sem.run_map]
 have:∀(l:List ResultVar) (vs:List Value),aFZ P tmps w l vs→(List.mapM (m:=Sem) (fun
  |ResultVar.tmp t=>(pure (tmps.getD t undef):Sem Value)
  |ResultVar.cell a t=>do loadVar t (←asAddr (tmps.getD a undef))) l).run P w=Result.ok vs w:=by
  intro l
  induction l with
  |nil=>intro vs h;cases vs with
   |nil=>rfl
   |cons v vs=>exact h.elim
  |cons r l ih=>
   intro vs h
   cases vs with
   |nil=>cases r <;>exact h.elim
   |cons v vs=>
    cases r with
    |tmp t=>
     obtain ⟨h1,h2⟩:=h
     simp only [List.mapM_cons,Sem.run_bind,Sem.run_pure,Result.andThen_ok,ih vs h2,h1]
    |cell a t=>
     obtain ⟨h1,h2⟩:=h
     simp only [List.mapM_cons,Sem.run_bind] at h1 ⊢
     rw [h1]
     simp only [Result.andThen_ok,Sem.run_bind,ih vs h2,Sem.run_pure]
 rw [this rs vs h]
 rfl
theorem aFU {P:Program} {a:Tmp} {t:TypeId} {tmps:Array Value} {w:World} {b:Nat} {v:Value} {e:TypeId} [ht:ScalarTy P t] (hb:tmps.getD a undef= .pointer (some ⟨b,0,none⟩)) (hB:Blk w b [v] e):
  (do loadVar t (←asAddr (tmps.getD a undef)):Sem Value).run P w= .ok v w:=by
 have hc:=hB.cell (o:=0) rfl
 have hb':tmps[a]?.getD undef= .pointer (some ⟨b,0,none⟩):=by simpa using hb
 simp [hb',asAddr,loadVar,kZ,hc]
theorem aPO {P:Program} {a:Tmp} {t:TypeId} {sz:Nat} {tmps:Array Value} {w:World} {b:Nat} {cs:List Value} {e:TypeId} [ht:AggTy P t sz] (hb:tmps.getD a undef= .pointer (some ⟨b,0,none⟩)) (hB:Blk w b cs e) (hl:cs.length=sz):
  (do loadVar t (←asAddr (tmps.getD a undef)):Sem Value).run P w= .ok (.agg cs.toArray) w:=by
 have:=run_loadCellsFrom (P:=P) cs (hB.row0) sz 0 #[] (by omega) rfl
 have hb':tmps[a]?.getD undef= .pointer (some ⟨b,0,none⟩):=by simpa using hb
 simp [hb',asAddr,loadVar,jS,run_sizeOf ht.size,loadCells,this]
section
variable {P:Program} {n:Nat} {G:Env} {X:List Nat} {w0:World} {M M':List Ent} {I I':List aV}
inductive RsD (P:Program) (G:Env) (M:List Ent):List ResultVar→List Value→Prop
 |nil:RsD P G M [] []
 |tmp {t:Nat} {v:Value} {r:List ResultVar} {vs:List Value} (h:lk G t=some v) (k:RsD P G M r vs):RsD P G M (.tmp t::r) (v::vs)
 |cell {a:Nat} {t:TypeId} {b:Nat} {v:Value} {e:TypeId} {r:List ResultVar} {vs:List Value} (ht:ScalarTy P t) (h:lk G a=some (.pointer (some ⟨b,0,none⟩))) (hm: .blk b [v] e∈M) (k:RsD P G M r vs):RsD P G M (.cell a t::r) (v::vs)
 |cellN {a:Nat} {t:TypeId} {sz b:Nat} {cs:List Value} {e:TypeId} {r:List ResultVar} {vs:List Value} (ht:AggTy P t sz) (h:lk G a=some (.pointer (some ⟨b,0,none⟩))) (hm: .blk b cs e∈M) (hl:cs.length=sz) (k:RsD P G M r vs):RsD P G M (.cell a t::r) (.agg cs.toArray::vs)
theorem RsD.ok {a:Act} {w:World} (ha:Has n G a) (hw:Mem X w0 M I w) {rs:List ResultVar} {vs:List Value} (h:RsD P G M rs vs):aFZ P a.tmps w rs vs:=by
 induction h with
 |nil=>trivial
 |tmp h _ ih=>exact ⟨by simp [ha.get _ _ h],ih⟩
 |cell ht h hm _ ih=>exact ⟨aFU (by simp [ha.get _ _ h]) (hw.blk hm),ih⟩
 |cellN ht h hm hl _ ih=>exact ⟨aPO (by simp [ha.get _ _ h]) (hw.blk hm) hl,ih⟩
theorem dI {fn:Func} {K:Value→List Ent→List aV→Prop} {rs:List ResultVar} {vs:List Value} {ex:Exit} (he:ex= .ret∨ex= .normal) (hr:fn.results=rs.toArray) (hv:RsD P G M rs vs) (hl:Nat.beq vs.length 1=false) (M':List Ent) (I':List aV) (hM:SubP M M') (hI:Inc I I') (h:K (.tuple vs.toArray) M' I'):
  ND n (Body P fn (KB K X w0)) ex G X w0 M I:=⟨fun w hw=>⟨fun a ha=>by
 unfold Body
 have e1:=zZ P a.tmps w rs vs (hv.ok ha hw)
 have e2:(results fn a.tmps).run P w= .ok (.tuple vs.toArray) w:=by
  have hne:¬vs.length=1:=by intro e;simp [e] at hl
  unfold results
  rw [hr,Sem.run_bind]
  refine (congrArg (fun r=>Result.andThen r fun a w'=>Sem.run P (pure (if h:a.size=1 then a[0] else Value.tuple a)) w') e1).trans ?_
  simp [hne]
 rcases he with rfl|rfl <;>exact ⟨ha.defers,_,e2,_,rfl,M',I',h,hw.weak hM hI⟩⟩⟩
theorem aYQ {fn:Func} {K:Value→List Ent→List aV→Prop} {ex:Exit} {a:Tmp} {t:TypeId} {b:Nat} {v:Value} {e:TypeId} [ScalarTy P t] (he:ex= .ret∨ex= .normal) (hr:fn.results=#[.cell a t]) (hv:lk G a=some (.pointer (some ⟨b,0,none⟩))) (hm: .blk b [v] e∈M) (M':List Ent) (I':List aV) (hM:SubP M M') (hI:Inc I I') (h:K v M' I'):
  ND n (Body P fn (KB K X w0)) ex G X w0 M I:=⟨fun w hw=>⟨fun act ha=>by
 unfold Body
 have e1:act.tmps.getD a undef= .pointer (some ⟨b,0,none⟩):=by simp [ha.get a _ hv]
 have e2:=aEM (P:=P) (t:=t) hr e1 (hw.blk hm)
 rcases he with rfl|rfl <;>exact ⟨ha.defers,_,e2,_,rfl,M',I',h,hw.weak hM hI⟩⟩⟩
end
end Go.Fx
namespace Go.Proofs.YtgpkjcmipiodcaaGreat
open Go Go.Fx
def iv (q:Option Addr) (c:Nat) (z:Int):Value:= .agg #[.bool (B (z < 0)), .slice q (gr z.natAbs).length c]
abbrev rR (q:Option Addr) (n c:Nat):Prop:=(gr n).length≤c∧(Ok q∨((gr n).length=0∧c=0))
structure IsI (u:Value) (z:Int) (k:Nat) (X:List Nat) (w:World):Prop where
 ex:∃q c,u=iv q c z∧rR q z.natAbs c∧z.natAbs≤2 ^ k∧Sl X w q (recs eG (gr z.natAbs))
abbrev iB (u:Value) (z:Int) (k:Nat):aV:=IsI u z k
instance (u:Value) (z:Int) (k:Nat):Fx.Good (IsI u z k):=⟨fun X Y w w' h he hY=>by
 obtain ⟨q,c,h1,h2,h3,h4⟩:=h.ex
 exact ⟨q,c,h1,h2,h3,Sl.carry h4 he hY⟩⟩
def sg (p:Prop) [Decidable p] (n:Nat):Int:=if p then -(n:Int) else n
theorem aTN (p:Prop) [Decidable p] (n:Nat):(sg p n).natAbs=n:=by unfold sg;split <;>omega
theorem sK (z:Int):sg (z < 0) z.natAbs=z:=by unfold sg;split <;>omega
theorem aUS (z:Int):sg (¬z < 0) z.natAbs= -z:=by unfold sg;split <;>omega
theorem sg_lt {p:Prop} [Decidable p] {n:Nat} (h:n≠0):sg p n < 0↔p:=by unfold sg;split <;>simp_all <;>omega
section
variable {P:Program} {n:Nat} {Q:Exit→Act→World→Prop} {G:Env} {X:List Nat} {w0:World} {M M':List Ent} {I I':List aV}
theorem dC {f:FuncId} {vs:List Value} {K:Value→List Ent→List aV→Prop} {u:Value} {z:Int} {k:Nat} (hu:iB u z k∈I)
  (h:∀q c,u=iv q c z→rR q z.natAbs c→z.natAbs≤2 ^ k→CD P f vs X w0 M (aI q (recs eG (gr z.natAbs))::I) K):CD P f vs X w0 M I K:=
 ⟨fun w hw=>by
  obtain ⟨q,c,h1,h2,h3,h4⟩:=((hw.imm _ hu).2).ex
  exact (h q c h1 h2 h3).go w (hw.add (φ:=aI q _) ⟨h4⟩)⟩
theorem aGO {w:World} {q:Option Addr} {c:Nat} {z:Int} {k:Nat} (hw:Mem X w0 M I w) (hm:aI q (recs eG (gr z.natAbs))∈I) (hc:rR q z.natAbs c) (hk:z.natAbs≤2 ^ k):Mem X w0 M (iB (iv q c z) z k::I) w:=
 hw.add (φ:=iB _ z k) ⟨q,c,rfl,hc,hk,hw.sl hm⟩
theorem aEX {ex:Exit} {q:Option Addr} {c:Nat} {z:Int} {k:Nat} (hm:aI q (recs eG (gr z.natAbs))∈I) (hc:rR q z.natAbs c) (hk:z.natAbs≤2 ^ k) (h:ND n Q ex G X w0 M (iB (iv q c z) z k::I)):ND n Q ex G X w0 M I:=aBR (fun _ hw=>aGO hw hm hc hk) h
theorem xM {ops l:List Oper} {m:Fx.Mode} {q:Option Addr} {c:Nat} {z:Int} {k:Nat} (hm:aI q (recs eG (gr z.natAbs))∈I) (hc:rR q z.natAbs c) (hk:z.natAbs≤2 ^ k) (h:RD P n ops Q m l G X w0 M (iB (iv q c z) z k::I)):RD P n ops Q m l G X w0 M I:=xU (fun _ hw=>aGO hw hm hc hk) h
theorem aX {ops l:List Oper} {m:Fx.Mode} {u:Value} {z:Int} {k:Nat} (hu:iB u z k∈I)
  (h:∀q c,u=iv q c z→rR q z.natAbs c→z.natAbs≤2 ^ k→RD P n ops Q m l G X w0 M (aI q (recs eG (gr z.natAbs))::I)):RD P n ops Q m l G X w0 M I:=
 ⟨fun w hw=>by
  obtain ⟨q,c,h1,h2,h3,h4⟩:=((hw.imm _ hu).2).ex
  exact (h q c h1 h2 h3).go w (hw.add (φ:=aI q _) ⟨h4⟩)⟩
theorem IsI.mono {u:Value} {z:Int} {k m:Nat} {X:List Nat} {w:World} (h:IsI u z k X w) (hk:k≤m):IsI u z m X w:=by
 obtain ⟨q,c,h1,h2,h3,h4⟩:=h.ex
 exact ⟨q,c,h1,h2,Nat.le_trans h3 (Nat.pow_le_pow_right (by decide) hk),h4⟩
end
theorem gL {n k:Nat} (h:n≤2 ^ k) (hk:k≤1000000000000):(gr n).length≤40000000000:=by
 have:=dX h
 omega
/- ---------- IndexFunc, ContainsFunc of []uint32 ---------- -/
section
variable {X:List Nat} {w0:World} {M0:List Ent} {I0:List aV}
theorem aYO {q:Option Addr} {a:List Int} {c:Nat} {g:FuncId} [FnOk Tryz.prog g] {fs cs:Array Value} (pr:Int→Prop) [DecidablePred pr] (hn:(a.length:Int)≤9223372036854775807) (ha:aI q (recs eG a)∈I0)
  (hg:∀i:Nat,i < a.length→CD Tryz.prog g (fs.toList++[Value.int .u32 (gt a i)]++cs.toList) X w0 M0 I0 (fun v M I=>M0=M∧I0=I∧v= .bool (B (pr (gt a i))))):
  CD Tryz.prog 210 [.slice q a.length c, .func (.func g) fs cs] X w0 M0 I0 (fun v M I=>M0=M∧I0=I∧∃r:Int,v= .int .i64 r∧((∃i:Nat,i < a.length∧r=i∧pr (gt a i)∧∀j:Nat,j < i→¬pr (gt a j))∨(r= -1∧∀j:Nat,j < a.length→¬pr (gt a j)))):=by
 refine eD Tryz.func210 rfl Tryz.ntmps210 rfl ?_
 repeat refine lY ?_
 refine eO [0,1,7] rfl (fun k G M I=>∃i:Nat,i≤a.length∧k=a.length - i∧(∀j:Nat,j < i→¬pr (gt a j))∧G=[(8, .int .i64 i)]∧M=M0∧I=I0) (a.length) _ _ _ dS bX bV (⟨0,by omega,rfl,fun j hj=>by omega,rfl,rfl,rfl⟩) ?_
 rintro k G M I ⟨i,hi,rfl,hs,rfl,rfl,rfl⟩
 repeat' (first|refine lY ?_|refine aQ rfl (fun h=>?_) (fun h=>?_)|refine aR rfl rfl (fun h=>?_) (fun h=>?_)|fail)
 ·have hlt:i < a.length:=by omega
  (refine aCX rfl rfl (hg i hlt) rfl rfl rfl ?_;rintro _ _ _ ⟨rfl,rfl,rfl⟩;refine ⟨okJ,?_⟩)
  repeat' (first|refine lY ?_|refine aQ rfl (fun h=>?_) (fun h=>?_)|refine aR rfl rfl (fun h=>?_) (fun h=>?_)|fail)
  ·refine aH (by first|exact .inl rfl|exact .inr rfl) rfl rfl _ _ bX bV (⟨rfl,rfl,_,rfl, .inl ⟨i,hlt,rfl,by assumption,hs⟩⟩)
  ·refine bY (a.length - (i+1)) _ _ _ (by first|omega|(simp only [List.length_append,List.length_cons,List.length_nil];omega)) dS bX bV (⟨i+1,by omega,rfl,fun j hj=>?_,rfl,rfl,rfl⟩)
   by_cases e:j=i
   ·subst e;assumption
   ·exact hs j (by omega)
 ·refine aH (by first|exact .inl rfl|exact .inr rfl) rfl rfl _ _ bX bV (⟨rfl,rfl,_,rfl, .inr ⟨rfl,fun j hj=>hs j (by omega)⟩⟩)
theorem aWB {q:Option Addr} {a:List Int} {c:Nat} {g:FuncId} [FnOk Tryz.prog g] {fs cs:Array Value} (pr:Int→Prop) [DecidablePred pr] (hn:(a.length:Int)≤9223372036854775807) (ha:aI q (recs eG a)∈I0)
  (hg:∀i:Nat,i < a.length→CD Tryz.prog g (fs.toList++[Value.int .u32 (gt a i)]++cs.toList) X w0 M0 I0 (fun v M I=>M0=M∧I0=I∧v= .bool (B (pr (gt a i))))):
  CD Tryz.prog 173 [.slice q a.length c, .func (.func g) fs cs] X w0 M0 I0 (fun v M I=>M0=M∧I0=I∧v= .bool (B (∃x∈a,pr x))):=by
 refine eD Tryz.func173 rfl Tryz.ntmps173 rfl ?_
 repeat refine lY ?_
 (refine aU rfl (aYO pr hn ha hg) ?_;rintro _ _ _ ⟨rfl,rfl,r,rfl,h⟩;refine aL ?_)
 repeat refine lY ?_
 refine aH (by first|exact .inl rfl|exact .inr rfl) rfl rfl _ _ bX bV (⟨rfl,rfl,congrArg Value.bool (gU ?_)⟩)
 rcases h with ⟨i,hi,rfl,hp,_⟩|⟨rfl,h⟩
 ·exact ⟨fun _=>⟨gt a i,by rw [eU hi];exact List.getElem_mem hi,hp⟩,fun _=>by omega⟩
 ·refine ⟨fun h=>by omega,?_⟩
  rintro ⟨x,hx,hp⟩
  obtain ⟨j,hj,rfl⟩:=List.mem_iff_getElem.1 hx
  exact absurd (by rw [eU hj];exact hp) (h j hj)
end
/- ---------- Clone of []uint32 ---------- -/
section
variable {X:List Nat} {w0:World} {M0:List Ent} {I0:List aV}
theorem aAQ {q:Option Addr} {a:List Int} {c:Nat} (hn:(a.length:Int)*4≤140737488355328) (hok:Ok q∨(a.length=0∧c=0)) (ha:aI q (recs eG a)∈I0):
  CD Tryz.prog 176 [.slice q a.length c] X w0 M0 I0 (fun v M I=>I0=I∧∃q' c',v= .slice q' a.length c'∧M= .row q' a.length c' (recs eG a) 181 1::M0):=by
 refine eD Tryz.func176 rfl Tryz.ntmps176 rfl ?_
 repeat refine lY ?_
 refine aD rfl (fun _=>wN rfl) rfl rfl ?_
 cases q with
 |some ad=>
  repeat refine lY ?_
  refine lL (cs:=recs eG []) ([]) rfl (fun b1=>?_)
  repeat refine lY ?_
  refine jC (mm:=0) 1 sQ rfl (by omega) ?_
  refine oO (xs:=[]) (ys:=a) 0 rfl rfl rfl (Src.imm aY hok) (by decide) rfl (by simp;omega) (by simp;omega) rfl rfl ?_
  intro a2 c2
  refine ⟨okJ,?_⟩
  repeat refine lY ?_
  refine aH (by first|exact .inl rfl|exact .inr rfl) rfl rfl _ _ bX bV (⟨rfl,a2,c2,by simp,by simp⟩)
 |none=>
  obtain ⟨h0,rfl⟩:a.length=0∧c=0:=hok.resolve_left (fun h=>by obtain ⟨b,o,e⟩:=h.cases;cases e)
  have hnil:a=[]:=List.eq_nil_of_length_eq_zero h0
  subst hnil
  repeat refine lY ?_
  refine aCE 181 1 ?_
  refine aH (by first|exact .inl rfl|exact .inr rfl) rfl rfl _ _ bX bV (⟨rfl,none,0,rfl,rfl⟩)
end
section
variable {X:List Nat} {w0:World} {M0:List Ent} {I0:List aV}
theorem lW {p:Prop} [Decidable p] {q:Option Addr} {n c k:Nat} (hl:(gr n).length≤100000000000) (hc:rR q n c) (hk:n≤2 ^ k) (hq:aI q (recs eG (gr n))∈I0):
  CD Tryz.prog 126 [.bool (B p), .slice q (gr n).length c] X w0 M0 I0 (fun v M I=>M0=M∧I=iB v (sg p n) k::I0):=by
 refine eD Tryz.func126 rfl Tryz.ntmps126 rfl ?_
 refine fE ?_
 refine bG (fun b=>?_)
 repeat refine lY ?_
 (refine aU rfl (sN (l:=gr n) rfl (by omega) hc.1 hq) ?_;rintro _ _ _ ⟨rfl,rfl,rfl⟩;refine aL ?_)
 rw [aCR (aDF n)]
 by_cases h0:(gr n).length=0
 ·have hn:n=0:=nD.1 (List.eq_nil_of_length_eq_zero h0)
  subst hn
  repeat refine lY ?_
  (refine aD rfl (fun _=>aK (pvs:=([]).zipIdx.map (fun p=>(p.2,p.1))) (cells:=[.bool false, .slice none 0 0]) rfl rfl) rfl rfl ?_)
  repeat refine lY ?_
  have hz:sg p 0=0:=by unfold sg;split <;>rfl
  rw [hz]
  have hg0:gr (0:Int).natAbs=[]:=fO
  refine uY none ?_
  refine aEX (q:=none) (c:=0) (z:=0) (k:=k) (by rw [hg0];exact aY) ⟨by rw [hg0];simp, .inr ⟨by rw [hg0];rfl,rfl⟩⟩ (by simp) ?_
  have hiv:iv none 0 0= .agg #[.bool false, .slice none 0 0]:=by unfold iv;rw [hg0,bF (by omega)];rfl
  rw [hiv]
  refine bA (cs:=[.bool false, .slice none 0 0]) (.inl rfl) rfl rfl aY rfl _ _ bX bV ⟨rfl,rfl⟩
 ·have hn:n≠0:=fun e=>h0 (by rw [e,fO];rfl)
  repeat refine lY ?_
  (refine aD rfl (fun _=>aK (pvs:=([.bool (B p), .slice q (gr n).length c]).zipIdx.map (fun p=>(p.2,p.1))) (cells:=[.bool (B p), .slice q (gr n).length c]) rfl rfl) rfl rfl ?_)
  repeat refine lY ?_
  have ha:=aTN p n
  refine aEX (q:=q) (c:=c) (z:=sg p n) (k:=k) (by rw [ha];exact aY) (by rw [ha];exact hc) (by rw [ha];exact hk) ?_
  have hiv:iv q c (sg p n)= .agg #[.bool (B p), .slice q (gr n).length c]:=by unfold iv;rw [ha,gU (sg_lt hn)]
  rw [hiv]
  refine bA (cs:=[.bool (B p), .slice q (gr n).length c]) (.inl rfl) rfl rfl aY rfl _ _ bX bV ⟨rfl,rfl⟩
theorem aXK {x:Int}:CD Tryz.prog 174 [.int .u32 x] X w0 M0 I0 (fun v M I=>M0=M∧I0=I∧v= .bool (B (1000000000≤x))):=by
 refine eD Tryz.func174 rfl Tryz.ntmps174 rfl ?_
 repeat refine lY ?_
 refine aH (by first|exact .inl rfl|exact .inr rfl) rfl rfl _ _ bX bV (⟨rfl,rfl,rfl⟩)
def uN (neg:Bool) (gs:List Int):Prop:=(gs=[]∧neg=false)∨(gs≠[]∧Top gs∧¬∃x∈gs,1000000000≤x)
instance (neg:Bool) (gs:List Int):Decidable (uN neg gs):=by unfold uN;exact inferInstance
theorem aCH {gs:List Int} (h:0 < gs.length):gs.getLastD 1=gt gs ((gs.length:Int) - 1):=by
 rcases List.eq_nil_or_concat gs with rfl|⟨r,x,e⟩
 ·simp at h
 ·rw [List.concat_eq_append] at e
  subst e
  have e1:(((r++[x]).length:Int) - 1)=((r.length:Nat):Int):=by simp
  rw [e1,xR]
  simp
theorem wG {neg:Bool} {q:Option Addr} {gs:List Int} {c:Nat} (hn:(gs.length:Int)≤9223372036854775807) (hq:aI q (recs eG gs)∈I0):
  CD Tryz.prog 132 [.agg #[.bool neg, .slice q gs.length c]] X w0 M0 I0 (fun v M I=>M0=M∧I0=I∧v= .bool (B (uN neg gs))):=by
 refine eD Tryz.func132 rfl Tryz.ntmps132 rfl ?_
 refine fE ?_
 refine tyX rfl (fun b=>?_)
 by_cases h0:gs.length=0
 ·have hg:gs=[]:=List.eq_nil_of_length_eq_zero h0
  subst hg
  repeat refine lY ?_
  refine aH (by first|exact .inl rfl|exact .inr rfl) rfl rfl _ _ bX bV (⟨rfl,rfl,by rw [show (!neg)=B (uN neg []) by rw [rZ];cases neg <;>simp [uN]]⟩)
 ·have hgs:gs≠[]:=fun e=>h0 (by rw [e];rfl)
  have hlast:=aCH (gs:=gs) (by omega)
  repeat' (first|refine lY ?_|refine aQ rfl (fun h=>?_) (fun h=>?_)|refine aR rfl rfl (fun h=>?_) (fun h=>?_)|fail)
  ·refine dP rfl (aWB (fun x=>1000000000≤x) hn hq (fun i hi=>aXK)) ?_
   repeat refine lY ?_
   refine aH (by first|exact .inl rfl|exact .inr rfl) rfl rfl _ _ bX bV (⟨rfl,rfl,congrArg Value.bool (gU ?_)⟩)
   unfold uN Top
   rw [hlast]
   exact ⟨fun h=> .inr ⟨hgs,by assumption,h⟩,fun h=>h.elim (fun h=>absurd h.1 hgs) (fun h=>h.2.2)⟩
  ·refine aH (by first|exact .inl rfl|exact .inr rfl) rfl rfl _ _ bX bV (⟨rfl,rfl,congrArg Value.bool (bF ?_).symm⟩)
   unfold uN Top
   rw [hlast]
   rintro (h|h)
   ·exact hgs h.1
   ·exact absurd h.2.1 (by assumption)
theorem aBE (z:Int):uN (B (z < 0)) (gr z.natAbs):=by
 by_cases h:z.natAbs=0
 ·refine .inl ⟨by rw [h,fO],bF (by omega)⟩
 ·refine .inr ⟨fun e=>h (nD.1 e),aDF _,?_⟩
  rintro ⟨x,hx,h1⟩
  have:=bK z.natAbs x hx
  omega
theorem iF {q:Option Addr} {c k:Nat} {z:Int} (hz:z.natAbs≤2 ^ k) (hk:k≤1000000000000) (hq:aI q (recs eG (gr z.natAbs))∈I0):
  CD Tryz.prog 129 [iv q c z] X w0 M0 I0 (fun v M I=>M0=M∧I0=I∧v= .slice q (gr z.natAbs).length c):=by
 have hl:=gL hz hk
 unfold iv
 refine eD Tryz.func129 rfl Tryz.ntmps129 rfl ?_
 refine fE ?_
 refine tyX rfl (fun b=>?_)
 repeat refine lY ?_
 refine dP rfl (wG (neg:=B (z < 0)) (gs:=gr z.natAbs) (by omega) hq) ?_
 rw [cB (aBE z)]
 repeat refine lY ?_
 refine aH (by first|exact .inl rfl|exact .inr rfl) rfl rfl _ _ bX bV (⟨rfl,rfl,rfl⟩)
theorem oC {u:Value} {z:Int} {k:Nat} (hk:k≤1000000000000) (hu:iB u z k∈I0):CD Tryz.prog 89 [u] X w0 M0 I0 (fun v M I=>M0=M∧I0=I∧v= .int .i64 z.sign):=by
 refine dC hu (fun q c e hc hz=>?_)
 subst e
 unfold iv
 refine eD Tryz.func89 rfl Tryz.ntmps89 rfl ?_
 refine fE ?_
 refine tyX rfl (fun b=>?_)
 repeat refine lY ?_
 refine dP rfl (iF (c:=c) hz hk aY) ?_
 have hnil:(gr z.natAbs).length=0↔z=0:=by
  rw [List.length_eq_zero_iff,nD];omega
 by_cases h0:z=0
 ·have:=hnil.2 h0
  repeat refine lY ?_
  refine aH (by first|exact .inl rfl|exact .inr rfl) rfl rfl _ _ bX bV (⟨rfl,rfl,by rw [h0];rfl⟩)
 ·have:¬(gr z.natAbs).length=0:=fun h=>h0 (hnil.1 h)
  repeat' (first|refine lY ?_|refine aQ rfl (fun h=>?_) (fun h=>?_)|refine aR rfl rfl (fun h=>?_) (fun h=>?_)|fail)
  ·refine aH (by first|exact .inl rfl|exact .inr rfl) rfl rfl _ _ bX bV (⟨rfl,rfl,by rw [Int.sign_eq_neg_one_of_neg (by assumption)]⟩)
  ·refine aH (by first|exact .inl rfl|exact .inr rfl) rfl rfl _ _ bX bV (⟨rfl,rfl,by rw [Int.sign_eq_one_of_pos (by omega)]⟩)
theorem aHL {u:Value} {z:Int} {k:Nat} (hk:k≤1000000000000) (hu:iB u z k∈I0):CD Tryz.prog 144 [u] X w0 M0 I0 (fun v M I=>M0=M∧I=iB v (-z) k::I0):=by
 refine dC hu (fun q c e hc hz=>?_)
 subst e
 have hl:=gL hz hk
 unfold iv
 refine eD Tryz.func144 rfl Tryz.ntmps144 rfl ?_
 refine fE ?_
 refine tyX rfl (fun b=>?_)
 refine bG (fun b2=>?_)
 repeat refine lY ?_
 (repeat refine aJ ?_);refine aO 3 [0,1,2,3,4,5,6,7] [3,3,2,2,0,0,0,0] mixed (by kernel_rfl) ?_
 repeat refine lY ?_
 refine dP rfl (iF (c:=c) hz hk aY) ?_
 repeat refine lY ?_
 (refine aU rfl (aAQ (a:=gr z.natAbs) (by omega) hc.2 aY) ?_;rintro _ _ _ ⟨rfl,q',c',rfl,rfl⟩;refine aL ?_)
 refine qK (fun w hw=>And.intro (hw.rowLe (List.Mem.head _)) ((hw.rowS (List.Mem.head _)).2.imp id And.right)) (fun hc'=>?_)
 refine gW yI ?_
 repeat refine lY ?_
 rw [←aUS z]
 (refine lX rfl (lW (p:=¬z < 0) (k:=k) (by omega) hc' hz aY) rfl rfl ?_;rintro _ _ _ ⟨rfl,rfl⟩;refine ⟨okJ,?_⟩;refine aX (List.Mem.head _) (fun q2 c2 e__ hc2 hz2=>?_);subst e__)
 unfold iv
 repeat refine lY ?_
 refine bA (cs:=[.bool (B (sg (¬z < 0) z.natAbs < 0)), .slice q2 (gr (sg (¬z < 0) z.natAbs).natAbs).length c2]) (.inl rfl) rfl rfl aY rfl _ _ bX bV ⟨rfl,rfl⟩
theorem sZ {u v:Value} {y z:Int} {k m:Nat} (hk:k+m≤1000000000000) (hu:iB u y k∈I0) (hv:iB v z m∈I0):CD Tryz.prog 74 [u,v] X w0 M0 I0 (fun v M I=>M0=M∧I=iB v (y*z) (k+m)::I0):=by
 refine dC hu (fun q c e hc hy=>?_)
 subst e
 refine dC (List.Mem.tail _ hv) (fun q' c' e hc' hz=>?_)
 subst e
 have hl:=gL hy (by omega)
 have hl':=gL hz (by omega)
 unfold iv
 refine eD Tryz.func74 rfl Tryz.ntmps74 rfl ?_
 refine fE ?_
 refine tyX rfl (fun b=>?_)
 refine tyX rfl (fun b2=>?_)
 refine bG (fun b3=>?_)
 repeat refine lY ?_
 (repeat refine aJ ?_);refine aO 4 [0,1,2,3,4,5,7,6,8,9,10,11] [4,4,4,4,3,3,3,0,0,0,0,0] mixed (by kernel_rfl) ?_
 repeat refine lY ?_
 refine dP rfl (iF (c:=c) hy (by omega) aY) ?_
 repeat refine lY ?_
 refine dP rfl (iF (c:=c') hz (by omega) aY) ?_
 repeat refine lY ?_
 (refine aU rfl (aUD (by omega) (by omega) aY aY) ?_;rintro _ _ _ ⟨rfl,q3,c3,rfl,hc3,rfl⟩;refine aL ?_)
 have hyz:y.natAbs*z.natAbs≤2 ^ (k+m):=jJ hy hz
 have hl3:=gL hyz (by omega)
 have hsg:sg (¬(y < 0↔z < 0)) (y.natAbs*z.natAbs)=y*z:=by
  unfold sg
  rw [Int.natCast_mul]
  by_cases h1:y < 0 <;>by_cases h2:z < 0 <;>simp only [h1,h2,not_true_eq_false,not_false_eq_true,iff_true,iff_false,if_true,if_false]
  ·rw [show (y.natAbs:Int)= -y by omega,show (z.natAbs:Int)= -z by omega,Int.neg_mul_neg]
  ·rw [show (y.natAbs:Int)= -y by omega,show (z.natAbs:Int)=z by omega,Int.neg_mul,Int.neg_neg]
  ·rw [show (y.natAbs:Int)=y by omega,show (z.natAbs:Int)= -z by omega,Int.mul_neg,Int.neg_neg]
  ·rw [show (y.natAbs:Int)=y by omega,show (z.natAbs:Int)=z by omega]
 rw [←hsg]
 (refine lX rfl (lW (p:=¬(y < 0↔z < 0)) (k:=k+m) (by omega) hc3 hyz aY) rfl rfl ?_;rintro _ _ _ ⟨rfl,rfl⟩;refine ⟨okJ,?_⟩;refine aX (List.Mem.head _) (fun q2 c2 e__ hc2 hz2=>?_);subst e__)
 unfold iv
 repeat refine lY ?_
 refine bA (cs:=[.bool (B (sg (¬(y < 0↔z < 0)) (y.natAbs*z.natAbs) < 0)), .slice q2 (gr (sg (¬(y < 0↔z < 0)) (y.natAbs*z.natAbs)).natAbs).length c2]) (.inl rfl) rfl rfl aY rfl _ _ bX bV ⟨rfl,rfl⟩
end
end Go.Proofs.YtgpkjcmipiodcaaGreat

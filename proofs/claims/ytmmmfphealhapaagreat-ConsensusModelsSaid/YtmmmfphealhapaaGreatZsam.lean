/- fiducialref01: plus, minus, scaled, shifted, size fiducialref01: short, parts fiducialref0 -/
import Derived.Test.YtmmmfphealhapaaGreatZsal
import Derived.Test.YtmmmfphealhapaaGreatZsah
import Derived.Test.YtmmmfphealhapaaGreatZsak
import Derived.Test.YtmmmfphealhapaaGreatZsaj
import Derived.Test.YtmmmfphealhapaaGreatZsai
set_option linter.unusedSimpArgs false
set_option linter.unusedVariables false
set_option maxRecDepth 100000
set_option maxHeartbeats 4000000
namespace Go.Proofs.YtmmmfphealhapaaGreat
open Go Go.Fx
theorem wY (l:List Int) (x:Int):val (l++[x])=val l+1000000000 ^ l.length*x:=by rw [val_append];simp [val]
theorem qD (l:List Int) (i:Nat):val (l.take (i+1))=val (l.take i)+1000000000 ^ i*gt l (i:Int):=by rw [bT,xV]
section
variable {X:List Nat} {w0:World} {M0:List Ent} {I0:List aM}
theorem nS {q:Option Addr} {l:List Int} {n c:Nat} (h63:l.length≤1000000000000) (hc:l.length≤c) (hok:Ok q∨(l.length=0∧c=0)) (hd:Dig l) (hv:val l=n) (hl:aH q (recs eG l)∈I0):
  CD Tryz.prog 228 [.bool false, .slice q l.length c] X w0 M0 I0 (fun v M I=>M0=M∧∃q' c',v= .agg #[.bool (B (False∧n≠0)), .slice q' (gr n).length c']∧sF q' n c'∧I=aH q' (recs eG (gr n))::I0):=by
 have:=aHJ (X:=X) (w0:=w0) (M0:=M0) (I0:=I0) (p:=False) h63 hc hok hd hv hl
 rwa [bE (show ¬False from id)] at this
theorem aDV {s:Int} (h:0≤s):s.tmod 1000000000=s % 1000000000:=Int.tmod_eq_emod_of_nonneg h
theorem aEV {s:Int} (h:0≤s):s.tdiv 1000000000=s / 1000000000:=Int.tdiv_eq_ediv_of_nonneg h
theorem aVF {p q:Option Addr} {m n cp cq:Nat} (hm:(gr m).length≤100000000000) (hn:(gr n).length≤100000000000) (hp:aH p (recs eG (gr m))∈I0) (hq:aH q (recs eG (gr n))∈I0):
  CD Tryz.prog 260 [.slice p (gr m).length cp, .slice q (gr n).length cq] X w0 M0 I0 (GrP (m+n) M0 I0):=by
 have da:=bR m
 have db:=bR n
 have va:=cO m
 have vb:=cO n
 generalize ha:gr m=a at*
 generalize hb:gr n=b at*
 obtain ⟨N,hN⟩:∃N:Nat,N=max a.length b.length:=⟨_,rfl⟩
 refine aN Tryz.func260 rfl Tryz.ntmps260 rfl ?_
 repeat' (first|refine aR ?_|refine aK rfl (fun h=>?_) (fun h=>?_)|refine aJ rfl rfl (fun h=>?_) (fun h=>?_)|fail)
 refine gX (cs:=recs eG []) ([]) rfl (fun b1=>?_)
 repeat' (first|refine aR ?_|refine aK rfl (fun h=>?_) (fun h=>?_)|refine aJ rfl rfl (fun h=>?_) (fun h=>?_)|fail)
 refine uH (b:=b1) (mm:=0) 1 jL rfl (by omega) ?_
 refine bX [0,1] rfl (fun k G M I=>∃(i:Nat) (o:List Int) (cr:Int) (q1:Option Addr) (c1:Nat),i≤N∧k=N - i∧o.length=i∧Dig o∧(0≤cr∧cr≤1)∧val o+1000000000 ^ i*cr=val (a.take i)+val (b.take i)∧G=[(5, .slice q1 o.length c1),(6, .int .u64 cr),(7, .int .i64 i)]∧M= .row q1 o.length c1 (recs eG o) 121 1::M0∧I0=I) (N) _ _ _ dE aF aD (⟨0,[],0,_,_,by omega,rfl,rfl,Dig.nil,by omega,by simp [val],rfl,rfl,rfl⟩) ?_
 rintro k G M I ⟨i,o,cr,q1,c1,hi,rfl,ho,hd,hcr,hv,rfl,rfl,rfl⟩
 by_cases hiN:i < N
 ·have d1:=da.gt i
  have d2:=db.gt i
  have e1:=aDV (s:=gt a i+gt b i+cr) (by omega)
  have e2:=aEV (s:=gt a i+gt b i+cr) (by omega)
  obtain ⟨s,hs⟩:∃s,s=(gt a i+gt b i+cr) % 1000000000:=⟨_,rfl⟩
  obtain ⟨t,ht⟩:∃t,t=(gt a i+gt b i+cr) / 1000000000:=⟨_,rfl⟩
  have hst:0≤s∧s < 1000000000∧0≤t∧t≤1∧s+1000000000*t=gt a i+gt b i+cr:=by omega
  rw [←hs] at e1
  rw [←ht] at e2
  have hG:=fun M0 I0=>qK (X:=X) (w0:=w0) (M0:=M0) (I0:=I0) (q:=p) (l:=a) (n:=a.length) (c:=cp) (i:=i) rfl (by omega)
  have hG2:=fun M0 I0=>qK (X:=X) (w0:=w0) (M0:=M0) (I0:=I0) (q:=q) (l:=b) (n:=b.length) (c:=cq) (i:=i) rfl (by omega)
  repeat' (first|refine aR ?_|refine aK rfl (fun h=>?_) (fun h=>?_)|refine aJ rfl rfl (fun h=>?_) (fun h=>?_)|fail)
  all_goals
   refine dK rfl (hG _ _ aA da) ?_
   repeat' (first|refine aR ?_|refine aK rfl (fun h=>?_) (fun h=>?_)|refine aJ rfl rfl (fun h=>?_) (fun h=>?_)|fail)
   refine dK rfl (hG2 _ _ aA db) ?_
   repeat' (first|refine aR ?_|refine aK rfl (fun h=>?_) (fun h=>?_)|refine aJ rfl rfl (fun h=>?_) (fun h=>?_)|fail)
   rw [e1]
   repeat' (first|refine aR ?_|refine aK rfl (fun h=>?_) (fun h=>?_)|refine aJ rfl rfl (fun h=>?_) (fun h=>?_)|fail)
   refine gX (cs:=recs eG [s]) ([.int .u32 s]) rfl (fun b2=>?_)
   refine wB (ys:=[s]) 1 rfl rfl rfl (fun a2 c2=>?_)
   repeat' (first|refine aR ?_|refine aK rfl (fun h=>?_) (fun h=>?_)|refine aJ rfl rfl (fun h=>?_) (fun h=>?_)|fail)
   rw [e2]
   refine gJ (N - (i+1)) (⟨i+1,o++[s],t,a2,c2,by omega,rfl,by simp;omega,hd.snoc (by omega),by omega,?_,rfl,rfl,rfl⟩)
   rw [wY,qD,qD,ho,Int.pow_succ,Int.mul_assoc]
   have h3:=congrArg (fun x=>1000000000 ^ i*x) hst.2.2.2.2
   simp only [Int.mul_add] at h3 hv ⊢
   omega
 ·obtain rfl:i=N:=by omega
  rw [List.take_of_length_le (show a.length≤i by omega),List.take_of_length_le (show b.length≤i by omega),va,vb] at hv
  have hv2:val (o++[cr])=((m+n:Nat):Int):=by rw [wY,ho,hv];omega
  have hd2:Dig (o++[cr]):=hd.snoc (by omega)
  repeat' (first|refine aR ?_|refine aK rfl (fun h=>?_) (fun h=>?_)|refine aJ rfl rfl (fun h=>?_) (fun h=>?_)|fail)
  refine gX (cs:=recs eG [cr]) ([.int .u32 cr]) rfl (fun b2=>?_)
  refine wB (ys:=[cr]) 1 rfl rfl rfl (fun a2 c2=>?_)
  refine nG (fun w hw=>And.intro (hw.rowLe (List.Mem.tail _ (List.Mem.head _))) ((hw.rowS (List.Mem.tail _ (List.Mem.head _))).2.imp id And.right)) (fun ho3=>?_)
  refine eX xW ?_
  (refine bY rfl (nS (by simp;omega) ho3.1 ho3.2 hd2 hv2 aA) rfl rfl ?_;rintro _ _ _ ⟨rfl,q',c',rfl,hc',rfl⟩;refine aL ?_)
  repeat' (first|refine aR ?_|refine aK rfl (fun h=>?_) (fun h=>?_)|refine aJ rfl rfl (fun h=>?_) (fun h=>?_)|fail)
  refine iA rfl rfl (⟨rfl,q',c',rfl,hc',rfl⟩)
theorem xH {p q:Option Addr} {m n cp cq:Nat} (hm:(gr m).length≤100000000000) (hle:n≤m) (hp:aH p (recs eG (gr m))∈I0) (hq:aH q (recs eG (gr n))∈I0):
  CD Tryz.prog 262 [.slice p (gr m).length cp, .slice q (gr n).length cq] X w0 M0 I0 (GrP (m - n) M0 I0):=by
 have da:=bR m
 have db:=bR n
 have va:=cO m
 have vb:=cO n
 have hl:(gr n).length≤(gr m).length:=gV hle
 generalize ha:gr m=a at*
 generalize hb:gr n=b at*
 obtain ⟨N,hN⟩:∃N:Nat,N=a.length:=⟨_,rfl⟩
 refine aN Tryz.func262 rfl Tryz.ntmps262 rfl ?_
 repeat' (first|refine aR ?_|refine aK rfl (fun h=>?_) (fun h=>?_)|refine aJ rfl rfl (fun h=>?_) (fun h=>?_)|fail)
 refine gX (cs:=recs eG []) ([]) rfl (fun b1=>?_)
 repeat' (first|refine aR ?_|refine aK rfl (fun h=>?_) (fun h=>?_)|refine aJ rfl rfl (fun h=>?_) (fun h=>?_)|fail)
 refine uH (b:=b1) (mm:=0) 1 jL rfl (by omega) ?_
 refine bX [0,1] rfl (fun k G M I=>∃(i:Nat) (o:List Int) (cr:Int) (q1:Option Addr) (c1:Nat),i≤N∧k=N - i∧o.length=i∧Dig o∧(0≤cr∧cr≤1)∧val o - 1000000000 ^ i*cr=val (a.take i) - val (b.take i)∧G=[(5, .slice q1 o.length c1),(6, .int .u64 cr),(7, .int .i64 i)]∧M= .row q1 o.length c1 (recs eG o) 121 1::M0∧I0=I) (N) _ _ _ dE aF aD (⟨0,[],0,_,_,by omega,rfl,rfl,Dig.nil,by omega,by simp [val],rfl,rfl,rfl⟩) ?_
 rintro k G M I ⟨i,o,cr,q1,c1,hi,rfl,ho,hd,hcr,hv,rfl,rfl,rfl⟩
 by_cases hiN:i < N
 ·have d1:=da.gt i
  have d2:=db.gt i
  have e1:=aDV (s:=1000000000+gt a i - gt b i - cr) (by omega)
  have e2:=aEV (s:=1000000000+gt a i - gt b i - cr) (by omega)
  obtain ⟨s,hs⟩:∃s,s=(1000000000+gt a i - gt b i - cr) % 1000000000:=⟨_,rfl⟩
  obtain ⟨t,ht⟩:∃t,t=(1000000000+gt a i - gt b i - cr) / 1000000000:=⟨_,rfl⟩
  have hst:0≤s∧s < 1000000000∧0≤t∧t≤1∧s - 1000000000*(1 - t)=gt a i - gt b i - cr:=by omega
  rw [←hs] at e1
  rw [←ht] at e2
  have hG:=fun M0 I0=>qK (X:=X) (w0:=w0) (M0:=M0) (I0:=I0) (q:=p) (l:=a) (n:=a.length) (c:=cp) (i:=i) rfl (by omega)
  have hG2:=fun M0 I0=>qK (X:=X) (w0:=w0) (M0:=M0) (I0:=I0) (q:=q) (l:=b) (n:=b.length) (c:=cq) (i:=i) rfl (by omega)
  repeat' (first|refine aR ?_|refine aK rfl (fun h=>?_) (fun h=>?_)|refine aJ rfl rfl (fun h=>?_) (fun h=>?_)|fail)
  refine dK rfl (hG _ _ aA da) ?_
  repeat' (first|refine aR ?_|refine aK rfl (fun h=>?_) (fun h=>?_)|refine aJ rfl rfl (fun h=>?_) (fun h=>?_)|fail)
  refine dK rfl (hG2 _ _ aA db) ?_
  repeat' (first|refine aR ?_|refine aK rfl (fun h=>?_) (fun h=>?_)|refine aJ rfl rfl (fun h=>?_) (fun h=>?_)|fail)
  rw [e1]
  repeat' (first|refine aR ?_|refine aK rfl (fun h=>?_) (fun h=>?_)|refine aJ rfl rfl (fun h=>?_) (fun h=>?_)|fail)
  refine gX (cs:=recs eG [s]) ([.int .u32 s]) rfl (fun b2=>?_)
  refine wB (ys:=[s]) 1 rfl rfl rfl (fun a2 c2=>?_)
  repeat' (first|refine aR ?_|refine aK rfl (fun h=>?_) (fun h=>?_)|refine aJ rfl rfl (fun h=>?_) (fun h=>?_)|fail)
  rw [e2]
  repeat' (first|refine aR ?_|refine aK rfl (fun h=>?_) (fun h=>?_)|refine aJ rfl rfl (fun h=>?_) (fun h=>?_)|fail)
  refine gJ (N - (i+1)) (⟨i+1,o++[s],1 - t,a2,c2,by omega,rfl,by simp;omega,hd.snoc (by omega),by omega,?_,rfl,rfl,rfl⟩)
  rw [wY,qD,qD,ho,Int.pow_succ,Int.mul_assoc]
  have h3:=congrArg (fun x=>1000000000 ^ i*x) hst.2.2.2.2
  simp only [Int.mul_sub] at h3 hv ⊢
  omega
 ·obtain rfl:i=N:=by omega
  rw [List.take_of_length_le (show a.length≤i by omega),List.take_of_length_le (show b.length≤i by omega),va,vb] at hv
  have hcr0:cr=0:=by
   have h1:=jR hd
   rw [ho] at h1
   by_cases c:cr=0
   ·exact c
   ·have:cr=1:=by omega
    subst this
    omega
  subst hcr0
  have hv2:val o=((m - n:Nat):Int):=by omega
  refine aCV (fun w hw=>And.intro (hw.rowLe (List.Mem.head _)) ((hw.rowS (List.Mem.head _)).2.imp id And.right)) (fun ho3=>?_)
  repeat' (first|refine aR ?_|refine aK rfl (fun h=>?_) (fun h=>?_)|refine aJ rfl rfl (fun h=>?_) (fun h=>?_)|fail)
  refine eX xW ?_
  (refine aQ rfl (nS (by omega) ho3.1 ho3.2 hd hv2 aA) ?_;rintro _ _ _ ⟨rfl,q',c',rfl,hc',rfl⟩;refine aL ?_)
  repeat' (first|refine aR ?_|refine aK rfl (fun h=>?_) (fun h=>?_)|refine aJ rfl rfl (fun h=>?_) (fun h=>?_)|fail)
  refine iA rfl rfl (⟨rfl,q',c',rfl,hc',rfl⟩)
theorem yT {p:Option Addr} {m d cp:Nat} (hm:(gr m).length≤100000000000) (hdd:d < 1000000000) (hp:aH p (recs eG (gr m))∈I0):
  CD Tryz.prog 276 [.slice p (gr m).length cp, .int .u64 (d:Int)] X w0 M0 I0 (GrP (m*d) M0 I0):=by
 have da:=bR m
 have va:=cO m
 generalize ha:gr m=a at*
 obtain ⟨N,hN⟩:∃N:Nat,N=a.length:=⟨_,rfl⟩
 refine aN Tryz.func276 rfl Tryz.ntmps276 rfl ?_
 repeat' (first|refine aR ?_|refine aK rfl (fun h=>?_) (fun h=>?_)|refine aJ rfl rfl (fun h=>?_) (fun h=>?_)|fail)
 refine gX (cs:=recs eG []) ([]) rfl (fun b1=>?_)
 repeat' (first|refine aR ?_|refine aK rfl (fun h=>?_) (fun h=>?_)|refine aJ rfl rfl (fun h=>?_) (fun h=>?_)|fail)
 refine uH (b:=b1) (mm:=0) 1 jL rfl (by omega) ?_
 refine bX [0,1] rfl (fun k G M I=>∃(i:Nat) (o:List Int) (cr:Int) (q1:Option Addr) (c1:Nat),i≤N∧k=N - i∧o.length=i∧Dig o∧(0≤cr∧cr < 1000000000)∧val o+1000000000 ^ i*cr=val (a.take i)*d∧G=[(5, .slice q1 o.length c1),(6, .int .u64 cr),(7, .int .i64 i)]∧M= .row q1 o.length c1 (recs eG o) 121 1::M0∧I0=I) (N) _ _ _ dE aF aD (⟨0,[],0,_,_,by omega,rfl,rfl,Dig.nil,by omega,by simp [val],rfl,rfl,rfl⟩) ?_
 rintro k G M I ⟨i,o,cr,q1,c1,hi,rfl,ho,hd,hcr,hv,rfl,rfl,rfl⟩
 by_cases hiN:i < N
 ·have d1:=da.gt i
  have d4:=tY d1 (q:=(d:Int)) ⟨by omega,by omega⟩ (o:=0) (by omega) hcr
  obtain ⟨d5,d6,d7⟩:=d4
  rw [Int.zero_add] at d6 d7
  have d8:0≤gt a i*(d:Int)∧gt a i*(d:Int)≤18446744073709551615:=by omega
  have e1:=aDV d6.1
  have e2:=aEV d6.1
  obtain ⟨s,hs⟩:∃s,s=(gt a i*(d:Int)+cr) % 1000000000:=⟨_,rfl⟩
  obtain ⟨t,ht⟩:∃t,t=(gt a i*(d:Int)+cr) / 1000000000:=⟨_,rfl⟩
  have hst:0≤s∧s < 1000000000∧s+1000000000*t=gt a i*(d:Int)+cr:=by omega
  rw [←hs] at e1
  rw [←ht] at e2 d7
  repeat' (first|refine aR ?_|refine aK rfl (fun h=>?_) (fun h=>?_)|refine aJ rfl rfl (fun h=>?_) (fun h=>?_)|fail)
  rw [e1]
  repeat' (first|refine aR ?_|refine aK rfl (fun h=>?_) (fun h=>?_)|refine aJ rfl rfl (fun h=>?_) (fun h=>?_)|fail)
  refine gX (cs:=recs eG [s]) ([.int .u32 s]) rfl (fun b2=>?_)
  refine wB (ys:=[s]) 1 rfl rfl rfl (fun a2 c2=>?_)
  repeat' (first|refine aR ?_|refine aK rfl (fun h=>?_) (fun h=>?_)|refine aJ rfl rfl (fun h=>?_) (fun h=>?_)|fail)
  rw [e2]
  refine gJ (N - (i+1)) (⟨i+1,o++[s],t,a2,c2,by omega,rfl,by simp;omega,hd.snoc (by omega),d7,?_,rfl,rfl,rfl⟩)
  rw [wY,qD,ho,Int.pow_succ,Int.mul_assoc,Int.add_mul,Int.mul_assoc]
  have h3:=congrArg (fun x=>1000000000 ^ i*x) hst.2.2
  simp only [Int.mul_add] at h3 hv ⊢
  omega
 ·obtain rfl:i=N:=by omega
  rw [List.take_of_length_le (show a.length≤i by omega),va] at hv
  have hv2:val (o++[cr])=((m*d:Nat):Int):=by rw [wY,ho,hv];simp
  have hd2:Dig (o++[cr]):=hd.snoc (by omega)
  repeat' (first|refine aR ?_|refine aK rfl (fun h=>?_) (fun h=>?_)|refine aJ rfl rfl (fun h=>?_) (fun h=>?_)|fail)
  refine gX (cs:=recs eG [cr]) ([.int .u32 cr]) rfl (fun b2=>?_)
  refine wB (ys:=[cr]) 1 rfl rfl rfl (fun a2 c2=>?_)
  refine nG (fun w hw=>And.intro (hw.rowLe (List.Mem.tail _ (List.Mem.head _))) ((hw.rowS (List.Mem.tail _ (List.Mem.head _))).2.imp id And.right)) (fun ho3=>?_)
  refine eX xW ?_
  (refine bY rfl (nS (by simp;omega) ho3.1 ho3.2 hd2 hv2 aA) rfl rfl ?_;rintro _ _ _ ⟨rfl,q',c',rfl,hc',rfl⟩;refine aL ?_)
  repeat' (first|refine aR ?_|refine aK rfl (fun h=>?_) (fun h=>?_)|refine aJ rfl rfl (fun h=>?_) (fun h=>?_)|fail)
  refine iA rfl rfl (⟨rfl,q',c',rfl,hc',rfl⟩)
theorem aJQ {p:Option Addr} {m d cp:Nat} (hm:(gr m).length≤100000000000) (hdd:d < 1000000000) (hc:sF p m cp) (hp:aH p (recs eG (gr m))∈I0):
  CD Tryz.prog 277 [.slice p (gr m).length cp, .int .u32 (d:Int)] X w0 M0 I0 (GrP (m*1000000000+d) M0 I0):=by
 have da:=bR m
 have va:=cO m
 obtain ⟨hc1,hc2⟩:=hc
 generalize ha:gr m=a at*
 have hd2:Dig ([(d:Int)]++a):=Dig.app.2 ⟨by rw [Dig.cons];exact ⟨by omega,Dig.nil⟩,da⟩
 have hv2:val ([(d:Int)]++a)=((m*1000000000+d:Nat):Int):=by simp only [val_append,val,List.length_cons,List.length_nil,va];omega
 refine aN Tryz.func277 rfl Tryz.ntmps277 rfl ?_
 repeat' (first|refine aR ?_|refine aK rfl (fun h=>?_) (fun h=>?_)|refine aJ rfl rfl (fun h=>?_) (fun h=>?_)|fail)
 refine gX (cs:=recs eG [(d:Int)]) ([.int .u32 (d:Int)]) rfl (fun b1=>?_)
 repeat' (first|refine aR ?_|refine aK rfl (fun h=>?_) (fun h=>?_)|refine aJ rfl rfl (fun h=>?_) (fun h=>?_)|fail)
 refine gF (b:=b1) (mm:=1) 1 jL rfl (by omega) ?_
 refine iE (xs:=[(d:Int)]) (ys:=a) 0 rfl rfl rfl (Src.imm aA hc2) (by decide) rfl (by simp;omega) (by simp;omega) rfl rfl ?_
 intro a2 c2
 refine aL ?_
 refine nG (fun w hw=>And.intro (hw.rowLe (List.Mem.head _)) ((hw.rowS (List.Mem.head _)).2.imp id And.right)) (fun ho3=>?_)
 refine eX xW ?_
 (refine bY rfl (nS (by simp;omega) ho3.1 ho3.2 hd2 hv2 aA) rfl rfl ?_;rintro _ _ _ ⟨rfl,q',c',rfl,hc',rfl⟩;refine aL ?_)
 repeat' (first|refine aR ?_|refine aK rfl (fun h=>?_) (fun h=>?_)|refine aJ rfl rfl (fun h=>?_) (fun h=>?_)|fail)
 refine iA rfl rfl (⟨rfl,q',c',rfl,hc',rfl⟩)
theorem zH {p q:Option Addr} {m n cp cq:Nat} (hm:(gr m).length≤100000000000) (hn:(gr n).length≤100000000000) (hp:aH p (recs eG (gr m))∈I0) (hq:aH q (recs eG (gr n))∈I0):
  CD Tryz.prog 261 [.slice p (gr m).length cp, .slice q (gr n).length cq] X w0 M0 I0 (fun v M I=>M0=M∧I0=I∧v= .int .i64 (fV m n)):=by
 have ca:=wX m
 have cb:=wX n
 have va:=cO m
 have vb:=cO n
 generalize ha:gr m=a at*
 generalize hb:gr n=b at*
 refine aN Tryz.func261 rfl Tryz.ntmps261 rfl ?_
 by_cases hl:a.length=b.length
 ·repeat' (first|refine aR ?_|refine aK rfl (fun h=>?_) (fun h=>?_)|refine aJ rfl rfl (fun h=>?_) (fun h=>?_)|fail)
  refine bX [0,1] rfl (fun k G M I=>∃(i:Nat) (x:Int),i≤a.length∧k=i∧x=(i:Int) - 1∧a.drop i=b.drop i∧G=[(5, .int .i64 x)]∧M0=M∧I0=I) (a.length) _ _ _ dE aF aD (⟨a.length,_,by omega,rfl,rfl,by rw [List.drop_of_length_le (by omega),List.drop_of_length_le (by omega)],rfl,rfl,rfl⟩) ?_
  rintro k G M I ⟨i,x,hi,rfl,hx,hs,rfl,rfl,rfl⟩
  by_cases h0:k=0
  ·subst h0
   rw [List.drop_zero,List.drop_zero] at hs
   have e:(m:Int)=n:=by rw [←va,←vb,hs]
   have hc0:fV (m:Int) n=0:=by unfold fV;rw [if_neg (by omega),if_neg (by omega)]
   rw [hc0]
   repeat' (first|refine aR ?_|refine aK rfl (fun h=>?_) (fun h=>?_)|refine aJ rfl rfl (fun h=>?_) (fun h=>?_)|fail)
   refine iA rfl rfl (⟨rfl,rfl,rfl⟩)
  ·obtain ⟨j,rfl⟩:∃j,k=j+1:=⟨k - 1,by omega⟩
   obtain rfl:x=(j:Int):=by omega
   have hlt:gt a (j:Int) < gt b (j:Int)→fV (m:Int) n= -1:=fun h=>by
    rw [xV,xV] at h
    have:=aVE ca.1 cb.1 hl (by omega) hs h
    rw [va,vb] at this
    exact if_pos this
   have hgt:gt b (j:Int) < gt a (j:Int)→fV (m:Int) n=1:=fun h=>by
    rw [xV,xV] at h
    have:=aVE cb.1 ca.1 hl.symm (by omega) hs.symm h
    rw [va,vb] at this
    unfold fV
    rw [if_neg (by omega),if_pos this]
   have heq:gt a (j:Int)=gt b (j:Int)→a.drop j=b.drop j:=fun h=>by
    rw [xV,xV] at h
    exact aXY hl (by omega) h hs
   repeat' (first|refine aR ?_|refine aK rfl (fun h=>?_) (fun h=>?_)|refine aJ rfl rfl (fun h=>?_) (fun h=>?_)|fail)
   (repeat refine aG ?_);refine dJ [0,1,2,3,4,5,6,7,8] [0,0,0,0,0,0,0,0,0] mixed (by kernel_rfl) ?_
   repeat' (first|refine aR ?_|refine aK rfl (fun h=>?_) (fun h=>?_)|refine aJ rfl rfl (fun h=>?_) (fun h=>?_)|fail)
   ·rw [hlt (by assumption)]
    refine iA rfl rfl (⟨rfl,rfl,rfl⟩)
   (repeat refine aG ?_);refine dJ [0,1,2,3,4,5,6,7,8] [0,0,0,0,0,0,0,0,0] mixed (by kernel_rfl) ?_
   repeat' (first|refine aR ?_|refine aK rfl (fun h=>?_) (fun h=>?_)|refine aJ rfl rfl (fun h=>?_) (fun h=>?_)|fail)
   ·rw [hgt (by assumption)]
    refine iA rfl rfl (⟨rfl,rfl,rfl⟩)
   ·repeat' (first|refine aR ?_|refine aK rfl (fun h=>?_) (fun h=>?_)|refine aJ rfl rfl (fun h=>?_) (fun h=>?_)|fail)
    refine gJ (j) (⟨j,(j:Int) - 1,by omega,rfl,by omega,heq (by omega),rfl,rfl,rfl⟩)
 ·have hlt:a.length < b.length→fV (m:Int) n= -1:=fun h=>by
   have:=aIQ ca cb h
   rw [va,vb] at this
   exact if_pos this
  have hgt:b.length < a.length→fV (m:Int) n=1:=fun h=>by
   have:=aIQ cb ca h
   rw [va,vb] at this
   unfold fV
   rw [if_neg (by omega),if_pos this]
  repeat' (first|refine aR ?_|refine aK rfl (fun h=>?_) (fun h=>?_)|refine aJ rfl rfl (fun h=>?_) (fun h=>?_)|fail)
  ·rw [hlt (by omega)]
   refine iA rfl rfl (⟨rfl,rfl,rfl⟩)
  ·rw [hgt (by omega)]
   refine iA rfl rfl (⟨rfl,rfl,rfl⟩)
end
theorem aEZ {n i:Nat}:0≤gt (gr n) (i:Int)∧gt (gr n) (i:Int) < 1000000000:=(bR n).gt i
theorem aVA {a:Option Addr} {c l sz:Nat} (h:Ok a):Ok (wL a c l sz):=by
 obtain ⟨b,o,rfl⟩:=h.cases
 unfold wL
 split
 ·exact Ok.mk _ _
 ·simp only [Option.map_some,add_lit];exact Ok.mk _ _
theorem aLV {R N t:Nat} (hN:(gr N).length=t+1) (hR:R < N*1000000000):
  ∃g:Nat,(gt (gr R) (((t+1:Nat):Int))*1000000000+gt (gr R) (t:Int)).tdiv (gt (gr N) (t:Int)+1)=(g:Int)∧g*N≤R∧g < 1000000000:=by
 have dR:=bR R
 have dN:=bR N
 have vR:=cO R
 have vN:=cO N
 have hNl:=jR dN
 rw [hN,vN] at hNl
 have hPp:=jC t
 have e1:(1000000000:Int) ^ (t+1)=1000000000 ^ t*1000000000:=Int.pow_succ _ _
 have hR2:val (gr R) < 1000000000 ^ (t+1+1):=by
  rw [vR,Int.pow_succ,e1]
  rw [e1] at hNl
  have:((R:Nat):Int) < (N:Int)*1000000000:=by omega
  omega
 have hT:=wW dR hR2
 have hT2:=bT (gr R) t
 have hM:=wW dN (k:=t) (by rw [vN];exact hNl)
 rw [←xV] at hT hT2 hM
 rw [vR] at hT
 rw [vN] at hM
 have l1:=iK dR t
 have l2:=bS (dR.take t)
 have l3:=iK dN t
 have l4:=bS (dN.take t)
 have g1:=dR.gt ((t+1:Nat):Int)
 have g2:=dR.gt (t:Int)
 have g3:=dN.gt (t:Int)
 rw [hT2,e1] at hT
 generalize val ((gr R).take t)=low at*
 generalize val ((gr N).take t)=bl at*
 generalize gt (gr R) (t:Int)=d0 at*
 generalize gt (gr R) ((t+1:Nat):Int)=d1 at*
 generalize gt (gr N) (t:Int)=b1 at*
 obtain ⟨P,hP⟩:∃P:Nat,(1000000000:Int) ^ t=(P:Int):=⟨1000000000 ^ t,by rw [Int.natCast_pow];rfl⟩
 rw [hP] at hT hM l1 l3 hPp
 clear hNl hR2 hT2 e1
 obtain ⟨top,htop⟩:∃top:Nat,d1*1000000000+d0=(top:Int):=⟨(d1*1000000000+d0).toNat,by omega⟩
 obtain ⟨b1n,rfl⟩:∃b:Nat,b1=(b:Int):=⟨b1.toNat,by omega⟩
 obtain ⟨lown,rfl⟩:∃b:Nat,low=(b:Int):=⟨low.toNat,by omega⟩
 obtain ⟨bln,rfl⟩:∃b:Nat,bl=(b:Int):=⟨bl.toNat,by omega⟩
 have hR3:R=top*P+lown:=by
  have:(R:Int)=(top:Int)*(P:Int)+(lown:Int):=by rw [←htop,hT];grind
  exact_mod_cast this
 have hN3:N=b1n*P+bln:=by
  have:(N:Int)=(b1n:Int)*(P:Int)+(bln:Int):=by rw [hM];grind
  exact_mod_cast this
 have hg:=aRM hR3 hN3 (by omega) (by omega) rfl
 refine ⟨top / (b1n+1),?_,hg,?_⟩
 ·rw [htop,Int.tdiv_eq_ediv_of_nonneg (by omega),Int.natCast_ediv];rfl
 ·have h1:top / (b1n+1)*N < 1000000000*N:=by omega
  exact Nat.lt_of_mul_lt_mul_right h1
theorem aSB {n f bt:Nat} (hn:1≤(gr n).length) (hbt:gt (gr n) (((gr n).length:Int) - 1)=(bt:Int)) (h1:0 < f) (hf:f*(bt+1)≤1000000000):(gr (n*f)).length=(gr n).length:=by
 refine Nat.le_antisymm (rF ?_) (gV (Nat.le_mul_of_pos_right _ h1))
 obtain ⟨t,ht⟩:∃t,(gr n).length=t+1:=⟨(gr n).length - 1,by omega⟩
 have dN:=bR n
 have vN:=cO n
 have hNl:=jR dN
 rw [ht] at hNl
 have hM:=wW dN (k:=t) hNl
 have l3:=iK dN t
 rw [←xV] at hM
 rw [ht] at hbt ⊢
 rw [show (((t+1:Nat):Int) - 1)=(t:Int) by omega] at hbt
 rw [hbt,vN] at hM
 have hlt:(n:Int) < 1000000000 ^ t*((bt:Int)+1):=by rw [Int.mul_add];omega
 have h2:((n*f:Nat):Int) < (1000000000 ^ t*((bt:Int)+1))*f:=by rw [Int.natCast_mul];exact Int.mul_lt_mul_of_pos_right hlt (by omega)
 have h3:(1000000000:Int) ^ t*((bt:Int)+1)*f≤1000000000 ^ (t+1):=by
  rw [Int.pow_succ,Int.mul_assoc]
  refine Int.mul_le_mul_of_nonneg_left ?_ (Int.le_of_lt (jC t))
  have:((f*(bt+1):Nat):Int)≤1000000000:=by omega
  rw [Int.natCast_mul,Int.mul_comm] at this
  exact this
 have h4:((n*f:Nat):Int) < ((1000000000 ^ (t+1):Nat):Int):=by rw [Int.natCast_pow];exact Int.lt_of_lt_of_le h2 h3
 omega
section
variable {X:List Nat} {w0:World} {M0:List Ent} {I0:List aM}
theorem aHC {q:Option Addr} {n c d:Nat} (hn:(gr n).length≤100000000000) (hd:0 < d∧d < 1000000000) (hq:aH q (recs eG (gr n))∈I0):
  CD Tryz.prog 275 [.slice q (gr n).length c, .int .u64 (d:Int)] X w0 M0 I0 (fun v M I=>M0=M∧∃p1 c1,sF p1 (n / d) c1∧v= .tuple #[.slice p1 (gr (n / d)).length c1, .int .u64 ((n % d:Nat):Int)]∧I=aH p1 (recs eG (gr (n / d)))::I0):=by
 have da:=bR n
 have va:=cO n
 generalize ha:gr n=a at*
 refine aN Tryz.func275 rfl Tryz.ntmps275 rfl ?_
 repeat refine aR ?_
 (refine jI (a.length) rfl rfl (by omega) (by omega) (by omega) (by omega) (oF _ _) rfl rfl ?_;intro bo;refine aL ?_)
 repeat refine aR ?_
 refine bX [0,1,6] rfl (fun k G M I=>∃(i:Nat) (o:List Int) (r x:Int),i≤a.length∧k=i∧x=(i:Int) - 1∧o.length=a.length∧Dig o∧(0≤r∧r < d)∧val (a.drop i)=(d:Int)*val (o.drop i)+r∧G=[(7, .int .u64 r),(8, .int .i64 x)]∧M= .blk bo (recs eG o) 121::M0∧I0=I) (a.length) _ _ _ dE aF aD (⟨a.length,_,0,_,by omega,rfl,rfl,by simp,Dig.zeros _,by omega,by rw [List.drop_of_length_le (by omega),List.drop_of_length_le (by simp)];simp [val],rfl,rfl,rfl⟩) ?_
 rintro k G M I ⟨i,o,r,x,hi,rfl,hx,ho,hdo,hr,hv,rfl,rfl,rfl⟩
 by_cases h0:k=0
 ·subst h0
  rw [List.drop_zero,List.drop_zero,va] at hv
  have hq1:val o=((n / d:Nat):Int):=by
   have:=(Int.ediv_emod_unique (a:=(n:Int)) (b:=(d:Int)) (r:=r) (q:=val o) (by omega)).2 ⟨by omega,hr.1,hr.2⟩
   rw [←this.1];rfl
  have hr1:r=((n % d:Nat):Int):=by
   have:=(Int.ediv_emod_unique (a:=(n:Int)) (b:=(d:Int)) (r:=r) (q:=val o) (by omega)).2 ⟨by omega,hr.1,hr.2⟩
   rw [←this.2];rfl
  subst hr1
  repeat refine aR ?_
  refine aI (b:=bo) xW ?_
  have hM:=nS (X:=X) (w0:=w0) (M0:=M0) (I0:=aH (some ⟨bo,0,none⟩) (recs eG o)::I0) (q:=some ⟨bo,0,none⟩) (c:=a.length) (by omega) (by omega) (.inl (Ok.mk _ _)) hdo hq1 (by simp)
  rw [ho] at hM
  (refine aQ rfl (hM) ?_;rintro _ _ _ ⟨rfl,q',c',rfl,hc',rfl⟩;refine aL ?_)
  repeat refine aR ?_
  refine tyS [4,5] rfl rfl (⟨rfl,q',c',hc',rfl,rfl⟩)
 ·obtain ⟨j,rfl⟩:∃j,k=j+1:=⟨k - 1,by omega⟩
  obtain rfl:x=(j:Int):=by omega
  have d1:=da.gt j
  obtain ⟨d2,d3,d4⟩:=aGL (r:=r) (g:=gt a (j:Int)) (d:=(d:Int)) (by omega) (by omega) hr d1
  have hst:=aKA (a:=a) (q:=o) (i:=j) (d:=d) (r:=r) (by omega) (by omega) hv
  rw [←xV] at hst
  have hnn:0≤r*1000000000+gt a (j:Int):=by omega
  have e1:(r*1000000000+gt a (j:Int)).tmod (d:Int)=(r*1000000000+gt a (j:Int)) % (d:Int):=Int.tmod_eq_emod_of_nonneg hnn
  have e2:(r*1000000000+gt a (j:Int)).tdiv (d:Int)=(r*1000000000+gt a (j:Int)) / (d:Int):=Int.tdiv_eq_ediv_of_nonneg hnn
  obtain ⟨s,hs⟩:∃s,s=(r*1000000000+gt a (j:Int)) % (d:Int):=⟨_,rfl⟩
  obtain ⟨t,ht⟩:∃t,t=(r*1000000000+gt a (j:Int)) / (d:Int):=⟨_,rfl⟩
  rw [←hs] at e1 d4 hst
  rw [←ht] at e2 d3 hst
  obtain ⟨u,hu⟩:∃u,u=r*1000000000:=⟨_,rfl⟩
  repeat refine aR ?_
  rw [e2]
  repeat refine aR ?_
  rw [e1]
  repeat refine aR ?_
  refine cB (j) _ _ _ (by first|omega|(simp only [List.length_append,List.length_cons,List.length_nil];omega)) dE aF aD (⟨j,_,s,(j:Int) - 1,by omega,rfl,by omega,by rw [dI];exact ho,by rw [rU];exact hdo.set _ d3,d4,by rw [rU];exact hst,rfl,rfl,rfl⟩)
end
theorem aMZ {a' qs:List Int} {j R R1 R2 g Bn:Nat} (hj:j < a'.length) (hjq:j < qs.length) (hv:val (a'.drop (j+1))=(Bn:Int)*val (qs.drop (j+1))+R) {d:Nat} (hd:gt a' (j:Int)=(d:Int)) (h1:R1=R*1000000000+d) (h2:R1=g*Bn+R2):
  val (a'.drop j)=(Bn:Int)*val ((st qs (j:Int) (g:Int)).drop j)+R2:=by
 rw [rU,uU a' j hj,drop_set qs j _ hjq,←xV,hd,hv]
 simp only [val]
 have h3:((g*Bn+R2:Nat):Int)=((R*1000000000+d:Nat):Int):=by rw [←h2,h1]
 simp only [Int.natCast_add,Int.natCast_mul] at h3
 grind
theorem aSV {a' qs:List Int} {m n f R:Nat} (hf:0 < f) (hn:0 < n) (va:val a'=((m*f:Nat):Int)) (hv:val a'=((n*f:Nat):Int)*val qs+R) (hR:R < n*f) (hq:Dig qs):val qs=((m / n:Nat):Int)∧R=(m % n)*f:=by
 obtain ⟨Q,hQ⟩:∃Q:Nat,val qs=(Q:Int):=⟨(val qs).toNat,by have:=bS hq;omega⟩
 rw [hQ,va] at hv
 have e:m*f=n*f*Q+R:=by exact_mod_cast hv
 have e1:m*f / (n*f)=Q:=by rw [e,Nat.mul_add_div (by exact Nat.mul_pos hn hf),Nat.div_eq_of_lt hR,Nat.add_zero]
 have e2:m*f % (n*f)=R:=by rw [e,Nat.mul_add_mod,Nat.mod_eq_of_lt hR]
 rw [Nat.mul_div_mul_right _ _ hf] at e1
 rw [Nat.mul_mod_mul_right] at e2
 exact ⟨by rw [hQ,e1],e2.symm⟩
section
variable {X:List Nat} {w0:World} {M0:List Ent} {I0:List aM}
theorem aSZ {p q:Option Addr} {m n cp cq:Nat} (hm:(gr m).length≤50000000000) (hn1:(gr n).length=1) (hp:aH p (recs eG (gr m))∈I0) (hq:aH q (recs eG (gr n))∈I0):
  CD Tryz.prog 245 [.slice p (gr m).length cp, .slice q (gr n).length cq] X w0 M0 I0 (QrP (m / n) (m % n) M0 I0):=by
 have hn0:0 < n:=by
  rcases Nat.eq_zero_or_pos n with h|h
  ·rw [h,gL] at hn1;simp at hn1
  ·exact h
 have hnb:n < 1000000000:=by
  have:=jR (bR n)
  rw [cO,hn1] at this
  omega
 have hgt:gt (gr n) 0=(n:Int):=by rw [wM hn0 hnb];rfl
 have hS:=fun M0 I0=>aHC (X:=X) (w0:=w0) (M0:=M0) (I0:=I0) (q:=p) (n:=m) (c:=cp) (d:=n) (by omega) ⟨hn0,hnb⟩
 have hr:=Nat.mod_lt m hn0
 have hvr:val [((m % n:Nat):Int)]=((m % n:Nat):Int):=by simp [val]
 have hdr:Dig [((m % n:Nat):Int)]:=by rw [Dig.cons];exact ⟨by omega,Dig.nil⟩
 refine aN Tryz.func245 rfl Tryz.ntmps245 rfl ?_
 repeat refine aR ?_
 rw [hgt]
 repeat refine aR ?_
 (refine aQ rfl (hS _ _ aA) ?_;rintro _ _ _ ⟨rfl,p1,c1,hc1,rfl,rfl⟩;refine aL ?_)
 repeat refine aR ?_
 refine gX (cs:=recs eG [((m % n:Nat):Int)]) ([.int .u32 ((m % n:Nat):Int)]) rfl (fun b1=>?_)
 refine aI xW ?_
 (refine aQ rfl (nS (l:=[((m % n:Nat):Int)]) (by simp) (Nat.le_refl 1) (.inl (Ok.mk _ _)) hdr hvr aA) ?_;rintro _ _ _ ⟨rfl,p2,c2,rfl,hc2,rfl⟩;refine aL ?_)
 repeat refine aR ?_
 refine tyS [4,5] rfl rfl (⟨rfl,p1,c1,p2,c2,hc1,hc2,rfl,rfl⟩)
theorem aSQ {p q:Option Addr} {m n cp cq:Nat} (hm:(gr m).length≤50000000000) (hn:(gr n).length≤50000000000) (hn1:¬(gr n).length=1) (hlt:m < n) (hcp:sF p m cp) (hp:aH p (recs eG (gr m))∈I0) (hq:aH q (recs eG (gr n))∈I0):
  CD Tryz.prog 245 [.slice p (gr m).length cp, .slice q (gr n).length cq] X w0 M0 I0 (QrP (m / n) (m % n) M0 I0):=by
 have e1:m / n=0:=Nat.div_eq_of_lt hlt
 have e2:m % n=m:=Nat.mod_eq_of_lt hlt
 rw [e1,e2]
 unfold QrP
 simp only [gL]
 have hC:=fun M0 I0=>zH (X:=X) (w0:=w0) (M0:=M0) (I0:=I0) (p:=p) (q:=q) (m:=m) (n:=n) (cp:=cp) (cq:=cq) (by omega) (by omega)
 rw [zZ (by omega)] at hC
 refine aN Tryz.func245 rfl Tryz.ntmps245 rfl ?_
 repeat refine aR ?_
 refine dK rfl (hC _ _ aA aA) ?_
 repeat refine aR ?_
 refine gX (cs:=recs eG []) ([]) rfl (fun b1=>?_)
 refine aI xW ?_
 repeat refine aR ?_
 refine gH [4,5] (by first|exact .inl rfl|exact .inr rfl) rfl rfl rfl _ _ aF aD (⟨rfl,some ⟨b1,0,none⟩,0,p,cp,⟨by rw [gL];simp, .inl (Ok.mk _ _)⟩,hcp,rfl,rfl⟩)
theorem aSW {p q:Option Addr} {m n cp cq t:Nat} (hm:(gr m).length≤50000000000) (ht:(gr n).length=t+1) (ht1:¬(gr n).length=1) (hle:¬m < n) (hp:aH p (recs eG (gr m))∈I0) (hq:aH q (recs eG (gr n))∈I0):
  CD Tryz.prog 245 [.slice p (gr m).length cp, .slice q (gr n).length cq] X w0 M0 I0 (QrP (m / n) (m % n) M0 I0):=by
 have hn0:0 < n:=by
  rcases Nat.eq_zero_or_pos n with h|h
  ·rw [h,gL] at ht;simp at ht
  ·exact h
 have hlmn:(gr n).length≤(gr m).length:=gV (by omega)
 obtain ⟨bt,hbt,hbt1,hbt2⟩:=aVN (n:=n) (by omega)
 obtain ⟨f,hf1,hf2,ef⟩:=aJX (bt:=bt) ⟨hbt1,hbt2⟩
 have hf3:f*(bt+1)≤1000000000:=by
  have e:f=1000000000 / (bt+1):=by
   rw [Int.tdiv_eq_ediv_of_nonneg (by decide)] at ef
   have:((1000000000 / (bt+1):Nat):Int)=(f:Int):=by rw [←ef,Int.natCast_ediv];rfl
   omega
  rw [e];exact Nat.div_mul_le_self _ _
 have hlb:=aSB (n:=n) (by omega) hbt hf1 hf3
 have hla:=tX (m:=m) hf1 hf2
 have hlab:(gr (n*f)).length≤(gr (m*f)).length:=gV (Nat.mul_le_mul_right _ (by omega))
 have hC:=fun M0 I0=>zH (X:=X) (w0:=w0) (M0:=M0) (I0:=I0) (p:=p) (q:=q) (m:=m) (n:=n) (cp:=cp) (cq:=cq) (by omega) (by omega)
 have hcv:=zQ (x:=(m:Int)) (y:=(n:Int)) (by omega)
 generalize fV (m:Int) (n:Int)=cv at*
 have hS1:=fun M0 I0=>yT (X:=X) (w0:=w0) (M0:=M0) (I0:=I0) (p:=p) (m:=m) (d:=f) (cp:=cp) (by omega) hf2
 have hS2:=fun M0 I0=>yT (X:=X) (w0:=w0) (M0:=M0) (I0:=I0) (p:=q) (m:=n) (d:=f) (cp:=cq) (by omega) hf2
 refine aN Tryz.func245 rfl Tryz.ntmps245 rfl ?_
 repeat refine aR ?_
 refine dK rfl (hC _ _ aA aA) ?_
 repeat refine aR ?_
 rw [hbt]
 repeat refine aR ?_
 rw [ef]
 repeat refine aR ?_
 (refine aQ rfl (hS1 _ _ aA) ?_;rintro _ _ _ ⟨rfl,pa,ca,rfl,hca,rfl⟩;refine aL ?_)
 repeat refine aR ?_
 (refine aQ rfl (hS2 _ _ aA) ?_;rintro _ _ _ ⟨rfl,pb,cb,rfl,hcb,rfl⟩;refine aL ?_)
 repeat refine aR ?_
 rw [ht] at hlb hlmn
 clear hS1 hS2 hC hp hq ef hf3 hbt
 have vA:=cO (m*f)
 have dA:=bR (m*f)
 have hla3:(gr (m*f)).length≤50000000001:=by omega
 clear hla
 have hmf0:0 < n*f:=Nat.mul_pos hn0 hf1
 obtain ⟨An,hAn⟩:∃A,m*f=A:=⟨_,rfl⟩
 obtain ⟨Bn,hBn⟩:∃A,n*f=A:=⟨_,rfl⟩
 rw [hAn] at vA dA hca hlab hla3 ⊢
 rw [hBn] at hcb hlb hlab hmf0 ⊢
 obtain ⟨hca1,hca2⟩:=hca
 have hokA:Ok pa:=hca2.resolve_right (fun h=>by omega)
 obtain ⟨La,hLa⟩:∃L,(gr An).length=L:=⟨_,rfl⟩
 obtain ⟨A',hA'⟩:∃A,gr An=A:=⟨_,rfl⟩
 rw [ht,hLa]
 rw [hLa] at hlab hla3 hca1
 rw [hlb] at hlab
 rw [hA'] at vA dA hLa ⊢
 have hdl:(A'.drop (La - t)).length=t:=by rw [List.length_drop];omega
 have hd0:=dA.drop (La - t)
 obtain ⟨R0,hR0⟩:∃R:Nat,val (A'.drop (La - t))=(R:Int):=⟨(val (A'.drop (La - t))).toNat,by have:=bS hd0;omega⟩
 have hR0l:R0 < Bn:=by
  have h1:=jR hd0
  rw [hdl,hR0] at h1
  have h2:=aAY (wX Bn) (by omega)
  rw [hlb,cO,Nat.add_sub_cancel] at h2
  omega
 refine bAJ (a:=pa) (ms:=A') ca (La - t) La aA (by omega) ?_
 rw [List.take_of_length_le (show A'.length≤La by omega)]
 refine aC rfl (fun _=>pU (e:=121) (sz:=1) (La - t) La t rfl (.inr ⟨_,_,_,rfl,rfl,by omega⟩) (.inl ⟨rfl,rfl⟩) (by omega) (by omega) (by omega)) rfl rfl ?_
 have hM:=fun M0 I0=>nS (X:=X) (w0:=w0) (M0:=M0) (I0:=I0) (q:=wL pa ca (La - t) 1) (l:=A'.drop (La - t)) (c:=ca - (La - t)) (by omega) (by omega) (.inl (aVA hokA)) hd0 hR0
 rw [hdl] at hM
 (refine aQ rfl (hM _ _ aA) ?_;rintro _ _ _ ⟨rfl,pr0,cr0,rfl,hcr0,rfl⟩;refine aL ?_)
 repeat refine aR ?_
 (refine jI (La - t) rfl rfl (by omega) (by omega) (by omega) (by omega) (oF _ _) rfl rfl ?_;intro bq;refine aL ?_)
 repeat refine aR ?_
 obtain ⟨gB,hgB⟩:∃L,gr Bn=L:=⟨_,rfl⟩
 have hz0:(List.replicate (La - t) (0:Int)).drop (La - t)=[]:=List.drop_of_length_le (by simp)
 have hlgB:gB.length=t+1:=by rw [←hgB];exact hlb
 refine bX [0,1,6,9,11] rfl (fun k G M I=>∃(i:Nat) (x:Int) (R:Nat) (qs:List Int) (pr:Option Addr) (cr:Nat),i≤La - t∧k=i∧x=(i:Int) - 1∧qs.length=La - t∧Dig qs∧R < Bn∧sF pr R cr∧val (A'.drop i)=(Bn:Int)*val (qs.drop i)+R∧G=[(10, .slice pr (gr R).length cr),(12, .int .i64 x)]∧M= .blk bq (recs eG qs) 121::M0∧I=aH pr (recs eG (gr R))::aH pb (recs eG (gr Bn))::aH pa (recs eG A')::I0) (La - t) _ _ _ dE aF aD (⟨La - t,_,R0,_,pr0,cr0,by omega,rfl,by omega,by simp,Dig.zeros _,hR0l,hcr0,by rw [hR0,hz0];simp [val],rfl,rfl,rfl⟩) ?_
 rintro k G M I ⟨i,x,R,qs,pr,cr,hi,rfl,hx,hql,hdq,hRl,hcr,hv,rfl,rfl,rfl⟩
 have hlR:(gr R).length≤t+1:=by rw [←hlb];exact gV (by omega)
 by_cases h0:k=0
 ·subst h0
  rw [List.drop_zero,List.drop_zero] at hv
  rw [←hBn] at hv hRl
  obtain ⟨hq1,hr1⟩:=aSV hf1 hn0 (by rw [vA,hAn]) hv hRl hdq
  have hS:=fun M0 I0=>aHC (X:=X) (w0:=w0) (M0:=M0) (I0:=I0) (q:=pr) (n:=R) (c:=cr) (d:=f) (by omega) ⟨hf1,hf2⟩
  have e1:R / f=m % n:=by rw [hr1,Nat.mul_div_cancel _ hf1]
  rw [e1] at hS
  have hM2:=fun M0 I0=>nS (X:=X) (w0:=w0) (M0:=M0) (I0:=I0) (q:=some ⟨bq,0,none⟩) (c:=La - t) (by omega) (by omega) (.inl (Ok.mk _ _)) hdq hq1
  rw [hql] at hM2
  repeat refine aR ?_
  (refine aQ rfl (hS _ _ aA) ?_;rintro _ _ _ ⟨rfl,p2,c2,hc2,rfl,rfl⟩;refine aL ?_)
  repeat refine aR ?_
  refine aI (b:=bq) xW ?_
  (refine aQ rfl (hM2 _ _ aA) ?_;rintro _ _ _ ⟨rfl,p1,c1,rfl,hc1,rfl⟩;refine aL ?_)
  repeat refine aR ?_
  refine tyS [4,5] rfl rfl (⟨rfl,p1,c1,p2,c2,hc1,hc2,rfl,rfl⟩)
 ·obtain ⟨j,rfl⟩:∃j,k=j+1:=⟨k - 1,by omega⟩
  obtain rfl:x=(j:Int):=by omega
  have d1:=dA.gt j
  obtain ⟨d,hd⟩:∃d:Nat,gt A' (j:Int)=(d:Int):=⟨(gt A' (j:Int)).toNat,by omega⟩
  rw [hd] at d1
  have hSh:=fun M0 I0=>aJQ (X:=X) (w0:=w0) (M0:=M0) (I0:=I0) (p:=pr) (m:=R) (d:=d) (cp:=cr) (by omega) (by omega) hcr
  obtain ⟨R1,hR1⟩:∃R1,R1=R*1000000000+d:=⟨_,rfl⟩
  rw [←hR1] at hSh
  have hR1l:R1 < Bn*1000000000:=by
   have:(R+1)*1000000000≤Bn*1000000000:=Nat.mul_le_mul_right _ hRl
   omega
  obtain ⟨g,hg1,hg2,hg3⟩:=aLV hlb hR1l
  have q1:=aEZ (n:=R1) (i:=t+1)
  have q2:=aEZ (n:=R1) (i:=t)
  have q3:=aEZ (n:=Bn) (i:=t)
  have hG1:=fun (pp:Option Addr) (cc:Nat) M0 I0=>qK (X:=X) (w0:=w0) (M0:=M0) (I0:=I0) (q:=pp) (l:=gr R1) (n:=(gr R1).length) (c:=cc) (i:=((t+1:Nat):Int)) rfl (by omega)
  have hG2:=fun (pp:Option Addr) (cc:Nat) M0 I0=>qK (X:=X) (w0:=w0) (M0:=M0) (I0:=I0) (q:=pp) (l:=gr R1) (n:=(gr R1).length) (c:=cc) (i:=(t:Int)) rfl (by omega)
  have hSc:=fun M0 I0=>yT (X:=X) (w0:=w0) (M0:=M0) (I0:=I0) (p:=pb) (m:=Bn) (d:=g) (cp:=cb) (by omega) hg3
  have hlR1:(gr R1).length≤t+2:=by
   have h1:=(tX (m:=Bn) (f:=999999999) (by omega) (by omega)).2
   refine rF ?_
   have h2:=jR (bR Bn)
   rw [cO,hlb] at h2
   have h3:(R1:Int) < ((1000000000 ^ (t+2):Nat):Int):=by
    rw [Int.natCast_pow,show t+2=(t+1)+1 from rfl,Int.pow_succ]
    have:((R1:Nat):Int) < (Bn:Int)*1000000000:=by omega
    have h5:(Bn:Int)*1000000000≤1000000000 ^ (t+1)*1000000000:=by omega
    exact Int.lt_of_lt_of_le this h5
   omega
  have hMi:=fun (pp pp':Option Addr) (cc cc':Nat) M0 I0=>xH (X:=X) (w0:=w0) (M0:=M0) (I0:=I0) (p:=pp) (q:=pp') (m:=R1) (n:=Bn*g) (cp:=cc) (cq:=cc') (by omega) (by rw [Nat.mul_comm];exact hg2)
  obtain ⟨Rg,hRg⟩:∃x,x=R1 - Bn*g:=⟨_,rfl⟩
  rw [←hRg] at hMi
  have hRg2:R1=g*Bn+Rg:=by rw [hRg,Nat.mul_comm Bn g];omega
  have et:((t+1:Nat):Int) - 1=(t:Int):=by omega
  have q4:0≤gt (gr Bn) (((t+1:Nat):Int) - 1)∧gt (gr Bn) (((t+1:Nat):Int) - 1) < 1000000000:=by rw [et];exact q3
  repeat refine aR ?_
  rw [hd]
  (refine aQ rfl (hSh _ _ aA) ?_;rintro _ _ _ ⟨rfl,p3,c3,rfl,hc3,rfl⟩;refine aL ?_)
  repeat refine aR ?_
  (repeat refine aG ?_);refine dJ [0,1,4,5,6,9,10,11,12,13,14,15,2,3,7,8,16,17] [1,1,1,2,1,2,2,2,2,2,2,2,0,1,0,0,0,0] mixed (by kernel_rfl) ?_
  repeat refine aR ?_
  rw [et]
  refine dK rfl (hG1 p3 c3 _ _ aA (bR R1)) ?_
  repeat refine aR ?_
  refine dK rfl (hG2 p3 c3 _ _ aA (bR R1)) ?_
  repeat refine aR ?_
  rw [hg1]
  repeat refine aR ?_
  (refine aQ rfl (hSc _ _ aA) ?_;rintro _ _ _ ⟨rfl,p4,c4,rfl,hc4,rfl⟩;refine aL ?_)
  (refine aQ rfl (hMi p3 p4 c3 c4 _ _ aA aA) ?_;rintro _ _ _ ⟨rfl,p5,c5,rfl,hc5,rfl⟩;refine aL ?_)
  repeat refine aR ?_
  clear hSh hSc hMi hG1 hG2
  refine bX [0,1,6,9,11,12] rfl (fun k G M I=>∃(R2 g2:Nat) (gi:Int) (p6:Option Addr) (c6:Nat),k=R2∧R1=g2*Bn+R2∧gi=g2∧sF p6 R2 c6∧G=[(10, .slice p6 (gr R2).length c6),(13, .int .u64 gi)]∧M= .blk bq (recs eG qs) 121::M0∧I=aH p6 (recs eG (gr R2))::aH pb (recs eG (gr Bn))::aH pa (recs eG A')::I0) (Rg) _ _ _ dE aF aD (⟨Rg,g,_,p5,c5,rfl,hRg2,rfl,hc5,rfl,rfl,rfl⟩) ?_
  rintro k G M I ⟨R2,g2,gi,p6,c6,rfl,hR2,hgi,hc6,rfl,rfl,rfl⟩
  have hg9:g2 < 1000000000:=by
   have h1:g2*Bn < 1000000000*Bn:=by omega
   exact Nat.lt_of_mul_lt_mul_right h1
  have hl2:(gr k).length≤t+2:=Nat.le_trans (gV (by omega)) hlR1
  have hSz:=fun M0 I0=>zH (X:=X) (w0:=w0) (M0:=M0) (I0:=I0) (p:=p6) (q:=pb) (m:=k) (n:=Bn) (cp:=c6) (cq:=cb) (by omega) (by omega)
  by_cases hlt:k < Bn
  ·rw [zZ (by omega)] at hSz
   repeat refine aR ?_
   refine dK rfl (hSz _ _ aA aA) ?_
   repeat refine aR ?_
   refine cB (j) _ _ _ (by first|omega|(simp only [List.length_append,List.length_cons,List.length_nil];omega)) dE aF aD (⟨j,(j:Int) - 1,k,_,p6,c6,by omega,rfl,by omega,by rw [dI];exact hql,by rw [rU];exact hdq.set _ (by omega),hlt,hc6,by rw [hgi];exact aMZ (by omega) (by omega) hv hd hR1 hR2,rfl,rfl,rfl⟩)
  ·have hcv2:=zQ (x:=(k:Int)) (y:=(Bn:Int)) (by omega)
   generalize fV (k:Int) (Bn:Int)=cv2 at*
   have hMi2:=fun M0 I0=>xH (X:=X) (w0:=w0) (M0:=M0) (I0:=I0) (p:=p6) (q:=pb) (m:=k) (n:=Bn) (cp:=c6) (cq:=cb) (by omega) (by omega)
   obtain ⟨R4,hR4⟩:∃x,x=k - Bn:=⟨_,rfl⟩
   rw [←hR4] at hMi2
   have hR3:R1=(g2+1)*Bn+R4:=by rw [Nat.add_mul];omega
   repeat refine aR ?_
   refine dK rfl (hSz _ _ aA aA) ?_
   repeat refine aR ?_
   (refine aQ rfl (hMi2 _ _ aA aA) ?_;rintro _ _ _ ⟨rfl,p7,c7,rfl,hc7,rfl⟩;refine aL ?_)
   repeat refine aR ?_
   refine gJ (R4) (⟨R4,g2+1,gi+1,p7,c7,rfl,hR3,by omega,hc7,rfl,rfl,rfl⟩)
theorem aJS {p q:Option Addr} {m n cp cq:Nat} (hm:(gr m).length≤50000000000) (hn0:(gr n).length≤50000000000) (hn:0 < n) (hcp:sF p m cp) (hp:aH p (recs eG (gr m))∈I0) (hq:aH q (recs eG (gr n))∈I0):
  CD Tryz.prog 245 [.slice p (gr m).length cp, .slice q (gr n).length cq] X w0 M0 I0 (QrP (m / n) (m % n) M0 I0):=by
 have h1:0 < (gr n).length:=List.length_pos_iff.2 (fun e=>by have:=oO.1 e;omega)
 by_cases hn1:(gr n).length=1
 ·exact aSZ hm hn1 hp hq
 ·by_cases hlt:m < n
  ·exact aSQ hm hn0 hn1 hlt hcp hp hq
  ·exact aSW (t:=(gr n).length - 1) hm (by omega) hn1 hlt hp hq
end
section
variable {X:List Nat} {w0:World} {M0:List Ent} {I0:List aM}
theorem aHF {neg:Bool} {q:Option Addr} {gs:List Int} {c:Nat} (hn:(gs.length:Int)≤9223372036854775807) (hq:aH q (recs eG gs)∈I0):
  CD Tryz.prog 182 [.agg #[.bool neg, .slice q gs.length c]] X w0 M0 I0 (fun v M I=>M0=M∧I0=I∧v= .bool (B (vC neg gs))):=by
 refine aS Tryz.func182 rfl Tryz.ntmps182 rfl ?_
 refine iH ?_
 refine gU rfl (fun b=>?_)
 repeat refine aR ?_
 refine lV [1,3] rfl (fun k G M I=>∃i:Nat,i≤gs.length∧k=gs.length - i∧(∀j:Nat,j < i→gt gs (j:Int) < 1000000000)∧G=[(4, .int .i64 i)]∧M= .blk b [.bool neg, .slice q gs.length c] 42::M0∧I0=I) (gs.length) (⟨0,by omega,rfl,fun j hj=>by omega,rfl,rfl,rfl⟩) ?_
 rintro k G M I ⟨i,hi,rfl,hs,rfl,rfl,rfl⟩
 by_cases hin:i < gs.length
 ·repeat' (first|refine aR ?_|refine aK rfl (fun h=>?_) (fun h=>?_)|refine aJ rfl rfl (fun h=>?_) (fun h=>?_)|fail)
  ·have h1:=h
   have hF:¬vC neg gs:=by
    unfold vC
    rintro (⟨h2,_⟩|⟨_,_,h2⟩)
    ·rw [h2] at hin;simp at hin
    ·exact h2 ⟨gt gs (i:Int),(by rw [fE hin];exact List.getElem_mem hin),h1⟩
   rw [←bE hF]
   refine iA rfl rfl (⟨rfl,rfl,rfl⟩)
  ·refine gJ (gs.length - (i+1)) (⟨i+1,by omega,rfl,fun j hj=>?_,rfl,rfl,rfl⟩)
   by_cases e:j=i
   ·subst e;omega
   ·exact hs j (by omega)
 ·obtain rfl:i=gs.length:=by omega
  by_cases h0:gs.length=0
  ·have hg:gs=[]:=List.eq_nil_of_length_eq_zero h0
   repeat refine aR ?_
   refine aP (by first|exact .inl rfl|exact .inr rfl) rfl rfl _ _ aF aD (⟨rfl,rfl,by rw [show (!neg)=B (vC neg gs) by rw [sZ,hg];cases neg <;>simp [vC]]⟩)
  ·have hgs:gs≠[]:=fun e=>h0 (by rw [e];rfl)
   have hlast:=aCZ (gs:=gs) (by omega)
   repeat refine aR ?_
   refine iA rfl rfl (⟨rfl,rfl,congrArg Value.bool (iG ?_)⟩)
   unfold vC Top
   rw [hlast]
   refine ⟨fun h=> .inr ⟨hgs,h,?_⟩,fun h=>h.elim (fun h=>absurd h.1 hgs) (fun h=>h.2.1)⟩
   rintro ⟨x,hx,h9⟩
   obtain ⟨j,hj,rfl⟩:=List.mem_iff_getElem.1 hx
   have:=hs j hj
   rw [fE hj] at this
   omega
theorem tQ {p:Prop} [Decidable p] {q:Option Addr} {l:List Int} {n c k:Nat} (h63:l.length≤1000000000000) (hc:l.length≤c) (hok:Ok q∨(l.length=0∧c=0)) (hd:Dig l) (hv:val l=n) (hk:n≤2 ^ k) (hl:aH q (recs eG l)∈I0):
  CD Tryz.prog 228 [.bool (B p), .slice q l.length c] X w0 M0 I0 (fun v M I=>M0=M∧I=gW v (sg p n) k::I0):=
 CD.post (aHJ h63 hc hok hd hv hl) (fun v M1 I1 w ⟨e1,q',c',e2,hc',e3⟩ hw=>by
  subst e1;subst e2;subst e3
  have ha:=aXG p n
  have hiv:iv q' c' (sg p n)= .agg #[.bool (B (p∧n≠0)), .slice q' (gr n).length c']:=by
   unfold iv
   rw [ha]
   refine congrArg (fun x=>Value.agg #[.bool x, .slice q' (gr n).length c']) (iG ?_)
   unfold sg
   by_cases hp:p
   ·rw [if_pos hp];constructor
    ·intro h;exact ⟨hp,by omega⟩
    ·intro h;have:=h.2;omega
   ·rw [if_neg hp];constructor
    ·intro h;omega
    ·intro h;exact absurd h.1 hp
  refine ⟨_,_,⟨rfl,rfl⟩,?_⟩
  have h1:=aIB (q:=q') (c:=c') (z:=sg p n) (k:=k) hw (by rw [ha];exact List.Mem.head _) (by rw [ha];exact hc') (by rw [ha];exact hk)
  rw [hiv] at h1
  exact h1.inc (Inc.cons (List.Mem.head _) (Inc.wk (Inc.wk Inc.refl))))
def VoP (z:Int) (M0:List Ent) (I0:List aM) (v:Value) (M:List Ent) (I:List aM):Prop:=M0=M∧∃q c,v= .agg #[.bool (B (z < 0)), .slice q (gr z.natAbs).length c]∧sF q z.natAbs c∧I=aH q (recs eG (gr z.natAbs))::I0
theorem lG {q:Option Addr} {c k:Nat} {z:Int} (hz:z.natAbs≤2 ^ k) (hk:k≤1000000000000) (hc:sF q z.natAbs c) (hq:aH q (recs eG (gr z.natAbs))∈I0):
  CD Tryz.prog 214 [.agg #[.bool (B (z < 0)), .slice q (gr z.natAbs).length c]] X w0 M0 I0 (VoP z M0 I0):=by
 have hl:=fT hz hk
 have hV:=fun M0 I0=>aHF (X:=X) (w0:=w0) (M0:=M0) (I0:=I0) (neg:=B (z < 0)) (q:=q) (gs:=gr z.natAbs) (c:=c) (by omega)
 rw [bJ (aBE z)] at hV
 obtain ⟨hc1,hc2⟩:=hc
 refine aS Tryz.func214 rfl Tryz.ntmps214 rfl ?_
 refine iH ?_
 refine gU rfl (fun b=>?_)
 refine dS (fun b2=>?_)
 repeat refine aR ?_
 refine dK rfl (hV _ _ aA) ?_
 repeat refine aR ?_
 (repeat refine aG ?_);refine qQ (.blk b [.bool (B (z < 0)), .slice q (gr z.natAbs).length c] 42::M0) (I0) [0,1,3,4,2,5,6,7] [2,2,2,1,0,0,0,0] mixed ?_
 repeat refine aR ?_
 refine gX (cs:=recs eG []) ([]) rfl (fun b1=>?_)
 refine gF (b:=b1) (mm:=0) 1 jL rfl (by omega) ?_
 refine iE (xs:=[]) (ys:=gr z.natAbs) 0 rfl rfl rfl (Src.imm aA hc2) (by decide) rfl (by simp;omega) (by simp;omega) rfl rfl ?_
 intro a2 c2
 refine aL ?_
 rw [List.nil_append]
 refine nG (fun w hw=>And.intro (hw.rowLe (List.Mem.head _)) ((hw.rowS (List.Mem.head _)).2.imp id And.right)) (fun ho3=>?_)
 refine eX xW ?_
 (refine aC rfl (fun _=>bF (pvs:=([.bool (B (z < 0)), .slice a2 (gr z.natAbs).length c2]).zipIdx.map (fun p=>(p.2,p.1))) (cells:=[.bool (B (z < 0)), .slice a2 (gr z.natAbs).length c2]) rfl rfl) rfl rfl ?_)
 repeat refine aR ?_
 refine aT (cs:=[.bool (B (z < 0)), .slice a2 (gr z.natAbs).length c2]) (.inl rfl) rfl rfl aA rfl M0 (aH a2 (recs eG (gr z.natAbs))::I0) aF aD ⟨rfl,a2,c2,rfl,ho3,rfl⟩
theorem wD {u:Value} {z:Int} {k:Nat} (hk:k≤1000000000000) (hu:gW u z k∈I0):CD Tryz.prog 148 [u] X w0 M0 I0 (fun v M I=>M0=M∧I0=I∧v= .int .i64 z.sign):=by
 refine bZ hu (fun q c e hc hz=>?_)
 subst e
 unfold iv
 have hnil:(gr z.natAbs).length=0↔z=0:=by rw [List.length_eq_zero_iff,oO];omega
 refine aS Tryz.func148 rfl Tryz.ntmps148 rfl ?_
 refine iH ?_
 refine gU rfl (fun b=>?_)
 repeat refine aR ?_
 (refine aQ rfl (lG hz hk hc aA) ?_;rintro _ _ _ ⟨rfl,q2,c2,rfl,hc2,rfl⟩;refine aL ?_)
 by_cases h0:z=0
 ·have:=hnil.2 h0
  repeat refine aR ?_
  refine aP (by first|exact .inl rfl|exact .inr rfl) rfl rfl _ _ aF aD (⟨rfl,rfl,by rw [h0];rfl⟩)
 ·have:¬(gr z.natAbs).length=0:=fun h=>h0 (hnil.1 h)
  repeat' (first|refine aR ?_|refine aK rfl (fun h=>?_) (fun h=>?_)|refine aJ rfl rfl (fun h=>?_) (fun h=>?_)|fail)
  ·refine aP (by first|exact .inl rfl|exact .inr rfl) rfl rfl _ _ aF aD (⟨rfl,rfl,by rw [Int.sign_eq_neg_one_of_neg (by assumption)]⟩)
  ·refine aP (by first|exact .inl rfl|exact .inr rfl) rfl rfl _ _ aF aD (⟨rfl,rfl,by rw [Int.sign_eq_one_of_pos (by omega)]⟩)
theorem aHS {u:Value} {z:Int} {k:Nat} (hk:k≤1000000000000) (hu:gW u z k∈I0):CD Tryz.prog 213 [u] X w0 M0 I0 (fun v M I=>M0=M∧I=gW v (-z) k::I0):=by
 refine bZ hu (fun q c e hc hz=>?_)
 subst e
 have hl:=fT hz hk
 unfold iv
 have hM:=fun q2 c2 (hc2:sF q2 z.natAbs c2) M0 I0=>tQ (X:=X) (w0:=w0) (M0:=M0) (I0:=I0) (p:=¬z < 0) (q:=q2) (l:=gr z.natAbs) (n:=z.natAbs) (c:=c2) (k:=k) (by omega) hc2.1 hc2.2 (bR _) (cO _) hz
 rw [aOR] at hM
 refine aS Tryz.func213 rfl Tryz.ntmps213 rfl ?_
 refine iH ?_
 refine gU rfl (fun b=>?_)
 refine dS (fun b2=>?_)
 repeat refine aR ?_
 (refine aQ rfl (lG hz hk hc aA) ?_;rintro _ _ _ ⟨rfl,q2,c2,rfl,hc2,rfl⟩;refine aL ?_)
 repeat refine aR ?_
 (refine aQ rfl (hM q2 c2 hc2 _ _ aA) ?_;rintro _ _ _ ⟨rfl,rfl⟩;refine aL ?_;refine aW (List.Mem.head _) (fun q3 c3 e__ hc3 hz3=>?_);subst e__)
 unfold iv
 repeat refine aR ?_
 refine aT (cs:=[.bool (B (-z < 0)), .slice q3 (gr (-z).natAbs).length c3]) (.inl rfl) rfl rfl aA rfl _ _ aF aD ⟨rfl,rfl⟩
end
end Go.Proofs.YtmmmfphealhapaaGreat

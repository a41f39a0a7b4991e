/- The law's small functions: whole numbers, zeros, points with fractions, the norm. -/
import Derived.Test.YtgpkjcmipiodcaaGreatZwbb
import Derived.Test.YtgpkjcmipiodcaaGreatZwav
import Derived.Test.YtgpkjcmipiodcaaGreatZwan
import Derived.Test.YtgpkjcmipiodcaaGreatZway
set_option linter.unusedSimpArgs false
set_option linter.unusedVariables false
set_option maxRecDepth 100000
set_option maxHeartbeats 4000000
namespace Go.Proofs.YtgpkjcmipiodcaaGreat
open Go Go.Fx
theorem Hv.r3v {I:List aV} {a b c:RE} {k:Nat} (ha:Hv I (cK a k)) (hb:Hv I (cK b k)) (hc:Hv I (cK c k)):Hv I (bW [a,b,c] k):=⟨fun X w hw=>⟨fun x hx=>by
 simp only [List.mem_cons,List.not_mem_nil,or_false] at hx
 rcases hx with rfl|rfl|rfl
 ·exact ha.go X w hw
 ·exact hb.go X w hw
 ·exact hc.go X w hw⟩⟩
theorem bBE {x:Int} (h:uU x):x.natAbs≤2 ^ 64:=by
 have:(2:Nat) ^ 64=18446744073709551616:=rfl
 omega
section
variable {X:List Nat} {w0:World} {M0 M1:List Ent} {I0:List aV}
theorem xN {x:Int} (hx:uU x):CD Tryz.prog 7 [.int .i64 x] X w0 M0 I0 (RQ (x:Rat) 64 M0 I0):=by
 have hW:=fun M0 I0=>aLC (X:=X) (w0:=w0) (M0:=M0) (I0:=I0) (x:=x) (by omega) (k:=64) (bBE hx)
 refine aZ Tryz.func7 rfl Tryz.ntmps7 rfl ?_
 refine fE ?_
 refine bG (fun b2=>?_)
 repeat refine aB ?_
 refine iG rfl (hW _ _) (fun e he=>?_)
 repeat refine aB ?_
 refine bA (cs:=eR e) (.inl rfl) rfl rfl aA rfl M0 (cK e 64::I0) aG aF ⟨rfl,e,rfl,he,rfl⟩
theorem iL {p:P3} (hx:uU p.x) (hy:uU p.y) (hz:uU p.z):CD Tryz.prog 9 [p3v p] X w0 M0 I0 (TQ p.v 64 M0 I0):=by
 have hW:=fun (x:Int) (h:uU x) M0 I0=>xN (X:=X) (w0:=w0) (M0:=M0) (I0:=I0) (x:=x) h
 refine aZ Tryz.func9 rfl Tryz.ntmps9 rfl ?_
 refine fE ?_
 refine fG rfl (fun b1=>?_)
 refine aC (cs:=gP p) .here ?_
 refine bG (fun b2=>?_)
 repeat refine aB ?_
 (repeat refine aJ ?_);refine aO 3 [0,1,3,4,6,7,2,5,8,9,10] [3,2,3,2,3,2,0,0,0,0,0] mixed (by kernel_rfl) ?_
 repeat refine aB ?_
 refine iG rfl (hW p.x hx _ _) (fun e1 he1=>?_)
 repeat refine aB ?_
 refine iG rfl (hW p.y hy _ _) (fun e2 he2=>?_)
 repeat refine aB ?_
 refine iG rfl (hW p.z hz _ _) (fun e3 he3=>?_)
 (refine aD rfl (fun _=>bH (vals:=[rv e1,rv e2,rv e3]) (cells:=recs eR [e1,e2,e3]) rfl ?hpl rfl ?hz) rfl rfl ?_;(case hpl=>exact (by intro v hv;repeat (first|exact absurd hv (List.not_mem_nil)|(rcases List.mem_cons.1 hv with rfl|hv; · rfl))));(case hz=>rfl))
 repeat refine aB ?_
 refine fF (φ:=gN ⟨e1,e2,e3⟩ 64) (Hv.mkT (Hv.mem aA) (Hv.mem aA) (Hv.mem aA)) ?_
 refine bA (cs:=recs eR [e1,e2,e3]) (.inl rfl) rfl rfl aA rfl M0 (gN ⟨e1,e2,e3⟩ 64::I0) aG aF ⟨rfl,⟨e1,e2,e3⟩,rfl,by unfold TE.v P3.v;simp only [he1,he2,he3],rfl⟩
theorem aQT {n:Nat} (hn:n≤2000):CD Tryz.prog 12 [.int .i64 (n:Int)] X w0 M0 I0 (fun v M I=>M0=M∧∃r:RL,v=lv r∧r.es.length=n∧(∀e∈r.es,e.q=0)∧I=lK r 64::I0):=by
 have hW:=fun M0 I0=>xN (X:=X) (w0:=w0) (M0:=M0) (I0:=I0) (x:=0) (by decide)
 refine aZ Tryz.func12 rfl Tryz.ntmps12 rfl ?_
 repeat refine aB ?_
 refine pR 40 4 ?_
 refine bD (φ:=bW [] 64) Hv.nilR ?_
 refine kS [4] rfl (fun k G M I=>∃(i:Nat) (es:List RE) (qe:Option Addr) (ce:Nat),i≤n∧k=n - i∧es.length=i∧(∀e∈es,e.q=0)∧G=[(3, .slice qe es.length ce),(5, .int .i64 i)]∧M= .row qe es.length ce (recs eR es) 40 4::M0∧I=bW es 64::I0) (n) (⟨0,[],none,0,by omega,rfl,rfl,fun e he=>absurd he List.not_mem_nil,rfl,rfl,rfl⟩) ?_
 rintro kk G M I ⟨i,es,qe,ce,hi,rfl,hel,heq,rfl,rfl,rfl⟩
 by_cases hin:i < n
 ·repeat refine aB ?_
  refine iG rfl (hW _ _) (fun e he=>?_)
  refine lL (cs:=recs eR [e]) ([rv e]) rfl (fun b=>?_)
  refine tyP (ys:=[e]) 1 rfl rfl rfl (fun q2 c3=>?_)
  repeat refine aB ?_
  refine fF (φ:=bW (es++[e]) 64) (Hv.snoc aA aA) ?_
  refine iC (n - (i+1)) (⟨i+1,es++[e],q2,c3,by omega,rfl,by simp [hel],fun x hx=>?_,rfl,rfl,rfl⟩)
  rcases List.mem_append.1 hx with h|h
  ·exact heq x h
  ·rw [List.mem_singleton.1 h,he];rfl
 ·obtain rfl:n=i:=by omega
  repeat refine aB ?_
  refine aTK (k:=64) aA ?_
  refine gD rfl rfl (⟨rfl,⟨qe,ce,es⟩,rfl,hel,heq,rfl⟩)
theorem tQ {q:Qn} (hf:q.fit):CD Tryz.prog 6 [qv q] X w0 M0 I0 (RQ (Qn.nR q) 64 M0 I0):=by
 obtain ⟨⟨f1,f2⟩,f3,f4⟩:=hf
 have h1:=cZ f1 f1
 have h2:=cZ f2 f2
 have h3:=cZ f3 f3
 have h4:=cZ f4 f4
 have e:((q.a*q.a+q.b*q.b+q.c*q.c+q.d*q.d:Int):Rat)=Qn.nR q:=Qn.nR_eq q
 have hW:=fun M0 I0=>xN (X:=X) (w0:=w0) (M0:=M0) (I0:=I0) (x:=q.a*q.a+q.b*q.b+q.c*q.c+q.d*q.d) (by omega)
 rw [e] at hW
 refine aZ Tryz.func6 rfl Tryz.ntmps6 rfl ?_
 refine fE ?_
 refine fG rfl (fun b1=>?_)
 refine aC (cs:=eQ q) .here ?_
 refine bG (fun b2=>?_)
 repeat refine aB ?_
 refine iG rfl (hW _ _) (fun e he=>?_)
 repeat refine aB ?_
 refine bA (cs:=eR e) (.inl rfl) rfl rfl aA rfl M0 (cK e 64::I0) aG aF ⟨rfl,e,rfl,he,rfl⟩
end
def V3.crs (a b:V3):V3:=⟨a.y*b.z - a.z*b.y,a.z*b.x - a.x*b.z,a.x*b.y - a.y*b.x⟩
theorem aHM (q:Qn) (u v:V3):(q.app u).dot (q.app v)=Qn.nR q*Qn.nR q*u.dot v:=by
 obtain ⟨o1,o2,o3,o4,o5,o6⟩:=Qn.mo q
 exact aHU o1 o2 o3 o4 o5 o6 _ _ _ _ _ _
theorem aYT (q:Qn) (u v:V3):(q.app u).crs (q.app v)=(q.app (u.crs v)).scl (Qn.nR q):=by
 obtain ⟨c1,c2,c3,c4,c5,c6,c7,c8,c9⟩:=Qn.mc1 q
 apply V3.ext <;>simp only [V3.crs,Qn.app,V3.scl]
 ·have e:∀(A B C D E F n P Q R:Rat),B*F - C*E=n*P→C*D - A*F=n*Q→A*E - B*D=n*R→(A*u.x+B*u.y+C*u.z)*(D*v.x+E*v.y+F*v.z) - (D*u.x+E*u.y+F*u.z)*(A*v.x+B*v.y+C*v.z)=n*(P*(u.y*v.z - u.z*v.y)+Q*(u.z*v.x - u.x*v.z)+R*(u.x*v.y - u.y*v.x)):=by
   intro A B C D E F n P Q R h1 h2 h3
   grind
  exact e _ _ _ _ _ _ _ _ _ _ c1 c2 c3
 ·have e:∀(A B C D E F n P Q R:Rat),B*F - C*E=n*P→C*D - A*F=n*Q→A*E - B*D=n*R→(A*u.x+B*u.y+C*u.z)*(D*v.x+E*v.y+F*v.z) - (D*u.x+E*u.y+F*u.z)*(A*v.x+B*v.y+C*v.z)=n*(P*(u.y*v.z - u.z*v.y)+Q*(u.z*v.x - u.x*v.z)+R*(u.x*v.y - u.y*v.x)):=by
   intro A B C D E F n P Q R h1 h2 h3
   grind
  exact e _ _ _ _ _ _ _ _ _ _ (by rw [←c4]) (by rw [←c5]) (by rw [←c6])
 ·have e:∀(A B C D E F n P Q R:Rat),B*F - C*E=n*P→C*D - A*F=n*Q→A*E - B*D=n*R→(A*u.x+B*u.y+C*u.z)*(D*v.x+E*v.y+F*v.z) - (D*u.x+E*u.y+F*u.z)*(A*v.x+B*v.y+C*v.z)=n*(P*(u.y*v.z - u.z*v.y)+Q*(u.z*v.x - u.x*v.z)+R*(u.x*v.y - u.y*v.x)):=by
   intro A B C D E F n P Q R h1 h2 h3
   grind
  exact e _ _ _ _ _ _ _ _ _ _ (by rw [←c7]) (by rw [←c8]) (by rw [←c9])
def frm (u v:V3) (k:Rat) (i:Nat):V3:=match i with
 |0=>⟨k*u.x,k*v.x,k*k*(u.crs v).x⟩
 |1=>⟨k*u.y,k*v.y,k*k*(u.crs v).y⟩
 |_=>⟨k*u.z,k*v.z,k*k*(u.crs v).z⟩
def Qn.row (q:Qn) (i:Nat):V3:=match i with
 |0=>⟨Qn.m11 q / Qn.nR q,Qn.m12 q / Qn.nR q,Qn.m13 q / Qn.nR q⟩
 |1=>⟨Qn.m21 q / Qn.nR q,Qn.m22 q / Qn.nR q,Qn.m23 q / Qn.nR q⟩
 |_=>⟨Qn.m31 q / Qn.nR q,Qn.m32 q / Qn.nR q,Qn.m33 q / Qn.nR q⟩
theorem aXU {q:Qn} (h:q.nz) (u v:V3) (i:Nat):frm (q.app u) (q.app v) (1 / Qn.nR q) i=⟨(q.row i).x*u.x+(q.row i).y*u.y+(q.row i).z*u.z,(q.row i).x*v.x+(q.row i).y*v.y+(q.row i).z*v.z,(q.row i).x*(u.crs v).x+(q.row i).y*(u.crs v).y+(q.row i).z*(u.crs v).z⟩:=by
 have hn:=Qn.nR_nz h
 have hc:=aYT q u v
 generalize hw:(q.app u).crs (q.app v)=W at hc
 generalize u.crs v=w at hc
 subst hc
 unfold frm Qn.row
 rw [hw]
 split <;>apply V3.ext <;>simp only [V3.scl,Qn.app] <;>grind
theorem aXJ {r u v w g e:V3} (h0:u.x*g.x+v.x*g.y+w.x*g.z=e.x) (h1:u.y*g.x+v.y*g.y+w.y*g.z=e.y) (h2:u.z*g.x+v.z*g.y+w.z*g.z=e.z):
  (r.x*u.x+r.y*u.y+r.z*u.z)*g.x+(r.x*v.x+r.y*v.y+r.z*v.z)*g.y+(r.x*w.x+r.y*w.y+r.z*w.z)*g.z=r.x*e.x+r.y*e.y+r.z*e.z:=by
 rw [←h0,←h1,←h2];grind
end Go.Proofs.YtgpkjcmipiodcaaGreat
namespace Go.Proofs.YtgpkjcmipiodcaaGreat
open Go Go.Fx
def mtR (q:Qn):List P3:=[⟨q.a*q.a+q.b*q.b - q.c*q.c - q.d*q.d,2*(q.b*q.c - q.a*q.d),2*(q.b*q.d+q.a*q.c)⟩,⟨2*(q.b*q.c+q.a*q.d),q.a*q.a - q.b*q.b+q.c*q.c - q.d*q.d,2*(q.c*q.d - q.a*q.b)⟩,⟨2*(q.b*q.d - q.a*q.c),2*(q.c*q.d+q.a*q.b),q.a*q.a - q.b*q.b - q.c*q.c+q.d*q.d⟩]
def vO (q:Qn) (i j:Nat):Rat:=((gt (mtR q) (i:Int)).co j:Rat) / (Qn.nrm q:Rat)
theorem aVA (p:P3) {j:Nat} (h:j < 3):(gP p)[(j:Int).toNat]?=some (.int .i64 (p.co j)):=by
 rcases j with _|_|_|j
 ·rfl
 ·rfl
 ·rfl
 ·omega
section
variable {X:List Nat} {w0:World} {M0 M1:List Ent} {I0:List aV}
theorem aKE {x:ZE} {u:Nat} (hu:u≤100000000000) (hx:qH x u∈I0):CD Tryz.prog 150 [nv x] X w0 M0 I0 (fun v M I=>M0=M∧I0=I∧v=nv x):=by
 have hV:=fun M0 I0 h1=>tX (X:=X) (w0:=w0) (M0:=M0) (I0:=I0) (u:=nv x) (z:=x.z) (k:=u) (by omega) h1
 refine CD.mono (K:=fun v M I=>M0=M∧I0=I∧v=nv x) ?_ (fun _ _ _ h=>h)
 refine aZ Tryz.func150 rfl Tryz.ntmps150 rfl ?_
 refine fE ?_
 refine fG rfl (fun b1=>?_)
 refine bG (fun b2=>?_)
 repeat refine aB ?_
 refine dP rfl (hV _ _ aA) ?_
 repeat refine aB ?_
 refine bA (cs:=eN x) (.inl rfl) rfl rfl aA rfl M0 I0 aG aF ⟨rfl,rfl,rfl⟩
theorem aOK {x y:ZE} {u:Nat} (hu:u≤100000000000) (hy0:y.z≠0) (hx:qH x u∈I0) (hy:qH y u∈I0):CD Tryz.prog 94 [nv x,nv y] X w0 M0 I0 (RQc (Rat.divInt x.z y.z) u M0 I0):=by
 have hC:=fun (x:ZE) M0 I0 h=>aKE (X:=X) (w0:=w0) (M0:=M0) (I0:=I0) (x:=x) (u:=u) hu h
 have hS:=fun M0 I0 h=>oC (X:=X) (w0:=w0) (M0:=M0) (I0:=I0) (u:=nv y) (z:=y.z) (k:=u) (by omega) h
 have hR:=fun M0 I0 h1 h2=>vD (X:=X) (w0:=w0) (M0:=M0) (I0:=I0) (u:=nv x) (v:=nv y) (n:=x.z) (d:=y.z) (k:=u) (by omega) hy0 h1 h2
 have hs0:¬y.z.sign=0:=fun h=>hy0 (Int.sign_eq_zero_iff_zero.1 h)
 refine aP Tryz.func94 rfl Tryz.ntmps94 rfl ?_
 refine fE ?_
 refine fG rfl (fun b2=>?_)
 refine fG rfl (fun b3=>?_)
 refine bG (fun b4=>?_)
 repeat refine aB ?_
 (repeat refine aJ ?_);refine aO 2 [0,2,1,3,4,5] [1,2,0,0,0,0] mixed (by kernel_rfl) ?_
 repeat refine aB ?_
 refine dP rfl (hC x _ _ aA) ?_
 repeat refine aB ?_
 refine dP rfl (hC y _ _ aA) ?_
 repeat refine aB ?_
 refine dP rfl (hS _ _ aA) ?_
 repeat refine aB ?_
 refine iG rfl (hR _ _ aA aA) (fun e he=>?_)
 repeat refine aB ?_
 refine dI (rs:=[.cell 4 40, .tmp 5]) (vs:=[rv e, .int .i64 0]) (.inl rfl) rfl (.cellN (cs:=eR e) inferInstance rfl aA rfl (.tmp rfl .nil)) rfl M0 (cK e u::I0) aG aF ⟨rfl,e,rfl,he,rfl⟩
theorem aZN {n d:Int} (hn:uU n) (hd:uU d) (hd0:d≠0):CD Tryz.prog 177 [.int .i64 n, .int .i64 d] X w0 M0 I0 (RQc ((n:Rat) / (d:Rat)) 63 M0 I0):=by
 rw [show ((n:Rat) / (d:Rat))=Rat.divInt n d from (Rat.divInt_eq_div n d).symm]
 refine aP Tryz.func177 rfl Tryz.ntmps177 rfl ?_
 refine fE ?_
 refine bG (fun b4=>?_)
 repeat refine aB ?_
 (refine aU rfl (NOf hn) ?_;rintro _ _ _ ⟨rfl,e1,rfl,he1,rfl⟩;refine aL ?_)
 repeat refine aB ?_
 (refine aU rfl (NOf hd) ?_;rintro _ _ _ ⟨rfl,e2,rfl,he2,rfl⟩;refine aL ?_)
 rw [←he1,←he2]
 (refine aS rfl (aOK (u:=63) (by decide) (by rw [he2];exact hd0) aA aA) rfl rfl ?_;rintro _ _ _ ⟨rfl,e,rfl,he,rfl⟩;refine aL ?_)
 repeat refine aB ?_
 refine dI (rs:=[.cell 4 40, .tmp 5]) (vs:=[rv e, .int .i64 0]) (.inl rfl) rfl (.cellN (cs:=eR e) inferInstance rfl aA rfl (.tmp rfl .nil)) rfl M0 (cK e 63::I0) aG aF ⟨rfl,e,rfl,he,rfl⟩
theorem aSR {q:Qn} (hf:q.fit):CD Tryz.prog 178 [qv q] X w0 M0 I0 (fun v M I=>M0=M∧I0=I∧v= .int .i64 (Qn.nrm q)):=by
 obtain ⟨⟨f1,f2⟩,f3,f4⟩:=hf
 have h1:=cZ f1 f1
 have h2:=cZ f2 f2
 have h3:=cZ f3 f3
 have h4:=cZ f4 f4
 refine aZ Tryz.func178 rfl Tryz.ntmps178 rfl ?_
 refine fE ?_
 refine fG rfl (fun b1=>?_)
 refine aC (cs:=eQ q) .here ?_
 repeat refine aB ?_
 refine gD rfl rfl (⟨rfl,rfl,rfl⟩)
theorem nrm_b {q:Qn} (hf:q.fit):uU (Qn.nrm q):=by
 obtain ⟨⟨f1,f2⟩,f3,f4⟩:=hf
 have h1:=cZ f1 f1
 have h2:=cZ f2 f2
 have h3:=cZ f3 f3
 have h4:=cZ f4 f4
 unfold Qn.nrm
 omega
theorem mtR_b {q:Qn} (hf:q.fit):∀p∈mtR q,∀k:Int,uU (p.co k):=by
 obtain ⟨⟨f1,f2⟩,f3,f4⟩:=hf
 have h1:=cZ f1 f1
 have h2:=cZ f2 f2
 have h3:=cZ f3 f3
 have h4:=cZ f4 f4
 have h5:=cZ f2 f3
 have h6:=cZ f1 f4
 have h7:=cZ f2 f4
 have h8:=cZ f1 f3
 have h9:=cZ f3 f4
 have h10:=cZ f1 f2
 intro p hp k
 simp only [mtR,List.mem_cons,List.not_mem_nil,or_false] at hp
 unfold P3.co
 rcases hp with rfl|rfl|rfl <;>(split;(· dsimp only;omega);split <;>dsimp only <;>omega)
theorem aKT {q:Qn} (hz:q.nz) (hf:q.fit):CD Tryz.prog 134 [qv q] X w0 M0 I0 (XQc (yN 3 3 (vO q)) 3 3 63 M0 I0):=by
 have hmb:=mtR_b hf
 have hNr:=fun M0 I0=>aSR (X:=X) (w0:=w0) (M0:=M0) (I0:=I0) hf
 have hnb:=nrm_b hf
 have hn0:=Qn.nrm_nz.1 hz
 have hq0:lN q=0:=by unfold lN;rw [if_neg hz,if_pos hf]
 have hf':=hf
 obtain ⟨⟨f1,f2⟩,f3,f4⟩:=hf'
 have h1:=cZ f1 f1
 have h2:=cZ f2 f2
 have h3:=cZ f3 f3
 have h4:=cZ f4 f4
 have h5:=cZ f2 f3
 have h6:=cZ f1 f4
 have h7:=cZ f2 f4
 have h8:=cZ f1 f3
 have h9:=cZ f3 f4
 have h10:=cZ f1 f2
 refine aZ Tryz.func134 rfl Tryz.ntmps134 rfl ?_
 refine fE ?_
 refine fG rfl (fun b1=>?_)
 refine aC (cs:=eQ q) .here ?_
 repeat refine aB ?_
 refine dP rfl (xG (q:=q)) ?_
 rw [hq0]
 repeat refine aB ?_
 (repeat refine aJ ?_);refine vT ([]) (aI (some ⟨b1,0,none⟩) (eQ q)::[]) [0,1,2,3,4,5,6,7,8,9,10,11] [0,0,0,0,0,0,0,0,0,0,0,0] mixed ?_
 repeat refine aB ?_
 (refine aD rfl (fun _=>bH (vals:=[.int .i64 (q.a*q.a+q.b*q.b - q.c*q.c - q.d*q.d), .int .i64 (2*(q.b*q.c - q.a*q.d)), .int .i64 (2*(q.b*q.d+q.a*q.c))]) (cells:=[.int .i64 (q.a*q.a+q.b*q.b - q.c*q.c - q.d*q.d), .int .i64 (2*(q.b*q.c - q.a*q.d)), .int .i64 (2*(q.b*q.d+q.a*q.c))]) rfl ?hpl rfl ?hz) rfl rfl ?_;(case hpl=>exact (by intro v hv;repeat (first|exact absurd hv (List.not_mem_nil)|(rcases List.mem_cons.1 hv with rfl|hv; · rfl))));(case hz=>rfl))
 repeat refine aB ?_
 (refine aD rfl (fun _=>bH (vals:=[.int .i64 (2*(q.b*q.c+q.a*q.d)), .int .i64 (q.a*q.a - q.b*q.b+q.c*q.c - q.d*q.d), .int .i64 (2*(q.c*q.d - q.a*q.b))]) (cells:=[.int .i64 (2*(q.b*q.c+q.a*q.d)), .int .i64 (q.a*q.a - q.b*q.b+q.c*q.c - q.d*q.d), .int .i64 (2*(q.c*q.d - q.a*q.b))]) rfl ?hpl rfl ?hz) rfl rfl ?_;(case hpl=>exact (by intro v hv;repeat (first|exact absurd hv (List.not_mem_nil)|(rcases List.mem_cons.1 hv with rfl|hv; · rfl))));(case hz=>rfl))
 repeat refine aB ?_
 (refine aD rfl (fun _=>bH (vals:=[.int .i64 (2*(q.b*q.d - q.a*q.c)), .int .i64 (2*(q.c*q.d+q.a*q.b)), .int .i64 (q.a*q.a - q.b*q.b - q.c*q.c+q.d*q.d)]) (cells:=[.int .i64 (2*(q.b*q.d - q.a*q.c)), .int .i64 (2*(q.c*q.d+q.a*q.b)), .int .i64 (q.a*q.a - q.b*q.b - q.c*q.c+q.d*q.d)]) rfl ?hpl rfl ?hz) rfl rfl ?_;(case hpl=>exact (by intro v hv;repeat (first|exact absurd hv (List.not_mem_nil)|(rcases List.mem_cons.1 hv with rfl|hv; · rfl))));(case hz=>rfl))
 (refine aD rfl (fun _=>bH (vals:=[.agg #[.int .i64 (q.a*q.a+q.b*q.b - q.c*q.c - q.d*q.d), .int .i64 (2*(q.b*q.c - q.a*q.d)), .int .i64 (2*(q.b*q.d+q.a*q.c))], .agg #[.int .i64 (2*(q.b*q.c+q.a*q.d)), .int .i64 (q.a*q.a - q.b*q.b+q.c*q.c - q.d*q.d), .int .i64 (2*(q.c*q.d - q.a*q.b))], .agg #[.int .i64 (2*(q.b*q.d - q.a*q.c)), .int .i64 (2*(q.c*q.d+q.a*q.b)), .int .i64 (q.a*q.a - q.b*q.b - q.c*q.c+q.d*q.d)]]) (cells:=recs gP (mtR q)) rfl ?hpl rfl ?hz) rfl rfl ?_;(case hpl=>exact (by intro v hv;repeat (first|exact absurd hv (List.not_mem_nil)|(rcases List.mem_cons.1 hv with rfl|hv; · rfl))));(case hz=>rfl))
 refine bG (fun b9=>?_)
 repeat refine aB ?_
 clear h1 h2 h3 h4 h5 h6 h7 h8 h9 h10
 have hml:(mtR q).length=3:=rfl
 have hFd:∀i j,vO q i j=((gt (mtR q) (i:Int)).co j:Rat) / (Qn.nrm q:Rat):=fun _ _=>rfl
 obtain ⟨ms,hms⟩:∃ms,mtR q=ms:=⟨_,rfl⟩
 obtain ⟨F,hF⟩:∃F,vO q=F:=⟨_,rfl⟩
 rw [hms] at hml hmb hFd ⊢
 rw [hF] at hFd ⊢
 refine pR 52 1 ?_
 refine bD (φ:=vP [] 63) Hv.nilL ?_
 refine kS [1,128] rfl (fun k G M I=>∃(i:Nat) (rows:List RL) (qa:Option Addr) (ca:Nat),i≤3∧k=3 - i∧rows.length=i∧rows.map RL.q=(List.range i).map (fun i=>(List.range 3).map (F i))∧(∀r∈rows,r.es.length=3)∧G=[(10, .slice qa rows.length ca),(129, .int .i64 (i:Int))]∧M= .row qa rows.length ca (recs eL rows) 52 1::M0∧vP rows 63::aI (some ⟨b1,0,none⟩) (eQ q)::I0=I) (3) (⟨0,[],none,0,by omega,rfl,rfl,rfl,fun r hr=>absurd hr List.not_mem_nil,rfl,rfl,rfl⟩) ?_
 rintro kk G M I ⟨i,rows,qa,ca,hi,rfl,hrl,hrq,hr3,rfl,rfl,rfl⟩
 by_cases hi3:i < 3
 ·obtain ⟨rw,hrw⟩:∃rw,gt ms (i:Int)=rw:=⟨_,rfl⟩
  have hrb:=hmb _ (bJ (ms:=ms) (i:=(i:Int)) ⟨by omega,by omega⟩)
  rw [hrw] at hrb
  repeat refine aB ?_
  (refine aD rfl (fun _=>jN (cs:=recs gP ms) (vs:=gP rw) (i:=(i:Int)) rfl rfl ⟨by omega,by omega⟩ (by rw [←hrw];exact oK ⟨by omega,by omega⟩)) rfl rfl ?_)
  refine bG (fun b12=>?_)
  repeat refine aB ?_
  refine pR 40 4 ?_
  refine bD (φ:=bW [] 63) Hv.nilR ?_
  refine kS [1,10,128,129,132] rfl (fun k G M I=>∃(j:Nat) (es:List RE) (qe:Option Addr) (ce:Nat),j≤3∧k=3 - j∧es.length=j∧qs es=(List.range j).map (F i)∧G=[(13, .slice qe es.length ce),(133, .int .i64 (j:Int))]∧M= .row qe es.length ce (recs eR es) 40 4:: .row qa rows.length ca (recs eL rows) 52 1::M0∧bW es 63::vP rows 63::aI (some ⟨b1,0,none⟩) (eQ q)::I0=I) (3) (⟨0,[],none,0,by omega,rfl,rfl,rfl,rfl,rfl,rfl⟩) ?_
  rintro kk G M I ⟨j,es,qe,ce,hj,rfl,hel,heq,rfl,rfl,rfl⟩
  by_cases hj3:j < 3
  ·have hO:=fun M0 I0=>aZN (X:=X) (w0:=w0) (M0:=M0) (I0:=I0) (n:=rw.co j) (d:=Qn.nrm q) (hrb j) hnb hn0
   repeat refine aB ?_
   (refine aD rfl (fun _=>rF (cs:=gP rw) (v:= .int .i64 (rw.co j)) (i:=(j:Int)) rfl rfl ⟨by omega,by omega⟩ rfl (aVA rw hj3)) rfl rfl ?_)
   repeat refine aB ?_
   refine dP rfl (hNr _ _) ?_
   (refine aU rfl (hO _ _) ?_;rintro _ _ _ ⟨rfl,e,rfl,he,rfl⟩;refine aL ?_)
   repeat refine aB ?_
   refine bG (fun b16=>?_)
   repeat refine aB ?_
   refine lL (cs:=recs eR [e]) ([rv e]) rfl (fun b=>?_)
   refine tyP (ys:=[e]) 2 rfl rfl rfl (fun q2 c3=>?_)
   repeat refine aB ?_
   refine fF (φ:=bW (es++[e]) 63) (Hv.snoc aA aA) ?_
   refine iC (3 - (j+1)) (⟨j+1,es++[e],q2,c3,by omega,rfl,by simp [hel],?_,rfl,rfl,rfl⟩)
   rw [List.range_succ,List.map_append,←heq]
   show (es++[e]).map RE.q=qs es++[F i j]
   rw [List.map_append,hFd,hrw,←he]
   rfl
  obtain rfl:j=3:=by omega
  repeat refine aB ?_
  refine aGQ (k:=63) aA ?_
  repeat refine aB ?_
  refine lL (cs:=recs eL [⟨qe,ce,es⟩]) ([lv ⟨qe,ce,es⟩]) rfl (fun b7=>?_)
  refine tyP (ys:=[(⟨qe,ce,es⟩:RL)]) 1 rfl rfl rfl (fun qa2 ca2=>?_)
  repeat refine aB ?_
  refine fF (φ:=vP (rows++[(⟨qe,ce,es⟩:RL)]) 63) (Hv.snocL aA aA) ?_
  refine iC (3 - (i+1)) (⟨i+1,rows++[⟨qe,ce,es⟩],qa2,ca2,by omega,rfl,by simp [hrl],?_,fun r hr=>?_,rfl,rfl,rfl⟩)
  ·have e:List.range (i+1)=List.range i++[i]:=List.range_succ
   rw [e,List.map_append,List.map_append,hrq]
   show _++[qs es]=_
   rw [heq]
   rfl
  ·rcases List.mem_append.1 hr with h|h
   ·exact hr3 r h
   ·rw [List.mem_singleton.1 h];exact hel
 obtain rfl:i=3:=by omega
 repeat refine aB ?_
 refine aSS (k:=63) aA ?_
 refine tyS [2,3] rfl rfl (⟨rfl,⟨qa,ca,rows⟩,rfl,hrq,⟨hrl,hr3⟩,rfl⟩)
end
end Go.Proofs.YtgpkjcmipiodcaaGreat
namespace Go.Proofs.YtgpkjcmipiodcaaGreat
open Go Go.Fx
structure VC (ws:List RW) (es:List RE) (i:Nat) (F:Nat→Rat):Prop where
 lw:ws.length=3
 le:es.length=i
 hw:∀j:Nat,j < i→gt ws (j:Int)=(gt es (j:Int)).raw
 hq:∀j:Nat,j < i→(gt es (j:Int)).q=F j
theorem VC.zero (F:Nat→Rat):VC [default,default,default] [] 0 F:=⟨rfl,rfl,fun _ h=>absurd h (by omega),fun _ h=>absurd h (by omega)⟩
theorem aCQ {α:Type} [Inhabited α] {es:List α} {e:α} {j:Nat}:gt (es++[e]) (j:Int)=if j < es.length then gt es (j:Int) else if j=es.length then e else default:=by
 unfold gt
 rw [Int.toNat_natCast]
 by_cases h:j < es.length
 ·rw [if_pos h];simp [List.getD,List.getElem?_append_left h]
 ·rw [if_neg h]
  by_cases h2:j=es.length
  ·rw [if_pos h2];subst h2;simp [List.getD]
  ·rw [if_neg h2];simp only [List.getD];rw [List.getElem?_eq_none (by rw [List.length_append,List.length_singleton];omega)];rfl
theorem VC.step {ws:List RW} {es:List RE} {i:Nat} {F:Nat→Rat} {e:RE} (h:VC ws es i F) (hi:i < 3) (he:e.q=F i):VC (st ws (i:Int) e.raw) (es++[e]) (i+1) F:=by
 have l1:=h.lw
 have l2:=h.le
 refine ⟨by rw [dB];exact l1,by simp [l2],fun j hj=>?_,fun j hj=>?_⟩
 ·rw [wJ (by omega) (by omega),aCQ]
  by_cases e:j=i
  ·rw [if_pos e,if_neg (by omega),if_pos (by omega)]
  ·rw [if_neg e,if_pos (by omega)];exact h.hw j (by omega)
 ·rw [aCQ]
  by_cases e:j=i
  ·rw [if_neg (by omega),if_pos (by omega),he,e]
  ·rw [if_pos (by omega)];exact h.hq j (by omega)
theorem VC.done {ws:List RW} {es:List RE} {F:Nat→Rat} (h:VC ws es 3 F):∃p:TE,recs eW ws=eT p∧p.v=⟨F 0,F 1,F 2⟩∧es=[p.x,p.y,p.z]:=by
 have l2:=h.le
 match es,l2 with
 |[a,b,c],_=>
  refine ⟨⟨a,b,c⟩,?_,?_,rfl⟩
  ·have:ws=[a,b,c].map RE.raw:=aLZ (by rw [h.lw];rfl) (fun j hj=>by
    rw [h.hw j (by rw [h.lw] at hj;exact hj),qW ⟨by omega,by have:=h.lw;simp;omega⟩])
   rw [this,aKP]
  ·have h0:=h.hq 0 (by omega)
   have h1:=h.hq 1 (by omega)
   have h2:=h.hq 2 (by omega)
   exact V3.ext h0 h1 h2
theorem Hv.t3 {I:List aV} {p:TE} {k:Nat} (h:bW [p.x,p.y,p.z] k∈I):Hv I (gN p k):=⟨fun X w hw=>by
 have h1:AllR [p.x,p.y,p.z] k X w:=hw _ h
 exact ⟨h1.go _ (by simp),h1.go _ (by simp),h1.go _ (by simp)⟩⟩
theorem StAts.w0 {ws:List RW} {e:RE} {i:Nat} (hi:i < ws.length):StAts (recs eW ws) (0+(i:Int).toNat*4) (eR e) (recs eW (st ws (i:Int) e.raw)):=by
 rw [Nat.zero_add]
 exact StAts.r e.raw ⟨by omega,by omega⟩ rfl
theorem AtsZ.v0 {α:Type} [Inhabited α] {enc:α→List Value} {sz:Nat} [hz:Sized enc sz] {ms:List α} {i:Int} (hi:0≤i∧i < ms.length):AtsZ (recs enc ms) (0+i.toNat*sz) (enc (gt ms i)) sz:=by
 rw [Nat.zero_add];exact AtsZ.r hi
theorem aWU (q:Qn) (p:TE):q.rot p.v=⟨aBQ 3 ((List.range 3).map (vO q 0)) [p.x.q,p.y.q,p.z.q],aBQ 3 ((List.range 3).map (vO q 1)) [p.x.q,p.y.q,p.z.q],aBQ 3 ((List.range 3).map (vO q 2)) [p.x.q,p.y.q,p.z.q]⟩:=by
 have h:∀i,aBQ 3 ((List.range 3).map (vO q i)) [p.x.q,p.y.q,p.z.q]=0+vO q i 0*p.x.q+vO q i 1*p.y.q+vO q i 2*p.z.q:=fun i=>rfl
 have e0:∀i j,vO q i j=((gt (mtR q) (i:Int)).co j:Rat) / Qn.nR q:=fun i j=>by unfold vO;rw [Qn.nR_eq]
 rw [h,h,h]
 have c0:(((gt (mtR q) ((0:Nat):Int)).co ((0:Nat):Int):Int):Rat)=Qn.m11 q:=by show ((q.a*q.a+q.b*q.b - q.c*q.c - q.d*q.d:Int):Rat)=_;simp only [Rat.intCast_add,Rat.intCast_sub,Rat.intCast_mul];rfl
 have c1:(((gt (mtR q) ((0:Nat):Int)).co ((1:Nat):Int):Int):Rat)=Qn.m12 q:=by show ((2*(q.b*q.c - q.a*q.d):Int):Rat)=_;simp only [Rat.intCast_add,Rat.intCast_sub,Rat.intCast_mul];rfl
 have c2:(((gt (mtR q) ((0:Nat):Int)).co ((2:Nat):Int):Int):Rat)=Qn.m13 q:=by show ((2*(q.b*q.d+q.a*q.c):Int):Rat)=_;simp only [Rat.intCast_add,Rat.intCast_sub,Rat.intCast_mul];rfl
 have c3:(((gt (mtR q) ((1:Nat):Int)).co ((0:Nat):Int):Int):Rat)=Qn.m21 q:=by show ((2*(q.b*q.c+q.a*q.d):Int):Rat)=_;simp only [Rat.intCast_add,Rat.intCast_sub,Rat.intCast_mul];rfl
 have c4:(((gt (mtR q) ((1:Nat):Int)).co ((1:Nat):Int):Int):Rat)=Qn.m22 q:=by show ((q.a*q.a - q.b*q.b+q.c*q.c - q.d*q.d:Int):Rat)=_;simp only [Rat.intCast_add,Rat.intCast_sub,Rat.intCast_mul];rfl
 have c5:(((gt (mtR q) ((1:Nat):Int)).co ((2:Nat):Int):Int):Rat)=Qn.m23 q:=by show ((2*(q.c*q.d - q.a*q.b):Int):Rat)=_;simp only [Rat.intCast_add,Rat.intCast_sub,Rat.intCast_mul];rfl
 have c6:(((gt (mtR q) ((2:Nat):Int)).co ((0:Nat):Int):Int):Rat)=Qn.m31 q:=by show ((2*(q.b*q.d - q.a*q.c):Int):Rat)=_;simp only [Rat.intCast_add,Rat.intCast_sub,Rat.intCast_mul];rfl
 have c7:(((gt (mtR q) ((2:Nat):Int)).co ((1:Nat):Int):Int):Rat)=Qn.m32 q:=by show ((2*(q.c*q.d+q.a*q.b):Int):Rat)=_;simp only [Rat.intCast_add,Rat.intCast_sub,Rat.intCast_mul];rfl
 have c8:(((gt (mtR q) ((2:Nat):Int)).co ((2:Nat):Int):Int):Rat)=Qn.m33 q:=by show ((q.a*q.a - q.b*q.b - q.c*q.c+q.d*q.d:Int):Rat)=_;simp only [Rat.intCast_add,Rat.intCast_sub,Rat.intCast_mul];rfl
 unfold Qn.rot TE.v
 simp only [e0,c0,c1,c2,c3,c4,c5,c6,c7,c8,Rat.zero_add]
section
variable {X:List Nat} {w0:World} {M0 M1:List Ent} {I0:List aV}
theorem aPM {r:RL} {kb n:Nat} (hk:kb≤500000000000) (hl:r.es.length=n) (hn:n≤1000) (hr:Hv I0 (lK r kb)):CD Tryz.prog 135 [lv r] X w0 M0 I0 (fun v M I=>M0=M∧I0=I∧v= .bool true):=by
 refine bO (φ:=lK r kb) hr ?_
 refine bO (φ:=aI (r).p (recs eR (r).es)) (Hv.lsl aA) ?_
 refine aZ Tryz.func135 rfl Tryz.ntmps135 rfl ?_
 repeat refine aB ?_
 rw [hl]
 refine kS [5,6] rfl (fun k G M I=>∃i:Nat,i≤n∧k=n - i∧G=[(7, .int .i64 (i:Int))]∧M0=M∧aI r.p (recs eR r.es)::lK r kb::I0=I) (n) (⟨0,by omega,rfl,rfl,rfl,rfl⟩) ?_
 rintro kk G M I ⟨i,hi,rfl,rfl,rfl,rfl⟩
 by_cases hin:i < n
 ·obtain ⟨e,hee⟩:∃e,gt r.es (i:Int)=e:=⟨_,rfl⟩
  refine bD (φ:=cK e kb) (by rw [←hee];exact Hv.lel (r:=r) (k:=kb) aA (by omega)) ?_
  have hV:=fun M0 I0 h=>wX (X:=X) (w0:=w0) (M0:=M0) (I0:=I0) (e:=e) (k:=kb) (by omega) h
  repeat refine aB ?_
  rw [hee]
  refine bG (fun b4=>?_)
  repeat refine aB ?_
  refine dP rfl (hV _ _ (Hv.mem aA)) ?_
  repeat refine aB ?_
  refine iC (n - (i+1)) (⟨i+1,by omega,rfl,rfl,rfl,rfl⟩)
 obtain rfl:n=i:=by omega
 repeat refine aB ?_
 refine gD rfl rfl (⟨rfl,rfl,rfl⟩)
theorem aPC {q:Qn} {p:TE} {kp:Nat} (hz:q.nz) (hf:q.fit) (hk:kp≤1000000000) (hp:Hv I0 (gN p kp)):
  CD Tryz.prog 78 [qv q,tv p] X w0 M0 I0 (fun v M I=>M0=M∧∃r:TE,v= .tuple #[tv r, .int .i64 0]∧r.v=q.rot p.v∧I=gN r (3*(63+kp+1))::I0):=by
 refine bO (φ:=gN p kp) hp ?_
 have hrv:q.rot p.v=⟨aBQ 3 ((List.range 3).map (vO q 0)) [p.x.q,p.y.q,p.z.q],aBQ 3 ((List.range 3).map (vO q 1)) [p.x.q,p.y.q,p.z.q],aBQ 3 ((List.range 3).map (vO q 2)) [p.x.q,p.y.q,p.z.q]⟩:=aWU q p
 refine aP Tryz.func78 rfl Tryz.ntmps78 rfl ?_
 refine fE ?_
 refine fG rfl (fun b2=>?_)
 refine aC (cs:=eQ q) .here ?_
 refine fG rfl (fun b3=>?_)
 refine aC (cs:=eT p) .here ?_
 refine bG (fun b4=>?_)
 repeat refine aB ?_
 (refine aU rfl (aKT hz hf) ?_;rintro _ _ _ ⟨rfl,m,rfl,hm,hmd,rfl⟩;refine aL ?_)
 repeat refine aB ?_
 refine fH (φ:=lK (p.l b3) kp) (Hv.tl (Hv.mem (φ:=gN p kp) aA) aA) ?_
 (refine aD rfl (fun _=>eF rfl) rfl rfl ?_)
 refine dP rfl (aPM (r:=p.l b3) (kb:=kp) (n:=3) (by omega) rfl (by decide) (Hv.mem aA)) ?_
 repeat refine aB ?_
 refine bG (fun b8=>?_)
 obtain ⟨K,hK⟩:∃K,3*(63+kp+1)=K:=⟨_,rfl⟩
 refine fH (φ:=aI m.p (recs eL m.rows)) (Hv.xsl (k:=63) aA) (fH (φ:=bW [] K) Hv.nilR ?_)
 have hmr:=hmd.1
 have hF:∀i:Nat,i < 3→(gt m.rows (i:Int)).q=(List.range 3).map (vO q i):=fun i hi=>by
  have h1:gt (m.rows.map RL.q) (i:Int)=(gt m.rows (i:Int)).q:=qW ⟨by omega,by omega⟩
  have h2:m.rows.map RL.q=yN 3 3 (vO q):=hm
  rw [←h1,h2]
  rcases i with _|_|_|i
  ·rfl
  ·rfl
  ·rfl
  ·omega
 repeat refine aB ?_
 rw [hmr]
 refine kS [3,4,8,24,25] rfl (fun k G M I=>∃(i:Nat) (ws:List RW) (es:List RE),i≤3∧k=3 - i∧VC ws es i (fun i=>aBQ 3 ((List.range 3).map (vO q i)) [p.x.q,p.y.q,p.z.q])∧G=[(26, .int .i64 (i:Int))]∧M= .blk b8 (recs eW ws) 45:: .blk b4 (recs eW [default,default,default]) 45::M0∧bW es K::aI m.p (recs eL m.rows)::pW m 63::lK (p.l b3) kp::aI (some ⟨b3,0,none⟩) (eT p)::I0=I) (3) (⟨0,[default,default,default],[],by omega,rfl,VC.zero _,rfl,rfl,rfl⟩) ?_
 rintro kk G M I ⟨i,ws,es,hi,rfl,hv,rfl,rfl,rfl⟩
 by_cases hi3:i < 3
 ·refine bD (φ:=lK (gt m.rows (i:Int)) 63) (Hv.xrow (k:=63) aA ⟨by omega,by omega⟩) ?_
  have hlw:=hv.lw
  repeat refine aB ?_
  (refine aD rfl (fun _=>eF rfl) rfl rfl ?_)
  (refine aU rfl (aNK (a:=gt m.rows (i:Int)) (b:=p.l b3) (ka:=63) (kb:=kp) (n:=3) (by decide) (by omega) (hmd.row hi3) rfl (Hv.mem aA) (Hv.mem aA)) ?_;rintro _ _ _ ⟨rfl,e,rfl,he,rfl⟩;refine aL ?_)
  rw [hF i hi3] at he
  repeat refine aB ?_
  (refine fM (vs:=eR e) (cs:=recs eW ws) (cs':=recs eW (st ws (i:Int) e.raw)) rfl rfl rfl nU iN (StAts.w0 (by omega)) rfl rfl ⟨okF,?_⟩)
  rw [hK]
  repeat refine aB ?_
  refine fF (φ:=bW (es++[e]) K) (Hv.snoc aA aA) ?_
  refine iC (3 - (i+1)) (⟨i+1,st ws (i:Int) e.raw,es++[e],by omega,rfl,hv.step hi3 he,rfl,rfl,rfl⟩)
 obtain rfl:i=3:=by omega
 obtain ⟨r,hr1,hr2,rfl⟩:=hv.done
 rw [hr1]
 repeat refine aB ?_
 refine fF (φ:=gN r K) (Hv.t3 aA) ?_
 refine dI (rs:=[.cell 4 45, .tmp 5]) (vs:=[tv r, .int .i64 0]) (.inl rfl) rfl (.cellN (cs:=eT r) inferInstance rfl aA rfl (.tmp rfl .nil)) rfl M0 (gN r K::I0) aG aF ⟨rfl,r,rfl,by rw [hr2,hrv],by rw [hK]⟩
end
end Go.Proofs.YtgpkjcmipiodcaaGreat
namespace Go.Proofs.YtgpkjcmipiodcaaGreat
open Go Go.Fx
structure SE where
 s:RE
 q:Qn
 t:TE
instance SE.inh:Inhabited SE:=⟨⟨default,default,default⟩⟩
abbrev pX (x:SE):List Value:=(eR x.s++eQ x.q)++eT x.t
abbrev sev (x:SE):Value:= .agg (pX x).toArray
def SE.v (x:SE):Sim:=⟨x.s.q,x.q,x.t.v⟩
instance SE.szd:Sized pX 20:=⟨fun _=>rfl⟩
instance SE.ones:Ones pX:=⟨fun m u hu=>by
 rcases List.mem_append.1 hu with h|h
 ·rcases List.mem_append.1 h with h|h
  ·exact Ones.one (enc:=eR) m.s u h
  ·exact Ones.one (enc:=eQ) m.q u h
 ·exact Ones.one (enc:=eT) m.t u h⟩
structure IsSE (x:SE) (ks kt:Nat) (X:List Nat) (w:World):Prop where
 s:IsR x.s ks X w
 t:IsT x.t kt X w
abbrev gM (x:SE) (ks kt:Nat):aV:=IsSE x ks kt
instance (x:SE) (ks kt:Nat):Fx.Good (IsSE x ks kt):=⟨fun X Y w w' h he hY=>⟨Fx.Good.go (φ:=IsR _ _) X Y w w' h.s he hY,Fx.Good.go (φ:=IsT _ _) X Y w w' h.t he hY⟩⟩
theorem Hv.ses {I:List aV} {x:SE} {ks kt:Nat} (h:Hv I (gM x ks kt)):Hv I (cK x.s ks):=⟨fun X w hw=>(h.go X w hw).s⟩
theorem Hv.set {I:List aV} {x:SE} {ks kt:Nat} (h:Hv I (gM x ks kt)):Hv I (gN x.t kt):=⟨fun X w hw=>(h.go X w hw).t⟩
theorem Hv.mkSE {I:List aV} {s:RE} {q:Qn} {t:TE} {ks kt:Nat} (hs:Hv I (cK s ks)) (ht:Hv I (gN t kt)):Hv I (gM ⟨s,q,t⟩ ks kt):=⟨fun X w hw=>⟨hs.go X w hw,ht.go X w hw⟩⟩
theorem AtsZ.appR0 {A B:List Value} {n sz:Nat} (hA:A.length=n) (hB:B.length=sz):AtsZ (A++B) n B sz:=⟨⟨fun j v hj=>by
 rw [List.getElem?_append_right (by omega),show n+j - A.length=j by omega];exact hj⟩,hB⟩
theorem AtsZ.se2 {x:SE}:AtsZ (pX x) 8 (eT x.t) 12:=AtsZ.appR0 rfl rfl
section
variable {X:List Nat} {w0:World} {M0 M1:List Ent} {I0:List aV}
theorem aWV {p:Option Addr} {c n:Nat} {l:List Int} (hn:l.length=n) (hl:n≤100) (hb:∀x∈l,x.natAbs≤1048576) (h:aI p (recs (eI .i64) l)∈I0):
  CD Tryz.prog 76 [.slice p n c] X w0 M0 I0 (fun v M I=>M0=M∧I0=I∧v= .bool false):=by
 refine aZ Tryz.func76 rfl Tryz.ntmps76 rfl ?_
 repeat refine aB ?_
 refine kS [5,6] rfl (fun k G M I=>∃i:Nat,i≤n∧k=n - i∧G=[(7, .int .i64 (i:Int))]∧M0=M∧I0=I) (n) (⟨0,by omega,rfl,rfl,rfl,rfl⟩) ?_
 rintro kk G M I ⟨i,hi,rfl,rfl,rfl,rfl⟩
 by_cases hin:i < n
 ·have hg:=hb _ (bJ (ms:=l) (i:=(i:Int)) ⟨by omega,by omega⟩)
  obtain ⟨z,hz⟩:∃z,gt l (i:Int)=z:=⟨_,rfl⟩
  rw [hz] at hg
  repeat refine aB ?_
  rw [hz]
  repeat refine aB ?_
  refine iC (n - (i+1)) (⟨i+1,by omega,rfl,rfl,rfl,rfl⟩)
 obtain rfl:n=i:=by omega
 repeat refine aB ?_
 refine gD rfl rfl (⟨rfl,rfl,rfl⟩)
theorem aBD {m:MX} {kb n:Nat} (hk:kb≤500000000000) (hn:m.rows.length=n) (hl:n≤100) (hr:∀r∈m.rows,r.es.length≤100) (hm:Hv I0 (pW m kb)):
  CD Tryz.prog 32 [mv m] X w0 M0 I0 (fun v M I=>M0=M∧I0=I∧v= .bool true):=by
 refine bO (φ:=pW m kb) hm ?_
 refine bO (φ:=aI m.p (recs eL m.rows)) (Hv.xsl (k:=kb) aA) ?_
 refine aZ Tryz.func32 rfl Tryz.ntmps32 rfl ?_
 repeat refine aB ?_
 rw [hn]
 refine kS [7,8] rfl (fun k G M I=>∃i:Nat,i≤n∧k=n - i∧G=[(9, .int .i64 (i:Int))]∧M0=M∧aI m.p (recs eL m.rows)::pW m kb::I0=I) (n) (⟨0,by omega,rfl,rfl,rfl,rfl⟩) ?_
 rintro kk G M I ⟨i,hi,rfl,rfl,rfl,rfl⟩
 by_cases hin:i < n
 ·have hlr:=hr _ (bJ (ms:=m.rows) (i:=(i:Int)) ⟨by omega,by omega⟩)
  obtain ⟨r,hre⟩:∃r,gt m.rows (i:Int)=r:=⟨_,rfl⟩
  refine bD (φ:=lK r kb) (by rw [←hre];exact Hv.xrow (k:=kb) aA ⟨by omega,by omega⟩) ?_
  refine bD (φ:=aI r.p (recs eR r.es)) (Hv.lsl (k:=kb) aA) ?_
  rw [hre] at hlr
  obtain ⟨nr,hnr⟩:∃nr,r.es.length=nr:=⟨_,rfl⟩
  repeat refine aB ?_
  rw [hre]
  repeat refine aB ?_
  rw [hnr]
  refine kS [7,8,9,13,14] rfl (fun k G M I=>∃j:Nat,j≤nr∧k=nr - j∧G=[(15, .int .i64 (j:Int))]∧M0=M∧aI r.p (recs eR r.es)::lK r kb::aI m.p (recs eL m.rows)::pW m kb::I0=I) (nr) (⟨0,by omega,rfl,rfl,rfl,rfl⟩) ?_
  rintro kk G M I ⟨j,hj,rfl,rfl,rfl,rfl⟩
  by_cases hjn:j < nr
  ·obtain ⟨e,hee⟩:∃e,gt r.es (j:Int)=e:=⟨_,rfl⟩
   refine bD (φ:=cK e kb) (by rw [←hee];exact Hv.lel (r:=r) (k:=kb) aA (by omega)) ?_
   have hV:=fun M0 I0 h=>wX (X:=X) (w0:=w0) (M0:=M0) (I0:=I0) (e:=e) (k:=kb) (by omega) h
   repeat refine aB ?_
   rw [hee]
   refine bG (fun b4=>?_)
   repeat refine aB ?_
   refine dP rfl (hV _ _ (Hv.mem aA)) ?_
   repeat refine aB ?_
   refine iC (nr - (j+1)) (⟨j+1,by omega,rfl,rfl,rfl,rfl⟩)
  obtain rfl:nr=j:=by omega
  repeat refine aB ?_
  refine iC (n - (i+1)) (⟨i+1,by omega,rfl,rfl,rfl,rfl⟩)
 obtain rfl:n=i:=by omega
 repeat refine aB ?_
 refine gD rfl rfl (⟨rfl,rfl,rfl⟩)
theorem Hv.allL1 {I:List aV} {a:RL} {k:Nat} (ha:Hv I (lK a k)):Hv I (vP [a] k):=⟨fun X w hw=>⟨fun x hx=>by rw [List.mem_singleton.1 hx];exact ha.go X w hw⟩⟩
theorem Hv.allL2 {I:List aV} {a b:RL} {k:Nat} (ha:Hv I (lK a k)) (hb:Hv I (lK b k)):Hv I (vP [a,b] k):=⟨fun X w hw=>⟨fun x hx=>by
 simp only [List.mem_cons,List.not_mem_nil,or_false] at hx
 rcases hx with rfl|rfl
 ·exact ha.go X w hw
 ·exact hb.go X w hw⟩⟩
theorem Hv.allR1 {I:List aV} {a:RE} {k:Nat} (ha:Hv I (cK a k)):Hv I (bW [a] k):=⟨fun X w hw=>⟨fun x hx=>by rw [List.mem_singleton.1 hx];exact ha.go X w hw⟩⟩
def SE.l (x:SE) (b:Nat):RL:=⟨some ⟨b,8,none⟩,3,[x.t.x,x.t.y,x.t.z]⟩
theorem Hv.sel {I:List aV} {x:SE} {b ks kt:Nat} (h:Hv I (gM x ks kt)) (hs:aI (some ⟨b,0,none⟩) (pX x)∈I):Hv I (lK (x.l b) kt):=⟨fun X w hw=>⟨by
 have:=((hw _ hs:SlI _ _ X w).go).drop 8
 exact this,fun e he=>by
 have h1:=(h.go X w hw).t
 have he:e∈[x.t.x,x.t.y,x.t.z]:=he
 simp only [List.mem_cons,List.not_mem_nil,or_false] at he
 rcases he with rfl|rfl|rfl
 ·exact h1.x
 ·exact h1.y
 ·exact h1.z,⟨Nat.le_refl 3, .inl (Ok.mk _ _)⟩⟩⟩
theorem aFW {x:SE} {ks kt kk:Nat} (h1:ks≤kk) (h2:kt≤kk) (hk:kk≤400000000000) (hz:x.q.nz) (hf:x.q.fit) (hs:0 < x.s.q) (hx:Hv I0 (gM x ks kt)):
  CD Tryz.prog 31 [sev x] X w0 M0 I0 (fun v M I=>M0=M∧I0=I∧v= .int .i64 0):=by
 refine bO (φ:=gM x ks kt) hx ?_
 refine aZ Tryz.func31 rfl Tryz.ntmps31 rfl ?_
 refine fE ?_
 refine fG rfl (fun b1=>?_)
 refine aC (cs:=pX x) .here ?_
 refine fH (φ:=lK (x.l b1) kt) (Hv.sel (Hv.mem (φ:=gM x ks kt) aA) aA) ?_
 repeat refine aB ?_
 (repeat refine aJ ?_);refine vT (M0) (lK (x.l b1) kt::aI (some ⟨b1,0,none⟩) (pX x)::gM x ks kt::I0) [0,1,3,4,2,5,6,7,8,9,10,11,12,13,14] [3,2,3,2,0,0,0,0,0,0,0,0,0,0,0] mixed ?_
 repeat refine aB ?_
 (refine aD rfl (fun _=>eF rfl) rfl rfl ?_)
 refine lL (cs:=recs eR [x.s]) ([rv x.s]) rfl (fun b6=>?_)
 refine fH (φ:=bW [x.s] kk) (Hv.allR1 ((Hv.ses (Hv.mem (φ:=gM x ks kt) aA)).upR h1)) ?_
 refine jC (mm:=1) 4 .here rfl (by omega) ?_
 refine aGQ (es:=[x.s]) (k:=kk) aA ?_
 refine fH (φ:=lK (x.l b1) kk) (Hv.lm (k:=kt) aA h2) ?_
 refine lL (cs:=recs eL [⟨some ⟨b6,0,none⟩,1,[x.s]⟩,x.l b1]) ([lv ⟨some ⟨b6,0,none⟩,1,[x.s]⟩,lv (x.l b1)]) rfl (fun b9=>?_)
 refine fH (φ:=vP [⟨some ⟨b6,0,none⟩,1,[x.s]⟩,x.l b1] kk) (Hv.allL2 (Hv.mem aA) (Hv.mem aA)) ?_
 refine jC (mm:=2) 1 .here rfl (by omega) ?_
 refine aMH (rows:=[⟨some ⟨b6,0,none⟩,1,[x.s]⟩,x.l b1]) (k:=kk) aA ?_
 (refine aS rfl (aBD (m:=⟨some ⟨b9,0,none⟩,2,[⟨some ⟨b6,0,none⟩,1,[x.s]⟩,x.l b1]⟩) (kb:=kk) (n:=2) (by omega) rfl (by decide) (fun r hr=>by
  have hr:r∈[⟨some ⟨b6,0,none⟩,1,[x.s]⟩,x.l b1]:=hr
  simp only [List.mem_cons,List.not_mem_nil,or_false] at hr
  rcases hr with rfl|rfl
  ·show 1≤100;omega
  ·show 3≤100;omega) (Hv.mem aA)) rfl rfl ?_;rintro _ _ _ ⟨rfl,rfl,rfl⟩;refine aL ?_)
 repeat refine aB ?_
 (refine aD rfl (fun _=>aK (pvs:=([]).zipIdx.map (fun p=>(p.2,p.1))) (cells:=zQ) rfl rfl) rfl rfl ?_)
 refine aD rfl (fun _=>aGB (enc:=eQ) (ints:=iQ) (a:=x.q) (b:=Qn.zero) (fun _=>rfl) aTT (fun _=>rfl) inferInstance rfl rfl) rfl rfl ?_
 rw [bF hz]
 repeat refine aB ?_
 refine lL (cs:=recs (eI .i64) [x.q.a,x.q.b,x.q.c,x.q.d]) ([.int .i64 x.q.a, .int .i64 x.q.b, .int .i64 x.q.c, .int .i64 x.q.d]) rfl (fun b31=>?_)
 refine aC .here ?_
 (refine aS rfl (aWV (n:=4) (l:=[x.q.a,x.q.b,x.q.c,x.q.d]) rfl (by decide) (fun z hz=>by
  obtain ⟨⟨f1,f2⟩,f3,f4⟩:=hf
  simp only [List.mem_cons,List.not_mem_nil,or_false] at hz
  rcases hz with rfl|rfl|rfl|rfl <;>assumption) aA) rfl rfl ?_;rintro _ _ _ ⟨rfl,rfl,rfl⟩;refine aL ?_)
 repeat refine aB ?_
 refine dP rfl (kV (e:=x.s) (k:=ks) (by omega) (Hv.ses (Hv.mem (φ:=gM x ks kt) aA))) ?_
 rw [show x.s.q.num.sign=1 by rw [aJI,if_neg (fun h=>Rat.not_lt.2 (Rat.le_of_lt hs) h),if_neg (fun h=>by rw [h] at hs;exact absurd hs (by decide))]]
 repeat refine aB ?_
 refine gD rfl rfl (⟨rfl,rfl,rfl⟩)
end
end Go.Proofs.YtgpkjcmipiodcaaGreat
namespace Go.Proofs.YtgpkjcmipiodcaaGreat
open Go Go.Fx
theorem AtsZ.se2j {x:SE} {j:Int} (h:0≤j∧j < 3):AtsZ (pX x) (0+8+j.toNat*4) (eR (gt [x.t.x,x.t.y,x.t.z] j)) 4:=by
 have h1:AtsZ (eT x.t) (j.toNat*4) (eR (gt [x.t.x,x.t.y,x.t.z] j)) 4:=AtsZ.r (enc:=eR) (ms:=[x.t.x,x.t.y,x.t.z]) h
 refine ⟨⟨fun t v ht=>?_⟩,h1.len⟩
 have h2:=h1.ats.1 t v ht
 rw [show 0+8+j.toNat*4+t=8+(j.toNat*4+t) by omega]
 show ((eR x.s++eQ x.q)++eT x.t)[8+(j.toNat*4+t)]?=_
 rw [List.getElem?_append_right (by show 8≤_;omega)]
 rw [show 8+(j.toNat*4+t) - (eR x.s++eQ x.q).length=j.toNat*4+t by show 8+(j.toNat*4+t) - 8=_;omega]
 exact h2
theorem Hv.tg {I:List aV} {p:TE} {k j:Nat} (h:Hv I (gN p k)) (hj:j < 3):Hv I (cK (gt [p.x,p.y,p.z] (j:Int)) k):=by
 rcases j with _|_|_|j
 ·exact h.tx
 ·exact h.ty
 ·exact h.tz
 ·omega
theorem len3 {α:Type} {l:List α} (h:l.length=3):∃a b c,l=[a,b,c]:=by
 match l,h with
 |[a,b,c],_=>exact ⟨a,b,c,rfl⟩
theorem StAts.v0 {es:List RE} {e:RE} {i:Nat} (hi:i < es.length):StAts (recs eR es) (0+(i:Int).toNat*4) (eR e) (recs eR (st es (i:Int) e)):=by
 rw [Nat.zero_add]
 exact StAts.r e ⟨by omega,by omega⟩ rfl
abbrev zSE:List Value:=[.bool false, .slice none 0 0, .bool false, .slice none 0 0, .int .i64 0, .int .i64 0, .int .i64 0, .int .i64 0, .bool false, .slice none 0 0, .bool false, .slice none 0 0, .bool false, .slice none 0 0, .bool false, .slice none 0 0, .bool false, .slice none 0 0, .bool false, .slice none 0 0]
section
variable {X:List Nat} {w0:World} {M0 M1:List Ent} {I0:List aV}
theorem aAI {x:SE} {p:TE} {ks kt kp K:Nat} (hz:x.q.nz) (hf:x.q.fit) (hkp:kp≤100000000) (hks:ks≤100000000) (hkt:kt≤100000000) (hK:ks+3*(63+kp+1)+kt+1=K) (hx:Hv I0 (gM x ks kt)) (hp:Hv I0 (gN p kp)):
  CD Tryz.prog 33 [sev x,tv p] X w0 M0 I0 (TQ (x.v.mv p.v) K M0 I0):=by
 refine bO (φ:=gM x ks kt) hx (bO (φ:=gN p kp) hp.cons ?_)
 refine aP Tryz.func33 rfl Tryz.ntmps33 rfl ?_
 refine fE ?_
 refine fG rfl (fun b2=>?_)
 refine aC (cs:=pX x) .here ?_
 refine fG rfl (fun b3=>?_)
 refine bG (fun b4=>?_)
 repeat refine aB ?_
 refine tyJ rfl (aPC (p:=p) (kp:=kp) hz hf (by omega) (Hv.mem aA)) (fun r hr=>?_)
 obtain ⟨kr,hkr⟩:∃kr,3*(63+kp+1)=kr:=⟨_,rfl⟩
 rw [hkr]
 repeat refine aB ?_
 refine bD (φ:=bW [r.x,r.y,r.z] K) (Hv.r3v ((Hv.tx (Hv.mem (φ:=gN r kr) aA)).upR (by omega)) ((Hv.ty (Hv.mem (φ:=gN r kr) aA)).upR (by omega)) ((Hv.tz (Hv.mem (φ:=gN r kr) aA)).upR (by omega))) ?_
 refine kS [2,3,4] rfl (fun k G M I=>∃(i:Nat) (ms:List RE),i≤3∧k=3 - i∧(ms.length=3∧(∀j:Nat,j < 3→i≤j→gt ms (j:Int)=gt [r.x,r.y,r.z] (j:Int))∧∀j:Nat,j < i→(gt ms (j:Int)).q=x.s.q*(gt [r.x,r.y,r.z] (j:Int)).q+(gt [x.t.x,x.t.y,x.t.z] (j:Int)).q)∧G=[(13, .int .i64 (i:Int))]∧M= .blk b3 (recs eR ms) 45:: .blk b4 (recs eW [default,default,default]) 45::M0∧bW ms K::gN r kr::aI (some ⟨b2,0,none⟩) (pX x)::gN p kp::gM x ks kt::I0=I) (3) (⟨0,[r.x,r.y,r.z],by omega,rfl,⟨rfl,fun _ _ _=>rfl,fun _ h=>absurd h (by omega)⟩,rfl,rfl,rfl⟩) ?_
 rintro kk G M I ⟨i,ms,hi,rfl,⟨hml,hm1,hm2⟩,rfl,rfl,rfl⟩
 by_cases hi3:i < 3
 ·have hmi:=hm1 i hi3 (Nat.le_refl _)
  refine bD (φ:=cK (gt [r.x,r.y,r.z] (i:Int)) kr) (Hv.tg (Hv.mem (φ:=gN r kr) aA) hi3) ?_
  refine bD (φ:=cK (gt [x.t.x,x.t.y,x.t.z] (i:Int)) kt) (Hv.tg (Hv.set (Hv.mem (φ:=gM x ks kt) aA)) hi3) ?_
  refine bD (φ:=cK x.s ks) (Hv.ses (Hv.mem (φ:=gM x ks kt) aA)) ?_
  repeat refine aB ?_
  (repeat refine aJ ?_);refine aO 2 [0,1,2,3,4,5,7,8,9,10,6,11,12,13] [2,2,1,2,2,1,2,2,2,1,0,0,0,0] mixed (by kernel_rfl) ?_
  repeat refine aB ?_
  (apply mE;exact gQ;exact rfl;exact aA;exact AtsZ.v0 jH;exact rfl;exact rfl)
  rw [hmi]
  repeat refine aB ?_
  (apply bL;exact gQ;exact rfl;exact aA;exact AtsZ.se2j jH;exact rfl;exact rfl)
  repeat refine aB ?_
  refine iG rfl (iV (k:=ks) (m:=kr) (by omega) (Hv.mem aA) (Hv.mem aA)) (fun e2 he2=>?_)
  refine iG rfl (uL (k:=ks+kr) (m:=kt) (by omega) (Hv.mem aA) (Hv.mem aA)) (fun e3 he3=>?_)
  rw [show ks+kr+kt+1=K by omega]
  repeat refine aB ?_
  (refine fM (vs:=eR e3) (cs:=recs eR ms) (cs':=recs eR (st ms (i:Int) e3)) rfl rfl rfl nU iN (StAts.v0 (by omega)) rfl rfl ⟨okF,?_⟩)
  repeat refine aB ?_
  refine fF (φ:=bW (st ms (i:Int) e3) K) (Hv.stR aA aA) ?_
  refine iC (3 - (i+1)) (⟨i+1,st ms (i:Int) e3,by omega,rfl,⟨by rw [dB];exact hml,fun j hj hij=>?_,fun j hj=>?_⟩,rfl,rfl,rfl⟩)
  ·rw [wJ (by omega) (by omega),if_neg (by omega)]
   exact hm1 j hj (by omega)
  ·rw [wJ (by omega) (by omega)]
   by_cases e:j=i
   ·subst e;rw [if_pos rfl,he3,he2]
   ·rw [if_neg e];exact hm2 j (by omega)
 obtain rfl:i=3:=by omega
 obtain ⟨a,b,c,rfl⟩:=len3 hml
 repeat refine aB ?_
 refine fF (φ:=gN ⟨a,b,c⟩ K) (Hv.t3 (p:=⟨a,b,c⟩) aA) ?_
 have e0:a.q=x.s.q*r.x.q+x.t.x.q:=hm2 0 (by omega)
 have e1:b.q=x.s.q*r.y.q+x.t.y.q:=hm2 1 (by omega)
 have e2:c.q=x.s.q*r.z.q+x.t.z.q:=hm2 2 (by omega)
 refine bA (cs:=recs eR [a,b,c]) (.inl rfl) rfl rfl aA rfl M0 (gN ⟨a,b,c⟩ K::I0) aG aF ⟨rfl,⟨a,b,c⟩,rfl,?_,rfl⟩
 unfold Sim.mv
 show (⟨a.q,b.q,c.q⟩:V3)=((x.q.rot p.v).scl x.s.q).add x.t.v
 rw [←hr,e0,e1,e2]
 rfl
theorem mJ {x:SE} {p:TE} {ks kt kp K:Nat} (hz:x.q.nz) (hf:x.q.fit) (hs:0 < x.s.q) (hkp:kp≤100000000) (hks:ks≤100000000) (hkt:kt≤100000000) (hK:ks+3*(63+kp+1)+kt+1=K) (hx:Hv I0 (gM x ks kt)) (hp:Hv I0 (gN p kp)):
  CD Tryz.prog 10 [sev x,tv p] X w0 M0 I0 (fun v M I=>M0=M∧∃r:TE,v= .tuple #[tv r, .int .i64 0]∧r.v=x.v.mv p.v∧I=gN r K::I0):=by
 refine bO (φ:=gM x ks kt) hx (bO (φ:=gN p kp) hp.cons ?_)
 refine aP Tryz.func10 rfl Tryz.ntmps10 rfl ?_
 refine fE ?_
 refine fG rfl (fun b2=>?_)
 refine aC (cs:=pX x) .here ?_
 refine fG rfl (fun b3=>?_)
 refine aC (cs:=eT p) .here ?_
 refine bG (fun b4=>?_)
 repeat refine aB ?_
 refine dP rfl (aFW (x:=x) (ks:=ks) (kt:=kt) (kk:=ks+kt) (by omega) (by omega) (by omega) hz hf hs (Hv.mem aA)) ?_
 repeat refine aB ?_
 refine fH (φ:=lK (p.l b3) kp) (Hv.tl (Hv.mem (φ:=gN p kp) aA) aA) ?_
 (refine aD rfl (fun _=>eF rfl) rfl rfl ?_)
 refine lL (cs:=recs eL [p.l b3]) ([lv (p.l b3)]) rfl (fun b14=>?_)
 refine fH (φ:=vP [p.l b3] kp) (Hv.allL1 (Hv.mem aA)) ?_
 refine jC (mm:=1) 1 .here rfl (by omega) ?_
 refine aMH (rows:=[p.l b3]) (k:=kp) aA ?_
 (refine aS rfl (aBD (m:=⟨some ⟨b14,0,none⟩,1,[p.l b3]⟩) (kb:=kp) (n:=1) (by omega) rfl (by decide) (fun r hr=>by
  have hr:r∈[p.l b3]:=hr
  rw [List.mem_singleton.1 hr]
  show 3≤100;omega) (Hv.mem aA)) rfl rfl ?_;rintro _ _ _ ⟨rfl,rfl,rfl⟩;refine aL ?_)
 repeat refine aB ?_
 (refine aU rfl (aAI (x:=x) (p:=p) (ks:=ks) (kt:=kt) (kp:=kp) (K:=K) hz hf hkp hks hkt hK (Hv.mem aA) (Hv.mem aA)) ?_;rintro _ _ _ ⟨rfl,r,rfl,hr,rfl⟩;refine aL ?_)
 repeat refine aB ?_
 refine dI (rs:=[.cell 4 45, .tmp 5]) (vs:=[tv r, .int .i64 0]) (.inl rfl) rfl (.cellN (cs:=eT r) inferInstance rfl aA rfl (.tmp rfl .nil)) rfl M0 (gN r K::I0) aG aF ⟨rfl,r,rfl,hr,rfl⟩
theorem aKH:CD Tryz.prog 52 [] X w0 M0 I0 (TQ ⟨0,0,0⟩ 64 M0 I0):=by
 have hW:=fun M0 I0=>jA (X:=X) (w0:=w0) (M0:=M0) (I0:=I0) (x:=0) (by decide) (k:=64) (by decide)
 refine aMT Tryz.func52 rfl Tryz.ntmps52 rfl ?_
 refine fE ?_
 refine bG (fun b0=>?_)
 repeat refine aB ?_
 refine iG rfl (hW _ _) (fun e1 he1=>?_)
 refine iG rfl (hW _ _) (fun e2 he2=>?_)
 refine iG rfl (hW _ _) (fun e3 he3=>?_)
 (refine aD rfl (fun _=>bH (vals:=[rv e1,rv e2,rv e3]) (cells:=recs eR [e1,e2,e3]) rfl ?hpl rfl ?hz) rfl rfl ?_;(case hpl=>exact (by intro v hv;repeat (first|exact absurd hv (List.not_mem_nil)|(rcases List.mem_cons.1 hv with rfl|hv; · rfl))));(case hz=>rfl))
 repeat refine aB ?_
 refine fF (φ:=gN ⟨e1,e2,e3⟩ 64) (Hv.mkT (Hv.mem aA) (Hv.mem aA) (Hv.mem aA)) ?_
 refine bA (cs:=recs eR [e1,e2,e3]) (.inl rfl) rfl rfl aA rfl M0 (gN ⟨e1,e2,e3⟩ 64::I0) aG aF ⟨rfl,⟨e1,e2,e3⟩,rfl,by unfold TE.v;simp only [he1,he2,he3];rfl,rfl⟩
theorem aJD {s t:SE} {kb K:Nat} (hsz:s.q.nz) (hsf:s.q.fit) (hss:0 < s.s.q) (htz:t.q.nz) (htf:t.q.fit) (hts:0 < t.s.q) (hk:kb≤100000000) (hK:kb+3*(63+kb+1)+kb+1=K) (hs:Hv I0 (gM s kb kb)) (ht:Hv I0 (gM t kb kb)):
  CD Tryz.prog 17 [sev s,sev t] X w0 M0 I0 (fun v M I=>M0=M∧((prE (Qn.mul s.q t.q)=3∧v= .tuple #[.agg zSE.toArray, .int .i64 3]∧I0=I)∨(prE (Qn.mul s.q t.q)=0∧∃x:SE,v= .tuple #[sev x, .int .i64 0]∧x.v=⟨s.s.q*t.s.q,Qn.prm (Qn.mul s.q t.q),s.v.mv t.t.v⟩∧x.q.fit∧I=gM x (kb+kb) K::I0))):=by
 refine bO (φ:=gM s kb kb) hs (bO (φ:=gM t kb kb) ht.cons ?_)
 refine aP Tryz.func17 rfl Tryz.ntmps17 rfl ?_
 refine fE ?_
 refine fG rfl (fun b2=>?_)
 refine aC (cs:=pX s) .here ?_
 refine fG rfl (fun b3=>?_)
 refine aC (cs:=pX t) .here ?_
 refine bG (fun b4=>?_)
 repeat refine aB ?_
 refine lL (cs:=recs pX [s,t]) ([sev s,sev t]) rfl (fun b13=>?_)
 refine aC (cs:=recs pX [s,t]) .here ?_
 repeat refine aB ?_
 refine kS [2,3,4,13,14] rfl (fun k G M I=>∃i:Nat,i≤2∧k=2 - i∧G=[(15, .int .i64 (i:Int))]∧M= .blk b4 (zSE:List Value) 48::M0∧aI (some ⟨b13,0,none⟩) (recs pX [s,t])::aI (some ⟨b3,0,none⟩) (pX t)::aI (some ⟨b2,0,none⟩) (pX s)::gM t kb kb::gM s kb kb::I0=I) (2) (⟨0,by omega,rfl,rfl,rfl,rfl⟩) ?_
 rintro kk G M I ⟨i,hi,rfl,rfl,rfl,rfl⟩
 by_cases hi2:i < 2
 ·obtain ⟨x,hx⟩:∃x,gt [s,t] (i:Int)=x:=⟨_,rfl⟩
  have hxc:x=s∨x=t:=by
   rcases i with _|_|i
   ·exact .inl hx.symm
   ·exact .inr hx.symm
   ·omega
  have h1:x.q.nz:=by rcases hxc with h|h <;>rw [h] <;>assumption
  have h2:x.q.fit:=by rcases hxc with h|h <;>rw [h] <;>assumption
  have h3:0 < x.s.q:=by rcases hxc with h|h <;>rw [h] <;>assumption
  refine bD (φ:=gM x kb kb) (by rcases hxc with h|h <;>rw [h] <;>exact Hv.mem aA) ?_
  have hgl:([s,t]:List SE).length=2:=rfl
  repeat refine aB ?_
  rw [hx]
  refine bG (fun b7=>?_)
  repeat refine aB ?_
  refine dP rfl (aFW (x:=x) (ks:=kb) (kt:=kb) (kk:=kb) (by omega) (by omega) (by omega) h1 h2 h3 (Hv.mem aA)) ?_
  repeat refine aB ?_
  refine iC (2 - (i+1)) (⟨i+1,by omega,rfl,rfl,rfl,rfl⟩)
 obtain rfl:i=2:=by omega
 repeat refine aB ?_
 refine dP rfl (aNU (p:=s.q) (q:=t.q) hsz hsf htz htf) ?_
 rcases aMB (Qn.mul s.q t.q) with hz|hz
 ·obtain ⟨hfit,hw⟩:=aUK hz
  rw [hz,hw]
  repeat refine aB ?_
  refine bG (fun b9=>?_)
  repeat refine aB ?_
  (repeat refine aJ ?_);refine aO 2 [0,1,2,3,5,6,7,8,4,9,10,11,12] [2,1,2,1,2,1,2,1,0,0,0,0,0] mixed (by kernel_rfl) ?_
  repeat refine aB ?_
  (apply bL;exact gQ;exact rfl;exact aA;exact AtsZ.se2;exact rfl;exact rfl)
  repeat refine aB ?_
  refine iG rfl (iV (k:=kb) (m:=kb) (by omega) (Hv.ses (Hv.mem (φ:=gM s kb kb) aA)) (Hv.ses (Hv.mem (φ:=gM t kb kb) aA))) (fun e2 he2=>?_)
  (refine aU rfl (aAI (x:=s) (p:=t.t) (ks:=kb) (kt:=kb) (kp:=kb) (K:=K) hsz hsf hk hk hk hK (Hv.mem aA) (Hv.set (Hv.mem (φ:=gM t kb kb) aA))) ?_;rintro _ _ _ ⟨rfl,r,rfl,hr,rfl⟩;refine aL ?_)
  obtain ⟨qq,hqq⟩:∃qq,Qn.prm (Qn.mul s.q t.q)=qq:=⟨_,rfl⟩
  rw [hqq] at hfit ⊢
  (refine aD rfl (fun _=>dK (vals:=[rv e2,qv qq,tv r]) (cells:=pX ⟨e2,qq,r⟩) rfl ?hpl rfl ?hz) rfl rfl ?_;(case hpl=>repeat (first|exact True.intro|refine ⟨rfl,?_⟩));(case hz=>rfl))
  repeat refine aB ?_
  refine fF (φ:=gM ⟨e2,qq,r⟩ (kb+kb) K) (Hv.mkSE (Hv.mem aA) (Hv.mem aA)) ?_
  refine dI (rs:=[.cell 4 48, .tmp 5]) (vs:=[sev ⟨e2,qq,r⟩, .int .i64 0]) (.inl rfl) rfl (.cellN (cs:=pX ⟨e2,qq,r⟩) inferInstance rfl aA rfl (.tmp rfl .nil)) rfl M0 (gM ⟨e2,qq,r⟩ (kb+kb) K::I0) aG aF ⟨rfl, .inr ⟨rfl,⟨e2,qq,r⟩,rfl,by unfold SE.v;simp only [he2,hr];rfl,hfit,rfl⟩⟩
 ·rw [hz]
  repeat refine aB ?_
  refine bG (fun b9=>?_)
  repeat refine aB ?_
  (refine aD rfl (fun _=>aK (pvs:=([]).zipIdx.map (fun p=>(p.2,p.1))) (cells:=zSE) rfl rfl) rfl rfl ?_)
  repeat refine aB ?_
  refine dI (rs:=[.cell 4 48, .tmp 5]) (vs:=[.agg zSE.toArray, .int .i64 3]) (.inl rfl) rfl (.cellN (cs:=zSE) inferInstance rfl aA rfl (.tmp rfl .nil)) rfl M0 I0 aG aF ⟨rfl, .inl ⟨rfl,rfl,rfl⟩⟩
end
end Go.Proofs.YtgpkjcmipiodcaaGreat

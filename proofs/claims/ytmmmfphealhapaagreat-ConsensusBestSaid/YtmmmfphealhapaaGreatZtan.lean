/- The document's minor and determinant. -/
import Derived.Test.YtmmmfphealhapaaGreatZtal
import Derived.Test.YtmmmfphealhapaaGreatZtaj
import Derived.Test.YtmmmfphealhapaaGreatZtam
import Derived.Test.YtmmmfphealhapaaGreatZtad
import Derived.Test.YtmmmfphealhapaaGreatZtak
import Derived.Test.YtmmmfphealhapaaGreatZtah
set_option linter.unusedSimpArgs false
set_option linter.unusedVariables false
set_option maxRecDepth 100000
set_option maxHeartbeats 4000000
namespace Go.Proofs.YtmmmfphealhapaaGreat
open Go Go.Fx
def hD (k:Nat):Nat→Nat
 |0=>k
 |n+1=>(n+2)*(k+hD k n+1)
section
variable {X:List Nat} {w0:World} {M0:List Ent} {I0:List aL}
theorem tF {x:Int} (hx:x.natAbs≤1):CD Tryz.prog 150 [.int .i64 x] X w0 M0 I0 (RQ (x:Rat) 0 M0 I0):=by
 have hW:=fun M0 I0=>vO (X:=X) (w0:=w0) (M0:=M0) (I0:=I0) (x:=x) (by omega) (k:=0) hx
 refine aR Tryz.func150 rfl Tryz.ntmps150 rfl ?_
 refine gG ?_
 refine cK (fun b=>?_)
 repeat refine aB ?_
 refine fK rfl (hW _ _) (fun e he=>?_)
 repeat refine aB ?_
 refine aO (cs:=eR e) (.inl rfl) rfl rfl aA rfl M0 (bL e 0::I0) aF aC ⟨rfl,e,rfl,he,rfl⟩
theorem aXM {m:MX} {n j k0:Nat} (hn:n≤100) (hd:m.dim (n+1) (n+1)) (hj:j≤n) (hw:gI m k0∈I0):
  CD Tryz.prog 152 [mv m, .int .i64 0, .int .i64 (j:Int)] X w0 M0 I0 (XQ (xE n n (fun i c=>at2 m.q (i+1) (sk j c))) n n k0 M0 I0):=by
 have hl:=hd.1
 refine aV (φ:=aI (m).p (recs eL (m).rows)) (Hv.xsl aA) ?_
 refine iC Tryz.func152 rfl Tryz.ntmps152 rfl ?_
 repeat refine aB ?_
 (refine gK (cs:=recs eL []) ([]) rfl (fun bo=>?_);refine fM (mm:=0) 1 .here rfl (by omega) ?_)
 repeat refine aB ?_
 refine bG (φ:=dX [] k0) Hv.nilL ?_
 refine bX [0,1,2] rfl (fun k G M I=>∃(i:Nat) (rs:List RL) (q:Option Addr) (c:Nat),i≤n+1∧k=n+1 - i∧rs.length=i - 1∧(∀r∈rs,r.es.length=n)∧rs.map RL.q=(List.range (i - 1)).map (fun t=>(List.range n).map (fun c=>at2 m.q (t+1) (sk j c)))∧G=[(7, .slice q rs.length c),(8, .int .i64 i)]∧M= .row q rs.length c (recs eL rs) 70 1::M0∧I=dX rs k0::aI m.p (recs eL m.rows)::I0) (n+1) _ _ _ dB aF aC (⟨0,[],_,_,by omega,rfl,rfl,by simp,rfl,rfl,rfl,rfl⟩) ?_
 rintro kk G M I ⟨i,rs,q,c,hi,rfl,hrl,hrc,hrq,rfl,rfl,rfl⟩
 by_cases hin:i < n+1
 ·by_cases hi0:i=0
  ·subst hi0
   repeat refine aB ?_
   refine gL (n+1 - (0+1)) (⟨0+1,rs,q,c,by omega,rfl,hrl,hrc,hrq,rfl,rfl,rfl⟩)
  ·have hrow:=hd.row hin
   refine bG (φ:=aI (gt (m).rows (i:Int)).p (recs eR (gt (m).rows (i:Int)).es)) (Hv.xrsl aA (by omega)) ?_
   repeat refine aB ?_
   (refine gK (cs:=recs eR []) ([]) rfl (fun bl=>?_);refine fM (mm:=0) 4 .here rfl (by omega) ?_)
   repeat refine aB ?_
   refine bG (φ:=aP [] k0) Hv.nilR ?_
   refine bX [0,1,2,7,8] rfl (fun k G M I=>∃(u:Nat) (es:List RE) (ql:Option Addr) (cl:Nat),u≤n+1∧k=n+1 - u∧es.length=(if u≤j then u else u - 1)∧qs es=(List.range (if u≤j then u else u - 1)).map (fun c=>at2 m.q i (sk j c))∧G=[(9, .slice ql es.length cl),(10, .int .i64 u)]∧M= .row ql es.length cl (recs eR es) 77 4:: .row q rs.length c (recs eL rs) 70 1::M0∧I=aP es k0::aI (gt m.rows (i:Int)).p (recs eR (gt m.rows (i:Int)).es)::dX rs k0::aI m.p (recs eL m.rows)::I0) (n+1) _ _ _ dB aF aC (⟨0,[],_,_,by omega,rfl,by simp,by simp,rfl,rfl,rfl⟩) ?_
   rintro kk G M I ⟨u,es,ql,cl,hu,rfl,hel,heq,rfl,rfl,rfl⟩
   have hel2:es.length≤n+1:=by rw [hel];split <;>omega
   by_cases hun:u < n+1
   ·by_cases huj:u=j
    ·repeat refine aB ?_
     refine gL (n+1 - (u+1)) (⟨u+1,es,ql,cl,by omega,rfl,?_,?_,rfl,rfl,rfl⟩)
     ·rw [hel,if_pos (by omega),if_neg (by omega)];omega
     ·rw [heq,if_pos (by omega),if_neg (by omega),Nat.add_sub_cancel]
    ·repeat refine aB ?_
     refine bQ (φ:=bL (gt (gt m.rows (i:Int)).es (u:Int)) k0) (Hv.xel aA (by omega) (by omega)) ?_
     refine gK (cs:=recs eR [gt (gt m.rows (i:Int)).es (u:Int)]) ([rv (gt (gt m.rows (i:Int)).es (u:Int))]) rfl (fun b=>?_)
     refine wM (ys:=[gt (gt m.rows (i:Int)).es (u:Int)]) 1 rfl rfl rfl (fun q2 c2=>?_)
     repeat refine aB ?_
     refine dF (φ:=aP (es++[gt (gt m.rows (i:Int)).es (u:Int)]) k0) (Hv.snoc aA aA) ?_
     refine gL (n+1 - (u+1)) (⟨u+1,es++[gt (gt m.rows (i:Int)).es (u:Int)],q2,c2,by omega,rfl,?_,?_,rfl,rfl,rfl⟩)
     ·rw [List.length_append,hel,List.length_singleton]
      by_cases h1:u≤j
      ·rw [if_pos h1,if_pos (by omega)]
      ·rw [if_neg h1,if_neg (by omega)];omega
     ·have hat:=oQ (m:=m) (i:=i) (j:=u) (by omega) (by omega)
      show (es++[_]).map RE.q=_
      rw [List.map_append]
      show qs es++[(gt (gt m.rows (i:Int)).es (u:Int)).q]=_
      rw [heq,←hat]
      by_cases h1:u≤j
      ·rw [if_pos h1,if_pos (by omega),List.range_succ,List.map_append]
       simp [sk,show u < j by omega]
      ·rw [if_neg h1,if_neg (by omega),show u+1 - 1=(u - 1)+1 by omega,List.range_succ,List.map_append]
       simp [sk,show ¬u - 1 < j by omega,show u - 1+1=u by omega]
   ·obtain rfl:u=n+1:=by omega
    rw [if_neg (by omega)] at hel heq
    repeat refine aB ?_
    refine aJG aA ?_
    refine gK (cs:=recs eL [(⟨ql,cl,es⟩:RL)]) ([lv (⟨ql,cl,es⟩:RL)]) rfl (fun b=>?_)
    refine wM (ys:=[(⟨ql,cl,es⟩:RL)]) 1 rfl rfl rfl (fun q2 c2=>?_)
    repeat refine aB ?_
    refine dF (φ:=dX (rs++[(⟨ql,cl,es⟩:RL)]) k0) (Hv.snocL aA aA) ?_
    refine gL (n+1 - (i+1)) (⟨i+1,rs++[(⟨ql,cl,es⟩:RL)],q2,c2,by omega,rfl,?_,?_,?_,rfl,rfl,rfl⟩)
    ·rw [List.length_append,hrl,List.length_singleton];omega
    ·intro r hr
     rcases List.mem_append.1 hr with h|h
     ·exact hrc r h
     ·rw [List.mem_singleton.1 h];exact hel
    ·rw [aYT,hrq,show i+1 - 1=(i - 1)+1 by omega,List.range_succ,List.map_append]
     show _++[qs es]=_
     rw [heq]
     simp [show i - 1+1=i by omega]
 ·obtain rfl:i=n+1:=by omega
  repeat refine aB ?_
  refine aFF aA ?_
  refine iR rfl rfl (⟨rfl,⟨q,c,rs⟩,rfl,hrq,⟨hrl,hrc⟩,rfl⟩)
theorem aPM:∀(n:Nat) {M0:List Ent} {I0:List aL} {m:MX} {k0:Nat},1≤n→n≤100→hD k0 n≤50000000000→m.dim n n→gI m k0∈I0→CD Tryz.prog 75 [mv m] X w0 M0 I0 (RQ (dt n (at2 m.q)) (hD k0 n) M0 I0)
 |0,_,_,_,_,h,_,_,_,_=>by omega
 |1,M0,I0,m,k0,_,_,hK,hd,hw=>by
  have hl:=hd.1
  have hrow:(gt m.rows 0).es.length=1:=hd.row (i:=0) (by omega)
  have hKK:2*(k0+k0+1)≤50000000000:=hK
  refine aV (φ:=aI (m).p (recs eL (m).rows)) (Hv.xsl aA) ?_
  refine aV (φ:=aI (gt (m).rows 0).p (recs eR (gt (m).rows 0).es)) (Hv.xrsl aA (by omega)) ?_
  refine aR Tryz.func75 rfl Tryz.ntmps75 rfl ?_
  refine gG ?_
  refine cK (fun b2=>?_)
  repeat refine aB ?_
  refine dF (φ:=bL (gt (gt m.rows 0).es 0) k0) (Hv.xel aA (by omega) (by omega)) ?_
  refine dF (φ:=bL (gt (gt m.rows 0).es 0) (hD k0 1)) (Hv.q (k:=k0) (List.Mem.head _) (by show k0≤2*(k0+k0+1);omega)) ?_
  refine aO (cs:=eR (gt (gt m.rows 0).es 0)) (.inl rfl) rfl rfl aA rfl M0 (bL (gt (gt m.rows 0).es 0) (hD k0 1)::I0) aF aC ⟨rfl,_,rfl,?_,rfl⟩
  have hat:at2 m.q 0 0=(gt (gt m.rows 0).es 0).q:=oQ (m:=m) (i:=0) (j:=0) (by omega) (by show 0 < (gt m.rows 0).es.length;omega)
  show (gt (gt m.rows 0).es 0).q=0+sgd 0*at2 m.q 0 0*1
  rw [hat]
  simp only [sgd]
  grind
 |n+2,M0,I0,m,k0,_,hn,hK,hd,hw=>by
  have hl:=hd.1
  have hrow:(gt m.rows 0).es.length=n+2:=hd.row (i:=0) (by omega)
  obtain ⟨hh,hhe⟩:∃hh,hh=hD k0 (n+1):=⟨_,rfl⟩
  have hKe:hD k0 (n+2)=(n+3)*(k0+hh+1):=by rw [hhe];rfl
  rw [hKe] at hK ⊢
  obtain ⟨c,hc⟩:∃c,c=k0+hh+1:=⟨_,rfl⟩
  rw [←hc] at hK ⊢
  have hc1:c≤50000000000:=Nat.le_trans (Nat.le_mul_of_pos_left c (by omega)) hK
  have ih:=fun (m':MX) M0 I0 h1 h2=>aPM (n+1) (M0:=M0) (I0:=I0) (m:=m') (k0:=k0) (by omega) (by omega) (by omega) h1 h2
  rw [←hhe] at ih
  have hW:=fun M0 I0=>tF (X:=X) (w0:=w0) (M0:=M0) (I0:=I0) (x:=0) (by decide)
  have hMi:=fun (t:Nat) M0 I0 ht h2=>aXM (X:=X) (w0:=w0) (M0:=M0) (I0:=I0) (m:=m) (n:=n+1) (j:=t) (k0:=k0) (by omega) hd ht h2
  refine aV (φ:=aI (m).p (recs eL (m).rows)) (Hv.xsl aA) ?_
  refine aV (φ:=aI (gt (m).rows 0).p (recs eR (gt (m).rows 0).es)) (Hv.xrsl aA (by omega)) ?_
  refine aR Tryz.func75 rfl Tryz.ntmps75 rfl ?_
  refine gG ?_
  refine cK (fun b2=>?_)
  repeat refine aB ?_
  refine fK rfl (hW _ _) (fun s0 hs0=>?_)
  repeat refine aB ?_
  refine cK (fun b3=>?_)
  repeat refine aB ?_
  refine lX [0,2,3] rfl (fun k G M I=>∃(t:Nat) (s:RE),t≤n+2∧k=n+2 - t∧s.q=sm t (fun j=>sgd j*at2 m.q 0 j*dt (n+1) (fun i c=>at2 m.q (i+1) (sk j c)))∧G=[(4, .int .i64 t)]∧M= .blk b3 (eR s) 77:: .blk b2 [.bool false, .slice none 0 0, .bool false, .slice none 0 0] 77::M0∧I=bL s (t*c)::aI (gt m.rows 0).p (recs eR (gt m.rows 0).es)::aI m.p (recs eL m.rows)::I0) (n+2) (⟨0,s0,by omega,rfl,hs0,rfl,rfl,by rw [Nat.zero_mul]⟩) ?_
  rintro kk G M I ⟨t,s,ht,rfl,hs,rfl,rfl,rfl⟩
  by_cases htn:t < n+2
  ·have hu2:(t+1)*c=t*c+c:=Nat.succ_mul t c
   have hu3:(t+1)*c≤50000000000:=Nat.le_trans (Nat.mul_le_mul_right c (show t+1≤n+3 by omega)) hK
   have hat:at2 m.q 0 t=(gt (gt m.rows 0).es (t:Int)).q:=oQ (m:=m) (i:=0) (j:=t) (by omega) (by show t < (gt m.rows 0).es.length;omega)
   have hEl:∀I,gI m k0∈I→Hv I (bL (gt (gt m.rows 0).es (t:Int)) k0):=fun I h=>Hv.xel h (by omega) (by omega)
   have hS:=fun M0 I0 h=>pV (X:=X) (w0:=w0) (M0:=M0) (I0:=I0) (e:=gt (gt m.rows 0).es (t:Int)) (k:=k0) (by omega) h
   generalize t*c=u at*
   by_cases hx0:(gt (gt m.rows 0).es (t:Int)).q=0
   ·rw [(nW _).2 hx0] at hS
    repeat refine aB ?_
    refine dH rfl (hS _ _ (hEl _ aA)) ?_
    repeat refine aB ?_
    refine dF (φ:=bL s ((t+1)*c)) (Hv.q (k:=u) aA (by omega)) ?_
    refine gL (n+2 - (t+1)) (⟨t+1,s,by omega,rfl,?_,rfl,rfl,rfl⟩)
    simp only [sm]
    have hx1:at2 m.q 0 t=0:=by rw [hat];exact hx0
    rw [hs,hx1];grind
   ·have hs0:¬(gt (gt m.rows 0).es (t:Int)).q.num.sign=0:=fun h=>hx0 ((nW _).1 h)
    generalize (gt (gt m.rows 0).es (t:Int)).q.num.sign=sg1 at*
    repeat refine aB ?_
    refine dH rfl (hS _ _ (hEl _ aA)) ?_
    repeat refine aB ?_
    refine jQ (fun G M I=>∃(b5:Nat) (e:RE),e.q=at2 m.q 0 t*dt (n+1) (fun i c=>at2 m.q (i+1) (sk t c))∧G=[(0,mv m),(2, .pointer (some ⟨b2,0,none⟩)),(3, .pointer (some ⟨b3,0,none⟩)),(4, .int .i64 (t:Int)),(5, .pointer (some ⟨b5,0,none⟩))]∧M= .blk b5 (eR e) 77:: .blk b3 (eR s) 77:: .blk b2 [.bool false, .slice none 0 0, .bool false, .slice none 0 0] 77::M0∧I=bL e (k0+hh)::bL s u::aI (gt m.rows 0).p (recs eR (gt m.rows 0).es)::aI m.p (recs eL m.rows)::I0) ?_ ?_
    ·have hfin:∀(y:MX) (e3:RE),y.q=xE (n+1) (n+1) (fun i c=>at2 m.q (i+1) (sk t c))→e3.q=(gt (gt m.rows 0).es (t:Int)).q*dt (n+1) (at2 y.q)→e3.q=at2 m.q 0 t*dt (n+1) (fun i c=>at2 m.q (i+1) (sk t c)):=fun y e3 h1 h2=>by
      rw [h2,hat]
      congr 1
      exact jS (fun i j hi hj=>by rw [h1,qY hi hj])
     ((repeat refine aG ?_);refine lU (.blk b3 (eR s) 77:: .blk b2 [.bool false, .slice none 0 0, .bool false, .slice none 0 0] 77::M0) (bL s u::aI (gt m.rows 0).p (recs eR (gt m.rows 0).es)::aI m.p (recs eL m.rows)::I0) mixed ?_)
     refine cB (fuel:=5) (listed':=#[true,true,true,true,true,true,true,true,false,false,false,false,false]) [0,1,2,3,4,5,6,7] [4,4,4,4,4,3,3,3] aF aC (by kernel_rfl) (by kernel_rfl) rfl rfl ?_
     repeat refine aB ?_
     refine aS (fuel:=4) (i:=8) (j:=11) (by kernel_rfl) ?_ ?_
     ·(refine bD rfl (hMi t _ _ (by omega) aA) ?_;rintro _ _ _ ⟨rfl,y,rfl,hy,hyd,rfl⟩;refine aN ?_)
      refine bE ?_
      repeat refine aB ?_
      refine aS (fuel:=3) (i:=9) (j:=11) (by kernel_rfl) ?_ ?_
      ·(refine bD rfl (ih y _ _ hyd aA) ?_;rintro _ _ _ ⟨rfl,e2,rfl,he2,rfl⟩;refine aN ?_)
       refine bE ?_
       repeat refine aB ?_
       refine aS (fuel:=2) (i:=10) (j:=11) (by kernel_rfl) ?_ ?_
       ·refine fK rfl (sN (k:=k0) (m:=hh) (by omega) (hEl _ aA) (Hv.mem aA)) (fun e3 he3=>?_)
        refine bE ?_
        refine aY [11,12] [0,0] aF aC (by kernel_rfl) (by kernel_rfl) rfl rfl ?_
        repeat refine aB ?_
        refine cK (fun b5=>?_)
        repeat refine aB ?_
        refine tV ⟨b5,e3,hfin y e3 hy (by rw [he3,he2]),rfl,rfl,rfl⟩
       ·refine cK (fun b5=>?_)
        refine bE ?_
        refine aY [10,12] [0,0] aF aC (by kernel_rfl) (by kernel_rfl) rfl rfl ?_
        repeat refine aB ?_
        refine fK rfl (sN (k:=k0) (m:=hh) (by omega) (hEl _ aA) (Hv.mem aA)) (fun e3 he3=>?_)
        repeat refine aB ?_
        refine tV ⟨b5,e3,hfin y e3 hy (by rw [he3,he2]),rfl,rfl,rfl⟩
      ·refine cK (fun b5=>?_)
       refine bE ?_
       refine aY [9,10,12] [0,0,0] aF aC (by kernel_rfl) (by kernel_rfl) rfl rfl ?_
       repeat refine aB ?_
       (refine bD rfl (ih y _ _ hyd aA) ?_;rintro _ _ _ ⟨rfl,e2,rfl,he2,rfl⟩;refine aN ?_)
       repeat refine aB ?_
       refine fK rfl (sN (k:=k0) (m:=hh) (by omega) (hEl _ aA) (Hv.mem aA)) (fun e3 he3=>?_)
       repeat refine aB ?_
       refine tV ⟨b5,e3,hfin y e3 hy (by rw [he3,he2]),rfl,rfl,rfl⟩
     ·refine cK (fun b5=>?_)
      refine bE ?_
      refine aY [8,9,10,12] [0,0,0,0] aF aC (by kernel_rfl) (by kernel_rfl) rfl rfl ?_
      repeat refine aB ?_
      (refine bD rfl (hMi t _ _ (by omega) aA) ?_;rintro _ _ _ ⟨rfl,y,rfl,hy,hyd,rfl⟩;refine aN ?_)
      repeat refine aB ?_
      (refine bD rfl (ih y _ _ hyd aA) ?_;rintro _ _ _ ⟨rfl,e2,rfl,he2,rfl⟩;refine aN ?_)
      repeat refine aB ?_
      refine fK rfl (sN (k:=k0) (m:=hh) (by omega) (hEl _ aA) (Hv.mem aA)) (fun e3 he3=>?_)
      repeat refine aB ?_
      refine tV ⟨b5,e3,hfin y e3 hy (by rw [he3,he2]),rfl,rfl,rfl⟩
    ·rintro G M I ⟨b5,e,he,rfl,rfl,rfl⟩
     have htm:(t:Int).tmod 2=(t:Int) % 2:=Int.tmod_eq_emod_of_nonneg (by omega)
     by_cases hodd:t % 2=1
     ·repeat refine aB ?_
      refine fK rfl (zL (k:=k0+hh) (by omega) (Hv.mem aA)) (fun e4 he4=>?_)
      repeat refine aB ?_
      refine fK rfl (xG (k:=u) (m:=k0+hh) (by omega) (Hv.mem aA) (Hv.mem aA)) (fun e5 he5=>?_)
      repeat refine aB ?_
      refine dF (φ:=bL e5 ((t+1)*c)) (Hv.q (k:=u+(k0+hh)+1) aA (by omega)) ?_
      refine gL (n+2 - (t+1)) (⟨t+1,e5,by omega,rfl,?_,rfl,rfl,rfl⟩)
      simp only [sm]
      rw [he5,he4,he,hs]
      simp only [sgd,if_neg (show ¬t % 2=0 by omega)]
      grind
     ·repeat refine aB ?_
      refine fK rfl (xG (k:=u) (m:=k0+hh) (by omega) (Hv.mem aA) (Hv.mem aA)) (fun e5 he5=>?_)
      repeat refine aB ?_
      refine dF (φ:=bL e5 ((t+1)*c)) (Hv.q (k:=u+(k0+hh)+1) aA (by omega)) ?_
      refine gL (n+2 - (t+1)) (⟨t+1,e5,by omega,rfl,?_,rfl,rfl,rfl⟩)
      simp only [sm]
      rw [he5,he,hs]
      simp only [sgd,if_pos (show t % 2=0 by omega)]
      grind
  ·obtain rfl:t=n+2:=by omega
   repeat refine aB ?_
   refine dF (φ:=bL s ((n+3)*c)) (Hv.q (k:=(n+2)*c) aA (Nat.mul_le_mul_right c (by omega))) ?_
   refine aO (cs:=eR s) (.inl rfl) rfl rfl aA rfl M0 (bL s ((n+3)*c)::I0) aF aC ⟨rfl,s,rfl,hs,rfl⟩
end
structure MS where
 b:Nat
 c:Nat
 es:List RE
 tl:List Value
instance:Inhabited MS:=⟨⟨0,0,[],[]⟩⟩
abbrev eS (r:MS):List Value:=[.slice (some ⟨r.b,0,none⟩) r.es.length r.c]
instance:Sized eS 1:=⟨fun _=>rfl⟩
instance:Ones eS:=⟨fun m u hu=>by simp only [eS,List.mem_cons,List.not_mem_nil,or_false] at hu;subst hu;rfl⟩
abbrev iW (r:MS):Ent:= .blk r.b (recs eR r.es++r.tl) 77
structure AllS (rows:List MS) (k:Nat) (X:List Nat) (w:World):Prop where
 go:∀r∈rows,∀e∈r.es,IsR e k X w
abbrev iG (rows:List MS) (k:Nat):aL:=AllS rows k
instance (rows:List MS) (k:Nat):Fx.Good (AllS rows k):=⟨fun X Y w w' h he hY=>⟨fun r hr e hm=>Fx.Good.go (φ:=IsR _ _) X Y w w' (h.go r hr e hm) he hY⟩⟩
theorem Hv.nilS {I:List aL} {k:Nat}:Hv I (iG [] k):=⟨fun X w _=>⟨fun x hx=>by simp at hx⟩⟩
theorem Hv.snocS {I:List aL} {rows:List MS} {r:MS} {k:Nat} (h1:iG rows k∈I) (h2:Hv I (aP r.es k)):Hv I (iG (rows++[r]) k):=⟨fun X w hw=>⟨fun x hx=>by
 rcases List.mem_append.1 hx with hx|hx
 ·exact (hw _ h1:AllS rows k X w).go x hx
 ·rw [List.mem_singleton.1 hx];exact (h2.go X w hw).go⟩⟩
theorem Hv.monoS {I:List aL} {rows:List MS} {k m:Nat} (h:iG rows k∈I) (hk:k≤m):Hv I (iG rows m):=⟨fun X w hw=>⟨fun r hr e he=>((hw _ h:AllS rows k X w).go r hr e he).mono hk⟩⟩
def Pw (rows:List MS) (R C:Nat) (V:Nat→Nat→Rat):Prop:=∀i j:Nat,i < R→j < C→(gt (gt rows (i:Int)).es (j:Int)).q=V i j
structure Shp (rows:List MS) (R C:Nat):Prop where
 len:rows.length=R
 col:∀r∈rows,r.es.length=C∧C≤r.c
abbrev upR (r:MS) (j:Nat) (e:RE):MS:=⟨r.b,r.c,st r.es (j:Int) e,r.tl⟩
def upS (rows:List MS) (i j:Nat) (e:RE):List MS:=rows.set i ⟨(gt rows (i:Int)).b,(gt rows (i:Int)).c,st (gt rows (i:Int)).es (j:Int) e,(gt rows (i:Int)).tl⟩
theorem aIT {rows:List MS} {i j:Nat} {e:RE}:rows.set i (upR (gt rows (i:Int)) j e)=upS rows i j e:=rfl
theorem Shp.row {rows:List MS} {R C:Nat} (h:Shp rows R C) {i:Nat} (hi:i < R):(gt rows (i:Int)).es.length=C:=(h.col _ (bF (by have:=h.len;omega))).1
theorem Shp.up {rows:List MS} {R C i j:Nat} {e:RE} (h:Shp rows R C) (hi:i < R):Shp (upS rows i j e) R C:=⟨by unfold upS;rw [List.length_set];exact h.len,fun r hr=>by
 rcases List.mem_or_eq_of_mem_set hr with hr|hr
 ·exact h.col r hr
 ·subst hr
  have:=h.col _ (bF (ms:=rows) (i:=(i:Int)) (by have:=h.len;omega))
  exact ⟨by show (st _ _ _).length=C;rw [dK];exact this.1,this.2⟩⟩
theorem aNM {rows:List MS} {R C i j t:Nat} {e:RE} (h:Shp rows R C) (hi:i < R) (ht:t < R):gt (upS rows i j e) (t:Int)=if t=i then ⟨(gt rows (i:Int)).b,(gt rows (i:Int)).c,st (gt rows (i:Int)).es (j:Int) e,(gt rows (i:Int)).tl⟩ else gt rows (t:Int):=by
 have hl:=h.len
 unfold upS
 rw [dP (by rw [List.length_set];omega)]
 by_cases e1:t=i
 ·subst e1;simp
 ·rw [List.getElem_set_ne (fun e=>e1 e.symm),if_neg e1]
  exact (dP (by omega)).symm
theorem Pw.up {rows:List MS} {R C i j:Nat} {e:RE} {V V':Nat→Nat→Rat} (hp:Pw rows R C V) (h:Shp rows R C) (hi:i < R) (hj:j < C) (hV:∀a b,a < R→b < C→V' a b=if a=i∧b=j then e.q else V a b):Pw (upS rows i j e) R C V':=fun a b ha hb=>by
 rw [aNM h hi ha,hV a b ha hb]
 by_cases e1:a=i
 ·subst e1
  rw [if_pos rfl]
  show (gt (st (gt rows (a:Int)).es (j:Int) e) (b:Int)).q=_
  rw [vJ (by rw [h.row ha];exact hj)]
  by_cases e2:b=j
  ·rw [if_pos e2,if_pos ⟨rfl,e2⟩]
  ·rw [if_neg e2,if_neg (fun x=>e2 x.2)];exact hp a b ha hb
 ·rw [if_neg e1,if_neg (fun x=>e1 x.1)];exact hp a b ha hb
theorem aFB {rows:List MS} {R C i j:Nat} {e:RE} (h:Shp rows R C) (hi:i < R):recs eS (upS rows i j e)=recs eS rows:=by
 have hl:=h.len
 unfold upS
 rw [←qV (enc:=eS) rows i _ (by omega)]
 have e1:eS ⟨(gt rows (i:Int)).b,(gt rows (i:Int)).c,st (gt rows (i:Int)).es (j:Int) e,(gt rows (i:Int)).tl⟩=eS (gt rows (i:Int)):=by simp [eS,dK]
 rw [e1,qV (enc:=eS) rows i _ (by omega),dP (by omega),List.set_getElem_self]
theorem Hv.upS {I:List aL} {rows:List MS} {R C i j k:Nat} {e:RE} (h:Shp rows R C) (hi:i < R) (h1:iG rows k∈I) (h2:bL e k∈I):Hv I (iG (upS rows i j e) k):=⟨fun X w hw=>⟨fun r hr x hx=>by
 have ha:=(hw _ h1:AllS rows k X w).go
 rcases List.mem_or_eq_of_mem_set hr with hr|hr
 ·exact ha r hr x hx
 ·subst hr
  rcases List.mem_or_eq_of_mem_set hx with hx|hx
  ·exact ha _ (bF (by have:=h.len;omega)) x hx
  ·rw [hx];exact hw _ h2⟩⟩
theorem bDR {M1:List Ent} {r':MS}:∀{rows:List MS} {i:Nat} (h:i < rows.length),Rep (iW rows[i]) (iW r') (rows.map iW++M1) ((rows.set i r').map iW++M1)
 |[],_,h=>by simp at h
 |x::r,0,_=> .here
 |x::r,i+1,h=> .there (bDR (rows:=r) (i:=i) (by simpa using h))
theorem repS {M1:List Ent} {r':MS} {rows:List MS} {i:Nat} (h:i < rows.length) {A:Ent}:Rep (iW (gt rows (i:Int))) (iW r') (A::(rows.map iW++M1)) (A::((rows.set i r').map iW++M1)):=by
 rw [dP h]
 exact .there (bDR h)
theorem bDK {M1:List Ent} {r':MS} {rows:List MS} {i:Nat} (h:i < rows.length) {A B:Ent}:Rep (iW (gt rows (i:Int))) (iW r') (A::B::(rows.map iW++M1)) (A::B::((rows.set i r').map iW++M1)):= .there (repS h)
def MsP (R C:Nat) (V:Nat→Nat→Rat) (k:Nat) (M0:List Ent) (I0:List aL) (v:Value) (M:List Ent) (I:List aL):Prop:=
 ∃(bo co:Nat) (tlo:List Value) (rows:List MS),v= .slice (some ⟨bo,0,none⟩) R co∧R≤co∧Shp rows R C∧Pw rows R C V∧M= .blk bo (recs eS rows++tlo) 70::(rows.map iW++M0)∧I=iG rows k::I0
def MS.l (r:MS):RL:=⟨some ⟨r.b,0,none⟩,r.c,r.es⟩
def MS.x (bo co:Nat) (rows:List MS):MX:=⟨some ⟨bo,0,none⟩,co,rows.map MS.l⟩
theorem bAP (rows:List MS):recs eL (rows.map MS.l)=recs eS rows:=by
 induction rows with
 |nil=>rfl
 |cons x r ih=>
  have h1:recs eL ((x::r).map MS.l)=eL x.l++recs eL (r.map MS.l):=rfl
  have h2:recs eS (x::r)=eS x++recs eS r:=rfl
  rw [h1,h2,ih];rfl
theorem aNV {X:List Nat} {w:World} {a:Option Addr} {cs tl:List Value} (h:Sl X w a (cs++tl)):Sl X w a cs:=by
 have:=h.take cs.length
 rwa [List.take_left'] at this
 rfl
theorem aBA {X:List Nat} {w0 w:World} {k:Nat}:∀{rows:List MS} {M:List Ent} {I:List aL},Mem X w0 (rows.map iW++M) I w→(∀r∈rows,r.es.length≤r.c)→(∀r∈rows,AllR r.es k (muts (rows.map iW++M)) w)→∃I',(∀φ∈I,φ∈I')∧(∀r∈rows,iN r.l k∈I')∧Mem X w0 M I' w
 |[],M,I,h,_,_=>⟨I,fun _ h=>h,fun r hr=>by simp at hr,h⟩
 |r::rows,M,I,h,hc,ha=>by
  have h1:Mem X w0 (rows.map iW++M) (aI (some ⟨r.b,0,none⟩) (recs eR r.es++r.tl)::I) w:=h.freezeB .here
  have hsub:∀y∈muts (rows.map iW++M),y∈muts ((r::rows).map iW++M):=fun y hy=>by simp [muts] at hy ⊢;right;exact hy
  have h2:IsL r.l k (muts (rows.map iW++M)) w:=by
   refine ⟨aNV (h1.sl (List.Mem.head _)),fun e he=>?_,hc r (List.Mem.head _), .inl (Ok.mk _ _)⟩
   exact Fx.Good.go (φ:=IsR _ _) _ _ w w ((ha r (List.Mem.head _)).go e he) (Ext.refl _ _) (fun y hy=> .inl (hsub y hy))
  obtain ⟨I',i1,i2,i3⟩:=aBA (h1.add (φ:=iN r.l k) h2) (fun s hs=>hc s (List.Mem.tail _ hs)) (fun s hs=>⟨fun e he=>Fx.Good.go (φ:=IsR _ _) _ _ w w ((ha s (List.Mem.tail _ hs)).go e he) (Ext.refl _ _) (fun y hy=> .inl (hsub y hy))⟩)
  refine ⟨I',fun φ hφ=>i1 φ (List.Mem.tail _ (List.Mem.tail _ hφ)),fun s hs=>?_,i3⟩
  rcases List.mem_cons.1 hs with rfl|hs
  ·exact i1 _ (List.Mem.head _)
  ·exact i2 s hs
theorem aKV {X:List Nat} {w0 w:World} {k bo co:Nat} {tlo:List Value} {rows:List MS} {M:List Ent} {I:List aL} (h:Mem X w0 (.blk bo (recs eS rows++tlo) 70::(rows.map iW++M)) I w) (hc:∀r∈rows,r.es.length≤r.c) (hco:rows.length≤co) (ha:iG rows k∈I):Mem X w0 M (gI (MS.x bo co rows) k::I) w:=by
 have h0:Mem X w0 (rows.map iW++M) (aI (some ⟨bo,0,none⟩) (recs eS rows++tlo)::I) w:=h.freezeB .here
 obtain ⟨I',i1,i2,i3⟩:=aBA (k:=k) h0 hc (fun r hr=>⟨fun e he=>((h0.imm _ (List.Mem.tail _ ha)).2:AllS rows k _ w).go r hr e he⟩)
 have h3:IsX (MS.x bo co rows) k (muts M) w:=by
  refine ⟨?_,fun r hr=>?_,?_⟩
  ·rw [show (MS.x bo co rows).rows=rows.map MS.l from rfl,bAP];exact aNV (i3.sl (i1 _ (List.Mem.head _)))
  ·obtain ⟨s,hs,rfl⟩:=List.mem_map.1 hr
   exact (i3.imm _ (i2 s hs)).2
  ·show Cap (some ⟨bo,0,none⟩) (rows.map MS.l).length co
   rw [List.length_map];exact ⟨hco, .inl (Ok.mk _ _)⟩
 exact (i3.add (φ:=gI (MS.x bo co rows) k) h3).inc (.of fun φ hφ=>by
  rcases List.mem_cons.1 hφ with rfl|hφ
  ·exact List.Mem.head _
  ·exact List.Mem.tail _ (i1 _ (List.Mem.tail _ hφ)))
theorem q_xs {rows:List MS} {R C bo co:Nat} {V:Nat→Nat→Rat} (h:Shp rows R C) (hp:Pw rows R C V):(MS.x bo co rows).q=xE R C V∧(MS.x bo co rows).dim R C:=by
 have hd:(MS.x bo co rows).dim R C:=⟨by show (rows.map MS.l).length=R;rw [List.length_map];exact h.len,fun r hr=>by
  obtain ⟨s,hs,rfl⟩:=List.mem_map.1 hr
  exact (h.col s hs).1⟩
 refine ⟨?_,hd⟩
 rw [hd.mk]
 refine xV (fun i j hi hj=>?_)
 have hl:=hd.1
 have hg:gt (MS.x bo co rows).rows (i:Int)=(gt rows (i:Int)).l:=aID (by have:=h.len;omega)
 rw [oQ (by omega) (by rw [hg];show j < (gt rows (i:Int)).es.length;rw [h.row hi];exact hj),hg]
 exact hp i j hi hj
theorem CD_ms {f:FuncId} {vs:List Value} {X:List Nat} {w0:World} {M0:List Ent} {I0:List aL} {R C k:Nat} {V:Nat→Nat→Rat} (h:CD Tryz.prog f vs X w0 M0 I0 (MsP R C V k M0 I0)):CD Tryz.prog f vs X w0 M0 I0 (XQ (xE R C V) R C k M0 I0):=by
 refine CD.post h (fun v M I w h hw=>?_)
 obtain ⟨bo,co,tlo,rows,rfl,hco,hs,hp,rfl,rfl⟩:=h
 obtain ⟨hq,hd⟩:=q_xs (bo:=bo) (co:=co) hs hp
 refine ⟨M0,gI (MS.x bo co rows) k::I0,⟨rfl,MS.x bo co rows,?_,hq,hd,rfl⟩,(aKV (co:=co) (k:=k) hw (fun r hr=>by have:=hs.col r hr;omega) (by have:=hs.len;omega) (List.Mem.head _)).inc (.of fun φ hφ=>by
  rcases List.mem_cons.1 hφ with rfl|hφ
  ·exact List.Mem.head _
  ·exact List.Mem.tail _ (List.Mem.tail _ hφ))⟩
 have e1:=hd.1
 show _=Value.slice (MS.x bo co rows).p (MS.x bo co rows).rows.length (MS.x bo co rows).c
 rw [e1];rfl
section
variable {X:List Nat} {w0:World} {M0:List Ent} {I0:List aL}
theorem aDX {R C:Nat} (hR:1≤R∧R≤100) (hC:1≤C∧C≤100):CD Tryz.prog 146 [.int .i64 (R:Int), .int .i64 (C:Int)] X w0 M0 I0 (MsP R C (fun _ _=>0) 0 M0 I0):=by
 have hW:=fun M0 I0=>tF (X:=X) (w0:=w0) (M0:=M0) (I0:=I0) (x:=0) (by decide)
 refine aM Tryz.func146 rfl Tryz.ntmps146 rfl ?_
 repeat refine aB ?_
 (refine gK (cs:=recs eS []) ([]) rfl (fun bo=>?_);refine fM (mm:=0) 1 .here rfl (by omega) ?_)
 repeat refine aB ?_
 refine bG (φ:=iG [] 0) Hv.nilS ?_
 refine bX [0,1] rfl (fun k G M I=>∃(i:Nat) (rows:List MS) (q:Option Addr) (c:Nat),i≤R∧k=R - i∧Shp rows i C∧Pw rows i C (fun _ _=>0)∧G=[(5, .slice q rows.length c),(6, .int .i64 i)]∧M= .row q rows.length c (recs eS rows) 70 1::(rows.map iW++M0)∧I=iG rows 0::I0) (R) _ _ _ dB aF aC (⟨0,[],_,_,by omega,rfl,⟨rfl,fun r hr=>by simp at hr⟩,fun i j hi=>by omega,rfl,rfl,rfl⟩) ?_
 rintro kk G M I ⟨i,rows,q,c,hi,rfl,hs,hp,rfl,rfl,rfl⟩
 have hlen:=hs.len
 by_cases hiR:i < R
 ·repeat refine aB ?_
  (refine gK (cs:=recs eR []) ([]) rfl (fun bl=>?_);refine fM (mm:=0) 4 .here rfl (by omega) ?_)
  repeat refine aB ?_
  refine bG (φ:=aP [] 0) Hv.nilR ?_
  refine bX [0,1,5,6] rfl (fun k G M I=>∃(j:Nat) (es:List RE) (ql:Option Addr) (cl:Nat),j≤C∧k=C - j∧es.length=j∧(∀e∈es,e.q=0)∧G=[(7, .slice ql es.length cl),(8, .int .i64 j)]∧M= .row ql es.length cl (recs eR es) 77 4:: .row q rows.length c (recs eS rows) 70 1::(rows.map iW++M0)∧I=aP es 0::iG rows 0::I0) (C) _ _ _ dB aF aC (⟨0,[],_,_,by omega,rfl,rfl,by simp,rfl,rfl,rfl⟩) ?_
  rintro kk G M I ⟨j,es,ql,cl,hj,rfl,hel,heq,rfl,rfl,rfl⟩
  by_cases hjC:j < C
  ·repeat refine aB ?_
   refine fK rfl (hW _ _) (fun e he=>?_)
   refine gK (cs:=recs eR [e]) ([rv e]) rfl (fun b=>?_)
   refine wM (ys:=[e]) 1 rfl rfl rfl (fun q2 c2=>?_)
   repeat refine aB ?_
   refine dF (φ:=aP (es++[e]) 0) (Hv.snoc aA aA) ?_
   refine gL (C - (j+1)) (⟨j+1,es++[e],q2,c2,by omega,rfl,by simp;omega,fun x hx=>?_,rfl,rfl,rfl⟩)
   rcases List.mem_append.1 hx with h|h
   ·exact heq x h
   ·rw [List.mem_singleton.1 h,he];rfl
  ·obtain rfl:j=C:=by omega
   repeat refine aB ?_
   refine aBO (fun h0 h1 h2=>by omega) (fun b tl h1 h2=>?_)
   subst h1
   refine gK (cs:=recs eS [(⟨b,cl,es,tl⟩:MS)]) ([.slice (some ⟨b,0,none⟩) es.length cl]) rfl (fun bb=>?_)
   refine wM (ys:=[(⟨b,cl,es,tl⟩:MS)]) 2 rfl rfl rfl (fun q2 c2=>?_)
   repeat refine aB ?_
   refine dF (φ:=iG (rows++[(⟨b,cl,es,tl⟩:MS)]) 0) (Hv.snocS aA (Hv.mem aA)) ?_
   refine fC (M':= .blk b (recs eR es++tl) 77:: .row q2 (rows++[(⟨b,cl,es,tl⟩:MS)]).length c2 (recs eS (rows++[(⟨b,cl,es,tl⟩:MS)])) 70 1::(rows.map iW++M0)) (I':=iG (rows++[(⟨b,cl,es,tl⟩:MS)]) 0::I0) (SubP.drop SubP.refl) aC ?_
   refine vS (M':= .row q2 (rows++[(⟨b,cl,es,tl⟩:MS)]).length c2 (recs eS (rows++[(⟨b,cl,es,tl⟩:MS)])) 70 1::((rows++[(⟨b,cl,es,tl⟩:MS)]).map iW++M0)) (by rw [List.map_append (f:=iW)];exact aBZ) ?_
   refine gL (R - (i+1)) (⟨i+1,rows++[(⟨b,cl,es,tl⟩:MS)],q2,c2,by omega,rfl,⟨by simp [hlen],fun r hr=>?_⟩,fun i' j' h1' h2'=>?_,rfl,rfl,rfl⟩)
   ·rcases List.mem_append.1 hr with h|h
    ·exact hs.col r h
    ·rw [List.mem_singleton.1 h];exact ⟨hel,by show j≤cl;omega⟩
   ·by_cases e1:i' < i
    ·have:gt (rows++[(⟨b,cl,es,tl⟩:MS)]) (i':Int)=gt rows (i':Int):=by rw [dP (by simp;omega),dP (by omega),List.getElem_append_left (by omega)]
     rw [this];exact hp i' j' e1 h2'
    ·have:gt (rows++[(⟨b,cl,es,tl⟩:MS)]) (i':Int)=⟨b,cl,es,tl⟩:=xI (A:=rows) (B:=[]) (by omega)
     rw [this]
     exact heq _ (bF (by show (0:Int)≤_∧_ < (es.length:Int);omega))
 ·obtain rfl:i=R:=by omega
  repeat refine aB ?_
  refine aHJ (fun h0 h1 h2=>by omega) (fun b tl h1 h2=>?_)
  subst h1
  refine aU (by first|exact .inl rfl|exact .inr rfl) rfl rfl _ _ aF aC (⟨b,c,tl,rows,by rw [hlen],by omega,hs,hp,rfl,rfl⟩)
end
section
variable {X:List Nat} {w0:World} {M0:List Ent} {I0:List aL}
theorem aXF {a:MX} {R C k0:Nat} (hR:1≤R∧R≤100) (hC:1≤C∧C≤100) (da:a.dim R C) (ha:gI a k0∈I0):CD Tryz.prog 212 [mv a] X w0 M0 I0 (MsP R C (at2 a.q) k0 M0 I0):=by
 have hl:=da.1
 refine uW (φ:=∀r∈a.rows,Cap r.p r.es.length r.c) (fun w hw r hr=>((((hw.imm _ ha).2:IsX a k0 _ w)).row r hr).cap) (fun hcap=>?_)
 refine aV (φ:=aI (a).p (recs eL (a).rows)) (Hv.xsl aA) ?_
 refine aR Tryz.func212 rfl Tryz.ntmps212 rfl ?_
 repeat refine aB ?_
 (refine gK (cs:=recs eS []) ([]) rfl (fun bo=>?_);refine fM (mm:=0) 1 .here rfl (by omega) ?_)
 repeat refine aB ?_
 refine bG (φ:=iG [] k0) Hv.nilS ?_
 refine bX [0] rfl (fun k G M I=>∃(i:Nat) (rows:List MS) (q:Option Addr) (c:Nat),i≤R∧k=R - i∧Shp rows i C∧Pw rows i C (at2 a.q)∧G=[(3, .slice q rows.length c),(4, .int .i64 i)]∧M= .row q rows.length c (recs eS rows) 70 1::(rows.map iW++M0)∧I=iG rows k0::aI a.p (recs eL a.rows)::I0) (R) _ _ _ dB aF aC (⟨0,[],_,_,by omega,rfl,⟨rfl,fun r hr=>by simp at hr⟩,fun i j hi=>by omega,rfl,rfl,rfl⟩) ?_
 rintro kk G M I ⟨i,rows,q,c,hi,rfl,hs,hp,rfl,rfl,rfl⟩
 have hlen:=hs.len
 by_cases hiR:i < R
 ·have hrow:=da.row hiR
  have hcp:=(hcap _ (bF (ms:=a.rows) (i:=(i:Int)) (by omega))).2
  refine bG (φ:=aI (gt (a).rows (i:Int)).p (recs eR (gt (a).rows (i:Int)).es)) (Hv.xrsl aA (by omega)) ?_
  refine bG (φ:=aP (gt a.rows (i:Int)).es k0) ⟨fun X w hw=>⟨((hw _ (by exact aA):IsX a k0 X w).row _ (bF (by omega))).el⟩⟩ ?_
  repeat refine aB ?_
  (refine gK (cs:=recs eR []) ([]) rfl (fun bl=>?_);refine fM (mm:=0) 4 .here rfl (by omega) ?_)
  repeat refine aB ?_
  (refine iB (enc:=eR) (xs:=[]) (ys:=(gt a.rows (i:Int)).es) 0 rfl rfl rfl (Src.imm aA hcp) (by decide) rfl (by rw [List.length_nil];omega) (by rw [List.length_nil];omega) rfl rfl ?_;intro q1 c1;refine aN ?_)
  rw [List.nil_append]
  refine aBO (fun h0 h1 h2=>by omega) (fun b tl h1 h2=>?_)
  subst h1
  refine gK (cs:=recs eS [(⟨b,c1,(gt a.rows (i:Int)).es,tl⟩:MS)]) ([.slice (some ⟨b,0,none⟩) (gt a.rows (i:Int)).es.length c1]) rfl (fun bb=>?_)
  refine wM (ys:=[(⟨b,c1,(gt a.rows (i:Int)).es,tl⟩:MS)]) 2 rfl rfl rfl (fun q2 c2=>?_)
  repeat refine aB ?_
  refine dF (φ:=iG (rows++[(⟨b,c1,(gt a.rows (i:Int)).es,tl⟩:MS)]) k0) (Hv.snocS aA (Hv.mem aA)) ?_
  refine fC (M':= .blk b (recs eR (gt a.rows (i:Int)).es++tl) 77:: .row q2 (rows++[(⟨b,c1,(gt a.rows (i:Int)).es,tl⟩:MS)]).length c2 (recs eS (rows++[(⟨b,c1,(gt a.rows (i:Int)).es,tl⟩:MS)])) 70 1::(rows.map iW++M0)) (I':=iG (rows++[(⟨b,c1,(gt a.rows (i:Int)).es,tl⟩:MS)]) k0::aI a.p (recs eL a.rows)::I0) (SubP.drop SubP.refl) aC ?_
  refine vS (M':= .row q2 (rows++[(⟨b,c1,(gt a.rows (i:Int)).es,tl⟩:MS)]).length c2 (recs eS (rows++[(⟨b,c1,(gt a.rows (i:Int)).es,tl⟩:MS)])) 70 1::((rows++[(⟨b,c1,(gt a.rows (i:Int)).es,tl⟩:MS)]).map iW++M0)) (by rw [List.map_append (f:=iW)];exact aBZ) ?_
  refine gL (R - (i+1)) (⟨i+1,rows++[(⟨b,c1,(gt a.rows (i:Int)).es,tl⟩:MS)],q2,c2,by omega,rfl,⟨by simp [hlen],fun r hr=>?_⟩,fun i' j' h1' h2'=>?_,rfl,rfl,rfl⟩)
  ·rcases List.mem_append.1 hr with h|h
   ·exact hs.col r h
   ·rw [List.mem_singleton.1 h];exact ⟨hrow,by show C≤c1;omega⟩
  ·by_cases e1:i' < i
   ·have:gt (rows++[(⟨b,c1,(gt a.rows (i:Int)).es,tl⟩:MS)]) (i':Int)=gt rows (i':Int):=by rw [dP (by simp;omega),List.getElem_append_left (by omega)];exact (dP (by omega)).symm
    rw [this];exact hp i' j' e1 h2'
   ·have:gt (rows++[(⟨b,c1,(gt a.rows (i:Int)).es,tl⟩:MS)]) (i':Int)=⟨b,c1,(gt a.rows (i:Int)).es,tl⟩:=xI (A:=rows) (B:=[]) (by omega)
    rw [this]
    obtain rfl:i'=i:=by omega
    exact (oQ (m:=a) (by omega) (by omega)).symm
 ·obtain rfl:i=R:=by omega
  repeat refine aB ?_
  refine aHJ (fun h0 h1 h2=>by omega) (fun b tl h1 h2=>?_)
  subst h1
  refine aU (by first|exact .inl rfl|exact .inr rfl) rfl rfl _ _ aF aC (⟨b,c,tl,rows,by rw [hlen],by omega,hs,hp,rfl,rfl⟩)
end
section
variable {X:List Nat} {w0:World} {M0:List Ent} {I0:List aL}
theorem aUG {a b:MX} {R C D k0 m:Nat} (hk:k0+m≤20000000000) (hKK:C*(k0+m+1)≤50000000000) (hR:1≤R∧R≤64) (hC:1≤C∧C≤64) (hD:1≤D∧D≤64) (da:a.dim R C) (db:b.dim C D) (ha:gI a k0∈I0) (hb:gI b m∈I0):
  CD Tryz.prog 264 [mv a,mv b] X w0 M0 I0 (MsP R D (fun i j=>sm C (fun t=>at2 a.q i t*at2 b.q t j)) (C*(k0+m+1)) M0 I0):=by
 have lR:=da.1
 have lC:=db.1
 have lD:(gt b.rows 0).es.length=D:=db.row (i:=0) (by omega)
 have hW:=fun M0 I0=>tF (X:=X) (w0:=w0) (M0:=M0) (I0:=I0) (x:=0) (by decide)
 obtain ⟨K,hK⟩:∃K,K=C*(k0+m+1):=⟨_,rfl⟩
 rw [←hK] at hKK ⊢
 refine aV (φ:=aI (a).p (recs eL (a).rows)) (Hv.xsl aA) ?_
 refine aV (φ:=aI (b).p (recs eL (b).rows)) (Hv.xsl aA) ?_
 refine aM Tryz.func264 rfl Tryz.ntmps264 rfl ?_
 repeat refine aB ?_
 rw [lR,lD]
 (refine bD rfl (aDX (R:=R) (C:=D) (by omega) (by omega)) ?_;rintro _ _ _ ⟨bo,co,tlo,rows0,rfl,hco,hs0,hp0,rfl,rfl⟩;refine aN ?_)
 repeat refine aB ?_
 refine bG (φ:=iG rows0 K) (Hv.monoS (k:=0) (List.Mem.head _) (by omega)) ?_
 refine lX [0,1,5] rfl (fun k G M I=>∃(i:Nat) (rows:List MS),i≤R∧k=R - i∧Shp rows R D∧Pw rows R D (fun x y=>if x < i then sm C (fun t=>at2 a.q x t*at2 b.q t y) else 0)∧G=[(6, .int .i64 i)]∧M= .blk bo (recs eS rows++tlo) 70::(rows.map iW++M0)∧I=iG rows K::aI b.p (recs eL b.rows)::aI a.p (recs eL a.rows)::I0) (R) (⟨0,rows0,by omega,rfl,hs0,fun x y hx hy=>by (have h_:=hp0 x y hx hy;dsimp only at h_ ⊢;rw [h_,if_neg (by omega)]),rfl,rfl,rfl⟩) ?_
 rintro kk G M I ⟨i,rows,hi,rfl,hs,hp,rfl,rfl,rfl⟩
 by_cases hiR:i < R
 ·have hra:=da.row hiR
  refine bG (φ:=aI (gt (a).rows (i:Int)).p (recs eR (gt (a).rows (i:Int)).es)) (Hv.xrsl aA (by omega)) ?_
  have hp_:Pw rows R D (fun x y=>if x < i∨(x=i∧y < 0) then sm C (fun t=>at2 a.q x t*at2 b.q t y) else 0):=fun x y hx hy=>by
   have h_:=hp x y hx hy
   dsimp only at h_ ⊢
   rw [h_]
   by_cases e:x < i
   ·rw [if_pos e,if_pos (.inl e)]
   ·rw [if_neg e,if_neg (by omega)]
  repeat refine aB ?_
  refine lX [0,1,5,6] rfl (fun k G M I=>∃(j:Nat) (rows:List MS),j≤D∧k=D - j∧Shp rows R D∧Pw rows R D (fun x y=>if x < i∨(x=i∧y < j) then sm C (fun t=>at2 a.q x t*at2 b.q t y) else 0)∧G=[(7, .int .i64 j)]∧M= .blk bo (recs eS rows++tlo) 70::(rows.map iW++M0)∧I=iG rows K::aI (gt a.rows (i:Int)).p (recs eR (gt a.rows (i:Int)).es)::aI b.p (recs eL b.rows)::aI a.p (recs eL a.rows)::I0) (D) (⟨0,rows,by omega,rfl,hs,hp_,rfl,rfl,rfl⟩) ?_
  rintro kk G M I ⟨j,rows1,hj,rfl,hs1,hp1,rfl,rfl,rfl⟩
  have hlen:=hs1.len
  by_cases hjD:j < D
  ·have hrow:=hs1.row hiR
   repeat refine aB ?_
   refine fK rfl (hW _ _) (fun z0 hz0=>?_)
   repeat refine aB ?_
   refine cK (fun b8=>?_)
   repeat refine aB ?_
   refine lX [0,1,5,6,7,8] rfl (fun k G M I=>∃(t:Nat) (s:RE),t≤C∧k=C - t∧s.q=sm t (fun t=>at2 a.q i t*at2 b.q t j)∧G=[(9, .int .i64 t)]∧M= .blk b8 (eR s) 77:: .blk bo (recs eS rows1++tlo) 70::(rows1.map iW++M0)∧I=bL s (t*(k0+m+1))::iG rows1 K::aI (gt a.rows (i:Int)).p (recs eR (gt a.rows (i:Int)).es)::aI b.p (recs eL b.rows)::aI a.p (recs eL a.rows)::I0) (C) (⟨0,z0,by omega,rfl,hz0,rfl,rfl,by rw [Nat.zero_mul]⟩) ?_
   rintro kk G M I ⟨t,s,ht,rfl,hsq,rfl,rfl,rfl⟩
   have hu:t*(k0+m+1)≤K:=by rw [hK];exact Nat.mul_le_mul_right _ ht
   by_cases htC:t < C
   ·have hu2:(t+1)*(k0+m+1)=t*(k0+m+1)+(k0+m)+1:=by rw [Nat.succ_mul];omega
    have hrb:=db.row htC
    have hat:=oQ (m:=a) (i:=i) (j:=t) (by omega) (by omega)
    have hat2:=oQ (m:=b) (i:=t) (j:=j) (by omega) (by omega)
    refine bG (φ:=aI (gt (b).rows (t:Int)).p (recs eR (gt (b).rows (t:Int)).es)) (Hv.xrsl aA (by omega)) ?_
    have hu3:(t+1)*(k0+m+1)≤K:=by rw [hK];exact Nat.mul_le_mul_right _ htC
    generalize t*(k0+m+1)=u at*
    repeat refine aB ?_
    (repeat refine aG ?_);refine aW 2 [0,1,2,3,4,5,6,7,8,9,10,11,12,13,14,15,16,17] [1,2,2,2,2,2,2,1,2,2,2,2,2,2,1,0,0,0] mixed (by kernel_rfl) ?_
    repeat refine aB ?_
    refine fK rfl (sN (k:=k0) (m:=m) (by omega) (Hv.xel aA (by omega) (by omega)) (Hv.xel aA (by omega) (by omega))) (fun e1 he1=>?_)
    refine fK rfl (xG (k:=u) (m:=k0+m) (by omega) (Hv.mem aA) (Hv.mem aA)) (fun e2 he2=>?_)
    repeat refine aB ?_
    rw [←hu2]
    refine gL (C - (t+1)) (⟨t+1,e2,by omega,rfl,?_,rfl,rfl,rfl⟩)
    simp only [sm]
    rw [he2,he1,hsq,hat,hat2]
   ·obtain rfl:t=C:=by omega
    repeat refine aB ?_
    (repeat refine aG ?_);refine aW 0 [0,1,2,3,4,5,6,7] [0,0,0,0,0,0,0,0] mixed (by kernel_rfl) ?_
    repeat refine yXh ?_
    refine fJ (vs:=eR s) rfl rfl rfl (Ones.one s) (bDK (rows:=rows1) (i:=i) (r':=upR (gt rows1 (i:Int)) j s) (by omega)) (StAts.app (StAts.r (enc:=eR) (ms:=(gt rows1 (i:Int)).es) (i:=(j:Int)) s (by omega) rfl)) rfl rfl ⟨okF,?_⟩
    rw [aIT]
    refine bQ (φ:=bL s K) (Hv.q (k:=t*(k0+m+1)) aA hu) ?_
    refine bQ (φ:=iG (upS rows1 i j s) K) (Hv.upS hs1 hiR aA aA) ?_
    rw [←aFB (i:=i) (j:=j) (e:=s) hs1 hiR]
    repeat refine aB ?_
    refine gL (D - (j+1)) (⟨j+1,upS rows1 i j s,by omega,rfl,hs1.up hiR,hp1.up hs1 hiR hjD (fun x y hx hy=>?_),rfl,rfl,rfl⟩)
    try dsimp only
    by_cases e1:x=i∧y=j
    ·rw [if_pos e1,if_pos (by omega),hsq,e1.1,e1.2]
    ·rw [if_neg e1]
     by_cases e2:x < i∨(x=i∧y < j)
     ·rw [if_pos e2,if_pos (by omega)]
     ·rw [if_neg e2,if_neg (by omega)]
  ·obtain rfl:j=D:=by omega
   repeat refine aB ?_
   refine gL (R - (i+1)) (⟨i+1,rows1,by omega,rfl,hs1,fun x y hx hy=>?_,rfl,rfl,rfl⟩)
   have h_:=hp1 x y hx hy
   dsimp only at h_ ⊢
   rw [h_]
   by_cases e2:x < i+1
   ·rw [if_pos e2,if_pos (by omega)]
   ·rw [if_neg e2,if_neg (by omega)]
 ·obtain rfl:i=R:=by omega
  repeat refine aB ?_
  refine aU (by first|exact .inl rfl|exact .inr rfl) rfl rfl _ _ aF aC (⟨bo,co,tlo,rows,rfl,hco,hs,fun x y hx hy=>by (have h_:=hp x y hx hy;dsimp only at h_ ⊢;rw [h_,if_pos hx]),rfl,rfl⟩)
theorem le_kc {C k0 m:Nat} (hC:C≤64) (hk:k0+m≤700000000):C*(k0+m+1)≤50000000000:=Nat.le_trans (Nat.mul_le_mul hC (show k0+m+1≤700000001 by omega)) (by decide)
theorem aGP {x:RL} {n k0:Nat} (hn:n≤100) (hl:x.es.length=n) (hx:iN x k0∈I0):CD Tryz.prog 144 [lv x] X w0 M0 I0 (XQ (xE n 1 (fun i _=>x.q.getD i 0)) n 1 k0 M0 I0):=by
 refine aV (φ:=aI (x).p (recs eR (x).es)) (Hv.lsl aA) ?_
 refine aR Tryz.func144 rfl Tryz.ntmps144 rfl ?_
 repeat refine aB ?_
 (refine gK (cs:=recs eL []) ([]) rfl (fun bo=>?_);refine fM (mm:=0) 1 .here rfl (by omega) ?_)
 repeat refine aB ?_
 refine bG (φ:=dX [] k0) Hv.nilL ?_
 refine bX [0] rfl (fun k G M I=>∃(i:Nat) (rs:List RL) (q:Option Addr) (c:Nat),i≤n∧k=n - i∧rs.length=i∧(∀r∈rs,r.es.length=1)∧rs.map RL.q=(List.range i).map (fun t=>[x.q.getD t 0])∧G=[(3, .slice q rs.length c),(4, .int .i64 i)]∧M= .row q rs.length c (recs eL rs) 70 1::M0∧I=dX rs k0::aI x.p (recs eR x.es)::I0) (n) _ _ _ dB aF aC (⟨0,[],_,_,by omega,rfl,rfl,by simp,rfl,rfl,rfl,rfl⟩) ?_
 rintro kk G M I ⟨i,rs,q,c,hi,rfl,hrl,hrc,hrq,rfl,rfl,rfl⟩
 by_cases hin:i < n
 ·obtain ⟨s,hse⟩:∃s,gt x.es (i:Int)=s:=⟨_,rfl⟩
  have hv:∀I,iN x k0∈I→Hv I (bL s k0):=fun I h=>by rw [←hse];exact Hv.lel h (by omega)
  have hqs:=iK (es:=x.es) (j:=i) (by omega)
  rw [hse] at hqs
  repeat refine aB ?_
  rw [hse]
  refine bQ (φ:=bL s k0) (hv _ aA) ?_
  refine bQ (φ:=aP [] k0) Hv.nilR ?_
  refine bQ (φ:=aP ([]++[s]) k0) (Hv.snoc aA aA) ?_
  rw [List.nil_append]
  refine gK (cs:=recs eR [s]) ([rv s]) rfl (fun b=>?_)
  refine fM (mm:=1) 4 .here rfl (by omega) ?_
  refine aJG (es:=[s]) (k:=k0) aA ?_
  repeat refine aB ?_
  refine gK (cs:=recs eL [(⟨some ⟨b,0,none⟩,1,[s]⟩:RL)]) ([lv (⟨some ⟨b,0,none⟩,1,[s]⟩:RL)]) rfl (fun b2=>?_)
  refine wM (ys:=[(⟨some ⟨b,0,none⟩,1,[s]⟩:RL)]) 1 rfl rfl rfl (fun q2 c2=>?_)
  repeat refine aB ?_
  refine dF (φ:=dX (rs++[(⟨some ⟨b,0,none⟩,1,[s]⟩:RL)]) k0) (Hv.snocL aA aA) ?_
  refine gL (n - (i+1)) (⟨i+1,rs++[(⟨some ⟨b,0,none⟩,1,[s]⟩:RL)],q2,c2,by omega,rfl,by simp [hrl],fun r hr=>?_,?_,rfl,rfl,rfl⟩)
  ·rcases List.mem_append.1 hr with h|h
   ·exact hrc r h
   ·rw [List.mem_singleton.1 h];rfl
  ·rw [aYT,hrq,List.range_succ,List.map_append]
   show _++[[s.q]]=_++[[x.q.getD i 0]]
   rw [hqs]
 ·obtain rfl:i=n:=by omega
  repeat refine aB ?_
  refine aFF aA ?_
  refine iR rfl rfl (⟨rfl,⟨q,c,rs⟩,rfl,?_,⟨hrl,hrc⟩,rfl⟩)
  show rs.map RL.q=_
  rw [hrq]
  unfold xE
  apply List.map_congr_left
  intro a _
  rfl
theorem aVG {a:MX} {R C k0:Nat} (hR:R≤100) (hC:1≤C) (da:a.dim R C) (ha:gI a k0∈I0):CD Tryz.prog 263 [mv a] X w0 M0 I0 (LQ ((List.range R).map (fun i=>at2 a.q i 0)) k0 M0 I0):=by
 have lR:=da.1
 refine aV (φ:=aI (a).p (recs eL (a).rows)) (Hv.xsl aA) ?_
 refine aR Tryz.func263 rfl Tryz.ntmps263 rfl ?_
 repeat refine aB ?_
 (refine gK (cs:=recs eR []) ([]) rfl (fun bo=>?_);refine fM (mm:=0) 4 .here rfl (by omega) ?_)
 repeat refine aB ?_
 refine bG (φ:=aP [] k0) Hv.nilR ?_
 refine bX [0] rfl (fun k G M I=>∃(i:Nat) (es:List RE) (q:Option Addr) (c:Nat),i≤R∧k=R - i∧es.length=i∧qs es=(List.range i).map (fun i=>at2 a.q i 0)∧G=[(3, .slice q es.length c),(4, .int .i64 i)]∧M= .row q es.length c (recs eR es) 77 4::M0∧I=aP es k0::aI a.p (recs eL a.rows)::I0) (R) _ _ _ dB aF aC (⟨0,[],_,_,by omega,rfl,rfl,rfl,rfl,rfl,rfl⟩) ?_
 rintro kk G M I ⟨i,es,q,c,hi,rfl,hel,heq,rfl,rfl,rfl⟩
 by_cases hiR:i < R
 ·have hra:=da.row hiR
  refine bG (φ:=aI (gt (a).rows (i:Int)).p (recs eR (gt (a).rows (i:Int)).es)) (Hv.xrsl aA (by omega)) ?_
  obtain ⟨s,hse⟩:∃s,gt (gt a.rows (i:Int)).es 0=s:=⟨_,rfl⟩
  have hv:∀I,gI a k0∈I→Hv I (bL s k0):=fun I h=>by rw [←hse];exact Hv.xel h (by omega) (by omega)
  have hat:at2 a.q i 0=s.q:=by rw [←hse];exact oQ (m:=a) (i:=i) (j:=0) (by omega) (by omega)
  repeat refine aB ?_
  rw [hse]
  refine bQ (φ:=bL s k0) (hv _ aA) ?_
  refine gK (cs:=recs eR [s]) ([rv s]) rfl (fun b=>?_)
  refine wM (ys:=[s]) 1 rfl rfl rfl (fun q2 c2=>?_)
  repeat refine aB ?_
  refine dF (φ:=aP (es++[s]) k0) (Hv.snoc aA aA) ?_
  refine gL (R - (i+1)) (⟨i+1,es++[s],q2,c2,by omega,rfl,by simp;omega,?_,rfl,rfl,rfl⟩)
  show (es++[s]).map RE.q=_
  rw [List.map_append,List.range_succ,List.map_append,←heq]
  show qs es++[s.q]=qs es++[at2 a.q i 0]
  rw [hat]
 ·obtain rfl:i=R:=by omega
  repeat refine aB ?_
  refine aEK aA ?_
  refine iR rfl rfl (⟨rfl,⟨q,c,es⟩,rfl,heq,rfl⟩)
theorem aNN {a:MX} {x:RL} {R C k0 m:Nat} (hk:k0+m≤20000000000) (hKK:C*(k0+m+1)≤50000000000) (hR:1≤R∧R≤64) (hC:1≤C∧C≤64) (da:a.dim R C) (hl:x.es.length=C) (ha:gI a k0∈I0) (hx:iN x m∈I0):
  CD Tryz.prog 217 [mv a,lv x] X w0 M0 I0 (LQ ((List.range R).map (fun i=>sm C (fun t=>at2 a.q i t*x.q.getD t 0))) (C*(k0+m+1)) M0 I0):=by
 have hCo:=fun M0 I0 h=>aGP (X:=X) (w0:=w0) (M0:=M0) (I0:=I0) (x:=x) (n:=C) (k0:=m) (by omega) hl h
 have hMu:=fun (y:MX) (hy:y.dim C 1) M0 I0 h1 h2=>CD_ms (aUG (X:=X) (w0:=w0) (M0:=M0) (I0:=I0) (a:=a) (b:=y) (R:=R) (C:=C) (D:=1) (k0:=k0) (m:=m) hk hKK hR hC (by omega) da hy h1 h2)
 have hFi:=fun (y:MX) (hy:y.dim R 1) M0 I0 h1=>aVG (X:=X) (w0:=w0) (M0:=M0) (I0:=I0) (a:=y) (R:=R) (C:=1) (k0:=C*(k0+m+1)) (by omega) (by omega) hy h1
 refine aM Tryz.func217 rfl Tryz.ntmps217 rfl ?_
 repeat refine aB ?_
 (refine bD rfl (hCo _ _ aA) ?_;rintro _ _ _ ⟨rfl,y,rfl,hy,hyd,rfl⟩;refine aN ?_)
 (refine bD rfl (hMu y hyd _ _ aA aA) ?_;rintro _ _ _ ⟨rfl,z,rfl,hz,hzd,rfl⟩;refine aN ?_)
 (refine bD rfl (hFi z hzd _ _ aA) ?_;rintro _ _ _ ⟨rfl,r,rfl,hr,rfl⟩;refine aN ?_)
 repeat refine aB ?_
 refine iR rfl rfl (⟨rfl,r,rfl,?_,rfl⟩)
 rw [hr]
 apply List.map_congr_left
 intro i hi
 rw [hz,qY (List.mem_range.1 hi) (by omega)]
 exact aZ (fun t ht=>by rw [hy,qY ht (by omega)])
theorem aTE {a:MX} {x:RL} {R C k0 m:Nat} (hk:k0+m≤700000000) (hm:m≤600000000) (hR:1≤R∧R≤64) (hC:1≤C∧C≤64) (da:a.dim R C) (hl:x.es.length=C) (ha:gI a k0∈I0) (hx:iN x m∈I0):
  CD Tryz.prog 217 [mv a,lv x] X w0 M0 I0 (LQ ((List.range R).map (fun i=>sm C (fun t=>at2 a.q i t*x.q.getD t 0))) (C*(k0+m+1)) M0 I0):=aNN (by omega) (le_kc hC.2 hk) hR hC da hl ha hx
end
structure IL where
 p:Option Addr
 c:Nat
 xs:List Int
instance:Inhabited IL:=⟨⟨none,0,[]⟩⟩
abbrev eIL (r:IL):List Value:=[.slice r.p r.xs.length r.c]
abbrev ivL (r:IL):Value:= .slice r.p r.xs.length r.c
instance:Sized eIL 1:=⟨fun _=>rfl⟩
instance:Ones eIL:=⟨fun m u hu=>by simp only [eIL,List.mem_cons,List.not_mem_nil,or_false] at hu;subst hu;rfl⟩
/- ---------- IndexFunc, ContainsFunc of [][]int ---------- -/
section
variable {X:List Nat} {w0:World} {M0:List Ent} {I0:List aL}
end
theorem q_ext {x y:RL} (hl:x.es.length=y.es.length) (h:∀j:Nat,j < x.es.length→(gt x.es (j:Int)).q=(gt y.es (j:Int)).q):x.q=y.q:=by
 apply rR
 ·simp [hl]
 ·intro t ht
  have ht':t < x.es.length:=by simpa using ht
  rw [iK ht',iK (by omega)]
  exact h t ht'
theorem q_at {x y:RL} (h:x.q=y.q) {j:Nat} (hj:j < x.es.length):(gt x.es (j:Int)).q=(gt y.es (j:Int)).q:=by
 have hl:x.es.length=y.es.length:=by have:=congrArg List.length h;simpa using this
 rw [←iK hj,←iK (by omega)]
 exact congrArg (fun l=>List.getD l j 0) h
section
variable {X:List Nat} {w0:World} {M0:List Ent} {I0:List aL}
theorem bFN {a b:MX} (hl:a.rows.length=b.rows.length) (h:∀j:Nat,j < a.rows.length→(gt a.rows (j:Int)).q=(gt b.rows (j:Int)).q):a.q=b.q:=by
 apply List.ext_getElem
 ·simp [hl]
 ·intro j h1 h2
  have hj:j < a.rows.length:=by simpa using h1
  have:=h j hj
  rw [dP hj,dP (by omega)] at this
  simpa using this
theorem bEH {a b:MX} (h:a.q=b.q) {j:Nat} (hj:j < a.rows.length):(gt a.rows (j:Int)).q=(gt b.rows (j:Int)).q:=by
 have hl:a.rows.length=b.rows.length:=by have:=congrArg List.length h;simpa using this
 rw [←aDH hj,←aDH (by omega),h]
end
structure AllIL (rows:List IL) (X:List Nat) (w:World):Prop where
 go:∀r∈rows,Sl X w r.p (recs (eI .i64) r.xs)
abbrev allIL (rows:List IL):aL:=AllIL rows
instance (rows:List IL):Fx.Good (AllIL rows):=⟨fun X Y w w' h he hY=>⟨fun r hm=>Sl.carry (h.go r hm) he hY⟩⟩
abbrev bxI (b:Nat) (q:Option Addr) (n c:Nat):aL:=aI (some ⟨b,0,none⟩) [.slice q n c]
section
variable {X:List Nat} {w0:World} {M0:List Ent} {I0:List aL}
end
def kA:Mt:=[[((2:Int):Rat),((1:Int):Rat)],[((1:Int):Rat),((1:Int):Rat)]]
def kC:Mt:=[[((1:Int):Rat),((-1:Int):Rat)],[((-1:Int):Rat),((2:Int):Rat)]]
section
variable {X:List Nat} {w0:World} {M0:List Ent} {I0:List aL}
end
end Go.Proofs.YtmmmfphealhapaaGreat
namespace Go.Fx
open Go.ChangeShapes Go.WideShapes Go.RowKit Go.ChangeAt
section
variable {H:Type} {enc:TypeId × Value→H} {P:Program} {W:World}
theorem aKP {sz:Nat}:∀(rows:List (List Value)) (k:Nat) (v:Value),(∀r∈rows,r.length=sz)→rows.flatten[k]?=some v→∃i row,rows[i]?=some row∧i*sz≤k∧row[k - i*sz]?=some v
 |[],k,v,_,h=>by simp at h
 |r::rows,k,v,hr,h=>by
  rw [List.flatten_cons] at h
  have hl:=hr r (by simp)
  by_cases hk:k < r.length
  ·rw [List.getElem?_append_left hk] at h
   exact ⟨0,r,by simp,by omega,by simpa using h⟩
  ·rw [List.getElem?_append_right (by omega)] at h
   obtain ⟨i,row,h1,h2,h3⟩:=aKP rows _ v (fun r' hr'=>hr r' (by simp [hr'])) h
   refine ⟨i+1,row,by simpa using h1,by rw [Nat.add_mul];omega,?_⟩
   rw [←h3]
   congr 1
   rw [Nat.add_mul];omega
theorem aSG {base fuel:Nat} {t e:TypeId} {v:Value} {x:DataW H × List MemPlace} (ht:P.underlying t=some (.slice e)) (hv:Value.okWide P W .any base t v) (h:DataW.trod enc P W 0 (fun _=>true) true fuel t v.cells.toList=some x):
  ∃(a:Option Addr) (len c:Nat),v= .slice a len c∧(len:Int)≤9223372036854775807∧len≤c∧(Ok a∨(a=none∧len=0∧c=0))∧
   ∃rows:List (List Value),rows.length=len∧(∀r∈rows,r.length=P.cellsOf e∧∃n y,DataW.trod enc P W 0 (fun _=>true) true n e r=some y)∧Sl [] W a rows.flatten:=by
 obtain ⟨a,len,c,rfl⟩:=okWide_slice ht hv
 obtain ⟨h1,h2,h3⟩:=aWD ht hv
 refine ⟨a,len,c,rfl,h1,h2,h3,?_⟩
 rcases DataW.trod_slice ht h with ⟨hcs,_⟩|⟨a',len',cap',elems,rest,n,_,hcs,_,_,_,_,hlen,hel,_,_⟩
 ·simp [Value.cells] at hcs
  obtain ⟨rfl,rfl,rfl⟩:=hcs
  exact ⟨[],rfl,by simp,Sl.nil _ _ _⟩
 ·simp [Value.cells] at hcs
  obtain ⟨rfl,rfl,rfl⟩:=hcs
  have hok:Ok (some a'):=h3.resolve_right (by simp)
  have each:∀i,i < len→∃cs y,W.cells? 0 (a'.add (i*P.cellsOf e)) (P.cellsOf e)=some cs∧DataW.trod enc P W 0 (fun _=>true) true n e cs=some y:=fun i hi=>by
   have:=hel i hi
   rw [List.getElem?_eq_getElem (by omega),Option.bind_eq_some_iff] at this
   obtain ⟨cs,h1,h2⟩:=this
   exact ⟨cs,_,h1,h2⟩
  refine ⟨(List.range len).map (fun i=>(W.cells? 0 (a'.add (i*P.cellsOf e)) (P.cellsOf e)).getD []),by simp,?_,?_⟩
  ·intro r hr
   obtain ⟨i,hi,rfl⟩:=List.mem_map.1 hr
   obtain ⟨cs,y,h4,h5⟩:=each i (by simpa using hi)
   rw [h4]
   exact ⟨(World.cells?_some h4).2.1,n,y,h5⟩
  ·intro j v hj
   have hall:∀r∈(List.range len).map (fun i=>(W.cells? 0 (a'.add (i*P.cellsOf e)) (P.cellsOf e)).getD []),r.length=P.cellsOf e:=by
    intro r hr
    obtain ⟨i,hi,rfl⟩:=List.mem_map.1 hr
    obtain ⟨cs,y,h4,h5⟩:=each i (by simpa using hi)
    rw [h4]
    exact (World.cells?_some h4).2.1
   obtain ⟨i,row,h4,h5,h6⟩:=aKP _ j v hall hj
   rw [List.getElem?_map] at h4
   obtain ⟨i',hi',rfl⟩:=Option.map_eq_some_iff.1 h4
   have hii:i'=i∧i < len:=by
    obtain ⟨q1,q2⟩:=List.getElem?_eq_some_iff.1 hi'
    rw [List.getElem_range] at q2
    exact ⟨q2.symm,by simpa using q1⟩
   obtain ⟨rfl,hil⟩:=hii
   obtain ⟨cs,y,h7,h8⟩:=each i' hil
   rw [h7] at h6
   simp only [Option.getD_some] at h6
   obtain ⟨_,hl,hc⟩:=World.cells?_some h7
   have hlt:j - i'*P.cellsOf e < P.cellsOf e:=by
    have:=(List.getElem?_eq_some_iff.1 h6).1
    omega
   have hcell:=hc _ hlt
   rw [h6] at hcell
   refine ⟨hok,by simp,?_⟩
   obtain ⟨b,o,eq⟩:=hok.cases
   injection eq with eq
   subst eq
   rw [add_lit,add_lit] at hcell
   rw [←hcell]
   simp only [pt,bl,of,Option.getD_some]
   congr 2
   omega
theorem aKH {α:Type} {en:α→List Value} {Pm:α→Prop} {base:Nat} {t e:TypeId} {v:Value} {d:DataW H} {p:List MemPlace} (ht:P.underlying t=some (.slice e)) (hdec:∀(r:List Value) n y,r.length=P.cellsOf e→DataW.trod enc P W 0 (fun _=>true) true n e r=some y→∃m,r=en m∧Pm m)
  (hv:Value.okWide P W .any base t v) (h:DataW.Trod enc P W 0 (fun _=>true) true t v d p):
  ∃(a:Option Addr) (ms:List α) (c:Nat),v= .slice a ms.length c∧Sl [] W a (recs en ms)∧(∀m∈ms,Pm m)∧(ms.length:Int)≤9223372036854775807∧ms.length≤c∧(Ok a∨(a=none∧ms.length=0∧c=0)):=by
 obtain ⟨fuel,hf⟩:=h
 obtain ⟨a,len,c,rfl,h1,h2,h3,rows,hl,hr,hs⟩:=aSG ht hv hf
 have key:∀rows:List (List Value),(∀r∈rows,r.length=P.cellsOf e∧∃n y,DataW.trod enc P W 0 (fun _=>true) true n e r=some y)→∃ms:List α,rows=ms.map en∧∀m∈ms,Pm m:=by
  intro rows
  induction rows with
  |nil=>intro _;exact ⟨[],rfl,by simp⟩
  |cons r rows ih=>
   intro hr
   obtain ⟨hrl,n,y,hy⟩:=hr r (by simp)
   obtain ⟨m,rfl,hm⟩:=hdec r n y hrl hy
   obtain ⟨ms,rfl,hms⟩:=ih (fun r' hr'=>hr r' (by simp [hr']))
   exact ⟨m::ms,rfl,fun m' hm'=>by
    rcases List.mem_cons.1 hm' with rfl|hm'
    ·exact hm
    ·exact hms m' hm'⟩
 obtain ⟨ms,rfl,hms⟩:=key rows hr
 have hlen:ms.length=len:=by simpa using hl
 subst hlen
 refine ⟨a,ms,c,rfl,?_,hms,h1,h2,h3⟩
 rw [←List.flatMap_def] at hs
 exact hs
theorem aLR {base:Nat} {t:TypeId} {v:Value} {d:DataW H} {p:List MemPlace} {fs:Array Field} (ht:P.underlying t=some (.struct fs)) (hv:Value.okWide P W .any base t v) (h:DataW.Trod enc P W 0 (fun _=>true) true t v d p):
  ∃cs:List Value,v= .agg cs.toArray∧cs.length=P.cellsOf t∧Row.okWide P W .any base t cs.toArray∧∀(i:Nat) (f:Field),fs[i]?=some f→∃n y,DataW.trod enc P W 0 (fun _=>true) true n f.type ((cs.drop f.offset).take (P.cellsOf f.type))=some y:=by
 simp only [Value.okWide,ht] at hv
 obtain ⟨cs,rfl,hsz,hrow⟩:=hv
 obtain ⟨fuel,hf⟩:=h
 obtain ⟨xs,n,rfl,_,hl,hxl,hx⟩:=DataW.trod_struct ht hf
 refine ⟨cs.toList,by simp,by simpa using hsz,by simpa using hrow,fun i f hfi=>?_⟩
 have hi:i < fs.size:=(Array.getElem?_eq_some_iff.1 hfi).1
 have:=hx i f hfi
 rw [List.getElem?_eq_getElem (by omega)] at this
 exact ⟨n,_,this⟩
theorem zZ {t:TypeId} {k:IntKind} {n:Nat} {cs:List Value} {y:DataW H × List MemPlace} (ht:P.underlying t=some (.int k)) (h:DataW.trod enc P W 0 (fun _=>true) true n t cs=some y):∃x:Int,cs=[.int k x]∧(Lit.int k x).wf=true:=by
 obtain ⟨m,h1,_,h2⟩:=DataW.trod_int ht h
 exact ⟨m,h1,h2⟩
theorem aWB {t:TypeId} {k:IntKind} {m n:Nat} {cs:List Value} {y:DataW H × List MemPlace} {fs:Array Field} (ht:P.underlying t=some (.struct fs)) (hf:fs.toList.map (fun (f:Field)=>(f.offset,P.cellsOf f.type))=(List.range m).map (fun i=>(i,1))) (hk:∀f∈fs.toList,P.underlying f.type=some (.int k)) (hl:cs.length=m)
  (h:DataW.trod enc P W 0 (fun _=>true) true n t cs=some y):∃xs:List Int,cs=xs.map (Value.int k)∧xs.length=m∧∀x∈xs,(Lit.int k x).wf=true:=by
 obtain ⟨zs,n',rfl,_,_,hzl,hz⟩:=DataW.trod_struct ht h
 have each:∀i,i < m→∃x:Int,cs[i]?=some (.int k x)∧(Lit.int k x).wf=true:=fun i hi=>by
  have hsz:fs.toList.length=m:=by have:=congrArg List.length hf;simpa using this
  obtain ⟨f,hfi⟩:∃f,fs.toList[i]?=some f:=⟨_,List.getElem?_eq_getElem (by omega)⟩
  have hoff:(f.offset,P.cellsOf f.type)=(i,1):=by
   have:(fs.toList.map (fun f=>(f.offset,P.cellsOf f.type)))[i]?=some (f.offset,P.cellsOf f.type):=by rw [List.getElem?_map,hfi];rfl
   rw [hf,List.getElem?_map,List.getElem?_range hi] at this
   simpa using this.symm
  injection hoff with ho hc
  have hf2:fs[i]?=some f:=by simpa using hfi
  have:=hz i f hf2
  rw [List.getElem?_eq_getElem (by rw [hzl];exact (Array.getElem?_eq_some_iff.1 hf2).1),ho,hc] at this
  obtain ⟨x,hx,hw⟩:=zZ (hk f (List.mem_of_getElem? hfi)) this
  refine ⟨x,?_,hw⟩
  have:((cs.drop i).take 1)[0]?=some (.int k x):=by rw [hx];rfl
  rw [List.getElem?_take,if_pos (by omega),List.getElem?_drop] at this
  simpa using this
 refine ⟨cs.map (fun v=>match v with| .int _ x=>x|_=>0),?_,by simpa using hl,?_⟩
 ·apply List.ext_getElem
  ·simp
  ·intro i h1 h2
   obtain ⟨x,hx,_⟩:=each i (by omega)
   have:cs[i]= .int k x:=by
    have:=(List.getElem?_eq_some_iff.1 hx).2
    exact this
   simp [this]
 ·intro x hx
  obtain ⟨v,hv,rfl⟩:=List.mem_map.1 hx
  obtain ⟨i,hi,rfl⟩:=List.mem_iff_getElem.1 hv
  obtain ⟨y,hy,hw⟩:=each i (by omega)
  have:cs[i]= .int k y:=(List.getElem?_eq_some_iff.1 hy).2
  rw [this]
  exact hw
theorem Mem.startS {W:World} {I:List aL} {a:Option Addr} {cs:List Value} (h:Mem [] W [] I W) (hs:Sl [] W a cs):Mem [] W [] (aI a cs::I) W:=h.add (φ:=aI a cs) ⟨hs⟩
end
end Go.Fx
namespace Go.Proofs.YtmmmfphealhapaaGreat
open Go Go.Fx
open Go.ChangeShapes Go.WideShapes Go.RowKit Go.ChangeAt
section
variable {H:Type} {enc:TypeId × Value→H} {P:Program} {W:World}
theorem aZH {tr t0 t1:TypeId} {fr:Array Field} {m k n:Nat} {cs:List Value} {y:DataW H × List MemPlace} (hr:P.underlying tr=some (.struct fr)) (hfr:fr.toList.map (fun f=>(f.offset,f.type))=[(0,t0),(m,t1)]) (cm:P.cellsOf t0=m) (ck:P.cellsOf t1=k) (c5:P.cellsOf tr=m+k) (h:DataW.trod enc P W 0 (fun _=>true) true n tr cs=some y):
  cs.length=m+k∧∃n' z0 z1,DataW.trod enc P W 0 (fun _=>true) true n' t0 (cs.take m)=some z0∧DataW.trod enc P W 0 (fun _=>true) true n' t1 (cs.drop m)=some z1:=by
 obtain ⟨zs,n',rfl,rfl,hl,hzl,hz⟩:=DataW.trod_struct hr h
 have hsz:fr.toList.length=2:=by have:=congrArg List.length hfr;simpa using this
 obtain ⟨f0,f1,hfs⟩:∃f0 f1,fr.toList=[f0,f1]:=by
  match hh:fr.toList,hsz with
  |[a,b],_=>exact ⟨a,b,rfl⟩
 rw [hfs] at hfr
 simp only [List.map_cons,List.map_nil,List.cons.injEq,Prod.mk.injEq,and_true] at hfr
 obtain ⟨⟨o0,e0⟩,o1,e1⟩:=hfr
 rw [c5] at hl
 have hg0:fr[0]?=some f0:=by rw [←Array.getElem?_toList,hfs];rfl
 have hg1:fr[1]?=some f1:=by rw [←Array.getElem?_toList,hfs];rfl
 have h0:=hz 0 f0 hg0
 have h1:=hz 1 f1 hg1
 rw [o0,e0,cm] at h0
 rw [o1,e1,ck] at h1
 have hz2:zs.length=2:=by rw [hzl];simpa using hsz
 obtain ⟨z0,z1,rfl⟩:∃z0 z1,zs=[z0,z1]:=by
  match zs,hz2 with
  |[a,b],_=>exact ⟨a,b,rfl⟩
 simp only [List.drop_zero,List.getElem?_cons_zero,List.getElem?_cons_succ] at h0 h1
 rw [List.take_of_length_le (l:=cs.drop m) (by simp;omega)] at h1
 exact ⟨hl,n',z0,z1,h0,h1⟩
end
section
variable {H:Type} {enc:TypeId × Value→H} {W:World}
end
end Go.Proofs.YtmmmfphealhapaaGreat
namespace Go.Proofs.YtmmmfphealhapaaGreat
open Go Go.Fx
structure V3 where
 x:Rat
 y:Rat
 z:Rat
def V3.dot (a b:V3):Rat:=a.x*b.x+a.y*b.y+a.z*b.z
def V3.sub (a b:V3):V3:=⟨a.x - b.x,a.y - b.y,a.z - b.z⟩
def V3.along (a:V3) (s:Rat) (b:V3):V3:=⟨a.x+s*b.x,a.y+s*b.y,a.z+s*b.z⟩
structure TE where
 x:RE
 y:RE
 z:RE
instance:Inhabited TE:=⟨⟨default,default,default⟩⟩
abbrev eT (p:TE):List Value:=recs eR [p.x,p.y,p.z]
abbrev tv (p:TE):Value:= .agg (recs eR [p.x,p.y,p.z]).toArray
instance:Sized eT 12:=⟨fun _=>rfl⟩
instance:Ones eT:=⟨fun m u hu=>uP _ u hu⟩
def TE.v (p:TE):V3:=⟨p.x.q,p.y.q,p.z.q⟩
structure IsT (p:TE) (k:Nat) (X:List Nat) (w:World):Prop where
 x:IsR p.x k X w
 y:IsR p.y k X w
 z:IsR p.z k X w
abbrev isT (p:TE) (k:Nat):aL:=IsT p k
instance (p:TE) (k:Nat):Fx.Good (IsT p k):=⟨fun X Y w w' h he hY=>⟨Fx.Good.go (φ:=IsR _ _) X Y w w' h.x he hY,Fx.Good.go (φ:=IsR _ _) X Y w w' h.y he hY,Fx.Good.go (φ:=IsR _ _) X Y w w' h.z he hY⟩⟩
theorem Hv.mkT {I:List aL} {a b c:RE} {k:Nat} (ha:Hv I (bL a k)) (hb:Hv I (bL b k)) (hc:Hv I (bL c k)):Hv I (isT ⟨a,b,c⟩ k):=⟨fun X w hw=>⟨ha.go X w hw,hb.go X w hw,hc.go X w hw⟩⟩
def TE.l (p:TE) (b:Nat):RL:=⟨some ⟨b,0,none⟩,3,[p.x,p.y,p.z]⟩
theorem Hv.tl {I:List aL} {p:TE} {b k:Nat} (h:Hv I (isT p k)) (hs:aI (some ⟨b,0,none⟩) (eT p)∈I):Hv I (iN (p.l b) k):=⟨fun X w hw=>⟨(hw _ hs:SlI _ _ X w).go,fun e he=>by
 have h1:=h.go X w hw
 have he:e∈[p.x,p.y,p.z]:=he
 simp only [List.mem_cons,List.not_mem_nil,or_false] at he
 rcases he with rfl|rfl|rfl
 ·exact h1.x
 ·exact h1.y
 ·exact h1.z,⟨Nat.le_refl 3, .inl (Ok.mk _ _)⟩⟩⟩
def TQ (q:V3) (k:Nat) (M0:List Ent) (I0:List aL) (v:Value) (M:List Ent) (I:List aL):Prop:=M0=M∧∃p:TE,v=tv p∧p.v=q∧I=isT p k::I0
section
variable {X:List Nat} {w0:World} {M0:List Ent} {I0:List aL}
end
theorem Hv.r3 {I:List aL} {a b c:RE} {k:Nat} (ha:Hv I (bL a k)) (hb:Hv I (bL b k)) (hc:Hv I (bL c k)):Hv I (aP [a,b,c] k):=⟨fun X w hw=>⟨fun x hx=>by
 simp only [List.mem_cons,List.not_mem_nil,or_false] at hx
 rcases hx with rfl|rfl|rfl
 ·exact ha.go X w hw
 ·exact hb.go X w hw
 ·exact hc.go X w hw⟩⟩
theorem Hv.l3q {I:List aL} {a b c:RL} {k:Nat} (ha:Hv I (iN a k)) (hb:Hv I (iN b k)) (hc:Hv I (iN c k)):Hv I (dX [a,b,c] k):=⟨fun X w hw=>⟨fun x hx=>by
 simp only [List.mem_cons,List.not_mem_nil,or_false] at hx
 rcases hx with rfl|rfl|rfl
 ·exact ha.go X w hw
 ·exact hb.go X w hw
 ·exact hc.go X w hw⟩⟩
section
variable {X:List Nat} {w0:World} {M0 M1:List Ent} {I0:List aL}
theorem jL {x:Int} (hx: -9223372036854775808≤x∧x≤9223372036854775807) {k:Nat} (hk:x.natAbs≤2 ^ k):CD Tryz.prog 111 [.int .i64 x] X w0 M0 I0 (RQ (x:Rat) k M0 I0):=by
 refine aR Tryz.func111 rfl Tryz.ntmps111 rfl ?_
 refine gG ?_
 refine cK (fun b2=>?_)
 repeat refine aB ?_
 refine fK rfl (vF hx hk) (fun e he=>?_)
 repeat refine aB ?_
 refine aO (cs:=eR e) (.inl rfl) rfl rfl aA rfl M0 (bL e k::I0) aF aC ⟨rfl,e,rfl,he,rfl⟩
theorem aZO {a b:RE} {k m:Nat} (hk:k+m≤500000000000) (hb0:b.q≠0) (ha:Hv I0 (bL a k)) (hb:Hv I0 (bL b m)):
  CD Tryz.prog 191 [rv a,rv b] X w0 M0 I0 (RQ (a.q / b.q) (k+m) M0 I0):=by
 refine aM Tryz.func191 rfl Tryz.ntmps191 rfl ?_
 refine gG ?_
 refine gN rfl (fun b2=>?_)
 refine gN rfl (fun b3=>?_)
 refine cK (fun b4=>?_)
 repeat refine aB ?_
 (refine bD rfl (aFR (k:=k) (m:=m) hk hb0 ha hb) ?_;rintro _ _ _ ⟨rfl,e,rfl,he,rfl⟩;refine aN ?_)
 repeat refine aB ?_
 refine cK (fun b5=>?_)
 repeat refine aB ?_
 refine aO (cs:=eR e) (.inl rfl) rfl rfl aA rfl M0 (bL e (k+m)::I0) aF aC ⟨rfl,e,rfl,he,rfl⟩
theorem aEF {a b:TE} {k:Nat} (ha:Hv I0 (isT a k)) (hb:Hv I0 (isT b k)):
  CD Tryz.prog 248 [tv a,tv b] X w0 M0 I0 (XQ [[a.x.q,a.y.q,a.z.q],[b.x.q,b.y.q,b.z.q],[0,0,1]] 3 3 k M0 I0):=by
 have hW0:=fun M0 I0=>jL (X:=X) (w0:=w0) (M0:=M0) (I0:=I0) (x:=0) (by decide) (k:=0) (by decide)
 have hW1:=fun M0 I0=>jL (X:=X) (w0:=w0) (M0:=M0) (I0:=I0) (x:=1) (by decide) (k:=0) (by decide)
 refine aV (φ:=isT a k) ha (aV (φ:=isT b k) hb.cons ?_)
 refine aM Tryz.func248 rfl Tryz.ntmps248 rfl ?_
 refine gG ?_
 refine gN rfl (fun b2=>?_)
 refine aH .here ?_
 refine gN rfl (fun b3=>?_)
 refine aH .here ?_
 repeat refine aB ?_
 refine bG (φ:=iN (a.l b2) k) (Hv.tl (Hv.mem (φ:=isT a k) aA) aA) ?_
 refine bG (φ:=iN (b.l b3) k) (Hv.tl (Hv.mem (φ:=isT b k) aA) aA) ?_
 (repeat refine aG ?_);refine pW (M0) (iN (b.l b3) k::iN (a.l b2) k::I0) [0,1,2,3,4,5,6,7] [4,4,0,0,0,0,0,0] mixed ?_
 (refine aD rfl (fun _=>rF rfl) rfl rfl ?_)
 (refine aD rfl (fun _=>rF rfl) rfl rfl ?_)
 refine fK rfl (hW0 _ _) (fun e0 he0=>?_)
 refine fK rfl (hW0 _ _) (fun e1 he1=>?_)
 refine fK rfl (hW1 _ _) (fun e2 he2=>?_)
 refine gK (cs:=recs eR [e0,e1,e2]) ([rv e0,rv e1,rv e2]) rfl (fun b5=>?_)
 refine bQ (φ:=aP [e0,e1,e2] k) (Hv.r3 (Hv.q (k:=0) aA (Nat.zero_le _)) (Hv.q (k:=0) aA (Nat.zero_le _)) (Hv.q (k:=0) aA (Nat.zero_le _))) ?_
 refine fM (mm:=3) 4 .here rfl (by omega) ?_
 refine aJG (es:=[e0,e1,e2]) (k:=k) aA ?_
 refine gK (cs:=recs eL [a.l b2,b.l b3,⟨some ⟨b5,0,none⟩,3,[e0,e1,e2]⟩]) ([lv (a.l b2),lv (b.l b3),lv ⟨some ⟨b5,0,none⟩,3,[e0,e1,e2]⟩]) rfl (fun b6=>?_)
 refine bQ (φ:=dX [a.l b2,b.l b3,⟨some ⟨b5,0,none⟩,3,[e0,e1,e2]⟩] k) (Hv.l3q (Hv.mem aA) (Hv.mem aA) (Hv.mem aA)) ?_
 refine fM (mm:=3) 1 .here rfl (by omega) ?_
 refine aYP (rows:=[a.l b2,b.l b3,⟨some ⟨b5,0,none⟩,3,[e0,e1,e2]⟩]) (k:=k) aA ?_
 repeat refine aB ?_
 refine fC (M':=M0) (I':=gI ⟨some ⟨b6,0,none⟩,3,[a.l b2,b.l b3,⟨some ⟨b5,0,none⟩,3,[e0,e1,e2]⟩]⟩ k::I0) aF aC ?_
 refine aU (by first|exact .inl rfl|exact .inr rfl) rfl rfl _ _ aF aC (⟨rfl,⟨some ⟨b6,0,none⟩,3,[a.l b2,b.l b3,⟨some ⟨b5,0,none⟩,3,[e0,e1,e2]⟩]⟩,rfl,by show [_,_,[e0.q,e1.q,e2.q]]=_;rw [he0,he1,he2];rfl,⟨rfl,fun r hr=>by
  simp only [List.mem_cons,List.not_mem_nil,or_false] at hr
  rcases hr with rfl|rfl|rfl <;>rfl⟩,rfl⟩)
end
def wK (pv:List Nat) (z:Nat→Rat):Nat→Rat:=fun j=>if j∈pv then 0 else z j
theorem pY {pv:List Nat} {i:Nat} (h:i < pv.length):pv.getD i 0=pv[i]:=by simp [List.getD,h]
theorem jT {pv:List Nat} {j:Nat}:j∈pv↔∃t,t < pv.length∧pv.getD t 0=j:=by
 rw [List.mem_iff_getElem]
 constructor
 ·rintro ⟨t,ht,e⟩;exact ⟨t,ht,by simp [List.getD,ht,e]⟩
 ·rintro ⟨t,ht,e⟩;exact ⟨t,ht,by simpa [List.getD,ht] using e⟩
theorem Red.piv_lt {R C j:Nat} {f0 f:Nat→Nat→Rat} {pv:List Nat} {s:Rat} (h:Red R C j f0 f pv s) {t:Nat} (ht:t < pv.length):pv.getD t 0 < j:=(h.inc t ht).1
theorem Red.piv_inj {R C j:Nat} {f0 f:Nat→Nat→Rat} {pv:List Nat} {s:Rat} (h:Red R C j f0 f pv s) {t u:Nat} (ht:t < pv.length) (hu:u < pv.length) (e:pv.getD t 0=pv.getD u 0):t=u:=by
 rcases Nat.lt_trichotomy t u with l|l|l
 ·have:=(h.inc u hu).2.2 t l;omega
 ·exact l
 ·have:=(h.inc t ht).2.2 u l;omega
theorem Red.row {R C:Nat} {f0 f:Nat→Nat→Rat} {pv:List Nat} {s:Rat} (h:Red R C C f0 f pv s) {t:Nat} (ht:t < pv.length) (z:Nat→Rat):sm C (fun j=>f t j*z j)=z (pv.getD t 0)+sm C (fun j=>f t j*wK pv z j):=by
 have hR:=h.len
 have h1:sm C (fun j=>f t j*z j)=sm C (fun j=>(f t j*z j - f t j*wK pv z j)+f t j*wK pv z j):=aZ (fun j _=>by grind)
 rw [h1,aJI]
 congr 1
 rw [pX (p:=pv.getD t 0) (h.piv_lt ht) (fun j hj hne=>?_)]
 ·have hm:pv.getD t 0∈pv:=jT.2 ⟨t,ht,rfl⟩
  rw [h.unit t t ht (by omega)]
  simp only [wK,if_pos hm,oF,if_true];grind
 ·by_cases hm:j∈pv
  ·obtain ⟨u,hu,rfl⟩:=jT.1 hm
   have:t≠u:=fun e=>hne (by rw [e])
   rw [h.unit u t hu (by omega)]
   simp only [oF,if_neg this];grind
  ·simp only [wK,if_neg hm];grind
theorem Red.kerE {R C:Nat} {f0 f:Nat→Nat→Rat} {pv:List Nat} {s:Rat} (h:Red R C C f0 f pv s) (z:Nat→Rat):Go.Proofs.YtmmmfphealhapaaGreat.ker R C f0 z↔∀t,t < pv.length→z (pv.getD t 0)+sm C (fun j=>f t j*wK pv z j)=0:=by
 rw [←h.ker z]
 constructor
 ·intro hk t ht
  rw [←h.row ht z];exact hk t (by have:=h.len;omega)
 ·intro hk i hi
  by_cases e:i < pv.length
  ·rw [h.row e z];exact hk i e
  ·exact lV (fun j hj=>by rw [h.zero i j (by omega) hi hj];grind)
theorem hom {m n:Nat} (g:Nat→Nat→Rat) (hmn:m < n):∃w:Nat→Rat,(∀e,e < m→sm n (fun u=>g e u*w u)=0)∧∃u,u < n∧w u≠0:=by
 obtain ⟨_,s,h⟩:=iQ (A:=(List.range m).map (fun i=>(List.range n).map (g i))) (R:=m) (C:=n) ⟨by simp,fun i hi=>by simp [rowAt,List.getD,hi]⟩ n (Nat.le_refl _)
 generalize eQ ((List.range m).map (fun i=>(List.range n).map (g i))) n=st at h
 obtain ⟨E,pv⟩:=st
 simp only at h
 have hg:∀i j,i < m→j < n→at2 ((List.range m).map (fun i=>(List.range n).map (g i))) i j=g i j:=fun i j hi hj=>by simp [at2,rowAt,List.getD,hi,hj]
 have hlen:=h.len
 -- a free place
 have hfree:∃j,j < n∧j ∉ pv:=by
  refine Classical.byContradiction (fun hno=>?_)
  have hall:∀j,j < n→j∈pv:=fun j hj=>Classical.byContradiction (fun hn=>hno ⟨j,hj,hn⟩)
  have:(List.range n).length≤pv.length:=by
   have hsub:∀x∈List.range n,x∈pv:=fun x hx=>hall x (List.mem_range.1 hx)
   exact List.Nodup.length_le_of_subset List.nodup_range hsub
  simp at this;omega
 obtain ⟨j,hj,hjp⟩:=hfree
 refine ⟨fun c=>if c∈pv then - at2 E (pv.idxOf c) j else if c=j then 1 else 0,?_,j,hj,by simp only [if_neg hjp,if_true];decide⟩
 have hk:ker m n (at2 ((List.range m).map (fun i=>(List.range n).map (g i)))) (fun c=>if c∈pv then - at2 E (pv.idxOf c) j else if c=j then 1 else 0):=by
  rw [h.kerE]
  intro t ht
  have hm:pv.getD t 0∈pv:=jT.2 ⟨t,ht,rfl⟩
  have hidx:pv.idxOf (pv.getD t 0)=t:=by
   have h1:pv.idxOf (pv.getD t 0) < pv.length:=List.idxOf_lt_length_of_mem hm
   refine h.piv_inj h1 ht ?_
   have:=List.getElem_idxOf h1
   exact (pY h1).trans this
  simp only [if_pos hm,hidx]
  rw [pX (p:=j) hj (fun c hc hne=>?_)]
  ·simp only [wK,if_neg hjp,if_true];grind
  ·simp only [wK]
   by_cases e:c∈pv
   ·rw [if_pos e];grind
   ·rw [if_neg e,if_neg e,if_neg hne];grind
 intro e he
 refine Eq.trans (aZ (fun u hu=>?_)) (hk e he)
 rw [hg e u he hu]
theorem bCH {R C n:Nat} {f:Nat→Nat→Rat} {Z:Nat→Nat→Rat} {d:Nat→Rat} (h:∀i,i < n→ker R C f (Z i)):ker R C f (fun j=>sm n (fun i=>d i*Z i j)):=fun t ht=>by
 have h1:sm C (fun j=>f t j*sm n (fun i=>d i*Z i j))=sm C (fun j=>sm n (fun i=>d i*(f t j*Z i j))):=aZ (fun j _=>by rw [←jK];exact aZ (fun i _=>by grind))
 rw [h1,sV]
 exact lV (fun i hi=>by rw [jK,h i hi t ht];grind)
theorem bBC {R C:Nat} {f:Nat→Nat→Rat} {x y:Nat→Rat} {c d:Rat} (hx:ker R C f x) (hy:ker R C f y):ker R C f (fun j=>c*x j+d*y j):=fun t ht=>by
 have:∀j,f t j*(c*x j+d*y j)=c*(f t j*x j)+d*(f t j*y j):=fun j=>by grind
 simp only [this]
 rw [aEZ,hx t ht,hy t ht];grind
theorem Red.count {R C m k:Nat} {f0 f:Nat→Nat→Rat} {pv:List Nat} {s:Rat} (h:Red R C C f0 f pv s) (g:Nat→Nat→Rat) (Z:Nat→Nat→Rat)
  (hg:∀z,Go.Proofs.YtmmmfphealhapaaGreat.ker m C g z→Go.Proofs.YtmmmfphealhapaaGreat.ker R C f0 z) (hZ:∀i,i < k→Go.Proofs.YtmmmfphealhapaaGreat.ker R C f0 (Z i))
  (hi:∀d:Nat→Rat,Go.Proofs.YtmmmfphealhapaaGreat.ker m C g (fun j=>sm k (fun i=>d i*Z i j))→∀i,i < k→d i=0):pv.length+k≤m:=by
 refine Classical.byContradiction (fun hlt=>?_)
 obtain ⟨p,hp⟩:∃p,p=pv.length:=⟨_,rfl⟩
 rw [←hp] at hlt
 obtain ⟨w,hw,u,hu,hwu⟩:=hom (m:=m) (n:=p+k) (fun e u=>if u < p then g e (pv.getD u 0) else sm C (fun j=>g e j*Z (u - p) j)) (by omega)
 -- the vector
 obtain ⟨x,hx⟩:∃x:Nat→Rat,x=fun j=>sm p (fun t=>w t*oF (pv.getD t 0) j):=⟨_,rfl⟩
 obtain ⟨y,hy⟩:∃y:Nat→Rat,y=fun j=>sm k (fun i=>w (p+i)*Z i j):=⟨_,rfl⟩
 have kx:∀e,sm C (fun j=>g e j*x j)=sm p (fun t=>g e (pv.getD t 0)*w t):=fun e=>by
  have h1:sm C (fun j=>g e j*x j)=sm C (fun j=>sm p (fun t=>w t*(g e j*oF (pv.getD t 0) j))):=aZ (fun j _=>by rw [hx,←jK];exact aZ (fun i _=>by grind))
  rw [h1,sV]
  refine aZ (fun t ht=>?_)
  rw [jK,pX (p:=pv.getD t 0) (h.piv_lt (by omega)) (fun j _ hne=>by simp only [oF];rw [if_neg (fun e=>hne e.symm)];grind)]
  simp only [oF,if_true];grind
 have ky:∀e,sm C (fun j=>g e j*y j)=sm k (fun i=>sm C (fun j=>g e j*Z i j)*w (p+i)):=fun e=>by
  have h1:sm C (fun j=>g e j*y j)=sm C (fun j=>sm k (fun i=>w (p+i)*(g e j*Z i j))):=aZ (fun j _=>by rw [hy,←jK];exact aZ (fun i _=>by grind))
  rw [h1,sV]
  exact aZ (fun i _=>by rw [jK];grind)
 have kg:Go.Proofs.YtmmmfphealhapaaGreat.ker m C g (fun j=>1*x j+1*y j):=fun e he=>by
  have:∀j,g e j*(1*x j+1*y j)=1*(g e j*x j)+1*(g e j*y j):=fun j=>by grind
  simp only [this]
  rw [aEZ,kx,ky]
  have:=hw e he
  rw [aAG,aZ (n:=p) (g:=fun t=>g e (pv.getD t 0)*w t) (fun t ht=>by rw [if_pos ht]),aZ (n:=k) (g:=fun i=>sm C (fun j=>g e j*Z i j)*w (p+i)) (fun t _=>by rw [if_neg (by omega),Nat.add_sub_cancel_left])] at this
  grind
 have ky0:Go.Proofs.YtmmmfphealhapaaGreat.ker R C f0 y:=by rw [hy];exact bCH (d:=fun i=>w (p+i)) hZ
 have kx0:Go.Proofs.YtmmmfphealhapaaGreat.ker R C f0 x:=by
  have h1:=bBC (c:=1) (d:= -1) (hg _ kg) ky0
  have e:(fun j=>1*(1*x j+1*y j)+ -1*y j)=x:=by funext j;grind
  rwa [e] at h1
 have hx0:∀t,t < p→x (pv.getD t 0)=w t:=fun t ht=>by
  rw [hx]
  show sm p (fun u=>w u*oF (pv.getD u 0) (pv.getD t 0))=_
  rw [pX (p:=t) ht (fun u hu hne=>by simp only [oF];rw [if_neg (fun e=>hne (h.piv_inj (by omega) (by omega) e))];grind)]
  simp only [oF,if_true];grind
 have hoff:∀j,wK pv x j=0:=fun j=>by
  unfold wK
  by_cases e:j∈pv
  ·rw [if_pos e]
  ·rw [if_neg e,hx]
   exact lV (fun t ht=>by simp only [oF];rw [if_neg (fun e'=>e (jT.2 ⟨t,by omega,e'⟩))];grind)
 have hw0:∀t,t < p→w t=0:=fun t ht=>by
  have:=(h.kerE x).1 kx0 t (by omega)
  rw [hx0 t ht,lV (fun j _=>by rw [hoff j];grind)] at this
  grind
 have hxz:∀j,x j=0:=fun j=>by rw [hx];exact lV (fun t ht=>by rw [hw0 t ht];grind)
 have kgy:Go.Proofs.YtmmmfphealhapaaGreat.ker m C g (fun j=>sm k (fun i=>w (p+i)*Z i j)):=by
  have e:(fun j=>1*x j+1*y j)=(fun j=>sm k (fun i=>w (p+i)*Z i j)):=by funext j;rw [hxz j,hy];grind
  rwa [e] at kg
 have hd:=hi (fun i=>w (p+i)) kgy
 by_cases e:u < p
 ·exact hwu (hw0 u e)
 ·have:=hd (u - p) (by omega)
  rw [show p+(u - p)=u by omega] at this
  exact hwu this
theorem Red.kerP {R C:Nat} {f0 f:Nat→Nat→Rat} {pv:List Nat} {s:Rat} (h:Red R C C f0 f pv s) (z:Nat→Rat):Go.Proofs.YtmmmfphealhapaaGreat.ker pv.length C f z↔Go.Proofs.YtmmmfphealhapaaGreat.ker R C f0 z:=by
 rw [h.kerE]
 constructor
 ·intro hk t ht;rw [←h.row ht z];exact hk t ht
 ·intro hk t ht;rw [h.row ht z];exact hk t ht
section
variable {R C R':Nat} {f0 f g0 g:Nat→Nat→Rat} {pv qv:List Nat} {s s':Rat}
theorem Red.le (h:Red R C C f0 f pv s) (h':Red R' C C g0 g qv s') (hk:∀z,Go.Proofs.YtmmmfphealhapaaGreat.ker R' C g0 z→Go.Proofs.YtmmmfphealhapaaGreat.ker R C f0 z):pv.length≤qv.length:=by
 have:=h.count (k:=0) g (fun _ _=>0) (fun z hz=>hk z ((h'.kerP z).1 hz)) (fun i hi=>by omega) (fun d _ i hi=>by omega)
 omega
end
end Go.Proofs.YtmmmfphealhapaaGreat

/- normal: Merge, walked. -/
import Derived.Test.YthhldplegmeolaaGreatZuax
import Derived.Test.YthhldplegmeolaaGreatZuar
import Derived.Test.YthhldplegmeolaaGreatZuaw
set_option linter.unusedSimpArgs false
set_option linter.unusedVariables false
set_option maxRecDepth 100000
set_option maxHeartbeats 4000000
namespace Go.Proofs.YthhldplegmeolaaGreat
open Go Go.Fx
structure Mrg (m m3:LE) (R i:Nat):Prop where
 len:m3.a.rows.length=R∧m3.l.es.length=R∧m3.p.es.length=R
 row:∀t:Nat,t < R→(gt m3.a.rows (t:Int)).es=(gt m.a.rows (t:Int)).es
 ps:∀t:Nat,t < R→(gt m3.p.es (t:Int)).q=if t=i then (gt m.p.es (i:Int)).q+(gt m.p.es (R:Int)).q else (gt m.p.es (t:Int)).q
 ls:∀t:Nat,t < R→(gt m3.l.es (t:Int)).q=if t=i then ((gt m.p.es (i:Int)).q*(gt m.l.es (i:Int)).q+(gt m.p.es (R:Int)).q*(gt m.l.es (R:Int)).q) / ((gt m.p.es (i:Int)).q+(gt m.p.es (R:Int)).q) else (gt m.l.es (t:Int)).q
theorem Hv.rPre {I:List aN} {es a b:List RE} {k j:Nat} (e:es=a++b) (h:aX es k∈I) (hk:k≤j):Hv I (aX a j):=⟨fun X w hw=>⟨fun x hx=>((hw _ h:AllR es k X w).go x (by rw [e];exact List.mem_append_left _ hx)).mono hk⟩⟩
section
variable {X:List Nat} {w0:World} {M0:List Ent} {I0:List aN}
theorem aKG {m:LE} {R i n:Nat} (hi:i < R) (f:m.fit (R+1) n) (he:(gt m.a.rows (i:Int)).es=(gt m.a.rows (R:Int)).es) (h:eU m 30∈I0):
  CD Tryz.prog 8 [wM m, .int .i64 (i:Int), .int .i64 (R:Int)] X w0 M0 I0 (fun v M I=>M0=M∧∃m3:LE,v= .tuple #[wM m3, .int .i64 0]∧Mrg m m3 R i∧I=eU m3 200::I0):=by
 have lR:=f.d.1.1
 have hll:=f.l
 have hpl:=f.p
 have hn24:=f.c
 obtain ⟨r1,r2⟩:=f.d.2.1
 have hri:=f.d.1.row (i:=i) (by omega)
 have hpi:=f.pos _ (cB (ms:=m.p.es) (i:=(i:Int)) (by omega))
 have hpR:=f.pos _ (cB (ms:=m.p.es) (i:=(R:Int)) (by omega))
 have hC:=fun M0 I0 h=>mY (X:=X) (w0:=w0) (M0:=M0) (I0:=I0) (m:=m) (R:=R+1) (C:=n) (k:=30) (by omega) f h
 have hCt:=fun M0 I0 h=>aPL (X:=X) (w0:=w0) (M0:=M0) (I0:=I0) (m:=m) (R:=R) (n:=n) (by omega) f h
 have hE:=fun M0 I0 h1 h2=>aPD (X:=X) (w0:=w0) (M0:=M0) (I0:=I0) (x:=gt m.a.rows (i:Int)) (y:=gt m.a.rows (R:Int)) (by omega) he h1 h2
 have hA1:=fun M0 I0 h1 h2=>pJ (X:=X) (w0:=w0) (M0:=M0) (I0:=I0) (a:=gt m.p.es (i:Int)) (b:=gt m.p.es (R:Int)) (k:=30) (m:=30) (by omega) h1 h2
 have hM1:=fun M0 I0 h1 h2=>jX (X:=X) (w0:=w0) (M0:=M0) (I0:=I0) (a:=gt m.p.es (i:Int)) (b:=gt m.l.es (i:Int)) (k:=30) (m:=30) (by omega) h1 h2
 have hM2:=fun M0 I0 h1 h2=>jX (X:=X) (w0:=w0) (M0:=M0) (I0:=I0) (a:=gt m.p.es (R:Int)) (b:=gt m.l.es (R:Int)) (k:=30) (m:=30) (by omega) h1 h2
 have hA2:=fun (x y:RE) M0 I0 h1 h2=>pJ (X:=X) (w0:=w0) (M0:=M0) (I0:=I0) (a:=x) (b:=y) (k:=60) (m:=60) (by omega) h1 h2
 refine aL (φ:=gQ m.a 30) (Hv.lea h) ?_
 refine aL (φ:=dL m.l 30) (Hv.lel' (List.Mem.tail _ h)) ?_
 refine aL (φ:=dL m.p 30) (Hv.lep (List.Mem.tail _ (List.Mem.tail _ h))) ?_
 refine aL (φ:=aX m.l.es 30) (Hv.lall (r:=m.l) (k:=30) aA) ?_
 refine aL (φ:=aX m.p.es 30) (Hv.lall (r:=m.p) (k:=30) aA) ?_
 refine aL (φ:=aD (m.a).p (recs eL (m.a).rows)) (Hv.xsl aA) ?_
 refine aL (φ:=aD (m.l).p (recs eR (m.l).es)) (Hv.lsl aA) ?_
 refine aL (φ:=aD (m.p).p (recs eR (m.p).es)) (Hv.lsl aA) ?_
 refine aL (φ:=bE (gt m.l.es (R:Int)) 30) (Hv.lel (r:=m.l) aA (by omega)) ?_
 refine aL (φ:=bE (gt m.l.es (i:Int)) 30) (Hv.lel (r:=m.l) aA (by omega)) ?_
 refine aL (φ:=bE (gt m.p.es (R:Int)) 30) (Hv.lel (r:=m.p) aA (by omega)) ?_
 refine aL (φ:=bE (gt m.p.es (i:Int)) 30) (Hv.lel (r:=m.p) aA (by omega)) ?_
 refine iC Tryz.func8 rfl Tryz.ntmps8 rfl ?_
 refine fG ?_
 refine fQ rfl (fun b3=>?_)
 refine aG .here ?_
 refine dG (fun b6=>?_)
 repeat refine aC ?_
 refine dC rfl (hC _ _ aA) ?_
 repeat refine aC ?_
 rw [show min (i:Int) (R:Int)=i by omega,show max (i:Int) (R:Int)=R by omega]
 refine bN (φ:=dL (gt m.a.rows (i:Int)) 30) (Hv.xrow (m:=m.a) aA (by omega)) ?_
 refine bN (φ:=dL (gt m.a.rows (R:Int)) 30) (Hv.xrow (m:=m.a) aA (by omega)) ?_
 (repeat refine aF ?_);refine dD [0,1,2,3,4,5,6,7,8,9,10,11] [1,1,1,1,0,1,1,1,1,0,0,0] mixed (by kernel_rfl) ?_
 repeat refine aC ?_
 refine dC rfl (hE _ _ aA aA) ?_
 repeat refine aC ?_
 refine aKZ (M':= .blk b6 [.slice none 0 0, .slice none 0 0, .slice none 0 0] 26::M0) (I':=aD (some ⟨b3,0,none⟩) [mv m.a,lv m.l,lv m.p]::bE (gt m.p.es (i:Int)) 30::bE (gt m.p.es (R:Int)) 30::bE (gt m.l.es (i:Int)) 30::bE (gt m.l.es (R:Int)) 30::aD m.p.p (recs eR m.p.es)::aD m.l.p (recs eR m.l.es)::aD m.a.p (recs eL m.a.rows)::aX m.p.es 30::aX m.l.es 30::dL m.p 30::dL m.l 30::gQ m.a 30::I0) SubP.refl aJ ?_
 refine pE (fun G M I=>∃(b9:Nat) (e9:RE),e9.q=(gt m.p.es (i:Int)).q+(gt m.p.es (R:Int)).q∧G=[(1, .int .i64 i),(2, .int .i64 R),(3, .pointer (some ⟨b3,0,none⟩)),(6, .pointer (some ⟨b6,0,none⟩)),(9, .pointer (some ⟨b9,0,none⟩))]∧M= .blk b6 [.slice none 0 0, .slice none 0 0, .slice none 0 0] 26::M0∧I=aD (some ⟨b9,0,none⟩) (eR e9)::bE e9 61::aD (some ⟨b3,0,none⟩) [mv m.a,lv m.l,lv m.p]::bE (gt m.p.es (i:Int)) 30::bE (gt m.p.es (R:Int)) 30::bE (gt m.l.es (i:Int)) 30::bE (gt m.l.es (R:Int)) 30::aD m.p.p (recs eR m.p.es)::aD m.l.p (recs eR m.l.es)::aD m.a.p (recs eL m.a.rows)::aX m.p.es 30::aX m.l.es 30::dL m.p 30::dL m.l 30::gQ m.a 30::I0) ?_ ?_
 ·((repeat refine aF ?_);refine pF (.blk b6 [.slice none 0 0, .slice none 0 0, .slice none 0 0] 26::M0) (aD (some ⟨b3,0,none⟩) [mv m.a,lv m.l,lv m.p]::bE (gt m.p.es (i:Int)) 30::bE (gt m.p.es (R:Int)) 30::bE (gt m.l.es (i:Int)) 30::bE (gt m.l.es (R:Int)) 30::aD m.p.p (recs eR m.p.es)::aD m.l.p (recs eR m.l.es)::aD m.a.p (recs eL m.a.rows)::aX m.p.es 30::aX m.l.es 30::dL m.p 30::dL m.l 30::gQ m.a 30::I0) mixed ?_)
  refine jT (fuel:=3) (listed':=#[true,true,true,true,true,true,true,true,true,true,false,false,false]) [0,1,2,3,4,5,6,7,8,9] [2,2,2,2,1,2,2,2,2,1] aK aJ (by kernel_rfl) (by kernel_rfl) rfl rfl ?_
  repeat refine aC ?_
  refine bW (fuel:=2) (i:=10) (j:=11) (by kernel_rfl) ?_ ?_
  ·refine gT rfl (hA1 _ _ (Hv.mem aA) (Hv.mem aA)) (fun e9 he9=>?_)
   refine bG ?_
   refine bF [11,12] [0,0] aK aJ (by kernel_rfl) (by kernel_rfl) rfl rfl ?_
   repeat refine aC ?_
   refine dG (fun b9=>?_)
   repeat refine aC ?_
   refine fU (b:=b9) .here (iH _ _ _ cZ aK aJ ⟨b9,e9,he9,rfl,rfl,rfl⟩)
  ·refine dG (fun b9=>?_)
   refine bG ?_
   refine bF [10,12] [0,0] aK aJ (by kernel_rfl) (by kernel_rfl) rfl rfl ?_
   repeat refine aC ?_
   refine gT rfl (hA1 _ _ (Hv.mem aA) (Hv.mem aA)) (fun e9 he9=>?_)
   repeat refine aC ?_
   refine fU (b:=b9) .here (iH _ _ _ cZ aK aJ ⟨b9,e9,he9,rfl,rfl,rfl⟩)
 rintro G M I ⟨b9,e9,he9,rfl,rfl,rfl⟩
 repeat refine aC ?_
 refine pE (fun G M I=>∃(b10:Nat) (e10:RE),e10.q=(gt m.p.es (i:Int)).q*(gt m.l.es (i:Int)).q+(gt m.p.es (R:Int)).q*(gt m.l.es (R:Int)).q∧G=[(1, .int .i64 i),(2, .int .i64 R),(3, .pointer (some ⟨b3,0,none⟩)),(6, .pointer (some ⟨b6,0,none⟩)),(9, .pointer (some ⟨b9,0,none⟩)),(10, .pointer (some ⟨b10,0,none⟩))]∧M= .blk b6 [.slice none 0 0, .slice none 0 0, .slice none 0 0] 26::M0∧I=aD (some ⟨b10,0,none⟩) (eR e10)::bE e10 121::aD (some ⟨b9,0,none⟩) (eR e9)::bE e9 61::aD (some ⟨b3,0,none⟩) [mv m.a,lv m.l,lv m.p]::bE (gt m.p.es (i:Int)) 30::bE (gt m.p.es (R:Int)) 30::bE (gt m.l.es (i:Int)) 30::bE (gt m.l.es (R:Int)) 30::aD m.p.p (recs eR m.p.es)::aD m.l.p (recs eR m.l.es)::aD m.a.p (recs eL m.a.rows)::aX m.p.es 30::aX m.l.es 30::dL m.p 30::dL m.l 30::gQ m.a 30::I0) ?_ ?_
 ·((repeat refine aF ?_);refine pF (.blk b6 [.slice none 0 0, .slice none 0 0, .slice none 0 0] 26::M0) (aD (some ⟨b9,0,none⟩) (eR e9)::bE e9 61::aD (some ⟨b3,0,none⟩) [mv m.a,lv m.l,lv m.p]::bE (gt m.p.es (i:Int)) 30::bE (gt m.p.es (R:Int)) 30::bE (gt m.l.es (i:Int)) 30::bE (gt m.l.es (R:Int)) 30::aD m.p.p (recs eR m.p.es)::aD m.l.p (recs eR m.l.es)::aD m.a.p (recs eL m.a.rows)::aX m.p.es 30::aX m.l.es 30::dL m.p 30::dL m.l 30::gQ m.a 30::I0) mixed ?_)
  refine jT (fuel:=5) (listed':=#[true,true,true,true,true,true,true,true,true,true,false,true,true,true,true,true,true,true,true,true,true,false,false,false,false]) [0,1,2,3,4,5,6,7,8,9,11,12,13,14,15,16,17,18,19,20] [4,4,4,4,3,4,4,4,4,3,4,4,4,4,3,4,4,4,4,3] aK aJ (by kernel_rfl) (by kernel_rfl) rfl rfl ?_
  repeat refine aC ?_
  refine bW (fuel:=4) (i:=10) (j:=23) (by kernel_rfl) ?_ ?_
  ·refine gT rfl (hM1 _ _ (Hv.mem aA) (Hv.mem aA)) (fun x1 hx1=>?_)
   refine bG ?_
   repeat refine aC ?_
   refine bW (fuel:=3) (i:=21) (j:=23) (by kernel_rfl) ?_ ?_
   ·refine gT rfl (hM2 _ _ (Hv.mem aA) (Hv.mem aA)) (fun x2 hx2=>?_)
    refine bG ?_
    repeat refine aC ?_
    refine bW (fuel:=2) (i:=22) (j:=23) (by kernel_rfl) ?_ ?_
    ·refine gT rfl (hA2 x1 x2 _ _ (Hv.mem aA) (Hv.mem aA)) (fun e10 he10=>?_)
     refine bG ?_
     refine bF [23,24] [0,0] aK aJ (by kernel_rfl) (by kernel_rfl) rfl rfl ?_
     repeat refine aC ?_
     refine dG (fun b10=>?_)
     repeat refine aC ?_
     refine fU (b:=b10) .here (iH _ _ _ cZ aK aJ ⟨b10,e10,by rw [he10,hx1,hx2],rfl,rfl,rfl⟩)
    ·refine dG (fun b10=>?_)
     refine bG ?_
     refine bF [22,24] [0,0] aK aJ (by kernel_rfl) (by kernel_rfl) rfl rfl ?_
     repeat refine aC ?_
     refine gT rfl (hA2 x1 x2 _ _ (Hv.mem aA) (Hv.mem aA)) (fun e10 he10=>?_)
     repeat refine aC ?_
     refine fU (b:=b10) .here (iH _ _ _ cZ aK aJ ⟨b10,e10,by rw [he10,hx1,hx2],rfl,rfl,rfl⟩)
   ·refine dG (fun b10=>?_)
    refine bG ?_
    refine bF [21,22,24] [0,0,0] aK aJ (by kernel_rfl) (by kernel_rfl) rfl rfl ?_
    repeat refine aC ?_
    refine gT rfl (hM2 _ _ (Hv.mem aA) (Hv.mem aA)) (fun x2 hx2=>?_)
    repeat refine aC ?_
    refine gT rfl (hA2 x1 x2 _ _ (Hv.mem aA) (Hv.mem aA)) (fun e10 he10=>?_)
    repeat refine aC ?_
    refine fU (b:=b10) .here (iH _ _ _ cZ aK aJ ⟨b10,e10,by rw [he10,hx1,hx2],rfl,rfl,rfl⟩)
  ·refine dG (fun b10=>?_)
   refine bG ?_
   refine bF [10,21,22,24] [0,0,0,0] aK aJ (by kernel_rfl) (by kernel_rfl) rfl rfl ?_
   repeat refine aC ?_
   refine gT rfl (hM1 _ _ (Hv.mem aA) (Hv.mem aA)) (fun x1 hx1=>?_)
   repeat refine aC ?_
   refine gT rfl (hM2 _ _ (Hv.mem aA) (Hv.mem aA)) (fun x2 hx2=>?_)
   repeat refine aC ?_
   refine gT rfl (hA2 x1 x2 _ _ (Hv.mem aA) (Hv.mem aA)) (fun e10 he10=>?_)
   repeat refine aC ?_
   refine fU (b:=b10) .here (iH _ _ _ cZ aK aJ ⟨b10,e10,by rw [he10,hx1,hx2],rfl,rfl,rfl⟩)
 rintro G M I ⟨b10,e10,he10,rfl,rfl,rfl⟩
 repeat refine aC ?_
 (refine bA rfl (hCt _ _ aA) ?_;rintro _ _ _ ⟨ba,bl,bp,ca,cl,cp,ta,tl,tp,rows,ls,ps,lz,pz,rfl,⟨hrl,hls,hps⟩,⟨hca,hcl,hcp⟩,hrow,hL,hP,rfl,rfl⟩;refine aU ?_)
 have hgl:∀t:Nat,t < R→gt m.l.es (t:Int)=gt ls (t:Int):=fun t ht=>by rw [hL,uW (by omega)]
 have hgp:∀t:Nat,t < R→gt m.p.es (t:Int)=gt ps (t:Int):=fun t ht=>by rw [hP,uW (by omega)]
 have hlsi:(ls.length:Int)=R:=by omega
 have hpsi:(ps.length:Int)=R:=by omega
 refine dG (fun b11=>?_)
 repeat refine aC ?_
 repeat refine aC ?_
 have hD:=fun M0 I0 h1 h2=>rQ (X:=X) (w0:=w0) (M0:=M0) (I0:=I0) (a:=e10) (b:=e9) (k:=121) (m:=61) (by omega) (by rw [he9];grind) h1 h2
 (repeat refine aF ?_);refine aS 1 [0,1,2,3,4,5,6,7,8,9,10] [1,1,1,0,0,0,0,0,1,0,0] mixed (by kernel_rfl) ?_
 repeat refine aC ?_
 (refine bA rfl (hD _ _ (Hv.mem aA) (Hv.mem aA)) ?_;rintro _ _ _ ⟨rfl,e11,rfl,he11,rfl⟩;refine aU ?_)
 repeat refine yXh ?_
 refine iG (vs:=eR e11) rfl rfl rfl (Ones.one e11) mW (StAts.app (StAts.r (enc:=eR) (ms:=ls) (i:=(i:Int)) e11 (by omega) rfl)) rfl rfl ⟨okF,?_⟩
 repeat refine aC ?_
 refine bX (φ:=aX ps 200) (Hv.rPre (k:=30) hP aA (by omega)) ?_
 refine bX (φ:=aX ls 200) (Hv.rPre (k:=30) hL aA (by omega)) ?_
 refine bX (φ:=bE e9 200) (Hv.q (k:=61) aA (by omega)) ?_
 refine bX (φ:=bE e11 200) (Hv.q (k:=121+61) aA (by omega)) ?_
 refine bX (φ:=aX (st ps (i:Int) e9) 200) (Hv.stR aA aA) ?_
 refine bX (φ:=aX (st ls (i:Int) e11) 200) (Hv.stR aA aA) ?_
 refine bX (φ:=lJ rows 200) (Hv.lMono (k:=30) aA (by omega)) ?_
 refine fU .here ?_
 refine rU (fun _ hw=>Mem.blkT (c:=cp) (k:=200) (by rw [bP];omega) hw aA) ?_
 refine rU (fun _ hw=>Mem.blkT (c:=cl) (k:=200) (by rw [bP];omega) hw aA) ?_
 refine rU (fun _ hw=>Mem.blkXt (c:=ca) (k:=200) (by omega) hw aA) ?_
 refine bX (φ:=eU ⟨⟨some ⟨ba,0,none⟩,ca,rows⟩,⟨some ⟨bl,0,none⟩,cl,st ls (i:Int) e11⟩,⟨some ⟨bp,0,none⟩,cp,st ps (i:Int) e9⟩⟩ 200) (Hv.le3m aA aA aA) ?_
 refine gZ (rs:=[.cell 6 26, .tmp 7]) (vs:=[.agg #[.slice (some ⟨ba,0,none⟩) R ca, .slice (some ⟨bl,0,none⟩) R cl, .slice (some ⟨bp,0,none⟩) R cp], .int .i64 0]) (.inl rfl) rfl (.cellN (cs:=[.slice (some ⟨ba,0,none⟩) R ca, .slice (some ⟨bl,0,none⟩) R cl, .slice (some ⟨bp,0,none⟩) R cp]) inferInstance rfl aA rfl (.tmp rfl .nil)) rfl M0 (eU ⟨⟨some ⟨ba,0,none⟩,ca,rows⟩,⟨some ⟨bl,0,none⟩,cl,st ls (i:Int) e11⟩,⟨some ⟨bp,0,none⟩,cp,st ps (i:Int) e9⟩⟩ 200::I0) aK aJ ⟨rfl,⟨⟨some ⟨ba,0,none⟩,ca,rows⟩,⟨some ⟨bl,0,none⟩,cl,st ls (i:Int) e11⟩,⟨some ⟨bp,0,none⟩,cp,st ps (i:Int) e9⟩⟩,?_,⟨⟨hrl,by rw [bP];exact hls,by rw [bP];exact hps⟩,hrow,fun t ht=>?_,fun t ht=>?_⟩,rfl⟩
 ·show _=Value.tuple #[.agg #[.slice (some ⟨ba,0,none⟩) rows.length ca, .slice (some ⟨bl,0,none⟩) (st ls (i:Int) e11).length cl, .slice (some ⟨bp,0,none⟩) (st ps (i:Int) e9).length cp], .int .i64 0]
  rw [bP,bP,hrl,hls,hps]
 ·show (gt (st ps (i:Int) e9) (t:Int)).q=_
  rw [oN (by omega)]
  by_cases e1:t=i
  ·rw [if_pos e1,if_pos e1,he9]
  ·rw [if_neg e1,if_neg e1,hgp t ht]
 ·show (gt (st ls (i:Int) e11) (t:Int)).q=_
  rw [oN (by omega)]
  by_cases e1:t=i
  ·rw [if_pos e1,if_pos e1,he11,he10,he9]
  ·rw [if_neg e1,if_neg e1,hgl t ht]
end
theorem LE.pl {m:LE} {R n t:Nat} (f:m.fit R n) (ht:t < R):m.p.q.getD t 0=(gt m.p.es (t:Int)).q∧m.l.q.getD t 0=(gt m.l.es (t:Int)).q:=by
 have h1:=f.l
 have h2:=f.p
 exact ⟨bT (by omega),bT (by omega)⟩
theorem LE.at {m:LE} {R n t a:Nat} (f:m.fit R n) (ht:t < R) (ha:a < n):at2 m.a.q t a=(gt (gt m.a.rows (t:Int)).es (a:Int)).q:=by
 have h1:=f.d.1.1
 have h2:=f.d.1.row ht
 exact nR (by omega) (by omega)
theorem Aug.fit {m m2:LE} {R n:Nat} {row:RL} {x w:RE} (h:Aug m m2 R row x w) (f:m.fit R n) (hR:R≤60) (hrl:row.es.length=n) (hw:0 < w.q):m2.fit (R+1) n:=by
 have h1:=f.l
 have h2:=f.p
 refine ⟨⟨⟨h.len,fun r hr=>?_⟩,⟨by omega,by omega⟩,f.d.2.2⟩,f.c,by rw [h.ls];simp [h1],by rw [h.ps];simp [h2],fun e he=>?_⟩
 ·obtain ⟨j,hj,rfl⟩:=List.mem_iff_getElem.1 hr
  have hj':j < R+1:=by have:=h.len;omega
  rw [←eY hj]
  by_cases e:j < R
  ·rw [h.old j e];exact f.d.1.row e
  ·rw [show j=R by omega,h.new];exact hrl
 ·rw [h.ps] at he
  rcases List.mem_append.1 he with he|he
  ·exact f.pos e he
  ·rw [List.mem_singleton.1 he];exact hw
theorem Mrg.fit {m m3:LE} {R i n:Nat} (h:Mrg m m3 R i) (f:m.fit (R+1) n) (hi:i < R):m3.fit R n:=by
 have h1:=f.p
 have hpp:∀t:Nat,t < R+1→0 < (gt m.p.es (t:Int)).q:=fun t ht=>f.pos _ (cB (by omega))
 have hr:=f.d.2.1
 refine ⟨⟨⟨h.len.1,fun r hr=>?_⟩,⟨by omega,by omega⟩,f.d.2.2⟩,f.c,h.len.2.1,h.len.2.2,fun e he=>?_⟩
 ·obtain ⟨j,hj,rfl⟩:=List.mem_iff_getElem.1 hr
  have hj':j < R:=by have:=h.len.1;omega
  rw [←eY hj,h.row j hj']
  exact f.d.1.row (by omega)
 ·obtain ⟨j,hj,rfl⟩:=List.mem_iff_getElem.1 he
  have hj':j < R:=by have:=h.len.2.2;omega
  rw [←eY hj,h.ps j hj']
  have a1:=hpp i (by omega)
  have a2:=hpp R (by omega)
  have a3:=hpp j (by omega)
  by_cases e:j=i
  ·rw [if_pos e];grind
  ·rw [if_neg e];exact a3
theorem aNP {p w l:Rat} (hp:0 < p) (hw:0 < w):(p*l+w*l) / (p+w)=l:=by
 have h:p+w≠0:=by grind
 grind
theorem aFT {m m2 m3:LE} {R i n:Nat} {row:RL} {w:RE} (f:m.fit R n) (f2:m2.fit (R+1) n) (f3:m3.fit R n) (hi:i < R) (hrow:row=gt m.a.rows (i:Int)) (hw:0 < w.q) (h:Aug m m2 R row (gt m.l.es (i:Int)) w) (h3:Mrg m2 m3 R i):
  (∀t,t < R→∀a,a < n→at2 m3.a.q t a=at2 m2.a.q t a)∧(∀t,t < R→t≠i→m3.p.q.getD t 0=m2.p.q.getD t 0)∧(∀t,t < R→m3.l.q.getD t 0=m2.l.q.getD t 0)∧nN m2 (R+1) n=nN m3 R n∧nB m2 (R+1) n=nB m3 R n:=by
 have hl:=f.l
 have hp:=f.p
 have gp:∀t:Nat,t < R→gt m2.p.es (t:Int)=gt m.p.es (t:Int):=fun t ht=>by rw [h.ps,uW (by omega)]
 have gl:∀t:Nat,t < R→gt m2.l.es (t:Int)=gt m.l.es (t:Int):=fun t ht=>by rw [h.ls,uW (by omega)]
 have gpR:gt m2.p.es (R:Int)=w:=by rw [h.ps];exact rJ (A:=m.p.es) (B:=[]) (by omega)
 have glR:gt m2.l.es (R:Int)=gt m.l.es (i:Int):=by rw [h.ls];exact rJ (A:=m.l.es) (B:=[]) (by omega)
 have hpi:0 < (gt m.p.es (i:Int)).q:=f.pos _ (cB (by omega))
 have hA:∀t,t < R→∀a,a < n→at2 m3.a.q t a=at2 m2.a.q t a:=fun t ht a ha=>by
  rw [LE.at f3 ht ha,LE.at f2 (by omega) ha,h3.row t ht]
 have hL:∀t,t < R→m3.l.q.getD t 0=m2.l.q.getD t 0:=fun t ht=>by
  rw [(LE.pl f3 ht).2,(LE.pl f2 (show t < R+1 by omega)).2,h3.ls t ht]
  by_cases e:t=i
  ·subst e
   rw [if_pos rfl,gp t ht,gl t ht,gpR,glR]
   exact aNP hpi hw
  ·rw [if_neg e]
 have hT:Twice R n i m2.a.q m2.a.q (fun t=>m2.p.q.getD t 0) (fun t=>m2.p.q.getD t 0) (fun t=>m2.l.q.getD t 0) (fun t=>m2.l.q.getD t 0) w.q:=by
  refine ⟨fun _ _ _ _=>rfl,fun a ha=>?_,fun _ _=>rfl,?_,fun _ _=>rfl,?_⟩
  ·rw [LE.at f2 (by omega) ha,LE.at f2 (show i < R+1 by omega) ha,h.new,h.old i hi,hrow]
  ·show m2.p.q.getD R 0=_
   rw [(LE.pl f2 (by omega)).1,gpR]
  ·show m2.l.q.getD R 0=m2.l.q.getD i 0
   rw [(LE.pl f2 (by omega)).2,(LE.pl f2 (show i < R+1 by omega)).2,glR,gl i hi]
 have hr:∀t,t < R→m3.p.q.getD t 0=m2.p.q.getD t 0+if t=i then w.q else 0:=fun t ht=>by
  rw [(LE.pl f3 ht).1,(LE.pl f2 (show t < R+1 by omega)).1,h3.ps t ht]
  by_cases e:t=i
  ·subst e;rw [if_pos rfl,if_pos rfl,gpR]
  ·rw [if_neg e,if_neg e];grind
 refine ⟨hA,fun t ht hne=>by rw [hr t ht,if_neg hne];grind,hL,?_,?_⟩
 ·exact aKB hi hT hA hr
 ·exact aKM hi hT hA hr hL
theorem aLG {m2 m3:LE} {R i n t:Nat} (ht:t < R) (hne:t≠i) (h:(∀t,t < R→∀a,a < n→at2 m3.a.q t a=at2 m2.a.q t a)∧(∀t,t < R→t≠i→m3.p.q.getD t 0=m2.p.q.getD t 0)∧(∀t,t < R→m3.l.q.getD t 0=m2.l.q.getD t 0)∧nN m2 (R+1) n=nN m3 R n∧nB m2 (R+1) n=nB m3 R n):
  stQ m2 (R+1) n t=stQ m3 R n t∧stB m2 (R+1) n t=stB m3 R n t:=by
 obtain ⟨hA,hP,hL,hN,hB⟩:=h
 have h1:=aLX (C:=n) (N:=nN m3 R n) (b:=nB m3 R n) (p:=m3.p.q.getD t 0) (l:=m3.l.q.getD t 0) (fun j hj=>hA t ht j hj)
 unfold stQ stB
 rw [hN,hB,h1.1,h1.2.2,hP t ht hne,hL t ht]
 exact ⟨rfl,rfl⟩
end Go.Proofs.YthhldplegmeolaaGreat
namespace Go.Fx
section
variable {P:Program} {n:Nat} {ops:List Oper} {Q:Exit→Act→World→Prop} {m:Mode} {G:Env} {w:World} {ty:TypeId} {pos:String} {af:Array Edge} {g:Option (Nat × Bool)} {l:List Oper} {X:List Nat} {w0:World} {M M':List Ent} {I:List aN}
theorem aJN {t e e':TypeId} {sz b o dl dc sl sc:Nat} {a:Addr} {x y:Operand} {cs news:List Value} {Y:List Nat} [ht:SliceTy P t e sz] (hx:ev G x=some (.slice (some ⟨b,o,none⟩) dl dc)) (hy:ev G y=some (.slice (some a) sl sc)) (ho:Ok (some a)) (hB:Blk w b cs e') (hS:Sl Y w (some a) news) (hn:min sl dl=1) (hl:news.length=sz) (hf:o+sz≤cs.length) (h1:∀u∈news,u.oneCell'=true):
  Eff P n G (.call {callee:= .builtin .copy,args:=#[x,y],argTypes:=#[t,t]}) ty w (fun v w'=>v= .int .i64 1∧Blk w' b (splice cs o news) e'∧Ext [b] w w'):=by
 refine ⟨?_⟩
 intro st ha dst pos after guard
 obtain ⟨i,hi,hs2⟩:∃i,P.info? e=some i∧i.size=sz:=Option.map_eq_some_iff.1 ht.size
 obtain ⟨b',o',e0⟩:=ho.cases
 injection e0 with e0
 subst e0
 have hf2:=run_firstCells_some (P:=P) w i.size 1 ⟨b',o',none⟩ sl sc news (by rw [hl,hs2];omega) (fun j u hj=>by rw [add_lit];exact (hS j u hj).2.2)
 have hst:=run_storeCells_at P b o e' news 0 cs.toArray w hB (by simpa [hl] using hf) h1
 simp only [Nat.add_zero] at hst
 have hn2:Nat.min sl dl=1:=hn
 refine pO (v:= .int .i64 1) (w':=w.setRow b (splice cs o news).toArray) ?_ ⟨_,⟨rfl,?_,Ext.setRow (by simp) _⟩,rfl⟩
 ·simp [execOp,resolve,invoke,builtin,ha.ev hx,ha.ev hy,Builtin.copy_,run_underlying ht.und,sizeOf,typeInfo,hi,Builtin.lenOf,hn2,hf2,hst,splice,goInt]
 ·exact setRow_heap w b _ _ _ _ hB
theorem zG {d:Nat} {t e e':TypeId} {sz b o dl dc sl sc:Nat} {a:Addr} {x y:Operand} {cs cs' news:List Value} [SliceTy P t e sz] (hx:ev G x=some (.slice (some ⟨b,o,none⟩) dl dc)) (hy:ev G y=some (.slice (some a) sl sc)) (ho:Ok (some a)) (hsrc:Src M I (some a) sl sc news) (hr:Rep (.blk b cs e') (.blk b cs' e') M M') (hs:splice cs o news=cs') (hn:min sl dl=1) (hl:news.length=sz) (hf:o+sz≤cs.length) (h1:∀u∈news,u.oneCell'=true) (hg:lW ops G g=some true) (hd:Nat.ble (d+1) n=true)
  (kk:OkD m X w0 M' I∧RD P n ops Q m.nextE l ((d, .int .i64 1)::G) X w0 M' I):RD P n ops Q m (⟨some d, .call {callee:= .builtin .copy,args:=#[x,y],argTypes:=#[t,t]},ty,pos,af,g⟩::l) G X w0 M I:=
 wY (d:=some d) (K:=fun v M2 I2=>v= .int .i64 1∧M2=M'∧I2=I) hg
  (fun w hw=>(aJN hx hy ho (hw.blk hr.mem) (hsrc.go X w0 w hw).1 hn hl hf h1).mono (fun _ w' ⟨hv,hB,hE⟩=>⟨_,_,⟨hv,rfl,rfl⟩,hw.upd hr hE (fun b hb=> .inl hb) (by simp [Ent.blocks]) (by rw [hs] at hB;exact hB)⟩)) rfl hd
  (fun _ _ _ ⟨hv,hM,hI⟩=>by subst hv;subst hM;subst hI;exact kk)
end
end Go.Fx
namespace Go.Proofs.YthhldplegmeolaaGreat
open Go Go.Fx
theorem Src.app {M:List Ent} {I:List aN} {a:Option Addr} {len c:Nat} {cs tl:List Value} (h:Src M I a len c (cs++tl)):Src M I a len c cs:=⟨fun X w0 w hw=>⟨zH (h.go X w0 w hw).1,(h.go X w0 w hw).2⟩⟩
section
variable {X:List Nat} {w0:World} {M0:List Ent} {I0:List aN}
theorem aOA:CD Tryz.prog 165 [.int .u64 1, .int .u64 3] X w0 M0 I0 (fun v M I=>M0=M∧I0=I∧v= .tuple #[.int .u64 0, .int .u64 3]):=by
 refine aP Tryz.func165 rfl Tryz.ntmps165 rfl ?_
 repeat refine aC ?_
 (refine aB rfl (fun _=>sM (a:=1) (b:=4294967295) rfl rfl (by omega) (by omega)) rfl rfl ?_)
 rw [show ((1 &&& 4294967295:Nat):Int)=1 from rfl]
 repeat refine aC ?_
 (refine aB rfl (fun _=>qC (a:=1) (s:=32) rfl rfl (by decide)) rfl rfl ?_)
 rw [show ((1 / 2 ^ 32:Nat):Int)=0 from rfl]
 repeat refine aC ?_
 (refine aB rfl (fun _=>sM (a:=3) (b:=4294967295) rfl rfl (by omega) (by omega)) rfl rfl ?_)
 rw [show ((3 &&& 4294967295:Nat):Int)=3 from rfl]
 repeat refine aC ?_
 (refine aB rfl (fun _=>qC (a:=3) (s:=32) rfl rfl (by decide)) rfl rfl ?_)
 rw [show ((3 / 2 ^ 32:Nat):Int)=0 from rfl]
 repeat refine aC ?_
 rw [show (1*3:Int)=3 from rfl]
 repeat refine aC ?_
 (refine aB rfl (fun _=>qC (a:=3) (s:=32) rfl rfl (by decide)) rfl rfl ?_)
 rw [show ((3 / 2 ^ 32:Nat):Int)=0 from rfl]
 repeat refine aC ?_
 (refine aB rfl (fun _=>sM (a:=0) (b:=4294967295) rfl rfl (by omega) (by omega)) rfl rfl ?_)
 rw [show ((0 &&& 4294967295:Nat):Int)=0 from rfl]
 repeat refine aC ?_
 (refine aB rfl (fun _=>qC (a:=0) (s:=32) rfl rfl (by decide)) rfl rfl ?_)
 rw [show ((0 / 2 ^ 32:Nat):Int)=0 from rfl]
 repeat refine aC ?_
 (refine aB rfl (fun _=>qC (a:=0) (s:=32) rfl rfl (by decide)) rfl rfl ?_)
 rw [show ((0 / 2 ^ 32:Nat):Int)=0 from rfl]
 repeat refine aC ?_
 refine tyS [4,5] rfl rfl (⟨rfl,rfl,rfl⟩)
theorem aQA:CD Tryz.prog 151 [.int .u64 1, .int .u64 3] X w0 M0 I0 (fun v M I=>M0=M∧I0=I∧v= .tuple #[.int .u64 0, .int .u64 3]):=by
 refine aP Tryz.func151 rfl Tryz.ntmps151 rfl ?_
 repeat refine aC ?_
 refine dC rfl (aOA) ?_
 repeat refine aC ?_
 refine tyS [4,5] rfl rfl (⟨rfl,rfl,rfl⟩)
theorem aQB {q:Option Addr} {e:RE} {c:Nat} (hq:aD q (recs eR [e])∈I0) (hok:Ok q):
  CD Tryz.prog 119 [.slice q 1 c, .int .i64 3] X w0 M0 I0 (fun v M I=>∃b:Nat,v= .slice (some ⟨b,0,none⟩) 3 3∧M= .blk b (recs eR [e,e,e]) 36::M0∧I0=I):=by
 obtain ⟨b0,o0,rfl⟩:=hok.cases
 refine aP Tryz.func119 rfl Tryz.ntmps119 rfl ?_
 repeat refine aC ?_
 refine dC rfl (aQA) ?_
 repeat refine aC ?_
 (refine iD (3) rfl rfl (by omega) (by omega) (by omega) (by omega) (oF (enc:=e4) (by decide) z4 3) rfl rfl ?_;intro bi;refine aU ?_)
 repeat refine aC ?_
 rw [show List.replicate 3 z4=[z4,z4,z4] from rfl]
 refine zG (news:=eR e) rfl rfl (Ok.mk _ _) (Src.imm hq (.inl (Ok.mk _ _))) .here (cs':=recs e4 [t4 e,z4,z4]) (jP (enc:=e4) [z4,z4,z4] 0 (t4 e) (by simp)) rfl rfl (by simp [fH]) (Ones.one (enc:=eR) e) rfl rfl ⟨okF,?_⟩
 repeat refine aC ?_
 refine pU [7] rfl (fun k G M I=>∃i:Nat,1≤i∧i≤3∧k=3 - i∧(i=1∧M= .blk bi (recs e4 [t4 e,z4,z4]) 36::M0∨i=2∧M= .blk bi (recs e4 [t4 e,t4 e,z4]) 36::M0∨i=3∧M= .blk bi (recs e4 [t4 e,t4 e,t4 e]) 36::M0)∧G=[(8, .int .i64 i)]∧I0=I) (2) (⟨1,by omega,by omega,by omega, .inl ⟨rfl,rfl⟩,rfl,rfl⟩) ?_
 rintro kk G M I ⟨i,hi1,hi3,rfl,hM,rfl,rfl⟩
 rcases hM with ⟨rfl,rfl⟩|⟨rfl,rfl⟩|⟨rfl,rfl⟩
 ·repeat refine aC ?_
  (repeat refine aF ?_);refine tyW ([]) (I0) [0,1,2,3,4,5,6,7,8,9] [1,1,1,0,1,1,0,0,0,0] mixed ?_
  repeat refine aC ?_
  (refine aB rfl (fun _=>jZ 1 3 2 rfl (.inr ⟨_,_,_,rfl,rfl,rfl⟩) (.inl ⟨rfl,rfl⟩) (by omega) (by omega) (by omega)) rfl rfl ?_)
  rw [xY (by omega)]
  repeat refine aC ?_
  (refine aB rfl (fun _=>kF 1 rfl rfl rfl (by omega)) rfl rfl ?_)
  refine zG (news:=eR e) rfl rfl (Ok.mk _ _) (Src.app (tl:=recs e4 [z4,z4]) (Src.blk (cs:=recs e4 [t4 e,z4,z4]) aA)) .here (cs':=recs e4 [t4 e,t4 e,z4]) (jP (enc:=e4) [t4 e,z4,z4] 1 (t4 e) (by simp)) rfl rfl (by simp [fH]) (Ones.one (enc:=eR) e) rfl rfl ⟨okF,?_⟩
  repeat refine aC ?_
  refine lN (1) (⟨2,by omega,by omega,by omega,by first|exact .inl ⟨rfl,rfl⟩|exact .inr (.inl ⟨rfl,rfl⟩)|exact .inr (.inr ⟨rfl,rfl⟩),rfl,rfl⟩)
 ·repeat refine aC ?_
  (repeat refine aF ?_);refine tyW ([]) (I0) [0,1,2,3,4,5,6,7,8,9] [1,1,1,0,1,1,0,0,0,0] mixed ?_
  repeat refine aC ?_
  (refine aB rfl (fun _=>jZ 2 3 1 rfl (.inr ⟨_,_,_,rfl,rfl,rfl⟩) (.inl ⟨rfl,rfl⟩) (by omega) (by omega) (by omega)) rfl rfl ?_)
  rw [xY (by omega)]
  repeat refine aC ?_
  (refine aB rfl (fun _=>kF 2 rfl rfl rfl (by omega)) rfl rfl ?_)
  refine zG (news:=eR e) rfl rfl (Ok.mk _ _) (Src.app (tl:=recs e4 [t4 e,z4]) (Src.blk (cs:=recs e4 [t4 e,t4 e,z4]) aA)) .here (cs':=recs e4 [t4 e,t4 e,t4 e]) (jP (enc:=e4) [t4 e,t4 e,z4] 2 (t4 e) (by simp)) rfl rfl (by simp [fH]) (Ones.one (enc:=eR) e) rfl rfl ⟨okF,?_⟩
  repeat refine aC ?_
  refine lN (0) (⟨3,by omega,by omega,by omega,by first|exact .inl ⟨rfl,rfl⟩|exact .inr (.inl ⟨rfl,rfl⟩)|exact .inr (.inr ⟨rfl,rfl⟩),rfl,rfl⟩)
 ·repeat refine aC ?_
  refine iZ rfl rfl (⟨bi,rfl,rfl,rfl⟩)
end
section
variable {X:List Nat} {w0:World} {M0:List Ent} {I0:List aN}
theorem aBO {x:Int} (hx:x.natAbs≤1):CD Tryz.prog 83 [.int .i64 x] X w0 M0 I0 (RQ (x:Rat) 0 M0 I0):=by
 refine aV Tryz.func83 rfl Tryz.ntmps83 rfl ?_
 refine fG ?_
 refine dG (fun b2=>?_)
 repeat refine aC ?_
 refine gT rfl (kU (k:=0) (by omega) (by omega)) (fun e he=>?_)
 repeat refine aC ?_
 refine aR (cs:=eR e) (.inl rfl) rfl rfl aA rfl M0 (bE e 0::I0) aK aJ ⟨rfl,e,rfl,he,rfl⟩
theorem aHT {a b:RE} {k m:Nat} (hk:k+m≤500000000000) (ha:Hv I0 (bE a k)) (hb:Hv I0 (bE b m)):CD Tryz.prog 80 [rv a,rv b] X w0 M0 I0 (RQ (a.q*b.q) (k+m) M0 I0):=by
 refine aP Tryz.func80 rfl Tryz.ntmps80 rfl ?_
 refine fG ?_
 refine fQ rfl (fun b1=>?_)
 refine fQ rfl (fun b2=>?_)
 refine dG (fun b3=>?_)
 repeat refine aC ?_
 refine gT rfl (jX hk ha hb) (fun e he=>?_)
 repeat refine aC ?_
 refine aR (cs:=eR e) (.inl rfl) rfl rfl aA rfl M0 (bE e (k+m)::I0) aK aJ ⟨rfl,e,rfl,he,rfl⟩
theorem aQV {a b:RE} {k m:Nat} (hk:k+m+1≤500000000000) (ha:Hv I0 (bE a k)) (hb:Hv I0 (bE b m)):CD Tryz.prog 82 [rv a,rv b] X w0 M0 I0 (RQ (a.q - b.q) (k+m+1) M0 I0):=by
 refine aP Tryz.func82 rfl Tryz.ntmps82 rfl ?_
 refine fG ?_
 refine fQ rfl (fun b1=>?_)
 refine fQ rfl (fun b2=>?_)
 refine dG (fun b3=>?_)
 repeat refine aC ?_
 refine gT rfl (yH hk ha hb) (fun e he=>?_)
 repeat refine aC ?_
 refine aR (cs:=eR e) (.inl rfl) rfl rfl aA rfl M0 (bE e (k+m+1)::I0) aK aJ ⟨rfl,e,rfl,he,rfl⟩
theorem aNA {a b:RE} {k m:Nat} (hk:k+m≤500000000000) (h0:b.q≠0) (ha:Hv I0 (bE a k)) (hb:Hv I0 (bE b m)):CD Tryz.prog 38 [rv a,rv b] X w0 M0 I0 (RQ (a.q / b.q) (k+m) M0 I0):=by
 refine aP Tryz.func38 rfl Tryz.ntmps38 rfl ?_
 refine fG ?_
 refine fQ rfl (fun b1=>?_)
 refine fQ rfl (fun b2=>?_)
 refine dG (fun b3=>?_)
 repeat refine aC ?_
 (refine bA rfl (rQ hk h0 ha hb) ?_;rintro _ _ _ ⟨rfl,e,rfl,he,rfl⟩;refine aU ?_)
 repeat refine aC ?_
 refine dG (fun b5=>?_)
 repeat refine aC ?_
 refine aR (cs:=eR e) (.inl rfl) rfl rfl aA rfl M0 (bE e (k+m)::I0) aK aJ ⟨rfl,e,rfl,he,rfl⟩
theorem aQE {a b:RL} {ka kb n:Nat} (hn:n≤200) (hK:n*(ka+kb+1)≤100000000000) (la:a.es.length=n) (lb:b.es.length=n) (ha:Hv I0 (dL a ka)) (hb:Hv I0 (dL b kb)):
  CD Tryz.prog 120 [lv a,lv b] X w0 M0 I0 (RQ (aOF n a.q b.q) (n*(ka+kb+1)) M0 I0):=by
 have hD:=fun M0 I0 h1 h2=>aCU (X:=X) (w0:=w0) (M0:=M0) (I0:=I0) (a:=a) (b:=b) (ka:=ka) (kb:=kb) (n:=n) hn hK la lb h1 h2
 generalize n*(ka+kb+1)=K at*
 refine aP Tryz.func120 rfl Tryz.ntmps120 rfl ?_
 refine fG ?_
 refine dG (fun b4=>?_)
 repeat refine aC ?_
 (refine bA rfl (hD _ _ ha hb) ?_;rintro _ _ _ ⟨rfl,e,rfl,he,rfl⟩;refine aU ?_)
 repeat refine aC ?_
 refine dG (fun b5=>?_)
 repeat refine aC ?_
 refine aR (cs:=eR e) (.inl rfl) rfl rfl aA rfl M0 (bE e K::I0) aK aJ ⟨rfl,e,rfl,he,rfl⟩
end
abbrev r0:Rat:=((0:Int):Rat)
abbrev r1:Rat:=((1:Int):Rat)
abbrev r3:Rat:=((3:Int):Rat)
structure Exm (m:LE):Prop where
 f:m.fit 3 1
 A:m.a.q=[[r1],[r1],[r1]]
 L:m.l.q=[r0,r0,r3]
 P:m.p.q=[r1,r1,r1]
structure IsRm (m:LE) (bm:Nat) (f:MX) (X:List Nat) (w:World):Prop where
 mm:IsLE m 200 X w
 fx:IsX f 50000 X w
 bx:∃(q:Option Addr) (c:Nat) (b n:MX),SlI (some ⟨bm,0,none⟩) [mv m.a,lv m.l,lv m.p, .slice q 1 c,mv b,mv n,mv f] X w
abbrev xO (m:LE) (bm:Nat) (f:MX):aN:=IsRm m bm f
instance IsRm.gd (m:LE) (bm:Nat) (f:MX):Fx.Good (IsRm m bm f):=⟨fun X Y w w' h he hY=>⟨Fx.Good.go (φ:=IsLE _ _) X Y w w' h.mm he hY,Fx.Good.go (φ:=IsX _ _) X Y w w' h.fx he hY,by
 obtain ⟨q,c,b,n,h1⟩:=h.bx
 exact ⟨q,c,b,n,Fx.Good.go (φ:=SlI _ _) X Y w w' h1 he hY⟩⟩⟩
theorem Hv.rmm {I:List aN} {m:LE} {bm:Nat} {f:MX} (h:xO m bm f∈I):Hv I (eU m 200):=⟨fun X w hw=>(hw _ h:IsRm m bm f X w).mm⟩
theorem Hv.rmf {I:List aN} {m:LE} {bm:Nat} {f:MX} (h:xO m bm f∈I):Hv I (gQ f 50000):=⟨fun X w hw=>(hw _ h:IsRm m bm f X w).fx⟩
section
variable {X:List Nat} {w0:World} {M0:List Ent} {I0:List aN}
theorem aRI {f:FuncId} {vs:List Value} {K:Value→List Ent→List aN→Prop} {m:LE} {bm:Nat} {F:MX} (h:xO m bm F∈I0) (k:∀(q:Option Addr) (c:Nat) (b n:MX),CD Tryz.prog f vs X w0 M0 (aD (some ⟨bm,0,none⟩) [mv m.a,lv m.l,lv m.p, .slice q 1 c,mv b,mv n,mv F]::I0) K):CD Tryz.prog f vs X w0 M0 I0 K:=⟨fun w hw=>by
 obtain ⟨q,c,b,n,h1⟩:=((hw.imm _ h).2:IsRm m bm F _ w).bx
 exact (k q c b n).go w (hw.add (φ:=aD (some ⟨bm,0,none⟩) [mv m.a,lv m.l,lv m.p, .slice q 1 c,mv b,mv n,mv F]) h1)⟩
end
end Go.Proofs.YthhldplegmeolaaGreat
namespace Go.Proofs.YthhldplegmeolaaGreat
open Go Go.Fx
structure Fits (F:MX):Prop where
 q:∀i j:Nat,i < 3→j < 3→(gt (gt F.rows (i:Int)).es (j:Int)).q=r1 / r3
 d:F.dim 3 3
theorem aFC {es:List RE} {l:List Rat} (h:qs es=l) {j:Nat} (hj:j < es.length):(gt es (j:Int)).q=l.getD j 0:=by
 rw [←h,bT hj]
section
variable {X:List Nat} {w0:World} {M0:List Ent} {I0:List aN}
theorem aEB {m:LE} {F:MX} {bm i j:Nat} (e:Exm m) (hF:Fits F) (hi:i < 3) (hj:j < 3) (h:xO m bm F∈I0):
  CD Tryz.prog 81 [pb bm, .int .i64 (i:Int), .int .i64 (j:Int)] X w0 M0 I0 (RQ (r1 / r3) 50200 M0 I0):=by
 have lF:=hF.d.1
 have lr:=hF.d.row hi
 have hpl:=e.f.p
 have hP:(gt m.p.es (j:Int)).q=r1:=by
  rw [aFC e.P (by omega)]
  match j,hj with
  |0,_=>rfl
  |1,_=>rfl
  |2,_=>rfl
 have hq:=hF.q i j hi hj
 refine aRI h (fun q c b n=>?_)
 refine aL (φ:=eU m 200) (Hv.rmm (List.Mem.tail _ h)) ?_
 refine aL (φ:=gQ F 50000) (Hv.rmf (List.Mem.tail _ (List.Mem.tail _ h))) ?_
 refine aL (φ:=dL m.p 200) (Hv.lep aA) ?_
 refine aL (φ:=dL (gt F.rows (i:Int)) 50000) (Hv.xrow (m:=F) aA (by omega)) ?_
 refine aL (φ:=bE (gt m.p.es (j:Int)) 200) (Hv.lel (r:=m.p) aA (by omega)) ?_
 refine aL (φ:=bE (gt (gt F.rows (i:Int)).es (j:Int)) 50000) (Hv.lel (r:=gt F.rows (i:Int)) aA (by omega)) ?_
 refine aL (φ:=aD (F).p (recs eL (F).rows)) (Hv.xsl aA) ?_
 refine aL (φ:=aD (m.p).p (recs eR (m.p).es)) (Hv.lsl aA) ?_
 refine aL (φ:=aD (gt F.rows (i:Int)).p (recs eR (gt F.rows (i:Int)).es)) (Hv.lsl (k:=50000) aA) ?_
 have hM:=fun M0 I0 h1 h2=>aHT (X:=X) (w0:=w0) (M0:=M0) (I0:=I0) (a:=gt (gt F.rows (i:Int)).es (j:Int)) (b:=gt m.p.es (j:Int)) (k:=50000) (m:=200) (by omega) h1 h2
 rw [hq,hP] at hM
 refine iC Tryz.func81 rfl Tryz.ntmps81 rfl ?_
 refine fG ?_
 refine dG (fun b6=>?_)
 repeat refine aC ?_
 (repeat refine aF ?_);refine tyW ([]) (aD (gt F.rows (i:Int)).p (recs eR (gt F.rows (i:Int)).es)::aD m.p.p (recs eR m.p.es)::aD F.p (recs eL F.rows)::aD (some ⟨bm,0,none⟩) [mv m.a,lv m.l,lv m.p, .slice q 1 c,mv b,mv n,mv F]::I0) [0,1,2,3,4,5,6,7,8,9,10,11,12,13,14,15,16,17,18,19] [1,1,1,1,1,1,1,1,1,0,1,1,1,1,1,1,1,0,0,0] mixed ?_
 repeat refine aC ?_
 refine gT rfl (hM _ _ (Hv.mem aA) (Hv.mem aA)) (fun x hx=>?_)
 repeat refine aC ?_
 refine aR (cs:=eR x) (.inl rfl) rfl rfl aA rfl M0 (bE x 50200::I0) aK aJ ⟨rfl,x,rfl,?_,rfl⟩
 rw [hx]
 show r1 / r3*r1=r1 / r3
 decide+kernel
theorem aJG {m:LE} {F:MX} {bm i:Nat} (e:Exm m) (hF:Fits F) (hi:i < 3) (h:xO m bm F∈I0):
  CD Tryz.prog 40 [pb bm, .int .i64 (i:Int)] X w0 M0 I0 (RQ (r1 - r1 / r3) 50201 M0 I0):=by
 have hW:=fun M0 I0=>aBO (X:=X) (w0:=w0) (M0:=M0) (I0:=I0) (x:=1) (by decide)
 have hP:=fun M0 I0 h=>aEB (X:=X) (w0:=w0) (M0:=M0) (I0:=I0) (m:=m) (F:=F) (bm:=bm) (i:=i) (j:=i) e hF hi hi h
 have hS:=fun (x y:RE) M0 I0 h1 h2=>aQV (X:=X) (w0:=w0) (M0:=M0) (I0:=I0) (a:=x) (b:=y) (k:=0) (m:=50200) (by omega) h1 h2
 refine aP Tryz.func40 rfl Tryz.ntmps40 rfl ?_
 refine fG ?_
 refine dG (fun b4=>?_)
 repeat refine aC ?_
 refine gT rfl (hW _ _) (fun o ho=>?_)
 repeat refine aC ?_
 refine gT rfl (hP _ _ aA) (fun p hp=>?_)
 repeat refine aC ?_
 refine gT rfl (hS o p _ _ (Hv.mem aA) (Hv.mem aA)) (fun x hx=>?_)
 repeat refine aC ?_
 refine bX (φ:=bE x 50201) (Hv.q (k:=0+50200+1) aA (by omega)) ?_
 refine aR (cs:=eR x) (.inl rfl) rfl rfl aA rfl M0 (bE x 50201::I0) aK aJ ⟨rfl,x,rfl,by rw [hx,ho,hp],rfl⟩
theorem aKP {m:LE} {F:MX} {bm:Nat} (e:Exm m) (hF:Fits F) (h:xO m bm F∈I0):
  CD Tryz.prog 39 [pb bm] X w0 M0 I0 (LQ [-r0+(0+r1 / r3*r0+r1 / r3*r0+r1 / r3*r3), -r0+(0+r1 / r3*r0+r1 / r3*r0+r1 / r3*r3), -r3+(0+r1 / r3*r0+r1 / r3*r0+r1 / r3*r3)] 200000 M0 I0):=by
 have hll:=e.f.l
 have hl:=fun (j:Nat) (hj:j < 3)=>aFC e.L (j:=j) (by omega)
 refine aRI h (fun q c b n=>?_)
 refine aL (φ:=eU m 200) (Hv.rmm (List.Mem.tail _ h)) ?_
 refine aL (φ:=dL m.l 200) (Hv.lel' aA) ?_
 refine aL (φ:=aD (m.l).p (recs eR (m.l).es)) (Hv.lsl aA) ?_
 refine aV Tryz.func39 rfl Tryz.ntmps39 rfl ?_
 repeat refine aC ?_
 refine jM 36 4 ?_
 refine bN (φ:=aX [] 200000) Hv.nilR ?_
 refine pU [0,13,14] rfl (fun k G M I=>∃(t:Nat) (es:List RE) (q1:Option Addr) (c1:Nat),t≤3∧k=3 - t∧es.length=t∧(∀j:Nat,j < t→(gt es (j:Int)).q= -(gt m.l.es (j:Int)).q+sm 3 (fun a=>r1 / r3*(gt m.l.es (a:Int)).q))∧G=[(3, .slice q1 es.length c1),(15, .int .i64 t)]∧M= .row q1 es.length c1 (recs eR es) 36 4::M0∧I=aX es 200000::aD m.l.p (recs eR m.l.es)::dL m.l 200::aD (some ⟨bm,0,none⟩) [mv m.a,lv m.l,lv m.p, .slice q 1 c,mv b,mv n,mv F]::I0) (3) (⟨0,[],none,0,by omega,rfl,rfl,fun j hj=>by omega,rfl,rfl,rfl⟩) ?_
 rintro kk G M I ⟨t,es,q1,c1,ht,rfl,hel,heq,rfl,rfl,rfl⟩
 by_cases htR:t < 3
 ·have hN:=fun M0 I0 h=>aIH (X:=X) (w0:=w0) (M0:=M0) (I0:=I0) (e:=gt m.l.es (t:Int)) (k:=200) (by omega) h
  refine bN (φ:=bE (gt m.l.es (t:Int)) 200) (Hv.lel (r:=m.l) aA (by omega)) ?_
  repeat refine aC ?_
  refine dG (fun b5=>?_)
  repeat refine aC ?_
  refine gT rfl (hN _ _ (Hv.mem aA)) (fun s0 hs0=>?_)
  refine dG (fun b6=>?_)
  repeat refine aC ?_
  rw [hll]
  refine pU [0,3,4,6,13,14,15,26,27] rfl (fun k G M I=>∃(j:Nat) (s:RE),j≤3∧k=3 - j∧s.q= -(gt m.l.es (t:Int)).q+sm j (fun a=>r1 / r3*(gt m.l.es (a:Int)).q)∧G=[(28, .int .i64 j)]∧M= .blk b6 (eR s) 36:: .row q1 es.length c1 (recs eR es) 36 4::M0∧I=bE s (200+j*50401)::aX es 200000::aD m.l.p (recs eR m.l.es)::dL m.l 200::aD (some ⟨bm,0,none⟩) [mv m.a,lv m.l,lv m.p, .slice q 1 c,mv b,mv n,mv F]::I0) (3) (⟨0,s0,by omega,rfl,by rw [hs0];show _=_+(0:Rat);grind,rfl,rfl,rfl⟩) ?_
  rintro kk G M I ⟨j,s,hj,rfl,hs,rfl,rfl,rfl⟩
  by_cases hj3:j < 3
  ·have hP:=fun M0 I0 h=>aEB (X:=X) (w0:=w0) (M0:=M0) (I0:=I0) (m:=m) (F:=F) (bm:=bm) (i:=t) (j:=j) e hF htR hj3 h
   have hM:=fun (x:RE) M0 I0 h1 h2=>aHT (X:=X) (w0:=w0) (M0:=M0) (I0:=I0) (a:=x) (b:=gt m.l.es (j:Int)) (k:=50200) (m:=200) (by omega) h1 h2
   have hA:=fun (y:RE) M0 I0 h1 h2=>pJ (X:=X) (w0:=w0) (M0:=M0) (I0:=I0) (a:=s) (b:=y) (k:=200+j*50401) (m:=50400) (by omega) h1 h2
   refine bN (φ:=bE (gt m.l.es (j:Int)) 200) (Hv.lel (r:=m.l) aA (by omega)) ?_
   repeat refine aC ?_
   refine dG (fun b8=>?_)
   repeat refine aC ?_
   (repeat refine aF ?_);refine aS 2 [0,1,2,3,5,4,6,7,8] [2,2,2,2,2,0,0,0,0] mixed (by kernel_rfl) ?_
   repeat refine aC ?_
   refine gT rfl (hP _ _ aA) (fun p hp=>?_)
   repeat refine aC ?_
   refine gT rfl (hM p _ _ (Hv.mem aA) (Hv.mem aA)) (fun y hy=>?_)
   repeat refine aC ?_
   refine gT rfl (hA y _ _ (Hv.mem aA) (Hv.mem aA)) (fun s2 hs2=>?_)
   repeat refine aC ?_
   refine bX (φ:=bE s2 (200+(j+1)*50401)) (Hv.q (k:=200+j*50401+50400+1) aA (by omega)) ?_
   refine lN (3 - (j+1)) (⟨j+1,s2,by omega,rfl,by rw [hs2,hs,hy,hp];show _=_+(sm j _+_);grind,rfl,rfl,rfl⟩)
  ·obtain rfl:j=3:=by omega
   repeat refine aC ?_
   refine nG (cs:=recs eR [s]) ([rv s]) rfl (fun bb=>?_)
   refine tyP (ys:=[s]) 2 rfl rfl rfl (fun q2 c2=>?_)
   repeat refine aC ?_
   refine bX (φ:=bE s 200000) (Hv.q (k:=200+3*50401) aA (by omega)) ?_
   refine bX (φ:=aX (es++[s]) 200000) (Hv.snoc aA aA) ?_
   refine lN (3 - (t+1)) (⟨t+1,es++[s],q2,c2,by omega,rfl,by simp;omega,fun j hj=>?_,rfl,rfl,rfl⟩)
   rw [nE hel j hj]
   by_cases e1:j < t
   ·rw [if_pos e1];exact heq j e1
   ·rw [if_neg e1,show j=t by omega];exact hs
 ·obtain rfl:t=3:=by omega
  repeat refine aC ?_
  refine sO (k:=200000) aA ?_
  refine iZ rfl rfl (⟨rfl,⟨q1,c1,es⟩,rfl,?_,rfl⟩)
  apply jG
  ·show (es.map RE.q).length=_
   simp [hel]
  ·intro j hj
   have hj':j < 3:=by simpa [hel] using hj
   show (qs es).getD j 0=_
   rw [bT (by omega),heq j hj']
   show -(gt m.l.es (j:Int)).q+(0+r1 / r3*(gt m.l.es ((0:Nat):Int)).q+r1 / r3*(gt m.l.es ((1:Nat):Int)).q+r1 / r3*(gt m.l.es ((2:Nat):Int)).q)=_
   rw [hl j hj',hl 0 (by omega),hl 1 (by omega),hl 2 (by omega)]
   match j,hj' with
   |0,_=>rfl
   |1,_=>rfl
   |2,_=>rfl
end
end Go.Proofs.YthhldplegmeolaaGreat

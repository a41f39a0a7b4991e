/- TopLoops, loop: the search of absolute. -/
import Derived.Test.YtejbgkajdomgcaaZvar
import Derived.Test.YtejbgkajdomgcaaZval
import Derived.Test.YtejbgkajdomgcaaZvae
import Derived.Test.YtejbgkajdomgcaaZvap
set_option linter.unusedSimpArgs false
set_option linter.unusedVariables false
set_option maxRecDepth 100000
set_option maxHeartbeats 4000000
namespace Go.Proofs.Ytejbgkajdomgcaa
open Go Go.Fx
abbrev eBl (b:Bool):List Value:=[.bool b]
instance eBl.szd:Sized eBl 1:=⟨fun _=>rfl⟩
instance eBl.ones:Ones eBl:=⟨fun m u hu=>by
 simp only [eBl,List.mem_cons,List.not_mem_nil,or_false] at hu
 subst hu;rfl⟩
theorem aKS {P:Program} {n:Nat} {ops l:List Oper} {Q1 Q2:Exit→Act→World→Prop} {m:Fx.Mode} {G:Env} {X:List Nat} {w0:World} {M:List Ent} {I:List aO} {c y:Code} (J:Env→List Ent→List aO→Prop) (h:RD P n ops (Then (c.wp P (Then (aFT n J X w0) Q1)) Q2) m l G X w0 M I) (k:∀G' M' I',J G' M' I'→TD P n y Q1 G' X w0 M' I'):RD P n ops (Then ((Code.seq c y).wp P Q1) Q2) m l G X w0 M I:=
 ⟨fun w hw=>⟨fun a ha=>nH (fun a w q=>by
  unfold Then at q ⊢
  refine wp_seq ?_
  refine Code.wp_mono (fun e a w q=>?_) q
  cases e <;>first|exact q|(obtain ⟨G',⟨M',I',hJ,hm⟩,hh⟩:=q;exact ((k G' M' I' hJ).go w hm).go a hh)) l m a w ((h.go w hw).go a ha)⟩⟩
def unk (n:Nat) (kn:List Bool):Nat:=((rg n).filter (fun x=> !(gt kn x))).length
theorem aNJ (n:Nat):(rg n).Nodup:=List.pairwise_map.2 (List.nodup_range.imp (fun hne e=>hne (by omega)))
theorem aHM {n:Nat} {kn kn':List Bool} {v:Int} (hv:0≤v∧v < n) (h:∀x:Int,0≤x→x < n→gt kn x=true→gt kn' x=true) (h0:gt kn v=false) (h1:gt kn' v=true):unk n kn' < unk n kn:=by
 unfold unk
 have hnd:(v::(rg n).filter (fun x=> !(gt kn' x))).Nodup:=by
  rw [List.nodup_cons]
  refine ⟨fun hm=>?_,(aNJ n).filter _⟩
  have:=(List.mem_filter.1 hm).2
  rw [h1] at this;exact absurd this (by decide)
 have:=nS _ ((rg n).filter (fun x=> !(gt kn x))) hnd (fun x hx=>by
  rcases List.mem_cons.1 hx with rfl|hx
  ·exact List.mem_filter.2 ⟨jI.2 hv,by rw [h0];rfl⟩
  ·obtain ⟨h2,h3⟩:=List.mem_filter.1 hx
   refine List.mem_filter.2 ⟨h2,?_⟩
   have hr:=jI.1 h2
   cases hk:gt kn x with
   |false=>rfl
   |true=>rw [h x hr.1 hr.2 hk] at h3;exact absurd h3 (by decide))
 simp only [List.length_cons] at this
 omega
theorem Gdq.step {q g r t r':Qn} (h:Gdq q g r) (ht:t.nz) (hr:Qn.rel (Qn.mul r t) r') (hf:(Qn.prm (Qn.mul q t)).fit):Gdq (Qn.prm (Qn.mul q t)) g r':=by
 have hn:=Qn.nz_mul h.nz ht
 refine ⟨Qn.prm_nz hn,hf,(Qn.prm_rel hn).trans ?_⟩
 have h1:=h.rel.mul (Qn.rel.refl t)
 rw [Qn.mul_assoc] at h1
 exact h1.trans ((Qn.rel.refl g).mul hr)
def oF (E:List RX) (k:Int):Qn:=(gt E k).q
structure Clo (E:List RX) (m:Nat) (Pq:Qn→Prop):Prop where
 one:Pq Qn.one
 mul:∀(q:Qn) (k:Int),Pq q→0≤k→k < m→(uQ (Qn.mul q (oF E k))=0∧Pq (Qn.prm (Qn.mul q (oF E k))))∧(uQ (Qn.mul q (Qn.prm (oF E k).cnj))=0∧Pq (Qn.prm (Qn.mul q (Qn.prm (oF E k).cnj))))
 btw:∀f g:Qn,Pq f→Pq g→uQ (Qn.mul (Qn.prm g.cnj) f)=0
def aCQ (n:Nat) (Pq:Qn→Prop) (kn:List Bool) (out:List Qn):Prop:=∀x:Int,0≤x→x < n→gt kn x=true→Pq (gt out x)
def FlQ (Pq:Qn→Prop) (bk bo n m:Nat) (E:List RX) (T:List Int) (R:Int→Qn) (g:Qn) (kn:List Bool) (out:List Qn) (v:Int) (M0:List Ent) (I0:List aO) (u:Value) (M:List Ent) (I:List aO):Prop:=
 ∃(kn':List Bool) (out':List Qn) (z:Int),u= .int .i64 z∧M= .blk bk (recs eBl kn') 4:: .blk bo (recs eQ out') 28::M0∧I=I0∧((z=3∧¬Clo E m Pq)∨(z=0∧Dfs n (lks E) T R g kn out kn' out'∧gt kn' v=true∧(Clo E m Pq→aCQ n Pq kn' out')))
section
variable {X:List Nat} {w0:World}
theorem aDD (Pq:Qn→Prop) {p q:Option Addr} {b3 b6 b7 b8 b9 bk bo n m c c2 l:Nat} {E:List RX} {T:List Int} {R:Int→Qn} {g:Qn} (hm:E.length=m) (hm2:m≤256) (hn:1≤n∧n≤64) (hl:T.length=l) (hl2:l≤256) (he:∀e∈E,EdOk n e) (hT:∀k∈T,0≤k∧k < m) (hR:∀k∈T,oL (lks E) (oF E) R k):
  ∀(d:Nat) (M0:List Ent) (I0:List aO) (kn:List Bool) (out:List Qn) (v:Int),unk n kn≤d→kn.length=n→out.length=n→(0≤v∧v < n)→gt kn v=false→Gdq (gt out v) g (R v)→(Clo E m Pq→aCQ n Pq kn out∧Pq (gt out v))→aN (some ⟨b3,0,none⟩) [.slice p m c]∈I0→aN (some ⟨b6,0,none⟩) [.slice (some ⟨bo,0,none⟩) n n]∈I0→aN (some ⟨b7,0,none⟩) [.slice (some ⟨bk,0,none⟩) n n]∈I0→aN (some ⟨b8,0,none⟩) [.slice q l c2]∈I0→aN (some ⟨b9,0,none⟩) [.func (.func 40) #[] #[.pointer (some ⟨b7,0,none⟩), .pointer (some ⟨b8,0,none⟩), .pointer (some ⟨b3,0,none⟩), .pointer (some ⟨b6,0,none⟩), .pointer (some ⟨b9,0,none⟩)]]∈I0→aN p (recs eX E)∈I0→aN q (recs (eI .i64) T)∈I0→
   CD Try.prog 40 [.int .i64 v, .pointer (some ⟨b7,0,none⟩), .pointer (some ⟨b8,0,none⟩), .pointer (some ⟨b3,0,none⟩), .pointer (some ⟨b6,0,none⟩), .pointer (some ⟨b9,0,none⟩)] X w0 (.blk bk (recs eBl kn) 4:: .blk bo (recs eQ out) 28::M0) I0 (FlQ Pq bk bo n m E T R g kn out v M0 I0):=by
 intro d
 induction d with
 |zero=>
  intro M0 I0 kn out v hu lk lo hv hkv
  exfalso
  have:=aHM (n:=n) (kn:=kn) (kn':=st kn v true) hv (fun x h0 h1 hx=>by rw [gM _ ⟨hv.1,by omega⟩ h0,hx];split <;>rfl) hkv (by rw [gM _ ⟨hv.1,by omega⟩ hv.1,if_pos rfl])
  omega
 |succ d ih=>
  intro M0 I0 kn out v hu lk lo hv hkv hgd hcp f3 f6 f7 f8 f9 fp fq
  obtain ⟨v0,v1⟩:=hv
  have hmid:=Mid.start (ms:=lks E) (ls:=T) (R:=R) (g:=g) lk lo v0 v1 hgd
  have hcp0:Clo E m Pq→aCQ n Pq (st kn v true) out:=fun hc x h0 h1 hx=>by
   rw [gM _ ⟨v0,by omega⟩ h0] at hx
   by_cases e:x=v
   ·rw [e];exact (hcp hc).2
   ·rw [if_neg e] at hx;exact (hcp hc).1 x h0 h1 hx
  refine aLL Try.func40 rfl Try.ntmps40 rfl ?_
  refine lU ?_
  repeat refine aD ?_
  refine qU [0,1,3,4,5,17,18] rfl (fun k G M I=>∃(i:Nat) (kn':List Bool) (out':List Qn),i≤l∧k=l - i∧Mid n (lks E) T R g kn out v i kn' out'∧(Clo E m Pq→aCQ n Pq kn' out')∧G=[(19, .int .i64 i)]∧M= .blk bk (recs eBl kn') 4:: .blk bo (recs eQ out') 28::M0∧I0=I) (l) (⟨0,st kn v true,out,by omega,rfl,hmid,hcp0,rfl,rfl,rfl⟩) ?_
  rintro kk G M I ⟨i,kn1,out1,hi,rfl,hMd,hcp1,rfl,rfl,rfl⟩
  by_cases hil:i < l
  ·obtain ⟨k,hgk⟩:∃k,gt T (i:Int)=k:=⟨_,rfl⟩
   have hkT:k∈T:=by rw [←hgk];exact eO ⟨by omega,by omega⟩
   obtain ⟨k0,k1⟩:=hT k hkT
   obtain ⟨x,hx⟩:∃x,gt E k=x:=⟨_,rfl⟩
   have hed:EdOk n x:=by rw [←hx];exact he _ (eO ⟨by omega,by omega⟩)
   obtain ⟨⟨xa0,xa1⟩,xb0,xb1⟩:=hed.r
   have hla:gt (lks E) k=⟨x.a,x.b,0⟩:=by rw [mW ⟨k0,by omega⟩,hx]
   have hag:Qn.agr x.q (R x.a) (R x.b):=by
    have:=hR k hkT
    unfold oL oF at this
    rwa [hla,hx] at this
   repeat refine aD ?_
   rw [hgk]
   repeat refine aD ?_
   refine iL (fun b10=>?_)
   rw [hx]
   repeat refine aD ?_
   refine oJ (cs:=eX x) .here ?_
   (repeat refine aL ?_);refine tyW ([]) (aN (some ⟨b10,0,none⟩) (eX x)::I0) [0,1,2,3,4,5,6,7] [1,1,2,2,0,0,0,0] mixed ?_
   repeat refine aD ?_
   refine iL (fun b11=>?_)
   refine aKS (fun G M I=>∃(nx:Int) (t:Qn),(0≤nx∧nx < n)∧t.nz∧t.fit∧Qn.rel (Qn.mul (R v) t) (R nx)∧((x.a=v∧x.b=nx)∨(x.b=v∧x.a=nx))∧(t=x.q∨t=Qn.prm x.q.cnj)∧G=[(0, .int .i64 v),(1, .pointer (some ⟨b7,0,none⟩)),(3, .pointer (some ⟨b3,0,none⟩)),(4, .pointer (some ⟨b6,0,none⟩)),(5, .pointer (some ⟨b9,0,none⟩)),(11, .pointer (some ⟨b11,0,none⟩)),(12, .int .i64 nx),(13, .int .i64 0),(17, .slice q l c2),(18, .int .i64 l),(19, .int .i64 i)]∧M= .blk b11 (eQ t) 28:: .blk bk (recs eBl kn1) 4:: .blk bo (recs eQ out1) 28::M0∧I0=I) ?_ ?_
   ·have hC:=fun M0 I0=>wK (X:=X) (w0:=w0) (M0:=M0) (I0:=I0) (q:=x.q) hed.nz hed.fit
    by_cases hav:v=x.a
    ·repeat refine aD ?_
     refine iM rfl (hC _ _) ?_
     repeat refine aD ?_
     refine tyE ⟨x.b,Qn.prm x.q.cnj,⟨xb0,xb1⟩,Qn.prm_nz (Qn.nz_cnj hed.nz),rM (Qn.nz_cnj hed.nz) (sF hed.fit),((Qn.rel.refl _).mul (Qn.prm_rel (Qn.nz_cnj hed.nz))).trans (by rw [hav];exact Qn.agr_back hed.nz hag), .inl ⟨hav.symm,rfl⟩, .inr rfl,rfl,rfl,rfl⟩
    ·by_cases hbv:v=x.b
     ·repeat refine aD ?_
      refine tyE ⟨x.a,x.q,⟨xa0,xa1⟩,hed.nz,hed.fit,by rw [hbv];exact hag, .inr ⟨hbv.symm,rfl⟩, .inl rfl,rfl,rfl,rfl⟩
     ·repeat refine aD ?_
      refine mI (l - (i+1)) (⟨i+1,kn1,out1,by omega,rfl,hMd.pass (by omega) (by rw [hgk,hla];exact fun h=>absurd h.symm hav) (by rw [hgk,hla];exact fun h=>absurd h.symm hbv),hcp1,rfl,rfl,rfl⟩)
   ·rintro G M I ⟨nx,t,⟨nx0,nx1⟩,htn,htf,htr,hlk,htt,rfl,rfl,rfl⟩
    refine oJ (cs:=eQ t) .here ?_
    have hgv:Gdq (gt out1 v) g (R v):=by rw [hMd.at_.2];exact hgd
    have hM:=fun M0 I0=>yZ (X:=X) (w0:=w0) (M0:=M0) (I0:=I0) (p:=gt out1 v) (q:=t) hgv.nz hgv.fit htn htf
    have lk1:=hMd.lk
    have lo1:=hMd.lo
    repeat refine aD ?_
    cases hkx:gt kn1 nx with
    |true=>
     have hpa:x.a=v→gt kn1 x.b=true:=fun h=>hlk.elim (fun c=>by rw [c.2];exact hkx) (fun c=>absurd (h.trans c.1.symm) hed.ne)
     have hpb:x.b=v→gt kn1 x.a=true:=fun h=>hlk.elim (fun c=>absurd (c.1.trans h.symm) hed.ne) (fun c=>by rw [c.2];exact hkx)
     repeat refine aD ?_
     refine mI (l - (i+1)) (⟨i+1,kn1,out1,by omega,rfl,hMd.pass (by omega) (by rw [hgk,hla];exact hpa) (by rw [hgk,hla];exact hpb),hcp1,rfl,rfl,rfl⟩)
    |false=>
     repeat refine aD ?_
     (repeat refine aL ?_);refine aFQ 2 ([]) (aN (some ⟨b11,0,none⟩) (eQ t)::I0) [0,1,2,3,4,5,6,7,8,9,10,11,12,13] [1,1,1,1,1,0,0,0,0,0,1,0,0,0] bN bR mixed (by kernel_rfl) ?_
     repeat refine aD ?_
     refine iM rfl (hM _ _) ?_
     have hcm:Clo E m Pq→uQ (Qn.mul (gt out1 v) t)=0∧Pq (Qn.prm (Qn.mul (gt out1 v) t)):=fun hc=>by
      have h1:=hc.mul (gt out1 v) k (hcp1 hc v v0 v1 hMd.at_.1) k0 k1
      unfold oF at h1
      rw [hx] at h1
      rcases htt with rfl|rfl
      ·exact h1.1
      ·exact h1.2
     rcases aDG (Qn.mul (gt out1 v) t) with hz|hz
     ·obtain ⟨hfit,hw⟩:=aHJ hz
      rw [hz,hw]
      have hgx:Gdq (Qn.prm (Qn.mul (gt out1 v) t)) g (R nx):=hgv.step htn htr hfit
      replace hcm:Clo E m Pq→Pq (Qn.prm (Qn.mul (gt out1 v) t)):=fun hc=>(hcm hc).2
      generalize Qn.prm (Qn.mul (gt out1 v) t)=q' at hgx hcm
      repeat refine yXh ?_
      refine iE (vs:=eQ q') rfl rfl rfl (Ones.one q') qE (StAts.r (enc:=eQ) (sz:=4) (ms:=out1) (i:=nx) q' ⟨by omega,by omega⟩ rfl) rfl rfl ⟨okF,?_⟩
      repeat refine aD ?_
      have hu1:unk n kn1≤d:=by
       have:=aHM ⟨v0,v1⟩ (fun y h0 h1 hy=>(hMd.mono y h0 h1 hy).1) hkv hMd.at_.1
       omega
      have hgn:gt (st out1 nx q') nx=q':=by rw [gM _ ⟨nx0,by omega⟩ nx0,if_pos rfl]
      have hcp2:Clo E m Pq→aCQ n Pq kn1 (st out1 nx q')∧Pq (gt (st out1 nx q') nx):=fun hc=>⟨fun y h0 h1 hy=>by
       rw [gM _ ⟨nx0,by omega⟩ h0]
       by_cases e:y=nx
       ·rw [e,hkx] at hy;exact absurd hy (by decide)
       ·rw [if_neg e];exact hcp1 hc y h0 h1 hy,by rw [hgn];exact hcm hc⟩
      (refine pV rfl rfl (ih M0 _ kn1 (st out1 nx q') nx hu1 lk1 (by rw [aY];exact lo1) ⟨nx0,nx1⟩ hkx (by rw [hgn];exact hgx) hcp2 aG aG aG aG aG aG aG) rfl rfl rfl ?_;rintro _ _ _ ⟨kn2,out2,z,rfl,rfl,rfl,hzz⟩;refine cK ?_)
      rcases hzz with ⟨rfl,hnc⟩|⟨rfl,hD,hk2,hcp3⟩
      ·repeat refine aD ?_
       refine lL rfl rfl (⟨kn2,out2,3,rfl,rfl,rfl, .inl ⟨rfl,hnc⟩⟩)
      ·repeat refine aD ?_
       refine mI (l - (i+1)) (⟨i+1,kn2,out2,by omega,rfl,hMd.next (by omega) nx0 nx1 ⟨v0,v1⟩ hkx hD hk2 (by rw [hgk,hla];exact hlk),hcp3,rfl,rfl,rfl⟩)
     ·have hnc:¬Clo E m Pq:=fun hc=>by rw [(hcm hc).1] at hz;exact absurd hz (by decide)
      rw [hz]
      generalize prW (Qn.mul (gt out1 v) t)=q'
      repeat refine yXh ?_
      refine iE (vs:=eQ q') rfl rfl rfl (Ones.one q') qE (StAts.r (enc:=eQ) (sz:=4) (ms:=out1) (i:=nx) q' ⟨by omega,by omega⟩ rfl) rfl rfl ⟨okF,?_⟩
      repeat refine aD ?_
      refine lL rfl rfl (⟨kn1,st out1 nx q',3,rfl,rfl,rfl, .inl ⟨rfl,hnc⟩⟩)
  ·obtain rfl:l=i:=by omega
   repeat refine aD ?_
   refine lL rfl rfl (⟨kn1,out1,0,rfl,rfl,rfl, .inr ⟨rfl,hMd.done (by omega),hMd.at_.1,hcp1⟩⟩)
end
def AbQ (Pq:Qn→Prop) (n m:Nat) (E:List RX) (M0:List Ent) (I0:List aO) (v:Value) (M:List Ent) (I:List aO):Prop:=
 (v= .tuple #[.slice none 0 0, .int .i64 3]∧M0=M∧I0=I∧¬Clo E m Pq)∨
 ∃(b:Nat) (out:List Qn) (T:List Int),v= .tuple #[.slice (some ⟨b,0,none⟩) n n, .int .i64 0]∧M0=M∧I=aN (some ⟨b,0,none⟩) (recs eQ out)::I0∧out.length=n∧(∀x:Int,0≤x→x < n→(gt out x).nz∧(gt out x).fit)∧TrOk E m T∧(∀k∈T,oL (lks E) (oF E) (gt out) k)∧(Clo E m Pq→∀x:Int,0≤x→x < n→Pq (gt out x))
theorem aKT {n:Nat} {x:Int}:gt (List.replicate n false) x=false:=by
 unfold gt
 rw [List.getD_eq_getElem?_getD,List.getElem?_replicate]
 split <;>rfl
theorem Rts.new {n:Nat} {ms:List LK} {ls:List Int} {tq:Int→Qn}:Rts n ms ls tq (List.replicate n false) (List.replicate n Qn.zero):=by
 have h:∀x:Int,gt (List.replicate n false) x=false:=fun x=>by
  unfold gt
  rw [List.getD_eq_getElem?_getD,List.getElem?_replicate]
  split <;>rfl
 refine ⟨by simp,by simp,fun x _ _ hx=>?_,fun k _=>by rw [h,h],fun k _ hx=>?_⟩
 ·rw [h] at hx;exact absurd hx (by decide)
 ·rw [h] at hx;exact absurd hx (by decide)
section
variable {X:List Nat} {w0:World} {M0:List Ent} {I0:List aO}
theorem aKX (Pq:Qn→Prop) {p:Option Addr} {n m c:Nat} {E:List RX} (hm:E.length=m) (hm2:m≤256) (hn:1≤n∧n≤64) (he:∀e∈E,EdOk n e) (hp:aN p (recs eX E)∈I0):
  CD Try.prog 22 [.int .i64 n, .slice p m c] X w0 M0 I0 (AbQ Pq n m E M0 I0):=by
 have hTr:=fun M0 I0 h=>aIR (X:=X) (w0:=w0) (M0:=M0) (I0:=I0) (p:=p) (n:=n) (E:=E) (m:=m) (c:=c) hm hm2 hn he h
 have hId:=fun M0 I0=>xI (X:=X) (w0:=w0) (M0:=M0) (I0:=I0)
 refine bO Try.func22 rfl Try.ntmps22 rfl ?_
 refine lU ?_
 (refine aEL rfl rfl rfl ?_;intro b3;refine cK ?_)
 repeat refine aD ?_
 (refine iW (n) rfl rfl (by omega) (by omega) (by omega) (by omega) (qJ (enc:=eQ) (by decide) Qn.zero _) rfl rfl ?_;intro bo;refine cK ?_)
 refine iL (fun b6=>?_)
 repeat refine aD ?_
 refine aF (cs:=[.slice (some ⟨bo,0,none⟩) n n]) rP ?_
 (refine iW (n) rfl rfl (by omega) (by omega) (by omega) (by omega) (qJ (enc:=eBl) (by decide) false _) rfl rfl ?_;intro bk;refine cK ?_)
 refine iL (fun b7=>?_)
 repeat refine aD ?_
 refine aF (cs:=[.slice (some ⟨bk,0,none⟩) n n]) rP ?_
 (refine dS rfl (hTr _ _ aG) ?_;rintro _ _ _ ⟨q,c2,T,rfl,⟨hT,hTl⟩,rfl,rfl⟩;refine cK ?_)
 obtain ⟨R,hRz,hRT⟩:=aJS (ms:=lks E) (tq:=oF E) hT.f (fun k hk=>by
  obtain ⟨k0,k1⟩:=hT.r k hk
  exact (he _ (eO (ms:=E) (i:=k) ⟨k0,by omega⟩)).nz)
 have hFl:=fun (g:Qn) (b8 b9:Nat)=>aDD Pq (g:=g) (X:=X) (w0:=w0) (p:=p) (q:=q) (b3:=b3) (b6:=b6) (b7:=b7) (b8:=b8) (b9:=b9) (bk:=bk) (bo:=bo) (n:=n) (m:=m) (c:=c) (c2:=c2) (l:=T.length) (E:=E) (T:=T) (R:=R) hm hm2 hn rfl (by omega) he hT.r hRT
 have hrg:∀k∈T,(0≤(gt (lks E) k).a∧(gt (lks E) k).a < n)∧(0≤(gt (lks E) k).b∧(gt (lks E) k).b < n):=fun k hk=>by
  obtain ⟨k0,k1⟩:=hT.r k hk
  rw [mW ⟨k0,by omega⟩]
  exact (he _ (eO (ms:=E) (i:=k) ⟨k0,by omega⟩)).r
 refine iL (fun b8=>?_)
 repeat refine aD ?_
 refine aF (cs:=[.slice q T.length c2]) rP ?_
 refine iL (fun b9=>?_)
 repeat refine aD ?_
 refine oJ (cs:=[.func (.func 40) #[] #[.pointer (some ⟨b7,0,none⟩), .pointer (some ⟨b8,0,none⟩), .pointer (some ⟨b3,0,none⟩), .pointer (some ⟨b6,0,none⟩), .pointer (some ⟨b9,0,none⟩)]]) rP ?_
 refine qU [6,7,9,20] rfl (fun k G M I=>∃(i:Nat) (kn:List Bool) (out:List Qn),i≤n∧k=n - i∧Rts n (lks E) T (oF E) kn out∧(∀j:Nat,j < i→gt kn (j:Int)=true)∧(Clo E m Pq→aCQ n Pq kn out)∧G=[(21, .int .i64 i)]∧M= .blk bk (recs eBl kn) 4:: .blk bo (recs eQ out) 28::M0∧I=aN (some ⟨b9,0,none⟩) [.func (.func 40) #[] #[.pointer (some ⟨b7,0,none⟩), .pointer (some ⟨b8,0,none⟩), .pointer (some ⟨b3,0,none⟩), .pointer (some ⟨b6,0,none⟩), .pointer (some ⟨b9,0,none⟩)]]::aN (some ⟨b8,0,none⟩) [.slice q T.length c2]::aN (some ⟨b7,0,none⟩) [.slice (some ⟨bk,0,none⟩) n n]::aN (some ⟨b6,0,none⟩) [.slice (some ⟨bo,0,none⟩) n n]::aN (some ⟨b3,0,none⟩) [.slice p m c]::aN q (recs (eI .i64) T)::I0) (n) (⟨0,List.replicate n false,List.replicate n Qn.zero,by omega,rfl,Rts.new,fun j hj=>by omega,fun _ x _ _ hx=>by rw [aKT] at hx;exact absurd hx (by decide),rfl,rfl,rfl⟩) ?_
 rintro kk G M I ⟨i,kn,out,hi,rfl,hRs,hkn,hcp,rfl,rfl,rfl⟩
 have lk:=hRs.lk
 have lo:=hRs.lo
 by_cases hii:i < n
 ·repeat refine aD ?_
  cases hkx:gt kn (i:Int) with
  |true=>
   repeat refine aD ?_
   refine mI (n - (i+1)) (⟨i+1,kn,out,by omega,rfl,hRs,fun j hj=>?_,hcp,rfl,rfl,rfl⟩)
   by_cases e:j=i
   ·subst e;exact hkx
   ·exact hkn j (by omega)
  |false=>
   repeat refine aD ?_
   (repeat refine aL ?_);refine tyW ([]) (aN (some ⟨b6,0,none⟩) [.slice (some ⟨bo,0,none⟩) n n]::I0) [0,1,2,3,4] [1,1,0,0,0] mixed ?_
   repeat refine aD ?_
   refine iM rfl (hId _ _) ?_
   repeat refine yXh ?_
   refine iE (vs:=eQ Qn.one) rfl rfl rfl (Ones.one Qn.one) qE (StAts.r (enc:=eQ) (sz:=4) (ms:=out) (i:=(i:Int)) Qn.one ⟨by omega,by omega⟩ rfl) rfl rfl ⟨okF,?_⟩
   repeat refine aD ?_
   have hgn:gt (st out (i:Int) Qn.one) (i:Int)=Qn.one:=by rw [gM _ ⟨by omega,by omega⟩ (by omega),if_pos rfl]
   have hgd:Gdq (gt (st out (i:Int) Qn.one) (i:Int)) (R (i:Int)).cnj (R (i:Int)):=by
    rw [hgn]
    exact ⟨Qn.nz_one,by decide,(Qn.rel_cm (hRz _)).symm⟩
   have hcp2:Clo E m Pq→aCQ n Pq kn (st out (i:Int) Qn.one)∧Pq (gt (st out (i:Int) Qn.one) (i:Int)):=fun hc=>⟨fun y h0 h1 hy=>by
    rw [gM _ ⟨by omega,by omega⟩ h0]
    by_cases e:y=(i:Int)
    ·rw [e,hkx] at hy;exact absurd hy (by decide)
    ·rw [if_neg e];exact hcp hc y h0 h1 hy,by rw [hgn];exact hc.one⟩
   (refine pV rfl rfl (hFl (R (i:Int)).cnj b8 b9 (unk n kn) M0 _ kn (st out (i:Int) Qn.one) (i:Int) (Nat.le_refl _) lk (by rw [aY];exact lo) ⟨by omega,by omega⟩ hkx hgd hcp2 aG aG aG aG aG aG aG) rfl rfl rfl ?_;rintro _ _ _ ⟨kn2,out2,z,rfl,rfl,rfl,hzz⟩;refine cK ?_)
   rcases hzz with ⟨rfl,hnc⟩|⟨rfl,hD,hk2,hcp3⟩
   ·repeat refine aD ?_
    refine tyS [4,5] rfl rfl (.inl ⟨rfl,rfl,rfl,hnc⟩)
   ·repeat refine aD ?_
    have hRs2:=hRs.next hrg hRT (v:=(i:Int)) (by omega) (by omega) hkx hD
    refine mI (n - (i+1)) (⟨i+1,kn2,out2,by omega,rfl,hRs2,fun j hj=>?_,hcp3,rfl,rfl,rfl⟩)
    by_cases e:j=i
    ·subst e;exact hk2
    ·exact (hD.mono (j:Int) (by omega) (by omega) (hkn j (by omega))).1
 ·obtain rfl:n=i:=by omega
  repeat refine aD ?_
  refine qN (b:=bo) (cs:=recs eQ out) rP ?_
  refine tyS [4,5] rfl rfl (.inr ⟨bo,out,T,rfl,rfl,rfl,lo,fun x x0 x1=>?_,hT,fun k hk=>?_,fun hc x x0 x1=>?_⟩)
  ·obtain ⟨a,rfl⟩:∃a:Nat,x=a:=⟨x.toNat,by omega⟩
   exact hRs.nz (a:Int) x0 x1 (hkn a (by omega))
  ·obtain ⟨⟨a0,a1⟩,_⟩:=hrg k hk
   refine hRs.agr k hk ?_
   obtain ⟨a,ha⟩:∃a:Nat,(gt (lks E) k).a=a:=⟨(gt (lks E) k).a.toNat,by omega⟩
   rw [ha]
   exact hkn a (by omega)
  ·obtain ⟨a,rfl⟩:∃a:Nat,x=a:=⟨x.toNat,by omega⟩
   exact hcp hc (a:Int) x0 x1 (hkn a (by omega))
end
end Go.Proofs.Ytejbgkajdomgcaa
namespace Go.Proofs.Ytejbgkajdomgcaa
open Go Go.Fx
def CnQ (Pq:Qn→Prop) (n m:Nat) (E:List RX) (v:Value):Prop:=
 (v= .tuple #[.bool false, .int .i64 3]∧¬Clo E m Pq)∨
 ∃(al:Bool) (T:List Int) (S:Int→Qn),v= .tuple #[.bool al, .int .i64 0]∧TrOk E m T∧(∀x,(S x).nz)∧(∀k∈T,oL (lks E) (oF E) S k)∧(al=true↔∀z:Nat,z < m→oL (lks E) (oF E) S z)
def exS (n:Nat) (out:List Qn) (x:Int):Qn:=if 0≤x∧x < n then gt out x else Qn.one
theorem aPL {n:Nat} {out:List Qn} (h:∀x:Int,0≤x→x < n→(gt out x).nz∧(gt out x).fit) (x:Int):(exS n out x).nz:=by
 unfold exS
 by_cases hx:0≤x∧x < n
 ·rw [if_pos hx];exact (h x hx.1 hx.2).1
 ·rw [if_neg hx];exact Qn.nz_one
theorem yL {n:Nat} {E:List RX} {out:List Qn} (he:∀e∈E,EdOk n e) {k:Int} (hk:0≤k∧k < E.length):oL (lks E) (oF E) (exS n out) k↔oL (lks E) (oF E) (gt out) k:=by
 have hr:=(he _ (eO (ms:=E) (i:=k) hk)).r
 unfold oL exS
 rw [mW hk,if_pos hr.1,if_pos hr.2]
theorem aJN {t f g:Qn} (ht:t.nz) (hf:f.nz) (hg:g.nz):Qn.prm (Qn.prm (Qn.mul (Qn.prm g.cnj) f))=Qn.prm t↔Qn.agr t f g:=by
 have h1:(Qn.mul (Qn.prm g.cnj) f).nz:=Qn.nz_mul (Qn.prm_nz (Qn.nz_cnj hg)) hf
 rw [Qn.prm_iff (Qn.prm_nz h1) ht,←Qn.agr_btw hg]
 have h2:Qn.rel (Qn.prm (Qn.mul (Qn.prm g.cnj) f)) (Qn.mul g.cnj f):=(Qn.prm_rel h1).trans ((Qn.prm_rel (Qn.nz_cnj hg)).mul (Qn.rel.refl f))
 exact ⟨fun h=>h.symm.trans h2,fun h=>h2.trans h.symm⟩
section
variable {X:List Nat} {w0:World} {M0:List Ent} {I0:List aO}
theorem vK (Pq:Qn→Prop) {p:Option Addr} {n m c:Nat} {E:List RX} (hm:E.length=m) (hm2:m≤256) (hlc:kZ n E=0) (hp:aN p (recs eX E)∈I0):
  CD Try.prog 10 [.int .i64 n, .slice p m c] X w0 M0 I0 (fun v M I=>M0=M∧I0=I∧CnQ Pq n m E v):=by
 obtain ⟨hn,hm6,he⟩:=yO hlc
 have hC:=fun M0 I0 h=>sV (X:=X) (w0:=w0) (M0:=M0) (I0:=I0) (p:=p) (n:=(n:Int)) (es:=E) (m:=m) (c:=c) hm (by omega) h
 rw [hlc] at hC
 have hA:=fun M0 I0 h=>aKX Pq (X:=X) (w0:=w0) (M0:=M0) (I0:=I0) (p:=p) (n:=n) (m:=m) (c:=c) (E:=E) hm hm2 (by omega) he h
 refine bO Try.func10 rfl Try.ntmps10 rfl ?_
 refine lU ?_
 repeat refine aD ?_
 refine iM rfl (hC _ _ aG) ?_
 repeat refine aD ?_
 (refine dS rfl (hA _ _ aG) ?_;rintro _ _ _ hab;refine cK ?_)
 rcases hab with ⟨rfl,rfl,rfl,hnc⟩|⟨b,out,T,rfl,rfl,rfl,hol,hoz,hT,hag,hcq⟩
 ·repeat refine aD ?_
  refine tyS [4,5] rfl rfl (⟨rfl,rfl, .inl ⟨rfl,hnc⟩⟩)
 ·repeat refine aD ?_
  refine qU [7,29,30] rfl (fun k G M I=>∃(i:Nat) (al:Bool),i≤m∧k=m - i∧(al=true↔∀z:Nat,z < i→oL (lks E) (oF E) (gt out) z)∧G=[(9, .bool al),(31, .int .i64 i)]∧M0=M∧I=aN (some ⟨b,0,none⟩) (recs eQ out)::I0) (m) (⟨0,true,by omega,rfl,⟨fun _ z hz=>by omega,fun _=>rfl⟩,rfl,rfl,rfl⟩) ?_
  rintro kk G M I ⟨i,al,hi,rfl,hal,rfl,rfl,rfl⟩
  by_cases him:i < m
  ·obtain ⟨x,hx⟩:∃x,gt E (i:Int)=x:=⟨_,rfl⟩
   have hed:EdOk n x:=by rw [←hx];exact he _ (eO ⟨by omega,by omega⟩)
   obtain ⟨⟨xa0,xa1⟩,xb0,xb1⟩:=hed.r
   have hla:gt (lks E) (i:Int)=⟨x.a,x.b,0⟩:=by rw [mW ⟨by omega,by omega⟩,hx]
   obtain ⟨fn,ff⟩:=hoz x.a xa0 xa1
   obtain ⟨gn,gf⟩:=hoz x.b xb0 xb1
   have hB:=fun M0 I0=>aID (X:=X) (w0:=w0) (M0:=M0) (I0:=I0) (p:=gt out x.a) (q:=gt out x.b) fn ff gn gf
   have hsame:=aJN hed.nz fn gn
   have hagk:oL (lks E) (oF E) (gt out) i↔Qn.agr x.q (gt out x.a) (gt out x.b):=by
    unfold oL oF
    rw [hla,hx]
   rw [←hagk] at hsame
   have hmz:(Qn.mul (Qn.prm (gt out x.b).cnj) (gt out x.a)).nz:=Qn.nz_mul (Qn.prm_nz (Qn.nz_cnj gn)) fn
   have hcb:Clo E m Pq→uQ (Qn.mul (Qn.prm (gt out x.b).cnj) (gt out x.a))=0:=fun hc=>hc.btw _ _ (hcq hc x.a xa0 xa1) (hcq hc x.b xb0 xb1)
   generalize hmu:Qn.mul (Qn.prm (gt out x.b).cnj) (gt out x.a)=mu at hB hsame hmz hcb
   repeat refine aD ?_
   refine iL (fun b11=>?_)
   rw [hx]
   repeat refine aD ?_
   refine oJ (cs:=eX x) .here ?_
   refine yQ (fun G M I=>∃b12:Nat,G=[(7, .slice (some ⟨b,0,none⟩) n n),(9, .bool al),(11, .pointer (some ⟨b11,0,none⟩)),(12, .pointer (some ⟨b12,0,none⟩)),(13, .int .i64 (uQ mu)),(29, .slice p m c),(30, .int .i64 m),(31, .int .i64 i)]∧M= .blk b12 (eQ (prW mu)) 28::M0∧I=aN (some ⟨b11,0,none⟩) (eX x)::aN (some ⟨b,0,none⟩) (recs eQ out)::I0) ?_ ?_
   ·((repeat refine aL ?_);refine aDJ (M0) (aN (some ⟨b11,0,none⟩) (eX x)::aN (some ⟨b,0,none⟩) (recs eQ out)::I0) mixed ?_)
    refine vZ (fuel:=7) (listed':=#[true,true,true,true,true,true,true,true,true,true,false,false,false,false,false,false,false]) [0,1,2,3,4,5,6,7,8,9] [2,2,2,2,1,2,2,2,2,1] bN bR (by kernel_rfl) (by kernel_rfl) rfl rfl ?_
    repeat refine aD ?_
    refine tY (fuel:=6) (i:=10) (j:=14) (by kernel_rfl) ?_ ?_
    ·refine iM rfl (hB _ _) ?_
     refine gG ?_
     refine oG [11,12,13,14,15,16] [1,1,2,0,0,0] bN bR (by kernel_rfl) (by kernel_rfl) rfl rfl ?_
     repeat refine aD ?_
     refine iL (fun b12=>?_)
     repeat refine aD ?_
     refine tyE ⟨b12,rfl,rfl,rfl⟩
    ·refine iL (fun b12=>?_)
     refine gG ?_
     refine oG [10,11,12,13,15,16] [0,0,0,1,0,0] bN bR (by kernel_rfl) (by kernel_rfl) rfl rfl ?_
     repeat refine aD ?_
     refine iM rfl (hB _ _) ?_
     repeat refine aD ?_
     refine tyE ⟨b12,rfl,rfl,rfl⟩
   ·rintro G M I ⟨b12,rfl,rfl,rfl⟩
    rcases aDG mu with hz|hz
    ·obtain ⟨hfit,hw⟩:=aHJ hz
     rw [hz,hw]
     have hS:=fun M0 I0=>aBJ (X:=X) (w0:=w0) (M0:=M0) (I0:=I0) (p:=Qn.prm mu) (q:=x.q) (Qn.prm_nz hmz) hfit hed.nz hed.fit
     cases al with
     |true=>
      repeat refine aD ?_
      refine iM rfl (hS _ _) ?_
      repeat refine aD ?_
      refine mI (m - (i+1)) (⟨i+1,B (Qn.prm (Qn.prm mu)=Qn.prm x.q),by omega,rfl,?_,rfl,rfl,rfl⟩)
      constructor
      ·intro hb z hz2
       have hb2:Qn.prm (Qn.prm mu)=Qn.prm x.q:=by
        by_cases hh:Qn.prm (Qn.prm mu)=Qn.prm x.q
        ·exact hh
        ·rw [bQ hh] at hb;exact absurd hb (by decide)
       by_cases e:z=i
       ·subst e;exact hsame.1 hb2
       ·exact hal.1 rfl z (by omega)
      ·intro hall
       exact dX (hsame.2 (hall i (by omega)))
     |false=>
      repeat refine aD ?_
      refine mI (m - (i+1)) (⟨i+1,false,by omega,rfl,⟨fun h=>absurd h (by decide),fun h=>hal.2 (fun z hz2=>h z (by omega))⟩,rfl,rfl,rfl⟩)
    ·have hnc:¬Clo E m Pq:=fun hc=>by rw [hcb hc] at hz;exact absurd hz (by decide)
     rw [hz]
     repeat refine aD ?_
     refine tyS [4,5] rfl rfl (⟨rfl,rfl, .inl ⟨rfl,hnc⟩⟩)
  ·obtain rfl:m=i:=by omega
   repeat refine aD ?_
   refine tyS [4,5] rfl rfl (⟨rfl,rfl, .inr ⟨al,T,exS n out,rfl,hT,aPL hoz,fun k hk=>?_,?_⟩⟩)
   ·obtain ⟨k0,k1⟩:=hT.r k hk
    exact (yL he ⟨k0,by omega⟩).2 (hag k hk)
   ·rw [hal]
    exact ⟨fun h z hz=>(yL he ⟨by omega,by omega⟩).2 (h z hz),fun h z hz=>(yL he ⟨by omega,by omega⟩).1 (h z hz)⟩
end
end Go.Proofs.Ytejbgkajdomgcaa
namespace Go.Proofs.Ytejbgkajdomgcaa
open Go Go.Fx
abbrev qrt:Qn:=⟨1,0,0,1⟩
abbrev jU (q:Qn):List RX:=[⟨0,1,qrt⟩,⟨1,2,qrt⟩,⟨2,0,q⟩]
section
variable {X:List Nat} {w0:World} {M0:List Ent} {I0:List aO}
theorem aLV {q:Qn}:CD Try.prog 13 [qv q] X w0 M0 I0 (fun v M I=>∃b,v= .slice (some ⟨b,0,none⟩) 3 3∧M0=M∧I=aN (some ⟨b,0,none⟩) (recs eX (jU q))::I0):=by
 refine eZ Try.func13 rfl Try.ntmps13 rfl ?_
 refine lU ?_
 refine rF rfl (fun b1=>?_)
 refine aF (cs:=eQ q) .here ?_
 repeat refine aD ?_
 (refine aC rfl (fun _=>aZ (pvs:=[(0, .int .i64 1),(3, .int .i64 1)]) (cells:=eQ qrt) rfl rfl) rfl rfl ?_)
 refine iL (fun b3=>?_)
 repeat refine aD ?_
 (refine aC rfl (fun _=>kV (vals:=[.int .i64 0, .int .i64 1,qv qrt]) (cells:=eX ⟨0,1,qrt⟩) rfl ?hpl rfl ?hz) rfl rfl ?_;(case hpl=>repeat (first|exact True.intro|refine ⟨rfl,?_⟩));(case hz=>rfl))
 repeat refine aD ?_
 (refine aC rfl (fun _=>kV (vals:=[.int .i64 1, .int .i64 2,qv qrt]) (cells:=eX ⟨1,2,qrt⟩) rfl ?hpl rfl ?hz) rfl rfl ?_;(case hpl=>repeat (first|exact True.intro|refine ⟨rfl,?_⟩));(case hz=>rfl))
 repeat refine aD ?_
 (refine aC rfl (fun _=>kV (vals:=[.int .i64 2, .int .i64 0,qv q]) (cells:=eX ⟨2,0,q⟩) rfl ?hpl rfl ?hz) rfl rfl ?_;(case hpl=>repeat (first|exact True.intro|refine ⟨rfl,?_⟩));(case hz=>rfl))
 repeat refine aD ?_
 refine uU (cs:=recs eX (jU q)) ([.agg (eX ⟨0,1,qrt⟩).toArray, .agg (eX ⟨1,2,qrt⟩).toArray, .agg (eX ⟨2,0,q⟩).toArray]) rfl (fun b=>?_)
 repeat refine aD ?_
 refine qN (b:=b) (cs:=recs eX (jU q)) rP ?_
 refine lL rfl rfl (⟨b,rfl,rfl,rfl⟩)
theorem xZ {p:Option Addr} {N:Int} {E:List RX} {m c:Nat} (hm:E.length=m) (hm2:m≤256) (hp:aN p (recs eX E)∈I0):CD Try.prog 6 [.int .i64 N, .slice p m c] X w0 M0 I0 (fun v M I=>∃(q:Option Addr) (c2:Nat),v=gv N q m c2∧M0=M∧I=aN q (recs eK (lks E))::I0):=by
 refine bO Try.func6 rfl Try.ntmps6 rfl ?_
 refine lU ?_
 refine iL (fun b4=>?_)
 repeat refine aD ?_
 (refine aC rfl (fun _=>aZ (pvs:=[(0, .int .i64 N)]) (cells:=[.int .i64 N, .slice none 0 0]) rfl rfl) rfl rfl ?_)
 refine iL (fun b5=>?_)
 repeat refine aD ?_
 refine pG 50 3 ?_
 refine qU [4,5,10,11] rfl (fun k G M I=>∃(i:Nat) (a:Option Addr) (c':Nat) (xs:List LK),i≤m∧k=m - i∧xs=lks (E.take i)∧G=[(12, .int .i64 i)]∧M= .blk b5 [.int .i64 N, .slice a xs.length c'] 33:: .blk b4 [.int .i64 0, .slice none 0 0] 33:: .row a xs.length c' (recs eK xs) 50 3::M0∧I0=I) (m) (⟨0,none,0,[],by omega,rfl,rfl,rfl,rfl,rfl⟩) ?_
 rintro kk G M I ⟨i,a,c',xs,hi,rfl,hxs,rfl,rfl,rfl⟩
 have hxl:xs.length=i:=by rw [hxs,mP,List.length_take];omega
 by_cases hii:i < m
 ·obtain ⟨x,hx⟩:∃x,gt E (i:Int)=x:=⟨_,rfl⟩
  have hnx:xs++[⟨x.a,x.b,0⟩]=lks (E.take (i+1)):=by
   rw [hxs,gD (by omega),hx];simp [lks]
  repeat refine aD ?_
  refine iL (fun b7=>?_)
  rw [hx]
  repeat refine aD ?_
  refine aF (cs:=eX x) .here ?_
  repeat refine aD ?_
  (refine aC rfl (fun _=>aZ (pvs:=[(0, .int .i64 x.a),(1, .int .i64 x.b)]) (cells:=eK ⟨x.a,x.b,0⟩) rfl rfl) rfl rfl ?_)
  refine uU (cs:=recs eK [(⟨x.a,x.b,0⟩:LK)]) ([.agg (eK ⟨x.a,x.b,0⟩).toArray]) rfl (fun b23=>?_)
  repeat refine aD ?_
  refine tyP (ys:=[(⟨x.a,x.b,0⟩:LK)]) 3 rfl rfl rfl (fun a2 c2=>?_)
  repeat refine aD ?_
  refine mI (m - (i+1)) (⟨i+1,a2,c2,xs++[⟨x.a,x.b,0⟩],by omega,rfl,hnx,rfl,rfl,rfl⟩)
 ·obtain rfl:m=i:=by omega
  have hxe:xs=lks E:=by rw [hxs,List.take_of_length_le (by omega)]
  repeat refine aD ?_
  refine mE (cs:=recs eK xs) rP ?_
  refine kT (cs:=[.int .i64 N, .slice a xs.length c']) (.inl rfl) rfl rfl aG rfl M0 (aN a (recs eK xs)::I0) bN bR ⟨a,c',by rw [hxl],rfl,by rw [hxe]⟩
end
end Go.Proofs.Ytejbgkajdomgcaa
namespace Go.Proofs.Ytejbgkajdomgcaa
open Go Go.Fx
def zD (tr:Int→List Int) (T:List Int):Nat→List (List Int)
 |0=>[]
 |j+1=>if (j:Int)∈T then zD tr T j else zD tr T j++[((j:Int)+1)::tr j]
theorem aLP (tr:Int→List Int) (T:List Int) (m:Nat):(zD tr T m).length≤m:=by
 induction m with
 |zero=>exact Nat.le_refl _
 |succ m ih=>
  unfold zD
  split
  ·omega
  ·rw [List.length_append,List.length_singleton];omega
theorem aMI {tr:Int→List Int} {T:List Int} {m:Nat} {c:List Int} (h:c∈zD tr T m):∃z:Int,0≤z∧z < m∧c=(z+1)::tr z:=by
 induction m with
 |zero=>exact absurd h List.not_mem_nil
 |succ m ih=>
  unfold zD at h
  split at h
  ·obtain ⟨z,h1,h2,h3⟩:=ih h;exact ⟨z,h1,by omega,h3⟩
  ·rcases List.mem_append.1 h with h|h
   ·obtain ⟨z,h1,h2,h3⟩:=ih h;exact ⟨z,h1,by omega,h3⟩
   ·exact ⟨m,by omega,by omega,List.mem_singleton.1 h⟩
structure Trs (ms:List LK) (T:List Int) (tr:Int→List Int):Prop where
 go:∀z:Int,0≤z→z < ms.length→Trail ms T (tr z) (gt ms z).b (gt ms z).a
theorem aEA {ms:List LK} {T:List Int} (hr:uH ms.length T) (hs:spn ms T) {z:Int} (h0:0≤z) (h1:z < ms.length):Con (es ms T) (gt ms z).b (gt ms z).a:=by
 refine ((aDQ hr).1 hs _ _).2 (Con.symm (.link ?_))
 refine List.mem_map.2 ⟨z,?_,rfl⟩
 unfold rg
 exact List.mem_map.2 ⟨z.toNat,List.mem_range.2 (by omega),by omega⟩
theorem aOU {ms:List LK} {T:List Int} (hr:uH ms.length T) (hs:spn ms T):∃tr,Trs ms T tr:=by
 have h:∀z:Int,∃l,0≤z→z < ms.length→Trail ms T l (gt ms z).b (gt ms z).a:=fun z=>by
  by_cases hz:0≤z∧z < ms.length
  ·obtain ⟨l0,h1,h2⟩:=Con.trl (fun k hk=>(hr k hk).1) (aEA hr hs hz.1 hz.2)
   obtain ⟨l1,h3⟩:=Trl.short l0.length l0 _ _ (Nat.le_refl _) h1 h2
   exact ⟨l1,fun _ _=>h3⟩
  ·exact ⟨[],fun h1 h2=>absurd ⟨h1,h2⟩ hz⟩
 exact ⟨fun z=>Classical.choose (h z),⟨fun z=>Classical.choose_spec (h z)⟩⟩
section
variable {X:List Nat} {w0:World} {M0:List Ent} {I0:List aO}
theorem yC {p q:Option Addr} {n:Nat} {ms:List LK} {ls:List Int} {tr:Int→List Int} {m c t ct:Nat} (hn:n≤256) (hm:ms.length=m) (hm2:m≤1024) (hg:Gd ms n) (ht:ls.length=t) (ht2:t≤1000) (hf:fA ms ls=0) (hs:spn ms ls) (htr:Trs ms ls tr) (hp:aN p (recs eK ms)∈I0) (hq:aN q (recs (eI .i64) ls)∈I0):
  CD Try.prog 9 [gv n p m c, .slice q t ct] X w0 M0 I0 (fun v M I=>M0=M∧∃(q2:Option Addr) (c2:Nat) (rows:List CY),v= .tuple #[.slice q2 rows.length c2, .int .i64 0]∧rows.map CY.es=zD tr ls m∧I=aN q2 (recs eC rows)::yU rows::I0):=by
 have hC:=fun M0 I0 h=>sP (X:=X) (w0:=w0) (M0:=M0) (I0:=I0) (p:=p) (N:=n) (ms:=ms) (c:=c) hm (by omega) h
 rw [wC (by omega) (by omega) hg] at hC
 have hfo:=wB hf
 rw [hm] at hfo
 have hF:=fun M0 I0 h1 h2=>vF (X:=X) (w0:=w0) (M0:=M0) (I0:=I0) (p:=p) (q:=q) (n:=n) (c:=c) (ct:=ct) (by omega) hm (by omega) hg ht (by omega) hf h1 h2
 refine bO Try.func9 rfl Try.ntmps9 rfl ?_
 refine lU ?_
 refine rF rfl (fun b2=>?_)
 refine aF .here ?_
 repeat refine aD ?_
 refine iM rfl (hC _ _ aG) ?_
 repeat refine aD ?_
 (refine dS rfl (hF _ _ aG aG) ?_;rintro _ _ _ ⟨rfl,b,u2,rfl,hu2,rfl⟩;refine cK ?_)
 repeat refine aD ?_
 (refine dS rfl (rW (by omega) hm (by omega) hg hu2 aG) ?_;rintro _ _ _ ⟨rfl,rfl,u3,hu3,rfl⟩;refine cK ?_)
 rw [dX (p:=∀l∈ms,lo (es ms ls) l.a=lo (es ms ls) l.b) hs]
 repeat refine aD ?_
 refine pG 23 1 ?_
 refine aEH (Hv.cnil) ?_
 refine qU [1,2,39,40] rfl (fun k G M I=>∃(i:Nat) (q3:Option Addr) (c3:Nat) (rows:List CY),i≤m∧k=m - i∧rows.map CY.es=zD tr ls i∧G=[(9, .slice q3 rows.length c3),(41, .int .i64 i)]∧M= .row q3 rows.length c3 (recs eC rows) 23 1::M0∧I=yU rows::aN (some ⟨b2,0,none⟩) [.int .i64 n, .slice p m c]::I0) (m) (⟨0,none,0,[],by omega,rfl,rfl,rfl,rfl,rfl⟩) ?_
 rintro kk G M I ⟨i,q3,c3,rows,hi,rfl,hrw,rfl,rfl,rfl⟩
 have hrl:rows.length≤i:=by
  have:=congrArg List.length hrw
  rw [List.length_map] at this
  rw [this];exact aLP _ _ _
 by_cases him:i < m
 ·have hA:=hg.a (i:Int) (by omega) (by omega)
  have hB:=hg.b (i:Int) (by omega) (by omega)
  have hti:=htr.go (i:Int) (by omega) (by omega)
  have hR:=fun M0 I0 h1 h2=>aFY (X:=X) (w0:=w0) (M0:=M0) (I0:=I0) (p:=p) (q:=q) (n:=n) (c:=c) (ct:=ct) (by omega) hm (by omega) hg ht ht2 hfo.1 hfo.2.2 hti hB hA h1 h2
  have hlen:=hti.len
  repeat refine aD ?_
  refine iL (fun b11=>?_)
  repeat refine aD ?_
  (refine dS rfl (uG ht (by omega) hfo.2.1 aG) ?_;rintro _ _ _ ⟨rfl,rfl,r,f,rfl,hbs⟩;refine cK ?_)
  cases f with
  |true=>
   have hmem:=hbs.1 rfl
   repeat refine aD ?_
   refine mI (m - (i+1)) (⟨i+1,q3,c3,rows,by omega,rfl,by rw [zD,if_pos hmem];exact hrw,rfl,rfl,rfl⟩)
  |false=>
   have hmem:¬(i:Int)∈ls:=fun h=>absurd (hbs.2 h) (by decide)
   repeat refine aD ?_
   refine uU (cs:=recs (eI .i64) [(i:Int)+1]) ([.int .i64 ((i:Int)+1)]) rfl (fun b14=>?_)
   refine aAF (mm:=1) 1 qE rfl (by omega) ?_
   repeat refine aD ?_
   (refine dS rfl (hR _ _ aG aG) ?_;rintro _ _ _ ⟨rfl,q2,c2,l,rfl,hl,hl1,rfl⟩;refine cK ?_)
   have hll:l.length=(tr i).length:=by rw [←hl,List.length_map]
   repeat refine aD ?_
   refine qU [1,2,9,39,40,41,66,67] rfl (fun k G M I=>∃(j:Nat) (q4:Option Addr) (c4:Nat) (xs:List Int),j≤l.length∧k=l.length - j∧xs=((i:Int)+1)::(l.take j).map oD∧G=[(14, .slice q4 xs.length c4),(68, .int .i64 j)]∧M= .row q4 xs.length c4 (recs (eI .i64) xs) 3 1:: .row q3 rows.length c3 (recs eC rows) 23 1::M0∧I=aN q2 (recs eS l)::yU rows::aN (some ⟨b2,0,none⟩) [.int .i64 n, .slice p m c]::I0) (l.length) (⟨0,some ⟨b14,0,none⟩,1,[(i:Int)+1],by omega,rfl,rfl,rfl,rfl,rfl⟩) ?_
   rintro kk G M I ⟨j,q4,c4,xs,hj,rfl,hxs,rfl,rfl,rfl⟩
   have hxl:xs.length=j+1:=by rw [hxs,List.length_cons,List.length_map,List.length_take];omega
   by_cases hjl:j < l.length
   ·have hin:gt l (j:Int)∈l:=eO ⟨by omega,by omega⟩
    obtain ⟨e,he⟩:∃e,gt l (j:Int)=e:=⟨_,rfl⟩
    have h6:xs++[oD e]=((i:Int)+1)::(l.take (j+1)).map oD:=by rw [gD hjl,List.map_append,hxs,he];rfl
    rw [he] at hin
    have h0:=hl1 e hin
    have h7:=hfo.1 _ (hti.mem (oD e) (by rw [←hl];exact List.mem_map.2 ⟨e,hin,rfl⟩))
    rw [(aIS h0).2] at h7
    have hse:(e.2=true→0 - (e.1+1)=oD e)∧(e.2=false→e.1+1=oD e):=by
     unfold oD
     refine ⟨fun h=>?_,fun h=>?_⟩
     ·rw [if_pos h];omega
     ·rw [if_neg (by rw [h];decide)]
    by_cases hb:e.2=true
    ·repeat refine aD ?_
     rw [he]
     repeat refine aD ?_
     refine iL (fun b18=>?_)
     rw [show eS e=[Value.int .i64 e.1,Value.bool e.2] from rfl]
     repeat refine aD ?_
     rw [hb]
     repeat refine aD ?_
     rw [hse.1 hb]
     refine uU (cs:=recs (eI .i64) [oD e]) ([.int .i64 (oD e)]) rfl (fun b19=>?_)
     refine tyP (ys:=[oD e]) 2 rfl rfl rfl (fun a5 c5=>?_)
     repeat refine aD ?_
     refine mI (l.length - (j+1)) (⟨j+1,a5,c5,xs++[oD e],by omega,rfl,h6,rfl,rfl,rfl⟩)
    ·have hb2:e.2=false:=by simpa using hb
     repeat refine aD ?_
     rw [he]
     repeat refine aD ?_
     refine iL (fun b18=>?_)
     rw [show eS e=[Value.int .i64 e.1,Value.bool e.2] from rfl]
     repeat refine aD ?_
     rw [hb2]
     repeat refine aD ?_
     rw [hse.2 hb2]
     refine uU (cs:=recs (eI .i64) [oD e]) ([.int .i64 (oD e)]) rfl (fun b19=>?_)
     refine tyP (ys:=[oD e]) 2 rfl rfl rfl (fun a5 c5=>?_)
     repeat refine aD ?_
     refine mI (l.length - (j+1)) (⟨j+1,a5,c5,xs++[oD e],by omega,rfl,h6,rfl,rfl,rfl⟩)
   ·obtain rfl:j=l.length:=by omega
    rw [List.take_length,hl] at hxs
    repeat refine aD ?_
    refine kF .here ?_
    refine uU (cs:=recs eC [⟨q4,c4,xs⟩]) ([.slice q4 xs.length c4]) rfl (fun b20=>?_)
    refine tyP (ys:=[⟨q4,c4,xs⟩]) 1 rfl rfl rfl (fun a5 c5=>?_)
    refine aJC (Hv.csnoc (rows:=rows) (r:=⟨q4,c4,xs⟩) aG aG) ?_
    repeat refine aD ?_
    refine mI (m - (i+1)) (⟨i+1,a5,c5,rows++[⟨q4,c4,xs⟩],by omega,rfl,by rw [zD,if_neg hmem,List.map_append,hrw,hxs];rfl,rfl,rfl,rfl⟩)
 ·obtain rfl:i=m:=by omega
  repeat refine aD ?_
  refine mE .here ?_
  refine tyS [4,5] rfl rfl (⟨rfl,q3,c3,rows,rfl,hrw,rfl⟩)
end
end Go.Proofs.Ytejbgkajdomgcaa
namespace Go.Proofs.Ytejbgkajdomgcaa
open Go Go.Fx
def zL:List Qn:=[⟨1,0,0,0⟩,⟨1,0,0,1⟩,⟨1,0,0, -1⟩,⟨0,0,0,1⟩]
def pZ (q:Qn):Prop:=q∈zL
abbrev half:Qn:=⟨0,0,0,1⟩
theorem aOQ:∀q∈zL,∀t∈zL,(uQ (Qn.mul q t)=0∧Qn.prm (Qn.mul q t)∈zL)∧(uQ (Qn.mul q (Qn.prm t.cnj))=0∧Qn.prm (Qn.mul q (Qn.prm t.cnj))∈zL):=by decide+kernel
theorem aNY:∀f∈zL,∀g∈zL,uQ (Qn.mul (Qn.prm g.cnj) f)=0:=by decide+kernel
theorem aPQ {q:Qn} (hq:q∈zL) {k:Int} (h0:0≤k) (h1:k < 3):oF (jU q) k∈zL:=by
 obtain rfl|rfl|rfl:k=0∨k=1∨k=2:=by omega
 ·show qrt∈zL;decide+kernel
 ·show qrt∈zL;decide+kernel
 ·exact hq
theorem aEO {q:Qn} (hq:q∈zL):Clo (jU q) 3 pZ:=
 ⟨by show Qn.one∈zL;decide+kernel,fun p k hp h0 h1=>aOQ p hp _ (aPQ hq h0 (by omega)),fun f g hf hg=>aNY f hf g hg⟩
theorem aCG {p q:Qn} (hp:p.nz) (hq:q.nz) (h:Qn.prm p=Qn.prm q):Qn.rel p q:=(Qn.prm_iff hp hq).1 h
def triR (x:Int):Qn:=if x=0 then Qn.one else if x=1 then ⟨1,0,0, -1⟩ else half
theorem aNA (x:Int):(triR x).nz:=by
 unfold triR Qn.nz
 by_cases h:x=0
 ·rw [if_pos h];decide
 ·rw [if_neg h]
  by_cases h1:x=1
  ·rw [if_pos h1];decide
  ·rw [if_neg h1];decide
theorem aAX {z:Int} (h0:0≤z) (h1:z < 3):oL (lks (jU half)) (oF (jU half)) triR z:=by
 obtain rfl|rfl|rfl:z=0∨z=1∨z=2:=by omega
 ·show Qn.rel (Qn.mul ⟨1,0,0, -1⟩ qrt) Qn.one
  exact aCG (by unfold Qn.nz;decide) (by unfold Qn.nz;decide) (by decide+kernel)
 ·show Qn.rel (Qn.mul half qrt) ⟨1,0,0, -1⟩
  exact aCG (by unfold Qn.nz;decide) (by unfold Qn.nz;decide) (by decide+kernel)
 ·show Qn.rel (Qn.mul Qn.one half) half
  exact aCG (by unfold Qn.nz;decide) (by unfold Qn.nz;decide) (by decide+kernel)
theorem aPP {q:Qn} (hq:q.nz) {k:Int} (h0:0≤k) (h1:k < 3):(oF (jU q) k).nz:=by
 obtain rfl|rfl|rfl:k=0∨k=1∨k=2:=by omega
 ·show qrt.nz;unfold Qn.nz;decide
 ·show qrt.nz;unfold Qn.nz;decide
 ·exact hq
theorem aIO {T:List Int} {S:Int→Qn} (hT:TrOk (jU half) 3 T) (hS:∀x,(S x).nz) (hag:∀k∈T,oL (lks (jU half)) (oF (jU half)) S k):∀z:Nat,z < 3→oL (lks (jU half)) (oF (jU half)) S z:=fun z hz=>by
 have hnz:∀k∈T,(oF (jU half) k).nz:=fun k hk=>aPP (by unfold Qn.nz;decide) (hT.r k hk).1 (by have:=(hT.r k hk).2;omega)
 exact (zI (by omega) (fun k hk=>(hT.r k hk).1) aNA hS (fun k hk=>⟨hnz k hk,aAX (hT.r k hk).1 (by have:=(hT.r k hk).2;omega)⟩) (fun k hk=>⟨hnz k hk,hag k hk⟩) (hT.s z hz)).1 (aAX (by omega) (by omega))
theorem aKO {S:Int→Qn} (hS:∀x,(S x).nz) (h:∀z:Nat,z < 3→oL (lks (jU Qn.one)) (oF (jU Qn.one)) S z):False:=by
 have h0:Qn.rel (Qn.mul (S 1) qrt) (S 0):=h 0 (by decide)
 have h1:Qn.rel (Qn.mul (S 2) qrt) (S 1):=h 1 (by decide)
 have h2:Qn.rel (Qn.mul (S 0) Qn.one) (S 2):=h 2 (by decide)
 rw [Qn.mul_one] at h2
 have h3:Qn.rel (Qn.mul (S 2) (Qn.mul qrt qrt)) (Qn.mul (S 2) Qn.one):=by
  rw [←Qn.mul_assoc,Qn.mul_one]
  exact ((h1.mul (Qn.rel.refl qrt)).trans h0).trans h2
 have h4:=(Qn.prm_iff (by unfold Qn.nz;decide) (by unfold Qn.nz;decide)).2 (Qn.rel.canL (hS 2) h3)
 revert h4
 decide+kernel
def triT (z:Int):List Int:=if z=0 then [-1] else if z=1 then [-2] else [1,2]
theorem aKY (q:Qn):Trs (lks (jU q)) [0,1] triT:=⟨fun z h0 h1=>by
 have h1':z < 3:=h1
 obtain rfl|rfl|rfl:z=0∨z=1∨z=2:=by omega
 ·exact ⟨.cons (by decide) (.nil _),by decide,by decide⟩
 ·exact ⟨.cons (by decide) (.nil _),by decide,by decide⟩
 ·exact ⟨.cons (by decide) (.cons (by decide) (.nil _)),by decide,by decide⟩⟩
theorem aMV:zD triT [0,1] 3=[[3,1,2]]:=by decide
theorem aGV (q:Qn):fA (lks (jU q)) [0,1]=0:=by
 show fA [⟨0,1,0⟩,⟨1,2,0⟩,⟨2,0,0⟩] [0,1]=0
 decide+kernel
theorem aKB (q:Qn):spn (lks (jU q)) [0,1]:=by
 show spn [⟨0,1,0⟩,⟨1,2,0⟩,⟨2,0,0⟩] [0,1]
 decide
theorem aNR (q:Qn):Gd (lks (jU q)) 3:=by
 have e:lks (jU q)=[⟨0,1,0⟩,⟨1,2,0⟩,⟨2,0,0⟩]:=rfl
 rw [e]
 refine ⟨fun k h0 h1=>?_,fun k h0 h1=>?_,fun k h0 h1=>?_⟩ <;>(have h1':k < 3:=h1;obtain rfl|rfl|rfl:k=0∨k=1∨k=2:=by omega) <;>decide+kernel
end Go.Proofs.Ytejbgkajdomgcaa
namespace Go.Proofs.Ytejbgkajdomgcaa
open Go Go.Fx
theorem aKC:kZ 3 (jU half)=0:=by decide+kernel
theorem aKP:kZ 3 (jU Qn.one)=0:=by decide+kernel
theorem aJG {v:Value} (h:CnQ pZ 3 3 (jU half) v):v= .tuple #[.bool true, .int .i64 0]:=by
 rcases h with ⟨_,h⟩|⟨al,T,S,rfl,hT,hS,hag,hal⟩
 ·exact absurd (aEO (q:=half) (by decide+kernel)) h
 ·rw [hal.2 (aIO hT hS hag)]
theorem aLR {v:Value} (h:CnQ pZ 3 3 (jU Qn.one) v):v= .tuple #[.bool false, .int .i64 0]:=by
 rcases h with ⟨_,h⟩|⟨al,T,S,rfl,hT,hS,hag,hal⟩
 ·exact absurd (aEO (q:=Qn.one) (by decide+kernel)) h
 ·cases al with
  |false=>rfl
  |true=>exact (aKO hS (hal.1 rfl)).elim
section
variable {X:List Nat} {w0:World} {M0:List Ent} {I0:List aO}
theorem aFE:CD Try.prog 4 [] X w0 M0 I0 (fun v M I=>M0=M∧I0=I∧v= .bool true):=by
 have hT:=fun (q:Qn) M0 I0=>aLV (X:=X) (w0:=w0) (M0:=M0) (I0:=I0) (q:=q)
 have hC1:=fun (b:Nat) M0 I0 h=>(vK pZ (X:=X) (w0:=w0) (M0:=M0) (I0:=I0) (p:=some ⟨b,0,none⟩) (n:=3) (m:=3) (c:=3) (E:=jU half) rfl (by decide) aKC h).post (K':=fun v M I=>M0=M∧I0=I∧v= .tuple #[.bool true, .int .i64 0]) (fun v M I w h hw=>⟨M,I,⟨h.1,h.2.1,aJG h.2.2⟩,hw⟩)
 have hC2:=fun (b:Nat) M0 I0 h=>(vK pZ (X:=X) (w0:=w0) (M0:=M0) (I0:=I0) (p:=some ⟨b,0,none⟩) (n:=3) (m:=3) (c:=3) (E:=jU Qn.one) rfl (by decide) aKP h).post (K':=fun v M I=>M0=M∧I0=I∧v= .tuple #[.bool false, .int .i64 0]) (fun v M I w h hw=>⟨M,I,⟨h.1,h.2.1,aLR h.2.2⟩,hw⟩)
 have hG:=fun (b:Nat) M0 I0 h=>xZ (X:=X) (w0:=w0) (M0:=M0) (I0:=I0) (p:=some ⟨b,0,none⟩) (N:=3) (E:=jU half) (m:=3) (c:=3) rfl (by decide) h
 have hCy:=fun (p:Option Addr) (c b:Nat) M0 I0 h1 h2=>yC (X:=X) (w0:=w0) (M0:=M0) (I0:=I0) (p:=p) (q:=some ⟨b,0,none⟩) (n:=3) (ms:=lks (jU half)) (ls:=[0,1]) (tr:=triT) (m:=3) (c:=c) (t:=2) (ct:=2) (by decide) rfl (by decide) (aNR half) rfl (by decide) (aGV half) (aKB half) (aKY half) h1 h2
 refine aEK Try.func4 rfl Try.ntmps4 rfl ?_
 refine lU ?_
 repeat refine aD ?_
 (refine aC rfl (fun _=>aZ (pvs:=[(3, .int .i64 1)]) (cells:=eQ half) rfl rfl) rfl rfl ?_)
 (refine dS rfl (hT half _ _) ?_;rintro _ _ _ ⟨b1,rfl,rfl,rfl⟩;refine cK ?_)
 repeat refine aD ?_
 (refine dS rfl (hC1 b1 _ _ aG) ?_;rintro _ _ _ ⟨rfl,rfl,rfl⟩;refine cK ?_)
 repeat refine aD ?_
 (refine aC rfl (fun _=>aZ (pvs:=[(0, .int .i64 1)]) (cells:=eQ Qn.one) rfl rfl) rfl rfl ?_)
 (refine dS rfl (hT Qn.one _ _) ?_;rintro _ _ _ ⟨b2,rfl,rfl,rfl⟩;refine cK ?_)
 repeat refine aD ?_
 (refine dS rfl (hC2 b2 _ _ aG) ?_;rintro _ _ _ ⟨rfl,rfl,rfl⟩;refine cK ?_)
 repeat refine aD ?_
 (refine aC rfl (fun _=>aZ (pvs:=[(3, .int .i64 1)]) (cells:=eQ half) rfl rfl) rfl rfl ?_)
 (refine dS rfl (hT half _ _) ?_;rintro _ _ _ ⟨b3,rfl,rfl,rfl⟩;refine cK ?_)
 repeat refine aD ?_
 (refine dS rfl (hG b3 _ _ aG) ?_;rintro _ _ _ ⟨pg,cg,rfl,rfl,rfl⟩;refine cK ?_)
 refine uU (cs:=recs (eI .i64) [(0:Int),1]) ([.int .i64 0, .int .i64 1]) rfl (fun b4=>?_)
 refine aF (cs:=recs (eI .i64) [(0:Int),1]) .here ?_
 (refine dS rfl (hCy pg cg b4 _ _ aG aG) ?_;rintro _ _ _ ⟨rfl,q2,c2,rows,rfl,hrows,rfl⟩;refine cK ?_)
 rw [aMV] at hrows
 obtain ⟨hl1,hl3⟩:rows.length=1∧(gt rows 0).es.length=3:=by
  match rows,hrows with
  |[r],h=>
   have hr:r.es=[3,1,2]:=by injection h
   exact ⟨rfl,by show r.es.length=3;rw [hr];rfl⟩
  |[],h=>simp at h
  |_::_::_,h=>simp at h
 repeat refine aD ?_
 refine lL rfl rfl (⟨rfl,rfl,congrArg Value.bool (dX (by omega))⟩)
end
end Go.Proofs.Ytejbgkajdomgcaa

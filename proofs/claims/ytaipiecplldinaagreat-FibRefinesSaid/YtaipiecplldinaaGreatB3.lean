/- Part of a proof. -/
import Derived.Test.YtaipiecplldinaaGreatB2
import Derived.Test.YtaipiecplldinaaGreatB1
import Derived.Test.YtaipiecplldinaaGreatRows
import Derived.DeepKeys
import Derived.Lib.BytesEntry
import Derived.Maps.Keyed
set_option maxRecDepth 20000
set_option linter.unusedSimpArgs false
set_option linter.unusedVariables false
namespace Go.Kb
open Go.aB
def gJ(c:CV)(l:List Int):Prop:= ∀n∈l,n=0∨(1≤n∧2≤(n -1)/c.ae∧(n -1)/c.ae<(c.blocks.length:Int))
theorem gJ.di{c d:CV}{l:List Int}(h:gJ c l)(g:dJ c d):gJ d l:=fun n hn=>by
  rcases h n hn with h|h
  ·exact .inl h
  ·exact .inr (by rw[g.ae,g.len];exact h)
theorem gJ.append{c:CV}{a b:List Int}(h:gJ c a)(g:gJ c b):gJ c (a++b):=fun n hn=>(List.mem_append.1 hn).elim (h n) (g n)
theorem kf{c:CV}(h:aW c=true):1≤(c.blocks.length:Int)∧(c.blocks.length:Int)≤32∧1≤c.ae∧c.ae≤16∧1≤c.size∧c.size≤256:=jg.1 (eo.1 h).1
theorem IV{n p b:Int}(hp:1≤p)(kg:p≤16)(hb:b≤32)(h:(n -1)/p<b):n≤512:=by
  have h1:n -1=p*((n -1)/p)+(n -1)%p:=(Int.mul_ediv_add_emod (n -1) p).symm
  have h2:=Int.emod_lt_of_pos (n -1) (show 0<p by omega)
  have h3:(n -1)/p≤31:=by omega
  have h4:p*((n -1)/p)≤p*31:=Int.mul_le_mul_of_nonneg_left h3 (by omega)
  omega
theorem gJ.kn{c:CV}{l:List Int}(h:gJ c l)(hk:aW c=true)(h2:2≤c.blocks.length)(hl:l.length≤1000000):oT c l:=
  ⟨⟨hk,hl⟩,h2,fun n hn=>by
    rcases h n hn with h|h
    ·exact .inl h
    ·have hd:=kf hk
     have:=IV (n:=n) hd.2.2.1 hd.2.2.2.1 hd.2.1 h.2.2
     exact .inr ⟨h.1,by omega,h.2.1,h.2.2⟩⟩
theorem Dv{c:CV}{fl:List Int}{i:Nat}(hi:i<c.blocks.length -2):(aQ c fl)[i]? =some (mI (qN (ak c ((i:Int)+2)) (nV c.ae fl fl.length i))):=by
  rw[aQ,hU,ji,List.getElem?_map,List.getElem?_map,List.getElem?_range hi];rfl
theorem Av{c:CV}{fl:List Int}{i:Nat}{x:aD}(h:(aQ c fl)[i]? =some x):x.bad=(ak c ((i:Int)+2)).bad:=by
  have hi:=(List.getElem?_eq_some_iff.1 h).1
  rw[np]at hi
  rw[Dv hi]at h
  obtain rfl:=Option.some.inj h
  rw[mI];split
  ·rename_i hb;exact hb.symm
  ·rfl
theorem tM{c:CV}(hk:aW c=true){b:Int}(h0:0≤b)(h1:b<c.blocks.length):k8 c.ae c.size (ak c b)=true:=nS (ir.2 ⟨hk,h0,h1⟩)
structure Aw(c:CV)(n:Nat)(x:aD):Prop where
  Qp:0≤x.live
  Qq:x.live≤n
  xQ:0≤x.used
  xR:x.used≤c.ae
  IW:0≤x.bp
  IX:x.bp≤c8
theorem vr{c:CV}{fl:List Int}(hk:aW c=true){x:aD}(h:x∈aQ c fl):Aw c fl.length x:=by
  obtain⟨i,hi⟩:=List.getElem?_of_mem h
  have eT:=(List.getElem?_eq_some_iff.1 hi).1
  rw[np]at eT
  rw[Dv eT]at hi
  obtain rfl:=Option.some.inj hi
  have hd:=kf hk
  have qQ:c8=1099511627776:=rfl
  rw[mI];split
  ·exact⟨by simp[bK],by simp[bK],by simp[bK],by simp only[bK];omega,by simp[bK],by simp only[bK];omega⟩
  ·have ho:=ez.1 (tM hk (b:=(i:Int)+2) (by omega) (by omega))
   have:=IF c.ae fl fl.length i
   exact⟨by simp only[qN];omega,by simp only[qN];omega,ho.2.1,ho.2.2.1,ho.2.2.2.1,ho.2.2.2.2.1⟩
theorem Dw{R:aD→Bool}{l:List aD}{i:Nat}{x:aD}(h:(bW R l)[i]? =some x): ∃y,l[i]? =some y∧x=jO R y:=by
  rw[bW,List.getElem?_map,Option.map_eq_some_iff]at h
  obtain⟨y,hy,rfl⟩:=h
  exact⟨y,hy,rfl⟩
theorem Qr{R:aD→Bool}{y:aD}(h:(jO R y).bad=false):jO R y=y∧y.bad=false∧R y=true:=by
  unfold jO at h⊢
  split at h
  ·cases h
  ·rename_i hn
   rw[if_neg hn]
   refine⟨rfl,h,?_⟩
   cases hR:R y with
   |true=>rfl
   |false=>exact absurd (.inr hR) hn
theorem vt{p:Int}{x:aD}(h:nW p x=true):x.bad=false∧x.used<p:=by
  simpa[nW]using h
theorem oV{x:aD}(h:nX x=true):x.bad=false∧x.live=0∧0<x.used:=by
  simpa[nX,and_assoc]using h
theorem rY{R:aD→Bool}{l:List aD}{p:Int}{dy:aD→Bool}{os:List (aD→aD→Int)}(hr: ∀x,dy x=true→x.bad=false)(h:(fB (bW R l) p dy os).2=true):
    ∃x,l[(fB (bW R l) p dy os).1.toNat]? =some x∧x.bad=false∧R x=true∧dy x=true∧0≤(fB (bW R l) p dy os).1∧(fB (bW R l) p dy os).1<l.length:=by
  obtain⟨h1,h2,h3,h4⟩:=xN h
  rw[vo]at h3
  have hi:(bW R l)[(fB (bW R l) p dy os).1.toNat]? =some ((bW R l).getD (fB (bW R l) p dy os).1.toNat gp):=m0 (by rw[vo];omega)
  obtain⟨y,hy,he⟩:=Dw hi
  rw[he]at h4
  obtain⟨k1,k2,k3⟩:=Qr (hr _ h4)
  rw[k1]at h4
  exact⟨y,hy,k2,k3,h4,h2,h3⟩
def tN(x:aD):Bool:=decide (0<x.live)
def fN(x:aD):Bool:=decide (x.live=0)
def lg(l:List aD):Nat:=(l.filter fun x=> !x.bad&&decide (x.live=0)).length
def mJ(c:CV)(fl:List Int):Int×Bool:=eC (bW tN (aQ c fl)) c.ae
def kx(c:CV)(fl:List Int):Int×Bool:=eC (bW fN (aQ c fl)) c.ae
def lZ(c:CV)(fl:List Int):Int:=(eD (bW fN (aQ c fl)) c.ae).1
def bm(c:CV)(fl:List Int)(aL:Bool):CV×Int×Int:=
  if(mJ c fl).2=true then(c,(mJ c fl).1+2,0)
  else if lg (aQ c fl)=0∨(lg (aQ c fl)=1∧aL=false)then(c,0,5)
  else if(kx c fl).2=true then(c,(kx c fl).1+2,0)
  else((dD c (lZ c fl+2)).1,lZ c fl+2,(dD c (lZ c fl+2)).2)
theorem Qs{l:List aD}{i:Nat}{x:aD}(h:l[i]? =some x):((l.take (i+1)).filter fun z=> !z.bad&&decide (z.live=0)).length=((l.take i).filter fun z=> !z.bad&&decide (z.live=0)).length+(if x.bad=false∧x.live=0 then 1 else 0):=by
  rw[List.take_add_one,h,List.filter_append,List.length_append]
  congr 1
  simp only[Option.toList_some,List.filter_cons,List.filter_nil]
  split<;>simp_all
theorem Qu(l:List aD):(l.filter fun z=> !z.bad&&decide (z.live=0)).length≤l.length:=List.length_filter_le _ _
theorem IY{c:CV}{fl:List Int}(hk:aW c=true)(h2:3≤c.blocks.length)(hi:lg (aQ c fl)≠0)(hb: ¬(kx c fl).2=true):0≤lZ c fl∧lZ c fl<(c.blocks.length:Int) -2∧(ak c (lZ c fl+2)).bad=false:=by
  have hd:=kf hk
  have dk:=np c fl
  have hw:lY (bW fN (aQ c fl)) c.ae=true:=vk.2 ⟨by rw[vo];omega,by rw[vo];omega,by omega,by omega,fun x hx=>by
    obtain⟨i,hi⟩:=List.getElem?_of_mem hx
    obtain⟨y,hy,rfl⟩:=Dw hi
    have t:=vr hk (List.mem_of_getElem? hy)
    have qQ:c8=1099511627776:=rfl
    unfold jO
    split
    ·exact rW.2 (by simp only[bK];omega)
    ·rename_i hn
     have hl:y.live=0:=by
        cases hR:fN y with
        |true=>simpa[fN]using hR
        |false=>exact absurd (.inr hR) hn
     exact rW.2 ⟨by omega,by have:=t.xQ;omega,t.xR,t.IW,t.IX⟩⟩
  have nY:(kx c fl).2=false:=by simpa using hb
  have Dx:=Aq hw (show(fB _ _ _ _).2=false from nY)
  have xS:0<((aQ c fl).filter fun x=> !x.bad&&decide (x.live=0)).length:=by rw[lg]at hi;omega
  obtain⟨x,hx⟩:=List.exists_mem_of_length_pos xS
  obtain⟨l5,jj⟩:=List.mem_filter.1 hx
  simp only[Bool.and_eq_true,Bool.not_eq_true',decide_eq_true_eq]at jj
  have nZ:jO fN x=x:=by
    unfold jO
    rw[if_neg]
    rintro(g|g)
    ·rw[jj.1]at g;cases g
    ·rw[show fN x=true by simp[fN,jj.2]]at g;cases g
  have xT:x∈bW fN (aQ c fl):=by
    rw[←nZ];exact List.mem_map_of_mem l5
  have xU:=Dx x xT
  have t:=vr hk l5
  have Dy:nX x=true:=by
    have: ¬x.used<c.ae:=fun h=>by
      rw[nW,jj.1,decide_eq_true h]at xU;cases xU
    simp only[nX,jj.1,Bool.not_false,Bool.true_and,Bool.and_eq_true,decide_eq_true_eq]
    omega
  have hf:(eD (bW fN (aQ c fl)) c.ae).2=true:=by
    cases hq:(eD (bW fN (aQ c fl)) c.ae).2 with
    |true=>rfl
    |false=>have:=Aq hw hq x xT;rw[Dy]at this;cases this
  obtain⟨y,hy,k1,_,_,k4,k5⟩:=rY (fun x h=>(oV h).1) hf
  have pY:=Av hy
  change 0≤lZ c fl at k4
  change lZ c fl<_ at k5
  refine⟨k4,by omega,?_⟩
  rw[←k1,pY]
  congr 2
  change _=((lZ c fl).toNat:Int)+2
  omega
theorem IZ{c:CV}{fl:List Int}(h:(mJ c fl).2=true):0≤(mJ c fl).1∧(mJ c fl).1<((c.blocks.length -2:Nat):Int)∧(ak c ((mJ c fl).1+2)).bad=false:=by
  obtain⟨y,hy,k1,_,_,k4,k5⟩:=rY (fun x h=>(vt h).1) h
  have pY:=Av hy
  rw[np]at k5
  refine⟨k4,k5,?_⟩
  rw[←k1,pY]
  congr 2
  change _=((mJ c fl).1.toNat:Int)+2
  change 0≤(mJ c fl).1 at k4
  omega
theorem I0{c:CV}{fl:List Int}(h:(kx c fl).2=true):0≤(kx c fl).1∧(kx c fl).1<((c.blocks.length -2:Nat):Int)∧(ak c ((kx c fl).1+2)).bad=false:=by
  obtain⟨y,hy,k1,_,_,k4,k5⟩:=rY (fun x h=>(vt h).1) h
  have pY:=Av hy
  rw[np]at k5
  refine⟨k4,k5,?_⟩
  rw[←k1,pY]
  congr 2
  change _=((kx c fl).1.toNat:Int)+2
  change 0≤(kx c fl).1 at k4
  omega
theorem I1{c:CV}{b:Int}(h:dH c b=0):mE c b=true∧c.off=false∧(ak c b).bad=false∧(bw c).2=false∧dF c b=k9 c b:=by
  have h0:=h
  rw[dH]at h
  by_cases h1:mE c b=true
  ·rw[if_pos h1]at h
   by_cases h2:c.off=true
   ·rw[if_pos h2]at h;cases h
   ·rw[if_neg h2]at h
    by_cases h3:(ak c b).bad=true
    ·rw[if_pos h3]at h;cases h
    ·rw[if_neg h3]at h
     by_cases h4:(bw c).2=true
     ·rw[if_pos h4,kr]at h
      split at h<;>cases h
     ·refine⟨h1,by simpa using h2,by simpa using h3,by simpa using h4,?_⟩
      rw[dF,hY,h0,if_neg (by decide),gn,if_pos ⟨h1,by simpa using h2,by simpa using h3⟩]
  ·rw[if_neg h1]at h;cases h
theorem I2{c:CV}{b:Int}(h:dH c b=0):(ak (dF c b) b).bad=false:=by
  obtain⟨h1,h2,h3,h4,h5⟩:=I1 h
  rw[h5,k9,pU (oN.1 h1).1];exact h3
theorem Ax: ∀(n:Nat) {c:CV} {b:Int},(gI n c b).2=0→(ak (gI n c b).1 b).bad=false
  |0,c,b,h=>I2 h
  |n+1,c,b,h=>by
   rw[gI]at h⊢
   by_cases h0:bM c b (iP c)≠0
   ·rw[if_pos h0]at h;exact absurd h h0
   ·rw[if_neg h0]at h⊢;exact Ax n h
theorem Dz{c:CV}{fl:List Int}{aL:Bool}(hk:aW c=true)(h2:3≤c.blocks.length):aW (bm c fl aL).1=true∧dJ c (bm c fl aL).1∧c.ops≤(bm c fl aL).1.ops∧
    ((bm c fl aL).2.2=0→2≤(bm c fl aL).2.1∧(bm c fl aL).2.1<c.blocks.length∧(ak (bm c fl aL).1 (bm c fl aL).2.1).bad=false)∧((bm c fl aL).2.2=9→c.ops<(bm c fl aL).1.ops):=by
  rw[bm]
  by_cases h1:(mJ c fl).2=true
  ·rw[if_pos h1]
   have:=IZ h1
   exact⟨hk, .db c,Int.le_refl _,fun _=>⟨by simp only;omega,by simp only;omega,this.2.2⟩,fun h=>absurd (show(0:Int)=9 from h) (by decide)⟩
  ·rw[if_neg h1]
   by_cases h3:lg (aQ c fl)=0∨(lg (aQ c fl)=1∧aL=false)
   ·rw[if_pos h3]
    exact⟨hk, .db c,Int.le_refl _,fun h=>absurd (show(5:Int)=0 from h) (by decide),fun h=>absurd (show(5:Int)=9 from h) (by decide)⟩
   ·rw[if_neg h3]
    by_cases h4:(kx c fl).2=true
    ·rw[if_pos h4]
     have:=I0 h4
     exact⟨hk, .db c,Int.le_refl _,fun _=>⟨by simp only;omega,by simp only;omega,this.2.2⟩,fun h=>absurd (show(0:Int)=9 from h) (by decide)⟩
    ·rw[if_neg h4]
     obtain⟨d1,d2,d3⟩:=IY hk h2 (fun e=>h3 (.inl e)) h4
     have hc:=xO (lZ c fl+2) hk
     exact⟨hc.1,hc.2,vn _ _ _,fun h=>⟨by simp only;omega,by simp only;omega,Ax _ h⟩,fun h=>Au d3 (.inl h)⟩
def gZ:Nat→CV→List Int→Bool→List UInt8→CV×Int×Int
  |0,c,_,_,_=>(c,0,0)
  |n+1,c,fl,aL,b=>
   if(bm c fl aL).2.2=0 then
      (if bM (bm c fl aL).1 (bm c fl aL).2.1 b=0 then(bU (bm c fl aL).1 (bm c fl aL).2.1 b,(bm c fl aL).2.1*c.ae+(ak (bm c fl aL).1 (bm c fl aL).2.1).used+1,0)
       else if bM (bm c fl aL).1 (bm c fl aL).2.1 b≠9 then(bU (bm c fl aL).1 (bm c fl aL).2.1 b,0,bM (bm c fl aL).1 (bm c fl aL).2.1 b)
       else gZ n (bU (bm c fl aL).1 (bm c fl aL).2.1 b) fl aL b)
   else if(bm c fl aL).2.2≠9 then((bm c fl aL).1,0,(bm c fl aL).2.2)
   else gZ n (bm c fl aL).1 fl aL b
def dj(c:CV)(fl:List Int)(aL:Bool)(p:PV):CV×Int×Int:=
  if(dh p c.size).2≠0 then(c,0,(dh p c.size).2)else gZ ((c8 -c.ops).toNat+1) c fl aL (dh p c.size).1
theorem oW{c:CV}(h:aW c=true):c.ops≤c8:=(eo.1 h).2.2.1
theorem DA: ∀(n:Nat) {c:CV} {fl:List Int} {aL:Bool} {b:List UInt8},aW c=true→3≤c.blocks.length→(c8 -c.ops).toNat<n→
    aW (gZ n c fl aL b).1=true∧dJ c (gZ n c fl aL b).1∧c.ops≤(gZ n c fl aL b).1.ops∧((gZ n c fl aL b).2.2=0→1≤(gZ n c fl aL b).2.1∧2≤((gZ n c fl aL b).2.1 -1)/c.ae∧((gZ n c fl aL b).2.1 -1)/c.ae<c.blocks.length)
  |0,c,fl,aL,b,_,_,hn=>by omega
  |n+1,c,fl,aL,b,hk,h2,hn=>by
   obtain⟨f1,f2,f3,f4,f5⟩:=Dz (fl:=fl) (aL:=aL) hk h2
   have hd:=kf hk
   rw[gZ]
   by_cases h0:(bm c fl aL).2.2=0
   ·rw[if_pos h0]
    obtain⟨g1,g2,g3⟩:=f4 h0
    by_cases h1:bM (bm c fl aL).1 (bm c fl aL).2.1 b=0
    ·rw[if_pos h1]
     have hl:=f2.trans (iQ (bm c fl aL).1 (bm c fl aL).2.1 b)
     have hp:=j7.1 (qP h1).1
     rw[f2.ae]at hp
     have hu:0≤(ak (bm c fl aL).1 (bm c fl aL).2.1).used:=hp.2.1
     have DB:=hp.2.2.1
     have hq:((bm c fl aL).2.1*c.ae+(ak (bm c fl aL).1 (bm c fl aL).2.1).used+1 -1)/c.ae=(bm c fl aL).2.1:=by
          rw[Int.add_sub_cancel,Int.add_comm,Int.add_mul_ediv_right _ _ (by omega),Int.ediv_eq_zero_of_lt hu DB,Int.zero_add]
     refine⟨ke f1 _ _,hl,?_,fun _=>⟨?_,by simp only;rw[hq];exact g1,by simp only;rw[hq];exact g2⟩⟩
     ·have:=tL (bm c fl aL).1 (bm c fl aL).2.1 b;simp only;omega
     ·have:0≤(bm c fl aL).2.1*c.ae:=Int.mul_nonneg (by omega) (by omega)
      simp only;omega
    ·rw[if_neg h1]
     by_cases h9:bM (bm c fl aL).1 (bm c fl aL).2.1 b≠9
     ·rw[if_pos h9]
      exact⟨ke f1 _ _,f2.trans (iQ _ _ _),by have:=tL (bm c fl aL).1 (bm c fl aL).2.1 b;simp only;omega,fun h=>absurd h h1⟩
     ·rw[if_neg h9]
      have ho:=pV g3 (p:=b) (.inl (by simpa using h9))
      have b0:=ke f1 (bm c fl aL).2.1 b
      have hl:=f2.trans (iQ (bm c fl aL).1 (bm c fl aL).2.1 b)
      have hle:=oW b0
      have:=DA n (fl:=fl) (aL:=aL) (b:=b) b0 (by rw[hl.len];exact h2) (by omega)
      refine⟨this.1,hl.trans this.2.1,by omega,fun h=> ?_⟩
      have g:=this.2.2.2 h
      rw[hl.ae,hl.len]at g
      exact g
   ·rw[if_neg h0]
    by_cases h9:(bm c fl aL).2.2≠9
    ·rw[if_pos h9]
     exact⟨f1,f2,f3,fun h=>absurd h h0⟩
    ·rw[if_neg h9]
     have ho:=f5 (by simpa using h9)
     have hle:=oW f1
     have:=DA n (fl:=fl) (aL:=aL) (b:=b) f1 (by rw[f2.len];exact h2) (by omega)
     refine⟨this.1,f2.trans this.2.1,by omega,fun h=> ?_⟩
     have g:=this.2.2.2 h
     rw[f2.ae,f2.len]at g
     exact g
theorem I3{c:CV}{fl:List Int}{aL:Bool}{p:PV}(hk:aW c=true)(h2:3≤c.blocks.length):
    aW (dj c fl aL p).1=true∧dJ c (dj c fl aL p).1∧c.ops≤(dj c fl aL p).1.ops∧((dj c fl aL p).2.2=0→1≤(dj c fl aL p).2.1∧2≤((dj c fl aL p).2.1 -1)/c.ae∧((dj c fl aL p).2.1 -1)/c.ae<c.blocks.length):=by
  rw[dj];split
  ·rename_i h;exact⟨hk, .db c,Int.le_refl _,fun h'=>absurd h' h⟩
  ·exact DA _ hk h2 (by omega)
def oX(p:Int)(x:aD):Int:=if x.live=0∧p -x.used=0 then p else p -x.used
def tO(p:Int)(s:Int×Int)(x:aD):Int×Int:=if x.bad=true then s else(s.1+oX p x,if x.live=0 then max s.2 (oX p x)else s.2)
def eO(p:Int)(l:List aD):Int×Int:=l.foldl (tO p) (0,0)
def l6(c:CV)(fl:List Int):Int×Int:=((eO c.ae (aQ c fl)).1 -(eO c.ae (aQ c fl)).2,(eO c.ae (aQ c fl)).1)
theorem I4{p:Int}{l:List aD}{i:Nat}{x:aD}(h:l[i]? =some x):eO p (l.take (i+1))=tO p (eO p (l.take i)) x:=by
  rw[eO,List.take_add_one,h];simp[eO]
theorem Qv{c:CV}{n:Nat}{x:aD}(h:Aw c n x)(hk:aW c=true):0≤oX c.ae x∧oX c.ae x≤c.ae:=by
  have hd:=kf hk
  have:=h.xQ;have:=h.xR
  rw[oX];split<;>omega
theorem I5{c:CV}{n:Nat}(hk:aW c=true)(l:List aD)(h: ∀x∈l,Aw c n x): ∀i,i≤l.length→0≤(eO c.ae (l.take i)).1∧(eO c.ae (l.take i)).1≤16*(i:Int)∧0≤(eO c.ae (l.take i)).2∧(eO c.ae (l.take i)).2≤16
  |0,_=>by simp[eO]
  |i+1,hi=>by
   obtain⟨x,hx⟩:=get_some (xs:=l) (i:=i) (by omega)
   have ih:=I5 hk l h i (by omega)
   have hr:=Qv (h x (List.mem_of_getElem? hx)) hk
   have hd:=kf hk
   rw[I4 hx,tO]
   split
   ·omega
   ·refine⟨by simp only;omega,by simp only;omega,?_,?_⟩
    ·simp only;split<;>omega
    ·simp only;split<;>omega
open Go.aB
structure cR(x:WV):Prop where
 ah:aW x.v.ah=true
 len:4≤(x.v.ah.blocks.length:Int)
 ae:2≤x.v.ah.ae
 size:24≤x.v.ah.size
 last:x.v.last=0∨x.v.last=1
 gen:x.v.gen<281474976710656
 qR:gJ x.v.ah x.v.at_
 pZ:x.v.at_.length≤64
theorem cR.on{x:WV}(h:cR x){c:CV}(hk:aW c=true)(hl:dJ x.v.ah c):cR (x.on c):=
 ⟨hk,by simp only[WV.on];rw[hl.len];exact h.len,by simp only[WV.on];rw[hl.ae];exact h.ae,by simp only[WV.on];rw[hl.size];exact h.size,h.last,h.gen,h.qR.di hl,h.pZ⟩
theorem cR.p0{x:WV}(h:cR x):4≤x.v.ah.blocks.length:=by have:=h.len;omega
theorem I6(x:WV):x.on x.v.ah=x:=rfl
theorem I7(x:WV)(c d:CV):(x.on c).on d=x.on d:=rfl
def bf(c:CV)(last:Int):CV×Int×Int:=
 if 0<eE c last then(c,last,0)
 else if 0<eE c (1 -last)then(c,1 -last,0)
 else if(ak c (1 -last)).bad=true then(c,0,9)
 else(dF c (1 -last),1 -last,dH c (1 -last))
theorem Ay{c:CV}{b:Int}(h:0<eE c b):(ak c b).bad=false:=by
 rw[eE]at h;split at h
 ·
  omega
 ·
  rename_i hn;simpa using hn
theorem DC{c:CV}{last:Int}(hk:aW c=true)(hl:last=0∨last=1):aW (bf c last).1=true∧dJ c (bf c last).1∧c.ops≤(bf c last).1.ops∧
  ((bf c last).2.2=0→((bf c last).2.1=0∨(bf c last).2.1=1)∧(ak (bf c last).1 (bf c last).2.1).bad=false):=by
 rw[bf]
 by_cases h1:0<eE c last
 ·
  rw[if_pos h1];exact⟨hk, .db c,Int.le_refl _,fun _=>⟨hl,Ay h1⟩⟩
 ·
  rw[if_neg h1]
  by_cases h2:0<eE c (1 -last)
  ·
   rw[if_pos h2];exact⟨hk, .db c,Int.le_refl _,fun _=>⟨by simp only;omega,Ay h2⟩⟩
  ·
   rw[if_neg h2]
   by_cases h3:(ak c (1 -last)).bad=true
   ·
    rw[if_pos h3];exact⟨hk, .db c,Int.le_refl _,fun h=>absurd (show(9:Int)=0 from h) (by decide)⟩
   ·
    rw[if_neg h3];exact⟨As hk _,tK _ _,IM _ _,fun h=>⟨by simp only;omega,I2 h⟩⟩
def fO:Nat→WV→List Int→List UInt8→WV×Int
 |0,x,_,_=>(x,0)
 |n+1,x,a,b=>
  if(bf x.v.ah x.v.last).2.2≠0 then(x.on (bf x.v.ah x.v.last).1,(bf x.v.ah x.v.last).2.2)
  else if bM (bf x.v.ah x.v.last).1 (bf x.v.ah x.v.last).2.1 b=0 then
   (⟨⟨bU (bf x.v.ah x.v.last).1 (bf x.v.ah x.v.last).2.1 b,a,x.v.gen+1,if jx (bU (bf x.v.ah x.v.last).1 (bf x.v.ah x.v.last).2.1 b) 1=x.v.gen+1 then 1 else(bf x.v.ah x.v.last).2.1⟩,x.beyond⟩,0)
  else if bM (bf x.v.ah x.v.last).1 (bf x.v.ah x.v.last).2.1 b≠9 then
   (x.on (bU (bf x.v.ah x.v.last).1 (bf x.v.ah x.v.last).2.1 b),bM (bf x.v.ah x.v.last).1 (bf x.v.ah x.v.last).2.1 b)
  else fO n (x.on (bU (bf x.v.ah x.v.last).1 (bf x.v.ah x.v.last).2.1 b)) a b
def fC(x:WV)(a:List Int):WV×Int:=
 if(cM ⟨x.v.gen+1,a⟩ x.v.ah.size).2≠0 then(x,(cM ⟨x.v.gen+1,a⟩ x.v.ah.size).2)
 else fO ((c8 -x.v.ah.ops).toNat+1) x a (cM ⟨x.v.gen+1,a⟩ x.v.ah.size).1
structure ia(x y:WV):Prop where
 ok:cR y
 di:dJ x.v.ah y.v.ah
 ops:x.v.ah.ops≤y.v.ah.ops
 vu:y.v.at_.length=x.v.at_.length
theorem ia.db{x:WV}(h:cR x):ia x x:=⟨h, .db _,Int.le_refl _,rfl⟩
theorem ia.trans{x y z:WV}(h:ia x y)(g:ia y z):ia x z:=⟨g.ok,h.di.trans g.di,Int.le_trans h.ops g.ops,g.vu.trans h.vu⟩
theorem ia.on{x:WV}(h:cR x){c:CV}(hk:aW c=true)(hl:dJ x.v.ah c)(ho:x.v.ah.ops≤c.ops):ia x (x.on c):=⟨h.on hk hl,hl,ho,rfl⟩
theorem Qw{r:RV}{n:Int}(h:(cM r n).2=0):r.gen<281474976710656∧(r.at_.length:Int)≤kb n:=by
 rw[cM]at h;split at h
 ·
  rename_i hm;have:=tI.1 hm;exact⟨this.2.1,this.2.2.1⟩
 ·
  cases h
theorem Qx(n:Int):kb n≤64:=by rw[kb];omega
theorem I8: ∀(n:Nat) {x:WV} {a:List Int} {b:List UInt8},cR x→gJ x.v.ah a→a.length=x.v.at_.length→x.v.gen+1<281474976710656→(c8 -x.v.ah.ops).toNat<n→ia x (fO n x a b).1∧((fO n x a b).2=0→x.v.ah.ops<(fO n x a b).1.v.ah.ops)
 |0,x,a,b,_,_,_,_,hn=>by omega
 |n+1,x,a,b,hx,ha,fK,hg,hn=>by
  obtain⟨r1,r2,r3,r4⟩:=DC (c:=x.v.ah) (last:=x.v.last) hx.ah hx.last
  rw[fO]
  by_cases h0:(bf x.v.ah x.v.last).2.2≠0
  ·
   rw[if_pos h0];exact⟨.on hx r1 r2 r3,fun h=>absurd h h0⟩
  ·
   rw[if_neg h0]
   obtain⟨r5,r6⟩:=r4 (by simpa using h0)
   have g9:=ke r1 (bf x.v.ah x.v.last).2.1 b
   have bZ:=r2.trans (iQ (bf x.v.ah x.v.last).1 (bf x.v.ah x.v.last).2.1 b)
   have ky:=tL (bf x.v.ah x.v.last).1 (bf x.v.ah x.v.last).2.1 b
   by_cases h1:bM (bf x.v.ah x.v.last).1 (bf x.v.ah x.v.last).2.1 b=0
   ·
    rw[if_pos h1]
    have ho:=pV r6 (p:=b) (.inr h1)
    have fH:=hx.on g9 bZ
    refine⟨⟨⟨g9,fH.len,fH.ae,fH.size,?_,hg,ha.di bZ,by simp only;rw[fK];exact hx.pZ⟩,bZ,by simp only;omega,fK⟩,fun _=>by simp only;omega⟩
    simp only;split
    ·
     exact .inr rfl
    ·
     exact r5
   ·
    rw[if_neg h1]
    by_cases h9:bM (bf x.v.ah x.v.last).1 (bf x.v.ah x.v.last).2.1 b≠9
    ·
     rw[if_pos h9];exact⟨.on hx g9 bZ (by omega),fun h=>absurd h h1⟩
    ·
     rw[if_neg h9]
     have ho:=pV r6 (p:=b) (.inl (by simpa using h9))
     have hle:=oW g9
     have fH:=hx.on g9 bZ
     have:=I8 n (x:=x.on (bU (bf x.v.ah x.v.last).1 (bf x.v.ah x.v.last).2.1 b)) (a:=a) (b:=b) fH (ha.di bZ) fK hg (by simp only[WV.on];omega)
     exact⟨(ia.on hx g9 bZ (by omega)).trans this.1,fun h=>by
      have h2:(bU (bf x.v.ah x.v.last).1 (bf x.v.ah x.v.last).2.1 b).ops<_:=this.2 h
      omega⟩
theorem I9{x:WV}{a:List Int}(hx:cR x)(ha:gJ x.v.ah a)(fK:a.length=x.v.at_.length):ia x (fC x a).1∧((fC x a).2=0→x.v.ah.ops<(fC x a).1.v.ah.ops):=by
 rw[fC];split
 ·
  rename_i h;exact⟨.db hx,fun h'=>absurd h' h⟩
 ·
  rename_i h
  have:=Qw (r:=⟨x.v.gen+1,a⟩) (n:=x.v.ah.size) (by simpa using h)
  exact I8 _ hx ha fK this.1 (by omega)
def kL:Nat→Int→CV→CV×Int
 |0,_,c=>(c,0)
 |n+1,b,c=>if vp c b=false then kL n (b+1) c
  else if dH c b≠0∧dH c b≠9 then(dF c b,dH c b)else kL n (b+1) (dF c b)
def l8(c:CV)(b:Int)(ids:Nat):List UInt8×Int:=cM ⟨fg c b,List.replicate ids 0⟩ c.size
def Az(c:CV)(b:Int)(ids:Nat)(g:Nat):VV:=⟨c,List.replicate ids 0,g,b⟩
def rZ:Nat→Int→WV→Nat→WV×Int
 |0,_,x,_=>(x,9)
 |n+1,b,x,ids=>
  if(l8 x.v.ah b ids).2≠0∨eE x.v.ah b=0 then rZ n (b+1) x ids
  else if bM x.v.ah b (l8 x.v.ah b ids).1=0 then(⟨Az (bU x.v.ah b (l8 x.v.ah b ids).1) b ids (fg x.v.ah b),x.beyond⟩,0)
  else if bM x.v.ah b (l8 x.v.ah b ids).1≠9 then(x.on (bU x.v.ah b (l8 x.v.ah b ids).1),bM x.v.ah b (l8 x.v.ah b ids).1)
  else rZ n (b+1) (x.on (bU x.v.ah b (l8 x.v.ah b ids).1)) ids
def n0(x:WV)(ids:Nat):WV×Int:=
 if(kL x.v.ah.blocks.length 0 x.v.ah).2≠0 then(x.on (kL x.v.ah.blocks.length 0 x.v.ah).1,(kL x.v.ah.blocks.length 0 x.v.ah).2)
 else rZ 2 0 (x.on (kL x.v.ah.blocks.length 0 x.v.ah).1) ids
open Go.aB
def vw(s:Int×Int)(i:Nat)(x:aD):Int×Int:=
 if x.bad=true∨x.live=0∨c8≤x.bp then s else if s.2<x.used -x.live then((i:Int),x.used -x.live)else s
def jy(l:List aD):Nat→Int×Int
 |0=>(0,0)
 |k+1=>vw (jy l k) k (l.getD k gp)
def iS(l:List aD)(p:Int):Int×Bool:=if(qO l p).2=true then((qO l p).1,true)else((jy l l.length).1,decide (0<(jy l l.length).2))
theorem DD(l:List aD): ∀k,0≤(jy l k).1∧0≤(jy l k).2∧(0<(jy l k).2→(jy l k).1<k)
 |0=>by simp[jy]
 |k+1=>by
  have:=DD l k
  rw[jy,vw]
  split
  ·
   exact⟨this.1,this.2.1,fun h=>by have:=this.2.2 h;omega⟩
  ·
   split
   ·
    exact⟨by simp only;omega,by simp only;omega,fun _=>by simp only;omega⟩
   ·
    exact⟨this.1,this.2.1,fun h=>by have:=this.2.2 h;omega⟩
theorem Ja{l:List aD}{p:Int}(h:(iS l p).2=true):0≤(iS l p).1∧(iS l p).1<l.length:=by
 rw[iS]at h⊢
 split
 ·
  rename_i hv
  have:=xN hv
  exact⟨this.2.1,this.2.2.1⟩
 ·
  rename_i hv
  rw[if_neg hv]at h
  have:=DD l l.length
  exact⟨this.1,this.2.2 (by simpa using h)⟩
def tP(x:aD):Bool:=decide (x.used=0)
def tT(p:Int)(x:aD):Bool:=decide (x.used=p)
def tU(x:aD):Bool:=decide (x.bp<c8)
def mK(c:CV)(l:List aD):Int×Bool:=eC (bW tP l) c.ae
def jz(c:CV)(l:List aD):Int×Bool:=eD (bW (tT c.ae) l) c.ae
def jA(c:CV)(l:List aD):Int×Bool:=eD (bW tU l) c.ae
def cq(c:CV)(l:List aD):CV×Int×Int:=
 if(mK c l).2=true then(c,(mK c l).1+2,0)
 else if(jz c l).2=true then((dD c ((jz c l).1+2)).1,(jz c l).1+2,(dD c ((jz c l).1+2)).2)
 else if(jA c l).2=true then((dD c ((jA c l).1+2)).1,(jA c l).1+2,(dD c ((jA c l).1+2)).2)
 else(c,0,6)
def jB(c:CV)(l:List aD):Prop:=l.length=c.blocks.length -2∧ ∀(i:Nat) (x:aD),l[i]? =some x→x.bad=false→(ak c ((i:Int)+2)).bad=false
theorem AA(c:CV)(fl:List Int):jB c (aQ c fl):=⟨np c fl,fun i x hx hb=>by rw[←Av hx];exact hb⟩
theorem jB.set{c:CV}{l:List aD}(h:jB c l)(i:Nat):jB c (l.set i bK):=⟨by rw[List.length_set];exact h.1,fun j x hx hb=>by
 rw[List.getElem?_set]at hx
 split at hx
 ·
  split at hx
  ·
   obtain rfl:=Option.some.inj hx;cases hb
  ·
   cases hx
 ·
  exact h.2 j x hx hb⟩
theorem r8{c:CV}{R:aD→Bool}{l:List aD}{dy:aD→Bool}{os:List (aD→aD→Int)}(ht:jB c l)(hr: ∀x,dy x=true→x.bad=false)(h:(fB (bW R l) c.ae dy os).2=true):
  0≤(fB (bW R l) c.ae dy os).1∧(fB (bW R l) c.ae dy os).1<((c.blocks.length -2:Nat):Int)∧(ak c ((fB (bW R l) c.ae dy os).1+2)).bad=false:=by
 obtain⟨x,hx,k1,_,_,k4,k5⟩:=rY hr h
 rw[ht.1]at k5
 refine⟨k4,k5,?_⟩
 have:=ht.2 _ x hx k1
 rwa [show(((fB (bW R l) c.ae dy os).1.toNat:Nat):Int)=(fB (bW R l) c.ae dy os).1 by omega]at this
theorem DE{c:CV}{l:List aD}(hk:aW c=true)(ht:jB c l):aW (cq c l).1=true∧dJ c (cq c l).1∧c.ops≤(cq c l).1.ops∧
  ((cq c l).2.2=0→2≤(cq c l).2.1∧(cq c l).2.1<c.blocks.length∧(ak (cq c l).1 (cq c l).2.1).bad=false)∧((cq c l).2.2=9→c.ops<(cq c l).1.ops)∧((cq c l).2.2=6→(cq c l).1=c):=by
 rw[cq]
 have e6: ∀{b:Int},(dD c b).2≠6:=fun{b}=>by
  have: ∀n {c:CV},(gI n c b).2≠6:=by
   intro n
   induction n with
   |zero=>
    intro c
    simp only[gI,dH]
    split
    ·
     split
     ·
      decide
     ·
      split
      ·
       decide
      ·
       split
       ·
        rw[kr];split<;>decide
       ·
        decide
    ·
     decide
   |succ n ih=>
    intro c
    rw[gI];split
    ·
     simp only[bM,jt]
     split
     ·
      split
      ·
       decide
      ·
       split
       ·
        decide
       ·
        split
        ·
         rw[kr];split<;>decide
        ·
         decide
     ·
      decide
    ·
     exact ih
  exact this _
 by_cases h1:(mK c l).2=true
 ·
  rw[if_pos h1]
  have:=r8 ht (fun x h=>(vt h).1) h1
  change 0≤(mK c l).1∧(mK c l).1<_∧(ak c ((mK c l).1+2)).bad=false at this
  exact⟨hk, .db c,Int.le_refl _,fun _=>⟨by simp only;omega,by simp only;omega,this.2.2⟩,fun h=>absurd (show(0:Int)=9 from h) (by decide),fun h=>absurd (show(0:Int)=6 from h) (by decide)⟩
 ·
  rw[if_neg h1]
  by_cases h2:(jz c l).2=true
  ·
   rw[if_pos h2]
   have:=r8 ht (fun x h=>(oV h).1) h2
   change 0≤(jz c l).1∧(jz c l).1<_∧(ak c ((jz c l).1+2)).bad=false at this
   have hc:=xO ((jz c l).1+2) hk
   exact⟨hc.1,hc.2,vn _ _ _,fun h=>⟨by simp only;omega,by simp only;omega,Ax _ h⟩,fun h=>Au this.2.2 (.inl h),fun h=>absurd h e6⟩
  ·
   rw[if_neg h2]
   by_cases h3:(jA c l).2=true
   ·
    rw[if_pos h3]
    have:=r8 ht (fun x h=>(oV h).1) h3
    change 0≤(jA c l).1∧(jA c l).1<_∧(ak c ((jA c l).1+2)).bad=false at this
    have hc:=xO ((jA c l).1+2) hk
    exact⟨hc.1,hc.2,vn _ _ _,fun h=>⟨by simp only;omega,by simp only;omega,Ax _ h⟩,fun h=>Au this.2.2 (.inl h),fun h=>absurd h e6⟩
   ·
    rw[if_neg h3]
    exact⟨hk, .db c,Int.le_refl _,fun h=>absurd (show(6:Int)=0 from h) (by decide),fun h=>absurd (show(6:Int)=9 from h) (by decide),fun _=>rfl⟩
def cd(c:CV)(a0 a:List Int)(src to:Int):Int×Bool:=
 if to<0 then(if(eC ((aQ c (a0++a)).set (src -2).toNat bK) c.ae).2=true then((eC ((aQ c (a0++a)).set (src -2).toNat bK) c.ae).1+2,true)else(0,false))else(to,true)
def eF(c:CV)(g id n:Int):List UInt8×Int:=dh ⟨1,id,g.toNat,iO c n⟩ c.size
structure MV where
 c:CV
 a:List Int
 e:Option Int
def cS(v:VV)(src to:Int):List Int→Nat→CV→List Int→MV
 |[],_,c,a=>⟨c,a,none⟩
 |n::r,id,c,a=>
  if n=0∨(n -1)/v.ah.ae≠src then cS v src to r (id+1) c a
  else if(cd c v.at_ a src to).2=false then⟨c,a,some 6⟩
  else if(eF c ((v.gen:Int)+1) id n).2≠0 then⟨c,a,some (eF c ((v.gen:Int)+1) id n).2⟩
  else if bM c (cd c v.at_ a src to).1 (eF c ((v.gen:Int)+1) id n).1≠0 then
   ⟨bU c (cd c v.at_ a src to).1 (eF c ((v.gen:Int)+1) id n).1,a,some (iR (bM c (cd c v.at_ a src to).1 (eF c ((v.gen:Int)+1) id n).1))⟩
  else cS v src to r (id+1) (bU c (cd c v.at_ a src to).1 (eF c ((v.gen:Int)+1) id n).1) (a.set id ((cd c v.at_ a src to).1*v.ah.ae+(ak c (cd c v.at_ a src to).1).used+1))
def cT(x:WV)(src to:Int):WV×Bool×Int:=
 match(cS x.v src to x.v.at_ 0 x.v.ah x.v.at_).e with
 |some e=>(x.on (cS x.v src to x.v.at_ 0 x.v.ah x.v.at_).c,false,e)
 |none=>((fC (x.on (cS x.v src to x.v.at_ 0 x.v.ah x.v.at_).c) (cS x.v src to x.v.at_ 0 x.v.ah x.v.at_).a).1,decide ((fC (x.on (cS x.v src to x.v.at_ 0 x.v.ah x.v.at_).c) (cS x.v src to x.v.at_ 0 x.v.ah x.v.at_).a).2=0),(fC (x.on (cS x.v src to x.v.at_ 0 x.v.ah x.v.at_).c) (cS x.v src to x.v.at_ 0 x.v.ah x.v.at_).a).2)
theorem DF{x:WV}{src to:Int}{c:CV}{a:List Int}{e:Int}(h:cS x.v src to x.v.at_ 0 x.v.ah x.v.at_=⟨c,a,some e⟩):cT x src to=(x.on c,false,e):=by
 rw[cT,h]
theorem Qy{x:WV}{src to:Int}{c:CV}{a:List Int}(h:cS x.v src to x.v.at_ 0 x.v.ah x.v.at_=⟨c,a,none⟩):cT x src to=((fC (x.on c) a).1,decide ((fC (x.on c) a).2=0),(fC (x.on c) a).2):=by
 rw[cT,h]
theorem Jb{c:CV}{a0 a:List Int}{src to:Int}(h:(cd c a0 a src to).2=true)(ht:0≤to→2≤to∧to<c.blocks.length∧(ak c to).bad=false):
  2≤(cd c a0 a src to).1∧(cd c a0 a src to).1<c.blocks.length∧(ak c (cd c a0 a src to).1).bad=false:=by
 rw[cd]at h⊢
 by_cases h1:to<0
 ·
  rw[if_pos h1]at h⊢
  by_cases h2:(eC ((aQ c (a0++a)).set (src -2).toNat bK) c.ae).2=true
  ·
   rw[if_pos h2]
   have hT:=(AA c (a0++a)).set (src -2).toNat
   obtain⟨k1,k2,k3,k4⟩:=xN h2
   change 0≤(eC ((aQ c (a0++a)).set (src -2).toNat bK) c.ae).1 at k2
   change(eC ((aQ c (a0++a)).set (src -2).toNat bK) c.ae).1<_ at k3
   change nW _ (List.getD _ (eC ((aQ c (a0++a)).set (src -2).toNat bK) c.ae).1.toNat _)=true at k4
   rw[hT.1]at k3
   have hi:((aQ c (a0++a)).set (src -2).toNat bK)[(eC ((aQ c (a0++a)).set (src -2).toNat bK) c.ae).1.toNat]? =some _:=m0 (d:=gp) (by rw[hT.1];omega)
   have:=hT.2 _ _ hi (vt k4).1
   rw[show(((eC ((aQ c (a0++a)).set (src -2).toNat bK) c.ae).1.toNat:Nat):Int)=(eC ((aQ c (a0++a)).set (src -2).toNat bK) c.ae).1 by omega]at this
   exact⟨by simp only;omega,by simp only;omega,this⟩
  ·
   rw[if_neg h2]at h;cases h
 ·
  rw[if_neg h1]
  exact ht (by omega)
theorem xV(c:CV)(b g:Int)(p:List UInt8):jt c b g p=0∨jt c b g p=1∨jt c b g p=7∨jt c b g p=9:=by
 rw[jt];split
 ·
  split
  ·
   omega
  ·
   split
   ·
    omega
   ·
    split
    ·
     rw[kr];split<;>omega
    ·
     omega
 ·
  omega
theorem vz(p:PV)(n:Int):(dh p n).2=0∨(dh p n).2=1:=by
 rw[dh];split<;>simp
theorem DG{c:CV}{b:Int}{p:List UInt8}(h:bM c b p=0)(b':Int):(ak (bU c b p) b').bad=(ak c b').bad:=by
 obtain⟨h1,h2,h3,h4,h5⟩:=qP h
 have hh:=(j7.1 h1).1
 obtain⟨_,g2,g3⟩:=ir.1 hh
 rw[h5,hQ]
 simp only[ak,List.getD,List.getElem?_set]
 by_cases e:b.toNat=b'.toNat
 ·
  rw[if_pos e,if_pos (by omega),e]
  simp
 ·
  rw[if_neg e]
theorem DH{v:VV}{src to:Int}: ∀(l:List Int) (id:Nat) {c:CV} {a:List Int},aW c=true→dJ v.ah c→v.ah.ops≤c.ops→gJ v.ah a→(0≤to→2≤to∧to<c.blocks.length∧(ak c to).bad=false)→
  aW (cS v src to l id c a).c=true∧dJ v.ah (cS v src to l id c a).c∧c.ops≤(cS v src to l id c a).c.ops∧gJ v.ah (cS v src to l id c a).a∧(cS v src to l id c a).a.length=a.length∧
   ((cS v src to l id c a).e=some 0→c.ops<(cS v src to l id c a).c.ops)∧((cS v src to l id c a).e=some 6→ ∀b,(ak (cS v src to l id c a).c b).bad=(ak c b).bad)
 |[],id,c,a,hk,hl,ho,ha,ht=>⟨hk,hl,Int.le_refl _,ha,rfl,fun h=>by simp[cS]at h,fun h=>by simp[cS]at h⟩
 |n::r,id,c,a,hk,hl,ho,ha,ht=>by
  rw[cS]
  by_cases h1:n=0∨(n -1)/v.ah.ae≠src
  ·
   rw[if_pos h1];exact DH r (id+1) hk hl ho ha ht
  ·
   rw[if_neg h1]
   by_cases h2:(cd c v.at_ a src to).2=false
   ·
    rw[if_pos h2];exact⟨hk,hl,Int.le_refl _,ha,rfl,fun h=>by simp at h,fun _ _=>rfl⟩
   ·
    rw[if_neg h2]
    obtain⟨m1,m2,m3⟩:=Jb (by simpa using h2) ht
    by_cases h3:(eF c ((v.gen:Int)+1) id n).2≠0
    ·
     rw[if_pos h3]
     have vA:(eF c ((v.gen:Int)+1) id n).2=1:=(vz _ _).resolve_left h3
     exact⟨hk,hl,Int.le_refl _,ha,rfl,fun h=>absurd (Option.some.inj h) h3,fun h=>absurd (vA.symm.trans (Option.some.inj h)) (by decide)⟩
    ·
     rw[if_neg h3]
     by_cases h4:bM c (cd c v.at_ a src to).1 (eF c ((v.gen:Int)+1) id n).1≠0
     ·
      rw[if_pos h4]
      have fV:bM c (cd c v.at_ a src to).1 (eF c ((v.gen:Int)+1) id n).1=1∨bM c (cd c v.at_ a src to).1 (eF c ((v.gen:Int)+1) id n).1=7∨bM c (cd c v.at_ a src to).1 (eF c ((v.gen:Int)+1) id n).1=9:=(xV _ _ _ _).resolve_left h4
      refine⟨ke hk _ _,hl.trans (iQ _ _ _),tL _ _ _,ha,rfl,fun h=> ?_,fun h=> ?_⟩
      ·
       have h:=Option.some.inj h
       rw[iR]at h
       split at h
       ·
        rename_i h9
        have:=pV m3 (.inl h9)
        simp only;omega
       ·
        exact absurd h h4
      ·
       have h:=Option.some.inj h
       rw[iR]at h
       split at h
       ·
        cases h
       ·
        omega
     ·
      rw[if_neg h4]
      have p6:bM c (cd c v.at_ a src to).1 (eF c ((v.gen:Int)+1) id n).1=0:=by simpa using h4
      have g9:=j7.1 (qP p6).1
      have hd:=kf hk
      have la:=hl.trans (iQ c (cd c v.at_ a src to).1 (eF c ((v.gen:Int)+1) id n).1)
      have dv:=pV m3 (p:=(eF c ((v.gen:Int)+1) id n).1) (.inr p6)
      have AB:v.ah.ae=c.ae:=hl.ae.symm
      have ih:=DH r (id+1) (src:=src) (to:=to) (ke hk (cd c v.at_ a src to).1 (eF c ((v.gen:Int)+1) id n).1) la (by omega) (a:=a.set id ((cd c v.at_ a src to).1*v.ah.ae+(ak c (cd c v.at_ a src to).1).used+1)) (fun y hy=>by
       rcases List.mem_or_eq_of_mem_set hy with hy|rfl
       ·
        exact ha y hy
       ·
        have hq:((cd c v.at_ a src to).1*v.ah.ae+(ak c (cd c v.at_ a src to).1).used+1 -1)/v.ah.ae=(cd c v.at_ a src to).1:=by
         rw[AB,Int.add_sub_cancel,Int.add_comm,Int.add_mul_ediv_right _ _ (by omega),Int.ediv_eq_zero_of_lt g9.2.1 g9.2.2.1,Int.zero_add]
        have h0:0≤(cd c v.at_ a src to).1*v.ah.ae:=Int.mul_nonneg (by omega) (by omega)
        have:=g9.2.1
        exact .inr ⟨by omega,by rw[hq];exact m1,by rw[hq,←hl.len];exact m2⟩) (fun h=>by
       have:=ht h
       rw[(iQ c _ _).len,DG p6]
       exact this)
      obtain⟨i1,i2,i3,i4,i5,i6,i7⟩:=ih
      refine⟨i1,i2,by omega,i4,by rw[i5,List.length_set],fun h=>by have:=i6 h;omega,fun h b=> ?_⟩
      rw[i7 h b,DG p6]
theorem DI(c:CV)(b:Int):dH c b=0∨dH c b=1∨dH c b=7∨dH c b=9:=by
 rw[dH];split
 ·
  split
  ·
   omega
  ·
   split
   ·
    omega
   ·
    split
    ·
     rw[kr];split<;>omega
    ·
     omega
 ·
  omega
theorem Qz(c:CV)(l:Int):(bf c l).2.2=0∨(bf c l).2.2=1∨(bf c l).2.2=7∨(bf c l).2.2=9:=by
 rw[bf]
 split
 ·
  exact .inl rfl
 ·
  split
  ·
   exact .inl rfl
  ·
   split
   ·
    exact .inr (.inr (.inr rfl))
   ·
    exact DI _ _
theorem Jc: ∀(n:Nat) (y:WV) (a:List Int) (b:List UInt8),(fO n y a b).2≠6
 |0,y,a,b=>by simp[fO]
 |n+1,y,a,b=>by
  rw[fO]
  split
  ·
   have:=Qz y.v.ah y.v.last
   simp only;omega
  ·
   split
   ·
    simp
   ·
    split
    ·
     have:=xV (bf y.v.ah y.v.last).1 (bf y.v.ah y.v.last).2.1 (ak (bf y.v.ah y.v.last).1 (bf y.v.ah y.v.last).2.1).used b
     simp only[bM];omega
    ·
     exact Jc n _ _ _
theorem DJ(y:WV)(a:List Int):(fC y a).2≠6:=by
 rw[fC]
 split
 ·
  rw[cM]
  split
  ·
   have:=vz ⟨2,max 0 ((a.length:Int) -1),y.v.gen+1,fA a⟩ y.v.ah.size
   simp only;omega
  ·
   simp
 ·
  exact Jc _ _ _ _
theorem AD{x:WV}{src to:Int}(hx:cR x)(ht:0≤to→2≤to∧to<x.v.ah.blocks.length∧(ak x.v.ah to).bad=false):
  ia x (cT x src to).1∧((cT x src to).2.2=0→x.v.ah.ops<(cT x src to).1.v.ah.ops)∧((cT x src to).2.1=true→(cT x src to).2.2=0)∧((cT x src to).2.1=false∧(cT x src to).2.2=6→ ∀b,(ak (cT x src to).1.v.ah b).bad=(ak x.v.ah b).bad):=by
 obtain⟨h1,h2,h3,h4,h5,h6,h7⟩:=DH x.v.at_ 0 (src:=src) hx.ah (.db _) (Int.le_refl _) hx.qR ht
 rw[cT]
 split
 ·
  rename_i e he
  refine⟨.on hx h1 h2 h3,fun h=>h6 (by rw[he];exact congrArg some h),fun h=>absurd (show false=true from h) (by simp),fun h b=>h7 (by rw[he];exact congrArg some h.2) b⟩
 ·
  rename_i he
  have fH:=hx.on h1 h2
  have hw:=I9 fH (a:=(cS x.v src to x.v.at_ 0 x.v.ah x.v.at_).a) (h4.di h2) h5
  refine⟨(ia.on hx h1 h2 h3).trans hw.1,fun h=> ?_,fun h=>by simpa using h,fun h=> ?_⟩
  ·
   have g:(cS x.v src to x.v.at_ 0 x.v.ah x.v.at_).c.ops<_:=hw.2 h
   simp only;omega
  ·
   exact absurd h.2 (DJ _ _)
open Go.aB
theorem Jd: ∀(n:Nat) (c:CV) (b:Int),(gI n c b).2≠6
 |0,c,b=>by have:=DI c b;simp only[gI];omega
 |n+1,c,b=>by
  rw[gI];split
  ·
   have:=xV c b (ak c b).used (iP c);simp only[bM];omega
  ·
   exact Jd n _ _
theorem Je(c:CV)(b:Int):(dD c b).2≠6:=Jd _ _ _
def qS(c:CV)(l:List aD)(i:Int):Bool:=decide ((cq c (l.set i.toNat bK)).2.2=6)&&decide ((l.getD i.toNat gp).live≤xM (l.set i.toNat bK) c.ae)
def cL(c:CV)(l:List aD)(i:Int):Int×Int:=if qS c l i=true then(-1,0)else(cq c (l.set i.toNat bK)).2
def fD(x:WV)(l:List aD)(i:Int):WV×Int:=
 if(cL x.v.ah l i).2≠0 then(x.on (cq x.v.ah (l.set i.toNat bK)).1,iR (cL x.v.ah l i).2)
 else if(cT (x.on (cq x.v.ah (l.set i.toNat bK)).1) (i+2) (cL x.v.ah l i).1).2.1=false∨(l.getD i.toNat gp).used=x.v.ah.ae then
  ((cT (x.on (cq x.v.ah (l.set i.toNat bK)).1) (i+2) (cL x.v.ah l i).1).1,(cT (x.on (cq x.v.ah (l.set i.toNat bK)).1) (i+2) (cL x.v.ah l i).1).2.2)
 else((cT (x.on (cq x.v.ah (l.set i.toNat bK)).1) (i+2) (cL x.v.ah l i).1).1.on (dD (cT (x.on (cq x.v.ah (l.set i.toNat bK)).1) (i+2) (cL x.v.ah l i).1).1.v.ah (i+2)).1,
  iR (dD (cT (x.on (cq x.v.ah (l.set i.toNat bK)).1) (i+2) (cL x.v.ah l i).1).1.v.ah (i+2)).2)
theorem Jf{e:Int}(h:iR e=0):e=0∨e=9:=by
 rw[iR]at h;split at h
 ·
  exact .inr (by assumption)
 ·
  exact .inl h
theorem AE{e:Int}(h:iR e=6):e=6:=by
 rw[iR]at h;split at h
 ·
  cases h
 ·
  exact h
theorem AF{c:CV}{l:List aD}{i:Int}(hk:aW c=true)(ht:jB c l):(cL c l i).2=0→0≤(cL c l i).1→2≤(cL c l i).1∧(cL c l i).1<c.blocks.length∧(ak (cq c (l.set i.toNat bK)).1 (cL c l i).1).bad=false:=by
 intro h h0
 rw[cL]at h h0⊢
 split at h
 ·
  rename_i ha;rw[if_pos ha]at h0;exact absurd (show(0:Int)≤ -1 from h0) (by decide)
 ·
  rename_i ha;rw[if_neg ha];exact(DE hk (ht.set i.toNat)).2.2.2.1 h
theorem QA{x:WV}{src to:Int}(hx:cR x)(ht:0≤to→2≤to∧to<x.v.ah.blocks.length∧(ak x.v.ah to).bad=false):cR (cT x src to).1∧dJ x.v.ah (cT x src to).1.v.ah:=
 ⟨(AD hx ht).1.ok,(AD hx ht).1.di⟩
theorem Jg{x:WV}{l:List aD}{i:Int}(hx:cR x)(ht:jB x.v.ah l):
  ia x (fD x l i).1∧((fD x l i).2=0→x.v.ah.ops<(fD x l i).1.v.ah.ops)∧((fD x l i).2=6→ ∀b,(ak (fD x l i).1.v.ah b).bad=(ak x.v.ah b).bad):=by
 obtain⟨t1,t2,t3,t4,t5,t6⟩:=DE hx.ah (ht.set i.toNat)
 have hn:=ia.on hx t1 t2 t3
 rw[fD]
 by_cases h0:(cL x.v.ah l i).2≠0
 ·
  rw[if_pos h0]
  have he:(cL x.v.ah l i).2=(cq x.v.ah (l.set i.toNat bK)).2.2:=by
   rw[cL]at h0⊢
   split at h0
   ·
    exact absurd rfl h0
   ·
    rename_i ha;rw[if_neg ha]
  refine⟨hn,fun h=> ?_,fun h b=> ?_⟩
  ·
   rcases Jf h with g|g
   ·
    exact absurd g h0
   ·
    exact t5 (he▸g)
  ·
   have:=t6 (he▸AE h)
   simp only[WV.on];rw[this]
 ·
  rw[if_neg h0]
  have qI:(cL x.v.ah l i).2=0:=by simpa using h0
  have hr:=AF (i:=i) hx.ah ht qI
  obtain⟨m1,m2,m3,m4⟩:=AD (x:=x.on (cq x.v.ah (l.set i.toNat bK)).1) (src:=i+2) (to:=(cL x.v.ah l i).1) hn.ok (fun h=>by
   have:=hr h
   exact⟨this.1,by simp only[WV.on];rw[t2.len];exact this.2.1,this.2.2⟩)
  have hb:(cL x.v.ah l i).2=0→(cq x.v.ah (l.set i.toNat bK)).2.2=6→(cq x.v.ah (l.set i.toNat bK)).1=x.v.ah:=fun _ h=>t6 h
  by_cases h1:(cT (x.on (cq x.v.ah (l.set i.toNat bK)).1) (i+2) (cL x.v.ah l i).1).2.1=false∨(l.getD i.toNat gp).used=x.v.ah.ae
  ·
   rw[if_pos h1]
   refine⟨hn.trans m1,fun h=> ?_,fun h b=> ?_⟩
   ·
    have g:(cq x.v.ah (l.set i.toNat bK)).1.ops<_:=m2 h
    simp only;omega
   ·
    have hf:(cT (x.on (cq x.v.ah (l.set i.toNat bK)).1) (i+2) (cL x.v.ah l i).1).2.1=false:=by
     cases hq:(cT (x.on (cq x.v.ah (l.set i.toNat bK)).1) (i+2) (cL x.v.ah l i).1).2.1 with
     |false=>rfl
     |true=>have:=m3 hq;exact absurd (this.symm.trans h) (by decide)
    rw[m4 ⟨hf,h⟩ b]
    by_cases ha:qS x.v.ah l i=true
    ·
     simp only[qS,Bool.and_eq_true,decide_eq_true_eq]at ha
     simp only[WV.on];rw[t6 ha.1]
    ·
     exact absurd h (QB (by
      have:(cL x.v.ah l i).1=(cq x.v.ah (l.set i.toNat bK)).2.1:=by rw[cL,if_neg ha]
      have g:(cq x.v.ah (l.set i.toNat bK)).2.2=0:=by
       rw[cL,if_neg ha]at qI;exact qI
      have:=(t4 g).1
      omega))
  ·
   rw[if_neg h1]
   have hm:(cT (x.on (cq x.v.ah (l.set i.toNat bK)).1) (i+2) (cL x.v.ah l i).1).2.1=true:=by
    cases hq:(cT (x.on (cq x.v.ah (l.set i.toNat bK)).1) (i+2) (cL x.v.ah l i).1).2.1 with
    |true=>rfl
    |false=>exact absurd (.inl hq) h1
   have hz:=m2 (m3 hm)
   have hc:=xO (i+2) m1.ok.ah
   have ho:=vn (eE (cT (x.on (cq x.v.ah (l.set i.toNat bK)).1) (i+2) (cL x.v.ah l i).1).1.v.ah (i+2)).toNat (cT (x.on (cq x.v.ah (l.set i.toNat bK)).1) (i+2) (cL x.v.ah l i).1).1.v.ah (i+2)
   refine⟨(hn.trans m1).trans (.on m1.ok hc.1 hc.2 ho),fun _=> ?_,fun h=>absurd (AE h) (Je _ _)⟩
   have g:(cq x.v.ah (l.set i.toNat bK)).1.ops<_:=hz
   have g2:(cT (x.on (cq x.v.ah (l.set i.toNat bK)).1) (i+2) (cL x.v.ah l i).1).1.v.ah.ops≤(dD (cT (x.on (cq x.v.ah (l.set i.toNat bK)).1) (i+2) (cL x.v.ah l i).1).1.v.ah (i+2)).1.ops:=ho
   simp only[WV.on]at*;omega
where
 QB {x:WV} {src to:Int} (h:0≤to):(cT x src to).2.2≠6:=by
  have key: ∀(l:List Int) (id:Nat) (c:CV) (a:List Int),(cS x.v src to l id c a).e≠some 6:=by
   intro l
   induction l with
   |nil=>intro id c a;simp[cS]
   |cons n r ih=>
    intro id c a
    rw[cS]
    split
    ·
     exact ih _ _ _
    ·
     split
     ·
      rename_i h2;rw[cd,if_neg (by omega)]at h2;cases h2
     ·
      split
      ·
       rename_i h3
       have:=(vz ⟨1,id,((x.v.gen:Int)+1).toNat,iO c n⟩ c.size).resolve_left h3
       intro h;have h:=Option.some.inj h;rw[eF]at h;omega
      ·
       split
       ·
        intro h
        have h:=AE (Option.some.inj h)
        have:=xV c (cd c x.v.at_ a src to).1 (ak c (cd c x.v.at_ a src to).1).used (eF c ((x.v.gen:Int)+1) id n).1
        rw[bM]at h;omega
       ·
        exact ih _ _ _
  rw[cT]
  split
  ·
   rename_i e he
   intro h
   exact key _ _ _ _ (by rw[he];exact congrArg some h)
  ·
   exact DJ _ _
def n4(p:Int)(x:aD):Bool:=decide (x.used<p)&&decide (x.bp<c8)
def oY(c:CV)(l:List aD):Int×Bool:=eD (bW (n4 c.ae) l) c.ae
def lh(x:WV)(l:List aD):WV×Int:=
 if(oY x.v.ah l).2=false then(x,6)else(x.on (dD x.v.ah ((oY x.v.ah l).1+2)).1,iR (dD x.v.ah ((oY x.v.ah l).1+2)).2)
def mc(x:WV):List aD:=aQ x.v.ah x.v.at_
def qT(x:WV):Int×Bool:=iS (mc x) x.v.ah.ae
def eU(x:WV):WV×Int:=
 if(qT x).2=true∧vq x.v.gen=false then
  (if(fD x (mc x) (qT x).1).2≠6 then fD x (mc x) (qT x).1 else lh (fD x (mc x) (qT x).1).1 (mc x))
 else lh x (mc x)
theorem jB.di{c d:CV}{l:List aD}(h:jB c l)(hl:dJ c d)(hb: ∀b,(ak d b).bad=(ak c b).bad):jB d l:=⟨by rw[h.1,hl.len],fun i x hx jj=>by rw[hb];exact h.2 i x hx jj⟩
theorem Jh{x:WV}{l:List aD}(hx:cR x)(ht:jB x.v.ah l):ia x (lh x l).1∧((lh x l).2=0→x.v.ah.ops<(lh x l).1.v.ah.ops):=by
 rw[lh];split
 ·
  exact⟨.db hx,fun h=>absurd (show(6:Int)=0 from h) (by decide)⟩
 ·
  rename_i h
  have hd:=r8 ht (fun x h=>(oV h).1) (show(oY x.v.ah l).2=true by simpa using h)
  change 0≤(oY x.v.ah l).1∧(oY x.v.ah l).1<_∧(ak x.v.ah ((oY x.v.ah l).1+2)).bad=false at hd
  have hc:=xO ((oY x.v.ah l).1+2) hx.ah
  exact⟨.on hx hc.1 hc.2 (vn _ _ _),fun h=>Au hd.2.2 (Jf h).symm⟩
theorem DK{x:WV}(hx:cR x):ia x (eU x).1∧((eU x).2=0→x.v.ah.ops<(eU x).1.v.ah.ops):=by
 have ht:jB x.v.ah (mc x):=AA _ _
 rw[eU];split
 ·
  obtain⟨r1,r2,r3⟩:=Jg (i:=(qT x).1) hx ht
  split
  ·
   exact⟨r1,r2⟩
  ·
   rename_i h6
   have vB:(fD x (mc x) (qT x).1).2=6:=by simpa using h6
   have:=Jh r1.ok (ht.di r1.di (r3 vB))
   exact⟨r1.trans this.1,fun h=>by have:=this.2 h;have:=r1.ops;omega⟩
 ·
  exact Jh hx ht
def p8:Nat→WV→Int→WV×Int
 |0,x,_=>(x,0)
 |n+1,x,need=>
  if need≤(l6 x.v.ah x.v.at_).1 then(x,0)
  else if need≤(l6 x.v.ah x.v.at_).2∧rX x.v.ah x.v.last<2 then({x with beyond:=true},0)
  else if(eU x).2=0 then p8 n (eU x).1 need
  else if(eU x).2≠6 then eU x
  else if need≤(l6 x.v.ah x.v.at_).2 then({(eU x).1 with beyond:=true},0)
  else((eU x).1,5)
def me(x:WV)(need:Int):WV×Int:=p8 ((c8 -x.v.ah.ops).toNat+1) x need
theorem cR.by{x:WV}(h:cR x)(b:Bool):cR {x with beyond:=b}:=⟨h.ah,h.len,h.ae,h.size,h.last,h.gen,h.qR,h.pZ⟩
theorem ia.by{x y:WV}(h:ia x y)(b:Bool):ia x {y with beyond:=b}:=⟨h.ok.by b,h.di,h.ops,h.vu⟩
theorem Ji: ∀(n:Nat) {x:WV} {need:Int},cR x→ia x (p8 n x need).1
 |0,x,need,hx=> .db hx
 |n+1,x,need,hx=>by
  have hc:=DK hx
  rw[p8]
  split
  ·
   exact .db hx
  ·
   split
   ·
    exact(ia.db hx).by true
   ·
    split
    ·
     exact hc.1.trans (Ji n hc.1.ok)
    ·
     split
     ·
      exact hc.1
     ·
      split
      ·
       exact hc.1.by true
      ·
       exact hc.1
theorem QC{x:WV}{need:Int}(hx:cR x):ia x (me x need).1:=Ji _ hx
def bl(x:It):Int×List UInt8:=(x.id,x.body.xs)
def tV(l:List (Int×List UInt8)):Nat:=(l.filter fun x=>decide (0<x.2.length)).length
theorem QD{l:List (Int×List UInt8)}{i:Nat}{x:Int×List UInt8}(h:l[i]? =some x):((l.take (i+1)).filter fun x=>decide (0<x.2.length)).length=((l.take i).filter fun x=>decide (0<x.2.length)).length+(if 0<x.2.length then 1 else 0):=by
 rw[List.take_add_one,h,List.filter_append,List.length_append]
 congr 1
 simp only[Option.toList_some,List.filter_cons,List.filter_nil]
 split<;>simp_all
def iv(v:VV)(x:Int×List UInt8):PV:=⟨1,x.1,v.gen+1,x.2⟩
def iw(v:VV)(aL:Bool):List (Int×List UInt8)→CV→List Int→CV×List Int×Int
 |[],c,a=>(c,a,0)
 |x::r,c,a=>
  if x.2.length=0 then iw v aL r c (a.set x.1.toNat 0)
  else if(dj c (v.at_++a) aL (iv v x)).2.2≠0 then((dj c (v.at_++a) aL (iv v x)).1,a,(dj c (v.at_++a) aL (iv v x)).2.2)
  else iw v aL r (dj c (v.at_++a) aL (iv v x)).1 (a.set x.1.toNat (dj c (v.at_++a) aL (iv v x)).2.1)
def fu(x:WV)(l:List (Int×List UInt8)):WV×Int:=me {x with beyond:=false} (tV l)
def kM(x:WV)(l:List (Int×List UInt8)):CV×List Int×Int:=iw (fu x l).1.v (fu x l).1.beyond l (fu x l).1.v.ah (fu x l).1.v.at_
def iz(x:WV)(l:List (Int×List UInt8)):WV×Int:=
 if(fu x l).2≠0 then fu x l
 else if(kM x l).2.2≠0 then((fu x l).1.on (kM x l).1,(kM x l).2.2)
 else fC ((fu x l).1.on (kM x l).1) (kM x l).2.1
theorem DL{v:VV}{aL:Bool}: ∀(l:List (Int×List UInt8)) {c:CV} {a:List Int},aW c=true→3≤c.blocks.length→gJ c a→
  aW (iw v aL l c a).1=true∧dJ c (iw v aL l c a).1∧c.ops≤(iw v aL l c a).1.ops∧gJ c (iw v aL l c a).2.1∧(iw v aL l c a).2.1.length=a.length
 |[],c,a,hk,h2,ha=>⟨hk, .db c,Int.le_refl _,ha,rfl⟩
 |x::r,c,a,hk,h2,ha=>by
  rw[iw]
  split
  ·
   have:=DL r (v:=v) (aL:=aL) hk h2 (a:=a.set x.1.toNat 0) (fun y hy=>by
    rcases List.mem_or_eq_of_mem_set hy with hy|rfl
    ·
     exact ha y hy
    ·
     exact .inl rfl)
   rwa [List.length_set]at this
  ·
   obtain⟨p1,p2,p3,p4⟩:=I3 (fl:=v.at_++a) (aL:=aL) (p:=iv v x) hk h2
   split
   ·
    exact⟨p1,p2,p3,ha,rfl⟩
   ·
    rename_i h0
    have p5:=p4 (by simpa using h0)
    have:=DL r (v:=v) (aL:=aL) p1 (by rw[p2.len];exact h2) (a:=a.set x.1.toNat (dj c (v.at_++a) aL (iv v x)).2.1) (fun y hy=>by
     rw[p2.ae,p2.len]
     rcases List.mem_or_eq_of_mem_set hy with hy|rfl
     ·
      exact ha y hy
     ·
      exact .inr p5)
    obtain⟨i1,i2,i3,i4,i5⟩:=this
    refine⟨i1,p2.trans i2,by omega,fun y hy=> ?_,by rw[i5,List.length_set]⟩
    have:=i4 y hy
    rwa [p2.ae,p2.len]at this
theorem DM{x:WV}{l:List (Int×List UInt8)}(hx:cR x):ia x (fu x l).1:=by
 have:=QC (need:=tV l) (hx.by false)
 exact⟨this.ok,this.di,this.ops,this.vu⟩
theorem Jj{x:WV}{l:List (Int×List UInt8)}(hx:cR x):ia x (iz x l).1:=by
 have hs:=DM (l:=l) hx
 rw[iz];split
 ·
  exact hs
 ·
  have hl:=hs.ok.p0
  obtain⟨i1,i2,i3,i4,i5⟩:=DL (v:=(fu x l).1.v) (aL:=(fu x l).1.beyond) l hs.ok.ah (by omega) hs.ok.qR
  have fH:=hs.trans (.on hs.ok i1 i2 i3)
  split
  ·
   exact fH
  ·
   exact fH.trans (I9 fH.ok (i4.di i2) i5).1
def nq:Nat→WV→List (Int×List UInt8)→WV×Int
 |0,x,_=>(x,0)
 |n+1,x,l=>if(iz x l).2=5∧kv x.v.ah<kv (iz x l).1.v.ah then nq n (iz x l).1 l else iz x l
theorem Jk(c:CV):kv c≤c.blocks.length:=List.length_filter_le _ _
def qU(v:VV)(x:Int×List UInt8):Bool:=decide (0≤x.1)&&decide (x.1<(v.at_.length:Int))&&decide ((x.2.length:Int)≤dO v.ah.size)
def qV(v:VV)(l:List (Int×List UInt8))(i:Nat):Bool:=qU v (l.getD i (0,[]))&& !((l.take i).map Prod.fst).contains (l.getD i (0,[])).1
def oZ(v:VV)(l:List (Int×List UInt8)):Bool:=(List.range l.length).all (qV v l)
theorem AG{v:VV}{l:List (Int×List UInt8)}:oZ v l=true↔ ∀i,i<l.length→qV v l i=true:=by simp only[oZ,List.all_eq_true,List.mem_range]
def qa(l:List Int)(i:Nat):Int→Option Unit:=fun x=>if x∈l.take i then some ()else none
theorem Jl{l:List Int}{i:Nat}{x:Int}:(qa l i x).isSome=decide (x∈l.take i):=by
 unfold qa;split<;>simp_all
theorem QE{l:List Int}:(fun _=>none)=qa l 0:=by
 funext x;simp[qa]
theorem QF{l:List Int}{i:Nat}{y:Int}(h:l[i]? =some y):(fun z=>if z=y then some ()else qa l i z)=qa l (i+1):=by
 funext x
 unfold qa
 rw[List.take_add_one,h]
 by_cases hx:x=y
 ·
  subst hx;simp
 ·
  simp[hx]
def fv(v:VV)(l:List (Int×List UInt8)):VV×Int:=
 if ¬(kc v=true∧v.gen<281474976710655∧oZ v l=true)then(v,1)
 else if v.ah.off=true then(v,7)
 else((nq (v.ah.blocks.length+1) ⟨v,false⟩ l).1.v,(nq (v.ah.blocks.length+1) ⟨v,false⟩ l).2)
def r9(b p:Int):Int:=if b<4∨32<b∨p<1∨16<p then 0 else(b -4)*p
def lj(c:CV)(ids:Int):WV×Int:=n0 ⟨⟨c,[],0,0⟩,false⟩ ids.toNat
def kN(c:CV)(ids:Int):VV×Int:=
 if ¬(fY c=true∧1≤ids∧ids≤kb c.size)then(⟨c,[],0,0⟩,1)
 else if c.off=true then(⟨c,[],0,0⟩,7)
 else if(lj c ids).2≠0 then(⟨(lj c ids).1.v.ah,[],0,0⟩,(lj c ids).2)
 else((lj c ids).1.v,0)
theorem QG{b:List UInt8}:(bA b).1.at_.length≤64∧(bA b).1.gen<281474976710656:=by
 rw[bA]
 split
 ·
  simp[fM]
 ·
  rename_i h1
  split
  ·
   simp[fM]
  ·
   rename_i h2
   split
   ·
    simp[fM]
   ·
    rename_i h3
    have hf:qM (cE b).1=true:=by simpa using h3
    simp only[qM,Bool.and_eq_true,decide_eq_true_eq]at hf
    refine⟨?_,IP b⟩
    have kO:(cE b).1.id<64:=by
     have kP:(cE b).2=0:=by simpa using h1
     rw[cE]at kP h2⊢
     by_cases g1:mG b.length=false
     ·
      rw[if_pos g1]at kP;cases kP
     ·
      rw[if_neg g1]at kP h2⊢
      by_cases g2:iM b=true
      ·
       rw[if_pos g2]at h2;exact absurd rfl h2
      ·
       rw[if_neg g2]at kP h2⊢
       by_cases g3:de (vg b)≠k7 (kt b)
       ·
        rw[if_pos g3]at kP;cases kP
       ·
        rw[if_neg g3]at kP h2⊢
        by_cases g4:nT b=false
        ·
         rw[if_pos g4]at kP;cases kP
        ·
         rw[if_neg g4]at kP h2⊢
         have g5:nT b=true:=by simpa using g4
         simp only[nT,Bool.and_eq_true]at g5
         have:=(vf.1 g5.2).2.2.2.1
         split
         ·
          simp[iL]
         ·
          exact this
    simp only[Al]
    omega
theorem Jm(l:List (List UInt8)): ∀k,(cZ l k).new.at_.length≤64∧(cZ l k).new.gen<281474976710656
 |0=>by simp[cZ,fM]
 |k+1=>by
  rw[cZ,tJ]
  split
  ·
   exact QG
  ·
   exact Jm l k
theorem QH(l:List (List UInt8)):(eL l).2.1.at_.length≤64∧(eL l).2.1.gen<281474976710656:=by
 rw[eL]
 split
 ·
  exact Jm _ _
 ·
  split<;>simp[fM]
theorem DN{v:VV}{b:Bool}(h:kc v=true):cR ⟨v,b⟩:=by
 have hr:=Ap h
 have ha:= @ID v h
 simp only[kc,Bool.and_eq_true,decide_eq_true_eq]at h
 obtain⟨⟨⟨h1,h2⟩,h3⟩,h4⟩:=h
 obtain⟨hb,hl,hf⟩:=Dl h1
 obtain⟨b1,b2,b3,b4⟩:=iN.1 hb
 have vC:=QH ((ak {v.ah with off:=false} 0).ae++(ak {v.ah with off:=false} 1).ae)
 rw[hf]at h2 h3 h4
 simp only at h2 h3 h4
 have hd:=kf hr.1
 have pY:4≤(v.ah.blocks.length:Int):=b2
 refine⟨hr.1,b2,b3,b4,?_,by rw[←h2];exact vC.2,fun n hn=> ?_,by rw[←h4];exact vC.1⟩
 ·
  rw[←h3]
  have Y4:=ez.1 (tM hr.1 (b:=0) (by omega) (by omega))
  have Y5:=ez.1 (tM hr.1 (b:=1) (by omega) (by omega))
  have hlen:((ak v.ah 0).ae++(ak v.ah 1).ae).length=(ak v.ah 0).ae.length+(ak v.ah 1).ae.length:=List.length_append
  have nr:=Dh (l:=(ak v.ah 0).ae++(ak v.ah 1).ae) (by rw[hlen];omega)
  change 0≤(bL {v.ah with off:=false}).1∧(bL {v.ah with off:=false}).1<_ at nr
  rw[hlen]at nr
  have g0:0≤(bL {v.ah with off:=false}).1/v.ah.ae:=Int.ediv_nonneg nr.1 (by omega)
  have g1:(bL {v.ah with off:=false}).1/v.ah.ae<2:=Int.ediv_lt_of_lt_mul (by omega) (by
   have h9:(bL {v.ah with off:=false}).1<(((ak v.ah 0).ae.length+(ak v.ah 1).ae.length:Nat):Int):=nr.2
   omega)
  change(bL {v.ah with off:=false}).1/v.ah.ae=0∨(bL {v.ah with off:=false}).1/v.ah.ae=1
  omega
 ·
  by_cases h0:n=0
  ·
   exact .inl h0
  ·
   obtain⟨i,hi⟩:=List.getElem?_of_mem hn
   have:=ha hi h0
   have hp:=nn.1 this.2.2
   exact .inr ⟨this.1,hp.1,hp.2.1⟩
open Go.aB
def Jn(b:BV):Bool:=decide (b.ae.length≤20)&&b.ae.all fun p=>decide (p.length≤300)
def n5(c:CV):Bool:=decide (c.blocks.length≤40)&&decide (c.aS.length≤80)&&c.blocks.all Jn
theorem DO{c:CV}:n5 c=true↔c.blocks.length≤40∧c.aS.length≤80∧ ∀b∈c.blocks,b.ae.length≤20∧ ∀p∈b.ae,p.length≤300:=by
 simp only[n5,Jn,Bool.and_eq_true,decide_eq_true_eq,List.all_eq_true,and_assoc]
theorem DP{a b:BV}:a=b↔a.used=b.used∧a.bp=b.bp∧a.bad=b.bad∧a.ae=b.ae:=by
 constructor
 ·
  rintro rfl;exact⟨rfl,rfl,rfl,rfl⟩
 ·
  rintro⟨h1,h2,h3,h4⟩
  obtain⟨a1,a2,a3,a4⟩:=a
  obtain⟨b1,b2,b3,b4⟩:=b
  simp only at h1 h2 h3 h4
  subst h1 h2 h3 h4;rfl
theorem AH{a b:CV}:a=b↔a.ae=b.ae∧a.size=b.size∧a.ops=b.ops∧a.off=b.off∧a.blocks=b.blocks∧a.aS=b.aS:=by
 constructor
 ·
  rintro rfl;exact⟨rfl,rfl,rfl,rfl,rfl,rfl⟩
 ·
  rintro⟨h1,h2,h3,h4,h5,h6⟩
  obtain⟨a1,a2,a3,a4,a5,a6⟩:=a
  obtain⟨b1,b2,b3,b4,b5,b6⟩:=b
  simp only at h1 h2 h3 h4 h5 h6
  subst h1 h2 h3 h4 h5 h6;rfl
theorem AI{α:Type}{a b:List α}(hl:a.length=b.length)(h: ∀j,j<a.length→a[j]? =b[j]?):a=b:=List.ext_getElem? fun j=>by
 rcases Nat.lt_or_ge j a.length with hj|hj
 ·
  exact h j hj
 ·
  rw[List.getElem?_eq_none hj,List.getElem?_eq_none (by omega)]
def tW(l:List (List UInt8))(i:Nat):Bool:=decide ((bA (l.getD i [])).2=0)&&(List.range l.length).all fun k=> !(decide ((bA (l.getD k [])).2=0)&&(decide ((bA (l.getD i [])).1.gen<(bA (l.getD k [])).1.gen)||(decide ((bA (l.getD k [])).1.gen=(bA (l.getD i [])).1.gen)&&decide (i<k))))
theorem DQ(l:List (List UInt8)): ∀k,k≤l.length→
  ((cZ l k).found=true→ ∃i,i<k∧(cZ l k).at_=(i:Int)∧(bA (l.getD i [])).2=0∧(cZ l k).new=(bA (l.getD i [])).1∧ ∀j,j<k→(bA (l.getD j [])).2=0→(bA (l.getD j [])).1.gen<(bA (l.getD i [])).1.gen∨((bA (l.getD j [])).1.gen=(bA (l.getD i [])).1.gen∧j≤i))∧
  ((cZ l k).found=false→ ∀j,j<k→(bA (l.getD j [])).2≠0)∧(cZ l k).blank=(l.take k).all iM
 |0,_=>⟨fun h=>by simp[cZ]at h,fun _ j hj=>by omega,by simp[cZ]⟩
 |k+1,hk=>by
  obtain⟨h1,h2,h3⟩:=DQ l k (by omega)
  obtain⟨b,hb⟩:=get_some (xs:=l) (i:=k) (by omega)
  have hg:l.getD k []=b:=by simp[List.getD,hb]
  have dk:(l.take (k+1)).all iM=((l.take k).all iM&&iM b):=by rw[List.take_add_one,hb];simp
  by_cases hq:(bA b).2=0∧((cZ l k).found=false∨(cZ l k).new.gen≤(bA b).1.gen)
  ·
   rw[Iq hb hq,h3,dk]
   refine⟨fun _=>⟨k,by omega,rfl,by rw[hg];exact hq.1,by rw[hg],fun j hj hv=> ?_⟩,fun h=>by simp at h,rfl⟩
   rw[hg]
   by_cases e:j=k
   ·
    subst e;rw[hg];exact .inr ⟨rfl,Nat.le_refl _⟩
   ·
    have y5:j<k:=by omega
    rcases hq.2 with hf|hf
    ·
     exact absurd hv (h2 hf j y5)
    ·
     cases jC:(cZ l k).found with
     |false=>exact absurd hv (h2 jC j y5)
     |true=>
      obtain⟨i,hi,ha,zP,hn,hH⟩:=h1 jC
      rw[hn]at hf
      rcases hH j y5 hv with g|g
      ·
       exact .inl (by omega)
      ·
       by_cases bo:(bA (l.getD j [])).1.gen<(bA b).1.gen
       ·
        exact .inl bo
       ·
        exact .inr ⟨by omega,by omega⟩
  ·
   rw[Ir hb hq]
   refine⟨fun jC=> ?_,fun jC j hj=> ?_,by simp only[h3,dk]⟩
   ·
    obtain⟨i,hi,ha,zP,hn,hH⟩:=h1 jC
    refine⟨i,by omega,ha,zP,hn,fun j hj hv=> ?_⟩
    by_cases e:j=k
    ·
     subst e
     rw[hg]at hv⊢
     have: ¬(cZ l j).new.gen≤(bA b).1.gen:=fun h=>hq ⟨hv, .inr h⟩
     rw[hn]at this
     exact .inl (by omega)
    ·
     exact hH j (by omega) hv
   ·
    by_cases e:j=k
    ·
     subst e;rw[hg];exact fun hv=>hq ⟨hv, .inl jC⟩
    ·
     exact h2 jC j (by omega)
theorem AJ{l:List (List UInt8)}{i:Nat}:tW l i=true↔(bA (l.getD i [])).2=0∧ ∀k,k<l.length→(bA (l.getD k [])).2=0→ ¬((bA (l.getD i [])).1.gen<(bA (l.getD k [])).1.gen∨((bA (l.getD k [])).1.gen=(bA (l.getD i [])).1.gen∧i<k)):=by
 simp only[tW,Bool.and_eq_true,decide_eq_true_eq,List.all_eq_true,List.mem_range,Bool.not_eq_true',Bool.and_eq_false_iff,Bool.or_eq_false_iff,decide_eq_false_iff_not]
 constructor
 ·
  rintro⟨h1,h2⟩
  refine⟨h1,fun k hk hv hc=> ?_⟩
  rcases h2 k hk with g|g
  ·
   exact g hv
  ·
   rcases hc with c|c
   ·
    exact g.1 c
   ·
    rcases g.2 with g|g
    ·
     exact g c.1
    ·
     exact g c.2
 ·
  rintro⟨h1,h2⟩
  refine⟨h1,fun k hk=> ?_⟩
  by_cases hv:(bA (l.getD k [])).2=0
  ·
   have:=h2 k hk hv
   refine .inr ⟨fun c=>this (.inl c),?_⟩
   by_cases e:(bA (l.getD k [])).1.gen=(bA (l.getD i [])).1.gen
   ·
    exact .inr fun c=>this (.inr ⟨e,c⟩)
   ·
    exact .inl e
  ·
   exact .inl hv
theorem Jo{l:List (List UInt8)}{i:Nat}(hi:i<l.length)(h:tW l i=true):eL l=((i:Int),(bA (l.getD i [])).1,0):=by
 obtain⟨h1,h2⟩:=AJ.1 h
 obtain⟨s1,s2,s3⟩:=DQ l l.length (Nat.le_refl _)
 cases hf:(cZ l l.length).found with
 |false=>exact absurd h1 (s2 hf i hi)
 |true=>
  obtain⟨j,hj,ha,hv,hn,hH⟩:=s1 hf
  have e:j=i:=by
   have g1:=hH i hi h1
   have g2:=h2 j hj hv
   omega
  subst e
  rw[eL,if_pos hf,ha,hn]
theorem QI{l:List (List UInt8)}(h: ∀i,i<l.length→tW l i=false):eL l=(0,fM,if l.all iM=true then 6 else 2):=by
 obtain⟨s1,s2,s3⟩:=DQ l l.length (Nat.le_refl _)
 rw[List.take_length]at s3
 cases hf:(cZ l l.length).found with
 |false=>
  rw[eL,if_neg (by rw[hf];simp),s3]
  split<;>rfl
 |true=>
  obtain⟨j,hj,ha,hv,hn,hH⟩:=s1 hf
  have:tW l j=true:=AJ.2 ⟨hv,fun k hk QJ hc=>by have:=hH k hk QJ;omega⟩
  rw[h j hj]at this;cases this
def qW(c:CV):VV×Int:=
 if(bL c).2.2≠0 then(ju,(bL c).2.2)else if ku c=false then(ju,2)else(⟨c,(bL c).2.1.at_,(bL c).2.1.gen,(bL c).1/c.ae⟩,0)
theorem Jp{c:CV}{l:List Int}{i:Nat}{y:Int}(h:l.getD i 0=y):oQ c l i=(decide (y=0)||(!(l.take i).contains y&&lb c (i:Int) y)):=by rw[oQ,h]
theorem QK{a b:VV}:a=b↔a.ah=b.ah∧a.at_=b.at_∧a.gen=b.gen∧a.last=b.last:=by
 constructor
 ·
  rintro rfl;exact⟨rfl,rfl,rfl,rfl⟩
 ·
  obtain⟨a1,a2,a3,a4⟩:=a
  obtain⟨b1,b2,b3,b4⟩:=b
  rintro⟨h1,h2,h3,h4⟩
  simp only at h1 h2 h3 h4
  subst h1 h2 h3 h4;rfl
theorem QL(c:CV):bt c=if fY c=false then(ju,1)else if c.off=true then(ju,7)else qW c:=rfl
theorem QM(x:VV):kc x=(fY x.ah&&(decide ((qW x.ah).2=0)&&decide (x.at_=(qW x.ah).1.at_)&&decide (x.gen=(qW x.ah).1.gen)&&decide (x.last=(qW x.ah).1.last))):=by
 have hb:fY {x.ah with off:=false}=fY x.ah:=rfl
 have pM:ku {x.ah with off:=false}=ku x.ah:=rfl
 have vD:bL {x.ah with off:=false}=bL x.ah:=rfl
 rw[kc,QL,hb]
 cases h:fY x.ah with
 |false=>rw[if_pos rfl];rfl
 |true=>
  rw[if_neg (by simp),if_neg (by simp),qW,qW,vD,pM]
  by_cases h1:(bL x.ah).2.2≠0
  ·
   rw[if_pos h1,if_pos h1,decide_eq_false h1];rfl
  ·
   rw[if_neg h1,if_neg h1]
   by_cases h2:ku x.ah=false
   ·
    rw[if_pos h2,if_pos h2];rfl
   ·
    rw[if_neg h2,if_neg h2]
    rw[Bool.eq_iff_iff];simp only[Bool.and_eq_true,decide_eq_true_eq,true_and,Bool.true_and]
    constructor
    ·
     rintro⟨⟨g1,g2⟩,g3⟩;exact⟨⟨g3.symm,g1.symm⟩,g2.symm⟩
    ·
     rintro⟨⟨g1,g2⟩,g3⟩;exact⟨⟨g2.symm,g3.symm⟩,g1.symm⟩
open Go.aB
theorem QN{c:CV}(h:(bt c).2≠0):(bt c).1=ju:=by
 rw[bt]at h⊢
 repeat' split
 all_goals first|rfl|(exfalso;simp_all)
theorem QO(c:CV):(if(bt c).2=0 then(bt c).1 else ju)=(bt c).1:=by
 by_cases h:(bt c).2=0
 ·
  rw[if_pos h]
 ·
  rw[if_neg h,QN h]
open Go.aB
def o8(t:List Rt)(n id:Nat):List UInt8:=((t.drop (id*n)).take n).flatMap dV
def kz(t:List Rt)(ids n:Nat):List (List UInt8):=(List.range ids).map (o8 t n)
def iT(a b:Int):Int:=if a<1∨64<a∨b<20∨240<b then 0 else min (a*(b/20)) 256
def iA(t:List Rt)(ids room:Int):Int:=if dg t=false∨iT ids room=0 then 1 else if iT ids room<t.length then 5 else 0
def jk(t:List Rt)(ids room:Int):List (List UInt8):=if iA t ids room=0 then kz t ids.toNat (room/20).toNat else[]
theorem sa(t:List Rt)(ids n:Nat):(kz t ids n).length=ids:=by simp[kz]
theorem QP(l:List Rt):(l.flatMap dV).length=20*l.length:=by
 induction l with
 |nil=>rfl
 |cons a l ih=>rw[List.flatMap_cons,List.length_append,ih,nk,List.length_cons];omega
theorem QQ(t:List Rt)(n id:Nat):(o8 t n id).length=20*min n (t.length -id*n):=by
 rw[o8,QP,List.length_take,List.length_drop]
theorem Jq(t:List Rt)(n id:Nat):(o8 t n id).length≤20*n:=by rw[QQ];omega
theorem AK{a b:Int}(h: ¬iT a b=0):1≤a∧a≤64∧20≤b∧b≤240∧iT a b=min (a*(b/20)) 256∧1≤b/20∧b/20≤12:=by
 unfold iT at h⊢
 split at h
 ·
  exact absurd rfl h
 ·
  rename_i hn
  rw[if_neg hn]
  have:1≤b/20∧b/20≤12:=by omega
  exact⟨by omega,by omega,by omega,by omega,rfl,this.1,this.2⟩
theorem QR{t:List Rt}{r:Rt}{i n id:Nat}(hn:0<n)(hr:t[i]? =some r):o8 (t.take (i+1)) n id=o8 (t.take i) n id++(if id=i/n then dV r else[]):=by
 have bo:i<t.length:=(List.getElem?_eq_some_iff.1 hr).1
 have e1:t.take (i+1)=t.take i++[r]:=by rw[List.take_add_one,hr];rfl
 have hd:=Nat.div_add_mod i n
 have hm:=Nat.mod_lt i hn
 have hc:n*(i/n)=i/n*n:=Nat.mul_comm _ _
 unfold o8
 have l1:(t.take i).length=i:=by rw[List.length_take];omega
 rw[e1]
 by_cases h1:id=i/n
 ·
  subst h1
  have e2:(t.take i++[r]).drop (i/n*n)=(t.take i).drop (i/n*n)++[r]:=List.drop_append_of_le_length (by rw[l1];omega)
  have e3:((t.take i).drop (i/n*n)++[r]).take n=(t.take i).drop (i/n*n)++[r]:=List.take_of_length_le (by rw[List.length_append,List.length_drop,l1];simp only[List.length_cons,List.length_nil];omega)
  have e4:((t.take i).drop (i/n*n)).take n=(t.take i).drop (i/n*n):=List.take_of_length_le (by rw[List.length_drop,l1];omega)
  rw[if_pos rfl,e2,e3,e4]
  simp
 ·
  rw[if_neg h1,List.append_nil]
  rcases Nat.lt_or_gt_of_ne h1 with h2|h2
  ·
   have:(id+1)*n≤i/n*n:=Nat.mul_le_mul_right _ h2
   rw[Nat.add_mul]at this
   rw[List.drop_append_of_le_length (by rw[l1];omega),List.take_append_of_le_length (by rw[List.length_drop,l1];omega)]
  ·
   have:(i/n+1)*n≤id*n:=Nat.mul_le_mul_right _ h2
   rw[Nat.add_mul]at this
   rw[List.drop_eq_nil_of_le (by rw[List.length_append,l1];simp;omega),List.drop_eq_nil_of_le (by rw[l1];omega)]
theorem QS{t:List Rt}{r:Rt}{i n ids:Nat}{x:List UInt8}(hn:0<n)(hr:t[i]? =some r)(hx:(kz (t.take i) ids n)[i/n]? =some x):
  kz (t.take (i+1)) ids n=(kz (t.take i) ids n).set (i/n) (x++dV r):=by
 refine List.ext_getElem? fun j=> ?_
 rw[List.getElem?_set]
 have hk:i/n<ids:=by have:=(List.getElem?_eq_some_iff.1 hx).1;rwa [sa]at this
 by_cases hj:j<ids
 ·
  have e: ∀t',(kz t' ids n)[j]? =some (o8 t' n j):=fun t'=>by simp[kz,hj]
  rw[e,QR hn hr]
  by_cases h:i/n=j
  ·
   subst h
   rw[e]at hx
   rw[if_pos rfl,if_pos rfl,if_pos (by rw[sa];exact hk)]
   rw[Option.some.inj hx]
  ·
   rw[if_neg (fun e=>h e.symm),if_neg h,List.append_nil,e]
 ·
  rw[List.getElem?_eq_none (by rw[sa];omega),if_neg (by omega),List.getElem?_eq_none (by rw[sa];omega)]
theorem QT(t:List Rt)(ids n:Nat):kz (t.take 0) ids n=List.replicate ids []:=by
 refine List.eq_replicate_iff.2 ⟨sa _ _ _,fun x hx=> ?_⟩
 obtain⟨j,_,rfl⟩:=List.mem_map.1 hx
 simp[o8]
theorem QU(t:List Rt)(id n:Nat):kz t (id+1) n=kz t id n++[o8 t n id]:=by simp[kz,List.range_succ]
def nt(b:List UInt8):Rt:=⟨⟨if b.getD 0 0=1 then 128 else 32,(b.getD 1 0).toNat,m8 fun i=>(b.getD (2+i) 0).toNat⟩,UInt16.ofNat ((b.getD 18 0).toNat*256+(b.getD 19 0).toNat)⟩
def rd(b:List UInt8):Option Rt:=if b.getD 0 0≤1 then some (nt b)else none
def kA(b:List UInt8):Option (List Rt):=
 if h:b.length<20 then(if b.length=0 then some []else none)
 else match rd (b.take 20),kA (b.drop 20)with
  |some r,some l=>some (r::l)
  |_,_=>none
termination_by b.length
decreasing_by rw[List.length_drop];omega
theorem Jr:kA []=some []:=by rw[kA];simp
theorem DR{b:List UInt8}(h:20≤b.length):kA b=(rd (b.take 20)).bind fun r=>(kA (b.drop 20)).map (r:: ·):=by
 rw[kA,dif_neg (by omega)]
 cases rd (b.take 20)<;>simp
 cases kA (b.drop 20)<;>simp
theorem Js: ∀(k:Nat) (b:List UInt8),b.length≤k→ ¬b.length%20=0→kA b=none
 |0,b,h,hm=>by have:b.length=0:=by omega
               rw[this]at hm;simp at hm
 |k+1,b,h,hm=>by
  by_cases h2:b.length<20
  ·
   rw[kA,dif_pos h2,if_neg (fun e=>by rw[e]at hm;simp at hm)]
  ·
   rw[DR (by omega),Js k (b.drop 20) (by rw[List.length_drop];omega) (by rw[List.length_drop];omega)]
   cases rd (b.take 20)<;>rfl
def fE:List (List UInt8)→Option (List Rt)
 |[]=>some []
 |b::r=>(kA b).bind fun l=>(fE r).map (l++ ·)
theorem AL: ∀a b:List (List UInt8),fE (a++b)=(fE a).bind fun l=>(fE b).map (l++ ·)
 |[],b=>by simp[fE]
 |x::a,b=>by
  rw[List.cons_append,fE,fE,AL a b]
  cases kA x<;>simp
  cases fE a<;>simp
  cases fE b<;>simp
theorem DS{bs:List (List UInt8)}{i:Nat}{b:List UInt8}(h:bs[i]? =some b):fE (bs.take (i+1))=(fE (bs.take i)).bind fun l=>(kA b).map (l++ ·):=by
 rw[List.take_add_one,h,Option.toList_some,AL,fE,fE]
 cases fE (bs.take i)with
 |none=>rfl
 |some l=>cases kA b<;>simp
theorem Jt{bs:List (List UInt8)}{i:Nat}(h:fE (bs.take i)=none):fE bs=none:=by
 rw[←List.take_append_drop i bs,AL,h];rfl
def iB(bs:List (List UInt8)):List Rt:=match fE bs with
 |some t=>if dg t=true then t else[]
 |none=>[]
def iU(bs:List (List UInt8)):Int:=match fE bs with
 |some t=>if dg t=true then 0 else 2
 |none=>2
theorem AM{bs:List (List UInt8)}(h:fE bs=none):iB bs=[]∧iU bs=2:=by simp[iB,iU,h]
theorem Ju{bs:List (List UInt8)}{t:List Rt}(h:fE bs=some t)(hr:dg t=false):iB bs=[]∧iU bs=2:=by simp[iB,iU,h,hr]
theorem DT{bs:List (List UInt8)}{t:List Rt}(h:fE bs=some t)(hr:dg t=true):iB bs=t∧iU bs=0:=by simp[iB,iU,h,hr]
def qb(a b:List (List UInt8))(i:Nat):Option (Int×List UInt8):=if a.getD i []=b.getD i []then none else some ((i:Int),b.getD i [])
def ll(a b:List (List UInt8))(n:Nat):List (Int×List UInt8):=(List.range n).filterMap (qb a b)
def eV(a b:List (List UInt8)):List (Int×List UInt8):=ll a b (max a.length b.length)
theorem Jv{a b:List (List UInt8)}{n:Nat}(h:a.getD n []=b.getD n []):ll a b (n+1)=ll a b n:=by
 have e:qb a b n=none:=by rw[qb,if_pos h]
 simp[ll,List.range_succ,e]
theorem Jw{a b:List (List UInt8)}{n:Nat}(h: ¬a.getD n []=b.getD n []):ll a b (n+1)=ll a b n++[((n:Int),b.getD n [])]:=by
 have e:qb a b n=some ((n:Int),b.getD n []):=by rw[qb,if_neg h]
 simp[ll,List.range_succ,e]
theorem DU(a b:List (List UInt8))(n:Nat):(ll a b n).length≤n:=by
 have:=List.length_filterMap_le (qb a b) (List.range n)
 simpa[ll]using this
def mL(b:List UInt8):Bool:=decide (b.getD 0 0≤1)
def rdv(b:List UInt8):Rt:=if mL b=true then nt b else iJ
theorem Jx(b:List UInt8):rd b=if mL b=true then some (nt b)else none:=by simp[rd,mL]
theorem QV(b:List UInt8):(nt b).dv=pK (b.getD 18 0) (b.getD 19 0):=rfl
theorem QW{b:List UInt8}(hb:b.length=20)(v:Int)(hv:v=if b.getD 0 0=1 then 128 else 32):
  (cH (((ax iJ).setIfInBounds 0 (.int .i64 v)).setIfInBounds 1 (.int .i64 (b.getD 1 0).toNat)) 2 (aJ aM ((b.drop 2).take 16)).toArray).setIfInBounds 18 (.int .u16 (pK (b.getD 18 0) (b.getD 19 0)).toNat)=ax (nt b):=by
 have hk:(aJ aM ((b.drop 2).take 16)).toArray.size=16:=by rw[List.size_toArray,gm,List.length_take,List.length_drop,hb];rfl
 have h0:(ax iJ).size=19:=jM _
 have hs:2+(aJ aM ((b.drop 2).take 16)).toArray.size≤(((ax iJ).setIfInBounds 0 (.int .i64 v)).setIfInBounds 1 (.int .i64 (b.getD 1 0).toNat)).size:=by rw[hk];simp[h0]
 refine Array.ext_getElem? fun j=> ?_
 rw[Array.getElem?_setIfInBounds,lH hs,tc hs,hk]
 by_cases xH:18=j
 ·
  subst xH;rw[if_pos rfl,uS,QV];simp[h0]
 rw[if_neg xH]
 by_cases h2:2≤j∧j<2+16
 ·
  rw[if_pos h2,na _ j (by omega),show j=2+(j -2) by omega,oD,kJ _ _ (by omega),show 2+(j -2) -2=j -2 by omega]
  have hg:((b.drop 2).take 16)[j -2]? =some (b.getD j 0):=by
   rw[List.getElem?_take,if_pos (by omega),List.getElem?_drop,show 2+(j -2)=j by omega,List.getD,List.getElem?_eq_getElem (by omega)];rfl
  have:=lI (enc:=aM) ((b.drop 2).take 16) (j -2) _ hg 0 (by decide)
  simp only[Nat.mul_one,Nat.add_zero]at this
  rw[show(aJ aM ((b.drop 2).take 16)).toArray[j -2]? =(aJ aM ((b.drop 2).take 16))[j -2]?by simp,this]
  have e:cz (nt b).p.key (j -2)=(b.getD j 0).toNat:=by
   show cz (m8 fun i=>(b.getD (2+i) 0).toNat) (j -2)=_
   rw[xi _ _ (by omega),show 2+(j -2)=j by omega]
   have:=(b.getD j 0).toNat_lt;omega
  rw[e];rfl
 rw[if_neg h2,Array.getElem?_setIfInBounds]
 by_cases h1:1=j
 ·
  subst h1;rw[if_pos rfl,na _ 1 (by decide),tl];simp[h0,nt]
 rw[if_neg h1,Array.getElem?_setIfInBounds]
 by_cases hj:0=j
 ·
  subst hj;rw[if_pos rfl,na _ 0 (by decide),tk];simp[h0,nt,hv]
 ·
  rw[if_neg hj,Array.getElem?_eq_none (by rw[h0];omega),Array.getElem?_eq_none (by rw[jM];omega)]
theorem Jy{t:List Rt}{ids room:Int}(h:iT ids room=0∨dg t=false):iA t ids room=1∧jk t ids room=[]:=by
 have e:iA t ids room=1:=if_pos h.symm
 exact⟨e,by rw[jk,e];rfl⟩
theorem Jz{t:List Rt}{ids room:Int}(h: ¬iT ids room=0)(h':dg t=true)(h2:iT ids room<t.length):iA t ids room=5∧jk t ids room=[]:=by
 have e:iA t ids room=5:=by
  rw[iA,if_neg (by simp[h,h']),if_pos h2]
 exact⟨e,by rw[jk,e];rfl⟩
theorem DV{t:List Rt}{ids room:Int}(h: ¬iT ids room=0)(h':dg t=true)(h2: ¬iT ids room<t.length):iA t ids room=0∧jk t ids room=kz t ids.toNat (room/20).toNat:=by
 have e:iA t ids room=0:=by
  rw[iA,if_neg (by simp[h,h']),if_neg h2]
 exact⟨e,by rw[jk,if_pos e]⟩
theorem QX{s:Sv}{xs:List (Sl UInt8)}{i:Nat}{y:Sl UInt8}:lx (⟨s,xs.set i y⟩:Sl (Sl UInt8))=(xs.map (·.xs)).set i y.xs:=by simp[lx,List.map_set]
section
variable {bits:Int} {ns:List Nd} {i:Nat} {a a2:List Int} {nd:Nd}
end
section
variable {bits:Int} {W:List Wy} {R:List Rt}
end
section
variable {bits:Int} {t:List Rt}
end
def jP(p:Nat→Bool):Nat→Nat→Nat→Nat
 |0,i,_=>i
 |f+1,i,j=>if i<j then(if p ((i+j)/2)=true then jP p f i ((i+j)/2)else jP p f ((i+j)/2+1) j)else i
def bs(p:Nat→Bool)(n:Nat):Nat:=jP p (n+1) 0 n
theorem AN(p:Nat→Bool): ∀(f g i j:Nat),j -i<f→j -i<g→jP p f i j=jP p g i j
 |0,_,_,_,h,_=>by omega
 |_+1,0,_,_,_,h=>by omega
 |f+1,g+1,i,j,h1,h2=>by
  rw[jP,jP]
  split
  ·
   split
   ·
    exact AN p f g _ _ (by omega) (by omega)
   ·
    exact AN p f g _ _ (by omega) (by omega)
  ·
   rfl
theorem JA{p:Nat→Bool}{f i j:Nat}(h:i<j)(hf:j -i<f):jP p f i j=if p ((i+j)/2)=true then jP p f i ((i+j)/2)else jP p f ((i+j)/2+1) j:=by
 match f,hf with
 |f+1,hf=>
  rw[jP,if_pos h]
  split
  ·
   exact AN p f (f+1) _ _ (by omega) (by omega)
  ·
   exact AN p f (f+1) _ _ (by omega) (by omega)
theorem QY{p:Nat→Bool}{f i j:Nat}(h: ¬i<j)(hf:0<f):jP p f i j=i:=by
 match f,hf with
 |f+1,_=>rw[jP,if_neg h]
theorem DW{p:Nat→Bool}{n:Nat}(hm: ∀a b,a≤b→b<n→p a=true→p b=true): ∀(f i j:Nat),j -i<f→i≤j→j≤n→(∀a,a<i→p a=false)→(∀a,j≤a→a<n→p a=true)→
  jP p f i j≤n∧(∀a,a<jP p f i j→p a=false)∧ ∀a,jP p f i j≤a→a<n→p a=true
 |0,_,_,h,_,_,_,_=>by omega
 |f+1,i,j,h,mV,rz,h1,h2=>by
  rw[jP]
  split
  ·
   rename_i bo
   split
   ·
    rename_i hp
    exact DW hm f _ _ (by omega) (by omega) (by omega) h1 fun a ha QZ=>hm _ a ha QZ hp
   ·
    rename_i hp
    refine DW hm f _ _ (by omega) (by omega) rz (fun a ha=> ?_) h2
    cases nu:p a with
    |false=>rfl
    |true=>exact absurd (hm a ((i+j)/2) (by omega) (by omega) nu) hp
  ·
   obtain rfl:i=j:=by omega
   exact⟨rz,h1,h2⟩
theorem JB{p:Nat→Bool}{n:Nat}(hm: ∀a b,a≤b→b<n→p a=true→p b=true):bs p n≤n∧(∀a,a<bs p n→p a=false)∧ ∀a,bs p n≤a→a<n→p a=true:=
 DW hm (n+1) 0 n (by omega) (Nat.zero_le _) (Nat.le_refl _) (fun a ha=>by omega) (fun a h1 h2=>by omega)
def behind(t:List Rt)(q:cX)(j:Nat):Bool:=match t[j]?with
 |some r=> !dB r.p q
 |none=>true
def cF(t:List Rt)(q:cX):Nat:=bs (behind t q) t.length
def jQ(t:List Rt)(q:cX):Bool:=match t[cF t q]?with
 |some r=>decide (r.p=q)
 |none=>false
theorem DX{p:Nat→Bool}: ∀(f i j:Nat),i≤j→jP p f i j≤j
 |0,_,_,h=>h
 |f+1,i,j,h=>by
  rw[jP];split
  ·
   split
   ·
    exact Nat.le_trans (DX f _ _ (by omega)) (by omega)
   ·
    exact DX f _ _ (by omega)
  ·
   exact h
theorem JC(t:List Rt)(q:cX):cF t q≤t.length:=DX _ _ _ (Nat.zero_le _)
theorem Q0(t:List Rt)(q:cX):jQ t q=(decide (((cF t q:Nat):Int)<(t.length:Int))&&decide ((t.getD (cF t q) iJ).p=q)):=by
 rcases Nat.lt_or_ge (cF t q) t.length with h|h
 ·
  have e:t[cF t q]? =some t[cF t q]:=by simp[h]
  rw[jQ,e,List.getD_eq_getElem?_getD,e];simp[h]
 ·
  rw[jQ,List.getElem?_eq_none h,decide_eq_false (by omega)];rfl
def vE(t:List Rt)(k:Key)(bits:Int)(n:Nat):Option Rt:=if jQ t ⟨bits,n,gE k n⟩=true then t[cF t ⟨bits,n,gE k n⟩]?else none
def qc(t:List Rt)(k:Key)(bits:Int):Nat→Option Rt
 |0=>vE t k bits 0
 |n+1=>match vE t k bits (n+1)with
  |some r=>some r
  |none=>qc t k bits n
def vF(t:List Rt)(k:Key)(bits:Int):Bool:=dg t&&cP ⟨bits,bits,k⟩
def qd(t:List Rt)(k:Key)(bits:Int):Rt:=if vF t k bits=true then(qc t k bits bits.toNat).getD iJ else iJ
def qe(t:List Rt)(k:Key)(bits:Int):Int:=if vF t k bits=true then(if(qc t k bits bits.toNat).isSome=true then 0 else 6)else 1
theorem AO{t:List Rt}(h:dg t=true): ∀(i j:Nat) (a b:Rt),i<j→t[i]? =some a→t[j]? =some b→dB a.p b.p=true:=by
 intro i j
 induction j with
 |zero=>intro a b mV;omega
 |succ j ih=>
  intro a b mV ha hb
  have iG:=(List.getElem?_eq_some_iff.1 hb).1
  obtain⟨c,hc⟩: ∃c,t[j]? =some c:=⟨t[j],by simp[show j<t.length by omega]⟩
  have nv:dB c.p b.p=true:=by
   cases hx:dB c.p b.p with
   |true=>rfl
   |false=>
    have:=zF iG (by rw[zG hb hc,hx];simp)
    rw[this]at h;cases h
  rcases Nat.lt_or_ge i j with h1|h1
  ·
   have Q1:=ih a c h1 ha hc
   have m1:=u4 h (List.mem_of_getElem? ha)
   have m2:=u4 h (List.mem_of_getElem? hb)
   have m3:=u4 h (List.mem_of_getElem? hc)
   rw[kK m1 m3]at Q1
   rw[kK m3 m2]at nv
   rw[kK m1 m2]
   omega
  ·
   obtain rfl:i=j:=by omega
   obtain rfl:=Option.some.inj (ha.symm.trans hc)
   exact nv
theorem xW{p:cX}(h:cP p=true):dB p p=false:=by
 cases hx:dB p p with
 |false=>rfl
 |true=>rw[kK h h]at hx;omega
theorem JD{t:List Rt}(h:dg t=true){q:cX}(hq:cP q=true)(a b:Nat)(yX:a≤b)(hb:b<t.length)(ha:behind t q a=true):behind t q b=true:=by
 obtain⟨x,hx⟩: ∃x,t[a]? =some x:=⟨t[a],by simp[show a<t.length by omega]⟩
 obtain⟨y,hy⟩: ∃y,t[b]? =some y:=⟨t[b],by simp[hb]⟩
 simp only[behind,hx,hy,Bool.not_eq_true']at ha⊢
 rcases Nat.lt_or_ge a b with h1|h1
 ·
  have hl:=AO h a b x y h1 hx hy
  have m1:=u4 h (List.mem_of_getElem? hx)
  have m2:=u4 h (List.mem_of_getElem? hy)
  cases hz:dB y.p q with
  |false=>rfl
  |true=>
   rw[kK m1 m2]at hl
   rw[kK m2 hq]at hz
   have:dB x.p q=true:=by rw[kK m1 hq];omega
   rw[this]at ha;cases ha
 ·
  obtain rfl:a=b:=by omega
  obtain rfl:=Option.some.inj (hx.symm.trans hy)
  exact ha
theorem Q2{t:List Rt}(h:dg t=true){q:cX}(hq:cP q=true){r:Rt}(hr:r∈t)(e:r.p=q):t[cF t q]? =some r∧jQ t q=true:=by
 obtain⟨h1,h2,h3⟩:=JB (p:=behind t q) (n:=t.length) fun a b=>JD h hq a b
 obtain⟨i,hi⟩:=List.mem_iff_getElem?.1 hr
 have eT:=(List.getElem?_eq_some_iff.1 hi).1
 have e1:cF t q=i:=by
  have JE:behind t q i=true:=by simp only[behind,hi,e,xW hq];rfl
  rcases Nat.lt_trichotomy (cF t q) i with h4|h4|h4
  ·
   obtain⟨x,hx⟩: ∃x,t[cF t q]? =some x:=⟨t[cF t q],by simp[show cF t q<t.length by omega]⟩
   have h5:=h3 (cF t q) (Nat.le_refl _) (by omega)
   have h6:=AO h _ _ x r h4 hx hi
   simp only[behind,hx]at h5
   rw[e]at h6;rw[h6]at h5;cases h5
  ·
   exact h4
  ·
   have:=h2 i h4;rw[this]at JE;cases JE
 rw[jQ,e1,hi]
 exact⟨rfl,by simp[e]⟩
theorem xX{t:List Rt}{q:cX}(h:jQ t q=true): ∃r∈t,t[cF t q]? =some r∧r.p=q:=by
 rw[jQ]at h
 cases e:t[cF t q]?with
 |none=>rw[e]at h;cases h
 |some r=>rw[e]at h;exact⟨r,List.mem_of_getElem? e,rfl,by simpa using h⟩
section
variable {t:List Rt} {k:Key} {bits:Int}
end
structure Ord(t:List Rt):Prop where
 may: ∀r∈t,cP r.p=true
 less:t.Pairwise fun a b=>dB a.p b.p=true
theorem AP{t:List Rt}(h:dg t=true):Ord t:=⟨fun _ hr=>u4 h hr,by
 rw[List.pairwise_iff_getElem]
 intro i j hi hj mV
 exact AO h i j _ _ mV (by simp[hi]) (by simp[hj])⟩
theorem Q3{t:List Rt}(h:Ord t)(hl:t.length≤256):dg t=true:=by
 refine Ha hl ?_
 have key: ∀n,n≤t.length→oF t n=true:=by
  intro n
  induction n with
  |zero=>intro _;rfl
  |succ n ih=>
   intro hn
   rw[Cn,ih (by omega),Bool.true_and]
   have hi:t[n]? =some t[n]:=by simp[show n<t.length by omega]
   have hm:=h.may _ (List.mem_of_getElem? hi)
   cases n with
   |zero=>rw[Co hi,hm]
   |succ m=>
    have hq:t[m]? =some t[m]:=by simp[show m<t.length by omega]
    rw[zG hi hq,hm,Bool.true_and]
    exact(List.pairwise_iff_getElem.1 h.less) m (m+1) (by omega) (by omega) (by omega)
 exact key _ (Nat.le_refl _)
theorem Ord.sub{s t:List Rt}(h:Ord t)(hs:s.Sublist t):Ord s:=⟨fun r hr=>h.may r (hs.subset hr),h.less.sublist hs⟩
def Q4(r:Rt)(p:cX):Bool:=decide (r.p≠p)&&N6 r.p p
def Q5(t:List Rt)(p:cX):Option Rt:=t.reverse.find? fun r=>Q4 r p
def Y6(t:List Rt)(r:Rt):Bool:=match Q5 t r.p with
 |none=>true
 |some o=> !decide (o.dv=r.dv)
structure Ch where
 r:Rt
 gone:Bool
 deriving DecidableEq
def JF:Ch:=⟨iJ,false⟩
def fh(x:Ch):Array Value:=ax x.r++ #[.bool x.gone]
theorem JG(x:Ch):(fh x).size=20:=by unfold fh;rw[Array.size_append,jM];rfl
theorem JH(x:Ch)(j:Nat)(h:j<19):(fh x)[j]? =(ax x.r)[j]? :=by
 unfold fh;rw[Array.getElem?_append_left (by rw[jM];exact h)]
theorem Q6(x:Ch):(fh x)[19]? =some (.bool x.gone):=by
 unfold fh;rw[Array.getElem?_append_right (by rw[jM];omega),jM];rfl
def eM(t:List Rt)(c:Ch):Int:=if cP c.r.p=true then(if jQ t c.r.p=true then 0 else if c.gone=true then 6 else if 256≤t.length then 5 else 0)else 1
def iV(t:List Rt)(c:Ch):List Rt:=
 if eM t c=0 then(if c.gone=true then t.take (cF t c.r.p)++t.drop (cF t c.r.p+1)else if jQ t c.r.p=true then t.set (cF t c.r.p) c.r else t.take (cF t c.r.p)++c.r::t.drop (cF t c.r.p))else t
theorem JI{t:List Rt}(h:t.length≤256)(c:Ch):(iV t c).length≤256:=by
 unfold iV
 split
 ·
  rename_i he
  split
  ·
   simp only[List.length_append,List.length_take,List.length_drop];omega
  ·
   split
   ·
    simpa using h
   ·
    rename_i h1 h2
    have:t.length<256:=by
     apply Classical.byContradiction;intro hn
     unfold eM at he
     rw[if_neg h2,if_neg h1,if_pos (show 256≤t.length by omega)]at he
     split at he<;>omega
    have hp:=JC t c.r.p
    simp only[List.length_append,List.length_take,List.length_cons,List.length_drop];omega
 ·
  exact h
def kh:List Rt→List Ch→List Rt×Int
 |t,[]=>(t,0)
 |t,c::l=>if eM t c=0 then kh (iV t c) l else(t,eM t c)
theorem JJ{t:List Rt}{l:List Ch}{i:Nat}{c:Ch}(hc:l[i]? =some c):kh t (l.drop i)=if eM t c=0 then kh (iV t c) (l.drop (i+1))else(t,eM t c):=by
 obtain⟨hi,rfl⟩:=List.getElem?_eq_some_iff.1 hc
 rw[List.drop_eq_getElem_cons hi,kh]
def et(t:List Rt)(l:List Ch):Int:=if dg t=true then(kh t l).2 else 1
def c0(t:List Rt)(l:List Ch):List Rt:=if et t l=0 then(kh t l).1 else t
end Go.Kb
namespace Go.Proofs.YtaipiecplldinaaGreat
open Go.aB
instance Y7:gh Tryz.prog 3:=⟨⟨_,Tryz.underlying3,rfl⟩,by kernel_rfl⟩
instance Y8:kT Tryz.prog 3 .i64:=⟨Tryz.underlying3⟩
instance Y9:gh Tryz.prog 4:=⟨⟨_,Tryz.underlying4,rfl⟩,by kernel_rfl⟩
instance Za:gh Tryz.prog 5:=⟨⟨_,Tryz.underlying5,rfl⟩,by kernel_rfl⟩
instance Zb:kT Tryz.prog 5 .u8:=⟨Tryz.underlying5⟩
instance Zc:gh Tryz.prog 22:=⟨⟨_,Tryz.underlying22,rfl⟩,by kernel_rfl⟩
instance Zd:eu Tryz.prog 22 48 4:=⟨Tryz.underlying22,by kernel_rfl⟩
instance Ze:gh Tryz.prog 23:=⟨⟨_,Tryz.underlying23,rfl⟩,by kernel_rfl⟩
instance Zf:eu Tryz.prog 23 94 4:=⟨Tryz.underlying23,by kernel_rfl⟩
instance Zg:fc Tryz.prog 25 6:=⟨⟨_,Tryz.underlying25,rfl⟩,by kernel_rfl⟩
instance Zh:dx Tryz.prog 25 0 0:=⟨⟨_,_,0,Tryz.underlying25,rfl,rfl,by kernel_rfl⟩⟩
instance Zi:dx Tryz.prog 25 1 1:=⟨⟨_,_,0,Tryz.underlying25,rfl,rfl,by kernel_rfl⟩⟩
instance Zj:dx Tryz.prog 25 2 2:=⟨⟨_,_,0,Tryz.underlying25,rfl,rfl,by kernel_rfl⟩⟩
instance Zk:dx Tryz.prog 25 3 3:=⟨⟨_,_,0,Tryz.underlying25,rfl,rfl,by kernel_rfl⟩⟩
instance Zl:dx Tryz.prog 25 4 4:=⟨⟨_,_,0,Tryz.underlying25,rfl,rfl,by kernel_rfl⟩⟩
instance Zm:dx Tryz.prog 25 5 5:=⟨⟨_,_,0,Tryz.underlying25,rfl,rfl,by kernel_rfl⟩⟩
instance Zn:gh Tryz.prog 26:=⟨⟨_,Tryz.underlying26,rfl⟩,by kernel_rfl⟩
instance Zo:eu Tryz.prog 26 3 1:=⟨Tryz.underlying26,by kernel_rfl⟩
instance Zp:gh Tryz.prog 27:=⟨⟨_,Tryz.underlying27,rfl⟩,by kernel_rfl⟩
instance Zq:kT Tryz.prog 27 .u64:=⟨Tryz.underlying27⟩
instance Zr:fc Tryz.prog 29 9:=⟨⟨_,Tryz.underlying29,rfl⟩,by kernel_rfl⟩
instance Zs:dx Tryz.prog 29 0 0:=⟨⟨_,_,5,Tryz.underlying29,rfl,rfl,by kernel_rfl⟩⟩
instance Zt:dx Tryz.prog 29 1 6:=⟨⟨_,_,0,Tryz.underlying29,rfl,rfl,by kernel_rfl⟩⟩
instance Zu:dx Tryz.prog 29 2 7:=⟨⟨_,_,0,Tryz.underlying29,rfl,rfl,by kernel_rfl⟩⟩
instance Zv:dx Tryz.prog 29 3 8:=⟨⟨_,_,0,Tryz.underlying29,rfl,rfl,by kernel_rfl⟩⟩
instance Zw:gh Tryz.prog 38:=⟨⟨_,Tryz.underlying38,rfl⟩,by kernel_rfl⟩
instance Zx:eu Tryz.prog 38 5 1:=⟨Tryz.underlying38,by kernel_rfl⟩
instance Zy:eu Tryz.prog 43 50 4:=⟨Tryz.underlying43,by kernel_rfl⟩
instance Zz:gh Tryz.prog 46:=⟨⟨_,Tryz.underlying46,rfl⟩,by kernel_rfl⟩
instance ZA:eu Tryz.prog 46 38 1:=⟨Tryz.underlying46,by kernel_rfl⟩
instance ZB:fc Tryz.prog 48 4:=⟨⟨_,Tryz.underlying48,rfl⟩,by kernel_rfl⟩
instance ZC:dx Tryz.prog 48 0 0:=⟨⟨_,_,0,Tryz.underlying48,rfl,rfl,by kernel_rfl⟩⟩
instance ZD:dx Tryz.prog 48 1 1:=⟨⟨_,_,0,Tryz.underlying48,rfl,rfl,by kernel_rfl⟩⟩
instance ZE:dx Tryz.prog 48 2 2:=⟨⟨_,_,0,Tryz.underlying48,rfl,rfl,by kernel_rfl⟩⟩
instance ZF:dx Tryz.prog 48 3 3:=⟨⟨_,_,0,Tryz.underlying48,rfl,rfl,by kernel_rfl⟩⟩
instance ZG:fc Tryz.prog 50 4:=⟨⟨_,Tryz.underlying50,rfl⟩,by kernel_rfl⟩
instance ZH:dx Tryz.prog 50 0 0:=⟨⟨_,_,0,Tryz.underlying50,rfl,rfl,by kernel_rfl⟩⟩
instance ZI:dx Tryz.prog 50 1 1:=⟨⟨_,_,0,Tryz.underlying50,rfl,rfl,by kernel_rfl⟩⟩
instance ZJ:dx Tryz.prog 50 2 2:=⟨⟨_,_,0,Tryz.underlying50,rfl,rfl,by kernel_rfl⟩⟩
instance ZK:dx Tryz.prog 50 3 3:=⟨⟨_,_,0,Tryz.underlying50,rfl,rfl,by kernel_rfl⟩⟩
instance ZL:gh Tryz.prog 52:=⟨⟨_,Tryz.underlying52,rfl⟩,by kernel_rfl⟩
instance ZM:eu Tryz.prog 52 68 19:=⟨Tryz.underlying52,by kernel_rfl⟩
instance ZN:fc Tryz.prog 54 10:=⟨⟨_,Tryz.underlying54,rfl⟩,by kernel_rfl⟩
instance ZO:dx Tryz.prog 54 0 0:=⟨⟨_,_,8,Tryz.underlying54,rfl,rfl,by kernel_rfl⟩⟩
instance ZP:dx Tryz.prog 54 1 9:=⟨⟨_,_,0,Tryz.underlying54,rfl,rfl,by kernel_rfl⟩⟩
instance ZQ:fc Tryz.prog 56 16:=⟨⟨_,Tryz.underlying56,rfl⟩,by kernel_rfl⟩
instance ZR:sU Tryz.prog 56 16 1:=⟨⟨_,Tryz.underlying56,by kernel_rfl⟩⟩
instance ZS:fc Tryz.prog 65 18:=⟨⟨_,Tryz.underlying65,rfl⟩,by kernel_rfl⟩
instance ZT:dx Tryz.prog 65 0 0:=⟨⟨_,_,0,Tryz.underlying65,rfl,rfl,by kernel_rfl⟩⟩
instance ZU:dx Tryz.prog 65 1 1:=⟨⟨_,_,0,Tryz.underlying65,rfl,rfl,by kernel_rfl⟩⟩
instance ZV:dx Tryz.prog 65 2 2:=⟨⟨_,_,15,Tryz.underlying65,rfl,rfl,by kernel_rfl⟩⟩
instance ZW:gh Tryz.prog 66:=⟨⟨_,Tryz.underlying66,rfl⟩,by kernel_rfl⟩
instance ZX:kT Tryz.prog 66 .u16:=⟨Tryz.underlying66⟩
instance ZY:fc Tryz.prog 68 19:=⟨⟨_,Tryz.underlying68,rfl⟩,by kernel_rfl⟩
instance ZZ:dx Tryz.prog 68 0 0:=⟨⟨_,_,17,Tryz.underlying68,rfl,rfl,by kernel_rfl⟩⟩
instance aaa:dx Tryz.prog 68 1 18:=⟨⟨_,_,0,Tryz.underlying68,rfl,rfl,by kernel_rfl⟩⟩
instance aab:gh Tryz.prog 76:=⟨⟨_,Tryz.underlying76,rfl⟩,by kernel_rfl⟩
instance aac:eu Tryz.prog 76 91 20:=⟨Tryz.underlying76,by kernel_rfl⟩
instance aad:eu Tryz.prog 88 76 1:=⟨Tryz.underlying88,by kernel_rfl⟩
instance aae:fc Tryz.prog 91 20:=⟨⟨_,Tryz.underlying91,rfl⟩,by kernel_rfl⟩
instance aaf:dx Tryz.prog 91 0 0:=⟨⟨_,_,18,Tryz.underlying91,rfl,rfl,by kernel_rfl⟩⟩
instance aag:dx Tryz.prog 91 1 19:=⟨⟨_,_,0,Tryz.underlying91,rfl,rfl,by kernel_rfl⟩⟩
instance aah:fc Tryz.prog 94 4:=⟨⟨_,Tryz.underlying94,rfl⟩,by kernel_rfl⟩
instance aai:dx Tryz.prog 94 0 0:=⟨⟨_,_,0,Tryz.underlying94,rfl,rfl,by kernel_rfl⟩⟩
instance aaj:dx Tryz.prog 94 1 1:=⟨⟨_,_,0,Tryz.underlying94,rfl,rfl,by kernel_rfl⟩⟩
instance aak:dx Tryz.prog 94 2 2:=⟨⟨_,_,0,Tryz.underlying94,rfl,rfl,by kernel_rfl⟩⟩
instance aal:dx Tryz.prog 94 3 3:=⟨⟨_,_,0,Tryz.underlying94,rfl,rfl,by kernel_rfl⟩⟩
instance aam:fc Tryz.prog 102 2:=⟨⟨_,Tryz.underlying102,rfl⟩,by kernel_rfl⟩
instance aan:dx Tryz.prog 102 0 0:=⟨⟨_,_,0,Tryz.underlying102,rfl,rfl,by kernel_rfl⟩⟩
instance aao:dx Tryz.prog 102 1 1:=⟨⟨_,_,0,Tryz.underlying102,rfl,rfl,by kernel_rfl⟩⟩
instance aap:eu Tryz.prog 103 102 2:=⟨Tryz.underlying103,by kernel_rfl⟩
instance aaq:fc Tryz.prog 110 4:=⟨⟨_,Tryz.underlying110,rfl⟩,by kernel_rfl⟩
instance aar:dx Tryz.prog 110 0 0:=⟨⟨_,_,0,Tryz.underlying110,rfl,rfl,by kernel_rfl⟩⟩
instance aas:dx Tryz.prog 110 1 1:=⟨⟨_,_,0,Tryz.underlying110,rfl,rfl,by kernel_rfl⟩⟩
instance aat:dx Tryz.prog 110 2 2:=⟨⟨_,_,0,Tryz.underlying110,rfl,rfl,by kernel_rfl⟩⟩
instance aau:dx Tryz.prog 110 3 3:=⟨⟨_,_,0,Tryz.underlying110,rfl,rfl,by kernel_rfl⟩⟩
instance aav:gh Tryz.prog 139:=⟨⟨_,Tryz.underlying139,rfl⟩,by kernel_rfl⟩
instance aaw:dx Tryz.prog 141 0 0:=⟨⟨_,_,8,Tryz.underlying141,rfl,rfl,by kernel_rfl⟩⟩
instance aax:dx Tryz.prog 141 1 9:=⟨⟨_,_,0,Tryz.underlying141,rfl,rfl,by kernel_rfl⟩⟩
instance aay:fc Tryz.prog 147 2:=⟨⟨_,Tryz.underlying147,rfl⟩,by kernel_rfl⟩
instance aaz:dx Tryz.prog 147 0 0:=⟨⟨_,_,0,Tryz.underlying147,rfl,rfl,by kernel_rfl⟩⟩
instance aaA:dx Tryz.prog 147 1 1:=⟨⟨_,_,0,Tryz.underlying147,rfl,rfl,by kernel_rfl⟩⟩
instance aaB:eu Tryz.prog 161 26 1:=⟨Tryz.underlying161,by kernel_rfl⟩
instance aaC:fc Tryz.prog 163 0:=⟨⟨_,Tryz.underlying163,rfl⟩,by kernel_rfl⟩
instance aaD:eu Tryz.prog 186 46 1:=⟨Tryz.underlying186,by kernel_rfl⟩
instance aaE:kT Tryz.prog 191 .u32:=⟨Tryz.underlying191⟩
instance aaF:sU Tryz.prog 197 20 1:=⟨⟨_,Tryz.underlying197,by kernel_rfl⟩⟩
instance aaG:kT Tryz.prog 198 .u64:=⟨Tryz.underlying198⟩
instance aaH:fc Tryz.prog 234 5:=⟨⟨_,Tryz.underlying234,rfl⟩,by kernel_rfl⟩
instance aaI:dx Tryz.prog 234 0 0:=⟨⟨_,_,3,Tryz.underlying234,rfl,rfl,by kernel_rfl⟩⟩
instance aaJ:dx Tryz.prog 234 1 4:=⟨⟨_,_,0,Tryz.underlying234,rfl,rfl,by kernel_rfl⟩⟩
instance aaK:gh Tryz.prog 235:=⟨⟨_,Tryz.underlying235,rfl⟩,by kernel_rfl⟩
instance aaL:eu Tryz.prog 238 235 1:=⟨Tryz.underlying238,by kernel_rfl⟩
instance aaM:aR Tryz.prog 11:=⟨⟨Tryz.f11,Tryz.func11,by kernel_rfl,by kernel_rfl⟩⟩
instance aaN:aR Tryz.prog 12:=⟨⟨Tryz.f12,Tryz.func12,by kernel_rfl,by kernel_rfl⟩⟩
instance aaO:aR Tryz.prog 14:=⟨⟨Tryz.f14,Tryz.func14,by kernel_rfl,by kernel_rfl⟩⟩
instance aaP:aR Tryz.prog 19:=⟨⟨Tryz.f19,Tryz.func19,by kernel_rfl,by kernel_rfl⟩⟩
instance aaQ:aR Tryz.prog 20:=⟨⟨Tryz.f20,Tryz.func20,by kernel_rfl,by kernel_rfl⟩⟩
instance aaR:aR Tryz.prog 21:=⟨⟨Tryz.f21,Tryz.func21,by kernel_rfl,by kernel_rfl⟩⟩
instance aaS:aR Tryz.prog 23:=⟨⟨Tryz.f23,Tryz.func23,by kernel_rfl,by kernel_rfl⟩⟩
instance aaT:aR Tryz.prog 24:=⟨⟨Tryz.f24,Tryz.func24,by kernel_rfl,by kernel_rfl⟩⟩
instance aaU:aR Tryz.prog 27:=⟨⟨Tryz.f27,Tryz.func27,by kernel_rfl,by kernel_rfl⟩⟩
instance aaV:aR Tryz.prog 28:=⟨⟨Tryz.f28,Tryz.func28,by kernel_rfl,by kernel_rfl⟩⟩
instance aaW:aR Tryz.prog 31:=⟨⟨Tryz.f31,Tryz.func31,by kernel_rfl,by kernel_rfl⟩⟩
instance aaX:aR Tryz.prog 32:=⟨⟨Tryz.f32,Tryz.func32,by kernel_rfl,by kernel_rfl⟩⟩
instance aaY:aR Tryz.prog 33:=⟨⟨Tryz.f33,Tryz.func33,by kernel_rfl,by kernel_rfl⟩⟩
instance aaZ:aR Tryz.prog 34:=⟨⟨Tryz.f34,Tryz.func34,by kernel_rfl,by kernel_rfl⟩⟩
instance aa0:aR Tryz.prog 35:=⟨⟨Tryz.f35,Tryz.func35,by kernel_rfl,by kernel_rfl⟩⟩
instance aa1:aR Tryz.prog 36:=⟨⟨Tryz.f36,Tryz.func36,by kernel_rfl,by kernel_rfl⟩⟩
instance aa2:aR Tryz.prog 37:=⟨⟨Tryz.f37,Tryz.func37,by kernel_rfl,by kernel_rfl⟩⟩
instance aa3:aR Tryz.prog 38:=⟨⟨Tryz.f38,Tryz.func38,by kernel_rfl,by kernel_rfl⟩⟩
instance aa4:aR Tryz.prog 39:=⟨⟨Tryz.f39,Tryz.func39,by kernel_rfl,by kernel_rfl⟩⟩
instance aa5:aR Tryz.prog 40:=⟨⟨Tryz.f40,Tryz.func40,by kernel_rfl,by kernel_rfl⟩⟩
instance aa6:aR Tryz.prog 41:=⟨⟨Tryz.f41,Tryz.func41,by kernel_rfl,by kernel_rfl⟩⟩
instance aa7:aR Tryz.prog 42:=⟨⟨Tryz.f42,Tryz.func42,by kernel_rfl,by kernel_rfl⟩⟩
instance aa8:aR Tryz.prog 43:=⟨⟨Tryz.f43,Tryz.func43,by kernel_rfl,by kernel_rfl⟩⟩
instance aa9:aR Tryz.prog 44:=⟨⟨Tryz.f44,Tryz.func44,by kernel_rfl,by kernel_rfl⟩⟩
instance aba:aR Tryz.prog 47:=⟨⟨Tryz.f47,Tryz.func47,by kernel_rfl,by kernel_rfl⟩⟩
instance abb:aR Tryz.prog 48:=⟨⟨Tryz.f48,Tryz.func48,by kernel_rfl,by kernel_rfl⟩⟩
instance abc:aR Tryz.prog 49:=⟨⟨Tryz.f49,Tryz.func49,by kernel_rfl,by kernel_rfl⟩⟩
instance abd:aR Tryz.prog 51:=⟨⟨Tryz.f51,Tryz.func51,by kernel_rfl,by kernel_rfl⟩⟩
instance abe:aR Tryz.prog 52:=⟨⟨Tryz.f52,Tryz.func52,by kernel_rfl,by kernel_rfl⟩⟩
instance abf:aR Tryz.prog 53:=⟨⟨Tryz.f53,Tryz.func53,by kernel_rfl,by kernel_rfl⟩⟩
instance abg:aR Tryz.prog 54:=⟨⟨Tryz.f54,Tryz.func54,by kernel_rfl,by kernel_rfl⟩⟩
instance abh:aR Tryz.prog 57:=⟨⟨Tryz.f57,Tryz.func57,by kernel_rfl,by kernel_rfl⟩⟩
instance abi:aR Tryz.prog 58:=⟨⟨Tryz.f58,Tryz.func58,by kernel_rfl,by kernel_rfl⟩⟩
instance abj:aR Tryz.prog 59:=⟨⟨Tryz.f59,Tryz.func59,by kernel_rfl,by kernel_rfl⟩⟩
instance abk:aR Tryz.prog 62:=⟨⟨Tryz.f62,Tryz.func62,by kernel_rfl,by kernel_rfl⟩⟩
instance abl:aR Tryz.prog 65:=⟨⟨Tryz.f65,Tryz.func65,by kernel_rfl,by kernel_rfl⟩⟩
instance abm:aR Tryz.prog 66:=⟨⟨Tryz.f66,Tryz.func66,by kernel_rfl,by kernel_rfl⟩⟩
instance abn:aR Tryz.prog 67:=⟨⟨Tryz.f67,Tryz.func67,by kernel_rfl,by kernel_rfl⟩⟩
instance abo:aR Tryz.prog 68:=⟨⟨Tryz.f68,Tryz.func68,by kernel_rfl,by kernel_rfl⟩⟩
instance abp:aR Tryz.prog 69:=⟨⟨Tryz.f69,Tryz.func69,by kernel_rfl,by kernel_rfl⟩⟩
instance abq:aR Tryz.prog 70:=⟨⟨Tryz.f70,Tryz.func70,by kernel_rfl,by kernel_rfl⟩⟩
instance abr:aR Tryz.prog 71:=⟨⟨Tryz.f71,Tryz.func71,by kernel_rfl,by kernel_rfl⟩⟩
instance abt:aR Tryz.prog 72:=⟨⟨Tryz.f72,Tryz.func72,by kernel_rfl,by kernel_rfl⟩⟩
instance abu:aR Tryz.prog 73:=⟨⟨Tryz.f73,Tryz.func73,by kernel_rfl,by kernel_rfl⟩⟩
instance abv:aR Tryz.prog 74:=⟨⟨Tryz.f74,Tryz.func74,by kernel_rfl,by kernel_rfl⟩⟩
instance abw:aR Tryz.prog 75:=⟨⟨Tryz.f75,Tryz.func75,by kernel_rfl,by kernel_rfl⟩⟩
instance abx:aR Tryz.prog 76:=⟨⟨Tryz.f76,Tryz.func76,by kernel_rfl,by kernel_rfl⟩⟩
instance aby:aR Tryz.prog 77:=⟨⟨Tryz.f77,Tryz.func77,by kernel_rfl,by kernel_rfl⟩⟩
instance abz:aR Tryz.prog 78:=⟨⟨Tryz.f78,Tryz.func78,by kernel_rfl,by kernel_rfl⟩⟩
instance abA:aR Tryz.prog 79:=⟨⟨Tryz.f79,Tryz.func79,by kernel_rfl,by kernel_rfl⟩⟩
instance abB:aR Tryz.prog 80:=⟨⟨Tryz.f80,Tryz.func80,by kernel_rfl,by kernel_rfl⟩⟩
instance abC:aR Tryz.prog 81:=⟨⟨Tryz.f81,Tryz.func81,by kernel_rfl,by kernel_rfl⟩⟩
instance abD:aR Tryz.prog 82:=⟨⟨Tryz.f82,Tryz.func82,by kernel_rfl,by kernel_rfl⟩⟩
instance abE:aR Tryz.prog 83:=⟨⟨Tryz.f83,Tryz.func83,by kernel_rfl,by kernel_rfl⟩⟩
instance abF:aR Tryz.prog 84:=⟨⟨Tryz.f84,Tryz.func84,by kernel_rfl,by kernel_rfl⟩⟩
instance abG:aR Tryz.prog 85:=⟨⟨Tryz.f85,Tryz.func85,by kernel_rfl,by kernel_rfl⟩⟩
instance abH:aR Tryz.prog 86:=⟨⟨Tryz.f86,Tryz.func86,by kernel_rfl,by kernel_rfl⟩⟩
instance abI:aR Tryz.prog 87:=⟨⟨Tryz.f87,Tryz.func87,by kernel_rfl,by kernel_rfl⟩⟩
instance abJ:aR Tryz.prog 88:=⟨⟨Tryz.f88,Tryz.func88,by kernel_rfl,by kernel_rfl⟩⟩
instance abK:aR Tryz.prog 89:=⟨⟨Tryz.f89,Tryz.func89,by kernel_rfl,by kernel_rfl⟩⟩
instance abL:aR Tryz.prog 90:=⟨⟨Tryz.f90,Tryz.func90,by kernel_rfl,by kernel_rfl⟩⟩
instance abM:aR Tryz.prog 91:=⟨⟨Tryz.f91,Tryz.func91,by kernel_rfl,by kernel_rfl⟩⟩
instance abN:aR Tryz.prog 92:=⟨⟨Tryz.f92,Tryz.func92,by kernel_rfl,by kernel_rfl⟩⟩
instance abO:aR Tryz.prog 96:=⟨⟨Tryz.f96,Tryz.func96,by kernel_rfl,by kernel_rfl⟩⟩
instance abP:aR Tryz.prog 100:=⟨⟨Tryz.f100,Tryz.func100,by kernel_rfl,by kernel_rfl⟩⟩
instance abQ:aR Tryz.prog 101:=⟨⟨Tryz.f101,Tryz.func101,by kernel_rfl,by kernel_rfl⟩⟩
instance abR:aR Tryz.prog 104:=⟨⟨Tryz.f104,Tryz.func104,by kernel_rfl,by kernel_rfl⟩⟩
instance abS:aR Tryz.prog 105:=⟨⟨Tryz.f105,Tryz.func105,by kernel_rfl,by kernel_rfl⟩⟩
instance abT:aR Tryz.prog 107:=⟨⟨Tryz.f107,Tryz.func107,by kernel_rfl,by kernel_rfl⟩⟩
instance abU:aR Tryz.prog 108:=⟨⟨Tryz.f108,Tryz.func108,by kernel_rfl,by kernel_rfl⟩⟩
instance abV:aR Tryz.prog 109:=⟨⟨Tryz.f109,Tryz.func109,by kernel_rfl,by kernel_rfl⟩⟩
instance abW:aR Tryz.prog 110:=⟨⟨Tryz.f110,Tryz.func110,by kernel_rfl,by kernel_rfl⟩⟩
instance abX:aR Tryz.prog 111:=⟨⟨Tryz.f111,Tryz.func111,by kernel_rfl,by kernel_rfl⟩⟩
instance abY:aR Tryz.prog 112:=⟨⟨Tryz.f112,Tryz.func112,by kernel_rfl,by kernel_rfl⟩⟩
instance abZ:aR Tryz.prog 113:=⟨⟨Tryz.f113,Tryz.func113,by kernel_rfl,by kernel_rfl⟩⟩
instance ab0:aR Tryz.prog 114:=⟨⟨Tryz.f114,Tryz.func114,by kernel_rfl,by kernel_rfl⟩⟩
instance ab1:aR Tryz.prog 115:=⟨⟨Tryz.f115,Tryz.func115,by kernel_rfl,by kernel_rfl⟩⟩
instance ab2:aR Tryz.prog 116:=⟨⟨Tryz.f116,Tryz.func116,by kernel_rfl,by kernel_rfl⟩⟩
instance ab3:aR Tryz.prog 117:=⟨⟨Tryz.f117,Tryz.func117,by kernel_rfl,by kernel_rfl⟩⟩
instance ab4:aR Tryz.prog 118:=⟨⟨Tryz.f118,Tryz.func118,by kernel_rfl,by kernel_rfl⟩⟩
instance ab5:aR Tryz.prog 119:=⟨⟨Tryz.f119,Tryz.func119,by kernel_rfl,by kernel_rfl⟩⟩
instance ab6:aR Tryz.prog 120:=⟨⟨Tryz.f120,Tryz.func120,by kernel_rfl,by kernel_rfl⟩⟩
instance ab7:aR Tryz.prog 121:=⟨⟨Tryz.f121,Tryz.func121,by kernel_rfl,by kernel_rfl⟩⟩
instance ab8:aR Tryz.prog 122:=⟨⟨Tryz.f122,Tryz.func122,by kernel_rfl,by kernel_rfl⟩⟩
instance ab9:aR Tryz.prog 123:=⟨⟨Tryz.f123,Tryz.func123,by kernel_rfl,by kernel_rfl⟩⟩
instance aca:aR Tryz.prog 124:=⟨⟨Tryz.f124,Tryz.func124,by kernel_rfl,by kernel_rfl⟩⟩
instance acb:aR Tryz.prog 125:=⟨⟨Tryz.f125,Tryz.func125,by kernel_rfl,by kernel_rfl⟩⟩
instance acd:aR Tryz.prog 126:=⟨⟨Tryz.f126,Tryz.func126,by kernel_rfl,by kernel_rfl⟩⟩
instance ace:aR Tryz.prog 127:=⟨⟨Tryz.f127,Tryz.func127,by kernel_rfl,by kernel_rfl⟩⟩
instance acf:aR Tryz.prog 128:=⟨⟨Tryz.f128,Tryz.func128,by kernel_rfl,by kernel_rfl⟩⟩
instance acg:aR Tryz.prog 129:=⟨⟨Tryz.f129,Tryz.func129,by kernel_rfl,by kernel_rfl⟩⟩
instance ach:aR Tryz.prog 130:=⟨⟨Tryz.f130,Tryz.func130,by kernel_rfl,by kernel_rfl⟩⟩
instance aci:aR Tryz.prog 131:=⟨⟨Tryz.f131,Tryz.func131,by kernel_rfl,by kernel_rfl⟩⟩
instance acj:aR Tryz.prog 132:=⟨⟨Tryz.f132,Tryz.func132,by kernel_rfl,by kernel_rfl⟩⟩
instance ack:aR Tryz.prog 134:=⟨⟨Tryz.f134,Tryz.func134,by kernel_rfl,by kernel_rfl⟩⟩
instance acm:aR Tryz.prog 135:=⟨⟨Tryz.f135,Tryz.func135,by kernel_rfl,by kernel_rfl⟩⟩
instance acn:aR Tryz.prog 136:=⟨⟨Tryz.f136,Tryz.func136,by kernel_rfl,by kernel_rfl⟩⟩
instance aco:aR Tryz.prog 137:=⟨⟨Tryz.f137,Tryz.func137,by kernel_rfl,by kernel_rfl⟩⟩
instance acp:aR Tryz.prog 139:=⟨⟨Tryz.f139,Tryz.func139,by kernel_rfl,by kernel_rfl⟩⟩
instance acq:aR Tryz.prog 144:=⟨⟨Tryz.f144,Tryz.func144,by kernel_rfl,by kernel_rfl⟩⟩
instance acr:aR Tryz.prog 145:=⟨⟨Tryz.f145,Tryz.func145,by kernel_rfl,by kernel_rfl⟩⟩
instance acs:aR Tryz.prog 146:=⟨⟨Tryz.f146,Tryz.func146,by kernel_rfl,by kernel_rfl⟩⟩
instance acu:aR Tryz.prog 147:=⟨⟨Tryz.f147,Tryz.func147,by kernel_rfl,by kernel_rfl⟩⟩
instance acv:aR Tryz.prog 148:=⟨⟨Tryz.f148,Tryz.func148,by kernel_rfl,by kernel_rfl⟩⟩
instance acw:aR Tryz.prog 149:=⟨⟨Tryz.f149,Tryz.func149,by kernel_rfl,by kernel_rfl⟩⟩
instance acx:aR Tryz.prog 150:=⟨⟨Tryz.f150,Tryz.func150,by kernel_rfl,by kernel_rfl⟩⟩
instance acy:aR Tryz.prog 151:=⟨⟨Tryz.f151,Tryz.func151,by kernel_rfl,by kernel_rfl⟩⟩
instance acz:aR Tryz.prog 152:=⟨⟨Tryz.f152,Tryz.func152,by kernel_rfl,by kernel_rfl⟩⟩
instance acA:aR Tryz.prog 153:=⟨⟨Tryz.f153,Tryz.func153,by kernel_rfl,by kernel_rfl⟩⟩
instance acB:aR Tryz.prog 154:=⟨⟨Tryz.f154,Tryz.func154,by kernel_rfl,by kernel_rfl⟩⟩
instance acC:aR Tryz.prog 155:=⟨⟨Tryz.f155,Tryz.func155,by kernel_rfl,by kernel_rfl⟩⟩
instance acD:aR Tryz.prog 159:=⟨⟨Tryz.f159,Tryz.func159,by kernel_rfl,by kernel_rfl⟩⟩
instance acE:aR Tryz.prog 160:=⟨⟨Tryz.f160,Tryz.func160,by kernel_rfl,by kernel_rfl⟩⟩
instance acF:aR Tryz.prog 161:=⟨⟨Tryz.f161,Tryz.func161,by kernel_rfl,by kernel_rfl⟩⟩
instance acG:aR Tryz.prog 162:=⟨⟨Tryz.f162,Tryz.func162,by kernel_rfl,by kernel_rfl⟩⟩
instance acH:aR Tryz.prog 163:=⟨⟨Tryz.f163,Tryz.func163,by kernel_rfl,by kernel_rfl⟩⟩
instance acI:aR Tryz.prog 164:=⟨⟨Tryz.f164,Tryz.func164,by kernel_rfl,by kernel_rfl⟩⟩
instance acJ:aR Tryz.prog 165:=⟨⟨Tryz.f165,Tryz.func165,by kernel_rfl,by kernel_rfl⟩⟩
instance acK:aR Tryz.prog 166:=⟨⟨Tryz.f166,Tryz.func166,by kernel_rfl,by kernel_rfl⟩⟩
instance acL:aR Tryz.prog 167:=⟨⟨Tryz.f167,Tryz.func167,by kernel_rfl,by kernel_rfl⟩⟩
instance acM:aR Tryz.prog 168:=⟨⟨Tryz.f168,Tryz.func168,by kernel_rfl,by kernel_rfl⟩⟩
instance acN:aR Tryz.prog 169:=⟨⟨Tryz.f169,Tryz.func169,by kernel_rfl,by kernel_rfl⟩⟩
instance acO:aR Tryz.prog 170:=⟨⟨Tryz.f170,Tryz.func170,by kernel_rfl,by kernel_rfl⟩⟩
instance acP:aR Tryz.prog 171:=⟨⟨Tryz.f171,Tryz.func171,by kernel_rfl,by kernel_rfl⟩⟩
instance acQ:aR Tryz.prog 172:=⟨⟨Tryz.f172,Tryz.func172,by kernel_rfl,by kernel_rfl⟩⟩
instance acR:aR Tryz.prog 173:=⟨⟨Tryz.f173,Tryz.func173,by kernel_rfl,by kernel_rfl⟩⟩
instance acS:aR Tryz.prog 174:=⟨⟨Tryz.f174,Tryz.func174,by kernel_rfl,by kernel_rfl⟩⟩
instance acT:aR Tryz.prog 175:=⟨⟨Tryz.f175,Tryz.func175,by kernel_rfl,by kernel_rfl⟩⟩
instance acU:aR Tryz.prog 176:=⟨⟨Tryz.f176,Tryz.func176,by kernel_rfl,by kernel_rfl⟩⟩
instance acV:aR Tryz.prog 178:=⟨⟨Tryz.f178,Tryz.func178,by kernel_rfl,by kernel_rfl⟩⟩
instance acW:aR Tryz.prog 179:=⟨⟨Tryz.f179,Tryz.func179,by kernel_rfl,by kernel_rfl⟩⟩
instance acX:aR Tryz.prog 180:=⟨⟨Tryz.f180,Tryz.func180,by kernel_rfl,by kernel_rfl⟩⟩
instance acY:aR Tryz.prog 181:=⟨⟨Tryz.f181,Tryz.func181,by kernel_rfl,by kernel_rfl⟩⟩
instance acZ:aR Tryz.prog 182:=⟨⟨Tryz.f182,Tryz.func182,by kernel_rfl,by kernel_rfl⟩⟩
instance ac0:aR Tryz.prog 183:=⟨⟨Tryz.f183,Tryz.func183,by kernel_rfl,by kernel_rfl⟩⟩
instance ac1:aR Tryz.prog 184:=⟨⟨Tryz.f184,Tryz.func184,by kernel_rfl,by kernel_rfl⟩⟩
instance ac2:aR Tryz.prog 185:=⟨⟨Tryz.f185,Tryz.func185,by kernel_rfl,by kernel_rfl⟩⟩
instance ac3:aR Tryz.prog 186:=⟨⟨Tryz.f186,Tryz.func186,by kernel_rfl,by kernel_rfl⟩⟩
instance ac4:aR Tryz.prog 187:=⟨⟨Tryz.f187,Tryz.func187,by kernel_rfl,by kernel_rfl⟩⟩
instance ac5:aR Tryz.prog 188:=⟨⟨Tryz.f188,Tryz.func188,by kernel_rfl,by kernel_rfl⟩⟩
instance ac6:aR Tryz.prog 189:=⟨⟨Tryz.f189,Tryz.func189,by kernel_rfl,by kernel_rfl⟩⟩
instance ac7:aR Tryz.prog 190:=⟨⟨Tryz.f190,Tryz.func190,by kernel_rfl,by kernel_rfl⟩⟩
instance ac8:aR Tryz.prog 191:=⟨⟨Tryz.f191,Tryz.func191,by kernel_rfl,by kernel_rfl⟩⟩
instance ac9:aR Tryz.prog 192:=⟨⟨Tryz.f192,Tryz.func192,by kernel_rfl,by kernel_rfl⟩⟩
instance ada:aR Tryz.prog 193:=⟨⟨Tryz.f193,Tryz.func193,by kernel_rfl,by kernel_rfl⟩⟩
instance adb:aR Tryz.prog 194:=⟨⟨Tryz.f194,Tryz.func194,by kernel_rfl,by kernel_rfl⟩⟩
instance ade:aR Tryz.prog 195:=⟨⟨Tryz.f195,Tryz.func195,by kernel_rfl,by kernel_rfl⟩⟩
instance adf:aR Tryz.prog 196:=⟨⟨Tryz.f196,Tryz.func196,by kernel_rfl,by kernel_rfl⟩⟩
instance adg:aR Tryz.prog 197:=⟨⟨Tryz.f197,Tryz.func197,by kernel_rfl,by kernel_rfl⟩⟩
instance adh:aR Tryz.prog 198:=⟨⟨Tryz.f198,Tryz.func198,by kernel_rfl,by kernel_rfl⟩⟩
end Go.Proofs.YtaipiecplldinaaGreat
namespace Go.aB
def qf:Nat→Value→Value→Prop
 |0, .int k _, .int k' _=>k=k'
 |1, .bool _, .bool _=>True
 |2, .string _, .string _=>True
 |_,_,_=>False
def nw:Value→Bool
 | .agg _=>true
 |_=>false
def tX(P:Program)(d:Nat)(t:TypeId)(iW:Bool)(ks:List Nat):Prop:=
 ∀(w:World) (x y:Value),nw x=iW→nw y=iW→x.cells.size=ks.length→y.cells.size=ks.length→
  (∀(i k:Nat),ks[i]? =some k→ ∃u v,x.cells[i]? =some u∧y.cells[i]? =some v∧qf k u v)→
  ∃r:Bool,(Op.equalIn d t x y).run P w= .ok r w∧(r=true↔ ∀i,i<ks.length→x.cells[i]? =y.cells[i]?)
section
variable {P:Program} {d:Nat} {t:TypeId}
theorem cells_one{x:Value}(h:nw x=false):x.cells= #[x]:=by
 cases x<;>simp_all[nw,Value.cells]
theorem DY{q:IntKind}(hu:P.underlying t=some (.int q)):tX P (d+1) t false [0]:=fun w x y hx hy _ _ hk=>by
 obtain⟨u,v,h1,h2,h3⟩:=hk 0 0 rfl
 rw[cells_one hx]at h1⊢
 rw[cells_one hy]at h2⊢
 simp at h1 h2
 subst h1 h2
 cases x<;>cases y<;>simp only[qf]at h3
 subst h3
 exact⟨_,run_equalIn_int w d t _ q _ _ hu,by simp⟩
theorem Q7(hu:P.underlying t=some .bool):tX P (d+1) t false [1]:=fun w x y hx hy _ _ hk=>by
 obtain⟨u,v,h1,h2,h3⟩:=hk 0 1 rfl
 rw[cells_one hx]at h1⊢
 rw[cells_one hy]at h2⊢
 simp at h1 h2
 subst h1 h2
 cases x<;>cases y<;>simp only[qf]at h3
 exact⟨_,run_equalIn_bool' w d t _ _ hu,by simp⟩
theorem JK{e:TypeId}{iW:Bool}{n:Nat}(hA: ∃de,P.underlying e=some de∧rA de=iW)(hn:(P.info? e).map (·.size)=some n)(h1:iW=false→n=1)
  {xs:Array Value} {off:Nat} (bo:off+n≤xs.size) (hp: ∀i u,off≤i→i<off+n→xs[i]? =some u→nw u=false) (w:World):
  ∃a,(part e xs off).run P w= .ok a w∧nw a=iW∧a.cells.size=n∧ ∀i,i<n→a.cells[i]? =xs[off+i]? :=by
 obtain⟨de,hu,hr⟩:=hA
 cases iW with
 |true=>
  refine⟨.agg (xs.extract off (off+n)),?_,rfl,by simp[Value.cells];omega,fun i hi=> ?_⟩
  ·
   simp only[part,Sem.run_bind,zd w hu,hr,Result.andThen_ok,if_true,jT w hn,Sem.run_pure]
  ·
   simp[Value.cells,Array.getElem?_extract]
   intro h;omega
 |false=>
  have:=h1 rfl
  subst this
  have hx:xs[off]? =some xs[off]:=by simp[show off<xs.size by omega]
  have DZ:=hp off _ (Nat.le_refl _) (by omega) hx
  refine⟨xs[off],?_,DZ,by rw[cells_one DZ];rfl,fun i hi=> ?_⟩
  ·
   simp only[part,Sem.run_bind,zd w hu,hr,Result.andThen_ok,hx,Bool.false_eq_true,if_false,Sem.run_pure]
  ·
   obtain rfl:i=0:=by omega
   rw[cells_one DZ,Nat.add_zero,hx];rfl
theorem JL{k:Nat}{u v:Value}(h:qf k u v):nw u=false∧nw v=false:=by
 unfold qf at h
 split at h<;>simp_all[nw]
structure n6(P:Program)(d:Nat)(e:TypeId)(iW:Bool)(ks:List Nat):Prop where
 row: ∃de,P.underlying e=some de∧rA de=iW
 size:(P.info? e).map (·.size)=some ks.length
 one:iW=false→ks.length=1
 eq:tX P d e iW ks
theorem JM{e:TypeId}{iW:Bool}{ks:List Nat}(he:n6 P d e iW ks){xs ys:Array Value}{off:Nat}(hx:off+ks.length≤xs.size)(hy:off+ks.length≤ys.size)
  (hk: ∀(i k:Nat),ks[i]? =some k→ ∃u v,xs[off+i]? =some u∧ys[off+i]? =some v∧qf k u v) (w:World):
  ∃a b r,(part e xs off).run P w= .ok a w∧(part e ys off).run P w= .ok b w∧(Op.equalIn d e a b).run P w= .ok r w∧(r=true↔ ∀i,i<ks.length→xs[off+i]? =ys[off+i]?):=by
 have plain: ∀i,off≤i→i<off+ks.length→ ∃u v k,xs[i]? =some u∧ys[i]? =some v∧qf k u v:=fun i h1 h2=>by
  obtain⟨u,v,h3,h4,h5⟩:=hk (i -off) _ (List.getElem?_eq_getElem (by omega))
  rw[show off+(i -off)=i by omega]at h3 h4
  exact⟨u,v,_,h3,h4,h5⟩
 obtain⟨a,a1,a2,a3,a4⟩:=JK he.row he.size he.one hx (fun i u h1 h2 h3=>by
  obtain⟨u',v,k,h4,h5,h6⟩:=plain i h1 h2
  rw[h4]at h3;cases h3;exact(JL h6).1) w
 obtain⟨b,b1,b2,b3,b4⟩:=JK he.row he.size he.one hy (fun i u h1 h2 h3=>by
  obtain⟨u',v,k,h4,h5,h6⟩:=plain i h1 h2
  rw[h5]at h3;cases h3;exact(JL h6).2) w
 obtain⟨r,r1,r2⟩:=he.eq w a b a2 b2 a3 b3 (fun i k mA=>by
  obtain⟨u,v,h1,h2,h3⟩:=hk i k mA
  have hi:i<ks.length:=(List.getElem?_eq_some_iff.1 mA).1
  exact⟨u,v,by rw[a4 i hi];exact h1,by rw[b4 i hi];exact h2,h3⟩)
 refine⟨a,b,r,a1,b1,r1,r2.trans ⟨fun h i hi=> ?_,fun h i hi=> ?_⟩⟩
 ·
  rw[←a4 i hi,←b4 i hi];exact h i hi
 ·
  rw[a4 i hi,b4 i hi];exact h i hi
theorem JN{e:TypeId}{iW:Bool}{ks:List Nat}(he:n6 P d e iW ks){xs ys:Array Value}(w:World): ∀(is:List Nat),
  (∀j∈is,j*ks.length+ks.length≤xs.size∧j*ks.length+ks.length≤ys.size∧ ∀(i k:Nat),ks[i]? =some k→ ∃u v,xs[j*ks.length+i]? =some u∧ys[j*ks.length+i]? =some v∧qf k u v)→
  ∃r:Bool,(Op.eqItems d e ks.length xs ys is).run P w= .ok r w∧(r=true↔ ∀j∈is,∀i,i<ks.length→xs[j*ks.length+i]? =ys[j*ks.length+i]?)
 |[],_=>⟨true,by simp[Op.eqItems],by simp⟩
 |j::is,h=>by
  obtain⟨h1,h2,h3⟩:=h j (by simp)
  obtain⟨a,b,r,p1,p2,p3,qX⟩:=JM he h1 h2 h3 w
  obtain⟨r',D0,D1⟩:=JN he w is (fun j' jI=>h j' (by simp[jI]))
  simp only[Op.eqItems,Sem.run_bind,p1,p2,p3,Result.andThen_ok]
  cases r
  ·
   refine⟨false,by simp,?_⟩
   simp only[Bool.false_eq_true,false_iff]
   intro e
   exact absurd (qX.2 (e j (by simp))) (by simp)
  ·
   refine⟨r',by simpa using D0,?_⟩
   rw[D1]
   have:=qX.1 rfl
   constructor
   ·
    intro e j' jI
    rcases List.mem_cons.1 jI with rfl|jI
    ·
     exact this
    ·
     exact e j' jI
   ·
    intro e j' jI;exact e j' (by simp[jI])
theorem vb{ks:List Nat}: ∀{n j i:Nat},j<n→i<ks.length→(List.replicate n ks).flatten[j*ks.length+i]? =ks[i]?
 |0,j,i,h,_=>by omega
 |n+1,0,i,_,hi=>by
  rw[List.replicate_succ,List.flatten_cons,Nat.zero_mul,Nat.zero_add,List.getElem?_append_left hi]
 |n+1,j+1,i,h,hi=>by
  rw[List.replicate_succ,List.flatten_cons,List.getElem?_append_right (by rw[Nat.add_mul];omega),Nat.add_mul,show j*ks.length+1*ks.length+i -ks.length=j*ks.length+i by omega]
  exact vb (by omega) hi
theorem Q8{e:TypeId}{n:Nat}{iW:Bool}{ks:List Nat}(hu:P.underlying t=some (.array n e))(he:n6 P d e iW ks):tX P (d+1) t true (List.replicate n ks).flatten:=fun w x y hx hy sx sy hk=>by
 cases x<;>simp only[nw,Bool.false_eq_true]at hx
 cases y<;>simp only[nw,Bool.false_eq_true]at hy
 rename_i xs ys
 simp only[Value.cells]at sx sy hk⊢
 have hl:(List.replicate n ks).flatten.length=n*ks.length:=by simp
 rw[hl]at sx sy⊢
 obtain⟨i,hi⟩: ∃i,P.info? e=some i:=by
  cases h:P.info? e with
  |none=>have:=he.size;simp[h]at this
  |some i=>exact⟨i,rfl⟩
 have hc:P.cellsOf e=ks.length:=by have:=he.size;simp[Program.cellsOf,hi]at this⊢;exact this
 have bound: ∀j,j<n→j*ks.length+ks.length≤n*ks.length:=fun j hj=>by
  rw[←Nat.succ_mul];exact Nat.mul_le_mul_right _ hj
 obtain⟨r,hr,qX⟩:=JN he (xs:=xs) (ys:=ys) w (List.range n) (fun j hj=>by
  have jI:=List.mem_range.1 hj
  have:=bound j jI
  refine⟨by omega,by omega,fun i k mA=> ?_⟩
  have eT:i<ks.length:=(List.getElem?_eq_some_iff.1 mA).1
  exact hk (j*ks.length+i) k (by rw[vb jI eT];exact mA))
 refine⟨r,by rw[run_equalIn_array w d xs ys hu hi,hc];exact hr,qX.trans ⟨fun h q hq=> ?_,fun h j hj i hi=> ?_⟩⟩
 ·
  have xS:0<ks.length:=by
   rcases Nat.eq_zero_or_pos ks.length with h0|h0
   ·
    rw[h0]at hq;omega
   ·
    exact h0
  have h1:q/ks.length<n:=Nat.div_lt_of_lt_mul (by rw[Nat.mul_comm];exact hq)
  have h2:=h (q/ks.length) (List.mem_range.2 h1) (q%ks.length) (Nat.mod_lt _ xS)
  rw[Nat.div_add_mod']at h2
  exact h2
 ·
  have:=bound j (List.mem_range.1 hj)
  exact h _ (by omega)
def AQ(P:Program)(d:Nat):Nat→List Field→List Nat→Prop
 |_,[],ks=>ks=[]
 |off,f::fs,ks=>f.name≠ "_" ∧f.offset=off∧ ∃iW k1 k2,ks=k1++k2∧n6 P d f.type iW k1∧AQ P d (off+k1.length) fs k2
theorem JO{xs ys:Array Value}(w:World): ∀(fs:List Field) (off:Nat) (ks:List Nat),AQ P d off fs ks→off+ks.length≤xs.size→off+ks.length≤ys.size→
  (∀(i k:Nat),ks[i]? =some k→ ∃u v,xs[off+i]? =some u∧ys[off+i]? =some v∧qf k u v)→
  ∃r:Bool,(Op.eqFields d xs ys fs).run P w= .ok r w∧(r=true↔ ∀i,i<ks.length→xs[off+i]? =ys[off+i]?)
 |[],off,ks,h,_,_,_=>by
  simp only[AQ]at h
  subst h
  exact⟨true,by simp[Op.eqFields],by simp⟩
 |f::fs,off,ks,h,hx,hy,hk=>by
  obtain⟨hn,ho,iW,k1,k2,rfl,hp,zQ⟩:=h
  simp only[List.length_append]at hx hy
  obtain⟨a,b,r,p1,p2,p3,qX⟩:=JM hp (xs:=xs) (ys:=ys) (off:=off) (by omega) (by omega) (fun i k mA=>by
   have hi:i<k1.length:=(List.getElem?_eq_some_iff.1 mA).1
   exact hk i k (by rw[List.getElem?_append_left hi];exact mA)) w
  obtain⟨r',D0,D1⟩:=JO (xs:=xs) (ys:=ys) w fs (off+k1.length) k2 zQ (by omega) (by omega) (fun i k mA=>by
   have:=hk (k1.length+i) k (by rw[List.getElem?_append_right (by omega)];simpa using mA)
   rw[Nat.add_assoc];exact this)
  subst ho
  simp only[Op.eqFields,hn,ne_eq,not_false_eq_true,if_true,Sem.run_bind,p1,p2,p3,Result.andThen_ok]
  cases r
  ·
   refine⟨false,by simp,?_⟩
   simp only[Bool.false_eq_true,false_iff]
   intro e
   exact absurd (qX.2 fun i hi=>e i (by simp;omega)) (by simp)
  ·
   refine⟨r',by simpa using D0,?_⟩
   rw[D1]
   have:=qX.1 rfl
   simp only[List.length_append]
   constructor
   ·
    intro e i hi
    by_cases h1:i<k1.length
    ·
     exact this i h1
    ·
     have:=e (i -k1.length) (by omega)
     rw[show f.offset+k1.length+(i -k1.length)=f.offset+i by omega]at this
     exact this
   ·
    intro e i hi
    have:=e (k1.length+i) (by omega)
    rw[Nat.add_assoc];exact this
theorem D2{fs:Array Field}{ks:List Nat}(hu:P.underlying t=some (.struct fs))(hp:P.stoodInHeld t=false)(hf:AQ P d 0 fs.toList ks):tX P (d+1) t true ks:=fun w x y hx hy sx sy hk=>by
 cases x<;>simp only[nw,Bool.false_eq_true]at hx
 cases y<;>simp only[nw,Bool.false_eq_true]at hy
 rename_i xs ys
 simp only[Value.cells]at sx sy hk⊢
 have jC:P.fieldsOf t=fs:=by simp[Program.fieldsOf,hu]
 obtain⟨r,hr,qX⟩:=JO (xs:=xs) (ys:=ys) w fs.toList 0 ks hf (by omega) (by omega) (fun i k mA=>by
  have:=hk i k mA
  simpa using this)
 refine⟨r,?_,by simpa using qX⟩
 rw[run_equalIn_struct w d t xs ys (by rw[jC];exact hu) hp,jC]
 exact hr
theorem tX.val{iW:Bool}{ks:List Nat}(h:tX P 10000 t iW ks)(hA:iW=true)(hg:P.eqGuardType P.depth t=false){xs ys:Array Value}{r:Bool}(sx:xs.size=ks.length)(sy:ys.size=ks.length)
  (hk: ∀(i k:Nat),ks[i]? =some k→ ∃u v,xs[i]? =some u∧ys[i]? =some v∧qf k u v) (hr:xs=ys↔r=true):sV P t (.agg xs) (.agg ys) r where
 h w:=by
  subst hA
  obtain⟨q,h1,h2⟩:=h w (.agg xs) (.agg ys) rfl rfl sx sy hk
  have:q=r:=by
   rw[Bool.eq_iff_iff,h2,←hr]
   simp only[Value.cells]
   constructor
   ·
    intro e
    apply Array.ext_getElem?
    intro i
    by_cases hi:i<ks.length
    ·
     exact e i hi
    ·
     simp[show ¬i<xs.size by omega,show ¬i<ys.size by omega]
   ·
    rintro rfl i _;rfl
  rw[h1,this]
 plain:=hg
 agg:=⟨xs,ys,rfl,rfl⟩
end
end Go.aB
namespace Go.Proofs.YtaipiecplldinaaGreat
open Go.aB Go.Kb
instance (k:Key):fw (cn k) 16:=⟨fX k,by
 rw[Array.all_eq_true_iff_forall_mem];intro v hv
 simp only[cn,List.mem_toArray,List.mem_map]at hv
 obtain⟨i,_,rfl⟩:=hv;rfl⟩
instance (p:cX):fw (cQ p) 18:=⟨m9 p,by
 have h:(cn p.key).all (·.oneCell')=true:=(inferInstance:fw (cn p.key) 16).one
 rw[cQ,Array.all_append,h];simp[Value.oneCell']⟩
instance (p:cX):cj (cQ p) 0 (.int .i64 p.bits):=⟨tk p⟩
instance (p:cX):cj (cQ p) 1 (.int .i64 p.len):=⟨tl p⟩
instance (p:cX):mX (cQ p) 2 16 (cn p.key):=⟨fX _,fun j _=>oD p j⟩
theorem JP(d:Nat):n6 Tryz.prog (d+1) 5 false [0]:=⟨⟨_,Tryz.underlying5,rfl⟩,by kernel_rfl,fun _=>rfl,DY Tryz.underlying5⟩
theorem D3(d:Nat):n6 Tryz.prog (d+1) 3 false [0]:=⟨⟨_,Tryz.underlying3,rfl⟩,by kernel_rfl,fun _=>rfl,DY Tryz.underlying3⟩
theorem JQ(d:Nat):n6 Tryz.prog (d+1+1) 56 true (List.replicate 16 [0]).flatten:=⟨⟨_,Tryz.underlying56,rfl⟩,by kernel_rfl,(fun h=>by cases h),Q8 Tryz.underlying56 (JP d)⟩
theorem Q9:Tryz.prog.stoodInHeld 65=false:=by kernel_rfl
theorem JR(d:Nat):n6 Tryz.prog (d+1+1+1) 65 true ([0]++([0]++((List.replicate 16 [0]).flatten++[]))):=⟨⟨_,Tryz.underlying65,rfl⟩,by kernel_rfl,(fun h=>by cases h),
 D2 Tryz.underlying65 Q9 ⟨by decide,rfl,_,_,_,rfl,D3 _,by decide,rfl,_,_,_,rfl,D3 _,by decide,rfl,_,_,_,rfl,JQ _,rfl⟩⟩
theorem Ra:Tryz.prog.eqGuardType Tryz.prog.depth 56=false:=by kernel_rfl
theorem Rb:Tryz.prog.eqGuardType Tryz.prog.depth 65=false:=by kernel_rfl
instance (a b:Key):sV Tryz.prog 56 (.agg (cn a)) (.agg (cn b)) (decide (a=b)):=
 (JQ 9998).eq.val rfl Ra (fX a) (fX b) (fun i k hk=>by
  have hi:i<16:=(List.getElem?_eq_some_iff.1 hk).1
  have h0:k=0:=by
   have:k∈(List.replicate 16 [0]).flatten:=List.mem_of_getElem? hk
   simpa using this
  subst h0
  exact⟨_,_,kJ a i hi,kJ b i hi,rfl⟩) (by rw[decide_eq_true_iff];exact⟨G2,fun h=>by rw[h]⟩)
instance (a b:cX):sV Tryz.prog 65 (.agg (cQ a)) (.agg (cQ b)) (decide (a=b)):=
 (JR 9997).eq.val rfl Rb (m9 a) (m9 b) (fun i k hk=>by
  have h0:k=0:=by
   have:k∈([0]++([0]++((List.replicate 16 [0]).flatten++[]))):=List.mem_of_getElem? hk
   simpa using this
  subst h0
  have hi:i<18:=(List.getElem?_eq_some_iff.1 hk).1
  match i,hi with
  |0,_=>exact⟨_,_,tk a,tk b,rfl⟩
  |1,_=>exact⟨_,_,tl a,tl b,rfl⟩
  |j+2,hi=>rw[Nat.add_comm j 2];exact⟨_,_,(oD a j).trans (kJ _ j (by omega)),(oD b j).trans (kJ _ j (by omega)),rfl⟩) (by rw[decide_eq_true_iff];exact⟨G4,fun h=>by rw[h]⟩)
theorem xY:cn 0#128=(List.replicate 16 (Value.int .u8 0)).toArray:=by
 apply Array.ext'
 simp only[cn]
 refine List.eq_replicate_iff.2 ⟨by simp,fun v hv=> ?_⟩
 simp only[List.mem_map]at hv
 obtain⟨i,_,rfl⟩:=hv
 simp[cz]
instance (n m:Int)(k:Key):wP Tryz.prog 65 [(0, .int .i64 n),(1, .int .i64 m),(2, .agg (cn k))] (.agg (cQ ⟨n,m,k⟩)):=⟨fun w=>by kernel_rfl⟩
instance:eI Tryz.prog 56 (.agg (cn 0#128)):=⟨by rw[xY];kernel_rfl⟩
instance:eI Tryz.prog 65 (.agg (cQ ⟨0,0,0#128⟩)):=⟨by unfold cQ;rw[xY];kernel_rfl⟩
open Go.aB Go.Kb
theorem Rc(n:Int):nJ Tryz.prog 116 [.int .i64 n] (.bool (decide (n=32)||decide (n=128))):=⟨fun w=>by
 refine aX (args:=[_]) Tryz.func116 rfl Tryz.ntmps116 rfl ?_
 change Cw _ _ _ _ _ [(0, .int .i64 n)] []
 refine aO ?_
 refine aZ ?_
 refine ag (bj rfl) ?_
 refine aV ?_
 refine aN ?_
 refine aO ?_
 refine aZ ?_
 refine ag (aC rfl) ?_
 refine ag (cm rfl rfl rfl) ?_
 refine ag (aC rfl) ?_
 refine bQ rfl rfl rfl (fun hg=>(aC rfl).yl) ?_
 refine bQ rfl rfl rfl (fun hg=>(cm (aF hg rfl) rfl rfl).yl) ?_
 refine ag (lC rfl rfl rfl) ?_
 refine ag (bj rfl) ?_
 refine aV ?_
 refine aN ?_
 refine dM ?_
 refine aq (.inl rfl) (jK rfl rfl) (fun w hw=> ?_)
 exact⟨rfl,hw.sub (List.nil_sublist _)⟩⟩
instance adi(n:Int):nJ Tryz.prog 116 [.int .i64 n] (.bool (decide (n=32)||decide (n=128))):=Rc n
theorem Rd(k:Key)(h:Nat)(hh:h≤16):cH (cn 0#128) 0 ((cn k).extract 0 h)=cn (gE k ((8*h:Nat):Int)):=by
 refine G1 (by simp[cH,fX];omega) fun i hi=> ?_
 have hl:((cn k).extract 0 h).size=h:=by simp[fX];omega
 rw[Cm k (8*h) i hi]
 simp only[cH,hl,List.take_zero,List.nil_append,Nat.zero_add,List.getElem?_toArray]
 by_cases h1:i<h
 ·
  rw[List.getElem?_append_left (by simp[fX];omega),if_pos (by omega)]
  have:=kJ k i hi
  simpa[h1]using this
 ·
  rw[List.getElem?_append_right (by simp[fX];omega),if_neg (by omega)]
  have h2:(cn 0#128)[i]? =some (.int .u8 ((0:Nat):Int)):=by rw[kJ _ i hi];simp[cz]
  simp only[Array.length_toList,hl,List.getElem?_drop,show h+(i -h)=i by omega]
  rw[Array.getElem?_toList,h2]
  by_cases h3:8*i≤8*h
  ·
   rw[if_pos h3,show 8 -(8*h -8*i)=8 by omega,Nat.div_eq_of_lt (m7 k i),Nat.zero_mul]
  ·
   rw[if_neg h3]
theorem Re(b r:Nat)(hb:b<256)(hr:r≤8):km .andNot .u8 b ((255/2^r:Nat):Int)=some (.int .u8 ((b/2^(8 -r)*2^(8 -r):Nat):Int)):=by
 have hm:255/2^r<256:=Nat.lt_of_le_of_lt (Nat.div_le_self _ _) (by omega)
 rw[M8 hb hm]
 have key:b&&&(256 -1 -255/2^r)=b/2^(8 -r)*2^(8 -r):=by
  have e1:255/2^r=2^(8 -r) -1:=by
   match r,hr with
   |0,_|1,_|2,_|3,_|4,_|5,_|6,_|7,_|8,_=>rfl
   |n+9,h=>omega
  rw[e1]
  apply Nat.eq_of_testBit_eq
  intro j
  have e2:256 -1 -(2^(8 -r) -1)=2^8 -(2^(8 -r) -1+1):=by omega
  rw[Nat.testBit_and,e2,Nat.testBit_two_pow_sub_succ (by have:2^(8 -r)≤2^8:=Nat.pow_le_pow_right (by decide) (by omega);have:=Nat.two_pow_pos (8 -r);omega),Nat.testBit_two_pow_sub_one,Nat.testBit_mul_two_pow,Nat.testBit_div_two_pow]
  by_cases hj:8 -r≤j
  ·
   simp only[hj,show ¬j<8 -r by omega,decide_true,decide_false,Bool.not_false,Bool.and_true,Bool.true_and,show j -(8 -r)+(8 -r)=j by omega]
   by_cases h8:j<8
   ·
    simp[h8]
   ·
    have:b.testBit j=false:=Nat.testBit_lt_two_pow (Nat.lt_of_lt_of_le hb (by have:=Nat.pow_le_pow_right (n:=2) (by decide) (show 8≤j by omega);simpa using this))
    simp[this]
  ·
   simp[hj,show j<8 -r by omega]
 show some (Value.int .u8 ((b&&&(256 -1 -255/2^r):Nat):Int))=_
 rw[key]
theorem Rf(k:Key)(n:Int)(h0:1≤n)(h1:n<128)(h2:0<n%8):(cn (gE k ((8*(n/8).toNat:Nat):Int))).setIfInBounds (n/8).toNat (.int .u8 ((cz k (n/8).toNat/2^(8 -(n%8).toNat)*2^(8 -(n%8).toNat):Nat):Int))=cn (gE k n):=by
 have hb:=m7 k (n/8).toNat
 rw[N2 _ _ _ (by omega) (Nat.lt_of_le_of_lt (Nat.div_mul_le_self _ _) hb)]
 congr 1
 refine xh fun i hi=> ?_
 rw[GZ _ _ _ i hi (Nat.lt_of_le_of_lt (Nat.div_mul_le_self _ _) hb),Cm k _ i hi]
 have e:gE k n=gE k ((n.toNat:Nat):Int):=by rw[Int.toNat_of_nonneg (by omega)]
 rw[e,Cm k n.toNat i hi]
 by_cases hj:i=(n/8).toNat
 ·
  rw[if_pos hj,if_neg (by omega),if_pos (by omega),hj,show n.toNat -8*(n/8).toNat=(n%8).toNat by omega]
 ·
  rw[if_neg hj]
  by_cases bo:i<(n/8).toNat
  ·
   rw[if_pos (by omega),if_pos (by omega)]
  ·
   rw[if_neg (by omega),if_neg (by omega),if_neg (by omega),if_neg (by omega)]
theorem Rh(k:Key)(n:Int)(h0:1≤n)(h2: ¬0<n%8):gE k ((8*(n/8).toNat:Nat):Int)=gE k n:=by
 congr 1;omega
theorem Ri(k:Key)(n:Int):nJ Tryz.prog 79 [.agg (cn k), .int .i64 n] (.agg (cn (gE k n))):=⟨fun w=>by
 refine aX (args:=[_,_]) Tryz.func79 rfl Tryz.ntmps79 rfl ?_
 change Cw _ _ _ _ _ [(0, .agg (cn k)),(1, .int .i64 n)] []
 refine aO ?_
 refine aZ ?_
 refine bR rfl fun b2=> ?_
 refine bH fun b4=> ?_
 refine aV ?_
 refine aN ?_
 refine aO ?_
 refine aO ?_
 refine aZ ?_
 refine ag (aC rfl) ?_
 refine ag (cm rfl rfl rfl) ?_
 refine aV ?_
 refine aN ?_
 refine au rfl (fun h0=> ?_) (fun h0=> ?_)
 ·
  have h0:=of_decide_eq_true h0
  refine aO ?_
  refine aZ ?_
  refine ag (eR rfl) ?_
  refine pD rfl rfl ?_
  refine aV ?_
  refine aN ?_
  refine dM ?_
  refine eJ ?_
  refine aq (.inl rfl) (zn rfl rfl) (fun w hw=> ?_)
  exact⟨by rw[N3 k n (by omega)],hw.sub (List.nil_sublist _)⟩
 ·
  have h0:=of_decide_eq_false h0
  refine fq ?_
  refine aN ?_
  refine aO ?_
  refine aZ ?_
  refine bH fun b5=> ?_
  refine aV ?_
  refine aN ?_
  refine aO ?_
  refine aO ?_
  refine aZ ?_
  refine ag (aC rfl) ?_
  refine ag (cm rfl rfl rfl) ?_
  refine aV ?_
  refine aN ?_
  refine au rfl (fun h1=> ?_) (fun h1=> ?_)
  ·
   have h1:=of_decide_eq_true h1
   refine aO ?_
   refine aZ ?_
   refine ag (eR rfl) ?_
   refine pD rfl rfl ?_
   refine aV ?_
   refine aN ?_
   refine dM ?_
   refine eJ ?_
   refine aq (.inl rfl) (zn rfl rfl) (fun w hw=> ?_)
   exact⟨by rw[N4 k n (by omega)],hw.sub (List.nil_sublist _)⟩
  ·
   have h1:=of_decide_eq_false h1
   refine fq ?_
   refine aN ?_
   refine aO ?_
   refine aZ ?_
   refine ag (aC rfl) ?_
   refine ag (mY rfl rfl (by omega) (by omega)) ?_
   refine ag (bj rfl) ?_
   refine aV ?_
   refine aN ?_
   refine aO ?_
   refine s9 4 [] (by kernel_rfl) (by kernel_rfl) ?_
   simp only[List.take_succ_cons,List.take_zero]
   refine bb (aC rfl) ?_
   refine bb (Gt rfl rfl (by omega) (by omega)) ?_
   refine bb (aC rfl) ?_
   refine bb (Gt rfl rfl (by omega) (by omega)) ?_
   refine rC ?_
   refine rD ?_
   simp only[List.drop_succ_cons,List.drop_zero]
   refine B5 (vs:=(cn k).extract 0 (n/8).toNat) rfl rfl (by have e:Nat.min (n/8).toNat (n/8).toNat=(n/8).toNat:=Nat.min_self _;rw[e,Array.size_extract,fX];omega) (fun w hw j hj=>by rw[Addr.fI,hw.cell (Has.h (b:=b2)),Nat.zero_add];simp at hj;simp[hj]) (Nf (fw.one (cs:=cn k)) _ _) (by rw[Array.size_extract,fX,fX];omega) (Rd k _ (by omega)) ?_
   refine aV ?_
   refine aN ?_
   refine aO ?_
   refine aO ?_
   refine aZ ?_
   refine ag (aC rfl) ?_
   refine ag (wN rfl rfl (by omega) (by omega)) ?_
   refine ag (bj rfl) ?_
   refine aV ?_
   refine aN ?_
   refine aO ?_
   refine aZ ?_
   refine ag (aC rfl) ?_
   refine ag (cm rfl rfl rfl) ?_
   refine aV ?_
   refine aN ?_
   refine au rfl (fun h2=> ?_) (fun h2=> ?_)
   ·
    have h2:=of_decide_eq_true h2
    refine s9 8 [] (by kernel_rfl) (by kernel_rfl) ?_
    simp only[List.take_succ_cons,List.take_zero]
    refine bb (aC rfl) ?_
    refine bb (aC rfl) ?_
    refine bb (qu rfl rfl (by omega) (by omega)) ?_
    refine bb (Gj rfl (kJ _ _ (by omega))) ?_
    refine bb (aC rfl) ?_
    refine bb (s0 (p:=255) rfl rfl (by decide) (by omega)) ?_
    refine bb (cm rfl rfl (Re _ _ (m7 _ _) (by omega))) ?_
    refine bb (qu rfl rfl (by omega) (by omega)) ?_
    refine rC ?_
    refine rD ?_
    simp only[List.drop_succ_cons,List.drop_zero]
    refine dS rfl rfl (by rw[fX];omega) rfl (Rf k n (by omega) (by omega) h2) ?_
    refine aV ?_
    refine aN ?_
    refine aO ?_
    refine aZ ?_
    refine ag (eR rfl) ?_
    refine pD rfl rfl ?_
    refine aV ?_
    refine aN ?_
    refine dM ?_
    refine aq (.inl rfl) (zn rfl rfl) (fun w hw=> ?_)
    exact⟨rfl,hw.sub (List.nil_sublist _)⟩
   ·
    have h2:=of_decide_eq_false h2
    refine fq ?_
    refine aN ?_
    refine aO ?_
    refine aZ ?_
    refine ag (eR rfl) ?_
    refine pD rfl rfl ?_
    refine aV ?_
    refine aN ?_
    refine dM ?_
    refine aq (.inl rfl) (zn rfl rfl) (fun w hw=> ?_)
    exact⟨by rw[Rh k n (by omega) h2],hw.sub (List.nil_sublist _)⟩⟩
instance adj(k:Key)(n:Int):nJ Tryz.prog 79 [.agg (cn k), .int .i64 n] (.agg (cn (gE k n))):=Ri k n
theorem Rj(p:cX):nJ Tryz.prog 78 [.agg (cQ p)] (.bool (cP p)):=⟨fun w=>by
 refine aX (args:=[_]) Tryz.func78 rfl Tryz.ntmps78 rfl ?_
 change Cw _ _ _ _ _ [(0, .agg (cQ p))] []
 refine aO ?_
 refine aZ ?_
 refine bR rfl fun b1=> ?_
 refine ag (bj rfl) ?_
 refine aV ?_
 refine aN ?_
 refine aO ?_
 refine aO ?_
 refine aZ ?_
 refine ag (aH (o':=0) rfl rfl) ?_
 refine ag (bG rfl) ?_
 refine eS (uE rfl) ?_
 refine ag (ig rfl) ?_
 refine ag (aC rfl) ?_
 refine bQ rfl rfl rfl (fun hg=>(aH (o':=1) rfl rfl).yl) ?_
 refine bQ rfl rfl rfl (fun hg=>(bG (aF hg rfl)).yl) ?_
 refine bQ rfl rfl rfl (fun hg=>(cm (aF hg rfl) rfl rfl).yl) ?_
 refine ag (lC rfl rfl rfl) ?_
 refine ag (aC rfl) ?_
 refine bQ rfl rfl rfl (fun hg=>(aH (o':=1) rfl rfl).yl) ?_
 refine bQ rfl rfl rfl (fun hg=>(bG (aF hg rfl)).yl) ?_
 refine bQ rfl rfl rfl (fun hg=>(aH (o':=0) rfl rfl).yl) ?_
 refine bQ rfl rfl rfl (fun hg=>(bG (aF hg rfl)).yl) ?_
 refine bQ rfl rfl rfl (fun hg=>(cm (aF hg rfl) (aF hg rfl) rfl).yl) ?_
 refine ag (lC rfl rfl rfl) ?_
 refine aV ?_
 refine aN ?_
 refine au rfl (fun h0=> ?_) (fun h0=> ?_)
 ·
  refine aO ?_
  refine aZ ?_
  refine ag (bj rfl) ?_
  refine aV ?_
  refine aN ?_
  refine dM ?_
  refine eJ ?_
  refine aq (.inl rfl) (jK rfl rfl) (fun w hw=> ?_)
  refine⟨?_,hw.sub (List.nil_sublist _)⟩
  have:cP p=false:=by unfold cP;simp at h0⊢;omega
  rw[this]
 ·
  refine fq ?_
  refine aN ?_
  refine aO ?_
  refine gk (by kernel_rfl) (by kernel_rfl) ?_
  refine bb (aH (o':=2) rfl rfl) ?_
  refine bb (gA rfl) ?_
  refine bb (aH (o':=1) rfl rfl) ?_
  refine bb (bG rfl) ?_
  refine rE (uE rfl) ?_
  refine bb (aH (o':=2) rfl rfl) ?_
  refine bb (gA rfl) ?_
  refine bb (Gm rfl rfl) ?_
  refine bb (bj rfl) ?_
  refine uG ?_
  refine aN ?_
  refine dM ?_
  refine aq (.inl rfl) (jK rfl rfl) (fun w hw=> ?_)
  refine⟨?_,hw.sub (List.nil_sublist _)⟩
  congr 2;unfold cP;simp at h0⊢;obtain⟨⟨h1,h2⟩,h3⟩:=h0;simp[h2,h3,show p.bits=32∨p.bits=128 by omega]⟩
instance adk(p:cX):nJ Tryz.prog 78 [.agg (cQ p)] (.bool (cP p)):=Rj p
open Go.aB Go.Kb
open Go.RowKit
def pa(k:Key):List Int:=(List.range 16).map fun i=>(cz k i:Int)
theorem JS(k:Key)(j:Nat)(x:Int)(h:(pa k)[j]? =some x):j<16∧x=cz k j:=by
 have hl:j<16:=by have:=(List.getElem?_eq_some_iff.1 h).1;simpa[pa]using this
 refine⟨hl,?_⟩
 simp[pa,hl]at h
 exact h.symm
theorem Rk{x y:UInt8}{xs ys:List UInt8}:Lib.compareBytes (x::xs) (y::ys)=if x.toNat<y.toNat then -1 else if y.toNat<x.toNat then 1 else Lib.compareBytes xs ys:=by
 simp[Lib.compareBytes,UInt8.lt_iff_toNat_lt]
theorem JT(a b:Key): ∀(n i:Nat),i+n=16→(∀j,j<i→cz a j=cz b j)→
  Lib.compareBytes ((List.range' i n).map fun j=>(cz a j).toUInt8) ((List.range' i n).map fun j=>(cz b j).toUInt8)=nP a b
 |0,i,hi,hs=>by
  have:a=b:=xh fun j hj=>hs j (by omega)
  subst this
  simp[Lib.compareBytes,nP]
 |n+1,i,hi,hs=>by
  have ha:=m7 a i
  have hb:=m7 b i
  rw[List.range'_succ,List.map_cons,List.map_cons,Rk]
  have ea:(cz a i).toUInt8.toNat=cz a i:=by simp;omega
  have eb:(cz b i).toUInt8.toNat=cz b i:=by simp;omega
  rw[ea,eb]
  by_cases h1:cz a i<cz b i
  ·
   rw[if_pos h1]
   have:=G6 (by omega) hs h1
   unfold nP;rw[if_pos this]
  ·
   rw[if_neg h1]
   by_cases h2:cz b i<cz a i
   ·
    rw[if_pos h2]
    have:=G6 (by omega) (fun j hj=>(hs j hj).symm) h2
    unfold nP;rw[if_neg (by omega),if_pos this]
   ·
    rw[if_neg h2]
    exact JT a b n (i+1) (by omega) fun j hj=>by
     by_cases e:j=i
     ·
      subst e;omega
     ·
      exact hs j (by omega)
theorem JU(k:Key):(⟨ByteArray.empty.data++(Lib.bytesOf (pa k)).toArray⟩:ByteArray).data.toList=(List.range' 0 16).map fun j=>(cz k j).toUInt8:=by
 simp[Lib.bytesOf,pa,List.range_eq_range']
theorem Rl(a b:Key)(p q:Addr)(c c':Nat)(w:World)(hp: ∀j,j<16→w.cell? (p.add j)=some (.int .u8 (cz a j)))(hq: ∀j,j<16→w.cell? (q.add j)=some (.int .u8 (cz b j))):
  Calls Tryz.prog 119 [.slice (some p) 16 c, .slice (some q) 16 c'].toArray w fun e w'=>e= .returned (.int .i64 (nP a b))∧Mem w [] w':=by
 refine aX (args:=[_,_]) Tryz.func119 rfl Tryz.ntmps119 rfl ?_
 change Cw _ _ _ _ _ [(0, .slice (some p) 16 c),(1, .slice (some q) 16 c')] []
 refine aO ?_
 refine aZ ?_
 refine ag (bj rfl) ?_
 refine aV ?_
 refine aN ?_
 refine aO ?_
 refine aZ ?_
 refine ag (aC rfl) ?_
 refine ag (aC rfl) ?_
 refine ag (v:= .int .i64 (nP a b)) ?_ ?_
 ·
  intro aa w1 ha hw
  have qY: ∀j,j<16→w1.cell? (p.add j)=some (.int .u8 (cz a j)):=fun j hj=>by
   rw[←hp j hj];exact hw.below.cell (block_lt_of_cell (hp j hj))
  have Rm: ∀j,j<16→w1.cell? (q.add j)=some (.int .u8 (cz b j)):=fun j hj=>by
   rw[←hq j hj];exact hw.below.cell (block_lt_of_cell (hq j hj))
  have r1:=Lib.run_loadBytesX (P:=Tryz.prog) w1 (pa a) p .empty (fun j x hx=>by obtain⟨h1,rfl⟩:=JS a j x hx;exact qY j h1)
  have r2:=Lib.run_loadBytesX (P:=Tryz.prog) w1 (pa b) q .empty (fun j x hx=>by obtain⟨h1,rfl⟩:=JS b j x hx;exact Rm j h1)
  have l1:(pa a).length=16:=by simp[pa]
  have l2:(pa b).length=16:=by simp[pa]
  rw[l1]at r1
  rw[l2]at r2
  have e5:=ha.ev (x:= .tmp 5) (v:= .slice (some p) 16 c) rfl
  have e6:=ha.ev (x:= .tmp 6) (v:= .slice (some q) 16 c') rfl
  have fm:(callFunc 143 #[.slice (some p) 16 c, .slice (some q) 16 c']).run Tryz.prog w1= .ok (.value (.int .i64 (nP a b))) w1:=by
   rw[run_callFunc_extern Tryz.func143 (by kernel_rfl) (by kernel_rfl) (by kernel_rfl) (e:=Extern.BytealgCompare.compare) (by kernel_rfl)]
   have:(Extern.BytealgCompare.compare #[.slice (some p) 16 c, .slice (some q) 16 c']).run Tryz.prog w1= .ok (.int .i64 (nP a b)) w1:=by
    change Sem.run Tryz.prog (do pure (goInt (Extern.BytealgCompare.cmp (←Extern.Bytes.bytesOf (.slice (some p) 16 c)) (←Extern.Bytes.bytesOf (.slice (some q) 16 c'))))) w1=_
    simp only[Extern.Bytes.bytesOf,Sem.run_bind,r1,r2,Sem.run_pure,Result.andThen]
    rw[Lib.cmp_eq,JU,JU,JT a b 16 0 rfl (fun j h=>by omega)]
    rfl
   rw[this];rfl
  simp[execOp,resolve,Act.eval,Deferred.ofValue,invoke]at e5 e6⊢
  rw[e5,e6,fm]
 refine ag (bj rfl) ?_
 refine aV ?_
 refine aN ?_
 refine dM ?_
 refine aq (.inl rfl) (jK rfl rfl) (fun w hw=> ?_)
 exact⟨rfl,hw.sub (List.nil_sublist _)⟩
open Go.aB Go.Kb
open Go.RowKit
theorem JV{w0 w:World}{L:List aj}{b:Nat}{p:cX}{T:TypeId}{i:Nat}(hw:Mem w0 L w)[hh:Has L b (cQ p) T i](j:Nat)(hj:j<16):w.cell? ((⟨b,2,none⟩:Addr).add j)=some (.int .u8 (cz p.key j)):=by
 rw[Addr.fI,hw.cell hh.h,oD,kJ _ j hj]
theorem D4{p q:cX}(h1:cP p=true)(h2:cP q=true):dB p q=(if p.bits≠q.bits then decide (p.bits=32)else if p.key≠q.key then decide (p.key.toNat<q.key.toNat)else decide (p.len<q.len)):=by
 unfold dB;rw[h1,h2];rfl
theorem Rn(p q:cX):nJ Tryz.prog 81 [.agg (cQ p), .agg (cQ q)] (.bool (dB p q)):=⟨fun w=>by
 refine aX (args:=[_,_]) Tryz.func81 rfl Tryz.ntmps81 rfl ?_
 change Cw _ _ _ _ _ [(0, .agg (cQ p)),(1, .agg (cQ q))] []
 refine aO ?_
 refine aZ ?_
 refine bR rfl fun b2=> ?_
 refine bR rfl fun b3=> ?_
 refine ag (bj rfl) ?_
 refine aV ?_
 refine aN ?_
 refine aO ?_
 refine aO ?_
 refine aZ ?_
 refine ag (eR rfl) ?_
 refine eS (uE rfl) ?_
 refine ag (ig rfl) ?_
 refine ag (aC rfl) ?_
 refine bQ rfl rfl rfl (fun hg=>(eR rfl).yl) ?_
 refine bQ rfl rfl rfl (fun hg=>uE (dw (aF hg rfl) gg)) ?_
 refine bQ rfl rfl rfl (fun hg=>(ig (aF hg rfl)).yl) ?_
 refine ag (lC rfl rfl rfl) ?_
 refine aV ?_
 refine aN ?_
 refine au rfl (fun h0=> ?_) (fun h0=> ?_)
 ·
  simp at h0
  refine aO ?_
  refine aZ ?_
  refine ag (bj rfl) ?_
  refine aV ?_
  refine aN ?_
  refine dM ?_
  refine eJ ?_
  refine aq (.inl rfl) (jK rfl rfl) (fun w hw=> ?_)
  refine⟨?_,hw.sub (List.nil_sublist _)⟩
  have:dB p q=false:=by unfold dB;cases h1:cP p<;>cases h2:cP q<;>simp_all
  rw[this]
 ·
  simp at h0
  obtain⟨m1,m2⟩:=h0
  refine fq ?_
  refine aN ?_
  refine aO ?_
  refine aO ?_
  refine aZ ?_
  refine ag (aH (o':=0) rfl rfl) ?_
  refine ag (bG rfl) ?_
  refine ag (aH (o':=0) rfl rfl) ?_
  refine ag (bG rfl) ?_
  refine ag (cm rfl rfl rfl) ?_
  refine aV ?_
  refine aN ?_
  refine au rfl (fun h1=> ?_) (fun h1=> ?_)
  ·
   simp at h1
   refine aO ?_
   refine aZ ?_
   refine ag (aH (o':=0) rfl rfl) ?_
   refine ag (bG rfl) ?_
   refine ag (cm rfl rfl rfl) ?_
   refine ag (bj rfl) ?_
   refine aV ?_
   refine aN ?_
   refine dM ?_
   refine eJ ?_
   refine aq (.inl rfl) (jK rfl rfl) (fun w hw=> ?_)
   exact⟨by rw[D4 m1 m2,if_pos h1],hw.sub (List.nil_sublist _)⟩
  ·
   simp at h1
   refine fq ?_
   refine aN ?_
   refine aO ?_
   refine aO ?_
   refine gk (by kernel_rfl) (by kernel_rfl) ?_
   refine bb (aH (o':=2) rfl rfl) ?_
   refine bb (sY rfl) ?_
   refine bb (aH (o':=2) rfl rfl) ?_
   refine bb (sY rfl) ?_
   refine rE (zf rfl (fun w hw=>Rl p.key q.key _ _ _ _ w (JV hw) (JV hw))) ?_
   refine bb (bj rfl) ?_
   refine uG ?_
   refine aN ?_
   refine aO ?_
   refine aZ ?_
   refine ag (aC rfl) ?_
   refine ag (cm rfl rfl rfl) ?_
   refine aV ?_
   refine aN ?_
   refine au rfl (fun h2=> ?_) (fun h2=> ?_)
   ·
    simp at h2
    refine aO ?_
    refine aZ ?_
    refine ag (aC rfl) ?_
    refine ag (cm rfl rfl rfl) ?_
    refine ag (bj rfl) ?_
    refine aV ?_
    refine aN ?_
    refine dM ?_
    refine eJ ?_
    refine aq (.inl rfl) (jK rfl rfl) (fun w hw=> ?_)
    exact⟨by rw[D4 m1 m2,if_neg (by simpa using h1),if_pos (fun e=>h2 ((G7 _ _).2 e)),decide_eq_decide.2 (N8 _ _)],hw.sub (List.nil_sublist _)⟩
   ·
    simp at h2
    refine fq ?_
    refine aN ?_
    refine aO ?_
    refine aZ ?_
    refine ag (aH (o':=1) rfl rfl) ?_
    refine ag (bG rfl) ?_
    refine ag (aH (o':=1) rfl rfl) ?_
    refine ag (bG rfl) ?_
    refine ag (cm rfl rfl rfl) ?_
    refine ag (bj rfl) ?_
    refine aV ?_
    refine aN ?_
    refine dM ?_
    refine aq (.inl rfl) (jK rfl rfl) (fun w hw=> ?_)
    exact⟨by rw[D4 m1 m2,if_neg (by simpa using h1),if_neg (by simpa using(G7 _ _).1 h2)],hw.sub (List.nil_sublist _)⟩⟩
instance adl(p q:cX):nJ Tryz.prog 81 [.agg (cQ p), .agg (cQ q)] (.bool (dB p q)):=Rn p q
open Go.aB Go.Kb
instance adm:eK Tryz.prog 22 48 4 48:=⟨Tryz.underlying22,by kernel_rfl⟩
instance adn:eK Tryz.prog 23 94 4 16:=⟨Tryz.underlying23,by kernel_rfl⟩
instance ado:eK Tryz.prog 26 3 1 8:=⟨Tryz.underlying26,by kernel_rfl⟩
instance adp:eI Tryz.prog 38 (.slice none 0 0):=⟨by kernel_rfl⟩
instance adq:eK Tryz.prog 38 5 1 1:=⟨Tryz.underlying38,by kernel_rfl⟩
instance adr:eK Tryz.prog 43 50 4 32:=⟨Tryz.underlying43,by kernel_rfl⟩
instance ads:eK Tryz.prog 46 38 1 24:=⟨Tryz.underlying46,by kernel_rfl⟩
instance adt:eK Tryz.prog 52 68 19 40:=⟨Tryz.underlying52,by kernel_rfl⟩
instance adu:eK Tryz.prog 76 91 20 48:=⟨Tryz.underlying76,by kernel_rfl⟩
instance adv:eK Tryz.prog 103 102 2 32:=⟨Tryz.underlying103,by kernel_rfl⟩
instance adw:eK Tryz.prog 161 26 1 24:=⟨Tryz.underlying161,by kernel_rfl⟩
instance adx:eK Tryz.prog 186 46 1 24:=⟨Tryz.underlying186,by kernel_rfl⟩
instance ady:eK Tryz.prog 238 235 1 8:=⟨Tryz.underlying238,by kernel_rfl⟩
instance:bx ax 19:=⟨jM,fun r=>by
 have h:(cQ r.p).all (·.oneCell')=true:=(inferInstance:fw (cQ r.p) 18).one
 rw[ax,Array.all_append,h];simp[Value.oneCell']⟩
instance:Deep Rt:=Deep.flat ax 19
instance:fe Rt ax 19:=⟨rfl,fun _=>rfl⟩
instance (r:Rt):fw (ax r) 19:=⟨jM r,bx.one r⟩
instance (r:Rt):mX (ax r) 0 18 (cQ r.p):=⟨m9 _,fun j hj=>by rw[Nat.zero_add];exact na r j hj⟩
instance (r:Rt):cj (ax r) 18 (.int .u16 r.dv.toNat):=⟨uS r⟩
instance (r:Rt):cj (ax r) 0 (.int .i64 r.p.bits):=⟨(na r 0 (by decide)).trans (tk r.p)⟩
instance (r:Rt):cj (ax r) 1 (.int .i64 r.p.len):=⟨(na r 1 (by decide)).trans (tl r.p)⟩
theorem Ro(d:Nat):n6 Tryz.prog (d+1) 66 false [0]:=⟨⟨_,Tryz.underlying66,rfl⟩,by kernel_rfl,fun _=>rfl,DY Tryz.underlying66⟩
theorem Rp:Tryz.prog.stoodInHeld 68=false:=by kernel_rfl
theorem Rq(d:Nat):n6 Tryz.prog (d+1+1+1+1) 68 true (([0]++([0]++((List.replicate 16 [0]).flatten++[])))++([0]++[])):=⟨⟨_,Tryz.underlying68,rfl⟩,by kernel_rfl,(fun h=>by cases h),
 D2 Tryz.underlying68 Rp ⟨by decide,rfl,_,_,_,rfl,JR _,by decide,rfl,_,_,_,rfl,Ro _,rfl⟩⟩
theorem Rr:Tryz.prog.eqGuardType Tryz.prog.depth 68=false:=by kernel_rfl
instance (a b:Rt):sV Tryz.prog 68 (.agg (ax a)) (.agg (ax b)) (decide (a=b)):=
 (Rq 9996).eq.val rfl Rr (jM a) (jM b) (fun i k hk=>by
  have h0:k=0:=by
   have:k∈(([0]++([0]++((List.replicate 16 [0]).flatten++[])))++([0]++[])):=List.mem_of_getElem? hk
   simpa using this
  subst h0
  have hi:i<19:=(List.getElem?_eq_some_iff.1 hk).1
  match i,hi with
  |0,_=>exact⟨_,_,(inferInstance:cj (ax a) 0 _).h,(inferInstance:cj (ax b) 0 _).h,rfl⟩
  |1,_=>exact⟨_,_,(inferInstance:cj (ax a) 1 _).h,(inferInstance:cj (ax b) 1 _).h,rfl⟩
  |j+2,hi=>
   rcases Nat.lt_or_ge j 16 with h|h
   ·
    rw[Nat.add_comm j 2]
    exact⟨_,_,(na a _ (by omega)).trans ((oD a.p j).trans (kJ _ j h)),(na b _ (by omega)).trans ((oD b.p j).trans (kJ _ j h)),rfl⟩
   ·
    obtain rfl:j=16:=by omega
    exact⟨_,_,uS a,uS b,rfl⟩) (by rw[decide_eq_true_iff];exact⟨Ob,fun h=>by rw[h]⟩)
instance:wP Tryz.prog 68 [] (.agg (ax iJ)):=⟨fun w=>by unfold ax cQ iJ;rw[xY];kernel_rfl⟩
instance:eI Tryz.prog 68 (.agg (ax iJ)):=⟨by unfold ax cQ iJ;rw[xY];kernel_rfl⟩
end Go.Proofs.YtaipiecplldinaaGreat
namespace Go.Kb
open Go.aB
instance:Plain Rt:=⟨fun _=>rfl⟩
instance:dZ Rt:=dZ.flat fun _ _=>trivial
structure cf where
 av:bJ
 table:Sl Rt
def bN(x:cf):Array Value:= #[.int .i64 x.av.ah.ae, .int .i64 x.av.ah.size,x.av.ah.blocks.sv.val, .int .i64 x.av.ah.ops, .bool x.av.ah.off,x.av.ah.aS.sv.val,x.av.at_.sv.val, .int .u64 x.av.gen.toNat, .int .i64 x.av.last,x.table.sv.val]
instance:bx bN 10:=⟨fun _=>rfl,fun x=>by
 simp only[bN,List.all_toArray,List.all_cons,List.all_nil,Sv.one,pR,pS,Bool.and_self]⟩
instance (x:cf):fw (bN x) 10:=⟨rfl,bx.one x⟩
instance (x:cf):cj (bN x) 1 (.int .i64 x.av.ah.size):=⟨rfl⟩
instance (x:cf):cj (bN x) 6 (x.av.at_.sv.val):=⟨rfl⟩
instance (x:cf):cj (bN x) 7 (.int .u64 x.av.gen.toNat):=⟨rfl⟩
instance (x:cf):cj (bN x) 8 (.int .i64 x.av.last):=⟨rfl⟩
instance (x:cf):cj (bN x) 9 (x.table.sv.val):=⟨rfl⟩
instance (x:cf):mX (bN x) 0 9 (bC x.av):=⟨rfl,fun j hj=>by
 match j,hj with
 |0,_=>rfl
 |1,_=>rfl
 |2,_=>rfl
 |3,_=>rfl
 |4,_=>rfl
 |5,_=>rfl
 |6,_=>rfl
 |7,_=>rfl
 |8,_=>rfl⟩
instance (x:cf):mX (bN x) 0 6 (az x.av.ah):=⟨rfl,fun j hj=>by
 match j,hj with
 |0,_=>rfl
 |1,_=>rfl
 |2,_=>rfl
 |3,_=>rfl
 |4,_=>rfl
 |5,_=>rfl⟩
instance:Deep cf where
 c:=10
 cells:=bN
 size:=bx.size
 one:=bx.one
 aY h x:=Deep.aY h x.av∧Deep.aY h x.table
 bY x:= .two (Deep.bY x.av) (Deep.bY x.table)
 ik h x hs:=⟨Deep.ik h x.av hs.1,Deep.ik h x.table hs.2.1⟩
 mono w w' x hg hb:=⟨Deep.mono w w' x.av hg.1 hb,Deep.mono w w' x.table hg.2 hb⟩
instance:dZ cf where
 reach x k:=dZ.reach x.av k∨dZ.reach x.table k
 congr h h' x e hg:=⟨dZ.congr h h' x.av (fun k hk=>e k (.inl hk)) hg.1,dZ.congr h h' x.table (fun k hk=>e k (.inr hk)) hg.2⟩
instance {w0:World}{L:List aj}{x:cf}[q:aT w0 L x]:aT w0 L x.av:=⟨fun w hw=>(q.h w hw).1⟩
instance {w0:World}{L:List aj}{x:cf}[q:aT w0 L x]:aT w0 L x.table:=⟨fun w hw=>(q.h w hw).2⟩
instance {w0:World}{L:List aj}{av:bJ}{table:Sl Rt}[q0:aT w0 L av][q1:aT w0 L table]:aT w0 L (cf.mk av table):=⟨fun w hw=>⟨q0.h w hw,q1.h w hw⟩⟩
def kB:cf:=⟨ka,⟨Sv.none,[]⟩⟩
structure FV where
 av:VV
 table:List Rt
 deriving DecidableEq
def br(f:cf):FV:=⟨vv f.av,f.table.xs⟩
def nx:FV:=⟨ju,[]⟩
def vG(b p s:Int):Int:=min (r9 b p/2) (kb s)
def vH(b p s:Int):Int:=iT (vG b p s) (dO s)
def dP(c:CV):Int:=vG c.blocks.length c.ae c.size
def gu(c:CV):Int:=vH c.blocks.length c.ae c.size
def dG(c:CV)(y:Int):List UInt8:=if y -1<0 then[]else iO c y
def cg(v:VV):List (List UInt8):=v.at_.map (dG v.ah)
def cB(c:CV):FV×Int:=
 if gu c=0 then(nx,1)
 else if(bt c).2≠0 then(nx,(bt c).2)
 else if((bt c).1.at_.length:Int)≠dP c then(nx,2)
 else if iU (cg (bt c).1)≠0 then(nx,2)
 else(⟨(bt c).1,iB (cg (bt c).1)⟩,0)
def iX(c:CV):List (List UInt8):=if(cB c).2=0 then cg (bt c).1 else[]
theorem D5{c:CV}(h:gu c=0):cB c=(nx,1)∧iX c=[]:=by
 have e:cB c=(nx,1):=by rw[cB,if_pos h]
 exact⟨e,by rw[iX,e];rfl⟩
theorem D6{c:CV}(h: ¬gu c=0)(h1:(bt c).2≠0):cB c=(nx,(bt c).2)∧iX c=[]:=by
 have e:cB c=(nx,(bt c).2):=by rw[cB,if_neg h,if_pos h1]
 exact⟨e,by rw[iX,e,if_neg h1]⟩
theorem D7{c:CV}(h: ¬gu c=0)(h1:(bt c).2=0)(h2:((bt c).1.at_.length:Int)≠dP c):cB c=(nx,2)∧iX c=[]:=by
 have e:cB c=(nx,2):=by rw[cB,if_neg h,if_neg (fun g=>g h1),if_pos h2]
 exact⟨e,by rw[iX,e];rfl⟩
theorem D8{c:CV}(h: ¬gu c=0)(h1:(bt c).2=0)(h2:((bt c).1.at_.length:Int)=dP c)(h3:iU (cg (bt c).1)≠0):cB c=(nx,2)∧iX c=[]:=by
 have e:cB c=(nx,2):=by rw[cB,if_neg h,if_neg (fun g=>g h1),if_neg (fun g=>g h2),if_pos h3]
 exact⟨e,by rw[iX,e];rfl⟩
theorem vI{c:CV}(h: ¬gu c=0)(h1:(bt c).2=0)(h2:((bt c).1.at_.length:Int)=dP c)(h3:iU (cg (bt c).1)=0):cB c=(⟨(bt c).1,iB (cg (bt c).1)⟩,0)∧iX c=cg (bt c).1:=by
 have e:cB c=(⟨(bt c).1,iB (cg (bt c).1)⟩,0):=by rw[cB,if_neg h,if_neg (fun g=>g h1),if_neg (fun g=>g h2),if_neg (fun g=>g h3)]
 exact⟨e,by rw[iX,e,if_pos rfl]⟩
theorem xZ{c:CV}(h:(cB c).2=0): ¬gu c=0∧(bt c).2=0∧((bt c).1.at_.length:Int)=dP c∧iU (cg (bt c).1)=0:=by
 by_cases h0:gu c=0
 ·
  rw[(D5 h0).1]at h;cases h
 by_cases h1:(bt c).2=0
 ·
  by_cases h2:((bt c).1.at_.length:Int)=dP c
  ·
   by_cases h3:iU (cg (bt c).1)=0
   ·
    exact⟨h0,h1,h2,h3⟩
   ·
    rw[(D8 h0 h1 h2 h3).1]at h;cases h
  ·
   rw[(D7 h0 h1 h2).1]at h;cases h
 ·
  rw[(D6 h0 h1).1]at h;exact absurd h h1
def fP(f:FV):Bool:=decide ((cB {f.av.ah with off:=false}).2=0)&&decide (f.av.gen=(cB {f.av.ah with off:=false}).1.av.gen)&&decide (f.av.last=(cB {f.av.ah with off:=false}).1.av.last)&&decide (f.av.at_=(cB {f.av.ah with off:=false}).1.av.at_)&&decide (f.table=(cB {f.av.ah with off:=false}).1.table)
theorem D9{f:FV}:fP f=true↔(cB {f.av.ah with off:=false}).2=0∧f.av.gen=(cB {f.av.ah with off:=false}).1.av.gen∧f.av.last=(cB {f.av.ah with off:=false}).1.av.last∧f.av.at_=(cB {f.av.ah with off:=false}).1.av.at_∧f.table=(cB {f.av.ah with off:=false}).1.table:=by
 simp only[fP,Bool.and_eq_true,decide_eq_true_eq,and_assoc]
theorem Rs{f:FV}:fP f=(decide ((cB {f.av.ah with off:=false}).2=0)&&kc f.av&&decide ((cB {f.av.ah with off:=false}).1.table=f.table)):=by
 rw[Bool.eq_iff_iff,D9]
 simp only[kc,Bool.and_eq_true,decide_eq_true_eq]
 constructor
 ·
  rintro⟨h1,h2,h3,h4,h5⟩
  obtain⟨g0,g1,g2,g3⟩:=xZ h1
  rw[(vI g0 g1 g2 g3).1]at h2 h3 h4
  exact⟨⟨h1,⟨⟨g1,h2.symm⟩,h3.symm⟩,h4.symm⟩,h5.symm⟩
 ·
  rintro⟨⟨h1,⟨⟨g4,h2⟩,h3⟩,h4⟩,h5⟩
  obtain⟨g0,g1,g2,g3⟩:=xZ h1
  rw[(vI g0 g1 g2 g3).1]at h5⊢
  exact⟨rfl,h2.symm,h3.symm,h4.symm,h5.symm⟩
theorem Ru{bs:List (List UInt8)}(h:iU bs=0):dg (iB bs)=true:=by
 unfold iU iB at*
 cases hu:fE bs with
 |none=>rw[hu]at h;cases h
 |some t=>
  rw[hu]at h
  simp only at h⊢
  by_cases ht:dg t=true
  ·
   rw[if_pos ht];exact ht
  ·
   rw[if_neg ht]at h;cases h
def eG(f:FV)(l:List Ch):FV×Int:=
 if fP f=false then(f,1)
 else if et f.table l≠0 then(f,et f.table l)
 else if iA (c0 f.table l) (dP f.av.ah) (dO f.av.ah.size)≠0 then(f,iA (c0 f.table l) (dP f.av.ah) (dO f.av.ah.size))
 else if eV (iX {f.av.ah with off:=false}) (jk (c0 f.table l) (dP f.av.ah) (dO f.av.ah.size))=[]then(⟨f.av,c0 f.table l⟩,0)
 else(⟨(fv f.av (eV (iX {f.av.ah with off:=false}) (jk (c0 f.table l) (dP f.av.ah) (dO f.av.ah.size)))).1,if(fv f.av (eV (iX {f.av.ah with off:=false}) (jk (c0 f.table l) (dP f.av.ah) (dO f.av.ah.size)))).2≠0 then f.table else c0 f.table l⟩,(fv f.av (eV (iX {f.av.ah with off:=false}) (jk (c0 f.table l) (dP f.av.ah) (dO f.av.ah.size)))).2)
def pc(c:CV):FV×Int:=if gu c=0 then(⟨⟨c,[],0,0⟩,[]⟩,1)else(⟨(kN c (dP c)).1,[]⟩,(kN c (dP c)).2)
def pd(f:FV)(k:Key)(bits:Int):Rt:=if fP f=true then qd f.table k bits else iJ
def pe(f:FV)(k:Key)(bits:Int):Int:=if fP f=true then qe f.table k bits else 1
theorem vJ{w0 w:World}{L:List aj}{a:Sl Rt}(h:Mem w0 (own ax 19 a.sv a.xs::L) w):Mem w0 (fz a::L) w:=z6 (fun _ _ h=>h) (fun _ _=>trivial) h
theorem AR{w0 w:World}{L:List aj}{f:cf}(h:Mem w0 (fz f.av.ah::fz f.av.at_::fz f.table::L) w):Mem w0 (fz f::L) w:=by
 refine Mem.freeze (es:=[fz f.av.ah,fz f.av.at_,fz f.table]) f ⟨⟨h.sat (fz f.av.ah) (by simp),h.sat (fz f.av.at_) (by simp)⟩,h.sat (fz f.table) (by simp)⟩ (fun k hk=> ?_) h
 rcases hk with(hk|hk)|hk
 ·
  exact⟨fz f.av.ah,by simp,hk⟩
 ·
  exact⟨fz f.av.at_,by simp,hk⟩
 ·
  exact⟨fz f.table,by simp,hk⟩
theorem JW{w0 w:World}{L:List aj}{f:cf}(h:Mem w0 (fz f.av.ah::own bD 1 f.av.at_.sv f.av.at_.xs::own ax 19 f.table.sv f.table.xs::L) w):Mem w0 (fz f::L) w:=by
 have h1:=tA (a:=f.av.at_) (h.perm (List.Perm.swap _ _ _))
 have h2:=vJ (a:=f.table) (h1.perm ((List.Perm.cons _ (List.Perm.swap _ _ _)).trans (List.Perm.swap _ _ _)))
 exact AR (h2.perm ((List.Perm.cons _ (List.Perm.swap _ _ _)).trans ((List.Perm.swap _ _ _).trans (List.Perm.cons _ (List.Perm.swap _ _ _)))))
theorem AS{w0 w:World}{L:List aj}(h:Mem w0 L w):Mem w0 (fz kB::L) w:=
 Mem.freeze (es:=[]) kB ⟨⟨⟨tj,tj⟩,tj⟩,tj⟩ (fun k hk=>by
  rcases hk with(((⟨cD,_⟩|⟨x,hx,_⟩)|⟨cD,_⟩|⟨x,hx,_⟩)|⟨cD,_⟩|⟨x,hx,_⟩)|⟨cD,_⟩|⟨x,hx,_⟩
  all_goals first|exact absurd rfl cD|cases hx) h
theorem vK{w0 w:World}{L:List aj}:Mem w0 L w→Mem w0 (fz (⟨Sv.none,[]⟩:Sl (Sl UInt8))::L) w:=
 Mem.freeze (es:=[]) _ tj (fun k hk=>by
  rcases hk with⟨cD,_⟩|⟨x,hx,_⟩
  ·
   exact absurd rfl cD
  ·
   cases hx)
theorem JX(s:Int):0≤kb s∧kb s≤64:=by
 rw[kb,dO]
 split
 ·
  rename_i h;have:=tF.1 h;omega
 ·
  omega
theorem JY(c:CV):dP c≤64:=by
 have:=JX c.size
 rw[dP,vG];omega
theorem Rv(b p:Int):0≤r9 b p∧r9 b p≤448:=by
 rw[r9]
 split
 ·
  omega
 ·
  rename_i h
  have h1:0≤b -4∧b -4≤28:=by omega
  have h2:1≤p∧p≤16:=by omega
  exact⟨Int.mul_nonneg h1.1 (by omega),Int.le_trans (Int.mul_le_mul h1.2 h2.2 (by omega) (by omega)) (by decide)⟩
theorem Ea{c:CV}(h:(bt c).2=0):(bt c).1.ah=c:=by
 obtain⟨_,_,e⟩:=Dl h
 rw[e]
theorem JZ{c:CV}(h:(bt c).2=0):c.off=false:=by
 cases ho:c.off with
 |false=>rfl
 |true=>rw[bt,if_neg (by rw[Dk h];simp),if_pos ho]at h;cases h
theorem J0{c:CV}(h:(bt c).2=0):kc (bt c).1=true:=by
 have e:{(bt c).1.ah with off:=false}=c:=by rw[Ea h,←JZ h]
 simp only[kc,e,h,decide_true,Bool.and_self]
theorem Rw(c:CV)(n:Int):(iO c n).length≤65536:=by
 rw[iO]
 split
 ·
  exact Dg _
 ·
  simp
theorem Eb(v:VV):(cg v).length=v.at_.length:=by rw[cg,List.length_map]
theorem Rx(c:CV)(n:Int):(dG c n).length≤65536:=by
 rw[dG]
 split
 ·
  simp
 ·
  exact Rw c n
theorem Rz(c:CV):(iX c).length≤64:=by
 rw[iX]
 split
 ·
  rename_i h
  obtain⟨g0,g1,g2,g3⟩:=xZ h
  have:=JY c
  rw[Eb];omega
 ·
  simp
def fQ(f:FV):List (List UInt8):=iX {f.av.ah with off:=false}
def sd(f:FV)(l:List Ch):Int:=iA (c0 f.table l) (dP f.av.ah) (dO f.av.ah.size)
def gK(f:FV)(l:List Ch):List (List UInt8):=jk (c0 f.table l) (dP f.av.ah) (dO f.av.ah.size)
theorem RA{f:FV}{l:List Ch}(h0:fP f=false):eG f l=(f,1):=by rw[eG,if_pos h0]
theorem AT(f:FV)(l:List Ch):eG f l=(if fP f=false then(f,1)
 else if et f.table l≠0 then(f,et f.table l)
 else if sd f l≠0 then(f,sd f l)
 else if eV (fQ f) (gK f l)=[]then(⟨f.av,c0 f.table l⟩,0)
 else(⟨(fv f.av (eV (fQ f) (gK f l))).1,if(fv f.av (eV (fQ f) (gK f l))).2≠0 then f.table else c0 f.table l⟩,(fv f.av (eV (fQ f) (gK f l))).2)):=rfl
theorem J1{f:FV}{l:List Ch}(h0:fP f=true)(h1:et f.table l≠0):eG f l=(f,et f.table l):=by
 rw[AT,if_neg (by rw[h0];simp),if_pos h1]
theorem J2{f:FV}{l:List Ch}(h0:fP f=true)(h1:et f.table l=0)(h2:sd f l≠0):eG f l=(f,sd f l):=by
 rw[AT,if_neg (by rw[h0];simp),if_neg (fun h=>h h1),if_pos h2]
theorem J3{f:FV}{l:List Ch}(h0:fP f=true)(h1:et f.table l=0)(h2:sd f l=0)(h3:eV (fQ f) (gK f l)=[]):eG f l=(⟨f.av,c0 f.table l⟩,0):=by
 rw[AT,if_neg (by rw[h0];simp),if_neg (fun h=>h h1),if_neg (fun h=>h h2),if_pos h3]
theorem J4{f:FV}{l:List Ch}(h0:fP f=true)(h1:et f.table l=0)(h2:sd f l=0)(h3: ¬eV (fQ f) (gK f l)=[]):eG f l=(⟨(fv f.av (eV (fQ f) (gK f l))).1,if(fv f.av (eV (fQ f) (gK f l))).2≠0 then f.table else c0 f.table l⟩,(fv f.av (eV (fQ f) (gK f l))).2):=by
 rw[AT,if_neg (by rw[h0];simp),if_neg (fun h=>h h1),if_neg (fun h=>h h2),if_neg h3]
theorem RB{c:CV}(h:(cB c).2≠0):(cB c).1=nx:=by
 by_cases h0:gu c=0
 ·
  rw[(D5 h0).1]
 by_cases h1:(bt c).2=0
 ·
  by_cases h2:((bt c).1.at_.length:Int)=dP c
  ·
   by_cases h3:iU (cg (bt c).1)=0
   ·
    rw[(vI h0 h1 h2 h3).1]at h;exact absurd rfl h
   ·
    rw[(D8 h0 h1 h2 h3).1]
  ·
   rw[(D7 h0 h1 h2).1]
 ·
  rw[(D6 h0 h1).1]
def J5(f:FV):Bool:=aW f.av.ah&&decide (f.av.at_.length≤1000000)&&decide (f.table.length≤1000000)
end Go.Kb
namespace Go.aB
open Go.RowKit
theorem Ec{P:Program}{fn:Func}{N:ct}{env:Env}{w0:World}{L:List aj}(hf:fn.results= #[]): ∀a w,cU N env a→Mem w0 L w→(results fn a.tmps).run P w= .ok (.tuple #[]) w:=fun a w _ _=>by
 simp[results,hf]
section
variable {P:Program} {w0:World} {env:Env}
theorem J6{N:ct}{L:List aj}{d:Option Tmp}{ty:TypeId}{ps:String}{af:Array Edge}{gd:Option (Nat×Bool)}{t:TypeId}{x:Operand}{p:Addr}{v:Value}[ht:gh P t](hx:ev env x=some (.pointer (some p)))(hc:w0.cell? p=some v):Ry P N w0 env L ⟨d, .load t x,ty,ps,af,gd⟩ v:=
 uC ht hx fun w hw=>(hw.below.cell (by
  unfold World.cell? at hc
  cases ho:w0.heap[p.block]?with
  |none=>simp[ho]at hc
  |some o=>exact(Array.getElem?_eq_some_iff.1 ho).1)).trans hc
end
section
variable {P:Program} {N:ct} {w0:World} {env:Env} {L:List aj} {l:List Oper} {Q:Exit→Act→World→Prop} {rest:List Oper} {d:Option Tmp} {ty:TypeId} {ps:String} {af:Array Edge} {K:Value→List aj→Prop}
instance cj.one{v:Value}:cj #[v] 0 v:=⟨rfl⟩
theorem RC{t:TypeId}{x:Operand}{v:Value}(hc:v.cells= #[v])(hx:ev env x=some v)(hk: ∀b,Sq P N w0 l Q rest (cl env d (.pointer (some ⟨b,0,none⟩))) (ar b #[v] t::L))(hd:c5 N d=true:=by rfl):
  Sq P N w0 l Q (⟨d, .box t x,ty,ps,af,none⟩::rest) env L:=B4 hx (by rw[hc];exact hk) hd
theorem RD{t:TypeId}{z:Value}[hz:eI P t z](hc:z.cells= #[z])(hk: ∀b,Sq P N w0 l Q rest (cl env d (.pointer (some ⟨b,0,none⟩))) (ar b #[z] t::L))(hd:c5 N d=true:=by rfl):
  Sq P N w0 l Q (⟨d, .alloc t,ty,ps,af,none⟩::rest) env L:=Gy (z:=z) (by rw[hc];exact hk) hd
theorem RE{t:TypeId}{x y:Operand}{i b:Nat}{u:Value}{T:TypeId}{v:Value}(hv:v.oneCell'=true)(hx:ev env x=some (.pointer (some ⟨b,0,none⟩)))(hy:ev env y=some v)[ht:gh P t][hh:Has L b #[u] T i]{L':List aj}[hu:eQ L i (ar b #[v] T) L'](hk:Sq P N w0 l Q rest env L'):
  Sq P N w0 l Q (⟨none, .store t x y,ty,ps,af,none⟩::rest) env L:=dS (cs':= #[v]) hx hy (by show 0<1;decide) hv rfl hk
end
theorem RF{P:Program}{N:ct}{w0:World}{env:Env}{L:List aj}{l:List Oper}{Q:Exit→Act→World→Prop}{rest:List Oper}{ty:TypeId}{ps:String}{af:Array Edge}{t:TypeId}{x y:Operand}{i k p:Nat}{s:Sv}{xs:List UInt8}{a v:UInt8}[ht:gh P t](hx:ev env x=some (.pointer (some ⟨s.b,p,none⟩)))(hy:ev env y=some (.int .u8 v.toNat))[q:eY L s aM 1 xs i](ha:xs[k]? =some a)(gl:p=s.o+k*1){L':List aj}[hu:eQ L i (own aM 1 s (xs.set k v)) L'](hk:Sq P N w0 l Q rest env L'):
  Sq P N w0 l Q (⟨none, .store t x y,ty,ps,af,none⟩::rest) env L:=
 jX (j:=0) (n:=1) (a':=v) ht.size hx hy (q:=q) (by omega) ha (by simp[Value.cells,Value.oneCell']) rfl (by omega) (by rfl) hk
open Go.RowKit
section
variable {P:Program} {N:ct} {w0:World} {env:Env} {L:List aj} {Q:Exit→Act→World→Prop}
end
section
variable {P:Program} {n:Nat} {w0:World} {env:Env} {L:List aj} {Q:Exit→Act→World→Prop} {l:List Oper} {k:Nat} {rest:List Oper}
theorem vm{α:Type}{l rest:List α}{k:Nat}{o:α}(h:l.drop k=o::rest):l[k]? =some o∧l.drop (k+1)=rest:=by
 constructor
 ·
  have:=congrArg (·[0]?) h;simpa using this
 ·
  have:=congrArg (List.drop 1) h;simpa[List.drop_drop,Nat.add_comm]using this
end
open Go.RowKit
def omap(P:Program)(k:TypeId){α β:Type}(cN:α→Value)(dE:β→Value)(b:Nat)(f:α→Option β):aj:=
  ⟨fun i=>i=b,fun h=> ∃(es:Array MapEntry) (clock:Nat) (m:List (α×β)),h b=some (.map es clock)∧es.toList.map (fun e=>(e.key,e.val))=m.map (fun p=>(cN p.1,dE p.2))∧
    (∀p∈m,∃l,keyOf P k (cN p.1)=some l)∧(m.map Prod.fst).Nodup∧(∀x v,f x=some v↔(x,v)∈m),
   fun h h' e st=>by rw[e b rfl];exact st⟩
class vL(P:Program)(t:TypeId)(k e:outParam TypeId):Prop where
  dL:P.underlying t=some (.map k e)
class ya(P:Program)(k:TypeId):Prop where
  K:Maps.Keyed P k
class yb{α:Type}(cN:α→Value):Prop where
  inj: ∀{a b:α},cN a=cN b→a=b
class se(P:Program)(L:List aj)(b:Nat){α β:outParam Type}(k:TypeId)(cN:outParam (α→Value))(dE:outParam (β→Value))(f:outParam (α→Option β))(i:outParam Nat):Prop where
  h:L[i]? =some (omap P k cN dE b f)
instance (priority:=high) se.here {P:Program}{L:List aj}{b:Nat}{α β:Type}{k:TypeId}{cN:α→Value}{dE:β→Value}{f:α→Option β}:se P (omap P k cN dE b f::L) b k cN dE f 0:=⟨rfl⟩
instance se.there{P:Program}{L:List aj}{e:aj}{b:Nat}{α β:Type}{k:TypeId}{cN:α→Value}{dE:β→Value}{f:α→Option β}{i:Nat}[q:se P L b k cN dE f i]:se P (e::L) b k cN dE f (i+1):=⟨by simpa using q.h⟩
theorem J7{P:Program}{k:TypeId}{α β:Type}{cN:α→Value}{dE:β→Value}{f:α→Option β}[K:ya P k][I:yb cN]{es:Array MapEntry}{m:List (α×β)}(h1:es.toList.map (fun e=>(e.key,e.val))=m.map (fun p=>(cN p.1,dE p.2)))
    (h2: ∀p∈m,∃l,keyOf P k (cN p.1)=some l) (h3: ∀x v,f x=some v↔(x,v)∈m) {x:α} (hx: ∃l,keyOf P k (cN x)=some l) (w:World):
    ((Instr.findKey k (cN x) es.toList).run P w= .ok none w∧f x=none∧ ∀v,(x,v)∉m)∨ ∃(j:Nat) (v:β),(Instr.findKey k (cN x) es.toList).run P w= .ok (some (j,dE v)) w∧m[j]? =some (x,v)∧f x=some v∧(es[j]?).map (·.key)=some (cN x):=by
  have nr: ∀j:Nat,(es.toList[j]?).map (fun e=>(e.key,e.val))=(m[j]?).map (fun p=>(cN p.1,dE p.2)):=fun j=>by rw[←List.getElem?_map,←List.getElem?_map,h1]
  have hH: ∀e∈es.toList,∃l,keyOf P k e.key=some l:=fun e he=>by
    obtain⟨j,hj,rfl⟩:=List.getElem_of_mem he
    have:=nr j
    rw[List.getElem?_eq_getElem hj]at this
    cases hm:m[j]?with
    |none=>rw[hm]at this;cases this
    |some p=>
     rw[hm]at this
     simp only[Option.map_some,Option.some.injEq,Prod.mk.injEq]at this
     rw[this.1];exact h2 p (List.mem_of_getElem? hm)
  obtain⟨lx,qZ⟩:=hx
  rcases K.K.find w qZ es.toList hH with⟨hr,hn⟩|⟨j,e,hr,hj,hk⟩
  ·have gL: ∀v,(x,v)∉m:=fun v hv=>by
      obtain⟨j,hj,RG⟩:=List.getElem_of_mem hv
      have:=nr j
      rw[List.getElem?_eq_getElem hj,RG]at this
      cases he:es.toList[j]?with
      |none=>rw[he]at this;cases this
      |some e=>
       rw[he]at this
       simp only[Option.map_some,Option.some.injEq,Prod.mk.injEq]at this
       exact hn e (List.mem_of_getElem? he) this.1
   refine .inl ⟨hr,?_,gL⟩
   cases hf:f x with
   |none=>rfl
   |some v=>exact absurd ((h3 x v).1 hf) (gL v)
  ·have:=nr j
   rw[hj]at this
   cases hm:m[j]?with
   |none=>rw[hm]at this;cases this
   |some p=>
    rw[hm]at this
    simp only[Option.map_some,Option.some.injEq,Prod.mk.injEq]at this
    have hp:p.1=x:=I.inj (this.1.symm.trans hk)
    refine .inr ⟨j,p.2,by rw[hr,this.2],by rw[hm,←hp],(h3 x p.2).2 (by rw[←hp];exact List.mem_of_getElem? hm),?_⟩
    have jI:es[j]? =some e:=by simpa using hj
    rw[jI,Option.map_some,hk]
section
variable {P:Program} {N:ct} {w0:World} {env:Env} {L:List aj} {d:Option Tmp} {ty:TypeId} {ps:String} {af:Array Edge} {gd:Option (Nat×Bool)} {α β:Type} {cN:α→Value} {dE:β→Value} {f:α→Option β}
theorem run_getObj_map{w:World}{b:Nat}{es:Array MapEntry}{clock:Nat}(h:w.heap[b]? =some (.map es clock)):(getObj b).run P w= .ok (.map es clock) w:=by simp[getObj,Sem.run,h]
theorem run_setObj_map{w:World}{b:Nat}{es:Array MapEntry}{clock:Nat}(o:Obj)(h:w.heap[b]? =some (.map es clock)):(setObj b o).run P w= .ok () (w.putObj b o):=by simp[setObj,Sem.run,h,World.putObj]
theorem Ed{t k e:TypeId}{m x:Operand}{b i:Nat}{z:β}{v:α}[ht:vL P t k e][K:ya P k][I:yb cN][hz:eI P e (dE z)](hm:ev env m=some (.map (some b)))(hx:ev env x=some (cN v))[q:se P L b k cN dE f i](hv: ∃l,keyOf P k (cN v)=some l):
    Ry P N w0 env L ⟨d, .lookup t m x true,ty,ps,af,gd⟩ (.tuple #[dE ((f v).getD z), .bool (f v).isSome]):=fun a w ha hw=>by
  obtain⟨es,clock,ml,h0,h1,h2,_,h3⟩:=hw.get q.h
  obtain⟨l,hl⟩:=hv
  have hc:=K.K.check w es.isEmpty hl
  simp only[execOp,ha.ev hm,ha.ev hx,Instr.lookup,Sem.run_bind,run_underlying ht.dL,Result.andThen,run_getObj_map h0,Sem.run_pure,hc]
  rcases J7 (P:=P) (k:=k) h1 h2 h3 ⟨l,hl⟩ w with⟨hr,hf,_⟩|⟨j,u,hr,_,hf,_⟩
  ·simp only[hr,hf,Option.getD_none,zb w hz,Sem.run_bind,Result.andThen,Sem.run_pure];rfl
  ·simp only[hr,hf,Option.getD_some,Sem.run_pure];rfl
end
section
variable {P:Program} {N:ct} {w0:World} {env:Env} {L:List aj} {l:List Oper} {Q:Exit→Act→World→Prop} {rest:List Oper} {d:Option Tmp} {ty:TypeId} {ps:String} {af:Array Edge} {α β:Type} {cN:α→Value} {dE:β→Value} {f:α→Option β}
theorem Mem.J8{w:World}(P:Program)(k:TypeId)(cN:α→Value)(dE:β→Value)(h:Mem w0 L w):Mem w0 (omap P k cN dE w.heap.size (fun _=>none)::L) (w.alloc (.map #[] 0)):=by
  refine h.call (E:=[omap P k cN dE w.heap.size (fun _=>none)]) ⟨(Below.refl _ _).alloc (Nat.le_refl _) _,fun e he=> ?_,fun e he j hj=> ?_,by simp⟩
  ·obtain rfl:e=omap P k cN dE w.heap.size (fun _=>none):=by simpa using he
   exact⟨#[],0,[],Below.yY w _,rfl,by simp,by simp,by simp⟩
  ·obtain rfl:e=omap P k cN dE w.heap.size (fun _=>none):=by simpa using he
   have:j=w.heap.size:=hj
   subst this;simp
theorem RH{t k e:TypeId}(cN:α→Value)(dE:β→Value){r:Operand}{kk:IntKind}{n:Int}[ht:vL P t k e](hr:ev env r=some (.int kk n))(hk: ∀b,Sq P N w0 l Q rest (cl env d (.map (some b))) (omap P k cN dE b (fun _=>none)::L))(hd:c5 N d=true:=by rfl):
    Sq P N w0 l Q (⟨d, .makeMap t (some r),ty,ps,af,none⟩::rest) env L:=
  lD rfl hd fun a w ha hw=>⟨_,_,_,by
    simp only[execOp,Option.map_some,ha.ev hr,Instr.makeMap,Sem.run_bind,run_underlying ht.dL,Result.andThen,Sem.run_pure,asInt,asIntOf,newObj,Sem.run]
    rfl,hw.J8 P k cN dE,hk _⟩
theorem J9{t k e:TypeId}(cN:α→Value)(dE:β→Value)[ht:vL P t k e](hk: ∀b,Sq P N w0 l Q rest (cl env d (.map (some b))) (omap P k cN dE b (fun _=>none)::L))(hd:c5 N d=true:=by rfl):
    Sq P N w0 l Q (⟨d, .makeMap t none,ty,ps,af,none⟩::rest) env L:=
  lD rfl hd fun a w ha hw=>⟨_,_,_,by
    simp only[execOp,Option.map_none,Instr.makeMap,Sem.run_bind,Result.andThen,Sem.run_pure,newObj,Sem.run]
    rfl,hw.J8 P k cN dE,hk _⟩
theorem RI{t k e:TypeId}{m x y:Operand}{b i:Nat}{v:α}{u:β}[DecidableEq α][ht:vL P t k e][K:ya P k][I:yb cN](hm:ev env m=some (.map (some b)))(hx:ev env x=some (cN v))(hy:ev env y=some (dE u))[q:se P L b k cN dE f i](hv: ∃l,keyOf P k (cN v)=some l)
    {L':List aj} [hu:eQ L i (omap P k cN dE b (fun z=>if z=v then some u else f z)) L'] {a:Act} {w:World} (ha:cU N env a) (hw:Mem w0 L w):
    ∃w',(execOp a.eval ⟨none, .mapUpdate t m x y,ty,ps,af,none⟩).run P w= .ok .skip w'∧Mem w0 L' w':=by
  obtain⟨es,clock,ml,h0,h1,h2,ck,h3⟩:=hw.get q.h
  obtain⟨lk,hl⟩:=hv
  have hc:=K.K.check w false hl
  have bE:=K.K.stays w hl
  have step: ∀o:Obj,(omap P k cN dE b (fun z=>if z=v then some u else f z)).sat (fun j=>(w.putObj b o).heap[j]?)→Mem w0 L' (w.putObj b o):=fun o ho=>by
    rw[←hu.h]
    exact hw.change q.h (fun j hj=>hj) (fun j hj=>World.putObj_heap_other (fun e=>hj e)) World.putObj_size ⟨rfl,rfl,rfl⟩ ho
  have bo:b<w.heap.size:=(Array.getElem?_eq_some_iff.1 h0).1
  rcases J7 (P:=P) (k:=k) h1 h2 h3 ⟨lk,hl⟩ w with⟨hr,hf,gL⟩|⟨j,u0,hr,hj,hf,RJ⟩
  ·refine⟨w.putObj b (.map (es.push {key:=cN v,val:=dE u,born:=clock}) (clock+1)),?_,step _ ⟨_,_,ml++[(v,u)],World.putObj_heap_same bo,?_,?_,?_,?_⟩⟩
   ·simp only[execOp,ha.ev hm,ha.ev hx,ha.ev hy,Instr.mapUpdate,Sem.run_bind,run_underlying ht.dL,Result.andThen,run_getObj_map h0,hc,hr,run_setObj_map _ h0,Sem.run_pure]
   ·simp[h1]
   ·intro p hp
    rcases List.mem_append.1 hp with hp|hp
    ·exact h2 p hp
    ·obtain rfl:p=(v,u):=by simpa using hp
     exact⟨lk,hl⟩
   ·rw[List.map_append,List.nodup_append]
    refine⟨ck,by simp,fun x1 l5 y1 Ee e1=> ?_⟩
    obtain rfl:y1=v:=by simpa using Ee
    subst e1
    obtain⟨p,hp,rfl⟩:=List.mem_map.1 l5
    exact gL p.2 hp
   ·intro x' v'
    show(if x'=v then some u else f x')=some v'↔_
    by_cases e:x'=v
    ·subst e;rw[if_pos rfl]
     constructor
     ·intro h;cases h;simp
     ·intro h
      rcases List.mem_append.1 h with h|h
      ·exact absurd h (gL v')
      ·simp at h;rw[h]
    ·rw[if_neg e,h3 x' v'];simp[e]
  ·have iG:j<ml.length:=(List.getElem?_eq_some_iff.1 hj).1
   refine⟨w.putObj b (.map (es.modify j fun e=>{e with key:=cN v,val:=dE u}) clock),?_,step _ ⟨_,_,ml.set j (v,u),World.putObj_heap_same bo,?_,?_,?_,?_⟩⟩
   ·simp only[execOp,ha.ev hm,ha.ev hx,ha.ev hy,Instr.mapUpdate,Sem.run_bind,run_underlying ht.dL,Result.andThen,run_getObj_map h0,hc,hr,RJ,Option.getD_some,bE,run_setObj_map _ h0,Sem.run_pure]
   ·refine List.ext_getElem? fun n=> ?_
    have:=congrArg (·[n]?) h1
    simp only[List.getElem?_map]at this⊢
    rw[List.getElem?_set]
    by_cases e:j=n
    ·subst e
     rw[if_pos rfl,if_pos iG]
     rw[hj]at this
     cases he:es.toList[j]?with
     |none=>rw[he]at this;cases this
     |some e0=>
      have oz:es[j]? =some e0:=by simpa using he
      simp[Array.getElem?_modify,oz]
    ·rw[if_neg e,←this]
     simp[Array.getElem?_modify,e]
   ·intro p hp
    rcases List.mem_or_eq_of_mem_set hp with hp|rfl
    ·exact h2 p hp
    ·exact⟨lk,hl⟩
   ·rw[List.map_set]
    have:(ml.map Prod.fst)[j]? =some v:=by rw[List.getElem?_map,hj];rfl
    rw[show(ml.map Prod.fst).set j (v,u).1=ml.map Prod.fst from by
        refine List.ext_getElem? fun n=> ?_
        rw[List.getElem?_set]
        by_cases e:j=n
        ·subst e;rw[if_pos rfl,if_pos (by simpa using iG),this]
        ·rw[if_neg e]]
    exact ck
   ·intro x' v'
    have RK: ∀n p,ml[n]? =some p→p.1=v→n=j:=fun n p hn hp=>by
        have a1:(ml.map Prod.fst)[n]? =some v:=by rw[List.getElem?_map,hn,Option.map_some,hp]
        have a2:(ml.map Prod.fst)[j]? =some v:=by rw[List.getElem?_map,hj];rfl
        exact(List.getElem?_inj (by simpa using(List.getElem?_eq_some_iff.1 hn).1) ck).1 (a1.trans a2.symm)
    show(if x'=v then some u else f x')=some v'↔_
    by_cases e:x'=v
    ·subst e;rw[if_pos rfl]
     constructor
     ·intro h;cases h
      exact List.mem_of_getElem? (i:=j) (by rw[List.getElem?_set,if_pos rfl,if_pos iG])
     ·intro h
      obtain⟨n,hn⟩:=List.mem_iff_getElem?.1 h
      rw[List.getElem?_set]at hn
      by_cases en:j=n
      ·rw[if_pos en,if_pos iG]at hn;simp only[Option.some.injEq,Prod.mk.injEq,true_and]at hn;rw[hn]
      ·rw[if_neg en]at hn;exact absurd (RK n _ hn rfl).symm en
    ·rw[if_neg e,h3 x' v']
     constructor
     ·intro h
      obtain⟨n,hn⟩:=List.mem_iff_getElem?.1 h
      refine List.mem_of_getElem? (i:=n) ?_
      rw[List.getElem?_set,if_neg,hn]
      rintro rfl
      rw[hj]at hn;simp only[Option.some.injEq,Prod.mk.injEq]at hn;exact e hn.1.symm
     ·intro h
      rcases List.mem_or_eq_of_mem_set h with h|h
      ·exact h
      ·simp only[Prod.mk.injEq]at h;exact absurd h.1 e
theorem Ef{t k e:TypeId}{m x y:Operand}{b i:Nat}{v:α}{u:β}[DecidableEq α][ht:vL P t k e][K:ya P k][I:yb cN](hm:ev env m=some (.map (some b)))(hx:ev env x=some (cN v))(hy:ev env y=some (dE u))[q:se P L b k cN dE f i](hv: ∃l,keyOf P k (cN v)=some l)
    {L':List aj} [hu:eQ L i (omap P k cN dE b (fun z=>if z=v then some u else f z)) L'] (hk:Sq P N w0 l Q rest env L'):
    Sq P N w0 l Q (⟨none, .mapUpdate t m x y,ty,ps,af,none⟩::rest) env L:=
  zj rfl rfl fun a w ha hw=>by
    obtain⟨w',h1,h2⟩:=RI (t:=t) (k:=k) (e:=e) (ty:=ty) (ps:=ps) (af:=af) hm hx hy hv (L':=L') ha hw
    exact⟨w',L',h1,h2,hk⟩
end
open Go.Kb Go.RowKit
theorem Eg{w0 w:World}{L R:List aj}{e:aj}{i:Nat}(q:L[i]? =some e)(d:L.eraseIdx i=R)(h:Mem w0 L w):Mem w0 (e::R) w:=by
 have:=h.perm (mv q);rwa [d]at this
theorem ra{w0 w:World}{L R1 R2:List aj}{e1 e2:aj}{i j:Nat}(h1:L[i]? =some e1)(d1:L.eraseIdx i=R1)(h2:R1[j]? =some e2)(d2:R1.eraseIdx j=R2)(h:Mem w0 L w):Mem w0 (e1::e2::R2) w:=by
 subst d1;subst d2
 exact h.perm ((mv h1).trans ((mv h2).cons _))
instance (priority:=low) ai.drop {L L':List aj}{e:aj}[k:ai L L']:ai (e::L) L':=⟨by
 obtain⟨R,hR⟩:=k.h
 exact⟨e::R,(hR.cons e).trans List.perm_middle.symm⟩⟩
section
variable {P:Program} {N:ct} {w0:World} {env:Env} {L:List aj} {Q:Exit→Act→World→Prop} {d:Option Tmp} {ty:TypeId} {ps:String} {af:Array Edge} {gd:Option (Nat×Bool)} {K:Value→List aj→Prop}
theorem Ry.to{o:Oper}{v v':Value}(h:Ry P N w0 env L o v)(e:v=v'):Ry P N w0 env L o v':=e▸h
theorem AU{f:FuncId}{x:Operand}{jl:Array Value}{xs:List Operand}{ts:Array TypeId}{vs:List Value}{v:Value}[hf:aR P f](hx:ev env x=some (.func (.func f) #[] jl))(RL:gz env xs=some vs)
  (hc: ∀w,Mem w0 L w→Calls P f (vs++jl.toList).toArray w fun e w'=>e= .returned v∧Mem w [] w'):
  Yl P N w0 env L ⟨d, .call {callee:= .value x,args:=xs.toArray,argTypes:=ts},ty,ps,af,gd⟩ v:=fun a ha w hw=>by
 unfold Oper.quietAt
 obtain⟨fn,h1,h2,h3⟩:=hf.fn
 have BY: ¬fn.body=none:=fun e=>by simp[e]at h2
 have uD: ¬fn.name= "runtime.NumGoroutine" :=by simpa using h3
 have e:(execOp a.eval ⟨d, .call {callee:= .value x,args:=xs.toArray,argTypes:=ts},ty,ps,af,gd⟩).run P w= .ok (.enter f (vs++jl.toList).toArray) w:=by
  have hm:=ha.gz RL
  simp[execOp,resolve,ha.ev hx,Deferred.ofValue,invoke,callFunc,h1,BY,uD,Result.andThen,←hm]
 rw[e]
 exact⟨rfl,hc w hw⟩
theorem Eh{f:Fn}{xs:List Operand}{vs:List Value}(hx:gz env xs=some vs):Ry P N w0 env L ⟨d, .makeFunc f #[] xs.toArray,ty,ps,af,gd⟩ (.func f #[] vs.toArray):=fun a w ha _=>by
 have hm:=ha.gz hx
 simp[execOp,Instr.makeFunc,Result.andThen,←hm]
instance (s:Sv):cj (pJ s) 0 s.val:=⟨rfl⟩
instance (s:Sv):cj s.val.cells 0 s.val:=⟨by rw[Sv.iq];rfl⟩
variable {s:Sv} {xs:List Nd} {a:Nd}
end
end Go.aB
namespace Go.Proofs.YtaipiecplldinaaGreat
open Go.aB Go.Kb
open Go.RowKit
instance:eI Tryz.prog 94 (.agg (cY u5)):=⟨by kernel_rfl⟩
instance:eI Tryz.prog 48 (.agg (bI nj)):=⟨by kernel_rfl⟩
instance:eI Tryz.prog 25 (.agg (az fx)):=⟨by kernel_rfl⟩
instance:eI Tryz.prog 5 (.int .u8 0):=⟨by kernel_rfl⟩
instance:eI Tryz.prog 38 (.slice none 0 0):=⟨by kernel_rfl⟩
theorem RM(w:World)(b:Int)(n:Int)(s:Int):Calls Tryz.prog 65 #[.int .i64 b, .int .i64 n, .int .i64 s] w fun e w'=>e= .returned (.bool (nR b n s))∧Mem w [] w':=by
 refine aX (args:=[_,_,_]) Tryz.func65 rfl Tryz.ntmps65 rfl ?_
 change Cw _ _ _ _ _ [(0, .int .i64 b),(1, .int .i64 n),(2, .int .i64 s)] []
 refine Gc ?_
 refine Gs ?_
 refine Gc ?_
 iterate 3 refine Gs ?_
 iterate 2 refine Gg ?_
 iterate 2 refine Gs ?_
 iterate 2 refine Gg ?_
 iterate 2 refine Gs ?_
 iterate 2 refine Gg ?_
 iterate 2 refine Gs ?_
 iterate 2 refine Gg ?_
 iterate 2 refine Gs ?_
 iterate 2 refine Gg ?_
 iterate 2 refine Gs ?_
 refine Gc ?_
 refine aq (.inl rfl) (aG rfl (al rfl)) (fun w1 hw=> ?_)
 exact⟨congrArg (fun b=>Ending.returned (Value.bool b)) (rfl),ai.mem hw⟩
instance adz{w0:World}{L:List aj}{b:Int}{n:Int}{s:Int}:cw Tryz.prog 65 w0 L [.int .i64 b, .int .i64 n, .int .i64 s] (.bool (nR b n s)) (True):=⟨fun hp w hw=>RM w b n s⟩
theorem RN(w:World)(c:Cp)(hc:Deep.aY (hp w) c):Calls Tryz.prog 68 #[.agg (az c)] w fun e w'=>e= .returned (.bool (aW (cv c)))∧Mem w [] w':=by
 have iC:bV w c:=⟨hc⟩
 have dk:=dU c.blocks.xs
 have b0:aW (cv c)=true↔nR c.blocks.xs.length c.ae c.size=true∧0≤c.ops∧c.ops≤c8∧c.aS.xs.length≤64∧ ∀b∈fy c.blocks.xs,k8 c.ae c.size b=true:=by rw[eo];simp only[cv,dk]
 have qQ:c8=1099511627776:=rfl
 refine aX (args:=[_]) Tryz.func68 rfl Tryz.ntmps68 rfl ?_
 change Cw _ _ _ _ _ [(0, .agg (az c))] []
 refine Gc ?_
 refine bR rfl fun b1=> ?_
 refine Gs ?_
 refine Gc ?_
 iterate 10 refine Gs ?_
 iterate 3 refine Gg ?_
 iterate 2 refine Gs ?_
 iterate 3 refine Gg ?_
 iterate 2 refine Gs ?_
 iterate 4 refine Gg ?_
 refine Gs ?_
 refine Gc ?_
 refine au rfl (fun h0=> ?_) (fun h0=> ?_)
 ·
  replace h0:=bz h0
  have hz:aW (cv c)=false:=by
   cases hk:aW (cv c)with
   |false=>rfl
   |true=>
    have g:=b0.1 hk
    rw[g.1]at h0
    simp only[Bool.true_eq_false,false_or]at h0
    omega
  refine Gc ?_
  refine Gs ?_
  refine Gc ?_
  refine aq (.inl rfl) (aG rfl (al rfl)) (fun w1 hw=> ?_)
  exact⟨congrArg (fun b=>Ending.returned (Value.bool b)) (hz.symm),ai.mem hw⟩
 ·
  replace h0:=bz h0
  have g0:nR c.blocks.xs.length c.ae c.size=true∧0≤c.ops∧c.ops≤c8∧c.aS.xs.length≤64:=by
   cases hk:nR c.blocks.xs.length c.ae c.size with
   |false=>rw[hk]at h0;simp at h0
   |true=>rw[hk]at h0;simp only[Bool.true_eq_false,not_false_eq_true,true_and]at h0;exact⟨rfl,by omega,by omega,by omega⟩
  have gs:=jg.1 g0.1
  refine Gc ?_
  iterate 4 refine Gs ?_
  refine Gc ?_
  refine bS (X:=Nat) (fun zz=>[(35, .int .i64 (zz:Nat)),(1, .pointer (some ⟨b1,0,none⟩)),(33,c.blocks.sv.val),(34, .int .i64 (c.blocks.xs.length:Nat))]) (fun zz=>[ar b1 (az c) 25]) (fun zz=>zz≤c.blocks.xs.length∧ ∀j b,j<zz→(fy c.blocks.xs)[j]? =Option.some b→k8 c.ae c.size b=true) (fun zz=>c.blocks.xs.length -zz) 0 ⟨Nat.zero_le _,fun j b hj=>by first|omega|(simp only[];omega)⟩ (Sub.cons rfl (Sub.cons rfl (Sub.cons rfl (Sub.cons rfl (Sub.nil _))))) (fun w hw=>ai.mem hw) ?_
  rintro i ⟨bh,aE⟩
  refine Gc ?_
  refine Gs ?_
  refine Gc ?_
  refine au rfl (fun h1=> ?_) (fun h1=> ?_)
  ·
   replace h1:=bz h1
   iterate 6 refine Gi ?_
   obtain⟨x,hx⟩:=get_some (xs:=c.blocks.xs) (i:=i) (by omega)
   refine ag (bc rfl rfl i rfl (by omega)) ?_
   refine ag (fW rfl i hx rfl) ?_
   have adA:Mb x c.blocks:=⟨List.mem_of_getElem? hx⟩
   refine bH fun b4=> ?_
   refine Gs ?_
   refine Gc ?_
   iterate 7 refine Gs ?_
   iterate 3 refine Gg ?_
   iterate 2 refine Gs ?_
   iterate 5 refine Gg ?_
   iterate 2 refine Gs ?_
   iterate 3 refine Gg ?_
   iterate 2 refine Gs ?_
   iterate 3 refine Gg ?_
   refine Gs ?_
   refine Gc ?_
   refine au rfl (fun h2=> ?_) (fun h2=> ?_)
   ·
    replace h2:=bz h2
    have hz:aW (cv c)=false:=by
     cases hk:aW (cv c)with
     |false=>rfl
     |true=>
      have g:=ez.1 ((b0.1 hk).2.2.2.2 (bv x) (List.mem_of_getElem? (gX hx)))
      simp only[bv,gW]at g
      omega
    refine Gc ?_
    refine Gs ?_
    refine Gc ?_
    refine aq (.inl rfl) (aG rfl (al rfl)) (fun w1 hw=> ?_)
    exact⟨congrArg (fun b=>Ending.returned (Value.bool b)) (hz.symm),ai.mem hw⟩
   ·
    replace h2:=bz h2
    refine Gc ?_
    iterate 4 refine Gs ?_
    refine Gc ?_
    refine bS (X:=Nat) (fun zz=>[(70, .int .i64 (zz:Nat)),(1, .pointer (some ⟨b1,0,none⟩)),(33,c.blocks.sv.val),(34, .int .i64 (c.blocks.xs.length:Nat)),(35, .int .i64 (i:Nat)),(68,x.ae.sv.val),(69, .int .i64 (x.ae.xs.length:Nat))]) (fun zz=>[ar b4 (bI x) 48,ar b1 (az c) 25]) (fun zz=>zz≤x.ae.xs.length∧ ∀k y,k<zz→(bv x).ae[k]? =Option.some y→(y.length:Int)=c.size) (fun zz=>x.ae.xs.length -zz) 0 ⟨Nat.zero_le _,fun k y hk=>by first|omega|(simp only[];omega)⟩ (Sub.cons rfl (Sub.cons rfl (Sub.cons rfl (Sub.cons rfl (Sub.cons rfl (Sub.cons rfl (Sub.cons rfl (Sub.nil _)))))))) (fun w hw=>ai.mem hw) ?_
    rintro j ⟨iY,dt⟩
    refine Gc ?_
    refine Gs ?_
    refine Gc ?_
    refine au rfl (fun h3=> ?_) (fun h3=> ?_)
    ·
     replace h3:=bz h3
     iterate 6 refine Gi ?_
     obtain⟨y,hy⟩:=get_some (xs:=x.ae.xs) (i:=j) (by omega)
     refine ag (bc rfl rfl j rfl (by omega)) ?_
     refine ag (bF (j:=0) rfl j hy rfl (by decide)) ?_
     have adB:Mb y _:=⟨List.mem_of_getElem? hy⟩
     refine Gs ?_
     refine Gc ?_
     iterate 5 refine Gs ?_
     refine Gc ?_
     refine au rfl (fun h4=> ?_) (fun h4=> ?_)
     ·
      replace h4:=bz h4
      have hz:aW (cv c)=false:=by
       cases hk:aW (cv c)with
       |false=>rfl
       |true=>
        have g:=(ez.1 ((b0.1 hk).2.2.2.2 (bv x) (List.mem_of_getElem? (gX hx)))).2.2.2.2.2 y.xs (List.mem_of_getElem? (jr hy))
        omega
      refine Gc ?_
      refine Gs ?_
      refine Gc ?_
      refine aq (.inl rfl) (aG rfl (al rfl)) (fun w1 hw=> ?_)
      exact⟨congrArg (fun b=>Ending.returned (Value.bool b)) (hz.symm),ai.mem hw⟩
     ·
      replace h4:=bz h4
      refine Gc ?_
      iterate 2 refine Gs ?_
      refine Gi ?_
      exact bu (x:=(j)) (j+1) ⟨by first|omega|(simp only[];omega),fun k z hk hz=>if e:k=j then(by subst e;rw[show(bv x).ae=aI x.ae.xs from rfl,jr hy]at hz;cases hz;omega)else dt k z (by first|omega|(simp only[];omega)) hz⟩ (by first|omega|(simp only[];omega)) (Sub.cons rfl (Sub.cons rfl (Sub.cons rfl (Sub.cons rfl (Sub.cons rfl (Sub.cons rfl (Sub.cons rfl (Sub.nil _)))))))) (fun w hw=>ai.mem hw)
    ·
     replace h3:=bz h3
     have nZ:k8 c.ae c.size (bv x)=true:=ez.2 ⟨by simp only[bv,gW];omega,by simp only[bv];omega,by simp only[bv];omega,by simp only[bv];omega,by simp only[bv];omega,fun y hy=>by
      obtain⟨k,hk⟩:=List.getElem?_of_mem hy
      exact dt k y (by have h:=(List.getElem?_eq_some_iff.1 hk).1;simp only[bv,gW]at h;omega) hk⟩
     refine Gc ?_
     iterate 2 refine Gs ?_
     refine Gi ?_
     exact bu (x:=(i)) (i+1) ⟨by first|omega|(simp only[];omega),fun j b hj hb=>if e:j=i then(by subst e;rw[gX hx]at hb;cases hb;exact nZ)else aE j b (by first|omega|(simp only[];omega)) hb⟩ (by first|omega|(simp only[];omega)) (Sub.cons rfl (Sub.cons rfl (Sub.cons rfl (Sub.cons rfl (Sub.nil _))))) (fun w hw=>ai.mem hw)
  ·
   replace h1:=bz h1
   obtain rfl:i=c.blocks.xs.length:=by omega
   have hz:aW (cv c)=true:=b0.2 ⟨g0.1,g0.2.1,g0.2.2.1,g0.2.2.2,fun b hb=>by
    obtain⟨j,hj⟩:=List.getElem?_of_mem hb
    exact aE j b (by have:=(List.getElem?_eq_some_iff.1 hj).1;omega) hj⟩
   refine Gc ?_
   refine Gs ?_
   refine Gc ?_
   refine aq (.inl rfl) (aG rfl (al rfl)) (fun w1 hw=> ?_)
   exact⟨congrArg (fun b=>Ending.returned (Value.bool b)) (hz.symm),ai.mem hw⟩
instance adC{w0:World}{L:List aj}{c:Cp}[hc:aT w0 L c]:cw Tryz.prog 68 w0 L [.agg (az c)] (.bool (aW (cv c))) (True):=⟨fun hp w hw=>RN w c (hc.h w hw)⟩
open Go.aB Go.Kb
open Go.RowKit
theorem RO{xs:List UInt8}{k i:Nat}(h:k+i<xs.length):(xs.take k++(List.replicate i 255++xs.drop (k+i))).set (k+i) 255=xs.take k++(List.replicate (i+1) 255++xs.drop (k+(i+1))):=by
 rw[List.set_append_right _ _ (by rw[List.length_take];omega),List.length_take,Nat.min_eq_left (by omega),Nat.add_sub_cancel_left,List.set_append_right _ _ (by simp),List.length_replicate,Nat.sub_self,List.drop_eq_getElem_cons h,List.set_cons_zero,List.replicate_succ',List.append_assoc,List.singleton_append,Nat.add_assoc]
theorem RP(w0 w:World)(L:List aj)(rm:Sv)(k:Nat)(n:Nat)(cap:Nat)(xs:List UInt8)(hw:Mem w0 (own aM 1 rm xs::L) w)(ba:k+n≤xs.length∧n≤1000000):Calls Tryz.prog 66 #[.slice (some ⟨rm.b,rm.o+k,none⟩) n cap] w fun e w'=> ∃zz:Unit,e= .returned (.tuple #[])∧(True)∧Mem w0 (own aM 1 rm (xs.take k++(List.replicate n 255++xs.drop (k+n)))::L) w':=by
 obtain⟨kQ,kg⟩:=ba
 refine jL (args:=[_]) Tryz.func66 rfl Tryz.ntmps66 rfl hw ?_
 change Cw _ _ _ _ _ [(0, .slice (some ⟨rm.b,rm.o+k,none⟩) n cap)] (own aM 1 rm xs::L)
 refine Gc ?_
 refine Gs ?_
 refine ag (sW rfl) ?_
 refine Gs ?_
 refine Gc ?_
 refine bS (X:=Nat×List UInt8) (fun zz=>[(5, .int .i64 (zz.1:Nat)),(0, .slice (some ⟨rm.b,rm.o+k,none⟩) n cap),(4, .int .i64 (n:Nat))]) (fun zz=>own aM 1 rm zz.2::L) (fun zz=>zz.1≤n∧zz.2=xs.take k++(List.replicate zz.1 255++xs.drop (k+zz.1))) (fun zz=>n -zz.1) (0,xs) ⟨Nat.zero_le _,by simp⟩ (Sub.cons rfl (Sub.cons rfl (Sub.cons rfl (Sub.nil _)))) (fun w hw=>ai.mem hw) ?_
 rintro⟨i,zs⟩ ⟨bh,aE⟩
 dsimp only
 simp only at bh aE
 have sf:zs.length=xs.length:=by rw[aE];simp only[List.length_append,List.length_take,List.length_replicate,List.length_drop];omega
 refine Gc ?_
 refine Gs ?_
 refine Gc ?_
 refine au rfl (fun h0=> ?_) (fun h0=> ?_)
 ·
  replace h0:=bz h0
  refine Gc ?_
  iterate 2 refine Gs ?_
  refine Gc ?_
  iterate 2 refine Gs ?_
  refine ag (Gk (b:=rm.b) (o:=rm.o+k) (len:=n) (cap:=cap) rfl rfl (by omega) (by omega)) ?_
  obtain⟨z,hz⟩:=get_some (xs:=zs) (i:=k+i) (by omega)
  refine jX (s:=rm) (n:=1) (k:=k+i) (j:=0) (a:=z) (a':=(255:UInt8)) (xs:=zs) (enc:=aM) (c:=1) (v:= .int .u8 255) (by kernel_rfl) rfl rfl (by omega) hz (by simp[Value.cells,Value.oneCell']) rfl (by omega) (by rfl) ?_
  refine Gc ?_
  iterate 2 refine Gs ?_
  refine Gi ?_
  exact bu (x:=(i,zs)) (i+1,zs.set (k+i) 255) ⟨by first|omega|(simp only[];omega),by rw[aE];exact RO (by first|omega|(simp only[];omega))⟩ (by simp only;omega) (Sub.cons rfl (Sub.cons rfl (Sub.cons rfl (Sub.nil _)))) (fun w hw=>ai.mem hw)
 ·
  replace h0:=bz h0
  obtain rfl:i=n:=by omega
  refine Gc ?_
  refine aq (.inr rfl) (Ec rfl) (fun w1 hw=> ?_)
  exact⟨(),rfl,trivial,by rw[←aE];exact ai.mem hw⟩
instance RQ{w0:World}{L L2:List aj}{i:Nat}{rm:Sv}{k:Nat}{n:Nat}{cap:Nat}{xs:List UInt8}[q:eY L rm aM 1 xs i][d1:df L i L2]:cc Tryz.prog 66 w0 L [.slice (some ⟨rm.b,rm.o+k,none⟩) n cap] (Unit) (fun zz=> .tuple #[]) (fun zz=>own aM 1 rm (xs.take k++(List.replicate n 255++xs.drop (k+n)))::L2) (fun zz=>True) (k+n≤xs.length∧n≤1000000):=⟨fun hp w hw=>RP w0 w L2 rm k n cap xs (Eg q.h d1.h hw) hp⟩
theorem RR(w:World)(s:Sv)(ss:List Bk)(hs:bP bI 4 (hp w) s ss)(ba:ss.length≤1000000):Calls Tryz.prog 107 #[s.val] w fun e w'=> ∃zz:Sv,e= .returned (zz.val)∧(True)∧Mem w [own bI 4 zz ss] w':=by
 have tY:Gv w s bI 4 ss:=⟨hs⟩
 refine aX (args:=[_]) Tryz.func107 rfl Tryz.ntmps107 rfl ?_
 change Cw _ _ _ _ _ [(0,s.val)] []
 refine Gc ?_
 refine Gs ?_
 refine Gc ?_
 refine Gs ?_
 refine ag (qC Tryz.underlying22 rfl) ?_
 refine Gc ?_
 refine au rfl (fun h0=> ?_) (fun h0=> ?_)
 ·
  replace h0:=bz h0
  have e0:ss=[]:=List.length_eq_zero_iff.1 (by have:=hs.ok.nil h0;have:=hs.len;omega)
  refine Gc ?_
  refine Gs ?_
  refine Gc ?_
  refine aq (.inl rfl) (aG rfl (al rfl)) (fun w1 hw=> ?_)
  exact⟨Sv.none,rfl,trivial,by rw[e0];exact(ai.mem hw:Mem w [] _).dA bI 4⟩
 ·
  replace h0:=bz h0
  refine Gc ?_
  refine rM bI fun b5=> ?_
  refine Gs ?_
  refine kY (s:=⟨false,b5,0,0,0,none⟩) (enc:=bI) (ys:=ss) rfl rfl (by decide) (fun w hw=>jW (s:=s) Tryz.underlying22 (by decide) ((inferInstance:cO _ _ bI 4 s ss).h w hw)) (by simp only[List.length_nil];omega) (by simp only[List.length_nil];omega) fun s7 tZ sg=> ?_
  refine Gs ?_
  refine Gc ?_
  refine aq (.inl rfl) (aG rfl (al rfl)) (fun w1 hw=> ?_)
  exact⟨s7,rfl,trivial,by rw[List.nil_append]at hw;exact ai.mem hw⟩
instance adD{w0:World}{L:List aj}{s:Sv}{ss:List Bk}[hs:cO w0 L bI 4 s ss]:cc Tryz.prog 107 w0 L [s.val] (Sv) (fun zz=>zz.val) (fun zz=>own bI 4 zz ss::L) (fun zz=>True) (ss.length≤1000000):=⟨fun hp w hw=>(RR w s ss (hs.h w hw) hp).mono fun e w' ⟨x,h1,h2,h3⟩=>⟨x,h1,h2,hw.call h3⟩⟩
theorem RS(w:World)(s:Sv)(ss:List Ft)(hs:bP cY 4 (hp w) s ss)(ba:ss.length≤1000000):Calls Tryz.prog 69 #[s.val] w fun e w'=> ∃zz:Sv,e= .returned (zz.val)∧(True)∧Mem w [own cY 4 zz ss] w':=by
 have tY:Gv w s cY 4 ss:=⟨hs⟩
 refine aX (args:=[_]) Tryz.func69 rfl Tryz.ntmps69 rfl ?_
 change Cw _ _ _ _ _ [(0,s.val)] []
 refine Gc ?_
 refine Gs ?_
 refine Gc ?_
 refine Gs ?_
 refine ag (qC Tryz.underlying23 rfl) ?_
 refine Gc ?_
 refine au rfl (fun h0=> ?_) (fun h0=> ?_)
 ·
  replace h0:=bz h0
  have e0:ss=[]:=List.length_eq_zero_iff.1 (by have:=hs.ok.nil h0;have:=hs.len;omega)
  refine Gc ?_
  refine Gs ?_
  refine Gc ?_
  refine aq (.inl rfl) (aG rfl (al rfl)) (fun w1 hw=> ?_)
  exact⟨Sv.none,rfl,trivial,by rw[e0];exact(ai.mem hw:Mem w [] _).dA cY 4⟩
 ·
  replace h0:=bz h0
  refine Gc ?_
  refine rM cY fun b5=> ?_
  refine Gs ?_
  refine kY (s:=⟨false,b5,0,0,0,none⟩) (enc:=cY) (ys:=ss) rfl rfl (by decide) (fun w hw=>jW (s:=s) Tryz.underlying23 (by decide) ((inferInstance:cO _ _ cY 4 s ss).h w hw)) (by simp only[List.length_nil];omega) (by simp only[List.length_nil];omega) fun s7 tZ sg=> ?_
  refine Gs ?_
  refine Gc ?_
  refine aq (.inl rfl) (aG rfl (al rfl)) (fun w1 hw=> ?_)
  exact⟨s7,rfl,trivial,by rw[List.nil_append]at hw;exact ai.mem hw⟩
instance adE{w0:World}{L:List aj}{s:Sv}{ss:List Ft}[hs:cO w0 L cY 4 s ss]:cc Tryz.prog 69 w0 L [s.val] (Sv) (fun zz=>zz.val) (fun zz=>own cY 4 zz ss::L) (fun zz=>True) (ss.length≤1000000):=⟨fun hp w hw=>(RS w s ss (hs.h w hw) hp).mono fun e w' ⟨x,h1,h2,h3⟩=>⟨x,h1,h2,hw.call h3⟩⟩
theorem RT(w:World)(ps:Sl (Sl UInt8))(yc:Deep.aY (hp w) ps)(ba:C2 (aI ps.xs)):Calls Tryz.prog 108 #[ps.sv.val] w fun e w'=> ∃zz:Sl (Sl UInt8),e= .returned (zz.sv.val)∧(aI zz.xs=aI ps.xs)∧Mem w [ei zz] w':=by
 have adF:bV w ps:=⟨yc⟩
 obtain⟨kQ,kg⟩:=ba
 have bZ:=gW ps.xs
 rw[bZ]at kQ
 refine aX (args:=[_]) Tryz.func108 rfl Tryz.ntmps108 rfl ?_
 change Cw _ _ _ _ _ [(0,ps.sv.val)] []
 refine Gc ?_
 refine Gs ?_
 refine Gc ?_
 refine Gs ?_
 refine ag (qC Tryz.underlying46 rfl) ?_
 refine Gc ?_
 refine au rfl (fun h0=> ?_) (fun h0=> ?_)
 ·
  replace h0:=bz h0
  have e0:ps.xs=[]:=List.length_eq_zero_iff.1 (by have:=yc.1.ok.nil h0;have:=yc.1.len;omega)
  refine Gc ?_
  refine Gs ?_
  refine Gc ?_
  refine aq (.inl rfl) (aG rfl (al rfl)) (fun w1 hw=> ?_)
  exact⟨⟨Sv.none,[]⟩,rfl,by rw[e0],Ps (Mem.dA (bT (τ:=UInt8)) 1 (ai.mem hw:Mem w [] _))⟩
 ·
  replace h0:=bz h0
  refine Gc ?_
  refine Gs ?_
  refine Gc ?_
  iterate 3 refine Gs ?_
  refine Gc ?_
  refine bS (X:=Nat×Nat) (fun zz=>[(15, .int .i64 (zz.1:Nat)),(3, .int .i64 (zz.2:Nat)),(0,ps.sv.val),(13,ps.sv.val),(14, .int .i64 (ps.xs.length:Nat))]) (fun zz=>[]) (fun zz=>zz.1≤ps.xs.length∧zz.2=((aI ps.xs).take zz.1).flatten.length) (fun zz=>ps.xs.length -zz.1) (0,0) ⟨Nat.zero_le _,by simp⟩ (Sub.cons rfl (Sub.cons rfl (Sub.cons rfl (Sub.cons rfl (Sub.cons rfl (Sub.nil _)))))) (fun w hw=>ai.mem hw) ?_
  rintro⟨i,mm⟩ ⟨bh,aE⟩
  dsimp only
  simp only at bh aE
  refine Gc ?_
  refine Gs ?_
  refine Gc ?_
  refine au rfl (fun h1=> ?_) (fun h1=> ?_)
  ·
   replace h1:=bz h1
   obtain⟨y,hy⟩:=get_some (xs:=ps.xs) (i:=i) (by omega)
   have Ka:Mb y ps:=⟨List.mem_of_getElem? hy⟩
   have vM:=xE (jr hy)
   have ib:=xF (aI ps.xs) (i+1)
   refine Gc ?_
   refine ag (bc rfl rfl i rfl (by omega)) ?_
   refine ag (bF (j:=0) rfl i hy rfl (by decide)) ?_
   have adG:Mb y _:=⟨List.mem_of_getElem? hy⟩
   refine Gs ?_
   refine Gc ?_
   iterate 5 refine Gs ?_
   refine Gc ?_
   iterate 2 refine Gs ?_
   refine Gi ?_
   exact bu (x:=(i,mm)) (i+1,mm+y.xs.length) ⟨by first|omega|(simp only[];omega),by rw[aE,vM]⟩ (by simp only;omega) (Sub.cons rfl (Sub.cons rfl (Sub.cons rfl (Sub.cons rfl (Sub.cons rfl (Sub.nil _)))))) (fun w hw=>ai.mem hw)
  ·
   replace h1:=bz h1
   obtain rfl:i=ps.xs.length:=by omega
   rw[List.take_of_length_le (by omega)]at aE
   have hN:mm=(aI ps.xs).flatten.length:=aE
   refine Gc ?_
   refine Gs ?_
   refine rK (enc:=aM) (n:=0) (cap:=mm) 0 rfl rfl rfl rfl rfl (by omega) (by omega) (by omega) fun sh=> ?_
   refine Gs ?_
   refine Gc ?_
   iterate 2 refine Gs ?_
   refine rK (enc:=bT (τ:=UInt8)) (n:=ps.xs.length) (cap:=ps.xs.length) (⟨Sv.none,[]⟩:Sl UInt8) rfl rfl rfl rfl rfl (by omega) (by omega) (by omega) fun AV=> ?_
   refine Gs ?_
   refine Gc ?_
   iterate 3 refine Gs ?_
   refine Gc ?_
   refine bS (X:=Nat×Nat×List UInt8×List (Sl UInt8)) (fun zz=>[(31, .int .i64 (zz.1:Nat)),(6,(⟨false,sh,0,zz.2.1,mm,none⟩:Sv).val),(7,(⟨false,AV,0,ps.xs.length,ps.xs.length,none⟩:Sv).val),(29,ps.sv.val),(30, .int .i64 (ps.xs.length:Nat))]) (fun zz=>[own aM 1 ⟨false,sh,0,zz.2.1,mm,none⟩ zz.2.2.1,own (bT (τ:=UInt8)) 1 ⟨false,AV,0,ps.xs.length,ps.xs.length,none⟩ zz.2.2.2]) (fun zz=>zz.1≤ps.xs.length∧zz.2.1=zz.2.2.1.length∧zz.2.2.1=((aI ps.xs).take zz.1).flatten∧zz.2.2.2=c6 ⟨false,sh,0,mm,mm,none⟩ 0 ((aI ps.xs).take zz.1)++List.replicate (ps.xs.length -zz.1) (⟨Sv.none,[]⟩:Sl UInt8)) (fun zz=>ps.xs.length -zz.1) (0,0,List.replicate 0 0,List.replicate ps.xs.length (⟨Sv.none,[]⟩:Sl UInt8)) ⟨Nat.zero_le _,rfl,by simp,by simp[c6]⟩ (Sub.cons rfl (Sub.cons rfl (Sub.cons rfl (Sub.cons rfl (Sub.cons rfl (Sub.nil _)))))) (fun w hw=>ai.mem hw) ?_
   rintro⟨i,m,r,zs⟩ ⟨bh,aE,bB,cK⟩
   dsimp only
   simp only at bh aE bB cK
   refine Gc ?_
   refine Gs ?_
   refine Gc ?_
   refine au rfl (fun h2=> ?_) (fun h2=> ?_)
   ·
    replace h2:=bz h2
    obtain⟨y,hy⟩:=get_some (xs:=ps.xs) (i:=i) (by omega)
    have Ka:Mb y ps:=⟨List.mem_of_getElem? hy⟩
    have vM:=xE (jr hy)
    have ib:=xF (aI ps.xs) (i+1)
    have si:r.length+y.xs.length≤mm:=by rw[hN,bB,←vM];exact ib
    have sj:=get_some (xs:=zs) (i:=i) (by rw[cK,List.length_append,CZ,List.length_take,List.length_replicate];omega)
    obtain⟨z,hz⟩:=sj
    have sf:i<zs.length:=(List.getElem?_eq_some_iff.1 hz).1
    refine Gc ?_
    refine Gs ?_
    refine ag (bc rfl rfl i rfl (by omega)) ?_
    refine ag (bF (j:=0) rfl i hy rfl (by decide)) ?_
    have adH:Mb y _:=⟨List.mem_of_getElem? hy⟩
    iterate 2 refine Gs ?_
    refine Gc ?_
    iterate 3 refine Gs ?_
    refine Gc ?_
    iterate 2 refine Gs ?_
    refine Pq (s:=⟨false,sh,0,m,mm,none⟩) (enc:=aM) (xs:=r) (ys:=y.xs) rfl rfl (fun w hw=>jW (s:=y.sv) Tryz.underlying38 (by decide) ((inferInstance:cO _ _ aM 1 y.sv y.xs).h w hw)) rfl (by simp only;omega) (by simp only;omega) ?_
    refine Gs ?_
    refine Gc ?_
    iterate 8 refine Gs ?_
    refine ag (Ry.to (v':=(eZ (⟨false,sh,0,mm,mm,none⟩:Sv) r.length (r.length+y.xs.length)).val) (HE (l:=r.length) (h:=(r++y.xs).length) (m:=(r++y.xs).length) rfl rfl rfl rfl rfl rfl rfl (by simp) (by simp) (by simp)) (by simp[eZ,Sv.sub,Sv.top])) ?_
    refine ag (bc rfl rfl i rfl (by omega)) ?_
    refine zB (s:=⟨false,AV,0,ps.xs.length,ps.xs.length,none⟩) (xs:=zs) (k:=i) (a:=z) (⟨(eZ (⟨false,sh,0,mm,mm,none⟩:Sv) r.length (r.length+y.xs.length)),y.xs⟩:Sl UInt8) (by kernel_rfl) rfl rfl (by omega) hz ?_
    refine Gc ?_
    iterate 2 refine Gs ?_
    refine Gi ?_
    exact bu (x:=(i,m,r,zs)) (i+1,m+y.xs.length,r++y.xs,zs.set i ⟨(eZ (⟨false,sh,0,mm,mm,none⟩:Sv) r.length (r.length+y.xs.length)),y.xs⟩) ⟨by first|omega|(simp only[];omega),by rw[List.length_append,aE],by rw[bB,List.take_add_one,jr hy];simp,by rw[cK];exact Pu (by rw[bZ]) bB (jr hy)⟩ (by simp only;omega) (Sub.cons rfl (Sub.cons rfl (Sub.cons rfl (Sub.cons rfl (Sub.cons rfl (Sub.nil _)))))) (fun w hw=>ai.mem hw)
   ·
    replace h2:=bz h2
    obtain rfl:i=ps.xs.length:=by omega
    rw[List.take_of_length_le (by omega)]at bB cK
    rw[Nat.sub_self,List.replicate_zero,List.append_nil]at cK
    refine Gc ?_
    iterate 2 refine Gs ?_
    refine Gc ?_
    refine aq (.inl rfl) (aG rfl (al rfl)) (fun w1 hw=> ?_)
    exact⟨⟨⟨false,AV,0,ps.xs.length,ps.xs.length,none⟩,zs⟩,rfl,by rw[cK,rT],HT (rm:=⟨false,sh,0,mm,mm,none⟩) cK rfl (by rw[show m=mm by rw[aE,bB,hN],bB]at hw;exact ai.mem hw)⟩
instance adI{w0:World}{L:List aj}{ps:Sl (Sl UInt8)}[yc:aT w0 L ps]:cc Tryz.prog 108 w0 L [ps.sv.val] (Sl (Sl UInt8)) (fun zz=>zz.sv.val) (fun zz=>ei zz::L) (fun zz=>aI zz.xs=aI ps.xs) (C2 (aI ps.xs)):=⟨fun hp w hw=>(RT w ps (yc.h w hw) hp).mono fun e w' ⟨x,h1,h2,h3⟩=>⟨x,h1,h2,hw.call h3⟩⟩
open Go.aB Go.Kb
open Go.RowKit
theorem RU(w:World)(c:Cp)(hc:Deep.aY (hp w) c)(ba:dC c):Calls Tryz.prog 67 #[.agg (az c)] w fun e w'=> ∃zz:Cp,e= .returned (.agg (az zz))∧(cv zz=cv c)∧Mem w [own bI 4 zz.blocks.sv zz.blocks.xs,aj.all (zz.blocks.xs.map fun b:Bk=>ei b.ae),own cY 4 zz.aS.sv zz.aS.xs] w':=by
 have iC:bV w c:=⟨hc⟩
 obtain⟨kQ,kg,ny⟩:=ba
 refine aX (args:=[_]) Tryz.func67 rfl Tryz.ntmps67 rfl ?_
 change Cw _ _ _ _ _ [(0, .agg (az c))] []
 refine Gc ?_
 refine bR rfl fun b1=> ?_
 refine bH fun b2=> ?_
 refine Gc ?_
 iterate 2 refine Gs ?_
 refine bn rfl (by omega) fun x6 Kc=> ?_
 refine Gs ?_
 refine dS (cs':=az (⟨c.ae,c.size,⟨x6,c.blocks.xs⟩,c.ops,c.off,c.aS⟩:Cp)) rfl rfl (by show 2<6;decide) (by first|rfl|exact Sv.one _) rfl ?_
 refine Gc ?_
 iterate 4 refine Gs ?_
 refine Gc ?_
 refine bS (X:=Nat×List Bk) (fun zz=>[(11, .int .i64 (zz.1:Nat)),(1, .pointer (some ⟨b1,0,none⟩)),(2, .pointer (some ⟨b2,0,none⟩)),(10, .int .i64 (c.blocks.xs.length:Nat))]) (fun zz=>[own bI 4 x6 zz.2,aj.all ((zz.2.take zz.1).map fun b:Bk=>ei b.ae),ar b2 (az fx) 25,ar b1 (az (⟨c.ae,c.size,⟨x6,zz.2⟩,c.ops,c.off,c.aS⟩:Cp)) 25]) (fun zz=>zz.1≤c.blocks.xs.length∧zz.2.length=c.blocks.xs.length∧fy zz.2=fy c.blocks.xs∧ ∀j,zz.1≤j→zz.2[j]? =c.blocks.xs[j]?) (fun zz=>c.blocks.xs.length -zz.1) (0,c.blocks.xs) ⟨Nat.zero_le _,rfl,rfl,fun _ _=>rfl⟩ (Sub.cons rfl (Sub.cons rfl (Sub.cons rfl (Sub.cons rfl (Sub.nil _))))) (fun w hw=>by
  simp only[List.take_zero,List.map_nil];exact ai.mem (Mem.tz hw)) ?_
 rintro⟨i,zs⟩ ⟨bh,aE,bB,cK⟩
 dsimp only
 simp only at bh aE bB cK
 refine Gc ?_
 refine Gs ?_
 refine Gc ?_
 refine au rfl (fun h0=> ?_) (fun h0=> ?_)
 ·
  replace h0:=bz h0
  obtain⟨z,hz⟩:=get_some (xs:=zs) (i:=i) (by omega)
  have sk:Mb z c.blocks:=⟨List.mem_of_getElem? (by rw[←cK i (Nat.le_refl _)];exact hz)⟩
  refine Gc ?_
  iterate 2 refine Gs ?_
  iterate 2 refine Gi ?_
  refine zV (s:=x6) (enc:=bI) (c:=4) (xs:=zs) inferInstance (by omega) fun hn6 hs6 RW RX=> ?_
  refine iK [9,12,1003,1004,1006,1007,1008,1010,1011] [[],[],[],[],[3],[],[3,4],[3,4,6],[3,4,6,7],[3,4,6,7,8],[3,4,6,7,8,9],[3,4,6,7,8,9,10],[3,4,6,7,8,9,10,11]] [0,1,2,3,4,5,6,7,8,9,10,11,12] [ar b1 (az (⟨c.ae,c.size,⟨x6,zs⟩,c.ops,c.off,c.aS⟩:Cp)) 25] (fun _ hw=>ai.mem hw) (by kernel_rfl) (by kernel_rfl) ?_
  refine an rfl (aH (o':=2) rfl rfl) ?_
  refine an rfl (bG rfl) ?_
  refine an rfl (aC rfl) ?_
  refine jN rfl (aH (o':=2) rfl rfl) ?_
  refine jN rfl (bG rfl) ?_
  refine an rfl (aC rfl) ?_
  refine jN rfl (bc rfl rfl i rfl (by omega)) ?_
  refine jN rfl (aH rfl rfl) ?_
  refine jN rfl (bF (j:=0) rfl i hz rfl (by decide)) ?_
  refine dr rfl (mD rfl (ny z sk.h) fun ln AW=>⟨fun _ hw=>ai.mem hw,?_⟩)
  refine jN rfl (kH (s:=x6) (i:=i) rfl rfl rfl RW (by omega)) ?_
  refine jN rfl (aH rfl rfl) ?_
  refine dr rfl (tt (n:=1) (k:=i) (j:=0) (a:=z) (a':=({z with ae:=ln}:Bk)) (xs:=zs) (enc:=bI) (c:=4) (v:=ln.sv.val) (by kernel_rfl) rfl rfl rfl hz (by rw[Sv.iq];simp[Sv.one]) (by rw[Sv.iq];rfl) (by decide) (by rw[Sv.iq];rfl) ⟨fun _ hw=>ai.mem hw,?_⟩)
  refine Gc ?_
  iterate 2 refine Gs ?_
  refine Gi ?_
  exact bu (x:=(i,zs)) (i+1,zs.set i ({z with ae:=ln}:Bk)) ⟨by first|omega|(simp only[];omega),by rw[List.length_set];exact aE,by rw[tD,←bB,show bv ({z with ae:=ln}:Bk)=bv z from by rw[bv,bv,AW],←tD,tC hz],fun j hj=>by rw[List.getElem?_set_ne (by first|omega|(simp only[];omega))];exact cK j (by first|omega|(simp only[];omega))⟩ (by simp only;omega) (Sub.cons rfl (Sub.cons rfl (Sub.cons rfl (Sub.cons rfl (Sub.nil _))))) (fun w hw=>by
   have h1:=Mem.va (e:=ei ln) (es:=(zs.take i).map fun b:Bk=>ei b.ae) (ai.mem hw:Mem _ (ei ln::aj.all ((zs.take i).map fun b:Bk=>ei b.ae)::[own bI 4 x6 (zs.set i ({z with ae:=ln}:Bk)),ar b2 (az fx) 25,ar b1 (az (⟨c.ae,c.size,⟨x6,zs⟩,c.ops,c.off,c.aS⟩:Cp)) 25]) _)
   rw[PC (z':=({z with ae:=ln}:Bk)) hz]at h1
   exact(ai.mem h1:Mem _ [own bI 4 x6 (zs.set i ({z with ae:=ln}:Bk)),aj.all (((zs.set i ({z with ae:=ln}:Bk)).take (i+1)).map fun b:Bk=>ei b.ae),ar b2 (az fx) 25,ar b1 (az (⟨c.ae,c.size,⟨x6,zs⟩,c.ops,c.off,c.aS⟩:Cp)) 25] _))
 ·
  replace h0:=bz h0
  obtain rfl:i=zs.length:=by omega
  rw[List.take_of_length_le (Nat.le_refl _)]at*
  refine Gc ?_
  refine Gs ?_
  refine ag (Ry.to (v':=c.aS.sv.val) (bG rfl) rfl) ?_
  refine bn rfl (by omega) fun vN Ei=> ?_
  refine Gs ?_
  refine dS (cs':=az (⟨c.ae,c.size,⟨x6,zs⟩,c.ops,c.off,⟨vN,c.aS.xs⟩⟩:Cp)) rfl rfl (by show 5<6;decide) (by first|rfl|exact Sv.one _) rfl ?_
  refine Gc ?_
  iterate 2 refine Gs ?_
  refine Gc ?_
  refine aq (.inl rfl) (aG rfl (bX rfl)) (fun w1 hw=> ?_)
  exact⟨⟨c.ae,c.size,⟨x6,zs⟩,c.ops,c.off,⟨vN,c.aS.xs⟩⟩,rfl,by simp only[cv,bB],ai.mem hw⟩
instance adJ{w0:World}{L:List aj}{c:Cp}[hc:aT w0 L c]:cc Tryz.prog 67 w0 L [.agg (az c)] (Cp) (fun zz=> .agg (az zz)) (fun zz=>own bI 4 zz.blocks.sv zz.blocks.xs::aj.all (zz.blocks.xs.map fun b:Bk=>ei b.ae)::own cY 4 zz.aS.sv zz.aS.xs::L) (fun zz=>cv zz=cv c) (dC c):=⟨fun hp w hw=>(RU w c (hc.h w hw) hp).mono fun e w' ⟨x,h1,h2,h3⟩=>⟨x,h1,h2,hw.call h3⟩⟩
theorem RY(w:World)(c:Cp)(b:Int)(hc:Deep.aY (hp w) c):Calls Tryz.prog 159 #[.agg (az c), .int .i64 b] w fun e w'=>e= .returned (.bool (gG (cv c) b))∧Mem w [] w':=by
 have iC:bV w c:=⟨hc⟩
 refine aX (args:=[_,_]) Tryz.func159 rfl Tryz.ntmps159 rfl ?_
 change Cw _ _ _ _ _ [(0, .agg (az c)),(1, .int .i64 b)] []
 refine Gc ?_
 refine bR rfl fun b2=> ?_
 refine Gs ?_
 refine Gc ?_
 iterate 3 refine Gs ?_
 iterate 2 refine Gg ?_
 iterate 2 refine Gs ?_
 iterate 5 refine Gg ?_
 iterate 2 refine Gs ?_
 refine Gc ?_
 refine aq (.inl rfl) (aG rfl (al rfl)) (fun w1 hw=> ?_)
 exact⟨congrArg (fun b=>Ending.returned (Value.bool b)) ((by simp only[gG,cv,dU])),ai.mem hw⟩
instance adK{w0:World}{L:List aj}{c:Cp}{b:Int}[hc:aT w0 L c]:cw Tryz.prog 159 w0 L [.agg (az c), .int .i64 b] (.bool (gG (cv c) b)) (True):=⟨fun hp w hw=>RY w c b (hc.h w hw)⟩
theorem RZ(w:World)(c:Cp)(hc:Deep.aY (hp w) c)(ba:c.aS.xs.length≤1000000):Calls Tryz.prog 160 #[.agg (az c)] w fun e w'=>e= .returned (.tuple #[.agg (cY ((bw (cv c)).1)), .bool ((bw (cv c)).2)])∧Mem w [] w':=by
 have iC:bV w c:=⟨hc⟩
 refine aX (args:=[_]) Tryz.func160 rfl Tryz.ntmps160 rfl ?_
 change Cw _ _ _ _ _ [(0, .agg (az c))] []
 refine Gc ?_
 refine bR rfl fun b1=> ?_
 refine bH fun b2=> ?_
 refine Gs ?_
 refine Gc ?_
 iterate 4 refine Gs ?_
 refine Gc ?_
 refine bS (X:=Nat) (fun zz=>[(9, .int .i64 (zz:Nat)),(1, .pointer (some ⟨b1,0,none⟩)),(2, .pointer (some ⟨b2,0,none⟩)),(7,c.aS.sv.val),(8, .int .i64 (c.aS.xs.length:Nat))]) (fun zz=>[ar b2 (cY u5) 94,ar b1 (az c) 25]) (fun zz=>zz≤c.aS.xs.length∧ ∀j f,j<zz→c.aS.xs[j]? =Option.some f→f.op≠c.ops) (fun zz=>c.aS.xs.length -zz) 0 ⟨Nat.zero_le _,fun j f hj=>by first|omega|(simp only[];omega)⟩ (Sub.cons rfl (Sub.cons rfl (Sub.cons rfl (Sub.cons rfl (Sub.cons rfl (Sub.nil _)))))) (fun w hw=>ai.mem hw) ?_
 rintro i ⟨bh,aE⟩
 refine Gc ?_
 refine Gs ?_
 refine Gc ?_
 refine au rfl (fun h0=> ?_) (fun h0=> ?_)
 ·
  replace h0:=bz h0
  iterate 6 refine Gi ?_
  obtain⟨f,hf⟩:=get_some (xs:=c.aS.xs) (i:=i) (by omega)
  refine ag (bc rfl rfl i rfl (by omega)) ?_
  refine ag (fW rfl i hf rfl) ?_
  refine bH fun b5=> ?_
  refine Gs ?_
  refine Gc ?_
  iterate 5 refine Gs ?_
  refine Gc ?_
  refine au rfl (fun h1=> ?_) (fun h1=> ?_)
  ·
   replace h1:=bz h1
   have hs:bw (cv c)=(f,f.cut||f.fail):=PE hf aE h1
   refine Gi ?_
   refine iK [7] [[],[],[],[],[],[],[],[],[7]] [0,1,2,3,4,5,6,7,8] [ar b5 (cY f) 94,ar b1 (az c) 25] (fun _ hw=>ai.mem hw) (by kernel_rfl) (by kernel_rfl) ?_
   refine an rfl (eR rfl) ?_
   refine an rfl (aH (o':=2) rfl rfl) ?_
   refine an rfl (bG rfl) ?_
   refine an rfl (aC rfl) ?_
   refine Hy rfl rfl rfl rfl (fun hg=>(Ry.yl (aH (o':=1) rfl rfl))) ?_
   refine Hy rfl rfl rfl rfl (fun hg=>(Ry.yl (bG (aF hg rfl)))) ?_
   refine an rfl (lC rfl rfl rfl) ?_
   refine dr rfl (ng rfl rfl ⟨fun _ hw=>ai.mem hw,?_⟩)
   refine an rfl (bj rfl) ?_
   refine Gc ?_
   refine aq (.inl rfl) (bk rfl (bX rfl) (al rfl)) (fun w1 hw=> ?_)
   exact⟨(by rw[hs]),ai.mem hw⟩
  ·
   replace h1:=bz h1
   refine Gc ?_
   iterate 2 refine Gs ?_
   refine Gi ?_
   exact bu (x:=(i)) (i+1) ⟨by first|omega|(simp only[];omega),fun j g hj hg=>if e:j=i then(by subst e;rw[hf]at hg;cases hg;exact h1)else aE j g (by first|omega|(simp only[];omega)) hg⟩ (by first|omega|(simp only[];omega)) (Sub.cons rfl (Sub.cons rfl (Sub.cons rfl (Sub.cons rfl (Sub.cons rfl (Sub.nil _)))))) (fun w hw=>ai.mem hw)
 ·
  replace h0:=bz h0
  obtain rfl:i=c.aS.xs.length:=by omega
  have hs:bw (cv c)=(u5,false):=PD (fun f hf=>by
   obtain⟨j,hj⟩:=List.getElem?_of_mem hf
   exact aE j f (List.getElem?_eq_some_iff.1 hj).1 hj)
  refine Gc ?_
  refine ag (cJ (v:= .agg (cY u5)) rfl (fun w=>by kernel_rfl)) ?_
  iterate 2 refine Gs ?_
  refine Gc ?_
  refine aq (.inl rfl) (bk rfl (bX rfl) (al rfl)) (fun w1 hw=> ?_)
  exact⟨(by rw[hs]),ai.mem hw⟩
instance adL{w0:World}{L:List aj}{c:Cp}[hc:aT w0 L c]:cw Tryz.prog 160 w0 L [.agg (az c)] (.tuple #[.agg (cY ((bw (cv c)).1)), .bool ((bw (cv c)).2)]) (c.aS.xs.length≤1000000):=⟨fun hp w hw=>RZ w c (hc.h w hw) hp⟩
theorem R0(w:World)(f:Ft):Calls Tryz.prog 161 #[.agg (cY f)] w fun e w'=>e= .returned (.tuple #[.bool f.cut, .int .i64 (kr f)])∧Mem w [] w':=by
 refine aX (args:=[_]) Tryz.func161 rfl Tryz.ntmps161 rfl ?_
 change Cw _ _ _ _ _ [(0, .agg (cY f))] []
 refine Gc ?_
 refine bR rfl fun b1=> ?_
 iterate 2 refine Gs ?_
 refine Gc ?_
 iterate 2 refine Gs ?_
 refine Gc ?_
 refine au rfl (fun h0=> ?_) (fun h0=> ?_)
 ·
  replace h0:=bz h0
  refine Gc ?_
  iterate 2 refine Gs ?_
  refine Gc ?_
  refine aq (.inl rfl) (bk rfl (al rfl) (al rfl)) (fun w1 hw=> ?_)
  exact⟨(by rw[kr,if_pos h0,h0]),ai.mem hw⟩
 ·
  replace h0:=bz h0
  refine Gc ?_
  iterate 2 refine Gs ?_
  refine Gc ?_
  refine aq (.inl rfl) (bk rfl (al rfl) (al rfl)) (fun w1 hw=> ?_)
  exact⟨(by rw[kr,if_neg (by rw[h0];simp),h0]),ai.mem hw⟩
instance adM{w0:World}{L:List aj}{f:Ft}:cw Tryz.prog 161 w0 L [.agg (cY f)] (.tuple #[.bool f.cut, .int .i64 (kr f)]) (True):=⟨fun hp w hw=>R0 w f⟩
open Go.aB Go.Kb
open Go.RowKit
theorem R5(w:World)(c:Cp)(b:Int)(hc:Deep.aY (hp w) c)(ba:dC c):Calls Tryz.prog 162 #[.agg (az c), .int .i64 b] w fun e w'=> ∃zz:Cp,e= .returned (.tuple #[.agg (az zz), .int .i64 (mF (cv c) b)])∧(cv zz=j8 (cv c) b)∧Mem w [fz zz] w':=by
 have iC:bV w c:=⟨hc⟩
 have jD:dC c:=ba
 obtain⟨kQ,kg,ny⟩:=ba
 refine aX (args:=[_,_]) Tryz.func162 rfl Tryz.ntmps162 rfl ?_
 change Cw _ _ _ _ _ [(0, .agg (az c)),(1, .int .i64 b)] []
 refine Gc ?_
 refine bR rfl fun b2=> ?_
 refine bH fun b4=> ?_
 refine Gs ?_
 refine Gc ?_
 refine Gs ?_
 refine bn rfl (by assumption) fun x8 n7=> ?_
 refine bH fun b6=> ?_
 refine Gs ?_
 refine Gc ?_
 iterate 4 refine Gs ?_
 refine Gc ?_
 refine au rfl (fun h0=> ?_) (fun h0=> ?_)
 ·
  replace h0:=bz h0
  have hE:mF (cv c) b=1:=by rw[mF,if_neg (by rw[h0];simp)]
  refine Gc ?_
  iterate 3 refine Gs ?_
  refine Gc ?_
  refine aq (.inl rfl) (bk rfl (bX rfl) (al rfl)) (fun w1 hw=> ?_)
  exact⟨x8,by rw[hE],by rw[n7,j8,if_neg (by rw[hE];decide)],lT x8 (ai.mem hw)⟩
 ·
  replace h0:=bz h0
  have hk:gG (cv c) b=true:=h0
  have hh:=hk
  have AX:=(ir.1 hh).2
  have dk:x8.blocks.xs.length=c.blocks.xs.length:=by have:=congrArg (fun v:CV=>v.blocks.length) n7;simpa only[cv,dU]using this
  have yd:x8.ops=c.ops:=congrArg CV.ops n7
  have nv:(cv c).blocks.length=c.blocks.xs.length:=dU _
  obtain⟨B,hB⟩:=get_some (xs:=x8.blocks.xs) (i:=b.toNat) (by omega)
  have lp:b.toNat<x8.blocks.xs.length:=(List.getElem?_eq_some_iff.1 hB).1
  have dQ:bv B=ak (cv c) b:=by
   have h1:=z9 hh
   have h2:=gX hB
   rw[show fy x8.blocks.xs=(cv c).blocks from congrArg CV.blocks n7,h1]at h2
   exact(Option.some.inj h2).symm
  have fj:k8 c.ae c.size (bv B)=true:=by rw[dQ];exact nS hh
  obtain⟨o1,o2,o3,o4,o5,o6⟩:=ez.1 fj
  have gM:=jg.1 (eo.1 (ir.1 hh).1).1
  have ye:=(eo.1 (ir.1 hh).1).2.1
  simp only[bv,cv]at o1 o2 o3 o4 o5 o6 gM ye
  have Ke:=gW B.ae.xs
  refine Gc ?_
  iterate 2 refine Gs ?_
  refine Gc ?_
  refine au rfl (fun h1=> ?_) (fun h1=> ?_)
  ·
   replace h1:=bz h1
   have hE:mF (cv c) b=7:=by rw[mF,if_pos hk,if_pos (show(cv c).off=true from h1)]
   refine Gc ?_
   iterate 3 refine Gs ?_
   refine Gc ?_
   refine aq (.inl rfl) (bk rfl (bX rfl) (al rfl)) (fun w1 hw=> ?_)
   exact⟨x8,by rw[hE],by rw[n7,j8,if_neg (by rw[hE];decide)],lT x8 (ai.mem hw)⟩
  ·
   replace h1:=bz h1
   have hE:mF (cv c) b=0:=by rw[mF,if_pos hk,if_neg (by rw[show(cv c).off=false from h1];simp)]
   refine Gc ?_
   iterate 3 refine Gs ?_
   refine ag (bc rfl rfl b.toNat (by omega) lp) ?_
   refine ag (aH rfl rfl) ?_
   refine jX (s:=x8.blocks.sv) (n:=1) (k:=b.toNat) (j:=3) (a:=B) (a':=(⟨B.ae,B.used,B.bp,true⟩:Bk)) (xs:=x8.blocks.xs) (enc:=bI) (c:=4) (v:= .bool true) (by kernel_rfl) rfl rfl rfl hB (by simp[Value.cells,Value.oneCell']) (by rfl) (by decide) (by rfl) ?_
   refine Gc ?_
   iterate 3 refine Gs ?_
   refine Gc ?_
   refine aq (.inl rfl) (bk rfl (bX rfl) (al rfl)) (fun w1 hw=> ?_)
   exact⟨(⟨x8.ae,x8.size,⟨x8.blocks.sv,x8.blocks.xs.set b.toNat (⟨B.ae,B.used,B.bp,true⟩:Bk)⟩,x8.ops,x8.off,x8.aS⟩:Cp),by rw[hE];rfl,by rw[PL n7 dQ,j8,if_pos hE],lT (⟨x8.ae,x8.size,⟨x8.blocks.sv,x8.blocks.xs.set b.toNat (⟨B.ae,B.used,B.bp,true⟩:Bk)⟩,x8.ops,x8.off,x8.aS⟩:Cp) (by
    simp only[PK hB (B':=(⟨B.ae,B.used,B.bp,true⟩:Bk)) rfl]
    exact ai.mem hw)⟩
instance adN{w0:World}{L:List aj}{c:Cp}{b:Int}[hc:aT w0 L c]:cc Tryz.prog 162 w0 L [.agg (az c), .int .i64 b] (Cp) (fun zz=> .tuple #[.agg (az zz), .int .i64 (mF (cv c) b)]) (fun zz=>fz zz::L) (fun zz=>cv zz=j8 (cv c) b) (dC c):=⟨fun hp w hw=>(R5 w c b (hc.h w hw) hp).mono fun e w' ⟨x,h1,h2,h3⟩=>⟨x,h1,h2,hw.call h3⟩⟩
theorem R6(w:World)(c:Cp)(fs:Sv)(lq:List Ft)(hc:Deep.aY (hp w) c)(Ej:bP cY 4 (hp w) fs lq)(ba:dC c):Calls Tryz.prog 32 #[.agg (az c),fs.val] w fun e w'=> ∃zz:Cp,e= .returned (.tuple #[.agg (az zz), .int .i64 (qJ (cv c) lq)])∧(cv zz=u7 (cv c) lq)∧Mem w [fz zz] w':=by
 have iC:bV w c:=⟨hc⟩
 have adO:Gv w fs cY 4 lq:=⟨Ej⟩
 have jD:dC c:=ba
 obtain⟨kQ,kg,ny⟩:=ba
 refine aX (args:=[_,_]) Tryz.func32 rfl Tryz.ntmps32 rfl ?_
 change Cw _ _ _ _ _ [(0, .agg (az c)),(1,fs.val)] []
 refine Gc ?_
 refine bR rfl fun b2=> ?_
 refine bH fun b4=> ?_
 refine Gs ?_
 refine Gc ?_
 refine Gs ?_
 refine bn rfl (by assumption) fun x8 n7=> ?_
 refine bH fun b6=> ?_
 refine Gs ?_
 refine Gc ?_
 iterate 4 refine Gs ?_
 iterate 3 refine Gg ?_
 refine Gs ?_
 refine Gc ?_
 refine au rfl (fun h0=> ?_) (fun h0=> ?_)
 ·
  replace h0:=bz h0
  have hE:qJ (cv c) lq=1:=by rw[qJ,if_neg (fun h=>by rw[h.1]at h0;simp only[Bool.true_eq_false,false_or]at h0;omega)]
  refine Gc ?_
  iterate 3 refine Gs ?_
  refine Gc ?_
  refine aq (.inl rfl) (bk rfl (bX rfl) (al rfl)) (fun w1 hw=> ?_)
  exact⟨x8,by rw[hE],by rw[n7,u7,if_neg (by rw[hE];decide)],lT x8 (ai.mem hw)⟩
 ·
  replace h0:=bz h0
  have hE:qJ (cv c) lq=0:=by
   rw[qJ,if_pos]
   cases hk:aW (cv c)with
   |false=>rw[hk]at h0;simp at h0
   |true=>exact⟨rfl,by rw[hk]at h0;simp only[Bool.true_eq_false,not_false_eq_true,true_and]at h0;omega⟩
  have dN:lq.length≤64:=by
   by_cases h9:aW (cv c)=true∧lq.length≤64
   ·
    exact h9.2
   ·
    rw[qJ,if_neg h9]at hE;cases hE
  refine Gc ?_
  refine Gs ?_
  refine dS (cs':=az (⟨x8.ae,x8.size,x8.blocks,x8.ops,false,x8.aS⟩:Cp)) rfl rfl (by show 4<6;decide) (by first|rfl|exact Sv.one _) rfl ?_
  refine Gc ?_
  refine Gs ?_
  refine bn rfl (by omega) fun fZ ua=> ?_
  refine Gs ?_
  refine dS (cs':=az (⟨x8.ae,x8.size,x8.blocks,x8.ops,false,⟨fZ,lq⟩⟩:Cp)) rfl rfl (by show 5<6;decide) (by first|rfl|exact Sv.one _) rfl ?_
  refine Gc ?_
  iterate 3 refine Gs ?_
  refine Gc ?_
  refine aq (.inl rfl) (bk rfl (bX rfl) (al rfl)) (fun w1 hw=> ?_)
  exact⟨(⟨x8.ae,x8.size,x8.blocks,x8.ops,false,⟨fZ,lq⟩⟩:Cp),by rw[hE],by rw[u7,if_pos hE,←n7];rfl,lT (⟨x8.ae,x8.size,x8.blocks,x8.ops,false,⟨fZ,lq⟩⟩:Cp) (ai.mem hw)⟩
instance adP{w0:World}{L:List aj}{c:Cp}{fs:Sv}{lq:List Ft}[hc:aT w0 L c][Ej:cO w0 L cY 4 fs lq]:cc Tryz.prog 32 w0 L [.agg (az c),fs.val] (Cp) (fun zz=> .tuple #[.agg (az zz), .int .i64 (qJ (cv c) lq)]) (fun zz=>fz zz::L) (fun zz=>cv zz=u7 (cv c) lq) (dC c):=⟨fun hp w hw=>(R6 w c fs lq (hc.h w hw) (Ej.h w hw) hp).mono fun e w' ⟨x,h1,h2,h3⟩=>⟨x,h1,h2,hw.call h3⟩⟩
end Go.Proofs.YtaipiecplldinaaGreat

/- Part of a proof. -/
import Derived.Test.YtaipiecplldinaaGreatF2
import Derived.Test.YtaipiecplldinaaGreatF1
import Derived.Test.YtaipiecplldinaaGreatRows
import Derived.DeepKeys
import Derived.Lib.BytesEntry
import Derived.Maps.Keyed
set_option maxRecDepth 20000
set_option linter.unusedSimpArgs false
set_option linter.unusedVariables false
namespace Go.Kb
open Go.ay
def hU(c:CV)(l:List Int):Prop:= ∀n∈l,n=0∨(1≤n∧2≤(n -1)/c.ae∧(n -1)/c.ae<(c.blocks.length:Int))
theorem hU.cx{c d:CV}{l:List Int}(h:hU c l)(g:dB c d):hU d l:=fun n hn=>by
  rcases h n hn with h|h
  ·exact .inl h
  ·exact .inr (by rw[g.ae,g.len];exact h)
theorem hU.append{c:CV}{a b:List Int}(h:hU c a)(g:hU c b):hU c (a++b):=fun n hn=>(List.mem_append.1 hn).elim (h n) (g n)
theorem fa{c:CV}(h:aS c=true):1≤(c.blocks.length:Int)∧(c.blocks.length:Int)≤32∧1≤c.ae∧c.ae≤16∧1≤c.size∧c.size≤256:=jI.1 (eC.1 h).1
theorem KB{n p b:Int}(hp:1≤p)(ka:p≤16)(hb:b≤32)(h:(n -1)/p<b):n≤512:=by
  have h1:n -1=p*((n -1)/p)+(n -1)%p:=(Int.mul_ediv_add_emod (n -1) p).symm
  have h2:=Int.emod_lt_of_pos (n -1) (show 0<p by omega)
  have h3:(n -1)/p≤31:=by omega
  have h4:p*((n -1)/p)≤p*31:=Int.mul_le_mul_of_nonneg_left h3 (by omega)
  omega
theorem hU.kn{c:CV}{l:List Int}(h:hU c l)(hk:aS c=true)(h2:2≤c.blocks.length)(hl:l.length≤1000000):pV c l:=
  ⟨⟨hk,hl⟩,h2,fun n hn=>by
    rcases h n hn with h|h
    ·exact .inl h
    ·have hd:=fa hk
     have:=KB (n:=n) hd.2.2.1 hd.2.2.2.1 hd.2.1 h.2.2
     exact .inr ⟨h.1,by omega,h.2.1,h.2.2⟩⟩
theorem E6{c:CV}{fl:List Int}{i:Nat}(hi:i<c.blocks.length -2):(aB c fl)[i]? =some (mM (qJ (ak c ((i:Int)+2)) (mL c.ae fl fl.length i))):=by
  rw[aB,iw,jv,List.getElem?_map,List.getElem?_map,List.getElem?_range hi];rfl
theorem sZ{c:CV}{fl:List Int}{i:Nat}{x:aA}(h:(aB c fl)[i]? =some x):x.bad=(ak c ((i:Int)+2)).bad:=by
  have hi:=(List.getElem?_eq_some_iff.1 h).1
  rw[j7]at hi
  rw[E6 hi]at h
  obtain rfl:=Option.some.inj h
  rw[mM];split
  ·rename_i hb;exact hb.symm
  ·rfl
theorem qN{c:CV}(hk:aS c=true){b:Int}(h0:0≤b)(h1:b<c.blocks.length):lQ c.ae c.size (ak c b)=true:=oR (fA.2 ⟨hk,h0,h1⟩)
structure BI(c:CV)(n:Nat)(x:aA):Prop where
  E7:0≤x.live
  SW:x.live≤n
  y0:0≤x.used
  wO:x.used≤c.ae
  KC:0≤x.aT
  KD:x.aT≤cK
theorem s8{c:CV}{fl:List Int}(hk:aS c=true){x:aA}(h:x∈aB c fl):BI c fl.length x:=by
  obtain⟨i,hi⟩:=List.getElem?_of_mem h
  have ft:=(List.getElem?_eq_some_iff.1 hi).1
  rw[j7]at ft
  rw[E6 ft]at hi
  obtain rfl:=Option.some.inj hi
  have hd:=fa hk
  have mN:cK=1099511627776:=rfl
  rw[mM];split
  ·exact⟨by simp[bb],by simp[bb],by simp[bb],by simp only[bb];omega,by simp[bb],by simp only[bb];omega⟩
  ·have ho:=eA.1 (qN hk (b:=(i:Int)+2) (by omega) (by omega))
   have:=Kk c.ae fl fl.length i
   exact⟨by simp only[qJ];omega,by simp only[qJ];omega,ho.2.1,ho.2.2.1,ho.2.2.2.1,ho.2.2.2.2.1⟩
theorem E8{R:aA→Bool}{l:List aA}{i:Nat}{x:aA}(h:(bX R l)[i]? =some x): ∃y,l[i]? =some y∧x=iI R y:=by
  rw[bX,List.getElem?_map,Option.map_eq_some_iff]at h
  obtain⟨y,hy,rfl⟩:=h
  exact⟨y,hy,rfl⟩
theorem SX{R:aA→Bool}{y:aA}(h:(iI R y).bad=false):iI R y=y∧y.bad=false∧R y=true:=by
  unfold iI at h⊢
  split at h
  ·cases h
  ·rename_i hn
   rw[if_neg hn]
   refine⟨rfl,h,?_⟩
   cases hR:R y with
   |true=>rfl
   |false=>exact absurd (.inr hR) hn
theorem uT{p:Int}{x:aA}(h:nz p x=true):x.bad=false∧x.used<p:=by
  simpa[nz]using h
theorem kA{x:aA}(h:lT x=true):x.bad=false∧x.live=0∧0<x.used:=by
  simpa[lT,and_assoc]using h
theorem og{R:aA→Bool}{l:List aA}{p:Int}{dN:aA→Bool}{os:List (aA→aA→Int)}(hr: ∀x,dN x=true→x.bad=false)(h:(fB (bX R l) p dN os).2=true):
    ∃x,l[(fB (bX R l) p dN os).1.toNat]? =some x∧x.bad=false∧R x=true∧dN x=true∧0≤(fB (bX R l) p dN os).1∧(fB (bX R l) p dN os).1<l.length:=by
  obtain⟨h1,h2,h3,h4⟩:=wJ h
  rw[sX]at h3
  have hi:(bX R l)[(fB (bX R l) p dN os).1.toNat]? =some ((bX R l).getD (fB (bX R l) p dN os).1.toNat dm):=nT (by rw[sX];omega)
  obtain⟨y,hy,he⟩:=E8 hi
  rw[he]at h4
  obtain⟨k1,k2,k3⟩:=SX (hr _ h4)
  rw[k1]at h4
  exact⟨y,hy,k2,k3,h4,h2,h3⟩
def uU(x:aA):Bool:=decide (0<x.live)
def gE(x:aA):Bool:=decide (x.live=0)
def fI(l:List aA):Nat:=(l.filter fun x=> !x.bad&&decide (x.live=0)).length
def mO(c:CV)(fl:List Int):Int×Bool:=eU (bX uU (aB c fl)) c.ae
def kP(c:CV)(fl:List Int):Int×Bool:=eU (bX gE (aB c fl)) c.ae
def mP(c:CV)(fl:List Int):Int:=(eV (bX gE (aB c fl)) c.ae).1
def bg(c:CV)(fl:List Int)(aC:Bool):CV×Int×Int:=
  if(mO c fl).2=true then(c,(mO c fl).1+2,0)
  else if fI (aB c fl)=0∨(fI (aB c fl)=1∧aC=false)then(c,0,5)
  else if(kP c fl).2=true then(c,(kP c fl).1+2,0)
  else((cE c (mP c fl+2)).1,mP c fl+2,(cE c (mP c fl+2)).2)
theorem SY{l:List aA}{i:Nat}{x:aA}(h:l[i]? =some x):((l.take (i+1)).filter fun z=> !z.bad&&decide (z.live=0)).length=((l.take i).filter fun z=> !z.bad&&decide (z.live=0)).length+(if x.bad=false∧x.live=0 then 1 else 0):=by
  rw[List.take_add_one,h,List.filter_append,List.length_append]
  congr 1
  simp only[Option.toList_some,List.filter_cons,List.filter_nil]
  split<;>simp_all
theorem SZ(l:List aA):(l.filter fun z=> !z.bad&&decide (z.live=0)).length≤l.length:=List.length_filter_le _ _
theorem E9{c:CV}{fl:List Int}(hk:aS c=true)(h2:3≤c.blocks.length)(hi:fI (aB c fl)≠0)(hb: ¬(kP c fl).2=true):0≤mP c fl∧mP c fl<(c.blocks.length:Int) -2∧(ak c (mP c fl+2)).bad=false:=by
  have hd:=fa hk
  have du:=j7 c fl
  have hw:ky (bX gE (aB c fl)) c.ae=true:=pW.2 ⟨by rw[sX];omega,by rw[sX];omega,by omega,by omega,fun x hx=>by
    obtain⟨i,hi⟩:=List.getElem?_of_mem hx
    obtain⟨y,hy,rfl⟩:=E8 hi
    have t:=s8 hk (List.mem_of_getElem? hy)
    have mN:cK=1099511627776:=rfl
    unfold iI
    split
    ·exact oV.2 (by simp only[bb];omega)
    ·rename_i hn
     have hl:y.live=0:=by
        cases hR:gE y with
        |true=>simpa[gE]using hR
        |false=>exact absurd (.inr hR) hn
     exact oV.2 ⟨by omega,by have:=t.y0;omega,t.wO,t.KC,t.KD⟩⟩
  have oX:(kP c fl).2=false:=by simpa using hb
  have Fa:=wK hw (show(fB _ _ _ _).2=false from oX)
  have wP:0<((aB c fl).filter fun x=> !x.bad&&decide (x.live=0)).length:=by rw[fI]at hi;omega
  obtain⟨x,hx⟩:=List.exists_mem_of_length_pos wP
  obtain⟨mQ,jM⟩:=List.mem_filter.1 hx
  simp only[Bool.and_eq_true,Bool.not_eq_true',decide_eq_true_eq]at jM
  have qO:iI gE x=x:=by
    unfold iI
    rw[if_neg]
    rintro(g|g)
    ·rw[jM.1]at g;cases g
    ·rw[show gE x=true by simp[gE,jM.2]]at g;cases g
  have y2:x∈bX gE (aB c fl):=by
    rw[←qO];exact List.mem_map_of_mem mQ
  have y3:=Fa x y2
  have t:=s8 hk mQ
  have pY:lT x=true:=by
    have: ¬x.used<c.ae:=fun h=>by
      rw[nz,jM.1,decide_eq_true h]at y3;cases y3
    simp only[lT,jM.1,Bool.not_false,Bool.true_and,Bool.and_eq_true,decide_eq_true_eq]
    omega
  have hf:(eV (bX gE (aB c fl)) c.ae).2=true:=by
    cases hq:(eV (bX gE (aB c fl)) c.ae).2 with
    |true=>rfl
    |false=>have:=wK hw hq x y2;rw[pY]at this;cases this
  obtain⟨y,hy,k1,_,_,k4,k5⟩:=og (fun x h=>(kA h).1) hf
  have qP:=sZ hy
  change 0≤mP c fl at k4
  change mP c fl<_ at k5
  refine⟨k4,by omega,?_⟩
  rw[←k1,qP]
  congr 2
  change _=((mP c fl).toNat:Int)+2
  omega
theorem KE{c:CV}{fl:List Int}(h:(mO c fl).2=true):0≤(mO c fl).1∧(mO c fl).1<((c.blocks.length -2:Nat):Int)∧(ak c ((mO c fl).1+2)).bad=false:=by
  obtain⟨y,hy,k1,_,_,k4,k5⟩:=og (fun x h=>(uT h).1) h
  have qP:=sZ hy
  rw[j7]at k5
  refine⟨k4,k5,?_⟩
  rw[←k1,qP]
  congr 2
  change _=((mO c fl).1.toNat:Int)+2
  change 0≤(mO c fl).1 at k4
  omega
theorem KF{c:CV}{fl:List Int}(h:(kP c fl).2=true):0≤(kP c fl).1∧(kP c fl).1<((c.blocks.length -2:Nat):Int)∧(ak c ((kP c fl).1+2)).bad=false:=by
  obtain⟨y,hy,k1,_,_,k4,k5⟩:=og (fun x h=>(uT h).1) h
  have qP:=sZ hy
  rw[j7]at k5
  refine⟨k4,k5,?_⟩
  rw[←k1,qP]
  congr 2
  change _=((kP c fl).1.toNat:Int)+2
  change 0≤(kP c fl).1 at k4
  omega
theorem Fb{c:CV}{b:Int}(h:dL c b=0):lR c b=true∧c.off=false∧(ak c b).bad=false∧(bp c).2=false∧df c b=gA c b:=by
  have h0:=h
  rw[dL]at h
  by_cases h1:lR c b=true
  ·rw[if_pos h1]at h
   by_cases h2:c.off=true
   ·rw[if_pos h2]at h;cases h
   ·rw[if_neg h2]at h
    by_cases h3:(ak c b).bad=true
    ·rw[if_pos h3]at h;cases h
    ·rw[if_neg h3]at h
     by_cases h4:(bp c).2=true
     ·rw[if_pos h4,jY]at h
      split at h<;>cases h
     ·refine⟨h1,by simpa using h2,by simpa using h3,by simpa using h4,?_⟩
      rw[df,gm,h0,if_neg (by decide),eF,if_pos ⟨h1,by simpa using h2,by simpa using h3⟩]
  ·rw[if_neg h1]at h;cases h
theorem KG{c:CV}{b:Int}(h:dL c b=0):(ak (df c b) b).bad=false:=by
  obtain⟨h1,h2,h3,h4,h5⟩:=Fb h
  rw[h5,gA,oW (nv.1 h1).1];exact h3
theorem BJ: ∀(n:Nat) {c:CV} {b:Int},(eZ n c b).2=0→(ak (eZ n c b).1 b).bad=false
  |0,c,b,h=>KG h
  |n+1,c,b,h=>by
   rw[eZ]at h⊢
   by_cases h0:bw c b (gU c)≠0
   ·rw[if_pos h0]at h;exact absurd h h0
   ·rw[if_neg h0]at h⊢;exact BJ n h
theorem BK{c:CV}{fl:List Int}{aC:Bool}(hk:aS c=true)(h2:3≤c.blocks.length):aS (bg c fl aC).1=true∧dB c (bg c fl aC).1∧c.ops≤(bg c fl aC).1.ops∧
    ((bg c fl aC).2.2=0→2≤(bg c fl aC).2.1∧(bg c fl aC).2.1<c.blocks.length∧(ak (bg c fl aC).1 (bg c fl aC).2.1).bad=false)∧((bg c fl aC).2.2=9→c.ops<(bg c fl aC).1.ops):=by
  rw[bg]
  by_cases h1:(mO c fl).2=true
  ·rw[if_pos h1]
   have:=KE h1
   exact⟨hk, .bW c,Int.le_refl _,fun _=>⟨by simp only;omega,by simp only;omega,this.2.2⟩,fun h=>absurd (show(0:Int)=9 from h) (by decide)⟩
  ·rw[if_neg h1]
   by_cases h3:fI (aB c fl)=0∨(fI (aB c fl)=1∧aC=false)
   ·rw[if_pos h3]
    exact⟨hk, .bW c,Int.le_refl _,fun h=>absurd (show(5:Int)=0 from h) (by decide),fun h=>absurd (show(5:Int)=9 from h) (by decide)⟩
   ·rw[if_neg h3]
    by_cases h4:(kP c fl).2=true
    ·rw[if_pos h4]
     have:=KF h4
     exact⟨hk, .bW c,Int.le_refl _,fun _=>⟨by simp only;omega,by simp only;omega,this.2.2⟩,fun h=>absurd (show(0:Int)=9 from h) (by decide)⟩
    ·rw[if_neg h4]
     obtain⟨d1,d2,d3⟩:=E9 hk h2 (fun e=>h3 (.inl e)) h4
     have hc:=uQ (mP c fl+2) hk
     exact⟨hc.1,hc.2,wM _ _ _,fun h=>⟨by simp only;omega,by simp only;omega,BJ _ h⟩,fun h=>BH d3 (.inl h)⟩
def gM:Nat→CV→List Int→Bool→List UInt8→CV×Int×Int
  |0,c,_,_,_=>(c,0,0)
  |n+1,c,fl,aC,b=>
   if(bg c fl aC).2.2=0 then
      (if bw (bg c fl aC).1 (bg c fl aC).2.1 b=0 then(bH (bg c fl aC).1 (bg c fl aC).2.1 b,(bg c fl aC).2.1*c.ae+(ak (bg c fl aC).1 (bg c fl aC).2.1).used+1,0)
       else if bw (bg c fl aC).1 (bg c fl aC).2.1 b≠9 then(bH (bg c fl aC).1 (bg c fl aC).2.1 b,0,bw (bg c fl aC).1 (bg c fl aC).2.1 b)
       else gM n (bH (bg c fl aC).1 (bg c fl aC).2.1 b) fl aC b)
   else if(bg c fl aC).2.2≠9 then((bg c fl aC).1,0,(bg c fl aC).2.2)
   else gM n (bg c fl aC).1 fl aC b
def c8(c:CV)(fl:List Int)(aC:Bool)(p:PV):CV×Int×Int:=
  if(dq p c.size).2≠0 then(c,0,(dq p c.size).2)else gM ((cK -c.ops).toNat+1) c fl aC (dq p c.size).1
theorem pZ{c:CV}(h:aS c=true):c.ops≤cK:=(eC.1 h).2.2.1
theorem Fc: ∀(n:Nat) {c:CV} {fl:List Int} {aC:Bool} {b:List UInt8},aS c=true→3≤c.blocks.length→(cK -c.ops).toNat<n→
    aS (gM n c fl aC b).1=true∧dB c (gM n c fl aC b).1∧c.ops≤(gM n c fl aC b).1.ops∧((gM n c fl aC b).2.2=0→1≤(gM n c fl aC b).2.1∧2≤((gM n c fl aC b).2.1 -1)/c.ae∧((gM n c fl aC b).2.1 -1)/c.ae<c.blocks.length)
  |0,c,fl,aC,b,_,_,hn=>by omega
  |n+1,c,fl,aC,b,hk,h2,hn=>by
   obtain⟨f1,f2,f3,f4,f5⟩:=BK (fl:=fl) (aC:=aC) hk h2
   have hd:=fa hk
   rw[gM]
   by_cases h0:(bg c fl aC).2.2=0
   ·rw[if_pos h0]
    obtain⟨g1,g2,g3⟩:=f4 h0
    by_cases h1:bw (bg c fl aC).1 (bg c fl aC).2.1 b=0
    ·rw[if_pos h1]
     have hl:=f2.trans (gD (bg c fl aC).1 (bg c fl aC).2.1 b)
     have hp:=iH.1 (od h1).1
     rw[f2.ae]at hp
     have hu:0≤(ak (bg c fl aC).1 (bg c fl aC).2.1).used:=hp.2.1
     have S0:=hp.2.2.1
     have hq:((bg c fl aC).2.1*c.ae+(ak (bg c fl aC).1 (bg c fl aC).2.1).used+1 -1)/c.ae=(bg c fl aC).2.1:=by
          rw[Int.add_sub_cancel,Int.add_comm,Int.add_mul_ediv_right _ _ (by omega),Int.ediv_eq_zero_of_lt hu S0,Int.zero_add]
     refine⟨iU f1 _ _,hl,?_,fun _=>⟨?_,by simp only;rw[hq];exact g1,by simp only;rw[hq];exact g2⟩⟩
     ·have:=uR (bg c fl aC).1 (bg c fl aC).2.1 b;simp only;omega
     ·have:0≤(bg c fl aC).2.1*c.ae:=Int.mul_nonneg (by omega) (by omega)
      simp only;omega
    ·rw[if_neg h1]
     by_cases h9:bw (bg c fl aC).1 (bg c fl aC).2.1 b≠9
     ·rw[if_pos h9]
      exact⟨iU f1 _ _,f2.trans (gD _ _ _),by have:=uR (bg c fl aC).1 (bg c fl aC).2.1 b;simp only;omega,fun h=>absurd h h1⟩
     ·rw[if_neg h9]
      have ho:=qK g3 (p:=b) (.inl (by simpa using h9))
      have bM:=iU f1 (bg c fl aC).2.1 b
      have hl:=f2.trans (gD (bg c fl aC).1 (bg c fl aC).2.1 b)
      have hle:=pZ bM
      have:=Fc n (fl:=fl) (aC:=aC) (b:=b) bM (by rw[hl.len];exact h2) (by omega)
      refine⟨this.1,hl.trans this.2.1,by omega,fun h=> ?_⟩
      have g:=this.2.2.2 h
      rw[hl.ae,hl.len]at g
      exact g
   ·rw[if_neg h0]
    by_cases h9:(bg c fl aC).2.2≠9
    ·rw[if_pos h9]
     exact⟨f1,f2,f3,fun h=>absurd h h0⟩
    ·rw[if_neg h9]
     have ho:=f5 (by simpa using h9)
     have hle:=pZ f1
     have:=Fc n (fl:=fl) (aC:=aC) (b:=b) f1 (by rw[f2.len];exact h2) (by omega)
     refine⟨this.1,f2.trans this.2.1,by omega,fun h=> ?_⟩
     have g:=this.2.2.2 h
     rw[f2.ae,f2.len]at g
     exact g
theorem KH{c:CV}{fl:List Int}{aC:Bool}{p:PV}(hk:aS c=true)(h2:3≤c.blocks.length):
    aS (c8 c fl aC p).1=true∧dB c (c8 c fl aC p).1∧c.ops≤(c8 c fl aC p).1.ops∧((c8 c fl aC p).2.2=0→1≤(c8 c fl aC p).2.1∧2≤((c8 c fl aC p).2.1 -1)/c.ae∧((c8 c fl aC p).2.1 -1)/c.ae<c.blocks.length):=by
  rw[c8];split
  ·rename_i h;exact⟨hk, .bW c,Int.le_refl _,fun h'=>absurd h' h⟩
  ·exact Fc _ hk h2 (by omega)
def p0(p:Int)(x:aA):Int:=if x.live=0∧p -x.used=0 then p else p -x.used
def uV(p:Int)(s:Int×Int)(x:aA):Int×Int:=if x.bad=true then s else(s.1+p0 p x,if x.live=0 then max s.2 (p0 p x)else s.2)
def fu(p:Int)(l:List aA):Int×Int:=l.foldl (uV p) (0,0)
def mR(c:CV)(fl:List Int):Int×Int:=((fu c.ae (aB c fl)).1 -(fu c.ae (aB c fl)).2,(fu c.ae (aB c fl)).1)
theorem KI{p:Int}{l:List aA}{i:Nat}{x:aA}(h:l[i]? =some x):fu p (l.take (i+1))=uV p (fu p (l.take i)) x:=by
  rw[fu,List.take_add_one,h];simp[fu]
theorem S1{c:CV}{n:Nat}{x:aA}(h:BI c n x)(hk:aS c=true):0≤p0 c.ae x∧p0 c.ae x≤c.ae:=by
  have hd:=fa hk
  have:=h.y0;have:=h.wO
  rw[p0];split<;>omega
theorem KJ{c:CV}{n:Nat}(hk:aS c=true)(l:List aA)(h: ∀x∈l,BI c n x): ∀i,i≤l.length→0≤(fu c.ae (l.take i)).1∧(fu c.ae (l.take i)).1≤16*(i:Int)∧0≤(fu c.ae (l.take i)).2∧(fu c.ae (l.take i)).2≤16
  |0,_=>by simp[fu]
  |i+1,hi=>by
   obtain⟨x,hx⟩:=get_some (xs:=l) (i:=i) (by omega)
   have ih:=KJ hk l h i (by omega)
   have hr:=S1 (h x (List.mem_of_getElem? hx)) hk
   have hd:=fa hk
   rw[KI hx,uV]
   split
   ·omega
   ·refine⟨by simp only;omega,by simp only;omega,?_,?_⟩
    ·simp only;split<;>omega
    ·simp only;split<;>omega
open Go.ay
structure cd(x:WV):Prop where
 ag:aS x.v.ag=true
 len:4≤(x.v.ag.blocks.length:Int)
 ae:2≤x.v.ag.ae
 size:24≤x.v.ag.size
 last:x.v.last=0∨x.v.last=1
 gen:x.v.gen<281474976710656
 qQ:hU x.v.ag x.v.at_
 nA:x.v.at_.length≤64
theorem cd.on{x:WV}(h:cd x){c:CV}(hk:aS c=true)(hl:dB x.v.ag c):cd (x.on c):=
 ⟨hk,by simp only[WV.on];rw[hl.len];exact h.len,by simp only[WV.on];rw[hl.ae];exact h.ae,by simp only[WV.on];rw[hl.size];exact h.size,h.last,h.gen,h.qQ.cx hl,h.nA⟩
theorem cd.oh{x:WV}(h:cd x):4≤x.v.ag.blocks.length:=by have:=h.len;omega
theorem Fe(x:WV):x.on x.v.ag=x:=rfl
theorem KK(x:WV)(c d:CV):(x.on c).on d=x.on d:=rfl
def aU(c:CV)(last:Int):CV×Int×Int:=
 if 0<eH c last then(c,last,0)
 else if 0<eH c (1 -last)then(c,1 -last,0)
 else if(ak c (1 -last)).bad=true then(c,0,9)
 else(df c (1 -last),1 -last,dL c (1 -last))
theorem BL{c:CV}{b:Int}(h:0<eH c b):(ak c b).bad=false:=by
 rw[eH]at h;split at h
 ·
  omega
 ·
  rename_i hn;simpa using hn
theorem wQ{c:CV}{last:Int}(hk:aS c=true)(hl:last=0∨last=1):aS (aU c last).1=true∧dB c (aU c last).1∧c.ops≤(aU c last).1.ops∧
  ((aU c last).2.2=0→((aU c last).2.1=0∨(aU c last).2.1=1)∧(ak (aU c last).1 (aU c last).2.1).bad=false):=by
 rw[aU]
 by_cases h1:0<eH c last
 ·
  rw[if_pos h1];exact⟨hk, .bW c,Int.le_refl _,fun _=>⟨hl,BL h1⟩⟩
 ·
  rw[if_neg h1]
  by_cases h2:0<eH c (1 -last)
  ·
   rw[if_pos h2];exact⟨hk, .bW c,Int.le_refl _,fun _=>⟨by simp only;omega,BL h2⟩⟩
  ·
   rw[if_neg h2]
   by_cases h3:(ak c (1 -last)).bad=true
   ·
    rw[if_pos h3];exact⟨hk, .bW c,Int.le_refl _,fun h=>absurd (show(9:Int)=0 from h) (by decide)⟩
   ·
    rw[if_neg h3];exact⟨BG hk _,uP _ _,Ku _ _,fun h=>⟨by simp only;omega,KG h⟩⟩
def fc:Nat→WV→List Int→List UInt8→WV×Int
 |0,x,_,_=>(x,0)
 |n+1,x,a,b=>
  if(aU x.v.ag x.v.last).2.2≠0 then(x.on (aU x.v.ag x.v.last).1,(aU x.v.ag x.v.last).2.2)
  else if bw (aU x.v.ag x.v.last).1 (aU x.v.ag x.v.last).2.1 b=0 then
   (⟨⟨bH (aU x.v.ag x.v.last).1 (aU x.v.ag x.v.last).2.1 b,a,x.v.gen+1,if j9 (bH (aU x.v.ag x.v.last).1 (aU x.v.ag x.v.last).2.1 b) 1=x.v.gen+1 then 1 else(aU x.v.ag x.v.last).2.1⟩,x.beyond⟩,0)
  else if bw (aU x.v.ag x.v.last).1 (aU x.v.ag x.v.last).2.1 b≠9 then
   (x.on (bH (aU x.v.ag x.v.last).1 (aU x.v.ag x.v.last).2.1 b),bw (aU x.v.ag x.v.last).1 (aU x.v.ag x.v.last).2.1 b)
  else fc n (x.on (bH (aU x.v.ag x.v.last).1 (aU x.v.ag x.v.last).2.1 b)) a b
def dV(x:WV)(a:List Int):WV×Int:=
 if(cZ ⟨x.v.gen+1,a⟩ x.v.ag.size).2≠0 then(x,(cZ ⟨x.v.gen+1,a⟩ x.v.ag.size).2)
 else fc ((cK -x.v.ag.ops).toNat+1) x a (cZ ⟨x.v.gen+1,a⟩ x.v.ag.size).1
structure iJ(x y:WV):Prop where
 ok:cd y
 cx:dB x.v.ag y.v.ag
 ops:x.v.ag.ops≤y.v.ag.ops
 wR:y.v.at_.length=x.v.at_.length
theorem iJ.bW{x:WV}(h:cd x):iJ x x:=⟨h, .bW _,Int.le_refl _,rfl⟩
theorem iJ.trans{x y z:WV}(h:iJ x y)(g:iJ y z):iJ x z:=⟨g.ok,h.cx.trans g.cx,Int.le_trans h.ops g.ops,g.wR.trans h.wR⟩
theorem iJ.on{x:WV}(h:cd x){c:CV}(hk:aS c=true)(hl:dB x.v.ag c)(ho:x.v.ag.ops≤c.ops):iJ x (x.on c):=⟨h.on hk hl,hl,ho,rfl⟩
theorem S2{r:RV}{n:Int}(h:(cZ r n).2=0):r.gen<281474976710656∧(r.at_.length:Int)≤jJ n:=by
 rw[cZ]at h;split at h
 ·
  rename_i hm;have:=uM.1 hm;exact⟨this.2.1,this.2.2.1⟩
 ·
  cases h
theorem S3(n:Int):jJ n≤64:=by rw[jJ];omega
theorem KL: ∀(n:Nat) {x:WV} {a:List Int} {b:List UInt8},cd x→hU x.v.ag a→a.length=x.v.at_.length→x.v.gen+1<281474976710656→(cK -x.v.ag.ops).toNat<n→iJ x (fc n x a b).1∧((fc n x a b).2=0→x.v.ag.ops<(fc n x a b).1.v.ag.ops)
 |0,x,a,b,_,_,_,_,hn=>by omega
 |n+1,x,a,b,hx,ha,fx,hg,hn=>by
  obtain⟨r1,r2,r3,r4⟩:=wQ (c:=x.v.ag) (last:=x.v.last) hx.ag hx.last
  rw[fc]
  by_cases h0:(aU x.v.ag x.v.last).2.2≠0
  ·
   rw[if_pos h0];exact⟨.on hx r1 r2 r3,fun h=>absurd h h0⟩
  ·
   rw[if_neg h0]
   obtain⟨r5,r6⟩:=r4 (by simpa using h0)
   have dZ:=iU r1 (aU x.v.ag x.v.last).2.1 b
   have bA:=r2.trans (gD (aU x.v.ag x.v.last).1 (aU x.v.ag x.v.last).2.1 b)
   have k9:=uR (aU x.v.ag x.v.last).1 (aU x.v.ag x.v.last).2.1 b
   by_cases h1:bw (aU x.v.ag x.v.last).1 (aU x.v.ag x.v.last).2.1 b=0
   ·
    rw[if_pos h1]
    have ho:=qK r6 (p:=b) (.inr h1)
    have dO:=hx.on dZ bA
    refine⟨⟨⟨dZ,dO.len,dO.ae,dO.size,?_,hg,ha.cx bA,by simp only;rw[fx];exact hx.nA⟩,bA,by simp only;omega,fx⟩,fun _=>by simp only;omega⟩
    simp only;split
    ·
     exact .inr rfl
    ·
     exact r5
   ·
    rw[if_neg h1]
    by_cases h9:bw (aU x.v.ag x.v.last).1 (aU x.v.ag x.v.last).2.1 b≠9
    ·
     rw[if_pos h9];exact⟨.on hx dZ bA (by omega),fun h=>absurd h h1⟩
    ·
     rw[if_neg h9]
     have ho:=qK r6 (p:=b) (.inl (by simpa using h9))
     have hle:=pZ dZ
     have dO:=hx.on dZ bA
     have:=KL n (x:=x.on (bH (aU x.v.ag x.v.last).1 (aU x.v.ag x.v.last).2.1 b)) (a:=a) (b:=b) dO (ha.cx bA) fx hg (by simp only[WV.on];omega)
     exact⟨(iJ.on hx dZ bA (by omega)).trans this.1,fun h=>by
      have h2:(bH (aU x.v.ag x.v.last).1 (aU x.v.ag x.v.last).2.1 b).ops<_:=this.2 h
      omega⟩
theorem Ff{x:WV}{a:List Int}(hx:cd x)(ha:hU x.v.ag a)(fx:a.length=x.v.at_.length):iJ x (dV x a).1∧((dV x a).2=0→x.v.ag.ops<(dV x a).1.v.ag.ops):=by
 rw[dV];split
 ·
  rename_i h;exact⟨.bW hx,fun h'=>absurd h' h⟩
 ·
  rename_i h
  have:=S2 (r:=⟨x.v.gen+1,a⟩) (n:=x.v.ag.size) (by simpa using h)
  exact KL _ hx ha fx this.1 (by omega)
def lD:Nat→Int→CV→CV×Int
 |0,_,c=>(c,0)
 |n+1,b,c=>if wN c b=false then lD n (b+1) c
  else if dL c b≠0∧dL c b≠9 then(df c b,dL c b)else lD n (b+1) (df c b)
def mS(c:CV)(b:Int)(ids:Nat):List UInt8×Int:=cZ ⟨fP c b,List.replicate ids 0⟩ c.size
def BM(c:CV)(b:Int)(ids:Nat)(g:Nat):VV:=⟨c,List.replicate ids 0,g,b⟩
def s9:Nat→Int→WV→Nat→WV×Int
 |0,_,x,_=>(x,9)
 |n+1,b,x,ids=>
  if(mS x.v.ag b ids).2≠0∨eH x.v.ag b=0 then s9 n (b+1) x ids
  else if bw x.v.ag b (mS x.v.ag b ids).1=0 then(⟨BM (bH x.v.ag b (mS x.v.ag b ids).1) b ids (fP x.v.ag b),x.beyond⟩,0)
  else if bw x.v.ag b (mS x.v.ag b ids).1≠9 then(x.on (bH x.v.ag b (mS x.v.ag b ids).1),bw x.v.ag b (mS x.v.ag b ids).1)
  else s9 n (b+1) (x.on (bH x.v.ag b (mS x.v.ag b ids).1)) ids
def oY(x:WV)(ids:Nat):WV×Int:=
 if(lD x.v.ag.blocks.length 0 x.v.ag).2≠0 then(x.on (lD x.v.ag.blocks.length 0 x.v.ag).1,(lD x.v.ag.blocks.length 0 x.v.ag).2)
 else s9 2 0 (x.on (lD x.v.ag.blocks.length 0 x.v.ag).1) ids
open Go.ay
def uW(s:Int×Int)(i:Nat)(x:aA):Int×Int:=
 if x.bad=true∨x.live=0∨cK≤x.aT then s else if s.2<x.used -x.live then((i:Int),x.used -x.live)else s
def fY(l:List aA):Nat→Int×Int
 |0=>(0,0)
 |k+1=>uW (fY l k) k (l.getD k dm)
def iW(l:List aA)(p:Int):Int×Bool:=if(kz l p).2=true then((kz l p).1,true)else((fY l l.length).1,decide (0<(fY l l.length).2))
theorem Fg(l:List aA): ∀k,0≤(fY l k).1∧0≤(fY l k).2∧(0<(fY l k).2→(fY l k).1<k)
 |0=>by simp[fY]
 |k+1=>by
  have:=Fg l k
  rw[fY,uW]
  split
  ·
   exact⟨this.1,this.2.1,fun h=>by have:=this.2.2 h;omega⟩
  ·
   split
   ·
    exact⟨by simp only;omega,by simp only;omega,fun _=>by simp only;omega⟩
   ·
    exact⟨this.1,this.2.1,fun h=>by have:=this.2.2 h;omega⟩
theorem Fh{l:List aA}{p:Int}(h:(iW l p).2=true):0≤(iW l p).1∧(iW l p).1<l.length:=by
 rw[iW]at h⊢
 split
 ·
  rename_i hv
  have:=wJ hv
  exact⟨this.2.1,this.2.2.1⟩
 ·
  rename_i hv
  rw[if_neg hv]at h
  have:=Fg l l.length
  exact⟨this.1,this.2.2 (by simpa using h)⟩
def oZ(x:aA):Bool:=decide (x.used=0)
def uX(p:Int)(x:aA):Bool:=decide (x.used=p)
def p6(x:aA):Bool:=decide (x.aT<cK)
def kQ(c:CV)(l:List aA):Int×Bool:=eU (bX oZ l) c.ae
def jw(c:CV)(l:List aA):Int×Bool:=eV (bX (uX c.ae) l) c.ae
def iX(c:CV)(l:List aA):Int×Bool:=eV (bX p6 l) c.ae
def bJ(c:CV)(l:List aA):CV×Int×Int:=
 if(kQ c l).2=true then(c,(kQ c l).1+2,0)
 else if(jw c l).2=true then((cE c ((jw c l).1+2)).1,(jw c l).1+2,(cE c ((jw c l).1+2)).2)
 else if(iX c l).2=true then((cE c ((iX c l).1+2)).1,(iX c l).1+2,(cE c ((iX c l).1+2)).2)
 else(c,0,6)
def kb(c:CV)(l:List aA):Prop:=l.length=c.blocks.length -2∧ ∀(i:Nat) (x:aA),l[i]? =some x→x.bad=false→(ak c ((i:Int)+2)).bad=false
theorem ta(c:CV)(fl:List Int):kb c (aB c fl):=⟨j7 c fl,fun i x hx hb=>by rw[←sZ hx];exact hb⟩
theorem kb.set{c:CV}{l:List aA}(h:kb c l)(i:Nat):kb c (l.set i bb):=⟨by rw[List.length_set];exact h.1,fun j x hx hb=>by
 rw[List.getElem?_set]at hx
 split at hx
 ·
  split at hx
  ·
   obtain rfl:=Option.some.inj hx;cases hb
  ·
   cases hx
 ·
  exact h.2 j x hx hb⟩
theorem td{c:CV}{R:aA→Bool}{l:List aA}{dN:aA→Bool}{os:List (aA→aA→Int)}(ht:kb c l)(hr: ∀x,dN x=true→x.bad=false)(h:(fB (bX R l) c.ae dN os).2=true):
  0≤(fB (bX R l) c.ae dN os).1∧(fB (bX R l) c.ae dN os).1<((c.blocks.length -2:Nat):Int)∧(ak c ((fB (bX R l) c.ae dN os).1+2)).bad=false:=by
 obtain⟨x,hx,k1,_,_,k4,k5⟩:=og hr h
 rw[ht.1]at k5
 refine⟨k4,k5,?_⟩
 have:=ht.2 _ x hx k1
 rwa [show(((fB (bX R l) c.ae dN os).1.toNat:Nat):Int)=(fB (bX R l) c.ae dN os).1 by omega]at this
theorem Fi{c:CV}{l:List aA}(hk:aS c=true)(ht:kb c l):aS (bJ c l).1=true∧dB c (bJ c l).1∧c.ops≤(bJ c l).1.ops∧
  ((bJ c l).2.2=0→2≤(bJ c l).2.1∧(bJ c l).2.1<c.blocks.length∧(ak (bJ c l).1 (bJ c l).2.1).bad=false)∧((bJ c l).2.2=9→c.ops<(bJ c l).1.ops)∧((bJ c l).2.2=6→(bJ c l).1=c):=by
 rw[bJ]
 have e6: ∀{b:Int},(cE c b).2≠6:=fun{b}=>by
  have: ∀n {c:CV},(eZ n c b).2≠6:=by
   intro n
   induction n with
   |zero=>
    intro c
    simp only[eZ,dL]
    split
    ·
     split
     ·
      decide
     ·
      split
      ·
       decide
      ·
       split
       ·
        rw[jY];split<;>decide
       ·
        decide
    ·
     decide
   |succ n ih=>
    intro c
    rw[eZ];split
    ·
     simp only[bw,jq]
     split
     ·
      split
      ·
       decide
      ·
       split
       ·
        decide
       ·
        split
        ·
         rw[jY];split<;>decide
        ·
         decide
     ·
      decide
    ·
     exact ih
  exact this _
 by_cases h1:(kQ c l).2=true
 ·
  rw[if_pos h1]
  have:=td ht (fun x h=>(uT h).1) h1
  change 0≤(kQ c l).1∧(kQ c l).1<_∧(ak c ((kQ c l).1+2)).bad=false at this
  exact⟨hk, .bW c,Int.le_refl _,fun _=>⟨by simp only;omega,by simp only;omega,this.2.2⟩,fun h=>absurd (show(0:Int)=9 from h) (by decide),fun h=>absurd (show(0:Int)=6 from h) (by decide)⟩
 ·
  rw[if_neg h1]
  by_cases h2:(jw c l).2=true
  ·
   rw[if_pos h2]
   have:=td ht (fun x h=>(kA h).1) h2
   change 0≤(jw c l).1∧(jw c l).1<_∧(ak c ((jw c l).1+2)).bad=false at this
   have hc:=uQ ((jw c l).1+2) hk
   exact⟨hc.1,hc.2,wM _ _ _,fun h=>⟨by simp only;omega,by simp only;omega,BJ _ h⟩,fun h=>BH this.2.2 (.inl h),fun h=>absurd h e6⟩
  ·
   rw[if_neg h2]
   by_cases h3:(iX c l).2=true
   ·
    rw[if_pos h3]
    have:=td ht (fun x h=>(kA h).1) h3
    change 0≤(iX c l).1∧(iX c l).1<_∧(ak c ((iX c l).1+2)).bad=false at this
    have hc:=uQ ((iX c l).1+2) hk
    exact⟨hc.1,hc.2,wM _ _ _,fun h=>⟨by simp only;omega,by simp only;omega,BJ _ h⟩,fun h=>BH this.2.2 (.inl h),fun h=>absurd h e6⟩
   ·
    rw[if_neg h3]
    exact⟨hk, .bW c,Int.le_refl _,fun h=>absurd (show(6:Int)=0 from h) (by decide),fun h=>absurd (show(6:Int)=9 from h) (by decide),fun _=>rfl⟩
def bU(c:CV)(a0 a:List Int)(src to:Int):Int×Bool:=
 if to<0 then(if(eU ((aB c (a0++a)).set (src -2).toNat bb) c.ae).2=true then((eU ((aB c (a0++a)).set (src -2).toNat bb) c.ae).1+2,true)else(0,false))else(to,true)
def dv(c:CV)(g id n:Int):List UInt8×Int:=dq ⟨1,id,g.toNat,ju c n⟩ c.size
structure MV where
 c:CV
 a:List Int
 e:Option Int
def bY(v:VV)(src to:Int):List Int→Nat→CV→List Int→MV
 |[],_,c,a=>⟨c,a,none⟩
 |n::r,id,c,a=>
  if n=0∨(n -1)/v.ag.ae≠src then bY v src to r (id+1) c a
  else if(bU c v.at_ a src to).2=false then⟨c,a,some 6⟩
  else if(dv c ((v.gen:Int)+1) id n).2≠0 then⟨c,a,some (dv c ((v.gen:Int)+1) id n).2⟩
  else if bw c (bU c v.at_ a src to).1 (dv c ((v.gen:Int)+1) id n).1≠0 then
   ⟨bH c (bU c v.at_ a src to).1 (dv c ((v.gen:Int)+1) id n).1,a,some (iV (bw c (bU c v.at_ a src to).1 (dv c ((v.gen:Int)+1) id n).1))⟩
  else bY v src to r (id+1) (bH c (bU c v.at_ a src to).1 (dv c ((v.gen:Int)+1) id n).1) (a.set id ((bU c v.at_ a src to).1*v.ag.ae+(ak c (bU c v.at_ a src to).1).used+1))
def cX(x:WV)(src to:Int):WV×Bool×Int:=
 match(bY x.v src to x.v.at_ 0 x.v.ag x.v.at_).e with
 |some e=>(x.on (bY x.v src to x.v.at_ 0 x.v.ag x.v.at_).c,false,e)
 |none=>((dV (x.on (bY x.v src to x.v.at_ 0 x.v.ag x.v.at_).c) (bY x.v src to x.v.at_ 0 x.v.ag x.v.at_).a).1,decide ((dV (x.on (bY x.v src to x.v.at_ 0 x.v.ag x.v.at_).c) (bY x.v src to x.v.at_ 0 x.v.ag x.v.at_).a).2=0),(dV (x.on (bY x.v src to x.v.at_ 0 x.v.ag x.v.at_).c) (bY x.v src to x.v.at_ 0 x.v.ag x.v.at_).a).2)
theorem Fj{x:WV}{src to:Int}{c:CV}{a:List Int}{e:Int}(h:bY x.v src to x.v.at_ 0 x.v.ag x.v.at_=⟨c,a,some e⟩):cX x src to=(x.on c,false,e):=by
 rw[cX,h]
theorem S4{x:WV}{src to:Int}{c:CV}{a:List Int}(h:bY x.v src to x.v.at_ 0 x.v.ag x.v.at_=⟨c,a,none⟩):cX x src to=((dV (x.on c) a).1,decide ((dV (x.on c) a).2=0),(dV (x.on c) a).2):=by
 rw[cX,h]
theorem Fk{c:CV}{a0 a:List Int}{src to:Int}(h:(bU c a0 a src to).2=true)(ht:0≤to→2≤to∧to<c.blocks.length∧(ak c to).bad=false):
  2≤(bU c a0 a src to).1∧(bU c a0 a src to).1<c.blocks.length∧(ak c (bU c a0 a src to).1).bad=false:=by
 rw[bU]at h⊢
 by_cases h1:to<0
 ·
  rw[if_pos h1]at h⊢
  by_cases h2:(eU ((aB c (a0++a)).set (src -2).toNat bb) c.ae).2=true
  ·
   rw[if_pos h2]
   have hT:=(ta c (a0++a)).set (src -2).toNat
   obtain⟨k1,k2,k3,k4⟩:=wJ h2
   change 0≤(eU ((aB c (a0++a)).set (src -2).toNat bb) c.ae).1 at k2
   change(eU ((aB c (a0++a)).set (src -2).toNat bb) c.ae).1<_ at k3
   change nz _ (List.getD _ (eU ((aB c (a0++a)).set (src -2).toNat bb) c.ae).1.toNat _)=true at k4
   rw[hT.1]at k3
   have hi:((aB c (a0++a)).set (src -2).toNat bb)[(eU ((aB c (a0++a)).set (src -2).toNat bb) c.ae).1.toNat]? =some _:=nT (d:=dm) (by rw[hT.1];omega)
   have:=hT.2 _ _ hi (uT k4).1
   rw[show(((eU ((aB c (a0++a)).set (src -2).toNat bb) c.ae).1.toNat:Nat):Int)=(eU ((aB c (a0++a)).set (src -2).toNat bb) c.ae).1 by omega]at this
   exact⟨by simp only;omega,by simp only;omega,this⟩
  ·
   rw[if_neg h2]at h;cases h
 ·
  rw[if_neg h1]
  exact ht (by omega)
theorem wS(c:CV)(b g:Int)(p:List UInt8):jq c b g p=0∨jq c b g p=1∨jq c b g p=7∨jq c b g p=9:=by
 rw[jq];split
 ·
  split
  ·
   omega
  ·
   split
   ·
    omega
   ·
    split
    ·
     rw[jY];split<;>omega
    ·
     omega
 ·
  omega
theorem wT(p:PV)(n:Int):(dq p n).2=0∨(dq p n).2=1:=by
 rw[dq];split<;>simp
theorem BN{c:CV}{b:Int}{p:List UInt8}(h:bw c b p=0)(b':Int):(ak (bH c b p) b').bad=(ak c b').bad:=by
 obtain⟨h1,h2,h3,h4,h5⟩:=od h
 have hh:=(iH.1 h1).1
 obtain⟨_,g2,g3⟩:=fA.1 hh
 rw[h5,eS]
 simp only[ak,List.getD,List.getElem?_set]
 by_cases e:b.toNat=b'.toNat
 ·
  rw[if_pos e,if_pos (by omega),e]
  simp
 ·
  rw[if_neg e]
theorem BO{v:VV}{src to:Int}: ∀(l:List Int) (id:Nat) {c:CV} {a:List Int},aS c=true→dB v.ag c→v.ag.ops≤c.ops→hU v.ag a→(0≤to→2≤to∧to<c.blocks.length∧(ak c to).bad=false)→
  aS (bY v src to l id c a).c=true∧dB v.ag (bY v src to l id c a).c∧c.ops≤(bY v src to l id c a).c.ops∧hU v.ag (bY v src to l id c a).a∧(bY v src to l id c a).a.length=a.length∧
   ((bY v src to l id c a).e=some 0→c.ops<(bY v src to l id c a).c.ops)∧((bY v src to l id c a).e=some 6→ ∀b,(ak (bY v src to l id c a).c b).bad=(ak c b).bad)
 |[],id,c,a,hk,hl,ho,ha,ht=>⟨hk,hl,Int.le_refl _,ha,rfl,fun h=>by simp[bY]at h,fun h=>by simp[bY]at h⟩
 |n::r,id,c,a,hk,hl,ho,ha,ht=>by
  rw[bY]
  by_cases h1:n=0∨(n -1)/v.ag.ae≠src
  ·
   rw[if_pos h1];exact BO r (id+1) hk hl ho ha ht
  ·
   rw[if_neg h1]
   by_cases h2:(bU c v.at_ a src to).2=false
   ·
    rw[if_pos h2];exact⟨hk,hl,Int.le_refl _,ha,rfl,fun h=>by simp at h,fun _ _=>rfl⟩
   ·
    rw[if_neg h2]
    obtain⟨m1,m2,m3⟩:=Fk (by simpa using h2) ht
    by_cases h3:(dv c ((v.gen:Int)+1) id n).2≠0
    ·
     rw[if_pos h3]
     have wU:(dv c ((v.gen:Int)+1) id n).2=1:=(wT _ _).resolve_left h3
     exact⟨hk,hl,Int.le_refl _,ha,rfl,fun h=>absurd (Option.some.inj h) h3,fun h=>absurd (wU.symm.trans (Option.some.inj h)) (by decide)⟩
    ·
     rw[if_neg h3]
     by_cases h4:bw c (bU c v.at_ a src to).1 (dv c ((v.gen:Int)+1) id n).1≠0
     ·
      rw[if_pos h4]
      have gK:bw c (bU c v.at_ a src to).1 (dv c ((v.gen:Int)+1) id n).1=1∨bw c (bU c v.at_ a src to).1 (dv c ((v.gen:Int)+1) id n).1=7∨bw c (bU c v.at_ a src to).1 (dv c ((v.gen:Int)+1) id n).1=9:=(wS _ _ _ _).resolve_left h4
      refine⟨iU hk _ _,hl.trans (gD _ _ _),uR _ _ _,ha,rfl,fun h=> ?_,fun h=> ?_⟩
      ·
       have h:=Option.some.inj h
       rw[iV]at h
       split at h
       ·
        rename_i h9
        have:=qK m3 (.inl h9)
        simp only;omega
       ·
        exact absurd h h4
      ·
       have h:=Option.some.inj h
       rw[iV]at h
       split at h
       ·
        cases h
       ·
        omega
     ·
      rw[if_neg h4]
      have qR:bw c (bU c v.at_ a src to).1 (dv c ((v.gen:Int)+1) id n).1=0:=by simpa using h4
      have dZ:=iH.1 (od qR).1
      have hd:=fa hk
      have nw:=hl.trans (gD c (bU c v.at_ a src to).1 (dv c ((v.gen:Int)+1) id n).1)
      have dG:=qK m3 (p:=(dv c ((v.gen:Int)+1) id n).1) (.inr qR)
      have BP:v.ag.ae=c.ae:=hl.ae.symm
      have ih:=BO r (id+1) (src:=src) (to:=to) (iU hk (bU c v.at_ a src to).1 (dv c ((v.gen:Int)+1) id n).1) nw (by omega) (a:=a.set id ((bU c v.at_ a src to).1*v.ag.ae+(ak c (bU c v.at_ a src to).1).used+1)) (fun y hy=>by
       rcases List.mem_or_eq_of_mem_set hy with hy|rfl
       ·
        exact ha y hy
       ·
        have hq:((bU c v.at_ a src to).1*v.ag.ae+(ak c (bU c v.at_ a src to).1).used+1 -1)/v.ag.ae=(bU c v.at_ a src to).1:=by
         rw[BP,Int.add_sub_cancel,Int.add_comm,Int.add_mul_ediv_right _ _ (by omega),Int.ediv_eq_zero_of_lt dZ.2.1 dZ.2.2.1,Int.zero_add]
        have h0:0≤(bU c v.at_ a src to).1*v.ag.ae:=Int.mul_nonneg (by omega) (by omega)
        have:=dZ.2.1
        exact .inr ⟨by omega,by rw[hq];exact m1,by rw[hq,←hl.len];exact m2⟩) (fun h=>by
       have:=ht h
       rw[(gD c _ _).len,BN qR]
       exact this)
      obtain⟨i1,i2,i3,i4,i5,i6,i7⟩:=ih
      refine⟨i1,i2,by omega,i4,by rw[i5,List.length_set],fun h=>by have:=i6 h;omega,fun h b=> ?_⟩
      rw[i7 h b,BN qR]
theorem Fl(c:CV)(b:Int):dL c b=0∨dL c b=1∨dL c b=7∨dL c b=9:=by
 rw[dL];split
 ·
  split
  ·
   omega
  ·
   split
   ·
    omega
   ·
    split
    ·
     rw[jY];split<;>omega
    ·
     omega
 ·
  omega
theorem S5(c:CV)(l:Int):(aU c l).2.2=0∨(aU c l).2.2=1∨(aU c l).2.2=7∨(aU c l).2.2=9:=by
 rw[aU]
 split
 ·
  exact .inl rfl
 ·
  split
  ·
   exact .inl rfl
  ·
   split
   ·
    exact .inr (.inr (.inr rfl))
   ·
    exact Fl _ _
theorem KM: ∀(n:Nat) (y:WV) (a:List Int) (b:List UInt8),(fc n y a b).2≠6
 |0,y,a,b=>by simp[fc]
 |n+1,y,a,b=>by
  rw[fc]
  split
  ·
   have:=S5 y.v.ag y.v.last
   simp only;omega
  ·
   split
   ·
    simp
   ·
    split
    ·
     have:=wS (aU y.v.ag y.v.last).1 (aU y.v.ag y.v.last).2.1 (ak (aU y.v.ag y.v.last).1 (aU y.v.ag y.v.last).2.1).used b
     simp only[bw];omega
    ·
     exact KM n _ _ _
theorem BQ(y:WV)(a:List Int):(dV y a).2≠6:=by
 rw[dV]
 split
 ·
  rw[cZ]
  split
  ·
   have:=wT ⟨2,max 0 ((a.length:Int) -1),y.v.gen+1,gh a⟩ y.v.ag.size
   simp only;omega
  ·
   simp
 ·
  exact KM _ _ _ _
theorem y4{x:WV}{src to:Int}(hx:cd x)(ht:0≤to→2≤to∧to<x.v.ag.blocks.length∧(ak x.v.ag to).bad=false):
  iJ x (cX x src to).1∧((cX x src to).2.2=0→x.v.ag.ops<(cX x src to).1.v.ag.ops)∧((cX x src to).2.1=true→(cX x src to).2.2=0)∧((cX x src to).2.1=false∧(cX x src to).2.2=6→ ∀b,(ak (cX x src to).1.v.ag b).bad=(ak x.v.ag b).bad):=by
 obtain⟨h1,h2,h3,h4,h5,h6,h7⟩:=BO x.v.at_ 0 (src:=src) hx.ag (.bW _) (Int.le_refl _) hx.qQ ht
 rw[cX]
 split
 ·
  rename_i e he
  refine⟨.on hx h1 h2 h3,fun h=>h6 (by rw[he];exact congrArg some h),fun h=>absurd (show false=true from h) (by simp),fun h b=>h7 (by rw[he];exact congrArg some h.2) b⟩
 ·
  rename_i he
  have dO:=hx.on h1 h2
  have hw:=Ff dO (a:=(bY x.v src to x.v.at_ 0 x.v.ag x.v.at_).a) (h4.cx h2) h5
  refine⟨(iJ.on hx h1 h2 h3).trans hw.1,fun h=> ?_,fun h=>by simpa using h,fun h=> ?_⟩
  ·
   have g:(bY x.v src to x.v.at_ 0 x.v.ag x.v.at_).c.ops<_:=hw.2 h
   simp only;omega
  ·
   exact absurd h.2 (BQ _ _)
open Go.ay
theorem KN: ∀(n:Nat) (c:CV) (b:Int),(eZ n c b).2≠6
 |0,c,b=>by have:=Fl c b;simp only[eZ];omega
 |n+1,c,b=>by
  rw[eZ];split
  ·
   have:=wS c b (ak c b).used (gU c);simp only[bw];omega
  ·
   exact KN n _ _
theorem y5(c:CV)(b:Int):(cE c b).2≠6:=KN _ _ _
def o8(c:CV)(l:List aA)(i:Int):Bool:=decide ((bJ c (l.set i.toNat bb)).2.2=6)&&decide ((l.getD i.toNat dm).live≤yZ (l.set i.toNat bb) c.ae)
def bZ(c:CV)(l:List aA)(i:Int):Int×Int:=if o8 c l i=true then(-1,0)else(bJ c (l.set i.toNat bb)).2
def ei(x:WV)(l:List aA)(i:Int):WV×Int:=
 if(bZ x.v.ag l i).2≠0 then(x.on (bJ x.v.ag (l.set i.toNat bb)).1,iV (bZ x.v.ag l i).2)
 else if(cX (x.on (bJ x.v.ag (l.set i.toNat bb)).1) (i+2) (bZ x.v.ag l i).1).2.1=false∨(l.getD i.toNat dm).used=x.v.ag.ae then
  ((cX (x.on (bJ x.v.ag (l.set i.toNat bb)).1) (i+2) (bZ x.v.ag l i).1).1,(cX (x.on (bJ x.v.ag (l.set i.toNat bb)).1) (i+2) (bZ x.v.ag l i).1).2.2)
 else((cX (x.on (bJ x.v.ag (l.set i.toNat bb)).1) (i+2) (bZ x.v.ag l i).1).1.on (cE (cX (x.on (bJ x.v.ag (l.set i.toNat bb)).1) (i+2) (bZ x.v.ag l i).1).1.v.ag (i+2)).1,
  iV (cE (cX (x.on (bJ x.v.ag (l.set i.toNat bb)).1) (i+2) (bZ x.v.ag l i).1).1.v.ag (i+2)).2)
theorem y6{e:Int}(h:iV e=0):e=0∨e=9:=by
 rw[iV]at h;split at h
 ·
  exact .inr (by assumption)
 ·
  exact .inl h
theorem te{e:Int}(h:iV e=6):e=6:=by
 rw[iV]at h;split at h
 ·
  cases h
 ·
  exact h
theorem wV{c:CV}{l:List aA}{i:Int}(hk:aS c=true)(ht:kb c l):(bZ c l i).2=0→0≤(bZ c l i).1→2≤(bZ c l i).1∧(bZ c l i).1<c.blocks.length∧(ak (bJ c (l.set i.toNat bb)).1 (bZ c l i).1).bad=false:=by
 intro h h0
 rw[bZ]at h h0⊢
 split at h
 ·
  rename_i ha;rw[if_pos ha]at h0;exact absurd (show(0:Int)≤ -1 from h0) (by decide)
 ·
  rename_i ha;rw[if_neg ha];exact(Fi hk (ht.set i.toNat)).2.2.2.1 h
theorem S6{x:WV}{src to:Int}(hx:cd x)(ht:0≤to→2≤to∧to<x.v.ag.blocks.length∧(ak x.v.ag to).bad=false):cd (cX x src to).1∧dB x.v.ag (cX x src to).1.v.ag:=
 ⟨(y4 hx ht).1.ok,(y4 hx ht).1.cx⟩
theorem BR{x:WV}{l:List aA}{i:Int}(hx:cd x)(ht:kb x.v.ag l):
  iJ x (ei x l i).1∧((ei x l i).2=0→x.v.ag.ops<(ei x l i).1.v.ag.ops)∧((ei x l i).2=6→ ∀b,(ak (ei x l i).1.v.ag b).bad=(ak x.v.ag b).bad):=by
 obtain⟨t1,t2,t3,t4,t5,t6⟩:=Fi hx.ag (ht.set i.toNat)
 have hn:=iJ.on hx t1 t2 t3
 rw[ei]
 by_cases h0:(bZ x.v.ag l i).2≠0
 ·
  rw[if_pos h0]
  have he:(bZ x.v.ag l i).2=(bJ x.v.ag (l.set i.toNat bb)).2.2:=by
   rw[bZ]at h0⊢
   split at h0
   ·
    exact absurd rfl h0
   ·
    rename_i ha;rw[if_neg ha]
  refine⟨hn,fun h=> ?_,fun h b=> ?_⟩
  ·
   rcases y6 h with g|g
   ·
    exact absurd g h0
   ·
    exact t5 (he▸g)
  ·
   have:=t6 (he▸te h)
   simp only[WV.on];rw[this]
 ·
  rw[if_neg h0]
  have nt:(bZ x.v.ag l i).2=0:=by simpa using h0
  have hr:=wV (i:=i) hx.ag ht nt
  obtain⟨m1,m2,m3,m4⟩:=y4 (x:=x.on (bJ x.v.ag (l.set i.toNat bb)).1) (src:=i+2) (to:=(bZ x.v.ag l i).1) hn.ok (fun h=>by
   have:=hr h
   exact⟨this.1,by simp only[WV.on];rw[t2.len];exact this.2.1,this.2.2⟩)
  have hb:(bZ x.v.ag l i).2=0→(bJ x.v.ag (l.set i.toNat bb)).2.2=6→(bJ x.v.ag (l.set i.toNat bb)).1=x.v.ag:=fun _ h=>t6 h
  by_cases h1:(cX (x.on (bJ x.v.ag (l.set i.toNat bb)).1) (i+2) (bZ x.v.ag l i).1).2.1=false∨(l.getD i.toNat dm).used=x.v.ag.ae
  ·
   rw[if_pos h1]
   refine⟨hn.trans m1,fun h=> ?_,fun h b=> ?_⟩
   ·
    have g:(bJ x.v.ag (l.set i.toNat bb)).1.ops<_:=m2 h
    simp only;omega
   ·
    have hf:(cX (x.on (bJ x.v.ag (l.set i.toNat bb)).1) (i+2) (bZ x.v.ag l i).1).2.1=false:=by
     cases hq:(cX (x.on (bJ x.v.ag (l.set i.toNat bb)).1) (i+2) (bZ x.v.ag l i).1).2.1 with
     |false=>rfl
     |true=>have:=m3 hq;exact absurd (this.symm.trans h) (by decide)
    rw[m4 ⟨hf,h⟩ b]
    by_cases ha:o8 x.v.ag l i=true
    ·
     simp only[o8,Bool.and_eq_true,decide_eq_true_eq]at ha
     simp only[WV.on];rw[t6 ha.1]
    ·
     exact absurd h (S7 (by
      have:(bZ x.v.ag l i).1=(bJ x.v.ag (l.set i.toNat bb)).2.1:=by rw[bZ,if_neg ha]
      have g:(bJ x.v.ag (l.set i.toNat bb)).2.2=0:=by
       rw[bZ,if_neg ha]at nt;exact nt
      have:=(t4 g).1
      omega))
  ·
   rw[if_neg h1]
   have hm:(cX (x.on (bJ x.v.ag (l.set i.toNat bb)).1) (i+2) (bZ x.v.ag l i).1).2.1=true:=by
    cases hq:(cX (x.on (bJ x.v.ag (l.set i.toNat bb)).1) (i+2) (bZ x.v.ag l i).1).2.1 with
    |true=>rfl
    |false=>exact absurd (.inl hq) h1
   have hz:=m2 (m3 hm)
   have hc:=uQ (i+2) m1.ok.ag
   have ho:=wM (eH (cX (x.on (bJ x.v.ag (l.set i.toNat bb)).1) (i+2) (bZ x.v.ag l i).1).1.v.ag (i+2)).toNat (cX (x.on (bJ x.v.ag (l.set i.toNat bb)).1) (i+2) (bZ x.v.ag l i).1).1.v.ag (i+2)
   refine⟨(hn.trans m1).trans (.on m1.ok hc.1 hc.2 ho),fun _=> ?_,fun h=>absurd (te h) (y5 _ _)⟩
   have g:(bJ x.v.ag (l.set i.toNat bb)).1.ops<_:=hz
   have g2:(cX (x.on (bJ x.v.ag (l.set i.toNat bb)).1) (i+2) (bZ x.v.ag l i).1).1.v.ag.ops≤(cE (cX (x.on (bJ x.v.ag (l.set i.toNat bb)).1) (i+2) (bZ x.v.ag l i).1).1.v.ag (i+2)).1.ops:=ho
   simp only[WV.on]at*;omega
where
 S7 {x:WV} {src to:Int} (h:0≤to):(cX x src to).2.2≠6:=by
  have key: ∀(l:List Int) (id:Nat) (c:CV) (a:List Int),(bY x.v src to l id c a).e≠some 6:=by
   intro l
   induction l with
   |nil=>intro id c a;simp[bY]
   |cons n r ih=>
    intro id c a
    rw[bY]
    split
    ·
     exact ih _ _ _
    ·
     split
     ·
      rename_i h2;rw[bU,if_neg (by omega)]at h2;cases h2
     ·
      split
      ·
       rename_i h3
       have:=(wT ⟨1,id,((x.v.gen:Int)+1).toNat,ju c n⟩ c.size).resolve_left h3
       intro h;have h:=Option.some.inj h;rw[dv]at h;omega
      ·
       split
       ·
        intro h
        have h:=te (Option.some.inj h)
        have:=wS c (bU c x.v.at_ a src to).1 (ak c (bU c x.v.at_ a src to).1).used (dv c ((x.v.gen:Int)+1) id n).1
        rw[bw]at h;omega
       ·
        exact ih _ _ _
  rw[cX]
  split
  ·
   rename_i e he
   intro h
   exact key _ _ _ _ (by rw[he];exact congrArg some h)
  ·
   exact BQ _ _
def mT(p:Int)(x:aA):Bool:=decide (x.used<p)&&decide (x.aT<cK)
def ke(c:CV)(l:List aA):Int×Bool:=eV (bX (mT c.ae) l) c.ae
def jx(x:WV)(l:List aA):WV×Int:=
 if(ke x.v.ag l).2=false then(x,6)else(x.on (cE x.v.ag ((ke x.v.ag l).1+2)).1,iV (cE x.v.ag ((ke x.v.ag l).1+2)).2)
def ba(x:WV):List aA:=aB x.v.ag x.v.at_
def iK(x:WV):Int×Bool:=iW (ba x) x.v.ag.ae
def eI(x:WV):WV×Int:=
 if(iK x).2=true∧uS x.v.gen=false then
  (if(ei x (ba x) (iK x).1).2≠6 then ei x (ba x) (iK x).1 else jx (ei x (ba x) (iK x).1).1 (ba x))
 else jx x (ba x)
theorem kb.cx{c d:CV}{l:List aA}(h:kb c l)(hl:dB c d)(hb: ∀b,(ak d b).bad=(ak c b).bad):kb d l:=⟨by rw[h.1,hl.len],fun i x hx jM=>by rw[hb];exact h.2 i x hx jM⟩
theorem KO{x:WV}{l:List aA}(hx:cd x)(ht:kb x.v.ag l):iJ x (jx x l).1∧((jx x l).2=0→x.v.ag.ops<(jx x l).1.v.ag.ops):=by
 rw[jx];split
 ·
  exact⟨.bW hx,fun h=>absurd (show(6:Int)=0 from h) (by decide)⟩
 ·
  rename_i h
  have hd:=td ht (fun x h=>(kA h).1) (show(ke x.v.ag l).2=true by simpa using h)
  change 0≤(ke x.v.ag l).1∧(ke x.v.ag l).1<_∧(ak x.v.ag ((ke x.v.ag l).1+2)).bad=false at hd
  have hc:=uQ ((ke x.v.ag l).1+2) hx.ag
  exact⟨.on hx hc.1 hc.2 (wM _ _ _),fun h=>BH hd.2.2 (y6 h).symm⟩
theorem BS{x:WV}(hx:cd x):iJ x (eI x).1∧((eI x).2=0→x.v.ag.ops<(eI x).1.v.ag.ops):=by
 have ht:kb x.v.ag (ba x):=ta _ _
 rw[eI];split
 ·
  obtain⟨r1,r2,r3⟩:=BR (i:=(iK x).1) hx ht
  split
  ·
   exact⟨r1,r2⟩
  ·
   rename_i h6
   have tg:(ei x (ba x) (iK x).1).2=6:=by simpa using h6
   have:=KO r1.ok (ht.cx r1.cx (r3 tg))
   exact⟨r1.trans this.1,fun h=>by have:=this.2 h;have:=r1.ops;omega⟩
 ·
  exact KO hx ht
def pa:Nat→WV→Int→WV×Int
 |0,x,_=>(x,0)
 |n+1,x,need=>
  if need≤(mR x.v.ag x.v.at_).1 then(x,0)
  else if need≤(mR x.v.ag x.v.at_).2∧sY x.v.ag x.v.last<2 then({x with beyond:=true},0)
  else if(eI x).2=0 then pa n (eI x).1 need
  else if(eI x).2≠6 then eI x
  else if need≤(mR x.v.ag x.v.at_).2 then({(eI x).1 with beyond:=true},0)
  else((eI x).1,5)
def mU(x:WV)(need:Int):WV×Int:=pa ((cK -x.v.ag.ops).toNat+1) x need
theorem cd.by{x:WV}(h:cd x)(b:Bool):cd {x with beyond:=b}:=⟨h.ag,h.len,h.ae,h.size,h.last,h.gen,h.qQ,h.nA⟩
theorem iJ.by{x y:WV}(h:iJ x y)(b:Bool):iJ x {y with beyond:=b}:=⟨h.ok.by b,h.cx,h.ops,h.wR⟩
theorem KP: ∀(n:Nat) {x:WV} {need:Int},cd x→iJ x (pa n x need).1
 |0,x,need,hx=> .bW hx
 |n+1,x,need,hx=>by
  have hc:=BS hx
  rw[pa]
  split
  ·
   exact .bW hx
  ·
   split
   ·
    exact(iJ.bW hx).by true
   ·
    split
    ·
     exact hc.1.trans (KP n hc.1.ok)
    ·
     split
     ·
      exact hc.1
     ·
      split
      ·
       exact hc.1.by true
      ·
       exact hc.1
theorem S8{x:WV}{need:Int}(hx:cd x):iJ x (mU x need).1:=KP _ hx
def bq(x:It):Int×List UInt8:=(x.id,x.body.xs)
def rP(l:List (Int×List UInt8)):Nat:=(l.filter fun x=>decide (0<x.2.length)).length
theorem S9{l:List (Int×List UInt8)}{i:Nat}{x:Int×List UInt8}(h:l[i]? =some x):((l.take (i+1)).filter fun x=>decide (0<x.2.length)).length=((l.take i).filter fun x=>decide (0<x.2.length)).length+(if 0<x.2.length then 1 else 0):=by
 rw[List.take_add_one,h,List.filter_append,List.length_append]
 congr 1
 simp only[Option.toList_some,List.filter_cons,List.filter_nil]
 split<;>simp_all
def gV(v:VV)(x:Int×List UInt8):PV:=⟨1,x.1,v.gen+1,x.2⟩
def gW(v:VV)(aC:Bool):List (Int×List UInt8)→CV→List Int→CV×List Int×Int
 |[],c,a=>(c,a,0)
 |x::r,c,a=>
  if x.2.length=0 then gW v aC r c (a.set x.1.toNat 0)
  else if(c8 c (v.at_++a) aC (gV v x)).2.2≠0 then((c8 c (v.at_++a) aC (gV v x)).1,a,(c8 c (v.at_++a) aC (gV v x)).2.2)
  else gW v aC r (c8 c (v.at_++a) aC (gV v x)).1 (a.set x.1.toNat (c8 c (v.at_++a) aC (gV v x)).2.1)
def dz(x:WV)(l:List (Int×List UInt8)):WV×Int:=mU {x with beyond:=false} (rP l)
def iz(x:WV)(l:List (Int×List UInt8)):CV×List Int×Int:=gW (dz x l).1.v (dz x l).1.beyond l (dz x l).1.v.ag (dz x l).1.v.at_
def iA(x:WV)(l:List (Int×List UInt8)):WV×Int:=
 if(dz x l).2≠0 then dz x l
 else if(iz x l).2.2≠0 then((dz x l).1.on (iz x l).1,(iz x l).2.2)
 else dV ((dz x l).1.on (iz x l).1) (iz x l).2.1
theorem Fm{v:VV}{aC:Bool}: ∀(l:List (Int×List UInt8)) {c:CV} {a:List Int},aS c=true→3≤c.blocks.length→hU c a→
  aS (gW v aC l c a).1=true∧dB c (gW v aC l c a).1∧c.ops≤(gW v aC l c a).1.ops∧hU c (gW v aC l c a).2.1∧(gW v aC l c a).2.1.length=a.length
 |[],c,a,hk,h2,ha=>⟨hk, .bW c,Int.le_refl _,ha,rfl⟩
 |x::r,c,a,hk,h2,ha=>by
  rw[gW]
  split
  ·
   have:=Fm r (v:=v) (aC:=aC) hk h2 (a:=a.set x.1.toNat 0) (fun y hy=>by
    rcases List.mem_or_eq_of_mem_set hy with hy|rfl
    ·
     exact ha y hy
    ·
     exact .inl rfl)
   rwa [List.length_set]at this
  ·
   obtain⟨p1,p2,p3,p4⟩:=KH (fl:=v.at_++a) (aC:=aC) (p:=gV v x) hk h2
   split
   ·
    exact⟨p1,p2,p3,ha,rfl⟩
   ·
    rename_i h0
    have p5:=p4 (by simpa using h0)
    have:=Fm r (v:=v) (aC:=aC) p1 (by rw[p2.len];exact h2) (a:=a.set x.1.toNat (c8 c (v.at_++a) aC (gV v x)).2.1) (fun y hy=>by
     rw[p2.ae,p2.len]
     rcases List.mem_or_eq_of_mem_set hy with hy|rfl
     ·
      exact ha y hy
     ·
      exact .inr p5)
    obtain⟨i1,i2,i3,i4,i5⟩:=this
    refine⟨i1,p2.trans i2,by omega,fun y hy=> ?_,by rw[i5,List.length_set]⟩
    have:=i4 y hy
    rwa [p2.ae,p2.len]at this
theorem BT{x:WV}{l:List (Int×List UInt8)}(hx:cd x):iJ x (dz x l).1:=by
 have:=S8 (need:=rP l) (hx.by false)
 exact⟨this.ok,this.cx,this.ops,this.wR⟩
theorem Fo{x:WV}{l:List (Int×List UInt8)}(hx:cd x):iJ x (iA x l).1:=by
 have hs:=BT (l:=l) hx
 rw[iA];split
 ·
  exact hs
 ·
  have hl:=hs.ok.oh
  obtain⟨i1,i2,i3,i4,i5⟩:=Fm (v:=(dz x l).1.v) (aC:=(dz x l).1.beyond) l hs.ok.ag (by omega) hs.ok.qQ
  have dO:=hs.trans (.on hs.ok i1 i2 i3)
  split
  ·
   exact dO
  ·
   exact dO.trans (Ff dO.ok (i4.cx i2) i5).1
def mV:Nat→WV→List (Int×List UInt8)→WV×Int
 |0,x,_=>(x,0)
 |n+1,x,l=>if(iA x l).2=5∧cl x.v.ag<cl (iA x l).1.v.ag then mV n (iA x l).1 l else iA x l
theorem wW(c:CV):cl c≤c.blocks.length:=List.length_filter_le _ _
def qS(v:VV)(x:Int×List UInt8):Bool:=decide (0≤x.1)&&decide (x.1<(v.at_.length:Int))&&decide ((x.2.length:Int)≤dR v.ag.size)
def qT(v:VV)(l:List (Int×List UInt8))(i:Nat):Bool:=qS v (l.getD i (0,[]))&& !((l.take i).map Prod.fst).contains (l.getD i (0,[])).1
def p8(v:VV)(l:List (Int×List UInt8)):Bool:=(List.range l.length).all (qT v l)
theorem y7{v:VV}{l:List (Int×List UInt8)}:p8 v l=true↔ ∀i,i<l.length→qT v l i=true:=by simp only[p8,List.all_eq_true,List.mem_range]
def qU(l:List Int)(i:Nat):Int→Option Unit:=fun x=>if x∈l.take i then some ()else none
theorem KQ{l:List Int}{i:Nat}{x:Int}:(qU l i x).isSome=decide (x∈l.take i):=by
 unfold qU;split<;>simp_all
theorem Ta{l:List Int}:(fun _=>none)=qU l 0:=by
 funext x;simp[qU]
theorem Tb{l:List Int}{i:Nat}{y:Int}(h:l[i]? =some y):(fun z=>if z=y then some ()else qU l i z)=qU l (i+1):=by
 funext x
 unfold qU
 rw[List.take_add_one,h]
 by_cases hx:x=y
 ·
  subst hx;simp
 ·
  simp[hx]
def fJ(v:VV)(l:List (Int×List UInt8)):VV×Int:=
 if ¬(kO v=true∧v.gen<281474976710655∧p8 v l=true)then(v,1)
 else if v.ag.off=true then(v,7)
 else((mV (v.ag.blocks.length+1) ⟨v,false⟩ l).1.v,(mV (v.ag.blocks.length+1) ⟨v,false⟩ l).2)
def qa(b p:Int):Int:=if b<4∨32<b∨p<1∨16<p then 0 else(b -4)*p
def lW(c:CV)(ids:Int):WV×Int:=oY ⟨⟨c,[],0,0⟩,false⟩ ids.toNat
def lE(c:CV)(ids:Int):VV×Int:=
 if ¬(gC c=true∧1≤ids∧ids≤jJ c.size)then(⟨c,[],0,0⟩,1)
 else if c.off=true then(⟨c,[],0,0⟩,7)
 else if(lW c ids).2≠0 then(⟨(lW c ids).1.v.ag,[],0,0⟩,(lW c ids).2)
 else((lW c ids).1.v,0)
theorem Tc{b:List UInt8}:(bE b).1.at_.length≤64∧(bE b).1.gen<281474976710656:=by
 rw[bE]
 split
 ·
  simp[gB]
 ·
  rename_i h1
  split
  ·
   simp[gB]
  ·
   rename_i h2
   split
   ·
    simp[gB]
   ·
    rename_i h3
    have hf:rM (cN b).1=true:=by simpa using h3
    simp only[rM,Bool.and_eq_true,decide_eq_true_eq]at hf
    refine⟨?_,Kw b⟩
    have gX:(cN b).1.id<64:=by
     have kR:(cN b).2=0:=by simpa using h1
     rw[cN]at kR h2⊢
     by_cases g1:nx b.length=false
     ·
      rw[if_pos g1]at kR;cases kR
     ·
      rw[if_neg g1]at kR h2⊢
      by_cases g2:jt b=true
      ·
       rw[if_pos g2]at h2;exact absurd rfl h2
      ·
       rw[if_neg g2]at kR h2⊢
       by_cases g3:de (wE b)≠lP (k7 b)
       ·
        rw[if_pos g3]at kR;cases kR
       ·
        rw[if_neg g3]at kR h2⊢
        by_cases g4:oT b=false
        ·
         rw[if_pos g4]at kR;cases kR
        ·
         rw[if_neg g4]at kR h2⊢
         have g5:oT b=true:=by simpa using g4
         simp only[oT,Bool.and_eq_true]at g5
         have:=(wD.1 g5.2).2.2.2.1
         split
         ·
          simp[jr]
         ·
          exact this
    simp only[Bw]
    omega
theorem KR(l:List (List UInt8)): ∀k,(di l k).new.at_.length≤64∧(di l k).new.gen<281474976710656
 |0=>by simp[di,gB]
 |k+1=>by
  rw[di,uN]
  split
  ·
   exact Tc
  ·
   exact KR l k
theorem Td(l:List (List UInt8)):(fm l).2.1.at_.length≤64∧(fm l).2.1.gen<281474976710656:=by
 rw[fm]
 split
 ·
  exact KR _ _
 ·
  split<;>simp[gB]
theorem uY{v:VV}{b:Bool}(h:kO v=true):cd ⟨v,b⟩:=by
 have hr:=BA h
 have ha:= @Ki v h
 simp only[kO,Bool.and_eq_true,decide_eq_true_eq]at h
 obtain⟨⟨⟨h1,h2⟩,h3⟩,h4⟩:=h
 obtain⟨hb,hl,hf⟩:=EY h1
 obtain⟨b1,b2,b3,b4⟩:=gk.1 hb
 have wX:=Td ((ak {v.ag with off:=false} 0).ae++(ak {v.ag with off:=false} 1).ae)
 rw[hf]at h2 h3 h4
 simp only at h2 h3 h4
 have hd:=fa hr.1
 have qP:4≤(v.ag.blocks.length:Int):=b2
 refine⟨hr.1,b2,b3,b4,?_,by rw[←h2];exact wX.2,fun n hn=> ?_,by rw[←h4];exact wX.1⟩
 ·
  rw[←h3]
  have ho0:=eA.1 (qN hr.1 (b:=0) (by omega) (by omega))
  have ho1:=eA.1 (qN hr.1 (b:=1) (by omega) (by omega))
  have hlen:((ak v.ag 0).ae++(ak v.ag 1).ae).length=(ak v.ag 0).ae.length+(ak v.ag 1).ae.length:=List.length_append
  have iL:=EU (l:=(ak v.ag 0).ae++(ak v.ag 1).ae) (by rw[hlen];omega)
  change 0≤(bQ {v.ag with off:=false}).1∧(bQ {v.ag with off:=false}).1<_ at iL
  rw[hlen]at iL
  have g0:0≤(bQ {v.ag with off:=false}).1/v.ag.ae:=Int.ediv_nonneg iL.1 (by omega)
  have g1:(bQ {v.ag with off:=false}).1/v.ag.ae<2:=Int.ediv_lt_of_lt_mul (by omega) (by
   have h9:(bQ {v.ag with off:=false}).1<(((ak v.ag 0).ae.length+(ak v.ag 1).ae.length:Nat):Int):=iL.2
   omega)
  change(bQ {v.ag with off:=false}).1/v.ag.ae=0∨(bQ {v.ag with off:=false}).1/v.ag.ae=1
  omega
 ·
  by_cases h0:n=0
  ·
   exact .inl h0
  ·
   obtain⟨i,hi⟩:=List.getElem?_of_mem hn
   have:=ha hi h0
   have hp:=mK.1 this.2.2
   exact .inr ⟨this.1,hp.1,hp.2.1⟩
open Go.ay
def KS(b:BV):Bool:=decide (b.ae.length≤20)&&b.ae.all fun p=>decide (p.length≤300)
def Fp(c:CV):Bool:=decide (c.blocks.length≤40)&&decide (c.aX.length≤80)&&c.blocks.all KS
theorem abB{c:CV}:Fp c=true↔c.blocks.length≤40∧c.aX.length≤80∧ ∀b∈c.blocks,b.ae.length≤20∧ ∀p∈b.ae,p.length≤300:=by
 simp only[Fp,KS,Bool.and_eq_true,decide_eq_true_eq,List.all_eq_true,and_assoc]
theorem Fq{a b:BV}:a=b↔a.used=b.used∧a.aT=b.aT∧a.bad=b.bad∧a.ae=b.ae:=by
 constructor
 ·
  rintro rfl;exact⟨rfl,rfl,rfl,rfl⟩
 ·
  rintro⟨h1,h2,h3,h4⟩
  obtain⟨a1,a2,a3,a4⟩:=a
  obtain⟨b1,b2,b3,b4⟩:=b
  simp only at h1 h2 h3 h4
  subst h1 h2 h3 h4;rfl
theorem Te{α:Type}{a b:List α}(hl:a.length=b.length)(h: ∀j,j<a.length→a[j]? =b[j]?):a=b:=List.ext_getElem? fun j=>by
 rcases Nat.lt_or_ge j a.length with hj|hj
 ·
  exact h j hj
 ·
  rw[List.getElem?_eq_none hj,List.getElem?_eq_none (by omega)]
def uZ(l:List (List UInt8))(i:Nat):Bool:=decide ((bE (l.getD i [])).2=0)&&(List.range l.length).all fun k=> !(decide ((bE (l.getD k [])).2=0)&&(decide ((bE (l.getD i [])).1.gen<(bE (l.getD k [])).1.gen)||(decide ((bE (l.getD k [])).1.gen=(bE (l.getD i [])).1.gen)&&decide (i<k))))
theorem Fs(l:List (List UInt8)): ∀k,k≤l.length→
  ((di l k).found=true→ ∃i,i<k∧(di l k).at_=(i:Int)∧(bE (l.getD i [])).2=0∧(di l k).new=(bE (l.getD i [])).1∧ ∀j,j<k→(bE (l.getD j [])).2=0→(bE (l.getD j [])).1.gen<(bE (l.getD i [])).1.gen∨((bE (l.getD j [])).1.gen=(bE (l.getD i [])).1.gen∧j≤i))∧
  ((di l k).found=false→ ∀j,j<k→(bE (l.getD j [])).2≠0)∧(di l k).blank=(l.take k).all jt
 |0,_=>⟨fun h=>by simp[di]at h,fun _ j hj=>by omega,by simp[di]⟩
 |k+1,hk=>by
  obtain⟨h1,h2,h3⟩:=Fs l k (by omega)
  obtain⟨b,hb⟩:=get_some (xs:=l) (i:=k) (by omega)
  have hg:l.getD k []=b:=by simp[List.getD,hb]
  have du:(l.take (k+1)).all jt=((l.take k).all jt&&jt b):=by rw[List.take_add_one,hb];simp
  by_cases hq:(bE b).2=0∧((di l k).found=false∨(di l k).new.gen≤(bE b).1.gen)
  ·
   rw[J4 hb hq,h3,du]
   refine⟨fun _=>⟨k,by omega,rfl,by rw[hg];exact hq.1,by rw[hg],fun j hj hv=> ?_⟩,fun h=>by simp at h,rfl⟩
   rw[hg]
   by_cases e:j=k
   ·
    subst e;rw[hg];exact .inr ⟨rfl,Nat.le_refl _⟩
   ·
    have Ak:j<k:=by omega
    rcases hq.2 with hf|hf
    ·
     exact absurd hv (h2 hf j Ak)
    ·
     cases kf:(di l k).found with
     |false=>exact absurd hv (h2 kf j Ak)
     |true=>
      obtain⟨i,hi,ha,AZ,hn,iD⟩:=h1 kf
      rw[hn]at hf
      rcases iD j Ak hv with g|g
      ·
       exact .inl (by omega)
      ·
       by_cases bt:(bE (l.getD j [])).1.gen<(bE b).1.gen
       ·
        exact .inl bt
       ·
        exact .inr ⟨by omega,by omega⟩
  ·
   rw[J5 hb hq]
   refine⟨fun kf=> ?_,fun kf j hj=> ?_,by simp only[h3,du]⟩
   ·
    obtain⟨i,hi,ha,AZ,hn,iD⟩:=h1 kf
    refine⟨i,by omega,ha,AZ,hn,fun j hj hv=> ?_⟩
    by_cases e:j=k
    ·
     subst e
     rw[hg]at hv⊢
     have: ¬(di l j).new.gen≤(bE b).1.gen:=fun h=>hq ⟨hv, .inr h⟩
     rw[hn]at this
     exact .inl (by omega)
    ·
     exact iD j (by omega) hv
   ·
    by_cases e:j=k
    ·
     subst e;rw[hg];exact fun hv=>hq ⟨hv, .inl kf⟩
    ·
     exact h2 kf j (by omega)
theorem BU{l:List (List UInt8)}{i:Nat}:uZ l i=true↔(bE (l.getD i [])).2=0∧ ∀k,k<l.length→(bE (l.getD k [])).2=0→ ¬((bE (l.getD i [])).1.gen<(bE (l.getD k [])).1.gen∨((bE (l.getD k [])).1.gen=(bE (l.getD i [])).1.gen∧i<k)):=by
 simp only[uZ,Bool.and_eq_true,decide_eq_true_eq,List.all_eq_true,List.mem_range,Bool.not_eq_true',Bool.and_eq_false_iff,Bool.or_eq_false_iff,decide_eq_false_iff_not]
 constructor
 ·
  rintro⟨h1,h2⟩
  refine⟨h1,fun k hk hv hc=> ?_⟩
  rcases h2 k hk with g|g
  ·
   exact g hv
  ·
   rcases hc with c|c
   ·
    exact g.1 c
   ·
    rcases g.2 with g|g
    ·
     exact g c.1
    ·
     exact g c.2
 ·
  rintro⟨h1,h2⟩
  refine⟨h1,fun k hk=> ?_⟩
  by_cases hv:(bE (l.getD k [])).2=0
  ·
   have:=h2 k hk hv
   refine .inr ⟨fun c=>this (.inl c),?_⟩
   by_cases e:(bE (l.getD k [])).1.gen=(bE (l.getD i [])).1.gen
   ·
    exact .inr fun c=>this (.inr ⟨e,c⟩)
   ·
    exact .inl e
  ·
   exact .inl hv
theorem KT{l:List (List UInt8)}{i:Nat}(hi:i<l.length)(h:uZ l i=true):fm l=((i:Int),(bE (l.getD i [])).1,0):=by
 obtain⟨h1,h2⟩:=BU.1 h
 obtain⟨s1,s2,s3⟩:=Fs l l.length (Nat.le_refl _)
 cases hf:(di l l.length).found with
 |false=>exact absurd h1 (s2 hf i hi)
 |true=>
  obtain⟨j,hj,ha,hv,hn,iD⟩:=s1 hf
  have e:j=i:=by
   have g1:=iD i hi h1
   have g2:=h2 j hj hv
   omega
  subst e
  rw[fm,if_pos hf,ha,hn]
theorem Tf{l:List (List UInt8)}(h: ∀i,i<l.length→uZ l i=false):fm l=(0,gB,if l.all jt=true then 6 else 2):=by
 obtain⟨s1,s2,s3⟩:=Fs l l.length (Nat.le_refl _)
 rw[List.take_length]at s3
 cases hf:(di l l.length).found with
 |false=>
  rw[fm,if_neg (by rw[hf];simp),s3]
  split<;>rfl
 |true=>
  obtain⟨j,hj,ha,hv,hn,iD⟩:=s1 hf
  have:uZ l j=true:=BU.2 ⟨hv,fun k hk Tg hc=>by have:=iD k hk Tg;omega⟩
  rw[h j hj]at this;cases this
def rQ(c:CV):VV×Int:=
 if(bQ c).2.2≠0 then(j6,(bQ c).2.2)else if k8 c=false then(j6,2)else(⟨c,(bQ c).2.1.at_,(bQ c).2.1.gen,(bQ c).1/c.ae⟩,0)
theorem KU{c:CV}{l:List Int}{i:Nat}{y:Int}(h:l.getD i 0=y):pU c l i=(decide (y=0)||(!(l.take i).contains y&&lS c (i:Int) y)):=by rw[pU,h]
theorem Th(c:CV):bC c=if gC c=false then(j6,1)else if c.off=true then(j6,7)else rQ c:=rfl
theorem Ti(x:VV):kO x=(gC x.ag&&(decide ((rQ x.ag).2=0)&&decide (x.at_=(rQ x.ag).1.at_)&&decide (x.gen=(rQ x.ag).1.gen)&&decide (x.last=(rQ x.ag).1.last))):=by
 have hb:gC {x.ag with off:=false}=gC x.ag:=rfl
 have eX:k8 {x.ag with off:=false}=k8 x.ag:=rfl
 have wY:bQ {x.ag with off:=false}=bQ x.ag:=rfl
 rw[kO,Th,hb]
 cases h:gC x.ag with
 |false=>rw[if_pos rfl];rfl
 |true=>
  rw[if_neg (by simp),if_neg (by simp),rQ,rQ,wY,eX]
  by_cases h1:(bQ x.ag).2.2≠0
  ·
   rw[if_pos h1,if_pos h1,decide_eq_false h1];rfl
  ·
   rw[if_neg h1,if_neg h1]
   by_cases h2:k8 x.ag=false
   ·
    rw[if_pos h2,if_pos h2];rfl
   ·
    rw[if_neg h2,if_neg h2]
    rw[Bool.eq_iff_iff];simp only[Bool.and_eq_true,decide_eq_true_eq,true_and,Bool.true_and]
    constructor
    ·
     rintro⟨⟨g1,g2⟩,g3⟩;exact⟨⟨g3.symm,g1.symm⟩,g2.symm⟩
    ·
     rintro⟨⟨g1,g2⟩,g3⟩;exact⟨⟨g2.symm,g3.symm⟩,g1.symm⟩
open Go.ay
theorem Tj{c:CV}(h:(bC c).2≠0):(bC c).1=j6:=by
 rw[bC]at h⊢
 repeat' split
 all_goals first|rfl|(exfalso;simp_all)
theorem Tk(c:CV):(if(bC c).2=0 then(bC c).1 else j6)=(bC c).1:=by
 by_cases h:(bC c).2=0
 ·
  rw[if_pos h]
 ·
  rw[if_neg h,Tj h]
open Go.ay
def qb(t:List Rt)(n id:Nat):List UInt8:=((t.drop (id*n)).take n).flatMap eG
def la(t:List Rt)(ids n:Nat):List (List UInt8):=(List.range ids).map (qb t n)
def iB(a b:Int):Int:=if a<1∨64<a∨b<20∨240<b then 0 else min (a*(b/20)) 256
def iY(t:List Rt)(ids room:Int):Int:=if dt t=false∨iB ids room=0 then 1 else if iB ids room<t.length then 5 else 0
def jN(t:List Rt)(ids room:Int):List (List UInt8):=if iY t ids room=0 then la t ids.toNat (room/20).toNat else[]
theorem th(t:List Rt)(ids n:Nat):(la t ids n).length=ids:=by simp[la]
theorem Tl(l:List Rt):(l.flatMap eG).length=20*l.length:=by
 induction l with
 |nil=>rfl
 |cons a l ih=>rw[List.flatMap_cons,List.length_append,ih,n9,List.length_cons];omega
theorem Tm(t:List Rt)(n id:Nat):(qb t n id).length=20*min n (t.length -id*n):=by
 rw[qb,Tl,List.length_take,List.length_drop]
theorem KV(t:List Rt)(n id:Nat):(qb t n id).length≤20*n:=by rw[Tm];omega
theorem BW{a b:Int}(h: ¬iB a b=0):1≤a∧a≤64∧20≤b∧b≤240∧iB a b=min (a*(b/20)) 256∧1≤b/20∧b/20≤12:=by
 unfold iB at h⊢
 split at h
 ·
  exact absurd rfl h
 ·
  rename_i hn
  rw[if_neg hn]
  have:1≤b/20∧b/20≤12:=by omega
  exact⟨by omega,by omega,by omega,by omega,rfl,this.1,this.2⟩
theorem Tn{t:List Rt}{r:Rt}{i n id:Nat}(hn:0<n)(hr:t[i]? =some r):qb (t.take (i+1)) n id=qb (t.take i) n id++(if id=i/n then eG r else[]):=by
 have bt:i<t.length:=(List.getElem?_eq_some_iff.1 hr).1
 have e1:t.take (i+1)=t.take i++[r]:=by rw[List.take_add_one,hr];rfl
 have hd:=Nat.div_add_mod i n
 have hm:=Nat.mod_lt i hn
 have hc:n*(i/n)=i/n*n:=Nat.mul_comm _ _
 unfold qb
 have l1:(t.take i).length=i:=by rw[List.length_take];omega
 rw[e1]
 by_cases h1:id=i/n
 ·
  subst h1
  have e2:(t.take i++[r]).drop (i/n*n)=(t.take i).drop (i/n*n)++[r]:=List.drop_append_of_le_length (by rw[l1];omega)
  have e3:((t.take i).drop (i/n*n)++[r]).take n=(t.take i).drop (i/n*n)++[r]:=List.take_of_length_le (by rw[List.length_append,List.length_drop,l1];simp only[List.length_cons,List.length_nil];omega)
  have e4:((t.take i).drop (i/n*n)).take n=(t.take i).drop (i/n*n):=List.take_of_length_le (by rw[List.length_drop,l1];omega)
  rw[if_pos rfl,e2,e3,e4]
  simp
 ·
  rw[if_neg h1,List.append_nil]
  rcases Nat.lt_or_gt_of_ne h1 with h2|h2
  ·
   have:(id+1)*n≤i/n*n:=Nat.mul_le_mul_right _ h2
   rw[Nat.add_mul]at this
   rw[List.drop_append_of_le_length (by rw[l1];omega),List.take_append_of_le_length (by rw[List.length_drop,l1];omega)]
  ·
   have:(i/n+1)*n≤id*n:=Nat.mul_le_mul_right _ h2
   rw[Nat.add_mul]at this
   rw[List.drop_eq_nil_of_le (by rw[List.length_append,l1];simp;omega),List.drop_eq_nil_of_le (by rw[l1];omega)]
theorem To{t:List Rt}{r:Rt}{i n ids:Nat}{x:List UInt8}(hn:0<n)(hr:t[i]? =some r)(hx:(la (t.take i) ids n)[i/n]? =some x):
  la (t.take (i+1)) ids n=(la (t.take i) ids n).set (i/n) (x++eG r):=by
 refine List.ext_getElem? fun j=> ?_
 rw[List.getElem?_set]
 have hk:i/n<ids:=by have:=(List.getElem?_eq_some_iff.1 hx).1;rwa [th]at this
 by_cases hj:j<ids
 ·
  have e: ∀t',(la t' ids n)[j]? =some (qb t' n j):=fun t'=>by simp[la,hj]
  rw[e,Tn hn hr]
  by_cases h:i/n=j
  ·
   subst h
   rw[e]at hx
   rw[if_pos rfl,if_pos rfl,if_pos (by rw[th];exact hk)]
   rw[Option.some.inj hx]
  ·
   rw[if_neg (fun e=>h e.symm),if_neg h,List.append_nil,e]
 ·
  rw[List.getElem?_eq_none (by rw[th];omega),if_neg (by omega),List.getElem?_eq_none (by rw[th];omega)]
theorem Tp(t:List Rt)(ids n:Nat):la (t.take 0) ids n=List.replicate ids []:=by
 refine List.eq_replicate_iff.2 ⟨th _ _ _,fun x hx=> ?_⟩
 obtain⟨j,_,rfl⟩:=List.mem_map.1 hx
 simp[qb]
theorem Tq(t:List Rt)(id n:Nat):la t (id+1) n=la t id n++[qb t n id]:=by simp[la,List.range_succ]
def om(b:List UInt8):Rt:=⟨⟨if b.getD 0 0=1 then 128 else 32,(b.getD 1 0).toNat,nV fun i=>(b.getD (2+i) 0).toNat⟩,UInt16.ofNat ((b.getD 18 0).toNat*256+(b.getD 19 0).toNat)⟩
def rd(b:List UInt8):Option Rt:=if b.getD 0 0≤1 then some (om b)else none
def lb(b:List UInt8):Option (List Rt):=
 if h:b.length<20 then(if b.length=0 then some []else none)
 else match rd (b.take 20),lb (b.drop 20)with
  |some r,some l=>some (r::l)
  |_,_=>none
termination_by b.length
decreasing_by rw[List.length_drop];omega
theorem KW:lb []=some []:=by rw[lb];simp
theorem Fu{b:List UInt8}(h:20≤b.length):lb b=(rd (b.take 20)).bind fun r=>(lb (b.drop 20)).map (r:: ·):=by
 rw[lb,dif_neg (by omega)]
 cases rd (b.take 20)<;>simp
 cases lb (b.drop 20)<;>simp
theorem KX: ∀(k:Nat) (b:List UInt8),b.length≤k→ ¬b.length%20=0→lb b=none
 |0,b,h,hm=>by have:b.length=0:=by omega
               rw[this]at hm;simp at hm
 |k+1,b,h,hm=>by
  by_cases h2:b.length<20
  ·
   rw[lb,dif_pos h2,if_neg (fun e=>by rw[e]at hm;simp at hm)]
  ·
   rw[Fu (by omega),KX k (b.drop 20) (by rw[List.length_drop];omega) (by rw[List.length_drop];omega)]
   cases rd (b.take 20)<;>rfl
def gn:List (List UInt8)→Option (List Rt)
 |[]=>some []
 |b::r=>(lb b).bind fun l=>(gn r).map (l++ ·)
theorem BX: ∀a b:List (List UInt8),gn (a++b)=(gn a).bind fun l=>(gn b).map (l++ ·)
 |[],b=>by simp[gn]
 |x::a,b=>by
  rw[List.cons_append,gn,gn,BX a b]
  cases lb x<;>simp
  cases gn a<;>simp
  cases gn b<;>simp
theorem Fv{bs:List (List UInt8)}{i:Nat}{b:List UInt8}(h:bs[i]? =some b):gn (bs.take (i+1))=(gn (bs.take i)).bind fun l=>(lb b).map (l++ ·):=by
 rw[List.take_add_one,h,Option.toList_some,BX,gn,gn]
 cases gn (bs.take i)with
 |none=>rfl
 |some l=>cases lb b<;>simp
theorem KY{bs:List (List UInt8)}{i:Nat}(h:gn (bs.take i)=none):gn bs=none:=by
 rw[←List.take_append_drop i bs,BX,h];rfl
def iZ(bs:List (List UInt8)):List Rt:=match gn bs with
 |some t=>if dt t=true then t else[]
 |none=>[]
def jO(bs:List (List UInt8)):Int:=match gn bs with
 |some t=>if dt t=true then 0 else 2
 |none=>2
theorem BY{bs:List (List UInt8)}(h:gn bs=none):iZ bs=[]∧jO bs=2:=by simp[iZ,jO,h]
theorem KZ{bs:List (List UInt8)}{t:List Rt}(h:gn bs=some t)(hr:dt t=false):iZ bs=[]∧jO bs=2:=by simp[iZ,jO,h,hr]
theorem Fw{bs:List (List UInt8)}{t:List Rt}(h:gn bs=some t)(hr:dt t=true):iZ bs=t∧jO bs=0:=by simp[iZ,jO,h,hr]
def qV(a b:List (List UInt8))(i:Nat):Option (Int×List UInt8):=if a.getD i []=b.getD i []then none else some ((i:Int),b.getD i [])
def lX(a b:List (List UInt8))(n:Nat):List (Int×List UInt8):=(List.range n).filterMap (qV a b)
def eJ(a b:List (List UInt8)):List (Int×List UInt8):=lX a b (max a.length b.length)
theorem K0{a b:List (List UInt8)}{n:Nat}(h:a.getD n []=b.getD n []):lX a b (n+1)=lX a b n:=by
 have e:qV a b n=none:=by rw[qV,if_pos h]
 simp[lX,List.range_succ,e]
theorem K1{a b:List (List UInt8)}{n:Nat}(h: ¬a.getD n []=b.getD n []):lX a b (n+1)=lX a b n++[((n:Int),b.getD n [])]:=by
 have e:qV a b n=some ((n:Int),b.getD n []):=by rw[qV,if_neg h]
 simp[lX,List.range_succ,e]
theorem BZ(a b:List (List UInt8))(n:Nat):(lX a b n).length≤n:=by
 have:=List.length_filterMap_le (qV a b) (List.range n)
 simpa[lX]using this
def nB(b:List UInt8):Bool:=decide (b.getD 0 0≤1)
def rdv(b:List UInt8):Rt:=if nB b=true then om b else jk
theorem K2(b:List UInt8):rd b=if nB b=true then some (om b)else none:=by simp[rd,nB]
theorem Ts(b:List UInt8):(om b).dG=qA (b.getD 18 0) (b.getD 19 0):=rfl
theorem Tt{b:List UInt8}(hb:b.length=20)(v:Int)(hv:v=if b.getD 0 0=1 then 128 else 32):
  (cQ (((ax jk).setIfInBounds 0 (.int .i64 v)).setIfInBounds 1 (.int .i64 (b.getD 1 0).toNat)) 2 (aK aN ((b.drop 2).take 16)).toArray).setIfInBounds 18 (.int .u16 (qA (b.getD 18 0) (b.getD 19 0)).toNat)=ax (om b):=by
 have hk:(aK aN ((b.drop 2).take 16)).toArray.size=16:=by rw[List.size_toArray,gS,List.length_take,List.length_drop,hb];rfl
 have h0:(ax jk).size=19:=ku _
 have hs:2+(aK aN ((b.drop 2).take 16)).toArray.size≤(((ax jk).setIfInBounds 0 (.int .i64 v)).setIfInBounds 1 (.int .i64 (b.getD 1 0).toNat)).size:=by rw[hk];simp[h0]
 refine Array.ext_getElem? fun j=> ?_
 rw[Array.getElem?_setIfInBounds,mn hs,uj hs,hk]
 by_cases yW:18=j
 ·
  subst yW;rw[if_pos rfl,wb,Ts];simp[h0]
 rw[if_neg yW]
 by_cases h2:2≤j∧j<2+16
 ·
  rw[if_pos h2,nX _ j (by omega),show j=2+(j -2) by omega,pK,lz _ _ (by omega),show 2+(j -2) -2=j -2 by omega]
  have hg:((b.drop 2).take 16)[j -2]? =some (b.getD j 0):=by
   rw[List.getElem?_take,if_pos (by omega),List.getElem?_drop,show 2+(j -2)=j by omega,List.getD,List.getElem?_eq_getElem (by omega)];rfl
  have:=mo (enc:=aN) ((b.drop 2).take 16) (j -2) _ hg 0 (by decide)
  simp only[Nat.mul_one,Nat.add_zero]at this
  rw[show(aK aN ((b.drop 2).take 16)).toArray[j -2]? =(aK aN ((b.drop 2).take 16))[j -2]?by simp,this]
  have e:cH (om b).p.key (j -2)=(b.getD j 0).toNat:=by
   show cH (nV fun i=>(b.getD (2+i) 0).toNat) (j -2)=_
   rw[yz _ _ (by omega),show 2+(j -2)=j by omega]
   have:=(b.getD j 0).toNat_lt;omega
  rw[e];rfl
 rw[if_neg h2,Array.getElem?_setIfInBounds]
 by_cases h1:1=j
 ·
  subst h1;rw[if_pos rfl,nX _ 1 (by decide),uw];simp[h0,om]
 rw[if_neg h1,Array.getElem?_setIfInBounds]
 by_cases hj:0=j
 ·
  subst hj;rw[if_pos rfl,nX _ 0 (by decide),uv];simp[h0,om,hv]
 ·
  rw[if_neg hj,Array.getElem?_eq_none (by rw[h0];omega),Array.getElem?_eq_none (by rw[ku];omega)]
theorem K3{t:List Rt}{ids room:Int}(h:iB ids room=0∨dt t=false):iY t ids room=1∧jN t ids room=[]:=by
 have e:iY t ids room=1:=if_pos h.symm
 exact⟨e,by rw[jN,e];rfl⟩
theorem K4{t:List Rt}{ids room:Int}(h: ¬iB ids room=0)(h':dt t=true)(h2:iB ids room<t.length):iY t ids room=5∧jN t ids room=[]:=by
 have e:iY t ids room=5:=by
  rw[iY,if_neg (by simp[h,h']),if_pos h2]
 exact⟨e,by rw[jN,e];rfl⟩
theorem Fx{t:List Rt}{ids room:Int}(h: ¬iB ids room=0)(h':dt t=true)(h2: ¬iB ids room<t.length):iY t ids room=0∧jN t ids room=la t ids.toNat (room/20).toNat:=by
 have e:iY t ids room=0:=by
  rw[iY,if_neg (by simp[h,h']),if_neg h2]
 exact⟨e,by rw[jN,if_pos e]⟩
theorem Tu{s:Sv}{xs:List (Sl UInt8)}{i:Nat}{y:Sl UInt8}:lx (⟨s,xs.set i y⟩:Sl (Sl UInt8))=(xs.map (·.xs)).set i y.xs:=by simp[lx,List.map_set]
section
variable {bits:Int} {ns:List Nd} {i:Nat} {a a2:List Int} {nd:Nd}
end
section
variable {bits:Int} {W:List Wy} {R:List Rt}
end
section
variable {bits:Int} {t:List Rt}
end
def kB(p:Nat→Bool):Nat→Nat→Nat→Nat
 |0,i,_=>i
 |f+1,i,j=>if i<j then(if p ((i+j)/2)=true then kB p f i ((i+j)/2)else kB p f ((i+j)/2+1) j)else i
def bs(p:Nat→Bool)(n:Nat):Nat:=kB p (n+1) 0 n
theorem B2(p:Nat→Bool): ∀(f g i j:Nat),j -i<f→j -i<g→kB p f i j=kB p g i j
 |0,_,_,_,h,_=>by omega
 |_+1,0,_,_,_,h=>by omega
 |f+1,g+1,i,j,h1,h2=>by
  rw[kB,kB]
  split
  ·
   split
   ·
    exact B2 p f g _ _ (by omega) (by omega)
   ·
    exact B2 p f g _ _ (by omega) (by omega)
  ·
   rfl
theorem K5{p:Nat→Bool}{f i j:Nat}(h:i<j)(hf:j -i<f):kB p f i j=if p ((i+j)/2)=true then kB p f i ((i+j)/2)else kB p f ((i+j)/2+1) j:=by
 match f,hf with
 |f+1,hf=>
  rw[kB,if_pos h]
  split
  ·
   exact B2 p f (f+1) _ _ (by omega) (by omega)
  ·
   exact B2 p f (f+1) _ _ (by omega) (by omega)
theorem Tw{p:Nat→Bool}{f i j:Nat}(h: ¬i<j)(hf:0<f):kB p f i j=i:=by
 match f,hf with
 |f+1,_=>rw[kB,if_neg h]
theorem Fy{p:Nat→Bool}{n:Nat}(hm: ∀a b,a≤b→b<n→p a=true→p b=true): ∀(f i j:Nat),j -i<f→i≤j→j≤n→(∀a,a<i→p a=false)→(∀a,j≤a→a<n→p a=true)→
  kB p f i j≤n∧(∀a,a<kB p f i j→p a=false)∧ ∀a,kB p f i j≤a→a<n→p a=true
 |0,_,_,h,_,_,_,_=>by omega
 |f+1,i,j,h,nN,su,h1,h2=>by
  rw[kB]
  split
  ·
   rename_i bt
   split
   ·
    rename_i hp
    exact Fy hm f _ _ (by omega) (by omega) (by omega) h1 fun a ha Tx=>hm _ a ha Tx hp
   ·
    rename_i hp
    refine Fy hm f _ _ (by omega) (by omega) su (fun a ha=> ?_) h2
    cases oo:p a with
    |false=>rfl
    |true=>exact absurd (hm a ((i+j)/2) (by omega) (by omega) oo) hp
  ·
   obtain rfl:i=j:=by omega
   exact⟨su,h1,h2⟩
theorem K6{p:Nat→Bool}{n:Nat}(hm: ∀a b,a≤b→b<n→p a=true→p b=true):bs p n≤n∧(∀a,a<bs p n→p a=false)∧ ∀a,bs p n≤a→a<n→p a=true:=
 Fy hm (n+1) 0 n (by omega) (Nat.zero_le _) (Nat.le_refl _) (fun a ha=>by omega) (fun a h1 h2=>by omega)
def behind(t:List Rt)(q:cR)(j:Nat):Bool:=match t[j]?with
 |some r=> !dJ r.p q
 |none=>true
def cO(t:List Rt)(q:cR):Nat:=bs (behind t q) t.length
def kC(t:List Rt)(q:cR):Bool:=match t[cO t q]?with
 |some r=>decide (r.p=q)
 |none=>false
theorem Fz{p:Nat→Bool}: ∀(f i j:Nat),i≤j→kB p f i j≤j
 |0,_,_,h=>h
 |f+1,i,j,h=>by
  rw[kB];split
  ·
   split
   ·
    exact Nat.le_trans (Fz f _ _ (by omega)) (by omega)
   ·
    exact Fz f _ _ (by omega)
  ·
   exact h
theorem K7(t:List Rt)(q:cR):cO t q≤t.length:=Fz _ _ _ (Nat.zero_le _)
theorem Ty(t:List Rt)(q:cR):kC t q=(decide (((cO t q:Nat):Int)<(t.length:Int))&&decide ((t.getD (cO t q) jk).p=q)):=by
 rcases Nat.lt_or_ge (cO t q) t.length with h|h
 ·
  have e:t[cO t q]? =some t[cO t q]:=by simp[h]
  rw[kC,e,List.getD_eq_getElem?_getD,e];simp[h]
 ·
  rw[kC,List.getElem?_eq_none h,decide_eq_false (by omega)];rfl
def wZ(t:List Rt)(k:Key)(bits:Int)(n:Nat):Option Rt:=if kC t ⟨bits,n,hK k n⟩=true then t[cO t ⟨bits,n,hK k n⟩]?else none
def qW(t:List Rt)(k:Key)(bits:Int):Nat→Option Rt
 |0=>wZ t k bits 0
 |n+1=>match wZ t k bits (n+1)with
  |some r=>some r
  |none=>qW t k bits n
def w3(t:List Rt)(k:Key)(bits:Int):Bool:=dt t&&cY ⟨bits,bits,k⟩
def u4(t:List Rt)(k:Key)(bits:Int):Rt:=if w3 t k bits=true then(qW t k bits bits.toNat).getD jk else jk
def u5(t:List Rt)(k:Key)(bits:Int):Int:=if w3 t k bits=true then(if(qW t k bits bits.toNat).isSome=true then 0 else 6)else 1
theorem B3{t:List Rt}(h:dt t=true): ∀(i j:Nat) (a b:Rt),i<j→t[i]? =some a→t[j]? =some b→dJ a.p b.p=true:=by
 intro i j
 induction j with
 |zero=>intro a b nN;omega
 |succ j ih=>
  intro a b nN ha hb
  have jf:=(List.getElem?_eq_some_iff.1 hb).1
  obtain⟨c,hc⟩: ∃c,t[j]? =some c:=⟨t[j],by simp[show j<t.length by omega]⟩
  have oq:dJ c.p b.p=true:=by
   cases hx:dJ c.p b.p with
   |true=>rfl
   |false=>
    have:=AQ jf (by rw[AR hb hc,hx];simp)
    rw[this]at h;cases h
  rcases Nat.lt_or_ge i j with h1|h1
  ·
   have Tz:=ih a c h1 ha hc
   have m1:=wq h (List.mem_of_getElem? ha)
   have m2:=wq h (List.mem_of_getElem? hb)
   have m3:=wq h (List.mem_of_getElem? hc)
   rw[lA m1 m3]at Tz
   rw[lA m3 m2]at oq
   rw[lA m1 m2]
   omega
  ·
   obtain rfl:i=j:=by omega
   obtain rfl:=Option.some.inj (ha.symm.trans hc)
   exact oq
theorem w4{p:cR}(h:cY p=true):dJ p p=false:=by
 cases hx:dJ p p with
 |false=>rfl
 |true=>rw[lA h h]at hx;omega
theorem K8{t:List Rt}(h:dt t=true){q:cR}(hq:cY q=true)(a b:Nat)(Ac:a≤b)(hb:b<t.length)(ha:behind t q a=true):behind t q b=true:=by
 obtain⟨x,hx⟩: ∃x,t[a]? =some x:=⟨t[a],by simp[show a<t.length by omega]⟩
 obtain⟨y,hy⟩: ∃y,t[b]? =some y:=⟨t[b],by simp[hb]⟩
 simp only[behind,hx,hy,Bool.not_eq_true']at ha⊢
 rcases Nat.lt_or_ge a b with h1|h1
 ·
  have hl:=B3 h a b x y h1 hx hy
  have m1:=wq h (List.mem_of_getElem? hx)
  have m2:=wq h (List.mem_of_getElem? hy)
  cases hz:dJ y.p q with
  |false=>rfl
  |true=>
   rw[lA m1 m2]at hl
   rw[lA m2 hq]at hz
   have:dJ x.p q=true:=by rw[lA m1 hq];omega
   rw[this]at ha;cases ha
 ·
  obtain rfl:a=b:=by omega
  obtain rfl:=Option.some.inj (hx.symm.trans hy)
  exact ha
theorem TA{t:List Rt}(h:dt t=true){q:cR}(hq:cY q=true){r:Rt}(hr:r∈t)(e:r.p=q):t[cO t q]? =some r∧kC t q=true:=by
 obtain⟨h1,h2,h3⟩:=K6 (p:=behind t q) (n:=t.length) fun a b=>K8 h hq a b
 obtain⟨i,hi⟩:=List.mem_iff_getElem?.1 hr
 have ft:=(List.getElem?_eq_some_iff.1 hi).1
 have e1:cO t q=i:=by
  have rR:behind t q i=true:=by simp only[behind,hi,e,w4 hq];rfl
  rcases Nat.lt_trichotomy (cO t q) i with h4|h4|h4
  ·
   obtain⟨x,hx⟩: ∃x,t[cO t q]? =some x:=⟨t[cO t q],by simp[show cO t q<t.length by omega]⟩
   have h5:=h3 (cO t q) (Nat.le_refl _) (by omega)
   have h6:=B3 h _ _ x r h4 hx hi
   simp only[behind,hx]at h5
   rw[e]at h6;rw[h6]at h5;cases h5
  ·
   exact h4
  ·
   have:=h2 i h4;rw[this]at rR;cases rR
 rw[kC,e1,hi]
 exact⟨rfl,by simp[e]⟩
theorem y8{t:List Rt}{q:cR}(h:kC t q=true): ∃r∈t,t[cO t q]? =some r∧r.p=q:=by
 rw[kC]at h
 cases e:t[cO t q]?with
 |none=>rw[e]at h;cases h
 |some r=>rw[e]at h;exact⟨r,List.mem_of_getElem? e,rfl,by simpa using h⟩
section
variable {t:List Rt} {k:Key} {bits:Int}
end
structure Ord(t:List Rt):Prop where
 may: ∀r∈t,cY r.p=true
 less:t.Pairwise fun a b=>dJ a.p b.p=true
theorem B4{t:List Rt}(h:dt t=true):Ord t:=⟨fun _ hr=>wq h hr,by
 rw[List.pairwise_iff_getElem]
 intro i j hi hj nN
 exact B3 h i j _ _ nN (by simp[hi]) (by simp[hj])⟩
theorem TB{t:List Rt}(h:Ord t)(hl:t.length≤256):dt t=true:=by
 refine IU hl ?_
 have key: ∀n,n≤t.length→pM t n=true:=by
  intro n
  induction n with
  |zero=>intro _;rfl
  |succ n ih=>
   intro hn
   rw[D2,ih (by omega),Bool.true_and]
   have hi:t[n]? =some t[n]:=by simp[show n<t.length by omega]
   have hm:=h.may _ (List.mem_of_getElem? hi)
   cases n with
   |zero=>rw[D3 hi,hm]
   |succ m=>
    have hq:t[m]? =some t[m]:=by simp[show m<t.length by omega]
    rw[AR hi hq,hm,Bool.true_and]
    exact(List.pairwise_iff_getElem.1 h.less) m (m+1) (by omega) (by omega) (by omega)
 exact key _ (Nat.le_refl _)
theorem Ord.sub{s t:List Rt}(h:Ord t)(hs:s.Sublist t):Ord s:=⟨fun r hr=>h.may r (hs.subset hr),h.less.sublist hs⟩
def TC(r:Rt)(p:cR):Bool:=decide (r.p≠p)&&Qy r.p p
def TD(t:List Rt)(p:cR):Option Rt:=t.reverse.find? fun r=>TC r p
def abC(t:List Rt)(r:Rt):Bool:=match TD t r.p with
 |none=>true
 |some o=> !decide (o.dG=r.dG)
structure Ch where
 r:Rt
 gone:Bool
 deriving DecidableEq
def K9:Ch:=⟨jk,false⟩
def fQ(x:Ch):Array Value:=ax x.r++ #[.bool x.gone]
theorem La(x:Ch):(fQ x).size=20:=by unfold fQ;rw[Array.size_append,ku];rfl
theorem Lb(x:Ch)(j:Nat)(h:j<19):(fQ x)[j]? =(ax x.r)[j]? :=by
 unfold fQ;rw[Array.getElem?_append_left (by rw[ku];exact h)]
theorem TE(x:Ch):(fQ x)[19]? =some (.bool x.gone):=by
 unfold fQ;rw[Array.getElem?_append_right (by rw[ku];omega),ku];rfl
def fo(t:List Rt)(c:Ch):Int:=if cY c.r.p=true then(if kC t c.r.p=true then 0 else if c.gone=true then 6 else if 256≤t.length then 5 else 0)else 1
def jy(t:List Rt)(c:Ch):List Rt:=
 if fo t c=0 then(if c.gone=true then t.take (cO t c.r.p)++t.drop (cO t c.r.p+1)else if kC t c.r.p=true then t.set (cO t c.r.p) c.r else t.take (cO t c.r.p)++c.r::t.drop (cO t c.r.p))else t
theorem Lc{t:List Rt}(h:t.length≤256)(c:Ch):(jy t c).length≤256:=by
 unfold jy
 split
 ·
  rename_i he
  split
  ·
   simp only[List.length_append,List.length_take,List.length_drop];omega
  ·
   split
   ·
    simpa using h
   ·
    rename_i h1 h2
    have:t.length<256:=by
     apply Classical.byContradiction;intro hn
     unfold fo at he
     rw[if_neg h2,if_neg h1,if_pos (show 256≤t.length by omega)]at he
     split at he<;>omega
    have hp:=K7 t c.r.p
    simp only[List.length_append,List.length_take,List.length_cons,List.length_drop];omega
 ·
  exact h
def kS:List Rt→List Ch→List Rt×Int
 |t,[]=>(t,0)
 |t,c::l=>if fo t c=0 then kS (jy t c) l else(t,fo t c)
theorem Ld{t:List Rt}{l:List Ch}{i:Nat}{c:Ch}(hc:l[i]? =some c):kS t (l.drop i)=if fo t c=0 then kS (jy t c) (l.drop (i+1))else(t,fo t c):=by
 obtain⟨hi,rfl⟩:=List.getElem?_eq_some_iff.1 hc
 rw[List.drop_eq_getElem_cons hi,kS]
def dW(t:List Rt)(l:List Ch):Int:=if dt t=true then(kS t l).2 else 1
def cT(t:List Rt)(l:List Ch):List Rt:=if dW t l=0 then(kS t l).1 else t
end Go.Kb
namespace Go.Proofs.YtaipiecplldinaaGreat
open Go.ay
instance abD:gQ Tryz.prog 3:=⟨⟨_,Tryz.underlying3,rfl⟩,by kernel_rfl⟩
instance abE:lI Tryz.prog 3 .i64:=⟨Tryz.underlying3⟩
instance abF:gQ Tryz.prog 4:=⟨⟨_,Tryz.underlying4,rfl⟩,by kernel_rfl⟩
instance abG:gQ Tryz.prog 5:=⟨⟨_,Tryz.underlying5,rfl⟩,by kernel_rfl⟩
instance abH:lI Tryz.prog 5 .u8:=⟨Tryz.underlying5⟩
instance abI:gQ Tryz.prog 22:=⟨⟨_,Tryz.underlying22,rfl⟩,by kernel_rfl⟩
instance abJ:eW Tryz.prog 22 48 4:=⟨Tryz.underlying22,by kernel_rfl⟩
instance abK:gQ Tryz.prog 23:=⟨⟨_,Tryz.underlying23,rfl⟩,by kernel_rfl⟩
instance abL:eW Tryz.prog 23 94 4:=⟨Tryz.underlying23,by kernel_rfl⟩
instance abM:gv Tryz.prog 25 6:=⟨⟨_,Tryz.underlying25,rfl⟩,by kernel_rfl⟩
instance abN:dH Tryz.prog 25 0 0:=⟨⟨_,_,0,Tryz.underlying25,rfl,rfl,by kernel_rfl⟩⟩
instance abO:dH Tryz.prog 25 1 1:=⟨⟨_,_,0,Tryz.underlying25,rfl,rfl,by kernel_rfl⟩⟩
instance abP:dH Tryz.prog 25 2 2:=⟨⟨_,_,0,Tryz.underlying25,rfl,rfl,by kernel_rfl⟩⟩
instance abQ:dH Tryz.prog 25 3 3:=⟨⟨_,_,0,Tryz.underlying25,rfl,rfl,by kernel_rfl⟩⟩
instance abR:dH Tryz.prog 25 4 4:=⟨⟨_,_,0,Tryz.underlying25,rfl,rfl,by kernel_rfl⟩⟩
instance abS:dH Tryz.prog 25 5 5:=⟨⟨_,_,0,Tryz.underlying25,rfl,rfl,by kernel_rfl⟩⟩
instance abT:gQ Tryz.prog 26:=⟨⟨_,Tryz.underlying26,rfl⟩,by kernel_rfl⟩
instance abU:eW Tryz.prog 26 3 1:=⟨Tryz.underlying26,by kernel_rfl⟩
instance abV:gQ Tryz.prog 27:=⟨⟨_,Tryz.underlying27,rfl⟩,by kernel_rfl⟩
instance abW:lI Tryz.prog 27 .u64:=⟨Tryz.underlying27⟩
instance abX:gv Tryz.prog 29 9:=⟨⟨_,Tryz.underlying29,rfl⟩,by kernel_rfl⟩
instance abY:dH Tryz.prog 29 0 0:=⟨⟨_,_,5,Tryz.underlying29,rfl,rfl,by kernel_rfl⟩⟩
instance abZ:dH Tryz.prog 29 1 6:=⟨⟨_,_,0,Tryz.underlying29,rfl,rfl,by kernel_rfl⟩⟩
instance ab0:dH Tryz.prog 29 2 7:=⟨⟨_,_,0,Tryz.underlying29,rfl,rfl,by kernel_rfl⟩⟩
instance ab1:dH Tryz.prog 29 3 8:=⟨⟨_,_,0,Tryz.underlying29,rfl,rfl,by kernel_rfl⟩⟩
instance ab2:gQ Tryz.prog 38:=⟨⟨_,Tryz.underlying38,rfl⟩,by kernel_rfl⟩
instance ab3:eW Tryz.prog 38 5 1:=⟨Tryz.underlying38,by kernel_rfl⟩
instance ab4:eW Tryz.prog 43 50 4:=⟨Tryz.underlying43,by kernel_rfl⟩
instance ab5:gQ Tryz.prog 46:=⟨⟨_,Tryz.underlying46,rfl⟩,by kernel_rfl⟩
instance ab6:eW Tryz.prog 46 38 1:=⟨Tryz.underlying46,by kernel_rfl⟩
instance ab7:gv Tryz.prog 48 4:=⟨⟨_,Tryz.underlying48,rfl⟩,by kernel_rfl⟩
instance ab8:dH Tryz.prog 48 0 0:=⟨⟨_,_,0,Tryz.underlying48,rfl,rfl,by kernel_rfl⟩⟩
instance ab9:dH Tryz.prog 48 1 1:=⟨⟨_,_,0,Tryz.underlying48,rfl,rfl,by kernel_rfl⟩⟩
instance aca:dH Tryz.prog 48 2 2:=⟨⟨_,_,0,Tryz.underlying48,rfl,rfl,by kernel_rfl⟩⟩
instance acb:dH Tryz.prog 48 3 3:=⟨⟨_,_,0,Tryz.underlying48,rfl,rfl,by kernel_rfl⟩⟩
instance acd:gv Tryz.prog 50 4:=⟨⟨_,Tryz.underlying50,rfl⟩,by kernel_rfl⟩
instance ace:dH Tryz.prog 50 0 0:=⟨⟨_,_,0,Tryz.underlying50,rfl,rfl,by kernel_rfl⟩⟩
instance acf:dH Tryz.prog 50 1 1:=⟨⟨_,_,0,Tryz.underlying50,rfl,rfl,by kernel_rfl⟩⟩
instance acg:dH Tryz.prog 50 2 2:=⟨⟨_,_,0,Tryz.underlying50,rfl,rfl,by kernel_rfl⟩⟩
instance ach:dH Tryz.prog 50 3 3:=⟨⟨_,_,0,Tryz.underlying50,rfl,rfl,by kernel_rfl⟩⟩
instance aci:gQ Tryz.prog 52:=⟨⟨_,Tryz.underlying52,rfl⟩,by kernel_rfl⟩
instance acj:eW Tryz.prog 52 68 19:=⟨Tryz.underlying52,by kernel_rfl⟩
instance ack:gv Tryz.prog 54 10:=⟨⟨_,Tryz.underlying54,rfl⟩,by kernel_rfl⟩
instance acm:dH Tryz.prog 54 0 0:=⟨⟨_,_,8,Tryz.underlying54,rfl,rfl,by kernel_rfl⟩⟩
instance acn:dH Tryz.prog 54 1 9:=⟨⟨_,_,0,Tryz.underlying54,rfl,rfl,by kernel_rfl⟩⟩
instance aco:gv Tryz.prog 56 16:=⟨⟨_,Tryz.underlying56,rfl⟩,by kernel_rfl⟩
instance acp:tZ Tryz.prog 56 16 1:=⟨⟨_,Tryz.underlying56,by kernel_rfl⟩⟩
instance acq:gv Tryz.prog 65 18:=⟨⟨_,Tryz.underlying65,rfl⟩,by kernel_rfl⟩
instance acr:dH Tryz.prog 65 0 0:=⟨⟨_,_,0,Tryz.underlying65,rfl,rfl,by kernel_rfl⟩⟩
instance acs:dH Tryz.prog 65 1 1:=⟨⟨_,_,0,Tryz.underlying65,rfl,rfl,by kernel_rfl⟩⟩
instance acu:dH Tryz.prog 65 2 2:=⟨⟨_,_,15,Tryz.underlying65,rfl,rfl,by kernel_rfl⟩⟩
instance acv:gQ Tryz.prog 66:=⟨⟨_,Tryz.underlying66,rfl⟩,by kernel_rfl⟩
instance acw:lI Tryz.prog 66 .u16:=⟨Tryz.underlying66⟩
instance acx:gv Tryz.prog 68 19:=⟨⟨_,Tryz.underlying68,rfl⟩,by kernel_rfl⟩
instance acy:dH Tryz.prog 68 0 0:=⟨⟨_,_,17,Tryz.underlying68,rfl,rfl,by kernel_rfl⟩⟩
instance acz:dH Tryz.prog 68 1 18:=⟨⟨_,_,0,Tryz.underlying68,rfl,rfl,by kernel_rfl⟩⟩
instance acA:gQ Tryz.prog 76:=⟨⟨_,Tryz.underlying76,rfl⟩,by kernel_rfl⟩
instance acB:eW Tryz.prog 76 91 20:=⟨Tryz.underlying76,by kernel_rfl⟩
instance acC:eW Tryz.prog 88 76 1:=⟨Tryz.underlying88,by kernel_rfl⟩
instance acD:gv Tryz.prog 91 20:=⟨⟨_,Tryz.underlying91,rfl⟩,by kernel_rfl⟩
instance acE:dH Tryz.prog 91 0 0:=⟨⟨_,_,18,Tryz.underlying91,rfl,rfl,by kernel_rfl⟩⟩
instance acF:dH Tryz.prog 91 1 19:=⟨⟨_,_,0,Tryz.underlying91,rfl,rfl,by kernel_rfl⟩⟩
instance acG:gv Tryz.prog 94 4:=⟨⟨_,Tryz.underlying94,rfl⟩,by kernel_rfl⟩
instance acH:dH Tryz.prog 94 0 0:=⟨⟨_,_,0,Tryz.underlying94,rfl,rfl,by kernel_rfl⟩⟩
instance acI:dH Tryz.prog 94 1 1:=⟨⟨_,_,0,Tryz.underlying94,rfl,rfl,by kernel_rfl⟩⟩
instance acJ:dH Tryz.prog 94 2 2:=⟨⟨_,_,0,Tryz.underlying94,rfl,rfl,by kernel_rfl⟩⟩
instance acK:dH Tryz.prog 94 3 3:=⟨⟨_,_,0,Tryz.underlying94,rfl,rfl,by kernel_rfl⟩⟩
instance acL:gv Tryz.prog 102 2:=⟨⟨_,Tryz.underlying102,rfl⟩,by kernel_rfl⟩
instance acM:dH Tryz.prog 102 0 0:=⟨⟨_,_,0,Tryz.underlying102,rfl,rfl,by kernel_rfl⟩⟩
instance acN:dH Tryz.prog 102 1 1:=⟨⟨_,_,0,Tryz.underlying102,rfl,rfl,by kernel_rfl⟩⟩
instance acO:eW Tryz.prog 103 102 2:=⟨Tryz.underlying103,by kernel_rfl⟩
instance acP:gv Tryz.prog 110 4:=⟨⟨_,Tryz.underlying110,rfl⟩,by kernel_rfl⟩
instance acQ:dH Tryz.prog 110 0 0:=⟨⟨_,_,0,Tryz.underlying110,rfl,rfl,by kernel_rfl⟩⟩
instance acR:dH Tryz.prog 110 1 1:=⟨⟨_,_,0,Tryz.underlying110,rfl,rfl,by kernel_rfl⟩⟩
instance acS:dH Tryz.prog 110 2 2:=⟨⟨_,_,0,Tryz.underlying110,rfl,rfl,by kernel_rfl⟩⟩
instance acT:dH Tryz.prog 110 3 3:=⟨⟨_,_,0,Tryz.underlying110,rfl,rfl,by kernel_rfl⟩⟩
instance acU:gQ Tryz.prog 139:=⟨⟨_,Tryz.underlying139,rfl⟩,by kernel_rfl⟩
instance acV:dH Tryz.prog 141 0 0:=⟨⟨_,_,8,Tryz.underlying141,rfl,rfl,by kernel_rfl⟩⟩
instance acW:dH Tryz.prog 141 1 9:=⟨⟨_,_,0,Tryz.underlying141,rfl,rfl,by kernel_rfl⟩⟩
instance acX:gv Tryz.prog 147 2:=⟨⟨_,Tryz.underlying147,rfl⟩,by kernel_rfl⟩
instance acY:dH Tryz.prog 147 0 0:=⟨⟨_,_,0,Tryz.underlying147,rfl,rfl,by kernel_rfl⟩⟩
instance acZ:dH Tryz.prog 147 1 1:=⟨⟨_,_,0,Tryz.underlying147,rfl,rfl,by kernel_rfl⟩⟩
instance ac0:eW Tryz.prog 161 26 1:=⟨Tryz.underlying161,by kernel_rfl⟩
instance ac1:gv Tryz.prog 163 0:=⟨⟨_,Tryz.underlying163,rfl⟩,by kernel_rfl⟩
instance ac2:eW Tryz.prog 186 46 1:=⟨Tryz.underlying186,by kernel_rfl⟩
instance ac3:lI Tryz.prog 191 .u32:=⟨Tryz.underlying191⟩
instance ac4:tZ Tryz.prog 197 20 1:=⟨⟨_,Tryz.underlying197,by kernel_rfl⟩⟩
instance ac5:lI Tryz.prog 198 .u64:=⟨Tryz.underlying198⟩
instance ac6:gv Tryz.prog 234 5:=⟨⟨_,Tryz.underlying234,rfl⟩,by kernel_rfl⟩
instance ac7:dH Tryz.prog 234 0 0:=⟨⟨_,_,3,Tryz.underlying234,rfl,rfl,by kernel_rfl⟩⟩
instance ac8:dH Tryz.prog 234 1 4:=⟨⟨_,_,0,Tryz.underlying234,rfl,rfl,by kernel_rfl⟩⟩
instance ac9:gQ Tryz.prog 235:=⟨⟨_,Tryz.underlying235,rfl⟩,by kernel_rfl⟩
instance ada:eW Tryz.prog 238 235 1:=⟨Tryz.underlying238,by kernel_rfl⟩
instance adb:aR Tryz.prog 12:=⟨⟨Tryz.f12,Tryz.func12,by kernel_rfl,by kernel_rfl⟩⟩
instance ade:aR Tryz.prog 19:=⟨⟨Tryz.f19,Tryz.func19,by kernel_rfl,by kernel_rfl⟩⟩
instance adf:aR Tryz.prog 20:=⟨⟨Tryz.f20,Tryz.func20,by kernel_rfl,by kernel_rfl⟩⟩
instance adg:aR Tryz.prog 21:=⟨⟨Tryz.f21,Tryz.func21,by kernel_rfl,by kernel_rfl⟩⟩
instance adh:aR Tryz.prog 24:=⟨⟨Tryz.f24,Tryz.func24,by kernel_rfl,by kernel_rfl⟩⟩
instance adi:aR Tryz.prog 27:=⟨⟨Tryz.f27,Tryz.func27,by kernel_rfl,by kernel_rfl⟩⟩
instance adj:aR Tryz.prog 28:=⟨⟨Tryz.f28,Tryz.func28,by kernel_rfl,by kernel_rfl⟩⟩
instance adk:aR Tryz.prog 30:=⟨⟨Tryz.f30,Tryz.func30,by kernel_rfl,by kernel_rfl⟩⟩
instance adl:aR Tryz.prog 31:=⟨⟨Tryz.f31,Tryz.func31,by kernel_rfl,by kernel_rfl⟩⟩
instance adm:aR Tryz.prog 32:=⟨⟨Tryz.f32,Tryz.func32,by kernel_rfl,by kernel_rfl⟩⟩
instance adn:aR Tryz.prog 33:=⟨⟨Tryz.f33,Tryz.func33,by kernel_rfl,by kernel_rfl⟩⟩
instance ado:aR Tryz.prog 34:=⟨⟨Tryz.f34,Tryz.func34,by kernel_rfl,by kernel_rfl⟩⟩
instance adp:aR Tryz.prog 35:=⟨⟨Tryz.f35,Tryz.func35,by kernel_rfl,by kernel_rfl⟩⟩
instance adq:aR Tryz.prog 36:=⟨⟨Tryz.f36,Tryz.func36,by kernel_rfl,by kernel_rfl⟩⟩
instance adr:aR Tryz.prog 37:=⟨⟨Tryz.f37,Tryz.func37,by kernel_rfl,by kernel_rfl⟩⟩
instance ads:aR Tryz.prog 38:=⟨⟨Tryz.f38,Tryz.func38,by kernel_rfl,by kernel_rfl⟩⟩
instance adt:aR Tryz.prog 39:=⟨⟨Tryz.f39,Tryz.func39,by kernel_rfl,by kernel_rfl⟩⟩
instance adu:aR Tryz.prog 40:=⟨⟨Tryz.f40,Tryz.func40,by kernel_rfl,by kernel_rfl⟩⟩
instance adv:aR Tryz.prog 41:=⟨⟨Tryz.f41,Tryz.func41,by kernel_rfl,by kernel_rfl⟩⟩
instance adw:aR Tryz.prog 42:=⟨⟨Tryz.f42,Tryz.func42,by kernel_rfl,by kernel_rfl⟩⟩
instance adx:aR Tryz.prog 43:=⟨⟨Tryz.f43,Tryz.func43,by kernel_rfl,by kernel_rfl⟩⟩
instance ady:aR Tryz.prog 44:=⟨⟨Tryz.f44,Tryz.func44,by kernel_rfl,by kernel_rfl⟩⟩
instance adz:aR Tryz.prog 49:=⟨⟨Tryz.f49,Tryz.func49,by kernel_rfl,by kernel_rfl⟩⟩
instance adA:aR Tryz.prog 51:=⟨⟨Tryz.f51,Tryz.func51,by kernel_rfl,by kernel_rfl⟩⟩
instance adB:aR Tryz.prog 52:=⟨⟨Tryz.f52,Tryz.func52,by kernel_rfl,by kernel_rfl⟩⟩
instance adC:aR Tryz.prog 53:=⟨⟨Tryz.f53,Tryz.func53,by kernel_rfl,by kernel_rfl⟩⟩
instance adD:aR Tryz.prog 54:=⟨⟨Tryz.f54,Tryz.func54,by kernel_rfl,by kernel_rfl⟩⟩
instance adE:aR Tryz.prog 57:=⟨⟨Tryz.f57,Tryz.func57,by kernel_rfl,by kernel_rfl⟩⟩
instance adF:aR Tryz.prog 58:=⟨⟨Tryz.f58,Tryz.func58,by kernel_rfl,by kernel_rfl⟩⟩
instance adG:aR Tryz.prog 59:=⟨⟨Tryz.f59,Tryz.func59,by kernel_rfl,by kernel_rfl⟩⟩
instance adH:aR Tryz.prog 62:=⟨⟨Tryz.f62,Tryz.func62,by kernel_rfl,by kernel_rfl⟩⟩
instance adI:aR Tryz.prog 65:=⟨⟨Tryz.f65,Tryz.func65,by kernel_rfl,by kernel_rfl⟩⟩
instance adJ:aR Tryz.prog 66:=⟨⟨Tryz.f66,Tryz.func66,by kernel_rfl,by kernel_rfl⟩⟩
instance adK:aR Tryz.prog 67:=⟨⟨Tryz.f67,Tryz.func67,by kernel_rfl,by kernel_rfl⟩⟩
instance adL:aR Tryz.prog 68:=⟨⟨Tryz.f68,Tryz.func68,by kernel_rfl,by kernel_rfl⟩⟩
instance adM:aR Tryz.prog 69:=⟨⟨Tryz.f69,Tryz.func69,by kernel_rfl,by kernel_rfl⟩⟩
instance adN:aR Tryz.prog 70:=⟨⟨Tryz.f70,Tryz.func70,by kernel_rfl,by kernel_rfl⟩⟩
instance adO:aR Tryz.prog 71:=⟨⟨Tryz.f71,Tryz.func71,by kernel_rfl,by kernel_rfl⟩⟩
instance adP:aR Tryz.prog 72:=⟨⟨Tryz.f72,Tryz.func72,by kernel_rfl,by kernel_rfl⟩⟩
instance adQ:aR Tryz.prog 73:=⟨⟨Tryz.f73,Tryz.func73,by kernel_rfl,by kernel_rfl⟩⟩
instance adR:aR Tryz.prog 74:=⟨⟨Tryz.f74,Tryz.func74,by kernel_rfl,by kernel_rfl⟩⟩
instance adS:aR Tryz.prog 75:=⟨⟨Tryz.f75,Tryz.func75,by kernel_rfl,by kernel_rfl⟩⟩
instance adT:aR Tryz.prog 76:=⟨⟨Tryz.f76,Tryz.func76,by kernel_rfl,by kernel_rfl⟩⟩
instance adU:aR Tryz.prog 77:=⟨⟨Tryz.f77,Tryz.func77,by kernel_rfl,by kernel_rfl⟩⟩
instance adV:aR Tryz.prog 78:=⟨⟨Tryz.f78,Tryz.func78,by kernel_rfl,by kernel_rfl⟩⟩
instance adW:aR Tryz.prog 79:=⟨⟨Tryz.f79,Tryz.func79,by kernel_rfl,by kernel_rfl⟩⟩
instance adX:aR Tryz.prog 80:=⟨⟨Tryz.f80,Tryz.func80,by kernel_rfl,by kernel_rfl⟩⟩
instance adY:aR Tryz.prog 81:=⟨⟨Tryz.f81,Tryz.func81,by kernel_rfl,by kernel_rfl⟩⟩
instance adZ:aR Tryz.prog 82:=⟨⟨Tryz.f82,Tryz.func82,by kernel_rfl,by kernel_rfl⟩⟩
instance ad0:aR Tryz.prog 83:=⟨⟨Tryz.f83,Tryz.func83,by kernel_rfl,by kernel_rfl⟩⟩
instance ad1:aR Tryz.prog 84:=⟨⟨Tryz.f84,Tryz.func84,by kernel_rfl,by kernel_rfl⟩⟩
instance ad3:aR Tryz.prog 85:=⟨⟨Tryz.f85,Tryz.func85,by kernel_rfl,by kernel_rfl⟩⟩
instance ad4:aR Tryz.prog 86:=⟨⟨Tryz.f86,Tryz.func86,by kernel_rfl,by kernel_rfl⟩⟩
instance ad5:aR Tryz.prog 87:=⟨⟨Tryz.f87,Tryz.func87,by kernel_rfl,by kernel_rfl⟩⟩
instance ad6:aR Tryz.prog 88:=⟨⟨Tryz.f88,Tryz.func88,by kernel_rfl,by kernel_rfl⟩⟩
instance ad7:aR Tryz.prog 89:=⟨⟨Tryz.f89,Tryz.func89,by kernel_rfl,by kernel_rfl⟩⟩
instance ad8:aR Tryz.prog 90:=⟨⟨Tryz.f90,Tryz.func90,by kernel_rfl,by kernel_rfl⟩⟩
instance ad9:aR Tryz.prog 91:=⟨⟨Tryz.f91,Tryz.func91,by kernel_rfl,by kernel_rfl⟩⟩
instance aea:aR Tryz.prog 92:=⟨⟨Tryz.f92,Tryz.func92,by kernel_rfl,by kernel_rfl⟩⟩
instance aeb:aR Tryz.prog 96:=⟨⟨Tryz.f96,Tryz.func96,by kernel_rfl,by kernel_rfl⟩⟩
instance aec:aR Tryz.prog 100:=⟨⟨Tryz.f100,Tryz.func100,by kernel_rfl,by kernel_rfl⟩⟩
instance aed:aR Tryz.prog 101:=⟨⟨Tryz.f101,Tryz.func101,by kernel_rfl,by kernel_rfl⟩⟩
instance aee:aR Tryz.prog 104:=⟨⟨Tryz.f104,Tryz.func104,by kernel_rfl,by kernel_rfl⟩⟩
instance aef:aR Tryz.prog 105:=⟨⟨Tryz.f105,Tryz.func105,by kernel_rfl,by kernel_rfl⟩⟩
instance aeg:aR Tryz.prog 107:=⟨⟨Tryz.f107,Tryz.func107,by kernel_rfl,by kernel_rfl⟩⟩
instance aeh:aR Tryz.prog 108:=⟨⟨Tryz.f108,Tryz.func108,by kernel_rfl,by kernel_rfl⟩⟩
instance aei:aR Tryz.prog 109:=⟨⟨Tryz.f109,Tryz.func109,by kernel_rfl,by kernel_rfl⟩⟩
instance aej:aR Tryz.prog 110:=⟨⟨Tryz.f110,Tryz.func110,by kernel_rfl,by kernel_rfl⟩⟩
instance aek:aR Tryz.prog 111:=⟨⟨Tryz.f111,Tryz.func111,by kernel_rfl,by kernel_rfl⟩⟩
instance ael:aR Tryz.prog 112:=⟨⟨Tryz.f112,Tryz.func112,by kernel_rfl,by kernel_rfl⟩⟩
instance aem:aR Tryz.prog 113:=⟨⟨Tryz.f113,Tryz.func113,by kernel_rfl,by kernel_rfl⟩⟩
instance aen:aR Tryz.prog 114:=⟨⟨Tryz.f114,Tryz.func114,by kernel_rfl,by kernel_rfl⟩⟩
instance aeo:aR Tryz.prog 115:=⟨⟨Tryz.f115,Tryz.func115,by kernel_rfl,by kernel_rfl⟩⟩
instance aep:aR Tryz.prog 116:=⟨⟨Tryz.f116,Tryz.func116,by kernel_rfl,by kernel_rfl⟩⟩
instance aeq:aR Tryz.prog 117:=⟨⟨Tryz.f117,Tryz.func117,by kernel_rfl,by kernel_rfl⟩⟩
instance aer:aR Tryz.prog 118:=⟨⟨Tryz.f118,Tryz.func118,by kernel_rfl,by kernel_rfl⟩⟩
instance aes:aR Tryz.prog 119:=⟨⟨Tryz.f119,Tryz.func119,by kernel_rfl,by kernel_rfl⟩⟩
instance aet:aR Tryz.prog 120:=⟨⟨Tryz.f120,Tryz.func120,by kernel_rfl,by kernel_rfl⟩⟩
instance aeu:aR Tryz.prog 121:=⟨⟨Tryz.f121,Tryz.func121,by kernel_rfl,by kernel_rfl⟩⟩
instance aev:aR Tryz.prog 122:=⟨⟨Tryz.f122,Tryz.func122,by kernel_rfl,by kernel_rfl⟩⟩
instance aew:aR Tryz.prog 123:=⟨⟨Tryz.f123,Tryz.func123,by kernel_rfl,by kernel_rfl⟩⟩
instance aex:aR Tryz.prog 124:=⟨⟨Tryz.f124,Tryz.func124,by kernel_rfl,by kernel_rfl⟩⟩
instance aey:aR Tryz.prog 125:=⟨⟨Tryz.f125,Tryz.func125,by kernel_rfl,by kernel_rfl⟩⟩
instance aez:aR Tryz.prog 126:=⟨⟨Tryz.f126,Tryz.func126,by kernel_rfl,by kernel_rfl⟩⟩
instance aeA:aR Tryz.prog 127:=⟨⟨Tryz.f127,Tryz.func127,by kernel_rfl,by kernel_rfl⟩⟩
instance aeB:aR Tryz.prog 128:=⟨⟨Tryz.f128,Tryz.func128,by kernel_rfl,by kernel_rfl⟩⟩
instance aeC:aR Tryz.prog 129:=⟨⟨Tryz.f129,Tryz.func129,by kernel_rfl,by kernel_rfl⟩⟩
instance aeD:aR Tryz.prog 130:=⟨⟨Tryz.f130,Tryz.func130,by kernel_rfl,by kernel_rfl⟩⟩
instance aeE:aR Tryz.prog 131:=⟨⟨Tryz.f131,Tryz.func131,by kernel_rfl,by kernel_rfl⟩⟩
instance aeF:aR Tryz.prog 132:=⟨⟨Tryz.f132,Tryz.func132,by kernel_rfl,by kernel_rfl⟩⟩
instance aeG:aR Tryz.prog 134:=⟨⟨Tryz.f134,Tryz.func134,by kernel_rfl,by kernel_rfl⟩⟩
instance aeH:aR Tryz.prog 135:=⟨⟨Tryz.f135,Tryz.func135,by kernel_rfl,by kernel_rfl⟩⟩
instance aeI:aR Tryz.prog 136:=⟨⟨Tryz.f136,Tryz.func136,by kernel_rfl,by kernel_rfl⟩⟩
instance aeJ:aR Tryz.prog 137:=⟨⟨Tryz.f137,Tryz.func137,by kernel_rfl,by kernel_rfl⟩⟩
instance aeK:aR Tryz.prog 139:=⟨⟨Tryz.f139,Tryz.func139,by kernel_rfl,by kernel_rfl⟩⟩
instance aeL:aR Tryz.prog 144:=⟨⟨Tryz.f144,Tryz.func144,by kernel_rfl,by kernel_rfl⟩⟩
instance aeM:aR Tryz.prog 145:=⟨⟨Tryz.f145,Tryz.func145,by kernel_rfl,by kernel_rfl⟩⟩
instance aeN:aR Tryz.prog 146:=⟨⟨Tryz.f146,Tryz.func146,by kernel_rfl,by kernel_rfl⟩⟩
instance aeO:aR Tryz.prog 147:=⟨⟨Tryz.f147,Tryz.func147,by kernel_rfl,by kernel_rfl⟩⟩
instance aeP:aR Tryz.prog 148:=⟨⟨Tryz.f148,Tryz.func148,by kernel_rfl,by kernel_rfl⟩⟩
instance aeQ:aR Tryz.prog 149:=⟨⟨Tryz.f149,Tryz.func149,by kernel_rfl,by kernel_rfl⟩⟩
instance aeR:aR Tryz.prog 150:=⟨⟨Tryz.f150,Tryz.func150,by kernel_rfl,by kernel_rfl⟩⟩
instance aeS:aR Tryz.prog 151:=⟨⟨Tryz.f151,Tryz.func151,by kernel_rfl,by kernel_rfl⟩⟩
instance aeT:aR Tryz.prog 152:=⟨⟨Tryz.f152,Tryz.func152,by kernel_rfl,by kernel_rfl⟩⟩
instance aeU:aR Tryz.prog 153:=⟨⟨Tryz.f153,Tryz.func153,by kernel_rfl,by kernel_rfl⟩⟩
instance aeV:aR Tryz.prog 154:=⟨⟨Tryz.f154,Tryz.func154,by kernel_rfl,by kernel_rfl⟩⟩
instance aeW:aR Tryz.prog 155:=⟨⟨Tryz.f155,Tryz.func155,by kernel_rfl,by kernel_rfl⟩⟩
instance aeX:aR Tryz.prog 159:=⟨⟨Tryz.f159,Tryz.func159,by kernel_rfl,by kernel_rfl⟩⟩
instance aeY:aR Tryz.prog 160:=⟨⟨Tryz.f160,Tryz.func160,by kernel_rfl,by kernel_rfl⟩⟩
instance aeZ:aR Tryz.prog 161:=⟨⟨Tryz.f161,Tryz.func161,by kernel_rfl,by kernel_rfl⟩⟩
instance ae0:aR Tryz.prog 162:=⟨⟨Tryz.f162,Tryz.func162,by kernel_rfl,by kernel_rfl⟩⟩
instance ae1:aR Tryz.prog 163:=⟨⟨Tryz.f163,Tryz.func163,by kernel_rfl,by kernel_rfl⟩⟩
instance ae2:aR Tryz.prog 164:=⟨⟨Tryz.f164,Tryz.func164,by kernel_rfl,by kernel_rfl⟩⟩
instance ae3:aR Tryz.prog 165:=⟨⟨Tryz.f165,Tryz.func165,by kernel_rfl,by kernel_rfl⟩⟩
instance ae4:aR Tryz.prog 166:=⟨⟨Tryz.f166,Tryz.func166,by kernel_rfl,by kernel_rfl⟩⟩
instance ae5:aR Tryz.prog 167:=⟨⟨Tryz.f167,Tryz.func167,by kernel_rfl,by kernel_rfl⟩⟩
instance ae6:aR Tryz.prog 168:=⟨⟨Tryz.f168,Tryz.func168,by kernel_rfl,by kernel_rfl⟩⟩
instance ae7:aR Tryz.prog 169:=⟨⟨Tryz.f169,Tryz.func169,by kernel_rfl,by kernel_rfl⟩⟩
instance ae8:aR Tryz.prog 170:=⟨⟨Tryz.f170,Tryz.func170,by kernel_rfl,by kernel_rfl⟩⟩
instance ae9:aR Tryz.prog 171:=⟨⟨Tryz.f171,Tryz.func171,by kernel_rfl,by kernel_rfl⟩⟩
instance afa:aR Tryz.prog 172:=⟨⟨Tryz.f172,Tryz.func172,by kernel_rfl,by kernel_rfl⟩⟩
instance afb:aR Tryz.prog 173:=⟨⟨Tryz.f173,Tryz.func173,by kernel_rfl,by kernel_rfl⟩⟩
instance afc:aR Tryz.prog 174:=⟨⟨Tryz.f174,Tryz.func174,by kernel_rfl,by kernel_rfl⟩⟩
instance afd:aR Tryz.prog 175:=⟨⟨Tryz.f175,Tryz.func175,by kernel_rfl,by kernel_rfl⟩⟩
instance afe:aR Tryz.prog 176:=⟨⟨Tryz.f176,Tryz.func176,by kernel_rfl,by kernel_rfl⟩⟩
instance aff:aR Tryz.prog 178:=⟨⟨Tryz.f178,Tryz.func178,by kernel_rfl,by kernel_rfl⟩⟩
instance afg:aR Tryz.prog 179:=⟨⟨Tryz.f179,Tryz.func179,by kernel_rfl,by kernel_rfl⟩⟩
instance afh:aR Tryz.prog 180:=⟨⟨Tryz.f180,Tryz.func180,by kernel_rfl,by kernel_rfl⟩⟩
instance afi:aR Tryz.prog 181:=⟨⟨Tryz.f181,Tryz.func181,by kernel_rfl,by kernel_rfl⟩⟩
instance afj:aR Tryz.prog 182:=⟨⟨Tryz.f182,Tryz.func182,by kernel_rfl,by kernel_rfl⟩⟩
instance afk:aR Tryz.prog 183:=⟨⟨Tryz.f183,Tryz.func183,by kernel_rfl,by kernel_rfl⟩⟩
instance afl:aR Tryz.prog 184:=⟨⟨Tryz.f184,Tryz.func184,by kernel_rfl,by kernel_rfl⟩⟩
instance afm:aR Tryz.prog 185:=⟨⟨Tryz.f185,Tryz.func185,by kernel_rfl,by kernel_rfl⟩⟩
instance afn:aR Tryz.prog 186:=⟨⟨Tryz.f186,Tryz.func186,by kernel_rfl,by kernel_rfl⟩⟩
instance afo:aR Tryz.prog 187:=⟨⟨Tryz.f187,Tryz.func187,by kernel_rfl,by kernel_rfl⟩⟩
instance afp:aR Tryz.prog 188:=⟨⟨Tryz.f188,Tryz.func188,by kernel_rfl,by kernel_rfl⟩⟩
instance afq:aR Tryz.prog 189:=⟨⟨Tryz.f189,Tryz.func189,by kernel_rfl,by kernel_rfl⟩⟩
instance afr:aR Tryz.prog 190:=⟨⟨Tryz.f190,Tryz.func190,by kernel_rfl,by kernel_rfl⟩⟩
instance afs:aR Tryz.prog 191:=⟨⟨Tryz.f191,Tryz.func191,by kernel_rfl,by kernel_rfl⟩⟩
instance aft:aR Tryz.prog 192:=⟨⟨Tryz.f192,Tryz.func192,by kernel_rfl,by kernel_rfl⟩⟩
instance afu:aR Tryz.prog 193:=⟨⟨Tryz.f193,Tryz.func193,by kernel_rfl,by kernel_rfl⟩⟩
instance afv:aR Tryz.prog 194:=⟨⟨Tryz.f194,Tryz.func194,by kernel_rfl,by kernel_rfl⟩⟩
instance afw:aR Tryz.prog 195:=⟨⟨Tryz.f195,Tryz.func195,by kernel_rfl,by kernel_rfl⟩⟩
instance afx:aR Tryz.prog 196:=⟨⟨Tryz.f196,Tryz.func196,by kernel_rfl,by kernel_rfl⟩⟩
instance afy:aR Tryz.prog 197:=⟨⟨Tryz.f197,Tryz.func197,by kernel_rfl,by kernel_rfl⟩⟩
instance afz:aR Tryz.prog 198:=⟨⟨Tryz.f198,Tryz.func198,by kernel_rfl,by kernel_rfl⟩⟩
end Go.Proofs.YtaipiecplldinaaGreat
namespace Go.ay
def rS:Nat→Value→Value→Prop
 |0, .int k _, .int k' _=>k=k'
 |1, .bool _, .bool _=>True
 |2, .string _, .string _=>True
 |_,_,_=>False
def ot:Value→Bool
 | .agg _=>true
 |_=>false
def w5(P:Program)(d:Nat)(t:TypeId)(jz:Bool)(ks:List Nat):Prop:=
 ∀(w:World) (x y:Value),ot x=jz→ot y=jz→x.cells.size=ks.length→y.cells.size=ks.length→
  (∀(i k:Nat),ks[i]? =some k→ ∃u v,x.cells[i]? =some u∧y.cells[i]? =some v∧rS k u v)→
  ∃r:Bool,(Op.equalIn d t x y).run P w= .ok r w∧(r=true↔ ∀i,i<ks.length→x.cells[i]? =y.cells[i]?)
section
variable {P:Program} {d:Nat} {t:TypeId}
theorem cells_one{x:Value}(h:ot x=false):x.cells= #[x]:=by
 cases x<;>simp_all[ot,Value.cells]
theorem FA{q:IntKind}(hu:P.underlying t=some (.int q)):w5 P (d+1) t false [0]:=fun w x y hx hy _ _ hk=>by
 obtain⟨u,v,h1,h2,h3⟩:=hk 0 0 rfl
 rw[cells_one hx]at h1⊢
 rw[cells_one hy]at h2⊢
 simp at h1 h2
 subst h1 h2
 cases x<;>cases y<;>simp only[rS]at h3
 subst h3
 exact⟨_,run_equalIn_int w d t _ q _ _ hu,by simp⟩
theorem Le{e:TypeId}{jz:Bool}{n:Nat}(hA: ∃de,P.underlying e=some de∧vK de=jz)(hn:(P.info? e).map (·.size)=some n)(h1:jz=false→n=1)
  {xs:Array Value} {off:Nat} (bt:off+n≤xs.size) (hp: ∀i u,off≤i→i<off+n→xs[i]? =some u→ot u=false) (w:World):
  ∃a,(part e xs off).run P w= .ok a w∧ot a=jz∧a.cells.size=n∧ ∀i,i<n→a.cells[i]? =xs[off+i]? :=by
 obtain⟨de,hu,hr⟩:=hA
 cases jz with
 |true=>
  refine⟨.agg (xs.extract off (off+n)),?_,rfl,by simp[Value.cells];omega,fun i hi=> ?_⟩
  ·
   simp only[part,Sem.run_bind,Ar w hu,hr,Result.andThen_ok,if_true,kF w hn,Sem.run_pure]
  ·
   simp[Value.cells,Array.getElem?_extract]
   intro h;omega
 |false=>
  have:=h1 rfl
  subst this
  have hx:xs[off]? =some xs[off]:=by simp[show off<xs.size by omega]
  have FB:=hp off _ (Nat.le_refl _) (by omega) hx
  refine⟨xs[off],?_,FB,by rw[cells_one FB];rfl,fun i hi=> ?_⟩
  ·
   simp only[part,Sem.run_bind,Ar w hu,hr,Result.andThen_ok,hx,Bool.false_eq_true,if_false,Sem.run_pure]
  ·
   obtain rfl:i=0:=by omega
   rw[cells_one FB,Nat.add_zero,hx];rfl
theorem Lf{k:Nat}{u v:Value}(h:rS k u v):ot u=false∧ot v=false:=by
 unfold rS at h
 split at h<;>simp_all[ot]
structure qX(P:Program)(d:Nat)(e:TypeId)(jz:Bool)(ks:List Nat):Prop where
 row: ∃de,P.underlying e=some de∧vK de=jz
 size:(P.info? e).map (·.size)=some ks.length
 one:jz=false→ks.length=1
 eq:w5 P d e jz ks
theorem Lg{e:TypeId}{jz:Bool}{ks:List Nat}(he:qX P d e jz ks){xs ys:Array Value}{off:Nat}(hx:off+ks.length≤xs.size)(hy:off+ks.length≤ys.size)
  (hk: ∀(i k:Nat),ks[i]? =some k→ ∃u v,xs[off+i]? =some u∧ys[off+i]? =some v∧rS k u v) (w:World):
  ∃a b r,(part e xs off).run P w= .ok a w∧(part e ys off).run P w= .ok b w∧(Op.equalIn d e a b).run P w= .ok r w∧(r=true↔ ∀i,i<ks.length→xs[off+i]? =ys[off+i]?):=by
 have plain: ∀i,off≤i→i<off+ks.length→ ∃u v k,xs[i]? =some u∧ys[i]? =some v∧rS k u v:=fun i h1 h2=>by
  obtain⟨u,v,h3,h4,h5⟩:=hk (i -off) _ (List.getElem?_eq_getElem (by omega))
  rw[show off+(i -off)=i by omega]at h3 h4
  exact⟨u,v,_,h3,h4,h5⟩
 obtain⟨a,a1,a2,a3,a4⟩:=Le he.row he.size he.one hx (fun i u h1 h2 h3=>by
  obtain⟨u',v,k,h4,h5,h6⟩:=plain i h1 h2
  rw[h4]at h3;cases h3;exact(Lf h6).1) w
 obtain⟨b,b1,b2,b3,b4⟩:=Le he.row he.size he.one hy (fun i u h1 h2 h3=>by
  obtain⟨u',v,k,h4,h5,h6⟩:=plain i h1 h2
  rw[h5]at h3;cases h3;exact(Lf h6).2) w
 obtain⟨r,r1,r2⟩:=he.eq w a b a2 b2 a3 b3 (fun i k nn=>by
  obtain⟨u,v,h1,h2,h3⟩:=hk i k nn
  have hi:i<ks.length:=(List.getElem?_eq_some_iff.1 nn).1
  exact⟨u,v,by rw[a4 i hi];exact h1,by rw[b4 i hi];exact h2,h3⟩)
 refine⟨a,b,r,a1,b1,r1,r2.trans ⟨fun h i hi=> ?_,fun h i hi=> ?_⟩⟩
 ·
  rw[←a4 i hi,←b4 i hi];exact h i hi
 ·
  rw[a4 i hi,b4 i hi];exact h i hi
theorem Lh{e:TypeId}{jz:Bool}{ks:List Nat}(he:qX P d e jz ks){xs ys:Array Value}(w:World): ∀(is:List Nat),
  (∀j∈is,j*ks.length+ks.length≤xs.size∧j*ks.length+ks.length≤ys.size∧ ∀(i k:Nat),ks[i]? =some k→ ∃u v,xs[j*ks.length+i]? =some u∧ys[j*ks.length+i]? =some v∧rS k u v)→
  ∃r:Bool,(Op.eqItems d e ks.length xs ys is).run P w= .ok r w∧(r=true↔ ∀j∈is,∀i,i<ks.length→xs[j*ks.length+i]? =ys[j*ks.length+i]?)
 |[],_=>⟨true,by simp[Op.eqItems],by simp⟩
 |j::is,h=>by
  obtain⟨h1,h2,h3⟩:=h j (by simp)
  obtain⟨a,b,r,p1,p2,p3,rT⟩:=Lg he h1 h2 h3 w
  obtain⟨r',u6,FC⟩:=Lh he w is (fun j' jh=>h j' (by simp[jh]))
  simp only[Op.eqItems,Sem.run_bind,p1,p2,p3,Result.andThen_ok]
  cases r
  ·
   refine⟨false,by simp,?_⟩
   simp only[Bool.false_eq_true,false_iff]
   intro e
   exact absurd (rT.2 (e j (by simp))) (by simp)
  ·
   refine⟨r',by simpa using u6,?_⟩
   rw[FC]
   have:=rT.1 rfl
   constructor
   ·
    intro e j' jh
    rcases List.mem_cons.1 jh with rfl|jh
    ·
     exact this
    ·
     exact e j' jh
   ·
    intro e j' jh;exact e j' (by simp[jh])
theorem wz{ks:List Nat}: ∀{n j i:Nat},j<n→i<ks.length→(List.replicate n ks).flatten[j*ks.length+i]? =ks[i]?
 |0,j,i,h,_=>by omega
 |n+1,0,i,_,hi=>by
  rw[List.replicate_succ,List.flatten_cons,Nat.zero_mul,Nat.zero_add,List.getElem?_append_left hi]
 |n+1,j+1,i,h,hi=>by
  rw[List.replicate_succ,List.flatten_cons,List.getElem?_append_right (by rw[Nat.add_mul];omega),Nat.add_mul,show j*ks.length+1*ks.length+i -ks.length=j*ks.length+i by omega]
  exact wz (by omega) hi
theorem TF{e:TypeId}{n:Nat}{jz:Bool}{ks:List Nat}(hu:P.underlying t=some (.array n e))(he:qX P d e jz ks):w5 P (d+1) t true (List.replicate n ks).flatten:=fun w x y hx hy sx sy hk=>by
 cases x<;>simp only[ot,Bool.false_eq_true]at hx
 cases y<;>simp only[ot,Bool.false_eq_true]at hy
 rename_i xs ys
 simp only[Value.cells]at sx sy hk⊢
 have hl:(List.replicate n ks).flatten.length=n*ks.length:=by simp
 rw[hl]at sx sy⊢
 obtain⟨i,hi⟩: ∃i,P.info? e=some i:=by
  cases h:P.info? e with
  |none=>have:=he.size;simp[h]at this
  |some i=>exact⟨i,rfl⟩
 have hc:P.cellsOf e=ks.length:=by have:=he.size;simp[Program.cellsOf,hi]at this⊢;exact this
 have bound: ∀j,j<n→j*ks.length+ks.length≤n*ks.length:=fun j hj=>by
  rw[←Nat.succ_mul];exact Nat.mul_le_mul_right _ hj
 obtain⟨r,hr,rT⟩:=Lh he (xs:=xs) (ys:=ys) w (List.range n) (fun j hj=>by
  have jh:=List.mem_range.1 hj
  have:=bound j jh
  refine⟨by omega,by omega,fun i k nn=> ?_⟩
  have ft:i<ks.length:=(List.getElem?_eq_some_iff.1 nn).1
  exact hk (j*ks.length+i) k (by rw[wz jh ft];exact nn))
 refine⟨r,by rw[run_equalIn_array w d xs ys hu hi,hc];exact hr,rT.trans ⟨fun h q hq=> ?_,fun h j hj i hi=> ?_⟩⟩
 ·
  have wP:0<ks.length:=by
   rcases Nat.eq_zero_or_pos ks.length with h0|h0
   ·
    rw[h0]at hq;omega
   ·
    exact h0
  have h1:q/ks.length<n:=Nat.div_lt_of_lt_mul (by rw[Nat.mul_comm];exact hq)
  have h2:=h (q/ks.length) (List.mem_range.2 h1) (q%ks.length) (Nat.mod_lt _ wP)
  rw[Nat.div_add_mod']at h2
  exact h2
 ·
  have:=bound j (List.mem_range.1 hj)
  exact h _ (by omega)
def B5(P:Program)(d:Nat):Nat→List Field→List Nat→Prop
 |_,[],ks=>ks=[]
 |off,f::fs,ks=>f.name≠ "_" ∧f.offset=off∧ ∃jz k1 k2,ks=k1++k2∧qX P d f.type jz k1∧B5 P d (off+k1.length) fs k2
theorem Li{xs ys:Array Value}(w:World): ∀(fs:List Field) (off:Nat) (ks:List Nat),B5 P d off fs ks→off+ks.length≤xs.size→off+ks.length≤ys.size→
  (∀(i k:Nat),ks[i]? =some k→ ∃u v,xs[off+i]? =some u∧ys[off+i]? =some v∧rS k u v)→
  ∃r:Bool,(Op.eqFields d xs ys fs).run P w= .ok r w∧(r=true↔ ∀i,i<ks.length→xs[off+i]? =ys[off+i]?)
 |[],off,ks,h,_,_,_=>by
  simp only[B5]at h
  subst h
  exact⟨true,by simp[Op.eqFields],by simp⟩
 |f::fs,off,ks,h,hx,hy,hk=>by
  obtain⟨hn,ho,jz,k1,k2,rfl,hp,A0⟩:=h
  simp only[List.length_append]at hx hy
  obtain⟨a,b,r,p1,p2,p3,rT⟩:=Lg hp (xs:=xs) (ys:=ys) (off:=off) (by omega) (by omega) (fun i k nn=>by
   have hi:i<k1.length:=(List.getElem?_eq_some_iff.1 nn).1
   exact hk i k (by rw[List.getElem?_append_left hi];exact nn)) w
  obtain⟨r',u6,FC⟩:=Li (xs:=xs) (ys:=ys) w fs (off+k1.length) k2 A0 (by omega) (by omega) (fun i k nn=>by
   have:=hk (k1.length+i) k (by rw[List.getElem?_append_right (by omega)];simpa using nn)
   rw[Nat.add_assoc];exact this)
  subst ho
  simp only[Op.eqFields,hn,ne_eq,not_false_eq_true,if_true,Sem.run_bind,p1,p2,p3,Result.andThen_ok]
  cases r
  ·
   refine⟨false,by simp,?_⟩
   simp only[Bool.false_eq_true,false_iff]
   intro e
   exact absurd (rT.2 fun i hi=>e i (by simp;omega)) (by simp)
  ·
   refine⟨r',by simpa using u6,?_⟩
   rw[FC]
   have:=rT.1 rfl
   simp only[List.length_append]
   constructor
   ·
    intro e i hi
    by_cases h1:i<k1.length
    ·
     exact this i h1
    ·
     have:=e (i -k1.length) (by omega)
     rw[show f.offset+k1.length+(i -k1.length)=f.offset+i by omega]at this
     exact this
   ·
    intro e i hi
    have:=e (k1.length+i) (by omega)
    rw[Nat.add_assoc];exact this
theorem Lj{fs:Array Field}{ks:List Nat}(hu:P.underlying t=some (.struct fs))(hp:P.stoodInHeld t=false)(hf:B5 P d 0 fs.toList ks):w5 P (d+1) t true ks:=fun w x y hx hy sx sy hk=>by
 cases x<;>simp only[ot,Bool.false_eq_true]at hx
 cases y<;>simp only[ot,Bool.false_eq_true]at hy
 rename_i xs ys
 simp only[Value.cells]at sx sy hk⊢
 have kf:P.fieldsOf t=fs:=by simp[Program.fieldsOf,hu]
 obtain⟨r,hr,rT⟩:=Li (xs:=xs) (ys:=ys) w fs.toList 0 ks hf (by omega) (by omega) (fun i k nn=>by
  have:=hk i k nn
  simpa using this)
 refine⟨r,?_,by simpa using rT⟩
 rw[run_equalIn_struct w d t xs ys (by rw[kf];exact hu) hp,kf]
 exact hr
theorem w5.val{jz:Bool}{ks:List Nat}(h:w5 P 10000 t jz ks)(hA:jz=true)(hg:P.eqGuardType P.depth t=false){xs ys:Array Value}{r:Bool}(sx:xs.size=ks.length)(sy:ys.size=ks.length)
  (hk: ∀(i k:Nat),ks[i]? =some k→ ∃u v,xs[i]? =some u∧ys[i]? =some v∧rS k u v) (hr:xs=ys↔r=true):vL P t (.agg xs) (.agg ys) r where
 h w:=by
  subst hA
  obtain⟨q,h1,h2⟩:=h w (.agg xs) (.agg ys) rfl rfl sx sy hk
  have:q=r:=by
   rw[Bool.eq_iff_iff,h2,←hr]
   simp only[Value.cells]
   constructor
   ·
    intro e
    apply Array.ext_getElem?
    intro i
    by_cases hi:i<ks.length
    ·
     exact e i hi
    ·
     simp[show ¬i<xs.size by omega,show ¬i<ys.size by omega]
   ·
    rintro rfl i _;rfl
  rw[h1,this]
 plain:=hg
 agg:=⟨xs,ys,rfl,rfl⟩
end
end Go.ay
namespace Go.Proofs.YtaipiecplldinaaGreat
open Go.ay Go.Kb
instance (k:Key):fZ (cW k) 16:=⟨gL k,by
 rw[Array.all_eq_true_iff_forall_mem];intro v hv
 simp only[cW,List.mem_toArray,List.mem_map]at hv
 obtain⟨i,_,rfl⟩:=hv;rfl⟩
instance (p:cR):fZ (c5 p) 18:=⟨nW p,by
 have h:(cW p.key).all (·.oneCell')=true:=(inferInstance:fZ (cW p.key) 16).one
 rw[c5,Array.all_append,h];simp[Value.oneCell']⟩
instance (p:cR):cn (c5 p) 0 (.int .i64 p.bits):=⟨uv p⟩
instance (p:cR):cn (c5 p) 1 (.int .i64 p.len):=⟨uw p⟩
instance (p:cR):nQ (c5 p) 2 16 (cW p.key):=⟨gL _,fun j _=>pK p j⟩
theorem TG(d:Nat):qX Tryz.prog (d+1) 5 false [0]:=⟨⟨_,Tryz.underlying5,rfl⟩,by kernel_rfl,fun _=>rfl,FA Tryz.underlying5⟩
theorem Lk(d:Nat):qX Tryz.prog (d+1) 3 false [0]:=⟨⟨_,Tryz.underlying3,rfl⟩,by kernel_rfl,fun _=>rfl,FA Tryz.underlying3⟩
theorem Ll(d:Nat):qX Tryz.prog (d+1+1) 56 true (List.replicate 16 [0]).flatten:=⟨⟨_,Tryz.underlying56,rfl⟩,by kernel_rfl,(fun h=>by cases h),TF Tryz.underlying56 (TG d)⟩
theorem TH:Tryz.prog.stoodInHeld 65=false:=by kernel_rfl
theorem Lm(d:Nat):qX Tryz.prog (d+1+1+1) 65 true ([0]++([0]++((List.replicate 16 [0]).flatten++[]))):=⟨⟨_,Tryz.underlying65,rfl⟩,by kernel_rfl,(fun h=>by cases h),
 Lj Tryz.underlying65 TH ⟨by decide,rfl,_,_,_,rfl,Lk _,by decide,rfl,_,_,_,rfl,Lk _,by decide,rfl,_,_,_,rfl,Ll _,rfl⟩⟩
theorem TI:Tryz.prog.eqGuardType Tryz.prog.depth 56=false:=by kernel_rfl
theorem TJ:Tryz.prog.eqGuardType Tryz.prog.depth 65=false:=by kernel_rfl
instance (a b:Key):vL Tryz.prog 56 (.agg (cW a)) (.agg (cW b)) (decide (a=b)):=
 (Ll 9998).eq.val rfl TI (gL a) (gL b) (fun i k hk=>by
  have hi:i<16:=(List.getElem?_eq_some_iff.1 hk).1
  have h0:k=0:=by
   have:k∈(List.replicate 16 [0]).flatten:=List.mem_of_getElem? hk
   simpa using this
  subst h0
  exact⟨_,_,lz a i hi,lz b i hi,rfl⟩) (by rw[decide_eq_true_iff];exact⟨IK,fun h=>by rw[h]⟩)
instance (a b:cR):vL Tryz.prog 65 (.agg (c5 a)) (.agg (c5 b)) (decide (a=b)):=
 (Lm 9997).eq.val rfl TJ (nW a) (nW b) (fun i k hk=>by
  have h0:k=0:=by
   have:k∈([0]++([0]++((List.replicate 16 [0]).flatten++[]))):=List.mem_of_getElem? hk
   simpa using this
  subst h0
  have hi:i<18:=(List.getElem?_eq_some_iff.1 hk).1
  match i,hi with
  |0,_=>exact⟨_,_,uv a,uv b,rfl⟩
  |1,_=>exact⟨_,_,uw a,uw b,rfl⟩
  |j+2,hi=>rw[Nat.add_comm j 2];exact⟨_,_,(pK a j).trans (lz _ j (by omega)),(pK b j).trans (lz _ j (by omega)),rfl⟩) (by rw[decide_eq_true_iff];exact⟨IM,fun h=>by rw[h]⟩)
theorem y9:cW 0#128=(List.replicate 16 (Value.int .u8 0)).toArray:=by
 apply Array.ext'
 simp only[cW]
 refine List.eq_replicate_iff.2 ⟨by simp,fun v hv=> ?_⟩
 simp only[List.mem_map]at hv
 obtain⟨i,_,rfl⟩:=hv
 simp[cH]
instance (n m:Int)(k:Key):yg Tryz.prog 65 [(0, .int .i64 n),(1, .int .i64 m),(2, .agg (cW k))] (.agg (c5 ⟨n,m,k⟩)):=⟨fun w=>by kernel_rfl⟩
instance:fh Tryz.prog 56 (.agg (cW 0#128)):=⟨by rw[y9];kernel_rfl⟩
instance:fh Tryz.prog 65 (.agg (c5 ⟨0,0,0#128⟩)):=⟨by unfold c5;rw[y9];kernel_rfl⟩
open Go.ay Go.Kb
theorem TK(n:Int):oE Tryz.prog 116 [.int .i64 n] (.bool (decide (n=32)||decide (n=128))):=⟨fun w=>by
 refine bf (args:=[_]) Tryz.func116 rfl Tryz.ntmps116 rfl ?_
 change Cw _ _ _ _ _ [(0, .int .i64 n)] []
 refine aP ?_
 refine aZ ?_
 refine ah (bn rfl) ?_
 refine aY ?_
 refine aO ?_
 refine aP ?_
 refine aZ ?_
 refine ah (aF rfl) ?_
 refine ah (cz rfl rfl rfl) ?_
 refine ah (aF rfl) ?_
 refine ca rfl rfl rfl (fun hg=>(aF rfl).yl) ?_
 refine ca rfl rfl rfl (fun hg=>(cz (aI hg rfl) rfl rfl).yl) ?_
 refine ah (mf rfl rfl rfl) ?_
 refine ah (bn rfl) ?_
 refine aY ?_
 refine aO ?_
 refine eu ?_
 refine au (.inl rfl) (kr rfl rfl) (fun w hw=> ?_)
 exact⟨rfl,hw.sub (List.nil_sublist _)⟩⟩
instance afA(n:Int):oE Tryz.prog 116 [.int .i64 n] (.bool (decide (n=32)||decide (n=128))):=TK n
theorem TL(k:Key)(h:Nat)(hh:h≤16):cQ (cW 0#128) 0 ((cW k).extract 0 h)=cW (hK k ((8*h:Nat):Int)):=by
 refine IJ (by simp[cQ,gL];omega) fun i hi=> ?_
 have hl:((cW k).extract 0 h).size=h:=by simp[gL];omega
 rw[D1 k (8*h) i hi]
 simp only[cQ,hl,List.take_zero,List.nil_append,Nat.zero_add,List.getElem?_toArray]
 by_cases h1:i<h
 ·
  rw[List.getElem?_append_left (by simp[gL];omega),if_pos (by omega)]
  have:=lz k i hi
  simpa[h1]using this
 ·
  rw[List.getElem?_append_right (by simp[gL];omega),if_neg (by omega)]
  have h2:(cW 0#128)[i]? =some (.int .u8 ((0:Nat):Int)):=by rw[lz _ i hi];simp[cH]
  simp only[Array.length_toList,hl,List.getElem?_drop,show h+(i -h)=i by omega]
  rw[Array.getElem?_toList,h2]
  by_cases h3:8*i≤8*h
  ·
   rw[if_pos h3,show 8 -(8*h -8*i)=8 by omega,Nat.div_eq_of_lt (nU k i),Nat.zero_mul]
  ·
   rw[if_neg h3]
theorem TM(b r:Nat)(hb:b<256)(hr:r≤8):kY .andNot .u8 b ((255/2^r:Nat):Int)=some (.int .u8 ((b/2^(8 -r)*2^(8 -r):Nat):Int)):=by
 have hm:255/2^r<256:=Nat.lt_of_le_of_lt (Nat.div_le_self _ _) (by omega)
 rw[PD hb hm]
 have key:b&&&(256 -1 -255/2^r)=b/2^(8 -r)*2^(8 -r):=by
  have e1:255/2^r=2^(8 -r) -1:=by
   match r,hr with
   |0,_|1,_|2,_|3,_|4,_|5,_|6,_|7,_|8,_=>rfl
   |n+9,h=>omega
  rw[e1]
  apply Nat.eq_of_testBit_eq
  intro j
  have e2:256 -1 -(2^(8 -r) -1)=2^8 -(2^(8 -r) -1+1):=by omega
  rw[Nat.testBit_and,e2,Nat.testBit_two_pow_sub_succ (by have:2^(8 -r)≤2^8:=Nat.pow_le_pow_right (by decide) (by omega);have:=Nat.two_pow_pos (8 -r);omega),Nat.testBit_two_pow_sub_one,Nat.testBit_mul_two_pow,Nat.testBit_div_two_pow]
  by_cases hj:8 -r≤j
  ·
   simp only[hj,show ¬j<8 -r by omega,decide_true,decide_false,Bool.not_false,Bool.and_true,Bool.true_and,show j -(8 -r)+(8 -r)=j by omega]
   by_cases h8:j<8
   ·
    simp[h8]
   ·
    have:b.testBit j=false:=Nat.testBit_lt_two_pow (Nat.lt_of_lt_of_le hb (by have:=Nat.pow_le_pow_right (n:=2) (by decide) (show 8≤j by omega);simpa using this))
    simp[this]
  ·
   simp[hj,show j<8 -r by omega]
 show some (Value.int .u8 ((b&&&(256 -1 -255/2^r):Nat):Int))=_
 rw[key]
theorem TN(k:Key)(n:Int)(h0:1≤n)(h1:n<128)(h2:0<n%8):(cW (hK k ((8*(n/8).toNat:Nat):Int))).setIfInBounds (n/8).toNat (.int .u8 ((cH k (n/8).toNat/2^(8 -(n%8).toNat)*2^(8 -(n%8).toNat):Nat):Int))=cW (hK k n):=by
 have hb:=nU k (n/8).toNat
 rw[Qu _ _ _ (by omega) (Nat.lt_of_le_of_lt (Nat.div_mul_le_self _ _) hb)]
 congr 1
 refine yy fun i hi=> ?_
 rw[IH _ _ _ i hi (Nat.lt_of_le_of_lt (Nat.div_mul_le_self _ _) hb),D1 k _ i hi]
 have e:hK k n=hK k ((n.toNat:Nat):Int):=by rw[Int.toNat_of_nonneg (by omega)]
 rw[e,D1 k n.toNat i hi]
 by_cases hj:i=(n/8).toNat
 ·
  rw[if_pos hj,if_neg (by omega),if_pos (by omega),hj,show n.toNat -8*(n/8).toNat=(n%8).toNat by omega]
 ·
  rw[if_neg hj]
  by_cases bt:i<(n/8).toNat
  ·
   rw[if_pos (by omega),if_pos (by omega)]
  ·
   rw[if_neg (by omega),if_neg (by omega),if_neg (by omega),if_neg (by omega)]
theorem TO(k:Key)(n:Int)(h0:1≤n)(h2: ¬0<n%8):hK k ((8*(n/8).toNat:Nat):Int)=hK k n:=by
 congr 1;omega
theorem TP(k:Key)(n:Int):oE Tryz.prog 79 [.agg (cW k), .int .i64 n] (.agg (cW (hK k n))):=⟨fun w=>by
 refine bf (args:=[_,_]) Tryz.func79 rfl Tryz.ntmps79 rfl ?_
 change Cw _ _ _ _ _ [(0, .agg (cW k)),(1, .int .i64 n)] []
 refine aP ?_
 refine aZ ?_
 refine cq rfl fun b2=> ?_
 refine bN fun b4=> ?_
 refine aY ?_
 refine aO ?_
 refine aP ?_
 refine aP ?_
 refine aZ ?_
 refine ah (aF rfl) ?_
 refine ah (cz rfl rfl rfl) ?_
 refine aY ?_
 refine aO ?_
 refine av rfl (fun h0=> ?_) (fun h0=> ?_)
 ·
  have h0:=of_decide_eq_true h0
  refine aP ?_
  refine aZ ?_
  refine ah (fN rfl) ?_
  refine qt rfl rfl ?_
  refine aY ?_
  refine aO ?_
  refine eu ?_
  refine fj ?_
  refine au (.inl rfl) (Az rfl rfl) (fun w hw=> ?_)
  exact⟨by rw[Qv k n (by omega)],hw.sub (List.nil_sublist _)⟩
 ·
  have h0:=of_decide_eq_false h0
  refine fW ?_
  refine aO ?_
  refine aP ?_
  refine aZ ?_
  refine bN fun b5=> ?_
  refine aY ?_
  refine aO ?_
  refine aP ?_
  refine aP ?_
  refine aZ ?_
  refine ah (aF rfl) ?_
  refine ah (cz rfl rfl rfl) ?_
  refine aY ?_
  refine aO ?_
  refine av rfl (fun h1=> ?_) (fun h1=> ?_)
  ·
   have h1:=of_decide_eq_true h1
   refine aP ?_
   refine aZ ?_
   refine ah (fN rfl) ?_
   refine qt rfl rfl ?_
   refine aY ?_
   refine aO ?_
   refine eu ?_
   refine fj ?_
   refine au (.inl rfl) (Az rfl rfl) (fun w hw=> ?_)
   exact⟨by rw[Qw k n (by omega)],hw.sub (List.nil_sublist _)⟩
  ·
   have h1:=of_decide_eq_false h1
   refine fW ?_
   refine aO ?_
   refine aP ?_
   refine aZ ?_
   refine ah (aF rfl) ?_
   refine ah (nR rfl rfl (by omega) (by omega)) ?_
   refine ah (bn rfl) ?_
   refine aY ?_
   refine aO ?_
   refine aP ?_
   refine uh 4 [] (by kernel_rfl) (by kernel_rfl) ?_
   simp only[List.take_succ_cons,List.take_zero]
   refine bm (aF rfl) ?_
   refine bm (Ia rfl rfl (by omega) (by omega)) ?_
   refine bm (aF rfl) ?_
   refine bm (Ia rfl rfl (by omega) (by omega)) ?_
   refine sB ?_
   refine sC ?_
   simp only[List.drop_succ_cons,List.drop_zero]
   refine DM (vs:=(cW k).extract 0 (n/8).toNat) rfl rfl (by have e:Nat.min (n/8).toNat (n/8).toNat=(n/8).toNat:=Nat.min_self _;rw[e,Array.size_extract,gL];omega) (fun w hw j hj=>by rw[Addr.gw,hw.cell (Has.h (b:=b2)),Nat.zero_add];simp at hj;simp[hj]) (PI (fZ.one (cs:=cW k)) _ _) (by rw[Array.size_extract,gL,gL];omega) (TL k _ (by omega)) ?_
   refine aY ?_
   refine aO ?_
   refine aP ?_
   refine aP ?_
   refine aZ ?_
   refine ah (aF rfl) ?_
   refine ah (ye rfl rfl (by omega) (by omega)) ?_
   refine ah (bn rfl) ?_
   refine aY ?_
   refine aO ?_
   refine aP ?_
   refine aZ ?_
   refine ah (aF rfl) ?_
   refine ah (cz rfl rfl rfl) ?_
   refine aY ?_
   refine aO ?_
   refine av rfl (fun h2=> ?_) (fun h2=> ?_)
   ·
    have h2:=of_decide_eq_true h2
    refine uh 8 [] (by kernel_rfl) (by kernel_rfl) ?_
    simp only[List.take_succ_cons,List.take_zero]
    refine bm (aF rfl) ?_
    refine bm (aF rfl) ?_
    refine bm (ru rfl rfl (by omega) (by omega)) ?_
    refine bm (H3 rfl (lz _ _ (by omega))) ?_
    refine bm (aF rfl) ?_
    refine bm (ue (p:=255) rfl rfl (by decide) (by omega)) ?_
    refine bm (cz rfl rfl (TM _ _ (nU _ _) (by omega))) ?_
    refine bm (ru rfl rfl (by omega) (by omega)) ?_
    refine sB ?_
    refine sC ?_
    simp only[List.drop_succ_cons,List.drop_zero]
    refine eO rfl rfl (by rw[gL];omega) rfl (TN k n (by omega) (by omega) h2) ?_
    refine aY ?_
    refine aO ?_
    refine aP ?_
    refine aZ ?_
    refine ah (fN rfl) ?_
    refine qt rfl rfl ?_
    refine aY ?_
    refine aO ?_
    refine eu ?_
    refine au (.inl rfl) (Az rfl rfl) (fun w hw=> ?_)
    exact⟨rfl,hw.sub (List.nil_sublist _)⟩
   ·
    have h2:=of_decide_eq_false h2
    refine fW ?_
    refine aO ?_
    refine aP ?_
    refine aZ ?_
    refine ah (fN rfl) ?_
    refine qt rfl rfl ?_
    refine aY ?_
    refine aO ?_
    refine eu ?_
    refine au (.inl rfl) (Az rfl rfl) (fun w hw=> ?_)
    exact⟨by rw[TO k n (by omega) h2],hw.sub (List.nil_sublist _)⟩⟩
instance afB(k:Key)(n:Int):oE Tryz.prog 79 [.agg (cW k), .int .i64 n] (.agg (cW (hK k n))):=TP k n
theorem TQ(p:cR):oE Tryz.prog 78 [.agg (c5 p)] (.bool (cY p)):=⟨fun w=>by
 refine bf (args:=[_]) Tryz.func78 rfl Tryz.ntmps78 rfl ?_
 change Cw _ _ _ _ _ [(0, .agg (c5 p))] []
 refine aP ?_
 refine aZ ?_
 refine cq rfl fun b1=> ?_
 refine ah (bn rfl) ?_
 refine aY ?_
 refine aO ?_
 refine aP ?_
 refine aP ?_
 refine aZ ?_
 refine ah (aH (o':=0) rfl rfl) ?_
 refine ah (bI rfl) ?_
 refine fE (vO rfl) ?_
 refine ah (iu rfl) ?_
 refine ah (aF rfl) ?_
 refine ca rfl rfl rfl (fun hg=>(aH (o':=1) rfl rfl).yl) ?_
 refine ca rfl rfl rfl (fun hg=>(bI (aI hg rfl)).yl) ?_
 refine ca rfl rfl rfl (fun hg=>(cz (aI hg rfl) rfl rfl).yl) ?_
 refine ah (mf rfl rfl rfl) ?_
 refine ah (aF rfl) ?_
 refine ca rfl rfl rfl (fun hg=>(aH (o':=1) rfl rfl).yl) ?_
 refine ca rfl rfl rfl (fun hg=>(bI (aI hg rfl)).yl) ?_
 refine ca rfl rfl rfl (fun hg=>(aH (o':=0) rfl rfl).yl) ?_
 refine ca rfl rfl rfl (fun hg=>(bI (aI hg rfl)).yl) ?_
 refine ca rfl rfl rfl (fun hg=>(cz (aI hg rfl) (aI hg rfl) rfl).yl) ?_
 refine ah (mf rfl rfl rfl) ?_
 refine aY ?_
 refine aO ?_
 refine av rfl (fun h0=> ?_) (fun h0=> ?_)
 ·
  refine aP ?_
  refine aZ ?_
  refine ah (bn rfl) ?_
  refine aY ?_
  refine aO ?_
  refine eu ?_
  refine fj ?_
  refine au (.inl rfl) (kr rfl rfl) (fun w hw=> ?_)
  refine⟨?_,hw.sub (List.nil_sublist _)⟩
  have:cY p=false:=by unfold cY;simp at h0⊢;omega
  rw[this]
 ·
  refine fW ?_
  refine aO ?_
  refine aP ?_
  refine iF (by kernel_rfl) (by kernel_rfl) ?_
  refine bm (aH (o':=2) rfl rfl) ?_
  refine bm (jj rfl) ?_
  refine bm (aH (o':=1) rfl rfl) ?_
  refine bm (bI rfl) ?_
  refine ug (vO rfl) ?_
  refine bm (aH (o':=2) rfl rfl) ?_
  refine bm (jj rfl) ?_
  refine bm (H6 rfl rfl) ?_
  refine bm (bn rfl) ?_
  refine vQ ?_
  refine aO ?_
  refine eu ?_
  refine au (.inl rfl) (kr rfl rfl) (fun w hw=> ?_)
  refine⟨?_,hw.sub (List.nil_sublist _)⟩
  congr 2;unfold cY;simp at h0⊢;obtain⟨⟨h1,h2⟩,h3⟩:=h0;simp[h2,h3,show p.bits=32∨p.bits=128 by omega]⟩
instance afC(p:cR):oE Tryz.prog 78 [.agg (c5 p)] (.bool (cY p)):=TQ p
open Go.ay Go.Kb
open Go.RowKit
def qc(k:Key):List Int:=(List.range 16).map fun i=>(cH k i:Int)
theorem Lo(k:Key)(j:Nat)(x:Int)(h:(qc k)[j]? =some x):j<16∧x=cH k j:=by
 have hl:j<16:=by have:=(List.getElem?_eq_some_iff.1 h).1;simpa[qc]using this
 refine⟨hl,?_⟩
 simp[qc,hl]at h
 exact h.symm
theorem TR{x y:UInt8}{xs ys:List UInt8}:Lib.compareBytes (x::xs) (y::ys)=if x.toNat<y.toNat then -1 else if y.toNat<x.toNat then 1 else Lib.compareBytes xs ys:=by
 simp[Lib.compareBytes,UInt8.lt_iff_toNat_lt]
theorem Lp(a b:Key): ∀(n i:Nat),i+n=16→(∀j,j<i→cH a j=cH b j)→
  Lib.compareBytes ((List.range' i n).map fun j=>(cH a j).toUInt8) ((List.range' i n).map fun j=>(cH b j).toUInt8)=oL a b
 |0,i,hi,hs=>by
  have:a=b:=yy fun j hj=>hs j (by omega)
  subst this
  simp[Lib.compareBytes,oL]
 |n+1,i,hi,hs=>by
  have ha:=nU a i
  have hb:=nU b i
  rw[List.range'_succ,List.map_cons,List.map_cons,TR]
  have ea:(cH a i).toUInt8.toNat=cH a i:=by simp;omega
  have eb:(cH b i).toUInt8.toNat=cH b i:=by simp;omega
  rw[ea,eb]
  by_cases h1:cH a i<cH b i
  ·
   rw[if_pos h1]
   have:=IP (by omega) hs h1
   unfold oL;rw[if_pos this]
  ·
   rw[if_neg h1]
   by_cases h2:cH b i<cH a i
   ·
    rw[if_pos h2]
    have:=IP (by omega) (fun j hj=>(hs j hj).symm) h2
    unfold oL;rw[if_neg (by omega),if_pos this]
   ·
    rw[if_neg h2]
    exact Lp a b n (i+1) (by omega) fun j hj=>by
     by_cases e:j=i
     ·
      subst e;omega
     ·
      exact hs j (by omega)
theorem Lr(k:Key):(⟨ByteArray.empty.data++(Lib.bytesOf (qc k)).toArray⟩:ByteArray).data.toList=(List.range' 0 16).map fun j=>(cH k j).toUInt8:=by
 simp[Lib.bytesOf,qc,List.range_eq_range']
theorem TS(a b:Key)(p q:Addr)(c c':Nat)(w:World)(hp: ∀j,j<16→w.cell? (p.add j)=some (.int .u8 (cH a j)))(hq: ∀j,j<16→w.cell? (q.add j)=some (.int .u8 (cH b j))):
  Calls Tryz.prog 119 [.slice (some p) 16 c, .slice (some q) 16 c'].toArray w fun e w'=>e= .returned (.int .i64 (oL a b))∧Mem w [] w':=by
 refine bf (args:=[_,_]) Tryz.func119 rfl Tryz.ntmps119 rfl ?_
 change Cw _ _ _ _ _ [(0, .slice (some p) 16 c),(1, .slice (some q) 16 c')] []
 refine aP ?_
 refine aZ ?_
 refine ah (bn rfl) ?_
 refine aY ?_
 refine aO ?_
 refine aP ?_
 refine aZ ?_
 refine ah (aF rfl) ?_
 refine ah (aF rfl) ?_
 refine ah (v:= .int .i64 (oL a b)) ?_ ?_
 ·
  intro aa w1 ha hw
  have rU: ∀j,j<16→w1.cell? (p.add j)=some (.int .u8 (cH a j)):=fun j hj=>by
   rw[←hp j hj];exact hw.below.cell (block_lt_of_cell (hp j hj))
  have TT: ∀j,j<16→w1.cell? (q.add j)=some (.int .u8 (cH b j)):=fun j hj=>by
   rw[←hq j hj];exact hw.below.cell (block_lt_of_cell (hq j hj))
  have r1:=Lib.run_loadBytesX (P:=Tryz.prog) w1 (qc a) p .empty (fun j x hx=>by obtain⟨h1,rfl⟩:=Lo a j x hx;exact rU j h1)
  have r2:=Lib.run_loadBytesX (P:=Tryz.prog) w1 (qc b) q .empty (fun j x hx=>by obtain⟨h1,rfl⟩:=Lo b j x hx;exact TT j h1)
  have l1:(qc a).length=16:=by simp[qc]
  have l2:(qc b).length=16:=by simp[qc]
  rw[l1]at r1
  rw[l2]at r2
  have e5:=ha.ev (x:= .tmp 5) (v:= .slice (some p) 16 c) rfl
  have e6:=ha.ev (x:= .tmp 6) (v:= .slice (some q) 16 c') rfl
  have fT:(callFunc 143 #[.slice (some p) 16 c, .slice (some q) 16 c']).run Tryz.prog w1= .ok (.value (.int .i64 (oL a b))) w1:=by
   rw[run_callFunc_extern Tryz.func143 (by kernel_rfl) (by kernel_rfl) (by kernel_rfl) (e:=Extern.BytealgCompare.compare) (by kernel_rfl)]
   have:(Extern.BytealgCompare.compare #[.slice (some p) 16 c, .slice (some q) 16 c']).run Tryz.prog w1= .ok (.int .i64 (oL a b)) w1:=by
    change Sem.run Tryz.prog (do pure (goInt (Extern.BytealgCompare.cmp (←Extern.Bytes.bytesOf (.slice (some p) 16 c)) (←Extern.Bytes.bytesOf (.slice (some q) 16 c'))))) w1=_
    simp only[Extern.Bytes.bytesOf,Sem.run_bind,r1,r2,Sem.run_pure,Result.andThen]
    rw[Lib.cmp_eq,Lr,Lr,Lp a b 16 0 rfl (fun j h=>by omega)]
    rfl
   rw[this];rfl
  simp[execOp,resolve,Act.eval,Deferred.ofValue,invoke]at e5 e6⊢
  rw[e5,e6,fT]
 refine ah (bn rfl) ?_
 refine aY ?_
 refine aO ?_
 refine eu ?_
 refine au (.inl rfl) (kr rfl rfl) (fun w hw=> ?_)
 exact⟨rfl,hw.sub (List.nil_sublist _)⟩
open Go.ay Go.Kb
open Go.RowKit
theorem Ls{w0 w:World}{L:List aj}{b:Nat}{p:cR}{T:TypeId}{i:Nat}(hw:Mem w0 L w)[hh:Has L b (c5 p) T i](j:Nat)(hj:j<16):w.cell? ((⟨b,2,none⟩:Addr).add j)=some (.int .u8 (cH p.key j)):=by
 rw[Addr.gw,hw.cell hh.h,pK,lz _ j hj]
theorem FD{p q:cR}(h1:cY p=true)(h2:cY q=true):dJ p q=(if p.bits≠q.bits then decide (p.bits=32)else if p.key≠q.key then decide (p.key.toNat<q.key.toNat)else decide (p.len<q.len)):=by
 unfold dJ;rw[h1,h2];rfl
theorem TU(p q:cR):oE Tryz.prog 81 [.agg (c5 p), .agg (c5 q)] (.bool (dJ p q)):=⟨fun w=>by
 refine bf (args:=[_,_]) Tryz.func81 rfl Tryz.ntmps81 rfl ?_
 change Cw _ _ _ _ _ [(0, .agg (c5 p)),(1, .agg (c5 q))] []
 refine aP ?_
 refine aZ ?_
 refine cq rfl fun b2=> ?_
 refine cq rfl fun b3=> ?_
 refine ah (bn rfl) ?_
 refine aY ?_
 refine aO ?_
 refine aP ?_
 refine aP ?_
 refine aZ ?_
 refine ah (fN rfl) ?_
 refine fE (vO rfl) ?_
 refine ah (iu rfl) ?_
 refine ah (aF rfl) ?_
 refine ca rfl rfl rfl (fun hg=>(fN rfl).yl) ?_
 refine ca rfl rfl rfl (fun hg=>vO (dP (aI hg rfl) gP)) ?_
 refine ca rfl rfl rfl (fun hg=>(iu (aI hg rfl)).yl) ?_
 refine ah (mf rfl rfl rfl) ?_
 refine aY ?_
 refine aO ?_
 refine av rfl (fun h0=> ?_) (fun h0=> ?_)
 ·
  simp at h0
  refine aP ?_
  refine aZ ?_
  refine ah (bn rfl) ?_
  refine aY ?_
  refine aO ?_
  refine eu ?_
  refine fj ?_
  refine au (.inl rfl) (kr rfl rfl) (fun w hw=> ?_)
  refine⟨?_,hw.sub (List.nil_sublist _)⟩
  have:dJ p q=false:=by unfold dJ;cases h1:cY p<;>cases h2:cY q<;>simp_all
  rw[this]
 ·
  simp at h0
  obtain⟨m1,m2⟩:=h0
  refine fW ?_
  refine aO ?_
  refine aP ?_
  refine aP ?_
  refine aZ ?_
  refine ah (aH (o':=0) rfl rfl) ?_
  refine ah (bI rfl) ?_
  refine ah (aH (o':=0) rfl rfl) ?_
  refine ah (bI rfl) ?_
  refine ah (cz rfl rfl rfl) ?_
  refine aY ?_
  refine aO ?_
  refine av rfl (fun h1=> ?_) (fun h1=> ?_)
  ·
   simp at h1
   refine aP ?_
   refine aZ ?_
   refine ah (aH (o':=0) rfl rfl) ?_
   refine ah (bI rfl) ?_
   refine ah (cz rfl rfl rfl) ?_
   refine ah (bn rfl) ?_
   refine aY ?_
   refine aO ?_
   refine eu ?_
   refine fj ?_
   refine au (.inl rfl) (kr rfl rfl) (fun w hw=> ?_)
   exact⟨by rw[FD m1 m2,if_pos h1],hw.sub (List.nil_sublist _)⟩
  ·
   simp at h1
   refine fW ?_
   refine aO ?_
   refine aP ?_
   refine aP ?_
   refine iF (by kernel_rfl) (by kernel_rfl) ?_
   refine bm (aH (o':=2) rfl rfl) ?_
   refine bm (uc rfl) ?_
   refine bm (aH (o':=2) rfl rfl) ?_
   refine bm (uc rfl) ?_
   refine ug (Au rfl (fun w hw=>TS p.key q.key _ _ _ _ w (Ls hw) (Ls hw))) ?_
   refine bm (bn rfl) ?_
   refine vQ ?_
   refine aO ?_
   refine aP ?_
   refine aZ ?_
   refine ah (aF rfl) ?_
   refine ah (cz rfl rfl rfl) ?_
   refine aY ?_
   refine aO ?_
   refine av rfl (fun h2=> ?_) (fun h2=> ?_)
   ·
    simp at h2
    refine aP ?_
    refine aZ ?_
    refine ah (aF rfl) ?_
    refine ah (cz rfl rfl rfl) ?_
    refine ah (bn rfl) ?_
    refine aY ?_
    refine aO ?_
    refine eu ?_
    refine fj ?_
    refine au (.inl rfl) (kr rfl rfl) (fun w hw=> ?_)
    exact⟨by rw[FD m1 m2,if_neg (by simpa using h1),if_pos (fun e=>h2 ((IQ _ _).2 e)),decide_eq_decide.2 (QA _ _)],hw.sub (List.nil_sublist _)⟩
   ·
    simp at h2
    refine fW ?_
    refine aO ?_
    refine aP ?_
    refine aZ ?_
    refine ah (aH (o':=1) rfl rfl) ?_
    refine ah (bI rfl) ?_
    refine ah (aH (o':=1) rfl rfl) ?_
    refine ah (bI rfl) ?_
    refine ah (cz rfl rfl rfl) ?_
    refine ah (bn rfl) ?_
    refine aY ?_
    refine aO ?_
    refine eu ?_
    refine au (.inl rfl) (kr rfl rfl) (fun w hw=> ?_)
    exact⟨by rw[FD m1 m2,if_neg (by simpa using h1),if_neg (by simpa using(IQ _ _).1 h2)],hw.sub (List.nil_sublist _)⟩⟩
instance afD(p q:cR):oE Tryz.prog 81 [.agg (c5 p), .agg (c5 q)] (.bool (dJ p q)):=TU p q
open Go.ay Go.Kb
instance afE:fk Tryz.prog 22 48 4 48:=⟨Tryz.underlying22,by kernel_rfl⟩
instance afF:fk Tryz.prog 23 94 4 16:=⟨Tryz.underlying23,by kernel_rfl⟩
instance afG:fk Tryz.prog 26 3 1 8:=⟨Tryz.underlying26,by kernel_rfl⟩
instance afH:fh Tryz.prog 38 (.slice none 0 0):=⟨by kernel_rfl⟩
instance afI:fk Tryz.prog 38 5 1 1:=⟨Tryz.underlying38,by kernel_rfl⟩
instance afJ:fk Tryz.prog 43 50 4 32:=⟨Tryz.underlying43,by kernel_rfl⟩
instance afK:fk Tryz.prog 46 38 1 24:=⟨Tryz.underlying46,by kernel_rfl⟩
instance afL:fk Tryz.prog 52 68 19 40:=⟨Tryz.underlying52,by kernel_rfl⟩
instance afM:fk Tryz.prog 76 91 20 48:=⟨Tryz.underlying76,by kernel_rfl⟩
instance afN:fk Tryz.prog 103 102 2 32:=⟨Tryz.underlying103,by kernel_rfl⟩
instance afO:fk Tryz.prog 161 26 1 24:=⟨Tryz.underlying161,by kernel_rfl⟩
instance afP:fk Tryz.prog 186 46 1 24:=⟨Tryz.underlying186,by kernel_rfl⟩
instance afQ:fk Tryz.prog 238 235 1 8:=⟨Tryz.underlying238,by kernel_rfl⟩
instance:bx ax 19:=⟨ku,fun r=>by
 have h:(c5 r.p).all (·.oneCell')=true:=(inferInstance:fZ (c5 r.p) 18).one
 rw[ax,Array.all_append,h];simp[Value.oneCell']⟩
instance:Deep Rt:=Deep.flat ax 19
instance:fO Rt ax 19:=⟨rfl,fun _=>rfl⟩
instance (r:Rt):fZ (ax r) 19:=⟨ku r,bx.one r⟩
instance (r:Rt):nQ (ax r) 0 18 (c5 r.p):=⟨nW _,fun j hj=>by rw[Nat.zero_add];exact nX r j hj⟩
instance (r:Rt):cn (ax r) 18 (.int .u16 r.dG.toNat):=⟨wb r⟩
instance (r:Rt):cn (ax r) 0 (.int .i64 r.p.bits):=⟨(nX r 0 (by decide)).trans (uv r.p)⟩
instance (r:Rt):cn (ax r) 1 (.int .i64 r.p.len):=⟨(nX r 1 (by decide)).trans (uw r.p)⟩
theorem TV(d:Nat):qX Tryz.prog (d+1) 66 false [0]:=⟨⟨_,Tryz.underlying66,rfl⟩,by kernel_rfl,fun _=>rfl,FA Tryz.underlying66⟩
theorem TW:Tryz.prog.stoodInHeld 68=false:=by kernel_rfl
theorem TX(d:Nat):qX Tryz.prog (d+1+1+1+1) 68 true (([0]++([0]++((List.replicate 16 [0]).flatten++[])))++([0]++[])):=⟨⟨_,Tryz.underlying68,rfl⟩,by kernel_rfl,(fun h=>by cases h),
 Lj Tryz.underlying68 TW ⟨by decide,rfl,_,_,_,rfl,Lm _,by decide,rfl,_,_,_,rfl,TV _,rfl⟩⟩
theorem TY:Tryz.prog.eqGuardType Tryz.prog.depth 68=false:=by kernel_rfl
instance (a b:Rt):vL Tryz.prog 68 (.agg (ax a)) (.agg (ax b)) (decide (a=b)):=
 (TX 9996).eq.val rfl TY (ku a) (ku b) (fun i k hk=>by
  have h0:k=0:=by
   have:k∈(([0]++([0]++((List.replicate 16 [0]).flatten++[])))++([0]++[])):=List.mem_of_getElem? hk
   simpa using this
  subst h0
  have hi:i<19:=(List.getElem?_eq_some_iff.1 hk).1
  match i,hi with
  |0,_=>exact⟨_,_,(inferInstance:cn (ax a) 0 _).h,(inferInstance:cn (ax b) 0 _).h,rfl⟩
  |1,_=>exact⟨_,_,(inferInstance:cn (ax a) 1 _).h,(inferInstance:cn (ax b) 1 _).h,rfl⟩
  |j+2,hi=>
   rcases Nat.lt_or_ge j 16 with h|h
   ·
    rw[Nat.add_comm j 2]
    exact⟨_,_,(nX a _ (by omega)).trans ((pK a.p j).trans (lz _ j h)),(nX b _ (by omega)).trans ((pK b.p j).trans (lz _ j h)),rfl⟩
   ·
    obtain rfl:j=16:=by omega
    exact⟨_,_,wb a,wb b,rfl⟩) (by rw[decide_eq_true_iff];exact⟨QD,fun h=>by rw[h]⟩)
instance:yg Tryz.prog 68 [] (.agg (ax jk)):=⟨fun w=>by unfold ax c5 jk;rw[y9];kernel_rfl⟩
instance:fh Tryz.prog 68 (.agg (ax jk)):=⟨by unfold ax c5 jk;rw[y9];kernel_rfl⟩
end Go.Proofs.YtaipiecplldinaaGreat
namespace Go.Kb
open Go.ay
instance:Plain Rt:=⟨fun _=>rfl⟩
instance:eQ Rt:=eQ.flat fun _ _=>trivial
structure cf where
 al:bT
 table:Sl Rt
def bS(x:cf):Array Value:= #[.int .i64 x.al.ag.ae, .int .i64 x.al.ag.size,x.al.ag.blocks.sv.val, .int .i64 x.al.ag.ops, .bool x.al.ag.off,x.al.ag.aX.sv.val,x.al.at_.sv.val, .int .u64 x.al.gen.toNat, .int .i64 x.al.last,x.table.sv.val]
instance:bx bS 10:=⟨fun _=>rfl,fun x=>by
 simp only[bS,List.all_toArray,List.all_cons,List.all_nil,Sv.one,qG,qH,Bool.and_self]⟩
instance (x:cf):fZ (bS x) 10:=⟨rfl,bx.one x⟩
instance (x:cf):cn (bS x) 1 (.int .i64 x.al.ag.size):=⟨rfl⟩
instance (x:cf):cn (bS x) 2 (x.al.ag.blocks.sv.val):=⟨rfl⟩
instance (x:cf):cn (bS x) 6 (x.al.at_.sv.val):=⟨rfl⟩
instance (x:cf):cn (bS x) 7 (.int .u64 x.al.gen.toNat):=⟨rfl⟩
instance (x:cf):cn (bS x) 8 (.int .i64 x.al.last):=⟨rfl⟩
instance (x:cf):cn (bS x) 9 (x.table.sv.val):=⟨rfl⟩
instance (x:cf):nQ (bS x) 0 9 (bL x.al):=⟨rfl,fun j hj=>by
 match j,hj with
 |0,_=>rfl
 |1,_=>rfl
 |2,_=>rfl
 |3,_=>rfl
 |4,_=>rfl
 |5,_=>rfl
 |6,_=>rfl
 |7,_=>rfl
 |8,_=>rfl⟩
instance (x:cf):nQ (bS x) 0 6 (aE x.al.ag):=⟨rfl,fun j hj=>by
 match j,hj with
 |0,_=>rfl
 |1,_=>rfl
 |2,_=>rfl
 |3,_=>rfl
 |4,_=>rfl
 |5,_=>rfl⟩
instance:Deep cf where
 c:=10
 cells:=bS
 size:=bx.size
 one:=bx.one
 bh h x:=Deep.bh h x.al∧Deep.bh h x.table
 ck x:= .two (Deep.ck x.al) (Deep.ck x.table)
 iP h x hs:=⟨Deep.iP h x.al hs.1,Deep.iP h x.table hs.2.1⟩
 mono w w' x hg hb:=⟨Deep.mono w w' x.al hg.1 hb,Deep.mono w w' x.table hg.2 hb⟩
instance:eQ cf where
 reach x k:=eQ.reach x.al k∨eQ.reach x.table k
 congr h h' x e hg:=⟨eQ.congr h h' x.al (fun k hk=>e k (.inl hk)) hg.1,eQ.congr h h' x.table (fun k hk=>e k (.inr hk)) hg.2⟩
instance {w0:World}{L:List aj}{x:cf}[q:aW w0 L x]:aW w0 L x.al:=⟨fun w hw=>(q.h w hw).1⟩
instance {w0:World}{L:List aj}{x:cf}[q:aW w0 L x]:aW w0 L x.table:=⟨fun w hw=>(q.h w hw).2⟩
instance {w0:World}{L:List aj}{al:bT}{table:Sl Rt}[q0:aW w0 L al][q1:aW w0 L table]:aW w0 L (cf.mk al table):=⟨fun w hw=>⟨q0.h w hw,q1.h w hw⟩⟩
def ld:cf:=⟨kN,⟨Sv.none,[]⟩⟩
structure FV where
 al:VV
 table:List Rt
 deriving DecidableEq
def bF(f:cf):FV:=⟨vv f.al,f.table.xs⟩
def pc:FV:=⟨j6,[]⟩
def ti(b p s:Int):Int:=min (qa b p/2) (jJ s)
def tj(b p s:Int):Int:=iB (ti b p s) (dR s)
def dS(c:CV):Int:=ti c.blocks.length c.ae c.size
def fC(c:CV):Int:=tj c.blocks.length c.ae c.size
def dX(c:CV)(y:Int):List UInt8:=if y -1<0 then[]else ju c y
def ct(v:VV):List (List UInt8):=v.at_.map (dX v.ag)
def dg(c:CV):FV×Int:=
 if fC c=0 then(pc,1)
 else if(bC c).2≠0 then(pc,(bC c).2)
 else if((bC c).1.at_.length:Int)≠dS c then(pc,2)
 else if jO (ct (bC c).1)≠0 then(pc,2)
 else(⟨(bC c).1,iZ (ct (bC c).1)⟩,0)
def jA(c:CV):List (List UInt8):=if(dg c).2=0 then ct (bC c).1 else[]
theorem Lt{c:CV}(h:fC c=0):dg c=(pc,1)∧jA c=[]:=by
 have e:dg c=(pc,1):=by rw[dg,if_pos h]
 exact⟨e,by rw[jA,e];rfl⟩
theorem Lu{c:CV}(h: ¬fC c=0)(h1:(bC c).2≠0):dg c=(pc,(bC c).2)∧jA c=[]:=by
 have e:dg c=(pc,(bC c).2):=by rw[dg,if_neg h,if_pos h1]
 exact⟨e,by rw[jA,e,if_neg h1]⟩
theorem Lw{c:CV}(h: ¬fC c=0)(h1:(bC c).2=0)(h2:((bC c).1.at_.length:Int)≠dS c):dg c=(pc,2)∧jA c=[]:=by
 have e:dg c=(pc,2):=by rw[dg,if_neg h,if_neg (fun g=>g h1),if_pos h2]
 exact⟨e,by rw[jA,e];rfl⟩
theorem Ly{c:CV}(h: ¬fC c=0)(h1:(bC c).2=0)(h2:((bC c).1.at_.length:Int)=dS c)(h3:jO (ct (bC c).1)≠0):dg c=(pc,2)∧jA c=[]:=by
 have e:dg c=(pc,2):=by rw[dg,if_neg h,if_neg (fun g=>g h1),if_neg (fun g=>g h2),if_pos h3]
 exact⟨e,by rw[jA,e];rfl⟩
theorem B6{c:CV}(h: ¬fC c=0)(h1:(bC c).2=0)(h2:((bC c).1.at_.length:Int)=dS c)(h3:jO (ct (bC c).1)=0):dg c=(⟨(bC c).1,iZ (ct (bC c).1)⟩,0)∧jA c=ct (bC c).1:=by
 have e:dg c=(⟨(bC c).1,iZ (ct (bC c).1)⟩,0):=by rw[dg,if_neg h,if_neg (fun g=>g h1),if_neg (fun g=>g h2),if_neg (fun g=>g h3)]
 exact⟨e,by rw[jA,e,if_pos rfl]⟩
theorem B7{c:CV}(h:(dg c).2=0): ¬fC c=0∧(bC c).2=0∧((bC c).1.at_.length:Int)=dS c∧jO (ct (bC c).1)=0:=by
 by_cases h0:fC c=0
 ·
  rw[(Lt h0).1]at h;cases h
 by_cases h1:(bC c).2=0
 ·
  by_cases h2:((bC c).1.at_.length:Int)=dS c
  ·
   by_cases h3:jO (ct (bC c).1)=0
   ·
    exact⟨h0,h1,h2,h3⟩
   ·
    rw[(Ly h0 h1 h2 h3).1]at h;cases h
  ·
   rw[(Lw h0 h1 h2).1]at h;cases h
 ·
  rw[(Lu h0 h1).1]at h;exact absurd h h1
def gp(f:FV):Bool:=decide ((dg {f.al.ag with off:=false}).2=0)&&decide (f.al.gen=(dg {f.al.ag with off:=false}).1.al.gen)&&decide (f.al.last=(dg {f.al.ag with off:=false}).1.al.last)&&decide (f.al.at_=(dg {f.al.ag with off:=false}).1.al.at_)&&decide (f.table=(dg {f.al.ag with off:=false}).1.table)
theorem FE{f:FV}:gp f=true↔(dg {f.al.ag with off:=false}).2=0∧f.al.gen=(dg {f.al.ag with off:=false}).1.al.gen∧f.al.last=(dg {f.al.ag with off:=false}).1.al.last∧f.al.at_=(dg {f.al.ag with off:=false}).1.al.at_∧f.table=(dg {f.al.ag with off:=false}).1.table:=by
 simp only[gp,Bool.and_eq_true,decide_eq_true_eq,and_assoc]
theorem TZ{f:FV}:gp f=(decide ((dg {f.al.ag with off:=false}).2=0)&&kO f.al&&decide ((dg {f.al.ag with off:=false}).1.table=f.table)):=by
 rw[Bool.eq_iff_iff,FE]
 simp only[kO,Bool.and_eq_true,decide_eq_true_eq]
 constructor
 ·
  rintro⟨h1,h2,h3,h4,h5⟩
  obtain⟨g0,g1,g2,g3⟩:=B7 h1
  rw[(B6 g0 g1 g2 g3).1]at h2 h3 h4
  exact⟨⟨h1,⟨⟨g1,h2.symm⟩,h3.symm⟩,h4.symm⟩,h5.symm⟩
 ·
  rintro⟨⟨h1,⟨⟨g4,h2⟩,h3⟩,h4⟩,h5⟩
  obtain⟨g0,g1,g2,g3⟩:=B7 h1
  rw[(B6 g0 g1 g2 g3).1]at h5⊢
  exact⟨rfl,h2.symm,h3.symm,h4.symm,h5.symm⟩
theorem T0{bs:List (List UInt8)}(h:jO bs=0):dt (iZ bs)=true:=by
 unfold jO iZ at*
 cases hu:gn bs with
 |none=>rw[hu]at h;cases h
 |some t=>
  rw[hu]at h
  simp only at h⊢
  by_cases ht:dt t=true
  ·
   rw[if_pos ht];exact ht
  ·
   rw[if_neg ht]at h;cases h
def cJ(f:FV)(l:List Ch):FV×Int:=
 if gp f=false then(f,1)
 else if dW f.table l≠0 then(f,dW f.table l)
 else if iY (cT f.table l) (dS f.al.ag) (dR f.al.ag.size)≠0 then(f,iY (cT f.table l) (dS f.al.ag) (dR f.al.ag.size))
 else if eJ (jA {f.al.ag with off:=false}) (jN (cT f.table l) (dS f.al.ag) (dR f.al.ag.size))=[]then(⟨f.al,cT f.table l⟩,0)
 else(⟨(fJ f.al (eJ (jA {f.al.ag with off:=false}) (jN (cT f.table l) (dS f.al.ag) (dR f.al.ag.size)))).1,if(fJ f.al (eJ (jA {f.al.ag with off:=false}) (jN (cT f.table l) (dS f.al.ag) (dR f.al.ag.size)))).2≠0 then f.table else cT f.table l⟩,(fJ f.al (eJ (jA {f.al.ag with off:=false}) (jN (cT f.table l) (dS f.al.ag) (dR f.al.ag.size)))).2)
def nC(c:CV):FV×Int:=if fC c=0 then(⟨⟨c,[],0,0⟩,[]⟩,1)else(⟨(lE c (dS c)).1,[]⟩,(lE c (dS c)).2)
def u7(f:FV)(k:Key)(bits:Int):Rt:=if gp f=true then u4 f.table k bits else jk
def u9(f:FV)(k:Key)(bits:Int):Int:=if gp f=true then u5 f.table k bits else 1
theorem va{w0 w:World}{L:List aj}{a:Sl Rt}(h:Mem w0 (own ax 19 a.sv a.xs::L) w):Mem w0 (fz a::L) w:=Bf (fun _ _ h=>h) (fun _ _=>trivial) h
theorem B8{w0 w:World}{L:List aj}{f:cf}(h:Mem w0 (fz f.al.ag::fz f.al.at_::fz f.table::L) w):Mem w0 (fz f::L) w:=by
 refine Mem.freeze (es:=[fz f.al.ag,fz f.al.at_,fz f.table]) f ⟨⟨h.sat (fz f.al.ag) (by simp),h.sat (fz f.al.at_) (by simp)⟩,h.sat (fz f.table) (by simp)⟩ (fun k hk=> ?_) h
 rcases hk with(hk|hk)|hk
 ·
  exact⟨fz f.al.ag,by simp,hk⟩
 ·
  exact⟨fz f.al.at_,by simp,hk⟩
 ·
  exact⟨fz f.table,by simp,hk⟩
theorem Lz{w0 w:World}{L:List aj}{f:cf}(h:Mem w0 (fz f.al.ag::own bP 1 f.al.at_.sv f.al.at_.xs::own ax 19 f.table.sv f.table.xs::L) w):Mem w0 (fz f::L) w:=by
 have h1:=uG (a:=f.al.at_) (h.perm (List.Perm.swap _ _ _))
 have h2:=va (a:=f.table) (h1.perm ((List.Perm.cons _ (List.Perm.swap _ _ _)).trans (List.Perm.swap _ _ _)))
 exact B8 (h2.perm ((List.Perm.cons _ (List.Perm.swap _ _ _)).trans ((List.Perm.swap _ _ _).trans (List.Perm.cons _ (List.Perm.swap _ _ _)))))
theorem B9{w0 w:World}{L:List aj}(h:Mem w0 L w):Mem w0 (fz ld::L) w:=
 Mem.freeze (es:=[]) ld ⟨⟨⟨uu,uu⟩,uu⟩,uu⟩ (fun k hk=>by
  rcases hk with(((⟨cF,_⟩|⟨x,hx,_⟩)|⟨cF,_⟩|⟨x,hx,_⟩)|⟨cF,_⟩|⟨x,hx,_⟩)|⟨cF,_⟩|⟨x,hx,_⟩
  all_goals first|exact absurd rfl cF|cases hx) h
theorem w6{w0 w:World}{L:List aj}:Mem w0 L w→Mem w0 (fz (⟨Sv.none,[]⟩:Sl (Sl UInt8))::L) w:=
 Mem.freeze (es:=[]) _ uu (fun k hk=>by
  rcases hk with⟨cF,_⟩|⟨x,hx,_⟩
  ·
   exact absurd rfl cF
  ·
   cases hx)
theorem LA(s:Int):0≤jJ s∧jJ s≤64:=by
 rw[jJ,dR]
 split
 ·
  rename_i h;have:=uJ.1 h;omega
 ·
  omega
theorem FF(c:CV):dS c≤64:=by
 have:=LA c.size
 rw[dS,ti];omega
theorem T1(b p:Int):0≤qa b p∧qa b p≤448:=by
 rw[qa]
 split
 ·
  omega
 ·
  rename_i h
  have h1:0≤b -4∧b -4≤28:=by omega
  have h2:1≤p∧p≤16:=by omega
  exact⟨Int.mul_nonneg h1.1 (by omega),Int.le_trans (Int.mul_le_mul h1.2 h2.2 (by omega) (by omega)) (by decide)⟩
theorem LB{c:CV}(h:(bC c).2=0):(bC c).1.ag=c:=by
 obtain⟨_,_,e⟩:=EY h
 rw[e]
theorem T2{c:CV}(h:(bC c).2=0):c.off=false:=by
 cases ho:c.off with
 |false=>rfl
 |true=>rw[bC,if_neg (by rw[EX h];simp),if_pos ho]at h;cases h
theorem T3{c:CV}(h:(bC c).2=0):kO (bC c).1=true:=by
 have e:{(bC c).1.ag with off:=false}=c:=by rw[LB h,←T2 h]
 simp only[kO,e,h,decide_true,Bool.and_self]
theorem T4(c:CV)(n:Int):(ju c n).length≤65536:=by
 rw[ju]
 split
 ·
  exact ET _
 ·
  simp
theorem za(v:VV):(ct v).length=v.at_.length:=by rw[ct,List.length_map]
theorem T5(c:CV)(n:Int):(dX c n).length≤65536:=by
 rw[dX]
 split
 ·
  simp
 ·
  exact T4 c n
theorem T6(c:CV):(jA c).length≤64:=by
 rw[jA]
 split
 ·
  rename_i h
  obtain⟨g0,g1,g2,g3⟩:=B7 h
  have:=FF c
  rw[za];omega
 ·
  simp
def fe(f:FV):List (List UInt8):=jA {f.al.ag with off:=false}
def tk(f:FV)(l:List Ch):Int:=iY (cT f.table l) (dS f.al.ag) (dR f.al.ag.size)
def fD(f:FV)(l:List Ch):List (List UInt8):=jN (cT f.table l) (dS f.al.ag) (dR f.al.ag.size)
theorem T7{f:FV}{l:List Ch}(h0:gp f=false):cJ f l=(f,1):=by rw[cJ,if_pos h0]
theorem Ca(f:FV)(l:List Ch):cJ f l=(if gp f=false then(f,1)
 else if dW f.table l≠0 then(f,dW f.table l)
 else if tk f l≠0 then(f,tk f l)
 else if eJ (fe f) (fD f l)=[]then(⟨f.al,cT f.table l⟩,0)
 else(⟨(fJ f.al (eJ (fe f) (fD f l))).1,if(fJ f.al (eJ (fe f) (fD f l))).2≠0 then f.table else cT f.table l⟩,(fJ f.al (eJ (fe f) (fD f l))).2)):=rfl
theorem LC{f:FV}{l:List Ch}(h0:gp f=true)(h1:dW f.table l≠0):cJ f l=(f,dW f.table l):=by
 rw[Ca,if_neg (by rw[h0];simp),if_pos h1]
theorem LD{f:FV}{l:List Ch}(h0:gp f=true)(h1:dW f.table l=0)(h2:tk f l≠0):cJ f l=(f,tk f l):=by
 rw[Ca,if_neg (by rw[h0];simp),if_neg (fun h=>h h1),if_pos h2]
theorem LF{f:FV}{l:List Ch}(h0:gp f=true)(h1:dW f.table l=0)(h2:tk f l=0)(h3:eJ (fe f) (fD f l)=[]):cJ f l=(⟨f.al,cT f.table l⟩,0):=by
 rw[Ca,if_neg (by rw[h0];simp),if_neg (fun h=>h h1),if_neg (fun h=>h h2),if_pos h3]
theorem FG{f:FV}{l:List Ch}(h0:gp f=true)(h1:dW f.table l=0)(h2:tk f l=0)(h3: ¬eJ (fe f) (fD f l)=[]):cJ f l=(⟨(fJ f.al (eJ (fe f) (fD f l))).1,if(fJ f.al (eJ (fe f) (fD f l))).2≠0 then f.table else cT f.table l⟩,(fJ f.al (eJ (fe f) (fD f l))).2):=by
 rw[Ca,if_neg (by rw[h0];simp),if_neg (fun h=>h h1),if_neg (fun h=>h h2),if_neg h3]
def LG(f:FV):Bool:=aS f.al.ag&&decide (f.al.at_.length≤1000000)&&decide (f.table.length≤1000000)
end Go.Kb
namespace Go.ay
open Go.RowKit
theorem FI{P:Program}{fn:Func}{N:cB}{env:Env}{w0:World}{L:List aj}(hf:fn.results= #[]): ∀a w,da N env a→Mem w0 L w→(results fn a.tmps).run P w= .ok (.tuple #[]) w:=fun a w _ _=>by
 simp[results,hf]
section
variable {P:Program} {w0:World} {env:Env}
theorem LH{N:cB}{L:List aj}{d:Option Tmp}{ty:TypeId}{ps:String}{af:Array Edge}{gd:Option (Nat×Bool)}{t:TypeId}{x:Operand}{p:Addr}{v:Value}[ht:gQ P t](hx:ev env x=some (.pointer (some p)))(hc:w0.cell? p=some v):Ry P N w0 env L ⟨d, .load t x,ty,ps,af,gd⟩ v:=
 vM ht hx fun w hw=>(hw.below.cell (by
  unfold World.cell? at hc
  cases ho:w0.heap[p.block]?with
  |none=>simp[ho]at hc
  |some o=>exact(Array.getElem?_eq_some_iff.1 ho).1)).trans hc
end
section
variable {P:Program} {N:cB} {w0:World} {env:Env} {L:List aj} {l:List Oper} {Q:Exit→Act→World→Prop} {rest:List Oper} {d:Option Tmp} {ty:TypeId} {ps:String} {af:Array Edge} {K:Value→List aj→Prop}
instance cn.one{v:Value}:cn #[v] 0 v:=⟨rfl⟩
theorem T8{t:TypeId}{x:Operand}{v:Value}(hc:v.cells= #[v])(hx:ev env x=some v)(hk: ∀b,Sq P N w0 l Q rest (cw env d (.pointer (some ⟨b,0,none⟩))) (ar b #[v] t::L))(hd:dj N d=true:=by rfl):
  Sq P N w0 l Q (⟨d, .box t x,ty,ps,af,none⟩::rest) env L:=DL hx (by rw[hc];exact hk) hd
theorem T9{t:TypeId}{z:Value}[hz:fh P t z](hc:z.cells= #[z])(hk: ∀b,Sq P N w0 l Q rest (cw env d (.pointer (some ⟨b,0,none⟩))) (ar b #[z] t::L))(hd:dj N d=true:=by rfl):
  Sq P N w0 l Q (⟨d, .alloc t,ty,ps,af,none⟩::rest) env L:=Ig (z:=z) (by rw[hc];exact hk) hd
theorem Ua{t:TypeId}{x y:Operand}{i b:Nat}{u:Value}{T:TypeId}{v:Value}(hv:v.oneCell'=true)(hx:ev env x=some (.pointer (some ⟨b,0,none⟩)))(hy:ev env y=some v)[ht:gQ P t][hh:Has L b #[u] T i]{L':List aj}[hu:fw L i (ar b #[v] T) L'](hk:Sq P N w0 l Q rest env L'):
  Sq P N w0 l Q (⟨none, .store t x y,ty,ps,af,none⟩::rest) env L:=eO (cs':= #[v]) hx hy (by show 0<1;decide) hv rfl hk
end
theorem Ub{P:Program}{N:cB}{w0:World}{env:Env}{L:List aj}{l:List Oper}{Q:Exit→Act→World→Prop}{rest:List Oper}{ty:TypeId}{ps:String}{af:Array Edge}{t:TypeId}{x y:Operand}{i k p:Nat}{s:Sv}{xs:List UInt8}{a v:UInt8}[ht:gQ P t](hx:ev env x=some (.pointer (some ⟨s.b,p,none⟩)))(hy:ev env y=some (.int .u8 v.toNat))[q:fG L s aN 1 xs i](ha:xs[k]? =some a)(gR:p=s.o+k*1){L':List aj}[hu:fw L i (own aN 1 s (xs.set k v)) L'](hk:Sq P N w0 l Q rest env L'):
  Sq P N w0 l Q (⟨none, .store t x y,ty,ps,af,none⟩::rest) env L:=
 kJ (j:=0) (n:=1) (a':=v) ht.size hx hy (q:=q) (by omega) ha (by simp[Value.cells,Value.oneCell']) rfl (by omega) (by rfl) hk
open Go.RowKit
section
variable {P:Program} {N:cB} {w0:World} {env:Env} {L:List aj} {Q:Exit→Act→World→Prop}
end
section
variable {P:Program} {n:Nat} {w0:World} {env:Env} {L:List aj} {Q:Exit→Act→World→Prop} {l:List Oper} {k:Nat} {rest:List Oper}
theorem wL{α:Type}{l rest:List α}{k:Nat}{o:α}(h:l.drop k=o::rest):l[k]? =some o∧l.drop (k+1)=rest:=by
 constructor
 ·
  have:=congrArg (·[0]?) h;simpa using this
 ·
  have:=congrArg (List.drop 1) h;simpa[List.drop_drop,Nat.add_comm]using this
end
open Go.RowKit
def omap(P:Program)(k:TypeId){α β:Type}(c0:α→Value)(dU:β→Value)(b:Nat)(f:α→Option β):aj:=
  ⟨fun i=>i=b,fun h=> ∃(es:Array MapEntry) (clock:Nat) (m:List (α×β)),h b=some (.map es clock)∧es.toList.map (fun e=>(e.key,e.val))=m.map (fun p=>(c0 p.1,dU p.2))∧
    (∀p∈m,∃l,keyOf P k (c0 p.1)=some l)∧(m.map Prod.fst).Nodup∧(∀x v,f x=some v↔(x,v)∈m),
   fun h h' e st=>by rw[e b rfl];exact st⟩
class w7(P:Program)(t:TypeId)(k e:outParam TypeId):Prop where
  et:P.underlying t=some (.map k e)
class zb(P:Program)(k:TypeId):Prop where
  K:Maps.Keyed P k
class zd{α:Type}(c0:α→Value):Prop where
  inj: ∀{a b:α},c0 a=c0 b→a=b
class tl(P:Program)(L:List aj)(b:Nat){α β:outParam Type}(k:TypeId)(c0:outParam (α→Value))(dU:outParam (β→Value))(f:outParam (α→Option β))(i:outParam Nat):Prop where
  h:L[i]? =some (omap P k c0 dU b f)
instance (priority:=high) tl.here {P:Program}{L:List aj}{b:Nat}{α β:Type}{k:TypeId}{c0:α→Value}{dU:β→Value}{f:α→Option β}:tl P (omap P k c0 dU b f::L) b k c0 dU f 0:=⟨rfl⟩
instance tl.there{P:Program}{L:List aj}{e:aj}{b:Nat}{α β:Type}{k:TypeId}{c0:α→Value}{dU:β→Value}{f:α→Option β}{i:Nat}[q:tl P L b k c0 dU f i]:tl P (e::L) b k c0 dU f (i+1):=⟨by simpa using q.h⟩
theorem LK{P:Program}{k:TypeId}{α β:Type}{c0:α→Value}{dU:β→Value}{f:α→Option β}[K:zb P k][I:zd c0]{es:Array MapEntry}{m:List (α×β)}(h1:es.toList.map (fun e=>(e.key,e.val))=m.map (fun p=>(c0 p.1,dU p.2)))
    (h2: ∀p∈m,∃l,keyOf P k (c0 p.1)=some l) (h3: ∀x v,f x=some v↔(x,v)∈m) {x:α} (hx: ∃l,keyOf P k (c0 x)=some l) (w:World):
    ((Instr.findKey k (c0 x) es.toList).run P w= .ok none w∧f x=none∧ ∀v,(x,v)∉m)∨ ∃(j:Nat) (v:β),(Instr.findKey k (c0 x) es.toList).run P w= .ok (some (j,dU v)) w∧m[j]? =some (x,v)∧f x=some v∧(es[j]?).map (·.key)=some (c0 x):=by
  have iL: ∀j:Nat,(es.toList[j]?).map (fun e=>(e.key,e.val))=(m[j]?).map (fun p=>(c0 p.1,dU p.2)):=fun j=>by rw[←List.getElem?_map,←List.getElem?_map,h1]
  have iD: ∀e∈es.toList,∃l,keyOf P k e.key=some l:=fun e he=>by
    obtain⟨j,hj,rfl⟩:=List.getElem_of_mem he
    have:=iL j
    rw[List.getElem?_eq_getElem hj]at this
    cases hm:m[j]?with
    |none=>rw[hm]at this;cases this
    |some p=>
     rw[hm]at this
     simp only[Option.map_some,Option.some.injEq,Prod.mk.injEq]at this
     rw[this.1];exact h2 p (List.mem_of_getElem? hm)
  obtain⟨lx,rV⟩:=hx
  rcases K.K.find w rV es.toList iD with⟨hr,hn⟩|⟨j,e,hr,hj,hk⟩
  ·have ja: ∀v,(x,v)∉m:=fun v hv=>by
      obtain⟨j,hj,Uc⟩:=List.getElem_of_mem hv
      have:=iL j
      rw[List.getElem?_eq_getElem hj,Uc]at this
      cases he:es.toList[j]?with
      |none=>rw[he]at this;cases this
      |some e=>
       rw[he]at this
       simp only[Option.map_some,Option.some.injEq,Prod.mk.injEq]at this
       exact hn e (List.mem_of_getElem? he) this.1
   refine .inl ⟨hr,?_,ja⟩
   cases hf:f x with
   |none=>rfl
   |some v=>exact absurd ((h3 x v).1 hf) (ja v)
  ·have:=iL j
   rw[hj]at this
   cases hm:m[j]?with
   |none=>rw[hm]at this;cases this
   |some p=>
    rw[hm]at this
    simp only[Option.map_some,Option.some.injEq,Prod.mk.injEq]at this
    have hp:p.1=x:=I.inj (this.1.symm.trans hk)
    refine .inr ⟨j,p.2,by rw[hr,this.2],by rw[hm,←hp],(h3 x p.2).2 (by rw[←hp];exact List.mem_of_getElem? hm),?_⟩
    have jh:es[j]? =some e:=by simpa using hj
    rw[jh,Option.map_some,hk]
section
variable {P:Program} {N:cB} {w0:World} {env:Env} {L:List aj} {d:Option Tmp} {ty:TypeId} {ps:String} {af:Array Edge} {gd:Option (Nat×Bool)} {α β:Type} {c0:α→Value} {dU:β→Value} {f:α→Option β}
theorem run_getObj_map{w:World}{b:Nat}{es:Array MapEntry}{clock:Nat}(h:w.heap[b]? =some (.map es clock)):(getObj b).run P w= .ok (.map es clock) w:=by simp[getObj,Sem.run,h]
theorem run_setObj_map{w:World}{b:Nat}{es:Array MapEntry}{clock:Nat}(o:Obj)(h:w.heap[b]? =some (.map es clock)):(setObj b o).run P w= .ok () (w.putObj b o):=by simp[setObj,Sem.run,h,World.putObj]
theorem FJ{t k e:TypeId}{m x:Operand}{b i:Nat}{z:β}{v:α}[ht:w7 P t k e][K:zb P k][I:zd c0][hz:fh P e (dU z)](hm:ev env m=some (.map (some b)))(hx:ev env x=some (c0 v))[q:tl P L b k c0 dU f i](hv: ∃l,keyOf P k (c0 v)=some l):
    Ry P N w0 env L ⟨d, .lookup t m x true,ty,ps,af,gd⟩ (.tuple #[dU ((f v).getD z), .bool (f v).isSome]):=fun a w ha hw=>by
  obtain⟨es,clock,ml,h0,h1,h2,_,h3⟩:=hw.get q.h
  obtain⟨l,hl⟩:=hv
  have hc:=K.K.check w es.isEmpty hl
  simp only[execOp,ha.ev hm,ha.ev hx,Instr.lookup,Sem.run_bind,run_underlying ht.et,Result.andThen,run_getObj_map h0,Sem.run_pure,hc]
  rcases LK (P:=P) (k:=k) h1 h2 h3 ⟨l,hl⟩ w with⟨hr,hf,_⟩|⟨j,u,hr,_,hf,_⟩
  ·simp only[hr,hf,Option.getD_none,Aq w hz,Sem.run_bind,Result.andThen,Sem.run_pure];rfl
  ·simp only[hr,hf,Option.getD_some,Sem.run_pure];rfl
end
section
variable {P:Program} {N:cB} {w0:World} {env:Env} {L:List aj} {l:List Oper} {Q:Exit→Act→World→Prop} {rest:List Oper} {d:Option Tmp} {ty:TypeId} {ps:String} {af:Array Edge} {α β:Type} {c0:α→Value} {dU:β→Value} {f:α→Option β}
theorem Mem.LL{w:World}(P:Program)(k:TypeId)(c0:α→Value)(dU:β→Value)(h:Mem w0 L w):Mem w0 (omap P k c0 dU w.heap.size (fun _=>none)::L) (w.alloc (.map #[] 0)):=by
  refine h.call (E:=[omap P k c0 dU w.heap.size (fun _=>none)]) ⟨(Below.refl _ _).alloc (Nat.le_refl _) _,fun e he=> ?_,fun e he j hj=> ?_,by simp⟩
  ·obtain rfl:e=omap P k c0 dU w.heap.size (fun _=>none):=by simpa using he
   exact⟨#[],0,[],Below.Ad w _,rfl,by simp,by simp,by simp⟩
  ·obtain rfl:e=omap P k c0 dU w.heap.size (fun _=>none):=by simpa using he
   have:j=w.heap.size:=hj
   subst this;simp
theorem Ud{t k e:TypeId}(c0:α→Value)(dU:β→Value){r:Operand}{kk:IntKind}{n:Int}[ht:w7 P t k e](hr:ev env r=some (.int kk n))(hk: ∀b,Sq P N w0 l Q rest (cw env d (.map (some b))) (omap P k c0 dU b (fun _=>none)::L))(hd:dj N d=true:=by rfl):
    Sq P N w0 l Q (⟨d, .makeMap t (some r),ty,ps,af,none⟩::rest) env L:=
  mg rfl hd fun a w ha hw=>⟨_,_,_,by
    simp only[execOp,Option.map_some,ha.ev hr,Instr.makeMap,Sem.run_bind,run_underlying ht.et,Result.andThen,Sem.run_pure,asInt,asIntOf,newObj,Sem.run]
    rfl,hw.LL P k c0 dU,hk _⟩
theorem LM{t k e:TypeId}(c0:α→Value)(dU:β→Value)[ht:w7 P t k e](hk: ∀b,Sq P N w0 l Q rest (cw env d (.map (some b))) (omap P k c0 dU b (fun _=>none)::L))(hd:dj N d=true:=by rfl):
    Sq P N w0 l Q (⟨d, .makeMap t none,ty,ps,af,none⟩::rest) env L:=
  mg rfl hd fun a w ha hw=>⟨_,_,_,by
    simp only[execOp,Option.map_none,Instr.makeMap,Sem.run_bind,Result.andThen,Sem.run_pure,newObj,Sem.run]
    rfl,hw.LL P k c0 dU,hk _⟩
theorem Ue{t k e:TypeId}{m x y:Operand}{b i:Nat}{v:α}{u:β}[DecidableEq α][ht:w7 P t k e][K:zb P k][I:zd c0](hm:ev env m=some (.map (some b)))(hx:ev env x=some (c0 v))(hy:ev env y=some (dU u))[q:tl P L b k c0 dU f i](hv: ∃l,keyOf P k (c0 v)=some l)
    {L':List aj} [hu:fw L i (omap P k c0 dU b (fun z=>if z=v then some u else f z)) L'] {a:Act} {w:World} (ha:da N env a) (hw:Mem w0 L w):
    ∃w',(execOp a.eval ⟨none, .mapUpdate t m x y,ty,ps,af,none⟩).run P w= .ok .skip w'∧Mem w0 L' w':=by
  obtain⟨es,clock,ml,h0,h1,h2,cy,h3⟩:=hw.get q.h
  obtain⟨lk,hl⟩:=hv
  have hc:=K.K.check w false hl
  have bG:=K.K.stays w hl
  have step: ∀o:Obj,(omap P k c0 dU b (fun z=>if z=v then some u else f z)).sat (fun j=>(w.putObj b o).heap[j]?)→Mem w0 L' (w.putObj b o):=fun o ho=>by
    rw[←hu.h]
    exact hw.change q.h (fun j hj=>hj) (fun j hj=>World.putObj_heap_other (fun e=>hj e)) World.putObj_size ⟨rfl,rfl,rfl⟩ ho
  have bt:b<w.heap.size:=(Array.getElem?_eq_some_iff.1 h0).1
  rcases LK (P:=P) (k:=k) h1 h2 h3 ⟨lk,hl⟩ w with⟨hr,hf,ja⟩|⟨j,u0,hr,hj,hf,Uf⟩
  ·refine⟨w.putObj b (.map (es.push {key:=c0 v,val:=dU u,born:=clock}) (clock+1)),?_,step _ ⟨_,_,ml++[(v,u)],World.putObj_heap_same bt,?_,?_,?_,?_⟩⟩
   ·simp only[execOp,ha.ev hm,ha.ev hx,ha.ev hy,Instr.mapUpdate,Sem.run_bind,run_underlying ht.et,Result.andThen,run_getObj_map h0,hc,hr,run_setObj_map _ h0,Sem.run_pure]
   ·simp[h1]
   ·intro p hp
    rcases List.mem_append.1 hp with hp|hp
    ·exact h2 p hp
    ·obtain rfl:p=(v,u):=by simpa using hp
     exact⟨lk,hl⟩
   ·rw[List.map_append,List.nodup_append]
    refine⟨cy,by simp,fun x1 mQ y1 FK e1=> ?_⟩
    obtain rfl:y1=v:=by simpa using FK
    subst e1
    obtain⟨p,hp,rfl⟩:=List.mem_map.1 mQ
    exact ja p.2 hp
   ·intro x' v'
    show(if x'=v then some u else f x')=some v'↔_
    by_cases e:x'=v
    ·subst e;rw[if_pos rfl]
     constructor
     ·intro h;cases h;simp
     ·intro h
      rcases List.mem_append.1 h with h|h
      ·exact absurd h (ja v')
      ·simp at h;rw[h]
    ·rw[if_neg e,h3 x' v'];simp[e]
  ·have jf:j<ml.length:=(List.getElem?_eq_some_iff.1 hj).1
   refine⟨w.putObj b (.map (es.modify j fun e=>{e with key:=c0 v,val:=dU u}) clock),?_,step _ ⟨_,_,ml.set j (v,u),World.putObj_heap_same bt,?_,?_,?_,?_⟩⟩
   ·simp only[execOp,ha.ev hm,ha.ev hx,ha.ev hy,Instr.mapUpdate,Sem.run_bind,run_underlying ht.et,Result.andThen,run_getObj_map h0,hc,hr,Uf,Option.getD_some,bG,run_setObj_map _ h0,Sem.run_pure]
   ·refine List.ext_getElem? fun n=> ?_
    have:=congrArg (·[n]?) h1
    simp only[List.getElem?_map]at this⊢
    rw[List.getElem?_set]
    by_cases e:j=n
    ·subst e
     rw[if_pos rfl,if_pos jf]
     rw[hj]at this
     cases he:es.toList[j]?with
     |none=>rw[he]at this;cases this
     |some e0=>
      have pH:es[j]? =some e0:=by simpa using he
      simp[Array.getElem?_modify,pH]
    ·rw[if_neg e,←this]
     simp[Array.getElem?_modify,e]
   ·intro p hp
    rcases List.mem_or_eq_of_mem_set hp with hp|rfl
    ·exact h2 p hp
    ·exact⟨lk,hl⟩
   ·rw[List.map_set]
    have:(ml.map Prod.fst)[j]? =some v:=by rw[List.getElem?_map,hj];rfl
    rw[show(ml.map Prod.fst).set j (v,u).1=ml.map Prod.fst from by
        refine List.ext_getElem? fun n=> ?_
        rw[List.getElem?_set]
        by_cases e:j=n
        ·subst e;rw[if_pos rfl,if_pos (by simpa using jf),this]
        ·rw[if_neg e]]
    exact cy
   ·intro x' v'
    have Ug: ∀n p,ml[n]? =some p→p.1=v→n=j:=fun n p hn hp=>by
        have a1:(ml.map Prod.fst)[n]? =some v:=by rw[List.getElem?_map,hn,Option.map_some,hp]
        have a2:(ml.map Prod.fst)[j]? =some v:=by rw[List.getElem?_map,hj];rfl
        exact(List.getElem?_inj (by simpa using(List.getElem?_eq_some_iff.1 hn).1) cy).1 (a1.trans a2.symm)
    show(if x'=v then some u else f x')=some v'↔_
    by_cases e:x'=v
    ·subst e;rw[if_pos rfl]
     constructor
     ·intro h;cases h
      exact List.mem_of_getElem? (i:=j) (by rw[List.getElem?_set,if_pos rfl,if_pos jf])
     ·intro h
      obtain⟨n,hn⟩:=List.mem_iff_getElem?.1 h
      rw[List.getElem?_set]at hn
      by_cases en:j=n
      ·rw[if_pos en,if_pos jf]at hn;simp only[Option.some.injEq,Prod.mk.injEq,true_and]at hn;rw[hn]
      ·rw[if_neg en]at hn;exact absurd (Ug n _ hn rfl).symm en
    ·rw[if_neg e,h3 x' v']
     constructor
     ·intro h
      obtain⟨n,hn⟩:=List.mem_iff_getElem?.1 h
      refine List.mem_of_getElem? (i:=n) ?_
      rw[List.getElem?_set,if_neg,hn]
      rintro rfl
      rw[hj]at hn;simp only[Option.some.injEq,Prod.mk.injEq]at hn;exact e hn.1.symm
     ·intro h
      rcases List.mem_or_eq_of_mem_set h with h|h
      ·exact h
      ·simp only[Prod.mk.injEq]at h;exact absurd h.1 e
theorem FL{t k e:TypeId}{m x y:Operand}{b i:Nat}{v:α}{u:β}[DecidableEq α][ht:w7 P t k e][K:zb P k][I:zd c0](hm:ev env m=some (.map (some b)))(hx:ev env x=some (c0 v))(hy:ev env y=some (dU u))[q:tl P L b k c0 dU f i](hv: ∃l,keyOf P k (c0 v)=some l)
    {L':List aj} [hu:fw L i (omap P k c0 dU b (fun z=>if z=v then some u else f z)) L'] (hk:Sq P N w0 l Q rest env L'):
    Sq P N w0 l Q (⟨none, .mapUpdate t m x y,ty,ps,af,none⟩::rest) env L:=
  Aw rfl rfl fun a w ha hw=>by
    obtain⟨w',h1,h2⟩:=Ue (t:=t) (k:=k) (e:=e) (ty:=ty) (ps:=ps) (af:=af) hm hx hy hv (L':=L') ha hw
    exact⟨w',L',h1,h2,hk⟩
end
open Go.Kb Go.RowKit
theorem FM{w0 w:World}{L R:List aj}{e:aj}{i:Nat}(q:L[i]? =some e)(d:L.eraseIdx i=R)(h:Mem w0 L w):Mem w0 (e::R) w:=by
 have:=h.perm (nh q);rwa [d]at this
theorem rW{w0 w:World}{L R1 R2:List aj}{e1 e2:aj}{i j:Nat}(h1:L[i]? =some e1)(d1:L.eraseIdx i=R1)(h2:R1[j]? =some e2)(d2:R1.eraseIdx j=R2)(h:Mem w0 L w):Mem w0 (e1::e2::R2) w:=by
 subst d1;subst d2
 exact h.perm ((nh h1).trans ((nh h2).cons _))
instance (priority:=low) ai.drop {L L':List aj}{e:aj}[k:ai L L']:ai (e::L) L':=⟨by
 obtain⟨R,hR⟩:=k.h
 exact⟨e::R,(hR.cons e).trans List.perm_middle.symm⟩⟩
section
variable {P:Program} {N:cB} {w0:World} {env:Env} {L:List aj} {Q:Exit→Act→World→Prop} {d:Option Tmp} {ty:TypeId} {ps:String} {af:Array Edge} {gd:Option (Nat×Bool)} {K:Value→List aj→Prop}
theorem Ry.to{o:Oper}{v v':Value}(h:Ry P N w0 env L o v)(e:v=v'):Ry P N w0 env L o v':=e▸h
theorem Cb{f:FuncId}{x:Operand}{jP:Array Value}{xs:List Operand}{ts:Array TypeId}{vs:List Value}{v:Value}[hf:aR P f](hx:ev env x=some (.func (.func f) #[] jP))(Uh:g6 env xs=some vs)
  (hc: ∀w,Mem w0 L w→Calls P f (vs++jP.toList).toArray w fun e w'=>e= .returned v∧Mem w [] w'):
  Yl P N w0 env L ⟨d, .call {callee:= .value x,args:=xs.toArray,argTypes:=ts},ty,ps,af,gd⟩ v:=fun a ha w hw=>by
 unfold Oper.quietAt
 obtain⟨fn,h1,h2,h3⟩:=hf.fn
 have DH: ¬fn.body=none:=fun e=>by simp[e]at h2
 have vN: ¬fn.name= "runtime.NumGoroutine" :=by simpa using h3
 have e:(execOp a.eval ⟨d, .call {callee:= .value x,args:=xs.toArray,argTypes:=ts},ty,ps,af,gd⟩).run P w= .ok (.enter f (vs++jP.toList).toArray) w:=by
  have hm:=ha.g6 Uh
  simp[execOp,resolve,ha.ev hx,Deferred.ofValue,invoke,callFunc,h1,DH,vN,Result.andThen,←hm]
 rw[e]
 exact⟨rfl,hc w hw⟩
theorem FN{f:Fn}{xs:List Operand}{vs:List Value}(hx:g6 env xs=some vs):Ry P N w0 env L ⟨d, .makeFunc f #[] xs.toArray,ty,ps,af,gd⟩ (.func f #[] vs.toArray):=fun a w ha _=>by
 have hm:=ha.g6 hx
 simp[execOp,Instr.makeFunc,Result.andThen,←hm]
instance (s:Sv):cn (qz s) 0 s.val:=⟨rfl⟩
instance (s:Sv):cn s.val.cells 0 s.val:=⟨by rw[Sv.iQ];rfl⟩
variable {s:Sv} {xs:List Nd} {a:Nd}
end
end Go.ay
namespace Go.Proofs.YtaipiecplldinaaGreat
open Go.ay Go.Kb
open Go.RowKit
instance:fh Tryz.prog 94 (.agg (dh wu)):=⟨by kernel_rfl⟩
instance:fh Tryz.prog 48 (.agg (bK mC)):=⟨by kernel_rfl⟩
instance:fh Tryz.prog 25 (.agg (aE gf)):=⟨by kernel_rfl⟩
instance:fh Tryz.prog 5 (.int .u8 0):=⟨by kernel_rfl⟩
instance:fh Tryz.prog 38 (.slice none 0 0):=⟨by kernel_rfl⟩
theorem Ui(w:World)(b:Int)(n:Int)(s:Int):Calls Tryz.prog 65 #[.int .i64 b, .int .i64 n, .int .i64 s] w fun e w'=>e= .returned (.bool (oP b n s))∧Mem w [] w':=by
 refine bf (args:=[_,_,_]) Tryz.func65 rfl Tryz.ntmps65 rfl ?_
 change Cw _ _ _ _ _ [(0, .int .i64 b),(1, .int .i64 n),(2, .int .i64 s)] []
 refine Gc ?_
 refine Gs ?_
 refine Gc ?_
 iterate 3 refine Gs ?_
 iterate 2 refine Gg ?_
 iterate 2 refine Gs ?_
 iterate 2 refine Gg ?_
 iterate 2 refine Gs ?_
 iterate 2 refine Gg ?_
 iterate 2 refine Gs ?_
 iterate 2 refine Gg ?_
 iterate 2 refine Gs ?_
 iterate 2 refine Gg ?_
 iterate 2 refine Gs ?_
 refine Gc ?_
 refine au (.inl rfl) (aM rfl (aq rfl)) (fun w1 hw=> ?_)
 exact⟨congrArg (fun b=>Ending.returned (Value.bool b)) (rfl),ai.mem hw⟩
instance afR{w0:World}{L:List aj}{b:Int}{n:Int}{s:Int}:cL Tryz.prog 65 w0 L [.int .i64 b, .int .i64 n, .int .i64 s] (.bool (oP b n s)) (True):=⟨fun hp w hw=>Ui w b n s⟩
theorem Uj(w:World)(c:Cp)(hc:Deep.bh (hp w) c):Calls Tryz.prog 68 #[.agg (aE c)] w fun e w'=>e= .returned (.bool (aS (cv c)))∧Mem w [] w':=by
 have jQ:cC w c:=⟨hc⟩
 have du:=gg c.blocks.xs
 have bM:aS (cv c)=true↔oP c.blocks.xs.length c.ae c.size=true∧0≤c.ops∧c.ops≤cK∧c.aX.xs.length≤64∧ ∀b∈gy c.blocks.xs,lQ c.ae c.size b=true:=by rw[eC];simp only[cv,du]
 have mN:cK=1099511627776:=rfl
 refine bf (args:=[_]) Tryz.func68 rfl Tryz.ntmps68 rfl ?_
 change Cw _ _ _ _ _ [(0, .agg (aE c))] []
 refine Gc ?_
 refine cq rfl fun b1=> ?_
 refine Gs ?_
 refine Gc ?_
 iterate 10 refine Gs ?_
 iterate 3 refine Gg ?_
 iterate 2 refine Gs ?_
 iterate 3 refine Gg ?_
 iterate 2 refine Gs ?_
 iterate 4 refine Gg ?_
 refine Gs ?_
 refine Gc ?_
 refine av rfl (fun h0=> ?_) (fun h0=> ?_)
 ·
  replace h0:=bz h0
  have hz:aS (cv c)=false:=by
   cases hk:aS (cv c)with
   |false=>rfl
   |true=>
    have g:=bM.1 hk
    rw[g.1]at h0
    simp only[Bool.true_eq_false,false_or]at h0
    omega
  refine Gc ?_
  refine Gs ?_
  refine Gc ?_
  refine au (.inl rfl) (aM rfl (aq rfl)) (fun w1 hw=> ?_)
  exact⟨congrArg (fun b=>Ending.returned (Value.bool b)) (hz.symm),ai.mem hw⟩
 ·
  replace h0:=bz h0
  have g0:oP c.blocks.xs.length c.ae c.size=true∧0≤c.ops∧c.ops≤cK∧c.aX.xs.length≤64:=by
   cases hk:oP c.blocks.xs.length c.ae c.size with
   |false=>rw[hk]at h0;simp at h0
   |true=>rw[hk]at h0;simp only[Bool.true_eq_false,not_false_eq_true,true_and]at h0;exact⟨rfl,by omega,by omega,by omega⟩
  have gs:=jI.1 g0.1
  refine Gc ?_
  iterate 4 refine Gs ?_
  refine Gc ?_
  refine cg (X:=Nat) (fun zz=>[(35, .int .i64 (zz:Nat)),(1, .pointer (some ⟨b1,0,none⟩)),(33,c.blocks.sv.val),(34, .int .i64 (c.blocks.xs.length:Nat))]) (fun zz=>[ar b1 (aE c) 25]) (fun zz=>zz≤c.blocks.xs.length∧ ∀j b,j<zz→(gy c.blocks.xs)[j]? =Option.some b→lQ c.ae c.size b=true) (fun zz=>c.blocks.xs.length -zz) 0 ⟨Nat.zero_le _,fun j b hj=>by first|omega|(simp only[];omega)⟩ (Sub.cons rfl (Sub.cons rfl (Sub.cons rfl (Sub.cons rfl (Sub.nil _))))) (fun w hw=>ai.mem hw) ?_
  rintro i ⟨bk,aG⟩
  refine Gc ?_
  refine Gs ?_
  refine Gc ?_
  refine av rfl (fun h1=> ?_) (fun h1=> ?_)
  ·
   replace h1:=bz h1
   iterate 6 refine Gi ?_
   obtain⟨x,hx⟩:=get_some (xs:=c.blocks.xs) (i:=i) (by omega)
   refine ah (bl rfl rfl i rfl (by omega)) ?_
   refine ah (hH rfl i hx rfl) ?_
   have afS:Mb x c.blocks:=⟨List.mem_of_getElem? hx⟩
   refine bN fun b4=> ?_
   refine Gs ?_
   refine Gc ?_
   iterate 7 refine Gs ?_
   iterate 3 refine Gg ?_
   iterate 2 refine Gs ?_
   iterate 5 refine Gg ?_
   iterate 2 refine Gs ?_
   iterate 3 refine Gg ?_
   iterate 2 refine Gs ?_
   iterate 3 refine Gg ?_
   refine Gs ?_
   refine Gc ?_
   refine av rfl (fun h2=> ?_) (fun h2=> ?_)
   ·
    replace h2:=bz h2
    have hz:aS (cv c)=false:=by
     cases hk:aS (cv c)with
     |false=>rfl
     |true=>
      have g:=eA.1 ((bM.1 hk).2.2.2.2 (bv x) (List.mem_of_getElem? (kx hx)))
      simp only[bv,jo]at g
      omega
    refine Gc ?_
    refine Gs ?_
    refine Gc ?_
    refine au (.inl rfl) (aM rfl (aq rfl)) (fun w1 hw=> ?_)
    exact⟨congrArg (fun b=>Ending.returned (Value.bool b)) (hz.symm),ai.mem hw⟩
   ·
    replace h2:=bz h2
    refine Gc ?_
    iterate 4 refine Gs ?_
    refine Gc ?_
    refine cg (X:=Nat) (fun zz=>[(70, .int .i64 (zz:Nat)),(1, .pointer (some ⟨b1,0,none⟩)),(33,c.blocks.sv.val),(34, .int .i64 (c.blocks.xs.length:Nat)),(35, .int .i64 (i:Nat)),(68,x.ae.sv.val),(69, .int .i64 (x.ae.xs.length:Nat))]) (fun zz=>[ar b4 (bK x) 48,ar b1 (aE c) 25]) (fun zz=>zz≤x.ae.xs.length∧ ∀k y,k<zz→(bv x).ae[k]? =Option.some y→(y.length:Int)=c.size) (fun zz=>x.ae.xs.length -zz) 0 ⟨Nat.zero_le _,fun k y hk=>by first|omega|(simp only[];omega)⟩ (Sub.cons rfl (Sub.cons rfl (Sub.cons rfl (Sub.cons rfl (Sub.cons rfl (Sub.cons rfl (Sub.cons rfl (Sub.nil _)))))))) (fun w hw=>ai.mem hw) ?_
    rintro j ⟨iC,dF⟩
    refine Gc ?_
    refine Gs ?_
    refine Gc ?_
    refine av rfl (fun h3=> ?_) (fun h3=> ?_)
    ·
     replace h3:=bz h3
     iterate 6 refine Gi ?_
     obtain⟨y,hy⟩:=get_some (xs:=x.ae.xs) (i:=j) (by omega)
     refine ah (bl rfl rfl j rfl (by omega)) ?_
     refine ah (bO (j:=0) rfl j hy rfl (by decide)) ?_
     have afT:Mb y _:=⟨List.mem_of_getElem? hy⟩
     refine Gs ?_
     refine Gc ?_
     iterate 5 refine Gs ?_
     refine Gc ?_
     refine av rfl (fun h4=> ?_) (fun h4=> ?_)
     ·
      replace h4:=bz h4
      have hz:aS (cv c)=false:=by
       cases hk:aS (cv c)with
       |false=>rfl
       |true=>
        have g:=(eA.1 ((bM.1 hk).2.2.2.2 (bv x) (List.mem_of_getElem? (kx hx)))).2.2.2.2.2 y.xs (List.mem_of_getElem? (kL hy))
        omega
      refine Gc ?_
      refine Gs ?_
      refine Gc ?_
      refine au (.inl rfl) (aM rfl (aq rfl)) (fun w1 hw=> ?_)
      exact⟨congrArg (fun b=>Ending.returned (Value.bool b)) (hz.symm),ai.mem hw⟩
     ·
      replace h4:=bz h4
      refine Gc ?_
      iterate 2 refine Gs ?_
      refine Gi ?_
      exact bD (x:=(j)) (j+1) ⟨by first|omega|(simp only[];omega),fun k z hk hz=>if e:k=j then(by subst e;rw[show(bv x).ae=aJ x.ae.xs from rfl,kL hy]at hz;cases hz;omega)else dF k z (by first|omega|(simp only[];omega)) hz⟩ (by first|omega|(simp only[];omega)) (Sub.cons rfl (Sub.cons rfl (Sub.cons rfl (Sub.cons rfl (Sub.cons rfl (Sub.cons rfl (Sub.cons rfl (Sub.nil _)))))))) (fun w hw=>ai.mem hw)
    ·
     replace h3:=bz h3
     have qO:lQ c.ae c.size (bv x)=true:=eA.2 ⟨by simp only[bv,jo];omega,by simp only[bv];omega,by simp only[bv];omega,by simp only[bv];omega,by simp only[bv];omega,fun y hy=>by
      obtain⟨k,hk⟩:=List.getElem?_of_mem hy
      exact dF k y (by have h:=(List.getElem?_eq_some_iff.1 hk).1;simp only[bv,jo]at h;omega) hk⟩
     refine Gc ?_
     iterate 2 refine Gs ?_
     refine Gi ?_
     exact bD (x:=(i)) (i+1) ⟨by first|omega|(simp only[];omega),fun j b hj hb=>if e:j=i then(by subst e;rw[kx hx]at hb;cases hb;exact qO)else aG j b (by first|omega|(simp only[];omega)) hb⟩ (by first|omega|(simp only[];omega)) (Sub.cons rfl (Sub.cons rfl (Sub.cons rfl (Sub.cons rfl (Sub.nil _))))) (fun w hw=>ai.mem hw)
  ·
   replace h1:=bz h1
   obtain rfl:i=c.blocks.xs.length:=by omega
   have hz:aS (cv c)=true:=bM.2 ⟨g0.1,g0.2.1,g0.2.2.1,g0.2.2.2,fun b hb=>by
    obtain⟨j,hj⟩:=List.getElem?_of_mem hb
    exact aG j b (by have:=(List.getElem?_eq_some_iff.1 hj).1;omega) hj⟩
   refine Gc ?_
   refine Gs ?_
   refine Gc ?_
   refine au (.inl rfl) (aM rfl (aq rfl)) (fun w1 hw=> ?_)
   exact⟨congrArg (fun b=>Ending.returned (Value.bool b)) (hz.symm),ai.mem hw⟩
instance afU{w0:World}{L:List aj}{c:Cp}[hc:aW w0 L c]:cL Tryz.prog 68 w0 L [.agg (aE c)] (.bool (aS (cv c))) (True):=⟨fun hp w hw=>Uj w c (hc.h w hw)⟩
open Go.ay Go.Kb
open Go.RowKit
theorem Uk{xs:List UInt8}{k i:Nat}(h:k+i<xs.length):(xs.take k++(List.replicate i 255++xs.drop (k+i))).set (k+i) 255=xs.take k++(List.replicate (i+1) 255++xs.drop (k+(i+1))):=by
 rw[List.set_append_right _ _ (by rw[List.length_take];omega),List.length_take,Nat.min_eq_left (by omega),Nat.add_sub_cancel_left,List.set_append_right _ _ (by simp),List.length_replicate,Nat.sub_self,List.drop_eq_getElem_cons h,List.set_cons_zero,List.replicate_succ',List.append_assoc,List.singleton_append,Nat.add_assoc]
theorem Ul(w0 w:World)(L:List aj)(rm:Sv)(k:Nat)(n:Nat)(cap:Nat)(xs:List UInt8)(hw:Mem w0 (own aN 1 rm xs::L) w)(bc:k+n≤xs.length∧n≤1000000):Calls Tryz.prog 66 #[.slice (some ⟨rm.b,rm.o+k,none⟩) n cap] w fun e w'=> ∃zz:Unit,e= .returned (.tuple #[])∧(True)∧Mem w0 (own aN 1 rm (xs.take k++(List.replicate n 255++xs.drop (k+n)))::L) w':=by
 obtain⟨lf,ka⟩:=bc
 refine kt (args:=[_]) Tryz.func66 rfl Tryz.ntmps66 rfl hw ?_
 change Cw _ _ _ _ _ [(0, .slice (some ⟨rm.b,rm.o+k,none⟩) n cap)] (own aN 1 rm xs::L)
 refine Gc ?_
 refine Gs ?_
 refine ah (ua rfl) ?_
 refine Gs ?_
 refine Gc ?_
 refine cg (X:=Nat×List UInt8) (fun zz=>[(5, .int .i64 (zz.1:Nat)),(0, .slice (some ⟨rm.b,rm.o+k,none⟩) n cap),(4, .int .i64 (n:Nat))]) (fun zz=>own aN 1 rm zz.2::L) (fun zz=>zz.1≤n∧zz.2=xs.take k++(List.replicate zz.1 255++xs.drop (k+zz.1))) (fun zz=>n -zz.1) (0,xs) ⟨Nat.zero_le _,by simp⟩ (Sub.cons rfl (Sub.cons rfl (Sub.cons rfl (Sub.nil _)))) (fun w hw=>ai.mem hw) ?_
 rintro⟨i,zs⟩ ⟨bk,aG⟩
 dsimp only
 simp only at bk aG
 have tm:zs.length=xs.length:=by rw[aG];simp only[List.length_append,List.length_take,List.length_replicate,List.length_drop];omega
 refine Gc ?_
 refine Gs ?_
 refine Gc ?_
 refine av rfl (fun h0=> ?_) (fun h0=> ?_)
 ·
  replace h0:=bz h0
  refine Gc ?_
  iterate 2 refine Gs ?_
  refine Gc ?_
  iterate 2 refine Gs ?_
  refine ah (H4 (b:=rm.b) (o:=rm.o+k) (len:=n) (cap:=cap) rfl rfl (by omega) (by omega)) ?_
  obtain⟨z,hz⟩:=get_some (xs:=zs) (i:=k+i) (by omega)
  refine kJ (s:=rm) (n:=1) (k:=k+i) (j:=0) (a:=z) (a':=(255:UInt8)) (xs:=zs) (enc:=aN) (c:=1) (v:= .int .u8 255) (by kernel_rfl) rfl rfl (by omega) hz (by simp[Value.cells,Value.oneCell']) rfl (by omega) (by rfl) ?_
  refine Gc ?_
  iterate 2 refine Gs ?_
  refine Gi ?_
  exact bD (x:=(i,zs)) (i+1,zs.set (k+i) 255) ⟨by first|omega|(simp only[];omega),by rw[aG];exact Uk (by first|omega|(simp only[];omega))⟩ (by simp only;omega) (Sub.cons rfl (Sub.cons rfl (Sub.cons rfl (Sub.nil _)))) (fun w hw=>ai.mem hw)
 ·
  replace h0:=bz h0
  obtain rfl:i=n:=by omega
  refine Gc ?_
  refine au (.inr rfl) (FI rfl) (fun w1 hw=> ?_)
  exact⟨(),rfl,trivial,by rw[←aG];exact ai.mem hw⟩
instance Um{w0:World}{L L2:List aj}{i:Nat}{rm:Sv}{k:Nat}{n:Nat}{cap:Nat}{xs:List UInt8}[q:fG L rm aN 1 xs i][d1:dr L i L2]:cr Tryz.prog 66 w0 L [.slice (some ⟨rm.b,rm.o+k,none⟩) n cap] (Unit) (fun zz=> .tuple #[]) (fun zz=>own aN 1 rm (xs.take k++(List.replicate n 255++xs.drop (k+n)))::L2) (fun zz=>True) (k+n≤xs.length∧n≤1000000):=⟨fun hp w hw=>Ul w0 w L2 rm k n cap xs (FM q.h d1.h hw) hp⟩
theorem Un(w:World)(s:Sv)(ss:List Bk)(hs:bV bK 4 (hp w) s ss)(bc:ss.length≤1000000):Calls Tryz.prog 107 #[s.val] w fun e w'=> ∃zz:Sv,e= .returned (zz.val)∧(True)∧Mem w [own bK 4 zz ss] w':=by
 have vb:Gv w s bK 4 ss:=⟨hs⟩
 refine bf (args:=[_]) Tryz.func107 rfl Tryz.ntmps107 rfl ?_
 change Cw _ _ _ _ _ [(0,s.val)] []
 refine Gc ?_
 refine Gs ?_
 refine Gc ?_
 refine Gs ?_
 refine ah (rD Tryz.underlying22 rfl) ?_
 refine Gc ?_
 refine av rfl (fun h0=> ?_) (fun h0=> ?_)
 ·
  replace h0:=bz h0
  have e0:ss=[]:=List.length_eq_zero_iff.1 (by have:=hs.ok.nil h0;have:=hs.len;omega)
  refine Gc ?_
  refine Gs ?_
  refine Gc ?_
  refine au (.inl rfl) (aM rfl (aq rfl)) (fun w1 hw=> ?_)
  exact⟨Sv.none,rfl,trivial,by rw[e0];exact(ai.mem hw:Mem w [] _).dI bK 4⟩
 ·
  replace h0:=bz h0
  refine Gc ?_
  refine sL bK fun b5=> ?_
  refine Gs ?_
  refine lN (s:=⟨false,b5,0,0,0,none⟩) (enc:=bK) (ys:=ss) rfl rfl (by decide) (fun w hw=>kI (s:=s) Tryz.underlying22 (by decide) ((inferInstance:c6 _ _ bK 4 s ss).h w hw)) (by simp only[List.length_nil];omega) (by simp only[List.length_nil];omega) fun s7 vc tn=> ?_
  refine Gs ?_
  refine Gc ?_
  refine au (.inl rfl) (aM rfl (aq rfl)) (fun w1 hw=> ?_)
  exact⟨s7,rfl,trivial,by rw[List.nil_append]at hw;exact ai.mem hw⟩
instance afV{w0:World}{L:List aj}{s:Sv}{ss:List Bk}[hs:c6 w0 L bK 4 s ss]:cr Tryz.prog 107 w0 L [s.val] (Sv) (fun zz=>zz.val) (fun zz=>own bK 4 zz ss::L) (fun zz=>True) (ss.length≤1000000):=⟨fun hp w hw=>(Un w s ss (hs.h w hw) hp).mono fun e w' ⟨x,h1,h2,h3⟩=>⟨x,h1,h2,hw.call h3⟩⟩
theorem Uo(w:World)(s:Sv)(ss:List Ft)(hs:bV dh 4 (hp w) s ss)(bc:ss.length≤1000000):Calls Tryz.prog 69 #[s.val] w fun e w'=> ∃zz:Sv,e= .returned (zz.val)∧(True)∧Mem w [own dh 4 zz ss] w':=by
 have vb:Gv w s dh 4 ss:=⟨hs⟩
 refine bf (args:=[_]) Tryz.func69 rfl Tryz.ntmps69 rfl ?_
 change Cw _ _ _ _ _ [(0,s.val)] []
 refine Gc ?_
 refine Gs ?_
 refine Gc ?_
 refine Gs ?_
 refine ah (rD Tryz.underlying23 rfl) ?_
 refine Gc ?_
 refine av rfl (fun h0=> ?_) (fun h0=> ?_)
 ·
  replace h0:=bz h0
  have e0:ss=[]:=List.length_eq_zero_iff.1 (by have:=hs.ok.nil h0;have:=hs.len;omega)
  refine Gc ?_
  refine Gs ?_
  refine Gc ?_
  refine au (.inl rfl) (aM rfl (aq rfl)) (fun w1 hw=> ?_)
  exact⟨Sv.none,rfl,trivial,by rw[e0];exact(ai.mem hw:Mem w [] _).dI dh 4⟩
 ·
  replace h0:=bz h0
  refine Gc ?_
  refine sL dh fun b5=> ?_
  refine Gs ?_
  refine lN (s:=⟨false,b5,0,0,0,none⟩) (enc:=dh) (ys:=ss) rfl rfl (by decide) (fun w hw=>kI (s:=s) Tryz.underlying23 (by decide) ((inferInstance:c6 _ _ dh 4 s ss).h w hw)) (by simp only[List.length_nil];omega) (by simp only[List.length_nil];omega) fun s7 vc tn=> ?_
  refine Gs ?_
  refine Gc ?_
  refine au (.inl rfl) (aM rfl (aq rfl)) (fun w1 hw=> ?_)
  exact⟨s7,rfl,trivial,by rw[List.nil_append]at hw;exact ai.mem hw⟩
instance afW{w0:World}{L:List aj}{s:Sv}{ss:List Ft}[hs:c6 w0 L dh 4 s ss]:cr Tryz.prog 69 w0 L [s.val] (Sv) (fun zz=>zz.val) (fun zz=>own dh 4 zz ss::L) (fun zz=>True) (ss.length≤1000000):=⟨fun hp w hw=>(Uo w s ss (hs.h w hw) hp).mono fun e w' ⟨x,h1,h2,h3⟩=>⟨x,h1,h2,hw.call h3⟩⟩
theorem Up(w:World)(ps:Sl (Sl UInt8))(ze:Deep.bh (hp w) ps)(bc:EF (aJ ps.xs)):Calls Tryz.prog 108 #[ps.sv.val] w fun e w'=> ∃zz:Sl (Sl UInt8),e= .returned (zz.sv.val)∧(aJ zz.xs=aJ ps.xs)∧Mem w [eR zz] w':=by
 have afX:cC w ps:=⟨ze⟩
 obtain⟨lf,ka⟩:=bc
 have bA:=jo ps.xs
 rw[bA]at lf
 refine bf (args:=[_]) Tryz.func108 rfl Tryz.ntmps108 rfl ?_
 change Cw _ _ _ _ _ [(0,ps.sv.val)] []
 refine Gc ?_
 refine Gs ?_
 refine Gc ?_
 refine Gs ?_
 refine ah (rD Tryz.underlying46 rfl) ?_
 refine Gc ?_
 refine av rfl (fun h0=> ?_) (fun h0=> ?_)
 ·
  replace h0:=bz h0
  have e0:ps.xs=[]:=List.length_eq_zero_iff.1 (by have:=ze.1.ok.nil h0;have:=ze.1.len;omega)
  refine Gc ?_
  refine Gs ?_
  refine Gc ?_
  refine au (.inl rfl) (aM rfl (aq rfl)) (fun w1 hw=> ?_)
  exact⟨⟨Sv.none,[]⟩,rfl,by rw[e0],RS (Mem.dI (cc (τ:=UInt8)) 1 (ai.mem hw:Mem w [] _))⟩
 ·
  replace h0:=bz h0
  refine Gc ?_
  refine Gs ?_
  refine Gc ?_
  iterate 3 refine Gs ?_
  refine Gc ?_
  refine cg (X:=Nat×Nat) (fun zz=>[(15, .int .i64 (zz.1:Nat)),(3, .int .i64 (zz.2:Nat)),(0,ps.sv.val),(13,ps.sv.val),(14, .int .i64 (ps.xs.length:Nat))]) (fun zz=>[]) (fun zz=>zz.1≤ps.xs.length∧zz.2=((aJ ps.xs).take zz.1).flatten.length) (fun zz=>ps.xs.length -zz.1) (0,0) ⟨Nat.zero_le _,by simp⟩ (Sub.cons rfl (Sub.cons rfl (Sub.cons rfl (Sub.cons rfl (Sub.cons rfl (Sub.nil _)))))) (fun w hw=>ai.mem hw) ?_
  rintro⟨i,mm⟩ ⟨bk,aG⟩
  dsimp only
  simp only at bk aG
  refine Gc ?_
  refine Gs ?_
  refine Gc ?_
  refine av rfl (fun h1=> ?_) (fun h1=> ?_)
  ·
   replace h1:=bz h1
   obtain⟨y,hy⟩:=get_some (xs:=ps.xs) (i:=i) (by omega)
   have LN:Mb y ps:=⟨List.mem_of_getElem? hy⟩
   have w8:=yT (kL hy)
   have iM:=yU (aJ ps.xs) (i+1)
   refine Gc ?_
   refine ah (bl rfl rfl i rfl (by omega)) ?_
   refine ah (bO (j:=0) rfl i hy rfl (by decide)) ?_
   have afY:Mb y _:=⟨List.mem_of_getElem? hy⟩
   refine Gs ?_
   refine Gc ?_
   iterate 5 refine Gs ?_
   refine Gc ?_
   iterate 2 refine Gs ?_
   refine Gi ?_
   exact bD (x:=(i,mm)) (i+1,mm+y.xs.length) ⟨by first|omega|(simp only[];omega),by rw[aG,w8]⟩ (by simp only;omega) (Sub.cons rfl (Sub.cons rfl (Sub.cons rfl (Sub.cons rfl (Sub.cons rfl (Sub.nil _)))))) (fun w hw=>ai.mem hw)
  ·
   replace h1:=bz h1
   obtain rfl:i=ps.xs.length:=by omega
   rw[List.take_of_length_le (by omega)]at aG
   have hN:mm=(aJ ps.xs).flatten.length:=aG
   refine Gc ?_
   refine Gs ?_
   refine sI (enc:=aN) (n:=0) (cap:=mm) 0 rfl rfl rfl rfl rfl (by omega) (by omega) (by omega) fun tp=> ?_
   refine Gs ?_
   refine Gc ?_
   iterate 2 refine Gs ?_
   refine sI (enc:=cc (τ:=UInt8)) (n:=ps.xs.length) (cap:=ps.xs.length) (⟨Sv.none,[]⟩:Sl UInt8) rfl rfl rfl rfl rfl (by omega) (by omega) (by omega) fun Cc=> ?_
   refine Gs ?_
   refine Gc ?_
   iterate 3 refine Gs ?_
   refine Gc ?_
   refine cg (X:=Nat×Nat×List UInt8×List (Sl UInt8)) (fun zz=>[(31, .int .i64 (zz.1:Nat)),(6,(⟨false,tp,0,zz.2.1,mm,none⟩:Sv).val),(7,(⟨false,Cc,0,ps.xs.length,ps.xs.length,none⟩:Sv).val),(29,ps.sv.val),(30, .int .i64 (ps.xs.length:Nat))]) (fun zz=>[own aN 1 ⟨false,tp,0,zz.2.1,mm,none⟩ zz.2.2.1,own (cc (τ:=UInt8)) 1 ⟨false,Cc,0,ps.xs.length,ps.xs.length,none⟩ zz.2.2.2]) (fun zz=>zz.1≤ps.xs.length∧zz.2.1=zz.2.2.1.length∧zz.2.2.1=((aJ ps.xs).take zz.1).flatten∧zz.2.2.2=dk ⟨false,tp,0,mm,mm,none⟩ 0 ((aJ ps.xs).take zz.1)++List.replicate (ps.xs.length -zz.1) (⟨Sv.none,[]⟩:Sl UInt8)) (fun zz=>ps.xs.length -zz.1) (0,0,List.replicate 0 0,List.replicate ps.xs.length (⟨Sv.none,[]⟩:Sl UInt8)) ⟨Nat.zero_le _,rfl,by simp,by simp[dk]⟩ (Sub.cons rfl (Sub.cons rfl (Sub.cons rfl (Sub.cons rfl (Sub.cons rfl (Sub.nil _)))))) (fun w hw=>ai.mem hw) ?_
   rintro⟨i,m,r,zs⟩ ⟨bk,aG,bB,cV⟩
   dsimp only
   simp only at bk aG bB cV
   refine Gc ?_
   refine Gs ?_
   refine Gc ?_
   refine av rfl (fun h2=> ?_) (fun h2=> ?_)
   ·
    replace h2:=bz h2
    obtain⟨y,hy⟩:=get_some (xs:=ps.xs) (i:=i) (by omega)
    have LN:Mb y ps:=⟨List.mem_of_getElem? hy⟩
    have w8:=yT (kL hy)
    have iM:=yU (aJ ps.xs) (i+1)
    have tq:r.length+y.xs.length≤mm:=by rw[hN,bB,←w8];exact iM
    have tr:=get_some (xs:=zs) (i:=i) (by rw[cV,List.length_append,EC,List.length_take,List.length_replicate];omega)
    obtain⟨z,hz⟩:=tr
    have tm:i<zs.length:=(List.getElem?_eq_some_iff.1 hz).1
    refine Gc ?_
    refine Gs ?_
    refine ah (bl rfl rfl i rfl (by omega)) ?_
    refine ah (bO (j:=0) rfl i hy rfl (by decide)) ?_
    have afZ:Mb y _:=⟨List.mem_of_getElem? hy⟩
    iterate 2 refine Gs ?_
    refine Gc ?_
    iterate 3 refine Gs ?_
    refine Gc ?_
    iterate 2 refine Gs ?_
    refine RQ (s:=⟨false,tp,0,m,mm,none⟩) (enc:=aN) (xs:=r) (ys:=y.xs) rfl rfl (fun w hw=>kI (s:=y.sv) Tryz.underlying38 (by decide) ((inferInstance:c6 _ _ aN 1 y.sv y.xs).h w hw)) rfl (by simp only;omega) (by simp only;omega) ?_
    refine Gs ?_
    refine Gc ?_
    iterate 8 refine Gs ?_
    refine ah (Ry.to (v':=(fH (⟨false,tp,0,mm,mm,none⟩:Sv) r.length (r.length+y.xs.length)).val) (Jn (l:=r.length) (h:=(r++y.xs).length) (m:=(r++y.xs).length) rfl rfl rfl rfl rfl rfl rfl (by simp) (by simp) (by simp)) (by simp[fH,Sv.sub,Sv.top])) ?_
    refine ah (bl rfl rfl i rfl (by omega)) ?_
    refine AM (s:=⟨false,Cc,0,ps.xs.length,ps.xs.length,none⟩) (xs:=zs) (k:=i) (a:=z) (⟨(fH (⟨false,tp,0,mm,mm,none⟩:Sv) r.length (r.length+y.xs.length)),y.xs⟩:Sl UInt8) (by kernel_rfl) rfl rfl (by omega) hz ?_
    refine Gc ?_
    iterate 2 refine Gs ?_
    refine Gi ?_
    exact bD (x:=(i,m,r,zs)) (i+1,m+y.xs.length,r++y.xs,zs.set i ⟨(fH (⟨false,tp,0,mm,mm,none⟩:Sv) r.length (r.length+y.xs.length)),y.xs⟩) ⟨by first|omega|(simp only[];omega),by rw[List.length_append,aG],by rw[bB,List.take_add_one,kL hy];simp,by rw[cV];exact RU (by rw[bA]) bB (kL hy)⟩ (by simp only;omega) (Sub.cons rfl (Sub.cons rfl (Sub.cons rfl (Sub.cons rfl (Sub.cons rfl (Sub.nil _)))))) (fun w hw=>ai.mem hw)
   ·
    replace h2:=bz h2
    obtain rfl:i=ps.xs.length:=by omega
    rw[List.take_of_length_le (by omega)]at bB cV
    rw[Nat.sub_self,List.replicate_zero,List.append_nil]at cV
    refine Gc ?_
    iterate 2 refine Gs ?_
    refine Gc ?_
    refine au (.inl rfl) (aM rfl (aq rfl)) (fun w1 hw=> ?_)
    exact⟨⟨⟨false,Cc,0,ps.xs.length,ps.xs.length,none⟩,zs⟩,rfl,by rw[cV,sS],JC (rm:=⟨false,tp,0,mm,mm,none⟩) cV rfl (by rw[show m=mm by rw[aG,bB,hN],bB]at hw;exact ai.mem hw)⟩
instance af1{w0:World}{L:List aj}{ps:Sl (Sl UInt8)}[ze:aW w0 L ps]:cr Tryz.prog 108 w0 L [ps.sv.val] (Sl (Sl UInt8)) (fun zz=>zz.sv.val) (fun zz=>eR zz::L) (fun zz=>aJ zz.xs=aJ ps.xs) (EF (aJ ps.xs)):=⟨fun hp w hw=>(Up w ps (ze.h w hw) hp).mono fun e w' ⟨x,h1,h2,h3⟩=>⟨x,h1,h2,hw.call h3⟩⟩
open Go.ay Go.Kb
open Go.RowKit
theorem Uq(w:World)(c:Cp)(hc:Deep.bh (hp w) c)(bc:dM c):Calls Tryz.prog 67 #[.agg (aE c)] w fun e w'=> ∃zz:Cp,e= .returned (.agg (aE zz))∧(cv zz=cv c)∧Mem w [own bK 4 zz.blocks.sv zz.blocks.xs,aj.all (zz.blocks.xs.map fun b:Bk=>eR b.ae),own dh 4 zz.aX.sv zz.aX.xs] w':=by
 have jQ:cC w c:=⟨hc⟩
 obtain⟨lf,ka,nD⟩:=bc
 refine bf (args:=[_]) Tryz.func67 rfl Tryz.ntmps67 rfl ?_
 change Cw _ _ _ _ _ [(0, .agg (aE c))] []
 refine Gc ?_
 refine cq rfl fun b1=> ?_
 refine bN fun b2=> ?_
 refine Gc ?_
 iterate 2 refine Gs ?_
 refine br rfl (by omega) fun x6 LO=> ?_
 refine Gs ?_
 refine eO (cs':=aE (⟨c.ae,c.size,⟨x6,c.blocks.xs⟩,c.ops,c.off,c.aX⟩:Cp)) rfl rfl (by show 2<6;decide) (by first|rfl|exact Sv.one _) rfl ?_
 refine Gc ?_
 iterate 4 refine Gs ?_
 refine Gc ?_
 refine cg (X:=Nat×List Bk) (fun zz=>[(11, .int .i64 (zz.1:Nat)),(1, .pointer (some ⟨b1,0,none⟩)),(2, .pointer (some ⟨b2,0,none⟩)),(10, .int .i64 (c.blocks.xs.length:Nat))]) (fun zz=>[own bK 4 x6 zz.2,aj.all ((zz.2.take zz.1).map fun b:Bk=>eR b.ae),ar b2 (aE gf) 25,ar b1 (aE (⟨c.ae,c.size,⟨x6,zz.2⟩,c.ops,c.off,c.aX⟩:Cp)) 25]) (fun zz=>zz.1≤c.blocks.xs.length∧zz.2.length=c.blocks.xs.length∧gy zz.2=gy c.blocks.xs∧ ∀j,zz.1≤j→zz.2[j]? =c.blocks.xs[j]?) (fun zz=>c.blocks.xs.length -zz.1) (0,c.blocks.xs) ⟨Nat.zero_le _,rfl,rfl,fun _ _=>rfl⟩ (Sub.cons rfl (Sub.cons rfl (Sub.cons rfl (Sub.cons rfl (Sub.nil _))))) (fun w hw=>by
  simp only[List.take_zero,List.map_nil];exact ai.mem (Mem.uF hw)) ?_
 rintro⟨i,zs⟩ ⟨bk,aG,bB,cV⟩
 dsimp only
 simp only at bk aG bB cV
 refine Gc ?_
 refine Gs ?_
 refine Gc ?_
 refine av rfl (fun h0=> ?_) (fun h0=> ?_)
 ·
  replace h0:=bz h0
  obtain⟨z,hz⟩:=get_some (xs:=zs) (i:=i) (by omega)
  have tt:Mb z c.blocks:=⟨List.mem_of_getElem? (by rw[←cV i (Nat.le_refl _)];exact hz)⟩
  refine Gc ?_
  iterate 2 refine Gs ?_
  iterate 2 refine Gi ?_
  refine A5 (s:=x6) (enc:=bK) (c:=4) (xs:=zs) inferInstance (by omega) fun hn6 hs6 Ur Us=> ?_
  refine jm [9,12,1003,1004,1006,1007,1008,1010,1011] [[],[],[],[],[3],[],[3,4],[3,4,6],[3,4,6,7],[3,4,6,7,8],[3,4,6,7,8,9],[3,4,6,7,8,9,10],[3,4,6,7,8,9,10,11]] [0,1,2,3,4,5,6,7,8,9,10,11,12] [ar b1 (aE (⟨c.ae,c.size,⟨x6,zs⟩,c.ops,c.off,c.aX⟩:Cp)) 25] (fun _ hw=>ai.mem hw) (by kernel_rfl) (by kernel_rfl) ?_
  refine an rfl (aH (o':=2) rfl rfl) ?_
  refine an rfl (bI rfl) ?_
  refine an rfl (aF rfl) ?_
  refine kv rfl (aH (o':=2) rfl rfl) ?_
  refine kv rfl (bI rfl) ?_
  refine an rfl (aF rfl) ?_
  refine kv rfl (bl rfl rfl i rfl (by omega)) ?_
  refine kv rfl (aH rfl rfl) ?_
  refine kv rfl (bO (j:=0) rfl i hz rfl (by decide)) ?_
  refine dy rfl (nr rfl (nD z tt.h) fun lY Cd=>⟨fun _ hw=>ai.mem hw,?_⟩)
  refine kv rfl (lu (s:=x6) (i:=i) rfl rfl rfl Ur (by omega)) ?_
  refine kv rfl (aH rfl rfl) ?_
  refine dy rfl (uC (n:=1) (k:=i) (j:=0) (a:=z) (a':=({z with ae:=lY}:Bk)) (xs:=zs) (enc:=bK) (c:=4) (v:=lY.sv.val) (by kernel_rfl) rfl rfl rfl hz (by rw[Sv.iQ];simp[Sv.one]) (by rw[Sv.iQ];rfl) (by decide) (by rw[Sv.iQ];rfl) ⟨fun _ hw=>ai.mem hw,?_⟩)
  refine Gc ?_
  iterate 2 refine Gs ?_
  refine Gi ?_
  exact bD (x:=(i,zs)) (i+1,zs.set i ({z with ae:=lY}:Bk)) ⟨by first|omega|(simp only[];omega),by rw[List.length_set];exact aG,by rw[uH,←bB,show bv ({z with ae:=lY}:Bk)=bv z from by rw[bv,bv,Cd],←uH,sU hz],fun j hj=>by rw[List.getElem?_set_ne (by first|omega|(simp only[];omega))];exact cV j (by first|omega|(simp only[];omega))⟩ (by simp only;omega) (Sub.cons rfl (Sub.cons rfl (Sub.cons rfl (Sub.cons rfl (Sub.nil _))))) (fun w hw=>by
   have h1:=Mem.wy (e:=eR lY) (es:=(zs.take i).map fun b:Bk=>eR b.ae) (ai.mem hw:Mem _ (eR lY::aj.all ((zs.take i).map fun b:Bk=>eR b.ae)::[own bK 4 x6 (zs.set i ({z with ae:=lY}:Bk)),ar b2 (aE gf) 25,ar b1 (aE (⟨c.ae,c.size,⟨x6,zs⟩,c.ops,c.off,c.aX⟩:Cp)) 25]) _)
   rw[R7 (z':=({z with ae:=lY}:Bk)) hz]at h1
   exact(ai.mem h1:Mem _ [own bK 4 x6 (zs.set i ({z with ae:=lY}:Bk)),aj.all (((zs.set i ({z with ae:=lY}:Bk)).take (i+1)).map fun b:Bk=>eR b.ae),ar b2 (aE gf) 25,ar b1 (aE (⟨c.ae,c.size,⟨x6,zs⟩,c.ops,c.off,c.aX⟩:Cp)) 25] _))
 ·
  replace h0:=bz h0
  obtain rfl:i=zs.length:=by omega
  rw[List.take_of_length_le (Nat.le_refl _)]at*
  refine Gc ?_
  refine Gs ?_
  refine ah (Ry.to (v':=c.aX.sv.val) (bI rfl) rfl) ?_
  refine br rfl (by omega) fun w9 FO=> ?_
  refine Gs ?_
  refine eO (cs':=aE (⟨c.ae,c.size,⟨x6,zs⟩,c.ops,c.off,⟨w9,c.aX.xs⟩⟩:Cp)) rfl rfl (by show 5<6;decide) (by first|rfl|exact Sv.one _) rfl ?_
  refine Gc ?_
  iterate 2 refine Gs ?_
  refine Gc ?_
  refine au (.inl rfl) (aM rfl (cj rfl)) (fun w1 hw=> ?_)
  exact⟨⟨c.ae,c.size,⟨x6,zs⟩,c.ops,c.off,⟨w9,c.aX.xs⟩⟩,rfl,by simp only[cv,bB],ai.mem hw⟩
instance af2{w0:World}{L:List aj}{c:Cp}[hc:aW w0 L c]:cr Tryz.prog 67 w0 L [.agg (aE c)] (Cp) (fun zz=> .agg (aE zz)) (fun zz=>own bK 4 zz.blocks.sv zz.blocks.xs::aj.all (zz.blocks.xs.map fun b:Bk=>eR b.ae)::own dh 4 zz.aX.sv zz.aX.xs::L) (fun zz=>cv zz=cv c) (dM c):=⟨fun hp w hw=>(Uq w c (hc.h w hw) hp).mono fun e w' ⟨x,h1,h2,h3⟩=>⟨x,h1,h2,hw.call h3⟩⟩
theorem Ut(w:World)(c:Cp)(b:Int)(hc:Deep.bh (hp w) c):Calls Tryz.prog 159 #[.agg (aE c), .int .i64 b] w fun e w'=>e= .returned (.bool (fy (cv c) b))∧Mem w [] w':=by
 have jQ:cC w c:=⟨hc⟩
 refine bf (args:=[_,_]) Tryz.func159 rfl Tryz.ntmps159 rfl ?_
 change Cw _ _ _ _ _ [(0, .agg (aE c)),(1, .int .i64 b)] []
 refine Gc ?_
 refine cq rfl fun b2=> ?_
 refine Gs ?_
 refine Gc ?_
 iterate 3 refine Gs ?_
 iterate 2 refine Gg ?_
 iterate 2 refine Gs ?_
 iterate 5 refine Gg ?_
 iterate 2 refine Gs ?_
 refine Gc ?_
 refine au (.inl rfl) (aM rfl (aq rfl)) (fun w1 hw=> ?_)
 exact⟨congrArg (fun b=>Ending.returned (Value.bool b)) ((by simp only[fy,cv,gg])),ai.mem hw⟩
instance af3{w0:World}{L:List aj}{c:Cp}{b:Int}[hc:aW w0 L c]:cL Tryz.prog 159 w0 L [.agg (aE c), .int .i64 b] (.bool (fy (cv c) b)) (True):=⟨fun hp w hw=>Ut w c b (hc.h w hw)⟩
theorem Uu(w:World)(c:Cp)(hc:Deep.bh (hp w) c)(bc:c.aX.xs.length≤1000000):Calls Tryz.prog 160 #[.agg (aE c)] w fun e w'=>e= .returned (.tuple #[.agg (dh ((bp (cv c)).1)), .bool ((bp (cv c)).2)])∧Mem w [] w':=by
 have jQ:cC w c:=⟨hc⟩
 refine bf (args:=[_]) Tryz.func160 rfl Tryz.ntmps160 rfl ?_
 change Cw _ _ _ _ _ [(0, .agg (aE c))] []
 refine Gc ?_
 refine cq rfl fun b1=> ?_
 refine bN fun b2=> ?_
 refine Gs ?_
 refine Gc ?_
 iterate 4 refine Gs ?_
 refine Gc ?_
 refine cg (X:=Nat) (fun zz=>[(9, .int .i64 (zz:Nat)),(1, .pointer (some ⟨b1,0,none⟩)),(2, .pointer (some ⟨b2,0,none⟩)),(7,c.aX.sv.val),(8, .int .i64 (c.aX.xs.length:Nat))]) (fun zz=>[ar b2 (dh wu) 94,ar b1 (aE c) 25]) (fun zz=>zz≤c.aX.xs.length∧ ∀j f,j<zz→c.aX.xs[j]? =Option.some f→f.op≠c.ops) (fun zz=>c.aX.xs.length -zz) 0 ⟨Nat.zero_le _,fun j f hj=>by first|omega|(simp only[];omega)⟩ (Sub.cons rfl (Sub.cons rfl (Sub.cons rfl (Sub.cons rfl (Sub.cons rfl (Sub.nil _)))))) (fun w hw=>ai.mem hw) ?_
 rintro i ⟨bk,aG⟩
 refine Gc ?_
 refine Gs ?_
 refine Gc ?_
 refine av rfl (fun h0=> ?_) (fun h0=> ?_)
 ·
  replace h0:=bz h0
  iterate 6 refine Gi ?_
  obtain⟨f,hf⟩:=get_some (xs:=c.aX.xs) (i:=i) (by omega)
  refine ah (bl rfl rfl i rfl (by omega)) ?_
  refine ah (hH rfl i hf rfl) ?_
  refine bN fun b5=> ?_
  refine Gs ?_
  refine Gc ?_
  iterate 5 refine Gs ?_
  refine Gc ?_
  refine av rfl (fun h1=> ?_) (fun h1=> ?_)
  ·
   replace h1:=bz h1
   have hs:bp (cv c)=(f,f.cut||f.fail):=R9 hf aG h1
   refine Gi ?_
   refine jm [7] [[],[],[],[],[],[],[],[],[7]] [0,1,2,3,4,5,6,7,8] [ar b5 (dh f) 94,ar b1 (aE c) 25] (fun _ hw=>ai.mem hw) (by kernel_rfl) (by kernel_rfl) ?_
   refine an rfl (fN rfl) ?_
   refine an rfl (aH (o':=2) rfl rfl) ?_
   refine an rfl (bI rfl) ?_
   refine an rfl (aF rfl) ?_
   refine Jh rfl rfl rfl rfl (fun hg=>(Ry.yl (aH (o':=1) rfl rfl))) ?_
   refine Jh rfl rfl rfl rfl (fun hg=>(Ry.yl (bI (aI hg rfl)))) ?_
   refine an rfl (mf rfl rfl rfl) ?_
   refine dy rfl (mw rfl rfl ⟨fun _ hw=>ai.mem hw,?_⟩)
   refine an rfl (bn rfl) ?_
   refine Gc ?_
   refine au (.inl rfl) (bo rfl (cj rfl) (aq rfl)) (fun w1 hw=> ?_)
   exact⟨(by rw[hs]),ai.mem hw⟩
  ·
   replace h1:=bz h1
   refine Gc ?_
   iterate 2 refine Gs ?_
   refine Gi ?_
   exact bD (x:=(i)) (i+1) ⟨by first|omega|(simp only[];omega),fun j g hj hg=>if e:j=i then(by subst e;rw[hf]at hg;cases hg;exact h1)else aG j g (by first|omega|(simp only[];omega)) hg⟩ (by first|omega|(simp only[];omega)) (Sub.cons rfl (Sub.cons rfl (Sub.cons rfl (Sub.cons rfl (Sub.cons rfl (Sub.nil _)))))) (fun w hw=>ai.mem hw)
 ·
  replace h0:=bz h0
  obtain rfl:i=c.aX.xs.length:=by omega
  have hs:bp (cv c)=(wu,false):=R8 (fun f hf=>by
   obtain⟨j,hj⟩:=List.getElem?_of_mem hf
   exact aG j f (List.getElem?_eq_some_iff.1 hj).1 hj)
  refine Gc ?_
  refine ah (cU (v:= .agg (dh wu)) rfl (fun w=>by kernel_rfl)) ?_
  iterate 2 refine Gs ?_
  refine Gc ?_
  refine au (.inl rfl) (bo rfl (cj rfl) (aq rfl)) (fun w1 hw=> ?_)
  exact⟨(by rw[hs]),ai.mem hw⟩
instance af4{w0:World}{L:List aj}{c:Cp}[hc:aW w0 L c]:cL Tryz.prog 160 w0 L [.agg (aE c)] (.tuple #[.agg (dh ((bp (cv c)).1)), .bool ((bp (cv c)).2)]) (c.aX.xs.length≤1000000):=⟨fun hp w hw=>Uu w c (hc.h w hw) hp⟩
theorem Uv(w:World)(f:Ft):Calls Tryz.prog 161 #[.agg (dh f)] w fun e w'=>e= .returned (.tuple #[.bool f.cut, .int .i64 (jY f)])∧Mem w [] w':=by
 refine bf (args:=[_]) Tryz.func161 rfl Tryz.ntmps161 rfl ?_
 change Cw _ _ _ _ _ [(0, .agg (dh f))] []
 refine Gc ?_
 refine cq rfl fun b1=> ?_
 iterate 2 refine Gs ?_
 refine Gc ?_
 iterate 2 refine Gs ?_
 refine Gc ?_
 refine av rfl (fun h0=> ?_) (fun h0=> ?_)
 ·
  replace h0:=bz h0
  refine Gc ?_
  iterate 2 refine Gs ?_
  refine Gc ?_
  refine au (.inl rfl) (bo rfl (aq rfl) (aq rfl)) (fun w1 hw=> ?_)
  exact⟨(by rw[jY,if_pos h0,h0]),ai.mem hw⟩
 ·
  replace h0:=bz h0
  refine Gc ?_
  iterate 2 refine Gs ?_
  refine Gc ?_
  refine au (.inl rfl) (bo rfl (aq rfl) (aq rfl)) (fun w1 hw=> ?_)
  exact⟨(by rw[jY,if_neg (by rw[h0];simp),h0]),ai.mem hw⟩
instance af5{w0:World}{L:List aj}{f:Ft}:cL Tryz.prog 161 w0 L [.agg (dh f)] (.tuple #[.bool f.cut, .int .i64 (jY f)]) (True):=⟨fun hp w hw=>Uv w f⟩
open Go.ay Go.Kb
open Go.RowKit
theorem Uw(w:World)(c:Cp)(b:Int)(hc:Deep.bh (hp w) c)(bc:dM c):Calls Tryz.prog 162 #[.agg (aE c), .int .i64 b] w fun e w'=> ∃zz:Cp,e= .returned (.tuple #[.agg (aE zz), .int .i64 (jZ (cv c) b)])∧(cv zz=iS (cv c) b)∧Mem w [fz zz] w':=by
 have jQ:cC w c:=⟨hc⟩
 have kg:dM c:=bc
 obtain⟨lf,ka,nD⟩:=bc
 refine bf (args:=[_,_]) Tryz.func162 rfl Tryz.ntmps162 rfl ?_
 change Cw _ _ _ _ _ [(0, .agg (aE c)),(1, .int .i64 b)] []
 refine Gc ?_
 refine cq rfl fun b2=> ?_
 refine bN fun b4=> ?_
 refine Gs ?_
 refine Gc ?_
 refine Gs ?_
 refine br rfl (by assumption) fun x8 pd=> ?_
 refine bN fun b6=> ?_
 refine Gs ?_
 refine Gc ?_
 iterate 4 refine Gs ?_
 refine Gc ?_
 refine av rfl (fun h0=> ?_) (fun h0=> ?_)
 ·
  replace h0:=bz h0
  have hE:jZ (cv c) b=1:=by rw[jZ,if_neg (by rw[h0];simp)]
  refine Gc ?_
  iterate 3 refine Gs ?_
  refine Gc ?_
  refine au (.inl rfl) (bo rfl (cj rfl) (aq rfl)) (fun w1 hw=> ?_)
  exact⟨x8,by rw[hE],by rw[pd,iS,if_neg (by rw[hE];decide)],mF x8 (ai.mem hw)⟩
 ·
  replace h0:=bz h0
  have hk:fy (cv c) b=true:=h0
  have hh:=hk
  have lF:=(fA.1 hh).2
  have du:x8.blocks.xs.length=c.blocks.xs.length:=by have:=congrArg (fun v:CV=>v.blocks.length) pd;simpa only[cv,gg]using this
  have xd:x8.ops=c.ops:=congrArg CV.ops pd
  have oq:(cv c).blocks.length=c.blocks.xs.length:=gg _
  obtain⟨B,hB⟩:=get_some (xs:=x8.blocks.xs) (i:=b.toNat) (by omega)
  have lZ:b.toNat<x8.blocks.xs.length:=(List.getElem?_eq_some_iff.1 hB).1
  have eD:bv B=ak (cv c) b:=by
   have h1:=Bh hh
   have h2:=kx hB
   rw[show gy x8.blocks.xs=(cv c).blocks from congrArg CV.blocks pd,h1]at h2
   exact(Option.some.inj h2).symm
  have fR:lQ c.ae c.size (bv B)=true:=by rw[eD];exact oR hh
  obtain⟨o1,o2,o3,o4,o5,o6⟩:=eA.1 fR
  have hY:=jI.1 (eC.1 (fA.1 hh).1).1
  have zf:=(eC.1 (fA.1 hh).1).2.1
  simp only[bv,cv]at o1 o2 o3 o4 o5 o6 hY zf
  have LP:=jo B.ae.xs
  refine Gc ?_
  iterate 2 refine Gs ?_
  refine Gc ?_
  refine av rfl (fun h1=> ?_) (fun h1=> ?_)
  ·
   replace h1:=bz h1
   have hE:jZ (cv c) b=7:=by rw[jZ,if_pos hk,if_pos (show(cv c).off=true from h1)]
   refine Gc ?_
   iterate 3 refine Gs ?_
   refine Gc ?_
   refine au (.inl rfl) (bo rfl (cj rfl) (aq rfl)) (fun w1 hw=> ?_)
   exact⟨x8,by rw[hE],by rw[pd,iS,if_neg (by rw[hE];decide)],mF x8 (ai.mem hw)⟩
  ·
   replace h1:=bz h1
   have hE:jZ (cv c) b=0:=by rw[jZ,if_pos hk,if_neg (by rw[show(cv c).off=false from h1];simp)]
   refine Gc ?_
   iterate 3 refine Gs ?_
   refine ah (bl rfl rfl b.toNat (by omega) lZ) ?_
   refine ah (aH rfl rfl) ?_
   refine kJ (s:=x8.blocks.sv) (n:=1) (k:=b.toNat) (j:=3) (a:=B) (a':=(⟨B.ae,B.used,B.aT,true⟩:Bk)) (xs:=x8.blocks.xs) (enc:=bK) (c:=4) (v:= .bool true) (by kernel_rfl) rfl rfl rfl hB (by simp[Value.cells,Value.oneCell']) (by rfl) (by decide) (by rfl) ?_
   refine Gc ?_
   iterate 3 refine Gs ?_
   refine Gc ?_
   refine au (.inl rfl) (bo rfl (cj rfl) (aq rfl)) (fun w1 hw=> ?_)
   exact⟨(⟨x8.ae,x8.size,⟨x8.blocks.sv,x8.blocks.xs.set b.toNat (⟨B.ae,B.used,B.aT,true⟩:Bk)⟩,x8.ops,x8.off,x8.aX⟩:Cp),by rw[hE];rfl,by rw[Si pd eD,iS,if_pos hE],mF (⟨x8.ae,x8.size,⟨x8.blocks.sv,x8.blocks.xs.set b.toNat (⟨B.ae,B.used,B.aT,true⟩:Bk)⟩,x8.ops,x8.off,x8.aX⟩:Cp) (by
    simp only[Sh hB (B':=(⟨B.ae,B.used,B.aT,true⟩:Bk)) rfl]
    exact ai.mem hw)⟩
instance af6{w0:World}{L:List aj}{c:Cp}{b:Int}[hc:aW w0 L c]:cr Tryz.prog 162 w0 L [.agg (aE c), .int .i64 b] (Cp) (fun zz=> .tuple #[.agg (aE zz), .int .i64 (jZ (cv c) b)]) (fun zz=>fz zz::L) (fun zz=>cv zz=iS (cv c) b) (dM c):=⟨fun hp w hw=>(Uw w c b (hc.h w hw) hp).mono fun e w' ⟨x,h1,h2,h3⟩=>⟨x,h1,h2,hw.call h3⟩⟩
theorem Ux(w:World)(c:Cp)(fs:Sv)(dD:List Ft)(hc:Deep.bh (hp w) c)(qd:bV dh 4 (hp w) fs dD)(bc:dM c):Calls Tryz.prog 32 #[.agg (aE c),fs.val] w fun e w'=> ∃zz:Cp,e= .returned (.tuple #[.agg (aE zz), .int .i64 (n8 (cv c) dD)])∧(cv zz=oQ (cv c) dD)∧Mem w [fz zz] w':=by
 have jQ:cC w c:=⟨hc⟩
 have LQ:Gv w fs dh 4 dD:=⟨qd⟩
 have kg:dM c:=bc
 obtain⟨lf,ka,nD⟩:=bc
 refine bf (args:=[_,_]) Tryz.func32 rfl Tryz.ntmps32 rfl ?_
 change Cw _ _ _ _ _ [(0, .agg (aE c)),(1,fs.val)] []
 refine Gc ?_
 refine cq rfl fun b2=> ?_
 refine bN fun b4=> ?_
 refine Gs ?_
 refine Gc ?_
 refine Gs ?_
 refine br rfl (by assumption) fun x8 pd=> ?_
 refine bN fun b6=> ?_
 refine Gs ?_
 refine Gc ?_
 iterate 4 refine Gs ?_
 iterate 3 refine Gg ?_
 refine Gs ?_
 refine Gc ?_
 refine av rfl (fun h0=> ?_) (fun h0=> ?_)
 ·
  replace h0:=bz h0
  have hE:n8 (cv c) dD=1:=by rw[n8,if_neg (fun h=>by rw[h.1]at h0;simp only[Bool.true_eq_false,false_or]at h0;omega)]
  refine Gc ?_
  iterate 3 refine Gs ?_
  refine Gc ?_
  refine au (.inl rfl) (bo rfl (cj rfl) (aq rfl)) (fun w1 hw=> ?_)
  exact⟨x8,by rw[hE],by rw[pd,oQ,if_neg (by rw[hE];decide)],mF x8 (ai.mem hw)⟩
 ·
  replace h0:=bz h0
  have hE:n8 (cv c) dD=0:=by
   rw[n8,if_pos]
   cases hk:aS (cv c)with
   |false=>rw[hk]at h0;simp at h0
   |true=>exact⟨rfl,by rw[hk]at h0;simp only[Bool.true_eq_false,not_false_eq_true,true_and]at h0;omega⟩
  have ez:dD.length≤64:=by
   by_cases h9:aS (cv c)=true∧dD.length≤64
   ·
    exact h9.2
   ·
    rw[n8,if_neg h9]at hE;cases hE
  refine Gc ?_
  refine Gs ?_
  refine eO (cs':=aE (⟨x8.ae,x8.size,x8.blocks,x8.ops,false,x8.aX⟩:Cp)) rfl rfl (by show 4<6;decide) (by first|rfl|exact Sv.one _) rfl ?_
  refine Gc ?_
  refine Gs ?_
  refine br rfl (by omega) fun gN vd=> ?_
  refine Gs ?_
  refine eO (cs':=aE (⟨x8.ae,x8.size,x8.blocks,x8.ops,false,⟨gN,dD⟩⟩:Cp)) rfl rfl (by show 5<6;decide) (by first|rfl|exact Sv.one _) rfl ?_
  refine Gc ?_
  iterate 3 refine Gs ?_
  refine Gc ?_
  refine au (.inl rfl) (bo rfl (cj rfl) (aq rfl)) (fun w1 hw=> ?_)
  exact⟨(⟨x8.ae,x8.size,x8.blocks,x8.ops,false,⟨gN,dD⟩⟩:Cp),by rw[hE],by rw[oQ,if_pos hE,←pd];rfl,mF (⟨x8.ae,x8.size,x8.blocks,x8.ops,false,⟨gN,dD⟩⟩:Cp) (ai.mem hw)⟩
instance af7{w0:World}{L:List aj}{c:Cp}{fs:Sv}{dD:List Ft}[hc:aW w0 L c][qd:c6 w0 L dh 4 fs dD]:cr Tryz.prog 32 w0 L [.agg (aE c),fs.val] (Cp) (fun zz=> .tuple #[.agg (aE zz), .int .i64 (n8 (cv c) dD)]) (fun zz=>fz zz::L) (fun zz=>cv zz=oQ (cv c) dD) (dM c):=⟨fun hp w hw=>(Ux w c fs dD (hc.h w hw) (qd.h w hw) hp).mono fun e w' ⟨x,h1,h2,h3⟩=>⟨x,h1,h2,hw.call h3⟩⟩
end Go.Proofs.YtaipiecplldinaaGreat

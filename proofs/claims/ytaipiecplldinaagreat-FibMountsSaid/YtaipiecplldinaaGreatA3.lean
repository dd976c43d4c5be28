/- Part of a proof. -/
import Derived.Test.YtaipiecplldinaaGreatA2
import Derived.Test.YtaipiecplldinaaGreatA1
import Derived.Test.YtaipiecplldinaaGreatRows
import Derived.DeepKeys
import Derived.Lib.BytesEntry
import Derived.Maps.Keyed
set_option maxRecDepth 20000
set_option linter.unusedSimpArgs false
set_option linter.unusedVariables false
namespace Go.Kb
open Go.aL
def gK(c:CV)(l:List Int):Prop:= ∀n∈l,n=0∨(1≤n∧2≤(n -1)/c.ag∧(n -1)/c.ag<(c.blocks.length:Int))
theorem gK.jt{c d:CV}{l:List Int}(h:gK c l)(g:eH c d):gK d l:=fun n hn=>by
  rcases h n hn with h|h
  ·exact .inl h
  ·exact .inr (by rw[g.ag,g.len];exact h)
theorem gK.append{c:CV}{a b:List Int}(h:gK c a)(g:gK c b):gK c (a++b):=fun n hn=>(List.mem_append.1 hn).elim (h n) (g n)
theorem kL{c:CV}(h:bg c=true):1≤(c.blocks.length:Int)∧(c.blocks.length:Int)≤32∧1≤c.ag∧c.ag≤16∧1≤c.size∧c.size≤256:=ik.1 (dE.1 h).1
theorem Ib{n p b:Int}(hp:1≤p)(kr:p≤16)(hb:b≤32)(h:(n -1)/p<b):n≤512:=by
  have h1:n -1=p*((n -1)/p)+(n -1)%p:=(Int.mul_ediv_add_emod (n -1) p).symm
  have h2:=Int.emod_lt_of_pos (n -1) (show 0<p by omega)
  have h3:(n -1)/p≤31:=by omega
  have h4:p*((n -1)/p)≤p*31:=Int.mul_le_mul_of_nonneg_left h3 (by omega)
  omega
theorem gK.kn{c:CV}{l:List Int}(h:gK c l)(hk:bg c=true)(h2:2≤c.blocks.length)(hl:l.length≤1000000):oX c l:=
  ⟨⟨hk,hl⟩,h2,fun n hn=>by
    rcases h n hn with h|h
    ·exact .inl h
    ·have hd:=kL hk
     have:=Ib (n:=n) hd.2.2.1 hd.2.2.2.1 hd.2.1 h.2.2
     exact .inr ⟨h.1,by omega,h.2.1,h.2.2⟩⟩
theorem Ic{c:CV}{fl:List Int}{i:Nat}(hi:i<c.blocks.length -2):(aY c fl)[i]? =some (m9 (sd (aO c ((i:Int)+2)) (pY c.ag fl fl.length i))):=by
  rw[aY,ic,ja,List.getElem?_map,List.getElem?_map,List.getElem?_range hi];rfl
theorem z7{c:CV}{fl:List Int}{i:Nat}{x:aN}(h:(aY c fl)[i]? =some x):x.bad=(aO c ((i:Int)+2)).bad:=by
  have hi:=(List.getElem?_eq_some_iff.1 h).1
  rw[oZ]at hi
  rw[Ic hi]at h
  obtain rfl:=Option.some.inj h
  rw[m9];split
  ·rename_i hb;exact hb.symm
  ·rfl
theorem xE{c:CV}(hk:bg c=true){b:Int}(h0:0≤b)(h1:b<c.blocks.length):k7 c.ag c.size (aO c b)=true:=tO (lX.2 ⟨hk,h0,h1⟩)
structure z8(c:CV)(n:Nat)(x:aN):Prop where
  O2:0≤x.live
  O3:x.live≤n
  z9:0≤x.used
  Aa:x.used≤c.ag
  O4:0≤x.bE
  O5:x.bE≤dJ
theorem Ab{c:CV}{fl:List Int}(hk:bg c=true){x:aN}(h:x∈aY c fl):z8 c fl.length x:=by
  obtain⟨i,hi⟩:=List.getElem?_of_mem h
  have gm:=(List.getElem?_eq_some_iff.1 hi).1
  rw[oZ]at gm
  rw[Ic gm]at hi
  obtain rfl:=Option.some.inj hi
  have hd:=kL hk
  have o8:dJ=1099511627776:=rfl
  rw[m9];split
  ·exact⟨by simp[cd],by simp[cd],by simp[cd],by simp only[cd];omega,by simp[cd],by simp only[cd];omega⟩
  ·have ho:=eM.1 (xE hk (b:=(i:Int)+2) (by omega) (by omega))
   have:=HS c.ag fl fl.length i
   exact⟨by simp only[sd];omega,by simp only[sd];omega,ho.2.1,ho.2.2.1,ho.2.2.2.1,ho.2.2.2.2.1⟩
theorem Ie{R:aN→Bool}{l:List aN}{i:Nat}{x:aN}(h:(cB R l)[i]? =some x): ∃y,l[i]? =some y∧x=kJ R y:=by
  rw[cB,List.getElem?_map,Option.map_eq_some_iff]at h
  obtain⟨y,hy,rfl⟩:=h
  exact⟨y,hy,rfl⟩
theorem O6{R:aN→Bool}{y:aN}(h:(kJ R y).bad=false):kJ R y=y∧y.bad=false∧R y=true:=by
  unfold kJ at h⊢
  split at h
  ·cases h
  ·rename_i hn
   rw[if_neg hn]
   refine⟨rfl,h,?_⟩
   cases hR:R y with
   |true=>rfl
   |false=>exact absurd (.inr hR) hn
theorem xF{p:Int}{x:aN}(h:pZ p x=true):x.bad=false∧x.used<p:=by
  simpa[pZ]using h
theorem tX{x:aN}(h:p0 x=true):x.bad=false∧x.live=0∧0<x.used:=by
  simpa[p0,and_assoc]using h
theorem Ac{R:aN→Bool}{l:List aN}{p:Int}{dF:aN→Bool}{os:List (aN→aN→Int)}(hr: ∀x,dF x=true→x.bad=false)(h:(fL (cB R l) p dF os).2=true):
    ∃x,l[(fL (cB R l) p dF os).1.toNat]? =some x∧x.bad=false∧R x=true∧dF x=true∧0≤(fL (cB R l) p dF os).1∧(fL (cB R l) p dF os).1<l.length:=by
  obtain⟨h1,h2,h3,h4⟩:=z3 h
  rw[z6]at h3
  have hi:(cB R l)[(fL (cB R l) p dF os).1.toNat]? =some ((cB R l).getD (fL (cB R l) p dF os).1.toNat hG):=iU (by rw[z6];omega)
  obtain⟨y,hy,he⟩:=Ie hi
  rw[he]at h4
  obtain⟨k1,k2,k3⟩:=O6 (hr _ h4)
  rw[k1]at h4
  exact⟨y,hy,k2,k3,h4,h2,h3⟩
def tY(x:aN):Bool:=decide (0<x.live)
def ju(x:aN):Bool:=decide (x.live=0)
def nR(l:List aN):Nat:=(l.filter fun x=> !x.bad&&decide (x.live=0)).length
def nc(c:CV)(fl:List Int):Int×Bool:=fb (cB tY (aY c fl)) c.ag
def l8(c:CV)(fl:List Int):Int×Bool:=fb (cB ju (aY c fl)) c.ag
def nf(c:CV)(fl:List Int):Int:=(fx (cB ju (aY c fl)) c.ag).1
def bO(c:CV)(fl:List Int)(bA:Bool):CV×Int×Int:=
  if(nc c fl).2=true then(c,(nc c fl).1+2,0)
  else if nR (aY c fl)=0∨(nR (aY c fl)=1∧bA=false)then(c,0,5)
  else if(l8 c fl).2=true then(c,(l8 c fl).1+2,0)
  else((dU c (nf c fl+2)).1,nf c fl+2,(dU c (nf c fl+2)).2)
theorem O7{l:List aN}{i:Nat}{x:aN}(h:l[i]? =some x):((l.take (i+1)).filter fun z=> !z.bad&&decide (z.live=0)).length=((l.take i).filter fun z=> !z.bad&&decide (z.live=0)).length+(if x.bad=false∧x.live=0 then 1 else 0):=by
  rw[List.take_add_one,h,List.filter_append,List.length_append]
  congr 1
  simp only[Option.toList_some,List.filter_cons,List.filter_nil]
  split<;>simp_all
theorem O8(l:List aN):(l.filter fun z=> !z.bad&&decide (z.live=0)).length≤l.length:=List.length_filter_le _ _
theorem Ig{c:CV}{fl:List Int}(hk:bg c=true)(h2:3≤c.blocks.length)(hi:nR (aY c fl)≠0)(hb: ¬(l8 c fl).2=true):0≤nf c fl∧nf c fl<(c.blocks.length:Int) -2∧(aO c (nf c fl+2)).bad=false:=by
  have hd:=kL hk
  have cO:=oZ c fl
  have hw:mI (cB ju (aY c fl)) c.ag=true:=xB.2 ⟨by rw[z6];omega,by rw[z6];omega,by omega,by omega,fun x hx=>by
    obtain⟨i,hi⟩:=List.getElem?_of_mem hx
    obtain⟨y,hy,rfl⟩:=Ie hi
    have t:=Ab hk (List.mem_of_getElem? hy)
    have o8:dJ=1099511627776:=rfl
    unfold kJ
    split
    ·exact vC.2 (by simp only[cd];omega)
    ·rename_i hn
     have hl:y.live=0:=by
        cases hR:ju y with
        |true=>simpa[ju]using hR
        |false=>exact absurd (.inr hR) hn
     exact vC.2 ⟨by omega,by have:=t.z9;omega,t.Aa,t.O4,t.O5⟩⟩
  have nS:(l8 c fl).2=false:=by simpa using hb
  have O9:=HU hw (show(fL _ _ _ _).2=false from nS)
  have Dh:0<((aY c fl).filter fun x=> !x.bad&&decide (x.live=0)).length:=by rw[nR]at hi;omega
  obtain⟨x,hx⟩:=List.exists_mem_of_length_pos Dh
  obtain⟨nT,m8⟩:=List.mem_filter.1 hx
  simp only[Bool.and_eq_true,Bool.not_eq_true',decide_eq_true_eq]at m8
  have p8:kJ ju x=x:=by
    unfold kJ
    rw[if_neg]
    rintro(g|g)
    ·rw[m8.1]at g;cases g
    ·rw[show ju x=true by simp[ju,m8.2]]at g;cases g
  have Ih:x∈cB ju (aY c fl):=by
    rw[←p8];exact List.mem_map_of_mem nT
  have Ii:=O9 x Ih
  have t:=Ab hk nT
  have Pa:p0 x=true:=by
    have: ¬x.used<c.ag:=fun h=>by
      rw[pZ,m8.1,decide_eq_true h]at Ii;cases Ii
    simp only[p0,m8.1,Bool.not_false,Bool.true_and,Bool.and_eq_true,decide_eq_true_eq]
    omega
  have hf:(fx (cB ju (aY c fl)) c.ag).2=true:=by
    cases hq:(fx (cB ju (aY c fl)) c.ag).2 with
    |true=>rfl
    |false=>have:=HU hw hq x Ih;rw[Pa]at this;cases this
  obtain⟨y,hy,k1,_,_,k4,k5⟩:=Ac (fun x h=>(tX h).1) hf
  have qa:=z7 hy
  change 0≤nf c fl at k4
  change nf c fl<_ at k5
  refine⟨k4,by omega,?_⟩
  rw[←k1,qa]
  congr 2
  change _=((nf c fl).toNat:Int)+2
  omega
theorem Ij{c:CV}{fl:List Int}(h:(nc c fl).2=true):0≤(nc c fl).1∧(nc c fl).1<((c.blocks.length -2:Nat):Int)∧(aO c ((nc c fl).1+2)).bad=false:=by
  obtain⟨y,hy,k1,_,_,k4,k5⟩:=Ac (fun x h=>(xF h).1) h
  have qa:=z7 hy
  rw[oZ]at k5
  refine⟨k4,k5,?_⟩
  rw[←k1,qa]
  congr 2
  change _=((nc c fl).1.toNat:Int)+2
  change 0≤(nc c fl).1 at k4
  omega
theorem Ik{c:CV}{fl:List Int}(h:(l8 c fl).2=true):0≤(l8 c fl).1∧(l8 c fl).1<((c.blocks.length -2:Nat):Int)∧(aO c ((l8 c fl).1+2)).bad=false:=by
  obtain⟨y,hy,k1,_,_,k4,k5⟩:=Ac (fun x h=>(xF h).1) h
  have qa:=z7 hy
  rw[oZ]at k5
  refine⟨k4,k5,?_⟩
  rw[←k1,qa]
  congr 2
  change _=((l8 c fl).1.toNat:Int)+2
  change 0≤(l8 c fl).1 at k4
  omega
theorem Pb{c:CV}{b:Int}(h:eD c b=0):qN c b=true∧c.off=false∧(aO c b).bad=false∧(bR c).2=false∧jb c b=rY c b:=by
  have h0:=h
  rw[eD]at h
  by_cases h1:qN c b=true
  ·rw[if_pos h1]at h
   by_cases h2:c.off=true
   ·rw[if_pos h2]at h;cases h
   ·rw[if_neg h2]at h
    by_cases h3:(aO c b).bad=true
    ·rw[if_pos h3]at h;cases h
    ·rw[if_neg h3]at h
     by_cases h4:(bR c).2=true
     ·rw[if_pos h4,mG]at h
      split at h<;>cases h
     ·refine⟨h1,by simpa using h2,by simpa using h3,by simpa using h4,?_⟩
      rw[jb,lf,h0,if_neg (by decide),k9,if_pos ⟨h1,by simpa using h2,by simpa using h3⟩]
  ·rw[if_neg h1]at h;cases h
theorem Il{c:CV}{b:Int}(h:eD c b=0):(aO (jb c b) b).bad=false:=by
  obtain⟨h1,h2,h3,h4,h5⟩:=Pb h
  rw[h5,rY,Df (vj.1 h1).1];exact h3
theorem Ad: ∀(n:Nat) {c:CV} {b:Int},(jd n c b).2=0→(aO (jd n c b).1 b).bad=false
  |0,c,b,h=>Il h
  |n+1,c,b,h=>by
   rw[jd]at h⊢
   by_cases h0:cq c b (jc c)≠0
   ·rw[if_pos h0]at h;exact absurd h h0
   ·rw[if_neg h0]at h⊢;exact Ad n h
theorem Im{c:CV}{fl:List Int}{bA:Bool}(hk:bg c=true)(h2:3≤c.blocks.length):bg (bO c fl bA).1=true∧eH c (bO c fl bA).1∧c.ops≤(bO c fl bA).1.ops∧
    ((bO c fl bA).2.2=0→2≤(bO c fl bA).2.1∧(bO c fl bA).2.1<c.blocks.length∧(aO (bO c fl bA).1 (bO c fl bA).2.1).bad=false)∧((bO c fl bA).2.2=9→c.ops<(bO c fl bA).1.ops):=by
  rw[bO]
  by_cases h1:(nc c fl).2=true
  ·rw[if_pos h1]
   have:=Ij h1
   exact⟨hk, .fZ c,Int.le_refl _,fun _=>⟨by simp only;omega,by simp only;omega,this.2.2⟩,fun h=>absurd (show(0:Int)=9 from h) (by decide)⟩
  ·rw[if_neg h1]
   by_cases h3:nR (aY c fl)=0∨(nR (aY c fl)=1∧bA=false)
   ·rw[if_pos h3]
    exact⟨hk, .fZ c,Int.le_refl _,fun h=>absurd (show(5:Int)=0 from h) (by decide),fun h=>absurd (show(5:Int)=9 from h) (by decide)⟩
   ·rw[if_neg h3]
    by_cases h4:(l8 c fl).2=true
    ·rw[if_pos h4]
     have:=Ik h4
     exact⟨hk, .fZ c,Int.le_refl _,fun _=>⟨by simp only;omega,by simp only;omega,this.2.2⟩,fun h=>absurd (show(0:Int)=9 from h) (by decide)⟩
    ·rw[if_neg h4]
     obtain⟨d1,d2,d3⟩:=Ig hk h2 (fun e=>h3 (.inl e)) h4
     have hc:=xD (nf c fl+2) hk
     exact⟨hc.1,hc.2,vG _ _ _,fun h=>⟨by simp only;omega,by simp only;omega,Ad _ h⟩,fun h=>z5 d3 (.inl h)⟩
def j8:Nat→CV→List Int→Bool→List UInt8→CV×Int×Int
  |0,c,_,_,_=>(c,0,0)
  |n+1,c,fl,bA,b=>
   if(bO c fl bA).2.2=0 then
      (if cq (bO c fl bA).1 (bO c fl bA).2.1 b=0 then(dh (bO c fl bA).1 (bO c fl bA).2.1 b,(bO c fl bA).2.1*c.ag+(aO (bO c fl bA).1 (bO c fl bA).2.1).used+1,0)
       else if cq (bO c fl bA).1 (bO c fl bA).2.1 b≠9 then(dh (bO c fl bA).1 (bO c fl bA).2.1 b,0,cq (bO c fl bA).1 (bO c fl bA).2.1 b)
       else j8 n (dh (bO c fl bA).1 (bO c fl bA).2.1 b) fl bA b)
   else if(bO c fl bA).2.2≠9 then((bO c fl bA).1,0,(bO c fl bA).2.2)
   else j8 n (bO c fl bA).1 fl bA b
def dL(c:CV)(fl:List Int)(bA:Bool)(p:PV):CV×Int×Int:=
  if(dZ p c.size).2≠0 then(c,0,(dZ p c.size).2)else j8 ((dJ -c.ops).toNat+1) c fl bA (dZ p c.size).1
theorem si{c:CV}(h:bg c=true):c.ops≤dJ:=(dE.1 h).2.2.1
theorem Di: ∀(n:Nat) {c:CV} {fl:List Int} {bA:Bool} {b:List UInt8},bg c=true→3≤c.blocks.length→(dJ -c.ops).toNat<n→
    bg (j8 n c fl bA b).1=true∧eH c (j8 n c fl bA b).1∧c.ops≤(j8 n c fl bA b).1.ops∧((j8 n c fl bA b).2.2=0→1≤(j8 n c fl bA b).2.1∧2≤((j8 n c fl bA b).2.1 -1)/c.ag∧((j8 n c fl bA b).2.1 -1)/c.ag<c.blocks.length)
  |0,c,fl,bA,b,_,_,hn=>by omega
  |n+1,c,fl,bA,b,hk,h2,hn=>by
   obtain⟨f1,f2,f3,f4,f5⟩:=Im (fl:=fl) (bA:=bA) hk h2
   have hd:=kL hk
   rw[j8]
   by_cases h0:(bO c fl bA).2.2=0
   ·rw[if_pos h0]
    obtain⟨g1,g2,g3⟩:=f4 h0
    by_cases h1:cq (bO c fl bA).1 (bO c fl bA).2.1 b=0
    ·rw[if_pos h1]
     have hl:=f2.trans (l5 (bO c fl bA).1 (bO c fl bA).2.1 b)
     have hp:=oS.1 (vF h1).1
     rw[f2.ag]at hp
     have hu:0≤(aO (bO c fl bA).1 (bO c fl bA).2.1).used:=hp.2.1
     have Dj:=hp.2.2.1
     have hq:((bO c fl bA).2.1*c.ag+(aO (bO c fl bA).1 (bO c fl bA).2.1).used+1 -1)/c.ag=(bO c fl bA).2.1:=by
          rw[Int.add_sub_cancel,Int.add_comm,Int.add_mul_ediv_right _ _ (by omega),Int.ediv_eq_zero_of_lt hu Dj,Int.zero_add]
     refine⟨lg f1 _ _,hl,?_,fun _=>⟨?_,by simp only;rw[hq];exact g1,by simp only;rw[hq];exact g2⟩⟩
     ·have:=tW (bO c fl bA).1 (bO c fl bA).2.1 b;simp only;omega
     ·have:0≤(bO c fl bA).2.1*c.ag:=Int.mul_nonneg (by omega) (by omega)
      simp only;omega
    ·rw[if_neg h1]
     by_cases h9:cq (bO c fl bA).1 (bO c fl bA).2.1 b≠9
     ·rw[if_pos h9]
      exact⟨lg f1 _ _,f2.trans (l5 _ _ _),by have:=tW (bO c fl bA).1 (bO c fl bA).2.1 b;simp only;omega,fun h=>absurd h h1⟩
     ·rw[if_neg h9]
      have ho:=sg g3 (p:=b) (.inl (by simpa using h9))
      have ct:=lg f1 (bO c fl bA).2.1 b
      have hl:=f2.trans (l5 (bO c fl bA).1 (bO c fl bA).2.1 b)
      have hle:=si ct
      have:=Di n (fl:=fl) (bA:=bA) (b:=b) ct (by rw[hl.len];exact h2) (by omega)
      refine⟨this.1,hl.trans this.2.1,by omega,fun h=> ?_⟩
      have g:=this.2.2.2 h
      rw[hl.ag,hl.len]at g
      exact g
   ·rw[if_neg h0]
    by_cases h9:(bO c fl bA).2.2≠9
    ·rw[if_pos h9]
     exact⟨f1,f2,f3,fun h=>absurd h h0⟩
    ·rw[if_neg h9]
     have ho:=f5 (by simpa using h9)
     have hle:=si f1
     have:=Di n (fl:=fl) (bA:=bA) (b:=b) f1 (by rw[f2.len];exact h2) (by omega)
     refine⟨this.1,f2.trans this.2.1,by omega,fun h=> ?_⟩
     have g:=this.2.2.2 h
     rw[f2.ag,f2.len]at g
     exact g
theorem Io{c:CV}{fl:List Int}{bA:Bool}{p:PV}(hk:bg c=true)(h2:3≤c.blocks.length):
    bg (dL c fl bA p).1=true∧eH c (dL c fl bA p).1∧c.ops≤(dL c fl bA p).1.ops∧((dL c fl bA p).2.2=0→1≤(dL c fl bA p).2.1∧2≤((dL c fl bA p).2.1 -1)/c.ag∧((dL c fl bA p).2.1 -1)/c.ag<c.blocks.length):=by
  rw[dL];split
  ·rename_i h;exact⟨hk, .fZ c,Int.le_refl _,fun h'=>absurd h' h⟩
  ·exact Di _ hk h2 (by omega)
def pa(p:Int)(x:aN):Int:=if x.live=0∧p -x.used=0 then p else p -x.used
def tZ(p:Int)(s:Int×Int)(x:aN):Int×Int:=if x.bad=true then s else(s.1+pa p x,if x.live=0 then max s.2 (pa p x)else s.2)
def eI(p:Int)(l:List aN):Int×Int:=l.foldl (tZ p) (0,0)
def ma(c:CV)(fl:List Int):Int×Int:=((eI c.ag (aY c fl)).1 -(eI c.ag (aY c fl)).2,(eI c.ag (aY c fl)).1)
theorem Ip{p:Int}{l:List aN}{i:Nat}{x:aN}(h:l[i]? =some x):eI p (l.take (i+1))=tZ p (eI p (l.take i)) x:=by
  rw[eI,List.take_add_one,h];simp[eI]
theorem Pc{c:CV}{n:Nat}{x:aN}(h:z8 c n x)(hk:bg c=true):0≤pa c.ag x∧pa c.ag x≤c.ag:=by
  have hd:=kL hk
  have:=h.z9;have:=h.Aa
  rw[pa];split<;>omega
theorem Iq{c:CV}{n:Nat}(hk:bg c=true)(l:List aN)(h: ∀x∈l,z8 c n x): ∀i,i≤l.length→0≤(eI c.ag (l.take i)).1∧(eI c.ag (l.take i)).1≤16*(i:Int)∧0≤(eI c.ag (l.take i)).2∧(eI c.ag (l.take i)).2≤16
  |0,_=>by simp[eI]
  |i+1,hi=>by
   obtain⟨x,hx⟩:=get_some (xs:=l) (i:=i) (by omega)
   have ih:=Iq hk l h i (by omega)
   have hr:=Pc (h x (List.mem_of_getElem? hx)) hk
   have hd:=kL hk
   rw[Ip hx,tZ]
   split
   ·omega
   ·refine⟨by simp only;omega,by simp only;omega,?_,?_⟩
    ·simp only;split<;>omega
    ·simp only;split<;>omega
open Go.aL
structure dq(x:WV):Prop where
 ai:bg x.v.ai=true
 len:4≤(x.v.ai.blocks.length:Int)
 ag:2≤x.v.ai.ag
 size:24≤x.v.ai.size
 last:x.v.last=0∨x.v.last=1
 gen:x.v.gen<281474976710656
 qS:gK x.v.ai x.v.at_
 qb:x.v.at_.length≤64
theorem dq.on{x:WV}(h:dq x){c:CV}(hk:bg c=true)(hl:eH x.v.ai c):dq (x.on c):=
 ⟨hk,by simp only[WV.on];rw[hl.len];exact h.len,by simp only[WV.on];rw[hl.ag];exact h.ag,by simp only[WV.on];rw[hl.size];exact h.size,h.last,h.gen,h.qS.jt hl,h.qb⟩
theorem dq.qc{x:WV}(h:dq x):4≤x.v.ai.blocks.length:=by have:=h.len;omega
def bS(c:CV)(last:Int):CV×Int×Int:=
 if 0<fy c last then(c,last,0)
 else if 0<fy c (1 -last)then(c,1 -last,0)
 else if(aO c (1 -last)).bad=true then(c,0,9)
 else(jb c (1 -last),1 -last,eD c (1 -last))
theorem Ir{c:CV}{b:Int}(h:0<fy c b):(aO c b).bad=false:=by
 rw[fy]at h;split at h
 ·
  omega
 ·
  rename_i hn;simpa using hn
theorem Is{c:CV}{last:Int}(hk:bg c=true)(hl:last=0∨last=1):bg (bS c last).1=true∧eH c (bS c last).1∧c.ops≤(bS c last).1.ops∧
  ((bS c last).2.2=0→((bS c last).2.1=0∨(bS c last).2.1=1)∧(aO (bS c last).1 (bS c last).2.1).bad=false):=by
 rw[bS]
 by_cases h1:0<fy c last
 ·
  rw[if_pos h1];exact⟨hk, .fZ c,Int.le_refl _,fun _=>⟨hl,Ir h1⟩⟩
 ·
  rw[if_neg h1]
  by_cases h2:0<fy c (1 -last)
  ·
   rw[if_pos h2];exact⟨hk, .fZ c,Int.le_refl _,fun _=>⟨by simp only;omega,Ir h2⟩⟩
  ·
   rw[if_neg h2]
   by_cases h3:(aO c (1 -last)).bad=true
   ·
    rw[if_pos h3];exact⟨hk, .fZ c,Int.le_refl _,fun h=>absurd (show(9:Int)=0 from h) (by decide)⟩
   ·
    rw[if_neg h3];exact⟨Dd hk _,De _ _,H4 _ _,fun h=>⟨by simp only;omega,Il h⟩⟩
def ng:Nat→WV→List Int→List UInt8→WV×Int
 |0,x,_,_=>(x,0)
 |n+1,x,a,b=>
  if(bS x.v.ai x.v.last).2.2≠0 then(x.on (bS x.v.ai x.v.last).1,(bS x.v.ai x.v.last).2.2)
  else if cq (bS x.v.ai x.v.last).1 (bS x.v.ai x.v.last).2.1 b=0 then
   (⟨⟨dh (bS x.v.ai x.v.last).1 (bS x.v.ai x.v.last).2.1 b,a,x.v.gen+1,if l6 (dh (bS x.v.ai x.v.last).1 (bS x.v.ai x.v.last).2.1 b) 1=x.v.gen+1 then 1 else(bS x.v.ai x.v.last).2.1⟩,x.beyond⟩,0)
  else if cq (bS x.v.ai x.v.last).1 (bS x.v.ai x.v.last).2.1 b≠9 then
   (x.on (dh (bS x.v.ai x.v.last).1 (bS x.v.ai x.v.last).2.1 b),cq (bS x.v.ai x.v.last).1 (bS x.v.ai x.v.last).2.1 b)
  else ng n (x.on (dh (bS x.v.ai x.v.last).1 (bS x.v.ai x.v.last).2.1 b)) a b
def iq(x:WV)(a:List Int):WV×Int:=
 if(dn ⟨x.v.gen+1,a⟩ x.v.ai.size).2≠0 then(x,(dn ⟨x.v.gen+1,a⟩ x.v.ai.size).2)
 else ng ((dJ -x.v.ai.ops).toNat+1) x a (dn ⟨x.v.gen+1,a⟩ x.v.ai.size).1
structure ie(x y:WV):Prop where
 ok:dq y
 jt:eH x.v.ai y.v.ai
 ops:x.v.ai.ops≤y.v.ai.ops
 vJ:y.v.at_.length=x.v.at_.length
theorem ie.fZ{x:WV}(h:dq x):ie x x:=⟨h, .fZ _,Int.le_refl _,rfl⟩
theorem ie.trans{x y z:WV}(h:ie x y)(g:ie y z):ie x z:=⟨g.ok,h.jt.trans g.jt,Int.le_trans h.ops g.ops,g.vJ.trans h.vJ⟩
theorem ie.on{x:WV}(h:dq x){c:CV}(hk:bg c=true)(hl:eH x.v.ai c)(ho:x.v.ai.ops≤c.ops):ie x (x.on c):=⟨h.on hk hl,hl,ho,rfl⟩
theorem Pd{r:RV}{n:Int}(h:(dn r n).2=0):r.gen<281474976710656∧(r.at_.length:Int)≤fY n:=by
 rw[dn]at h;split at h
 ·
  rename_i hm;have:=xv.1 hm;exact⟨this.2.1,this.2.2.1⟩
 ·
  cases h
theorem Pe(n:Int):fY n≤64:=by rw[fY];omega
theorem Iu: ∀(n:Nat) {x:WV} {a:List Int} {b:List UInt8},dq x→gK x.v.ai a→a.length=x.v.at_.length→x.v.gen+1<281474976710656→(dJ -x.v.ai.ops).toNat<n→ie x (ng n x a b).1∧((ng n x a b).2=0→x.v.ai.ops<(ng n x a b).1.v.ai.ops)
 |0,x,a,b,_,_,_,_,hn=>by omega
 |n+1,x,a,b,hx,ha,gZ,hg,hn=>by
  obtain⟨r1,r2,r3,r4⟩:=Is (c:=x.v.ai) (last:=x.v.last) hx.ai hx.last
  rw[ng]
  by_cases h0:(bS x.v.ai x.v.last).2.2≠0
  ·
   rw[if_pos h0];exact⟨.on hx r1 r2 r3,fun h=>absurd h h0⟩
  ·
   rw[if_neg h0]
   obtain⟨r5,r6⟩:=r4 (by simpa using h0)
   have jJ:=lg r1 (bS x.v.ai x.v.last).2.1 b
   have gh:=r2.trans (l5 (bS x.v.ai x.v.last).1 (bS x.v.ai x.v.last).2.1 b)
   have kt:=tW (bS x.v.ai x.v.last).1 (bS x.v.ai x.v.last).2.1 b
   by_cases h1:cq (bS x.v.ai x.v.last).1 (bS x.v.ai x.v.last).2.1 b=0
   ·
    rw[if_pos h1]
    have ho:=sg r6 (p:=b) (.inr h1)
    have ji:=hx.on jJ gh
    refine⟨⟨⟨jJ,ji.len,ji.ag,ji.size,?_,hg,ha.jt gh,by simp only;rw[gZ];exact hx.qb⟩,gh,by simp only;omega,gZ⟩,fun _=>by simp only;omega⟩
    simp only;split
    ·
     exact .inr rfl
    ·
     exact r5
   ·
    rw[if_neg h1]
    by_cases h9:cq (bS x.v.ai x.v.last).1 (bS x.v.ai x.v.last).2.1 b≠9
    ·
     rw[if_pos h9];exact⟨.on hx jJ gh (by omega),fun h=>absurd h h1⟩
    ·
     rw[if_neg h9]
     have ho:=sg r6 (p:=b) (.inl (by simpa using h9))
     have hle:=si jJ
     have ji:=hx.on jJ gh
     have:=Iu n (x:=x.on (dh (bS x.v.ai x.v.last).1 (bS x.v.ai x.v.last).2.1 b)) (a:=a) (b:=b) ji (ha.jt gh) gZ hg (by simp only[WV.on];omega)
     exact⟨(ie.on hx jJ gh (by omega)).trans this.1,fun h=>by
      have h2:(dh (bS x.v.ai x.v.last).1 (bS x.v.ai x.v.last).2.1 b).ops<_:=this.2 h
      omega⟩
theorem Iv{x:WV}{a:List Int}(hx:dq x)(ha:gK x.v.ai a)(gZ:a.length=x.v.at_.length):ie x (iq x a).1∧((iq x a).2=0→x.v.ai.ops<(iq x a).1.v.ai.ops):=by
 rw[iq];split
 ·
  rename_i h;exact⟨.fZ hx,fun h'=>absurd h' h⟩
 ·
  rename_i h
  have:=Pd (r:=⟨x.v.gen+1,a⟩) (n:=x.v.ai.size) (by simpa using h)
  exact Iu _ hx ha gZ this.1 (by omega)
def kM:Nat→Int→CV→CV×Int
 |0,_,c=>(c,0)
 |n+1,b,c=>if vH c b=false then kM n (b+1) c
  else if eD c b≠0∧eD c b≠9 then(jb c b,eD c b)else kM n (b+1) (jb c b)
def mb(c:CV)(b:Int)(ids:Nat):List UInt8×Int:=dn ⟨fc c b,List.replicate ids 0⟩ c.size
def Ae(c:CV)(b:Int)(ids:Nat)(g:Nat):VV:=⟨c,List.replicate ids 0,g,b⟩
def sj:Nat→Int→WV→Nat→WV×Int
 |0,_,x,_=>(x,9)
 |n+1,b,x,ids=>
  if(mb x.v.ai b ids).2≠0∨fy x.v.ai b=0 then sj n (b+1) x ids
  else if cq x.v.ai b (mb x.v.ai b ids).1=0 then(⟨Ae (dh x.v.ai b (mb x.v.ai b ids).1) b ids (fc x.v.ai b),x.beyond⟩,0)
  else if cq x.v.ai b (mb x.v.ai b ids).1≠9 then(x.on (dh x.v.ai b (mb x.v.ai b ids).1),cq x.v.ai b (mb x.v.ai b ids).1)
  else sj n (b+1) (x.on (dh x.v.ai b (mb x.v.ai b ids).1)) ids
def nU(x:WV)(ids:Nat):WV×Int:=
 if(kM x.v.ai.blocks.length 0 x.v.ai).2≠0 then(x.on (kM x.v.ai.blocks.length 0 x.v.ai).1,(kM x.v.ai.blocks.length 0 x.v.ai).2)
 else sj 2 0 (x.on (kM x.v.ai.blocks.length 0 x.v.ai).1) ids
open Go.aL
def vK(s:Int×Int)(i:Nat)(x:aN):Int×Int:=
 if x.bad=true∨x.live=0∨dJ≤x.bE then s else if s.2<x.used -x.live then((i:Int),x.used -x.live)else s
def jv(l:List aN):Nat→Int×Int
 |0=>(0,0)
 |k+1=>vK (jv l k) k (l.getD k hG)
def iI(l:List aN)(p:Int):Int×Bool:=if(qQ l p).2=true then((qQ l p).1,true)else((jv l l.length).1,decide (0<(jv l l.length).2))
theorem Dk(l:List aN): ∀k,0≤(jv l k).1∧0≤(jv l k).2∧(0<(jv l k).2→(jv l k).1<k)
 |0=>by simp[jv]
 |k+1=>by
  have:=Dk l k
  rw[jv,vK]
  split
  ·
   exact⟨this.1,this.2.1,fun h=>by have:=this.2.2 h;omega⟩
  ·
   split
   ·
    exact⟨by simp only;omega,by simp only;omega,fun _=>by simp only;omega⟩
   ·
    exact⟨this.1,this.2.1,fun h=>by have:=this.2.2 h;omega⟩
theorem Pf{l:List aN}{p:Int}(h:(iI l p).2=true):0≤(iI l p).1∧(iI l p).1<l.length:=by
 rw[iI]at h⊢
 split
 ·
  rename_i hv
  have:=z3 hv
  exact⟨this.2.1,this.2.2.1⟩
 ·
  rename_i hv
  rw[if_neg hv]at h
  have:=Dk l l.length
  exact⟨this.1,this.2.2 (by simpa using h)⟩
def ua(x:aN):Bool:=decide (x.used=0)
def ub(p:Int)(x:aN):Bool:=decide (x.used=p)
def uc(x:aN):Bool:=decide (x.bE<dJ)
def qd(c:CV)(l:List aN):Int×Bool:=fb (cB ua l) c.ag
def mc(c:CV)(l:List aN):Int×Bool:=fx (cB (ub c.ag) l) c.ag
def me(c:CV)(l:List aN):Int×Bool:=fx (cB uc l) c.ag
def cT(c:CV)(l:List aN):CV×Int×Int:=
 if(qd c l).2=true then(c,(qd c l).1+2,0)
 else if(mc c l).2=true then((dU c ((mc c l).1+2)).1,(mc c l).1+2,(dU c ((mc c l).1+2)).2)
 else if(me c l).2=true then((dU c ((me c l).1+2)).1,(me c l).1+2,(dU c ((me c l).1+2)).2)
 else(c,0,6)
def j9(c:CV)(l:List aN):Prop:=l.length=c.blocks.length -2∧ ∀(i:Nat) (x:aN),l[i]? =some x→x.bad=false→(aO c ((i:Int)+2)).bad=false
theorem Dl(c:CV)(fl:List Int):j9 c (aY c fl):=⟨oZ c fl,fun i x hx hb=>by rw[←z7 hx];exact hb⟩
theorem j9.set{c:CV}{l:List aN}(h:j9 c l)(i:Nat):j9 c (l.set i cd):=⟨by rw[List.length_set];exact h.1,fun j x hx hb=>by
 rw[List.getElem?_set]at hx
 split at hx
 ·
  split at hx
  ·
   obtain rfl:=Option.some.inj hx;cases hb
  ·
   cases hx
 ·
  exact h.2 j x hx hb⟩
theorem sk{c:CV}{R:aN→Bool}{l:List aN}{dF:aN→Bool}{os:List (aN→aN→Int)}(ht:j9 c l)(hr: ∀x,dF x=true→x.bad=false)(h:(fL (cB R l) c.ag dF os).2=true):
  0≤(fL (cB R l) c.ag dF os).1∧(fL (cB R l) c.ag dF os).1<((c.blocks.length -2:Nat):Int)∧(aO c ((fL (cB R l) c.ag dF os).1+2)).bad=false:=by
 obtain⟨x,hx,k1,_,_,k4,k5⟩:=Ac hr h
 rw[ht.1]at k5
 refine⟨k4,k5,?_⟩
 have:=ht.2 _ x hx k1
 rwa [show(((fL (cB R l) c.ag dF os).1.toNat:Nat):Int)=(fL (cB R l) c.ag dF os).1 by omega]at this
theorem Dm{c:CV}{l:List aN}(hk:bg c=true)(ht:j9 c l):bg (cT c l).1=true∧eH c (cT c l).1∧c.ops≤(cT c l).1.ops∧
  ((cT c l).2.2=0→2≤(cT c l).2.1∧(cT c l).2.1<c.blocks.length∧(aO (cT c l).1 (cT c l).2.1).bad=false)∧((cT c l).2.2=9→c.ops<(cT c l).1.ops)∧((cT c l).2.2=6→(cT c l).1=c):=by
 rw[cT]
 have e6: ∀{b:Int},(dU c b).2≠6:=fun{b}=>by
  have: ∀n {c:CV},(jd n c b).2≠6:=by
   intro n
   induction n with
   |zero=>
    intro c
    simp only[jd,eD]
    split
    ·
     split
     ·
      decide
     ·
      split
      ·
       decide
      ·
       split
       ·
        rw[mG];split<;>decide
       ·
        decide
    ·
     decide
   |succ n ih=>
    intro c
    rw[jd];split
    ·
     simp only[cq,kG]
     split
     ·
      split
      ·
       decide
      ·
       split
       ·
        decide
       ·
        split
        ·
         rw[mG];split<;>decide
        ·
         decide
     ·
      decide
    ·
     exact ih
  exact this _
 by_cases h1:(qd c l).2=true
 ·
  rw[if_pos h1]
  have:=sk ht (fun x h=>(xF h).1) h1
  change 0≤(qd c l).1∧(qd c l).1<_∧(aO c ((qd c l).1+2)).bad=false at this
  exact⟨hk, .fZ c,Int.le_refl _,fun _=>⟨by simp only;omega,by simp only;omega,this.2.2⟩,fun h=>absurd (show(0:Int)=9 from h) (by decide),fun h=>absurd (show(0:Int)=6 from h) (by decide)⟩
 ·
  rw[if_neg h1]
  by_cases h2:(mc c l).2=true
  ·
   rw[if_pos h2]
   have:=sk ht (fun x h=>(tX h).1) h2
   change 0≤(mc c l).1∧(mc c l).1<_∧(aO c ((mc c l).1+2)).bad=false at this
   have hc:=xD ((mc c l).1+2) hk
   exact⟨hc.1,hc.2,vG _ _ _,fun h=>⟨by simp only;omega,by simp only;omega,Ad _ h⟩,fun h=>z5 this.2.2 (.inl h),fun h=>absurd h e6⟩
  ·
   rw[if_neg h2]
   by_cases h3:(me c l).2=true
   ·
    rw[if_pos h3]
    have:=sk ht (fun x h=>(tX h).1) h3
    change 0≤(me c l).1∧(me c l).1<_∧(aO c ((me c l).1+2)).bad=false at this
    have hc:=xD ((me c l).1+2) hk
    exact⟨hc.1,hc.2,vG _ _ _,fun h=>⟨by simp only;omega,by simp only;omega,Ad _ h⟩,fun h=>z5 this.2.2 (.inl h),fun h=>absurd h e6⟩
   ·
    rw[if_neg h3]
    exact⟨hk, .fZ c,Int.le_refl _,fun h=>absurd (show(6:Int)=0 from h) (by decide),fun h=>absurd (show(6:Int)=9 from h) (by decide),fun _=>rfl⟩
def cC(c:CV)(a0 a:List Int)(src to:Int):Int×Bool:=
 if to<0 then(if(fb ((aY c (a0++a)).set (src -2).toNat cd) c.ag).2=true then((fb ((aY c (a0++a)).set (src -2).toNat cd) c.ag).1+2,true)else(0,false))else(to,true)
def fM(c:CV)(g id n:Int):List UInt8×Int:=dZ ⟨1,id,g.toNat,jI c n⟩ c.size
structure MV where
 c:CV
 a:List Int
 e:Option Int
def ei(v:VV)(src to:Int):List Int→Nat→CV→List Int→MV
 |[],_,c,a=>⟨c,a,none⟩
 |n::r,id,c,a=>
  if n=0∨(n -1)/v.ai.ag≠src then ei v src to r (id+1) c a
  else if(cC c v.at_ a src to).2=false then⟨c,a,some 6⟩
  else if(fM c ((v.gen:Int)+1) id n).2≠0 then⟨c,a,some (fM c ((v.gen:Int)+1) id n).2⟩
  else if cq c (cC c v.at_ a src to).1 (fM c ((v.gen:Int)+1) id n).1≠0 then
   ⟨dh c (cC c v.at_ a src to).1 (fM c ((v.gen:Int)+1) id n).1,a,some (kp (cq c (cC c v.at_ a src to).1 (fM c ((v.gen:Int)+1) id n).1))⟩
  else ei v src to r (id+1) (dh c (cC c v.at_ a src to).1 (fM c ((v.gen:Int)+1) id n).1) (a.set id ((cC c v.at_ a src to).1*v.ai.ag+(aO c (cC c v.at_ a src to).1).used+1))
def dv(x:WV)(src to:Int):WV×Bool×Int:=
 match(ei x.v src to x.v.at_ 0 x.v.ai x.v.at_).e with
 |some e=>(x.on (ei x.v src to x.v.at_ 0 x.v.ai x.v.at_).c,false,e)
 |none=>((iq (x.on (ei x.v src to x.v.at_ 0 x.v.ai x.v.at_).c) (ei x.v src to x.v.at_ 0 x.v.ai x.v.at_).a).1,decide ((iq (x.on (ei x.v src to x.v.at_ 0 x.v.ai x.v.at_).c) (ei x.v src to x.v.at_ 0 x.v.ai x.v.at_).a).2=0),(iq (x.on (ei x.v src to x.v.at_ 0 x.v.ai x.v.at_).c) (ei x.v src to x.v.at_ 0 x.v.ai x.v.at_).a).2)
theorem Dn{x:WV}{src to:Int}{c:CV}{a:List Int}{e:Int}(h:ei x.v src to x.v.at_ 0 x.v.ai x.v.at_=⟨c,a,some e⟩):dv x src to=(x.on c,false,e):=by
 rw[dv,h]
theorem Pg{x:WV}{src to:Int}{c:CV}{a:List Int}(h:ei x.v src to x.v.at_ 0 x.v.ai x.v.at_=⟨c,a,none⟩):dv x src to=((iq (x.on c) a).1,decide ((iq (x.on c) a).2=0),(iq (x.on c) a).2):=by
 rw[dv,h]
theorem Ph{c:CV}{a0 a:List Int}{src to:Int}(h:(cC c a0 a src to).2=true)(ht:0≤to→2≤to∧to<c.blocks.length∧(aO c to).bad=false):
  2≤(cC c a0 a src to).1∧(cC c a0 a src to).1<c.blocks.length∧(aO c (cC c a0 a src to).1).bad=false:=by
 rw[cC]at h⊢
 by_cases h1:to<0
 ·
  rw[if_pos h1]at h⊢
  by_cases h2:(fb ((aY c (a0++a)).set (src -2).toNat cd) c.ag).2=true
  ·
   rw[if_pos h2]
   have hT:=(Dl c (a0++a)).set (src -2).toNat
   obtain⟨k1,k2,k3,k4⟩:=z3 h2
   change 0≤(fb ((aY c (a0++a)).set (src -2).toNat cd) c.ag).1 at k2
   change(fb ((aY c (a0++a)).set (src -2).toNat cd) c.ag).1<_ at k3
   change pZ _ (List.getD _ (fb ((aY c (a0++a)).set (src -2).toNat cd) c.ag).1.toNat _)=true at k4
   rw[hT.1]at k3
   have hi:((aY c (a0++a)).set (src -2).toNat cd)[(fb ((aY c (a0++a)).set (src -2).toNat cd) c.ag).1.toNat]? =some _:=iU (d:=hG) (by rw[hT.1];omega)
   have:=hT.2 _ _ hi (xF k4).1
   rw[show(((fb ((aY c (a0++a)).set (src -2).toNat cd) c.ag).1.toNat:Nat):Int)=(fb ((aY c (a0++a)).set (src -2).toNat cd) c.ag).1 by omega]at this
   exact⟨by simp only;omega,by simp only;omega,this⟩
  ·
   rw[if_neg h2]at h;cases h
 ·
  rw[if_neg h1]
  exact ht (by omega)
theorem Af(c:CV)(b g:Int)(p:List UInt8):kG c b g p=0∨kG c b g p=1∨kG c b g p=7∨kG c b g p=9:=by
 rw[kG];split
 ·
  split
  ·
   omega
  ·
   split
   ·
    omega
   ·
    split
    ·
     rw[mG];split<;>omega
    ·
     omega
 ·
  omega
theorem Dp(p:PV)(n:Int):(dZ p n).2=0∨(dZ p n).2=1:=by
 rw[dZ];split<;>simp
theorem Iw{c:CV}{b:Int}{p:List UInt8}(h:cq c b p=0)(b':Int):(aO (dh c b p) b').bad=(aO c b').bad:=by
 obtain⟨h1,h2,h3,h4,h5⟩:=vF h
 have hh:=(oS.1 h1).1
 obtain⟨_,g2,g3⟩:=lX.1 hh
 rw[h5,pS]
 simp only[aO,List.getD,List.getElem?_set]
 by_cases e:b.toNat=b'.toNat
 ·
  rw[if_pos e,if_pos (by omega),e]
  simp
 ·
  rw[if_neg e]
theorem Dq{v:VV}{src to:Int}: ∀(l:List Int) (id:Nat) {c:CV} {a:List Int},bg c=true→eH v.ai c→v.ai.ops≤c.ops→gK v.ai a→(0≤to→2≤to∧to<c.blocks.length∧(aO c to).bad=false)→
  bg (ei v src to l id c a).c=true∧eH v.ai (ei v src to l id c a).c∧c.ops≤(ei v src to l id c a).c.ops∧gK v.ai (ei v src to l id c a).a∧(ei v src to l id c a).a.length=a.length∧
   ((ei v src to l id c a).e=some 0→c.ops<(ei v src to l id c a).c.ops)∧((ei v src to l id c a).e=some 6→ ∀b,(aO (ei v src to l id c a).c b).bad=(aO c b).bad)
 |[],id,c,a,hk,hl,ho,ha,ht=>⟨hk,hl,Int.le_refl _,ha,rfl,fun h=>by simp[ei]at h,fun h=>by simp[ei]at h⟩
 |n::r,id,c,a,hk,hl,ho,ha,ht=>by
  rw[ei]
  by_cases h1:n=0∨(n -1)/v.ai.ag≠src
  ·
   rw[if_pos h1];exact Dq r (id+1) hk hl ho ha ht
  ·
   rw[if_neg h1]
   by_cases h2:(cC c v.at_ a src to).2=false
   ·
    rw[if_pos h2];exact⟨hk,hl,Int.le_refl _,ha,rfl,fun h=>by simp at h,fun _ _=>rfl⟩
   ·
    rw[if_neg h2]
    obtain⟨m1,m2,m3⟩:=Ph (by simpa using h2) ht
    by_cases h3:(fM c ((v.gen:Int)+1) id n).2≠0
    ·
     rw[if_pos h3]
     have Dr:(fM c ((v.gen:Int)+1) id n).2=1:=(Dp _ _).resolve_left h3
     exact⟨hk,hl,Int.le_refl _,ha,rfl,fun h=>absurd (Option.some.inj h) h3,fun h=>absurd (Dr.symm.trans (Option.some.inj h)) (by decide)⟩
    ·
     rw[if_neg h3]
     by_cases h4:cq c (cC c v.at_ a src to).1 (fM c ((v.gen:Int)+1) id n).1≠0
     ·
      rw[if_pos h4]
      have fV:cq c (cC c v.at_ a src to).1 (fM c ((v.gen:Int)+1) id n).1=1∨cq c (cC c v.at_ a src to).1 (fM c ((v.gen:Int)+1) id n).1=7∨cq c (cC c v.at_ a src to).1 (fM c ((v.gen:Int)+1) id n).1=9:=(Af _ _ _ _).resolve_left h4
      refine⟨lg hk _ _,hl.trans (l5 _ _ _),tW _ _ _,ha,rfl,fun h=> ?_,fun h=> ?_⟩
      ·
       have h:=Option.some.inj h
       rw[kp]at h
       split at h
       ·
        rename_i h9
        have:=sg m3 (.inl h9)
        simp only;omega
       ·
        exact absurd h h4
      ·
       have h:=Option.some.inj h
       rw[kp]at h
       split at h
       ·
        cases h
       ·
        omega
     ·
      rw[if_neg h4]
      have vL:cq c (cC c v.at_ a src to).1 (fM c ((v.gen:Int)+1) id n).1=0:=by simpa using h4
      have jJ:=oS.1 (vF vL).1
      have hd:=kL hk
      have la:=hl.trans (l5 c (cC c v.at_ a src to).1 (fM c ((v.gen:Int)+1) id n).1)
      have eA:=sg m3 (p:=(fM c ((v.gen:Int)+1) id n).1) (.inr vL)
      have Pj:v.ai.ag=c.ag:=hl.ag.symm
      have ih:=Dq r (id+1) (src:=src) (to:=to) (lg hk (cC c v.at_ a src to).1 (fM c ((v.gen:Int)+1) id n).1) la (by omega) (a:=a.set id ((cC c v.at_ a src to).1*v.ai.ag+(aO c (cC c v.at_ a src to).1).used+1)) (fun y hy=>by
       rcases List.mem_or_eq_of_mem_set hy with hy|rfl
       ·
        exact ha y hy
       ·
        have hq:((cC c v.at_ a src to).1*v.ai.ag+(aO c (cC c v.at_ a src to).1).used+1 -1)/v.ai.ag=(cC c v.at_ a src to).1:=by
         rw[Pj,Int.add_sub_cancel,Int.add_comm,Int.add_mul_ediv_right _ _ (by omega),Int.ediv_eq_zero_of_lt jJ.2.1 jJ.2.2.1,Int.zero_add]
        have h0:0≤(cC c v.at_ a src to).1*v.ai.ag:=Int.mul_nonneg (by omega) (by omega)
        have:=jJ.2.1
        exact .inr ⟨by omega,by rw[hq];exact m1,by rw[hq,←hl.len];exact m2⟩) (fun h=>by
       have:=ht h
       rw[(l5 c _ _).len,Iw vL]
       exact this)
      obtain⟨i1,i2,i3,i4,i5,i6,i7⟩:=ih
      refine⟨i1,i2,by omega,i4,by rw[i5,List.length_set],fun h=>by have:=i6 h;omega,fun h b=> ?_⟩
      rw[i7 h b,Iw vL]
theorem Ix(c:CV)(b:Int):eD c b=0∨eD c b=1∨eD c b=7∨eD c b=9:=by
 rw[eD];split
 ·
  split
  ·
   omega
  ·
   split
   ·
    omega
   ·
    split
    ·
     rw[mG];split<;>omega
    ·
     omega
 ·
  omega
theorem Pk(c:CV)(l:Int):(bS c l).2.2=0∨(bS c l).2.2=1∨(bS c l).2.2=7∨(bS c l).2.2=9:=by
 rw[bS]
 split
 ·
  exact .inl rfl
 ·
  split
  ·
   exact .inl rfl
  ·
   split
   ·
    exact .inr (.inr (.inr rfl))
   ·
    exact Ix _ _
theorem Iy: ∀(n:Nat) (y:WV) (a:List Int) (b:List UInt8),(ng n y a b).2≠6
 |0,y,a,b=>by simp[ng]
 |n+1,y,a,b=>by
  rw[ng]
  split
  ·
   have:=Pk y.v.ai y.v.last
   simp only;omega
  ·
   split
   ·
    simp
   ·
    split
    ·
     have:=Af (bS y.v.ai y.v.last).1 (bS y.v.ai y.v.last).2.1 (aO (bS y.v.ai y.v.last).1 (bS y.v.ai y.v.last).2.1).used b
     simp only[cq];omega
    ·
     exact Iy n _ _ _
theorem Iz(y:WV)(a:List Int):(iq y a).2≠6:=by
 rw[iq]
 split
 ·
  rw[dn]
  split
  ·
   have:=Dp ⟨2,max 0 ((a.length:Int) -1),y.v.gen+1,iY a⟩ y.v.ai.size
   simp only;omega
  ·
   simp
 ·
  exact Iy _ _ _ _
theorem Ds{x:WV}{src to:Int}(hx:dq x)(ht:0≤to→2≤to∧to<x.v.ai.blocks.length∧(aO x.v.ai to).bad=false):
  ie x (dv x src to).1∧((dv x src to).2.2=0→x.v.ai.ops<(dv x src to).1.v.ai.ops)∧((dv x src to).2.1=true→(dv x src to).2.2=0)∧((dv x src to).2.1=false∧(dv x src to).2.2=6→ ∀b,(aO (dv x src to).1.v.ai b).bad=(aO x.v.ai b).bad):=by
 obtain⟨h1,h2,h3,h4,h5,h6,h7⟩:=Dq x.v.at_ 0 (src:=src) hx.ai (.fZ _) (Int.le_refl _) hx.qS ht
 rw[dv]
 split
 ·
  rename_i e he
  refine⟨.on hx h1 h2 h3,fun h=>h6 (by rw[he];exact congrArg some h),fun h=>absurd (show false=true from h) (by simp),fun h b=>h7 (by rw[he];exact congrArg some h.2) b⟩
 ·
  rename_i he
  have ji:=hx.on h1 h2
  have hw:=Iv ji (a:=(ei x.v src to x.v.at_ 0 x.v.ai x.v.at_).a) (h4.jt h2) h5
  refine⟨(ie.on hx h1 h2 h3).trans hw.1,fun h=> ?_,fun h=>by simpa using h,fun h=> ?_⟩
  ·
   have g:(ei x.v src to x.v.at_ 0 x.v.ai x.v.at_).c.ops<_:=hw.2 h
   simp only;omega
  ·
   exact absurd h.2 (Iz _ _)
open Go.aL
theorem IA: ∀(n:Nat) (c:CV) (b:Int),(jd n c b).2≠6
 |0,c,b=>by have:=Ix c b;simp only[jd];omega
 |n+1,c,b=>by
  rw[jd];split
  ·
   have:=Af c b (aO c b).used (jc c);simp only[cq];omega
  ·
   exact IA n _ _
theorem Pm(c:CV)(b:Int):(dU c b).2≠6:=IA _ _ _
def ud(c:CV)(l:List aN)(i:Int):Bool:=decide ((cT c (l.set i.toNat cd)).2.2=6)&&decide ((l.getD i.toNat hG).live≤xC (l.set i.toNat cd) c.ag)
def df(c:CV)(l:List aN)(i:Int):Int×Int:=if ud c l i=true then(-1,0)else(cT c (l.set i.toNat cd)).2
def iJ(x:WV)(l:List aN)(i:Int):WV×Int:=
 if(df x.v.ai l i).2≠0 then(x.on (cT x.v.ai (l.set i.toNat cd)).1,kp (df x.v.ai l i).2)
 else if(dv (x.on (cT x.v.ai (l.set i.toNat cd)).1) (i+2) (df x.v.ai l i).1).2.1=false∨(l.getD i.toNat hG).used=x.v.ai.ag then
  ((dv (x.on (cT x.v.ai (l.set i.toNat cd)).1) (i+2) (df x.v.ai l i).1).1,(dv (x.on (cT x.v.ai (l.set i.toNat cd)).1) (i+2) (df x.v.ai l i).1).2.2)
 else((dv (x.on (cT x.v.ai (l.set i.toNat cd)).1) (i+2) (df x.v.ai l i).1).1.on (dU (dv (x.on (cT x.v.ai (l.set i.toNat cd)).1) (i+2) (df x.v.ai l i).1).1.v.ai (i+2)).1,
  kp (dU (dv (x.on (cT x.v.ai (l.set i.toNat cd)).1) (i+2) (df x.v.ai l i).1).1.v.ai (i+2)).2)
theorem IB{e:Int}(h:kp e=0):e=0∨e=9:=by
 rw[kp]at h;split at h
 ·
  exact .inr (by assumption)
 ·
  exact .inl h
theorem Dt{e:Int}(h:kp e=6):e=6:=by
 rw[kp]at h;split at h
 ·
  cases h
 ·
  exact h
theorem Du{c:CV}{l:List aN}{i:Int}(hk:bg c=true)(ht:j9 c l):(df c l i).2=0→0≤(df c l i).1→2≤(df c l i).1∧(df c l i).1<c.blocks.length∧(aO (cT c (l.set i.toNat cd)).1 (df c l i).1).bad=false:=by
 intro h h0
 rw[df]at h h0⊢
 split at h
 ·
  rename_i ha;rw[if_pos ha]at h0;exact absurd (show(0:Int)≤ -1 from h0) (by decide)
 ·
  rename_i ha;rw[if_neg ha];exact(Dm hk (ht.set i.toNat)).2.2.2.1 h
theorem Pn{x:WV}{src to:Int}(hx:dq x)(ht:0≤to→2≤to∧to<x.v.ai.blocks.length∧(aO x.v.ai to).bad=false):dq (dv x src to).1∧eH x.v.ai (dv x src to).1.v.ai:=
 ⟨(Ds hx ht).1.ok,(Ds hx ht).1.jt⟩
theorem IC{x:WV}{l:List aN}{i:Int}(hx:dq x)(ht:j9 x.v.ai l):
  ie x (iJ x l i).1∧((iJ x l i).2=0→x.v.ai.ops<(iJ x l i).1.v.ai.ops)∧((iJ x l i).2=6→ ∀b,(aO (iJ x l i).1.v.ai b).bad=(aO x.v.ai b).bad):=by
 obtain⟨t1,t2,t3,t4,t5,t6⟩:=Dm hx.ai (ht.set i.toNat)
 have hn:=ie.on hx t1 t2 t3
 rw[iJ]
 by_cases h0:(df x.v.ai l i).2≠0
 ·
  rw[if_pos h0]
  have he:(df x.v.ai l i).2=(cT x.v.ai (l.set i.toNat cd)).2.2:=by
   rw[df]at h0⊢
   split at h0
   ·
    exact absurd rfl h0
   ·
    rename_i ha;rw[if_neg ha]
  refine⟨hn,fun h=> ?_,fun h b=> ?_⟩
  ·
   rcases IB h with g|g
   ·
    exact absurd g h0
   ·
    exact t5 (he▸g)
  ·
   have:=t6 (he▸Dt h)
   simp only[WV.on];rw[this]
 ·
  rw[if_neg h0]
  have qJ:(df x.v.ai l i).2=0:=by simpa using h0
  have hr:=Du (i:=i) hx.ai ht qJ
  obtain⟨m1,m2,m3,m4⟩:=Ds (x:=x.on (cT x.v.ai (l.set i.toNat cd)).1) (src:=i+2) (to:=(df x.v.ai l i).1) hn.ok (fun h=>by
   have:=hr h
   exact⟨this.1,by simp only[WV.on];rw[t2.len];exact this.2.1,this.2.2⟩)
  have hb:(df x.v.ai l i).2=0→(cT x.v.ai (l.set i.toNat cd)).2.2=6→(cT x.v.ai (l.set i.toNat cd)).1=x.v.ai:=fun _ h=>t6 h
  by_cases h1:(dv (x.on (cT x.v.ai (l.set i.toNat cd)).1) (i+2) (df x.v.ai l i).1).2.1=false∨(l.getD i.toNat hG).used=x.v.ai.ag
  ·
   rw[if_pos h1]
   refine⟨hn.trans m1,fun h=> ?_,fun h b=> ?_⟩
   ·
    have g:(cT x.v.ai (l.set i.toNat cd)).1.ops<_:=m2 h
    simp only;omega
   ·
    have hf:(dv (x.on (cT x.v.ai (l.set i.toNat cd)).1) (i+2) (df x.v.ai l i).1).2.1=false:=by
     cases hq:(dv (x.on (cT x.v.ai (l.set i.toNat cd)).1) (i+2) (df x.v.ai l i).1).2.1 with
     |false=>rfl
     |true=>have:=m3 hq;exact absurd (this.symm.trans h) (by decide)
    rw[m4 ⟨hf,h⟩ b]
    by_cases ha:ud x.v.ai l i=true
    ·
     simp only[ud,Bool.and_eq_true,decide_eq_true_eq]at ha
     simp only[WV.on];rw[t6 ha.1]
    ·
     exact absurd h (Po (by
      have:(df x.v.ai l i).1=(cT x.v.ai (l.set i.toNat cd)).2.1:=by rw[df,if_neg ha]
      have g:(cT x.v.ai (l.set i.toNat cd)).2.2=0:=by
       rw[df,if_neg ha]at qJ;exact qJ
      have:=(t4 g).1
      omega))
  ·
   rw[if_neg h1]
   have hm:(dv (x.on (cT x.v.ai (l.set i.toNat cd)).1) (i+2) (df x.v.ai l i).1).2.1=true:=by
    cases hq:(dv (x.on (cT x.v.ai (l.set i.toNat cd)).1) (i+2) (df x.v.ai l i).1).2.1 with
    |true=>rfl
    |false=>exact absurd (.inl hq) h1
   have hz:=m2 (m3 hm)
   have hc:=xD (i+2) m1.ok.ai
   have ho:=vG (fy (dv (x.on (cT x.v.ai (l.set i.toNat cd)).1) (i+2) (df x.v.ai l i).1).1.v.ai (i+2)).toNat (dv (x.on (cT x.v.ai (l.set i.toNat cd)).1) (i+2) (df x.v.ai l i).1).1.v.ai (i+2)
   refine⟨(hn.trans m1).trans (.on m1.ok hc.1 hc.2 ho),fun _=> ?_,fun h=>absurd (Dt h) (Pm _ _)⟩
   have g:(cT x.v.ai (l.set i.toNat cd)).1.ops<_:=hz
   have g2:(dv (x.on (cT x.v.ai (l.set i.toNat cd)).1) (i+2) (df x.v.ai l i).1).1.v.ai.ops≤(dU (dv (x.on (cT x.v.ai (l.set i.toNat cd)).1) (i+2) (df x.v.ai l i).1).1.v.ai (i+2)).1.ops:=ho
   simp only[WV.on]at*;omega
where
 Po {x:WV} {src to:Int} (h:0≤to):(dv x src to).2.2≠6:=by
  have key: ∀(l:List Int) (id:Nat) (c:CV) (a:List Int),(ei x.v src to l id c a).e≠some 6:=by
   intro l
   induction l with
   |nil=>intro id c a;simp[ei]
   |cons n r ih=>
    intro id c a
    rw[ei]
    split
    ·
     exact ih _ _ _
    ·
     split
     ·
      rename_i h2;rw[cC,if_neg (by omega)]at h2;cases h2
     ·
      split
      ·
       rename_i h3
       have:=(Dp ⟨1,id,((x.v.gen:Int)+1).toNat,jI c n⟩ c.size).resolve_left h3
       intro h;have h:=Option.some.inj h;rw[fM]at h;omega
      ·
       split
       ·
        intro h
        have h:=Dt (Option.some.inj h)
        have:=Af c (cC c x.v.at_ a src to).1 (aO c (cC c x.v.at_ a src to).1).used (fM c ((x.v.gen:Int)+1) id n).1
        rw[cq]at h;omega
       ·
        exact ih _ _ _
  rw[dv]
  split
  ·
   rename_i e he
   intro h
   exact key _ _ _ _ (by rw[he];exact congrArg some h)
  ·
   exact Iz _ _
def nV(p:Int)(x:aN):Bool:=decide (x.used<p)&&decide (x.bE<dJ)
def sm(c:CV)(l:List aN):Int×Bool:=fx (cB (nV c.ag) l) c.ag
def nh(x:WV)(l:List aN):WV×Int:=
 if(sm x.v.ai l).2=false then(x,6)else(x.on (dU x.v.ai ((sm x.v.ai l).1+2)).1,kp (dU x.v.ai ((sm x.v.ai l).1+2)).2)
def qT(x:WV):List aN:=aY x.v.ai x.v.at_
def vM(x:WV):Int×Bool:=iI (qT x) x.v.ai.ag
def fN(x:WV):WV×Int:=
 if(vM x).2=true∧vI x.v.gen=false then
  (if(iJ x (qT x) (vM x).1).2≠6 then iJ x (qT x) (vM x).1 else nh (iJ x (qT x) (vM x).1).1 (qT x))
 else nh x (qT x)
theorem j9.jt{c d:CV}{l:List aN}(h:j9 c l)(hl:eH c d)(hb: ∀b,(aO d b).bad=(aO c b).bad):j9 d l:=⟨by rw[h.1,hl.len],fun i x hx m8=>by rw[hb];exact h.2 i x hx m8⟩
theorem ID{x:WV}{l:List aN}(hx:dq x)(ht:j9 x.v.ai l):ie x (nh x l).1∧((nh x l).2=0→x.v.ai.ops<(nh x l).1.v.ai.ops):=by
 rw[nh];split
 ·
  exact⟨.fZ hx,fun h=>absurd (show(6:Int)=0 from h) (by decide)⟩
 ·
  rename_i h
  have hd:=sk ht (fun x h=>(tX h).1) (show(sm x.v.ai l).2=true by simpa using h)
  change 0≤(sm x.v.ai l).1∧(sm x.v.ai l).1<_∧(aO x.v.ai ((sm x.v.ai l).1+2)).bad=false at hd
  have hc:=xD ((sm x.v.ai l).1+2) hx.ai
  exact⟨.on hx hc.1 hc.2 (vG _ _ _),fun h=>z5 hd.2.2 (IB h).symm⟩
theorem IE{x:WV}(hx:dq x):ie x (fN x).1∧((fN x).2=0→x.v.ai.ops<(fN x).1.v.ai.ops):=by
 have ht:j9 x.v.ai (qT x):=Dl _ _
 rw[fN];split
 ·
  obtain⟨r1,r2,r3⟩:=IC (i:=(vM x).1) hx ht
  split
  ·
   exact⟨r1,r2⟩
  ·
   rename_i h6
   have Pp:(iJ x (qT x) (vM x).1).2=6:=by simpa using h6
   have:=ID r1.ok (ht.jt r1.jt (r3 Pp))
   exact⟨r1.trans this.1,fun h=>by have:=this.2 h;have:=r1.ops;omega⟩
 ·
  exact ID hx ht
def ue:Nat→WV→Int→WV×Int
 |0,x,_=>(x,0)
 |n+1,x,need=>
  if need≤(ma x.v.ai x.v.at_).1 then(x,0)
  else if need≤(ma x.v.ai x.v.at_).2∧sh x.v.ai x.v.last<2 then({x with beyond:=true},0)
  else if(fN x).2=0 then ue n (fN x).1 need
  else if(fN x).2≠6 then fN x
  else if need≤(ma x.v.ai x.v.at_).2 then({(fN x).1 with beyond:=true},0)
  else((fN x).1,5)
def ni(x:WV)(need:Int):WV×Int:=ue ((dJ -x.v.ai.ops).toNat+1) x need
theorem dq.by{x:WV}(h:dq x)(b:Bool):dq {x with beyond:=b}:=⟨h.ai,h.len,h.ag,h.size,h.last,h.gen,h.qS,h.qb⟩
theorem ie.by{x y:WV}(h:ie x y)(b:Bool):ie x {y with beyond:=b}:=⟨h.ok.by b,h.jt,h.ops,h.vJ⟩
theorem IF: ∀(n:Nat) {x:WV} {need:Int},dq x→ie x (ue n x need).1
 |0,x,need,hx=> .fZ hx
 |n+1,x,need,hx=>by
  have hc:=IE hx
  rw[ue]
  split
  ·
   exact .fZ hx
  ·
   split
   ·
    exact(ie.fZ hx).by true
   ·
    split
    ·
     exact hc.1.trans (IF n hc.1.ok)
    ·
     split
     ·
      exact hc.1
     ·
      split
      ·
       exact hc.1.by true
      ·
       exact hc.1
theorem Pq{x:WV}{need:Int}(hx:dq x):ie x (ni x need).1:=IF _ hx
def br(x:It):Int×List UInt8:=(x.id,x.body.xs)
def vN(l:List (Int×List UInt8)):Nat:=(l.filter fun x=>decide (0<x.2.length)).length
theorem Pr{l:List (Int×List UInt8)}{i:Nat}{x:Int×List UInt8}(h:l[i]? =some x):((l.take (i+1)).filter fun x=>decide (0<x.2.length)).length=((l.take i).filter fun x=>decide (0<x.2.length)).length+(if 0<x.2.length then 1 else 0):=by
 rw[List.take_add_one,h,List.filter_append,List.length_append]
 congr 1
 simp only[Option.toList_some,List.filter_cons,List.filter_nil]
 split<;>simp_all
def je(v:VV)(x:Int×List UInt8):PV:=⟨1,x.1,v.gen+1,x.2⟩
def mJ(v:VV)(bA:Bool):List (Int×List UInt8)→CV→List Int→CV×List Int×Int
 |[],c,a=>(c,a,0)
 |x::r,c,a=>
  if x.2.length=0 then mJ v bA r c (a.set x.1.toNat 0)
  else if(dL c (v.at_++a) bA (je v x)).2.2≠0 then((dL c (v.at_++a) bA (je v x)).1,a,(dL c (v.at_++a) bA (je v x)).2.2)
  else mJ v bA r (dL c (v.at_++a) bA (je v x)).1 (a.set x.1.toNat (dL c (v.at_++a) bA (je v x)).2.1)
def ka(x:WV)(l:List (Int×List UInt8)):WV×Int:=ni {x with beyond:=false} (vN l)
def qU(x:WV)(l:List (Int×List UInt8)):CV×List Int×Int:=mJ (ka x l).1.v (ka x l).1.beyond l (ka x l).1.v.ai (ka x l).1.v.at_
def jw(x:WV)(l:List (Int×List UInt8)):WV×Int:=
 if(ka x l).2≠0 then ka x l
 else if(qU x l).2.2≠0 then((ka x l).1.on (qU x l).1,(qU x l).2.2)
 else iq ((ka x l).1.on (qU x l).1) (qU x l).2.1
theorem Dv{v:VV}{bA:Bool}: ∀(l:List (Int×List UInt8)) {c:CV} {a:List Int},bg c=true→3≤c.blocks.length→gK c a→
  bg (mJ v bA l c a).1=true∧eH c (mJ v bA l c a).1∧c.ops≤(mJ v bA l c a).1.ops∧gK c (mJ v bA l c a).2.1∧(mJ v bA l c a).2.1.length=a.length
 |[],c,a,hk,h2,ha=>⟨hk, .fZ c,Int.le_refl _,ha,rfl⟩
 |x::r,c,a,hk,h2,ha=>by
  rw[mJ]
  split
  ·
   have:=Dv r (v:=v) (bA:=bA) hk h2 (a:=a.set x.1.toNat 0) (fun y hy=>by
    rcases List.mem_or_eq_of_mem_set hy with hy|rfl
    ·
     exact ha y hy
    ·
     exact .inl rfl)
   rwa [List.length_set]at this
  ·
   obtain⟨p1,p2,p3,p4⟩:=Io (fl:=v.at_++a) (bA:=bA) (p:=je v x) hk h2
   split
   ·
    exact⟨p1,p2,p3,ha,rfl⟩
   ·
    rename_i h0
    have p5:=p4 (by simpa using h0)
    have:=Dv r (v:=v) (bA:=bA) p1 (by rw[p2.len];exact h2) (a:=a.set x.1.toNat (dL c (v.at_++a) bA (je v x)).2.1) (fun y hy=>by
     rw[p2.ag,p2.len]
     rcases List.mem_or_eq_of_mem_set hy with hy|rfl
     ·
      exact ha y hy
     ·
      exact .inr p5)
    obtain⟨i1,i2,i3,i4,i5⟩:=this
    refine⟨i1,p2.trans i2,by omega,fun y hy=> ?_,by rw[i5,List.length_set]⟩
    have:=i4 y hy
    rwa [p2.ag,p2.len]at this
theorem IG{x:WV}{l:List (Int×List UInt8)}(hx:dq x):ie x (ka x l).1:=by
 have:=Pq (need:=vN l) (hx.by false)
 exact⟨this.ok,this.jt,this.ops,this.vJ⟩
theorem Ps{x:WV}{l:List (Int×List UInt8)}(hx:dq x):ie x (jw x l).1:=by
 have hs:=IG (l:=l) hx
 rw[jw];split
 ·
  exact hs
 ·
  have hl:=hs.ok.qc
  obtain⟨i1,i2,i3,i4,i5⟩:=Dv (v:=(ka x l).1.v) (bA:=(ka x l).1.beyond) l hs.ok.ai (by omega) hs.ok.qS
  have ji:=hs.trans (.on hs.ok i1 i2 i3)
  split
  ·
   exact ji
  ·
   exact ji.trans (Iv ji.ok (i4.jt i2) i5).1
def qe:Nat→WV→List (Int×List UInt8)→WV×Int
 |0,x,_=>(x,0)
 |n+1,x,l=>if(jw x l).2=5∧kK x.v.ai<kK (jw x l).1.v.ai then qe n (jw x l).1 l else jw x l
theorem Pt(c:CV):kK c≤c.blocks.length:=List.length_filter_le _ _
def sq(v:VV)(x:Int×List UInt8):Bool:=decide (0≤x.1)&&decide (x.1<(v.at_.length:Int))&&decide ((x.2.length:Int)≤du v.ai.size)
def sr(v:VV)(l:List (Int×List UInt8))(i:Nat):Bool:=sq v (l.getD i (0,[]))&& !((l.take i).map Prod.fst).contains (l.getD i (0,[])).1
def pb(v:VV)(l:List (Int×List UInt8)):Bool:=(List.range l.length).all (sr v l)
theorem Dw{v:VV}{l:List (Int×List UInt8)}:pb v l=true↔ ∀i,i<l.length→sr v l i=true:=by simp only[pb,List.all_eq_true,List.mem_range]
def qf(l:List Int)(i:Nat):Int→Option Unit:=fun x=>if x∈l.take i then some ()else none
theorem IH{l:List Int}{i:Nat}{x:Int}:(qf l i x).isSome=decide (x∈l.take i):=by
 unfold qf;split<;>simp_all
theorem Pu{l:List Int}:(fun _=>none)=qf l 0:=by
 funext x;simp[qf]
theorem Pv{l:List Int}{i:Nat}{y:Int}(h:l[i]? =some y):(fun z=>if z=y then some ()else qf l i z)=qf l (i+1):=by
 funext x
 unfold qf
 rw[List.take_add_one,h]
 by_cases hx:x=y
 ·
  subst hx;simp
 ·
  simp[hx]
def gv(v:VV)(l:List (Int×List UInt8)):VV×Int:=
 if ¬(gJ v=true∧v.gen<281474976710655∧pb v l=true)then(v,1)
 else if v.ai.off=true then(v,7)
 else((qe (v.ai.blocks.length+1) ⟨v,false⟩ l).1.v,(qe (v.ai.blocks.length+1) ⟨v,false⟩ l).2)
def qV(b p:Int):Int:=if b<4∨32<b∨p<1∨16<p then 0 else(b -4)*p
def lh(c:CV)(ids:Int):WV×Int:=nU ⟨⟨c,[],0,0⟩,false⟩ ids.toNat
def kN(c:CV)(ids:Int):VV×Int:=
 if ¬(iH c=true∧1≤ids∧ids≤fY c.size)then(⟨c,[],0,0⟩,1)
 else if c.off=true then(⟨c,[],0,0⟩,7)
 else if(lh c ids).2≠0 then(⟨(lh c ids).1.v.ai,[],0,0⟩,(lh c ids).2)
 else((lh c ids).1.v,0)
theorem Pw{b:List UInt8}:(bJ b).1.at_.length≤64∧(bJ b).1.gen<281474976710656:=by
 rw[bJ]
 split
 ·
  simp[eN]
 ·
  rename_i h1
  split
  ·
   simp[eN]
  ·
   rename_i h2
   split
   ·
    simp[eN]
   ·
    rename_i h3
    have hf:m7 (bm b).1=true:=by simpa using h3
    simp only[m7,Bool.and_eq_true,decide_eq_true_eq]at hf
    refine⟨?_,H6 b⟩
    have su:(bm b).1.id<64:=by
     have pc:(bm b).2=0:=by simpa using h1
     rw[bm]at pc h2⊢
     by_cases g1:jq b.length=false
     ·
      rw[if_pos g1]at pc;cases pc
     ·
      rw[if_neg g1]at pc h2⊢
      by_cases g2:eW b=true
      ·
       rw[if_pos g2]at h2;exact absurd rfl h2
      ·
       rw[if_neg g2]at pc h2⊢
       by_cases g3:de (pV b)≠gp (hH b)
       ·
        rw[if_pos g3]at pc;cases pc
       ·
        rw[if_neg g3]at pc h2⊢
        by_cases g4:iX b=false
        ·
         rw[if_pos g4]at pc;cases pc
        ·
         rw[if_neg g4]at pc h2⊢
         have g5:iX b=true:=by simpa using g4
         simp only[iX,Bool.and_eq_true]at g5
         have:=(zU.1 g5.2).2.2.2.1
         split
         ·
          simp[gq]
         ·
          exact this
    simp only[zZ]
    omega
theorem II(l:List (List UInt8)): ∀k,(cY l k).new.at_.length≤64∧(cY l k).new.gen<281474976710656
 |0=>by simp[cY,eN]
 |k+1=>by
  rw[cY,tU]
  split
  ·
   exact Pw
  ·
   exact II l k
theorem IJ(l:List (List UInt8)):(c0 l).2.1.at_.length≤64∧(c0 l).2.1.gen<281474976710656:=by
 rw[c0]
 split
 ·
  exact II _ _
 ·
  split<;>simp[eN]
theorem Dx{v:VV}{b:Bool}(h:gJ v=true):dq ⟨v,b⟩:=by
 have hr:=vz h
 have ha:= @C7 v h
 simp only[gJ,Bool.and_eq_true,decide_eq_true_eq]at h
 obtain⟨⟨⟨h1,h2⟩,h3⟩,h4⟩:=h
 obtain⟨hb,hl,hf⟩:=C6 h1
 obtain⟨b1,b2,b3,b4⟩:=vu.1 hb
 have vO:=IJ ((aO {v.ai with off:=false} 0).ag++(aO {v.ai with off:=false} 1).ag)
 rw[hf]at h2 h3 h4
 simp only at h2 h3 h4
 have hd:=kL hr.1
 have qa:4≤(v.ai.blocks.length:Int):=b2
 refine⟨hr.1,b2,b3,b4,?_,by rw[←h2];exact vO.2,fun n hn=> ?_,by rw[←h4];exact vO.1⟩
 ·
  rw[←h3]
  have XK:=eM.1 (xE hr.1 (b:=0) (by omega) (by omega))
  have XL:=eM.1 (xE hr.1 (b:=1) (by omega) (by omega))
  have hlen:((aO v.ai 0).ag++(aO v.ai 1).ag).length=(aO v.ai 0).ag.length+(aO v.ai 1).ag.length:=List.length_append
  have mK:=C1 (l:=(aO v.ai 0).ag++(aO v.ai 1).ag) (by rw[hlen];omega)
  change 0≤(cG {v.ai with off:=false}).1∧(cG {v.ai with off:=false}).1<_ at mK
  rw[hlen]at mK
  have g0:0≤(cG {v.ai with off:=false}).1/v.ai.ag:=Int.ediv_nonneg mK.1 (by omega)
  have g1:(cG {v.ai with off:=false}).1/v.ai.ag<2:=Int.ediv_lt_of_lt_mul (by omega) (by
   have h9:(cG {v.ai with off:=false}).1<(((aO v.ai 0).ag.length+(aO v.ai 1).ag.length:Nat):Int):=mK.2
   omega)
  change(cG {v.ai with off:=false}).1/v.ai.ag=0∨(cG {v.ai with off:=false}).1/v.ai.ag=1
  omega
 ·
  by_cases h0:n=0
  ·
   exact .inl h0
  ·
   obtain⟨i,hi⟩:=List.getElem?_of_mem hn
   have:=ha hi h0
   have hp:=tV.1 this.2.2
   exact .inr ⟨this.1,hp.1,hp.2.1⟩
open Go.aL
def IK(b:BV):Bool:=decide (b.ag.length≤20)&&b.ag.all fun p=>decide (p.length≤300)
def nW(c:CV):Bool:=decide (c.blocks.length≤40)&&decide (c.bc.length≤80)&&c.blocks.all IK
theorem Dy{c:CV}:nW c=true↔c.blocks.length≤40∧c.bc.length≤80∧ ∀b∈c.blocks,b.ag.length≤20∧ ∀p∈b.ag,p.length≤300:=by
 simp only[nW,IK,Bool.and_eq_true,decide_eq_true_eq,List.all_eq_true,and_assoc]
theorem Dz{a b:BV}:a=b↔a.used=b.used∧a.bE=b.bE∧a.bad=b.bad∧a.ag=b.ag:=by
 constructor
 ·
  rintro rfl;exact⟨rfl,rfl,rfl,rfl⟩
 ·
  rintro⟨h1,h2,h3,h4⟩
  obtain⟨a1,a2,a3,a4⟩:=a
  obtain⟨b1,b2,b3,b4⟩:=b
  simp only at h1 h2 h3 h4
  subst h1 h2 h3 h4;rfl
theorem Ag{a b:CV}:a=b↔a.ag=b.ag∧a.size=b.size∧a.ops=b.ops∧a.off=b.off∧a.blocks=b.blocks∧a.bc=b.bc:=by
 constructor
 ·
  rintro rfl;exact⟨rfl,rfl,rfl,rfl,rfl,rfl⟩
 ·
  rintro⟨h1,h2,h3,h4,h5,h6⟩
  obtain⟨a1,a2,a3,a4,a5,a6⟩:=a
  obtain⟨b1,b2,b3,b4,b5,b6⟩:=b
  simp only at h1 h2 h3 h4 h5 h6
  subst h1 h2 h3 h4 h5 h6;rfl
theorem Ah{α:Type}{a b:List α}(hl:a.length=b.length)(h: ∀j,j<a.length→a[j]? =b[j]?):a=b:=List.ext_getElem? fun j=>by
 rcases Nat.lt_or_ge j a.length with hj|hj
 ·
  exact h j hj
 ·
  rw[List.getElem?_eq_none hj,List.getElem?_eq_none (by omega)]
theorem Px{b:List UInt8}(h:(bm b).2=0)(hk:(bm b).1.kind≠0):(bm b).1.id<64:=by
 rw[bm]at h hk⊢
 by_cases g1:jq b.length=false
 ·
  rw[if_pos g1]at h;cases h
 ·
  rw[if_neg g1]at h hk⊢
  by_cases g2:eW b=true
  ·
   rw[if_pos g2]at hk;exact absurd rfl hk
  ·
   rw[if_neg g2]at h hk⊢
   by_cases g3:de (pV b)≠gp (hH b)
   ·
    rw[if_pos g3]at h;cases h
   ·
    rw[if_neg g3]at h hk⊢
    by_cases g4:iX b=false
    ·
     rw[if_pos g4]at h;cases h
    ·
     rw[if_neg g4]at h hk⊢
     have g5:iX b=true:=by simpa using g4
     simp only[iX,Bool.and_eq_true]at g5
     have:=(zU.1 g5.2).2.2.2.1
     split
     ·
      simp[gq]
     ·
      exact this
theorem Py{b:List UInt8}(h:10≤b.length):de ((b.drop 8).take (10 -8))=256*(b.getD 8 0).toNat+(b.getD 9 0).toNat:=by
 have e:(b.drop 8).take (10 -8)=[b.getD 8 0,b.getD 9 0]:=by
  refine List.ext_getElem? fun j=> ?_
  rw[List.getElem?_take]
  match j with
  |0=>rw[if_pos (by omega),List.getElem?_drop];simp[List.getD,List.getElem?_eq_getElem (show 8<b.length by omega)]
  |1=>rw[if_pos (by omega),List.getElem?_drop];simp[List.getD,List.getElem?_eq_getElem (show 9<b.length by omega)]
  |j+2=>rw[if_neg (by omega)];simp
 rw[e]
 simp only[de,List.foldl_cons,List.foldl_nil];omega
theorem Pz{b:List UInt8}(h:10+dm b≤b.length -4):oV (j6 b)=true↔ ∀j,10+dm b≤j→j<b.length -4→b.getD j 0=0:=by
 have hK:hH b=b.take (b.length -4):=by rw[hH];simp
 have gm:=CY b
 have hr:j6 b=(hH b).drop (10+dm b):=List.take_of_length_le (by simp)
 rw[CS,hr]
 have key: ∀j,j<b.length -4→(hH b)[j]? =some (b.getD j 0):=fun j hj=>by
  rw[hK,List.getElem?_take,if_pos hj];exact iU (by omega)
 constructor
 ·
  intro hz j h1 h2
  refine hz _ (List.mem_of_getElem? (i:=j -(10+dm b)) ?_)
  rw[List.getElem?_drop,show 10+dm b+(j -(10+dm b))=j by omega]
  exact key j h2
 ·
  intro hz x hx
  obtain⟨k,hk⟩:=List.getElem?_of_mem hx
  have tE:=(List.getElem?_eq_some_iff.1 hk).1
  rw[List.length_drop]at tE
  rw[List.getElem?_drop,key _ (by omega)]at hk
  rw[←Option.some.inj hk]
  exact hz _ (by omega) (by omega)
def nX(b:List UInt8):Bool:=decide ((bm b).2=0)&& !eW b
def dw(s:Sv)(b:List UInt8):dk:=if nX b=true then⟨(b.getD 0 0).toNat,(b.getD 1 0).toNat,UInt64.ofNat (de ((b.drop 2).take (8 -2))),⟨s.sub 1 10 (10+dm b),(b.drop 10).take (10+dm b -10)⟩⟩else gF
theorem IL{b:List UInt8}(h:(bm b).2≠0):(bm b).1=gq:=by
 unfold bm at h⊢
 repeat' split at h
 all_goals first
  |(rename_i h1;simp only[*,if_true,if_false];done)
  |skip
 all_goals simp_all
theorem DA(s:Sv)(b:List UInt8):cA (dw s b)=(bm b).1:=by
 unfold dw nX
 by_cases h:(bm b).2=0
 ·
  by_cases hb:eW b=true
  ·
   rw[if_neg (by rw[hb];simp)]
   rw[bm]at h⊢
   by_cases g1:jq b.length=false
   ·
    rw[if_pos g1]at h;cases h
   ·
    rw[if_neg g1,if_pos hb];rfl
  ·
   rw[if_pos (by rw[h];simpa using hb)]
   have h':=h
   rw[bm]at h⊢
   by_cases g1:jq b.length=false
   ·
    rw[if_pos g1]at h;cases h
   ·
    rw[if_neg g1]at h⊢
    rw[if_neg hb]at h⊢
    by_cases g3:de (pV b)≠gp (hH b)
    ·
     rw[if_pos g3]at h;cases h
    ·
     rw[if_neg g3]at h⊢
     by_cases g4:iX b=false
     ·
      rw[if_pos g4]at h;cases h
     ·
      rw[if_neg g4]at h⊢
      by_cases g5:oV (j6 b)=false
      ·
       rw[if_pos g5]at h;cases h
      ·
       rw[if_neg g5]
       exact CW b (s.sub 1 10 (10+dm b)) ((b.drop 10).take (10+dm b -10))
 ·
  rw[if_neg (by simp[h]),IL h];rfl
theorem PA{b:List UInt8}(h:nX b=true):10+dm b≤b.length:=by
 simp only[nX,Bool.and_eq_true,decide_eq_true_eq,Bool.not_eq_true']at h
 obtain⟨h,hb⟩:=h
 rw[bm]at h
 by_cases g1:jq b.length=false
 ·
  rw[if_pos g1]at h;cases h
 ·
  have Co:jq b.length=true:=by simpa using g1
  rw[if_neg g1,if_neg (by rw[hb];simp)]at h
  by_cases g3:de (pV b)≠gp (hH b)
  ·
   rw[if_pos g3]at h;cases h
  ·
   rw[if_neg g3]at h
   by_cases g4:iX b=false
   ·
    rw[if_pos g4]at h;cases h
   ·
    have g5:iX b=true:=by simpa using g4
    simp only[iX,Bool.and_eq_true,decide_eq_true_eq,du,Co,if_true]at g5
    have:=oU.1 Co
    omega
instance aS.dw{w0:World}{L:List aj}{s:Sv}{b:List UInt8}[q:cl w0 L aJ 1 s b]:aS w0 L (dw s b):=⟨fun w hw=>by
 unfold Kb.dw
 split
 ·
  rename_i h
  have hm:=PA h
  have hl:=(q.h w hw).sub (show 10≤10+dm b by omega) hm
  exact⟨hl,fun _ _=>trivial⟩
 ·
  exact⟨bM.nil _ _ _,fun x hx=>by cases hx⟩⟩
def qW(l:List (List UInt8))(i:Nat):Bool:=decide ((bJ (l.getD i [])).2=0)&&(List.range l.length).all fun k=> !(decide ((bJ (l.getD k [])).2=0)&&(decide ((bJ (l.getD i [])).1.gen<(bJ (l.getD k [])).1.gen)||(decide ((bJ (l.getD k [])).1.gen=(bJ (l.getD i [])).1.gen)&&decide (i<k))))
def nY(l:List (List UInt8))(i:Nat):Nat→Bool
 |0=>decide ((bJ (l.getD i [])).2=0)
 |k+1=>if(bJ (l.getD k [])).2=0∧((bJ (l.getD i [])).1.gen<(bJ (l.getD k [])).1.gen∨((bJ (l.getD k [])).1.gen=(bJ (l.getD i [])).1.gen∧i<k))then false else nY l i k
theorem IM{l:List (List UInt8)}{i k:Nat}:nY l i (k+1)=if(bJ (l.getD k [])).2=0∧((bJ (l.getD i [])).1.gen<(bJ (l.getD k [])).1.gen∨((bJ (l.getD k [])).1.gen=(bJ (l.getD i [])).1.gen∧i<k))then false else nY l i k:=rfl
theorem IN{l:List (List UInt8)}{i:Nat}: ∀{k},nY l i k=true↔(bJ (l.getD i [])).2=0∧ ∀j,j<k→(bJ (l.getD j [])).2=0→ ¬((bJ (l.getD i [])).1.gen<(bJ (l.getD j [])).1.gen∨((bJ (l.getD j [])).1.gen=(bJ (l.getD i [])).1.gen∧i<j))
 |0=>by simp[nY]
 |k+1=>by
  rw[IM]
  split
  ·
   rename_i h
   exact⟨(fun g=>by cases g),(fun g=>absurd h.2 (g.2 k (by omega) h.1))⟩
  ·
   rename_i h
   rw[IN (k:=k)]
   refine and_congr_right fun _=>⟨fun g j hj hv=> ?_,fun g j hj=>g j (by omega)⟩
   by_cases e:j=k
   ·
    subst e;exact fun c=>h ⟨hv,c⟩
   ·
    exact g j (by omega) hv
theorem PB{b:List UInt8}{i:Nat}(h:2*i+2≤b.length):de ((b.drop (2*i)).take (2*i+2 -2*i))=(kD (b.getD (2*i) 0) (b.getD (2*i+1) 0)).toNat:=by
 have e:(b.drop (2*i)).take (2*i+2 -2*i)=[b.getD (2*i) 0,b.getD (2*i+1) 0]:=by
  refine List.ext_getElem? fun j=> ?_
  rw[List.getElem?_take]
  match j with
  |0=>rw[if_pos (by omega),List.getElem?_drop];simp[List.getD,List.getElem?_eq_getElem (show 2*i<b.length by omega)]
  |1=>rw[if_pos (by omega),List.getElem?_drop];simp[List.getD,List.getElem?_eq_getElem (show 2*i+1<b.length by omega)]
  |j+2=>rw[if_neg (by omega)];simp
 rw[e,BS]
 simp only[de,List.foldl_cons,List.foldl_nil];omega
theorem DB(l:List (List UInt8)): ∀k,k≤l.length→
  ((cY l k).found=true→ ∃i,i<k∧(cY l k).at_=(i:Int)∧(bJ (l.getD i [])).2=0∧(cY l k).new=(bJ (l.getD i [])).1∧ ∀j,j<k→(bJ (l.getD j [])).2=0→(bJ (l.getD j [])).1.gen<(bJ (l.getD i [])).1.gen∨((bJ (l.getD j [])).1.gen=(bJ (l.getD i [])).1.gen∧j≤i))∧
  ((cY l k).found=false→ ∀j,j<k→(bJ (l.getD j [])).2≠0)∧(cY l k).blank=(l.take k).all eW
 |0,_=>⟨fun h=>by simp[cY]at h,fun _ j hj=>by omega,by simp[cY]⟩
 |k+1,hk=>by
  obtain⟨h1,h2,h3⟩:=DB l k (by omega)
  obtain⟨b,hb⟩:=get_some (xs:=l) (i:=k) (by omega)
  have hg:l.getD k []=b:=by simp[List.getD,hb]
  have cO:(l.take (k+1)).all eW=((l.take k).all eW&&eW b):=by rw[List.take_add_one,hb];simp
  by_cases hq:(bJ b).2=0∧((cY l k).found=false∨(cY l k).new.gen≤(bJ b).1.gen)
  ·
   rw[HH hb hq,h3,cO]
   refine⟨fun _=>⟨k,by omega,rfl,by rw[hg];exact hq.1,by rw[hg],fun j hj hv=> ?_⟩,fun h=>by simp at h,rfl⟩
   rw[hg]
   by_cases e:j=k
   ·
    subst e;rw[hg];exact .inr ⟨rfl,Nat.le_refl _⟩
   ·
    have yK:j<k:=by omega
    rcases hq.2 with hf|hf
    ·
     exact absurd hv (h2 hf j yK)
    ·
     cases gw:(cY l k).found with
     |false=>exact absurd hv (h2 gw j yK)
     |true=>
      obtain⟨i,hi,ha,zp,hn,iG⟩:=h1 gw
      rw[hn]at hf
      rcases iG j yK hv with g|g
      ·
       exact .inl (by omega)
      ·
       by_cases bB:(bJ (l.getD j [])).1.gen<(bJ b).1.gen
       ·
        exact .inl bB
       ·
        exact .inr ⟨by omega,by omega⟩
  ·
   rw[HI hb hq]
   refine⟨fun gw=> ?_,fun gw j hj=> ?_,by simp only[h3,cO]⟩
   ·
    obtain⟨i,hi,ha,zp,hn,iG⟩:=h1 gw
    refine⟨i,by omega,ha,zp,hn,fun j hj hv=> ?_⟩
    by_cases e:j=k
    ·
     subst e
     rw[hg]at hv⊢
     have: ¬(cY l j).new.gen≤(bJ b).1.gen:=fun h=>hq ⟨hv, .inr h⟩
     rw[hn]at this
     exact .inl (by omega)
    ·
     exact iG j (by omega) hv
   ·
    by_cases e:j=k
    ·
     subst e;rw[hg];exact fun hv=>hq ⟨hv, .inl gw⟩
    ·
     exact h2 gw j (by omega)
theorem DC{l:List (List UInt8)}{i:Nat}:qW l i=true↔(bJ (l.getD i [])).2=0∧ ∀k,k<l.length→(bJ (l.getD k [])).2=0→ ¬((bJ (l.getD i [])).1.gen<(bJ (l.getD k [])).1.gen∨((bJ (l.getD k [])).1.gen=(bJ (l.getD i [])).1.gen∧i<k)):=by
 simp only[qW,Bool.and_eq_true,decide_eq_true_eq,List.all_eq_true,List.mem_range,Bool.not_eq_true',Bool.and_eq_false_iff,Bool.or_eq_false_iff,decide_eq_false_iff_not]
 constructor
 ·
  rintro⟨h1,h2⟩
  refine⟨h1,fun k hk hv hc=> ?_⟩
  rcases h2 k hk with g|g
  ·
   exact g hv
  ·
   rcases hc with c|c
   ·
    exact g.1 c
   ·
    rcases g.2 with g|g
    ·
     exact g c.1
    ·
     exact g c.2
 ·
  rintro⟨h1,h2⟩
  refine⟨h1,fun k hk=> ?_⟩
  by_cases hv:(bJ (l.getD k [])).2=0
  ·
   have:=h2 k hk hv
   refine .inr ⟨fun c=>this (.inl c),?_⟩
   by_cases e:(bJ (l.getD k [])).1.gen=(bJ (l.getD i [])).1.gen
   ·
    exact .inr fun c=>this (.inr ⟨e,c⟩)
   ·
    exact .inl e
  ·
   exact .inl hv
theorem PC{l:List (List UInt8)}{i:Nat}:qW l i=nY l i l.length:=by
 rw[Bool.eq_iff_iff,DC,IN]
theorem PD{l:List (List UInt8)}{i:Nat}(hi:i<l.length)(h:qW l i=true):c0 l=((i:Int),(bJ (l.getD i [])).1,0):=by
 obtain⟨h1,h2⟩:=DC.1 h
 obtain⟨s1,s2,s3⟩:=DB l l.length (Nat.le_refl _)
 cases hf:(cY l l.length).found with
 |false=>exact absurd h1 (s2 hf i hi)
 |true=>
  obtain⟨j,hj,ha,hv,hn,iG⟩:=s1 hf
  have e:j=i:=by
   have g1:=iG i hi h1
   have g2:=h2 j hj hv
   omega
  subst e
  rw[c0,if_pos hf,ha,hn]
theorem PE{l:List (List UInt8)}(h: ∀i,i<l.length→qW l i=false):c0 l=(0,eN,if l.all eW=true then 6 else 2):=by
 obtain⟨s1,s2,s3⟩:=DB l l.length (Nat.le_refl _)
 rw[List.take_length]at s3
 cases hf:(cY l l.length).found with
 |false=>
  rw[c0,if_neg (by rw[hf];simp),s3]
  split<;>rfl
 |true=>
  obtain⟨j,hj,ha,hv,hn,iG⟩:=s1 hf
  have:qW l j=true:=DC.2 ⟨hv,fun k hk PF hc=>by have:=iG k hk PF;omega⟩
  rw[h j hj]at this;cases this
def gx(c:CV):VV×Int:=
 if(cG c).2.2≠0 then(gI,(cG c).2.2)else if j7 c=false then(gI,2)else(⟨c,(cG c).2.1.at_,(cG c).2.1.gen,(cG c).1/c.ag⟩,0)
theorem PG{c:CV}{l:List Int}{i:Nat}{y:Int}(h:l.getD i 0=y):kI c l i=(decide (y=0)||(!(l.take i).contains y&&pX c (i:Int) y)):=by rw[kI,h]
theorem PH{a b:VV}:a=b↔a.ai=b.ai∧a.at_=b.at_∧a.gen=b.gen∧a.last=b.last:=by
 constructor
 ·
  rintro rfl;exact⟨rfl,rfl,rfl,rfl⟩
 ·
  obtain⟨a1,a2,a3,a4⟩:=a
  obtain⟨b1,b2,b3,b4⟩:=b
  rintro⟨h1,h2,h3,h4⟩
  simp only at h1 h2 h3 h4
  subst h1 h2 h3 h4;rfl
theorem Ai(c:CV):bq c=if iH c=false then(gI,1)else if c.off=true then(gI,7)else gx c:=rfl
theorem IP(x:VV):gJ x=(iH x.ai&&(decide ((gx x.ai).2=0)&&decide (x.at_=(gx x.ai).1.at_)&&decide (x.gen=(gx x.ai).1.gen)&&decide (x.last=(gx x.ai).1.last))):=by
 have hb:iH {x.ai with off:=false}=iH x.ai:=rfl
 have pO:j7 {x.ai with off:=false}=j7 x.ai:=rfl
 have nj:cG {x.ai with off:=false}=cG x.ai:=rfl
 rw[gJ,Ai,hb]
 cases h:iH x.ai with
 |false=>rw[if_pos rfl];rfl
 |true=>
  rw[if_neg (by simp),if_neg (by simp),gx,gx,nj,pO]
  by_cases h1:(cG x.ai).2.2≠0
  ·
   rw[if_pos h1,if_pos h1,decide_eq_false h1];rfl
  ·
   rw[if_neg h1,if_neg h1]
   by_cases h2:j7 x.ai=false
   ·
    rw[if_pos h2,if_pos h2];rfl
   ·
    rw[if_neg h2,if_neg h2]
    rw[Bool.eq_iff_iff];simp only[Bool.and_eq_true,decide_eq_true_eq,true_and,Bool.true_and]
    constructor
    ·
     rintro⟨⟨g1,g2⟩,g3⟩;exact⟨⟨g3.symm,g1.symm⟩,g2.symm⟩
    ·
     rintro⟨⟨g1,g2⟩,g3⟩;exact⟨⟨g2.symm,g3.symm⟩,g1.symm⟩
open Go.aL
theorem PI{c:CV}(h:(bq c).2≠0):(bq c).1=gI:=by
 rw[bq]at h⊢
 repeat' split
 all_goals first|rfl|(exfalso;simp_all)
theorem PJ(c:CV):(if(bq c).2=0 then(bq c).1 else gI)=(bq c).1:=by
 by_cases h:(bq c).2=0
 ·
  rw[if_pos h]
 ·
  rw[if_neg h,PI h]
open Go.aL
def qX(t:List Rt)(n id:Nat):List UInt8:=((t.drop (id*n)).take n).flatMap gH
def nk(t:List Rt)(ids n:Nat):List (List UInt8):=(List.range ids).map (qX t n)
def ku(a b:Int):Int:=if a<1∨64<a∨b<20∨240<b then 0 else min (a*(b/20)) 256
def jx(t:List Rt)(ids room:Int):Int:=if dD t=false∨ku ids room=0 then 1 else if ku ids room<t.length then 5 else 0
def kb(t:List Rt)(ids room:Int):List (List UInt8):=if jx t ids room=0 then nk t ids.toNat (room/20).toNat else[]
theorem sA(t:List Rt)(ids n:Nat):(nk t ids n).length=ids:=by simp[nk]
theorem PK(l:List Rt):(l.flatMap gH).length=20*l.length:=by
 induction l with
 |nil=>rfl
 |cons a l ih=>rw[List.flatMap_cons,List.length_append,ih,pU,List.length_cons];omega
theorem PL(t:List Rt)(n id:Nat):(qX t n id).length=20*min n (t.length -id*n):=by
 rw[qX,PK,List.length_take,List.length_drop]
theorem IQ(t:List Rt)(n id:Nat):(qX t n id).length≤20*n:=by rw[PL];omega
theorem DD{a b:Int}(h: ¬ku a b=0):1≤a∧a≤64∧20≤b∧b≤240∧ku a b=min (a*(b/20)) 256∧1≤b/20∧b/20≤12:=by
 unfold ku at h⊢
 split at h
 ·
  exact absurd rfl h
 ·
  rename_i hn
  rw[if_neg hn]
  have:1≤b/20∧b/20≤12:=by omega
  exact⟨by omega,by omega,by omega,by omega,rfl,this.1,this.2⟩
theorem PM{t:List Rt}{r:Rt}{i n id:Nat}(hn:0<n)(hr:t[i]? =some r):qX (t.take (i+1)) n id=qX (t.take i) n id++(if id=i/n then gH r else[]):=by
 have bB:i<t.length:=(List.getElem?_eq_some_iff.1 hr).1
 have e1:t.take (i+1)=t.take i++[r]:=by rw[List.take_add_one,hr];rfl
 have hd:=Nat.div_add_mod i n
 have hm:=Nat.mod_lt i hn
 have hc:n*(i/n)=i/n*n:=Nat.mul_comm _ _
 unfold qX
 have l1:(t.take i).length=i:=by rw[List.length_take];omega
 rw[e1]
 by_cases h1:id=i/n
 ·
  subst h1
  have e2:(t.take i++[r]).drop (i/n*n)=(t.take i).drop (i/n*n)++[r]:=List.drop_append_of_le_length (by rw[l1];omega)
  have e3:((t.take i).drop (i/n*n)++[r]).take n=(t.take i).drop (i/n*n)++[r]:=List.take_of_length_le (by rw[List.length_append,List.length_drop,l1];simp only[List.length_cons,List.length_nil];omega)
  have e4:((t.take i).drop (i/n*n)).take n=(t.take i).drop (i/n*n):=List.take_of_length_le (by rw[List.length_drop,l1];omega)
  rw[if_pos rfl,e2,e3,e4]
  simp
 ·
  rw[if_neg h1,List.append_nil]
  rcases Nat.lt_or_gt_of_ne h1 with h2|h2
  ·
   have:(id+1)*n≤i/n*n:=Nat.mul_le_mul_right _ h2
   rw[Nat.add_mul]at this
   rw[List.drop_append_of_le_length (by rw[l1];omega),List.take_append_of_le_length (by rw[List.length_drop,l1];omega)]
  ·
   have:(i/n+1)*n≤id*n:=Nat.mul_le_mul_right _ h2
   rw[Nat.add_mul]at this
   rw[List.drop_eq_nil_of_le (by rw[List.length_append,l1];simp;omega),List.drop_eq_nil_of_le (by rw[l1];omega)]
theorem PN{t:List Rt}{r:Rt}{i n ids:Nat}{x:List UInt8}(hn:0<n)(hr:t[i]? =some r)(hx:(nk (t.take i) ids n)[i/n]? =some x):
  nk (t.take (i+1)) ids n=(nk (t.take i) ids n).set (i/n) (x++gH r):=by
 refine List.ext_getElem? fun j=> ?_
 rw[List.getElem?_set]
 have hk:i/n<ids:=by have:=(List.getElem?_eq_some_iff.1 hx).1;rwa [sA]at this
 by_cases hj:j<ids
 ·
  have e: ∀t',(nk t' ids n)[j]? =some (qX t' n j):=fun t'=>by simp[nk,hj]
  rw[e,PM hn hr]
  by_cases h:i/n=j
  ·
   subst h
   rw[e]at hx
   rw[if_pos rfl,if_pos rfl,if_pos (by rw[sA];exact hk)]
   rw[Option.some.inj hx]
  ·
   rw[if_neg (fun e=>h e.symm),if_neg h,List.append_nil,e]
 ·
  rw[List.getElem?_eq_none (by rw[sA];omega),if_neg (by omega),List.getElem?_eq_none (by rw[sA];omega)]
theorem PO(t:List Rt)(ids n:Nat):nk (t.take 0) ids n=List.replicate ids []:=by
 refine List.eq_replicate_iff.2 ⟨sA _ _ _,fun x hx=> ?_⟩
 obtain⟨j,_,rfl⟩:=List.mem_map.1 hx
 simp[qX]
def jK(b:List UInt8):Rt:=⟨⟨if b.getD 0 0=1 then 128 else 32,(b.getD 1 0).toNat,lQ fun i=>(b.getD (2+i) 0).toNat⟩,UInt16.ofNat ((b.getD 18 0).toNat*256+(b.getD 19 0).toNat)⟩
def rd(b:List UInt8):Option Rt:=if b.getD 0 0≤1 then some (jK b)else none
def ir(b:List UInt8):Option (List Rt):=
 if h:b.length<20 then(if b.length=0 then some []else none)
 else match rd (b.take 20),ir (b.drop 20)with
  |some r,some l=>some (r::l)
  |_,_=>none
termination_by b.length
decreasing_by rw[List.length_drop];omega
theorem IS:ir []=some []:=by rw[ir];simp
theorem DE{b:List UInt8}(h:20≤b.length):ir b=(rd (b.take 20)).bind fun r=>(ir (b.drop 20)).map (r:: ·):=by
 rw[ir,dif_neg (by omega)]
 cases rd (b.take 20)<;>simp
 cases ir (b.drop 20)<;>simp
theorem DF: ∀(k:Nat) (b:List UInt8),b.length≤k→ ¬b.length%20=0→ir b=none
 |0,b,h,hm=>by have:b.length=0:=by omega
               rw[this]at hm;simp at hm
 |k+1,b,h,hm=>by
  by_cases h2:b.length<20
  ·
   rw[ir,dif_pos h2,if_neg (fun e=>by rw[e]at hm;simp at hm)]
  ·
   rw[DE (by omega),DF k (b.drop 20) (by rw[List.length_drop];omega) (by rw[List.length_drop];omega)]
   cases rd (b.take 20)<;>rfl
def fO:List (List UInt8)→Option (List Rt)
 |[]=>some []
 |b::r=>(ir b).bind fun l=>(fO r).map (l++ ·)
theorem DG: ∀a b:List (List UInt8),fO (a++b)=(fO a).bind fun l=>(fO b).map (l++ ·)
 |[],b=>by simp[fO]
 |x::a,b=>by
  rw[List.cons_append,fO,fO,DG a b]
  cases ir x<;>simp
  cases fO a<;>simp
  cases fO b<;>simp
theorem vP{bs:List (List UInt8)}{i:Nat}{b:List UInt8}(h:bs[i]? =some b):fO (bs.take (i+1))=(fO (bs.take i)).bind fun l=>(ir b).map (l++ ·):=by
 rw[List.take_add_one,h,Option.toList_some,DG,fO,fO]
 cases fO (bs.take i)with
 |none=>rfl
 |some l=>cases ir b<;>simp
theorem Aj{bs:List (List UInt8)}{i:Nat}(h:fO (bs.take i)=none):fO bs=none:=by
 rw[←List.take_append_drop i bs,DG,h];rfl
def iu(bs:List (List UInt8)):List Rt:=match fO bs with
 |some t=>if dD t=true then t else[]
 |none=>[]
def jy(bs:List (List UInt8)):Int:=match fO bs with
 |some t=>if dD t=true then 0 else 2
 |none=>2
theorem sB{bs:List (List UInt8)}(h:fO bs=none):iu bs=[]∧jy bs=2:=by simp[iu,jy,h]
theorem Ak{bs:List (List UInt8)}{t:List Rt}(h:fO bs=some t)(hr:dD t=false):iu bs=[]∧jy bs=2:=by simp[iu,jy,h,hr]
theorem Al{bs:List (List UInt8)}{t:List Rt}(h:fO bs=some t)(hr:dD t=true):iu bs=t∧jy bs=0:=by simp[iu,jy,h,hr]
def vQ(a b:List (List UInt8))(i:Nat):Option (Int×List UInt8):=if a.getD i []=b.getD i []then none else some ((i:Int),b.getD i [])
def qg(a b:List (List UInt8))(n:Nat):List (Int×List UInt8):=(List.range n).filterMap (vQ a b)
def jL(a b:List (List UInt8)):List (Int×List UInt8):=qg a b (max a.length b.length)
theorem PQ{a b:List (List UInt8)}{n:Nat}(h:a.getD n []=b.getD n []):qg a b (n+1)=qg a b n:=by
 have e:vQ a b n=none:=by rw[vQ,if_pos h]
 simp[qg,List.range_succ,e]
theorem PR{a b:List (List UInt8)}{n:Nat}(h: ¬a.getD n []=b.getD n []):qg a b (n+1)=qg a b n++[((n:Int),b.getD n [])]:=by
 have e:vQ a b n=some ((n:Int),b.getD n []):=by rw[vQ,if_neg h]
 simp[qg,List.range_succ,e]
theorem DH(a b:List (List UInt8))(n:Nat):(qg a b n).length≤n:=by
 have:=List.length_filterMap_le (vQ a b) (List.range n)
 simpa[qg]using this
def lj(b:List UInt8):Bool:=decide (b.getD 0 0≤1)
def rdv(b:List UInt8):Rt:=if lj b=true then jK b else fI
theorem IT(b:List UInt8):rd b=if lj b=true then some (jK b)else none:=by simp[rd,lj]
theorem PS(b:List UInt8):(jK b).eA=kD (b.getD 18 0) (b.getD 19 0):=rfl
theorem PT{b:List UInt8}(hb:b.length=20)(v:Int)(hv:v=if b.getD 0 0=1 then 128 else 32):
  (cI (((aw fI).setIfInBounds 0 (.int .i64 v)).setIfInBounds 1 (.int .i64 (b.getD 1 0).toNat)) 2 (aQ aJ ((b.drop 2).take 16)).toArray).setIfInBounds 18 (.int .u16 (kD (b.getD 18 0) (b.getD 19 0)).toNat)=aw (jK b):=by
 have hk:(aQ aJ ((b.drop 2).take 16)).toArray.size=16:=by rw[List.size_toArray,gl,List.length_take,List.length_drop,hb];rfl
 have h0:(aw fI).size=19:=hU _
 have hs:2+(aQ aJ ((b.drop 2).take 16)).toArray.size≤(((aw fI).setIfInBounds 0 (.int .i64 v)).setIfInBounds 1 (.int .i64 (b.getD 1 0).toNat)).size:=by rw[hk];simp[h0]
 refine Array.ext_getElem? fun j=> ?_
 rw[Array.getElem?_setIfInBounds,lM hs,tr hs,hk]
 by_cases xu:18=j
 ·
  subst xu;rw[if_pos rfl,pM,PS];simp[h0]
 rw[if_neg xu]
 by_cases h2:2≤j∧j<2+16
 ·
  rw[if_pos h2,hY _ j (by omega),show j=2+(j -2) by omega,kY,jn _ _ (by omega),show 2+(j -2) -2=j -2 by omega]
  have hg:((b.drop 2).take 16)[j -2]? =some (b.getD j 0):=by
   rw[List.getElem?_take,if_pos (by omega),List.getElem?_drop,show 2+(j -2)=j by omega,List.getD,List.getElem?_eq_getElem (by omega)];rfl
  have:=lN (enc:=aJ) ((b.drop 2).take 16) (j -2) _ hg 0 (by decide)
  simp only[Nat.mul_one,Nat.add_zero]at this
  rw[show(aQ aJ ((b.drop 2).take 16)).toArray[j -2]? =(aQ aJ ((b.drop 2).take 16))[j -2]?by simp,this]
  have e:ca (jK b).p.key (j -2)=(b.getD j 0).toNat:=by
   show ca (lQ fun i=>(b.getD (2+i) 0).toNat) (j -2)=_
   rw[nI _ _ (by omega),show 2+(j -2)=j by omega]
   have:=(b.getD j 0).toNat_lt;omega
  rw[e];rfl
 rw[if_neg h2,Array.getElem?_setIfInBounds]
 by_cases h1:1=j
 ·
  subst h1;rw[if_pos rfl,hY _ 1 (by decide),oK];simp[h0,jK]
 rw[if_neg h1,Array.getElem?_setIfInBounds]
 by_cases hj:0=j
 ·
  subst hj;rw[if_pos rfl,hY _ 0 (by decide),pL];simp[h0,jK,hv]
 ·
  rw[if_neg hj,Array.getElem?_eq_none (by rw[h0];omega),Array.getElem?_eq_none (by rw[hU];omega)]
theorem PU{xs:List UInt8}{k n:Nat}{a b:UInt8}(ha:xs[k]? =some a)(hb:xs[k+1]? =some b)(hn:n=k+2):de ((xs.drop k).take (n -k))=(kD a b).toNat:=by
 have e:(xs.drop k).take (n -k)=[a,b]:=by
  refine List.ext_getElem? fun j=> ?_
  rw[List.getElem?_take,List.getElem?_drop]
  match j with
  |0=>rw[if_pos (by omega)];simpa using ha
  |1=>rw[if_pos (by omega)];simpa using hb
  |j+2=>rw[if_neg (by omega)];simp
 rw[e,BS];simp[de]
theorem PW(r:Rt)(v:Int):(aw r).setIfInBounds 0 (.int .i64 v)=aw ⟨⟨v,r.p.len,r.p.key⟩,r.eA⟩:=by
 refine Array.ext_getElem? fun j=> ?_
 rw[Array.getElem?_setIfInBounds]
 have h0:(aw r).size=19:=hU _
 by_cases hj:0=j
 ·
  subst hj;rw[if_pos rfl,hY _ 0 (by decide),pL];simp[h0]
 rw[if_neg hj]
 match j,hj with
 |1,_=>rw[hY _ 1 (by decide),hY _ 1 (by decide),oK,oK]
 |j+2,_=>
  rcases Nat.lt_or_ge j 16 with h|h
  ·
   rw[hY _ _ (by omega),hY _ _ (by omega),Nat.add_comm j 2,kY,kY]
  ·
   by_cases e:j=16
   ·
    subst e;rw[pM,pM]
   ·
    rw[Array.getElem?_eq_none (by rw[h0];omega),Array.getElem?_eq_none (by rw[hU];omega)]
def ll(f:Nat→Nat)(n:Nat):Key:=lQ fun j=>if j<n then f j else 0
theorem PX(f:Nat→Nat):ll f 0=0#128:=by
 refine tw fun j hj=> ?_
 rw[ll,nI _ _ hj];simp[ca]
theorem PY(f:Nat→Nat):ll f 16=lQ f:=by
 refine tw fun j hj=> ?_
 rw[ll,nI _ _ hj,nI _ _ hj,if_pos hj]
theorem PZ{b l:Int}{h:UInt16}{f:Nat→Nat}{n:Nat}(hn:n<16)(hf:f n<256):
  (aw ⟨⟨b,l,ll f n⟩,h⟩).setIfInBounds (2+n) (.int .u8 (f n:Nat))=aw ⟨⟨b,l,ll f (n+1)⟩,h⟩:=by
 refine Array.ext_getElem? fun j=> ?_
 rw[Array.getElem?_setIfInBounds]
 have h0: ∀r,(aw r).size=19:=hU
 by_cases hj:2+n=j
 ·
  subst hj
  have e:ca (ll f (n+1)) n=f n:=by rw[ll,nI _ _ hn,if_pos (by omega)];exact Nat.mod_eq_of_lt hf
  rw[if_pos rfl,hY _ _ (by omega),kY,jn _ _ hn,if_pos (by rw[h0];omega)]
  show _=some (Value.int .u8 (ca (ll f (n+1)) n:Nat))
  rw[e]
 rw[if_neg hj]
 match j,hj with
 |0,_=>rw[hY _ 0 (by decide),hY _ 0 (by decide),pL,pL]
 |1,_=>rw[hY _ 1 (by decide),hY _ 1 (by decide),oK,oK]
 |j+2,hj=>
  rcases Nat.lt_or_ge j 16 with h|h
  ·
   rw[hY _ _ (by omega),hY _ _ (by omega),Nat.add_comm j 2,kY,kY,jn _ _ h,jn _ _ h,ll,ll,nI _ _ h,nI _ _ h]
   by_cases h1:j<n
   ·
    rw[if_pos h1,if_pos (by omega)]
   ·
    rw[if_neg h1,if_neg (by omega)]
  ·
   by_cases e:j=16
   ·
    subst e;rw[pM,pM]
   ·
    rw[Array.getElem?_eq_none (by rw[h0];omega),Array.getElem?_eq_none (by rw[h0];omega)]
theorem DI{b:List UInt8}{k:Nat}(i:Nat)(hi:i<20):((b.drop k).take 20).getD i 0=b.getD (k+i) 0:=by
 simp[List.getD,List.getElem?_take,hi,List.getElem?_drop]
theorem P0{b:List UInt8}{k:Nat}(h:k+20≤b.length):ir (b.drop k)=(rd ((b.drop k).take 20)).bind fun r=>(ir (b.drop (k+20))).map (r:: ·):=by
 rw[DE (by rw[List.length_drop];omega),List.drop_drop]
theorem P1(xs:List UInt8)(k:Nat):jK ((xs.drop k).take 20)=⟨⟨if xs.getD k 0=1 then 128 else 32,(xs.getD (k+1) 0).toNat,ll (fun j=>(xs.getD (k+(2+j)) 0).toNat) 16⟩,kD (xs.getD (k+18) 0) (xs.getD (k+19) 0)⟩:=by
 have e:=fun i h=>DI (b:=xs) (k:=k) i h
 have ek:(lQ fun i=>(((xs.drop k).take 20).getD (2+i) 0).toNat)=ll (fun j=>(xs.getD (k+(2+j)) 0).toNat) 16:=by
  rw[PY]
  refine tw fun j hj=> ?_
  rw[nI _ _ hj,nI _ _ hj,e (2+j) (by omega)]
 show(⟨⟨if((xs.drop k).take 20).getD 0 0=1 then 128 else 32,(((xs.drop k).take 20).getD 1 0).toNat,lQ fun i=>(((xs.drop k).take 20).getD (2+i) 0).toNat⟩,kD (((xs.drop k).take 20).getD 18 0) (((xs.drop k).take 20).getD 19 0)⟩:Rt)=_
 rw[ek,e 0 (by decide),e 1 (by decide),e 18 (by decide),e 19 (by decide),Nat.add_zero]
theorem IU{t:List Rt}{ids room:Int}(h:ku ids room=0∨dD t=false):jx t ids room=1∧kb t ids room=[]:=by
 have e:jx t ids room=1:=if_pos h.symm
 exact⟨e,by rw[kb,e];rfl⟩
theorem IV{t:List Rt}{ids room:Int}(h: ¬ku ids room=0)(h':dD t=true)(h2:ku ids room<t.length):jx t ids room=5∧kb t ids room=[]:=by
 have e:jx t ids room=5:=by
  rw[jx,if_neg (by simp[h,h']),if_pos h2]
 exact⟨e,by rw[kb,e];rfl⟩
theorem IW{t:List Rt}{ids room:Int}(h: ¬ku ids room=0)(h':dD t=true)(h2: ¬ku ids room<t.length):jx t ids room=0∧kb t ids room=nk t ids.toNat (room/20).toNat:=by
 have e:jx t ids room=0:=by
  rw[jx,if_neg (by simp[h,h']),if_neg h2]
 exact⟨e,by rw[kb,if_pos e]⟩
theorem P2{s:Sv}{xs:List (Sl UInt8)}{i:Nat}{y:Sl UInt8}:lx (⟨s,xs.set i y⟩:Sl (Sl UInt8))=(xs.map (·.xs)).set i y.xs:=by simp[lx,List.map_set]
section
variable {bits:Int} {ns:List Nd} {i:Nat} {a a2:List Int} {nd:Nd}
end
section
variable {bits:Int} {W:List Wy} {R:List Rt}
end
section
variable {bits:Int} {t:List Rt}
end
def jM(p:Nat→Bool):Nat→Nat→Nat→Nat
 |0,i,_=>i
 |f+1,i,j=>if i<j then(if p ((i+j)/2)=true then jM p f i ((i+j)/2)else jM p f ((i+j)/2+1) j)else i
def bs(p:Nat→Bool)(n:Nat):Nat:=jM p (n+1) 0 n
theorem Am(p:Nat→Bool): ∀(f g i j:Nat),j -i<f→j -i<g→jM p f i j=jM p g i j
 |0,_,_,_,h,_=>by omega
 |_+1,0,_,_,_,h=>by omega
 |f+1,g+1,i,j,h1,h2=>by
  rw[jM,jM]
  split
  ·
   split
   ·
    exact Am p f g _ _ (by omega) (by omega)
   ·
    exact Am p f g _ _ (by omega) (by omega)
  ·
   rfl
theorem IX{p:Nat→Bool}{f i j:Nat}(h:i<j)(hf:j -i<f):jM p f i j=if p ((i+j)/2)=true then jM p f i ((i+j)/2)else jM p f ((i+j)/2+1) j:=by
 match f,hf with
 |f+1,hf=>
  rw[jM,if_pos h]
  split
  ·
   exact Am p f (f+1) _ _ (by omega) (by omega)
  ·
   exact Am p f (f+1) _ _ (by omega) (by omega)
theorem P3{p:Nat→Bool}{f i j:Nat}(h: ¬i<j)(hf:0<f):jM p f i j=i:=by
 match f,hf with
 |f+1,_=>rw[jM,if_neg h]
theorem DJ{p:Nat→Bool}{n:Nat}(hm: ∀a b,a≤b→b<n→p a=true→p b=true): ∀(f i j:Nat),j -i<f→i≤j→j≤n→(∀a,a<i→p a=false)→(∀a,j≤a→a<n→p a=true)→
  jM p f i j≤n∧(∀a,a<jM p f i j→p a=false)∧ ∀a,jM p f i j≤a→a<n→p a=true
 |0,_,_,h,_,_,_,_=>by omega
 |f+1,i,j,h,mS,ry,h1,h2=>by
  rw[jM]
  split
  ·
   rename_i bB
   split
   ·
    rename_i hp
    exact DJ hm f _ _ (by omega) (by omega) (by omega) h1 fun a ha P4=>hm _ a ha P4 hp
   ·
    rename_i hp
    refine DJ hm f _ _ (by omega) (by omega) ry (fun a ha=> ?_) h2
    cases ln:p a with
    |false=>rfl
    |true=>exact absurd (hm a ((i+j)/2) (by omega) (by omega) ln) hp
  ·
   obtain rfl:i=j:=by omega
   exact⟨ry,h1,h2⟩
theorem P5{p:Nat→Bool}{n:Nat}(hm: ∀a b,a≤b→b<n→p a=true→p b=true):bs p n≤n∧(∀a,a<bs p n→p a=false)∧ ∀a,bs p n≤a→a<n→p a=true:=
 DJ hm (n+1) 0 n (by omega) (Nat.zero_le _) (Nat.le_refl _) (fun a ha=>by omega) (fun a h1 h2=>by omega)
def behind(t:List Rt)(q:cF)(j:Nat):Bool:=match t[j]?with
 |some r=> !gY r.p q
 |none=>true
def dR(t:List Rt)(q:cF):Nat:=bs (behind t q) t.length
def lp(t:List Rt)(q:cF):Bool:=match t[dR t q]?with
 |some r=>decide (r.p=q)
 |none=>false
theorem DK{p:Nat→Bool}: ∀(f i j:Nat),i≤j→jM p f i j≤j
 |0,_,_,h=>h
 |f+1,i,j,h=>by
  rw[jM];split
  ·
   split
   ·
    exact Nat.le_trans (DK f _ _ (by omega)) (by omega)
   ·
    exact DK f _ _ (by omega)
  ·
   exact h
theorem IY(t:List Rt)(q:cF):dR t q≤t.length:=DK _ _ _ (Nat.zero_le _)
theorem P6(t:List Rt)(q:cF):lp t q=(decide (((dR t q:Nat):Int)<(t.length:Int))&&decide ((t.getD (dR t q) fI).p=q)):=by
 rcases Nat.lt_or_ge (dR t q) t.length with h|h
 ·
  have e:t[dR t q]? =some t[dR t q]:=by simp[h]
  rw[lp,e,List.getD_eq_getElem?_getD,e];simp[h]
 ·
  rw[lp,List.getElem?_eq_none h,decide_eq_false (by omega)];rfl
def pd(t:List Rt)(k:Key)(bits:Int)(n:Nat):Option Rt:=if lp t ⟨bits,n,dj k n⟩=true then t[dR t ⟨bits,n,dj k n⟩]?else none
def lq(t:List Rt)(k:Key)(bits:Int):Nat→Option Rt
 |0=>pd t k bits 0
 |n+1=>match pd t k bits (n+1)with
  |some r=>some r
  |none=>lq t k bits n
def qh(t:List Rt)(k:Key)(bits:Int):Bool:=dD t&&cN ⟨bits,bits,k⟩
def iK(t:List Rt)(k:Key)(bits:Int):Rt:=if qh t k bits=true then(lq t k bits bits.toNat).getD fI else fI
def jN(t:List Rt)(k:Key)(bits:Int):Int:=if qh t k bits=true then(if(lq t k bits bits.toNat).isSome=true then 0 else 6)else 1
theorem DL{t:List Rt}(h:dD t=true): ∀(i j:Nat) (a b:Rt),i<j→t[i]? =some a→t[j]? =some b→gY a.p b.p=true:=by
 intro i j
 induction j with
 |zero=>intro a b mS;omega
 |succ j ih=>
  intro a b mS ha hb
  have iR:=(List.getElem?_eq_some_iff.1 hb).1
  obtain⟨c,hc⟩: ∃c,t[j]? =some c:=⟨t[j],by simp[show j<t.length by omega]⟩
  have mf:gY c.p b.p=true:=by
   cases hx:gY c.p b.p with
   |true=>rfl
   |false=>
    have:=wY iR (by rw[Gw hb hc,hx];simp)
    rw[this]at h;cases h
  rcases Nat.lt_or_ge i j with h1|h1
  ·
   have P7:=ih a c h1 ha hc
   have m1:=vf h (List.mem_of_getElem? ha)
   have m2:=vf h (List.mem_of_getElem? hb)
   have m3:=vf h (List.mem_of_getElem? hc)
   rw[tB m1 m3]at P7
   rw[tB m3 m2]at mf
   rw[tB m1 m2]
   omega
  ·
   obtain rfl:i=j:=by omega
   obtain rfl:=Option.some.inj (ha.symm.trans hc)
   exact mf
theorem DM{p:cF}(h:cN p=true):gY p p=false:=by
 cases hx:gY p p with
 |false=>rfl
 |true=>rw[tB h h]at hx;omega
theorem P8{t:List Rt}(h:dD t=true){q:cF}(hq:cN q=true)(a b:Nat)(yD:a≤b)(hb:b<t.length)(ha:behind t q a=true):behind t q b=true:=by
 obtain⟨x,hx⟩: ∃x,t[a]? =some x:=⟨t[a],by simp[show a<t.length by omega]⟩
 obtain⟨y,hy⟩: ∃y,t[b]? =some y:=⟨t[b],by simp[hb]⟩
 simp only[behind,hx,hy,Bool.not_eq_true']at ha⊢
 rcases Nat.lt_or_ge a b with h1|h1
 ·
  have hl:=DL h a b x y h1 hx hy
  have m1:=vf h (List.mem_of_getElem? hx)
  have m2:=vf h (List.mem_of_getElem? hy)
  cases hz:gY y.p q with
  |false=>rfl
  |true=>
   rw[tB m1 m2]at hl
   rw[tB m2 hq]at hz
   have:gY x.p q=true:=by rw[tB m1 hq];omega
   rw[this]at ha;cases ha
 ·
  obtain rfl:a=b:=by omega
  obtain rfl:=Option.some.inj (hx.symm.trans hy)
  exact ha
theorem P9{t:List Rt}(h:dD t=true){q:cF}(hq:cN q=true){r:Rt}(hr:r∈t)(e:r.p=q):t[dR t q]? =some r∧lp t q=true:=by
 obtain⟨h1,h2,h3⟩:=P5 (p:=behind t q) (n:=t.length) fun a b=>P8 h hq a b
 obtain⟨i,hi⟩:=List.mem_iff_getElem?.1 hr
 have gm:=(List.getElem?_eq_some_iff.1 hi).1
 have e1:dR t q=i:=by
  have IZ:behind t q i=true:=by simp only[behind,hi,e,DM hq];rfl
  rcases Nat.lt_trichotomy (dR t q) i with h4|h4|h4
  ·
   obtain⟨x,hx⟩: ∃x,t[dR t q]? =some x:=⟨t[dR t q],by simp[show dR t q<t.length by omega]⟩
   have h5:=h3 (dR t q) (Nat.le_refl _) (by omega)
   have h6:=DL h _ _ x r h4 hx hi
   simp only[behind,hx]at h5
   rw[e]at h6;rw[h6]at h5;cases h5
  ·
   exact h4
  ·
   have:=h2 i h4;rw[this]at IZ;cases IZ
 rw[lp,e1,hi]
 exact⟨rfl,by simp[e]⟩
theorem An{t:List Rt}{q:cF}(h:lp t q=true): ∃r∈t,t[dR t q]? =some r∧r.p=q:=by
 rw[lp]at h
 cases e:t[dR t q]?with
 |none=>rw[e]at h;cases h
 |some r=>rw[e]at h;exact⟨r,List.mem_of_getElem? e,rfl,by simpa using h⟩
section
variable {t:List Rt} {k:Key} {bits:Int}
theorem I0(hb:bits=32∨bits=128){n:Nat}(hn:(n:Int)≤bits):cN ⟨bits,n,dj k n⟩=true:=
 (kX _).2 ⟨hb,by simp,hn,by simp only;rw[BZ];congr 1;omega⟩
theorem xG(h:dD t=true)(hb:bits=32∨bits=128){n:Nat}(hn:(n:Int)≤bits){r:Rt}:pd t k bits n=some r↔r∈t∧r.p=⟨bits,n,dj k n⟩:=by
 constructor
 ·
  intro e
  unfold pd at e
  split at e
  ·
   rename_i hp
   obtain⟨r',h1,h2,h3⟩:=An hp
   rw[h2]at e
   obtain rfl:=Option.some.inj e
   exact⟨h1,h3⟩
  ·
   cases e
 ·
  rintro⟨h1,h2⟩
  obtain⟨h3,h4⟩:=P9 h (I0 hb hn) h1 h2
  rw[pd,if_pos h4,h3]
theorem I1(h:dD t=true)(hb:bits=32∨bits=128): ∀{n:Nat} {r:Rt},(n:Int)≤bits→lq t k bits n=some r→r∈t∧(∃m:Nat,m≤n∧r.p=⟨bits,m,dj k m⟩)∧ ∀q∈t,∀m:Nat,m≤n→q.p=⟨bits,m,dj k m⟩→q.p.len≤r.p.len
 |0,r,hn,e=>by
  obtain⟨h1,h2⟩:=(xG h hb hn).1 e
  exact⟨h1,⟨0,Nat.le_refl _,h2⟩,fun q _ m hm hq=>by rw[hq,h2];simp;omega⟩
 |n+1,r,hn,e=>by
  rw[lq]at e
  cases hx:pd t k bits (n+1)with
  |some r'=>
   rw[hx]at e
   obtain rfl:=Option.some.inj e
   obtain⟨h1,h2⟩:=(xG h hb hn).1 hx
   exact⟨h1,⟨n+1,Nat.le_refl _,h2⟩,fun q _ m hm hq=>by rw[hq,h2];simp;omega⟩
  |none=>
   rw[hx]at e
   obtain⟨h1,⟨m,hm,h2⟩,h3⟩:=I1 h hb (by omega) e
   refine⟨h1,⟨m,by omega,h2⟩,fun q hq m' XM e'=> ?_⟩
   rcases Nat.lt_or_ge n m' with h4|h4
   ·
    obtain rfl:m'=n+1:=by omega
    rw[(xG h hb hn).2 ⟨hq,e'⟩]at hx;cases hx
   ·
    exact h3 q hq m' h4 e'
theorem I2(h:dD t=true)(hb:bits=32∨bits=128): ∀{n:Nat},(n:Int)≤bits→lq t k bits n=none→ ∀q∈t,∀m:Nat,m≤n→q.p≠⟨bits,m,dj k m⟩
 |0,hn,e=>fun q hq m hm e'=>by
  obtain rfl:m=0:=by omega
  rw[lq,(xG h hb hn).2 ⟨hq,e'⟩]at e;cases e
 |n+1,hn,e=>fun q hq m hm e'=>by
  rw[lq]at e
  cases hx:pd t k bits (n+1)with
  |some r'=>rw[hx]at e;cases e
  |none=>
   rw[hx]at e
   rcases Nat.lt_or_ge n m with h4|h4
   ·
    obtain rfl:m=n+1:=by omega
    rw[(xG h hb hn).2 ⟨hq,e'⟩]at hx;cases hx
   ·
    exact I2 h hb (by omega) e q hq m h4 e'
theorem I3{r:Rt}(Qa:r.p.bits=bits)(hf:jX r.p k=true): ∃m:Nat,(m:Int)≤bits∧r.p=⟨bits,m,dj k m⟩:=by
 obtain⟨h1,_,h3⟩:=(tA _ _).1 hf
 obtain⟨_,h4,h5,_⟩:=(kX _).1 h1
 refine⟨r.p.len.toNat,by omega,?_⟩
 obtain⟨⟨b,l,q⟩,eA⟩:=r
 simp only at*
 have:((l.toNat:Nat):Int)=l:=by omega
 rw[this,h3,Qa]
theorem Qb(hb:bits=32∨bits=128)(hk:dj k bits=k){r:Rt}{m:Nat}(hm:(m:Int)≤bits)(e:r.p=⟨bits,m,dj k m⟩):r.p.bits=bits∧jX r.p k=true:=by
 refine⟨by rw[e],(tA _ _).2 ⟨by rw[e];exact I0 hb hm,by rw[e];exact hk,by rw[e]⟩⟩
end
structure Ord(t:List Rt):Prop where
  may: ∀r∈t,cN r.p=true
  less:t.Pairwise fun a b=>gY a.p b.p=true
theorem Qc{t:List Rt}(h:dD t=true):Ord t:=⟨fun _ hr=>vf h hr,by
  rw[List.pairwise_iff_getElem]
  intro i j hi hj mS
  exact DL h i j _ _ mS (by simp[hi]) (by simp[hj])⟩
theorem Ord.uniq{t:List Rt}(h:Ord t){a b:Rt}(ha:a∈t)(hb:b∈t)(e:a.p=b.p):a=b:=by
  obtain⟨i,hi,rfl⟩:=List.getElem_of_mem ha
  obtain⟨j,hj,rfl⟩:=List.getElem_of_mem hb
  have hp:=List.pairwise_iff_getElem.1 h.less
  have hm:=h.may _ hb
  rcases Nat.lt_trichotomy i j with h1|h1|h1
  ·have:=hp i j hi hj h1;rw[e,DM hm]at this;cases this
  ·subst h1;rfl
  ·have:=hp j i hj hi h1;rw[e,DM hm]at this;cases this
theorem Qd{a b:cF}(h:rO a b=true)(hl:b.len≤a.len):a=b:=by
  obtain⟨a1,a2,a3,a4,a5⟩:=(zg a b).1 h
  obtain⟨_,_,_,b4⟩:=(kX b).1 a2
  have e:a.len=b.len:=by omega
  have hk:a.key=b.key:=by rw[←a5,e,b4]
  cases a;cases b;simp_all
def Ao(r:Rt)(p:cF):Bool:=decide (r.p≠p)&&rO r.p p
theorem Qe{r:Rt}{p:cF}:Ao r p=true↔r.p≠p∧rO r.p p=true:=by simp[Ao]
def Qf(t:List Rt)(p:cF):Option Rt:=t.reverse.find? fun r=>Ao r p
def gL(k:Key)(bits:Int)(r:Rt):Bool:=decide (r.p.bits=bits)&&jX r.p k
def XN(t:List Rt)(r:Rt):Bool:=match Qf t r.p with
  |none=>true
  |some o=> !decide (o.eA=r.eA)
structure Qg(t:List Rt)(F:Rt→Prop):Prop where
  comp: ∀a b,a∈t→b∈t→F a→F b→b.p.len≤a.p.len→rO b.p a.p=true
  up: ∀a b,a∈t→b∈t→F a→Ao b a.p=true→F b
theorem Qh{t:List Rt}(k:Key)(bits:Int):Qg t fun r=>gL k bits r=true:=
  ⟨fun a b _ _ ha hb hl=>by
    simp only[gL,Bool.and_eq_true,decide_eq_true_eq]at ha hb
    exact MF hb.2 ha.2 (hb.1.trans ha.1.symm) hl,
   fun a b _ _ ha hb=>by
    simp only[gL,Bool.and_eq_true,decide_eq_true_eq]at ha⊢
    obtain⟨h1,h2⟩:=Qe.1 hb
    exact⟨((zg _ _).1 h2).2.2.1.trans ha.1,MG h2 ha.2⟩⟩
structure Ch where
 r:Rt
 gone:Bool
 deriving DecidableEq
def I4:Ch:=⟨fI,false⟩
def gf(x:Ch):Array Value:=aw x.r++ #[.bool x.gone]
theorem I5(x:Ch):(gf x).size=20:=by unfold gf;rw[Array.size_append,hU];rfl
theorem I6(x:Ch)(j:Nat)(h:j<19):(gf x)[j]? =(aw x.r)[j]? :=by
 unfold gf;rw[Array.getElem?_append_left (by rw[hU];exact h)]
theorem Qi(x:Ch):(gf x)[19]? =some (.bool x.gone):=by
 unfold gf;rw[Array.getElem?_append_right (by rw[hU];omega),hU];rfl
def iv(t:List Rt)(c:Ch):Int:=if cN c.r.p=true then(if lp t c.r.p=true then 0 else if c.gone=true then 6 else if 256≤t.length then 5 else 0)else 1
def lr(t:List Rt)(c:Ch):List Rt:=
 if iv t c=0 then(if c.gone=true then t.take (dR t c.r.p)++t.drop (dR t c.r.p+1)else if lp t c.r.p=true then t.set (dR t c.r.p) c.r else t.take (dR t c.r.p)++c.r::t.drop (dR t c.r.p))else t
theorem Qj{t:List Rt}(h:t.length≤256)(c:Ch):(lr t c).length≤256:=by
 unfold lr
 split
 ·
  rename_i he
  split
  ·
   simp only[List.length_append,List.length_take,List.length_drop];omega
  ·
   split
   ·
    simpa using h
   ·
    rename_i h1 h2
    have:t.length<256:=by
     apply Classical.byContradiction;intro hn
     unfold iv at he
     rw[if_neg h2,if_neg h1,if_pos (show 256≤t.length by omega)]at he
     split at he<;>omega
    have hp:=IY t c.r.p
    simp only[List.length_append,List.length_take,List.length_cons,List.length_drop];omega
 ·
  exact h
def qi:List Rt→List Ch→List Rt×Int
 |t,[]=>(t,0)
 |t,c::l=>if iv t c=0 then qi (lr t c) l else(t,iv t c)
theorem I7{t:List Rt}{l:List Ch}{i:Nat}{c:Ch}(hc:l[i]? =some c):qi t (l.drop i)=if iv t c=0 then qi (lr t c) (l.drop (i+1))else(t,iv t c):=by
 obtain⟨hi,rfl⟩:=List.getElem?_eq_some_iff.1 hc
 rw[List.drop_eq_getElem_cons hi,qi]
def kc(t:List Rt)(l:List Ch):Int:=if dD t=true then(qi t l).2 else 1
def eO(t:List Rt)(l:List Ch):List Rt:=if kc t l=0 then(qi t l).1 else t
end Go.Kb
namespace Go.Proofs.YtaipiecplldinaaGreat
open Go.aL
instance XO:gC Tryz.prog 3:=⟨⟨_,Tryz.underlying3,rfl⟩,by kernel_rfl⟩
instance XP:kT Tryz.prog 3 .i64:=⟨Tryz.underlying3⟩
instance XQ:gC Tryz.prog 4:=⟨⟨_,Tryz.underlying4,rfl⟩,by kernel_rfl⟩
instance XR:gC Tryz.prog 5:=⟨⟨_,Tryz.underlying5,rfl⟩,by kernel_rfl⟩
instance XS:kT Tryz.prog 5 .u8:=⟨Tryz.underlying5⟩
instance XT:gC Tryz.prog 22:=⟨⟨_,Tryz.underlying22,rfl⟩,by kernel_rfl⟩
instance XU:eB Tryz.prog 22 48 4:=⟨Tryz.underlying22,by kernel_rfl⟩
instance XV:gC Tryz.prog 23:=⟨⟨_,Tryz.underlying23,rfl⟩,by kernel_rfl⟩
instance XW:eB Tryz.prog 23 94 4:=⟨Tryz.underlying23,by kernel_rfl⟩
instance XX:eQ Tryz.prog 25 6:=⟨⟨_,Tryz.underlying25,rfl⟩,by kernel_rfl⟩
instance XY:dA Tryz.prog 25 0 0:=⟨⟨_,_,0,Tryz.underlying25,rfl,rfl,by kernel_rfl⟩⟩
instance XZ:dA Tryz.prog 25 1 1:=⟨⟨_,_,0,Tryz.underlying25,rfl,rfl,by kernel_rfl⟩⟩
instance X0:dA Tryz.prog 25 2 2:=⟨⟨_,_,0,Tryz.underlying25,rfl,rfl,by kernel_rfl⟩⟩
instance X1:dA Tryz.prog 25 3 3:=⟨⟨_,_,0,Tryz.underlying25,rfl,rfl,by kernel_rfl⟩⟩
instance X2:dA Tryz.prog 25 4 4:=⟨⟨_,_,0,Tryz.underlying25,rfl,rfl,by kernel_rfl⟩⟩
instance X3:dA Tryz.prog 25 5 5:=⟨⟨_,_,0,Tryz.underlying25,rfl,rfl,by kernel_rfl⟩⟩
instance X4:gC Tryz.prog 26:=⟨⟨_,Tryz.underlying26,rfl⟩,by kernel_rfl⟩
instance X5:eB Tryz.prog 26 3 1:=⟨Tryz.underlying26,by kernel_rfl⟩
instance X6:gC Tryz.prog 27:=⟨⟨_,Tryz.underlying27,rfl⟩,by kernel_rfl⟩
instance X7:kT Tryz.prog 27 .u64:=⟨Tryz.underlying27⟩
instance X8:eQ Tryz.prog 29 9:=⟨⟨_,Tryz.underlying29,rfl⟩,by kernel_rfl⟩
instance X9:dA Tryz.prog 29 0 0:=⟨⟨_,_,5,Tryz.underlying29,rfl,rfl,by kernel_rfl⟩⟩
instance Ya:dA Tryz.prog 29 1 6:=⟨⟨_,_,0,Tryz.underlying29,rfl,rfl,by kernel_rfl⟩⟩
instance Yb:dA Tryz.prog 29 2 7:=⟨⟨_,_,0,Tryz.underlying29,rfl,rfl,by kernel_rfl⟩⟩
instance Yc:dA Tryz.prog 29 3 8:=⟨⟨_,_,0,Tryz.underlying29,rfl,rfl,by kernel_rfl⟩⟩
instance Yd:gC Tryz.prog 38:=⟨⟨_,Tryz.underlying38,rfl⟩,by kernel_rfl⟩
instance Ye:eB Tryz.prog 38 5 1:=⟨Tryz.underlying38,by kernel_rfl⟩
instance Yf:eB Tryz.prog 43 50 4:=⟨Tryz.underlying43,by kernel_rfl⟩
instance Yg:gC Tryz.prog 46:=⟨⟨_,Tryz.underlying46,rfl⟩,by kernel_rfl⟩
instance Yh:eB Tryz.prog 46 38 1:=⟨Tryz.underlying46,by kernel_rfl⟩
instance Yi:eQ Tryz.prog 48 4:=⟨⟨_,Tryz.underlying48,rfl⟩,by kernel_rfl⟩
instance Yj:dA Tryz.prog 48 0 0:=⟨⟨_,_,0,Tryz.underlying48,rfl,rfl,by kernel_rfl⟩⟩
instance Yk:dA Tryz.prog 48 1 1:=⟨⟨_,_,0,Tryz.underlying48,rfl,rfl,by kernel_rfl⟩⟩
instance Ym:dA Tryz.prog 48 2 2:=⟨⟨_,_,0,Tryz.underlying48,rfl,rfl,by kernel_rfl⟩⟩
instance Yn:dA Tryz.prog 48 3 3:=⟨⟨_,_,0,Tryz.underlying48,rfl,rfl,by kernel_rfl⟩⟩
instance Yo:eQ Tryz.prog 50 4:=⟨⟨_,Tryz.underlying50,rfl⟩,by kernel_rfl⟩
instance Yp:dA Tryz.prog 50 0 0:=⟨⟨_,_,0,Tryz.underlying50,rfl,rfl,by kernel_rfl⟩⟩
instance Yq:dA Tryz.prog 50 1 1:=⟨⟨_,_,0,Tryz.underlying50,rfl,rfl,by kernel_rfl⟩⟩
instance Yr:dA Tryz.prog 50 2 2:=⟨⟨_,_,0,Tryz.underlying50,rfl,rfl,by kernel_rfl⟩⟩
instance Ys:dA Tryz.prog 50 3 3:=⟨⟨_,_,0,Tryz.underlying50,rfl,rfl,by kernel_rfl⟩⟩
instance Yt:gC Tryz.prog 52:=⟨⟨_,Tryz.underlying52,rfl⟩,by kernel_rfl⟩
instance Yu:eB Tryz.prog 52 68 19:=⟨Tryz.underlying52,by kernel_rfl⟩
instance Yv:eQ Tryz.prog 54 10:=⟨⟨_,Tryz.underlying54,rfl⟩,by kernel_rfl⟩
instance Yw:dA Tryz.prog 54 0 0:=⟨⟨_,_,8,Tryz.underlying54,rfl,rfl,by kernel_rfl⟩⟩
instance Yx:dA Tryz.prog 54 1 9:=⟨⟨_,_,0,Tryz.underlying54,rfl,rfl,by kernel_rfl⟩⟩
instance Yy:eQ Tryz.prog 56 16:=⟨⟨_,Tryz.underlying56,rfl⟩,by kernel_rfl⟩
instance Yz:tg Tryz.prog 56 16 1:=⟨⟨_,Tryz.underlying56,by kernel_rfl⟩⟩
instance YA:eQ Tryz.prog 65 18:=⟨⟨_,Tryz.underlying65,rfl⟩,by kernel_rfl⟩
instance YB:dA Tryz.prog 65 0 0:=⟨⟨_,_,0,Tryz.underlying65,rfl,rfl,by kernel_rfl⟩⟩
instance YC:dA Tryz.prog 65 1 1:=⟨⟨_,_,0,Tryz.underlying65,rfl,rfl,by kernel_rfl⟩⟩
instance YD:dA Tryz.prog 65 2 2:=⟨⟨_,_,15,Tryz.underlying65,rfl,rfl,by kernel_rfl⟩⟩
instance YE:gC Tryz.prog 66:=⟨⟨_,Tryz.underlying66,rfl⟩,by kernel_rfl⟩
instance YF:kT Tryz.prog 66 .u16:=⟨Tryz.underlying66⟩
instance YG:eQ Tryz.prog 68 19:=⟨⟨_,Tryz.underlying68,rfl⟩,by kernel_rfl⟩
instance YH:dA Tryz.prog 68 0 0:=⟨⟨_,_,17,Tryz.underlying68,rfl,rfl,by kernel_rfl⟩⟩
instance YI:dA Tryz.prog 68 1 18:=⟨⟨_,_,0,Tryz.underlying68,rfl,rfl,by kernel_rfl⟩⟩
instance YJ:eB Tryz.prog 76 91 20:=⟨Tryz.underlying76,by kernel_rfl⟩
instance YK:eQ Tryz.prog 91 20:=⟨⟨_,Tryz.underlying91,rfl⟩,by kernel_rfl⟩
instance YL:dA Tryz.prog 91 0 0:=⟨⟨_,_,18,Tryz.underlying91,rfl,rfl,by kernel_rfl⟩⟩
instance YM:dA Tryz.prog 91 1 19:=⟨⟨_,_,0,Tryz.underlying91,rfl,rfl,by kernel_rfl⟩⟩
instance YN:eQ Tryz.prog 94 4:=⟨⟨_,Tryz.underlying94,rfl⟩,by kernel_rfl⟩
instance YO:dA Tryz.prog 94 0 0:=⟨⟨_,_,0,Tryz.underlying94,rfl,rfl,by kernel_rfl⟩⟩
instance YP:dA Tryz.prog 94 1 1:=⟨⟨_,_,0,Tryz.underlying94,rfl,rfl,by kernel_rfl⟩⟩
instance YQ:dA Tryz.prog 94 2 2:=⟨⟨_,_,0,Tryz.underlying94,rfl,rfl,by kernel_rfl⟩⟩
instance YR:dA Tryz.prog 94 3 3:=⟨⟨_,_,0,Tryz.underlying94,rfl,rfl,by kernel_rfl⟩⟩
instance YS:eQ Tryz.prog 102 2:=⟨⟨_,Tryz.underlying102,rfl⟩,by kernel_rfl⟩
instance YT:dA Tryz.prog 102 0 0:=⟨⟨_,_,0,Tryz.underlying102,rfl,rfl,by kernel_rfl⟩⟩
instance YU:dA Tryz.prog 102 1 1:=⟨⟨_,_,0,Tryz.underlying102,rfl,rfl,by kernel_rfl⟩⟩
instance YV:eB Tryz.prog 103 102 2:=⟨Tryz.underlying103,by kernel_rfl⟩
instance YW:eQ Tryz.prog 110 4:=⟨⟨_,Tryz.underlying110,rfl⟩,by kernel_rfl⟩
instance YX:dA Tryz.prog 110 0 0:=⟨⟨_,_,0,Tryz.underlying110,rfl,rfl,by kernel_rfl⟩⟩
instance YY:dA Tryz.prog 110 1 1:=⟨⟨_,_,0,Tryz.underlying110,rfl,rfl,by kernel_rfl⟩⟩
instance YZ:dA Tryz.prog 110 2 2:=⟨⟨_,_,0,Tryz.underlying110,rfl,rfl,by kernel_rfl⟩⟩
instance Y0:dA Tryz.prog 110 3 3:=⟨⟨_,_,0,Tryz.underlying110,rfl,rfl,by kernel_rfl⟩⟩
instance Y1:gC Tryz.prog 139:=⟨⟨_,Tryz.underlying139,rfl⟩,by kernel_rfl⟩
instance Y2:dA Tryz.prog 141 0 0:=⟨⟨_,_,8,Tryz.underlying141,rfl,rfl,by kernel_rfl⟩⟩
instance Y3:dA Tryz.prog 141 1 9:=⟨⟨_,_,0,Tryz.underlying141,rfl,rfl,by kernel_rfl⟩⟩
instance Y4:eQ Tryz.prog 147 2:=⟨⟨_,Tryz.underlying147,rfl⟩,by kernel_rfl⟩
instance Y5:dA Tryz.prog 147 0 0:=⟨⟨_,_,0,Tryz.underlying147,rfl,rfl,by kernel_rfl⟩⟩
instance Y6:dA Tryz.prog 147 1 1:=⟨⟨_,_,0,Tryz.underlying147,rfl,rfl,by kernel_rfl⟩⟩
instance Y7:eB Tryz.prog 161 26 1:=⟨Tryz.underlying161,by kernel_rfl⟩
instance Y8:eQ Tryz.prog 163 0:=⟨⟨_,Tryz.underlying163,rfl⟩,by kernel_rfl⟩
instance Y9:eB Tryz.prog 186 46 1:=⟨Tryz.underlying186,by kernel_rfl⟩
instance Za:kT Tryz.prog 191 .u32:=⟨Tryz.underlying191⟩
instance Zb:tg Tryz.prog 197 20 1:=⟨⟨_,Tryz.underlying197,by kernel_rfl⟩⟩
instance Zc:kT Tryz.prog 198 .u64:=⟨Tryz.underlying198⟩
instance Zd:eQ Tryz.prog 234 5:=⟨⟨_,Tryz.underlying234,rfl⟩,by kernel_rfl⟩
instance Ze:dA Tryz.prog 234 0 0:=⟨⟨_,_,3,Tryz.underlying234,rfl,rfl,by kernel_rfl⟩⟩
instance Zf:dA Tryz.prog 234 1 4:=⟨⟨_,_,0,Tryz.underlying234,rfl,rfl,by kernel_rfl⟩⟩
instance Zg:gC Tryz.prog 235:=⟨⟨_,Tryz.underlying235,rfl⟩,by kernel_rfl⟩
instance Zh:eB Tryz.prog 238 235 1:=⟨Tryz.underlying238,by kernel_rfl⟩
instance Zi:aM Tryz.prog 11:=⟨⟨Tryz.f11,Tryz.func11,by kernel_rfl,by kernel_rfl⟩⟩
instance Zj:aM Tryz.prog 12:=⟨⟨Tryz.f12,Tryz.func12,by kernel_rfl,by kernel_rfl⟩⟩
instance Zk:aM Tryz.prog 13:=⟨⟨Tryz.f13,Tryz.func13,by kernel_rfl,by kernel_rfl⟩⟩
instance Zl:aM Tryz.prog 14:=⟨⟨Tryz.f14,Tryz.func14,by kernel_rfl,by kernel_rfl⟩⟩
instance Zm:aM Tryz.prog 16:=⟨⟨Tryz.f16,Tryz.func16,by kernel_rfl,by kernel_rfl⟩⟩
instance Zn:aM Tryz.prog 18:=⟨⟨Tryz.f18,Tryz.func18,by kernel_rfl,by kernel_rfl⟩⟩
instance Zo:aM Tryz.prog 19:=⟨⟨Tryz.f19,Tryz.func19,by kernel_rfl,by kernel_rfl⟩⟩
instance Zp:aM Tryz.prog 20:=⟨⟨Tryz.f20,Tryz.func20,by kernel_rfl,by kernel_rfl⟩⟩
instance Zq:aM Tryz.prog 21:=⟨⟨Tryz.f21,Tryz.func21,by kernel_rfl,by kernel_rfl⟩⟩
instance Zr:aM Tryz.prog 22:=⟨⟨Tryz.f22,Tryz.func22,by kernel_rfl,by kernel_rfl⟩⟩
instance Zs:aM Tryz.prog 23:=⟨⟨Tryz.f23,Tryz.func23,by kernel_rfl,by kernel_rfl⟩⟩
instance Zt:aM Tryz.prog 24:=⟨⟨Tryz.f24,Tryz.func24,by kernel_rfl,by kernel_rfl⟩⟩
instance Zu:aM Tryz.prog 25:=⟨⟨Tryz.f25,Tryz.func25,by kernel_rfl,by kernel_rfl⟩⟩
instance Zv:aM Tryz.prog 26:=⟨⟨Tryz.f26,Tryz.func26,by kernel_rfl,by kernel_rfl⟩⟩
instance Zw:aM Tryz.prog 27:=⟨⟨Tryz.f27,Tryz.func27,by kernel_rfl,by kernel_rfl⟩⟩
instance Zx:aM Tryz.prog 28:=⟨⟨Tryz.f28,Tryz.func28,by kernel_rfl,by kernel_rfl⟩⟩
instance Zy:aM Tryz.prog 29:=⟨⟨Tryz.f29,Tryz.func29,by kernel_rfl,by kernel_rfl⟩⟩
instance Zz:aM Tryz.prog 31:=⟨⟨Tryz.f31,Tryz.func31,by kernel_rfl,by kernel_rfl⟩⟩
instance ZA:aM Tryz.prog 32:=⟨⟨Tryz.f32,Tryz.func32,by kernel_rfl,by kernel_rfl⟩⟩
instance ZB:aM Tryz.prog 33:=⟨⟨Tryz.f33,Tryz.func33,by kernel_rfl,by kernel_rfl⟩⟩
instance ZC:aM Tryz.prog 34:=⟨⟨Tryz.f34,Tryz.func34,by kernel_rfl,by kernel_rfl⟩⟩
instance ZD:aM Tryz.prog 35:=⟨⟨Tryz.f35,Tryz.func35,by kernel_rfl,by kernel_rfl⟩⟩
instance ZE:aM Tryz.prog 36:=⟨⟨Tryz.f36,Tryz.func36,by kernel_rfl,by kernel_rfl⟩⟩
instance ZF:aM Tryz.prog 37:=⟨⟨Tryz.f37,Tryz.func37,by kernel_rfl,by kernel_rfl⟩⟩
instance ZG:aM Tryz.prog 38:=⟨⟨Tryz.f38,Tryz.func38,by kernel_rfl,by kernel_rfl⟩⟩
instance ZH:aM Tryz.prog 39:=⟨⟨Tryz.f39,Tryz.func39,by kernel_rfl,by kernel_rfl⟩⟩
instance ZI:aM Tryz.prog 40:=⟨⟨Tryz.f40,Tryz.func40,by kernel_rfl,by kernel_rfl⟩⟩
instance ZJ:aM Tryz.prog 41:=⟨⟨Tryz.f41,Tryz.func41,by kernel_rfl,by kernel_rfl⟩⟩
instance ZK:aM Tryz.prog 42:=⟨⟨Tryz.f42,Tryz.func42,by kernel_rfl,by kernel_rfl⟩⟩
instance ZL:aM Tryz.prog 43:=⟨⟨Tryz.f43,Tryz.func43,by kernel_rfl,by kernel_rfl⟩⟩
instance ZM:aM Tryz.prog 44:=⟨⟨Tryz.f44,Tryz.func44,by kernel_rfl,by kernel_rfl⟩⟩
instance ZN:aM Tryz.prog 45:=⟨⟨Tryz.f45,Tryz.func45,by kernel_rfl,by kernel_rfl⟩⟩
instance ZO:aM Tryz.prog 46:=⟨⟨Tryz.f46,Tryz.func46,by kernel_rfl,by kernel_rfl⟩⟩
instance ZP:aM Tryz.prog 47:=⟨⟨Tryz.f47,Tryz.func47,by kernel_rfl,by kernel_rfl⟩⟩
instance ZQ:aM Tryz.prog 48:=⟨⟨Tryz.f48,Tryz.func48,by kernel_rfl,by kernel_rfl⟩⟩
instance ZR:aM Tryz.prog 49:=⟨⟨Tryz.f49,Tryz.func49,by kernel_rfl,by kernel_rfl⟩⟩
instance ZS:aM Tryz.prog 50:=⟨⟨Tryz.f50,Tryz.func50,by kernel_rfl,by kernel_rfl⟩⟩
instance ZT:aM Tryz.prog 51:=⟨⟨Tryz.f51,Tryz.func51,by kernel_rfl,by kernel_rfl⟩⟩
instance ZU:aM Tryz.prog 52:=⟨⟨Tryz.f52,Tryz.func52,by kernel_rfl,by kernel_rfl⟩⟩
instance ZV:aM Tryz.prog 53:=⟨⟨Tryz.f53,Tryz.func53,by kernel_rfl,by kernel_rfl⟩⟩
instance ZW:aM Tryz.prog 54:=⟨⟨Tryz.f54,Tryz.func54,by kernel_rfl,by kernel_rfl⟩⟩
instance ZX:aM Tryz.prog 55:=⟨⟨Tryz.f55,Tryz.func55,by kernel_rfl,by kernel_rfl⟩⟩
instance ZY:aM Tryz.prog 56:=⟨⟨Tryz.f56,Tryz.func56,by kernel_rfl,by kernel_rfl⟩⟩
instance ZZ:aM Tryz.prog 57:=⟨⟨Tryz.f57,Tryz.func57,by kernel_rfl,by kernel_rfl⟩⟩
instance aaa:aM Tryz.prog 58:=⟨⟨Tryz.f58,Tryz.func58,by kernel_rfl,by kernel_rfl⟩⟩
instance aab:aM Tryz.prog 59:=⟨⟨Tryz.f59,Tryz.func59,by kernel_rfl,by kernel_rfl⟩⟩
instance aac:aM Tryz.prog 60:=⟨⟨Tryz.f60,Tryz.func60,by kernel_rfl,by kernel_rfl⟩⟩
instance aad:aM Tryz.prog 61:=⟨⟨Tryz.f61,Tryz.func61,by kernel_rfl,by kernel_rfl⟩⟩
instance aae:aM Tryz.prog 62:=⟨⟨Tryz.f62,Tryz.func62,by kernel_rfl,by kernel_rfl⟩⟩
instance aaf:aM Tryz.prog 63:=⟨⟨Tryz.f63,Tryz.func63,by kernel_rfl,by kernel_rfl⟩⟩
instance aag:aM Tryz.prog 64:=⟨⟨Tryz.f64,Tryz.func64,by kernel_rfl,by kernel_rfl⟩⟩
instance aah:aM Tryz.prog 65:=⟨⟨Tryz.f65,Tryz.func65,by kernel_rfl,by kernel_rfl⟩⟩
instance aai:aM Tryz.prog 66:=⟨⟨Tryz.f66,Tryz.func66,by kernel_rfl,by kernel_rfl⟩⟩
instance aaj:aM Tryz.prog 67:=⟨⟨Tryz.f67,Tryz.func67,by kernel_rfl,by kernel_rfl⟩⟩
instance aak:aM Tryz.prog 68:=⟨⟨Tryz.f68,Tryz.func68,by kernel_rfl,by kernel_rfl⟩⟩
instance aal:aM Tryz.prog 69:=⟨⟨Tryz.f69,Tryz.func69,by kernel_rfl,by kernel_rfl⟩⟩
instance aam:aM Tryz.prog 70:=⟨⟨Tryz.f70,Tryz.func70,by kernel_rfl,by kernel_rfl⟩⟩
instance aan:aM Tryz.prog 71:=⟨⟨Tryz.f71,Tryz.func71,by kernel_rfl,by kernel_rfl⟩⟩
instance aao:aM Tryz.prog 72:=⟨⟨Tryz.f72,Tryz.func72,by kernel_rfl,by kernel_rfl⟩⟩
instance aap:aM Tryz.prog 73:=⟨⟨Tryz.f73,Tryz.func73,by kernel_rfl,by kernel_rfl⟩⟩
instance aaq:aM Tryz.prog 74:=⟨⟨Tryz.f74,Tryz.func74,by kernel_rfl,by kernel_rfl⟩⟩
instance aar:aM Tryz.prog 75:=⟨⟨Tryz.f75,Tryz.func75,by kernel_rfl,by kernel_rfl⟩⟩
instance aas:aM Tryz.prog 76:=⟨⟨Tryz.f76,Tryz.func76,by kernel_rfl,by kernel_rfl⟩⟩
instance aat:aM Tryz.prog 77:=⟨⟨Tryz.f77,Tryz.func77,by kernel_rfl,by kernel_rfl⟩⟩
instance aau:aM Tryz.prog 78:=⟨⟨Tryz.f78,Tryz.func78,by kernel_rfl,by kernel_rfl⟩⟩
instance aav:aM Tryz.prog 79:=⟨⟨Tryz.f79,Tryz.func79,by kernel_rfl,by kernel_rfl⟩⟩
instance aaw:aM Tryz.prog 80:=⟨⟨Tryz.f80,Tryz.func80,by kernel_rfl,by kernel_rfl⟩⟩
instance aax:aM Tryz.prog 81:=⟨⟨Tryz.f81,Tryz.func81,by kernel_rfl,by kernel_rfl⟩⟩
instance aay:aM Tryz.prog 82:=⟨⟨Tryz.f82,Tryz.func82,by kernel_rfl,by kernel_rfl⟩⟩
instance aaz:aM Tryz.prog 83:=⟨⟨Tryz.f83,Tryz.func83,by kernel_rfl,by kernel_rfl⟩⟩
instance aaA:aM Tryz.prog 84:=⟨⟨Tryz.f84,Tryz.func84,by kernel_rfl,by kernel_rfl⟩⟩
instance aaB:aM Tryz.prog 85:=⟨⟨Tryz.f85,Tryz.func85,by kernel_rfl,by kernel_rfl⟩⟩
instance aaC:aM Tryz.prog 86:=⟨⟨Tryz.f86,Tryz.func86,by kernel_rfl,by kernel_rfl⟩⟩
instance aaD:aM Tryz.prog 87:=⟨⟨Tryz.f87,Tryz.func87,by kernel_rfl,by kernel_rfl⟩⟩
instance aaE:aM Tryz.prog 88:=⟨⟨Tryz.f88,Tryz.func88,by kernel_rfl,by kernel_rfl⟩⟩
instance aaF:aM Tryz.prog 89:=⟨⟨Tryz.f89,Tryz.func89,by kernel_rfl,by kernel_rfl⟩⟩
instance aaG:aM Tryz.prog 90:=⟨⟨Tryz.f90,Tryz.func90,by kernel_rfl,by kernel_rfl⟩⟩
instance aaH:aM Tryz.prog 91:=⟨⟨Tryz.f91,Tryz.func91,by kernel_rfl,by kernel_rfl⟩⟩
instance aaI:aM Tryz.prog 92:=⟨⟨Tryz.f92,Tryz.func92,by kernel_rfl,by kernel_rfl⟩⟩
instance aaJ:aM Tryz.prog 93:=⟨⟨Tryz.f93,Tryz.func93,by kernel_rfl,by kernel_rfl⟩⟩
instance aaK:aM Tryz.prog 94:=⟨⟨Tryz.f94,Tryz.func94,by kernel_rfl,by kernel_rfl⟩⟩
instance aaL:aM Tryz.prog 95:=⟨⟨Tryz.f95,Tryz.func95,by kernel_rfl,by kernel_rfl⟩⟩
instance aaM:aM Tryz.prog 96:=⟨⟨Tryz.f96,Tryz.func96,by kernel_rfl,by kernel_rfl⟩⟩
instance aaN:aM Tryz.prog 97:=⟨⟨Tryz.f97,Tryz.func97,by kernel_rfl,by kernel_rfl⟩⟩
instance aaO:aM Tryz.prog 98:=⟨⟨Tryz.f98,Tryz.func98,by kernel_rfl,by kernel_rfl⟩⟩
instance aaP:aM Tryz.prog 99:=⟨⟨Tryz.f99,Tryz.func99,by kernel_rfl,by kernel_rfl⟩⟩
instance aaQ:aM Tryz.prog 100:=⟨⟨Tryz.f100,Tryz.func100,by kernel_rfl,by kernel_rfl⟩⟩
instance aaR:aM Tryz.prog 101:=⟨⟨Tryz.f101,Tryz.func101,by kernel_rfl,by kernel_rfl⟩⟩
instance aaS:aM Tryz.prog 102:=⟨⟨Tryz.f102,Tryz.func102,by kernel_rfl,by kernel_rfl⟩⟩
instance aaT:aM Tryz.prog 103:=⟨⟨Tryz.f103,Tryz.func103,by kernel_rfl,by kernel_rfl⟩⟩
instance aaU:aM Tryz.prog 104:=⟨⟨Tryz.f104,Tryz.func104,by kernel_rfl,by kernel_rfl⟩⟩
instance aaV:aM Tryz.prog 105:=⟨⟨Tryz.f105,Tryz.func105,by kernel_rfl,by kernel_rfl⟩⟩
instance aaW:aM Tryz.prog 106:=⟨⟨Tryz.f106,Tryz.func106,by kernel_rfl,by kernel_rfl⟩⟩
instance aaX:aM Tryz.prog 107:=⟨⟨Tryz.f107,Tryz.func107,by kernel_rfl,by kernel_rfl⟩⟩
instance aaY:aM Tryz.prog 108:=⟨⟨Tryz.f108,Tryz.func108,by kernel_rfl,by kernel_rfl⟩⟩
instance aaZ:aM Tryz.prog 109:=⟨⟨Tryz.f109,Tryz.func109,by kernel_rfl,by kernel_rfl⟩⟩
instance aa0:aM Tryz.prog 110:=⟨⟨Tryz.f110,Tryz.func110,by kernel_rfl,by kernel_rfl⟩⟩
instance aa1:aM Tryz.prog 111:=⟨⟨Tryz.f111,Tryz.func111,by kernel_rfl,by kernel_rfl⟩⟩
instance aa2:aM Tryz.prog 112:=⟨⟨Tryz.f112,Tryz.func112,by kernel_rfl,by kernel_rfl⟩⟩
instance aa3:aM Tryz.prog 113:=⟨⟨Tryz.f113,Tryz.func113,by kernel_rfl,by kernel_rfl⟩⟩
instance aa4:aM Tryz.prog 114:=⟨⟨Tryz.f114,Tryz.func114,by kernel_rfl,by kernel_rfl⟩⟩
instance aa5:aM Tryz.prog 115:=⟨⟨Tryz.f115,Tryz.func115,by kernel_rfl,by kernel_rfl⟩⟩
instance aa6:aM Tryz.prog 116:=⟨⟨Tryz.f116,Tryz.func116,by kernel_rfl,by kernel_rfl⟩⟩
instance aa7:aM Tryz.prog 117:=⟨⟨Tryz.f117,Tryz.func117,by kernel_rfl,by kernel_rfl⟩⟩
instance aa8:aM Tryz.prog 118:=⟨⟨Tryz.f118,Tryz.func118,by kernel_rfl,by kernel_rfl⟩⟩
instance aa9:aM Tryz.prog 119:=⟨⟨Tryz.f119,Tryz.func119,by kernel_rfl,by kernel_rfl⟩⟩
instance aba:aM Tryz.prog 120:=⟨⟨Tryz.f120,Tryz.func120,by kernel_rfl,by kernel_rfl⟩⟩
instance abb:aM Tryz.prog 121:=⟨⟨Tryz.f121,Tryz.func121,by kernel_rfl,by kernel_rfl⟩⟩
instance abc:aM Tryz.prog 122:=⟨⟨Tryz.f122,Tryz.func122,by kernel_rfl,by kernel_rfl⟩⟩
instance abd:aM Tryz.prog 123:=⟨⟨Tryz.f123,Tryz.func123,by kernel_rfl,by kernel_rfl⟩⟩
instance abe:aM Tryz.prog 124:=⟨⟨Tryz.f124,Tryz.func124,by kernel_rfl,by kernel_rfl⟩⟩
instance abf:aM Tryz.prog 125:=⟨⟨Tryz.f125,Tryz.func125,by kernel_rfl,by kernel_rfl⟩⟩
instance abg:aM Tryz.prog 126:=⟨⟨Tryz.f126,Tryz.func126,by kernel_rfl,by kernel_rfl⟩⟩
instance abh:aM Tryz.prog 127:=⟨⟨Tryz.f127,Tryz.func127,by kernel_rfl,by kernel_rfl⟩⟩
instance abi:aM Tryz.prog 128:=⟨⟨Tryz.f128,Tryz.func128,by kernel_rfl,by kernel_rfl⟩⟩
instance abj:aM Tryz.prog 129:=⟨⟨Tryz.f129,Tryz.func129,by kernel_rfl,by kernel_rfl⟩⟩
instance abk:aM Tryz.prog 130:=⟨⟨Tryz.f130,Tryz.func130,by kernel_rfl,by kernel_rfl⟩⟩
instance abl:aM Tryz.prog 131:=⟨⟨Tryz.f131,Tryz.func131,by kernel_rfl,by kernel_rfl⟩⟩
instance abm:aM Tryz.prog 132:=⟨⟨Tryz.f132,Tryz.func132,by kernel_rfl,by kernel_rfl⟩⟩
instance abn:aM Tryz.prog 133:=⟨⟨Tryz.f133,Tryz.func133,by kernel_rfl,by kernel_rfl⟩⟩
instance abo:aM Tryz.prog 134:=⟨⟨Tryz.f134,Tryz.func134,by kernel_rfl,by kernel_rfl⟩⟩
instance abp:aM Tryz.prog 135:=⟨⟨Tryz.f135,Tryz.func135,by kernel_rfl,by kernel_rfl⟩⟩
instance abq:aM Tryz.prog 136:=⟨⟨Tryz.f136,Tryz.func136,by kernel_rfl,by kernel_rfl⟩⟩
instance abr:aM Tryz.prog 137:=⟨⟨Tryz.f137,Tryz.func137,by kernel_rfl,by kernel_rfl⟩⟩
instance abt:aM Tryz.prog 138:=⟨⟨Tryz.f138,Tryz.func138,by kernel_rfl,by kernel_rfl⟩⟩
instance abu:aM Tryz.prog 139:=⟨⟨Tryz.f139,Tryz.func139,by kernel_rfl,by kernel_rfl⟩⟩
instance abv:aM Tryz.prog 140:=⟨⟨Tryz.f140,Tryz.func140,by kernel_rfl,by kernel_rfl⟩⟩
instance abw:aM Tryz.prog 144:=⟨⟨Tryz.f144,Tryz.func144,by kernel_rfl,by kernel_rfl⟩⟩
instance abx:aM Tryz.prog 145:=⟨⟨Tryz.f145,Tryz.func145,by kernel_rfl,by kernel_rfl⟩⟩
instance aby:aM Tryz.prog 146:=⟨⟨Tryz.f146,Tryz.func146,by kernel_rfl,by kernel_rfl⟩⟩
instance abz:aM Tryz.prog 147:=⟨⟨Tryz.f147,Tryz.func147,by kernel_rfl,by kernel_rfl⟩⟩
instance abA:aM Tryz.prog 148:=⟨⟨Tryz.f148,Tryz.func148,by kernel_rfl,by kernel_rfl⟩⟩
instance abB:aM Tryz.prog 149:=⟨⟨Tryz.f149,Tryz.func149,by kernel_rfl,by kernel_rfl⟩⟩
instance abC:aM Tryz.prog 150:=⟨⟨Tryz.f150,Tryz.func150,by kernel_rfl,by kernel_rfl⟩⟩
instance abD:aM Tryz.prog 151:=⟨⟨Tryz.f151,Tryz.func151,by kernel_rfl,by kernel_rfl⟩⟩
instance abE:aM Tryz.prog 152:=⟨⟨Tryz.f152,Tryz.func152,by kernel_rfl,by kernel_rfl⟩⟩
instance abF:aM Tryz.prog 153:=⟨⟨Tryz.f153,Tryz.func153,by kernel_rfl,by kernel_rfl⟩⟩
instance abG:aM Tryz.prog 154:=⟨⟨Tryz.f154,Tryz.func154,by kernel_rfl,by kernel_rfl⟩⟩
instance abH:aM Tryz.prog 155:=⟨⟨Tryz.f155,Tryz.func155,by kernel_rfl,by kernel_rfl⟩⟩
instance abI:aM Tryz.prog 156:=⟨⟨Tryz.f156,Tryz.func156,by kernel_rfl,by kernel_rfl⟩⟩
instance abJ:aM Tryz.prog 157:=⟨⟨Tryz.f157,Tryz.func157,by kernel_rfl,by kernel_rfl⟩⟩
instance abK:aM Tryz.prog 159:=⟨⟨Tryz.f159,Tryz.func159,by kernel_rfl,by kernel_rfl⟩⟩
instance abL:aM Tryz.prog 160:=⟨⟨Tryz.f160,Tryz.func160,by kernel_rfl,by kernel_rfl⟩⟩
instance abM:aM Tryz.prog 161:=⟨⟨Tryz.f161,Tryz.func161,by kernel_rfl,by kernel_rfl⟩⟩
instance abN:aM Tryz.prog 162:=⟨⟨Tryz.f162,Tryz.func162,by kernel_rfl,by kernel_rfl⟩⟩
instance abO:aM Tryz.prog 163:=⟨⟨Tryz.f163,Tryz.func163,by kernel_rfl,by kernel_rfl⟩⟩
instance abP:aM Tryz.prog 164:=⟨⟨Tryz.f164,Tryz.func164,by kernel_rfl,by kernel_rfl⟩⟩
instance abQ:aM Tryz.prog 165:=⟨⟨Tryz.f165,Tryz.func165,by kernel_rfl,by kernel_rfl⟩⟩
instance abR:aM Tryz.prog 166:=⟨⟨Tryz.f166,Tryz.func166,by kernel_rfl,by kernel_rfl⟩⟩
instance abS:aM Tryz.prog 167:=⟨⟨Tryz.f167,Tryz.func167,by kernel_rfl,by kernel_rfl⟩⟩
instance abT:aM Tryz.prog 168:=⟨⟨Tryz.f168,Tryz.func168,by kernel_rfl,by kernel_rfl⟩⟩
instance abU:aM Tryz.prog 169:=⟨⟨Tryz.f169,Tryz.func169,by kernel_rfl,by kernel_rfl⟩⟩
instance abV:aM Tryz.prog 170:=⟨⟨Tryz.f170,Tryz.func170,by kernel_rfl,by kernel_rfl⟩⟩
instance abW:aM Tryz.prog 171:=⟨⟨Tryz.f171,Tryz.func171,by kernel_rfl,by kernel_rfl⟩⟩
instance abX:aM Tryz.prog 172:=⟨⟨Tryz.f172,Tryz.func172,by kernel_rfl,by kernel_rfl⟩⟩
instance abY:aM Tryz.prog 173:=⟨⟨Tryz.f173,Tryz.func173,by kernel_rfl,by kernel_rfl⟩⟩
instance abZ:aM Tryz.prog 174:=⟨⟨Tryz.f174,Tryz.func174,by kernel_rfl,by kernel_rfl⟩⟩
instance ab0:aM Tryz.prog 175:=⟨⟨Tryz.f175,Tryz.func175,by kernel_rfl,by kernel_rfl⟩⟩
instance ab1:aM Tryz.prog 176:=⟨⟨Tryz.f176,Tryz.func176,by kernel_rfl,by kernel_rfl⟩⟩
instance ab2:aM Tryz.prog 178:=⟨⟨Tryz.f178,Tryz.func178,by kernel_rfl,by kernel_rfl⟩⟩
instance ab3:aM Tryz.prog 179:=⟨⟨Tryz.f179,Tryz.func179,by kernel_rfl,by kernel_rfl⟩⟩
instance ab4:aM Tryz.prog 180:=⟨⟨Tryz.f180,Tryz.func180,by kernel_rfl,by kernel_rfl⟩⟩
instance ab5:aM Tryz.prog 181:=⟨⟨Tryz.f181,Tryz.func181,by kernel_rfl,by kernel_rfl⟩⟩
instance ab6:aM Tryz.prog 182:=⟨⟨Tryz.f182,Tryz.func182,by kernel_rfl,by kernel_rfl⟩⟩
instance ab7:aM Tryz.prog 183:=⟨⟨Tryz.f183,Tryz.func183,by kernel_rfl,by kernel_rfl⟩⟩
instance ab8:aM Tryz.prog 184:=⟨⟨Tryz.f184,Tryz.func184,by kernel_rfl,by kernel_rfl⟩⟩
instance ab9:aM Tryz.prog 185:=⟨⟨Tryz.f185,Tryz.func185,by kernel_rfl,by kernel_rfl⟩⟩
instance aca:aM Tryz.prog 186:=⟨⟨Tryz.f186,Tryz.func186,by kernel_rfl,by kernel_rfl⟩⟩
instance acb:aM Tryz.prog 187:=⟨⟨Tryz.f187,Tryz.func187,by kernel_rfl,by kernel_rfl⟩⟩
instance acd:aM Tryz.prog 188:=⟨⟨Tryz.f188,Tryz.func188,by kernel_rfl,by kernel_rfl⟩⟩
instance ace:aM Tryz.prog 189:=⟨⟨Tryz.f189,Tryz.func189,by kernel_rfl,by kernel_rfl⟩⟩
instance acf:aM Tryz.prog 190:=⟨⟨Tryz.f190,Tryz.func190,by kernel_rfl,by kernel_rfl⟩⟩
instance acg:aM Tryz.prog 191:=⟨⟨Tryz.f191,Tryz.func191,by kernel_rfl,by kernel_rfl⟩⟩
instance ach:aM Tryz.prog 192:=⟨⟨Tryz.f192,Tryz.func192,by kernel_rfl,by kernel_rfl⟩⟩
instance aci:aM Tryz.prog 193:=⟨⟨Tryz.f193,Tryz.func193,by kernel_rfl,by kernel_rfl⟩⟩
instance acj:aM Tryz.prog 194:=⟨⟨Tryz.f194,Tryz.func194,by kernel_rfl,by kernel_rfl⟩⟩
instance ack:aM Tryz.prog 195:=⟨⟨Tryz.f195,Tryz.func195,by kernel_rfl,by kernel_rfl⟩⟩
instance acm:aM Tryz.prog 196:=⟨⟨Tryz.f196,Tryz.func196,by kernel_rfl,by kernel_rfl⟩⟩
instance acn:aM Tryz.prog 197:=⟨⟨Tryz.f197,Tryz.func197,by kernel_rfl,by kernel_rfl⟩⟩
instance aco:aM Tryz.prog 198:=⟨⟨Tryz.f198,Tryz.func198,by kernel_rfl,by kernel_rfl⟩⟩
end Go.Proofs.YtaipiecplldinaaGreat
namespace Go.aL
def qj:Nat→Value→Value→Prop
 |0, .int k _, .int k' _=>k=k'
 |1, .bool _, .bool _=>True
 |2, .string _, .string _=>True
 |_,_,_=>False
def nm:Value→Bool
 | .agg _=>true
 |_=>false
def uf(P:Program)(d:Nat)(t:TypeId)(iL:Bool)(ks:List Nat):Prop:=
 ∀(w:World) (x y:Value),nm x=iL→nm y=iL→x.cells.size=ks.length→y.cells.size=ks.length→
  (∀(i k:Nat),ks[i]? =some k→ ∃u v,x.cells[i]? =some u∧y.cells[i]? =some v∧qj k u v)→
  ∃r:Bool,(Op.equalIn d t x y).run P w= .ok r w∧(r=true↔ ∀i,i<ks.length→x.cells[i]? =y.cells[i]?)
section
variable {P:Program} {d:Nat} {t:TypeId}
theorem cells_one{x:Value}(h:nm x=false):x.cells= #[x]:=by
 cases x<;>simp_all[nm,Value.cells]
theorem DN{q:IntKind}(hu:P.underlying t=some (.int q)):uf P (d+1) t false [0]:=fun w x y hx hy _ _ hk=>by
 obtain⟨u,v,h1,h2,h3⟩:=hk 0 0 rfl
 rw[cells_one hx]at h1⊢
 rw[cells_one hy]at h2⊢
 simp at h1 h2
 subst h1 h2
 cases x<;>cases y<;>simp only[qj]at h3
 subst h3
 exact⟨_,run_equalIn_int w d t _ q _ _ hu,by simp⟩
theorem Qk(hu:P.underlying t=some .bool):uf P (d+1) t false [1]:=fun w x y hx hy _ _ hk=>by
 obtain⟨u,v,h1,h2,h3⟩:=hk 0 1 rfl
 rw[cells_one hx]at h1⊢
 rw[cells_one hy]at h2⊢
 simp at h1 h2
 subst h1 h2
 cases x<;>cases y<;>simp only[qj]at h3
 exact⟨_,run_equalIn_bool' w d t _ _ hu,by simp⟩
theorem I8{e:TypeId}{iL:Bool}{n:Nat}(hA: ∃de,P.underlying e=some de∧rB de=iL)(hn:(P.info? e).map (·.size)=some n)(h1:iL=false→n=1)
  {xs:Array Value} {off:Nat} (bB:off+n≤xs.size) (hp: ∀i u,off≤i→i<off+n→xs[i]? =some u→nm u=false) (w:World):
  ∃a,(part e xs off).run P w= .ok a w∧nm a=iL∧a.cells.size=n∧ ∀i,i<n→a.cells[i]? =xs[off+i]? :=by
 obtain⟨de,hu,hr⟩:=hA
 cases iL with
 |true=>
  refine⟨.agg (xs.extract off (off+n)),?_,rfl,by simp[Value.cells];omega,fun i hi=> ?_⟩
  ·
   simp only[part,Sem.run_bind,yR w hu,hr,Result.andThen_ok,if_true,jR w hn,Sem.run_pure]
  ·
   simp[Value.cells,Array.getElem?_extract]
   intro h;omega
 |false=>
  have:=h1 rfl
  subst this
  have hx:xs[off]? =some xs[off]:=by simp[show off<xs.size by omega]
  have DO:=hp off _ (Nat.le_refl _) (by omega) hx
  refine⟨xs[off],?_,DO,by rw[cells_one DO];rfl,fun i hi=> ?_⟩
  ·
   simp only[part,Sem.run_bind,yR w hu,hr,Result.andThen_ok,hx,Bool.false_eq_true,if_false,Sem.run_pure]
  ·
   obtain rfl:i=0:=by omega
   rw[cells_one DO,Nat.add_zero,hx];rfl
theorem I9{k:Nat}{u v:Value}(h:qj k u v):nm u=false∧nm v=false:=by
 unfold qj at h
 split at h<;>simp_all[nm]
structure nZ(P:Program)(d:Nat)(e:TypeId)(iL:Bool)(ks:List Nat):Prop where
 row: ∃de,P.underlying e=some de∧rB de=iL
 size:(P.info? e).map (·.size)=some ks.length
 one:iL=false→ks.length=1
 eq:uf P d e iL ks
theorem Ja{e:TypeId}{iL:Bool}{ks:List Nat}(he:nZ P d e iL ks){xs ys:Array Value}{off:Nat}(hx:off+ks.length≤xs.size)(hy:off+ks.length≤ys.size)
  (hk: ∀(i k:Nat),ks[i]? =some k→ ∃u v,xs[off+i]? =some u∧ys[off+i]? =some v∧qj k u v) (w:World):
  ∃a b r,(part e xs off).run P w= .ok a w∧(part e ys off).run P w= .ok b w∧(Op.equalIn d e a b).run P w= .ok r w∧(r=true↔ ∀i,i<ks.length→xs[off+i]? =ys[off+i]?):=by
 have plain: ∀i,off≤i→i<off+ks.length→ ∃u v k,xs[i]? =some u∧ys[i]? =some v∧qj k u v:=fun i h1 h2=>by
  obtain⟨u,v,h3,h4,h5⟩:=hk (i -off) _ (List.getElem?_eq_getElem (by omega))
  rw[show off+(i -off)=i by omega]at h3 h4
  exact⟨u,v,_,h3,h4,h5⟩
 obtain⟨a,a1,a2,a3,a4⟩:=I8 he.row he.size he.one hx (fun i u h1 h2 h3=>by
  obtain⟨u',v,k,h4,h5,h6⟩:=plain i h1 h2
  rw[h4]at h3;cases h3;exact(I9 h6).1) w
 obtain⟨b,b1,b2,b3,b4⟩:=I8 he.row he.size he.one hy (fun i u h1 h2 h3=>by
  obtain⟨u',v,k,h4,h5,h6⟩:=plain i h1 h2
  rw[h5]at h3;cases h3;exact(I9 h6).2) w
 obtain⟨r,r1,r2⟩:=he.eq w a b a2 b2 a3 b3 (fun i k mE=>by
  obtain⟨u,v,h1,h2,h3⟩:=hk i k mE
  have hi:i<ks.length:=(List.getElem?_eq_some_iff.1 mE).1
  exact⟨u,v,by rw[a4 i hi];exact h1,by rw[b4 i hi];exact h2,h3⟩)
 refine⟨a,b,r,a1,b1,r1,r2.trans ⟨fun h i hi=> ?_,fun h i hi=> ?_⟩⟩
 ·
  rw[←a4 i hi,←b4 i hi];exact h i hi
 ·
  rw[a4 i hi,b4 i hi];exact h i hi
theorem Jb{e:TypeId}{iL:Bool}{ks:List Nat}(he:nZ P d e iL ks){xs ys:Array Value}(w:World): ∀(is:List Nat),
  (∀j∈is,j*ks.length+ks.length≤xs.size∧j*ks.length+ks.length≤ys.size∧ ∀(i k:Nat),ks[i]? =some k→ ∃u v,xs[j*ks.length+i]? =some u∧ys[j*ks.length+i]? =some v∧qj k u v)→
  ∃r:Bool,(Op.eqItems d e ks.length xs ys is).run P w= .ok r w∧(r=true↔ ∀j∈is,∀i,i<ks.length→xs[j*ks.length+i]? =ys[j*ks.length+i]?)
 |[],_=>⟨true,by simp[Op.eqItems],by simp⟩
 |j::is,h=>by
  obtain⟨h1,h2,h3⟩:=h j (by simp)
  obtain⟨a,b,r,p1,p2,p3,qY⟩:=Ja he h1 h2 h3 w
  obtain⟨r',DP,DQ⟩:=Jb he w is (fun j' jD=>h j' (by simp[jD]))
  simp only[Op.eqItems,Sem.run_bind,p1,p2,p3,Result.andThen_ok]
  cases r
  ·
   refine⟨false,by simp,?_⟩
   simp only[Bool.false_eq_true,false_iff]
   intro e
   exact absurd (qY.2 (e j (by simp))) (by simp)
  ·
   refine⟨r',by simpa using DP,?_⟩
   rw[DQ]
   have:=qY.1 rfl
   constructor
   ·
    intro e j' jD
    rcases List.mem_cons.1 jD with rfl|jD
    ·
     exact this
    ·
     exact e j' jD
   ·
    intro e j' jD;exact e j' (by simp[jD])
theorem vo{ks:List Nat}: ∀{n j i:Nat},j<n→i<ks.length→(List.replicate n ks).flatten[j*ks.length+i]? =ks[i]?
 |0,j,i,h,_=>by omega
 |n+1,0,i,_,hi=>by
  rw[List.replicate_succ,List.flatten_cons,Nat.zero_mul,Nat.zero_add,List.getElem?_append_left hi]
 |n+1,j+1,i,h,hi=>by
  rw[List.replicate_succ,List.flatten_cons,List.getElem?_append_right (by rw[Nat.add_mul];omega),Nat.add_mul,show j*ks.length+1*ks.length+i -ks.length=j*ks.length+i by omega]
  exact vo (by omega) hi
theorem Ql{e:TypeId}{n:Nat}{iL:Bool}{ks:List Nat}(hu:P.underlying t=some (.array n e))(he:nZ P d e iL ks):uf P (d+1) t true (List.replicate n ks).flatten:=fun w x y hx hy sx sy hk=>by
 cases x<;>simp only[nm,Bool.false_eq_true]at hx
 cases y<;>simp only[nm,Bool.false_eq_true]at hy
 rename_i xs ys
 simp only[Value.cells]at sx sy hk⊢
 have hl:(List.replicate n ks).flatten.length=n*ks.length:=by simp
 rw[hl]at sx sy⊢
 obtain⟨i,hi⟩: ∃i,P.info? e=some i:=by
  cases h:P.info? e with
  |none=>have:=he.size;simp[h]at this
  |some i=>exact⟨i,rfl⟩
 have hc:P.cellsOf e=ks.length:=by have:=he.size;simp[Program.cellsOf,hi]at this⊢;exact this
 have bound: ∀j,j<n→j*ks.length+ks.length≤n*ks.length:=fun j hj=>by
  rw[←Nat.succ_mul];exact Nat.mul_le_mul_right _ hj
 obtain⟨r,hr,qY⟩:=Jb he (xs:=xs) (ys:=ys) w (List.range n) (fun j hj=>by
  have jD:=List.mem_range.1 hj
  have:=bound j jD
  refine⟨by omega,by omega,fun i k mE=> ?_⟩
  have gm:i<ks.length:=(List.getElem?_eq_some_iff.1 mE).1
  exact hk (j*ks.length+i) k (by rw[vo jD gm];exact mE))
 refine⟨r,by rw[run_equalIn_array w d xs ys hu hi,hc];exact hr,qY.trans ⟨fun h q hq=> ?_,fun h j hj i hi=> ?_⟩⟩
 ·
  have Dh:0<ks.length:=by
   rcases Nat.eq_zero_or_pos ks.length with h0|h0
   ·
    rw[h0]at hq;omega
   ·
    exact h0
  have h1:q/ks.length<n:=Nat.div_lt_of_lt_mul (by rw[Nat.mul_comm];exact hq)
  have h2:=h (q/ks.length) (List.mem_range.2 h1) (q%ks.length) (Nat.mod_lt _ Dh)
  rw[Nat.div_add_mod']at h2
  exact h2
 ·
  have:=bound j (List.mem_range.1 hj)
  exact h _ (by omega)
def Ap(P:Program)(d:Nat):Nat→List Field→List Nat→Prop
 |_,[],ks=>ks=[]
 |off,f::fs,ks=>f.name≠ "_" ∧f.offset=off∧ ∃iL k1 k2,ks=k1++k2∧nZ P d f.type iL k1∧Ap P d (off+k1.length) fs k2
theorem Jc{xs ys:Array Value}(w:World): ∀(fs:List Field) (off:Nat) (ks:List Nat),Ap P d off fs ks→off+ks.length≤xs.size→off+ks.length≤ys.size→
  (∀(i k:Nat),ks[i]? =some k→ ∃u v,xs[off+i]? =some u∧ys[off+i]? =some v∧qj k u v)→
  ∃r:Bool,(Op.eqFields d xs ys fs).run P w= .ok r w∧(r=true↔ ∀i,i<ks.length→xs[off+i]? =ys[off+i]?)
 |[],off,ks,h,_,_,_=>by
  simp only[Ap]at h
  subst h
  exact⟨true,by simp[Op.eqFields],by simp⟩
 |f::fs,off,ks,h,hx,hy,hk=>by
  obtain⟨hn,ho,iL,k1,k2,rfl,hp,zq⟩:=h
  simp only[List.length_append]at hx hy
  obtain⟨a,b,r,p1,p2,p3,qY⟩:=Ja hp (xs:=xs) (ys:=ys) (off:=off) (by omega) (by omega) (fun i k mE=>by
   have hi:i<k1.length:=(List.getElem?_eq_some_iff.1 mE).1
   exact hk i k (by rw[List.getElem?_append_left hi];exact mE)) w
  obtain⟨r',DP,DQ⟩:=Jc (xs:=xs) (ys:=ys) w fs (off+k1.length) k2 zq (by omega) (by omega) (fun i k mE=>by
   have:=hk (k1.length+i) k (by rw[List.getElem?_append_right (by omega)];simpa using mE)
   rw[Nat.add_assoc];exact this)
  subst ho
  simp only[Op.eqFields,hn,ne_eq,not_false_eq_true,if_true,Sem.run_bind,p1,p2,p3,Result.andThen_ok]
  cases r
  ·
   refine⟨false,by simp,?_⟩
   simp only[Bool.false_eq_true,false_iff]
   intro e
   exact absurd (qY.2 fun i hi=>e i (by simp;omega)) (by simp)
  ·
   refine⟨r',by simpa using DP,?_⟩
   rw[DQ]
   have:=qY.1 rfl
   simp only[List.length_append]
   constructor
   ·
    intro e i hi
    by_cases h1:i<k1.length
    ·
     exact this i h1
    ·
     have:=e (i -k1.length) (by omega)
     rw[show f.offset+k1.length+(i -k1.length)=f.offset+i by omega]at this
     exact this
   ·
    intro e i hi
    have:=e (k1.length+i) (by omega)
    rw[Nat.add_assoc];exact this
theorem DR{fs:Array Field}{ks:List Nat}(hu:P.underlying t=some (.struct fs))(hp:P.stoodInHeld t=false)(hf:Ap P d 0 fs.toList ks):uf P (d+1) t true ks:=fun w x y hx hy sx sy hk=>by
 cases x<;>simp only[nm,Bool.false_eq_true]at hx
 cases y<;>simp only[nm,Bool.false_eq_true]at hy
 rename_i xs ys
 simp only[Value.cells]at sx sy hk⊢
 have gw:P.fieldsOf t=fs:=by simp[Program.fieldsOf,hu]
 obtain⟨r,hr,qY⟩:=Jc (xs:=xs) (ys:=ys) w fs.toList 0 ks hf (by omega) (by omega) (fun i k mE=>by
  have:=hk i k mE
  simpa using this)
 refine⟨r,?_,by simpa using qY⟩
 rw[run_equalIn_struct w d t xs ys (by rw[gw];exact hu) hp,gw]
 exact hr
theorem uf.val{iL:Bool}{ks:List Nat}(h:uf P 10000 t iL ks)(hA:iL=true)(hg:P.eqGuardType P.depth t=false){xs ys:Array Value}{r:Bool}(sx:xs.size=ks.length)(sy:ys.size=ks.length)
  (hk: ∀(i k:Nat),ks[i]? =some k→ ∃u v,xs[i]? =some u∧ys[i]? =some v∧qj k u v) (hr:xs=ys↔r=true):th P t (.agg xs) (.agg ys) r where
 h w:=by
  subst hA
  obtain⟨q,h1,h2⟩:=h w (.agg xs) (.agg ys) rfl rfl sx sy hk
  have:q=r:=by
   rw[Bool.eq_iff_iff,h2,←hr]
   simp only[Value.cells]
   constructor
   ·
    intro e
    apply Array.ext_getElem?
    intro i
    by_cases hi:i<ks.length
    ·
     exact e i hi
    ·
     simp[show ¬i<xs.size by omega,show ¬i<ys.size by omega]
   ·
    rintro rfl i _;rfl
  rw[h1,this]
 plain:=hg
 agg:=⟨xs,ys,rfl,rfl⟩
end
end Go.aL
namespace Go.Proofs.YtaipiecplldinaaGreat
open Go.aL Go.Kb
instance (k:Key):fv (cc k) 16:=⟨fX k,by
 rw[Array.all_eq_true_iff_forall_mem];intro v hv
 simp only[cc,List.mem_toArray,List.mem_map]at hv
 obtain⟨i,_,rfl⟩:=hv;rfl⟩
instance (p:cF):fv (bY p) 18:=⟨mW p,by
 have h:(cc p.key).all (·.oneCell')=true:=(inferInstance:fv (cc p.key) 16).one
 rw[bY,Array.all_append,h];simp[Value.oneCell']⟩
instance (p:cF):cj (bY p) 0 (.int .i64 p.bits):=⟨pL p⟩
instance (p:cF):cj (bY p) 1 (.int .i64 p.len):=⟨oK p⟩
instance (p:cF):mU (bY p) 2 16 (cc p.key):=⟨fX _,fun j _=>kY p j⟩
theorem Jd(d:Nat):nZ Tryz.prog (d+1) 5 false [0]:=⟨⟨_,Tryz.underlying5,rfl⟩,by kernel_rfl,fun _=>rfl,DN Tryz.underlying5⟩
theorem DS(d:Nat):nZ Tryz.prog (d+1) 3 false [0]:=⟨⟨_,Tryz.underlying3,rfl⟩,by kernel_rfl,fun _=>rfl,DN Tryz.underlying3⟩
theorem Je(d:Nat):nZ Tryz.prog (d+1+1) 56 true (List.replicate 16 [0]).flatten:=⟨⟨_,Tryz.underlying56,rfl⟩,by kernel_rfl,(fun h=>by cases h),Ql Tryz.underlying56 (Jd d)⟩
theorem Qm:Tryz.prog.stoodInHeld 65=false:=by kernel_rfl
theorem Jf(d:Nat):nZ Tryz.prog (d+1+1+1) 65 true ([0]++([0]++((List.replicate 16 [0]).flatten++[]))):=⟨⟨_,Tryz.underlying65,rfl⟩,by kernel_rfl,(fun h=>by cases h),
 DR Tryz.underlying65 Qm ⟨by decide,rfl,_,_,_,rfl,DS _,by decide,rfl,_,_,_,rfl,DS _,by decide,rfl,_,_,_,rfl,Je _,rfl⟩⟩
theorem Qn:Tryz.prog.eqGuardType Tryz.prog.depth 56=false:=by kernel_rfl
theorem Qo:Tryz.prog.eqGuardType Tryz.prog.depth 65=false:=by kernel_rfl
instance (a b:Key):th Tryz.prog 56 (.agg (cc a)) (.agg (cc b)) (decide (a=b)):=
 (Je 9998).eq.val rfl Qn (fX a) (fX b) (fun i k hk=>by
  have hi:i<16:=(List.getElem?_eq_some_iff.1 hk).1
  have h0:k=0:=by
   have:k∈(List.replicate 16 [0]).flatten:=List.mem_of_getElem? hk
   simpa using this
  subst h0
  exact⟨_,_,jn a i hi,jn b i hi,rfl⟩) (by rw[decide_eq_true_iff];exact⟨Ge,fun h=>by rw[h]⟩)
instance (a b:cF):th Tryz.prog 65 (.agg (bY a)) (.agg (bY b)) (decide (a=b)):=
 (Jf 9997).eq.val rfl Qo (mW a) (mW b) (fun i k hk=>by
  have h0:k=0:=by
   have:k∈([0]++([0]++((List.replicate 16 [0]).flatten++[]))):=List.mem_of_getElem? hk
   simpa using this
  subst h0
  have hi:i<18:=(List.getElem?_eq_some_iff.1 hk).1
  match i,hi with
  |0,_=>exact⟨_,_,pL a,pL b,rfl⟩
  |1,_=>exact⟨_,_,oK a,oK b,rfl⟩
  |j+2,hi=>rw[Nat.add_comm j 2];exact⟨_,_,(kY a j).trans (jn _ j (by omega)),(kY b j).trans (jn _ j (by omega)),rfl⟩) (by rw[decide_eq_true_iff];exact⟨Gf,fun h=>by rw[h]⟩)
theorem ug:cc 0#128=(List.replicate 16 (Value.int .u8 0)).toArray:=by
 apply Array.ext'
 simp only[cc]
 refine List.eq_replicate_iff.2 ⟨by simp,fun v hv=> ?_⟩
 simp only[List.mem_map]at hv
 obtain⟨i,_,rfl⟩:=hv
 simp[ca]
instance (n m:Int)(k:Key):tj Tryz.prog 65 [(0, .int .i64 n),(1, .int .i64 m),(2, .agg (cc k))] (.agg (bY ⟨n,m,k⟩)):=⟨fun w=>by kernel_rfl⟩
instance:eC Tryz.prog 56 (.agg (cc 0#128)):=⟨by rw[ug];kernel_rfl⟩
instance:eC Tryz.prog 65 (.agg (bY ⟨0,0,0#128⟩)):=⟨by unfold bY;rw[ug];kernel_rfl⟩
open Go.aL Go.Kb
theorem Qp{p:cF}{k:Key}{n:Nat}(h:((decide ((n:Int)<p.len)&& !decide (jW p.key n=jW k n))||(decide (p.bits≤(n:Int))&& !decide (jW k n=0)))=false):
  ((n:Int)<p.len→p.key.getMsbD n=k.getMsbD n)∧(p.bits≤(n:Int)→k.getMsbD n=false):=by
 simp only[Bool.or_eq_false_iff,Bool.and_eq_false_imp,decide_eq_true_eq,Bool.not_eq_false',zf]at h
 refine⟨h.1,fun hb=> ?_⟩
 have:=h.2 hb
 rw[tz]at this
 cases e:k.getMsbD n with
 |false=>rfl
 |true=>rw[e]at this;simp at this
theorem Qq{p:cF}{k:Key}{n:Nat}(h:((decide ((n:Int)<p.len)&& !decide (jW p.key n=jW k n))||(decide (p.bits≤(n:Int))&& !decide (jW k n=0)))=true):
  ¬(((n:Int)<p.len→p.key.getMsbD n=k.getMsbD n)∧(p.bits≤(n:Int)→k.getMsbD n=false)):=by
 rintro⟨h1,h2⟩
 simp only[Bool.or_eq_true,Bool.and_eq_true,decide_eq_true_eq,Bool.not_eq_true',decide_eq_false_iff_not,zf]at h
 rcases h with⟨h3,h4⟩|⟨h3,h4⟩
 ·
  exact h4 (h1 h3)
 ·
  refine h4 ?_
  rw[tz,h2 h3];rfl
theorem Qr(n:Int):iS Tryz.prog 116 [.int .i64 n] (.bool (decide (n=32)||decide (n=128))):=⟨fun w=>by
 refine aW (args:=[_]) Tryz.func116 rfl Tryz.ntmps116 rfl ?_
 change Cw _ _ _ _ _ [(0, .int .i64 n)] []
 refine ay ?_
 refine aI ?_
 refine ae (aP rfl) ?_
 refine aG ?_
 refine ax ?_
 refine ay ?_
 refine aI ?_
 refine ae (au rfl) ?_
 refine ae (bt rfl rfl rfl) ?_
 refine ae (au rfl) ?_
 refine bD rfl rfl rfl (fun hg=>(au rfl).yl) ?_
 refine bD rfl rfl rfl (fun hg=>(bt (av hg rfl) rfl rfl).yl) ?_
 refine ae (hM rfl rfl rfl) ?_
 refine ae (aP rfl) ?_
 refine aG ?_
 refine ax ?_
 refine cD ?_
 refine an (.inl rfl) (dX rfl rfl) (fun w hw=> ?_)
 exact⟨rfl,hw.sub (List.nil_sublist _)⟩⟩
instance acp(n:Int):iS Tryz.prog 116 [.int .i64 n] (.bool (decide (n=32)||decide (n=128))):=Qr n
theorem Qs(k:Key)(n:Int):iS Tryz.prog 106 [.agg (cc k), .int .i64 n] (.int .i64 (jW k n)):=⟨fun w=>by
 refine aW (args:=[_,_]) Tryz.func106 rfl Tryz.ntmps106 rfl ?_
 change Cw _ _ _ _ _ [(0, .agg (cc k)),(1, .int .i64 n)] []
 refine ay ?_
 refine aI ?_
 refine bL rfl fun b2=> ?_
 refine ae (aP rfl) ?_
 refine aG ?_
 refine ax ?_
 refine ay ?_
 refine ay ?_
 refine aI ?_
 refine ae (au rfl) ?_
 refine ae (bt rfl rfl rfl) ?_
 refine ae (au rfl) ?_
 refine bD rfl rfl rfl (fun hg=>(au rfl).yl) ?_
 refine bD rfl rfl rfl (fun hg=>(bt (av hg rfl) rfl rfl).yl) ?_
 refine ae (hM rfl rfl rfl) ?_
 refine aG ?_
 refine ax ?_
 refine aq rfl (fun h0=> ?_) (fun h0=> ?_)
 ·
  simp at h0
  refine ay ?_
  refine aI ?_
  refine ae (aP rfl) ?_
  refine aG ?_
  refine ax ?_
  refine cD ?_
  refine cw ?_
  refine an (.inl rfl) (dX rfl rfl) (fun w hw=> ?_)
  exact⟨by rw[MB k n (by omega)],hw.sub (List.nil_sublist _)⟩
 ·
  simp at h0
  have hb:=kE k (n/8).toNat
  refine cS ?_
  refine ax ?_
  refine ay ?_
  refine aI ?_
  refine ae (au rfl) ?_
  refine ae (gV rfl rfl (by omega) (by omega)) ?_
  refine ae (pA rfl rfl (by omega) (by omega)) ?_
  refine ae (By rfl (jn _ _ (by omega))) ?_
  refine ae (mw rfl (Nat.lt_of_lt_of_le (kE _ _) (by decide))) ?_
  refine ae (aP rfl) ?_
  refine aG ?_
  refine ax ?_
  refine ay ?_
  refine ay ?_
  refine aI ?_
  refine ae (au rfl) ?_
  refine ae (ox rfl rfl (by omega) (by omega)) ?_
  refine ae (aP rfl) ?_
  refine aG ?_
  refine ax ?_
  refine eL ?_
  refine bK (X:=Int) (fun i=>[(6, .int .i64 i),(5, .int .i64 ((ca k (n/8).toNat/2^(i -n%8).toNat:Nat):Int))]) (fun i=>[ar b2 (cc k) 56]) (fun i=>n%8≤i∧i≤7) (fun i=>(7 -i).toNat) (n%8) (by omega) (Sub.cons rfl (Sub.cons (look_eq rfl (by rw[Int.sub_self];simp)) (Sub.nil _))) (fun w hw=>hw) ?_
  rintro i hI
  have hd:ca k (n/8).toNat/2^(i -n%8).toNat<256:=Nat.lt_of_le_of_lt (Nat.div_le_self _ _) hb
  have hd0:(0:Int)≤((ca k (n/8).toNat/2^(i -n%8).toNat:Nat):Int):=Int.natCast_nonneg _
  refine ay ?_
  refine ay ?_
  refine aI ?_
  refine ae (au rfl) ?_
  refine ae (bt rfl rfl rfl) ?_
  refine aG ?_
  refine ax ?_
  refine aq rfl (fun h1=> ?_) (fun h1=> ?_)
  ·
   have h1:=of_decide_eq_true h1
   refine cS ?_
   refine ax ?_
   refine ay ?_
   refine eL ?_
   refine aI ?_
   refine ae (au rfl) ?_
   refine ae (gV rfl rfl (by omega) (by omega)) ?_
   refine ae (aP rfl) ?_
   refine aG ?_
   refine jj ?_
   refine ax ?_
   refine aI ?_
   refine ae (au rfl) ?_
   refine ae (gk rfl rfl (by omega)) ?_
   refine ae (aP rfl) ?_
   refine aG ?_
   exact bh (i+1) (by omega) (by omega) (Sub.cons rfl (Sub.cons (look_eq rfl (by rw[show(i+1 -n%8).toNat=(i -n%8).toNat+1 by omega,Nat.pow_succ,←Nat.div_div_eq_div_mul];rfl)) (Sub.nil _))) (fun w hw=>hw)
  ·
   have h1:=of_decide_eq_false h1
   refine kj ?_
   refine eR ?_
   refine eR ?_
   refine kl ?_
   refine ax ?_
   refine ay ?_
   refine aI ?_
   refine ae (au rfl) ?_
   refine ae (ox rfl rfl (by omega) (by omega)) ?_
   refine ae (aP rfl) ?_
   refine aG ?_
   refine ax ?_
   refine cD ?_
   refine an (.inl rfl) (dX rfl rfl) (fun w hw=> ?_)
   exact⟨by rw[MA k n (by omega) (by omega),show i=7 by omega];rfl,hw.sub (List.nil_sublist _)⟩⟩
instance acq(k:Key)(n:Int):iS Tryz.prog 106 [.agg (cc k), .int .i64 n] (.int .i64 (jW k n)):=Qs k n
theorem Qu(k:Key)(h:Nat)(hh:h≤16):cI (cc 0#128) 0 ((cc k).extract 0 h)=cc (dj k ((8*h:Nat):Int)):=by
 refine Gd (by simp[cI,fX];omega) fun i hi=> ?_
 have hl:((cc k).extract 0 h).size=h:=by simp[fX];omega
 rw[B3 k (8*h) i hi]
 simp only[cI,hl,List.take_zero,List.nil_append,Nat.zero_add,List.getElem?_toArray]
 by_cases h1:i<h
 ·
  rw[List.getElem?_append_left (by simp[fX];omega),if_pos (by omega)]
  have:=jn k i hi
  simpa[h1]using this
 ·
  rw[List.getElem?_append_right (by simp[fX];omega),if_neg (by omega)]
  have h2:(cc 0#128)[i]? =some (.int .u8 ((0:Nat):Int)):=by rw[jn _ i hi];simp[ca]
  simp only[Array.length_toList,hl,List.getElem?_drop,show h+(i -h)=i by omega]
  rw[Array.getElem?_toList,h2]
  by_cases h3:8*i≤8*h
  ·
   rw[if_pos h3,show 8 -(8*h -8*i)=8 by omega,Nat.div_eq_of_lt (kE k i),Nat.zero_mul]
  ·
   rw[if_neg h3]
theorem Qv(b r:Nat)(hb:b<256)(hr:r≤8):kh .andNot .u8 b ((255/2^r:Nat):Int)=some (.int .u8 ((b/2^(8 -r)*2^(8 -r):Nat):Int)):=by
 have hm:255/2^r<256:=Nat.lt_of_le_of_lt (Nat.div_le_self _ _) (by omega)
 rw[LB hb hm]
 have key:b&&&(256 -1 -255/2^r)=b/2^(8 -r)*2^(8 -r):=by
  have e1:255/2^r=2^(8 -r) -1:=by
   match r,hr with
   |0,_|1,_|2,_|3,_|4,_|5,_|6,_|7,_|8,_=>rfl
   |n+9,h=>omega
  rw[e1]
  apply Nat.eq_of_testBit_eq
  intro j
  have e2:256 -1 -(2^(8 -r) -1)=2^8 -(2^(8 -r) -1+1):=by omega
  rw[Nat.testBit_and,e2,Nat.testBit_two_pow_sub_succ (by have:2^(8 -r)≤2^8:=Nat.pow_le_pow_right (by decide) (by omega);have:=Nat.two_pow_pos (8 -r);omega),Nat.testBit_two_pow_sub_one,Nat.testBit_mul_two_pow,Nat.testBit_div_two_pow]
  by_cases hj:8 -r≤j
  ·
   simp only[hj,show ¬j<8 -r by omega,decide_true,decide_false,Bool.not_false,Bool.and_true,Bool.true_and,show j -(8 -r)+(8 -r)=j by omega]
   by_cases h8:j<8
   ·
    simp[h8]
   ·
    have:b.testBit j=false:=Nat.testBit_lt_two_pow (Nat.lt_of_lt_of_le hb (by have:=Nat.pow_le_pow_right (n:=2) (by decide) (show 8≤j by omega);simpa using this))
    simp[this]
  ·
   simp[hj,show j<8 -r by omega]
 show some (Value.int .u8 ((b&&&(256 -1 -255/2^r):Nat):Int))=_
 rw[key]
theorem Qw(k:Key)(n:Int)(h0:1≤n)(h1:n<128)(h2:0<n%8):(cc (dj k ((8*(n/8).toNat:Nat):Int))).setIfInBounds (n/8).toNat (.int .u8 ((ca k (n/8).toNat/2^(8 -(n%8).toNat)*2^(8 -(n%8).toNat):Nat):Int))=cc (dj k n):=by
 have hb:=kE k (n/8).toNat
 rw[Mv _ _ _ (by omega) (Nat.lt_of_le_of_lt (Nat.div_mul_le_self _ _) hb)]
 congr 1
 refine tw fun i hi=> ?_
 rw[Ga _ _ _ i hi (Nat.lt_of_le_of_lt (Nat.div_mul_le_self _ _) hb),B3 k _ i hi]
 have e:dj k n=dj k ((n.toNat:Nat):Int):=by rw[Int.toNat_of_nonneg (by omega)]
 rw[e,B3 k n.toNat i hi]
 by_cases hj:i=(n/8).toNat
 ·
  rw[if_pos hj,if_neg (by omega),if_pos (by omega),hj,show n.toNat -8*(n/8).toNat=(n%8).toNat by omega]
 ·
  rw[if_neg hj]
  by_cases bB:i<(n/8).toNat
  ·
   rw[if_pos (by omega),if_pos (by omega)]
  ·
   rw[if_neg (by omega),if_neg (by omega),if_neg (by omega),if_neg (by omega)]
theorem Qx(k:Key)(n:Int)(h0:1≤n)(h2: ¬0<n%8):dj k ((8*(n/8).toNat:Nat):Int)=dj k n:=by
 congr 1;omega
theorem Qy(k:Key)(n:Int):iS Tryz.prog 79 [.agg (cc k), .int .i64 n] (.agg (cc (dj k n))):=⟨fun w=>by
 refine aW (args:=[_,_]) Tryz.func79 rfl Tryz.ntmps79 rfl ?_
 change Cw _ _ _ _ _ [(0, .agg (cc k)),(1, .int .i64 n)] []
 refine ay ?_
 refine aI ?_
 refine bL rfl fun b2=> ?_
 refine bx fun b4=> ?_
 refine aG ?_
 refine ax ?_
 refine ay ?_
 refine ay ?_
 refine aI ?_
 refine ae (au rfl) ?_
 refine ae (bt rfl rfl rfl) ?_
 refine aG ?_
 refine ax ?_
 refine aq rfl (fun h0=> ?_) (fun h0=> ?_)
 ·
  have h0:=of_decide_eq_true h0
  refine ay ?_
  refine aI ?_
  refine ae (dW rfl) ?_
  refine pC rfl rfl ?_
  refine aG ?_
  refine ax ?_
  refine cD ?_
  refine cw ?_
  refine an (.inl rfl) (y2 rfl rfl) (fun w hw=> ?_)
  exact⟨by rw[Mw k n (by omega)],hw.sub (List.nil_sublist _)⟩
 ·
  have h0:=of_decide_eq_false h0
  refine cS ?_
  refine ax ?_
  refine ay ?_
  refine aI ?_
  refine bx fun b5=> ?_
  refine aG ?_
  refine ax ?_
  refine ay ?_
  refine ay ?_
  refine aI ?_
  refine ae (au rfl) ?_
  refine ae (bt rfl rfl rfl) ?_
  refine aG ?_
  refine ax ?_
  refine aq rfl (fun h1=> ?_) (fun h1=> ?_)
  ·
   have h1:=of_decide_eq_true h1
   refine ay ?_
   refine aI ?_
   refine ae (dW rfl) ?_
   refine pC rfl rfl ?_
   refine aG ?_
   refine ax ?_
   refine cD ?_
   refine cw ?_
   refine an (.inl rfl) (y2 rfl rfl) (fun w hw=> ?_)
   exact⟨by rw[Mx k n (by omega)],hw.sub (List.nil_sublist _)⟩
  ·
   have h1:=of_decide_eq_false h1
   refine cS ?_
   refine ax ?_
   refine ay ?_
   refine aI ?_
   refine ae (au rfl) ?_
   refine ae (gV rfl rfl (by omega) (by omega)) ?_
   refine ae (aP rfl) ?_
   refine aG ?_
   refine ax ?_
   refine ay ?_
   refine tp 4 [] (by kernel_rfl) (by kernel_rfl) ?_
   simp only[List.take_succ_cons,List.take_zero]
   refine aT (au rfl) ?_
   refine aT (FH rfl rfl (by omega) (by omega)) ?_
   refine aT (au rfl) ?_
   refine aT (FH rfl rfl (by omega) (by omega)) ?_
   refine rC ?_
   refine rD ?_
   simp only[List.drop_succ_cons,List.drop_zero]
   refine BF (vs:=(cc k).extract 0 (n/8).toNat) rfl rfl (by have e:Nat.min (n/8).toNat (n/8).toNat=(n/8).toNat:=Nat.min_self _;rw[e,Array.size_extract,fX];omega) (fun w hw j hj=>by rw[Addr.fF,hw.cell (Has.h (b:=b2)),Nat.zero_add];simp at hj;simp[hj]) (LH (fv.one (cs:=cc k)) _ _) (by rw[Array.size_extract,fX,fX];omega) (Qu k _ (by omega)) ?_
   refine aG ?_
   refine ax ?_
   refine ay ?_
   refine ay ?_
   refine aI ?_
   refine ae (au rfl) ?_
   refine ae (ox rfl rfl (by omega) (by omega)) ?_
   refine ae (aP rfl) ?_
   refine aG ?_
   refine ax ?_
   refine ay ?_
   refine aI ?_
   refine ae (au rfl) ?_
   refine ae (bt rfl rfl rfl) ?_
   refine aG ?_
   refine ax ?_
   refine aq rfl (fun h2=> ?_) (fun h2=> ?_)
   ·
    have h2:=of_decide_eq_true h2
    refine tp 8 [] (by kernel_rfl) (by kernel_rfl) ?_
    simp only[List.take_succ_cons,List.take_zero]
    refine aT (au rfl) ?_
    refine aT (au rfl) ?_
    refine aT (pA rfl rfl (by omega) (by omega)) ?_
    refine aT (By rfl (jn _ _ (by omega))) ?_
    refine aT (au rfl) ?_
    refine aT (tm (p:=255) rfl rfl (by decide) (by omega)) ?_
    refine aT (bt rfl rfl (Qv _ _ (kE _ _) (by omega))) ?_
    refine aT (pA rfl rfl (by omega) (by omega)) ?_
    refine rC ?_
    refine rD ?_
    simp only[List.drop_succ_cons,List.drop_zero]
    refine dM rfl rfl (by rw[fX];omega) rfl (Qw k n (by omega) (by omega) h2) ?_
    refine aG ?_
    refine ax ?_
    refine ay ?_
    refine aI ?_
    refine ae (dW rfl) ?_
    refine pC rfl rfl ?_
    refine aG ?_
    refine ax ?_
    refine cD ?_
    refine an (.inl rfl) (y2 rfl rfl) (fun w hw=> ?_)
    exact⟨rfl,hw.sub (List.nil_sublist _)⟩
   ·
    have h2:=of_decide_eq_false h2
    refine cS ?_
    refine ax ?_
    refine ay ?_
    refine aI ?_
    refine ae (dW rfl) ?_
    refine pC rfl rfl ?_
    refine aG ?_
    refine ax ?_
    refine cD ?_
    refine an (.inl rfl) (y2 rfl rfl) (fun w hw=> ?_)
    exact⟨by rw[Qx k n (by omega) h2],hw.sub (List.nil_sublist _)⟩⟩
instance acr(k:Key)(n:Int):iS Tryz.prog 79 [.agg (cc k), .int .i64 n] (.agg (cc (dj k n))):=Qy k n
theorem Qz(p:cF):iS Tryz.prog 78 [.agg (bY p)] (.bool (cN p)):=⟨fun w=>by
 refine aW (args:=[_]) Tryz.func78 rfl Tryz.ntmps78 rfl ?_
 change Cw _ _ _ _ _ [(0, .agg (bY p))] []
 refine ay ?_
 refine aI ?_
 refine bL rfl fun b1=> ?_
 refine ae (aP rfl) ?_
 refine aG ?_
 refine ax ?_
 refine ay ?_
 refine ay ?_
 refine aI ?_
 refine ae (aA (o':=0) rfl rfl) ?_
 refine ae (bl rfl) ?_
 refine dQ (ki rfl) ?_
 refine ae (fU rfl) ?_
 refine ae (au rfl) ?_
 refine bD rfl rfl rfl (fun hg=>(aA (o':=1) rfl rfl).yl) ?_
 refine bD rfl rfl rfl (fun hg=>(bl (av hg rfl)).yl) ?_
 refine bD rfl rfl rfl (fun hg=>(bt (av hg rfl) rfl rfl).yl) ?_
 refine ae (hM rfl rfl rfl) ?_
 refine ae (au rfl) ?_
 refine bD rfl rfl rfl (fun hg=>(aA (o':=1) rfl rfl).yl) ?_
 refine bD rfl rfl rfl (fun hg=>(bl (av hg rfl)).yl) ?_
 refine bD rfl rfl rfl (fun hg=>(aA (o':=0) rfl rfl).yl) ?_
 refine bD rfl rfl rfl (fun hg=>(bl (av hg rfl)).yl) ?_
 refine bD rfl rfl rfl (fun hg=>(bt (av hg rfl) (av hg rfl) rfl).yl) ?_
 refine ae (hM rfl rfl rfl) ?_
 refine aG ?_
 refine ax ?_
 refine aq rfl (fun h0=> ?_) (fun h0=> ?_)
 ·
  refine ay ?_
  refine aI ?_
  refine ae (aP rfl) ?_
  refine aG ?_
  refine ax ?_
  refine cD ?_
  refine cw ?_
  refine an (.inl rfl) (dX rfl rfl) (fun w hw=> ?_)
  refine⟨?_,hw.sub (List.nil_sublist _)⟩
  have:cN p=false:=by unfold cN;simp at h0⊢;omega
  rw[this]
 ·
  refine cS ?_
  refine ax ?_
  refine ay ?_
  refine eF (by kernel_rfl) (by kernel_rfl) ?_
  refine aT (aA (o':=2) rfl rfl) ?_
  refine aT (eE rfl) ?_
  refine aT (aA (o':=1) rfl rfl) ?_
  refine aT (bl rfl) ?_
  refine oz (ki rfl) ?_
  refine aT (aA (o':=2) rfl rfl) ?_
  refine aT (eE rfl) ?_
  refine aT (yU rfl rfl) ?_
  refine aT (aP rfl) ?_
  refine qy ?_
  refine ax ?_
  refine cD ?_
  refine an (.inl rfl) (dX rfl rfl) (fun w hw=> ?_)
  refine⟨?_,hw.sub (List.nil_sublist _)⟩
  congr 2;unfold cN;simp at h0⊢;obtain⟨⟨h1,h2⟩,h3⟩:=h0;simp[h2,h3,show p.bits=32∨p.bits=128 by omega]⟩
instance acs(p:cF):iS Tryz.prog 78 [.agg (bY p)] (.bool (cN p)):=Qz p
theorem QA(p:cF):iS Tryz.prog 63 [.agg (bY p)] (.bool (cN p)):=⟨fun w=>by
 refine aW (args:=[_]) Tryz.func63 rfl Tryz.ntmps63 rfl ?_
 change Cw _ _ _ _ _ [(0, .agg (bY p))] []
 refine ay ?_
 refine aI ?_
 refine bL rfl fun b1=> ?_
 refine ae (aP rfl) ?_
 refine aG ?_
 refine ax ?_
 refine ay ?_
 refine ay ?_
 refine aI ?_
 refine ae (aA (o':=0) rfl rfl) ?_
 refine ae (bl rfl) ?_
 refine ae (bt rfl rfl rfl) ?_
 refine ae (au rfl) ?_
 refine dG rfl rfl rfl (fun hg=>(aA (o':=0) rfl rfl).yl) ?_
 refine dG rfl rfl rfl (fun hg=>(bl (av hg rfl)).yl) ?_
 refine dG rfl rfl rfl (fun hg=>(bt (av hg rfl) rfl rfl).yl) ?_
 refine ae (nD rfl rfl rfl) ?_
 refine ae (au rfl) ?_
 refine bD rfl rfl rfl (fun hg=>(aA (o':=1) rfl rfl).yl) ?_
 refine bD rfl rfl rfl (fun hg=>(bl (av hg rfl)).yl) ?_
 refine bD rfl rfl rfl (fun hg=>(bt (av hg rfl) rfl rfl).yl) ?_
 refine ae (hM rfl rfl rfl) ?_
 refine ae (au rfl) ?_
 refine bD rfl rfl rfl (fun hg=>(aA (o':=1) rfl rfl).yl) ?_
 refine bD rfl rfl rfl (fun hg=>(bl (av hg rfl)).yl) ?_
 refine bD rfl rfl rfl (fun hg=>(aA (o':=0) rfl rfl).yl) ?_
 refine bD rfl rfl rfl (fun hg=>(bl (av hg rfl)).yl) ?_
 refine bD rfl rfl rfl (fun hg=>(bt (av hg rfl) (av hg rfl) rfl).yl) ?_
 refine ae (hM rfl rfl rfl) ?_
 refine aG ?_
 refine ax ?_
 refine aq rfl (fun h0=> ?_) (fun h0=> ?_)
 ·
  simp at h0
  refine ay ?_
  refine aI ?_
  refine ae (aP rfl) ?_
  refine aG ?_
  refine ax ?_
  refine cD ?_
  refine cw ?_
  refine an (.inl rfl) (dX rfl rfl) (fun w hw=> ?_)
  refine⟨?_,hw.sub (List.nil_sublist _)⟩
  have:cN p=false:=by unfold cN;simp;omega
  rw[this]
 ·
  simp at h0
  refine cS ?_
  refine ax ?_
  refine ay ?_
  refine ay ?_
  refine aI ?_
  refine ae (aA (o':=1) rfl rfl) ?_
  refine ae (bl rfl) ?_
  refine ae (aP rfl) ?_
  refine aG ?_
  refine ax ?_
  refine eL ?_
  refine bK (X:=Int) (fun i=>[(3, .int .i64 i),(1, .pointer (some ⟨b1,0,none⟩))]) (fun i=>[ar b1 (bY p) 65]) (fun i=>p.len≤i∧i≤128∧ ∀j:Nat,p.len≤(j:Int)→(j:Int)<i→p.key.getMsbD j=false) (fun i=>(128 -i).toNat) p.len ⟨by omega,by omega,fun j h h2=>by omega⟩ (Sub.cons rfl (Sub.cons rfl (Sub.nil _))) (fun w hw=>hw) ?_
  rintro i ⟨rz,bb,hs⟩
  refine ay ?_
  refine ay ?_
  refine aI ?_
  refine ae (au rfl) ?_
  refine ae (bt rfl rfl rfl) ?_
  refine aG ?_
  refine ax ?_
  refine aq rfl (fun h1=> ?_) (fun h1=> ?_)
  ·
   have h1:=of_decide_eq_true h1
   refine cS ?_
   refine ax ?_
   refine ay ?_
   refine eL ?_
   refine ay ?_
   refine aI ?_
   refine ae (aA (o':=2) rfl rfl) ?_
   refine ae (eE rfl) ?_
   refine ae (au rfl) ?_
   refine dQ (ki rfl) ?_
   refine ae (bt rfl rfl rfl) ?_
   refine aG ?_
   refine ax ?_
   refine aq rfl (fun h2=> ?_) (fun h2=> ?_)
   ·
    simp at h2
    refine ay ?_
    refine aI ?_
    refine ae (aP rfl) ?_
    refine aG ?_
    refine ax ?_
    refine cD ?_
    refine fW ?_
    refine cw ?_
    refine cw ?_
    refine fW ?_
    refine cw ?_
    refine an (.inl rfl) (dX rfl rfl) (fun w hw=> ?_)
    refine⟨?_,hw.sub (List.nil_sublist _)⟩
    have:cN p=false:=by
     rw[←Bool.not_eq_true,Gn];rintro⟨_,_,_,h⟩;have:=h i.toNat (by omega) (by omega);rw[show i=((i.toNat:Nat):Int) by omega,tz,this]at h2;simp at h2
    rw[this]
   ·
    simp at h2
    refine cS ?_
    refine jj ?_
    refine ax ?_
    refine aI ?_
    refine ae (au rfl) ?_
    refine ae (gk rfl rfl (by omega)) ?_
    refine ae (aP rfl) ?_
    refine aG ?_
    exact bh (i+1) ⟨by omega,by omega,fun j hj db=>if e:(j:Int)=i then(by rw[←e,tz]at h2;simpa using h2)else hs j hj (by omega)⟩ (by omega) (Sub.cons rfl (Sub.cons rfl (Sub.nil _))) (fun w hw=>hw)
  ·
   have h1:=of_decide_eq_false h1
   refine kj ?_
   refine eR ?_
   refine eR ?_
   refine kl ?_
   refine ax ?_
   refine ay ?_
   refine aI ?_
   refine ae (aP rfl) ?_
   refine aG ?_
   refine ax ?_
   refine cD ?_
   refine an (.inl rfl) (dX rfl rfl) (fun w hw=> ?_)
   refine⟨?_,hw.sub (List.nil_sublist _)⟩
   have:cN p=true:=(Gn p).2 ⟨by omega,by omega,by omega,fun j hj db=>hs j db (by omega)⟩
   rw[this]⟩
instance acu(p:cF):iS Tryz.prog 63 [.agg (bY p)] (.bool (cN p)):=QA p
theorem QB(p:cF)(k:Key):iS Tryz.prog 64 [.agg (bY p), .agg (cc k)] (.bool (jX p k)):=⟨fun w=>by
 refine aW (args:=[_,_]) Tryz.func64 rfl Tryz.ntmps64 rfl ?_
 change Cw _ _ _ _ _ [(0, .agg (bY p)),(1, .agg (cc k))] []
 refine ay ?_
 refine aI ?_
 refine bL rfl fun b2=> ?_
 refine bL rfl fun b3=> ?_
 refine ae (aP rfl) ?_
 refine aG ?_
 refine ax ?_
 refine ay ?_
 refine ay ?_
 refine aI ?_
 refine ae (dW rfl) ?_
 refine dQ (ki rfl) ?_
 refine ae (fU rfl) ?_
 refine aG ?_
 refine ax ?_
 refine aq rfl (fun h0=> ?_) (fun h0=> ?_)
 ·
  simp at h0
  refine ay ?_
  refine aI ?_
  refine ae (aP rfl) ?_
  refine aG ?_
  refine ax ?_
  refine cD ?_
  refine cw ?_
  refine an (.inl rfl) (dX rfl rfl) (fun w hw=> ?_)
  refine⟨?_,hw.sub (List.nil_sublist _)⟩
  have:jX p k=false:=by unfold jX;simp[h0]
  rw[this]
 ·
  simp at h0
  refine cS ?_
  refine ax ?_
  refine ay ?_
  refine ay ?_
  refine aI ?_
  refine ae (aP rfl) ?_
  refine aG ?_
  refine ax ?_
  refine eL ?_
  refine bK (X:=Int) (fun i=>[(5, .int .i64 i),(2, .pointer (some ⟨b2,0,none⟩)),(3, .pointer (some ⟨b3,0,none⟩))]) (fun i=>[ar b3 (cc k) 56,ar b2 (bY p) 65]) (fun i=>0≤i∧i≤128∧ ∀j:Nat,(j:Int)<i→((j:Int)<p.len→p.key.getMsbD j=k.getMsbD j)∧(p.bits≤(j:Int)→k.getMsbD j=false)) (fun i=>(128 -i).toNat) 0 ⟨by omega,by omega,fun j h=>by omega⟩ (Sub.cons rfl (Sub.cons rfl (Sub.cons rfl (Sub.nil _)))) (fun w hw=>hw) ?_
  rintro i ⟨rz,bb,hs⟩
  refine ay ?_
  refine ay ?_
  refine aI ?_
  refine ae (au rfl) ?_
  refine ae (bt rfl rfl rfl) ?_
  refine aG ?_
  refine ax ?_
  refine aq rfl (fun h1=> ?_) (fun h1=> ?_)
  ·
   have h1:=of_decide_eq_true h1
   refine cS ?_
   refine ax ?_
   refine ay ?_
   refine eL ?_
   refine ay ?_
   refine eF (by kernel_rfl) (by kernel_rfl) ?_
   refine aT (au rfl) ?_
   refine aT (aA (o':=1) rfl rfl) ?_
   refine aT (bl rfl) ?_
   refine aT (bt rfl rfl rfl) ?_
   refine aT (au rfl) ?_
   refine c5 rfl rfl rfl (fun hg=>(aA (o':=2) rfl rfl).yl) ?_
   refine c5 rfl rfl rfl (fun hg=>(eE (av hg rfl)).yl) ?_
   refine c5 rfl rfl rfl (fun hg=>(au rfl).yl) ?_
   refine c5 rfl rfl rfl (fun hg=>ki (cg (av hg rfl) (cg (av hg rfl) dO))) ?_
   refine c5 rfl rfl rfl (fun hg=>(dW rfl).yl) ?_
   refine c5 rfl rfl rfl (fun hg=>(au rfl).yl) ?_
   refine c5 rfl rfl rfl (fun hg=>ki (cg (av hg rfl) (cg (av hg rfl) dO))) ?_
   refine c5 rfl rfl rfl (fun hg=>(bt (av hg rfl) (av hg rfl) rfl).yl) ?_
   refine aT (nD rfl rfl rfl) ?_
   refine aT (au rfl) ?_
   refine dB rfl rfl rfl (fun hg=>(au rfl).yl) ?_
   refine dB rfl rfl rfl (fun hg=>(aA (o':=0) rfl rfl).yl) ?_
   refine dB rfl rfl rfl (fun hg=>(bl (av hg rfl)).yl) ?_
   refine dB rfl rfl rfl (fun hg=>(bt (av hg rfl) (av hg rfl) rfl).yl) ?_
   refine dB rfl rfl rfl (fun hg=>(au (av hg rfl)).yl) ?_
   refine kB rfl rfl rfl (fun hg=>(dW rfl).yl) ?_
   refine kB rfl rfl rfl (fun hg=>(au rfl).yl) ?_
   refine kB rfl rfl rfl (fun hg=>ki (cg (av hg rfl) (cg (av hg rfl) dO))) ?_
   refine kB rfl rfl rfl (fun hg=>(bt (av hg rfl) rfl rfl).yl) ?_
   refine dB rfl rfl rfl (fun hg=>(nD (av hg rfl) (oA hg rfl) rfl).yl) ?_
   refine aT (hM rfl rfl rfl) ?_
   refine qy ?_
   refine ax ?_
   refine aq rfl (fun h2=> ?_) (fun h2=> ?_)
   ·
    refine ay ?_
    refine aI ?_
    refine ae (aP rfl) ?_
    refine aG ?_
    refine ax ?_
    refine cD ?_
    refine fW ?_
    refine cw ?_
    refine cw ?_
    refine fW ?_
    refine cw ?_
    refine an (.inl rfl) (dX rfl rfl) (fun w hw=> ?_)
    refine⟨?_,hw.sub (List.nil_sublist _)⟩
    have:jX p k=false:=by
     rw[←Bool.not_eq_true,Gm p k h0];intro h;exact Qq (n:=i.toNat) (by rw[show((i.toNat:Nat):Int)=i by omega];exact h2) (h i.toNat (by omega))
    rw[this]
   ·
    refine cS ?_
    refine jj ?_
    refine ax ?_
    refine aI ?_
    refine ae (au rfl) ?_
    refine ae (gk rfl rfl (by omega)) ?_
    refine ae (aP rfl) ?_
    refine aG ?_
    exact bh (i+1) ⟨by omega,by omega,fun j hj=>if e:(j:Int)=i then(by rw[←e]at h2;exact Qp h2)else hs j (by omega)⟩ (by omega) (Sub.cons rfl (Sub.cons rfl (Sub.cons rfl (Sub.nil _)))) (fun w hw=>hw)
  ·
   have h1:=of_decide_eq_false h1
   refine kj ?_
   refine eR ?_
   refine eR ?_
   refine kl ?_
   refine ax ?_
   refine ay ?_
   refine aI ?_
   refine ae (aP rfl) ?_
   refine aG ?_
   refine ax ?_
   refine cD ?_
   refine an (.inl rfl) (dX rfl rfl) (fun w hw=> ?_)
   refine⟨?_,hw.sub (List.nil_sublist _)⟩
   have:jX p k=true:=(Gm p k h0).2 fun j hj=>hs j (by omega)
   rw[this]⟩
instance acv(p:cF)(k:Key):iS Tryz.prog 64 [.agg (bY p), .agg (cc k)] (.bool (jX p k)):=QB p k
open Go.aL Go.Kb
open Go.RowKit
def pe(k:Key):List Int:=(List.range 16).map fun i=>(ca k i:Int)
theorem Jg(k:Key)(j:Nat)(x:Int)(h:(pe k)[j]? =some x):j<16∧x=ca k j:=by
 have hl:j<16:=by have:=(List.getElem?_eq_some_iff.1 h).1;simpa[pe]using this
 refine⟨hl,?_⟩
 simp[pe,hl]at h
 exact h.symm
theorem QC{x y:UInt8}{xs ys:List UInt8}:Lib.compareBytes (x::xs) (y::ys)=if x.toNat<y.toNat then -1 else if y.toNat<x.toNat then 1 else Lib.compareBytes xs ys:=by
 simp[Lib.compareBytes,UInt8.lt_iff_toNat_lt]
theorem Jh(a b:Key): ∀(n i:Nat),i+n=16→(∀j,j<i→ca a j=ca b j)→
  Lib.compareBytes ((List.range' i n).map fun j=>(ca a j).toUInt8) ((List.range' i n).map fun j=>(ca b j).toUInt8)=nJ a b
 |0,i,hi,hs=>by
  have:a=b:=tw fun j hj=>hs j (by omega)
  subst this
  simp[Lib.compareBytes,nJ]
 |n+1,i,hi,hs=>by
  have ha:=kE a i
  have hb:=kE b i
  rw[List.range'_succ,List.map_cons,List.map_cons,QC]
  have ea:(ca a i).toUInt8.toNat=ca a i:=by simp;omega
  have eb:(ca b i).toUInt8.toNat=ca b i:=by simp;omega
  rw[ea,eb]
  by_cases h1:ca a i<ca b i
  ·
   rw[if_pos h1]
   have:=B4 (by omega) hs h1
   unfold nJ;rw[if_pos this]
  ·
   rw[if_neg h1]
   by_cases h2:ca b i<ca a i
   ·
    rw[if_pos h2]
    have:=B4 (by omega) (fun j hj=>(hs j hj).symm) h2
    unfold nJ;rw[if_neg (by omega),if_pos this]
   ·
    rw[if_neg h2]
    exact Jh a b n (i+1) (by omega) fun j hj=>by
     by_cases e:j=i
     ·
      subst e;omega
     ·
      exact hs j (by omega)
theorem Ji(k:Key):(⟨ByteArray.empty.data++(Lib.bytesOf (pe k)).toArray⟩:ByteArray).data.toList=(List.range' 0 16).map fun j=>(ca k j).toUInt8:=by
 simp[Lib.bytesOf,pe,List.range_eq_range']
theorem QD(a b:Key)(p q:Addr)(c c':Nat)(w:World)(hp: ∀j,j<16→w.cell? (p.add j)=some (.int .u8 (ca a j)))(hq: ∀j,j<16→w.cell? (q.add j)=some (.int .u8 (ca b j))):
  Calls Tryz.prog 119 [.slice (some p) 16 c, .slice (some q) 16 c'].toArray w fun e w'=>e= .returned (.int .i64 (nJ a b))∧Mem w [] w':=by
 refine aW (args:=[_,_]) Tryz.func119 rfl Tryz.ntmps119 rfl ?_
 change Cw _ _ _ _ _ [(0, .slice (some p) 16 c),(1, .slice (some q) 16 c')] []
 refine ay ?_
 refine aI ?_
 refine ae (aP rfl) ?_
 refine aG ?_
 refine ax ?_
 refine ay ?_
 refine aI ?_
 refine ae (au rfl) ?_
 refine ae (au rfl) ?_
 refine ae (v:= .int .i64 (nJ a b)) ?_ ?_
 ·
  intro aa w1 ha hw
  have lu: ∀j,j<16→w1.cell? (p.add j)=some (.int .u8 (ca a j)):=fun j hj=>by
   rw[←hp j hj];exact hw.below.cell (block_lt_of_cell (hp j hj))
  have QE: ∀j,j<16→w1.cell? (q.add j)=some (.int .u8 (ca b j)):=fun j hj=>by
   rw[←hq j hj];exact hw.below.cell (block_lt_of_cell (hq j hj))
  have r1:=Lib.run_loadBytesX (P:=Tryz.prog) w1 (pe a) p .empty (fun j x hx=>by obtain⟨h1,rfl⟩:=Jg a j x hx;exact lu j h1)
  have r2:=Lib.run_loadBytesX (P:=Tryz.prog) w1 (pe b) q .empty (fun j x hx=>by obtain⟨h1,rfl⟩:=Jg b j x hx;exact QE j h1)
  have l1:(pe a).length=16:=by simp[pe]
  have l2:(pe b).length=16:=by simp[pe]
  rw[l1]at r1
  rw[l2]at r2
  have e5:=ha.ev (x:= .tmp 5) (v:= .slice (some p) 16 c) rfl
  have e6:=ha.ev (x:= .tmp 6) (v:= .slice (some q) 16 c') rfl
  have ff:(callFunc 143 #[.slice (some p) 16 c, .slice (some q) 16 c']).run Tryz.prog w1= .ok (.value (.int .i64 (nJ a b))) w1:=by
   rw[run_callFunc_extern Tryz.func143 (by kernel_rfl) (by kernel_rfl) (by kernel_rfl) (e:=Extern.BytealgCompare.compare) (by kernel_rfl)]
   have:(Extern.BytealgCompare.compare #[.slice (some p) 16 c, .slice (some q) 16 c']).run Tryz.prog w1= .ok (.int .i64 (nJ a b)) w1:=by
    change Sem.run Tryz.prog (do pure (goInt (Extern.BytealgCompare.cmp (←Extern.Bytes.bytesOf (.slice (some p) 16 c)) (←Extern.Bytes.bytesOf (.slice (some q) 16 c'))))) w1=_
    simp only[Extern.Bytes.bytesOf,Sem.run_bind,r1,r2,Sem.run_pure,Result.andThen]
    rw[Lib.cmp_eq,Ji,Ji,Jh a b 16 0 rfl (fun j h=>by omega)]
    rfl
   rw[this];rfl
  simp[execOp,resolve,Act.eval,Deferred.ofValue,invoke]at e5 e6⊢
  rw[e5,e6,ff]
 refine ae (aP rfl) ?_
 refine aG ?_
 refine ax ?_
 refine cD ?_
 refine an (.inl rfl) (dX rfl rfl) (fun w hw=> ?_)
 exact⟨rfl,hw.sub (List.nil_sublist _)⟩
open Go.aL Go.Kb
open Go.RowKit
theorem Jj{w0 w:World}{L:List aj}{b:Nat}{p:cF}{T:TypeId}{i:Nat}(hw:Mem w0 L w)[hh:Has L b (bY p) T i](j:Nat)(hj:j<16):w.cell? ((⟨b,2,none⟩:Addr).add j)=some (.int .u8 (ca p.key j)):=by
 rw[Addr.fF,hw.cell hh.h,kY,jn _ j hj]
theorem QF{a b:Key}{n:Nat}(hn:n<128)(hs: ∀j,j<n→a.getMsbD j=b.getMsbD j)(hd: ¬jW a (n:Int)=jW b (n:Int)):jW a (n:Int)=0↔a.toNat<b.toNat:=by
 rw[zf]at hd
 rw[tz]
 cases ha:a.getMsbD n<;>cases hb:b.getMsbD n<;>simp[ha,hb]at hd⊢
 ·
  exact Gk hn hs ha hb
 ·
  have:=Gk hn (fun j hj=>(hs j hj).symm) hb ha
  omega
theorem vR{p q:cF}(h1:cN p=true)(h2:cN q=true):gY p q=(if p.bits≠q.bits then decide (p.bits=32)else if p.key≠q.key then decide (p.key.toNat<q.key.toNat)else decide (p.len<q.len)):=by
 unfold gY;rw[h1,h2];rfl
theorem QG(p q:cF):iS Tryz.prog 81 [.agg (bY p), .agg (bY q)] (.bool (gY p q)):=⟨fun w=>by
 refine aW (args:=[_,_]) Tryz.func81 rfl Tryz.ntmps81 rfl ?_
 change Cw _ _ _ _ _ [(0, .agg (bY p)),(1, .agg (bY q))] []
 refine ay ?_
 refine aI ?_
 refine bL rfl fun b2=> ?_
 refine bL rfl fun b3=> ?_
 refine ae (aP rfl) ?_
 refine aG ?_
 refine ax ?_
 refine ay ?_
 refine ay ?_
 refine aI ?_
 refine ae (dW rfl) ?_
 refine dQ (ki rfl) ?_
 refine ae (fU rfl) ?_
 refine ae (au rfl) ?_
 refine bD rfl rfl rfl (fun hg=>(dW rfl).yl) ?_
 refine bD rfl rfl rfl (fun hg=>ki (cg (av hg rfl) dO)) ?_
 refine bD rfl rfl rfl (fun hg=>(fU (av hg rfl)).yl) ?_
 refine ae (hM rfl rfl rfl) ?_
 refine aG ?_
 refine ax ?_
 refine aq rfl (fun h0=> ?_) (fun h0=> ?_)
 ·
  simp at h0
  refine ay ?_
  refine aI ?_
  refine ae (aP rfl) ?_
  refine aG ?_
  refine ax ?_
  refine cD ?_
  refine cw ?_
  refine an (.inl rfl) (dX rfl rfl) (fun w hw=> ?_)
  refine⟨?_,hw.sub (List.nil_sublist _)⟩
  have:gY p q=false:=by unfold gY;cases h1:cN p<;>cases h2:cN q<;>simp_all
  rw[this]
 ·
  simp at h0
  obtain⟨m1,m2⟩:=h0
  refine cS ?_
  refine ax ?_
  refine ay ?_
  refine ay ?_
  refine aI ?_
  refine ae (aA (o':=0) rfl rfl) ?_
  refine ae (bl rfl) ?_
  refine ae (aA (o':=0) rfl rfl) ?_
  refine ae (bl rfl) ?_
  refine ae (bt rfl rfl rfl) ?_
  refine aG ?_
  refine ax ?_
  refine aq rfl (fun h1=> ?_) (fun h1=> ?_)
  ·
   simp at h1
   refine ay ?_
   refine aI ?_
   refine ae (aA (o':=0) rfl rfl) ?_
   refine ae (bl rfl) ?_
   refine ae (bt rfl rfl rfl) ?_
   refine ae (aP rfl) ?_
   refine aG ?_
   refine ax ?_
   refine cD ?_
   refine cw ?_
   refine an (.inl rfl) (dX rfl rfl) (fun w hw=> ?_)
   exact⟨by rw[vR m1 m2,if_pos h1],hw.sub (List.nil_sublist _)⟩
  ·
   simp at h1
   refine cS ?_
   refine ax ?_
   refine ay ?_
   refine ay ?_
   refine eF (by kernel_rfl) (by kernel_rfl) ?_
   refine aT (aA (o':=2) rfl rfl) ?_
   refine aT (tk rfl) ?_
   refine aT (aA (o':=2) rfl rfl) ?_
   refine aT (tk rfl) ?_
   refine oz (yT rfl (fun w hw=>QD p.key q.key _ _ _ _ w (Jj hw) (Jj hw))) ?_
   refine aT (aP rfl) ?_
   refine qy ?_
   refine ax ?_
   refine ay ?_
   refine aI ?_
   refine ae (au rfl) ?_
   refine ae (bt rfl rfl rfl) ?_
   refine aG ?_
   refine ax ?_
   refine aq rfl (fun h2=> ?_) (fun h2=> ?_)
   ·
    simp at h2
    refine ay ?_
    refine aI ?_
    refine ae (au rfl) ?_
    refine ae (bt rfl rfl rfl) ?_
    refine ae (aP rfl) ?_
    refine aG ?_
    refine ax ?_
    refine cD ?_
    refine cw ?_
    refine an (.inl rfl) (dX rfl rfl) (fun w hw=> ?_)
    exact⟨by rw[vR m1 m2,if_neg (by simpa using h1),if_pos (fun e=>h2 ((Gl _ _).2 e)),decide_eq_decide.2 (ME _ _)],hw.sub (List.nil_sublist _)⟩
   ·
    simp at h2
    refine cS ?_
    refine ax ?_
    refine ay ?_
    refine aI ?_
    refine ae (aA (o':=1) rfl rfl) ?_
    refine ae (bl rfl) ?_
    refine ae (aA (o':=1) rfl rfl) ?_
    refine ae (bl rfl) ?_
    refine ae (bt rfl rfl rfl) ?_
    refine ae (aP rfl) ?_
    refine aG ?_
    refine ax ?_
    refine cD ?_
    refine an (.inl rfl) (dX rfl rfl) (fun w hw=> ?_)
    exact⟨by rw[vR m1 m2,if_neg (by simpa using h1),if_neg (by simpa using(Gl _ _).1 h2)],hw.sub (List.nil_sublist _)⟩⟩
instance acw(p q:cF):iS Tryz.prog 81 [.agg (bY p), .agg (bY q)] (.bool (gY p q)):=QG p q
theorem QH(p q:cF):iS Tryz.prog 140 [.agg (bY p), .agg (bY q)] (.bool (gY p q)):=⟨fun w=>by
 refine aW (args:=[_,_]) Tryz.func140 rfl Tryz.ntmps140 rfl ?_
 change Cw _ _ _ _ _ [(0, .agg (bY p)),(1, .agg (bY q))] []
 refine ay ?_
 refine aI ?_
 refine bL rfl fun b2=> ?_
 refine bL rfl fun b3=> ?_
 refine ae (aP rfl) ?_
 refine aG ?_
 refine ax ?_
 refine ay ?_
 refine ay ?_
 refine aI ?_
 refine ae (dW rfl) ?_
 refine dQ (ki rfl) ?_
 refine ae (fU rfl) ?_
 refine ae (au rfl) ?_
 refine bD rfl rfl rfl (fun hg=>(dW rfl).yl) ?_
 refine bD rfl rfl rfl (fun hg=>ki (cg (av hg rfl) dO)) ?_
 refine bD rfl rfl rfl (fun hg=>(fU (av hg rfl)).yl) ?_
 refine ae (hM rfl rfl rfl) ?_
 refine aG ?_
 refine ax ?_
 refine aq rfl (fun h0=> ?_) (fun h0=> ?_)
 ·
  simp at h0
  refine ay ?_
  refine aI ?_
  refine ae (aP rfl) ?_
  refine aG ?_
  refine ax ?_
  refine cD ?_
  refine cw ?_
  refine an (.inl rfl) (dX rfl rfl) (fun w hw=> ?_)
  refine⟨?_,hw.sub (List.nil_sublist _)⟩
  have:gY p q=false:=by unfold gY;cases h1:cN p<;>cases h2:cN q<;>simp_all
  rw[this]
 ·
  simp at h0
  obtain⟨m1,m2⟩:=h0
  refine cS ?_
  refine ax ?_
  refine ay ?_
  refine ay ?_
  refine aI ?_
  refine ae (aA (o':=0) rfl rfl) ?_
  refine ae (bl rfl) ?_
  refine ae (aA (o':=0) rfl rfl) ?_
  refine ae (bl rfl) ?_
  refine ae (bt rfl rfl rfl) ?_
  refine aG ?_
  refine ax ?_
  refine aq rfl (fun h1=> ?_) (fun h1=> ?_)
  ·
   simp at h1
   refine ay ?_
   refine aI ?_
   refine ae (aA (o':=0) rfl rfl) ?_
   refine ae (bl rfl) ?_
   refine ae (aA (o':=0) rfl rfl) ?_
   refine ae (bl rfl) ?_
   refine ae (bt rfl rfl rfl) ?_
   refine ae (aP rfl) ?_
   refine aG ?_
   refine ax ?_
   refine cD ?_
   refine cw ?_
   refine an (.inl rfl) (dX rfl rfl) (fun w hw=> ?_)
   refine⟨?_,hw.sub (List.nil_sublist _)⟩
   obtain⟨p1,_⟩:=(kX p).1 m1
   obtain⟨q1,_⟩:=(kX q).1 m2
   rw[vR m1 m2,if_pos h1]
   congr 2;rw[decide_eq_decide];omega
  ·
   simp at h1
   refine cS ?_
   refine ax ?_
   refine ay ?_
   refine ay ?_
   refine aI ?_
   refine ae (aP rfl) ?_
   refine aG ?_
   refine ax ?_
   refine eL ?_
   refine bK (X:=Int) (fun i=>[(5, .int .i64 i),(2, .pointer (some ⟨b2,0,none⟩)),(3, .pointer (some ⟨b3,0,none⟩))]) (fun i=>[ar b3 (bY q) 65,ar b2 (bY p) 65]) (fun i=>0≤i∧i≤128∧ ∀j:Nat,(j:Int)<i→p.key.getMsbD j=q.key.getMsbD j) (fun i=>(128 -i).toNat) 0 ⟨by omega,by omega,fun j h=>by omega⟩ (Sub.cons rfl (Sub.cons rfl (Sub.cons rfl (Sub.nil _)))) (fun w hw=>hw) ?_
   rintro i ⟨rz,bb,hs⟩
   refine ay ?_
   refine ay ?_
   refine aI ?_
   refine ae (au rfl) ?_
   refine ae (bt rfl rfl rfl) ?_
   refine aG ?_
   refine ax ?_
   refine aq rfl (fun h2=> ?_) (fun h2=> ?_)
   ·
    have h2:=of_decide_eq_true h2
    refine cS ?_
    refine ax ?_
    refine ay ?_
    refine eL ?_
    refine ay ?_
    refine eF (by kernel_rfl) (by kernel_rfl) ?_
    refine aT (aA (o':=2) rfl rfl) ?_
    refine aT (eE rfl) ?_
    refine aT (au rfl) ?_
    refine oz (ki rfl) ?_
    refine aT (aA (o':=2) rfl rfl) ?_
    refine aT (eE rfl) ?_
    refine aT (au rfl) ?_
    refine oz (ki rfl) ?_
    refine aT (bt rfl rfl rfl) ?_
    refine qy ?_
    refine ax ?_
    refine aq rfl (fun h3=> ?_) (fun h3=> ?_)
    ·
     simp at h3
     have hd:p.key≠q.key:=fun e=>h3 (by rw[e])
     refine ay ?_
     refine aI ?_
     refine ae (aA (o':=2) rfl rfl) ?_
     refine ae (eE rfl) ?_
     refine ae (au rfl) ?_
     refine dQ (ki rfl) ?_
     refine ae (bt rfl rfl rfl) ?_
     refine ae (aP rfl) ?_
     refine aG ?_
     refine ax ?_
     refine cD ?_
     refine fW ?_
     refine cw ?_
     refine cw ?_
     refine fW ?_
     refine cw ?_
     refine an (.inl rfl) (dX rfl rfl) (fun w hw=> ?_)
     refine⟨?_,hw.sub (List.nil_sublist _)⟩
     rw[vR m1 m2,if_neg (by simpa using h1),if_pos hd]
     congr 2;rw[decide_eq_decide]
     rw[show i=((i.toNat:Nat):Int) by omega]at h3⊢
     exact QF (by omega) (fun j hj=>hs j (by omega)) h3
    ·
     simp at h3
     refine cS ?_
     refine jj ?_
     refine ax ?_
     refine aI ?_
     refine ae (au rfl) ?_
     refine ae (gk rfl rfl (by omega)) ?_
     refine ae (aP rfl) ?_
     refine aG ?_
     exact bh (i+1) ⟨by omega,by omega,fun j hj=>if e:(j:Int)=i then(by rw[←e]at h3;exact zf.1 h3)else hs j (by omega)⟩ (by omega) (Sub.cons rfl (Sub.cons rfl (Sub.cons rfl (Sub.nil _)))) (fun w hw=>hw)
   ·
    have h2:=of_decide_eq_false h2
    refine kj ?_
    refine eR ?_
    refine eR ?_
    refine kl ?_
    refine ax ?_
    refine ay ?_
    refine aI ?_
    refine ae (aA (o':=1) rfl rfl) ?_
    refine ae (bl rfl) ?_
    refine ae (aA (o':=1) rfl rfl) ?_
    refine ae (bl rfl) ?_
    refine ae (bt rfl rfl rfl) ?_
    refine ae (aP rfl) ?_
    refine aG ?_
    refine ax ?_
    refine cD ?_
    refine an (.inl rfl) (dX rfl rfl) (fun w hw=> ?_)
    refine⟨?_,hw.sub (List.nil_sublist _)⟩
    have e:p.key=q.key:=u4 fun j hj=>hs j (by omega)
    rw[vR m1 m2,if_neg (by simpa using h1),if_neg (by simpa using e)]⟩
instance acx(p q:cF):iS Tryz.prog 140 [.agg (bY p), .agg (bY q)] (.bool (gY p q)):=QH p q
open Go.aL Go.Kb
instance acy:eo Tryz.prog 22 48 4 48:=⟨Tryz.underlying22,by kernel_rfl⟩
instance acz:eo Tryz.prog 23 94 4 16:=⟨Tryz.underlying23,by kernel_rfl⟩
instance acA:eo Tryz.prog 26 3 1 8:=⟨Tryz.underlying26,by kernel_rfl⟩
instance acB:eC Tryz.prog 38 (.slice none 0 0):=⟨by kernel_rfl⟩
instance acC:eo Tryz.prog 38 5 1 1:=⟨Tryz.underlying38,by kernel_rfl⟩
instance acD:eo Tryz.prog 43 50 4 32:=⟨Tryz.underlying43,by kernel_rfl⟩
instance acE:eo Tryz.prog 46 38 1 24:=⟨Tryz.underlying46,by kernel_rfl⟩
instance acF:eo Tryz.prog 52 68 19 40:=⟨Tryz.underlying52,by kernel_rfl⟩
instance acG:eo Tryz.prog 76 91 20 48:=⟨Tryz.underlying76,by kernel_rfl⟩
instance acH:eo Tryz.prog 103 102 2 32:=⟨Tryz.underlying103,by kernel_rfl⟩
instance acI:eo Tryz.prog 161 26 1 24:=⟨Tryz.underlying161,by kernel_rfl⟩
instance acJ:eo Tryz.prog 186 46 1 24:=⟨Tryz.underlying186,by kernel_rfl⟩
instance acK:eo Tryz.prog 238 235 1 8:=⟨Tryz.underlying238,by kernel_rfl⟩
instance:bF aw 19:=⟨hU,fun r=>by
 have h:(bY r.p).all (·.oneCell')=true:=(inferInstance:fv (bY r.p) 18).one
 rw[aw,Array.all_append,h];simp[Value.oneCell']⟩
instance:Deep Rt:=Deep.flat aw 19
instance:fh Rt aw 19:=⟨rfl,fun _=>rfl⟩
instance (r:Rt):fv (aw r) 19:=⟨hU r,bF.one r⟩
instance (r:Rt):mU (aw r) 0 18 (bY r.p):=⟨mW _,fun j hj=>by rw[Nat.zero_add];exact hY r j hj⟩
instance (r:Rt):cj (aw r) 18 (.int .u16 r.eA.toNat):=⟨pM r⟩
instance (r:Rt):cj (aw r) 0 (.int .i64 r.p.bits):=⟨(hY r 0 (by decide)).trans (pL r.p)⟩
instance (r:Rt):cj (aw r) 1 (.int .i64 r.p.len):=⟨(hY r 1 (by decide)).trans (oK r.p)⟩
theorem QI(d:Nat):nZ Tryz.prog (d+1) 66 false [0]:=⟨⟨_,Tryz.underlying66,rfl⟩,by kernel_rfl,fun _=>rfl,DN Tryz.underlying66⟩
theorem QJ:Tryz.prog.stoodInHeld 68=false:=by kernel_rfl
theorem QK(d:Nat):nZ Tryz.prog (d+1+1+1+1) 68 true (([0]++([0]++((List.replicate 16 [0]).flatten++[])))++([0]++[])):=⟨⟨_,Tryz.underlying68,rfl⟩,by kernel_rfl,(fun h=>by cases h),
 DR Tryz.underlying68 QJ ⟨by decide,rfl,_,_,_,rfl,Jf _,by decide,rfl,_,_,_,rfl,QI _,rfl⟩⟩
theorem QL:Tryz.prog.eqGuardType Tryz.prog.depth 68=false:=by kernel_rfl
instance (a b:Rt):th Tryz.prog 68 (.agg (aw a)) (.agg (aw b)) (decide (a=b)):=
 (QK 9996).eq.val rfl QL (hU a) (hU b) (fun i k hk=>by
  have h0:k=0:=by
   have:k∈(([0]++([0]++((List.replicate 16 [0]).flatten++[])))++([0]++[])):=List.mem_of_getElem? hk
   simpa using this
  subst h0
  have hi:i<19:=(List.getElem?_eq_some_iff.1 hk).1
  match i,hi with
  |0,_=>exact⟨_,_,(inferInstance:cj (aw a) 0 _).h,(inferInstance:cj (aw b) 0 _).h,rfl⟩
  |1,_=>exact⟨_,_,(inferInstance:cj (aw a) 1 _).h,(inferInstance:cj (aw b) 1 _).h,rfl⟩
  |j+2,hi=>
   rcases Nat.lt_or_ge j 16 with h|h
   ·
    rw[Nat.add_comm j 2]
    exact⟨_,_,(hY a _ (by omega)).trans ((kY a.p j).trans (jn _ j h)),(hY b _ (by omega)).trans ((kY b.p j).trans (jn _ j h)),rfl⟩
   ·
    obtain rfl:j=16:=by omega
    exact⟨_,_,pM a,pM b,rfl⟩) (by rw[decide_eq_true_iff];exact⟨MK,fun h=>by rw[h]⟩)
instance:tj Tryz.prog 68 [] (.agg (aw fI)):=⟨fun w=>by unfold aw bY fI;rw[ug];kernel_rfl⟩
instance (n m:Int):tj Tryz.prog 65 [(0, .int .i64 n),(1, .int .i64 m)] (.agg (bY ⟨n,m,0#128⟩)):=⟨fun w=>by unfold bY;rw[ug];kernel_rfl⟩
instance (p:cF)(h:UInt16):tj Tryz.prog 68 [(0, .agg (bY p)),(1, .int .u16 h.toNat)] (.agg (aw ⟨p,h⟩)):=⟨fun w=>by kernel_rfl⟩
instance:eC Tryz.prog 68 (.agg (aw fI)):=⟨by unfold aw bY fI;rw[ug];kernel_rfl⟩
end Go.Proofs.YtaipiecplldinaaGreat
namespace Go.Kb
open Go.aL
instance:Plain Rt:=⟨fun _=>rfl⟩
instance:eU Rt:=eU.flat fun _ _=>trivial
structure b0 where
 aF:bI
 table:Sl Rt
def bQ(x:b0):Array Value:= #[.int .i64 x.aF.ai.ag, .int .i64 x.aF.ai.size,x.aF.ai.blocks.sv.val, .int .i64 x.aF.ai.ops, .bool x.aF.ai.off,x.aF.ai.bc.sv.val,x.aF.at_.sv.val, .int .u64 x.aF.gen.toNat, .int .i64 x.aF.last,x.table.sv.val]
instance:bF bQ 10:=⟨fun _=>rfl,fun x=>by
 simp only[bQ,List.all_toArray,List.all_cons,List.all_nil,Sv.one,qK,qL,Bool.and_self]⟩
instance (x:b0):fv (bQ x) 10:=⟨rfl,bF.one x⟩
instance (x:b0):cj (bQ x) 1 (.int .i64 x.aF.ai.size):=⟨rfl⟩
instance (x:b0):cj (bQ x) 6 (x.aF.at_.sv.val):=⟨rfl⟩
instance (x:b0):cj (bQ x) 7 (.int .u64 x.aF.gen.toNat):=⟨rfl⟩
instance (x:b0):cj (bQ x) 8 (.int .i64 x.aF.last):=⟨rfl⟩
instance (x:b0):cj (bQ x) 9 (x.table.sv.val):=⟨rfl⟩
instance (x:b0):mU (bQ x) 0 9 (bo x.aF):=⟨rfl,fun j hj=>by
 match j,hj with
 |0,_=>rfl
 |1,_=>rfl
 |2,_=>rfl
 |3,_=>rfl
 |4,_=>rfl
 |5,_=>rfl
 |6,_=>rfl
 |7,_=>rfl
 |8,_=>rfl⟩
instance (x:b0):mU (bQ x) 0 6 (aB x.aF.ai):=⟨rfl,fun j hj=>by
 match j,hj with
 |0,_=>rfl
 |1,_=>rfl
 |2,_=>rfl
 |3,_=>rfl
 |4,_=>rfl
 |5,_=>rfl⟩
instance:Deep b0 where
 c:=10
 cells:=bQ
 size:=bF.size
 one:=bF.one
 bk h x:=Deep.bk h x.aF∧Deep.bk h x.table
 ck x:= .two (Deep.ck x.aF) (Deep.ck x.table)
 jm h x hs:=⟨Deep.jm h x.aF hs.1,Deep.jm h x.table hs.2.1⟩
 mono w w' x hg hb:=⟨Deep.mono w w' x.aF hg.1 hb,Deep.mono w w' x.table hg.2 hb⟩
instance:eU b0 where
 reach x k:=eU.reach x.aF k∨eU.reach x.table k
 congr h h' x e hg:=⟨eU.congr h h' x.aF (fun k hk=>e k (.inl hk)) hg.1,eU.congr h h' x.table (fun k hk=>e k (.inr hk)) hg.2⟩
instance {w0:World}{L:List aj}{x:b0}[q:aS w0 L x]:aS w0 L x.aF:=⟨fun w hw=>(q.h w hw).1⟩
instance {w0:World}{L:List aj}{x:b0}[q:aS w0 L x]:aS w0 L x.table:=⟨fun w hw=>(q.h w hw).2⟩
instance {w0:World}{L:List aj}{aF:bI}{table:Sl Rt}[q0:aS w0 L aF][q1:aS w0 L table]:aS w0 L (b0.mk aF table):=⟨fun w hw=>⟨q0.h w hw,q1.h w hw⟩⟩
def iw:b0:=⟨fq,⟨Sv.none,[]⟩⟩
structure FV where
 aF:VV
 table:List Rt
 deriving DecidableEq
def bw(f:b0):FV:=⟨vv f.aF,f.table.xs⟩
def mg:FV:=⟨gI,[]⟩
def mh(b p s:Int):Int:=min (qV b p/2) (fY s)
def qk(b p s:Int):Int:=ku (mh b p s) (du s)
def fe(c:CV):Int:=mh c.blocks.length c.ag c.size
def kO(c:CV):Int:=qk c.blocks.length c.ag c.size
def iz(c:CV)(y:Int):List UInt8:=if y -1<0 then[]else jI c y
def lv(v:VV):List (List UInt8):=v.at_.map (iz v.ai)
def cH(c:CV):FV×Int:=
 if kO c=0 then(mg,1)
 else if(bq c).2≠0 then(mg,(bq c).2)
 else if((bq c).1.at_.length:Int)≠fe c then(mg,2)
 else if jy (lv (bq c).1)≠0 then(mg,2)
 else(⟨(bq c).1,iu (lv (bq c).1)⟩,0)
def jz(c:CV):List (List UInt8):=if(cH c).2=0 then lv (bq c).1 else[]
theorem Aq{c:CV}(h:kO c=0):cH c=(mg,1)∧jz c=[]:=by
 have e:cH c=(mg,1):=by rw[cH,if_pos h]
 exact⟨e,by rw[jz,e];rfl⟩
theorem Ar{c:CV}(h: ¬kO c=0)(h1:(bq c).2≠0):cH c=(mg,(bq c).2)∧jz c=[]:=by
 have e:cH c=(mg,(bq c).2):=by rw[cH,if_neg h,if_pos h1]
 exact⟨e,by rw[jz,e,if_neg h1]⟩
theorem As{c:CV}(h: ¬kO c=0)(h1:(bq c).2=0)(h2:((bq c).1.at_.length:Int)≠fe c):cH c=(mg,2)∧jz c=[]:=by
 have e:cH c=(mg,2):=by rw[cH,if_neg h,if_neg (fun g=>g h1),if_pos h2]
 exact⟨e,by rw[jz,e];rfl⟩
theorem Au{c:CV}(h: ¬kO c=0)(h1:(bq c).2=0)(h2:((bq c).1.at_.length:Int)=fe c)(h3:jy (lv (bq c).1)≠0):cH c=(mg,2)∧jz c=[]:=by
 have e:cH c=(mg,2):=by rw[cH,if_neg h,if_neg (fun g=>g h1),if_neg (fun g=>g h2),if_pos h3]
 exact⟨e,by rw[jz,e];rfl⟩
theorem uh{c:CV}(h: ¬kO c=0)(h1:(bq c).2=0)(h2:((bq c).1.at_.length:Int)=fe c)(h3:jy (lv (bq c).1)=0):cH c=(⟨(bq c).1,iu (lv (bq c).1)⟩,0)∧jz c=lv (bq c).1:=by
 have e:cH c=(⟨(bq c).1,iu (lv (bq c).1)⟩,0):=by rw[cH,if_neg h,if_neg (fun g=>g h1),if_neg (fun g=>g h2),if_neg (fun g=>g h3)]
 exact⟨e,by rw[jz,e,if_pos rfl]⟩
theorem xH{c:CV}(h:(cH c).2=0): ¬kO c=0∧(bq c).2=0∧((bq c).1.at_.length:Int)=fe c∧jy (lv (bq c).1)=0:=by
 by_cases h0:kO c=0
 ·
  rw[(Aq h0).1]at h;cases h
 by_cases h1:(bq c).2=0
 ·
  by_cases h2:((bq c).1.at_.length:Int)=fe c
  ·
   by_cases h3:jy (lv (bq c).1)=0
   ·
    exact⟨h0,h1,h2,h3⟩
   ·
    rw[(Au h0 h1 h2 h3).1]at h;cases h
  ·
   rw[(As h0 h1 h2).1]at h;cases h
 ·
  rw[(Ar h0 h1).1]at h;exact absurd h h1
def ft(f:FV):Bool:=decide ((cH {f.aF.ai with off:=false}).2=0)&&decide (f.aF.gen=(cH {f.aF.ai with off:=false}).1.aF.gen)&&decide (f.aF.last=(cH {f.aF.ai with off:=false}).1.aF.last)&&decide (f.aF.at_=(cH {f.aF.ai with off:=false}).1.aF.at_)&&decide (f.table=(cH {f.aF.ai with off:=false}).1.table)
theorem DT{f:FV}:ft f=true↔(cH {f.aF.ai with off:=false}).2=0∧f.aF.gen=(cH {f.aF.ai with off:=false}).1.aF.gen∧f.aF.last=(cH {f.aF.ai with off:=false}).1.aF.last∧f.aF.at_=(cH {f.aF.ai with off:=false}).1.aF.at_∧f.table=(cH {f.aF.ai with off:=false}).1.table:=by
 simp only[ft,Bool.and_eq_true,decide_eq_true_eq,and_assoc]
theorem QM{f:FV}:ft f=(decide ((cH {f.aF.ai with off:=false}).2=0)&&gJ f.aF&&decide ((cH {f.aF.ai with off:=false}).1.table=f.table)):=by
 rw[Bool.eq_iff_iff,DT]
 simp only[gJ,Bool.and_eq_true,decide_eq_true_eq]
 constructor
 ·
  rintro⟨h1,h2,h3,h4,h5⟩
  obtain⟨g0,g1,g2,g3⟩:=xH h1
  rw[(uh g0 g1 g2 g3).1]at h2 h3 h4
  exact⟨⟨h1,⟨⟨g1,h2.symm⟩,h3.symm⟩,h4.symm⟩,h5.symm⟩
 ·
  rintro⟨⟨h1,⟨⟨g4,h2⟩,h3⟩,h4⟩,h5⟩
  obtain⟨g0,g1,g2,g3⟩:=xH h1
  rw[(uh g0 g1 g2 g3).1]at h5⊢
  exact⟨rfl,h2.symm,h3.symm,h4.symm,h5.symm⟩
theorem Jk{bs:List (List UInt8)}(h:jy bs=0):dD (iu bs)=true:=by
 unfold jy iu at*
 cases hu:fO bs with
 |none=>rw[hu]at h;cases h
 |some t=>
  rw[hu]at h
  simp only at h⊢
  by_cases ht:dD t=true
  ·
   rw[if_pos ht];exact ht
  ·
   rw[if_neg ht]at h;cases h
theorem QN{f:FV}(h:ft f=true):dD f.table=true:=by
 obtain⟨h1,_,_,_,h5⟩:=DT.1 h
 obtain⟨g0,g1,g2,g3⟩:=xH h1
 rw[h5,(uh g0 g1 g2 g3).1]
 exact Jk g3
def jO(f:FV)(l:List Ch):FV×Int:=
 if ft f=false then(f,1)
 else if kc f.table l≠0 then(f,kc f.table l)
 else if jx (eO f.table l) (fe f.aF.ai) (du f.aF.ai.size)≠0 then(f,jx (eO f.table l) (fe f.aF.ai) (du f.aF.ai.size))
 else if jL (jz {f.aF.ai with off:=false}) (kb (eO f.table l) (fe f.aF.ai) (du f.aF.ai.size))=[]then(⟨f.aF,eO f.table l⟩,0)
 else(⟨(gv f.aF (jL (jz {f.aF.ai with off:=false}) (kb (eO f.table l) (fe f.aF.ai) (du f.aF.ai.size)))).1,if(gv f.aF (jL (jz {f.aF.ai with off:=false}) (kb (eO f.table l) (fe f.aF.ai) (du f.aF.ai.size)))).2≠0 then f.table else eO f.table l⟩,(gv f.aF (jL (jz {f.aF.ai with off:=false}) (kb (eO f.table l) (fe f.aF.ai) (du f.aF.ai.size)))).2)
def pf(c:CV):FV×Int:=if kO c=0 then(⟨⟨c,[],0,0⟩,[]⟩,1)else(⟨(kN c (fe c)).1,[]⟩,(kN c (fe c)).2)
def n0(f:FV)(k:Key)(bits:Int):Rt:=if ft f=true then iK f.table k bits else fI
def n4(f:FV)(k:Key)(bits:Int):Int:=if ft f=true then jN f.table k bits else 1
theorem xI{w0 w:World}{L:List aj}{a:Sl Rt}(h:Mem w0 (own aw 19 a.sv a.xs::L) w):Mem w0 (fz a::L) w:=zI (fun _ _ h=>h) (fun _ _=>trivial) h
theorem Av{w0 w:World}{L:List aj}{f:b0}(h:Mem w0 (fz f.aF.ai::fz f.aF.at_::fz f.table::L) w):Mem w0 (fz f::L) w:=by
 refine Mem.freeze (es:=[fz f.aF.ai,fz f.aF.at_,fz f.table]) f ⟨⟨h.sat (fz f.aF.ai) (by simp),h.sat (fz f.aF.at_) (by simp)⟩,h.sat (fz f.table) (by simp)⟩ (fun k hk=> ?_) h
 rcases hk with(hk|hk)|hk
 ·
  exact⟨fz f.aF.ai,by simp,hk⟩
 ·
  exact⟨fz f.aF.at_,by simp,hk⟩
 ·
  exact⟨fz f.table,by simp,hk⟩
theorem Jl{w0 w:World}{L:List aj}{f:b0}(h:Mem w0 (fz f.aF.ai::own bf 1 f.aF.at_.sv f.aF.at_.xs::own aw 19 f.table.sv f.table.xs::L) w):Mem w0 (fz f::L) w:=by
 have h1:=tN (a:=f.aF.at_) (h.perm (List.Perm.swap _ _ _))
 have h2:=xI (a:=f.table) (h1.perm ((List.Perm.cons _ (List.Perm.swap _ _ _)).trans (List.Perm.swap _ _ _)))
 exact Av (h2.perm ((List.Perm.cons _ (List.Perm.swap _ _ _)).trans ((List.Perm.swap _ _ _).trans (List.Perm.cons _ (List.Perm.swap _ _ _)))))
theorem Aw{w0 w:World}{L:List aj}(h:Mem w0 L w):Mem w0 (fz iw::L) w:=
 Mem.freeze (es:=[]) iw ⟨⟨⟨pJ,pJ⟩,pJ⟩,pJ⟩ (fun k hk=>by
  rcases hk with(((⟨cR,_⟩|⟨x,hx,_⟩)|⟨cR,_⟩|⟨x,hx,_⟩)|⟨cR,_⟩|⟨x,hx,_⟩)|⟨cR,_⟩|⟨x,hx,_⟩
  all_goals first|exact absurd rfl cR|cases hx) h
theorem vS{w0 w:World}{L:List aj}:Mem w0 L w→Mem w0 (fz (⟨Sv.none,[]⟩:Sl (Sl UInt8))::L) w:=
 Mem.freeze (es:=[]) _ pJ (fun k hk=>by
  rcases hk with⟨cR,_⟩|⟨x,hx,_⟩
  ·
   exact absurd rfl cR
  ·
   cases hx)
theorem QO(b p s:Int):mh b p s=if b<5∨32<b∨p<1∨16<p then 0 else if fY s<(b -4)*p/2 then fY s else(b -4)*p/2:=by
 have hm:0≤fY s:=by
  rw[fY,du]
  split
  ·
   rename_i h;have:=oU.1 h;omega
  ·
   omega
 rw[mh,qV]
 by_cases h:b<4∨32<b∨p<1∨16<p
 ·
  rw[if_pos h,if_pos (by omega)];omega
 ·
  rw[if_neg h]
  by_cases h5:b<5
  ·
   rw[if_pos (by omega),show b -4=0 by omega,Int.zero_mul];omega
  ·
   rw[if_neg (by omega)];omega
theorem DU(s:Int):0≤fY s∧fY s≤64:=by
 rw[fY,du]
 split
 ·
  rename_i h;have:=oU.1 h;omega
 ·
  omega
theorem Jm(c:CV):fe c≤64:=by
 have:=DU c.size
 rw[fe,mh];omega
theorem QP(b p:Int):0≤qV b p∧qV b p≤448:=by
 rw[qV]
 split
 ·
  omega
 ·
  rename_i h
  have h1:0≤b -4∧b -4≤28:=by omega
  have h2:1≤p∧p≤16:=by omega
  exact⟨Int.mul_nonneg h1.1 (by omega),Int.le_trans (Int.mul_le_mul h1.2 h2.2 (by omega) (by omega)) (by decide)⟩
theorem Jn{c:CV}(h:(bq c).2=0):(bq c).1.ai=c:=by
 obtain⟨_,_,e⟩:=C6 h
 rw[e]
theorem Jo{c:CV}(h:(bq c).2=0):c.off=false:=by
 cases ho:c.off with
 |false=>rfl
 |true=>rw[bq,if_neg (by rw[C5 h];simp),if_pos ho]at h;cases h
theorem Jp{c:CV}(h:(bq c).2=0):gJ (bq c).1=true:=by
 have e:{(bq c).1.ai with off:=false}=c:=by rw[Jn h,←Jo h]
 simp only[gJ,e,h,decide_true,Bool.and_self]
theorem QQ(c:CV)(n:Int):(jI c n).length≤65536:=by
 rw[jI]
 split
 ·
  exact zX _
 ·
  simp
theorem QR(v:VV):(lv v).length=v.at_.length:=by rw[lv,List.length_map]
theorem Jq(c:CV)(n:Int):(iz c n).length≤65536:=by
 rw[iz]
 split
 ·
  simp
 ·
  exact QQ c n
theorem QS(c:CV):(jz c).length≤64:=by
 rw[jz]
 split
 ·
  rename_i h
  obtain⟨g0,g1,g2,g3⟩:=xH h
  have:=Jm c
  rw[QR];omega
 ·
  simp
def ly(f:FV):List (List UInt8):=jz {f.aF.ai with off:=false}
def vT(f:FV)(l:List Ch):Int:=jx (eO f.table l) (fe f.aF.ai) (du f.aF.ai.size)
def kP(f:FV)(l:List Ch):List (List UInt8):=kb (eO f.table l) (fe f.aF.ai) (du f.aF.ai.size)
theorem QT{f:FV}{l:List Ch}(h0:ft f=false):jO f l=(f,1):=by rw[jO,if_pos h0]
theorem Ax(f:FV)(l:List Ch):jO f l=(if ft f=false then(f,1)
 else if kc f.table l≠0 then(f,kc f.table l)
 else if vT f l≠0 then(f,vT f l)
 else if jL (ly f) (kP f l)=[]then(⟨f.aF,eO f.table l⟩,0)
 else(⟨(gv f.aF (jL (ly f) (kP f l))).1,if(gv f.aF (jL (ly f) (kP f l))).2≠0 then f.table else eO f.table l⟩,(gv f.aF (jL (ly f) (kP f l))).2)):=rfl
theorem QU{f:FV}{l:List Ch}(h0:ft f=true)(h1:kc f.table l≠0):jO f l=(f,kc f.table l):=by
 rw[Ax,if_neg (by rw[h0];simp),if_pos h1]
theorem QV{f:FV}{l:List Ch}(h0:ft f=true)(h1:kc f.table l=0)(h2:vT f l≠0):jO f l=(f,vT f l):=by
 rw[Ax,if_neg (by rw[h0];simp),if_neg (fun h=>h h1),if_pos h2]
theorem QW{f:FV}{l:List Ch}(h0:ft f=true)(h1:kc f.table l=0)(h2:vT f l=0)(h3:jL (ly f) (kP f l)=[]):jO f l=(⟨f.aF,eO f.table l⟩,0):=by
 rw[Ax,if_neg (by rw[h0];simp),if_neg (fun h=>h h1),if_neg (fun h=>h h2),if_pos h3]
theorem QX{f:FV}{l:List Ch}(h0:ft f=true)(h1:kc f.table l=0)(h2:vT f l=0)(h3: ¬jL (ly f) (kP f l)=[]):jO f l=(⟨(gv f.aF (jL (ly f) (kP f l))).1,if(gv f.aF (jL (ly f) (kP f l))).2≠0 then f.table else eO f.table l⟩,(gv f.aF (jL (ly f) (kP f l))).2):=by
 rw[Ax,if_neg (by rw[h0];simp),if_neg (fun h=>h h1),if_neg (fun h=>h h2),if_neg h3]
theorem QY{c:CV}(h: ¬kO c=0)(h1:(bq c).2=0)(h2:((bq c).1.at_.length:Int)≠fe c∨jy (lv (bq c).1)≠0):cH c=(mg,2):=by
 by_cases h3:((bq c).1.at_.length:Int)=fe c
 ·
  exact(Au h h1 h3 (h2.resolve_left fun g=>g h3)).1
 ·
  exact(As h h1 h3).1
theorem QZ{v:VV}{i:Nat}{y:Int}(hr:gJ v=true)(ji:v.ai.off=false)(hi:i≤v.at_.length)(hy:v.at_.getD i 0=y)(hl:i<v.at_.length):(l4 v i).1=iz v.ai (v.at_.getD i 0):=by
 have h2:=(vz hr).2.2 (v.at_.getD i 0) (by rw[oW (List.getElem?_eq_getElem hl)];exact List.getElem_mem hl)
 rw[l4,if_neg (fun h=>h ⟨hr,Int.natCast_nonneg _,by omega⟩),if_neg (by rw[ji];simp),Int.toNat_natCast,iz]
 by_cases h0:v.at_.getD i 0=0
 ·
  rw[if_pos h0,if_pos (by omega)]
 ·
  rw[if_neg h0,if_neg (by omega)]
theorem Q0{c:CV}(h:(cH c).2≠0):(cH c).1=mg:=by
 by_cases h0:kO c=0
 ·
  rw[(Aq h0).1]
 by_cases h1:(bq c).2=0
 ·
  by_cases h2:((bq c).1.at_.length:Int)=fe c
  ·
   by_cases h3:jy (lv (bq c).1)=0
   ·
    rw[(uh h0 h1 h2 h3).1]at h;exact absurd rfl h
   ·
    rw[(Au h0 h1 h2 h3).1]
  ·
   rw[(As h0 h1 h2).1]
 ·
  rw[(Ar h0 h1).1]
def Jr(f:FV):Bool:=bg f.aF.ai&&decide (f.aF.at_.length≤1000000)&&decide (f.table.length≤1000000)
end Go.Kb
namespace Go.aL
open Go.RowKit
theorem DV{P:Program}{fn:Func}{N:cy}{env:Env}{w0:World}{L:List aj}(hf:fn.results= #[]): ∀a w,cV N env a→Mem w0 L w→(results fn a.tmps).run P w= .ok (.tuple #[]) w:=fun a w _ _=>by
 simp[results,hf]
section
variable {P:Program} {w0:World} {env:Env}
theorem Js{N:cy}{L:List aj}{d:Option Tmp}{ty:TypeId}{ps:String}{af:Array Edge}{gd:Option (Nat×Bool)}{t:TypeId}{x:Operand}{p:Addr}{v:Value}[ht:gC P t](hx:ev env x=some (.pointer (some p)))(hc:w0.cell? p=some v):Ry P N w0 env L ⟨d, .load t x,ty,ps,af,gd⟩ v:=
 uO ht hx fun w hw=>(hw.below.cell (by
  unfold World.cell? at hc
  cases ho:w0.heap[p.block]?with
  |none=>simp[ho]at hc
  |some o=>exact(Array.getElem?_eq_some_iff.1 ho).1)).trans hc
end
section
variable {P:Program} {N:cy} {w0:World} {env:Env} {L:List aj} {l:List Oper} {Q:Exit→Act→World→Prop} {rest:List Oper} {d:Option Tmp} {ty:TypeId} {ps:String} {af:Array Edge} {K:Value→List aj→Prop}
instance cj.one{v:Value}:cj #[v] 0 v:=⟨rfl⟩
theorem Q1{t:TypeId}{x:Operand}{v:Value}(hc:v.cells= #[v])(hx:ev env x=some v)(hk: ∀b,Sq P N w0 l Q rest (cm env d (.pointer (some ⟨b,0,none⟩))) (ar b #[v] t::L))(hd:cW N d=true:=by rfl):
  Sq P N w0 l Q (⟨d, .box t x,ty,ps,af,none⟩::rest) env L:=BE hx (by rw[hc];exact hk) hd
theorem Q2{t:TypeId}{z:Value}[hz:eC P t z](hc:z.cells= #[z])(hk: ∀b,Sq P N w0 l Q rest (cm env d (.pointer (some ⟨b,0,none⟩))) (ar b #[z] t::L))(hd:cW N d=true:=by rfl):
  Sq P N w0 l Q (⟨d, .alloc t,ty,ps,af,none⟩::rest) env L:=FK (z:=z) (by rw[hc];exact hk) hd
theorem Q3{t:TypeId}{x y:Operand}{i b:Nat}{u:Value}{T:TypeId}{v:Value}(hv:v.oneCell'=true)(hx:ev env x=some (.pointer (some ⟨b,0,none⟩)))(hy:ev env y=some v)[ht:gC P t][hh:Has L b #[u] T i]{L':List aj}[hu:eK L i (ar b #[v] T) L'](hk:Sq P N w0 l Q rest env L'):
  Sq P N w0 l Q (⟨none, .store t x y,ty,ps,af,none⟩::rest) env L:=dM (cs':= #[v]) hx hy (by show 0<1;decide) hv rfl hk
end
theorem Q4{P:Program}{N:cy}{w0:World}{env:Env}{L:List aj}{l:List Oper}{Q:Exit→Act→World→Prop}{rest:List Oper}{ty:TypeId}{ps:String}{af:Array Edge}{t:TypeId}{x y:Operand}{i k p:Nat}{s:Sv}{xs:List UInt8}{a v:UInt8}[ht:gC P t](hx:ev env x=some (.pointer (some ⟨s.b,p,none⟩)))(hy:ev env y=some (.int .u8 v.toNat))[q:eT L s aJ 1 xs i](ha:xs[k]? =some a)(gW:p=s.o+k*1){L':List aj}[hu:eK L i (own aJ 1 s (xs.set k v)) L'](hk:Sq P N w0 l Q rest env L'):
  Sq P N w0 l Q (⟨none, .store t x y,ty,ps,af,none⟩::rest) env L:=
 jU (j:=0) (n:=1) (a':=v) ht.size hx hy (q:=q) (by omega) ha (by simp[Value.cells,Value.oneCell']) rfl (by omega) (by rfl) hk
open Go.RowKit
section
variable {P:Program} {N:cy} {w0:World} {env:Env} {L:List aj} {Q:Exit→Act→World→Prop}
end
section
variable {P:Program} {n:Nat} {w0:World} {env:Env} {L:List aj} {Q:Exit→Act→World→Prop} {l:List Oper} {k:Nat} {rest:List Oper}
theorem vE{α:Type}{l rest:List α}{k:Nat}{o:α}(h:l.drop k=o::rest):l[k]? =some o∧l.drop (k+1)=rest:=by
 constructor
 ·
  have:=congrArg (·[0]?) h;simpa using this
 ·
  have:=congrArg (List.drop 1) h;simpa[List.drop_drop,Nat.add_comm]using this
end
open Go.RowKit
def omap(P:Program)(k:TypeId){α β:Type}(cP:α→Value)(dI:β→Value)(b:Nat)(f:α→Option β):aj:=
  ⟨fun i=>i=b,fun h=> ∃(es:Array MapEntry) (clock:Nat) (m:List (α×β)),h b=some (.map es clock)∧es.toList.map (fun e=>(e.key,e.val))=m.map (fun p=>(cP p.1,dI p.2))∧
    (∀p∈m,∃l,keyOf P k (cP p.1)=some l)∧(m.map Prod.fst).Nodup∧(∀x v,f x=some v↔(x,v)∈m),
   fun h h' e st=>by rw[e b rfl];exact st⟩
class vU(P:Program)(t:TypeId)(k e:outParam TypeId):Prop where
  dP:P.underlying t=some (.map k e)
class xJ(P:Program)(k:TypeId):Prop where
  K:Maps.Keyed P k
class xK{α:Type}(cP:α→Value):Prop where
  inj: ∀{a b:α},cP a=cP b→a=b
class sC(P:Program)(L:List aj)(b:Nat){α β:outParam Type}(k:TypeId)(cP:outParam (α→Value))(dI:outParam (β→Value))(f:outParam (α→Option β))(i:outParam Nat):Prop where
  h:L[i]? =some (omap P k cP dI b f)
instance (priority:=high) sC.here {P:Program}{L:List aj}{b:Nat}{α β:Type}{k:TypeId}{cP:α→Value}{dI:β→Value}{f:α→Option β}:sC P (omap P k cP dI b f::L) b k cP dI f 0:=⟨rfl⟩
instance sC.there{P:Program}{L:List aj}{e:aj}{b:Nat}{α β:Type}{k:TypeId}{cP:α→Value}{dI:β→Value}{f:α→Option β}{i:Nat}[q:sC P L b k cP dI f i]:sC P (e::L) b k cP dI f (i+1):=⟨by simpa using q.h⟩
theorem Jt{P:Program}{k:TypeId}{α β:Type}{cP:α→Value}{dI:β→Value}{f:α→Option β}[K:xJ P k][I:xK cP]{es:Array MapEntry}{m:List (α×β)}(h1:es.toList.map (fun e=>(e.key,e.val))=m.map (fun p=>(cP p.1,dI p.2)))
    (h2: ∀p∈m,∃l,keyOf P k (cP p.1)=some l) (h3: ∀x v,f x=some v↔(x,v)∈m) {x:α} (hx: ∃l,keyOf P k (cP x)=some l) (w:World):
    ((Instr.findKey k (cP x) es.toList).run P w= .ok none w∧f x=none∧ ∀v,(x,v)∉m)∨ ∃(j:Nat) (v:β),(Instr.findKey k (cP x) es.toList).run P w= .ok (some (j,dI v)) w∧m[j]? =some (x,v)∧f x=some v∧(es[j]?).map (·.key)=some (cP x):=by
  have mK: ∀j:Nat,(es.toList[j]?).map (fun e=>(e.key,e.val))=(m[j]?).map (fun p=>(cP p.1,dI p.2)):=fun j=>by rw[←List.getElem?_map,←List.getElem?_map,h1]
  have iG: ∀e∈es.toList,∃l,keyOf P k e.key=some l:=fun e he=>by
    obtain⟨j,hj,rfl⟩:=List.getElem_of_mem he
    have:=mK j
    rw[List.getElem?_eq_getElem hj]at this
    cases hm:m[j]?with
    |none=>rw[hm]at this;cases this
    |some p=>
     rw[hm]at this
     simp only[Option.map_some,Option.some.injEq,Prod.mk.injEq]at this
     rw[this.1];exact h2 p (List.mem_of_getElem? hm)
  obtain⟨lx,nn⟩:=hx
  rcases K.K.find w nn es.toList iG with⟨hr,hn⟩|⟨j,e,hr,hj,hk⟩
  ·have mi: ∀v,(x,v)∉m:=fun v hv=>by
      obtain⟨j,hj,Q5⟩:=List.getElem_of_mem hv
      have:=mK j
      rw[List.getElem?_eq_getElem hj,Q5]at this
      cases he:es.toList[j]?with
      |none=>rw[he]at this;cases this
      |some e=>
       rw[he]at this
       simp only[Option.map_some,Option.some.injEq,Prod.mk.injEq]at this
       exact hn e (List.mem_of_getElem? he) this.1
   refine .inl ⟨hr,?_,mi⟩
   cases hf:f x with
   |none=>rfl
   |some v=>exact absurd ((h3 x v).1 hf) (mi v)
  ·have:=mK j
   rw[hj]at this
   cases hm:m[j]?with
   |none=>rw[hm]at this;cases this
   |some p=>
    rw[hm]at this
    simp only[Option.map_some,Option.some.injEq,Prod.mk.injEq]at this
    have hp:p.1=x:=I.inj (this.1.symm.trans hk)
    refine .inr ⟨j,p.2,by rw[hr,this.2],by rw[hm,←hp],(h3 x p.2).2 (by rw[←hp];exact List.mem_of_getElem? hm),?_⟩
    have jD:es[j]? =some e:=by simpa using hj
    rw[jD,Option.map_some,hk]
section
variable {P:Program} {N:cy} {w0:World} {env:Env} {L:List aj} {d:Option Tmp} {ty:TypeId} {ps:String} {af:Array Edge} {gd:Option (Nat×Bool)} {α β:Type} {cP:α→Value} {dI:β→Value} {f:α→Option β}
theorem run_getObj_map{w:World}{b:Nat}{es:Array MapEntry}{clock:Nat}(h:w.heap[b]? =some (.map es clock)):(getObj b).run P w= .ok (.map es clock) w:=by simp[getObj,Sem.run,h]
theorem run_setObj_map{w:World}{b:Nat}{es:Array MapEntry}{clock:Nat}(o:Obj)(h:w.heap[b]? =some (.map es clock)):(setObj b o).run P w= .ok () (w.putObj b o):=by simp[setObj,Sem.run,h,World.putObj]
theorem DW{t k e:TypeId}{m x:Operand}{b i:Nat}{z:β}{v:α}[ht:vU P t k e][K:xJ P k][I:xK cP][hz:eC P e (dI z)](hm:ev env m=some (.map (some b)))(hx:ev env x=some (cP v))[q:sC P L b k cP dI f i](hv: ∃l,keyOf P k (cP v)=some l):
    Ry P N w0 env L ⟨d, .lookup t m x true,ty,ps,af,gd⟩ (.tuple #[dI ((f v).getD z), .bool (f v).isSome]):=fun a w ha hw=>by
  obtain⟨es,clock,ml,h0,h1,h2,_,h3⟩:=hw.get q.h
  obtain⟨l,hl⟩:=hv
  have hc:=K.K.check w es.isEmpty hl
  simp only[execOp,ha.ev hm,ha.ev hx,Instr.lookup,Sem.run_bind,run_underlying ht.dP,Result.andThen,run_getObj_map h0,Sem.run_pure,hc]
  rcases Jt (P:=P) (k:=k) h1 h2 h3 ⟨l,hl⟩ w with⟨hr,hf,_⟩|⟨j,u,hr,_,hf,_⟩
  ·simp only[hr,hf,Option.getD_none,yQ w hz,Sem.run_bind,Result.andThen,Sem.run_pure];rfl
  ·simp only[hr,hf,Option.getD_some,Sem.run_pure];rfl
end
section
variable {P:Program} {N:cy} {w0:World} {env:Env} {L:List aj} {l:List Oper} {Q:Exit→Act→World→Prop} {rest:List Oper} {d:Option Tmp} {ty:TypeId} {ps:String} {af:Array Edge} {α β:Type} {cP:α→Value} {dI:β→Value} {f:α→Option β}
theorem Mem.Ju{w:World}(P:Program)(k:TypeId)(cP:α→Value)(dI:β→Value)(h:Mem w0 L w):Mem w0 (omap P k cP dI w.heap.size (fun _=>none)::L) (w.alloc (.map #[] 0)):=by
  refine h.call (E:=[omap P k cP dI w.heap.size (fun _=>none)]) ⟨(Below.refl _ _).alloc (Nat.le_refl _) _,fun e he=> ?_,fun e he j hj=> ?_,by simp⟩
  ·obtain rfl:e=omap P k cP dI w.heap.size (fun _=>none):=by simpa using he
   exact⟨#[],0,[],Below.yE w _,rfl,by simp,by simp,by simp⟩
  ·obtain rfl:e=omap P k cP dI w.heap.size (fun _=>none):=by simpa using he
   have:j=w.heap.size:=hj
   subst this;simp
theorem Q6{t k e:TypeId}(cP:α→Value)(dI:β→Value){r:Operand}{kk:IntKind}{n:Int}[ht:vU P t k e](hr:ev env r=some (.int kk n))(hk: ∀b,Sq P N w0 l Q rest (cm env d (.map (some b))) (omap P k cP dI b (fun _=>none)::L))(hd:cW N d=true:=by rfl):
    Sq P N w0 l Q (⟨d, .makeMap t (some r),ty,ps,af,none⟩::rest) env L:=
  lJ rfl hd fun a w ha hw=>⟨_,_,_,by
    simp only[execOp,Option.map_some,ha.ev hr,Instr.makeMap,Sem.run_bind,run_underlying ht.dP,Result.andThen,Sem.run_pure,asInt,asIntOf,newObj,Sem.run]
    rfl,hw.Ju P k cP dI,hk _⟩
theorem Jv{t k e:TypeId}(cP:α→Value)(dI:β→Value)[ht:vU P t k e](hk: ∀b,Sq P N w0 l Q rest (cm env d (.map (some b))) (omap P k cP dI b (fun _=>none)::L))(hd:cW N d=true:=by rfl):
    Sq P N w0 l Q (⟨d, .makeMap t none,ty,ps,af,none⟩::rest) env L:=
  lJ rfl hd fun a w ha hw=>⟨_,_,_,by
    simp only[execOp,Option.map_none,Instr.makeMap,Sem.run_bind,Result.andThen,Sem.run_pure,newObj,Sem.run]
    rfl,hw.Ju P k cP dI,hk _⟩
theorem Q7{t k e:TypeId}{m x y:Operand}{b i:Nat}{v:α}{u:β}[DecidableEq α][ht:vU P t k e][K:xJ P k][I:xK cP](hm:ev env m=some (.map (some b)))(hx:ev env x=some (cP v))(hy:ev env y=some (dI u))[q:sC P L b k cP dI f i](hv: ∃l,keyOf P k (cP v)=some l)
    {L':List aj} [hu:eK L i (omap P k cP dI b (fun z=>if z=v then some u else f z)) L'] {a:Act} {w:World} (ha:cV N env a) (hw:Mem w0 L w):
    ∃w',(execOp a.eval ⟨none, .mapUpdate t m x y,ty,ps,af,none⟩).run P w= .ok .skip w'∧Mem w0 L' w':=by
  obtain⟨es,clock,ml,h0,h1,h2,cr,h3⟩:=hw.get q.h
  obtain⟨lk,hl⟩:=hv
  have hc:=K.K.check w false hl
  have bH:=K.K.stays w hl
  have step: ∀o:Obj,(omap P k cP dI b (fun z=>if z=v then some u else f z)).sat (fun j=>(w.putObj b o).heap[j]?)→Mem w0 L' (w.putObj b o):=fun o ho=>by
    rw[←hu.h]
    exact hw.change q.h (fun j hj=>hj) (fun j hj=>World.putObj_heap_other (fun e=>hj e)) World.putObj_size ⟨rfl,rfl,rfl⟩ ho
  have bB:b<w.heap.size:=(Array.getElem?_eq_some_iff.1 h0).1
  rcases Jt (P:=P) (k:=k) h1 h2 h3 ⟨lk,hl⟩ w with⟨hr,hf,mi⟩|⟨j,u0,hr,hj,hf,Q8⟩
  ·refine⟨w.putObj b (.map (es.push {key:=cP v,val:=dI u,born:=clock}) (clock+1)),?_,step _ ⟨_,_,ml++[(v,u)],World.putObj_heap_same bB,?_,?_,?_,?_⟩⟩
   ·simp only[execOp,ha.ev hm,ha.ev hx,ha.ev hy,Instr.mapUpdate,Sem.run_bind,run_underlying ht.dP,Result.andThen,run_getObj_map h0,hc,hr,run_setObj_map _ h0,Sem.run_pure]
   ·simp[h1]
   ·intro p hp
    rcases List.mem_append.1 hp with hp|hp
    ·exact h2 p hp
    ·obtain rfl:p=(v,u):=by simpa using hp
     exact⟨lk,hl⟩
   ·rw[List.map_append,List.nodup_append]
    refine⟨cr,by simp,fun x1 nT y1 xL e1=> ?_⟩
    obtain rfl:y1=v:=by simpa using xL
    subst e1
    obtain⟨p,hp,rfl⟩:=List.mem_map.1 nT
    exact mi p.2 hp
   ·intro x' v'
    show(if x'=v then some u else f x')=some v'↔_
    by_cases e:x'=v
    ·subst e;rw[if_pos rfl]
     constructor
     ·intro h;cases h;simp
     ·intro h
      rcases List.mem_append.1 h with h|h
      ·exact absurd h (mi v')
      ·simp at h;rw[h]
    ·rw[if_neg e,h3 x' v'];simp[e]
  ·have iR:j<ml.length:=(List.getElem?_eq_some_iff.1 hj).1
   refine⟨w.putObj b (.map (es.modify j fun e=>{e with key:=cP v,val:=dI u}) clock),?_,step _ ⟨_,_,ml.set j (v,u),World.putObj_heap_same bB,?_,?_,?_,?_⟩⟩
   ·simp only[execOp,ha.ev hm,ha.ev hx,ha.ev hy,Instr.mapUpdate,Sem.run_bind,run_underlying ht.dP,Result.andThen,run_getObj_map h0,hc,hr,Q8,Option.getD_some,bH,run_setObj_map _ h0,Sem.run_pure]
   ·refine List.ext_getElem? fun n=> ?_
    have:=congrArg (·[n]?) h1
    simp only[List.getElem?_map]at this⊢
    rw[List.getElem?_set]
    by_cases e:j=n
    ·subst e
     rw[if_pos rfl,if_pos iR]
     rw[hj]at this
     cases he:es.toList[j]?with
     |none=>rw[he]at this;cases this
     |some e0=>
      have oE:es[j]? =some e0:=by simpa using he
      simp[Array.getElem?_modify,oE]
    ·rw[if_neg e,←this]
     simp[Array.getElem?_modify,e]
   ·intro p hp
    rcases List.mem_or_eq_of_mem_set hp with hp|rfl
    ·exact h2 p hp
    ·exact⟨lk,hl⟩
   ·rw[List.map_set]
    have:(ml.map Prod.fst)[j]? =some v:=by rw[List.getElem?_map,hj];rfl
    rw[show(ml.map Prod.fst).set j (v,u).1=ml.map Prod.fst from by
        refine List.ext_getElem? fun n=> ?_
        rw[List.getElem?_set]
        by_cases e:j=n
        ·subst e;rw[if_pos rfl,if_pos (by simpa using iR),this]
        ·rw[if_neg e]]
    exact cr
   ·intro x' v'
    have Q9: ∀n p,ml[n]? =some p→p.1=v→n=j:=fun n p hn hp=>by
        have a1:(ml.map Prod.fst)[n]? =some v:=by rw[List.getElem?_map,hn,Option.map_some,hp]
        have a2:(ml.map Prod.fst)[j]? =some v:=by rw[List.getElem?_map,hj];rfl
        exact(List.getElem?_inj (by simpa using(List.getElem?_eq_some_iff.1 hn).1) cr).1 (a1.trans a2.symm)
    show(if x'=v then some u else f x')=some v'↔_
    by_cases e:x'=v
    ·subst e;rw[if_pos rfl]
     constructor
     ·intro h;cases h
      exact List.mem_of_getElem? (i:=j) (by rw[List.getElem?_set,if_pos rfl,if_pos iR])
     ·intro h
      obtain⟨n,hn⟩:=List.mem_iff_getElem?.1 h
      rw[List.getElem?_set]at hn
      by_cases en:j=n
      ·rw[if_pos en,if_pos iR]at hn;simp only[Option.some.injEq,Prod.mk.injEq,true_and]at hn;rw[hn]
      ·rw[if_neg en]at hn;exact absurd (Q9 n _ hn rfl).symm en
    ·rw[if_neg e,h3 x' v']
     constructor
     ·intro h
      obtain⟨n,hn⟩:=List.mem_iff_getElem?.1 h
      refine List.mem_of_getElem? (i:=n) ?_
      rw[List.getElem?_set,if_neg,hn]
      rintro rfl
      rw[hj]at hn;simp only[Option.some.injEq,Prod.mk.injEq]at hn;exact e hn.1.symm
     ·intro h
      rcases List.mem_or_eq_of_mem_set h with h|h
      ·exact h
      ·simp only[Prod.mk.injEq]at h;exact absurd h.1 e
theorem DX{t k e:TypeId}{m x y:Operand}{b i:Nat}{v:α}{u:β}[DecidableEq α][ht:vU P t k e][K:xJ P k][I:xK cP](hm:ev env m=some (.map (some b)))(hx:ev env x=some (cP v))(hy:ev env y=some (dI u))[q:sC P L b k cP dI f i](hv: ∃l,keyOf P k (cP v)=some l)
    {L':List aj} [hu:eK L i (omap P k cP dI b (fun z=>if z=v then some u else f z)) L'] (hk:Sq P N w0 l Q rest env L'):
    Sq P N w0 l Q (⟨none, .mapUpdate t m x y,ty,ps,af,none⟩::rest) env L:=
  yY rfl rfl fun a w ha hw=>by
    obtain⟨w',h1,h2⟩:=Q7 (t:=t) (k:=k) (e:=e) (ty:=ty) (ps:=ps) (af:=af) hm hx hy hv (L':=L') ha hw
    exact⟨w',L',h1,h2,hk⟩
end
open Go.Kb Go.RowKit
theorem DY{w0 w:World}{L R:List aj}{e:aj}{i:Nat}(q:L[i]? =some e)(d:L.eraseIdx i=R)(h:Mem w0 L w):Mem w0 (e::R) w:=by
 have:=h.perm (mA q);rwa [d]at this
theorem qZ{w0 w:World}{L R1 R2:List aj}{e1 e2:aj}{i j:Nat}(h1:L[i]? =some e1)(d1:L.eraseIdx i=R1)(h2:R1[j]? =some e2)(d2:R1.eraseIdx j=R2)(h:Mem w0 L w):Mem w0 (e1::e2::R2) w:=by
 subst d1;subst d2
 exact h.perm ((mA h1).trans ((mA h2).cons _))
instance (priority:=low) ah.drop {L L':List aj}{e:aj}[k:ah L L']:ah (e::L) L':=⟨by
 obtain⟨R,hR⟩:=k.h
 exact⟨e::R,(hR.cons e).trans List.perm_middle.symm⟩⟩
section
variable {P:Program} {N:cy} {w0:World} {env:Env} {L:List aj} {Q:Exit→Act→World→Prop} {d:Option Tmp} {ty:TypeId} {ps:String} {af:Array Edge} {gd:Option (Nat×Bool)} {K:Value→List aj→Prop}
theorem Ry.to{o:Oper}{v v':Value}(h:Ry P N w0 env L o v)(e:v=v'):Ry P N w0 env L o v':=e▸h
theorem Ay{f:FuncId}{x:Operand}{jf:Array Value}{xs:List Operand}{ts:Array TypeId}{vs:List Value}{v:Value}[hf:aM P f](hx:ev env x=some (.func (.func f) #[] jf))(Ra:gB env xs=some vs)
  (hc: ∀w,Mem w0 L w→Calls P f (vs++jf.toList).toArray w fun e w'=>e= .returned v∧Mem w [] w'):
  Yl P N w0 env L ⟨d, .call {callee:= .value x,args:=xs.toArray,argTypes:=ts},ty,ps,af,gd⟩ v:=fun a ha w hw=>by
 unfold Oper.quietAt
 obtain⟨fn,h1,h2,h3⟩:=hf.fn
 have Bz: ¬fn.body=none:=fun e=>by simp[e]at h2
 have uP: ¬fn.name= "runtime.NumGoroutine" :=by simpa using h3
 have e:(execOp a.eval ⟨d, .call {callee:= .value x,args:=xs.toArray,argTypes:=ts},ty,ps,af,gd⟩).run P w= .ok (.enter f (vs++jf.toList).toArray) w:=by
  have hm:=ha.gB Ra
  simp[execOp,resolve,ha.ev hx,Deferred.ofValue,invoke,callFunc,h1,Bz,uP,Result.andThen,←hm]
 rw[e]
 exact⟨rfl,hc w hw⟩
theorem DZ{f:Fn}{xs:List Operand}{vs:List Value}(hx:gB env xs=some vs):Ry P N w0 env L ⟨d, .makeFunc f #[] xs.toArray,ty,ps,af,gd⟩ (.func f #[] vs.toArray):=fun a w ha _=>by
 have hm:=ha.gB hx
 simp[execOp,Instr.makeFunc,Result.andThen,←hm]
instance (s:Sv):cj (pI s) 0 s.val:=⟨rfl⟩
instance (s:Sv):cj s.val.cells 0 s.val:=⟨by rw[Sv.hQ];rfl⟩
variable {s:Sv} {xs:List Nd} {a:Nd}
end
end Go.aL
namespace Go.Proofs.YtaipiecplldinaaGreat
open Go.aL Go.Kb
open Go.RowKit
instance:eC Tryz.prog 94 (.agg (cX vg)):=⟨by kernel_rfl⟩
instance:eC Tryz.prog 48 (.agg (bN k6)):=⟨by kernel_rfl⟩
instance:eC Tryz.prog 25 (.agg (aB ep)):=⟨by kernel_rfl⟩
instance:eC Tryz.prog 5 (.int .u8 0):=⟨by kernel_rfl⟩
instance:eC Tryz.prog 38 (.slice none 0 0):=⟨by kernel_rfl⟩
theorem Rb(w:World)(b:Int)(n:Int)(s:Int):Calls Tryz.prog 65 #[.int .i64 b, .int .i64 n, .int .i64 s] w fun e w'=>e= .returned (.bool (nO b n s))∧Mem w [] w':=by
 refine aW (args:=[_,_,_]) Tryz.func65 rfl Tryz.ntmps65 rfl ?_
 change Cw _ _ _ _ _ [(0, .int .i64 b),(1, .int .i64 n),(2, .int .i64 s)] []
 refine Gc ?_
 refine Gs ?_
 refine Gc ?_
 iterate 3 refine Gs ?_
 iterate 2 refine Gg ?_
 iterate 2 refine Gs ?_
 iterate 2 refine Gg ?_
 iterate 2 refine Gs ?_
 iterate 2 refine Gg ?_
 iterate 2 refine Gs ?_
 iterate 2 refine Gg ?_
 iterate 2 refine Gs ?_
 iterate 2 refine Gg ?_
 iterate 2 refine Gs ?_
 refine Gc ?_
 refine an (.inl rfl) (aK rfl (al rfl)) (fun w1 hw=> ?_)
 exact⟨congrArg (fun b=>Ending.returned (Value.bool b)) (rfl),ah.mem hw⟩
instance acL{w0:World}{L:List aj}{b:Int}{n:Int}{s:Int}:bU Tryz.prog 65 w0 L [.int .i64 b, .int .i64 n, .int .i64 s] (.bool (nO b n s)) (True):=⟨fun hp w hw=>Rb w b n s⟩
theorem Rc(w:World)(c:Cp)(hc:Deep.bk (hp w) c):Calls Tryz.prog 68 #[.agg (aB c)] w fun e w'=>e= .returned (.bool (bg (cv c)))∧Mem w [] w':=by
 have gy:bT w c:=⟨hc⟩
 have cO:=dH c.blocks.xs
 have ct:bg (cv c)=true↔nO c.blocks.xs.length c.ag c.size=true∧0≤c.ops∧c.ops≤dJ∧c.bc.xs.length≤64∧ ∀b∈fm c.blocks.xs,k7 c.ag c.size b=true:=by rw[dE];simp only[cv,cO]
 have o8:dJ=1099511627776:=rfl
 refine aW (args:=[_]) Tryz.func68 rfl Tryz.ntmps68 rfl ?_
 change Cw _ _ _ _ _ [(0, .agg (aB c))] []
 refine Gc ?_
 refine bL rfl fun b1=> ?_
 refine Gs ?_
 refine Gc ?_
 iterate 10 refine Gs ?_
 iterate 3 refine Gg ?_
 iterate 2 refine Gs ?_
 iterate 3 refine Gg ?_
 iterate 2 refine Gs ?_
 iterate 4 refine Gg ?_
 refine Gs ?_
 refine Gc ?_
 refine aq rfl (fun h0=> ?_) (fun h0=> ?_)
 ·
  replace h0:=bz h0
  have hz:bg (cv c)=false:=by
   cases hk:bg (cv c)with
   |false=>rfl
   |true=>
    have g:=ct.1 hk
    rw[g.1]at h0
    simp only[Bool.true_eq_false,false_or]at h0
    omega
  refine Gc ?_
  refine Gs ?_
  refine Gc ?_
  refine an (.inl rfl) (aK rfl (al rfl)) (fun w1 hw=> ?_)
  exact⟨congrArg (fun b=>Ending.returned (Value.bool b)) (hz.symm),ah.mem hw⟩
 ·
  replace h0:=bz h0
  have g0:nO c.blocks.xs.length c.ag c.size=true∧0≤c.ops∧c.ops≤dJ∧c.bc.xs.length≤64:=by
   cases hk:nO c.blocks.xs.length c.ag c.size with
   |false=>rw[hk]at h0;simp at h0
   |true=>rw[hk]at h0;simp only[Bool.true_eq_false,not_false_eq_true,true_and]at h0;exact⟨rfl,by omega,by omega,by omega⟩
  have gs:=ik.1 g0.1
  refine Gc ?_
  iterate 4 refine Gs ?_
  refine Gc ?_
  refine bK (X:=Nat) (fun zz=>[(35, .int .i64 (zz:Nat)),(1, .pointer (some ⟨b1,0,none⟩)),(33,c.blocks.sv.val),(34, .int .i64 (c.blocks.xs.length:Nat))]) (fun zz=>[ar b1 (aB c) 25]) (fun zz=>zz≤c.blocks.xs.length∧ ∀j b,j<zz→(fm c.blocks.xs)[j]? =Option.some b→k7 c.ag c.size b=true) (fun zz=>c.blocks.xs.length -zz) 0 ⟨Nat.zero_le _,fun j b hj=>by first|omega|(simp only[];omega)⟩ (Sub.cons rfl (Sub.cons rfl (Sub.cons rfl (Sub.cons rfl (Sub.nil _))))) (fun w hw=>ah.mem hw) ?_
  rintro i ⟨bb,aH⟩
  refine Gc ?_
  refine Gs ?_
  refine Gc ?_
  refine aq rfl (fun h1=> ?_) (fun h1=> ?_)
  ·
   replace h1:=bz h1
   iterate 6 refine Gi ?_
   obtain⟨x,hx⟩:=get_some (xs:=c.blocks.xs) (i:=i) (by omega)
   refine ae (aX rfl rfl i rfl (by omega)) ?_
   refine ae (fH rfl i hx rfl) ?_
   have acM:Mb x c.blocks:=⟨List.mem_of_getElem? hx⟩
   refine bx fun b4=> ?_
   refine Gs ?_
   refine Gc ?_
   iterate 7 refine Gs ?_
   iterate 3 refine Gg ?_
   iterate 2 refine Gs ?_
   iterate 5 refine Gg ?_
   iterate 2 refine Gs ?_
   iterate 3 refine Gg ?_
   iterate 2 refine Gs ?_
   iterate 3 refine Gg ?_
   refine Gs ?_
   refine Gc ?_
   refine aq rfl (fun h2=> ?_) (fun h2=> ?_)
   ·
    replace h2:=bz h2
    have hz:bg (cv c)=false:=by
     cases hk:bg (cv c)with
     |false=>rfl
     |true=>
      have g:=eM.1 ((ct.1 hk).2.2.2.2 (bv x) (List.mem_of_getElem? (fK hx)))
      simp only[bv,fk]at g
      omega
    refine Gc ?_
    refine Gs ?_
    refine Gc ?_
    refine an (.inl rfl) (aK rfl (al rfl)) (fun w1 hw=> ?_)
    exact⟨congrArg (fun b=>Ending.returned (Value.bool b)) (hz.symm),ah.mem hw⟩
   ·
    replace h2:=bz h2
    refine Gc ?_
    iterate 4 refine Gs ?_
    refine Gc ?_
    refine bK (X:=Nat) (fun zz=>[(70, .int .i64 (zz:Nat)),(1, .pointer (some ⟨b1,0,none⟩)),(33,c.blocks.sv.val),(34, .int .i64 (c.blocks.xs.length:Nat)),(35, .int .i64 (i:Nat)),(68,x.ag.sv.val),(69, .int .i64 (x.ag.xs.length:Nat))]) (fun zz=>[ar b4 (bN x) 48,ar b1 (aB c) 25]) (fun zz=>zz≤x.ag.xs.length∧ ∀k y,k<zz→(bv x).ag[k]? =Option.some y→(y.length:Int)=c.size) (fun zz=>x.ag.xs.length -zz) 0 ⟨Nat.zero_le _,fun k y hk=>by first|omega|(simp only[];omega)⟩ (Sub.cons rfl (Sub.cons rfl (Sub.cons rfl (Sub.cons rfl (Sub.cons rfl (Sub.cons rfl (Sub.cons rfl (Sub.nil _)))))))) (fun w hw=>ah.mem hw) ?_
    rintro j ⟨jA,db⟩
    refine Gc ?_
    refine Gs ?_
    refine Gc ?_
    refine aq rfl (fun h3=> ?_) (fun h3=> ?_)
    ·
     replace h3:=bz h3
     iterate 6 refine Gi ?_
     obtain⟨y,hy⟩:=get_some (xs:=x.ag.xs) (i:=j) (by omega)
     refine ae (aX rfl rfl j rfl (by omega)) ?_
     refine ae (bn (j:=0) rfl j hy rfl (by decide)) ?_
     have acN:Mb y _:=⟨List.mem_of_getElem? hy⟩
     refine Gs ?_
     refine Gc ?_
     iterate 5 refine Gs ?_
     refine Gc ?_
     refine aq rfl (fun h4=> ?_) (fun h4=> ?_)
     ·
      replace h4:=bz h4
      have hz:bg (cv c)=false:=by
       cases hk:bg (cv c)with
       |false=>rfl
       |true=>
        have g:=(eM.1 ((ct.1 hk).2.2.2.2 (bv x) (List.mem_of_getElem? (fK hx)))).2.2.2.2.2 y.xs (List.mem_of_getElem? (ib hy))
        omega
      refine Gc ?_
      refine Gs ?_
      refine Gc ?_
      refine an (.inl rfl) (aK rfl (al rfl)) (fun w1 hw=> ?_)
      exact⟨congrArg (fun b=>Ending.returned (Value.bool b)) (hz.symm),ah.mem hw⟩
     ·
      replace h4:=bz h4
      refine Gc ?_
      iterate 2 refine Gs ?_
      refine Gi ?_
      exact bh (x:=(j)) (j+1) ⟨by first|omega|(simp only[];omega),fun k z hk hz=>if e:k=j then(by subst e;rw[show(bv x).ag=aE x.ag.xs from rfl,ib hy]at hz;cases hz;omega)else db k z (by first|omega|(simp only[];omega)) hz⟩ (by first|omega|(simp only[];omega)) (Sub.cons rfl (Sub.cons rfl (Sub.cons rfl (Sub.cons rfl (Sub.cons rfl (Sub.cons rfl (Sub.cons rfl (Sub.nil _)))))))) (fun w hw=>ah.mem hw)
    ·
     replace h3:=bz h3
     have p8:k7 c.ag c.size (bv x)=true:=eM.2 ⟨by simp only[bv,fk];omega,by simp only[bv];omega,by simp only[bv];omega,by simp only[bv];omega,by simp only[bv];omega,fun y hy=>by
      obtain⟨k,hk⟩:=List.getElem?_of_mem hy
      exact db k y (by have h:=(List.getElem?_eq_some_iff.1 hk).1;simp only[bv,fk]at h;omega) hk⟩
     refine Gc ?_
     iterate 2 refine Gs ?_
     refine Gi ?_
     exact bh (x:=(i)) (i+1) ⟨by first|omega|(simp only[];omega),fun j b hj hb=>if e:j=i then(by subst e;rw[fK hx]at hb;cases hb;exact p8)else aH j b (by first|omega|(simp only[];omega)) hb⟩ (by first|omega|(simp only[];omega)) (Sub.cons rfl (Sub.cons rfl (Sub.cons rfl (Sub.cons rfl (Sub.nil _))))) (fun w hw=>ah.mem hw)
  ·
   replace h1:=bz h1
   obtain rfl:i=c.blocks.xs.length:=by omega
   have hz:bg (cv c)=true:=ct.2 ⟨g0.1,g0.2.1,g0.2.2.1,g0.2.2.2,fun b hb=>by
    obtain⟨j,hj⟩:=List.getElem?_of_mem hb
    exact aH j b (by have:=(List.getElem?_eq_some_iff.1 hj).1;omega) hj⟩
   refine Gc ?_
   refine Gs ?_
   refine Gc ?_
   refine an (.inl rfl) (aK rfl (al rfl)) (fun w1 hw=> ?_)
   exact⟨congrArg (fun b=>Ending.returned (Value.bool b)) (hz.symm),ah.mem hw⟩
instance acO{w0:World}{L:List aj}{c:Cp}[hc:aS w0 L c]:bU Tryz.prog 68 w0 L [.agg (aB c)] (.bool (bg (cv c))) (True):=⟨fun hp w hw=>Rc w c (hc.h w hw)⟩
end Go.Proofs.YtaipiecplldinaaGreat

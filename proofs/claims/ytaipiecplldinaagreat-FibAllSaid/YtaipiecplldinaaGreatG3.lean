/- Part of a proof. -/
import Derived.Test.YtaipiecplldinaaGreatG2
import Derived.Test.YtaipiecplldinaaGreatG1
import Derived.Test.YtaipiecplldinaaGreatRows
import Derived.DeepKeys
import Derived.Lib.BytesEntry
import Derived.Maps.Keyed
set_option maxRecDepth 20000
set_option linter.unusedSimpArgs false
set_option linter.unusedVariables false
namespace Go.Kb
open Go.ay
def ig(c:CV)(l:List Int):Prop:= ∀n∈l,n=0∨(1≤n∧2≤(n -1)/c.ae∧(n -1)/c.ae<(c.blocks.length:Int))
theorem ig.cx{c d:CV}{l:List Int}(h:ig c l)(g:dL c d):ig d l:=fun n hn=>by
  rcases h n hn with h|h
  ·exact .inl h
  ·exact .inr (by rw[g.ae,g.len];exact h)
theorem ig.append{c:CV}{a b:List Int}(h:ig c a)(g:ig c b):ig c (a++b):=fun n hn=>(List.mem_append.1 hn).elim (h n) (g n)
theorem eH{c:CV}(h:aT c=true):1≤(c.blocks.length:Int)∧(c.blocks.length:Int)≤32∧1≤c.ae∧c.ae≤16∧1≤c.size∧c.size≤256:=kR.1 (eL.1 h).1
theorem Lc{n p b:Int}(hp:1≤p)(kg:p≤16)(hb:b≤32)(h:(n -1)/p<b):n≤512:=by
  have h1:n -1=p*((n -1)/p)+(n -1)%p:=(Int.mul_ediv_add_emod (n -1) p).symm
  have h2:=Int.emod_lt_of_pos (n -1) (show 0<p by omega)
  have h3:(n -1)/p≤31:=by omega
  have h4:p*((n -1)/p)≤p*31:=Int.mul_le_mul_of_nonneg_left h3 (by omega)
  omega
theorem ig.kn{c:CV}{l:List Int}(h:ig c l)(hk:aT c=true)(h2:2≤c.blocks.length)(hl:l.length≤1000000):qh c l:=
  ⟨⟨hk,hl⟩,h2,fun n hn=>by
    rcases h n hn with h|h
    ·exact .inl h
    ·have hd:=eH hk
     have:=Lc (n:=n) hd.2.2.1 hd.2.2.2.1 hd.2.1 h.2.2
     exact .inr ⟨h.1,by omega,h.2.1,h.2.2⟩⟩
theorem FA{c:CV}{fl:List Int}{i:Nat}(hi:i<c.blocks.length -2):(aB c fl)[i]? =some (mW (q8 (aj c ((i:Int)+2)) (mV c.ae fl fl.length i))):=by
  rw[aB,iH,jD,List.getElem?_map,List.getElem?_map,List.getElem?_range hi];rfl
theorem tB{c:CV}{fl:List Int}{i:Nat}{x:aA}(h:(aB c fl)[i]? =some x):x.bad=(aj c ((i:Int)+2)).bad:=by
  have hi:=(List.getElem?_eq_some_iff.1 h).1
  rw[kf]at hi
  rw[FA hi]at h
  obtain rfl:=Option.some.inj h
  rw[mW];split
  ·rename_i hb;exact hb.symm
  ·rfl
theorem rb{c:CV}(hk:aT c=true){b:Int}(h0:0≤b)(h1:b<c.blocks.length):ow c.ae c.size (aj c b)=true:=ox (fv.2 ⟨hk,h0,h1⟩)
structure B3(c:CV)(n:Nat)(x:aA):Prop where
  FB:0≤x.live
  Tx:x.live≤n
  zn:0≤x.used
  w8:x.used≤c.ae
  Ld:0≤x.aS
  Le:x.aS≤cN
theorem tC{c:CV}{fl:List Int}(hk:aT c=true){x:aA}(h:x∈aB c fl):B3 c fl.length x:=by
  obtain⟨i,hi⟩:=List.getElem?_of_mem h
  have fC:=(List.getElem?_eq_some_iff.1 hi).1
  rw[kf]at fC
  rw[FA fC]at hi
  obtain rfl:=Option.some.inj hi
  have hd:=eH hk
  have pq:cN=1099511627776:=rfl
  rw[mW];split
  ·exact⟨by simp[bc],by simp[bc],by simp[bc],by simp only[bc];omega,by simp[bc],by simp only[bc];omega⟩
  ·have ho:=eX.1 (rb hk (b:=(i:Int)+2) (by omega) (by omega))
   have:=KW c.ae fl fl.length i
   exact⟨by simp only[q8];omega,by simp only[q8];omega,ho.2.1,ho.2.2.1,ho.2.2.2.1,ho.2.2.2.2.1⟩
theorem FC{R:aA→Bool}{l:List aA}{i:Nat}{x:aA}(h:(bZ R l)[i]? =some x): ∃y,l[i]? =some y∧x=iQ R y:=by
  rw[bZ,List.getElem?_map,Option.map_eq_some_iff]at h
  obtain⟨y,hy,rfl⟩:=h
  exact⟨y,hy,rfl⟩
theorem Ty{R:aA→Bool}{y:aA}(h:(iQ R y).bad=false):iQ R y=y∧y.bad=false∧R y=true:=by
  unfold iQ at h⊢
  split at h
  ·cases h
  ·rename_i hn
   rw[if_neg hn]
   refine⟨rfl,h,?_⟩
   cases hR:R y with
   |true=>rfl
   |false=>exact absurd (.inr hR) hn
theorem vk{p:Int}{x:aA}(h:nJ p x=true):x.bad=false∧x.used<p:=by
  simpa[nJ]using h
theorem kA{x:aA}(h:mg x=true):x.bad=false∧x.live=0∧0<x.used:=by
  simpa[mg,and_assoc]using h
theorem oC{R:aA→Bool}{l:List aA}{p:Int}{dU:aA→Bool}{os:List (aA→aA→Int)}(hr: ∀x,dU x=true→x.bad=false)(h:(fH (bZ R l) p dU os).2=true):
    ∃x,l[(fH (bZ R l) p dU os).1.toNat]? =some x∧x.bad=false∧R x=true∧dU x=true∧0≤(fH (bZ R l) p dU os).1∧(fH (bZ R l) p dU os).1<l.length:=by
  obtain⟨h1,h2,h3,h4⟩:=w4 h
  rw[tz]at h3
  have hi:(bZ R l)[(fH (bZ R l) p dU os).1.toNat]? =some ((bZ R l).getD (fH (bZ R l) p dU os).1.toNat du):=n9 (by rw[tz];omega)
  obtain⟨y,hy,he⟩:=FC hi
  rw[he]at h4
  obtain⟨k1,k2,k3⟩:=Ty (hr _ h4)
  rw[k1]at h4
  exact⟨y,hy,k2,k3,h4,h2,h3⟩
def vl(x:aA):Bool:=decide (0<x.live)
def gH(x:aA):Bool:=decide (x.live=0)
def fP(l:List aA):Nat:=(l.filter fun x=> !x.bad&&decide (x.live=0)).length
def mX(c:CV)(fl:List Int):Int×Bool:=eY (bZ vl (aB c fl)) c.ae
def kV(c:CV)(fl:List Int):Int×Bool:=eY (bZ gH (aB c fl)) c.ae
def mY(c:CV)(fl:List Int):Int:=(eZ (bZ gH (aB c fl)) c.ae).1
def bg(c:CV)(fl:List Int)(aC:Bool):CV×Int×Int:=
  if(mX c fl).2=true then(c,(mX c fl).1+2,0)
  else if fP (aB c fl)=0∨(fP (aB c fl)=1∧aC=false)then(c,0,5)
  else if(kV c fl).2=true then(c,(kV c fl).1+2,0)
  else((cG c (mY c fl+2)).1,mY c fl+2,(cG c (mY c fl+2)).2)
theorem Tz{l:List aA}{i:Nat}{x:aA}(h:l[i]? =some x):((l.take (i+1)).filter fun z=> !z.bad&&decide (z.live=0)).length=((l.take i).filter fun z=> !z.bad&&decide (z.live=0)).length+(if x.bad=false∧x.live=0 then 1 else 0):=by
  rw[List.take_add_one,h,List.filter_append,List.length_append]
  congr 1
  simp only[Option.toList_some,List.filter_cons,List.filter_nil]
  split<;>simp_all
theorem TA(l:List aA):(l.filter fun z=> !z.bad&&decide (z.live=0)).length≤l.length:=List.length_filter_le _ _
theorem FD{c:CV}{fl:List Int}(hk:aT c=true)(h2:3≤c.blocks.length)(hi:fP (aB c fl)≠0)(hb: ¬(kV c fl).2=true):0≤mY c fl∧mY c fl<(c.blocks.length:Int) -2∧(aj c (mY c fl+2)).bad=false:=by
  have hd:=eH hk
  have dF:=kf c fl
  have hw:ky (bZ gH (aB c fl)) c.ae=true:=qi.2 ⟨by rw[tz];omega,by rw[tz];omega,by omega,by omega,fun x hx=>by
    obtain⟨i,hi⟩:=List.getElem?_of_mem hx
    obtain⟨y,hy,rfl⟩:=FC hi
    have t:=tC hk (List.mem_of_getElem? hy)
    have pq:cN=1099511627776:=rfl
    unfold iQ
    split
    ·exact pn.2 (by simp only[bc];omega)
    ·rename_i hn
     have hl:y.live=0:=by
        cases hR:gH y with
        |true=>simpa[gH]using hR
        |false=>exact absurd (.inr hR) hn
     exact pn.2 ⟨by omega,by have:=t.zn;omega,t.w8,t.Ld,t.Le⟩⟩
  have pt:(kV c fl).2=false:=by simpa using hb
  have FE:=w5 hw (show(fH _ _ _ _).2=false from pt)
  have w9:0<((aB c fl).filter fun x=> !x.bad&&decide (x.live=0)).length:=by rw[fP]at hi;omega
  obtain⟨x,hx⟩:=List.exists_mem_of_length_pos w9
  obtain⟨mZ,jU⟩:=List.mem_filter.1 hx
  simp only[Bool.and_eq_true,Bool.not_eq_true',decide_eq_true_eq]at jU
  have tD:iQ gH x=x:=by
    unfold iQ
    rw[if_neg]
    rintro(g|g)
    ·rw[jU.1]at g;cases g
    ·rw[show gH x=true by simp[gH,jU.2]]at g;cases g
  have zo:x∈bZ gH (aB c fl):=by
    rw[←tD];exact List.mem_map_of_mem mZ
  have zp:=FE x zo
  have t:=tC hk mZ
  have qk:mg x=true:=by
    have: ¬x.used<c.ae:=fun h=>by
      rw[nJ,jU.1,decide_eq_true h]at zp;cases zp
    simp only[mg,jU.1,Bool.not_false,Bool.true_and,Bool.and_eq_true,decide_eq_true_eq]
    omega
  have hf:(eZ (bZ gH (aB c fl)) c.ae).2=true:=by
    cases hq:(eZ (bZ gH (aB c fl)) c.ae).2 with
    |true=>rfl
    |false=>have:=w5 hw hq x zo;rw[qk]at this;cases this
  obtain⟨y,hy,k1,_,_,k4,k5⟩:=oC (fun x h=>(kA h).1) hf
  have pv:=tB hy
  change 0≤mY c fl at k4
  change mY c fl<_ at k5
  refine⟨k4,by omega,?_⟩
  rw[←k1,pv]
  congr 2
  change _=((mY c fl).toNat:Int)+2
  omega
theorem Lf{c:CV}{fl:List Int}(h:(mX c fl).2=true):0≤(mX c fl).1∧(mX c fl).1<((c.blocks.length -2:Nat):Int)∧(aj c ((mX c fl).1+2)).bad=false:=by
  obtain⟨y,hy,k1,_,_,k4,k5⟩:=oC (fun x h=>(vk h).1) h
  have pv:=tB hy
  rw[kf]at k5
  refine⟨k4,k5,?_⟩
  rw[←k1,pv]
  congr 2
  change _=((mX c fl).1.toNat:Int)+2
  change 0≤(mX c fl).1 at k4
  omega
theorem Lg{c:CV}{fl:List Int}(h:(kV c fl).2=true):0≤(kV c fl).1∧(kV c fl).1<((c.blocks.length -2:Nat):Int)∧(aj c ((kV c fl).1+2)).bad=false:=by
  obtain⟨y,hy,k1,_,_,k4,k5⟩:=oC (fun x h=>(vk h).1) h
  have pv:=tB hy
  rw[kf]at k5
  refine⟨k4,k5,?_⟩
  rw[←k1,pv]
  congr 2
  change _=((kV c fl).1.toNat:Int)+2
  change 0≤(kV c fl).1 at k4
  omega
theorem FF{c:CV}{b:Int}(h:dS c b=0):mc c b=true∧c.off=false∧(aj c b).bad=false∧(br c).2=false∧dh c b=gF c b:=by
  have h0:=h
  rw[dS]at h
  by_cases h1:mc c b=true
  ·rw[if_pos h1]at h
   by_cases h2:c.off=true
   ·rw[if_pos h2]at h;cases h
   ·rw[if_neg h2]at h
    by_cases h3:(aj c b).bad=true
    ·rw[if_pos h3]at h;cases h
    ·rw[if_neg h3]at h
     by_cases h4:(br c).2=true
     ·rw[if_pos h4,kb]at h
      split at h<;>cases h
     ·refine⟨h1,by simpa using h2,by simpa using h3,by simpa using h4,?_⟩
      rw[dh,gk,h0,if_neg (by decide),eN,if_pos ⟨h1,by simpa using h2,by simpa using h3⟩]
  ·rw[if_neg h1]at h;cases h
theorem Lh{c:CV}{b:Int}(h:dS c b=0):(aj (dh c b) b).bad=false:=by
  obtain⟨h1,h2,h3,h4,h5⟩:=FF h
  rw[h5,gF,oB (nE.1 h1).1];exact h3
theorem B4: ∀(n:Nat) {c:CV} {b:Int},(fg n c b).2=0→(aj (fg n c b).1 b).bad=false
  |0,c,b,h=>Lh h
  |n+1,c,b,h=>by
   rw[fg]at h⊢
   by_cases h0:bm c b (gQ c)≠0
   ·rw[if_pos h0]at h;exact absurd h h0
   ·rw[if_neg h0]at h⊢;exact B4 n h
theorem B5{c:CV}{fl:List Int}{aC:Bool}(hk:aT c=true)(h2:3≤c.blocks.length):aT (bg c fl aC).1=true∧dL c (bg c fl aC).1∧c.ops≤(bg c fl aC).1.ops∧
    ((bg c fl aC).2.2=0→2≤(bg c fl aC).2.1∧(bg c fl aC).2.1<c.blocks.length∧(aj (bg c fl aC).1 (bg c fl aC).2.1).bad=false)∧((bg c fl aC).2.2=9→c.ops<(bg c fl aC).1.ops):=by
  rw[bg]
  by_cases h1:(mX c fl).2=true
  ·rw[if_pos h1]
   have:=Lf h1
   exact⟨hk, .bY c,Int.le_refl _,fun _=>⟨by simp only;omega,by simp only;omega,this.2.2⟩,fun h=>absurd (show(0:Int)=9 from h) (by decide)⟩
  ·rw[if_neg h1]
   by_cases h3:fP (aB c fl)=0∨(fP (aB c fl)=1∧aC=false)
   ·rw[if_pos h3]
    exact⟨hk, .bY c,Int.le_refl _,fun h=>absurd (show(5:Int)=0 from h) (by decide),fun h=>absurd (show(5:Int)=9 from h) (by decide)⟩
   ·rw[if_neg h3]
    by_cases h4:(kV c fl).2=true
    ·rw[if_pos h4]
     have:=Lg h4
     exact⟨hk, .bY c,Int.le_refl _,fun _=>⟨by simp only;omega,by simp only;omega,this.2.2⟩,fun h=>absurd (show(0:Int)=9 from h) (by decide)⟩
    ·rw[if_neg h4]
     obtain⟨d1,d2,d3⟩:=FD hk h2 (fun e=>h3 (.inl e)) h4
     have hc:=vh (mY c fl+2) hk
     exact⟨hc.1,hc.2,w7 _ _ _,fun h=>⟨by simp only;omega,by simp only;omega,B4 _ h⟩,fun h=>B2 d3 (.inl h)⟩
def gR:Nat→CV→List Int→Bool→List UInt8→CV×Int×Int
  |0,c,_,_,_=>(c,0,0)
  |n+1,c,fl,aC,b=>
   if(bg c fl aC).2.2=0 then
      (if bm (bg c fl aC).1 (bg c fl aC).2.1 b=0 then(bj (bg c fl aC).1 (bg c fl aC).2.1 b,(bg c fl aC).2.1*c.ae+(aj (bg c fl aC).1 (bg c fl aC).2.1).used+1,0)
       else if bm (bg c fl aC).1 (bg c fl aC).2.1 b≠9 then(bj (bg c fl aC).1 (bg c fl aC).2.1 b,0,bm (bg c fl aC).1 (bg c fl aC).2.1 b)
       else gR n (bj (bg c fl aC).1 (bg c fl aC).2.1 b) fl aC b)
   else if(bg c fl aC).2.2≠9 then((bg c fl aC).1,0,(bg c fl aC).2.2)
   else gR n (bg c fl aC).1 fl aC b
def da(c:CV)(fl:List Int)(aC:Bool)(p:PV):CV×Int×Int:=
  if(dr p c.size).2≠0 then(c,0,(dr p c.size).2)else gR ((cN -c.ops).toNat+1) c fl aC (dr p c.size).1
theorem qm{c:CV}(h:aT c=true):c.ops≤cN:=(eL.1 h).2.2.1
theorem FG: ∀(n:Nat) {c:CV} {fl:List Int} {aC:Bool} {b:List UInt8},aT c=true→3≤c.blocks.length→(cN -c.ops).toNat<n→
    aT (gR n c fl aC b).1=true∧dL c (gR n c fl aC b).1∧c.ops≤(gR n c fl aC b).1.ops∧((gR n c fl aC b).2.2=0→1≤(gR n c fl aC b).2.1∧2≤((gR n c fl aC b).2.1 -1)/c.ae∧((gR n c fl aC b).2.1 -1)/c.ae<c.blocks.length)
  |0,c,fl,aC,b,_,_,hn=>by omega
  |n+1,c,fl,aC,b,hk,h2,hn=>by
   obtain⟨f1,f2,f3,f4,f5⟩:=B5 (fl:=fl) (aC:=aC) hk h2
   have hd:=eH hk
   rw[gR]
   by_cases h0:(bg c fl aC).2.2=0
   ·rw[if_pos h0]
    obtain⟨g1,g2,g3⟩:=f4 h0
    by_cases h1:bm (bg c fl aC).1 (bg c fl aC).2.1 b=0
    ·rw[if_pos h1]
     have hl:=f2.trans (gm (bg c fl aC).1 (bg c fl aC).2.1 b)
     have hp:=iF.1 (nK h1).1
     rw[f2.ae]at hp
     have hu:0≤(aj (bg c fl aC).1 (bg c fl aC).2.1).used:=hp.2.1
     have FI:=hp.2.2.1
     have hq:((bg c fl aC).2.1*c.ae+(aj (bg c fl aC).1 (bg c fl aC).2.1).used+1 -1)/c.ae=(bg c fl aC).2.1:=by
          rw[Int.add_sub_cancel,Int.add_comm,Int.add_mul_ediv_right _ _ (by omega),Int.ediv_eq_zero_of_lt hu FI,Int.zero_add]
     refine⟨iI f1 _ _,hl,?_,fun _=>⟨?_,by simp only;rw[hq];exact g1,by simp only;rw[hq];exact g2⟩⟩
     ·have:=vi (bg c fl aC).1 (bg c fl aC).2.1 b;simp only;omega
     ·have:0≤(bg c fl aC).2.1*c.ae:=Int.mul_nonneg (by omega) (by omega)
      simp only;omega
    ·rw[if_neg h1]
     by_cases h9:bm (bg c fl aC).1 (bg c fl aC).2.1 b≠9
     ·rw[if_pos h9]
      exact⟨iI f1 _ _,f2.trans (gm _ _ _),by have:=vi (bg c fl aC).1 (bg c fl aC).2.1 b;simp only;omega,fun h=>absurd h h1⟩
     ·rw[if_neg h9]
      have ho:=q9 g3 (p:=b) (.inl (by simpa using h9))
      have bR:=iI f1 (bg c fl aC).2.1 b
      have hl:=f2.trans (gm (bg c fl aC).1 (bg c fl aC).2.1 b)
      have hle:=qm bR
      have:=FG n (fl:=fl) (aC:=aC) (b:=b) bR (by rw[hl.len];exact h2) (by omega)
      refine⟨this.1,hl.trans this.2.1,by omega,fun h=> ?_⟩
      have g:=this.2.2.2 h
      rw[hl.ae,hl.len]at g
      exact g
   ·rw[if_neg h0]
    by_cases h9:(bg c fl aC).2.2≠9
    ·rw[if_pos h9]
     exact⟨f1,f2,f3,fun h=>absurd h h0⟩
    ·rw[if_neg h9]
     have ho:=f5 (by simpa using h9)
     have hle:=qm f1
     have:=FG n (fl:=fl) (aC:=aC) (b:=b) f1 (by rw[f2.len];exact h2) (by omega)
     refine⟨this.1,f2.trans this.2.1,by omega,fun h=> ?_⟩
     have g:=this.2.2.2 h
     rw[f2.ae,f2.len]at g
     exact g
theorem Li{c:CV}{fl:List Int}{aC:Bool}{p:PV}(hk:aT c=true)(h2:3≤c.blocks.length):
    aT (da c fl aC p).1=true∧dL c (da c fl aC p).1∧c.ops≤(da c fl aC p).1.ops∧((da c fl aC p).2.2=0→1≤(da c fl aC p).2.1∧2≤((da c fl aC p).2.1 -1)/c.ae∧((da c fl aC p).2.1 -1)/c.ae<c.blocks.length):=by
  rw[da];split
  ·rename_i h;exact⟨hk, .bY c,Int.le_refl _,fun h'=>absurd h' h⟩
  ·exact FG _ hk h2 (by omega)
def qn(p:Int)(x:aA):Int:=if x.live=0∧p -x.used=0 then p else p -x.used
def vm(p:Int)(s:Int×Int)(x:aA):Int×Int:=if x.bad=true then s else(s.1+qn p x,if x.live=0 then max s.2 (qn p x)else s.2)
def fD(p:Int)(l:List aA):Int×Int:=l.foldl (vm p) (0,0)
def m0(c:CV)(fl:List Int):Int×Int:=((fD c.ae (aB c fl)).1 -(fD c.ae (aB c fl)).2,(fD c.ae (aB c fl)).1)
theorem Lj{p:Int}{l:List aA}{i:Nat}{x:aA}(h:l[i]? =some x):fD p (l.take (i+1))=vm p (fD p (l.take i)) x:=by
  rw[fD,List.take_add_one,h];simp[fD]
theorem TB{c:CV}{n:Nat}{x:aA}(h:B3 c n x)(hk:aT c=true):0≤qn c.ae x∧qn c.ae x≤c.ae:=by
  have hd:=eH hk
  have:=h.zn;have:=h.w8
  rw[qn];split<;>omega
theorem Lk{c:CV}{n:Nat}(hk:aT c=true)(l:List aA)(h: ∀x∈l,B3 c n x): ∀i,i≤l.length→0≤(fD c.ae (l.take i)).1∧(fD c.ae (l.take i)).1≤16*(i:Int)∧0≤(fD c.ae (l.take i)).2∧(fD c.ae (l.take i)).2≤16
  |0,_=>by simp[fD]
  |i+1,hi=>by
   obtain⟨x,hx⟩:=get_some (xs:=l) (i:=i) (by omega)
   have ih:=Lk hk l h i (by omega)
   have hr:=TB (h x (List.mem_of_getElem? hx)) hk
   have hd:=eH hk
   rw[Lj hx,vm]
   split
   ·omega
   ·refine⟨by simp only;omega,by simp only;omega,?_,?_⟩
    ·simp only;split<;>omega
    ·simp only;split<;>omega
open Go.ay
structure cf(x:WV):Prop where
 ag:aT x.v.ag=true
 len:4≤(x.v.ag.blocks.length:Int)
 ae:2≤x.v.ag.ae
 size:24≤x.v.ag.size
 last:x.v.last=0∨x.v.last=1
 gen:x.v.gen<281474976710656
 re:ig x.v.ag x.v.at_
 nL:x.v.at_.length≤64
theorem cf.on{x:WV}(h:cf x){c:CV}(hk:aT c=true)(hl:dL x.v.ag c):cf (x.on c):=
 ⟨hk,by simp only[WV.on];rw[hl.len];exact h.len,by simp only[WV.on];rw[hl.ae];exact h.ae,by simp only[WV.on];rw[hl.size];exact h.size,h.last,h.gen,h.re.cx hl,h.nL⟩
theorem cf.oD{x:WV}(h:cf x):4≤x.v.ag.blocks.length:=by have:=h.len;omega
theorem FJ(x:WV):x.on x.v.ag=x:=rfl
theorem Ll(x:WV)(c d:CV):(x.on c).on d=x.on d:=rfl
def aV(c:CV)(last:Int):CV×Int×Int:=
 if 0<dV c last then(c,last,0)
 else if 0<dV c (1 -last)then(c,1 -last,0)
 else if(aj c (1 -last)).bad=true then(c,0,9)
 else(dh c (1 -last),1 -last,dS c (1 -last))
theorem B6{c:CV}{b:Int}(h:0<dV c b):(aj c b).bad=false:=by
 rw[dV]at h;split at h
 ·
  omega
 ·
  rename_i hn;simpa using hn
theorem xd{c:CV}{last:Int}(hk:aT c=true)(hl:last=0∨last=1):aT (aV c last).1=true∧dL c (aV c last).1∧c.ops≤(aV c last).1.ops∧
  ((aV c last).2.2=0→((aV c last).2.1=0∨(aV c last).2.1=1)∧(aj (aV c last).1 (aV c last).2.1).bad=false):=by
 rw[aV]
 by_cases h1:0<dV c last
 ·
  rw[if_pos h1];exact⟨hk, .bY c,Int.le_refl _,fun _=>⟨hl,B6 h1⟩⟩
 ·
  rw[if_neg h1]
  by_cases h2:0<dV c (1 -last)
  ·
   rw[if_pos h2];exact⟨hk, .bY c,Int.le_refl _,fun _=>⟨by simp only;omega,B6 h2⟩⟩
  ·
   rw[if_neg h2]
   by_cases h3:(aj c (1 -last)).bad=true
   ·
    rw[if_pos h3];exact⟨hk, .bY c,Int.le_refl _,fun h=>absurd (show(9:Int)=0 from h) (by decide)⟩
   ·
    rw[if_neg h3];exact⟨BZ hk _,vg _ _,K5 _ _,fun h=>⟨by simp only;omega,Lh h⟩⟩
def fh:Nat→WV→List Int→List UInt8→WV×Int
 |0,x,_,_=>(x,0)
 |n+1,x,a,b=>
  if(aV x.v.ag x.v.last).2.2≠0 then(x.on (aV x.v.ag x.v.last).1,(aV x.v.ag x.v.last).2.2)
  else if bm (aV x.v.ag x.v.last).1 (aV x.v.ag x.v.last).2.1 b=0 then
   (⟨⟨bj (aV x.v.ag x.v.last).1 (aV x.v.ag x.v.last).2.1 b,a,x.v.gen+1,if gn (bj (aV x.v.ag x.v.last).1 (aV x.v.ag x.v.last).2.1 b) 1=x.v.gen+1 then 1 else(aV x.v.ag x.v.last).2.1⟩,x.beyond⟩,0)
  else if bm (aV x.v.ag x.v.last).1 (aV x.v.ag x.v.last).2.1 b≠9 then
   (x.on (bj (aV x.v.ag x.v.last).1 (aV x.v.ag x.v.last).2.1 b),bm (aV x.v.ag x.v.last).1 (aV x.v.ag x.v.last).2.1 b)
  else fh n (x.on (bj (aV x.v.ag x.v.last).1 (aV x.v.ag x.v.last).2.1 b)) a b
def et(x:WV)(a:List Int):WV×Int:=
 if(cj ⟨x.v.gen+1,a⟩ x.v.ag.size).2≠0 then(x,(cj ⟨x.v.gen+1,a⟩ x.v.ag.size).2)
 else fh ((cN -x.v.ag.ops).toNat+1) x a (cj ⟨x.v.gen+1,a⟩ x.v.ag.size).1
structure iR(x y:WV):Prop where
 ok:cf y
 cx:dL x.v.ag y.v.ag
 ops:x.v.ag.ops≤y.v.ag.ops
 xe:y.v.at_.length=x.v.at_.length
theorem iR.bY{x:WV}(h:cf x):iR x x:=⟨h, .bY _,Int.le_refl _,rfl⟩
theorem iR.trans{x y z:WV}(h:iR x y)(g:iR y z):iR x z:=⟨g.ok,h.cx.trans g.cx,Int.le_trans h.ops g.ops,g.xe.trans h.xe⟩
theorem iR.on{x:WV}(h:cf x){c:CV}(hk:aT c=true)(hl:dL x.v.ag c)(ho:x.v.ag.ops≤c.ops):iR x (x.on c):=⟨h.on hk hl,hl,ho,rfl⟩
theorem TC{r:RV}{n:Int}(h:(cj r n).2=0):r.gen<281474976710656∧(r.at_.length:Int)≤iP n:=by
 rw[cj]at h;split at h
 ·
  rename_i hm;have:=tu.1 hm;exact⟨this.2.1,this.2.2.1⟩
 ·
  cases h
theorem TD(n:Int):iP n≤64:=by rw[iP];omega
theorem Lm: ∀(n:Nat) {x:WV} {a:List Int} {b:List UInt8},cf x→ig x.v.ag a→a.length=x.v.at_.length→x.v.gen+1<281474976710656→(cN -x.v.ag.ops).toNat<n→iR x (fh n x a b).1∧((fh n x a b).2=0→x.v.ag.ops<(fh n x a b).1.v.ag.ops)
 |0,x,a,b,_,_,_,_,hn=>by omega
 |n+1,x,a,b,hx,ha,fG,hg,hn=>by
  obtain⟨r1,r2,r3,r4⟩:=xd (c:=x.v.ag) (last:=x.v.last) hx.ag hx.last
  rw[fh]
  by_cases h0:(aV x.v.ag x.v.last).2.2≠0
  ·
   rw[if_pos h0];exact⟨.on hx r1 r2 r3,fun h=>absurd h h0⟩
  ·
   rw[if_neg h0]
   obtain⟨r5,r6⟩:=r4 (by simpa using h0)
   have eA:=iI r1 (aV x.v.ag x.v.last).2.1 b
   have bE:=r2.trans (gm (aV x.v.ag x.v.last).1 (aV x.v.ag x.v.last).2.1 b)
   have lj:=vi (aV x.v.ag x.v.last).1 (aV x.v.ag x.v.last).2.1 b
   by_cases h1:bm (aV x.v.ag x.v.last).1 (aV x.v.ag x.v.last).2.1 b=0
   ·
    rw[if_pos h1]
    have ho:=q9 r6 (p:=b) (.inr h1)
    have dW:=hx.on eA bE
    refine⟨⟨⟨eA,dW.len,dW.ae,dW.size,?_,hg,ha.cx bE,by simp only;rw[fG];exact hx.nL⟩,bE,by simp only;omega,fG⟩,fun _=>by simp only;omega⟩
    simp only;split
    ·
     exact .inr rfl
    ·
     exact r5
   ·
    rw[if_neg h1]
    by_cases h9:bm (aV x.v.ag x.v.last).1 (aV x.v.ag x.v.last).2.1 b≠9
    ·
     rw[if_pos h9];exact⟨.on hx eA bE (by omega),fun h=>absurd h h1⟩
    ·
     rw[if_neg h9]
     have ho:=q9 r6 (p:=b) (.inl (by simpa using h9))
     have hle:=qm eA
     have dW:=hx.on eA bE
     have:=Lm n (x:=x.on (bj (aV x.v.ag x.v.last).1 (aV x.v.ag x.v.last).2.1 b)) (a:=a) (b:=b) dW (ha.cx bE) fG hg (by simp only[WV.on];omega)
     exact⟨(iR.on hx eA bE (by omega)).trans this.1,fun h=>by
      have h2:(bj (aV x.v.ag x.v.last).1 (aV x.v.ag x.v.last).2.1 b).ops<_:=this.2 h
      omega⟩
theorem FK{x:WV}{a:List Int}(hx:cf x)(ha:ig x.v.ag a)(fG:a.length=x.v.at_.length):iR x (et x a).1∧((et x a).2=0→x.v.ag.ops<(et x a).1.v.ag.ops):=by
 rw[et];split
 ·
  rename_i h;exact⟨.bY hx,fun h'=>absurd h' h⟩
 ·
  rename_i h
  have:=TC (r:=⟨x.v.gen+1,a⟩) (n:=x.v.ag.size) (by simpa using h)
  exact Lm _ hx ha fG this.1 (by omega)
def kh:Nat→Int→CV→CV×Int
 |0,_,c=>(c,0)
 |n+1,b,c=>if se c b=false then kh n (b+1) c
  else if dS c b≠0∧dS c b≠9 then(dh c b,dS c b)else kh n (b+1) (dh c b)
def gx(c:CV)(b:Int)(ids:Nat):List UInt8×Int:=cj ⟨fy c b,List.replicate ids 0⟩ c.size
def vn(c:CV)(b:Int)(ids:Nat)(g:Nat):VV:=⟨c,List.replicate ids 0,g,b⟩
def nM:Nat→Int→WV→Nat→WV×Int
 |0,_,x,_=>(x,9)
 |n+1,b,x,ids=>
  if(gx x.v.ag b ids).2≠0∨dV x.v.ag b=0 then nM n (b+1) x ids
  else if bm x.v.ag b (gx x.v.ag b ids).1=0 then(⟨vn (bj x.v.ag b (gx x.v.ag b ids).1) b ids (fy x.v.ag b),x.beyond⟩,0)
  else if bm x.v.ag b (gx x.v.ag b ids).1≠9 then(x.on (bj x.v.ag b (gx x.v.ag b ids).1),bm x.v.ag b (gx x.v.ag b ids).1)
  else nM n (b+1) (x.on (bj x.v.ag b (gx x.v.ag b ids).1)) ids
def oE(x:WV)(ids:Nat):WV×Int:=
 if(kh x.v.ag.blocks.length 0 x.v.ag).2≠0 then(x.on (kh x.v.ag.blocks.length 0 x.v.ag).1,(kh x.v.ag.blocks.length 0 x.v.ag).2)
 else nM 2 0 (x.on (kh x.v.ag.blocks.length 0 x.v.ag).1) ids
open Go.ay
def vo(s:Int×Int)(i:Nat)(x:aA):Int×Int:=
 if x.bad=true∨x.live=0∨cN≤x.aS then s else if s.2<x.used -x.live then((i:Int),x.used -x.live)else s
def gp(l:List aA):Nat→Int×Int
 |0=>(0,0)
 |k+1=>vo (gp l k) k (l.getD k du)
def jg(l:List aA)(p:Int):Int×Bool:=if(kz l p).2=true then((kz l p).1,true)else((gp l l.length).1,decide (0<(gp l l.length).2))
theorem FL(l:List aA): ∀k,0≤(gp l k).1∧0≤(gp l k).2∧(0<(gp l k).2→(gp l k).1<k)
 |0=>by simp[gp]
 |k+1=>by
  have:=FL l k
  rw[gp,vo]
  split
  ·
   exact⟨this.1,this.2.1,fun h=>by have:=this.2.2 h;omega⟩
  ·
   split
   ·
    exact⟨by simp only;omega,by simp only;omega,fun _=>by simp only;omega⟩
   ·
    exact⟨this.1,this.2.1,fun h=>by have:=this.2.2 h;omega⟩
theorem FM{l:List aA}{p:Int}(h:(jg l p).2=true):0≤(jg l p).1∧(jg l p).1<l.length:=by
 rw[jg]at h⊢
 split
 ·
  rename_i hv
  have:=w4 hv
  exact⟨this.2.1,this.2.2.1⟩
 ·
  rename_i hv
  rw[if_neg hv]at h
  have:=FL l l.length
  exact⟨this.1,this.2.2 (by simpa using h)⟩
def pw(x:aA):Bool:=decide (x.used=0)
def vp(p:Int)(x:aA):Bool:=decide (x.used=p)
def qo(x:aA):Bool:=decide (x.aS<cN)
def kW(c:CV)(l:List aA):Int×Bool:=eY (bZ pw l) c.ae
def jE(c:CV)(l:List aA):Int×Bool:=eZ (bZ (vp c.ae) l) c.ae
def jh(c:CV)(l:List aA):Int×Bool:=eZ (bZ qo l) c.ae
def bK(c:CV)(l:List aA):CV×Int×Int:=
 if(kW c l).2=true then(c,(kW c l).1+2,0)
 else if(jE c l).2=true then((cG c ((jE c l).1+2)).1,(jE c l).1+2,(cG c ((jE c l).1+2)).2)
 else if(jh c l).2=true then((cG c ((jh c l).1+2)).1,(jh c l).1+2,(cG c ((jh c l).1+2)).2)
 else(c,0,6)
def ki(c:CV)(l:List aA):Prop:=l.length=c.blocks.length -2∧ ∀(i:Nat) (x:aA),l[i]? =some x→x.bad=false→(aj c ((i:Int)+2)).bad=false
theorem tE(c:CV)(fl:List Int):ki c (aB c fl):=⟨kf c fl,fun i x hx hb=>by rw[←tB hx];exact hb⟩
theorem ki.set{c:CV}{l:List aA}(h:ki c l)(i:Nat):ki c (l.set i bc):=⟨by rw[List.length_set];exact h.1,fun j x hx hb=>by
 rw[List.getElem?_set]at hx
 split at hx
 ·
  split at hx
  ·
   obtain rfl:=Option.some.inj hx;cases hb
  ·
   cases hx
 ·
  exact h.2 j x hx hb⟩
theorem tF{c:CV}{R:aA→Bool}{l:List aA}{dU:aA→Bool}{os:List (aA→aA→Int)}(ht:ki c l)(hr: ∀x,dU x=true→x.bad=false)(h:(fH (bZ R l) c.ae dU os).2=true):
  0≤(fH (bZ R l) c.ae dU os).1∧(fH (bZ R l) c.ae dU os).1<((c.blocks.length -2:Nat):Int)∧(aj c ((fH (bZ R l) c.ae dU os).1+2)).bad=false:=by
 obtain⟨x,hx,k1,_,_,k4,k5⟩:=oC hr h
 rw[ht.1]at k5
 refine⟨k4,k5,?_⟩
 have:=ht.2 _ x hx k1
 rwa [show(((fH (bZ R l) c.ae dU os).1.toNat:Nat):Int)=(fH (bZ R l) c.ae dU os).1 by omega]at this
theorem FN{c:CV}{l:List aA}(hk:aT c=true)(ht:ki c l):aT (bK c l).1=true∧dL c (bK c l).1∧c.ops≤(bK c l).1.ops∧
  ((bK c l).2.2=0→2≤(bK c l).2.1∧(bK c l).2.1<c.blocks.length∧(aj (bK c l).1 (bK c l).2.1).bad=false)∧((bK c l).2.2=9→c.ops<(bK c l).1.ops)∧((bK c l).2.2=6→(bK c l).1=c):=by
 rw[bK]
 have e6: ∀{b:Int},(cG c b).2≠6:=fun{b}=>by
  have: ∀n {c:CV},(fg n c b).2≠6:=by
   intro n
   induction n with
   |zero=>
    intro c
    simp only[fg,dS]
    split
    ·
     split
     ·
      decide
     ·
      split
      ·
       decide
      ·
       split
       ·
        rw[kb];split<;>decide
       ·
        decide
    ·
     decide
   |succ n ih=>
    intro c
    rw[fg];split
    ·
     simp only[bm,jz]
     split
     ·
      split
      ·
       decide
      ·
       split
       ·
        decide
       ·
        split
        ·
         rw[kb];split<;>decide
        ·
         decide
     ·
      decide
    ·
     exact ih
  exact this _
 by_cases h1:(kW c l).2=true
 ·
  rw[if_pos h1]
  have:=tF ht (fun x h=>(vk h).1) h1
  change 0≤(kW c l).1∧(kW c l).1<_∧(aj c ((kW c l).1+2)).bad=false at this
  exact⟨hk, .bY c,Int.le_refl _,fun _=>⟨by simp only;omega,by simp only;omega,this.2.2⟩,fun h=>absurd (show(0:Int)=9 from h) (by decide),fun h=>absurd (show(0:Int)=6 from h) (by decide)⟩
 ·
  rw[if_neg h1]
  by_cases h2:(jE c l).2=true
  ·
   rw[if_pos h2]
   have:=tF ht (fun x h=>(kA h).1) h2
   change 0≤(jE c l).1∧(jE c l).1<_∧(aj c ((jE c l).1+2)).bad=false at this
   have hc:=vh ((jE c l).1+2) hk
   exact⟨hc.1,hc.2,w7 _ _ _,fun h=>⟨by simp only;omega,by simp only;omega,B4 _ h⟩,fun h=>B2 this.2.2 (.inl h),fun h=>absurd h e6⟩
  ·
   rw[if_neg h2]
   by_cases h3:(jh c l).2=true
   ·
    rw[if_pos h3]
    have:=tF ht (fun x h=>(kA h).1) h3
    change 0≤(jh c l).1∧(jh c l).1<_∧(aj c ((jh c l).1+2)).bad=false at this
    have hc:=vh ((jh c l).1+2) hk
    exact⟨hc.1,hc.2,w7 _ _ _,fun h=>⟨by simp only;omega,by simp only;omega,B4 _ h⟩,fun h=>B2 this.2.2 (.inl h),fun h=>absurd h e6⟩
   ·
    rw[if_neg h3]
    exact⟨hk, .bY c,Int.le_refl _,fun h=>absurd (show(6:Int)=0 from h) (by decide),fun h=>absurd (show(6:Int)=9 from h) (by decide),fun _=>rfl⟩
def bV(c:CV)(a0 a:List Int)(src to:Int):Int×Bool:=
 if to<0 then(if(eY ((aB c (a0++a)).set (src -2).toNat bc) c.ae).2=true then((eY ((aB c (a0++a)).set (src -2).toNat bc) c.ae).1+2,true)else(0,false))else(to,true)
def dA(c:CV)(g id n:Int):List UInt8×Int:=dr ⟨1,id,g.toNat,jC c n⟩ c.size
structure MV where
 c:CV
 a:List Int
 e:Option Int
def ca(v:VV)(src to:Int):List Int→Nat→CV→List Int→MV
 |[],_,c,a=>⟨c,a,none⟩
 |n::r,id,c,a=>
  if n=0∨(n -1)/v.ag.ae≠src then ca v src to r (id+1) c a
  else if(bV c v.at_ a src to).2=false then⟨c,a,some 6⟩
  else if(dA c ((v.gen:Int)+1) id n).2≠0 then⟨c,a,some (dA c ((v.gen:Int)+1) id n).2⟩
  else if bm c (bV c v.at_ a src to).1 (dA c ((v.gen:Int)+1) id n).1≠0 then
   ⟨bj c (bV c v.at_ a src to).1 (dA c ((v.gen:Int)+1) id n).1,a,some (jf (bm c (bV c v.at_ a src to).1 (dA c ((v.gen:Int)+1) id n).1))⟩
  else ca v src to r (id+1) (bj c (bV c v.at_ a src to).1 (dA c ((v.gen:Int)+1) id n).1) (a.set id ((bV c v.at_ a src to).1*v.ag.ae+(aj c (bV c v.at_ a src to).1).used+1))
def cY(x:WV)(src to:Int):WV×Bool×Int:=
 match(ca x.v src to x.v.at_ 0 x.v.ag x.v.at_).e with
 |some e=>(x.on (ca x.v src to x.v.at_ 0 x.v.ag x.v.at_).c,false,e)
 |none=>((et (x.on (ca x.v src to x.v.at_ 0 x.v.ag x.v.at_).c) (ca x.v src to x.v.at_ 0 x.v.ag x.v.at_).a).1,decide ((et (x.on (ca x.v src to x.v.at_ 0 x.v.ag x.v.at_).c) (ca x.v src to x.v.at_ 0 x.v.ag x.v.at_).a).2=0),(et (x.on (ca x.v src to x.v.at_ 0 x.v.ag x.v.at_).c) (ca x.v src to x.v.at_ 0 x.v.ag x.v.at_).a).2)
theorem FO{x:WV}{src to:Int}{c:CV}{a:List Int}{e:Int}(h:ca x.v src to x.v.at_ 0 x.v.ag x.v.at_=⟨c,a,some e⟩):cY x src to=(x.on c,false,e):=by
 rw[cY,h]
theorem TE{x:WV}{src to:Int}{c:CV}{a:List Int}(h:ca x.v src to x.v.at_ 0 x.v.ag x.v.at_=⟨c,a,none⟩):cY x src to=((et (x.on c) a).1,decide ((et (x.on c) a).2=0),(et (x.on c) a).2):=by
 rw[cY,h]
theorem FP{c:CV}{a0 a:List Int}{src to:Int}(h:(bV c a0 a src to).2=true)(ht:0≤to→2≤to∧to<c.blocks.length∧(aj c to).bad=false):
  2≤(bV c a0 a src to).1∧(bV c a0 a src to).1<c.blocks.length∧(aj c (bV c a0 a src to).1).bad=false:=by
 rw[bV]at h⊢
 by_cases h1:to<0
 ·
  rw[if_pos h1]at h⊢
  by_cases h2:(eY ((aB c (a0++a)).set (src -2).toNat bc) c.ae).2=true
  ·
   rw[if_pos h2]
   have hT:=(tE c (a0++a)).set (src -2).toNat
   obtain⟨k1,k2,k3,k4⟩:=w4 h2
   change 0≤(eY ((aB c (a0++a)).set (src -2).toNat bc) c.ae).1 at k2
   change(eY ((aB c (a0++a)).set (src -2).toNat bc) c.ae).1<_ at k3
   change nJ _ (List.getD _ (eY ((aB c (a0++a)).set (src -2).toNat bc) c.ae).1.toNat _)=true at k4
   rw[hT.1]at k3
   have hi:((aB c (a0++a)).set (src -2).toNat bc)[(eY ((aB c (a0++a)).set (src -2).toNat bc) c.ae).1.toNat]? =some _:=n9 (d:=du) (by rw[hT.1];omega)
   have:=hT.2 _ _ hi (vk k4).1
   rw[show(((eY ((aB c (a0++a)).set (src -2).toNat bc) c.ae).1.toNat:Nat):Int)=(eY ((aB c (a0++a)).set (src -2).toNat bc) c.ae).1 by omega]at this
   exact⟨by simp only;omega,by simp only;omega,this⟩
  ·
   rw[if_neg h2]at h;cases h
 ·
  rw[if_neg h1]
  exact ht (by omega)
theorem vq(c:CV)(b g:Int)(p:List UInt8):jz c b g p=0∨jz c b g p=1∨jz c b g p=7∨jz c b g p=9:=by
 rw[jz];split
 ·
  split
  ·
   omega
  ·
   split
   ·
    omega
   ·
    split
    ·
     rw[kb];split<;>omega
    ·
     omega
 ·
  omega
theorem xf(p:PV)(n:Int):(dr p n).2=0∨(dr p n).2=1:=by
 rw[dr];split<;>simp
theorem B7{c:CV}{b:Int}{p:List UInt8}(h:bm c b p=0)(b':Int):(aj (bj c b p) b').bad=(aj c b').bad:=by
 obtain⟨h1,h2,h3,h4,h5⟩:=nK h
 have hh:=(iF.1 h1).1
 obtain⟨_,g2,g3⟩:=fv.1 hh
 rw[h5,eM]
 simp only[aj,List.getD,List.getElem?_set]
 by_cases e:b.toNat=b'.toNat
 ·
  rw[if_pos e,if_pos (by omega),e]
  simp
 ·
  rw[if_neg e]
theorem B8{v:VV}{src to:Int}: ∀(l:List Int) (id:Nat) {c:CV} {a:List Int},aT c=true→dL v.ag c→v.ag.ops≤c.ops→ig v.ag a→(0≤to→2≤to∧to<c.blocks.length∧(aj c to).bad=false)→
  aT (ca v src to l id c a).c=true∧dL v.ag (ca v src to l id c a).c∧c.ops≤(ca v src to l id c a).c.ops∧ig v.ag (ca v src to l id c a).a∧(ca v src to l id c a).a.length=a.length∧
   ((ca v src to l id c a).e=some 0→c.ops<(ca v src to l id c a).c.ops)∧((ca v src to l id c a).e=some 6→ ∀b,(aj (ca v src to l id c a).c b).bad=(aj c b).bad)
 |[],id,c,a,hk,hl,ho,ha,ht=>⟨hk,hl,Int.le_refl _,ha,rfl,fun h=>by simp[ca]at h,fun h=>by simp[ca]at h⟩
 |n::r,id,c,a,hk,hl,ho,ha,ht=>by
  rw[ca]
  by_cases h1:n=0∨(n -1)/v.ag.ae≠src
  ·
   rw[if_pos h1];exact B8 r (id+1) hk hl ho ha ht
  ·
   rw[if_neg h1]
   by_cases h2:(bV c v.at_ a src to).2=false
   ·
    rw[if_pos h2];exact⟨hk,hl,Int.le_refl _,ha,rfl,fun h=>by simp at h,fun _ _=>rfl⟩
   ·
    rw[if_neg h2]
    obtain⟨m1,m2,m3⟩:=FP (by simpa using h2) ht
    by_cases h3:(dA c ((v.gen:Int)+1) id n).2≠0
    ·
     rw[if_pos h3]
     have xh:(dA c ((v.gen:Int)+1) id n).2=1:=(xf _ _).resolve_left h3
     exact⟨hk,hl,Int.le_refl _,ha,rfl,fun h=>absurd (Option.some.inj h) h3,fun h=>absurd (xh.symm.trans (Option.some.inj h)) (by decide)⟩
    ·
     rw[if_neg h3]
     by_cases h4:bm c (bV c v.at_ a src to).1 (dA c ((v.gen:Int)+1) id n).1≠0
     ·
      rw[if_pos h4]
      have gO:bm c (bV c v.at_ a src to).1 (dA c ((v.gen:Int)+1) id n).1=1∨bm c (bV c v.at_ a src to).1 (dA c ((v.gen:Int)+1) id n).1=7∨bm c (bV c v.at_ a src to).1 (dA c ((v.gen:Int)+1) id n).1=9:=(vq _ _ _ _).resolve_left h4
      refine⟨iI hk _ _,hl.trans (gm _ _ _),vi _ _ _,ha,rfl,fun h=> ?_,fun h=> ?_⟩
      ·
       have h:=Option.some.inj h
       rw[jf]at h
       split at h
       ·
        rename_i h9
        have:=q9 m3 (.inl h9)
        simp only;omega
       ·
        exact absurd h h4
      ·
       have h:=Option.some.inj h
       rw[jf]at h
       split at h
       ·
        cases h
       ·
        omega
     ·
      rw[if_neg h4]
      have rf:bm c (bV c v.at_ a src to).1 (dA c ((v.gen:Int)+1) id n).1=0:=by simpa using h4
      have eA:=iF.1 (nK rf).1
      have hd:=eH hk
      have nG:=hl.trans (gm c (bV c v.at_ a src to).1 (dA c ((v.gen:Int)+1) id n).1)
      have dP:=q9 m3 (p:=(dA c ((v.gen:Int)+1) id n).1) (.inr rf)
      have B9:v.ag.ae=c.ae:=hl.ae.symm
      have ih:=B8 r (id+1) (src:=src) (to:=to) (iI hk (bV c v.at_ a src to).1 (dA c ((v.gen:Int)+1) id n).1) nG (by omega) (a:=a.set id ((bV c v.at_ a src to).1*v.ag.ae+(aj c (bV c v.at_ a src to).1).used+1)) (fun y hy=>by
       rcases List.mem_or_eq_of_mem_set hy with hy|rfl
       ·
        exact ha y hy
       ·
        have hq:((bV c v.at_ a src to).1*v.ag.ae+(aj c (bV c v.at_ a src to).1).used+1 -1)/v.ag.ae=(bV c v.at_ a src to).1:=by
         rw[B9,Int.add_sub_cancel,Int.add_comm,Int.add_mul_ediv_right _ _ (by omega),Int.ediv_eq_zero_of_lt eA.2.1 eA.2.2.1,Int.zero_add]
        have h0:0≤(bV c v.at_ a src to).1*v.ag.ae:=Int.mul_nonneg (by omega) (by omega)
        have:=eA.2.1
        exact .inr ⟨by omega,by rw[hq];exact m1,by rw[hq,←hl.len];exact m2⟩) (fun h=>by
       have:=ht h
       rw[(gm c _ _).len,B7 rf]
       exact this)
      obtain⟨i1,i2,i3,i4,i5,i6,i7⟩:=ih
      refine⟨i1,i2,by omega,i4,by rw[i5,List.length_set],fun h=>by have:=i6 h;omega,fun h b=> ?_⟩
      rw[i7 h b,B7 rf]
theorem FQ(c:CV)(b:Int):dS c b=0∨dS c b=1∨dS c b=7∨dS c b=9:=by
 rw[dS];split
 ·
  split
  ·
   omega
  ·
   split
   ·
    omega
   ·
    split
    ·
     rw[kb];split<;>omega
    ·
     omega
 ·
  omega
theorem TF(c:CV)(l:Int):(aV c l).2.2=0∨(aV c l).2.2=1∨(aV c l).2.2=7∨(aV c l).2.2=9:=by
 rw[aV]
 split
 ·
  exact .inl rfl
 ·
  split
  ·
   exact .inl rfl
  ·
   split
   ·
    exact .inr (.inr (.inr rfl))
   ·
    exact FQ _ _
theorem Lo: ∀(n:Nat) (y:WV) (a:List Int) (b:List UInt8),(fh n y a b).2≠6
 |0,y,a,b=>by simp[fh]
 |n+1,y,a,b=>by
  rw[fh]
  split
  ·
   have:=TF y.v.ag y.v.last
   simp only;omega
  ·
   split
   ·
    simp
   ·
    split
    ·
     have:=vq (aV y.v.ag y.v.last).1 (aV y.v.ag y.v.last).2.1 (aj (aV y.v.ag y.v.last).1 (aV y.v.ag y.v.last).2.1).used b
     simp only[bm];omega
    ·
     exact Lo n _ _ _
theorem Ca(y:WV)(a:List Int):(et y a).2≠6:=by
 rw[et]
 split
 ·
  rw[cj]
  split
  ·
   have:=xf ⟨2,max 0 ((a.length:Int) -1),y.v.gen+1,gw a⟩ y.v.ag.size
   simp only;omega
  ·
   simp
 ·
  exact Lo _ _ _ _
theorem zq{x:WV}{src to:Int}(hx:cf x)(ht:0≤to→2≤to∧to<x.v.ag.blocks.length∧(aj x.v.ag to).bad=false):
  iR x (cY x src to).1∧((cY x src to).2.2=0→x.v.ag.ops<(cY x src to).1.v.ag.ops)∧((cY x src to).2.1=true→(cY x src to).2.2=0)∧((cY x src to).2.1=false∧(cY x src to).2.2=6→ ∀b,(aj (cY x src to).1.v.ag b).bad=(aj x.v.ag b).bad):=by
 obtain⟨h1,h2,h3,h4,h5,h6,h7⟩:=B8 x.v.at_ 0 (src:=src) hx.ag (.bY _) (Int.le_refl _) hx.re ht
 rw[cY]
 split
 ·
  rename_i e he
  refine⟨.on hx h1 h2 h3,fun h=>h6 (by rw[he];exact congrArg some h),fun h=>absurd (show false=true from h) (by simp),fun h b=>h7 (by rw[he];exact congrArg some h.2) b⟩
 ·
  rename_i he
  have dW:=hx.on h1 h2
  have hw:=FK dW (a:=(ca x.v src to x.v.at_ 0 x.v.ag x.v.at_).a) (h4.cx h2) h5
  refine⟨(iR.on hx h1 h2 h3).trans hw.1,fun h=> ?_,fun h=>by simpa using h,fun h=> ?_⟩
  ·
   have g:(ca x.v src to x.v.at_ 0 x.v.ag x.v.at_).c.ops<_:=hw.2 h
   simp only;omega
  ·
   exact absurd h.2 (Ca _ _)
open Go.ay
theorem Lp: ∀(n:Nat) (c:CV) (b:Int),(fg n c b).2≠6
 |0,c,b=>by have:=FQ c b;simp only[fg];omega
 |n+1,c,b=>by
  rw[fg];split
  ·
   have:=vq c b (aj c b).used (gQ c);simp only[bm];omega
  ·
   exact Lp n _ _
theorem zr(c:CV)(b:Int):(cG c b).2≠6:=Lp _ _ _
def px(c:CV)(l:List aA)(i:Int):Bool:=decide ((bK c (l.set i.toNat bc)).2.2=6)&&decide ((l.getD i.toNat du).live≤zm (l.set i.toNat bc) c.ae)
def cc(c:CV)(l:List aA)(i:Int):Int×Int:=if px c l i=true then(-1,0)else(bK c (l.set i.toNat bc)).2
def eC(x:WV)(l:List aA)(i:Int):WV×Int:=
 if(cc x.v.ag l i).2≠0 then(x.on (bK x.v.ag (l.set i.toNat bc)).1,jf (cc x.v.ag l i).2)
 else if(cY (x.on (bK x.v.ag (l.set i.toNat bc)).1) (i+2) (cc x.v.ag l i).1).2.1=false∨(l.getD i.toNat du).used=x.v.ag.ae then
  ((cY (x.on (bK x.v.ag (l.set i.toNat bc)).1) (i+2) (cc x.v.ag l i).1).1,(cY (x.on (bK x.v.ag (l.set i.toNat bc)).1) (i+2) (cc x.v.ag l i).1).2.2)
 else((cY (x.on (bK x.v.ag (l.set i.toNat bc)).1) (i+2) (cc x.v.ag l i).1).1.on (cG (cY (x.on (bK x.v.ag (l.set i.toNat bc)).1) (i+2) (cc x.v.ag l i).1).1.v.ag (i+2)).1,
  jf (cG (cY (x.on (bK x.v.ag (l.set i.toNat bc)).1) (i+2) (cc x.v.ag l i).1).1.v.ag (i+2)).2)
theorem zt{e:Int}(h:jf e=0):e=0∨e=9:=by
 rw[jf]at h;split at h
 ·
  exact .inr (by assumption)
 ·
  exact .inl h
theorem tG{e:Int}(h:jf e=6):e=6:=by
 rw[jf]at h;split at h
 ·
  cases h
 ·
  exact h
theorem xi{c:CV}{l:List aA}{i:Int}(hk:aT c=true)(ht:ki c l):(cc c l i).2=0→0≤(cc c l i).1→2≤(cc c l i).1∧(cc c l i).1<c.blocks.length∧(aj (bK c (l.set i.toNat bc)).1 (cc c l i).1).bad=false:=by
 intro h h0
 rw[cc]at h h0⊢
 split at h
 ·
  rename_i ha;rw[if_pos ha]at h0;exact absurd (show(0:Int)≤ -1 from h0) (by decide)
 ·
  rename_i ha;rw[if_neg ha];exact(FN hk (ht.set i.toNat)).2.2.2.1 h
theorem TG{x:WV}{src to:Int}(hx:cf x)(ht:0≤to→2≤to∧to<x.v.ag.blocks.length∧(aj x.v.ag to).bad=false):cf (cY x src to).1∧dL x.v.ag (cY x src to).1.v.ag:=
 ⟨(zq hx ht).1.ok,(zq hx ht).1.cx⟩
theorem Cb{x:WV}{l:List aA}{i:Int}(hx:cf x)(ht:ki x.v.ag l):
  iR x (eC x l i).1∧((eC x l i).2=0→x.v.ag.ops<(eC x l i).1.v.ag.ops)∧((eC x l i).2=6→ ∀b,(aj (eC x l i).1.v.ag b).bad=(aj x.v.ag b).bad):=by
 obtain⟨t1,t2,t3,t4,t5,t6⟩:=FN hx.ag (ht.set i.toNat)
 have hn:=iR.on hx t1 t2 t3
 rw[eC]
 by_cases h0:(cc x.v.ag l i).2≠0
 ·
  rw[if_pos h0]
  have he:(cc x.v.ag l i).2=(bK x.v.ag (l.set i.toNat bc)).2.2:=by
   rw[cc]at h0⊢
   split at h0
   ·
    exact absurd rfl h0
   ·
    rename_i ha;rw[if_neg ha]
  refine⟨hn,fun h=> ?_,fun h b=> ?_⟩
  ·
   rcases zt h with g|g
   ·
    exact absurd g h0
   ·
    exact t5 (he▸g)
  ·
   have:=t6 (he▸tG h)
   simp only[WV.on];rw[this]
 ·
  rw[if_neg h0]
  have nC:(cc x.v.ag l i).2=0:=by simpa using h0
  have hr:=xi (i:=i) hx.ag ht nC
  obtain⟨m1,m2,m3,m4⟩:=zq (x:=x.on (bK x.v.ag (l.set i.toNat bc)).1) (src:=i+2) (to:=(cc x.v.ag l i).1) hn.ok (fun h=>by
   have:=hr h
   exact⟨this.1,by simp only[WV.on];rw[t2.len];exact this.2.1,this.2.2⟩)
  have hb:(cc x.v.ag l i).2=0→(bK x.v.ag (l.set i.toNat bc)).2.2=6→(bK x.v.ag (l.set i.toNat bc)).1=x.v.ag:=fun _ h=>t6 h
  by_cases h1:(cY (x.on (bK x.v.ag (l.set i.toNat bc)).1) (i+2) (cc x.v.ag l i).1).2.1=false∨(l.getD i.toNat du).used=x.v.ag.ae
  ·
   rw[if_pos h1]
   refine⟨hn.trans m1,fun h=> ?_,fun h b=> ?_⟩
   ·
    have g:(bK x.v.ag (l.set i.toNat bc)).1.ops<_:=m2 h
    simp only;omega
   ·
    have hf:(cY (x.on (bK x.v.ag (l.set i.toNat bc)).1) (i+2) (cc x.v.ag l i).1).2.1=false:=by
     cases hq:(cY (x.on (bK x.v.ag (l.set i.toNat bc)).1) (i+2) (cc x.v.ag l i).1).2.1 with
     |false=>rfl
     |true=>have:=m3 hq;exact absurd (this.symm.trans h) (by decide)
    rw[m4 ⟨hf,h⟩ b]
    by_cases ha:px x.v.ag l i=true
    ·
     simp only[px,Bool.and_eq_true,decide_eq_true_eq]at ha
     simp only[WV.on];rw[t6 ha.1]
    ·
     exact absurd h (TH (by
      have:(cc x.v.ag l i).1=(bK x.v.ag (l.set i.toNat bc)).2.1:=by rw[cc,if_neg ha]
      have g:(bK x.v.ag (l.set i.toNat bc)).2.2=0:=by
       rw[cc,if_neg ha]at nC;exact nC
      have:=(t4 g).1
      omega))
  ·
   rw[if_neg h1]
   have hm:(cY (x.on (bK x.v.ag (l.set i.toNat bc)).1) (i+2) (cc x.v.ag l i).1).2.1=true:=by
    cases hq:(cY (x.on (bK x.v.ag (l.set i.toNat bc)).1) (i+2) (cc x.v.ag l i).1).2.1 with
    |true=>rfl
    |false=>exact absurd (.inl hq) h1
   have hz:=m2 (m3 hm)
   have hc:=vh (i+2) m1.ok.ag
   have ho:=w7 (dV (cY (x.on (bK x.v.ag (l.set i.toNat bc)).1) (i+2) (cc x.v.ag l i).1).1.v.ag (i+2)).toNat (cY (x.on (bK x.v.ag (l.set i.toNat bc)).1) (i+2) (cc x.v.ag l i).1).1.v.ag (i+2)
   refine⟨(hn.trans m1).trans (.on m1.ok hc.1 hc.2 ho),fun _=> ?_,fun h=>absurd (tG h) (zr _ _)⟩
   have g:(bK x.v.ag (l.set i.toNat bc)).1.ops<_:=hz
   have g2:(cY (x.on (bK x.v.ag (l.set i.toNat bc)).1) (i+2) (cc x.v.ag l i).1).1.v.ag.ops≤(cG (cY (x.on (bK x.v.ag (l.set i.toNat bc)).1) (i+2) (cc x.v.ag l i).1).1.v.ag (i+2)).1.ops:=ho
   simp only[WV.on]at*;omega
where
 TH {x:WV} {src to:Int} (h:0≤to):(cY x src to).2.2≠6:=by
  have key: ∀(l:List Int) (id:Nat) (c:CV) (a:List Int),(ca x.v src to l id c a).e≠some 6:=by
   intro l
   induction l with
   |nil=>intro id c a;simp[ca]
   |cons n r ih=>
    intro id c a
    rw[ca]
    split
    ·
     exact ih _ _ _
    ·
     split
     ·
      rename_i h2;rw[bV,if_neg (by omega)]at h2;cases h2
     ·
      split
      ·
       rename_i h3
       have:=(xf ⟨1,id,((x.v.gen:Int)+1).toNat,jC c n⟩ c.size).resolve_left h3
       intro h;have h:=Option.some.inj h;rw[dA]at h;omega
      ·
       split
       ·
        intro h
        have h:=tG (Option.some.inj h)
        have:=vq c (bV c x.v.at_ a src to).1 (aj c (bV c x.v.at_ a src to).1).used (dA c ((x.v.gen:Int)+1) id n).1
        rw[bm]at h;omega
       ·
        exact ih _ _ _
  rw[cY]
  split
  ·
   rename_i e he
   intro h
   exact key _ _ _ _ (by rw[he];exact congrArg some h)
  ·
   exact Ca _ _
def m7(p:Int)(x:aA):Bool:=decide (x.used<p)&&decide (x.aS<cN)
def kj(c:CV)(l:List aA):Int×Bool:=eZ (bZ (m7 c.ae) l) c.ae
def jF(x:WV)(l:List aA):WV×Int:=
 if(kj x.v.ag l).2=false then(x,6)else(x.on (cG x.v.ag ((kj x.v.ag l).1+2)).1,jf (cG x.v.ag ((kj x.v.ag l).1+2)).2)
def bb(x:WV):List aA:=aB x.v.ag x.v.at_
def iS(x:WV):Int×Bool:=jg (bb x) x.v.ag.ae
def eP(x:WV):WV×Int:=
 if(iS x).2=true∧vj x.v.gen=false then
  (if(eC x (bb x) (iS x).1).2≠6 then eC x (bb x) (iS x).1 else jF (eC x (bb x) (iS x).1).1 (bb x))
 else jF x (bb x)
theorem ki.cx{c d:CV}{l:List aA}(h:ki c l)(hl:dL c d)(hb: ∀b,(aj d b).bad=(aj c b).bad):ki d l:=⟨by rw[h.1,hl.len],fun i x hx jU=>by rw[hb];exact h.2 i x hx jU⟩
theorem Lr{x:WV}{l:List aA}(hx:cf x)(ht:ki x.v.ag l):iR x (jF x l).1∧((jF x l).2=0→x.v.ag.ops<(jF x l).1.v.ag.ops):=by
 rw[jF];split
 ·
  exact⟨.bY hx,fun h=>absurd (show(6:Int)=0 from h) (by decide)⟩
 ·
  rename_i h
  have hd:=tF ht (fun x h=>(kA h).1) (show(kj x.v.ag l).2=true by simpa using h)
  change 0≤(kj x.v.ag l).1∧(kj x.v.ag l).1<_∧(aj x.v.ag ((kj x.v.ag l).1+2)).bad=false at hd
  have hc:=vh ((kj x.v.ag l).1+2) hx.ag
  exact⟨.on hx hc.1 hc.2 (w7 _ _ _),fun h=>B2 hd.2.2 (zt h).symm⟩
theorem Cc{x:WV}(hx:cf x):iR x (eP x).1∧((eP x).2=0→x.v.ag.ops<(eP x).1.v.ag.ops):=by
 have ht:ki x.v.ag (bb x):=tE _ _
 rw[eP];split
 ·
  obtain⟨r1,r2,r3⟩:=Cb (i:=(iS x).1) hx ht
  split
  ·
   exact⟨r1,r2⟩
  ·
   rename_i h6
   have tH:(eC x (bb x) (iS x).1).2=6:=by simpa using h6
   have:=Lr r1.ok (ht.cx r1.cx (r3 tH))
   exact⟨r1.trans this.1,fun h=>by have:=this.2 h;have:=r1.ops;omega⟩
 ·
  exact Lr hx ht
def py:Nat→WV→Int→WV×Int
 |0,x,_=>(x,0)
 |n+1,x,need=>
  if need≤(m0 x.v.ag x.v.at_).1 then(x,0)
  else if need≤(m0 x.v.ag x.v.at_).2∧tA x.v.ag x.v.last<2 then({x with beyond:=true},0)
  else if(eP x).2=0 then py n (eP x).1 need
  else if(eP x).2≠6 then eP x
  else if need≤(m0 x.v.ag x.v.at_).2 then({(eP x).1 with beyond:=true},0)
  else((eP x).1,5)
def m8(x:WV)(need:Int):WV×Int:=py ((cN -x.v.ag.ops).toNat+1) x need
theorem cf.by{x:WV}(h:cf x)(b:Bool):cf {x with beyond:=b}:=⟨h.ag,h.len,h.ae,h.size,h.last,h.gen,h.re,h.nL⟩
theorem iR.by{x y:WV}(h:iR x y)(b:Bool):iR x {y with beyond:=b}:=⟨h.ok.by b,h.cx,h.ops,h.xe⟩
theorem Ls: ∀(n:Nat) {x:WV} {need:Int},cf x→iR x (py n x need).1
 |0,x,need,hx=> .bY hx
 |n+1,x,need,hx=>by
  have hc:=Cc hx
  rw[py]
  split
  ·
   exact .bY hx
  ·
   split
   ·
    exact(iR.bY hx).by true
   ·
    split
    ·
     exact hc.1.trans (Ls n hc.1.ok)
    ·
     split
     ·
      exact hc.1
     ·
      split
      ·
       exact hc.1.by true
      ·
       exact hc.1
theorem TI{x:WV}{need:Int}(hx:cf x):iR x (m8 x need).1:=Ls _ hx
def bt(x:It):Int×List UInt8:=(x.id,x.body.xs)
def sf(l:List (Int×List UInt8)):Nat:=(l.filter fun x=>decide (0<x.2.length)).length
theorem TJ{l:List (Int×List UInt8)}{i:Nat}{x:Int×List UInt8}(h:l[i]? =some x):((l.take (i+1)).filter fun x=>decide (0<x.2.length)).length=((l.take i).filter fun x=>decide (0<x.2.length)).length+(if 0<x.2.length then 1 else 0):=by
 rw[List.take_add_one,h,List.filter_append,List.length_append]
 congr 1
 simp only[Option.toList_some,List.filter_cons,List.filter_nil]
 split<;>simp_all
def gZ(v:VV)(x:Int×List UInt8):PV:=⟨1,x.1,v.gen+1,x.2⟩
def g9(v:VV)(aC:Bool):List (Int×List UInt8)→CV→List Int→CV×List Int×Int
 |[],c,a=>(c,a,0)
 |x::r,c,a=>
  if x.2.length=0 then g9 v aC r c (a.set x.1.toNat 0)
  else if(da c (v.at_++a) aC (gZ v x)).2.2≠0 then((da c (v.at_++a) aC (gZ v x)).1,a,(da c (v.at_++a) aC (gZ v x)).2.2)
  else g9 v aC r (da c (v.at_++a) aC (gZ v x)).1 (a.set x.1.toNat (da c (v.at_++a) aC (gZ v x)).2.1)
def dD(x:WV)(l:List (Int×List UInt8)):WV×Int:=m8 {x with beyond:=false} (sf l)
def iK(x:WV)(l:List (Int×List UInt8)):CV×List Int×Int:=g9 (dD x l).1.v (dD x l).1.beyond l (dD x l).1.v.ag (dD x l).1.v.at_
def iL(x:WV)(l:List (Int×List UInt8)):WV×Int:=
 if(dD x l).2≠0 then dD x l
 else if(iK x l).2.2≠0 then((dD x l).1.on (iK x l).1,(iK x l).2.2)
 else et ((dD x l).1.on (iK x l).1) (iK x l).2.1
theorem FR{v:VV}{aC:Bool}: ∀(l:List (Int×List UInt8)) {c:CV} {a:List Int},aT c=true→3≤c.blocks.length→ig c a→
  aT (g9 v aC l c a).1=true∧dL c (g9 v aC l c a).1∧c.ops≤(g9 v aC l c a).1.ops∧ig c (g9 v aC l c a).2.1∧(g9 v aC l c a).2.1.length=a.length
 |[],c,a,hk,h2,ha=>⟨hk, .bY c,Int.le_refl _,ha,rfl⟩
 |x::r,c,a,hk,h2,ha=>by
  rw[g9]
  split
  ·
   have:=FR r (v:=v) (aC:=aC) hk h2 (a:=a.set x.1.toNat 0) (fun y hy=>by
    rcases List.mem_or_eq_of_mem_set hy with hy|rfl
    ·
     exact ha y hy
    ·
     exact .inl rfl)
   rwa [List.length_set]at this
  ·
   obtain⟨p1,p2,p3,p4⟩:=Li (fl:=v.at_++a) (aC:=aC) (p:=gZ v x) hk h2
   split
   ·
    exact⟨p1,p2,p3,ha,rfl⟩
   ·
    rename_i h0
    have p5:=p4 (by simpa using h0)
    have:=FR r (v:=v) (aC:=aC) p1 (by rw[p2.len];exact h2) (a:=a.set x.1.toNat (da c (v.at_++a) aC (gZ v x)).2.1) (fun y hy=>by
     rw[p2.ae,p2.len]
     rcases List.mem_or_eq_of_mem_set hy with hy|rfl
     ·
      exact ha y hy
     ·
      exact .inr p5)
    obtain⟨i1,i2,i3,i4,i5⟩:=this
    refine⟨i1,p2.trans i2,by omega,fun y hy=> ?_,by rw[i5,List.length_set]⟩
    have:=i4 y hy
    rwa [p2.ae,p2.len]at this
theorem Cd{x:WV}{l:List (Int×List UInt8)}(hx:cf x):iR x (dD x l).1:=by
 have:=TI (need:=sf l) (hx.by false)
 exact⟨this.ok,this.cx,this.ops,this.xe⟩
theorem FT{x:WV}{l:List (Int×List UInt8)}(hx:cf x):iR x (iL x l).1:=by
 have hs:=Cd (l:=l) hx
 rw[iL];split
 ·
  exact hs
 ·
  have hl:=hs.ok.oD
  obtain⟨i1,i2,i3,i4,i5⟩:=FR (v:=(dD x l).1.v) (aC:=(dD x l).1.beyond) l hs.ok.ag (by omega) hs.ok.re
  have dW:=hs.trans (.on hs.ok i1 i2 i3)
  split
  ·
   exact dW
  ·
   exact dW.trans (FK dW.ok (i4.cx i2) i5).1
def m9:Nat→WV→List (Int×List UInt8)→WV×Int
 |0,x,_=>(x,0)
 |n+1,x,l=>if(iL x l).2=5∧cq x.v.ag<cq (iL x l).1.v.ag then m9 n (iL x l).1 l else iL x l
theorem xj(c:CV):cq c≤c.blocks.length:=List.length_filter_le _ _
def rh(v:VV)(x:Int×List UInt8):Bool:=decide (0≤x.1)&&decide (x.1<(v.at_.length:Int))&&decide ((x.2.length:Int)≤dM v.ag.size)
def ri(v:VV)(l:List (Int×List UInt8))(i:Nat):Bool:=rh v (l.getD i (0,[]))&& !((l.take i).map Prod.fst).contains (l.getD i (0,[])).1
def qp(v:VV)(l:List (Int×List UInt8)):Bool:=(List.range l.length).all (ri v l)
theorem zu{v:VV}{l:List (Int×List UInt8)}:qp v l=true↔ ∀i,i<l.length→ri v l i=true:=by simp only[qp,List.all_eq_true,List.mem_range]
def rj(l:List Int)(i:Nat):Int→Option Unit:=fun x=>if x∈l.take i then some ()else none
theorem Lt{l:List Int}{i:Nat}{x:Int}:(rj l i x).isSome=decide (x∈l.take i):=by
 unfold rj;split<;>simp_all
theorem TK{l:List Int}:(fun _=>none)=rj l 0:=by
 funext x;simp[rj]
theorem TL{l:List Int}{i:Nat}{y:Int}(h:l[i]? =some y):(fun z=>if z=y then some ()else rj l i z)=rj l (i+1):=by
 funext x
 unfold rj
 rw[List.take_add_one,h]
 by_cases hx:x=y
 ·
  subst hx;simp
 ·
  simp[hx]
def fQ(v:VV)(l:List (Int×List UInt8)):VV×Int:=
 if ¬(kU v=true∧v.gen<281474976710655∧qp v l=true)then(v,1)
 else if v.ag.off=true then(v,7)
 else((m9 (v.ag.blocks.length+1) ⟨v,false⟩ l).1.v,(m9 (v.ag.blocks.length+1) ⟨v,false⟩ l).2)
def qq(b p:Int):Int:=if b<4∨32<b∨p<1∨16<p then 0 else(b -4)*p
def ji(c:CV)(ids:Int):WV×Int:=oE ⟨⟨c,[],0,0⟩,false⟩ ids.toNat
def gS(c:CV)(ids:Int):VV×Int:=
 if ¬(fx c=true∧1≤ids∧ids≤iP c.size)then(⟨c,[],0,0⟩,1)
 else if c.off=true then(⟨c,[],0,0⟩,7)
 else if(ji c ids).2≠0 then(⟨(ji c ids).1.v.ag,[],0,0⟩,(ji c ids).2)
 else((ji c ids).1.v,0)
theorem TM{b:List UInt8}:(bw b).1.at_.length≤64∧(bw b).1.gen<281474976710656:=by
 rw[bw]
 split
 ·
  simp[gG]
 ·
  rename_i h1
  split
  ·
   simp[gG]
  ·
   rename_i h2
   split
   ·
    simp[gG]
   ·
    rename_i h3
    have hf:r9 (cO b).1=true:=by simpa using h3
    simp only[r9,Bool.and_eq_true,decide_eq_true_eq]at hf
    refine⟨?_,K7 b⟩
    have hG:(cO b).1.id<64:=by
     have lN:(cO b).2=0:=by simpa using h1
     rw[cO]at lN h2⊢
     by_cases g1:me b.length=false
     ·
      rw[if_pos g1]at lN;cases lN
     ·
      rw[if_neg g1]at lN h2⊢
      by_cases g2:jB b=true
      ·
       rw[if_pos g2]at h2;exact absurd rfl h2
      ·
       rw[if_neg g2]at lN h2⊢
       by_cases g3:de (wW b)≠l6 (lg b)
       ·
        rw[if_pos g3]at lN;cases lN
       ·
        rw[if_neg g3]at lN h2⊢
        by_cases g4:ph b=false
        ·
         rw[if_pos g4]at lN;cases lN
        ·
         rw[if_neg g4]at lN h2⊢
         have g5:ph b=true:=by simpa using g4
         simp only[ph,Bool.and_eq_true]at g5
         have:=(vb.1 g5.2).2.2.2.1
         split
         ·
          simp[jA]
         ·
          exact this
    simp only[BO]
    omega
theorem Lu(l:List (List UInt8)): ∀k,(dk l k).new.at_.length≤64∧(dk l k).new.gen<281474976710656
 |0=>by simp[dk,gG]
 |k+1=>by
  rw[dk,ve]
  split
  ·
   exact TM
  ·
   exact Lu l k
theorem TN(l:List (List UInt8)):(fw l).2.1.at_.length≤64∧(fw l).2.1.gen<281474976710656:=by
 rw[fw]
 split
 ·
  exact Lu _ _
 ·
  split<;>simp[gG]
theorem vr{v:VV}{b:Bool}(h:kU v=true):cf ⟨v,b⟩:=by
 have hr:=BS h
 have ha:= @KU v h
 simp only[kU,Bool.and_eq_true,decide_eq_true_eq]at h
 obtain⟨⟨⟨h1,h2⟩,h3⟩,h4⟩:=h
 obtain⟨hb,hl,hf⟩:=Fv h1
 obtain⟨b1,b2,b3,b4⟩:=eo.1 hb
 have xk:=TN ((aj {v.ag with off:=false} 0).ae++(aj {v.ag with off:=false} 1).ae)
 rw[hf]at h2 h3 h4
 simp only at h2 h3 h4
 have hd:=eH hr.1
 have pv:4≤(v.ag.blocks.length:Int):=b2
 refine⟨hr.1,b2,b3,b4,?_,by rw[←h2];exact xk.2,fun n hn=> ?_,by rw[←h4];exact xk.1⟩
 ·
  rw[←h3]
  have ho0:=eX.1 (rb hr.1 (b:=0) (by omega) (by omega))
  have ho1:=eX.1 (rb hr.1 (b:=1) (by omega) (by omega))
  have hlen:((aj v.ag 0).ae++(aj v.ag 1).ae).length=(aj v.ag 0).ae.length+(aj v.ag 1).ae.length:=List.length_append
  have hH:=Fp (l:=(aj v.ag 0).ae++(aj v.ag 1).ae) (by rw[hlen];omega)
  change 0≤(bL {v.ag with off:=false}).1∧(bL {v.ag with off:=false}).1<_ at hH
  rw[hlen]at hH
  have g0:0≤(bL {v.ag with off:=false}).1/v.ag.ae:=Int.ediv_nonneg hH.1 (by omega)
  have g1:(bL {v.ag with off:=false}).1/v.ag.ae<2:=Int.ediv_lt_of_lt_mul (by omega) (by
   have h9:(bL {v.ag with off:=false}).1<(((aj v.ag 0).ae.length+(aj v.ag 1).ae.length:Nat):Int):=hH.2
   omega)
  change(bL {v.ag with off:=false}).1/v.ag.ae=0∨(bL {v.ag with off:=false}).1/v.ag.ae=1
  omega
 ·
  by_cases h0:n=0
  ·
   exact .inl h0
  ·
   obtain⟨i,hi⟩:=List.getElem?_of_mem hn
   have:=ha hi h0
   have hp:=mU.1 this.2.2
   exact .inr ⟨this.1,hp.1,hp.2.1⟩
open Go.ay
def Lw(b:BV):Bool:=decide (b.ae.length≤20)&&b.ae.all fun p=>decide (p.length≤300)
def FU(c:CV):Bool:=decide (c.blocks.length≤40)&&decide (c.aX.length≤80)&&c.blocks.all Lw
theorem acg{c:CV}:FU c=true↔c.blocks.length≤40∧c.aX.length≤80∧ ∀b∈c.blocks,b.ae.length≤20∧ ∀p∈b.ae,p.length≤300:=by
 simp only[FU,Lw,Bool.and_eq_true,decide_eq_true_eq,List.all_eq_true,and_assoc]
def vt(l:List (List UInt8))(i:Nat):Bool:=decide ((bw (l.getD i [])).2=0)&&(List.range l.length).all fun k=> !(decide ((bw (l.getD k [])).2=0)&&(decide ((bw (l.getD i [])).1.gen<(bw (l.getD k [])).1.gen)||(decide ((bw (l.getD k [])).1.gen=(bw (l.getD i [])).1.gen)&&decide (i<k))))
theorem FW(l:List (List UInt8)): ∀k,k≤l.length→
  ((dk l k).found=true→ ∃i,i<k∧(dk l k).at_=(i:Int)∧(bw (l.getD i [])).2=0∧(dk l k).new=(bw (l.getD i [])).1∧ ∀j,j<k→(bw (l.getD j [])).2=0→(bw (l.getD j [])).1.gen<(bw (l.getD i [])).1.gen∨((bw (l.getD j [])).1.gen=(bw (l.getD i [])).1.gen∧j≤i))∧
  ((dk l k).found=false→ ∀j,j<k→(bw (l.getD j [])).2≠0)∧(dk l k).blank=(l.take k).all jB
 |0,_=>⟨fun h=>by simp[dk]at h,fun _ j hj=>by omega,by simp[dk]⟩
 |k+1,hk=>by
  obtain⟨h1,h2,h3⟩:=FW l k (by omega)
  obtain⟨b,hb⟩:=get_some (xs:=l) (i:=k) (by omega)
  have hg:l.getD k []=b:=by simp[List.getD,hb]
  have dF:(l.take (k+1)).all jB=((l.take k).all jB&&jB b):=by rw[List.take_add_one,hb];simp
  by_cases hq:(bw b).2=0∧((dk l k).found=false∨(dk l k).new.gen≤(bw b).1.gen)
  ·
   rw[KI hb hq,h3,dF]
   refine⟨fun _=>⟨k,by omega,rfl,by rw[hg];exact hq.1,by rw[hg],fun j hj hv=> ?_⟩,fun h=>by simp at h,rfl⟩
   rw[hg]
   by_cases e:j=k
   ·
    subst e;rw[hg];exact .inr ⟨rfl,Nat.le_refl _⟩
   ·
    have AH:j<k:=by omega
    rcases hq.2 with hf|hf
    ·
     exact absurd hv (h2 hf j AH)
    ·
     cases jj:(dk l k).found with
     |false=>exact absurd hv (h2 jj j AH)
     |true=>
      obtain⟨i,hi,ha,wJ,hn,hQ⟩:=h1 jj
      rw[hn]at hf
      rcases hQ j AH hv with g|g
      ·
       exact .inl (by omega)
      ·
       by_cases bx:(bw (l.getD j [])).1.gen<(bw b).1.gen
       ·
        exact .inl bx
       ·
        exact .inr ⟨by omega,by omega⟩
  ·
   rw[KJ hb hq]
   refine⟨fun jj=> ?_,fun jj j hj=> ?_,by simp only[h3,dF]⟩
   ·
    obtain⟨i,hi,ha,wJ,hn,hQ⟩:=h1 jj
    refine⟨i,by omega,ha,wJ,hn,fun j hj hv=> ?_⟩
    by_cases e:j=k
    ·
     subst e
     rw[hg]at hv⊢
     have: ¬(dk l j).new.gen≤(bw b).1.gen:=fun h=>hq ⟨hv, .inr h⟩
     rw[hn]at this
     exact .inl (by omega)
    ·
     exact hQ j (by omega) hv
   ·
    by_cases e:j=k
    ·
     subst e;rw[hg];exact fun hv=>hq ⟨hv, .inl jj⟩
    ·
     exact h2 jj j (by omega)
theorem Ce{l:List (List UInt8)}{i:Nat}:vt l i=true↔(bw (l.getD i [])).2=0∧ ∀k,k<l.length→(bw (l.getD k [])).2=0→ ¬((bw (l.getD i [])).1.gen<(bw (l.getD k [])).1.gen∨((bw (l.getD k [])).1.gen=(bw (l.getD i [])).1.gen∧i<k)):=by
 simp only[vt,Bool.and_eq_true,decide_eq_true_eq,List.all_eq_true,List.mem_range,Bool.not_eq_true',Bool.and_eq_false_iff,Bool.or_eq_false_iff,decide_eq_false_iff_not]
 constructor
 ·
  rintro⟨h1,h2⟩
  refine⟨h1,fun k hk hv hc=> ?_⟩
  rcases h2 k hk with g|g
  ·
   exact g hv
  ·
   rcases hc with c|c
   ·
    exact g.1 c
   ·
    rcases g.2 with g|g
    ·
     exact g c.1
    ·
     exact g c.2
 ·
  rintro⟨h1,h2⟩
  refine⟨h1,fun k hk=> ?_⟩
  by_cases hv:(bw (l.getD k [])).2=0
  ·
   have:=h2 k hk hv
   refine .inr ⟨fun c=>this (.inl c),?_⟩
   by_cases e:(bw (l.getD k [])).1.gen=(bw (l.getD i [])).1.gen
   ·
    exact .inr fun c=>this (.inr ⟨e,c⟩)
   ·
    exact .inl e
  ·
   exact .inl hv
theorem Ly{l:List (List UInt8)}{i:Nat}(hi:i<l.length)(h:vt l i=true):fw l=((i:Int),(bw (l.getD i [])).1,0):=by
 obtain⟨h1,h2⟩:=Ce.1 h
 obtain⟨s1,s2,s3⟩:=FW l l.length (Nat.le_refl _)
 cases hf:(dk l l.length).found with
 |false=>exact absurd h1 (s2 hf i hi)
 |true=>
  obtain⟨j,hj,ha,hv,hn,hQ⟩:=s1 hf
  have e:j=i:=by
   have g1:=hQ i hi h1
   have g2:=h2 j hj hv
   omega
  subst e
  rw[fw,if_pos hf,ha,hn]
theorem TO{l:List (List UInt8)}(h: ∀i,i<l.length→vt l i=false):fw l=(0,gG,if l.all jB=true then 6 else 2):=by
 obtain⟨s1,s2,s3⟩:=FW l l.length (Nat.le_refl _)
 rw[List.take_length]at s3
 cases hf:(dk l l.length).found with
 |false=>
  rw[fw,if_neg (by rw[hf];simp),s3]
  split<;>rfl
 |true=>
  obtain⟨j,hj,ha,hv,hn,hQ⟩:=s1 hf
  have:vt l j=true:=Ce.2 ⟨hv,fun k hk TP hc=>by have:=hQ k hk TP;omega⟩
  rw[h j hj]at this;cases this
def sg(c:CV):VV×Int:=
 if(bL c).2.2≠0 then(ke,(bL c).2.2)else if lh c=false then(ke,2)else(⟨c,(bL c).2.1.at_,(bL c).2.1.gen,(bL c).1/c.ae⟩,0)
theorem Lz{c:CV}{l:List Int}{i:Nat}{y:Int}(h:l.getD i 0=y):qg c l i=(decide (y=0)||(!(l.take i).contains y&&mf c (i:Int) y)):=by rw[qg,h]
theorem TQ(c:CV):bF c=if fx c=false then(ke,1)else if c.off=true then(ke,7)else sg c:=rfl
theorem TR(x:VV):kU x=(fx x.ag&&(decide ((sg x.ag).2=0)&&decide (x.at_=(sg x.ag).1.at_)&&decide (x.gen=(sg x.ag).1.gen)&&decide (x.last=(sg x.ag).1.last))):=by
 have hb:fx {x.ag with off:=false}=fx x.ag:=rfl
 have di:lh {x.ag with off:=false}=lh x.ag:=rfl
 have xm:bL {x.ag with off:=false}=bL x.ag:=rfl
 rw[kU,TQ,hb]
 cases h:fx x.ag with
 |false=>rw[if_pos rfl];rfl
 |true=>
  rw[if_neg (by simp),if_neg (by simp),sg,sg,xm,di]
  by_cases h1:(bL x.ag).2.2≠0
  ·
   rw[if_pos h1,if_pos h1,decide_eq_false h1];rfl
  ·
   rw[if_neg h1,if_neg h1]
   by_cases h2:lh x.ag=false
   ·
    rw[if_pos h2,if_pos h2];rfl
   ·
    rw[if_neg h2,if_neg h2]
    rw[Bool.eq_iff_iff];simp only[Bool.and_eq_true,decide_eq_true_eq,true_and,Bool.true_and]
    constructor
    ·
     rintro⟨⟨g1,g2⟩,g3⟩;exact⟨⟨g3.symm,g1.symm⟩,g2.symm⟩
    ·
     rintro⟨⟨g1,g2⟩,g3⟩;exact⟨⟨g2.symm,g3.symm⟩,g1.symm⟩
open Go.ay
theorem TS{c:CV}(h:(bF c).2≠0):(bF c).1=ke:=by
 rw[bF]at h⊢
 repeat' split
 all_goals first|rfl|(exfalso;simp_all)
theorem TT(c:CV):(if(bF c).2=0 then(bF c).1 else ke)=(bF c).1:=by
 by_cases h:(bF c).2=0
 ·
  rw[if_pos h]
 ·
  rw[if_neg h,TS h]
open Go.ay
def qt(t:List Rt)(n id:Nat):List UInt8:=((t.drop (id*n)).take n).flatMap eO
def ll(t:List Rt)(ids n:Nat):List (List UInt8):=(List.range ids).map (qt t n)
def gI(a b:Int):Int:=if a<1∨64<a∨b<20∨240<b then 0 else min (a*(b/20)) 256
def jk(t:List Rt)(ids room:Int):Int:=if dy t=false∨gI ids room=0 then 1 else if gI ids room<t.length then 5 else 0
def jV(t:List Rt)(ids room:Int):List (List UInt8):=if jk t ids room=0 then ll t ids.toNat (room/20).toNat else[]
theorem tI(t:List Rt)(ids n:Nat):(ll t ids n).length=ids:=by simp[ll]
theorem TU(l:List Rt):(l.flatMap eO).length=20*l.length:=by
 induction l with
 |nil=>rfl
 |cons a l ih=>rw[List.flatMap_cons,List.length_append,ih,oy,List.length_cons];omega
theorem TV(t:List Rt)(n id:Nat):(qt t n id).length=20*min n (t.length -id*n):=by
 rw[qt,TU,List.length_take,List.length_drop]
theorem LA(t:List Rt)(n id:Nat):(qt t n id).length≤20*n:=by rw[TV];omega
theorem Cf{a b:Int}(h: ¬gI a b=0):1≤a∧a≤64∧20≤b∧b≤240∧gI a b=min (a*(b/20)) 256∧1≤b/20∧b/20≤12:=by
 unfold gI at h⊢
 split at h
 ·
  exact absurd rfl h
 ·
  rename_i hn
  rw[if_neg hn]
  have:1≤b/20∧b/20≤12:=by omega
  exact⟨by omega,by omega,by omega,by omega,rfl,this.1,this.2⟩
theorem TW{t:List Rt}{r:Rt}{i n id:Nat}(hn:0<n)(hr:t[i]? =some r):qt (t.take (i+1)) n id=qt (t.take i) n id++(if id=i/n then eO r else[]):=by
 have bx:i<t.length:=(List.getElem?_eq_some_iff.1 hr).1
 have e1:t.take (i+1)=t.take i++[r]:=by rw[List.take_add_one,hr];rfl
 have hd:=Nat.div_add_mod i n
 have hm:=Nat.mod_lt i hn
 have hc:n*(i/n)=i/n*n:=Nat.mul_comm _ _
 unfold qt
 have l1:(t.take i).length=i:=by rw[List.length_take];omega
 rw[e1]
 by_cases h1:id=i/n
 ·
  subst h1
  have e2:(t.take i++[r]).drop (i/n*n)=(t.take i).drop (i/n*n)++[r]:=List.drop_append_of_le_length (by rw[l1];omega)
  have e3:((t.take i).drop (i/n*n)++[r]).take n=(t.take i).drop (i/n*n)++[r]:=List.take_of_length_le (by rw[List.length_append,List.length_drop,l1];simp only[List.length_cons,List.length_nil];omega)
  have e4:((t.take i).drop (i/n*n)).take n=(t.take i).drop (i/n*n):=List.take_of_length_le (by rw[List.length_drop,l1];omega)
  rw[if_pos rfl,e2,e3,e4]
  simp
 ·
  rw[if_neg h1,List.append_nil]
  rcases Nat.lt_or_gt_of_ne h1 with h2|h2
  ·
   have:(id+1)*n≤i/n*n:=Nat.mul_le_mul_right _ h2
   rw[Nat.add_mul]at this
   rw[List.drop_append_of_le_length (by rw[l1];omega),List.take_append_of_le_length (by rw[List.length_drop,l1];omega)]
  ·
   have:(i/n+1)*n≤id*n:=Nat.mul_le_mul_right _ h2
   rw[Nat.add_mul]at this
   rw[List.drop_eq_nil_of_le (by rw[List.length_append,l1];simp;omega),List.drop_eq_nil_of_le (by rw[l1];omega)]
theorem TX{t:List Rt}{r:Rt}{i n ids:Nat}{x:List UInt8}(hn:0<n)(hr:t[i]? =some r)(hx:(ll (t.take i) ids n)[i/n]? =some x):
  ll (t.take (i+1)) ids n=(ll (t.take i) ids n).set (i/n) (x++eO r):=by
 refine List.ext_getElem? fun j=> ?_
 rw[List.getElem?_set]
 have hk:i/n<ids:=by have:=(List.getElem?_eq_some_iff.1 hx).1;rwa [tI]at this
 by_cases hj:j<ids
 ·
  have e: ∀t',(ll t' ids n)[j]? =some (qt t' n j):=fun t'=>by simp[ll,hj]
  rw[e,TW hn hr]
  by_cases h:i/n=j
  ·
   subst h
   rw[e]at hx
   rw[if_pos rfl,if_pos rfl,if_pos (by rw[tI];exact hk)]
   rw[Option.some.inj hx]
  ·
   rw[if_neg (fun e=>h e.symm),if_neg h,List.append_nil,e]
 ·
  rw[List.getElem?_eq_none (by rw[tI];omega),if_neg (by omega),List.getElem?_eq_none (by rw[tI];omega)]
theorem TY(t:List Rt)(ids n:Nat):ll (t.take 0) ids n=List.replicate ids []:=by
 refine List.eq_replicate_iff.2 ⟨tI _ _ _,fun x hx=> ?_⟩
 obtain⟨j,_,rfl⟩:=List.mem_map.1 hx
 simp[qt]
theorem TZ(t:List Rt)(id n:Nat):ll t (id+1) n=ll t id n++[qt t n id]:=by simp[ll,List.range_succ]
def oF(b:List UInt8):Rt:=⟨⟨if b.getD 0 0=1 then 128 else 32,(b.getD 1 0).toNat,oc fun i=>(b.getD (2+i) 0).toNat⟩,UInt16.ofNat ((b.getD 18 0).toNat*256+(b.getD 19 0).toNat)⟩
def rd(b:List UInt8):Option Rt:=if b.getD 0 0≤1 then some (oF b)else none
def ln(b:List UInt8):Option (List Rt):=
 if h:b.length<20 then(if b.length=0 then some []else none)
 else match rd (b.take 20),ln (b.drop 20)with
  |some r,some l=>some (r::l)
  |_,_=>none
termination_by b.length
decreasing_by rw[List.length_drop];omega
theorem FX:ln []=some []:=by rw[ln];simp
theorem FY{b:List UInt8}(h:20≤b.length):ln b=(rd (b.take 20)).bind fun r=>(ln (b.drop 20)).map (r:: ·):=by
 rw[ln,dif_neg (by omega)]
 cases rd (b.take 20)<;>simp
 cases ln (b.drop 20)<;>simp
theorem LB: ∀(k:Nat) (b:List UInt8),b.length≤k→ ¬b.length%20=0→ln b=none
 |0,b,h,hm=>by have:b.length=0:=by omega
               rw[this]at hm;simp at hm
 |k+1,b,h,hm=>by
  by_cases h2:b.length<20
  ·
   rw[ln,dif_pos h2,if_neg (fun e=>by rw[e]at hm;simp at hm)]
  ·
   rw[FY (by omega),LB k (b.drop 20) (by rw[List.length_drop];omega) (by rw[List.length_drop];omega)]
   cases rd (b.take 20)<;>rfl
def fT:List (List UInt8)→Option (List Rt)
 |[]=>some []
 |b::r=>(ln b).bind fun l=>(fT r).map (l++ ·)
theorem Cg: ∀a b:List (List UInt8),fT (a++b)=(fT a).bind fun l=>(fT b).map (l++ ·)
 |[],b=>by simp[fT]
 |x::a,b=>by
  rw[List.cons_append,fT,fT,Cg a b]
  cases ln x<;>simp
  cases fT a<;>simp
  cases fT b<;>simp
theorem FZ{bs:List (List UInt8)}{i:Nat}{b:List UInt8}(h:bs[i]? =some b):fT (bs.take (i+1))=(fT (bs.take i)).bind fun l=>(ln b).map (l++ ·):=by
 rw[List.take_add_one,h,Option.toList_some,Cg,fT,fT]
 cases fT (bs.take i)with
 |none=>rfl
 |some l=>cases ln b<;>simp
theorem LC{bs:List (List UInt8)}{i:Nat}(h:fT (bs.take i)=none):fT bs=none:=by
 rw[←List.take_append_drop i bs,Cg,h];rfl
def ij(bs:List (List UInt8)):List Rt:=match fT bs with
 |some t=>if dy t=true then t else[]
 |none=>[]
def iT(bs:List (List UInt8)):Int:=match fT bs with
 |some t=>if dy t=true then 0 else 2
 |none=>2
theorem Ci{bs:List (List UInt8)}(h:fT bs=none):ij bs=[]∧iT bs=2:=by simp[ij,iT,h]
theorem LD{bs:List (List UInt8)}{t:List Rt}(h:fT bs=some t)(hr:dy t=false):ij bs=[]∧iT bs=2:=by simp[ij,iT,h,hr]
theorem F0{bs:List (List UInt8)}{t:List Rt}(h:fT bs=some t)(hr:dy t=true):ij bs=t∧iT bs=0:=by simp[ij,iT,h,hr]
def rk(a b:List (List UInt8))(i:Nat):Option (Int×List UInt8):=if a.getD i []=b.getD i []then none else some ((i:Int),b.getD i [])
def mj(a b:List (List UInt8))(n:Nat):List (Int×List UInt8):=(List.range n).filterMap (rk a b)
def eQ(a b:List (List UInt8)):List (Int×List UInt8):=mj a b (max a.length b.length)
theorem LF{a b:List (List UInt8)}{n:Nat}(h:a.getD n []=b.getD n []):mj a b (n+1)=mj a b n:=by
 have e:rk a b n=none:=by rw[rk,if_pos h]
 simp[mj,List.range_succ,e]
theorem LG{a b:List (List UInt8)}{n:Nat}(h: ¬a.getD n []=b.getD n []):mj a b (n+1)=mj a b n++[((n:Int),b.getD n [])]:=by
 have e:rk a b n=some ((n:Int),b.getD n []):=by rw[rk,if_neg h]
 simp[mj,List.range_succ,e]
theorem Cj(a b:List (List UInt8))(n:Nat):(mj a b n).length≤n:=by
 have:=List.length_filterMap_le (rk a b) (List.range n)
 simpa[mj]using this
def nN(b:List UInt8):Bool:=decide (b.getD 0 0≤1)
def rdv(b:List UInt8):Rt:=if nN b=true then oF b else jx
theorem LH(b:List UInt8):rd b=if nN b=true then some (oF b)else none:=by simp[rd,nN]
theorem T0(b:List UInt8):(oF b).dP=qT (b.getD 18 0) (b.getD 19 0):=rfl
theorem T1{b:List UInt8}(hb:b.length=20)(v:Int)(hv:v=if b.getD 0 0=1 then 128 else 32):
  (cT (((ax jx).setIfInBounds 0 (.int .i64 v)).setIfInBounds 1 (.int .i64 (b.getD 1 0).toNat)) 2 (aJ aM ((b.drop 2).take 16)).toArray).setIfInBounds 18 (.int .u16 (qT (b.getD 18 0) (b.getD 19 0)).toNat)=ax (oF b):=by
 have hk:(aJ aM ((b.drop 2).take 16)).toArray.size=16:=by rw[List.size_toArray,gX,List.length_take,List.length_drop,hb];rfl
 have h0:(ax jx).size=19:=kx _
 have hs:2+(aJ aM ((b.drop 2).take 16)).toArray.size≤(((ax jx).setIfInBounds 0 (.int .i64 v)).setIfInBounds 1 (.int .i64 (b.getD 1 0).toNat)).size:=by rw[hk];simp[h0]
 refine Array.ext_getElem? fun j=> ?_
 rw[Array.getElem?_setIfInBounds,mE hs,uK hs,hk]
 by_cases zh:18=j
 ·
  subst zh;rw[if_pos rfl,wD,T0];simp[h0]
 rw[if_neg zh]
 by_cases h2:2≤j∧j<2+16
 ·
  rw[if_pos h2,og _ j (by omega),show j=2+(j -2) by omega,pZ,lH _ _ (by omega),show 2+(j -2) -2=j -2 by omega]
  have hg:((b.drop 2).take 16)[j -2]? =some (b.getD j 0):=by
   rw[List.getElem?_take,if_pos (by omega),List.getElem?_drop,show 2+(j -2)=j by omega,List.getD,List.getElem?_eq_getElem (by omega)];rfl
  have:=mF (enc:=aM) ((b.drop 2).take 16) (j -2) _ hg 0 (by decide)
  simp only[Nat.mul_one,Nat.add_zero]at this
  rw[show(aJ aM ((b.drop 2).take 16)).toArray[j -2]? =(aJ aM ((b.drop 2).take 16))[j -2]?by simp,this]
  have e:cK (oF b).p.key (j -2)=(b.getD j 0).toNat:=by
   show cK (oc fun i=>(b.getD (2+i) 0).toNat) (j -2)=_
   rw[yP _ _ (by omega),show 2+(j -2)=j by omega]
   have:=(b.getD j 0).toNat_lt;omega
  rw[e];rfl
 rw[if_neg h2,Array.getElem?_setIfInBounds]
 by_cases h1:1=j
 ·
  subst h1;rw[if_pos rfl,og _ 1 (by decide),uT];simp[h0,oF]
 rw[if_neg h1,Array.getElem?_setIfInBounds]
 by_cases hj:0=j
 ·
  subst hj;rw[if_pos rfl,og _ 0 (by decide),uS];simp[h0,oF,hv]
 ·
  rw[if_neg hj,Array.getElem?_eq_none (by rw[h0];omega),Array.getElem?_eq_none (by rw[kx];omega)]
theorem LK{t:List Rt}{ids room:Int}(h:gI ids room=0∨dy t=false):jk t ids room=1∧jV t ids room=[]:=by
 have e:jk t ids room=1:=if_pos h.symm
 exact⟨e,by rw[jV,e];rfl⟩
theorem LL{t:List Rt}{ids room:Int}(h: ¬gI ids room=0)(h':dy t=true)(h2:gI ids room<t.length):jk t ids room=5∧jV t ids room=[]:=by
 have e:jk t ids room=5:=by
  rw[jk,if_neg (by simp[h,h']),if_pos h2]
 exact⟨e,by rw[jV,e];rfl⟩
theorem F1{t:List Rt}{ids room:Int}(h: ¬gI ids room=0)(h':dy t=true)(h2: ¬gI ids room<t.length):jk t ids room=0∧jV t ids room=ll t ids.toNat (room/20).toNat:=by
 have e:jk t ids room=0:=by
  rw[jk,if_neg (by simp[h,h']),if_neg h2]
 exact⟨e,by rw[jV,if_pos e]⟩
theorem T2{s:Sv}{xs:List (Sl UInt8)}{i:Nat}{y:Sl UInt8}:lx (⟨s,xs.set i y⟩:Sl (Sl UInt8))=(xs.map (·.xs)).set i y.xs:=by simp[lx,List.map_set]
section
variable {bits:Int} {ns:List Nd} {i:Nat} {a a2:List Int} {nd:Nd}
end
section
variable {bits:Int} {W:List Wy} {R:List Rt}
end
section
variable {bits:Int} {t:List Rt}
end
def kB(p:Nat→Bool):Nat→Nat→Nat→Nat
 |0,i,_=>i
 |f+1,i,j=>if i<j then(if p ((i+j)/2)=true then kB p f i ((i+j)/2)else kB p f ((i+j)/2+1) j)else i
def bs(p:Nat→Bool)(n:Nat):Nat:=kB p (n+1) 0 n
theorem Ck(p:Nat→Bool): ∀(f g i j:Nat),j -i<f→j -i<g→kB p f i j=kB p g i j
 |0,_,_,_,h,_=>by omega
 |_+1,0,_,_,_,h=>by omega
 |f+1,g+1,i,j,h1,h2=>by
  rw[kB,kB]
  split
  ·
   split
   ·
    exact Ck p f g _ _ (by omega) (by omega)
   ·
    exact Ck p f g _ _ (by omega) (by omega)
  ·
   rfl
theorem LM{p:Nat→Bool}{f i j:Nat}(h:i<j)(hf:j -i<f):kB p f i j=if p ((i+j)/2)=true then kB p f i ((i+j)/2)else kB p f ((i+j)/2+1) j:=by
 match f,hf with
 |f+1,hf=>
  rw[kB,if_pos h]
  split
  ·
   exact Ck p f (f+1) _ _ (by omega) (by omega)
  ·
   exact Ck p f (f+1) _ _ (by omega) (by omega)
theorem T3{p:Nat→Bool}{f i j:Nat}(h: ¬i<j)(hf:0<f):kB p f i j=i:=by
 match f,hf with
 |f+1,_=>rw[kB,if_neg h]
theorem F2{p:Nat→Bool}{n:Nat}(hm: ∀a b,a≤b→b<n→p a=true→p b=true): ∀(f i j:Nat),j -i<f→i≤j→j≤n→(∀a,a<i→p a=false)→(∀a,j≤a→a<n→p a=true)→
  kB p f i j≤n∧(∀a,a<kB p f i j→p a=false)∧ ∀a,kB p f i j≤a→a<n→p a=true
 |0,_,_,h,_,_,_,_=>by omega
 |f+1,i,j,h,nX,sS,h1,h2=>by
  rw[kB]
  split
  ·
   rename_i bx
   split
   ·
    rename_i hp
    exact F2 hm f _ _ (by omega) (by omega) (by omega) h1 fun a ha T4=>hm _ a ha T4 hp
   ·
    rename_i hp
    refine F2 hm f _ _ (by omega) (by omega) sS (fun a ha=> ?_) h2
    cases mn:p a with
    |false=>rfl
    |true=>exact absurd (hm a ((i+j)/2) (by omega) (by omega) mn) hp
  ·
   obtain rfl:i=j:=by omega
   exact⟨sS,h1,h2⟩
theorem LN{p:Nat→Bool}{n:Nat}(hm: ∀a b,a≤b→b<n→p a=true→p b=true):bs p n≤n∧(∀a,a<bs p n→p a=false)∧ ∀a,bs p n≤a→a<n→p a=true:=
 F2 hm (n+1) 0 n (by omega) (Nat.zero_le _) (Nat.le_refl _) (fun a ha=>by omega) (fun a h1 h2=>by omega)
def behind(t:List Rt)(q:cU)(j:Nat):Bool:=match t[j]?with
 |some r=> !dR r.p q
 |none=>true
def cP(t:List Rt)(q:cU):Nat:=bs (behind t q) t.length
def kC(t:List Rt)(q:cU):Bool:=match t[cP t q]?with
 |some r=>decide (r.p=q)
 |none=>false
theorem F3{p:Nat→Bool}: ∀(f i j:Nat),i≤j→kB p f i j≤j
 |0,_,_,h=>h
 |f+1,i,j,h=>by
  rw[kB];split
  ·
   split
   ·
    exact Nat.le_trans (F3 f _ _ (by omega)) (by omega)
   ·
    exact F3 f _ _ (by omega)
  ·
   exact h
theorem LO(t:List Rt)(q:cU):cP t q≤t.length:=F3 _ _ _ (Nat.zero_le _)
theorem T5(t:List Rt)(q:cU):kC t q=(decide (((cP t q:Nat):Int)<(t.length:Int))&&decide ((t.getD (cP t q) jx).p=q)):=by
 rcases Nat.lt_or_ge (cP t q) t.length with h|h
 ·
  have e:t[cP t q]? =some t[cP t q]:=by simp[h]
  rw[kC,e,List.getD_eq_getElem?_getD,e];simp[h]
 ·
  rw[kC,List.getElem?_eq_none h,decide_eq_false (by omega)];rfl
def xn(t:List Rt)(k:Key)(bits:Int)(n:Nat):Option Rt:=if kC t ⟨bits,n,ib k n⟩=true then t[cP t ⟨bits,n,ib k n⟩]?else none
def rl(t:List Rt)(k:Key)(bits:Int):Nat→Option Rt
 |0=>xn t k bits 0
 |n+1=>match xn t k bits (n+1)with
  |some r=>some r
  |none=>rl t k bits n
def xo(t:List Rt)(k:Key)(bits:Int):Bool:=dy t&&cZ ⟨bits,bits,k⟩
def rn(t:List Rt)(k:Key)(bits:Int):Rt:=if xo t k bits=true then(rl t k bits bits.toNat).getD jx else jx
def rp(t:List Rt)(k:Key)(bits:Int):Int:=if xo t k bits=true then(if(rl t k bits bits.toNat).isSome=true then 0 else 6)else 1
theorem Cl{t:List Rt}(h:dy t=true): ∀(i j:Nat) (a b:Rt),i<j→t[i]? =some a→t[j]? =some b→dR a.p b.p=true:=by
 intro i j
 induction j with
 |zero=>intro a b nX;omega
 |succ j ih=>
  intro a b nX ha hb
  have iZ:=(List.getElem?_eq_some_iff.1 hb).1
  obtain⟨c,hc⟩: ∃c,t[j]? =some c:=⟨t[j],by simp[show j<t.length by omega]⟩
  have oG:dR c.p b.p=true:=by
   cases hx:dR c.p b.p with
   |true=>rfl
   |false=>
    have:=Ba iZ (by rw[Bb hb hc,hx];simp)
    rw[this]at h;cases h
  rcases Nat.lt_or_ge i j with h1|h1
  ·
   have T6:=ih a c h1 ha hc
   have m1:=wN h (List.mem_of_getElem? ha)
   have m2:=wN h (List.mem_of_getElem? hb)
   have m3:=wN h (List.mem_of_getElem? hc)
   rw[lI m1 m3]at T6
   rw[lI m3 m2]at oG
   rw[lI m1 m2]
   omega
  ·
   obtain rfl:i=j:=by omega
   obtain rfl:=Option.some.inj (ha.symm.trans hc)
   exact oG
theorem xp{p:cU}(h:cZ p=true):dR p p=false:=by
 cases hx:dR p p with
 |false=>rfl
 |true=>rw[lI h h]at hx;omega
theorem LP{t:List Rt}(h:dy t=true){q:cU}(hq:cZ q=true)(a b:Nat)(Az:a≤b)(hb:b<t.length)(ha:behind t q a=true):behind t q b=true:=by
 obtain⟨x,hx⟩: ∃x,t[a]? =some x:=⟨t[a],by simp[show a<t.length by omega]⟩
 obtain⟨y,hy⟩: ∃y,t[b]? =some y:=⟨t[b],by simp[hb]⟩
 simp only[behind,hx,hy,Bool.not_eq_true']at ha⊢
 rcases Nat.lt_or_ge a b with h1|h1
 ·
  have hl:=Cl h a b x y h1 hx hy
  have m1:=wN h (List.mem_of_getElem? hx)
  have m2:=wN h (List.mem_of_getElem? hy)
  cases hz:dR y.p q with
  |false=>rfl
  |true=>
   rw[lI m1 m2]at hl
   rw[lI m2 hq]at hz
   have:dR x.p q=true:=by rw[lI m1 hq];omega
   rw[this]at ha;cases ha
 ·
  obtain rfl:a=b:=by omega
  obtain rfl:=Option.some.inj (hx.symm.trans hy)
  exact ha
theorem T7{t:List Rt}(h:dy t=true){q:cU}(hq:cZ q=true){r:Rt}(hr:r∈t)(e:r.p=q):t[cP t q]? =some r∧kC t q=true:=by
 obtain⟨h1,h2,h3⟩:=LN (p:=behind t q) (n:=t.length) fun a b=>LP h hq a b
 obtain⟨i,hi⟩:=List.mem_iff_getElem?.1 hr
 have fC:=(List.getElem?_eq_some_iff.1 hi).1
 have e1:cP t q=i:=by
  have sh:behind t q i=true:=by simp only[behind,hi,e,xp hq];rfl
  rcases Nat.lt_trichotomy (cP t q) i with h4|h4|h4
  ·
   obtain⟨x,hx⟩: ∃x,t[cP t q]? =some x:=⟨t[cP t q],by simp[show cP t q<t.length by omega]⟩
   have h5:=h3 (cP t q) (Nat.le_refl _) (by omega)
   have h6:=Cl h _ _ x r h4 hx hi
   simp only[behind,hx]at h5
   rw[e]at h6;rw[h6]at h5;cases h5
  ·
   exact h4
  ·
   have:=h2 i h4;rw[this]at sh;cases sh
 rw[kC,e1,hi]
 exact⟨rfl,by simp[e]⟩
theorem zv{t:List Rt}{q:cU}(h:kC t q=true): ∃r∈t,t[cP t q]? =some r∧r.p=q:=by
 rw[kC]at h
 cases e:t[cP t q]?with
 |none=>rw[e]at h;cases h
 |some r=>rw[e]at h;exact⟨r,List.mem_of_getElem? e,rfl,by simpa using h⟩
section
variable {t:List Rt} {k:Key} {bits:Int}
end
structure Ord(t:List Rt):Prop where
 may: ∀r∈t,cZ r.p=true
 less:t.Pairwise fun a b=>dR a.p b.p=true
theorem Cm{t:List Rt}(h:dy t=true):Ord t:=⟨fun _ hr=>wN h hr,by
 rw[List.pairwise_iff_getElem]
 intro i j hi hj nX
 exact Cl h i j _ _ nX (by simp[hi]) (by simp[hj])⟩
theorem T8{t:List Rt}(h:Ord t)(hl:t.length≤256):dy t=true:=by
 refine Jv hl ?_
 have key: ∀n,n≤t.length→p6 t n=true:=by
  intro n
  induction n with
  |zero=>intro _;rfl
  |succ n ih=>
   intro hn
   rw[Et,ih (by omega),Bool.true_and]
   have hi:t[n]? =some t[n]:=by simp[show n<t.length by omega]
   have hm:=h.may _ (List.mem_of_getElem? hi)
   cases n with
   |zero=>rw[Eu hi,hm]
   |succ m=>
    have hq:t[m]? =some t[m]:=by simp[show m<t.length by omega]
    rw[Bb hi hq,hm,Bool.true_and]
    exact(List.pairwise_iff_getElem.1 h.less) m (m+1) (by omega) (by omega) (by omega)
 exact key _ (Nat.le_refl _)
theorem Ord.sub{s t:List Rt}(h:Ord t)(hs:s.Sublist t):Ord s:=⟨fun r hr=>h.may r (hs.subset hr),h.less.sublist hs⟩
def T9(r:Rt)(p:cU):Bool:=decide (r.p≠p)&&Q8 r.p p
def Ua(t:List Rt)(p:cU):Option Rt:=t.reverse.find? fun r=>T9 r p
def ach(t:List Rt)(r:Rt):Bool:=match Ua t r.p with
 |none=>true
 |some o=> !decide (o.dP=r.dP)
structure Ch where
 r:Rt
 gone:Bool
 deriving DecidableEq
def LQ:Ch:=⟨jx,false⟩
def fU(x:Ch):Array Value:=ax x.r++ #[.bool x.gone]
theorem LR(x:Ch):(fU x).size=20:=by unfold fU;rw[Array.size_append,kx];rfl
theorem LS(x:Ch)(j:Nat)(h:j<19):(fU x)[j]? =(ax x.r)[j]? :=by
 unfold fU;rw[Array.getElem?_append_left (by rw[kx];exact h)]
theorem Ub(x:Ch):(fU x)[19]? =some (.bool x.gone):=by
 unfold fU;rw[Array.getElem?_append_right (by rw[kx];omega),kx];rfl
def fA(t:List Rt)(c:Ch):Int:=if cZ c.r.p=true then(if kC t c.r.p=true then 0 else if c.gone=true then 6 else if 256≤t.length then 5 else 0)else 1
def jG(t:List Rt)(c:Ch):List Rt:=
 if fA t c=0 then(if c.gone=true then t.take (cP t c.r.p)++t.drop (cP t c.r.p+1)else if kC t c.r.p=true then t.set (cP t c.r.p) c.r else t.take (cP t c.r.p)++c.r::t.drop (cP t c.r.p))else t
theorem LU{t:List Rt}(h:t.length≤256)(c:Ch):(jG t c).length≤256:=by
 unfold jG
 split
 ·
  rename_i he
  split
  ·
   simp only[List.length_append,List.length_take,List.length_drop];omega
  ·
   split
   ·
    simpa using h
   ·
    rename_i h1 h2
    have:t.length<256:=by
     apply Classical.byContradiction;intro hn
     unfold fA at he
     rw[if_neg h2,if_neg h1,if_pos (show 256≤t.length by omega)]at he
     split at he<;>omega
    have hp:=LO t c.r.p
    simp only[List.length_append,List.length_take,List.length_cons,List.length_drop];omega
 ·
  exact h
def kX:List Rt→List Ch→List Rt×Int
 |t,[]=>(t,0)
 |t,c::l=>if fA t c=0 then kX (jG t c) l else(t,fA t c)
theorem LV{t:List Rt}{l:List Ch}{i:Nat}{c:Ch}(hc:l[i]? =some c):kX t (l.drop i)=if fA t c=0 then kX (jG t c) (l.drop (i+1))else(t,fA t c):=by
 obtain⟨hi,rfl⟩:=List.getElem?_eq_some_iff.1 hc
 rw[List.drop_eq_getElem_cons hi,kX]
def eu(t:List Rt)(l:List Ch):Int:=if dy t=true then(kX t l).2 else 1
def cQ(t:List Rt)(l:List Ch):List Rt:=if eu t l=0 then(kX t l).1 else t
end Go.Kb
namespace Go.Proofs.YtaipiecplldinaaGreat
open Go.ay
instance aci:gV Tryz.prog 3:=⟨⟨_,Tryz.underlying3,rfl⟩,by kernel_rfl⟩
instance acj:lV Tryz.prog 3 .i64:=⟨Tryz.underlying3⟩
instance ack:gV Tryz.prog 4:=⟨⟨_,Tryz.underlying4,rfl⟩,by kernel_rfl⟩
instance acm:gV Tryz.prog 5:=⟨⟨_,Tryz.underlying5,rfl⟩,by kernel_rfl⟩
instance acn:lV Tryz.prog 5 .u8:=⟨Tryz.underlying5⟩
instance aco:gV Tryz.prog 22:=⟨⟨_,Tryz.underlying22,rfl⟩,by kernel_rfl⟩
instance acp:fe Tryz.prog 22 48 4:=⟨Tryz.underlying22,by kernel_rfl⟩
instance acq:gV Tryz.prog 23:=⟨⟨_,Tryz.underlying23,rfl⟩,by kernel_rfl⟩
instance acr:fe Tryz.prog 23 94 4:=⟨Tryz.underlying23,by kernel_rfl⟩
instance acs:fY Tryz.prog 25 6:=⟨⟨_,Tryz.underlying25,rfl⟩,by kernel_rfl⟩
instance acu:dJ Tryz.prog 25 0 0:=⟨⟨_,_,0,Tryz.underlying25,rfl,rfl,by kernel_rfl⟩⟩
instance acv:dJ Tryz.prog 25 1 1:=⟨⟨_,_,0,Tryz.underlying25,rfl,rfl,by kernel_rfl⟩⟩
instance acw:dJ Tryz.prog 25 2 2:=⟨⟨_,_,0,Tryz.underlying25,rfl,rfl,by kernel_rfl⟩⟩
instance acx:dJ Tryz.prog 25 3 3:=⟨⟨_,_,0,Tryz.underlying25,rfl,rfl,by kernel_rfl⟩⟩
instance acy:dJ Tryz.prog 25 4 4:=⟨⟨_,_,0,Tryz.underlying25,rfl,rfl,by kernel_rfl⟩⟩
instance acz:dJ Tryz.prog 25 5 5:=⟨⟨_,_,0,Tryz.underlying25,rfl,rfl,by kernel_rfl⟩⟩
instance acA:gV Tryz.prog 26:=⟨⟨_,Tryz.underlying26,rfl⟩,by kernel_rfl⟩
instance acB:fe Tryz.prog 26 3 1:=⟨Tryz.underlying26,by kernel_rfl⟩
instance acC:gV Tryz.prog 27:=⟨⟨_,Tryz.underlying27,rfl⟩,by kernel_rfl⟩
instance acD:lV Tryz.prog 27 .u64:=⟨Tryz.underlying27⟩
instance acE:fY Tryz.prog 29 9:=⟨⟨_,Tryz.underlying29,rfl⟩,by kernel_rfl⟩
instance acF:dJ Tryz.prog 29 0 0:=⟨⟨_,_,5,Tryz.underlying29,rfl,rfl,by kernel_rfl⟩⟩
instance acG:dJ Tryz.prog 29 1 6:=⟨⟨_,_,0,Tryz.underlying29,rfl,rfl,by kernel_rfl⟩⟩
instance acH:dJ Tryz.prog 29 2 7:=⟨⟨_,_,0,Tryz.underlying29,rfl,rfl,by kernel_rfl⟩⟩
instance acI:dJ Tryz.prog 29 3 8:=⟨⟨_,_,0,Tryz.underlying29,rfl,rfl,by kernel_rfl⟩⟩
instance acJ:gV Tryz.prog 38:=⟨⟨_,Tryz.underlying38,rfl⟩,by kernel_rfl⟩
instance acK:fe Tryz.prog 38 5 1:=⟨Tryz.underlying38,by kernel_rfl⟩
instance acL:fe Tryz.prog 43 50 4:=⟨Tryz.underlying43,by kernel_rfl⟩
instance acM:gV Tryz.prog 46:=⟨⟨_,Tryz.underlying46,rfl⟩,by kernel_rfl⟩
instance acN:fe Tryz.prog 46 38 1:=⟨Tryz.underlying46,by kernel_rfl⟩
instance acO:fY Tryz.prog 48 4:=⟨⟨_,Tryz.underlying48,rfl⟩,by kernel_rfl⟩
instance acP:dJ Tryz.prog 48 0 0:=⟨⟨_,_,0,Tryz.underlying48,rfl,rfl,by kernel_rfl⟩⟩
instance acQ:dJ Tryz.prog 48 1 1:=⟨⟨_,_,0,Tryz.underlying48,rfl,rfl,by kernel_rfl⟩⟩
instance acR:dJ Tryz.prog 48 2 2:=⟨⟨_,_,0,Tryz.underlying48,rfl,rfl,by kernel_rfl⟩⟩
instance acS:dJ Tryz.prog 48 3 3:=⟨⟨_,_,0,Tryz.underlying48,rfl,rfl,by kernel_rfl⟩⟩
instance acT:fY Tryz.prog 50 4:=⟨⟨_,Tryz.underlying50,rfl⟩,by kernel_rfl⟩
instance acU:dJ Tryz.prog 50 0 0:=⟨⟨_,_,0,Tryz.underlying50,rfl,rfl,by kernel_rfl⟩⟩
instance acV:dJ Tryz.prog 50 1 1:=⟨⟨_,_,0,Tryz.underlying50,rfl,rfl,by kernel_rfl⟩⟩
instance acW:dJ Tryz.prog 50 2 2:=⟨⟨_,_,0,Tryz.underlying50,rfl,rfl,by kernel_rfl⟩⟩
instance acX:dJ Tryz.prog 50 3 3:=⟨⟨_,_,0,Tryz.underlying50,rfl,rfl,by kernel_rfl⟩⟩
instance acY:gV Tryz.prog 52:=⟨⟨_,Tryz.underlying52,rfl⟩,by kernel_rfl⟩
instance acZ:fe Tryz.prog 52 68 19:=⟨Tryz.underlying52,by kernel_rfl⟩
instance ac0:fY Tryz.prog 54 10:=⟨⟨_,Tryz.underlying54,rfl⟩,by kernel_rfl⟩
instance ac1:dJ Tryz.prog 54 0 0:=⟨⟨_,_,8,Tryz.underlying54,rfl,rfl,by kernel_rfl⟩⟩
instance ac2:dJ Tryz.prog 54 1 9:=⟨⟨_,_,0,Tryz.underlying54,rfl,rfl,by kernel_rfl⟩⟩
instance ac3:fY Tryz.prog 56 16:=⟨⟨_,Tryz.underlying56,rfl⟩,by kernel_rfl⟩
instance ac4:uA Tryz.prog 56 16 1:=⟨⟨_,Tryz.underlying56,by kernel_rfl⟩⟩
instance ac5:fY Tryz.prog 65 18:=⟨⟨_,Tryz.underlying65,rfl⟩,by kernel_rfl⟩
instance ac6:dJ Tryz.prog 65 0 0:=⟨⟨_,_,0,Tryz.underlying65,rfl,rfl,by kernel_rfl⟩⟩
instance ac7:dJ Tryz.prog 65 1 1:=⟨⟨_,_,0,Tryz.underlying65,rfl,rfl,by kernel_rfl⟩⟩
instance ac8:dJ Tryz.prog 65 2 2:=⟨⟨_,_,15,Tryz.underlying65,rfl,rfl,by kernel_rfl⟩⟩
instance ac9:gV Tryz.prog 66:=⟨⟨_,Tryz.underlying66,rfl⟩,by kernel_rfl⟩
instance ada:lV Tryz.prog 66 .u16:=⟨Tryz.underlying66⟩
instance adb:fY Tryz.prog 68 19:=⟨⟨_,Tryz.underlying68,rfl⟩,by kernel_rfl⟩
instance ade:dJ Tryz.prog 68 0 0:=⟨⟨_,_,17,Tryz.underlying68,rfl,rfl,by kernel_rfl⟩⟩
instance adf:dJ Tryz.prog 68 1 18:=⟨⟨_,_,0,Tryz.underlying68,rfl,rfl,by kernel_rfl⟩⟩
instance adg:fe Tryz.prog 74 78 2:=⟨Tryz.underlying74,by kernel_rfl⟩
instance adh:gV Tryz.prog 76:=⟨⟨_,Tryz.underlying76,rfl⟩,by kernel_rfl⟩
instance adi:fe Tryz.prog 76 91 20:=⟨Tryz.underlying76,by kernel_rfl⟩
instance adj:dJ Tryz.prog 78 0 0:=⟨⟨_,_,0,Tryz.underlying78,rfl,rfl,by kernel_rfl⟩⟩
instance adk:dJ Tryz.prog 78 1 1:=⟨⟨_,_,0,Tryz.underlying78,rfl,rfl,by kernel_rfl⟩⟩
instance adl:fY Tryz.prog 91 20:=⟨⟨_,Tryz.underlying91,rfl⟩,by kernel_rfl⟩
instance adm:dJ Tryz.prog 91 0 0:=⟨⟨_,_,18,Tryz.underlying91,rfl,rfl,by kernel_rfl⟩⟩
instance adn:dJ Tryz.prog 91 1 19:=⟨⟨_,_,0,Tryz.underlying91,rfl,rfl,by kernel_rfl⟩⟩
instance ado:fY Tryz.prog 94 4:=⟨⟨_,Tryz.underlying94,rfl⟩,by kernel_rfl⟩
instance adp:dJ Tryz.prog 94 0 0:=⟨⟨_,_,0,Tryz.underlying94,rfl,rfl,by kernel_rfl⟩⟩
instance adq:dJ Tryz.prog 94 1 1:=⟨⟨_,_,0,Tryz.underlying94,rfl,rfl,by kernel_rfl⟩⟩
instance adr:dJ Tryz.prog 94 2 2:=⟨⟨_,_,0,Tryz.underlying94,rfl,rfl,by kernel_rfl⟩⟩
instance ads:dJ Tryz.prog 94 3 3:=⟨⟨_,_,0,Tryz.underlying94,rfl,rfl,by kernel_rfl⟩⟩
instance adt:fY Tryz.prog 102 2:=⟨⟨_,Tryz.underlying102,rfl⟩,by kernel_rfl⟩
instance adu:dJ Tryz.prog 102 0 0:=⟨⟨_,_,0,Tryz.underlying102,rfl,rfl,by kernel_rfl⟩⟩
instance adv:dJ Tryz.prog 102 1 1:=⟨⟨_,_,0,Tryz.underlying102,rfl,rfl,by kernel_rfl⟩⟩
instance adw:fe Tryz.prog 103 102 2:=⟨Tryz.underlying103,by kernel_rfl⟩
instance adx:fY Tryz.prog 110 4:=⟨⟨_,Tryz.underlying110,rfl⟩,by kernel_rfl⟩
instance ady:dJ Tryz.prog 110 0 0:=⟨⟨_,_,0,Tryz.underlying110,rfl,rfl,by kernel_rfl⟩⟩
instance adz:dJ Tryz.prog 110 1 1:=⟨⟨_,_,0,Tryz.underlying110,rfl,rfl,by kernel_rfl⟩⟩
instance adA:dJ Tryz.prog 110 2 2:=⟨⟨_,_,0,Tryz.underlying110,rfl,rfl,by kernel_rfl⟩⟩
instance adB:dJ Tryz.prog 110 3 3:=⟨⟨_,_,0,Tryz.underlying110,rfl,rfl,by kernel_rfl⟩⟩
instance adC:gV Tryz.prog 139:=⟨⟨_,Tryz.underlying139,rfl⟩,by kernel_rfl⟩
instance adD:dJ Tryz.prog 141 0 0:=⟨⟨_,_,8,Tryz.underlying141,rfl,rfl,by kernel_rfl⟩⟩
instance adE:dJ Tryz.prog 141 1 9:=⟨⟨_,_,0,Tryz.underlying141,rfl,rfl,by kernel_rfl⟩⟩
instance adF:fY Tryz.prog 147 2:=⟨⟨_,Tryz.underlying147,rfl⟩,by kernel_rfl⟩
instance adG:dJ Tryz.prog 147 0 0:=⟨⟨_,_,0,Tryz.underlying147,rfl,rfl,by kernel_rfl⟩⟩
instance adH:dJ Tryz.prog 147 1 1:=⟨⟨_,_,0,Tryz.underlying147,rfl,rfl,by kernel_rfl⟩⟩
instance adI:fe Tryz.prog 161 26 1:=⟨Tryz.underlying161,by kernel_rfl⟩
instance adJ:fY Tryz.prog 163 0:=⟨⟨_,Tryz.underlying163,rfl⟩,by kernel_rfl⟩
instance adK:fe Tryz.prog 186 46 1:=⟨Tryz.underlying186,by kernel_rfl⟩
instance adL:lV Tryz.prog 191 .u32:=⟨Tryz.underlying191⟩
instance adM:uA Tryz.prog 197 20 1:=⟨⟨_,Tryz.underlying197,by kernel_rfl⟩⟩
instance adN:lV Tryz.prog 198 .u64:=⟨Tryz.underlying198⟩
instance adO:fY Tryz.prog 234 5:=⟨⟨_,Tryz.underlying234,rfl⟩,by kernel_rfl⟩
instance adP:dJ Tryz.prog 234 0 0:=⟨⟨_,_,3,Tryz.underlying234,rfl,rfl,by kernel_rfl⟩⟩
instance adQ:dJ Tryz.prog 234 1 4:=⟨⟨_,_,0,Tryz.underlying234,rfl,rfl,by kernel_rfl⟩⟩
instance adR:gV Tryz.prog 235:=⟨⟨_,Tryz.underlying235,rfl⟩,by kernel_rfl⟩
instance adS:fe Tryz.prog 238 235 1:=⟨Tryz.underlying238,by kernel_rfl⟩
instance adT:aR Tryz.prog 12:=⟨⟨Tryz.f12,Tryz.func12,by kernel_rfl,by kernel_rfl⟩⟩
instance adU:aR Tryz.prog 19:=⟨⟨Tryz.f19,Tryz.func19,by kernel_rfl,by kernel_rfl⟩⟩
instance adV:aR Tryz.prog 20:=⟨⟨Tryz.f20,Tryz.func20,by kernel_rfl,by kernel_rfl⟩⟩
instance adW:aR Tryz.prog 21:=⟨⟨Tryz.f21,Tryz.func21,by kernel_rfl,by kernel_rfl⟩⟩
instance adX:aR Tryz.prog 24:=⟨⟨Tryz.f24,Tryz.func24,by kernel_rfl,by kernel_rfl⟩⟩
instance adY:aR Tryz.prog 27:=⟨⟨Tryz.f27,Tryz.func27,by kernel_rfl,by kernel_rfl⟩⟩
instance adZ:aR Tryz.prog 28:=⟨⟨Tryz.f28,Tryz.func28,by kernel_rfl,by kernel_rfl⟩⟩
instance ad0:aR Tryz.prog 30:=⟨⟨Tryz.f30,Tryz.func30,by kernel_rfl,by kernel_rfl⟩⟩
instance ad1:aR Tryz.prog 31:=⟨⟨Tryz.f31,Tryz.func31,by kernel_rfl,by kernel_rfl⟩⟩
instance ad3:aR Tryz.prog 32:=⟨⟨Tryz.f32,Tryz.func32,by kernel_rfl,by kernel_rfl⟩⟩
instance ad4:aR Tryz.prog 33:=⟨⟨Tryz.f33,Tryz.func33,by kernel_rfl,by kernel_rfl⟩⟩
instance ad5:aR Tryz.prog 34:=⟨⟨Tryz.f34,Tryz.func34,by kernel_rfl,by kernel_rfl⟩⟩
instance ad6:aR Tryz.prog 35:=⟨⟨Tryz.f35,Tryz.func35,by kernel_rfl,by kernel_rfl⟩⟩
instance ad7:aR Tryz.prog 36:=⟨⟨Tryz.f36,Tryz.func36,by kernel_rfl,by kernel_rfl⟩⟩
instance ad8:aR Tryz.prog 37:=⟨⟨Tryz.f37,Tryz.func37,by kernel_rfl,by kernel_rfl⟩⟩
instance ad9:aR Tryz.prog 39:=⟨⟨Tryz.f39,Tryz.func39,by kernel_rfl,by kernel_rfl⟩⟩
instance aea:aR Tryz.prog 40:=⟨⟨Tryz.f40,Tryz.func40,by kernel_rfl,by kernel_rfl⟩⟩
instance aeb:aR Tryz.prog 41:=⟨⟨Tryz.f41,Tryz.func41,by kernel_rfl,by kernel_rfl⟩⟩
instance aec:aR Tryz.prog 42:=⟨⟨Tryz.f42,Tryz.func42,by kernel_rfl,by kernel_rfl⟩⟩
instance aed:aR Tryz.prog 43:=⟨⟨Tryz.f43,Tryz.func43,by kernel_rfl,by kernel_rfl⟩⟩
instance aee:aR Tryz.prog 44:=⟨⟨Tryz.f44,Tryz.func44,by kernel_rfl,by kernel_rfl⟩⟩
instance aef:aR Tryz.prog 49:=⟨⟨Tryz.f49,Tryz.func49,by kernel_rfl,by kernel_rfl⟩⟩
instance aeg:aR Tryz.prog 51:=⟨⟨Tryz.f51,Tryz.func51,by kernel_rfl,by kernel_rfl⟩⟩
instance aeh:aR Tryz.prog 52:=⟨⟨Tryz.f52,Tryz.func52,by kernel_rfl,by kernel_rfl⟩⟩
instance aei:aR Tryz.prog 53:=⟨⟨Tryz.f53,Tryz.func53,by kernel_rfl,by kernel_rfl⟩⟩
instance aej:aR Tryz.prog 54:=⟨⟨Tryz.f54,Tryz.func54,by kernel_rfl,by kernel_rfl⟩⟩
instance aek:aR Tryz.prog 57:=⟨⟨Tryz.f57,Tryz.func57,by kernel_rfl,by kernel_rfl⟩⟩
instance ael:aR Tryz.prog 58:=⟨⟨Tryz.f58,Tryz.func58,by kernel_rfl,by kernel_rfl⟩⟩
instance aem:aR Tryz.prog 59:=⟨⟨Tryz.f59,Tryz.func59,by kernel_rfl,by kernel_rfl⟩⟩
instance aen:aR Tryz.prog 62:=⟨⟨Tryz.f62,Tryz.func62,by kernel_rfl,by kernel_rfl⟩⟩
instance aeo:aR Tryz.prog 65:=⟨⟨Tryz.f65,Tryz.func65,by kernel_rfl,by kernel_rfl⟩⟩
instance aep:aR Tryz.prog 66:=⟨⟨Tryz.f66,Tryz.func66,by kernel_rfl,by kernel_rfl⟩⟩
instance aeq:aR Tryz.prog 67:=⟨⟨Tryz.f67,Tryz.func67,by kernel_rfl,by kernel_rfl⟩⟩
instance aer:aR Tryz.prog 68:=⟨⟨Tryz.f68,Tryz.func68,by kernel_rfl,by kernel_rfl⟩⟩
instance aes:aR Tryz.prog 69:=⟨⟨Tryz.f69,Tryz.func69,by kernel_rfl,by kernel_rfl⟩⟩
instance aet:aR Tryz.prog 70:=⟨⟨Tryz.f70,Tryz.func70,by kernel_rfl,by kernel_rfl⟩⟩
instance aeu:aR Tryz.prog 71:=⟨⟨Tryz.f71,Tryz.func71,by kernel_rfl,by kernel_rfl⟩⟩
instance aev:aR Tryz.prog 72:=⟨⟨Tryz.f72,Tryz.func72,by kernel_rfl,by kernel_rfl⟩⟩
instance aew:aR Tryz.prog 73:=⟨⟨Tryz.f73,Tryz.func73,by kernel_rfl,by kernel_rfl⟩⟩
instance aex:aR Tryz.prog 74:=⟨⟨Tryz.f74,Tryz.func74,by kernel_rfl,by kernel_rfl⟩⟩
instance aey:aR Tryz.prog 75:=⟨⟨Tryz.f75,Tryz.func75,by kernel_rfl,by kernel_rfl⟩⟩
instance aez:aR Tryz.prog 76:=⟨⟨Tryz.f76,Tryz.func76,by kernel_rfl,by kernel_rfl⟩⟩
instance aeA:aR Tryz.prog 77:=⟨⟨Tryz.f77,Tryz.func77,by kernel_rfl,by kernel_rfl⟩⟩
instance aeB:aR Tryz.prog 78:=⟨⟨Tryz.f78,Tryz.func78,by kernel_rfl,by kernel_rfl⟩⟩
instance aeC:aR Tryz.prog 79:=⟨⟨Tryz.f79,Tryz.func79,by kernel_rfl,by kernel_rfl⟩⟩
instance aeD:aR Tryz.prog 80:=⟨⟨Tryz.f80,Tryz.func80,by kernel_rfl,by kernel_rfl⟩⟩
instance aeE:aR Tryz.prog 81:=⟨⟨Tryz.f81,Tryz.func81,by kernel_rfl,by kernel_rfl⟩⟩
instance aeF:aR Tryz.prog 82:=⟨⟨Tryz.f82,Tryz.func82,by kernel_rfl,by kernel_rfl⟩⟩
instance aeG:aR Tryz.prog 83:=⟨⟨Tryz.f83,Tryz.func83,by kernel_rfl,by kernel_rfl⟩⟩
instance aeH:aR Tryz.prog 84:=⟨⟨Tryz.f84,Tryz.func84,by kernel_rfl,by kernel_rfl⟩⟩
instance aeI:aR Tryz.prog 85:=⟨⟨Tryz.f85,Tryz.func85,by kernel_rfl,by kernel_rfl⟩⟩
instance aeJ:aR Tryz.prog 86:=⟨⟨Tryz.f86,Tryz.func86,by kernel_rfl,by kernel_rfl⟩⟩
instance aeK:aR Tryz.prog 87:=⟨⟨Tryz.f87,Tryz.func87,by kernel_rfl,by kernel_rfl⟩⟩
instance aeL:aR Tryz.prog 88:=⟨⟨Tryz.f88,Tryz.func88,by kernel_rfl,by kernel_rfl⟩⟩
instance aeM:aR Tryz.prog 89:=⟨⟨Tryz.f89,Tryz.func89,by kernel_rfl,by kernel_rfl⟩⟩
instance aeN:aR Tryz.prog 90:=⟨⟨Tryz.f90,Tryz.func90,by kernel_rfl,by kernel_rfl⟩⟩
instance aeO:aR Tryz.prog 91:=⟨⟨Tryz.f91,Tryz.func91,by kernel_rfl,by kernel_rfl⟩⟩
instance aeP:aR Tryz.prog 92:=⟨⟨Tryz.f92,Tryz.func92,by kernel_rfl,by kernel_rfl⟩⟩
instance aeQ:aR Tryz.prog 96:=⟨⟨Tryz.f96,Tryz.func96,by kernel_rfl,by kernel_rfl⟩⟩
instance aeR:aR Tryz.prog 100:=⟨⟨Tryz.f100,Tryz.func100,by kernel_rfl,by kernel_rfl⟩⟩
instance aeS:aR Tryz.prog 101:=⟨⟨Tryz.f101,Tryz.func101,by kernel_rfl,by kernel_rfl⟩⟩
instance aeT:aR Tryz.prog 104:=⟨⟨Tryz.f104,Tryz.func104,by kernel_rfl,by kernel_rfl⟩⟩
instance aeU:aR Tryz.prog 105:=⟨⟨Tryz.f105,Tryz.func105,by kernel_rfl,by kernel_rfl⟩⟩
instance aeV:aR Tryz.prog 107:=⟨⟨Tryz.f107,Tryz.func107,by kernel_rfl,by kernel_rfl⟩⟩
instance aeW:aR Tryz.prog 108:=⟨⟨Tryz.f108,Tryz.func108,by kernel_rfl,by kernel_rfl⟩⟩
instance aeX:aR Tryz.prog 109:=⟨⟨Tryz.f109,Tryz.func109,by kernel_rfl,by kernel_rfl⟩⟩
instance aeY:aR Tryz.prog 110:=⟨⟨Tryz.f110,Tryz.func110,by kernel_rfl,by kernel_rfl⟩⟩
instance aeZ:aR Tryz.prog 111:=⟨⟨Tryz.f111,Tryz.func111,by kernel_rfl,by kernel_rfl⟩⟩
instance ae0:aR Tryz.prog 112:=⟨⟨Tryz.f112,Tryz.func112,by kernel_rfl,by kernel_rfl⟩⟩
instance ae1:aR Tryz.prog 113:=⟨⟨Tryz.f113,Tryz.func113,by kernel_rfl,by kernel_rfl⟩⟩
instance ae2:aR Tryz.prog 114:=⟨⟨Tryz.f114,Tryz.func114,by kernel_rfl,by kernel_rfl⟩⟩
instance ae3:aR Tryz.prog 115:=⟨⟨Tryz.f115,Tryz.func115,by kernel_rfl,by kernel_rfl⟩⟩
instance ae4:aR Tryz.prog 116:=⟨⟨Tryz.f116,Tryz.func116,by kernel_rfl,by kernel_rfl⟩⟩
instance ae5:aR Tryz.prog 117:=⟨⟨Tryz.f117,Tryz.func117,by kernel_rfl,by kernel_rfl⟩⟩
instance ae6:aR Tryz.prog 118:=⟨⟨Tryz.f118,Tryz.func118,by kernel_rfl,by kernel_rfl⟩⟩
instance ae7:aR Tryz.prog 119:=⟨⟨Tryz.f119,Tryz.func119,by kernel_rfl,by kernel_rfl⟩⟩
instance ae8:aR Tryz.prog 120:=⟨⟨Tryz.f120,Tryz.func120,by kernel_rfl,by kernel_rfl⟩⟩
instance ae9:aR Tryz.prog 121:=⟨⟨Tryz.f121,Tryz.func121,by kernel_rfl,by kernel_rfl⟩⟩
instance afa:aR Tryz.prog 122:=⟨⟨Tryz.f122,Tryz.func122,by kernel_rfl,by kernel_rfl⟩⟩
instance afb:aR Tryz.prog 123:=⟨⟨Tryz.f123,Tryz.func123,by kernel_rfl,by kernel_rfl⟩⟩
instance afc:aR Tryz.prog 124:=⟨⟨Tryz.f124,Tryz.func124,by kernel_rfl,by kernel_rfl⟩⟩
instance afd:aR Tryz.prog 125:=⟨⟨Tryz.f125,Tryz.func125,by kernel_rfl,by kernel_rfl⟩⟩
instance afe:aR Tryz.prog 126:=⟨⟨Tryz.f126,Tryz.func126,by kernel_rfl,by kernel_rfl⟩⟩
instance aff:aR Tryz.prog 127:=⟨⟨Tryz.f127,Tryz.func127,by kernel_rfl,by kernel_rfl⟩⟩
instance afg:aR Tryz.prog 128:=⟨⟨Tryz.f128,Tryz.func128,by kernel_rfl,by kernel_rfl⟩⟩
instance afh:aR Tryz.prog 129:=⟨⟨Tryz.f129,Tryz.func129,by kernel_rfl,by kernel_rfl⟩⟩
instance afi:aR Tryz.prog 130:=⟨⟨Tryz.f130,Tryz.func130,by kernel_rfl,by kernel_rfl⟩⟩
instance afj:aR Tryz.prog 131:=⟨⟨Tryz.f131,Tryz.func131,by kernel_rfl,by kernel_rfl⟩⟩
instance afk:aR Tryz.prog 132:=⟨⟨Tryz.f132,Tryz.func132,by kernel_rfl,by kernel_rfl⟩⟩
instance afl:aR Tryz.prog 134:=⟨⟨Tryz.f134,Tryz.func134,by kernel_rfl,by kernel_rfl⟩⟩
instance afm:aR Tryz.prog 135:=⟨⟨Tryz.f135,Tryz.func135,by kernel_rfl,by kernel_rfl⟩⟩
instance afn:aR Tryz.prog 136:=⟨⟨Tryz.f136,Tryz.func136,by kernel_rfl,by kernel_rfl⟩⟩
instance afo:aR Tryz.prog 137:=⟨⟨Tryz.f137,Tryz.func137,by kernel_rfl,by kernel_rfl⟩⟩
instance afp:aR Tryz.prog 139:=⟨⟨Tryz.f139,Tryz.func139,by kernel_rfl,by kernel_rfl⟩⟩
instance afq:aR Tryz.prog 144:=⟨⟨Tryz.f144,Tryz.func144,by kernel_rfl,by kernel_rfl⟩⟩
instance afr:aR Tryz.prog 145:=⟨⟨Tryz.f145,Tryz.func145,by kernel_rfl,by kernel_rfl⟩⟩
instance afs:aR Tryz.prog 146:=⟨⟨Tryz.f146,Tryz.func146,by kernel_rfl,by kernel_rfl⟩⟩
instance aft:aR Tryz.prog 147:=⟨⟨Tryz.f147,Tryz.func147,by kernel_rfl,by kernel_rfl⟩⟩
instance afu:aR Tryz.prog 148:=⟨⟨Tryz.f148,Tryz.func148,by kernel_rfl,by kernel_rfl⟩⟩
instance afv:aR Tryz.prog 149:=⟨⟨Tryz.f149,Tryz.func149,by kernel_rfl,by kernel_rfl⟩⟩
instance afw:aR Tryz.prog 150:=⟨⟨Tryz.f150,Tryz.func150,by kernel_rfl,by kernel_rfl⟩⟩
instance afx:aR Tryz.prog 151:=⟨⟨Tryz.f151,Tryz.func151,by kernel_rfl,by kernel_rfl⟩⟩
instance afy:aR Tryz.prog 152:=⟨⟨Tryz.f152,Tryz.func152,by kernel_rfl,by kernel_rfl⟩⟩
instance afz:aR Tryz.prog 153:=⟨⟨Tryz.f153,Tryz.func153,by kernel_rfl,by kernel_rfl⟩⟩
instance afA:aR Tryz.prog 154:=⟨⟨Tryz.f154,Tryz.func154,by kernel_rfl,by kernel_rfl⟩⟩
instance afB:aR Tryz.prog 155:=⟨⟨Tryz.f155,Tryz.func155,by kernel_rfl,by kernel_rfl⟩⟩
instance afC:aR Tryz.prog 159:=⟨⟨Tryz.f159,Tryz.func159,by kernel_rfl,by kernel_rfl⟩⟩
instance afD:aR Tryz.prog 160:=⟨⟨Tryz.f160,Tryz.func160,by kernel_rfl,by kernel_rfl⟩⟩
instance afE:aR Tryz.prog 161:=⟨⟨Tryz.f161,Tryz.func161,by kernel_rfl,by kernel_rfl⟩⟩
instance afF:aR Tryz.prog 162:=⟨⟨Tryz.f162,Tryz.func162,by kernel_rfl,by kernel_rfl⟩⟩
instance afG:aR Tryz.prog 163:=⟨⟨Tryz.f163,Tryz.func163,by kernel_rfl,by kernel_rfl⟩⟩
instance afH:aR Tryz.prog 164:=⟨⟨Tryz.f164,Tryz.func164,by kernel_rfl,by kernel_rfl⟩⟩
instance afI:aR Tryz.prog 165:=⟨⟨Tryz.f165,Tryz.func165,by kernel_rfl,by kernel_rfl⟩⟩
instance afJ:aR Tryz.prog 166:=⟨⟨Tryz.f166,Tryz.func166,by kernel_rfl,by kernel_rfl⟩⟩
instance afK:aR Tryz.prog 167:=⟨⟨Tryz.f167,Tryz.func167,by kernel_rfl,by kernel_rfl⟩⟩
instance afL:aR Tryz.prog 168:=⟨⟨Tryz.f168,Tryz.func168,by kernel_rfl,by kernel_rfl⟩⟩
instance afM:aR Tryz.prog 169:=⟨⟨Tryz.f169,Tryz.func169,by kernel_rfl,by kernel_rfl⟩⟩
instance afN:aR Tryz.prog 170:=⟨⟨Tryz.f170,Tryz.func170,by kernel_rfl,by kernel_rfl⟩⟩
instance afO:aR Tryz.prog 171:=⟨⟨Tryz.f171,Tryz.func171,by kernel_rfl,by kernel_rfl⟩⟩
instance afP:aR Tryz.prog 172:=⟨⟨Tryz.f172,Tryz.func172,by kernel_rfl,by kernel_rfl⟩⟩
instance afQ:aR Tryz.prog 173:=⟨⟨Tryz.f173,Tryz.func173,by kernel_rfl,by kernel_rfl⟩⟩
instance afR:aR Tryz.prog 174:=⟨⟨Tryz.f174,Tryz.func174,by kernel_rfl,by kernel_rfl⟩⟩
instance afS:aR Tryz.prog 175:=⟨⟨Tryz.f175,Tryz.func175,by kernel_rfl,by kernel_rfl⟩⟩
instance afT:aR Tryz.prog 176:=⟨⟨Tryz.f176,Tryz.func176,by kernel_rfl,by kernel_rfl⟩⟩
instance afU:aR Tryz.prog 178:=⟨⟨Tryz.f178,Tryz.func178,by kernel_rfl,by kernel_rfl⟩⟩
instance afV:aR Tryz.prog 179:=⟨⟨Tryz.f179,Tryz.func179,by kernel_rfl,by kernel_rfl⟩⟩
instance afW:aR Tryz.prog 180:=⟨⟨Tryz.f180,Tryz.func180,by kernel_rfl,by kernel_rfl⟩⟩
instance afX:aR Tryz.prog 181:=⟨⟨Tryz.f181,Tryz.func181,by kernel_rfl,by kernel_rfl⟩⟩
instance afY:aR Tryz.prog 182:=⟨⟨Tryz.f182,Tryz.func182,by kernel_rfl,by kernel_rfl⟩⟩
instance afZ:aR Tryz.prog 183:=⟨⟨Tryz.f183,Tryz.func183,by kernel_rfl,by kernel_rfl⟩⟩
instance af1:aR Tryz.prog 184:=⟨⟨Tryz.f184,Tryz.func184,by kernel_rfl,by kernel_rfl⟩⟩
instance af2:aR Tryz.prog 185:=⟨⟨Tryz.f185,Tryz.func185,by kernel_rfl,by kernel_rfl⟩⟩
instance af3:aR Tryz.prog 186:=⟨⟨Tryz.f186,Tryz.func186,by kernel_rfl,by kernel_rfl⟩⟩
instance af4:aR Tryz.prog 187:=⟨⟨Tryz.f187,Tryz.func187,by kernel_rfl,by kernel_rfl⟩⟩
instance af5:aR Tryz.prog 188:=⟨⟨Tryz.f188,Tryz.func188,by kernel_rfl,by kernel_rfl⟩⟩
instance af6:aR Tryz.prog 189:=⟨⟨Tryz.f189,Tryz.func189,by kernel_rfl,by kernel_rfl⟩⟩
instance af7:aR Tryz.prog 190:=⟨⟨Tryz.f190,Tryz.func190,by kernel_rfl,by kernel_rfl⟩⟩
instance af8:aR Tryz.prog 191:=⟨⟨Tryz.f191,Tryz.func191,by kernel_rfl,by kernel_rfl⟩⟩
instance af9:aR Tryz.prog 192:=⟨⟨Tryz.f192,Tryz.func192,by kernel_rfl,by kernel_rfl⟩⟩
instance aga:aR Tryz.prog 193:=⟨⟨Tryz.f193,Tryz.func193,by kernel_rfl,by kernel_rfl⟩⟩
instance agb:aR Tryz.prog 194:=⟨⟨Tryz.f194,Tryz.func194,by kernel_rfl,by kernel_rfl⟩⟩
instance agc:aR Tryz.prog 195:=⟨⟨Tryz.f195,Tryz.func195,by kernel_rfl,by kernel_rfl⟩⟩
instance agd:aR Tryz.prog 196:=⟨⟨Tryz.f196,Tryz.func196,by kernel_rfl,by kernel_rfl⟩⟩
instance age:aR Tryz.prog 197:=⟨⟨Tryz.f197,Tryz.func197,by kernel_rfl,by kernel_rfl⟩⟩
instance agf:aR Tryz.prog 198:=⟨⟨Tryz.f198,Tryz.func198,by kernel_rfl,by kernel_rfl⟩⟩
end Go.Proofs.YtaipiecplldinaaGreat
namespace Go.ay
def si:Nat→Value→Value→Prop
 |0, .int k _, .int k' _=>k=k'
 |1, .bool _, .bool _=>True
 |2, .string _, .string _=>True
 |_,_,_=>False
def oH:Value→Bool
 | .agg _=>true
 |_=>false
def xq(P:Program)(d:Nat)(t:TypeId)(jH:Bool)(ks:List Nat):Prop:=
 ∀(w:World) (x y:Value),oH x=jH→oH y=jH→x.cells.size=ks.length→y.cells.size=ks.length→
  (∀(i k:Nat),ks[i]? =some k→ ∃u v,x.cells[i]? =some u∧y.cells[i]? =some v∧si k u v)→
  ∃r:Bool,(Op.equalIn d t x y).run P w= .ok r w∧(r=true↔ ∀i,i<ks.length→x.cells[i]? =y.cells[i]?)
section
variable {P:Program} {d:Nat} {t:TypeId}
theorem cells_one{x:Value}(h:oH x=false):x.cells= #[x]:=by
 cases x<;>simp_all[oH,Value.cells]
theorem F4{q:IntKind}(hu:P.underlying t=some (.int q)):xq P (d+1) t false [0]:=fun w x y hx hy _ _ hk=>by
 obtain⟨u,v,h1,h2,h3⟩:=hk 0 0 rfl
 rw[cells_one hx]at h1⊢
 rw[cells_one hy]at h2⊢
 simp at h1 h2
 subst h1 h2
 cases x<;>cases y<;>simp only[si]at h3
 subst h3
 exact⟨_,run_equalIn_int w d t _ q _ _ hu,by simp⟩
theorem LW{e:TypeId}{jH:Bool}{n:Nat}(hA: ∃de,P.underlying e=some de∧sU de=jH)(hn:(P.info? e).map (·.size)=some n)(h1:jH=false→n=1)
  {xs:Array Value} {off:Nat} (bx:off+n≤xs.size) (hp: ∀i u,off≤i→i<off+n→xs[i]? =some u→oH u=false) (w:World):
  ∃a,(part e xs off).run P w= .ok a w∧oH a=jH∧a.cells.size=n∧ ∀i,i<n→a.cells[i]? =xs[off+i]? :=by
 obtain⟨de,hu,hr⟩:=hA
 cases jH with
 |true=>
  refine⟨.agg (xs.extract off (off+n)),?_,rfl,by simp[Value.cells];omega,fun i hi=> ?_⟩
  ·
   simp only[part,Sem.run_bind,AO w hu,hr,Result.andThen_ok,if_true,kK w hn,Sem.run_pure]
  ·
   simp[Value.cells,Array.getElem?_extract]
   intro h;omega
 |false=>
  have:=h1 rfl
  subst this
  have hx:xs[off]? =some xs[off]:=by simp[show off<xs.size by omega]
  have F5:=hp off _ (Nat.le_refl _) (by omega) hx
  refine⟨xs[off],?_,F5,by rw[cells_one F5];rfl,fun i hi=> ?_⟩
  ·
   simp only[part,Sem.run_bind,AO w hu,hr,Result.andThen_ok,hx,Bool.false_eq_true,if_false,Sem.run_pure]
  ·
   obtain rfl:i=0:=by omega
   rw[cells_one F5,Nat.add_zero,hx];rfl
theorem LX{k:Nat}{u v:Value}(h:si k u v):oH u=false∧oH v=false:=by
 unfold si at h
 split at h<;>simp_all[oH]
structure rr(P:Program)(d:Nat)(e:TypeId)(jH:Bool)(ks:List Nat):Prop where
 row: ∃de,P.underlying e=some de∧sU de=jH
 size:(P.info? e).map (·.size)=some ks.length
 one:jH=false→ks.length=1
 eq:xq P d e jH ks
theorem LY{e:TypeId}{jH:Bool}{ks:List Nat}(he:rr P d e jH ks){xs ys:Array Value}{off:Nat}(hx:off+ks.length≤xs.size)(hy:off+ks.length≤ys.size)
  (hk: ∀(i k:Nat),ks[i]? =some k→ ∃u v,xs[off+i]? =some u∧ys[off+i]? =some v∧si k u v) (w:World):
  ∃a b r,(part e xs off).run P w= .ok a w∧(part e ys off).run P w= .ok b w∧(Op.equalIn d e a b).run P w= .ok r w∧(r=true↔ ∀i,i<ks.length→xs[off+i]? =ys[off+i]?):=by
 have plain: ∀i,off≤i→i<off+ks.length→ ∃u v k,xs[i]? =some u∧ys[i]? =some v∧si k u v:=fun i h1 h2=>by
  obtain⟨u,v,h3,h4,h5⟩:=hk (i -off) _ (List.getElem?_eq_getElem (by omega))
  rw[show off+(i -off)=i by omega]at h3 h4
  exact⟨u,v,_,h3,h4,h5⟩
 obtain⟨a,a1,a2,a3,a4⟩:=LW he.row he.size he.one hx (fun i u h1 h2 h3=>by
  obtain⟨u',v,k,h4,h5,h6⟩:=plain i h1 h2
  rw[h4]at h3;cases h3;exact(LX h6).1) w
 obtain⟨b,b1,b2,b3,b4⟩:=LW he.row he.size he.one hy (fun i u h1 h2 h3=>by
  obtain⟨u',v,k,h4,h5,h6⟩:=plain i h1 h2
  rw[h5]at h3;cases h3;exact(LX h6).2) w
 obtain⟨r,r1,r2⟩:=he.eq w a b a2 b2 a3 b3 (fun i k nx=>by
  obtain⟨u,v,h1,h2,h3⟩:=hk i k nx
  have hi:i<ks.length:=(List.getElem?_eq_some_iff.1 nx).1
  exact⟨u,v,by rw[a4 i hi];exact h1,by rw[b4 i hi];exact h2,h3⟩)
 refine⟨a,b,r,a1,b1,r1,r2.trans ⟨fun h i hi=> ?_,fun h i hi=> ?_⟩⟩
 ·
  rw[←a4 i hi,←b4 i hi];exact h i hi
 ·
  rw[a4 i hi,b4 i hi];exact h i hi
theorem LZ{e:TypeId}{jH:Bool}{ks:List Nat}(he:rr P d e jH ks){xs ys:Array Value}(w:World): ∀(is:List Nat),
  (∀j∈is,j*ks.length+ks.length≤xs.size∧j*ks.length+ks.length≤ys.size∧ ∀(i k:Nat),ks[i]? =some k→ ∃u v,xs[j*ks.length+i]? =some u∧ys[j*ks.length+i]? =some v∧si k u v)→
  ∃r:Bool,(Op.eqItems d e ks.length xs ys is).run P w= .ok r w∧(r=true↔ ∀j∈is,∀i,i<ks.length→xs[j*ks.length+i]? =ys[j*ks.length+i]?)
 |[],_=>⟨true,by simp[Op.eqItems],by simp⟩
 |j::is,h=>by
  obtain⟨h1,h2,h3⟩:=h j (by simp)
  obtain⟨a,b,r,p1,p2,p3,sj⟩:=LY he h1 h2 h3 w
  obtain⟨r',vu,F6⟩:=LZ he w is (fun j' jt=>h j' (by simp[jt]))
  simp only[Op.eqItems,Sem.run_bind,p1,p2,p3,Result.andThen_ok]
  cases r
  ·
   refine⟨false,by simp,?_⟩
   simp only[Bool.false_eq_true,false_iff]
   intro e
   exact absurd (sj.2 (e j (by simp))) (by simp)
  ·
   refine⟨r',by simpa using vu,?_⟩
   rw[F6]
   have:=sj.1 rfl
   constructor
   ·
    intro e j' jt
    rcases List.mem_cons.1 jt with rfl|jt
    ·
     exact this
    ·
     exact e j' jt
   ·
    intro e j' jt;exact e j' (by simp[jt])
theorem wS{ks:List Nat}: ∀{n j i:Nat},j<n→i<ks.length→(List.replicate n ks).flatten[j*ks.length+i]? =ks[i]?
 |0,j,i,h,_=>by omega
 |n+1,0,i,_,hi=>by
  rw[List.replicate_succ,List.flatten_cons,Nat.zero_mul,Nat.zero_add,List.getElem?_append_left hi]
 |n+1,j+1,i,h,hi=>by
  rw[List.replicate_succ,List.flatten_cons,List.getElem?_append_right (by rw[Nat.add_mul];omega),Nat.add_mul,show j*ks.length+1*ks.length+i -ks.length=j*ks.length+i by omega]
  exact wS (by omega) hi
theorem Uc{e:TypeId}{n:Nat}{jH:Bool}{ks:List Nat}(hu:P.underlying t=some (.array n e))(he:rr P d e jH ks):xq P (d+1) t true (List.replicate n ks).flatten:=fun w x y hx hy sx sy hk=>by
 cases x<;>simp only[oH,Bool.false_eq_true]at hx
 cases y<;>simp only[oH,Bool.false_eq_true]at hy
 rename_i xs ys
 simp only[Value.cells]at sx sy hk⊢
 have hl:(List.replicate n ks).flatten.length=n*ks.length:=by simp
 rw[hl]at sx sy⊢
 obtain⟨i,hi⟩: ∃i,P.info? e=some i:=by
  cases h:P.info? e with
  |none=>have:=he.size;simp[h]at this
  |some i=>exact⟨i,rfl⟩
 have hc:P.cellsOf e=ks.length:=by have:=he.size;simp[Program.cellsOf,hi]at this⊢;exact this
 have bound: ∀j,j<n→j*ks.length+ks.length≤n*ks.length:=fun j hj=>by
  rw[←Nat.succ_mul];exact Nat.mul_le_mul_right _ hj
 obtain⟨r,hr,sj⟩:=LZ he (xs:=xs) (ys:=ys) w (List.range n) (fun j hj=>by
  have jt:=List.mem_range.1 hj
  have:=bound j jt
  refine⟨by omega,by omega,fun i k nx=> ?_⟩
  have fC:i<ks.length:=(List.getElem?_eq_some_iff.1 nx).1
  exact hk (j*ks.length+i) k (by rw[wS jt fC];exact nx))
 refine⟨r,by rw[run_equalIn_array w d xs ys hu hi,hc];exact hr,sj.trans ⟨fun h q hq=> ?_,fun h j hj i hi=> ?_⟩⟩
 ·
  have w9:0<ks.length:=by
   rcases Nat.eq_zero_or_pos ks.length with h0|h0
   ·
    rw[h0]at hq;omega
   ·
    exact h0
  have h1:q/ks.length<n:=Nat.div_lt_of_lt_mul (by rw[Nat.mul_comm];exact hq)
  have h2:=h (q/ks.length) (List.mem_range.2 h1) (q%ks.length) (Nat.mod_lt _ w9)
  rw[Nat.div_add_mod']at h2
  exact h2
 ·
  have:=bound j (List.mem_range.1 hj)
  exact h _ (by omega)
def Cn(P:Program)(d:Nat):Nat→List Field→List Nat→Prop
 |_,[],ks=>ks=[]
 |off,f::fs,ks=>f.name≠ "_" ∧f.offset=off∧ ∃jH k1 k2,ks=k1++k2∧rr P d f.type jH k1∧Cn P d (off+k1.length) fs k2
theorem L3{xs ys:Array Value}(w:World): ∀(fs:List Field) (off:Nat) (ks:List Nat),Cn P d off fs ks→off+ks.length≤xs.size→off+ks.length≤ys.size→
  (∀(i k:Nat),ks[i]? =some k→ ∃u v,xs[off+i]? =some u∧ys[off+i]? =some v∧si k u v)→
  ∃r:Bool,(Op.eqFields d xs ys fs).run P w= .ok r w∧(r=true↔ ∀i,i<ks.length→xs[off+i]? =ys[off+i]?)
 |[],off,ks,h,_,_,_=>by
  simp only[Cn]at h
  subst h
  exact⟨true,by simp[Op.eqFields],by simp⟩
 |f::fs,off,ks,h,hx,hy,hk=>by
  obtain⟨hn,ho,jH,k1,k2,rfl,hp,Bj⟩:=h
  simp only[List.length_append]at hx hy
  obtain⟨a,b,r,p1,p2,p3,sj⟩:=LY hp (xs:=xs) (ys:=ys) (off:=off) (by omega) (by omega) (fun i k nx=>by
   have hi:i<k1.length:=(List.getElem?_eq_some_iff.1 nx).1
   exact hk i k (by rw[List.getElem?_append_left hi];exact nx)) w
  obtain⟨r',vu,F6⟩:=L3 (xs:=xs) (ys:=ys) w fs (off+k1.length) k2 Bj (by omega) (by omega) (fun i k nx=>by
   have:=hk (k1.length+i) k (by rw[List.getElem?_append_right (by omega)];simpa using nx)
   rw[Nat.add_assoc];exact this)
  subst ho
  simp only[Op.eqFields,hn,ne_eq,not_false_eq_true,if_true,Sem.run_bind,p1,p2,p3,Result.andThen_ok]
  cases r
  ·
   refine⟨false,by simp,?_⟩
   simp only[Bool.false_eq_true,false_iff]
   intro e
   exact absurd (sj.2 fun i hi=>e i (by simp;omega)) (by simp)
  ·
   refine⟨r',by simpa using vu,?_⟩
   rw[F6]
   have:=sj.1 rfl
   simp only[List.length_append]
   constructor
   ·
    intro e i hi
    by_cases h1:i<k1.length
    ·
     exact this i h1
    ·
     have:=e (i -k1.length) (by omega)
     rw[show f.offset+k1.length+(i -k1.length)=f.offset+i by omega]at this
     exact this
   ·
    intro e i hi
    have:=e (k1.length+i) (by omega)
    rw[Nat.add_assoc];exact this
theorem L4{fs:Array Field}{ks:List Nat}(hu:P.underlying t=some (.struct fs))(hp:P.stoodInHeld t=false)(hf:Cn P d 0 fs.toList ks):xq P (d+1) t true ks:=fun w x y hx hy sx sy hk=>by
 cases x<;>simp only[oH,Bool.false_eq_true]at hx
 cases y<;>simp only[oH,Bool.false_eq_true]at hy
 rename_i xs ys
 simp only[Value.cells]at sx sy hk⊢
 have jj:P.fieldsOf t=fs:=by simp[Program.fieldsOf,hu]
 obtain⟨r,hr,sj⟩:=L3 (xs:=xs) (ys:=ys) w fs.toList 0 ks hf (by omega) (by omega) (fun i k nx=>by
  have:=hk i k nx
  simpa using this)
 refine⟨r,?_,by simpa using sj⟩
 rw[run_equalIn_struct w d t xs ys (by rw[jj];exact hu) hp,jj]
 exact hr
theorem xq.val{jH:Bool}{ks:List Nat}(h:xq P 10000 t jH ks)(hA:jH=true)(hg:P.eqGuardType P.depth t=false){xs ys:Array Value}{r:Bool}(sx:xs.size=ks.length)(sy:ys.size=ks.length)
  (hk: ∀(i k:Nat),ks[i]? =some k→ ∃u v,xs[i]? =some u∧ys[i]? =some v∧si k u v) (hr:xs=ys↔r=true):wb P t (.agg xs) (.agg ys) r where
 h w:=by
  subst hA
  obtain⟨q,h1,h2⟩:=h w (.agg xs) (.agg ys) rfl rfl sx sy hk
  have:q=r:=by
   rw[Bool.eq_iff_iff,h2,←hr]
   simp only[Value.cells]
   constructor
   ·
    intro e
    apply Array.ext_getElem?
    intro i
    by_cases hi:i<ks.length
    ·
     exact e i hi
    ·
     simp[show ¬i<xs.size by omega,show ¬i<ys.size by omega]
   ·
    rintro rfl i _;rfl
  rw[h1,this]
 plain:=hg
 agg:=⟨xs,ys,rfl,rfl⟩
end
end Go.ay
namespace Go.Proofs.YtaipiecplldinaaGreat
open Go.ay Go.Kb
instance (k:Key):gq (cn k) 16:=⟨gP k,by
 rw[Array.all_eq_true_iff_forall_mem];intro v hv
 simp only[cn,List.mem_toArray,List.mem_map]at hv
 obtain⟨i,_,rfl⟩:=hv;rfl⟩
instance (p:cU):gq (c5 p) 18:=⟨od p,by
 have h:(cn p.key).all (·.oneCell')=true:=(inferInstance:gq (cn p.key) 16).one
 rw[c5,Array.all_append,h];simp[Value.oneCell']⟩
instance (p:cU):cm (c5 p) 0 (.int .i64 p.bits):=⟨uS p⟩
instance (p:cU):cm (c5 p) 1 (.int .i64 p.len):=⟨uT p⟩
instance (p:cU):n0 (c5 p) 2 16 (cn p.key):=⟨gP _,fun j _=>pZ p j⟩
theorem Ud(d:Nat):rr Tryz.prog (d+1) 5 false [0]:=⟨⟨_,Tryz.underlying5,rfl⟩,by kernel_rfl,fun _=>rfl,F4 Tryz.underlying5⟩
theorem L5(d:Nat):rr Tryz.prog (d+1) 3 false [0]:=⟨⟨_,Tryz.underlying3,rfl⟩,by kernel_rfl,fun _=>rfl,F4 Tryz.underlying3⟩
theorem L6(d:Nat):rr Tryz.prog (d+1+1) 56 true (List.replicate 16 [0]).flatten:=⟨⟨_,Tryz.underlying56,rfl⟩,by kernel_rfl,(fun h=>by cases h),Uc Tryz.underlying56 (Ud d)⟩
theorem Ue:Tryz.prog.stoodInHeld 65=false:=by kernel_rfl
theorem L7(d:Nat):rr Tryz.prog (d+1+1+1) 65 true ([0]++([0]++((List.replicate 16 [0]).flatten++[]))):=⟨⟨_,Tryz.underlying65,rfl⟩,by kernel_rfl,(fun h=>by cases h),
 L4 Tryz.underlying65 Ue ⟨by decide,rfl,_,_,_,rfl,L5 _,by decide,rfl,_,_,_,rfl,L5 _,by decide,rfl,_,_,_,rfl,L6 _,rfl⟩⟩
theorem Uf:Tryz.prog.eqGuardType Tryz.prog.depth 56=false:=by kernel_rfl
theorem Ug:Tryz.prog.eqGuardType Tryz.prog.depth 65=false:=by kernel_rfl
instance (a b:Key):wb Tryz.prog 56 (.agg (cn a)) (.agg (cn b)) (decide (a=b)):=
 (L6 9998).eq.val rfl Uf (gP a) (gP b) (fun i k hk=>by
  have hi:i<16:=(List.getElem?_eq_some_iff.1 hk).1
  have h0:k=0:=by
   have:k∈(List.replicate 16 [0]).flatten:=List.mem_of_getElem? hk
   simpa using this
  subst h0
  exact⟨_,_,lH a i hi,lH b i hi,rfl⟩) (by rw[decide_eq_true_iff];exact⟨Jn,fun h=>by rw[h]⟩)
instance (a b:cU):wb Tryz.prog 65 (.agg (c5 a)) (.agg (c5 b)) (decide (a=b)):=
 (L7 9997).eq.val rfl Ug (od a) (od b) (fun i k hk=>by
  have h0:k=0:=by
   have:k∈([0]++([0]++((List.replicate 16 [0]).flatten++[]))):=List.mem_of_getElem? hk
   simpa using this
  subst h0
  have hi:i<18:=(List.getElem?_eq_some_iff.1 hk).1
  match i,hi with
  |0,_=>exact⟨_,_,uS a,uS b,rfl⟩
  |1,_=>exact⟨_,_,uT a,uT b,rfl⟩
  |j+2,hi=>rw[Nat.add_comm j 2];exact⟨_,_,(pZ a j).trans (lH _ j (by omega)),(pZ b j).trans (lH _ j (by omega)),rfl⟩) (by rw[decide_eq_true_iff];exact⟨Jp,fun h=>by rw[h]⟩)
theorem zw:cn 0#128=(List.replicate 16 (Value.int .u8 0)).toArray:=by
 apply Array.ext'
 simp only[cn]
 refine List.eq_replicate_iff.2 ⟨by simp,fun v hv=> ?_⟩
 simp only[List.mem_map]at hv
 obtain⟨i,_,rfl⟩:=hv
 simp[cK]
instance (n m:Int)(k:Key):yA Tryz.prog 65 [(0, .int .i64 n),(1, .int .i64 m),(2, .agg (cn k))] (.agg (c5 ⟨n,m,k⟩)):=⟨fun w=>by kernel_rfl⟩
instance:fo Tryz.prog 56 (.agg (cn 0#128)):=⟨by rw[zw];kernel_rfl⟩
instance:fo Tryz.prog 65 (.agg (c5 ⟨0,0,0#128⟩)):=⟨by unfold c5;rw[zw];kernel_rfl⟩
open Go.ay Go.Kb
theorem Uh(n:Int):oV Tryz.prog 116 [.int .i64 n] (.bool (decide (n=32)||decide (n=128))):=⟨fun w=>by
 refine bh (args:=[_]) Tryz.func116 rfl Tryz.ntmps116 rfl ?_
 change Cw _ _ _ _ _ [(0, .int .i64 n)] []
 refine aO ?_
 refine ba ?_
 refine ah (bn rfl) ?_
 refine aY ?_
 refine aN ?_
 refine aO ?_
 refine ba ?_
 refine ah (aE rfl) ?_
 refine ah (cz rfl rfl rfl) ?_
 refine ah (aE rfl) ?_
 refine bS rfl rfl rfl (fun hg=>(aE rfl).yl) ?_
 refine bS rfl rfl rfl (fun hg=>(cz (aG hg rfl) rfl rfl).yl) ?_
 refine ah (lU rfl rfl rfl) ?_
 refine ah (bn rfl) ?_
 refine aY ?_
 refine aN ?_
 refine eF ?_
 refine au (.inl rfl) (ku rfl rfl) (fun w hw=> ?_)
 exact⟨rfl,hw.sub (List.nil_sublist _)⟩⟩
instance agh(n:Int):oV Tryz.prog 116 [.int .i64 n] (.bool (decide (n=32)||decide (n=128))):=Uh n
theorem Ui(k:Key)(h:Nat)(hh:h≤16):cT (cn 0#128) 0 ((cn k).extract 0 h)=cn (ib k ((8*h:Nat):Int)):=by
 refine Jm (by simp[cT,gP];omega) fun i hi=> ?_
 have hl:((cn k).extract 0 h).size=h:=by simp[gP];omega
 rw[Es k (8*h) i hi]
 simp only[cT,hl,List.take_zero,List.nil_append,Nat.zero_add,List.getElem?_toArray]
 by_cases h1:i<h
 ·
  rw[List.getElem?_append_left (by simp[gP];omega),if_pos (by omega)]
  have:=lH k i hi
  simpa[h1]using this
 ·
  rw[List.getElem?_append_right (by simp[gP];omega),if_neg (by omega)]
  have h2:(cn 0#128)[i]? =some (.int .u8 ((0:Nat):Int)):=by rw[lH _ i hi];simp[cK]
  simp only[Array.length_toList,hl,List.getElem?_drop,show h+(i -h)=i by omega]
  rw[Array.getElem?_toList,h2]
  by_cases h3:8*i≤8*h
  ·
   rw[if_pos h3,show 8 -(8*h -8*i)=8 by omega,Nat.div_eq_of_lt (ob k i),Nat.zero_mul]
  ·
   rw[if_neg h3]
theorem Uj(b r:Nat)(hb:b<256)(hr:r≤8):k9 .andNot .u8 b ((255/2^r:Nat):Int)=some (.int .u8 ((b/2^(8 -r)*2^(8 -r):Nat):Int)):=by
 have hm:255/2^r<256:=Nat.lt_of_le_of_lt (Nat.div_le_self _ _) (by omega)
 rw[Qh hb hm]
 have key:b&&&(256 -1 -255/2^r)=b/2^(8 -r)*2^(8 -r):=by
  have e1:255/2^r=2^(8 -r) -1:=by
   match r,hr with
   |0,_|1,_|2,_|3,_|4,_|5,_|6,_|7,_|8,_=>rfl
   |n+9,h=>omega
  rw[e1]
  apply Nat.eq_of_testBit_eq
  intro j
  have e2:256 -1 -(2^(8 -r) -1)=2^8 -(2^(8 -r) -1+1):=by omega
  rw[Nat.testBit_and,e2,Nat.testBit_two_pow_sub_succ (by have:2^(8 -r)≤2^8:=Nat.pow_le_pow_right (by decide) (by omega);have:=Nat.two_pow_pos (8 -r);omega),Nat.testBit_two_pow_sub_one,Nat.testBit_mul_two_pow,Nat.testBit_div_two_pow]
  by_cases hj:8 -r≤j
  ·
   simp only[hj,show ¬j<8 -r by omega,decide_true,decide_false,Bool.not_false,Bool.and_true,Bool.true_and,show j -(8 -r)+(8 -r)=j by omega]
   by_cases h8:j<8
   ·
    simp[h8]
   ·
    have:b.testBit j=false:=Nat.testBit_lt_two_pow (Nat.lt_of_lt_of_le hb (by have:=Nat.pow_le_pow_right (n:=2) (by decide) (show 8≤j by omega);simpa using this))
    simp[this]
  ·
   simp[hj,show j<8 -r by omega]
 show some (Value.int .u8 ((b&&&(256 -1 -255/2^r):Nat):Int))=_
 rw[key]
theorem Uk(k:Key)(n:Int)(h0:1≤n)(h1:n<128)(h2:0<n%8):(cn (ib k ((8*(n/8).toNat:Nat):Int))).setIfInBounds (n/8).toNat (.int .u8 ((cK k (n/8).toNat/2^(8 -(n%8).toNat)*2^(8 -(n%8).toNat):Nat):Int))=cn (ib k n):=by
 have hb:=ob k (n/8).toNat
 rw[Q4 _ _ _ (by omega) (Nat.lt_of_le_of_lt (Nat.div_mul_le_self _ _) hb)]
 congr 1
 refine yO fun i hi=> ?_
 rw[Jk _ _ _ i hi (Nat.lt_of_le_of_lt (Nat.div_mul_le_self _ _) hb),Es k _ i hi]
 have e:ib k n=ib k ((n.toNat:Nat):Int):=by rw[Int.toNat_of_nonneg (by omega)]
 rw[e,Es k n.toNat i hi]
 by_cases hj:i=(n/8).toNat
 ·
  rw[if_pos hj,if_neg (by omega),if_pos (by omega),hj,show n.toNat -8*(n/8).toNat=(n%8).toNat by omega]
 ·
  rw[if_neg hj]
  by_cases bx:i<(n/8).toNat
  ·
   rw[if_pos (by omega),if_pos (by omega)]
  ·
   rw[if_neg (by omega),if_neg (by omega),if_neg (by omega),if_neg (by omega)]
theorem Ul(k:Key)(n:Int)(h0:1≤n)(h2: ¬0<n%8):ib k ((8*(n/8).toNat:Nat):Int)=ib k n:=by
 congr 1;omega
theorem Um(k:Key)(n:Int):oV Tryz.prog 79 [.agg (cn k), .int .i64 n] (.agg (cn (ib k n))):=⟨fun w=>by
 refine bh (args:=[_,_]) Tryz.func79 rfl Tryz.ntmps79 rfl ?_
 change Cw _ _ _ _ _ [(0, .agg (cn k)),(1, .int .i64 n)] []
 refine aO ?_
 refine ba ?_
 refine cA rfl fun b2=> ?_
 refine bM fun b4=> ?_
 refine aY ?_
 refine aN ?_
 refine aO ?_
 refine aO ?_
 refine ba ?_
 refine ah (aE rfl) ?_
 refine ah (cz rfl rfl rfl) ?_
 refine aY ?_
 refine aN ?_
 refine av rfl (fun h0=> ?_) (fun h0=> ?_)
 ·
  have h0:=of_decide_eq_true h0
  refine aO ?_
  refine ba ?_
  refine ah (gu rfl) ?_
  refine qN rfl rfl ?_
  refine aY ?_
  refine aN ?_
  refine eF ?_
  refine fq ?_
  refine au (.inl rfl) (AV rfl rfl) (fun w hw=> ?_)
  exact⟨by rw[Q5 k n (by omega)],hw.sub (List.nil_sublist _)⟩
 ·
  have h0:=of_decide_eq_false h0
  refine gf ?_
  refine aN ?_
  refine aO ?_
  refine ba ?_
  refine bM fun b5=> ?_
  refine aY ?_
  refine aN ?_
  refine aO ?_
  refine aO ?_
  refine ba ?_
  refine ah (aE rfl) ?_
  refine ah (cz rfl rfl rfl) ?_
  refine aY ?_
  refine aN ?_
  refine av rfl (fun h1=> ?_) (fun h1=> ?_)
  ·
   have h1:=of_decide_eq_true h1
   refine aO ?_
   refine ba ?_
   refine ah (gu rfl) ?_
   refine qN rfl rfl ?_
   refine aY ?_
   refine aN ?_
   refine eF ?_
   refine fq ?_
   refine au (.inl rfl) (AV rfl rfl) (fun w hw=> ?_)
   exact⟨by rw[Q6 k n (by omega)],hw.sub (List.nil_sublist _)⟩
  ·
   have h1:=of_decide_eq_false h1
   refine gf ?_
   refine aN ?_
   refine aO ?_
   refine ba ?_
   refine ah (aE rfl) ?_
   refine ah (n7 rfl rfl (by omega) (by omega)) ?_
   refine ah (bn rfl) ?_
   refine aY ?_
   refine aN ?_
   refine aO ?_
   refine uI 4 [] (by kernel_rfl) (by kernel_rfl) ?_
   simp only[List.take_succ_cons,List.take_zero]
   refine bA (aE rfl) ?_
   refine bA (IP rfl rfl (by omega) (by omega)) ?_
   refine bA (aE rfl) ?_
   refine bA (IP rfl rfl (by omega) (by omega)) ?_
   refine sW ?_
   refine sX ?_
   simp only[List.drop_succ_cons,List.drop_zero]
   refine Ec (vs:=(cn k).extract 0 (n/8).toNat) rfl rfl (by have e:Nat.min (n/8).toNat (n/8).toNat=(n/8).toNat:=Nat.min_self _;rw[e,Array.size_extract,gP];omega) (fun w hw j hj=>by rw[Addr.gB,hw.cell (Has.h (b:=b2)),Nat.zero_add];simp at hj;simp[hj]) (Qm (gq.one (cs:=cn k)) _ _) (by rw[Array.size_extract,gP,gP];omega) (Ui k _ (by omega)) ?_
   refine aY ?_
   refine aN ?_
   refine aO ?_
   refine aO ?_
   refine ba ?_
   refine ah (aE rfl) ?_
   refine ah (yy rfl rfl (by omega) (by omega)) ?_
   refine ah (bn rfl) ?_
   refine aY ?_
   refine aN ?_
   refine aO ?_
   refine ba ?_
   refine ah (aE rfl) ?_
   refine ah (cz rfl rfl rfl) ?_
   refine aY ?_
   refine aN ?_
   refine av rfl (fun h2=> ?_) (fun h2=> ?_)
   ·
    have h2:=of_decide_eq_true h2
    refine uI 8 [] (by kernel_rfl) (by kernel_rfl) ?_
    simp only[List.take_succ_cons,List.take_zero]
    refine bA (aE rfl) ?_
    refine bA (aE rfl) ?_
    refine bA (rN rfl rfl (by omega) (by omega)) ?_
    refine bA (II rfl (lH _ _ (by omega))) ?_
    refine bA (aE rfl) ?_
    refine bA (uF (p:=255) rfl rfl (by decide) (by omega)) ?_
    refine bA (cz rfl rfl (Uj _ _ (ob _ _) (by omega))) ?_
    refine bA (rN rfl rfl (by omega) (by omega)) ?_
    refine sW ?_
    refine sX ?_
    simp only[List.drop_succ_cons,List.drop_zero]
    refine eV rfl rfl (by rw[gP];omega) rfl (Uk k n (by omega) (by omega) h2) ?_
    refine aY ?_
    refine aN ?_
    refine aO ?_
    refine ba ?_
    refine ah (gu rfl) ?_
    refine qN rfl rfl ?_
    refine aY ?_
    refine aN ?_
    refine eF ?_
    refine au (.inl rfl) (AV rfl rfl) (fun w hw=> ?_)
    exact⟨rfl,hw.sub (List.nil_sublist _)⟩
   ·
    have h2:=of_decide_eq_false h2
    refine gf ?_
    refine aN ?_
    refine aO ?_
    refine ba ?_
    refine ah (gu rfl) ?_
    refine qN rfl rfl ?_
    refine aY ?_
    refine aN ?_
    refine eF ?_
    refine au (.inl rfl) (AV rfl rfl) (fun w hw=> ?_)
    exact⟨by rw[Ul k n (by omega) h2],hw.sub (List.nil_sublist _)⟩⟩
instance agi(k:Key)(n:Int):oV Tryz.prog 79 [.agg (cn k), .int .i64 n] (.agg (cn (ib k n))):=Um k n
theorem Un(p:cU):oV Tryz.prog 78 [.agg (c5 p)] (.bool (cZ p)):=⟨fun w=>by
 refine bh (args:=[_]) Tryz.func78 rfl Tryz.ntmps78 rfl ?_
 change Cw _ _ _ _ _ [(0, .agg (c5 p))] []
 refine aO ?_
 refine ba ?_
 refine cA rfl fun b1=> ?_
 refine ah (bn rfl) ?_
 refine aY ?_
 refine aN ?_
 refine aO ?_
 refine aO ?_
 refine ba ?_
 refine ah (aI (o':=0) rfl rfl) ?_
 refine ah (bJ rfl) ?_
 refine fF (wg rfl) ?_
 refine ah (iD rfl) ?_
 refine ah (aE rfl) ?_
 refine bS rfl rfl rfl (fun hg=>(aI (o':=1) rfl rfl).yl) ?_
 refine bS rfl rfl rfl (fun hg=>(bJ (aG hg rfl)).yl) ?_
 refine bS rfl rfl rfl (fun hg=>(cz (aG hg rfl) rfl rfl).yl) ?_
 refine ah (lU rfl rfl rfl) ?_
 refine ah (aE rfl) ?_
 refine bS rfl rfl rfl (fun hg=>(aI (o':=1) rfl rfl).yl) ?_
 refine bS rfl rfl rfl (fun hg=>(bJ (aG hg rfl)).yl) ?_
 refine bS rfl rfl rfl (fun hg=>(aI (o':=0) rfl rfl).yl) ?_
 refine bS rfl rfl rfl (fun hg=>(bJ (aG hg rfl)).yl) ?_
 refine bS rfl rfl rfl (fun hg=>(cz (aG hg rfl) (aG hg rfl) rfl).yl) ?_
 refine ah (lU rfl rfl rfl) ?_
 refine aY ?_
 refine aN ?_
 refine av rfl (fun h0=> ?_) (fun h0=> ?_)
 ·
  refine aO ?_
  refine ba ?_
  refine ah (bn rfl) ?_
  refine aY ?_
  refine aN ?_
  refine eF ?_
  refine fq ?_
  refine au (.inl rfl) (ku rfl rfl) (fun w hw=> ?_)
  refine⟨?_,hw.sub (List.nil_sublist _)⟩
  have:cZ p=false:=by unfold cZ;simp at h0⊢;omega
  rw[this]
 ·
  refine gf ?_
  refine aN ?_
  refine aO ?_
  refine jw (by kernel_rfl) (by kernel_rfl) ?_
  refine bA (aI (o':=2) rfl rfl) ?_
  refine bA (jv rfl) ?_
  refine bA (aI (o':=1) rfl rfl) ?_
  refine bA (bJ rfl) ?_
  refine uH (wg rfl) ?_
  refine bA (aI (o':=2) rfl rfl) ?_
  refine bA (jv rfl) ?_
  refine bA (IL rfl rfl) ?_
  refine bA (bn rfl) ?_
  refine wi ?_
  refine aN ?_
  refine eF ?_
  refine au (.inl rfl) (ku rfl rfl) (fun w hw=> ?_)
  refine⟨?_,hw.sub (List.nil_sublist _)⟩
  congr 2;unfold cZ;simp at h0⊢;obtain⟨⟨h1,h2⟩,h3⟩:=h0;simp[h2,h3,show p.bits=32∨p.bits=128 by omega]⟩
instance agj(p:cU):oV Tryz.prog 78 [.agg (c5 p)] (.bool (cZ p)):=Un p
open Go.ay Go.Kb
open Go.RowKit
def qu(k:Key):List Int:=(List.range 16).map fun i=>(cK k i:Int)
theorem L8(k:Key)(j:Nat)(x:Int)(h:(qu k)[j]? =some x):j<16∧x=cK k j:=by
 have hl:j<16:=by have:=(List.getElem?_eq_some_iff.1 h).1;simpa[qu]using this
 refine⟨hl,?_⟩
 simp[qu,hl]at h
 exact h.symm
theorem Uo{x y:UInt8}{xs ys:List UInt8}:Lib.compareBytes (x::xs) (y::ys)=if x.toNat<y.toNat then -1 else if y.toNat<x.toNat then 1 else Lib.compareBytes xs ys:=by
 simp[Lib.compareBytes,UInt8.lt_iff_toNat_lt]
theorem L9(a b:Key): ∀(n i:Nat),i+n=16→(∀j,j<i→cK a j=cK b j)→
  Lib.compareBytes ((List.range' i n).map fun j=>(cK a j).toUInt8) ((List.range' i n).map fun j=>(cK b j).toUInt8)=pc a b
 |0,i,hi,hs=>by
  have:a=b:=yO fun j hj=>hs j (by omega)
  subst this
  simp[Lib.compareBytes,pc]
 |n+1,i,hi,hs=>by
  have ha:=ob a i
  have hb:=ob b i
  rw[List.range'_succ,List.map_cons,List.map_cons,Uo]
  have ea:(cK a i).toUInt8.toNat=cK a i:=by simp;omega
  have eb:(cK b i).toUInt8.toNat=cK b i:=by simp;omega
  rw[ea,eb]
  by_cases h1:cK a i<cK b i
  ·
   rw[if_pos h1]
   have:=Jr (by omega) hs h1
   unfold pc;rw[if_pos this]
  ·
   rw[if_neg h1]
   by_cases h2:cK b i<cK a i
   ·
    rw[if_pos h2]
    have:=Jr (by omega) (fun j hj=>(hs j hj).symm) h2
    unfold pc;rw[if_neg (by omega),if_pos this]
   ·
    rw[if_neg h2]
    exact L9 a b n (i+1) (by omega) fun j hj=>by
     by_cases e:j=i
     ·
      subst e;omega
     ·
      exact hs j (by omega)
theorem Ma(k:Key):(⟨ByteArray.empty.data++(Lib.bytesOf (qu k)).toArray⟩:ByteArray).data.toList=(List.range' 0 16).map fun j=>(cK k j).toUInt8:=by
 simp[Lib.bytesOf,qu,List.range_eq_range']
theorem Up(a b:Key)(p q:Addr)(c c':Nat)(w:World)(hp: ∀j,j<16→w.cell? (p.add j)=some (.int .u8 (cK a j)))(hq: ∀j,j<16→w.cell? (q.add j)=some (.int .u8 (cK b j))):
  Calls Tryz.prog 119 [.slice (some p) 16 c, .slice (some q) 16 c'].toArray w fun e w'=>e= .returned (.int .i64 (pc a b))∧Mem w [] w':=by
 refine bh (args:=[_,_]) Tryz.func119 rfl Tryz.ntmps119 rfl ?_
 change Cw _ _ _ _ _ [(0, .slice (some p) 16 c),(1, .slice (some q) 16 c')] []
 refine aO ?_
 refine ba ?_
 refine ah (bn rfl) ?_
 refine aY ?_
 refine aN ?_
 refine aO ?_
 refine ba ?_
 refine ah (aE rfl) ?_
 refine ah (aE rfl) ?_
 refine ah (v:= .int .i64 (pc a b)) ?_ ?_
 ·
  intro aa w1 ha hw
  have sk: ∀j,j<16→w1.cell? (p.add j)=some (.int .u8 (cK a j)):=fun j hj=>by
   rw[←hp j hj];exact hw.below.cell (block_lt_of_cell (hp j hj))
  have Uq: ∀j,j<16→w1.cell? (q.add j)=some (.int .u8 (cK b j)):=fun j hj=>by
   rw[←hq j hj];exact hw.below.cell (block_lt_of_cell (hq j hj))
  have r1:=Lib.run_loadBytesX (P:=Tryz.prog) w1 (qu a) p .empty (fun j x hx=>by obtain⟨h1,rfl⟩:=L8 a j x hx;exact sk j h1)
  have r2:=Lib.run_loadBytesX (P:=Tryz.prog) w1 (qu b) q .empty (fun j x hx=>by obtain⟨h1,rfl⟩:=L8 b j x hx;exact Uq j h1)
  have l1:(qu a).length=16:=by simp[qu]
  have l2:(qu b).length=16:=by simp[qu]
  rw[l1]at r1
  rw[l2]at r2
  have e5:=ha.ev (x:= .tmp 5) (v:= .slice (some p) 16 c) rfl
  have e6:=ha.ev (x:= .tmp 6) (v:= .slice (some q) 16 c') rfl
  have fX:(callFunc 143 #[.slice (some p) 16 c, .slice (some q) 16 c']).run Tryz.prog w1= .ok (.value (.int .i64 (pc a b))) w1:=by
   rw[run_callFunc_extern Tryz.func143 (by kernel_rfl) (by kernel_rfl) (by kernel_rfl) (e:=Extern.BytealgCompare.compare) (by kernel_rfl)]
   have:(Extern.BytealgCompare.compare #[.slice (some p) 16 c, .slice (some q) 16 c']).run Tryz.prog w1= .ok (.int .i64 (pc a b)) w1:=by
    change Sem.run Tryz.prog (do pure (goInt (Extern.BytealgCompare.cmp (←Extern.Bytes.bytesOf (.slice (some p) 16 c)) (←Extern.Bytes.bytesOf (.slice (some q) 16 c'))))) w1=_
    simp only[Extern.Bytes.bytesOf,Sem.run_bind,r1,r2,Sem.run_pure,Result.andThen]
    rw[Lib.cmp_eq,Ma,Ma,L9 a b 16 0 rfl (fun j h=>by omega)]
    rfl
   rw[this];rfl
  simp[execOp,resolve,Act.eval,Deferred.ofValue,invoke]at e5 e6⊢
  rw[e5,e6,fX]
 refine ah (bn rfl) ?_
 refine aY ?_
 refine aN ?_
 refine eF ?_
 refine au (.inl rfl) (ku rfl rfl) (fun w hw=> ?_)
 exact⟨rfl,hw.sub (List.nil_sublist _)⟩
open Go.ay Go.Kb
open Go.RowKit
theorem Mc{w0 w:World}{L:List ak}{b:Nat}{p:cU}{T:TypeId}{i:Nat}(hw:Mem w0 L w)[hh:Has L b (c5 p) T i](j:Nat)(hj:j<16):w.cell? ((⟨b,2,none⟩:Addr).add j)=some (.int .u8 (cK p.key j)):=by
 rw[Addr.gB,hw.cell hh.h,pZ,lH _ j hj]
theorem F7{p q:cU}(h1:cZ p=true)(h2:cZ q=true):dR p q=(if p.bits≠q.bits then decide (p.bits=32)else if p.key≠q.key then decide (p.key.toNat<q.key.toNat)else decide (p.len<q.len)):=by
 unfold dR;rw[h1,h2];rfl
theorem Ur(p q:cU):oV Tryz.prog 81 [.agg (c5 p), .agg (c5 q)] (.bool (dR p q)):=⟨fun w=>by
 refine bh (args:=[_,_]) Tryz.func81 rfl Tryz.ntmps81 rfl ?_
 change Cw _ _ _ _ _ [(0, .agg (c5 p)),(1, .agg (c5 q))] []
 refine aO ?_
 refine ba ?_
 refine cA rfl fun b2=> ?_
 refine cA rfl fun b3=> ?_
 refine ah (bn rfl) ?_
 refine aY ?_
 refine aN ?_
 refine aO ?_
 refine aO ?_
 refine ba ?_
 refine ah (gu rfl) ?_
 refine fF (wg rfl) ?_
 refine ah (iD rfl) ?_
 refine ah (aE rfl) ?_
 refine bS rfl rfl rfl (fun hg=>(gu rfl).yl) ?_
 refine bS rfl rfl rfl (fun hg=>wg (dI (aG hg rfl) gN)) ?_
 refine bS rfl rfl rfl (fun hg=>(iD (aG hg rfl)).yl) ?_
 refine ah (lU rfl rfl rfl) ?_
 refine aY ?_
 refine aN ?_
 refine av rfl (fun h0=> ?_) (fun h0=> ?_)
 ·
  simp at h0
  refine aO ?_
  refine ba ?_
  refine ah (bn rfl) ?_
  refine aY ?_
  refine aN ?_
  refine eF ?_
  refine fq ?_
  refine au (.inl rfl) (ku rfl rfl) (fun w hw=> ?_)
  refine⟨?_,hw.sub (List.nil_sublist _)⟩
  have:dR p q=false:=by unfold dR;cases h1:cZ p<;>cases h2:cZ q<;>simp_all
  rw[this]
 ·
  simp at h0
  obtain⟨m1,m2⟩:=h0
  refine gf ?_
  refine aN ?_
  refine aO ?_
  refine aO ?_
  refine ba ?_
  refine ah (aI (o':=0) rfl rfl) ?_
  refine ah (bJ rfl) ?_
  refine ah (aI (o':=0) rfl rfl) ?_
  refine ah (bJ rfl) ?_
  refine ah (cz rfl rfl rfl) ?_
  refine aY ?_
  refine aN ?_
  refine av rfl (fun h1=> ?_) (fun h1=> ?_)
  ·
   simp at h1
   refine aO ?_
   refine ba ?_
   refine ah (aI (o':=0) rfl rfl) ?_
   refine ah (bJ rfl) ?_
   refine ah (cz rfl rfl rfl) ?_
   refine ah (bn rfl) ?_
   refine aY ?_
   refine aN ?_
   refine eF ?_
   refine fq ?_
   refine au (.inl rfl) (ku rfl rfl) (fun w hw=> ?_)
   exact⟨by rw[F7 m1 m2,if_pos h1],hw.sub (List.nil_sublist _)⟩
  ·
   simp at h1
   refine gf ?_
   refine aN ?_
   refine aO ?_
   refine aO ?_
   refine jw (by kernel_rfl) (by kernel_rfl) ?_
   refine bA (aI (o':=2) rfl rfl) ?_
   refine bA (uD rfl) ?_
   refine bA (aI (o':=2) rfl rfl) ?_
   refine bA (uD rfl) ?_
   refine uH (AQ rfl (fun w hw=>Up p.key q.key _ _ _ _ w (Mc hw) (Mc hw))) ?_
   refine bA (bn rfl) ?_
   refine wi ?_
   refine aN ?_
   refine aO ?_
   refine ba ?_
   refine ah (aE rfl) ?_
   refine ah (cz rfl rfl rfl) ?_
   refine aY ?_
   refine aN ?_
   refine av rfl (fun h2=> ?_) (fun h2=> ?_)
   ·
    simp at h2
    refine aO ?_
    refine ba ?_
    refine ah (aE rfl) ?_
    refine ah (cz rfl rfl rfl) ?_
    refine ah (bn rfl) ?_
    refine aY ?_
    refine aN ?_
    refine eF ?_
    refine fq ?_
    refine au (.inl rfl) (ku rfl rfl) (fun w hw=> ?_)
    exact⟨by rw[F7 m1 m2,if_neg (by simpa using h1),if_pos (fun e=>h2 ((Js _ _).2 e)),decide_eq_decide.2 (Ra _ _)],hw.sub (List.nil_sublist _)⟩
   ·
    simp at h2
    refine gf ?_
    refine aN ?_
    refine aO ?_
    refine ba ?_
    refine ah (aI (o':=1) rfl rfl) ?_
    refine ah (bJ rfl) ?_
    refine ah (aI (o':=1) rfl rfl) ?_
    refine ah (bJ rfl) ?_
    refine ah (cz rfl rfl rfl) ?_
    refine ah (bn rfl) ?_
    refine aY ?_
    refine aN ?_
    refine eF ?_
    refine au (.inl rfl) (ku rfl rfl) (fun w hw=> ?_)
    exact⟨by rw[F7 m1 m2,if_neg (by simpa using h1),if_neg (by simpa using(Js _ _).1 h2)],hw.sub (List.nil_sublist _)⟩⟩
instance agk(p q:cU):oV Tryz.prog 81 [.agg (c5 p), .agg (c5 q)] (.bool (dR p q)):=Ur p q
open Go.ay Go.Kb
instance agl:ft Tryz.prog 22 48 4 48:=⟨Tryz.underlying22,by kernel_rfl⟩
instance agm:ft Tryz.prog 23 94 4 16:=⟨Tryz.underlying23,by kernel_rfl⟩
instance agn:ft Tryz.prog 26 3 1 8:=⟨Tryz.underlying26,by kernel_rfl⟩
instance ago:fo Tryz.prog 38 (.slice none 0 0):=⟨by kernel_rfl⟩
instance agp:ft Tryz.prog 38 5 1 1:=⟨Tryz.underlying38,by kernel_rfl⟩
instance agq:ft Tryz.prog 43 50 4 32:=⟨Tryz.underlying43,by kernel_rfl⟩
instance agr:ft Tryz.prog 46 38 1 24:=⟨Tryz.underlying46,by kernel_rfl⟩
instance ags:ft Tryz.prog 52 68 19 40:=⟨Tryz.underlying52,by kernel_rfl⟩
instance agt:ft Tryz.prog 76 91 20 48:=⟨Tryz.underlying76,by kernel_rfl⟩
instance agu:ft Tryz.prog 103 102 2 32:=⟨Tryz.underlying103,by kernel_rfl⟩
instance agv:ft Tryz.prog 161 26 1 24:=⟨Tryz.underlying161,by kernel_rfl⟩
instance agw:ft Tryz.prog 186 46 1 24:=⟨Tryz.underlying186,by kernel_rfl⟩
instance agx:ft Tryz.prog 238 235 1 8:=⟨Tryz.underlying238,by kernel_rfl⟩
instance:bp ax 19:=⟨kx,fun r=>by
 have h:(c5 r.p).all (·.oneCell')=true:=(inferInstance:gq (c5 r.p) 18).one
 rw[ax,Array.all_append,h];simp[Value.oneCell']⟩
instance:Deep Rt:=Deep.flat ax 19
instance:fN Rt ax 19:=⟨rfl,fun _=>rfl⟩
instance (r:Rt):gq (ax r) 19:=⟨kx r,bp.one r⟩
instance (r:Rt):n0 (ax r) 0 18 (c5 r.p):=⟨od _,fun j hj=>by rw[Nat.zero_add];exact og r j hj⟩
instance (r:Rt):cm (ax r) 18 (.int .u16 r.dP.toNat):=⟨wD r⟩
instance (r:Rt):cm (ax r) 0 (.int .i64 r.p.bits):=⟨(og r 0 (by decide)).trans (uS r.p)⟩
instance (r:Rt):cm (ax r) 1 (.int .i64 r.p.len):=⟨(og r 1 (by decide)).trans (uT r.p)⟩
theorem Us(d:Nat):rr Tryz.prog (d+1) 66 false [0]:=⟨⟨_,Tryz.underlying66,rfl⟩,by kernel_rfl,fun _=>rfl,F4 Tryz.underlying66⟩
theorem Ut:Tryz.prog.stoodInHeld 68=false:=by kernel_rfl
theorem Uu(d:Nat):rr Tryz.prog (d+1+1+1+1) 68 true (([0]++([0]++((List.replicate 16 [0]).flatten++[])))++([0]++[])):=⟨⟨_,Tryz.underlying68,rfl⟩,by kernel_rfl,(fun h=>by cases h),
 L4 Tryz.underlying68 Ut ⟨by decide,rfl,_,_,_,rfl,L7 _,by decide,rfl,_,_,_,rfl,Us _,rfl⟩⟩
theorem Uv:Tryz.prog.eqGuardType Tryz.prog.depth 68=false:=by kernel_rfl
instance (a b:Rt):wb Tryz.prog 68 (.agg (ax a)) (.agg (ax b)) (decide (a=b)):=
 (Uu 9996).eq.val rfl Uv (kx a) (kx b) (fun i k hk=>by
  have h0:k=0:=by
   have:k∈(([0]++([0]++((List.replicate 16 [0]).flatten++[])))++([0]++[])):=List.mem_of_getElem? hk
   simpa using this
  subst h0
  have hi:i<19:=(List.getElem?_eq_some_iff.1 hk).1
  match i,hi with
  |0,_=>exact⟨_,_,(inferInstance:cm (ax a) 0 _).h,(inferInstance:cm (ax b) 0 _).h,rfl⟩
  |1,_=>exact⟨_,_,(inferInstance:cm (ax a) 1 _).h,(inferInstance:cm (ax b) 1 _).h,rfl⟩
  |j+2,hi=>
   rcases Nat.lt_or_ge j 16 with h|h
   ·
    rw[Nat.add_comm j 2]
    exact⟨_,_,(og a _ (by omega)).trans ((pZ a.p j).trans (lH _ j h)),(og b _ (by omega)).trans ((pZ b.p j).trans (lH _ j h)),rfl⟩
   ·
    obtain rfl:j=16:=by omega
    exact⟨_,_,wD a,wD b,rfl⟩) (by rw[decide_eq_true_iff];exact⟨Rd,fun h=>by rw[h]⟩)
instance:yA Tryz.prog 68 [] (.agg (ax jx)):=⟨fun w=>by unfold ax c5 jx;rw[zw];kernel_rfl⟩
instance:fo Tryz.prog 68 (.agg (ax jx)):=⟨by unfold ax c5 jx;rw[zw];kernel_rfl⟩
end Go.Proofs.YtaipiecplldinaaGreat
namespace Go.Kb
open Go.ay
instance:Plain Rt:=⟨fun _=>rfl⟩
instance:dz Rt:=dz.flat fun _ _=>trivial
structure cC where
 an:bU
 table:Sl Rt
def bQ(x:cC):Array Value:= #[.int .i64 x.an.ag.ae, .int .i64 x.an.ag.size,x.an.ag.blocks.sv.val, .int .i64 x.an.ag.ops, .bool x.an.ag.off,x.an.ag.aX.sv.val,x.an.at_.sv.val, .int .u64 x.an.gen.toNat, .int .i64 x.an.last,x.table.sv.val]
instance:bp bQ 10:=⟨fun _=>rfl,fun x=>by
 simp only[bQ,List.all_toArray,List.all_cons,List.all_nil,Sv.one,oq,ot,Bool.and_self]⟩
instance (x:cC):gq (bQ x) 10:=⟨rfl,bp.one x⟩
instance (x:cC):cm (bQ x) 1 (.int .i64 x.an.ag.size):=⟨rfl⟩
instance (x:cC):cm (bQ x) 6 (x.an.at_.sv.val):=⟨rfl⟩
instance (x:cC):cm (bQ x) 7 (.int .u64 x.an.gen.toNat):=⟨rfl⟩
instance (x:cC):cm (bQ x) 8 (.int .i64 x.an.last):=⟨rfl⟩
instance (x:cC):cm (bQ x) 9 (x.table.sv.val):=⟨rfl⟩
instance (x:cC):n0 (bQ x) 0 9 (bN x.an):=⟨rfl,fun j hj=>by
 match j,hj with
 |0,_=>rfl
 |1,_=>rfl
 |2,_=>rfl
 |3,_=>rfl
 |4,_=>rfl
 |5,_=>rfl
 |6,_=>rfl
 |7,_=>rfl
 |8,_=>rfl⟩
instance (x:cC):n0 (bQ x) 0 6 (aF x.an.ag):=⟨rfl,fun j hj=>by
 match j,hj with
 |0,_=>rfl
 |1,_=>rfl
 |2,_=>rfl
 |3,_=>rfl
 |4,_=>rfl
 |5,_=>rfl⟩
instance:Deep cC where
 c:=10
 cells:=bQ
 size:=bp.size
 one:=bp.one
 aZ h x:=Deep.aZ h x.an∧Deep.aZ h x.table
 bT x:= .two (Deep.bT x.an) (Deep.bT x.table)
 fM h x hs:=⟨Deep.fM h x.an hs.1,Deep.fM h x.table hs.2.1⟩
 mono w w' x hg hb:=⟨Deep.mono w w' x.an hg.1 hb,Deep.mono w w' x.table hg.2 hb⟩
instance:dz cC where
 reach x k:=dz.reach x.an k∨dz.reach x.table k
 congr h h' x e hg:=⟨dz.congr h h' x.an (fun k hk=>e k (.inl hk)) hg.1,dz.congr h h' x.table (fun k hk=>e k (.inr hk)) hg.2⟩
instance {w0:World}{L:List ak}{x:cC}[q:aW w0 L x]:aW w0 L x.an:=⟨fun w hw=>(q.h w hw).1⟩
instance {w0:World}{L:List ak}{x:cC}[q:aW w0 L x]:aW w0 L x.table:=⟨fun w hw=>(q.h w hw).2⟩
instance {w0:World}{L:List ak}{an:bU}{table:Sl Rt}[q0:aW w0 L an][q1:aW w0 L table]:aW w0 L (cC.mk an table):=⟨fun w hw=>⟨q0.h w hw,q1.h w hw⟩⟩
def lp:cC:=⟨kT,⟨Sv.none,[]⟩⟩
structure FV where
 an:VV
 table:List Rt
 deriving DecidableEq
def bG(f:cC):FV:=⟨vv f.an,f.table.xs⟩
def pz:FV:=⟨ke,[]⟩
def ru(b p s:Int):Int:=min (qq b p/2) (iP s)
def kD(b p s:Int):Int:=gI (ru b p s) (dM s)
def dm(c:CV):Int:=ru c.blocks.length c.ae c.size
def dG(c:CV):Int:=kD c.blocks.length c.ae c.size
def dY(c:CV)(y:Int):List UInt8:=if y -1<0 then[]else jC c y
def cl(v:VV):List (List UInt8):=v.at_.map (dY v.ag)
def cX(c:CV):FV×Int:=
 if dG c=0 then(pz,1)
 else if(bF c).2≠0 then(pz,(bF c).2)
 else if((bF c).1.at_.length:Int)≠dm c then(pz,2)
 else if iT (cl (bF c).1)≠0 then(pz,2)
 else(⟨(bF c).1,ij (cl (bF c).1)⟩,0)
def jI(c:CV):List (List UInt8):=if(cX c).2=0 then cl (bF c).1 else[]
theorem Md{c:CV}(h:dG c=0):cX c=(pz,1)∧jI c=[]:=by
 have e:cX c=(pz,1):=by rw[cX,if_pos h]
 exact⟨e,by rw[jI,e];rfl⟩
theorem Me{c:CV}(h: ¬dG c=0)(h1:(bF c).2≠0):cX c=(pz,(bF c).2)∧jI c=[]:=by
 have e:cX c=(pz,(bF c).2):=by rw[cX,if_neg h,if_pos h1]
 exact⟨e,by rw[jI,e,if_neg h1]⟩
theorem Mf{c:CV}(h: ¬dG c=0)(h1:(bF c).2=0)(h2:((bF c).1.at_.length:Int)≠dm c):cX c=(pz,2)∧jI c=[]:=by
 have e:cX c=(pz,2):=by rw[cX,if_neg h,if_neg (fun g=>g h1),if_pos h2]
 exact⟨e,by rw[jI,e];rfl⟩
theorem Mg{c:CV}(h: ¬dG c=0)(h1:(bF c).2=0)(h2:((bF c).1.at_.length:Int)=dm c)(h3:iT (cl (bF c).1)≠0):cX c=(pz,2)∧jI c=[]:=by
 have e:cX c=(pz,2):=by rw[cX,if_neg h,if_neg (fun g=>g h1),if_neg (fun g=>g h2),if_pos h3]
 exact⟨e,by rw[jI,e];rfl⟩
theorem Co{c:CV}(h: ¬dG c=0)(h1:(bF c).2=0)(h2:((bF c).1.at_.length:Int)=dm c)(h3:iT (cl (bF c).1)=0):cX c=(⟨(bF c).1,ij (cl (bF c).1)⟩,0)∧jI c=cl (bF c).1:=by
 have e:cX c=(⟨(bF c).1,ij (cl (bF c).1)⟩,0):=by rw[cX,if_neg h,if_neg (fun g=>g h1),if_neg (fun g=>g h2),if_neg (fun g=>g h3)]
 exact⟨e,by rw[jI,e,if_pos rfl]⟩
theorem Cq{c:CV}(h:(cX c).2=0): ¬dG c=0∧(bF c).2=0∧((bF c).1.at_.length:Int)=dm c∧iT (cl (bF c).1)=0:=by
 by_cases h0:dG c=0
 ·
  rw[(Md h0).1]at h;cases h
 by_cases h1:(bF c).2=0
 ·
  by_cases h2:((bF c).1.at_.length:Int)=dm c
  ·
   by_cases h3:iT (cl (bF c).1)=0
   ·
    exact⟨h0,h1,h2,h3⟩
   ·
    rw[(Mg h0 h1 h2 h3).1]at h;cases h
  ·
   rw[(Mf h0 h1 h2).1]at h;cases h
 ·
  rw[(Me h0 h1).1]at h;exact absurd h h1
def gy(f:FV):Bool:=decide ((cX {f.an.ag with off:=false}).2=0)&&decide (f.an.gen=(cX {f.an.ag with off:=false}).1.an.gen)&&decide (f.an.last=(cX {f.an.ag with off:=false}).1.an.last)&&decide (f.an.at_=(cX {f.an.ag with off:=false}).1.an.at_)&&decide (f.table=(cX {f.an.ag with off:=false}).1.table)
theorem F8{f:FV}:gy f=true↔(cX {f.an.ag with off:=false}).2=0∧f.an.gen=(cX {f.an.ag with off:=false}).1.an.gen∧f.an.last=(cX {f.an.ag with off:=false}).1.an.last∧f.an.at_=(cX {f.an.ag with off:=false}).1.an.at_∧f.table=(cX {f.an.ag with off:=false}).1.table:=by
 simp only[gy,Bool.and_eq_true,decide_eq_true_eq,and_assoc]
theorem Uw{f:FV}:gy f=(decide ((cX {f.an.ag with off:=false}).2=0)&&kU f.an&&decide ((cX {f.an.ag with off:=false}).1.table=f.table)):=by
 rw[Bool.eq_iff_iff,F8]
 simp only[kU,Bool.and_eq_true,decide_eq_true_eq]
 constructor
 ·
  rintro⟨h1,h2,h3,h4,h5⟩
  obtain⟨g0,g1,g2,g3⟩:=Cq h1
  rw[(Co g0 g1 g2 g3).1]at h2 h3 h4
  exact⟨⟨h1,⟨⟨g1,h2.symm⟩,h3.symm⟩,h4.symm⟩,h5.symm⟩
 ·
  rintro⟨⟨h1,⟨⟨g4,h2⟩,h3⟩,h4⟩,h5⟩
  obtain⟨g0,g1,g2,g3⟩:=Cq h1
  rw[(Co g0 g1 g2 g3).1]at h5⊢
  exact⟨rfl,h2.symm,h3.symm,h4.symm,h5.symm⟩
theorem Ux{bs:List (List UInt8)}(h:iT bs=0):dy (ij bs)=true:=by
 unfold iT ij at*
 cases hu:fT bs with
 |none=>rw[hu]at h;cases h
 |some t=>
  rw[hu]at h
  simp only at h⊢
  by_cases ht:dy t=true
  ·
   rw[if_pos ht];exact ht
  ·
   rw[if_neg ht]at h;cases h
def cg(f:FV)(l:List Ch):FV×Int:=
 if gy f=false then(f,1)
 else if eu f.table l≠0 then(f,eu f.table l)
 else if jk (cQ f.table l) (dm f.an.ag) (dM f.an.ag.size)≠0 then(f,jk (cQ f.table l) (dm f.an.ag) (dM f.an.ag.size))
 else if eQ (jI {f.an.ag with off:=false}) (jV (cQ f.table l) (dm f.an.ag) (dM f.an.ag.size))=[]then(⟨f.an,cQ f.table l⟩,0)
 else(⟨(fQ f.an (eQ (jI {f.an.ag with off:=false}) (jV (cQ f.table l) (dm f.an.ag) (dM f.an.ag.size)))).1,if(fQ f.an (eQ (jI {f.an.ag with off:=false}) (jV (cQ f.table l) (dm f.an.ag) (dM f.an.ag.size)))).2≠0 then f.table else cQ f.table l⟩,(fQ f.an (eQ (jI {f.an.ag with off:=false}) (jV (cQ f.table l) (dm f.an.ag) (dM f.an.ag.size)))).2)
def iU(c:CV):FV×Int:=if dG c=0 then(⟨⟨c,[],0,0⟩,[]⟩,1)else(⟨(gS c (dm c)).1,[]⟩,(gS c (dm c)).2)
def qv(f:FV)(k:Key)(bits:Int):Rt:=if gy f=true then rn f.table k bits else jx
def qw(f:FV)(k:Key)(bits:Int):Int:=if gy f=true then rp f.table k bits else 1
theorem vw{w0 w:World}{L:List ak}{a:Sl Rt}(h:Mem w0 (own ax 19 a.sv a.xs::L) w):Mem w0 (fz a::L) w:=BA (fun _ _ h=>h) (fun _ _=>trivial) h
theorem Cr{w0 w:World}{L:List ak}{f:cC}(h:Mem w0 (fz f.an.ag::fz f.an.at_::fz f.table::L) w):Mem w0 (fz f::L) w:=by
 refine Mem.freeze (es:=[fz f.an.ag,fz f.an.at_,fz f.table]) f ⟨⟨h.sat (fz f.an.ag) (by simp),h.sat (fz f.an.at_) (by simp)⟩,h.sat (fz f.table) (by simp)⟩ (fun k hk=> ?_) h
 rcases hk with(hk|hk)|hk
 ·
  exact⟨fz f.an.ag,by simp,hk⟩
 ·
  exact⟨fz f.an.at_,by simp,hk⟩
 ·
  exact⟨fz f.table,by simp,hk⟩
theorem Mh{w0 w:World}{L:List ak}{f:cC}(h:Mem w0 (fz f.an.ag::own bP 1 f.an.at_.sv f.an.at_.xs::own ax 19 f.table.sv f.table.xs::L) w):Mem w0 (fz f::L) w:=by
 have h1:=u7 (a:=f.an.at_) (h.perm (List.Perm.swap _ _ _))
 have h2:=vw (a:=f.table) (h1.perm ((List.Perm.cons _ (List.Perm.swap _ _ _)).trans (List.Perm.swap _ _ _)))
 exact Cr (h2.perm ((List.Perm.cons _ (List.Perm.swap _ _ _)).trans ((List.Perm.swap _ _ _).trans (List.Perm.cons _ (List.Perm.swap _ _ _)))))
theorem Ct{w0 w:World}{L:List ak}(h:Mem w0 L w):Mem w0 (fz lp::L) w:=
 Mem.freeze (es:=[]) lp ⟨⟨⟨uR,uR⟩,uR⟩,uR⟩ (fun k hk=>by
  rcases hk with(((⟨cH,_⟩|⟨x,hx,_⟩)|⟨cH,_⟩|⟨x,hx,_⟩)|⟨cH,_⟩|⟨x,hx,_⟩)|⟨cH,_⟩|⟨x,hx,_⟩
  all_goals first|exact absurd rfl cH|cases hx) h
theorem xr{w0 w:World}{L:List ak}:Mem w0 L w→Mem w0 (fz (⟨Sv.none,[]⟩:Sl (Sl UInt8))::L) w:=
 Mem.freeze (es:=[]) _ uR (fun k hk=>by
  rcases hk with⟨cH,_⟩|⟨x,hx,_⟩
  ·
   exact absurd rfl cH
  ·
   cases hx)
theorem Mi(s:Int):0≤iP s∧iP s≤64:=by
 rw[iP,dM]
 split
 ·
  rename_i h;have:=rY.1 h;omega
 ·
  omega
theorem F9(c:CV):dm c≤64:=by
 have:=Mi c.size
 rw[dm,ru];omega
theorem Uy(b p:Int):0≤qq b p∧qq b p≤448:=by
 rw[qq]
 split
 ·
  omega
 ·
  rename_i h
  have h1:0≤b -4∧b -4≤28:=by omega
  have h2:1≤p∧p≤16:=by omega
  exact⟨Int.mul_nonneg h1.1 (by omega),Int.le_trans (Int.mul_le_mul h1.2 h2.2 (by omega) (by omega)) (by decide)⟩
theorem Mj{c:CV}(h:(bF c).2=0):(bF c).1.ag=c:=by
 obtain⟨_,_,e⟩:=Fv h
 rw[e]
theorem Uz{c:CV}(h:(bF c).2=0):c.off=false:=by
 cases ho:c.off with
 |false=>rfl
 |true=>rw[bF,if_neg (by rw[Fu h];simp),if_pos ho]at h;cases h
theorem UA{c:CV}(h:(bF c).2=0):kU (bF c).1=true:=by
 have e:{(bF c).1.ag with off:=false}=c:=by rw[Mj h,←Uz h]
 simp only[kU,e,h,decide_true,Bool.and_self]
theorem UB(c:CV)(n:Int):(jC c n).length≤65536:=by
 rw[jC]
 split
 ·
  exact Fo _
 ·
  simp
theorem zx(v:VV):(cl v).length=v.at_.length:=by rw[cl,List.length_map]
theorem UC(c:CV)(n:Int):(dY c n).length≤65536:=by
 rw[dY]
 split
 ·
  simp
 ·
  exact UB c n
theorem UD(c:CV):(jI c).length≤64:=by
 rw[jI]
 split
 ·
  rename_i h
  obtain⟨g0,g1,g2,g3⟩:=Cq h
  have:=F9 c
  rw[zx];omega
 ·
  simp
def fj(f:FV):List (List UInt8):=jI {f.an.ag with off:=false}
def tJ(f:FV)(l:List Ch):Int:=jk (cQ f.table l) (dm f.an.ag) (dM f.an.ag.size)
def fI(f:FV)(l:List Ch):List (List UInt8):=jV (cQ f.table l) (dm f.an.ag) (dM f.an.ag.size)
theorem UE{f:FV}{l:List Ch}(h0:gy f=false):cg f l=(f,1):=by rw[cg,if_pos h0]
theorem Cu(f:FV)(l:List Ch):cg f l=(if gy f=false then(f,1)
 else if eu f.table l≠0 then(f,eu f.table l)
 else if tJ f l≠0 then(f,tJ f l)
 else if eQ (fj f) (fI f l)=[]then(⟨f.an,cQ f.table l⟩,0)
 else(⟨(fQ f.an (eQ (fj f) (fI f l))).1,if(fQ f.an (eQ (fj f) (fI f l))).2≠0 then f.table else cQ f.table l⟩,(fQ f.an (eQ (fj f) (fI f l))).2)):=rfl
theorem Mk{f:FV}{l:List Ch}(h0:gy f=true)(h1:eu f.table l≠0):cg f l=(f,eu f.table l):=by
 rw[Cu,if_neg (by rw[h0];simp),if_pos h1]
theorem Ml{f:FV}{l:List Ch}(h0:gy f=true)(h1:eu f.table l=0)(h2:tJ f l≠0):cg f l=(f,tJ f l):=by
 rw[Cu,if_neg (by rw[h0];simp),if_neg (fun h=>h h1),if_pos h2]
theorem Mm{f:FV}{l:List Ch}(h0:gy f=true)(h1:eu f.table l=0)(h2:tJ f l=0)(h3:eQ (fj f) (fI f l)=[]):cg f l=(⟨f.an,cQ f.table l⟩,0):=by
 rw[Cu,if_neg (by rw[h0];simp),if_neg (fun h=>h h1),if_neg (fun h=>h h2),if_pos h3]
theorem Ga{f:FV}{l:List Ch}(h0:gy f=true)(h1:eu f.table l=0)(h2:tJ f l=0)(h3: ¬eQ (fj f) (fI f l)=[]):cg f l=(⟨(fQ f.an (eQ (fj f) (fI f l))).1,if(fQ f.an (eQ (fj f) (fI f l))).2≠0 then f.table else cQ f.table l⟩,(fQ f.an (eQ (fj f) (fI f l))).2):=by
 rw[Cu,if_neg (by rw[h0];simp),if_neg (fun h=>h h1),if_neg (fun h=>h h2),if_neg h3]
def Mn(f:FV):Bool:=aT f.an.ag&&decide (f.an.at_.length≤1000000)&&decide (f.table.length≤1000000)
end Go.Kb
namespace Go.ay
open Go.RowKit
theorem Gb{P:Program}{fn:Func}{N:cE}{env:Env}{w0:World}{L:List ak}(hf:fn.results= #[]): ∀a w,db N env a→Mem w0 L w→(results fn a.tmps).run P w= .ok (.tuple #[]) w:=fun a w _ _=>by
 simp[results,hf]
section
variable {P:Program} {w0:World} {env:Env}
theorem Mo{N:cE}{L:List ak}{d:Option Tmp}{ty:TypeId}{ps:String}{af:Array Edge}{gd:Option (Nat×Bool)}{t:TypeId}{x:Operand}{p:Addr}{v:Value}[ht:gV P t](hx:ev env x=some (.pointer (some p)))(hc:w0.cell? p=some v):Ry P N w0 env L ⟨d, .load t x,ty,ps,af,gd⟩ v:=
 wc ht hx fun w hw=>(hw.below.cell (by
  unfold World.cell? at hc
  cases ho:w0.heap[p.block]?with
  |none=>simp[ho]at hc
  |some o=>exact(Array.getElem?_eq_some_iff.1 ho).1)).trans hc
end
section
variable {P:Program} {N:cE} {w0:World} {env:Env} {L:List ak} {l:List Oper} {Q:Exit→Act→World→Prop} {rest:List Oper} {d:Option Tmp} {ty:TypeId} {ps:String} {af:Array Edge} {K:Value→List ak→Prop}
instance cm.one{v:Value}:cm #[v] 0 v:=⟨rfl⟩
theorem UF{t:TypeId}{x:Operand}{v:Value}(hc:v.cells= #[v])(hx:ev env x=some v)(hk: ∀b,Sq P N w0 l Q rest (cy env d (.pointer (some ⟨b,0,none⟩))) (ar b #[v] t::L))(hd:dn N d=true:=by rfl):
  Sq P N w0 l Q (⟨d, .box t x,ty,ps,af,none⟩::rest) env L:=Eb hx (by rw[hc];exact hk) hd
theorem UG{t:TypeId}{z:Value}[hz:fo P t z](hc:z.cells= #[z])(hk: ∀b,Sq P N w0 l Q rest (cy env d (.pointer (some ⟨b,0,none⟩))) (ar b #[z] t::L))(hd:dn N d=true:=by rfl):
  Sq P N w0 l Q (⟨d, .alloc t,ty,ps,af,none⟩::rest) env L:=IU (z:=z) (by rw[hc];exact hk) hd
theorem UH{t:TypeId}{x y:Operand}{i b:Nat}{u:Value}{T:TypeId}{v:Value}(hv:v.oneCell'=true)(hx:ev env x=some (.pointer (some ⟨b,0,none⟩)))(hy:ev env y=some v)[ht:gV P t][hh:Has L b #[u] T i]{L':List ak}[hu:fE L i (ar b #[v] T) L'](hk:Sq P N w0 l Q rest env L'):
  Sq P N w0 l Q (⟨none, .store t x y,ty,ps,af,none⟩::rest) env L:=eV (cs':= #[v]) hx hy (by show 0<1;decide) hv rfl hk
end
theorem UI{P:Program}{N:cE}{w0:World}{env:Env}{L:List ak}{l:List Oper}{Q:Exit→Act→World→Prop}{rest:List Oper}{ty:TypeId}{ps:String}{af:Array Edge}{t:TypeId}{x y:Operand}{i k p:Nat}{s:Sv}{xs:List UInt8}{a v:UInt8}[ht:gV P t](hx:ev env x=some (.pointer (some ⟨s.b,p,none⟩)))(hy:ev env y=some (.int .u8 v.toNat))[q:fL L s aM 1 xs i](ha:xs[k]? =some a)(gW:p=s.o+k*1){L':List ak}[hu:fE L i (own aM 1 s (xs.set k v)) L'](hk:Sq P N w0 l Q rest env L'):
  Sq P N w0 l Q (⟨none, .store t x y,ty,ps,af,none⟩::rest) env L:=
 kP (j:=0) (n:=1) (a':=v) ht.size hx hy (q:=q) (by omega) ha (by simp[Value.cells,Value.oneCell']) rfl (by omega) (by rfl) hk
open Go.RowKit
section
variable {P:Program} {N:cE} {w0:World} {env:Env} {L:List ak} {Q:Exit→Act→World→Prop}
end
section
variable {P:Program} {n:Nat} {w0:World} {env:Env} {L:List ak} {Q:Exit→Act→World→Prop} {l:List Oper} {k:Nat} {rest:List Oper}
theorem w6{α:Type}{l rest:List α}{k:Nat}{o:α}(h:l.drop k=o::rest):l[k]? =some o∧l.drop (k+1)=rest:=by
 constructor
 ·
  have:=congrArg (·[0]?) h;simpa using this
 ·
  have:=congrArg (List.drop 1) h;simpa[List.drop_drop,Nat.add_comm]using this
end
open Go.RowKit
def omap(P:Program)(k:TypeId){α β:Type}(c0:α→Value)(dZ:β→Value)(b:Nat)(f:α→Option β):ak:=
  ⟨fun i=>i=b,fun h=> ∃(es:Array MapEntry) (clock:Nat) (m:List (α×β)),h b=some (.map es clock)∧es.toList.map (fun e=>(e.key,e.val))=m.map (fun p=>(c0 p.1,dZ p.2))∧
    (∀p∈m,∃l,keyOf P k (c0 p.1)=some l)∧(m.map Prod.fst).Nodup∧(∀x v,f x=some v↔(x,v)∈m),
   fun h h' e st=>by rw[e b rfl];exact st⟩
class xt(P:Program)(t:TypeId)(k e:outParam TypeId):Prop where
  eE:P.underlying t=some (.map k e)
class zy(P:Program)(k:TypeId):Prop where
  K:Maps.Keyed P k
class zA{α:Type}(c0:α→Value):Prop where
  inj: ∀{a b:α},c0 a=c0 b→a=b
class tK(P:Program)(L:List ak)(b:Nat){α β:outParam Type}(k:TypeId)(c0:outParam (α→Value))(dZ:outParam (β→Value))(f:outParam (α→Option β))(i:outParam Nat):Prop where
  h:L[i]? =some (omap P k c0 dZ b f)
instance (priority:=high) tK.here {P:Program}{L:List ak}{b:Nat}{α β:Type}{k:TypeId}{c0:α→Value}{dZ:β→Value}{f:α→Option β}:tK P (omap P k c0 dZ b f::L) b k c0 dZ f 0:=⟨rfl⟩
instance tK.there{P:Program}{L:List ak}{e:ak}{b:Nat}{α β:Type}{k:TypeId}{c0:α→Value}{dZ:β→Value}{f:α→Option β}{i:Nat}[q:tK P L b k c0 dZ f i]:tK P (e::L) b k c0 dZ f (i+1):=⟨by simpa using q.h⟩
theorem Mp{P:Program}{k:TypeId}{α β:Type}{c0:α→Value}{dZ:β→Value}{f:α→Option β}[K:zy P k][I:zA c0]{es:Array MapEntry}{m:List (α×β)}(h1:es.toList.map (fun e=>(e.key,e.val))=m.map (fun p=>(c0 p.1,dZ p.2)))
    (h2: ∀p∈m,∃l,keyOf P k (c0 p.1)=some l) (h3: ∀x v,f x=some v↔(x,v)∈m) {x:α} (hx: ∃l,keyOf P k (c0 x)=some l) (w:World):
    ((Instr.findKey k (c0 x) es.toList).run P w= .ok none w∧f x=none∧ ∀v,(x,v)∉m)∨ ∃(j:Nat) (v:β),(Instr.findKey k (c0 x) es.toList).run P w= .ok (some (j,dZ v)) w∧m[j]? =some (x,v)∧f x=some v∧(es[j]?).map (·.key)=some (c0 x):=by
  have hH: ∀j:Nat,(es.toList[j]?).map (fun e=>(e.key,e.val))=(m[j]?).map (fun p=>(c0 p.1,dZ p.2)):=fun j=>by rw[←List.getElem?_map,←List.getElem?_map,h1]
  have hQ: ∀e∈es.toList,∃l,keyOf P k e.key=some l:=fun e he=>by
    obtain⟨j,hj,rfl⟩:=List.getElem_of_mem he
    have:=hH j
    rw[List.getElem?_eq_getElem hj]at this
    cases hm:m[j]?with
    |none=>rw[hm]at this;cases this
    |some p=>
     rw[hm]at this
     simp only[Option.map_some,Option.some.injEq,Prod.mk.injEq]at this
     rw[this.1];exact h2 p (List.mem_of_getElem? hm)
  obtain⟨lx,sm⟩:=hx
  rcases K.K.find w sm es.toList hQ with⟨hr,hn⟩|⟨j,e,hr,hj,hk⟩
  ·have jl: ∀v,(x,v)∉m:=fun v hv=>by
      obtain⟨j,hj,UJ⟩:=List.getElem_of_mem hv
      have:=hH j
      rw[List.getElem?_eq_getElem hj,UJ]at this
      cases he:es.toList[j]?with
      |none=>rw[he]at this;cases this
      |some e=>
       rw[he]at this
       simp only[Option.map_some,Option.some.injEq,Prod.mk.injEq]at this
       exact hn e (List.mem_of_getElem? he) this.1
   refine .inl ⟨hr,?_,jl⟩
   cases hf:f x with
   |none=>rfl
   |some v=>exact absurd ((h3 x v).1 hf) (jl v)
  ·have:=hH j
   rw[hj]at this
   cases hm:m[j]?with
   |none=>rw[hm]at this;cases this
   |some p=>
    rw[hm]at this
    simp only[Option.map_some,Option.some.injEq,Prod.mk.injEq]at this
    have hp:p.1=x:=I.inj (this.1.symm.trans hk)
    refine .inr ⟨j,p.2,by rw[hr,this.2],by rw[hm,←hp],(h3 x p.2).2 (by rw[←hp];exact List.mem_of_getElem? hm),?_⟩
    have jt:es[j]? =some e:=by simpa using hj
    rw[jt,Option.map_some,hk]
section
variable {P:Program} {N:cE} {w0:World} {env:Env} {L:List ak} {d:Option Tmp} {ty:TypeId} {ps:String} {af:Array Edge} {gd:Option (Nat×Bool)} {α β:Type} {c0:α→Value} {dZ:β→Value} {f:α→Option β}
theorem run_getObj_map{w:World}{b:Nat}{es:Array MapEntry}{clock:Nat}(h:w.heap[b]? =some (.map es clock)):(getObj b).run P w= .ok (.map es clock) w:=by simp[getObj,Sem.run,h]
theorem run_setObj_map{w:World}{b:Nat}{es:Array MapEntry}{clock:Nat}(o:Obj)(h:w.heap[b]? =some (.map es clock)):(setObj b o).run P w= .ok () (w.putObj b o):=by simp[setObj,Sem.run,h,World.putObj]
theorem Gd{t k e:TypeId}{m x:Operand}{b i:Nat}{z:β}{v:α}[ht:xt P t k e][K:zy P k][I:zA c0][hz:fo P e (dZ z)](hm:ev env m=some (.map (some b)))(hx:ev env x=some (c0 v))[q:tK P L b k c0 dZ f i](hv: ∃l,keyOf P k (c0 v)=some l):
    Ry P N w0 env L ⟨d, .lookup t m x true,ty,ps,af,gd⟩ (.tuple #[dZ ((f v).getD z), .bool (f v).isSome]):=fun a w ha hw=>by
  obtain⟨es,clock,ml,h0,h1,h2,_,h3⟩:=hw.get q.h
  obtain⟨l,hl⟩:=hv
  have hc:=K.K.check w es.isEmpty hl
  simp only[execOp,ha.ev hm,ha.ev hx,Instr.lookup,Sem.run_bind,run_underlying ht.eE,Result.andThen,run_getObj_map h0,Sem.run_pure,hc]
  rcases Mp (P:=P) (k:=k) h1 h2 h3 ⟨l,hl⟩ w with⟨hr,hf,_⟩|⟨j,u,hr,_,hf,_⟩
  ·simp only[hr,hf,Option.getD_none,AN w hz,Sem.run_bind,Result.andThen,Sem.run_pure];rfl
  ·simp only[hr,hf,Option.getD_some,Sem.run_pure];rfl
end
section
variable {P:Program} {N:cE} {w0:World} {env:Env} {L:List ak} {l:List Oper} {Q:Exit→Act→World→Prop} {rest:List Oper} {d:Option Tmp} {ty:TypeId} {ps:String} {af:Array Edge} {α β:Type} {c0:α→Value} {dZ:β→Value} {f:α→Option β}
theorem Mem.Mq{w:World}(P:Program)(k:TypeId)(c0:α→Value)(dZ:β→Value)(h:Mem w0 L w):Mem w0 (omap P k c0 dZ w.heap.size (fun _=>none)::L) (w.alloc (.map #[] 0)):=by
  refine h.call (E:=[omap P k c0 dZ w.heap.size (fun _=>none)]) ⟨(Below.refl _ _).alloc (Nat.le_refl _) _,fun e he=> ?_,fun e he j hj=> ?_,by simp⟩
  ·obtain rfl:e=omap P k c0 dZ w.heap.size (fun _=>none):=by simpa using he
   exact⟨#[],0,[],Below.AA w _,rfl,by simp,by simp,by simp⟩
  ·obtain rfl:e=omap P k c0 dZ w.heap.size (fun _=>none):=by simpa using he
   have:j=w.heap.size:=hj
   subst this;simp
theorem UK{t k e:TypeId}(c0:α→Value)(dZ:β→Value){r:Operand}{kk:IntKind}{n:Int}[ht:xt P t k e](hr:ev env r=some (.int kk n))(hk: ∀b,Sq P N w0 l Q rest (cy env d (.map (some b))) (omap P k c0 dZ b (fun _=>none)::L))(hd:dn N d=true:=by rfl):
    Sq P N w0 l Q (⟨d, .makeMap t (some r),ty,ps,af,none⟩::rest) env L:=
  mA rfl hd fun a w ha hw=>⟨_,_,_,by
    simp only[execOp,Option.map_some,ha.ev hr,Instr.makeMap,Sem.run_bind,run_underlying ht.eE,Result.andThen,Sem.run_pure,asInt,asIntOf,newObj,Sem.run]
    rfl,hw.Mq P k c0 dZ,hk _⟩
theorem Mr{t k e:TypeId}(c0:α→Value)(dZ:β→Value)[ht:xt P t k e](hk: ∀b,Sq P N w0 l Q rest (cy env d (.map (some b))) (omap P k c0 dZ b (fun _=>none)::L))(hd:dn N d=true:=by rfl):
    Sq P N w0 l Q (⟨d, .makeMap t none,ty,ps,af,none⟩::rest) env L:=
  mA rfl hd fun a w ha hw=>⟨_,_,_,by
    simp only[execOp,Option.map_none,Instr.makeMap,Sem.run_bind,Result.andThen,Sem.run_pure,newObj,Sem.run]
    rfl,hw.Mq P k c0 dZ,hk _⟩
theorem UL{t k e:TypeId}{m x y:Operand}{b i:Nat}{v:α}{u:β}[DecidableEq α][ht:xt P t k e][K:zy P k][I:zA c0](hm:ev env m=some (.map (some b)))(hx:ev env x=some (c0 v))(hy:ev env y=some (dZ u))[q:tK P L b k c0 dZ f i](hv: ∃l,keyOf P k (c0 v)=some l)
    {L':List ak} [hu:fE L i (omap P k c0 dZ b (fun z=>if z=v then some u else f z)) L'] {a:Act} {w:World} (ha:db N env a) (hw:Mem w0 L w):
    ∃w',(execOp a.eval ⟨none, .mapUpdate t m x y,ty,ps,af,none⟩).run P w= .ok .skip w'∧Mem w0 L' w':=by
  obtain⟨es,clock,ml,h0,h1,h2,cB,h3⟩:=hw.get q.h
  obtain⟨lk,hl⟩:=hv
  have hc:=K.K.check w false hl
  have bH:=K.K.stays w hl
  have step: ∀o:Obj,(omap P k c0 dZ b (fun z=>if z=v then some u else f z)).sat (fun j=>(w.putObj b o).heap[j]?)→Mem w0 L' (w.putObj b o):=fun o ho=>by
    rw[←hu.h]
    exact hw.change q.h (fun j hj=>hj) (fun j hj=>World.putObj_heap_other (fun e=>hj e)) World.putObj_size ⟨rfl,rfl,rfl⟩ ho
  have bx:b<w.heap.size:=(Array.getElem?_eq_some_iff.1 h0).1
  rcases Mp (P:=P) (k:=k) h1 h2 h3 ⟨lk,hl⟩ w with⟨hr,hf,jl⟩|⟨j,u0,hr,hj,hf,UM⟩
  ·refine⟨w.putObj b (.map (es.push {key:=c0 v,val:=dZ u,born:=clock}) (clock+1)),?_,step _ ⟨_,_,ml++[(v,u)],World.putObj_heap_same bx,?_,?_,?_,?_⟩⟩
   ·simp only[execOp,ha.ev hm,ha.ev hx,ha.ev hy,Instr.mapUpdate,Sem.run_bind,run_underlying ht.eE,Result.andThen,run_getObj_map h0,hc,hr,run_setObj_map _ h0,Sem.run_pure]
   ·simp[h1]
   ·intro p hp
    rcases List.mem_append.1 hp with hp|hp
    ·exact h2 p hp
    ·obtain rfl:p=(v,u):=by simpa using hp
     exact⟨lk,hl⟩
   ·rw[List.map_append,List.nodup_append]
    refine⟨cB,by simp,fun x1 mZ y1 zB e1=> ?_⟩
    obtain rfl:y1=v:=by simpa using zB
    subst e1
    obtain⟨p,hp,rfl⟩:=List.mem_map.1 mZ
    exact jl p.2 hp
   ·intro x' v'
    show(if x'=v then some u else f x')=some v'↔_
    by_cases e:x'=v
    ·subst e;rw[if_pos rfl]
     constructor
     ·intro h;cases h;simp
     ·intro h
      rcases List.mem_append.1 h with h|h
      ·exact absurd h (jl v')
      ·simp at h;rw[h]
    ·rw[if_neg e,h3 x' v'];simp[e]
  ·have iZ:j<ml.length:=(List.getElem?_eq_some_iff.1 hj).1
   refine⟨w.putObj b (.map (es.modify j fun e=>{e with key:=c0 v,val:=dZ u}) clock),?_,step _ ⟨_,_,ml.set j (v,u),World.putObj_heap_same bx,?_,?_,?_,?_⟩⟩
   ·simp only[execOp,ha.ev hm,ha.ev hx,ha.ev hy,Instr.mapUpdate,Sem.run_bind,run_underlying ht.eE,Result.andThen,run_getObj_map h0,hc,hr,UM,Option.getD_some,bH,run_setObj_map _ h0,Sem.run_pure]
   ·refine List.ext_getElem? fun n=> ?_
    have:=congrArg (·[n]?) h1
    simp only[List.getElem?_map]at this⊢
    rw[List.getElem?_set]
    by_cases e:j=n
    ·subst e
     rw[if_pos rfl,if_pos iZ]
     rw[hj]at this
     cases he:es.toList[j]?with
     |none=>rw[he]at this;cases this
     |some e0=>
      have pW:es[j]? =some e0:=by simpa using he
      simp[Array.getElem?_modify,pW]
    ·rw[if_neg e,←this]
     simp[Array.getElem?_modify,e]
   ·intro p hp
    rcases List.mem_or_eq_of_mem_set hp with hp|rfl
    ·exact h2 p hp
    ·exact⟨lk,hl⟩
   ·rw[List.map_set]
    have:(ml.map Prod.fst)[j]? =some v:=by rw[List.getElem?_map,hj];rfl
    rw[show(ml.map Prod.fst).set j (v,u).1=ml.map Prod.fst from by
        refine List.ext_getElem? fun n=> ?_
        rw[List.getElem?_set]
        by_cases e:j=n
        ·subst e;rw[if_pos rfl,if_pos (by simpa using iZ),this]
        ·rw[if_neg e]]
    exact cB
   ·intro x' v'
    have UN: ∀n p,ml[n]? =some p→p.1=v→n=j:=fun n p hn hp=>by
        have a1:(ml.map Prod.fst)[n]? =some v:=by rw[List.getElem?_map,hn,Option.map_some,hp]
        have a2:(ml.map Prod.fst)[j]? =some v:=by rw[List.getElem?_map,hj];rfl
        exact(List.getElem?_inj (by simpa using(List.getElem?_eq_some_iff.1 hn).1) cB).1 (a1.trans a2.symm)
    show(if x'=v then some u else f x')=some v'↔_
    by_cases e:x'=v
    ·subst e;rw[if_pos rfl]
     constructor
     ·intro h;cases h
      exact List.mem_of_getElem? (i:=j) (by rw[List.getElem?_set,if_pos rfl,if_pos iZ])
     ·intro h
      obtain⟨n,hn⟩:=List.mem_iff_getElem?.1 h
      rw[List.getElem?_set]at hn
      by_cases en:j=n
      ·rw[if_pos en,if_pos iZ]at hn;simp only[Option.some.injEq,Prod.mk.injEq,true_and]at hn;rw[hn]
      ·rw[if_neg en]at hn;exact absurd (UN n _ hn rfl).symm en
    ·rw[if_neg e,h3 x' v']
     constructor
     ·intro h
      obtain⟨n,hn⟩:=List.mem_iff_getElem?.1 h
      refine List.mem_of_getElem? (i:=n) ?_
      rw[List.getElem?_set,if_neg,hn]
      rintro rfl
      rw[hj]at hn;simp only[Option.some.injEq,Prod.mk.injEq]at hn;exact e hn.1.symm
     ·intro h
      rcases List.mem_or_eq_of_mem_set h with h|h
      ·exact h
      ·simp only[Prod.mk.injEq]at h;exact absurd h.1 e
theorem Ge{t k e:TypeId}{m x y:Operand}{b i:Nat}{v:α}{u:β}[DecidableEq α][ht:xt P t k e][K:zy P k][I:zA c0](hm:ev env m=some (.map (some b)))(hx:ev env x=some (c0 v))(hy:ev env y=some (dZ u))[q:tK P L b k c0 dZ f i](hv: ∃l,keyOf P k (c0 v)=some l)
    {L':List ak} [hu:fE L i (omap P k c0 dZ b (fun z=>if z=v then some u else f z)) L'] (hk:Sq P N w0 l Q rest env L'):
    Sq P N w0 l Q (⟨none, .mapUpdate t m x y,ty,ps,af,none⟩::rest) env L:=
  AS rfl rfl fun a w ha hw=>by
    obtain⟨w',h1,h2⟩:=UL (t:=t) (k:=k) (e:=e) (ty:=ty) (ps:=ps) (af:=af) hm hx hy hv (L':=L') ha hw
    exact⟨w',L',h1,h2,hk⟩
end
open Go.Kb Go.RowKit
theorem Gf{w0 w:World}{L R:List ak}{e:ak}{i:Nat}(q:L[i]? =some e)(d:L.eraseIdx i=R)(h:Mem w0 L w):Mem w0 (e::R) w:=by
 have:=h.perm (nu q);rwa [d]at this
theorem sq{w0 w:World}{L R1 R2:List ak}{e1 e2:ak}{i j:Nat}(h1:L[i]? =some e1)(d1:L.eraseIdx i=R1)(h2:R1[j]? =some e2)(d2:R1.eraseIdx j=R2)(h:Mem w0 L w):Mem w0 (e1::e2::R2) w:=by
 subst d1;subst d2
 exact h.perm ((nu h1).trans ((nu h2).cons _))
instance (priority:=low) ai.drop {L L':List ak}{e:ak}[k:ai L L']:ai (e::L) L':=⟨by
 obtain⟨R,hR⟩:=k.h
 exact⟨e::R,(hR.cons e).trans List.perm_middle.symm⟩⟩
section
variable {P:Program} {N:cE} {w0:World} {env:Env} {L:List ak} {Q:Exit→Act→World→Prop} {d:Option Tmp} {ty:TypeId} {ps:String} {af:Array Edge} {gd:Option (Nat×Bool)} {K:Value→List ak→Prop}
theorem Ry.to{o:Oper}{v v':Value}(h:Ry P N w0 env L o v)(e:v=v'):Ry P N w0 env L o v':=e▸h
theorem Cv{f:FuncId}{x:Operand}{jW:Array Value}{xs:List Operand}{ts:Array TypeId}{vs:List Value}{v:Value}[hf:aR P f](hx:ev env x=some (.func (.func f) #[] jW))(UO:hU env xs=some vs)
  (hc: ∀w,Mem w0 L w→Calls P f (vs++jW.toList).toArray w fun e w'=>e= .returned v∧Mem w [] w'):
  Yl P N w0 env L ⟨d, .call {callee:= .value x,args:=xs.toArray,argTypes:=ts},ty,ps,af,gd⟩ v:=fun a ha w hw=>by
 unfold Oper.quietAt
 obtain⟨fn,h1,h2,h3⟩:=hf.fn
 have D6: ¬fn.body=none:=fun e=>by simp[e]at h2
 have we: ¬fn.name= "runtime.NumGoroutine" :=by simpa using h3
 have e:(execOp a.eval ⟨d, .call {callee:= .value x,args:=xs.toArray,argTypes:=ts},ty,ps,af,gd⟩).run P w= .ok (.enter f (vs++jW.toList).toArray) w:=by
  have hm:=ha.hU UO
  simp[execOp,resolve,ha.ev hx,Deferred.ofValue,invoke,callFunc,h1,D6,we,Result.andThen,←hm]
 rw[e]
 exact⟨rfl,hc w hw⟩
theorem Gj{f:Fn}{xs:List Operand}{vs:List Value}(hx:hU env xs=some vs):Ry P N w0 env L ⟨d, .makeFunc f #[] xs.toArray,ty,ps,af,gd⟩ (.func f #[] vs.toArray):=fun a w ha _=>by
 have hm:=ha.hU hx
 simp[execOp,Instr.makeFunc,Result.andThen,←hm]
instance (s:Sv):cm (qS s) 0 s.val:=⟨rfl⟩
instance (s:Sv):cm s.val.cells 0 s.val:=⟨by rw[Sv.jc];rfl⟩
variable {s:Sv} {xs:List Nd} {a:Nd}
end
end Go.ay
namespace Go.Proofs.YtaipiecplldinaaGreat
open Go.ay Go.Kb
open Go.RowKit
instance:fo Tryz.prog 94 (.agg (dj wP)):=⟨by kernel_rfl⟩
instance:fo Tryz.prog 48 (.agg (bX ou)):=⟨by kernel_rfl⟩
instance:fo Tryz.prog 25 (.agg (aF gh)):=⟨by kernel_rfl⟩
instance:fo Tryz.prog 5 (.int .u8 0):=⟨by kernel_rfl⟩
instance:fo Tryz.prog 38 (.slice none 0 0):=⟨by kernel_rfl⟩
theorem UP(w:World)(b:Int)(n:Int)(s:Int):Calls Tryz.prog 65 #[.int .i64 b, .int .i64 n, .int .i64 s] w fun e w'=>e= .returned (.bool (q6 b n s))∧Mem w [] w':=by
 refine bh (args:=[_,_,_]) Tryz.func65 rfl Tryz.ntmps65 rfl ?_
 change Cw _ _ _ _ _ [(0, .int .i64 b),(1, .int .i64 n),(2, .int .i64 s)] []
 refine Gc ?_
 refine Gs ?_
 refine Gc ?_
 iterate 3 refine Gs ?_
 iterate 2 refine Gg ?_
 iterate 2 refine Gs ?_
 iterate 2 refine Gg ?_
 iterate 2 refine Gs ?_
 iterate 2 refine Gg ?_
 iterate 2 refine Gs ?_
 iterate 2 refine Gg ?_
 iterate 2 refine Gs ?_
 iterate 2 refine Gg ?_
 iterate 2 refine Gs ?_
 refine Gc ?_
 refine au (.inl rfl) (aQ rfl (aq rfl)) (fun w1 hw=> ?_)
 exact⟨congrArg (fun b=>Ending.returned (Value.bool b)) (rfl),ai.mem hw⟩
instance agy{w0:World}{L:List ak}{b:Int}{n:Int}{s:Int}:cR Tryz.prog 65 w0 L [.int .i64 b, .int .i64 n, .int .i64 s] (.bool (q6 b n s)) (True):=⟨fun hp w hw=>UP w b n s⟩
theorem UQ(w:World)(c:Cp)(hc:Deep.aZ (hp w) c):Calls Tryz.prog 68 #[.agg (aF c)] w fun e w'=>e= .returned (.bool (aT (cv c)))∧Mem w [] w':=by
 have kl:cM w c:=⟨hc⟩
 have dF:=gD c.blocks.xs
 have bR:aT (cv c)=true↔q6 c.blocks.xs.length c.ae c.size=true∧0≤c.ops∧c.ops≤cN∧c.aX.xs.length≤64∧ ∀b∈iE c.blocks.xs,ow c.ae c.size b=true:=by rw[eL];simp only[cv,dF]
 have pq:cN=1099511627776:=rfl
 refine bh (args:=[_]) Tryz.func68 rfl Tryz.ntmps68 rfl ?_
 change Cw _ _ _ _ _ [(0, .agg (aF c))] []
 refine Gc ?_
 refine cA rfl fun b1=> ?_
 refine Gs ?_
 refine Gc ?_
 iterate 10 refine Gs ?_
 iterate 3 refine Gg ?_
 iterate 2 refine Gs ?_
 iterate 3 refine Gg ?_
 iterate 2 refine Gs ?_
 iterate 4 refine Gg ?_
 refine Gs ?_
 refine Gc ?_
 refine av rfl (fun h0=> ?_) (fun h0=> ?_)
 ·
  replace h0:=bz h0
  have hz:aT (cv c)=false:=by
   cases hk:aT (cv c)with
   |false=>rfl
   |true=>
    have g:=bR.1 hk
    rw[g.1]at h0
    simp only[Bool.true_eq_false,false_or]at h0
    omega
  refine Gc ?_
  refine Gs ?_
  refine Gc ?_
  refine au (.inl rfl) (aQ rfl (aq rfl)) (fun w1 hw=> ?_)
  exact⟨congrArg (fun b=>Ending.returned (Value.bool b)) (hz.symm),ai.mem hw⟩
 ·
  replace h0:=bz h0
  have g0:q6 c.blocks.xs.length c.ae c.size=true∧0≤c.ops∧c.ops≤cN∧c.aX.xs.length≤64:=by
   cases hk:q6 c.blocks.xs.length c.ae c.size with
   |false=>rw[hk]at h0;simp at h0
   |true=>rw[hk]at h0;simp only[Bool.true_eq_false,not_false_eq_true,true_and]at h0;exact⟨rfl,by omega,by omega,by omega⟩
  have gs:=kR.1 g0.1
  refine Gc ?_
  iterate 4 refine Gs ?_
  refine Gc ?_
  refine ct (X:=Nat) (fun zz=>[(35, .int .i64 (zz:Nat)),(1, .pointer (some ⟨b1,0,none⟩)),(33,c.blocks.sv.val),(34, .int .i64 (c.blocks.xs.length:Nat))]) (fun zz=>[ar b1 (aF c) 25]) (fun zz=>zz≤c.blocks.xs.length∧ ∀j b,j<zz→(iE c.blocks.xs)[j]? =Option.some b→ow c.ae c.size b=true) (fun zz=>c.blocks.xs.length -zz) 0 ⟨Nat.zero_le _,fun j b hj=>by first|omega|(simp only[];omega)⟩ (Sub.cons rfl (Sub.cons rfl (Sub.cons rfl (Sub.cons rfl (Sub.nil _))))) (fun w hw=>ai.mem hw) ?_
  rintro i ⟨bl,aH⟩
  refine Gc ?_
  refine Gs ?_
  refine Gc ?_
  refine av rfl (fun h1=> ?_) (fun h1=> ?_)
  ·
   replace h1:=bz h1
   iterate 6 refine Gi ?_
   obtain⟨x,hx⟩:=get_some (xs:=c.blocks.xs) (i:=i) (by omega)
   refine ah (bo rfl rfl i rfl (by omega)) ?_
   refine ah (jb rfl i hx rfl) ?_
   have agz:Mb x c.blocks:=⟨List.mem_of_getElem? hx⟩
   refine bM fun b4=> ?_
   refine Gs ?_
   refine Gc ?_
   iterate 7 refine Gs ?_
   iterate 3 refine Gg ?_
   iterate 2 refine Gs ?_
   iterate 5 refine Gg ?_
   iterate 2 refine Gs ?_
   iterate 3 refine Gg ?_
   iterate 2 refine Gs ?_
   iterate 3 refine Gg ?_
   refine Gs ?_
   refine Gc ?_
   refine av rfl (fun h2=> ?_) (fun h2=> ?_)
   ·
    replace h2:=bz h2
    have hz:aT (cv c)=false:=by
     cases hk:aT (cv c)with
     |false=>rfl
     |true=>
      have g:=eX.1 ((bR.1 hk).2.2.2.2 (bv x) (List.mem_of_getElem? (lK hx)))
      simp only[bv,mN]at g
      omega
    refine Gc ?_
    refine Gs ?_
    refine Gc ?_
    refine au (.inl rfl) (aQ rfl (aq rfl)) (fun w1 hw=> ?_)
    exact⟨congrArg (fun b=>Ending.returned (Value.bool b)) (hz.symm),ai.mem hw⟩
   ·
    replace h2:=bz h2
    refine Gc ?_
    iterate 4 refine Gs ?_
    refine Gc ?_
    refine ct (X:=Nat) (fun zz=>[(70, .int .i64 (zz:Nat)),(1, .pointer (some ⟨b1,0,none⟩)),(33,c.blocks.sv.val),(34, .int .i64 (c.blocks.xs.length:Nat)),(35, .int .i64 (i:Nat)),(68,x.ae.sv.val),(69, .int .i64 (x.ae.xs.length:Nat))]) (fun zz=>[ar b4 (bX x) 48,ar b1 (aF c) 25]) (fun zz=>zz≤x.ae.xs.length∧ ∀k y,k<zz→(bv x).ae[k]? =Option.some y→(y.length:Int)=c.size) (fun zz=>x.ae.xs.length -zz) 0 ⟨Nat.zero_le _,fun k y hk=>by first|omega|(simp only[];omega)⟩ (Sub.cons rfl (Sub.cons rfl (Sub.cons rfl (Sub.cons rfl (Sub.cons rfl (Sub.cons rfl (Sub.cons rfl (Sub.nil _)))))))) (fun w hw=>ai.mem hw) ?_
    rintro j ⟨iV,dO⟩
    refine Gc ?_
    refine Gs ?_
    refine Gc ?_
    refine av rfl (fun h3=> ?_) (fun h3=> ?_)
    ·
     replace h3:=bz h3
     iterate 6 refine Gi ?_
     obtain⟨y,hy⟩:=get_some (xs:=x.ae.xs) (i:=j) (by omega)
     refine ah (bo rfl rfl j rfl (by omega)) ?_
     refine ah (bO (j:=0) rfl j hy rfl (by decide)) ?_
     have agA:Mb y _:=⟨List.mem_of_getElem? hy⟩
     refine Gs ?_
     refine Gc ?_
     iterate 5 refine Gs ?_
     refine Gc ?_
     refine av rfl (fun h4=> ?_) (fun h4=> ?_)
     ·
      replace h4:=bz h4
      have hz:aT (cv c)=false:=by
       cases hk:aT (cv c)with
       |false=>rfl
       |true=>
        have g:=(eX.1 ((bR.1 hk).2.2.2.2 (bv x) (List.mem_of_getElem? (lK hx)))).2.2.2.2.2 y.xs (List.mem_of_getElem? (ov hy))
        omega
      refine Gc ?_
      refine Gs ?_
      refine Gc ?_
      refine au (.inl rfl) (aQ rfl (aq rfl)) (fun w1 hw=> ?_)
      exact⟨congrArg (fun b=>Ending.returned (Value.bool b)) (hz.symm),ai.mem hw⟩
     ·
      replace h4:=bz h4
      refine Gc ?_
      iterate 2 refine Gs ?_
      refine Gi ?_
      exact bI (x:=(j)) (j+1) ⟨by first|omega|(simp only[];omega),fun k z hk hz=>if e:k=j then(by subst e;rw[show(bv x).ae=aK x.ae.xs from rfl,ov hy]at hz;cases hz;omega)else dO k z (by first|omega|(simp only[];omega)) hz⟩ (by first|omega|(simp only[];omega)) (Sub.cons rfl (Sub.cons rfl (Sub.cons rfl (Sub.cons rfl (Sub.cons rfl (Sub.cons rfl (Sub.cons rfl (Sub.nil _)))))))) (fun w hw=>ai.mem hw)
    ·
     replace h3:=bz h3
     have tD:ow c.ae c.size (bv x)=true:=eX.2 ⟨by simp only[bv,mN];omega,by simp only[bv];omega,by simp only[bv];omega,by simp only[bv];omega,by simp only[bv];omega,fun y hy=>by
      obtain⟨k,hk⟩:=List.getElem?_of_mem hy
      exact dO k y (by have h:=(List.getElem?_eq_some_iff.1 hk).1;simp only[bv,mN]at h;omega) hk⟩
     refine Gc ?_
     iterate 2 refine Gs ?_
     refine Gi ?_
     exact bI (x:=(i)) (i+1) ⟨by first|omega|(simp only[];omega),fun j b hj hb=>if e:j=i then(by subst e;rw[lK hx]at hb;cases hb;exact tD)else aH j b (by first|omega|(simp only[];omega)) hb⟩ (by first|omega|(simp only[];omega)) (Sub.cons rfl (Sub.cons rfl (Sub.cons rfl (Sub.cons rfl (Sub.nil _))))) (fun w hw=>ai.mem hw)
  ·
   replace h1:=bz h1
   obtain rfl:i=c.blocks.xs.length:=by omega
   have hz:aT (cv c)=true:=bR.2 ⟨g0.1,g0.2.1,g0.2.2.1,g0.2.2.2,fun b hb=>by
    obtain⟨j,hj⟩:=List.getElem?_of_mem hb
    exact aH j b (by have:=(List.getElem?_eq_some_iff.1 hj).1;omega) hj⟩
   refine Gc ?_
   refine Gs ?_
   refine Gc ?_
   refine au (.inl rfl) (aQ rfl (aq rfl)) (fun w1 hw=> ?_)
   exact⟨congrArg (fun b=>Ending.returned (Value.bool b)) (hz.symm),ai.mem hw⟩
instance agB{w0:World}{L:List ak}{c:Cp}[hc:aW w0 L c]:cR Tryz.prog 68 w0 L [.agg (aF c)] (.bool (aT (cv c))) (True):=⟨fun hp w hw=>UQ w c (hc.h w hw)⟩
open Go.ay Go.Kb
open Go.RowKit
theorem UR{xs:List UInt8}{k i:Nat}(h:k+i<xs.length):(xs.take k++(List.replicate i 255++xs.drop (k+i))).set (k+i) 255=xs.take k++(List.replicate (i+1) 255++xs.drop (k+(i+1))):=by
 rw[List.set_append_right _ _ (by rw[List.length_take];omega),List.length_take,Nat.min_eq_left (by omega),Nat.add_sub_cancel_left,List.set_append_right _ _ (by simp),List.length_replicate,Nat.sub_self,List.drop_eq_getElem_cons h,List.set_cons_zero,List.replicate_succ',List.append_assoc,List.singleton_append,Nat.add_assoc]
theorem US(w0 w:World)(L:List ak)(rm:Sv)(k:Nat)(n:Nat)(cap:Nat)(xs:List UInt8)(hw:Mem w0 (own aM 1 rm xs::L) w)(bf:k+n≤xs.length∧n≤1000000):Calls Tryz.prog 66 #[.slice (some ⟨rm.b,rm.o+k,none⟩) n cap] w fun e w'=> ∃zz:Unit,e= .returned (.tuple #[])∧(True)∧Mem w0 (own aM 1 rm (xs.take k++(List.replicate n 255++xs.drop (k+n)))::L) w':=by
 obtain⟨lq,kg⟩:=bf
 refine kv (args:=[_]) Tryz.func66 rfl Tryz.ntmps66 rfl hw ?_
 change Cw _ _ _ _ _ [(0, .slice (some ⟨rm.b,rm.o+k,none⟩) n cap)] (own aM 1 rm xs::L)
 refine Gc ?_
 refine Gs ?_
 refine ah (uB rfl) ?_
 refine Gs ?_
 refine Gc ?_
 refine ct (X:=Nat×List UInt8) (fun zz=>[(5, .int .i64 (zz.1:Nat)),(0, .slice (some ⟨rm.b,rm.o+k,none⟩) n cap),(4, .int .i64 (n:Nat))]) (fun zz=>own aM 1 rm zz.2::L) (fun zz=>zz.1≤n∧zz.2=xs.take k++(List.replicate zz.1 255++xs.drop (k+zz.1))) (fun zz=>n -zz.1) (0,xs) ⟨Nat.zero_le _,by simp⟩ (Sub.cons rfl (Sub.cons rfl (Sub.cons rfl (Sub.nil _)))) (fun w hw=>ai.mem hw) ?_
 rintro⟨i,zs⟩ ⟨bl,aH⟩
 dsimp only
 simp only at bl aH
 have sr:zs.length=xs.length:=by rw[aH];simp only[List.length_append,List.length_take,List.length_replicate,List.length_drop];omega
 refine Gc ?_
 refine Gs ?_
 refine Gc ?_
 refine av rfl (fun h0=> ?_) (fun h0=> ?_)
 ·
  replace h0:=bz h0
  refine Gc ?_
  iterate 2 refine Gs ?_
  refine Gc ?_
  iterate 2 refine Gs ?_
  refine ah (IJ (b:=rm.b) (o:=rm.o+k) (len:=n) (cap:=cap) rfl rfl (by omega) (by omega)) ?_
  obtain⟨z,hz⟩:=get_some (xs:=zs) (i:=k+i) (by omega)
  refine kP (s:=rm) (n:=1) (k:=k+i) (j:=0) (a:=z) (a':=(255:UInt8)) (xs:=zs) (enc:=aM) (c:=1) (v:= .int .u8 255) (by kernel_rfl) rfl rfl (by omega) hz (by simp[Value.cells,Value.oneCell']) rfl (by omega) (by rfl) ?_
  refine Gc ?_
  iterate 2 refine Gs ?_
  refine Gi ?_
  exact bI (x:=(i,zs)) (i+1,zs.set (k+i) 255) ⟨by first|omega|(simp only[];omega),by rw[aH];exact UR (by first|omega|(simp only[];omega))⟩ (by simp only;omega) (Sub.cons rfl (Sub.cons rfl (Sub.cons rfl (Sub.nil _)))) (fun w hw=>ai.mem hw)
 ·
  replace h0:=bz h0
  obtain rfl:i=n:=by omega
  refine Gc ?_
  refine au (.inr rfl) (Gb rfl) (fun w1 hw=> ?_)
  exact⟨(),rfl,trivial,by rw[←aH];exact ai.mem hw⟩
instance UT{w0:World}{L L2:List ak}{i:Nat}{rm:Sv}{k:Nat}{n:Nat}{cap:Nat}{xs:List UInt8}[q:fL L rm aM 1 xs i][d1:dx L i L2]:cw Tryz.prog 66 w0 L [.slice (some ⟨rm.b,rm.o+k,none⟩) n cap] (Unit) (fun zz=> .tuple #[]) (fun zz=>own aM 1 rm (xs.take k++(List.replicate n 255++xs.drop (k+n)))::L2) (fun zz=>True) (k+n≤xs.length∧n≤1000000):=⟨fun hp w hw=>US w0 w L2 rm k n cap xs (Gf q.h d1.h hw) hp⟩
theorem UU(w:World)(s:Sv)(ss:List Bk)(hs:bW bX 4 (hp w) s ss)(bf:ss.length≤1000000):Calls Tryz.prog 107 #[s.val] w fun e w'=> ∃zz:Sv,e= .returned (zz.val)∧(True)∧Mem w [own bX 4 zz ss] w':=by
 have vz:Gv w s bX 4 ss:=⟨hs⟩
 refine bh (args:=[_]) Tryz.func107 rfl Tryz.ntmps107 rfl ?_
 change Cw _ _ _ _ _ [(0,s.val)] []
 refine Gc ?_
 refine Gs ?_
 refine Gc ?_
 refine Gs ?_
 refine ah (rS Tryz.underlying22 rfl) ?_
 refine Gc ?_
 refine av rfl (fun h0=> ?_) (fun h0=> ?_)
 ·
  replace h0:=bz h0
  have e0:ss=[]:=List.length_eq_zero_iff.1 (by have:=hs.ok.nil h0;have:=hs.len;omega)
  refine Gc ?_
  refine Gs ?_
  refine Gc ?_
  refine au (.inl rfl) (aQ rfl (aq rfl)) (fun w1 hw=> ?_)
  exact⟨Sv.none,rfl,trivial,by rw[e0];exact(ai.mem hw:Mem w [] _).dQ bX 4⟩
 ·
  replace h0:=bz h0
  refine Gc ?_
  refine ti bX fun b5=> ?_
  refine Gs ?_
  refine lZ (s:=⟨false,b5,0,0,0,none⟩) (enc:=bX) (ys:=ss) rfl rfl (by decide) (fun w hw=>kO (s:=s) Tryz.underlying22 (by decide) ((inferInstance:c8 _ _ bX 4 s ss).h w hw)) (by simp only[List.length_nil];omega) (by simp only[List.length_nil];omega) fun s7 vA tL=> ?_
  refine Gs ?_
  refine Gc ?_
  refine au (.inl rfl) (aQ rfl (aq rfl)) (fun w1 hw=> ?_)
  exact⟨s7,rfl,trivial,by rw[List.nil_append]at hw;exact ai.mem hw⟩
instance agC{w0:World}{L:List ak}{s:Sv}{ss:List Bk}[hs:c8 w0 L bX 4 s ss]:cw Tryz.prog 107 w0 L [s.val] (Sv) (fun zz=>zz.val) (fun zz=>own bX 4 zz ss::L) (fun zz=>True) (ss.length≤1000000):=⟨fun hp w hw=>(UU w s ss (hs.h w hw) hp).mono fun e w' ⟨x,h1,h2,h3⟩=>⟨x,h1,h2,hw.call h3⟩⟩
theorem UW(w:World)(s:Sv)(ss:List Ft)(hs:bW dj 4 (hp w) s ss)(bf:ss.length≤1000000):Calls Tryz.prog 69 #[s.val] w fun e w'=> ∃zz:Sv,e= .returned (zz.val)∧(True)∧Mem w [own dj 4 zz ss] w':=by
 have vz:Gv w s dj 4 ss:=⟨hs⟩
 refine bh (args:=[_]) Tryz.func69 rfl Tryz.ntmps69 rfl ?_
 change Cw _ _ _ _ _ [(0,s.val)] []
 refine Gc ?_
 refine Gs ?_
 refine Gc ?_
 refine Gs ?_
 refine ah (rS Tryz.underlying23 rfl) ?_
 refine Gc ?_
 refine av rfl (fun h0=> ?_) (fun h0=> ?_)
 ·
  replace h0:=bz h0
  have e0:ss=[]:=List.length_eq_zero_iff.1 (by have:=hs.ok.nil h0;have:=hs.len;omega)
  refine Gc ?_
  refine Gs ?_
  refine Gc ?_
  refine au (.inl rfl) (aQ rfl (aq rfl)) (fun w1 hw=> ?_)
  exact⟨Sv.none,rfl,trivial,by rw[e0];exact(ai.mem hw:Mem w [] _).dQ dj 4⟩
 ·
  replace h0:=bz h0
  refine Gc ?_
  refine ti dj fun b5=> ?_
  refine Gs ?_
  refine lZ (s:=⟨false,b5,0,0,0,none⟩) (enc:=dj) (ys:=ss) rfl rfl (by decide) (fun w hw=>kO (s:=s) Tryz.underlying23 (by decide) ((inferInstance:c8 _ _ dj 4 s ss).h w hw)) (by simp only[List.length_nil];omega) (by simp only[List.length_nil];omega) fun s7 vA tL=> ?_
  refine Gs ?_
  refine Gc ?_
  refine au (.inl rfl) (aQ rfl (aq rfl)) (fun w1 hw=> ?_)
  exact⟨s7,rfl,trivial,by rw[List.nil_append]at hw;exact ai.mem hw⟩
instance agD{w0:World}{L:List ak}{s:Sv}{ss:List Ft}[hs:c8 w0 L dj 4 s ss]:cw Tryz.prog 69 w0 L [s.val] (Sv) (fun zz=>zz.val) (fun zz=>own dj 4 zz ss::L) (fun zz=>True) (ss.length≤1000000):=⟨fun hp w hw=>(UW w s ss (hs.h w hw) hp).mono fun e w' ⟨x,h1,h2,h3⟩=>⟨x,h1,h2,hw.call h3⟩⟩
theorem UX(w:World)(ps:Sl (Sl UInt8))(zC:Deep.aZ (hp w) ps)(bf:E9 (aK ps.xs)):Calls Tryz.prog 108 #[ps.sv.val] w fun e w'=> ∃zz:Sl (Sl UInt8),e= .returned (zz.sv.val)∧(aK zz.xs=aK ps.xs)∧Mem w [eW zz] w':=by
 have agE:cM w ps:=⟨zC⟩
 obtain⟨lq,kg⟩:=bf
 have bE:=mN ps.xs
 rw[bE]at lq
 refine bh (args:=[_]) Tryz.func108 rfl Tryz.ntmps108 rfl ?_
 change Cw _ _ _ _ _ [(0,ps.sv.val)] []
 refine Gc ?_
 refine Gs ?_
 refine Gc ?_
 refine Gs ?_
 refine ah (rS Tryz.underlying46 rfl) ?_
 refine Gc ?_
 refine av rfl (fun h0=> ?_) (fun h0=> ?_)
 ·
  replace h0:=bz h0
  have e0:ps.xs=[]:=List.length_eq_zero_iff.1 (by have:=zC.1.ok.nil h0;have:=zC.1.len;omega)
  refine Gc ?_
  refine Gs ?_
  refine Gc ?_
  refine au (.inl rfl) (aQ rfl (aq rfl)) (fun w1 hw=> ?_)
  exact⟨⟨Sv.none,[]⟩,rfl,by rw[e0],SB (Mem.dQ (cd (τ:=UInt8)) 1 (ai.mem hw:Mem w [] _))⟩
 ·
  replace h0:=bz h0
  refine Gc ?_
  refine Gs ?_
  refine Gc ?_
  iterate 3 refine Gs ?_
  refine Gc ?_
  refine ct (X:=Nat×Nat) (fun zz=>[(15, .int .i64 (zz.1:Nat)),(3, .int .i64 (zz.2:Nat)),(0,ps.sv.val),(13,ps.sv.val),(14, .int .i64 (ps.xs.length:Nat))]) (fun zz=>[]) (fun zz=>zz.1≤ps.xs.length∧zz.2=((aK ps.xs).take zz.1).flatten.length) (fun zz=>ps.xs.length -zz.1) (0,0) ⟨Nat.zero_le _,by simp⟩ (Sub.cons rfl (Sub.cons rfl (Sub.cons rfl (Sub.cons rfl (Sub.cons rfl (Sub.nil _)))))) (fun w hw=>ai.mem hw) ?_
  rintro⟨i,mm⟩ ⟨bl,aH⟩
  dsimp only
  simp only at bl aH
  refine Gc ?_
  refine Gs ?_
  refine Gc ?_
  refine av rfl (fun h1=> ?_) (fun h1=> ?_)
  ·
   replace h1:=bz h1
   obtain⟨y,hy⟩:=get_some (xs:=ps.xs) (i:=i) (by omega)
   have Ms:Mb y ps:=⟨List.mem_of_getElem? hy⟩
   have xu:=ze (ov hy)
   have iW:=zf (aK ps.xs) (i+1)
   refine Gc ?_
   refine ah (bo rfl rfl i rfl (by omega)) ?_
   refine ah (bO (j:=0) rfl i hy rfl (by decide)) ?_
   have agF:Mb y _:=⟨List.mem_of_getElem? hy⟩
   refine Gs ?_
   refine Gc ?_
   iterate 5 refine Gs ?_
   refine Gc ?_
   iterate 2 refine Gs ?_
   refine Gi ?_
   exact bI (x:=(i,mm)) (i+1,mm+y.xs.length) ⟨by first|omega|(simp only[];omega),by rw[aH,xu]⟩ (by simp only;omega) (Sub.cons rfl (Sub.cons rfl (Sub.cons rfl (Sub.cons rfl (Sub.cons rfl (Sub.nil _)))))) (fun w hw=>ai.mem hw)
  ·
   replace h1:=bz h1
   obtain rfl:i=ps.xs.length:=by omega
   rw[List.take_of_length_le (by omega)]at aH
   have hN:mm=(aK ps.xs).flatten.length:=aH
   refine Gc ?_
   refine Gs ?_
   refine te (enc:=aM) (n:=0) (cap:=mm) 0 rfl rfl rfl rfl rfl (by omega) (by omega) (by omega) fun tM=> ?_
   refine Gs ?_
   refine Gc ?_
   iterate 2 refine Gs ?_
   refine te (enc:=cd (τ:=UInt8)) (n:=ps.xs.length) (cap:=ps.xs.length) (⟨Sv.none,[]⟩:Sl UInt8) rfl rfl rfl rfl rfl (by omega) (by omega) (by omega) fun xv=> ?_
   refine Gs ?_
   refine Gc ?_
   iterate 3 refine Gs ?_
   refine Gc ?_
   refine ct (X:=Nat×Nat×List UInt8×List (Sl UInt8)) (fun zz=>[(31, .int .i64 (zz.1:Nat)),(6,(⟨false,tM,0,zz.2.1,mm,none⟩:Sv).val),(7,(⟨false,xv,0,ps.xs.length,ps.xs.length,none⟩:Sv).val),(29,ps.sv.val),(30, .int .i64 (ps.xs.length:Nat))]) (fun zz=>[own aM 1 ⟨false,tM,0,zz.2.1,mm,none⟩ zz.2.2.1,own (cd (τ:=UInt8)) 1 ⟨false,xv,0,ps.xs.length,ps.xs.length,none⟩ zz.2.2.2]) (fun zz=>zz.1≤ps.xs.length∧zz.2.1=zz.2.2.1.length∧zz.2.2.1=((aK ps.xs).take zz.1).flatten∧zz.2.2.2=dq ⟨false,tM,0,mm,mm,none⟩ 0 ((aK ps.xs).take zz.1)++List.replicate (ps.xs.length -zz.1) (⟨Sv.none,[]⟩:Sl UInt8)) (fun zz=>ps.xs.length -zz.1) (0,0,List.replicate 0 0,List.replicate ps.xs.length (⟨Sv.none,[]⟩:Sl UInt8)) ⟨Nat.zero_le _,rfl,by simp,by simp[dq]⟩ (Sub.cons rfl (Sub.cons rfl (Sub.cons rfl (Sub.cons rfl (Sub.cons rfl (Sub.nil _)))))) (fun w hw=>ai.mem hw) ?_
   rintro⟨i,m,r,zs⟩ ⟨bl,aH,bB,c6⟩
   dsimp only
   simp only at bl aH bB c6
   refine Gc ?_
   refine Gs ?_
   refine Gc ?_
   refine av rfl (fun h2=> ?_) (fun h2=> ?_)
   ·
    replace h2:=bz h2
    obtain⟨y,hy⟩:=get_some (xs:=ps.xs) (i:=i) (by omega)
    have Ms:Mb y ps:=⟨List.mem_of_getElem? hy⟩
    have xu:=ze (ov hy)
    have iW:=zf (aK ps.xs) (i+1)
    have tN:r.length+y.xs.length≤mm:=by rw[hN,bB,←xu];exact iW
    have tO:=get_some (xs:=zs) (i:=i) (by rw[c6,List.length_append,E6,List.length_take,List.length_replicate];omega)
    obtain⟨z,hz⟩:=tO
    have sr:i<zs.length:=(List.getElem?_eq_some_iff.1 hz).1
    refine Gc ?_
    refine Gs ?_
    refine ah (bo rfl rfl i rfl (by omega)) ?_
    refine ah (bO (j:=0) rfl i hy rfl (by decide)) ?_
    have agG:Mb y _:=⟨List.mem_of_getElem? hy⟩
    iterate 2 refine Gs ?_
    refine Gc ?_
    iterate 3 refine Gs ?_
    refine Gc ?_
    iterate 2 refine Gs ?_
    refine Sz (s:=⟨false,tM,0,m,mm,none⟩) (enc:=aM) (xs:=r) (ys:=y.xs) rfl rfl (fun w hw=>kO (s:=y.sv) Tryz.underlying38 (by decide) ((inferInstance:c8 _ _ aM 1 y.sv y.xs).h w hw)) rfl (by simp only;omega) (by simp only;omega) ?_
    refine Gs ?_
    refine Gc ?_
    iterate 8 refine Gs ?_
    refine ah (Ry.to (v':=(fO (⟨false,tM,0,mm,mm,none⟩:Sv) r.length (r.length+y.xs.length)).val) (JY (l:=r.length) (h:=(r++y.xs).length) (m:=(r++y.xs).length) rfl rfl rfl rfl rfl rfl rfl (by simp) (by simp) (by simp)) (by simp[fO,Sv.sub,Sv.top])) ?_
    refine ah (bo rfl rfl i rfl (by omega)) ?_
    refine A6 (s:=⟨false,xv,0,ps.xs.length,ps.xs.length,none⟩) (xs:=zs) (k:=i) (a:=z) (⟨(fO (⟨false,tM,0,mm,mm,none⟩:Sv) r.length (r.length+y.xs.length)),y.xs⟩:Sl UInt8) (by kernel_rfl) rfl rfl (by omega) hz ?_
    refine Gc ?_
    iterate 2 refine Gs ?_
    refine Gi ?_
    exact bI (x:=(i,m,r,zs)) (i+1,m+y.xs.length,r++y.xs,zs.set i ⟨(fO (⟨false,tM,0,mm,mm,none⟩:Sv) r.length (r.length+y.xs.length)),y.xs⟩) ⟨by first|omega|(simp only[];omega),by rw[List.length_append,aH],by rw[bB,List.take_add_one,ov hy];simp,by rw[c6];exact SD (by rw[bE]) bB (ov hy)⟩ (by simp only;omega) (Sub.cons rfl (Sub.cons rfl (Sub.cons rfl (Sub.cons rfl (Sub.cons rfl (Sub.nil _)))))) (fun w hw=>ai.mem hw)
   ·
    replace h2:=bz h2
    obtain rfl:i=ps.xs.length:=by omega
    rw[List.take_of_length_le (by omega)]at bB c6
    rw[Nat.sub_self,List.replicate_zero,List.append_nil]at c6
    refine Gc ?_
    iterate 2 refine Gs ?_
    refine Gc ?_
    refine au (.inl rfl) (aQ rfl (aq rfl)) (fun w1 hw=> ?_)
    exact⟨⟨⟨false,xv,0,ps.xs.length,ps.xs.length,none⟩,zs⟩,rfl,by rw[c6,tr],Kf (rm:=⟨false,tM,0,mm,mm,none⟩) c6 rfl (by rw[show m=mm by rw[aH,bB,hN],bB]at hw;exact ai.mem hw)⟩
instance agH{w0:World}{L:List ak}{ps:Sl (Sl UInt8)}[zC:aW w0 L ps]:cw Tryz.prog 108 w0 L [ps.sv.val] (Sl (Sl UInt8)) (fun zz=>zz.sv.val) (fun zz=>eW zz::L) (fun zz=>aK zz.xs=aK ps.xs) (E9 (aK ps.xs)):=⟨fun hp w hw=>(UX w ps (zC.h w hw) hp).mono fun e w' ⟨x,h1,h2,h3⟩=>⟨x,h1,h2,hw.call h3⟩⟩
open Go.ay Go.Kb
open Go.RowKit
theorem UY(w:World)(c:Cp)(hc:Deep.aZ (hp w) c)(bf:dK c):Calls Tryz.prog 67 #[.agg (aF c)] w fun e w'=> ∃zz:Cp,e= .returned (.agg (aF zz))∧(cv zz=cv c)∧Mem w [own bX 4 zz.blocks.sv zz.blocks.xs,ak.all (zz.blocks.xs.map fun b:Bk=>eW b.ae),own dj 4 zz.aX.sv zz.aX.xs] w':=by
 have kl:cM w c:=⟨hc⟩
 obtain⟨lq,kg,nO⟩:=bf
 refine bh (args:=[_]) Tryz.func67 rfl Tryz.ntmps67 rfl ?_
 change Cw _ _ _ _ _ [(0, .agg (aF c))] []
 refine Gc ?_
 refine cA rfl fun b1=> ?_
 refine bM fun b2=> ?_
 refine Gc ?_
 iterate 2 refine Gs ?_
 refine bu rfl (by omega) fun x6 Mt=> ?_
 refine Gs ?_
 refine eV (cs':=aF (⟨c.ae,c.size,⟨x6,c.blocks.xs⟩,c.ops,c.off,c.aX⟩:Cp)) rfl rfl (by show 2<6;decide) (by first|rfl|exact Sv.one _) rfl ?_
 refine Gc ?_
 iterate 4 refine Gs ?_
 refine Gc ?_
 refine ct (X:=Nat×List Bk) (fun zz=>[(11, .int .i64 (zz.1:Nat)),(1, .pointer (some ⟨b1,0,none⟩)),(2, .pointer (some ⟨b2,0,none⟩)),(10, .int .i64 (c.blocks.xs.length:Nat))]) (fun zz=>[own bX 4 x6 zz.2,ak.all ((zz.2.take zz.1).map fun b:Bk=>eW b.ae),ar b2 (aF gh) 25,ar b1 (aF (⟨c.ae,c.size,⟨x6,zz.2⟩,c.ops,c.off,c.aX⟩:Cp)) 25]) (fun zz=>zz.1≤c.blocks.xs.length∧zz.2.length=c.blocks.xs.length∧iE zz.2=iE c.blocks.xs∧ ∀j,zz.1≤j→zz.2[j]? =c.blocks.xs[j]?) (fun zz=>c.blocks.xs.length -zz.1) (0,c.blocks.xs) ⟨Nat.zero_le _,rfl,rfl,fun _ _=>rfl⟩ (Sub.cons rfl (Sub.cons rfl (Sub.cons rfl (Sub.cons rfl (Sub.nil _))))) (fun w hw=>by
  simp only[List.take_zero,List.map_nil];exact ai.mem (Mem.u6 hw)) ?_
 rintro⟨i,zs⟩ ⟨bl,aH,bB,c6⟩
 dsimp only
 simp only at bl aH bB c6
 refine Gc ?_
 refine Gs ?_
 refine Gc ?_
 refine av rfl (fun h0=> ?_) (fun h0=> ?_)
 ·
  replace h0:=bz h0
  obtain⟨z,hz⟩:=get_some (xs:=zs) (i:=i) (by omega)
  have tP:Mb z c.blocks:=⟨List.mem_of_getElem? (by rw[←c6 i (Nat.le_refl _)];exact hz)⟩
  refine Gc ?_
  iterate 2 refine Gs ?_
  iterate 2 refine Gi ?_
  refine Br (s:=x6) (enc:=bX) (c:=4) (xs:=zs) inferInstance (by omega) fun hn6 hs6 UZ U0=> ?_
  refine jd [9,12,1003,1004,1006,1007,1008,1010,1011] [[],[],[],[],[3],[],[3,4],[3,4,6],[3,4,6,7],[3,4,6,7,8],[3,4,6,7,8,9],[3,4,6,7,8,9,10],[3,4,6,7,8,9,10,11]] [0,1,2,3,4,5,6,7,8,9,10,11,12] [ar b1 (aF (⟨c.ae,c.size,⟨x6,zs⟩,c.ops,c.off,c.aX⟩:Cp)) 25] (fun _ hw=>ai.mem hw) (by kernel_rfl) (by kernel_rfl) ?_
  refine al rfl (aI (o':=2) rfl rfl) ?_
  refine al rfl (bJ rfl) ?_
  refine al rfl (aE rfl) ?_
  refine j8 rfl (aI (o':=2) rfl rfl) ?_
  refine j8 rfl (bJ rfl) ?_
  refine al rfl (aE rfl) ?_
  refine j8 rfl (bo rfl rfl i rfl (by omega)) ?_
  refine j8 rfl (aI rfl rfl) ?_
  refine j8 rfl (bO (j:=0) rfl i hz rfl (by decide)) ?_
  refine dC rfl (nA rfl (nO z tP.h) fun mo Cx=>⟨fun _ hw=>ai.mem hw,?_⟩)
  refine j8 rfl (lF (s:=x6) (i:=i) rfl rfl rfl UZ (by omega)) ?_
  refine j8 rfl (aI rfl rfl) ?_
  refine dC rfl (uZ (n:=1) (k:=i) (j:=0) (a:=z) (a':=({z with ae:=mo}:Bk)) (xs:=zs) (enc:=bX) (c:=4) (v:=mo.sv.val) (by kernel_rfl) rfl rfl rfl hz (by rw[Sv.jc];simp[Sv.one]) (by rw[Sv.jc];rfl) (by decide) (by rw[Sv.jc];rfl) ⟨fun _ hw=>ai.mem hw,?_⟩)
  refine Gc ?_
  iterate 2 refine Gs ?_
  refine Gi ?_
  exact bI (x:=(i,zs)) (i+1,zs.set i ({z with ae:=mo}:Bk)) ⟨by first|omega|(simp only[];omega),by rw[List.length_set];exact aH,by rw[u9,←bB,show bv ({z with ae:=mo}:Bk)=bv z from by rw[bv,bv,Cx],←u9,tt hz],fun j hj=>by rw[List.getElem?_set_ne (by first|omega|(simp only[];omega))];exact c6 j (by first|omega|(simp only[];omega))⟩ (by simp only;omega) (Sub.cons rfl (Sub.cons rfl (Sub.cons rfl (Sub.cons rfl (Sub.nil _))))) (fun w hw=>by
   have h1:=Mem.wR (e:=eW mo) (es:=(zs.take i).map fun b:Bk=>eW b.ae) (ai.mem hw:Mem _ (eW mo::ak.all ((zs.take i).map fun b:Bk=>eW b.ae)::[own bX 4 x6 (zs.set i ({z with ae:=mo}:Bk)),ar b2 (aF gh) 25,ar b1 (aF (⟨c.ae,c.size,⟨x6,zs⟩,c.ops,c.off,c.aX⟩:Cp)) 25]) _)
   rw[SL (z':=({z with ae:=mo}:Bk)) hz]at h1
   exact(ai.mem h1:Mem _ [own bX 4 x6 (zs.set i ({z with ae:=mo}:Bk)),ak.all (((zs.set i ({z with ae:=mo}:Bk)).take (i+1)).map fun b:Bk=>eW b.ae),ar b2 (aF gh) 25,ar b1 (aF (⟨c.ae,c.size,⟨x6,zs⟩,c.ops,c.off,c.aX⟩:Cp)) 25] _))
 ·
  replace h0:=bz h0
  obtain rfl:i=zs.length:=by omega
  rw[List.take_of_length_le (Nat.le_refl _)]at*
  refine Gc ?_
  refine Gs ?_
  refine ah (Ry.to (v':=c.aX.sv.val) (bJ rfl) rfl) ?_
  refine bu rfl (by omega) fun xw Gk=> ?_
  refine Gs ?_
  refine eV (cs':=aF (⟨c.ae,c.size,⟨x6,zs⟩,c.ops,c.off,⟨xw,c.aX.xs⟩⟩:Cp)) rfl rfl (by show 5<6;decide) (by first|rfl|exact Sv.one _) rfl ?_
  refine Gc ?_
  iterate 2 refine Gs ?_
  refine Gc ?_
  refine au (.inl rfl) (aQ rfl (ck rfl)) (fun w1 hw=> ?_)
  exact⟨⟨c.ae,c.size,⟨x6,zs⟩,c.ops,c.off,⟨xw,c.aX.xs⟩⟩,rfl,by simp only[cv,bB],ai.mem hw⟩
instance agI{w0:World}{L:List ak}{c:Cp}[hc:aW w0 L c]:cw Tryz.prog 67 w0 L [.agg (aF c)] (Cp) (fun zz=> .agg (aF zz)) (fun zz=>own bX 4 zz.blocks.sv zz.blocks.xs::ak.all (zz.blocks.xs.map fun b:Bk=>eW b.ae)::own dj 4 zz.aX.sv zz.aX.xs::L) (fun zz=>cv zz=cv c) (dK c):=⟨fun hp w hw=>(UY w c (hc.h w hw) hp).mono fun e w' ⟨x,h1,h2,h3⟩=>⟨x,h1,h2,hw.call h3⟩⟩
theorem U1(w:World)(c:Cp)(b:Int)(hc:Deep.aZ (hp w) c):Calls Tryz.prog 159 #[.agg (aF c), .int .i64 b] w fun e w'=>e= .returned (.bool (fu (cv c) b))∧Mem w [] w':=by
 have kl:cM w c:=⟨hc⟩
 refine bh (args:=[_,_]) Tryz.func159 rfl Tryz.ntmps159 rfl ?_
 change Cw _ _ _ _ _ [(0, .agg (aF c)),(1, .int .i64 b)] []
 refine Gc ?_
 refine cA rfl fun b2=> ?_
 refine Gs ?_
 refine Gc ?_
 iterate 3 refine Gs ?_
 iterate 2 refine Gg ?_
 iterate 2 refine Gs ?_
 iterate 5 refine Gg ?_
 iterate 2 refine Gs ?_
 refine Gc ?_
 refine au (.inl rfl) (aQ rfl (aq rfl)) (fun w1 hw=> ?_)
 exact⟨congrArg (fun b=>Ending.returned (Value.bool b)) ((by simp only[fu,cv,gD])),ai.mem hw⟩
instance agJ{w0:World}{L:List ak}{c:Cp}{b:Int}[hc:aW w0 L c]:cR Tryz.prog 159 w0 L [.agg (aF c), .int .i64 b] (.bool (fu (cv c) b)) (True):=⟨fun hp w hw=>U1 w c b (hc.h w hw)⟩
theorem U2(w:World)(c:Cp)(hc:Deep.aZ (hp w) c)(bf:c.aX.xs.length≤1000000):Calls Tryz.prog 160 #[.agg (aF c)] w fun e w'=>e= .returned (.tuple #[.agg (dj ((br (cv c)).1)), .bool ((br (cv c)).2)])∧Mem w [] w':=by
 have kl:cM w c:=⟨hc⟩
 refine bh (args:=[_]) Tryz.func160 rfl Tryz.ntmps160 rfl ?_
 change Cw _ _ _ _ _ [(0, .agg (aF c))] []
 refine Gc ?_
 refine cA rfl fun b1=> ?_
 refine bM fun b2=> ?_
 refine Gs ?_
 refine Gc ?_
 iterate 4 refine Gs ?_
 refine Gc ?_
 refine ct (X:=Nat) (fun zz=>[(9, .int .i64 (zz:Nat)),(1, .pointer (some ⟨b1,0,none⟩)),(2, .pointer (some ⟨b2,0,none⟩)),(7,c.aX.sv.val),(8, .int .i64 (c.aX.xs.length:Nat))]) (fun zz=>[ar b2 (dj wP) 94,ar b1 (aF c) 25]) (fun zz=>zz≤c.aX.xs.length∧ ∀j f,j<zz→c.aX.xs[j]? =Option.some f→f.op≠c.ops) (fun zz=>c.aX.xs.length -zz) 0 ⟨Nat.zero_le _,fun j f hj=>by first|omega|(simp only[];omega)⟩ (Sub.cons rfl (Sub.cons rfl (Sub.cons rfl (Sub.cons rfl (Sub.cons rfl (Sub.nil _)))))) (fun w hw=>ai.mem hw) ?_
 rintro i ⟨bl,aH⟩
 refine Gc ?_
 refine Gs ?_
 refine Gc ?_
 refine av rfl (fun h0=> ?_) (fun h0=> ?_)
 ·
  replace h0:=bz h0
  iterate 6 refine Gi ?_
  obtain⟨f,hf⟩:=get_some (xs:=c.aX.xs) (i:=i) (by omega)
  refine ah (bo rfl rfl i rfl (by omega)) ?_
  refine ah (jb rfl i hf rfl) ?_
  refine bM fun b5=> ?_
  refine Gs ?_
  refine Gc ?_
  iterate 5 refine Gs ?_
  refine Gc ?_
  refine av rfl (fun h1=> ?_) (fun h1=> ?_)
  ·
   replace h1:=bz h1
   have hs:br (cv c)=(f,f.cut||f.fail):=SN hf aH h1
   refine Gi ?_
   refine jd [7] [[],[],[],[],[],[],[],[],[7]] [0,1,2,3,4,5,6,7,8] [ar b5 (dj f) 94,ar b1 (aF c) 25] (fun _ hw=>ai.mem hw) (by kernel_rfl) (by kernel_rfl) ?_
   refine al rfl (gu rfl) ?_
   refine al rfl (aI (o':=2) rfl rfl) ?_
   refine al rfl (bJ rfl) ?_
   refine al rfl (aE rfl) ?_
   refine JS rfl rfl rfl rfl (fun hg=>(Ry.yl (aI (o':=1) rfl rfl))) ?_
   refine JS rfl rfl rfl rfl (fun hg=>(Ry.yl (bJ (aG hg rfl)))) ?_
   refine al rfl (lU rfl rfl rfl) ?_
   refine dC rfl (mJ rfl rfl ⟨fun _ hw=>ai.mem hw,?_⟩)
   refine al rfl (bn rfl) ?_
   refine Gc ?_
   refine au (.inl rfl) (bq rfl (ck rfl) (aq rfl)) (fun w1 hw=> ?_)
   exact⟨(by rw[hs]),ai.mem hw⟩
  ·
   replace h1:=bz h1
   refine Gc ?_
   iterate 2 refine Gs ?_
   refine Gi ?_
   exact bI (x:=(i)) (i+1) ⟨by first|omega|(simp only[];omega),fun j g hj hg=>if e:j=i then(by subst e;rw[hf]at hg;cases hg;exact h1)else aH j g (by first|omega|(simp only[];omega)) hg⟩ (by first|omega|(simp only[];omega)) (Sub.cons rfl (Sub.cons rfl (Sub.cons rfl (Sub.cons rfl (Sub.cons rfl (Sub.nil _)))))) (fun w hw=>ai.mem hw)
 ·
  replace h0:=bz h0
  obtain rfl:i=c.aX.xs.length:=by omega
  have hs:br (cv c)=(wP,false):=SM (fun f hf=>by
   obtain⟨j,hj⟩:=List.getElem?_of_mem hf
   exact aH j f (List.getElem?_eq_some_iff.1 hj).1 hj)
  refine Gc ?_
  refine ah (cW (v:= .agg (dj wP)) rfl (fun w=>by kernel_rfl)) ?_
  iterate 2 refine Gs ?_
  refine Gc ?_
  refine au (.inl rfl) (bq rfl (ck rfl) (aq rfl)) (fun w1 hw=> ?_)
  exact⟨(by rw[hs]),ai.mem hw⟩
instance agK{w0:World}{L:List ak}{c:Cp}[hc:aW w0 L c]:cR Tryz.prog 160 w0 L [.agg (aF c)] (.tuple #[.agg (dj ((br (cv c)).1)), .bool ((br (cv c)).2)]) (c.aX.xs.length≤1000000):=⟨fun hp w hw=>U2 w c (hc.h w hw) hp⟩
theorem U3(w:World)(f:Ft):Calls Tryz.prog 161 #[.agg (dj f)] w fun e w'=>e= .returned (.tuple #[.bool f.cut, .int .i64 (kb f)])∧Mem w [] w':=by
 refine bh (args:=[_]) Tryz.func161 rfl Tryz.ntmps161 rfl ?_
 change Cw _ _ _ _ _ [(0, .agg (dj f))] []
 refine Gc ?_
 refine cA rfl fun b1=> ?_
 iterate 2 refine Gs ?_
 refine Gc ?_
 iterate 2 refine Gs ?_
 refine Gc ?_
 refine av rfl (fun h0=> ?_) (fun h0=> ?_)
 ·
  replace h0:=bz h0
  refine Gc ?_
  iterate 2 refine Gs ?_
  refine Gc ?_
  refine au (.inl rfl) (bq rfl (aq rfl) (aq rfl)) (fun w1 hw=> ?_)
  exact⟨(by rw[kb,if_pos h0,h0]),ai.mem hw⟩
 ·
  replace h0:=bz h0
  refine Gc ?_
  iterate 2 refine Gs ?_
  refine Gc ?_
  refine au (.inl rfl) (bq rfl (aq rfl) (aq rfl)) (fun w1 hw=> ?_)
  exact⟨(by rw[kb,if_neg (by rw[h0];simp),h0]),ai.mem hw⟩
instance agL{w0:World}{L:List ak}{f:Ft}:cR Tryz.prog 161 w0 L [.agg (dj f)] (.tuple #[.bool f.cut, .int .i64 (kb f)]) (True):=⟨fun hp w hw=>U3 w f⟩
open Go.ay Go.Kb
open Go.RowKit
theorem U4(w:World)(c:Cp)(b:Int)(hc:Deep.aZ (hp w) c)(bf:dK c):Calls Tryz.prog 162 #[.agg (aF c), .int .i64 b] w fun e w'=> ∃zz:Cp,e= .returned (.tuple #[.agg (aF zz), .int .i64 (jR (cv c) b)])∧(cv zz=iO (cv c) b)∧Mem w [fz zz] w':=by
 have kl:cM w c:=⟨hc⟩
 have kE:dK c:=bf
 obtain⟨lq,kg,nO⟩:=bf
 refine bh (args:=[_,_]) Tryz.func162 rfl Tryz.ntmps162 rfl ?_
 change Cw _ _ _ _ _ [(0, .agg (aF c)),(1, .int .i64 b)] []
 refine Gc ?_
 refine cA rfl fun b2=> ?_
 refine bM fun b4=> ?_
 refine Gs ?_
 refine Gc ?_
 refine Gs ?_
 refine bu rfl (by assumption) fun x8 pA=> ?_
 refine bM fun b6=> ?_
 refine Gs ?_
 refine Gc ?_
 iterate 4 refine Gs ?_
 refine Gc ?_
 refine av rfl (fun h0=> ?_) (fun h0=> ?_)
 ·
  replace h0:=bz h0
  have hE:jR (cv c) b=1:=by rw[jR,if_neg (by rw[h0];simp)]
  refine Gc ?_
  iterate 3 refine Gs ?_
  refine Gc ?_
  refine au (.inl rfl) (bq rfl (ck rfl) (aq rfl)) (fun w1 hw=> ?_)
  exact⟨x8,by rw[hE],by rw[pA,iO,if_neg (by rw[hE];decide)],mQ x8 (ai.mem hw)⟩
 ·
  replace h0:=bz h0
  have hk:fu (cv c) b=true:=h0
  have hh:=hk
  have lO:=(fv.1 hh).2
  have dF:x8.blocks.xs.length=c.blocks.xs.length:=by have:=congrArg (fun v:CV=>v.blocks.length) pA;simpa only[cv,gD]using this
  have xx:x8.ops=c.ops:=congrArg CV.ops pA
  have oG:(cv c).blocks.length=c.blocks.xs.length:=gD _
  obtain⟨B,hB⟩:=get_some (xs:=x8.blocks.xs) (i:=b.toNat) (by omega)
  have mq:b.toNat<x8.blocks.xs.length:=(List.getElem?_eq_some_iff.1 hB).1
  have eI:bv B=aj (cv c) b:=by
   have h1:=BC hh
   have h2:=lK hB
   rw[show iE x8.blocks.xs=(cv c).blocks from congrArg CV.blocks pA,h1]at h2
   exact(Option.some.inj h2).symm
  have fV:ow c.ae c.size (bv B)=true:=by rw[eI];exact ox hh
  obtain⟨o1,o2,o3,o4,o5,o6⟩:=eX.1 fV
  have ik:=kR.1 (eL.1 (fv.1 hh).1).1
  have zD:=(eL.1 (fv.1 hh).1).2.1
  simp only[bv,cv]at o1 o2 o3 o4 o5 o6 ik zD
  have Mu:=mN B.ae.xs
  refine Gc ?_
  iterate 2 refine Gs ?_
  refine Gc ?_
  refine av rfl (fun h1=> ?_) (fun h1=> ?_)
  ·
   replace h1:=bz h1
   have hE:jR (cv c) b=7:=by rw[jR,if_pos hk,if_pos (show(cv c).off=true from h1)]
   refine Gc ?_
   iterate 3 refine Gs ?_
   refine Gc ?_
   refine au (.inl rfl) (bq rfl (ck rfl) (aq rfl)) (fun w1 hw=> ?_)
   exact⟨x8,by rw[hE],by rw[pA,iO,if_neg (by rw[hE];decide)],mQ x8 (ai.mem hw)⟩
  ·
   replace h1:=bz h1
   have hE:jR (cv c) b=0:=by rw[jR,if_pos hk,if_neg (by rw[show(cv c).off=false from h1];simp)]
   refine Gc ?_
   iterate 3 refine Gs ?_
   refine ah (bo rfl rfl b.toNat (by omega) mq) ?_
   refine ah (aI rfl rfl) ?_
   refine kP (s:=x8.blocks.sv) (n:=1) (k:=b.toNat) (j:=3) (a:=B) (a':=(⟨B.ae,B.used,B.aS,true⟩:Bk)) (xs:=x8.blocks.xs) (enc:=bX) (c:=4) (v:= .bool true) (by kernel_rfl) rfl rfl rfl hB (by simp[Value.cells,Value.oneCell']) (by rfl) (by decide) (by rfl) ?_
   refine Gc ?_
   iterate 3 refine Gs ?_
   refine Gc ?_
   refine au (.inl rfl) (bq rfl (ck rfl) (aq rfl)) (fun w1 hw=> ?_)
   exact⟨(⟨x8.ae,x8.size,⟨x8.blocks.sv,x8.blocks.xs.set b.toNat (⟨B.ae,B.used,B.aS,true⟩:Bk)⟩,x8.ops,x8.off,x8.aX⟩:Cp),by rw[hE];rfl,by rw[SV pA eI,iO,if_pos hE],mQ (⟨x8.ae,x8.size,⟨x8.blocks.sv,x8.blocks.xs.set b.toNat (⟨B.ae,B.used,B.aS,true⟩:Bk)⟩,x8.ops,x8.off,x8.aX⟩:Cp) (by
    simp only[SU hB (B':=(⟨B.ae,B.used,B.aS,true⟩:Bk)) rfl]
    exact ai.mem hw)⟩
instance agM{w0:World}{L:List ak}{c:Cp}{b:Int}[hc:aW w0 L c]:cw Tryz.prog 162 w0 L [.agg (aF c), .int .i64 b] (Cp) (fun zz=> .tuple #[.agg (aF zz), .int .i64 (jR (cv c) b)]) (fun zz=>fz zz::L) (fun zz=>cv zz=iO (cv c) b) (dK c):=⟨fun hp w hw=>(U4 w c b (hc.h w hw) hp).mono fun e w' ⟨x,h1,h2,h3⟩=>⟨x,h1,h2,hw.call h3⟩⟩
theorem U5(w:World)(c:Cp)(fs:Sv)(eJ:List Ft)(hc:Deep.aZ (hp w) c)(qx:bW dj 4 (hp w) fs eJ)(bf:dK c):Calls Tryz.prog 32 #[.agg (aF c),fs.val] w fun e w'=> ∃zz:Cp,e= .returned (.tuple #[.agg (aF zz), .int .i64 (nF (cv c) eJ)])∧(cv zz=mP (cv c) eJ)∧Mem w [fz zz] w':=by
 have kl:cM w c:=⟨hc⟩
 have Mv:Gv w fs dj 4 eJ:=⟨qx⟩
 have kE:dK c:=bf
 obtain⟨lq,kg,nO⟩:=bf
 refine bh (args:=[_,_]) Tryz.func32 rfl Tryz.ntmps32 rfl ?_
 change Cw _ _ _ _ _ [(0, .agg (aF c)),(1,fs.val)] []
 refine Gc ?_
 refine cA rfl fun b2=> ?_
 refine bM fun b4=> ?_
 refine Gs ?_
 refine Gc ?_
 refine Gs ?_
 refine bu rfl (by assumption) fun x8 pA=> ?_
 refine bM fun b6=> ?_
 refine Gs ?_
 refine Gc ?_
 iterate 4 refine Gs ?_
 iterate 3 refine Gg ?_
 refine Gs ?_
 refine Gc ?_
 refine av rfl (fun h0=> ?_) (fun h0=> ?_)
 ·
  replace h0:=bz h0
  have hE:nF (cv c) eJ=1:=by rw[nF,if_neg (fun h=>by rw[h.1]at h0;simp only[Bool.true_eq_false,false_or]at h0;omega)]
  refine Gc ?_
  iterate 3 refine Gs ?_
  refine Gc ?_
  refine au (.inl rfl) (bq rfl (ck rfl) (aq rfl)) (fun w1 hw=> ?_)
  exact⟨x8,by rw[hE],by rw[pA,mP,if_neg (by rw[hE];decide)],mQ x8 (ai.mem hw)⟩
 ·
  replace h0:=bz h0
  have hE:nF (cv c) eJ=0:=by
   rw[nF,if_pos]
   cases hk:aT (cv c)with
   |false=>rw[hk]at h0;simp at h0
   |true=>exact⟨rfl,by rw[hk]at h0;simp only[Bool.true_eq_false,not_false_eq_true,true_and]at h0;omega⟩
  have eG:eJ.length≤64:=by
   by_cases h9:aT (cv c)=true∧eJ.length≤64
   ·
    exact h9.2
   ·
    rw[nF,if_neg h9]at hE;cases hE
  refine Gc ?_
  refine Gs ?_
  refine eV (cs':=aF (⟨x8.ae,x8.size,x8.blocks,x8.ops,false,x8.aX⟩:Cp)) rfl rfl (by show 4<6;decide) (by first|rfl|exact Sv.one _) rfl ?_
  refine Gc ?_
  refine Gs ?_
  refine bu rfl (by omega) fun gT vB=> ?_
  refine Gs ?_
  refine eV (cs':=aF (⟨x8.ae,x8.size,x8.blocks,x8.ops,false,⟨gT,eJ⟩⟩:Cp)) rfl rfl (by show 5<6;decide) (by first|rfl|exact Sv.one _) rfl ?_
  refine Gc ?_
  iterate 3 refine Gs ?_
  refine Gc ?_
  refine au (.inl rfl) (bq rfl (ck rfl) (aq rfl)) (fun w1 hw=> ?_)
  exact⟨(⟨x8.ae,x8.size,x8.blocks,x8.ops,false,⟨gT,eJ⟩⟩:Cp),by rw[hE],by rw[mP,if_pos hE,←pA];rfl,mQ (⟨x8.ae,x8.size,x8.blocks,x8.ops,false,⟨gT,eJ⟩⟩:Cp) (ai.mem hw)⟩
instance agN{w0:World}{L:List ak}{c:Cp}{fs:Sv}{eJ:List Ft}[hc:aW w0 L c][qx:c8 w0 L dj 4 fs eJ]:cw Tryz.prog 32 w0 L [.agg (aF c),fs.val] (Cp) (fun zz=> .tuple #[.agg (aF zz), .int .i64 (nF (cv c) eJ)]) (fun zz=>fz zz::L) (fun zz=>cv zz=mP (cv c) eJ) (dK c):=⟨fun hp w hw=>(U5 w c fs eJ (hc.h w hw) (qx.h w hw) hp).mono fun e w' ⟨x,h1,h2,h3⟩=>⟨x,h1,h2,hw.call h3⟩⟩
open Go.ay Go.Kb
open Go.RowKit
theorem U6(w:World)(b:Sv)(bs:List UInt8)(hb:bW aM 1 (hp w) b bs):Calls Tryz.prog 155 #[.int .u32 0,b.val] w fun e w'=>e= .returned (.int .u32 (l6 bs:Nat))∧Mem w [] w':=by
 have vC:Gv w b aM 1 bs:=⟨hb⟩
 have jQ:=hb.bd
 refine bh (args:=[_,_]) Tryz.func155 rfl Tryz.ntmps155 rfl ?_
 change Cw _ _ _ _ _ [(0, .int .u32 0),(1,b.val)] []
 refine Gc ?_
 refine Gs ?_
 refine Gc ?_
 refine Gs ?_
 refine ah (Kx (p:=0) rfl rfl (by decide)) ?_
 refine Gs ?_
 refine Gc ?_
 iterate 3 refine Gs ?_
 refine Gc ?_
 refine ct (X:=Nat) (fun zz=>[(13, .int .i64 (zz:Nat)),(5, .int .u32 (ka 4294967295 (bs.take zz):Nat)),(11,b.val),(12, .int .i64 (bs.length:Nat))]) (fun zz=>[]) (fun zz=>zz≤bs.length) (fun zz=>bs.length -zz) 0 (Nat.zero_le _) (Sub.cons rfl (Sub.cons rfl (Sub.cons rfl (Sub.cons rfl (Sub.nil _))))) (fun w hw=>ai.mem hw) ?_
 rintro i hi
 have bx:ka 4294967295 (bs.take i)<2^32:=Bu (by decide) _
 refine Gc ?_
 refine Gs ?_
 refine Gc ?_
 refine av rfl (fun h0=> ?_) (fun h0=> ?_)
 ·
  replace h0:=bz h0
  obtain⟨y,he⟩:=get_some (xs:=bs) (i:=i) (by omega)
  have hy:=y.toNat_lt
  have dX:ka 4294967295 (bs.take i)^^^y.toNat<2^32:=Nat.xor_lt_two_pow (Bu (by decide) _) (by omega)
  refine Gc ?_
  refine ah (bo rfl rfl i rfl (by omega)) ?_
  refine ah (bO (j:=0) rfl i he rfl (by decide)) ?_
  refine Gs ?_
  refine Gc ?_
  iterate 2 refine Gs ?_
  refine ah (pT rfl (by simp only[nb];omega)) ?_
  refine ah (IS rfl rfl rfl rfl (by simp only[nb];omega) (by simp only[nb];omega)) ?_
  refine Gs ?_
  refine Gc ?_
  refine Gs ?_
  refine Gc ?_
  refine ct (X:=Nat) (fun zz=>[(21, .int .i64 (zz:Nat)),(5, .int .u32 ((mM (ka 4294967295 (bs.take i)^^^y.toNat) zz):Nat)),(11,b.val),(12, .int .i64 (bs.length:Nat)),(13, .int .i64 (i:Nat))]) (fun zz=>[]) (fun zz=>zz≤8) (fun zz=>8 -zz) 0 (Nat.zero_le _) (Sub.cons rfl (Sub.cons rfl (Sub.cons rfl (Sub.cons rfl (Sub.cons rfl (Sub.nil _)))))) (fun w hw=>ai.mem hw) ?_
  rintro k hk
  refine Gc ?_
  refine Gs ?_
  refine Gc ?_
  refine av rfl (fun h1=> ?_) (fun h1=> ?_)
  ·
   replace h1:=bz h1
   have rX:(mM (ka 4294967295 (bs.take i)^^^y.toNat) k)<2^32:=E3 dX k
   have rv:(mM (ka 4294967295 (bs.take i)^^^y.toNat) k)/2<2^32:=by omega
   refine Gc ?_
   refine Gs ?_
   refine ah (Ry.to (v':= .int .u32 (((mM (ka 4294967295 (bs.take i)^^^y.toNat) k)%2:Nat):Int)) (Qg (p:=(mM (ka 4294967295 (bs.take i)^^^y.toNat) k)) (q:=1) rfl rfl rfl rfl (by simp only[nb];omega) (by decide)) (by rw[Nat.and_one_is_mod])) ?_
   refine Gs ?_
   refine Gc ?_
   refine Gs ?_
   refine ah (uF (p:=(mM (ka 4294967295 (bs.take i)^^^y.toNat) k)) rfl rfl (by simp only[nb];omega) (by omega)) ?_
   refine Gs ?_
   refine Gc ?_
   iterate 2 refine Gs ?_
   refine ah (QK (p:=3988292384) (q:=(mM (ka 4294967295 (bs.take i)^^^y.toNat) k)%2) rfl rfl rfl rfl (by simp only[nb];omega)) ?_
   refine ah (Ry.to (v':= .int .u32 ((mM (ka 4294967295 (bs.take i)^^^y.toNat) (k+1):Nat):Int)) (IS (p:=(mM (ka 4294967295 (bs.take i)^^^y.toNat) k)/2^1) (q:=3988292384*((mM (ka 4294967295 (bs.take i)^^^y.toNat) k)%2)) rfl rfl rfl rfl (by simp only[nb];omega) (by simp only[nb];omega)) (by rw[mM,EZ];rcases Nat.mod_two_eq_zero_or_one (mM (ka 4294967295 (bs.take i)^^^y.toNat) k)with h|h<;>rw[h]<;>rfl)) ?_
   refine Gs ?_
   refine Gc ?_
   iterate 2 refine Gs ?_
   refine Gi ?_
   exact bI (x:=(k)) (k+1) (by first|omega|(simp only[];omega)) (by first|omega|(simp only[];omega)) (Sub.cons rfl (Sub.cons rfl (Sub.cons rfl (Sub.cons rfl (Sub.cons rfl (Sub.nil _)))))) (fun w hw=>ai.mem hw)
  ·
   replace h1:=bz h1
   obtain rfl:k=8:=by omega
   refine Gc ?_
   iterate 2 refine Gs ?_
   refine Gi ?_
   exact bI (x:=(i)) (i+1) (by first|omega|(simp only[];omega)) (by first|omega|(simp only[];omega)) (Sub.cons rfl (Sub.cons (look_eq rfl (by rw[Sa he];rfl)) (Sub.cons rfl (Sub.cons rfl (Sub.nil _))))) (fun w hw=>ai.mem hw)
 ·
  replace h0:=bz h0
  obtain rfl:i=bs.length:=by omega
  refine Gc ?_
  refine Gs ?_
  refine ah (Kx (p:=ka 4294967295 (bs.take bs.length)) rfl rfl (Bu (by decide) _)) ?_
  refine Gs ?_
  refine Gc ?_
  refine au (.inl rfl) (aQ rfl (aq rfl)) (fun w1 hw=> ?_)
  exact⟨(by rw[List.take_length];rfl),ai.mem hw⟩
instance agO{w0:World}{L:List ak}{b:Sv}{bs:List UInt8}[hb:c8 w0 L aM 1 b bs]:cR Tryz.prog 155 w0 L [.int .u32 0,b.val] (.int .u32 (l6 bs:Nat)) (True):=⟨fun hp w hw=>U6 w b bs (hb.h w hw)⟩
theorem U7(w:World)(b:Sv)(bs:List UInt8)(hb:bW aM 1 (hp w) b bs):Calls Tryz.prog 135 #[b.val] w fun e w'=>e= .returned (.int .u32 (l6 bs:Nat))∧Mem w [] w':=by
 have vC:Gv w b aM 1 bs:=⟨hb⟩
 refine bh (args:=[_]) Tryz.func135 rfl Tryz.ntmps135 rfl ?_
 change Cw _ _ _ _ _ [(0,b.val)] []
 refine Gc ?_
 refine Gs ?_
 refine Gc ?_
 iterate 3 refine Gs ?_
 refine Gc ?_
 refine au (.inl rfl) (aQ rfl (aq rfl)) (fun w1 hw=> ?_)
 exact⟨rfl,ai.mem hw⟩
instance agP{w0:World}{L:List ak}{b:Sv}{bs:List UInt8}[hb:c8 w0 L aM 1 b bs]:cR Tryz.prog 135 w0 L [b.val] (.int .u32 (l6 bs:Nat)) (True):=⟨fun hp w hw=>U7 w b bs (hb.h w hw)⟩
theorem U8(w:World)(n:Nat)(many:Nat)(bf:n<2^64∧1≤many∧many≤8):Calls Tryz.prog 163 #[.int .u64 (n:Nat), .int .i64 (many:Nat)] w fun e w'=> ∃zz:Sv,e= .returned (zz.val)∧(True)∧Mem w [own aM 1 zz (be n many)] w':=by
 obtain⟨lq,kg,nO⟩:=bf
 refine bh (args:=[_,_]) Tryz.func163 rfl Tryz.ntmps163 rfl ?_
 change Cw _ _ _ _ _ [(0, .int .u64 (n:Nat)),(1, .int .i64 (many:Nat))] []
 refine Gc ?_
 refine Gs ?_
 refine Gc ?_
 iterate 3 refine Gs ?_
 iterate 2 refine Gg ?_
 refine Gs ?_
 refine Gc ?_
 refine av rfl (fun h0=> ?_) (fun h0=> ?_)
 ·
  replace h0:=bz h0
  exfalso;omega
 ·
  replace h0:=bz h0
  refine Gc ?_
  refine Gs ?_
  refine te (enc:=aM) (n:=many) (cap:=many) 0 rfl rfl rfl rfl rfl (by omega) (by omega) (by omega) fun Cy=> ?_
  refine Gs ?_
  refine Gc ?_
  refine Gs ?_
  refine ah (Ry.to (v':= .int .i64 (many:Nat)) (lb rfl) (by simp)) ?_
  refine Gs ?_
  refine Gc ?_
  refine ct (X:=Nat) (fun zz=>[(17, .int .i64 (zz:Nat)),(5,(⟨false,Cy,0,many,many,none⟩:Sv).val),(0, .int .u64 (n:Nat)),(1, .int .i64 (many:Nat)),(16, .int .i64 (many:Nat))]) (fun zz=>[own aM 1 ⟨false,Cy,0,many,many,none⟩ (List.replicate (many -zz) (0:UInt8)++be n zz)]) (fun zz=>zz≤many) (fun zz=>many -zz) 0 (Nat.zero_le _) (Sub.cons rfl (Sub.cons rfl (Sub.cons rfl (Sub.cons rfl (Sub.cons rfl (Sub.nil _)))))) (fun w hw=>by rw[show List.replicate (many -0) (0:UInt8)++be n 0=List.replicate many 0 from by rw[be,List.append_nil,Nat.sub_zero]];exact ai.mem hw) ?_
  rintro i hi
  have dF:=ia n i
  have E8:(List.replicate (many -i) (0:UInt8)++be n i).length=many:=by rw[List.length_append,List.length_replicate,dF];omega
  refine Gc ?_
  refine Gs ?_
  refine Gc ?_
  refine av rfl (fun h1=> ?_) (fun h1=> ?_)
  ·
   replace h1:=bz h1
   refine Gc ?_
   iterate 2 refine Gs ?_
   refine Gc ?_
   iterate 7 refine Gs ?_
   refine ah (uC rfl rfl (by omega)) ?_
   refine ah (Ry.to (v':= .int .u64 ((n/256^i:Nat):Int)) (uF (p:=n) rfl rfl (by simp only[nb];omega) (by omega)) (by rw[show(8*(i:Int)).toNat=8*i by omega,Nat.pow_mul])) ?_
   refine ah (wA rfl rfl) ?_
   refine ah (bo rfl rfl (many -1 -i) (by omega) (by omega)) ?_
   refine UI rfl rfl (by rw[List.getElem?_append_left (by rw[List.length_replicate];omega),List.getElem?_replicate,if_pos (by omega)]) rfl ?_
   refine Gc ?_
   iterate 2 refine Gs ?_
   refine Gi ?_
   exact bI (x:=(i)) (i+1) (by first|omega|(simp only[];omega)) (by first|omega|(simp only[];omega)) (Sub.cons rfl (Sub.cons rfl (Sub.cons rfl (Sub.cons rfl (Sub.cons rfl (Sub.nil _)))))) (fun w hw=>by rw[SZ (by omega)]at hw;exact ai.mem hw)
  ·
   replace h1:=bz h1
   have U9:i=many:=by omega
   refine Gc ?_
   iterate 2 refine Gs ?_
   refine Gc ?_
   refine au (.inl rfl) (aQ rfl (aq rfl)) (fun w1 hw=> ?_)
   exact⟨⟨false,Cy,0,many,many,none⟩,rfl,trivial,by rw[U9,Nat.sub_self,List.replicate_zero,List.nil_append]at hw;exact ai.mem hw⟩
instance agQ{w0:World}{L:List ak}{n:Nat}{many:Nat}:cw Tryz.prog 163 w0 L [.int .u64 (n:Nat), .int .i64 (many:Nat)] (Sv) (fun zz=>zz.val) (fun zz=>own aM 1 zz (be n many)::L) (fun zz=>True) (n<2^64∧1≤many∧many≤8):=⟨fun hp w hw=>(U8 w n many hp).mono fun e w' ⟨x,h1,h2,h3⟩=>⟨x,h1,h2,hw.call h3⟩⟩
theorem Va(w:World)(b:Sv)(bs:List UInt8)(hb:bW aM 1 (hp w) b bs)(bf:bs.length≤7):Calls Tryz.prog 134 #[b.val] w fun e w'=>e= .returned (.int .u64 (de bs:Nat))∧Mem w [] w':=by
 have vC:Gv w b aM 1 bs:=⟨hb⟩
 refine bh (args:=[_]) Tryz.func134 rfl Tryz.ntmps134 rfl ?_
 change Cw _ _ _ _ _ [(0,b.val)] []
 refine Gc ?_
 refine Gs ?_
 refine Gc ?_
 refine Gs ?_
 refine Gc ?_
 iterate 3 refine Gs ?_
 refine Gc ?_
 refine ct (X:=Nat) (fun zz=>[(8, .int .i64 (zz:Nat)),(3, .int .u64 (de (bs.take zz):Nat)),(6,b.val),(7, .int .i64 (bs.length:Nat))]) (fun zz=>[]) (fun zz=>zz≤bs.length) (fun zz=>bs.length -zz) 0 (Nat.zero_le _) (Sub.cons rfl (Sub.cons rfl (Sub.cons rfl (Sub.cons rfl (Sub.nil _))))) (fun w hw=>ai.mem hw) ?_
 rintro i hi
 refine Gc ?_
 refine Gs ?_
 refine Gc ?_
 refine av rfl (fun h0=> ?_) (fun h0=> ?_)
 ·
  replace h0:=bz h0
  obtain⟨y,he⟩:=get_some (xs:=bs) (i:=i) (by omega)
  have hy:=y.toNat_lt
  have bx:de (bs.take i)<256^6:=Nat.lt_of_lt_of_le (En bs i hi) (Nat.pow_le_pow_right (by decide) (by omega))
  refine Gc ?_
  refine ah (bo rfl rfl i rfl (by omega)) ?_
  refine ah (bO (j:=0) rfl i he rfl (by decide)) ?_
  refine Gs ?_
  refine Gc ?_
  refine Gs ?_
  refine ah (SY (p:=de (bs.take i)) rfl rfl rfl (by omega)) ?_
  refine Gs ?_
  refine ah (pT rfl (by simp only[nb];omega)) ?_
  refine ah (AR (p:=de (bs.take i)*256) (q:=y.toNat) rfl rfl rfl rfl (by simp only[nb];omega) (by simp only[nb];omega)) ?_
  refine Gs ?_
  refine Gc ?_
  iterate 2 refine Gs ?_
  refine Gi ?_
  exact bI (x:=(i)) (i+1) (by first|omega|(simp only[];omega)) (by first|omega|(simp only[];omega)) (Sub.cons rfl (Sub.cons (look_eq rfl (by rw[I4 he,I5 _ _ hy])) (Sub.cons rfl (Sub.cons rfl (Sub.nil _))))) (fun w hw=>ai.mem hw)
 ·
  replace h0:=bz h0
  obtain rfl:i=bs.length:=by omega
  refine Gc ?_
  iterate 2 refine Gs ?_
  refine Gc ?_
  refine au (.inl rfl) (aQ rfl (aq rfl)) (fun w1 hw=> ?_)
  exact⟨(by rw[List.take_length]),ai.mem hw⟩
instance agR{w0:World}{L:List ak}{b:Sv}{bs:List UInt8}[hb:c8 w0 L aM 1 b bs]:cR Tryz.prog 134 w0 L [b.val] (.int .u64 (de bs:Nat)) (bs.length≤7):=⟨fun hp w hw=>Va w b bs (hb.h w hw) hp⟩
theorem Vb(w:World)(n:Nat)(bf:n≤1000000000):Calls Tryz.prog 178 #[.slice none 0 0, .int .i64 (n:Nat)] w fun e w'=> ∃zz:Sv,e= .returned (zz.val)∧(True)∧Mem w [own aM 1 zz ([]:List UInt8)] w':=by
 refine bh (args:=[_,_]) Tryz.func178 rfl Tryz.ntmps178 rfl ?_
 change Cw _ _ _ _ _ [(0, .slice none 0 0),(1, .int .i64 (n:Nat))] []
 refine Gc ?_
 refine Gs ?_
 refine Gc ?_
 iterate 2 refine Gs ?_
 refine Gc ?_
 refine av rfl (fun h0=> ?_) (fun h0=> ?_)
 ·
  replace h0:=bz h0
  exfalso;omega
 ·
  replace h0:=bz h0
  refine Gc ?_
  iterate 2 refine Gs ?_
  refine ah (Bv rfl) ?_
  refine Gs ?_
  refine ah (uB rfl) ?_
  iterate 3 refine Gs ?_
  refine Gc ?_
  iterate 2 refine Gs ?_
  refine Gc ?_
  refine av rfl (fun h1=> ?_) (fun h1=> ?_)
  ·
   replace h1:=bz h1
   refine Gi ?_
   iterate 2 refine Gs ?_
   refine ah (Bv rfl) ?_
   refine ah (Ry.to (v':= .slice none 0 0) (s9 (s:=Sv.none) (h:=0) rfl rfl rfl Sv.wq (Nat.le_refl _)) rfl) ?_
   refine Gs ?_
   refine J3 (enc:=aM) (k:=n) (0:UInt8) rfl rfl (by omega) (by omega) (by decide) rfl Tryz.underlying3 (by omega) (by omega) fun xz zE Gl=> ?_
   refine Gs ?_
   refine ah (uB rfl) ?_
   refine ah (s9 (s:=⟨false,xz,0,n,zE,none⟩) (h:=0) rfl rfl rfl ⟨(fun h=>by cases h),Gl,by simp only;omega,fun _=>rfl⟩ (Nat.zero_le _)) ?_
   refine Gs ?_
   refine Gc ?_
   iterate 2 refine Gs ?_
   refine Gc ?_
   refine au (.inl rfl) (aQ rfl (aq rfl)) (fun w1 hw=> ?_)
   refine⟨Sv.sub ⟨false,xz,0,n,zE,none⟩ 1 0 0,rfl,trivial,?_⟩
   have eR:=Mem.J2 (i:=0) (k:=0) hw rfl (Nat.zero_le _)
   rw[List.take_zero]at eR
   exact eR
  ·
   replace h1:=bz h1
   have hn:n=0:=by omega
   refine Gc ?_
   iterate 2 refine Gs ?_
   refine Gc ?_
   refine au (.inl rfl) (aQ rfl (aq rfl)) (fun w1 hw=> ?_)
   exact⟨Sv.none,rfl,trivial,(ai.mem hw:Mem w [] _).dQ aM 1⟩
instance agS{w0:World}{L:List ak}{n:Nat}:cw Tryz.prog 178 w0 L [.slice none 0 0, .int .i64 (n:Nat)] (Sv) (fun zz=>zz.val) (fun zz=>own aM 1 zz ([]:List UInt8)::L) (fun zz=>True) (n≤1000000000):=⟨fun hp w hw=>(Vb w n hp).mono fun e w' ⟨x,h1,h2,h3⟩=>⟨x,h1,h2,hw.call h3⟩⟩
theorem Vc(w:World)(a:Sl (Sl UInt8))(ha:Deep.aZ (hp w) a)(bf:(jP a.xs).length≤1000000):Calls Tryz.prog 164 #[a.sv.val] w fun e w'=> ∃zz:Sv,e= .returned (zz.val)∧(True)∧Mem w [own aM 1 zz (jP a.xs)] w':=by
 have Gm:cM w a:=⟨ha⟩
 have Az:=ha.1.bd
 have eG:=Se a.xs
 refine bh (args:=[_]) Tryz.func164 rfl Tryz.ntmps164 rfl ?_
 change Cw _ _ _ _ _ [(0,a.sv.val)] []
 refine Gc ?_
 refine Gs ?_
 refine Gc ?_
 refine Gs ?_
 refine Gc ?_
 iterate 3 refine Gs ?_
 refine Gc ?_
 refine ct (X:=Nat) (fun zz=>[(11, .int .i64 (zz:Nat)),(3, .int .i64 ((jP (a.xs.take zz)).length:Nat)),(0,a.sv.val),(9,a.sv.val),(10, .int .i64 (a.xs.length:Nat))]) (fun zz=>[]) (fun zz=>zz≤a.xs.length) (fun zz=>a.xs.length -zz) 0 (Nat.zero_le _) (Sub.cons rfl (Sub.cons rfl (Sub.cons rfl (Sub.cons rfl (Sub.cons rfl (Sub.nil _)))))) (fun w hw=>ai.mem hw) ?_
 rintro i hi
 have tn:=eG i
 have j7:=eG (i+1)
 refine Gc ?_
 refine Gs ?_
 refine Gc ?_
 refine av rfl (fun h0=> ?_) (fun h0=> ?_)
 ·
  replace h0:=bz h0
  iterate 6 refine Gi ?_
  obtain⟨x,hx⟩:=get_some (xs:=a.xs) (i:=i) (by omega)
  refine ah (bo rfl rfl i rfl (by omega)) ?_
  refine ah (bO (j:=0) rfl i hx rfl (by decide)) ?_
  have Vd:(jP (a.xs.take (i+1))).length=(jP (a.xs.take i)).length+x.xs.length:=by rw[Bw hx,List.length_append]
  have Cz:Mb x _:=⟨List.mem_of_getElem? hx⟩
  refine Gs ?_
  refine Gc ?_
  iterate 5 refine Gs ?_
  refine Gc ?_
  iterate 2 refine Gs ?_
  refine Gc ?_
  refine av rfl (fun h1=> ?_) (fun h1=> ?_)
  ·
   replace h1:=bz h1
   exfalso;omega
  ·
   replace h1:=bz h1
   refine Gc ?_
   iterate 2 refine Gs ?_
   refine Gi ?_
   exact bI (x:=(i)) (i+1) (by first|omega|(simp only[];omega)) (by first|omega|(simp only[];omega)) (Sub.cons rfl (Sub.cons (look_eq rfl (by rw[Bw hx,List.length_append];simp)) (Sub.cons rfl (Sub.cons rfl (Sub.cons rfl (Sub.nil _)))))) (fun w hw=>ai.mem hw)
 ·
  replace h0:=bz h0
  obtain rfl:i=a.xs.length:=by omega
  have la:=eG a.xs.length
  refine Gc ?_
  refine Gs ?_
  refine bu rfl (by omega) fun tT Gn=> ?_
  refine Gs ?_
  refine Gc ?_
  iterate 3 refine Gs ?_
  refine Gc ?_
  refine ct (X:=Nat×Sv) (fun zz=>[(27, .int .i64 (zz.1:Nat)),(6,zz.2.val),(25,a.sv.val),(26, .int .i64 (a.xs.length:Nat))]) (fun zz=>[own aM 1 zz.2 (jP (a.xs.take zz.1))]) (fun zz=>zz.1≤a.xs.length) (fun zz=>a.xs.length -zz.1) (0,tT) (Nat.zero_le _) (Sub.cons rfl (Sub.cons rfl (Sub.cons rfl (Sub.cons rfl (Sub.nil _))))) (fun w hw=>(ai.mem hw:Mem _ [own aM 1 tT ([]:List UInt8)] _)) ?_
  rintro⟨k,s1⟩ hk
  dsimp only
  simp only at hk
  have tn:=eG k
  have j7:=eG (k+1)
  refine Gc ?_
  refine Gs ?_
  refine Gc ?_
  refine av rfl (fun h2=> ?_) (fun h2=> ?_)
  ·
   replace h2:=bz h2
   iterate 6 refine Gi ?_
   obtain⟨y,hy⟩:=get_some (xs:=a.xs) (i:=k) (by omega)
   refine ah (bo rfl rfl k rfl (by omega)) ?_
   refine ah (bO (j:=0) rfl k hy rfl (by decide)) ?_
   have Ve:(jP (a.xs.take (k+1))).length=(jP (a.xs.take k)).length+y.xs.length:=by rw[Bw hy,List.length_append]
   have Mw:Mb y _:=⟨List.mem_of_getElem? hy⟩
   refine Gs ?_
   refine Gc ?_
   iterate 2 refine Gs ?_
   refine lZ (s:=s1) (ys:=y.xs) rfl rfl (by decide) (fun w hw=>kO (s:=y.sv) Tryz.underlying38 (by decide) ((inferInstance:Hd _ _ y.sv aM 1 y.xs).h w hw)) (by omega) (by omega) fun Gp Vf Vg=> ?_
   refine Gs ?_
   refine Gc ?_
   iterate 2 refine Gs ?_
   refine Gi ?_
   exact bI (x:=(k,s1)) (k+1,Gp) (by simp only;omega) (by simp only;omega) (Sub.cons rfl (Sub.cons rfl (Sub.cons rfl (Sub.cons rfl (Sub.nil _))))) (fun w hw=>by rw[Bw hy];exact ai.mem hw)
  ·
   replace h2:=bz h2
   obtain rfl:k=a.xs.length:=by omega
   refine Gc ?_
   iterate 2 refine Gs ?_
   refine Gc ?_
   refine au (.inl rfl) (aQ rfl (aq rfl)) (fun w1 hw=> ?_)
   exact⟨s1,rfl,trivial,by rw[List.take_length]at hw;exact ai.mem hw⟩
instance agT{w0:World}{L:List ak}{a:Sl (Sl UInt8)}[ha:aW w0 L a]:cw Tryz.prog 164 w0 L [a.sv.val] (Sv) (fun zz=>zz.val) (fun zz=>own aM 1 zz (jP a.xs)::L) (fun zz=>True) ((jP a.xs).length≤1000000):=⟨fun hp w hw=>(Vc w a (ha.h w hw) hp).mono fun e w' ⟨x,h1,h2,h3⟩=>⟨x,h1,h2,hw.call h3⟩⟩
theorem Vh(w:World)(s:Sv)(ss:List UInt8)(hs:bW aM 1 (hp w) s ss)(bf:ss.length≤1000000):Calls Tryz.prog 137 #[s.val] w fun e w'=> ∃zz:Sv,e= .returned (zz.val)∧(True)∧Mem w [own aM 1 zz ss] w':=by
 have vz:Gv w s aM 1 ss:=⟨hs⟩
 refine bh (args:=[_]) Tryz.func137 rfl Tryz.ntmps137 rfl ?_
 change Cw _ _ _ _ _ [(0,s.val)] []
 refine Gc ?_
 refine Gs ?_
 refine Gc ?_
 refine Gs ?_
 refine ah (rS Tryz.underlying38 rfl) ?_
 refine Gc ?_
 refine av rfl (fun h0=> ?_) (fun h0=> ?_)
 ·
  replace h0:=bz h0
  have e0:ss=[]:=List.length_eq_zero_iff.1 (by have:=hs.ok.nil h0;have:=hs.len;omega)
  refine Gc ?_
  refine Gs ?_
  refine Gc ?_
  refine au (.inl rfl) (aQ rfl (aq rfl)) (fun w1 hw=> ?_)
  exact⟨Sv.none,rfl,trivial,by rw[e0];exact(ai.mem hw:Mem w [] _).dQ aM 1⟩
 ·
  replace h0:=bz h0
  refine Gc ?_
  refine ti aM fun b5=> ?_
  refine Gs ?_
  refine lZ (s:=⟨false,b5,0,0,0,none⟩) (ys:=ss) rfl rfl (by decide) (fun w hw=>kO (s:=s) Tryz.underlying38 (by decide) ((inferInstance:Hd _ _ s aM 1 ss).h w hw)) (by simp only[List.length_append,List.length_cons,List.length_nil];omega) (by simp only[List.length_append,List.length_cons,List.length_nil];omega) fun s7 vA tL=> ?_
  refine Gs ?_
  refine Gc ?_
  refine au (.inl rfl) (aQ rfl (aq rfl)) (fun w1 hw=> ?_)
  exact⟨s7,rfl,trivial,by simpa using hw⟩
instance agU{w0:World}{L:List ak}{s:Sv}{ss:List UInt8}[hs:c8 w0 L aM 1 s ss]:cw Tryz.prog 137 w0 L [s.val] (Sv) (fun zz=>zz.val) (fun zz=>own aM 1 zz ss::L) (fun zz=>True) (ss.length≤1000000):=⟨fun hp w hw=>(Vh w s ss (hs.h w hw) hp).mono fun e w' ⟨x,h1,h2,h3⟩=>⟨x,h1,h2,hw.call h3⟩⟩
end Go.Proofs.YtaipiecplldinaaGreat

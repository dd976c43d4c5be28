/- Part of a proof. -/
import Derived.Test.YtaipiecplldinaaGreatE2
import Derived.Test.YtaipiecplldinaaGreatE1
import Derived.Test.YtaipiecplldinaaGreatRows
import Derived.DeepKeys
import Derived.Lib.BytesEntry
import Derived.Maps.Keyed
set_option maxRecDepth 20000
set_option linter.unusedSimpArgs false
set_option linter.unusedVariables false
namespace Go.Kb
open Go.aA
def hU(c:CV)(l:List Int):Prop:= ∀n∈l,n=0∨(1≤n∧2≤(n -1)/c.pages∧(n -1)/c.pages<(c.blocks.length:Int))
theorem hU.bT{c d:CV}{l:List Int}(h:hU c l)(g:dx c d):hU d l:=fun n hn=>by
  rcases h n hn with h|h
  ·exact .inl h
  ·exact .inr (by rw[g.pages,g.len];exact h)
theorem hU.append{c:CV}{a b:List Int}(h:hU c a)(g:hU c b):hU c (a++b):=fun n hn=>(List.mem_append.1 hn).elim (h n) (g n)
theorem eE{c:CV}(h:aV c=true):1≤(c.blocks.length:Int)∧(c.blocks.length:Int)≤32∧1≤c.pages∧c.pages≤16∧1≤c.size∧c.size≤256:=jW.1 (eZ.1 h).1
theorem FX{n p b:Int}(hp:1≤p)(je:p≤16)(hb:b≤32)(h:(n -1)/p<b):n≤512:=by
  have h1:n -1=p*((n -1)/p)+(n -1)%p:=(Int.mul_ediv_add_emod (n -1) p).symm
  have h2:=Int.emod_lt_of_pos (n -1) (show 0<p by omega)
  have h3:(n -1)/p≤31:=by omega
  have h4:p*((n -1)/p)≤p*31:=Int.mul_le_mul_of_nonneg_left h3 (by omega)
  omega
theorem hU.kn{c:CV}{l:List Int}(h:hU c l)(hk:aV c=true)(h2:2≤c.blocks.length)(hl:l.length≤1000000):qv c l:=
  ⟨⟨hk,hl⟩,h2,fun n hn=>by
    rcases h n hn with h|h
    ·exact .inl h
    ·have hd:=eE hk
     have:=FX (n:=n) hd.2.2.1 hd.2.2.2.1 hd.2.1 h.2.2
     exact .inr ⟨h.1,by omega,h.2.1,h.2.2⟩⟩
theorem FY{c:CV}{fl:List Int}{i:Nat}(hi:i<c.blocks.length -2):(av c fl)[i]? =some (nw (rz (aj c ((i:Int)+2)) (jJ c.pages fl fl.length i))):=by
  rw[av,iU,jK,List.getElem?_map,List.getElem?_map,List.getElem?_range hi];rfl
theorem Cy{c:CV}{fl:List Int}{i:Nat}{x:ay}(h:(av c fl)[i]? =some x):x.bad=(aj c ((i:Int)+2)).bad:=by
  have hi:=(List.getElem?_eq_some_iff.1 h).1
  rw[kL]at hi
  rw[FY hi]at h
  obtain rfl:=Option.some.inj h
  rw[nw];split
  ·rename_i hb;exact hb.symm
  ·rfl
theorem pL{c:CV}(hk:aV c=true){b:Int}(h0:0≤b)(h1:b<c.blocks.length):mE c.pages c.size (aj c b)=true:=n8 (gq.2 ⟨hk,h0,h1⟩)
structure Cz(c:CV)(n:Nat)(x:ay):Prop where
  LF:0≤x.live
  Ud:x.live≤n
  zM:0≤x.used
  xu:x.used≤c.pages
  LG:0≤x.aT
  LH:x.aT≤cP
theorem rE{c:CV}{fl:List Int}(hk:aV c=true){x:ay}(h:x∈av c fl):Cz c fl.length x:=by
  obtain⟨i,hi⟩:=List.getElem?_of_mem h
  have eX:=(List.getElem?_eq_some_iff.1 hi).1
  rw[kL]at eX
  rw[FY eX]at hi
  obtain rfl:=Option.some.inj hi
  have hd:=eE hk
  have oO:cP=1099511627776:=rfl
  rw[nw];split
  ·exact⟨by simp[bl],by simp[bl],by simp[bl],by simp only[bl];omega,by simp[bl],by simp only[bl];omega⟩
  ·have ho:=dV.1 (pL hk (b:=(i:Int)+2) (by omega) (by omega))
   have:=Ll c.pages fl fl.length i
   exact⟨by simp only[rz];omega,by simp only[rz];omega,ho.2.1,ho.2.2.1,ho.2.2.2.1,ho.2.2.2.2.1⟩
theorem FZ{R:ay→Bool}{l:List ay}{i:Nat}{x:ay}(h:(bS R l)[i]? =some x): ∃y,l[i]? =some y∧x=gV R y:=by
  rw[bS,List.getElem?_map,Option.map_eq_some_iff]at h
  obtain⟨y,hy,rfl⟩:=h
  exact⟨y,hy,rfl⟩
theorem Ue{R:ay→Bool}{y:ay}(h:(gV R y).bad=false):gV R y=y∧y.bad=false∧R y=true:=by
  unfold gV at h⊢
  split at h
  ·cases h
  ·rename_i hn
   rw[if_neg hn]
   refine⟨rfl,h,?_⟩
   cases hR:R y with
   |true=>rfl
   |false=>exact absurd (.inr hR) hn
theorem qA{p:Int}{x:ay}(h:lB p x=true):x.bad=false∧x.used<p:=by
  simpa[lB]using h
theorem kM{x:ay}(h:lb x=true):x.bad=false∧x.live=0∧0<x.used:=by
  simpa[lb,and_assoc]using h
theorem nx{R:ay→Bool}{l:List ay}{p:Int}{dX:ay→Bool}{os:List (ay→ay→Int)}(hr: ∀x,dX x=true→x.bad=false)(h:(fu (bS R l) p dX os).2=true):
    ∃x,l[(fu (bS R l) p dX os).1.toNat]? =some x∧x.bad=false∧R x=true∧dX x=true∧0≤(fu (bS R l) p dX os).1∧(fu (bS R l) p dX os).1<l.length:=by
  obtain⟨h1,h2,h3,h4⟩:=xq h
  rw[tU]at h3
  have hi:(bS R l)[(fu (bS R l) p dX os).1.toNat]? =some ((bS R l).getD (fu (bS R l) p dX os).1.toNat dO):=oD (by rw[tU];omega)
  obtain⟨y,hy,he⟩:=FZ hi
  rw[he]at h4
  obtain⟨k1,k2,k3⟩:=Ue (hr _ h4)
  rw[k1]at h4
  exact⟨y,hy,k2,k3,h4,h2,h3⟩
def pM(x:ay):Bool:=decide (0<x.live)
def fS(x:ay):Bool:=decide (x.live=0)
def dE(l:List ay):Nat:=(l.filter fun x=> !x.bad&&decide (x.live=0)).length
def ld(c:CV)(fl:List Int):Int×Bool:=eM (bS pM (av c fl)) c.pages
def jL(c:CV)(fl:List Int):Int×Bool:=eM (bS fS (av c fl)) c.pages
def jf(c:CV)(fl:List Int):Int:=(eQ (bS fS (av c fl)) c.pages).1
def bm(c:CV)(fl:List Int)(aF:Bool):CV×Int×Int:=
  if(ld c fl).2=true then(c,(ld c fl).1+2,0)
  else if dE (av c fl)=0∨(dE (av c fl)=1∧aF=false)then(c,0,5)
  else if(jL c fl).2=true then(c,(jL c fl).1+2,0)
  else((cA c (jf c fl+2)).1,jf c fl+2,(cA c (jf c fl+2)).2)
theorem Uf{l:List ay}{i:Nat}{x:ay}(h:l[i]? =some x):((l.take (i+1)).filter fun z=> !z.bad&&decide (z.live=0)).length=((l.take i).filter fun z=> !z.bad&&decide (z.live=0)).length+(if x.bad=false∧x.live=0 then 1 else 0):=by
  rw[List.take_add_one,h,List.filter_append,List.length_append]
  congr 1
  simp only[Option.toList_some,List.filter_cons,List.filter_nil]
  split<;>simp_all
theorem Ug(l:List ay):(l.filter fun z=> !z.bad&&decide (z.live=0)).length≤l.length:=List.length_filter_le _ _
theorem LK{c:CV}{fl:List Int}(hk:aV c=true)(h2:3≤c.blocks.length)(hi:dE (av c fl)≠0)(hb: ¬(jL c fl).2=true):0≤jf c fl∧jf c fl<(c.blocks.length:Int) -2∧(aj c (jf c fl+2)).bad=false:=by
  have hd:=eE hk
  have dz:=kL c fl
  have hw:kJ (bS fS (av c fl)) c.pages=true:=qx.2 ⟨by rw[tU];omega,by rw[tU];omega,by omega,by omega,fun x hx=>by
    obtain⟨i,hi⟩:=List.getElem?_of_mem hx
    obtain⟨y,hy,rfl⟩:=FZ hi
    have t:=rE hk (List.mem_of_getElem? hy)
    have oO:cP=1099511627776:=rfl
    unfold gV
    split
    ·exact pI.2 (by simp only[bl];omega)
    ·rename_i hn
     have hl:y.live=0:=by
        cases hR:fS y with
        |true=>simpa[fS]using hR
        |false=>exact absurd (.inr hR) hn
     exact pI.2 ⟨by omega,by have:=t.zM;omega,t.xu,t.LG,t.LH⟩⟩
  have ny:(jL c fl).2=false:=by simpa using hb
  have F0:=rA hw (show(fu _ _ _ _).2=false from ny)
  have xv:0<((av c fl).filter fun x=> !x.bad&&decide (x.live=0)).length:=by rw[dE]at hi;omega
  obtain⟨x,hx⟩:=List.exists_mem_of_length_pos xv
  obtain⟨nz,jZ⟩:=List.mem_filter.1 hx
  simp only[Bool.and_eq_true,Bool.not_eq_true',decide_eq_true_eq]at jZ
  have rF:gV fS x=x:=by
    unfold gV
    rw[if_neg]
    rintro(g|g)
    ·rw[jZ.1]at g;cases g
    ·rw[show fS x=true by simp[fS,jZ.2]]at g;cases g
  have zN:x∈bS fS (av c fl):=by
    rw[←rF];exact List.mem_map_of_mem nz
  have zO:=F0 x zN
  have t:=rE hk nz
  have lD:lb x=true:=by
    have: ¬x.used<c.pages:=fun h=>by
      rw[lB,jZ.1,decide_eq_true h]at zO;cases zO
    simp only[lb,jZ.1,Bool.not_false,Bool.true_and,Bool.and_eq_true,decide_eq_true_eq]
    omega
  have hf:(eQ (bS fS (av c fl)) c.pages).2=true:=by
    cases hq:(eQ (bS fS (av c fl)) c.pages).2 with
    |true=>rfl
    |false=>have:=rA hw hq x zN;rw[lD]at this;cases this
  obtain⟨y,hy,k1,_,_,k4,k5⟩:=nx (fun x h=>(kM h).1) hf
  have qB:=Cy hy
  change 0≤jf c fl at k4
  change jf c fl<_ at k5
  refine⟨k4,by omega,?_⟩
  rw[←k1,qB]
  congr 2
  change _=((jf c fl).toNat:Int)+2
  omega
theorem LL{c:CV}{fl:List Int}(h:(ld c fl).2=true):0≤(ld c fl).1∧(ld c fl).1<((c.blocks.length -2:Nat):Int)∧(aj c ((ld c fl).1+2)).bad=false:=by
  obtain⟨y,hy,k1,_,_,k4,k5⟩:=nx (fun x h=>(qA h).1) h
  have qB:=Cy hy
  rw[kL]at k5
  refine⟨k4,k5,?_⟩
  rw[←k1,qB]
  congr 2
  change _=((ld c fl).1.toNat:Int)+2
  change 0≤(ld c fl).1 at k4
  omega
theorem LM{c:CV}{fl:List Int}(h:(jL c fl).2=true):0≤(jL c fl).1∧(jL c fl).1<((c.blocks.length -2:Nat):Int)∧(aj c ((jL c fl).1+2)).bad=false:=by
  obtain⟨y,hy,k1,_,_,k4,k5⟩:=nx (fun x h=>(qA h).1) h
  have qB:=Cy hy
  rw[kL]at k5
  refine⟨k4,k5,?_⟩
  rw[←k1,qB]
  congr 2
  change _=((jL c fl).1.toNat:Int)+2
  change 0≤(jL c fl).1 at k4
  omega
theorem xw{c:CV}{b:Int}(h:dG c b=0):nn c b=true∧c.off=false∧(aj c b).bad=false∧(br c).2=false∧cY c b=jH c b:=by
  have h0:=h
  rw[dG]at h
  by_cases h1:nn c b=true
  ·rw[if_pos h1]at h
   by_cases h2:c.off=true
   ·rw[if_pos h2]at h;cases h
   ·rw[if_neg h2]at h
    by_cases h3:(aj c b).bad=true
    ·rw[if_pos h3]at h;cases h
    ·rw[if_neg h3]at h
     by_cases h4:(br c).2=true
     ·rw[if_pos h4,kF]at h
      split at h<;>cases h
     ·refine⟨h1,by simpa using h2,by simpa using h3,by simpa using h4,?_⟩
      rw[cY,iV,h0,if_neg (by decide),fE,if_pos ⟨h1,by simpa using h2,by simpa using h3⟩]
  ·rw[if_neg h1]at h;cases h
theorem LN{c:CV}{b:Int}(h:dG c b=0):(aj (cY c b) b).bad=false:=by
  obtain⟨h1,h2,h3,h4,h5⟩:=xw h
  rw[h5,jH,mK (np.1 h1).1];exact h3
theorem CA: ∀(n:Nat) {c:CV} {b:Int},(fe n c b).2=0→(aj (fe n c b).1 b).bad=false
  |0,c,b,h=>LN h
  |n+1,c,b,h=>by
   rw[fe]at h⊢
   by_cases h0:bC c b (hQ c)≠0
   ·rw[if_pos h0]at h;exact absurd h h0
   ·rw[if_neg h0]at h⊢;exact CA n h
theorem F1{c:CV}{fl:List Int}{aF:Bool}(hk:aV c=true)(h2:3≤c.blocks.length):aV (bm c fl aF).1=true∧dx c (bm c fl aF).1∧c.ops≤(bm c fl aF).1.ops∧
    ((bm c fl aF).2.2=0→2≤(bm c fl aF).2.1∧(bm c fl aF).2.1<c.blocks.length∧(aj (bm c fl aF).1 (bm c fl aF).2.1).bad=false)∧((bm c fl aF).2.2=9→c.ops<(bm c fl aF).1.ops):=by
  rw[bm]
  by_cases h1:(ld c fl).2=true
  ·rw[if_pos h1]
   have:=LL h1
   exact⟨hk, .cZ c,Int.le_refl _,fun _=>⟨by simp only;omega,by simp only;omega,this.2.2⟩,fun h=>absurd (show(0:Int)=9 from h) (by decide)⟩
  ·rw[if_neg h1]
   by_cases h3:dE (av c fl)=0∨(dE (av c fl)=1∧aF=false)
   ·rw[if_pos h3]
    exact⟨hk, .cZ c,Int.le_refl _,fun h=>absurd (show(5:Int)=0 from h) (by decide),fun h=>absurd (show(5:Int)=9 from h) (by decide)⟩
   ·rw[if_neg h3]
    by_cases h4:(jL c fl).2=true
    ·rw[if_pos h4]
     have:=LM h4
     exact⟨hk, .cZ c,Int.le_refl _,fun _=>⟨by simp only;omega,by simp only;omega,this.2.2⟩,fun h=>absurd (show(0:Int)=9 from h) (by decide)⟩
    ·rw[if_neg h4]
     obtain⟨d1,d2,d3⟩:=LK hk h2 (fun e=>h3 (.inl e)) h4
     have hc:=tT (jf c fl+2) hk
     exact⟨hc.1,hc.2,xt _ _ _,fun h=>⟨by simp only;omega,by simp only;omega,CA _ h⟩,fun h=>Cx d3 (.inl h)⟩
def iA:Nat→CV→List Int→Bool→List UInt8→CV×Int×Int
  |0,c,_,_,_=>(c,0,0)
  |n+1,c,fl,aF,b=>
   if(bm c fl aF).2.2=0 then
      (if bC (bm c fl aF).1 (bm c fl aF).2.1 b=0 then(bn (bm c fl aF).1 (bm c fl aF).2.1 b,(bm c fl aF).2.1*c.pages+(aj (bm c fl aF).1 (bm c fl aF).2.1).used+1,0)
       else if bC (bm c fl aF).1 (bm c fl aF).2.1 b≠9 then(bn (bm c fl aF).1 (bm c fl aF).2.1 b,0,bC (bm c fl aF).1 (bm c fl aF).2.1 b)
       else iA n (bn (bm c fl aF).1 (bm c fl aF).2.1 b) fl aF b)
   else if(bm c fl aF).2.2≠9 then((bm c fl aF).1,0,(bm c fl aF).2.2)
   else iA n (bm c fl aF).1 fl aF b
def c0(c:CV)(fl:List Int)(aF:Bool)(p:PV):CV×Int×Int:=
  if(dg p c.size).2≠0 then(c,0,(dg p c.size).2)else iA ((cP -c.ops).toNat+1) c fl aF (dg p c.size).1
theorem qC{c:CV}(h:aV c=true):c.ops≤cP:=(eZ.1 h).2.2.1
theorem F2: ∀(n:Nat) {c:CV} {fl:List Int} {aF:Bool} {b:List UInt8},aV c=true→3≤c.blocks.length→(cP -c.ops).toNat<n→
    aV (iA n c fl aF b).1=true∧dx c (iA n c fl aF b).1∧c.ops≤(iA n c fl aF b).1.ops∧((iA n c fl aF b).2.2=0→1≤(iA n c fl aF b).2.1∧2≤((iA n c fl aF b).2.1 -1)/c.pages∧((iA n c fl aF b).2.1 -1)/c.pages<c.blocks.length)
  |0,c,fl,aF,b,_,_,hn=>by omega
  |n+1,c,fl,aF,b,hk,h2,hn=>by
   obtain⟨f1,f2,f3,f4,f5⟩:=F1 (fl:=fl) (aF:=aF) hk h2
   have hd:=eE hk
   rw[iA]
   by_cases h0:(bm c fl aF).2.2=0
   ·rw[if_pos h0]
    obtain⟨g1,g2,g3⟩:=f4 h0
    by_cases h1:bC (bm c fl aF).1 (bm c fl aF).2.1 b=0
    ·rw[if_pos h1]
     have hl:=f2.trans (gU (bm c fl aF).1 (bm c fl aF).2.1 b)
     have hp:=iS.1 (nv h1).1
     rw[f2.pages]at hp
     have hu:0≤(aj (bm c fl aF).1 (bm c fl aF).2.1).used:=hp.2.1
     have F3:=hp.2.2.1
     have hq:((bm c fl aF).2.1*c.pages+(aj (bm c fl aF).1 (bm c fl aF).2.1).used+1 -1)/c.pages=(bm c fl aF).2.1:=by
          rw[Int.add_sub_cancel,Int.add_comm,Int.add_mul_ediv_right _ _ (by omega),Int.ediv_eq_zero_of_lt hu F3,Int.zero_add]
     refine⟨kK f1 _ _,hl,?_,fun _=>⟨?_,by simp only;rw[hq];exact g1,by simp only;rw[hq];exact g2⟩⟩
     ·have:=vA (bm c fl aF).1 (bm c fl aF).2.1 b;simp only;omega
     ·have:0≤(bm c fl aF).2.1*c.pages:=Int.mul_nonneg (by omega) (by omega)
      simp only;omega
    ·rw[if_neg h1]
     by_cases h9:bC (bm c fl aF).1 (bm c fl aF).2.1 b≠9
     ·rw[if_pos h9]
      exact⟨kK f1 _ _,f2.trans (gU _ _ _),by have:=vA (bm c fl aF).1 (bm c fl aF).2.1 b;simp only;omega,fun h=>absurd h h1⟩
     ·rw[if_neg h9]
      have ho:=rB g3 (p:=b) (.inl (by simpa using h9))
      have bR:=kK f1 (bm c fl aF).2.1 b
      have hl:=f2.trans (gU (bm c fl aF).1 (bm c fl aF).2.1 b)
      have hle:=qC bR
      have:=F2 n (fl:=fl) (aF:=aF) (b:=b) bR (by rw[hl.len];exact h2) (by omega)
      refine⟨this.1,hl.trans this.2.1,by omega,fun h=> ?_⟩
      have g:=this.2.2.2 h
      rw[hl.pages,hl.len]at g
      exact g
   ·rw[if_neg h0]
    by_cases h9:(bm c fl aF).2.2≠9
    ·rw[if_pos h9]
     exact⟨f1,f2,f3,fun h=>absurd h h0⟩
    ·rw[if_neg h9]
     have ho:=f5 (by simpa using h9)
     have hle:=qC f1
     have:=F2 n (fl:=fl) (aF:=aF) (b:=b) f1 (by rw[f2.len];exact h2) (by omega)
     refine⟨this.1,f2.trans this.2.1,by omega,fun h=> ?_⟩
     have g:=this.2.2.2 h
     rw[f2.pages,f2.len]at g
     exact g
theorem LO{c:CV}{fl:List Int}{aF:Bool}{p:PV}(hk:aV c=true)(h2:3≤c.blocks.length):
    aV (c0 c fl aF p).1=true∧dx c (c0 c fl aF p).1∧c.ops≤(c0 c fl aF p).1.ops∧((c0 c fl aF p).2.2=0→1≤(c0 c fl aF p).2.1∧2≤((c0 c fl aF p).2.1 -1)/c.pages∧((c0 c fl aF p).2.1 -1)/c.pages<c.blocks.length):=by
  rw[c0];split
  ·rename_i h;exact⟨hk, .cZ c,Int.le_refl _,fun h'=>absurd h' h⟩
  ·exact F2 _ hk h2 (by omega)
def kr(p:Int)(x:ay):Int:=if x.live=0∧p -x.used=0 then p else p -x.used
def qD(p:Int)(s:Int×Int)(x:ay):Int×Int:=if x.bad=true then s else(s.1+kr p x,if x.live=0 then max s.2 (kr p x)else s.2)
def fw(p:Int)(l:List ay):Int×Int:=l.foldl (qD p) (0,0)
def jM(c:CV)(fl:List Int):Int×Int:=((fw c.pages (av c fl)).1 -(fw c.pages (av c fl)).2,(fw c.pages (av c fl)).1)
theorem LP{p:Int}{l:List ay}{i:Nat}{x:ay}(h:l[i]? =some x):fw p (l.take (i+1))=qD p (fw p (l.take i)) x:=by
  rw[fw,List.take_add_one,h];simp[fw]
theorem CB{c:CV}{n:Nat}{x:ay}(h:Cz c n x)(hk:aV c=true):0≤kr c.pages x∧kr c.pages x≤c.pages:=by
  have hd:=eE hk
  have:=h.zM;have:=h.xu
  rw[kr];split<;>omega
theorem LQ{c:CV}{n:Nat}(hk:aV c=true)(l:List ay)(h: ∀x∈l,Cz c n x): ∀i,i≤l.length→0≤(fw c.pages (l.take i)).1∧(fw c.pages (l.take i)).1≤16*(i:Int)∧0≤(fw c.pages (l.take i)).2∧(fw c.pages (l.take i)).2≤16
  |0,_=>by simp[fw]
  |i+1,hi=>by
   obtain⟨x,hx⟩:=get_some (xs:=l) (i:=i) (by omega)
   have ih:=LQ hk l h i (by omega)
   have hr:=CB (h x (List.mem_of_getElem? hx)) hk
   have hd:=eE hk
   rw[LP hx,qD]
   split
   ·omega
   ·refine⟨by simp only;omega,by simp only;omega,?_,?_⟩
    ·simp only;split<;>omega
    ·simp only;split<;>omega
open Go.aA
structure cV(x:WV):Prop where
 ae:aV x.v.ae=true
 len:4≤(x.v.ae.blocks.length:Int)
 pages:2≤x.v.ae.pages
 size:24≤x.v.ae.size
 last:x.v.last=0∨x.v.last=1
 gen:x.v.gen<281474976710656
 sK:hU x.v.ae x.v.at_
 j6:x.v.at_.length≤64
theorem cV.on{x:WV}(h:cV x){c:CV}(hk:aV c=true)(hl:dx x.v.ae c):cV (x.on c):=
 ⟨hk,by simp only[WV.on];rw[hl.len];exact h.len,by simp only[WV.on];rw[hl.pages];exact h.pages,by simp only[WV.on];rw[hl.size];exact h.size,h.last,h.gen,h.sK.bT hl,h.j6⟩
theorem cV.qE{x:WV}(h:cV x):4≤x.v.ae.blocks.length:=by have:=h.len;omega
theorem LR(x:WV):x.on x.v.ae=x:=rfl
theorem LS(x:WV)(c d:CV):(x.on c).on d=x.on d:=rfl
def aX(c:CV)(last:Int):CV×Int×Int:=
 if 0<dD c last then(c,last,0)
 else if 0<dD c (1 -last)then(c,1 -last,0)
 else if(aj c (1 -last)).bad=true then(c,0,9)
 else(cY c (1 -last),1 -last,dG c (1 -last))
theorem CC{c:CV}{b:Int}(h:0<dD c b):(aj c b).bad=false:=by
 rw[dD]at h;split at h
 ·
  omega
 ·
  rename_i hn;simpa using hn
theorem CD{c:CV}{last:Int}(hk:aV c=true)(hl:last=0∨last=1):aV (aX c last).1=true∧dx c (aX c last).1∧c.ops≤(aX c last).1.ops∧
  ((aX c last).2.2=0→((aX c last).2.1=0∨(aX c last).2.1=1)∧(aj (aX c last).1 (aX c last).2.1).bad=false):=by
 rw[aX]
 by_cases h1:0<dD c last
 ·
  rw[if_pos h1];exact⟨hk, .cZ c,Int.le_refl _,fun _=>⟨hl,CC h1⟩⟩
 ·
  rw[if_neg h1]
  by_cases h2:0<dD c (1 -last)
  ·
   rw[if_pos h2];exact⟨hk, .cZ c,Int.le_refl _,fun _=>⟨by simp only;omega,CC h2⟩⟩
  ·
   rw[if_neg h2]
   by_cases h3:(aj c (1 -last)).bad=true
   ·
    rw[if_pos h3];exact⟨hk, .cZ c,Int.le_refl _,fun h=>absurd (show(9:Int)=0 from h) (by decide)⟩
   ·
    rw[if_neg h3];exact⟨zK hk _,sJ _ _,Lw _ _,fun h=>⟨by simp only;omega,LN h⟩⟩
def gw:Nat→WV→List Int→List UInt8→WV×Int
 |0,x,_,_=>(x,0)
 |n+1,x,a,b=>
  if(aX x.v.ae x.v.last).2.2≠0 then(x.on (aX x.v.ae x.v.last).1,(aX x.v.ae x.v.last).2.2)
  else if bC (aX x.v.ae x.v.last).1 (aX x.v.ae x.v.last).2.1 b=0 then
   (⟨⟨bn (aX x.v.ae x.v.last).1 (aX x.v.ae x.v.last).2.1 b,a,x.v.gen+1,if gW (bn (aX x.v.ae x.v.last).1 (aX x.v.ae x.v.last).2.1 b) 1=x.v.gen+1 then 1 else(aX x.v.ae x.v.last).2.1⟩,x.beyond⟩,0)
  else if bC (aX x.v.ae x.v.last).1 (aX x.v.ae x.v.last).2.1 b≠9 then
   (x.on (bn (aX x.v.ae x.v.last).1 (aX x.v.ae x.v.last).2.1 b),bC (aX x.v.ae x.v.last).1 (aX x.v.ae x.v.last).2.1 b)
  else gw n (x.on (bn (aX x.v.ae x.v.last).1 (aX x.v.ae x.v.last).2.1 b)) a b
def dP(x:WV)(a:List Int):WV×Int:=
 if(cO ⟨x.v.gen+1,a⟩ x.v.ae.size).2≠0 then(x,(cO ⟨x.v.gen+1,a⟩ x.v.ae.size).2)
 else gw ((cP -x.v.ae.ops).toNat+1) x a (cO ⟨x.v.gen+1,a⟩ x.v.ae.size).1
structure jg(x y:WV):Prop where
 ok:cV y
 bT:dx x.v.ae y.v.ae
 ops:x.v.ae.ops≤y.v.ae.ops
 vC:y.v.at_.length=x.v.at_.length
theorem jg.cZ{x:WV}(h:cV x):jg x x:=⟨h, .cZ _,Int.le_refl _,rfl⟩
theorem jg.trans{x y z:WV}(h:jg x y)(g:jg y z):jg x z:=⟨g.ok,h.bT.trans g.bT,Int.le_trans h.ops g.ops,g.vC.trans h.vC⟩
theorem jg.on{x:WV}(h:cV x){c:CV}(hk:aV c=true)(hl:dx x.v.ae c)(ho:x.v.ae.ops≤c.ops):jg x (x.on c):=⟨h.on hk hl,hl,ho,rfl⟩
theorem Uh{r:RV}{n:Int}(h:(cO r n).2=0):r.gen<281474976710656∧(r.at_.length:Int)≤jd n:=by
 rw[cO]at h;split at h
 ·
  rename_i hm;have:=tN.1 hm;exact⟨this.2.1,this.2.2.1⟩
 ·
  cases h
theorem Ui(n:Int):jd n≤64:=by rw[jd];omega
theorem LU: ∀(n:Nat) {x:WV} {a:List Int} {b:List UInt8},cV x→hU x.v.ae a→a.length=x.v.at_.length→x.v.gen+1<281474976710656→(cP -x.v.ae.ops).toNat<n→jg x (gw n x a b).1∧((gw n x a b).2=0→x.v.ae.ops<(gw n x a b).1.v.ae.ops)
 |0,x,a,b,_,_,_,_,hn=>by omega
 |n+1,x,a,b,hx,ha,dJ,hg,hn=>by
  obtain⟨r1,r2,r3,r4⟩:=CD (c:=x.v.ae) (last:=x.v.last) hx.ae hx.last
  rw[gw]
  by_cases h0:(aX x.v.ae x.v.last).2.2≠0
  ·
   rw[if_pos h0];exact⟨.on hx r1 r2 r3,fun h=>absurd h h0⟩
  ·
   rw[if_neg h0]
   obtain⟨r5,r6⟩:=r4 (by simpa using h0)
   have fC:=kK r1 (aX x.v.ae x.v.last).2.1 b
   have bX:=r2.trans (gU (aX x.v.ae x.v.last).1 (aX x.v.ae x.v.last).2.1 b)
   have lE:=vA (aX x.v.ae x.v.last).1 (aX x.v.ae x.v.last).2.1 b
   by_cases h1:bC (aX x.v.ae x.v.last).1 (aX x.v.ae x.v.last).2.1 b=0
   ·
    rw[if_pos h1]
    have ho:=rB r6 (p:=b) (.inr h1)
    have fA:=hx.on fC bX
    refine⟨⟨⟨fC,fA.len,fA.pages,fA.size,?_,hg,ha.bT bX,by simp only;rw[dJ];exact hx.j6⟩,bX,by simp only;omega,dJ⟩,fun _=>by simp only;omega⟩
    simp only;split
    ·
     exact .inr rfl
    ·
     exact r5
   ·
    rw[if_neg h1]
    by_cases h9:bC (aX x.v.ae x.v.last).1 (aX x.v.ae x.v.last).2.1 b≠9
    ·
     rw[if_pos h9];exact⟨.on hx fC bX (by omega),fun h=>absurd h h1⟩
    ·
     rw[if_neg h9]
     have ho:=rB r6 (p:=b) (.inl (by simpa using h9))
     have hle:=qC fC
     have fA:=hx.on fC bX
     have:=LU n (x:=x.on (bn (aX x.v.ae x.v.last).1 (aX x.v.ae x.v.last).2.1 b)) (a:=a) (b:=b) fA (ha.bT bX) dJ hg (by simp only[WV.on];omega)
     exact⟨(jg.on hx fC bX (by omega)).trans this.1,fun h=>by
      have h2:(bn (aX x.v.ae x.v.last).1 (aX x.v.ae x.v.last).2.1 b).ops<_:=this.2 h
      omega⟩
theorem F4{x:WV}{a:List Int}(hx:cV x)(ha:hU x.v.ae a)(dJ:a.length=x.v.at_.length):jg x (dP x a).1∧((dP x a).2=0→x.v.ae.ops<(dP x a).1.v.ae.ops):=by
 rw[dP];split
 ·
  rename_i h;exact⟨.cZ hx,fun h'=>absurd h' h⟩
 ·
  rename_i h
  have:=Uh (r:=⟨x.v.gen+1,a⟩) (n:=x.v.ae.size) (by simpa using h)
  exact LU _ hx ha dJ this.1 (by omega)
def fx:Nat→Int→CV→CV×Int
 |0,_,c=>(c,0)
 |n+1,b,c=>if pK c b=false then fx n (b+1) c
  else if dG c b≠0∧dG c b≠9 then(cY c b,dG c b)else fx n (b+1) (cY c b)
def lF(c:CV)(b:Int)(ids:Nat):List UInt8×Int:=cO ⟨fG c b,List.replicate ids 0⟩ c.size
def CE(c:CV)(b:Int)(ids:Nat)(g:Nat):VV:=⟨c,List.replicate ids 0,g,b⟩
def pN:Nat→Int→WV→Nat→WV×Int
 |0,_,x,_=>(x,9)
 |n+1,b,x,ids=>
  if(lF x.v.ae b ids).2≠0∨dD x.v.ae b=0 then pN n (b+1) x ids
  else if bC x.v.ae b (lF x.v.ae b ids).1=0 then(⟨CE (bn x.v.ae b (lF x.v.ae b ids).1) b ids (fG x.v.ae b),x.beyond⟩,0)
  else if bC x.v.ae b (lF x.v.ae b ids).1≠9 then(x.on (bn x.v.ae b (lF x.v.ae b ids).1),bC x.v.ae b (lF x.v.ae b ids).1)
  else pN n (b+1) (x.on (bn x.v.ae b (lF x.v.ae b ids).1)) ids
def oP(x:WV)(ids:Nat):WV×Int:=
 if(fx x.v.ae.blocks.length 0 x.v.ae).2≠0 then(x.on (fx x.v.ae.blocks.length 0 x.v.ae).1,(fx x.v.ae.blocks.length 0 x.v.ae).2)
 else pN 2 0 (x.on (fx x.v.ae.blocks.length 0 x.v.ae).1) ids
open Go.aA
def tV(s:Int×Int)(i:Nat)(x:ay):Int×Int:=
 if x.bad=true∨x.live=0∨cP≤x.aT then s else if s.2<x.used -x.live then((i:Int),x.used -x.live)else s
def fT(l:List ay):Nat→Int×Int
 |0=>(0,0)
 |k+1=>tV (fT l k) k (l.getD k dO)
def gI(l:List ay)(p:Int):Int×Bool:=if(qz l p).2=true then((qz l p).1,true)else((fT l l.length).1,decide (0<(fT l l.length).2))
theorem F5(l:List ay): ∀k,0≤(fT l k).1∧0≤(fT l k).2∧(0<(fT l k).2→(fT l k).1<k)
 |0=>by simp[fT]
 |k+1=>by
  have:=F5 l k
  rw[fT,tV]
  split
  ·
   exact⟨this.1,this.2.1,fun h=>by have:=this.2.2 h;omega⟩
  ·
   split
   ·
    exact⟨by simp only;omega,by simp only;omega,fun _=>by simp only;omega⟩
   ·
    exact⟨this.1,this.2.1,fun h=>by have:=this.2.2 h;omega⟩
theorem F6{l:List ay}{p:Int}(h:(gI l p).2=true):0≤(gI l p).1∧(gI l p).1<l.length:=by
 rw[gI]at h⊢
 split
 ·
  rename_i hv
  have:=xq hv
  exact⟨this.2.1,this.2.2.1⟩
 ·
  rename_i hv
  rw[if_neg hv]at h
  have:=F5 l l.length
  exact⟨this.1,this.2.2 (by simpa using h)⟩
def pO(x:ay):Bool:=decide (x.used=0)
def qF(p:Int)(x:ay):Bool:=decide (x.used=p)
def qG(x:ay):Bool:=decide (x.aT<cP)
def lf(c:CV)(l:List ay):Int×Bool:=eM (bS pO l) c.pages
def jt(c:CV)(l:List ay):Int×Bool:=eQ (bS (qF c.pages) l) c.pages
def ju(c:CV)(l:List ay):Int×Bool:=eQ (bS qG l) c.pages
def bV(c:CV)(l:List ay):CV×Int×Int:=
 if(lf c l).2=true then(c,(lf c l).1+2,0)
 else if(jt c l).2=true then((cA c ((jt c l).1+2)).1,(jt c l).1+2,(cA c ((jt c l).1+2)).2)
 else if(ju c l).2=true then((cA c ((ju c l).1+2)).1,(ju c l).1+2,(cA c ((ju c l).1+2)).2)
 else(c,0,6)
def kt(c:CV)(l:List ay):Prop:=l.length=c.blocks.length -2∧ ∀(i:Nat) (x:ay),l[i]? =some x→x.bad=false→(aj c ((i:Int)+2)).bad=false
theorem vD(c:CV)(fl:List Int):kt c (av c fl):=⟨kL c fl,fun i x hx hb=>by rw[←Cy hx];exact hb⟩
theorem kt.set{c:CV}{l:List ay}(h:kt c l)(i:Nat):kt c (l.set i bl):=⟨by rw[List.length_set];exact h.1,fun j x hx hb=>by
 rw[List.getElem?_set]at hx
 split at hx
 ·
  split at hx
  ·
   obtain rfl:=Option.some.inj hx;cases hb
  ·
   cases hx
 ·
  exact h.2 j x hx hb⟩
theorem tW{c:CV}{R:ay→Bool}{l:List ay}{dX:ay→Bool}{os:List (ay→ay→Int)}(ht:kt c l)(hr: ∀x,dX x=true→x.bad=false)(h:(fu (bS R l) c.pages dX os).2=true):
  0≤(fu (bS R l) c.pages dX os).1∧(fu (bS R l) c.pages dX os).1<((c.blocks.length -2:Nat):Int)∧(aj c ((fu (bS R l) c.pages dX os).1+2)).bad=false:=by
 obtain⟨x,hx,k1,_,_,k4,k5⟩:=nx hr h
 rw[ht.1]at k5
 refine⟨k4,k5,?_⟩
 have:=ht.2 _ x hx k1
 rwa [show(((fu (bS R l) c.pages dX os).1.toNat:Nat):Int)=(fu (bS R l) c.pages dX os).1 by omega]at this
theorem F7{c:CV}{l:List ay}(hk:aV c=true)(ht:kt c l):aV (bV c l).1=true∧dx c (bV c l).1∧c.ops≤(bV c l).1.ops∧
  ((bV c l).2.2=0→2≤(bV c l).2.1∧(bV c l).2.1<c.blocks.length∧(aj (bV c l).1 (bV c l).2.1).bad=false)∧((bV c l).2.2=9→c.ops<(bV c l).1.ops)∧((bV c l).2.2=6→(bV c l).1=c):=by
 rw[bV]
 have e6: ∀{b:Int},(cA c b).2≠6:=fun{b}=>by
  have: ∀n {c:CV},(fe n c b).2≠6:=by
   intro n
   induction n with
   |zero=>
    intro c
    simp only[fe,dG]
    split
    ·
     split
     ·
      decide
     ·
      split
      ·
       decide
      ·
       split
       ·
        rw[kF];split<;>decide
       ·
        decide
    ·
     decide
   |succ n ih=>
    intro c
    rw[fe];split
    ·
     simp only[bC,jG]
     split
     ·
      split
      ·
       decide
      ·
       split
       ·
        decide
       ·
        split
        ·
         rw[kF];split<;>decide
        ·
         decide
     ·
      decide
    ·
     exact ih
  exact this _
 by_cases h1:(lf c l).2=true
 ·
  rw[if_pos h1]
  have:=tW ht (fun x h=>(qA h).1) h1
  change 0≤(lf c l).1∧(lf c l).1<_∧(aj c ((lf c l).1+2)).bad=false at this
  exact⟨hk, .cZ c,Int.le_refl _,fun _=>⟨by simp only;omega,by simp only;omega,this.2.2⟩,fun h=>absurd (show(0:Int)=9 from h) (by decide),fun h=>absurd (show(0:Int)=6 from h) (by decide)⟩
 ·
  rw[if_neg h1]
  by_cases h2:(jt c l).2=true
  ·
   rw[if_pos h2]
   have:=tW ht (fun x h=>(kM h).1) h2
   change 0≤(jt c l).1∧(jt c l).1<_∧(aj c ((jt c l).1+2)).bad=false at this
   have hc:=tT ((jt c l).1+2) hk
   exact⟨hc.1,hc.2,xt _ _ _,fun h=>⟨by simp only;omega,by simp only;omega,CA _ h⟩,fun h=>Cx this.2.2 (.inl h),fun h=>absurd h e6⟩
  ·
   rw[if_neg h2]
   by_cases h3:(ju c l).2=true
   ·
    rw[if_pos h3]
    have:=tW ht (fun x h=>(kM h).1) h3
    change 0≤(ju c l).1∧(ju c l).1<_∧(aj c ((ju c l).1+2)).bad=false at this
    have hc:=tT ((ju c l).1+2) hk
    exact⟨hc.1,hc.2,xt _ _ _,fun h=>⟨by simp only;omega,by simp only;omega,CA _ h⟩,fun h=>Cx this.2.2 (.inl h),fun h=>absurd h e6⟩
   ·
    rw[if_neg h3]
    exact⟨hk, .cZ c,Int.le_refl _,fun h=>absurd (show(6:Int)=0 from h) (by decide),fun h=>absurd (show(6:Int)=9 from h) (by decide),fun _=>rfl⟩
def cg(c:CV)(a0 a:List Int)(src to:Int):Int×Bool:=
 if to<0 then(if(eM ((av c (a0++a)).set (src -2).toNat bl) c.pages).2=true then((eM ((av c (a0++a)).set (src -2).toNat bl) c.pages).1+2,true)else(0,false))else(to,true)
def dQ(c:CV)(g id n:Int):List UInt8×Int:=dg ⟨1,id,g.toNat,iT c n⟩ c.size
structure MV where
 c:CV
 a:List Int
 e:Option Int
def bZ(v:VV)(src to:Int):List Int→Nat→CV→List Int→MV
 |[],_,c,a=>⟨c,a,none⟩
 |n::r,id,c,a=>
  if n=0∨(n -1)/v.ae.pages≠src then bZ v src to r (id+1) c a
  else if(cg c v.at_ a src to).2=false then⟨c,a,some 6⟩
  else if(dQ c ((v.gen:Int)+1) id n).2≠0 then⟨c,a,some (dQ c ((v.gen:Int)+1) id n).2⟩
  else if bC c (cg c v.at_ a src to).1 (dQ c ((v.gen:Int)+1) id n).1≠0 then
   ⟨bn c (cg c v.at_ a src to).1 (dQ c ((v.gen:Int)+1) id n).1,a,some (jr (bC c (cg c v.at_ a src to).1 (dQ c ((v.gen:Int)+1) id n).1))⟩
  else bZ v src to r (id+1) (bn c (cg c v.at_ a src to).1 (dQ c ((v.gen:Int)+1) id n).1) (a.set id ((cg c v.at_ a src to).1*v.ae.pages+(aj c (cg c v.at_ a src to).1).used+1))
def c5(x:WV)(src to:Int):WV×Bool×Int:=
 match(bZ x.v src to x.v.at_ 0 x.v.ae x.v.at_).e with
 |some e=>(x.on (bZ x.v src to x.v.at_ 0 x.v.ae x.v.at_).c,false,e)
 |none=>((dP (x.on (bZ x.v src to x.v.at_ 0 x.v.ae x.v.at_).c) (bZ x.v src to x.v.at_ 0 x.v.ae x.v.at_).a).1,decide ((dP (x.on (bZ x.v src to x.v.at_ 0 x.v.ae x.v.at_).c) (bZ x.v src to x.v.at_ 0 x.v.ae x.v.at_).a).2=0),(dP (x.on (bZ x.v src to x.v.at_ 0 x.v.ae x.v.at_).c) (bZ x.v src to x.v.at_ 0 x.v.ae x.v.at_).a).2)
theorem F8{x:WV}{src to:Int}{c:CV}{a:List Int}{e:Int}(h:bZ x.v src to x.v.at_ 0 x.v.ae x.v.at_=⟨c,a,some e⟩):c5 x src to=(x.on c,false,e):=by
 rw[c5,h]
theorem Uj{x:WV}{src to:Int}{c:CV}{a:List Int}(h:bZ x.v src to x.v.at_ 0 x.v.ae x.v.at_=⟨c,a,none⟩):c5 x src to=((dP (x.on c) a).1,decide ((dP (x.on c) a).2=0),(dP (x.on c) a).2):=by
 rw[c5,h]
theorem LV{c:CV}{a0 a:List Int}{src to:Int}(h:(cg c a0 a src to).2=true)(ht:0≤to→2≤to∧to<c.blocks.length∧(aj c to).bad=false):
  2≤(cg c a0 a src to).1∧(cg c a0 a src to).1<c.blocks.length∧(aj c (cg c a0 a src to).1).bad=false:=by
 rw[cg]at h⊢
 by_cases h1:to<0
 ·
  rw[if_pos h1]at h⊢
  by_cases h2:(eM ((av c (a0++a)).set (src -2).toNat bl) c.pages).2=true
  ·
   rw[if_pos h2]
   have hT:=(vD c (a0++a)).set (src -2).toNat
   obtain⟨k1,k2,k3,k4⟩:=xq h2
   change 0≤(eM ((av c (a0++a)).set (src -2).toNat bl) c.pages).1 at k2
   change(eM ((av c (a0++a)).set (src -2).toNat bl) c.pages).1<_ at k3
   change lB _ (List.getD _ (eM ((av c (a0++a)).set (src -2).toNat bl) c.pages).1.toNat _)=true at k4
   rw[hT.1]at k3
   have hi:((av c (a0++a)).set (src -2).toNat bl)[(eM ((av c (a0++a)).set (src -2).toNat bl) c.pages).1.toNat]? =some _:=oD (d:=dO) (by rw[hT.1];omega)
   have:=hT.2 _ _ hi (qA k4).1
   rw[show(((eM ((av c (a0++a)).set (src -2).toNat bl) c.pages).1.toNat:Nat):Int)=(eM ((av c (a0++a)).set (src -2).toNat bl) c.pages).1 by omega]at this
   exact⟨by simp only;omega,by simp only;omega,this⟩
  ·
   rw[if_neg h2]at h;cases h
 ·
  rw[if_neg h1]
  exact ht (by omega)
theorem zP(c:CV)(b g:Int)(p:List UInt8):jG c b g p=0∨jG c b g p=1∨jG c b g p=7∨jG c b g p=9:=by
 rw[jG];split
 ·
  split
  ·
   omega
  ·
   split
   ·
    omega
   ·
    split
    ·
     rw[kF];split<;>omega
    ·
     omega
 ·
  omega
theorem xx(p:PV)(n:Int):(dg p n).2=0∨(dg p n).2=1:=by
 rw[dg];split<;>simp
theorem F9{c:CV}{b:Int}{p:List UInt8}(h:bC c b p=0)(b':Int):(aj (bn c b p) b').bad=(aj c b').bad:=by
 obtain⟨h1,h2,h3,h4,h5⟩:=nv h
 have hh:=(iS.1 h1).1
 obtain⟨_,g2,g3⟩:=gq.1 hh
 rw[h5,gG]
 simp only[aj,List.getD,List.getElem?_set]
 by_cases e:b.toNat=b'.toNat
 ·
  rw[if_pos e,if_pos (by omega),e]
  simp
 ·
  rw[if_neg e]
theorem Ga{v:VV}{src to:Int}: ∀(l:List Int) (id:Nat) {c:CV} {a:List Int},aV c=true→dx v.ae c→v.ae.ops≤c.ops→hU v.ae a→(0≤to→2≤to∧to<c.blocks.length∧(aj c to).bad=false)→
  aV (bZ v src to l id c a).c=true∧dx v.ae (bZ v src to l id c a).c∧c.ops≤(bZ v src to l id c a).c.ops∧hU v.ae (bZ v src to l id c a).a∧(bZ v src to l id c a).a.length=a.length∧
   ((bZ v src to l id c a).e=some 0→c.ops<(bZ v src to l id c a).c.ops)∧((bZ v src to l id c a).e=some 6→ ∀b,(aj (bZ v src to l id c a).c b).bad=(aj c b).bad)
 |[],id,c,a,hk,hl,ho,ha,ht=>⟨hk,hl,Int.le_refl _,ha,rfl,fun h=>by simp[bZ]at h,fun h=>by simp[bZ]at h⟩
 |n::r,id,c,a,hk,hl,ho,ha,ht=>by
  rw[bZ]
  by_cases h1:n=0∨(n -1)/v.ae.pages≠src
  ·
   rw[if_pos h1];exact Ga r (id+1) hk hl ho ha ht
  ·
   rw[if_neg h1]
   by_cases h2:(cg c v.at_ a src to).2=false
   ·
    rw[if_pos h2];exact⟨hk,hl,Int.le_refl _,ha,rfl,fun h=>by simp at h,fun _ _=>rfl⟩
   ·
    rw[if_neg h2]
    obtain⟨m1,m2,m3⟩:=LV (by simpa using h2) ht
    by_cases h3:(dQ c ((v.gen:Int)+1) id n).2≠0
    ·
     rw[if_pos h3]
     have xz:(dQ c ((v.gen:Int)+1) id n).2=1:=(xx _ _).resolve_left h3
     exact⟨hk,hl,Int.le_refl _,ha,rfl,fun h=>absurd (Option.some.inj h) h3,fun h=>absurd (xz.symm.trans (Option.some.inj h)) (by decide)⟩
    ·
     rw[if_neg h3]
     by_cases h4:bC c (cg c v.at_ a src to).1 (dQ c ((v.gen:Int)+1) id n).1≠0
     ·
      rw[if_pos h4]
      have gQ:bC c (cg c v.at_ a src to).1 (dQ c ((v.gen:Int)+1) id n).1=1∨bC c (cg c v.at_ a src to).1 (dQ c ((v.gen:Int)+1) id n).1=7∨bC c (cg c v.at_ a src to).1 (dQ c ((v.gen:Int)+1) id n).1=9:=(zP _ _ _ _).resolve_left h4
      refine⟨kK hk _ _,hl.trans (gU _ _ _),vA _ _ _,ha,rfl,fun h=> ?_,fun h=> ?_⟩
      ·
       have h:=Option.some.inj h
       rw[jr]at h
       split at h
       ·
        rename_i h9
        have:=rB m3 (.inl h9)
        simp only;omega
       ·
        exact absurd h h4
      ·
       have h:=Option.some.inj h
       rw[jr]at h
       split at h
       ·
        cases h
       ·
        omega
     ·
      rw[if_neg h4]
      have rG:bC c (cg c v.at_ a src to).1 (dQ c ((v.gen:Int)+1) id n).1=0:=by simpa using h4
      have fC:=iS.1 (nv rG).1
      have hd:=eE hk
      have lZ:=hl.trans (gU c (cg c v.at_ a src to).1 (dQ c ((v.gen:Int)+1) id n).1)
      have dK:=rB m3 (p:=(dQ c ((v.gen:Int)+1) id n).1) (.inr rG)
      have CF:v.ae.pages=c.pages:=hl.pages.symm
      have ih:=Ga r (id+1) (src:=src) (to:=to) (kK hk (cg c v.at_ a src to).1 (dQ c ((v.gen:Int)+1) id n).1) lZ (by omega) (a:=a.set id ((cg c v.at_ a src to).1*v.ae.pages+(aj c (cg c v.at_ a src to).1).used+1)) (fun y hy=>by
       rcases List.mem_or_eq_of_mem_set hy with hy|rfl
       ·
        exact ha y hy
       ·
        have hq:((cg c v.at_ a src to).1*v.ae.pages+(aj c (cg c v.at_ a src to).1).used+1 -1)/v.ae.pages=(cg c v.at_ a src to).1:=by
         rw[CF,Int.add_sub_cancel,Int.add_comm,Int.add_mul_ediv_right _ _ (by omega),Int.ediv_eq_zero_of_lt fC.2.1 fC.2.2.1,Int.zero_add]
        have h0:0≤(cg c v.at_ a src to).1*v.ae.pages:=Int.mul_nonneg (by omega) (by omega)
        have:=fC.2.1
        exact .inr ⟨by omega,by rw[hq];exact m1,by rw[hq,←hl.len];exact m2⟩) (fun h=>by
       have:=ht h
       rw[(gU c _ _).len,F9 rG]
       exact this)
      obtain⟨i1,i2,i3,i4,i5,i6,i7⟩:=ih
      refine⟨i1,i2,by omega,i4,by rw[i5,List.length_set],fun h=>by have:=i6 h;omega,fun h b=> ?_⟩
      rw[i7 h b,F9 rG]
theorem Gb(c:CV)(b:Int):dG c b=0∨dG c b=1∨dG c b=7∨dG c b=9:=by
 rw[dG];split
 ·
  split
  ·
   omega
  ·
   split
   ·
    omega
   ·
    split
    ·
     rw[kF];split<;>omega
    ·
     omega
 ·
  omega
theorem Uk(c:CV)(l:Int):(aX c l).2.2=0∨(aX c l).2.2=1∨(aX c l).2.2=7∨(aX c l).2.2=9:=by
 rw[aX]
 split
 ·
  exact .inl rfl
 ·
  split
  ·
   exact .inl rfl
  ·
   split
   ·
    exact .inr (.inr (.inr rfl))
   ·
    exact Gb _ _
theorem LW: ∀(n:Nat) (y:WV) (a:List Int) (b:List UInt8),(gw n y a b).2≠6
 |0,y,a,b=>by simp[gw]
 |n+1,y,a,b=>by
  rw[gw]
  split
  ·
   have:=Uk y.v.ae y.v.last
   simp only;omega
  ·
   split
   ·
    simp
   ·
    split
    ·
     have:=zP (aX y.v.ae y.v.last).1 (aX y.v.ae y.v.last).2.1 (aj (aX y.v.ae y.v.last).1 (aX y.v.ae y.v.last).2.1).used b
     simp only[bC];omega
    ·
     exact LW n _ _ _
theorem Gd(y:WV)(a:List Int):(dP y a).2≠6:=by
 rw[dP]
 split
 ·
  rw[cO]
  split
  ·
   have:=xx ⟨2,max 0 ((a.length:Int) -1),y.v.gen+1,gv a⟩ y.v.ae.size
   simp only;omega
  ·
   simp
 ·
  exact LW _ _ _ _
theorem CG{x:WV}{src to:Int}(hx:cV x)(ht:0≤to→2≤to∧to<x.v.ae.blocks.length∧(aj x.v.ae to).bad=false):
  jg x (c5 x src to).1∧((c5 x src to).2.2=0→x.v.ae.ops<(c5 x src to).1.v.ae.ops)∧((c5 x src to).2.1=true→(c5 x src to).2.2=0)∧((c5 x src to).2.1=false∧(c5 x src to).2.2=6→ ∀b,(aj (c5 x src to).1.v.ae b).bad=(aj x.v.ae b).bad):=by
 obtain⟨h1,h2,h3,h4,h5,h6,h7⟩:=Ga x.v.at_ 0 (src:=src) hx.ae (.cZ _) (Int.le_refl _) hx.sK ht
 rw[c5]
 split
 ·
  rename_i e he
  refine⟨.on hx h1 h2 h3,fun h=>h6 (by rw[he];exact congrArg some h),fun h=>absurd (show false=true from h) (by simp),fun h b=>h7 (by rw[he];exact congrArg some h.2) b⟩
 ·
  rename_i he
  have fA:=hx.on h1 h2
  have hw:=F4 fA (a:=(bZ x.v src to x.v.at_ 0 x.v.ae x.v.at_).a) (h4.bT h2) h5
  refine⟨(jg.on hx h1 h2 h3).trans hw.1,fun h=> ?_,fun h=>by simpa using h,fun h=> ?_⟩
  ·
   have g:(bZ x.v src to x.v.at_ 0 x.v.ae x.v.at_).c.ops<_:=hw.2 h
   simp only;omega
  ·
   exact absurd h.2 (Gd _ _)
open Go.aA
theorem LX: ∀(n:Nat) (c:CV) (b:Int),(fe n c b).2≠6
 |0,c,b=>by have:=Gb c b;simp only[fe];omega
 |n+1,c,b=>by
  rw[fe];split
  ·
   have:=zP c b (aj c b).used (hQ c);simp only[bC];omega
  ·
   exact LX n _ _
theorem LY(c:CV)(b:Int):(cA c b).2≠6:=LX _ _ _
def oQ(c:CV)(l:List ay)(i:Int):Bool:=decide ((bV c (l.set i.toNat bl)).2.2=6)&&decide ((l.getD i.toNat dO).live≤zJ (l.set i.toNat bl) c.pages)
def cQ(c:CV)(l:List ay)(i:Int):Int×Int:=if oQ c l i=true then(-1,0)else(bV c (l.set i.toNat bl)).2
def ff(x:WV)(l:List ay)(i:Int):WV×Int:=
 if(cQ x.v.ae l i).2≠0 then(x.on (bV x.v.ae (l.set i.toNat bl)).1,jr (cQ x.v.ae l i).2)
 else if(c5 (x.on (bV x.v.ae (l.set i.toNat bl)).1) (i+2) (cQ x.v.ae l i).1).2.1=false∨(l.getD i.toNat dO).used=x.v.ae.pages then
  ((c5 (x.on (bV x.v.ae (l.set i.toNat bl)).1) (i+2) (cQ x.v.ae l i).1).1,(c5 (x.on (bV x.v.ae (l.set i.toNat bl)).1) (i+2) (cQ x.v.ae l i).1).2.2)
 else((c5 (x.on (bV x.v.ae (l.set i.toNat bl)).1) (i+2) (cQ x.v.ae l i).1).1.on (cA (c5 (x.on (bV x.v.ae (l.set i.toNat bl)).1) (i+2) (cQ x.v.ae l i).1).1.v.ae (i+2)).1,
  jr (cA (c5 (x.on (bV x.v.ae (l.set i.toNat bl)).1) (i+2) (cQ x.v.ae l i).1).1.v.ae (i+2)).2)
theorem LZ{e:Int}(h:jr e=0):e=0∨e=9:=by
 rw[jr]at h;split at h
 ·
  exact .inr (by assumption)
 ·
  exact .inl h
theorem CH{e:Int}(h:jr e=6):e=6:=by
 rw[jr]at h;split at h
 ·
  cases h
 ·
  exact h
theorem CI{c:CV}{l:List ay}{i:Int}(hk:aV c=true)(ht:kt c l):(cQ c l i).2=0→0≤(cQ c l i).1→2≤(cQ c l i).1∧(cQ c l i).1<c.blocks.length∧(aj (bV c (l.set i.toNat bl)).1 (cQ c l i).1).bad=false:=by
 intro h h0
 rw[cQ]at h h0⊢
 split at h
 ·
  rename_i ha;rw[if_pos ha]at h0;exact absurd (show(0:Int)≤ -1 from h0) (by decide)
 ·
  rename_i ha;rw[if_neg ha];exact(F7 hk (ht.set i.toNat)).2.2.2.1 h
theorem Ul{x:WV}{src to:Int}(hx:cV x)(ht:0≤to→2≤to∧to<x.v.ae.blocks.length∧(aj x.v.ae to).bad=false):cV (c5 x src to).1∧dx x.v.ae (c5 x src to).1.v.ae:=
 ⟨(CG hx ht).1.ok,(CG hx ht).1.bT⟩
theorem Ge{x:WV}{l:List ay}{i:Int}(hx:cV x)(ht:kt x.v.ae l):
  jg x (ff x l i).1∧((ff x l i).2=0→x.v.ae.ops<(ff x l i).1.v.ae.ops)∧((ff x l i).2=6→ ∀b,(aj (ff x l i).1.v.ae b).bad=(aj x.v.ae b).bad):=by
 obtain⟨t1,t2,t3,t4,t5,t6⟩:=F7 hx.ae (ht.set i.toNat)
 have hn:=jg.on hx t1 t2 t3
 rw[ff]
 by_cases h0:(cQ x.v.ae l i).2≠0
 ·
  rw[if_pos h0]
  have he:(cQ x.v.ae l i).2=(bV x.v.ae (l.set i.toNat bl)).2.2:=by
   rw[cQ]at h0⊢
   split at h0
   ·
    exact absurd rfl h0
   ·
    rename_i ha;rw[if_neg ha]
  refine⟨hn,fun h=> ?_,fun h b=> ?_⟩
  ·
   rcases LZ h with g|g
   ·
    exact absurd g h0
   ·
    exact t5 (he▸g)
  ·
   have:=t6 (he▸CH h)
   simp only[WV.on];rw[this]
 ·
  rw[if_neg h0]
  have pB:(cQ x.v.ae l i).2=0:=by simpa using h0
  have hr:=CI (i:=i) hx.ae ht pB
  obtain⟨m1,m2,m3,m4⟩:=CG (x:=x.on (bV x.v.ae (l.set i.toNat bl)).1) (src:=i+2) (to:=(cQ x.v.ae l i).1) hn.ok (fun h=>by
   have:=hr h
   exact⟨this.1,by simp only[WV.on];rw[t2.len];exact this.2.1,this.2.2⟩)
  have hb:(cQ x.v.ae l i).2=0→(bV x.v.ae (l.set i.toNat bl)).2.2=6→(bV x.v.ae (l.set i.toNat bl)).1=x.v.ae:=fun _ h=>t6 h
  by_cases h1:(c5 (x.on (bV x.v.ae (l.set i.toNat bl)).1) (i+2) (cQ x.v.ae l i).1).2.1=false∨(l.getD i.toNat dO).used=x.v.ae.pages
  ·
   rw[if_pos h1]
   refine⟨hn.trans m1,fun h=> ?_,fun h b=> ?_⟩
   ·
    have g:(bV x.v.ae (l.set i.toNat bl)).1.ops<_:=m2 h
    simp only;omega
   ·
    have hf:(c5 (x.on (bV x.v.ae (l.set i.toNat bl)).1) (i+2) (cQ x.v.ae l i).1).2.1=false:=by
     cases hq:(c5 (x.on (bV x.v.ae (l.set i.toNat bl)).1) (i+2) (cQ x.v.ae l i).1).2.1 with
     |false=>rfl
     |true=>have:=m3 hq;exact absurd (this.symm.trans h) (by decide)
    rw[m4 ⟨hf,h⟩ b]
    by_cases ha:oQ x.v.ae l i=true
    ·
     simp only[oQ,Bool.and_eq_true,decide_eq_true_eq]at ha
     simp only[WV.on];rw[t6 ha.1]
    ·
     exact absurd h (Um (by
      have:(cQ x.v.ae l i).1=(bV x.v.ae (l.set i.toNat bl)).2.1:=by rw[cQ,if_neg ha]
      have g:(bV x.v.ae (l.set i.toNat bl)).2.2=0:=by
       rw[cQ,if_neg ha]at pB;exact pB
      have:=(t4 g).1
      omega))
  ·
   rw[if_neg h1]
   have hm:(c5 (x.on (bV x.v.ae (l.set i.toNat bl)).1) (i+2) (cQ x.v.ae l i).1).2.1=true:=by
    cases hq:(c5 (x.on (bV x.v.ae (l.set i.toNat bl)).1) (i+2) (cQ x.v.ae l i).1).2.1 with
    |true=>rfl
    |false=>exact absurd (.inl hq) h1
   have hz:=m2 (m3 hm)
   have hc:=tT (i+2) m1.ok.ae
   have ho:=xt (dD (c5 (x.on (bV x.v.ae (l.set i.toNat bl)).1) (i+2) (cQ x.v.ae l i).1).1.v.ae (i+2)).toNat (c5 (x.on (bV x.v.ae (l.set i.toNat bl)).1) (i+2) (cQ x.v.ae l i).1).1.v.ae (i+2)
   refine⟨(hn.trans m1).trans (.on m1.ok hc.1 hc.2 ho),fun _=> ?_,fun h=>absurd (CH h) (LY _ _)⟩
   have g:(bV x.v.ae (l.set i.toNat bl)).1.ops<_:=hz
   have g2:(c5 (x.on (bV x.v.ae (l.set i.toNat bl)).1) (i+2) (cQ x.v.ae l i).1).1.v.ae.ops≤(cA (c5 (x.on (bV x.v.ae (l.set i.toNat bl)).1) (i+2) (cQ x.v.ae l i).1).1.v.ae (i+2)).1.ops:=ho
   simp only[WV.on]at*;omega
where
 Um {x:WV} {src to:Int} (h:0≤to):(c5 x src to).2.2≠6:=by
  have key: ∀(l:List Int) (id:Nat) (c:CV) (a:List Int),(bZ x.v src to l id c a).e≠some 6:=by
   intro l
   induction l with
   |nil=>intro id c a;simp[bZ]
   |cons n r ih=>
    intro id c a
    rw[bZ]
    split
    ·
     exact ih _ _ _
    ·
     split
     ·
      rename_i h2;rw[cg,if_neg (by omega)]at h2;cases h2
     ·
      split
      ·
       rename_i h3
       have:=(xx ⟨1,id,((x.v.gen:Int)+1).toNat,iT c n⟩ c.size).resolve_left h3
       intro h;have h:=Option.some.inj h;rw[dQ]at h;omega
      ·
       split
       ·
        intro h
        have h:=CH (Option.some.inj h)
        have:=zP c (cg c x.v.at_ a src to).1 (aj c (cg c x.v.at_ a src to).1).used (dQ c ((x.v.gen:Int)+1) id n).1
        rw[bC]at h;omega
       ·
        exact ih _ _ _
  rw[c5]
  split
  ·
   rename_i e he
   intro h
   exact key _ _ _ _ (by rw[he];exact congrArg some h)
  ·
   exact Gd _ _
def mc(p:Int)(x:ay):Bool:=decide (x.used<p)&&decide (x.aT<cP)
def mL(c:CV)(l:List ay):Int×Bool:=eQ (bS (mc c.pages) l) c.pages
def j7(x:WV)(l:List ay):WV×Int:=
 if(mL x.v.ae l).2=false then(x,6)else(x.on (cA x.v.ae ((mL x.v.ae l).1+2)).1,jr (cA x.v.ae ((mL x.v.ae l).1+2)).2)
def c6(x:WV):List ay:=av x.v.ae x.v.at_
def qH(x:WV):Int×Bool:=gI (c6 x) x.v.ae.pages
def eF(x:WV):WV×Int:=
 if(qH x).2=true∧vB x.v.gen=false then
  (if(ff x (c6 x) (qH x).1).2≠6 then ff x (c6 x) (qH x).1 else j7 (ff x (c6 x) (qH x).1).1 (c6 x))
 else j7 x (c6 x)
theorem kt.bT{c d:CV}{l:List ay}(h:kt c l)(hl:dx c d)(hb: ∀b,(aj d b).bad=(aj c b).bad):kt d l:=⟨by rw[h.1,hl.len],fun i x hx jZ=>by rw[hb];exact h.2 i x hx jZ⟩
theorem Gf{x:WV}{l:List ay}(hx:cV x)(ht:kt x.v.ae l):jg x (j7 x l).1∧((j7 x l).2=0→x.v.ae.ops<(j7 x l).1.v.ae.ops):=by
 rw[j7];split
 ·
  exact⟨.cZ hx,fun h=>absurd (show(6:Int)=0 from h) (by decide)⟩
 ·
  rename_i h
  have hd:=tW ht (fun x h=>(kM h).1) (show(mL x.v.ae l).2=true by simpa using h)
  change 0≤(mL x.v.ae l).1∧(mL x.v.ae l).1<_∧(aj x.v.ae ((mL x.v.ae l).1+2)).bad=false at hd
  have hc:=tT ((mL x.v.ae l).1+2) hx.ae
  exact⟨.on hx hc.1 hc.2 (xt _ _ _),fun h=>Cx hd.2.2 (LZ h).symm⟩
theorem CJ{x:WV}(hx:cV x):jg x (eF x).1∧((eF x).2=0→x.v.ae.ops<(eF x).1.v.ae.ops):=by
 have ht:kt x.v.ae (c6 x):=vD _ _
 rw[eF];split
 ·
  obtain⟨r1,r2,r3⟩:=Ge (i:=(qH x).1) hx ht
  split
  ·
   exact⟨r1,r2⟩
  ·
   rename_i h6
   have xA:(ff x (c6 x) (qH x).1).2=6:=by simpa using h6
   have:=Gf r1.ok (ht.bT r1.bT (r3 xA))
   exact⟨r1.trans this.1,fun h=>by have:=this.2 h;have:=r1.ops;omega⟩
 ·
  exact Gf hx ht
def me:Nat→WV→Int→WV×Int
 |0,x,_=>(x,0)
 |n+1,x,need=>
  if need≤(jM x.v.ae x.v.at_).1 then(x,0)
  else if need≤(jM x.v.ae x.v.at_).2∧rD x.v.ae x.v.last<2 then({x with beyond:=true},0)
  else if(eF x).2=0 then me n (eF x).1 need
  else if(eF x).2≠6 then eF x
  else if need≤(jM x.v.ae x.v.at_).2 then({(eF x).1 with beyond:=true},0)
  else((eF x).1,5)
def j8(x:WV)(need:Int):WV×Int:=me ((cP -x.v.ae.ops).toNat+1) x need
theorem cV.by{x:WV}(h:cV x)(b:Bool):cV {x with beyond:=b}:=⟨h.ae,h.len,h.pages,h.size,h.last,h.gen,h.sK,h.j6⟩
theorem jg.by{x y:WV}(h:jg x y)(b:Bool):jg x {y with beyond:=b}:=⟨h.ok.by b,h.bT,h.ops,h.vC⟩
theorem L3: ∀(n:Nat) {x:WV} {need:Int},cV x→jg x (me n x need).1
 |0,x,need,hx=> .cZ hx
 |n+1,x,need,hx=>by
  have hc:=CJ hx
  rw[me]
  split
  ·
   exact .cZ hx
  ·
   split
   ·
    exact(jg.cZ hx).by true
   ·
    split
    ·
     exact hc.1.trans (L3 n hc.1.ok)
    ·
     split
     ·
      exact hc.1
     ·
      split
      ·
       exact hc.1.by true
      ·
       exact hc.1
theorem Un{x:WV}{need:Int}(hx:cV x):jg x (j8 x need).1:=L3 _ hx
def bt(x:It):Int×List UInt8:=(x.id,x.body.xs)
def lg(l:List (Int×List UInt8)):Nat:=(l.filter fun x=>decide (0<x.2.length)).length
theorem Uo{l:List (Int×List UInt8)}{i:Nat}{x:Int×List UInt8}(h:l[i]? =some x):((l.take (i+1)).filter fun x=>decide (0<x.2.length)).length=((l.take i).filter fun x=>decide (0<x.2.length)).length+(if 0<x.2.length then 1 else 0):=by
 rw[List.take_add_one,h,List.filter_append,List.length_append]
 congr 1
 simp only[Option.toList_some,List.filter_cons,List.filter_nil]
 split<;>simp_all
def hY(v:VV)(x:Int×List UInt8):PV:=⟨1,x.1,v.gen+1,x.2⟩
def gk(v:VV)(aF:Bool):List (Int×List UInt8)→CV→List Int→CV×List Int×Int
 |[],c,a=>(c,a,0)
 |x::r,c,a=>
  if x.2.length=0 then gk v aF r c (a.set x.1.toNat 0)
  else if(c0 c (v.at_++a) aF (hY v x)).2.2≠0 then((c0 c (v.at_++a) aF (hY v x)).1,a,(c0 c (v.at_++a) aF (hY v x)).2.2)
  else gk v aF r (c0 c (v.at_++a) aF (hY v x)).1 (a.set x.1.toNat (c0 c (v.at_++a) aF (hY v x)).2.1)
def cH(x:WV)(l:List (Int×List UInt8)):WV×Int:=j8 {x with beyond:=false} (lg l)
def fM(x:WV)(l:List (Int×List UInt8)):CV×List Int×Int:=gk (cH x l).1.v (cH x l).1.beyond l (cH x l).1.v.ae (cH x l).1.v.at_
def gJ(x:WV)(l:List (Int×List UInt8)):WV×Int:=
 if(cH x l).2≠0 then cH x l
 else if(fM x l).2.2≠0 then((cH x l).1.on (fM x l).1,(fM x l).2.2)
 else dP ((cH x l).1.on (fM x l).1) (fM x l).2.1
theorem Gj{v:VV}{aF:Bool}: ∀(l:List (Int×List UInt8)) {c:CV} {a:List Int},aV c=true→3≤c.blocks.length→hU c a→
  aV (gk v aF l c a).1=true∧dx c (gk v aF l c a).1∧c.ops≤(gk v aF l c a).1.ops∧hU c (gk v aF l c a).2.1∧(gk v aF l c a).2.1.length=a.length
 |[],c,a,hk,h2,ha=>⟨hk, .cZ c,Int.le_refl _,ha,rfl⟩
 |x::r,c,a,hk,h2,ha=>by
  rw[gk]
  split
  ·
   have:=Gj r (v:=v) (aF:=aF) hk h2 (a:=a.set x.1.toNat 0) (fun y hy=>by
    rcases List.mem_or_eq_of_mem_set hy with hy|rfl
    ·
     exact ha y hy
    ·
     exact .inl rfl)
   rwa [List.length_set]at this
  ·
   obtain⟨p1,p2,p3,p4⟩:=LO (fl:=v.at_++a) (aF:=aF) (p:=hY v x) hk h2
   split
   ·
    exact⟨p1,p2,p3,ha,rfl⟩
   ·
    rename_i h0
    have p5:=p4 (by simpa using h0)
    have:=Gj r (v:=v) (aF:=aF) p1 (by rw[p2.len];exact h2) (a:=a.set x.1.toNat (c0 c (v.at_++a) aF (hY v x)).2.1) (fun y hy=>by
     rw[p2.pages,p2.len]
     rcases List.mem_or_eq_of_mem_set hy with hy|rfl
     ·
      exact ha y hy
     ·
      exact .inr p5)
    obtain⟨i1,i2,i3,i4,i5⟩:=this
    refine⟨i1,p2.trans i2,by omega,fun y hy=> ?_,by rw[i5,List.length_set]⟩
    have:=i4 y hy
    rwa [p2.pages,p2.len]at this
theorem CK{x:WV}{l:List (Int×List UInt8)}(hx:cV x):jg x (cH x l).1:=by
 have:=Un (need:=lg l) (hx.by false)
 exact⟨this.ok,this.bT,this.ops,this.vC⟩
theorem Gk{x:WV}{l:List (Int×List UInt8)}(hx:cV x):jg x (gJ x l).1:=by
 have hs:=CK (l:=l) hx
 rw[gJ];split
 ·
  exact hs
 ·
  have hl:=hs.ok.qE
  obtain⟨i1,i2,i3,i4,i5⟩:=Gj (v:=(cH x l).1.v) (aF:=(cH x l).1.beyond) l hs.ok.ae (by omega) hs.ok.sK
  have fA:=hs.trans (.on hs.ok i1 i2 i3)
  split
  ·
   exact fA
  ·
   exact fA.trans (F4 fA.ok (i4.bT i2) i5).1
def nA:Nat→WV→List (Int×List UInt8)→WV×Int
 |0,x,_=>(x,0)
 |n+1,x,l=>if(gJ x l).2=5∧lC x.v.ae<lC (gJ x l).1.v.ae then nA n (gJ x l).1 l else gJ x l
theorem L4(c:CV):lC c≤c.blocks.length:=List.length_filter_le _ _
def rH(v:VV)(x:Int×List UInt8):Bool:=decide (0≤x.1)&&decide (x.1<(v.at_.length:Int))&&decide ((x.2.length:Int)≤dC v.ae.size)
def rI(v:VV)(l:List (Int×List UInt8))(i:Nat):Bool:=rH v (l.getD i (0,[]))&& !((l.take i).map Prod.fst).contains (l.getD i (0,[])).1
def pP(v:VV)(l:List (Int×List UInt8)):Bool:=(List.range l.length).all (rI v l)
theorem zQ{v:VV}{l:List (Int×List UInt8)}:pP v l=true↔ ∀i,i<l.length→rI v l i=true:=by simp only[pP,List.all_eq_true,List.mem_range]
def rJ(l:List Int)(i:Nat):Int→Option Unit:=fun x=>if x∈l.take i then some ()else none
theorem L5{l:List Int}{i:Nat}{x:Int}:(rJ l i x).isSome=decide (x∈l.take i):=by
 unfold rJ;split<;>simp_all
theorem Up{l:List Int}:(fun _=>none)=rJ l 0:=by
 funext x;simp[rJ]
theorem Uq{l:List Int}{i:Nat}{y:Int}(h:l[i]? =some y):(fun z=>if z=y then some ()else rJ l i z)=rJ l (i+1):=by
 funext x
 unfold rJ
 rw[List.take_add_one,h]
 by_cases hx:x=y
 ·
  subst hx;simp
 ·
  simp[hx]
def fy(v:VV)(l:List (Int×List UInt8)):VV×Int:=
 if ¬(kI v=true∧v.gen<281474976710655∧pP v l=true)then(v,1)
 else if v.ae.off=true then(v,7)
 else((nA (v.ae.blocks.length+1) ⟨v,false⟩ l).1.v,(nA (v.ae.blocks.length+1) ⟨v,false⟩ l).2)
def qI(b p:Int):Int:=if b<4∨32<b∨p<1∨16<p then 0 else(b -4)*p
def jN(c:CV)(ids:Int):WV×Int:=oP ⟨⟨c,[],0,0⟩,false⟩ ids.toNat
def gX(c:CV)(ids:Int):VV×Int:=
 if ¬(fF c=true∧1≤ids∧ids≤jd c.size)then(⟨c,[],0,0⟩,1)
 else if c.off=true then(⟨c,[],0,0⟩,7)
 else if(jN c ids).2≠0 then(⟨(jN c ids).1.v.ae,[],0,0⟩,(jN c ids).2)
 else((jN c ids).1.v,0)
theorem Ur{b:List UInt8}:(bE b).1.at_.length≤64∧(bE b).1.gen<281474976710656:=by
 rw[bE]
 split
 ·
  simp[gH]
 ·
  rename_i h1
  split
  ·
   simp[gH]
  ·
   rename_i h2
   split
   ·
    simp[gH]
   ·
    rename_i h3
    have hf:sI (cy b).1=true:=by simpa using h3
    simp only[sI,Bool.and_eq_true,decide_eq_true_eq]at hf
    refine⟨?_,Lz b⟩
    have iB:(cy b).1.id<64:=by
     have qJ:(cy b).2=0:=by simpa using h1
     rw[cy]at qJ h2⊢
     by_cases g1:l5 b.length=false
     ·
      rw[if_pos g1]at qJ;cases qJ
     ·
      rw[if_neg g1]at qJ h2⊢
      by_cases g2:jo b=true
      ·
       rw[if_pos g2]at h2;exact absurd rfl h2
      ·
       rw[if_neg g2]at qJ h2⊢
       by_cases g3:de (vt b)≠lY (la b)
       ·
        rw[if_pos g3]at qJ;cases qJ
       ·
        rw[if_neg g3]at qJ h2⊢
        by_cases g4:nu b=false
        ·
         rw[if_pos g4]at qJ;cases qJ
        ·
         rw[if_neg g4]at qJ h2⊢
         have g5:nu b=true:=by simpa using g4
         simp only[nu,Bool.and_eq_true]at g5
         have:=(pF.1 g5.2).2.2.2.1
         split
         ·
          simp[jI]
         ·
          exact this
    simp only[Cs]
    omega
theorem L6(l:List (List UInt8)): ∀k,(dq l k).new.at_.length≤64∧(dq l k).new.gen<281474976710656
 |0=>by simp[dq,gH]
 |k+1=>by
  rw[dq,vw]
  split
  ·
   exact Ur
  ·
   exact L6 l k
theorem Us(l:List (List UInt8)):(fq l).2.1.at_.length≤64∧(fq l).2.1.gen<281474976710656:=by
 rw[fq]
 split
 ·
  exact L6 _ _
 ·
  split<;>simp[gH]
theorem CL{v:VV}{b:Bool}(h:kI v=true):cV ⟨v,b⟩:=by
 have hr:=zH h
 have ha:= @Lj v h
 simp only[kI,Bool.and_eq_true,decide_eq_true_eq]at h
 obtain⟨⟨⟨h1,h2⟩,h3⟩,h4⟩:=h
 obtain⟨hb,hl,hf⟩:=FO h1
 obtain⟨b1,b2,b3,b4⟩:=ft.1 hb
 have xB:=Us ((aj {v.ae with off:=false} 0).pages++(aj {v.ae with off:=false} 1).pages)
 rw[hf]at h2 h3 h4
 simp only at h2 h3 h4
 have hd:=eE hr.1
 have qB:4≤(v.ae.blocks.length:Int):=b2
 refine⟨hr.1,b2,b3,b4,?_,by rw[←h2];exact xB.2,fun n hn=> ?_,by rw[←h4];exact xB.1⟩
 ·
  rw[←h3]
  have ho0:=dV.1 (pL hr.1 (b:=0) (by omega) (by omega))
  have ho1:=dV.1 (pL hr.1 (b:=1) (by omega) (by omega))
  have hlen:((aj v.ae 0).pages++(aj v.ae 1).pages).length=(aj v.ae 0).pages.length+(aj v.ae 1).pages.length:=List.length_append
  have j9:=FK (l:=(aj v.ae 0).pages++(aj v.ae 1).pages) (by rw[hlen];omega)
  change 0≤(bL {v.ae with off:=false}).1∧(bL {v.ae with off:=false}).1<_ at j9
  rw[hlen]at j9
  have g0:0≤(bL {v.ae with off:=false}).1/v.ae.pages:=Int.ediv_nonneg j9.1 (by omega)
  have g1:(bL {v.ae with off:=false}).1/v.ae.pages<2:=Int.ediv_lt_of_lt_mul (by omega) (by
   have h9:(bL {v.ae with off:=false}).1<(((aj v.ae 0).pages.length+(aj v.ae 1).pages.length:Nat):Int):=j9.2
   omega)
  change(bL {v.ae with off:=false}).1/v.ae.pages=0∨(bL {v.ae with off:=false}).1/v.ae.pages=1
  omega
 ·
  by_cases h0:n=0
  ·
   exact .inl h0
  ·
   obtain⟨i,hi⟩:=List.getElem?_of_mem hn
   have:=ha hi h0
   have hp:=lz.1 this.2.2
   exact .inr ⟨this.1,hp.1,hp.2.1⟩
open Go.aA
def L7(b:BV):Bool:=decide (b.pages.length≤20)&&b.pages.all fun p=>decide (p.length≤300)
def Gl(c:CV):Bool:=decide (c.blocks.length≤40)&&decide (c.aQ.length≤80)&&c.blocks.all L7
theorem ac1{c:CV}:Gl c=true↔c.blocks.length≤40∧c.aQ.length≤80∧ ∀b∈c.blocks,b.pages.length≤20∧ ∀p∈b.pages,p.length≤300:=by
 simp only[Gl,L7,Bool.and_eq_true,decide_eq_true_eq,List.all_eq_true,and_assoc]
theorem Gm{a b:BV}:a=b↔a.used=b.used∧a.aT=b.aT∧a.bad=b.bad∧a.pages=b.pages:=by
 constructor
 ·
  rintro rfl;exact⟨rfl,rfl,rfl,rfl⟩
 ·
  rintro⟨h1,h2,h3,h4⟩
  obtain⟨a1,a2,a3,a4⟩:=a
  obtain⟨b1,b2,b3,b4⟩:=b
  simp only at h1 h2 h3 h4
  subst h1 h2 h3 h4;rfl
theorem CM{a b:CV}:a=b↔a.pages=b.pages∧a.size=b.size∧a.ops=b.ops∧a.off=b.off∧a.blocks=b.blocks∧a.aQ=b.aQ:=by
 constructor
 ·
  rintro rfl;exact⟨rfl,rfl,rfl,rfl,rfl,rfl⟩
 ·
  rintro⟨h1,h2,h3,h4,h5,h6⟩
  obtain⟨a1,a2,a3,a4,a5,a6⟩:=a
  obtain⟨b1,b2,b3,b4,b5,b6⟩:=b
  simp only at h1 h2 h3 h4 h5 h6
  subst h1 h2 h3 h4 h5 h6;rfl
theorem CN{α:Type}{a b:List α}(hl:a.length=b.length)(h: ∀j,j<a.length→a[j]? =b[j]?):a=b:=List.ext_getElem? fun j=>by
 rcases Nat.lt_or_ge j a.length with hj|hj
 ·
  exact h j hj
 ·
  rw[List.getElem?_eq_none hj,List.getElem?_eq_none (by omega)]
def vE(l:List (List UInt8))(i:Nat):Bool:=decide ((bE (l.getD i [])).2=0)&&(List.range l.length).all fun k=> !(decide ((bE (l.getD k [])).2=0)&&(decide ((bE (l.getD i [])).1.gen<(bE (l.getD k [])).1.gen)||(decide ((bE (l.getD k [])).1.gen=(bE (l.getD i [])).1.gen)&&decide (i<k))))
theorem Gn(l:List (List UInt8)): ∀k,k≤l.length→
  ((dq l k).found=true→ ∃i,i<k∧(dq l k).at_=(i:Int)∧(bE (l.getD i [])).2=0∧(dq l k).new=(bE (l.getD i [])).1∧ ∀j,j<k→(bE (l.getD j [])).2=0→(bE (l.getD j [])).1.gen<(bE (l.getD i [])).1.gen∨((bE (l.getD j [])).1.gen=(bE (l.getD i [])).1.gen∧j≤i))∧
  ((dq l k).found=false→ ∀j,j<k→(bE (l.getD j [])).2≠0)∧(dq l k).blank=(l.take k).all jo
 |0,_=>⟨fun h=>by simp[dq]at h,fun _ j hj=>by omega,by simp[dq]⟩
 |k+1,hk=>by
  obtain⟨h1,h2,h3⟩:=Gn l k (by omega)
  obtain⟨b,hb⟩:=get_some (xs:=l) (i:=k) (by omega)
  have hg:l.getD k []=b:=by simp[List.getD,hb]
  have dz:(l.take (k+1)).all jo=((l.take k).all jo&&jo b):=by rw[List.take_add_one,hb];simp
  by_cases hq:(bE b).2=0∧((dq l k).found=false∨(dq l k).new.gen≤(bE b).1.gen)
  ·
   rw[K7 hb hq,h3,dz]
   refine⟨fun _=>⟨k,by omega,rfl,by rw[hg];exact hq.1,by rw[hg],fun j hj hv=> ?_⟩,fun h=>by simp at h,rfl⟩
   rw[hg]
   by_cases e:j=k
   ·
    subst e;rw[hg];exact .inr ⟨rfl,Nat.le_refl _⟩
   ·
    have Bc:j<k:=by omega
    rcases hq.2 with hf|hf
    ·
     exact absurd hv (h2 hf j Bc)
    ·
     cases ku:(dq l k).found with
     |false=>exact absurd hv (h2 ku j Bc)
     |true=>
      obtain⟨i,hi,ha,BT,hn,ij⟩:=h1 ku
      rw[hn]at hf
      rcases ij j Bc hv with g|g
      ·
       exact .inl (by omega)
      ·
       by_cases bu:(bE (l.getD j [])).1.gen<(bE b).1.gen
       ·
        exact .inl bu
       ·
        exact .inr ⟨by omega,by omega⟩
  ·
   rw[K8 hb hq]
   refine⟨fun ku=> ?_,fun ku j hj=> ?_,by simp only[h3,dz]⟩
   ·
    obtain⟨i,hi,ha,BT,hn,ij⟩:=h1 ku
    refine⟨i,by omega,ha,BT,hn,fun j hj hv=> ?_⟩
    by_cases e:j=k
    ·
     subst e
     rw[hg]at hv⊢
     have: ¬(dq l j).new.gen≤(bE b).1.gen:=fun h=>hq ⟨hv, .inr h⟩
     rw[hn]at this
     exact .inl (by omega)
    ·
     exact ij j (by omega) hv
   ·
    by_cases e:j=k
    ·
     subst e;rw[hg];exact fun hv=>hq ⟨hv, .inl ku⟩
    ·
     exact h2 ku j (by omega)
theorem CO{l:List (List UInt8)}{i:Nat}:vE l i=true↔(bE (l.getD i [])).2=0∧ ∀k,k<l.length→(bE (l.getD k [])).2=0→ ¬((bE (l.getD i [])).1.gen<(bE (l.getD k [])).1.gen∨((bE (l.getD k [])).1.gen=(bE (l.getD i [])).1.gen∧i<k)):=by
 simp only[vE,Bool.and_eq_true,decide_eq_true_eq,List.all_eq_true,List.mem_range,Bool.not_eq_true',Bool.and_eq_false_iff,Bool.or_eq_false_iff,decide_eq_false_iff_not]
 constructor
 ·
  rintro⟨h1,h2⟩
  refine⟨h1,fun k hk hv hc=> ?_⟩
  rcases h2 k hk with g|g
  ·
   exact g hv
  ·
   rcases hc with c|c
   ·
    exact g.1 c
   ·
    rcases g.2 with g|g
    ·
     exact g c.1
    ·
     exact g c.2
 ·
  rintro⟨h1,h2⟩
  refine⟨h1,fun k hk=> ?_⟩
  by_cases hv:(bE (l.getD k [])).2=0
  ·
   have:=h2 k hk hv
   refine .inr ⟨fun c=>this (.inl c),?_⟩
   by_cases e:(bE (l.getD k [])).1.gen=(bE (l.getD i [])).1.gen
   ·
    exact .inr fun c=>this (.inr ⟨e,c⟩)
   ·
    exact .inl e
  ·
   exact .inl hv
theorem L8{l:List (List UInt8)}{i:Nat}(hi:i<l.length)(h:vE l i=true):fq l=((i:Int),(bE (l.getD i [])).1,0):=by
 obtain⟨h1,h2⟩:=CO.1 h
 obtain⟨s1,s2,s3⟩:=Gn l l.length (Nat.le_refl _)
 cases hf:(dq l l.length).found with
 |false=>exact absurd h1 (s2 hf i hi)
 |true=>
  obtain⟨j,hj,ha,hv,hn,ij⟩:=s1 hf
  have e:j=i:=by
   have g1:=ij i hi h1
   have g2:=h2 j hj hv
   omega
  subst e
  rw[fq,if_pos hf,ha,hn]
theorem Ut{l:List (List UInt8)}(h: ∀i,i<l.length→vE l i=false):fq l=(0,gH,if l.all jo=true then 6 else 2):=by
 obtain⟨s1,s2,s3⟩:=Gn l l.length (Nat.le_refl _)
 rw[List.take_length]at s3
 cases hf:(dq l l.length).found with
 |false=>
  rw[fq,if_neg (by rw[hf];simp),s3]
  split<;>rfl
 |true=>
  obtain⟨j,hj,ha,hv,hn,ij⟩:=s1 hf
  have:vE l j=true:=CO.2 ⟨hv,fun k hk Uu hc=>by have:=ij k hk Uu;omega⟩
  rw[h j hj]at this;cases this
def sL(c:CV):VV×Int:=
 if(bL c).2.2≠0 then(ko,(bL c).2.2)else if lA c=false then(ko,2)else(⟨c,(bL c).2.1.at_,(bL c).2.1.gen,(bL c).1/c.pages⟩,0)
theorem L9{c:CV}{l:List Int}{i:Nat}{y:Int}(h:l.getD i 0=y):pH c l i=(decide (y=0)||(!(l.take i).contains y&&l6 c (i:Int) y)):=by rw[pH,h]
theorem Uv{a b:VV}:a=b↔a.ae=b.ae∧a.at_=b.at_∧a.gen=b.gen∧a.last=b.last:=by
 constructor
 ·
  rintro rfl;exact⟨rfl,rfl,rfl,rfl⟩
 ·
  obtain⟨a1,a2,a3,a4⟩:=a
  obtain⟨b1,b2,b3,b4⟩:=b
  rintro⟨h1,h2,h3,h4⟩
  simp only at h1 h2 h3 h4
  subst h1 h2 h3 h4;rfl
theorem Uw(c:CV):bx c=if fF c=false then(ko,1)else if c.off=true then(ko,7)else sL c:=rfl
theorem Ux(x:VV):kI x=(fF x.ae&&(decide ((sL x.ae).2=0)&&decide (x.at_=(sL x.ae).1.at_)&&decide (x.gen=(sL x.ae).1.gen)&&decide (x.last=(sL x.ae).1.last))):=by
 have hb:fF {x.ae with off:=false}=fF x.ae:=rfl
 have dM:lA {x.ae with off:=false}=lA x.ae:=rfl
 have xC:bL {x.ae with off:=false}=bL x.ae:=rfl
 rw[kI,Uw,hb]
 cases h:fF x.ae with
 |false=>rw[if_pos rfl];rfl
 |true=>
  rw[if_neg (by simp),if_neg (by simp),sL,sL,xC,dM]
  by_cases h1:(bL x.ae).2.2≠0
  ·
   rw[if_pos h1,if_pos h1,decide_eq_false h1];rfl
  ·
   rw[if_neg h1,if_neg h1]
   by_cases h2:lA x.ae=false
   ·
    rw[if_pos h2,if_pos h2];rfl
   ·
    rw[if_neg h2,if_neg h2]
    rw[Bool.eq_iff_iff];simp only[Bool.and_eq_true,decide_eq_true_eq,true_and,Bool.true_and]
    constructor
    ·
     rintro⟨⟨g1,g2⟩,g3⟩;exact⟨⟨g3.symm,g1.symm⟩,g2.symm⟩
    ·
     rintro⟨⟨g1,g2⟩,g3⟩;exact⟨⟨g2.symm,g3.symm⟩,g1.symm⟩
open Go.aA
theorem Uy{c:CV}(h:(bx c).2≠0):(bx c).1=ko:=by
 rw[bx]at h⊢
 repeat' split
 all_goals first|rfl|(exfalso;simp_all)
theorem Uz(c:CV):(if(bx c).2=0 then(bx c).1 else ko)=(bx c).1:=by
 by_cases h:(bx c).2=0
 ·
  rw[if_pos h]
 ·
  rw[if_neg h,Uy h]
def Gp(pages:Int)(l:List Int)(i:Nat)(n:Nat):Nat:=((List.range n).filter fun j=>decide (0<l.getD j 0)&&decide ((l.getD j 0 -1)/pages=(i:Int)+2)).length
theorem UA{v:VV}(h:kI v=true)(i:Nat):jJ v.ae.pages v.at_ v.at_.length i=Gp v.ae.pages v.at_ i v.at_.length:=by
 obtain⟨-,h2,h3⟩:=zH h
 rw[jJ,Gp]
 congr 1
 refine List.filter_congr fun j hj=> ?_
 have iQ:j<v.at_.length:=List.mem_range.1 hj
 have hp:=zF.1 h2 j iQ
 have hr:=h3 (v.at_.getD j 0) (by rw[show v.at_.getD j 0=v.at_[j] by simp[List.getD,iQ]];exact List.getElem_mem _)
 congr 1
 rw[pH]at hp
 rw[l8]
 by_cases h0:v.at_.getD j 0=0
 ·
  rw[h0];simp
 ·
  rw[decide_eq_true h0,decide_eq_true (show 0<v.at_.getD j 0 by omega)]
  rw[decide_eq_false h0,Bool.false_or,Bool.and_eq_true]at hp
  rw[hp.1];rfl
open Go.aA
def pQ(t:List Rt)(n id:Nat):List UInt8:=((t.drop (id*n)).take n).flatMap eP
def kN(t:List Rt)(ids n:Nat):List (List UInt8):=(List.range ids).map (pQ t n)
def iC(a b:Int):Int:=if a<1∨64<a∨b<20∨240<b then 0 else min (a*(b/20)) 256
def jv(t:List Rt)(ids room:Int):Int:=if cr t=false∨iC ids room=0 then 1 else if iC ids room<t.length then 5 else 0
def ka(t:List Rt)(ids room:Int):List (List UInt8):=if jv t ids room=0 then kN t ids.toNat (room/20).toNat else[]
theorem tX(t:List Rt)(ids n:Nat):(kN t ids n).length=ids:=by simp[kN]
theorem UB(l:List Rt):(l.flatMap eP).length=20*l.length:=by
 induction l with
 |nil=>rfl
 |cons a l ih=>rw[List.flatMap_cons,List.length_append,ih,oN,List.length_cons];omega
theorem UC(t:List Rt)(n id:Nat):(pQ t n id).length=20*min n (t.length -id*n):=by
 rw[pQ,UB,List.length_take,List.length_drop]
theorem Gr(t:List Rt)(n id:Nat):(pQ t n id).length≤20*n:=by rw[UC];omega
theorem CP{a b:Int}(h: ¬iC a b=0):1≤a∧a≤64∧20≤b∧b≤240∧iC a b=min (a*(b/20)) 256∧1≤b/20∧b/20≤12:=by
 unfold iC at h⊢
 split at h
 ·
  exact absurd rfl h
 ·
  rename_i hn
  rw[if_neg hn]
  have:1≤b/20∧b/20≤12:=by omega
  exact⟨by omega,by omega,by omega,by omega,rfl,this.1,this.2⟩
theorem UD{t:List Rt}{r:Rt}{i n id:Nat}(hn:0<n)(hr:t[i]? =some r):pQ (t.take (i+1)) n id=pQ (t.take i) n id++(if id=i/n then eP r else[]):=by
 have bu:i<t.length:=(List.getElem?_eq_some_iff.1 hr).1
 have e1:t.take (i+1)=t.take i++[r]:=by rw[List.take_add_one,hr];rfl
 have hd:=Nat.div_add_mod i n
 have hm:=Nat.mod_lt i hn
 have hc:n*(i/n)=i/n*n:=Nat.mul_comm _ _
 unfold pQ
 have l1:(t.take i).length=i:=by rw[List.length_take];omega
 rw[e1]
 by_cases h1:id=i/n
 ·
  subst h1
  have e2:(t.take i++[r]).drop (i/n*n)=(t.take i).drop (i/n*n)++[r]:=List.drop_append_of_le_length (by rw[l1];omega)
  have e3:((t.take i).drop (i/n*n)++[r]).take n=(t.take i).drop (i/n*n)++[r]:=List.take_of_length_le (by rw[List.length_append,List.length_drop,l1];simp only[List.length_cons,List.length_nil];omega)
  have e4:((t.take i).drop (i/n*n)).take n=(t.take i).drop (i/n*n):=List.take_of_length_le (by rw[List.length_drop,l1];omega)
  rw[if_pos rfl,e2,e3,e4]
  simp
 ·
  rw[if_neg h1,List.append_nil]
  rcases Nat.lt_or_gt_of_ne h1 with h2|h2
  ·
   have:(id+1)*n≤i/n*n:=Nat.mul_le_mul_right _ h2
   rw[Nat.add_mul]at this
   rw[List.drop_append_of_le_length (by rw[l1];omega),List.take_append_of_le_length (by rw[List.length_drop,l1];omega)]
  ·
   have:(i/n+1)*n≤id*n:=Nat.mul_le_mul_right _ h2
   rw[Nat.add_mul]at this
   rw[List.drop_eq_nil_of_le (by rw[List.length_append,l1];simp;omega),List.drop_eq_nil_of_le (by rw[l1];omega)]
theorem UE{t:List Rt}{r:Rt}{i n ids:Nat}{x:List UInt8}(hn:0<n)(hr:t[i]? =some r)(hx:(kN (t.take i) ids n)[i/n]? =some x):
  kN (t.take (i+1)) ids n=(kN (t.take i) ids n).set (i/n) (x++eP r):=by
 refine List.ext_getElem? fun j=> ?_
 rw[List.getElem?_set]
 have hk:i/n<ids:=by have:=(List.getElem?_eq_some_iff.1 hx).1;rwa [tX]at this
 by_cases hj:j<ids
 ·
  have e: ∀t',(kN t' ids n)[j]? =some (pQ t' n j):=fun t'=>by simp[kN,hj]
  rw[e,UD hn hr]
  by_cases h:i/n=j
  ·
   subst h
   rw[e]at hx
   rw[if_pos rfl,if_pos rfl,if_pos (by rw[tX];exact hk)]
   rw[Option.some.inj hx]
  ·
   rw[if_neg (fun e=>h e.symm),if_neg h,List.append_nil,e]
 ·
  rw[List.getElem?_eq_none (by rw[tX];omega),if_neg (by omega),List.getElem?_eq_none (by rw[tX];omega)]
theorem UF(t:List Rt)(ids n:Nat):kN (t.take 0) ids n=List.replicate ids []:=by
 refine List.eq_replicate_iff.2 ⟨tX _ _ _,fun x hx=> ?_⟩
 obtain⟨j,_,rfl⟩:=List.mem_map.1 hx
 simp[pQ]
theorem UG(t:List Rt)(id n:Nat):kN t (id+1) n=kN t id n++[pQ t n id]:=by simp[kN,List.range_succ]
def oR(b:List UInt8):Rt:=⟨⟨if b.getD 0 0=1 then 128 else 32,(b.getD 1 0).toNat,oF fun i=>(b.getD (2+i) 0).toNat⟩,UInt16.ofNat ((b.getD 18 0).toNat*256+(b.getD 19 0).toNat)⟩
def rd(b:List UInt8):Option Rt:=if b.getD 0 0≤1 then some (oR b)else none
def lG(b:List UInt8):Option (List Rt):=
 if h:b.length<20 then(if b.length=0 then some []else none)
 else match rd (b.take 20),lG (b.drop 20)with
  |some r,some l=>some (r::l)
  |_,_=>none
termination_by b.length
decreasing_by rw[List.length_drop];omega
theorem Gt:lG []=some []:=by rw[lG];simp
theorem Gu{b:List UInt8}(h:20≤b.length):lG b=(rd (b.take 20)).bind fun r=>(lG (b.drop 20)).map (r:: ·):=by
 rw[lG,dif_neg (by omega)]
 cases rd (b.take 20)<;>simp
 cases lG (b.drop 20)<;>simp
theorem Ma: ∀(k:Nat) (b:List UInt8),b.length≤k→ ¬b.length%20=0→lG b=none
 |0,b,h,hm=>by have:b.length=0:=by omega
               rw[this]at hm;simp at hm
 |k+1,b,h,hm=>by
  by_cases h2:b.length<20
  ·
   rw[lG,dif_pos h2,if_neg (fun e=>by rw[e]at hm;simp at hm)]
  ·
   rw[Gu (by omega),Ma k (b.drop 20) (by rw[List.length_drop];omega) (by rw[List.length_drop];omega)]
   cases rd (b.take 20)<;>rfl
def fU:List (List UInt8)→Option (List Rt)
 |[]=>some []
 |b::r=>(lG b).bind fun l=>(fU r).map (l++ ·)
theorem CQ: ∀a b:List (List UInt8),fU (a++b)=(fU a).bind fun l=>(fU b).map (l++ ·)
 |[],b=>by simp[fU]
 |x::a,b=>by
  rw[List.cons_append,fU,fU,CQ a b]
  cases lG x<;>simp
  cases fU a<;>simp
  cases fU b<;>simp
theorem Gw{bs:List (List UInt8)}{i:Nat}{b:List UInt8}(h:bs[i]? =some b):fU (bs.take (i+1))=(fU (bs.take i)).bind fun l=>(lG b).map (l++ ·):=by
 rw[List.take_add_one,h,Option.toList_some,CQ,fU,fU]
 cases fU (bs.take i)with
 |none=>rfl
 |some l=>cases lG b<;>simp
theorem Mc{bs:List (List UInt8)}{i:Nat}(h:fU (bs.take i)=none):fU bs=none:=by
 rw[←List.take_append_drop i bs,CQ,h];rfl
def iD(bs:List (List UInt8)):List Rt:=match fU bs with
 |some t=>if cr t=true then t else[]
 |none=>[]
def jh(bs:List (List UInt8)):Int:=match fU bs with
 |some t=>if cr t=true then 0 else 2
 |none=>2
theorem CR{bs:List (List UInt8)}(h:fU bs=none):iD bs=[]∧jh bs=2:=by simp[iD,jh,h]
theorem Md{bs:List (List UInt8)}{t:List Rt}(h:fU bs=some t)(hr:cr t=false):iD bs=[]∧jh bs=2:=by simp[iD,jh,h,hr]
theorem Gx{bs:List (List UInt8)}{t:List Rt}(h:fU bs=some t)(hr:cr t=true):iD bs=t∧jh bs=0:=by simp[iD,jh,h,hr]
def rK(a b:List (List UInt8))(i:Nat):Option (Int×List UInt8):=if a.getD i []=b.getD i []then none else some ((i:Int),b.getD i [])
def mM(a b:List (List UInt8))(n:Nat):List (Int×List UInt8):=(List.range n).filterMap (rK a b)
def eG(a b:List (List UInt8)):List (Int×List UInt8):=mM a b (max a.length b.length)
theorem Me{a b:List (List UInt8)}{n:Nat}(h:a.getD n []=b.getD n []):mM a b (n+1)=mM a b n:=by
 have e:rK a b n=none:=by rw[rK,if_pos h]
 simp[mM,List.range_succ,e]
theorem Mf{a b:List (List UInt8)}{n:Nat}(h: ¬a.getD n []=b.getD n []):mM a b (n+1)=mM a b n++[((n:Int),b.getD n [])]:=by
 have e:rK a b n=some ((n:Int),b.getD n []):=by rw[rK,if_neg h]
 simp[mM,List.range_succ,e]
theorem CS(a b:List (List UInt8))(n:Nat):(mM a b n).length≤n:=by
 have:=List.length_filterMap_le (rK a b) (List.range n)
 simpa[mM]using this
def oc(b:List UInt8):Bool:=decide (b.getD 0 0≤1)
def rdv(b:List UInt8):Rt:=if oc b=true then oR b else fQ
theorem Mg(b:List UInt8):rd b=if oc b=true then some (oR b)else none:=by simp[rd,oc]
theorem UH(b:List UInt8):(oR b).dK=rk (b.getD 18 0) (b.getD 19 0):=rfl
theorem UI{b:List UInt8}(hb:b.length=20)(v:Int)(hv:v=if b.getD 0 0=1 then 128 else 32):
  (cW (((ax fQ).setIfInBounds 0 (.int .i64 v)).setIfInBounds 1 (.int .i64 (b.getD 1 0).toNat)) 2 (aL aN ((b.drop 2).take 16)).toArray).setIfInBounds 18 (.int .u16 (rk (b.getD 18 0) (b.getD 19 0)).toNat)=ax (oR b):=by
 have hk:(aL aN ((b.drop 2).take 16)).toArray.size=16:=by rw[List.size_toArray,hK,List.length_take,List.length_drop,hb];rfl
 have h0:(ax fQ).size=19:=kD _
 have hs:2+(aL aN ((b.drop 2).take 16)).toArray.size≤(((ax fQ).setIfInBounds 0 (.int .i64 v)).setIfInBounds 1 (.int .i64 (b.getD 1 0).toNat)).size:=by rw[hk];simp[h0]
 refine Array.ext_getElem? fun j=> ?_
 rw[Array.getElem?_setIfInBounds,m9 hs,uX hs,hk]
 by_cases zC:18=j
 ·
  subst zC;rw[if_pos rfl,wO,UH];simp[h0]
 rw[if_neg zC]
 by_cases h2:2≤j∧j<2+16
 ·
  rw[if_pos h2,oH _ j (by omega),show j=2+(j -2) by omega,ql,lU _ _ (by omega),show 2+(j -2) -2=j -2 by omega]
  have hg:((b.drop 2).take 16)[j -2]? =some (b.getD j 0):=by
   rw[List.getElem?_take,if_pos (by omega),List.getElem?_drop,show 2+(j -2)=j by omega,List.getD,List.getElem?_eq_getElem (by omega)];rfl
  have:=na (enc:=aN) ((b.drop 2).take 16) (j -2) _ hg 0 (by decide)
  simp only[Nat.mul_one,Nat.add_zero]at this
  rw[show(aL aN ((b.drop 2).take 16)).toArray[j -2]? =(aL aN ((b.drop 2).take 16))[j -2]?by simp,this]
  have e:cM (oR b).p.key (j -2)=(b.getD j 0).toNat:=by
   show cM (oF fun i=>(b.getD (2+i) 0).toNat) (j -2)=_
   rw[zd _ _ (by omega),show 2+(j -2)=j by omega]
   have:=(b.getD j 0).toNat_lt;omega
  rw[e];rfl
 rw[if_neg h2,Array.getElem?_setIfInBounds]
 by_cases h1:1=j
 ·
  subst h1;rw[if_pos rfl,oH _ 1 (by decide),vf];simp[h0,oR]
 rw[if_neg h1,Array.getElem?_setIfInBounds]
 by_cases hj:0=j
 ·
  subst hj;rw[if_pos rfl,oH _ 0 (by decide),ve];simp[h0,oR,hv]
 ·
  rw[if_neg hj,Array.getElem?_eq_none (by rw[h0];omega),Array.getElem?_eq_none (by rw[kD];omega)]
theorem Mh{t:List Rt}{ids room:Int}(h:iC ids room=0∨cr t=false):jv t ids room=1∧ka t ids room=[]:=by
 have e:jv t ids room=1:=if_pos h.symm
 exact⟨e,by rw[ka,e];rfl⟩
theorem Mi{t:List Rt}{ids room:Int}(h: ¬iC ids room=0)(h':cr t=true)(h2:iC ids room<t.length):jv t ids room=5∧ka t ids room=[]:=by
 have e:jv t ids room=5:=by
  rw[jv,if_neg (by simp[h,h']),if_pos h2]
 exact⟨e,by rw[ka,e];rfl⟩
theorem Gy{t:List Rt}{ids room:Int}(h: ¬iC ids room=0)(h':cr t=true)(h2: ¬iC ids room<t.length):jv t ids room=0∧ka t ids room=kN t ids.toNat (room/20).toNat:=by
 have e:jv t ids room=0:=by
  rw[jv,if_neg (by simp[h,h']),if_neg h2]
 exact⟨e,by rw[ka,if_pos e]⟩
theorem UJ{s:Sv}{xs:List (Sl UInt8)}{i:Nat}{y:Sl UInt8}:lx (⟨s,xs.set i y⟩:Sl (Sl UInt8))=(xs.map (·.xs)).set i y.xs:=by simp[lx,List.map_set]
section
variable {bits:Int} {ns:List Nd} {i:Nat} {a a2:List Int} {nd:Nd}
end
section
variable {bits:Int} {W:List Wy} {R:List Rt}
end
section
variable {bits:Int} {t:List Rt}
end
def kO(p:Nat→Bool):Nat→Nat→Nat→Nat
 |0,i,_=>i
 |f+1,i,j=>if i<j then(if p ((i+j)/2)=true then kO p f i ((i+j)/2)else kO p f ((i+j)/2+1) j)else i
def bs(p:Nat→Bool)(n:Nat):Nat:=kO p (n+1) 0 n
theorem CT(p:Nat→Bool): ∀(f g i j:Nat),j -i<f→j -i<g→kO p f i j=kO p g i j
 |0,_,_,_,h,_=>by omega
 |_+1,0,_,_,_,h=>by omega
 |f+1,g+1,i,j,h1,h2=>by
  rw[kO,kO]
  split
  ·
   split
   ·
    exact CT p f g _ _ (by omega) (by omega)
   ·
    exact CT p f g _ _ (by omega) (by omega)
  ·
   rfl
theorem Mj{p:Nat→Bool}{f i j:Nat}(h:i<j)(hf:j -i<f):kO p f i j=if p ((i+j)/2)=true then kO p f i ((i+j)/2)else kO p f ((i+j)/2+1) j:=by
 match f,hf with
 |f+1,hf=>
  rw[kO,if_pos h]
  split
  ·
   exact CT p f (f+1) _ _ (by omega) (by omega)
  ·
   exact CT p f (f+1) _ _ (by omega) (by omega)
theorem UK{p:Nat→Bool}{f i j:Nat}(h: ¬i<j)(hf:0<f):kO p f i j=i:=by
 match f,hf with
 |f+1,_=>rw[kO,if_neg h]
theorem Gz{p:Nat→Bool}{n:Nat}(hm: ∀a b,a≤b→b<n→p a=true→p b=true): ∀(f i j:Nat),j -i<f→i≤j→j≤n→(∀a,a<i→p a=false)→(∀a,j≤a→a<n→p a=true)→
  kO p f i j≤n∧(∀a,a<kO p f i j→p a=false)∧ ∀a,kO p f i j≤a→a<n→p a=true
 |0,_,_,h,_,_,_,_=>by omega
 |f+1,i,j,h,mX,tj,h1,h2=>by
  rw[kO]
  split
  ·
   rename_i bu
   split
   ·
    rename_i hp
    exact Gz hm f _ _ (by omega) (by omega) (by omega) h1 fun a ha UL=>hm _ a ha UL hp
   ·
    rename_i hp
    refine Gz hm f _ _ (by omega) (by omega) tj (fun a ha=> ?_) h2
    cases oS:p a with
    |false=>rfl
    |true=>exact absurd (hm a ((i+j)/2) (by omega) (by omega) oS) hp
  ·
   obtain rfl:i=j:=by omega
   exact⟨tj,h1,h2⟩
theorem Mk{p:Nat→Bool}{n:Nat}(hm: ∀a b,a≤b→b<n→p a=true→p b=true):bs p n≤n∧(∀a,a<bs p n→p a=false)∧ ∀a,bs p n≤a→a<n→p a=true:=
 Gz hm (n+1) 0 n (by omega) (Nat.zero_le _) (Nat.le_refl _) (fun a ha=>by omega) (fun a h1 h2=>by omega)
def behind(t:List Rt)(q:cJ)(j:Nat):Bool:=match t[j]?with
 |some r=> !dL r.p q
 |none=>true
def cF(t:List Rt)(q:cJ):Nat:=bs (behind t q) t.length
def jw(t:List Rt)(q:cJ):Bool:=match t[cF t q]?with
 |some r=>decide (r.p=q)
 |none=>false
theorem GA{p:Nat→Bool}: ∀(f i j:Nat),i≤j→kO p f i j≤j
 |0,_,_,h=>h
 |f+1,i,j,h=>by
  rw[kO];split
  ·
   split
   ·
    exact Nat.le_trans (GA f _ _ (by omega)) (by omega)
   ·
    exact GA f _ _ (by omega)
  ·
   exact h
theorem Ml(t:List Rt)(q:cJ):cF t q≤t.length:=GA _ _ _ (Nat.zero_le _)
theorem UM(t:List Rt)(q:cJ):jw t q=(decide (((cF t q:Nat):Int)<(t.length:Int))&&decide ((t.getD (cF t q) fQ).p=q)):=by
 rcases Nat.lt_or_ge (cF t q) t.length with h|h
 ·
  have e:t[cF t q]? =some t[cF t q]:=by simp[h]
  rw[jw,e,List.getD_eq_getElem?_getD,e];simp[h]
 ·
  rw[jw,List.getElem?_eq_none h,decide_eq_false (by omega)];rfl
def qK(t:List Rt)(k:Key)(bits:Int)(n:Nat):Option Rt:=if jw t ⟨bits,n,eu k n⟩=true then t[cF t ⟨bits,n,eu k n⟩]?else none
def mN(t:List Rt)(k:Key)(bits:Int):Nat→Option Rt
 |0=>qK t k bits 0
 |n+1=>match qK t k bits (n+1)with
  |some r=>some r
  |none=>mN t k bits n
def rL(t:List Rt)(k:Key)(bits:Int):Bool:=cr t&&cq ⟨bits,bits,k⟩
def lh(t:List Rt)(k:Key)(bits:Int):Rt:=if rL t k bits=true then(mN t k bits bits.toNat).getD fQ else fQ
def mO(t:List Rt)(k:Key)(bits:Int):Int:=if rL t k bits=true then(if(mN t k bits bits.toNat).isSome=true then 0 else 6)else 1
theorem CU{t:List Rt}(h:cr t=true): ∀(i j:Nat) (a b:Rt),i<j→t[i]? =some a→t[j]? =some b→dL a.p b.p=true:=by
 intro i j
 induction j with
 |zero=>intro a b mX;omega
 |succ j ih=>
  intro a b mX ha hb
  have jA:=(List.getElem?_eq_some_iff.1 hb).1
  obtain⟨c,hc⟩: ∃c,t[j]? =some c:=⟨t[j],by simp[show j<t.length by omega]⟩
  have oT:dL c.p b.p=true:=by
   cases hx:dL c.p b.p with
   |true=>rfl
   |false=>
    have:=BK jA (by rw[BL hb hc,hx];simp)
    rw[this]at h;cases h
  rcases Nat.lt_or_ge i j with h1|h1
  ·
   have UN:=ih a c h1 ha hc
   have m1:=wZ h (List.mem_of_getElem? ha)
   have m2:=wZ h (List.mem_of_getElem? hb)
   have m3:=wZ h (List.mem_of_getElem? hc)
   rw[lV m1 m3]at UN
   rw[lV m3 m2]at oT
   rw[lV m1 m2]
   omega
  ·
   obtain rfl:i=j:=by omega
   obtain rfl:=Option.some.inj (ha.symm.trans hc)
   exact oT
theorem rM{p:cJ}(h:cq p=true):dL p p=false:=by
 cases hx:dL p p with
 |false=>rfl
 |true=>rw[lV h h]at hx;omega
theorem Mm{t:List Rt}(h:cr t=true){q:cJ}(hq:cq q=true)(a b:Nat)(A5:a≤b)(hb:b<t.length)(ha:behind t q a=true):behind t q b=true:=by
 obtain⟨x,hx⟩: ∃x,t[a]? =some x:=⟨t[a],by simp[show a<t.length by omega]⟩
 obtain⟨y,hy⟩: ∃y,t[b]? =some y:=⟨t[b],by simp[hb]⟩
 simp only[behind,hx,hy,Bool.not_eq_true']at ha⊢
 rcases Nat.lt_or_ge a b with h1|h1
 ·
  have hl:=CU h a b x y h1 hx hy
  have m1:=wZ h (List.mem_of_getElem? hx)
  have m2:=wZ h (List.mem_of_getElem? hy)
  cases hz:dL y.p q with
  |false=>rfl
  |true=>
   rw[lV m1 m2]at hl
   rw[lV m2 hq]at hz
   have:dL x.p q=true:=by rw[lV m1 hq];omega
   rw[this]at ha;cases ha
 ·
  obtain rfl:a=b:=by omega
  obtain rfl:=Option.some.inj (hx.symm.trans hy)
  exact ha
theorem CW{t:List Rt}(h:cr t=true){q:cJ}(hq:cq q=true){r:Rt}(hr:r∈t)(e:r.p=q):t[cF t q]? =some r∧jw t q=true:=by
 obtain⟨h1,h2,h3⟩:=Mk (p:=behind t q) (n:=t.length) fun a b=>Mm h hq a b
 obtain⟨i,hi⟩:=List.mem_iff_getElem?.1 hr
 have eX:=(List.getElem?_eq_some_iff.1 hi).1
 have e1:cF t q=i:=by
  have Mn:behind t q i=true:=by simp only[behind,hi,e,rM hq];rfl
  rcases Nat.lt_trichotomy (cF t q) i with h4|h4|h4
  ·
   obtain⟨x,hx⟩: ∃x,t[cF t q]? =some x:=⟨t[cF t q],by simp[show cF t q<t.length by omega]⟩
   have h5:=h3 (cF t q) (Nat.le_refl _) (by omega)
   have h6:=CU h _ _ x r h4 hx hi
   simp only[behind,hx]at h5
   rw[e]at h6;rw[h6]at h5;cases h5
  ·
   exact h4
  ·
   have:=h2 i h4;rw[this]at Mn;cases Mn
 rw[jw,e1,hi]
 exact⟨rfl,by simp[e]⟩
theorem tY{t:List Rt}{q:cJ}(h:jw t q=true): ∃r∈t,t[cF t q]? =some r∧r.p=q:=by
 rw[jw]at h
 cases e:t[cF t q]?with
 |none=>rw[e]at h;cases h
 |some r=>rw[e]at h;exact⟨r,List.mem_of_getElem? e,rfl,by simpa using h⟩
section
variable {t:List Rt} {k:Key} {bits:Int}
theorem Mo(hb:bits=32∨bits=128){n:Nat}(hn:(n:Int)≤bits):cq ⟨bits,n,eu k n⟩=true:=
 (pw _).2 ⟨hb,by simp,hn,by simp only;rw[RQ];congr 1;omega⟩
theorem zR(h:cr t=true)(hb:bits=32∨bits=128){n:Nat}(hn:(n:Int)≤bits){r:Rt}:qK t k bits n=some r↔r∈t∧r.p=⟨bits,n,eu k n⟩:=by
 constructor
 ·
  intro e
  unfold qK at e
  split at e
  ·
   rename_i hp
   obtain⟨r',h1,h2,h3⟩:=tY hp
   rw[h2]at e
   obtain rfl:=Option.some.inj e
   exact⟨h1,h3⟩
  ·
   cases e
 ·
  rintro⟨h1,h2⟩
  obtain⟨h3,h4⟩:=CW h (Mo hb hn) h1 h2
  rw[qK,if_pos h4,h3]
theorem Mp(h:cr t=true)(hb:bits=32∨bits=128): ∀{n:Nat} {r:Rt},(n:Int)≤bits→mN t k bits n=some r→r∈t∧(∃m:Nat,m≤n∧r.p=⟨bits,m,eu k m⟩)∧ ∀q∈t,∀m:Nat,m≤n→q.p=⟨bits,m,eu k m⟩→q.p.len≤r.p.len
 |0,r,hn,e=>by
  obtain⟨h1,h2⟩:=(zR h hb hn).1 e
  exact⟨h1,⟨0,Nat.le_refl _,h2⟩,fun q _ m hm hq=>by rw[hq,h2];simp;omega⟩
 |n+1,r,hn,e=>by
  rw[mN]at e
  cases hx:qK t k bits (n+1)with
  |some r'=>
   rw[hx]at e
   obtain rfl:=Option.some.inj e
   obtain⟨h1,h2⟩:=(zR h hb hn).1 hx
   exact⟨h1,⟨n+1,Nat.le_refl _,h2⟩,fun q _ m hm hq=>by rw[hq,h2];simp;omega⟩
  |none=>
   rw[hx]at e
   obtain⟨h1,⟨m,hm,h2⟩,h3⟩:=Mp h hb (by omega) e
   refine⟨h1,⟨m,by omega,h2⟩,fun q hq m' Mq e'=> ?_⟩
   rcases Nat.lt_or_ge n m' with h4|h4
   ·
    obtain rfl:m'=n+1:=by omega
    rw[(zR h hb hn).2 ⟨hq,e'⟩]at hx;cases hx
   ·
    exact h3 q hq m' h4 e'
theorem Mr(h:cr t=true)(hb:bits=32∨bits=128): ∀{n:Nat},(n:Int)≤bits→mN t k bits n=none→ ∀q∈t,∀m:Nat,m≤n→q.p≠⟨bits,m,eu k m⟩
 |0,hn,e=>fun q hq m hm e'=>by
  obtain rfl:m=0:=by omega
  rw[mN,(zR h hb hn).2 ⟨hq,e'⟩]at e;cases e
 |n+1,hn,e=>fun q hq m hm e'=>by
  rw[mN]at e
  cases hx:qK t k bits (n+1)with
  |some r'=>rw[hx]at e;cases e
  |none=>
   rw[hx]at e
   rcases Nat.lt_or_ge n m with h4|h4
   ·
    obtain rfl:m=n+1:=by omega
    rw[(zR h hb hn).2 ⟨hq,e'⟩]at hx;cases hx
   ·
    exact Mr h hb (by omega) e q hq m h4 e'
theorem Ms{r:Rt}(UO:r.p.bits=bits)(hf:tD r.p k=true): ∃m:Nat,(m:Int)≤bits∧r.p=⟨bits,m,eu k m⟩:=by
 obtain⟨h1,_,h3⟩:=(EO _ _).1 hf
 obtain⟨_,h4,h5,_⟩:=(pw _).1 h1
 refine⟨r.p.len.toNat,by omega,?_⟩
 obtain⟨⟨b,l,q⟩,dK⟩:=r
 simp only at*
 have:((l.toNat:Nat):Int)=l:=by omega
 rw[this,h3,UO]
theorem UP(hb:bits=32∨bits=128)(hk:eu k bits=k){r:Rt}{m:Nat}(hm:(m:Int)≤bits)(e:r.p=⟨bits,m,eu k m⟩):r.p.bits=bits∧tD r.p k=true:=by
 refine⟨by rw[e],(EO _ _).2 ⟨by rw[e];exact Mo hb hm,by rw[e];exact hk,by rw[e]⟩⟩
end
structure Ord(t:List Rt):Prop where
 may: ∀r∈t,cq r.p=true
 less:t.Pairwise fun a b=>dL a.p b.p=true
theorem rN{t:List Rt}(h:cr t=true):Ord t:=⟨fun _ hr=>wZ h hr,by
 rw[List.pairwise_iff_getElem]
 intro i j hi hj mX
 exact CU h i j _ _ mX (by simp[hi]) (by simp[hj])⟩
theorem UQ{t:List Rt}(h:Ord t)(hl:t.length≤256):cr t=true:=by
 refine JU hl ?_
 have key: ∀n,n≤t.length→qn t n=true:=by
  intro n
  induction n with
  |zero=>intro _;rfl
  |succ n ih=>
   intro hn
   rw[EP,ih (by omega),Bool.true_and]
   have hi:t[n]? =some t[n]:=by simp[show n<t.length by omega]
   have hm:=h.may _ (List.mem_of_getElem? hi)
   cases n with
   |zero=>rw[ER hi,hm]
   |succ m=>
    have hq:t[m]? =some t[m]:=by simp[show m<t.length by omega]
    rw[BL hi hq,hm,Bool.true_and]
    exact(List.pairwise_iff_getElem.1 h.less) m (m+1) (by omega) (by omega) (by omega)
 exact key _ (Nat.le_refl _)
theorem Ord.sub{s t:List Rt}(h:Ord t)(hs:s.Sublist t):Ord s:=⟨fun r hr=>h.may r (hs.subset hr),h.less.sublist hs⟩
theorem Ord.uniq{t:List Rt}(h:Ord t){a b:Rt}(ha:a∈t)(hb:b∈t)(e:a.p=b.p):a=b:=by
 obtain⟨i,hi,rfl⟩:=List.getElem_of_mem ha
 obtain⟨j,hj,rfl⟩:=List.getElem_of_mem hb
 have hp:=List.pairwise_iff_getElem.1 h.less
 have hm:=h.may _ hb
 rcases Nat.lt_trichotomy i j with h1|h1|h1
 ·
  have:=hp i j hi hj h1;rw[e,rM hm]at this;cases this
 ·
  subst h1;rfl
 ·
  have:=hp j i hj hi h1;rw[e,rM hm]at this;cases this
def UR(r:Rt)(p:cJ):Bool:=decide (r.p≠p)&&RR r.p p
def US(t:List Rt)(p:cJ):Option Rt:=t.reverse.find? fun r=>UR r p
def nB(k:Key)(bits:Int)(r:Rt):Bool:=decide (r.p.bits=bits)&&tD r.p k
def ac2(t:List Rt)(r:Rt):Bool:=match US t r.p with
 |none=>true
 |some o=> !decide (o.dK=r.dK)
structure Ch where
 r:Rt
 gone:Bool
 deriving DecidableEq
def Mt:Ch:=⟨fQ,false⟩
def fN(x:Ch):Array Value:=ax x.r++ #[.bool x.gone]
theorem Mu(x:Ch):(fN x).size=20:=by unfold fN;rw[Array.size_append,kD];rfl
theorem Mv(x:Ch)(j:Nat)(h:j<19):(fN x)[j]? =(ax x.r)[j]? :=by
 unfold fN;rw[Array.getElem?_append_left (by rw[kD];exact h)]
theorem UT(x:Ch):(fN x)[19]? =some (.bool x.gone):=by
 unfold fN;rw[Array.getElem?_append_right (by rw[kD];omega),kD];rfl
def ei(t:List Rt)(c:Ch):Int:=if cq c.r.p=true then(if jw t c.r.p=true then 0 else if c.gone=true then 6 else if 256≤t.length then 5 else 0)else 1
def iE(t:List Rt)(c:Ch):List Rt:=
 if ei t c=0 then(if c.gone=true then t.take (cF t c.r.p)++t.drop (cF t c.r.p+1)else if jw t c.r.p=true then t.set (cF t c.r.p) c.r else t.take (cF t c.r.p)++c.r::t.drop (cF t c.r.p))else t
theorem Mw{t:List Rt}(h:t.length≤256)(c:Ch):(iE t c).length≤256:=by
 unfold iE
 split
 ·
  rename_i he
  split
  ·
   simp only[List.length_append,List.length_take,List.length_drop];omega
  ·
   split
   ·
    simpa using h
   ·
    rename_i h1 h2
    have:t.length<256:=by
     apply Classical.byContradiction;intro hn
     unfold ei at he
     rw[if_neg h2,if_neg h1,if_pos (show 256≤t.length by omega)]at he
     split at he<;>omega
    have hp:=Ml t c.r.p
    simp only[List.length_append,List.length_take,List.length_cons,List.length_drop];omega
 ·
  exact h
def gK:List Rt→List Ch→List Rt×Int
 |t,[]=>(t,0)
 |t,c::l=>if ei t c=0 then gK (iE t c) l else(t,ei t c)
theorem Mx{t:List Rt}{l:List Ch}{i:Nat}{c:Ch}(hc:l[i]? =some c):gK t (l.drop i)=if ei t c=0 then gK (iE t c) (l.drop (i+1))else(t,ei t c):=by
 obtain⟨hi,rfl⟩:=List.getElem?_eq_some_iff.1 hc
 rw[List.drop_eq_getElem_cons hi,gK]
def dA(t:List Rt)(l:List Ch):Int:=if cr t=true then(gK t l).2 else 1
def cj(t:List Rt)(l:List Ch):List Rt:=if dA t l=0 then(gK t l).1 else t
end Go.Kb
namespace Go.Proofs.YtaipiecplldinaaGreat
open Go.aA
instance ac3:ir Tryz.prog 3:=⟨⟨_,Tryz.underlying3,rfl⟩,by kernel_rfl⟩
instance ac4:mo Tryz.prog 3 .i64:=⟨Tryz.underlying3⟩
instance ac5:ir Tryz.prog 4:=⟨⟨_,Tryz.underlying4,rfl⟩,by kernel_rfl⟩
instance ac6:ir Tryz.prog 5:=⟨⟨_,Tryz.underlying5,rfl⟩,by kernel_rfl⟩
instance ac7:mo Tryz.prog 5 .u8:=⟨Tryz.underlying5⟩
instance ac8:ir Tryz.prog 22:=⟨⟨_,Tryz.underlying22,rfl⟩,by kernel_rfl⟩
instance ac9:fj Tryz.prog 22 48 4:=⟨Tryz.underlying22,by kernel_rfl⟩
instance ada:ir Tryz.prog 23:=⟨⟨_,Tryz.underlying23,rfl⟩,by kernel_rfl⟩
instance adb:fj Tryz.prog 23 94 4:=⟨Tryz.underlying23,by kernel_rfl⟩
instance ade:fY Tryz.prog 25 6:=⟨⟨_,Tryz.underlying25,rfl⟩,by kernel_rfl⟩
instance adf:dU Tryz.prog 25 0 0:=⟨⟨_,_,0,Tryz.underlying25,rfl,rfl,by kernel_rfl⟩⟩
instance adg:dU Tryz.prog 25 1 1:=⟨⟨_,_,0,Tryz.underlying25,rfl,rfl,by kernel_rfl⟩⟩
instance adh:dU Tryz.prog 25 2 2:=⟨⟨_,_,0,Tryz.underlying25,rfl,rfl,by kernel_rfl⟩⟩
instance adi:dU Tryz.prog 25 3 3:=⟨⟨_,_,0,Tryz.underlying25,rfl,rfl,by kernel_rfl⟩⟩
instance adj:dU Tryz.prog 25 4 4:=⟨⟨_,_,0,Tryz.underlying25,rfl,rfl,by kernel_rfl⟩⟩
instance adk:dU Tryz.prog 25 5 5:=⟨⟨_,_,0,Tryz.underlying25,rfl,rfl,by kernel_rfl⟩⟩
instance adl:ir Tryz.prog 26:=⟨⟨_,Tryz.underlying26,rfl⟩,by kernel_rfl⟩
instance adm:fj Tryz.prog 26 3 1:=⟨Tryz.underlying26,by kernel_rfl⟩
instance adn:ir Tryz.prog 27:=⟨⟨_,Tryz.underlying27,rfl⟩,by kernel_rfl⟩
instance ado:mo Tryz.prog 27 .u64:=⟨Tryz.underlying27⟩
instance adp:fY Tryz.prog 29 9:=⟨⟨_,Tryz.underlying29,rfl⟩,by kernel_rfl⟩
instance adq:dU Tryz.prog 29 0 0:=⟨⟨_,_,5,Tryz.underlying29,rfl,rfl,by kernel_rfl⟩⟩
instance adr:dU Tryz.prog 29 1 6:=⟨⟨_,_,0,Tryz.underlying29,rfl,rfl,by kernel_rfl⟩⟩
instance ads:dU Tryz.prog 29 2 7:=⟨⟨_,_,0,Tryz.underlying29,rfl,rfl,by kernel_rfl⟩⟩
instance adt:dU Tryz.prog 29 3 8:=⟨⟨_,_,0,Tryz.underlying29,rfl,rfl,by kernel_rfl⟩⟩
instance adu:ir Tryz.prog 38:=⟨⟨_,Tryz.underlying38,rfl⟩,by kernel_rfl⟩
instance adv:fj Tryz.prog 38 5 1:=⟨Tryz.underlying38,by kernel_rfl⟩
instance adw:fj Tryz.prog 43 50 4:=⟨Tryz.underlying43,by kernel_rfl⟩
instance adx:ir Tryz.prog 46:=⟨⟨_,Tryz.underlying46,rfl⟩,by kernel_rfl⟩
instance ady:fj Tryz.prog 46 38 1:=⟨Tryz.underlying46,by kernel_rfl⟩
instance adz:fY Tryz.prog 48 4:=⟨⟨_,Tryz.underlying48,rfl⟩,by kernel_rfl⟩
instance adA:dU Tryz.prog 48 0 0:=⟨⟨_,_,0,Tryz.underlying48,rfl,rfl,by kernel_rfl⟩⟩
instance adB:dU Tryz.prog 48 1 1:=⟨⟨_,_,0,Tryz.underlying48,rfl,rfl,by kernel_rfl⟩⟩
instance adC:dU Tryz.prog 48 2 2:=⟨⟨_,_,0,Tryz.underlying48,rfl,rfl,by kernel_rfl⟩⟩
instance adD:dU Tryz.prog 48 3 3:=⟨⟨_,_,0,Tryz.underlying48,rfl,rfl,by kernel_rfl⟩⟩
instance adE:fY Tryz.prog 50 4:=⟨⟨_,Tryz.underlying50,rfl⟩,by kernel_rfl⟩
instance adF:dU Tryz.prog 50 0 0:=⟨⟨_,_,0,Tryz.underlying50,rfl,rfl,by kernel_rfl⟩⟩
instance adG:dU Tryz.prog 50 1 1:=⟨⟨_,_,0,Tryz.underlying50,rfl,rfl,by kernel_rfl⟩⟩
instance adH:dU Tryz.prog 50 2 2:=⟨⟨_,_,0,Tryz.underlying50,rfl,rfl,by kernel_rfl⟩⟩
instance adI:dU Tryz.prog 50 3 3:=⟨⟨_,_,0,Tryz.underlying50,rfl,rfl,by kernel_rfl⟩⟩
instance adJ:ir Tryz.prog 52:=⟨⟨_,Tryz.underlying52,rfl⟩,by kernel_rfl⟩
instance adK:fj Tryz.prog 52 68 19:=⟨Tryz.underlying52,by kernel_rfl⟩
instance adL:fY Tryz.prog 54 10:=⟨⟨_,Tryz.underlying54,rfl⟩,by kernel_rfl⟩
instance adM:dU Tryz.prog 54 0 0:=⟨⟨_,_,8,Tryz.underlying54,rfl,rfl,by kernel_rfl⟩⟩
instance adN:dU Tryz.prog 54 1 9:=⟨⟨_,_,0,Tryz.underlying54,rfl,rfl,by kernel_rfl⟩⟩
instance adO:fY Tryz.prog 56 16:=⟨⟨_,Tryz.underlying56,rfl⟩,by kernel_rfl⟩
instance adP:uN Tryz.prog 56 16 1:=⟨⟨_,Tryz.underlying56,by kernel_rfl⟩⟩
instance adQ:fY Tryz.prog 65 18:=⟨⟨_,Tryz.underlying65,rfl⟩,by kernel_rfl⟩
instance adR:dU Tryz.prog 65 0 0:=⟨⟨_,_,0,Tryz.underlying65,rfl,rfl,by kernel_rfl⟩⟩
instance adS:dU Tryz.prog 65 1 1:=⟨⟨_,_,0,Tryz.underlying65,rfl,rfl,by kernel_rfl⟩⟩
instance adT:dU Tryz.prog 65 2 2:=⟨⟨_,_,15,Tryz.underlying65,rfl,rfl,by kernel_rfl⟩⟩
instance adU:ir Tryz.prog 66:=⟨⟨_,Tryz.underlying66,rfl⟩,by kernel_rfl⟩
instance adV:mo Tryz.prog 66 .u16:=⟨Tryz.underlying66⟩
instance adW:fY Tryz.prog 68 19:=⟨⟨_,Tryz.underlying68,rfl⟩,by kernel_rfl⟩
instance adX:dU Tryz.prog 68 0 0:=⟨⟨_,_,17,Tryz.underlying68,rfl,rfl,by kernel_rfl⟩⟩
instance adY:dU Tryz.prog 68 1 18:=⟨⟨_,_,0,Tryz.underlying68,rfl,rfl,by kernel_rfl⟩⟩
instance adZ:fj Tryz.prog 76 91 20:=⟨Tryz.underlying76,by kernel_rfl⟩
instance ad0:fY Tryz.prog 91 20:=⟨⟨_,Tryz.underlying91,rfl⟩,by kernel_rfl⟩
instance ad1:dU Tryz.prog 91 0 0:=⟨⟨_,_,18,Tryz.underlying91,rfl,rfl,by kernel_rfl⟩⟩
instance ad3:dU Tryz.prog 91 1 19:=⟨⟨_,_,0,Tryz.underlying91,rfl,rfl,by kernel_rfl⟩⟩
instance ad4:fY Tryz.prog 94 4:=⟨⟨_,Tryz.underlying94,rfl⟩,by kernel_rfl⟩
instance ad5:dU Tryz.prog 94 0 0:=⟨⟨_,_,0,Tryz.underlying94,rfl,rfl,by kernel_rfl⟩⟩
instance ad6:dU Tryz.prog 94 1 1:=⟨⟨_,_,0,Tryz.underlying94,rfl,rfl,by kernel_rfl⟩⟩
instance ad7:dU Tryz.prog 94 2 2:=⟨⟨_,_,0,Tryz.underlying94,rfl,rfl,by kernel_rfl⟩⟩
instance ad8:dU Tryz.prog 94 3 3:=⟨⟨_,_,0,Tryz.underlying94,rfl,rfl,by kernel_rfl⟩⟩
instance ad9:fY Tryz.prog 102 2:=⟨⟨_,Tryz.underlying102,rfl⟩,by kernel_rfl⟩
instance aea:dU Tryz.prog 102 0 0:=⟨⟨_,_,0,Tryz.underlying102,rfl,rfl,by kernel_rfl⟩⟩
instance aeb:dU Tryz.prog 102 1 1:=⟨⟨_,_,0,Tryz.underlying102,rfl,rfl,by kernel_rfl⟩⟩
instance aec:fj Tryz.prog 103 102 2:=⟨Tryz.underlying103,by kernel_rfl⟩
instance aed:fY Tryz.prog 110 4:=⟨⟨_,Tryz.underlying110,rfl⟩,by kernel_rfl⟩
instance aee:dU Tryz.prog 110 0 0:=⟨⟨_,_,0,Tryz.underlying110,rfl,rfl,by kernel_rfl⟩⟩
instance aef:dU Tryz.prog 110 1 1:=⟨⟨_,_,0,Tryz.underlying110,rfl,rfl,by kernel_rfl⟩⟩
instance aeg:dU Tryz.prog 110 2 2:=⟨⟨_,_,0,Tryz.underlying110,rfl,rfl,by kernel_rfl⟩⟩
instance aeh:dU Tryz.prog 110 3 3:=⟨⟨_,_,0,Tryz.underlying110,rfl,rfl,by kernel_rfl⟩⟩
instance aei:ir Tryz.prog 139:=⟨⟨_,Tryz.underlying139,rfl⟩,by kernel_rfl⟩
instance aej:dU Tryz.prog 141 0 0:=⟨⟨_,_,8,Tryz.underlying141,rfl,rfl,by kernel_rfl⟩⟩
instance aek:dU Tryz.prog 141 1 9:=⟨⟨_,_,0,Tryz.underlying141,rfl,rfl,by kernel_rfl⟩⟩
instance ael:fY Tryz.prog 147 2:=⟨⟨_,Tryz.underlying147,rfl⟩,by kernel_rfl⟩
instance aem:dU Tryz.prog 147 0 0:=⟨⟨_,_,0,Tryz.underlying147,rfl,rfl,by kernel_rfl⟩⟩
instance aen:dU Tryz.prog 147 1 1:=⟨⟨_,_,0,Tryz.underlying147,rfl,rfl,by kernel_rfl⟩⟩
instance aeo:fj Tryz.prog 161 26 1:=⟨Tryz.underlying161,by kernel_rfl⟩
instance aep:fY Tryz.prog 163 0:=⟨⟨_,Tryz.underlying163,rfl⟩,by kernel_rfl⟩
instance aeq:fj Tryz.prog 186 46 1:=⟨Tryz.underlying186,by kernel_rfl⟩
instance aer:mo Tryz.prog 191 .u32:=⟨Tryz.underlying191⟩
instance aes:uN Tryz.prog 197 20 1:=⟨⟨_,Tryz.underlying197,by kernel_rfl⟩⟩
instance aet:mo Tryz.prog 198 .u64:=⟨Tryz.underlying198⟩
instance aeu:fY Tryz.prog 234 5:=⟨⟨_,Tryz.underlying234,rfl⟩,by kernel_rfl⟩
instance aev:dU Tryz.prog 234 0 0:=⟨⟨_,_,3,Tryz.underlying234,rfl,rfl,by kernel_rfl⟩⟩
instance aew:dU Tryz.prog 234 1 4:=⟨⟨_,_,0,Tryz.underlying234,rfl,rfl,by kernel_rfl⟩⟩
instance aex:ir Tryz.prog 235:=⟨⟨_,Tryz.underlying235,rfl⟩,by kernel_rfl⟩
instance aey:fj Tryz.prog 238 235 1:=⟨Tryz.underlying238,by kernel_rfl⟩
instance aez:aS Tryz.prog 12:=⟨⟨Tryz.f12,Tryz.func12,by kernel_rfl,by kernel_rfl⟩⟩
instance aeA:aS Tryz.prog 14:=⟨⟨Tryz.f14,Tryz.func14,by kernel_rfl,by kernel_rfl⟩⟩
instance aeB:aS Tryz.prog 19:=⟨⟨Tryz.f19,Tryz.func19,by kernel_rfl,by kernel_rfl⟩⟩
instance aeC:aS Tryz.prog 20:=⟨⟨Tryz.f20,Tryz.func20,by kernel_rfl,by kernel_rfl⟩⟩
instance aeD:aS Tryz.prog 21:=⟨⟨Tryz.f21,Tryz.func21,by kernel_rfl,by kernel_rfl⟩⟩
instance aeE:aS Tryz.prog 23:=⟨⟨Tryz.f23,Tryz.func23,by kernel_rfl,by kernel_rfl⟩⟩
instance aeF:aS Tryz.prog 24:=⟨⟨Tryz.f24,Tryz.func24,by kernel_rfl,by kernel_rfl⟩⟩
instance aeG:aS Tryz.prog 27:=⟨⟨Tryz.f27,Tryz.func27,by kernel_rfl,by kernel_rfl⟩⟩
instance aeH:aS Tryz.prog 28:=⟨⟨Tryz.f28,Tryz.func28,by kernel_rfl,by kernel_rfl⟩⟩
instance aeI:aS Tryz.prog 31:=⟨⟨Tryz.f31,Tryz.func31,by kernel_rfl,by kernel_rfl⟩⟩
instance aeJ:aS Tryz.prog 32:=⟨⟨Tryz.f32,Tryz.func32,by kernel_rfl,by kernel_rfl⟩⟩
instance aeK:aS Tryz.prog 33:=⟨⟨Tryz.f33,Tryz.func33,by kernel_rfl,by kernel_rfl⟩⟩
instance aeL:aS Tryz.prog 34:=⟨⟨Tryz.f34,Tryz.func34,by kernel_rfl,by kernel_rfl⟩⟩
instance aeM:aS Tryz.prog 35:=⟨⟨Tryz.f35,Tryz.func35,by kernel_rfl,by kernel_rfl⟩⟩
instance aeN:aS Tryz.prog 36:=⟨⟨Tryz.f36,Tryz.func36,by kernel_rfl,by kernel_rfl⟩⟩
instance aeO:aS Tryz.prog 37:=⟨⟨Tryz.f37,Tryz.func37,by kernel_rfl,by kernel_rfl⟩⟩
instance aeP:aS Tryz.prog 38:=⟨⟨Tryz.f38,Tryz.func38,by kernel_rfl,by kernel_rfl⟩⟩
instance aeQ:aS Tryz.prog 39:=⟨⟨Tryz.f39,Tryz.func39,by kernel_rfl,by kernel_rfl⟩⟩
instance aeR:aS Tryz.prog 40:=⟨⟨Tryz.f40,Tryz.func40,by kernel_rfl,by kernel_rfl⟩⟩
instance aeS:aS Tryz.prog 41:=⟨⟨Tryz.f41,Tryz.func41,by kernel_rfl,by kernel_rfl⟩⟩
instance aeT:aS Tryz.prog 42:=⟨⟨Tryz.f42,Tryz.func42,by kernel_rfl,by kernel_rfl⟩⟩
instance aeU:aS Tryz.prog 43:=⟨⟨Tryz.f43,Tryz.func43,by kernel_rfl,by kernel_rfl⟩⟩
instance aeV:aS Tryz.prog 44:=⟨⟨Tryz.f44,Tryz.func44,by kernel_rfl,by kernel_rfl⟩⟩
instance aeW:aS Tryz.prog 47:=⟨⟨Tryz.f47,Tryz.func47,by kernel_rfl,by kernel_rfl⟩⟩
instance aeX:aS Tryz.prog 48:=⟨⟨Tryz.f48,Tryz.func48,by kernel_rfl,by kernel_rfl⟩⟩
instance aeY:aS Tryz.prog 49:=⟨⟨Tryz.f49,Tryz.func49,by kernel_rfl,by kernel_rfl⟩⟩
instance aeZ:aS Tryz.prog 51:=⟨⟨Tryz.f51,Tryz.func51,by kernel_rfl,by kernel_rfl⟩⟩
instance ae0:aS Tryz.prog 52:=⟨⟨Tryz.f52,Tryz.func52,by kernel_rfl,by kernel_rfl⟩⟩
instance ae1:aS Tryz.prog 53:=⟨⟨Tryz.f53,Tryz.func53,by kernel_rfl,by kernel_rfl⟩⟩
instance ae2:aS Tryz.prog 54:=⟨⟨Tryz.f54,Tryz.func54,by kernel_rfl,by kernel_rfl⟩⟩
instance ae3:aS Tryz.prog 57:=⟨⟨Tryz.f57,Tryz.func57,by kernel_rfl,by kernel_rfl⟩⟩
instance ae4:aS Tryz.prog 58:=⟨⟨Tryz.f58,Tryz.func58,by kernel_rfl,by kernel_rfl⟩⟩
instance ae5:aS Tryz.prog 59:=⟨⟨Tryz.f59,Tryz.func59,by kernel_rfl,by kernel_rfl⟩⟩
instance ae6:aS Tryz.prog 62:=⟨⟨Tryz.f62,Tryz.func62,by kernel_rfl,by kernel_rfl⟩⟩
instance ae7:aS Tryz.prog 65:=⟨⟨Tryz.f65,Tryz.func65,by kernel_rfl,by kernel_rfl⟩⟩
instance ae8:aS Tryz.prog 66:=⟨⟨Tryz.f66,Tryz.func66,by kernel_rfl,by kernel_rfl⟩⟩
instance ae9:aS Tryz.prog 67:=⟨⟨Tryz.f67,Tryz.func67,by kernel_rfl,by kernel_rfl⟩⟩
instance afa:aS Tryz.prog 68:=⟨⟨Tryz.f68,Tryz.func68,by kernel_rfl,by kernel_rfl⟩⟩
instance afb:aS Tryz.prog 69:=⟨⟨Tryz.f69,Tryz.func69,by kernel_rfl,by kernel_rfl⟩⟩
instance afc:aS Tryz.prog 70:=⟨⟨Tryz.f70,Tryz.func70,by kernel_rfl,by kernel_rfl⟩⟩
instance afd:aS Tryz.prog 71:=⟨⟨Tryz.f71,Tryz.func71,by kernel_rfl,by kernel_rfl⟩⟩
instance afe:aS Tryz.prog 72:=⟨⟨Tryz.f72,Tryz.func72,by kernel_rfl,by kernel_rfl⟩⟩
instance aff:aS Tryz.prog 73:=⟨⟨Tryz.f73,Tryz.func73,by kernel_rfl,by kernel_rfl⟩⟩
instance afg:aS Tryz.prog 74:=⟨⟨Tryz.f74,Tryz.func74,by kernel_rfl,by kernel_rfl⟩⟩
instance afh:aS Tryz.prog 75:=⟨⟨Tryz.f75,Tryz.func75,by kernel_rfl,by kernel_rfl⟩⟩
instance afi:aS Tryz.prog 76:=⟨⟨Tryz.f76,Tryz.func76,by kernel_rfl,by kernel_rfl⟩⟩
instance afj:aS Tryz.prog 77:=⟨⟨Tryz.f77,Tryz.func77,by kernel_rfl,by kernel_rfl⟩⟩
instance afk:aS Tryz.prog 78:=⟨⟨Tryz.f78,Tryz.func78,by kernel_rfl,by kernel_rfl⟩⟩
instance afl:aS Tryz.prog 79:=⟨⟨Tryz.f79,Tryz.func79,by kernel_rfl,by kernel_rfl⟩⟩
instance afm:aS Tryz.prog 80:=⟨⟨Tryz.f80,Tryz.func80,by kernel_rfl,by kernel_rfl⟩⟩
instance afn:aS Tryz.prog 81:=⟨⟨Tryz.f81,Tryz.func81,by kernel_rfl,by kernel_rfl⟩⟩
instance afo:aS Tryz.prog 82:=⟨⟨Tryz.f82,Tryz.func82,by kernel_rfl,by kernel_rfl⟩⟩
instance afp:aS Tryz.prog 83:=⟨⟨Tryz.f83,Tryz.func83,by kernel_rfl,by kernel_rfl⟩⟩
instance afq:aS Tryz.prog 84:=⟨⟨Tryz.f84,Tryz.func84,by kernel_rfl,by kernel_rfl⟩⟩
instance afr:aS Tryz.prog 85:=⟨⟨Tryz.f85,Tryz.func85,by kernel_rfl,by kernel_rfl⟩⟩
instance afs:aS Tryz.prog 86:=⟨⟨Tryz.f86,Tryz.func86,by kernel_rfl,by kernel_rfl⟩⟩
instance aft:aS Tryz.prog 87:=⟨⟨Tryz.f87,Tryz.func87,by kernel_rfl,by kernel_rfl⟩⟩
instance afu:aS Tryz.prog 88:=⟨⟨Tryz.f88,Tryz.func88,by kernel_rfl,by kernel_rfl⟩⟩
instance afv:aS Tryz.prog 89:=⟨⟨Tryz.f89,Tryz.func89,by kernel_rfl,by kernel_rfl⟩⟩
instance afw:aS Tryz.prog 90:=⟨⟨Tryz.f90,Tryz.func90,by kernel_rfl,by kernel_rfl⟩⟩
instance afx:aS Tryz.prog 91:=⟨⟨Tryz.f91,Tryz.func91,by kernel_rfl,by kernel_rfl⟩⟩
instance afy:aS Tryz.prog 92:=⟨⟨Tryz.f92,Tryz.func92,by kernel_rfl,by kernel_rfl⟩⟩
instance afz:aS Tryz.prog 96:=⟨⟨Tryz.f96,Tryz.func96,by kernel_rfl,by kernel_rfl⟩⟩
instance afA:aS Tryz.prog 100:=⟨⟨Tryz.f100,Tryz.func100,by kernel_rfl,by kernel_rfl⟩⟩
instance afB:aS Tryz.prog 101:=⟨⟨Tryz.f101,Tryz.func101,by kernel_rfl,by kernel_rfl⟩⟩
instance afC:aS Tryz.prog 104:=⟨⟨Tryz.f104,Tryz.func104,by kernel_rfl,by kernel_rfl⟩⟩
instance afD:aS Tryz.prog 105:=⟨⟨Tryz.f105,Tryz.func105,by kernel_rfl,by kernel_rfl⟩⟩
instance afE:aS Tryz.prog 107:=⟨⟨Tryz.f107,Tryz.func107,by kernel_rfl,by kernel_rfl⟩⟩
instance afF:aS Tryz.prog 108:=⟨⟨Tryz.f108,Tryz.func108,by kernel_rfl,by kernel_rfl⟩⟩
instance afG:aS Tryz.prog 109:=⟨⟨Tryz.f109,Tryz.func109,by kernel_rfl,by kernel_rfl⟩⟩
instance afH:aS Tryz.prog 110:=⟨⟨Tryz.f110,Tryz.func110,by kernel_rfl,by kernel_rfl⟩⟩
instance afI:aS Tryz.prog 111:=⟨⟨Tryz.f111,Tryz.func111,by kernel_rfl,by kernel_rfl⟩⟩
instance afJ:aS Tryz.prog 112:=⟨⟨Tryz.f112,Tryz.func112,by kernel_rfl,by kernel_rfl⟩⟩
instance afK:aS Tryz.prog 113:=⟨⟨Tryz.f113,Tryz.func113,by kernel_rfl,by kernel_rfl⟩⟩
instance afL:aS Tryz.prog 114:=⟨⟨Tryz.f114,Tryz.func114,by kernel_rfl,by kernel_rfl⟩⟩
instance afM:aS Tryz.prog 115:=⟨⟨Tryz.f115,Tryz.func115,by kernel_rfl,by kernel_rfl⟩⟩
instance afN:aS Tryz.prog 116:=⟨⟨Tryz.f116,Tryz.func116,by kernel_rfl,by kernel_rfl⟩⟩
instance afO:aS Tryz.prog 117:=⟨⟨Tryz.f117,Tryz.func117,by kernel_rfl,by kernel_rfl⟩⟩
instance afP:aS Tryz.prog 118:=⟨⟨Tryz.f118,Tryz.func118,by kernel_rfl,by kernel_rfl⟩⟩
instance afQ:aS Tryz.prog 119:=⟨⟨Tryz.f119,Tryz.func119,by kernel_rfl,by kernel_rfl⟩⟩
instance afR:aS Tryz.prog 120:=⟨⟨Tryz.f120,Tryz.func120,by kernel_rfl,by kernel_rfl⟩⟩
instance afS:aS Tryz.prog 121:=⟨⟨Tryz.f121,Tryz.func121,by kernel_rfl,by kernel_rfl⟩⟩
instance afT:aS Tryz.prog 122:=⟨⟨Tryz.f122,Tryz.func122,by kernel_rfl,by kernel_rfl⟩⟩
instance afU:aS Tryz.prog 123:=⟨⟨Tryz.f123,Tryz.func123,by kernel_rfl,by kernel_rfl⟩⟩
instance afV:aS Tryz.prog 124:=⟨⟨Tryz.f124,Tryz.func124,by kernel_rfl,by kernel_rfl⟩⟩
instance afW:aS Tryz.prog 125:=⟨⟨Tryz.f125,Tryz.func125,by kernel_rfl,by kernel_rfl⟩⟩
instance afX:aS Tryz.prog 126:=⟨⟨Tryz.f126,Tryz.func126,by kernel_rfl,by kernel_rfl⟩⟩
instance afY:aS Tryz.prog 127:=⟨⟨Tryz.f127,Tryz.func127,by kernel_rfl,by kernel_rfl⟩⟩
instance afZ:aS Tryz.prog 128:=⟨⟨Tryz.f128,Tryz.func128,by kernel_rfl,by kernel_rfl⟩⟩
instance af1:aS Tryz.prog 129:=⟨⟨Tryz.f129,Tryz.func129,by kernel_rfl,by kernel_rfl⟩⟩
instance af2:aS Tryz.prog 130:=⟨⟨Tryz.f130,Tryz.func130,by kernel_rfl,by kernel_rfl⟩⟩
instance af3:aS Tryz.prog 131:=⟨⟨Tryz.f131,Tryz.func131,by kernel_rfl,by kernel_rfl⟩⟩
instance af4:aS Tryz.prog 132:=⟨⟨Tryz.f132,Tryz.func132,by kernel_rfl,by kernel_rfl⟩⟩
instance af5:aS Tryz.prog 134:=⟨⟨Tryz.f134,Tryz.func134,by kernel_rfl,by kernel_rfl⟩⟩
instance af6:aS Tryz.prog 135:=⟨⟨Tryz.f135,Tryz.func135,by kernel_rfl,by kernel_rfl⟩⟩
instance af7:aS Tryz.prog 136:=⟨⟨Tryz.f136,Tryz.func136,by kernel_rfl,by kernel_rfl⟩⟩
instance af8:aS Tryz.prog 137:=⟨⟨Tryz.f137,Tryz.func137,by kernel_rfl,by kernel_rfl⟩⟩
instance af9:aS Tryz.prog 139:=⟨⟨Tryz.f139,Tryz.func139,by kernel_rfl,by kernel_rfl⟩⟩
instance aga:aS Tryz.prog 144:=⟨⟨Tryz.f144,Tryz.func144,by kernel_rfl,by kernel_rfl⟩⟩
instance agb:aS Tryz.prog 145:=⟨⟨Tryz.f145,Tryz.func145,by kernel_rfl,by kernel_rfl⟩⟩
instance agc:aS Tryz.prog 146:=⟨⟨Tryz.f146,Tryz.func146,by kernel_rfl,by kernel_rfl⟩⟩
instance agd:aS Tryz.prog 147:=⟨⟨Tryz.f147,Tryz.func147,by kernel_rfl,by kernel_rfl⟩⟩
instance age:aS Tryz.prog 148:=⟨⟨Tryz.f148,Tryz.func148,by kernel_rfl,by kernel_rfl⟩⟩
instance agf:aS Tryz.prog 149:=⟨⟨Tryz.f149,Tryz.func149,by kernel_rfl,by kernel_rfl⟩⟩
instance agh:aS Tryz.prog 150:=⟨⟨Tryz.f150,Tryz.func150,by kernel_rfl,by kernel_rfl⟩⟩
instance agi:aS Tryz.prog 151:=⟨⟨Tryz.f151,Tryz.func151,by kernel_rfl,by kernel_rfl⟩⟩
instance agj:aS Tryz.prog 152:=⟨⟨Tryz.f152,Tryz.func152,by kernel_rfl,by kernel_rfl⟩⟩
instance agk:aS Tryz.prog 153:=⟨⟨Tryz.f153,Tryz.func153,by kernel_rfl,by kernel_rfl⟩⟩
instance agl:aS Tryz.prog 154:=⟨⟨Tryz.f154,Tryz.func154,by kernel_rfl,by kernel_rfl⟩⟩
instance agm:aS Tryz.prog 155:=⟨⟨Tryz.f155,Tryz.func155,by kernel_rfl,by kernel_rfl⟩⟩
instance agn:aS Tryz.prog 159:=⟨⟨Tryz.f159,Tryz.func159,by kernel_rfl,by kernel_rfl⟩⟩
instance ago:aS Tryz.prog 160:=⟨⟨Tryz.f160,Tryz.func160,by kernel_rfl,by kernel_rfl⟩⟩
instance agp:aS Tryz.prog 161:=⟨⟨Tryz.f161,Tryz.func161,by kernel_rfl,by kernel_rfl⟩⟩
instance agq:aS Tryz.prog 162:=⟨⟨Tryz.f162,Tryz.func162,by kernel_rfl,by kernel_rfl⟩⟩
instance agr:aS Tryz.prog 163:=⟨⟨Tryz.f163,Tryz.func163,by kernel_rfl,by kernel_rfl⟩⟩
instance ags:aS Tryz.prog 164:=⟨⟨Tryz.f164,Tryz.func164,by kernel_rfl,by kernel_rfl⟩⟩
instance agt:aS Tryz.prog 165:=⟨⟨Tryz.f165,Tryz.func165,by kernel_rfl,by kernel_rfl⟩⟩
instance agu:aS Tryz.prog 166:=⟨⟨Tryz.f166,Tryz.func166,by kernel_rfl,by kernel_rfl⟩⟩
instance agv:aS Tryz.prog 167:=⟨⟨Tryz.f167,Tryz.func167,by kernel_rfl,by kernel_rfl⟩⟩
instance agw:aS Tryz.prog 168:=⟨⟨Tryz.f168,Tryz.func168,by kernel_rfl,by kernel_rfl⟩⟩
instance agx:aS Tryz.prog 169:=⟨⟨Tryz.f169,Tryz.func169,by kernel_rfl,by kernel_rfl⟩⟩
instance agy:aS Tryz.prog 170:=⟨⟨Tryz.f170,Tryz.func170,by kernel_rfl,by kernel_rfl⟩⟩
instance agz:aS Tryz.prog 171:=⟨⟨Tryz.f171,Tryz.func171,by kernel_rfl,by kernel_rfl⟩⟩
instance agA:aS Tryz.prog 172:=⟨⟨Tryz.f172,Tryz.func172,by kernel_rfl,by kernel_rfl⟩⟩
instance agB:aS Tryz.prog 173:=⟨⟨Tryz.f173,Tryz.func173,by kernel_rfl,by kernel_rfl⟩⟩
instance agC:aS Tryz.prog 174:=⟨⟨Tryz.f174,Tryz.func174,by kernel_rfl,by kernel_rfl⟩⟩
instance agD:aS Tryz.prog 175:=⟨⟨Tryz.f175,Tryz.func175,by kernel_rfl,by kernel_rfl⟩⟩
instance agE:aS Tryz.prog 176:=⟨⟨Tryz.f176,Tryz.func176,by kernel_rfl,by kernel_rfl⟩⟩
instance agF:aS Tryz.prog 178:=⟨⟨Tryz.f178,Tryz.func178,by kernel_rfl,by kernel_rfl⟩⟩
instance agG:aS Tryz.prog 179:=⟨⟨Tryz.f179,Tryz.func179,by kernel_rfl,by kernel_rfl⟩⟩
instance agH:aS Tryz.prog 180:=⟨⟨Tryz.f180,Tryz.func180,by kernel_rfl,by kernel_rfl⟩⟩
instance agI:aS Tryz.prog 181:=⟨⟨Tryz.f181,Tryz.func181,by kernel_rfl,by kernel_rfl⟩⟩
instance agJ:aS Tryz.prog 182:=⟨⟨Tryz.f182,Tryz.func182,by kernel_rfl,by kernel_rfl⟩⟩
instance agK:aS Tryz.prog 183:=⟨⟨Tryz.f183,Tryz.func183,by kernel_rfl,by kernel_rfl⟩⟩
instance agL:aS Tryz.prog 184:=⟨⟨Tryz.f184,Tryz.func184,by kernel_rfl,by kernel_rfl⟩⟩
instance agM:aS Tryz.prog 185:=⟨⟨Tryz.f185,Tryz.func185,by kernel_rfl,by kernel_rfl⟩⟩
instance agN:aS Tryz.prog 186:=⟨⟨Tryz.f186,Tryz.func186,by kernel_rfl,by kernel_rfl⟩⟩
instance agO:aS Tryz.prog 187:=⟨⟨Tryz.f187,Tryz.func187,by kernel_rfl,by kernel_rfl⟩⟩
instance agP:aS Tryz.prog 188:=⟨⟨Tryz.f188,Tryz.func188,by kernel_rfl,by kernel_rfl⟩⟩
instance agQ:aS Tryz.prog 189:=⟨⟨Tryz.f189,Tryz.func189,by kernel_rfl,by kernel_rfl⟩⟩
instance agR:aS Tryz.prog 190:=⟨⟨Tryz.f190,Tryz.func190,by kernel_rfl,by kernel_rfl⟩⟩
instance agS:aS Tryz.prog 191:=⟨⟨Tryz.f191,Tryz.func191,by kernel_rfl,by kernel_rfl⟩⟩
instance agT:aS Tryz.prog 192:=⟨⟨Tryz.f192,Tryz.func192,by kernel_rfl,by kernel_rfl⟩⟩
instance agU:aS Tryz.prog 193:=⟨⟨Tryz.f193,Tryz.func193,by kernel_rfl,by kernel_rfl⟩⟩
instance agV:aS Tryz.prog 194:=⟨⟨Tryz.f194,Tryz.func194,by kernel_rfl,by kernel_rfl⟩⟩
instance agW:aS Tryz.prog 195:=⟨⟨Tryz.f195,Tryz.func195,by kernel_rfl,by kernel_rfl⟩⟩
instance agX:aS Tryz.prog 196:=⟨⟨Tryz.f196,Tryz.func196,by kernel_rfl,by kernel_rfl⟩⟩
instance agY:aS Tryz.prog 197:=⟨⟨Tryz.f197,Tryz.func197,by kernel_rfl,by kernel_rfl⟩⟩
instance agZ:aS Tryz.prog 198:=⟨⟨Tryz.f198,Tryz.func198,by kernel_rfl,by kernel_rfl⟩⟩
end Go.Proofs.YtaipiecplldinaaGreat
namespace Go.aA
def rO:Nat→Value→Value→Prop
 |0, .int k _, .int k' _=>k=k'
 |1, .bool _, .bool _=>True
 |2, .string _, .string _=>True
 |_,_,_=>False
def oU:Value→Bool
 | .agg _=>true
 |_=>false
def vF(P:Program)(d:Nat)(t:TypeId)(jO:Bool)(ks:List Nat):Prop:=
 ∀(w:World) (x y:Value),oU x=jO→oU y=jO→x.cells.size=ks.length→y.cells.size=ks.length→
  (∀(i k:Nat),ks[i]? =some k→ ∃u v,x.cells[i]? =some u∧y.cells[i]? =some v∧rO k u v)→
  ∃r:Bool,(Op.equalIn d t x y).run P w= .ok r w∧(r=true↔ ∀i,i<ks.length→x.cells[i]? =y.cells[i]?)
section
variable {P:Program} {d:Nat} {t:TypeId}
theorem cells_one{x:Value}(h:oU x=false):x.cells= #[x]:=by
 cases x<;>simp_all[oU,Value.cells]
theorem GB{q:IntKind}(hu:P.underlying t=some (.int q)):vF P (d+1) t false [0]:=fun w x y hx hy _ _ hk=>by
 obtain⟨u,v,h1,h2,h3⟩:=hk 0 0 rfl
 rw[cells_one hx]at h1⊢
 rw[cells_one hy]at h2⊢
 simp at h1 h2
 subst h1 h2
 cases x<;>cases y<;>simp only[rO]at h3
 subst h3
 exact⟨_,run_equalIn_int w d t _ q _ _ hu,by simp⟩
theorem UU(hu:P.underlying t=some .bool):vF P (d+1) t false [1]:=fun w x y hx hy _ _ hk=>by
 obtain⟨u,v,h1,h2,h3⟩:=hk 0 1 rfl
 rw[cells_one hx]at h1⊢
 rw[cells_one hy]at h2⊢
 simp at h1 h2
 subst h1 h2
 cases x<;>cases y<;>simp only[rO]at h3
 exact⟨_,run_equalIn_bool' w d t _ _ hu,by simp⟩
theorem My{e:TypeId}{jO:Bool}{n:Nat}(hA: ∃de,P.underlying e=some de∧tk de=jO)(hn:(P.info? e).map (·.size)=some n)(h1:jO=false→n=1)
  {xs:Array Value} {off:Nat} (bu:off+n≤xs.size) (hp: ∀i u,off≤i→i<off+n→xs[i]? =some u→oU u=false) (w:World):
  ∃a,(part e xs off).run P w= .ok a w∧oU a=jO∧a.cells.size=n∧ ∀i,i<n→a.cells[i]? =xs[off+i]? :=by
 obtain⟨de,hu,hr⟩:=hA
 cases jO with
 |true=>
  refine⟨.agg (xs.extract off (off+n)),?_,rfl,by simp[Value.cells];omega,fun i hi=> ?_⟩
  ·
   simp only[part,Sem.run_bind,Bj w hu,hr,Result.andThen_ok,if_true,kT w hn,Sem.run_pure]
  ·
   simp[Value.cells,Array.getElem?_extract]
   intro h;omega
 |false=>
  have:=h1 rfl
  subst this
  have hx:xs[off]? =some xs[off]:=by simp[show off<xs.size by omega]
  have GC:=hp off _ (Nat.le_refl _) (by omega) hx
  refine⟨xs[off],?_,GC,by rw[cells_one GC];rfl,fun i hi=> ?_⟩
  ·
   simp only[part,Sem.run_bind,Bj w hu,hr,Result.andThen_ok,hx,Bool.false_eq_true,if_false,Sem.run_pure]
  ·
   obtain rfl:i=0:=by omega
   rw[cells_one GC,Nat.add_zero,hx];rfl
theorem Mz{k:Nat}{u v:Value}(h:rO k u v):oU u=false∧oU v=false:=by
 unfold rO at h
 split at h<;>simp_all[oU]
structure pR(P:Program)(d:Nat)(e:TypeId)(jO:Bool)(ks:List Nat):Prop where
 row: ∃de,P.underlying e=some de∧tk de=jO
 size:(P.info? e).map (·.size)=some ks.length
 one:jO=false→ks.length=1
 eq:vF P d e jO ks
theorem MA{e:TypeId}{jO:Bool}{ks:List Nat}(he:pR P d e jO ks){xs ys:Array Value}{off:Nat}(hx:off+ks.length≤xs.size)(hy:off+ks.length≤ys.size)
  (hk: ∀(i k:Nat),ks[i]? =some k→ ∃u v,xs[off+i]? =some u∧ys[off+i]? =some v∧rO k u v) (w:World):
  ∃a b r,(part e xs off).run P w= .ok a w∧(part e ys off).run P w= .ok b w∧(Op.equalIn d e a b).run P w= .ok r w∧(r=true↔ ∀i,i<ks.length→xs[off+i]? =ys[off+i]?):=by
 have plain: ∀i,off≤i→i<off+ks.length→ ∃u v k,xs[i]? =some u∧ys[i]? =some v∧rO k u v:=fun i h1 h2=>by
  obtain⟨u,v,h3,h4,h5⟩:=hk (i -off) _ (List.getElem?_eq_getElem (by omega))
  rw[show off+(i -off)=i by omega]at h3 h4
  exact⟨u,v,_,h3,h4,h5⟩
 obtain⟨a,a1,a2,a3,a4⟩:=My he.row he.size he.one hx (fun i u h1 h2 h3=>by
  obtain⟨u',v,k,h4,h5,h6⟩:=plain i h1 h2
  rw[h4]at h3;cases h3;exact(Mz h6).1) w
 obtain⟨b,b1,b2,b3,b4⟩:=My he.row he.size he.one hy (fun i u h1 h2 h3=>by
  obtain⟨u',v,k,h4,h5,h6⟩:=plain i h1 h2
  rw[h5]at h3;cases h3;exact(Mz h6).2) w
 obtain⟨r,r1,r2⟩:=he.eq w a b a2 b2 a3 b3 (fun i k mA=>by
  obtain⟨u,v,h1,h2,h3⟩:=hk i k mA
  have hi:i<ks.length:=(List.getElem?_eq_some_iff.1 mA).1
  exact⟨u,v,by rw[a4 i hi];exact h1,by rw[b4 i hi];exact h2,h3⟩)
 refine⟨a,b,r,a1,b1,r1,r2.trans ⟨fun h i hi=> ?_,fun h i hi=> ?_⟩⟩
 ·
  rw[←a4 i hi,←b4 i hi];exact h i hi
 ·
  rw[a4 i hi,b4 i hi];exact h i hi
theorem MB{e:TypeId}{jO:Bool}{ks:List Nat}(he:pR P d e jO ks){xs ys:Array Value}(w:World): ∀(is:List Nat),
  (∀j∈is,j*ks.length+ks.length≤xs.size∧j*ks.length+ks.length≤ys.size∧ ∀(i k:Nat),ks[i]? =some k→ ∃u v,xs[j*ks.length+i]? =some u∧ys[j*ks.length+i]? =some v∧rO k u v)→
  ∃r:Bool,(Op.eqItems d e ks.length xs ys is).run P w= .ok r w∧(r=true↔ ∀j∈is,∀i,i<ks.length→xs[j*ks.length+i]? =ys[j*ks.length+i]?)
 |[],_=>⟨true,by simp[Op.eqItems],by simp⟩
 |j::is,h=>by
  obtain⟨h1,h2,h3⟩:=h j (by simp)
  obtain⟨a,b,r,p1,p2,p3,sM⟩:=MA he h1 h2 h3 w
  obtain⟨r',GD,GF⟩:=MB he w is (fun j' iQ=>h j' (by simp[iQ]))
  simp only[Op.eqItems,Sem.run_bind,p1,p2,p3,Result.andThen_ok]
  cases r
  ·
   refine⟨false,by simp,?_⟩
   simp only[Bool.false_eq_true,false_iff]
   intro e
   exact absurd (sM.2 (e j (by simp))) (by simp)
  ·
   refine⟨r',by simpa using GD,?_⟩
   rw[GF]
   have:=sM.1 rfl
   constructor
   ·
    intro e j' iQ
    rcases List.mem_cons.1 iQ with rfl|iQ
    ·
     exact this
    ·
     exact e j' iQ
   ·
    intro e j' iQ;exact e j' (by simp[iQ])
theorem xf{ks:List Nat}: ∀{n j i:Nat},j<n→i<ks.length→(List.replicate n ks).flatten[j*ks.length+i]? =ks[i]?
 |0,j,i,h,_=>by omega
 |n+1,0,i,_,hi=>by
  rw[List.replicate_succ,List.flatten_cons,Nat.zero_mul,Nat.zero_add,List.getElem?_append_left hi]
 |n+1,j+1,i,h,hi=>by
  rw[List.replicate_succ,List.flatten_cons,List.getElem?_append_right (by rw[Nat.add_mul];omega),Nat.add_mul,show j*ks.length+1*ks.length+i -ks.length=j*ks.length+i by omega]
  exact xf (by omega) hi
theorem UW{e:TypeId}{n:Nat}{jO:Bool}{ks:List Nat}(hu:P.underlying t=some (.array n e))(he:pR P d e jO ks):vF P (d+1) t true (List.replicate n ks).flatten:=fun w x y hx hy sx sy hk=>by
 cases x<;>simp only[oU,Bool.false_eq_true]at hx
 cases y<;>simp only[oU,Bool.false_eq_true]at hy
 rename_i xs ys
 simp only[Value.cells]at sx sy hk⊢
 have hl:(List.replicate n ks).flatten.length=n*ks.length:=by simp
 rw[hl]at sx sy⊢
 obtain⟨i,hi⟩: ∃i,P.info? e=some i:=by
  cases h:P.info? e with
  |none=>have:=he.size;simp[h]at this
  |some i=>exact⟨i,rfl⟩
 have hc:P.cellsOf e=ks.length:=by have:=he.size;simp[Program.cellsOf,hi]at this⊢;exact this
 have bound: ∀j,j<n→j*ks.length+ks.length≤n*ks.length:=fun j hj=>by
  rw[←Nat.succ_mul];exact Nat.mul_le_mul_right _ hj
 obtain⟨r,hr,sM⟩:=MB he (xs:=xs) (ys:=ys) w (List.range n) (fun j hj=>by
  have iQ:=List.mem_range.1 hj
  have:=bound j iQ
  refine⟨by omega,by omega,fun i k mA=> ?_⟩
  have eX:i<ks.length:=(List.getElem?_eq_some_iff.1 mA).1
  exact hk (j*ks.length+i) k (by rw[xf iQ eX];exact mA))
 refine⟨r,by rw[run_equalIn_array w d xs ys hu hi,hc];exact hr,sM.trans ⟨fun h q hq=> ?_,fun h j hj i hi=> ?_⟩⟩
 ·
  have xv:0<ks.length:=by
   rcases Nat.eq_zero_or_pos ks.length with h0|h0
   ·
    rw[h0]at hq;omega
   ·
    exact h0
  have h1:q/ks.length<n:=Nat.div_lt_of_lt_mul (by rw[Nat.mul_comm];exact hq)
  have h2:=h (q/ks.length) (List.mem_range.2 h1) (q%ks.length) (Nat.mod_lt _ xv)
  rw[Nat.div_add_mod']at h2
  exact h2
 ·
  have:=bound j (List.mem_range.1 hj)
  exact h _ (by omega)
def CX(P:Program)(d:Nat):Nat→List Field→List Nat→Prop
 |_,[],ks=>ks=[]
 |off,f::fs,ks=>f.name≠ "_" ∧f.offset=off∧ ∃jO k1 k2,ks=k1++k2∧pR P d f.type jO k1∧CX P d (off+k1.length) fs k2
theorem MC{xs ys:Array Value}(w:World): ∀(fs:List Field) (off:Nat) (ks:List Nat),CX P d off fs ks→off+ks.length≤xs.size→off+ks.length≤ys.size→
  (∀(i k:Nat),ks[i]? =some k→ ∃u v,xs[off+i]? =some u∧ys[off+i]? =some v∧rO k u v)→
  ∃r:Bool,(Op.eqFields d xs ys fs).run P w= .ok r w∧(r=true↔ ∀i,i<ks.length→xs[off+i]? =ys[off+i]?)
 |[],off,ks,h,_,_,_=>by
  simp only[CX]at h
  subst h
  exact⟨true,by simp[Op.eqFields],by simp⟩
 |f::fs,off,ks,h,hx,hy,hk=>by
  obtain⟨hn,ho,jO,k1,k2,rfl,hp,BU⟩:=h
  simp only[List.length_append]at hx hy
  obtain⟨a,b,r,p1,p2,p3,sM⟩:=MA hp (xs:=xs) (ys:=ys) (off:=off) (by omega) (by omega) (fun i k mA=>by
   have hi:i<k1.length:=(List.getElem?_eq_some_iff.1 mA).1
   exact hk i k (by rw[List.getElem?_append_left hi];exact mA)) w
  obtain⟨r',GD,GF⟩:=MC (xs:=xs) (ys:=ys) w fs (off+k1.length) k2 BU (by omega) (by omega) (fun i k mA=>by
   have:=hk (k1.length+i) k (by rw[List.getElem?_append_right (by omega)];simpa using mA)
   rw[Nat.add_assoc];exact this)
  subst ho
  simp only[Op.eqFields,hn,ne_eq,not_false_eq_true,if_true,Sem.run_bind,p1,p2,p3,Result.andThen_ok]
  cases r
  ·
   refine⟨false,by simp,?_⟩
   simp only[Bool.false_eq_true,false_iff]
   intro e
   exact absurd (sM.2 fun i hi=>e i (by simp;omega)) (by simp)
  ·
   refine⟨r',by simpa using GD,?_⟩
   rw[GF]
   have:=sM.1 rfl
   simp only[List.length_append]
   constructor
   ·
    intro e i hi
    by_cases h1:i<k1.length
    ·
     exact this i h1
    ·
     have:=e (i -k1.length) (by omega)
     rw[show f.offset+k1.length+(i -k1.length)=f.offset+i by omega]at this
     exact this
   ·
    intro e i hi
    have:=e (k1.length+i) (by omega)
    rw[Nat.add_assoc];exact this
theorem GG{fs:Array Field}{ks:List Nat}(hu:P.underlying t=some (.struct fs))(hp:P.stoodInHeld t=false)(hf:CX P d 0 fs.toList ks):vF P (d+1) t true ks:=fun w x y hx hy sx sy hk=>by
 cases x<;>simp only[oU,Bool.false_eq_true]at hx
 cases y<;>simp only[oU,Bool.false_eq_true]at hy
 rename_i xs ys
 simp only[Value.cells]at sx sy hk⊢
 have ku:P.fieldsOf t=fs:=by simp[Program.fieldsOf,hu]
 obtain⟨r,hr,sM⟩:=MC (xs:=xs) (ys:=ys) w fs.toList 0 ks hf (by omega) (by omega) (fun i k mA=>by
  have:=hk i k mA
  simpa using this)
 refine⟨r,?_,by simpa using sM⟩
 rw[run_equalIn_struct w d t xs ys (by rw[ku];exact hu) hp,ku]
 exact hr
theorem vF.val{jO:Bool}{ks:List Nat}(h:vF P 10000 t jO ks)(hA:jO=true)(hg:P.eqGuardType P.depth t=false){xs ys:Array Value}{r:Bool}(sx:xs.size=ks.length)(sy:ys.size=ks.length)
  (hk: ∀(i k:Nat),ks[i]? =some k→ ∃u v,xs[i]? =some u∧ys[i]? =some v∧rO k u v) (hr:xs=ys↔r=true):uO P t (.agg xs) (.agg ys) r where
 h w:=by
  subst hA
  obtain⟨q,h1,h2⟩:=h w (.agg xs) (.agg ys) rfl rfl sx sy hk
  have:q=r:=by
   rw[Bool.eq_iff_iff,h2,←hr]
   simp only[Value.cells]
   constructor
   ·
    intro e
    apply Array.ext_getElem?
    intro i
    by_cases hi:i<ks.length
    ·
     exact e i hi
    ·
     simp[show ¬i<xs.size by omega,show ¬i<ys.size by omega]
   ·
    rintro rfl i _;rfl
  rw[h1,this]
 plain:=hg
 agg:=⟨xs,ys,rfl,rfl⟩
end
end Go.aA
namespace Go.Proofs.YtaipiecplldinaaGreat
open Go.aA Go.Kb
instance (k:Key):gm (cT k) 16:=⟨gS k,by
 rw[Array.all_eq_true_iff_forall_mem];intro v hv
 simp only[cT,List.mem_toArray,List.mem_map]at hv
 obtain⟨i,_,rfl⟩:=hv;rfl⟩
instance (p:cJ):gm (da p) 18:=⟨oG p,by
 have h:(cT p.key).all (·.oneCell')=true:=(inferInstance:gm (cT p.key) 16).one
 rw[da,Array.all_append,h];simp[Value.oneCell']⟩
instance (p:cJ):cw (da p) 0 (.int .i64 p.bits):=⟨ve p⟩
instance (p:cJ):cw (da p) 1 (.int .i64 p.len):=⟨vf p⟩
instance (p:cJ):oA (da p) 2 16 (cT p.key):=⟨gS _,fun j _=>ql p j⟩
theorem MD(d:Nat):pR Tryz.prog (d+1) 5 false [0]:=⟨⟨_,Tryz.underlying5,rfl⟩,by kernel_rfl,fun _=>rfl,GB Tryz.underlying5⟩
theorem GH(d:Nat):pR Tryz.prog (d+1) 3 false [0]:=⟨⟨_,Tryz.underlying3,rfl⟩,by kernel_rfl,fun _=>rfl,GB Tryz.underlying3⟩
theorem ME(d:Nat):pR Tryz.prog (d+1+1) 56 true (List.replicate 16 [0]).flatten:=⟨⟨_,Tryz.underlying56,rfl⟩,by kernel_rfl,(fun h=>by cases h),UW Tryz.underlying56 (MD d)⟩
theorem UX:Tryz.prog.stoodInHeld 65=false:=by kernel_rfl
theorem MF(d:Nat):pR Tryz.prog (d+1+1+1) 65 true ([0]++([0]++((List.replicate 16 [0]).flatten++[]))):=⟨⟨_,Tryz.underlying65,rfl⟩,by kernel_rfl,(fun h=>by cases h),
 GG Tryz.underlying65 UX ⟨by decide,rfl,_,_,_,rfl,GH _,by decide,rfl,_,_,_,rfl,GH _,by decide,rfl,_,_,_,rfl,ME _,rfl⟩⟩
theorem UY:Tryz.prog.eqGuardType Tryz.prog.depth 56=false:=by kernel_rfl
theorem UZ:Tryz.prog.eqGuardType Tryz.prog.depth 65=false:=by kernel_rfl
instance (a b:Key):uO Tryz.prog 56 (.agg (cT a)) (.agg (cT b)) (decide (a=b)):=
 (ME 9998).eq.val rfl UY (gS a) (gS b) (fun i k hk=>by
  have hi:i<16:=(List.getElem?_eq_some_iff.1 hk).1
  have h0:k=0:=by
   have:k∈(List.replicate 16 [0]).flatten:=List.mem_of_getElem? hk
   simpa using this
  subst h0
  exact⟨_,_,lU a i hi,lU b i hi,rfl⟩) (by rw[decide_eq_true_iff];exact⟨JN,fun h=>by rw[h]⟩)
instance (a b:cJ):uO Tryz.prog 65 (.agg (da a)) (.agg (da b)) (decide (a=b)):=
 (MF 9997).eq.val rfl UZ (oG a) (oG b) (fun i k hk=>by
  have h0:k=0:=by
   have:k∈([0]++([0]++((List.replicate 16 [0]).flatten++[]))):=List.mem_of_getElem? hk
   simpa using this
  subst h0
  have hi:i<18:=(List.getElem?_eq_some_iff.1 hk).1
  match i,hi with
  |0,_=>exact⟨_,_,ve a,ve b,rfl⟩
  |1,_=>exact⟨_,_,vf a,vf b,rfl⟩
  |j+2,hi=>rw[Nat.add_comm j 2];exact⟨_,_,(ql a j).trans (lU _ j (by omega)),(ql b j).trans (lU _ j (by omega)),rfl⟩) (by rw[decide_eq_true_iff];exact⟨JO,fun h=>by rw[h]⟩)
theorem vG:cT 0#128=(List.replicate 16 (Value.int .u8 0)).toArray:=by
 apply Array.ext'
 simp only[cT]
 refine List.eq_replicate_iff.2 ⟨by simp,fun v hv=> ?_⟩
 simp only[List.mem_map]at hv
 obtain⟨i,_,rfl⟩:=hv
 simp[cM]
instance (n m:Int)(k:Key):yT Tryz.prog 65 [(0, .int .i64 n),(1, .int .i64 m),(2, .agg (cT k))] (.agg (da ⟨n,m,k⟩)):=⟨fun w=>by kernel_rfl⟩
instance:fk Tryz.prog 56 (.agg (cT 0#128)):=⟨by rw[vG];kernel_rfl⟩
instance:fk Tryz.prog 65 (.agg (da ⟨0,0,0#128⟩)):=⟨by unfold da;rw[vG];kernel_rfl⟩
open Go.aA Go.Kb
theorem U0(n:Int):pj Tryz.prog 116 [.int .i64 n] (.bool (decide (n=32)||decide (n=128))):=⟨fun w=>by
 refine ba (args:=[_]) Tryz.func116 rfl Tryz.ntmps116 rfl ?_
 change Cw _ _ _ _ _ [(0, .int .i64 n)] []
 refine aP ?_
 refine aZ ?_
 refine ag (bp rfl) ?_
 refine aY ?_
 refine aO ?_
 refine aP ?_
 refine aZ ?_
 refine ag (aE rfl) ?_
 refine ag (ck rfl rfl rfl) ?_
 refine ag (aE rfl) ?_
 refine bM rfl rfl rfl (fun hg=>(aE rfl).yl) ?_
 refine bM rfl rfl rfl (fun hg=>(ck (aG hg rfl) rfl rfl).yl) ?_
 refine ag (mY rfl rfl rfl) ?_
 refine ag (bp rfl) ?_
 refine aY ?_
 refine aO ?_
 refine eK ?_
 refine aq (.inl rfl) (kA rfl rfl) (fun w hw=> ?_)
 exact⟨rfl,hw.sub (List.nil_sublist _)⟩⟩
instance ag0(n:Int):pj Tryz.prog 116 [.int .i64 n] (.bool (decide (n=32)||decide (n=128))):=U0 n
theorem U1(k:Key)(h:Nat)(hh:h≤16):cW (cT 0#128) 0 ((cT k).extract 0 h)=cT (eu k ((8*h:Nat):Int)):=by
 refine JM (by simp[cW,gS];omega) fun i hi=> ?_
 have hl:((cT k).extract 0 h).size=h:=by simp[gS];omega
 rw[EN k (8*h) i hi]
 simp only[cW,hl,List.take_zero,List.nil_append,Nat.zero_add,List.getElem?_toArray]
 by_cases h1:i<h
 ·
  rw[List.getElem?_append_left (by simp[gS];omega),if_pos (by omega)]
  have:=lU k i hi
  simpa[h1]using this
 ·
  rw[List.getElem?_append_right (by simp[gS];omega),if_neg (by omega)]
  have h2:(cT 0#128)[i]? =some (.int .u8 ((0:Nat):Int)):=by rw[lU _ i hi];simp[cM]
  simp only[Array.length_toList,hl,List.getElem?_drop,show h+(i -h)=i by omega]
  rw[Array.getElem?_toList,h2]
  by_cases h3:8*i≤8*h
  ·
   rw[if_pos h3,show 8 -(8*h -8*i)=8 by omega,Nat.div_eq_of_lt (oE k i),Nat.zero_mul]
  ·
   rw[if_neg h3]
theorem U2(b r:Nat)(hb:b<256)(hr:r≤8):lu .andNot .u8 b ((255/2^r:Nat):Int)=some (.int .u8 ((b/2^(8 -r)*2^(8 -r):Nat):Int)):=by
 have hm:255/2^r<256:=Nat.lt_of_le_of_lt (Nat.div_le_self _ _) (by omega)
 rw[QW hb hm]
 have key:b&&&(256 -1 -255/2^r)=b/2^(8 -r)*2^(8 -r):=by
  have e1:255/2^r=2^(8 -r) -1:=by
   match r,hr with
   |0,_|1,_|2,_|3,_|4,_|5,_|6,_|7,_|8,_=>rfl
   |n+9,h=>omega
  rw[e1]
  apply Nat.eq_of_testBit_eq
  intro j
  have e2:256 -1 -(2^(8 -r) -1)=2^8 -(2^(8 -r) -1+1):=by omega
  rw[Nat.testBit_and,e2,Nat.testBit_two_pow_sub_succ (by have:2^(8 -r)≤2^8:=Nat.pow_le_pow_right (by decide) (by omega);have:=Nat.two_pow_pos (8 -r);omega),Nat.testBit_two_pow_sub_one,Nat.testBit_mul_two_pow,Nat.testBit_div_two_pow]
  by_cases hj:8 -r≤j
  ·
   simp only[hj,show ¬j<8 -r by omega,decide_true,decide_false,Bool.not_false,Bool.and_true,Bool.true_and,show j -(8 -r)+(8 -r)=j by omega]
   by_cases h8:j<8
   ·
    simp[h8]
   ·
    have:b.testBit j=false:=Nat.testBit_lt_two_pow (Nat.lt_of_lt_of_le hb (by have:=Nat.pow_le_pow_right (n:=2) (by decide) (show 8≤j by omega);simpa using this))
    simp[this]
  ·
   simp[hj,show j<8 -r by omega]
 show some (Value.int .u8 ((b&&&(256 -1 -255/2^r):Nat):Int))=_
 rw[key]
theorem U3(k:Key)(n:Int)(h0:1≤n)(h1:n<128)(h2:0<n%8):(cT (eu k ((8*(n/8).toNat:Nat):Int))).setIfInBounds (n/8).toNat (.int .u8 ((cM k (n/8).toNat/2^(8 -(n%8).toNat)*2^(8 -(n%8).toNat):Nat):Int))=cT (eu k n):=by
 have hb:=oE k (n/8).toNat
 rw[RN _ _ _ (by omega) (Nat.lt_of_le_of_lt (Nat.div_mul_le_self _ _) hb)]
 congr 1
 refine zb fun i hi=> ?_
 rw[JK _ _ _ i hi (Nat.lt_of_le_of_lt (Nat.div_mul_le_self _ _) hb),EN k _ i hi]
 have e:eu k n=eu k ((n.toNat:Nat):Int):=by rw[Int.toNat_of_nonneg (by omega)]
 rw[e,EN k n.toNat i hi]
 by_cases hj:i=(n/8).toNat
 ·
  rw[if_pos hj,if_neg (by omega),if_pos (by omega),hj,show n.toNat -8*(n/8).toNat=(n%8).toNat by omega]
 ·
  rw[if_neg hj]
  by_cases bu:i<(n/8).toNat
  ·
   rw[if_pos (by omega),if_pos (by omega)]
  ·
   rw[if_neg (by omega),if_neg (by omega),if_neg (by omega),if_neg (by omega)]
theorem U4(k:Key)(n:Int)(h0:1≤n)(h2: ¬0<n%8):eu k ((8*(n/8).toNat:Nat):Int)=eu k n:=by
 congr 1;omega
theorem U5(k:Key)(n:Int):pj Tryz.prog 79 [.agg (cT k), .int .i64 n] (.agg (cT (eu k n))):=⟨fun w=>by
 refine ba (args:=[_,_]) Tryz.func79 rfl Tryz.ntmps79 rfl ?_
 change Cw _ _ _ _ _ [(0, .agg (cT k)),(1, .int .i64 n)] []
 refine aP ?_
 refine aZ ?_
 refine bY rfl fun b2=> ?_
 refine bH fun b4=> ?_
 refine aY ?_
 refine aO ?_
 refine aP ?_
 refine aP ?_
 refine aZ ?_
 refine ag (aE rfl) ?_
 refine ag (ck rfl rfl rfl) ?_
 refine aY ?_
 refine aO ?_
 refine au rfl (fun h0=> ?_) (fun h0=> ?_)
 ·
  have h0:=of_decide_eq_true h0
  refine aP ?_
  refine aZ ?_
  refine ag (eJ rfl) ?_
  refine rb rfl rfl ?_
  refine aY ?_
  refine aO ?_
  refine eK ?_
  refine fm ?_
  refine aq (.inl rfl) (Bv rfl rfl) (fun w hw=> ?_)
  exact⟨by rw[RO k n (by omega)],hw.sub (List.nil_sublist _)⟩
 ·
  have h0:=of_decide_eq_false h0
  refine gf ?_
  refine aO ?_
  refine aP ?_
  refine aZ ?_
  refine bH fun b5=> ?_
  refine aY ?_
  refine aO ?_
  refine aP ?_
  refine aP ?_
  refine aZ ?_
  refine ag (aE rfl) ?_
  refine ag (ck rfl rfl rfl) ?_
  refine aY ?_
  refine aO ?_
  refine au rfl (fun h1=> ?_) (fun h1=> ?_)
  ·
   have h1:=of_decide_eq_true h1
   refine aP ?_
   refine aZ ?_
   refine ag (eJ rfl) ?_
   refine rb rfl rfl ?_
   refine aY ?_
   refine aO ?_
   refine eK ?_
   refine fm ?_
   refine aq (.inl rfl) (Bv rfl rfl) (fun w hw=> ?_)
   exact⟨by rw[RP k n (by omega)],hw.sub (List.nil_sublist _)⟩
  ·
   have h1:=of_decide_eq_false h1
   refine gf ?_
   refine aO ?_
   refine aP ?_
   refine aZ ?_
   refine ag (aE rfl) ?_
   refine ag (oB rfl rfl (by omega) (by omega)) ?_
   refine ag (bp rfl) ?_
   refine aY ?_
   refine aO ?_
   refine aP ?_
   refine uV 4 [] (by kernel_rfl) (by kernel_rfl) ?_
   simp only[List.take_succ_cons,List.take_zero]
   refine bf (aE rfl) ?_
   refine bf (Jj rfl rfl (by omega) (by omega)) ?_
   refine bf (aE rfl) ?_
   refine bf (Jj rfl rfl (by omega) (by omega)) ?_
   refine tm ?_
   refine tn ?_
   simp only[List.drop_succ_cons,List.drop_zero]
   refine Ev (vs:=(cT k).extract 0 (n/8).toNat) rfl rfl (by have e:Nat.min (n/8).toNat (n/8).toNat=(n/8).toNat:=Nat.min_self _;rw[e,Array.size_extract,gS];omega) (fun w hw j hj=>by rw[Addr.gC,hw.cell (Has.h (b:=b2)),Nat.zero_add];simp at hj;simp[hj]) (Q1 (gm.one (cs:=cT k)) _ _) (by rw[Array.size_extract,gS,gS];omega) (U1 k _ (by omega)) ?_
   refine aY ?_
   refine aO ?_
   refine aP ?_
   refine aP ?_
   refine aZ ?_
   refine ag (aE rfl) ?_
   refine ag (yR rfl rfl (by omega) (by omega)) ?_
   refine ag (bp rfl) ?_
   refine aY ?_
   refine aO ?_
   refine aP ?_
   refine aZ ?_
   refine ag (aE rfl) ?_
   refine ag (ck rfl rfl rfl) ?_
   refine aY ?_
   refine aO ?_
   refine au rfl (fun h2=> ?_) (fun h2=> ?_)
   ·
    have h2:=of_decide_eq_true h2
    refine uV 8 [] (by kernel_rfl) (by kernel_rfl) ?_
    simp only[List.take_succ_cons,List.take_zero]
    refine bf (aE rfl) ?_
    refine bf (aE rfl) ?_
    refine bf (sf rfl rfl (by omega) (by omega)) ?_
    refine bf (Jd rfl (lU _ _ (by omega))) ?_
    refine bf (aE rfl) ?_
    refine bf (uT (p:=255) rfl rfl (by decide) (by omega)) ?_
    refine bf (ck rfl rfl (U2 _ _ (oE _ _) (by omega))) ?_
    refine bf (sf rfl rfl (by omega) (by omega)) ?_
    refine tm ?_
    refine tn ?_
    simp only[List.drop_succ_cons,List.drop_zero]
    refine eV rfl rfl (by rw[gS];omega) rfl (U3 k n (by omega) (by omega) h2) ?_
    refine aY ?_
    refine aO ?_
    refine aP ?_
    refine aZ ?_
    refine ag (eJ rfl) ?_
    refine rb rfl rfl ?_
    refine aY ?_
    refine aO ?_
    refine eK ?_
    refine aq (.inl rfl) (Bv rfl rfl) (fun w hw=> ?_)
    exact⟨rfl,hw.sub (List.nil_sublist _)⟩
   ·
    have h2:=of_decide_eq_false h2
    refine gf ?_
    refine aO ?_
    refine aP ?_
    refine aZ ?_
    refine ag (eJ rfl) ?_
    refine rb rfl rfl ?_
    refine aY ?_
    refine aO ?_
    refine eK ?_
    refine aq (.inl rfl) (Bv rfl rfl) (fun w hw=> ?_)
    exact⟨by rw[U4 k n (by omega) h2],hw.sub (List.nil_sublist _)⟩⟩
instance ag1(k:Key)(n:Int):pj Tryz.prog 79 [.agg (cT k), .int .i64 n] (.agg (cT (eu k n))):=U5 k n
theorem U6(p:cJ):pj Tryz.prog 78 [.agg (da p)] (.bool (cq p)):=⟨fun w=>by
 refine ba (args:=[_]) Tryz.func78 rfl Tryz.ntmps78 rfl ?_
 change Cw _ _ _ _ _ [(0, .agg (da p))] []
 refine aP ?_
 refine aZ ?_
 refine bY rfl fun b1=> ?_
 refine ag (bp rfl) ?_
 refine aY ?_
 refine aO ?_
 refine aP ?_
 refine aP ?_
 refine aZ ?_
 refine ag (aI (o':=0) rfl rfl) ?_
 refine ag (bJ rfl) ?_
 refine fH (wy rfl) ?_
 refine ag (iq rfl) ?_
 refine ag (aE rfl) ?_
 refine bM rfl rfl rfl (fun hg=>(aI (o':=1) rfl rfl).yl) ?_
 refine bM rfl rfl rfl (fun hg=>(bJ (aG hg rfl)).yl) ?_
 refine bM rfl rfl rfl (fun hg=>(ck (aG hg rfl) rfl rfl).yl) ?_
 refine ag (mY rfl rfl rfl) ?_
 refine ag (aE rfl) ?_
 refine bM rfl rfl rfl (fun hg=>(aI (o':=1) rfl rfl).yl) ?_
 refine bM rfl rfl rfl (fun hg=>(bJ (aG hg rfl)).yl) ?_
 refine bM rfl rfl rfl (fun hg=>(aI (o':=0) rfl rfl).yl) ?_
 refine bM rfl rfl rfl (fun hg=>(bJ (aG hg rfl)).yl) ?_
 refine bM rfl rfl rfl (fun hg=>(ck (aG hg rfl) (aG hg rfl) rfl).yl) ?_
 refine ag (mY rfl rfl rfl) ?_
 refine aY ?_
 refine aO ?_
 refine au rfl (fun h0=> ?_) (fun h0=> ?_)
 ·
  refine aP ?_
  refine aZ ?_
  refine ag (bp rfl) ?_
  refine aY ?_
  refine aO ?_
  refine eK ?_
  refine fm ?_
  refine aq (.inl rfl) (kA rfl rfl) (fun w hw=> ?_)
  refine⟨?_,hw.sub (List.nil_sublist _)⟩
  have:cq p=false:=by unfold cq;simp at h0⊢;omega
  rw[this]
 ·
  refine gf ?_
  refine aO ?_
  refine aP ?_
  refine hG (by kernel_rfl) (by kernel_rfl) ?_
  refine bf (aI (o':=2) rfl rfl) ?_
  refine bf (gD rfl) ?_
  refine bf (aI (o':=1) rfl rfl) ?_
  refine bf (bJ rfl) ?_
  refine tp (wy rfl) ?_
  refine bf (aI (o':=2) rfl rfl) ?_
  refine bf (gD rfl) ?_
  refine bf (Bp rfl rfl) ?_
  refine bf (bp rfl) ?_
  refine wA ?_
  refine aO ?_
  refine eK ?_
  refine aq (.inl rfl) (kA rfl rfl) (fun w hw=> ?_)
  refine⟨?_,hw.sub (List.nil_sublist _)⟩
  congr 2;unfold cq;simp at h0⊢;obtain⟨⟨h1,h2⟩,h3⟩:=h0;simp[h2,h3,show p.bits=32∨p.bits=128 by omega]⟩
instance ag2(p:cJ):pj Tryz.prog 78 [.agg (da p)] (.bool (cq p)):=U6 p
open Go.aA Go.Kb
open Go.RowKit
def qL(k:Key):List Int:=(List.range 16).map fun i=>(cM k i:Int)
theorem MG(k:Key)(j:Nat)(x:Int)(h:(qL k)[j]? =some x):j<16∧x=cM k j:=by
 have hl:j<16:=by have:=(List.getElem?_eq_some_iff.1 h).1;simpa[qL]using this
 refine⟨hl,?_⟩
 simp[qL,hl]at h
 exact h.symm
theorem U7{x y:UInt8}{xs ys:List UInt8}:Lib.compareBytes (x::xs) (y::ys)=if x.toNat<y.toNat then -1 else if y.toNat<x.toNat then 1 else Lib.compareBytes xs ys:=by
 simp[Lib.compareBytes,UInt8.lt_iff_toNat_lt]
theorem MH(a b:Key): ∀(n i:Nat),i+n=16→(∀j,j<i→cM a j=cM b j)→
  Lib.compareBytes ((List.range' i n).map fun j=>(cM a j).toUInt8) ((List.range' i n).map fun j=>(cM b j).toUInt8)=px a b
 |0,i,hi,hs=>by
  have:a=b:=zb fun j hj=>hs j (by omega)
  subst this
  simp[Lib.compareBytes,px]
 |n+1,i,hi,hs=>by
  have ha:=oE a i
  have hb:=oE b i
  rw[List.range'_succ,List.map_cons,List.map_cons,U7]
  have ea:(cM a i).toUInt8.toNat=cM a i:=by simp;omega
  have eb:(cM b i).toUInt8.toNat=cM b i:=by simp;omega
  rw[ea,eb]
  by_cases h1:cM a i<cM b i
  ·
   rw[if_pos h1]
   have:=JQ (by omega) hs h1
   unfold px;rw[if_pos this]
  ·
   rw[if_neg h1]
   by_cases h2:cM b i<cM a i
   ·
    rw[if_pos h2]
    have:=JQ (by omega) (fun j hj=>(hs j hj).symm) h2
    unfold px;rw[if_neg (by omega),if_pos this]
   ·
    rw[if_neg h2]
    exact MH a b n (i+1) (by omega) fun j hj=>by
     by_cases e:j=i
     ·
      subst e;omega
     ·
      exact hs j (by omega)
theorem MI(k:Key):(⟨ByteArray.empty.data++(Lib.bytesOf (qL k)).toArray⟩:ByteArray).data.toList=(List.range' 0 16).map fun j=>(cM k j).toUInt8:=by
 simp[Lib.bytesOf,qL,List.range_eq_range']
theorem U8(a b:Key)(p q:Addr)(c c':Nat)(w:World)(hp: ∀j,j<16→w.cell? (p.add j)=some (.int .u8 (cM a j)))(hq: ∀j,j<16→w.cell? (q.add j)=some (.int .u8 (cM b j))):
  Calls Tryz.prog 119 [.slice (some p) 16 c, .slice (some q) 16 c'].toArray w fun e w'=>e= .returned (.int .i64 (px a b))∧Mem w [] w':=by
 refine ba (args:=[_,_]) Tryz.func119 rfl Tryz.ntmps119 rfl ?_
 change Cw _ _ _ _ _ [(0, .slice (some p) 16 c),(1, .slice (some q) 16 c')] []
 refine aP ?_
 refine aZ ?_
 refine ag (bp rfl) ?_
 refine aY ?_
 refine aO ?_
 refine aP ?_
 refine aZ ?_
 refine ag (aE rfl) ?_
 refine ag (aE rfl) ?_
 refine ag (v:= .int .i64 (px a b)) ?_ ?_
 ·
  intro aa w1 ha hw
  have qM: ∀j,j<16→w1.cell? (p.add j)=some (.int .u8 (cM a j)):=fun j hj=>by
   rw[←hp j hj];exact hw.below.cell (block_lt_of_cell (hp j hj))
  have U9: ∀j,j<16→w1.cell? (q.add j)=some (.int .u8 (cM b j)):=fun j hj=>by
   rw[←hq j hj];exact hw.below.cell (block_lt_of_cell (hq j hj))
  have r1:=Lib.run_loadBytesX (P:=Tryz.prog) w1 (qL a) p .empty (fun j x hx=>by obtain⟨h1,rfl⟩:=MG a j x hx;exact qM j h1)
  have r2:=Lib.run_loadBytesX (P:=Tryz.prog) w1 (qL b) q .empty (fun j x hx=>by obtain⟨h1,rfl⟩:=MG b j x hx;exact U9 j h1)
  have l1:(qL a).length=16:=by simp[qL]
  have l2:(qL b).length=16:=by simp[qL]
  rw[l1]at r1
  rw[l2]at r2
  have e5:=ha.ev (x:= .tmp 5) (v:= .slice (some p) 16 c) rfl
  have e6:=ha.ev (x:= .tmp 6) (v:= .slice (some q) 16 c') rfl
  have fX:(callFunc 143 #[.slice (some p) 16 c, .slice (some q) 16 c']).run Tryz.prog w1= .ok (.value (.int .i64 (px a b))) w1:=by
   rw[run_callFunc_extern Tryz.func143 (by kernel_rfl) (by kernel_rfl) (by kernel_rfl) (e:=Extern.BytealgCompare.compare) (by kernel_rfl)]
   have:(Extern.BytealgCompare.compare #[.slice (some p) 16 c, .slice (some q) 16 c']).run Tryz.prog w1= .ok (.int .i64 (px a b)) w1:=by
    change Sem.run Tryz.prog (do pure (goInt (Extern.BytealgCompare.cmp (←Extern.Bytes.bytesOf (.slice (some p) 16 c)) (←Extern.Bytes.bytesOf (.slice (some q) 16 c'))))) w1=_
    simp only[Extern.Bytes.bytesOf,Sem.run_bind,r1,r2,Sem.run_pure,Result.andThen]
    rw[Lib.cmp_eq,MI,MI,MH a b 16 0 rfl (fun j h=>by omega)]
    rfl
   rw[this];rfl
  simp[execOp,resolve,Act.eval,Deferred.ofValue,invoke]at e5 e6⊢
  rw[e5,e6,fX]
 refine ag (bp rfl) ?_
 refine aY ?_
 refine aO ?_
 refine eK ?_
 refine aq (.inl rfl) (kA rfl rfl) (fun w hw=> ?_)
 exact⟨rfl,hw.sub (List.nil_sublist _)⟩
open Go.aA Go.Kb
open Go.RowKit
theorem MJ{w0 w:World}{L:List ai}{b:Nat}{p:cJ}{T:TypeId}{i:Nat}(hw:Mem w0 L w)[hh:Has L b (da p) T i](j:Nat)(hj:j<16):w.cell? ((⟨b,2,none⟩:Addr).add j)=some (.int .u8 (cM p.key j)):=by
 rw[Addr.gC,hw.cell hh.h,ql,lU _ j hj]
theorem GI{p q:cJ}(h1:cq p=true)(h2:cq q=true):dL p q=(if p.bits≠q.bits then decide (p.bits=32)else if p.key≠q.key then decide (p.key.toNat<q.key.toNat)else decide (p.len<q.len)):=by
 unfold dL;rw[h1,h2];rfl
theorem Va(p q:cJ):pj Tryz.prog 81 [.agg (da p), .agg (da q)] (.bool (dL p q)):=⟨fun w=>by
 refine ba (args:=[_,_]) Tryz.func81 rfl Tryz.ntmps81 rfl ?_
 change Cw _ _ _ _ _ [(0, .agg (da p)),(1, .agg (da q))] []
 refine aP ?_
 refine aZ ?_
 refine bY rfl fun b2=> ?_
 refine bY rfl fun b3=> ?_
 refine ag (bp rfl) ?_
 refine aY ?_
 refine aO ?_
 refine aP ?_
 refine aP ?_
 refine aZ ?_
 refine ag (eJ rfl) ?_
 refine fH (wy rfl) ?_
 refine ag (iq rfl) ?_
 refine ag (aE rfl) ?_
 refine bM rfl rfl rfl (fun hg=>(eJ rfl).yl) ?_
 refine bM rfl rfl rfl (fun hg=>wy (dy (aG hg rfl) gB)) ?_
 refine bM rfl rfl rfl (fun hg=>(iq (aG hg rfl)).yl) ?_
 refine ag (mY rfl rfl rfl) ?_
 refine aY ?_
 refine aO ?_
 refine au rfl (fun h0=> ?_) (fun h0=> ?_)
 ·
  simp at h0
  refine aP ?_
  refine aZ ?_
  refine ag (bp rfl) ?_
  refine aY ?_
  refine aO ?_
  refine eK ?_
  refine fm ?_
  refine aq (.inl rfl) (kA rfl rfl) (fun w hw=> ?_)
  refine⟨?_,hw.sub (List.nil_sublist _)⟩
  have:dL p q=false:=by unfold dL;cases h1:cq p<;>cases h2:cq q<;>simp_all
  rw[this]
 ·
  simp at h0
  obtain⟨m1,m2⟩:=h0
  refine gf ?_
  refine aO ?_
  refine aP ?_
  refine aP ?_
  refine aZ ?_
  refine ag (aI (o':=0) rfl rfl) ?_
  refine ag (bJ rfl) ?_
  refine ag (aI (o':=0) rfl rfl) ?_
  refine ag (bJ rfl) ?_
  refine ag (ck rfl rfl rfl) ?_
  refine aY ?_
  refine aO ?_
  refine au rfl (fun h1=> ?_) (fun h1=> ?_)
  ·
   simp at h1
   refine aP ?_
   refine aZ ?_
   refine ag (aI (o':=0) rfl rfl) ?_
   refine ag (bJ rfl) ?_
   refine ag (ck rfl rfl rfl) ?_
   refine ag (bp rfl) ?_
   refine aY ?_
   refine aO ?_
   refine eK ?_
   refine fm ?_
   refine aq (.inl rfl) (kA rfl rfl) (fun w hw=> ?_)
   exact⟨by rw[GI m1 m2,if_pos h1],hw.sub (List.nil_sublist _)⟩
  ·
   simp at h1
   refine gf ?_
   refine aO ?_
   refine aP ?_
   refine aP ?_
   refine hG (by kernel_rfl) (by kernel_rfl) ?_
   refine bf (aI (o':=2) rfl rfl) ?_
   refine bf (uR rfl) ?_
   refine bf (aI (o':=2) rfl rfl) ?_
   refine bf (uR rfl) ?_
   refine tp (Bn rfl (fun w hw=>U8 p.key q.key _ _ _ _ w (MJ hw) (MJ hw))) ?_
   refine bf (bp rfl) ?_
   refine wA ?_
   refine aO ?_
   refine aP ?_
   refine aZ ?_
   refine ag (aE rfl) ?_
   refine ag (ck rfl rfl rfl) ?_
   refine aY ?_
   refine aO ?_
   refine au rfl (fun h2=> ?_) (fun h2=> ?_)
   ·
    simp at h2
    refine aP ?_
    refine aZ ?_
    refine ag (aE rfl) ?_
    refine ag (ck rfl rfl rfl) ?_
    refine ag (bp rfl) ?_
    refine aY ?_
    refine aO ?_
    refine eK ?_
    refine fm ?_
    refine aq (.inl rfl) (kA rfl rfl) (fun w hw=> ?_)
    exact⟨by rw[GI m1 m2,if_neg (by simpa using h1),if_pos (fun e=>h2 ((JR _ _).2 e)),decide_eq_decide.2 (RT _ _)],hw.sub (List.nil_sublist _)⟩
   ·
    simp at h2
    refine gf ?_
    refine aO ?_
    refine aP ?_
    refine aZ ?_
    refine ag (aI (o':=1) rfl rfl) ?_
    refine ag (bJ rfl) ?_
    refine ag (aI (o':=1) rfl rfl) ?_
    refine ag (bJ rfl) ?_
    refine ag (ck rfl rfl rfl) ?_
    refine ag (bp rfl) ?_
    refine aY ?_
    refine aO ?_
    refine eK ?_
    refine aq (.inl rfl) (kA rfl rfl) (fun w hw=> ?_)
    exact⟨by rw[GI m1 m2,if_neg (by simpa using h1),if_neg (by simpa using(JR _ _).1 h2)],hw.sub (List.nil_sublist _)⟩⟩
instance ag3(p q:cJ):pj Tryz.prog 81 [.agg (da p), .agg (da q)] (.bool (dL p q)):=Va p q
open Go.aA Go.Kb
instance ag4:fo Tryz.prog 22 48 4 48:=⟨Tryz.underlying22,by kernel_rfl⟩
instance ag5:fo Tryz.prog 23 94 4 16:=⟨Tryz.underlying23,by kernel_rfl⟩
instance ag6:fo Tryz.prog 26 3 1 8:=⟨Tryz.underlying26,by kernel_rfl⟩
instance ag7:fk Tryz.prog 38 (.slice none 0 0):=⟨by kernel_rfl⟩
instance ag8:fo Tryz.prog 38 5 1 1:=⟨Tryz.underlying38,by kernel_rfl⟩
instance ag9:fo Tryz.prog 43 50 4 32:=⟨Tryz.underlying43,by kernel_rfl⟩
instance aha:fo Tryz.prog 46 38 1 24:=⟨Tryz.underlying46,by kernel_rfl⟩
instance ahb:fo Tryz.prog 52 68 19 40:=⟨Tryz.underlying52,by kernel_rfl⟩
instance ahc:fo Tryz.prog 76 91 20 48:=⟨Tryz.underlying76,by kernel_rfl⟩
instance ahd:fo Tryz.prog 103 102 2 32:=⟨Tryz.underlying103,by kernel_rfl⟩
instance ahe:fo Tryz.prog 161 26 1 24:=⟨Tryz.underlying161,by kernel_rfl⟩
instance ahf:fo Tryz.prog 186 46 1 24:=⟨Tryz.underlying186,by kernel_rfl⟩
instance ahg:fo Tryz.prog 238 235 1 8:=⟨Tryz.underlying238,by kernel_rfl⟩
instance:bD ax 19:=⟨kD,fun r=>by
 have h:(da r.p).all (·.oneCell')=true:=(inferInstance:gm (da r.p) 18).one
 rw[ax,Array.all_append,h];simp[Value.oneCell']⟩
instance:Deep Rt:=Deep.flat ax 19
instance:gg Rt ax 19:=⟨rfl,fun _=>rfl⟩
instance (r:Rt):gm (ax r) 19:=⟨kD r,bD.one r⟩
instance (r:Rt):oA (ax r) 0 18 (da r.p):=⟨oG _,fun j hj=>by rw[Nat.zero_add];exact oH r j hj⟩
instance (r:Rt):cw (ax r) 18 (.int .u16 r.dK.toNat):=⟨wO r⟩
instance (r:Rt):cw (ax r) 0 (.int .i64 r.p.bits):=⟨(oH r 0 (by decide)).trans (ve r.p)⟩
instance (r:Rt):cw (ax r) 1 (.int .i64 r.p.len):=⟨(oH r 1 (by decide)).trans (vf r.p)⟩
theorem Vb(d:Nat):pR Tryz.prog (d+1) 66 false [0]:=⟨⟨_,Tryz.underlying66,rfl⟩,by kernel_rfl,fun _=>rfl,GB Tryz.underlying66⟩
theorem Vc:Tryz.prog.stoodInHeld 68=false:=by kernel_rfl
theorem Vd(d:Nat):pR Tryz.prog (d+1+1+1+1) 68 true (([0]++([0]++((List.replicate 16 [0]).flatten++[])))++([0]++[])):=⟨⟨_,Tryz.underlying68,rfl⟩,by kernel_rfl,(fun h=>by cases h),
 GG Tryz.underlying68 Vc ⟨by decide,rfl,_,_,_,rfl,MF _,by decide,rfl,_,_,_,rfl,Vb _,rfl⟩⟩
theorem Ve:Tryz.prog.eqGuardType Tryz.prog.depth 68=false:=by kernel_rfl
instance (a b:Rt):uO Tryz.prog 68 (.agg (ax a)) (.agg (ax b)) (decide (a=b)):=
 (Vd 9996).eq.val rfl Ve (kD a) (kD b) (fun i k hk=>by
  have h0:k=0:=by
   have:k∈(([0]++([0]++((List.replicate 16 [0]).flatten++[])))++([0]++[])):=List.mem_of_getElem? hk
   simpa using this
  subst h0
  have hi:i<19:=(List.getElem?_eq_some_iff.1 hk).1
  match i,hi with
  |0,_=>exact⟨_,_,(inferInstance:cw (ax a) 0 _).h,(inferInstance:cw (ax b) 0 _).h,rfl⟩
  |1,_=>exact⟨_,_,(inferInstance:cw (ax a) 1 _).h,(inferInstance:cw (ax b) 1 _).h,rfl⟩
  |j+2,hi=>
   rcases Nat.lt_or_ge j 16 with h|h
   ·
    rw[Nat.add_comm j 2]
    exact⟨_,_,(oH a _ (by omega)).trans ((ql a.p j).trans (lU _ j h)),(oH b _ (by omega)).trans ((ql b.p j).trans (lU _ j h)),rfl⟩
   ·
    obtain rfl:j=16:=by omega
    exact⟨_,_,wO a,wO b,rfl⟩) (by rw[decide_eq_true_iff];exact⟨RX,fun h=>by rw[h]⟩)
instance:yT Tryz.prog 68 [] (.agg (ax fQ)):=⟨fun w=>by unfold ax da fQ;rw[vG];kernel_rfl⟩
instance:fk Tryz.prog 68 (.agg (ax fQ)):=⟨by unfold ax da fQ;rw[vG];kernel_rfl⟩
end Go.Proofs.YtaipiecplldinaaGreat
namespace Go.Kb
open Go.aA
instance:Plain Rt:=⟨fun _=>rfl⟩
instance:fK Rt:=fK.flat fun _ _=>trivial
structure cB where
 ak:bO
 table:Sl Rt
def bU(x:cB):Array Value:= #[.int .i64 x.ak.ae.pages, .int .i64 x.ak.ae.size,x.ak.ae.blocks.sv.val, .int .i64 x.ak.ae.ops, .bool x.ak.ae.off,x.ak.ae.aQ.sv.val,x.ak.at_.sv.val, .int .u64 x.ak.gen.toNat, .int .i64 x.ak.last,x.table.sv.val]
instance:bD bU 10:=⟨fun _=>rfl,fun x=>by
 simp only[bU,List.all_toArray,List.all_cons,List.all_nil,Sv.one,sD,sE,Bool.and_self]⟩
instance (x:cB):gm (bU x) 10:=⟨rfl,bD.one x⟩
instance (x:cB):cw (bU x) 1 (.int .i64 x.ak.ae.size):=⟨rfl⟩
instance (x:cB):cw (bU x) 6 (x.ak.at_.sv.val):=⟨rfl⟩
instance (x:cB):cw (bU x) 7 (.int .u64 x.ak.gen.toNat):=⟨rfl⟩
instance (x:cB):cw (bU x) 8 (.int .i64 x.ak.last):=⟨rfl⟩
instance (x:cB):cw (bU x) 9 (x.table.sv.val):=⟨rfl⟩
instance (x:cB):oA (bU x) 0 9 (bI x.ak):=⟨rfl,fun j hj=>by
 match j,hj with
 |0,_=>rfl
 |1,_=>rfl
 |2,_=>rfl
 |3,_=>rfl
 |4,_=>rfl
 |5,_=>rfl
 |6,_=>rfl
 |7,_=>rfl
 |8,_=>rfl⟩
instance (x:cB):oA (bU x) 0 6 (aD x.ak.ae):=⟨rfl,fun j hj=>by
 match j,hj with
 |0,_=>rfl
 |1,_=>rfl
 |2,_=>rfl
 |3,_=>rfl
 |4,_=>rfl
 |5,_=>rfl⟩
instance:Deep cB where
 c:=10
 cells:=bU
 size:=bD.size
 one:=bD.one
 bb h x:=Deep.bb h x.ak∧Deep.bb h x.table
 cx x:= .two (Deep.cx x.ak) (Deep.cx x.table)
 kl h x hs:=⟨Deep.kl h x.ak hs.1,Deep.kl h x.table hs.2.1⟩
 mono w w' x hg hb:=⟨Deep.mono w w' x.ak hg.1 hb,Deep.mono w w' x.table hg.2 hb⟩
instance:fK cB where
 reach x k:=fK.reach x.ak k∨fK.reach x.table k
 congr h h' x e hg:=⟨fK.congr h h' x.ak (fun k hk=>e k (.inl hk)) hg.1,fK.congr h h' x.table (fun k hk=>e k (.inr hk)) hg.2⟩
instance {w0:World}{L:List ai}{x:cB}[q:aW w0 L x]:aW w0 L x.ak:=⟨fun w hw=>(q.h w hw).1⟩
instance {w0:World}{L:List ai}{x:cB}[q:aW w0 L x]:aW w0 L x.table:=⟨fun w hw=>(q.h w hw).2⟩
instance {w0:World}{L:List ai}{ak:bO}{table:Sl Rt}[q0:aW w0 L ak][q1:aW w0 L table]:aW w0 L (cB.mk ak table):=⟨fun w hw=>⟨q0.h w hw,q1.h w hw⟩⟩
def mf:cB:=⟨k9,⟨Sv.none,[]⟩⟩
structure FV where
 ak:VV
 table:List Rt
 deriving DecidableEq
def bg(f:cB):FV:=⟨vv f.ak,f.table.xs⟩
def pS:FV:=⟨ko,[]⟩
def rP(b p s:Int):Int:=min (qI b p/2) (jd s)
def sN(b p s:Int):Int:=iC (rP b p s) (dC s)
def dh(c:CV):Int:=rP c.blocks.length c.pages c.size
def fa(c:CV):Int:=sN c.blocks.length c.pages c.size
def eo(c:CV)(y:Int):List UInt8:=if y -1<0 then[]else iT c y
def cd(v:VV):List (List UInt8):=v.at_.map (eo v.ae)
def c8(c:CV):FV×Int:=
 if fa c=0 then(pS,1)
 else if(bx c).2≠0 then(pS,(bx c).2)
 else if((bx c).1.at_.length:Int)≠dh c then(pS,2)
 else if jh (cd (bx c).1)≠0 then(pS,2)
 else(⟨(bx c).1,iD (cd (bx c).1)⟩,0)
def jP(c:CV):List (List UInt8):=if(c8 c).2=0 then cd (bx c).1 else[]
theorem MK{c:CV}(h:fa c=0):c8 c=(pS,1)∧jP c=[]:=by
 have e:c8 c=(pS,1):=by rw[c8,if_pos h]
 exact⟨e,by rw[jP,e];rfl⟩
theorem ML{c:CV}(h: ¬fa c=0)(h1:(bx c).2≠0):c8 c=(pS,(bx c).2)∧jP c=[]:=by
 have e:c8 c=(pS,(bx c).2):=by rw[c8,if_neg h,if_pos h1]
 exact⟨e,by rw[jP,e,if_neg h1]⟩
theorem MM{c:CV}(h: ¬fa c=0)(h1:(bx c).2=0)(h2:((bx c).1.at_.length:Int)≠dh c):c8 c=(pS,2)∧jP c=[]:=by
 have e:c8 c=(pS,2):=by rw[c8,if_neg h,if_neg (fun g=>g h1),if_pos h2]
 exact⟨e,by rw[jP,e];rfl⟩
theorem MN{c:CV}(h: ¬fa c=0)(h1:(bx c).2=0)(h2:((bx c).1.at_.length:Int)=dh c)(h3:jh (cd (bx c).1)≠0):c8 c=(pS,2)∧jP c=[]:=by
 have e:c8 c=(pS,2):=by rw[c8,if_neg h,if_neg (fun g=>g h1),if_neg (fun g=>g h2),if_pos h3]
 exact⟨e,by rw[jP,e];rfl⟩
theorem CY{c:CV}(h: ¬fa c=0)(h1:(bx c).2=0)(h2:((bx c).1.at_.length:Int)=dh c)(h3:jh (cd (bx c).1)=0):c8 c=(⟨(bx c).1,iD (cd (bx c).1)⟩,0)∧jP c=cd (bx c).1:=by
 have e:c8 c=(⟨(bx c).1,iD (cd (bx c).1)⟩,0):=by rw[c8,if_neg h,if_neg (fun g=>g h1),if_neg (fun g=>g h2),if_neg (fun g=>g h3)]
 exact⟨e,by rw[jP,e,if_pos rfl]⟩
theorem CZ{c:CV}(h:(c8 c).2=0): ¬fa c=0∧(bx c).2=0∧((bx c).1.at_.length:Int)=dh c∧jh (cd (bx c).1)=0:=by
 by_cases h0:fa c=0
 ·
  rw[(MK h0).1]at h;cases h
 by_cases h1:(bx c).2=0
 ·
  by_cases h2:((bx c).1.at_.length:Int)=dh c
  ·
   by_cases h3:jh (cd (bx c).1)=0
   ·
    exact⟨h0,h1,h2,h3⟩
   ·
    rw[(MN h0 h1 h2 h3).1]at h;cases h
  ·
   rw[(MM h0 h1 h2).1]at h;cases h
 ·
  rw[(ML h0 h1).1]at h;exact absurd h h1
def gx(f:FV):Bool:=decide ((c8 {f.ak.ae with off:=false}).2=0)&&decide (f.ak.gen=(c8 {f.ak.ae with off:=false}).1.ak.gen)&&decide (f.ak.last=(c8 {f.ak.ae with off:=false}).1.ak.last)&&decide (f.ak.at_=(c8 {f.ak.ae with off:=false}).1.ak.at_)&&decide (f.table=(c8 {f.ak.ae with off:=false}).1.table)
theorem GJ{f:FV}:gx f=true↔(c8 {f.ak.ae with off:=false}).2=0∧f.ak.gen=(c8 {f.ak.ae with off:=false}).1.ak.gen∧f.ak.last=(c8 {f.ak.ae with off:=false}).1.ak.last∧f.ak.at_=(c8 {f.ak.ae with off:=false}).1.ak.at_∧f.table=(c8 {f.ak.ae with off:=false}).1.table:=by
 simp only[gx,Bool.and_eq_true,decide_eq_true_eq,and_assoc]
theorem Vf{f:FV}:gx f=(decide ((c8 {f.ak.ae with off:=false}).2=0)&&kI f.ak&&decide ((c8 {f.ak.ae with off:=false}).1.table=f.table)):=by
 rw[Bool.eq_iff_iff,GJ]
 simp only[kI,Bool.and_eq_true,decide_eq_true_eq]
 constructor
 ·
  rintro⟨h1,h2,h3,h4,h5⟩
  obtain⟨g0,g1,g2,g3⟩:=CZ h1
  rw[(CY g0 g1 g2 g3).1]at h2 h3 h4
  exact⟨⟨h1,⟨⟨g1,h2.symm⟩,h3.symm⟩,h4.symm⟩,h5.symm⟩
 ·
  rintro⟨⟨h1,⟨⟨g4,h2⟩,h3⟩,h4⟩,h5⟩
  obtain⟨g0,g1,g2,g3⟩:=CZ h1
  rw[(CY g0 g1 g2 g3).1]at h5⊢
  exact⟨rfl,h2.symm,h3.symm,h4.symm,h5.symm⟩
theorem Vg{bs:List (List UInt8)}(h:jh bs=0):cr (iD bs)=true:=by
 unfold jh iD at*
 cases hu:fU bs with
 |none=>rw[hu]at h;cases h
 |some t=>
  rw[hu]at h
  simp only at h⊢
  by_cases ht:cr t=true
  ·
   rw[if_pos ht];exact ht
  ·
   rw[if_neg ht]at h;cases h
def cC(f:FV)(l:List Ch):FV×Int:=
 if gx f=false then(f,1)
 else if dA f.table l≠0 then(f,dA f.table l)
 else if jv (cj f.table l) (dh f.ak.ae) (dC f.ak.ae.size)≠0 then(f,jv (cj f.table l) (dh f.ak.ae) (dC f.ak.ae.size))
 else if eG (jP {f.ak.ae with off:=false}) (ka (cj f.table l) (dh f.ak.ae) (dC f.ak.ae.size))=[]then(⟨f.ak,cj f.table l⟩,0)
 else(⟨(fy f.ak (eG (jP {f.ak.ae with off:=false}) (ka (cj f.table l) (dh f.ak.ae) (dC f.ak.ae.size)))).1,if(fy f.ak (eG (jP {f.ak.ae with off:=false}) (ka (cj f.table l) (dh f.ak.ae) (dC f.ak.ae.size)))).2≠0 then f.table else cj f.table l⟩,(fy f.ak (eG (jP {f.ak.ae with off:=false}) (ka (cj f.table l) (dh f.ak.ae) (dC f.ak.ae.size)))).2)
def ji(c:CV):FV×Int:=if fa c=0 then(⟨⟨c,[],0,0⟩,[]⟩,1)else(⟨(gX c (dh c)).1,[]⟩,(gX c (dh c)).2)
def nC(f:FV)(k:Key)(bits:Int):Rt:=if gx f=true then lh f.table k bits else fQ
def nD(f:FV)(k:Key)(bits:Int):Int:=if gx f=true then mO f.table k bits else 1
theorem zS{w0 w:World}{L:List ai}{a:Sl Rt}(h:Mem w0 (own ax 19 a.sv a.xs::L) w):Mem w0 (fz a::L) w:=Cc (fun _ _ h=>h) (fun _ _=>trivial) h
theorem C0{w0 w:World}{L:List ai}{f:cB}(h:Mem w0 (fz f.ak.ae::fz f.ak.at_::fz f.table::L) w):Mem w0 (fz f::L) w:=by
 refine Mem.freeze (es:=[fz f.ak.ae,fz f.ak.at_,fz f.table]) f ⟨⟨h.sat (fz f.ak.ae) (by simp),h.sat (fz f.ak.at_) (by simp)⟩,h.sat (fz f.table) (by simp)⟩ (fun k hk=> ?_) h
 rcases hk with(hk|hk)|hk
 ·
  exact⟨fz f.ak.ae,by simp,hk⟩
 ·
  exact⟨fz f.ak.at_,by simp,hk⟩
 ·
  exact⟨fz f.table,by simp,hk⟩
theorem MO{w0 w:World}{L:List ai}{f:cB}(h:Mem w0 (fz f.ak.ae::own bK 1 f.ak.at_.sv f.ak.at_.xs::own ax 19 f.table.sv f.table.xs::L) w):Mem w0 (fz f::L) w:=by
 have h1:=vp (a:=f.ak.at_) (h.perm (List.Perm.swap _ _ _))
 have h2:=zS (a:=f.table) (h1.perm ((List.Perm.cons _ (List.Perm.swap _ _ _)).trans (List.Perm.swap _ _ _)))
 exact C0 (h2.perm ((List.Perm.cons _ (List.Perm.swap _ _ _)).trans ((List.Perm.swap _ _ _).trans (List.Perm.cons _ (List.Perm.swap _ _ _)))))
theorem C1{w0 w:World}{L:List ai}(h:Mem w0 L w):Mem w0 (fz mf::L) w:=
 Mem.freeze (es:=[]) mf ⟨⟨⟨vd,vd⟩,vd⟩,vd⟩ (fun k hk=>by
  rcases hk with(((⟨bW,_⟩|⟨x,hx,_⟩)|⟨bW,_⟩|⟨x,hx,_⟩)|⟨bW,_⟩|⟨x,hx,_⟩)|⟨bW,_⟩|⟨x,hx,_⟩
  all_goals first|exact absurd rfl bW|cases hx) h
theorem xD{w0 w:World}{L:List ai}:Mem w0 L w→Mem w0 (fz (⟨Sv.none,[]⟩:Sl (Sl UInt8))::L) w:=
 Mem.freeze (es:=[]) _ vd (fun k hk=>by
  rcases hk with⟨bW,_⟩|⟨x,hx,_⟩
  ·
   exact absurd rfl bW
  ·
   cases hx)
theorem MP(s:Int):0≤jd s∧jd s≤64:=by
 rw[jd,dC]
 split
 ·
  rename_i h;have:=qu.1 h;omega
 ·
  omega
theorem GK(c:CV):dh c≤64:=by
 have:=MP c.size
 rw[dh,rP];omega
theorem Vh(b p:Int):0≤qI b p∧qI b p≤448:=by
 rw[qI]
 split
 ·
  omega
 ·
  rename_i h
  have h1:0≤b -4∧b -4≤28:=by omega
  have h2:1≤p∧p≤16:=by omega
  exact⟨Int.mul_nonneg h1.1 (by omega),Int.le_trans (Int.mul_le_mul h1.2 h2.2 (by omega) (by omega)) (by decide)⟩
theorem MQ{c:CV}(h:(bx c).2=0):(bx c).1.ae=c:=by
 obtain⟨_,_,e⟩:=FO h
 rw[e]
theorem Vi{c:CV}(h:(bx c).2=0):c.off=false:=by
 cases ho:c.off with
 |false=>rfl
 |true=>rw[bx,if_neg (by rw[FN h];simp),if_pos ho]at h;cases h
theorem Vj{c:CV}(h:(bx c).2=0):kI (bx c).1=true:=by
 have e:{(bx c).1.ae with off:=false}=c:=by rw[MQ h,←Vi h]
 simp only[kI,e,h,decide_true,Bool.and_self]
theorem Vk(c:CV)(n:Int):(iT c n).length≤65536:=by
 rw[iT]
 split
 ·
  exact FJ _
 ·
  simp
theorem xE(v:VV):(cd v).length=v.at_.length:=by rw[cd,List.length_map]
theorem Vl(c:CV)(n:Int):(eo c n).length≤65536:=by
 rw[eo]
 split
 ·
  simp
 ·
  exact Vk c n
theorem Vm(c:CV):(jP c).length≤64:=by
 rw[jP]
 split
 ·
  rename_i h
  obtain⟨g0,g1,g2,g3⟩:=CZ h
  have:=GK c
  rw[xE];omega
 ·
  simp
def ez(f:FV):List (List UInt8):=jP {f.ak.ae with off:=false}
def tZ(f:FV)(l:List Ch):Int:=jv (cj f.table l) (dh f.ak.ae) (dC f.ak.ae.size)
def du(f:FV)(l:List Ch):List (List UInt8):=ka (cj f.table l) (dh f.ak.ae) (dC f.ak.ae.size)
theorem Vn{f:FV}{l:List Ch}(h0:gx f=false):cC f l=(f,1):=by rw[cC,if_pos h0]
theorem C2(f:FV)(l:List Ch):cC f l=(if gx f=false then(f,1)
 else if dA f.table l≠0 then(f,dA f.table l)
 else if tZ f l≠0 then(f,tZ f l)
 else if eG (ez f) (du f l)=[]then(⟨f.ak,cj f.table l⟩,0)
 else(⟨(fy f.ak (eG (ez f) (du f l))).1,if(fy f.ak (eG (ez f) (du f l))).2≠0 then f.table else cj f.table l⟩,(fy f.ak (eG (ez f) (du f l))).2)):=rfl
theorem MR{f:FV}{l:List Ch}(h0:gx f=true)(h1:dA f.table l≠0):cC f l=(f,dA f.table l):=by
 rw[C2,if_neg (by rw[h0];simp),if_pos h1]
theorem MS{f:FV}{l:List Ch}(h0:gx f=true)(h1:dA f.table l=0)(h2:tZ f l≠0):cC f l=(f,tZ f l):=by
 rw[C2,if_neg (by rw[h0];simp),if_neg (fun h=>h h1),if_pos h2]
theorem MT{f:FV}{l:List Ch}(h0:gx f=true)(h1:dA f.table l=0)(h2:tZ f l=0)(h3:eG (ez f) (du f l)=[]):cC f l=(⟨f.ak,cj f.table l⟩,0):=by
 rw[C2,if_neg (by rw[h0];simp),if_neg (fun h=>h h1),if_neg (fun h=>h h2),if_pos h3]
theorem C3{f:FV}{l:List Ch}(h0:gx f=true)(h1:dA f.table l=0)(h2:tZ f l=0)(h3: ¬eG (ez f) (du f l)=[]):cC f l=(⟨(fy f.ak (eG (ez f) (du f l))).1,if(fy f.ak (eG (ez f) (du f l))).2≠0 then f.table else cj f.table l⟩,(fy f.ak (eG (ez f) (du f l))).2):=by
 rw[C2,if_neg (by rw[h0];simp),if_neg (fun h=>h h1),if_neg (fun h=>h h2),if_neg h3]
def MU(f:FV):Bool:=aV f.ak.ae&&decide (f.ak.at_.length≤1000000)&&decide (f.table.length≤1000000)
end Go.Kb
namespace Go.aA
open Go.RowKit
theorem GL{P:Program}{fn:Func}{N:cG}{env:Env}{w0:World}{L:List ai}(hf:fn.results= #[]): ∀a w,dj N env a→Mem w0 L w→(results fn a.tmps).run P w= .ok (.tuple #[]) w:=fun a w _ _=>by
 simp[results,hf]
section
variable {P:Program} {w0:World} {env:Env}
theorem MW{N:cG}{L:List ai}{d:Option Tmp}{ty:TypeId}{ps:String}{af:Array Edge}{gd:Option (Nat×Bool)}{t:TypeId}{x:Operand}{p:Addr}{v:Value}[ht:ir P t](hx:ev env x=some (.pointer (some p)))(hc:w0.cell? p=some v):Ry P N w0 env L ⟨d, .load t x,ty,ps,af,gd⟩ v:=
 wu ht hx fun w hw=>(hw.below.cell (by
  unfold World.cell? at hc
  cases ho:w0.heap[p.block]?with
  |none=>simp[ho]at hc
  |some o=>exact(Array.getElem?_eq_some_iff.1 ho).1)).trans hc
end
section
variable {P:Program} {N:cG} {w0:World} {env:Env} {L:List ai} {l:List Oper} {Q:Exit→Act→World→Prop} {rest:List Oper} {d:Option Tmp} {ty:TypeId} {ps:String} {af:Array Edge} {K:Value→List ai→Prop}
instance cw.one{v:Value}:cw #[v] 0 v:=⟨rfl⟩
theorem Vo{t:TypeId}{x:Operand}{v:Value}(hc:v.cells= #[v])(hx:ev env x=some v)(hk: ∀b,Sq P N w0 l Q rest (cD env d (.pointer (some ⟨b,0,none⟩))) (ar b #[v] t::L))(hd:dr N d=true:=by rfl):
  Sq P N w0 l Q (⟨d, .box t x,ty,ps,af,none⟩::rest) env L:=Eu hx (by rw[hc];exact hk) hd
theorem Vp{t:TypeId}{z:Value}[hz:fk P t z](hc:z.cells= #[z])(hk: ∀b,Sq P N w0 l Q rest (cD env d (.pointer (some ⟨b,0,none⟩))) (ar b #[z] t::L))(hd:dr N d=true:=by rfl):
  Sq P N w0 l Q (⟨d, .alloc t,ty,ps,af,none⟩::rest) env L:=Jn (z:=z) (by rw[hc];exact hk) hd
theorem Vq{t:TypeId}{x y:Operand}{i b:Nat}{u:Value}{T:TypeId}{v:Value}(hv:v.oneCell'=true)(hx:ev env x=some (.pointer (some ⟨b,0,none⟩)))(hy:ev env y=some v)[ht:ir P t][hh:Has L b #[u] T i]{L':List ai}[hu:fD L i (ar b #[v] T) L'](hk:Sq P N w0 l Q rest env L'):
  Sq P N w0 l Q (⟨none, .store t x y,ty,ps,af,none⟩::rest) env L:=eV (cs':= #[v]) hx hy (by show 0<1;decide) hv rfl hk
end
theorem Vr{P:Program}{N:cG}{w0:World}{env:Env}{L:List ai}{l:List Oper}{Q:Exit→Act→World→Prop}{rest:List Oper}{ty:TypeId}{ps:String}{af:Array Edge}{t:TypeId}{x y:Operand}{i k p:Nat}{s:Sv}{xs:List UInt8}{a v:UInt8}[ht:ir P t](hx:ev env x=some (.pointer (some ⟨s.b,p,none⟩)))(hy:ev env y=some (.int .u8 v.toNat))[q:fJ L s aN 1 xs i](ha:xs[k]? =some a)(hH:p=s.o+k*1){L':List ai}[hu:fD L i (own aN 1 s (xs.set k v)) L'](hk:Sq P N w0 l Q rest env L'):
  Sq P N w0 l Q (⟨none, .store t x y,ty,ps,af,none⟩::rest) env L:=
 kX (j:=0) (n:=1) (a':=v) ht.size hx hy (q:=q) (by omega) ha (by simp[Value.cells,Value.oneCell']) rfl (by omega) (by rfl) hk
open Go.RowKit
section
variable {P:Program} {N:cG} {w0:World} {env:Env} {L:List ai} {Q:Exit→Act→World→Prop}
end
section
variable {P:Program} {n:Nat} {w0:World} {env:Env} {L:List ai} {Q:Exit→Act→World→Prop} {l:List Oper} {k:Nat} {rest:List Oper}
theorem xr{α:Type}{l rest:List α}{k:Nat}{o:α}(h:l.drop k=o::rest):l[k]? =some o∧l.drop (k+1)=rest:=by
 constructor
 ·
  have:=congrArg (·[0]?) h;simpa using this
 ·
  have:=congrArg (List.drop 1) h;simpa[List.drop_drop,Nat.add_comm]using this
end
open Go.RowKit
def omap(P:Program)(k:TypeId){α β:Type}(db:α→Value)(et:β→Value)(b:Nat)(f:α→Option β):ai:=
  ⟨fun i=>i=b,fun h=> ∃(es:Array MapEntry) (clock:Nat) (m:List (α×β)),h b=some (.map es clock)∧es.toList.map (fun e=>(e.key,e.val))=m.map (fun p=>(db p.1,et p.2))∧
    (∀p∈m,∃l,keyOf P k (db p.1)=some l)∧(m.map Prod.fst).Nodup∧(∀x v,f x=some v↔(x,v)∈m),
   fun h h' e st=>by rw[e b rfl];exact st⟩
class xF(P:Program)(t:TypeId)(k e:outParam TypeId):Prop where
  eI:P.underlying t=some (.map k e)
class zT(P:Program)(k:TypeId):Prop where
  K:Maps.Keyed P k
class zU{α:Type}(db:α→Value):Prop where
  inj: ∀{a b:α},db a=db b→a=b
class ua(P:Program)(L:List ai)(b:Nat){α β:outParam Type}(k:TypeId)(db:outParam (α→Value))(et:outParam (β→Value))(f:outParam (α→Option β))(i:outParam Nat):Prop where
  h:L[i]? =some (omap P k db et b f)
instance (priority:=high) ua.here {P:Program}{L:List ai}{b:Nat}{α β:Type}{k:TypeId}{db:α→Value}{et:β→Value}{f:α→Option β}:ua P (omap P k db et b f::L) b k db et f 0:=⟨rfl⟩
instance ua.there{P:Program}{L:List ai}{e:ai}{b:Nat}{α β:Type}{k:TypeId}{db:α→Value}{et:β→Value}{f:α→Option β}{i:Nat}[q:ua P L b k db et f i]:ua P (e::L) b k db et f (i+1):=⟨by simpa using q.h⟩
theorem MX{P:Program}{k:TypeId}{α β:Type}{db:α→Value}{et:β→Value}{f:α→Option β}[K:zT P k][I:zU db]{es:Array MapEntry}{m:List (α×β)}(h1:es.toList.map (fun e=>(e.key,e.val))=m.map (fun p=>(db p.1,et p.2)))
    (h2: ∀p∈m,∃l,keyOf P k (db p.1)=some l) (h3: ∀x v,f x=some v↔(x,v)∈m) {x:α} (hx: ∃l,keyOf P k (db x)=some l) (w:World):
    ((Instr.findKey k (db x) es.toList).run P w= .ok none w∧f x=none∧ ∀v,(x,v)∉m)∨ ∃(j:Nat) (v:β),(Instr.findKey k (db x) es.toList).run P w= .ok (some (j,et v)) w∧m[j]? =some (x,v)∧f x=some v∧(es[j]?).map (·.key)=some (db x):=by
  have j9: ∀j:Nat,(es.toList[j]?).map (fun e=>(e.key,e.val))=(m[j]?).map (fun p=>(db p.1,et p.2)):=fun j=>by rw[←List.getElem?_map,←List.getElem?_map,h1]
  have ij: ∀e∈es.toList,∃l,keyOf P k e.key=some l:=fun e he=>by
    obtain⟨j,hj,rfl⟩:=List.getElem_of_mem he
    have:=j9 j
    rw[List.getElem?_eq_getElem hj]at this
    cases hm:m[j]?with
    |none=>rw[hm]at this;cases this
    |some p=>
     rw[hm]at this
     simp only[Option.map_some,Option.some.injEq,Prod.mk.injEq]at this
     rw[this.1];exact h2 p (List.mem_of_getElem? hm)
  obtain⟨lx,sO⟩:=hx
  rcases K.K.find w sO es.toList ij with⟨hr,hn⟩|⟨j,e,hr,hj,hk⟩
  ·have iF: ∀v,(x,v)∉m:=fun v hv=>by
      obtain⟨j,hj,Vs⟩:=List.getElem_of_mem hv
      have:=j9 j
      rw[List.getElem?_eq_getElem hj,Vs]at this
      cases he:es.toList[j]?with
      |none=>rw[he]at this;cases this
      |some e=>
       rw[he]at this
       simp only[Option.map_some,Option.some.injEq,Prod.mk.injEq]at this
       exact hn e (List.mem_of_getElem? he) this.1
   refine .inl ⟨hr,?_,iF⟩
   cases hf:f x with
   |none=>rfl
   |some v=>exact absurd ((h3 x v).1 hf) (iF v)
  ·have:=j9 j
   rw[hj]at this
   cases hm:m[j]?with
   |none=>rw[hm]at this;cases this
   |some p=>
    rw[hm]at this
    simp only[Option.map_some,Option.some.injEq,Prod.mk.injEq]at this
    have hp:p.1=x:=I.inj (this.1.symm.trans hk)
    refine .inr ⟨j,p.2,by rw[hr,this.2],by rw[hm,←hp],(h3 x p.2).2 (by rw[←hp];exact List.mem_of_getElem? hm),?_⟩
    have iQ:es[j]? =some e:=by simpa using hj
    rw[iQ,Option.map_some,hk]
section
variable {P:Program} {N:cG} {w0:World} {env:Env} {L:List ai} {d:Option Tmp} {ty:TypeId} {ps:String} {af:Array Edge} {gd:Option (Nat×Bool)} {α β:Type} {db:α→Value} {et:β→Value} {f:α→Option β}
theorem run_getObj_map{w:World}{b:Nat}{es:Array MapEntry}{clock:Nat}(h:w.heap[b]? =some (.map es clock)):(getObj b).run P w= .ok (.map es clock) w:=by simp[getObj,Sem.run,h]
theorem run_setObj_map{w:World}{b:Nat}{es:Array MapEntry}{clock:Nat}(o:Obj)(h:w.heap[b]? =some (.map es clock)):(setObj b o).run P w= .ok () (w.putObj b o):=by simp[setObj,Sem.run,h,World.putObj]
theorem GM{t k e:TypeId}{m x:Operand}{b i:Nat}{z:β}{v:α}[ht:xF P t k e][K:zT P k][I:zU db][hz:fk P e (et z)](hm:ev env m=some (.map (some b)))(hx:ev env x=some (db v))[q:ua P L b k db et f i](hv: ∃l,keyOf P k (db v)=some l):
    Ry P N w0 env L ⟨d, .lookup t m x true,ty,ps,af,gd⟩ (.tuple #[et ((f v).getD z), .bool (f v).isSome]):=fun a w ha hw=>by
  obtain⟨es,clock,ml,h0,h1,h2,_,h3⟩:=hw.get q.h
  obtain⟨l,hl⟩:=hv
  have hc:=K.K.check w es.isEmpty hl
  simp only[execOp,ha.ev hm,ha.ev hx,Instr.lookup,Sem.run_bind,run_underlying ht.eI,Result.andThen,run_getObj_map h0,Sem.run_pure,hc]
  rcases MX (P:=P) (k:=k) h1 h2 h3 ⟨l,hl⟩ w with⟨hr,hf,_⟩|⟨j,u,hr,_,hf,_⟩
  ·simp only[hr,hf,Option.getD_none,Bi w hz,Sem.run_bind,Result.andThen,Sem.run_pure];rfl
  ·simp only[hr,hf,Option.getD_some,Sem.run_pure];rfl
end
section
variable {P:Program} {N:cG} {w0:World} {env:Env} {L:List ai} {l:List Oper} {Q:Exit→Act→World→Prop} {rest:List Oper} {d:Option Tmp} {ty:TypeId} {ps:String} {af:Array Edge} {α β:Type} {db:α→Value} {et:β→Value} {f:α→Option β}
theorem Mem.MY{w:World}(P:Program)(k:TypeId)(db:α→Value)(et:β→Value)(h:Mem w0 L w):Mem w0 (omap P k db et w.heap.size (fun _=>none)::L) (w.alloc (.map #[] 0)):=by
  refine h.call (E:=[omap P k db et w.heap.size (fun _=>none)]) ⟨(Below.refl _ _).alloc (Nat.le_refl _) _,fun e he=> ?_,fun e he j hj=> ?_,by simp⟩
  ·obtain rfl:e=omap P k db et w.heap.size (fun _=>none):=by simpa using he
   exact⟨#[],0,[],Below.A6 w _,rfl,by simp,by simp,by simp⟩
  ·obtain rfl:e=omap P k db et w.heap.size (fun _=>none):=by simpa using he
   have:j=w.heap.size:=hj
   subst this;simp
theorem Vt{t k e:TypeId}(db:α→Value)(et:β→Value){r:Operand}{kk:IntKind}{n:Int}[ht:xF P t k e](hr:ev env r=some (.int kk n))(hk: ∀b,Sq P N w0 l Q rest (cD env d (.map (some b))) (omap P k db et b (fun _=>none)::L))(hd:dr N d=true:=by rfl):
    Sq P N w0 l Q (⟨d, .makeMap t (some r),ty,ps,af,none⟩::rest) env L:=
  mZ rfl hd fun a w ha hw=>⟨_,_,_,by
    simp only[execOp,Option.map_some,ha.ev hr,Instr.makeMap,Sem.run_bind,run_underlying ht.eI,Result.andThen,Sem.run_pure,asInt,asIntOf,newObj,Sem.run]
    rfl,hw.MY P k db et,hk _⟩
theorem MZ{t k e:TypeId}(db:α→Value)(et:β→Value)[ht:xF P t k e](hk: ∀b,Sq P N w0 l Q rest (cD env d (.map (some b))) (omap P k db et b (fun _=>none)::L))(hd:dr N d=true:=by rfl):
    Sq P N w0 l Q (⟨d, .makeMap t none,ty,ps,af,none⟩::rest) env L:=
  mZ rfl hd fun a w ha hw=>⟨_,_,_,by
    simp only[execOp,Option.map_none,Instr.makeMap,Sem.run_bind,Result.andThen,Sem.run_pure,newObj,Sem.run]
    rfl,hw.MY P k db et,hk _⟩
theorem Vu{t k e:TypeId}{m x y:Operand}{b i:Nat}{v:α}{u:β}[DecidableEq α][ht:xF P t k e][K:zT P k][I:zU db](hm:ev env m=some (.map (some b)))(hx:ev env x=some (db v))(hy:ev env y=some (et u))[q:ua P L b k db et f i](hv: ∃l,keyOf P k (db v)=some l)
    {L':List ai} [hu:fD L i (omap P k db et b (fun z=>if z=v then some u else f z)) L'] {a:Act} {w:World} (ha:dj N env a) (hw:Mem w0 L w):
    ∃w',(execOp a.eval ⟨none, .mapUpdate t m x y,ty,ps,af,none⟩).run P w= .ok .skip w'∧Mem w0 L' w':=by
  obtain⟨es,clock,ml,h0,h1,h2,cz,h3⟩:=hw.get q.h
  obtain⟨lk,hl⟩:=hv
  have hc:=K.K.check w false hl
  have bB:=K.K.stays w hl
  have step: ∀o:Obj,(omap P k db et b (fun z=>if z=v then some u else f z)).sat (fun j=>(w.putObj b o).heap[j]?)→Mem w0 L' (w.putObj b o):=fun o ho=>by
    rw[←hu.h]
    exact hw.change q.h (fun j hj=>hj) (fun j hj=>World.putObj_heap_other (fun e=>hj e)) World.putObj_size ⟨rfl,rfl,rfl⟩ ho
  have bu:b<w.heap.size:=(Array.getElem?_eq_some_iff.1 h0).1
  rcases MX (P:=P) (k:=k) h1 h2 h3 ⟨lk,hl⟩ w with⟨hr,hf,iF⟩|⟨j,u0,hr,hj,hf,Vv⟩
  ·refine⟨w.putObj b (.map (es.push {key:=db v,val:=et u,born:=clock}) (clock+1)),?_,step _ ⟨_,_,ml++[(v,u)],World.putObj_heap_same bu,?_,?_,?_,?_⟩⟩
   ·simp only[execOp,ha.ev hm,ha.ev hx,ha.ev hy,Instr.mapUpdate,Sem.run_bind,run_underlying ht.eI,Result.andThen,run_getObj_map h0,hc,hr,run_setObj_map _ h0,Sem.run_pure]
   ·simp[h1]
   ·intro p hp
    rcases List.mem_append.1 hp with hp|hp
    ·exact h2 p hp
    ·obtain rfl:p=(v,u):=by simpa using hp
     exact⟨lk,hl⟩
   ·rw[List.map_append,List.nodup_append]
    refine⟨cz,by simp,fun x1 nz y1 C4 e1=> ?_⟩
    obtain rfl:y1=v:=by simpa using C4
    subst e1
    obtain⟨p,hp,rfl⟩:=List.mem_map.1 nz
    exact iF p.2 hp
   ·intro x' v'
    show(if x'=v then some u else f x')=some v'↔_
    by_cases e:x'=v
    ·subst e;rw[if_pos rfl]
     constructor
     ·intro h;cases h;simp
     ·intro h
      rcases List.mem_append.1 h with h|h
      ·exact absurd h (iF v')
      ·simp at h;rw[h]
    ·rw[if_neg e,h3 x' v'];simp[e]
  ·have jA:j<ml.length:=(List.getElem?_eq_some_iff.1 hj).1
   refine⟨w.putObj b (.map (es.modify j fun e=>{e with key:=db v,val:=et u}) clock),?_,step _ ⟨_,_,ml.set j (v,u),World.putObj_heap_same bu,?_,?_,?_,?_⟩⟩
   ·simp only[execOp,ha.ev hm,ha.ev hx,ha.ev hy,Instr.mapUpdate,Sem.run_bind,run_underlying ht.eI,Result.andThen,run_getObj_map h0,hc,hr,Vv,Option.getD_some,bB,run_setObj_map _ h0,Sem.run_pure]
   ·refine List.ext_getElem? fun n=> ?_
    have:=congrArg (·[n]?) h1
    simp only[List.getElem?_map]at this⊢
    rw[List.getElem?_set]
    by_cases e:j=n
    ·subst e
     rw[if_pos rfl,if_pos jA]
     rw[hj]at this
     cases he:es.toList[j]?with
     |none=>rw[he]at this;cases this
     |some e0=>
      have qi:es[j]? =some e0:=by simpa using he
      simp[Array.getElem?_modify,qi]
    ·rw[if_neg e,←this]
     simp[Array.getElem?_modify,e]
   ·intro p hp
    rcases List.mem_or_eq_of_mem_set hp with hp|rfl
    ·exact h2 p hp
    ·exact⟨lk,hl⟩
   ·rw[List.map_set]
    have:(ml.map Prod.fst)[j]? =some v:=by rw[List.getElem?_map,hj];rfl
    rw[show(ml.map Prod.fst).set j (v,u).1=ml.map Prod.fst from by
        refine List.ext_getElem? fun n=> ?_
        rw[List.getElem?_set]
        by_cases e:j=n
        ·subst e;rw[if_pos rfl,if_pos (by simpa using jA),this]
        ·rw[if_neg e]]
    exact cz
   ·intro x' v'
    have Vw: ∀n p,ml[n]? =some p→p.1=v→n=j:=fun n p hn hp=>by
        have a1:(ml.map Prod.fst)[n]? =some v:=by rw[List.getElem?_map,hn,Option.map_some,hp]
        have a2:(ml.map Prod.fst)[j]? =some v:=by rw[List.getElem?_map,hj];rfl
        exact(List.getElem?_inj (by simpa using(List.getElem?_eq_some_iff.1 hn).1) cz).1 (a1.trans a2.symm)
    show(if x'=v then some u else f x')=some v'↔_
    by_cases e:x'=v
    ·subst e;rw[if_pos rfl]
     constructor
     ·intro h;cases h
      exact List.mem_of_getElem? (i:=j) (by rw[List.getElem?_set,if_pos rfl,if_pos jA])
     ·intro h
      obtain⟨n,hn⟩:=List.mem_iff_getElem?.1 h
      rw[List.getElem?_set]at hn
      by_cases en:j=n
      ·rw[if_pos en,if_pos jA]at hn;simp only[Option.some.injEq,Prod.mk.injEq,true_and]at hn;rw[hn]
      ·rw[if_neg en]at hn;exact absurd (Vw n _ hn rfl).symm en
    ·rw[if_neg e,h3 x' v']
     constructor
     ·intro h
      obtain⟨n,hn⟩:=List.mem_iff_getElem?.1 h
      refine List.mem_of_getElem? (i:=n) ?_
      rw[List.getElem?_set,if_neg,hn]
      rintro rfl
      rw[hj]at hn;simp only[Option.some.injEq,Prod.mk.injEq]at hn;exact e hn.1.symm
     ·intro h
      rcases List.mem_or_eq_of_mem_set h with h|h
      ·exact h
      ·simp only[Prod.mk.injEq]at h;exact absurd h.1 e
theorem GN{t k e:TypeId}{m x y:Operand}{b i:Nat}{v:α}{u:β}[DecidableEq α][ht:xF P t k e][K:zT P k][I:zU db](hm:ev env m=some (.map (some b)))(hx:ev env x=some (db v))(hy:ev env y=some (et u))[q:ua P L b k db et f i](hv: ∃l,keyOf P k (db v)=some l)
    {L':List ai} [hu:fD L i (omap P k db et b (fun z=>if z=v then some u else f z)) L'] (hk:Sq P N w0 l Q rest env L'):
    Sq P N w0 l Q (⟨none, .mapUpdate t m x y,ty,ps,af,none⟩::rest) env L:=
  Br rfl rfl fun a w ha hw=>by
    obtain⟨w',h1,h2⟩:=Vu (t:=t) (k:=k) (e:=e) (ty:=ty) (ps:=ps) (af:=af) hm hx hy hv (L':=L') ha hw
    exact⟨w',L',h1,h2,hk⟩
end
open Go.Kb Go.RowKit
theorem GO{w0 w:World}{L R:List ai}{e:ai}{i:Nat}(q:L[i]? =some e)(d:L.eraseIdx i=R)(h:Mem w0 L w):Mem w0 (e::R) w:=by
 have:=h.perm (nU q);rwa [d]at this
theorem sP{w0 w:World}{L R1 R2:List ai}{e1 e2:ai}{i j:Nat}(h1:L[i]? =some e1)(d1:L.eraseIdx i=R1)(h2:R1[j]? =some e2)(d2:R1.eraseIdx j=R2)(h:Mem w0 L w):Mem w0 (e1::e2::R2) w:=by
 subst d1;subst d2
 exact h.perm ((nU h1).trans ((nU h2).cons _))
instance (priority:=low) ah.drop {L L':List ai}{e:ai}[k:ah L L']:ah (e::L) L':=⟨by
 obtain⟨R,hR⟩:=k.h
 exact⟨e::R,(hR.cons e).trans List.perm_middle.symm⟩⟩
section
variable {P:Program} {N:cG} {w0:World} {env:Env} {L:List ai} {Q:Exit→Act→World→Prop} {d:Option Tmp} {ty:TypeId} {ps:String} {af:Array Edge} {gd:Option (Nat×Bool)} {K:Value→List ai→Prop}
theorem Ry.to{o:Oper}{v v':Value}(h:Ry P N w0 env L o v)(e:v=v'):Ry P N w0 env L o v':=e▸h
theorem C5{f:FuncId}{x:Operand}{kb:Array Value}{xs:List Operand}{ts:Array TypeId}{vs:List Value}{v:Value}[hf:aS P f](hx:ev env x=some (.func (.func f) #[] kb))(Vx:ik env xs=some vs)
  (hc: ∀w,Mem w0 L w→Calls P f (vs++kb.toList).toArray w fun e w'=>e= .returned v∧Mem w [] w'):
  Yl P N w0 env L ⟨d, .call {callee:= .value x,args:=xs.toArray,argTypes:=ts},ty,ps,af,gd⟩ v:=fun a ha w hw=>by
 unfold Oper.quietAt
 obtain⟨fn,h1,h2,h3⟩:=hf.fn
 have Eo: ¬fn.body=none:=fun e=>by simp[e]at h2
 have wx: ¬fn.name= "runtime.NumGoroutine" :=by simpa using h3
 have e:(execOp a.eval ⟨d, .call {callee:= .value x,args:=xs.toArray,argTypes:=ts},ty,ps,af,gd⟩).run P w= .ok (.enter f (vs++kb.toList).toArray) w:=by
  have hm:=ha.ik Vx
  simp[execOp,resolve,ha.ev hx,Deferred.ofValue,invoke,callFunc,h1,Eo,wx,Result.andThen,←hm]
 rw[e]
 exact⟨rfl,hc w hw⟩
theorem GP{f:Fn}{xs:List Operand}{vs:List Value}(hx:ik env xs=some vs):Ry P N w0 env L ⟨d, .makeFunc f #[] xs.toArray,ty,ps,af,gd⟩ (.func f #[] vs.toArray):=fun a w ha _=>by
 have hm:=ha.ik hx
 simp[execOp,Instr.makeFunc,Result.andThen,←hm]
instance (s:Sv):cw (rj s) 0 s.val:=⟨rfl⟩
instance (s:Sv):cw s.val.cells 0 s.val:=⟨by rw[Sv.jm];rfl⟩
variable {s:Sv} {xs:List Nd} {a:Nd}
end
end Go.aA
namespace Go.Proofs.YtaipiecplldinaaGreat
open Go.aA Go.Kb
open Go.RowKit
instance:fk Tryz.prog 94 (.agg (dn w7)):=⟨by kernel_rfl⟩
instance:fk Tryz.prog 48 (.agg (bN oM)):=⟨by kernel_rfl⟩
instance:fk Tryz.prog 25 (.agg (aD gn)):=⟨by kernel_rfl⟩
instance:fk Tryz.prog 5 (.int .u8 0):=⟨by kernel_rfl⟩
instance:fk Tryz.prog 38 (.slice none 0 0):=⟨by kernel_rfl⟩
theorem Vy(w:World)(b:Int)(n:Int)(s:Int):Calls Tryz.prog 65 #[.int .i64 b, .int .i64 n, .int .i64 s] w fun e w'=>e= .returned (.bool (pC b n s))∧Mem w [] w':=by
 refine ba (args:=[_,_,_]) Tryz.func65 rfl Tryz.ntmps65 rfl ?_
 change Cw _ _ _ _ _ [(0, .int .i64 b),(1, .int .i64 n),(2, .int .i64 s)] []
 refine Gc ?_
 refine Gs ?_
 refine Gc ?_
 iterate 3 refine Gs ?_
 iterate 2 refine Gg ?_
 iterate 2 refine Gs ?_
 iterate 2 refine Gg ?_
 iterate 2 refine Gs ?_
 iterate 2 refine Gg ?_
 iterate 2 refine Gs ?_
 iterate 2 refine Gg ?_
 iterate 2 refine Gs ?_
 iterate 2 refine Gg ?_
 iterate 2 refine Gs ?_
 refine Gc ?_
 refine aq (.inl rfl) (aJ rfl (al rfl)) (fun w1 hw=> ?_)
 exact⟨congrArg (fun b=>Ending.returned (Value.bool b)) (rfl),ah.mem hw⟩
instance ahh{w0:World}{L:List ai}{b:Int}{n:Int}{s:Int}:cI Tryz.prog 65 w0 L [.int .i64 b, .int .i64 n, .int .i64 s] (.bool (pC b n s)) (True):=⟨fun hp w hw=>Vy w b n s⟩
theorem Vz(w:World)(c:Cp)(hc:Deep.bb (hp w) c):Calls Tryz.prog 68 #[.agg (aD c)] w fun e w'=>e= .returned (.bool (aV (cv c)))∧Mem w [] w':=by
 have ke:cm w c:=⟨hc⟩
 have dz:=fB c.blocks.xs
 have bR:aV (cv c)=true↔pC c.blocks.xs.length c.pages c.size=true∧0≤c.ops∧c.ops≤cP∧c.aQ.xs.length≤64∧ ∀b∈gF c.blocks.xs,mE c.pages c.size b=true:=by rw[eZ];simp only[cv,dz]
 have oO:cP=1099511627776:=rfl
 refine ba (args:=[_]) Tryz.func68 rfl Tryz.ntmps68 rfl ?_
 change Cw _ _ _ _ _ [(0, .agg (aD c))] []
 refine Gc ?_
 refine bY rfl fun b1=> ?_
 refine Gs ?_
 refine Gc ?_
 iterate 10 refine Gs ?_
 iterate 3 refine Gg ?_
 iterate 2 refine Gs ?_
 iterate 3 refine Gg ?_
 iterate 2 refine Gs ?_
 iterate 4 refine Gg ?_
 refine Gs ?_
 refine Gc ?_
 refine au rfl (fun h0=> ?_) (fun h0=> ?_)
 ·
  replace h0:=bz h0
  have hz:aV (cv c)=false:=by
   cases hk:aV (cv c)with
   |false=>rfl
   |true=>
    have g:=bR.1 hk
    rw[g.1]at h0
    simp only[Bool.true_eq_false,false_or]at h0
    omega
  refine Gc ?_
  refine Gs ?_
  refine Gc ?_
  refine aq (.inl rfl) (aJ rfl (al rfl)) (fun w1 hw=> ?_)
  exact⟨congrArg (fun b=>Ending.returned (Value.bool b)) (hz.symm),ah.mem hw⟩
 ·
  replace h0:=bz h0
  have g0:pC c.blocks.xs.length c.pages c.size=true∧0≤c.ops∧c.ops≤cP∧c.aQ.xs.length≤64:=by
   cases hk:pC c.blocks.xs.length c.pages c.size with
   |false=>rw[hk]at h0;simp at h0
   |true=>rw[hk]at h0;simp only[Bool.true_eq_false,not_false_eq_true,true_and]at h0;exact⟨rfl,by omega,by omega,by omega⟩
  have gs:=jW.1 g0.1
  refine Gc ?_
  iterate 4 refine Gs ?_
  refine Gc ?_
  refine cc (X:=Nat) (fun zz=>[(35, .int .i64 (zz:Nat)),(1, .pointer (some ⟨b1,0,none⟩)),(33,c.blocks.sv.val),(34, .int .i64 (c.blocks.xs.length:Nat))]) (fun zz=>[ar b1 (aD c) 25]) (fun zz=>zz≤c.blocks.xs.length∧ ∀j b,j<zz→(gF c.blocks.xs)[j]? =Option.some b→mE c.pages c.size b=true) (fun zz=>c.blocks.xs.length -zz) 0 ⟨Nat.zero_le _,fun j b hj=>by first|omega|(simp only[];omega)⟩ (Sub.cons rfl (Sub.cons rfl (Sub.cons rfl (Sub.cons rfl (Sub.nil _))))) (fun w hw=>ah.mem hw) ?_
  rintro i ⟨bj,aH⟩
  refine Gc ?_
  refine Gs ?_
  refine Gc ?_
  refine au rfl (fun h1=> ?_) (fun h1=> ?_)
  ·
   replace h1:=bz h1
   iterate 6 refine Gi ?_
   obtain⟨x,hx⟩:=get_some (xs:=c.blocks.xs) (i:=i) (by omega)
   refine ag (bk rfl rfl i rfl (by omega)) ?_
   refine ag (gR rfl i hx rfl) ?_
   have ahi:Mb x c.blocks:=⟨List.mem_of_getElem? hx⟩
   refine bH fun b4=> ?_
   refine Gs ?_
   refine Gc ?_
   iterate 7 refine Gs ?_
   iterate 3 refine Gg ?_
   iterate 2 refine Gs ?_
   iterate 5 refine Gg ?_
   iterate 2 refine Gs ?_
   iterate 3 refine Gg ?_
   iterate 2 refine Gs ?_
   iterate 3 refine Gg ?_
   refine Gs ?_
   refine Gc ?_
   refine au rfl (fun h2=> ?_) (fun h2=> ?_)
   ·
    replace h2:=bz h2
    have hz:aV (cv c)=false:=by
     cases hk:aV (cv c)with
     |false=>rfl
     |true=>
      have g:=dV.1 ((bR.1 hk).2.2.2.2 (bv x) (List.mem_of_getElem? (jn hx)))
      simp only[bv,jF]at g
      omega
    refine Gc ?_
    refine Gs ?_
    refine Gc ?_
    refine aq (.inl rfl) (aJ rfl (al rfl)) (fun w1 hw=> ?_)
    exact⟨congrArg (fun b=>Ending.returned (Value.bool b)) (hz.symm),ah.mem hw⟩
   ·
    replace h2:=bz h2
    refine Gc ?_
    iterate 4 refine Gs ?_
    refine Gc ?_
    refine cc (X:=Nat) (fun zz=>[(70, .int .i64 (zz:Nat)),(1, .pointer (some ⟨b1,0,none⟩)),(33,c.blocks.sv.val),(34, .int .i64 (c.blocks.xs.length:Nat)),(35, .int .i64 (i:Nat)),(68,x.pages.sv.val),(69, .int .i64 (x.pages.xs.length:Nat))]) (fun zz=>[ar b4 (bN x) 48,ar b1 (aD c) 25]) (fun zz=>zz≤x.pages.xs.length∧ ∀k y,k<zz→(bv x).pages[k]? =Option.some y→(y.length:Int)=c.size) (fun zz=>x.pages.xs.length -zz) 0 ⟨Nat.zero_le _,fun k y hk=>by first|omega|(simp only[];omega)⟩ (Sub.cons rfl (Sub.cons rfl (Sub.cons rfl (Sub.cons rfl (Sub.cons rfl (Sub.cons rfl (Sub.cons rfl (Sub.nil _)))))))) (fun w hw=>ah.mem hw) ?_
    rintro j ⟨iG,dF⟩
    refine Gc ?_
    refine Gs ?_
    refine Gc ?_
    refine au rfl (fun h3=> ?_) (fun h3=> ?_)
    ·
     replace h3:=bz h3
     iterate 6 refine Gi ?_
     obtain⟨y,hy⟩:=get_some (xs:=x.pages.xs) (i:=j) (by omega)
     refine ag (bk rfl rfl j rfl (by omega)) ?_
     refine ag (bP (j:=0) rfl j hy rfl (by decide)) ?_
     have ahj:Mb y _:=⟨List.mem_of_getElem? hy⟩
     refine Gs ?_
     refine Gc ?_
     iterate 5 refine Gs ?_
     refine Gc ?_
     refine au rfl (fun h4=> ?_) (fun h4=> ?_)
     ·
      replace h4:=bz h4
      have hz:aV (cv c)=false:=by
       cases hk:aV (cv c)with
       |false=>rfl
       |true=>
        have g:=(dV.1 ((bR.1 hk).2.2.2.2 (bv x) (List.mem_of_getElem? (jn hx)))).2.2.2.2.2 y.xs (List.mem_of_getElem? (k7 hy))
        omega
      refine Gc ?_
      refine Gs ?_
      refine Gc ?_
      refine aq (.inl rfl) (aJ rfl (al rfl)) (fun w1 hw=> ?_)
      exact⟨congrArg (fun b=>Ending.returned (Value.bool b)) (hz.symm),ah.mem hw⟩
     ·
      replace h4:=bz h4
      refine Gc ?_
      iterate 2 refine Gs ?_
      refine Gi ?_
      exact bA (x:=(j)) (j+1) ⟨by first|omega|(simp only[];omega),fun k z hk hz=>if e:k=j then(by subst e;rw[show(bv x).pages=aK x.pages.xs from rfl,k7 hy]at hz;cases hz;omega)else dF k z (by first|omega|(simp only[];omega)) hz⟩ (by first|omega|(simp only[];omega)) (Sub.cons rfl (Sub.cons rfl (Sub.cons rfl (Sub.cons rfl (Sub.cons rfl (Sub.cons rfl (Sub.cons rfl (Sub.nil _)))))))) (fun w hw=>ah.mem hw)
    ·
     replace h3:=bz h3
     have rF:mE c.pages c.size (bv x)=true:=dV.2 ⟨by simp only[bv,jF];omega,by simp only[bv];omega,by simp only[bv];omega,by simp only[bv];omega,by simp only[bv];omega,fun y hy=>by
      obtain⟨k,hk⟩:=List.getElem?_of_mem hy
      exact dF k y (by have h:=(List.getElem?_eq_some_iff.1 hk).1;simp only[bv,jF]at h;omega) hk⟩
     refine Gc ?_
     iterate 2 refine Gs ?_
     refine Gi ?_
     exact bA (x:=(i)) (i+1) ⟨by first|omega|(simp only[];omega),fun j b hj hb=>if e:j=i then(by subst e;rw[jn hx]at hb;cases hb;exact rF)else aH j b (by first|omega|(simp only[];omega)) hb⟩ (by first|omega|(simp only[];omega)) (Sub.cons rfl (Sub.cons rfl (Sub.cons rfl (Sub.cons rfl (Sub.nil _))))) (fun w hw=>ah.mem hw)
  ·
   replace h1:=bz h1
   obtain rfl:i=c.blocks.xs.length:=by omega
   have hz:aV (cv c)=true:=bR.2 ⟨g0.1,g0.2.1,g0.2.2.1,g0.2.2.2,fun b hb=>by
    obtain⟨j,hj⟩:=List.getElem?_of_mem hb
    exact aH j b (by have:=(List.getElem?_eq_some_iff.1 hj).1;omega) hj⟩
   refine Gc ?_
   refine Gs ?_
   refine Gc ?_
   refine aq (.inl rfl) (aJ rfl (al rfl)) (fun w1 hw=> ?_)
   exact⟨congrArg (fun b=>Ending.returned (Value.bool b)) (hz.symm),ah.mem hw⟩
instance ahk{w0:World}{L:List ai}{c:Cp}[hc:aW w0 L c]:cI Tryz.prog 68 w0 L [.agg (aD c)] (.bool (aV (cv c))) (True):=⟨fun hp w hw=>Vz w c (hc.h w hw)⟩
open Go.aA Go.Kb
open Go.RowKit
theorem VA{xs:List UInt8}{k i:Nat}(h:k+i<xs.length):(xs.take k++(List.replicate i 255++xs.drop (k+i))).set (k+i) 255=xs.take k++(List.replicate (i+1) 255++xs.drop (k+(i+1))):=by
 rw[List.set_append_right _ _ (by rw[List.length_take];omega),List.length_take,Nat.min_eq_left (by omega),Nat.add_sub_cancel_left,List.set_append_right _ _ (by simp),List.length_replicate,Nat.sub_self,List.drop_eq_getElem_cons h,List.set_cons_zero,List.replicate_succ',List.append_assoc,List.singleton_append,Nat.add_assoc]
theorem VB(w0 w:World)(L:List ai)(rm:Sv)(k:Nat)(n:Nat)(cap:Nat)(xs:List UInt8)(hw:Mem w0 (own aN 1 rm xs::L) w)(bc:k+n≤xs.length∧n≤1000000):Calls Tryz.prog 66 #[.slice (some ⟨rm.b,rm.o+k,none⟩) n cap] w fun e w'=> ∃zz:Unit,e= .returned (.tuple #[])∧(True)∧Mem w0 (own aN 1 rm (xs.take k++(List.replicate n 255++xs.drop (k+n)))::L) w':=by
 obtain⟨kP,je⟩:=bc
 refine kB (args:=[_]) Tryz.func66 rfl Tryz.ntmps66 rfl hw ?_
 change Cw _ _ _ _ _ [(0, .slice (some ⟨rm.b,rm.o+k,none⟩) n cap)] (own aN 1 rm xs::L)
 refine Gc ?_
 refine Gs ?_
 refine ag (uP rfl) ?_
 refine Gs ?_
 refine Gc ?_
 refine cc (X:=Nat×List UInt8) (fun zz=>[(5, .int .i64 (zz.1:Nat)),(0, .slice (some ⟨rm.b,rm.o+k,none⟩) n cap),(4, .int .i64 (n:Nat))]) (fun zz=>own aN 1 rm zz.2::L) (fun zz=>zz.1≤n∧zz.2=xs.take k++(List.replicate zz.1 255++xs.drop (k+zz.1))) (fun zz=>n -zz.1) (0,xs) ⟨Nat.zero_le _,by simp⟩ (Sub.cons rfl (Sub.cons rfl (Sub.cons rfl (Sub.nil _)))) (fun w hw=>ah.mem hw) ?_
 rintro⟨i,zs⟩ ⟨bj,aH⟩
 dsimp only
 simp only at bj aH
 have oV:zs.length=xs.length:=by rw[aH];simp only[List.length_append,List.length_take,List.length_replicate,List.length_drop];omega
 refine Gc ?_
 refine Gs ?_
 refine Gc ?_
 refine au rfl (fun h0=> ?_) (fun h0=> ?_)
 ·
  replace h0:=bz h0
  refine Gc ?_
  iterate 2 refine Gs ?_
  refine Gc ?_
  iterate 2 refine Gs ?_
  refine ag (Je (b:=rm.b) (o:=rm.o+k) (len:=n) (cap:=cap) rfl rfl (by omega) (by omega)) ?_
  obtain⟨z,hz⟩:=get_some (xs:=zs) (i:=k+i) (by omega)
  refine kX (s:=rm) (n:=1) (k:=k+i) (j:=0) (a:=z) (a':=(255:UInt8)) (xs:=zs) (enc:=aN) (c:=1) (v:= .int .u8 255) (by kernel_rfl) rfl rfl (by omega) hz (by simp[Value.cells,Value.oneCell']) rfl (by omega) (by rfl) ?_
  refine Gc ?_
  iterate 2 refine Gs ?_
  refine Gi ?_
  exact bA (x:=(i,zs)) (i+1,zs.set (k+i) 255) ⟨by first|omega|(simp only[];omega),by rw[aH];exact VA (by first|omega|(simp only[];omega))⟩ (by simp only;omega) (Sub.cons rfl (Sub.cons rfl (Sub.cons rfl (Sub.nil _)))) (fun w hw=>ah.mem hw)
 ·
  replace h0:=bz h0
  obtain rfl:i=n:=by omega
  refine Gc ?_
  refine aq (.inr rfl) (GL rfl) (fun w1 hw=> ?_)
  exact⟨(),rfl,trivial,by rw[←aH];exact ah.mem hw⟩
instance VC{w0:World}{L L2:List ai}{i:Nat}{rm:Sv}{k:Nat}{n:Nat}{cap:Nat}{xs:List UInt8}[q:fJ L rm aN 1 xs i][d1:dw L i L2]:cn Tryz.prog 66 w0 L [.slice (some ⟨rm.b,rm.o+k,none⟩) n cap] (Unit) (fun zz=> .tuple #[]) (fun zz=>own aN 1 rm (xs.take k++(List.replicate n 255++xs.drop (k+n)))::L2) (fun zz=>True) (k+n≤xs.length∧n≤1000000):=⟨fun hp w hw=>VB w0 w L2 rm k n cap xs (GO q.h d1.h hw) hp⟩
theorem VD(w:World)(s:Sv)(ss:List Bk)(hs:bQ bN 4 (hp w) s ss)(bc:ss.length≤1000000):Calls Tryz.prog 107 #[s.val] w fun e w'=> ∃zz:Sv,e= .returned (zz.val)∧(True)∧Mem w [own bN 4 zz ss] w':=by
 have vH:Gv w s bN 4 ss:=⟨hs⟩
 refine ba (args:=[_]) Tryz.func107 rfl Tryz.ntmps107 rfl ?_
 change Cw _ _ _ _ _ [(0,s.val)] []
 refine Gc ?_
 refine Gs ?_
 refine Gc ?_
 refine Gs ?_
 refine ag (sq Tryz.underlying22 rfl) ?_
 refine Gc ?_
 refine au rfl (fun h0=> ?_) (fun h0=> ?_)
 ·
  replace h0:=bz h0
  have e0:ss=[]:=List.length_eq_zero_iff.1 (by have:=hs.ok.nil h0;have:=hs.len;omega)
  refine Gc ?_
  refine Gs ?_
  refine Gc ?_
  refine aq (.inl rfl) (aJ rfl (al rfl)) (fun w1 hw=> ?_)
  exact⟨Sv.none,rfl,trivial,by rw[e0];exact(ah.mem hw:Mem w [] _).dZ bN 4⟩
 ·
  replace h0:=bz h0
  refine Gc ?_
  refine tC bN fun b5=> ?_
  refine Gs ?_
  refine my (s:=⟨false,b5,0,0,0,none⟩) (enc:=bN) (ys:=ss) rfl rfl (by decide) (fun w hw=>kW (s:=s) Tryz.underlying22 (by decide) ((inferInstance:df _ _ bN 4 s ss).h w hw)) (by simp only[List.length_nil];omega) (by simp only[List.length_nil];omega) fun s7 vI ub=> ?_
  refine Gs ?_
  refine Gc ?_
  refine aq (.inl rfl) (aJ rfl (al rfl)) (fun w1 hw=> ?_)
  exact⟨s7,rfl,trivial,by rw[List.nil_append]at hw;exact ah.mem hw⟩
instance ahl{w0:World}{L:List ai}{s:Sv}{ss:List Bk}[hs:df w0 L bN 4 s ss]:cn Tryz.prog 107 w0 L [s.val] (Sv) (fun zz=>zz.val) (fun zz=>own bN 4 zz ss::L) (fun zz=>True) (ss.length≤1000000):=⟨fun hp w hw=>(VD w s ss (hs.h w hw) hp).mono fun e w' ⟨x,h1,h2,h3⟩=>⟨x,h1,h2,hw.call h3⟩⟩
theorem VE(w:World)(s:Sv)(ss:List Ft)(hs:bQ dn 4 (hp w) s ss)(bc:ss.length≤1000000):Calls Tryz.prog 69 #[s.val] w fun e w'=> ∃zz:Sv,e= .returned (zz.val)∧(True)∧Mem w [own dn 4 zz ss] w':=by
 have vH:Gv w s dn 4 ss:=⟨hs⟩
 refine ba (args:=[_]) Tryz.func69 rfl Tryz.ntmps69 rfl ?_
 change Cw _ _ _ _ _ [(0,s.val)] []
 refine Gc ?_
 refine Gs ?_
 refine Gc ?_
 refine Gs ?_
 refine ag (sq Tryz.underlying23 rfl) ?_
 refine Gc ?_
 refine au rfl (fun h0=> ?_) (fun h0=> ?_)
 ·
  replace h0:=bz h0
  have e0:ss=[]:=List.length_eq_zero_iff.1 (by have:=hs.ok.nil h0;have:=hs.len;omega)
  refine Gc ?_
  refine Gs ?_
  refine Gc ?_
  refine aq (.inl rfl) (aJ rfl (al rfl)) (fun w1 hw=> ?_)
  exact⟨Sv.none,rfl,trivial,by rw[e0];exact(ah.mem hw:Mem w [] _).dZ dn 4⟩
 ·
  replace h0:=bz h0
  refine Gc ?_
  refine tC dn fun b5=> ?_
  refine Gs ?_
  refine my (s:=⟨false,b5,0,0,0,none⟩) (enc:=dn) (ys:=ss) rfl rfl (by decide) (fun w hw=>kW (s:=s) Tryz.underlying23 (by decide) ((inferInstance:df _ _ dn 4 s ss).h w hw)) (by simp only[List.length_nil];omega) (by simp only[List.length_nil];omega) fun s7 vI ub=> ?_
  refine Gs ?_
  refine Gc ?_
  refine aq (.inl rfl) (aJ rfl (al rfl)) (fun w1 hw=> ?_)
  exact⟨s7,rfl,trivial,by rw[List.nil_append]at hw;exact ah.mem hw⟩
instance ahm{w0:World}{L:List ai}{s:Sv}{ss:List Ft}[hs:df w0 L dn 4 s ss]:cn Tryz.prog 69 w0 L [s.val] (Sv) (fun zz=>zz.val) (fun zz=>own dn 4 zz ss::L) (fun zz=>True) (ss.length≤1000000):=⟨fun hp w hw=>(VE w s ss (hs.h w hw) hp).mono fun e w' ⟨x,h1,h2,h3⟩=>⟨x,h1,h2,hw.call h3⟩⟩
theorem VF(w:World)(ps:Sl (Sl UInt8))(zV:Deep.bb (hp w) ps)(bc:Fw (aK ps.xs)):Calls Tryz.prog 108 #[ps.sv.val] w fun e w'=> ∃zz:Sl (Sl UInt8),e= .returned (zz.sv.val)∧(aK zz.xs=aK ps.xs)∧Mem w [eY zz] w':=by
 have ahn:cm w ps:=⟨zV⟩
 obtain⟨kP,je⟩:=bc
 have bX:=jF ps.xs
 rw[bX]at kP
 refine ba (args:=[_]) Tryz.func108 rfl Tryz.ntmps108 rfl ?_
 change Cw _ _ _ _ _ [(0,ps.sv.val)] []
 refine Gc ?_
 refine Gs ?_
 refine Gc ?_
 refine Gs ?_
 refine ag (sq Tryz.underlying46 rfl) ?_
 refine Gc ?_
 refine au rfl (fun h0=> ?_) (fun h0=> ?_)
 ·
  replace h0:=bz h0
  have e0:ps.xs=[]:=List.length_eq_zero_iff.1 (by have:=zV.1.ok.nil h0;have:=zV.1.len;omega)
  refine Gc ?_
  refine Gs ?_
  refine Gc ?_
  refine aq (.inl rfl) (aJ rfl (al rfl)) (fun w1 hw=> ?_)
  exact⟨⟨Sv.none,[]⟩,rfl,by rw[e0],Th (Mem.dZ (ca (τ:=UInt8)) 1 (ah.mem hw:Mem w [] _))⟩
 ·
  replace h0:=bz h0
  refine Gc ?_
  refine Gs ?_
  refine Gc ?_
  iterate 3 refine Gs ?_
  refine Gc ?_
  refine cc (X:=Nat×Nat) (fun zz=>[(15, .int .i64 (zz.1:Nat)),(3, .int .i64 (zz.2:Nat)),(0,ps.sv.val),(13,ps.sv.val),(14, .int .i64 (ps.xs.length:Nat))]) (fun zz=>[]) (fun zz=>zz.1≤ps.xs.length∧zz.2=((aK ps.xs).take zz.1).flatten.length) (fun zz=>ps.xs.length -zz.1) (0,0) ⟨Nat.zero_le _,by simp⟩ (Sub.cons rfl (Sub.cons rfl (Sub.cons rfl (Sub.cons rfl (Sub.cons rfl (Sub.nil _)))))) (fun w hw=>ah.mem hw) ?_
  rintro⟨i,mm⟩ ⟨bj,aH⟩
  dsimp only
  simp only at bj aH
  refine Gc ?_
  refine Gs ?_
  refine Gc ?_
  refine au rfl (fun h1=> ?_) (fun h1=> ?_)
  ·
   replace h1:=bz h1
   obtain⟨y,hy⟩:=get_some (xs:=ps.xs) (i:=i) (by omega)
   have M0:Mb y ps:=⟨List.mem_of_getElem? hy⟩
   have xG:=zy (k7 hy)
   have jj:=zA (aK ps.xs) (i+1)
   refine Gc ?_
   refine ag (bk rfl rfl i rfl (by omega)) ?_
   refine ag (bP (j:=0) rfl i hy rfl (by decide)) ?_
   have aho:Mb y _:=⟨List.mem_of_getElem? hy⟩
   refine Gs ?_
   refine Gc ?_
   iterate 5 refine Gs ?_
   refine Gc ?_
   iterate 2 refine Gs ?_
   refine Gi ?_
   exact bA (x:=(i,mm)) (i+1,mm+y.xs.length) ⟨by first|omega|(simp only[];omega),by rw[aH,xG]⟩ (by simp only;omega) (Sub.cons rfl (Sub.cons rfl (Sub.cons rfl (Sub.cons rfl (Sub.cons rfl (Sub.nil _)))))) (fun w hw=>ah.mem hw)
  ·
   replace h1:=bz h1
   obtain rfl:i=ps.xs.length:=by omega
   rw[List.take_of_length_le (by omega)]at aH
   have hN:mm=(aK ps.xs).flatten.length:=aH
   refine Gc ?_
   refine Gs ?_
   refine tA (enc:=aN) (n:=0) (cap:=mm) 0 rfl rfl rfl rfl rfl (by omega) (by omega) (by omega) fun uc=> ?_
   refine Gs ?_
   refine Gc ?_
   iterate 2 refine Gs ?_
   refine tA (enc:=ca (τ:=UInt8)) (n:=ps.xs.length) (cap:=ps.xs.length) (⟨Sv.none,[]⟩:Sl UInt8) rfl rfl rfl rfl rfl (by omega) (by omega) (by omega) fun C6=> ?_
   refine Gs ?_
   refine Gc ?_
   iterate 3 refine Gs ?_
   refine Gc ?_
   refine cc (X:=Nat×Nat×List UInt8×List (Sl UInt8)) (fun zz=>[(31, .int .i64 (zz.1:Nat)),(6,(⟨false,uc,0,zz.2.1,mm,none⟩:Sv).val),(7,(⟨false,C6,0,ps.xs.length,ps.xs.length,none⟩:Sv).val),(29,ps.sv.val),(30, .int .i64 (ps.xs.length:Nat))]) (fun zz=>[own aN 1 ⟨false,uc,0,zz.2.1,mm,none⟩ zz.2.2.1,own (ca (τ:=UInt8)) 1 ⟨false,C6,0,ps.xs.length,ps.xs.length,none⟩ zz.2.2.2]) (fun zz=>zz.1≤ps.xs.length∧zz.2.1=zz.2.2.1.length∧zz.2.2.1=((aK ps.xs).take zz.1).flatten∧zz.2.2.2=dt ⟨false,uc,0,mm,mm,none⟩ 0 ((aK ps.xs).take zz.1)++List.replicate (ps.xs.length -zz.1) (⟨Sv.none,[]⟩:Sl UInt8)) (fun zz=>ps.xs.length -zz.1) (0,0,List.replicate 0 0,List.replicate ps.xs.length (⟨Sv.none,[]⟩:Sl UInt8)) ⟨Nat.zero_le _,rfl,by simp,by simp[dt]⟩ (Sub.cons rfl (Sub.cons rfl (Sub.cons rfl (Sub.cons rfl (Sub.cons rfl (Sub.nil _)))))) (fun w hw=>ah.mem hw) ?_
   rintro⟨i,m,r,zs⟩ ⟨bj,aH,bG,di⟩
   dsimp only
   simp only at bj aH bG di
   refine Gc ?_
   refine Gs ?_
   refine Gc ?_
   refine au rfl (fun h2=> ?_) (fun h2=> ?_)
   ·
    replace h2:=bz h2
    obtain⟨y,hy⟩:=get_some (xs:=ps.xs) (i:=i) (by omega)
    have M0:Mb y ps:=⟨List.mem_of_getElem? hy⟩
    have xG:=zy (k7 hy)
    have jj:=zA (aK ps.xs) (i+1)
    have ud:r.length+y.xs.length≤mm:=by rw[hN,bG,←xG];exact jj
    have od:=get_some (xs:=zs) (i:=i) (by rw[di,List.length_append,Fu,List.length_take,List.length_replicate];omega)
    obtain⟨z,hz⟩:=od
    have oV:i<zs.length:=(List.getElem?_eq_some_iff.1 hz).1
    refine Gc ?_
    refine Gs ?_
    refine ag (bk rfl rfl i rfl (by omega)) ?_
    refine ag (bP (j:=0) rfl i hy rfl (by decide)) ?_
    have ahp:Mb y _:=⟨List.mem_of_getElem? hy⟩
    iterate 2 refine Gs ?_
    refine Gc ?_
    iterate 3 refine Gs ?_
    refine Gc ?_
    iterate 2 refine Gs ?_
    refine Tf (s:=⟨false,uc,0,m,mm,none⟩) (enc:=aN) (xs:=r) (ys:=y.xs) rfl rfl (fun w hw=>kW (s:=y.sv) Tryz.underlying38 (by decide) ((inferInstance:df _ _ aN 1 y.sv y.xs).h w hw)) rfl (by simp only;omega) (by simp only;omega) ?_
    refine Gs ?_
    refine Gc ?_
    iterate 8 refine Gs ?_
    refine ag (Ry.to (v':=(fL (⟨false,uc,0,mm,mm,none⟩:Sv) r.length (r.length+y.xs.length)).val) (Kq (l:=r.length) (h:=(r++y.xs).length) (m:=(r++y.xs).length) rfl rfl rfl rfl rfl rfl rfl (by simp) (by simp) (by simp)) (by simp[fL,Sv.sub,Sv.top])) ?_
    refine ag (bk rfl rfl i rfl (by omega)) ?_
    refine BH (s:=⟨false,C6,0,ps.xs.length,ps.xs.length,none⟩) (xs:=zs) (k:=i) (a:=z) (⟨(fL (⟨false,uc,0,mm,mm,none⟩:Sv) r.length (r.length+y.xs.length)),y.xs⟩:Sl UInt8) (by kernel_rfl) rfl rfl (by omega) hz ?_
    refine Gc ?_
    iterate 2 refine Gs ?_
    refine Gi ?_
    exact bA (x:=(i,m,r,zs)) (i+1,m+y.xs.length,r++y.xs,zs.set i ⟨(fL (⟨false,uc,0,mm,mm,none⟩:Sv) r.length (r.length+y.xs.length)),y.xs⟩) ⟨by first|omega|(simp only[];omega),by rw[List.length_append,aH],by rw[bG,List.take_add_one,k7 hy];simp,by rw[di];exact Tj (by rw[bX]) bG (k7 hy)⟩ (by simp only;omega) (Sub.cons rfl (Sub.cons rfl (Sub.cons rfl (Sub.cons rfl (Sub.cons rfl (Sub.nil _)))))) (fun w hw=>ah.mem hw)
   ·
    replace h2:=bz h2
    obtain rfl:i=ps.xs.length:=by omega
    rw[List.take_of_length_le (by omega)]at bG di
    rw[Nat.sub_self,List.replicate_zero,List.append_nil]at di
    refine Gc ?_
    iterate 2 refine Gs ?_
    refine Gc ?_
    refine aq (.inl rfl) (aJ rfl (al rfl)) (fun w1 hw=> ?_)
    exact⟨⟨⟨false,C6,0,ps.xs.length,ps.xs.length,none⟩,zs⟩,rfl,by rw[di,tK],KF (rm:=⟨false,uc,0,mm,mm,none⟩) di rfl (by rw[show m=mm by rw[aH,bG,hN],bG]at hw;exact ah.mem hw)⟩
instance ahq{w0:World}{L:List ai}{ps:Sl (Sl UInt8)}[zV:aW w0 L ps]:cn Tryz.prog 108 w0 L [ps.sv.val] (Sl (Sl UInt8)) (fun zz=>zz.sv.val) (fun zz=>eY zz::L) (fun zz=>aK zz.xs=aK ps.xs) (Fw (aK ps.xs)):=⟨fun hp w hw=>(VF w ps (zV.h w hw) hp).mono fun e w' ⟨x,h1,h2,h3⟩=>⟨x,h1,h2,hw.call h3⟩⟩
open Go.aA Go.Kb
open Go.RowKit
theorem VG(w:World)(c:Cp)(hc:Deep.bb (hp w) c)(bc:dW c):Calls Tryz.prog 67 #[.agg (aD c)] w fun e w'=> ∃zz:Cp,e= .returned (.agg (aD zz))∧(cv zz=cv c)∧Mem w [own bN 4 zz.blocks.sv zz.blocks.xs,ai.all (zz.blocks.xs.map fun b:Bk=>eY b.pages),own dn 4 zz.aQ.sv zz.aQ.xs] w':=by
 have ke:cm w c:=⟨hc⟩
 obtain⟨kP,je,og⟩:=bc
 refine ba (args:=[_]) Tryz.func67 rfl Tryz.ntmps67 rfl ?_
 change Cw _ _ _ _ _ [(0, .agg (aD c))] []
 refine Gc ?_
 refine bY rfl fun b1=> ?_
 refine bH fun b2=> ?_
 refine Gc ?_
 iterate 2 refine Gs ?_
 refine bo rfl (by omega) fun x6 M1=> ?_
 refine Gs ?_
 refine eV (cs':=aD (⟨c.pages,c.size,⟨x6,c.blocks.xs⟩,c.ops,c.off,c.aQ⟩:Cp)) rfl rfl (by show 2<6;decide) (by first|rfl|exact Sv.one _) rfl ?_
 refine Gc ?_
 iterate 4 refine Gs ?_
 refine Gc ?_
 refine cc (X:=Nat×List Bk) (fun zz=>[(11, .int .i64 (zz.1:Nat)),(1, .pointer (some ⟨b1,0,none⟩)),(2, .pointer (some ⟨b2,0,none⟩)),(10, .int .i64 (c.blocks.xs.length:Nat))]) (fun zz=>[own bN 4 x6 zz.2,ai.all ((zz.2.take zz.1).map fun b:Bk=>eY b.pages),ar b2 (aD gn) 25,ar b1 (aD (⟨c.pages,c.size,⟨x6,zz.2⟩,c.ops,c.off,c.aQ⟩:Cp)) 25]) (fun zz=>zz.1≤c.blocks.xs.length∧zz.2.length=c.blocks.xs.length∧gF zz.2=gF c.blocks.xs∧ ∀j,zz.1≤j→zz.2[j]? =c.blocks.xs[j]?) (fun zz=>c.blocks.xs.length -zz.1) (0,c.blocks.xs) ⟨Nat.zero_le _,rfl,rfl,fun _ _=>rfl⟩ (Sub.cons rfl (Sub.cons rfl (Sub.cons rfl (Sub.cons rfl (Sub.nil _))))) (fun w hw=>by
  simp only[List.take_zero,List.map_nil];exact ah.mem (Mem.vo hw)) ?_
 rintro⟨i,zs⟩ ⟨bj,aH,bG,di⟩
 dsimp only
 simp only at bj aH bG di
 refine Gc ?_
 refine Gs ?_
 refine Gc ?_
 refine au rfl (fun h0=> ?_) (fun h0=> ?_)
 ·
  replace h0:=bz h0
  obtain⟨z,hz⟩:=get_some (xs:=zs) (i:=i) (by omega)
  have ue:Mb z c.blocks:=⟨List.mem_of_getElem? (by rw[←di i (Nat.le_refl _)];exact hz)⟩
  refine Gc ?_
  iterate 2 refine Gs ?_
  iterate 2 refine Gi ?_
  refine B2 (s:=x6) (enc:=bN) (c:=4) (xs:=zs) inferInstance (by omega) fun hn6 hs6 VH VI=> ?_
  refine jE [9,12,1003,1004,1006,1007,1008,1010,1011] [[],[],[],[],[3],[],[3,4],[3,4,6],[3,4,6,7],[3,4,6,7,8],[3,4,6,7,8,9],[3,4,6,7,8,9,10],[3,4,6,7,8,9,10,11]] [0,1,2,3,4,5,6,7,8,9,10,11,12] [ar b1 (aD (⟨c.pages,c.size,⟨x6,zs⟩,c.ops,c.off,c.aQ⟩:Cp)) 25] (fun _ hw=>ah.mem hw) (by kernel_rfl) (by kernel_rfl) ?_
  refine an rfl (aI (o':=2) rfl rfl) ?_
  refine an rfl (bJ rfl) ?_
  refine an rfl (aE rfl) ?_
  refine kE rfl (aI (o':=2) rfl rfl) ?_
  refine kE rfl (bJ rfl) ?_
  refine an rfl (aE rfl) ?_
  refine kE rfl (bk rfl rfl i rfl (by omega)) ?_
  refine kE rfl (aI rfl rfl) ?_
  refine kE rfl (bP (j:=0) rfl i hz rfl (by decide)) ?_
  refine dN rfl (nZ rfl (og z ue.h) fun mP C7=>⟨fun _ hw=>ah.mem hw,?_⟩)
  refine kE rfl (lS (s:=x6) (i:=i) rfl rfl rfl VH (by omega)) ?_
  refine kE rfl (aI rfl rfl) ?_
  refine dN rfl (vl (n:=1) (k:=i) (j:=0) (a:=z) (a':=({z with pages:=mP}:Bk)) (xs:=zs) (enc:=bN) (c:=4) (v:=mP.sv.val) (by kernel_rfl) rfl rfl rfl hz (by rw[Sv.jm];simp[Sv.one]) (by rw[Sv.jm];rfl) (by decide) (by rw[Sv.jm];rfl) ⟨fun _ hw=>ah.mem hw,?_⟩)
  refine Gc ?_
  iterate 2 refine Gs ?_
  refine Gi ?_
  exact bA (x:=(i,zs)) (i+1,zs.set i ({z with pages:=mP}:Bk)) ⟨by first|omega|(simp only[];omega),by rw[List.length_set];exact aH,by rw[vq,←bG,show bv ({z with pages:=mP}:Bk)=bv z from by rw[bv,bv,C7],←vq,tL hz],fun j hj=>by rw[List.getElem?_set_ne (by first|omega|(simp only[];omega))];exact di j (by first|omega|(simp only[];omega))⟩ (by simp only;omega) (Sub.cons rfl (Sub.cons rfl (Sub.cons rfl (Sub.cons rfl (Sub.nil _))))) (fun w hw=>by
   have h1:=Mem.xe (e:=eY mP) (es:=(zs.take i).map fun b:Bk=>eY b.pages) (ah.mem hw:Mem _ (eY mP::ai.all ((zs.take i).map fun b:Bk=>eY b.pages)::[own bN 4 x6 (zs.set i ({z with pages:=mP}:Bk)),ar b2 (aD gn) 25,ar b1 (aD (⟨c.pages,c.size,⟨x6,zs⟩,c.ops,c.off,c.aQ⟩:Cp)) 25]) _)
   rw[Ts (z':=({z with pages:=mP}:Bk)) hz]at h1
   exact(ah.mem h1:Mem _ [own bN 4 x6 (zs.set i ({z with pages:=mP}:Bk)),ai.all (((zs.set i ({z with pages:=mP}:Bk)).take (i+1)).map fun b:Bk=>eY b.pages),ar b2 (aD gn) 25,ar b1 (aD (⟨c.pages,c.size,⟨x6,zs⟩,c.ops,c.off,c.aQ⟩:Cp)) 25] _))
 ·
  replace h0:=bz h0
  obtain rfl:i=zs.length:=by omega
  rw[List.take_of_length_le (Nat.le_refl _)]at*
  refine Gc ?_
  refine Gs ?_
  refine ag (Ry.to (v':=c.aQ.sv.val) (bJ rfl) rfl) ?_
  refine bo rfl (by omega) fun xH GQ=> ?_
  refine Gs ?_
  refine eV (cs':=aD (⟨c.pages,c.size,⟨x6,zs⟩,c.ops,c.off,⟨xH,c.aQ.xs⟩⟩:Cp)) rfl rfl (by show 5<6;decide) (by first|rfl|exact Sv.one _) rfl ?_
  refine Gc ?_
  iterate 2 refine Gs ?_
  refine Gc ?_
  refine aq (.inl rfl) (aJ rfl (cf rfl)) (fun w1 hw=> ?_)
  exact⟨⟨c.pages,c.size,⟨x6,zs⟩,c.ops,c.off,⟨xH,c.aQ.xs⟩⟩,rfl,by simp only[cv,bG],ah.mem hw⟩
instance ahr{w0:World}{L:List ai}{c:Cp}[hc:aW w0 L c]:cn Tryz.prog 67 w0 L [.agg (aD c)] (Cp) (fun zz=> .agg (aD zz)) (fun zz=>own bN 4 zz.blocks.sv zz.blocks.xs::ai.all (zz.blocks.xs.map fun b:Bk=>eY b.pages)::own dn 4 zz.aQ.sv zz.aQ.xs::L) (fun zz=>cv zz=cv c) (dW c):=⟨fun hp w hw=>(VG w c (hc.h w hw) hp).mono fun e w' ⟨x,h1,h2,h3⟩=>⟨x,h1,h2,hw.call h3⟩⟩
theorem VJ(w:World)(c:Cp)(b:Int)(hc:Deep.bb (hp w) c):Calls Tryz.prog 159 #[.agg (aD c), .int .i64 b] w fun e w'=>e= .returned (.bool (gp (cv c) b))∧Mem w [] w':=by
 have ke:cm w c:=⟨hc⟩
 refine ba (args:=[_,_]) Tryz.func159 rfl Tryz.ntmps159 rfl ?_
 change Cw _ _ _ _ _ [(0, .agg (aD c)),(1, .int .i64 b)] []
 refine Gc ?_
 refine bY rfl fun b2=> ?_
 refine Gs ?_
 refine Gc ?_
 iterate 3 refine Gs ?_
 iterate 2 refine Gg ?_
 iterate 2 refine Gs ?_
 iterate 5 refine Gg ?_
 iterate 2 refine Gs ?_
 refine Gc ?_
 refine aq (.inl rfl) (aJ rfl (al rfl)) (fun w1 hw=> ?_)
 exact⟨congrArg (fun b=>Ending.returned (Value.bool b)) ((by simp only[gp,cv,fB])),ah.mem hw⟩
instance ahs{w0:World}{L:List ai}{c:Cp}{b:Int}[hc:aW w0 L c]:cI Tryz.prog 159 w0 L [.agg (aD c), .int .i64 b] (.bool (gp (cv c) b)) (True):=⟨fun hp w hw=>VJ w c b (hc.h w hw)⟩
theorem VK(w:World)(c:Cp)(hc:Deep.bb (hp w) c)(bc:c.aQ.xs.length≤1000000):Calls Tryz.prog 160 #[.agg (aD c)] w fun e w'=>e= .returned (.tuple #[.agg (dn ((br (cv c)).1)), .bool ((br (cv c)).2)])∧Mem w [] w':=by
 have ke:cm w c:=⟨hc⟩
 refine ba (args:=[_]) Tryz.func160 rfl Tryz.ntmps160 rfl ?_
 change Cw _ _ _ _ _ [(0, .agg (aD c))] []
 refine Gc ?_
 refine bY rfl fun b1=> ?_
 refine bH fun b2=> ?_
 refine Gs ?_
 refine Gc ?_
 iterate 4 refine Gs ?_
 refine Gc ?_
 refine cc (X:=Nat) (fun zz=>[(9, .int .i64 (zz:Nat)),(1, .pointer (some ⟨b1,0,none⟩)),(2, .pointer (some ⟨b2,0,none⟩)),(7,c.aQ.sv.val),(8, .int .i64 (c.aQ.xs.length:Nat))]) (fun zz=>[ar b2 (dn w7) 94,ar b1 (aD c) 25]) (fun zz=>zz≤c.aQ.xs.length∧ ∀j f,j<zz→c.aQ.xs[j]? =Option.some f→f.op≠c.ops) (fun zz=>c.aQ.xs.length -zz) 0 ⟨Nat.zero_le _,fun j f hj=>by first|omega|(simp only[];omega)⟩ (Sub.cons rfl (Sub.cons rfl (Sub.cons rfl (Sub.cons rfl (Sub.cons rfl (Sub.nil _)))))) (fun w hw=>ah.mem hw) ?_
 rintro i ⟨bj,aH⟩
 refine Gc ?_
 refine Gs ?_
 refine Gc ?_
 refine au rfl (fun h0=> ?_) (fun h0=> ?_)
 ·
  replace h0:=bz h0
  iterate 6 refine Gi ?_
  obtain⟨f,hf⟩:=get_some (xs:=c.aQ.xs) (i:=i) (by omega)
  refine ag (bk rfl rfl i rfl (by omega)) ?_
  refine ag (gR rfl i hf rfl) ?_
  refine bH fun b5=> ?_
  refine Gs ?_
  refine Gc ?_
  iterate 5 refine Gs ?_
  refine Gc ?_
  refine au rfl (fun h1=> ?_) (fun h1=> ?_)
  ·
   replace h1:=bz h1
   have hs:br (cv c)=(f,f.cut||f.fail):=Tu hf aH h1
   refine Gi ?_
   refine jE [7] [[],[],[],[],[],[],[],[],[7]] [0,1,2,3,4,5,6,7,8] [ar b5 (dn f) 94,ar b1 (aD c) 25] (fun _ hw=>ah.mem hw) (by kernel_rfl) (by kernel_rfl) ?_
   refine an rfl (eJ rfl) ?_
   refine an rfl (aI (o':=2) rfl rfl) ?_
   refine an rfl (bJ rfl) ?_
   refine an rfl (aE rfl) ?_
   refine Kj rfl rfl rfl rfl (fun hg=>(Ry.yl (aI (o':=1) rfl rfl))) ?_
   refine Kj rfl rfl rfl rfl (fun hg=>(Ry.yl (bJ (aG hg rfl)))) ?_
   refine an rfl (mY rfl rfl rfl) ?_
   refine dN rfl (pz rfl rfl ⟨fun _ hw=>ah.mem hw,?_⟩)
   refine an rfl (bp rfl) ?_
   refine Gc ?_
   refine aq (.inl rfl) (bq rfl (cf rfl) (al rfl)) (fun w1 hw=> ?_)
   exact⟨(by rw[hs]),ah.mem hw⟩
  ·
   replace h1:=bz h1
   refine Gc ?_
   iterate 2 refine Gs ?_
   refine Gi ?_
   exact bA (x:=(i)) (i+1) ⟨by first|omega|(simp only[];omega),fun j g hj hg=>if e:j=i then(by subst e;rw[hf]at hg;cases hg;exact h1)else aH j g (by first|omega|(simp only[];omega)) hg⟩ (by first|omega|(simp only[];omega)) (Sub.cons rfl (Sub.cons rfl (Sub.cons rfl (Sub.cons rfl (Sub.cons rfl (Sub.nil _)))))) (fun w hw=>ah.mem hw)
 ·
  replace h0:=bz h0
  obtain rfl:i=c.aQ.xs.length:=by omega
  have hs:br (cv c)=(w7,false):=Tt (fun f hf=>by
   obtain⟨j,hj⟩:=List.getElem?_of_mem hf
   exact aH j f (List.getElem?_eq_some_iff.1 hj).1 hj)
  refine Gc ?_
  refine ag (cS (v:= .agg (dn w7)) rfl (fun w=>by kernel_rfl)) ?_
  iterate 2 refine Gs ?_
  refine Gc ?_
  refine aq (.inl rfl) (bq rfl (cf rfl) (al rfl)) (fun w1 hw=> ?_)
  exact⟨(by rw[hs]),ah.mem hw⟩
instance aht{w0:World}{L:List ai}{c:Cp}[hc:aW w0 L c]:cI Tryz.prog 160 w0 L [.agg (aD c)] (.tuple #[.agg (dn ((br (cv c)).1)), .bool ((br (cv c)).2)]) (c.aQ.xs.length≤1000000):=⟨fun hp w hw=>VK w c (hc.h w hw) hp⟩
theorem VL(w:World)(f:Ft):Calls Tryz.prog 161 #[.agg (dn f)] w fun e w'=>e= .returned (.tuple #[.bool f.cut, .int .i64 (kF f)])∧Mem w [] w':=by
 refine ba (args:=[_]) Tryz.func161 rfl Tryz.ntmps161 rfl ?_
 change Cw _ _ _ _ _ [(0, .agg (dn f))] []
 refine Gc ?_
 refine bY rfl fun b1=> ?_
 iterate 2 refine Gs ?_
 refine Gc ?_
 iterate 2 refine Gs ?_
 refine Gc ?_
 refine au rfl (fun h0=> ?_) (fun h0=> ?_)
 ·
  replace h0:=bz h0
  refine Gc ?_
  iterate 2 refine Gs ?_
  refine Gc ?_
  refine aq (.inl rfl) (bq rfl (al rfl) (al rfl)) (fun w1 hw=> ?_)
  exact⟨(by rw[kF,if_pos h0,h0]),ah.mem hw⟩
 ·
  replace h0:=bz h0
  refine Gc ?_
  iterate 2 refine Gs ?_
  refine Gc ?_
  refine aq (.inl rfl) (bq rfl (al rfl) (al rfl)) (fun w1 hw=> ?_)
  exact⟨(by rw[kF,if_neg (by rw[h0];simp),h0]),ah.mem hw⟩
instance ahu{w0:World}{L:List ai}{f:Ft}:cI Tryz.prog 161 w0 L [.agg (dn f)] (.tuple #[.bool f.cut, .int .i64 (kF f)]) (True):=⟨fun hp w hw=>VL w f⟩
open Go.aA Go.Kb
open Go.RowKit
theorem VM(w:World)(c:Cp)(b:Int)(hc:Deep.bb (hp w) c)(bc:dW c):Calls Tryz.prog 162 #[.agg (aD c), .int .i64 b] w fun e w'=> ∃zz:Cp,e= .returned (.tuple #[.agg (aD zz), .int .i64 (nq (cv c) b)])∧(cv zz=kG (cv c) b)∧Mem w [fz zz] w':=by
 have ke:cm w c:=⟨hc⟩
 have lH:dW c:=bc
 obtain⟨kP,je,og⟩:=bc
 refine ba (args:=[_,_]) Tryz.func162 rfl Tryz.ntmps162 rfl ?_
 change Cw _ _ _ _ _ [(0, .agg (aD c)),(1, .int .i64 b)] []
 refine Gc ?_
 refine bY rfl fun b2=> ?_
 refine bH fun b4=> ?_
 refine Gs ?_
 refine Gc ?_
 refine Gs ?_
 refine bo rfl (by assumption) fun x8 pT=> ?_
 refine bH fun b6=> ?_
 refine Gs ?_
 refine Gc ?_
 iterate 4 refine Gs ?_
 refine Gc ?_
 refine au rfl (fun h0=> ?_) (fun h0=> ?_)
 ·
  replace h0:=bz h0
  have hE:nq (cv c) b=1:=by rw[nq,if_neg (by rw[h0];simp)]
  refine Gc ?_
  iterate 3 refine Gs ?_
  refine Gc ?_
  refine aq (.inl rfl) (bq rfl (cf rfl) (al rfl)) (fun w1 hw=> ?_)
  exact⟨x8,by rw[hE],by rw[pT,kG,if_neg (by rw[hE];decide)],nr x8 (ah.mem hw)⟩
 ·
  replace h0:=bz h0
  have hk:gp (cv c) b=true:=h0
  have hh:=hk
  have vJ:=(gq.1 hh).2
  have dz:x8.blocks.xs.length=c.blocks.xs.length:=by have:=congrArg (fun v:CV=>v.blocks.length) pT;simpa only[cv,fB]using this
  have xI:x8.ops=c.ops:=congrArg CV.ops pT
  have oT:(cv c).blocks.length=c.blocks.xs.length:=fB _
  obtain⟨B,hB⟩:=get_some (xs:=x8.blocks.xs) (i:=b.toNat) (by omega)
  have mQ:b.toNat<x8.blocks.xs.length:=(List.getElem?_eq_some_iff.1 hB).1
  have eN:bv B=aj (cv c) b:=by
   have h1:=Ce hh
   have h2:=jn hB
   rw[show gF x8.blocks.xs=(cv c).blocks from congrArg CV.blocks pT,h1]at h2
   exact(Option.some.inj h2).symm
  have fV:mE c.pages c.size (bv B)=true:=by rw[eN];exact n8 hh
  obtain⟨o1,o2,o3,o4,o5,o6⟩:=dV.1 fV
  have ia:=jW.1 (eZ.1 (gq.1 hh).1).1
  have zW:=(eZ.1 (gq.1 hh).1).2.1
  simp only[bv,cv]at o1 o2 o3 o4 o5 o6 ia zW
  have M3:=jF B.pages.xs
  refine Gc ?_
  iterate 2 refine Gs ?_
  refine Gc ?_
  refine au rfl (fun h1=> ?_) (fun h1=> ?_)
  ·
   replace h1:=bz h1
   have hE:nq (cv c) b=7:=by rw[nq,if_pos hk,if_pos (show(cv c).off=true from h1)]
   refine Gc ?_
   iterate 3 refine Gs ?_
   refine Gc ?_
   refine aq (.inl rfl) (bq rfl (cf rfl) (al rfl)) (fun w1 hw=> ?_)
   exact⟨x8,by rw[hE],by rw[pT,kG,if_neg (by rw[hE];decide)],nr x8 (ah.mem hw)⟩
  ·
   replace h1:=bz h1
   have hE:nq (cv c) b=0:=by rw[nq,if_pos hk,if_neg (by rw[show(cv c).off=false from h1];simp)]
   refine Gc ?_
   iterate 3 refine Gs ?_
   refine ag (bk rfl rfl b.toNat (by omega) mQ) ?_
   refine ag (aI rfl rfl) ?_
   refine kX (s:=x8.blocks.sv) (n:=1) (k:=b.toNat) (j:=3) (a:=B) (a':=(⟨B.pages,B.used,B.aT,true⟩:Bk)) (xs:=x8.blocks.xs) (enc:=bN) (c:=4) (v:= .bool true) (by kernel_rfl) rfl rfl rfl hB (by simp[Value.cells,Value.oneCell']) (by rfl) (by decide) (by rfl) ?_
   refine Gc ?_
   iterate 3 refine Gs ?_
   refine Gc ?_
   refine aq (.inl rfl) (bq rfl (cf rfl) (al rfl)) (fun w1 hw=> ?_)
   exact⟨(⟨x8.pages,x8.size,⟨x8.blocks.sv,x8.blocks.xs.set b.toNat (⟨B.pages,B.used,B.aT,true⟩:Bk)⟩,x8.ops,x8.off,x8.aQ⟩:Cp),by rw[hE];rfl,by rw[TC pT eN,kG,if_pos hE],nr (⟨x8.pages,x8.size,⟨x8.blocks.sv,x8.blocks.xs.set b.toNat (⟨B.pages,B.used,B.aT,true⟩:Bk)⟩,x8.ops,x8.off,x8.aQ⟩:Cp) (by
    simp only[TB hB (B':=(⟨B.pages,B.used,B.aT,true⟩:Bk)) rfl]
    exact ah.mem hw)⟩
instance ahv{w0:World}{L:List ai}{c:Cp}{b:Int}[hc:aW w0 L c]:cn Tryz.prog 162 w0 L [.agg (aD c), .int .i64 b] (Cp) (fun zz=> .tuple #[.agg (aD zz), .int .i64 (nq (cv c) b)]) (fun zz=>fz zz::L) (fun zz=>cv zz=kG (cv c) b) (dW c):=⟨fun hp w hw=>(VM w c b (hc.h w hw) hp).mono fun e w' ⟨x,h1,h2,h3⟩=>⟨x,h1,h2,hw.call h3⟩⟩
theorem VN(w:World)(c:Cp)(fs:Sv)(mR:List Ft)(hc:Deep.bb (hp w) c)(GR:bQ dn 4 (hp w) fs mR)(bc:dW c):Calls Tryz.prog 32 #[.agg (aD c),fs.val] w fun e w'=> ∃zz:Cp,e= .returned (.tuple #[.agg (aD zz), .int .i64 (sF (cv c) mR)])∧(cv zz=w9 (cv c) mR)∧Mem w [fz zz] w':=by
 have ke:cm w c:=⟨hc⟩
 have ahw:Gv w fs dn 4 mR:=⟨GR⟩
 have lH:dW c:=bc
 obtain⟨kP,je,og⟩:=bc
 refine ba (args:=[_,_]) Tryz.func32 rfl Tryz.ntmps32 rfl ?_
 change Cw _ _ _ _ _ [(0, .agg (aD c)),(1,fs.val)] []
 refine Gc ?_
 refine bY rfl fun b2=> ?_
 refine bH fun b4=> ?_
 refine Gs ?_
 refine Gc ?_
 refine Gs ?_
 refine bo rfl (by assumption) fun x8 pT=> ?_
 refine bH fun b6=> ?_
 refine Gs ?_
 refine Gc ?_
 iterate 4 refine Gs ?_
 iterate 3 refine Gg ?_
 refine Gs ?_
 refine Gc ?_
 refine au rfl (fun h0=> ?_) (fun h0=> ?_)
 ·
  replace h0:=bz h0
  have hE:sF (cv c) mR=1:=by rw[sF,if_neg (fun h=>by rw[h.1]at h0;simp only[Bool.true_eq_false,false_or]at h0;omega)]
  refine Gc ?_
  iterate 3 refine Gs ?_
  refine Gc ?_
  refine aq (.inl rfl) (bq rfl (cf rfl) (al rfl)) (fun w1 hw=> ?_)
  exact⟨x8,by rw[hE],by rw[pT,w9,if_neg (by rw[hE];decide)],nr x8 (ah.mem hw)⟩
 ·
  replace h0:=bz h0
  have hE:sF (cv c) mR=0:=by
   rw[sF,if_pos]
   cases hk:aV (cv c)with
   |false=>rw[hk]at h0;simp at h0
   |true=>exact⟨rfl,by rw[hk]at h0;simp only[Bool.true_eq_false,not_false_eq_true,true_and]at h0;omega⟩
  have eA:mR.length≤64:=by
   by_cases h9:aV (cv c)=true∧mR.length≤64
   ·
    exact h9.2
   ·
    rw[sF,if_neg h9]at hE;cases hE
  refine Gc ?_
  refine Gs ?_
  refine eV (cs':=aD (⟨x8.pages,x8.size,x8.blocks,x8.ops,false,x8.aQ⟩:Cp)) rfl rfl (by show 4<6;decide) (by first|rfl|exact Sv.one _) rfl ?_
  refine Gc ?_
  refine Gs ?_
  refine bo rfl (by omega) fun gY vK=> ?_
  refine Gs ?_
  refine eV (cs':=aD (⟨x8.pages,x8.size,x8.blocks,x8.ops,false,⟨gY,mR⟩⟩:Cp)) rfl rfl (by show 5<6;decide) (by first|rfl|exact Sv.one _) rfl ?_
  refine Gc ?_
  iterate 3 refine Gs ?_
  refine Gc ?_
  refine aq (.inl rfl) (bq rfl (cf rfl) (al rfl)) (fun w1 hw=> ?_)
  exact⟨(⟨x8.pages,x8.size,x8.blocks,x8.ops,false,⟨gY,mR⟩⟩:Cp),by rw[hE],by rw[w9,if_pos hE,←pT];rfl,nr (⟨x8.pages,x8.size,x8.blocks,x8.ops,false,⟨gY,mR⟩⟩:Cp) (ah.mem hw)⟩
instance ahx{w0:World}{L:List ai}{c:Cp}{fs:Sv}{mR:List Ft}[hc:aW w0 L c][GR:df w0 L dn 4 fs mR]:cn Tryz.prog 32 w0 L [.agg (aD c),fs.val] (Cp) (fun zz=> .tuple #[.agg (aD zz), .int .i64 (sF (cv c) mR)]) (fun zz=>fz zz::L) (fun zz=>cv zz=w9 (cv c) mR) (dW c):=⟨fun hp w hw=>(VN w c fs mR (hc.h w hw) (GR.h w hw) hp).mono fun e w' ⟨x,h1,h2,h3⟩=>⟨x,h1,h2,hw.call h3⟩⟩
end Go.Proofs.YtaipiecplldinaaGreat
